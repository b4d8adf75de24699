/- What came in at the seat et, and its tables. No condition: plain lemmas. -/
import Derived.Test.YtimaeihmnipfgaaDoorLO
import Derived.Test.YtimaeihmnipfgaaDoorETB
import Derived.Test.YtimaeihmnipfgaaDoorPG
import Derived.Test.YtimaeihmnipfgaaDoorRows
import Derived.LaidLaws
namespace Go.LM.ET
open Go Go.LL Go.MD Go.LM Go.MD.ET Go.Proofs Go.ChangeShapes Go.WideShapes Go.ChangeAt Go.RowKit Go.WideElems

theorem op_event : Op Tryd.prog 23 api_Event okE := fun {H enc W base sp held n cs y} h => by
  obtain ⟨xs, n, _, _, hl, hlen, hf⟩ := DataW.trod_struct Tryd.underlying23 h
  have c23 : Tryd.prog.cellsOf 23 = 5 := by kernel_rfl
  have c3 : Tryd.prog.cellsOf 3 = 1 := by kernel_rfl
  rw [c23] at hl
  have h5 : xs.length = 5 := hlen
  have h0 : DataW.trod enc Tryd.prog W base sp held n 3 ((cs.drop 0).take (Tryd.prog.cellsOf 3)) = xs[0]? := hf 0 _ rfl
  have h1 : DataW.trod enc Tryd.prog W base sp held n 3 ((cs.drop 1).take (Tryd.prog.cellsOf 3)) = xs[1]? := hf 1 _ rfl
  have h2 : DataW.trod enc Tryd.prog W base sp held n 3 ((cs.drop 2).take (Tryd.prog.cellsOf 3)) = xs[2]? := hf 2 _ rfl
  have h3 : DataW.trod enc Tryd.prog W base sp held n 3 ((cs.drop 3).take (Tryd.prog.cellsOf 3)) = xs[3]? := hf 3 _ rfl
  have h4 : DataW.trod enc Tryd.prog W base sp held n 3 ((cs.drop 4).take (Tryd.prog.cellsOf 3)) = xs[4]? := hf 4 _ rfl
  rw [c3, List.getElem?_eq_getElem (by omega)] at h0 h1 h2 h3 h4
  obtain ⟨x0, r0, o0⟩ := op_int Tryd.underlying3 h0
  obtain ⟨x1, r1, o1⟩ := op_int Tryd.underlying3 h1
  obtain ⟨x2, r2, o2⟩ := op_int Tryd.underlying3 h2
  obtain ⟨x3, r3, o3⟩ := op_int Tryd.underlying3 h3
  obtain ⟨x4, r4, o4⟩ := op_int Tryd.underlying3 h4
  refine ⟨⟨x0, x1, x2, x3, x4⟩, ?_, ⟨o0, o1, o2, o3, o4⟩⟩
  show Enc.rep (α := Int × Int × Int × Int × Int) (hp W) cs (x0, x1, x2, x3, x4)
  rw [lastF (by rw [hl])] at r4
  exact ⟨_, _, (dropF (cs := cs) (o := 0) (s := 1) rfl), r0, _, _, dropF rfl, r1, _, _, dropF rfl, r2, _, _, dropF rfl, r3, r4⟩
theorem two_events {h : PH} {cs : List Value} {x : Arr 2 api_Event} (hr : Enc.rep h cs x) (hx : ∀ y ∈ x.l, okE y) : ∃ y1 y2 : api_Event, (okE y1 ∧ okE y2) ∧ cs = [.int .i64 y1.Kind, .int .i64 y1.T, .int .i64 y1.A, .int .i64 y1.N, .int .i64 y1.M, .int .i64 y2.Kind, .int .i64 y2.T, .int .i64 y2.A, .int .i64 y2.N, .int .i64 y2.M] := by
  obtain ⟨l, hl⟩ := x
  have hr : Rows h cs l := hr
  match l, hl with
  | [y1, y2], _ =>
    refine ⟨y1, y2, ⟨hx y1 (by simp), hx y2 (by simp)⟩, ?_⟩
    cases hr with
    | cons h1 hr =>
      cases hr with
      | cons h2 hr =>
        cases hr
        rw [api_Event_open h1, api_Event_open h2]
        rfl
theorem two_ints {h : PH} {cs : List Value} {x : Arr 2 Int} (hr : Enc.rep h cs x) : ∃ y1 y2 : Int, cs = [.int .i64 y1, .int .i64 y2] := by
  obtain ⟨l, hl⟩ := x
  have hr : Rows h cs l := hr
  match l, hl with
  | [y1, y2], _ =>
    refine ⟨y1, y2, ?_⟩
    cases hr with
    | cons h1 hr =>
      cases hr with
      | cons h2 hr =>
        cases hr
        rw [show _ = _ from h1, show _ = _ from h2]
        rfl
theorem own : ownKnob Tryd.prog.godebug = none := by kernel_rfl
theorem laid : laidOutB Tryd.prog = true := by kernel_rfl

def laidL : List (String × DataW Unit) := [("math/bits.deBruijn32tab", Go.Proofs.YtimaeihmnipfgaaDoor.Rows.laid_math_bits_deBruijn32tab), ("math/bits.deBruijn64tab", Go.Proofs.YtimaeihmnipfgaaDoor.Rows.laid_math_bits_deBruijn64tab), ("internal/strconv.uint64pow10", Go.Proofs.YtimaeihmnipfgaaDoor.Rows.laid_internal_strconv_uint64pow10)]
theorem tabData_eq : (Go.Proofs.YtimaeihmnipfgaaDoor.Rows.laid_internal_strconv_uint64pow10 : DataW Unit) = Lib.tabData .u64 Lib.pow10Tab := by rfl
theorem globP : Tryd.prog.globalNamed "internal/strconv.uint64pow10" = some 0 := by kernel_rfl
theorem tab_of_laid {W : World} (h : laidMet Tryd.prog laidL W) : Tab (hp W) := by
  have h1 := h.tail.tail
  rw [tabData_eq] at h1
  have h2 := Lib.tabIs_of_head (g := 0) (t := 95) (e := 88) (n := 20) globP (by kernel_rfl) (by kernel_rfl) (by kernel_rfl) (by kernel_rfl) (by kernel_rfl) h1
  intro w hle
  unfold Lib.TabIs World.var? at h2 ⊢
  rw [globP] at h2 ⊢
  simp only [Option.bind_some] at h2 ⊢
  split at h2
  · rename_i cs t fr hc
    rw [show w.heap[0]? = some (.cells cs t fr) from hle 0 _ hc]
    exact h2
  · cases h2

def cellsOfLit : DataW Unit → List Value
  | .agg ds => ds.map fun | .lit (.int k z) => .int k z | _ => .bool false
  | _ => []
noncomputable def laidWorld (os : Os) : World :=
  let w0 := World.holding Tryd.prog os ⟨#[], #[], []⟩
  { w0 with heap := ((w0.heap.modify 0 fun
      | .cells _ t frozen => .cells (cellsOfLit Go.Proofs.YtimaeihmnipfgaaDoor.Rows.laid_internal_strconv_uint64pow10).toArray t frozen
      | o => o).modify 1 fun
      | .cells _ t frozen => .cells (cellsOfLit Go.Proofs.YtimaeihmnipfgaaDoor.Rows.laid_math_bits_deBruijn32tab).toArray t frozen
      | o => o).modify 2 fun
      | .cells _ t frozen => .cells (cellsOfLit Go.Proofs.YtimaeihmnipfgaaDoor.Rows.laid_math_bits_deBruijn64tab).toArray t frozen
      | o => o }
theorem laid_met (os : Os) (args : Array Value) : laidMet Tryd.prog laidL ((laidWorld os).forCall (fun _ _ => 0) ⟨#[], args, []⟩).memory :=
  laidMet_of_run' 8 (by kernel_rfl) (by kernel_rfl)
end Go.LM.ET
