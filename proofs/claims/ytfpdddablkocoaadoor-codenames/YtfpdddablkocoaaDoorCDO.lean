/- What came in at the seat code, and what its library reads. No condition: plain lemmas. -/
import Derived.Test.YtfpdddablkocoaaDoorLO
import Derived.Test.YtfpdddablkocoaaDoorLW
import Derived.Test.YtfpdddablkocoaaDoorCDB
import Derived.Test.YtfpdddablkocoaaDoorRows
import Derived.LaidLaws
import Derived.Shelf.Vars
namespace Go.LM.CODE
open Go Go.LL Go.MD Go.LM Go.MD.CODE Go.Proofs Go.ChangeShapes Go.WideShapes Go.ChangeAt Go.RowKit Go.WideElems

theorem op_op : Op Tryd.prog 46 api_Op (fun _ => True) := fun {H enc W base sp held n cs y} h => by
  obtain ⟨xs, n, _, _, hl, hlen, hf⟩ := DataW.trod_struct Tryd.underlying46 h
  have cT : Tryd.prog.cellsOf 46 = 2 := by kernel_rfl
  have c3 : Tryd.prog.cellsOf 3 = 1 := by kernel_rfl
  rw [cT] at hl
  have h5 : xs.length = 2 := hlen
  have h_0 : DataW.trod enc Tryd.prog W base sp held n 3 ((cs.drop 0).take (Tryd.prog.cellsOf 3)) = xs[0]? := hf 0 _ rfl
  have h_1 : DataW.trod enc Tryd.prog W base sp held n 3 ((cs.drop 1).take (Tryd.prog.cellsOf 3)) = xs[1]? := hf 1 _ rfl
  rw [c3, List.getElem?_eq_getElem (by omega)] at h_0
  obtain ⟨x0, r0, o0⟩ := op_int Tryd.underlying3 h_0
  rw [c3, List.getElem?_eq_getElem (by omega)] at h_1
  obtain ⟨x1, r1, o1⟩ := op_int Tryd.underlying3 h_1
  refine ⟨⟨x0, x1⟩, ?_, trivial⟩
  show Enc.rep (α := Int × Int) (hp W) cs (x0, x1)
  rw [lastF (by rw [hl])] at r1
  exact ⟨_, _, (dropF (cs := cs) (o := 0) (s := 1) rfl), r0, r1⟩
theorem op_node : Op Tryd.prog 39 api_Node (fun _ => True) := fun {H enc W base sp held n cs y} h => by
  obtain ⟨xs, n, _, _, hl, hlen, hf⟩ := DataW.trod_struct Tryd.underlying39 h
  have cT : Tryd.prog.cellsOf 39 = 4 := by kernel_rfl
  have c3 : Tryd.prog.cellsOf 3 = 1 := by kernel_rfl
  have c9 : Tryd.prog.cellsOf 9 = 1 := by kernel_rfl
  rw [cT] at hl
  have h5 : xs.length = 4 := hlen
  have h_0 : DataW.trod enc Tryd.prog W base sp held n 3 ((cs.drop 0).take (Tryd.prog.cellsOf 3)) = xs[0]? := hf 0 _ rfl
  have h_1 : DataW.trod enc Tryd.prog W base sp held n 3 ((cs.drop 1).take (Tryd.prog.cellsOf 3)) = xs[1]? := hf 1 _ rfl
  have h_2 : DataW.trod enc Tryd.prog W base sp held n 9 ((cs.drop 2).take (Tryd.prog.cellsOf 9)) = xs[2]? := hf 2 _ rfl
  have h_3 : DataW.trod enc Tryd.prog W base sp held n 3 ((cs.drop 3).take (Tryd.prog.cellsOf 3)) = xs[3]? := hf 3 _ rfl
  rw [c3, List.getElem?_eq_getElem (by omega)] at h_0
  obtain ⟨x0, r0, o0⟩ := op_int Tryd.underlying3 h_0
  rw [c3, List.getElem?_eq_getElem (by omega)] at h_1
  obtain ⟨x1, r1, o1⟩ := op_int Tryd.underlying3 h_1
  rw [c9, List.getElem?_eq_getElem (by omega)] at h_2
  obtain ⟨x2, r2, o2⟩ := op_str Tryd.underlying9 h_2
  rw [c3, List.getElem?_eq_getElem (by omega)] at h_3
  obtain ⟨x3, r3, o3⟩ := op_int Tryd.underlying3 h_3
  refine ⟨⟨x0, x1, x2, x3⟩, ?_, trivial⟩
  show Enc.rep (α := Int × Int × List UInt8 × Int) (hp W) cs (x0, x1, x2, x3)
  rw [lastF (by rw [hl])] at r3
  exact ⟨_, _, (dropF (cs := cs) (o := 0) (s := 1) rfl), r0, _, _, (dropF (cs := cs) (o := 1) (s := 1) rfl), r1, _, _, (dropF (cs := cs) (o := 2) (s := 1) rfl), r2, r3⟩
theorem three_ints {h : PH} {cs : List Value} {x : Arr 3 Int} (hr : Enc.rep h cs x) (hx : ∀ y ∈ x.l, InR y) : ∃ y1 y2 y3 : Int, (InR y1 ∧ InR y2 ∧ InR y3) ∧ cs = [.int .i64 y1, .int .i64 y2, .int .i64 y3] := by
  obtain ⟨l, hl⟩ := x
  have hr : Rows h cs l := hr
  match l, hl with
  | [y1, y2, y3], _ =>
    refine ⟨y1, y2, y3, ⟨hx y1 (by simp), hx y2 (by simp), hx y3 (by simp)⟩, ?_⟩
    cases hr with
    | cons h1 hr =>
      cases hr with
      | cons h2 hr =>
        cases hr with
        | cons h3 hr =>
          cases hr
          rw [show _ = _ from h1, show _ = _ from h2, show _ = _ from h3]
          rfl
theorem own : ownKnob Tryd.prog.godebug = none := by kernel_rfl
theorem laid : laidOutB Tryd.prog = true := by kernel_rfl
def laidL : List (String × DataW Unit) := [("unicode/utf8.acceptRanges", Go.Proofs.YtfpdddablkocoaaDoor.Rows.laid_unicode_utf8_acceptRanges), ("unicode/utf8.first", Go.Proofs.YtfpdddablkocoaaDoor.Rows.laid_unicode_utf8_first)]
theorem tab_of_shape {W : World} (h : W.ShapedOpen Tryd.prog) : Tab (hp W) := by
  obtain ⟨m, hm⟩ := cell_of_shapedOpen_int (g := 0) (t := 3) (k := .i64) (zero := #[.int .i64 0]) h (Nat.le_of_ble_eq_true (by kernel_rfl)) (by kernel_rfl) rfl (by kernel_rfl) (by kernel_rfl) Tryd.underlying3
  intro w hle
  refine ⟨m, ?_⟩
  rw [← cell_hp] at hm
  exact hle.cell hm
def cells1 : DataW Unit → List Value
  | .agg ds => ds.map fun | .lit (.int k z) => .int k z | _ => .bool false
  | .lit (.int k z) => [.int k z]
  | _ => []
def cells2 : DataW Unit → List Value
  | .agg ds => ds.flatMap cells1
  | _ => []
noncomputable def laidWorld (os : Os) : World :=
  let w0 := World.holding Tryd.prog os ⟨#[], #[], []⟩
  { w0 with heap := ((w0.heap.modify 1 fun
      | .cells _ t frozen => .cells (cells1 Go.Proofs.YtfpdddablkocoaaDoor.Rows.laid_unicode_utf8_first).toArray t frozen
      | o => o).modify 2 fun
      | .cells _ t frozen => .cells (cells2 Go.Proofs.YtfpdddablkocoaaDoor.Rows.laid_unicode_utf8_acceptRanges).toArray t frozen
      | o => o) }
theorem laid_met (os : Os) (args : Array Value) : laidMet Tryd.prog laidL ((laidWorld os).forCall (fun _ _ => 0) ⟨#[], args, []⟩).memory :=
  laidMet_of_run' 8 (by kernel_rfl) (by kernel_rfl)
end Go.LM.CODE
