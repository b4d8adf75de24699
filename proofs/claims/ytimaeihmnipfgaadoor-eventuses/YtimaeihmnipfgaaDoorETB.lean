/- What the walks of the seat et lean on. No condition: closed facts, by program. -/
import Derived.Test.YtimaeihmnipfgaaDoorLM
import Derived.Test.YtimaeihmnipfgaaDoorETP
import Derived.Test.YtimaeihmnipfgaaDoorProg
import Derived.KernelRfl
import Derived.Laws.StructEq
import Derived.Test.YtimaeihmnipfgaaDoorTrydSI
namespace Go.LM.ET
open Go Go.LL Go.MD Go.LM Go.Proofs Go.MD.ET

theorem wide : Tryd.prog.follows .mixedOrders = true := by kernel_rfl
theorem info3 : (Tryd.prog.info? 3).map (fun i => (i.zero, i.size, i.bytes)) = some (some (.int .i64 0), 1, 8) := by kernel_rfl
theorem info4 : (Tryd.prog.info? 4).map (fun i => (i.zero, i.size, i.bytes)) = some (some (.bool false), 1, 1) := by kernel_rfl
theorem info23 : (Tryd.prog.info? 23).map (fun i => (i.zero, i.size, i.bytes)) = some (some (.agg #[.int .i64 0, .int .i64 0, .int .i64 0, .int .i64 0, .int .i64 0]), 5, 40) := by kernel_rfl
theorem info25 : (Tryd.prog.info? 25).map (fun i => (i.zero, i.size, i.bytes)) = some (some (.slice none 0 0), 1, 24) := by kernel_rfl
theorem info27 : (Tryd.prog.info? 27).map (fun i => (i.zero, i.size, i.bytes)) = some (some (.agg #[.int .i64 0, .int .i64 0, .bool false]), 3, 24) := by kernel_rfl
theorem fa23_0 (ad : Addr) (w : World) : (Instr.fieldAt 23 (.pointer (some ad)) 0).run Tryd.prog w = .ok (.pointer (some (ad.add 0))) w := by kernel_rfl
theorem fa23_1 (ad : Addr) (w : World) : (Instr.fieldAt 23 (.pointer (some ad)) 1).run Tryd.prog w = .ok (.pointer (some (ad.add 1))) w := by kernel_rfl
theorem fa23_2 (ad : Addr) (w : World) : (Instr.fieldAt 23 (.pointer (some ad)) 2).run Tryd.prog w = .ok (.pointer (some (ad.add 2))) w := by kernel_rfl
theorem fa23_3 (ad : Addr) (w : World) : (Instr.fieldAt 23 (.pointer (some ad)) 3).run Tryd.prog w = .ok (.pointer (some (ad.add 3))) w := by kernel_rfl
theorem fa23_4 (ad : Addr) (w : World) : (Instr.fieldAt 23 (.pointer (some ad)) 4).run Tryd.prog w = .ok (.pointer (some (ad.add 4))) w := by kernel_rfl
theorem fa27_0 (ad : Addr) (w : World) : (Instr.fieldAt 27 (.pointer (some ad)) 0).run Tryd.prog w = .ok (.pointer (some (ad.add 0))) w := by kernel_rfl
theorem fa27_1 (ad : Addr) (w : World) : (Instr.fieldAt 27 (.pointer (some ad)) 1).run Tryd.prog w = .ok (.pointer (some (ad.add 1))) w := by kernel_rfl
theorem fa27_2 (ad : Addr) (w : World) : (Instr.fieldAt 27 (.pointer (some ad)) 2).run Tryd.prog w = .ok (.pointer (some (ad.add 2))) w := by kernel_rfl
theorem fa59_0 (ad : Addr) (w : World) : (Instr.fieldAt 59 (.pointer (some ad)) 0).run Tryd.prog w = .ok (.pointer (some (ad.add 0))) w := by kernel_rfl
theorem fa59_1 (ad : Addr) (w : World) : (Instr.fieldAt 59 (.pointer (some ad)) 1).run Tryd.prog w = .ok (.pointer (some (ad.add 1))) w := by kernel_rfl
theorem fa59_2 (ad : Addr) (w : World) : (Instr.fieldAt 59 (.pointer (some ad)) 2).run Tryd.prog w = .ok (.pointer (some (ad.add 2))) w := by kernel_rfl
theorem fa59_3 (ad : Addr) (w : World) : (Instr.fieldAt 59 (.pointer (some ad)) 3).run Tryd.prog w = .ok (.pointer (some (ad.add 3))) w := by kernel_rfl
theorem fa64_0 (ad : Addr) (w : World) : (Instr.fieldAt 64 (.pointer (some ad)) 0).run Tryd.prog w = .ok (.pointer (some (ad.add 0))) w := by kernel_rfl
theorem fa64_1 (ad : Addr) (w : World) : (Instr.fieldAt 64 (.pointer (some ad)) 1).run Tryd.prog w = .ok (.pointer (some (ad.add 1))) w := by kernel_rfl
theorem key3 : KeyOk Tryd.prog 3 kI := keyInt Tryd.runUnderlying3

instance : Enc api_Event := Enc.via (β := Int × Int × Int × Int × Int) 5 rfl fun x => (x.Kind, x.T, x.A, x.N, x.M)
theorem api_Event_open {h : PH} {cs : List Value} {x : api_Event} (hx : Enc.rep h cs x) : cs = [.int .i64 x.Kind, .int .i64 x.T, .int .i64 x.A, .int .i64 x.N, .int .i64 x.M] := by
  have hx : Enc.rep (α := Int × Int × Int × Int × Int) h cs (x.Kind, x.T, x.A, x.N, x.M) := hx
  obtain ⟨q0, r0, e0, g0, hx⟩ := hx
  obtain ⟨q1, r1, e1, g1, hx⟩ := hx
  obtain ⟨q2, r2, e2, g2, hx⟩ := hx
  obtain ⟨q3, r3, e3, g3, hx⟩ := hx
  have w0 := g0
  have w1 := g1
  have w2 := g2
  have w3 := g3
  have w4 := hx
  exact (by rw [e0, w0, e1, w1, e2, w2, e3, w3, w4]; rfl)
instance : EncF api_Event := { ind := fun h => EncF.ind (α := Int × Int × Int × Int × Int) h }
instance : Enc api_Use := Enc.via (β := Int × Int × Bool) 3 rfl fun x => (x.What, x.N, x.Write)
theorem api_Use_open {h : PH} {cs : List Value} {x : api_Use} (hx : Enc.rep h cs x) : cs = [.int .i64 x.What, .int .i64 x.N, .bool x.Write] := by
  have hx : Enc.rep (α := Int × Int × Bool) h cs (x.What, x.N, x.Write) := hx
  obtain ⟨q0, r0, e0, g0, hx⟩ := hx
  obtain ⟨q1, r1, e1, g1, hx⟩ := hx
  have w0 := g0
  have w1 := g1
  have w2 := hx
  exact (by rw [e0, w0, e1, w1, w2]; rfl)
instance : EncF api_Use := { ind := fun h => EncF.ind (α := Int × Int × Bool) h }
instance : Enc event_kind := Enc.via (β := Str × Bool × Bool × Bool) 4 rfl fun x => (x.name, x.a, x.n, x.m)
theorem event_kind_open {h : PH} {cs : List Value} {x : event_kind} (hx : Enc.rep h cs x) : cs = [strv x.name, .bool x.a, .bool x.n, .bool x.m] := by
  have hx : Enc.rep (α := Str × Bool × Bool × Bool) h cs (x.name, x.a, x.n, x.m) := hx
  obtain ⟨q0, r0, e0, g0, hx⟩ := hx
  obtain ⟨q1, r1, e1, g1, hx⟩ := hx
  obtain ⟨q2, r2, e2, g2, hx⟩ := hx
  have w0 := g0
  have w1 := g1
  have w2 := g2
  have w3 := hx
  exact (by rw [e0, w0, e1, w1, e2, w2, w3]; rfl)
instance : EncF event_kind := { ind := fun h => EncF.ind (α := Str × Bool × Bool × Bool) h }
instance : Enc S_is_n := Enc.via (β := Bool × Int) 2 rfl fun x => (x.is', x.n)
theorem S_is_n_open {h : PH} {cs : List Value} {x : S_is_n} (hx : Enc.rep h cs x) : cs = [.bool x.is', .int .i64 x.n] := by
  have hx : Enc.rep (α := Bool × Int) h cs (x.is', x.n) := hx
  obtain ⟨q0, r0, e0, g0, hx⟩ := hx
  have w0 := g0
  have w1 := hx
  exact (by rw [e0, w0, w1]; rfl)
instance : EncF S_is_n := { ind := fun h => EncF.ind (α := Bool × Int) h }
theorem api_Event_run (x y : api_Event) (w : World) : (Op.equalIn 10000 23 (.agg #[.int .i64 x.Kind, .int .i64 x.T, .int .i64 x.A, .int .i64 x.N, .int .i64 x.M]) (.agg #[.int .i64 y.Kind, .int .i64 y.T, .int .i64 y.A, .int .i64 y.N, .int .i64 y.M])).run Tryd.prog w = .ok (decide (x = y)) w := by
  rw [show (10000 : Nat) = 9998 + 1 + 1 from rfl, run_equalIn_struct w _ 23 _ _ (by rw [Program.fieldsOf, Tryd.underlying23]) Tryd.stoodInHeld23]
  rw [Program.fieldsOf, Tryd.underlying23]
  obtain ⟨x0, x1, x2, x3, x4⟩ := x
  obtain ⟨y0, y1, y2, y3, y4⟩ := y
  simp [Op.eqFields, part, Tryd.isAgg3, run_equalIn_int w 9998 3 _ _ _ _ Tryd.underlying3, strv_list]
  repeat (first | rfl | (split <;> simp_all))
theorem api_Event_eql {N : Nat} {F : List (Nat × Value)} {a : Act} {w : World} {d : Option Tmp} {ty u : TypeId} {pos : String} {af : Array Edge} {g : Option (Nat × Bool)} {p q : Operand} {x y : api_Event} (hF : Fr N F a) (hx : opv F p = some (.agg #[.int .i64 x.Kind, .int .i64 x.T, .int .i64 x.A, .int .i64 x.N, .int .i64 x.M])) (hy : opv F q = some (.agg #[.int .i64 y.Kind, .int .i64 y.T, .int .i64 y.A, .int .i64 y.N, .int .i64 y.M])) :
    (execOp a.eval ⟨d, .binOp .eql 23 p q u, ty, pos, af, g⟩).run Tryd.prog w = .ok (.value (.bool (decide (x = y)))) w := by
  simp only [execOp, hF.ev hx, hF.ev hy, Sem.run_bind, run_eqGuard_agg w _ 23 _ _ _ _ Tryd.eqGuardType23, Result.andThen_ok, run_eql_struct, api_Event_run, Sem.run_pure]
theorem api_Event_neq {N : Nat} {F : List (Nat × Value)} {a : Act} {w : World} {d : Option Tmp} {ty u : TypeId} {pos : String} {af : Array Edge} {g : Option (Nat × Bool)} {p q : Operand} {x y : api_Event} (hF : Fr N F a) (hx : opv F p = some (.agg #[.int .i64 x.Kind, .int .i64 x.T, .int .i64 x.A, .int .i64 x.N, .int .i64 x.M])) (hy : opv F q = some (.agg #[.int .i64 y.Kind, .int .i64 y.T, .int .i64 y.A, .int .i64 y.N, .int .i64 y.M])) :
    (execOp a.eval ⟨d, .binOp .neq 23 p q u, ty, pos, af, g⟩).run Tryd.prog w = .ok (.value (.bool (decide (x ≠ y)))) w := by
  simp only [execOp, hF.ev hx, hF.ev hy, Sem.run_bind, run_eqGuard_agg w _ 23 _ _ _ _ Tryd.eqGuardType23, Result.andThen_ok, run_neq_struct, api_Event_run, Sem.run_pure, ne_eq, decide_not]
theorem api_Use_run (x y : api_Use) (w : World) : (Op.equalIn 10000 27 (.agg #[.int .i64 x.What, .int .i64 x.N, .bool x.Write]) (.agg #[.int .i64 y.What, .int .i64 y.N, .bool y.Write])).run Tryd.prog w = .ok (decide (x = y)) w := by
  rw [show (10000 : Nat) = 9998 + 1 + 1 from rfl, run_equalIn_struct w _ 27 _ _ (by rw [Program.fieldsOf, Tryd.underlying27]) Tryd.stoodInHeld27]
  rw [Program.fieldsOf, Tryd.underlying27]
  obtain ⟨x0, x1, x2⟩ := x
  obtain ⟨y0, y1, y2⟩ := y
  simp [Op.eqFields, part, Tryd.isAgg3, Tryd.isAgg4, run_equalIn_int w 9998 3 _ _ _ _ Tryd.underlying3, run_equalIn_bool' w 9998 4 _ _ Tryd.underlying4, strv_list]
  repeat (first | rfl | (split <;> simp_all))
theorem api_Use_eql {N : Nat} {F : List (Nat × Value)} {a : Act} {w : World} {d : Option Tmp} {ty u : TypeId} {pos : String} {af : Array Edge} {g : Option (Nat × Bool)} {p q : Operand} {x y : api_Use} (hF : Fr N F a) (hx : opv F p = some (.agg #[.int .i64 x.What, .int .i64 x.N, .bool x.Write])) (hy : opv F q = some (.agg #[.int .i64 y.What, .int .i64 y.N, .bool y.Write])) :
    (execOp a.eval ⟨d, .binOp .eql 27 p q u, ty, pos, af, g⟩).run Tryd.prog w = .ok (.value (.bool (decide (x = y)))) w := by
  simp only [execOp, hF.ev hx, hF.ev hy, Sem.run_bind, run_eqGuard_agg w _ 27 _ _ _ _ Tryd.eqGuardType27, Result.andThen_ok, run_eql_struct, api_Use_run, Sem.run_pure]
theorem api_Use_neq {N : Nat} {F : List (Nat × Value)} {a : Act} {w : World} {d : Option Tmp} {ty u : TypeId} {pos : String} {af : Array Edge} {g : Option (Nat × Bool)} {p q : Operand} {x y : api_Use} (hF : Fr N F a) (hx : opv F p = some (.agg #[.int .i64 x.What, .int .i64 x.N, .bool x.Write])) (hy : opv F q = some (.agg #[.int .i64 y.What, .int .i64 y.N, .bool y.Write])) :
    (execOp a.eval ⟨d, .binOp .neq 27 p q u, ty, pos, af, g⟩).run Tryd.prog w = .ok (.value (.bool (decide (x ≠ y)))) w := by
  simp only [execOp, hF.ev hx, hF.ev hy, Sem.run_bind, run_eqGuard_agg w _ 27 _ _ _ _ Tryd.eqGuardType27, Result.andThen_ok, run_neq_struct, api_Use_run, Sem.run_pure, ne_eq, decide_not]
/-- the table that strconv reads -/
def Tab (H : PH) : Prop := ∀ w : World, H.le w → Lib.TabIs Tryd.prog w "internal/strconv.uint64pow10" .u64 Lib.pow10Tab
theorem Tab.mono {H H' : PH} (h : Tab H) (hs : ∀ b o, H b = some o → H' b = some o) : Tab H' := fun w hl => h w (fun b o hb => hl b o (hs b o hb))
theorem Keep.grew (w : World) (k : Nat) (os : Array Obj) : Keep Nil w (Go.Sort.grow (w.drewN k) os) := by
  have hh : (w.drewN k).heap = w.heap := rfl
  refine ⟨rfl, rfl, rfl, by simp [Go.Sort.grow, hh], fun b hb _ => ?_, fun a ha => ?_⟩
  · show ((w.drewN k).heap ++ os)[b]? = _
    rw [hh, Array.getElem?_append_left hb]
  · unfold World.frozen?
    have : (Go.Sort.grow (w.drewN k) os).heap[a.block]? = w.heap[a.block]? := by
      show ((w.drewN k).heap ++ os)[a.block]? = _
      rw [hh, Array.getElem?_append_left ha]
    rw [this]
theorem itoaM_c {w0 : World} {H : PH} (hH : H.le w0) (hT : Tab H) {n : Int} {r : Str} (hm : itoaM n = some r) : Tot Tryd.prog 60 #[.int .i64 n] w0 (fun v w' => v = strv r ∧ Keep Nil w0 w') := by
  unfold itoaM at hm
  split at hm
  · rename_i h
    cases hm
    refine Calls.mono (Tryd.strconv_Itoa n h.1 h.2 w0 (hT w0 hH)) ?_
    rintro e w' ⟨rfl, k, os, rfl⟩
    exact ⟨_, rfl, rfl, Keep.grew w0 k os⟩
  · cases hm

end Go.LM.ET
