/- What the walks of the seat code lean on. No condition: closed facts, by program. -/
import Derived.Test.YtfpdddablkocoaaDoorLM
import Derived.Test.YtfpdddablkocoaaDoorCDP
import Derived.Test.YtfpdddablkocoaaDoorProg
import Derived.KernelRfl
import Derived.Laws.StructEq
import Derived.Test.YtfpdddablkocoaaDoorLP
import Derived.Test.YtfpdddablkocoaaDoorCDSS
namespace Go.LM.CODE
open Go Go.LL Go.MD Go.LM Go.Proofs Go.MD.CODE

theorem wide : Tryd.prog.follows .mixedOrders = true := by kernel_rfl
theorem info3 : (Tryd.prog.info? 3).map (fun i => (i.zero, i.size, i.bytes)) = some (some (.int .i64 0), 1, 8) := by kernel_rfl
theorem info9 : (Tryd.prog.info? 9).map (fun i => (i.zero, i.size, i.bytes)) = some (some (.string ⟨#[]⟩), 1, 16) := by kernel_rfl
theorem info39 : (Tryd.prog.info? 39).map (fun i => (i.zero, i.size, i.bytes)) = some (some (.agg #[.int .i64 0, .int .i64 0, .string ⟨#[]⟩, .int .i64 0]), 4, 40) := by kernel_rfl
theorem info46 : (Tryd.prog.info? 46).map (fun i => (i.zero, i.size, i.bytes)) = some (some (.agg #[.int .i64 0, .int .i64 0]), 2, 16) := by kernel_rfl
theorem fa39_0 (ad : Addr) (w : World) : (Instr.fieldAt 39 (.pointer (some ad)) 0).run Tryd.prog w = .ok (.pointer (some (ad.add 0))) w := by kernel_rfl
theorem fa39_1 (ad : Addr) (w : World) : (Instr.fieldAt 39 (.pointer (some ad)) 1).run Tryd.prog w = .ok (.pointer (some (ad.add 1))) w := by kernel_rfl
theorem fa39_2 (ad : Addr) (w : World) : (Instr.fieldAt 39 (.pointer (some ad)) 2).run Tryd.prog w = .ok (.pointer (some (ad.add 2))) w := by kernel_rfl
theorem fa39_3 (ad : Addr) (w : World) : (Instr.fieldAt 39 (.pointer (some ad)) 3).run Tryd.prog w = .ok (.pointer (some (ad.add 3))) w := by kernel_rfl
theorem fa46_0 (ad : Addr) (w : World) : (Instr.fieldAt 46 (.pointer (some ad)) 0).run Tryd.prog w = .ok (.pointer (some (ad.add 0))) w := by kernel_rfl
theorem fa46_1 (ad : Addr) (w : World) : (Instr.fieldAt 46 (.pointer (some ad)) 1).run Tryd.prog w = .ok (.pointer (some (ad.add 1))) w := by kernel_rfl
theorem fa59_0 (ad : Addr) (w : World) : (Instr.fieldAt 59 (.pointer (some ad)) 0).run Tryd.prog w = .ok (.pointer (some (ad.add 0))) w := by kernel_rfl
theorem fa61_0 (ad : Addr) (w : World) : (Instr.fieldAt 61 (.pointer (some ad)) 0).run Tryd.prog w = .ok (.pointer (some (ad.add 0))) w := by kernel_rfl
theorem fa61_1 (ad : Addr) (w : World) : (Instr.fieldAt 61 (.pointer (some ad)) 1).run Tryd.prog w = .ok (.pointer (some (ad.add 1))) w := by kernel_rfl
theorem key9 : KeyOk Tryd.prog 9 kS := keyStr Tryd.runUnderlying9

instance : Enc api_Node := Enc.via (β := Int × Int × Str × Int) 4 rfl fun x => (x.Op, x.N, x.Name, x.At)
theorem api_Node_open {h : PH} {cs : List Value} {x : api_Node} (hx : Enc.rep h cs x) : cs = [.int .i64 x.Op, .int .i64 x.N, strv x.Name, .int .i64 x.At] := by
  have hx : Enc.rep (α := Int × Int × Str × Int) h cs (x.Op, x.N, x.Name, x.At) := hx
  obtain ⟨q0, r0, e0, g0, hx⟩ := hx
  obtain ⟨q1, r1, e1, g1, hx⟩ := hx
  obtain ⟨q2, r2, e2, g2, hx⟩ := hx
  have w0 := g0
  have w1 := g1
  have w2 := g2
  have w3 := hx
  exact (by rw [e0, w0, e1, w1, e2, w2, w3]; rfl)
instance : EncF api_Node := { ind := fun h => EncF.ind (α := Int × Int × Str × Int) h }
instance : Enc api_Op := Enc.via (β := Int × Int) 2 rfl fun x => (x.Kind, x.N)
theorem api_Op_open {h : PH} {cs : List Value} {x : api_Op} (hx : Enc.rep h cs x) : cs = [.int .i64 x.Kind, .int .i64 x.N] := by
  have hx : Enc.rep (α := Int × Int) h cs (x.Kind, x.N) := hx
  obtain ⟨q0, r0, e0, g0, hx⟩ := hx
  have w0 := g0
  have w1 := hx
  exact (by rw [e0, w0, w1]; rfl)
instance : EncF api_Op := { ind := fun h => EncF.ind (α := Int × Int) h }
instance : Enc code_list := Enc.via (β := (List Int)) 1 rfl fun x => (x.l)
theorem code_list_open {h : PH} {cs : List Value} {x : code_list} (hx : Enc.rep h cs x) : ∃ (o0 : Option Addr) (c0 : Nat), cs = [.slice o0 x.l.length c0] ∧ x.l.length ≤ c0 ∧ SR h o0 x.l := by
  have hx : Enc.rep (α := (List Int)) h cs (x.l) := hx
  obtain ⟨o0, c0, w0, y0, z0⟩ := hx
  exact ⟨o0, c0, by rw [w0], y0, z0⟩
instance : Enc code_pile := Enc.via (β := code_list × Int) 2 rfl fun x => (x.list, x.high)
theorem api_Op_run (x y : api_Op) (w : World) : (Op.equalIn 10000 46 (.agg #[.int .i64 x.Kind, .int .i64 x.N]) (.agg #[.int .i64 y.Kind, .int .i64 y.N])).run Tryd.prog w = .ok (decide (x = y)) w := by
  rw [show (10000 : Nat) = 9998 + 1 + 1 from rfl, run_equalIn_struct w _ 46 _ _ (by rw [Program.fieldsOf, Tryd.underlying46]) Tryd.stoodInHeld46]
  rw [Program.fieldsOf, Tryd.underlying46]
  obtain ⟨x0, x1⟩ := x
  obtain ⟨y0, y1⟩ := y
  simp [Op.eqFields, part, Tryd.isAgg3, run_equalIn_int w 9998 3 _ _ _ _ Tryd.underlying3, strv_list]
  repeat (first | rfl | (split <;> simp_all))
theorem api_Op_eql {N : Nat} {F : List (Nat × Value)} {a : Act} {w : World} {d : Option Tmp} {ty u : TypeId} {pos : String} {af : Array Edge} {g : Option (Nat × Bool)} {p q : Operand} {x y : api_Op} (hF : Fr N F a) (hx : opv F p = some (.agg #[.int .i64 x.Kind, .int .i64 x.N])) (hy : opv F q = some (.agg #[.int .i64 y.Kind, .int .i64 y.N])) :
    (execOp a.eval ⟨d, .binOp .eql 46 p q u, ty, pos, af, g⟩).run Tryd.prog w = .ok (.value (.bool (decide (x = y)))) w := by
  simp only [execOp, hF.ev hx, hF.ev hy, Sem.run_bind, run_eqGuard_agg w _ 46 _ _ _ _ Tryd.eqGuardType46, Result.andThen_ok, run_eql_struct, api_Op_run, Sem.run_pure]
theorem api_Op_neq {N : Nat} {F : List (Nat × Value)} {a : Act} {w : World} {d : Option Tmp} {ty u : TypeId} {pos : String} {af : Array Edge} {g : Option (Nat × Bool)} {p q : Operand} {x y : api_Op} (hF : Fr N F a) (hx : opv F p = some (.agg #[.int .i64 x.Kind, .int .i64 x.N])) (hy : opv F q = some (.agg #[.int .i64 y.Kind, .int .i64 y.N])) :
    (execOp a.eval ⟨d, .binOp .neq 46 p q u, ty, pos, af, g⟩).run Tryd.prog w = .ok (.value (.bool (decide (x ≠ y)))) w := by
  simp only [execOp, hF.ev hx, hF.ev hy, Sem.run_bind, run_eqGuard_agg w _ 46 _ _ _ _ Tryd.eqGuardType46, Result.andThen_ok, run_neq_struct, api_Op_run, Sem.run_pure, ne_eq, decide_not]
/-- a number that the library reads -/
def Tab (H : PH) : Prop := ∀ w : World, H.le w → ∃ m : Int, w.cell? ⟨0, 0, none⟩ = some (.int .i64 m)
theorem Tab.mono {H H' : PH} (h : Tab H) (hs : ∀ b o, H b = some o → H' b = some o) : Tab H' := fun w hl => h w (fun b o hb => hl b o (hs b o hb))

theorem split_of {w0 : World} {f : FuncId} {s p : Str} {xs : List Str} {n : Nat} {vs : List Value} (hn : xs.length = n) (hm : Nat.ble n 1000000 = true) (hv : ∀ h : PH, Rows h vs xs)
    (h : Calls Tryd.prog f #[strv s, strv p] w0 fun e w' => e = .returned (.slice (some ⟨w0.heap.size, 0, none⟩) n n) ∧ w' = w0.alloc (.cells vs.toArray 9)) :
    Tot Tryd.prog f #[strv s, strv p] w0 (fun v w' => ∃ (oa0 : Option Addr) (cap0 : Nat) (vs0 : List Value), v = .slice oa0 xs.length cap0 ∧ (∀ h, Rows h vs0 xs) ∧ Fresh w0 (sla 9 1 oa0 xs.length cap0 vs0) w') := by
  refine Calls.mono h ?_
  rintro e w' ⟨rfl, rfl⟩
  subst hn
  have hl : vs.length = xs.length * 1 := by have := (hv (fun _ => none)).len; exact this
  refine ⟨_, rfl, _, _, vs, rfl, hv, .alloc _ _ _ (soft_cells _ _), ?_, ?_⟩
  · refine ⟨hl, .inr ⟨w0.heap.size, xs.length, vs.toArray, rfl, hp_alloc_new w0 _, Nat.le_refl _, ?_, by simpa using hl, ?_⟩⟩
    · have := Nat.le_of_ble_eq_true hm; unfold maxLen; omega
    · rw [List.take_of_length_le (by simp [hl])]
  · intro b hb
    simp [sl, slBlock] at hb
    omega
theorem splitM_c {w0 : World} {H : PH} (hH : H.le w0) (hT : Tab H) {s p : Str} {r : List Str} (hm : splitM s p = some r) : Tot Tryd.prog 90 #[strv s, strv p] w0 (fun v w' => ∃ (oa0 : Option Addr) (cap0 : Nat) (vs0 : List Value), v = .slice oa0 r.length cap0 ∧ (∀ h, Rows h vs0 r) ∧ Fresh w0 (sla 9 1 oa0 r.length cap0 vs0) w') := by
  obtain ⟨m, hmc⟩ := hT w0 hH
  unfold splitM at hm
  split at hm
  · rename_i h
    obtain ⟨rfl, rfl⟩ := h
    cases hm
    have hc := Tryd.strings_Split ⟨[108, 105, 110, 101, 32, 118, 111, 108, 32, 108, 111, 99, 107, 32, 116, 104, 114, 101, 97, 100, 32, 114, 101, 103, 32, 108, 111, 97, 100, 32, 115, 116, 111, 114, 101, 32, 99, 97, 115, 32, 102, 108, 117, 115, 104, 32, 111, 112, 116, 32, 115, 102, 101, 110, 99, 101, 32, 109, 102, 101, 110, 99, 101, 32, 116, 97, 107, 101, 32, 103, 105, 118, 101, 32, 105, 102, 32, 101, 108, 115, 101, 32, 108, 111, 111, 112, 32, 98, 114, 101, 97, 107, 32, 99, 104, 101, 99, 107, 32, 114, 101, 99, 111, 118, 101, 114, 32, 97, 108, 119, 97, 121, 115].toArray⟩ ⟨[32].toArray⟩ m w0 (by decide) hmc (by decide)
    rw [show Lib.countB ⟨([108, 105, 110, 101, 32, 118, 111, 108, 32, 108, 111, 99, 107, 32, 116, 104, 114, 101, 97, 100, 32, 114, 101, 103, 32, 108, 111, 97, 100, 32, 115, 116, 111, 114, 101, 32, 99, 97, 115, 32, 102, 108, 117, 115, 104, 32, 111, 112, 116, 32, 115, 102, 101, 110, 99, 101, 32, 109, 102, 101, 110, 99, 101, 32, 116, 97, 107, 101, 32, 103, 105, 118, 101, 32, 105, 102, 32, 101, 108, 115, 101, 32, 108, 111, 111, 112, 32, 98, 114, 101, 97, 107, 32, 99, 104, 101, 99, 107, 32, 114, 101, 99, 111, 118, 101, 114, 32, 97, 108, 119, 97, 121, 115] : Str).toArray⟩ ⟨([32] : Str).toArray⟩ + 1 = 21 by kernel_rfl, show (Lib.splitB ⟨([32] : Str).toArray⟩ 0 (Lib.countB ⟨([108, 105, 110, 101, 32, 118, 111, 108, 32, 108, 111, 99, 107, 32, 116, 104, 114, 101, 97, 100, 32, 114, 101, 103, 32, 108, 111, 97, 100, 32, 115, 116, 111, 114, 101, 32, 99, 97, 115, 32, 102, 108, 117, 115, 104, 32, 111, 112, 116, 32, 115, 102, 101, 110, 99, 101, 32, 109, 102, 101, 110, 99, 101, 32, 116, 97, 107, 101, 32, 103, 105, 118, 101, 32, 105, 102, 32, 101, 108, 115, 101, 32, 108, 111, 111, 112, 32, 98, 114, 101, 97, 107, 32, 99, 104, 101, 99, 107, 32, 114, 101, 99, 111, 118, 101, 114, 32, 97, 108, 119, 97, 121, 115] : Str).toArray⟩ ⟨([32] : Str).toArray⟩) ⟨([108, 105, 110, 101, 32, 118, 111, 108, 32, 108, 111, 99, 107, 32, 116, 104, 114, 101, 97, 100, 32, 114, 101, 103, 32, 108, 111, 97, 100, 32, 115, 116, 111, 114, 101, 32, 99, 97, 115, 32, 102, 108, 117, 115, 104, 32, 111, 112, 116, 32, 115, 102, 101, 110, 99, 101, 32, 109, 102, 101, 110, 99, 101, 32, 116, 97, 107, 101, 32, 103, 105, 118, 101, 32, 105, 102, 32, 101, 108, 115, 101, 32, 108, 111, 111, 112, 32, 98, 114, 101, 97, 107, 32, 99, 104, 101, 99, 107, 32, 114, 101, 99, 111, 118, 101, 114, 32, 97, 108, 119, 97, 121, 115] : Str).toArray⟩).map Value.string = [strv [108, 105, 110, 101], strv [118, 111, 108], strv [108, 111, 99, 107], strv [116, 104, 114, 101, 97, 100], strv [114, 101, 103], strv [108, 111, 97, 100], strv [115, 116, 111, 114, 101], strv [99, 97, 115], strv [102, 108, 117, 115, 104], strv [111, 112, 116], strv [115, 102, 101, 110, 99, 101], strv [109, 102, 101, 110, 99, 101], strv [116, 97, 107, 101], strv [103, 105, 118, 101], strv [105, 102], strv [101, 108, 115, 101], strv [108, 111, 111, 112], strv [98, 114, 101, 97, 107], strv [99, 104, 101, 99, 107], strv [114, 101, 99, 111, 118, 101, 114], strv [97, 108, 119, 97, 121, 115]] by kernel_rfl] at hc
    exact split_of rfl rfl (fun h => (.cons (c := [strv [108, 105, 110, 101]]) rfl (.cons (c := [strv [118, 111, 108]]) rfl (.cons (c := [strv [108, 111, 99, 107]]) rfl (.cons (c := [strv [116, 104, 114, 101, 97, 100]]) rfl (.cons (c := [strv [114, 101, 103]]) rfl (.cons (c := [strv [108, 111, 97, 100]]) rfl (.cons (c := [strv [115, 116, 111, 114, 101]]) rfl (.cons (c := [strv [99, 97, 115]]) rfl (.cons (c := [strv [102, 108, 117, 115, 104]]) rfl (.cons (c := [strv [111, 112, 116]]) rfl (.cons (c := [strv [115, 102, 101, 110, 99, 101]]) rfl (.cons (c := [strv [109, 102, 101, 110, 99, 101]]) rfl (.cons (c := [strv [116, 97, 107, 101]]) rfl (.cons (c := [strv [103, 105, 118, 101]]) rfl (.cons (c := [strv [105, 102]]) rfl (.cons (c := [strv [101, 108, 115, 101]]) rfl (.cons (c := [strv [108, 111, 111, 112]]) rfl (.cons (c := [strv [98, 114, 101, 97, 107]]) rfl (.cons (c := [strv [99, 104, 101, 99, 107]]) rfl (.cons (c := [strv [114, 101, 99, 111, 118, 101, 114]]) rfl (.cons (c := [strv [97, 108, 119, 97, 121, 115]]) rfl .nil)))))))))))))))))))))) hc
  · cases hm

end Go.LM.CODE
