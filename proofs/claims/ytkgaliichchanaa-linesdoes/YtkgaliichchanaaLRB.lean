/- What the walks of the seat lines lean on. No condition: closed facts, by program. -/
import Derived.Test.YtkgaliichchanaaLM
import Derived.Test.YtkgaliichchanaaLRP
import Derived.Test.YtkgaliichchanaaProg
import Derived.KernelRfl
import Derived.Laws.StructEq
import Derived.Test.YtkgaliichchanaaLQ
namespace Go.LM.LINES
open Go Go.LL Go.MD Go.LM Go.Proofs Go.MD.LINES

theorem wide : Try.prog.follows .mixedOrders = true := by kernel_rfl
theorem info3 : (Try.prog.info? 3).map (fun i => (i.zero, i.size, i.bytes)) = some (some (.int .i64 0), 1, 8) := by kernel_rfl
theorem info26 : (Try.prog.info? 26).map (fun i => (i.zero, i.size, i.bytes)) = some (some (.slice none 0 0), 1, 24) := by kernel_rfl
theorem info73 : (Try.prog.info? 73).map (fun i => (i.zero, i.size, i.bytes)) = some (some (.agg #[.int .i64 0, .int .i64 0, .int .i64 0]), 3, 24) := by kernel_rfl
theorem fa46_0 (ad : Addr) (w : World) : (Instr.fieldAt 46 (.pointer (some ad)) 0).run Try.prog w = .ok (.pointer (some (ad.add 0))) w := by kernel_rfl
theorem fa46_1 (ad : Addr) (w : World) : (Instr.fieldAt 46 (.pointer (some ad)) 1).run Try.prog w = .ok (.pointer (some (ad.add 1))) w := by kernel_rfl
theorem fa46_2 (ad : Addr) (w : World) : (Instr.fieldAt 46 (.pointer (some ad)) 2).run Try.prog w = .ok (.pointer (some (ad.add 2))) w := by kernel_rfl
theorem fa71_0 (ad : Addr) (w : World) : (Instr.fieldAt 71 (.pointer (some ad)) 0).run Try.prog w = .ok (.pointer (some (ad.add 0))) w := by kernel_rfl
theorem fa71_1 (ad : Addr) (w : World) : (Instr.fieldAt 71 (.pointer (some ad)) 1).run Try.prog w = .ok (.pointer (some (ad.add 1))) w := by kernel_rfl
theorem fa71_2 (ad : Addr) (w : World) : (Instr.fieldAt 71 (.pointer (some ad)) 2).run Try.prog w = .ok (.pointer (some (ad.add 2))) w := by kernel_rfl
theorem fa71_3 (ad : Addr) (w : World) : (Instr.fieldAt 71 (.pointer (some ad)) 3).run Try.prog w = .ok (.pointer (some (ad.add 3))) w := by kernel_rfl
theorem fa71_4 (ad : Addr) (w : World) : (Instr.fieldAt 71 (.pointer (some ad)) 4).run Try.prog w = .ok (.pointer (some (ad.add 4))) w := by kernel_rfl
theorem fa73_0 (ad : Addr) (w : World) : (Instr.fieldAt 73 (.pointer (some ad)) 0).run Try.prog w = .ok (.pointer (some (ad.add 0))) w := by kernel_rfl
theorem fa73_1 (ad : Addr) (w : World) : (Instr.fieldAt 73 (.pointer (some ad)) 1).run Try.prog w = .ok (.pointer (some (ad.add 1))) w := by kernel_rfl
theorem fa73_2 (ad : Addr) (w : World) : (Instr.fieldAt 73 (.pointer (some ad)) 2).run Try.prog w = .ok (.pointer (some (ad.add 2))) w := by kernel_rfl

instance : Enc leadlineref11_Put := Enc.via (β := Int × Int × Int) 3 rfl fun x => (x.Line, x.Cell, x.N)
theorem leadlineref11_Put_open {h : PH} {cs : List Value} {x : leadlineref11_Put} (hx : Enc.rep h cs x) : cs = [.int .i64 x.Line, .int .i64 x.Cell, .int .i64 x.N] := by
  have hx : Enc.rep (α := Int × Int × Int) h cs (x.Line, x.Cell, x.N) := hx
  obtain ⟨q0, r0, e0, g0, hx⟩ := hx
  obtain ⟨q1, r1, e1, g1, hx⟩ := hx
  have w0 := g0
  have w1 := g1
  have w2 := hx
  exact (by rw [e0, w0, e1, w1, w2]; rfl)
instance : EncF leadlineref11_Put := { ind := fun h => EncF.ind (α := Int × Int × Int) h }
instance : Enc leadlineref11_Mem := Enc.via (β := (List Int) × (List Int) × (List Int) × (List Int) × (List leadlineref11_Put)) 5 rfl fun x => (x.Of, x.Firsts, x.L, x.K, x.W)
theorem leadlineref11_Mem_open {h : PH} {cs : List Value} {x : leadlineref11_Mem} (hx : Enc.rep h cs x) : ∃ (o0 : Option Addr) (c0 : Nat) (o1 : Option Addr) (c1 : Nat) (o2 : Option Addr) (c2 : Nat) (o3 : Option Addr) (c3 : Nat) (o4 : Option Addr) (c4 : Nat), cs = [.slice o0 x.Of.length c0, .slice o1 x.Firsts.length c1, .slice o2 x.L.length c2, .slice o3 x.K.length c3, .slice o4 x.W.length c4] ∧ x.Of.length ≤ c0 ∧ SR h o0 x.Of ∧ x.Firsts.length ≤ c1 ∧ SR h o1 x.Firsts ∧ x.L.length ≤ c2 ∧ SR h o2 x.L ∧ x.K.length ≤ c3 ∧ SR h o3 x.K ∧ x.W.length ≤ c4 ∧ SR h o4 x.W := by
  have hx : Enc.rep (α := (List Int) × (List Int) × (List Int) × (List Int) × (List leadlineref11_Put)) h cs (x.Of, x.Firsts, x.L, x.K, x.W) := hx
  obtain ⟨q0, r0, e0, g0, hx⟩ := hx
  obtain ⟨q1, r1, e1, g1, hx⟩ := hx
  obtain ⟨q2, r2, e2, g2, hx⟩ := hx
  obtain ⟨q3, r3, e3, g3, hx⟩ := hx
  obtain ⟨o0, c0, w0, y0, z0⟩ := g0
  obtain ⟨o1, c1, w1, y1, z1⟩ := g1
  obtain ⟨o2, c2, w2, y2, z2⟩ := g2
  obtain ⟨o3, c3, w3, y3, z3⟩ := g3
  obtain ⟨o4, c4, w4, y4, z4⟩ := hx
  exact ⟨o0, c0, o1, c1, o2, c2, o3, c3, o4, c4, by rw [e0, w0, e1, w1, e2, w2, e3, w3, w4]; rfl, y0, z0, y1, z1, y2, z2, y3, z3, y4, z4⟩
instance : Enc leadlinelaw11_Set := Enc.via (β := (List Int) × Int × (List Int)) 3 rfl fun x => (x.Of, x.Stays, x.Firsts)
theorem leadlinelaw11_Set_open {h : PH} {cs : List Value} {x : leadlinelaw11_Set} (hx : Enc.rep h cs x) : ∃ (o0 : Option Addr) (c0 : Nat) (o2 : Option Addr) (c2 : Nat), cs = [.slice o0 x.Of.length c0, .int .i64 x.Stays, .slice o2 x.Firsts.length c2] ∧ x.Of.length ≤ c0 ∧ SR h o0 x.Of ∧ x.Firsts.length ≤ c2 ∧ SR h o2 x.Firsts := by
  have hx : Enc.rep (α := (List Int) × Int × (List Int)) h cs (x.Of, x.Stays, x.Firsts) := hx
  obtain ⟨q0, r0, e0, g0, hx⟩ := hx
  obtain ⟨q1, r1, e1, g1, hx⟩ := hx
  obtain ⟨o0, c0, w0, y0, z0⟩ := g0
  have w1 := g1
  obtain ⟨o2, c2, w2, y2, z2⟩ := hx
  exact ⟨o0, c0, o2, c2, by rw [e0, w0, e1, w1, w2]; rfl, y0, z0, y2, z2⟩

/-- a block that is given back, or none -/
def OPtr71 (pv : Value) (A : HA) (x : Option leadlineref11_Mem) : Prop := (pv = .pointer none ∧ A = sepA [] ∧ x = none) ∨ ∃ (b : Nat) (o0 : Option Addr) (c0 : Nat) (v0 : List Value) (o1 : Option Addr) (c1 : Nat) (v1 : List Value) (o2 : Option Addr) (c2 : Nat) (v2 : List Value) (o3 : Option Addr) (c3 : Nat) (v3 : List Value) (o4 : Option Addr) (c4 : Nat) (v4 : List Value) (k : leadlineref11_Mem), pv = .pointer (some ⟨b, 0, none⟩) ∧ A = sepA [blk b (.cells [.slice o0 k.Of.length c0, .slice o1 k.Firsts.length c1, .slice o2 k.L.length c2, .slice o3 k.K.length c3, .slice o4 k.W.length c4].toArray 71 (0, 0)), sla 3 1 o0 k.Of.length c0 v0, sla 3 1 o1 k.Firsts.length c1 v1, sla 3 1 o2 k.L.length c2 v2, sla 3 1 o3 k.K.length c3 v3, sla 73 3 o4 k.W.length c4 v4] ∧ x = some k ∧ (∀ h, Rows h v0 k.Of) ∧ (∀ h, Rows h v1 k.Firsts) ∧ (∀ h, Rows h v2 k.L) ∧ (∀ h, Rows h v3 k.K) ∧ (∀ h, Rows h v4 k.W)
end Go.LM.LINES
