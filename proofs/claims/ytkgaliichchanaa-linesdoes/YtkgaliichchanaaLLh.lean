/- The engine's eighth part: numbers that are known to be natural. No condition: plain lemmas. -/
import Derived.Test.YtkgaliichchanaaLLg
import Derived.Laws.BitsLemmas
namespace Go.LL
open Go

/-- what a mask leaves of a number -/
def lo (n : Nat) (m : Int) : Nat := (BitVec.ofInt 64 m &&& BitVec.ofInt 64 n).toNat
theorem lo_le {n : Nat} (h : n < 9223372036854775808) (m : Int) : lo n m ≤ n := by
  unfold lo
  rw [BitVec.toNat_and]
  refine Nat.le_trans Nat.and_le_right (Nat.le_of_eq ?_)
  rw [BitVec.toNat_ofInt]
  omega
theorem lo_id {n : Nat} {j : Nat} (hn : n = 2 ^ j - 1) (hj : j ≤ 62) {m : Nat} (h : m ≤ n) : lo n (m : Int) = m := by
  unfold lo
  rw [BitVec.toNat_and]
  have hp : 2 ^ j ≤ 2 ^ 62 := Nat.pow_le_pow_right (by decide) hj
  have h0 : 0 < 2 ^ j := Nat.two_pow_pos j
  have e1 : (BitVec.ofInt 64 (m : Int)).toNat = m := by rw [BitVec.toNat_ofInt]; omega
  have e2 : (BitVec.ofInt 64 (n : Int)).toNat = n := by rw [BitVec.toNat_ofInt]; omega
  rw [e1, e2, hn, Nat.and_two_pow_sub_one_eq_mod, Nat.mod_eq_of_lt (by omega)]

section
variable {P : Program} {a : Act} {w : World} {N : FN} {F : List (Nat × Value)} {d : Option Tmp} {ty : TypeId} {pos : String} {af : Array Edge} {g : Option (Nat × Bool)}
theorem e_andL (hF : Fr N F a) {x y : Operand} {t u : TypeId} {m : Int} {n : Nat} (hn : n < 9223372036854775808) (hx : opv F x = some (.int .i64 m)) (hy : opv F y = some (.int .i64 (n : Int))) :
    (execOp a.eval ⟨d, .binOp .and t x y u, ty, pos, af, g⟩).run P w = .ok (.value (.int .i64 ((lo n m : Nat) : Int))) w := by
  have h := e_and (P := P) (w := w) (d := d) (ty := ty) (pos := pos) (af := af) (g := g) (t := t) (u := u) hF hx hy
  rw [h]
  have : IntKind.i64.wrap ((lo n m : Nat) : Int) = ((lo n m : Nat) : Int) := by
    have := lo_le hn m
    rw [IntKind.wrap_i64]; omega
  rw [← this]
  rfl
theorem e_remN (hF : Fr N F a) {x y : Operand} {t u : TypeId} {k : IntKind} {m n : Nat} (hx : opv F x = some (.int k (m : Int))) (hy : opv F y = some (.int k (n : Int))) (hn : 0 < n) :
    (execOp a.eval ⟨d, .binOp .rem t x y u, ty, pos, af, g⟩).run P w = .ok (.value (.int k ((m % n : Nat) : Int))) w := by
  rw [e_rem hF hx hy (by omega)]
  rfl
theorem e_quoN (hF : Fr N F a) {x y : Operand} {t u : TypeId} {m n : Nat} (hx : opv F x = some (.int .i64 (m : Int))) (hy : opv F y = some (.int .i64 (n : Int))) (hn : 0 < n) (hm : m ≤ 9223372036854775807) :
    (execOp a.eval ⟨d, .binOp .quo t x y u, ty, pos, af, g⟩).run P w = .ok (.value (.int .i64 ((m / n : Nat) : Int))) w := by
  rw [e_quo hF hx hy (by omega)]
  have h1 : ((m : Int).tdiv (n : Int)) = ((m / n : Nat) : Int) := rfl
  have h2 : m / n ≤ m := Nat.div_le_self _ _
  have h3 : ∀ q : Nat, q ≤ m → IntKind.i64.wrap (q : Int) = (q : Int) := fun q hq => by rw [IntKind.wrap_i64]; omega
  rw [h1, h3 _ h2]
/-- an element of an array, by its pointer -/
theorem e_iaA (hF : Fr N F a) {x y : Operand} {t e : TypeId} {k : IntKind} {j : Int} {sz n b i : Nat} (hu : ∀ w, (underlying t).run P w = .ok (.array n e) w) (hz : ∀ w, (sizeOf e).run P w = .ok sz w)
    (hx : opv F x = some (.pointer (some ⟨b, 0, none⟩))) (hy : opv F y = some (.int k j)) (hj : j = (i : Int)) (hi : i < n) :
    (execOp a.eval ⟨d, .indexAddr t x y, ty, pos, af, g⟩).run P w = .ok (.value (.pointer (some ⟨b, 0 + i * sz, none⟩))) w := by
  subst hj
  have h1 : (i : Int) < (n : Int) := by omega
  have h2 : (⟨b, 0, none⟩ : Addr).add (i * sz) = ⟨b, 0 + i * sz, none⟩ := addLit _ _ _
  simp [execOp, hF.ev hx, hF.ev hy, Instr.indexAt, asIntOf, hu, hz, h1, h2, Instr.sureAddr]
  intro h; exact absurd h (by omega)
/-- what is yielded, in other words -/
theorem e_as {o : Oper} {v v' : Value} (h : (execOp a.eval o).run P w = .ok (.value v) w) (e : v = v') : (execOp a.eval o).run P w = .ok (.value v') w := e ▸ h
theorem e_minN (hF : Fr N F a) {x y : Operand} {ts : Array TypeId} {m n : Nat} (hx : opv F x = some (.int .i64 (m : Int))) (hy : opv F y = some (.int .i64 (n : Int))) :
    (execOp a.eval ⟨d, .call ⟨.builtin .min, #[x, y], ts⟩, ty, pos, af, g⟩).run P w = .ok (.value (.int .i64 ((min m n : Nat) : Int))) w := by
  rw [e_min hF hx hy]
  congr 3
  omega
theorem e_maxN (hF : Fr N F a) {x y : Operand} {ts : Array TypeId} {m n : Nat} (hx : opv F x = some (.int .i64 (m : Int))) (hy : opv F y = some (.int .i64 (n : Int))) :
    (execOp a.eval ⟨d, .call ⟨.builtin .max, #[x, y], ts⟩, ty, pos, af, g⟩).run P w = .ok (.value (.int .i64 ((max m n : Nat) : Int))) w := by
  rw [e_max hF hx hy]
  congr 3
  omega
end
end Go.LL
