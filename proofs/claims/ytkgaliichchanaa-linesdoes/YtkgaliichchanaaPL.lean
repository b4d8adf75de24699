/- Plain tools on lifted functions. No condition: plain lemmas. -/
import Derived.Test.YtkgaliichchanaaMD
namespace Go.MD
open Go

theorem w64 {n : Int} (h1 : -9223372036854775808 ≤ n) (h2 : n ≤ 9223372036854775807) : IntKind.i64.wrap n = n := IntWalk.i64_in n ⟨h1, h2⟩
theorem getI_nat {α : Type} (xs : List α) (j : Nat) : getI xs (j : Int) = xs[j]? := by simp [getI]
theorem getI_at {α : Type} {xs : List α} {i : Int} {j : Nat} (h : i = (j : Int)) (hj : j < xs.length) : getI xs i = some xs[j] := by
  subst h; rw [getI_nat]; simp [hj]
theorem wsucc {j n : Nat} (hj : j < n) (hn : n ≤ 4611686018427387904) : IntKind.i64.wrap ((j : Int) + 1) = ((j + 1 : Nat) : Int) := by
  rw [w64 (by omega) (by omega)]; omega
theorem appG_ok {α : Type} {b : Nat} {xs ys : List α} (h : xs.length + ys.length ≤ 1000000) (hb : b ≤ 1000) : appG b xs ys = some (xs ++ ys) := by
  unfold appG
  have h1 : (xs.length + ys.length) * b ≤ 1000000 * 1000 := Nat.mul_le_mul h hb
  rw [if_pos ⟨Nat.le_trans h1 (by decide), by omega⟩]
theorem catG_ok {a b : Str} (h : a.length + b.length ≤ 9223372036854775807) : catG a b = some (a ++ b) := by unfold catG; rw [if_pos h]
theorem sure_ok {b : Bool} (h : b = true) : sure b = some () := by unfold sure; rw [if_pos h]
theorem subI_ok {α : Type} {xs : List α} {lo hi : Int} (h1 : 0 ≤ lo) (h2 : lo ≤ hi) (h3 : hi ≤ (xs.length : Int)) : subI xs lo hi = some ((xs.take hi.toNat).drop lo.toNat) := by
  unfold subI; rw [if_pos ⟨h1, h2, h3⟩]
theorem itoaM_ok {n : Int} (h1 : -9223372036854775808 ≤ n) (h2 : n ≤ 9223372036854775807) : itoaM n = some (Lib.itoa n) := by unfold itoaM; rw [if_pos ⟨h1, h2⟩]
/-- what an int holds -/
def InR (n : Int) : Prop := -9223372036854775808 ≤ n ∧ n ≤ 9223372036854775807

theorem decDigits_len {u : Nat} (h : u ≤ 9223372036854775808) : (Lib.decDigits u).length ≤ 20 := by
  rw [Lib.decDigits_length]
  rcases Nat.lt_or_ge 20 (Lib.nDigits u) with h1 | h1
  · exfalso
    have key : ∀ (k u : Nat), k < Lib.nDigits u → 10 ^ k ≤ u ∨ k = 0 := by
      intro k
      induction k with
      | zero => intro u _; exact .inr rfl
      | succ k ih =>
        intro u hu
        by_cases h : u < 10
        · rw [Lib.nDigits_small h] at hu; omega
        · rw [Lib.nDigits_big h] at hu
          rcases ih (u / 10) (by omega) with h2 | h2
          · left; rw [Nat.pow_succ]; omega
          · subst h2; left; simp; omega
    rcases key 20 u h1 with h2 | h2
    · have : (10 : Nat) ^ 20 = 100000000000000000000 := by decide
      omega
    · omega
  · exact h1
theorem itoa_len {n : Int} (h : InR n) : (Lib.itoa n).length ≤ 21 := by
  obtain ⟨h1, h2⟩ := h
  unfold Lib.itoa
  split
  · have := decDigits_len (u := n.natAbs) (by omega)
    simp; omega
  · have := decDigits_len (u := n.toNat) (by omega)
    omega
end Go.MD
