/- The laws of the layer of events, but for Shows. No condition: plain lemmas. -/
import Derived.Test.YtimaeihmnipfgaaDoorPG
namespace Go.MD.ET
open Go Go.MD

def fives : List Int := [0, 0, 1, 1, 2]
theorem Both_eq {N : Nat} (hN : 30 ≤ N) (p1 p2 : api_Event) (p3 : Int) (hc : dependS p1 p2 fives p3 = dependS p2 p1 fives p3) (h0 : usesS p1 fives p3 = [] → ¬ p1.T = p2.T → hardS p1 = false → hardS p2 = false → dependS p1 p2 fives p3 = false) :
    leadlinelaw15_EventBoth N p1 p2 p3 = some true := by
  unfold leadlinelaw15_EventBoth
  have e : ([0, 0, 1, 1, 2] : List Int) = fives := rfl
  simp only [e, Depend_eq (by omega : 3 ≤ N), Option.bind_some, event_Uses_eq, fixed_eq hN]
  rw [sure_ok (by
    rw [hc]
    by_cases ht : p1.T = p2.T
    · have : dependS p2 p1 fives p3 = true := by unfold dependS; simp [ht]
      simp [this]
    · simp [ht])]
  simp only [Option.bind_some]
  split
  · rfl
  · rename_i h
    rw [sure_ok (by
      by_cases hu : usesS p1 fives p3 = []
      · rw [h0 hu (by simp at h; exact h.1) (by simp [hardS] at h ⊢; omega) (by simp [hardS] at h ⊢; omega)]; simp
      · have : 0 < (usesS p1 fives p3).length := List.length_pos_iff.2 hu
        simp [this])]
    rfl
theorem any_comm' {α : Type} (xs ys : List α) (f : α → α → Bool) : (xs.any fun x => ys.any fun y => f x y) = (ys.any fun y => xs.any fun x => f x y) := by
  rw [Bool.eq_iff_iff]
  simp only [List.any_eq_true]
  constructor
  · rintro ⟨x, hx, y, hy, h⟩; exact ⟨y, hy, x, hx, h⟩
  · rintro ⟨y, hy, x, hx, h⟩; exact ⟨x, hx, y, hy, h⟩
theorem depend_comm (a b : api_Event) (of : List Int) (s : Int) : dependS a b of s = dependS b a of s := by
  unfold dependS
  rw [any_comm' (usesS a of s)]
  simp only [clashS_comm]
  congr 1
  rw [show decide (a.T = b.T) = decide (b.T = a.T) from decide_eq_decide.2 ⟨Eq.symm, Eq.symm⟩, Bool.or_assoc, Bool.or_assoc, Bool.or_comm (hardS a)]
theorem EventBoth_eq {N : Nat} (hN : 30 ≤ N) (p1 p2 : api_Event) (p3 : Int) : leadlinelaw15_EventBoth N p1 p2 p3 = some true := by
  refine Both_eq hN p1 p2 p3 (depend_comm _ _ _ _) ?_
  intro hu ht h1 h2
  unfold dependS
  simp [hu, ht, h1, h2]

theorem clash_self (x : api_Use) : clashS x x = (decide (x.What = 4) || x.Write) := by
  unfold clashS; simp
theorem eu5 {N : Nat} {kf : Bool → Option Bool} {xs ys : List api_Use} {i : Nat} (hi : i < xs.length) (hy : ys.length ≤ 1000) : ∀ (d j n : Nat) (b : Bool), j + d = ys.length → d < n →
    leadlinelaw15_EventUses_l5 N kf xs ys (i : Int) n b (j : Int) = kf (b || (ys.drop j).any fun y => clashS xs[i] y) := by
  intro d
  induction d with
  | zero =>
    intro j n b hj hn
    obtain ⟨n, rfl⟩ : ∃ m, n = m + 1 := ⟨n - 1, by omega⟩
    rw [leadlinelaw15_EventUses_l5, if_neg (by omega), List.drop_of_length_le (by omega)]
    simp
  | succ d ih =>
    intro j n b hj hn
    obtain ⟨n, rfl⟩ : ∃ m, n = m + 1 := ⟨n - 1, by omega⟩
    have h1 : j < ys.length := by omega
    rw [leadlinelaw15_EventUses_l5, if_pos (by omega), getI_at rfl hi, getI_at rfl h1]
    simp only [Option.bind_some, Clash_eq]
    rw [sure_ok (by rw [clashS_comm ys[j]]; simp)]
    simp only [Option.bind_some]
    rw [wsucc h1 (by omega), ih (j + 1) n _ (by omega) (by omega), List.drop_eq_getElem_cons h1, List.any_cons, Bool.or_assoc]
theorem eu2 {N : Nat} {kf : Bool → Option Bool} {xs ys : List api_Use} (hx : xs.length ≤ 1000) (hy : ys.length ≤ 1000) (hN : ys.length < N) : ∀ (d j n : Nat) (b : Bool), j + d = xs.length → d < n →
    leadlinelaw15_EventUses_l2 N kf xs ys n b (j : Int) = kf (b || (xs.drop j).any fun x => ys.any fun y => clashS x y) := by
  intro d
  induction d with
  | zero =>
    intro j n b hj hn
    obtain ⟨n, rfl⟩ : ∃ m, n = m + 1 := ⟨n - 1, by omega⟩
    rw [leadlinelaw15_EventUses_l2, if_neg (by omega), List.drop_of_length_le (by omega)]
    simp
  | succ d ih =>
    intro j n b hj hn
    obtain ⟨n, rfl⟩ : ∃ m, n = m + 1 := ⟨n - 1, by omega⟩
    have h1 : j < xs.length := by omega
    have key : ∀ q : Bool, q = false → leadlinelaw15_EventUses_j4 N (leadlinelaw15_EventUses_j3 (leadlinelaw15_EventUses_l2 N kf xs ys n) (j : Int)) xs ys b (j : Int) q = kf (b || (xs.drop j).any fun x => ys.any fun y => clashS x y) := by
      intro q hq
      subst hq
      unfold leadlinelaw15_EventUses_j4
      rw [sure_ok (b := !false) rfl]
      simp only [Option.bind_some]
      rw [show (0 : Int) = ((0 : Nat) : Int) from rfl, eu5 h1 hy ys.length 0 N b (by omega) hN, leadlinelaw15_EventUses_j3, wsucc h1 (by omega), ih (j + 1) n _ (by omega) (by omega), List.drop_eq_getElem_cons h1, List.any_cons, Bool.or_assoc]
      rfl
    rw [leadlinelaw15_EventUses_l2, if_pos (by omega), getI_at rfl h1]
    simp only [Option.bind_some, Clash_eq, clash_self]
    split
    · rename_i hw; exact key _ (by simp [hw])
    · rename_i hw; exact key _ (by simp at hw; simp [hw])
theorem EventUses_eq {N : Nat} (hN : 30 ≤ N) (p1 p2 : api_Event) (p3 : Int) : leadlinelaw15_EventUses N p1 p2 p3 = some true := by
  unfold leadlinelaw15_EventUses
  have e : ([0, 0, 1, 1, 2] : List Int) = fives := rfl
  have h1 := usesS_len p1 fives p3
  have h2 := usesS_len p2 fives p3
  simp only [e, event_Uses_eq, Option.bind_some]
  rw [show (0 : Int) = ((0 : Nat) : Int) from rfl, eu2 (by omega) (by omega) (by omega) _ 0 N false (by rw [Nat.zero_add]) (by omega)]
  unfold leadlinelaw15_EventUses_j1
  split
  · rw [fixed_eq hN]; rfl
  · rename_i h
    simp only [e, Depend_eq (by omega : 3 ≤ N), Option.bind_some, fixed_eq hN]
    rw [sure_ok (by
      have q1 : ¬ p1.T = p2.T := by simp at h; exact h.1
      have q2 : hardS p1 = false := by simp [hardS] at h ⊢; omega
      have q3 : hardS p2 = false := by simp [hardS] at h ⊢; omega
      unfold dependS
      simp [q1, q2, q3])]
    rfl
theorem EventTells_eq {N : Nat} (hN : 30 ≤ N) {p1 : api_Event} (h : okE p1) (p2 : api_Event) (p3 : List Int) (p8 : Int) : leadlinelaw15_EventTells N p1 p2 p3 p8 = some true := by
  unfold leadlinelaw15_EventTells
  rw [subI_ok (by omega) (by omega) (by omega)]
  simp only [Option.bind_some]
  unfold leadlinelaw15_EventTells_j1
  simp only [event_Uses_eq, ref_Uses_eq, Option.bind_some]
  generalize (List.drop _ _) = of
  have h1 := usesS_len p1 of p8
  rw [Same_eq (by omega) (by omega)]
  simp only [Option.bind_some]
  rw [sure_ok (by simp)]
  simp only [Option.bind_some, Depend_eq (by omega : 3 ≤ N), ref_Depend_eq (by omega : 3 ≤ N), event_Right_eq, ref_Right_eq hN, event_Show_eq hN h, ref_Show_eq hN h, Clash_eq, ref_Clash_eq, fixed_eq hN, beq_self_eq_true, sure_ok, decide_true]
end Go.MD.ET
