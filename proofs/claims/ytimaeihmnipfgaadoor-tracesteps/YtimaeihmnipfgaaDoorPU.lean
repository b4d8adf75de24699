/- The document's form of a row is its form. No condition: plain lemmas. -/
import Derived.Test.YtimaeihmnipfgaaDoorPE
import Derived.Test.YtimaeihmnipfgaaDoorPT
namespace Go.MD.ET
open Go Go.MD

def okT (l : List api_Event) : Prop := ∀ x ∈ l, 0 ≤ x.T ∧ x.T ≤ 7
instance (l : List api_Event) : Decidable (okT l) := by unfold okT; infer_instance
theorem thr16 {N : Nat} {l : List api_Event} (hl : l.length ≤ 1000) : ∀ (d j n : Nat) (m : Int), j + d = l.length → d < n → 0 ≤ m → (m = 0 ↔ j = 0) →
    ∃ r, leadlineref16_Threads_l2 N leadlineref16_Threads_j1 l n m (j : Int) = some r ∧ 0 ≤ r ∧ (0 < r ↔ (l ≠ [] ∧ okT (l.drop j))) := by
  intro d
  induction d with
  | zero =>
    intro j n m hj hn hm h0
    obtain ⟨n, rfl⟩ : ∃ k, n = k + 1 := ⟨n - 1, by omega⟩
    rw [leadlineref16_Threads_l2, if_neg (by omega), List.drop_of_length_le (by omega)]
    refine ⟨m, rfl, hm, fun h => ⟨fun e => ?_, fun x hx => by cases hx⟩, fun h => ?_⟩
    · subst e
      have : j = 0 := by simpa using hj
      have := h0.2 this
      omega
    · have : l.length ≠ 0 := fun e => h.1 (List.eq_nil_of_length_eq_zero e)
      omega
  | succ d ih =>
    intro j n m hj hn hm h0
    obtain ⟨n, rfl⟩ : ∃ k, n = k + 1 := ⟨n - 1, by omega⟩
    have h1 : j < l.length := by omega
    rw [leadlineref16_Threads_l2, if_pos (by omega), getI_at rfl h1]
    simp only [Option.bind_some]
    by_cases ht : l[j].T < 0 ∨ 7 < l[j].T
    · rw [if_pos (by simpa using ht)]
      refine ⟨0, rfl, Int.le_refl _, fun h => absurd h (by omega), fun h => ?_⟩
      have := h.2 l[j] (by rw [List.drop_eq_getElem_cons h1]; exact .head _)
      omega
    · rw [if_neg (by simpa using ht), w64 (by omega) (by omega), wsucc h1 (by omega)]
      obtain ⟨r, e1, e2, e3⟩ := ih (j + 1) n (max m (l[j].T + 1)) (by omega) (by omega) (by omega) (by omega)
      refine ⟨r, e1, e2, e3.trans (and_congr_right fun _ => ?_)⟩
      rw [List.drop_eq_getElem_cons h1]
      constructor
      · intro h x hx
        rcases List.mem_cons.1 hx with rfl | hx
        · omega
        · exact h x hx
      · intro h x hx
        exact h x (.tail _ hx)
theorem Thr16 {N : Nat} {l : List api_Event} (hl : l.length ≤ 1000) (hN : l.length < N) : ∃ r, leadlineref16_Threads N l = some r ∧ 0 ≤ r ∧ (0 < r ↔ (l ≠ [] ∧ okT l)) := by
  unfold leadlineref16_Threads
  obtain ⟨r, h1, h2, h3⟩ := thr16 (N := N) hl l.length 0 N 0 (by omega) hN (Int.le_refl _) (by simp)
  rw [show (0 : Int) = ((0 : Nat) : Int) from rfl] at *
  exact ⟨r, h1, h2, h3⟩

theorem first17 {N : Nat} (hN : 3 ≤ N) {kf : Option Bool} {l : List api_Event} {of : List Int} {s : Int} {k : Nat} (hk : k < l.length) (hl : l.length ≤ 1000) : ∀ (d j n : Nat), j + d = k → d < n →
    leadlineref17_first_l2 N kf l (k : Int) of s n (j : Int) = if ((l.take k).drop j).any (fun x => dependS x l[k] of s) = true then some false else kf := by
  intro d
  induction d with
  | zero =>
    intro j n hj hn
    obtain ⟨n, rfl⟩ : ∃ m, n = m + 1 := ⟨n - 1, by omega⟩
    rw [leadlineref17_first_l2, if_neg (by omega), List.drop_of_length_le (by simp; omega)]
    rfl
  | succ d ih =>
    intro j n hj hn
    obtain ⟨n, rfl⟩ : ∃ m, n = m + 1 := ⟨n - 1, by omega⟩
    have h1 : j < (l.take k).length := by simp; omega
    rw [leadlineref17_first_l2, if_pos (by omega), getI_at (j := j) rfl (by omega), getI_at rfl hk]
    simp only [Option.bind_some, ref_Depend_eq hN]
    rw [List.drop_eq_getElem_cons h1, List.any_cons, List.getElem_take]
    cases dependS l[j] l[k] of s with
    | true => simp
    | false =>
      rw [wsucc (n := k) (by omega) (by omega), ih (j + 1) n (by omega) (by omega)]
      simp
theorem First17 {N : Nat} (hN : 3 ≤ N) {l : List api_Event} {of : List Int} {s : Int} {k : Nat} (hk : k < l.length) (hl : l.length ≤ 1000) (hN2 : l.length < N) :
    leadlineref17_first N l (k : Int) of s = some (!(l.take k).any (fun x => dependS x l[k] of s)) := by
  unfold leadlineref17_first
  have := first17 (N := N) hN (kf := leadlineref17_first_j1) (of := of) (s := s) hk hl k 0 N (by omega) (by omega)
  rw [show (0 : Int) = ((0 : Nat) : Int) from rfl, this, List.drop_zero]
  unfold leadlineref17_first_j1
  cases (l.take k).any (fun x => dependS x l[k] of s) <;> rfl
end Go.MD.ET
