/- The program's form of a row is its form: the loops. No condition: plain lemmas. -/
import Derived.Test.YtimaeihmnipfgaaDoorPW
namespace Go.MD.ET
open Go Go.MD
section
variable {of : List Int} {s : Int} {l : List api_Event} {ks : List Nat}
theorem thrC {N : Nat} (hl : l.length ≤ 1000) : ∀ (d j n : Nat) (m : Int), j + d = l.length → d < n → 0 ≤ m → (m = 0 ↔ j = 0) →
    ∃ r, clock_Threads_l2 N clock_Threads_j1 l n m (j : Int) = some r ∧ 0 ≤ r ∧ (0 < r ↔ (l ≠ [] ∧ okT (l.drop j))) := by
  intro d
  induction d with
  | zero =>
    intro j n m hj hn hm h0
    obtain ⟨n, rfl⟩ : ∃ k, n = k + 1 := ⟨n - 1, by omega⟩
    rw [clock_Threads_l2, if_neg (by omega), List.drop_of_length_le (by omega)]
    refine ⟨m, rfl, hm, fun h => ⟨fun e => ?_, fun x hx => by cases hx⟩, fun h => ?_⟩
    · subst e
      have : j = 0 := by simpa using hj
      have := h0.2 this
      omega
    · have : l.length ≠ 0 := fun e => h.1 (List.eq_nil_of_length_eq_zero e)
      omega
  | succ d ih =>
    intro j n m hj hn hm h0
    obtain ⟨n, rfl⟩ : ∃ k, n = k + 1 := ⟨n - 1, by omega⟩
    have h1 : j < l.length := by omega
    rw [clock_Threads_l2, if_pos (by omega), getI_at rfl h1]
    simp only [Option.bind_some]
    by_cases ht : l[j].T < 0 ∨ 8 ≤ l[j].T
    · rw [if_pos (by simpa using ht)]
      refine ⟨0, rfl, Int.le_refl _, fun h => absurd h (by omega), fun h => ?_⟩
      have := h.2 l[j] (by rw [List.drop_eq_getElem_cons h1]; exact .head _)
      omega
    · rw [if_neg (by simpa using ht), w64 (by omega) (by omega), wsucc h1 (by omega)]
      obtain ⟨r, e1, e2, e3⟩ := ih (j + 1) n (max m (l[j].T + 1)) (by omega) (by omega) (by omega) (by omega)
      refine ⟨r, e1, e2, e3.trans (and_congr_right fun _ => ?_)⟩
      rw [List.drop_eq_getElem_cons h1]
      constructor
      · intro h x hx
        rcases List.mem_cons.1 hx with rfl | hx
        · omega
        · exact h x hx
      · intro h x hx
        exact h x (.tail _ hx)
theorem ThrC {N : Nat} (hl : l.length ≤ 1000) (hN : l.length < N) : ∃ r, clock_Threads N l = some r ∧ 0 ≤ r ∧ (0 < r ↔ (l ≠ [] ∧ okT l)) := by
  unfold clock_Threads
  obtain ⟨r, h1, h2, h3⟩ := thrC (N := N) hl l.length 0 N 0 (by omega) hN (Int.le_refl _) (by simp)
  rw [show (0 : Int) = ((0 : Nat) : Int) from rfl] at *
  exact ⟨r, h1, h2, h3⟩
/-- the event at a place -/
def ev (l : List api_Event) (i : Nat) : api_Event := (l[i]?).getD ⟨0, 0, 0, 0, 0⟩
theorem ev_at {i : Nat} (h : i < l.length) : ev l i = l[i] := by unfold ev; rw [List.getElem?_eq_getElem h]; rfl
def dp (of : List Int) (s : Int) (l : List api_Event) (i j : Nat) : Bool := dependS (ev l i) (ev l j) of s
theorem held2 {N : Nat} (hN : 3 ≤ N) {kf : Option Bool} {k : Nat} (hk : k < l.length) (hl : l.length ≤ 1000) : ∀ (d j n : Nat), j + d = k → d < n →
    ((∃ i, j ≤ i ∧ i < k ∧ i ∈ ks ∧ dp of s l i k = true) ∧ trace_Form_1_l2 N kf (k : Int) (pmap ks) l of s n (j : Int) = some true) ∨
    ((∀ i, j ≤ i → i < k → i ∈ ks → dp of s l i k = false) ∧ trace_Form_1_l2 N kf (k : Int) (pmap ks) l of s n (j : Int) = kf) := by
  intro d
  induction d with
  | zero =>
    intro j n hj hn
    obtain ⟨n, rfl⟩ : ∃ m, n = m + 1 := ⟨n - 1, by omega⟩
    rw [trace_Form_1_l2, if_neg (by omega)]
    exact .inr ⟨fun i h1 h2 => by omega, rfl⟩
  | succ d ih =>
    intro j n hj hn
    obtain ⟨n, rfl⟩ : ∃ m, n = m + 1 := ⟨n - 1, by omega⟩
    have h1 : j < l.length := by omega
    have go : (j ∈ ks → dp of s l j k = false) → ((∃ i, j ≤ i ∧ i < k ∧ i ∈ ks ∧ dp of s l i k = true) ∧ trace_Form_1_j3 (trace_Form_1_l2 N kf (k : Int) (pmap ks) l of s n) (j : Int) false = some true) ∨
        ((∀ i, j ≤ i → i < k → i ∈ ks → dp of s l i k = false) ∧ trace_Form_1_j3 (trace_Form_1_l2 N kf (k : Int) (pmap ks) l of s n) (j : Int) false = kf) := by
      intro hf
      rw [trace_Form_1_j3, if_neg (by decide), wsucc (n := k) (by omega) (by omega)]
      rcases ih (j + 1) n (by omega) (by omega) with ⟨⟨i, q1, q2, q3, q4⟩, e⟩ | ⟨h, e⟩
      · exact .inl ⟨⟨i, by omega, q2, q3, q4⟩, e⟩
      · refine .inr ⟨fun i q1 q2 q3 => ?_, e⟩
        rcases Nat.eq_or_lt_of_le q1 with rfl | q
        · exact hf q3
        · exact h i q q2 q3
    rw [trace_Form_1_l2, if_pos (by omega), plook_pmap]
    by_cases hm : j ∈ ks
    · rw [if_pos hm, if_pos (show (some true).getD false = true from rfl), getI_at rfl h1, getI_at rfl hk]
      simp only [Option.bind_some, Depend_eq hN]
      have ed : dependS l[j] l[k] of s = dp of s l j k := by unfold dp; rw [ev_at h1, ev_at hk]
      rw [ed]
      cases hd : dp of s l j k with
      | true => exact .inl ⟨⟨j, Nat.le_refl _, by omega, hm, hd⟩, by rw [trace_Form_1_j3, if_pos rfl]⟩
      | false => exact go fun _ => hd
    · rw [if_neg hm, if_neg (show ¬ (none : Option Bool).getD false = true by decide)]
      exact go fun h => absurd h hm
theorem Held {N : Nat} (hN : 3 ≤ N) {k : Nat} (hk : k < l.length) (hl : l.length ≤ 1000) (hN2 : l.length < N) :
    ∃ b, trace_Form_1 N (k : Int) (pmap ks) l of s = some b ∧ (b = false ↔ ∀ i ∈ ks, i < k → dp of s l i k = false) := by
  unfold trace_Form_1
  rw [show (0 : Int) = ((0 : Nat) : Int) from rfl]
  rcases held2 (ks := ks) (of := of) (s := s) (N := N) hN (kf := trace_Form_1_j1) hk hl k 0 N (by omega) (by omega) with ⟨⟨i, _, q2, q3, q4⟩, e⟩ | ⟨h, e⟩
  · exact ⟨true, e, fun h => absurd h (by decide), fun h => by rw [h i q3 q2] at q4; cases q4⟩
  · exact ⟨false, e, fun _ i hi hk' => h i (Nat.zero_le _) hk' hi, fun _ => rfl⟩
end
end Go.MD.ET
