/- The document's form is the form. No condition: plain lemmas. -/
import Derived.Test.YtimaeihmnipfgaaDoorPU
namespace Go.MD.ET
open Go Go.MD

section
variable {of : List Int} {s : Int} {l : List api_Event}
def freeP (of : List Int) (s : Int) (l : List api_Event) (k : Nat) : Prop := ∃ hk : k < l.length, ∀ i (hi : i < k), dependS (l[i]'(Nat.lt_trans hi hk)) l[k] of s = false
theorem freeP_iff {k : Nat} (hk : k < l.length) : (!(l.take k).any (fun x => dependS x l[k] of s)) = true ↔ freeP of s l k := by
  rw [Bool.not_eq_true', List.any_eq_false]
  constructor
  · intro h
    refine ⟨hk, fun i hi => ?_⟩
    have := h (l[i]'(Nat.lt_trans hi hk)) (by
      rw [List.mem_take_iff_getElem]
      exact ⟨i, by omega, rfl⟩)
    simpa using this
  · rintro ⟨_, h⟩ x hx
    rw [List.mem_take_iff_getElem] at hx
    obtain ⟨i, hi, rfl⟩ := hx
    rw [h i (by omega)]
    decide
theorem freeP_zero (h : 0 < l.length) : freeP of s l 0 := ⟨h, fun i hi => by omega⟩
theorem form5 {N : Nat} (hN : 3 ≤ N) {kf : Int → Option (List api_Event)} (hl : l.length ≤ 1000) (hN2 : l.length < N) : ∀ (d k n b : Nat), k + d = l.length → d < n → (hb : b < l.length) → freeP of s l b → (∀ k', k' < k → ∀ h : k' < l.length, freeP of s l k' → l[b].T ≤ l[k'].T) →
    ∃ b' : Nat, leadlineref17_Form_l5 N kf of s l n (b : Int) (k : Int) = kf (b' : Int) ∧ ∃ hb' : b' < l.length, freeP of s l b' ∧ ∀ k' (h : k' < l.length), freeP of s l k' → l[b'].T ≤ l[k'].T := by
  intro d
  induction d with
  | zero =>
    intro k n b hk hn hb hf hm
    obtain ⟨n, rfl⟩ : ∃ m, n = m + 1 := ⟨n - 1, by omega⟩
    rw [leadlineref17_Form_l5, if_neg (by omega)]
    exact ⟨b, rfl, hb, hf, fun k' h hf' => hm k' (by omega) h hf'⟩
  | succ d ih =>
    intro k n b hk hn hb hf hm
    obtain ⟨n, rfl⟩ : ∃ m, n = m + 1 := ⟨n - 1, by omega⟩
    have h1 : k < l.length := by omega
    rw [leadlineref17_Form_l5, if_pos (by omega), getI_at rfl h1, getI_at rfl hb]
    simp only [Option.bind_some]
    have stay : (∀ _ : freeP of s l k, l[b].T ≤ l[k].T) → ∃ b' : Nat, leadlineref17_Form_j7 (leadlineref17_Form_j6 (leadlineref17_Form_l5 N kf of s l n) (k : Int)) (b : Int) (k : Int) false = kf (b' : Int) ∧ ∃ hb' : b' < l.length, freeP of s l b' ∧ ∀ k' (h : k' < l.length), freeP of s l k' → l[b'].T ≤ l[k'].T := by
      intro hs
      rw [leadlineref17_Form_j7, if_neg (by decide), leadlineref17_Form_j6, wsucc h1 (by omega)]
      refine ih (k + 1) n b (by omega) (by omega) hb hf fun k' hk' h hf' => ?_
      rcases Nat.lt_or_ge k' k with h2 | h2
      · exact hm k' h2 h hf'
      · have : k' = k := by omega
        subst this
        exact hs hf'
    by_cases ht : l[k].T < l[b].T
    · rw [if_pos ht, First17 hN h1 hl hN2]
      simp only [Option.bind_some]
      cases hfk : (!(l.take k).any (fun x => dependS x l[k] of s)) with
      | true =>
        have hfk' := (freeP_iff h1).1 hfk
        rw [leadlineref17_Form_j7, if_pos rfl, leadlineref17_Form_j6, wsucc h1 (by omega)]
        refine ih (k + 1) n k (by omega) (by omega) h1 hfk' fun k' hk' h hf' => ?_
        rcases Nat.lt_or_ge k' k with h2 | h2
        · have := hm k' h2 h hf'; omega
        · have : k' = k := by omega
          subst this
          exact Int.le_refl _
      | false =>
        refine stay fun hf' => ?_
        rw [(freeP_iff h1).2 hf'] at hfk
        cases hfk
    · rw [if_neg ht]
      exact stay fun _ => by omega
theorem best_of {b : Nat} (hb : b < l.length) (hf : freeP of s l b) (hm : ∀ k' (h : k' < l.length), freeP of s l k' → l[b].T ≤ l[k'].T) : Best (fun x y => dependS x y of s) (fun x : api_Event => x.T) l l[b] (l.eraseIdx b) :=
  best_at (D := fun x y => dependS x y of s) (T := fun x : api_Event => x.T) hb hf.2 fun k hk h => hm k hk ⟨hk, h⟩
theorem form2 {N : Nat} (hN : 3 ≤ N) {p : List api_Event} (hp : p.length ≤ 1000) (hN2 : p.length < N) (hok : okT p) (hne : p ≠ []) : ∀ (d n : Nat) (out left : List api_Event), left.length = d → d < n → out.length + left.length ≤ 1000 → left.length < N →
    ∃ f, leadlineref17_Form_l2 N leadlineref17_Form_j1 p of s n out left = some (out ++ f) ∧ Fm (fun x y => dependS x y of s) (fun x : api_Event => x.T) left f := by
  obtain ⟨r, hr, _, hr2⟩ := Thr16 (N := N) hp hN2
  have hr3 : 0 < r := hr2.2 ⟨hne, hok⟩
  intro d
  induction d with
  | zero =>
    intro n out left hd hn _ _
    obtain ⟨n, rfl⟩ : ∃ m, n = m + 1 := ⟨n - 1, by omega⟩
    have : left = [] := List.eq_nil_of_length_eq_zero hd
    subst this
    rw [leadlineref17_Form_l2, if_neg (by simp), leadlineref17_Form_j3, if_neg (by decide)]
    exact ⟨[], by rw [leadlineref17_Form_j1, List.append_nil], .nil⟩
  | succ d ih =>
    intro n out left hd hn hlen hN3
    obtain ⟨n, rfl⟩ : ∃ m, n = m + 1 := ⟨n - 1, by omega⟩
    rw [leadlineref17_Form_l2, if_pos (by omega), hr]
    simp only [Option.bind_some]
    rw [leadlineref17_Form_j3, if_pos (by simpa using hr3)]
    have h0 : 0 < left.length := by omega
    obtain ⟨b, e1, hb, hf, hm⟩ := form5 (of := of) (s := s) (N := N) hN (kf := leadlineref17_Form_j4 (leadlineref17_Form_l2 N leadlineref17_Form_j1 p of s n) out left) (by omega) hN3 d 1 N 0 (by omega) (by omega) h0 (freeP_zero h0)
      (fun k' hk' h _ => by
        have : k' = 0 := by omega
        subst this
        exact Int.le_refl _)
    rw [show (0 : Int) = ((0 : Nat) : Int) from rfl, show (1 : Int) = ((1 : Nat) : Int) from rfl, e1]
    rw [leadlineref17_Form_j4, getI_at rfl hb]
    simp only [Option.bind_some]
    rw [appG_ok (by simp; omega) (by decide)]
    simp only [Option.bind_some]
    rw [subI_ok (by omega) (by omega) (by omega)]
    simp only [Option.bind_some]
    rw [appG_ok (by simp; omega) (by decide)]
    simp only [Option.bind_some]
    rw [wsucc hb (by omega), subI_ok (by omega) (by omega) (by omega)]
    simp only [Option.bind_some]
    rw [appG_ok (by simp; omega) (by decide)]
    simp only [Option.bind_some]
    have er : ([] ++ List.drop (0 : Int).toNat (left.take ((b : Int)).toNat)) ++ List.drop (((b + 1 : Nat) : Int)).toNat (left.take ((left.length : Int)).toNat) = left.eraseIdx b := by
      rw [List.eraseIdx_eq_take_drop_succ]
      simp
    have hl1 : (left.eraseIdx b).length = d := by rw [List.length_eraseIdx_of_lt hb]; omega
    simp only [Int.toNat_zero] at er
    obtain ⟨f, e2, e3⟩ := ih n (out ++ [left[b]]) (left.eraseIdx b) hl1 (by omega) (by simp; omega) (by omega)
    refine ⟨left[b] :: f, ?_, .step (best_of hb hf hm) e3⟩
    have er' := er
    simp only [Int.toNat_natCast, Int.toNat_zero] at er' ⊢
    rw [er', e2]
    simp
theorem ref_Form_eq {N : Nat} (hN : 3 ≤ N) {p : List api_Event} (hp : p.length ≤ 1000) (hN2 : p.length < N) (hok : okT p) (of : List Int) (s : Int) :
    ∃ f, leadlineref17_Form N p of s = some f ∧ Fm (fun x y => dependS x y of s) (fun x : api_Event => x.T) p f := by
  unfold leadlineref17_Form
  rw [appG_ok (by simp; omega) (by decide)]
  simp only [Option.bind_some, List.nil_append]
  by_cases e : p = []
  · subst e
    obtain ⟨n, rfl⟩ : ∃ m, N = m + 1 := ⟨N - 1, by omega⟩
    rw [leadlineref17_Form_l2, if_neg (by simp), leadlineref17_Form_j3, if_neg (by decide)]
    exact ⟨[], rfl, .nil⟩
  · obtain ⟨f, h1, h2⟩ := form2 (of := of) (s := s) hN hp hN2 hok e p.length N [] p rfl hN2 (by simp; omega) hN2
    exact ⟨f, by rw [h1, List.nil_append], h2⟩
theorem ref_Form_bad {N : Nat} {p : List api_Event} (hp : p.length ≤ 1000) (hN2 : p.length < N) (hok : ¬ okT p) (of : List Int) (s : Int) : leadlineref17_Form N p of s = some [] := by
  unfold leadlineref17_Form
  rw [appG_ok (by simp; omega) (by decide)]
  simp only [Option.bind_some, List.nil_append]
  obtain ⟨r, hr, h0, hr2⟩ := Thr16 (N := N) hp hN2
  have hne : p ≠ [] := fun e => hok (by subst e; intro x hx; cases hx)
  obtain ⟨n, hn⟩ : ∃ m, N = m + 1 := ⟨N - 1, by omega⟩
  have hpos : 0 < p.length := List.length_pos_iff.2 hne
  conv => lhs; arg 6; rw [hn]
  rw [leadlineref17_Form_l2, if_pos (by omega), hr]
  simp only [Option.bind_some]
  have : ¬ 0 < r := fun h => hok (hr2.1 h).2
  rw [leadlineref17_Form_j3, if_neg (by simpa using this)]
  rfl
end
end Go.MD.ET
