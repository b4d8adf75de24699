/- The law EventShows: what is shown tells the event. No condition: plain lemmas. -/
import Derived.Test.YtimaeihmnipfgaaDoorPH
namespace Go.MD.ET
open Go Go.MD

def valD (l : List UInt8) : Nat := l.foldl (fun a c => 10 * a + (c.toNat - 48)) 0
theorem digN {d : Nat} (h : d < 10) : (UInt8.ofNat (48 + d)).toNat = 48 + d := by
  rw [UInt8.toNat_ofNat']; omega
theorem valD_dec (u : Nat) : valD (Lib.decDigits u) = u := by
  induction u using Nat.strongRecOn with
  | _ u ih =>
    by_cases h : u < 10
    · rw [Lib.decDigits_one h]
      unfold valD
      simp only [List.foldl_cons, List.foldl_nil]
      rw [digN h]; omega
    · rw [Lib.decDigits, dif_neg h]
      have e : ∀ (l : List UInt8) (c : UInt8), valD (l ++ [c]) = 10 * valD l + (c.toNat - 48) := by intro l c; unfold valD; simp
      rw [e, ih (u / 10) (by omega), digN (by omega)]
      omega
theorem dec_mem {u : Nat} : ∀ c ∈ Lib.decDigits u, 48 ≤ c.toNat := by
  induction u using Nat.strongRecOn with
  | _ u ih =>
    by_cases h : u < 10
    · rw [Lib.decDigits_one h]
      intro c hc
      simp only [List.mem_singleton] at hc
      subst hc
      rw [digN h]; omega
    · rw [Lib.decDigits, dif_neg h]
      intro c hc
      rcases List.mem_append.1 hc with hc | hc
      · exact ih (u / 10) (by omega) c hc
      · simp only [List.mem_singleton] at hc
        subst hc
        rw [digN (by omega)]; omega
theorem itoa_mem {n : Int} : ∀ c ∈ Lib.itoa n, c ≠ 32 := by
  intro c hc e
  subst e
  unfold Lib.itoa at hc
  split at hc
  · rcases List.mem_cons.1 hc with h | h
    · exact absurd h (by decide)
    · exact absurd (dec_mem _ h) (by decide)
  · exact absurd (dec_mem _ hc) (by decide)
theorem dec_inj {u v : Nat} (h : Lib.decDigits u = Lib.decDigits v) : u = v := by rw [← valD_dec u, h, valD_dec]
theorem itoa_inj {n m : Int} (h : Lib.itoa n = Lib.itoa m) : n = m := by
  unfold Lib.itoa at h
  split at h <;> split at h
  · have := dec_inj (List.cons.inj h).2; omega
  · exact absurd (dec_mem 45 (by rw [← h]; exact List.mem_cons_self)) (by decide)
  · exact absurd (dec_mem 45 (by rw [h]; exact List.mem_cons_self)) (by decide)
  · have := dec_inj h; omega
/-- a rest that is nothing or begins with a blank -/
def blank (r : Str) : Prop := r = [] ∨ ∃ t, r = 32 :: t
theorem sep_inj : ∀ {x y r s : Str}, (∀ c ∈ x, c ≠ 32) → (∀ c ∈ y, c ≠ 32) → blank r → blank s → x ++ r = y ++ s → x = y ∧ r = s
  | [], [], _, _, _, _, _, _, h => ⟨rfl, h⟩
  | [], b :: y, r, s, _, hy, hr, _, h => by
    exfalso
    rcases hr with rfl | ⟨t, rfl⟩
    · simp at h
    · simp only [List.nil_append, List.cons_append, List.cons.injEq] at h
      exact hy b List.mem_cons_self h.1.symm
  | a :: x, [], r, s, hx, _, _, hs, h => by
    exfalso
    rcases hs with rfl | ⟨t, rfl⟩
    · simp at h
    · simp only [List.nil_append, List.cons_append, List.cons.injEq] at h
      exact hx a List.mem_cons_self h.1
  | a :: x, b :: y, r, s, hx, hy, hr, hs, h => by
    simp only [List.cons_append, List.cons.injEq] at h
    obtain ⟨h1, h2⟩ := sep_inj (fun c hc => hx c (List.mem_cons_of_mem _ hc)) (fun c hc => hy c (List.mem_cons_of_mem _ hc)) hr hs h.2
    exact ⟨by rw [h.1, h1], h2⟩
theorem blank_part {b : Bool} {x : Int} {r : Str} (hr : blank r) : blank (part b x ++ r) := by
  unfold part
  split
  · exact .inr ⟨_, rfl⟩
  · exact hr
theorem part_inj {b : Bool} {x y : Int} {r s : Str} (hr : blank r) (hs : blank s) (h : part b x ++ r = part b y ++ s) : (b = true → x = y) ∧ r = s := by
  cases b with
  | false => exact ⟨fun h => absurd h (by decide), h⟩
  | true =>
    have h' : 32 :: (Lib.itoa x ++ r) = 32 :: (Lib.itoa y ++ s) := h
    obtain ⟨h1, h2⟩ := sep_inj itoa_mem itoa_mem hr hs (List.cons.inj h').2
    exact ⟨fun _ => itoa_inj h1, h2⟩
theorem name_mem (k : Int) : ∀ c ∈ nameOf k, c ≠ 32 := by
  by_cases h : 1 ≤ k ∧ k ≤ 16
  · have hf : ∀ k : Fin 17, ∀ c ∈ nameOf (k.val : Int), c ≠ 32 := by decide +kernel
    have := hf ⟨k.toNat, by omega⟩
    rwa [show ((⟨k.toNat, by omega⟩ : Fin 17).val : Int) = k by simp; omega] at this
  · have : nameOf k = [] := by
      unfold nameOf
      rw [if_neg (by omega), if_neg (by omega), if_neg (by omega), if_neg (by omega), if_neg (by omega), if_neg (by omega), if_neg (by omega), if_neg (by omega), if_neg (by omega), if_neg (by omega), if_neg (by omega), if_neg (by omega), if_neg (by omega), if_neg (by omega), if_neg (by omega), if_neg (by omega)]
    rw [this]
    intro c hc; cases hc
theorem name_inj {k l : Int} (h1 : 1 ≤ k) (h2 : k ≤ 16) (h3 : 1 ≤ l) (h4 : l ≤ 16) (h : nameOf k = nameOf l) : k = l := by
  have hf : ∀ k l : Fin 17, 1 ≤ k.val → 1 ≤ l.val → nameOf (k.val : Int) = nameOf (l.val : Int) → k = l := by decide +kernel
  have := hf ⟨k.toNat, by omega⟩ ⟨l.toNat, by omega⟩ (by show 1 ≤ k.toNat; omega) (by show 1 ≤ l.toNat; omega) (by
    rw [show ((⟨k.toNat, by omega⟩ : Fin 17).val : Int) = k by simp; omega, show ((⟨l.toNat, by omega⟩ : Fin 17).val : Int) = l by simp; omega]; exact h)
  have := Fin.mk.inj this
  omega
theorem show_inj {v w : api_Event} (hv : rightS v = true) (hw : rightS w = true) (h : showS v = showS w) : v = w := by
  obtain ⟨k, t, a, n, m⟩ := v
  obtain ⟨k', t', a', n', m'⟩ := w
  unfold rightS at hv hw
  simp only [Bool.and_eq_true, Bool.or_eq_true, decide_eq_true_eq] at hv hw
  obtain ⟨⟨⟨⟨⟨k1, k2, _⟩, va⟩, vn⟩, vm⟩, _⟩ := hv
  obtain ⟨⟨⟨⟨⟨l1, l2, _⟩, wa⟩, wn⟩, wm⟩, _⟩ := hw
  unfold showS at h
  simp only at h k1 k2 l1 l2 va vn vm wa wn wm
  rw [if_neg (by omega), if_neg (by omega)] at h
  have b0 : blank ([] : Str) := .inl rfl
  have bm : ∀ (b : Bool) (x : Int), blank (part b x) := fun b x => by have := blank_part (b := b) (x := x) b0; rwa [List.append_nil] at this
  obtain ⟨ht, h⟩ := sep_inj itoa_mem itoa_mem (.inr ⟨_, rfl⟩) (.inr ⟨_, rfl⟩) h
  have h' := (List.cons.inj h).2
  obtain ⟨hk, h⟩ := sep_inj (name_mem _) (name_mem _) (blank_part (blank_part (bm _ _))) (blank_part (blank_part (bm _ _))) h'
  have ek := name_inj k1 k2 l1 l2 hk
  subst ek
  obtain ⟨ha, h⟩ := part_inj (blank_part (bm _ _)) (blank_part (bm _ _)) h
  obtain ⟨hn, h⟩ := part_inj (bm _ _) (bm _ _) h
  have h2 : part (bears k 2) m ++ [] = part (bears k 2) m' ++ [] := by rw [h]
  obtain ⟨hm, _⟩ := part_inj b0 b0 h2
  have et := itoa_inj ht
  have ea : a = a' := by
    rcases va with q | q
    · exact ha q
    · rcases wa with q' | q'
      · exact ha q'
      · omega
  have en : n = n' := by
    rcases vn with q | q
    · exact hn q
    · rcases wn with q' | q'
      · exact hn q'
      · omega
  have em : m = m' := by
    rcases vm with q | q
    · exact hm q
    · rcases wm with q' | q'
      · exact hm q'
      · omega
  subst et; subst ea; subst en; subst em
  rfl
theorem show_ne {v : api_Event} (hv : rightS v = true) : showS v ≠ [] := by
  unfold rightS at hv
  simp only [Bool.and_eq_true, decide_eq_true_eq] at hv
  unfold showS
  rw [if_neg (by omega)]
  simp
theorem EventShows_eq {N : Nat} (hN : 30 ≤ N) {p1 p2 : api_Event} (h1 : okE p1) (h2 : okE p2) : leadlinelaw15_EventShows N p1 p2 = some true := by
  unfold leadlinelaw15_EventShows
  simp only [event_Right_eq, Option.bind_some]
  have hf : ∀ b, (b = false → rightS p1 = true ∧ rightS p2 = true) → leadlinelaw15_EventShows_j1 N p1 p2 b = some true := by
    intro b hb
    unfold leadlinelaw15_EventShows_j1
    cases b with
    | true => rw [if_pos rfl, fixed_eq hN]; rfl
    | false =>
      obtain ⟨r1, r2⟩ := hb rfl
      rw [if_neg (by decide), event_Show_eq hN h1, event_Show_eq hN h2]
      simp only [Option.bind_some]
      rw [sure_ok (by
        have : (showS p1 = showS p2) ↔ p1 = p2 := ⟨show_inj r1 r2, fun e => by rw [e]⟩
        simp [this])]
      simp only [Option.bind_some]
      rw [sure_ok (by simp [show_ne r1])]
      simp only [Option.bind_some, fixed_eq hN]
  cases e1 : rightS p1 with
  | false => simp only [Bool.false_eq_true, if_false]; exact hf true (fun h => absurd h (by decide))
  | true =>
    simp only [if_true]
    refine hf _ ?_
    intro h
    exact ⟨e1, by simpa using h⟩
end Go.MD.ET
