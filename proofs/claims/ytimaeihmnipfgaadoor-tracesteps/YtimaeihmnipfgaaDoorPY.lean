/- The program's form of a row is its form. No condition: plain lemmas. -/
import Derived.Test.YtimaeihmnipfgaaDoorPX
namespace Go.MD.ET
open Go Go.MD
section
variable {of : List Int} {s : Int} {l : List api_Event} {ks : List Nat}
def freeK (of : List Int) (s : Int) (l : List api_Event) (ks : List Nat) (b : Nat) : Prop := b ∈ ks ∧ b < l.length ∧ ∀ i ∈ ks, i < b → dp of s l i b = false
def inv6 (of : List Int) (s : Int) (l : List api_Event) (ks : List Nat) (k : Nat) (bI : Int) : Prop :=
  (bI = -1 ∧ ∀ k', k' < k → ¬ freeK of s l ks k') ∨ (∃ b : Nat, bI = (b : Int) ∧ freeK of s l ks b ∧ ∀ k', k' < k → freeK of s l ks k' → (ev l b).T ≤ (ev l k').T)
theorem form6 {N : Nat} (hN : 3 ≤ N) {kf : Int → Option (List api_Event)} (hl : l.length ≤ 1000) (hN2 : l.length < N) : ∀ (d k n : Nat) (bI : Int), k + d = l.length → d < n → inv6 of s l ks k bI →
    ∃ bI', trace_Form_l6 N kf l of s (pmap ks) n bI (k : Int) = kf bI' ∧ inv6 of s l ks l.length bI' := by
  intro d
  induction d with
  | zero =>
    intro k n bI hk hn hi
    obtain ⟨n, rfl⟩ : ∃ m, n = m + 1 := ⟨n - 1, by omega⟩
    have : k = l.length := by omega
    subst this
    rw [trace_Form_l6, if_neg (by omega)]
    exact ⟨bI, rfl, hi⟩
  | succ d ih =>
    intro k n bI hk hn hi
    obtain ⟨n, rfl⟩ : ∃ m, n = m + 1 := ⟨n - 1, by omega⟩
    have h1 : k < l.length := by omega
    have next : ∀ cI, inv6 of s l ks (k + 1) cI → ∃ bI', trace_Form_j7 (trace_Form_l6 N kf l of s (pmap ks) n) (k : Int) cI = kf bI' ∧ inv6 of s l ks l.length bI' := by
      intro cI hc
      rw [trace_Form_j7, wsucc h1 (by omega)]
      exact ih (k + 1) n cI (by omega) (by omega) hc
    have stay : (freeK of s l ks k → ∃ b : Nat, bI = (b : Int) ∧ (ev l b).T ≤ (ev l k).T) → ∃ bI', trace_Form_j8 (trace_Form_j7 (trace_Form_l6 N kf l of s (pmap ks) n) (k : Int)) bI (k : Int) false = kf bI' ∧ inv6 of s l ks l.length bI' := by
      intro hs
      rw [trace_Form_j8, if_neg (by decide)]
      refine next bI ?_
      rcases hi with ⟨e, hi⟩ | ⟨b, e, hf, hi⟩
      · refine .inl ⟨e, fun k' hk' hf => ?_⟩
        rcases Nat.lt_or_ge k' k with q | q
        · exact hi k' q hf
        · have : k' = k := by omega
          subst this
          obtain ⟨b, eb, _⟩ := hs hf
          omega
      · refine .inr ⟨b, e, hf, fun k' hk' hf' => ?_⟩
        rcases Nat.lt_or_ge k' k with q | q
        · exact hi k' q hf'
        · have : k' = k := by omega
          subst this
          obtain ⟨b', eb, hb⟩ := hs hf'
          have : b' = b := by omega
          rw [← this]; exact hb
    rw [trace_Form_l6, if_pos (by omega), plook_pmap]
    by_cases hm : k ∈ ks
    · rw [if_pos hm, if_pos (show (some true).getD false = true from rfl)]
      obtain ⟨hb, eh, hh⟩ := Held (ks := ks) (of := of) (s := s) (N := N) hN h1 hl hN2
      have hfr : freeK of s l ks k ↔ hb = false := ⟨fun h => hh.2 h.2.2, fun h => ⟨hm, h1, hh.1 h⟩⟩
      rcases hi with ⟨e, hi'⟩ | ⟨b, e, hf, hi'⟩
      · rw [if_pos (by omega), eh]
        simp only [Option.bind_some]
        cases hb with
        | true => exact stay fun h => absurd (hfr.1 h) (by decide)
        | false =>
          rw [trace_Form_j8, if_pos (by decide)]
          refine next _ (.inr ⟨k, rfl, hfr.2 rfl, fun k' hk' hf' => ?_⟩)
          rcases Nat.lt_or_ge k' k with q | q
          · exact absurd hf' (hi' k' q)
          · have : k' = k := by omega
            subst this; exact Int.le_refl _
      · subst e
        have hbl := hf.2.1
        rw [if_neg (by omega), getI_at rfl h1, getI_at rfl hbl]
        simp only [Option.bind_some]
        by_cases ht : l[k].T < l[b].T
        · rw [if_pos ht, eh]
          simp only [Option.bind_some]
          cases hb with
          | true => exact stay fun h => absurd (hfr.1 h) (by decide)
          | false =>
            rw [trace_Form_j8, if_pos (by decide)]
            refine next _ (.inr ⟨k, rfl, hfr.2 rfl, fun k' hk' hf' => ?_⟩)
            rcases Nat.lt_or_ge k' k with q | q
            · have := hi' k' q hf'
              rw [ev_at hbl] at this
              rw [ev_at h1]; omega
            · have : k' = k := by omega
              subst this; exact Int.le_refl _
        · rw [if_neg ht]
          refine stay fun _ => ⟨b, rfl, ?_⟩
          rw [ev_at hbl, ev_at h1]; omega
    · rw [if_neg hm, if_neg (show ¬ (none : Option Bool).getD false = true by decide)]
      exact stay fun h => absurd h.1 hm
theorem form4 {N : Nat} (hN : 3 ≤ N) (hl : l.length ≤ 1000) (hN2 : l.length < N) : ∀ (d n : Nat) (ks : List Nat) (out : List api_Event), ks.length = d → d < n → ks.Pairwise (· < ·) → (∀ i ∈ ks, i < l.length) → out.length + d ≤ 1000 →
    ∃ g : List Nat, trace_Form_l4 N trace_Form_j3 l of s n (pmap ks) out = some (out ++ g.map (ev l)) ∧ Fm (dp of s l) (fun i => (ev l i).T) ks g := by
  intro d
  induction d with
  | zero =>
    intro n ks out hd hn _ _ _
    obtain ⟨n, rfl⟩ : ∃ m, n = m + 1 := ⟨n - 1, by omega⟩
    have : ks = [] := List.eq_nil_of_length_eq_zero hd
    subst this
    rw [trace_Form_l4, if_neg (by simp [pmap]), trace_Form_j3]
    exact ⟨[], by simp, .nil⟩
  | succ d ih =>
    intro n ks out hd hn hp hlt hout
    obtain ⟨n, rfl⟩ : ∃ m, n = m + 1 := ⟨n - 1, by omega⟩
    rw [trace_Form_l4, if_pos (by simp [pmap]; omega)]
    obtain ⟨bI, e1, hi⟩ := form6 (of := of) (s := s) (ks := ks) (N := N) hN (kf := trace_Form_j5 (trace_Form_l4 N trace_Form_j3 l of s n) l (pmap ks) out) hl hN2 l.length 0 N (-1) (by omega) hN2 (.inl ⟨rfl, fun k' h => by omega⟩)
    rw [show (0 : Int) = ((0 : Nat) : Int) from rfl, e1]
    rcases hi with ⟨_, hno⟩ | ⟨b, rfl, hf, hmin⟩
    · exfalso
      match ks, hd with
      | k :: ks, _ =>
        refine hno k (hlt k (.head _)) ⟨.head _, hlt k (.head _), fun i hi hik => ?_⟩
        rcases List.mem_cons.1 hi with rfl | hi
        · omega
        · have := (List.pairwise_cons.1 hp).1 i hi; omega
    · have hbl := hf.2.1
      rw [trace_Form_j5, getI_at rfl hbl]
      simp only [Option.bind_some]
      rw [appG_ok (by simp; omega) (by decide)]
      simp only [Option.bind_some]
      rw [pdel_pmap]
      have hle : (ks.erase b).length = d := by rw [List.length_erase_of_mem hf.1]; omega
      obtain ⟨g, e2, h2⟩ := ih n (ks.erase b) (out ++ [l[b]]) hle (by omega) (hp.sublist List.erase_sublist) (fun i hi => hlt i (List.mem_of_mem_erase hi)) (by simp; omega)
      refine ⟨b :: g, ?_, .step ⟨sel_sorted hp hf.1 hf.2.2, fun y r hy => ?_⟩ h2⟩
      · rw [e2, List.map_cons, ev_at hbl]
        simp
      · obtain ⟨q1, q2⟩ := sorted_sel hy hp
        exact hmin y (hlt y q1) ⟨q1, hlt y q1, q2⟩
theorem form2p {N : Nat} {kf : List (Int × Bool) → Option (List api_Event)} (hl : l.length ≤ 1000) : ∀ (d j n : Nat), j + d = l.length → d < n →
    trace_Form_l2 N kf l n (pmap (List.range j)) (j : Int) = kf (pmap (List.range l.length)) := by
  intro d
  induction d with
  | zero =>
    intro j n hj hn
    obtain ⟨n, rfl⟩ : ∃ m, n = m + 1 := ⟨n - 1, by omega⟩
    have : j = l.length := by omega
    subst this
    rw [trace_Form_l2, if_neg (by omega)]
  | succ d ih =>
    intro j n hj hn
    obtain ⟨n, rfl⟩ : ∃ m, n = m + 1 := ⟨n - 1, by omega⟩
    rw [trace_Form_l2, if_pos (by omega), pput_pmap (by simp), wsucc (n := l.length) (by omega) (by omega), ← List.range_succ]
    exact ih (j + 1) n (by omega) (by omega)
theorem map_ev (l : List api_Event) : (List.range l.length).map (ev l) = l := by
  apply List.ext_getElem
  · simp
  · intro i h1 h2
    simp [ev_at h2]
theorem Form_eq {N : Nat} (hN : 3 ≤ N) (hl : l.length ≤ 1000) (hN2 : l.length < N) (hok : okT l) (of : List Int) (s : Int) :
    ∃ f, trace_Form N l of s = some f ∧ Fm (fun x y => dependS x y of s) (fun x : api_Event => x.T) l f := by
  obtain ⟨r, hr, _, hr2⟩ := ThrC (N := N) hl hN2
  unfold trace_Form
  rw [hr]
  simp only [Option.bind_some]
  by_cases e : l = []
  · subst e
    have : r = 0 := by
      rcases Int.lt_or_le 0 r with h | h
      · exact absurd rfl (hr2.1 h).1
      · omega
    rw [if_pos this]
    exact ⟨[], rfl, .nil⟩
  · have : 0 < r := hr2.2 ⟨e, hok⟩
    rw [if_neg (by omega)]
    have h0 := form2p (l := l) (N := N) (kf := trace_Form_j1 N l of s) hl l.length 0 N (by omega) hN2
    rw [show (0 : Int) = ((0 : Nat) : Int) from rfl, show ([] : List (Int × Bool)) = pmap (List.range 0) from rfl, h0, trace_Form_j1]
    obtain ⟨g, e1, h1⟩ := form4 (of := of) (s := s) hN hl hN2 l.length N (List.range l.length) [] (by simp) hN2 List.pairwise_lt_range (fun i hi => List.mem_range.1 hi) (by simp; omega)
    refine ⟨g.map (ev l), by rw [e1]; rfl, ?_⟩
    have h2 := Fm.map (D := fun x y => dependS x y of s) (T := fun x : api_Event => x.T) (f := ev l) h1
    rwa [map_ev] at h2
theorem Form_bad {N : Nat} (hl : l.length ≤ 1000) (hN2 : l.length < N) (hok : ¬ okT l) (of : List Int) (s : Int) : trace_Form N l of s = some [] := by
  obtain ⟨r, hr, h0, hr2⟩ := ThrC (N := N) hl hN2
  unfold trace_Form
  rw [hr]
  simp only [Option.bind_some]
  have : ¬ 0 < r := fun h => hok (hr2.1 h).2
  rw [if_pos (by omega)]
end
end Go.MD.ET
