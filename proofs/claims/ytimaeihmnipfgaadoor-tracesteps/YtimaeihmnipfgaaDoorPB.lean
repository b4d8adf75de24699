/- Rows compared, cut, changed about; texts of rows. No condition: plain lemmas. -/
import Derived.Test.YtimaeihmnipfgaaDoorPY
import Derived.Test.YtimaeihmnipfgaaDoorPI
import Derived.Test.YtimaeihmnipfgaaDoorPA
namespace Go.MD.ET
open Go Go.MD

theorem Equal17_loop (N : Nat) (k : Option Bool) (p q : List api_Event) (hl : p.length = q.length) (hp : p.length ≤ 1000) : ∀ (d j n : Nat), j + d = p.length → d < n →
    leadlineref17_Equal_l2 N k p q n (j : Int) = if p.drop j = q.drop j then k else some false := by
  intro d
  induction d with
  | zero =>
    intro j n hj hn
    obtain ⟨n, rfl⟩ : ∃ m, n = m + 1 := ⟨n - 1, by omega⟩
    rw [leadlineref17_Equal_l2, if_neg (by omega), List.drop_of_length_le (by omega), List.drop_of_length_le (by omega), if_pos rfl]
  | succ d ih =>
    intro j n hj hn
    obtain ⟨n, rfl⟩ : ∃ m, n = m + 1 := ⟨n - 1, by omega⟩
    have h1 : j < p.length := by omega
    have h2 : j < q.length := by omega
    rw [leadlineref17_Equal_l2, if_pos (by omega), getI_at rfl h1, getI_at rfl h2]
    simp only [Option.bind_some]
    rw [wsucc h1 (by omega), ih (j + 1) n (by omega) (by omega), List.drop_eq_getElem_cons h1, List.drop_eq_getElem_cons h2]
    by_cases e : p[j] = q[j]
    · simp only [ne_eq, e, not_true_eq_false, if_false, List.cons.injEq, true_and]
    · simp only [ne_eq, e, not_false_eq_true, if_true, if_false, List.cons.injEq, false_and]
theorem Equal17 {N : Nat} {p q : List api_Event} (hp : p.length ≤ 1000) (hN : p.length < N) : leadlineref17_Equal N p q = some (decide (p = q)) := by
  unfold leadlineref17_Equal
  by_cases h : p.length = q.length
  · rw [if_neg (by omega)]
    have := Equal17_loop N leadlineref17_Equal_j1 p q h hp p.length 0 N (by omega) hN
    rw [show (0 : Int) = ((0 : Nat) : Int) from rfl, this]
    simp only [List.drop_zero, leadlineref17_Equal_j1]
    split <;> simp_all
  · rw [if_pos (by omega)]
    have : p ≠ q := fun e => h (by rw [e])
    simp [this]
theorem EqualS_loop (N : Nat) (k : Option Bool) (p q : List api_Event) (hl : p.length = q.length) (hp : p.length ≤ 1000) : ∀ (d j n : Nat), j + d = p.length → d < n →
    slices_Equal_api_Event_api_Event_l2 N k p q n (j : Int) = if p.drop j = q.drop j then k else some false := by
  intro d
  induction d with
  | zero =>
    intro j n hj hn
    obtain ⟨n, rfl⟩ : ∃ m, n = m + 1 := ⟨n - 1, by omega⟩
    rw [slices_Equal_api_Event_api_Event_l2, if_neg (by omega), List.drop_of_length_le (by omega), List.drop_of_length_le (by omega), if_pos rfl]
  | succ d ih =>
    intro j n hj hn
    obtain ⟨n, rfl⟩ : ∃ m, n = m + 1 := ⟨n - 1, by omega⟩
    have h1 : j < p.length := by omega
    have h2 : j < q.length := by omega
    rw [slices_Equal_api_Event_api_Event_l2, if_pos (by omega), getI_at rfl h1, getI_at rfl h2]
    simp only [Option.bind_some]
    rw [wsucc h1 (by omega), ih (j + 1) n (by omega) (by omega), List.drop_eq_getElem_cons h1, List.drop_eq_getElem_cons h2]
    by_cases e : p[j] = q[j]
    · simp only [ne_eq, e, not_true_eq_false, if_false, List.cons.injEq, true_and]
    · simp only [ne_eq, e, not_false_eq_true, if_true, if_false, List.cons.injEq, false_and]
theorem EqualS {N : Nat} {p q : List api_Event} (hp : p.length ≤ 1000) (hN : p.length < N) : slices_Equal_api_Event_api_Event N p q = some (decide (p = q)) := by
  unfold slices_Equal_api_Event_api_Event
  by_cases h : p.length = q.length
  · rw [if_neg (by omega)]
    have := EqualS_loop N slices_Equal_api_Event_api_Event_j1 p q h hp p.length 0 N (by omega) hN
    rw [show (0 : Int) = ((0 : Nat) : Int) from rfl, this]
    simp only [List.drop_zero, slices_Equal_api_Event_api_Event_j1]
    split <;> simp_all
  · rw [if_pos (by omega)]
    have : p ≠ q := fun e => h (by rw [e])
    simp [this]
theorem iand_in {x : Int} {m : Nat} (hm : m ≤ 4611686018427387904) : 0 ≤ iand .i64 x (m : Int) ∧ iand .i64 x (m : Int) ≤ (m : Int) := by
  unfold iand
  have h1 : (BitVec.ofInt (IntKind.bits .i64) x &&& BitVec.ofInt (IntKind.bits .i64) (m : Int)).toNat ≤ m := by
    rw [BitVec.toNat_and]
    refine Nat.le_trans Nat.and_le_right ?_
    rw [BitVec.ofInt_natCast, BitVec.toNat_ofNat]
    exact Nat.mod_le _ _
  rw [w64 (by omega) (by omega)]
  omega
theorem cut_eq (N : Nat) (p : List api_Event) : leadlinelaw17_cut N p = some (p.take 30) := by
  unfold leadlinelaw17_cut
  rw [subI_ok (by omega) (by omega) (by omega)]
  simp only [Option.bind_some, Int.toNat_zero, List.drop_zero]
  rcases Nat.le_total p.length 30 with h | h
  · rw [show (min (p.length : Int) 30).toNat = p.length by omega, List.take_of_length_le (Nat.le_refl _), List.take_of_length_le h]
  · rw [show (min (p.length : Int) 30).toNat = 30 by omega]
def low (v : api_Event) : api_Event := ⟨v.Kind, iand .i64 v.T 7, v.A, v.N, v.M⟩
theorem threads_loop (N : Nat) (p : List api_Event) : ∀ (d j n : Nat) (out : List api_Event), j + d = 30 → d < n → out.length ≤ j →
    leadlinelaw17_threads_l2 N leadlinelaw17_threads_j1 p n out (j : Int) = some (out ++ ((p.take 30).drop j).map low) := by
  intro d
  induction d with
  | zero =>
    intro j n out hj hn _
    obtain ⟨n, rfl⟩ : ∃ m, n = m + 1 := ⟨n - 1, by omega⟩
    rw [leadlinelaw17_threads_l2, if_neg (by simp; omega), List.drop_of_length_le (by simp; omega)]
    simp [leadlinelaw17_threads_j1]
  | succ d ih =>
    intro j n out hj hn ho
    obtain ⟨n, rfl⟩ : ∃ m, n = m + 1 := ⟨n - 1, by omega⟩
    by_cases h1 : j < p.length
    · rw [leadlinelaw17_threads_l2, if_pos (by simp; omega), getI_at rfl h1]
      simp only [Option.bind_some]
      rw [appG_ok (by simp; omega) (by decide)]
      simp only [Option.bind_some]
      rw [wsucc (n := 30) (by omega) (by decide), ih (j + 1) n _ (by omega) (by omega) (by simp; omega)]
      have h2 : j < (p.take 30).length := by simp; omega
      rw [List.drop_eq_getElem_cons h2, List.map_cons, List.getElem_take, List.append_assoc]
      rfl
    · rw [leadlinelaw17_threads_l2, if_neg (by simp; omega), List.drop_of_length_le (by simp; omega)]
      simp [leadlinelaw17_threads_j1]
theorem threads_eq {N : Nat} (hN : 31 ≤ N) (p : List api_Event) : leadlinelaw17_threads N p = some ((p.take 30).map low) := by
  unfold leadlinelaw17_threads
  rw [show (0 : Int) = ((0 : Nat) : Int) from rfl, threads_loop N p 30 0 N [] (by omega) (by omega) (by simp)]
  simp
theorem threads_okT (p : List api_Event) : okT ((p.take 30).map low) := by
  intro x hx
  obtain ⟨y, _, rfl⟩ := List.mem_map.1 hx
  have := iand_in (x := y.T) (m := 7) (by decide)
  simpa [low] using this
theorem threads_len (p : List api_Event) : ((p.take 30).map low).length ≤ 30 := by simp; omega
/-- events that an int can hold -/
def allE (l : List api_Event) : Prop := ∀ x ∈ l, okE x
theorem low_ok {v : api_Event} (h : okE v) : okE (low v) := by
  have : 0 ≤ iand .i64 v.T 7 ∧ iand .i64 v.T 7 ≤ 7 := iand_in (x := v.T) (m := 7) (by decide)
  exact ⟨h.k, ⟨by simp only [low]; omega, by simp only [low]; omega⟩, h.a, h.n, h.m⟩
theorem threads_okE {p : List api_Event} (h : allE p) : allE ((p.take 30).map low) := by
  intro x hx
  obtain ⟨y, hy, rfl⟩ := List.mem_map.1 hx
  exact low_ok (h y (List.mem_of_mem_take hy))

/-! what depends -/
def D17 (of : List Int) (s : Int) (x y : api_Event) : Bool := dependS x y of s
def T17 (x : api_Event) : Int := x.T
theorem D17_thread (of : List Int) (s : Int) (x y : api_Event) (h : T17 x = T17 y) : D17 of s x y = true := by
  have h' : x.T = y.T := h
  unfold D17 dependS; simp [h']
theorem D17_comm (of : List Int) (s : Int) (x y : api_Event) : D17 of s x y = D17 of s y x := depend_comm x y of s

/-! trace.Same -/
theorem odd_eq {N : Nat} {p : List api_Event} (hp : p.length ≤ 1000) (hN : p.length < N) : ∃ b, trace_Same_1 N p = some b ∧ (b = true ↔ ¬ okT p) := by
  unfold trace_Same_1
  by_cases e : p = []
  · subst e
    refine ⟨false, by rw [if_neg (by simp)], fun h => (by cases h), fun h => absurd (fun x hx => by cases hx) h⟩
  · have : 0 < p.length := List.length_pos_iff.2 e
    obtain ⟨r, h1, h2, h3⟩ := ThrC (N := N) hp hN
    rw [if_pos (by omega), h1]
    refine ⟨_, rfl, ?_⟩
    rw [decide_eq_true_iff]
    constructor
    · intro h hk
      have := h3.2 ⟨e, hk⟩
      omega
    · intro h
      have : ¬ 0 < r := fun h' => h (h3.1 h').2
      omega
theorem Same_spec {N : Nat} (hN : 1000 < N) {p q : List api_Event} (hp : p.length ≤ 1000) (hq : q.length ≤ 1000) (of : List Int) (s : Int) :
    ∃ b, trace_Same N p q of s = some b ∧ (b = true ↔ okT p ∧ okT q ∧ TP (D17 of s) p q) := by
  unfold trace_Same
  obtain ⟨b1, e1, i1⟩ := odd_eq (N := N) hp (by omega)
  obtain ⟨b2, e2, i2⟩ := odd_eq (N := N) hq (by omega)
  rw [e1]
  simp only [Option.bind_some]
  cases b1 with
  | true => exact ⟨false, rfl, fun h => (by cases h), fun h => absurd h.1 (i1.1 rfl)⟩
  | false =>
    rw [if_neg (by decide), e2]
    simp only [Option.bind_some]
    have ok1 : okT p := Decidable.byContradiction fun h => by have := i1.2 h; cases this
    cases b2 with
    | true => exact ⟨false, rfl, fun h => (by cases h), fun h => absurd h.2.1 (i2.1 rfl)⟩
    | false =>
      have ok2 : okT q := Decidable.byContradiction fun h => by have := i2.2 h; cases this
      obtain ⟨f, h1, h2⟩ := Form_eq (N := N) (by omega) hp (by omega) ok1 of s
      obtain ⟨g, h3, h4⟩ := Form_eq (N := N) (by omega) hq (by omega) ok2 of s
      rw [if_neg (by decide), h1, h3]
      simp only [Option.bind_some]
      have hf : f.length ≤ 1000 := by have := h2.tp.length; omega
      rw [EqualS hf (by omega)]
      refine ⟨_, rfl, ?_⟩
      rw [decide_eq_true_iff]
      have := Fm.iff (D := D17 of s) (T := T17) (D17_thread of s) (D17_comm of s) h2 h4
      exact ⟨fun e => ⟨ok1, ok2, this.1 e⟩, fun e => this.2 e.2.2⟩

/-! trace.Swap -/
theorem TP.okT {of : List Int} {s : Int} {p q : List api_Event} (h : TP (D17 of s) p q) (hk : okT p) : okT q := fun x hx => hk x (h.perm.mem_iff.2 hx)
theorem TP.allE {of : List Int} {s : Int} {p q : List api_Event} (h : TP (D17 of s) p q) (hk : allE p) : allE q := fun x hx => hk x (h.perm.mem_iff.2 hx)
def swapped (p : List api_Event) (i : Nat) : List api_Event := p.take i ++ (ev p (i + 1) :: ev p i :: p.drop (i + 2))
theorem set_set {p : List api_Event} {i : Nat} (h : i + 1 < p.length) : (p.set i (ev p (i + 1))).set (i + 1) (ev p i) = swapped p i := by
  unfold swapped
  apply List.ext_getElem?
  intro j
  rw [List.getElem?_set, List.getElem?_set, List.getElem?_append, List.length_set, List.length_take, Nat.min_eq_left (by omega)]
  by_cases h1 : j < i
  · rw [if_neg (by omega), if_neg (by omega), if_pos h1, List.getElem?_take_of_lt h1]
  · rw [if_neg h1]
    by_cases h2 : j = i
    · subst h2
      rw [if_neg (by omega), if_pos rfl, if_pos (by omega), Nat.sub_self]; rfl
    · by_cases h3 : j = i + 1
      · subst h3
        rw [if_pos rfl, if_pos (by omega), show i + 1 - i = 1 by omega]; rfl
      · rw [if_neg (by omega), if_neg (by omega), show j - i = (j - i - 2) + 2 by omega]
        show _ = (p.drop (i + 2))[j - i - 2]?
        rw [List.getElem?_drop]
        congr 1; omega
theorem split_at {p : List api_Event} {i : Nat} (h : i + 1 < p.length) : p = p.take i ++ (ev p i :: ev p (i + 1) :: p.drop (i + 2)) := by
  rw [ev_at (by omega), ev_at h, ← List.drop_eq_getElem_cons h, ← List.drop_eq_getElem_cons (by omega), List.take_append_drop]
def mayS (p : List api_Event) (i : Int) (of : List Int) (s : Int) : Prop := okT p ∧ p ≠ [] ∧ 0 ≤ i ∧ i + 1 < (p.length : Int) ∧ D17 of s (ev p i.toNat) (ev p (i.toNat + 1)) = false
theorem Swap_spec {N : Nat} (hN : 1000 < N) {p : List api_Event} (hp : p.length ≤ 1000) (i : Int) (of : List Int) (s : Int) :
    (mayS p i of s ∧ trace_Swap N p i of s = some (swapped p i.toNat, true)) ∨ (¬ mayS p i of s ∧ trace_Swap N p i of s = some ([], false)) := by
  unfold trace_Swap
  obtain ⟨r, h1, h2, h3⟩ := ThrC (N := N) hp (by omega)
  rw [h1]
  simp only [Option.bind_some]
  have no : ¬ mayS p i of s → ¬ (mayS p i of s) ∧ trace_Swap_j1 N p i true = some ([], false) := fun h => ⟨h, rfl⟩
  by_cases c1 : r = 0
  · rw [if_pos c1]
    exact .inr (no fun h => by have := h3.2 ⟨h.2.1, h.1⟩; omega)
  · rw [if_neg c1]
    have c1' := h3.1 (by omega)
    by_cases c2 : i < 0
    · rw [if_pos c2]
      exact .inr (no fun h => by have := h.2.2.1; omega)
    · rw [if_neg c2, w64 (by omega) (by omega)]
      by_cases c3 : (p.length : Int) - 1 ≤ i
      · rw [if_pos c3]
        exact .inr (no fun h => by have := h.2.2.2.1; omega)
      · obtain ⟨k, rfl⟩ : ∃ k : Nat, i = (k : Int) := ⟨i.toNat, by omega⟩
        have k1 : k < p.length := by omega
        have k2 : k + 1 < p.length := by omega
        have w1 := wsucc (j := k) (n := p.length) k1 (by omega)
        rw [if_neg c3, getI_at rfl k1, w1, getI_at rfl k2]
        simp only [Option.bind_some, Depend_eq (by omega : 3 ≤ N)]
        have ed : dependS p[k] p[k + 1] of s = D17 of s (ev p k) (ev p (k + 1)) := by unfold D17; rw [ev_at k1, ev_at k2]
        rw [ed]
        cases hd : D17 of s (ev p k) (ev p (k + 1)) with
        | true =>
          refine .inr (no fun h => ?_)
          have := h.2.2.2.2
          rw [Int.toNat_natCast, hd] at this
          cases this
        | false =>
          refine .inl ⟨⟨c1'.2, c1'.1, by omega, by omega, by rw [Int.toNat_natCast]; exact hd⟩, ?_⟩
          unfold trace_Swap_j1 slices_Clone_api_Event_api_Event
          rw [if_neg (by decide), appG_ok (by simp; omega) (by decide)]
          simp only [Option.bind_some, List.nil_append]
          rw [w1, getI_at rfl k2, getI_at rfl k1]
          simp only [Option.bind_some]
          have s1 : setI p (k : Int) p[k + 1] = some (p.set k p[k + 1]) := by unfold setI; rw [if_pos (by simp; omega)]; rfl
          rw [s1]
          simp only [Option.bind_some]
          rw [getI_at rfl (by rw [List.length_set]; exact k2)]
          simp only [Option.bind_some]
          have s2 : setI (p.set k p[k + 1]) ((k + 1 : Nat) : Int) p[k] = some ((p.set k p[k + 1]).set (k + 1) p[k]) := by unfold setI; rw [if_pos (by simp; omega)]; rfl
          rw [s2]
          simp only [Option.bind_some, trace_Swap_j2, Int.toNat_natCast]
          rw [← set_set k2, ev_at k1, ev_at k2]
theorem Swap17_spec {N : Nat} (hN : 1000 < N) {p : List api_Event} (hp : p.length ≤ 1000) (i : Int) (of : List Int) (s : Int) :
    (mayS p i of s ∧ leadlineref17_Swap N p i of s = some (swapped p i.toNat, true)) ∨ (¬ mayS p i of s ∧ leadlineref17_Swap N p i of s = some ([], false)) := by
  unfold leadlineref17_Swap
  obtain ⟨r, h1, h2, h3⟩ := Thr16 (N := N) hp (by omega)
  rw [h1]
  simp only [Option.bind_some]
  have no : ¬ mayS p i of s → ¬ (mayS p i of s) ∧ leadlineref17_Swap_j1 p i true = some ([], false) := fun h => ⟨h, rfl⟩
  by_cases c1 : r = 0
  · rw [if_pos c1]
    exact .inr (no fun h => by have := h3.2 ⟨h.2.1, h.1⟩; omega)
  · rw [if_neg c1]
    have c1' := h3.1 (by omega)
    by_cases c2 : i < 0
    · rw [if_pos c2]
      exact .inr (no fun h => by have := h.2.2.1; omega)
    · rw [if_neg c2]
      by_cases c4 : 1000000 < i
      · have n1 : ¬ mayS p i of s := fun h => by have := h.2.2.2.1; omega
        rw [if_pos c4]
        split
        · exact .inr (no n1)
        · exact .inr (no n1)
      · rw [w64 (by omega) (by omega)]
        by_cases c3 : (p.length : Int) ≤ i + 1
        · rw [if_pos c3]
          exact .inr (no fun h => by have := h.2.2.2.1; omega)
        · obtain ⟨k, rfl⟩ : ∃ k : Nat, i = (k : Int) := ⟨i.toNat, by omega⟩
          have k1 : k < p.length := by omega
          have k2 : k + 1 < p.length := by omega
          have w1 : ((k : Int) + 1) = ((k + 1 : Nat) : Int) := by omega
          rw [if_neg c3, if_neg c4, getI_at rfl k1, w1, getI_at rfl k2]
          simp only [Option.bind_some, ref_Depend_eq (by omega : 3 ≤ N)]
          have ed : dependS p[k] p[k + 1] of s = D17 of s (ev p k) (ev p (k + 1)) := by unfold D17; rw [ev_at k1, ev_at k2]
          rw [ed]
          cases hd : D17 of s (ev p k) (ev p (k + 1)) with
          | true =>
            refine .inr (no fun h => ?_)
            have := h.2.2.2.2
            rw [Int.toNat_natCast, hd] at this
            cases this
          | false =>
            refine .inl ⟨⟨c1'.2, c1'.1, by omega, by omega, by rw [Int.toNat_natCast]; exact hd⟩, ?_⟩
            unfold leadlineref17_Swap_j1
            rw [if_neg (by decide), subI_ok (by omega) (by omega) (by omega)]
            simp only [Option.bind_some]
            rw [appG_ok (by simp; omega) (by decide)]
            simp only [Option.bind_some, List.nil_append]
            rw [wsucc (j := k) (n := p.length) k1 (by omega), getI_at rfl k2, getI_at rfl k1]
            simp only [Option.bind_some]
            rw [appG_ok (by simp; omega) (by decide)]
            simp only [Option.bind_some]
            rw [w64 (by omega) (by omega), subI_ok (by omega) (by omega) (by omega)]
            simp only [Option.bind_some]
            rw [appG_ok (by simp; omega) (by decide)]
            simp only [Option.bind_some]
            unfold swapped
            rw [Int.toNat_natCast, ev_at k1, ev_at k2]
            simp [show ((k : Int) + 2).toNat = k + 2 by omega]
theorem swapped_tp {p : List api_Event} {i : Nat} {of : List Int} {s : Int} (h : i + 1 < p.length) (hd : D17 of s (ev p i) (ev p (i + 1)) = false) : TP (D17 of s) p (swapped p i) := by
  unfold swapped
  conv => arg 2; rw [split_at h]
  exact (TP.swap _ hd).pre _
theorem swapped_len {p : List api_Event} {i : Nat} (h : i + 1 < p.length) : (swapped p i).length = p.length := by
  unfold swapped; simp; omega

/-! keys -/
def keyS (f : List api_Event) : Str := f.flatMap fun v => showS v ++ [10]
theorem show_len {v : api_Event} (h : okE v) : (showS v).length ≤ 100 := by
  unfold showS
  split
  · simp
  · have ht := itoa_len h.t
    have hn := name_len v.Kind
    have hA := part_len (b := bears v.Kind 0) h.a
    have hB := part_len (b := bears v.Kind 1) h.n
    have hC := part_len (b := bears v.Kind 2) h.m
    simp; omega
theorem key_len {f : List api_Event} (h : allE f) : (keyS f).length ≤ f.length * 101 := by
  induction f with
  | nil => simp [keyS]
  | cons v f ih =>
    have := ih fun x hx => h x (.tail _ hx)
    have h1 := show_len (h v (.head _))
    have e : keyS (v :: f) = (showS v ++ [10]) ++ keyS f := by simp [keyS]
    rw [e]
    simp only [List.length_append, List.length_cons, List.length_nil]
    omega
theorem key_loop {N : Nat} (hN : 30 ≤ N) {f : List api_Event} (hf : allE f) (hl : f.length ≤ 1000) : ∀ (d j n : Nat) (s : Str), j + d = f.length → d < n → s.length ≤ j * 101 →
    trace_Key_l2 N trace_Key_j1 f n s (j : Int) = some (s ++ keyS (f.drop j)) := by
  intro d
  induction d with
  | zero =>
    intro j n s hj hn _
    obtain ⟨n, rfl⟩ : ∃ m, n = m + 1 := ⟨n - 1, by omega⟩
    rw [trace_Key_l2, if_neg (by omega), List.drop_of_length_le (by omega)]
    simp [trace_Key_j1, keyS]
  | succ d ih =>
    intro j n s hj hn hs
    obtain ⟨n, rfl⟩ : ∃ m, n = m + 1 := ⟨n - 1, by omega⟩
    have h1 : j < f.length := by omega
    have hk := hf f[j] (List.getElem_mem h1)
    have hl1 := show_len hk
    rw [trace_Key_l2, if_pos (by omega), getI_at rfl h1]
    simp only [Option.bind_some, event_Show_eq hN hk]
    rw [catG_ok (by simp; omega)]
    simp only [Option.bind_some]
    unfold catB
    rw [if_pos (by simp; omega)]
    simp only [Option.bind_some]
    rw [wsucc h1 (by omega), ih (j + 1) n _ (by omega) (by omega) (by simp; omega), List.drop_eq_getElem_cons h1]
    simp only [keyS, List.flatMap_cons, List.append_assoc]
theorem key_loop17 {N : Nat} (hN : 30 ≤ N) {f : List api_Event} (hf : allE f) (hl : f.length ≤ 1000) : ∀ (d j n : Nat) (s : Str), j + d = f.length → d < n → s.length ≤ j * 101 →
    leadlineref17_Key_l2 N leadlineref17_Key_j1 f n s (j : Int) = some (s ++ keyS (f.drop j)) := by
  intro d
  induction d with
  | zero =>
    intro j n s hj hn _
    obtain ⟨n, rfl⟩ : ∃ m, n = m + 1 := ⟨n - 1, by omega⟩
    rw [leadlineref17_Key_l2, if_neg (by omega), List.drop_of_length_le (by omega)]
    simp [leadlineref17_Key_j1, keyS]
  | succ d ih =>
    intro j n s hj hn hs
    obtain ⟨n, rfl⟩ : ∃ m, n = m + 1 := ⟨n - 1, by omega⟩
    have h1 : j < f.length := by omega
    have hk := hf f[j] (List.getElem_mem h1)
    have hl1 := show_len hk
    rw [leadlineref17_Key_l2, if_pos (by omega), getI_at rfl h1]
    simp only [Option.bind_some, ref_Show_eq hN hk]
    rw [catG_ok (by simp; omega)]
    simp only [Option.bind_some]
    rw [catG_ok (by simp; omega)]
    simp only [Option.bind_some]
    rw [wsucc h1 (by omega), ih (j + 1) n _ (by omega) (by omega) (by simp; omega), List.drop_eq_getElem_cons h1]
    simp only [keyS, List.flatMap_cons, List.append_assoc]
theorem Key_of {N : Nat} (hN : 1000 < N) {p f : List api_Event} {of : List Int} {s : Int} (h : trace_Form N p of s = some f) (hf : allE f) (hl : f.length ≤ 1000) : trace_Key N p of s = some (keyS f) := by
  unfold trace_Key
  rw [h]
  simp only [Option.bind_some]
  rw [show (0 : Int) = ((0 : Nat) : Int) from rfl, key_loop (by omega) hf hl f.length 0 N [] (by omega) (by omega) (by simp)]
  simp
theorem Key17_of {N : Nat} (hN : 1000 < N) {p f : List api_Event} {of : List Int} {s : Int} (h : leadlineref17_Form N p of s = some f) (hf : allE f) (hl : f.length ≤ 1000) : leadlineref17_Key N p of s = some (keyS f) := by
  unfold leadlineref17_Key
  rw [h]
  simp only [Option.bind_some]
  rw [show (0 : Int) = ((0 : Nat) : Int) from rfl, key_loop17 (by omega) hf hl f.length 0 N [] (by omega) (by omega) (by simp)]
  simp
end Go.MD.ET
