/- The laws TraceTells and TraceSteps. No condition: plain lemmas. -/
import Derived.Test.YtimaeihmnipfgaaDoorPS
namespace Go.MD.ET
open Go Go.MD
section
variable {p q : List api_Event} {of : List Int} {s : Int} {l : List api_Event}
theorem rowsI_small {dep : Nat → Nat → Bool} {n m : Nat} (hn : n ≤ 1000) : ∀ x ∈ rowsI dep n m, x.length ≤ 1000 := by
  intro x hx
  unfold rowsI at hx
  obtain ⟨v, _, rfl⟩ := List.mem_map.1 hx
  rw [natsI_len]
  exact Nat.le_trans (row_len n v) hn
theorem Form17X (hp : p.length ≤ 1000) (hk : okT p) (of : List Int) (s : Int) : ∃ f, leadlineref17_Form 1001 p of s = some f ∧ Fm (D17 of s) T17 p f :=
  ref_Form_eq (N := 1001) (by decide) hp (by omega) hk of s
theorem both_forms (hp : p.length ≤ 1000) (hE : allE p) (of : List Int) (s : Int) : ∃ f, trace_Form 1001 p of s = some f ∧ leadlineref17_Form 1001 p of s = some f ∧ allE f ∧ f.length ≤ 1000 := by
  by_cases hk : okT p
  · obtain ⟨f, f1, f2⟩ := FormX hp hk of s
    obtain ⟨g, g1, g2⟩ := Form17X hp hk of s
    have e : f = g := Fm.same f2 g2 (.refl p)
    subst e
    have hl := f2.tp.length
    exact ⟨f, f1, g1, TP.allE f2.tp hE, by omega⟩
  · exact ⟨[], Form_bad hp (by omega) hk of s, ref_Form_bad hp (by omega) hk of s, (fun x hx => by cases hx), by simp⟩
theorem both_steps (hp : p.length ≤ 1000) (of : List Int) (s : Int) : ∃ r, trace_Steps 1001 p of s = some r ∧ leadlineref17_Steps 1001 p of s = some r ∧ r.length ≤ 1000 ∧ ∀ x ∈ r, x.length ≤ 1000 := by
  by_cases hk : okT p
  · refine ⟨_, Steps_eq (by decide) hp hk of s, Steps17_eq (by decide) hp hk of s, ?_, rowsI_small hp⟩
    rw [rowsI_len]
    exact Nat.le_trans (nl_le _) hp
  · exact ⟨[], Steps_bad (by decide) hp hk of s, Steps17_bad (by decide) hp hk of s, by simp, fun x hx => by cases hx⟩
theorem both_swap (hp : p.length ≤ 1000) (i : Int) (of : List Int) (s : Int) : ∃ r, trace_Swap 1001 p i of s = some r ∧ leadlineref17_Swap 1001 p i of s = some r ∧ r.1.length ≤ 1000 := by
  rcases Swap_spec (N := 1001) (by decide) hp i of s with ⟨hy, e⟩ | ⟨hy, e⟩
  · rcases Swap17_spec (N := 1001) (by decide) hp i of s with ⟨hz, e'⟩ | ⟨hz, e'⟩
    · refine ⟨_, e, e', ?_⟩
      have h := hy.2.2
      show (swapped p i.toNat).length ≤ 1000
      rw [swapped_len (by omega)]; exact hp
    · exact absurd hy hz
  · rcases Swap17_spec (N := 1001) (by decide) hp i of s with ⟨hz, e'⟩ | ⟨hz, e'⟩
    · exact absurd hz hy
    · exact ⟨_, e, e', by simp⟩
theorem both_same (hp : p.length ≤ 1000) (hq : q.length ≤ 1000) (of : List Int) (s : Int) : ∃ b, trace_Same 1001 p q of s = some b ∧ leadlineref17_Same 1001 p q of s = some b := by
  obtain ⟨b, e1, i1⟩ := Same_spec (N := 1001) (by decide) hp hq of s
  obtain ⟨c, e2, i2⟩ := Same17_spec (N := 1001) (by decide) hp hq of s
  have : b = c := by rw [Bool.eq_iff_iff]; exact i1.trans i2.symm
  subst this
  exact ⟨b, e1, e2⟩
theorem TraceTells_eq (p1 : List api_Event) (h1 : allE p1) (p6 : List api_Event) (p11 p12 : Int) : leadlinelaw17_TraceTells 1001 p1 p6 p11 p12 = some true := by
  unfold leadlinelaw17_TraceTells
  rw [cut_eq, cut_eq]
  simp only [Option.bind_some]
  have hl : (p1.take 30).length ≤ 30 := by simp; omega
  have hm : (p6.take 30).length ≤ 30 := by simp; omega
  have hE : allE (p1.take 30) := fun x hx => h1 x (List.mem_of_mem_take hx)
  generalize p1.take 30 = l at hl hE
  generalize p6.take 30 = m at hm
  have e3 : ([0, 0, 1] : List Int) = of3 := rfl
  rw [appG_ok (by simp; omega) (by decide), e3]
  simp only [Option.bind_some, List.nil_append]
  obtain ⟨w, w1, w2, w3⟩ := both_swap (p := l) (by omega) p12 of3 p11
  obtain ⟨f, f1, f2, f3, f4⟩ := both_forms (p := l) (by omega) hE of3 p11
  obtain ⟨b, b1, b2⟩ := both_same (p := l) (q := m) (by omega) (by omega) of3 p11
  obtain ⟨r, r1, r2, r3, r4⟩ := both_steps (p := l) (by omega) of3 p11
  rw [w1, w2]
  simp only [Option.bind_some]
  rw [f1, f2]
  simp only [Option.bind_some]
  rw [Equal17 f4 (by omega)]
  simp only [Option.bind_some]
  rw [sure_ok (by simp), b1, b2]
  simp only [Option.bind_some]
  rw [sure_ok (by simp), Key_of (by decide) f1 f3 f4, Key17_of (by decide) f2 f3 f4]
  simp only [Option.bind_some]
  rw [sure_ok (by simp), Equal17 w3 (by omega)]
  simp only [Option.bind_some]
  rw [sure_ok (by simp)]
  simp only [Option.bind_some]
  rw [sure_ok (by simp), r1, r2]
  simp only [Option.bind_some]
  rw [Rows_same r3 r4 (by decide)]
  simp only [Option.bind_some]
  rw [sure_ok rfl, Equal17 (by omega) (by omega)]
  simp only [Option.bind_some]
  rw [sure_ok (by simp), fixed17]
  rfl

/-! TraceSteps -/
theorem sorted_lt {r : List Nat} (h : r.Pairwise (· < ·)) {i j : Nat} (hij : i < j) (hj : j < r.length) : (r[i]'(Nat.lt_trans hij hj)) < r[j] := by
  exact List.pairwise_iff_getElem.1 h i j (Nat.lt_trans hij hj) hj hij
theorem dp_at {i j : Nat} (hi : i < l.length) (hj : j < l.length) : dependS l[i] l[j] ([0, 0, 1] : List Int) s = dp of3 s l i j := by
  unfold dp; rw [ev_at hi, ev_at hj]; rfl
theorem ts_l8 {kf : Option Bool} (hl : l.length ≤ 1000) {v a : Nat} (ha : a < (rowN (dp of3 s l) l.length v).length) : ∀ (d b n : Nat), b + d = a → d < n →
    leadlinelaw17_TraceSteps_l8 1001 kf s l (natsI (rowN (dp of3 s l) l.length v)) ((rowN (dp of3 s l) l.length v)[a] : Int) (a : Int) n (b : Int) = kf := by
  intro d
  induction d with
  | zero =>
    intro b n hb hn
    obtain ⟨n, rfl⟩ : ∃ m, n = m + 1 := ⟨n - 1, by omega⟩
    rw [leadlinelaw17_TraceSteps_l8, if_neg (by omega)]
  | succ d ih =>
    intro b n hb hn
    obtain ⟨n, rfl⟩ : ∃ m, n = m + 1 := ⟨n - 1, by omega⟩
    have hb1 : b < (rowN (dp of3 s l) l.length v).length := by omega
    have m1 := mem_row.1 (List.getElem_mem hb1)
    have m2 := mem_row.1 (List.getElem_mem ha)
    have hlt := sorted_lt (row_sorted (dep := dp of3 s l) l.length v) (i := b) (j := a) (by omega) ha
    rw [leadlinelaw17_TraceSteps_l8, if_pos (by omega), natsI_get (List.getElem?_eq_getElem hb1)]
    simp only [Option.bind_some]
    rw [getI_at rfl m1.1, getI_at rfl m2.1]
    simp only [Option.bind_some]
    rw [ref_Depend_eq (by decide)]
    simp only [Option.bind_some]
    have hd : dependS l[(rowN (dp of3 s l) l.length v)[b]] l[(rowN (dp of3 s l) l.length v)[a]] ([0, 0, 1] : List Int) s = false := by
      rw [dp_at m1.1 m2.1]
      cases hd : dp of3 s l (rowN (dp of3 s l) l.length v)[b] (rowN (dp of3 s l) l.length v)[a] with
      | false => rfl
      | true =>
        have := lev_gt hlt hd
        omega
    rw [hd, sure_ok (b := !false) rfl]
    simp only [Option.bind_some]
    have hrl := row_len (dep := dp of3 s l) l.length v
    rw [wsucc (j := b) (n := a) (by omega) (by omega)]
    exact ih (b + 1) n (by omega) (by omega)
theorem ts_l10 {kf : Bool → Option Bool} (hl : l.length ≤ 1000) {v k : Nat} (hv : v < nl (dp of3 s l) l.length) (hk : k < l.length) : ∀ (d b n : Nat) (g : Bool), b + d = (rowN (dp of3 s l) l.length v).length → d < n →
    leadlinelaw17_TraceSteps_l10 1001 kf s l (rowsI (dp of3 s l) l.length (nl (dp of3 s l) l.length)) (k : Int) ((v + 1 : Nat) : Int) n g (b : Int) = kf (g || ((rowN (dp of3 s l) l.length v).drop b).any fun e => decide (e < k) && dp of3 s l e k) := by
  have hnl := nl_le (dep := dp of3 s l) l.length
  have hrl := row_len (dep := dp of3 s l) l.length v
  have hw : IntKind.i64.wrap (((v + 1 : Nat) : Int) - 1) = (v : Int) := by rw [w64 (by omega) (by omega)]; omega
  intro d
  induction d with
  | zero =>
    intro b n g hb hn
    obtain ⟨n, rfl⟩ : ∃ m, n = m + 1 := ⟨n - 1, by omega⟩
    rw [leadlinelaw17_TraceSteps_l10, if_pos (by omega), hw, rowsI_get hv]
    simp only [Option.bind_some]
    rw [natsI_len, decide_eq_false (by omega), leadlinelaw17_TraceSteps_j11, if_neg (by decide), List.drop_of_length_le (by omega)]
    simp
  | succ d ih =>
    intro b n g hb hn
    obtain ⟨n, rfl⟩ : ∃ m, n = m + 1 := ⟨n - 1, by omega⟩
    have hb1 : b < (rowN (dp of3 s l) l.length v).length := by omega
    have m1 := mem_row.1 (List.getElem_mem hb1)
    have next : ∀ g', leadlinelaw17_TraceSteps_j12 (leadlinelaw17_TraceSteps_l10 1001 kf s l (rowsI (dp of3 s l) l.length (nl (dp of3 s l) l.length)) (k : Int) ((v + 1 : Nat) : Int) n) (b : Int) g' = kf (g' || ((rowN (dp of3 s l) l.length v).drop (b + 1)).any fun e => decide (e < k) && dp of3 s l e k) := by
      intro g'
      rw [leadlinelaw17_TraceSteps_j12, wsucc (j := b) hb1 (by omega)]
      exact ih (b + 1) n g' (by omega) (by omega)
    rw [leadlinelaw17_TraceSteps_l10, if_pos (by omega), hw, rowsI_get hv]
    simp only [Option.bind_some]
    rw [natsI_len, decide_eq_true (by omega), leadlinelaw17_TraceSteps_j11, if_pos rfl, List.drop_eq_getElem_cons hb1, List.any_cons]
    cases g with
    | true => rw [if_pos rfl, next]; simp
    | false =>
      rw [if_neg (by decide), hw, rowsI_get hv]
      simp only [Option.bind_some]
      rw [natsI_get (List.getElem?_eq_getElem hb1)]
      simp only [Option.bind_some]
      by_cases hlt : (rowN (dp of3 s l) l.length v)[b] < k
      · rw [if_pos (by omega), getI_at rfl m1.1, getI_at rfl hk]
        simp only [Option.bind_some]
        rw [ref_Depend_eq (by decide)]
        simp only [Option.bind_some]
        rw [dp_at m1.1 hk, next, decide_eq_true hlt]
        simp
      · rw [if_neg (by omega), next, decide_eq_false hlt]
        simp
theorem ts_some {n k v : Nat} {dep : Nat → Nat → Bool} (hk : k < n) (h : lev dep k = v + 1) : ((rowN dep n v).any fun e => decide (e < k) && dep e k) = true := by
  rcases lev_some (dep := dep) k with e | ⟨i, h1, h2, h3⟩
  · omega
  · rw [List.any_eq_true]
    exact ⟨i, mem_row.2 ⟨by omega, by omega⟩, by simp [h1, h2]⟩
theorem ts_j7 {kf : Option Bool} (hl : l.length ≤ 1000) {v k : Nat} (hv : v < nl (dp of3 s l) l.length) (hk : k < l.length) (hlev : lev (dp of3 s l) k = v) :
    leadlinelaw17_TraceSteps_j7 1001 kf s l (rowsI (dp of3 s l) l.length (nl (dp of3 s l) l.length)) (k : Int) (v : Int) = kf := by
  rw [leadlinelaw17_TraceSteps_j7]
  cases v with
  | zero =>
    rw [leadlinelaw17_TraceSteps_l10, if_neg (by simp), leadlinelaw17_TraceSteps_j11, if_neg (by decide), leadlinelaw17_TraceSteps_j9, sure_ok (by simp)]
    rfl
  | succ v =>
    have hrl := row_len (dep := dp of3 s l) l.length v
    rw [decide_eq_false (by omega), show (0 : Int) = ((0 : Nat) : Int) from rfl, ts_l10 hl (by omega) hk (rowN (dp of3 s l) l.length v).length 0 1001 false (by omega) (by omega), List.drop_zero, ts_some hk hlev, leadlinelaw17_TraceSteps_j9, sure_ok (by simp)]
    rfl
theorem ts_l4 {kf : Int → Option Bool} (hl : l.length ≤ 1000) {v : Nat} (hv : v < nl (dp of3 s l) l.length) : ∀ (d a n c : Nat), a + d = (rowN (dp of3 s l) l.length v).length → d < n → c + d ≤ 100000 →
    leadlinelaw17_TraceSteps_l4 1001 kf s l (rowsI (dp of3 s l) l.length (nl (dp of3 s l) l.length)) (v : Int) n (c : Int) (a : Int) = kf ((c + d : Nat) : Int) := by
  have hrl := row_len (dep := dp of3 s l) l.length v
  intro d
  induction d with
  | zero =>
    intro a n c ha hn _
    obtain ⟨n, rfl⟩ : ∃ m, n = m + 1 := ⟨n - 1, by omega⟩
    rw [leadlinelaw17_TraceSteps_l4, rowsI_get hv]
    simp only [Option.bind_some]
    rw [natsI_len, if_neg (by omega)]
    rfl
  | succ d ih =>
    intro a n c ha hn hc
    obtain ⟨n, rfl⟩ : ∃ m, n = m + 1 := ⟨n - 1, by omega⟩
    have ha1 : a < (rowN (dp of3 s l) l.length v).length := by omega
    have m1 := mem_row.1 (List.getElem_mem ha1)
    rw [leadlinelaw17_TraceSteps_l4, rowsI_get hv]
    simp only [Option.bind_some]
    rw [natsI_len, if_pos (by omega), natsI_get (List.getElem?_eq_getElem ha1)]
    simp only [Option.bind_some]
    have go : leadlinelaw17_TraceSteps_j6 1001 (leadlinelaw17_TraceSteps_j5 (leadlinelaw17_TraceSteps_l4 1001 kf s l (rowsI (dp of3 s l) l.length (nl (dp of3 s l) l.length)) (v : Int) n) (c : Int) (a : Int)) s l (rowsI (dp of3 s l) l.length (nl (dp of3 s l) l.length)) (natsI (rowN (dp of3 s l) l.length v)) ((rowN (dp of3 s l) l.length v)[a] : Int) (a : Int) (v : Int) false = kf ((c + (d + 1) : Nat) : Int) := by
      rw [leadlinelaw17_TraceSteps_j6, sure_ok (b := !false) rfl]
      simp only [Option.bind_some]
      rw [show (0 : Int) = ((0 : Nat) : Int) from rfl, ts_l8 hl ha1 a 0 1001 (by omega) (by omega), ts_j7 hl hv m1.1 m1.2, leadlinelaw17_TraceSteps_j5, wsucc (j := c) (n := 1000000) (by omega) (by decide), wsucc (j := a) ha1 (by omega)]
      rw [ih (a + 1) n (c + 1) (by omega) (by omega) (by omega)]
      congr 2; omega
    rw [if_neg (by simp; omega)]
    by_cases h0 : 0 < a
    · have hp : a - 1 < (rowN (dp of3 s l) l.length v).length := by omega
      have hlt := sorted_lt (row_sorted (dep := dp of3 s l) l.length v) (i := a - 1) (j := a) (by omega) ha1
      rw [if_pos (by omega), w64 (by omega) (by omega), show ((a : Int) - 1) = ((a - 1 : Nat) : Int) by omega, natsI_get (List.getElem?_eq_getElem hp)]
      simp only [Option.bind_some]
      rw [decide_eq_false (by omega)]
      exact go
    · rw [if_neg (by omega)]
      exact go
theorem ts_l2 (hl : l.length ≤ 1000) : ∀ (d v n c : Nat), v + d = nl (dp of3 s l) l.length → d < n → c + cntN (dp of3 s l) l.length v = l.length →
    leadlinelaw17_TraceSteps_l2 1001 (leadlinelaw17_TraceSteps_j1 1001 l) s l (rowsI (dp of3 s l) l.length (nl (dp of3 s l) l.length)) n (c : Int) (v : Int) = some true := by
  have hnl := nl_le (dep := dp of3 s l) l.length
  intro d
  induction d with
  | zero =>
    intro v n c hv hn hc
    obtain ⟨n, rfl⟩ : ∃ m, n = m + 1 := ⟨n - 1, by omega⟩
    have : v = nl (dp of3 s l) l.length := by omega
    subst this
    rw [cnt_nl] at hc
    rw [leadlinelaw17_TraceSteps_l2, rowsI_len, if_neg (by omega), leadlinelaw17_TraceSteps_j1, if_pos (by omega), fixed17]
    rfl
  | succ d ih =>
    intro v n c hv hn hc
    obtain ⟨n, rfl⟩ : ∃ m, n = m + 1 := ⟨n - 1, by omega⟩
    have hrl := row_len (dep := dp of3 s l) l.length v
    have hstep := cnt_step (dep := dp of3 s l) l.length v
    rw [leadlinelaw17_TraceSteps_l2, rowsI_len, if_pos (by omega), show (0 : Int) = ((0 : Nat) : Int) from rfl, ts_l4 hl (by omega) (rowN (dp of3 s l) l.length v).length 0 1001 c (by omega) (by omega) (by omega), leadlinelaw17_TraceSteps_j3, wsucc (j := v) (n := nl (dp of3 s l) l.length) (by omega) (by omega)]
    exact ih (v + 1) n _ (by omega) (by omega) (by omega)
theorem TraceSteps_eq (p1 : List api_Event) (p6 : Int) : leadlinelaw17_TraceSteps 1001 p1 p6 = some true := by
  unfold leadlinelaw17_TraceSteps
  rw [threads_eq (by decide) p1]
  simp only [Option.bind_some]
  have hk := threads_okT p1
  have hl := threads_len p1
  generalize (p1.take 30).map low = l at hk hl
  have e3 : ([0, 0, 1] : List Int) = of3 := rfl
  rw [e3, Steps_eq (by decide) (by omega) hk]
  simp only [Option.bind_some]
  have hnl := nl_le (dep := dp of3 p6 l) l.length
  rw [show (0 : Int) = ((0 : Nat) : Int) from rfl]
  exact ts_l2 (by omega) (nl (dp of3 p6 l) l.length) 0 1001 0 (by omega) (by omega) (by rw [cnt_zero]; omega)
end
end Go.MD.ET
