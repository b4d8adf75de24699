/- What the functions of the layer of events compute. No condition: plain lemmas. -/
import Derived.Test.YtimaeihmnipfgaaDoorETP
import Derived.Test.YtimaeihmnipfgaaDoorPL
namespace Go.MD.ET
open Go Go.MD

def usesS (v : api_Event) (of : List Int) (stays : Int) : List api_Use :=
  if v.Kind = 1 ∨ v.Kind = 9 then [⟨1, v.A, false⟩]
  else if v.Kind = 8 ∨ v.Kind = 12 then ⟨1, v.A, true⟩ :: (if 0 ≤ v.A ∧ v.A < stays then (match of[v.A.toNat]? with | some n => [⟨2, n, true⟩] | none => []) else [])
  else if v.Kind = 13 then [⟨2, v.A, true⟩]
  else if v.Kind = 10 ∨ v.Kind = 11 then [⟨3, v.A, true⟩]
  else if v.Kind = 15 ∨ v.Kind = 16 then [⟨4, 0, true⟩]
  else []
theorem usesS_len (v : api_Event) (of : List Int) (stays : Int) : (usesS v of stays).length ≤ 2 := by
  unfold usesS
  repeat' split
  all_goals simp
theorem app1 (x : api_Use) : appG 24 ([] : List api_Use) [x] = some [x] := by rw [appG_ok (by simp) (by decide)]; rfl
theorem app2 (x y : api_Use) : appG 24 [x] [y] = some [x, y] := by rw [appG_ok (by simp) (by decide)]; rfl
theorem kcases (k : Int) : (k = 1 ∨ k = 2 ∨ k = 3 ∨ k = 4 ∨ k = 5 ∨ k = 6 ∨ k = 7 ∨ k = 8) ∨ (k = 9 ∨ k = 10 ∨ k = 11 ∨ k = 12 ∨ k = 13 ∨ k = 14 ∨ k = 15 ∨ k = 16) ∨ (k < 1 ∨ 16 < k) := by omega
theorem event_Uses_eq (N : Nat) (v : api_Event) (of : List Int) (stays : Int) : event_Uses N v of stays = some (usesS v of stays) := by
  obtain ⟨k, t, a, n, m⟩ := v
  by_cases h3 : 0 ≤ a ∧ a < stays
  · have e1 : ¬ a < 0 := by omega
    have e2 : ¬ stays ≤ a := by omega
    by_cases h4 : a.toNat < of.length
    · have e3 : ¬ (of.length : Int) ≤ a := by omega
      have e4 := getI_at (i := a) (j := a.toNat) (by omega) h4
      rcases kcases k with h | h | h
      · rcases h with h | h | h | h | h | h | h | h
        all_goals (subst h; simp [event_Uses, event_Uses_j3, event_Uses_j4, event_Uses_j5, event_Uses_j6, event_Uses_j2, event_Uses_j1, usesS, app1, app2, e1, e2, e3, e4, h3, h4])
      · rcases h with h | h | h | h | h | h | h | h
        all_goals (subst h; simp [event_Uses, event_Uses_j3, event_Uses_j4, event_Uses_j5, event_Uses_j6, event_Uses_j2, event_Uses_j1, usesS, app1, app2, e1, e2, e3, e4, h3, h4])
      · have q1 : k ≠ 1 ∧ k ≠ 8 ∧ k ≠ 9 ∧ k ≠ 10 ∧ k ≠ 11 ∧ k ≠ 12 ∧ k ≠ 13 ∧ k ≠ 15 ∧ k ≠ 16 := by omega
        simp [event_Uses, event_Uses_j3, event_Uses_j4, event_Uses_j5, event_Uses_j6, event_Uses_j2, event_Uses_j1, usesS, app1, app2, q1]
    · have e3 : (of.length : Int) ≤ a := by omega
      rcases kcases k with h | h | h
      · rcases h with h | h | h | h | h | h | h | h
        all_goals (subst h; simp [event_Uses, event_Uses_j3, event_Uses_j4, event_Uses_j5, event_Uses_j6, event_Uses_j2, event_Uses_j1, usesS, app1, app2, e1, e2, e3, h3, h4])
      · rcases h with h | h | h | h | h | h | h | h
        all_goals (subst h; simp [event_Uses, event_Uses_j3, event_Uses_j4, event_Uses_j5, event_Uses_j6, event_Uses_j2, event_Uses_j1, usesS, app1, app2, e1, e2, e3, h3, h4])
      · have q1 : k ≠ 1 ∧ k ≠ 8 ∧ k ≠ 9 ∧ k ≠ 10 ∧ k ≠ 11 ∧ k ≠ 12 ∧ k ≠ 13 ∧ k ≠ 15 ∧ k ≠ 16 := by omega
        simp [event_Uses, event_Uses_j3, event_Uses_j4, event_Uses_j5, event_Uses_j6, event_Uses_j2, event_Uses_j1, usesS, app1, app2, q1]
  · have e1 : a < 0 ∨ stays ≤ a := by omega
    rcases kcases k with h | h | h
    · rcases h with h | h | h | h | h | h | h | h
      all_goals (subst h; simp [event_Uses, event_Uses_j3, event_Uses_j4, event_Uses_j5, event_Uses_j6, event_Uses_j2, event_Uses_j1, usesS, app1, app2, e1, h3])
    · rcases h with h | h | h | h | h | h | h | h
      all_goals (subst h; simp [event_Uses, event_Uses_j3, event_Uses_j4, event_Uses_j5, event_Uses_j6, event_Uses_j2, event_Uses_j1, usesS, app1, app2, e1, h3])
    · have q1 : k ≠ 1 ∧ k ≠ 8 ∧ k ≠ 9 ∧ k ≠ 10 ∧ k ≠ 11 ∧ k ≠ 12 ∧ k ≠ 13 ∧ k ≠ 15 ∧ k ≠ 16 := by omega
      simp [event_Uses, event_Uses_j3, event_Uses_j4, event_Uses_j5, event_Uses_j6, event_Uses_j2, event_Uses_j1, usesS, app1, app2, q1]
theorem ref_Uses_eq (N : Nat) (v : api_Event) (of : List Int) (stays : Int) : leadlineref15_Uses N v of stays = some (usesS v of stays) := by
  obtain ⟨k, t, a, n, m⟩ := v
  by_cases h3 : 0 ≤ a ∧ a < stays
  · by_cases h4 : a.toNat < of.length
    · have e3 : a < (of.length : Int) := by omega
      have e4 := getI_at (i := a) (j := a.toNat) (by omega) h4
      rcases kcases k with h | h | h
      · rcases h with h | h | h | h | h | h | h | h
        all_goals (subst h; simp [leadlineref15_Uses, leadlineref15_Uses_j1, leadlineref15_Uses_j2, leadlineref15_Uses_j3, leadlineref15_Uses_j4, leadlineref15_Uses_j5, usesS, app2, e3, e4, h3, h4])
      · rcases h with h | h | h | h | h | h | h | h
        all_goals (subst h; simp [leadlineref15_Uses, leadlineref15_Uses_j1, leadlineref15_Uses_j2, leadlineref15_Uses_j3, leadlineref15_Uses_j4, leadlineref15_Uses_j5, usesS, app2, e3, e4, h3, h4])
      · have q1 : k ≠ 1 ∧ k ≠ 8 ∧ k ≠ 9 ∧ k ≠ 10 ∧ k ≠ 11 ∧ k ≠ 12 ∧ k ≠ 13 ∧ k ≠ 15 ∧ k ≠ 16 := by omega
        simp [leadlineref15_Uses, leadlineref15_Uses_j1, leadlineref15_Uses_j2, leadlineref15_Uses_j3, leadlineref15_Uses_j4, leadlineref15_Uses_j5, usesS, q1]
    · have e3 : ¬ a < (of.length : Int) := by omega
      rcases kcases k with h | h | h
      · rcases h with h | h | h | h | h | h | h | h
        all_goals (subst h; simp [leadlineref15_Uses, leadlineref15_Uses_j1, leadlineref15_Uses_j2, leadlineref15_Uses_j3, leadlineref15_Uses_j4, leadlineref15_Uses_j5, usesS, e3, h3, h4])
      · rcases h with h | h | h | h | h | h | h | h
        all_goals (subst h; simp [leadlineref15_Uses, leadlineref15_Uses_j1, leadlineref15_Uses_j2, leadlineref15_Uses_j3, leadlineref15_Uses_j4, leadlineref15_Uses_j5, usesS, e3, h3, h4])
      · have q1 : k ≠ 1 ∧ k ≠ 8 ∧ k ≠ 9 ∧ k ≠ 10 ∧ k ≠ 11 ∧ k ≠ 12 ∧ k ≠ 13 ∧ k ≠ 15 ∧ k ≠ 16 := by omega
        simp [leadlineref15_Uses, leadlineref15_Uses_j1, leadlineref15_Uses_j2, leadlineref15_Uses_j3, leadlineref15_Uses_j4, leadlineref15_Uses_j5, usesS, q1]
  · have e1 : ¬ ((0 ≤ a ∧ a < stays) ∧ a < (of.length : Int)) := by omega
    rcases kcases k with h | h | h
    · rcases h with h | h | h | h | h | h | h | h
      all_goals (subst h; simp [leadlineref15_Uses, leadlineref15_Uses_j1, leadlineref15_Uses_j2, leadlineref15_Uses_j3, leadlineref15_Uses_j4, leadlineref15_Uses_j5, usesS, e1, h3])
    · rcases h with h | h | h | h | h | h | h | h
      all_goals (subst h; simp [leadlineref15_Uses, leadlineref15_Uses_j1, leadlineref15_Uses_j2, leadlineref15_Uses_j3, leadlineref15_Uses_j4, leadlineref15_Uses_j5, usesS, e1, h3])
    · have q1 : k ≠ 1 ∧ k ≠ 8 ∧ k ≠ 9 ∧ k ≠ 10 ∧ k ≠ 11 ∧ k ≠ 12 ∧ k ≠ 13 ∧ k ≠ 15 ∧ k ≠ 16 := by omega
      simp [leadlineref15_Uses, leadlineref15_Uses_j1, leadlineref15_Uses_j2, leadlineref15_Uses_j3, leadlineref15_Uses_j4, leadlineref15_Uses_j5, usesS, q1]

theorem Same_loop (N : Nat) (k : Option Bool) (p q : List api_Use) (hl : p.length = q.length) (hp : p.length ≤ 1000) : ∀ (d j n : Nat), j + d = p.length → d < n →
    leadlineref15_Same_l2 N k p q n (j : Int) = if p.drop j = q.drop j then k else some false := by
  intro d
  induction d with
  | zero =>
    intro j n hj hn
    obtain ⟨n, rfl⟩ : ∃ m, n = m + 1 := ⟨n - 1, by omega⟩
    rw [leadlineref15_Same_l2, if_neg (by omega), List.drop_of_length_le (by omega), List.drop_of_length_le (by omega), if_pos rfl]
  | succ d ih =>
    intro j n hj hn
    obtain ⟨n, rfl⟩ : ∃ m, n = m + 1 := ⟨n - 1, by omega⟩
    have h1 : j < p.length := by omega
    have h2 : j < q.length := by omega
    rw [leadlineref15_Same_l2, if_pos (by omega), getI_at rfl h1, getI_at rfl h2]
    simp only [Option.bind_some]
    rw [wsucc h1 (by omega), ih (j + 1) n (by omega) (by omega), List.drop_eq_getElem_cons h1, List.drop_eq_getElem_cons h2]
    by_cases e : p[j] = q[j]
    · simp only [ne_eq, e, not_true_eq_false, if_false, List.cons.injEq, true_and]
    · simp only [ne_eq, e, not_false_eq_true, if_true, if_false, List.cons.injEq, false_and]
theorem Same_eq {N : Nat} {p q : List api_Use} (hp : p.length ≤ 1000) (hN : p.length < N) : leadlineref15_Same N p q = some (decide (p = q)) := by
  unfold leadlineref15_Same
  by_cases h : p.length = q.length
  · rw [if_neg (by omega)]
    have := Same_loop N leadlineref15_Same_j1 p q h hp p.length 0 N (by omega) hN
    rw [show (0 : Int) = ((0 : Nat) : Int) from rfl, this]
    simp only [List.drop_zero, leadlineref15_Same_j1]
    split <;> simp_all
  · rw [if_pos (by omega)]
    have : p ≠ q := fun e => h (by rw [e])
    simp [this]

def clashS (x y : api_Use) : Bool := (decide (x.What = 4) || decide (y.What = 4)) || ((decide (x.What = y.What) && decide (x.N = y.N)) && (x.Write || y.Write))
theorem Clash_eq (N : Nat) (x y : api_Use) : event_Clash N x y = some (clashS x y) := by
  unfold event_Clash clashS
  split
  · rename_i h; rw [h]; rfl
  · rename_i h
    rw [Bool.not_eq_true] at h
    rw [h]; rfl
theorem ref_Clash_eq (N : Nat) (x y : api_Use) : leadlineref15_Clash N x y = some (clashS x y) := rfl
theorem clashS_comm (x y : api_Use) : clashS x y = clashS y x := by
  unfold clashS
  have e1 : decide (x.What = y.What) = decide (y.What = x.What) := decide_eq_decide.2 ⟨Eq.symm, Eq.symm⟩
  have e2 : decide (x.N = y.N) = decide (y.N = x.N) := decide_eq_decide.2 ⟨Eq.symm, Eq.symm⟩
  rw [e1, e2, Bool.or_comm (decide (x.What = 4)), Bool.or_comm x.Write]
def hardS (a : api_Event) : Bool := decide (a.Kind = 15) || decide (a.Kind = 16)
def dependS (a b : api_Event) (of : List Int) (stays : Int) : Bool :=
  (decide (a.T = b.T) || hardS a || hardS b) || (usesS a of stays).any fun x => (usesS b of stays).any fun y => clashS x y

theorem Index1 {N : Nat} {p : List api_Use} (y : api_Use) (hp : p.length ≤ 1000) : ∀ (d j n : Nat), j + d = p.length → d < n →
    ∃ r, slices_IndexFunc_api_Use_api_Use__Depend_1_1_l2 N slices_IndexFunc_api_Use_api_Use__Depend_1_1_j1 p y n (j : Int) = some r ∧ decide (0 ≤ r) = (p.drop j).any fun x => clashS y x := by
  intro d
  induction d with
  | zero =>
    intro j n hj hn
    obtain ⟨n, rfl⟩ : ∃ m, n = m + 1 := ⟨n - 1, by omega⟩
    rw [slices_IndexFunc_api_Use_api_Use__Depend_1_1_l2, if_neg (by omega), List.drop_of_length_le (by omega)]
    exact ⟨-1, rfl, rfl⟩
  | succ d ih =>
    intro j n hj hn
    obtain ⟨n, rfl⟩ : ∃ m, n = m + 1 := ⟨n - 1, by omega⟩
    have h1 : j < p.length := by omega
    rw [slices_IndexFunc_api_Use_api_Use__Depend_1_1_l2, if_pos (by omega), getI_at rfl h1]
    simp only [Option.bind_some, event_Depend_1_1, Clash_eq]
    rw [List.drop_eq_getElem_cons h1, List.any_cons]
    cases hc : clashS y p[j] with
    | true => exact ⟨j, by simp, by simp⟩
    | false =>
      rw [wsucc h1 (by omega)]
      obtain ⟨r, h2, h3⟩ := ih (j + 1) n (by omega) (by omega)
      exact ⟨r, by simpa using h2, by simpa using h3⟩
theorem Contains1 {N : Nat} {p : List api_Use} (y : api_Use) (hp : p.length ≤ 1000) (hN : p.length < N) : slices_ContainsFunc_api_Use_api_Use__Depend_1_1 N p y = some (p.any fun x => clashS y x) := by
  obtain ⟨r, h1, h2⟩ := Index1 (N := N) y hp p.length 0 N (by omega) hN
  unfold slices_ContainsFunc_api_Use_api_Use__Depend_1_1 slices_IndexFunc_api_Use_api_Use__Depend_1_1
  rw [show (0 : Int) = ((0 : Nat) : Int) from rfl, h1]
  simpa using h2
theorem Index2 {N : Nat} {p q : List api_Use} (hp : p.length ≤ 1000) (hq : q.length ≤ 1000) (hN : q.length < N) : ∀ (d j n : Nat), j + d = p.length → d < n →
    ∃ r, slices_IndexFunc_api_Use_api_Use__Depend_1_l2 N slices_IndexFunc_api_Use_api_Use__Depend_1_j1 p q n (j : Int) = some r ∧ decide (0 ≤ r) = (p.drop j).any fun x => q.any fun y => clashS x y := by
  intro d
  induction d with
  | zero =>
    intro j n hj hn
    obtain ⟨n, rfl⟩ : ∃ m, n = m + 1 := ⟨n - 1, by omega⟩
    rw [slices_IndexFunc_api_Use_api_Use__Depend_1_l2, if_neg (by omega), List.drop_of_length_le (by omega)]
    exact ⟨-1, rfl, rfl⟩
  | succ d ih =>
    intro j n hj hn
    obtain ⟨n, rfl⟩ : ∃ m, n = m + 1 := ⟨n - 1, by omega⟩
    have h1 : j < p.length := by omega
    rw [slices_IndexFunc_api_Use_api_Use__Depend_1_l2, if_pos (by omega), getI_at rfl h1]
    simp only [Option.bind_some, event_Depend_1, Contains1 p[j] hq hN]
    rw [List.drop_eq_getElem_cons h1, List.any_cons]
    cases hc : q.any fun x => clashS p[j] x with
    | true => exact ⟨j, by simp, by simp⟩
    | false =>
      rw [wsucc h1 (by omega)]
      obtain ⟨r, h2, h3⟩ := ih (j + 1) n (by omega) (by omega)
      exact ⟨r, by simpa using h2, by simpa using h3⟩
theorem Contains2 {N : Nat} {p q : List api_Use} (hp : p.length ≤ 1000) (hq : q.length ≤ 1000) (hN : q.length < N) (hN2 : p.length < N) : slices_ContainsFunc_api_Use_api_Use__Depend_1 N p q = some (p.any fun x => q.any fun y => clashS x y) := by
  obtain ⟨r, h1, h2⟩ := Index2 (N := N) hp hq hN p.length 0 N (by omega) hN2
  unfold slices_ContainsFunc_api_Use_api_Use__Depend_1 slices_IndexFunc_api_Use_api_Use__Depend_1
  rw [show (0 : Int) = ((0 : Nat) : Int) from rfl, h1]
  simpa using h2
theorem Depend_eq {N : Nat} (hN : 3 ≤ N) (a b : api_Event) (of : List Int) (stays : Int) : event_Depend N a b of stays = some (dependS a b of stays) := by
  have h1 := usesS_len a of stays
  have h2 := usesS_len b of stays
  have hc := Contains2 (N := N) (p := usesS a of stays) (q := usesS b of stays) (by omega) (by omega) (by omega) (by omega)
  unfold event_Depend dependS hardS
  simp only [event_all, Option.bind_some, event_Depend_j1, event_Uses_eq, hc]
  by_cases e1 : a.T = b.T
  · simp [e1]
  · simp only [e1, if_false, decide_false, Bool.false_or]
    cases (decide (a.Kind = 15) || decide (a.Kind = 16)) with
    | true => simp
    | false =>
      cases (decide (b.Kind = 15) || decide (b.Kind = 16)) with
      | true => simp
      | false => simp
theorem refD4 {N : Nat} {k : Option Bool} {p q : List api_Use} {i : Nat} (hi : i < p.length) (hq : q.length ≤ 1000) : ∀ (d j n : Nat), j + d = q.length → d < n →
    leadlineref15_Depend_l4 N k p q (i : Int) n (j : Int) = if ((q.drop j).any fun y => clashS p[i] y) = true then some true else k := by
  intro d
  induction d with
  | zero =>
    intro j n hj hn
    obtain ⟨n, rfl⟩ : ∃ m, n = m + 1 := ⟨n - 1, by omega⟩
    rw [leadlineref15_Depend_l4, if_neg (by omega), List.drop_of_length_le (by omega)]
    rfl
  | succ d ih =>
    intro j n hj hn
    obtain ⟨n, rfl⟩ : ∃ m, n = m + 1 := ⟨n - 1, by omega⟩
    have h1 : j < q.length := by omega
    rw [leadlineref15_Depend_l4, if_pos (by omega), getI_at rfl hi, getI_at rfl h1]
    simp only [Option.bind_some, ref_Clash_eq]
    rw [List.drop_eq_getElem_cons h1, List.any_cons]
    cases hc : clashS p[i] q[j] with
    | true => simp
    | false =>
      rw [wsucc h1 (by omega), ih (j + 1) n (by omega) (by omega)]
      simp
theorem refD2 {N : Nat} {k : Option Bool} {p q : List api_Use} (hp : p.length ≤ 1000) (hq : q.length ≤ 1000) (hN : q.length < N) : ∀ (d i n : Nat), i + d = p.length → d < n →
    leadlineref15_Depend_l2 N k p q n (i : Int) = if ((p.drop i).any fun x => q.any fun y => clashS x y) = true then some true else k := by
  intro d
  induction d with
  | zero =>
    intro j n hj hn
    obtain ⟨n, rfl⟩ : ∃ m, n = m + 1 := ⟨n - 1, by omega⟩
    rw [leadlineref15_Depend_l2, if_neg (by omega), List.drop_of_length_le (by omega)]
    rfl
  | succ d ih =>
    intro i n hj hn
    obtain ⟨n, rfl⟩ : ∃ m, n = m + 1 := ⟨n - 1, by omega⟩
    have h1 : i < p.length := by omega
    rw [leadlineref15_Depend_l2, if_pos (by omega), show (0 : Int) = ((0 : Nat) : Int) from rfl, refD4 h1 hq q.length 0 N (by omega) hN]
    rw [List.drop_eq_getElem_cons h1, List.any_cons, List.drop_zero]
    cases hc : q.any fun y => clashS p[i] y with
    | true => simp
    | false =>
      simp only [leadlineref15_Depend_j3]
      rw [wsucc h1 (by omega), ih (i + 1) n (by omega) (by omega)]
      simp
theorem hard_iff (k : Int) : (decide (15 ≤ k) && decide (k ≤ 16)) = (decide (k = 15) || decide (k = 16)) := by
  rw [Bool.eq_iff_iff]; simp; omega
theorem ref_Depend_eq {N : Nat} (hN : 3 ≤ N) (a b : api_Event) (of : List Int) (stays : Int) : leadlineref15_Depend N a b of stays = some (dependS a b of stays) := by
  have h1 := usesS_len a of stays
  have h2 := usesS_len b of stays
  unfold leadlineref15_Depend dependS hardS
  simp only [hard_iff, ref_Uses_eq, Option.bind_some]
  rw [show (0 : Int) = ((0 : Nat) : Int) from rfl, refD2 (by omega) (by omega) (by omega) _ 0 N (by rw [Nat.zero_add]) (by omega), List.drop_zero]
  cases (decide (a.T = b.T) || (decide (a.Kind = 15) || decide (a.Kind = 16)) || (decide (b.Kind = 15) || decide (b.Kind = 16))) with
  | true => simp
  | false => simp only [Bool.false_eq_true, if_false, Bool.false_or, leadlineref15_Depend_j1]; split <;> simp_all
end Go.MD.ET
