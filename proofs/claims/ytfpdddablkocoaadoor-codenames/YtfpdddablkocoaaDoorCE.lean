/- What steps make of numbers. No condition: plain lemmas. -/
import Derived.Test.YtfpdddablkocoaaDoorCDP
import Derived.Test.YtfpdddablkocoaaDoorPL
namespace Go.MD.CODE
open Go Go.MD

def wN (k : Int) : Nat := if k = 3 ∨ k = 4 then 1 else if 5 ≤ k ∧ k ≤ 15 then 2 else 0
theorem wants_eq (N : Nat) (k : Int) : code_wants N k = some (wN k : Int) := by
  unfold code_wants wN
  by_cases h1 : k = 3 ∨ k = 4
  · rw [if_pos (by simpa using h1), if_pos h1]; rfl
  · rw [if_neg (by simpa using h1), if_neg h1]
    by_cases h2 : 5 ≤ k ∧ k ≤ 15
    · rw [if_pos (by simpa using h2), if_pos h2]; rfl
    · rw [if_neg (by simpa using h2), if_neg h2]; rfl
theorem wN_le (k : Int) : wN k ≤ 2 := by unfold wN; split <;> (try split) <;> omega
def oneS (k a : Int) : Int := if k = 3 then IntKind.i64.wrap (0 - a) else if a = 0 then 1 else 0
theorem One_eq (N : Nat) {k : Int} (h : wN k = 1) (a : Int) : words_One N k a = some (oneS k a, 0) := by
  have hk : k = 3 ∨ k = 4 := by
    unfold wN at h; split at h
    · assumption
    · split at h <;> omega
  unfold words_One oneS words_Truth words_Bool
  rcases hk with rfl | rfl
  · simp
  · by_cases e : a = 0 <;> simp [e]
def b01 (b : Bool) : Int := if b = true then 1 else 0
def twoS (k a b : Int) : Option Int :=
  if k = 5 then some (IntKind.i64.wrap (a + b)) else if k = 6 then some (IntKind.i64.wrap (a - b)) else if k = 7 then some (IntKind.i64.wrap (a * b))
  else if k = 8 then (if b = 0 then none else some (IntKind.i64.wrap (a.tdiv b))) else if k = 9 then (if b = 0 then none else some (a.tmod b))
  else if k = 10 then some (b01 (decide (a = b))) else if k = 11 then some (b01 (decide (a ≠ b))) else if k = 12 then some (b01 (decide (a < b))) else if k = 13 then some (b01 (decide (a ≤ b)))
  else if k = 14 then some (b01 (decide (a ≠ 0) && decide (b ≠ 0))) else some (b01 (decide (a ≠ 0) || decide (b ≠ 0)))
/-- what two give, as the program tells it -/
def tell (o : Option Int) : Int × Int := match o with | some v => (v, 0) | none => (0, 12)
theorem kind2 {k : Int} (h : wN k = 2) : k = 5 ∨ k = 6 ∨ k = 7 ∨ k = 8 ∨ k = 9 ∨ k = 10 ∨ k = 11 ∨ k = 12 ∨ k = 13 ∨ k = 14 ∨ k = 15 := by
  unfold wN at h; split at h
  · omega
  · split at h <;> omega
theorem words_ops_ok (N : Nat) : words_ops N = some () := rfl
theorem words_Bool_eq (N : Nat) (b : Bool) : words_Bool N b = some (b01 b) := by unfold words_Bool b01; cases b <;> rfl
theorem Two_eq (N : Nat) {k : Int} (h : wN k = 2) (a b : Int) : words_Two N k a b = some (tell (twoS k a b)) := by
  unfold words_Two
  simp only [words_ops_ok, Option.bind_some, words_ops_2, words_ops_3, words_ops_4, words_ops_5, words_ops_6, words_ops_1_1__ops_7, words_ops_1_1__ops_8, words_ops_1_1__ops_9, words_ops_1_1__ops_10, words_ops_1_1__ops_11, words_ops_1_1__ops_12, words_ops_7, words_ops_8, words_ops_9, words_ops_10, words_ops_11, words_ops_12, words_Bool_eq, words_Truth]
  rcases kind2 h with rfl | rfl | rfl | rfl | rfl | rfl | rfl | rfl | rfl | rfl | rfl
  all_goals (try (simp [twoS, tell]; done))
  · by_cases e : b = 0
    · simp [twoS, tell, e]
    · simp [twoS, tell, e, divI]
  · by_cases e : b = 0
    · simp [twoS, tell, e]
    · simp [twoS, tell, e, remI]
  · by_cases e : a = 0 <;> simp [twoS, tell, e, words_Bool_eq]
  · by_cases e : a = 0 <;> simp [twoS, tell, e, words_Bool_eq]

/-! steps -/
def ex1 (nums : List Int) (x : api_Op) (st : List Int) : Option (List Int) :=
  if wN x.Kind = 0 then some ((if x.Kind = 2 then (nums[x.N.toNat]?).getD 0 else x.N) :: st)
  else if wN x.Kind = 1 then (match st with | a :: s => some (oneS x.Kind a :: s) | [] => none)
  else (match st with | b :: a :: s => (twoS x.Kind a b).map (· :: s) | _ => none)
def ex (nums : List Int) : List api_Op → List Int → Option (List Int)
  | [], s => some s
  | x :: l, s => (ex1 nums x s).bind (ex nums l)
theorem ex_app (nums : List Int) : ∀ (l m : List api_Op) (s : List Int), ex nums (l ++ m) s = (ex nums l s).bind (ex nums m)
  | [], m, s => rfl
  | x :: l, m, s => by
    show (ex1 nums x s).bind (ex nums (l ++ m)) = ((ex1 nums x s).bind (ex nums l)).bind (ex nums m)
    cases ex1 nums x s with
    | none => rfl
    | some s' => exact ex_app nums l m s'
/-- how high the pile is at the end, and at most -/
def hts : List api_Op → Nat → Nat → Option (Nat × Nat)
  | [], n, h => some (n, h)
  | x :: l, n, h => if n < wN x.Kind then none else hts l (n - wN x.Kind + 1) (max h (n - wN x.Kind + 1))
theorem hts_app : ∀ (l m : List api_Op) (n h : Nat), hts (l ++ m) n h = (hts l n h).bind fun q => hts m q.1 q.2
  | [], m, n, h => rfl
  | x :: l, m, n, h => by
    show (if n < wN x.Kind then none else hts (l ++ m) _ _) = (if n < wN x.Kind then none else hts l _ _).bind _
    split
    · rfl
    · exact hts_app l m _ _
theorem hts_high : ∀ (l : List api_Op) {n h k : Nat} {q : Nat × Nat}, hts l n h = some q → h ≤ q.2 ∧ ∃ q', hts l (n + k) h = some (q.1 + k, q')
  | [], n, h, k, q, e => by cases e; exact ⟨Nat.le_refl _, h, rfl⟩
  | x :: l, n, h, k, q, e => by
    unfold hts at e
    split at e
    · cases e
    · rename_i hc
      obtain ⟨h1, _⟩ := hts_high l (k := k) e
      refine ⟨by omega, ?_⟩
      unfold hts
      rw [if_neg (by omega)]
      have : ∀ (l : List api_Op) (n h h' : Nat) (q : Nat × Nat), hts l n h = some q → ∃ q', hts l n h' = some (q.1, q') := by
        intro l
        induction l with
        | nil => intro n h h' q e; cases e; exact ⟨h', rfl⟩
        | cons y l ih =>
          intro n h h' q e
          unfold hts at e ⊢
          split at e
          · cases e
          · rename_i hc; rw [if_neg hc]; exact ih _ _ _ _ e
      obtain ⟨q1, h2⟩ := (hts_high l (n := n - wN x.Kind + 1) (h := max h (n - wN x.Kind + 1)) (k := k) e).2
      rw [show n + k - wN x.Kind + 1 = n - wN x.Kind + 1 + k by omega]
      exact this _ _ _ _ _ h2
theorem ex1_len {nums : List Int} {x : api_Op} {s s' : List Int} (h : ex1 nums x s = some s') (hc : ¬ s.length < wN x.Kind) : s'.length = s.length - wN x.Kind + 1 := by
  unfold ex1 at h
  split at h
  · rename_i e; cases h; rw [e]; rfl
  · split at h
    · rename_i e
      match s, h with
      | a :: s, h => cases h; rw [e]; rfl
    · rename_i e0 e1
      have e2 : wN x.Kind = 2 := by have := wN_le x.Kind; omega
      match s, h with
      | b :: a :: s, h =>
        obtain ⟨v, _, rfl⟩ := Option.map_eq_some_iff.1 h
        rw [e2]; simp
theorem ex_len {nums : List Int} : ∀ {l : List api_Op} {s s' : List Int} {h : Nat} {q : Nat × Nat}, hts l s.length h = some q → ex nums l s = some s' → s'.length = q.1
  | [], s, s', h, q, e, e2 => by cases e; cases e2; rfl
  | x :: l, s, s', h, q, e, e2 => by
    unfold hts at e
    split at e
    · cases e
    · rename_i hc
      unfold ex at e2
      obtain ⟨s1, h1, h2⟩ := bind_some e2
      have hl := ex1_len h1 hc
      rw [← hl] at e
      exact ex_len e h2
theorem ex1_frame {nums : List Int} {x : api_Op} {s t : List Int} (hc : ¬ s.length < wN x.Kind) : ex1 nums x (s ++ t) = (ex1 nums x s).map (· ++ t) := by
  unfold ex1
  split
  · rfl
  · split
    · rename_i e
      match s, hc with
      | [], hc => rw [e] at hc; exact absurd (by decide) hc
      | a :: s, _ => rfl
    · rename_i e0 e1
      have e2 : wN x.Kind = 2 := by have := wN_le x.Kind; omega
      match s, hc with
      | [], hc => rw [e2] at hc; exact absurd (by decide) hc
      | [a], hc => rw [e2] at hc; exact absurd (show [a].length < 2 by simp) hc
      | b :: a :: s, _ =>
        show (twoS x.Kind a b).map (· :: (s ++ t)) = ((twoS x.Kind a b).map (· :: s)).map (· ++ t)
        cases twoS x.Kind a b <;> rfl
theorem ex_frame {nums : List Int} {t : List Int} : ∀ {l : List api_Op} {s : List Int} {h : Nat} {q : Nat × Nat}, hts l s.length h = some q → ex nums l (s ++ t) = (ex nums l s).map (· ++ t)
  | [], s, h, q, _ => rfl
  | x :: l, s, h, q, e => by
    unfold hts at e
    split at e
    · cases e
    · rename_i hc
      show (ex1 nums x (s ++ t)).bind (ex nums l) = ((ex1 nums x s).bind (ex nums l)).map (· ++ t)
      rw [ex1_frame hc]
      cases h1 : ex1 nums x s with
      | none => rfl
      | some s1 =>
        have hl := ex1_len h1 hc
        rw [← hl] at e
        exact ex_frame e

/-! may steps be -/
def okOp (many : Int) (x : api_Op) : Bool := if x.Kind = 1 then decide (0 ≤ x.N ∧ x.N ≤ 4294967296) else if x.Kind = 2 then decide (0 ≤ x.N ∧ x.N < many) else decide (x.N = 0 ∧ 1 ≤ x.Kind ∧ x.Kind ≤ 15)
def rightS (l : List api_Op) (many : Int) : Bool := decide (l.length ≤ 40) && (match hts l 0 0 with | some q => decide (q.1 = 1) | none => false) && l.all (okOp many)
def hI (o : Option (Nat × Nat)) : Int × Int × Bool := match o with | some q => ((q.1 : Int), (q.2 : Int), true) | none => (0, 0, false)
theorem heights_loop {N : Nat} {l : List api_Op} (hl : l.length ≤ 1000) : ∀ (d j n a b : Nat), j + d = l.length → d < n → a ≤ j → b ≤ j →
    code_heights_l2 N code_heights_j1 l n (a : Int) (b : Int) (j : Int) = some (hI (hts (l.drop j) a b)) := by
  intro d
  induction d with
  | zero =>
    intro j n a b hj hn _ _
    obtain ⟨n, rfl⟩ : ∃ m, n = m + 1 := ⟨n - 1, by omega⟩
    rw [code_heights_l2, if_neg (by omega), List.drop_of_length_le (by omega)]
    rfl
  | succ d ih =>
    intro j n a b hj hn ha hb
    obtain ⟨n, rfl⟩ : ∃ m, n = m + 1 := ⟨n - 1, by omega⟩
    have h1 : j < l.length := by omega
    have hw := wN_le l[j].Kind
    rw [code_heights_l2, if_pos (by omega), getI_at rfl h1]
    simp only [Option.bind_some, wants_eq]
    rw [List.drop_eq_getElem_cons h1, w64 (by omega) (by omega), hts]
    by_cases hc : a < wN l[j].Kind
    · rw [if_pos (by omega), if_pos hc]; rfl
    · rw [if_neg (by omega), if_neg hc, w64 (by omega) (by omega), wsucc h1 (by omega), show ((a : Int) - (wN l[j].Kind : Int) + 1) = ((a - wN l[j].Kind + 1 : Nat) : Int) by omega, show max (b : Int) ((a - wN l[j].Kind + 1 : Nat) : Int) = ((max b (a - wN l[j].Kind + 1) : Nat) : Int) by omega]
      exact ih (j + 1) n _ _ (by omega) (by omega) (by omega) (by omega)
theorem heights_eq {N : Nat} {l : List api_Op} (hl : l.length ≤ 1000) (hN : l.length < N) : code_heights N l = some (hI (hts l 0 0)) := by
  unfold code_heights
  exact heights_loop (N := N) hl l.length 0 N 0 0 (by omega) hN (Nat.le_refl _) (Nat.le_refl _)
theorem High_eq {N : Nat} {l : List api_Op} (hl : l.length ≤ 1000) (hN : l.length < N) : code_High N l = some (match hts l 0 0 with | some q => (q.2 : Int) | none => 0) := by
  unfold code_High
  rw [heights_eq hl hN]
  cases hts l 0 0 <;> rfl
theorem odd_loop {N : Nat} {l : List api_Op} {many : Int} (hl : l.length ≤ 1000) : ∀ (d j n : Nat), j + d = l.length → d < n →
    ∃ r, slices_IndexFunc_api_Op_api_Op__Right_1_l2 N slices_IndexFunc_api_Op_api_Op__Right_1_j1 l many n (j : Int) = some r ∧ (decide (0 ≤ r) = !(l.drop j).all (okOp many)) := by
  intro d
  induction d with
  | zero =>
    intro j n hj hn
    obtain ⟨n, rfl⟩ : ∃ m, n = m + 1 := ⟨n - 1, by omega⟩
    rw [slices_IndexFunc_api_Op_api_Op__Right_1_l2, if_neg (by omega), List.drop_of_length_le (by omega)]
    exact ⟨-1, rfl, rfl⟩
  | succ d ih =>
    intro j n hj hn
    obtain ⟨n, rfl⟩ : ∃ m, n = m + 1 := ⟨n - 1, by omega⟩
    have h1 : j < l.length := by omega
    have ho : code_Right_1 N l[j] many = some (!okOp many l[j]) := by
      unfold code_Right_1 okOp
      by_cases e1 : l[j].Kind = 1
      · rw [if_pos e1, if_pos e1]; congr 1; rw [Bool.eq_iff_iff]; first | (simp; done) | (simp; omega)
      · rw [if_neg e1, if_neg e1]
        by_cases e2 : l[j].Kind = 2
        · rw [if_pos e2, if_pos e2]; congr 1; rw [Bool.eq_iff_iff]; first | (simp; done) | (simp; omega)
        · rw [if_neg e2, if_neg e2]; congr 1; rw [Bool.eq_iff_iff]; first | (simp; done) | (simp; omega)
    rw [slices_IndexFunc_api_Op_api_Op__Right_1_l2, if_pos (by omega), getI_at rfl h1]
    simp only [Option.bind_some, ho]
    rw [List.drop_eq_getElem_cons h1, List.all_cons]
    cases hk : okOp many l[j] with
    | false => exact ⟨j, by simp, by simp⟩
    | true =>
      obtain ⟨r, h2, h3⟩ := ih (j + 1) n (by omega) (by omega)
      rw [wsucc h1 (by omega)]
      exact ⟨r, by simpa using h2, by simpa using h3⟩
theorem Right_eq {N : Nat} {l : List api_Op} (hl : l.length ≤ 1000) (hN : l.length < N) (many : Int) : code_Right N l many = some (rightS l many) := by
  unfold code_Right
  rw [heights_eq hl hN]
  simp only [Option.bind_some]
  obtain ⟨r, h1, h2⟩ := odd_loop (N := N) (many := many) hl l.length 0 N (by omega) hN
  have h3 : slices_ContainsFunc_api_Op_api_Op__Right_1 N l many = some (!l.all (okOp many)) := by
    unfold slices_ContainsFunc_api_Op_api_Op__Right_1 slices_IndexFunc_api_Op_api_Op__Right_1
    rw [show (0 : Int) = ((0 : Nat) : Int) from rfl, h1]
    simpa using h2
  unfold rightS
  cases hh : hts l 0 0 with
  | none => simp [hI]
  | some q =>
    obtain ⟨a, b⟩ := q
    simp only [hI, Bool.and_true]
    by_cases e1 : l.length ≤ 40
    · by_cases e2 : a = 1
      · subst e2
        rw [if_pos (by simp; omega), h3]; simp [e1]
      · have e3 : ¬ (a : Int) = 1 := by omega
        rw [if_neg (by simp [e3])]; simp [e2]
    · rw [if_neg (by simp; intro h; omega)]; simp [e1]
theorem rightS_of {l : List api_Op} {many : Int} (h : rightS l many = true) : l.length ≤ 40 ∧ (∃ q, hts l 0 0 = some (1, q)) ∧ ∀ x ∈ l, okOp many x = true := by
  unfold rightS at h
  simp only [Bool.and_eq_true, decide_eq_true_eq] at h
  obtain ⟨⟨h1, h2⟩, h3⟩ := h
  refine ⟨h1, ?_, fun x hx => List.all_eq_true.1 h3 x hx⟩
  cases hh : hts l 0 0 with
  | none => rw [hh] at h2; cases h2
  | some q =>
    rw [hh] at h2
    simp at h2
    exact ⟨q.2, by rw [← h2]⟩
theorem rightS_mk {l : List api_Op} {many : Int} {q : Nat} (h1 : l.length ≤ 40) (h2 : hts l 0 0 = some (1, q)) (h3 : ∀ x ∈ l, okOp many x = true) : rightS l many = true := by
  unfold rightS
  rw [h2, List.all_eq_true.2 h3]
  simp [h1]

/-! what steps make -/
theorem up_eq (N : Nat) (st : List Int) (hi v : Int) (hst : st.length ≤ 1000) : code_pile_up__m0_61_o N (code_pile.mk (code_list.mk st.reverse) hi) v = some (code_pile.mk (code_list.mk (v :: st).reverse) (max hi ((st.length + 1 : Nat) : Int))) := by
  unfold code_pile_up__m0_61_o code_list_put__m0_61_0_o
  rw [appG_ok (by simp; omega) (by decide)]
  simp only [Option.bind_some, List.reverse_cons, List.length_append, List.length_reverse, List.length_cons, List.length_nil]
theorem take_eq (N : Nat) (st : List Int) (hi v : Int) (hst : st.length ≤ 1000) : code_list_take__m0_61_0_o N (code_pile.mk (code_list.mk (v :: st).reverse) hi) = some (v, code_pile.mk (code_list.mk st.reverse) hi) := by
  unfold code_list_take__m0_61_0_o
  simp only [List.reverse_cons, List.length_append, List.length_reverse, List.length_cons, List.length_nil]
  rw [w64 (by omega) (by omega), getI_at (j := st.length) (by omega) (by simp)]
  simp only [Option.bind_some]
  rw [subI_ok (by omega) (by omega) (by simp; omega)]
  simp [show (((st.length + 1 : Nat) : Int) - 1).toNat = st.length by omega]
/-- what a run ends with -/
def endS (o : Option (List Int)) : Int × Int := match o with | some (v :: _) => (v, 0) | _ => (0, 12)
theorem Run_loop {N : Nat} {l : List api_Op} {nums : List Int} (hl : l.length ≤ 1000) (hok : ∀ x ∈ l, okOp (nums.length : Int) x = true) : ∀ (d j n : Nat) (st : List Int) (hi : Int) (b : Nat) (q : Nat), j + d = l.length → d < n → st.length ≤ j → hts (l.drop j) st.length b = some (1, q) →
    code_Run_l2 N (code_Run_j1 N) l nums n st.reverse hi (j : Int) = some (endS (ex nums (l.drop j) st)) := by
  intro d
  induction d with
  | zero =>
    intro j n st hi b q hj hn hst hh
    obtain ⟨n, rfl⟩ : ∃ m, n = m + 1 := ⟨n - 1, by omega⟩
    rw [List.drop_of_length_le (by omega)] at hh ⊢
    rw [code_Run_l2, if_neg (by omega), code_Run_j1]
    simp only [hts, Option.some.injEq, Prod.mk.injEq] at hh
    match st, hh.1 with
    | [v], _ =>
      rw [take_eq N [] hi v (by simp)]
      rfl
  | succ d ih =>
    intro j n st hi b q hj hn hst hh
    obtain ⟨n, rfl⟩ : ∃ m, n = m + 1 := ⟨n - 1, by omega⟩
    have h1 : j < l.length := by omega
    have hx := hok l[j] (List.getElem_mem h1)
    rw [code_Run_l2, if_pos (by omega), getI_at rfl h1]
    simp only [Option.bind_some, wants_eq]
    rw [List.drop_eq_getElem_cons h1] at hh ⊢
    unfold hts at hh
    split at hh
    · cases hh
    rename_i hc
    show _ = some (endS ((ex1 nums l[j] st).bind (ex nums (l.drop (j + 1)))))
    unfold ex1
    by_cases w0 : wN l[j].Kind = 0
    · rw [if_pos (by omega), if_pos w0]
      have go : ∀ v : Int, code_Run_j4 N (code_Run_j3 (code_Run_l2 N (code_Run_j1 N) l nums n) (j : Int)) st.reverse hi v = some (endS (ex nums (l.drop (j + 1)) (v :: st))) := by
        intro v
        rw [code_Run_j4, up_eq N st hi v (by omega)]
        simp only [Option.bind_some]
        rw [code_Run_j3, wsucc h1 (by omega)]
        rw [w0] at hh
        exact ih (j + 1) n (v :: st) _ _ _ (by omega) (by omega) (by simp; omega) hh
      simp only [Option.bind_some]
      by_cases k2 : l[j].Kind = 2
      · rw [if_pos k2, if_pos k2]
        unfold okOp at hx
        rw [if_neg (by omega), if_pos k2] at hx
        simp at hx
        rw [getI_at (j := l[j].N.toNat) (by omega) (by omega)]
        simp only [Option.bind_some]
        rw [go, List.getElem?_eq_getElem (by omega)]
        rfl
      · rw [if_neg k2, if_neg k2, go]
    · rw [if_neg (by omega), if_neg w0]
      by_cases w1 : wN l[j].Kind = 1
      · rw [if_pos (by omega), if_pos w1]
        match st, hst, hc, hh with
        | [], _, hc, _ => rw [w1] at hc; exact absurd (by decide) hc
        | a :: s, hst, _, hh =>
          have hs : s.length + 1 ≤ j := hst
          rw [take_eq N s hi a (by omega)]
          simp only [Option.bind_some]
          rw [One_eq N w1]
          simp only [Option.bind_some]
          rw [up_eq N s hi _ (by omega)]
          simp only [Option.bind_some]
          rw [code_Run_j3, wsucc h1 (by omega)]
          rw [w1] at hh
          exact ih (j + 1) n (oneS l[j].Kind a :: s) _ _ _ (by omega) (by omega) (by simp; omega) hh
      · have w2 : wN l[j].Kind = 2 := by have := wN_le l[j].Kind; omega
        rw [if_neg (by omega), if_neg w1]
        match st, hst, hc, hh with
        | [], _, hc, _ => rw [w2] at hc; exact absurd (by decide) hc
        | [a], _, hc, _ => rw [w2] at hc; exact absurd (show [a].length < 2 by simp) hc
        | c :: a :: s, hst, _, hh =>
          have hs : s.length + 2 ≤ j := hst
          rw [take_eq N (a :: s) hi c (by simp; omega)]
          simp only [Option.bind_some]
          rw [take_eq N s hi a (by omega)]
          simp only [Option.bind_some]
          rw [Two_eq N w2]
          simp only [Option.bind_some]
          cases ht : twoS l[j].Kind a c with
          | none => rw [if_pos (by simp [tell])]; rfl
          | some v =>
            rw [if_neg (by simp [tell])]
            simp only [tell]
            rw [up_eq N s hi _ (by omega)]
            simp only [Option.bind_some]
            rw [code_Run_j3, wsucc h1 (by omega)]
            rw [w2] at hh
            have hh' : hts (l.drop (j + 1)) (v :: s).length (max b (s.length + 1 + 1 - 2 + 1)) = some (1, q) := by
              rw [show (v :: s).length = s.length + 1 + 1 - 2 + 1 by simp]
              exact hh
            exact ih (j + 1) n (v :: s) _ _ _ (by omega) (by omega) (by simp; omega) hh'
theorem Run_eq {N : Nat} {l : List api_Op} {nums : List Int} (hl : l.length ≤ 1000) (hN : l.length < N) : code_Run N l nums = some (if rightS l (nums.length : Int) = true then endS (ex nums l []) else (0, 8)) := by
  unfold code_Run
  rw [Right_eq hl hN]
  simp only [Option.bind_some]
  split
  · rename_i h
    obtain ⟨_, ⟨q, h2⟩, h3⟩ := rightS_of h
    exact Run_loop (N := N) hl h3 l.length 0 N [] 0 0 q (by omega) hN (Nat.le_refl _) h2
  · rfl
end Go.MD.CODE
