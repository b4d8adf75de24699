/- The laws CodeMakes, CodeValues, CodeSame, CodeNames. No condition: plain lemmas. -/
import Derived.Test.YtfpdddablkocoaaDoorCI
namespace Go.MD.CODE
open Go Go.MD
theorem Contains_eq {names : List Str} {s : Str} (hl : names.length ≤ 100) : slices_Contains_string_string 1001 names s = some (decide (s ∈ names)) := by
  unfold slices_Contains_string_string
  rw [Index_eq (by omega) (by omega)]
  simp only [Option.bind_some]
  congr 1
  rw [Bool.eq_iff_iff, decide_eq_true_iff, decide_eq_true_iff]
  exact (idxS_nonneg names s 0).1
theorem Names_loop {l : List api_Node} (hl : l.length ≤ 60) : ∀ (d j n : Nat) (out : List Str), j + d = l.length → d < n → out.length ≤ j →
    ∃ r, expr_Names_l2 1001 expr_Names_j1 l n out (j : Int) = some r ∧ r.length ≤ 60 ∧ ∀ s, s ∈ r ↔ s ∈ out ∨ ∃ x ∈ l.drop j, x.Op = 2 ∧ x.Name = s := by
  intro d
  induction d with
  | zero =>
    intro j n out hj hn ho
    obtain ⟨n, rfl⟩ : ∃ m, n = m + 1 := ⟨n - 1, by omega⟩
    rw [expr_Names_l2, if_neg (by omega), List.drop_of_length_le (by omega)]
    exact ⟨out, rfl, by omega, fun s => ⟨.inl, fun h => h.elim id fun ⟨x, hx, _⟩ => by cases hx⟩⟩
  | succ d ih =>
    intro j n out hj hn ho
    obtain ⟨n, rfl⟩ : ∃ m, n = m + 1 := ⟨n - 1, by omega⟩
    have h1 : j < l.length := by omega
    rw [expr_Names_l2, if_pos (by omega), getI_at rfl h1]
    simp only [Option.bind_some]
    rw [List.drop_eq_getElem_cons h1]
    have skip : (l[j].Op = 2 → l[j].Name ∈ out) → ∃ r, expr_Names_j4 (expr_Names_j3 (expr_Names_l2 1001 expr_Names_j1 l n) (j : Int)) l[j] out false = some r ∧ r.length ≤ 60 ∧ ∀ s, s ∈ r ↔ s ∈ out ∨ ∃ x ∈ l[j] :: l.drop (j + 1), x.Op = 2 ∧ x.Name = s := by
      intro hs
      rw [expr_Names_j4, if_neg (by decide), expr_Names_j3, wsucc h1 (by omega)]
      obtain ⟨r, e, hlen, hr⟩ := ih (j + 1) n out (by omega) (by omega) (by omega)
      refine ⟨r, e, hlen, fun s => (hr s).trans ⟨fun h => h.elim .inl fun ⟨x, hx, h2⟩ => .inr ⟨x, .tail _ hx, h2⟩, fun h => h.elim .inl fun ⟨x, hx, h2, h3⟩ => ?_⟩⟩
      rcases List.mem_cons.1 hx with rfl | hx
      · left; rw [← h3]; exact hs h2
      · exact .inr ⟨x, hx, h2, h3⟩
    by_cases e2 : l[j].Op = 2
    · rw [if_pos e2, Contains_eq (by omega)]
      simp only [Option.bind_some]
      by_cases hm : l[j].Name ∈ out
      · rw [decide_eq_true hm]; exact skip fun _ => hm
      · rw [decide_eq_false hm, expr_Names_j4, if_pos (by decide), appG_ok (by simp; omega) (by decide)]
        simp only [Option.bind_some]
        rw [expr_Names_j3, wsucc h1 (by omega)]
        obtain ⟨r, e, hlen, hr⟩ := ih (j + 1) n (out ++ [l[j].Name]) (by omega) (by omega) (by simp; omega)
        refine ⟨r, e, hlen, fun s => (hr s).trans ?_⟩
        constructor
        · rintro (h | ⟨x, hx, h2⟩)
          · rcases List.mem_append.1 h with h | h
            · exact .inl h
            · have : s = l[j].Name := by simpa using h
              exact .inr ⟨l[j], .head _, e2, this.symm⟩
          · exact .inr ⟨x, .tail _ hx, h2⟩
        · rintro (h | ⟨x, hx, h2, h3⟩)
          · exact .inl (List.mem_append_left _ h)
          · rcases List.mem_cons.1 hx with rfl | hx
            · left; rw [← h3]; simp
            · exact .inr ⟨x, hx, h2, h3⟩
    · rw [if_neg e2]; exact skip fun h => absurd h e2
theorem strange_eq {r names : List Str} (hr : r.length ≤ 100) (hn : names.length ≤ 100) : slices_ContainsFunc_string_string__Make_1 1001 r names = some (!r.all fun s => decide (s ∈ names)) := by
  have key : ∀ (d j n : Nat), j + d = r.length → d < n → ∃ i, slices_IndexFunc_string_string__Make_1_l2 1001 slices_IndexFunc_string_string__Make_1_j1 r names n (j : Int) = some i ∧ (decide (0 ≤ i) = !(r.drop j).all fun s => decide (s ∈ names)) := by
    intro d
    induction d with
    | zero =>
      intro j n hj hn'
      obtain ⟨n, rfl⟩ : ∃ m, n = m + 1 := ⟨n - 1, by omega⟩
      rw [slices_IndexFunc_string_string__Make_1_l2, if_neg (by omega), List.drop_of_length_le (by omega)]
      exact ⟨-1, rfl, rfl⟩
    | succ d ih =>
      intro j n hj hn'
      obtain ⟨n, rfl⟩ : ∃ m, n = m + 1 := ⟨n - 1, by omega⟩
      have h1 : j < r.length := by omega
      rw [slices_IndexFunc_string_string__Make_1_l2, if_pos (by omega), getI_at rfl h1]
      simp only [Option.bind_some, code_Make_1, Contains_eq hn]
      rw [List.drop_eq_getElem_cons h1, List.all_cons]
      by_cases hk : r[j] ∈ names
      · obtain ⟨i, h2, h3⟩ := ih (j + 1) n (by omega) (by omega)
        rw [wsucc h1 (by omega), decide_eq_true hk]
        exact ⟨i, by simpa using h2, by simpa using h3⟩
      · rw [decide_eq_false hk]
        exact ⟨j, by simp, by simp⟩
  obtain ⟨i, h1, h2⟩ := key r.length 0 1001 (by omega) (by omega)
  unfold slices_ContainsFunc_string_string__Make_1 slices_IndexFunc_string_string__Make_1
  rw [show (0 : Int) = ((0 : Nat) : Int) from rfl, h1]
  simpa using h2
/-- all names of an expression are there -/
def varsIn (l : List api_Node) (names : List Str) : Prop := ∀ x ∈ l, x.Op = 2 → x.Name ∈ names
theorem rMake_loop {l : List api_Node} {names : List Str} (hl : l.length ≤ 60) (hn : names.length ≤ 100) {kf : Option (List api_Op × Int)} : ∀ (d j n : Nat), j + d = l.length → d < n →
    (varsIn (l.drop j) names ∧ leadlineref08_Make_l2 1001 kf l names n (j : Int) = kf) ∨ (¬ varsIn (l.drop j) names ∧ leadlineref08_Make_l2 1001 kf l names n (j : Int) = some ([], 9)) := by
  intro d
  induction d with
  | zero =>
    intro j n hj hn'
    obtain ⟨n, rfl⟩ : ∃ m, n = m + 1 := ⟨n - 1, by omega⟩
    rw [leadlineref08_Make_l2, if_neg (by omega), List.drop_of_length_le (by omega)]
    exact .inl ⟨fun x hx => (by cases hx), rfl⟩
  | succ d ih =>
    intro j n hj hn'
    obtain ⟨n, rfl⟩ : ∃ m, n = m + 1 := ⟨n - 1, by omega⟩
    have h1 : j < l.length := by omega
    have go : (l[j].Op = 2 → l[j].Name ∈ names) → (varsIn (l.drop j) names ∧ leadlineref08_Make_j3 (leadlineref08_Make_l2 1001 kf l names n) (j : Int) false = kf) ∨ (¬ varsIn (l.drop j) names ∧ leadlineref08_Make_j3 (leadlineref08_Make_l2 1001 kf l names n) (j : Int) false = some ([], 9)) := by
      intro hs
      rw [leadlineref08_Make_j3, if_neg (by decide), wsucc h1 (by omega), List.drop_eq_getElem_cons h1]
      rcases ih (j + 1) n (by omega) (by omega) with ⟨h, e⟩ | ⟨h, e⟩
      · refine .inl ⟨fun x hx => ?_, e⟩
        rcases List.mem_cons.1 hx with rfl | hx
        · exact hs
        · exact h x hx
      · exact .inr ⟨fun h' => h fun x hx => h' x (.tail _ hx), e⟩
    rw [leadlineref08_Make_l2, if_pos (by omega), getI_at rfl h1]
    simp only [Option.bind_some]
    by_cases e2 : l[j].Op = 2
    · rw [if_pos e2, Place_eq (by omega) (by omega)]
      simp only [Option.bind_some]
      have hi := (idxS_nonneg names l[j].Name 0).1
      by_cases hm : l[j].Name ∈ names
      · rw [decide_eq_false (by have := hi.2 hm; omega)]; exact go fun _ => hm
      · have : ¬ 0 ≤ idxS names l[j].Name 0 := fun h => hm (hi.1 h)
        rw [decide_eq_true (by omega), leadlineref08_Make_j3, if_pos rfl]
        refine .inr ⟨fun h => hm (h l[j] ?_ e2), rfl⟩
        rw [List.drop_eq_getElem_cons h1]; exact .head _
    · rw [if_neg e2]; exact go fun h => absurd h e2
theorem Make_spec {l : List api_Node} {names : List Str} (hl : l.length ≤ 60) (hn : names.length ≤ 100) : ∃ r, code_Make 1001 l names = some r ∧ leadlineref08_Make 1001 l names = some r ∧
    (((¬ ∃ t, RightE l t) ∧ r = ([], 8)) ∨ (∃ t, RightE l t ∧ ¬ varsIn l names ∧ r = ([], 9)) ∨ (∃ t, RightE l t ∧ varsIn l names ∧ r = (post names t, 0))) := by
  obtain ⟨b, e1, i1⟩ := Right_spec hl
  obtain ⟨c, e2, i2⟩ := rRight_spec hl
  unfold code_Make leadlineref08_Make
  rw [e1, e2]
  simp only [Option.bind_some]
  by_cases hR : ∃ t, RightE l t
  · rw [i1.2 hR, i2.2 hR]
    obtain ⟨t, ht⟩ := hR
    have hd := ht.depth
    rw [if_pos rfl, if_pos rfl]
    unfold expr_Names
    rw [e1, i1.2 ⟨t, ht⟩]
    simp only [Option.bind_some]
    obtain ⟨ns, n1, n2, n3⟩ := Names_loop hl l.length 0 1001 [] (by omega) (by omega) (Nat.le_refl _)
    rw [if_pos trivial, show (0 : Int) = ((0 : Nat) : Int) from rfl, n1]
    simp only [Option.bind_some]
    rw [strange_eq (by omega) hn]
    simp only [Option.bind_some]
    have hv : (ns.all fun s => decide (s ∈ names)) = true ↔ varsIn l names := by
      rw [List.all_eq_true]
      constructor
      · intro h x hx h2
        have := h x.Name ((n3 x.Name).2 (.inr ⟨x, by simpa using hx, h2, rfl⟩))
        simpa using this
      · intro h s hs
        rcases (n3 s).1 hs with h' | ⟨x, hx, h2, rfl⟩
        · cases h'
        · have := h x (by simpa using hx) h2
          simpa using this
    have hm := make_eq (l := l) (by omega) hn t 1001 [] [] (tree_at0 ht.flat) ht.wk (by omega)
    have hs := steps_eq (l := l) (by omega) hn t 1001 [] [] (tree_at0 ht.flat) ht.wk (by omega)
    simp only [List.length_nil] at hm hs
    rcases rMake_loop (l := l) (names := names) (kf := leadlineref08_Make_j1 1001 l names) hl hn l.length 0 1001 (by omega) (by omega) with ⟨q1, q2⟩ | ⟨q1, q2⟩
    · rw [List.drop_zero] at q1
      rw [q2, hv.2 q1, leadlineref08_Make_j1]
      simp only [Bool.not_true, Bool.false_eq_true, if_false]
      have hm' : code_make 1001 l 0 names = some (post names t) := hm
      have hs' : leadlineref08_steps 1001 l 0 names = some (post names t) := hs
      exact ⟨(post names t, 0), by rw [hm]; rfl, by rw [hs']; rfl, .inr (.inr ⟨t, ht, q1, rfl⟩)⟩
    · rw [List.drop_zero] at q1
      have hf : (ns.all fun s => decide (s ∈ names)) = false := by
        cases h : ns.all fun s => decide (s ∈ names) with
        | false => rfl
        | true => exact absurd (hv.1 h) q1
      rw [q2, hf]
      exact ⟨([], 9), rfl, rfl, .inr (.inl ⟨t, ht, q1, rfl⟩)⟩
  · have hb : b = false := by
      cases b with
      | false => rfl
      | true => exact absurd (i1.1 rfl) hR
    have hc : c = false := by
      cases c with
      | false => rfl
      | true => exact absurd (i2.1 rfl) hR
    subst hb; subst hc
    exact ⟨([], 8), rfl, rfl, .inl ⟨hR, rfl⟩⟩
/-! cuts -/
theorem CutN_loop (p : List api_Node) : ∀ (d j n : Nat) (out : List api_Node), j + d = 60 → d < n → out.length ≤ j →
    ∃ r, leadlinelaw03_Cut_l2 1001 leadlinelaw03_Cut_j1 p n out (j : Int) = some r ∧ r.length ≤ 60 := by
  intro d
  induction d with
  | zero =>
    intro j n out hj hn ho
    obtain ⟨n, rfl⟩ : ∃ m, n = m + 1 := ⟨n - 1, by omega⟩
    rw [leadlinelaw03_Cut_l2, if_neg (by simp; omega)]
    exact ⟨out, rfl, by omega⟩
  | succ d ih =>
    intro j n out hj hn ho
    obtain ⟨n, rfl⟩ : ∃ m, n = m + 1 := ⟨n - 1, by omega⟩
    by_cases h1 : j < p.length
    · rw [leadlinelaw03_Cut_l2, if_pos (by simp; omega), getI_at rfl h1]
      simp only [Option.bind_some]
      rw [subI_ok (by omega) (by omega) (by omega)]
      simp only [Option.bind_some]
      rw [appG_ok (by simp; omega) (by decide)]
      simp only [Option.bind_some]
      rw [wsucc (n := 60) (by omega) (by decide)]
      exact ih (j + 1) n _ (by omega) (by omega) (by simp; omega)
    · rw [leadlinelaw03_Cut_l2, if_neg (by simp; omega)]
      exact ⟨out, rfl, by omega⟩
theorem CutN (p : List api_Node) : ∃ r, leadlinelaw03_Cut 1001 p = some r ∧ r.length ≤ 60 := CutN_loop p 60 0 1001 [] (by decide) (by decide) (Nat.le_refl _)
theorem few_loop (p : List Str) : ∀ (d j n : Nat) (out : List Str), j + d = 6 → d < n → out.length ≤ j →
    ∃ r, leadlinelaw08_few_l2 1001 leadlinelaw08_few_j1 p n out (j : Int) = some r ∧ r.length ≤ 6 := by
  intro d
  induction d with
  | zero =>
    intro j n out hj hn ho
    obtain ⟨n, rfl⟩ : ∃ m, n = m + 1 := ⟨n - 1, by omega⟩
    rw [leadlinelaw08_few_l2, if_neg (by simp; omega)]
    exact ⟨out, rfl, by omega⟩
  | succ d ih =>
    intro j n out hj hn ho
    obtain ⟨n, rfl⟩ : ∃ m, n = m + 1 := ⟨n - 1, by omega⟩
    by_cases h1 : j < p.length
    · rw [leadlinelaw08_few_l2, if_pos (by simp; omega), getI_at rfl h1]
      simp only [Option.bind_some]
      rw [subI_ok (by omega) (by omega) (by omega)]
      simp only [Option.bind_some]
      rw [appG_ok (by simp; omega) (by decide)]
      simp only [Option.bind_some]
      rw [wsucc (n := 6) (by omega) (by decide)]
      exact ih (j + 1) n _ (by omega) (by omega) (by simp; omega)
    · rw [leadlinelaw08_few_l2, if_neg (by simp; omega)]
      exact ⟨out, rfl, by omega⟩
theorem few6 (p : List Str) : ∃ r, leadlinelaw08_few 1001 p = some r ∧ r.length ≤ 6 := few_loop p 6 0 1001 [] (by decide) (by decide) (Nat.le_refl _)
theorem fix_b : ((leadlinelaw08_fixed 1001).bind fun r => some r) = some true := by rw [fixed08]; rfl
theorem CodeMakes_eq (p1 : List api_Node) (p6 : List Str) : leadlinelaw08_CodeMakes 1001 p1 p6 = some true := by
  unfold leadlinelaw08_CodeMakes
  obtain ⟨l, l1, l2⟩ := CutN p1
  obtain ⟨ns, n1, n2⟩ := few6 p6
  rw [l1, n1]
  simp only [Option.bind_some]
  obtain ⟨r, e1, e2, hr⟩ := Make_spec (names := ns) l2 (by omega)
  rw [e1, e2]
  simp only [Option.bind_some]
  have hlen : r.1.length ≤ 1000 := by
    rcases hr with ⟨_, rfl⟩ | ⟨t, _, _, rfl⟩ | ⟨t, ht, _, rfl⟩
    · simp
    · simp
    · have := congrArg List.length ht.flat
      rw [T.flat_len] at this
      simp only [post_len]; omega
  rw [Same08 hlen (by omega)]
  simp only [Option.bind_some]
  rw [if_pos (by simp), fix_b]
end Go.MD.CODE
