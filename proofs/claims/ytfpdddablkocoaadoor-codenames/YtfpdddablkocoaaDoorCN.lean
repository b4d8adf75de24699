/- The laws CodeSame and CodeNames. No condition: plain lemmas. -/
import Derived.Test.YtfpdddablkocoaaDoorCK
namespace Go.MD.CODE
open Go Go.MD
theorem same_l2 {kf : List Int → Option Bool} {seed : Int} {ns : List Str} (hn : ns.length ≤ 100) : ∀ (d j n : Nat) (out : List Int), j + d = ns.length → d < n → out.length = j →
    ∃ nums, leadlinelaw08_CodeSame_l2 1001 kf seed ns n out (j : Int) = kf nums ∧ nums.length = ns.length := by
  intro d
  induction d with
  | zero =>
    intro j n out hj hn' ho
    obtain ⟨n, rfl⟩ : ∃ m, n = m + 1 := ⟨n - 1, by omega⟩
    rw [leadlinelaw08_CodeSame_l2, if_neg (by omega)]
    exact ⟨out, rfl, by omega⟩
  | succ d ih =>
    intro j n out hj hn' ho
    obtain ⟨n, rfl⟩ : ∃ m, n = m + 1 := ⟨n - 1, by omega⟩
    rw [leadlinelaw08_CodeSame_l2, if_pos (by omega), appG_ok (by simp; omega) (by decide)]
    simp only [Option.bind_some]
    rw [wsucc (j := j) (n := ns.length) (by omega) (by omega)]
    exact ih (j + 1) n _ (by omega) (by omega) (by simp; omega)
def leafN (l : List api_Node) : Nat := l.countP fun x => decide (ar x.Op = 0)
theorem leafN_flat : ∀ t : T, t.wk → leafN t.flat = leavesT t
  | .leaf x, h => by
    have h' : ar x.Op = 0 := h
    simp [leafN, T.flat, leavesT, h']
  | .un x a, h => by
    have h' := h.1
    have ih := leafN_flat a h.2
    unfold leafN at *
    simp [T.flat, leavesT, h', ih]
  | .bin x a b, h => by
    have h' := h.1
    have ih := leafN_flat a h.2.1
    have ih2 := leafN_flat b h.2.2
    unfold leafN at *
    simp [T.flat, leavesT, h', ih, ih2]
theorem same_l4 {kf : Int → Option Bool} {l : List api_Node} (hl : l.length ≤ 60) : ∀ (d j n c : Nat), j + d = l.length → d < n → c ≤ j →
    leadlinelaw08_CodeSame_l4 1001 kf l n (c : Int) (j : Int) = kf ((c + leafN (l.drop j) : Nat) : Int) := by
  intro d
  induction d with
  | zero =>
    intro j n c hj hn hc
    obtain ⟨n, rfl⟩ : ∃ m, n = m + 1 := ⟨n - 1, by omega⟩
    rw [leadlinelaw08_CodeSame_l4, if_neg (by omega), List.drop_of_length_le (by omega)]
    rfl
  | succ d ih =>
    intro j n c hj hn hc
    obtain ⟨n, rfl⟩ : ∃ m, n = m + 1 := ⟨n - 1, by omega⟩
    have h1 : j < l.length := by omega
    rw [leadlinelaw08_CodeSame_l4, if_pos (by omega), getI_at rfl h1]
    simp only [Option.bind_some, kids_eq, leadlinelaw08_CodeSame_j5]
    have hd : leafN (l.drop j) = leafN (l.drop (j + 1)) + if ar l[j].Op = 0 then 1 else 0 := by
      rw [List.drop_eq_getElem_cons h1]
      unfold leafN
      rw [List.countP_cons]; simp
    rw [wsucc h1 (by omega), hd]
    by_cases e : ar l[j].Op = 0
    · rw [if_pos e, if_pos e, wsucc (j := c) (n := 100) (by omega) (by decide), ih (j + 1) n (c + 1) (by omega) (by omega) (by omega)]
      congr 2; omega
    · rw [if_neg e, if_neg e, ih (j + 1) n c (by omega) (by omega) (by omega)]
      rfl
theorem CodeSame_eq (p1 : List api_Node) (p6 : List Str) (p11 : Int) : leadlinelaw08_CodeSame 1001 p1 p6 p11 = some true := by
  unfold leadlinelaw08_CodeSame
  obtain ⟨l, l1, l2⟩ := CutN p1
  obtain ⟨ns, n1, n2⟩ := few6 p6
  rw [l1, n1]
  simp only [Option.bind_some]
  obtain ⟨nums, e1, hlen⟩ := same_l2 (kf := leadlinelaw08_CodeSame_j1 1001 l ns) (seed := p11) (ns := ns) (by omega) ns.length 0 1001 [] (by omega) (by omega) rfl
  rw [show (0 : Int) = ((0 : Nat) : Int) from rfl, e1, leadlinelaw08_CodeSame_j1]
  obtain ⟨r, m1, _, hr⟩ := Make_spec (names := ns) l2 (by omega)
  have hval : code_Value 1001 l ns nums = if r.2 ≠ 0 then some (0, r.2) else (code_Run 1001 r.1 nums).bind fun q => some (q.1, q.2) := by
    unfold code_Value
    rw [if_neg (by omega), m1]
    rfl
  rw [m1]
  simp only [Option.bind_some]
  rcases hr with ⟨h, rfl⟩ | ⟨t, ht, h, rfl⟩ | ⟨t, ht, h, rfl⟩
  · rw [if_pos (by simp), if_pos (by simp), fix_b]
  · rw [if_pos (by simp), if_pos (by simp), fix_b]
  · rw [if_neg (by simp), show (0 : Int) = ((0 : Nat) : Int) from rfl, same_l4 l2 l.length 0 1001 0 (by omega) (by omega) (Nat.le_refl _), List.drop_zero, leadlinelaw08_CodeSame_j3]
    have hle := congrArg List.length ht.flat
    rw [T.flat_len] at hle
    rw [if_neg (by simp)] at hval
    simp only at hval ⊢
    rw [run_post ht h hlen.symm] at hval ⊢
    simp only [Option.bind_some] at hval ⊢
    rw [hval]
    simp only [Option.bind_some]
    rw [Right_eq (by rw [post_len]; omega) (by rw [post_len]; omega), post_right ht h hlen.symm]
    simp only [Option.bind_some]
    rw [if_pos (by simp [post_len]; omega), High_eq (by rw [post_len]; omega) (by rw [post_len]; omega)]
    have hh := hts_post (names := ns) t [] 0 0 ht.wk
    rw [List.append_nil] at hh
    have hh' : hts (post ns t) 0 0 = some (0 + 1, max 0 (0 + hiT t)) := by rw [hh]; rfl
    rw [hh']
    simp only [Option.bind_some]
    have h1 := hiT_pos t
    have h2 := hiT_le t
    have h3 := leafN_flat t ht.wk
    rw [← ht.flat] at h3
    rw [if_pos (by omega), if_pos (by omega), fix_b]
/-! names -/
def na : List Str := [[97], [98], [120, 49]]
def nb : List Str := [[120, 49], [97], [98]]
theorem mem_ab (s : Str) : s ∈ na ↔ s ∈ nb := by
  simp only [na, nb, List.mem_cons, List.not_mem_nil, or_false]
  constructor
  · rintro (h | h | h)
    · exact .inr (.inl h)
    · exact .inr (.inr h)
    · exact .inl h
  · rintro (h | h | h)
    · exact .inr (.inr h)
    · exact .inl h
    · exact .inr (.inl h)
theorem idx_ab {s : Str} (h : s ∈ na) : (idxS na s 0 = 0 ∧ idxS nb s 0 = 1) ∨ (idxS na s 0 = 1 ∧ idxS nb s 0 = 2) ∨ (idxS na s 0 = 2 ∧ idxS nb s 0 = 0) := by
  simp only [na, List.mem_cons, List.not_mem_nil, or_false] at h
  rcases h with rfl | rfl | rfl
  · exact .inl ⟨by decide, by decide⟩
  · exact .inr (.inl ⟨by decide, by decide⟩)
  · exact .inr (.inr ⟨by decide, by decide⟩)
theorem vars_ab (l : List api_Node) : varsIn l na ↔ varsIn l nb := ⟨fun h x hx h2 => (mem_ab _).1 (h x hx h2), fun h x hx h2 => (mem_ab _).2 (h x hx h2)⟩
theorem eval_ab (a b c : Int) : ∀ t : T, varsIn t.flat na → evalT na [a, b, c] t = evalT nb [c, a, b] t
  | .leaf x, h => by
    simp only [evalT]
    by_cases e : x.Op = 2
    · rw [if_pos e, if_pos e]
      rcases idx_ab (h x (.head _) e) with ⟨h1, h2⟩ | ⟨h1, h2⟩ | ⟨h1, h2⟩ <;> (rw [h1, h2]; rfl)
    · rw [if_neg e, if_neg e]
  | .un x t, h => by
    simp only [evalT]
    rw [eval_ab a b c t fun z hz => h z (.tail _ hz)]
  | .bin x t u, h => by
    simp only [evalT]
    rw [eval_ab a b c t fun z hz => h z (.tail _ (List.mem_append_left _ hz)), eval_ab a b c u fun z hz => h z (.tail _ (List.mem_append_right _ hz))]
/-- two steps that are the same but for where a name stands -/
def alike (x y : api_Op) : Prop := x.Kind = y.Kind ∧ (x.Kind ≠ 2 → x = y) ∧ (x.Kind = 2 → 0 ≤ x.N ∧ x.N ≤ 2 ∧ (IntKind.i64.wrap (x.N + 1)).tmod 3 = y.N)
theorem op_alike {x : api_Node} (h : x.Op = 2 → x.Name ∈ na) : alike (opS na x) (opS nb x) := by
  unfold alike opS
  refine ⟨rfl, fun h2 => ?_, fun h2 => ?_⟩
  · have h2' : ¬ x.Op = 2 := h2
    rw [if_neg h2', if_neg h2']
  · have h2' : x.Op = 2 := h2
    simp only
    rw [if_pos h2', if_pos h2']
    rcases idx_ab (h h2') with ⟨h1, h2⟩ | ⟨h1, h2⟩ | ⟨h1, h2⟩ <;> (rw [h1, h2]; decide)
theorem post_alike : ∀ t : T, varsIn t.flat na → ∀ j (h : j < (post na t).length) (h' : j < (post nb t).length), alike (post na t)[j] (post nb t)[j]
  := by
  have app : ∀ {a b c d : List api_Op}, a.length = b.length → (∀ j (h : j < a.length) (h' : j < b.length), alike a[j] b[j]) → (∀ j (h : j < c.length) (h' : j < d.length), alike c[j] d[j]) → ∀ j (h : j < (a ++ c).length) (h' : j < (b ++ d).length), alike (a ++ c)[j] (b ++ d)[j] := by
    intro a b c d hab h1 h2 j h h'
    rcases Nat.lt_or_ge j a.length with q | q
    · rw [List.getElem_append_left q, List.getElem_append_left (by omega)]; exact h1 j q (by omega)
    · rw [List.getElem_append_right q, List.getElem_append_right (by omega)]
      simp only [List.length_append] at h h'
      have := h2 (j - a.length) (by omega) (by omega)
      simpa only [hab] using this
  have one : ∀ x : api_Node, (x.Op = 2 → x.Name ∈ na) → ∀ j (h : j < [opS na x].length) (h' : j < [opS nb x].length), alike [opS na x][j] [opS nb x][j] := by
    intro x hx j h h'
    have : j = 0 := by simp at h; exact h
    subst this
    exact op_alike hx
  intro t
  induction t with
  | leaf x => intro hv; exact one x (hv x (.head _))
  | un x a ih => intro hv; exact app (by rw [post_len, post_len]) (ih fun z hz => hv z (.tail _ hz)) (one x (hv x (.head _)))
  | bin x a b iha ihb =>
    intro hv
    refine app (by simp [post_len]) (app (by rw [post_len, post_len]) (iha fun z hz => hv z (.tail _ (List.mem_append_left _ hz))) (ihb fun z hz => hv z (.tail _ (List.mem_append_right _ hz)))) (one x (hv x (.head _)))
theorem names_l2 {r q : List api_Op × Int} (hlen : r.1.length = q.1.length) (hl : r.1.length ≤ 1000) (h : ∀ j (h : j < r.1.length) (h' : j < q.1.length), alike r.1[j] q.1[j]) : ∀ (d j n : Nat), j + d = r.1.length → d < n →
    leadlinelaw08_CodeNames_l2 1001 (leadlinelaw08_CodeNames_j1 1001) r q n (j : Int) = some true := by
  intro d
  induction d with
  | zero =>
    intro j n hj hn
    obtain ⟨n, rfl⟩ : ∃ m, n = m + 1 := ⟨n - 1, by omega⟩
    rw [leadlinelaw08_CodeNames_l2, if_neg (by omega), leadlinelaw08_CodeNames_j1, fix_b]
  | succ d ih =>
    intro j n hj hn
    obtain ⟨n, rfl⟩ : ∃ m, n = m + 1 := ⟨n - 1, by omega⟩
    have h1 : j < r.1.length := by omega
    have h2 : j < q.1.length := by omega
    obtain ⟨a1, a2, a3⟩ := h j h1 h2
    have go : leadlinelaw08_CodeNames_j3 (leadlinelaw08_CodeNames_l2 1001 (leadlinelaw08_CodeNames_j1 1001) r q n) (j : Int) false = some true := by
      rw [leadlinelaw08_CodeNames_j3, sure_ok (b := !false) rfl]
      simp only [Option.bind_some]
      rw [wsucc h1 (by omega)]
      exact ih (j + 1) n (by omega) (by omega)
    rw [leadlinelaw08_CodeNames_l2, if_pos (by omega), getI_at rfl h1, getI_at rfl h2]
    simp only [Option.bind_some]
    rw [if_neg (by simpa using a1)]
    by_cases e : r.1[j].Kind = 2
    · rw [if_neg (by simpa using e), if_pos e, decide_eq_false (by simpa using (a3 e).2.2)]
      exact go
    · rw [if_pos (by simpa using e), if_neg (by simpa using a2 e), if_neg e]
      exact go
theorem CodeNames_eq (p1 : List api_Node) (p6 p7 p8 : Int) (_h : InR p6 ∧ InR p7 ∧ InR p8) : leadlinelaw08_CodeNames 1001 p1 p6 p7 p8 = some true := by
  unfold leadlinelaw08_CodeNames
  by_cases hl : 60 < p1.length
  · rw [if_pos (by omega), fix_b]
  · rw [if_neg (by omega)]
    have ea : ([[97], [98], [120, 49]] : List Str) = na := rfl
    have eb : ([[120, 49], [97], [98]] : List Str) = nb := rfl
    rw [ea, eb]
    obtain ⟨v, v1, hv⟩ := Value_spec (l := p1) (names := na) (nums := [p6, p7, p8]) (by omega) (by decide)
    obtain ⟨w, w1, hw⟩ := Value_spec (l := p1) (names := nb) (nums := [p8, p6, p7]) (by omega) (by decide)
    obtain ⟨r, r1, _, hr⟩ := Make_spec (l := p1) (names := na) (by omega) (by decide)
    obtain ⟨q, q1, _, hq⟩ := Make_spec (l := p1) (names := nb) (by omega) (by decide)
    have la : na.length = ([p6, p7, p8] : List Int).length := rfl
    have lb : nb.length = ([p8, p6, p7] : List Int).length := rfl
    have uniq : ∀ t u : T, RightE p1 t → RightE p1 u → post na t = post na u ∧ post nb t = post nb u := by
      intro t u ht hu
      have dt := ht.depth
      have du := hu.depth
      have a1 := make_eq (l := p1) (by omega) (names := na) (by decide) t 1001 [] [] (tree_at0 ht.flat) ht.wk (by omega)
      have a2 := make_eq (l := p1) (by omega) (names := na) (by decide) u 1001 [] [] (tree_at0 hu.flat) hu.wk (by omega)
      have b1 := make_eq (l := p1) (by omega) (names := nb) (by decide) t 1001 [] [] (tree_at0 ht.flat) ht.wk (by omega)
      have b2 := make_eq (l := p1) (by omega) (names := nb) (by decide) u 1001 [] [] (tree_at0 hu.flat) hu.wk (by omega)
      rw [a1] at a2; rw [b1] at b2
      exact ⟨Option.some.inj a2, Option.some.inj b2⟩
    have runs : ∀ t u : T, RightE p1 t → RightE p1 u → varsIn p1 na → tell (evalT na [p6, p7, p8] t) = tell (evalT na [p6, p7, p8] u) := by
      intro t u ht hu hv
      have e1 := run_post ht hv la
      have e2 := run_post hu hv la
      rw [(uniq t u ht hu).1] at e1
      rw [e1] at e2
      exact Option.some.inj e2
    have hvw : v = w := by
      rcases hv with ⟨h, _⟩ | ⟨_, h, rfl⟩ | ⟨_, t, ht, h, rfl⟩ | ⟨_, t, ht, h, rfl⟩
      · exact absurd la h
      · rcases hw with ⟨h', _⟩ | ⟨_, h', rfl⟩ | ⟨_, u, hu, h', rfl⟩ | ⟨_, u, hu, h', rfl⟩
        · exact absurd lb h'
        · rfl
        · exact absurd ⟨u, hu⟩ h
        · exact absurd ⟨u, hu⟩ h
      · rcases hw with ⟨h', _⟩ | ⟨_, h', rfl⟩ | ⟨_, u, hu, h', rfl⟩ | ⟨_, u, hu, h', rfl⟩
        · exact absurd lb h'
        · exact absurd ⟨t, ht⟩ h'
        · rfl
        · exact absurd ((vars_ab p1).2 h') h
      · rcases hw with ⟨h', _⟩ | ⟨_, h', rfl⟩ | ⟨_, u, hu, h', rfl⟩ | ⟨_, u, hu, h', rfl⟩
        · exact absurd lb h'
        · exact absurd ⟨t, ht⟩ h'
        · exact absurd ((vars_ab p1).1 h) h'
        · rw [runs t u ht hu h, eval_ab p6 p7 p8 u (by rw [← hu.flat]; exact h)]
    have hrq : r.2 = q.2 ∧ r.1.length = q.1.length ∧ r.1.length ≤ 1000 ∧ ∀ j (h : j < r.1.length) (h' : j < q.1.length), alike r.1[j] q.1[j] := by
      rcases hr with ⟨h, rfl⟩ | ⟨t, ht, h, rfl⟩ | ⟨t, ht, h, rfl⟩
      · rcases hq with ⟨h', rfl⟩ | ⟨u, hu, h', rfl⟩ | ⟨u, hu, h', rfl⟩
        · exact ⟨rfl, rfl, by simp, fun j h => by simp at h⟩
        · exact absurd ⟨u, hu⟩ h
        · exact absurd ⟨u, hu⟩ h
      · rcases hq with ⟨h', rfl⟩ | ⟨u, hu, h', rfl⟩ | ⟨u, hu, h', rfl⟩
        · exact absurd ⟨t, ht⟩ h'
        · exact ⟨rfl, rfl, by simp, fun j h => by simp at h⟩
        · exact absurd ((vars_ab p1).2 h') h
      · rcases hq with ⟨h', rfl⟩ | ⟨u, hu, h', rfl⟩ | ⟨u, hu, h', rfl⟩
        · exact absurd ⟨t, ht⟩ h'
        · exact absurd ((vars_ab p1).1 h) h'
        · have hle := congrArg List.length ht.flat
          rw [T.flat_len] at hle
          simp only
          rw [← (uniq t u ht hu).2]
          exact ⟨trivial, by rw [post_len, post_len], by rw [post_len]; omega, post_alike t (by rw [← ht.flat]; exact h)⟩
    obtain ⟨s1, s2, s3, s4⟩ := hrq
    rw [v1, w1, r1, q1]
    simp only [Option.bind_some]
    rw [sure_ok (by rw [hvw, s1, s2]; simp)]
    simp only [Option.bind_some]
    rw [show (0 : Int) = ((0 : Nat) : Int) from rfl]
    exact names_l2 s2 s3 s4 r.1.length 0 1001 (by omega) (by omega)
end Go.MD.CODE
