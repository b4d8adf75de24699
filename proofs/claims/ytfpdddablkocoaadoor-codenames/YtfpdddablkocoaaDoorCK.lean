/- The laws CodeValues, CodeSame, CodeNames. No condition: plain lemmas. -/
import Derived.Test.YtfpdddablkocoaaDoorCJ
namespace Go.MD.CODE
open Go Go.MD
/-- what an expression makes -/
def evalT (names : List Str) (nums : List Int) : T → Option Int
  | .leaf x => some (if x.Op = 2 then (nums[(idxS names x.Name 0).toNat]?).getD 0 else x.N)
  | .un x a => (evalT names nums a).map (oneS x.Op)
  | .bin x a b => (evalT names nums a).bind fun u => (evalT names nums b).bind fun v => twoS x.Op u v
section
variable {names : List Str} {nums : List Int}
theorem wN_of {k : Int} {n : Nat} (h : ar k = (n : Int)) : wN k = n := by have := wants_ar (k := k) (by omega); omega
theorem ex_post : ∀ (t : T) (r : List api_Op) (s : List Int), t.wk → ex nums (post names t ++ r) s = (evalT names nums t).bind fun v => ex nums r (v :: s)
  | .leaf x, r, s, h => by
    have hw := wN_of (n := 0) h
    show (ex1 nums (opS names x) s).bind (ex nums r) = _
    have : ex1 nums (opS names x) s = some ((if x.Op = 2 then (nums[(idxS names x.Name 0).toNat]?).getD 0 else x.N) :: s) := by
      unfold ex1 opS
      simp only
      rw [if_pos hw]
      by_cases e : x.Op = 2 <;> simp [e]
    rw [this]; rfl
  | .un x a, r, s, h => by
    have hw := wN_of (n := 1) h.1
    show ex nums ((post names a ++ [opS names x]) ++ r) s = _
    rw [List.append_assoc, ex_post a _ s h.2]
    show _ = ((evalT names nums a).map (oneS x.Op)).bind _
    cases evalT names nums a with
    | none => rfl
    | some v =>
      simp only [Option.bind_some, Option.map_some]
      show (ex1 nums (opS names x) (v :: s)).bind (ex nums r) = _
      have : ex1 nums (opS names x) (v :: s) = some (oneS x.Op v :: s) := by
        unfold ex1 opS
        simp only
        rw [if_neg (by omega), if_pos hw]
      rw [this]; rfl
  | .bin x a b, r, s, h => by
    have hw := wN_of (n := 2) h.1
    show ex nums ((post names a ++ post names b ++ [opS names x]) ++ r) s = _
    rw [List.append_assoc, List.append_assoc, ex_post a _ s h.2.1]
    show _ = ((evalT names nums a).bind fun u => (evalT names nums b).bind fun v => twoS x.Op u v).bind _
    cases evalT names nums a with
    | none => rfl
    | some u =>
      simp only [Option.bind_some]
      rw [ex_post b _ _ h.2.2]
      cases evalT names nums b with
      | none => rfl
      | some v =>
        simp only [Option.bind_some]
        show (ex1 nums (opS names x) (v :: u :: s)).bind (ex nums r) = _
        have : ex1 nums (opS names x) (v :: u :: s) = (twoS x.Op u v).map (· :: s) := by
          unfold ex1 opS
          simp only
          rw [if_neg (by omega), if_neg (by omega)]
        rw [this]
        cases twoS x.Op u v <;> rfl
/-- how high the pile is -/
def hiT : T → Nat
  | .leaf _ => 1
  | .un _ a => hiT a
  | .bin _ a b => max (hiT a) (1 + hiT b)
def leavesT : T → Nat
  | .leaf _ => 1
  | .un _ a => leavesT a
  | .bin _ a b => leavesT a + leavesT b
theorem hiT_pos : ∀ t : T, 1 ≤ hiT t
  | .leaf _ => Nat.le_refl _
  | .un _ a => hiT_pos a
  | .bin _ a b => by have := hiT_pos a; simp only [hiT]; omega
theorem leaves_pos : ∀ t : T, 1 ≤ leavesT t
  | .leaf _ => Nat.le_refl _
  | .un _ a => leaves_pos a
  | .bin _ a b => by have := leaves_pos a; simp only [leavesT]; omega
theorem hiT_le : ∀ t : T, hiT t ≤ leavesT t
  | .leaf _ => Nat.le_refl _
  | .un _ a => hiT_le a
  | .bin _ a b => by have := hiT_le a; have := hiT_le b; have := leaves_pos a; simp only [hiT, leavesT]; omega
theorem hts_post : ∀ (t : T) (r : List api_Op) (n h : Nat), t.wk → hts (post names t ++ r) n h = hts r (n + 1) (max h (n + hiT t))
  | .leaf x, r, n, h, hw => by
    have hw' := wN_of (n := 0) hw
    show (if n < wN x.Op then none else hts r (n - wN x.Op + 1) (max h (n - wN x.Op + 1))) = _
    rw [hw', if_neg (by omega)]; rfl
  | .un x a, r, n, h, hw => by
    have hw' := wN_of (n := 1) hw.1
    show hts ((post names a ++ [opS names x]) ++ r) n h = _
    rw [List.append_assoc, hts_post a _ n h hw.2]
    show (if n + 1 < wN x.Op then none else hts r (n + 1 - wN x.Op + 1) (max (max h (n + hiT a)) (n + 1 - wN x.Op + 1))) = _
    have := hiT_pos a
    rw [hw', if_neg (by omega), show n + 1 - 1 + 1 = n + 1 by omega, show max (max h (n + hiT a)) (n + 1) = max h (n + hiT a) by omega]
    rfl
  | .bin x a b, r, n, h, hw => by
    have hw' := wN_of (n := 2) hw.1
    show hts ((post names a ++ post names b ++ [opS names x]) ++ r) n h = _
    rw [List.append_assoc, List.append_assoc, hts_post a _ n h hw.2.1, hts_post b _ _ _ hw.2.2]
    show (if n + 1 + 1 < wN x.Op then none else hts r (n + 1 + 1 - wN x.Op + 1) (max (max (max h (n + hiT a)) (n + 1 + hiT b)) (n + 1 + 1 - wN x.Op + 1))) = _
    have := hiT_pos a
    have := hiT_pos b
    rw [hw', if_neg (by omega), show n + 1 + 1 - 2 + 1 = n + 1 by omega, show max (max (max h (n + hiT a)) (n + 1 + hiT b)) (n + 1) = max h (n + max (hiT a) (1 + hiT b)) by omega]
    rfl
theorem post_ok (many : Int) (hm : (names.length : Int) ≤ many) : ∀ (t : T), t.wk → (∀ x ∈ t.flat, mayS x = true) → varsIn t.flat names → ∀ y ∈ post names t, okOp many y = true
  := by
  have one : ∀ x : api_Node, 0 ≤ ar x.Op → mayS x = true → (x.Op = 2 → x.Name ∈ names) → okOp many (opS names x) = true := by
    intro x ha hx hv
    unfold mayS at hx
    simp only [Bool.and_eq_true, decide_eq_true_eq] at hx
    unfold okOp opS
    simp only
    by_cases e1 : x.Op = 1
    · rw [if_pos e1]
      rw [if_pos e1] at hx
      have := hx.2
      simp at this
      have e2 : ¬ x.Op = 2 := by omega
      simp [e2]; omega
    · rw [if_neg e1]
      rw [if_neg e1] at hx
      by_cases e2 : x.Op = 2
      · rw [if_pos e2, if_pos e2]
        have h1 := (idxS_nonneg names x.Name 0)
        have h2 := h1.2 (hv e2)
        have h3 := h1.1.2 (hv e2)
        simp; omega
      · rw [if_neg e2, if_neg e2]
        rw [if_neg e2] at hx
        have := hx.2
        simp at this
        have := ar_cases x.Op
        simp; omega
  intro t
  induction t with
  | leaf x =>
    intro hw hx hv y hy
    have : y = opS names x := by simpa [post] using hy
    subst this
    have hw' : ar x.Op = 0 := hw
    exact one x (by omega) (hx x (.head _)) (hv x (.head _))
  | un x a ih =>
    intro hw hx hv y hy
    have hw1 := hw.1
    simp only [post, List.mem_append, List.mem_singleton] at hy
    rcases hy with hy | rfl
    · exact ih hw.2 (fun z hz => hx z (.tail _ hz)) (fun z hz => hv z (.tail _ hz)) y hy
    · exact one x (by omega) (hx x (.head _)) (hv x (.head _))
  | bin x a b iha ihb =>
    intro hw hx hv y hy
    have hw1 := hw.1
    simp only [post, List.mem_append, List.mem_singleton] at hy
    rcases hy with (hy | hy) | rfl
    · exact iha hw.2.1 (fun z hz => hx z (.tail _ (List.mem_append_left _ hz))) (fun z hz => hv z (.tail _ (List.mem_append_left _ hz))) y hy
    · exact ihb hw.2.2 (fun z hz => hx z (.tail _ (List.mem_append_right _ hz))) (fun z hz => hv z (.tail _ (List.mem_append_right _ hz))) y hy
    · exact one x (by omega) (hx x (.head _)) (hv x (.head _))
theorem post_right {l : List api_Node} {t : T} (ht : RightE l t) (hv : varsIn l names) (hn : names.length = nums.length) : rightS (post names t) (nums.length : Int) = true := by
  have hl := congrArg List.length ht.flat
  rw [T.flat_len] at hl
  have h40 := ht.len
  refine rightS_mk (q := max 0 (0 + hiT t)) (by rw [post_len]; omega) ?_ ?_
  · have := hts_post (names := names) t [] 0 0 ht.wk
    rw [List.append_nil] at this
    rw [this]; rfl
  · exact post_ok _ (by omega) t ht.wk (fun x hx => ht.may x (by rw [ht.flat]; exact hx)) (fun x hx => hv x (by rw [ht.flat]; exact hx))
theorem run_post {l : List api_Node} {t : T} (ht : RightE l t) (hv : varsIn l names) (hn : names.length = nums.length) : code_Run 1001 (post names t) nums = some (tell (evalT names nums t)) := by
  have hl := congrArg List.length ht.flat
  rw [T.flat_len] at hl
  have h40 := ht.len
  rw [Run_eq (by rw [post_len]; omega) (by rw [post_len]; omega), if_pos (post_right ht hv hn)]
  have := ex_post (names := names) (nums := nums) t [] [] ht.wk
  rw [List.append_nil] at this
  rw [this]
  cases evalT names nums t <;> rfl
theorem evalT_in (hn : allI nums) : ∀ (t : T) {v : Int}, t.wk → (∀ x ∈ t.flat, mayS x = true) → evalT names nums t = some v → InR v := by
  have c0 : InR 0 := ⟨by decide, by decide⟩
  have c1 : InR 1 := ⟨by decide, by decide⟩
  have cb : ∀ b, InR (b01 b) := fun b => by unfold b01; split <;> assumption
  intro t
  induction t with
  | leaf x =>
    intro v hw hx h
    simp only [evalT, Option.some.injEq] at h
    subst h
    by_cases e2 : x.Op = 2
    · rw [if_pos e2]
      cases hg : nums[(idxS names x.Name 0).toNat]? with
      | none => exact c0
      | some v => exact hn v (List.mem_of_getElem? hg)
    · rw [if_neg e2]
      have hm := hx x (.head _)
      unfold mayS at hm
      simp only [Bool.and_eq_true, decide_eq_true_eq] at hm
      by_cases e1 : x.Op = 1
      · rw [if_pos e1] at hm
        have := hm.2
        simp at this
        exact ⟨by omega, by omega⟩
      · rw [if_neg e1, if_neg e2] at hm
        have := hm.2
        simp at this
        exact ⟨by omega, by omega⟩
  | un x a ih =>
    intro v hw hx h
    simp only [evalT] at h
    obtain ⟨u, h1, rfl⟩ := Option.map_eq_some_iff.1 h
    unfold oneS; split
    · exact wrap_in _
    · split <;> assumption
  | bin x a b iha ihb =>
    intro v hw hx h
    simp only [evalT] at h
    obtain ⟨u, h1, h⟩ := bind_some h
    obtain ⟨w, h2, hv⟩ := bind_some h
    have ha := iha hw.2.1 (fun z hz => hx z (.tail _ (List.mem_append_left _ hz))) h1
    have e9 : ∀ b : Int, InR (u.tmod b) := fun b => by
      have hr : (u.tmod b).natAbs ≤ u.natAbs := by rw [Int.natAbs_tmod]; exact Nat.mod_le _ _
      have h3 := ha.1; have h4 := ha.2
      rcases Int.le_total 0 u with h0 | h0
      · have := Int.tmod_nonneg b h0; exact ⟨by omega, by omega⟩
      · have h5 : u.tmod b ≤ 0 := by have := Int.tmod_nonneg (a := -u) b (by omega); rw [Int.neg_tmod] at this; omega
        exact ⟨by omega, by omega⟩
    unfold twoS at hv
    repeat' split at hv
    all_goals first
      | (cases hv; exact wrap_in _)
      | (cases hv; exact e9 _)
      | (cases hv; exact cb _)
      | cases hv
theorem ref_One_eq (N : Nat) {k : Int} (h : ar k = 1) (a : Int) : leadlineref01_One N k a = some (oneS k a, 0) := by
  have hk : k = 3 ∨ k = 4 := by have := ar_cases k; omega
  unfold leadlineref01_One oneS
  rcases hk with rfl | rfl
  · simp
  · by_cases e : a = 0 <;> simp [e, ref_Bool_eq, b01]
theorem tell_ne {o : Option Int} : (tell o).2 ≠ 0 ↔ o = none := by cases o <;> simp [tell]
theorem value_eq {l : List api_Node} (hl1 : l.length ≤ 1000) (hnames : names.length ≤ 100) (hn : allI nums) (hlen : names.length = nums.length) (hmay : ∀ x ∈ l, mayS x = true) (hv : varsIn l names) : ∀ (t : T) (N : Nat) (p q : List api_Node), l = p ++ (t.flat ++ q) → t.wk → l.length + 206 + t.depth ≤ N → leadlineref08_value N l (p.length : Int) names nums = some (tell (evalT names nums t))
  | .leaf x, N, p, q, hl, ht, hN => by
    have h1 : getI l (p.length : Int) = some x := at_head hl
    have hx : x ∈ l := by rw [hl]; simp [T.flat]
    obtain ⟨N, rfl⟩ : ∃ M, N = M + 1 := ⟨N - 1, by omega⟩
    have h0 : ar x.Op = 0 := ht
    rw [leadlineref08_value, h1]
    simp only [Option.bind_some]
    have hc := ar_cases x.Op
    by_cases e1 : x.Op = 1
    · rw [if_pos e1]
      have e2 : ¬ x.Op = 2 := by omega
      simp [evalT, tell, e2]
    · have e2 : x.Op = 2 := by omega
      have hi := (idxS_nonneg names x.Name 0)
      have h2 := hi.2 (hv x hx e2)
      rw [if_neg e1, if_pos e2, Place_eq (by omega) (by omega)]
      simp only [Option.bind_some]
      rw [getI_at (j := (idxS names x.Name 0).toNat) (by omega) (by omega)]
      simp only [Option.bind_some, evalT, tell]
      rw [if_pos e2, List.getElem?_eq_getElem (by omega)]
      rfl
  | .un x a, N, p, q, hl, ht, hN => by
    have h1 : getI l (p.length : Int) = some x := at_head hl
    have hd := T.depth_le (T.un x a)
    have hp : p.length + (T.un x a).size ≤ l.length := by rw [hl]; simp [T.flat_len] <;> omega
    simp only [T.depth, T.size] at hN hd hp
    obtain ⟨N, rfl⟩ : ∃ M, N = M + 1 := ⟨N - 1, by omega⟩
    have ih := value_eq hl1 hnames hn hlen hmay hv a N _ _ (sub1 hl) ht.2 (by omega)
    rw [List.length_append, List.length_singleton] at ih
    have h0 := ht.1
    have hc := ar_cases x.Op
    rw [leadlineref08_value, h1]
    simp only [Option.bind_some]
    rw [if_neg (by omega), if_neg (by omega), wsucc (j := p.length) (n := l.length) (by omega) (by omega), ih]
    simp only [Option.bind_some, evalT]
    cases he : evalT names nums a with
    | none => rw [if_pos (by simp [tell])]; rfl
    | some u =>
      rw [if_neg (by simp [tell]), kids_eq]
      simp only [Option.bind_some]
      rw [if_pos h0, ref_One_eq _ h0]
      rfl
  | .bin x a b, N, p, q, hl, ht, hN => by
    have h1 : getI l (p.length : Int) = some x := at_head hl
    have hd := T.depth_le (T.bin x a b)
    have hp : p.length + (T.bin x a b).size ≤ l.length := by rw [hl]; simp [T.flat_len] <;> omega
    simp only [T.depth, T.size] at hN hd hp
    obtain ⟨N, rfl⟩ : ∃ M, N = M + 1 := ⟨N - 1, by omega⟩
    have ih := value_eq hl1 hnames hn hlen hmay hv a N _ _ (sub2 hl) ht.2.1 (by omega)
    have ih2 := value_eq hl1 hnames hn hlen hmay hv b N _ _ (sub3 hl) ht.2.2 (by omega)
    have e := rEnd_at hl1 (by omega : l.length + 5 ≤ N) (sub2 hl) ht.2.1
    rw [List.length_append, List.length_singleton] at ih e
    rw [List.length_append, List.length_append, List.length_singleton, T.flat_len] at ih2
    have h0 := ht.1
    have hc := ar_cases x.Op
    have hma : ∀ z ∈ a.flat, mayS z = true := fun z hz => hmay z (by rw [hl]; simp [T.flat, hz])
    rw [leadlineref08_value, h1]
    simp only [Option.bind_some]
    rw [if_neg (by omega), if_neg (by omega), wsucc (j := p.length) (n := l.length) (by omega) (by omega), ih]
    simp only [Option.bind_some, evalT]
    cases he : evalT names nums a with
    | none => rw [if_pos (by simp [tell])]; rfl
    | some u =>
      have hu := evalT_in hn a ht.2.1 hma he
      rw [if_neg (by simp [tell]), kids_eq]
      simp only [Option.bind_some]
      rw [if_neg (by omega), e]
      simp only [Option.bind_some]
      rw [ih2]
      simp only [Option.bind_some]
      cases he2 : evalT names nums b with
      | none => rw [if_pos (by simp [tell])]; rfl
      | some v =>
        rw [if_neg (by simp [tell])]
        simp only [tell]
        rw [ref_Two_eq _ (wN_of (n := 2) h0) hu]
        rfl
theorem Value_spec {l : List api_Node} (hl : l.length ≤ 60) (hn : names.length ≤ 100) : ∃ r, code_Value 1001 l names nums = some r ∧
    ((names.length ≠ nums.length ∧ r = (0, 1)) ∨ (names.length = nums.length ∧ (¬ ∃ t, RightE l t) ∧ r = (0, 8)) ∨ (names.length = nums.length ∧ ∃ t, RightE l t ∧ ¬ varsIn l names ∧ r = (0, 9)) ∨ (names.length = nums.length ∧ ∃ t, RightE l t ∧ varsIn l names ∧ r = tell (evalT names nums t))) := by
  unfold code_Value
  by_cases hlen : names.length = nums.length
  · rw [if_neg (by omega)]
    obtain ⟨r, e1, _, hr⟩ := Make_spec (names := names) hl hn
    rw [e1]
    simp only [Option.bind_some]
    rcases hr with ⟨h, rfl⟩ | ⟨t, ht, h, rfl⟩ | ⟨t, ht, h, rfl⟩
    · exact ⟨(0, 8), rfl, .inr (.inl ⟨hlen, h, rfl⟩)⟩
    · exact ⟨(0, 9), rfl, .inr (.inr (.inl ⟨hlen, t, ht, h, rfl⟩))⟩
    · rw [if_neg (by simp)]
      simp only
      rw [run_post ht h hlen]
      exact ⟨_, rfl, .inr (.inr (.inr ⟨hlen, t, ht, h, rfl⟩))⟩
  · rw [if_pos (by omega)]
    exact ⟨(0, 1), rfl, .inl ⟨hlen, rfl⟩⟩
theorem rValue_eq {l : List api_Node} (hl : l.length ≤ 60) (hn : names.length ≤ 100) (hI : allI nums) : leadlineref08_Value 1001 l names nums = code_Value 1001 l names nums := by
  unfold leadlineref08_Value code_Value
  by_cases hlen : names.length = nums.length
  · rw [if_neg (by omega), if_neg (by omega)]
    obtain ⟨r, e1, e2, hr⟩ := Make_spec (names := names) hl hn
    rw [e1, e2]
    simp only [Option.bind_some]
    rcases hr with ⟨h, rfl⟩ | ⟨t, ht, h, rfl⟩ | ⟨t, ht, h, rfl⟩
    · rfl
    · rfl
    · have hd := ht.depth
      have hx := value_eq (l := l) (by omega) hn hI hlen ht.may h t 1001 [] [] (tree_at0 ht.flat) ht.wk (by omega)
      rw [if_neg (by simp), if_neg (by simp)]
      simp only
      rw [run_post ht h hlen]
      have hx' : leadlineref08_value 1001 l 0 names nums = _ := hx
      rw [hx']
  · rw [if_pos (by omega), if_pos (by omega)]
end
theorem allI_take {l : List Int} (h : allI l) (n : Nat) : allI (l.take n) := fun x hx => h x (List.mem_of_mem_take hx)
theorem CodeValues_eq (p1 : List api_Node) (p6 : List Str) (p11 : List Int) (h : allI p11) : leadlinelaw08_CodeValues 1001 p1 p6 p11 = some true := by
  unfold leadlinelaw08_CodeValues
  obtain ⟨l, l1, l2⟩ := CutN p1
  obtain ⟨ns, n1, n2⟩ := few6 p6
  rw [l1, n1]
  simp only [Option.bind_some]
  rw [subI_ok (by omega) (by omega) (by omega)]
  simp only [Option.bind_some, Int.toNat_zero, List.drop_zero]
  have hI := allI_take h (min (p11.length : Int) 8).toNat
  obtain ⟨r, e1, _⟩ := Value_spec (names := ns) (nums := p11.take (min (p11.length : Int) 8).toNat) l2 (by omega)
  rw [rValue_eq l2 (by omega) hI, e1]
  simp only [Option.bind_some]
  rw [if_pos (by simp), fix_b]
end Go.MD.CODE
