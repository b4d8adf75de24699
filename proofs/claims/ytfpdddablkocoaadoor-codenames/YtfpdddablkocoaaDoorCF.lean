/- The laws CodeJoins and CodeParts. No condition: plain lemmas. -/
import Derived.Test.YtfpdddablkocoaaDoorCE
namespace Go.MD.CODE
open Go Go.MD
theorem fixed08 : leadlinelaw08_fixed 1001 = some true := by decide +kernel
theorem Same08_loop (N : Nat) (k : Option Bool) (p q : List api_Op) (hl : p.length = q.length) (hp : p.length ≤ 1000) : ∀ (d j n : Nat), j + d = p.length → d < n →
    leadlineref08_Same_l2 N k p q n (j : Int) = if p.drop j = q.drop j then k else some false := by
  intro d
  induction d with
  | zero =>
    intro j n hj hn
    obtain ⟨n, rfl⟩ : ∃ m, n = m + 1 := ⟨n - 1, by omega⟩
    rw [leadlineref08_Same_l2, if_neg (by omega), List.drop_of_length_le (by omega), List.drop_of_length_le (by omega), if_pos rfl]
  | succ d ih =>
    intro j n hj hn
    obtain ⟨n, rfl⟩ : ∃ m, n = m + 1 := ⟨n - 1, by omega⟩
    have h1 : j < p.length := by omega
    have h2 : j < q.length := by omega
    rw [leadlineref08_Same_l2, if_pos (by omega), getI_at rfl h1, getI_at rfl h2]
    simp only [Option.bind_some]
    rw [wsucc h1 (by omega), ih (j + 1) n (by omega) (by omega), List.drop_eq_getElem_cons h1, List.drop_eq_getElem_cons h2]
    by_cases e : p[j] = q[j]
    · simp only [ne_eq, e, not_true_eq_false, if_false, List.cons.injEq, true_and]
    · simp only [ne_eq, e, not_false_eq_true, if_true, if_false, List.cons.injEq, false_and]
theorem Same08 {N : Nat} {p q : List api_Op} (hp : p.length ≤ 1000) (hN : p.length < N) : leadlineref08_Same N p q = some (decide (p = q)) := by
  unfold leadlineref08_Same
  by_cases h : p.length = q.length
  · rw [if_neg (by omega)]
    have := Same08_loop N leadlineref08_Same_j1 p q h hp p.length 0 N (by omega) hN
    rw [show (0 : Int) = ((0 : Nat) : Int) from rfl, this]
    simp only [List.drop_zero, leadlineref08_Same_j1]
    split <;> simp_all
  · rw [if_pos (by omega)]
    have : p ≠ q := fun e => h (by rw [e])
    simp [this]
theorem Cut08 (N : Nat) (p : List api_Op) : leadlinelaw08_Cut N p = some (p.take 60) := by
  unfold leadlinelaw08_Cut
  rw [subI_ok (by omega) (by omega) (by omega)]
  simp only [Option.bind_some, Int.toNat_zero, List.drop_zero]
  rcases Nat.le_total p.length 60 with h | h
  · rw [show (min (p.length : Int) 60).toNat = p.length by omega, List.take_of_length_le (Nat.le_refl _), List.take_of_length_le h]
  · rw [show (min (p.length : Int) 60).toNat = 60 by omega]
theorem iand_in {x : Int} {m : Nat} (hm : m ≤ 4611686018427387904) : 0 ≤ iand .i64 x (m : Int) ∧ iand .i64 x (m : Int) ≤ (m : Int) := by
  unfold iand
  have h1 : (BitVec.ofInt (IntKind.bits .i64) x &&& BitVec.ofInt (IntKind.bits .i64) (m : Int)).toNat ≤ m := by
    rw [BitVec.toNat_and]
    refine Nat.le_trans Nat.and_le_right ?_
    rw [BitVec.ofInt_natCast, BitVec.toNat_ofNat]
    exact Nat.mod_le _ _
  rw [w64 (by omega) (by omega)]
  omega
theorem tmod_in {x n : Int} (hn : 0 < n) (hx : 0 ≤ x) : 0 ≤ x.tmod n ∧ x.tmod n < n := ⟨Int.tmod_nonneg n hx, Int.tmod_lt_of_pos x hn⟩

/-! joins -/
def nums3 : List Int := [7, -2, 0]
theorem wN2 {k : Int} (h1 : 5 ≤ k) (h2 : k ≤ 15) : wN k = 2 := by unfold wN; rw [if_neg (by omega), if_pos ⟨h1, h2⟩]
theorem okOp2 {k : Int} (h1 : 5 ≤ k) (h2 : k ≤ 15) (many : Int) : okOp many ⟨k, 0⟩ = true := by
  unfold okOp
  have : ¬ k = 1 := by omega
  have h' : ¬ k = 2 := by omega
  simp [this, h']; omega
theorem ref_Bool_eq (N : Nat) (b : Bool) : leadlineref01_Bool N b = some (b01 b) := by unfold leadlineref01_Bool b01; cases b <;> rfl
theorem quot_eq (N : Nat) {a b : Int} (hb : b ≠ 0) (ha : -9223372036854775808 ≤ a ∧ a ≤ 9223372036854775807) : leadlineref01_quotient N a b = some (IntKind.i64.wrap (a.tdiv b)) := by
  unfold leadlineref01_quotient
  by_cases h : a = -9223372036854775808 ∧ b = -1
  · obtain ⟨rfl, rfl⟩ := h
    decide +kernel
  · rw [if_neg (by simpa using h)]
    unfold divI
    rw [if_neg hb]; rfl

theorem R8_right {k : Int} (h : wN k = 2) : leadlineref08_Right 1001 [⟨2, 0⟩, ⟨2, 1⟩, ⟨k, 0⟩] 2 = some true := by
  have hf : ∀ i : Fin 11, leadlineref08_Right 1001 [⟨2, 0⟩, ⟨2, 1⟩, ⟨5 + (i.val : Int), 0⟩] 2 = some true := by decide +kernel
  have hk : 5 ≤ k ∧ k ≤ 15 := by have := kind2 h; omega
  have := hf ⟨(k - 5).toNat, by omega⟩
  rwa [show (5 + (((⟨(k - 5).toNat, by omega⟩ : Fin 11).val : Nat) : Int)) = k by simp; omega] at this
theorem tdiv_in {a b : Int} (hb : b ≠ 0) (ha : InR a) (h : ¬ (a = -9223372036854775808 ∧ b = -1)) : InR (a.tdiv b) ∧ InR (b * a.tdiv b) := by
  have e := Int.mul_tdiv_add_tmod a b
  have h1 : a.tmod b = a - b * a.tdiv b := by omega
  obtain ⟨h2, h3⟩ := ha
  have ha1 : (a.tdiv b).natAbs ≤ a.natAbs := by rw [Int.natAbs_tdiv]; exact Nat.div_le_self _ _
  have hab : (a.tdiv b).natAbs = a.natAbs / b.natAbs := Int.natAbs_tdiv a b
  refine ⟨?_, ?_⟩
  · unfold InR
    by_cases hm : a = -9223372036854775808
    · have hb1 : b ≠ -1 := fun e => h ⟨hm, e⟩
      by_cases hb2 : b = 1
      · subst hb2; rw [Int.tdiv_one]; omega
      · have : 2 ≤ b.natAbs := by omega
        have := Nat.div_le_div_left (a := a.natAbs) this (by decide : 0 < 2)
        omega
    · omega
  · unfold InR
    rcases Int.le_total 0 a with h0 | h0
    · have := Int.tmod_nonneg b h0
      have h5 : 0 ≤ b * a.tdiv b := by
        rcases Int.le_total 0 b with hb0 | hb0
        · exact Int.mul_nonneg hb0 (Int.tdiv_nonneg h0 hb0)
        · have : a.tdiv b ≤ 0 := by have := Int.tdiv_nonneg (a := a) (b := -b) h0 (by omega); rw [Int.tdiv_neg] at this; omega
          exact Int.mul_nonneg_of_nonpos_of_nonpos hb0 this
      omega
    · have h4 : a.tmod b ≤ 0 := by have := Int.tmod_nonneg (a := -a) b (by omega); rw [Int.neg_tmod] at this; omega
      have h5 : b * a.tdiv b ≤ 0 := by
        rcases Int.le_total 0 b with hb0 | hb0
        · have : a.tdiv b ≤ 0 := by have := Int.tdiv_nonneg (a := -a) (b := b) (by omega) hb0; rw [Int.neg_tdiv] at this; omega
          exact Int.mul_nonpos_of_nonneg_of_nonpos hb0 this
        · have : 0 ≤ a.tdiv b := by have := Int.tdiv_nonneg (a := -a) (b := -b) (by omega) (by omega); rwa [Int.neg_tdiv, Int.tdiv_neg, Int.neg_neg] at this
          exact Int.mul_nonpos_of_nonpos_of_nonneg hb0 this
      omega
theorem tmod_wrap {a b : Int} (hb : b ≠ 0) (ha : InR a) : IntKind.i64.wrap (a - IntKind.i64.wrap (b * IntKind.i64.wrap (a.tdiv b))) = a.tmod b := by
  by_cases h : a = -9223372036854775808 ∧ b = -1
  · obtain ⟨rfl, rfl⟩ := h
    decide +kernel
  · obtain ⟨h1, h2⟩ := tdiv_in hb ha h
    have e := Int.mul_tdiv_add_tmod a b
    have hm : a - b * a.tdiv b = a.tmod b := by omega
    have hr : (a.tmod b).natAbs ≤ a.natAbs := by rw [Int.natAbs_tmod]; exact Nat.mod_le _ _
    rw [w64 h1.1 h1.2, w64 h2.1 h2.2, hm]
    have h3 := ha.1; have h4 := ha.2
    rw [w64]
    · rcases Int.le_total 0 a with h0 | h0
      · have := Int.tmod_nonneg b h0; omega
      · omega
    · rcases Int.le_total 0 a with h0 | h0
      · omega
      · have h4 : a.tmod b ≤ 0 := by have := Int.tmod_nonneg (a := -a) b (by omega); rw [Int.neg_tmod] at this; omega
        omega
theorem ref_Two_eq (N : Nat) {k : Int} (h : wN k = 2) {a b : Int} (ha : InR a) : leadlineref01_Two N k a b = some (tell (twoS k a b)) := by
  unfold leadlineref01_Two
  simp only [ref_Bool_eq]
  rcases kind2 h with rfl | rfl | rfl | rfl | rfl | rfl | rfl | rfl | rfl | rfl | rfl
  all_goals (try (simp [twoS, tell]; done))
  · by_cases e : b = 0
    · simp [twoS, tell, e]
    · rw [quot_eq N e ha]; simp [twoS, tell, e]
  · by_cases e : b = 0
    · simp [twoS, tell, e]
    · rw [quot_eq N e ha]; simp [twoS, tell, e, tmod_wrap e ha]
theorem R8_join {k a b : Int} (h : wN k = 2) (ha : InR a) : leadlineref08_Run 1001 [⟨2, 0⟩, ⟨2, 1⟩, ⟨k, 0⟩] [a, b] = some (tell (twoS k a b)) := by
  have hk : 5 ≤ k ∧ k ≤ 15 := by have := kind2 h; omega
  have n1 : ¬ k = 1 := by omega
  have n2 : ¬ k = 2 := by omega
  have n3 : ¬ ((decide (k = 3) || decide (k = 4)) = true) := by simp; omega
  have l0 : getI ([⟨2, 0⟩, ⟨2, 1⟩, ⟨k, 0⟩] : List api_Op) 0 = some ⟨2, 0⟩ := rfl
  have l1 : getI ([⟨2, 0⟩, ⟨2, 1⟩, ⟨k, 0⟩] : List api_Op) 1 = some ⟨2, 1⟩ := rfl
  have l2 : getI ([⟨2, 0⟩, ⟨2, 1⟩, ⟨k, 0⟩] : List api_Op) 2 = some ⟨k, 0⟩ := rfl
  have a0 : getI [a, b] 0 = some a := rfl
  have a1 : getI [a, b] 1 = some b := rfl
  have w1 : IntKind.i64.wrap (0 + 1) = 1 := by decide
  have w2 : IntKind.i64.wrap (1 + 1) = 2 := by decide
  have w3 : IntKind.i64.wrap (2 + 1) = 3 := by decide
  have e1 : IntKind.i64.wrap ((([a, b] : List Int).length : Int) - 1) = 1 := by rw [w64 (by simp) (by simp)]; rfl
  have e0 : IntKind.i64.wrap (1 - 1) = 0 := by decide
  have p1 : appG 8 ([] : List Int) [a] = some [a] := by rw [appG_ok (by simp) (by decide)]; rfl
  have p2 : appG 8 [a] [b] = some [a, b] := by rw [appG_ok (by simp) (by decide)]; rfl
  unfold leadlineref08_Run
  have hr : leadlineref08_Right 1001 [⟨2, 0⟩, ⟨2, 1⟩, ⟨k, 0⟩] (([a, b] : List Int).length : Int) = some true := R8_right h
  rw [hr]
  simp only [Option.bind_some, if_true]
  rw [leadlineref08_Run_l2, if_pos (by simp), l0]
  simp only [Option.bind_some]
  rw [if_neg (by decide), if_pos trivial, a0]
  simp only [Option.bind_some]
  rw [p1]
  simp only [Option.bind_some, leadlineref08_Run_j3]
  rw [w1, leadlineref08_Run_l2, if_pos (by simp), l1]
  simp only [Option.bind_some]
  rw [if_neg (by decide), if_pos trivial, a1]
  simp only [Option.bind_some]
  rw [p2]
  simp only [Option.bind_some, leadlineref08_Run_j3]
  rw [w2, leadlineref08_Run_l2, if_pos (by simp), l2]
  simp only [Option.bind_some]
  rw [if_neg n1, if_neg n2, if_neg n3, e1, e0, a0, a1]
  simp only [Option.bind_some]
  rw [ref_Two_eq 1001 h ha]
  simp only [Option.bind_some]
  cases ht : twoS k a b with
  | none => rw [if_pos (by simp [tell])]; rfl
  | some v =>
    rw [if_neg (by simp [tell]), subI_ok (by omega) (by omega) (by simp)]
    simp only [Option.bind_some]
    have es : setI (List.drop (Int.toNat 0) (List.take (Int.toNat 1) [a, b])) 0 v = some [v] := rfl
    have eg : getI (List.drop (Int.toNat 0) (List.take (Int.toNat 1) [a, b])) 0 = some a := rfl
    simp only [tell]
    rw [eg]
    simp only [Option.bind_some]
    rw [es]
    simp only [Option.bind_some, leadlineref08_Run_j3]
    rw [w3, leadlineref08_Run_l2, if_neg (by simp), leadlineref08_Run_j1]
    rfl
/-! numbers that an int holds -/
def allI (l : List Int) : Prop := ∀ x ∈ l, InR x
theorem wrap_in (x : Int) : InR (IntKind.i64.wrap x) := by
  unfold InR; rw [IntKind.wrap_i64]; omega
theorem ex1_in {nums : List Int} (hn : allI nums) {x : api_Op} {many : Int} (hx : okOp many x = true) {s s' : List Int} (hs : allI s) (h : ex1 nums x s = some s') : allI s' := by
  have c0 : InR 0 := ⟨by decide, by decide⟩
  have c1 : InR 1 := ⟨by decide, by decide⟩
  have cb : ∀ b, InR (b01 b) := fun b => by unfold b01; split <;> assumption
  unfold ex1 at h
  split at h
  · cases h
    intro y hy
    rcases List.mem_cons.1 hy with rfl | hy
    · split
      · cases hg : nums[x.N.toNat]? with
        | none => exact c0
        | some v => exact hn v (List.mem_of_getElem? hg)
      · rename_i w0 k2
        unfold okOp at hx
        by_cases k1 : x.Kind = 1
        · rw [if_pos k1] at hx; simp at hx; exact ⟨by omega, by omega⟩
        · rw [if_neg k1, if_neg k2] at hx; simp at hx; exact ⟨by omega, by omega⟩
    · exact hs y hy
  · split at h
    · match s, hs, h with
      | a :: s, hs, h =>
        cases h
        intro y hy
        rcases List.mem_cons.1 hy with rfl | hy
        · unfold oneS; split
          · exact wrap_in _
          · split <;> assumption
        · exact hs y (.tail _ hy)
    · match s, hs, h with
      | b :: a :: s, hs, h =>
        obtain ⟨v, hv, rfl⟩ := Option.map_eq_some_iff.1 h
        intro y hy
        rcases List.mem_cons.1 hy with rfl | hy
        · have ha := hs a (.tail _ (.head _))
          have e9 : ∀ b : Int, InR (a.tmod b) := fun b => by
            have hr : (a.tmod b).natAbs ≤ a.natAbs := by rw [Int.natAbs_tmod]; exact Nat.mod_le _ _
            have h3 := ha.1; have h4 := ha.2
            rcases Int.le_total 0 a with h0 | h0
            · have := Int.tmod_nonneg b h0; exact ⟨by omega, by omega⟩
            · have h5 : a.tmod b ≤ 0 := by have := Int.tmod_nonneg (a := -a) b (by omega); rw [Int.neg_tmod] at this; omega
              exact ⟨by omega, by omega⟩
          unfold twoS at hv
          repeat' split at hv
          all_goals first
            | (cases hv; exact wrap_in _)
            | (cases hv; exact e9 _)
            | (cases hv; exact cb _)
            | cases hv
        · exact hs y (.tail _ (.tail _ hy))
theorem ex_in {nums : List Int} (hn : allI nums) {many : Int} : ∀ {l : List api_Op} {s s' : List Int}, (∀ x ∈ l, okOp many x = true) → allI s → ex nums l s = some s' → allI s'
  | [], s, s', _, hs, h => by cases h; exact hs
  | x :: l, s, s', hx, hs, h => by
    unfold ex at h
    obtain ⟨s1, h1, h2⟩ := bind_some h
    exact ex_in hn (fun y hy => hx y (.tail _ hy)) (ex1_in hn (hx x (.head _)) hs h1) h2

theorem ex_one {nums : List Int} (hn : allI nums) {many : Int} {l : List api_Op} (h : rightS l many = true) : (∃ v, InR v ∧ ex nums l [] = some [v]) ∨ ex nums l [] = none := by
  obtain ⟨_, ⟨q, h2⟩, h3⟩ := rightS_of h
  cases he : ex nums l [] with
  | none => exact .inr rfl
  | some s =>
    have hl := ex_len (s := []) h2 he
    have hi := ex_in hn h3 (fun x hx => by cases hx) he
    match s, hl, hi with
    | [v], _, hi => exact .inl ⟨v, hi v (.head _), rfl⟩
theorem twoS_none {k a b : Int} (h : wN k = 2) (e : twoS k a b = none) : True := trivial
theorem CodeJoins_eq (p1 p6 : List api_Op) (p11 : Int) : leadlinelaw08_CodeJoins 1001 p1 p6 p11 = some true := by
  unfold leadlinelaw08_CodeJoins
  rw [Cut08, Cut08]
  simp only [Option.bind_some]
  have hl : (p1.take 60).length ≤ 60 := by simp; omega
  have hm : (p6.take 60).length ≤ 60 := by simp; omega
  generalize p1.take 60 = l at hl
  generalize p6.take 60 = m at hm
  have en : ([7, -2, 0] : List Int) = nums3 := rfl
  have hn : allI nums3 := by
    intro x hx
    have : ∀ x ∈ nums3, -9223372036854775808 ≤ x ∧ x ≤ 9223372036854775807 := by decide
    exact this x hx
  have hin : 0 ≤ iand .i64 p11 65535 := (iand_in (x := p11) (m := 65535) (by decide)).1
  obtain ⟨t1, t2⟩ := tmod_in (x := iand .i64 p11 65535) (n := 11) (by decide) hin
  rw [en, Run_eq (by omega) (by omega), Run_eq (by omega) (by omega)]
  simp only [Option.bind_some]
  rw [appG_ok (by simp; omega) (by decide)]
  simp only [Option.bind_some, List.nil_append]
  rw [appG_ok (by omega) (by decide)]
  simp only [Option.bind_some]
  rw [appG_ok (by simp; omega) (by decide)]
  simp only [Option.bind_some]
  rw [w64 (by omega) (by omega)]
  generalize hk : 5 + (iand .i64 p11 65535).tmod 11 = k
  have k5 : 5 ≤ k := by omega
  have k15 : k ≤ 15 := by omega
  have hw := wN2 k5 k15
  rw [Run_eq (by simp; omega) (by simp; omega)]
  simp only [Option.bind_some]
  have n3 : (nums3.length : Int) = 3 := rfl
  rw [n3]
  generalize hA : (if rightS l 3 = true then endS (ex nums3 l []) else ((0, 8) : Int × Int)) = A
  generalize hB : (if rightS m 3 = true then endS (ex nums3 m []) else ((0, 8) : Int × Int)) = B
  generalize hR : (if rightS (l ++ m ++ [(⟨k, 0⟩ : api_Op)]) 3 = true then endS (ex nums3 (l ++ m ++ [(⟨k, 0⟩ : api_Op)]) []) else ((0, 8) : Int × Int)) = R
  have main : A.2 = 8 ∨ B.2 = 8 ∨ 40 < (l ++ m ++ [(⟨k, 0⟩ : api_Op)]).length ∨ ((A = (0, 12) ∨ (B = (0, 12) ∧ A.2 ≠ 8)) ∧ B.2 ≠ 8 ∧ R = (0, 12)) ∨ (∃ a b, A = (a, 0) ∧ B = (b, 0) ∧ InR a ∧ R = tell (twoS k a b)) := by
    by_cases hrl : rightS l 3 = true
    · by_cases hrm : rightS m 3 = true
      · by_cases hlen : 40 < (l ++ m ++ [(⟨k, 0⟩ : api_Op)]).length
        · exact .inr (.inr (.inl hlen))
        · right; right; right
          rw [if_pos hrl] at hA
          rw [if_pos hrm] at hB
          obtain ⟨_, ⟨ql, l2⟩, l3⟩ := rightS_of hrl
          obtain ⟨_, ⟨qm, m2⟩, m3⟩ := rightS_of hrm
          have hra : rightS (l ++ m ++ [⟨k, 0⟩]) 3 = true := by
            obtain ⟨_, q', h2⟩ := hts_high m (k := 1) m2
            have hm1 : ∃ q'', hts m 1 ql = some (2, q'') := by
              have : ∀ (l : List api_Op) (n h h' : Nat) (q : Nat × Nat), hts l n h = some q → ∃ q', hts l n h' = some (q.1, q') := by
                intro l
                induction l with
                | nil => intro n h h' q e; cases e; exact ⟨h', rfl⟩
                | cons y l ih =>
                  intro n h h' q e
                  unfold hts at e ⊢
                  split at e
                  · cases e
                  · rename_i hc; rw [if_neg hc]; exact ih _ _ _ _ e
              exact this m _ _ ql _ h2
            obtain ⟨q'', h3⟩ := hm1
            refine rightS_mk (q := max q'' 1) (by omega) ?_ ?_
            · rw [hts_app, hts_app, l2]
              simp only [Option.bind_some]
              rw [h3]
              simp only [Option.bind_some, hts, hw]
              rfl
            · intro x hx
              simp only [List.mem_append, List.mem_singleton] at hx
              rcases hx with (h | h) | rfl
              · exact l3 x h
              · exact m3 x h
              · exact okOp2 k5 k15 3
          rw [if_pos hra, ex_app, ex_app] at hR
          have fr : ∀ t : List Int, ex nums3 m ([] ++ t) = (ex nums3 m []).map (· ++ t) := fun t => ex_frame (s := []) m2
          rcases ex_one hn hrl with ⟨a, ha, ea⟩ | ea
          · rcases ex_one hn hrm with ⟨b, hb, eb⟩ | eb
            · have f1 := fr [a]
              rw [eb] at f1
              simp only [List.nil_append, Option.map_some, List.singleton_append] at f1
              rw [ea] at hR hA
              rw [eb] at hB
              simp only [Option.bind_some] at hR
              rw [f1] at hR
              have hE : endS (ex nums3 [⟨k, 0⟩] [b, a]) = tell (twoS k a b) := by
                show endS ((ex1 nums3 ⟨k, 0⟩ [b, a]).bind (ex nums3 [])) = _
                unfold ex1
                simp only
                rw [if_neg (by omega), if_neg (by omega)]
                cases twoS k a b <;> rfl
              exact .inr ⟨a, b, hA.symm, hB.symm, ha, hR.symm.trans hE⟩
            · have f1 := fr [a]
              rw [eb] at f1
              simp only [List.nil_append, Option.map_none] at f1
              rw [ea] at hR hA
              rw [eb] at hB
              simp only [Option.bind_some] at hR
              rw [f1] at hR
              subst hA; subst hB; subst hR
              exact .inl ⟨.inr ⟨rfl, by simp [endS]⟩, by simp [endS], rfl⟩
          · rw [ea] at hR hA
            subst hA; subst hR
            have : B.2 ≠ 8 := by
              subst hB
              unfold endS
              split <;> simp
            exact .inl ⟨.inl rfl, this, rfl⟩
      · rw [if_neg hrm] at hB; subst hB; exact .inr (.inl rfl)
    · rw [if_neg hrl] at hA; subst hA; exact .inl rfl
  clear hA hB hR
  have hfx : ((leadlinelaw08_fixed 1001).bind fun r => some r) = some true := by rw [fixed08]; rfl
  rw [hfx]
  by_cases hlen : 40 < (l ++ m ++ [(⟨k, 0⟩ : api_Op)]).length
  · rw [if_pos (by simp only [Bool.or_eq_true, decide_eq_true_eq]; right; omega)]
  rcases main with h | h | h | ⟨h1, h2, rfl⟩ | ⟨a, b, rfl, rfl, ha, rfl⟩
  · rw [if_pos (by simp [h])]
  · rw [if_pos (by simp [h])]
  · exact absurd h hlen
  · have h8 : A.2 ≠ 8 := by
      rcases h1 with rfl | h
      · simp
      · exact h.2
    rw [if_neg (by simp only [Bool.or_eq_true, decide_eq_true_eq]; rintro ((h | h) | h); exact h8 h; exact h2 h; omega)]
    rw [if_pos (by
      rcases h1 with rfl | ⟨rfl, _⟩
      · simp
      · simp)]
    rfl
  · rw [if_neg (by simp only [Bool.or_eq_true, decide_eq_true_eq]; rintro ((h | h) | h); cases h; cases h; omega), if_neg (by simp), R8_join hw ha]
    simp only [Option.bind_some]
    rw [if_pos (by simp)]
/-! parts -/
theorem hts_pre {l m : List api_Op} {n h : Nat} {q : Nat × Nat} (e : hts (l ++ m) n h = some q) : ∃ p, hts l n h = some p ∧ p.2 ≤ q.2 := by
  rw [hts_app] at e
  obtain ⟨p, h1, h2⟩ := bind_some e
  exact ⟨p, h1, (hts_high m (k := 0) h2).1⟩
theorem CodeParts_eq (p1 : List api_Op) (p6 : Int) : leadlinelaw08_CodeParts 1001 p1 p6 = some true := by
  unfold leadlinelaw08_CodeParts
  rw [Cut08]
  simp only [Option.bind_some]
  have hl : (p1.take 60).length ≤ 60 := by simp; omega
  generalize p1.take 60 = l at hl
  rw [Right_eq (by omega) (by omega)]
  simp only [Option.bind_some]
  by_cases hr : rightS l 3 = true
  · rw [if_pos hr]
    have hin : 0 ≤ iand .i64 p6 65535 := (iand_in (x := p6) (m := 65535) (by decide)).1
    rw [w64 (by omega) (by omega)]
    unfold remI
    rw [if_neg (by omega)]
    simp only [Option.bind_some]
    obtain ⟨t1, t2⟩ := tmod_in (x := iand .i64 p6 65535) (n := (l.length : Int) + 1) (by omega) hin
    generalize hk : (iand .i64 p6 65535).tmod ((l.length : Int) + 1) = k at t1 t2
    rw [appG_ok (by simp; omega) (by decide)]
    simp only [Option.bind_some, List.nil_append]
    rw [appG_ok (by simp; omega) (by decide)]
    simp only [Option.bind_some]
    have en : ([1, 2, 3] : List Int) = [1, 2, 3] := rfl
    have hn : allI [1, 2, 3] := by
      intro x hx
      have : ∀ x ∈ ([1, 2, 3] : List Int), -9223372036854775808 ≤ x ∧ x ≤ 9223372036854775807 := by decide
      exact this x hx
    rw [Run_eq (by omega) (by omega), Run_eq (by simp; omega) (by simp; omega)]
    simp only [Option.bind_some]
    have n3 : (([1, 2, 3] : List Int).length : Int) = 3 := rfl
    rw [n3, if_pos hr]
    obtain ⟨h40, ⟨q, h2⟩, h3⟩ := rightS_of hr
    have hw4 : wN 4 = 1 := rfl
    generalize hA : endS (ex [1, 2, 3] l []) = A
    generalize hR : (if rightS (l ++ [(⟨4, 0⟩ : api_Op)]) 3 = true then endS (ex [1, 2, 3] (l ++ [(⟨4, 0⟩ : api_Op)]) []) else ((0, 8) : Int × Int)) = R
    have main : ¬ (((l ++ [(⟨4, 0⟩ : api_Op)]).length : Int) ≤ 40) ∨ (A = (0, 12) ∧ R = (0, 12)) ∨ ∃ v w : Int, A = (v, 0) ∧ R = (w, 0) ∧ (w = 0 ∨ w = 1) := by
      by_cases h41 : (l ++ [(⟨4, 0⟩ : api_Op)]).length ≤ 40
      · right
        have hra : rightS (l ++ [⟨4, 0⟩]) 3 = true := by
          refine rightS_mk (q := max q 1) h41 ?_ ?_
          · rw [hts_app, h2]; rfl
          · intro x hx
            simp only [List.mem_append, List.mem_singleton] at hx
            rcases hx with h | rfl
            · exact h3 x h
            · rfl
        rw [if_pos hra, ex_app] at hR
        rcases ex_one hn hr with ⟨a, ha, ea⟩ | ea
        · rw [ea] at hR hA
          have hE : endS ((some [a]).bind (ex [1, 2, 3] [⟨4, 0⟩])) = (oneS 4 a, 0) := rfl
          refine .inr ⟨a, oneS 4 a, hA.symm, hR.symm.trans hE, ?_⟩
          unfold oneS
          by_cases e : a = 0 <;> simp [e]
        · rw [ea] at hR hA; exact .inl ⟨hA.symm, hR.symm⟩
      · exact .inl (by omega)
    clear hA hR
    rw [sure_ok (by
      rcases main with h | ⟨rfl, rfl⟩ | ⟨v, w, rfl, rfl, h⟩
      · rw [decide_eq_false h]; rfl
      · simp
      · rcases h with rfl | rfl <;> simp)]
    simp only [Option.bind_some]
    rw [subI_ok (by omega) (by omega) (by omega)]
    simp only [Option.bind_some, Int.toNat_zero, List.drop_zero]
    rw [High_eq (by simp; omega) (by simp; omega), High_eq (by omega) (by omega)]
    simp only [Option.bind_some]
    obtain ⟨p, e1, e2⟩ := hts_pre (l := l.take k.toNat) (m := l.drop k.toNat) (n := 0) (h := 0) (by rw [List.take_append_drop]; exact h2)
    rw [e1, h2]
    simp only
    rw [if_pos (by simp at e2; omega), subI_ok (by omega) (by omega) (by simp; omega)]
    simp only [Option.bind_some, Int.toNat_zero, List.drop_zero, Int.toNat_natCast]
    rw [List.take_left', Same08 (by omega) (by omega)]
    · simp only [Option.bind_some]
      rw [if_pos (by simp), fixed08]; rfl
    · rfl
  · rw [if_neg hr, fixed08]; rfl
end Go.MD.CODE
