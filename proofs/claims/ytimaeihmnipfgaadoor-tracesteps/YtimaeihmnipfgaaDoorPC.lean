/- The document's Same of rows is: the same but for order. No condition: plain lemmas. -/
import Derived.Test.YtimaeihmnipfgaaDoorPB
namespace Go.MD
section
variable {α : Type} {T : α → Int}
def cntT (T : α → Int) (t : Int) (l : List α) : Nat := l.countP fun x => decide (T x = t)
theorem cntT_cons {x : α} {l : List α} {t : Int} : cntT T t (x :: l) = cntT T t l + if T x = t then 1 else 0 := by
  unfold cntT; rw [List.countP_cons]; simp
theorem plc_inv : ∀ {b : List α} {t : Int} {n q : Nat}, plc T b t n = some q → n = cntT T t (b.take q)
  | [], _, _, _, h => by cases h
  | y :: b, t, n, q, h => by
    rcases plc_cons h with ⟨_, rfl, rfl⟩ | ⟨m, r, rfl, h1, rfl⟩
    · rfl
    · rw [List.take_succ_cons, cntT_cons, ← plc_inv h1]
      unfold bump
      by_cases e : t = T y
      · rw [if_pos e, if_pos e.symm]
      · rw [if_neg e, if_neg (fun h => e h.symm)]; rfl
theorem plc_at {b : List α} {j : Nat} {y : α} (h : b[j]? = some y) : plc T b (T y) (cntT T (T y) (b.take j)) = some j := by
  obtain ⟨n, hn⟩ := plc_occ (T := T) h
  rw [← plc_inv hn]; exact hn
end
end Go.MD
namespace Go.MD.ET
open Go Go.MD
section
variable {a b : List api_Event} {of : List Int} {s : Int}
theorem s17_l6 {N : Nat} {kf : Int → Option Bool} {i : Nat} (hi : i < a.length) (ha : a.length ≤ 1000) : ∀ (d j n : Nat) (c : Nat), j + d = i → d < n → c + d ≤ 1000 →
    leadlineref17_Same_l6 N kf a (i : Int) n (c : Int) (j : Int) = kf ((c + cntT T17 a[i].T ((a.take i).drop j) : Nat) : Int) := by
  intro d
  induction d with
  | zero =>
    intro j n c hj hn _
    obtain ⟨n, rfl⟩ : ∃ m, n = m + 1 := ⟨n - 1, by omega⟩
    rw [leadlineref17_Same_l6, if_neg (by omega), List.drop_of_length_le (by simp; omega)]
    rfl
  | succ d ih =>
    intro j n c hj hn hc
    obtain ⟨n, rfl⟩ : ∃ m, n = m + 1 := ⟨n - 1, by omega⟩
    have h1 : j < (a.take i).length := by simp; omega
    rw [leadlineref17_Same_l6, if_pos (by omega), getI_at (j := j) rfl (by omega), getI_at rfl hi]
    simp only [Option.bind_some, leadlineref17_Same_j7]
    rw [List.drop_eq_getElem_cons h1, cntT_cons, List.getElem_take, wsucc (j := j) (n := i) (by omega) (by omega)]
    by_cases e : a[j].T = a[i].T
    · have e' : T17 a[j] = a[i].T := e
      rw [if_pos e, if_pos e', wsucc (j := c) (n := 1000) (by omega) (by omega), ih (j + 1) n (c + 1) (by omega) (by omega) (by omega)]
      congr 2; omega
    · have e' : ¬ T17 a[j] = a[i].T := e
      rw [if_neg e, if_neg e', ih (j + 1) n c (by omega) (by omega) (by omega)]
      rfl
def at9 (v : api_Event) (l : List api_Event) (k : Nat) (c at_ : Int) : Int :=
  if 0 ≤ c then (match plc T17 l v.T c.toNat with | some p => if l[p]? = some v then ((k + p : Nat) : Int) else at_ | none => at_) else at_
theorem at9_ne {v y : api_Event} {l : List api_Event} (h : ¬ y.T = v.T) (k : Nat) (c at_ : Int) : at9 v (y :: l) k c at_ = at9 v l (k + 1) c at_ := by
  unfold at9
  have h' : T17 y ≠ v.T := h
  rw [plc_ne h']
  cases hp : plc T17 l v.T c.toNat with
  | none => rfl
  | some p => simp only [Option.map_some, List.getElem?_cons_succ, show k + (p + 1) = k + 1 + p by omega]
theorem at9_gt {v y : api_Event} {l : List api_Event} (h : y.T = v.T) (k : Nat) {c : Int} (at_ : Int) (hc : c ≠ 0) : at9 v (y :: l) k c at_ = at9 v l (k + 1) (c - 1) at_ := by
  unfold at9
  have h' : T17 y = v.T := h
  by_cases h0 : 0 ≤ c
  · rw [if_pos h0, if_pos (by omega), show c.toNat = (c - 1).toNat + 1 by omega, plc_succ h']
    cases hp : plc T17 l v.T (c - 1).toNat with
    | none => rfl
    | some p => simp only [Option.map_some, List.getElem?_cons_succ, show k + (p + 1) = k + 1 + p by omega]
  · rw [if_neg h0, if_neg (by omega)]
theorem s17_l9 {N : Nat} {kf : Int → Option Bool} {i : Nat} (hi : i < a.length) (hb : b.length ≤ 1000) : ∀ (d k n : Nat) (c at_ : Int), k + d = b.length → d < n → c ≤ 1000 → (d : Int) - 3000 ≤ c →
    leadlineref17_Same_l9 N kf a b (i : Int) n c at_ (k : Int) = kf (at9 a[i] (b.drop k) k c at_) := by
  intro d
  induction d with
  | zero =>
    intro k n c at_ hk hn _ _
    obtain ⟨n, rfl⟩ : ∃ m, n = m + 1 := ⟨n - 1, by omega⟩
    rw [leadlineref17_Same_l9, if_neg (by omega), List.drop_of_length_le (by omega)]
    unfold at9 plc
    simp
  | succ d ih =>
    intro k n c at_ hk hn hc1 hc2
    obtain ⟨n, rfl⟩ : ∃ m, n = m + 1 := ⟨n - 1, by omega⟩
    have h1 : k < b.length := by omega
    rw [leadlineref17_Same_l9, if_pos (by omega), getI_at rfl h1, getI_at rfl hi]
    simp only [Option.bind_some, leadlineref17_Same_j11, leadlineref17_Same_j10]
    rw [List.drop_eq_getElem_cons h1, wsucc (j := k) h1 (by omega), w64 (n := c - 1) (by omega) (by omega)]
    rw [ih (k + 1) n (c - 1) at_ (by omega) (by omega) (by omega) (by omega), ih (k + 1) n (c - 1) (k : Int) (by omega) (by omega) (by omega) (by omega), ih (k + 1) n c at_ (by omega) (by omega) (by omega) (by omega)]
    by_cases e : b[k].T = a[i].T
    · rw [if_pos e]
      by_cases h0 : c = 0
      · subst h0
        have e' : T17 b[k] = a[i].T := e
        have q1 : ∀ x : Int, at9 a[i] (b.drop (k + 1)) (k + 1) (0 - 1) x = x := fun x => by unfold at9; rw [if_neg (by omega)]
        rw [q1, q1]
        have q2 : at9 a[i] (b[k] :: b.drop (k + 1)) k 0 at_ = if b[k] = a[i] then (k : Int) else at_ := by
          unfold at9
          rw [if_pos (Int.le_refl _), Int.toNat_zero, plc_zero e']
          simp only [List.getElem?_cons_zero, Option.some.injEq, Nat.add_zero]
        rw [q2]
        by_cases e2 : b[k] = a[i]
        · rw [if_pos (by simp [e2]), if_pos e2]
        · rw [if_neg (by simp [e2]), if_neg e2]
      · rw [if_neg (by simp [h0]), at9_gt e k at_ h0]
    · rw [if_neg e, at9_ne e]
theorem at9_zero {v : api_Event} {l : List api_Event} (c : Nat) :
    (∃ p, plc T17 l v.T c = some p ∧ l[p]? = some v ∧ at9 v l 0 (c : Int) (-1) = (p : Int)) ∨ ((¬ ∃ p, plc T17 l v.T c = some p ∧ l[p]? = some v) ∧ at9 v l 0 (c : Int) (-1) = -1) := by
  unfold at9
  rw [if_pos (by omega), Int.toNat_natCast]
  cases hp : plc T17 l v.T c with
  | none => exact .inr ⟨fun ⟨p, h, _⟩ => (by cases h), rfl⟩
  | some p =>
    by_cases e : l[p]? = some v
    · exact .inl ⟨p, rfl, e, by simp only [if_pos e, Nat.zero_add]⟩
    · exact .inr ⟨fun ⟨q, h, h2⟩ => (by cases h; exact e h2), by simp only [if_neg e]⟩
/-- places of the first events -/
def Pl (a b : List api_Event) (pl : List Nat) : Prop := ∀ j (hj : j < pl.length) (h : j < a.length), plc T17 b a[j].T (cntT T17 a[j].T (a.take j)) = some pl[j] ∧ b[pl[j]]? = some a[j]
def natsI (l : List Nat) : List Int := l.map fun (x : Nat) => (x : Int)
theorem s17_l3 {N : Nat} {kf : List Int → Option Bool} (ha : a.length ≤ 1000) (hb : b.length ≤ 1000) (hN : 1000 < N) : ∀ (d i n : Nat) (pl : List Nat), i + d = a.length → d < n → pl.length = i → Pl a b pl →
    (∃ pl', pl'.length = a.length ∧ Pl a b pl' ∧ leadlineref17_Same_l3 N kf a b n (natsI pl) (i : Int) = kf (natsI pl')) ∨ (¬ Mat T17 a b ∧ leadlineref17_Same_l3 N kf a b n (natsI pl) (i : Int) = some false) := by
  intro d
  induction d with
  | zero =>
    intro i n pl hi hn hl hp
    obtain ⟨n, rfl⟩ : ∃ m, n = m + 1 := ⟨n - 1, by omega⟩
    rw [leadlineref17_Same_l3, if_neg (by omega)]
    exact .inl ⟨pl, by omega, hp, rfl⟩
  | succ d ih =>
    intro i n pl hi hn hl hp
    obtain ⟨n, rfl⟩ : ∃ m, n = m + 1 := ⟨n - 1, by omega⟩
    have h1 : i < a.length := by omega
    have e6 := fun kf' => s17_l6 (N := N) (kf := kf') h1 ha i 0 N 0 (by omega) (by omega) (by omega)
    rw [leadlineref17_Same_l3, if_pos (by omega), show (0 : Int) = ((0 : Nat) : Int) from rfl, e6, List.drop_zero, Nat.zero_add, leadlineref17_Same_j5]
    have hcnt : cntT T17 a[i].T (a.take i) ≤ 1000 := Nat.le_trans List.countP_le_length (by simp; omega)
    have e9 := fun kf' => s17_l9 (N := N) (kf := kf') (b := b) h1 hb b.length 0 N (cntT T17 a[i].T (a.take i) : Nat) (-1) (by omega) (by omega) (by omega) (by omega)
    rw [show (0 : Int) = ((0 : Nat) : Int) from rfl, e9, List.drop_zero]
    rcases at9_zero (v := a[i]) (l := b) (cntT T17 a[i].T (a.take i)) with ⟨p, g1, g2, g3⟩ | ⟨g1, g2⟩
    · rw [g3, leadlineref17_Same_j8, if_neg (by omega), appG_ok (by simp [natsI]; omega) (by decide)]
      simp only [Option.bind_some, leadlineref17_Same_j4]
      rw [wsucc (j := i) h1 (by omega)]
      have hn2 : natsI pl ++ [(p : Int)] = natsI (pl ++ [p]) := by simp [natsI]
      rw [hn2]
      refine ih (i + 1) n (pl ++ [p]) (by omega) (by omega) (by simp; omega) fun j hj h => ?_
      rcases Nat.lt_or_ge j pl.length with q | q
      · rw [List.getElem_append_left q]; exact hp j q h
      · have : j = i := by simp at hj; omega
        subst this
        rw [List.getElem_append_right q]
        simp only [hl, Nat.sub_self, List.getElem_cons_zero]
        exact ⟨g1, g2⟩
    · right
      rw [g2, leadlineref17_Same_j8, if_pos (by omega)]
      refine ⟨fun hm => g1 ?_, rfl⟩
      have hi' : a[i]? = some a[i] := List.getElem?_eq_getElem h1
      obtain ⟨q, q1, q2⟩ := hm _ _ _ (plc_at (T := T17) hi')
      exact ⟨q, q1, q2.trans hi'⟩
theorem Pl.mat {pl : List Nat} (h : Pl a b pl) (hl : pl.length = a.length) : Mat T17 a b := by
  intro t n p hp
  obtain ⟨x, hx, rfl⟩ := plc_lt hp
  obtain ⟨hlt, rfl⟩ := List.getElem?_eq_some_iff.1 hx
  obtain ⟨h1, h2⟩ := h p (by omega) hlt
  rw [plc_inv hp]
  exact ⟨_, h1, by rw [h2, hx]⟩
theorem s17_l15 {N : Nat} (hN : 3 ≤ N) {kf : Option Bool} {pl : List Nat} (hl : pl.length = a.length) (ha : a.length ≤ 1000) {k : Nat} (hk : k < a.length) : ∀ (d j n : Nat), j + d = k → d < n →
    ((∃ i, ∃ hi : i < k, D17 of s (a[i]'(by omega)) a[k] = true ∧ pl[k] < (pl[i]'(by omega))) ∧ leadlineref17_Same_l15 N kf a of s (natsI pl) (k : Int) n (j : Int) = some false) ∨
    ((∀ i, j ≤ i → ∀ hi : i < k, D17 of s (a[i]'(by omega)) a[k] = true → (pl[i]'(by omega)) ≤ pl[k]) ∧ leadlineref17_Same_l15 N kf a of s (natsI pl) (k : Int) n (j : Int) = kf) := by
  intro d
  induction d with
  | zero =>
    intro j n hj hn
    obtain ⟨n, rfl⟩ : ∃ m, n = m + 1 := ⟨n - 1, by omega⟩
    rw [leadlineref17_Same_l15, if_neg (by omega)]
    exact .inr ⟨fun i h1 h2 => by omega, rfl⟩
  | succ d ih =>
    intro j n hj hn
    obtain ⟨n, rfl⟩ : ∃ m, n = m + 1 := ⟨n - 1, by omega⟩
    have h1 : j < a.length := by omega
    have hn1 : j < (natsI pl).length := by simp [natsI]; omega
    have hn2 : k < (natsI pl).length := by simp [natsI]; omega
    have go : (D17 of s a[j] a[k] = true → (pl[j]'(by omega)) ≤ pl[k]) → ((∃ i, ∃ hi : i < k, D17 of s (a[i]'(by omega)) a[k] = true ∧ pl[k] < (pl[i]'(by omega))) ∧ leadlineref17_Same_j16 (leadlineref17_Same_l15 N kf a of s (natsI pl) (k : Int) n) (j : Int) false = some false) ∨
        ((∀ i, j ≤ i → ∀ hi : i < k, D17 of s (a[i]'(by omega)) a[k] = true → (pl[i]'(by omega)) ≤ pl[k]) ∧ leadlineref17_Same_j16 (leadlineref17_Same_l15 N kf a of s (natsI pl) (k : Int) n) (j : Int) false = kf) := by
      intro hj'
      rw [leadlineref17_Same_j16, if_neg (by decide), wsucc (j := j) h1 (by omega)]
      rcases ih (j + 1) n (by omega) (by omega) with ⟨h, e⟩ | ⟨h, e⟩
      · exact .inl ⟨h, e⟩
      · refine .inr ⟨fun i q1 q2 q3 => ?_, e⟩
        rcases Nat.eq_or_lt_of_le q1 with rfl | q
        · exact hj' q3
        · exact h i q q2 q3
    rw [leadlineref17_Same_l15, if_pos (by omega), getI_at rfl h1, getI_at rfl hk]
    simp only [Option.bind_some, ref_Depend_eq hN]
    have ed : dependS a[j] a[k] of s = D17 of s a[j] a[k] := rfl
    rw [ed]
    cases hd : D17 of s a[j] a[k] with
    | false => rw [if_neg (by decide)]; exact go fun h => by rw [hd] at h; cases h
    | true =>
      rw [if_pos rfl, getI_at rfl hn1, getI_at rfl hn2]
      simp only [Option.bind_some, natsI, List.getElem_map]
      by_cases hlt : pl[k] < (pl[j]'(by omega))
      · rw [decide_eq_true (by omega)]
        exact .inl ⟨⟨j, by omega, hd, hlt⟩, by rw [leadlineref17_Same_j16, if_pos rfl]⟩
      · rw [decide_eq_false (by omega)]
        exact go fun _ => by omega
theorem s17_l13 {N : Nat} (hN : 1000 < N) {pl : List Nat} (hl : pl.length = a.length) (ha : a.length ≤ 1000) : ∀ (d k n : Nat), k + d = a.length → d < n →
    ((∃ i k, ∃ hi : i < k, ∃ hk : k < a.length, D17 of s (a[i]'(by omega)) a[k] = true ∧ (pl[k]'(by omega)) < (pl[i]'(by omega))) ∧ leadlineref17_Same_l13 N leadlineref17_Same_j12 a of s (natsI pl) n (k : Int) = some false) ∨
    ((∀ k', k ≤ k' → ∀ hk : k' < a.length, ∀ i, ∀ hi : i < k', D17 of s (a[i]'(by omega)) a[k'] = true → (pl[i]'(by omega)) ≤ (pl[k']'(by omega))) ∧ leadlineref17_Same_l13 N leadlineref17_Same_j12 a of s (natsI pl) n (k : Int) = some true) := by
  intro d
  induction d with
  | zero =>
    intro k n hk hn
    obtain ⟨n, rfl⟩ : ∃ m, n = m + 1 := ⟨n - 1, by omega⟩
    rw [leadlineref17_Same_l13, if_neg (by omega)]
    exact .inr ⟨fun i h1 h2 => by omega, rfl⟩
  | succ d ih =>
    intro k n hk hn
    obtain ⟨n, rfl⟩ : ∃ m, n = m + 1 := ⟨n - 1, by omega⟩
    have h1 : k < a.length := by omega
    rw [leadlineref17_Same_l13, if_pos (by omega), show (0 : Int) = ((0 : Nat) : Int) from rfl]
    rcases s17_l15 (N := N) (of := of) (s := s) (by omega) (kf := leadlineref17_Same_j14 (leadlineref17_Same_l13 N leadlineref17_Same_j12 a of s (natsI pl) n) (k : Int)) hl ha h1 k 0 N (by omega) (by omega) with ⟨⟨i, hi, g1, g2⟩, e⟩ | ⟨h, e⟩
    · exact .inl ⟨⟨i, k, hi, h1, g1, g2⟩, e⟩
    · rw [e, leadlineref17_Same_j14, wsucc (j := k) h1 (by omega)]
      rcases ih (k + 1) n (by omega) (by omega) with ⟨h', e'⟩ | ⟨h', e'⟩
      · exact .inl ⟨h', e'⟩
      · refine .inr ⟨fun k' q1 q2 i hi q3 => ?_, e'⟩
        rcases Nat.eq_or_lt_of_le q1 with rfl | q
        · exact h i (Nat.zero_le _) hi q3
        · exact h' k' q q2 i hi q3
theorem Pl.pls {pl : List Nat} (h : Pl a b pl) (hl : pl.length = a.length) (hab : a.length = b.length) (ho : ∀ k, ∀ hk : k < a.length, ∀ i, ∀ hi : i < k, D17 of s (a[i]'(by omega)) a[k] = true → (pl[i]'(by omega)) ≤ (pl[k]'(by omega))) : Pls (D17 of s) T17 a b := by
  refine ⟨hab, h.mat hl, fun t n t' n' p p' q q' x y h1 h2 h3 h4 h5 h6 h7 h8 => ?_⟩
  obtain ⟨x', hx, rfl⟩ := plc_lt h1
  rw [hx] at h4; cases h4
  obtain ⟨y', hy, rfl⟩ := plc_lt h2
  rw [hy] at h5; cases h5
  obtain ⟨hp, rfl⟩ := List.getElem?_eq_some_iff.1 hx
  obtain ⟨hp', rfl⟩ := List.getElem?_eq_some_iff.1 hy
  obtain ⟨g1, g2⟩ := h p (by omega) hp
  obtain ⟨g3, g4⟩ := h p' (by omega) hp'
  rw [plc_inv h1] at h7
  rw [plc_inv h2] at h8
  have g1' := h7.symm.trans g1; cases g1'
  have g3' := h8.symm.trans g3; cases g3'
  have hle := ho p' hp' p h3 h6
  rcases Nat.lt_or_eq_of_le hle with q | q
  · exact q
  · exfalso
    rw [q, g4] at g2
    have e : a[p'] = a[p] := Option.some.inj g2
    have k1 := plc_inv h1
    have k2 := plc_inv h2
    have e1 : cntT T17 (T17 a[p']) (a.take p') = cntT T17 (T17 a[p]) (a.take p) := by
      have q1 := plc_inv g1; have q2 := plc_inv g3
      have q1' : cntT T17 (T17 a[p]) (a.take p) = cntT T17 (T17 a[p]) (b.take pl[p]) := q1
      have q2' : cntT T17 (T17 a[p']) (a.take p') = cntT T17 (T17 a[p']) (b.take pl[p']) := q2
      rw [q1', q2', q, e]
    rw [k2, e1, e, ← k1] at h2
    rw [h1] at h2
    have := Option.some.inj h2
    omega
theorem Same17_spec {N : Nat} (hN : 1000 < N) (ha : a.length ≤ 1000) (hb : b.length ≤ 1000) (of : List Int) (s : Int) :
    ∃ r, leadlineref17_Same N a b of s = some r ∧ (r = true ↔ okT a ∧ okT b ∧ TP (D17 of s) a b) := by
  unfold leadlineref17_Same
  by_cases hl : a.length = b.length
  · rw [if_neg (by omega)]
    have main : okT a → okT b → ∃ r, leadlineref17_Same_j1 N a b of s false = some r ∧ (r = true ↔ okT a ∧ okT b ∧ TP (D17 of s) a b) := by
      intro ka kb
      rw [leadlineref17_Same_j1, if_neg (by decide), show (0 : Int) = ((0 : Nat) : Int) from rfl]
      rcases s17_l3 (N := N) (kf := leadlineref17_Same_j2 N a of s) ha hb hN a.length 0 N [] (by omega) (by omega) rfl (fun j hj => by cases hj) with ⟨pl, g1, g2, g3⟩ | ⟨g1, g2⟩
      · have g3' : leadlineref17_Same_l3 N (leadlineref17_Same_j2 N a of s) a b N [] ((0 : Nat) : Int) = _ := g3
        rw [g3', leadlineref17_Same_j2, show (0 : Int) = ((0 : Nat) : Int) from rfl]
        rcases s17_l13 (N := N) (of := of) (s := s) hN g1 ha a.length 0 N (by omega) (by omega) with ⟨⟨i, k, hi, hk, q1, q2⟩, e⟩ | ⟨h, e⟩
        · refine ⟨false, e, fun h => (by cases h), fun ⟨_, _, h⟩ => ?_⟩
          exfalso
          have hp := h.pls (D17_thread of s)
          have hx : a[i]? = some (a[i]'(by omega)) := List.getElem?_eq_getElem (by omega)
          have hy : a[k]? = some a[k] := List.getElem?_eq_getElem hk
          have := hp.ord _ _ _ _ _ _ _ _ _ _ (plc_at (T := T17) hx) (plc_at (T := T17) hy) hi hx hy q1 (g2 i (by omega) (by omega)).1 (g2 k (by omega) hk).1
          omega
        · exact ⟨true, e, fun _ => ⟨ka, kb, (g2.pls g1 hl fun k hk i hi q => h k (Nat.zero_le _) hk i hi q).tp (D17_thread of s) (D17_comm of s)⟩, fun _ => rfl⟩
      · have g2' : leadlineref17_Same_l3 N (leadlineref17_Same_j2 N a of s) a b N [] ((0 : Nat) : Int) = _ := g2
        exact ⟨false, g2', fun h => (by cases h), fun ⟨_, _, h⟩ => absurd (h.pls (D17_thread of s)).mat g1⟩
    by_cases e : a = []
    · subst e
      have hb0 : b = [] := List.eq_nil_of_length_eq_zero hl.symm
      subst hb0
      rw [if_neg (by simp)]
      exact main (fun x hx => by cases hx) (fun x hx => by cases hx)
    · have : 0 < a.length := List.length_pos_iff.2 e
      have hbe : b ≠ [] := fun h => e (List.eq_nil_of_length_eq_zero (by rw [hl, h]; rfl))
      obtain ⟨r1, h1, h2, h3⟩ := Thr16 (N := N) ha (by omega)
      obtain ⟨r2, k1, k2, k3⟩ := Thr16 (N := N) hb (by omega)
      rw [if_pos (by omega), h1]
      simp only [Option.bind_some]
      by_cases c1 : r1 = 0
      · rw [if_pos c1]
        refine ⟨false, rfl, fun h => (by cases h), fun ⟨h, _⟩ => ?_⟩
        have := h3.2 ⟨e, h⟩; omega
      · rw [if_neg c1, k1]
        simp only [Option.bind_some]
        by_cases c2 : r2 = 0
        · rw [decide_eq_true c2]
          refine ⟨false, rfl, fun h => (by cases h), fun ⟨_, h, _⟩ => ?_⟩
          have := k3.2 ⟨hbe, h⟩; omega
        · rw [decide_eq_false c2]
          exact main (h3.1 (by omega)).2 (k3.1 (by omega)).2
  · rw [if_pos (by omega)]
    refine ⟨false, rfl, fun h => (by cases h), fun ⟨_, _, h⟩ => absurd h.length hl⟩
end
end Go.MD.ET
