/- All cuts, and those that differ. No condition: plain lemmas. -/
import Derived.Test.YtkgaliichchanaaLS2
namespace Go.MD.LINES
open Go Go.MD Go.LL
variable {N : Nat} {m : MS} {k : Rm}
/-- all cuts under bounds, in order -/
def allC : List Nat → List (List Int)
  | [] => [[]]
  | n :: p => (List.range (n + 1)).flatMap fun v => (allC p).map (((v : Nat) : Int) :: ·)
theorem rep_len {α : Type} (c : Nat) (f : Nat → List α) (hf : ∀ v, (f v).length = c) : ∀ (l : List Nat), (l.flatMap f).length = l.length * c
  | [] => by simp
  | x :: l => by rw [List.flatMap_cons, List.length_append, hf, rep_len c f hf l, List.length_cons, Nat.succ_mul]; omega
theorem allC_cons (n : Nat) (p : List Nat) : (allC (n :: p)).length = (n + 1) * (allC p).length := by
  rw [allC, rep_len (allC p).length _ (fun v => List.length_map _), List.length_range]
theorem allC_pos : ∀ p, 0 < (allC p).length
  | [] => Nat.one_pos
  | n :: p => by rw [allC_cons]; exact Nat.mul_pos (Nat.succ_pos _) (allC_pos p)
theorem allC_snoc : ∀ (p : List Nat) (n : Nat), (allC (p ++ [n])).length = (allC p).length * (n + 1)
  | [], n => by rw [List.nil_append, allC_cons, Nat.mul_comm]
  | x :: p, n => by rw [List.cons_append, allC_cons, allC_cons, allC_snoc p n, Nat.mul_assoc]
theorem mem_allC : ∀ {p : List Nat} {x : List Int}, x ∈ allC p → x.length = p.length ∧ ∀ i, i < p.length → 0 ≤ x.getD i 0 ∧ x.getD i 0 ≤ ((p.getD i 0 : Nat) : Int)
  | [], x, h => by
    have : x = [] := by simpa [allC] using h
    subst this
    exact ⟨rfl, fun i hi => by simp at hi⟩
  | n :: p, x, h => by
    rw [allC, List.mem_flatMap] at h
    obtain ⟨v, hv, h⟩ := h
    obtain ⟨y, hy, rfl⟩ := List.mem_map.1 h
    obtain ⟨h1, h2⟩ := mem_allC hy
    have hv := List.mem_range.1 hv
    refine ⟨by simp [h1], fun i hi => ?_⟩
    cases i with
    | zero => simp; omega
    | succ i =>
      have := h2 i (by simpa using hi)
      simpa using this
/-- how much each line has pending -/
def pN (m : MS) (q : Nat) : List Nat := (List.range q).map fun i => (m.pend ((i : Nat) : Int)).length
theorem pN_len (m : MS) (q : Nat) : (pN m q).length = q := by simp [pN]
theorem tot_all (m : MS) : ∀ q, tot m q = (allC (pN m q)).length
  | 0 => rfl
  | q + 1 => by
    have e : pN m (q + 1) = pN m q ++ [(m.pend ((q : Nat) : Int)).length] := by unfold pN; rw [List.range_succ, List.map_append]; rfl
    rw [tot, tot_all m q, e, allC_snoc]
theorem pN_drop {m : MS} {q j : Nat} (h : j < q) : (pN m q).drop j = (m.pend ((j : Nat) : Int)).length :: (pN m q).drop (j + 1) := by
  rw [List.drop_eq_getElem_cons (by rw [pN_len]; exact h)]
  congr 1
  simp [pN]
theorem set_mid {a : List Int} {v w : Int} {r : List Int} {j : Nat} (h : a.length = j) : (a ++ v :: r).set j w = a ++ w :: r := by
  subst h
  rw [List.set_append_right _ _ (Nat.le_refl _), Nat.sub_self]; rfl
theorem get_mid {a : List Int} {v : Int} {r : List Int} {j : Nat} (h : a.length = j) : (a ++ v :: r).getD j 0 = v := by
  subst h
  rw [List.getD_eq_getElem?_getD, List.getElem?_append_right (Nat.le_refl _), Nat.sub_self]; rfl
theorem enum (m : MS) (q : Nat) : ∀ (d j : Nat) (a : List Int), j + d = q → a.length = j → ∀ n,
    cutList m ((allC ((pN m q).drop j)).length + n) (a ++ List.replicate d 0) = (allC ((pN m q).drop j)).map (a ++ ·) ++ (match nextI m (a ++ List.replicate d 0) j with | none => [] | some c2 => cutList m n c2) := by
  intro d
  induction d with
  | zero =>
    intro j a hj ha n
    rw [List.drop_of_length_le (by rw [pN_len]; omega)]
    simp only [allC, List.replicate_zero, List.append_nil, List.map_cons, List.map_nil, List.length_cons, List.length_nil]
    rw [show 0 + 1 + n = n + 1 by omega, cutList, ha]
    rfl
  | succ d ih =>
    intro j a hj ha n
    have hjq : j < q := by omega
    rw [pN_drop hjq]
    generalize hp : (m.pend ((j : Nat) : Int)).length = pj
    generalize hr : (pN m q).drop (j + 1) = rest
    have e3 : ∀ v : Int, (allC rest).map ((a ++ [v]) ++ ·) = (allC rest).map fun x => a ++ (v :: x) := fun v => List.map_congr_left fun x _ => by simp
    have inner : ∀ (e v : Nat), v + e = pj → ∀ n, cutList m ((e + 1) * (allC rest).length + n) (a ++ ((v : Nat) : Int) :: List.replicate d 0) =
        ((List.range' v (e + 1)).flatMap fun u => (allC rest).map fun x => a ++ (((u : Nat) : Int) :: x)) ++ (match nextI m (a ++ List.replicate (d + 1) 0) j with | none => [] | some c2 => cutList m n c2) := by
      intro e
      induction e with
      | zero =>
        intro v hv n
        have := ih (j + 1) (a ++ [((v : Nat) : Int)]) (by omega) (by simp [ha]) n
        rw [hr, List.append_assoc, List.singleton_append] at this
        rw [Nat.zero_add, Nat.one_mul, this]
        have e1 : nextI m (a ++ ((v : Nat) : Int) :: List.replicate d 0) (j + 1) = nextI m (a ++ List.replicate (d + 1) 0) j := by
          rw [nextI, get_mid ha, hp, if_neg (by omega), set_mid ha]; rfl
        rw [e1, e3, List.range'_succ, List.flatMap_cons]
        simp only [List.range'_zero, List.flatMap_nil, List.append_nil]
      | succ e ihe =>
        intro v hv n
        have := ih (j + 1) (a ++ [((v : Nat) : Int)]) (by omega) (by simp [ha]) ((e + 1) * (allC rest).length + n)
        rw [hr, List.append_assoc, List.singleton_append] at this
        rw [show (e + 1 + 1) * (allC rest).length + n = (allC rest).length + ((e + 1) * (allC rest).length + n) by rw [Nat.succ_mul]; omega, this]
        have e1 : nextI m (a ++ ((v : Nat) : Int) :: List.replicate d 0) (j + 1) = some (a ++ (((v + 1 : Nat)) : Int) :: List.replicate d 0) := by
          rw [nextI, get_mid ha, hp, if_pos (by omega), set_mid ha]; rfl
        rw [e1]
        simp only
        rw [ihe (v + 1) (by omega) n, e3, List.range'_succ (n := e + 1), List.flatMap_cons, List.append_assoc]
    have := inner pj 0 (by omega) n
    rw [allC_cons]
    have e2 : a ++ List.replicate (d + 1) 0 = a ++ ((0 : Nat) : Int) :: List.replicate d 0 := rfl
    rw [e2]
    rw [e2] at this
    rw [this, allC, List.range_eq_range', List.map_flatMap]
    simp only [List.map_map]
    rfl
theorem cuts_all (m : MS) : cutList m (tot m (nlines m)) (cut0 m) = allC (pN m (nlines m)) := by
  have := enum m (nlines m) (nlines m) 0 [] (Nat.zero_add _) rfl 0
  rw [List.drop_zero, Nat.add_zero] at this
  rw [tot_all]
  unfold cut0
  simp only [List.nil_append] at this
  rw [this]
  simp [nextI]
/-! the document's -/
theorem Ints_loop {p q : List Int} (hl : p.length = q.length) (hp : p.length ≤ 1000) : ∀ (d j n : Nat), j + d = p.length → d < n →
    leadlineref06_Ints_l2 N leadlineref06_Ints_j1 p q n (j : Int) = some (decide (p.drop j = q.drop j)) := by
  intro d
  induction d with
  | zero =>
    intro j n hj hn
    obtain ⟨n, rfl⟩ : ∃ q, n = q + 1 := ⟨n - 1, by omega⟩
    rw [leadlineref06_Ints_l2, if_neg (by omega), List.drop_of_length_le (by omega), List.drop_of_length_le (by omega)]; rfl
  | succ d ih =>
    intro j n hj hn
    obtain ⟨n, rfl⟩ : ∃ q, n = q + 1 := ⟨n - 1, by omega⟩
    have h1 : j < p.length := by omega
    have h2 : j < q.length := by omega
    rw [leadlineref06_Ints_l2, if_pos (by omega), getI_at rfl h1]
    simp only [Option.bind_some]
    rw [getI_at rfl h2]
    simp only [Option.bind_some]
    rw [List.drop_eq_getElem_cons h1, List.drop_eq_getElem_cons h2]
    by_cases e : p[j] = q[j]
    · rw [if_neg (by simpa using e), wsucc h1 (by omega), ih (j + 1) n (by omega) (by omega)]
      simp only [List.cons.injEq, e, true_and]
    · rw [if_pos e]; simp only [List.cons.injEq, e, false_and, decide_false]
theorem Ints_eq {p q : List Int} (hp : p.length ≤ 1000) (hN : p.length < N) : leadlineref06_Ints N p q = some (decide (p = q)) := by
  unfold leadlineref06_Ints
  by_cases hl : p.length = q.length
  · rw [if_neg (by omega), show (0 : Int) = ((0 : Nat) : Int) from rfl, Ints_loop hl hp p.length 0 N (by omega) hN]; rfl
  · rw [if_pos (by omega), decide_eq_false (fun e => hl (by rw [e]))]
theorem grow_eq {p : List Nat} {pI : List Int} (hpI : pI = p.map fun n => ((n : Nat) : Int)) (hlen : p.length ≤ 100) : ∀ (d : Nat) (head : List Int) (f : Nat), head.length + d = p.length → (allC (p.drop head.length)).length ≤ 200 → d + 300 ≤ f →
    leadlineref11_grow f pI head = some ((allC (p.drop head.length)).map (head ++ ·)) := by
  have hpl : pI.length = p.length := by rw [hpI, List.length_map]
  intro d
  induction d with
  | zero =>
    intro head f hd ht hf
    obtain ⟨f, rfl⟩ : ∃ q, f = q + 1 := ⟨f - 1, by omega⟩
    rw [leadlineref11_grow, if_pos (by omega), List.drop_of_length_le (by omega)]
    simp [allC]
  | succ d ih =>
    intro head f hd ht hf
    obtain ⟨f, rfl⟩ : ∃ q, f = q + 1 := ⟨f - 1, by omega⟩
    have hh : head.length < p.length := by omega
    have hdrop : p.drop head.length = p[head.length] :: p.drop (head.length + 1) := List.drop_eq_getElem_cons hh
    rw [hdrop] at ht ⊢
    generalize hpj : p[head.length] = pj at ht ⊢
    generalize hrest : p.drop (head.length + 1) = rest at ht ⊢
    rw [allC_cons] at ht
    have hpos := allC_pos rest
    have hT : (allC rest).length ≤ 200 := Nat.le_trans (Nat.le_mul_of_pos_left _ (Nat.succ_pos _)) ht
    have hpj2 : pj + 1 ≤ 200 := Nat.le_trans (Nat.le_mul_of_pos_right _ hpos) ht
    have hget : getI pI (head.length : Int) = some ((pj : Nat) : Int) := by
      rw [getI_at rfl (by omega)]
      simp [hpI, hpj]
    have loop : ∀ (e v n : Nat), v + e = pj + 1 → e < n → leadlineref11_grow_l2 (leadlineref11_grow f) f leadlineref11_grow_j1 pI head n (((List.range v).flatMap fun u => (allC rest).map (((u : Nat) : Int) :: ·)).map (head ++ ·)) ((v : Nat) : Int) =
        some (((List.range (pj + 1)).flatMap fun u => (allC rest).map (((u : Nat) : Int) :: ·)).map (head ++ ·)) := by
      intro e
      induction e with
      | zero =>
        intro v n hv hn
        obtain ⟨n, rfl⟩ : ∃ q, n = q + 1 := ⟨n - 1, by omega⟩
        rw [leadlineref11_grow_l2, hget]
        simp only [Option.bind_some]
        rw [if_neg (by omega), show v = pj + 1 by omega]; rfl
      | succ e ihe =>
        intro v n hv hn
        obtain ⟨n, rfl⟩ : ∃ q, n = q + 1 := ⟨n - 1, by omega⟩
        rw [leadlineref11_grow_l2, hget]
        simp only [Option.bind_some]
        rw [if_pos (by omega), appG_ok (by simp; omega) (by decide)]
        simp only [Option.bind_some, List.nil_append]
        rw [appG_ok (by simp; omega) (by decide)]
        simp only [Option.bind_some]
        have hl2 : (head ++ [((v : Nat) : Int)]).length = head.length + 1 := by simp
        rw [ih (head ++ [((v : Nat) : Int)]) f (by rw [hl2]; omega) (by rw [hl2, hrest]; exact hT) (by omega), hl2, hrest]
        simp only [Option.bind_some]
        have hvl : (((List.range v).flatMap fun u => (allC rest).map (((u : Nat) : Int) :: ·)).map (head ++ ·)).length = v * (allC rest).length := by
          rw [List.length_map, rep_len (allC rest).length _ (fun v => List.length_map _), List.length_range]
        have hvm : v * (allC rest).length ≤ (pj + 1) * (allC rest).length := Nat.mul_le_mul_right _ (by omega)
        rw [appG_ok (by rw [hvl, List.length_map]; omega) (by decide)]
        simp only [Option.bind_some]
        have hnew : (((List.range v).flatMap fun u => (allC rest).map (((u : Nat) : Int) :: ·)).map (head ++ ·)) ++ (allC rest).map ((head ++ [((v : Nat) : Int)]) ++ ·) = ((List.range (v + 1)).flatMap fun u => (allC rest).map (((u : Nat) : Int) :: ·)).map (head ++ ·) := by
          rw [List.range_succ, List.flatMap_append, List.map_append]
          congr 1
          simp [List.map_map, Function.comp_def]
        rw [hnew, wsucc (n := pj + 1) (by omega) (by omega)]
        exact ihe (v + 1) n (by omega) (by omega)
    rw [leadlineref11_grow, if_neg (by omega)]
    have := loop (pj + 1) 0 f (by omega) (by omega)
    rw [show (((List.range 0).flatMap fun u => (allC rest).map (((u : Nat) : Int) :: ·)).map (head ++ ·)) = [] from rfl, show ((0 : Nat) : Int) = 0 from rfl] at this
    rw [this, allC]
/-- one cut more, if it differs -/
def stepR (m : MS) (s : List (List Int) × List (List Int)) (c : List Int) : List (List Int) × List (List Int) :=
  if imgUp m c (nlines m) ∈ s.1 then s else (s.1 ++ [imgUp m c (nlines m)], s.2 ++ [c])
theorem pad_inj {a b : List Int} (ha : a.length = b.length) (hb : b.length ≤ 20) (h : pad a = pad b) : a = b := by
  have h2 : (a ++ List.replicate 20 0).take 20 = (b ++ List.replicate 20 0).take 20 := congrArg (fun x : Vec 20 => x.1) h
  have h3 := congrArg (List.take b.length) h2
  rw [List.take_take, List.take_take, Nat.min_eq_left hb, List.take_left' ha, List.take_left' rfl] at h3
  exact h3
theorem step_same (hk : m.kept.length ≤ 20) : ∀ (l : List (List Int)) (h o : List (List Int)), (∀ x ∈ h, x.length = m.kept.length) →
    (l.foldl (cutStep m) (h.map pad, o)).2 = (l.foldl (stepR m) (h, o)).2
  | [], h, o, _ => rfl
  | c :: l, h, o, hh => by
    have hl := imgUp_len m c (nlines m)
    have hiff : pad (imgUp m c (nlines m)) ∈ h.map pad ↔ imgUp m c (nlines m) ∈ h := by
      constructor
      · intro q
        obtain ⟨x, hx, e⟩ := List.mem_map.1 q
        have := hh x hx
        rw [← pad_inj (by rw [this, hl]) (by omega) e]; exact hx
      · exact fun q => List.mem_map_of_mem q
    simp only [List.foldl_cons]
    by_cases e : imgUp m c (nlines m) ∈ h
    · rw [cutStep, if_pos (hiff.2 e), stepR, if_pos e]
      exact step_same hk l h o hh
    · rw [cutStep, if_neg (fun q => e (hiff.1 q)), stepR, if_neg e]
      have := step_same hk l (h ++ [imgUp m c (nlines m)]) (o ++ [c]) (fun x hx => by
        rcases List.mem_append.1 hx with hx | hx
        · exact hh x hx
        · rw [List.mem_singleton] at hx; subst hx; exact hl)
      rw [List.map_append] at this
      exact this
theorem had_l5 {img : List Int} {had : List (List Int)} (hh : had.length ≤ 1000) (hx : ∀ x ∈ had, x.length ≤ 1000) (hN : 1000 < N) {r : List Int × Int × Rm} (hr : r.1 = img) {kk : Bool → Option ((List (List Int)) × Rm)} : ∀ (d j n : Nat) (b : Bool), j + d = had.length → d < n →
    leadlineref11_Mem_Cuts__m0_71_ffooo_l5 N kk r had n b (j : Int) = kk (b || decide (img ∈ had.drop j)) := by
  intro d
  induction d with
  | zero =>
    intro j n b hj hn
    obtain ⟨n, rfl⟩ : ∃ q, n = q + 1 := ⟨n - 1, by omega⟩
    rw [leadlineref11_Mem_Cuts__m0_71_ffooo_l5, if_neg (by omega), List.drop_of_length_le (by omega)]
    simp
  | succ d ih =>
    intro j n b hj hn
    obtain ⟨n, rfl⟩ : ∃ q, n = q + 1 := ⟨n - 1, by omega⟩
    have h1 : j < had.length := by omega
    rw [leadlineref11_Mem_Cuts__m0_71_ffooo_l5, if_pos (by omega)]
    cases b with
    | true =>
      rw [if_pos rfl, leadlineref11_Mem_Cuts__m0_71_ffooo_j6, wsucc h1 (by omega), ih (j + 1) n _ (by omega) (by omega)]
      simp
    | false =>
      have hxl := hx _ (List.getElem_mem h1)
      rw [if_neg (by decide), getI_at rfl h1]
      simp only [Option.bind_some]
      rw [Ints_eq (by omega) (by omega)]
      simp only [Option.bind_some]
      rw [leadlineref11_Mem_Cuts__m0_71_ffooo_j6, wsucc h1 (by omega), ih (j + 1) n _ (by omega) (by omega), List.drop_eq_getElem_cons h1, hr]
      congr 1
      rw [Bool.eq_iff_iff]
      simp only [Bool.or_eq_true, decide_eq_true_eq, Bool.false_or, List.mem_cons]
      constructor
      · rintro (h | h)
        · exact .inl h.symm
        · exact .inr h
      · rintro (h | h)
        · exact .inl h.symm
        · exact .inr h
theorem cuts_l2 (hi : MInv m) (hs : Sim m k) (hf : k.W.length ≤ 1000) (hN : 1000 < N) {l : List (List Int)} (hl : l.length ≤ 200) (hc : ∀ x ∈ l, cutOk m x) {kk : List Int → List Int → List Int → List Int → List Rp → List (List Int) → Option ((List (List Int)) × Rm)} : ∀ (d j n : Nat) (had out : List (List Int)), j + d = l.length → d < n → had.length ≤ j → out.length ≤ j → (∀ x ∈ had, x.length = m.kept.length) →
    leadlineref11_Mem_Cuts__m0_71_ffooo_l2 N kk l n k.Of k.Firsts k.L k.K k.W out had (j : Int) = kk k.Of k.Firsts k.L k.K k.W ((l.drop j).foldl (stepR m) (had, out)).2 := by
  have hk20 : m.kept.length ≤ 20 := by rw [hi.len1]; have := hi.len3; have := hi.len4; omega
  intro d
  induction d with
  | zero =>
    intro j n had out hj hn h1 h2 h3
    obtain ⟨n, rfl⟩ : ∃ q, n = q + 1 := ⟨n - 1, by omega⟩
    rw [leadlineref11_Mem_Cuts__m0_71_ffooo_l2, if_neg (by omega), List.drop_of_length_le (by omega)]; rfl
  | succ d ih =>
    intro j n had out hj hn h1 h2 h3
    obtain ⟨n, rfl⟩ : ∃ q, n = q + 1 := ⟨n - 1, by omega⟩
    have hjl : j < l.length := by omega
    have hok := hc _ (List.getElem_mem hjl)
    have him := imgUp_len m l[j] (nlines m)
    rw [leadlineref11_Mem_Cuts__m0_71_ffooo_l2, if_pos (by omega), getI_at rfl hjl]
    simp only [Option.bind_some]
    have hI := Image_eq (N := N) hi hs hf hN l[j]
    rw [if_pos hok] at hI
    have hk' : leadlineref11_Mem.mk k.Of k.Firsts k.L k.K k.W = k := rfl
    rw [hk', hI]
    simp only [Option.bind_some]
    have h5 := had_l5 (N := N) (img := imgUp m l[j] (nlines m)) (had := had) (by omega) (fun x hx => by rw [h3 x hx]; omega) hN (r := (imgUp m l[j] (nlines m), 0, k)) rfl (kk := leadlineref11_Mem_Cuts__m0_71_ffooo_j4 (leadlineref11_Mem_Cuts__m0_71_ffooo_j3 (leadlineref11_Mem_Cuts__m0_71_ffooo_l2 N kk l n) (j : Int)) l[j] (imgUp m l[j] (nlines m), 0, k) out had) had.length 0 N false (by omega) (by omega)
    rw [show ((0 : Nat) : Int) = 0 from rfl, List.drop_zero, Bool.false_or] at h5
    refine Eq.trans h5 ?_
    rw [List.drop_eq_getElem_cons hjl, List.foldl_cons, leadlineref11_Mem_Cuts__m0_71_ffooo_j4]
    by_cases e : imgUp m l[j] (nlines m) ∈ had
    · rw [if_pos (by simpa using e), leadlineref11_Mem_Cuts__m0_71_ffooo_j3, wsucc hjl (by omega), stepR, if_pos e]
      exact ih (j + 1) n had out (by omega) (by omega) (by omega) (by omega) h3
    · rw [if_neg (by simpa using e), appG_ok (by simp; omega) (by decide)]
      simp only [Option.bind_some]
      rw [appG_ok (by simp; omega) (by decide)]
      simp only [Option.bind_some]
      rw [leadlineref11_Mem_Cuts__m0_71_ffooo_j3, wsucc hjl (by omega), stepR, if_neg e]
      exact ih (j + 1) n _ _ (by omega) (by omega) (by simp; omega) (by simp; omega) (fun x hx => by
        rcases List.mem_append.1 hx with hx | hx
        · exact h3 x hx
        · rw [List.mem_singleton] at hx; subst hx; exact him)
theorem getD_nat {l : List Nat} {i : Nat} (h : i < l.length) : l.getD i 0 = l[i] := by simp [List.getD, h]
theorem pendL_pN (m : MS) (q : Nat) : pendL m q = (pN m q).map fun n => ((n : Nat) : Int) := by simp [pendL, pN]
theorem Cuts_eq (hi : MInv m) (hs : Sim m k) (hf : k.W.length ≤ 1000) (hN : 1000 < N) (ht : tot m (nlines m) ≤ 200) : leadlineref11_Mem_Cuts__m0_71_ffooo N k = some (cutsM m, k) := by
  have h20 := hi.nl
  have hk20 : m.kept.length ≤ 20 := by rw [hi.len1]; have := hi.len3; have := hi.len4; omega
  unfold leadlineref11_Mem_Cuts__m0_71_ffooo
  rw [Pending_eq hi hs hf hN]
  simp only [Option.bind_some]
  rw [tot_all] at ht
  have hg := grow_eq (p := pN m (nlines m)) (pI := pendL m (nlines m)) (pendL_pN m _) (by rw [pN_len]; omega) (nlines m) [] N (by rw [pN_len]; simp) (by simpa using ht) (by omega)
  rw [hg]
  simp only [Option.bind_some, List.length_nil, List.drop_zero, List.nil_append, List.map_id']
  have hc : ∀ x ∈ allC (pN m (nlines m)), cutOk m x := fun x hx => by
    obtain ⟨h1, h2⟩ := mem_allC hx
    rw [pN_len] at h1 h2
    refine ⟨h1, fun i h => ?_⟩
    have := h2 i (by omega)
    rw [getD_of_lt h, getD_nat (by rw [pN_len]; omega)] at this
    simpa [pN] using this
  have := cuts_l2 (N := N) hi hs hf hN ht hc (kk := leadlineref11_Mem_Cuts__m0_71_ffooo_j1) (allC (pN m (nlines m))).length 0 N [] [] (by omega) (by omega) (by simp) (by simp) (fun x hx => nomatch hx)
  rw [show ((0 : Nat) : Int) = 0 from rfl, List.drop_zero] at this
  rw [this]
  unfold cutsM
  rw [cuts_all, show (([], []) : List (Vec 20) × List (List Int)) = (([] : List (List Int)).map pad, []) from rfl, step_same hk20 _ [] [] (fun x hx => nomatch hx)]
  rfl
end Go.MD.LINES
