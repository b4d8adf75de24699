/- The laws TraceSame, TraceOrder, TraceJoins, TraceThreads. No condition: plain lemmas. -/
import Derived.Test.YtimaeihmnipfgaaDoorPC
namespace Go.MD.ET
open Go Go.MD
def of3 : List Int := [0, 0, 1]
def fx : List api_Event := [(api_Event.mk 12 1 0 1 0), (api_Event.mk 12 0 2 1 0), (api_Event.mk 1 0 0 1 0)]
def fy : List api_Event := [(api_Event.mk 12 0 2 1 0), (api_Event.mk 12 1 0 1 0), (api_Event.mk 1 0 0 1 0)]
theorem fixForm : trace_Form 1001 fx of3 3 = some fy := by decide +kernel
theorem ok_small : ∀ k t a n m : Int, (0 ≤ k ∧ k < 100) → (0 ≤ t ∧ t < 100) → (0 ≤ a ∧ a < 100) → (0 ≤ n ∧ n < 100) → (0 ≤ m ∧ m < 100) → okE ⟨k, t, a, n, m⟩ :=
  fun _ _ _ _ _ h1 h2 h3 h4 h5 => ⟨⟨by simp; omega, by simp; omega⟩, ⟨by simp; omega, by simp; omega⟩, ⟨by simp; omega, by simp; omega⟩, ⟨by simp; omega, by simp; omega⟩, ⟨by simp; omega, by simp; omega⟩⟩
theorem fy_ok : allE fy := by
  intro x hx
  rcases List.mem_cons.1 hx with rfl | hx
  · exact ok_small _ _ _ _ _ (by decide) (by decide) (by decide) (by decide) (by decide)
  · rcases List.mem_cons.1 hx with rfl | hx
    · exact ok_small _ _ _ _ _ (by decide) (by decide) (by decide) (by decide) (by decide)
    · rcases List.mem_cons.1 hx with rfl | hx
      · exact ok_small _ _ _ _ _ (by decide) (by decide) (by decide) (by decide) (by decide)
      · cases hx
theorem fixKey : trace_Key 1001 fx of3 3 = some [48, 32, 99, 111, 109, 101, 32, 50, 32, 49, 10, 49, 32, 99, 111, 109, 101, 32, 48, 32, 49, 10, 48, 32, 108, 111, 97, 100, 32, 48, 32, 49, 10] := by
  rw [Key_of (by decide) fixForm fy_ok (by decide)]
  simp [keyS, fy, showS, part, bears, nameOf, itoa_dig]
theorem fixSteps : trace_Steps 1001 fx of3 3 = some [[0, 1], [2]] := by decide +kernel
theorem fixed17 : leadlinelaw17_fixed 1001 = some true := by
  have hK : trace_Key 1001 ([(api_Event.mk 12 1 0 1 0), (api_Event.mk 12 0 2 1 0), (api_Event.mk 1 0 0 1 0)] : List api_Event) ([0, 0, 1] : List Int) 3 = _ := fixKey
  have hS : trace_Steps 1001 ([(api_Event.mk 12 1 0 1 0), (api_Event.mk 12 0 2 1 0), (api_Event.mk 1 0 0 1 0)] : List api_Event) ([0, 0, 1] : List Int) 3 = _ := fixSteps
  unfold leadlinelaw17_fixed
  rw [hK, hS]
  decide +kernel

section
variable {p q : List api_Event} {of : List Int} {s : Int}
theorem FormX (hp : p.length ≤ 1000) (hk : okT p) (of : List Int) (s : Int) : ∃ f, trace_Form 1001 p of s = some f ∧ Fm (D17 of s) T17 p f :=
  Form_eq (N := 1001) (by decide) hp (by omega) hk of s
theorem SameT (hp : p.length ≤ 1000) (kp : okT p) (h : TP (D17 of s) p q) : trace_Same 1001 p q of s = some true := by
  obtain ⟨b, e, i⟩ := Same_spec (N := 1001) (by decide) hp (by rw [← h.length]; exact hp) of s
  rw [e, i.2 ⟨kp, TP.okT h kp, h⟩]
theorem SameF (hp : p.length ≤ 1000) (hq : q.length ≤ 1000) (h : ¬ TP (D17 of s) p q) : trace_Same 1001 p q of s = some false := by
  obtain ⟨b, e, i⟩ := Same_spec (N := 1001) (by decide) hp hq of s
  cases b with
  | false => exact e
  | true => exact absurd (i.1 rfl).2.2 h
theorem Fm.same {f g : List api_Event} (h : Fm (D17 of s) T17 p f) (k : Fm (D17 of s) T17 q g) (t : TP (D17 of s) p q) : f = g := (Fm.iff (D17_thread of s) (D17_comm of s) h k).2 t
theorem rem_in {x : Int} {n : Nat} (hn : 0 < n) (hx : 0 ≤ x) : ∃ k : Nat, remI x (n : Int) = some (k : Int) ∧ k < n := by
  unfold remI
  rw [if_neg (by omega)]
  refine ⟨(x.tmod n).toNat, ?_, ?_⟩
  · have := Int.tmod_nonneg (n : Int) hx
    congr 1; omega
  · have h1 := Int.tmod_lt_of_pos x (b := (n : Int)) (by omega)
    have := Int.tmod_nonneg (n : Int) hx
    omega
theorem same_loop {l : List api_Event} (hl : l.length ≤ 30) (hk : okT l) (how : List Int) (s : Int) : ∀ (d j n : Nat) (m : List api_Event), j + d = 60 → d < n → TP (D17 of3 s) l m →
    ∃ m', TP (D17 of3 s) l m' ∧ leadlinelaw17_TraceSame_l2 1001 (leadlinelaw17_TraceSame_j1 1001 s l) how s l n m (j : Int) = leadlinelaw17_TraceSame_j1 1001 s l m' := by
  intro d
  induction d with
  | zero =>
    intro j n m hj hn hm
    obtain ⟨n, rfl⟩ : ∃ m, n = m + 1 := ⟨n - 1, by omega⟩
    rw [leadlinelaw17_TraceSame_l2, if_neg (by simp; omega)]
    exact ⟨m, hm, rfl⟩
  | succ d ih =>
    intro j n m hj hn hm
    obtain ⟨n, rfl⟩ : ∃ m, n = m + 1 := ⟨n - 1, by omega⟩
    by_cases c : j < how.length ∧ 1 < l.length
    · have h1 := c.1
      rw [leadlinelaw17_TraceSame_l2, if_pos (by simp; omega), getI_at rfl h1]
      simp only [Option.bind_some]
      have hin : 0 ≤ iand .i64 how[j] 65535 := (iand_in (x := how[j]) (m := 65535) (by decide)).1
      obtain ⟨k, e1, hk1⟩ := rem_in (n := l.length - 1) (by omega) hin
      rw [w64 (by omega) (by omega), show ((l.length : Int) - 1) = ((l.length - 1 : Nat) : Int) by omega, e1]
      simp only [Option.bind_some]
      have hlen := hm.length
      have next : ∀ m', TP (D17 of3 s) l m' → ∃ m'', TP (D17 of3 s) l m'' ∧ leadlinelaw17_TraceSame_j3 (leadlinelaw17_TraceSame_l2 1001 (leadlinelaw17_TraceSame_j1 1001 s l) how s l n) (j : Int) m' = leadlinelaw17_TraceSame_j1 1001 s l m'' := by
        intro m' hm'
        rw [leadlinelaw17_TraceSame_j3, wsucc (j := j) (n := 60) (by omega) (by decide)]
        exact ih (j + 1) n m' (by omega) (by omega) hm'
      have e3 : ([0, 0, 1] : List Int) = of3 := rfl
      rw [e3]
      rcases Swap_spec (N := 1001) (by decide) (p := m) (by omega) (k : Int) of3 s with ⟨hy, e⟩ | ⟨_, e⟩
      · rw [e]
        simp only [Option.bind_some, if_true]
        have h2 : k + 1 < m.length := by omega
        have hd := hy.2.2.2.2
        rw [Int.toNat_natCast] at hd
        rw [sure_ok (by rw [Int.toNat_natCast, swapped_len h2, ← hlen]; simp)]
        simp only [Option.bind_some, Int.toNat_natCast]
        exact next _ (hm.trans (swapped_tp h2 hd))
      · rw [e]
        simp only [Option.bind_some, Bool.false_eq_true, if_false]
        exact next _ hm
    · rw [leadlinelaw17_TraceSame_l2, if_neg (by simp; omega)]
      exact ⟨m, hm, rfl⟩
theorem TraceSame_eq (p1 : List api_Event) (h1 : allE p1) (p6 : List Int) (p11 : Int) : leadlinelaw17_TraceSame 1001 p1 p6 p11 = some true := by
  unfold leadlinelaw17_TraceSame
  rw [threads_eq (by decide) p1]
  simp only [Option.bind_some]
  have hk := threads_okT p1
  have hl := threads_len p1
  have hE := threads_okE h1
  generalize (p1.take 30).map low = l at hk hl hE
  obtain ⟨m, hm, e⟩ := same_loop hl hk p6 p11 60 0 1001 l (by decide) (by decide) (.refl l)
  rw [show (0 : Int) = ((0 : Nat) : Int) from rfl, e]
  unfold leadlinelaw17_TraceSame_j1
  have e3 : ([0, 0, 1] : List Int) = of3 := rfl
  have hml := hm.length
  obtain ⟨f, f1, f2⟩ := FormX (p := l) (by omega) hk of3 p11
  obtain ⟨g, g1, g2⟩ := FormX (p := m) (by omega) (TP.okT hm hk) of3 p11
  have hfg : f = g := Fm.same f2 g2 hm
  subst hfg
  have hft := f2.tp
  have hfl := hft.length
  have hfE : allE f := TP.allE hft hE
  obtain ⟨f', f3, f4⟩ := FormX (p := f) (by omega) (TP.okT hft hk) of3 p11
  have hff : f' = f := f4.uniq (D17_thread of3 p11) (f2.idem (D17_thread of3 p11) (D17_comm of3 p11))
  subst hff
  rw [e3, f1, g1]
  simp only [Option.bind_some]
  rw [Equal17 (by omega) (by omega)]
  simp only [Option.bind_some]
  rw [sure_ok (by simp), SameT (by omega) hk hm]
  simp only [Option.bind_some]
  rw [sure_ok rfl, SameT (by omega) hk hft]
  simp only [Option.bind_some]
  rw [sure_ok rfl, f3]
  simp only [Option.bind_some]
  rw [Equal17 (by omega) (by omega)]
  simp only [Option.bind_some]
  rw [sure_ok (by simp), Key_of (by decide) f1 hfE (by omega), Key_of (by decide) g1 hfE (by omega)]
  simp only [Option.bind_some]
  rw [sure_ok (by simp; omega), fixed17]
  rfl
theorem TraceOrder_eq (p1 : List api_Event) (p6 p7 : Int) : leadlinelaw17_TraceOrder 1001 p1 p6 p7 = some true := by
  unfold leadlinelaw17_TraceOrder
  rw [threads_eq (by decide) p1]
  simp only [Option.bind_some]
  have hk := threads_okT p1
  have hl := threads_len p1
  generalize (p1.take 30).map low = l at hk hl
  by_cases c : (l.length : Int) < 2
  · rw [if_pos c, fixed17]; rfl
  · have hin : 0 ≤ iand .i64 p6 65535 := (iand_in (x := p6) (m := 65535) (by decide)).1
    obtain ⟨k, e1, hk1⟩ := rem_in (n := l.length - 1) (by omega) hin
    have k1 : k < l.length := by omega
    have k2 : k + 1 < l.length := by omega
    have w1 := wsucc (j := k) (n := l.length) k1 (by omega)
    have e3 : ([0, 0, 1] : List Int) = of3 := rfl
    rw [if_neg c, w64 (by omega) (by omega), show ((l.length : Int) - 1) = ((l.length - 1 : Nat) : Int) by omega, e1]
    simp only [Option.bind_some]
    rw [getI_at rfl k1, w1, getI_at rfl k2]
    simp only [Option.bind_some]
    rw [ref_Depend_eq (by decide)]
    simp only [Option.bind_some]
    have ht : leadlinelaw17_TraceOrder_j1 1001 p7 l (k : Int) true = some true := by
      rw [leadlinelaw17_TraceOrder_j1, if_pos rfl, fixed17]; rfl
    rw [e3]
    have ed : dependS l[k] l[k + 1] of3 p7 = D17 of3 p7 (ev l k) (ev l (k + 1)) := by unfold D17; rw [ev_at k1, ev_at k2]
    rw [ed]
    cases hd : D17 of3 p7 (ev l k) (ev l (k + 1)) with
    | false => rw [if_neg (by decide)]; exact ht
    | true =>
      rw [if_pos rfl]
      by_cases ee : l[k] = l[k + 1]
      · rw [decide_eq_true ee]; exact ht
      · rw [decide_eq_false ee, leadlinelaw17_TraceOrder_j1, if_neg (by decide), subI_ok (by omega) (by omega) (by omega)]
        simp only [Option.bind_some]
        rw [appG_ok (by simp; omega) (by decide)]
        simp only [Option.bind_some, List.nil_append]
        rw [w1, getI_at rfl k2, getI_at rfl k1]
        simp only [Option.bind_some]
        rw [appG_ok (by simp; omega) (by decide)]
        simp only [Option.bind_some]
        rw [w64 (by omega) (by omega), subI_ok (by omega) (by omega) (by omega)]
        simp only [Option.bind_some]
        rw [appG_ok (by simp; omega) (by decide)]
        simp only [Option.bind_some]
        have es : List.drop (Int.toNat 0) (List.take (k : Int).toNat l) ++ [l[k + 1], l[k]] ++ List.drop ((k : Int) + 2).toNat (List.take (l.length : Int).toNat l) = swapped l k := by
          unfold swapped
          rw [ev_at k1, ev_at k2]
          simp [show ((k : Int) + 2).toNat = k + 2 by omega]
        rw [es, e3]
        have hsl := swapped_len k2
        have hnt : ¬ TP (D17 of3 p7) l (swapped l k) := by
          unfold swapped
          conv => arg 1; arg 2; rw [split_at k2]
          exact TP.not_swap (D17_thread of3 p7) hd (by rw [ev_at k1, ev_at k2]; exact ee)
        have hok : okT (swapped l k) := by
          intro x hx
          refine hk x ?_
          rw [split_at k2]
          unfold swapped at hx
          simp only [List.mem_append, List.mem_cons] at hx ⊢
          rcases hx with h | h | h | h
          · exact .inl h
          · exact .inr (.inr (.inl h))
          · exact .inr (.inl h)
          · exact .inr (.inr (.inr h))
        rcases Swap_spec (N := 1001) (by decide) (p := l) (by omega) (k : Int) of3 p7 with ⟨hy, _⟩ | ⟨_, e⟩
        · have := hy.2.2.2.2
          rw [Int.toNat_natCast, hd] at this; cases this
        · rw [e]
          simp only [Option.bind_some]
          rw [sure_ok (b := !false) rfl, SameF (by omega) (by omega) hnt]
          simp only [Option.bind_some]
          obtain ⟨f, f1, f2⟩ := FormX (p := l) (by omega) hk of3 p7
          obtain ⟨g, g1, g2⟩ := FormX (p := swapped l k) (by omega) hok of3 p7
          have hne : f ≠ g := fun e => hnt ((Fm.iff (D17_thread of3 p7) (D17_comm of3 p7) f2 g2).1 e)
          have hfl := f2.tp.length
          rw [sure_ok (b := !false) rfl, f1, g1]
          simp only [Option.bind_some]
          rw [Equal17 (by omega) (by omega)]
          simp only [Option.bind_some]
          rw [sure_ok (by simp [hne]), fixed17]
          rfl
theorem TraceJoins_eq (p1 : List api_Event) (p6 p7 : Int) : leadlinelaw17_TraceJoins 1001 p1 p6 p7 = some true := by
  unfold leadlinelaw17_TraceJoins
  rw [threads_eq (by decide) p1]
  simp only [Option.bind_some]
  have hk := threads_okT p1
  have hl := threads_len p1
  generalize (p1.take 30).map low = l at hk hl
  have hin : 0 ≤ iand .i64 p6 65535 := (iand_in (x := p6) (m := 65535) (by decide)).1
  obtain ⟨k, e1, hk1⟩ := rem_in (n := l.length + 1) (by omega) hin
  have e3 : ([0, 0, 1] : List Int) = of3 := rfl
  rw [w64 (by omega) (by omega), show ((l.length : Int) + 1) = ((l.length + 1 : Nat) : Int) by omega, e1]
  simp only [Option.bind_some]
  rw [subI_ok (by omega) (by omega) (by omega), e3]
  simp only [Option.bind_some, Int.toNat_natCast, Int.toNat_zero, List.drop_zero]
  have hkt : okT (l.take k) := fun x hx => hk x (List.mem_of_mem_take hx)
  have hkd : okT (l.drop k) := fun x hx => hk x (List.mem_of_mem_drop hx)
  obtain ⟨f, f1, f2⟩ := FormX (p := l.take k) (by simp; omega) hkt of3 p7
  obtain ⟨g, g1, g2⟩ := FormX (p := l.drop k) (by simp; omega) hkd of3 p7
  have hfl := f2.tp.length
  have hgl := g2.tp.length
  simp only [List.length_take, List.length_drop] at hfl hgl
  rw [f1]
  simp only [Option.bind_some]
  rw [appG_ok (by simp; omega) (by decide)]
  simp only [Option.bind_some, List.nil_append]
  rw [subI_ok (by omega) (by omega) (by omega)]
  simp only [Option.bind_some, Int.toNat_natCast, List.take_length]
  rw [g1]
  simp only [Option.bind_some]
  rw [appG_ok (by omega) (by decide)]
  simp only [Option.bind_some]
  have ht : TP (D17 of3 p7) l (f ++ g) := by
    have := f2.tp.app g2.tp
    rwa [List.take_append_drop] at this
  have hml := ht.length
  obtain ⟨a, a1, a2⟩ := FormX (p := f ++ g) (by omega) (TP.okT ht hk) of3 p7
  obtain ⟨b, b1, b2⟩ := FormX (p := l) (by omega) hk of3 p7
  have hab : b = a := Fm.same b2 a2 ht
  subst hab
  have hbl := b2.tp.length
  rw [a1, b1]
  simp only [Option.bind_some]
  rw [Equal17 (by omega) (by omega)]
  simp only [Option.bind_some]
  rw [sure_ok (by simp), SameT (by omega) hk ht]
  simp only [Option.bind_some]
  rw [sure_ok rfl, fixed17]
  rfl
theorem tt_l5 {kf : List api_Event → Option Bool} {l : List api_Event} (hl : l.length ≤ 1000) (t : Int) : ∀ (d j n : Nat) (out : List api_Event), j + d = l.length → d < n → out.length ≤ j →
    leadlinelaw17_TraceThreads_l5 1001 kf l t n out (j : Int) = kf (out ++ (l.drop j).filter fun x => decide (x.T = t)) := by
  intro d
  induction d with
  | zero =>
    intro j n out hj hn _
    obtain ⟨n, rfl⟩ : ∃ m, n = m + 1 := ⟨n - 1, by omega⟩
    rw [leadlinelaw17_TraceThreads_l5, if_neg (by omega), List.drop_of_length_le (by omega)]
    simp
  | succ d ih =>
    intro j n out hj hn ho
    obtain ⟨n, rfl⟩ : ∃ m, n = m + 1 := ⟨n - 1, by omega⟩
    have h1 : j < l.length := by omega
    rw [leadlinelaw17_TraceThreads_l5, if_pos (by omega), getI_at rfl h1]
    simp only [Option.bind_some, leadlinelaw17_TraceThreads_j6]
    rw [wsucc (j := j) h1 (by omega), List.drop_eq_getElem_cons h1, List.filter_cons]
    by_cases e : l[j].T = t
    · rw [if_pos e, if_pos (by simpa using e), appG_ok (by simp; omega) (by decide)]
      simp only [Option.bind_some]
      rw [ih (j + 1) n _ (by omega) (by omega) (by simp; omega), List.append_assoc]
      rfl
    · rw [if_neg e, if_neg (by simpa using e), ih (j + 1) n _ (by omega) (by omega) (by omega)]
theorem tt_l8 {kf : List api_Event → Option Bool} {l : List api_Event} (hl : l.length ≤ 1000) (t : Int) : ∀ (d j n : Nat) (out : List api_Event), j + d = l.length → d < n → out.length ≤ j →
    leadlinelaw17_TraceThreads_l8 1001 kf l t n out (j : Int) = kf (out ++ (l.drop j).filter fun x => decide (x.T = t)) := by
  intro d
  induction d with
  | zero =>
    intro j n out hj hn _
    obtain ⟨n, rfl⟩ : ∃ m, n = m + 1 := ⟨n - 1, by omega⟩
    rw [leadlinelaw17_TraceThreads_l8, if_neg (by omega), List.drop_of_length_le (by omega)]
    simp
  | succ d ih =>
    intro j n out hj hn ho
    obtain ⟨n, rfl⟩ : ∃ m, n = m + 1 := ⟨n - 1, by omega⟩
    have h1 : j < l.length := by omega
    rw [leadlinelaw17_TraceThreads_l8, if_pos (by omega), getI_at rfl h1]
    simp only [Option.bind_some, leadlinelaw17_TraceThreads_j9]
    rw [wsucc (j := j) h1 (by omega), List.drop_eq_getElem_cons h1, List.filter_cons]
    by_cases e : l[j].T = t
    · rw [if_pos e, if_pos (by simpa using e), appG_ok (by simp; omega) (by decide)]
      simp only [Option.bind_some]
      rw [ih (j + 1) n _ (by omega) (by omega) (by simp; omega), List.append_assoc]
      rfl
    · rw [if_neg e, if_neg (by simpa using e), ih (j + 1) n _ (by omega) (by omega) (by omega)]
theorem tt_l2 {l f : List api_Event} {s : Int} (hl : l.length ≤ 30) (ht : TP (D17 of3 s) l f) : ∀ (d j n : Nat), j + d = 8 → d < n →
    leadlinelaw17_TraceThreads_l2 1001 (leadlinelaw17_TraceThreads_j1 1001 l f) l f n (j : Int) = some true := by
  have hfl := ht.length
  intro d
  induction d with
  | zero =>
    intro j n hj hn
    obtain ⟨n, rfl⟩ : ∃ m, n = m + 1 := ⟨n - 1, by omega⟩
    rw [leadlinelaw17_TraceThreads_l2, if_neg (by omega), leadlinelaw17_TraceThreads_j1, sure_ok (by simp; omega), fixed17]
    rfl
  | succ d ih =>
    intro j n hj hn
    obtain ⟨n, rfl⟩ : ∃ m, n = m + 1 := ⟨n - 1, by omega⟩
    have e5 := fun kf => tt_l5 (kf := kf) (l := l) (by omega) (j : Int) l.length 0 1001 [] (by omega) (by omega) (by simp)
    have e8 := fun kf => tt_l8 (kf := kf) (l := f) (by omega) (j : Int) f.length 0 1001 [] (by omega) (by omega) (by simp)
    rw [leadlinelaw17_TraceThreads_l2, if_pos (by omega), show (0 : Int) = ((0 : Nat) : Int) from rfl, e5, leadlinelaw17_TraceThreads_j4, show (0 : Int) = ((0 : Nat) : Int) from rfl, e8, leadlinelaw17_TraceThreads_j7]
    simp only [List.drop_zero, List.nil_append]
    have h2 : (l.filter fun x => decide (x.T = (j : Int))) = f.filter fun x => decide (x.T = (j : Int)) := ht.thread (D17_thread of3 s) (j : Int)
    have h3 : (l.filter fun x => decide (x.T = (j : Int))).length ≤ 30 := Nat.le_trans (List.length_filter_le _ _) hl
    rw [Equal17 (by omega) (by omega)]
    simp only [Option.bind_some]
    rw [sure_ok (by simp [h2])]
    simp only [Option.bind_some, leadlinelaw17_TraceThreads_j3]
    rw [wsucc (j := j) (n := 8) (by omega) (by decide)]
    exact ih (j + 1) n (by omega) (by omega)
theorem TraceThreads_eq (p1 : List api_Event) (p6 : Int) : leadlinelaw17_TraceThreads 1001 p1 p6 = some true := by
  unfold leadlinelaw17_TraceThreads
  rw [threads_eq (by decide) p1]
  simp only [Option.bind_some]
  have hk := threads_okT p1
  have hl := threads_len p1
  generalize (p1.take 30).map low = l at hk hl
  have e3 : ([0, 0, 1] : List Int) = of3 := rfl
  obtain ⟨f, f1, f2⟩ := FormX (p := l) (by omega) hk of3 p6
  rw [e3, f1]
  simp only [Option.bind_some]
  rw [show (0 : Int) = ((0 : Nat) : Int) from rfl]
  exact tt_l2 hl f2.tp 8 0 1001 (by decide) (by decide)
end
end Go.MD.ET
