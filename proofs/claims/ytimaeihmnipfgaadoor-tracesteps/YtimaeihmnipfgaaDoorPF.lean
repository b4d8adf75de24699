/- Right and Show of the layer of events. No condition: plain lemmas. -/
import Derived.Test.YtimaeihmnipfgaaDoorPE
namespace Go.MD.ET
open Go Go.MD

theorem one_dig : ∀ i : Fin 10, bytesStr ([(IntK.mk (IntKind.u8.wrap (IntKind.i64.wrap (48 + (i.val : Int)))))] : List (IntK .u8)) = [UInt8.ofNat (48 + i.val)] := by decide +kernel
theorem Text_dig (n : Nat) {u : Nat} (h : u < 10) : leadlineref01_Text (n + 1) (u : Int) = some (Lib.decDigits u) := by
  rw [leadlineref01_Text, if_pos (by simp; omega), Lib.decDigits_one h]
  exact congrArg some (one_dig ⟨u, h⟩)
theorem tdiv10 (u : Nat) : (u : Int).tdiv 10 = ((u / 10 : Nat) : Int) := by rw [Int.tdiv_eq_ediv_of_nonneg (by omega)]; omega
theorem tmod10 (u : Nat) : (u : Int).tmod 10 = ((u % 10 : Nat) : Int) := by rw [Int.tmod_eq_emod_of_nonneg (by omega)]; omega
theorem Text_pos : ∀ (d u n : Nat), u < 10 ^ (d + 1) → u ≤ 9223372036854775808 → d ≤ n → u ≤ 9223372036854775807 → leadlineref01_Text (n + 1) (u : Int) = some (Lib.decDigits u) := by
  intro d
  induction d with
  | zero => intro u n h _ _ _; exact Text_dig n (by simpa using h)
  | succ d ih =>
    intro u n h hu hn hm
    by_cases h9 : u < 10
    · exact Text_dig n h9
    · obtain ⟨n, rfl⟩ : ∃ m, n = m + 1 := ⟨n - 1, by omega⟩
      rw [leadlineref01_Text, if_neg (by simp; omega), if_pos (by omega), tdiv10, tmod10, w64 (by omega) (by omega)]
      rw [ih (u / 10) n (by rw [Nat.pow_succ] at h; omega) (by omega) (by omega) (by omega), Text_dig n (by omega)]
      simp only [Option.bind_some]
      have l1 := decDigits_len (u := u / 10) (by omega)
      have l2 := decDigits_len (u := u % 10) (by omega)
      rw [catG_ok (by omega)]
      simp only [Option.bind_some]
      rw [Lib.decDigits_one (i := u % 10) (by omega)]
      conv => rhs; rw [Lib.decDigits, dif_neg h9]
theorem Text_neg : ∀ (d u n : Nat), 1 ≤ u → u < 10 ^ (d + 1) → u ≤ 9223372036854775808 → d ≤ n → leadlineref01_Text (n + 2) (-(u : Int)) = some (45 :: Lib.decDigits u) := by
  intro d
  induction d with
  | zero =>
    intro u n h1 h _ _
    have h9 : u < 10 := by simpa using h
    rw [leadlineref01_Text, if_neg (by simp; omega), if_neg (by omega), Int.neg_tdiv, Int.neg_tmod, tdiv10, tmod10]
    rw [if_pos (by rw [w64 (by omega) (by omega)]; omega), w64 (by omega) (by omega), show (0 - -((u % 10 : Nat) : Int)) = ((u : Nat) : Int) by omega, Text_dig n h9]
    simp only [Option.bind_some]
    have l1 := decDigits_len (u := u) (by omega)
    rw [catG_ok (by simp; omega)]
    rfl
  | succ d ih =>
    intro u n h1 h hu hn
    by_cases h9 : u < 10
    · rw [leadlineref01_Text, if_neg (by simp; omega), if_neg (by omega), Int.neg_tdiv, Int.neg_tmod, tdiv10, tmod10]
      rw [if_pos (by rw [w64 (by omega) (by omega)]; omega), w64 (by omega) (by omega), show (0 - -((u % 10 : Nat) : Int)) = ((u : Nat) : Int) by omega, Text_dig n h9]
      simp only [Option.bind_some]
      have l1 := decDigits_len (u := u) (by omega)
      rw [catG_ok (by simp; omega)]
      rfl
    · obtain ⟨n, rfl⟩ : ∃ m, n = m + 1 := ⟨n - 1, by omega⟩
      rw [leadlineref01_Text, if_neg (by simp; omega), if_neg (by omega), Int.neg_tdiv, Int.neg_tmod, tdiv10, tmod10]
      rw [w64 (n := -((u / 10 : Nat) : Int)) (by omega) (by omega), w64 (by omega) (by omega), if_neg (by omega), show (0 - -((u % 10 : Nat) : Int)) = ((u % 10 : Nat) : Int) by omega]
      rw [ih (u / 10) n (by omega) (by rw [Nat.pow_succ] at h; omega) (by omega) (by omega), Text_dig (n + 1) (by omega)]
      simp only [Option.bind_some]
      have l1 := decDigits_len (u := u / 10) (by omega)
      have l2 := decDigits_len (u := u % 10) (by omega)
      rw [catG_ok (by simp; omega)]
      simp only [Option.bind_some]
      rw [Lib.decDigits_one (i := u % 10) (by omega)]
      conv => rhs; rw [Lib.decDigits, dif_neg h9]
      rfl
theorem Text_eq {N : Nat} (hN : 30 ≤ N) {n : Int} (h : InR n) : leadlineref01_Text N n = some (Lib.itoa n) := by
  obtain ⟨N, rfl⟩ : ∃ m, N = m + 2 := ⟨N - 2, by omega⟩
  obtain ⟨h1, h2⟩ := h
  have p19 : (10 : Nat) ^ (18 + 1) = 10000000000000000000 := by decide
  unfold Lib.itoa
  by_cases h : n < 0
  · rw [if_pos h]
    have := Text_neg 18 n.natAbs N (by omega) (by rw [p19]; omega) (by omega) (by omega)
    rwa [show -(n.natAbs : Int) = n by omega] at this
  · rw [if_neg h]
    have := Text_pos 18 n.toNat (N + 1) (by rw [p19]; omega) (by omega) (by omega) (by omega)
    rwa [show (n.toNat : Int) = n by omega] at this

structure okE (v : api_Event) : Prop where
  k : InR v.Kind
  t : InR v.T
  a : InR v.A
  n : InR v.N
  m : InR v.M

/-- which of a, n, m an event of kind k bears -/
def bears (k : Int) (j : Nat) : Bool :=
  if j = 0 then decide (k = 1 ∨ k = 2 ∨ k = 3 ∨ k = 4 ∨ k = 5 ∨ k = 8 ∨ k = 9 ∨ k = 10 ∨ k = 11 ∨ k = 12 ∨ k = 13 ∨ k = 16)
  else if j = 1 then decide (k = 1 ∨ k = 2 ∨ k = 3 ∨ k = 8 ∨ k = 9 ∨ k = 12 ∨ k = 15)
  else decide (k = 8)
def nameOf (k : Int) : Str :=
  if k = 1 then [108, 111, 97, 100] else if k = 2 then [111, 119, 110] else if k = 3 then [115, 116, 111, 114, 101] else if k = 4 then [102, 108, 117, 115, 104]
  else if k = 5 then [111, 112, 116] else if k = 6 then [115, 102, 101, 110, 99, 101] else if k = 7 then [109, 102, 101, 110, 99, 101] else if k = 8 then [99, 97, 115]
  else if k = 9 then [102, 97, 105, 108] else if k = 10 then [116, 97, 107, 101] else if k = 11 then [103, 105, 118, 101] else if k = 12 then [99, 111, 109, 101]
  else if k = 13 then [111, 117, 116] else if k = 14 then [102, 101, 110, 99, 101] else if k = 15 then [99, 114, 97, 115, 104] else if k = 16 then [102, 97, 117, 108, 116] else []
def rightS (v : api_Event) : Bool :=
  decide (1 ≤ v.Kind ∧ v.Kind ≤ 16 ∧ 0 ≤ v.T ∧ 0 ≤ v.A) && (bears v.Kind 0 || decide (v.A = 0)) && (bears v.Kind 1 || decide (v.N = 0)) && (bears v.Kind 2 || decide (v.M = 0)) && (decide (v.Kind ≠ 15) || decide (v.T = 0))

theorem kinds_at : ∀ k : Fin 17, (do let r ← event_kinds 0; getI r.l (k.val : Int)) = some (event_kind.mk (nameOf k.val) (bears k.val 0) (bears k.val 1) (bears k.val 2)) := by decide +kernel
theorem kinds_eq (N : Nat) {k : Int} (h1 : 1 ≤ k) (h2 : k ≤ 16) {α : Type} (f : event_kind → Option α) : ((event_kinds N).bind fun r => (getI r.l k).bind f) = f (event_kind.mk (nameOf k) (bears k 0) (bears k 1) (bears k 2)) := by
  have h := kinds_at ⟨k.toNat, by omega⟩
  rw [show ((⟨k.toNat, by omega⟩ : Fin 17).val : Int) = k by simp; omega] at h
  have h3 : (getI (⟨_, rfl⟩ : Arr 17 event_kind).l k) = _ := h
  show (getI _ k).bind f = _
  rw [h3]; rfl
theorem event_Right_eq (N : Nat) (v : api_Event) : event_Right N v = some (rightS v) := by
  obtain ⟨k, t, a, n, m⟩ := v
  unfold event_Right rightS event_known
  simp only [Option.bind_some]
  by_cases h : 1 ≤ k ∧ k ≤ 16 ∧ 0 ≤ t ∧ 0 ≤ a
  · obtain ⟨h1, h2, h3, h4⟩ := h
    rw [if_neg (by simp; omega), kinds_eq N h1 h2]
    simp [event_Right_j1, h1, h2, h3, h4]
  · rw [if_pos (by simp; omega)]
    simp [h]

theorem has_l2_eq (N : Nat) (kf : Option Bool) (xs : Str) (c : Int) (hl : xs.length ≤ 1000) : ∀ (d j n : Nat), j + d = xs.length → d < n →
    leadlineref15_has_l2 N kf xs c n (j : Int) = if ((xs.drop j).any fun b => decide ((b.toNat : Int) = c)) = true then some true else kf := by
  intro d
  induction d with
  | zero =>
    intro j n hj hn
    obtain ⟨n, rfl⟩ : ∃ m, n = m + 1 := ⟨n - 1, by omega⟩
    rw [leadlineref15_has_l2, if_neg (by omega), List.drop_of_length_le (by omega)]; rfl
  | succ d ih =>
    intro j n hj hn
    obtain ⟨n, rfl⟩ : ∃ m, n = m + 1 := ⟨n - 1, by omega⟩
    have h1 : j < xs.length := by omega
    rw [leadlineref15_has_l2, if_pos (by omega)]
    unfold byteI
    rw [getI_at rfl h1]
    simp only [Option.map_some, Option.bind_some]
    rw [List.drop_eq_getElem_cons h1, List.any_cons]
    by_cases e : ((xs[j].toNat : Int) = c)
    · simp only [e, if_true, decide_true, Bool.true_or]
    · rw [if_neg e, wsucc h1 (by omega), ih (j + 1) n (by omega) (by omega)]
      simp only [e, decide_false, Bool.false_or]
def hasT (k : Int) (j : Int) : Option Bool :=
  (getI ([[], [97, 110], [97, 110], [97, 110], [97], [97], [], [], [97, 110, 109], [97, 110], [97], [97], [97, 110], [97], [], [110], [97]] : List Str) k).bind fun x6 =>
  (byteI [97, 110, 109] j).bind fun x11 => some (x6.any fun b => decide ((b.toNat : Int) = x11))
theorem hasT_at : ∀ k : Fin 17, ∀ j : Fin 3, 1 ≤ k.val → hasT (k.val : Int) (j.val : Int) = some (bears k.val j.val) := by decide +kernel
theorem tabs_short : ∀ x ∈ ([[], [97, 110], [97, 110], [97, 110], [97], [97], [], [], [97, 110, 109], [97, 110], [97], [97], [97, 110], [97], [], [110], [97]] : List Str), x.length ≤ 3 := by decide
theorem has_eq {N : Nat} (hN : 30 ≤ N) {k : Int} (h1 : 1 ≤ k) (h2 : k ≤ 16) {j : Nat} (hj : j < 3) : leadlineref15_has N k (j : Int) = some (bears k j) := by
  have h := hasT_at ⟨k.toNat, by omega⟩ ⟨j, hj⟩ (by show 1 ≤ k.toNat; omega)
  rw [show ((⟨k.toNat, by omega⟩ : Fin 17).val : Int) = k by simp; omega] at h
  obtain ⟨x, e1, e2⟩ := bind_some h
  obtain ⟨y, e3, e4⟩ := bind_some e2
  have hx := tabs_short x (by
    obtain ⟨_, e⟩ := getI_some e1
    exact List.mem_of_getElem? e)
  unfold leadlineref15_has
  rw [e1]
  simp only [Option.bind_some]
  rw [e3]
  simp only [Option.bind_some]
  have := has_l2_eq N leadlineref15_has_j1 x y (by omega) x.length 0 N (by omega) (by omega)
  rw [show (0 : Int) = ((0 : Nat) : Int) from rfl, this, ← e4, List.drop_zero]
  unfold leadlineref15_has_j1
  split <;> simp_all
theorem ref_Right_eq {N : Nat} (hN : 30 ≤ N) (v : api_Event) : leadlineref15_Right N v = some (rightS v) := by
  obtain ⟨k, t, a, n, m⟩ := v
  unfold leadlineref15_Right rightS
  by_cases h : (1 ≤ k ∧ k ≤ 16 ∧ 0 ≤ t ∧ 0 ≤ a) ∧ (k ≠ 15 ∨ t = 0)
  · obtain ⟨⟨h1, h2, h3, h4⟩, h5⟩ := h
    have q0 : leadlineref15_has N k 0 = _ := has_eq hN h1 h2 (j := 0) (by decide)
    have q1 : leadlineref15_has N k 1 = _ := has_eq hN h1 h2 (j := 1) (by decide)
    have q2 : leadlineref15_has N k 2 = _ := has_eq hN h1 h2 (j := 2) (by decide)
    rw [if_neg (by simp; omega), q0]
    simp only [Option.bind_some, q1, q2]
    have h5' : (decide (k ≠ 15) || decide (t = 0)) = true := by simpa using h5
    rw [h5']
    simp only [h1, h2, h3, h4, Option.bind_some, and_self, decide_true, Bool.true_and, Bool.and_true]
    cases (bears k 0 || decide (a = 0)) <;> cases (bears k 1 || decide (n = 0)) <;> simp
  · rw [if_pos (by simp; omega)]
    by_cases h6 : (1 ≤ k ∧ k ≤ 16 ∧ 0 ≤ t ∧ 0 ≤ a)
    · have h5' : (decide (k ≠ 15) || decide (t = 0)) = false := by simp; omega
      rw [h5', Bool.and_false]
    · simp [h6]
end Go.MD.ET
