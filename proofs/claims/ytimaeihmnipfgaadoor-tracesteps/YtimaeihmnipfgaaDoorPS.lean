/- Levels of what depends, and the rows of a level. No condition: plain lemmas. -/
import Derived.Test.YtimaeihmnipfgaaDoorPD
namespace Go.MD
section
variable (dep : Nat → Nat → Bool)
/-- the most of what k depends on, of the first j, and one more -/
def mxl (L : List Nat) (k : Nat) : Nat → Nat
  | 0 => 0
  | j + 1 => if dep j k = true then max (mxl L k j) (L.getD j 0 + 1) else mxl L k j
def levs : Nat → List Nat
  | 0 => []
  | k + 1 => levs k ++ [mxl dep (levs k) k k]
def lev (k : Nat) : Nat := (levs dep (k + 1)).getD k 0
def nl : Nat → Nat
  | 0 => 0
  | k + 1 => max (nl k) (lev dep k + 1)
def rowN (n v : Nat) : List Nat := (List.range n).filter fun k => decide (lev dep k = v)
def cntN (n r : Nat) : Nat := (List.range n).countP fun k => decide (r ≤ lev dep k)
variable {dep}
theorem levs_len : ∀ n, (levs dep n).length = n
  | 0 => rfl
  | n + 1 => by simp [levs, levs_len n]
theorem lev_eq (k : Nat) : lev dep k = mxl dep (levs dep k) k k := by
  show (levs dep k ++ [mxl dep (levs dep k) k k]).getD k 0 = _
  rw [List.getD_eq_getElem?_getD, List.getElem?_append_right (by rw [levs_len]; exact Nat.le_refl _), levs_len, Nat.sub_self]
  rfl
theorem levs_get {k : Nat} : ∀ {n : Nat}, k < n → (levs dep n)[k]? = some (lev dep k)
  | 0, h => by omega
  | n + 1, h => by
    rcases Nat.lt_or_ge k n with q | q
    · have ih := levs_get q
      show (levs dep n ++ [mxl dep (levs dep n) n n])[k]? = _
      rw [List.getElem?_append_left (by rw [levs_len]; exact q), ih]
    · have : k = n := by omega
      subst this
      rw [lev_eq]
      show (levs dep k ++ [mxl dep (levs dep k) k k])[k]? = _
      rw [List.getElem?_append_right (by rw [levs_len]; exact Nat.le_refl _), levs_len, Nat.sub_self]
      rfl
theorem levs_getD {k n : Nat} (h : k < n) : (levs dep n).getD k 0 = lev dep k := by rw [List.getD_eq_getElem?_getD, levs_get h]; rfl
theorem mxl_ge {L : List Nat} {k i : Nat} (hd : dep i k = true) : ∀ {j : Nat}, i < j → L.getD i 0 + 1 ≤ mxl dep L k j
  | 0, h => by omega
  | j + 1, h => by
    unfold mxl
    rcases Nat.lt_or_ge i j with q | q
    · have := mxl_ge (L := L) hd q
      split <;> omega
    · have : i = j := by omega
      subst this
      rw [if_pos hd]; omega
theorem mxl_some {L : List Nat} {k : Nat} : ∀ {j : Nat}, mxl dep L k j = 0 ∨ ∃ i, i < j ∧ dep i k = true ∧ mxl dep L k j = L.getD i 0 + 1
  | 0 => .inl rfl
  | j + 1 => by
    unfold mxl
    by_cases hd : dep j k = true
    · rw [if_pos hd]
      right
      rcases Nat.le_total (mxl dep L k j) (L.getD j 0 + 1) with q | q
      · exact ⟨j, Nat.lt_succ_self _, hd, Nat.max_eq_right q⟩
      · rcases mxl_some (L := L) (k := k) (j := j) with h | ⟨i, h1, h2, h3⟩
        · omega
        · exact ⟨i, by omega, h2, by rw [Nat.max_eq_left q]; exact h3⟩
    · rw [if_neg hd]
      rcases mxl_some (L := L) (k := k) (j := j) with h | ⟨i, h1, h2, h3⟩
      · exact .inl h
      · exact .inr ⟨i, by omega, h2, h3⟩
theorem lev_gt {i k : Nat} (h : i < k) (hd : dep i k = true) : lev dep i < lev dep k := by
  have := mxl_ge (L := levs dep k) hd h
  rw [levs_getD h, ← lev_eq] at this
  omega
theorem lev_some (k : Nat) : lev dep k = 0 ∨ ∃ i, i < k ∧ dep i k = true ∧ lev dep k = lev dep i + 1 := by
  rw [lev_eq]
  rcases mxl_some (dep := dep) (L := levs dep k) (k := k) (j := k) with h | ⟨i, h1, h2, h3⟩
  · exact .inl h
  · exact .inr ⟨i, h1, h2, by rw [h3, levs_getD h1]⟩
theorem lev_le : ∀ (n k : Nat), k ≤ n → lev dep k ≤ k
  | 0, k, h => by
    rcases lev_some (dep := dep) k with e | ⟨i, h1, _, _⟩ <;> omega
  | n + 1, k, h => by
    rcases lev_some (dep := dep) k with e | ⟨i, h1, h2, h3⟩
    · omega
    · have := lev_le n i (by omega)
      omega
theorem lev_nl {i : Nat} : ∀ {k : Nat}, i < k → lev dep i < nl dep k
  | 0, h => by omega
  | k + 1, h => by
    unfold nl
    rcases Nat.lt_or_ge i k with q | q
    · have := lev_nl q; omega
    · have : i = k := by omega
      subst this; omega
theorem lev_le_nl (k : Nat) : lev dep k ≤ nl dep k := by
  rcases lev_some (dep := dep) k with e | ⟨i, h1, _, h3⟩
  · omega
  · have := lev_nl (dep := dep) h1; omega
theorem nl_some : ∀ n : Nat, nl dep n = 0 ∨ ∃ k, k < n ∧ nl dep n = lev dep k + 1
  | 0 => .inl rfl
  | n + 1 => by
    unfold nl
    right
    rcases Nat.le_total (nl dep n) (lev dep n + 1) with q | q
    · exact ⟨n, by omega, Nat.max_eq_right q⟩
    · rcases nl_some n with h | ⟨k, h1, h2⟩
      · omega
      · exact ⟨k, by omega, by omega⟩
theorem nl_le (n : Nat) : nl dep n ≤ n := by
  rcases nl_some (dep := dep) n with h | ⟨k, h1, h2⟩
  · omega
  · have := lev_le (dep := dep) k k (Nat.le_refl _); omega
theorem mem_row {n v k : Nat} : k ∈ rowN dep n v ↔ k < n ∧ lev dep k = v := by
  unfold rowN; rw [List.mem_filter, List.mem_range]; simp
theorem row_succ (k v : Nat) : rowN dep (k + 1) v = rowN dep k v ++ if lev dep k = v then [k] else [] := by
  unfold rowN
  rw [List.range_succ, List.filter_append]
  congr 1
  by_cases h : lev dep k = v <;> simp [h]
theorem row_nl {k v : Nat} (h : nl dep k ≤ v) : rowN dep k v = [] := by
  unfold rowN
  rw [List.filter_eq_nil_iff]
  intro i hi
  have := lev_nl (dep := dep) (List.mem_range.1 hi)
  simp; omega
theorem row_sorted (n v : Nat) : (rowN dep n v).Pairwise (· < ·) := List.Pairwise.filter _ List.pairwise_lt_range
theorem row_len (n v : Nat) : (rowN dep n v).length ≤ n := by
  unfold rowN
  exact Nat.le_trans (List.length_filter_le _ _) (by simp)
theorem countP_split {f g h : Nat → Bool} (e : ∀ x, (f x = true ↔ g x = true ∨ h x = true) ∧ ¬ (g x = true ∧ h x = true)) : ∀ l : List Nat, l.countP f = l.countP g + l.countP h
  | [] => rfl
  | x :: l => by
    rw [List.countP_cons, List.countP_cons, List.countP_cons, countP_split e l]
    have e' : (if f x = true then 1 else 0) = (if g x = true then 1 else 0) + (if h x = true then 1 else 0) := by
      have := e x
      cases hf : f x <;> cases hg : g x <;> cases hh : h x <;> rw [hf, hg, hh] at this <;> simp at this ⊢
    omega
theorem cnt_step (n r : Nat) : cntN dep n r = (rowN dep n r).length + cntN dep n (r + 1) := by
  unfold cntN rowN
  rw [← List.countP_eq_length_filter]
  refine countP_split (fun x => ?_) _
  simp only [decide_eq_true_eq]
  omega
theorem cnt_zero (n : Nat) : cntN dep n 0 = n := by
  unfold cntN
  rw [List.countP_eq_length.2 (by intro a _; simp)]
  simp
theorem cnt_nl (n : Nat) : cntN dep n (nl dep n) = 0 := by
  unfold cntN
  rw [List.countP_eq_zero]
  intro k hk
  have := lev_nl (dep := dep) (List.mem_range.1 hk)
  simp; omega
theorem cnt_pos {n r : Nat} (h : r < nl dep n) : 0 < cntN dep n r := by
  rcases nl_some (dep := dep) n with e | ⟨k, h1, h2⟩
  · omega
  · unfold cntN
    rw [List.countP_pos_iff]
    exact ⟨k, List.mem_range.2 h1, by simp; omega⟩
theorem cnt_le (n r : Nat) : cntN dep n r ≤ n := by
  unfold cntN
  exact Nat.le_trans List.countP_le_length (by simp)
end
end Go.MD
namespace Go.MD.ET
open Go Go.MD
theorem natsI_len (l : List Nat) : (natsI l).length = l.length := by simp [natsI]
theorem natsI_get {l : List Nat} {i : Nat} {x : Nat} (h : l[i]? = some x) : getI (natsI l) (i : Int) = some (x : Int) := by
  rw [getI_nat]; simp [natsI, h]
theorem natsI_app (a b : List Nat) : natsI (a ++ b) = natsI a ++ natsI b := by simp [natsI]
section
variable (dep : Nat → Nat → Bool)
def rowsI (n m : Nat) : List (List Int) := (List.range m).map fun v => natsI (rowN dep n v)
/-- the levels of the first k, then c, then nothing -/
def arr (n k c : Nat) : List Int := natsI (levs dep k ++ c :: List.replicate (n - k - 1) 0)
variable {dep}
theorem rowsI_len (n m : Nat) : (rowsI dep n m).length = m := by simp [rowsI]
theorem rowsI_get {n m v : Nat} (h : v < m) : getI (rowsI dep n m) (v : Int) = some (natsI (rowN dep n v)) := by
  rw [getI_nat]; simp [rowsI, h]
theorem arr_k (n k c : Nat) : getI (arr dep n k c) (k : Int) = some (c : Int) := natsI_get (by
  rw [List.getElem?_append_right (by rw [levs_len]; exact Nat.le_refl _), levs_len, Nat.sub_self]; rfl)
theorem arr_i {n k c i : Nat} (h : i < k) : getI (arr dep n k c) (i : Int) = some (lev dep i : Int) := natsI_get (by
  rw [List.getElem?_append_left (by rw [levs_len]; exact h), levs_get h])
theorem arr_set (n k c c' : Nat) : setI (arr dep n k c) (k : Int) (c' : Int) = some (arr dep n k c') := by
  unfold setI arr
  rw [natsI_len, if_pos (by simp [levs_len]), Int.toNat_natCast]
  congr 1
  unfold natsI
  rw [← List.map_set, List.set_append_right _ _ (by rw [levs_len]; exact Nat.le_refl _), levs_len, Nat.sub_self]
  rfl
theorem arr_zero {n k : Nat} (h : k < n) : natsI (levs dep k ++ List.replicate (n - k) 0) = arr dep n k 0 := by
  unfold arr
  rw [show n - k = (n - k - 1) + 1 by omega, List.replicate_succ]
  rfl
theorem arr_next (n k : Nat) : arr dep n k (lev dep k) = natsI (levs dep (k + 1) ++ List.replicate (n - (k + 1)) 0) := by
  unfold arr
  rw [lev_eq, show n - (k + 1) = n - k - 1 by omega]
  conv => rhs; unfold levs
  rw [List.append_assoc]
  rfl
theorem maxN (a b : Nat) : max (a : Int) (b : Int) = ((max a b : Nat) : Int) := by omega
theorem rows_pad (k : Nat) : (if lev dep k = nl dep k then rowsI dep k (nl dep k) ++ [[]] else rowsI dep k (nl dep k)) = rowsI dep k (nl dep (k + 1)) := by
  have h := lev_le_nl (dep := dep) k
  by_cases e : lev dep k = nl dep k
  · rw [if_pos e]
    have : nl dep (k + 1) = nl dep k + 1 := by
      show max (nl dep k) (lev dep k + 1) = _
      omega
    rw [this]
    unfold rowsI
    rw [List.range_succ, List.map_append, List.map_cons, List.map_nil, row_nl (Nat.le_refl _)]
    rfl
  · rw [if_neg e]
    have : nl dep (k + 1) = nl dep k := by
      show max (nl dep k) (lev dep k + 1) = _
      omega
    rw [this]
theorem rows_set (k : Nat) : setI (rowsI dep k (nl dep (k + 1))) (lev dep k : Int) (natsI (rowN dep k (lev dep k)) ++ [(k : Int)]) = some (rowsI dep (k + 1) (nl dep (k + 1))) := by
  have hlt : lev dep k < nl dep (k + 1) := lev_nl (Nat.lt_succ_self k)
  unfold setI
  rw [rowsI_len, if_pos ⟨by omega, by simpa using hlt⟩, Int.toNat_natCast]
  congr 1
  apply List.ext_getElem?
  intro v
  rw [List.getElem?_set, rowsI_len]
  unfold rowsI
  by_cases hv : v < nl dep (k + 1)
  · rw [List.getElem?_map, List.getElem?_map, List.getElem?_range hv]
    simp only [Option.map_some]
    rw [row_succ]
    by_cases e : lev dep k = v
    · subst e
      rw [if_pos rfl, if_pos hlt, if_pos rfl, natsI_app]; rfl
    · rw [if_neg e, if_neg e, List.append_nil]
  · rw [if_neg (by omega), List.getElem?_eq_none (by simp; omega), List.getElem?_eq_none (by simp; omega)]

variable {of : List Int} {s : Int} {l : List api_Event}
theorem st_l5 {N : Nat} (hN : 3 ≤ N) {kf : List Int → Option (List (List Int))} (hl : l.length ≤ 1000) {k : Nat} (hk : k < l.length) : ∀ (d i n : Nat), i + d = k → d < n →
    trace_Steps_l5 N kf l of s (k : Int) n (arr (dp of s l) l.length k (mxl (dp of s l) (levs (dp of s l) k) k i)) (i : Int) = kf (arr (dp of s l) l.length k (lev (dp of s l) k)) := by
  intro d
  induction d with
  | zero =>
    intro i n hi hn
    obtain ⟨n, rfl⟩ : ∃ m, n = m + 1 := ⟨n - 1, by omega⟩
    have : i = k := by omega
    subst this
    rw [trace_Steps_l5, if_neg (by omega), lev_eq]
  | succ d ih =>
    intro i n hi hn
    obtain ⟨n, rfl⟩ : ∃ m, n = m + 1 := ⟨n - 1, by omega⟩
    have h1 : i < l.length := by omega
    have hik : i < k := by omega
    rw [trace_Steps_l5, if_pos (by omega), getI_at rfl h1, getI_at rfl hk]
    simp only [Option.bind_some, Depend_eq hN]
    have ed : dependS l[i] l[k] of s = dp of s l i k := by unfold dp; rw [ev_at h1, ev_at hk]
    have hi' := ih (i + 1) n (by omega) (by omega)
    rw [mxl, levs_getD hik] at hi'
    rw [ed]
    by_cases hd : dp of s l i k = true
    · have hle := lev_le (dep := dp of s l) i i (Nat.le_refl _)
      rw [if_pos hd] at hi'
      rw [if_pos hd, arr_k, arr_i hik]
      simp only [Option.bind_some]
      rw [wsucc (j := lev (dp of s l) i) (n := 1001) (by omega) (by decide), maxN, arr_set]
      simp only [Option.bind_some]
      rw [trace_Steps_j6, wsucc hik (by omega)]
      exact hi'
    · rw [if_neg hd] at hi'
      rw [if_neg hd, trace_Steps_j6, wsucc hik (by omega)]
      exact hi'
theorem st_l2 {N : Nat} (hN : 1000 < N) (hl : l.length ≤ 1000) : ∀ (d k n : Nat), k + d = l.length → d < n →
    trace_Steps_l2 N trace_Steps_j1 l of s n (rowsI (dp of s l) k (nl (dp of s l) k)) (natsI (levs (dp of s l) k ++ List.replicate (l.length - k) 0)) (k : Int) = some (rowsI (dp of s l) l.length (nl (dp of s l) l.length)) := by
  intro d
  induction d with
  | zero =>
    intro k n hk hn
    obtain ⟨n, rfl⟩ : ∃ m, n = m + 1 := ⟨n - 1, by omega⟩
    have : k = l.length := by omega
    subst this
    rw [trace_Steps_l2, if_neg (by omega)]
    rfl
  | succ d ih =>
    intro k n hk hn
    obtain ⟨n, rfl⟩ : ∃ m, n = m + 1 := ⟨n - 1, by omega⟩
    have h1 : k < l.length := by omega
    have hle := lev_le (dep := dp of s l) k k (Nat.le_refl _)
    have hnl := nl_le (dep := dp of s l) k
    have e5 := fun kf => st_l5 (N := N) (of := of) (s := s) (kf := kf) (by omega) hl h1 k 0 N (by omega) (by omega)
    rw [trace_Steps_l2, if_pos (by omega), arr_zero h1, show (0 : Int) = ((0 : Nat) : Int) from rfl]
    have e5' := e5 (trace_Steps_j4 (trace_Steps_j3 (trace_Steps_l2 N trace_Steps_j1 l of s n) (k : Int)) (rowsI (dp of s l) k (nl (dp of s l) k)) (k : Int))
    rw [mxl] at e5'
    rw [e5', trace_Steps_j4, arr_k]
    simp only [Option.bind_some]
    have hlt : lev (dp of s l) k < nl (dp of s l) (k + 1) := lev_nl (Nat.lt_succ_self k)
    have go : trace_Steps_j7 (trace_Steps_j3 (trace_Steps_l2 N trace_Steps_j1 l of s n) (k : Int)) (arr (dp of s l) l.length k (lev (dp of s l) k)) (lev (dp of s l) k : Int) (k : Int) (rowsI (dp of s l) k (nl (dp of s l) (k + 1))) = some (rowsI (dp of s l) l.length (nl (dp of s l) l.length)) := by
      have hrl := row_len (dep := dp of s l) k (lev (dp of s l) k)
      rw [trace_Steps_j7, rowsI_get hlt]
      simp only [Option.bind_some]
      rw [appG_ok (by rw [natsI_len]; simp; omega) (by decide)]
      simp only [Option.bind_some]
      rw [rows_set]
      simp only [Option.bind_some, trace_Steps_j3]
      rw [wsucc h1 (by omega), arr_next]
      exact ih (k + 1) n (by omega) (by omega)
    have hp := rows_pad (dep := dp of s l) k
    rw [rowsI_len]
    by_cases e : lev (dp of s l) k = nl (dp of s l) k
    · rw [if_pos e] at hp
      rw [if_pos (by omega), appG_ok (by rw [rowsI_len]; simp; omega) (by decide)]
      simp only [Option.bind_some]
      rw [hp]
      exact go
    · rw [if_neg e] at hp
      rw [if_neg (by omega), hp]
      exact go
theorem Steps_eq {N : Nat} (hN : 1000 < N) (hl : l.length ≤ 1000) (hk : okT l) (of : List Int) (s : Int) :
    trace_Steps N l of s = some (rowsI (dp of s l) l.length (nl (dp of s l) l.length)) := by
  obtain ⟨r, hr, _, hr2⟩ := ThrC (N := N) hl (by omega)
  unfold trace_Steps
  rw [hr]
  simp only [Option.bind_some]
  by_cases e : l = []
  · subst e
    have : r = 0 := by
      rcases Int.lt_or_le 0 r with h | h
      · exact absurd rfl (hr2.1 h).1
      · omega
    rw [if_pos this]; rfl
  · have : 0 < r := hr2.2 ⟨e, hk⟩
    rw [if_neg (by omega)]
    unfold mkL
    rw [if_pos ⟨by omega, by rw [Int.toNat_natCast]; omega, by rw [Int.toNat_natCast]; omega⟩]
    simp only [Option.bind_some, Int.toNat_natCast]
    have h0 : (List.replicate l.length (0 : Int)) = natsI (levs (dp of s l) 0 ++ List.replicate (l.length - 0) 0) := by simp [natsI, levs]
    rw [h0, show (0 : Int) = ((0 : Nat) : Int) from rfl]
    exact st_l2 hN hl l.length 0 N (by omega) (by omega)
theorem Steps_bad {N : Nat} (hN : 1000 < N) (hl : l.length ≤ 1000) (hk : ¬ okT l) (of : List Int) (s : Int) : trace_Steps N l of s = some [] := by
  obtain ⟨r, hr, h0, hr2⟩ := ThrC (N := N) hl (by omega)
  unfold trace_Steps
  rw [hr]
  simp only [Option.bind_some]
  have : ¬ 0 < r := fun h => hk (hr2.1 h).2
  rw [if_pos (by omega)]

/-! the document's Steps -/
def doneL (n : Nat) (f : Nat → Bool) : List Bool := (List.range n).map f
theorem done_get {n k : Nat} {f : Nat → Bool} (h : k < n) : getI (doneL n f) (k : Int) = some (f k) := by
  rw [getI_nat]; simp [doneL, h]
theorem done_set {n k : Nat} {f : Nat → Bool} (h : k < n) : setI (doneL n f) (k : Int) true = some (doneL n fun i => decide (i = k) || f i) := by
  unfold setI doneL
  rw [if_pos (by simp; omega), Int.toNat_natCast]
  congr 1
  apply List.ext_getElem?
  intro i
  rw [List.getElem?_set]
  by_cases hi : i < n
  · rw [List.getElem?_map, List.getElem?_map, List.getElem?_range hi]
    by_cases e : k = i
    · subst e; simp [hi]
    · rw [if_neg e]; simp [show ¬ i = k from fun h => e h.symm]
  · rw [if_neg (by omega), List.getElem?_eq_none (by simp; omega), List.getElem?_eq_none (by simp; omega)]
theorem rs_l9 {N : Nat} (hN : 3 ≤ N) {kf : Bool → Option (List (List Int))} {f : Nat → Bool} (hl : l.length ≤ 1000) {k : Nat} (hk : k < l.length) : ∀ (d i n : Nat) (b : Bool), i + d = k → d < n →
    ∃ c, leadlineref17_Steps_l9 N kf l of s (k : Int) (doneL l.length f) n b (i : Int) = kf c ∧ (c = true ↔ b = true ∧ ∀ j, i ≤ j → j < k → dp of s l j k = true → f j = true) := by
  intro d
  induction d with
  | zero =>
    intro i n b hi hn
    obtain ⟨n, rfl⟩ : ∃ m, n = m + 1 := ⟨n - 1, by omega⟩
    rw [leadlineref17_Steps_l9, if_neg (by omega)]
    exact ⟨b, rfl, fun h => ⟨h, fun j h1 h2 => by omega⟩, fun h => h.1⟩
  | succ d ih =>
    intro i n b hi hn
    obtain ⟨n, rfl⟩ : ∃ m, n = m + 1 := ⟨n - 1, by omega⟩
    have h1 : i < l.length := by omega
    have next : ∀ b' : Bool, (b' = true ↔ b = true ∧ (dp of s l i k = true → f i = true)) → ∃ c, leadlineref17_Steps_j10 (leadlineref17_Steps_l9 N kf l of s (k : Int) (doneL l.length f) n) (i : Int) b' = kf c ∧ (c = true ↔ b = true ∧ ∀ j, i ≤ j → j < k → dp of s l j k = true → f j = true) := by
      intro b' hb'
      rw [leadlineref17_Steps_j10, wsucc (n := k) (by omega) (by omega)]
      obtain ⟨c, e, h⟩ := ih (i + 1) n b' (by omega) (by omega)
      refine ⟨c, e, h.trans ⟨fun ⟨q1, q2⟩ => ⟨(hb'.1 q1).1, fun j r1 r2 r3 => ?_⟩, fun ⟨q1, q2⟩ => ⟨hb'.2 ⟨q1, fun r => q2 i (Nat.le_refl _) (by omega) r⟩, fun j r1 r2 r3 => q2 j (by omega) r2 r3⟩⟩⟩
      rcases Nat.eq_or_lt_of_le r1 with rfl | q
      · exact (hb'.1 q1).2 r3
      · exact q2 j q r2 r3
    rw [leadlineref17_Steps_l9, if_pos (by omega)]
    cases b with
    | false =>
      rw [if_neg (by decide)]
      exact next false ⟨fun h => (by cases h), fun h => (by cases h.1)⟩
    | true =>
      rw [if_pos rfl, done_get h1]
      simp only [Option.bind_some]
      cases hf : f i with
      | true =>
        obtain ⟨c, e, h⟩ := next true ⟨fun _ => ⟨rfl, fun _ => hf⟩, fun _ => rfl⟩
        rw [if_pos rfl]
        exact ⟨c, e, by simpa using h⟩
      | false =>
        rw [if_neg (by decide), getI_at rfl h1, getI_at rfl hk]
        simp only [Option.bind_some, ref_Depend_eq hN]
        have ed : dependS l[i] l[k] of s = dp of s l i k := by unfold dp; rw [ev_at h1, ev_at hk]
        rw [ed]
        obtain ⟨c, e, h⟩ := next (!dp of s l i k) ⟨fun h => ⟨rfl, fun h2 => by rw [h2] at h; cases h⟩, fun h => by
          cases hd : dp of s l i k with
          | false => rfl
          | true => have := h.2 hd; rw [hf] at this; cases this⟩
        exact ⟨c, e, by simpa using h⟩
/-- what is free in round r -/
theorem free_iff {r k : Nat} : (decide (lev dep k < r) = false ∧ ∀ j, j < k → dep j k = true → decide (lev dep j < r) = true) ↔ lev dep k = r := by
  constructor
  · rintro ⟨h1, h2⟩
    have h1' : r ≤ lev dep k := by simpa using h1
    rcases lev_some (dep := dep) k with e | ⟨i, q1, q2, q3⟩
    · omega
    · have := h2 i q1 q2
      simp at this
      omega
  · intro h
    refine ⟨by simp; omega, fun j q1 q2 => ?_⟩
    have := lev_gt (dep := dep) q1 q2
    simp; omega
theorem rs_l6 {N : Nat} (hN : 1000 < N) {kf : List Int → Option (List (List Int))} (hl : l.length ≤ 1000) (r : Nat) : ∀ (d k n : Nat), k + d = l.length → d < n →
    leadlineref17_Steps_l6 N kf l of s (doneL l.length fun i => decide (lev (dp of s l) i < r)) n (natsI (rowN (dp of s l) k r)) (k : Int) = kf (natsI (rowN (dp of s l) l.length r)) := by
  intro d
  induction d with
  | zero =>
    intro k n hk hn
    obtain ⟨n, rfl⟩ : ∃ m, n = m + 1 := ⟨n - 1, by omega⟩
    have : k = l.length := by omega
    subst this
    rw [leadlineref17_Steps_l6, if_neg (by omega)]
  | succ d ih =>
    intro k n hk hn
    obtain ⟨n, rfl⟩ : ∃ m, n = m + 1 := ⟨n - 1, by omega⟩
    have h1 : k < l.length := by omega
    rw [leadlineref17_Steps_l6, if_pos (by omega), done_get h1]
    simp only [Option.bind_some]
    obtain ⟨c, e, hc⟩ := rs_l9 (N := N) (of := of) (s := s) (f := fun i => decide (lev (dp of s l) i < r)) (by omega) (kf := leadlineref17_Steps_j8 (leadlineref17_Steps_j7 (leadlineref17_Steps_l6 N kf l of s (doneL l.length fun i => decide (lev (dp of s l) i < r)) n) (k : Int)) (natsI (rowN (dp of s l) k r)) (k : Int)) hl h1 k 0 N (!decide (lev (dp of s l) k < r)) (by omega) (by omega)
    have hc' : c = true ↔ lev (dp of s l) k = r := by
      rw [hc, ← free_iff]
      constructor
      · rintro ⟨q1, q2⟩
        exact ⟨by simpa using q1, fun j r1 r2 => q2 j (Nat.zero_le _) r1 r2⟩
      · rintro ⟨q1, q2⟩
        exact ⟨by rw [q1]; rfl, fun j _ r1 r2 => q2 j r1 r2⟩
    have hi := ih (k + 1) n (by omega) (by omega)
    rw [row_succ] at hi
    rw [show (0 : Int) = ((0 : Nat) : Int) from rfl, e, leadlineref17_Steps_j8]
    have hrl := row_len (dep := dp of s l) k r
    by_cases q : lev (dp of s l) k = r
    · rw [if_pos q, natsI_app] at hi
      rw [if_pos (hc'.2 q), appG_ok (by rw [natsI_len]; simp; omega) (by decide)]
      simp only [Option.bind_some]
      rw [leadlineref17_Steps_j7, wsucc h1 (by omega)]
      exact hi
    · rw [if_neg q, List.append_nil] at hi
      rw [if_neg (fun h => q (hc'.1 h)), leadlineref17_Steps_j7, wsucc h1 (by omega)]
      exact hi
theorem rs_l12 {N : Nat} {kf : List Bool → Option (List (List Int))} {n' : Nat} {row : List Nat} (hr : ∀ x ∈ row, x < n') (hl : row.length ≤ 1000) : ∀ (d j n : Nat) (f : Nat → Bool), j + d = row.length → d < n →
    leadlineref17_Steps_l12 N kf (natsI row) n (doneL n' f) (j : Int) = kf (doneL n' fun i => decide (i ∈ row.drop j) || f i) := by
  intro d
  induction d with
  | zero =>
    intro j n f hj hn
    obtain ⟨n, rfl⟩ : ∃ m, n = m + 1 := ⟨n - 1, by omega⟩
    rw [leadlineref17_Steps_l12, if_neg (by rw [natsI_len]; omega), List.drop_of_length_le (by omega)]
    simp
  | succ d ih =>
    intro j n f hj hn
    obtain ⟨n, rfl⟩ : ∃ m, n = m + 1 := ⟨n - 1, by omega⟩
    have h1 : j < row.length := by omega
    have h2 := hr row[j] (List.getElem_mem h1)
    rw [leadlineref17_Steps_l12, if_pos (by rw [natsI_len]; omega), natsI_get (List.getElem?_eq_getElem h1)]
    simp only [Option.bind_some]
    rw [done_get h2]
    simp only [Option.bind_some]
    rw [done_set h2]
    simp only [Option.bind_some]
    rw [wsucc (j := j) h1 (by omega), ih (j + 1) n _ (by omega) (by omega), List.drop_eq_getElem_cons h1]
    congr 2
    funext i
    rw [Bool.eq_iff_iff]
    simp only [List.mem_cons, Bool.or_eq_true, decide_eq_true_eq]
    constructor
    · rintro (h | h | h)
      · exact .inl (.inr h)
      · exact .inl (.inl h)
      · exact .inr h
    · rintro ((h | h) | h)
      · exact .inr (.inl h)
      · exact .inl h
      · exact .inr (.inr h)
theorem rowsI_succ (n r : Nat) : rowsI dep n r ++ [natsI (rowN dep n r)] = rowsI dep n (r + 1) := by
  unfold rowsI
  rw [List.range_succ, List.map_append]; rfl
theorem rs_l4 {N : Nat} (hN : 1000 < N) (hl : l.length ≤ 1000) : ∀ (d r n : Nat), r + d = nl (dp of s l) l.length → d < n →
    leadlineref17_Steps_l4 N leadlineref17_Steps_j3 l of s n (rowsI (dp of s l) l.length r) (doneL l.length fun i => decide (lev (dp of s l) i < r)) (cntN (dp of s l) l.length r : Int) = some (rowsI (dp of s l) l.length (nl (dp of s l) l.length)) := by
  intro d
  induction d with
  | zero =>
    intro r n hr hn
    obtain ⟨n, rfl⟩ : ∃ m, n = m + 1 := ⟨n - 1, by omega⟩
    have : r = nl (dp of s l) l.length := by omega
    subst this
    rw [leadlineref17_Steps_l4, cnt_nl, if_neg (by omega)]
    rfl
  | succ d ih =>
    intro r n hr hn
    obtain ⟨n, rfl⟩ : ∃ m, n = m + 1 := ⟨n - 1, by omega⟩
    have hpos := cnt_pos (dep := dp of s l) (n := l.length) (r := r) (by omega)
    have hstep := cnt_step (dep := dp of s l) l.length r
    have hcl := cnt_le (dep := dp of s l) l.length r
    have hnl := nl_le (dep := dp of s l) l.length
    have hrl := row_len (dep := dp of s l) l.length r
    rw [leadlineref17_Steps_l4, if_pos (by omega)]
    have e6 := fun kf => rs_l6 (N := N) (of := of) (s := s) (kf := kf) hN hl r l.length 0 N (by omega) (by omega)
    rw [show (0 : Int) = ((0 : Nat) : Int) from rfl]
    have e6' := e6 (leadlineref17_Steps_j5 N (leadlineref17_Steps_l4 N leadlineref17_Steps_j3 l of s n) (rowsI (dp of s l) l.length r) (doneL l.length fun i => decide (lev (dp of s l) i < r)) (cntN (dp of s l) l.length r : Int))
    rw [show natsI (rowN (dp of s l) 0 r) = [] from rfl] at e6'
    rw [e6', leadlineref17_Steps_j5, show (0 : Int) = ((0 : Nat) : Int) from rfl]
    rw [rs_l12 (n' := l.length) (fun x hx => (mem_row.1 hx).1) (by omega) (rowN (dp of s l) l.length r).length 0 N _ (by omega) (by omega), leadlineref17_Steps_j11, appG_ok (by rw [rowsI_len]; simp; omega) (by decide)]
    simp only [Option.bind_some]
    rw [rowsI_succ, natsI_len, w64 (by omega) (by omega), show ((cntN (dp of s l) l.length r : Int) - ((rowN (dp of s l) l.length r).length : Int)) = (cntN (dp of s l) l.length (r + 1) : Int) by omega]
    have hd : (doneL l.length fun i => decide (i ∈ (rowN (dp of s l) l.length r).drop 0) || decide (lev (dp of s l) i < r)) = doneL l.length fun i => decide (lev (dp of s l) i < r + 1) := by
      unfold doneL
      apply List.map_congr_left
      intro i hi
      rw [Bool.eq_iff_iff]
      simp only [List.drop_zero, Bool.or_eq_true, decide_eq_true_eq]
      rw [mem_row]
      have := List.mem_range.1 hi
      omega
    rw [hd]
    exact ih (r + 1) n (by omega) (by omega)
theorem Steps17_eq {N : Nat} (hN : 1000 < N) (hl : l.length ≤ 1000) (hk : okT l) (of : List Int) (s : Int) :
    leadlineref17_Steps N l of s = some (rowsI (dp of s l) l.length (nl (dp of s l) l.length)) := by
  obtain ⟨r, hr, _, hr2⟩ := Thr16 (N := N) hl (by omega)
  unfold leadlineref17_Steps mkL
  rw [if_pos ⟨by omega, by rw [Int.toNat_natCast]; omega, by rw [Int.toNat_natCast]; omega⟩]
  simp only [Option.bind_some, Int.toNat_natCast]
  rw [leadlineref17_Steps_j1, hr]
  simp only [Option.bind_some]
  have hd : List.replicate l.length false = doneL l.length fun i => decide (lev (dp of s l) i < 0) := by
    unfold doneL
    symm
    rw [List.eq_replicate_iff]
    exact ⟨by simp, fun b hb => by
      obtain ⟨i, _, rfl⟩ := List.mem_map.1 hb
      simp⟩
  have key : leadlineref17_Steps_j2 N l of s (List.replicate l.length false) (l.length : Int) = some (rowsI (dp of s l) l.length (nl (dp of s l) l.length)) := by
    have := rs_l4 (N := N) (of := of) (s := s) hN hl (nl (dp of s l) l.length) 0 N (by omega) (by have := nl_le (dep := dp of s l) l.length; omega)
    rw [cnt_zero] at this
    rw [leadlineref17_Steps_j2, hd]
    exact this
  by_cases e : r = 0
  · have : l = [] := Decidable.byContradiction fun h => by have := hr2.2 ⟨h, hk⟩; omega
    subst this
    rw [if_pos e]
    exact key
  · rw [if_neg e]; exact key
theorem Steps17_bad {N : Nat} (hN : 1000 < N) (hl : l.length ≤ 1000) (hk : ¬ okT l) (of : List Int) (s : Int) : leadlineref17_Steps N l of s = some [] := by
  obtain ⟨r, hr, h0, hr2⟩ := Thr16 (N := N) hl (by omega)
  unfold leadlineref17_Steps mkL
  rw [if_pos ⟨by omega, by rw [Int.toNat_natCast]; omega, by rw [Int.toNat_natCast]; omega⟩]
  simp only [Option.bind_some, Int.toNat_natCast]
  rw [leadlineref17_Steps_j1, hr]
  simp only [Option.bind_some]
  have : ¬ 0 < r := fun h => hk (hr2.1 h).2
  obtain ⟨n, hn⟩ : ∃ m, N = m + 1 := ⟨N - 1, by omega⟩
  rw [if_pos (by omega), leadlineref17_Steps_j2]
  conv => lhs; arg 6; rw [hn]
  rw [leadlineref17_Steps_l4, if_neg (by decide)]
  rfl
theorem Ints_loop (N : Nat) (k : Option Bool) (p q : List Int) (hl : p.length = q.length) (hp : p.length ≤ 1000) : ∀ (d j n : Nat), j + d = p.length → d < n →
    leadlineref06_Ints_l2 N k p q n (j : Int) = if p.drop j = q.drop j then k else some false := by
  intro d
  induction d with
  | zero =>
    intro j n hj hn
    obtain ⟨n, rfl⟩ : ∃ m, n = m + 1 := ⟨n - 1, by omega⟩
    rw [leadlineref06_Ints_l2, if_neg (by omega), List.drop_of_length_le (by omega), List.drop_of_length_le (by omega), if_pos rfl]
  | succ d ih =>
    intro j n hj hn
    obtain ⟨n, rfl⟩ : ∃ m, n = m + 1 := ⟨n - 1, by omega⟩
    have h1 : j < p.length := by omega
    have h2 : j < q.length := by omega
    rw [leadlineref06_Ints_l2, if_pos (by omega), getI_at rfl h1, getI_at rfl h2]
    simp only [Option.bind_some]
    rw [wsucc h1 (by omega), ih (j + 1) n (by omega) (by omega), List.drop_eq_getElem_cons h1, List.drop_eq_getElem_cons h2]
    by_cases e : p[j] = q[j]
    · simp only [ne_eq, e, not_true_eq_false, if_false, List.cons.injEq, true_and]
    · simp only [ne_eq, e, not_false_eq_true, if_true, if_false, List.cons.injEq, false_and]
theorem Ints_eq {N : Nat} {p q : List Int} (hp : p.length ≤ 1000) (hN : p.length < N) : leadlineref06_Ints N p q = some (decide (p = q)) := by
  unfold leadlineref06_Ints
  by_cases h : p.length = q.length
  · rw [if_neg (by omega)]
    have := Ints_loop N leadlineref06_Ints_j1 p q h hp p.length 0 N (by omega) hN
    rw [show (0 : Int) = ((0 : Nat) : Int) from rfl, this]
    simp only [List.drop_zero, leadlineref06_Ints_j1]
    split <;> simp_all
  · rw [if_pos (by omega)]
    have : p ≠ q := fun e => h (by rw [e])
    simp [this]
theorem Rows_loop {N : Nat} {p : List (List Int)} (hp : p.length ≤ 1000) (hr : ∀ x ∈ p, x.length ≤ 1000) (hN : 1000 < N) : ∀ (d j n : Nat), j + d = p.length → d < n →
    leadlineref11_Rows_l2 N leadlineref11_Rows_j1 p p n (j : Int) = some true := by
  intro d
  induction d with
  | zero =>
    intro j n hj hn
    obtain ⟨n, rfl⟩ : ∃ m, n = m + 1 := ⟨n - 1, by omega⟩
    rw [leadlineref11_Rows_l2, if_neg (by omega)]
    rfl
  | succ d ih =>
    intro j n hj hn
    obtain ⟨n, rfl⟩ : ∃ m, n = m + 1 := ⟨n - 1, by omega⟩
    have h1 : j < p.length := by omega
    have h2 := hr p[j] (List.getElem_mem h1)
    rw [leadlineref11_Rows_l2, if_pos (by omega), getI_at rfl h1]
    simp only [Option.bind_some]
    rw [Ints_eq h2 (by omega)]
    simp only [Option.bind_some]
    rw [if_pos (by simp), wsucc h1 (by omega)]
    exact ih (j + 1) n (by omega) (by omega)
theorem Rows_same {N : Nat} {p : List (List Int)} (hp : p.length ≤ 1000) (hr : ∀ x ∈ p, x.length ≤ 1000) (hN : 1000 < N) : leadlineref11_Rows N p p = some true := by
  unfold leadlineref11_Rows
  rw [if_neg (by simp), show (0 : Int) = ((0 : Nat) : Int) from rfl]
  exact Rows_loop hp hr hN p.length 0 N (by omega) (by omega)
end
end Go.MD.ET
