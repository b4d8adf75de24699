/- Places of what is of a thread: rows are the same but for order just if places keep the order of what depends. No condition: plain lemmas. -/
import Derived.Test.YtimaeihmnipfgaaDoorPT
namespace Go.MD
open Go
section
variable {α : Type} {D : α → α → Bool} {T : α → Int}
/-- the place of the n-th one of thread t -/
def plc (T : α → Int) : List α → Int → Nat → Option Nat
  | [], _, _ => none
  | y :: b, t, 0 => if T y = t then some 0 else (plc T b t 0).map (· + 1)
  | y :: b, t, n + 1 => if T y = t then (plc T b t n).map (· + 1) else (plc T b t (n + 1)).map (· + 1)
theorem plc_ne {y : α} {b : List α} {t : Int} (h : T y ≠ t) (n : Nat) : plc T (y :: b) t n = (plc T b t n).map (· + 1) := by
  cases n <;> simp [plc, h]
theorem plc_zero {y : α} {b : List α} {t : Int} (h : T y = t) : plc T (y :: b) t 0 = some 0 := by simp [plc, h]
theorem plc_succ {y : α} {b : List α} {t : Int} (h : T y = t) (n : Nat) : plc T (y :: b) t (n + 1) = (plc T b t n).map (· + 1) := by simp [plc, h]
theorem plc_lt : ∀ {b : List α} {t : Int} {n q : Nat}, plc T b t n = some q → ∃ x, b[q]? = some x ∧ T x = t
  | [], _, _, _, h => by cases h
  | y :: b, t, n, q, h => by
    by_cases e : T y = t
    · cases n with
      | zero => rw [plc_zero e] at h; cases h; exact ⟨y, rfl, e⟩
      | succ n =>
        rw [plc_succ e] at h
        cases hq : plc T b t n with
        | none => rw [hq] at h; cases h
        | some r =>
          rw [hq] at h; cases h
          exact plc_lt (b := b) hq
    · rw [plc_ne e] at h
      cases hq : plc T b t n with
      | none => rw [hq] at h; cases h
      | some r =>
        rw [hq] at h; cases h
        exact plc_lt (b := b) hq
theorem plc_split : ∀ {b : List α} {t : Int} {q : Nat}, plc T b t 0 = some q → ∃ u x v, b = u ++ x :: v ∧ u.length = q ∧ T x = t ∧ ∀ y ∈ u, T y ≠ t
  | [], _, _, h => by cases h
  | y :: b, t, q, h => by
    by_cases e : T y = t
    · rw [plc_zero e] at h; cases h
      exact ⟨[], y, b, rfl, rfl, e, fun _ h => by cases h⟩
    · rw [plc_ne e] at h
      cases hq : plc T b t 0 with
      | none => rw [hq] at h; cases h
      | some r =>
        rw [hq] at h; cases h
        obtain ⟨u, x, v, h1, h2, h3, h4⟩ := plc_split hq
        refine ⟨y :: u, x, v, by rw [h1]; rfl, by simp [h2], h3, fun z hz => ?_⟩
        rcases List.mem_cons.1 hz with rfl | hz
        · exact e
        · exact h4 z hz
def shq (k q : Nat) : Nat := if q < k then q else q + 1
theorem shq_lt {k p q : Nat} : shq k p < shq k q ↔ p < q := by unfold shq; split <;> split <;> omega
theorem shq_ge {k q : Nat} (h : k ≤ q) : shq k q = q + 1 := by unfold shq; rw [if_neg (by omega)]
theorem map_shq (o : Option Nat) (k : Nat) : (o.map (shq k)).map (· + 1) = (o.map (· + 1)).map (shq (k + 1)) := by
  cases o with
  | none => rfl
  | some q => simp only [Option.map_some, Option.some.injEq]; unfold shq; split <;> split <;> omega
/-- the number of an event, when one of thread s stands ahead -/
def bump (s t : Int) (n : Nat) : Nat := if t = s then n + 1 else n
theorem plc_mid {x : α} {v : List α} : ∀ {u : List α}, (∀ y ∈ u, T y ≠ T x) → ∀ (t : Int) (n : Nat), plc T (u ++ x :: v) t (bump (T x) t n) = (plc T (u ++ v) t n).map (shq u.length)
  | [], _, t, n => by
    unfold bump
    have e : (shq ([] : List α).length) = (· + 1) := by funext q; simp [shq]
    rw [e]
    by_cases h : t = T x
    · rw [if_pos h, List.nil_append, plc_succ h.symm]; rfl
    · rw [if_neg h, List.nil_append, plc_ne (fun e => h e.symm)]; rfl
  | y :: u, hu, t, n => by
    have ih := plc_mid (x := x) (v := v) (u := u) fun z hz => hu z (.tail _ hz)
    have hy := hu y (.head _)
    rw [List.cons_append, List.cons_append, List.length_cons]
    by_cases e : T y = t
    · have ht : t ≠ T x := fun h => hy (e.trans h)
      have hb : ∀ n, bump (T x) t n = n := fun n => by unfold bump; rw [if_neg ht]
      rw [hb]
      cases n with
      | zero => rw [plc_zero e, plc_zero e]; rfl
      | succ n =>
        rw [plc_succ e, plc_succ e, ← map_shq, ← ih t n, hb]
    · rw [plc_ne e, plc_ne e, ← map_shq, ← ih t n]
theorem get_mid {x : α} {u v : List α} (q : Nat) : (u ++ x :: v)[shq u.length q]? = (u ++ v)[q]? := by
  unfold shq
  by_cases h : q < u.length
  · rw [if_pos h, List.getElem?_append_left h, List.getElem?_append_left h]
  · rw [if_neg h, List.getElem?_append_right (by omega), List.getElem?_append_right (by omega), show q + 1 - u.length = (q - u.length) + 1 by omega]
    rfl
theorem plc_occ : ∀ {b : List α} {j : Nat} {y : α}, b[j]? = some y → ∃ n, plc T b (T y) n = some j
  | [], _, _, h => by cases h
  | z :: b, 0, y, h => by cases h; exact ⟨0, plc_zero rfl⟩
  | z :: b, j + 1, y, h => by
    obtain ⟨n, hn⟩ := plc_occ (b := b) h
    by_cases e : T z = T y
    · exact ⟨n + 1, by rw [plc_succ e, hn]; rfl⟩
    · exact ⟨n, by rw [plc_ne e, hn]; rfl⟩

/-- each event has its place in the other row -/
def Mat (T : α → Int) (a b : List α) : Prop := ∀ t n p, plc T a t n = some p → ∃ q, plc T b t n = some q ∧ b[q]? = a[p]?
structure Pls (D : α → α → Bool) (T : α → Int) (a b : List α) : Prop where
  len : a.length = b.length
  mat : Mat T a b
  ord : ∀ t n t' n' p p' q q' x y, plc T a t n = some p → plc T a t' n' = some p' → p < p' → a[p]? = some x → a[p']? = some y → D x y = true → plc T b t n = some q → plc T b t' n' = some q' → q < q'
theorem Mat.refl (a : List α) : Mat T a a := fun _ _ p h => ⟨p, h, rfl⟩
theorem Mat.trans {a b c : List α} (h : Mat T a b) (k : Mat T b c) : Mat T a c := fun t n p hp => by
  obtain ⟨q, h1, h2⟩ := h t n p hp
  obtain ⟨r, h3, h4⟩ := k t n q h1
  exact ⟨r, h3, h4.trans h2⟩
theorem Pls.refl (a : List α) : Pls D T a a := ⟨rfl, .refl a, fun t n t' n' p p' q q' x y h1 h2 h3 _ _ _ h4 h5 => by
  rw [h1] at h4; rw [h2] at h5; cases h4; cases h5; exact h3⟩
theorem Pls.trans {a b c : List α} (h : Pls D T a b) (k : Pls D T b c) : Pls D T a c := ⟨h.len.trans k.len, h.mat.trans k.mat, fun t n t' n' p p' q q' x y h1 h2 h3 h4 h5 h6 h7 h8 => by
  obtain ⟨r, e1, e2⟩ := h.mat t n p h1
  obtain ⟨r', e3, e4⟩ := h.mat t' n' p' h2
  exact k.ord t n t' n' r r' q q' x y e1 e3 (h.ord t n t' n' p p' r r' x y h1 h2 h3 h4 h5 h6 e1 e3) (e2.trans h4) (e4.trans h5) h6 h7 h8⟩
/-- the place, when x stands ahead -/
theorem plc_cons {x : α} {a : List α} {t : Int} {n p : Nat} (h : plc T (x :: a) t n = some p) : (t = T x ∧ n = 0 ∧ p = 0) ∨ (∃ m r, p = r + 1 ∧ plc T a t m = some r ∧ n = bump (T x) t m) := by
  by_cases e : T x = t
  · cases n with
    | zero => rw [plc_zero e] at h; cases h; exact .inl ⟨e.symm, rfl, rfl⟩
    | succ n =>
      rw [plc_succ e] at h
      cases hq : plc T a t n with
      | none => rw [hq] at h; cases h
      | some r => rw [hq] at h; cases h; exact .inr ⟨n, r, rfl, hq, by unfold bump; rw [if_pos e.symm]⟩
  · rw [plc_ne e] at h
    cases hq : plc T a t n with
    | none => rw [hq] at h; cases h
    | some r => rw [hq] at h; cases h; exact .inr ⟨n, r, rfl, hq, by unfold bump; rw [if_neg (fun h => e h.symm)]⟩
theorem plc_bump {x : α} {a : List α} {t : Int} {n r : Nat} (h : plc T a t n = some r) : plc T (x :: a) t (bump (T x) t n) = some (r + 1) := by
  unfold bump
  by_cases e : t = T x
  · rw [if_pos e, plc_succ e.symm, h]; rfl
  · rw [if_neg e, plc_ne (fun h => e h.symm), h]; rfl
theorem Pls.cons (x : α) {a b : List α} (h : Pls D T a b) : Pls D T (x :: a) (x :: b) := by
  refine ⟨by simp [h.len], fun t n p hp => ?_, fun t n t' n' p p' q q' y z h1 h2 h3 h4 h5 h6 h7 h8 => ?_⟩
  · rcases plc_cons hp with ⟨rfl, rfl, rfl⟩ | ⟨m, r, rfl, h1, rfl⟩
    · exact ⟨0, plc_zero rfl, rfl⟩
    · obtain ⟨q, e1, e2⟩ := h.mat t m r h1
      exact ⟨q + 1, plc_bump e1, by simpa using e2⟩
  · rcases plc_cons h2 with ⟨rfl, rfl, rfl⟩ | ⟨m', r', rfl, g1, rfl⟩
    · omega
    · obtain ⟨s', e1, _⟩ := h.mat t' m' r' g1
      rw [plc_bump e1] at h8; cases h8
      rcases plc_cons h1 with ⟨rfl, rfl, rfl⟩ | ⟨m, r, rfl, g2, rfl⟩
      · rw [plc_zero rfl] at h7; cases h7; omega
      · obtain ⟨s, e2, _⟩ := h.mat t m r g2
        rw [plc_bump e2] at h7; cases h7
        have := h.ord t m t' m' r r' s s' y z g2 g1 (by omega) (by simpa using h4) (by simpa using h5) h6 e2 e1
        omega
theorem plc_swap {x y : α} {c : List α} (hxy : T x ≠ T y) {t : Int} {n p : Nat} (h : plc T (x :: y :: c) t n = some p) :
    (p = 0 ∧ plc T (y :: x :: c) t n = some 1) ∨ (p = 1 ∧ plc T (y :: x :: c) t n = some 0) ∨ ∃ r, p = r + 2 ∧ plc T (y :: x :: c) t n = some (r + 2) := by
  rcases plc_cons h with ⟨rfl, rfl, rfl⟩ | ⟨m, r, rfl, h1, rfl⟩
  · left
    refine ⟨rfl, ?_⟩
    rw [plc_ne (fun e => hxy e.symm), plc_zero rfl]; rfl
  · rcases plc_cons h1 with ⟨rfl, rfl, rfl⟩ | ⟨m, r, rfl, h2, rfl⟩
    · right; left
      refine ⟨rfl, ?_⟩
      have : bump (T x) (T y) 0 = 0 := by unfold bump; rw [if_neg (fun e => hxy e.symm)]
      rw [this, plc_zero rfl]
    · right; right
      refine ⟨r, rfl, ?_⟩
      have e : bump (T x) t (bump (T y) t m) = bump (T y) t (bump (T x) t m) := by unfold bump; split <;> split <;> rfl
      rw [e]
      exact plc_bump (plc_bump h2)
theorem Pls.swap (ht : ∀ x y, T x = T y → D x y = true) {x y : α} (c : List α) (hd : D x y = false) : Pls D T (x :: y :: c) (y :: x :: c) := by
  have hxy : T x ≠ T y := fun e => by rw [ht x y e] at hd; cases hd
  refine ⟨rfl, fun t n p hp => ?_, fun t n t' n' p p' q q' v w h1 h2 h3 h4 h5 h6 h7 h8 => ?_⟩
  · rcases plc_swap hxy hp with ⟨rfl, h⟩ | ⟨rfl, h⟩ | ⟨r, rfl, h⟩
    · exact ⟨1, h, rfl⟩
    · exact ⟨0, h, rfl⟩
    · exact ⟨r + 2, h, rfl⟩
  · rcases plc_swap hxy h1 with ⟨rfl, h⟩ | ⟨rfl, h⟩ | ⟨r, rfl, h⟩ <;> rcases plc_swap hxy h2 with ⟨rfl, h'⟩ | ⟨rfl, h'⟩ | ⟨r', rfl, h'⟩ <;>
      (rw [h] at h7; rw [h'] at h8; cases h7; cases h8)
    all_goals first
      | omega
      | (exfalso; have e4 : x = v := by simpa using h4
         have e5 : y = w := by simpa using h5
         subst e4; subst e5; rw [hd] at h6; cases h6)
theorem TP.pls (ht : ∀ x y, T x = T y → D x y = true) {a b : List α} (h : TP D a b) : Pls D T a b := by
  induction h with
  | nil => exact .refl _
  | cons x _ ih => exact ih.cons x
  | swap a h => exact .swap ht a h
  | trans _ _ ih1 ih2 => exact ih1.trans ih2
theorem Mat.down {x : α} {a u v : List α} (hu : ∀ y ∈ u, T y ≠ T x) (h : Mat T (x :: a) (u ++ x :: v)) : Mat T a (u ++ v) := fun t n p hp => by
  obtain ⟨q, e1, e2⟩ := h t _ _ (plc_bump hp)
  rw [plc_mid hu] at e1
  cases hq : plc T (u ++ v) t n with
  | none => rw [hq] at e1; cases e1
  | some r =>
    rw [hq] at e1; cases e1
    rw [get_mid] at e2
    exact ⟨r, rfl, by simpa using e2⟩
theorem Mat.inv : ∀ {a b : List α}, a.length = b.length → Mat T a b → ∀ t n q, plc T b t n = some q → ∃ p, plc T a t n = some p
  | [], b, hl, _, t, n, q, h => by
    have : b = [] := List.eq_nil_of_length_eq_zero hl.symm
    subst this; cases h
  | x :: a, b, hl, hm, t, n, q, h => by
    obtain ⟨q0, e1, e2⟩ := hm (T x) 0 0 (plc_zero rfl)
    obtain ⟨u, x', v, rfl, rfl, h3, hu⟩ := plc_split e1
    have hx : x' = x := by simpa using e2
    subst hx
    have hd := hm.down hu
    have hl' : a.length = (u ++ v).length := by simp at hl ⊢; omega
    by_cases h0 : t = T x' ∧ n = 0
    · obtain ⟨rfl, rfl⟩ := h0
      exact ⟨0, plc_zero rfl⟩
    · obtain ⟨m, rfl⟩ : ∃ m, n = bump (T x') t m := by
        unfold bump
        by_cases e : t = T x'
        · exact ⟨n - 1, by rw [if_pos e]; omega⟩
        · exact ⟨n, by rw [if_neg e]⟩
      rw [plc_mid hu] at h
      cases hq : plc T (u ++ v) t m with
      | none => rw [hq] at h; cases h
      | some r =>
        obtain ⟨p, hp⟩ := Mat.inv hl' hd t m r hq
        exact ⟨p + 1, plc_bump hp⟩
theorem Pls.tp (ht : ∀ x y, T x = T y → D x y = true) (hs : ∀ x y, D x y = D y x) : ∀ {a b : List α}, Pls D T a b → TP D a b
  | [], b, h => by
    have : b = [] := List.eq_nil_of_length_eq_zero h.len.symm
    subst this; exact .nil
  | x :: a, b, h => by
    obtain ⟨q0, e1, e2⟩ := h.mat (T x) 0 0 (plc_zero rfl)
    obtain ⟨u, x', v, rfl, rfl, h3, hu⟩ := plc_split e1
    have hx : x' = x := by simpa using e2
    subst hx
    have hl' : a.length = (u ++ v).length := by have := h.len; simp at this ⊢; omega
    have hd := h.mat.down hu
    have hnd : ∀ y ∈ u, D y x' = false := by
      intro y hy
      obtain ⟨j, hj, rfl⟩ := List.getElem_of_mem hy
      cases hD : D u[j] x' with
      | false => rfl
      | true =>
        exfalso
        have hj' : (u ++ x' :: v)[j]? = some u[j] := by rw [List.getElem?_append_left hj, List.getElem?_eq_getElem hj]
        obtain ⟨n, hn⟩ := plc_occ (T := T) hj'
        obtain ⟨k, hk⟩ := h.mat.inv h.len _ _ _ hn
        obtain ⟨q, g1, g2⟩ := h.mat _ _ _ hk
        rw [hn] at g1; cases g1
        have hk0 : 0 < k := by
          rcases Nat.eq_zero_or_pos k with rfl | h
          · exfalso
            have : x' = u[j] := by rw [hj'] at g2; simpa using g2.symm
            exact hu _ hy (by rw [← this])
          · exact h
        have := h.ord (T x') 0 (T u[j]) n 0 k u.length j x' u[j] (plc_zero rfl) hk hk0 rfl (g2.symm.trans hj') (by rw [hs]; exact hD) e1 hn
        omega
    have hp : Pls D T a (u ++ v) := by
      refine ⟨hl', hd, fun t n t' n' p p' q q' y z h1 h2 h3 h4 h5 h6 h7 h8 => ?_⟩
      have k1 := plc_mid (v := v) hu t n
      have k2 := plc_mid (v := v) hu t' n'
      rw [h7] at k1; rw [h8] at k2
      have := h.ord t _ t' _ _ _ _ _ y z (plc_bump h1) (plc_bump h2) (by omega) (by simpa using h4) (by simpa using h5) h6 k1 k2
      exact shq_lt.1 this
    exact (TP.cons x' (Pls.tp ht hs hp)).trans ((TP.front v hnd).symm hs)
/-- rows are the same but for order just if places keep the order of what depends -/
theorem TP.iff_pls (ht : ∀ x y, T x = T y → D x y = true) (hs : ∀ x y, D x y = D y x) {a b : List α} : TP D a b ↔ Pls D T a b := ⟨fun h => h.pls ht, fun h => h.tp ht hs⟩
/-- neighbours that depend, and are not the same, changed about -/
theorem TP.not_swap (ht : ∀ x y, T x = T y → D x y = true) {x y : α} {a b : List α} (hd : D x y = true) (hne : x ≠ y) : ¬ TP D (a ++ x :: y :: b) (a ++ y :: x :: b) := by
  intro h
  by_cases e : T x = T y
  · have := h.thread ht (T x)
    simp [List.filter_append, List.filter_cons, e] at this
    exact hne this.1
  · have hp := h.pls ht
    have g1 : (a ++ x :: y :: b)[a.length]? = some x := by simp
    have g2 : (a ++ x :: y :: b)[a.length + 1]? = some y := by simp
    obtain ⟨n, hn⟩ := plc_occ (T := T) g1
    obtain ⟨m, hm⟩ := plc_occ (T := T) g2
    have key : ∀ (a : List α) (t : Int) (n p : Nat), plc T (a ++ x :: y :: b) t n = some p → (p = a.length → plc T (a ++ y :: x :: b) t n = some (a.length + 1)) ∧ (p = a.length + 1 → plc T (a ++ y :: x :: b) t n = some a.length) := by
      intro a
      induction a with
      | nil =>
        intro t n p hp
        rcases plc_swap e hp with ⟨rfl, h⟩ | ⟨rfl, h⟩ | ⟨r, rfl, h⟩
        · exact ⟨fun _ => h, fun h => by simp at h⟩
        · exact ⟨fun h => by simp at h, fun _ => h⟩
        · exact ⟨fun h => by simp at h, fun h => by simp at h⟩
      | cons z a ih =>
        intro t n p hp
        rcases plc_cons hp with ⟨rfl, rfl, rfl⟩ | ⟨m, r, rfl, h1, rfl⟩
        · exact ⟨fun h => by simp at h, fun h => by simp at h⟩
        · obtain ⟨i1, i2⟩ := ih t m r h1
          refine ⟨fun h => ?_, fun h => ?_⟩
          · exact plc_bump (i1 (by simpa using h))
          · exact plc_bump (i2 (by simpa using h))
    have := hp.ord _ _ _ _ _ _ _ _ x y hn hm (by omega) g1 g2 hd ((key a _ _ _ hn).1 rfl) ((key a _ _ _ hm).2 rfl)
    omega
end
end Go.MD
