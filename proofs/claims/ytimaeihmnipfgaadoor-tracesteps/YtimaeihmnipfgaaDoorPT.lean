/- Rows but for the order of what does not depend. No condition: plain lemmas. -/
import Derived.Test.YtimaeihmnipfgaaDoorPL
namespace Go.MD
open Go
section
variable {α : Type} {D : α → α → Bool} {T : α → Int}
/-- the same but for the order of what does not depend -/
inductive TP (D : α → α → Bool) : List α → List α → Prop
  | nil : TP D [] []
  | cons (x : α) {a b : List α} (h : TP D a b) : TP D (x :: a) (x :: b)
  | swap {x y : α} (a : List α) (h : D x y = false) : TP D (x :: y :: a) (y :: x :: a)
  | trans {a b c : List α} (h : TP D a b) (k : TP D b c) : TP D a c
theorem TP.refl : ∀ a : List α, TP D a a
  | [] => .nil
  | x :: a => .cons x (TP.refl a)
theorem TP.symm (hs : ∀ x y, D x y = D y x) {a b : List α} (h : TP D a b) : TP D b a := by
  induction h with
  | nil => exact .nil
  | cons x _ ih => exact .cons x ih
  | swap a h => exact .swap a (by rw [hs]; exact h)
  | trans _ _ ih1 ih2 => exact ih2.trans ih1
theorem TP.perm {a b : List α} (h : TP D a b) : a.Perm b := by
  induction h with
  | nil => exact .nil
  | cons x _ ih => exact ih.cons x
  | swap a _ => exact .swap _ _ a
  | trans _ _ ih1 ih2 => exact ih1.trans ih2
theorem TP.length {a b : List α} (h : TP D a b) : a.length = b.length := h.perm.length_eq
theorem TP.pre (c : List α) {a b : List α} (h : TP D a b) : TP D (c ++ a) (c ++ b) := by
  induction c with
  | nil => exact h
  | cons x c ih => exact .cons x ih
theorem TP.post {a b : List α} (h : TP D a b) (c : List α) : TP D (a ++ c) (b ++ c) := by
  induction h with
  | nil => exact .refl c
  | cons x _ ih => exact .cons x ih
  | swap a h => exact .swap (a ++ c) h
  | trans _ _ ih1 ih2 => exact ih1.trans ih2
theorem TP.app {a b c d : List α} (h : TP D a b) (k : TP D c d) : TP D (a ++ c) (b ++ d) := (h.post c).trans (k.pre b)
/-- what does not depend on x stands ahead of it -/
theorem TP.front {x : α} : ∀ {a : List α} (b : List α), (∀ y ∈ a, D y x = false) → TP D (a ++ x :: b) (x :: (a ++ b))
  | [], b, _ => .refl _
  | y :: a, b, h => (TP.cons y (TP.front b fun z hz => h z (.tail _ hz))).trans (.swap _ (h y (.head _)))

/-- x may come first, and leaves r -/
inductive Sel (D : α → α → Bool) : List α → α → List α → Prop
  | head {x : α} {a : List α} : Sel D (x :: a) x a
  | tail {x y : α} {a r : List α} (hd : D y x = false) (h : Sel D a x r) : Sel D (y :: a) x (y :: r)
theorem Sel.tp {a r : List α} {x : α} (h : Sel D a x r) : TP D a (x :: r) := by
  induction h with
  | head => exact .refl _
  | tail hd _ ih => exact (TP.cons _ ih).trans (.swap _ hd)
theorem Sel.len {a r : List α} {x : α} (h : Sel D a x r) : a.length = r.length + 1 := h.tp.length
theorem TP.sel {a b : List α} (h : TP D a b) (hr : ∀ x, D x x = true) (hs : ∀ x y, D x y = D y x) : ∀ {x : α} {r : List α}, Sel D a x r → ∃ s, Sel D b x s ∧ TP D r s := by
  induction h with
  | nil => intro x r h; cases h
  | @cons z a b hab ih =>
    intro x r h
    cases h with
    | head => exact ⟨b, .head, hab⟩
    | tail hd h =>
      obtain ⟨s, h1, h2⟩ := ih h
      exact ⟨z :: s, .tail hd h1, .cons z h2⟩
  | @swap y z a hd =>
    intro x r h
    cases h with
    | head => exact ⟨z :: a, .tail (by rw [hs]; exact hd) .head, .refl _⟩
    | tail hd2 h =>
      cases h with
      | head => exact ⟨y :: a, .head, .refl _⟩
      | tail hd3 h => exact ⟨_, .tail hd3 (.tail hd2 h), .swap _ hd⟩
  | trans _ _ ih1 ih2 =>
    intro x r h
    obtain ⟨s, h1, h2⟩ := ih1 h
    obtain ⟨t, h3, h4⟩ := ih2 h1
    exact ⟨t, h3, h2.trans h4⟩
theorem Sel.uniq (ht : ∀ x y, T x = T y → D x y = true) {a r s : List α} {x y : α} (h : Sel D a x r) (k : Sel D a y s) (e : T x = T y) : x = y ∧ r = s := by
  induction h generalizing y s with
  | head =>
    cases k with
    | head => exact ⟨rfl, rfl⟩
    | tail hd _ => rw [ht _ _ e] at hd; cases hd
  | tail hd h ih =>
    cases k with
    | head => rw [ht _ _ e.symm] at hd; cases hd
    | tail hd2 k =>
      obtain ⟨h1, h2⟩ := ih k e
      exact ⟨h1, by rw [h2]⟩
/-- x comes first: it is of the least thread -/
def Best (D : α → α → Bool) (T : α → Int) (a : List α) (x : α) (r : List α) : Prop := Sel D a x r ∧ ∀ y s, Sel D a y s → T x ≤ T y
/-- the form of a row -/
inductive Fm (D : α → α → Bool) (T : α → Int) : List α → List α → Prop
  | nil : Fm D T [] []
  | step {a r f : List α} {x : α} (hb : Best D T a x r) (h : Fm D T r f) : Fm D T a (x :: f)
theorem Fm.tp {a f : List α} (h : Fm D T a f) : TP D a f := by
  induction h with
  | nil => exact .nil
  | step hb _ ih => exact hb.1.tp.trans (.cons _ ih)
theorem Best.uniq (ht : ∀ x y, T x = T y → D x y = true) {a r s : List α} {x y : α} (h : Best D T a x r) (k : Best D T a y s) : x = y ∧ r = s :=
  h.1.uniq ht k.1 (Int.le_antisymm (h.2 _ _ k.1) (k.2 _ _ h.1))
theorem Fm.uniq (ht : ∀ x y, T x = T y → D x y = true) {a f g : List α} (h : Fm D T a f) (k : Fm D T a g) : f = g := by
  induction h generalizing g with
  | nil =>
    cases k with
    | nil => rfl
    | step hb _ => cases hb.1
  | step hb _ ih =>
    cases k with
    | nil => cases hb.1
    | step hb2 k =>
      obtain ⟨rfl, rfl⟩ := hb.uniq ht hb2
      rw [ih k]
theorem Best.move (ht : ∀ x y, T x = T y → D x y = true) (hs : ∀ x y, D x y = D y x) {a b r : List α} {x : α} (h : TP D a b) (hb : Best D T a x r) : ∃ s, Best D T b x s ∧ TP D r s := by
  have hr : ∀ x, D x x = true := fun x => ht x x rfl
  obtain ⟨s, h1, h2⟩ := h.sel hr hs hb.1
  refine ⟨s, ⟨h1, fun y t hy => ?_⟩, h2⟩
  obtain ⟨t', h3, _⟩ := (h.symm hs).sel hr hs hy
  exact hb.2 y t' h3
theorem Fm.move (ht : ∀ x y, T x = T y → D x y = true) (hs : ∀ x y, D x y = D y x) {a b f : List α} (h : Fm D T a f) (hab : TP D a b) : Fm D T b f := by
  induction h generalizing b with
  | nil =>
    have := hab.length
    rw [List.eq_nil_of_length_eq_zero this.symm]
    exact .nil
  | step hb _ ih =>
    obtain ⟨s, h1, h2⟩ := hb.move ht hs hab
    exact .step h1 (ih h2)
/-- rows have the same form just if they are the same but for order -/
theorem Fm.iff (ht : ∀ x y, T x = T y → D x y = true) (hs : ∀ x y, D x y = D y x) {a b f g : List α} (h : Fm D T a f) (k : Fm D T b g) : f = g ↔ TP D a b :=
  ⟨fun e => by subst e; exact h.tp.trans (k.tp.symm hs), fun e => (h.move ht hs e).uniq ht k⟩
/-- a form is its own form -/
theorem Fm.idem (ht : ∀ x y, T x = T y → D x y = true) (hs : ∀ x y, D x y = D y x) {a f : List α} (h : Fm D T a f) : Fm D T f f := h.move ht hs h.tp
/-- events of a thread keep their order -/
theorem TP.thread (ht : ∀ x y, T x = T y → D x y = true) {a b : List α} (h : TP D a b) (t : Int) : a.filter (fun x => decide (T x = t)) = b.filter (fun x => decide (T x = t)) := by
  induction h with
  | nil => rfl
  | cons x _ ih => rw [List.filter_cons, List.filter_cons, ih]
  | @swap x y a hd =>
    rw [List.filter_cons, List.filter_cons, List.filter_cons, List.filter_cons]
    by_cases h1 : T x = t
    · by_cases h2 : T y = t
      · rw [ht x y (by rw [h1, h2])] at hd; cases hd
      · simp [h1, h2]
    · simp [h1]
  | trans _ _ ih1 ih2 => exact ih1.trans ih2
/-- by places -/
theorem sel_at {a : List α} : ∀ {k : Nat} (hk : k < a.length), (∀ i (hi : i < k), D (a[i]'(Nat.lt_trans hi hk)) a[k] = false) → Sel D a a[k] (a.eraseIdx k) := by
  induction a with
  | nil => intro k hk; simp at hk
  | cons x a ih =>
    intro k hk h
    cases k with
    | zero => exact .head
    | succ k =>
      refine .tail (h 0 (by omega)) (ih (k := k) (by simpa using hk) fun i hi => ?_)
      exact h (i + 1) (by omega)
theorem at_sel {a r : List α} {x : α} (h : Sel D a x r) : ∃ k, ∃ hk : k < a.length, x = a[k] ∧ r = a.eraseIdx k ∧ ∀ i (hi : i < k), D (a[i]'(Nat.lt_trans hi hk)) a[k] = false := by
  induction h with
  | head => exact ⟨0, by simp, rfl, rfl, fun i hi => by omega⟩
  | @tail x y a r hd _ ih =>
    obtain ⟨k, hk, e1, e2, h3⟩ := ih
    refine ⟨k + 1, by simpa using hk, e1, by rw [e2]; rfl, fun i hi => ?_⟩
    cases i with
    | zero => simpa [← e1] using hd
    | succ i => exact h3 i (by omega)
theorem best_at {a : List α} {b : Nat} (hb : b < a.length) (hf : ∀ i (hi : i < b), D (a[i]'(Nat.lt_trans hi hb)) a[b] = false)
    (hm : ∀ k (hk : k < a.length), (∀ i (hi : i < k), D (a[i]'(Nat.lt_trans hi hk)) a[k] = false) → T a[b] ≤ T a[k]) : Best D T a a[b] (a.eraseIdx b) := by
  refine ⟨sel_at hb hf, fun y s hy => ?_⟩
  obtain ⟨k, hk, rfl, _, h3⟩ := at_sel hy
  exact hm k hk h3
end
end Go.MD
