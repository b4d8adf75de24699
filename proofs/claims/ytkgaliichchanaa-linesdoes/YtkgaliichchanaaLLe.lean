/- The engine's fifth part: maps; many assertions of one kind; make, copy. No condition: plain lemmas. -/
import Derived.Test.YtkgaliichchanaaLLd
import Derived.Deep.OwnRows
namespace Go.LL
open Go

/-! ### many assertions of one kind -/
def bigA {α : Type} (f : α → HA) (l : List α) : HA :=
  { fp := fun b => ∃ x ∈ l, (f x).fp b,
    ok := fun h => (∀ x ∈ l, (f x).ok h) ∧ l.Pairwise (fun x y => Apart (f x) (f y)),
    dom := fun h b ho ⟨x, hx, hb⟩ => (f x).dom h b (ho.1 x hx) hb,
    loc := fun h h' e ho => ⟨fun x hx => (f x).loc h h' (fun b hb => e b ⟨x, hx, hb⟩) (ho.1 x hx), ho.2⟩ }

theorem bigA_nil {α : Type} (f : α → HA) (h : PH) : (bigA f []).ok h := ⟨fun x hx => (by cases hx), .nil⟩

/-! ### maps -/
section
variable {κ : Type} [DecidableEq κ]

def toE (kv : κ → Value) (x : κ × Value × Nat) : MapEntry := ⟨kv x.1, x.2.1, x.2.2⟩

def mfindFrom (k : κ) : List (κ × Value × Nat) → Nat → Option (Nat × Value)
  | [], _ => none
  | x :: r, i => if k = x.1 then some (i, x.2.1) else mfindFrom k r (i + 1)

/-- a key's value -/
def mval (k : κ) : List (κ × Value × Nat) → Option Value
  | [] => none
  | x :: r => if k = x.1 then some x.2.1 else mval k r

/-- .. given anew, at its place -/
def mset (k : κ) (v : Value) : List (κ × Value × Nat) → List (κ × Value × Nat)
  | [] => []
  | x :: r => if k = x.1 then (x.1, v, x.2.2) :: r else x :: mset k v r

def merase (k : κ) : List (κ × Value × Nat) → List (κ × Value × Nat)
  | [] => []
  | x :: r => if k = x.1 then r else x :: merase k r

/-- a store -/
def mput (k : κ) (v : Value) (c : Nat) (l : List (κ × Value × Nat)) : List (κ × Value × Nat) :=
  if (mval k l).isSome then mset k v l else l ++ [(k, v, c)]
def mclk (k : κ) (c : Nat) (l : List (κ × Value × Nat)) : Nat := if (mval k l).isSome then c else c + 1

theorem mfindFrom_none {k : κ} {l : List (κ × Value × Nat)} : ∀ {i : Nat}, mfindFrom k l i = none ↔ mval k l = none := by
  induction l with
  | nil => intro i; simp [mfindFrom, mval]
  | cons x r ih => intro i; simp only [mfindFrom, mval]; split <;> simp [ih]

theorem mfindFrom_some {k : κ} {l : List (κ × Value × Nat)} : ∀ {i j : Nat} {v : Value}, mfindFrom k l i = some (j, v) → mval k l = some v ∧ i ≤ j ∧ ∃ x, l[j - i]? = some x ∧ x.1 = k ∧ x.2.1 = v := by
  induction l with
  | nil => intro i j v h; simp [mfindFrom] at h
  | cons x r ih =>
    intro i j v h
    simp only [mfindFrom] at h
    by_cases e : k = x.1
    · rw [if_pos e] at h
      simp only [Option.some.injEq, Prod.mk.injEq] at h
      obtain ⟨rfl, rfl⟩ := h
      exact ⟨by simp [mval, e], Nat.le_refl _, x, by simp, e.symm, rfl⟩
    · rw [if_neg e] at h
      obtain ⟨h1, h2, y, h3, h4, h5⟩ := ih h
      refine ⟨by simp [mval, e, h1], by omega, y, ?_, h4, h5⟩
      rw [show j - i = (j - (i + 1)) + 1 by omega]
      simpa using h3

theorem mset_eq {k : κ} {v : Value} {l : List (κ × Value × Nat)} (kv : κ → Value) : ∀ {i j : Nat} {u : Value}, mfindFrom k l i = some (j, u) →
    (l.map (toE kv)).modify (j - i) (fun e => { e with key := kv k, val := v }) = (mset k v l).map (toE kv) := by
  induction l with
  | nil => intro i j u h; simp [mfindFrom] at h
  | cons x r ih =>
    intro i j u h
    simp only [mfindFrom] at h
    by_cases e : k = x.1
    · rw [if_pos e] at h
      simp only [Option.some.injEq, Prod.mk.injEq] at h
      obtain ⟨rfl, rfl⟩ := h
      simp [mset, e, toE]
    · rw [if_neg e] at h
      have h2 := (mfindFrom_some h).2.1
      have := ih h
      rw [show j - i = (j - (i + 1)) + 1 by omega]
      simp [mset, e, this]

theorem merase_eq {k : κ} {l : List (κ × Value × Nat)} (kv : κ → Value) : ∀ {i j : Nat} {u : Value}, mfindFrom k l i = some (j, u) →
    (l.map (toE kv)).eraseIdx (j - i) = (merase k l).map (toE kv) := by
  induction l with
  | nil => intro i j u h; simp [mfindFrom] at h
  | cons x r ih =>
    intro i j u h
    simp only [mfindFrom] at h
    by_cases e : k = x.1
    · rw [if_pos e] at h
      simp only [Option.some.injEq, Prod.mk.injEq] at h
      obtain ⟨rfl, rfl⟩ := h
      simp [merase, e]
    · rw [if_neg e] at h
      have h2 := (mfindFrom_some h).2.1
      have := ih h
      rw [show j - i = (j - (i + 1)) + 1 by omega]
      simp [merase, e, this]

theorem merase_none {k : κ} {l : List (κ × Value × Nat)} (h : mval k l = none) : merase k l = l := by
  induction l with
  | nil => rfl
  | cons x r ih =>
    simp only [mval] at h
    by_cases e : k = x.1
    · rw [if_pos e] at h; cases h
    · rw [if_neg e] at h; simp [merase, e, ih h]

theorem mval_put (k k' : κ) (v : Value) (c : Nat) (l : List (κ × Value × Nat)) : mval k' (mput k v c l) = if k' = k then some v else mval k' l := by
  have hset : ∀ l : List (κ × Value × Nat), (mval k l).isSome = true → mval k' (mset k v l) = if k' = k then some v else mval k' l := by
    intro l
    induction l with
    | nil => intro h; simp [mval] at h
    | cons x r ih =>
      intro h
      simp only [mval] at h
      by_cases e : k = x.1
      · simp only [mset, e, if_true, mval]
        split <;> rfl
      · rw [if_neg e] at h
        simp only [mset, e, if_false, mval, ih h]
        by_cases e2 : k' = x.1
        · have e3 : ¬ k' = k := fun e3 => e (e3.symm.trans e2)
          rw [if_pos e2, if_neg e3, if_pos e2]
        · rw [if_neg e2, if_neg e2]
  unfold mput
  split
  · rename_i h; exact hset l h
  · rename_i h
    have hn : mval k l = none := by simpa using h
    have happ : ∀ l : List (κ × Value × Nat), mval k' (l ++ [(k, v, c)]) = (mval k' l).or (if k' = k then some v else none) := by
      intro l
      induction l with
      | nil => simp [mval]
      | cons x r ih => simp only [List.cons_append, mval, ih]; split <;> simp
    rw [happ]
    by_cases e : k' = k
    · subst e; simp [hn]
    · simp [e]

def mdis (l : List (κ × Value × Nat)) : Prop := (l.map (·.1)).Nodup

theorem mem_of_mval {k : κ} {l : List (κ × Value × Nat)} {v : Value} (h : mval k l = some v) : ∃ b, (k, v, b) ∈ l := by
  induction l with
  | nil => simp [mval] at h
  | cons x r ih =>
    simp only [mval] at h
    by_cases e : k = x.1
    · rw [if_pos e] at h; simp at h; subst h; subst e; exact ⟨x.2.2, by simp⟩
    · rw [if_neg e] at h; obtain ⟨b, hb⟩ := ih h; exact ⟨b, by simp [hb]⟩

theorem mval_of_mem {k : κ} {l : List (κ × Value × Nat)} {v : Value} {b : Nat} (hd : mdis l) (h : (k, v, b) ∈ l) : mval k l = some v := by
  induction l with
  | nil => cases h
  | cons x r ih =>
    unfold mdis at hd
    simp only [List.map_cons, List.nodup_cons] at hd
    simp only [mval]
    rcases List.mem_cons.1 h with rfl | h
    · simp
    · by_cases e : k = x.1
      · exact absurd (List.mem_map.2 ⟨(k, v, b), h, e⟩) hd.1
      · rw [if_neg e]; exact ih hd.2 h

theorem mval_none_iff {k : κ} {l : List (κ × Value × Nat)} : mval k l = none ↔ k ∉ l.map (·.1) := by
  induction l with
  | nil => simp [mval]
  | cons x r ih =>
    simp only [mval, List.map_cons, List.mem_cons, not_or]
    by_cases e : k = x.1
    · simp [e]
    · simp [e, ih]

theorem mset_keys (k : κ) (v : Value) (l : List (κ × Value × Nat)) : (mset k v l).map (·.1) = l.map (·.1) := by
  induction l with
  | nil => rfl
  | cons x r ih => simp only [mset]; split <;> simp [ih]

theorem mdis_put {k : κ} {v : Value} {c : Nat} {l : List (κ × Value × Nat)} (h : mdis l) : mdis (mput k v c l) := by
  unfold mput mdis
  split
  · rw [mset_keys]; exact h
  · rename_i hn
    have hn' : mval k l = none := by simpa using hn
    rw [List.map_append, List.map_cons, List.map_nil, List.nodup_append]
    refine ⟨h, by simp, ?_⟩
    intro a ha b hb
    simp at hb; subst hb
    intro e; subst e
    exact mval_none_iff.1 hn' ha

theorem merase_sub (k : κ) (l : List (κ × Value × Nat)) : (merase k l).Sublist l := by
  induction l with
  | nil => exact .slnil
  | cons x r ih => simp only [merase]; split <;> first | exact List.sublist_cons_self _ _ | exact ih.cons_cons _

theorem mdis_erase {k : κ} {l : List (κ × Value × Nat)} (h : mdis l) : mdis (merase k l) := List.Nodup.sublist ((merase_sub k l).map _) h

theorem mval_erase {k k' : κ} {l : List (κ × Value × Nat)} (h : mdis l) : mval k' (merase k l) = if k' = k then none else mval k' l := by
  induction l with
  | nil => simp [merase, mval]
  | cons x r ih =>
    unfold mdis at h
    simp only [List.map_cons, List.nodup_cons] at h
    have ih := ih h.2
    simp only [merase]
    by_cases e : k = x.1
    · rw [if_pos e]
      by_cases e2 : k' = k
      · subst e2; rw [if_pos rfl]; exact mval_none_iff.2 (by rw [e]; exact h.1)
      · rw [if_neg e2]; simp only [mval]; rw [if_neg (fun h => e2 (h.trans e.symm))]
    · rw [if_neg e]
      simp only [mval, ih]
      by_cases e2 : k' = x.1
      · have e3 : ¬ k' = k := fun e3 => e (e3.symm.trans e2)
        rw [if_pos e2, if_neg e3, if_pos e2]
      · rw [if_neg e2, if_neg e2]

structure KeyOk (P : Program) (kt : TypeId) (kv : κ → Value) : Prop where
  chk : ∀ (e : Bool) (w : World) (k : κ), (Instr.checkKey e 10000 kt (kv k)).run P w = .ok () w
  find : ∀ (w : World) (k : κ) (l : List (κ × Value × Nat)), (Instr.findKey kt (kv k) (l.map (toE kv))).run P w = .ok (mfindFrom k l 0) w
  same : ∀ k, Instr.sameBits 10000 (kv k) (kv k) = true

def imap (kv : κ → Value) (r : Nat) (l : List (κ × Value × Nat)) (c : Nat) : HA := blk r (.map (l.map (toE kv)).toArray c)

section
variable {P : Program} {kt et t : TypeId} {kv : κ → Value}

theorem run_look {w : World} {z : Value} {r c : Nat} {l : List (κ × Value × Nat)} (hk : KeyOk P kt kv) (hu : ∀ w, (underlying t).run P w = .ok (.map kt et) w) (hz : ∀ w, (zeroValue et).run P w = .ok z w)
    (hr : w.heap[r]? = some (.map (l.map (toE kv)).toArray c)) (k : κ) (ok : Bool) :
    (Instr.lookup t (.map (some r)) (kv k) ok).run P w = .ok (if ok then .tuple #[(mval k l).getD z, .bool (mval k l).isSome] else (mval k l).getD z) w := by
  have hg : (getObj r).run P w = .ok (.map (l.map (toE kv)).toArray c) w := by simp [getObj, Sem.run, hr]
  have hf := hk.find w k l
  cases hm : mfindFrom k l 0 with
  | none =>
    rw [hm] at hf
    have hv := mfindFrom_none.1 hm
    cases ok <;> simp [Instr.lookup, hu, hg, hk.chk, hf, hz, hv]
  | some p =>
    obtain ⟨j, v⟩ := p
    rw [hm] at hf
    have hv := (mfindFrom_some hm).1
    cases ok <;> simp [Instr.lookup, hu, hg, hk.chk, hf, hv]

theorem run_lookNil {w : World} {z : Value} (hk : KeyOk P kt kv) (hu : ∀ w, (underlying t).run P w = .ok (.map kt et) w) (hz : ∀ w, (zeroValue et).run P w = .ok z w) (k : κ) :
    (Instr.lookup t (.map none) (kv k) false).run P w = .ok z w := by
  have hf := hk.find w k []
  simp only [List.map_nil, mfindFrom] at hf
  simp [Instr.lookup, hu, hk.chk, hf, hz]

theorem run_mput {w : World} {r c : Nat} {l : List (κ × Value × Nat)} (hk : KeyOk P kt kv) (hu : ∀ w, (underlying t).run P w = .ok (.map kt et) w)
    (hr : w.heap[r]? = some (.map (l.map (toE kv)).toArray c)) (k : κ) (v : Value) :
    (Instr.mapUpdate t (.map (some r)) (kv k) v).run P w = .ok () { w with heap := w.heap.setIfInBounds r (.map ((mput k v c l).map (toE kv)).toArray (mclk k c l)) } := by
  have hg : (getObj r).run P w = .ok (.map (l.map (toE kv)).toArray c) w := by simp [getObj, Sem.run, hr]
  have hs : ∀ o : Obj, (setObj r o).run P w = .ok () { w with heap := w.heap.setIfInBounds r o } := by intro o; simp [setObj, Sem.run, hr]
  have hf := hk.find w k l
  cases hm : mfindFrom k l 0 with
  | none =>
    rw [hm] at hf
    have hv := mfindFrom_none.1 hm
    simp [Instr.mapUpdate, hu, hg, hk.chk, hf, hs, mput, mclk, hv, toE]
  | some p =>
    obtain ⟨j, u⟩ := p
    rw [hm] at hf
    obtain ⟨hv, _, x, hx, hxk, _⟩ := mfindFrom_some hm
    have hkey : (((l.map (toE kv)).toArray[j]?).map (·.key)).getD (kv k) = kv k := by
      simp only [Nat.sub_zero] at hx
      simp [hx, toE, hxk]
    have hst : (Instr.keyThatStays (kv k) (kv k)).run P w = .ok (kv k) w := by simp [Instr.keyThatStays, hk.same]
    have hmod := mset_eq (v := v) kv hm
    simp only [Nat.sub_zero] at hmod
    simp only [Instr.mapUpdate, Sem.run_bind, hu, Result.andThen_ok, hg, hk.chk, hf, hkey, hst, hs]
    simp [mput, mclk, hv, hmod]

theorem run_mdel {w : World} {r c : Nat} {l : List (κ × Value × Nat)} {ty : TypeId} {ts : Array TypeId} (h0 : ts[0]? = some t) (hk : KeyOk P kt kv) (hu : ∀ w, (underlying t).run P w = .ok (.map kt et) w)
    (hr : w.heap[r]? = some (.map (l.map (toE kv)).toArray c)) (k : κ) :
    (Builtin.delete_ ts ty #[.map (some r), kv k]).run P w = .ok (.tuple #[]) { w with heap := w.heap.setIfInBounds r (.map ((merase k l).map (toE kv)).toArray c) } := by
  have hg : (getObj r).run P w = .ok (.map (l.map (toE kv)).toArray c) w := by simp [getObj, Sem.run, hr]
  have hs : ∀ o : Obj, (setObj r o).run P w = .ok () { w with heap := w.heap.setIfInBounds r o } := by intro o; simp [setObj, Sem.run, hr]
  have hf := hk.find w k l
  cases hm : mfindFrom k l 0 with
  | none =>
    rw [hm] at hf
    have hv := mfindFrom_none.1 hm
    simp [Builtin.delete_, h0, hu, hg, hk.chk, hf, hs, merase_none hv]
  | some p =>
    obtain ⟨j, u⟩ := p
    rw [hm] at hf
    have her := merase_eq kv hm
    simp only [Nat.sub_zero] at her
    have hj : j < l.length := by
      obtain ⟨_, _, x, hx, _⟩ := mfindFrom_some hm
      simp only [Nat.sub_zero] at hx
      exact (List.getElem?_eq_some_iff.1 hx).1
    have hea : ((l.map (toE kv)).toArray.eraseIdxIfInBounds j) = ((merase k l).map (toE kv)).toArray := by
      rw [← her]; simp [hj]
    simp [Builtin.delete_, h0, hu, hg, hk.chk, hf, hs, her]
end

theorem hp_set {w : World} {r : Nat} {o u : Obj} (hr : w.heap[r]? = some o) : hp { w with heap := w.heap.setIfInBounds r u } r = some u := by
  have := (Array.getElem?_eq_some_iff.1 hr).1
  simp [hp, this]
theorem Keep.setObj {w : World} {r : Nat} {e e' : Array MapEntry} {c c' : Nat} (hr : w.heap[r]? = some (.map e c)) : Keep (fun x => x = r) w { w with heap := w.heap.setIfInBounds r (.map e' c') } :=
  ⟨rfl, rfl, rfl, by simp, fun x _ hx => by simp [Array.getElem?_setIfInBounds_ne (fun e => hx e.symm)], fun a _ => by
    unfold World.frozen?
    by_cases h : a.block = r
    · have hlt : r < w.heap.size := by
        rcases Nat.lt_or_ge r w.heap.size with h | h
        · exact h
        · rw [Array.getElem?_eq_none h] at hr; cases hr
      rw [h, hr, Array.getElem?_setIfInBounds_self_of_lt hlt]
    · rw [Array.getElem?_setIfInBounds_ne (fun e => h e.symm)]⟩

section
variable {P : Program} {ops : Array Oper} {Q : Exit → Act → World → Prop} {a : Act} {w : World} {N : FN} {F : List (Nat × Value)}
  {w0 : World} {M : Nat → Prop} {Hs : List PH} {L L' : List HA} {K : Act → World → Prop}
  {d : Nat} {ty : TypeId} {pos : String} {af : Array Edge} {kt et t : TypeId} {kv : κ → Value}

theorem e_look {dd : Option Tmp} {g : Option (Nat × Bool)} {x y : Operand} {z : Value} {r c : Nat} {l : List (κ × Value × Nat)} {k : κ} (hF : Fr N F a) (hk : KeyOk P kt kv) (hu : ∀ w, (underlying t).run P w = .ok (.map kt et) w) (hz : ∀ w, (zeroValue et).run P w = .ok z w)
    (hm : w.heap[r]? = some (.map (l.map (toE kv)).toArray c)) (hx : opv F x = some (.map (some r))) (hy : opv F y = some (kv k)) :
    (execOp a.eval ⟨dd, .lookup t x y false, ty, pos, af, g⟩).run P w = .ok (.value ((mval k l).getD z)) w := by
  have := run_look (w := w) hk hu hz hm k false
  simp only [Bool.false_eq_true, if_false] at this
  simp [execOp, hF.ev hx, hF.ev hy, this]

theorem e_lookV {dd : Option Tmp} {g : Option (Nat × Bool)} {x y : Operand} {z v : Value} {r c : Nat} {l : List (κ × Value × Nat)} {k : κ} (hF : Fr N F a) (hk : KeyOk P kt kv) (hu : ∀ w, (underlying t).run P w = .ok (.map kt et) w) (hz : ∀ w, (zeroValue et).run P w = .ok z w)
    (hm : w.heap[r]? = some (.map (l.map (toE kv)).toArray c)) (hx : opv F x = some (.map (some r))) (hy : opv F y = some (kv k)) (hv : (mval k l).getD z = v) :
    (execOp a.eval ⟨dd, .lookup t x y false, ty, pos, af, g⟩).run P w = .ok (.value v) w := by
  rw [e_look hF hk hu hz hm hx hy, hv]

theorem mp_upd {x y z : Operand} {r c : Nat} {l : List (κ × Value × Nat)} {k : κ} {v : Value} (hF : Fr N F a) (hS : St w0 M Hs L w) (hk : KeyOk P kt kv) (hu : ∀ w, (underlying t).run P w = .ok (.map kt et) w)
    (hx : opv F x = some (.map (some r))) (hy : opv F y = some (kv k)) (hz : opv F z = some v)
    (hr : Repl (imap kv r l c) (imap kv r (mput k v c l) (mclk k c l)) L L')
    (kk : ∀ w, St w0 M Hs L' w → K a w) : stp P ops Q ⟨none, .mapUpdate t x y z, ty, pos, af, none⟩ a w K := by
  have hb : w.heap[r]? = some (.map (l.map (toE kv)).toArray c) := hS.ok _ hr.memOld
  refine m0 (w' := { w with heap := w.heap.setIfInBounds r (.map ((mput k v c l).map (toE kv)).toArray (mclk k c l)) }) ?_ (kk _ ?_)
  · simp [execOp, hF.ev hx, hF.ev hy, hF.ev hz, run_mput hk hu hb]
  · exact hS.upd hr (.setObj hb) (hp_set hb) (fun b hb => .inl hb)

theorem mp_del {x y : Operand} {r c : Nat} {l : List (κ × Value × Nat)} {k : κ} {t2 : TypeId} (hF : Fr N F a) (hS : St w0 M Hs L w) (hk : KeyOk P kt kv) (hu : ∀ w, (underlying t).run P w = .ok (.map kt et) w)
    (hx : opv F x = some (.map (some r))) (hy : opv F y = some (kv k))
    (hr : Repl (imap kv r l c) (imap kv r (merase k l) c) L L')
    (kk : ∀ w, St w0 M Hs L' w → K a w) : stp P ops Q ⟨none, .call ⟨.builtin .delete, #[x, y], #[t, t2]⟩, ty, pos, af, none⟩ a w K := by
  have hb : w.heap[r]? = some (.map (l.map (toE kv)).toArray c) := hS.ok _ hr.memOld
  refine m0v (w' := { w with heap := w.heap.setIfInBounds r (.map ((merase k l).map (toE kv)).toArray c) }) (v := .tuple #[]) ?_ (kk _ ?_)
  · simp [execOp, resolve, invoke, builtin, hF.ev hx, hF.ev hy, run_mdel (ty := ty) (ts := #[t, t2]) (by simp) hk hu hb]
  · exact hS.upd hr (.setObj hb) (hp_set hb) (fun b hb => .inl hb)
end
end

/-! ### keys -/
theorem keyInt {P : Program} {kt : TypeId} (hu : ∀ w, (underlying kt).run P w = .ok (.int .i64) w) : KeyOk P kt (fun n : Int => .int .i64 n) := by
  refine ⟨fun e w k => ?_, fun w k l => ?_, fun k => ?_⟩
  · rw [show (10000 : Nat) = 9999 + 1 from rfl]
    generalize 9999 = n
    simp [Instr.checkKey, hu]
  · have key : ∀ (l : List (Int × Value × Nat)) (i : Nat), Instr.findNow (.int .i64) (.int .i64 k) (l.map (toE fun n : Int => .int .i64 n)) i = some (mfindFrom k l i) := by
      intro l
      induction l with
      | nil => intro i; rfl
      | cons x r ih =>
        intro i
        by_cases e : k = x.1
        · simp [Instr.findNow, Instr.sameNow, toE, mfindFrom, e]
        · have : (k == x.1) = false := by simp [e]
          simp [Instr.findNow, Instr.sameNow, toE, mfindFrom, e, ih, this]
    simp [Instr.findKey, hu, key]
  · simp [Instr.sameBits]

/-! ### make, copy -/
section
variable {P : Program} {ops : Array Oper} {Q : Exit → Act → World → Prop} {a : Act} {w : World} {N : FN} {F : List (Nat × Value)}
  {w0 : World} {M : Nat → Prop} {Hs : List PH} {L L' : List HA} {K : Act → World → Prop}
  {d : Nat} {ty : TypeId} {pos : String} {af : Array Edge}

theorem madeCells_one (z : Value) (n : Nat) : madeCells #[z] n = (List.replicate n z).toArray := by
  apply Array.ext
  · simp [madeCells]
  · intro j h1 h2
    simp [madeCells, Nat.mod_one]

theorem mk_sl {t e : TypeId} {z : Value} {bytes : Nat} {x y : Operand} {n : Nat} (hF : Fr N F a) (hN : Nat.blt d N.n = true) (hS : St w0 M Hs L w)
    (ht : P.underlying t = some (.slice e)) (hinfo : (P.info? e).map (fun i => (i.zero, i.size, i.bytes)) = some (some z, 1, bytes)) (hzc : z.cells = #[z])
    (hx : opv F x = some (.int .i64 n)) (hy : opv F y = some (.int .i64 n)) (hb : bytes * n ≤ 281474976710656) (hn : n ≤ maxLen)
    (k : ∀ b w a, St w0 M Hs (sla e 1 (some ⟨b, 0, none⟩) n n (List.replicate n z) :: L) w → Fr N ((d, .slice (some ⟨b, 0, none⟩) n n) :: F) a → K a w) :
    stp P ops Q ⟨some d, .makeSlice t x y, ty, pos, af, none⟩ a w K := by
  have hrun := run_make_row' (P := P) t e z bytes ht hinfo hzc .i64 .i64 n hb (by unfold maxLen at hn; omega) w
  rw [madeCells_one] at hrun
  refine m1 (w' := w.alloc (.cells (List.replicate n z).toArray e)) hF hN (v := .slice (some ⟨w.heap.size, 0, none⟩) n n) ?_ fun a hF => k _ _ _ ?_ hF
  · simp [execOp, hF.ev hx, hF.ev hy, hrun]
  · refine hS.add (.alloc _ _ _ (soft_cells _ _)) ⟨by simp, .inr ⟨w.heap.size, n, _, rfl, hp_alloc_new w _, Nat.le_refl _, hn, by simp, by simp⟩⟩ ?_
    intro b hb
    simp [sl, slBlock] at hb
    omega

/-- append, the element type's row as one closed fact -/
theorem apI {t e : TypeId} {z : Value} {sz bytes : Nat} {x y : Operand} {oa ob : Option Addr} {n cap m c : Nat} {xs ys : List Value}
    (hF : Fr N F a) (hN : Nat.blt d N.n = true) (hS : St w0 M Hs L w)
    (ht : P.underlying t = some (.slice e)) (hinfo : (P.info? e).map (fun i => (i.zero, i.size, i.bytes)) = some (some z, sz, bytes)) (hzs : z.cells.size = sz) (hsz : 0 < sz)
    (hx : opv F x = some (.slice oa n cap)) (hy : opv F y = some (.slice ob m c)) (hmem : sla e sz oa n cap xs ∈ L)
    (hl : ys.length = m * sz) (hrd : Rd (hp w) ob ys) (h1 : ∀ u ∈ ys, u.oneCell' = true) (hmb : (n + m) * bytes ≤ 140737488355328) (h63 : n + m ≤ maxLen)
    (k : ∀ oa' cap' w a, (∀ L', Repl (sla e sz oa n cap xs) (sla e sz oa' (n + m) cap' (xs ++ ys)) L L' → St w0 M Hs L' w) → Fr N ((d, .slice oa' (n + m) cap') :: F) a → K a w) :
    stp P ops Q ⟨some d, .call ⟨.builtin .append, #[x, y], #[t, t]⟩, ty, pos, af, none⟩ a w K := by
  obtain ⟨i, hi, hzz⟩ := Option.map_eq_some_iff.1 hinfo
  simp only [Prod.mk.injEq] at hzz
  obtain ⟨hz, hs, hb⟩ := hzz
  subst hb
  exact ap hF hN hS ht hi hz hs hzs hsz hx hy hmem hl hrd h1 hmb h63 k

/-- .. where the first argument is nil, or a slice that is not owned and has no room: made anew -/
theorem apNil {t e : TypeId} {z : Value} {sz bytes : Nat} {x y : Operand} {ob : Option Addr} {m c : Nat} {ys : List Value}
    (hF : Fr N F a) (hN : Nat.blt d N.n = true) (hS : St w0 M Hs L w)
    (ht : P.underlying t = some (.slice e)) (hinfo : (P.info? e).map (fun i => (i.zero, i.size, i.bytes)) = some (some z, sz, bytes)) (hzs : z.cells.size = sz) (hsz : 0 < sz)
    (hx : opv F x = some (.slice none 0 0)) (hy : opv F y = some (.slice ob m c))
    (hl : ys.length = m * sz) (hrd : Rd (hp w) ob ys) (h1 : ∀ u ∈ ys, u.oneCell' = true) (hmb : m * bytes ≤ 140737488355328) (h63 : m ≤ maxLen)
    (k : ∀ oa' cap' w a, St w0 M Hs (sla e sz oa' m cap' ys :: L) w → Fr N ((d, .slice oa' m cap') :: F) a → K a w) :
    stp P ops Q ⟨some d, .call ⟨.builtin .append, #[x, y], #[t, t]⟩, ty, pos, af, none⟩ a w K := by
  have hS' : St w0 M Hs (sla e sz none 0 0 [] :: L) w := hS.add (.refl _ _) ⟨by simp, .inl ⟨rfl, rfl⟩⟩ (fun b hb => by simp [sl, slBlock] at hb)
  refine apI hF hN hS' ht hinfo hzs hsz hx hy (.head _) hl hrd h1 (by simpa using hmb) (by simpa using h63) fun oa' cap' w a hup hF => ?_
  have h2 := hup _ .head
  simp only [Nat.zero_add, List.nil_append] at h2 hF
  exact k _ _ _ _ h2 hF
end

/-! ### several assertions as one; what a callee hands back -/
def sepA (L : List HA) : HA := bigA id L

theorem sepA_ok {L : List HA} {h : PH} : (sepA L).ok h ↔ (∀ A ∈ L, A.ok h) ∧ L.Pairwise Apart := Iff.rfl

/-- a callee that writes what 'A' holds, and leaves 'A'' -/
structure Mut (w : World) (A A' : HA) (w' : World) : Prop where
  keep : Keep A.fp w w'
  ok : A'.ok (hp w')
  fp : ∀ b, A'.fp b → A.fp b ∨ w.heap.size ≤ b

/-- a callee that writes nothing that was there, and leaves something new -/
structure Fresh (w : World) (A : HA) (w' : World) : Prop where
  keep : Keep Nil w w'
  ok : A.ok (hp w')
  fp : ∀ b, A.fp b → w.heap.size ≤ b

section
variable {w0 w w' : World} {M : Nat → Prop} {Hs : List PH} {L L' : List HA}

theorem St.mut (hs : St w0 M Hs L w) {A A' : HA} (hm : Mut w A A' w') (hr : Repl A A' L L') : St w0 M Hs L' w' := hs.upd hr hm.keep hm.ok hm.fp
theorem St.fresh (hs : St w0 M Hs L w) {A : HA} (hm : Fresh w A w') : St w0 M Hs (A :: L) w' := hs.add hm.keep hm.ok hm.fp

theorem St.nilS (hs : St w0 M Hs L w) (e : TypeId) (sz : Nat) : St w0 M Hs (sla e sz none 0 0 [] :: L) w :=
  hs.add (.refl _ _) ⟨by simp, .inl ⟨rfl, rfl⟩⟩ (fun b hb => by simp [sl, slBlock] at hb)

theorem St.startL (h : ∀ x ∈ Hs, x.le w) (ho : (sepA L).ok (hp w)) (hd : ∀ b, (sepA L).fp b → ∀ x ∈ Hs, x b = none) : St w (sepA L).fp Hs L w :=
  ⟨.refl _ w, h, ho.1, fun A hA b hb => ⟨.inr ⟨A, hA, hb⟩, hd b ⟨A, hA, hb⟩⟩, ho.2⟩

theorem St.endMut {A : HA} (hs : St w0 A.fp Hs L w) : Mut w0 A (sepA L) w :=
  ⟨hs.keep, ⟨hs.ok, hs.disj⟩, fun b ⟨B, hB, hb⟩ => ((hs.own B hB b hb).1).symm⟩

theorem St.endFresh (hs : St w0 Nil Hs L w) {A : HA} (hA : A ∈ L) : Fresh w0 A w :=
  ⟨hs.keep, hs.ok A hA, fun b hb => ((hs.own A hA b hb).1).resolve_right id⟩

theorem St.endFreshL (hs : St w0 Nil Hs L w) : Fresh w0 (sepA L) w :=
  ⟨hs.keep, ⟨hs.ok, hs.disj⟩, fun b ⟨B, hB, hb⟩ => ((hs.own B hB b hb).1).resolve_right id⟩

theorem Fresh.mut {A A' : HA} {w1 w2 w3 : World} (h : Fresh w1 A w2) (k : Mut w2 A A' w3) : Fresh w1 A' w3 :=
  ⟨h.keep.trans k.keep (fun x hx hA => by have := h.fp x hA; omega), k.ok, fun b hb => by
    rcases k.fp b hb with h1 | h1
    · exact h.fp b h1
    · exact Nat.le_trans h.keep.size h1⟩

theorem ph_cell {h : PH} {b off : Nat} {c : List Value} {e : TypeId} {f : Nat × Nat} {v : Value} (hb : h b = some (.cells c.toArray e f)) (hv : nth c off = some v) : h.cell? ⟨b, off, none⟩ = some v := by
  rw [nth_eq] at hv
  simp [PH.cell?, hb, hv]

theorem Rd.up {h : PH} {oa : Option Addr} {vs : List Value} (hr : Rd h oa vs) (hl : h.le w) : Rd (hp w) oa vs := hr.mono hl

theorem St.rdH (hs : St w0 M Hs L w) {h : PH} (hh : h ∈ Hs) {oa : Option Addr} {vs : List Value} (hr : Rd h oa vs) : Rd (hp w) oa vs := hr.up (hs.hs h hh)
theorem St.rdO (hs : St w0 M Hs L w) {e : TypeId} {sz : Nat} {oa : Option Addr} {n cap : Nat} {xs : List Value} (hm : sla e sz oa n cap xs ∈ L) : Rd (hp w) oa xs := hs.ld.rdO hm
end

section
variable {w : World} {Hs : List PH} {L : List HA}
theorem Lds.elH2 (hs : Lds Hs L w) {h : PH} (hh : h ∈ Hs) {oa : Option Addr} {vs : List Value} (hr : Rd h oa vs) {j f : Nat} {v : Value} (hj : vs[j + f]? = some v) : w.cell? ⟨(adr oa).block, (adr oa).off + j + f, none⟩ = some v := by
  rw [Nat.add_assoc]; exact hs.elH hh hr hj
theorem Lds.elO2 (hs : Lds Hs L w) {e : TypeId} {sz : Nat} {oa : Option Addr} {n cap : Nat} {xs : List Value} (hm : sla e sz oa n cap xs ∈ L) {j f : Nat} {v : Value} (hj : xs[j + f]? = some v) : w.cell? ⟨(adr oa).block, (adr oa).off + j + f, none⟩ = some v := by
  rw [Nat.add_assoc]; exact hs.elO hm hj
theorem Lds.elsH (hs : Lds Hs L w) {h : PH} (hh : h ∈ Hs) {oa : Option Addr} {vs us : List Value} (hr : Rd h oa vs) {k : Nat} (hj : ∀ (j : Nat) (v : Value), us[j]? = some v → vs[k + j]? = some v) :
    ∀ (j : Nat) (v : Value), us[j]? = some v → w.cell? ⟨(adr oa).block, (adr oa).off + k + j, none⟩ = some v := fun j v h => hs.elH2 hh hr (hj j v h)
theorem Lds.elsO (hs : Lds Hs L w) {e : TypeId} {sz : Nat} {oa : Option Addr} {n cap : Nat} {xs us : List Value} (hm : sla e sz oa n cap xs ∈ L) {k : Nat} (hj : ∀ (j : Nat) (v : Value), us[j]? = some v → xs[k + j]? = some v) :
    ∀ (j : Nat) (v : Value), us[j]? = some v → w.cell? ⟨(adr oa).block, (adr oa).off + k + j, none⟩ = some v := fun j v h => hs.elO2 hm (hj j v h)
theorem Lds.cellsB (hs : Lds Hs L w) {b : Nat} {vs : List Value} {e : TypeId} {f : Nat × Nat} (hA : blk b (.cells vs.toArray e f) ∈ L) :
    ∀ (j : Nat) (v : Value), vs[j]? = some v → w.cell? ⟨b, 0 + j, none⟩ = some v := fun j v h => by
  rw [Nat.zero_add]; exact hs.cellB hA (by simpa [nth_eq] using h)
theorem Lds.cellsH (hs : Lds Hs L w) {h : PH} (hh : h ∈ Hs) {b : Nat} {vs : List Value} {e : TypeId} {f : Nat × Nat} (hb : h b = some (.cells vs.toArray e f)) :
    ∀ (j : Nat) (v : Value), vs[j]? = some v → w.cell? ⟨b, 0 + j, none⟩ = some v := fun j v hv => by
  rw [Nat.zero_add]; exact hs.cellH hh (ph_cell hb (by simpa [nth_eq] using hv))
end

theorem elR {w : World} {oa : Option Addr} {vs : List Value} (hr : Rd (hp w) oa vs) {j : Nat} {v : Value} (hj : vs[j]? = some v) : w.cell? ⟨(adr oa).block, (adr oa).off + j, none⟩ = some v := by
  rw [← cell_hp]; exact hr.cell j v hj
theorem elR2 {w : World} {oa : Option Addr} {vs : List Value} (hr : Rd (hp w) oa vs) {j f : Nat} {v : Value} (hj : vs[j + f]? = some v) : w.cell? ⟨(adr oa).block, (adr oa).off + j + f, none⟩ = some v := by
  rw [Nat.add_assoc]; exact elR hr hj
theorem elsR {w : World} {oa : Option Addr} {vs us : List Value} (hr : Rd (hp w) oa vs) {k : Nat} (hj : ∀ (j : Nat) (v : Value), us[j]? = some v → vs[k + j]? = some v) :
    ∀ (j : Nat) (v : Value), us[j]? = some v → w.cell? ⟨(adr oa).block, (adr oa).off + k + j, none⟩ = some v := fun j v h => elR2 hr (hj j v h)

theorem one_cells {l : List Value} (h : l.all (·.oneCell') = true) : ∀ v ∈ l, v.oneCell' = true := fun v hv => List.all_eq_true.1 h v hv

/-! ### lists as cells -/
theorem flat_get {α : Type} {f : α → List Value} {sz : Nat} (hf : ∀ x, (f x).length = sz) : ∀ {l : List α} {k j : Nat} (hk : k < l.length) (_ : j < sz), (l.flatMap f)[k * sz + j]? = (f l[k])[j]? := by
  intro l
  induction l with
  | nil => intro k j hk; simp at hk
  | cons x r ih =>
    intro k j hk hj
    rw [List.flatMap_cons]
    cases k with
    | zero =>
      rw [Nat.zero_mul, Nat.zero_add, List.getElem?_append_left (by rw [hf]; exact hj)]
      rfl
    | succ k =>
      rw [List.getElem?_append_right (by rw [hf, Nat.succ_mul]; omega), hf, show (k + 1) * sz + j - sz = k * sz + j by rw [Nat.succ_mul]; omega]
      simpa using ih (by simpa using hk) hj

theorem flat_sub {α : Type} {f : α → List Value} {sz : Nat} (hf : ∀ x, (f x).length = sz) {l : List α} {k : Nat} (hk : k < l.length) : ∀ (j : Nat) (v : Value), (f l[k])[j]? = some v → (l.flatMap f)[k * sz + j]? = some v := by
  intro j v h
  have hj : j < sz := by rw [← hf l[k]]; exact (List.getElem?_eq_some_iff.1 h).1
  rw [flat_get hf hk hj]; exact h

theorem flat_len {α : Type} {f : α → List Value} {sz : Nat} (hf : ∀ x, (f x).length = sz) (l : List α) : (l.flatMap f).length = l.length * sz := by
  induction l with
  | nil => simp
  | cons x r ih => rw [List.flatMap_cons, List.length_append, hf, ih, List.length_cons, Nat.succ_mul, Nat.add_comm]

theorem flat_ne {α : Type} {f : α → List Value} {sz : Nat} (hf : ∀ x, (f x).length = sz) (hs : 0 < sz) {l : List α} (h : 0 < l.length) : l.flatMap f ≠ [] := by
  intro e
  have := flat_len hf l
  rw [e] at this
  have : 0 < l.length * sz := Nat.mul_pos h hs
  simp at *
  omega

def ints (l : List Int) : List Value := l.map (.int .i64)
theorem ints_len (l : List Int) : (ints l).length = l.length * 1 := by simp [ints]
theorem ints_get {l : List Int} {k : Nat} (h : k < l.length) : (ints l)[k * 1]? = some (.int .i64 l[k]) := by simp [ints, h]
theorem ints_ne {l : List Int} (h : 0 < l.length) : ints l ≠ [] := by cases l <;> simp_all [ints]
theorem ints_set (l : List Int) (k : Nat) (n : Int) : (ints l).set (k * 1) (.int .i64 n) = ints (l.set k n) := by simp [ints, List.map_set]
theorem ints_app (l m : List Int) : ints l ++ ints m = ints (l ++ m) := by simp [ints]
theorem ints_one (l : List Int) : ∀ v ∈ ints l, v.oneCell' = true := by
  intro v hv
  obtain ⟨n, _, rfl⟩ := List.mem_map.1 hv
  rfl
theorem ints_rep (n : Nat) (z : Int) : List.replicate n (Value.int .i64 z) = ints (List.replicate n z) := by simp [ints]

/-! ### one of many changes -/
section
variable {α : Type} {f : α → HA} {w w' : World}
theorem fp_lt {A : HA} {w : World} {b : Nat} (ho : A.ok (hp w)) (hb : A.fp b) : b < w.heap.size := by
  have h2 := A.dom _ b ho hb
  rcases Nat.lt_or_ge b w.heap.size with h | h
  · exact h
  · exact absurd (Array.getElem?_eq_none h) h2

theorem bigA_mid {l1 l2 : List α} {x x' : α} (ho : (bigA f (l1 ++ x :: l2)).ok (hp w)) (hk : Keep (f x).fp w w') (hx : (f x').ok (hp w')) (hf : ∀ b, (f x').fp b → (f x).fp b ∨ w.heap.size ≤ b) :
    (bigA f (l1 ++ x' :: l2)).ok (hp w') := by
  have hpw := List.pairwise_append.1 ho.2
  have hc := List.pairwise_cons.1 hpw.2.1
  have hxo := ho.1 x (by simp)
  have ap1 : ∀ y ∈ l1, Apart (f y) (f x) := fun y hy => hpw.2.2 y hy x (by simp)
  have okO : ∀ y, y ∈ l1 ∨ y ∈ l2 → (f y).ok (hp w') := by
    intro y hy
    refine (f y).loc _ _ (fun b hb => ?_) (ho.1 y (by rcases hy with h | h <;> simp [h]))
    refine hk.block b (fp_lt (ho.1 y (by rcases hy with h | h <;> simp [h])) hb) (fun hxb => ?_)
    rcases hy with h | h
    · exact ap1 y h b hb hxb
    · exact hc.1 y h b hxb hb
  have apN : ∀ y, y ∈ l1 ∨ y ∈ l2 → ∀ b, (f y).fp b → ¬ (f x').fp b := by
    intro y hy b hb hb'
    rcases hf b hb' with h | h
    · rcases hy with h1 | h1
      · exact ap1 y h1 b hb h
      · exact hc.1 y h1 b h hb
    · have := fp_lt (ho.1 y (by rcases hy with h | h <;> simp [h])) hb
      omega
  refine ⟨fun y hy => ?_, ?_⟩
  · rcases List.mem_append.1 hy with h | h
    · exact okO y (.inl h)
    · rcases List.mem_cons.1 h with rfl | h
      · exact hx
      · exact okO y (.inr h)
  · refine List.pairwise_append.2 ⟨hpw.1, List.pairwise_cons.2 ⟨fun y hy b hb hb' => apN y (.inr hy) b hb' hb, hc.2⟩, fun y hy z hz => ?_⟩
    rcases List.mem_cons.1 hz with rfl | hz
    · exact fun b hb hb' => apN y (.inl hy) b hb hb'
    · exact hpw.2.2 y hy z (by simp [hz])

theorem bigA_snoc {l : List α} {x : α} (ho : (bigA f l).ok (hp w)) (hk : Keep Nil w w') (hx : (f x).ok (hp w')) (hf : ∀ b, (f x).fp b → w.heap.size ≤ b) : (bigA f (l ++ [x])).ok (hp w') := by
  refine ⟨fun y hy => ?_, List.pairwise_append.2 ⟨ho.2, List.pairwise_singleton _ _, fun y hy z hz b hb hb' => ?_⟩⟩
  · rcases List.mem_append.1 hy with h | h
    · exact (f y).loc _ _ (fun b hb => hk.block b (fp_lt (ho.1 y h) hb) id) (ho.1 y h)
    · simp at h; subst h; exact hx
  · simp at hz; subst hz
    have := fp_lt (ho.1 y hy) hb
    have := hf b hb'
    omega

theorem bigA_sub {l l' : List α} {h : PH} (ho : (bigA f l).ok h) (hs : l'.Sublist l) : (bigA f l').ok h := ⟨fun x hx => ho.1 x (hs.subset hx), ho.2.sublist hs⟩

theorem St.bigSub {w0 w : World} {M : Nat → Prop} {Hs : List PH} {L L' : List HA} {l l' : List α} (hS : St w0 M Hs L w) (hs : l'.Sublist l) (hr : Repl (bigA f l) (bigA f l') L L') : St w0 M Hs L' w :=
  hS.upd hr (.refl _ _) (bigA_sub (hS.ok _ hr.memOld) hs) (fun b ⟨x, hx, hb⟩ => .inl ⟨x, hs.subset hx, hb⟩)
end

/-! ### structs by their fields -/
def fillIn : List (Option Value) → List Value → List Value
  | none :: r, v :: s => v :: fillIn r s
  | some z :: r, s => z :: fillIn r s
  | none :: _, [] => []
  | [], _ => []

section
variable {P : Program} {a : Act} {w : World} {N : FN} {F : List (Nat × Value)} {d : Option Tmp} {ty : TypeId} {pos : String} {af : Array Edge} {g : Option (Nat × Bool)}
theorem exec_build {t : TypeId} {parts : List (Nat × Operand)} {vs : List Value} {r : Value} (hF : Fr N F a) (hargs : argv F (parts.map (·.2)) vs)
    (hr : (Instr.build t ((parts.map (·.1)).zip vs).toArray).run P w = .ok r w) :
    (execOp a.eval ⟨d, .build t parts.toArray, ty, pos, af, g⟩).run P w = .ok (.value r) w := by
  have e : (parts.toArray.map fun (i, x) => (i, a.eval x)) = ((parts.map (·.1)).zip vs).toArray := by
    rw [← argv_map hF hargs]
    rw [List.map_toArray]
    congr 1
    clear hr hargs
    induction parts with
    | nil => rfl
    | cons p q ih => simp [ih]
  simp only [execOp]
  rw [e]
  simp [hr]

theorem e_bld {t : TypeId} {parts : List (Nat × Operand)} (vs : List Value) (hF : Fr N F a) (hargs : argv F (parts.map (·.2)) vs)
    (hr : ∀ w, (Instr.build t ((parts.map (·.1)).zip vs).toArray).run P w = .ok (.agg vs.toArray) w) :
    (execOp a.eval ⟨d, .build t parts.toArray, ty, pos, af, g⟩).run P w = .ok (.value (.agg vs.toArray)) w := exec_build hF hargs (hr w)
theorem e_bldZ {t : TypeId} {parts : List (Nat × Operand)} (vs : List Value) (zs : List (Option Value)) (hF : Fr N F a) (hargs : argv F (parts.map (·.2)) vs)
    (hr : ∀ w, (Instr.build t ((parts.map (·.1)).zip vs).toArray).run P w = .ok (.agg (fillIn zs vs).toArray) w) :
    (execOp a.eval ⟨d, .build t parts.toArray, ty, pos, af, g⟩).run P w = .ok (.value (.agg (fillIn zs vs).toArray)) w := exec_build hF hargs (hr w)
end
end Go.LL
