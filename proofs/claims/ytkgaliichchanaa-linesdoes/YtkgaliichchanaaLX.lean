/- A range over a map, filtered into another map; maps that are handed back, or nil. No condition: plain lemmas. -/
import Derived.Test.YtkgaliichchanaaLQ
import Derived.Maps.RangeRun
set_option linter.unusedSectionVars false
namespace Go.LM
open Go Go.LL Go.MD
section
variable {κ β : Type} [DecidableEq κ]
def itr (r b since : Nat) (seen : Array Nat) (c0 : Nat) : HA := blk r (.mapIter (some b) since seen c0)
/-- how many entries are still to come -/
def lft (l : List (κ × Value × Nat)) (seen : Array Nat) : Nat := (l.filter fun x => !seen.contains x.2.2).length
theorem lft_lt {l : List (κ × Value × Nat)} {seen : Array Nat} {e : κ × Value × Nat} (he : e ∈ l) (hs : seen.contains e.2.2 = false) : lft l (seen.push e.2.2) < lft l seen := by
  refine filter_lt (fun x => !seen.contains x.2.2) (fun x => !(seen.push e.2.2).contains x.2.2) (fun x hx => ?_) e (by simpa using hs) ?_ l he
  · simp only [Bool.not_eq_true', contains_push, Bool.or_eq_false_iff] at hx ⊢
    exact hx.1
  · simp only [contains_push, beq_self_eq_true, Bool.or_true, Bool.not_true]
theorem mval_mem {k : κ} {v : Value} {l : List (κ × Value × Nat)} (hd : mdis l) : mval k l = some v ↔ ∃ st, (k, v, st) ∈ l := ⟨mem_of_mval, fun ⟨_, h⟩ => mval_of_mem hd h⟩
theorem stamp_inj {l : List (κ × Value × Nat)} (h : (l.map (·.2.2)).Nodup) {x y : κ × Value × Nat} (hx : x ∈ l) (hy : y ∈ l) (e : x.2.2 = y.2.2) : x = y := by
  induction l with
  | nil => cases hx
  | cons z r ih =>
    simp only [List.map_cons, List.nodup_cons] at h
    rcases List.mem_cons.1 hx with h1 | h1 <;> rcases List.mem_cons.1 hy with h2 | h2
    · rw [h1, h2]
    · exact absurd (List.mem_map (f := fun x : κ × Value × Nat => x.2.2).2 ⟨y, h2, by rw [← e, h1]⟩) h.1
    · exact absurd (List.mem_map (f := fun x : κ × Value × Nat => x.2.2).2 ⟨x, h1, by rw [e, h2]⟩) h.1
    · exact ih h.2 h1 h2

/-- what stands in the other map, when these have come -/
def MFil (X : Value) (seen : Array Nat) (l l' : List (κ × Value × Nat)) : Prop := mdis l' ∧ ∀ k v, mval k l' = some v ↔ ∃ st, (k, v, st) ∈ l ∧ v ≠ X ∧ seen.contains st = true
theorem MFil.start {X : Value} {l : List (κ × Value × Nat)} : MFil X #[] l [] := ⟨List.nodup_nil, fun k v => by simp [mval]⟩
theorem MFil.keep {X : Value} {seen : Array Nat} {l l' : List (κ × Value × Nat)} {e : κ × Value × Nat} {c cc : Nat} (h : MFil X seen l l') (hd : mdis l) (hg : MGood l cc) (he : e ∈ l) (hx : e.2.1 ≠ X) : MFil X (seen.push e.2.2) l (mput e.1 e.2.1 c l') := by
  refine ⟨mdis_put h.1, fun k v => ?_⟩
  rw [mval_put]
  constructor
  · intro hv
    by_cases e2 : k = e.1
    · rw [if_pos e2] at hv; obtain rfl := Option.some.inj hv; subst e2
      exact ⟨e.2.2, he, hx, by simp only [contains_push, beq_self_eq_true, Bool.or_true]⟩
    · rw [if_neg e2] at hv
      obtain ⟨st, h1, h2, h3⟩ := (h.2 k v).1 hv
      exact ⟨st, h1, h2, by simp only [contains_push, h3, Bool.true_or]⟩
  · rintro ⟨st, h1, h2, h3⟩
    simp only [contains_push, Bool.or_eq_true, beq_iff_eq] at h3
    by_cases e2 : k = e.1
    · rw [if_pos e2]
      have := mval_of_mem hd h1
      have h4 := mval_of_mem (k := e.1) (v := e.2.1) (b := e.2.2) hd he
      rw [e2, h4] at this
      rw [Option.some.inj this]
    · rw [if_neg e2]
      rcases h3 with h3 | h3
      · exact (h.2 k v).2 ⟨st, h1, h2, h3⟩
      · have := stamp_inj hg.2 h1 he h3
        exact absurd (congrArg Prod.fst this) e2
theorem MFil.skip {X : Value} {seen : Array Nat} {l l' : List (κ × Value × Nat)} {e : κ × Value × Nat} {cc : Nat} (h : MFil X seen l l') (hg : MGood l cc) (he : e ∈ l) (hx : e.2.1 = X) : MFil X (seen.push e.2.2) l l' := by
  refine ⟨h.1, fun k v => (h.2 k v).trans ⟨?_, ?_⟩⟩
  · rintro ⟨st, h1, h2, h3⟩
    exact ⟨st, h1, h2, by simp only [contains_push, h3, Bool.true_or]⟩
  · rintro ⟨st, h1, h2, h3⟩
    simp only [contains_push, Bool.or_eq_true, beq_iff_eq] at h3
    rcases h3 with h3 | h3
    · exact ⟨st, h1, h2, h3⟩
    · have := stamp_inj hg.2 h1 he h3
      exact absurd ((congrArg (fun x => x.2.1) this).trans hx) h2
theorem plook_filter {k : κ} {m : List (κ × β)} (p : β → Bool) (hd : (m.map (·.1)).Nodup) : plook k (m.filter fun x => p x.2) = (plook k m).filter p := by
  induction m with
  | nil => simp [plook]
  | cons x r ih =>
    simp only [List.map_cons, List.nodup_cons] at hd
    have ih := ih hd.2
    simp only [List.filter_cons]
    by_cases e : k = x.1
    · have hn : plook k r = none := plook_none_iff.2 (by rw [e]; exact hd.1)
      cases hp : p x.2
      · rw [if_neg (by simp), ih, hn]
        simp only [plook, if_pos e, Option.filter, hp]
        rfl
      · rw [if_pos rfl]
        simp only [plook, if_pos e, Option.filter, hp]
        rfl
    · split <;> simp [plook, e, ih]
theorem MFil.done {ev : β → Value} (hev : ∀ a b, ev a = ev b → a = b) [DecidableEq β] {x : β} {seen : Array Nat} {l l' : List (κ × Value × Nat)} {m : List (κ × β)} (hm : MRel ev l m) (h : MFil (ev x) seen l l') (ha : ∀ e ∈ l, seen.contains e.2.2 = true) : MRel ev l' (m.filter fun p => decide (p.2 ≠ x)) := by
  refine ⟨fun k => ?_, h.1, hm.dm.sublist ((List.filter_sublist).map _)⟩
  rw [plook_filter (fun y => decide (y ≠ x)) hm.dm]
  refine Option.ext fun v => ?_
  rw [h.2 k v]
  constructor
  · rintro ⟨st, h1, h2, _⟩
    have h3 := mval_of_mem hm.dl h1
    rw [hm.look] at h3
    obtain ⟨y, hy, rfl⟩ := Option.map_eq_some_iff.1 h3
    have : y ≠ x := fun e => h2 (by rw [e])
    simp [hy, Option.filter, this]
  · intro hv
    obtain ⟨y, hy, rfl⟩ := Option.map_eq_some_iff.1 hv
    obtain ⟨h1, h2⟩ := Option.filter_eq_some_iff.1 hy
    have h3 : mval k l = some (ev y) := by rw [hm.look, h1]; rfl
    obtain ⟨st, h4⟩ := mem_of_mval h3
    exact ⟨st, h4, fun e => by simp at h2; exact h2 (hev _ _ e), ha _ h4⟩
theorem MRel.val {ev : β → Value} {l : List (κ × Value × Nat)} {m : List (κ × β)} (hm : MRel ev l m) {e : κ × Value × Nat} (he : e ∈ l) : ∃ y, e.2.1 = ev y := by
  have h3 := mval_of_mem (k := e.1) (v := e.2.1) (b := e.2.2) hm.dl he
  rw [hm.look] at h3
  obtain ⟨y, hy, h⟩ := Option.map_eq_some_iff.1 h3
  exact ⟨y, h.symm⟩
end
section
variable {κ β : Type} [DecidableEq κ]
variable {P : Program} {ops : Array Oper} {Q : Exit → Act → World → Prop} {a : Act} {w : World} {N : FN} {F : List (Nat × Value)}
  {w0 : World} {M : Nat → Prop} {H : PH} {L L' : List HA} {K : Act → World → Prop}
  {d : Nat} {dd : Option Tmp} {g : Option (Nat × Bool)} {ty : TypeId} {pos : String} {af : Array Edge} {kt et t : TypeId} {kv : κ → Value} {ev : β → Value}
theorem m_range {x : Operand} {b c : Nat} {l : List (κ × Value × Nat)} (hF : Fr N F a) (hN : Nat.blt d N.n = true) (hS : St w0 M [H] L w) (ht : P.underlying t = some (.map kt et)) (hx : opv F x = some (.map (some b))) (hb : hp w b = some (.map (l.map (toE kv)).toArray c))
    (k : ∀ r w a, St w0 M [H] (itr r b c #[] c :: L) w → Fr N ((d, .pointer (some ⟨r, 0, none⟩)) :: F) a → K a w) :
    stp P ops Q ⟨some d, .range t x, ty, pos, af, none⟩ a w K := by
  refine m1 (w' := w.alloc (.mapIter (some b) c #[] c)) hF hN (v := .pointer (some ⟨w.heap.size, 0, none⟩)) ?_ fun a hF => k _ _ _ (hS.alloc _ (fun _ => rfl)) hF
  simp [execOp, hF.ev hx, run_range_map w t kt et b _ c ht hb]
theorem Keep.setBlk {w : World} {r : Nat} {o u : Obj} (hr : w.heap[r]? = some o) (ho : softO o) (hu : softO u) : Keep (fun x => x = r) w (Go.ChangeMaps.setBlock w r u) := Keep.putObj hr ho hu
theorem m_next {x : Operand} {r b c : Nat} {seen : Array Nat} {l : List (κ × Value × Nat)} (hF : Fr N F a) (hN : Nat.blt d N.n = true) (hS : St w0 M [H] L w) (hx : opv F x = some (.pointer (some ⟨r, 0, none⟩))) (hb : hp w b = some (.map (l.map (toE kv)).toArray c)) (hg : MGood l c)
    (hm : itr r b c seen c ∈ L)
    (k1 : ∀ e ∈ l, seen.contains e.2.2 = false → ∀ a w, (∀ L', Repl (itr r b c seen c) (itr r b c (seen.push e.2.2) c) L L' → St w0 M [H] L' w) → Fr N ((d, .tuple #[.bool true, kv e.1, e.2.1]) :: F) a → K a w)
    (k0 : (∀ e ∈ l, seen.contains e.2.2 = true) → ∀ a, Fr N ((d, .tuple #[.bool false]) :: F) a → K a w) :
    stp P ops Q ⟨some d, .next x false, ty, pos, af, none⟩ a w K := by
  have hr : w.heap[r]? = some (.mapIter (some b) c seen c) := hS.ok _ hm
  have hold : ∀ x ∈ ((l.map (toE kv)).toArray).toList, x.born < c := by
    intro y hy
    simp only [List.mem_map] at hy
    obtain ⟨z, hz, rfl⟩ := hy
    exact hg.1 z hz
  rcases run_next_at (P := P) w ty r b c c seen _ c hr hb hold (Nat.le_refl _) with ⟨h0, h1⟩ | ⟨y, hy, w1, hw1, h1⟩
  · refine m1 (w' := w) hF hN (v := .tuple #[.bool false]) ?_ (k0 ?_)
    · simp [execOp, hF.ev hx, h1]
    · intro e he
      exact all_seen _ _ h0 (toE kv e) (by simp only [List.mem_map]; exact ⟨e, he, rfl⟩)
  · obtain ⟨h2, h3⟩ := mem_left hy
    simp only [List.mem_map] at h2
    obtain ⟨e, he, rfl⟩ := h2
    have hr1 : w1.heap[r]? = some (.mapIter (some b) c seen c) := by rcases hw1 with rfl | rfl <;> exact hr
    refine m1 (w' := Go.ChangeMaps.setBlock w1 r (.mapIter (some b) c (seen.push e.2.2) c)) hF hN (v := .tuple #[.bool true, kv e.1, e.2.1]) ?_ fun a hF => k1 e he h3 a _ (fun L' hr' => ?_) hF
    · simp only [execOp, hF.ev hx, h1, toE, Sem.run_bind, Result.andThen_ok, Sem.run_pure]
    · have k1 : Keep (fun x => x = r) w w1 := by
        rcases hw1 with rfl | rfl
        · exact .refl _ _
        · exact .drew _ _
      refine hS.upd hr' (k1.trans (Keep.setBlk hr1 (fun _ => rfl) (fun _ => rfl)) (fun _ _ h => h)) ?_ (fun b hb => .inl hb)
      exact hp_set hr1
theorem e_entry {x : Operand} {r b c : Nat} {seen : Array Nat} {l : List (κ × Value × Nat)} {e : κ × Value × Nat} (hF : Fr N F a) (hx : opv F x = some (.pointer (some ⟨r, 0, none⟩))) (hr : hp w r = some (.mapIter (some b) c (seen.push e.2.2) c)) (hb : hp w b = some (.map (l.map (toE kv)).toArray c)) (hg : MGood l c) (he : e ∈ l) :
    (execOp a.eval ⟨dd, .entry x, ty, pos, af, g⟩).run P w = .ok (.value (.tuple #[kv e.1, e.2.1])) w := by
  have h := run_entry_at (P := P) w r b c seen (l.map (toE kv)).toArray c (toE kv e) hr hb (by simp only [List.mem_map]; exact ⟨e, he, rfl⟩) (by
    have := hg.2
    simpa [toE, Function.comp_def] using this)
  simp only [execOp, hF.ev hx, h, toE, Sem.run_bind, Result.andThen_ok, Sem.run_pure]
theorem m_putR {x y z : Operand} {r c : Nat} {l : List (κ × Value × Nat)} {k : κ} {v : Value} (hF : Fr N F a) (hS : St w0 M [H] L w) (hk : KeyOk P kt kv) (hu : ∀ w, (underlying t).run P w = .ok (.map kt et) w)
    (hx : opv F x = some (.map (some r))) (hy : opv F y = some (kv k)) (hz : opv F z = some v) (hr : Repl (gmap kv r l c) (gmap kv r (mput k v c l) (mclk k c l)) L L')
    (kk : ∀ w, St w0 M [H] L' w → K a w) : stp P ops Q ⟨none, .mapUpdate t x y z, ty, pos, af, none⟩ a w K := by
  have hm := hr.memOld
  have hb : w.heap[r]? = some (.map (l.map (toE kv)).toArray c) := (hS.ok _ hm).1
  refine m0 (w' := { w with heap := w.heap.setIfInBounds r (.map ((mput k v c l).map (toE kv)).toArray (mclk k c l)) }) ?_ (kk _ ?_)
  · simp [execOp, hF.ev hx, hF.ev hy, hF.ev hz, run_mput hk hu hb]
  · exact hS.upd hr (.setObj hb) ⟨hp_set hb, (hS.ok _ hm).2.put _ _⟩ (fun b hb => .inl hb)

/-- a map that is handed back, or nil -/
def OMap (kv : κ → Value) (ev : β → Value) (vm : Value) (A : HA) (m : List (κ × β)) : Prop := (vm = .map none ∧ A = sepA [] ∧ m = []) ∨ ∃ b l c, vm = .map (some b) ∧ A = gmap kv b l c ∧ MRel ev l m
theorem OMap.one {vm : Value} {A : HA} {m : List (κ × β)} (h : OMap kv ev vm A m) : vm.oneCell' = true := by
  rcases h with ⟨rfl, _⟩ | ⟨b, l, c, rfl, _⟩ <;> rfl
theorem OMap.cells {vm : Value} {A : HA} {m : List (κ × β)} (h : OMap kv ev vm A m) : vm.cells = #[vm] := by
  rcases h with ⟨rfl, _⟩ | ⟨b, l, c, rfl, _⟩ <;> rfl
theorem e_lookO {x y : Operand} {dv : β} {vm : Value} {A : HA} {m : List (κ × β)} {k : κ} (hF : Fr N F a) (hk : KeyOk P kt kv) (hu : ∀ w, (underlying t).run P w = .ok (.map kt et) w) (hz : ∀ w, (zeroValue et).run P w = .ok (ev dv) w)
    (hA : A.ok (hp w)) (hx : opv F x = some vm) (hy : opv F y = some (kv k)) (hR : OMap kv ev vm A m) :
    (execOp a.eval ⟨dd, .lookup t x y false, ty, pos, af, g⟩).run P w = .ok (.value (ev ((plook k m).getD dv))) w := by
  rcases hR with ⟨rfl, _, rfl⟩ | ⟨b, l, c, rfl, rfl, hR⟩
  · have hf := hk.find w k []
    simp only [List.map_nil, mfindFrom] at hf
    simp [execOp, hF.ev hx, hF.ev hy, Instr.lookup, hu, hk.chk, hz, plook, hf]
  · exact e_lookM hF hk hu hz hA.1 hx hy hR
end
end Go.LM
