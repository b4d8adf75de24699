/- The lifter's library: how plain data lies in memory, and the operations of lifted functions. No condition: definitions and plain lemmas. -/
import Derived.Test.YtkgaliichchanaaMD
import Derived.Test.YtkgaliichchanaaLLh
import Derived.Test.YtkgaliichchanaaLLg
import Derived.Laws.Strings
set_option linter.unusedSectionVars false
namespace Go.LM
open Go Go.LL Go.MD

/-- how a plain value lies in cells -/
class Enc (α : Type) where
  sz : Nat
  rep : PH → List Value → α → Prop
  len : ∀ {h : PH} {cs : List Value} {x : α}, rep h cs x → cs.length = sz
  mono : ∀ {h h' : PH} {cs : List Value} {x : α}, (∀ b o, h b = some o → h' b = some o) → rep h cs x → rep h' cs x
  one : ∀ {h : PH} {cs : List Value} {x : α}, rep h cs x → ∀ v ∈ cs, v.oneCell' = true

theorem one1 {u : Value} (h : u.oneCell' = true) : ∀ v ∈ [u], v.oneCell' = true := fun v hv => by
  simp only [List.mem_cons, List.not_mem_nil, or_false] at hv; subst hv; exact h

abbrev strv (s : Str) : Value := .string ⟨s.toArray⟩

instance : Enc Int := { sz := 1, rep := fun _ cs x => cs = [.int .i64 x], len := fun h => by rw [h]; rfl, mono := fun _ h => h, one := fun h => by subst h; exact one1 rfl }
instance : Enc Bool := { sz := 1, rep := fun _ cs x => cs = [.bool x], len := fun h => by rw [h]; rfl, mono := fun _ h => h, one := fun h => by subst h; exact one1 rfl }
instance : Enc (List UInt8) := { sz := 1, rep := fun _ cs x => cs = [strv x], len := fun h => by rw [h]; rfl, mono := fun _ h => h, one := fun h => by subst h; exact one1 rfl }
instance {k : IntKind} : Enc (IntK k) := { sz := 1, rep := fun _ cs x => cs = [.int k x.v], len := fun h => by rw [h]; rfl, mono := fun _ h => h, one := fun h => by subst h; exact one1 rfl }
instance {α β : Type} [Enc α] [Enc β] : Enc (α × β) :=
  { sz := Enc.sz α + Enc.sz β
    rep := fun h cs x => ∃ c1 c2, cs = c1 ++ c2 ∧ Enc.rep h c1 x.1 ∧ Enc.rep h c2 x.2
    len := fun ⟨c1, c2, e, h1, h2⟩ => by rw [e, List.length_append, Enc.len h1, Enc.len h2]
    mono := fun hm ⟨c1, c2, e, h1, h2⟩ => ⟨c1, c2, e, Enc.mono hm h1, Enc.mono hm h2⟩
    one := fun ⟨c1, c2, e, h1, h2⟩ v hv => by
      subst e
      rcases List.mem_append.1 hv with h | h
      · exact Enc.one h1 v h
      · exact Enc.one h2 v h }
@[reducible] def Enc.via {α β : Type} [Enc β] (n : Nat) (hn : Enc.sz β = n) (f : α → β) : Enc α :=
  { sz := n, rep := fun h cs x => Enc.rep h cs (f x), len := fun h => by rw [Enc.len h, hn], mono := fun hm h => Enc.mono hm h, one := fun h => Enc.one h }

inductive Rows {α : Type} [Enc α] (h : PH) : List Value → List α → Prop
  | nil : Rows h [] []
  | cons {c vs : List Value} {x : α} {xs : List α} (hc : Enc.rep h c x) (hr : Rows h vs xs) : Rows h (c ++ vs) (x :: xs)

section
variable {α : Type} [Enc α] {h h' : PH} {vs us c : List Value} {xs ys zs : List α} {x : α}

theorem Rows.len (hr : Rows h vs xs) : vs.length = xs.length * Enc.sz α := by
  induction hr with
  | nil => simp
  | cons hc _ ih => rw [List.length_append, ih, Enc.len hc, List.length_cons, Nat.succ_mul, Nat.add_comm]
theorem Rows.mono (hm : ∀ b o, h b = some o → h' b = some o) (hr : Rows h vs xs) : Rows h' vs xs := by
  induction hr with
  | nil => exact .nil
  | cons hc _ ih => exact .cons (Enc.mono hm hc) ih
theorem Rows.one (hr : Rows h vs xs) : ∀ v ∈ vs, v.oneCell' = true := by
  induction hr with
  | nil => intro v hv; cases hv
  | cons hc _ ih =>
    intro v hv
    rcases List.mem_append.1 hv with h | h
    · exact Enc.one hc v h
    · exact ih v h
theorem Rows.app (hr : Rows h vs xs) (hs : Rows h us ys) : Rows h (vs ++ us) (xs ++ ys) := by
  induction hr with
  | nil => exact hs
  | cons hc _ ih => rw [List.append_assoc]; exact .cons hc ih
theorem Rows.single (hc : Enc.rep h c x) : Rows h c [x] := by
  have := Rows.cons hc (Rows.nil (α := α) (h := h))
  rwa [List.append_nil] at this
theorem Rows.get (hr : Rows h vs xs) : ∀ {k : Nat} {x : α}, xs[k]? = some x → ∃ c, Enc.rep h c x ∧ ∀ (j : Nat) (v : Value), c[j]? = some v → vs[k * Enc.sz α + j]? = some v := by
  induction hr with
  | nil => intro k x hx; simp at hx
  | cons hc hr ih =>
    rename_i c vs y xs
    intro k x hx
    cases k with
    | zero =>
      simp only [List.getElem?_cons_zero, Option.some.injEq] at hx
      subst hx
      refine ⟨c, hc, fun j v hj => ?_⟩
      rw [Nat.zero_mul, Nat.zero_add, List.getElem?_append_left (List.getElem?_eq_some_iff.1 hj).1]
      exact hj
    | succ k =>
      rw [List.getElem?_cons_succ] at hx
      obtain ⟨c', h1, h2⟩ := ih hx
      refine ⟨c', h1, fun j v hj => ?_⟩
      rw [List.getElem?_append_right (by rw [Enc.len hc, Nat.succ_mul]; omega), Enc.len hc, show (k + 1) * Enc.sz α + j - Enc.sz α = k * Enc.sz α + j by rw [Nat.succ_mul]; omega]
      exact h2 j v hj
theorem Rows.take (hr : Rows h vs xs) : ∀ (k : Nat), Rows h (vs.take (k * Enc.sz α)) (xs.take k) := by
  induction hr with
  | nil => intro k; simp; exact .nil
  | cons hc hr ih =>
    intro k
    cases k with
    | zero => simp; exact .nil
    | succ k =>
      rw [List.take_succ_cons, List.take_append, Enc.len hc, Nat.succ_mul, List.take_of_length_le (by rw [Enc.len hc]; omega), Nat.add_sub_cancel]
      exact .cons hc (ih k)
theorem Rows.drop (hr : Rows h vs xs) : ∀ (k : Nat), Rows h (vs.drop (k * Enc.sz α)) (xs.drop k) := by
  induction hr with
  | nil => intro k; simp; exact .nil
  | cons hc hr ih =>
    intro k
    cases k with
    | zero => simp; exact .cons hc hr
    | succ k =>
      rw [List.drop_succ_cons, List.drop_append, Enc.len hc, Nat.succ_mul, List.drop_of_length_le (by rw [Enc.len hc]; omega), Nat.add_sub_cancel, List.nil_append]
      exact ih k
theorem Rows.ne (hr : Rows h vs xs) (hs : 0 < Enc.sz α) (hx : xs ≠ []) : vs ≠ [] := by
  intro e
  have := hr.len
  rw [e] at this
  have h1 : 0 < xs.length := List.length_pos_iff.2 hx
  have : 0 < xs.length * Enc.sz α := Nat.mul_pos h1 hs
  simp at *
  omega
theorem Rows.put (hr : Rows h vs xs) (hc : Enc.rep h c x) {k : Nat} (hk : k < xs.length) : Rows h (vs.take (k * Enc.sz α) ++ (c ++ vs.drop (k * Enc.sz α + Enc.sz α))) (xs.set k x) := by
  have e : xs.set k x = xs.take k ++ (x :: xs.drop (k + 1)) := by rw [List.set_eq_take_append_cons_drop, if_pos hk]
  rw [e, show k * Enc.sz α + Enc.sz α = (k + 1) * Enc.sz α by rw [Nat.succ_mul]]
  exact (hr.take k).app (.cons hc (hr.drop (k + 1)))
theorem Rows.put1 (h1 : Enc.sz α = 1) {v : Value} (hr : Rows h vs xs) (hc : Enc.rep h [v] x) {k : Nat} (hk : k < xs.length) : Rows h (vs.set (k * 1) v) (xs.set k x) := by
  have := hr.put hc hk
  rw [h1] at this
  have hl := hr.len
  rw [h1] at hl
  rw [List.set_eq_take_append_cons_drop, if_pos (by omega)]
  exact this
theorem Rows.rep {v : Value} (hc : Enc.rep h [v] x) : ∀ n : Nat, Rows h (List.replicate n v) (List.replicate n x)
  | 0 => .nil
  | n + 1 => by rw [List.replicate_succ, List.replicate_succ]; exact .cons hc (Rows.rep hc n)
end

/-- a slice's cells, as they are read -/
def SR {α : Type} [Enc α] (h : PH) (oa : Option Addr) (xs : List α) : Prop := ∃ vs, Rd h oa vs ∧ Rows h vs xs

instance {α : Type} [Enc α] : Enc (List α) :=
  { sz := 1
    rep := fun h cs xs => ∃ oa cap, cs = [.slice oa xs.length cap] ∧ xs.length ≤ cap ∧ SR h oa xs
    len := fun ⟨_, _, e, _⟩ => by rw [e]; rfl
    mono := fun hm ⟨oa, cap, e, h1, vs, h2, h3⟩ => ⟨oa, cap, e, h1, vs, h2.mono hm, h3.mono hm⟩
    one := fun ⟨_, _, e, _⟩ => by subst e; exact one1 rfl }
instance {α : Type} {n : Nat} [Enc α] : Enc (Arr n α) :=
  { sz := n * Enc.sz α, rep := fun h cs a => Rows h cs a.l, len := fun {_ _ a} hr => by rw [hr.len, a.h], mono := fun hm hr => hr.mono hm, one := fun hr => hr.one }

section
variable {α : Type} [Enc α] {h h' : PH} {oa : Option Addr} {xs ys : List α} {x : α} {i : Int}
theorem SR.nil (h : PH) (oa : Option Addr) : SR h oa ([] : List α) := ⟨[], Rd.nil _ _, .nil⟩
theorem SR.mono (hr : SR h oa xs) (hm : ∀ b o, h b = some o → h' b = some o) : SR h' oa xs := by
  obtain ⟨vs, h1, h2⟩ := hr; exact ⟨vs, h1.mono hm, h2.mono hm⟩
theorem SR.get (hr : SR h oa xs) (hg : getI xs i = some x) : ∃ c, Enc.rep h c x ∧ ∀ (j : Nat) (v : Value), c[j]? = some v → h.cell? ⟨(adr oa).block, (adr oa).off + i.toNat * Enc.sz α + j, none⟩ = some v := by
  obtain ⟨vs, h1, h2⟩ := hr
  obtain ⟨c, h3, h4⟩ := h2.get (getI_some hg).2
  refine ⟨c, h3, fun j v hj => ?_⟩
  rw [Nat.add_assoc]
  exact h1.cell _ _ (h4 j v hj)
theorem Rd.oaI {vs : List Value} (hr : Rd h oa vs) (h2 : Rows h' vs xs) (hs : 0 < Enc.sz α) (hg : getI xs i = some x) : oa = some ⟨(adr oa).block, (adr oa).off, none⟩ :=
  hr.some (h2.ne hs (fun e => by have := (getI_lt hg).2; rw [e] at this; simp at this))
theorem SR.oaI (hr : SR h oa xs) (hs : 0 < Enc.sz α) (hg : getI xs i = some x) : oa = some ⟨(adr oa).block, (adr oa).off, none⟩ := by
  obtain ⟨vs, h1, h2⟩ := hr; exact Rd.oaI h1 h2 hs hg
theorem Rows.getI {vs : List Value} (hr : Rows h vs xs) (hg : getI xs i = some x) : ∃ c, Enc.rep h c x ∧ ∀ (j : Nat) (v : Value), c[j]? = some v → vs[i.toNat * Enc.sz α + j]? = some v := hr.get (getI_some hg).2

def subOa (oa : Option Addr) (cap l sz : Nat) : Option Addr := if cap = l then oa else oa.map (·.add (l * sz))
theorem SR.sub {lo hi : Int} {cap sz : Nat} (hr : SR h oa xs) (hc : xs.length ≤ cap) (hz : Enc.sz α = sz) (hg : subI xs lo hi = some ys) : ∃ oa' cap', subOa oa cap lo.toNat sz = oa' ∧ cap - lo.toNat = cap' ∧ ys.length ≤ cap' ∧ SR h oa' ys := by
  obtain ⟨h0, h1, h2, rfl⟩ := subI_some hg
  refine ⟨_, _, rfl, rfl, by simp; omega, ?_⟩
  subst hz
  unfold subOa
  by_cases e : cap = lo.toNat
  · rw [if_pos e]
    have : (xs.take hi.toNat).drop lo.toNat = [] := List.drop_eq_nil_of_le (by simp; omega)
    rw [this]; exact .nil _ _
  · rw [if_neg e]
    obtain ⟨vs, h3, h4⟩ := hr
    refine ⟨_, ⟨fun hne => ?_, fun j v hj => ?_⟩, (h4.take hi.toNat).drop lo.toNat⟩
    · have hne' : vs ≠ [] := fun e => hne (by rw [e]; simp)
      rw [h3.some hne']
      simp only [Option.map_some, addLit, adr, Option.getD_some]
    · have hj2 : vs[lo.toNat * Enc.sz α + j]? = some v := by
        rw [List.getElem?_drop, List.getElem?_take] at hj
        split at hj
        · exact hj
        · cases hj
      have hne' : vs ≠ [] := fun e => by rw [e] at hj2; simp at hj2
      have h5 := h3.cell _ _ hj2
      rw [h3.some hne']
      simp only [Option.map_some, addLit, adr, Option.getD_some]
      rw [Nat.add_assoc]
      exact h5
end

/-- one heap over another: what is new lies in blocks that are new -/
structure Ext (w0 : World) (H H' : PH) : Prop where
  sub : ∀ b o, H b = some o → H' b = some o
  new : ∀ b, H' b ≠ none → H b ≠ none ∨ w0.heap.size ≤ b
theorem Ext.refl (w0 : World) (H : PH) : Ext w0 H H := ⟨fun _ _ h => h, fun _ h => .inl h⟩
theorem Ext.trans {w0 : World} {H H' H'' : PH} (h : Ext w0 H H') (k : Ext w0 H' H'') : Ext w0 H H'' := ⟨fun b o hb => k.sub b o (h.sub b o hb), fun b hb => by
  rcases k.new b hb with h1 | h1
  · exact h.new b h1
  · exact .inr h1⟩
theorem Ext.lift {w0 w : World} {H H' : PH} (h : Ext w H H') (hw : w0.heap.size ≤ w.heap.size) : Ext w0 H H' := ⟨h.sub, fun b hb => (h.new b hb).imp id (fun h => Nat.le_trans hw h)⟩

section
variable {w0 w w' : World} {M : Nat → Prop} {H H' : PH} {L L' : List HA}
theorem Lds.le (hl : Lds [H] L w) : H.le w := hl.hs _ (.head _)
theorem St.le (hS : St w0 M [H] L w) : H.le w := hS.hs _ (.head _)
theorem St.up (hS : St w0 M [H] L w) : ∀ b o, H b = some o → hp w b = some o := fun b o h => St.le hS b o h
theorem St.extc (hS : St w0 M [H] L w) (h : Ext w H H') : Ext w0 H H' := h.lift hS.keep.size
theorem St.passH (hS : St w0 M [H] L w) (hk : Keep Nil w w') (he : Ext w H H') (hl : H'.le w') : St w0 M [H'] L w' := by
  have h1 := hS.pass hk
  refine ⟨h1.keep, fun h hh => by simp only [List.mem_cons, List.not_mem_nil, or_false] at hh; subst hh; exact hl, h1.ok, fun A hA b hb => ⟨(h1.own A hA b hb).1, fun h hh => ?_⟩, h1.disj⟩
  simp only [List.mem_cons, List.not_mem_nil, or_false] at hh; subst hh
  cases hx : h b with
  | none => rfl
  | some o =>
    rcases he.new b (by rw [hx]; simp) with h2 | h2
    · exact absurd ((hS.own A hA b hb).2 H (.head _)) h2
    · have := hS.fpLt hA hb; omega
/-- what is owned, and new, will not be written any more -/
theorem St.frz (hS : St w0 Nil [H] L w) {A : HA} (hp' : Pick A L L') : ∃ H' : PH, A.ok H' ∧ Ext w0 H H' ∧ St w0 Nil [H'] L' w := by
  classical
  have hA := hp'.mem
  have hnone : ∀ b, A.fp b → H b = none := fun b hb => (hS.own A hA b hb).2 H (.head _)
  refine ⟨fun b => if A.fp b then w.heap[b]? else H b, ?_, ⟨fun b o hb => ?_, fun b hb => ?_⟩, ?_⟩
  · exact A.loc _ _ (fun b hb => by simp [hb, hp]) (hS.ok A hA)
  · have : ¬ A.fp b := fun h => by rw [hnone b h] at hb; cases hb
    simp [this, hb]
  · by_cases h : A.fp b
    · exact .inr (((hS.own A hA b h).1).resolve_right id)
    · simp [h] at hb; exact .inl hb
  · have h1 := hS.drop hp'
    refine ⟨h1.keep, fun h hh => ?_, h1.ok, fun B hB b hb => ⟨(h1.own B hB b hb).1, fun h hh => ?_⟩, h1.disj⟩
    · simp only [List.mem_cons, List.not_mem_nil, or_false] at hh; subst hh
      intro b o hb
      by_cases h : A.fp b
      · simpa [h] using hb
      · simp [h] at hb; exact St.le hS b o hb
    · simp only [List.mem_cons, List.not_mem_nil, or_false] at hh; subst hh
      have := (hp'.pairwise hS.disj).2 B hB
      simp [show ¬ A.fp b from fun hA => this b hA hb]
      exact (h1.own B hB b hb).2 H (.head _)
theorem SlOk.capLe {e : TypeId} {sz : Nat} {oa : Option Addr} {n cap : Nat} {xs : List Value} {h : PH} (ho : SlOk e sz (.slice oa n cap) n xs h) : n ≤ cap := by
  obtain ⟨_, hn | ⟨g, cap', cur, hv, _, hnc, _⟩⟩ := ho
  · obtain ⟨hv, h0⟩ := hn; omega
  · simp only [Value.slice.injEq] at hv; obtain ⟨_, _, rfl⟩ := hv; exact hnc
/-- .. a slice -/
theorem St.frzS {α : Type} [Enc α] (hS : St w0 Nil [H] L w) {e : TypeId} {sz n cap : Nat} {oa : Option Addr} {vs : List Value} {xs : List α} (hp' : Pick (sla e sz oa n cap vs) L L') (hv : Rows H vs xs) :
    ∃ H' : PH, Ext w0 H H' ∧ SR H' oa xs ∧ n ≤ cap ∧ St w0 Nil [H'] L' w := by
  obtain ⟨H', h1, h2, h3⟩ := St.frz hS hp'
  exact ⟨H', h2, ⟨vs, SlOk.rd h1, hv.mono h2.sub⟩, SlOk.capLe h1, h3⟩
theorem St.frzB (hS : St w0 Nil [H] L w) {b : Nat} {o : Obj} (hp' : Pick (blk b o) L L') : ∃ H' : PH, Ext w0 H H' ∧ H' b = some o ∧ St w0 Nil [H'] L' w := by
  obtain ⟨H', h1, h2, h3⟩ := St.frz hS hp'
  exact ⟨H', h2, h1, h3⟩
theorem St.capO (hS : St w0 M [H] L w) {e : TypeId} {sz n cap : Nat} {oa : Option Addr} {vs : List Value} (hm : sla e sz oa n cap vs ∈ L) : n ≤ cap := SlOk.capLe (show SlOk e sz (.slice oa n cap) n vs _ from hS.ok _ hm)
theorem St.srO {α : Type} [Enc α] (hS : St w0 M [H] L w) {e : TypeId} {sz n cap : Nat} {oa : Option Addr} {vs : List Value} {xs : List α} (hm : sla e sz oa n cap vs ∈ L) (hv : Rows H vs xs) : SR (hp w) oa xs := ⟨vs, hS.rdO hm, hv.mono (St.up hS)⟩
theorem St.srH {α : Type} [Enc α] (hS : St w0 M [H] L w) {oa : Option Addr} {xs : List α} (hr : SR H oa xs) : SR (hp w) oa xs := hr.mono (St.up hS)
theorem St.blkO (hS : St w0 M [H] L w) {b : Nat} {o : Obj} (hm : blk b o ∈ L) : hp w b = some o := hS.ok _ hm
end

section
variable {P : Program} {N : FN} {F : List (Nat × Value)} {a : Act} {w : World} {d : Option Tmp} {ty : TypeId} {pos : String} {af : Array Edge} {g : Option (Nat × Bool)}

theorem e_as {o : Oper} {v v' : Value} (h : (execOp a.eval o).run P w = .ok (.value v) w) (e : v = v') : (execOp a.eval o).run P w = .ok (.value v') w := e ▸ h

theorem e_iaI {α : Type} {x y : Operand} {t e : TypeId} {k : IntKind} {j : Int} {sz c : Nat} {oa : Option Addr} {xs : List α} {z : α}
    (hF : Fr N F a) (hu : ∀ w, (underlying t).run P w = .ok (.slice e) w) (hz : ∀ w, (sizeOf e).run P w = .ok sz w)
    (hx : opv F x = some (.slice oa xs.length c)) (hy : opv F y = some (.int k j)) (hg : getI xs j = some z) (hoa : oa = some ⟨(adr oa).block, (adr oa).off, none⟩) :
    (execOp a.eval ⟨d, .indexAddr t x y, ty, pos, af, g⟩).run P w = .ok (.value (.pointer (some ⟨(adr oa).block, (adr oa).off + j.toNat * sz, none⟩))) w :=
  e_ia hF hu hz hx hy (by have := (getI_lt hg).1; omega) (getI_lt hg).2 hoa

theorem e_lenL {α : Type} (hF : Fr N F a) {x : Operand} {t e : TypeId} {oa : Option Addr} {xs : List α} {c : Nat} (hu : ∀ w, (underlying t).run P w = .ok (.slice e) w) (hx : opv F x = some (.slice oa xs.length c)) :
    (execOp a.eval ⟨d, .call ⟨.builtin .len, #[x], #[t]⟩, ty, pos, af, g⟩).run P w = .ok (.value (.int .i64 (xs.length : Int))) w := e_lenS hF hu hx
theorem e_lenU (hF : Fr N F a) {x : Operand} {t : TypeId} {s : Str} (hu : ∀ w, (underlying t).run P w = .ok .string w) (hx : opv F x = some (strv s)) :
    (execOp a.eval ⟨d, .call ⟨.builtin .len, #[x], #[t]⟩, ty, pos, af, g⟩).run P w = .ok (.value (.int .i64 (s.length : Int))) w := e_lenT hF hu hx

theorem strv_list (s : Str) : (⟨s.toArray⟩ : ByteArray).toList = s := by rw [ByteArray.toList_eq]
theorem e_eqlU (hF : Fr N F a) {x y : Operand} {t u : TypeId} {m n : Str} (hx : opv F x = some (strv m)) (hy : opv F y = some (strv n)) :
    (execOp a.eval ⟨d, .binOp .eql t x y u, ty, pos, af, g⟩).run P w = .ok (.value (.bool (decide (m = n)))) w := by
  rw [e_eqlS hF hx hy, strv_list, strv_list]
  congr 2
  by_cases e : m = n <;> simp [e]
theorem e_neqU (hF : Fr N F a) {x y : Operand} {t u : TypeId} {m n : Str} (hx : opv F x = some (strv m)) (hy : opv F y = some (strv n)) :
    (execOp a.eval ⟨d, .binOp .neq t x y u, ty, pos, af, g⟩).run P w = .ok (.value (.bool (decide (m ≠ n)))) w := by
  rw [e_neqS hF hx hy, strv_list, strv_list]
  congr 2
  by_cases e : m = n <;> simp [e]
theorem e_catU (hF : Fr N F a) {x y : Operand} {t u : TypeId} {m n r : Str} (hx : opv F x = some (strv m)) (hy : opv F y = some (strv n)) (hg : catG m n = some r) :
    (execOp a.eval ⟨d, .binOp .add t x y u, ty, pos, af, g⟩).run P w = .ok (.value (strv r)) w := by
  obtain ⟨h1, rfl⟩ := catG_some hg
  have hs1 : (⟨m.toArray⟩ : ByteArray).size = m.length := rfl
  have hs2 : (⟨n.toArray⟩ : ByteArray).size = n.length := rfl
  have hle : ¬ (IntKind.i64.max < ((m.length + n.length : Nat) : Int)) := by
    have : IntKind.i64.max = 9223372036854775807 := by decide
    omega
  have happ : (⟨m.toArray⟩ : ByteArray) ++ ⟨n.toArray⟩ = ⟨(m ++ n).toArray⟩ := by
    apply ByteArray.ext
    simp
  have hst : (Op.stringOp .add ⟨m.toArray⟩ ⟨n.toArray⟩).run P w = .ok (strv (m ++ n)) w := by
    unfold Op.stringOp
    simp only [hs1, hs2]
    rw [if_neg hle, happ]
    rfl
  simp [execOp, hF.ev hx, hF.ev hy, eqGuard, binOp, strv, hst]

theorem e_divI (hF : Fr N F a) {x y : Operand} {t u : TypeId} {k : IntKind} {m n r : Int} (hx : opv F x = some (.int k m)) (hy : opv F y = some (.int k n)) (hg : divI k m n = some r) :
    (execOp a.eval ⟨d, .binOp .quo t x y u, ty, pos, af, g⟩).run P w = .ok (.value (.int k r)) w := by
  unfold divI at hg
  split at hg
  · cases hg
  · rename_i hn; cases hg; exact e_quo hF hx hy hn
theorem e_remI (hF : Fr N F a) {x y : Operand} {t u : TypeId} {k : IntKind} {m n r : Int} (hx : opv F x = some (.int k m)) (hy : opv F y = some (.int k n)) (hg : remI m n = some r) :
    (execOp a.eval ⟨d, .binOp .rem t x y u, ty, pos, af, g⟩).run P w = .ok (.value (.int k r)) w := by
  unfold remI at hg
  split at hg
  · cases hg
  · rename_i hn; cases hg; exact e_rem hF hx hy hn
theorem e_shlI (hF : Fr N F a) {x y : Operand} {t u : TypeId} {k yk : IntKind} {m n r : Int} (hx : opv F x = some (.int k m)) (hy : opv F y = some (.int yk n)) (hg : shlI k m n = some r) :
    (execOp a.eval ⟨d, .binOp .shl t x y u, ty, pos, af, g⟩).run P w = .ok (.value (.int k r)) w := by
  unfold shlI at hg
  split at hg
  · cases hg
  · rename_i hn; cases hg; exact e_shl hF hx hy (by omega)
theorem e_shrI (hF : Fr N F a) {x y : Operand} {t u : TypeId} {k yk : IntKind} {m n r : Int} (hx : opv F x = some (.int k m)) (hy : opv F y = some (.int yk n)) (hg : shrI k m n = some r) :
    (execOp a.eval ⟨d, .binOp .shr t x y u, ty, pos, af, g⟩).run P w = .ok (.value (.int k r)) w := by
  unfold shrI at hg
  split at hg
  · cases hg
  · rename_i hn; cases hg; exact e_shr hF hx hy (by omega)
theorem e_band (hF : Fr N F a) {x y : Operand} {t u : TypeId} {k : IntKind} {m n : Int} (hx : opv F x = some (.int k m)) (hy : opv F y = some (.int k n)) :
    (execOp a.eval ⟨d, .binOp .and t x y u, ty, pos, af, g⟩).run P w = .ok (.value (.int k (iand k m n))) w := by
  simp [execOp, hF.ev hx, hF.ev hy, eqGuard, binOp, Op.intBits, iand]
theorem e_bor (hF : Fr N F a) {x y : Operand} {t u : TypeId} {k : IntKind} {m n : Int} (hx : opv F x = some (.int k m)) (hy : opv F y = some (.int k n)) :
    (execOp a.eval ⟨d, .binOp .or t x y u, ty, pos, af, g⟩).run P w = .ok (.value (.int k (ior k m n))) w := by
  simp [execOp, hF.ev hx, hF.ev hy, eqGuard, binOp, Op.intBits, ior]
theorem e_bxor (hF : Fr N F a) {x y : Operand} {t u : TypeId} {k : IntKind} {m n : Int} (hx : opv F x = some (.int k m)) (hy : opv F y = some (.int k n)) :
    (execOp a.eval ⟨d, .binOp .xor t x y u, ty, pos, af, g⟩).run P w = .ok (.value (.int k (ixor k m n))) w := by
  simp [execOp, hF.ev hx, hF.ev hy, eqGuard, binOp, Op.intBits, ixor]
theorem e_cvt (hF : Fr N F a) {x : Operand} {s t : TypeId} {sd : TypeDesc} {k k' : IntKind} {n : Int} (hs : ∀ w, (underlying s).run P w = .ok sd w) (hu : ∀ w, (underlying t).run P w = .ok (.int k) w) (hx : opv F x = some (.int k' n)) :
    (execOp a.eval ⟨d, .convert s t x, ty, pos, af, g⟩).run P w = .ok (.value (.int k (k.wrap n))) w := by
  cases sd <;> simp [execOp, hF.ev hx, convert, hs, hu, Conv.intToInt]
theorem e_mkf (hF : Fr N F a) {fn : Fn} {l : List Operand} {vs : List Value} (hargs : argv F l vs) :
    (execOp a.eval ⟨d, .makeFunc fn #[] l.toArray, ty, pos, af, g⟩).run P w = .ok (.value (.func fn #[] vs.toArray)) w := by
  simp [execOp, Instr.makeFunc, argv_map hF hargs]
theorem e_byte (hF : Fr N F a) {x y : Operand} {t : TypeId} {k : IntKind} {s : Str} {i r : Int} (hu : ∀ w, (underlying t).run P w = .ok .string w) (hx : opv F x = some (strv s)) (hy : opv F y = some (.int k i)) (hg : byteI s i = some r) :
    (execOp a.eval ⟨d, .index t x y, ty, pos, af, g⟩).run P w = .ok (.value (.int .u8 r)) w := by
  obtain ⟨b, h1, rfl⟩ := byteI_some hg
  have h2 := getI_some h1
  have hlt : i.toNat < s.length := (getI_lt h1).2
  have h3 : (⟨s.toArray⟩ : ByteArray)[i.toNat]? = some b := by
    have : i.toNat < (⟨s.toArray⟩ : ByteArray).size := hlt
    rw [getElem?_pos (⟨s.toArray⟩ : ByteArray) i.toNat this]
    congr 1
    have h4 := (List.getElem?_eq_some_iff.1 h2.2).2
    show s.toArray[i.toNat]'hlt = b
    simpa using h4
  have h4 : (Instr.index t (strv s) (.int k i)).run P w = .ok (.int .u8 b.toNat) w := by
    simp only [Instr.index, asIntOf, strv, Sem.run_bind, Sem.run_pure, Result.andThen_ok, hu, if_pos h2.1, h3]
  simp [execOp, hF.ev hx, hF.ev hy, h4]

theorem e_subL {α : Type} (hF : Fr N F a) {x : Operand} {lo hi : Option Operand} {t e : TypeId} {sz c cap' : Nat} {oa oa' : Option Addr} {vl vh : Int} {xs ys : List α}
    (hu : ∀ w, (underlying t).run P w = .ok (.slice e) w) (hz : ∀ w, (sizeOf e).run P w = .ok sz w)
    (hx : opv F x = some (.slice oa xs.length c)) (hc : xs.length ≤ c)
    (hlo : match lo with | some o => opv F o = some (.int .i64 vl) | none => vl = 0)
    (hhi : match hi with | some o => opv F o = some (.int .i64 vh) | none => vh = (xs.length : Int))
    (hg : subI xs vl vh = some ys) (ho : subOa oa c vl.toNat sz = oa') (hc' : c - vl.toNat = cap') :
    (execOp a.eval ⟨d, .slice t x lo hi none, ty, pos, af, g⟩).run P w = .ok (.value (.slice oa' ys.length cap')) w := by
  obtain ⟨h0, h1, h2, rfl⟩ := subI_some hg
  have := e_sl (P := P) (w := w) (d := d) (ty := ty) (pos := pos) (af := af) (g := g) hF (lo := lo) (hi := hi) (l := vl.toNat) (h := vh.toNat) (vl := vl) (vh := vh) hu hz hx
    (by cases lo with | none => subst hlo; rfl | some o => exact ⟨hlo, by omega⟩) (by cases hi with | none => subst hhi; simp | some o => exact ⟨hhi, by omega⟩) (by omega) (by omega)
  rw [this, ← ho, ← hc']
  have e1 : ((xs.take vh.toNat).drop vl.toNat).length = vh.toNat - vl.toNat := by simp; omega
  rw [e1]; rfl
theorem e_subU (hF : Fr N F a) {x : Operand} {lo hi : Option Operand} {t : TypeId} {vl vh : Int} {s r : Str}
    (hu : ∀ w, (underlying t).run P w = .ok .string w) (hx : opv F x = some (strv s))
    (hlo : match lo with | some o => opv F o = some (.int .i64 vl) | none => vl = 0)
    (hhi : match hi with | some o => opv F o = some (.int .i64 vh) | none => vh = (s.length : Int))
    (hg : subI s vl vh = some r) :
    (execOp a.eval ⟨d, .slice t x lo hi none, ty, pos, af, g⟩).run P w = .ok (.value (strv r)) w := by
  obtain ⟨h0, h1, h2, rfl⟩ := subI_some hg
  have hs : (⟨s.toArray⟩ : ByteArray).size = s.length := rfl
  have hex : (⟨s.toArray⟩ : ByteArray).extract vl.toNat vh.toNat = ⟨((s.take vh.toNat).drop vl.toNat).toArray⟩ := by
    apply ByteArray.ext
    rw [ByteArray.data_extract]
    apply Array.ext'
    simp [List.drop_take]
  have hsl : (Instr.sliceAt t (strv s) (lo.map a.eval) (hi.map a.eval) none).run P w = .ok (strv ((s.take vh.toNat).drop vl.toNat)) w := by
    cases lo with
    | none =>
      subst hlo
      cases hi with
      | none => subst hhi; simp only [Int.toNat_zero, Int.toNat_natCast] at hex; simp [Instr.sliceAt, hu, Instr.slice, Instr.sliceBounds, strv, hs, hex]
      | some o => simp only [Int.toNat_zero] at hex; simp [Instr.sliceAt, hu, Instr.slice, Instr.sliceBounds, strv, hF.ev hhi, Instr.sliceBound, asIntOf, hs, h2, show (0 : Int) ≤ vh by omega, hex]
    | some o' =>
      cases hi with
      | none => subst hhi; simp only [Int.toNat_natCast] at hex; simp [Instr.sliceAt, hu, Instr.slice, Instr.sliceBounds, strv, hF.ev hlo, Instr.sliceBound, asIntOf, hs, h0, h1, hex]
      | some o => simp [Instr.sliceAt, hu, Instr.slice, Instr.sliceBounds, strv, hF.ev hlo, hF.ev hhi, Instr.sliceBound, asIntOf, hs, h0, h2, show (0 : Int) ≤ vh by omega, show vl ≤ ((vh.toNat : Nat) : Int) by omega, show ¬ (max vh 0 < vl) by omega, hex]
  simp only [Option.map] at hsl
  simp [execOp, hF.ev hx, hsl, Option.map]
end

section
variable {P : Program} {ops : Array Oper} {Q : Exit → Act → World → Prop} {a : Act} {w : World} {N : FN} {F : List (Nat × Value)}
  {w0 : World} {M : Nat → Prop} {H : PH} {L L' : List HA} {K : Act → World → Prop}
  {d : Nat} {ty : TypeId} {pos : String} {af : Array Edge}

/-- append -/
theorem m_app {α : Type} [Enc α] {t e : TypeId} {z : Value} {sz bytes : Nat} {x y : Operand} {oa ob : Option Addr} {cap c : Nat} {xs ys zs : List α} {vs us : List Value}
    (hF : Fr N F a) (hN : Nat.blt d N.n = true) (hS : St w0 M [H] L w)
    (ht : P.underlying t = some (.slice e)) (hinfo : (P.info? e).map (fun i => (i.zero, i.size, i.bytes)) = some (some z, sz, bytes)) (hzs : z.cells.size = sz) (hsz : 0 < sz) (hz : Enc.sz α = sz)
    (hx : opv F x = some (.slice oa xs.length cap)) (hy : opv F y = some (.slice ob ys.length c)) (hmem : sla e sz oa xs.length cap vs ∈ L) (hv : Rows H vs xs)
    (hrd : Rd (hp w) ob us) (hu : Rows H us ys) (hg : appG bytes xs ys = some zs)
    (k : ∀ oa' cap' vs' w a, Rows H vs' zs → (∀ L', Repl (sla e sz oa xs.length cap vs) (sla e sz oa' zs.length cap' vs') L L' → St w0 M [H] L' w) → Fr N ((d, .slice oa' zs.length cap') :: F) a → K a w) :
    stp P ops Q ⟨some d, .call ⟨.builtin .append, #[x, y], #[t, t]⟩, ty, pos, af, none⟩ a w K := by
  obtain ⟨h1, h2, rfl⟩ := appG_some hg
  refine apI hF hN hS ht hinfo hzs hsz hx hy hmem (by rw [hu.len, hz]) hrd hu.one h1 (by unfold maxLen; omega) fun oa' cap' w a hU hF => ?_
  rw [← List.length_append] at hU hF
  exact k oa' cap' (vs ++ us) w a (hv.app hu) hU hF

/-- make, of cells that stand one by one -/
theorem m_mk {α : Type} [Enc α] {t e : TypeId} {z : Value} {bytes : Nat} {x y : Operand} {n : Int} {zz : α} {xs : List α} (hF : Fr N F a) (hN : Nat.blt d N.n = true) (hS : St w0 M [H] L w)
    (ht : P.underlying t = some (.slice e)) (hinfo : (P.info? e).map (fun i => (i.zero, i.size, i.bytes)) = some (some z, 1, bytes)) (hzc : z.cells = #[z]) (hrep : Enc.rep H [z] zz)
    (hx : opv F x = some (.int .i64 n)) (hy : opv F y = some (.int .i64 n)) (hg : mkL bytes n zz = some xs)
    (k : ∀ b vs w a, Rows H vs xs → St w0 M [H] (sla e 1 (some ⟨b, 0, none⟩) xs.length xs.length vs :: L) w → Fr N ((d, .slice (some ⟨b, 0, none⟩) xs.length xs.length) :: F) a → K a w) :
    stp P ops Q ⟨some d, .makeSlice t x y, ty, pos, af, none⟩ a w K := by
  obtain ⟨h0, h1, h2, rfl⟩ := mkL_some hg
  have e : ((n.toNat : Nat) : Int) = n := by omega
  refine mk_sl (n := n.toNat) hF hN hS ht hinfo hzc (by rw [e]; exact hx) (by rw [e]; exact hy) (by omega) (by unfold maxLen; omega) fun b w a hS hF => ?_
  have hl : (List.replicate n.toNat zz).length = n.toNat := List.length_replicate
  rw [← hl] at hS hF
  refine k b _ w a ?_ hS hF
  rw [hl]
  exact Rows.rep hrep _

/-- a store into a slice that is owned, of one cell -/
theorem s_slI {α : Type} [Enc α] {t e : TypeId} {x y : Operand} {i : Int} {cap : Nat} {oa : Option Addr} {v : Value} {vs : List Value} {xs xs' : List α} {nx : α} (hF : Fr N F a) (hS : St w0 M [H] L w) (hz : ∀ w, (sizeOf t).run P w = .ok 1 w) (h1 : Enc.sz α = 1)
    (hx : opv F x = some (.pointer (some ⟨(adr oa).block, (adr oa).off + i.toNat * 1, none⟩))) (hy : opv F y = some v) (hv : v.cells = #[v])
    (hr : Rows H vs xs) (hrep : Enc.rep H [v] nx) (hg : setI xs i nx = some xs')
    (hrl : Repl (sla e 1 oa xs.length cap vs) (sla e 1 oa xs'.length cap (vs.set (i.toNat * 1) v)) L L')
    (k : ∀ w, Rows H (vs.set (i.toNat * 1) v) xs' → St w0 M [H] L' w → K a w) : stp P ops Q ⟨none, .store t x y, ty, pos, af, none⟩ a w K := by
  obtain ⟨h2, h3, rfl⟩ := setI_some hg
  have hl := hr.len
  rw [h1] at hl
  rw [List.length_set] at hrl
  refine s_sl hF hS hz hx hy hv (Enc.one hrep v (.head _)) hrl (by omega) fun w hS => k w (hr.put1 h1 hrep h3) hS

/-- calls of closures -/
theorem exec_clos {f : FuncId} {caps : Array Value} {x : Operand} {l : List Operand} {vs : List Value} {at_ : Array TypeId} {d : Option Tmp} {g : Option (Nat × Bool)}
    (hx : a.eval x = .func (.func f) #[] caps) (hargs : l.map a.eval = vs) (hen : (callFunc f (vs.toArray ++ caps)).run P w = .ok (.enter f (vs.toArray ++ caps)) w) :
    (execOp a.eval ⟨d, .call ⟨.value x, l.toArray, at_⟩, ty, pos, af, g⟩).run P w = .ok (.enter f (vs.toArray ++ caps)) w := by
  have e : (Array.map a.eval l.toArray) = vs.toArray := by rw [List.map_toArray, hargs]
  simp [execOp, resolve, invoke, Deferred.ofValue, hx, hargs, hen]
theorem k1 {f : FuncId} {caps : List Value} {x : Operand} {l : List Operand} {vs us : List Value} {at_ : Array TypeId} {R : Value → World → Prop}
    (hF : Fr N F a) (hN : Nat.blt d N.n = true) (hx : opv F x = some (.func (.func f) #[] caps.toArray)) (hen : ∀ (x : Array Value) (w : World), (callFunc f x).run P w = .ok (.enter f x) w) (hc : Tot P f us.toArray w R) (hargs : argv F l vs) (hus : vs ++ caps = us)
    (k : ∀ v w' a, R v w' → Fr N ((d, v) :: F) a → K a w') : stp P ops Q ⟨some d, .call ⟨.value x, l.toArray, at_⟩, ty, pos, af, none⟩ a w K := by
  refine stp_of_wp rfl ?_
  unfold Oper.wp
  have e1 : vs.toArray ++ caps.toArray = us.toArray := by rw [← hus]; simp
  rw [exec_clos (hF.ev hx) (argv_map hF hargs) (hen _ _), e1]
  refine Calls.mono hc ?_
  rintro e w' ⟨v, rfl, hR⟩
  exact k v w' _ hR (hF.put (by simpa [Nat.blt_eq] using hN) v)
end

/-! ### besides -/
class EncF (α : Type) extends Enc α where
  ind : ∀ {h h' : PH} {cs : List Value} {x : α}, rep h cs x → rep h' cs x
instance : EncF Int := { ind := fun h => h }
instance : EncF Bool := { ind := fun h => h }
instance : EncF (List UInt8) := { ind := fun h => h }
instance {k : IntKind} : EncF (IntK k) := { ind := fun h => h }
instance {α β : Type} [EncF α] [EncF β] : EncF (α × β) := { ind := fun ⟨c1, c2, e, h1, h2⟩ => ⟨c1, c2, e, EncF.ind h1, EncF.ind h2⟩ }
theorem Rows.ind {α : Type} [EncF α] {h h' : PH} {vs : List Value} {xs : List α} (hr : Rows h vs xs) : Rows h' vs xs := by
  induction hr with
  | nil => exact .nil
  | cons hc _ ih => exact .cons (EncF.ind hc) ih

theorem bdich (b : Bool) : b = true ∨ b = false := by cases b <;> simp

section
variable {P : Program} {ops : Array Oper} {Q : Exit → Act → World → Prop} {a : Act} {w : World} {N : FN} {F : List (Nat × Value)}
  {w0 : World} {M : Nat → Prop} {H H0 : PH} {L L' : List HA} {K : Act → World → Prop}
  {ty : TypeId} {pos : String} {af : Array Edge}

theorem ctv {ro : Option Nat} {c : Operand} {x y : Code} {b : Bool} (hF : Fr N F a) (hc : opv F c = some (.bool b)) (hb : b = true) (h : wq ro P x Q a w) : wq ro P (Code.cond c x y) Q a w := ct hF (by rw [hc, hb]) h
theorem cfv {ro : Option Nat} {c : Operand} {x y : Code} {b : Bool} (hF : Fr N F a) (hc : opv F c = some (.bool b)) (hb : b = false) (h : wq ro P y Q a w) : wq ro P (Code.cond c x y) Q a w := cf hF (by rw [hc, hb]) h
/-- the ways through x meet in R -/
theorem midK {ro : Option Nat} {x : Code} {K : Act → World → Prop} (R : Act → World → Prop) (h1 : wq ro P x (Exit.then R Q) a w) (h2 : ∀ a w, R a w → K a w) : wq ro P x (Exit.then K Q) a w :=
  wpIn_mono h1 fun e a w h => by cases e <;> first | exact h2 _ _ h | exact h
theorem e_pickB {d : Option Tmp} {g : Option (Nat × Bool)} (hF : Fr N F a) {c x y : Operand} {b m n : Bool} (hc : opv F c = some (.bool b)) (hx : opv F x = some (.bool m)) (hy : opv F y = some (.bool n)) :
    (execOp a.eval ⟨d, .pick c x y, ty, pos, af, g⟩).run P w = .ok (.value (.bool (cond b m n))) w := by
  cases b <;> simp [execOp, hF.ev hx, hF.ev hy, hF.ev hc, asBool]
theorem St.ldsX (hS : St w0 M [H] L w) (hs : ∀ b o, H0 b = some o → H b = some o) (hL : ∀ A ∈ L', A ∈ L) : Lds [H0] L' w :=
  ⟨fun x hx => by simp only [List.mem_cons, List.not_mem_nil, or_false] at hx; subst hx; exact fun b o h => St.le hS b o (hs b o h), fun A hA => hS.ok A (hL A hA)⟩
theorem cellsR {b : Nat} {vs : List Value} {e : TypeId} {f : Nat × Nat} (hl : H.le w) (hb : H b = some (.cells vs.toArray e f)) :
    ∀ (j : Nat) (v : Value), vs[j]? = some v → w.cell? ⟨b, 0 + j, none⟩ = some v := fun j v hv => by
  rw [Nat.zero_add]; exact PH.le.cell hl (ph_cell hb (by simpa [nth_eq] using hv))
theorem e_bldK {d : Option Tmp} {g : Option (Nat × Bool)} {t : TypeId} {parts : List (Nat × Operand)} (vs : List Value) (cs : List Value) (hF : Fr N F a) (hargs : argv F (parts.map (·.2)) vs)
    (hr : ∀ w, (Instr.build t ((parts.map (·.1)).zip vs).toArray).run P w = .ok (.agg cs.toArray) w) :
    (execOp a.eval ⟨d, .build t parts.toArray, ty, pos, af, g⟩).run P w = .ok (.value (.agg cs.toArray)) w := exec_build hF hargs (hr w)
theorem start1 (hH : H.le w) : St w Nil [H] [] w := .start (fun x hx => by simp only [List.mem_cons, List.not_mem_nil, or_false] at hx; subst hx; exact hH)

/-- an array's element -/
theorem e_ix1 {d : Option Tmp} {g : Option (Nat × Bool)} {x y : Operand} {t e : TypeId} {k : IntKind} {n : Nat} {i : Int} {vs : List Value} {v : Value} {α : Type} {l : List α} {z : α} (hF : Fr N F a)
    (hu : ∀ w, (underlying t).run P w = .ok (.array n e) w) (hz : ∀ w, (sizeOf e).run P w = .ok 1 w) (hg : ∀ w, (isAgg e).run P w = .ok false w)
    (hx : opv F x = some (.agg vs.toArray)) (hy : opv F y = some (.int k i)) (hl : l.length = n) (hi : getI l i = some z) (hv : vs[i.toNat * 1]? = some v) :
    (execOp a.eval ⟨d, .index t x y, ty, pos, af, g⟩).run P w = .ok (.value v) w := by
  obtain ⟨h1, h2⟩ := getI_lt hi
  have h3 : 0 ≤ i ∧ i < (n : Int) := ⟨h1, by omega⟩
  have h4 : (Instr.index t (.agg vs.toArray) (.int k i)).run P w = .ok v w := by
    simp only [Instr.index, asIntOf, Sem.run_bind, Sem.run_pure, Result.andThen_ok, hu, if_pos h3, hz, part, hg, Bool.false_eq_true, if_false]
    have : (vs.toArray)[i.toNat * 1]? = some v := by simpa using hv
    rw [this]; rfl
  simp [execOp, hF.ev hx, hF.ev hy, h4]
theorem e_ixA {d : Option Tmp} {g : Option (Nat × Bool)} {x y : Operand} {t e : TypeId} {k : IntKind} {n sz : Nat} {i : Int} {vs cs : List Value} {α : Type} {l : List α} {z : α} (hF : Fr N F a)
    (hu : ∀ w, (underlying t).run P w = .ok (.array n e) w) (hz : ∀ w, (sizeOf e).run P w = .ok sz w) (hg : ∀ w, (isAgg e).run P w = .ok true w)
    (hx : opv F x = some (.agg vs.toArray)) (hy : opv F y = some (.int k i)) (hl : l.length = n) (hi : getI l i = some z) (hc : cs.length = sz) (hv : ∀ (j : Nat) (v : Value), cs[j]? = some v → vs[i.toNat * sz + j]? = some v) :
    (execOp a.eval ⟨d, .index t x y, ty, pos, af, g⟩).run P w = .ok (.value (.agg cs.toArray)) w := by
  obtain ⟨h1, h2⟩ := getI_lt hi
  have h3 : 0 ≤ i ∧ i < (n : Int) := ⟨h1, by omega⟩
  have hex : vs.toArray.extract (i.toNat * sz) (i.toNat * sz + sz) = cs.toArray := by
    apply Array.ext'
    rw [List.extract_toArray, List.toList_toArray, List.extract_eq_take_drop]
    apply List.ext_getElem?
    intro j
    by_cases hj : j < sz
    · rw [show i.toNat * sz + sz - i.toNat * sz = sz by omega, List.getElem?_take, if_pos hj, List.getElem?_drop]
      rw [hv j cs[j] (by simp [hc, hj])]
      simp [hc, hj]
    · rw [List.getElem?_eq_none (by simp; omega), List.getElem?_eq_none (by simp; omega)]
  have h4 : (Instr.index t (.agg vs.toArray) (.int k i)).run P w = .ok (.agg cs.toArray) w := by
    simp only [Instr.index, asIntOf, Sem.run_bind, Sem.run_pure, Result.andThen_ok, hu, if_pos h3, hz, part, hg, if_true, hex]
  simp [execOp, hF.ev hx, hF.ev hy, h4]
theorem e_cvtS {d : Option Tmp} {g : Option (Nat × Bool)} {x : Operand} {s t : TypeId} {u : Str} (hF : Fr N F a) (hs : ∀ w, (underlying s).run P w = .ok .string w) (ht : ∀ w, (underlying t).run P w = .ok .string w) (hx : opv F x = some (strv u)) :
    (execOp a.eval ⟨d, .convert s t x, ty, pos, af, g⟩).run P w = .ok (.value (strv u)) w := by
  simp [execOp, hF.ev hx, convert, hs, ht, strv]

/-- a store into a slice that is owned, of one cell -/
theorem s_slJ {α : Type} [Enc α] {t e : TypeId} {x y : Operand} {i : Int} {cap : Nat} {oa : Option Addr} {v : Value} {vs : List Value} {xs xs' : List α} {nx : α} (hF : Fr N F a) (hS : St w0 M [H] L w) (hz : ∀ w, (sizeOf t).run P w = .ok 1 w) (h1 : Enc.sz α = 1)
    (hx : opv F x = some (.pointer (some ⟨(adr oa).block, (adr oa).off + i.toNat * 1, none⟩))) (hy : opv F y = some v) (hv : v.cells = #[v])
    (hr : Rows H vs xs) (hrep : Enc.rep H [v] nx) (hg : setI xs i nx = some xs') (hm : sla e 1 oa xs.length cap vs ∈ L)
    (k : ∀ vs' w, Rows H vs' xs' → (∀ L', Repl (sla e 1 oa xs.length cap vs) (sla e 1 oa xs'.length cap vs') L L' → St w0 M [H] L' w) → K a w) : stp P ops Q ⟨none, .store t x y, ty, pos, af, none⟩ a w K := by
  obtain ⟨h2, h3, rfl⟩ := setI_some hg
  have hl := hr.len
  rw [h1] at hl
  have hll : (xs.set i.toNat nx).length = xs.length := List.length_set
  rw [hll] at k
  have hi : i.toNat * 1 < vs.length := by omega
  have key : ∀ {L : List HA}, sla e 1 oa xs.length cap vs ∈ L → ∃ L', Repl (sla e 1 oa xs.length cap vs) (sla e 1 oa xs.length cap (vs.set (i.toNat * 1) v)) L L' := by
    intro L hm
    induction L with
    | nil => cases hm
    | cons A L ih =>
      rcases List.mem_cons.1 hm with rfl | hm
      · exact ⟨_, .head⟩
      · obtain ⟨L', h⟩ := ih hm; exact ⟨_, .tail h⟩
  obtain ⟨L1, hr1⟩ := key hm
  obtain ⟨hc, hf, _⟩ := st_sl hS hr1 hi
  refine m0 (w' := w.setCell ⟨(adr oa).block, (adr oa).off + i.toNat * 1, none⟩ v) ?_ (k _ _ (hr.put1 h1 hrep h3) fun L' hr' => (st_sl hS hr' hi).2.2)
  have hst := run_store1 (P := P) hz hv (Enc.one hrep v (.head _)) hc hf
  simp only [execOp, hF.ev hx, hF.ev hy, Sem.run_bind, hst, Result.andThen_ok, Sem.run_pure]
end

section
variable {P : Program} {a : Act} {w : World} {N : FN} {F : List (Nat × Value)}
/-- a result that stands in a block -/
theorem r1c {fn : Func} {t b n : Nat} {ty : TypeId} {vs : List Value} {R : Value → World → Prop} {how : Exit} (hh : how = .ret ∨ how = .normal) (hF : Fr N F a) (hr : fn.results = #[.cell t ty]) (ht : F.lookup t = some (.pointer (some ⟨b, 0, none⟩)))
    (hg : ∀ w, (isAgg ty).run P w = .ok true w) (hz : ∀ w, (sizeOf ty).run P w = .ok n w) (hn : vs.length = n) (hc : ∀ (j : Nat) (v : Value), vs[j]? = some v → w.cell? ⟨b, 0 + j, none⟩ = some v) (h : R (.agg vs.toArray) w) (hds : N.ds = [] := by rfl) :
    bodyPost P fn (fun e w' => ∃ v, e = .returned v ∧ R v w') how a w := by
  have h1 := run_loadCells_list (P := P) w ⟨b, 0, none⟩ vs (fun j v hv => by rw [addLit]; exact hc j v hv)
  rw [hn] at h1
  have h2 : (results fn a.tmps).run P w = .ok (.agg vs.toArray) w := by
    have := hF.slots t _ ht
    simp [results, hr, this, asAddr, loadVar, hg, hz, h1]
  rcases hh with rfl | rfl
  · exact bodyPost_ret h2 (hF.defers.trans (by rw [hds]; rfl)) ⟨_, rfl, h⟩
  · exact bodyPost_end h2 (hF.defers.trans (by rw [hds]; rfl)) ⟨_, rfl, h⟩
end

/-! ### nil, parts, bytes -/
theorem SR.none {α : Type} [Enc α] {h : PH} {oa : Option Addr} {xs : List α} (hr : SR h oa xs) (hs : 0 < Enc.sz α) (ho : oa.isNone = true) : xs = [] := by
  obtain ⟨vs, h1, h2⟩ := hr
  cases xs with
  | nil => rfl
  | cons x r =>
    have := h1.some (h2.ne hs (by simp))
    rw [this] at ho; cases ho
theorem cloneNil {α : Type} [Enc α] {h : PH} {oa : Option Addr} {xs r : List α} {b : Nat} (hr : SR h oa xs) (hs : 0 < Enc.sz α) (ho : oa.isNone = true) (hm : appG b ([] : List α) xs = some r) : xs = [] ∧ r = [] := by
  have := SR.none hr hs ho
  subst this
  exact ⟨rfl, (appG_some hm).2.2⟩
theorem Lds.cellsP {Hs : List PH} {L : List HA} {w : World} (hs : Lds Hs L w) {b : Nat} {pre vs post : List Value} {e : TypeId} {f : Nat × Nat} (hA : blk b (.cells (pre ++ (vs ++ post)).toArray e f) ∈ L) :
    ∀ (j : Nat) (v : Value), vs[j]? = some v → w.cell? ⟨b, pre.length + j, none⟩ = some v := fun j v h => by
  refine Go.LL.Lds.cellB hs hA ?_
  rw [nth_eq, List.getElem?_append_right (by omega), Nat.add_sub_cancel_left, List.getElem?_append_left (List.getElem?_eq_some_iff.1 h).1]
  exact h
theorem cellsPR {w : World} {h : PH} (hl : h.le w) {b : Nat} {pre vs post : List Value} {e : TypeId} {f : Nat × Nat} (hb : h b = some (.cells (pre ++ (vs ++ post)).toArray e f)) :
    ∀ (j : Nat) (v : Value), vs[j]? = some v → w.cell? ⟨b, pre.length + j, none⟩ = some v := fun j v hv => by
  refine PH.le.cell hl (ph_cell hb ?_)
  rw [nth_eq, List.getElem?_append_right (by omega), Nat.add_sub_cancel_left, List.getElem?_append_left (List.getElem?_eq_some_iff.1 hv).1]
  exact hv
theorem Rows.u8 {h : PH} {us : List Value} {xs : List (IntK .u8)} (hr : Rows h us xs) : us = (xs.map (·.v)).map (Value.int .u8) := by
  induction hr with
  | nil => rfl
  | cons hc _ ih => rw [ih, hc]; rfl
theorem push_fold (l : List Int) : ∀ r : ByteArray, (l.foldl (fun r n => r.push (UInt8.ofNat n.toNat)) r).data.toList = r.data.toList ++ l.map fun n => UInt8.ofNat n.toNat := by
  induction l with
  | nil => intro r; simp
  | cons n l ih => intro r; rw [List.foldl_cons, ih]; simp [ByteArray.push]
section
variable {P : Program} {N : FN} {F : List (Nat × Value)} {a : Act} {w : World} {d : Option Tmp} {ty : TypeId} {pos : String} {af : Array Edge} {g : Option (Nat × Bool)}
theorem e_b2s {x : Operand} {s t e : TypeId} {oa : Option Addr} {c : Nat} {us : List Value} {xs : List (IntK .u8)} {h : PH} (hF : Fr N F a) (hs : P.underlying s = some (.slice e)) (he : P.underlying e = some (.int .u8)) (hd : P.underlying t = some .string)
    (hx : opv F x = some (.slice oa xs.length c)) (hrd : Rd (hp w) oa us) (hu : Rows h us xs) :
    (execOp a.eval ⟨d, .convert s t x, ty, pos, af, g⟩).run P w = .ok (.value (strv (bytesStr xs))) w := by
  have key : (convert s t (.slice oa xs.length c)).run P w = .ok (strv (bytesStr xs)) w := by
    rw [run_convert_bytes_string w s t e oa xs.length c hs he hd]
    cases oa with
    | none =>
      have : xs = [] := by
        cases xs with
        | nil => rfl
        | cons y r =>
          have := hrd.some (hu.ne (by decide) (by simp))
          cases this
      subst this
      rfl
    | some ad =>
      have hl : us.length = xs.length := by rw [hu.len]; exact Nat.mul_one _
      have h1 : (loadCells ad xs.length).run P w = .ok us.toArray w := by
        by_cases hn : us = []
        · subst hn
          have : xs.length = 0 := by simpa using hl.symm
          rw [this]; simp [loadCells, loadCellsFrom]
        · have had := hrd.some hn
          simp only [Option.some.injEq] at had
          have := run_loadCells_list (P := P) w ⟨(adr (some ad)).block, (adr (some ad)).off, none⟩ us (fun j v hv => by
            rw [addLit]
            have := hrd.cell j v hv
            rw [cell_hp] at this; exact this)
          rw [← had, hl] at this
          exact this
      rw [hu.u8] at h1
      rw [run_bytesToString w ad xs.length c _ h1]
      congr 2
      apply ByteArray.ext
      apply Array.ext'
      rw [push_fold]
      simp [bytesStr]
  simp [execOp, hF.ev hx, key]
end

/-! ### maps -/
section
variable {κ β : Type} [DecidableEq κ]
/-- what a map holds, as a list of keys and values: the same at each key -/
structure MRel (ev : β → Value) (l : List (κ × Value × Nat)) (m : List (κ × β)) : Prop where
  look : ∀ k, mval k l = (plook k m).map ev
  dl : mdis l
  dm : (m.map (·.1)).Nodup
theorem MRel.nil (ev : β → Value) : MRel (κ := κ) ev [] [] := ⟨fun _ => rfl, List.nodup_nil, List.nodup_nil⟩
theorem plook_none_iff {k : κ} {m : List (κ × β)} : plook k m = none ↔ k ∉ m.map (·.1) := by
  induction m with
  | nil => simp [plook]
  | cons x r ih =>
    simp only [plook, List.map_cons, List.mem_cons, not_or]
    by_cases e : k = x.1 <;> simp [e, ih]
theorem plook_pset (k k' : κ) (v : β) (m : List (κ × β)) : plook k' (pset k v m) = if k' = k then (plook k' m).map fun _ => v else plook k' m := by
  induction m with
  | nil => simp [pset, plook]
  | cons x r ih =>
    simp only [pset]
    by_cases e : k = x.1
    · rw [if_pos e]
      by_cases e2 : k' = k
      · subst e2; simp [plook, e]
      · have e3 : ¬ k' = x.1 := fun h => e2 (h.trans e.symm)
        simp [plook, e2, e3]
    · rw [if_neg e]
      by_cases e2 : k' = x.1
      · have e3 : ¬ k' = k := fun h => e (h.symm.trans e2)
        simp [plook, e2, e3]
        intro h; exact absurd h.symm e
      · simp [plook, e2, ih]
theorem pset_keys (k : κ) (v : β) (m : List (κ × β)) : (pset k v m).map (·.1) = m.map (·.1) := by
  induction m with
  | nil => rfl
  | cons x r ih => simp only [pset]; split <;> simp [ih]
theorem plook_app (k : κ) (m m' : List (κ × β)) : plook k (m ++ m') = (plook k m).or (plook k m') := by
  induction m with
  | nil => simp [plook]
  | cons x r ih => simp only [List.cons_append, plook]; split <;> simp [ih]
theorem plook_pput (k k' : κ) (v : β) (m : List (κ × β)) : plook k' (pput k v m) = if k' = k then some v else plook k' m := by
  unfold pput
  split
  · rename_i h
    rw [plook_pset]
    split
    · rename_i e; subst e
      obtain ⟨x, hx⟩ := Option.isSome_iff_exists.1 h
      simp [hx]
    · rfl
  · rename_i h
    have hn : plook k m = none := by simpa using h
    rw [plook_app]
    by_cases e : k' = k
    · subst e; simp [hn, plook]
    · simp [plook, e]
theorem pput_dis {k : κ} {v : β} {m : List (κ × β)} (h : (m.map (·.1)).Nodup) : ((pput k v m).map (·.1)).Nodup := by
  unfold pput
  split
  · rw [pset_keys]; exact h
  · rename_i hn
    have hn : plook k m = none := by simpa using hn
    rw [List.map_append, List.map_cons, List.map_nil, List.nodup_append]
    refine ⟨h, by simp, ?_⟩
    intro a ha b hb
    simp at hb; subst hb
    intro e; subst e
    exact plook_none_iff.1 hn ha
theorem plook_pdel {k k' : κ} {m : List (κ × β)} (h : (m.map (·.1)).Nodup) : plook k' (pdel k m) = if k' = k then none else plook k' m := by
  induction m with
  | nil => simp [pdel, plook]
  | cons x r ih =>
    simp only [List.map_cons, List.nodup_cons] at h
    have ih := ih h.2
    simp only [pdel]
    by_cases e : k = x.1
    · rw [if_pos e]
      by_cases e2 : k' = k
      · subst e2; rw [if_pos rfl]; exact plook_none_iff.2 (by rw [e]; exact h.1)
      · rw [if_neg e2]; simp only [plook]; rw [if_neg (fun h => e2 (h.trans e.symm))]
    · rw [if_neg e]
      simp only [plook, ih]
      by_cases e2 : k' = x.1
      · have e3 : ¬ k' = k := fun e3 => e (e3.symm.trans e2)
        rw [if_pos e2, if_neg e3, if_pos e2]
      · rw [if_neg e2, if_neg e2]
theorem pdel_sub (k : κ) (m : List (κ × β)) : (pdel k m).Sublist m := by
  induction m with
  | nil => exact .slnil
  | cons x r ih => simp only [pdel]; split <;> first | exact List.sublist_cons_self _ _ | exact ih.cons_cons _
theorem MRel.len {ev : β → Value} {l : List (κ × Value × Nat)} {m : List (κ × β)} (h : MRel ev l m) : l.length = m.length := by
  have : (l.map (·.1)).Perm (m.map (·.1)) := (List.perm_ext_iff_of_nodup h.dl h.dm).2 fun k => by
    have h1 := h.look k
    have h2 := mval_none_iff (k := k) (l := l)
    have h3 := plook_none_iff (k := k) (m := m)
    rw [h1, Option.map_eq_none_iff, h3] at h2
    exact ⟨fun hk => Classical.byContradiction fun hn => h2.1 hn hk, fun hk => Classical.byContradiction fun hn => h2.2 hn hk⟩
  simpa using this.length_eq
theorem MRel.put {ev : β → Value} {l : List (κ × Value × Nat)} {m : List (κ × β)} (h : MRel ev l m) (k : κ) (v : β) (c : Nat) : MRel ev (mput k (ev v) c l) (pput k v m) :=
  ⟨fun k' => by rw [mval_put, plook_pput, h.look]; split <;> simp, mdis_put h.dl, pput_dis h.dm⟩
theorem MRel.del {ev : β → Value} {l : List (κ × Value × Nat)} (k : κ) {m : List (κ × β)} (h : MRel ev l m) : MRel ev (merase k l) (pdel k m) :=
  ⟨fun k' => by rw [mval_erase h.dl, plook_pdel h.dm, h.look]; split <;> simp, mdis_erase h.dl, h.dm.sublist ((pdel_sub k m).map _)⟩
/-- the stamps of a map's entries -/
def MGood (l : List (κ × Value × Nat)) (c : Nat) : Prop := (∀ x ∈ l, x.2.2 < c) ∧ (l.map (·.2.2)).Nodup
theorem MGood.nil : MGood (κ := κ) [] 0 := ⟨fun x hx => (nomatch hx), List.nodup_nil⟩
theorem mset_stamps (k : κ) (v : Value) (l : List (κ × Value × Nat)) : (mset k v l).map (·.2.2) = l.map (·.2.2) := by
  induction l with
  | nil => rfl
  | cons x r ih => simp only [mset]; split <;> simp [ih]
theorem MGood.put {l : List (κ × Value × Nat)} {c : Nat} (h : MGood l c) (k : κ) (v : Value) : MGood (mput k v c l) (mclk k c l) := by
  unfold mput mclk
  split
  · refine ⟨fun x hx => ?_, by rw [mset_stamps]; exact h.2⟩
    have : x.2.2 ∈ (mset k v l).map (·.2.2) := List.mem_map.2 ⟨x, hx, rfl⟩
    rw [mset_stamps] at this
    obtain ⟨y, hy, e⟩ := List.mem_map.1 this
    rw [← e]; exact h.1 y hy
  · refine ⟨fun x hx => ?_, ?_⟩
    · rcases List.mem_append.1 hx with hx | hx
      · exact Nat.lt_succ_of_lt (h.1 x hx)
      · simp at hx; subst hx; exact Nat.lt_succ_self _
    · rw [List.map_append, List.map_cons, List.map_nil, List.nodup_append]
      refine ⟨h.2, by simp, ?_⟩
      intro a ha b hb
      simp at hb; subst hb
      obtain ⟨y, hy, e⟩ := List.mem_map.1 ha
      have := h.1 y hy
      omega
theorem MGood.del {l : List (κ × Value × Nat)} {c : Nat} (h : MGood l c) (k : κ) : MGood (merase k l) c :=
  ⟨fun x hx => h.1 x ((merase_sub k l).subset hx), h.2.sublist ((merase_sub k l).map _)⟩
/-- a map's block, its stamps in order -/
def gmap (kv : κ → Value) (r : Nat) (l : List (κ × Value × Nat)) (c : Nat) : HA :=
  { fp := (imap kv r l c).fp, ok := fun h => (imap kv r l c).ok h ∧ MGood l c, dom := fun h b ho hb => (imap kv r l c).dom h b ho.1 hb, loc := fun h h' e ho => ⟨(imap kv r l c).loc h h' e ho.1, ho.2⟩ }
theorem St.gmap0 {kv : κ → Value} {w0 w : World} {M : Nat → Prop} {Hs : List PH} {L : List HA} {b : Nat} (hS : St w0 M Hs (blk b (.map #[] 0) :: L) w) : St w0 M Hs (gmap kv b [] 0 :: L) w :=
  hS.upd .head (.refl _ _) ⟨hS.ok _ (.head _), MGood.nil⟩ (fun b hb => .inl hb)
section
variable {P : Program} {ops : Array Oper} {Q : Exit → Act → World → Prop} {a : Act} {w : World} {N : FN} {F : List (Nat × Value)}
  {w0 : World} {M : Nat → Prop} {H : PH} {L L' : List HA} {K : Act → World → Prop}
  {d : Option Tmp} {g : Option (Nat × Bool)} {ty : TypeId} {pos : String} {af : Array Edge} {kt et t : TypeId} {kv : κ → Value} {ev : β → Value}
theorem e_lookM {x y : Operand} {dv : β} {r c : Nat} {l : List (κ × Value × Nat)} {m : List (κ × β)} {k : κ} (hF : Fr N F a) (hk : KeyOk P kt kv) (hu : ∀ w, (underlying t).run P w = .ok (.map kt et) w) (hz : ∀ w, (zeroValue et).run P w = .ok (ev dv) w)
    (hm : hp w r = some (.map (l.map (toE kv)).toArray c)) (hx : opv F x = some (.map (some r))) (hy : opv F y = some (kv k)) (hR : MRel ev l m) :
    (execOp a.eval ⟨d, .lookup t x y false, ty, pos, af, g⟩).run P w = .ok (.value (ev ((plook k m).getD dv))) w := by
  rw [e_look hF hk hu hz hm hx hy, hR.look]
  cases plook k m <;> rfl
theorem e_lenM {x : Operand} {r c : Nat} {l : List (κ × Value × Nat)} {m : List (κ × β)} (hF : Fr N F a) (hu : ∀ w, (underlying t).run P w = .ok (.map kt et) w)
    (hm : hp w r = some (.map (l.map (toE kv)).toArray c)) (hx : opv F x = some (.map (some r))) (hR : MRel ev l m) :
    (execOp a.eval ⟨d, .call ⟨.builtin .len, #[x], #[t]⟩, ty, pos, af, g⟩).run P w = .ok (.value (.int .i64 (m.length : Int))) w := by
  have hg : (getObj r).run P w = .ok (.map (l.map (toE kv)).toArray c) w := by simp [getObj, Sem.run, show w.heap[r]? = _ from hm]
  rw [← hR.len]
  simp [execOp, resolve, invoke, builtin, hF.ev hx, Builtin.len_, hu, hg, goInt]
theorem m_put {x y z : Operand} {r c : Nat} {l : List (κ × Value × Nat)} {m : List (κ × β)} {k : κ} {v : β} (hF : Fr N F a) (hS : St w0 M [H] L w) (hk : KeyOk P kt kv) (hu : ∀ w, (underlying t).run P w = .ok (.map kt et) w)
    (hx : opv F x = some (.map (some r))) (hy : opv F y = some (kv k)) (hz : opv F z = some (ev v)) (hm : gmap kv r l c ∈ L) (hR : MRel ev l m)
    (kk : ∀ l' c' w, MRel ev l' (pput k v m) → (∀ L', Repl (gmap kv r l c) (gmap kv r l' c') L L' → St w0 M [H] L' w) → K a w) : stp P ops Q ⟨none, .mapUpdate t x y z, ty, pos, af, none⟩ a w K := by
  have hb : w.heap[r]? = some (.map (l.map (toE kv)).toArray c) := (hS.ok _ hm).1
  refine m0 (w' := { w with heap := w.heap.setIfInBounds r (.map ((mput k (ev v) c l).map (toE kv)).toArray (mclk k c l)) }) ?_ (kk (mput k (ev v) c l) (mclk k c l) _ (hR.put k v c) fun L' hr => ?_)
  · simp [execOp, hF.ev hx, hF.ev hy, hF.ev hz, run_mput hk hu hb]
  · exact hS.upd hr (.setObj hb) ⟨hp_set hb, (hS.ok _ hm).2.put _ _⟩ (fun b hb => .inl hb)
theorem m_del {x y : Operand} {r c : Nat} {l : List (κ × Value × Nat)} {m : List (κ × β)} {k : κ} {t2 : TypeId} (hF : Fr N F a) (hS : St w0 M [H] L w) (hk : KeyOk P kt kv) (hu : ∀ w, (underlying t).run P w = .ok (.map kt et) w)
    (hx : opv F x = some (.map (some r))) (hy : opv F y = some (kv k)) (hm : gmap kv r l c ∈ L) (hR : MRel ev l m)
    (kk : ∀ l' c' w, MRel ev l' (pdel k m) → (∀ L', Repl (gmap kv r l c) (gmap kv r l' c') L L' → St w0 M [H] L' w) → K a w) : stp P ops Q ⟨none, .call ⟨.builtin .delete, #[x, y], #[t, t2]⟩, ty, pos, af, none⟩ a w K := by
  have hb : w.heap[r]? = some (.map (l.map (toE kv)).toArray c) := (hS.ok _ hm).1
  refine m0v (w' := { w with heap := w.heap.setIfInBounds r (.map ((merase k l).map (toE kv)).toArray c) }) (v := .tuple #[]) ?_ (kk (merase k l) c _ (hR.del k) fun L' hr => ?_)
  · simp [execOp, resolve, invoke, builtin, hF.ev hx, hF.ev hy, run_mdel (ty := ty) (ts := #[t, t2]) (by simp) hk hu hb]
  · exact hS.upd hr (.setObj hb) ⟨hp_set hb, (hS.ok _ hm).2.del _⟩ (fun b hb => .inl hb)
theorem St.mapO (hS : St w0 M [H] L w) {r c : Nat} {l : List (κ × Value × Nat)} (hm : gmap kv r l c ∈ L) : hp w r = some (.map (l.map (toE kv)).toArray c) := (hS.ok _ hm).1
theorem St.mapG (hS : St w0 M [H] L w) {r c : Nat} {l : List (κ × Value × Nat)} (hm : gmap kv r l c ∈ L) : MGood l c := (hS.ok _ hm).2
theorem Lds.mapO {Hs : List PH} (hs : Lds Hs L w) {r c : Nat} {l : List (κ × Value × Nat)} (hm : gmap kv r l c ∈ L) : hp w r = some (.map (l.map (toE kv)).toArray c) := (hs.ok _ hm).1
end
end
/-! ### parts of a condition that only compute -/
section
variable {P : Program} {ops : Array Oper} {Q : Exit → Act → World → Prop} {a : Act} {w : World} {N : FN} {w0 : World} {M : Nat → Prop} {Hs : List PH} {L : List HA}
theorem grp {Fk : List (Nat × Value)} {b : Bool} {l : List Oper} (n : Nat) (_ : St w0 M Hs L w)
    (h1 : b = true → (∀ a w, Fr N Fk a → St w0 M Hs L w → wpL P ops Q (l.drop n) a w) → wpL P ops Q l a w)
    (h2 : b = false → (∀ a w, Fr N Fk a → St w0 M Hs L w → wpL P ops Q (l.drop n) a w) → wpL P ops Q l a w)
    (key : ∀ a w, Fr N Fk a → St w0 M Hs L w → wpL P ops Q (l.drop n) a w) : wpL P ops Q l a w := by
  cases b with
  | true => exact h1 rfl key
  | false => exact h2 rfl key
theorem grpX {S : World → Prop} {z k : Nat} {Fk : List (Nat × Value)} {b : Bool} {l : List Oper} (n : Nat) (_ : St w0 M Hs L w)
    (h1 : b = true → (∀ a w, Fr N Fk a → St w0 M Hs L w → wpX P ops Q S z (l.drop n) (k + n) a w) → wpX P ops Q S z l k a w)
    (h2 : b = false → (∀ a w, Fr N Fk a → St w0 M Hs L w → wpX P ops Q S z (l.drop n) (k + n) a w) → wpX P ops Q S z l k a w)
    (key : ∀ a w, Fr N Fk a → St w0 M Hs L w → wpX P ops Q S z (l.drop n) (k + n) a w) : wpX P ops Q S z l k a w := by
  cases b with
  | true => exact h1 rfl key
  | false => exact h2 rfl key
end
section
variable {P : Program} {ops : Array Oper} {Q : Exit → Act → World → Prop} {a : Act} {w : World} {N : FN} {F : List (Nat × Value)}
  {w0 : World} {M : Nat → Prop} {H : PH} {L L' : List HA} {K : Act → World → Prop} {ty : TypeId} {pos : String} {af : Array Edge}
/-- a store into a slice that is owned, of a whole element -/
theorem s_slW {α : Type} [Enc α] {t e : TypeId} {x y : Operand} {i : Int} {cap n : Nat} {oa : Option Addr} {cs vs : List Value} {xs xs' : List α} {nx : α} (hF : Fr N F a) (hS : St w0 M [H] L w) (hz : ∀ w, (sizeOf t).run P w = .ok n w) (h1 : Enc.sz α = n)
    (hx : opv F x = some (.pointer (some ⟨(adr oa).block, (adr oa).off + i.toNat * n, none⟩))) (hy : opv F y = some (.agg cs.toArray))
    (hr : Rows H vs xs) (hrep : Enc.rep H cs nx) (hg : setI xs i nx = some xs') (hm : sla e n oa xs.length cap vs ∈ L)
    (k : ∀ vs' w, Rows H vs' xs' → (∀ L', Repl (sla e n oa xs.length cap vs) (sla e n oa xs'.length cap vs') L L' → St w0 M [H] L' w) → K a w) : stp P ops Q ⟨none, .store t x y, ty, pos, af, none⟩ a w K := by
  obtain ⟨h2, h3, rfl⟩ := setI_some hg
  have hok : SlOk e n (.slice oa xs.length cap) xs.length vs (hp w) := hS.ok _ hm
  obtain ⟨hl, hn | ⟨g, cap', cur, hv, hg', hnc, hcm, hcs, ht⟩⟩ := hok
  · omega
  · simp only [Value.slice.injEq] at hv
    obtain ⟨rfl, _, rfl⟩ := hv
    have hcl : cs.length = n := by rw [Enc.len hrep, h1]
    have hb1 : (i.toNat + 1) * n ≤ xs.length * n := Nat.mul_le_mul_right _ h3
    have hb2 : xs.length * n ≤ cap * n := Nat.mul_le_mul_right _ hnc
    rw [Nat.succ_mul] at hb1
    have hgw : w.heap[g]? = some (.cells cur e (0, 0)) := hg'
    have hst := run_storeCells_at P g (i.toNat * n) e cs 0 cur w hgw (by rw [hcl, hcs]; omega) (Enc.one hrep)
    simp only [Nat.add_zero] at hst
    have e0 : (adr (some ⟨g, 0, none⟩)).off + i.toNat * n = i.toNat * n := by simp [adr]
    have e1 : (adr (some ⟨g, 0, none⟩)).block = g := rfl
    rw [e0, e1] at hx
    refine m0 (w' := w.setRow g (cur.toList.take (i.toNat * n) ++ cs ++ cur.toList.drop (i.toNat * n + cs.length)).toArray) ?_ (k (vs.take (i.toNat * n) ++ (cs ++ vs.drop (i.toNat * n + n))) _ ?_ fun L' hrl => ?_)
    · simp [execOp, hF.ev hx, hF.ev hy, Instr.storeAt, Instr.sureAddr, storeVar, hz, Value.cells, hcl, hst]
    · have := hr.put hrep h3
      rw [h1] at this; exact this
    · rw [List.length_set] at hrl
      refine hS.upd hrl ⟨rfl, rfl, rfl, by simp, fun x _ hx => setRow_other w g x _ (fun e => hx (by simp [slBlock, e, sla, sl])), fun a _ => fz_setRow w g _ a⟩ ?_ (fun b hb => .inl hb)
      refine ⟨?_, .inr ⟨g, cap, _, rfl, setRow_heap w g cur _ e _ hgw, hnc, hcm, ?_, ?_⟩⟩
      · simp only [List.length_append, List.length_take, List.length_drop, hcl, hl]; omega
      · simp only [List.size_toArray, List.length_append, List.length_take, List.length_drop, Array.length_toList, hcl, hcs]; omega
      · have hcur : cur.toList.length = cap * n := by simpa using hcs
        apply List.ext_getElem?
        intro j
        simp only [← ht]
        by_cases j1 : j < i.toNat * n
        · rw [List.getElem?_take, if_pos (by omega)]
          simp only [List.append_assoc]
          rw [List.getElem?_append_left (by rw [List.length_take]; omega), List.getElem?_append_left (by rw [List.length_take, List.length_take]; omega), List.getElem?_take, if_pos j1, List.getElem?_take, if_pos j1, List.getElem?_take, if_pos (by omega)]
        · by_cases j2 : j < i.toNat * n + n
          · rw [List.getElem?_take, if_pos (by omega)]
            simp only [List.append_assoc]
            rw [List.getElem?_append_right (l₁ := cur.toList.take (i.toNat * n)) (by rw [List.length_take]; omega), List.getElem?_append_right (l₁ := (cur.toList.take (xs.length * n)).take (i.toNat * n)) (by rw [List.length_take, List.length_take]; omega)]
            simp only [List.length_take]
            rw [show min (i.toNat * n) (min (xs.length * n) cur.toList.length) = min (i.toNat * n) cur.toList.length by omega]
            rw [List.getElem?_append_left (by omega), List.getElem?_append_left (by omega)]
          · by_cases j3 : j < xs.length * n
            · rw [List.getElem?_take, if_pos j3]
              simp only [List.append_assoc]
              rw [List.getElem?_append_right (l₁ := cur.toList.take (i.toNat * n)) (by rw [List.length_take]; omega), List.getElem?_append_right (l₁ := (cur.toList.take (xs.length * n)).take (i.toNat * n)) (by rw [List.length_take, List.length_take]; omega)]
              simp only [List.length_take]
              rw [show min (i.toNat * n) (min (xs.length * n) cur.toList.length) = min (i.toNat * n) cur.toList.length by omega]
              rw [List.getElem?_append_right (by omega), List.getElem?_append_right (by omega), List.getElem?_drop, List.getElem?_drop, List.getElem?_take, if_pos (by omega), hcl]
            · rw [List.getElem?_eq_none (by rw [List.length_take]; omega), List.getElem?_eq_none (by simp only [List.length_append, List.length_take, List.length_drop, hcl]; omega)]
end
/-! ### a region that draws its order, in two parts: what only reads, and behind all of it the rest -/
section
variable {P : Program} {ops : Array Oper} {Q : Exit → Act → World → Prop} {a : Act} {w : World} {N : FN} {F : List (Nat × Value)}

def wpE (P : Program) (ops : Array Oper) (Q : Exit → Act → World → Prop) (S : World → Prop) (m : Nat) : Nat → Array Bool → Act → World → Prop
  | 0, listed, a, w => Region.ready .any ops listed = [] ∧ Q .normal a w
  | fuel + 1, listed, a, w =>
    (Region.ready .any ops listed = [] → Q .normal a w) ∧
    ∀ i ∈ Region.ready .any ops listed, wpOp P ops Q i (fun a' w' => (i < m → S w') ∧ wpE P ops Q S m fuel (listed.setIfInBounds i true) a' w') a w

theorem wpAny_of_E {S : World → Prop} {m : Nat} : ∀ (fuel : Nat) (listed : Array Bool) (a : Act) (w : World), wpE P ops Q S m fuel listed a w → wpAny P .any ops Q fuel listed a w
  | 0, _, _, _, h => h
  | fuel + 1, _, _, _, h => ⟨h.1, fun i hi => wpOp_mono (fun a' w' h' => wpAny_of_E fuel _ a' w' h'.2) (h.2 i hi)⟩

theorem wpE_first {S : World → Prop} {m i : Nat} {oi : Oper} {v : Value} (hi : ops[i]? = some oi) (hsel : ∀ (j : Nat) (o : Oper) cs b, ops[j]? = some o → o.op ≠ .select cs b)
    (hQ : ∀ c a w, Q (.panic c) (a.put oi.dst v) w → Q (.panic c) a w) (hz : ∀ z, m ≤ z → waits ops z i = true) :
    ∀ (fuel : Nat) (listed : Array Bool) (a : Act) (w : World),
      (∀ j oj, ops[j]? = some oj → j ≠ i → listed.getD j true = false → (∀ e ∈ oj.after, Region.binds .any e = true → e.on ≠ i) → oi.apart ops oj = true) →
      i ∈ Region.ready .any ops listed → YieldsIf P ops S oi v a → S w →
      wpE P ops Q S m fuel (listed.setIfInBounds i true) (a.put oi.dst v) w → wpE P ops Q S m (fuel + 1) listed a w := by
  intro fuel
  induction fuel with
  | zero =>
    intro listed a w _ hr hy hS H
    refine ⟨fun h => (by rw [h] at hr; cases hr), fun j hj => ?_⟩
    by_cases hji : j = i
    · subst hji; exact hy.wpOp hi hS ⟨fun _ => hS, H⟩
    · have := ready_mono hj hji
      rw [H.1] at this
      cases this
  | succ fuel ih =>
    intro listed a w hfree hr hy hS H
    refine ⟨fun h => (by rw [h] at hr; cases hr), fun j hj => ?_⟩
    by_cases hji : j = i
    · subst hji; exact hy.wpOp hi hS ⟨fun _ => hS, H⟩
    · have h1 := H.2 j (ready_mono hj hji)
      obtain ⟨hjun, oj, hoj, hall⟩ := mem_ready.1 hj
      have hnot : ∀ e ∈ oj.after, Region.binds .any e = true → e.on ≠ i := fun e he hb heq => by
        have h1 := hall e he hb
        have h0 := (mem_ready.1 hr).1
        rw [heq] at h1
        rcases Nat.lt_or_ge i listed.size with h' | h'
        · simp [h'] at h0 h1; rw [h0] at h1; cases h1
        · simp [Array.getElem?_eq_none h'] at h1
      have hjz : j < m := by
        rcases Nat.lt_or_ge j m with h | h
        · exact h
        · exfalso
          have h := hz j h
          unfold waits at h
          rw [hoj] at h
          obtain ⟨e, he, hb⟩ := Array.any_eq_true'.1 h
          simp only [Bool.and_eq_true, beq_iff_eq] at hb
          exact hnot e he hb.1 hb.2
      have h2 := wpOp_putIf hoj (hfree j oj hoj hji hjun hnot) (fun cs b => hsel i oi cs b hi) (fun cs b => hsel j oj cs b hoj) hQ hy h1
      have hfree' : ∀ k ok, ops[k]? = some ok → k ≠ i → (listed.setIfInBounds j true).getD k true = false →
          (∀ e ∈ ok.after, Region.binds .any e = true → e.on ≠ i) → oi.apart ops ok = true := fun k ok hk hki hun hno => by
        refine hfree k ok hk hki ?_ hno
        by_cases hjk : j = k
        · subst hjk; exact hjun
        · rw [getD_set_ne true hjk] at hun; exact hun
      refine wpOp_mono (fun a' w' h3 => ?_) h2
      have hSw := h3.2.1 hjz
      refine ⟨fun _ => hSw, ih (listed.setIfInBounds j true) a' w' hfree' (ready_mono hr (Ne.symm hji)) h3.1 hSw ?_⟩
      rw [Array.setIfInBounds_comm _ _ hji]
      exact h3.2.2

/-- when all of the first part has been carried out, what holds in it is wanted no more -/
theorem wpE_of_D {S S2 : World → Prop} {m z : Nat} : ∀ (fuel : Nat) (listed : Array Bool) (a : Act) (w : World), (∀ i, i < m → listed.getD i true = true) → wpD P ops Q S2 z fuel listed a w → wpE P ops Q S m fuel listed a w
  | 0, _, _, _, _, h => h
  | fuel + 1, listed, a, w, hl, h => by
    refine ⟨h.1, fun i hi => wpOp_mono (fun a' w' h' => ⟨fun hm => ?_, wpE_of_D fuel _ a' w' (fun j hj => ?_) h'.2⟩) (h.2 i hi)⟩
    · have h1 := (mem_ready.1 hi).1
      rw [hl i hm] at h1; cases h1
    · by_cases e : i = j
      · subst e
        have h1 := (mem_ready.1 hi).1
        rw [hl i hj] at h1; cases h1
      · rw [getD_set_ne true e]; exact hl j hj

def lst (n k : Nat) : Array Bool := ((List.range n).map fun i => decide (i < k)).toArray
theorem lst_getD (n k i : Nat) : (lst n k).getD i true = (if i < n then decide (i < k) else true) := by
  unfold lst
  by_cases h : i < n
  · simp [h]
  · simp [h]
theorem lst_set {n k : Nat} (h : k < n) : (lst n k).setIfInBounds k true = lst n (k + 1) := by
  apply Array.ext'
  unfold lst
  rw [Array.toList_setIfInBounds]
  apply List.ext_getElem
  · simp
  · intro j h1 h2
    rw [List.getElem_set]
    simp only [List.getElem_map, List.getElem_range]
    by_cases e : k = j
    · simp [e]
    · simp only [e, if_false, decide_eq_decide]; omega

/-- the first m may be taken in the order of the text, and all others wait for them -/
def preZ (ops : Array Oper) (m : Nat) : Bool :=
  Region.noSelect ops && (List.range m).all (fun k => Region.free .any ops (lst ops.size k) k && (Region.ready .any ops (lst ops.size k)).contains k) &&
  (List.range ops.size).all fun z => decide (z < m) || (List.range m).all fun i => waits ops z i

def wpY (P : Program) (ops : Array Oper) (S : World → Prop) (Q : Exit → Act → World → Prop) (m : Nat) (K : Act → World → Prop) : List Oper → Nat → Act → World → Prop
  | [], _, a, w => K a w
  | o :: rest, k, a, w =>
    if k = m then K a w
    else S w ∧ ∃ v, YieldsIf P ops S o v a ∧ (∀ c a' w', Q (.panic c) (a'.put o.dst v) w' → Q (.panic c) a' w') ∧ wpY P ops S Q m K rest (k + 1) (a.put o.dst v) w

theorem wpE_of_Y {S : World → Prop} {m f : Nat} (hB : preZ ops m = true) (hm : m ≤ ops.size) : ∀ (l : List Oper) (k : Nat) (a : Act) (w : World), (∀ j, l[j]? = ops[k + j]?) → k ≤ m → f + m = ops.size →
    wpY P ops S Q m (wpE P ops Q S m f (lst ops.size m)) l k a w → wpE P ops Q S m (ops.size - k) (lst ops.size k) a w := by
  simp only [preZ, Bool.and_eq_true] at hB
  intro l
  induction l with
  | nil =>
    intro k a w hl hk hf h
    have h0 : ops[k]? = none := by simpa using (hl 0).symm
    have : k = m := by have := Array.getElem?_eq_none_iff.1 h0; omega
    subst this
    rw [show ops.size - k = f by omega]; exact h
  | cons o l ih =>
    intro k a w hl hk hf h
    by_cases e : k = m
    · subst e
      rw [wpY, if_pos rfl] at h
      rw [show ops.size - k = f by omega]; exact h
    · rw [wpY, if_neg e] at h
      obtain ⟨hS, v, hy, hQ, h⟩ := h
      have h0 : ops[k]? = some o := by simpa using (hl 0).symm
      have hkn : k < ops.size := (Array.getElem?_eq_some_iff.1 h0).1
      have hkm : k < m := by omega
      have h1 := List.all_eq_true.1 hB.1.2 k (List.mem_range.2 hkm)
      simp only [Bool.and_eq_true] at h1
      have hr : k ∈ Region.ready .any ops (lst ops.size k) := by simpa using h1.2
      have hz : ∀ z, m ≤ z → waits ops z k = true := fun z hz => by
        by_cases hzn : z < ops.size
        · have h2 := List.all_eq_true.1 hB.2 z (List.mem_range.2 hzn)
          simp only [Bool.or_eq_true, decide_eq_true_eq] at h2
          rcases h2 with h2 | h2
          · omega
          · exact List.all_eq_true.1 h2 k (List.mem_range.2 hkm)
        · unfold waits
          rw [Array.getElem?_eq_none (by omega)]
      have h3 := ih (k + 1) (a.put o.dst v) w (fun j => by have := hl (j + 1); simpa [Nat.add_assoc, Nat.add_comm 1 j] using this) (by omega) hf h
      rw [show ops.size - k = (ops.size - (k + 1)) + 1 by omega]
      refine wpE_first h0 (Region.noSelect_spec hB.1.1) (fun c a w => hQ c a w) hz _ _ a w (Region.free_spec h0 h1.1) hr hy hS ?_
      rw [lst_set hkn]; exact h3

theorem rp {ro : Option Nat} [NoOut Q] {w0 : World} {M : Nat → Prop} {Hs : List PH} {L : List HA} (m f : Nat) {id : Nat} {l : List Oper} (hS : St w0 M Hs L w) (hm : P.follows .mixedOrders = true) (hB : (preZ l.toArray m && (f + m == l.toArray.size)) = true)
    (h : ∀ w, St w0 M Hs L w → wpY P l.toArray (Lds Hs L) Q m (wpE P l.toArray Q (Lds Hs L) m f (lst l.toArray.size m)) l 0 a w) (hd : l.all plainOp = true := by rfl) : wq ro P (Code.region id l.toArray true) Q a w := by
  simp only [Bool.and_eq_true, beq_iff_eq] at hB
  refine ra hm hd (wpAny_of_E (S := Lds Hs L) (m := m) _ _ _ _ ?_)
  have := wpE_of_Y (P := P) (Q := Q) hB.1 (by omega) l 0 a w.drew (by simp) (Nat.zero_le _) hB.2 (h _ hS.drew)
  have e : lst l.toArray.size 0 = Array.replicate l.toArray.size false := by
    apply Array.ext'
    unfold lst
    apply List.ext_getElem
    · simp
    · intro j h1 h2; simp
  rw [e] at this
  simpa using this

theorem yz {S : World → Prop} {m k : Nat} {K : Act → World → Prop} {l : List Oper} (hk : (k == m) = true) (h : K a w) : wpY P ops S Q m K l k a w := by
  cases l with
  | nil => exact h
  | cons o l => rw [wpY, if_pos (by simpa using hk)]; exact h
theorem yd {S S2 : World → Prop} {m z f : Nat} {n : Nat} (h : wpD P ops Q S2 z f (lst n m) a w) : wpE P ops Q S m f (lst n m) a w :=
  wpE_of_D f _ a w (fun i hi => by rw [lst_getD]; split <;> simp [hi]) h
theorem y1 {S : World → Prop} {K : Act → World → Prop} {m k d : Nat} {op : Op} {ty : TypeId} {pos : String} {af : Array Edge} {rest : List Oper} {v : Value}
    (hS : S w) (hF : Fr N F a) (hN : Nat.blt d N.n = true) (hz : (k == m) = false) (hQ : ∀ c a' w', Q (.panic c) (a'.put (some d) v) w' → Q (.panic c) a' w')
    (hE : ∀ w, S w → (execOp a.eval ⟨some d, op, ty, pos, af, none⟩).run P w = .ok (.value v) w)
    (kk : ∀ a, Fr N ((d, v) :: F) a → wpY P ops S Q m K rest (k + 1) a w) : wpY P ops S Q m K (⟨some d, op, ty, pos, af, none⟩ :: rest) k a w := by
  rw [wpY, if_neg (by simpa using hz)]
  exact ⟨hS, v, .inl ⟨rfl, hE⟩, hQ, kk _ (hF.put (by simpa [Nat.blt_eq] using hN) v)⟩
theorem y1g {S : World → Prop} {K : Act → World → Prop} {m k d j t : Nat} {b : Bool} {op : Op} {ty : TypeId} {pos : String} {af : Array Edge} {rest : List Oper} {v : Value}
    (hS : S w) (hF : Fr N F a) (hN : Nat.blt d N.n = true) (hz : (k == m) = false) (hj : (ops[j]?).bind (·.dst) = some t) (ht : F.lookup t = some (.bool b))
    (hQ : ∀ c a' w', Q (.panic c) (a'.put (some d) v) w' → Q (.panic c) a' w')
    (hE : ∀ w, S w → (execOp a.eval ⟨some d, op, ty, pos, af, some (j, b)⟩).run P w = .ok (.value v) w)
    (kk : ∀ a, Fr N ((d, v) :: F) a → wpY P ops S Q m K rest (k + 1) a w) : wpY P ops S Q m K (⟨some d, op, ty, pos, af, some (j, b)⟩ :: rest) k a w := by
  rw [wpY, if_neg (by simpa using hz)]
  exact ⟨hS, v, .inl ⟨gd_some hF hj ht, hE⟩, hQ, kk _ (hF.put (by simpa [Nat.blt_eq] using hN) v)⟩
theorem y1n {S : World → Prop} {K : Act → World → Prop} {m k d j t : Nat} {b b' : Bool} {op : Op} {ty : TypeId} {pos : String} {af : Array Edge} {rest : List Oper}
    (hS : S w) (hF : Fr N F a) (hN : Nat.blt d N.n = true) (hz : (k == m) = false) (hj : (ops[j]?).bind (·.dst) = some t) (ht : F.lookup t = some (.bool b')) (hne : (b' == b) = false)
    (hQ : ∀ c a' w', Q (.panic c) (a'.put (some d) undef) w' → Q (.panic c) a' w')
    (kk : ∀ a, Fr N ((d, undef) :: F) a → wpY P ops S Q m K rest (k + 1) a w) : wpY P ops S Q m K (⟨some d, op, ty, pos, af, some (j, b)⟩ :: rest) k a w := by
  rw [wpY, if_neg (by simpa using hz)]
  exact ⟨hS, undef, .inr ⟨gd_not hF hj ht hne, rfl⟩, hQ, kk _ (hF.put (by simpa [Nat.blt_eq] using hN) undef)⟩
theorem y1u {S : World → Prop} {K : Act → World → Prop} {m k d j t : Nat} {b : Bool} {op : Op} {ty : TypeId} {pos : String} {af : Array Edge} {rest : List Oper}
    (hS : S w) (hF : Fr N F a) (hN : Nat.blt d N.n = true) (hz : (k == m) = false) (hj : (ops[j]?).bind (·.dst) = some t) (ht : F.lookup t = some undef)
    (hQ : ∀ c a' w', Q (.panic c) (a'.put (some d) undef) w' → Q (.panic c) a' w')
    (kk : ∀ a, Fr N ((d, undef) :: F) a → wpY P ops S Q m K rest (k + 1) a w) : wpY P ops S Q m K (⟨some d, op, ty, pos, af, some (j, b)⟩ :: rest) k a w := by
  rw [wpY, if_neg (by simpa using hz)]
  exact ⟨hS, undef, .inr ⟨gd_und hF hj ht, rfl⟩, hQ, kk _ (hF.put (by simpa [Nat.blt_eq] using hN) undef)⟩
end
abbrev kI : Int → Value := fun n => .int .i64 n
abbrev kS : Str → Value := fun s => strv s
end Go.LM
