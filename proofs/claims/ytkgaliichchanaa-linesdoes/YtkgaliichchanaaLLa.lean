/- The engine's first part: partial heaps, owned assertions, the state of a walk, frames as lists. No condition: plain lemmas. -/
import Derived.WalkKit
import Derived.WalkSpells
import Derived.WalkLawsBesides
import Derived.Orders
namespace Go.LL

/-! ### partial heaps -/
/-- What is known of a heap: of each block what it holds, or nothing. -/
abbrev PH := Nat → Option Obj

def hp (w : World) : PH := fun b => w.heap[b]?

def PH.cell? (h : PH) (a : Addr) : Option Value :=
  match h a.block with
  | some (.cells c _ _) => if a.spot.isSome then none else c[a.off]?
  | _ => none

def PH.le (h : PH) (w : World) : Prop := ∀ b o, h b = some o → w.heap[b]? = some o

theorem hp_le (w : World) : PH.le (hp w) w := fun _ _ h => h

theorem cell_hp (w : World) (a : Addr) : PH.cell? (hp w) a = w.cell? a := by
  unfold PH.cell? hp World.cell?
  cases h : w.heap[a.block]? with
  | none => rfl
  | some o => cases o <;> rfl

theorem PH.le.cell {h : PH} {w : World} {a : Addr} {v : Value} (hl : h.le w) (hc : h.cell? a = some v) : w.cell? a = some v := by
  unfold PH.cell? at hc
  cases hb : h a.block with
  | none => rw [hb] at hc; cases hc
  | some o =>
    rw [hb] at hc
    have := hl _ _ hb
    unfold World.cell?
    rw [this]
    cases o <;> first | exact hc | cases hc

theorem PH.le.lt {h : PH} {w : World} {b : Nat} {o : Obj} (hl : h.le w) (hc : h b = some o) : b < w.heap.size :=
  (Array.getElem?_eq_some_iff.1 (hl _ _ hc)).1

/-! ### what stays -/
structure Keep (M : Nat → Prop) (w w' : World) : Prop where
  os : w'.os = w.os
  tape : w'.tape = w.tape
  output : w'.output = w.output
  size : w.heap.size ≤ w'.heap.size
  block : ∀ b, b < w.heap.size → ¬ M b → w'.heap[b]? = w.heap[b]?
  fz : ∀ a : Addr, a.block < w.heap.size → w'.frozen? a = w.frozen? a

/-- a block that is not write-protected -/
def softO (o : Obj) : Prop := ∀ x : Nat, (match o with | .cells _ _ (lo, hi) => decide (lo ≤ x) && decide (x < hi) | _ => false) = false
theorem soft_cells (c : Array Value) (t : TypeId) : softO (.cells c t (0, 0)) := fun x => by simp
theorem soft_map (c : Array MapEntry) (k : Nat) : softO (.map c k) := fun _ => rfl

/-- nothing is written -/
def Nil : Nat → Prop := fun _ => False

theorem Keep.refl (M : Nat → Prop) (w : World) : Keep M w w := ⟨rfl, rfl, rfl, Nat.le_refl _, fun _ _ _ => rfl, fun _ _ => rfl⟩

theorem Keep.trans {M N : Nat → Prop} {a b c : World} (h : Keep M a b) (k : Keep N b c) (hN : ∀ x, x < a.heap.size → N x → M x) : Keep M a c :=
  ⟨k.os.trans h.os, k.tape.trans h.tape, k.output.trans h.output, Nat.le_trans h.size k.size,
   fun x hx hm => (k.block x (Nat.lt_of_lt_of_le hx h.size) (fun hn => hm (hN x hx hn))).trans (h.block x hx hm), fun a ha => (k.fz a (Nat.lt_of_lt_of_le ha h.size)).trans (h.fz a ha)⟩

theorem Keep.trans' {M : Nat → Prop} {a b c : World} (h : Keep M a b) (k : Keep Nil b c) : Keep M a c := h.trans k (fun _ _ hx => hx.elim)

theorem Keep.mono {M N : Nat → Prop} {a b : World} (h : Keep M a b) (hs : ∀ x, M x → N x) : Keep N a b :=
  ⟨h.os, h.tape, h.output, h.size, fun x hx hn => h.block x hx (fun hm => hn (hs x hm)), h.fz⟩

theorem Keep.same {M : Nat → Prop} {w w' : World} (h1 : w'.heap = w.heap) (h2 : w'.os = w.os) (h3 : w'.tape = w.tape) (h4 : w'.output = w.output) : Keep M w w' :=
  ⟨h2, h3, h4, by rw [h1]; exact Nat.le_refl _, fun _ _ _ => by rw [h1], fun a _ => by simp only [World.frozen?, h1]⟩

theorem Keep.drew (M : Nat → Prop) (w : World) : Keep M w w.drew := .same rfl rfl rfl rfl

theorem Keep.alloc (M : Nat → Prop) (w : World) (o : Obj) (ho : softO o) : Keep M w (w.alloc o) :=
  ⟨rfl, rfl, rfl, by simp, fun b hb _ => by
    show (w.heap.push o)[b]? = _
    rw [Array.getElem?_push, if_neg (by omega)], fun a _ => by
    unfold World.frozen?
    show (match (w.heap.push o)[a.block]? with | some (.cells _ _ (lo, hi)) => decide (lo ≤ a.off) && decide (a.off < hi) | _ => false) = _
    rw [Array.getElem?_push]
    by_cases e : a.block = w.heap.size
    · rw [if_pos e, show w.heap[a.block]? = none by rw [e]; simp]
      have := ho a.off
      cases o <;> first | exact this | rfl
    · rw [if_neg e]; rfl⟩

theorem Keep.le {M : Nat → Prop} {w w' : World} {h : PH} (hk : Keep M w w') (hl : h.le w) (hM : ∀ b, M b → h b = none) : h.le w' := by
  intro b o hb
  rw [hk.block b (hl.lt hb) (fun hm => by rw [hM b hm] at hb; cases hb)]
  exact hl b o hb

theorem Keep.leNil {w w' : World} {h : PH} (hk : Keep Nil w w') (hl : h.le w) : h.le w' := hk.le hl (fun _ hx => hx.elim)

/-! ### owned assertions -/
structure HA where
  fp : Nat → Prop
  ok : PH → Prop
  dom : ∀ h b, ok h → fp b → h b ≠ none
  loc : ∀ h h', (∀ b, fp b → h' b = h b) → ok h → ok h'

/-- a block that holds just this -/
def blk (b : Nat) (o : Obj) : HA :=
  { fp := fun x => x = b, ok := fun h => h b = some o,
    dom := fun h x ho hx => by subst hx; rw [ho]; exact Option.some_ne_none o,
    loc := fun h h' e ho => by rw [e b rfl]; exact ho }

/-- the block of a slice -/
def slBlock : Value → Option Nat
  | .slice (some a) _ _ => some a.block
  | _ => none

/-- a slice of the call's own: nil, or from the first cell of a block on; its cells up to its length are 'xs'; 'e' the element's type, 'sz' its cells -/
def SlOk (e : TypeId) (sz : Nat) (v : Value) (n : Nat) (xs : List Value) (h : PH) : Prop :=
  xs.length = n * sz ∧
  ((v = .slice none 0 0 ∧ n = 0) ∨
   ∃ g cap cur, v = .slice (some ⟨g, 0, none⟩) n cap ∧ h g = some (.cells cur e (0, 0)) ∧ n ≤ cap ∧ cap ≤ maxLen ∧ cur.size = cap * sz ∧ cur.toList.take (n * sz) = xs)

def sl (e : TypeId) (sz : Nat) (v : Value) (n : Nat) (xs : List Value) : HA :=
  { fp := fun x => slBlock v = some x, ok := SlOk e sz v n xs,
    dom := fun h x ho hx => by
      rcases ho.2 with ⟨rfl, _⟩ | ⟨g, cap, cur, rfl, hg, _⟩
      · cases hx
      · simp [slBlock] at hx; subst hx; rw [hg]; exact Option.some_ne_none _,
    loc := fun h h' e' ho => by
      refine ⟨ho.1, ?_⟩
      rcases ho.2 with hn | ⟨g, cap, cur, rfl, hg, r⟩
      · exact .inl hn
      · exact .inr ⟨g, cap, cur, rfl, by rw [e' g rfl]; exact hg, r⟩ }

inductive Repl (A A' : HA) : List HA → List HA → Prop
  | head {L : List HA} : Repl A A' (A :: L) (A' :: L)
  | tail {B : HA} {L L' : List HA} (h : Repl A A' L L') : Repl A A' (B :: L) (B :: L')

inductive Pick (A : HA) : List HA → List HA → Prop
  | head {L : List HA} : Pick A (A :: L) L
  | tail {B : HA} {L L' : List HA} (h : Pick A L L') : Pick A (B :: L) (B :: L')

def Apart (A B : HA) : Prop := ∀ b, A.fp b → ¬ B.fp b

/-! ### the state of a walk -/
/-- w0: the world at the call; M: which of its blocks may be written; Hs: what is known and stays; L: what is owned; w: the world now -/
structure St (w0 : World) (M : Nat → Prop) (Hs : List PH) (L : List HA) (w : World) : Prop where
  keep : Keep M w0 w
  hs : ∀ h ∈ Hs, h.le w
  ok : ∀ A ∈ L, A.ok (hp w)
  own : ∀ A ∈ L, ∀ b, A.fp b → (w0.heap.size ≤ b ∨ M b) ∧ ∀ h ∈ Hs, h b = none
  disj : L.Pairwise Apart

theorem St.start {w : World} {M : Nat → Prop} {Hs : List PH} (h : ∀ x ∈ Hs, x.le w) : St w M Hs [] w :=
  ⟨.refl M w, h, fun A hA => (by cases hA), fun A hA => (by cases hA), .nil⟩

theorem St.start1 {w : World} {Hs : List PH} {A : HA} (h : ∀ x ∈ Hs, x.le w) (ho : A.ok (hp w)) (hd : ∀ b, A.fp b → ∀ x ∈ Hs, x b = none) : St w A.fp Hs [A] w := by
  refine ⟨.refl _ w, h, ?_, ?_, ?_⟩
  · intro B hB; simp at hB; subst hB; exact ho
  · intro B hB b hb; simp at hB; subst hB; exact ⟨.inr hb, hd b hb⟩
  · exact List.pairwise_singleton _ _

section
variable {w0 w w' : World} {M : Nat → Prop} {Hs : List PH} {L L' : List HA}

theorem St.fpLt (hs : St w0 M Hs L w) {A : HA} (hA : A ∈ L) {b : Nat} (hb : A.fp b) : b < w.heap.size := by
  have h1 := hs.ok A hA
  have h2 := A.dom _ b h1 hb
  rcases Nat.lt_or_ge b w.heap.size with h | h
  · exact h
  · exact absurd (Array.getElem?_eq_none h) h2

theorem St.same (hs : St w0 M Hs L w) (h1 : w'.heap = w.heap) (h2 : w'.os = w.os) (h3 : w'.tape = w.tape) (h4 : w'.output = w.output) : St w0 M Hs L w' := by
  have e : hp w' = hp w := by unfold hp; rw [h1]
  refine ⟨hs.keep.trans' (.same h1 h2 h3 h4), fun h hh b o hb => ?_, fun A hA => ?_, hs.own, hs.disj⟩
  · rw [h1]; exact hs.hs h hh b o hb
  · rw [e]; exact hs.ok A hA

theorem St.drew (hs : St w0 M Hs L w) : St w0 M Hs L w.drew := hs.same rfl rfl rfl rfl

/-- a call that writes nothing that was there -/
theorem St.pass (hs : St w0 M Hs L w) (hk : Keep Nil w w') : St w0 M Hs L w' := by
  refine ⟨hs.keep.trans' hk, fun h hh => hk.leNil (hs.hs h hh), fun A hA => ?_, hs.own, hs.disj⟩
  exact A.loc _ _ (fun b hb => hk.block b (hs.fpLt hA hb) id) (hs.ok A hA)

/-- something new -/
theorem St.add (hs : St w0 M Hs L w) {A : HA} (hk : Keep Nil w w') (ho : A.ok (hp w')) (hf : ∀ b, A.fp b → w.heap.size ≤ b) : St w0 M Hs (A :: L) w' := by
  have h1 := hs.pass hk
  refine ⟨h1.keep, h1.hs, ?_, ?_, ?_⟩
  · intro B hB
    rcases List.mem_cons.1 hB with rfl | hB
    · exact ho
    · exact h1.ok B hB
  · intro B hB b hb
    rcases List.mem_cons.1 hB with rfl | hB
    · refine ⟨.inl (Nat.le_trans hs.keep.size (hf b hb)), fun h hh => ?_⟩
      cases hx : h b with
      | none => rfl
      | some o => have := (hs.hs h hh).lt hx; have := hf b hb; omega
    · exact h1.own B hB b hb
  · refine List.pairwise_cons.2 ⟨fun B hB b hb hb' => ?_, hs.disj⟩
    have := hs.fpLt hB hb'
    have := hf b hb
    omega

theorem Repl.memOld {A A' : HA} (h : Repl A A' L L') : A ∈ L := by
  induction h with
  | head => exact .head _
  | tail _ ih => exact .tail _ ih

theorem Repl.memNew {A A' B : HA} (h : Repl A A' L L') (hB : B ∈ L') : B = A' ∨ B ∈ L := by
  induction h with
  | head =>
    rcases List.mem_cons.1 hB with rfl | hB
    · exact .inl rfl
    · exact .inr (.tail _ hB)
  | tail _ ih =>
    rcases List.mem_cons.1 hB with rfl | hB
    · exact .inr (.head _)
    · rcases ih hB with h | h
      · exact .inl h
      · exact .inr (.tail _ h)

/-- In a list of assertions that are apart, the others of a replaced one are apart from it. -/
theorem Repl.others {A A' : HA} (h : Repl A A' L L') (hd : L.Pairwise Apart) : ∀ B ∈ L', B = A' ∨ (B ∈ L ∧ Apart A B) := by
  induction h with
  | head =>
    intro B hB
    rcases List.mem_cons.1 hB with rfl | hB
    · exact .inl rfl
    · exact .inr ⟨.tail _ hB, (List.pairwise_cons.1 hd).1 B hB⟩
  | tail h' ih =>
    intro B hB
    rcases List.mem_cons.1 hB with rfl | hB
    · refine .inr ⟨.head _, fun b hA hb => (List.pairwise_cons.1 hd).1 A h'.memOld b hb hA⟩
    · rcases ih (List.pairwise_cons.1 hd).2 B hB with h | ⟨h, k⟩
      · exact .inl h
      · exact .inr ⟨.tail _ h, k⟩

theorem Repl.pairwise {A A' : HA} (h : Repl A A' L L') (hd : L.Pairwise Apart) (hn : ∀ B ∈ L, Apart A B → Apart A' B) : L'.Pairwise Apart := by
  induction h with
  | head =>
    have := List.pairwise_cons.1 hd
    exact List.pairwise_cons.2 ⟨fun B hB => hn B (.tail _ hB) (this.1 B hB), this.2⟩
  | tail h' ih =>
    rename_i B0 L0 L0'
    have hc := List.pairwise_cons.1 hd
    refine List.pairwise_cons.2 ⟨fun B hB => ?_, ih hc.2 (fun B hB => hn B (.tail _ hB))⟩
    rcases h'.memNew hB with rfl | hB'
    · have h0 : Apart A B0 := fun b hA hb => hc.1 A h'.memOld b hb hA
      have h1 := hn B0 (.head _) h0
      exact fun b hb hA' => h1 b hA' hb
    · exact hc.1 B hB'

/-- what is owned is changed -/
theorem St.upd (hs : St w0 M Hs L w) {A A' : HA} (hr : Repl A A' L L') (hk : Keep A.fp w w') (ho : A'.ok (hp w')) (hf : ∀ b, A'.fp b → A.fp b ∨ w.heap.size ≤ b) : St w0 M Hs L' w' := by
  have hA := hr.memOld
  refine ⟨hs.keep.trans hk (fun x hx hA' => ?_), fun h hh => hk.le (hs.hs h hh) (fun b hb => (hs.own A hA b hb).2 h hh), ?_, ?_, ?_⟩
  · rcases (hs.own A hA x hA').1 with h | h
    · omega
    · exact h
  · intro B hB
    rcases hr.others hs.disj B hB with rfl | ⟨hB', hap⟩
    · exact ho
    · exact B.loc _ _ (fun b hb => hk.block b (hs.fpLt hB' hb) (fun hA' => hap b hA' hb)) (hs.ok B hB')
  · intro B hB b hb
    rcases hr.memNew hB with rfl | hB'
    · rcases hf b hb with h | h
      · exact hs.own A hA b h
      · refine ⟨.inl (Nat.le_trans hs.keep.size h), fun h' hh => ?_⟩
        cases hx : h' b with
        | none => rfl
        | some o => have := (hs.hs h' hh).lt hx; omega
    · exact hs.own B hB' b hb
  · refine hr.pairwise hs.disj (fun B hB hap b hb hb' => ?_)
    rcases hf b hb with h | h
    · exact hap b h hb'
    · have := hs.fpLt hB hb'; omega

theorem Pick.mem {A : HA} (h : Pick A L L') : A ∈ L := by
  induction h with
  | head => exact .head _
  | tail _ ih => exact .tail _ ih

theorem Pick.sub {A B : HA} (h : Pick A L L') (hB : B ∈ L') : B ∈ L := by
  induction h with
  | head => exact .tail _ hB
  | tail _ ih =>
    rcases List.mem_cons.1 hB with rfl | hB
    · exact .head _
    · exact .tail _ (ih hB)

theorem Pick.pairwise {A : HA} (h : Pick A L L') (hd : L.Pairwise Apart) : L'.Pairwise Apart ∧ ∀ B ∈ L', Apart A B := by
  induction h with
  | head => exact ⟨(List.pairwise_cons.1 hd).2, (List.pairwise_cons.1 hd).1⟩
  | tail h' ih =>
    have hc := List.pairwise_cons.1 hd
    have := ih hc.2
    refine ⟨List.pairwise_cons.2 ⟨fun B hB => hc.1 B (h'.sub hB), this.1⟩, fun B hB => ?_⟩
    rcases List.mem_cons.1 hB with rfl | hB
    · exact fun b hA hb => hc.1 A h'.mem b hb hA
    · exact this.2 B hB

/-- what is owned is forgotten -/
theorem St.drop (hs : St w0 M Hs L w) {A : HA} (hp : Pick A L L') : St w0 M Hs L' w :=
  ⟨hs.keep, hs.hs, fun B hB => hs.ok B (hp.sub hB), fun B hB => hs.own B (hp.sub hB), (hp.pairwise hs.disj).1⟩

/-- a sublist of what is owned -/
theorem St.sub (hs : St w0 M Hs L w) (h : L'.Sublist L) : St w0 M Hs L' w :=
  ⟨hs.keep, hs.hs, fun B hB => hs.ok B (h.subset hB), fun B hB => hs.own B (h.subset hB), hs.disj.sublist h⟩

/-- what is owned will not be written any more -/
theorem St.freeze (hs : St w0 M Hs L w) {A : HA} (hp' : Pick A L L') : ∃ h : PH, A.ok h ∧ (∀ b, h b ≠ none → A.fp b) ∧ St w0 M (h :: Hs) L' w := by
  classical
  refine ⟨fun b => if A.fp b then w.heap[b]? else none, ?_, ?_, ?_⟩
  · exact A.loc _ _ (fun b hb => by simp [hb, hp]) (hs.ok A hp'.mem)
  · intro b hb
    by_cases h : A.fp b
    · exact h
    · simp [h] at hb
  · have h1 := hs.drop hp'
    refine ⟨h1.keep, ?_, h1.ok, ?_, h1.disj⟩
    · intro h hh
      rcases List.mem_cons.1 hh with rfl | hh
      · intro b o hb
        by_cases h : A.fp b
        · simpa [h] using hb
        · simp [h] at hb
      · exact h1.hs h hh
    · intro B hB b hb
      refine ⟨(h1.own B hB b hb).1, fun h hh => ?_⟩
      rcases List.mem_cons.1 hh with rfl | hh
      · have := (hp'.pairwise hs.disj).2 B hB
        simp [show ¬ A.fp b from fun hA => this b hA hb]
      · exact (h1.own B hB b hb).2 h hh

/-- a heap that a callee hands back: over what was known, and new blocks -/
theorem St.addH (hs : St w0 M Hs L w) {h : PH} (hle : h.le w) (hnew : ∀ b, h b ≠ none → (∃ k ∈ Hs, k b ≠ none) ∨ ∀ A ∈ L, ¬ A.fp b) : St w0 M (h :: Hs) L w := by
  refine ⟨hs.keep, ?_, hs.ok, ?_, hs.disj⟩
  · intro k hk
    rcases List.mem_cons.1 hk with rfl | hk
    · exact hle
    · exact hs.hs k hk
  · intro A hA b hb
    refine ⟨(hs.own A hA b hb).1, fun k hk => ?_⟩
    rcases List.mem_cons.1 hk with rfl | hk
    · cases hx : k b with
      | none => rfl
      | some o =>
        rcases hnew b (by rw [hx]; simp) with ⟨k', hk', hne⟩ | h
        · exact absurd ((hs.own A hA b hb).2 k' hk') hne
        · exact absurd hb (h A hA)
    · exact (hs.own A hA b hb).2 k hk

theorem St.hsub (hs : St w0 M Hs L w) {Hs' : List PH} (h : ∀ x ∈ Hs', x ∈ Hs) : St w0 M Hs' L w :=
  ⟨hs.keep, fun x hx => hs.hs x (h x hx), hs.ok, fun A hA b hb => ⟨(hs.own A hA b hb).1, fun x hx => (hs.own A hA b hb).2 x (h x hx)⟩, hs.disj⟩

/-- loads -/
theorem St.cellH (hs : St w0 M Hs L w) {h : PH} (hh : h ∈ Hs) {a : Addr} {v : Value} (hc : h.cell? a = some v) : w.cell? a = some v := (hs.hs h hh).cell hc

theorem cell_of_cells {w : World} {b off : Nat} {c : Array Value} {e : TypeId} {f : Nat × Nat} {v : Value} (hb : w.heap[b]? = some (.cells c e f)) (hv : c[off]? = some v) : w.cell? ⟨b, off, none⟩ = some v := by
  simp [World.cell?, hb, hv]

theorem St.cellB (hs : St w0 M Hs L w) {b off : Nat} {c : Array Value} {e : TypeId} {f : Nat × Nat} {v : Value} (hA : blk b (.cells c e f) ∈ L) (hv : c[off]? = some v) : w.cell? ⟨b, off, none⟩ = some v :=
  cell_of_cells (hs.ok _ hA) hv

end

/-! ### frames -/
structure FN where
  n : Nat
  ds : List Nat
instance (n : Nat) : OfNat FN n := ⟨⟨n, []⟩⟩
/-- the mark of a range over a function -/
def markD (D : Nat) : Deferred := { target := .collected D, args := #[] }
structure Fr (N : FN) (F : List (Nat × Value)) (a : Act) : Prop where
  size : a.tmps.size = N.n
  slots : ∀ t v, F.lookup t = some v → a.tmps[t]? = some v
  defers : a.defers = N.ds.map markD

/-- a list's element, by plain recursion -/
def nth {α : Type} : List α → Nat → Option α
  | [], _ => none
  | x :: _, 0 => some x
  | _ :: r, n + 1 => nth r n

theorem nth_eq {α : Type} (l : List α) (n : Nat) : nth l n = l[n]? := by
  induction l generalizing n with
  | nil => simp [nth]
  | cons x r ih => cases n <;> simp [nth, ih]

def opv (F : List (Nat × Value)) : Operand → Option Value
  | .tmp t => F.lookup t
  | .const v => some v
  | .global g => some (.pointer (some ⟨g, 0, none⟩))
  | .func f => some (.func (.func f) #[] #[])

section
variable {N : FN} {F : List (Nat × Value)} {a : Act}

theorem Fr.ev (hF : Fr N F a) {x : Operand} {v : Value} (h : opv F x = some v) : a.eval x = v := by
  cases x with
  | tmp t =>
    have := hF.slots t v h
    simp [Act.eval, this]
  | const u => simp [opv] at h; simp [Act.eval, h]
  | global g => simp [opv] at h; simp [Act.eval, h]
  | func f => simp [opv] at h; simp [Act.eval, h]

theorem Fr.put (hF : Fr N F a) {d : Nat} (hd : d < N.n) (v : Value) : Fr N ((d, v) :: F) (a.put (some d) v) := by
  refine ⟨by simp [Act.put, hF.size], fun t u h => ?_, hF.defers⟩
  simp only [List.lookup_cons] at h
  by_cases e : t = d
  · subst e
    simp at h; subst h
    have : t < a.tmps.size := by rw [hF.size]; exact hd
    simp [Act.put, this]
  · have : (t == d) = false := by simp [e]
    rw [this] at h
    have hne : d ≠ t := fun x => e x.symm
    simp [Act.put, Array.getElem?_setIfInBounds_ne hne, hF.slots t u h]

theorem Fr.putNone (hF : Fr N F a) (v : Value) : Fr N F (a.put none v) := hF

theorem Fr.sub (hF : Fr N F a) {F' : List (Nat × Value)} (h : ∀ p ∈ F', F.lookup p.1 = some p.2) : Fr N F' a := by
  refine ⟨hF.size, fun t v hv => ?_, hF.defers⟩
  have : (t, v) ∈ F' := by
    clear h hF
    induction F' with
    | nil => cases hv
    | cons p F' ih =>
      obtain ⟨k, u⟩ := p
      rw [List.lookup_cons] at hv
      by_cases e : t = k
      · subst e
        simp at hv
        subst hv; exact .head _
      · have e' : (t == k) = false := by simp [e]
        simp only [e'] at hv
        exact .tail _ (ih hv)
  exact hF.slots t v (h (t, v) this)

/-- what a list of slots must be -/
def Has (F : List (Nat × Value)) : List (Nat × Value) → Prop
  | [] => True
  | p :: r => F.lookup p.1 = some p.2 ∧ Has F r

theorem Fr.has (hF : Fr N F a) {F' : List (Nat × Value)} (h : Has F F') : Fr N F' a := by
  refine hF.sub ?_
  induction F' with
  | nil => intro p hp; cases hp
  | cons q F' ih =>
    intro p hp
    rcases List.mem_cons.1 hp with rfl | hp
    · exact h.1
    · exact ih h.2 p hp

theorem Fr.enter {N : Nat} {args : Array Value} {n : Nat} (hn : args.size + n = N) :
    Fr ⟨N, []⟩ (args.toList.zipIdx.map fun p => (p.2, p.1)) { tmps := args ++ Array.replicate n undef, defers := [] } := by
  refine ⟨by simp [hn], fun t v h => ?_, rfl⟩
  have key : ∀ (l : List Value) (k : Nat), (l.zipIdx k |>.map fun p => (p.2, p.1)).lookup t = some v → l[t - k]? = some v ∧ k ≤ t := by
    intro l
    induction l with
    | nil => intro k h; cases h
    | cons x l ih =>
      intro k h
      by_cases e : t = k
      · subst e
        rw [List.zipIdx_cons, List.map_cons, List.lookup_cons] at h
        simp at h
        simp [h]
      · have e' : (t == k) = false := by simp [e]
        rw [List.zipIdx_cons, List.map_cons, List.lookup_cons] at h
        simp only [e'] at h
        have := ih (k + 1) h
        refine ⟨?_, by omega⟩
        rw [show t - k = (t - (k + 1)) + 1 by omega]
        simpa using this.1
  have h1 : args[t]? = some v := by simpa using (key args.toList 0 h).1
  have hlt : t < args.size := (Array.getElem?_eq_some_iff.1 h1).1
  rw [Array.getElem?_append_left hlt]
  exact h1
end
end Go.LL
