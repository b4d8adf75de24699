/- The engine's second part: steps of a walk: one operation, a region in the order of the text, a region that draws its order. No condition: plain lemmas. -/
import Derived.Test.YtkgaliichchanaaLLa
import Derived.OrdersHeld
import Derived.OrdersIn
import Derived.TacticsIn
import Derived.OwnWalkIn
import Derived.RangeFuncCalls
namespace Go.LL
open Go

section
variable {P : Program} {ops : Array Oper} {Q : Exit → Act → World → Prop} {a : Act} {w : World}

/-- one operation, and what follows -/
def stp (P : Program) (ops : Array Oper) (Q : Exit → Act → World → Prop) (o : Oper) (a : Act) (w : World) (K : Act → World → Prop) : Prop :=
  if Region.wanted o (yielded ops a.tmps) = true then o.wp P a w K Q else K (a.put o.dst undef) w

theorem stp_of_wp {o : Oper} {K : Act → World → Prop} (hW : Region.wanted o (yielded ops a.tmps) = true) (h : o.wp P a w K Q) : stp P ops Q o a w K := by
  unfold stp; rw [if_pos hW]; exact h

theorem stp_skip {o : Oper} {K : Act → World → Prop} (hW : Region.wanted o (yielded ops a.tmps) = false) (h : K (a.put o.dst undef) w) : stp P ops Q o a w K := by
  unfold stp; rw [if_neg (by rw [hW]; exact Bool.false_ne_true)]; exact h

/-! ### the fence: none, but for the round that one is in -/
abbrev FR (ro : Option Nat) : Fence := { Fence.wide with round := ro }
def wq (ro : Option Nat) (P : Program) (c : Code) (Q : Exit → Act → World → Prop) (a : Act) (w : World) : Prop := c.wpIn (FR ro) 0 P Q a w
class NoOut (Q : Exit → Act → World → Prop) : Prop where
  no : ¬ LetsOut Q
instance {K : Act → World → Prop} [NoOut Q] : NoOut (Exit.then K Q) := ⟨fun ⟨a, w, h⟩ => NoOut.no (Q := Q) ⟨a, w, h⟩⟩
instance {id : Nat} [NoOut Q] : NoOut (Exit.inBlock id Q) := ⟨fun ⟨a, w, h⟩ => NoOut.no (Q := Q) ⟨a, w, h⟩⟩
instance {fn : Func} {R : Value → World → Prop} : NoOut (bodyPost P fn fun e w' => ∃ v, e = .returned v ∧ R v w') := ⟨fun ⟨_, _, h⟩ => by
  obtain ⟨v, e, _⟩ := h; cases e⟩

def plainOp (o : Oper) : Bool := match o.op with | .defer _ => false | _ => true
theorem plainOp_no {o : Oper} (h : plainOp o = true) : ∀ c, o.op ≠ .defer c := fun c e => by simp [plainOp, e] at h

theorem op_in {ro : Option Nat} {o : Oper} {K : Act → World → Prop} (hd : plainOp o = true) (h : o.wp P a w K Q) : o.wpIn (FR ro) 0 P a w K Q := by
  unfold Oper.wpIn
  refine ⟨fun _ _ => trivial, ?_⟩
  rw [Oper.semAt_plain (FR ro) _ _ (plainOp_no hd)]
  unfold Oper.wp at h
  generalize (execOp a.eval o).run P w = r at *
  cases r with
  | ok n w' =>
    cases n with
    | enter f args => exact ⟨fun e => (by cases e), callsIn_wide.2 h⟩
    | row row args =>
      refine ⟨fun e => (by cases e), fun c cs _ => ?_⟩
      obtain ⟨v, w'', hr, hs⟩ := h c cs
      exact ⟨v, w'', hr, stepsIn_wide.2 hs⟩
    | round l f tmps assign body => exact absurd h (by simp [Oper.upon])
    | _ => exact h
  | halt e w' => cases e <;> first | exact h | exact absurd h (by simp [Oper.upon])

/-- a call of yield -/
def yl (P : Program) (o : Oper) (a : Act) (w : World) (K : Act → World → Prop) : Prop :=
  ∃ l f tmps assign body, (execOp a.eval o).run P w = .ok (.round l f tmps assign body) w ∧ RoundIn Fence.wide 0 P l f tmps assign body w fun e w' => ∃ v, e = .returned v ∧ K (a.put o.dst v) w'

/-! ### in the order of the text -/
def wpL (P : Program) (ops : Array Oper) (Q : Exit → Act → World → Prop) : List Oper → Act → World → Prop
  | [], a, w => Q .normal a w
  | o :: rest, a, w => stp P ops Q o a w (wpL P ops Q rest) ∨ (Region.wanted o (yielded ops a.tmps) = true ∧ yl P o a w (wpL P ops Q rest))

theorem ls {o : Oper} {rest : List Oper} (h : stp P ops Q o a w (wpL P ops Q rest)) : wpL P ops Q (o :: rest) a w := .inl h
theorem lsy {o : Oper} {rest : List Oper} (hg : o.guard = none) (h : yl P o a w (wpL P ops Q rest)) : wpL P ops Q (o :: rest) a w := .inr ⟨by simp [Region.wanted, hg], h⟩
theorem lsyw {o : Oper} {rest : List Oper} (hg : Region.wanted o (yielded ops a.tmps) = true) (h : yl P o a w (wpL P ops Q rest)) : wpL P ops Q (o :: rest) a w := .inr ⟨hg, h⟩

theorem wpL_in {ro : Option Nat} : ∀ (l : List Oper) (a : Act) (w : World), l.all plainOp = true → wpL P ops Q l a w → wpListIn (FR ro) 0 P ops Q l a w
  | [], _, _, _, h => h
  | o :: rest, a, w, hd, h => by
    simp only [List.all_cons, Bool.and_eq_true] at hd
    refine wpListIn_step fun K hK => ?_
    have hK' : ∀ a w, wpL P ops Q rest a w → K a w := fun a w h => hK a w (wpL_in rest a w hd.2 h)
    rcases h with h | ⟨hg, l, f, tmps, assign, body, hr, hy⟩
    · unfold stp at h
      split
      · rename_i hw; rw [if_pos hw] at h; exact op_in hd.1 (Oper.wp_mono hK' h)
      · rename_i hw; rw [if_neg hw] at h; exact ⟨fun _ _ => trivial, hK' _ _ h⟩
    · rw [if_pos hg]
      unfold Oper.wpIn
      refine ⟨fun _ _ => trivial, ?_⟩
      rw [Oper.semAt_plain (FR ro) _ _ (plainOp_no hd.1), hr]
      refine ⟨fun e => (by cases e), ?_⟩
      refine RoundIn.mono (F := Fence.wide) hy ?_
      rintro e w' ⟨v, rfl, h⟩
      exact hK' _ _ h

theorem rg {ro : Option Nat} {id : Nat} {l : List Oper} (h : wpL P l.toArray Q l a w) (hd : l.all plainOp = true := by rfl) : wq ro P (Code.region id l.toArray false) Q a w := wpIn_region_lit (wpL_in l a w hd h)
theorem re (h : Q .normal a w) : wpL P ops Q [] a w := h

/-! ### guards -/
theorem gd_none (d : Option Tmp) (op : Op) (ty : TypeId) (pos : String) (af : Array Edge) : Region.wanted ⟨d, op, ty, pos, af, none⟩ (yielded ops a.tmps) = true := rfl

theorem yielded_of {j t : Nat} {b : Bool} {N : FN} {F : List (Nat × Value)} (hF : Fr N F a) (hj : (ops[j]?).bind (·.dst) = some t) (ht : F.lookup t = some (.bool b)) : yielded ops a.tmps j = some b := by
  unfold yielded
  rw [hj]
  simp [hF.slots t _ ht]

theorem gd_some {d : Option Tmp} {op : Op} {ty : TypeId} {pos : String} {af : Array Edge} {j t : Nat} {b : Bool} {N : FN} {F : List (Nat × Value)}
    (hF : Fr N F a) (hj : (ops[j]?).bind (·.dst) = some t) (ht : F.lookup t = some (.bool b)) : Region.wanted ⟨d, op, ty, pos, af, some (j, b)⟩ (yielded ops a.tmps) = true := by
  simp [Region.wanted, yielded_of hF hj ht]

theorem gd_not {d : Option Tmp} {op : Op} {ty : TypeId} {pos : String} {af : Array Edge} {j t : Nat} {b b' : Bool} {N : FN} {F : List (Nat × Value)}
    (hF : Fr N F a) (hj : (ops[j]?).bind (·.dst) = some t) (ht : F.lookup t = some (.bool b')) (hne : (b' == b) = false) : Region.wanted ⟨d, op, ty, pos, af, some (j, b)⟩ (yielded ops a.tmps) = false := by
  have h : (some b' == some b) = false := by simpa using hne
  simp only [Region.wanted, yielded_of hF hj ht, h]

/-- a guarded operation is carried out -/
theorem gy {d : Option Tmp} {op : Op} {ty : TypeId} {pos : String} {af : Array Edge} {j t : Nat} {b : Bool} {N : FN} {F : List (Nat × Value)} {K : Act → World → Prop}
    (hF : Fr N F a) (hj : (ops[j]?).bind (·.dst) = some t) (ht : F.lookup t = some (.bool b)) (h : stp P ops Q ⟨d, op, ty, pos, af, none⟩ a w K) : stp P ops Q ⟨d, op, ty, pos, af, some (j, b)⟩ a w K := by
  refine stp_of_wp (gd_some hF hj ht) ?_
  unfold stp at h
  rw [if_pos (gd_none d op ty pos af)] at h
  exact h

/-- .. or not -/
theorem gn {d : Nat} {op : Op} {ty : TypeId} {pos : String} {af : Array Edge} {j t : Nat} {b b' : Bool} {N : FN} {F : List (Nat × Value)} {K : Act → World → Prop}
    (hF : Fr N F a) (hN : Nat.blt d N.n = true) (hj : (ops[j]?).bind (·.dst) = some t) (ht : F.lookup t = some (.bool b')) (hne : (b' == b) = false)
    (k : ∀ a, Fr N ((d, undef) :: F) a → K a w) : stp P ops Q ⟨some d, op, ty, pos, af, some (j, b)⟩ a w K :=
  stp_skip (gd_not hF hj ht hne) (k _ (hF.put (by simpa [Nat.blt_eq] using hN) undef))

theorem gn0 {op : Op} {ty : TypeId} {pos : String} {af : Array Edge} {j t : Nat} {b b' : Bool} {N : FN} {F : List (Nat × Value)} {K : Act → World → Prop}
    (hF : Fr N F a) (hj : (ops[j]?).bind (·.dst) = some t) (ht : F.lookup t = some (.bool b')) (hne : (b' == b) = false)
    (k : K a w) : stp P ops Q ⟨none, op, ty, pos, af, some (j, b)⟩ a w K :=
  stp_skip (gd_not hF hj ht hne) k

theorem yielded_undef {j t : Nat} {N : FN} {F : List (Nat × Value)} (hF : Fr N F a) (hj : (ops[j]?).bind (·.dst) = some t) (ht : F.lookup t = some undef) : yielded ops a.tmps j = none := by
  unfold yielded
  rw [hj]
  simp [hF.slots t _ ht, undef]

theorem gd_und {d : Option Tmp} {op : Op} {ty : TypeId} {pos : String} {af : Array Edge} {j t : Nat} {b : Bool} {N : FN} {F : List (Nat × Value)}
    (hF : Fr N F a) (hj : (ops[j]?).bind (·.dst) = some t) (ht : F.lookup t = some undef) : Region.wanted ⟨d, op, ty, pos, af, some (j, b)⟩ (yielded ops a.tmps) = false := by
  simp [Region.wanted, yielded_undef hF hj ht]

theorem gnu {d : Nat} {op : Op} {ty : TypeId} {pos : String} {af : Array Edge} {j t : Nat} {b : Bool} {N : FN} {F : List (Nat × Value)} {K : Act → World → Prop}
    (hF : Fr N F a) (hN : Nat.blt d N.n = true) (hj : (ops[j]?).bind (·.dst) = some t) (ht : F.lookup t = some undef)
    (k : ∀ a, Fr N ((d, undef) :: F) a → K a w) : stp P ops Q ⟨some d, op, ty, pos, af, some (j, b)⟩ a w K :=
  stp_skip (gd_und hF hj ht) (k _ (hF.put (by simpa [Nat.blt_eq] using hN) undef))

/-- a bool that is not known yet -/
theorem Fr.split {N : FN} {F : List (Nat × Value)} {G : Prop} {t : Nat} {b : Bool} (hF : Fr N F a) (ht : F.lookup t = some (.bool b))
    (ky : b = true → Fr N ((t, .bool true) :: F) a → G) (kn : b = false → Fr N ((t, .bool false) :: F) a → G) : G := by
  have key : ∀ c, b = c → Fr N ((t, .bool c) :: F) a := fun c hc => by
    refine ⟨hF.size, fun u v h => ?_, hF.defers⟩
    rw [List.lookup_cons] at h
    by_cases e : u = t
    · subst e; simp at h; subst h; subst hc; exact hF.slots u _ ht
    · have e' : (u == t) = false := by simp [e]
      simp only [e'] at h; exact hF.slots u v h
  cases hb : b with
  | true => exact ky hb (key true hb)
  | false => exact kn hb (key false hb)

/-- a slot whose value is spelled anew -/
theorem Fr.as {N : FN} {F : List (Nat × Value)} {t : Nat} {v v' : Value} (hF : Fr N F a) (ht : F.lookup t = some v) (e : v = v') : Fr N ((t, v') :: F) a := by
  subst e
  refine ⟨hF.size, fun u x h => ?_, hF.defers⟩
  rw [List.lookup_cons] at h
  by_cases e : u = t
  · subst e; simp at h; subst h; exact hF.slots u _ ht
  · have e' : (u == t) = false := by simp [e]
    simp only [e'] at h; exact hF.slots u x h

/-! ### steps -/
/-- an operation that yields a value and leaves the world alone -/
theorem q1 {N : FN} {F : List (Nat × Value)} {d : Nat} {op : Op} {ty : TypeId} {pos : String} {af : Array Edge} {v : Value} {K : Act → World → Prop}
    (hF : Fr N F a) (hN : Nat.blt d N.n = true) (hE : (execOp a.eval ⟨some d, op, ty, pos, af, none⟩).run P w = .ok (.value v) w)
    (k : ∀ a, Fr N ((d, v) :: F) a → K a w) : stp P ops Q ⟨some d, op, ty, pos, af, none⟩ a w K := by
  refine stp_of_wp rfl ?_
  unfold Oper.wp
  rw [hE]
  exact k _ (hF.put (by simpa [Nat.blt_eq] using hN) v)

/-- .. that makes or writes memory, and yields a value -/
theorem m1 {N : FN} {F : List (Nat × Value)} {d : Nat} {op : Op} {ty : TypeId} {pos : String} {af : Array Edge} {v : Value} {w' : World} {K : Act → World → Prop}
    (hF : Fr N F a) (hN : Nat.blt d N.n = true) (hE : (execOp a.eval ⟨some d, op, ty, pos, af, none⟩).run P w = .ok (.value v) w')
    (k : ∀ a, Fr N ((d, v) :: F) a → K a w') : stp P ops Q ⟨some d, op, ty, pos, af, none⟩ a w K := by
  refine stp_of_wp rfl ?_
  unfold Oper.wp
  rw [hE]
  exact k _ (hF.put (by simpa [Nat.blt_eq] using hN) v)

/-- .. that yields nothing -/
theorem m0 {op : Op} {ty : TypeId} {pos : String} {af : Array Edge} {w' : World} {K : Act → World → Prop}
    (hE : (execOp a.eval ⟨none, op, ty, pos, af, none⟩).run P w = .ok .skip w')
    (k : K a w') : stp P ops Q ⟨none, op, ty, pos, af, none⟩ a w K := by
  refine stp_of_wp rfl ?_
  unfold Oper.wp
  rw [hE]
  exact k

theorem m0v {op : Op} {ty : TypeId} {pos : String} {af : Array Edge} {w' : World} {v : Value} {K : Act → World → Prop}
    (hE : (execOp a.eval ⟨none, op, ty, pos, af, none⟩).run P w = .ok (.value v) w')
    (k : K a w') : stp P ops Q ⟨none, op, ty, pos, af, none⟩ a w K := by
  refine stp_of_wp rfl ?_
  unfold Oper.wp
  rw [hE]
  exact k

/-- what a call gives: it returns, and .. -/
def Tot (P : Program) (f : FuncId) (args : Array Value) (w : World) (R : Value → World → Prop) : Prop :=
  Calls P f args w fun e w' => ∃ v, e = .returned v ∧ R v w'

theorem Tot.mono {f : FuncId} {args : Array Value} {R R' : Value → World → Prop} (h : Tot P f args w R) (hr : ∀ v w', R v w' → R' v w') : Tot P f args w R' :=
  Calls.mono h (fun _ _ ⟨v, he, h⟩ => ⟨v, he, hr _ _ h⟩)

/-- the arguments of a call -/
def argv (F : List (Nat × Value)) : List Operand → List Value → Prop
  | [], [] => True
  | x :: r, v :: s => opv F x = some v ∧ argv F r s
  | _, _ => False

theorem argv_map {N : FN} {F : List (Nat × Value)} (hF : Fr N F a) : ∀ {l : List Operand} {vs : List Value}, argv F l vs → l.map a.eval = vs
  | [], [], _ => rfl
  | x :: r, v :: s, h => by rw [List.map_cons, hF.ev h.1, argv_map hF h.2]
  | [], _ :: _, h => h.elim
  | _ :: _, [], h => h.elim

theorem exec_call {f : FuncId} {l : List Operand} {vs : List Value} {at_ : Array TypeId} {d : Option Tmp} {ty : TypeId} {pos : String} {af : Array Edge} {g : Option (Nat × Bool)}
    (hargs : l.map a.eval = vs) (hen : (callFunc f vs.toArray).run P w = .ok (.enter f vs.toArray) w) :
    (execOp a.eval ⟨d, .call ⟨.value (.func f), l.toArray, at_⟩, ty, pos, af, g⟩).run P w = .ok (.enter f vs.toArray) w := by
  have e : (Array.map a.eval l.toArray) = vs.toArray := by rw [List.map_toArray, hargs]
  simp [execOp, resolve, invoke, Act.eval, Deferred.ofValue, hargs, hen]

theorem c1 {N : FN} {F : List (Nat × Value)} {d : Nat} {ty : TypeId} {pos : String} {af : Array Edge} {f : FuncId} {l : List Operand} {vs : List Value} {at_ : Array TypeId} {R : Value → World → Prop} {K : Act → World → Prop}
    (hF : Fr N F a) (hN : Nat.blt d N.n = true) (hen : ∀ (x : Array Value) (w : World), (callFunc f x).run P w = .ok (.enter f x) w) (hc : Tot P f vs.toArray w R) (hargs : argv F l vs)
    (k : ∀ v w' a, R v w' → Fr N ((d, v) :: F) a → K a w') : stp P ops Q ⟨some d, .call ⟨.value (.func f), l.toArray, at_⟩, ty, pos, af, none⟩ a w K := by
  refine stp_of_wp rfl ?_
  unfold Oper.wp
  rw [exec_call (argv_map hF hargs) (hen _ _)]
  refine Calls.mono hc ?_
  rintro e w' ⟨v, rfl, hR⟩
  exact k v w' _ hR (hF.put (by simpa [Nat.blt_eq] using hN) v)

theorem c0 {N : FN} {F : List (Nat × Value)} {ty : TypeId} {pos : String} {af : Array Edge} {f : FuncId} {l : List Operand} {vs : List Value} {at_ : Array TypeId} {R : Value → World → Prop} {K : Act → World → Prop}
    (hF : Fr N F a) (hen : ∀ (x : Array Value) (w : World), (callFunc f x).run P w = .ok (.enter f x) w) (hc : Tot P f vs.toArray w R) (hargs : argv F l vs)
    (k : ∀ v w', R v w' → K a w') : stp P ops Q ⟨none, .call ⟨.value (.func f), l.toArray, at_⟩, ty, pos, af, none⟩ a w K := by
  refine stp_of_wp rfl ?_
  unfold Oper.wp
  rw [exec_call (argv_map hF hargs) (hen _ _)]
  refine Calls.mono hc ?_
  rintro e w' ⟨v, rfl, hR⟩
  exact k v w' hR

/-! ### a region that draws its order -/
/-- what loads lean on while a region is walked -/
structure Lds (Hs : List PH) (L : List HA) (w : World) : Prop where
  hs : ∀ h ∈ Hs, h.le w
  ok : ∀ A ∈ L, A.ok (hp w)

theorem St.ld {w0 : World} {M : Nat → Prop} {Hs : List PH} {L : List HA} (h : St w0 M Hs L w) : Lds Hs L w := ⟨h.hs, h.ok⟩

theorem Lds.cellH {Hs : List PH} {L : List HA} (hs : Lds Hs L w) {h : PH} (hh : h ∈ Hs) {a : Addr} {v : Value} (hc : h.cell? a = some v) : w.cell? a = some v := (hs.hs h hh).cell hc

theorem Lds.cellB {Hs : List PH} {L : List HA} (hs : Lds Hs L w) {b off : Nat} {c : List Value} {e : TypeId} {f : Nat × Nat} {v : Value} (hA : blk b (.cells c.toArray e f) ∈ L) (hv : nth c off = some v) : w.cell? ⟨b, off, none⟩ = some v :=
  cell_of_cells (hs.ok _ hA) (by simpa [nth_eq] using hv)

theorem Lds.drew {Hs : List PH} {L : List HA} (hs : Lds Hs L w) : Lds Hs L w.drew := ⟨hs.hs, hs.ok⟩

theorem St.lds {w0 : World} {M : Nat → Prop} {Hs Hs' : List PH} {L L' : List HA} (h : St w0 M Hs L w) (h1 : ∀ x ∈ Hs', x ∈ Hs) (h2 : ∀ A ∈ L', A ∈ L) : Lds Hs' L' w :=
  ⟨fun x hx => h.hs x (h1 x hx), fun A hA => h.ok A (h2 A hA)⟩

/-- Whatever order is picked from here on; S holds behind every operation that is carried out, but number z. -/
def wpD (P : Program) (ops : Array Oper) (Q : Exit → Act → World → Prop) (S : World → Prop) (z : Nat) : Nat → Array Bool → Act → World → Prop
  | 0, listed, a, w => Region.ready .any ops listed = [] ∧ Q .normal a w
  | fuel + 1, listed, a, w =>
    (Region.ready .any ops listed = [] → Q .normal a w) ∧
    ∀ i ∈ Region.ready .any ops listed, wpOp P ops Q i (fun a' w' => (i ≠ z → S w') ∧ wpD P ops Q S z fuel (listed.setIfInBounds i true) a' w') a w

theorem wpAny_of_D {S : World → Prop} {z : Nat} : ∀ (fuel : Nat) (listed : Array Bool) (a : Act) (w : World), wpD P ops Q S z fuel listed a w → wpAny P .any ops Q fuel listed a w
  | 0, _, _, _, h => h
  | fuel + 1, _, _, _, h => ⟨h.1, fun i hi => wpOp_mono (fun a' w' h' => wpAny_of_D fuel _ a' w' h'.2) (h.2 i hi)⟩

theorem wpAny_in {ro : Option Nat} [NoOut Q] (hd : ∀ (i : Nat) (o : Oper), ops[i]? = some o → plainOp o = true) : ∀ (fuel : Nat) (listed : Array Bool) (a : Act) (w : World), wpAny P .any ops Q fuel listed a w → wpAnyIn (FR ro) 0 P .any ops Q fuel listed a w
  | 0, _, _, _, h => h
  | fuel + 1, listed, a, w, h => ⟨h.1, fun i hi => by
    have h1 := h.2 i hi
    unfold wpOp at h1
    unfold wpOpIn
    split
    · rename_i e; rw [e] at h1; exact wpAny_in hd fuel _ _ _ h1
    · rename_i o e
      rw [e] at h1
      simp only at h1
      split
      · rename_i hw
        rw [if_pos hw] at h1
        rcases h1 with h1 | h1
        · exact op_in (hd i o e) (Oper.wp_mono (fun a w h => wpAny_in hd fuel _ a w h) h1)
        · exact absurd h1.2 NoOut.no
      · rename_i hw
        rw [if_neg hw] at h1
        exact ⟨fun _ _ => trivial, wpAny_in hd fuel _ _ _ h1⟩⟩

theorem ra {ro : Option Nat} [NoOut Q] {id : Nat} {l : List Oper} (hm : P.follows .mixedOrders = true) (hd : l.all plainOp = true)
    (h : wpAny P .any l.toArray Q l.toArray.size (Array.replicate l.toArray.size false) a w.drew) : wq ro P (Code.region id l.toArray true) Q a w :=
  wpIn_region_any hm (wpAny_in (fun i o e => List.all_eq_true.1 hd o (by simp at e; exact List.mem_of_getElem? e)) _ _ _ _ h)

/-- operation z waits for i, or there is none -/
def waits (ops : Array Oper) (z i : Nat) : Bool :=
  match ops[z]? with
  | some o => o.after.any fun e => Region.binds .any e && e.on == i
  | none => true

theorem wpD_first {S : World → Prop} {z i : Nat} {oi : Oper} {v : Value} (hi : ops[i]? = some oi) (hsel : ∀ (j : Nat) (o : Oper) cs b, ops[j]? = some o → o.op ≠ .select cs b)
    (hQ : ∀ c a w, Q (.panic c) (a.put oi.dst v) w → Q (.panic c) a w) (hz : i = z ∨ waits ops z i = true) :
    ∀ (fuel : Nat) (listed : Array Bool) (a : Act) (w : World),
      (∀ j oj, ops[j]? = some oj → j ≠ i → listed.getD j true = false → (∀ e ∈ oj.after, Region.binds .any e = true → e.on ≠ i) → oi.apart ops oj = true) →
      i ∈ Region.ready .any ops listed → YieldsIf P ops S oi v a → S w →
      wpD P ops Q S z fuel (listed.setIfInBounds i true) (a.put oi.dst v) w → wpD P ops Q S z (fuel + 1) listed a w := by
  intro fuel
  induction fuel with
  | zero =>
    intro listed a w _ hr hy hS H
    refine ⟨fun h => (by rw [h] at hr; cases hr), fun j hj => ?_⟩
    by_cases hji : j = i
    · subst hji; exact hy.wpOp hi hS ⟨fun _ => hS, H⟩
    · have := ready_mono hj hji
      rw [H.1] at this
      cases this
  | succ fuel ih =>
    intro listed a w hfree hr hy hS H
    refine ⟨fun h => (by rw [h] at hr; cases hr), fun j hj => ?_⟩
    by_cases hji : j = i
    · subst hji; exact hy.wpOp hi hS ⟨fun _ => hS, H⟩
    · have h1 := H.2 j (ready_mono hj hji)
      obtain ⟨hjun, oj, hoj, hall⟩ := mem_ready.1 hj
      have hnot : ∀ e ∈ oj.after, Region.binds .any e = true → e.on ≠ i := fun e he hb heq => by
        have h1 := hall e he hb
        have h0 := (mem_ready.1 hr).1
        rw [heq] at h1
        rcases Nat.lt_or_ge i listed.size with h' | h'
        · simp [h'] at h0 h1; rw [h0] at h1; cases h1
        · simp [Array.getElem?_eq_none h'] at h1
      have hjz : j ≠ z := fun e => by
        subst e
        rcases hz with h | h
        · exact hji h.symm
        · unfold waits at h
          rw [hoj] at h
          obtain ⟨e, he, hb⟩ := Array.any_eq_true'.1 h
          simp only [Bool.and_eq_true, beq_iff_eq] at hb
          exact hnot e he hb.1 hb.2
      have h2 := wpOp_putIf hoj (hfree j oj hoj hji hjun hnot) (fun cs b => hsel i oi cs b hi) (fun cs b => hsel j oj cs b hoj) hQ hy h1
      have hfree' : ∀ k ok, ops[k]? = some ok → k ≠ i → (listed.setIfInBounds j true).getD k true = false →
          (∀ e ∈ ok.after, Region.binds .any e = true → e.on ≠ i) → oi.apart ops ok = true := fun k ok hk hki hun hno => by
        refine hfree k ok hk hki ?_ hno
        by_cases hjk : j = k
        · subst hjk; exact hjun
        · rw [getD_set_ne true hjk] at hun; exact hun
      refine wpOp_mono (fun a' w' h3 => ?_) h2
      have hSw := h3.2.1 hjz
      refine ⟨fun _ => hSw, ih (listed.setIfInBounds j true) a' w' hfree' (ready_mono hr (Ne.symm hji)) h3.1 hSw ?_⟩
      rw [Array.setIfInBounds_comm _ _ hji]
      exact h3.2.2

/-- take number i first -/
theorem dt {S : World → Prop} {z i : Nat} {oi : Oper} {v : Value} {fuel : Nat} {listed : Array Bool} (hi : ops[i]? = some oi)
    (hs : Region.noSelect ops = true) (hf : (Region.free .any ops listed i && (Region.ready .any ops listed).contains i && (i == z || waits ops z i)) = true)
    (hQ : ∀ c a w, Q (.panic c) (a.put oi.dst v) w → Q (.panic c) a w) (hy : YieldsIf P ops S oi v a) (hS : S w)
    (h : wpD P ops Q S z fuel (listed.setIfInBounds i true) (a.put oi.dst v) w) : wpD P ops Q S z (fuel + 1) listed a w := by
  simp only [Bool.and_eq_true, Bool.or_eq_true, beq_iff_eq] at hf
  exact wpD_first hi (Region.noSelect_spec hs) hQ hf.2 fuel listed a w (Region.free_spec hi hf.1.1) (by simpa using hf.1.2) hy hS h

theorem wpD_end {S : World → Prop} {z : Nat} {listed : Array Bool} (hr : (Region.ready .any ops listed).isEmpty = true) (h : Q .normal a w) :
    ∀ fuel, wpD P ops Q S z fuel listed a w
  | 0 => ⟨by simpa using hr, h⟩
  | _ + 1 => ⟨fun _ => h, by rw [List.isEmpty_iff.1 hr]; simp⟩

/-- the order of the text stands for all: what 'Region.lexB' asks, and that the last operation waits for all others or leaves S -/
def lexZ (ops : Array Oper) (z : Nat) : Bool :=
  Region.lexB .any ops && (List.range ops.size).all fun i => i == z || waits ops z i

/-- operations that yield a value in every world that meets S, then perhaps number z, whatever it does -/
def wpX (P : Program) (ops : Array Oper) (Q : Exit → Act → World → Prop) (S : World → Prop) (z : Nat) : List Oper → Nat → Act → World → Prop
  | [], _, a, w => Q .normal a w
  | o :: rest, k, a, w =>
    if k = z then rest = [] ∧ stp P ops Q o a w (Q .normal)
    else S w ∧ ∃ v, YieldsIf P ops S o v a ∧ (∀ c a' w', Q (.panic c) (a'.put o.dst v) w' → Q (.panic c) a' w') ∧ wpX P ops Q S z rest (k + 1) (a.put o.dst v) w

theorem wpD_of_X {S : World → Prop} {z : Nat} (hs : Region.noSelect ops = true) : ∀ (l : List Oper) (k : Nat) (listed : Array Bool) (a : Act) (w : World), (∀ j, l[j]? = ops[k + j]?) →
    Region.lexFrom .any ops l.length k listed = true → (∀ i, k ≤ i → i < ops.size → i = z ∨ waits ops z i = true) → (∀ i, i < k → listed.getD i false = true) → listed.size = ops.size →
    wpX P ops Q S z l k a w → wpD P ops Q S z l.length listed a w
  | [], k, listed, a, w, hl, hB, _, _, _, h => ⟨by simpa [Region.lexFrom] using hB, h⟩
  | o :: l, k, listed, a, w, hl, hB, hz, hlt, hsz, h => by
    have h0 : ops[k]? = some o := by simpa using (hl 0).symm
    have hk : k < ops.size := (Array.getElem?_eq_some_iff.1 h0).1
    simp only [List.length_cons, Region.lexFrom, Bool.and_eq_true] at hB
    obtain ⟨⟨hr, hf⟩, hB'⟩ := hB
    have hr' : k ∈ Region.ready .any ops listed := by simpa using hr
    by_cases hkz : k = z
    · rw [wpX, if_pos hkz] at h
      obtain ⟨rfl, h⟩ := h
      have hlast : ops.size = k + 1 := by
        have h1 := hl 1
        simp at h1
        omega
      refine ⟨fun e => (by rw [e] at hr'; cases hr'), fun j hj => ?_⟩
      have hjk : j = k := by
        obtain ⟨hun, oj, hoj, _⟩ := mem_ready.1 hj
        have hj' : j < ops.size := (Array.getElem?_eq_some_iff.1 hoj).1
        by_cases e : j < k
        · have := hlt j e
          rcases Nat.lt_or_ge j listed.size with h' | h'
          · simp [h'] at hun this; rw [hun] at this; cases this
          · simp [Array.getElem?_eq_none h'] at this
        · omega
      subst hjk
      unfold stp at h
      unfold wpOp
      rw [h0]
      have hend : Region.ready .any ops (listed.setIfInBounds j true) = [] := by simpa [Region.lexFrom] using hB'
      have hK : ∀ a w, Q .normal a w → (j ≠ z → S w) ∧ wpD P ops Q S z ([] : List Oper).length (listed.setIfInBounds j true) a w := fun a w hq => ⟨fun h => absurd hkz h, hend, hq⟩
      show if Region.wanted o (yielded ops a.tmps) = true then _ else _
      split
      · rename_i hw; rw [if_pos hw] at h; exact .inl (Oper.wp_mono hK h)
      · rename_i hw; rw [if_neg hw] at h; exact hK _ _ h
    · rw [wpX, if_neg hkz] at h
      obtain ⟨hS, v, hy, hQ, h⟩ := h
      refine wpD_first h0 (Region.noSelect_spec hs) (fun c a w => hQ c a w) (hz k (Nat.le_refl _) hk) l.length listed a w (Region.free_spec h0 hf) hr' hy hS ?_
      refine wpD_of_X hs l (k + 1) _ _ w (fun j => by have := hl (j + 1); simpa [Nat.add_assoc, Nat.add_comm 1 j] using this) hB' (fun i hi => hz i (by omega)) (fun i hi => ?_) (by simpa using hsz) h
      by_cases e : i = k
      · subst e
        simp [hsz, hk]
      · exact getD_set_true (hlt i (by omega))

theorem rx {ro : Option Nat} [NoOut Q] {S : World → Prop} {z : Nat} {id : Nat} {l : List Oper} (hm : P.follows .mixedOrders = true) (hB : lexZ l.toArray z = true)
    (h : wpX P l.toArray Q S z l 0 a w.drew) (hd : l.all plainOp = true := by rfl) : wq ro P (Code.region id l.toArray true) Q a w := by
  simp only [lexZ, Region.lexB, Bool.and_eq_true] at hB
  refine ra hm hd (wpAny_of_D (S := S) (z := z) _ _ _ _ ?_)
  have := wpD_of_X (P := P) (Q := Q) (S := S) (z := z) hB.1.1 l 0 (Array.replicate l.toArray.size false) a w.drew (by simp) (by simpa using hB.1.2)
    (fun i _ hi => by have := List.all_eq_true.1 hB.2 i (List.mem_range.2 hi); simpa using this) (fun i hi => by omega) (by simp) h
  simpa using this

/-- .. S: what the state says of memory -/
theorem rxS {ro : Option Nat} [NoOut Q] {w0 : World} {M : Nat → Prop} {Hs : List PH} {L : List HA} (z : Nat) {id : Nat} {l : List Oper} (hS : St w0 M Hs L w) (hm : P.follows .mixedOrders = true) (hB : lexZ l.toArray z = true)
    (h : ∀ w, St w0 M Hs L w → wpX P l.toArray Q (Lds Hs L) z l 0 a w) (hd : l.all plainOp = true := by rfl) : wq ro P (Code.region id l.toArray true) Q a w :=
  rx hm hB (h _ hS.drew) hd

/-- in such a region: an operation that yields -/
theorem x1 {S : World → Prop} {N : FN} {F : List (Nat × Value)} {z k d : Nat} {op : Op} {ty : TypeId} {pos : String} {af : Array Edge} {rest : List Oper} {v : Value}
    (hS : S w) (hF : Fr N F a) (hN : Nat.blt d N.n = true) (hz : (k == z) = false) (hQ : ∀ c a' w', Q (.panic c) (a'.put (some d) v) w' → Q (.panic c) a' w')
    (hE : ∀ w, S w → (execOp a.eval ⟨some d, op, ty, pos, af, none⟩).run P w = .ok (.value v) w)
    (kk : ∀ a, Fr N ((d, v) :: F) a → wpX P ops Q S z rest (k + 1) a w) : wpX P ops Q S z (⟨some d, op, ty, pos, af, none⟩ :: rest) k a w := by
  rw [wpX, if_neg (by simpa using hz)]
  exact ⟨hS, v, .inl ⟨rfl, hE⟩, hQ, kk _ (hF.put (by simpa [Nat.blt_eq] using hN) v)⟩

theorem x1g {S : World → Prop} {N : FN} {F : List (Nat × Value)} {z k d j t : Nat} {b : Bool} {op : Op} {ty : TypeId} {pos : String} {af : Array Edge} {rest : List Oper} {v : Value}
    (hS : S w) (hF : Fr N F a) (hN : Nat.blt d N.n = true) (hz : (k == z) = false) (hj : (ops[j]?).bind (·.dst) = some t) (ht : F.lookup t = some (.bool b))
    (hQ : ∀ c a' w', Q (.panic c) (a'.put (some d) v) w' → Q (.panic c) a' w')
    (hE : ∀ w, S w → (execOp a.eval ⟨some d, op, ty, pos, af, some (j, b)⟩).run P w = .ok (.value v) w)
    (kk : ∀ a, Fr N ((d, v) :: F) a → wpX P ops Q S z rest (k + 1) a w) : wpX P ops Q S z (⟨some d, op, ty, pos, af, some (j, b)⟩ :: rest) k a w := by
  rw [wpX, if_neg (by simpa using hz)]
  exact ⟨hS, v, .inl ⟨gd_some hF hj ht, hE⟩, hQ, kk _ (hF.put (by simpa [Nat.blt_eq] using hN) v)⟩

theorem x1n {S : World → Prop} {N : FN} {F : List (Nat × Value)} {z k d j t : Nat} {b b' : Bool} {op : Op} {ty : TypeId} {pos : String} {af : Array Edge} {rest : List Oper}
    (hS : S w) (hF : Fr N F a) (hN : Nat.blt d N.n = true) (hz : (k == z) = false) (hj : (ops[j]?).bind (·.dst) = some t) (ht : F.lookup t = some (.bool b')) (hne : (b' == b) = false)
    (hQ : ∀ c a' w', Q (.panic c) (a'.put (some d) undef) w' → Q (.panic c) a' w')
    (kk : ∀ a, Fr N ((d, undef) :: F) a → wpX P ops Q S z rest (k + 1) a w) : wpX P ops Q S z (⟨some d, op, ty, pos, af, some (j, b)⟩ :: rest) k a w := by
  rw [wpX, if_neg (by simpa using hz)]
  exact ⟨hS, undef, .inr ⟨gd_not hF hj ht hne, rfl⟩, hQ, kk _ (hF.put (by simpa [Nat.blt_eq] using hN) undef)⟩

theorem x1u {S : World → Prop} {N : FN} {F : List (Nat × Value)} {z k d j t : Nat} {b : Bool} {op : Op} {ty : TypeId} {pos : String} {af : Array Edge} {rest : List Oper}
    (hS : S w) (hF : Fr N F a) (hN : Nat.blt d N.n = true) (hz : (k == z) = false) (hj : (ops[j]?).bind (·.dst) = some t) (ht : F.lookup t = some undef)
    (hQ : ∀ c a' w', Q (.panic c) (a'.put (some d) undef) w' → Q (.panic c) a' w')
    (kk : ∀ a, Fr N ((d, undef) :: F) a → wpX P ops Q S z rest (k + 1) a w) : wpX P ops Q S z (⟨some d, op, ty, pos, af, some (j, b)⟩ :: rest) k a w := by
  rw [wpX, if_neg (by simpa using hz)]
  exact ⟨hS, undef, .inr ⟨gd_und hF hj ht, rfl⟩, hQ, kk _ (hF.put (by simpa [Nat.blt_eq] using hN) undef)⟩

/-- .. and the last one -/
theorem xz {S : World → Prop} {z k : Nat} {o : Oper} (hz : (k == z) = true) (h : stp P ops Q o a w (Q .normal)) : wpX P ops Q S z [o] k a w := by
  rw [wpX, if_pos (by simpa using hz)]
  exact ⟨rfl, h⟩
theorem xe {S : World → Prop} {z k : Nat} (h : Q .normal a w) : wpX P ops Q S z [] k a w := h

/-! ### a region that draws, in whatever order -/
theorem rd {ro : Option Nat} [NoOut Q] {S : World → Prop} {z : Nat} {id : Nat} {l : List Oper} (hm : P.follows .mixedOrders = true)
    (h : wpD P l.toArray Q S z l.length (Array.replicate l.length false) a w.drew) (hd : l.all plainOp = true := by rfl) : wq ro P (Code.region id l.toArray true) Q a w :=
  ra hm hd (wpAny_of_D (S := S) (z := z) _ _ _ _ (by simpa using h))

theorem rdS {ro : Option Nat} [NoOut Q] {w0 : World} {M : Nat → Prop} {Hs : List PH} {L : List HA} (z : Nat) {id : Nat} {l : List Oper} (hS : St w0 M Hs L w) (hm : P.follows .mixedOrders = true)
    (h : ∀ w, St w0 M Hs L w → wpD P l.toArray Q (Lds Hs L) z l.length (Array.replicate l.length false) a w) (hd : l.all plainOp = true := by rfl) : wq ro P (Code.region id l.toArray true) Q a w :=
  rd hm (h _ hS.drew) hd

theorem bnt {b : Bool} (h : (!b) = true) : b = false := by cases b <;> first | rfl | cases h
theorem bnf {b : Bool} (h : (!b) = false) : b = true := by cases b <;> first | rfl | cases h
theorem sub_nil {L : List HA} : ∀ A ∈ ([] : List HA), A ∈ L := fun _ h => nomatch h
theorem sub_cons {A : HA} {L L' : List HA} (h : A ∈ L) (t : ∀ B ∈ L', B ∈ L) : ∀ B ∈ A :: L', B ∈ L := fun B hB => by
  rcases List.mem_cons.1 hB with rfl | hB
  · exact h
  · exact t B hB

/-- with those assertions alone that stay within the region -/
theorem rdL {ro : Option Nat} [NoOut Q] {w0 : World} {M : Nat → Prop} {Hs : List PH} {L : List HA} {L' : List HA} (_ : ∀ A ∈ L', A ∈ L) (z : Nat) {id : Nat} {l : List Oper} (hS : St w0 M Hs L w) (hm : P.follows .mixedOrders = true)
    (h : ∀ w, St w0 M Hs L w → wpD P l.toArray Q (Lds Hs L') z l.length (Array.replicate l.length false) a w) (hd : l.all plainOp = true := by rfl) : wq ro P (Code.region id l.toArray true) Q a w :=
  rd hm (h _ hS.drew) hd

theorem d1 {S : World → Prop} {N : FN} {F : List (Nat × Value)} {z i d : Nat} {op : Op} {ty : TypeId} {pos : String} {af : Array Edge} {v : Value} {fuel : Nat} {listed : Array Bool}
    (hi : ops[i]? = some ⟨some d, op, ty, pos, af, none⟩)
    (hs : Region.noSelect ops = true) (hf : (Region.free .any ops listed i && (Region.ready .any ops listed).contains i && (i == z || waits ops z i)) = true)
    (hS : S w) (hF : Fr N F a) (hN : Nat.blt d N.n = true) (hQ : ∀ c a' w', Q (.panic c) (a'.put (some d) v) w' → Q (.panic c) a' w')
    (hE : ∀ w, S w → (execOp a.eval ⟨some d, op, ty, pos, af, none⟩).run P w = .ok (.value v) w)
    (kk : ∀ a, Fr N ((d, v) :: F) a → wpD P ops Q S z fuel (listed.setIfInBounds i true) a w) : wpD P ops Q S z (fuel + 1) listed a w :=
  dt hi hs hf (fun c a' w' => hQ c a' w') (.inl ⟨rfl, hE⟩) hS (kk _ (hF.put (by simpa [Nat.blt_eq] using hN) v))

theorem d1g {S : World → Prop} {N : FN} {F : List (Nat × Value)} {z i d j t : Nat} {b : Bool} {op : Op} {ty : TypeId} {pos : String} {af : Array Edge} {v : Value} {fuel : Nat} {listed : Array Bool}
    (hi : ops[i]? = some ⟨some d, op, ty, pos, af, some (j, b)⟩)
    (hs : Region.noSelect ops = true) (hf : (Region.free .any ops listed i && (Region.ready .any ops listed).contains i && (i == z || waits ops z i)) = true)
    (hS : S w) (hF : Fr N F a) (hN : Nat.blt d N.n = true) (hj : (ops[j]?).bind (·.dst) = some t) (ht : F.lookup t = some (.bool b)) (hQ : ∀ c a' w', Q (.panic c) (a'.put (some d) v) w' → Q (.panic c) a' w')
    (hE : ∀ w, S w → (execOp a.eval ⟨some d, op, ty, pos, af, some (j, b)⟩).run P w = .ok (.value v) w)
    (kk : ∀ a, Fr N ((d, v) :: F) a → wpD P ops Q S z fuel (listed.setIfInBounds i true) a w) : wpD P ops Q S z (fuel + 1) listed a w :=
  dt hi hs hf (fun c a' w' => hQ c a' w') (.inl ⟨gd_some hF hj ht, hE⟩) hS (kk _ (hF.put (by simpa [Nat.blt_eq] using hN) v))

theorem d1n {S : World → Prop} {N : FN} {F : List (Nat × Value)} {z i d j t : Nat} {b b' : Bool} {op : Op} {ty : TypeId} {pos : String} {af : Array Edge} {fuel : Nat} {listed : Array Bool}
    (hi : ops[i]? = some ⟨some d, op, ty, pos, af, some (j, b)⟩)
    (hs : Region.noSelect ops = true) (hf : (Region.free .any ops listed i && (Region.ready .any ops listed).contains i && (i == z || waits ops z i)) = true)
    (hS : S w) (hF : Fr N F a) (hN : Nat.blt d N.n = true) (hj : (ops[j]?).bind (·.dst) = some t) (ht : F.lookup t = some (.bool b')) (hne : (b' == b) = false) (hQ : ∀ c a' w', Q (.panic c) (a'.put (some d) undef) w' → Q (.panic c) a' w')
    (kk : ∀ a, Fr N ((d, undef) :: F) a → wpD P ops Q S z fuel (listed.setIfInBounds i true) a w) : wpD P ops Q S z (fuel + 1) listed a w :=
  dt hi hs hf (fun c a' w' => hQ c a' w') (.inr ⟨gd_not hF hj ht hne, rfl⟩) hS (kk _ (hF.put (by simpa [Nat.blt_eq] using hN) undef))

theorem d1u {S : World → Prop} {N : FN} {F : List (Nat × Value)} {z i d j t : Nat} {b : Bool} {op : Op} {ty : TypeId} {pos : String} {af : Array Edge} {fuel : Nat} {listed : Array Bool}
    (hi : ops[i]? = some ⟨some d, op, ty, pos, af, some (j, b)⟩)
    (hs : Region.noSelect ops = true) (hf : (Region.free .any ops listed i && (Region.ready .any ops listed).contains i && (i == z || waits ops z i)) = true)
    (hS : S w) (hF : Fr N F a) (hN : Nat.blt d N.n = true) (hj : (ops[j]?).bind (·.dst) = some t) (ht : F.lookup t = some undef) (hQ : ∀ c a' w', Q (.panic c) (a'.put (some d) undef) w' → Q (.panic c) a' w')
    (kk : ∀ a, Fr N ((d, undef) :: F) a → wpD P ops Q S z fuel (listed.setIfInBounds i true) a w) : wpD P ops Q S z (fuel + 1) listed a w :=
  dt hi hs hf (fun c a' w' => hQ c a' w') (.inr ⟨gd_und hF hj ht, rfl⟩) hS (kk _ (hF.put (by simpa [Nat.blt_eq] using hN) undef))

/-- operation i is carried out now, and the rest behind it -/
def wpD1 (P : Program) (ops : Array Oper) (Q : Exit → Act → World → Prop) (S : World → Prop) (z : Nat) (fuel : Nat) (listed : Array Bool) (i : Nat) (a : Act) (w : World) : Prop :=
  wpOp P ops Q i (fun a' w' => (i ≠ z → S w') ∧ wpD P ops Q S z fuel (listed.setIfInBounds i true) a' w') a w

theorem di {S : World → Prop} {z i : Nat} {o : Oper} {fuel : Nat} {listed : Array Bool} (hi : ops[i]? = some o)
    (h : stp P ops Q o a w (fun a' w' => (i ≠ z → S w') ∧ wpD P ops Q S z fuel (listed.setIfInBounds i true) a' w')) : wpD1 P ops Q S z fuel listed i a w := by
  unfold wpD1 wpOp
  rw [hi]
  unfold stp at h
  show if Region.wanted o (yielded ops a.tmps) = true then _ else _
  split
  · rename_i hw; rw [if_pos hw] at h; exact .inl h
  · rename_i hw; rw [if_neg hw] at h; exact h

theorem da1 {S : World → Prop} {z i : Nat} {fuel : Nat} {listed : Array Bool} (hr : (Region.ready .any ops listed == [i]) = true) (h : wpD1 P ops Q S z fuel listed i a w) : wpD P ops Q S z (fuel + 1) listed a w := by
  have hr := beq_iff_eq.1 hr
  exact ⟨fun e => (by rw [hr] at e; cases e), fun j hj => by rw [hr] at hj; simp at hj; subst hj; exact h⟩
theorem da2 {S : World → Prop} {z i j : Nat} {fuel : Nat} {listed : Array Bool} (hr : (Region.ready .any ops listed == [i, j]) = true) (h1 : wpD1 P ops Q S z fuel listed i a w) (h2 : wpD1 P ops Q S z fuel listed j a w) : wpD P ops Q S z (fuel + 1) listed a w := by
  have hr := beq_iff_eq.1 hr
  refine ⟨fun e => (by rw [hr] at e; cases e), fun x hx => ?_⟩
  rw [hr] at hx; simp at hx
  rcases hx with rfl | rfl
  · exact h1
  · exact h2
theorem da3 {S : World → Prop} {z i j k : Nat} {fuel : Nat} {listed : Array Bool} (hr : (Region.ready .any ops listed == [i, j, k]) = true) (h1 : wpD1 P ops Q S z fuel listed i a w) (h2 : wpD1 P ops Q S z fuel listed j a w) (h3 : wpD1 P ops Q S z fuel listed k a w) : wpD P ops Q S z (fuel + 1) listed a w := by
  have hr := beq_iff_eq.1 hr
  refine ⟨fun e => (by rw [hr] at e; cases e), fun x hx => ?_⟩
  rw [hr] at hx; simp at hx
  rcases hx with rfl | rfl | rfl
  · exact h1
  · exact h2
  · exact h3
theorem de {S : World → Prop} {z : Nat} {listed : Array Bool} {fuel : Nat} (hr : (Region.ready .any ops listed).isEmpty = true) (h : Q .normal a w) : wpD P ops Q S z fuel listed a w :=
  wpD_end hr h fuel

/-! ### code -/
theorem th {ro : Option Nat} {x y : Code} (h : wq ro P x (Exit.then (wq ro P y Q) Q) a w) : wq ro P (Code.seq x y) Q a w := wpIn_seq h
theorem tn {K : Act → World → Prop} (h : K a w) : Exit.then K Q .normal a w := h
theorem tx {K : Act → World → Prop} {id : Nat} (h : Q (.exit id) a w) : Exit.then K Q (.exit id) a w := h
theorem tr {K : Act → World → Prop} (h : Q .ret a w) : Exit.then K Q .ret a w := h
theorem bn {id : Nat} (h : Q .normal a w) : Exit.inBlock id Q .normal a w := h
theorem br {id : Nat} (h : Q .ret a w) : Exit.inBlock id Q .ret a w := h
theorem bx {id : Nat} (h : Q .normal a w) : Exit.inBlock id Q (.exit id) a w := by simp only [Exit.inBlock, if_true]; exact h
theorem bo {id id' : Nat} (hne : (id' == id) = false) (h : Q (.exit id') a w) : Exit.inBlock id Q (.exit id') a w := by
  simp only [Exit.inBlock]; rw [if_neg (by simpa using hne)]; exact h

theorem wb {ro : Option Nat} {id : Nat} {c : Code} (h : wq ro P c (Exit.inBlock id Q) a w) : wq ro P (Code.block id c) Q a w := wpIn_block h
theorem wr {ro : Option Nat} (h : Q .ret a w) : wq ro P Code.ret Q a w := wpIn_ret h
theorem we {ro : Option Nat} {id : Nat} (h : Q (.exit id) a w) : wq ro P (Code.exit id) Q a w := wpIn_exit h
theorem wk {ro : Option Nat} (h : Q .normal a w) : wq ro P Code.skip Q a w := wpIn_skip h

/-- the ways through x meet in R -/
theorem mid {ro : Option Nat} {x y : Code} (R : Act → World → Prop) (h1 : wq ro P x (Exit.then R Q) a w) (h2 : ∀ a w, R a w → wq ro P y Q a w) : wq ro P (Code.seq x y) Q a w :=
  wpIn_seq (wpIn_mono h1 fun e a w h => by cases e <;> first | exact h2 _ _ h | exact h)

theorem cs {ro : Option Nat} {N : FN} {F : List (Nat × Value)} {c : Operand} {x y : Code} {b : Bool} (hF : Fr N F a) (hc : opv F c = some (.bool b)) (ht : b = true → wq ro P x Q a w) (hf : b = false → wq ro P y Q a w) :
    wq ro P (Code.cond c x y) Q a w := wpIn_cond_split (hF.ev hc) ht hf
theorem ct {ro : Option Nat} {N : FN} {F : List (Nat × Value)} {c : Operand} {x y : Code} (hF : Fr N F a) (hc : opv F c = some (.bool true)) (h : wq ro P x Q a w) : wq ro P (Code.cond c x y) Q a w := wpIn_cond_true (hF.ev hc) h
theorem cf {ro : Option Nat} {N : FN} {F : List (Nat × Value)} {c : Operand} {x y : Code} (hF : Fr N F a) (hc : opv F c = some (.bool false)) (h : wq ro P y Q a w) : wq ro P (Code.cond c x y) Q a w := wpIn_cond_false (hF.ev hc) h

theorem least {p : Nat → Prop} (h : ∃ n, p n) : ∃ n, p n ∧ ∀ k, p k → n ≤ k := by
  obtain ⟨n, hn⟩ := h
  induction n using Nat.strongRecOn with
  | _ n ih =>
    by_cases e : ∃ k, p k ∧ k < n
    · obtain ⟨k, hk, hlt⟩ := e; exact ih k hlt hk
    · exact ⟨n, hn, fun k hk => Nat.le_of_not_lt fun hlt => e ⟨k, hk, hlt⟩⟩

/-- a loop: what holds at its head, of a ghost; what goes down -/
theorem lp {ro : Option Nat} {α : Type} {c : Code} (I : α → Act → World → Prop) (μ : α → Nat) (x0 : α) (h0 : I x0 a w)
    (round : ∀ x a w, I x a w → wq ro P c (Exit.then (fun a' w' => ∃ x', I x' a' w' ∧ μ x' < μ x) Q) a w) : wq ro P (Code.loop c) Q a w := by
  classical
  -- a measure on states: the least one of the ghosts
  let m : Act → World → Nat := fun a w => if h : ∃ n, ∃ x, I x a w ∧ μ x = n then Classical.choose (least h) else 0
  have hm : ∀ x a w, I x a w → ∃ x', I x' a w ∧ μ x' = m a w ∧ m a w ≤ μ x := fun x a w hI => by
    have h : ∃ n, ∃ x, I x a w ∧ μ x = n := ⟨_, x, hI, rfl⟩
    have e : m a w = Classical.choose (least h) := dif_pos h
    obtain ⟨⟨x', h1, h2⟩, h3⟩ := Classical.choose_spec (least h)
    exact ⟨x', h1, by rw [e]; exact h2, by rw [e]; exact h3 _ ⟨x, hI, rfl⟩⟩
  refine wpIn_loop (fun a w => ∃ x, I x a w) m ⟨x0, h0⟩ ?_
  rintro a w ⟨x, hI⟩
  obtain ⟨x', h1, h2, _⟩ := hm x a w hI
  refine wpIn_mono (round x' a w h1) ?_
  intro e a₁ w₁ hq
  cases e with
  | normal =>
    obtain ⟨y, hy, hlt⟩ := hq
    obtain ⟨_, _, _, h5⟩ := hm y a₁ w₁ hy
    exact ⟨⟨y, hy⟩, by rw [← h2]; omega⟩
  | _ => exact hq

/-! ### a function -/
theorem fn0 {f : FuncId} {fn : Func} {c : Code} {args : List Value} {N : Nat} {F : List (Nat × Value)} {R : Value → World → Prop} (hf : P.funcs[f]? = some fn) (hb : fn.body = some c) (hn : fn.ntmps = N) (hl : Nat.ble args.length N = true)
    (he : (args.zipIdx.map fun p => (p.2, p.1)) = F)
    (h : ∀ a, Fr ⟨N, []⟩ F a → wq none P c (bodyPost P fn fun e w' => ∃ v, e = .returned v ∧ R v w') a w) : Tot P f args.toArray w R := by
  subst he
  have hl' := Nat.le_of_ble_eq_true hl
  refine calls_of_wp hf hb (wpIn_wide.1 (h _ ?_))
  have := Fr.enter (args := args.toArray) (n := N - args.length) (N := N) (by simp; omega)
  rw [hn]
  simpa using this

theorem r1 {fn : Func} {t N : Nat} {F : List (Nat × Value)} {v : Value} {R : Value → World → Prop} (hF : Fr ⟨N, []⟩ F a) (hr : fn.results = #[.tmp t]) (ht : F.lookup t = some v) (h : R v w) :
    bodyPost P fn (fun e w' => ∃ v, e = .returned v ∧ R v w') .ret a w := by
  refine bodyPost_ret (results_tmp hr _ _ _) hF.defers ⟨v, ?_, h⟩
  have := hF.slots t v ht
  simp [this]
theorem r2 {fn : Func} {t u N : Nat} {F : List (Nat × Value)} {v x : Value} {R : Value → World → Prop} (hF : Fr ⟨N, []⟩ F a) (hr : fn.results = #[.tmp t, .tmp u]) (ht : F.lookup t = some v) (hu : F.lookup u = some x) (h : R (.tuple #[v, x]) w) :
    bodyPost P fn (fun e w' => ∃ v, e = .returned v ∧ R v w') .ret a w := by
  refine bodyPost_ret (results_tmp2 hr _ _ _) hF.defers ⟨_, rfl, ?_⟩
  have h1 := hF.slots t v ht
  have h2 := hF.slots u x hu
  simpa [h1, h2] using h
theorem r0 {fn : Func} {N : Nat} {F : List (Nat × Value)} {R : Value → World → Prop} (hF : Fr ⟨N, []⟩ F a) (hr : fn.results = #[]) (h : R (.tuple #[]) w) :
    bodyPost P fn (fun e w' => ∃ v, e = .returned v ∧ R v w') .ret a w :=
  bodyPost_ret (results_none hr _ _ _) hF.defers ⟨_, rfl, h⟩
theorem r0n {fn : Func} {N : Nat} {F : List (Nat × Value)} {R : Value → World → Prop} (hF : Fr ⟨N, []⟩ F a) (hr : fn.results = #[]) (h : R (.tuple #[]) w) :
    bodyPost P fn (fun e w' => ∃ v, e = .returned v ∧ R v w') .normal a w :=
  bodyPost_end (results_none hr _ _ _) hF.defers ⟨_, rfl, h⟩
end
end Go.LL
