/- The plain part of lifted functions: what operations that may fail give. No condition: definitions and plain lemmas. -/
import Derived.IntWalk
import Derived.Lib.ItoaNum
namespace Go.MD
open Go

abbrev Str := List UInt8
structure IntK (k : IntKind) where
  v : Int
  deriving DecidableEq
structure Arr (n : Nat) (α : Type) where
  l : List α
  h : l.length = n
theorem Arr.ext {n : Nat} {α : Type} : ∀ {a b : Arr n α}, a.l = b.l → a = b
  | ⟨_, _⟩, ⟨_, _⟩, rfl => rfl
instance {n : Nat} {α : Type} [DecidableEq α] : DecidableEq (Arr n α) := fun a b => if h : a.l = b.l then .isTrue (Arr.ext h) else .isFalse (fun e => h (by rw [e]))
def Arr.set {n : Nat} {α : Type} (a : Arr n α) (i : Nat) (v : α) : Arr n α := ⟨a.l.set i v, by rw [List.length_set]; exact a.h⟩

def getI {α : Type} (xs : List α) (i : Int) : Option α := if 0 ≤ i then xs[i.toNat]? else none
def subI {α : Type} (xs : List α) (lo hi : Int) : Option (List α) := if 0 ≤ lo ∧ lo ≤ hi ∧ hi ≤ (xs.length : Int) then some ((xs.take hi.toNat).drop lo.toNat) else none
def appG {α : Type} (bytes : Nat) (xs ys : List α) : Option (List α) := if (xs.length + ys.length) * bytes ≤ 140737488355328 ∧ xs.length + ys.length ≤ 4611686018427387904 then some (xs ++ ys) else none
def setI {α : Type} (xs : List α) (i : Int) (v : α) : Option (List α) := if 0 ≤ i ∧ i.toNat < xs.length then some (xs.set i.toNat v) else none
def catG (a b : Str) : Option Str := if a.length + b.length ≤ 9223372036854775807 then some (a ++ b) else none
def divI (k : IntKind) (x y : Int) : Option Int := if y = 0 then none else some (k.wrap (x.tdiv y))
def remI (x y : Int) : Option Int := if y = 0 then none else some (x.tmod y)
def shlI (k : IntKind) (x n : Int) : Option Int := if n < 0 then none else some (k.wrap (x * 2 ^ (min n.toNat k.bits)))
def shrI (k : IntKind) (x n : Int) : Option Int := if n < 0 then none else some (x.fdiv (2 ^ (min n.toNat k.bits)))
def iand (k : IntKind) (x y : Int) : Int := k.wrap (BitVec.ofInt k.bits x &&& BitVec.ofInt k.bits y).toNat
def ior (k : IntKind) (x y : Int) : Int := k.wrap (BitVec.ofInt k.bits x ||| BitVec.ofInt k.bits y).toNat
def ixor (k : IntKind) (x y : Int) : Int := k.wrap (BitVec.ofInt k.bits x ^^^ BitVec.ofInt k.bits y).toNat
def iandn (k : IntKind) (x y : Int) : Int := k.wrap (BitVec.ofInt k.bits x &&& ~~~BitVec.ofInt k.bits y).toNat
def mkL {α : Type} (bytes : Nat) (n : Int) (z : α) : Option (List α) := if 0 ≤ n ∧ bytes * n.toNat ≤ 140737488355328 ∧ n.toNat ≤ 4611686018427387904 then some (List.replicate n.toNat z) else none
def byteI (s : Str) (i : Int) : Option Int := (getI s i).map fun b => (b.toNat : Int)
/-- what a claim takes for granted -/
def sure (b : Bool) : Option Unit := if b then some () else none

theorem bind_some {α β : Type} {x : Option α} {f : α → Option β} {r : β} (h : x.bind f = some r) : ∃ a, x = some a ∧ f a = some r := Option.bind_eq_some_iff.1 h
theorem sure_some {b : Bool} {u : Unit} (h : sure b = some u) : b = true := by
  unfold sure at h
  split at h
  · assumption
  · cases h
theorem ite_t {α : Type} {b : Bool} {x y : Option α} {r : α} (h : (if b = true then x else y) = some r) (hb : b = true) : x = some r := by rwa [if_pos hb] at h
theorem ite_f {α : Type} {b : Bool} {x y : Option α} {r : α} (h : (if b = true then x else y) = some r) (hb : b = false) : y = some r := by rwa [if_neg (by rw [hb]; exact Bool.false_ne_true)] at h
theorem itp_t {α : Type} {p : Prop} [Decidable p] {x y : Option α} {r : α} (h : (if p then x else y) = some r) (hb : decide p = true) : x = some r := by rwa [if_pos (of_decide_eq_true hb)] at h
theorem itp_f {α : Type} {p : Prop} [Decidable p] {x y : Option α} {r : α} (h : (if p then x else y) = some r) (hb : decide p = false) : y = some r := by rwa [if_neg (of_decide_eq_false hb)] at h

theorem getI_some {α : Type} {xs : List α} {i : Int} {x : α} (h : getI xs i = some x) : 0 ≤ i ∧ xs[i.toNat]? = some x := by
  unfold getI at h
  split at h
  · exact ⟨by assumption, h⟩
  · cases h
theorem getI_lt {α : Type} {xs : List α} {i : Int} {x : α} (h : getI xs i = some x) : 0 ≤ i ∧ i.toNat < xs.length := ⟨(getI_some h).1, (List.getElem?_eq_some_iff.1 (getI_some h).2).1⟩
theorem subI_some {α : Type} {xs ys : List α} {lo hi : Int} (h : subI xs lo hi = some ys) : 0 ≤ lo ∧ lo ≤ hi ∧ hi ≤ (xs.length : Int) ∧ ys = (xs.take hi.toNat).drop lo.toNat := by
  unfold subI at h
  split at h
  · rename_i c; exact ⟨c.1, c.2.1, c.2.2, (Option.some.inj h).symm⟩
  · cases h
theorem appG_some {α : Type} {b : Nat} {xs ys zs : List α} (h : appG b xs ys = some zs) : (xs.length + ys.length) * b ≤ 140737488355328 ∧ xs.length + ys.length ≤ 4611686018427387904 ∧ zs = xs ++ ys := by
  unfold appG at h
  split at h
  · rename_i c; exact ⟨c.1, c.2, (Option.some.inj h).symm⟩
  · cases h
theorem setI_some {α : Type} {xs ys : List α} {i : Int} {v : α} (h : setI xs i v = some ys) : 0 ≤ i ∧ i.toNat < xs.length ∧ ys = xs.set i.toNat v := by
  unfold setI at h
  split at h
  · rename_i c; exact ⟨c.1, c.2, (Option.some.inj h).symm⟩
  · cases h
theorem setI_len {α : Type} {xs ys : List α} {i : Int} {v : α} (h : setI xs i v = some ys) : ys.length = xs.length := by rw [(setI_some h).2.2, List.length_set]
theorem catG_some {a b c : Str} (h : catG a b = some c) : a.length + b.length ≤ 9223372036854775807 ∧ c = a ++ b := by
  unfold catG at h
  split at h
  · rename_i q; exact ⟨q, (Option.some.inj h).symm⟩
  · cases h
theorem mkL_some {α : Type} {b : Nat} {n : Int} {z : α} {xs : List α} (h : mkL b n z = some xs) : 0 ≤ n ∧ b * n.toNat ≤ 140737488355328 ∧ n.toNat ≤ 4611686018427387904 ∧ xs = List.replicate n.toNat z := by
  unfold mkL at h
  split at h
  · rename_i c; exact ⟨c.1, c.2.1, c.2.2, (Option.some.inj h).symm⟩
  · cases h
theorem byteI_some {s : Str} {i n : Int} (h : byteI s i = some n) : ∃ b, getI s i = some b ∧ n = (b.toNat : Int) := by
  obtain ⟨b, h1, h2⟩ := Option.map_eq_some_iff.1 h
  exact ⟨b, h1, h2.symm⟩

/-- maps, as their entries in the order in which they came -/
def plook {κ β : Type} [DecidableEq κ] (k : κ) : List (κ × β) → Option β
  | [] => none
  | x :: r => if k = x.1 then some x.2 else plook k r
def pset {κ β : Type} [DecidableEq κ] (k : κ) (v : β) : List (κ × β) → List (κ × β)
  | [] => []
  | x :: r => if k = x.1 then (x.1, v) :: r else x :: pset k v r
def pput {κ β : Type} [DecidableEq κ] (k : κ) (v : β) (m : List (κ × β)) : List (κ × β) := if (plook k m).isSome then pset k v m else m ++ [(k, v)]
def pdel {κ β : Type} [DecidableEq κ] (k : κ) : List (κ × β) → List (κ × β)
  | [] => []
  | x :: r => if k = x.1 then r else x :: pdel k r
def itoaM (n : Int) : Option Str := if -9223372036854775808 ≤ n ∧ n ≤ 9223372036854775807 then some (Lib.itoa n) else none
def bytesStr (l : List (IntK .u8)) : Str := l.map fun b => UInt8.ofNat b.v.toNat
/-- a builder's bytes with more of them -/
def catB (a b : Str) : Option Str := if a.length + b.length ≤ 140737488355328 then some (a ++ b) else none
theorem catB_some {a b c : Str} (h : catB a b = some c) : a.length + b.length ≤ 140737488355328 ∧ c = a ++ b := by
  unfold catB at h
  split at h
  · rename_i q; exact ⟨q, (Option.some.inj h).symm⟩
  · cases h
/-- a round of a loop over a function, as its yield: behind an end nothing is to come -/
def yy {σ ρ α : Type} (bd : σ → α → Option (σ ⊕ ρ)) : σ ⊕ ρ → α → Option ((σ ⊕ ρ) × Bool)
  | .inl s, x => (bd s x).map fun r => (r, r.isLeft)
  | .inr _, _ => none

/-- slices.Grow of nil -/
def growG (bytes : Nat) (n : Int) : Option Unit := if 0 ≤ n ∧ n.toNat * bytes ≤ 140737488355328 ∧ n ≤ 4611686018427387904 then some () else none

end Go.MD
