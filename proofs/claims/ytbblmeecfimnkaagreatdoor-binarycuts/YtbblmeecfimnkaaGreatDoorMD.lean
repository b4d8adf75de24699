/- The plain part of lifted functions: He operations that may fail give. No condition: definitions and plain lemmas. -/
import Derived.IntWalk
import Derived.Lib.ItoaNum
namespace Go.MD
open Go
abbrev Str:=List UInt8
structure IntK (k:IntKind) where
  v:Int
  deriving DecidableEq
structure Arr (n:Nat) (α:Type) where
  l:List α
  h:l.length=n
theorem Arr.ext {n:Nat} {α:Type}:∀ {a b:Arr n α},a.l=b.l→a=b
  | ⟨_,_⟩,⟨_,_⟩,rfl=>rfl
instance {n:Nat} {α:Type} [DecidableEq α]:DecidableEq (Arr n α):=fun a b=>if h:a.l=b.l then .isTrue (Arr.ext h) else .isFalse (fun e=>h (by rw [e]))
def Arr.set {n:Nat} {α:Type} (a:Arr n α) (i:Nat) (v:α):Arr n α:=⟨a.l.set i v,by rw [List.length_set];exact a.h⟩
def getI {α:Type} (xs:List α) (i:Int):Option α:=if 0≤i then xs[i.toNat]? else none
def Dc {α:Type} (xs:List α) (lo hi:Int):Option (List α):=if 0≤lo∧lo≤hi∧hi≤(xs.length:Int) then some ((xs.take hi.toNat).drop lo.toNat) else none
def B9 {α:Type} (bytes:Nat) (xs ys:List α):Option (List α):=if (xs.length+ys.length) * bytes≤140737488355328∧xs.length+ys.length≤4611686018427387904 then some (xs ++ ys) else none
def Cw (a b:Str):Option Str:=if a.length+b.length≤9223372036854775807 then some (a ++ b) else none
def Xj (x y:Int):Option Int:=if y=0 then none else some (x.tmod y)
def Jai (k:IntKind) (x n:Int):Option Int:=if n < 0 then none else some (k.wrap (x * 2 ^ (min n.toNat k.bits)))
def Yl (k:IntKind) (x n:Int):Option Int:=if n < 0 then none else some (x.fdiv (2 ^ (min n.toNat k.bits)))
def Sp (k:IntKind) (x y:Int):Int:=k.wrap (BitVec.ofInt k.bits x &&& BitVec.ofInt k.bits y).toNat
def Hw (s:Str) (i:Int):Option Int:=(getI s i).map fun b=>(b.toNat:Int)
def Nf (b:Bool):Option Unit:=if b then some () else none
theorem bind_some {α β:Type} {x:Option α} {f:α→Option β} {r:β} (h:x.bind f=some r):∃ a,x=some a∧f a=some r:=Option.bind_eq_some_iff.1 h
theorem Fv {b:Bool} {u:Unit} (h:Nf b=some u):b=true:=by
  unfold Nf at h
  split at h
  · assumption
  · cases h
theorem Fx {α:Type} {xs:List α} {i:Int} {x:α} (h:getI xs i=some x):0≤i∧xs[i.toNat]? = some x:=by
  unfold getI at h
  split at h
  · exact ⟨by assumption,h⟩
  · cases h
theorem Kd {α:Type} {xs:List α} {i:Int} {x:α} (h:getI xs i=some x):0≤i∧i.toNat < xs.length:=⟨(Fx h).1,(List.getElem?_eq_some_iff.1 (Fx h).2).1⟩
theorem Kq {α:Type} {xs ys:List α} {lo hi:Int} (h:Dc xs lo hi=some ys):0≤lo∧lo≤hi∧hi≤(xs.length:Int)∧ys=(xs.take hi.toNat).drop lo.toNat:=by
  unfold Dc at h
  split at h
  · rename_i c;exact ⟨c.1,c.2.1,c.2.2,(Option.some.inj h).symm⟩
  · cases h
theorem U9 {α:Type} {b:Nat} {xs ys zs:List α} (h:B9 b xs ys=some zs):(xs.length+ys.length) * b≤140737488355328∧xs.length+ys.length≤4611686018427387904∧zs=xs ++ ys:=by
  unfold B9 at h
  split at h
  · rename_i c;exact ⟨c.1,c.2,(Option.some.inj h).symm⟩
  · cases h
theorem Uy {a b c:Str} (h:Cw a b=some c):a.length+b.length≤9223372036854775807∧c=a ++ b:=by
  unfold Cw at h
  split at h
  · rename_i q;exact ⟨q,(Option.some.inj h).symm⟩
  · cases h
theorem S9 {s:Str} {i n:Int} (h:Hw s i=some n):∃ b,getI s i=some b∧n=(b.toNat:Int):=by
  obtain ⟨b,h1,h2⟩:=Option.map_eq_some_iff.1 h
  exact ⟨b,h1,h2.symm⟩
def Cj {κ β:Type} [DecidableEq κ] (k:κ):List (κ×β)→Option β
  | []=>none
  | x :: r=>if k=x.1 then some x.2 else Cj k r
def Sz {κ β:Type} [DecidableEq κ] (k:κ) (v:β):List (κ×β)→List (κ×β)
  | []=>[]
  | x :: r=>if k=x.1 then (x.1,v) :: r else x :: Sz k v r
def Yi {κ β:Type} [DecidableEq κ] (k:κ) (v:β) (m:List (κ×β)):List (κ×β):=if (Cj k m).isSome then Sz k v m else m ++ [(k,v)]
def Pp (n:Int):Option Str:=if -9223372036854775808≤n∧n≤9223372036854775807 then some (Lib.itoa n) else none
def Gk (l:List (IntK .u8)):Str:=l.map fun b=>UInt8.ofNat b.v.toNat
def Px (a b:Str):Option Str:=if a.length+b.length≤140737488355328 then some (a ++ b) else none
theorem Us {a b c:Str} (h:Px a b=some c):a.length+b.length≤140737488355328∧c=a ++ b:=by
  unfold Px at h
  split at h
  · rename_i q;exact ⟨q,(Option.some.inj h).symm⟩
  · cases h
def yy {σ ρ α:Type} (bd:σ→α→Option (σ ⊕ ρ)):σ ⊕ ρ→α→Option ((σ ⊕ ρ)×Bool)
  | .inl s,x=>(bd s x).map fun r=>(r,r.isLeft)
  | .inr _,_=>none
end Go.MD
