/- The plain part of lifted functions: Hu operations that may fail give. No condition: definitions and plain lemmas. -/
import Derived.IntWalk
import Derived.Lib.ItoaNum
namespace Go.MD
open Go
abbrev Str:=List UInt8
structure IntK (k:IntKind) where
  v:Int
  deriving DecidableEq
structure Arr (n:Nat) (α:Type) where
  l:List α
  h:l.length=n
theorem Arr.ext {n:Nat} {α:Type}:∀ {a b:Arr n α},a.l=b.l→a=b
  | ⟨_,_⟩,⟨_,_⟩,rfl=>rfl
instance {n:Nat} {α:Type} [DecidableEq α]:DecidableEq (Arr n α):=fun a b=>if h:a.l=b.l then .isTrue (Arr.ext h) else .isFalse (fun e=>h (by rw [e]))
def Arr.set {n:Nat} {α:Type} (a:Arr n α) (i:Nat) (v:α):Arr n α:=⟨a.l.set i v,by rw [List.length_set];exact a.h⟩
def getI {α:Type} (xs:List α) (i:Int):Option α:=if 0≤i then xs[i.toNat]? else none
def Et {α:Type} (xs:List α) (lo hi:Int):Option (List α):=if 0≤lo∧lo≤hi∧hi≤(xs.length:Int) then some ((xs.take hi.toNat).drop lo.toNat) else none
def Df {α:Type} (bytes:Nat) (xs ys:List α):Option (List α):=if (xs.length+ys.length) * bytes≤140737488355328∧xs.length+ys.length≤4611686018427387904 then some (xs ++ ys) else none
def Te {α:Type} (xs:List α) (i:Int) (v:α):Option (List α):=if 0≤i∧i.toNat < xs.length then some (xs.set i.toNat v) else none
def Cv (s:Str) (i:Int):Option Int:=(getI s i).map fun b=>(b.toNat:Int)
def Kb (b:Bool):Option Unit:=if b then some () else none
theorem bind_some {α β:Type} {x:Option α} {f:α→Option β} {r:β} (h:x.bind f=some r):∃ a,x=some a∧f a=some r:=Option.bind_eq_some_iff.1 h
theorem Ct {b:Bool} {u:Unit} (h:Kb b=some u):b=true:=by
  unfold Kb at h
  split at h
  · assumption
  · cases h
theorem Gc {α:Type} {xs:List α} {i:Int} {x:α} (h:getI xs i=some x):0≤i∧xs[i.toNat]? = some x:=by
  unfold getI at h
  split at h
  · exact ⟨by assumption,h⟩
  · cases h
theorem Ir {α:Type} {xs:List α} {i:Int} {x:α} (h:getI xs i=some x):0≤i∧i.toNat < xs.length:=⟨(Gc h).1,(List.getElem?_eq_some_iff.1 (Gc h).2).1⟩
theorem Js {α:Type} {xs ys:List α} {lo hi:Int} (h:Et xs lo hi=some ys):0≤lo∧lo≤hi∧hi≤(xs.length:Int)∧ys=(xs.take hi.toNat).drop lo.toNat:=by
  unfold Et at h
  split at h
  · rename_i c;exact ⟨c.1,c.2.1,c.2.2,(Option.some.inj h).symm⟩
  · cases h
theorem Ta {α:Type} {b:Nat} {xs ys zs:List α} (h:Df b xs ys=some zs):(xs.length+ys.length) * b≤140737488355328∧xs.length+ys.length≤4611686018427387904∧zs=xs ++ ys:=by
  unfold Df at h
  split at h
  · rename_i c;exact ⟨c.1,c.2,(Option.some.inj h).symm⟩
  · cases h
theorem Mn {α:Type} {xs ys:List α} {i:Int} {v:α} (h:Te xs i v=some ys):0≤i∧i.toNat < xs.length∧ys=xs.set i.toNat v:=by
  unfold Te at h
  split at h
  · rename_i c;exact ⟨c.1,c.2,(Option.some.inj h).symm⟩
  · cases h
theorem Vn {α:Type} {xs ys:List α} {i:Int} {v:α} (h:Te xs i v=some ys):ys.length=xs.length:=by rw [(Mn h).2.2,List.length_set]
theorem Qs {s:Str} {i n:Int} (h:Cv s i=some n):∃ b,getI s i=some b∧n=(b.toNat:Int):=by
  obtain ⟨b,h1,h2⟩:=Option.map_eq_some_iff.1 h
  exact ⟨b,h1,h2.symm⟩
def Bf {κ β:Type} [DecidableEq κ] (k:κ):List (κ×β)→Option β
  | []=>none
  | x :: r=>if k=x.1 then some x.2 else Bf k r
def Qg {κ β:Type} [DecidableEq κ] (k:κ) (v:β):List (κ×β)→List (κ×β)
  | []=>[]
  | x :: r=>if k=x.1 then (x.1,v) :: r else x :: Qg k v r
def Ih {κ β:Type} [DecidableEq κ] (k:κ) (v:β) (m:List (κ×β)):List (κ×β):=if (Bf k m).isSome then Qg k v m else m ++ [(k,v)]
def yy {σ ρ α:Type} (bd:σ→α→Option (σ ⊕ ρ)):σ ⊕ ρ→α→Option ((σ ⊕ ρ)×Bool)
  | .inl s,x=>(bd s x).map fun r=>(r,r.isLeft)
  | .inr _,_=>none
def Pb (bytes:Nat) (n:Int):Option Unit:=if 0≤n∧n.toNat * bytes≤140737488355328∧n≤4611686018427387904 then some () else none
end Go.MD
