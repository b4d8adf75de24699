/- Plain functions that may panic. No condition: definitions. -/
import Derived.Test.YtbblmeecfimnkaaGreatDoorMD
def Option.panK {α β:Type} (x:Option α) (k:α→Option (Option β)):Option (Option β):=match x with | none=>some none | some y=>k y
def Option.bindP {α β:Type} (e:Option (Option α)) (k:α→Option (Option β)):Option (Option β):=e.bind fun x=>x.panK k
theorem Option.bindP_x {α β:Type} {e:Option (Option α)} {k:α→Option (Option β)} {r:Option β} (h:e.bindP k=some r):∃ x,e=some x∧x.panK k=some r:=by
  cases e with
  | none=>cases h
  | some x=>exact ⟨x,rfl,h⟩
theorem Option.bindP_s {α β:Type} {y:α} {k:α→Option (Option β)} {r:Option β} (h:Option.panK (some y) k=some r):k y=some r:=h
namespace Go.MD
def Pj (a:Str) (n:Int):Option Str:=if a.length+1≤140737488355328∧0≤n∧n≤255 then some (a ++ [UInt8.ofNat n.toNat]) else none
theorem Vg {a c:Str} {n:Int} (h:Pj a n=some c):a.length+1≤140737488355328∧(0≤n∧n≤255)∧c=a ++ [UInt8.ofNat n.toNat]:=by
  unfold Pj at h
  split at h
  · rename_i q;exact ⟨q.1,q.2,(Option.some.inj h).symm⟩
  · cases h
end Go.MD
namespace Go.MD
def Ga (s:Str):List (IntK .u8):=s.map fun b=>⟨(b.toNat:Int)⟩
end Go.MD
namespace Go.MD
def neG (s:Str):Option Str:=if s=[] then none else some s
theorem Yd {s t:Str} (h:neG s=some t):s≠[]∧t=s:=by
  unfold neG at h
  split at h
  · cases h
  · rename_i q;exact ⟨q,(Option.some.inj h).symm⟩
def Gu (p:Str):List Str→Str
  | []=>[]
  | [x]=>x
  | x :: y :: r=>x ++ p ++ Gu p (y :: r)
def Q9 (l:List Str) (p:Str):Option Str:=if l.length≤1000000∧(Gu p l).length≤140737488355328 then some (Gu p l) else none
theorem Sd {l:List Str} {p r:Str} (h:Q9 l p=some r):(l.length≤1000000∧(Gu p l).length≤140737488355328)∧r=Gu p l:=by
  unfold Q9 at h
  split at h
  · rename_i q;exact ⟨q,(Option.some.inj h).symm⟩
  · cases h
end Go.MD
def Option.panQ {α β:Type} (x:Option α) (d:Option β) (k:α→Option β):Option β:=match x with | none=>d | some y=>k y
def Option.bindQ {α β:Type} (e:Option (Option α)) (d:Option β) (k:α→Option β):Option β:=e.bind fun x=>x.panQ d k
theorem Option.bindQ_x {α β:Type} {e:Option (Option α)} {d:Option β} {k:α→Option β} {r:Option β} (h:e.bindQ d k=r) (hr:r≠none):∃ x,e=some x∧x.panQ d k=r:=by
  cases e with
  | none=>exact absurd h.symm hr
  | some x=>exact ⟨x,rfl,h⟩
theorem Option.bindQ_s {α β:Type} {y:α} {d:Option β} {k:α→Option β} {r:Option β} (h:Option.panQ (some y) d k=r):k y=r:=h