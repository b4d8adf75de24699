/- Expressions as trees. No condition: plain lemmas. -/
import Derived.Test.YtgdkaddhhpgeiaaGreatDoorLBP
import Derived.Test.YtgdkaddhhpgeiaaGreatDoorPL
namespace Go.MD.LB
open Go Go.MD
def ar (k:Int):Int:=if k=1∨k=2 then 0 else if k=3∨k=4 then 1 else if 5≤k∧k≤15 then 2 else -1
inductive T
  | leaf (x:api_Node)
  | un (x:api_Node) (a:T)
  | bin (x:api_Node) (a b:T)
def T.flat:T→List api_Node
  | .leaf x=>[x]
  | .un x a=>x :: a.flat
  | .bin x a b=>x :: (a.flat ++ b.flat)
def T.size:T→Nat
  | .leaf _=>1
  | .un _ a=>a.size+1
  | .bin _ a b=>a.size+b.size+1
def T.depth:T→Nat
  | .leaf _=>1
  | .un _ a=>a.depth+1
  | .bin _ a b=>max a.depth b.depth+1
def T.wk:T→Prop
  | .leaf x=>ar x.Op=0
  | .un x a=>ar x.Op=1∧a.wk
  | .bin x a b=>ar x.Op=2∧a.wk∧b.wk
theorem T.flat_len:∀ t:T,t.flat.length=t.size
  | .leaf _=>rfl
  | .un _ a=>by simp [T.flat,T.size,T.flat_len a]
  | .bin _ a b=>by simp [T.flat,T.size,T.flat_len a,T.flat_len b]
end Go.MD.LB
