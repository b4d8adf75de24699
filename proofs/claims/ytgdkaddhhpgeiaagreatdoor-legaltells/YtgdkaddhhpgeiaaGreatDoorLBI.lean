/- Which expressions may be, and what they are as steps. No condition: plain lemmas. -/
import Derived.Test.YtgdkaddhhpgeiaaGreatDoorLBH
namespace Go.MD.LB
open Go Go.MD
def letS (c:Int):Bool:=(decide (97≤c) && decide (c≤122)) || decide (c=95)
def digS (c:Int):Bool:=decide (48≤c) && decide (c≤57)
def keptL:List Str:=[[108,105,110,101],[118,111,108],[108,111,99,107],[116,104,114,101,97,100],[114,101,103],[108,111,97,100],[115,116,111,114,101],[99,97,115],[102,108,117,115,104],[111,112,116],[115,102,101,110,99,101],[109,102,101,110,99,101],[116,97,107,101],[103,105,118,101],[105,102],[101,108,115,101],[108,111,111,112],[98,114,101,97,107],[99,104,101,99,107],[114,101,99,111,118,101,114],[97,108,119,97,121,115]]
def nmS (b:UInt8):Bool:=letS (b.toNat:Int) || digS (b.toNat:Int)
def nameS (s:Str):Bool:=match s with | []=>false | b :: r=>decide ((b :: r).length≤16) && letS (b.toNat:Int) && !decide ((b :: r)∈keptL) && (b :: r).all nmS
def mayS (x:api_Node):Bool:=decide (0≤x.At∧x.At≤4000) && (if x.Op=1 then decide (0≤x.N∧x.N≤4294967296∧x.Name=[]) else if x.Op=2 then decide (x.N=0) && nameS x.Name else decide (x.N=0∧x.Name=[]))
structure RightE (l:List api_Node) (t:T):Prop where
  len:l.length≤40
  may:∀ x∈l,mayS x=true
  flat:l=t.flat
  wk:t.wk
  depth:t.depth≤12
end Go.MD.LB
