/- Which statements may be, one by one. No condition: plain lemmas. -/
import Derived.Test.YtgdkaddhhpgeiaaGreatDoorLBI
namespace Go.MD.LB
open Go Go.MD
def tabS:List Str:=[[],[114,101],[114,110],[110,101],[114,110,101,102],[110],[110],[],[],[110],[110],[101,98],[107,98],[],[101]]
def hS (k:Int):Str:=if 1≤k∧k≤14 then (tabS[k.toNat]?).getD [] else []
def textB (is:Bool) (s:Str):Bool:=if is=true then nameS s else decide (s=[])
open Classical in
noncomputable def rightE (l:List api_Node):Bool:=decide (∃ t,RightE l t)
noncomputable def nodeB (is:Bool) (l:List api_Node):Bool:=if is=true then rightE l else decide (l=[])
noncomputable def fitsS (x:api_Stmt):Bool:=
  decide (1≤x.Kind∧x.Kind≤14∧0≤x.At∧x.At≤4000) && (if 107∈hS x.Kind then decide (1≤x.N∧x.N≤8) else decide (x.N=0)) &&
  (textB (decide (114∈hS x.Kind)) x.Reg && (textB (decide (110∈hS x.Kind)) x.Name && (nodeB (decide (101∈hS x.Kind)) x.E && nodeB (decide (102∈hS x.Kind)) x.F)))
def smallS (x:api_Stmt):Prop:=x.E.length≤60∧x.F.length≤60
end Go.MD.LB
