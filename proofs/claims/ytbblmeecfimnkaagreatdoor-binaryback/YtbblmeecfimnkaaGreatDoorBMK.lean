/- What is known of Hb came in. No condition: definitions. -/
import Derived.Test.YtbblmeecfimnkaaGreatDoorPL
import Derived.Test.YtbblmeecfimnkaaGreatDoorBMP
namespace Go.MD.BINZ
open Go Go.MD
def Hd (y:api_Op):Prop:=(InR y.Kind)∧(InR y.N)
def Gj (y:api_Cell):Prop:=(y.Name.length≤maxLen)∧(InR y.N)∧(InR y.At)
def Gk (y:api_Node):Prop:=(InR y.Op)∧(InR y.N)∧(y.Name.length≤maxLen)∧(InR y.At)
def Lo (y:api_Stmt):Prop:=(InR y.Kind)∧(y.Reg.length≤maxLen)∧(y.Name.length≤maxLen)∧(∀ z∈y.E,Gk z)∧(∀ z∈y.F,Gk z)∧(InR y.N)∧(InR y.Body)∧(InR y.Else)∧(InR y.At)
def Gu (y:api_Thread):Prop:=(y.Name.length≤maxLen)∧(∀ z∈y.Regs,z.length≤maxLen)∧(∀ z∈y.Body,Lo z)∧(InR y.At)
def Jq (y:api_Claim):Prop:=(∀ z∈y.E,Gk z)∧(InR y.At)
def Px (y:api_Prog):Prop:=(∀ z∈y.Lines,∀ z1∈z,Gj z1)∧(∀ z∈y.Vols,Gj z)∧(∀ z∈y.Locks,Gj z)∧(∀ z∈y.Threads,Gu z)∧(∀ z∈y.Recover,Gu z)∧(∀ z∈y.Claims,Jq z)
end Go.MD.BINZ
