/- What is known of He came in. No condition: definitions. -/
import Derived.Test.YtbblmeecfimnkaaGreatDoorPL
import Derived.Test.YtbblmeecfimnkaaGreatDoorBMP
namespace Go.MD.BINZ
open Go Go.MD
def Ha (y:api_Op):Prop:=(InR y.Kind)∧(InR y.N)
def Gv (y:api_Cell):Prop:=(y.Name.length≤maxLen)∧(InR y.N)∧(InR y.At)
def Gr (y:api_Node):Prop:=(InR y.Op)∧(InR y.N)∧(y.Name.length≤maxLen)∧(InR y.At)
def Lg (y:api_Stmt):Prop:=(InR y.Kind)∧(y.Reg.length≤maxLen)∧(y.Name.length≤maxLen)∧(∀ z∈y.E,Gr z)∧(∀ z∈y.F,Gr z)∧(InR y.N)∧(InR y.Body)∧(InR y.Else)∧(InR y.At)
def Gx (y:api_Thread):Prop:=(y.Name.length≤maxLen)∧(∀ z∈y.Regs,z.length≤maxLen)∧(∀ z∈y.Body,Lg z)∧(InR y.At)
def Jn (y:api_Claim):Prop:=(∀ z∈y.E,Gr z)∧(InR y.At)
def Ri (y:api_Prog):Prop:=(∀ z∈y.Lines,∀ z1∈z,Gv z1)∧(∀ z∈y.Vols,Gv z)∧(∀ z∈y.Locks,Gv z)∧(∀ z∈y.Threads,Gx z)∧(∀ z∈y.Recover,Gx z)∧(∀ z∈y.Claims,Jn z)
end Go.MD.BINZ
