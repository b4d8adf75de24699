/- What is known of what came in. No condition: definitions. -/
import Derived.Test.YtbblmeecfimnkaaGreatDoorPL
import Derived.Test.YtbblmeecfimnkaaGreatDoorBMP
namespace Go.MD.BINZ
open Go Go.MD
def ok_api_Op (y:api_Op):Prop:=(InR y.Kind)∧(InR y.N)
def ok_api_Instr (y:api_Instr):Prop:=(InR y.Kind)∧(InR y.A)∧(InR y.B)∧(∀ z∈y.E,ok_api_Op z)∧(∀ z∈y.F,ok_api_Op z)∧(InR y.To)
def ok_api_Code (y:api_Code):Prop:=(InR y.Regs)∧(InR y.Counts)∧(∀ z∈y.L,ok_api_Instr z)
def ok_api_Unit (y:api_Unit):Prop:=(∀ z∈y.Lines,InR z)∧(InR y.Stays)∧(∀ z∈y.Firsts,InR z)∧(InR y.Locks)∧(∀ z∈y.Threads,ok_api_Code z)∧(ok_api_Code y.Recover)∧(∀ z∈y.Claims,∀ z1∈z,ok_api_Op z1)
end Go.MD.BINZ
