/- The engine's eighth part: numbers that are known to be natural. No condition: plain lemmas. -/
import Derived.Test.YtbblmeecfimnkaaGreatDoorLLg
import Derived.Laws.BitsLemmas
namespace Go.LL
open Go
def lo (n:Nat) (m:Int):Nat:=(BitVec.ofInt 64 m &&& BitVec.ofInt 64 n).toNat
section
variable {P:Program} {a:Act} {w:World} {N:FN} {F:List (Nat×Value)} {d:Option Tmp} {ty:TypeId} {pos:String} {af:Array Edge} {g:Option (Nat×Bool)}
theorem Ax {o:Oper} {v v':Value} (h:(execOp a.eval o).run P w=.ok (.value v) w) (e:v=v'):(execOp a.eval o).run P w=.ok (.value v') w:=e ▸ h
end
end Go.LL
