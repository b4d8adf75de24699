/- The engine's seventh part: maps whose keys are arrays of numbers. No condition: plain lemmas. -/
import Derived.Test.YtbblmeecfimnkaaGreatDoorLLf
import Derived.ChangeKeysEq
namespace Go.LL
open Go
section
variable {P:Program} {a:Act} {w:World} {N:FN} {F:List (Nat×Value)} {d:Option Tmp} {ty:TypeId} {pos:String} {af:Array Edge} {g:Option (Nat×Bool)}
end
end Go.LL
