/- What is done at worst. No condition: plain lemmas. -/
import Derived.Test.YtgdkaddhhpgeiaaGreatDoorLBM
namespace Go.MD.LB
open Go Go.MD
def rep (k:Nat) (l:List Int):List Int:=(List.replicate k l).flatten
end Go.MD.LB
