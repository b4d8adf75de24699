/- Depths, steps, names of expressions. No condition: plain lemmas. -/
import Derived.Test.YtgdkaddhhpgeiaaGreatDoorLBG
namespace Go.MD.LB
open Go Go.MD
section
variable {l:List api_Node}
def T.head:T→api_Node
  | .leaf x=>x
  | .un x _=>x
  | .bin x _ _=>x
end
end Go.MD.LB
