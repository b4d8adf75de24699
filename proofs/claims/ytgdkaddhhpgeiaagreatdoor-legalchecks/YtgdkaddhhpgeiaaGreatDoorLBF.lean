/- The fixed calls. No condition: closed. -/
import Derived.Test.YtgdkaddhhpgeiaaGreatDoorLBP
namespace Go.MD.LB
open Go Go.MD
end Go.MD.LB
