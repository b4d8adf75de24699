/- The fixed calls. No condition: closed. -/
import Derived.Test.YtgdkaddhhpgeiaaGreatDoorLBP
namespace Go.MD.LB
open Go Go.MD
theorem Jae:Z1r 1001=some true:=by decide +kernel
end Go.MD.LB
