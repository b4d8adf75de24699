/- The fixed calls. No condition: closed. -/
import Derived.Test.YtgdkaddhhpgeiaaGreatDoorLBP
namespace Go.MD.LB
open Go Go.MD
theorem fixed07:Z1a 1001=some true:=by decide +kernel
end Go.MD.LB
