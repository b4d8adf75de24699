/- The fixed calls of leadlinelaw10. No condition: plain lemmas. -/
import Derived.Test.YtbblmeecfimnkaaDoorPL
import Derived.Test.YtbblmeecfimnkaaDoorBNP
namespace Go.MD.BIN
open Go Go.MD
theorem fixed10:Z1o 1001=some true:=by decide +kernel
theorem fix_b10:((Z1o 1001).bind fun r=>some r)=some true:=by rw [fixed10];rfl
end Go.MD.BIN
