/- The fixed calls of leadlinelaw10. No condition: plain lemmas. -/
import Derived.Test.YtbblmeecfimnkaaDoorPL
import Derived.Test.YtbblmeecfimnkaaDoorBNP
namespace Go.MD.BIN
open Go Go.MD
end Go.MD.BIN
