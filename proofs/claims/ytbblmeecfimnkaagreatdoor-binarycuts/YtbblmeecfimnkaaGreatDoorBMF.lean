/- The fixed calls of leadlinelaw10. No condition: plain lemmas. -/
import Derived.Test.YtbblmeecfimnkaaGreatDoorPL
import Derived.Test.YtbblmeecfimnkaaGreatDoorBMP
namespace Go.MD.BINZ
open Go Go.MD
end Go.MD.BINZ
