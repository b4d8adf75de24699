/- What R10.Show writes; BinaryShows. No condition: plain lemmas. -/
import Derived.Test.YtbblmeecfimnkaaGreatDoorBMV
namespace Go.MD.BINZ
open Go Go.MD
end Go.MD.BINZ
