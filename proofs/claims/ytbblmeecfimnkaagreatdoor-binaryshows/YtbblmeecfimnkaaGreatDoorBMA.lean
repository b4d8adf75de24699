/- Numbers as bytes, both; BinaryNumbers. No condition: plain lemmas. -/
import Derived.Test.YtbblmeecfimnkaaGreatDoorBMF
namespace Go.MD.BINZ
open Go Go.MD
end Go.MD.BINZ
