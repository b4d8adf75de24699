/- slices.Grow of nil, in the terms of the walk. Condition: the library's text at this dump ('Lays8.n4'). -/
import Derived.Test.YtbblmeecfimnkaaGreatDoorLQ
import Derived.Shelf.Spec.SlicesGrow
namespace Go.LM
open Go Go.LL Go.MD Go.Proofs Go.Shelf
end Go.LM
