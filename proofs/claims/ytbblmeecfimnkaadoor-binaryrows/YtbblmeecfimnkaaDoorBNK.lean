/- What is known of what came in. No condition: definitions. -/
import Derived.Test.YtbblmeecfimnkaaDoorPL
import Derived.Test.YtbblmeecfimnkaaDoorBNP
namespace Go.MD.BIN
open Go Go.MD
end Go.MD.BIN
