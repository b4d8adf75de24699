/- Cells as the document has them. No condition: plain lemmas. -/
import Derived.Test.YtgdkaddhhpgeiaaGreatDoorLBU
namespace Go.MD.LB
open Go Go.MD
theorem PlaceL_eq {l:List Str} {s:Str} (hl:l.length≤1000):Z68 1001 l s=some (idxS l s 0):=by
  unfold Z68
  rw [Index_eq hl (by omega)];rfl
end Go.MD.LB
