/- Opening Hu came in, for the lifter's plain data. No condition: plain lemmas. -/
import Derived.Test.YtgdkaddhhpgeiaaGreatDoorLM
import Derived.Test.YtgdkaddhhpgeiaaGreatDoorLLt
import Derived.Test.YtgdkaddhhpgeiaaGreatDoorPL
import Derived.OpenShut
import Derived.Lib.LaidTab
import Derived.Stop.LaidErr
namespace Go.LM
open Go Go.LL Go.MD Go.ChangeShapes Go.WideShapes Go.ChangeAt Go.RowKit Go.WideElems
def Op (P:Program) (t:TypeId) (α:Type) [Enc α] (ok:α→Prop):Prop:=
  ∀ {H : Type} {enc : TypeId × Value → H} {W : World} {base : Nat} {sp : Nat → Bool} {held : Bool} {n : Nat} {cs : List Value} {y : DataW H × List MemPlace},
    DataW.trod enc P W base sp held n t cs=some y→∃ x:α,Enc.rep (hp W) cs x∧ok x
section
variable {P:Program} {t e:TypeId} {α:Type} [Enc α] {ok:α→Prop}
end
section
variable {P:Program} {W:World} {t e:TypeId} {r:Reach} {b0 base:Nat} {v:Value} {H:Type} {enc:TypeId×Value→H} {d:DataW H} {ps:List MemPlace} {sp:Nat→Bool} {held:Bool} {α:Type} [Enc α] {ok:α→Prop}
end
end Go.LM
