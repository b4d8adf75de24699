/- Opening what came in, for the lifter's plain data. No condition: plain lemmas. -/
import Derived.Test.YtbblmeecfimnkaaDoorLM
import Derived.Test.YtbblmeecfimnkaaDoorLLt
import Derived.Test.YtbblmeecfimnkaaDoorPL
import Derived.OpenShut
import Derived.Lib.LaidTab
import Derived.Stop.LaidErr
namespace Go.LM
open Go Go.LL Go.MD Go.ChangeShapes Go.WideShapes Go.ChangeAt Go.RowKit Go.WideElems
def Op (P:Program) (t:TypeId) (α:Type) [Enc α] (ok:α→Prop):Prop:=
  ∀ {H : Type} {enc : TypeId × Value → H} {W : World} {base : Nat} {sp : Nat → Bool} {held : Bool} {n : Nat} {cs : List Value} {y : DataW H × List MemPlace},
    DataW.trod enc P W base sp held n t cs=some y→∃ x:α,Enc.rep (hp W) cs x∧ok x
section
variable {P:Program} {t e:TypeId} {α:Type} [Enc α] {ok:α→Prop}
theorem inR_wf {z:Int} (h:(Lit.int .i64 z).wf=true):InR z:=by
  simp [Lit.wf,IntKind.min,IntKind.max,IntKind.signed,IntKind.bits] at h
  exact ⟨by omega,by omega⟩
end
section
variable {P:Program} {W:World} {t e:TypeId} {r:Reach} {b0 base:Nat} {v:Value} {H:Type} {enc:TypeId×Value→H} {d:DataW H} {ps:List MemPlace} {sp:Nat→Bool} {held:Bool} {α:Type} [Enc α] {ok:α→Prop}
theorem top_int (ht:P.underlying t=some (.int .i64)) (hval:Value.okWide P W r b0 t v) (hd:DataW.Trod enc P W base sp held t v d ps):∃ z:Int,v=.int .i64 z∧InR z:=by
  obtain ⟨z,rfl,_,_,hw⟩:=open_int ht hval hd
  exact ⟨z,rfl,inR_wf hw⟩
end
end Go.LM
