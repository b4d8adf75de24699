/- What came in at the seat lb, and Hu its library reads. No condition: plain lemmas. -/
import Derived.Test.YtgdkaddhhpgeiaaGreatDoorLO
import Derived.Test.YtgdkaddhhpgeiaaGreatDoorLW
import Derived.Test.YtgdkaddhhpgeiaaGreatDoorLBB
import Derived.Test.YtgdkaddhhpgeiaaGreatDoorRows
import Derived.LaidLaws
import Derived.Shelf.Vars
namespace Go.LM.LB
open Go Go.LL Go.MD Go.LM Go.MD.LB Go.Proofs Go.ChangeShapes Go.WideShapes Go.ChangeAt Go.RowKit Go.WideElems
theorem own:ownKnob Tryz.prog.godebug=none:=by kernel_rfl
theorem laid:laidOutB Tryz.prog=true:=by kernel_rfl
def Rj : List (String × DataW Unit) := [("unicode/utf8.acceptRanges", Go.Proofs.YtgdkaddhhpgeiaaGreatDoor.Rows.laid_unicode_utf8_acceptRanges), ("unicode/utf8.first", Go.Proofs.YtgdkaddhhpgeiaaGreatDoor.Rows.laid_unicode_utf8_first)]
theorem Ns {W:World} (h:W.ShapedOpen Tryz.prog):Tab (hp W):=by
  obtain ⟨m,hm⟩:=cell_of_shapedOpen_int (g:=0) (t:=3) (k:=.i64) (zero:=#[.int .i64 0]) h (Nat.le_of_ble_eq_true (by kernel_rfl)) (by kernel_rfl) rfl (by kernel_rfl) (by kernel_rfl) Tryz.underlying3
  intro w hle
  refine ⟨m,?_⟩
  rw [← Io] at hm
  exact hle.cell hm
def Uf:DataW Unit→List Value
  | .agg ds=>ds.map fun | .lit (.int k z)=>.int k z | _=>.bool false
  | .lit (.int k z)=>[.int k z]
  | _=>[]
def Ja7:DataW Unit→List Value
  | .agg ds=>ds.flatMap Uf
  | _=>[]
noncomputable def Ms (os:Os):World:=
  let w0:=World.holding Tryz.prog os ⟨#[],#[],[]⟩
  { w0 with heap:=((w0.heap.modify 1 fun
      | .cells _ t frozen=>.cells (Uf Go.Proofs.YtgdkaddhhpgeiaaGreatDoor.Rows.laid_unicode_utf8_first).toArray t frozen
      | o=>o).modify 2 fun
      | .cells _ t frozen=>.cells (Ja7 Go.Proofs.YtgdkaddhhpgeiaaGreatDoor.Rows.laid_unicode_utf8_acceptRanges).toArray t frozen
      | o=>o) }
theorem Wj (os:Os) (args:Array Value):laidMet Tryz.prog Rj ((Ms os).forCall (fun _ _=>0) ⟨#[],args,[]⟩).memory:=
  laidMet_of_run' 8 (by kernel_rfl) (by kernel_rfl)
theorem Vf {H:Type} {enc:TypeId×Value→H} {P:Program} {t:TypeId} {W:World} {r:Reach} {b0 base:Nat} {v:Value} {d:DataW H} {ps:List MemPlace} {sp:Nat→Bool} {held:Bool} (ht:P.underlying t=some .string) (hval:Value.okWide P W r b0 t v) (hd:DataW.Trod enc P W base sp held t v d ps):∃ x:Str,v=Ac x∧x.length≤maxLen:=by
  obtain ⟨s,rfl⟩:=okWide_string ht hval
  obtain ⟨fuel,hf⟩:=hd
  obtain ⟨s',h,hx,hs⟩:=DataW.trod_string ht hf
  simp [Value.cells] at h
  subst h
  exact ⟨s.data.toList,rfl,by rw [Array.length_toList];exact hs⟩
end Go.LM.LB
