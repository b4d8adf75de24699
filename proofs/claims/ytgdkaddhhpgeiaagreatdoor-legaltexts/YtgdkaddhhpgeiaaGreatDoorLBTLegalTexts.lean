/- LegalTexts: the row and its tied card. No condition. -/
import Derived.Test.YtgdkaddhhpgeiaaGreatDoorLBO
import Derived.Test.YtgdkaddhhpgeiaaGreatDoorLBQ6
import Derived.Test.YtgdkaddhhpgeiaaGreatDoorLU4
import Derived.Test.YtgdkaddhhpgeiaaGreatDoorCards
import Derived.Test.YtgdkaddhhpgeiaaGreatDoorTie
import Derived.SevenTiedAt
import Derived.JoinedOf
namespace Go.Proofs.YtgdkaddhhpgeiaaGreatDoor
open Go Go.LL Go.MD Go.LM Go.LM.LB Go.MD.LB Go.ChangeShapes Go.WideShapes Go.ChangeAt Go.RowKit
set_option maxRecDepth 100000 in
theorem legalTexts_lifted (os:Os) (started:os.Started) (H:Type) (enc:TypeId×Value→H) :
    ReturnsInHanded {} Tryz.checked os 4 .any (fun w args=>(Rows.legalTextsSpec.pre enc Tryz.prog Tryz.f4 Rows.legalTextsRow.domain false w args∧laidMet Tryz.prog Rj w)∧sizedMet enc Tryz.prog Tryz.f4 (OpenSpec.ofChange Rows.legalTextsSpec) false w args) (Rows.legalTextsSpec.post enc Tryz.prog Tryz.f4 false true false false):=by
  refine Ey (C:=Tryz.checked) (X:=fun w _=>laidMet Tryz.prog Rj w) (fun _ _ _ hh h=>h.of_heap hh) Go.LM.LB.own started (by kernel_rfl) Tryz.func4
    (ChangeSpec.witness_at (enc:=enc) (C:=Tryz.checked) (os:=os) (X:=fun w _=>laidMet Tryz.prog Rj w) false (Ms os) #[Ac []] 8 rfl (by kernel_rfl) (by kernel_rfl) (by kernel_rfl) (by kernel_rfl) (by kernel_rfl) (Wj os _)) ?_
  intro W base args ds gs before hval0 hW hL hSh
  have hval:∀ (j:Nat) t v,Tryz.f4.params[j]? = some t→args[j]? = some v→Value.okWide Tryz.prog W .any base t v:=hval0
  have hW':=hW
  obtain ⟨p,q,hA0,hV,rfl,_,_⟩:=hW'
  have hA:DataW.TrodAll enc Tryz.prog W 0 (fun _=>true) true Tryz.f4.params.toList args.toList ds p:=hA0
  rw [Tryz.params4] at hA hval
  obtain ⟨v0,d0,hargs,rfl,h0⟩:=trodAll_one hA
  subst hargs
  obtain ⟨x0,rfl,q0⟩:=Vf Tryz.underlying9 (hval 0 9 v0 rfl rfl) h0
  refine Calls.mono (Jc6 (Ai W) (Ns hSh)  (Me _)) fun e W' ⟨v,he,hv,hk⟩=>?_
  subst he;subst hv
  exact ⟨_,rfl,Vp hW Go.LM.LB.laid (by kernel_rfl) rfl (by kernel_rfl) Tryz.underlying4 rfl hk⟩
theorem legalTexts_row_holds:Rows.LegalTextsSaid:=
  OpenClaim.holds_of_wide 4 Tryz.f4 rfl rfl rfl rfl rfl rfl rfl ⟨rfl,rfl,rfl,rfl,rfl⟩ rfl rfl rfl rfl rfl (by kernel_rfl) Tryz.func4 (by kernel_rfl)
    (of_decide_eq_true (by kernel_rfl)) (by unfold Func.isWrapper;first | (rw [if_pos (by decide +kernel)];kernel_rfl) | (rw [if_neg (by decide +kernel)];exact ⟨rfl,rfl⟩))
    (fun os started H enc _=>legalTexts_lifted os started H enc)
theorem legalTexts_card_holds:Rows.LegalTextsCardSaid:=
  Claim7.holds_tied_plain_at .later [] [.data, .pinned] true (true, "1f3c0be696b2d2e3f5d48e3ba946ccefe10248cb62d06eef4dfdbcc32f34794d") false
    legalTexts_row_holds (fun _ h=>by cases h) (by kernel_rfl) (fun _ h=>by cases h) legalTexts_row_tie rfl ⟨rfl,rfl⟩ (by kernel_rfl) rfl
    (fun f fn hf hfn=>by
      obtain rfl:f=4:=Option.some.inj ((show Tryz.prog.funcNamed Rows.legalTextsRow.func=some 4 by kernel_rfl).symm.trans hf) |>.symm
      obtain rfl:fn=Tryz.f4:=(Option.some.inj (Tryz.func4.symm.trans hfn)).symm
      exact ⟨by kernel_rfl,fun j t ht=>by
        have hj:t∈Tryz.f4.params:=Array.mem_of_getElem? ht
        exact Eq.mp (Bool.not_eq_true' _) (Array.all_eq_true_iff_forall_mem.1 (show (Tryz.f4.params.all fun t=>!Tryz.prog.wantsStandIn t)=true by kernel_rfl) t hj)⟩)
    (by kernel_rfl)
#print axioms legalTexts_card_holds
end Go.Proofs.YtgdkaddhhpgeiaaGreatDoor
