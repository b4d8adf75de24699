/- LegalAdds: the row and its tied card. No condition. -/
import Derived.Test.YtgdkaddhhpgeiaaGreatDoorLBO
import Derived.Test.YtgdkaddhhpgeiaaGreatDoorLBQ6
import Derived.Test.YtgdkaddhhpgeiaaGreatDoorLCC
import Derived.Test.YtgdkaddhhpgeiaaGreatDoorCards
import Derived.Test.YtgdkaddhhpgeiaaGreatDoorTie
import Derived.SevenTiedAt
import Derived.JoinedOf
namespace Go.Proofs.YtgdkaddhhpgeiaaGreatDoor
open Go Go.LL Go.MD Go.LM Go.LM.LB Go.MD.LB Go.ChangeShapes Go.WideShapes Go.ChangeAt Go.RowKit
set_option maxRecDepth 100000 in
theorem legalAdds_lifted (os:Os) (started:os.Started) (H:Type) (enc:TypeId×Value→H) :
    ReturnsInHanded {} Tryz.checked os 8 .any (fun w args=>(Rows.legalAddsSpec.pre enc Tryz.prog Tryz.f8 Rows.legalAddsRow.domain false w args∧laidMet Tryz.prog Ro w)∧sizedMet enc Tryz.prog Tryz.f8 (OpenSpec.ofChange Rows.legalAddsSpec) false w args) (Rows.legalAddsSpec.post enc Tryz.prog Tryz.f8 false true false false):=by
  refine Ea (C:=Tryz.checked) (X:=fun w _=>laidMet Tryz.prog Ro w) (fun _ _ _ hh h=>h.of_heap hh) Go.LM.LB.own started (by kernel_rfl) Tryz.func8
    (ChangeSpec.witness_at (enc:=enc) (C:=Tryz.checked) (os:=os) (X:=fun w _=>laidMet Tryz.prog Ro w) false (Mg os) #[.agg #[.slice none 0 0,.slice none 0 0,.slice none 0 0,.slice none 0 0,.slice none 0 0,.slice none 0 0]] 8 rfl (by kernel_rfl) (by kernel_rfl) (by kernel_rfl) (by kernel_rfl) (by kernel_rfl) (Uc os _)) ?_
  intro W base args ds gs before hval0 hW hL hSh
  have hval:∀ (j:Nat) t v,Tryz.f8.params[j]? = some t→args[j]? = some v→Value.okWide Tryz.prog W .any base t v:=hval0
  have hW':=hW
  obtain ⟨p,q,hA0,hV,rfl,_,_⟩:=hW'
  have hA:DataW.TrodAll enc Tryz.prog W 0 (fun _=>true) true Tryz.f8.params.toList args.toList ds p:=hA0
  rw [Tryz.params8] at hA hval
  obtain ⟨v0,d0,hargs,rfl,h0⟩:=trodAll_one hA
  subst hargs
  obtain ⟨c0,x0,rfl,r0,q0⟩:=Qy Tryz.underlying27 (hval 0 27 v0 rfl rfl) h0 Ob
  refine Calls.mono (JaZ (Ai W) (N3 hSh) r0 (Ni _)) fun e W' ⟨v,he,hv,hk⟩=>?_
  subst he;subst hv
  exact ⟨_,rfl,Uq hW Go.LM.LB.laid (by kernel_rfl) rfl (by kernel_rfl) Tryz.underlying4 rfl hk⟩
theorem legalAdds_row_holds:Rows.LegalAddsSaid:=
  OpenClaim.holds_of_wide 8 Tryz.f8 rfl rfl rfl rfl rfl rfl rfl ⟨rfl,rfl,rfl,rfl,rfl⟩ rfl rfl rfl rfl rfl (by kernel_rfl) Tryz.func8 (by kernel_rfl)
    (of_decide_eq_true (by kernel_rfl)) (by unfold Func.isWrapper;first | (rw [if_pos (by decide +kernel)];kernel_rfl) | (rw [if_neg (by decide +kernel)];exact ⟨rfl,rfl⟩))
    (fun os started H enc _=>legalAdds_lifted os started H enc)
theorem legalAdds_card_holds:Rows.LegalAddsCardSaid:=
  Claim7.holds_tied_plain_at .later [] [.data, .pinned] true (true, "1f3c0be696b2d2e3f5d48e3ba946ccefe10248cb62d06eef4dfdbcc32f34794d") false
    legalAdds_row_holds (fun _ h=>by cases h) (by kernel_rfl) (fun _ h=>by cases h) legalAdds_row_tie rfl ⟨rfl,rfl⟩ (by kernel_rfl) rfl
    (fun f fn hf hfn=>by
      obtain rfl:f=8:=Option.some.inj ((show Tryz.prog.funcNamed Rows.legalAddsRow.func=some 8 by kernel_rfl).symm.trans hf) |>.symm
      obtain rfl:fn=Tryz.f8:=(Option.some.inj (Tryz.func8.symm.trans hfn)).symm
      exact ⟨by kernel_rfl,fun j t ht=>by
        have hj:t∈Tryz.f8.params:=Array.mem_of_getElem? ht
        exact Eq.mp (Bool.not_eq_true' _) (Array.all_eq_true_iff_forall_mem.1 (show (Tryz.f8.params.all fun t=>!Tryz.prog.wantsStandIn t)=true by kernel_rfl) t hj)⟩)
    (by kernel_rfl)
#print axioms legalAdds_card_holds
end Go.Proofs.YtgdkaddhhpgeiaaGreatDoor
