/- LegalChecks: the row and its tied card. No condition. -/
import Derived.Test.YtgdkaddhhpgeiaaGreatDoorLBO
import Derived.Test.YtgdkaddhhpgeiaaGreatDoorLBQ7
import Derived.Test.YtgdkaddhhpgeiaaGreatDoorLBZ
import Derived.Test.YtgdkaddhhpgeiaaGreatDoorCards
import Derived.Test.YtgdkaddhhpgeiaaGreatDoorTie
import Derived.SevenTiedAt
import Derived.JoinedOf
namespace Go.Proofs.YtgdkaddhhpgeiaaGreatDoor
open Go Go.LL Go.MD Go.LM Go.LM.LB Go.MD.LB Go.ChangeShapes Go.WideShapes Go.ChangeAt Go.RowKit
set_option maxRecDepth 100000 in
theorem legalChecks_lifted (os:Os) (started:os.Started) (H:Type) (enc:TypeId×Value→H) :
    ReturnsInHanded {} Tryz.checked os 3 .any (fun w args=>(Rows.legalChecksSpec.pre enc Tryz.prog Tryz.f3 Rows.legalChecksRow.domain false w args∧laidMet Tryz.prog Rx w)∧sizedMet enc Tryz.prog Tryz.f3 (OpenSpec.ofChange Rows.legalChecksSpec) false w args) (Rows.legalChecksSpec.post enc Tryz.prog Tryz.f3 false true false false):=by
  refine Ev (C:=Tryz.checked) (X:=fun w _=>laidMet Tryz.prog Rx w) (fun _ _ _ hh h=>h.of_heap hh) Go.LM.LB.own started (by kernel_rfl) Tryz.func3
    (ChangeSpec.witness_at (enc:=enc) (C:=Tryz.checked) (os:=os) (X:=fun w _=>laidMet Tryz.prog Rx w) false (Mq os) #[.agg #[.slice none 0 0,.slice none 0 0,.slice none 0 0,.slice none 0 0,.slice none 0 0,.slice none 0 0]] 8 rfl (by kernel_rfl) (by kernel_rfl) (by kernel_rfl) (by kernel_rfl) (by kernel_rfl) (Vh os _)) ?_
  intro W base args ds gs before hval0 hW hL hSh
  have hval:∀ (j:Nat) t v,Tryz.f3.params[j]? = some t→args[j]? = some v→Value.okWide Tryz.prog W .any base t v:=hval0
  have hW':=hW
  obtain ⟨p,q,hA0,hV,rfl,_,_⟩:=hW'
  have hA:DataW.TrodAll enc Tryz.prog W 0 (fun _=>true) true Tryz.f3.params.toList args.toList ds p:=hA0
  rw [Tryz.params3] at hA hval
  obtain ⟨v0,d0,hargs,rfl,h0⟩:=trodAll_one hA
  subst hargs
  obtain ⟨c0,x0,rfl,r0,q0⟩:=Qx Tryz.underlying27 (hval 0 27 v0 rfl rfl) h0 Oe
  refine Calls.mono (JaR (Ai W) (Nl hSh) r0 (Ki _)) fun e W' ⟨v,he,hv,hk⟩=>?_
  subst he;subst hv
  exact ⟨_,rfl,Ud hW Go.LM.LB.laid (by kernel_rfl) rfl (by kernel_rfl) Tryz.underlying4 rfl hk⟩
theorem legalChecks_row_holds:Rows.LegalChecksSaid:=
  OpenClaim.holds_of_wide 3 Tryz.f3 rfl rfl rfl rfl rfl rfl rfl ⟨rfl,rfl,rfl,rfl,rfl⟩ rfl rfl rfl rfl rfl (by kernel_rfl) Tryz.func3 (by kernel_rfl)
    (of_decide_eq_true (by kernel_rfl)) (by unfold Func.isWrapper;first | (rw [if_pos (by decide +kernel)];kernel_rfl) | (rw [if_neg (by decide +kernel)];exact ⟨rfl,rfl⟩))
    (fun os started H enc _=>legalChecks_lifted os started H enc)
theorem legalChecks_card_holds:Rows.LegalChecksCardSaid:=
  Claim7.holds_tied_plain_at .later [] [.data, .pinned] true (true, "1f3c0be696b2d2e3f5d48e3ba946ccefe10248cb62d06eef4dfdbcc32f34794d") false
    legalChecks_row_holds (fun _ h=>by cases h) (by kernel_rfl) (fun _ h=>by cases h) legalChecks_row_tie rfl ⟨rfl,rfl⟩ (by kernel_rfl) rfl
    (fun f fn hf hfn=>by
      obtain rfl:f=3:=Option.some.inj ((show Tryz.prog.funcNamed Rows.legalChecksRow.func=some 3 by kernel_rfl).symm.trans hf) |>.symm
      obtain rfl:fn=Tryz.f3:=(Option.some.inj (Tryz.func3.symm.trans hfn)).symm
      exact ⟨by kernel_rfl,fun j t ht=>by
        have hj:t∈Tryz.f3.params:=Array.mem_of_getElem? ht
        exact Eq.mp (Bool.not_eq_true' _) (Array.all_eq_true_iff_forall_mem.1 (show (Tryz.f3.params.all fun t=>!Tryz.prog.wantsStandIn t)=true by kernel_rfl) t hj)⟩)
    (by kernel_rfl)
#print axioms legalChecks_card_holds
end Go.Proofs.YtgdkaddhhpgeiaaGreatDoor
