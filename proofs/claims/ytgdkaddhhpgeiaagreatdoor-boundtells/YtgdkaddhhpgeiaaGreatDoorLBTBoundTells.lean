/- BoundTells: the row and its tied card. No condition. -/
import Derived.Test.YtgdkaddhhpgeiaaGreatDoorLBO
import Derived.Test.YtgdkaddhhpgeiaaGreatDoorLBQ7
import Derived.Test.YtgdkaddhhpgeiaaGreatDoorLCE
import Derived.Test.YtgdkaddhhpgeiaaGreatDoorCards
import Derived.Test.YtgdkaddhhpgeiaaGreatDoorTie
import Derived.SevenTiedAt
import Derived.JoinedOf
namespace Go.Proofs.YtgdkaddhhpgeiaaGreatDoor
open Go Go.LL Go.MD Go.LM Go.LM.LB Go.MD.LB Go.ChangeShapes Go.WideShapes Go.ChangeAt Go.RowKit
set_option maxRecDepth 100000 in
theorem boundTells_lifted (os:Os) (started:os.Started) (H:Type) (enc:TypeId×Value→H) :
    ReturnsInHanded {} Tryz.checked os 9 .any (fun w args=>(Rows.boundTellsSpec.pre enc Tryz.prog Tryz.f9 Rows.boundTellsRow.domain false w args∧laidMet Tryz.prog Sv w)∧sizedMet enc Tryz.prog Tryz.f9 (OpenSpec.ofChange Rows.boundTellsSpec) false w args) (Rows.boundTellsSpec.post enc Tryz.prog Tryz.f9 false true false false):=by
  refine Fe (C:=Tryz.checked) (X:=fun w _=>laidMet Tryz.prog Sv w) (fun _ _ _ hh h=>h.of_heap hh) Go.LM.LB.own started (by kernel_rfl) Tryz.func9
    (ChangeSpec.witness_at (enc:=enc) (C:=Tryz.checked) (os:=os) (X:=fun w _=>laidMet Tryz.prog Sv w) false (Nk os) #[.agg #[.slice none 0 0,.slice none 0 0,.slice none 0 0,.slice none 0 0,.slice none 0 0,.slice none 0 0],.int .i64 0,.agg #[.int .i64 0,.int .i64 0]] 8 rfl (by kernel_rfl) (by kernel_rfl) (by kernel_rfl) (by kernel_rfl) (by kernel_rfl) (Xa os _)) ?_
  intro W base args ds gs before hval0 hW hL hSh
  have hval:∀ (j:Nat) t v,Tryz.f9.params[j]? = some t→args[j]? = some v→Value.okWide Tryz.prog W .any base t v:=hval0
  have hW':=hW
  obtain ⟨p,q,hA0,hV,rfl,_,_⟩:=hW'
  have hA:DataW.TrodAll enc Tryz.prog W 0 (fun _=>true) true Tryz.f9.params.toList args.toList ds p:=hA0
  rw [Tryz.params9] at hA hval
  obtain ⟨v0,v1,v2,d0,d1,d2,p0,p1,p2,hargs,rfl,rfl,h0,h1,h2⟩:=trodAll_three hA
  subst hargs
  obtain ⟨c0,x0,rfl,r0,q0⟩:=Qu Tryz.underlying27 (hval 0 27 v0 rfl rfl) h0 Qd
  obtain ⟨x1,rfl,q1⟩:=Jaa Tryz.underlying3 (hval 1 3 v1 rfl rfl) h1
  obtain ⟨c2,x2,rfl,r2,q2⟩:=Td Tryz.underlying54 (hval 2 54 v2 rfl rfl) h2 (Vb (n:=2) (s:=1) Tryz.underlying54 (by kernel_rfl) (by kernel_rfl) (En Tryz.underlying3))
  obtain ⟨y2a,y2b,q2,e2⟩:=Wg r2 q2
  subst e2
  refine Calls.mono (Jcv (Ai W) (Nv hSh) r0 (Mi _ _ _ _)) fun e W' ⟨v,he,hv,hk⟩=>?_
  subst he;subst hv
  exact ⟨_,rfl,Xf hW Go.LM.LB.laid (by kernel_rfl) rfl (by kernel_rfl) Tryz.underlying4 rfl hk⟩
theorem boundTells_row_holds:Rows.BoundTellsSaid:=
  OpenClaim.holds_of_wide 9 Tryz.f9 rfl rfl rfl rfl rfl rfl rfl ⟨rfl,rfl,rfl,rfl,rfl⟩ rfl rfl rfl rfl rfl (by kernel_rfl) Tryz.func9 (by kernel_rfl)
    (of_decide_eq_true (by kernel_rfl)) (by unfold Func.isWrapper;first | (rw [if_pos (by decide +kernel)];kernel_rfl) | (rw [if_neg (by decide +kernel)];exact ⟨rfl,rfl⟩))
    (fun os started H enc _=>boundTells_lifted os started H enc)
theorem boundTells_card_holds:Rows.BoundTellsCardSaid:=
  Claim7.holds_tied_plain_at .later [] [.data, .pinned] true (true, "1f3c0be696b2d2e3f5d48e3ba946ccefe10248cb62d06eef4dfdbcc32f34794d") false
    boundTells_row_holds (fun _ h=>by cases h) (by kernel_rfl) (fun _ h=>by cases h) boundTells_row_tie rfl ⟨rfl,rfl⟩ (by kernel_rfl) rfl
    (fun f fn hf hfn=>by
      obtain rfl:f=9:=Option.some.inj ((show Tryz.prog.funcNamed Rows.boundTellsRow.func=some 9 by kernel_rfl).symm.trans hf) |>.symm
      obtain rfl:fn=Tryz.f9:=(Option.some.inj (Tryz.func9.symm.trans hfn)).symm
      exact ⟨by kernel_rfl,fun j t ht=>by
        have hj:t∈Tryz.f9.params:=Array.mem_of_getElem? ht
        exact Eq.mp (Bool.not_eq_true' _) (Array.all_eq_true_iff_forall_mem.1 (show (Tryz.f9.params.all fun t=>!Tryz.prog.wantsStandIn t)=true by kernel_rfl) t hj)⟩)
    (by kernel_rfl)
#print axioms boundTells_card_holds
end Go.Proofs.YtgdkaddhhpgeiaaGreatDoor
