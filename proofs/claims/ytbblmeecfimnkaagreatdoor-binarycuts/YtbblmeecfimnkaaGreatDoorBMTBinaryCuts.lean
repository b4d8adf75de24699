/- BinaryCuts: the row and its tied card. No condition. -/
import Derived.Test.YtbblmeecfimnkaaGreatDoorBMO
import Derived.Test.YtbblmeecfimnkaaGreatDoorBMQ6
import Derived.Test.YtbblmeecfimnkaaGreatDoorBPZ
import Derived.Test.YtbblmeecfimnkaaGreatDoorCards
import Derived.Test.YtbblmeecfimnkaaGreatDoorTie
import Derived.SevenTiedAt
import Derived.JoinedOf
namespace Go.Proofs.YtbblmeecfimnkaaGreatDoor
open Go Go.LL Go.MD Go.LM Go.LM.BINZ Go.MD.BINZ Go.ChangeShapes Go.WideShapes Go.ChangeAt Go.RowKit
set_option maxRecDepth 100000 in
theorem binaryCuts_lifted (os:Os) (started:os.Started) (H:Type) (enc:TypeId×Value→H) :
    ReturnsInHanded {} Tryz.checked os 6 .any (fun w args=>(Rows.binaryCutsSpec.pre enc Tryz.prog Tryz.f6 Rows.binaryCutsRow.domain false w args∧laidMet Tryz.prog N9 w)∧sizedMet enc Tryz.prog Tryz.f6 (OpenSpec.ofChange Rows.binaryCutsSpec) false w args) (Rows.binaryCutsSpec.post enc Tryz.prog Tryz.f6 false true false false):=by
  refine Fq (C:=Tryz.checked) (X:=fun w _=>laidMet Tryz.prog N9 w) (fun _ _ _ hh h=>h.of_heap hh) Go.LM.BINZ.own started (by kernel_rfl) Tryz.func6
    (ChangeSpec.witness_shaped (enc:=enc) (C:=Tryz.checked) (os:=os) (X:=fun w _=>laidMet Tryz.prog N9 w) false (N4 os) #[.agg #[.slice none 0 0,.slice none 0 0,.slice none 0 0,.slice none 0 0,.slice none 0 0,.slice none 0 0],.int .i64 0] 8 rfl (World.shaped_of_RefB (by kernel_rfl) (by kernel_rfl)) (by kernel_rfl) (by kernel_rfl) (by kernel_rfl) (Yw os _)) ?_
  intro W base args ds gs before hval0 hW hL hSh
  have hval:∀ (j:Nat) t v,Tryz.f6.params[j]? = some t→args[j]? = some v→Value.okWide Tryz.prog W .any base t v:=hval0
  have hW':=hW
  obtain ⟨p,q,hA0,hV,rfl,_,_⟩:=hW'
  have hA:DataW.TrodAll enc Tryz.prog W 0 (fun _=>true) true Tryz.f6.params.toList args.toList ds p:=hA0
  rw [Tryz.params6] at hA hval
  obtain ⟨v0,v1,d0,d1,p0,p1,hargs,rfl,rfl,h0,h1⟩:=trodAll_two hA
  subst hargs
  obtain ⟨c0,x0,rfl,r0,q0⟩:=S2 Tryz.underlying48 (hval 0 48 v0 rfl rfl) h0 Rc
  obtain ⟨x1,rfl,q1⟩:=Ja5 Tryz.underlying3 (hval 1 3 v1 rfl rfl) h1
  refine Calls.mono (Jck (Ah W) (Rs hL) r0 (Nm _ _)) fun e W' ⟨v,he,hv,hk⟩=>?_
  subst he;subst hv
  exact ⟨_,rfl,Ws hW Go.LM.BINZ.laid (by kernel_rfl) rfl (by kernel_rfl) Tryz.underlying4 rfl hk⟩
theorem binaryCuts_row_holds:Rows.BinaryCutsSaid:=
  OpenClaim.holds_of_wide 6 Tryz.f6 rfl rfl rfl rfl rfl rfl rfl ⟨rfl,rfl,rfl,rfl,rfl⟩ rfl rfl rfl rfl rfl (by kernel_rfl) Tryz.func6 (by kernel_rfl)
    (of_decide_eq_true (by kernel_rfl)) (by unfold Func.isWrapper;first | (rw [if_pos (by decide +kernel)];kernel_rfl) | (rw [if_neg (by decide +kernel)];exact ⟨rfl,rfl⟩))
    (fun os started H enc _=>binaryCuts_lifted os started H enc)
theorem binaryCuts_card_holds:Rows.BinaryCutsCardSaid:=
  Claim7.holds_tied_plain_at .later [] [.data, .data, .data, .listed, .data] true (true, "f050889bb5c5a1bff77a01ebd950b6e25656976d3b7847338b90518bacc2b2e9") false
    binaryCuts_row_holds (fun _ h=>by cases h) (by kernel_rfl) (fun _ h=>by cases h) binaryCuts_row_tie rfl ⟨rfl,rfl⟩ (by kernel_rfl) rfl
    (fun f fn hf hfn=>by
      obtain rfl:f=6:=Option.some.inj ((show Tryz.prog.funcNamed Rows.binaryCutsRow.func=some 6 by kernel_rfl).symm.trans hf) |>.symm
      obtain rfl:fn=Tryz.f6:=(Option.some.inj (Tryz.func6.symm.trans hfn)).symm
      exact ⟨by kernel_rfl,fun j t ht=>by
        have hj:t∈Tryz.f6.params:=Array.mem_of_getElem? ht
        exact Eq.mp (Bool.not_eq_true' _) (Array.all_eq_true_iff_forall_mem.1 (show (Tryz.f6.params.all fun t=>!Tryz.prog.wantsStandIn t)=true by kernel_rfl) t hj)⟩)
    (by kernel_rfl)
#print axioms binaryCuts_card_holds
end Go.Proofs.YtbblmeecfimnkaaGreatDoor
