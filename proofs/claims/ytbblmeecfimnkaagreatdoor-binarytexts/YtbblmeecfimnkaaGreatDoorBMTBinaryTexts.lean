/- BinaryTexts: the row and its tied card. No condition. -/
import Derived.Test.YtbblmeecfimnkaaGreatDoorBMO
import Derived.Test.YtbblmeecfimnkaaGreatDoorBMQ9
import Derived.Test.YtbblmeecfimnkaaGreatDoorBMZ
import Derived.Test.YtbblmeecfimnkaaGreatDoorCards
import Derived.Test.YtbblmeecfimnkaaGreatDoorTie
import Derived.SevenTiedAt
import Derived.JoinedOf
namespace Go.Proofs.YtbblmeecfimnkaaGreatDoor
open Go Go.LL Go.MD Go.LM Go.LM.BINZ Go.MD.BINZ Go.ChangeShapes Go.WideShapes Go.ChangeAt Go.RowKit
set_option maxRecDepth 100000 in
theorem binaryTexts_lifted (os:Os) (started:os.Started) (H:Type) (enc:TypeId×Value→H) :
    ReturnsInHanded {} Tryz.checked os 3 .any (fun w args=>(Rows.binaryTextsSpec.pre enc Tryz.prog Tryz.f3 Rows.binaryTextsRow.domain false w args∧laidMet Tryz.prog laidL w)∧sizedMet enc Tryz.prog Tryz.f3 (OpenSpec.ofChange Rows.binaryTextsSpec) false w args) (Rows.binaryTextsSpec.post enc Tryz.prog Tryz.f3 false true false false):=by
  refine returnsInHanded_laid_shaped (C:=Tryz.checked) (X:=fun w _=>laidMet Tryz.prog laidL w) (fun _ _ _ hh h=>h.of_heap hh) Go.LM.BINZ.own started (by kernel_rfl) Tryz.func3
    (ChangeSpec.witness_shaped (enc:=enc) (C:=Tryz.checked) (os:=os) (X:=fun w _=>laidMet Tryz.prog laidL w) false (laidWorld os) #[.agg #[.slice none 0 0,.int .i64 0,.slice none 0 0,.int .i64 0,.slice none 0 0,.int .i64 0,.int .i64 0,.slice none 0 0,.slice none 0 0],strv []] 8 rfl (World.shaped_of_RefB (by kernel_rfl) (by kernel_rfl)) (by kernel_rfl) (by kernel_rfl) (by kernel_rfl) (laid_met os _)) ?_
  intro W base args ds gs before hval0 hW hL hSh
  have hval:∀ (j:Nat) t v,Tryz.f3.params[j]? = some t→args[j]? = some v→Value.okWide Tryz.prog W .any base t v:=hval0
  have hW':=hW
  obtain ⟨p,q,hA0,hV,rfl,_,_⟩:=hW'
  have hA:DataW.TrodAll enc Tryz.prog W 0 (fun _=>true) true Tryz.f3.params.toList args.toList ds p:=hA0
  rw [Tryz.params3] at hA hval
  obtain ⟨v0,v1,d0,d1,p0,p1,hargs,rfl,rfl,h0,h1⟩:=trodAll_two hA
  subst hargs
  obtain ⟨c0,x0,rfl,r0,q0⟩:=top_struct Tryz.underlying29 (hval 0 29 v0 rfl rfl) h0 op_api_Unit
  obtain ⟨x1,rfl,q1⟩:=top_strL Tryz.underlying9 (hval 1 9 v1 rfl rfl) h1
  refine Calls.mono (Z1q_c (hp_le W) (tab_of_laid hL) r0 (BinaryTexts_eq _ _)) fun e W' ⟨v,he,hv,hk⟩=>?_
  subst he;subst hv
  exact ⟨_,rfl,law_post hW Go.LM.BINZ.laid (by kernel_rfl) rfl (by kernel_rfl) Tryz.underlying4 rfl hk⟩
theorem binaryTexts_row_holds:Rows.BinaryTextsSaid:=
  OpenClaim.holds_of_wide 3 Tryz.f3 rfl rfl rfl rfl rfl rfl rfl ⟨rfl,rfl,rfl,rfl,rfl⟩ rfl rfl rfl rfl rfl (by kernel_rfl) Tryz.func3 (by kernel_rfl)
    (of_decide_eq_true (by kernel_rfl)) (by unfold Func.isWrapper;first | (rw [if_pos (by decide +kernel)];kernel_rfl) | (rw [if_neg (by decide +kernel)];exact ⟨rfl,rfl⟩))
    (fun os started H enc _=>binaryTexts_lifted os started H enc)
theorem binaryTexts_card_holds:Rows.BinaryTextsCardSaid:=
  Claim7.holds_tied_plain_at .later [] [.data, .data, .data, .listed, .data] true (true, "f050889bb5c5a1bff77a01ebd950b6e25656976d3b7847338b90518bacc2b2e9") false
    binaryTexts_row_holds (fun _ h=>by cases h) (by kernel_rfl) (fun _ h=>by cases h) binaryTexts_row_tie rfl ⟨rfl,rfl⟩ (by kernel_rfl) rfl
    (fun f fn hf hfn=>by
      obtain rfl:f=3:=Option.some.inj ((show Tryz.prog.funcNamed Rows.binaryTextsRow.func=some 3 by kernel_rfl).symm.trans hf) |>.symm
      obtain rfl:fn=Tryz.f3:=(Option.some.inj (Tryz.func3.symm.trans hfn)).symm
      exact ⟨by kernel_rfl,fun j t ht=>by
        have hj:t∈Tryz.f3.params:=Array.mem_of_getElem? ht
        exact Eq.mp (Bool.not_eq_true' _) (Array.all_eq_true_iff_forall_mem.1 (show (Tryz.f3.params.all fun t=>!Tryz.prog.wantsStandIn t)=true by kernel_rfl) t hj)⟩)
    (by kernel_rfl)
#print axioms binaryTexts_card_holds
end Go.Proofs.YtbblmeecfimnkaaGreatDoor
