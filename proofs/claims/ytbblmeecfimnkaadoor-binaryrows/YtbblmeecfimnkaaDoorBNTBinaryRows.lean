/- BinaryRows: the row and its tied card. No condition. -/
import Derived.Test.YtbblmeecfimnkaaDoorBNO
import Derived.Test.YtbblmeecfimnkaaDoorBNQ8
import Derived.Test.YtbblmeecfimnkaaDoorBNR
import Derived.Test.YtbblmeecfimnkaaDoorCards
import Derived.Test.YtbblmeecfimnkaaDoorTie
import Derived.SevenTiedAt
import Derived.JoinedOf
namespace Go.Proofs.YtbblmeecfimnkaaDoor
open Go Go.LL Go.MD Go.LM Go.LM.BIN Go.MD.BIN Go.ChangeShapes Go.WideShapes Go.ChangeAt Go.RowKit
set_option maxRecDepth 100000 in
theorem binaryRows_lifted (os:Os) (started:os.Started) (H:Type) (enc:TypeId×Value→H) :
    ReturnsInHanded {} Tryd.checked os 4 .any (fun w args=>(Rows.binaryRowsSpec.pre enc Tryd.prog Tryd.f4 Rows.binaryRowsRow.domain false w args∧laidMet Tryd.prog laidL w)∧sizedMet enc Tryd.prog Tryd.f4 (OpenSpec.ofChange Rows.binaryRowsSpec) false w args) (Rows.binaryRowsSpec.post enc Tryd.prog Tryd.f4 false true false false):=by
  refine returnsInHanded_laid_shaped (C:=Tryd.checked) (X:=fun w _=>laidMet Tryd.prog laidL w) (fun _ _ _ hh h=>h.of_heap hh) Go.LM.BIN.own started (by kernel_rfl) Tryd.func4
    (ChangeSpec.witness_shaped (enc:=enc) (C:=Tryd.checked) (os:=os) (X:=fun w _=>laidMet Tryd.prog laidL w) false (laidWorld os) #[.slice none 0 0] 8 rfl (World.shaped_of_RefB (by kernel_rfl) (by kernel_rfl)) (by kernel_rfl) (by kernel_rfl) (by kernel_rfl) (laid_met os _)) ?_
  intro W base args ds gs before hval0 hW hL hSh
  have hval:∀ (j:Nat) t v,Tryd.f4.params[j]? = some t→args[j]? = some v→Value.okWide Tryd.prog W .any base t v:=hval0
  have hW':=hW
  obtain ⟨p,q,hA0,hV,rfl,_,_⟩:=hW'
  have hA:DataW.TrodAll enc Tryd.prog W 0 (fun _=>true) true Tryd.f4.params.toList args.toList ds p:=hA0
  rw [Tryd.params4] at hA hval
  obtain ⟨v0,d0,hargs,rfl,h0⟩:=trodAll_one hA
  subst hargs
  obtain ⟨oa0,cap0,x0,rfl,hc0,hr0,q0⟩:=top_slice Tryd.underlying28 (hval 0 28 v0 rfl rfl) h0 (op_slice (s:=1) Tryd.underlying28 (by kernel_rfl) rfl (by decide) (op_int Tryd.underlying3))
  refine Calls.mono (Z1h_c (hp_le W) (tab_of_laid hL) hc0 hr0 (BinaryRows_eq _)) fun e W' ⟨v,he,hv,hk⟩=>?_
  subst he;subst hv
  exact ⟨_,rfl,law_post hW Go.LM.BIN.laid (by kernel_rfl) rfl (by kernel_rfl) Tryd.underlying4 rfl hk⟩
theorem binaryRows_row_holds:Rows.BinaryRowsSaid:=
  OpenClaim.holds_of_wide 4 Tryd.f4 rfl rfl rfl rfl rfl rfl rfl ⟨rfl,rfl,rfl,rfl,rfl⟩ rfl rfl rfl rfl rfl (by kernel_rfl) Tryd.func4 (by kernel_rfl)
    (of_decide_eq_true (by kernel_rfl)) (by unfold Func.isWrapper;first | (rw [if_pos (by decide +kernel)];kernel_rfl) | (rw [if_neg (by decide +kernel)];exact ⟨rfl,rfl⟩))
    (fun os started H enc _=>binaryRows_lifted os started H enc)
theorem binaryRows_card_holds:Rows.BinaryRowsCardSaid:=
  Claim7.holds_tied_plain_at .later [] [.data, .data, .data, .listed, .data] true (true, "e835cfcd26dac6d3279715a73cd3d91849515b1152ff759fbdcd59a04b6ca733") false
    binaryRows_row_holds (fun _ h=>by cases h) (by kernel_rfl) (fun _ h=>by cases h) binaryRows_row_tie rfl ⟨rfl,rfl⟩ (by kernel_rfl) rfl
    (fun f fn hf hfn=>by
      obtain rfl:f=4:=Option.some.inj ((show Tryd.prog.funcNamed Rows.binaryRowsRow.func=some 4 by kernel_rfl).symm.trans hf) |>.symm
      obtain rfl:fn=Tryd.f4:=(Option.some.inj (Tryd.func4.symm.trans hfn)).symm
      exact ⟨by kernel_rfl,fun j t ht=>by
        have hj:t∈Tryd.f4.params:=Array.mem_of_getElem? ht
        exact Eq.mp (Bool.not_eq_true' _) (Array.all_eq_true_iff_forall_mem.1 (show (Tryd.f4.params.all fun t=>!Tryd.prog.wantsStandIn t)=true by kernel_rfl) t hj)⟩)
    (by kernel_rfl)
#print axioms binaryRows_card_holds
end Go.Proofs.YtbblmeecfimnkaaDoor
