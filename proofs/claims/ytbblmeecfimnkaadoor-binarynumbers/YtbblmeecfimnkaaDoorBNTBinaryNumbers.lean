/- BinaryNumbers: the row and its tied card. No condition. -/
import Derived.Test.YtbblmeecfimnkaaDoorBNO
import Derived.Test.YtbblmeecfimnkaaDoorBNQ8
import Derived.Test.YtbblmeecfimnkaaDoorBNA
import Derived.Test.YtbblmeecfimnkaaDoorCards
import Derived.Test.YtbblmeecfimnkaaDoorTie
import Derived.SevenTiedAt
import Derived.JoinedOf
namespace Go.Proofs.YtbblmeecfimnkaaDoor
open Go Go.LL Go.MD Go.LM Go.LM.BIN Go.MD.BIN Go.ChangeShapes Go.WideShapes Go.ChangeAt Go.RowKit
set_option maxRecDepth 100000 in
theorem binaryNumbers_lifted (os:Os) (started:os.Started) (H:Type) (enc:TypeId×Value→H) :
    ReturnsInHanded {} Tryd.checked os 3 .any (fun w args=>(Rows.binaryNumbersSpec.pre enc Tryd.prog Tryd.f3 Rows.binaryNumbersRow.domain false w args∧laidMet Tryd.prog laidL w)∧sizedMet enc Tryd.prog Tryd.f3 (OpenSpec.ofChange Rows.binaryNumbersSpec) false w args) (Rows.binaryNumbersSpec.post enc Tryd.prog Tryd.f3 false true false false):=by
  refine returnsInHanded_laid_shaped (C:=Tryd.checked) (X:=fun w _=>laidMet Tryd.prog laidL w) (fun _ _ _ hh h=>h.of_heap hh) Go.LM.BIN.own started (by kernel_rfl) Tryd.func3
    (ChangeSpec.witness_shaped (enc:=enc) (C:=Tryd.checked) (os:=os) (X:=fun w _=>laidMet Tryd.prog laidL w) false (laidWorld os) #[.int .i64 0,strv [],.int .i64 0] 8 rfl (World.shaped_of_RefB (by kernel_rfl) (by kernel_rfl)) (by kernel_rfl) (by kernel_rfl) (by kernel_rfl) (laid_met os _)) ?_
  intro W base args ds gs before hval0 hW hL hSh
  have hval:∀ (j:Nat) t v,Tryd.f3.params[j]? = some t→args[j]? = some v→Value.okWide Tryd.prog W .any base t v:=hval0
  have hW':=hW
  obtain ⟨p,q,hA0,hV,rfl,_,_⟩:=hW'
  have hA:DataW.TrodAll enc Tryd.prog W 0 (fun _=>true) true Tryd.f3.params.toList args.toList ds p:=hA0
  rw [Tryd.params3] at hA hval
  obtain ⟨v0,v1,v2,d0,d1,d2,p0,p1,p2,hargs,rfl,rfl,h0,h1,h2⟩:=trodAll_three hA
  subst hargs
  obtain ⟨x0,rfl,q0⟩:=top_int Tryd.underlying3 (hval 0 3 v0 rfl rfl) h0
  obtain ⟨x1,rfl,q1⟩:=top_strL Tryd.underlying9 (hval 1 9 v1 rfl rfl) h1
  obtain ⟨x2,rfl,q2⟩:=top_int Tryd.underlying3 (hval 2 3 v2 rfl rfl) h2
  refine Calls.mono (Z1h_c (hp_le W) (tab_of_laid hL)  (BinaryNumbers_eq _ _ _)) fun e W' ⟨v,he,hv,hk⟩=>?_
  subst he;subst hv
  exact ⟨_,rfl,law_post hW Go.LM.BIN.laid (by kernel_rfl) rfl (by kernel_rfl) Tryd.underlying4 rfl hk⟩
theorem binaryNumbers_row_holds:Rows.BinaryNumbersSaid:=
  OpenClaim.holds_of_wide 3 Tryd.f3 rfl rfl rfl rfl rfl rfl rfl ⟨rfl,rfl,rfl,rfl,rfl⟩ rfl rfl rfl rfl rfl (by kernel_rfl) Tryd.func3 (by kernel_rfl)
    (of_decide_eq_true (by kernel_rfl)) (by unfold Func.isWrapper;first | (rw [if_pos (by decide +kernel)];kernel_rfl) | (rw [if_neg (by decide +kernel)];exact ⟨rfl,rfl⟩))
    (fun os started H enc _=>binaryNumbers_lifted os started H enc)
theorem binaryNumbers_card_holds:Rows.BinaryNumbersCardSaid:=
  Claim7.holds_tied_plain_at .later [] [.data, .data, .data, .listed, .data] true (true, "e835cfcd26dac6d3279715a73cd3d91849515b1152ff759fbdcd59a04b6ca733") false
    binaryNumbers_row_holds (fun _ h=>by cases h) (by kernel_rfl) (fun _ h=>by cases h) binaryNumbers_row_tie rfl ⟨rfl,rfl⟩ (by kernel_rfl) rfl
    (fun f fn hf hfn=>by
      obtain rfl:f=3:=Option.some.inj ((show Tryd.prog.funcNamed Rows.binaryNumbersRow.func=some 3 by kernel_rfl).symm.trans hf) |>.symm
      obtain rfl:fn=Tryd.f3:=(Option.some.inj (Tryd.func3.symm.trans hfn)).symm
      exact ⟨by kernel_rfl,fun j t ht=>by
        have hj:t∈Tryd.f3.params:=Array.mem_of_getElem? ht
        exact Eq.mp (Bool.not_eq_true' _) (Array.all_eq_true_iff_forall_mem.1 (show (Tryd.f3.params.all fun t=>!Tryd.prog.wantsStandIn t)=true by kernel_rfl) t hj)⟩)
    (by kernel_rfl)
#print axioms binaryNumbers_card_holds
end Go.Proofs.YtbblmeecfimnkaaDoor
