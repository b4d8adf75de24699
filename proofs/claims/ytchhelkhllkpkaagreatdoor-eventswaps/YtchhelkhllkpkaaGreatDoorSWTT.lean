/- EventSwaps: the row and its tied card. No condition. -/
import Derived.Test.YtchhelkhllkpkaaGreatDoorSWTO
import Derived.Test.YtchhelkhllkpkaaGreatDoorSYK
import Derived.Test.YtchhelkhllkpkaaGreatDoorCards
import Derived.Test.YtchhelkhllkpkaaGreatDoorTie
import Derived.SevenTiedAt
import Derived.JoinedOf
namespace Go.Proofs.YtchhelkhllkpkaaGreatDoor
open Go Go.LL Go.MD Go.LM Go.LM.SWAPS Go.MD.SWAPS Go.ChangeShapes Go.WideShapes Go.ChangeAt Go.RowKit
set_option maxRecDepth 100000 in
theorem eventSwaps_lifted (os:Os) (started:os.Started) (H:Type) (enc:TypeId×Value→H) :
    ReturnsInHanded {} Tryz.checked os 3 .any (fun w args=>(Rows.eventSwapsSpec.pre enc Tryz.prog Tryz.f3 Rows.eventSwapsRow.domain false w args∧laidMet Tryz.prog Ta w)∧sizedMet enc Tryz.prog Tryz.f3 (OpenSpec.ofChange Rows.eventSwapsSpec) false w args) (Rows.eventSwapsSpec.post enc Tryz.prog Tryz.f3 false true false false):=by
  refine Hm (C:=Tryz.checked) (X:=fun w _=>laidMet Tryz.prog Ta w) (fun _ _ _ hh h=>h.of_heap hh) Go.LM.SWAPS.own started (by kernel_rfl) Tryz.func3
    (ChangeSpec.witness_shaped (enc:=enc) (C:=Tryz.checked) (os:=os) (X:=fun w _=>laidMet Tryz.prog Ta w) false (Sx os) #[.agg #[.slice none 0 0,.slice none 0 0,.slice none 0 0,.slice none 0 0,.slice none 0 0,.slice none 0 0],.slice none 0 0,.agg #[.int .i64 0,.int .i64 0]] 8 rfl (World.shaped_of_RefB (by kernel_rfl) (by kernel_rfl)) (by kernel_rfl) (by kernel_rfl) (by kernel_rfl) (Jda os _)) ?_
  intro W base args ds gs before hval0 hW hL _
  have hval:∀ (j:Nat) t v,Tryz.f3.params[j]? = some t→args[j]? = some v→Value.okWide Tryz.prog W .any base t v:=hval0
  have hW':=hW
  obtain ⟨p,q,hA0,hV,rfl,_,_⟩:=hW'
  have hA:DataW.TrodAll enc Tryz.prog W 0 (fun _=>true) true Tryz.f3.params.toList args.toList ds p:=hA0
  rw [Tryz.params3] at hA hval
  obtain ⟨v0,v1,v2,d0,d1,d2,p0,p1,p2,hargs,rfl,rfl,h0,h1,h2⟩:=trodAll_three hA
  subst hargs
  obtain ⟨c0,x0,rfl,r0,q0⟩:=Yt Tryz.underlying27 (hval 0 27 v0 rfl rfl) h0 V9
  obtain ⟨oa1,cap1,x1,rfl,hc1,hr1,q1⟩:=Jb6 Tryz.underlying28 (hval 1 28 v1 rfl rfl) h1 (Dn (s:=1) Tryz.underlying28 (by kernel_rfl) rfl (by decide) (Fv Tryz.underlying3))
  obtain ⟨c2,x2,rfl,r2,q2⟩:=JbF Tryz.underlying29 (hval 2 29 v2 rfl rfl) h2 (Jcc (n:=2) (s:=1) Tryz.underlying29 (by kernel_rfl) (by kernel_rfl) (Fv Tryz.underlying3))
  obtain ⟨y2a,y2b,e2⟩:=JcW r2
  subst e2
  refine Calls.mono (Jhl (Ag W) (Vq hL) r0 (Enc.len r0) hc1 hr1 y2a y2b) fun e W' ⟨v,he,hv,hk⟩=>?_
  subst he;subst hv
  exact ⟨_,rfl,JcQ hW Go.LM.SWAPS.laid (by kernel_rfl) rfl (by kernel_rfl) Tryz.underlying4 rfl hk⟩
theorem eventSwaps_row_holds:Rows.EventSwapsSaid:=
  OpenClaim.holds_of_wide 3 Tryz.f3 rfl rfl rfl rfl rfl rfl rfl ⟨rfl,rfl,rfl,rfl,rfl⟩ rfl rfl rfl rfl rfl (by kernel_rfl) Tryz.func3 (by kernel_rfl)
    (of_decide_eq_true (by kernel_rfl)) (by unfold Func.isWrapper;first | (rw [if_pos (by decide +kernel)];kernel_rfl) | (rw [if_neg (by decide +kernel)];exact ⟨rfl,rfl⟩))
    (fun os started H enc _=>eventSwaps_lifted os started H enc)
theorem eventSwaps_card_holds:Rows.EventSwapsCardSaid:=
  Claim7.holds_tied_plain_at .later [] [.data, .data, .data] true (true, "3f64a41a13970b61bafed8944193ae8ef60a90584d8bab9feb5007f968bd928a") false
    eventSwaps_row_holds (fun _ h=>by cases h) (by kernel_rfl) (fun _ h=>by cases h) eventSwaps_row_tie rfl ⟨rfl,rfl⟩ (by kernel_rfl) rfl
    (fun f fn hf hfn=>by
      obtain rfl:f=3:=Option.some.inj ((show Tryz.prog.funcNamed Rows.eventSwapsRow.func=some 3 by kernel_rfl).symm.trans hf) |>.symm
      obtain rfl:fn=Tryz.f3:=(Option.some.inj (Tryz.func3.symm.trans hfn)).symm
      exact ⟨by kernel_rfl,fun j t ht=>by
        have hj:t∈Tryz.f3.params:=Array.mem_of_getElem? ht
        exact Eq.mp (Bool.not_eq_true' _) (Array.all_eq_true_iff_forall_mem.1 (show (Tryz.f3.params.all fun t=>!Tryz.prog.wantsStandIn t)=true by kernel_rfl) t hj)⟩)
    (by kernel_rfl)
#print axioms eventSwaps_card_holds
end Go.Proofs.YtchhelkhllkpkaaGreatDoor
