/- TraceSteps: the row and its tied card. No condition. -/
import Derived.Test.YtimaeihmnipfgaaDoorETO
import Derived.Test.YtimaeihmnipfgaaDoorETQTraceSteps4
import Derived.Test.YtimaeihmnipfgaaDoorPZ
import Derived.Test.YtimaeihmnipfgaaDoorCards
import Derived.Test.YtimaeihmnipfgaaDoorTie
import Derived.SevenTiedAt
import Derived.JoinedOf
namespace Go.Proofs.YtimaeihmnipfgaaDoor
open Go Go.LL Go.MD Go.LM Go.LM.ET Go.MD.ET Go.ChangeShapes Go.WideShapes Go.ChangeAt Go.RowKit

set_option maxRecDepth 100000 in
theorem traceSteps_lifted (os : Os) (started : os.Started) (H : Type) (enc : TypeId × Value → H) :
    ReturnsInHanded {} Tryd.checked os 10 .any (fun w args => (Rows.traceStepsSpec.pre enc Tryd.prog Tryd.f10 Rows.traceStepsRow.domain false w args ∧ laidMet Tryd.prog laidL w) ∧ sizedMet enc Tryd.prog Tryd.f10 (OpenSpec.ofChange Rows.traceStepsSpec) false w args) (Rows.traceStepsSpec.post enc Tryd.prog Tryd.f10 false true false false) := by
  refine returnsInHanded_of_change_and (C := Tryd.checked) (X := fun w _ => laidMet Tryd.prog laidL w) (fun _ _ _ hh h => h.of_heap hh) Go.LM.ET.own started (by kernel_rfl) Tryd.func10
    (ChangeSpec.witness_at (enc := enc) (C := Tryd.checked) (os := os) (X := fun w _ => laidMet Tryd.prog laidL w) false (laidWorld os) #[.slice none 0 0, .int .i64 0] 8 rfl (by kernel_rfl) (by kernel_rfl) (by kernel_rfl) (by kernel_rfl) (by kernel_rfl) (laid_met os _)) ?_
  intro W base args ds gs before hval0 hW _ _ hL _
  have hval : ∀ (j : Nat) t v, Tryd.f10.params[j]? = some t → args[j]? = some v → Value.okWide Tryd.prog W .any base t v := hval0
  have hW' := hW
  obtain ⟨p, q, hA0, hV, rfl, _, _⟩ := hW
  have hA : DataW.TrodAll enc Tryd.prog W 0 (fun _ => true) true Tryd.f10.params.toList args.toList ds p := hA0
  rw [Tryd.params10] at hA hval
  obtain ⟨v0, v1, d0, d1, p0, p1, hargs, rfl, rfl, h0, h1⟩ := trodAll_two hA
  subst hargs
  obtain ⟨oa0, cap0, x0, rfl, hc0, hr0, q0⟩ := top_slice Tryd.underlying39 (hval 0 39 v0 rfl rfl) h0 (op_slice (s := 5) Tryd.underlying39 (by kernel_rfl) rfl (by decide) op_event)
  obtain ⟨x1, rfl, q1⟩ := top_int Tryd.underlying3 (hval 1 3 v1 rfl rfl) h1
  refine Calls.mono (leadlinelaw17_TraceSteps_c (hp_le W) (tab_of_laid hL) hc0 hr0 (TraceSteps_eq _ _)) fun e W' ⟨v, he, hv, hk⟩ => ?_
  subst he; subst hv
  exact ⟨_, rfl, law_post hW' Go.LM.ET.laid (by kernel_rfl) rfl (by kernel_rfl) Tryd.underlying4 rfl hk⟩

theorem traceSteps_row_holds : Rows.TraceStepsSaid :=
  OpenClaim.holds_of_wide 10 Tryd.f10 rfl rfl rfl rfl rfl rfl rfl ⟨rfl, rfl, rfl, rfl, rfl⟩ rfl rfl rfl rfl rfl (by kernel_rfl) Tryd.func10 (by kernel_rfl)
    (of_decide_eq_true (by kernel_rfl)) (by unfold Func.isWrapper; first | (rw [if_pos (by decide +kernel)]; kernel_rfl) | (rw [if_neg (by decide +kernel)]; exact ⟨rfl, rfl⟩))
    (fun os started H enc _ => traceSteps_lifted os started H enc)
theorem traceSteps_card_holds : Rows.TraceStepsCardSaid :=
  Claim7.holds_tied_plain_at .later [] [.data, .data, .data] true (true, "3bc9197959a3d3e5487da680d864503abf948f33ef18deecf59d4afa37d77b30") false
    traceSteps_row_holds (fun _ h => by cases h) (by kernel_rfl) (fun _ h => by cases h) traceSteps_row_tie rfl ⟨rfl, rfl⟩ (by kernel_rfl) rfl
    (fun f fn hf hfn => by
      obtain rfl : f = 10 := Option.some.inj ((show Tryd.prog.funcNamed Rows.traceStepsRow.func = some 10 by kernel_rfl).symm.trans hf) |>.symm
      obtain rfl : fn = Tryd.f10 := (Option.some.inj (Tryd.func10.symm.trans hfn)).symm
      exact ⟨by kernel_rfl, fun j t ht => by
        have hj : t ∈ Tryd.f10.params := Array.mem_of_getElem? ht
        exact Eq.mp (Bool.not_eq_true' _) (Array.all_eq_true_iff_forall_mem.1 (show (Tryd.f10.params.all fun t => !Tryd.prog.wantsStandIn t) = true by kernel_rfl) t hj)⟩)
    (by kernel_rfl)
#print axioms traceSteps_card_holds
end Go.Proofs.YtimaeihmnipfgaaDoor
