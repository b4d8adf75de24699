/- CodeNames: the row and its tied card. No condition. -/
import Derived.Test.YtfpdddablkocoaaDoorCDO
import Derived.Test.YtfpdddablkocoaaDoorCDQCodeNames3
import Derived.Test.YtfpdddablkocoaaDoorCN
import Derived.Test.YtfpdddablkocoaaDoorCards
import Derived.Test.YtfpdddablkocoaaDoorTie
import Derived.SevenTiedAt
import Derived.JoinedOf
namespace Go.Proofs.YtfpdddablkocoaaDoor
open Go Go.LL Go.MD Go.LM Go.LM.CODE Go.MD.CODE Go.ChangeShapes Go.WideShapes Go.ChangeAt Go.RowKit

set_option maxRecDepth 100000 in
theorem codeNames_lifted (os : Os) (started : os.Started) (H : Type) (enc : TypeId × Value → H) :
    ReturnsInHanded {} Tryd.checked os 7 .any (fun w args => (Rows.codeNamesSpec.pre enc Tryd.prog Tryd.f7 Rows.codeNamesRow.domain false w args ∧ laidMet Tryd.prog laidL w) ∧ sizedMet enc Tryd.prog Tryd.f7 (OpenSpec.ofChange Rows.codeNamesSpec) false w args) (Rows.codeNamesSpec.post enc Tryd.prog Tryd.f7 false true false false) := by
  refine returnsInHanded_laid_shaped (C := Tryd.checked) (X := fun w _ => laidMet Tryd.prog laidL w) (fun _ _ _ hh h => h.of_heap hh) Go.LM.CODE.own started (by kernel_rfl) Tryd.func7
    (ChangeSpec.witness_at (enc := enc) (C := Tryd.checked) (os := os) (X := fun w _ => laidMet Tryd.prog laidL w) false (laidWorld os) #[.slice none 0 0, .agg #[.int .i64 0, .int .i64 0, .int .i64 0]] 8 rfl (by kernel_rfl) (by kernel_rfl) (by kernel_rfl) (by kernel_rfl) (by kernel_rfl) (laid_met os _)) ?_
  intro W base args ds gs before hval0 hW hL hSh
  have hval : ∀ (j : Nat) t v, Tryd.f7.params[j]? = some t → args[j]? = some v → Value.okWide Tryd.prog W .any base t v := hval0
  have hW' := hW
  obtain ⟨p, q, hA0, hV, rfl, _, _⟩ := hW'
  have hA : DataW.TrodAll enc Tryd.prog W 0 (fun _ => true) true Tryd.f7.params.toList args.toList ds p := hA0
  rw [Tryd.params7] at hA hval
  obtain ⟨v0, v1, d0, d1, p0, p1, hargs, rfl, rfl, h0, h1⟩ := trodAll_two hA
  subst hargs
  obtain ⟨oa0, cap0, x0, rfl, hc0, hr0, q0⟩ := top_slice Tryd.underlying22 (hval 0 22 v0 rfl rfl) h0 (op_slice (s := 4) Tryd.underlying22 (by kernel_rfl) rfl (by decide) op_node)
  obtain ⟨c1, x1, rfl, r1, q1⟩ := top_array Tryd.underlying48 (hval 1 48 v1 rfl rfl) h1 (op_array (n := 3) (s := 1) Tryd.underlying48 (by kernel_rfl) (by kernel_rfl) (op_int Tryd.underlying3))
  obtain ⟨y1a, y1b, y1c, q1, e1⟩ := three_ints r1 q1
  subst e1
  refine Calls.mono (leadlinelaw08_CodeNames_c (hp_le W) (tab_of_shape hSh) hc0 hr0 (CodeNames_eq _ _ _ _ q1)) fun e W' ⟨v, he, hv, hk⟩ => ?_
  subst he; subst hv
  exact ⟨_, rfl, law_post hW Go.LM.CODE.laid (by kernel_rfl) rfl (by kernel_rfl) Tryd.underlying4 rfl hk⟩

theorem codeNames_row_holds : Rows.CodeNamesSaid :=
  OpenClaim.holds_of_wide 7 Tryd.f7 rfl rfl rfl rfl rfl rfl rfl ⟨rfl, rfl, rfl, rfl, rfl⟩ rfl rfl rfl rfl rfl (by kernel_rfl) Tryd.func7 (by kernel_rfl)
    (of_decide_eq_true (by kernel_rfl)) (by unfold Func.isWrapper; first | (rw [if_pos (by decide +kernel)]; kernel_rfl) | (rw [if_neg (by decide +kernel)]; exact ⟨rfl, rfl⟩))
    (fun os started H enc _ => codeNames_lifted os started H enc)
theorem codeNames_card_holds : Rows.CodeNamesCardSaid :=
  Claim7.holds_tied_plain_at .later [] [.data, .pinned] true (true, "918a64bd7c0699432789580a7d772d285291da6056c4c0509c4adc5531699525") false
    codeNames_row_holds (fun _ h => by cases h) (by kernel_rfl) (fun _ h => by cases h) codeNames_row_tie rfl ⟨rfl, rfl⟩ (by kernel_rfl) rfl
    (fun f fn hf hfn => by
      obtain rfl : f = 7 := Option.some.inj ((show Tryd.prog.funcNamed Rows.codeNamesRow.func = some 7 by kernel_rfl).symm.trans hf) |>.symm
      obtain rfl : fn = Tryd.f7 := (Option.some.inj (Tryd.func7.symm.trans hfn)).symm
      exact ⟨by kernel_rfl, fun j t ht => by
        have hj : t ∈ Tryd.f7.params := Array.mem_of_getElem? ht
        exact Eq.mp (Bool.not_eq_true' _) (Array.all_eq_true_iff_forall_mem.1 (show (Tryd.f7.params.all fun t => !Tryd.prog.wantsStandIn t) = true by kernel_rfl) t hj)⟩)
    (by kernel_rfl)
#print axioms codeNames_card_holds
end Go.Proofs.YtfpdddablkocoaaDoor
