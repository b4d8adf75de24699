/- LinesApart returns true whatever comes in. No condition. -/
import Derived.Test.YtkgaliichchanaaLN14
import Derived.Test.YtkgaliichchanaaLNo
import Derived.Test.YtkgaliichchanaaLLt
import Derived.Test.YtkgaliichchanaaRows
namespace Go.Proofs.Ytkgaliichchanaa
open Go Go.LL Go.ChangeShapes Go.WideShapes Go.ChangeAt Go.RowKit
open Go.Proofs (Try.prog)

theorem own : ownKnob Try.prog.godebug = none := by kernel_rfl
theorem laid : laidOutB Try.prog = true := by kernel_rfl

set_option maxRecDepth 100000 in
theorem lifted (os : Os) (started : os.Started) (H : Type) (enc : TypeId × Value → H) :
    ReturnsInHanded {} Try.checked os 6 .any (Rows.linesApartSpec.pre6 enc Try.prog Try.f6 Rows.linesApartRow.domain false) (Rows.linesApartSpec.post enc Try.prog Try.f6 false true false false) := by
  refine returnsInHanded_of_change (C := Try.checked) own started (by kernel_rfl) Try.func6
    (ChangeSpec.witness6 (enc := enc) (C := Try.checked) false ⟨#[], #[.slice none 0 0], []⟩ 8 (by kernel_rfl) (by kernel_rfl) (by kernel_rfl) (by kernel_rfl)) ?_
  intro W base args ds gs before hval0 hW hcnd _
  have hval : ∀ (j : Nat) t v, Try.f6.params[j]? = some t → args[j]? = some v → Value.okWide Try.prog W .any base t v := hval0
  have hW' := hW
  obtain ⟨p, q, hA0, hV, rfl, hfz, hnd⟩ := hW
  have hA : DataW.TrodAll enc Try.prog W 0 (fun _ => true) true Try.f6.params.toList args.toList ds p := hA0
  rw [Try.params6] at hA hval
  obtain ⟨v0, d0, hargs, rfl, h0⟩ := trodAll_one hA
  subst hargs
  obtain ⟨oo, co, ops, rfl, -, hr, -⟩ := open_ops (hval 0 22 v0 rfl rfl) h0
  refine Calls.mono (apart_c W oo co ops hr) fun e W' ⟨v, he, hv, hk⟩ => ?_
  subst he; subst hv
  exact ⟨_, rfl, law_post hW' laid (by kernel_rfl) rfl (by kernel_rfl) Try.underlying4 rfl hk⟩

theorem lines_apart_holds : Rows.LinesApartSaid :=
  OpenClaim.holds_of_wide 6 Try.f6 rfl rfl rfl rfl rfl rfl rfl ⟨rfl, rfl, rfl, rfl, rfl⟩ rfl rfl rfl rfl rfl (by kernel_rfl) Try.func6 (by kernel_rfl)
    (of_decide_eq_true (by kernel_rfl)) (by unfold Func.isWrapper; first | (rw [if_pos (by decide +kernel)]; kernel_rfl) | (rw [if_neg (by decide +kernel)]; exact ⟨rfl, rfl⟩))
    (fun os started H enc _ => lifted os started H enc)
end Go.Proofs.Ytkgaliichchanaa
