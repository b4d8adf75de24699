/- LinesDoes returns true whatever comes in. No condition. -/
import Derived.Test.YtkgaliichchanaaLS9
import Derived.Test.YtkgaliichchanaaLSo
import Derived.Test.YtkgaliichchanaaLLt
import Derived.Test.YtkgaliichchanaaRows
namespace Go.Proofs.Ytkgaliichchanaa
open Go Go.LL Go.ChangeShapes Go.WideShapes Go.ChangeAt Go.RowKit
open Go.Proofs (Try.prog)

theorem own : ownKnob Try.prog.godebug = none := by kernel_rfl
theorem laid : laidOutB Try.prog = true := by kernel_rfl

set_option maxRecDepth 100000 in
theorem lifted (os : Os) (started : os.Started) (H : Type) (enc : TypeId × Value → H) :
    ReturnsInHanded {} Try.checked os 7 .any (Rows.linesDoesSpec.pre6 enc Try.prog Try.f7 Rows.linesDoesRow.domain false) (Rows.linesDoesSpec.post enc Try.prog Try.f7 false true false false) := by
  refine returnsInHanded_of_change (C := Try.checked) own started (by kernel_rfl) Try.func7
    (ChangeSpec.witness6 (enc := enc) (C := Try.checked) false ⟨#[], #[.agg #[.slice none 0 0, .int .i64 0, .slice none 0 0], .slice none 0 0], []⟩ 8 (by kernel_rfl) (by kernel_rfl) (by kernel_rfl) (by kernel_rfl)) ?_
  intro W base args ds gs before hval0 hW hcnd _
  have hval : ∀ (j : Nat) t v, Try.f7.params[j]? = some t → args[j]? = some v → Value.okWide Try.prog W .any base t v := hval0
  have hW' := hW
  obtain ⟨p, q, hA0, hV, rfl, hfz, hnd⟩ := hW
  have hA : DataW.TrodAll enc Try.prog W 0 (fun _ => true) true Try.f7.params.toList args.toList ds p := hA0
  rw [Try.params7] at hA hval
  obtain ⟨v0, v1, d0, d1, p0, p1, hargs, rfl, rfl, h0, h1⟩ := trodAll_two hA
  subst hargs
  obtain ⟨so, sc, sof, st, sf, sfc, sfi, rfl, a1, a2, b1, b2⟩ := open_set (hval 0 46 v0 rfl rfl) h0
  obtain ⟨oo, co, ops, rfl, -, hr, hops⟩ := open_ops (hval 1 22 v1 rfl rfl) h1
  refine Calls.mono (Go.LM.LINES.does_c W so sf oo sc sfc co sof sfi st ops a2 a1 b2 b1 hr hops) fun e W' ⟨v, he, hv, hk⟩ => ?_
  subst he; subst hv
  exact ⟨_, rfl, law_post hW' laid (by kernel_rfl) rfl (by kernel_rfl) Try.underlying4 rfl hk⟩

theorem lines_does_holds : Rows.LinesDoesSaid :=
  OpenClaim.holds_of_wide 7 Try.f7 rfl rfl rfl rfl rfl rfl rfl ⟨rfl, rfl, rfl, rfl, rfl⟩ rfl rfl rfl rfl rfl (by kernel_rfl) Try.func7 (by kernel_rfl)
    (of_decide_eq_true (by kernel_rfl)) (by unfold Func.isWrapper; first | (rw [if_pos (by decide +kernel)]; kernel_rfl) | (rw [if_neg (by decide +kernel)]; exact ⟨rfl, rfl⟩))
    (fun os started H enc _ => lifted os started H enc)
end Go.Proofs.Ytkgaliichchanaa
