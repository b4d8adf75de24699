/- TraceTells: the row and its tied card. No condition. -/
import Derived.Test.YtimaeihmnipfgaaDoorETO
import Derived.Test.YtimaeihmnipfgaaDoorETQTraceTells5
import Derived.Test.YtimaeihmnipfgaaDoorPZ
import Derived.Test.YtimaeihmnipfgaaDoorCards
import Derived.Test.YtimaeihmnipfgaaDoorTie
import Derived.SevenTiedAt
import Derived.JoinedOf
namespace Go.Proofs.YtimaeihmnipfgaaDoor
open Go Go.LL Go.MD Go.LM Go.LM.ET Go.MD.ET Go.ChangeShapes Go.WideShapes Go.ChangeAt Go.RowKit

set_option maxRecDepth 100000 in
theorem traceTells_lifted (os : Os) (started : os.Started) (H : Type) (enc : TypeId × Value → H) :
    ReturnsInHanded {} Tryd.checked os 7 .any (fun w args => (Rows.traceTellsSpec.pre enc Tryd.prog Tryd.f7 Rows.traceTellsRow.domain false w args ∧ laidMet Tryd.prog laidL w) ∧ sizedMet enc Tryd.prog Tryd.f7 (OpenSpec.ofChange Rows.traceTellsSpec) false w args) (Rows.traceTellsSpec.post enc Tryd.prog Tryd.f7 false true false false) := by
  refine returnsInHanded_of_change_and (C := Tryd.checked) (X := fun w _ => laidMet Tryd.prog laidL w) (fun _ _ _ hh h => h.of_heap hh) Go.LM.ET.own started (by kernel_rfl) Tryd.func7
    (ChangeSpec.witness_at (enc := enc) (C := Tryd.checked) (os := os) (X := fun w _ => laidMet Tryd.prog laidL w) false (laidWorld os) #[.slice none 0 0, .slice none 0 0, .agg #[.int .i64 0, .int .i64 0]] 8 rfl (by kernel_rfl) (by kernel_rfl) (by kernel_rfl) (by kernel_rfl) (by kernel_rfl) (laid_met os _)) ?_
  intro W base args ds gs before hval0 hW _ _ hL _
  have hval : ∀ (j : Nat) t v, Tryd.f7.params[j]? = some t → args[j]? = some v → Value.okWide Tryd.prog W .any base t v := hval0
  have hW' := hW
  obtain ⟨p, q, hA0, hV, rfl, _, _⟩ := hW
  have hA : DataW.TrodAll enc Tryd.prog W 0 (fun _ => true) true Tryd.f7.params.toList args.toList ds p := hA0
  rw [Tryd.params7] at hA hval
  obtain ⟨v0, v1, v2, d0, d1, d2, p0, p1, p2, hargs, rfl, rfl, h0, h1, h2⟩ := trodAll_three hA
  subst hargs
  obtain ⟨oa0, cap0, x0, rfl, hc0, hr0, q0⟩ := top_slice Tryd.underlying39 (hval 0 39 v0 rfl rfl) h0 (op_slice (s := 5) Tryd.underlying39 (by kernel_rfl) rfl (by decide) op_event)
  obtain ⟨oa1, cap1, x1, rfl, hc1, hr1, q1⟩ := top_slice Tryd.underlying39 (hval 1 39 v1 rfl rfl) h1 (op_slice (s := 5) Tryd.underlying39 (by kernel_rfl) rfl (by decide) op_event)
  obtain ⟨c2, x2, rfl, r2, q2⟩ := top_array Tryd.underlying40 (hval 2 40 v2 rfl rfl) h2 (op_array (n := 2) (s := 1) Tryd.underlying40 (by kernel_rfl) (by kernel_rfl) (op_int Tryd.underlying3))
  obtain ⟨y2a, y2b, e2⟩ := two_ints r2
  subst e2
  refine Calls.mono (leadlinelaw17_TraceTells_c (hp_le W) (tab_of_laid hL) hc0 hr0 hc1 hr1 (TraceTells_eq _ q0 _ _ _)) fun e W' ⟨v, he, hv, hk⟩ => ?_
  subst he; subst hv
  exact ⟨_, rfl, law_post hW' Go.LM.ET.laid (by kernel_rfl) rfl (by kernel_rfl) Tryd.underlying4 rfl hk⟩

theorem traceTells_row_holds : Rows.TraceTellsSaid :=
  OpenClaim.holds_of_wide 7 Tryd.f7 rfl rfl rfl rfl rfl rfl rfl ⟨rfl, rfl, rfl, rfl, rfl⟩ rfl rfl rfl rfl rfl (by kernel_rfl) Tryd.func7 (by kernel_rfl)
    (of_decide_eq_true (by kernel_rfl)) (by unfold Func.isWrapper; first | (rw [if_pos (by decide +kernel)]; kernel_rfl) | (rw [if_neg (by decide +kernel)]; exact ⟨rfl, rfl⟩))
    (fun os started H enc _ => traceTells_lifted os started H enc)
theorem traceTells_card_holds : Rows.TraceTellsCardSaid :=
  Claim7.holds_tied_plain_at .later [] [.data, .data, .data] true (true, "3bc9197959a3d3e5487da680d864503abf948f33ef18deecf59d4afa37d77b30") false
    traceTells_row_holds (fun _ h => by cases h) (by kernel_rfl) (fun _ h => by cases h) traceTells_row_tie rfl ⟨rfl, rfl⟩ (by kernel_rfl) rfl
    (fun f fn hf hfn => by
      obtain rfl : f = 7 := Option.some.inj ((show Tryd.prog.funcNamed Rows.traceTellsRow.func = some 7 by kernel_rfl).symm.trans hf) |>.symm
      obtain rfl : fn = Tryd.f7 := (Option.some.inj (Tryd.func7.symm.trans hfn)).symm
      exact ⟨by kernel_rfl, fun j t ht => by
        have hj : t ∈ Tryd.f7.params := Array.mem_of_getElem? ht
        exact Eq.mp (Bool.not_eq_true' _) (Array.all_eq_true_iff_forall_mem.1 (show (Tryd.f7.params.all fun t => !Tryd.prog.wantsStandIn t) = true by kernel_rfl) t hj)⟩)
    (by kernel_rfl)
#print axioms traceTells_card_holds
end Go.Proofs.YtimaeihmnipfgaaDoor
