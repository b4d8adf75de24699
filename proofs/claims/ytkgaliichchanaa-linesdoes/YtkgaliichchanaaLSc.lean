/- A walk: cells cut to 22. No condition beyond the theorem's own premises. -/
import Derived.Test.YtkgaliichchanaaLN9
import Derived.Test.YtkgaliichchanaaLM
namespace Go.LL
open Go Go.Proofs

theorem fa46_0 (ad : Addr) (w : World) : (Instr.fieldAt 46 (.pointer (some ad)) 0).run Try.prog w = .ok (.pointer (some (ad.add 0))) w := by kernel_rfl
theorem fa46_1 (ad : Addr) (w : World) : (Instr.fieldAt 46 (.pointer (some ad)) 1).run Try.prog w = .ok (.pointer (some (ad.add 1))) w := by kernel_rfl
theorem fa46_2 (ad : Addr) (w : World) : (Instr.fieldAt 46 (.pointer (some ad)) 2).run Try.prog w = .ok (.pointer (some (ad.add 2))) w := by kernel_rfl

set_option maxRecDepth 100000 in
theorem cut_c (w0 : World) (so sf : Option Addr) (sc sfc : Nat) (sof sfi : List Int) (st : Int) (hsc : sof.length ≤ sc) (hsfc : sfi.length ≤ sfc) :
    Tot Try.prog 20 #[.agg #[.slice so sof.length sc, .int .i64 st, .slice sf sfi.length sfc]] w0 (fun v w' => v = .agg #[.slice so (sof.take 22).length sc, .int .i64 st, .slice sf (sfi.take 22).length sfc] ∧ Keep Nil w0 w') := by
  refine fn0 (args := [.agg #[.slice so sof.length sc, .int .i64 st, .slice sf sfi.length sfc]]) (F := [(0, .agg #[.slice so sof.length sc, .int .i64 st, .slice sf sfi.length sfc])]) Try.func20 rfl Try.ntmps20 rfl rfl fun a hF => ?_
  have hS : St w0 Nil [hp w0] [] w0 := .start (by simp [hp_le])
  refine th <| rg <| ls <| a_box hF rfl hS rfl rfl fun b1 w a hS hF => ?_
  refine ls <| a_alloc hF rfl hS Try.zeroValue46 rfl fun b2 w a hS hF => ?_
  refine re <| tn <| ?_
  refine th <| rxS 17 hS wide (by kernel_rfl) fun w hS => ?_
  refine x1 (St.ld hS) hF rfl rfl (fun _ _ _ h => h) (fun w hl => e_fa hF fa46_0 rfl) fun a hF =>
    x1 (St.ld hS) hF rfl rfl (fun _ _ _ h => h) (fun w hl => e_ld hF Try.isAgg26 rfl (hl.cellB (.tail _ (.head _)) rfl)) fun a hF =>
    x1 (St.ld hS) hF rfl rfl (fun _ _ _ h => h) (fun w hl => e_fa hF fa46_0 rfl) fun a hF =>
    x1 (St.ld hS) hF rfl rfl (fun _ _ _ h => h) (fun w hl => e_ld hF Try.isAgg26 rfl (hl.cellB (.tail _ (.head _)) rfl)) fun a hF =>
    x1 (St.ld hS) hF rfl rfl (fun _ _ _ h => h) (fun w hl => e_lenS hF Try.runUnderlying26 rfl) fun a hF =>
    x1 (St.ld hS) hF rfl rfl (fun _ _ _ h => h) (fun w hl => e_minN (m := sof.length) (n := 22) hF rfl rfl) fun a hF =>
    x1 (St.ld hS) hF rfl rfl (fun _ _ _ h => h) (fun w hl => e_as (v' := .slice so (sof.take 22).length sc) (e_slHi (h := min sof.length 22) hF Try.runUnderlying26 Try.sizeOf3 rfl rfl rfl (by omega)) (by rw [List.length_take, Nat.min_comm])) fun a hF =>
    x1 (St.ld hS) hF rfl rfl (fun _ _ _ h => h) (fun w hl => e_fa hF fa46_1 rfl) fun a hF =>
    x1 (St.ld hS) hF rfl rfl (fun _ _ _ h => h) (fun w hl => e_ld hF Try.isAgg3 rfl (hl.cellB (.tail _ (.head _)) rfl)) fun a hF =>
    x1 (St.ld hS) hF rfl rfl (fun _ _ _ h => h) (fun w hl => e_fa hF fa46_2 rfl) fun a hF =>
    x1 (St.ld hS) hF rfl rfl (fun _ _ _ h => h) (fun w hl => e_ld hF Try.isAgg26 rfl (hl.cellB (.tail _ (.head _)) rfl)) fun a hF =>
    x1 (St.ld hS) hF rfl rfl (fun _ _ _ h => h) (fun w hl => e_fa hF fa46_2 rfl) fun a hF =>
    x1 (St.ld hS) hF rfl rfl (fun _ _ _ h => h) (fun w hl => e_ld hF Try.isAgg26 rfl (hl.cellB (.tail _ (.head _)) rfl)) fun a hF =>
    x1 (St.ld hS) hF rfl rfl (fun _ _ _ h => h) (fun w hl => e_lenS hF Try.runUnderlying26 rfl) fun a hF =>
    x1 (St.ld hS) hF rfl rfl (fun _ _ _ h => h) (fun w hl => e_minN (m := sfi.length) (n := 22) hF rfl rfl) fun a hF =>
    x1 (St.ld hS) hF rfl rfl (fun _ _ _ h => h) (fun w hl => e_as (v' := .slice sf (sfi.take 22).length sfc) (e_slHi (h := min sfi.length 22) hF Try.runUnderlying26 Try.sizeOf3 rfl rfl rfl (by omega)) (by rw [List.length_take, Nat.min_comm])) fun a hF =>
    x1 (St.ld hS) hF rfl rfl (fun _ _ _ h => h) (fun w hl => e_bld [_, _, _] hF ⟨rfl, rfl, rfl, trivial⟩ (fun w => by kernel_rfl)) fun a hF =>
    xz rfl <| s_blkA hF hS Try.sizeOf46 rfl rfl rfl rfl (one_cells rfl) .head fun w hS => ?_
  refine tn <| ?_
  refine wr <| ?_
  exact Go.LM.r1c (vs := [.slice so (sof.take 22).length sc, .int .i64 st, .slice sf (sfi.take 22).length sfc]) (.inl rfl) hF Try.results20 rfl Try.isAgg46 Try.sizeOf46 rfl ((St.ld hS).cellsB (.head _)) ⟨rfl, hS.keep⟩

end Go.LL
