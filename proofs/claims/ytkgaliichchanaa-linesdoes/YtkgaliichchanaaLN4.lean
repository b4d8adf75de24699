/- Walks over the layer of lines: Crash. No condition beyond each theorem's own premises. -/
import Derived.Test.YtkgaliichchanaaLN3
namespace Go.LL
open Go Go.Proofs

theorem fa60_1 (ad : Addr) (w : World) : (Instr.fieldAt 60 (.pointer (some ad)) 1).run Try.prog w = .ok (.pointer (some (ad.add 1))) w := by kernel_rfl

set_option maxRecDepth 100000 in
theorem crash_c (w0 : World) (h : PH) (hl : h.le w0) (p : Nat) (g : MG) (m : MS) (ho : (memA p g m).ok (hp w0)) (hd : ∀ b, (memA p g m).fp b → h b = none) (hf : MemF h g m) (hi : MInv m) (ocut : Option Addr) (ccut : Nat) (cut : List Int) (hr : Rd (hp w0) ocut (ints cut)) (hcl : cut.length ≤ 1000000) :
    Tot Try.prog 19 #[.pointer (some ⟨p, 0, none⟩), .slice ocut cut.length ccut] w0 (fun v w' => ∃ g', v = .int .i64 (if cutOk m cut then 0 else 1) ∧ MemF h g' (crashM m cut) ∧ Mut w0 (memA p g m) (memA p g' (crashM m cut)) w') := by
  have hl1 := hi.len1
  have hl2 := hi.len2
  have hl3 := hi.len3
  have hl4 := hi.len4
  have hnl := hi.nl
  refine fn0 (args := [.pointer (some ⟨p, 0, none⟩), .slice ocut cut.length ccut]) (F := [(0, .pointer (some ⟨p, 0, none⟩)), (1, .slice ocut cut.length ccut)]) Try.func19 rfl Try.ntmps19 rfl rfl fun a hF => ?_
  have hS : St w0 (memA p g m).fp [h] (memL p g m) w0 := .startL (by simpa using hl) ho (fun b hb x hx => by simp at hx; subst hx; exact hd b hb)
  refine th <| rg <| ls <| q1 hF rfl (e_asg hF rfl) fun a hF =>
    re <| tn <| ?_
  refine th <| rg <| ls <| q1 hF rfl (e_move hF rfl) fun a hF =>
    ls <| q1 hF rfl (e_move hF rfl) fun a hF =>
    ls <| c1 hF rfl Try.call11 (image_c _ _ _ _ (memA_read ⟨hS.ok, hS.disj⟩ (hS.hs _ (.head _)) hf) hi _ _ _ hr hcl) ⟨rfl, rfl, trivial⟩ (fun v w a hR hF => ?_)
  rcases hR with ⟨hno, rfl, hk⟩ | ⟨hyes, oai, cai, rfl, hfr⟩
  ·
    replace hS := hS.pass hk
    clear hk
    refine ls <| q1 hF rfl (e_move hF rfl) fun a hF =>
      ls <| q1 hF rfl (e_ext hF rfl rfl) fun a hF =>
      ls <| q1 hF rfl (e_ext hF rfl rfl) fun a hF =>
      ls <| q1 hF rfl (e_asg hF rfl) fun a hF =>
      ls <| q1 hF rfl (e_asg hF rfl) fun a hF =>
      re <| tn <| ?_
    refine th <| th <| rg <| ls <| q1 hF rfl (e_move hF rfl) fun a hF =>
      ls <| q1 hF rfl (e_neq hF rfl rfl) fun a hF =>
      re <| tn <| ?_
    refine ct hF rfl <| th <| rg <| ls <| q1 hF rfl (e_move hF rfl) fun a hF =>
      ls <| q1 hF rfl (e_asg hF rfl) fun a hF =>
      re <| tn <| ?_
    refine wr <| tr <| ?_
    have e : crashM m cut = m := by rw [crashM, if_neg hno]
    rw [e]
    exact r1 hF Try.results19 rfl ⟨g, by rw [if_neg hno], hf, hS.endMut⟩
  ·
    replace hS := hS.fresh hfr
    clear hfr
    have hil := imgUp_len m cut (nlines m)
    refine ls <| q1 hF rfl (e_move hF rfl) fun a hF =>
      ls <| q1 hF rfl (e_ext hF rfl rfl) fun a hF =>
      ls <| q1 hF rfl (e_ext hF rfl rfl) fun a hF =>
      ls <| q1 hF rfl (e_asg hF rfl) fun a hF =>
      ls <| q1 hF rfl (e_asg hF rfl) fun a hF =>
      re <| tn <| ?_
    refine th <| th <| rg <| ls <| q1 hF rfl (e_move hF rfl) fun a hF =>
      ls <| q1 hF rfl (e_neq hF rfl rfl) fun a hF =>
      re <| tn <| ?_
    refine cf hF rfl <| wk <| tn <| ?_
    refine th <| rg <| ls <| q1 hF rfl (e_move hF rfl) fun a hF =>
      ls <| q1 hF rfl (e_move hF rfl) fun a hF =>
      ls <| q1 hF rfl (e_nilp hF rfl) fun a hF =>
      ls <| q1 hF rfl (e_fa hF fa60_3 rfl) fun a hF =>
      ls <| s_blk hF hS Try.sizeOf26 rfl rfl rfl rfl (.tail .head) (.succ (.succ (.succ .zero))) fun w hS => ?_
    refine re <| tn <| ?_
    refine th <| rdL (sub_cons (.tail _ (.head _)) sub_nil) 9 hS wide fun w hS => ?_
    refine d1 (i := 0) rfl (by kernel_rfl) (by kernel_rfl) (hS.lds (fun _ hx => hx) (sub_cons (.tail _ (.head _)) sub_nil)) hF rfl (fun _ _ _ h => h) (fun w hl => e_move hF rfl) fun a hF =>
      d1 (i := 1) rfl (by kernel_rfl) (by kernel_rfl) (hS.lds (fun _ hx => hx) (sub_cons (.tail _ (.head _)) sub_nil)) hF rfl (fun _ _ _ h => h) (fun w hl => e_nilp hF rfl) fun a hF =>
      d1 (i := 2) rfl (by kernel_rfl) (by kernel_rfl) (hS.lds (fun _ hx => hx) (sub_cons (.tail _ (.head _)) sub_nil)) hF rfl (fun _ _ _ h => h) (fun w hl => e_fa hF fa60_2 rfl) fun a hF =>
      d1 (i := 3) rfl (by kernel_rfl) (by kernel_rfl) (hS.lds (fun _ hx => hx) (sub_cons (.tail _ (.head _)) sub_nil)) hF rfl (fun _ _ _ h => h) (fun w hl => e_ld hF Try.isAgg26 rfl (hl.cellB (.head _) rfl)) fun a hF =>
      d1 (i := 4) rfl (by kernel_rfl) (by kernel_rfl) (hS.lds (fun _ hx => hx) (sub_cons (.tail _ (.head _)) sub_nil)) hF rfl (fun _ _ _ h => h) (fun w hl => e_move hF rfl) fun a hF =>
      d1 (i := 5) rfl (by kernel_rfl) (by kernel_rfl) (hS.lds (fun _ hx => hx) (sub_cons (.tail _ (.head _)) sub_nil)) hF rfl (fun _ _ _ h => h) (fun w hl => e_nilp hF rfl) fun a hF =>
      d1 (i := 6) rfl (by kernel_rfl) (by kernel_rfl) (hS.lds (fun _ hx => hx) (sub_cons (.tail _ (.head _)) sub_nil)) hF rfl (fun _ _ _ h => h) (fun w hl => e_fa hF fa60_1 rfl) fun a hF =>
      d1 (i := 7) rfl (by kernel_rfl) (by kernel_rfl) (hS.lds (fun _ hx => hx) (sub_cons (.tail _ (.head _)) sub_nil)) hF rfl (fun _ _ _ h => h) (fun w hl => e_ld hF Try.isAgg26 rfl (hl.cellB (.head _) rfl)) fun a hF =>
      da1 (i := 8) (by kernel_rfl) ?_
    refine di (i := 8) rfl <| cp (e := 3) hF rfl hS Try.underlying26 size3 rfl rfl (by omega) (.tail (.tail .head)) (by simp only [ints_len]; omega) (hS.rdH (.head _) hf.firsts) (ints_one _) fun w a hS hF => ?_
    rw [ints_cp, List.drop_of_length_le (by omega), List.append_nil] at hS
    refine ⟨fun _ => (hS.lds (fun _ hx => hx) (sub_cons (.tail _ (.head _)) sub_nil)), ?_⟩
    refine de (by kernel_rfl) <| tn <| ?_
    refine th <| rg <| ls <| q1 hF rfl (e_move hF rfl) fun a hF =>
      ls <| q1 hF rfl (e_nilp hF rfl) fun a hF =>
      ls <| q1 hF rfl (e_fa hF fa60_2 rfl) fun a hF =>
      ls <| q1 hF rfl (e_ld hF Try.isAgg26 rfl ((St.ld hS).cellB (.tail _ (.head _)) rfl)) fun a hF =>
      ls <| q1 hF rfl (e_move hF rfl) fun a hF =>
      ls <| cp (e := 3) hF rfl hS Try.underlying26 size3 rfl rfl (by omega) (.tail (.tail .head)) (by simp only [ints_len]; omega) (hS.rdO (.head _)) (ints_one _) fun w a hS hF => ?_
    rw [ints_cp, show imgUp m cut (nlines m) ++ m.firsts.drop m.kept.length = _ from rfl] at hS
    refine re <| tn <| ?_
    refine th <| rg <| ls <| q1 hF rfl (e_move hF rfl) fun a hF =>
      ls <| a_map hF rfl hS fun bm w a hS hF => ?_
    refine ls <| q1 hF rfl (e_nilp hF rfl) fun a hF =>
      ls <| q1 hF rfl (e_fa hF fa60_4 rfl) fun a hF =>
      ls <| s_blk hF hS Try.sizeOf58 rfl rfl rfl rfl (.tail (.tail .head)) (.succ (.succ (.succ (.succ .zero)))) fun w hS => ?_
    refine re <| tn <| ?_
    refine th <| rg <| ls <| q1 hF rfl (e_asg hF rfl) fun a hF =>
      re <| tn <| ?_
    refine wr <| ?_
    replace hS := hS.pickL (.cons (.tail (.tail .head)) (.cons (.tail (.tail .head)) (.cons (.tail .head) (.cons .head .nil))))
    replace hS := (hS.nilBig pmA).pickL (.cons (.tail .head) (.cons (.tail .head) (.cons (.tail .head) (.cons (.tail .head) (.cons .head .nil)))))
    refine r1 hF Try.results19 rfl ⟨{ g with ko := oai, ck := cai, mb := bm, clk := 0, pm := [] }, by rw [if_pos hyes], ⟨by rw [crashM, if_pos hyes]; exact hf.of, by rw [crashM, if_pos hyes]; exact hf.firsts, fun k => by rw [crashM, if_pos hyes]; rfl, by simp [pmV, mdis], Go.LM.MGood.nil⟩, ?_⟩
    have e1 := hS.endMut
    rw [crashM, if_pos hyes]
    simp only [memA, memL, List.length_append, List.length_drop, hil]
    rw [show m.kept.length + (m.firsts.length - m.kept.length) = m.l.length by omega]
    exact e1

end Go.LL
