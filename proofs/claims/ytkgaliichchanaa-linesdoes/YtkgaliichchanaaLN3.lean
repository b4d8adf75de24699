/- Walks over the layer of lines that write. No condition beyond each theorem's own premises. -/
import Derived.Test.YtkgaliichchanaaLN2
namespace Go.LL
open Go Go.Proofs


theorem write_F0 {h : PH} {g : MG} {m : MS} {cell n : Int} (hf : MemF h g m) (h1 : 0 ≤ cell ∧ cell < m.l.length) (h2 : ¬ cell < m.of.length) : MemF h g (writeM m cell n) := by
  rw [writeM, if_pos h1]
  exact ⟨hf.of, hf.firsts, fun k => by simp only [h2, false_and, if_false]; exact hf.pend k, hf.dis, hf.good⟩
theorem write_F {h : PH} {g : MG} {m : MS} {cell n : Int} {e : PE} (hf : MemF h g m) (h1 : 0 ≤ cell ∧ cell < m.l.length) (h2 : cell.toNat < m.of.length) (he : e.ws = pws m.of[cell.toNat] g.pm ++ [(cell, n)]) :
    MemF h { g with clk := mclk (m.of[cell.toNat]) g.clk (pmV g.pm), pm := pput (m.of[cell.toNat]) e g.clk g.pm } (writeM m cell n) := by
  rw [writeM, if_pos h1]
  refine ⟨hf.of, hf.firsts, fun k => ?_, ?_, ?_⟩
  · have hg : m.of.getD cell.toNat 0 = m.of[cell.toNat] := getD_of_lt h2
    have hlt : cell < m.of.length := by omega
    simp only [hg, hlt, true_and, pws_put]
    by_cases hk : k = m.of[cell.toNat]
    · rw [if_pos hk, if_pos hk, he, hf.pend, hk]
    · rw [if_neg hk, if_neg hk, hf.pend]
  · show mdis (pmV (pput _ _ _ _))
    rw [pmV_put]; exact mdis_put hf.dis
  · show Go.LM.MGood (pmV (pput _ _ _ _)) _
    rw [pmV_put]; exact hf.good.put _ _

set_option maxRecDepth 100000 in
theorem write_c (w0 : World) (h : PH) (hl : h.le w0) (p : Nat) (g : MG) (m : MS) (ho : (memA p g m).ok (hp w0)) (hd : ∀ b, (memA p g m).fp b → h b = none) (hf : MemF h g m) (hi : MInv m) (cell n : Int) :
    Tot Try.prog 18 #[.pointer (some ⟨p, 0, none⟩), .int .i64 cell, .int .i64 n] w0 (fun v w' => ∃ g', v = .int .i64 (if 0 ≤ cell ∧ cell < m.l.length then 0 else 1) ∧ MemF h g' (writeM m cell n) ∧ Mut w0 (memA p g m) (memA p g' (writeM m cell n)) w') := by
  have hl1 := hi.len1
  have hl2 := hi.len2
  have hl3 := hi.len3
  have hl4 := hi.len4
  have hnl := hi.nl
  have hm := memA_read ho hl hf
  refine fn0 (args := [.pointer (some ⟨p, 0, none⟩), .int .i64 cell, .int .i64 n]) (F := [(0, .pointer (some ⟨p, 0, none⟩)), (1, .int .i64 cell), (2, .int .i64 n)]) Try.func18 rfl Try.ntmps18 rfl rfl fun a hF => ?_
  have hS : St w0 (memA p g m).fp [h] (memL p g m) w0 := .startL (by simpa using hl) ho (fun b hb x hx => by simp at hx; subst hx; exact hd b hb)
  refine th <| rg <| ls <| q1 hF rfl (e_asg hF rfl) fun a hF =>
    re <| tn <| ?_
  refine th <| th <| rg <| ls <| q1 hF rfl (e_move hF rfl) fun a hF =>
    ls <| q1 hF rfl (e_lss hF rfl rfl) fun a hF =>
    ls <| q1 hF rfl (e_move hF rfl) fun a hF =>
    Fr.split hF (t := 10) rfl (fun hb hF => ?_) (fun hb hF => ?_)
  ·
    replace hb := of_decide_eq_true hb
    refine ls <| gn hF rfl rfl rfl rfl fun a hF =>
      ls <| gn hF rfl rfl rfl rfl fun a hF =>
      ls <| gn hF rfl rfl rfl rfl fun a hF =>
      ls <| gn hF rfl rfl rfl rfl fun a hF =>
      ls <| gn hF rfl rfl rfl rfl fun a hF =>
      ls <| gn hF rfl rfl rfl rfl fun a hF =>
      ls <| gn hF rfl rfl rfl rfl fun a hF =>
      ls <| q1 hF rfl (e_pickT hF rfl rfl) fun a hF =>
      re <| tn <| ?_
    refine ct hF rfl <| th <| rg <| ls <| q1 hF rfl (e_asg hF rfl) fun a hF =>
      re <| tn <| ?_
    refine wr <| tr <| ?_
    have e : writeM m cell n = m := by rw [writeM, if_neg (by omega)]
    rw [e]
    exact r1 hF Try.results18 rfl ⟨g, by rw [if_neg (by omega)], hf, hS.endMut⟩
  ·
    replace hb := Int.not_lt.1 (of_decide_eq_false hb)
    refine ls <| gy hF rfl rfl <| q1 hF rfl (e_move hF rfl) fun a hF =>
      ls <| gy hF rfl rfl <| q1 hF rfl (e_move hF rfl) fun a hF =>
      ls <| gy hF rfl rfl <| q1 hF rfl (e_nilp hF rfl) fun a hF =>
      ls <| gy hF rfl rfl <| q1 hF rfl (e_fa hF fa60_2 rfl) fun a hF =>
      ls <| gy hF rfl rfl <| q1 hF rfl (e_ld hF Try.isAgg26 rfl ((St.ld hS).cellB (.head _) rfl)) fun a hF =>
      ls <| gy hF rfl rfl <| q1 hF rfl (e_lenS hF Try.runUnderlying26 rfl) fun a hF =>
      ls <| gy hF rfl rfl <| q1 hF rfl (e_geq hF rfl rfl) fun a hF =>
      ls <| q1 hF rfl (e_pickF hF rfl rfl) fun a hF =>
      re <| tn <| ?_
    refine cs hF rfl (fun hb => ?_) (fun hb => ?_)
    ·
      replace hb := of_decide_eq_true hb
      refine th <| rg <| ls <| q1 hF rfl (e_asg hF rfl) fun a hF =>
        re <| tn <| ?_
      refine wr <| tr <| ?_
      have e : writeM m cell n = m := by rw [writeM, if_neg (by omega)]
      rw [e]
      exact r1 hF Try.results18 rfl ⟨g, by rw [if_neg (by omega)], hf, hS.endMut⟩
    ·
      replace hb := Int.not_le.1 (of_decide_eq_false hb)
      refine wk <| tn <| ?_
      refine th <| rg <| ls <| q1 hF rfl (e_move hF rfl) fun a hF =>
        ls <| q1 hF rfl (e_nilp hF rfl) fun a hF =>
        ls <| q1 hF rfl (e_fa hF fa60_2 rfl) fun a hF =>
        ls <| q1 hF rfl (e_ld hF Try.isAgg26 rfl ((St.ld hS).cellB (.head _) rfl)) fun a hF =>
        ls <| q1 hF rfl (e_move hF rfl) fun a hF =>
        ls <| q1 hF rfl (e_move hF rfl) fun a hF =>
        ?_
      refine ls <| q1 hF rfl (e_ia (i := (cell).toNat) hF Try.runUnderlying26 Try.sizeOf3 rfl rfl (by omega) (by omega) (((St.ld hS).rdO (.tail _ (.head _))).some (ints_ne (l := m.l) (by omega)))) fun a hF =>
        ls <| s_sl hF hS Try.sizeOf3 rfl rfl rfl rfl (.tail .head) (by simp only [ints_len, List.length_set]; omega) fun w hS => ?_
      rw [ints_set] at hS
      refine re <| tn <| ?_
      refine th <| th <| rg <| ls <| q1 hF rfl (e_move hF rfl) fun a hF =>
        ls <| q1 hF rfl (e_move hF rfl) fun a hF =>
        ls <| q1 hF rfl (e_nilp hF rfl) fun a hF =>
        ls <| q1 hF rfl (e_fa hF fa60_0 rfl) fun a hF =>
        ls <| q1 hF rfl (e_ld hF Try.isAgg26 rfl ((St.ld hS).cellB (.head _) rfl)) fun a hF =>
        ls <| q1 hF rfl (e_lenS hF Try.runUnderlying26 rfl) fun a hF =>
        ls <| q1 hF rfl (e_lss hF rfl rfl) fun a hF =>
        re <| tn <| ?_
      refine cs hF rfl (fun hb => ?_) (fun hb => ?_)
      ·
        replace hb := of_decide_eq_true hb
        refine th <| rg <| ls <| q1 hF rfl (e_move hF rfl) fun a hF =>
          ls <| q1 hF rfl (e_nilp hF rfl) fun a hF =>
          ls <| q1 hF rfl (e_fa hF fa60_0 rfl) fun a hF =>
          ls <| q1 hF rfl (e_ld hF Try.isAgg26 rfl ((St.ld hS).cellB (.head _) rfl)) fun a hF =>
          ls <| q1 hF rfl (e_move hF rfl) fun a hF =>
          ?_
        refine ls <| q1 hF rfl (e_ia (i := (cell).toNat) hF Try.runUnderlying26 Try.sizeOf3 rfl rfl (by omega) (by omega) (hf.of.some (ints_ne (l := m.of) (by omega)))) fun a hF =>
          ls <| q1 hF rfl (e_ld hF Try.isAgg3 rfl ((St.ld hS).elH (.head _) hf.of (ints_get (l := m.of) (k := (cell).toNat) (by omega)))) fun a hF =>
          ls <| q1 hF rfl (e_asg hF rfl) fun a hF =>
          re <| tn <| ?_
        obtain ⟨oak, ck, hlk, -, hck⟩ := hm.look (m.of[cell.toNat])
        have hfew := hi.few (m.of[cell.toNat])
        refine rdL (sub_cons (.head _) (sub_cons (.tail _ (.head _)) (sub_cons (.tail _ (.tail _ (.head _))) (sub_cons (.tail _ (.tail _ (.tail _ (.head _)))) sub_nil)))) 16 hS wide fun w hS => ?_
        refine d1 (i := 0) rfl (by kernel_rfl) (by kernel_rfl) (hS.lds (fun _ hx => hx) (sub_cons (.head _) (sub_cons (.tail _ (.head _)) (sub_cons (.tail _ (.tail _ (.head _))) (sub_cons (.tail _ (.tail _ (.tail _ (.head _)))) sub_nil))))) hF rfl (fun _ _ _ h => h) (fun w hl => e_move hF rfl) fun a hF =>
          d1 (i := 1) rfl (by kernel_rfl) (by kernel_rfl) (hS.lds (fun _ hx => hx) (sub_cons (.head _) (sub_cons (.tail _ (.head _)) (sub_cons (.tail _ (.tail _ (.head _))) (sub_cons (.tail _ (.tail _ (.tail _ (.head _)))) sub_nil))))) hF rfl (fun _ _ _ h => h) (fun w hl => e_nilp hF rfl) fun a hF =>
          d1 (i := 2) rfl (by kernel_rfl) (by kernel_rfl) (hS.lds (fun _ hx => hx) (sub_cons (.head _) (sub_cons (.tail _ (.head _)) (sub_cons (.tail _ (.tail _ (.head _))) (sub_cons (.tail _ (.tail _ (.tail _ (.head _)))) sub_nil))))) hF rfl (fun _ _ _ h => h) (fun w hl => e_fa hF fa60_4 rfl) fun a hF =>
          d1 (i := 3) rfl (by kernel_rfl) (by kernel_rfl) (hS.lds (fun _ hx => hx) (sub_cons (.head _) (sub_cons (.tail _ (.head _)) (sub_cons (.tail _ (.tail _ (.head _))) (sub_cons (.tail _ (.tail _ (.tail _ (.head _)))) sub_nil))))) hF rfl (fun _ _ _ h => h) (fun w hl => e_ld hF Try.isAgg58 rfl (hl.cellB (.head _) rfl)) fun a hF =>
          d1 (i := 4) rfl (by kernel_rfl) (by kernel_rfl) (hS.lds (fun _ hx => hx) (sub_cons (.head _) (sub_cons (.tail _ (.head _)) (sub_cons (.tail _ (.tail _ (.head _))) (sub_cons (.tail _ (.tail _ (.tail _ (.head _)))) sub_nil))))) hF rfl (fun _ _ _ h => h) (fun w hl => e_move hF rfl) fun a hF =>
          d1 (i := 5) rfl (by kernel_rfl) (by kernel_rfl) (hS.lds (fun _ hx => hx) (sub_cons (.head _) (sub_cons (.tail _ (.head _)) (sub_cons (.tail _ (.tail _ (.head _))) (sub_cons (.tail _ (.tail _ (.tail _ (.head _)))) sub_nil))))) hF rfl (fun _ _ _ h => h) (fun w hl => e_move hF rfl) fun a hF =>
          d1 (i := 6) rfl (by kernel_rfl) (by kernel_rfl) (hS.lds (fun _ hx => hx) (sub_cons (.head _) (sub_cons (.tail _ (.head _)) (sub_cons (.tail _ (.tail _ (.head _))) (sub_cons (.tail _ (.tail _ (.tail _ (.head _)))) sub_nil))))) hF rfl (fun _ _ _ h => h) (fun w hl => e_nilp hF rfl) fun a hF =>
          d1 (i := 7) rfl (by kernel_rfl) (by kernel_rfl) (hS.lds (fun _ hx => hx) (sub_cons (.head _) (sub_cons (.tail _ (.head _)) (sub_cons (.tail _ (.tail _ (.head _))) (sub_cons (.tail _ (.tail _ (.tail _ (.head _)))) sub_nil))))) hF rfl (fun _ _ _ h => h) (fun w hl => e_fa hF fa60_4 rfl) fun a hF =>
          d1 (i := 8) rfl (by kernel_rfl) (by kernel_rfl) (hS.lds (fun _ hx => hx) (sub_cons (.head _) (sub_cons (.tail _ (.head _)) (sub_cons (.tail _ (.tail _ (.head _))) (sub_cons (.tail _ (.tail _ (.tail _ (.head _)))) sub_nil))))) hF rfl (fun _ _ _ h => h) (fun w hl => e_ld hF Try.isAgg58 rfl (hl.cellB (.head _) rfl)) fun a hF =>
          d1 (i := 9) rfl (by kernel_rfl) (by kernel_rfl) (hS.lds (fun _ hx => hx) (sub_cons (.head _) (sub_cons (.tail _ (.head _)) (sub_cons (.tail _ (.tail _ (.head _))) (sub_cons (.tail _ (.tail _ (.tail _ (.head _)))) sub_nil))))) hF rfl (fun _ _ _ h => h) (fun w hl => e_move hF rfl) fun a hF =>
          d1 (i := 10) rfl (by kernel_rfl) (by kernel_rfl) (hS.lds (fun _ hx => hx) (sub_cons (.head _) (sub_cons (.tail _ (.head _)) (sub_cons (.tail _ (.tail _ (.head _))) (sub_cons (.tail _ (.tail _ (.tail _ (.head _)))) sub_nil))))) hF rfl (fun _ _ _ h => h) (fun w hl => e_lookV hF (keyInt Try.runUnderlying3) Try.runUnderlying58 Try.zeroValue57 (hl.ok _ (.tail _ (.tail _ (.tail _ (.head _))))) rfl rfl hlk) fun a hF =>
          d1 (i := 11) rfl (by kernel_rfl) (by kernel_rfl) (hS.lds (fun _ hx => hx) (sub_cons (.head _) (sub_cons (.tail _ (.head _)) (sub_cons (.tail _ (.tail _ (.head _))) (sub_cons (.tail _ (.tail _ (.tail _ (.head _)))) sub_nil))))) hF rfl (fun _ _ _ h => h) (fun w hl => e_move hF rfl) fun a hF =>
          d1 (i := 12) rfl (by kernel_rfl) (by kernel_rfl) (hS.lds (fun _ hx => hx) (sub_cons (.head _) (sub_cons (.tail _ (.head _)) (sub_cons (.tail _ (.tail _ (.head _))) (sub_cons (.tail _ (.tail _ (.tail _ (.head _)))) sub_nil))))) hF rfl (fun _ _ _ h => h) (fun w hl => e_move hF rfl) fun a hF =>
          d1 (i := 13) rfl (by kernel_rfl) (by kernel_rfl) (hS.lds (fun _ hx => hx) (sub_cons (.head _) (sub_cons (.tail _ (.head _)) (sub_cons (.tail _ (.tail _ (.head _))) (sub_cons (.tail _ (.tail _ (.tail _ (.head _)))) sub_nil))))) hF rfl (fun _ _ _ h => h) (fun w hl => e_bld [_, _] hF ⟨rfl, rfl, trivial⟩ (fun w => by kernel_rfl)) fun a hF =>
          da1 (i := 14) (by kernel_rfl) ?_
        refine di (i := 14) rfl <| a_bsl (e := 67) (sz := 2) (wcells [(cell, n)]) hF rfl hS rfl rfl rfl (fun w => by kernel_rfl) fun b w a hS hF => ?_
        refine ⟨fun _ => (hS.lds (fun _ hx => hx) (sub_cons (.tail _ (.head _)) (sub_cons (.tail _ (.tail _ (.head _))) (sub_cons (.tail _ (.tail _ (.tail _ (.head _)))) (sub_cons (.tail _ (.tail _ (.tail _ (.tail _ (.head _))))) sub_nil))))), ?_⟩
        refine da1 (i := 15) (by kernel_rfl) ?_
        refine di (i := 15) rfl <| apLine (clk := g.clk) hF rfl hS rfl hlk rfl (.tail _ (.tail _ (.tail _ (.tail _ (.tail _ (.head _)))))) (hS.rdO (.head _)) (by omega) fun e hews helen w a hU hF => ?_
        replace hS := hU _ (.tail (.tail (.tail (.tail (.tail .head)))))
        clear hU
        replace hS := hS.drop .head
        refine ⟨fun _ => (hS.lds (fun _ hx => hx) (sub_cons (.head _) (sub_cons (.tail _ (.head _)) (sub_cons (.tail _ (.tail _ (.head _))) (sub_cons (.tail _ (.tail _ (.tail _ (.head _)))) sub_nil))))), ?_⟩
        refine da1 (i := 16) (by kernel_rfl) ?_
        refine di (i := 16) rfl <| mp_upd (kv := kI) hF hS (keyInt Try.runUnderlying3) Try.runUnderlying58 rfl rfl rfl (.tail (.tail (.tail .head))) fun w hS => ?_
        refine ⟨fun h => absurd rfl h, ?_⟩
        refine de (by kernel_rfl) <| tn <| ?_
        refine th <| rg <| ls <| q1 hF rfl (e_asg hF rfl) fun a hF =>
          re <| tn <| ?_
        refine wr <| ?_
        refine r1 hF Try.results18 rfl ⟨{ g with clk := mclk (m.of[cell.toNat]) g.clk (pmV g.pm), pm := pput (m.of[cell.toNat]) e g.clk g.pm }, by rw [if_pos (by omega)], write_F hf (by omega) (by omega) hews, ?_⟩
        have e1 := hS.endMut
        rw [writeM, if_pos (by omega)]
        simp only [memA, memL, List.length_set, pmV_put]
        exact e1
      ·
        replace hb := Int.not_lt.1 (of_decide_eq_false hb)
        refine wk <| tn <| ?_
        refine th <| rg <| ls <| q1 hF rfl (e_asg hF rfl) fun a hF =>
          re <| tn <| ?_
        refine wr <| ?_
        refine r1 hF Try.results18 rfl ⟨g, by rw [if_pos (by omega)], write_F0 hf (by omega) (by omega), ?_⟩
        have e1 := hS.endMut
        rw [writeM, if_pos (by omega)]
        simp only [memA, memL, List.length_set]
        exact e1

theorem out_F {h : PH} {g : MG} {m : MS} {line : Int} (hf : MemF h g m) (h1 : 0 ≤ line ∧ line < nlines m) : MemF h { g with pm := perase line g.pm } (outM m line) := by
  rw [outM, if_pos h1]
  refine ⟨hf.of, hf.firsts, fun k => ?_, ?_, ?_⟩
  · show (if k = line then [] else m.pend k) = pws k (perase line g.pm)
    rw [pws_erase hf.dis, hf.pend]
  · show mdis (pmV (perase _ _))
    rw [pmV_erase]; exact mdis_erase hf.dis
  · show Go.LM.MGood (pmV (perase _ _)) _
    rw [pmV_erase]; exact hf.good.del _

set_option maxRecDepth 100000 in
theorem out_c (w0 : World) (h : PH) (hl : h.le w0) (p : Nat) (g : MG) (m : MS) (ho : (memA p g m).ok (hp w0)) (hd : ∀ b, (memA p g m).fp b → h b = none) (hf : MemF h g m) (hi : MInv m) (line : Int) :
    Tot Try.prog 16 #[.pointer (some ⟨p, 0, none⟩), .int .i64 line] w0 (fun v w' => ∃ g', v = .int .i64 (if 0 ≤ line ∧ line < nlines m then 0 else 1) ∧ MemF h g' (outM m line) ∧ Mut w0 (memA p g m) (memA p g' (outM m line)) w') := by
  have hl1 := hi.len1
  have hl2 := hi.len2
  have hl3 := hi.len3
  have hl4 := hi.len4
  have hnl := hi.nl
  have hm := memA_read ho hl hf
  refine fn0 (args := [.pointer (some ⟨p, 0, none⟩), .int .i64 line]) (F := [(0, .pointer (some ⟨p, 0, none⟩)), (1, .int .i64 line)]) Try.func16 rfl Try.ntmps16 rfl rfl fun a hF => ?_
  have hS : St w0 (memA p g m).fp [h] (memL p g m) w0 := .startL (by simpa using hl) ho (fun b hb x hx => by simp at hx; subst hx; exact hd b hb)
  refine th <| rg <| ls <| q1 hF rfl (e_asg hF rfl) fun a hF =>
    re <| tn <| ?_
  refine th <| th <| rg <| ls <| q1 hF rfl (e_move hF rfl) fun a hF =>
    ls <| q1 hF rfl (e_lss hF rfl rfl) fun a hF =>
    ls <| q1 hF rfl (e_move hF rfl) fun a hF =>
    Fr.split hF (t := 9) rfl (fun hb hF => ?_) (fun hb hF => ?_)
  ·
    replace hb := of_decide_eq_true hb
    refine ls <| gn hF rfl rfl rfl rfl fun a hF =>
      ls <| gn hF rfl rfl rfl rfl fun a hF =>
      ls <| gn hF rfl rfl rfl rfl fun a hF =>
      ls <| gn hF rfl rfl rfl rfl fun a hF =>
      ls <| q1 hF rfl (e_pickT hF rfl rfl) fun a hF =>
      re <| tn <| ?_
    refine ct hF rfl <| th <| rg <| ls <| q1 hF rfl (e_asg hF rfl) fun a hF =>
      re <| tn <| ?_
    refine wr <| tr <| ?_
    have e : outM m line = m := by rw [outM, if_neg (by omega)]
    rw [e]
    exact r1 hF Try.results16 rfl ⟨g, by rw [if_neg (by omega)], hf, hS.endMut⟩
  ·
    replace hb := Int.not_lt.1 (of_decide_eq_false hb)
    refine ls <| gy hF rfl rfl <| q1 hF rfl (e_move hF rfl) fun a hF =>
      ls <| gy hF rfl rfl <| q1 hF rfl (e_move hF rfl) fun a hF =>
      ls <| gy hF rfl rfl <| c1 hF rfl Try.call30 (lines_c _ _ _ _ (memA_read ⟨hS.ok, hS.disj⟩ (hS.hs _ (.head _)) hf) hi) ⟨rfl, trivial⟩ (fun v w a hR hF => ?_)
    obtain ⟨rfl, hk⟩ := hR
    replace hS := hS.pass hk
    clear hk
    refine ls <| gy hF rfl rfl <| q1 hF rfl (e_geq hF rfl rfl) fun a hF =>
      ls <| q1 hF rfl (e_pickF hF rfl rfl) fun a hF =>
      re <| tn <| ?_
    refine cs hF rfl (fun hb => ?_) (fun hb => ?_)
    ·
      replace hb := of_decide_eq_true hb
      refine th <| rg <| ls <| q1 hF rfl (e_asg hF rfl) fun a hF =>
        re <| tn <| ?_
      refine wr <| tr <| ?_
      have e : outM m line = m := by rw [outM, if_neg (by omega)]
      rw [e]
      exact r1 hF Try.results16 rfl ⟨g, by rw [if_neg (by omega)], hf, hS.endMut⟩
    ·
      replace hb := Int.not_le.1 (of_decide_eq_false hb)
      refine wk <| tn <| ?_
      obtain ⟨oak, ck, hlk, -, hck⟩ := hm.look line
      have hfew := hi.few line
      refine th <| th <| rg <| ls <| q1 hF rfl (e_move hF rfl) fun a hF =>
        ls <| q1 hF rfl (e_nilp hF rfl) fun a hF =>
        ls <| q1 hF rfl (e_fa hF fa60_4 rfl) fun a hF =>
        ls <| q1 hF rfl (e_ld hF Try.isAgg58 rfl ((St.ld hS).cellB (.head _) rfl)) fun a hF =>
        ls <| q1 hF rfl (e_move hF rfl) fun a hF =>
        ls <| q1 hF rfl (e_lookV hF (keyInt Try.runUnderlying3) Try.runUnderlying58 Try.zeroValue57 ((St.ld hS).ok _ (.tail _ (.tail _ (.tail _ (.head _))))) rfl rfl hlk) fun a hF =>
        ls <| q1 hF rfl (e_lenS hF Try.runUnderlying57 rfl) fun a hF =>
        ls <| q1 hF rfl (e_move hF rfl) fun a hF =>
        re <| tn <| ?_
      refine wb <| lp (α := Nat) (fun (gh : Nat) a w => match gh with | j => Fr 41 [(0, .pointer (some ⟨p, 0, none⟩)), (1, .int .i64 line), (20, .slice oak (m.pend line).length ck), (21, .int .i64 (((m.pend line).length : Nat) : Int)), (22, .int .i64 (j : Int))] a ∧ St w0 (memA p g m).fp [h] [blk p (.cells #[.slice g.oo m.of.length g.co, .slice g.fo m.firsts.length g.cf, .slice g.lo m.l.length g.cl, .slice g.ko m.kept.length g.ck, .map (some g.mb)] 60 (0, 0)), sla 3 1 g.lo m.l.length g.cl (ints m.l), sla 3 1 g.ko m.kept.length g.ck (ints (applyW ((m.pend line).take j) m.kept)), imap kI g.mb (pmV g.pm) g.clk, bigA pmA g.pm] w ∧ j ≤ (m.pend line).length) (fun (gh : Nat) => match gh with | j => (m.pend line).length - j) 0 ⟨hF.has ⟨rfl, rfl, rfl, rfl, rfl, trivial⟩, hS, Nat.zero_le _⟩ ?_
      clear hF hS
      rintro j a w ⟨hF, hS, hj⟩
      refine th <| rg <| ls <| q1 hF rfl (e_lss hF rfl rfl) fun a hF =>
        re <| tn <| ?_
      refine th <| cs hF rfl (fun hb => ?_) (fun hb => ?_)
      ·
        replace hb := of_decide_eq_true hb
        refine wk <| tn <| ?_
        have hjl : j < (m.pend line).length := by omega
        have hxb := hi.pend line _ (List.getElem_mem hjl)
        have hol := applyW_len ((m.pend line).take j) m.kept
        refine th <| wb <| th <| rg <| ls <| q1 hF rfl (e_ia hF Try.runUnderlying57 Try.sizeOf67 rfl rfl rfl (by omega) ((Lds.rdPend (St.ld hS) (.tail _ (.tail _ (.tail _ (.tail _ (.head _))))) hlk (hm.pend line)).some (wcells_ne (l := (m.pend line)) (by omega)))) fun a hF =>
          ls <| q1 hF rfl (e_ldA hF Try.isAgg67 Try.sizeOf67 rfl rfl (elsR (Lds.rdPend (St.ld hS) (.tail _ (.tail _ (.tail _ (.tail _ (.head _))))) hlk (hm.pend line)) (wcells_sub (l := (m.pend line)) (k := j) (by omega)))) fun a hF =>
          ls <| a_alloc hF rfl hS Try.zeroValue67 rfl fun b w a hS hF => ?_
        refine ls <| s_blkA hF hS Try.sizeOf67 rfl rfl rfl rfl (one_cells rfl) .head fun w hS => ?_
        refine re <| tn <| ?_
        refine rxS 9 hS wide (by kernel_rfl) fun w hS => ?_
        refine x1 (St.ld hS) hF rfl rfl (fun _ _ _ h => h) (fun w hl => e_move hF rfl) fun a hF =>
          x1 (St.ld hS) hF rfl rfl (fun _ _ _ h => h) (fun w hl => e_nilp hF rfl) fun a hF =>
          x1 (St.ld hS) hF rfl rfl (fun _ _ _ h => h) (fun w hl => e_fa hF fa60_3 rfl) fun a hF =>
          x1 (St.ld hS) hF rfl rfl (fun _ _ _ h => h) (fun w hl => e_ld hF Try.isAgg26 rfl (hl.cellB (.tail _ (.head _)) rfl)) fun a hF =>
          x1 (St.ld hS) hF rfl rfl (fun _ _ _ h => h) (fun w hl => e_fa hF fa67_0 rfl) fun a hF =>
          x1 (St.ld hS) hF rfl rfl (fun _ _ _ h => h) (fun w hl => e_ld hF Try.isAgg3 rfl (hl.cellB (.head _) rfl)) fun a hF =>
          x1 (St.ld hS) hF rfl rfl (fun _ _ _ h => h) (fun w hl => e_fa hF fa67_1 rfl) fun a hF =>
          x1 (St.ld hS) hF rfl rfl (fun _ _ _ h => h) (fun w hl => e_ld hF Try.isAgg3 rfl (hl.cellB (.head _) rfl)) fun a hF =>
          ?_
        refine x1 (St.ld hS) hF rfl rfl (fun _ _ _ h => h) (fun w hl => e_ia (i := (Int.toNat ((m.pend line)[j]'hjl).1)) hF Try.runUnderlying26 Try.sizeOf3 rfl rfl (by omega) (by omega) ((hl.rdO (.tail _ (.tail _ (.tail _ (.head _))))).some (ints_ne (l := (applyW ((m.pend line).take j) m.kept)) (by omega)))) fun a hF =>
          xz rfl <| s_sl hF hS Try.sizeOf3 rfl rfl rfl rfl (.tail (.tail (.tail .head))) (by simp only [ints_len, List.length_set]; omega) fun w hS => ?_
        rw [ints_set] at hS
        refine bn <| tn <| ?_
        refine rg <| ls <| q1 hF rfl (e_addI (r := (((j + 1) : Nat) : Int)) hF rfl rfl rfl (by omega)) fun a hF =>
          ls <| q1 hF rfl (e_move hF rfl) fun a hF =>
          re <| tn <| ?_
        replace hS := hS.drop .head
        rw [← applyW_take hjl] at hS
        exact ⟨j + 1, ⟨hF.has ⟨rfl, rfl, rfl, rfl, rfl, trivial⟩, hS, (by omega)⟩, (by dsimp only; omega)⟩
      ·
        replace hb := Int.not_lt.1 (of_decide_eq_false hb)
        refine we <| tx <| tx <| bx <| tn <| ?_
        obtain rfl : j = (m.pend line).length := by omega
        rw [List.take_length] at hS
        refine th <| rg <| ls <| q1 hF rfl (e_move hF rfl) fun a hF =>
          ls <| q1 hF rfl (e_nilp hF rfl) fun a hF =>
          ls <| q1 hF rfl (e_fa hF fa60_4 rfl) fun a hF =>
          ls <| q1 hF rfl (e_ld hF Try.isAgg58 rfl ((St.ld hS).cellB (.head _) rfl)) fun a hF =>
          ls <| q1 hF rfl (e_move hF rfl) fun a hF =>
          ls <| mp_del (kv := kI) hF hS (keyInt Try.runUnderlying3) Try.runUnderlying58 rfl rfl (.tail (.tail (.tail .head))) fun w hS => ?_
        replace hS := hS.bigSub (perase_sub line g.pm) (.tail (.tail (.tail (.tail .head))))
        refine re <| tn <| ?_
        refine th <| rg <| ls <| q1 hF rfl (e_asg hF rfl) fun a hF =>
          re <| tn <| ?_
        refine wr <| ?_
        refine r1 hF Try.results16 rfl ⟨{ g with pm := perase line g.pm }, by rw [if_pos (by omega)], out_F hf (by omega), ?_⟩
        have e1 := hS.endMut
        rw [outM, if_pos (by omega)]
        simp only [memA, memL, applyW_len, pmV_erase]
        exact e1

end Go.LL
