/- Walks over the layer of lines: Copy. No condition beyond each theorem's own premises. -/
import Derived.Test.YtkgaliichchanaaLS6
namespace Go.LL
open Go Go.Proofs


set_option maxRecDepth 100000 in
set_option maxHeartbeats 1000000 in
theorem copy_c (w0 : World) (h : PH) (p : Nat) (g : MG) (m : MS) (hm : MemR (hp w0) p g m) (hf : MemF h g m) (hi : MInv m) :
    Tot Try.prog 25 #[.pointer (some ⟨p, 0, none⟩)] w0 (fun v w' => ∃ p' g', v = .pointer (some ⟨p', 0, none⟩) ∧ MemF h g' m ∧ Fresh w0 (memA p' g' m) w') := by
  refine fn0 (args := [.pointer (some ⟨p, 0, none⟩)]) (F := [(0, .pointer (some ⟨p, 0, none⟩))]) Try.func25 rfl Try.ntmps25 rfl rfl fun a hF => ?_
  have hS : St w0 Nil [hp w0] [] w0 := .start (by simp [hp_le])
  refine th <| rg <| ls <| q1 hF rfl (e_asg hF rfl) fun a hF =>
    re <| tn <| ?_
  refine th <| rdL sub_nil 16 hS wide fun w hS => ?_
  refine d1 (i := 0) rfl (by kernel_rfl) (by kernel_rfl) (hS.lds (fun _ hx => hx) sub_nil) hF rfl (fun _ _ _ h => h) (fun w hl => e_move hF rfl) fun a hF =>
    d1 (i := 1) rfl (by kernel_rfl) (by kernel_rfl) (hS.lds (fun _ hx => hx) sub_nil) hF rfl (fun _ _ _ h => h) (fun w hl => e_nilp hF rfl) fun a hF =>
    d1 (i := 2) rfl (by kernel_rfl) (by kernel_rfl) (hS.lds (fun _ hx => hx) sub_nil) hF rfl (fun _ _ _ h => h) (fun w hl => e_fa hF fa60_0 rfl) fun a hF =>
    d1 (i := 3) rfl (by kernel_rfl) (by kernel_rfl) (hS.lds (fun _ hx => hx) sub_nil) hF rfl (fun _ _ _ h => h) (fun w hl => e_ld hF Try.isAgg26 rfl (hl.cellH (.head _) (ph_cell hm.blk rfl))) fun a hF =>
    d1 (i := 4) rfl (by kernel_rfl) (by kernel_rfl) (hS.lds (fun _ hx => hx) sub_nil) hF rfl (fun _ _ _ h => h) (fun w hl => e_move hF rfl) fun a hF =>
    d1 (i := 5) rfl (by kernel_rfl) (by kernel_rfl) (hS.lds (fun _ hx => hx) sub_nil) hF rfl (fun _ _ _ h => h) (fun w hl => e_nilp hF rfl) fun a hF =>
    d1 (i := 6) rfl (by kernel_rfl) (by kernel_rfl) (hS.lds (fun _ hx => hx) sub_nil) hF rfl (fun _ _ _ h => h) (fun w hl => e_fa hF fa60_1 rfl) fun a hF =>
    d1 (i := 7) rfl (by kernel_rfl) (by kernel_rfl) (hS.lds (fun _ hx => hx) sub_nil) hF rfl (fun _ _ _ h => h) (fun w hl => e_ld hF Try.isAgg26 rfl (hl.cellH (.head _) (ph_cell hm.blk rfl))) fun a hF =>
    d1 (i := 8) rfl (by kernel_rfl) (by kernel_rfl) (hS.lds (fun _ hx => hx) sub_nil) hF rfl (fun _ _ _ h => h) (fun w hl => e_move hF rfl) fun a hF =>
    d1 (i := 10) rfl (by kernel_rfl) (by kernel_rfl) (hS.lds (fun _ hx => hx) sub_nil) hF rfl (fun _ _ _ h => h) (fun w hl => e_move hF rfl) fun a hF =>
    da2 (i := 9) (j := 12) (by kernel_rfl) ?_ ?_
  ·
    refine di (i := 9) rfl <| c1 hF rfl Try.call14 (all_c _ _ _ _ (hm.mono (hS.hs _ (.head _))) hi) ⟨rfl, trivial⟩ (fun v w a hR hF => ?_)
    obtain ⟨oal, cal, rfl, hfr⟩ := hR
    replace hS := hS.fresh hfr
    clear hfr
    refine ⟨fun _ => (hS.lds (fun _ hx => hx) sub_nil), ?_⟩
    refine da2 (i := 11) (j := 12) (by kernel_rfl) ?_ ?_
    ·
      refine di (i := 11) rfl <| c1 hF rfl Try.call15 (kept_c _ _ _ _ (hm.mono (hS.hs _ (.head _))) hi) ⟨rfl, trivial⟩ (fun v w a hR hF => ?_)
      obtain ⟨oak, cak, rfl, hfr⟩ := hR
      replace hS := hS.fresh hfr
      clear hfr
      refine ⟨fun _ => (hS.lds (fun _ hx => hx) sub_nil), ?_⟩
      refine da1 (i := 12) (by kernel_rfl) ?_
      refine di (i := 12) rfl <| a_map hF rfl hS fun bm w a hS hF => ?_
      refine ⟨fun _ => (hS.lds (fun _ hx => hx) sub_nil), ?_⟩
      refine d1 (i := 13) rfl (by kernel_rfl) (by kernel_rfl) (hS.lds (fun _ hx => hx) sub_nil) hF rfl (fun _ _ _ h => h) (fun w hl => e_bld [_, _, _, _, _] hF ⟨rfl, rfl, rfl, rfl, rfl, trivial⟩ (fun w => by kernel_rfl)) fun a hF =>
        da1 (i := 14) (by kernel_rfl) ?_
      refine di (i := 14) rfl <| a_box hF rfl hS rfl rfl fun bp w a hS hF => ?_
      refine ⟨fun _ => (hS.lds (fun _ hx => hx) sub_nil), ?_⟩
      refine d1 (i := 15) rfl (by kernel_rfl) (by kernel_rfl) (hS.lds (fun _ hx => hx) sub_nil) hF rfl (fun _ _ _ h => h) (fun w hl => e_asg hF rfl) fun a hF =>
        de (by kernel_rfl) <| tn <| ?_
      replace hS := hS.pickL (.cons (.tail .head) (.cons .head (.cons (.tail .head) (.cons .head .nil))))
      replace hS := hS.nilBig pmA
      replace hS := hS.pickL (L' := [blk bp (.cells #[.slice g.oo m.of.length g.co, .slice g.fo m.firsts.length g.cf, .slice oal m.l.length cal, .slice oak m.kept.length cak, .map (some bm)] 60 (0, 0)), imap kI bm (pmV []) 0, bigA pmA [], sla 3 1 oal m.l.length cal (ints m.l), sla 3 1 oak m.kept.length cak (ints m.kept)]) (.cons (.tail (.tail .head)) (.cons (.tail .head) (.cons .head (.cons .head (.cons .head .nil)))))
      refine th <| th <| rg <| ls <| q1 hF rfl (e_move hF rfl) fun a hF =>
        ls <| q1 hF rfl (e_nilp hF rfl) fun a hF =>
        ls <| q1 hF rfl (e_fa hF fa60_4 rfl) fun a hF =>
        ls <| q1 hF rfl (e_ld hF Try.isAgg58 rfl ((St.ld hS).cellH (.head _) (ph_cell hm.blk rfl))) fun a hF =>
        ls <| Go.LM.m_range hF rfl hS Try.underlying58 rfl ((hS.hs _ (.head _)) _ _ hm.map) fun rI w a hS hF => ?_
      refine re <| tn <| ?_
      refine wb <| lp (α := Array Nat) (fun (seen : Array Nat) a w => ∃ (l' : List (Int × PE × Nat)) (c' : Nat), Fr 39 [(25, .pointer (some ⟨rI, 0, none⟩)), (3, .pointer (some ⟨bp, 0, none⟩))] a ∧ St w0 Nil [hp w0] [Go.LM.itr rI g.mb g.clk seen g.clk, blk bp (.cells #[.slice g.oo m.of.length g.co, .slice g.fo m.firsts.length g.cf, .slice oal m.l.length cal, .slice oak m.kept.length cak, .map (some bm)] 60 (0, 0)), imap kI bm (pmV l') c', bigA pmA l', sla 3 1 oal m.l.length cal (ints m.l), sla 3 1 oak m.kept.length cak (ints m.kept)] w ∧ CP seen g.pm l' c') (fun seen => Go.LM.lft (pmV g.pm) seen) #[] ⟨[], 0, hF.has ⟨rfl, rfl, trivial⟩, hS, CP.start _⟩ ?_
      clear hF hS
      rintro seen a w ⟨l', c', hF, hS, hcp⟩
      refine th <| rg <| ls <| Go.LM.m_next hF rfl hS rfl ((hS.hs _ (.head _)) _ _ hm.map) hf.good (.head _) ?_ ?_
      ·
        intro e he hs a w hU hF
        replace hS := hU _ .head
        clear hU
        obtain ⟨x, hx, rfl⟩ := List.mem_map.1 he
        have hfw : x.2.1.ws.length ≤ 1000000 := by have := hi.few x.1; rwa [hm.pend, pws_of_mem hf.dis hx] at this
        refine ls <| q1 hF rfl (e_ext hF rfl rfl) fun a hF =>
          re <| tn <| ?_
        refine th <| ct hF rfl <| wk <| tn <| ?_
        refine wb <| th <| rg <| ls <| q1 hF rfl (e_as (v' := .tuple #[.int .i64 x.1, .slice x.2.1.oa x.2.1.ws.length x.2.1.cap]) (Go.LM.e_entry hF rfl ((St.ld hS).ok _ (.head _)) ((hS.hs _ (.head _)) _ _ hm.map) hf.good he) rfl) fun a hF =>
          ls <| q1 hF rfl (e_ext hF rfl rfl) fun a hF =>
          ls <| q1 hF rfl (e_ext hF rfl rfl) fun a hF =>
          ls <| q1 hF rfl (e_asg hF rfl) fun a hF =>
          ls <| q1 hF rfl (e_asg hF rfl) fun a hF =>
          re <| tn <| ?_
        refine rdL (sub_cons (.head _) (sub_cons (.tail _ (.head _)) (sub_cons (.tail _ (.tail _ (.head _))) (sub_cons (.tail _ (.tail _ (.tail _ (.head _)))) (sub_cons (.tail _ (.tail _ (.tail _ (.tail _ (.head _))))) (sub_cons (.tail _ (.tail _ (.tail _ (.tail _ (.tail _ (.head _)))))) sub_nil)))))) 7 hS wide fun w hS => ?_
        refine d1 (i := 0) rfl (by kernel_rfl) (by kernel_rfl) (hS.lds (fun _ hx => hx) (sub_cons (.head _) (sub_cons (.tail _ (.head _)) (sub_cons (.tail _ (.tail _ (.head _))) (sub_cons (.tail _ (.tail _ (.tail _ (.head _)))) (sub_cons (.tail _ (.tail _ (.tail _ (.tail _ (.head _))))) (sub_cons (.tail _ (.tail _ (.tail _ (.tail _ (.tail _ (.head _)))))) sub_nil))))))) hF rfl (fun _ _ _ h => h) (fun w hl => e_move hF rfl) fun a hF =>
          d1 (i := 1) rfl (by kernel_rfl) (by kernel_rfl) (hS.lds (fun _ hx => hx) (sub_cons (.head _) (sub_cons (.tail _ (.head _)) (sub_cons (.tail _ (.tail _ (.head _))) (sub_cons (.tail _ (.tail _ (.tail _ (.head _)))) (sub_cons (.tail _ (.tail _ (.tail _ (.tail _ (.head _))))) (sub_cons (.tail _ (.tail _ (.tail _ (.tail _ (.tail _ (.head _)))))) sub_nil))))))) hF rfl (fun _ _ _ h => h) (fun w hl => e_nilp hF rfl) fun a hF =>
          d1 (i := 2) rfl (by kernel_rfl) (by kernel_rfl) (hS.lds (fun _ hx => hx) (sub_cons (.head _) (sub_cons (.tail _ (.head _)) (sub_cons (.tail _ (.tail _ (.head _))) (sub_cons (.tail _ (.tail _ (.tail _ (.head _)))) (sub_cons (.tail _ (.tail _ (.tail _ (.tail _ (.head _))))) (sub_cons (.tail _ (.tail _ (.tail _ (.tail _ (.tail _ (.head _)))))) sub_nil))))))) hF rfl (fun _ _ _ h => h) (fun w hl => e_fa hF fa60_4 rfl) fun a hF =>
          d1 (i := 3) rfl (by kernel_rfl) (by kernel_rfl) (hS.lds (fun _ hx => hx) (sub_cons (.head _) (sub_cons (.tail _ (.head _)) (sub_cons (.tail _ (.tail _ (.head _))) (sub_cons (.tail _ (.tail _ (.tail _ (.head _)))) (sub_cons (.tail _ (.tail _ (.tail _ (.tail _ (.head _))))) (sub_cons (.tail _ (.tail _ (.tail _ (.tail _ (.tail _ (.head _)))))) sub_nil))))))) hF rfl (fun _ _ _ h => h) (fun w hl => e_ld hF Try.isAgg58 rfl (hl.cellB (.tail _ (.head _)) rfl)) fun a hF =>
          d1 (i := 4) rfl (by kernel_rfl) (by kernel_rfl) (hS.lds (fun _ hx => hx) (sub_cons (.head _) (sub_cons (.tail _ (.head _)) (sub_cons (.tail _ (.tail _ (.head _))) (sub_cons (.tail _ (.tail _ (.tail _ (.head _)))) (sub_cons (.tail _ (.tail _ (.tail _ (.tail _ (.head _))))) (sub_cons (.tail _ (.tail _ (.tail _ (.tail _ (.tail _ (.head _)))))) sub_nil))))))) hF rfl (fun _ _ _ h => h) (fun w hl => e_move hF rfl) fun a hF =>
          d1 (i := 5) rfl (by kernel_rfl) (by kernel_rfl) (hS.lds (fun _ hx => hx) (sub_cons (.head _) (sub_cons (.tail _ (.head _)) (sub_cons (.tail _ (.tail _ (.head _))) (sub_cons (.tail _ (.tail _ (.tail _ (.head _)))) (sub_cons (.tail _ (.tail _ (.tail _ (.tail _ (.head _))))) (sub_cons (.tail _ (.tail _ (.tail _ (.tail _ (.tail _ (.head _)))))) sub_nil))))))) hF rfl (fun _ _ _ h => h) (fun w hl => e_move hF rfl) fun a hF =>
          da1 (i := 6) (by kernel_rfl) ?_
        refine di (i := 6) rfl <| c1 hF rfl Try.call35 (cloneW _ _ _ x.2.1.ws (hS.rdH (.head _) (hm.ents x hx).1) hfw) ⟨rfl, trivial⟩ (fun v w a hR hF => ?_)
        obtain ⟨oc, cc, rfl, hfr⟩ := hR
        replace hS := hS.fresh hfr
        clear hfr
        refine ⟨fun _ => (hS.lds (fun _ hx => hx) (sub_cons (.tail _ (.head _)) (sub_cons (.tail _ (.tail _ (.head _))) (sub_cons (.tail _ (.tail _ (.tail _ (.head _)))) (sub_cons (.tail _ (.tail _ (.tail _ (.tail _ (.head _))))) (sub_cons (.tail _ (.tail _ (.tail _ (.tail _ (.tail _ (.head _)))))) (sub_cons (.tail _ (.tail _ (.tail _ (.tail _ (.tail _ (.tail _ (.head _))))))) sub_nil))))))), ?_⟩
        refine da1 (i := 7) (by kernel_rfl) ?_
        refine di (i := 7) rfl <| mp_upd (kv := kI) (k := x.1) (v := (PE.mk oc cc x.2.1.ws).v) hF hS (keyInt Try.runUnderlying3) Try.runUnderlying58 rfl rfl rfl (.tail (.tail (.tail .head))) fun w hS => ?_
        have hn := hcp.fresh hf.good hf.dis hx hs
        rw [imap_put hn] at hS
        refine ⟨fun h => absurd rfl h, ?_⟩
        refine de (by kernel_rfl) <| bn <| tn <| ?_
        have hcp2 := hcp.put hf.good hf.dis hx hs (e := ⟨oc, cc, x.2.1.ws⟩) rfl
        replace hS := hS.pickL (L' := [pmA (x.1, ⟨oc, cc, x.2.1.ws⟩, c'), bigA pmA l', Go.LM.itr rI g.mb g.clk (seen.push x.2.2) g.clk, blk bp (.cells #[.slice g.oo m.of.length g.co, .slice g.fo m.firsts.length g.cf, .slice oal m.l.length cal, .slice oak m.kept.length cak, .map (some bm)] 60 (0, 0)), imap kI bm (pmV (l' ++ [(x.1, ⟨oc, cc, x.2.1.ws⟩, c')])) (c' + 1), sla 3 1 oal m.l.length cal (ints m.l), sla 3 1 oak m.kept.length cak (ints m.kept)]) (.cons .head (.cons (.tail (.tail (.tail .head))) (.cons .head (.cons .head (.cons .head (.cons .head (.cons .head .nil)))))))
        replace hS := hS.bigPush (f := pmA) (L2 := [bigA pmA (l' ++ [(x.1, ⟨oc, cc, x.2.1.ws⟩, c')]), Go.LM.itr rI g.mb g.clk (seen.push x.2.2) g.clk, blk bp (.cells #[.slice g.oo m.of.length g.co, .slice g.fo m.firsts.length g.cf, .slice oal m.l.length cal, .slice oak m.kept.length cak, .map (some bm)] 60 (0, 0)), imap kI bm (pmV (l' ++ [(x.1, ⟨oc, cc, x.2.1.ws⟩, c')])) (c' + 1), sla 3 1 oal m.l.length cal (ints m.l), sla 3 1 oak m.kept.length cak (ints m.kept)]) .head .head
        replace hS := hS.pickL (.cons (.tail .head) (.cons (.tail .head) (.cons (.tail .head) (.cons .head (.cons .head (.cons .head .nil))))))
        exact ⟨seen.push x.2.2, ⟨_, _, hF.has ⟨rfl, rfl, trivial⟩, hS, hcp2⟩, Go.LM.lft_lt he hs⟩
      ·
        intro hall a hF
        refine ls <| q1 hF rfl (e_ext hF rfl rfl) fun a hF =>
          re <| tn <| ?_
        refine th <| cf hF rfl <| we <| tx <| tx <| bx <| tn <| ?_
        replace hS := hS.drop .head
        replace hS := hS.pickL (.cons .head (.cons (.tail (.tail .head)) (.cons (.tail (.tail .head)) (.cons .head (.cons .head .nil)))))
        refine th <| rg <| ls <| q1 hF rfl (e_move hF rfl) fun a hF =>
          ls <| q1 hF rfl (e_asg hF rfl) fun a hF =>
          re <| tn <| ?_
        refine wr <| ?_
        exact r1 hF Try.results25 rfl ⟨bp, ⟨g.oo, g.fo, oal, oak, g.co, g.cf, cal, cak, bm, c', l'⟩, rfl, ⟨hf.of, hf.firsts, fun k => by rw [hf.pend]; exact hcp.done hall k, hcp.dis, hcp.good⟩, hS.endFreshL⟩
    ·
      refine di (i := 12) rfl <| a_map hF rfl hS fun bm w a hS hF => ?_
      refine ⟨fun _ => (hS.lds (fun _ hx => hx) sub_nil), ?_⟩
      refine da1 (i := 11) (by kernel_rfl) ?_
      refine di (i := 11) rfl <| c1 hF rfl Try.call15 (kept_c _ _ _ _ (hm.mono (hS.hs _ (.head _))) hi) ⟨rfl, trivial⟩ (fun v w a hR hF => ?_)
      obtain ⟨oak, cak, rfl, hfr⟩ := hR
      replace hS := hS.fresh hfr
      clear hfr
      refine ⟨fun _ => (hS.lds (fun _ hx => hx) sub_nil), ?_⟩
      refine d1 (i := 13) rfl (by kernel_rfl) (by kernel_rfl) (hS.lds (fun _ hx => hx) sub_nil) hF rfl (fun _ _ _ h => h) (fun w hl => e_bld [_, _, _, _, _] hF ⟨rfl, rfl, rfl, rfl, rfl, trivial⟩ (fun w => by kernel_rfl)) fun a hF =>
        da1 (i := 14) (by kernel_rfl) ?_
      refine di (i := 14) rfl <| a_box hF rfl hS rfl rfl fun bp w a hS hF => ?_
      refine ⟨fun _ => (hS.lds (fun _ hx => hx) sub_nil), ?_⟩
      refine d1 (i := 15) rfl (by kernel_rfl) (by kernel_rfl) (hS.lds (fun _ hx => hx) sub_nil) hF rfl (fun _ _ _ h => h) (fun w hl => e_asg hF rfl) fun a hF =>
        de (by kernel_rfl) <| tn <| ?_
      replace hS := hS.pickL (.cons (.tail (.tail .head)) (.cons .head (.cons (.tail .head) (.cons .head .nil))))
      replace hS := hS.nilBig pmA
      replace hS := hS.pickL (L' := [blk bp (.cells #[.slice g.oo m.of.length g.co, .slice g.fo m.firsts.length g.cf, .slice oal m.l.length cal, .slice oak m.kept.length cak, .map (some bm)] 60 (0, 0)), imap kI bm (pmV []) 0, bigA pmA [], sla 3 1 oal m.l.length cal (ints m.l), sla 3 1 oak m.kept.length cak (ints m.kept)]) (.cons (.tail (.tail .head)) (.cons (.tail .head) (.cons .head (.cons .head (.cons .head .nil)))))
      refine th <| th <| rg <| ls <| q1 hF rfl (e_move hF rfl) fun a hF =>
        ls <| q1 hF rfl (e_nilp hF rfl) fun a hF =>
        ls <| q1 hF rfl (e_fa hF fa60_4 rfl) fun a hF =>
        ls <| q1 hF rfl (e_ld hF Try.isAgg58 rfl ((St.ld hS).cellH (.head _) (ph_cell hm.blk rfl))) fun a hF =>
        ls <| Go.LM.m_range hF rfl hS Try.underlying58 rfl ((hS.hs _ (.head _)) _ _ hm.map) fun rI w a hS hF => ?_
      refine re <| tn <| ?_
      refine wb <| lp (α := Array Nat) (fun (seen : Array Nat) a w => ∃ (l' : List (Int × PE × Nat)) (c' : Nat), Fr 39 [(25, .pointer (some ⟨rI, 0, none⟩)), (3, .pointer (some ⟨bp, 0, none⟩))] a ∧ St w0 Nil [hp w0] [Go.LM.itr rI g.mb g.clk seen g.clk, blk bp (.cells #[.slice g.oo m.of.length g.co, .slice g.fo m.firsts.length g.cf, .slice oal m.l.length cal, .slice oak m.kept.length cak, .map (some bm)] 60 (0, 0)), imap kI bm (pmV l') c', bigA pmA l', sla 3 1 oal m.l.length cal (ints m.l), sla 3 1 oak m.kept.length cak (ints m.kept)] w ∧ CP seen g.pm l' c') (fun seen => Go.LM.lft (pmV g.pm) seen) #[] ⟨[], 0, hF.has ⟨rfl, rfl, trivial⟩, hS, CP.start _⟩ ?_
      clear hF hS
      rintro seen a w ⟨l', c', hF, hS, hcp⟩
      refine th <| rg <| ls <| Go.LM.m_next hF rfl hS rfl ((hS.hs _ (.head _)) _ _ hm.map) hf.good (.head _) ?_ ?_
      ·
        intro e he hs a w hU hF
        replace hS := hU _ .head
        clear hU
        obtain ⟨x, hx, rfl⟩ := List.mem_map.1 he
        have hfw : x.2.1.ws.length ≤ 1000000 := by have := hi.few x.1; rwa [hm.pend, pws_of_mem hf.dis hx] at this
        refine ls <| q1 hF rfl (e_ext hF rfl rfl) fun a hF =>
          re <| tn <| ?_
        refine th <| ct hF rfl <| wk <| tn <| ?_
        refine wb <| th <| rg <| ls <| q1 hF rfl (e_as (v' := .tuple #[.int .i64 x.1, .slice x.2.1.oa x.2.1.ws.length x.2.1.cap]) (Go.LM.e_entry hF rfl ((St.ld hS).ok _ (.head _)) ((hS.hs _ (.head _)) _ _ hm.map) hf.good he) rfl) fun a hF =>
          ls <| q1 hF rfl (e_ext hF rfl rfl) fun a hF =>
          ls <| q1 hF rfl (e_ext hF rfl rfl) fun a hF =>
          ls <| q1 hF rfl (e_asg hF rfl) fun a hF =>
          ls <| q1 hF rfl (e_asg hF rfl) fun a hF =>
          re <| tn <| ?_
        refine rdL (sub_cons (.head _) (sub_cons (.tail _ (.head _)) (sub_cons (.tail _ (.tail _ (.head _))) (sub_cons (.tail _ (.tail _ (.tail _ (.head _)))) (sub_cons (.tail _ (.tail _ (.tail _ (.tail _ (.head _))))) (sub_cons (.tail _ (.tail _ (.tail _ (.tail _ (.tail _ (.head _)))))) sub_nil)))))) 7 hS wide fun w hS => ?_
        refine d1 (i := 0) rfl (by kernel_rfl) (by kernel_rfl) (hS.lds (fun _ hx => hx) (sub_cons (.head _) (sub_cons (.tail _ (.head _)) (sub_cons (.tail _ (.tail _ (.head _))) (sub_cons (.tail _ (.tail _ (.tail _ (.head _)))) (sub_cons (.tail _ (.tail _ (.tail _ (.tail _ (.head _))))) (sub_cons (.tail _ (.tail _ (.tail _ (.tail _ (.tail _ (.head _)))))) sub_nil))))))) hF rfl (fun _ _ _ h => h) (fun w hl => e_move hF rfl) fun a hF =>
          d1 (i := 1) rfl (by kernel_rfl) (by kernel_rfl) (hS.lds (fun _ hx => hx) (sub_cons (.head _) (sub_cons (.tail _ (.head _)) (sub_cons (.tail _ (.tail _ (.head _))) (sub_cons (.tail _ (.tail _ (.tail _ (.head _)))) (sub_cons (.tail _ (.tail _ (.tail _ (.tail _ (.head _))))) (sub_cons (.tail _ (.tail _ (.tail _ (.tail _ (.tail _ (.head _)))))) sub_nil))))))) hF rfl (fun _ _ _ h => h) (fun w hl => e_nilp hF rfl) fun a hF =>
          d1 (i := 2) rfl (by kernel_rfl) (by kernel_rfl) (hS.lds (fun _ hx => hx) (sub_cons (.head _) (sub_cons (.tail _ (.head _)) (sub_cons (.tail _ (.tail _ (.head _))) (sub_cons (.tail _ (.tail _ (.tail _ (.head _)))) (sub_cons (.tail _ (.tail _ (.tail _ (.tail _ (.head _))))) (sub_cons (.tail _ (.tail _ (.tail _ (.tail _ (.tail _ (.head _)))))) sub_nil))))))) hF rfl (fun _ _ _ h => h) (fun w hl => e_fa hF fa60_4 rfl) fun a hF =>
          d1 (i := 3) rfl (by kernel_rfl) (by kernel_rfl) (hS.lds (fun _ hx => hx) (sub_cons (.head _) (sub_cons (.tail _ (.head _)) (sub_cons (.tail _ (.tail _ (.head _))) (sub_cons (.tail _ (.tail _ (.tail _ (.head _)))) (sub_cons (.tail _ (.tail _ (.tail _ (.tail _ (.head _))))) (sub_cons (.tail _ (.tail _ (.tail _ (.tail _ (.tail _ (.head _)))))) sub_nil))))))) hF rfl (fun _ _ _ h => h) (fun w hl => e_ld hF Try.isAgg58 rfl (hl.cellB (.tail _ (.head _)) rfl)) fun a hF =>
          d1 (i := 4) rfl (by kernel_rfl) (by kernel_rfl) (hS.lds (fun _ hx => hx) (sub_cons (.head _) (sub_cons (.tail _ (.head _)) (sub_cons (.tail _ (.tail _ (.head _))) (sub_cons (.tail _ (.tail _ (.tail _ (.head _)))) (sub_cons (.tail _ (.tail _ (.tail _ (.tail _ (.head _))))) (sub_cons (.tail _ (.tail _ (.tail _ (.tail _ (.tail _ (.head _)))))) sub_nil))))))) hF rfl (fun _ _ _ h => h) (fun w hl => e_move hF rfl) fun a hF =>
          d1 (i := 5) rfl (by kernel_rfl) (by kernel_rfl) (hS.lds (fun _ hx => hx) (sub_cons (.head _) (sub_cons (.tail _ (.head _)) (sub_cons (.tail _ (.tail _ (.head _))) (sub_cons (.tail _ (.tail _ (.tail _ (.head _)))) (sub_cons (.tail _ (.tail _ (.tail _ (.tail _ (.head _))))) (sub_cons (.tail _ (.tail _ (.tail _ (.tail _ (.tail _ (.head _)))))) sub_nil))))))) hF rfl (fun _ _ _ h => h) (fun w hl => e_move hF rfl) fun a hF =>
          da1 (i := 6) (by kernel_rfl) ?_
        refine di (i := 6) rfl <| c1 hF rfl Try.call35 (cloneW _ _ _ x.2.1.ws (hS.rdH (.head _) (hm.ents x hx).1) hfw) ⟨rfl, trivial⟩ (fun v w a hR hF => ?_)
        obtain ⟨oc, cc, rfl, hfr⟩ := hR
        replace hS := hS.fresh hfr
        clear hfr
        refine ⟨fun _ => (hS.lds (fun _ hx => hx) (sub_cons (.tail _ (.head _)) (sub_cons (.tail _ (.tail _ (.head _))) (sub_cons (.tail _ (.tail _ (.tail _ (.head _)))) (sub_cons (.tail _ (.tail _ (.tail _ (.tail _ (.head _))))) (sub_cons (.tail _ (.tail _ (.tail _ (.tail _ (.tail _ (.head _)))))) (sub_cons (.tail _ (.tail _ (.tail _ (.tail _ (.tail _ (.tail _ (.head _))))))) sub_nil))))))), ?_⟩
        refine da1 (i := 7) (by kernel_rfl) ?_
        refine di (i := 7) rfl <| mp_upd (kv := kI) (k := x.1) (v := (PE.mk oc cc x.2.1.ws).v) hF hS (keyInt Try.runUnderlying3) Try.runUnderlying58 rfl rfl rfl (.tail (.tail (.tail .head))) fun w hS => ?_
        have hn := hcp.fresh hf.good hf.dis hx hs
        rw [imap_put hn] at hS
        refine ⟨fun h => absurd rfl h, ?_⟩
        refine de (by kernel_rfl) <| bn <| tn <| ?_
        have hcp2 := hcp.put hf.good hf.dis hx hs (e := ⟨oc, cc, x.2.1.ws⟩) rfl
        replace hS := hS.pickL (L' := [pmA (x.1, ⟨oc, cc, x.2.1.ws⟩, c'), bigA pmA l', Go.LM.itr rI g.mb g.clk (seen.push x.2.2) g.clk, blk bp (.cells #[.slice g.oo m.of.length g.co, .slice g.fo m.firsts.length g.cf, .slice oal m.l.length cal, .slice oak m.kept.length cak, .map (some bm)] 60 (0, 0)), imap kI bm (pmV (l' ++ [(x.1, ⟨oc, cc, x.2.1.ws⟩, c')])) (c' + 1), sla 3 1 oal m.l.length cal (ints m.l), sla 3 1 oak m.kept.length cak (ints m.kept)]) (.cons .head (.cons (.tail (.tail (.tail .head))) (.cons .head (.cons .head (.cons .head (.cons .head (.cons .head .nil)))))))
        replace hS := hS.bigPush (f := pmA) (L2 := [bigA pmA (l' ++ [(x.1, ⟨oc, cc, x.2.1.ws⟩, c')]), Go.LM.itr rI g.mb g.clk (seen.push x.2.2) g.clk, blk bp (.cells #[.slice g.oo m.of.length g.co, .slice g.fo m.firsts.length g.cf, .slice oal m.l.length cal, .slice oak m.kept.length cak, .map (some bm)] 60 (0, 0)), imap kI bm (pmV (l' ++ [(x.1, ⟨oc, cc, x.2.1.ws⟩, c')])) (c' + 1), sla 3 1 oal m.l.length cal (ints m.l), sla 3 1 oak m.kept.length cak (ints m.kept)]) .head .head
        replace hS := hS.pickL (.cons (.tail .head) (.cons (.tail .head) (.cons (.tail .head) (.cons .head (.cons .head (.cons .head .nil))))))
        exact ⟨seen.push x.2.2, ⟨_, _, hF.has ⟨rfl, rfl, trivial⟩, hS, hcp2⟩, Go.LM.lft_lt he hs⟩
      ·
        intro hall a hF
        refine ls <| q1 hF rfl (e_ext hF rfl rfl) fun a hF =>
          re <| tn <| ?_
        refine th <| cf hF rfl <| we <| tx <| tx <| bx <| tn <| ?_
        replace hS := hS.drop .head
        replace hS := hS.pickL (.cons .head (.cons (.tail (.tail .head)) (.cons (.tail (.tail .head)) (.cons .head (.cons .head .nil)))))
        refine th <| rg <| ls <| q1 hF rfl (e_move hF rfl) fun a hF =>
          ls <| q1 hF rfl (e_asg hF rfl) fun a hF =>
          re <| tn <| ?_
        refine wr <| ?_
        exact r1 hF Try.results25 rfl ⟨bp, ⟨g.oo, g.fo, oal, oak, g.co, g.cf, cal, cak, bm, c', l'⟩, rfl, ⟨hf.of, hf.firsts, fun k => by rw [hf.pend]; exact hcp.done hall k, hcp.dis, hcp.good⟩, hS.endFreshL⟩
  ·
    refine di (i := 12) rfl <| a_map hF rfl hS fun bm w a hS hF => ?_
    refine ⟨fun _ => (hS.lds (fun _ hx => hx) sub_nil), ?_⟩
    refine da1 (i := 9) (by kernel_rfl) ?_
    refine di (i := 9) rfl <| c1 hF rfl Try.call14 (all_c _ _ _ _ (hm.mono (hS.hs _ (.head _))) hi) ⟨rfl, trivial⟩ (fun v w a hR hF => ?_)
    obtain ⟨oal, cal, rfl, hfr⟩ := hR
    replace hS := hS.fresh hfr
    clear hfr
    refine ⟨fun _ => (hS.lds (fun _ hx => hx) sub_nil), ?_⟩
    refine da1 (i := 11) (by kernel_rfl) ?_
    refine di (i := 11) rfl <| c1 hF rfl Try.call15 (kept_c _ _ _ _ (hm.mono (hS.hs _ (.head _))) hi) ⟨rfl, trivial⟩ (fun v w a hR hF => ?_)
    obtain ⟨oak, cak, rfl, hfr⟩ := hR
    replace hS := hS.fresh hfr
    clear hfr
    refine ⟨fun _ => (hS.lds (fun _ hx => hx) sub_nil), ?_⟩
    refine d1 (i := 13) rfl (by kernel_rfl) (by kernel_rfl) (hS.lds (fun _ hx => hx) sub_nil) hF rfl (fun _ _ _ h => h) (fun w hl => e_bld [_, _, _, _, _] hF ⟨rfl, rfl, rfl, rfl, rfl, trivial⟩ (fun w => by kernel_rfl)) fun a hF =>
      da1 (i := 14) (by kernel_rfl) ?_
    refine di (i := 14) rfl <| a_box hF rfl hS rfl rfl fun bp w a hS hF => ?_
    refine ⟨fun _ => (hS.lds (fun _ hx => hx) sub_nil), ?_⟩
    refine d1 (i := 15) rfl (by kernel_rfl) (by kernel_rfl) (hS.lds (fun _ hx => hx) sub_nil) hF rfl (fun _ _ _ h => h) (fun w hl => e_asg hF rfl) fun a hF =>
      de (by kernel_rfl) <| tn <| ?_
    replace hS := hS.pickL (.cons (.tail (.tail (.tail .head))) (.cons .head (.cons (.tail .head) (.cons .head .nil))))
    replace hS := hS.nilBig pmA
    replace hS := hS.pickL (L' := [blk bp (.cells #[.slice g.oo m.of.length g.co, .slice g.fo m.firsts.length g.cf, .slice oal m.l.length cal, .slice oak m.kept.length cak, .map (some bm)] 60 (0, 0)), imap kI bm (pmV []) 0, bigA pmA [], sla 3 1 oal m.l.length cal (ints m.l), sla 3 1 oak m.kept.length cak (ints m.kept)]) (.cons (.tail (.tail .head)) (.cons (.tail .head) (.cons .head (.cons .head (.cons .head .nil)))))
    refine th <| th <| rg <| ls <| q1 hF rfl (e_move hF rfl) fun a hF =>
      ls <| q1 hF rfl (e_nilp hF rfl) fun a hF =>
      ls <| q1 hF rfl (e_fa hF fa60_4 rfl) fun a hF =>
      ls <| q1 hF rfl (e_ld hF Try.isAgg58 rfl ((St.ld hS).cellH (.head _) (ph_cell hm.blk rfl))) fun a hF =>
      ls <| Go.LM.m_range hF rfl hS Try.underlying58 rfl ((hS.hs _ (.head _)) _ _ hm.map) fun rI w a hS hF => ?_
    refine re <| tn <| ?_
    refine wb <| lp (α := Array Nat) (fun (seen : Array Nat) a w => ∃ (l' : List (Int × PE × Nat)) (c' : Nat), Fr 39 [(25, .pointer (some ⟨rI, 0, none⟩)), (3, .pointer (some ⟨bp, 0, none⟩))] a ∧ St w0 Nil [hp w0] [Go.LM.itr rI g.mb g.clk seen g.clk, blk bp (.cells #[.slice g.oo m.of.length g.co, .slice g.fo m.firsts.length g.cf, .slice oal m.l.length cal, .slice oak m.kept.length cak, .map (some bm)] 60 (0, 0)), imap kI bm (pmV l') c', bigA pmA l', sla 3 1 oal m.l.length cal (ints m.l), sla 3 1 oak m.kept.length cak (ints m.kept)] w ∧ CP seen g.pm l' c') (fun seen => Go.LM.lft (pmV g.pm) seen) #[] ⟨[], 0, hF.has ⟨rfl, rfl, trivial⟩, hS, CP.start _⟩ ?_
    clear hF hS
    rintro seen a w ⟨l', c', hF, hS, hcp⟩
    refine th <| rg <| ls <| Go.LM.m_next hF rfl hS rfl ((hS.hs _ (.head _)) _ _ hm.map) hf.good (.head _) ?_ ?_
    ·
      intro e he hs a w hU hF
      replace hS := hU _ .head
      clear hU
      obtain ⟨x, hx, rfl⟩ := List.mem_map.1 he
      have hfw : x.2.1.ws.length ≤ 1000000 := by have := hi.few x.1; rwa [hm.pend, pws_of_mem hf.dis hx] at this
      refine ls <| q1 hF rfl (e_ext hF rfl rfl) fun a hF =>
        re <| tn <| ?_
      refine th <| ct hF rfl <| wk <| tn <| ?_
      refine wb <| th <| rg <| ls <| q1 hF rfl (e_as (v' := .tuple #[.int .i64 x.1, .slice x.2.1.oa x.2.1.ws.length x.2.1.cap]) (Go.LM.e_entry hF rfl ((St.ld hS).ok _ (.head _)) ((hS.hs _ (.head _)) _ _ hm.map) hf.good he) rfl) fun a hF =>
        ls <| q1 hF rfl (e_ext hF rfl rfl) fun a hF =>
        ls <| q1 hF rfl (e_ext hF rfl rfl) fun a hF =>
        ls <| q1 hF rfl (e_asg hF rfl) fun a hF =>
        ls <| q1 hF rfl (e_asg hF rfl) fun a hF =>
        re <| tn <| ?_
      refine rdL (sub_cons (.head _) (sub_cons (.tail _ (.head _)) (sub_cons (.tail _ (.tail _ (.head _))) (sub_cons (.tail _ (.tail _ (.tail _ (.head _)))) (sub_cons (.tail _ (.tail _ (.tail _ (.tail _ (.head _))))) (sub_cons (.tail _ (.tail _ (.tail _ (.tail _ (.tail _ (.head _)))))) sub_nil)))))) 7 hS wide fun w hS => ?_
      refine d1 (i := 0) rfl (by kernel_rfl) (by kernel_rfl) (hS.lds (fun _ hx => hx) (sub_cons (.head _) (sub_cons (.tail _ (.head _)) (sub_cons (.tail _ (.tail _ (.head _))) (sub_cons (.tail _ (.tail _ (.tail _ (.head _)))) (sub_cons (.tail _ (.tail _ (.tail _ (.tail _ (.head _))))) (sub_cons (.tail _ (.tail _ (.tail _ (.tail _ (.tail _ (.head _)))))) sub_nil))))))) hF rfl (fun _ _ _ h => h) (fun w hl => e_move hF rfl) fun a hF =>
        d1 (i := 1) rfl (by kernel_rfl) (by kernel_rfl) (hS.lds (fun _ hx => hx) (sub_cons (.head _) (sub_cons (.tail _ (.head _)) (sub_cons (.tail _ (.tail _ (.head _))) (sub_cons (.tail _ (.tail _ (.tail _ (.head _)))) (sub_cons (.tail _ (.tail _ (.tail _ (.tail _ (.head _))))) (sub_cons (.tail _ (.tail _ (.tail _ (.tail _ (.tail _ (.head _)))))) sub_nil))))))) hF rfl (fun _ _ _ h => h) (fun w hl => e_nilp hF rfl) fun a hF =>
        d1 (i := 2) rfl (by kernel_rfl) (by kernel_rfl) (hS.lds (fun _ hx => hx) (sub_cons (.head _) (sub_cons (.tail _ (.head _)) (sub_cons (.tail _ (.tail _ (.head _))) (sub_cons (.tail _ (.tail _ (.tail _ (.head _)))) (sub_cons (.tail _ (.tail _ (.tail _ (.tail _ (.head _))))) (sub_cons (.tail _ (.tail _ (.tail _ (.tail _ (.tail _ (.head _)))))) sub_nil))))))) hF rfl (fun _ _ _ h => h) (fun w hl => e_fa hF fa60_4 rfl) fun a hF =>
        d1 (i := 3) rfl (by kernel_rfl) (by kernel_rfl) (hS.lds (fun _ hx => hx) (sub_cons (.head _) (sub_cons (.tail _ (.head _)) (sub_cons (.tail _ (.tail _ (.head _))) (sub_cons (.tail _ (.tail _ (.tail _ (.head _)))) (sub_cons (.tail _ (.tail _ (.tail _ (.tail _ (.head _))))) (sub_cons (.tail _ (.tail _ (.tail _ (.tail _ (.tail _ (.head _)))))) sub_nil))))))) hF rfl (fun _ _ _ h => h) (fun w hl => e_ld hF Try.isAgg58 rfl (hl.cellB (.tail _ (.head _)) rfl)) fun a hF =>
        d1 (i := 4) rfl (by kernel_rfl) (by kernel_rfl) (hS.lds (fun _ hx => hx) (sub_cons (.head _) (sub_cons (.tail _ (.head _)) (sub_cons (.tail _ (.tail _ (.head _))) (sub_cons (.tail _ (.tail _ (.tail _ (.head _)))) (sub_cons (.tail _ (.tail _ (.tail _ (.tail _ (.head _))))) (sub_cons (.tail _ (.tail _ (.tail _ (.tail _ (.tail _ (.head _)))))) sub_nil))))))) hF rfl (fun _ _ _ h => h) (fun w hl => e_move hF rfl) fun a hF =>
        d1 (i := 5) rfl (by kernel_rfl) (by kernel_rfl) (hS.lds (fun _ hx => hx) (sub_cons (.head _) (sub_cons (.tail _ (.head _)) (sub_cons (.tail _ (.tail _ (.head _))) (sub_cons (.tail _ (.tail _ (.tail _ (.head _)))) (sub_cons (.tail _ (.tail _ (.tail _ (.tail _ (.head _))))) (sub_cons (.tail _ (.tail _ (.tail _ (.tail _ (.tail _ (.head _)))))) sub_nil))))))) hF rfl (fun _ _ _ h => h) (fun w hl => e_move hF rfl) fun a hF =>
        da1 (i := 6) (by kernel_rfl) ?_
      refine di (i := 6) rfl <| c1 hF rfl Try.call35 (cloneW _ _ _ x.2.1.ws (hS.rdH (.head _) (hm.ents x hx).1) hfw) ⟨rfl, trivial⟩ (fun v w a hR hF => ?_)
      obtain ⟨oc, cc, rfl, hfr⟩ := hR
      replace hS := hS.fresh hfr
      clear hfr
      refine ⟨fun _ => (hS.lds (fun _ hx => hx) (sub_cons (.tail _ (.head _)) (sub_cons (.tail _ (.tail _ (.head _))) (sub_cons (.tail _ (.tail _ (.tail _ (.head _)))) (sub_cons (.tail _ (.tail _ (.tail _ (.tail _ (.head _))))) (sub_cons (.tail _ (.tail _ (.tail _ (.tail _ (.tail _ (.head _)))))) (sub_cons (.tail _ (.tail _ (.tail _ (.tail _ (.tail _ (.tail _ (.head _))))))) sub_nil))))))), ?_⟩
      refine da1 (i := 7) (by kernel_rfl) ?_
      refine di (i := 7) rfl <| mp_upd (kv := kI) (k := x.1) (v := (PE.mk oc cc x.2.1.ws).v) hF hS (keyInt Try.runUnderlying3) Try.runUnderlying58 rfl rfl rfl (.tail (.tail (.tail .head))) fun w hS => ?_
      have hn := hcp.fresh hf.good hf.dis hx hs
      rw [imap_put hn] at hS
      refine ⟨fun h => absurd rfl h, ?_⟩
      refine de (by kernel_rfl) <| bn <| tn <| ?_
      have hcp2 := hcp.put hf.good hf.dis hx hs (e := ⟨oc, cc, x.2.1.ws⟩) rfl
      replace hS := hS.pickL (L' := [pmA (x.1, ⟨oc, cc, x.2.1.ws⟩, c'), bigA pmA l', Go.LM.itr rI g.mb g.clk (seen.push x.2.2) g.clk, blk bp (.cells #[.slice g.oo m.of.length g.co, .slice g.fo m.firsts.length g.cf, .slice oal m.l.length cal, .slice oak m.kept.length cak, .map (some bm)] 60 (0, 0)), imap kI bm (pmV (l' ++ [(x.1, ⟨oc, cc, x.2.1.ws⟩, c')])) (c' + 1), sla 3 1 oal m.l.length cal (ints m.l), sla 3 1 oak m.kept.length cak (ints m.kept)]) (.cons .head (.cons (.tail (.tail (.tail .head))) (.cons .head (.cons .head (.cons .head (.cons .head (.cons .head .nil)))))))
      replace hS := hS.bigPush (f := pmA) (L2 := [bigA pmA (l' ++ [(x.1, ⟨oc, cc, x.2.1.ws⟩, c')]), Go.LM.itr rI g.mb g.clk (seen.push x.2.2) g.clk, blk bp (.cells #[.slice g.oo m.of.length g.co, .slice g.fo m.firsts.length g.cf, .slice oal m.l.length cal, .slice oak m.kept.length cak, .map (some bm)] 60 (0, 0)), imap kI bm (pmV (l' ++ [(x.1, ⟨oc, cc, x.2.1.ws⟩, c')])) (c' + 1), sla 3 1 oal m.l.length cal (ints m.l), sla 3 1 oak m.kept.length cak (ints m.kept)]) .head .head
      replace hS := hS.pickL (.cons (.tail .head) (.cons (.tail .head) (.cons (.tail .head) (.cons .head (.cons .head (.cons .head .nil))))))
      exact ⟨seen.push x.2.2, ⟨_, _, hF.has ⟨rfl, rfl, trivial⟩, hS, hcp2⟩, Go.LM.lft_lt he hs⟩
    ·
      intro hall a hF
      refine ls <| q1 hF rfl (e_ext hF rfl rfl) fun a hF =>
        re <| tn <| ?_
      refine th <| cf hF rfl <| we <| tx <| tx <| bx <| tn <| ?_
      replace hS := hS.drop .head
      replace hS := hS.pickL (.cons .head (.cons (.tail (.tail .head)) (.cons (.tail (.tail .head)) (.cons .head (.cons .head .nil)))))
      refine th <| rg <| ls <| q1 hF rfl (e_move hF rfl) fun a hF =>
        ls <| q1 hF rfl (e_asg hF rfl) fun a hF =>
        re <| tn <| ?_
      refine wr <| ?_
      exact r1 hF Try.results25 rfl ⟨bp, ⟨g.oo, g.fo, oal, oak, g.co, g.cf, cal, cak, bm, c', l'⟩, rfl, ⟨hf.of, hf.firsts, fun k => by rw [hf.pend]; exact hcp.done hall k, hcp.dis, hcp.good⟩, hS.endFreshL⟩

end Go.LL
