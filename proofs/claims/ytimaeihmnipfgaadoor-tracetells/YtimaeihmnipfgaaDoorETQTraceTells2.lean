/- Walks, lifted by program. No condition beyond each theorem's own premises. -/
import Derived.Test.YtimaeihmnipfgaaDoorETQTraceTells1
namespace Go.LM.ET
open Go Go.LL Go.MD Go.LM Go.Proofs Go.MD.ET

set_option maxRecDepth 100000 in
theorem event_Show_c {N : Nat} {w0 : World} {H : PH} (hH : H.le w0) (hT : Tab H) {p1 : api_Event} {r : Str} (hm : event_Show N p1 = some r) : Tot Tryd.prog 20 #[.agg #[.int .i64 p1.Kind, .int .i64 p1.T, .int .i64 p1.A, .int .i64 p1.N, .int .i64 p1.M]] w0 (fun v w' => v = strv r ∧ Keep Nil w0 w') := by
  unfold event_Show at hm
  refine fn0 (args := [.agg #[.int .i64 p1.Kind, .int .i64 p1.T, .int .i64 p1.A, .int .i64 p1.N, .int .i64 p1.M]]) (F := [(0, .agg #[.int .i64 p1.Kind, .int .i64 p1.T, .int .i64 p1.A, .int .i64 p1.N, .int .i64 p1.M])]) Tryd.func20 rfl Tryd.ntmps20 rfl rfl fun a hF => ?_
  have hS : St w0 Nil [H] [] w0 := start1 hH
  refine th <| ?_
  refine rg <| ?_
  refine ls <| a_box (cs := [.int .i64 p1.Kind, .int .i64 p1.T, .int .i64 p1.A, .int .i64 p1.N, .int .i64 p1.M].toArray) hF rfl hS rfl rfl fun b2 w a hS hF => ?_
  refine ls <| q1 hF rfl (e_asg hF rfl) fun a hF => ?_
  refine re <| ?_
  refine tn <| th <| th <| ?_
  replace hm := bind_some hm
  obtain ⟨r3, h4, hm⟩ := hm
  refine rg <| ?_
  refine ls <| q1 hF rfl (e_fa hF fa23_0 rfl) fun a hF => ?_
  refine ls <| q1 hF rfl (e_ld hF Tryd.isAgg3 rfl ((St.ld hS).cellB (.head _) rfl)) fun a hF => ?_
  refine ls <| c1 hF rfl Tryd.call44 (event_known_c (hp_le _) h4) ⟨rfl, trivial⟩ (fun v w a hR hF => ?_)
  obtain ⟨rfl, hk⟩ := hR
  replace hS := hS.pass hk
  clear hk
  refine ls <| q1 hF rfl (e_not hF rfl) fun a hF => ?_
  refine re <| ?_
  rcases bdich r3 with hb5 | hb5
  ·
    replace hm := ite_t hm hb5
    refine tn <| cfv hF rfl (by rw [hb5]; rfl) <| wp_skip <| ?_
    refine tn <| th <| midK (fun a w => ∃ (vA3 : event_kind) (HA1 : PH) (bA2 : Nat), (event_Show_j1 N p1) vA3 = some r ∧ Ext w0 H HA1 ∧ Fr 53 [(1, .pointer (some ⟨b2, 0, none⟩)), (3, .pointer (some ⟨bA2, 0, none⟩))] a ∧ St w0 Nil [HA1] [blk b2 (.cells [.int .i64 p1.Kind, .int .i64 p1.T, .int .i64 p1.A, .int .i64 p1.N, .int .i64 p1.M].toArray 23 (0, 0)), blk bA2 (.cells [strv vA3.name, .bool vA3.a, .bool vA3.n, .bool vA3.m].toArray 59 (0, 0))] w) ?_ ?_
    ·
      replace hm := bind_some hm
      obtain ⟨r6, h7, hm⟩ := hm
      replace hm := bind_some hm
      obtain ⟨x14, h15, hm⟩ := hm
      refine rdS 5 hS wide fun w hS => ?_
      refine d1 (i := 1) rfl (by kernel_rfl) (by kernel_rfl) (St.ld hS) hF rfl (fun _ _ _ h => h) (fun w hl => (e_fa hF fa23_0 rfl)) fun a hF => ?_
      refine d1 (i := 2) rfl (by kernel_rfl) (by kernel_rfl) (St.ld hS) hF rfl (fun _ _ _ h => h) (fun w hl => (e_ld hF Tryd.isAgg3 rfl (hl.cellB (.head _) rfl))) fun a hF => ?_
      refine da2 (i := 0) (j := 4) (by kernel_rfl) ?_ ?_
      ·
        refine di (i := 0) rfl <| c1 hF rfl Tryd.call45 (event_kinds_c (St.le hS) h7) trivial (fun v w a hR hF => ?_)
        obtain ⟨H10, cs11, rfl, g12, hx8, hl9, hk⟩ := hR
        obtain ⟨hS, hx8⟩ := And.intro (St.passH hS hk hx8 hl9) (St.extc hS hx8)
        clear hk
        have hv13 : Rows H10 cs11 r6.l := g12
        refine ⟨fun _ => (St.ldsX hS hx8.sub (fun _ h => h)), ?_⟩
        obtain ⟨c16, g17, hl18⟩ := Rows.getI hv13 h15
        obtain rfl := event_kind_open g17
        refine d1 (i := 3) rfl (by kernel_rfl) (by kernel_rfl) (St.ldsX hS hx8.sub (fun _ h => h)) hF rfl (fun _ _ _ h => h) (fun w hl => (e_ixA hF Tryd.runUnderlying60 Tryd.sizeOf59 Tryd.isAgg59 rfl rfl r6.h h15 rfl hl18)) fun a hF => ?_
        refine da1 (i := 4) (by kernel_rfl) ?_
        refine di (i := 4) rfl <| a_alloc (cs := [strv [], .bool false, .bool false, .bool false].toArray) hF rfl hS Tryd.zeroValue59 rfl fun b19 w a hS hF => ?_
        refine ⟨fun _ => (St.ldsX hS hx8.sub (fun _ h => (.tail _ h))), ?_⟩
        refine da1 (i := 5) (by kernel_rfl) ?_
        refine di (i := 5) rfl <| s_blkA hF hS Tryd.sizeOf59 rfl rfl rfl rfl (one_cells rfl) .head fun w hS => ?_
        refine ⟨fun h => absurd rfl h, ?_⟩
        refine de (by kernel_rfl) <| ?_
        refine tn <| ?_
        replace hS := hS.pickL (.cons (.tail .head) (.cons .head .nil))
        exact ⟨x14, H10, b19, hm, hx8, hF.has ⟨rfl, rfl, trivial⟩, hS⟩
      ·
        refine di (i := 4) rfl <| a_alloc (cs := [strv [], .bool false, .bool false, .bool false].toArray) hF rfl hS Tryd.zeroValue59 rfl fun b19 w a hS hF => ?_
        refine ⟨fun _ => (St.ldsX hS (fun _ _ h => h) (fun _ h => (.tail _ h))), ?_⟩
        refine da1 (i := 0) (by kernel_rfl) ?_
        refine di (i := 0) rfl <| c1 hF rfl Tryd.call45 (event_kinds_c (St.le hS) h7) trivial (fun v w a hR hF => ?_)
        obtain ⟨H10, cs11, rfl, g12, hx8, hl9, hk⟩ := hR
        obtain ⟨hS, hx8⟩ := And.intro (St.passH hS hk hx8 hl9) (St.extc hS hx8)
        clear hk
        have hv13 : Rows H10 cs11 r6.l := g12
        refine ⟨fun _ => (St.ldsX hS hx8.sub (fun _ h => (.tail _ h))), ?_⟩
        obtain ⟨c16, g17, hl18⟩ := Rows.getI hv13 h15
        obtain rfl := event_kind_open g17
        refine d1 (i := 3) rfl (by kernel_rfl) (by kernel_rfl) (St.ldsX hS hx8.sub (fun _ h => (.tail _ h))) hF rfl (fun _ _ _ h => h) (fun w hl => (e_ixA hF Tryd.runUnderlying60 Tryd.sizeOf59 Tryd.isAgg59 rfl rfl r6.h h15 rfl hl18)) fun a hF => ?_
        refine da1 (i := 5) (by kernel_rfl) ?_
        refine di (i := 5) rfl <| s_blkA hF hS Tryd.sizeOf59 rfl rfl rfl rfl (one_cells rfl) .head fun w hS => ?_
        refine ⟨fun h => absurd rfl h, ?_⟩
        refine de (by kernel_rfl) <| ?_
        refine tn <| ?_
        replace hS := hS.pickL (.cons (.tail .head) (.cons .head .nil))
        exact ⟨x14, H10, b19, hm, hx8, hF.has ⟨rfl, rfl, trivial⟩, hS⟩
    clear hm hF hS
    rintro a w ⟨vA3, HA1, bA2, hm, hxHA1, hF, hS⟩
    unfold event_Show_j1 at hm
    refine th <| ?_
    replace hm := bind_some hm
    obtain ⟨r20, h21, hm⟩ := hm
    replace hm := bind_some hm
    obtain ⟨s22, h23, hm⟩ := hm
    replace hm := bind_some hm
    obtain ⟨s24, h25, hm⟩ := hm
    refine rdS 8 hS wide fun w hS => ?_
    refine d1 (i := 0) rfl (by kernel_rfl) (by kernel_rfl) (St.ld hS) hF rfl (fun _ _ _ h => h) (fun w hl => (e_fa hF fa23_1 rfl)) fun a hF => ?_
    refine d1 (i := 1) rfl (by kernel_rfl) (by kernel_rfl) (St.ld hS) hF rfl (fun _ _ _ h => h) (fun w hl => (e_ld hF Tryd.isAgg3 rfl (hl.cellB (.head _) rfl))) fun a hF => ?_
    refine d1 (i := 4) rfl (by kernel_rfl) (by kernel_rfl) (St.ld hS) hF rfl (fun _ _ _ h => h) (fun w hl => (e_fa hF fa59_0 rfl)) fun a hF => ?_
    refine d1 (i := 5) rfl (by kernel_rfl) (by kernel_rfl) (St.ld hS) hF rfl (fun _ _ _ h => h) (fun w hl => (e_ld hF Tryd.isAgg9 rfl (hl.cellB (.tail _ (.head _)) rfl))) fun a hF => ?_
    refine da1 (i := 2) (by kernel_rfl) ?_
    refine di (i := 2) rfl <| c1 hF rfl Tryd.call47 (words_Text_c (hp_le _) (Tab.mono (Tab.mono hT hxHA1.sub) (St.up hS)) h21) ⟨rfl, trivial⟩ (fun v w a hR hF => ?_)
    obtain ⟨rfl, hk⟩ := hR
    replace hS := hS.pass hk
    clear hk
    refine ⟨fun _ => (St.ld hS), ?_⟩
    refine d1 (i := 3) rfl (by kernel_rfl) (by kernel_rfl) (St.ld hS) hF rfl (fun _ _ _ h => h) (fun w hl => (e_catU hF rfl rfl h23)) fun a hF => ?_
    refine d1 (i := 6) rfl (by kernel_rfl) (by kernel_rfl) (St.ld hS) hF rfl (fun _ _ _ h => h) (fun w hl => (e_catU hF rfl rfl h25)) fun a hF => ?_
    refine d1 (i := 7) rfl (by kernel_rfl) (by kernel_rfl) (St.ld hS) hF rfl (fun _ _ _ h => h) (fun w hl => (e_asg hF rfl)) fun a hF => ?_
    refine de (by kernel_rfl) <| ?_
    refine tn <| th <| th <| ?_
    refine rg <| ?_
    refine ls <| q1 hF rfl (e_fa hF fa59_1 rfl) fun a hF => ?_
    refine ls <| q1 hF rfl (e_ld hF Tryd.isAgg4 rfl ((St.ld hS).cellB (.tail _ (.head _)) rfl)) fun a hF => ?_
    refine ls <| q1 hF rfl (e_fa hF fa23_2 rfl) fun a hF => ?_
    refine ls <| q1 hF rfl (e_ld hF Tryd.isAgg3 rfl ((St.ld hS).cellB (.head _) rfl)) fun a hF => ?_
    refine ls <| q1 hF rfl (e_bldK [.bool vA3.a, .int .i64 p1.A] [.bool vA3.a, .int .i64 p1.A] hF ⟨rfl, rfl, trivial⟩ (fun w => by kernel_rfl)) fun a hF => ?_
    refine ls <| q1 hF rfl (e_fa hF fa59_2 rfl) fun a hF => ?_
    refine ls <| q1 hF rfl (e_ld hF Tryd.isAgg4 rfl ((St.ld hS).cellB (.tail _ (.head _)) rfl)) fun a hF => ?_
    refine ls <| q1 hF rfl (e_fa hF fa23_3 rfl) fun a hF => ?_
    refine ls <| q1 hF rfl (e_ld hF Tryd.isAgg3 rfl ((St.ld hS).cellB (.head _) rfl)) fun a hF => ?_
    refine ls <| q1 hF rfl (e_bldK [.bool vA3.n, .int .i64 p1.N] [.bool vA3.n, .int .i64 p1.N] hF ⟨rfl, rfl, trivial⟩ (fun w => by kernel_rfl)) fun a hF => ?_
    refine ls <| q1 hF rfl (e_fa hF fa59_3 rfl) fun a hF => ?_
    refine ls <| q1 hF rfl (e_ld hF Tryd.isAgg4 rfl ((St.ld hS).cellB (.tail _ (.head _)) rfl)) fun a hF => ?_
    refine ls <| q1 hF rfl (e_fa hF fa23_4 rfl) fun a hF => ?_
    refine ls <| q1 hF rfl (e_ld hF Tryd.isAgg3 rfl ((St.ld hS).cellB (.head _) rfl)) fun a hF => ?_
    refine ls <| q1 hF rfl (e_bldK [.bool vA3.m, .int .i64 p1.M] [.bool vA3.m, .int .i64 p1.M] hF ⟨rfl, rfl, trivial⟩ (fun w => by kernel_rfl)) fun a hF => ?_
    refine ls <| a_bsl (e := 64) (sz := 2) [.bool vA3.a, .int .i64 p1.A, .bool vA3.n, .int .i64 p1.N, .bool vA3.m, .int .i64 p1.M] hF rfl hS rfl rfl rfl (fun w => by kernel_rfl) fun b27 w a hS hF => ?_
    have hv26 : Rows (α := S_is_n) HA1 [.bool vA3.a, .int .i64 p1.A, .bool vA3.n, .int .i64 p1.N, .bool vA3.m, .int .i64 p1.M] ([(S_is_n.mk vA3.a p1.A), (S_is_n.mk vA3.n p1.N), (S_is_n.mk vA3.m p1.M)] : List S_is_n) := (.cons (c := [.bool vA3.a, .int .i64 p1.A]) ⟨_, _, rfl, rfl, rfl⟩ (.cons (c := [.bool vA3.n, .int .i64 p1.N]) ⟨_, _, rfl, rfl, rfl⟩ (.cons (c := [.bool vA3.m, .int .i64 p1.M]) ⟨_, _, rfl, rfl, rfl⟩ .nil)))
    refine ls <| q1 hF rfl (e_lenL (α := S_is_n) (xs := ([(S_is_n.mk vA3.a p1.A), (S_is_n.mk vA3.n p1.N), (S_is_n.mk vA3.m p1.M)] : List S_is_n)) hF Tryd.runUnderlying65 rfl) fun a hF => ?_
    refine ls <| q1 hF rfl (e_move hF rfl) fun a hF => ?_
    refine re <| ?_
    refine tn <| midK (fun a w => ∃ (vA4 : Str), event_Show_j2 vA4 = some r ∧ Fr 53 [(4, strv vA4)] a ∧ St w0 Nil [HA1] [] w) ?_ ?_
    ·
      replace hS := hS.pickL (.cons .head .nil)
      refine wp_block <| lp (α := Nat × Str × Int) (fun (gh : Nat × Str × Int) a w => match gh with | (nn3, vB1, vB2) => (event_Show_l3 N event_Show_j2 p1 vA3) nn3 vB1 vB2 = some r ∧ Fr 53 [(4, strv vB1), (37, .slice (some ⟨b27, 0, none⟩) ([(S_is_n.mk vA3.a p1.A), (S_is_n.mk vA3.n p1.N), (S_is_n.mk vA3.m p1.M)] : List S_is_n).length 3), (38, .int .i64 (([(S_is_n.mk vA3.a p1.A), (S_is_n.mk vA3.n p1.N), (S_is_n.mk vA3.m p1.M)] : List S_is_n).length : Int)), (39, .int .i64 vB2)] a ∧ St w0 Nil [HA1] [sla 64 2 (some ⟨b27, 0, none⟩) ([(S_is_n.mk vA3.a p1.A), (S_is_n.mk vA3.n p1.N), (S_is_n.mk vA3.m p1.M)] : List S_is_n).length 3 [.bool vA3.a, .int .i64 p1.A, .bool vA3.n, .int .i64 p1.N, .bool vA3.m, .int .i64 p1.M]] w) (fun gh => gh.1) (N, s24, 0) ⟨hm, hF.has ⟨rfl, rfl, rfl, rfl, trivial⟩, hS⟩ ?_
      clear hm hF hS
      rintro ⟨nn3, vB1, vB2⟩ a w ⟨hm, hF, hS⟩
      obtain _ | nn3 := nn3
      · simp [event_Show_l3] at hm
      rw [event_Show_l3] at hm
      refine th <| ?_
      refine rg <| ?_
      refine ls <| q1 hF rfl (e_lss hF rfl rfl) fun a hF => ?_
      refine re <| ?_
      rcases bdich (decide (vB2 < (([(S_is_n.mk vA3.a p1.A), (S_is_n.mk vA3.n p1.N), (S_is_n.mk vA3.m p1.M)] : List S_is_n).length : Int))) with hb29 | hb29
      ·
        replace hm := itp_t hm hb29
        refine tn <| th <| ctv hF rfl hb29 <| wp_skip <| ?_
        refine tn <| th <| midK (fun a w => ∃ (vC1 : Str), (event_Show_j4 (event_Show_l3 N event_Show_j2 p1 vA3 nn3) vB2) vC1 = some r ∧ Fr 53 [(4, strv vC1), (37, .slice (some ⟨b27, 0, none⟩) ([(S_is_n.mk vA3.a p1.A), (S_is_n.mk vA3.n p1.N), (S_is_n.mk vA3.m p1.M)] : List S_is_n).length 3), (38, .int .i64 (([(S_is_n.mk vA3.a p1.A), (S_is_n.mk vA3.n p1.N), (S_is_n.mk vA3.m p1.M)] : List S_is_n).length : Int)), (39, .int .i64 vB2)] a ∧ St w0 Nil [HA1] [sla 64 2 (some ⟨b27, 0, none⟩) ([(S_is_n.mk vA3.a p1.A), (S_is_n.mk vA3.n p1.N), (S_is_n.mk vA3.m p1.M)] : List S_is_n).length 3 [.bool vA3.a, .int .i64 p1.A, .bool vA3.n, .int .i64 p1.N, .bool vA3.m, .int .i64 p1.M]] w) ?_ ?_
        ·
          refine wp_block <| th <| ?_
          replace hm := bind_some hm
          obtain ⟨x30, h31, hm⟩ := hm
          have ho32 := Rd.oaI (hS.rdO (.head _)) hv26 (by decide) h31
          obtain ⟨c33, g34, hl35⟩ := Rows.getI hv26 h31
          obtain rfl := S_is_n_open g34
          refine rg <| ?_
          refine ls <| q1 hF rfl (e_iaI hF Tryd.runUnderlying65 Tryd.sizeOf64 rfl rfl h31 ho32) fun a hF => ?_
          refine ls <| q1 hF rfl (e_ldA hF Tryd.isAgg64 Tryd.sizeOf64 rfl rfl ((St.ld hS).elsO (.head _) hl35)) fun a hF => ?_
          refine ls <| a_alloc (cs := [.bool false, .int .i64 0].toArray) hF rfl hS Tryd.zeroValue64 rfl fun b36 w a hS hF => ?_
          refine ls <| s_blkA hF hS Tryd.sizeOf64 rfl rfl rfl rfl (one_cells rfl) .head fun w hS => ?_
          refine re <| ?_
          refine tn <| th <| ?_
          refine rg <| ?_
          refine ls <| q1 hF rfl (e_fa hF fa64_0 rfl) fun a hF => ?_
          refine ls <| q1 hF rfl (e_ld hF Tryd.isAgg4 rfl ((St.ld hS).cellB (.head _) rfl)) fun a hF => ?_
          refine re <| ?_
          rcases bdich x30.is' with hb37 | hb37
          ·
            replace hm := ite_t hm hb37
            refine tn <| ctv hF rfl hb37 <| ?_
            replace hm := bind_some hm
            obtain ⟨r38, h39, hm⟩ := hm
            replace hm := bind_some hm
            obtain ⟨s40, h41, hm⟩ := hm
            replace hm := bind_some hm
            obtain ⟨s42, h43, hm⟩ := hm
            refine rg <| ?_
            refine ls <| q1 hF rfl (e_move hF rfl) fun a hF => ?_
            refine ls <| q1 hF rfl (e_fa hF fa64_1 rfl) fun a hF => ?_
            refine ls <| q1 hF rfl (e_ld hF Tryd.isAgg3 rfl ((St.ld hS).cellB (.head _) rfl)) fun a hF => ?_
            refine ls <| c1 hF rfl Tryd.call47 (words_Text_c (hp_le _) (Tab.mono (Tab.mono hT hxHA1.sub) (St.up hS)) h39) ⟨rfl, trivial⟩ (fun v w a hR hF => ?_)
            obtain ⟨rfl, hk⟩ := hR
            replace hS := hS.pass hk
            clear hk
            refine ls <| q1 hF rfl (e_catU hF rfl rfl h41) fun a hF => ?_
            refine ls <| q1 hF rfl (e_catU hF rfl rfl h43) fun a hF => ?_
            refine ls <| q1 hF rfl (e_asg hF rfl) fun a hF => ?_
            refine re <| ?_
            refine bn <| tn <| ?_
            replace hS := hS.pickL (.cons (.tail .head) .nil)
            exact ⟨s42, hm, hF.has ⟨rfl, rfl, rfl, rfl, trivial⟩, hS⟩
          ·
            replace hm := ite_f hm hb37
            refine tn <| cfv hF rfl hb37 <| wp_skip <| ?_
            refine bn <| tn <| ?_
            replace hS := hS.pickL (.cons (.tail .head) .nil)
            exact ⟨vB1, hm, hF.has ⟨rfl, rfl, rfl, rfl, trivial⟩, hS⟩
        clear hm hF hS
        rintro a w ⟨vC1, hm, hF, hS⟩
        unfold event_Show_j4 at hm
        refine rg <| ?_
        refine ls <| q1 hF rfl (e_add hF rfl rfl) fun a hF => ?_
        refine ls <| q1 hF rfl (e_move hF rfl) fun a hF => ?_
        refine re <| ?_
        refine tn <| ?_
        exact ⟨(nn3, vC1, (IntKind.i64.wrap (vB2 + 1))), ⟨hm, hF.has ⟨rfl, rfl, rfl, rfl, trivial⟩, hS⟩, Nat.lt_succ_self _⟩
      ·
        replace hm := itp_f hm hb29
        refine tn <| th <| cfv hF rfl hb29 <| ?_
        refine wp_exit <| tx <| tx <| bx <| ?_
        refine tn <| ?_
        replace hS := hS.pickL .nil
        exact ⟨vB1, hm, hF.has ⟨rfl, trivial⟩, hS⟩
    clear hm hF hS
    rintro a w ⟨vA4, hm, hF, hS⟩
    unfold event_Show_j2 at hm
    refine th <| ?_
    refine rg <| ?_
    refine ls <| q1 hF rfl (e_move hF rfl) fun a hF => ?_
    refine ls <| q1 hF rfl (e_asg hF rfl) fun a hF => ?_
    refine re <| ?_
    refine tn <| ?_
    refine wp_ret <| ?_
    obtain rfl := Option.some.inj hm
    exact r1 hF Tryd.results20 rfl ⟨rfl, hS.keep⟩
  ·
    replace hm := ite_f hm hb5
    refine tn <| ctv hF rfl (by rw [hb5]; rfl) <| th <| ?_
    refine rg <| ?_
    refine ls <| q1 hF rfl (e_asg hF rfl) fun a hF => ?_
    refine re <| ?_
    refine tn <| ?_
    refine wp_ret <| tr <| ?_
    obtain rfl := Option.some.inj hm
    exact r1 hF Tryd.results20 rfl ⟨rfl, hS.keep⟩

set_option maxRecDepth 100000 in
theorem leadlineref01_Text_c : ∀ (N : Nat) {w0 : World} {H : PH} (hH : H.le w0) {p1 : Int} {r : Str} (hm : leadlineref01_Text N p1 = some r), Tot Tryd.prog 48 #[.int .i64 p1] w0 (fun v w' => v = strv r ∧ Keep Nil w0 w') := by
  intro N
  induction N with
  | zero => intros; rename_i hm; simp [leadlineref01_Text] at hm
  | succ N ih =>
  intro w0 H hH p1 r hm
  rw [leadlineref01_Text] at hm
  refine fn0 (args := [.int .i64 p1]) (F := [(0, .int .i64 p1)]) Tryd.func48 rfl Tryd.ntmps48 rfl rfl fun a hF => ?_
  have hS : St w0 Nil [H] [] w0 := start1 hH
  refine th <| ?_
  refine rg <| ?_
  refine ls <| q1 hF rfl (e_asg hF rfl) fun a hF => ?_
  refine re <| ?_
  refine tn <| th <| th <| ?_
  refine rg <| ?_
  refine ls <| q1 hF rfl (e_move hF rfl) fun a hF => ?_
  refine ls <| q1 hF rfl (e_geq hF rfl rfl) fun a hF => ?_
  refine ls <| q1 hF rfl (e_move hF rfl) fun a hF => ?_
  refine grp (N := 40) (Fk := [(0, .int .i64 p1), (9, .bool ((decide (0 ≤ p1)) && (decide (p1 < 10))))]) (b := (decide (0 ≤ p1))) 3 hS ?_ ?_ ?_
  ·
    intro hb key
    replace hF := Fr.as hF (t := 6) rfl (congrArg Value.bool hb)
    refine ls <| gy hF rfl rfl <| q1 hF rfl (e_move hF rfl) fun a hF => ?_
    refine ls <| gy hF rfl rfl <| q1 hF rfl (e_lss hF rfl rfl) fun a hF => ?_
    refine ls <| q1 hF rfl (e_as (v' := .bool ((decide (0 ≤ p1)) && (decide (p1 < 10)))) (e_pickT hF rfl rfl) (by rw [hb]; rfl)) fun a hF => ?_
    exact key _ _ (hF.has ⟨rfl, rfl, trivial⟩) hS
  ·
    intro hb key
    replace hF := Fr.as hF (t := 6) rfl (congrArg Value.bool hb)
    refine ls <| gn hF rfl rfl rfl rfl fun a hF => ?_
    refine ls <| gn hF rfl rfl rfl rfl fun a hF => ?_
    refine ls <| q1 hF rfl (e_as (v' := .bool ((decide (0 ≤ p1)) && (decide (p1 < 10)))) (e_pickF hF rfl rfl) (by rw [hb]; rfl)) fun a hF => ?_
    exact key _ _ (hF.has ⟨rfl, rfl, trivial⟩) hS
  intro a w hF hS
  refine re <| ?_
  rcases bdich ((decide (0 ≤ p1)) && (decide (p1 < 10))) with hb2 | hb2
  ·
    replace hm := ite_t hm hb2
    refine tn <| ctv hF rfl hb2 <| th <| ?_
    refine rg <| ?_
    refine ls <| q1 hF rfl (e_move hF rfl) fun a hF => ?_
    refine ls <| q1 hF rfl (e_add hF rfl rfl) fun a hF => ?_
    refine ls <| q1 hF rfl (e_cvt hF Tryd.runUnderlying3 Tryd.runUnderlying5 rfl) fun a hF => ?_
    refine ls <| a_bsl (e := 5) (sz := 1) [.int .u8 (IntKind.u8.wrap (IntKind.i64.wrap (48 + p1)))] hF rfl hS rfl rfl rfl (fun w => by kernel_rfl) fun b4 w a hS hF => ?_
    have hv3 : Rows (α := (IntK .u8)) H [.int .u8 (IntKind.u8.wrap (IntKind.i64.wrap (48 + p1)))] ([(IntK.mk (IntKind.u8.wrap (IntKind.i64.wrap (48 + p1))))] : List (IntK .u8)) := (.cons (c := [.int .u8 (IntKind.u8.wrap (IntKind.i64.wrap (48 + p1)))]) rfl .nil)
    refine ls <| q1 hF rfl (e_b2s (xs := ([(IntK.mk (IntKind.u8.wrap (IntKind.i64.wrap (48 + p1))))] : List (IntK .u8))) hF Tryd.underlying72 Tryd.underlying5 Tryd.underlying9 rfl ((St.ld hS).rdO (.head _)) hv3) fun a hF => ?_
    refine ls <| q1 hF rfl (e_asg hF rfl) fun a hF => ?_
    refine re <| ?_
    refine tn <| ?_
    refine wp_ret <| tr <| ?_
    obtain rfl := Option.some.inj hm
    exact r1 hF Tryd.results48 rfl ⟨rfl, hS.keep⟩
  ·
    replace hm := ite_f hm hb2
    refine tn <| cfv hF rfl hb2 <| wp_skip <| ?_
    refine tn <| th <| th <| ?_
    refine rg <| ?_
    refine ls <| q1 hF rfl (e_move hF rfl) fun a hF => ?_
    refine ls <| q1 hF rfl (e_gtr hF rfl rfl) fun a hF => ?_
    refine re <| ?_
    rcases bdich (decide (0 < p1)) with hb6 | hb6
    ·
      replace hm := itp_t hm hb6
      refine tn <| ctv hF rfl hb6 <| th <| ?_
      replace hm := bind_some hm
      obtain ⟨r7, h8, hm⟩ := hm
      replace hm := bind_some hm
      obtain ⟨r9, h10, hm⟩ := hm
      replace hm := bind_some hm
      obtain ⟨s11, h12, hm⟩ := hm
      refine rg <| ?_
      refine ls <| q1 hF rfl (e_move hF rfl) fun a hF => ?_
      refine ls <| q1 hF rfl (e_quo hF rfl rfl (by decide)) fun a hF => ?_
      refine ls <| c1 hF rfl Tryd.call48 (ih (hp_le _) h8) ⟨rfl, trivial⟩ (fun v w a hR hF => ?_)
      obtain ⟨rfl, hk⟩ := hR
      replace hS := hS.pass hk
      clear hk
      refine ls <| q1 hF rfl (e_move hF rfl) fun a hF => ?_
      refine ls <| q1 hF rfl (e_rem hF rfl rfl (by decide)) fun a hF => ?_
      refine ls <| c1 hF rfl Tryd.call48 (ih (hp_le _) h10) ⟨rfl, trivial⟩ (fun v w a hR hF => ?_)
      obtain ⟨rfl, hk⟩ := hR
      replace hS := hS.pass hk
      clear hk
      refine ls <| q1 hF rfl (e_catU hF rfl rfl h12) fun a hF => ?_
      refine ls <| q1 hF rfl (e_asg hF rfl) fun a hF => ?_
      refine re <| ?_
      refine tn <| ?_
      refine wp_ret <| tr <| ?_
      obtain rfl := Option.some.inj hm
      exact r1 hF Tryd.results48 rfl ⟨rfl, hS.keep⟩
    ·
      replace hm := itp_f hm hb6
      refine tn <| cfv hF rfl hb6 <| wp_skip <| ?_
      refine tn <| th <| ?_
      refine rg <| ?_
      refine ls <| q1 hF rfl (e_move hF rfl) fun a hF => ?_
      refine ls <| q1 hF rfl (e_rem hF rfl rfl (by decide)) fun a hF => ?_
      refine ls <| q1 hF rfl (e_asg hF rfl) fun a hF => ?_
      refine re <| ?_
      refine tn <| th <| th <| ?_
      refine rg <| ?_
      refine ls <| q1 hF rfl (e_move hF rfl) fun a hF => ?_
      refine ls <| q1 hF rfl (e_quo hF rfl rfl (by decide)) fun a hF => ?_
      refine ls <| q1 hF rfl (e_eql hF rfl rfl) fun a hF => ?_
      refine re <| ?_
      rcases bdich (decide ((IntKind.i64.wrap (p1.tdiv 10)) = 0)) with hb13 | hb13
      ·
        replace hm := itp_t hm hb13
        refine tn <| ctv hF rfl hb13 <| th <| ?_
        replace hm := bind_some hm
        obtain ⟨r14, h15, hm⟩ := hm
        replace hm := bind_some hm
        obtain ⟨s16, h17, hm⟩ := hm
        refine rg <| ?_
        refine ls <| q1 hF rfl (e_move hF rfl) fun a hF => ?_
        refine ls <| q1 hF rfl (e_neg hF rfl) fun a hF => ?_
        refine ls <| c1 hF rfl Tryd.call48 (ih (hp_le _) h15) ⟨rfl, trivial⟩ (fun v w a hR hF => ?_)
        obtain ⟨rfl, hk⟩ := hR
        replace hS := hS.pass hk
        clear hk
        refine ls <| q1 hF rfl (e_catU hF rfl rfl h17) fun a hF => ?_
        refine ls <| q1 hF rfl (e_asg hF rfl) fun a hF => ?_
        refine re <| ?_
        refine tn <| ?_
        refine wp_ret <| tr <| ?_
        obtain rfl := Option.some.inj hm
        exact r1 hF Tryd.results48 rfl ⟨rfl, hS.keep⟩
      ·
        replace hm := itp_f hm hb13
        refine tn <| cfv hF rfl hb13 <| wp_skip <| ?_
        refine tn <| th <| ?_
        replace hm := bind_some hm
        obtain ⟨r18, h19, hm⟩ := hm
        replace hm := bind_some hm
        obtain ⟨r20, h21, hm⟩ := hm
        replace hm := bind_some hm
        obtain ⟨s22, h23, hm⟩ := hm
        refine rg <| ?_
        refine ls <| q1 hF rfl (e_move hF rfl) fun a hF => ?_
        refine ls <| q1 hF rfl (e_quo hF rfl rfl (by decide)) fun a hF => ?_
        refine ls <| c1 hF rfl Tryd.call48 (ih (hp_le _) h19) ⟨rfl, trivial⟩ (fun v w a hR hF => ?_)
        obtain ⟨rfl, hk⟩ := hR
        replace hS := hS.pass hk
        clear hk
        refine ls <| q1 hF rfl (e_move hF rfl) fun a hF => ?_
        refine ls <| q1 hF rfl (e_neg hF rfl) fun a hF => ?_
        refine ls <| c1 hF rfl Tryd.call48 (ih (hp_le _) h21) ⟨rfl, trivial⟩ (fun v w a hR hF => ?_)
        obtain ⟨rfl, hk⟩ := hR
        replace hS := hS.pass hk
        clear hk
        refine ls <| q1 hF rfl (e_catU hF rfl rfl h23) fun a hF => ?_
        refine ls <| q1 hF rfl (e_asg hF rfl) fun a hF => ?_
        refine re <| ?_
        refine tn <| ?_
        refine wp_ret <| ?_
        obtain rfl := Option.some.inj hm
        exact r1 hF Tryd.results48 rfl ⟨rfl, hS.keep⟩

set_option maxRecDepth 100000 in
theorem leadlineref15_Show_c {N : Nat} {w0 : World} {H : PH} (hH : H.le w0) {p1 : api_Event} {r : Str} (hm : leadlineref15_Show N p1 = some r) : Tot Tryd.prog 21 #[.agg #[.int .i64 p1.Kind, .int .i64 p1.T, .int .i64 p1.A, .int .i64 p1.N, .int .i64 p1.M]] w0 (fun v w' => v = strv r ∧ Keep Nil w0 w') := by
  unfold leadlineref15_Show at hm
  refine fn0 (args := [.agg #[.int .i64 p1.Kind, .int .i64 p1.T, .int .i64 p1.A, .int .i64 p1.N, .int .i64 p1.M]]) (F := [(0, .agg #[.int .i64 p1.Kind, .int .i64 p1.T, .int .i64 p1.A, .int .i64 p1.N, .int .i64 p1.M])]) Tryd.func21 rfl Tryd.ntmps21 rfl rfl fun a hF => ?_
  have hS : St w0 Nil [H] [] w0 := start1 hH
  refine th <| ?_
  refine rg <| ?_
  refine ls <| a_box (cs := [.int .i64 p1.Kind, .int .i64 p1.T, .int .i64 p1.A, .int .i64 p1.N, .int .i64 p1.M].toArray) hF rfl hS rfl rfl fun b2 w a hS hF => ?_
  refine ls <| q1 hF rfl (e_asg hF rfl) fun a hF => ?_
  refine re <| ?_
  refine tn <| th <| th <| ?_
  refine rg <| ?_
  refine ls <| q1 hF rfl (e_fa hF fa23_0 rfl) fun a hF => ?_
  refine ls <| q1 hF rfl (e_ld hF Tryd.isAgg3 rfl ((St.ld hS).cellB (.head _) rfl)) fun a hF => ?_
  refine ls <| q1 hF rfl (e_lss hF rfl rfl) fun a hF => ?_
  refine ls <| q1 hF rfl (e_move hF rfl) fun a hF => ?_
  refine grp (N := 48) (Fk := [(1, .pointer (some ⟨b2, 0, none⟩)), (13, .bool ((decide (p1.Kind < 1)) || (decide (16 < p1.Kind))))]) (b := (decide (p1.Kind < 1))) 4 hS ?_ ?_ ?_
  ·
    intro hb key
    replace hF := Fr.as hF (t := 9) rfl (congrArg Value.bool hb)
    refine ls <| gn hF rfl rfl rfl rfl fun a hF => ?_
    refine ls <| gn hF rfl rfl rfl rfl fun a hF => ?_
    refine ls <| gn hF rfl rfl rfl rfl fun a hF => ?_
    refine ls <| q1 hF rfl (e_as (v' := .bool ((decide (p1.Kind < 1)) || (decide (16 < p1.Kind)))) (e_pickT hF rfl rfl) (by rw [hb]; rfl)) fun a hF => ?_
    exact key _ _ (hF.has ⟨rfl, rfl, trivial⟩) hS
  ·
    intro hb key
    replace hF := Fr.as hF (t := 9) rfl (congrArg Value.bool hb)
    refine ls <| gy hF rfl rfl <| q1 hF rfl (e_fa hF fa23_0 rfl) fun a hF => ?_
    refine ls <| gy hF rfl rfl <| q1 hF rfl (e_ld hF Tryd.isAgg3 rfl ((St.ld hS).cellB (.head _) rfl)) fun a hF => ?_
    refine ls <| gy hF rfl rfl <| q1 hF rfl (e_gtr hF rfl rfl) fun a hF => ?_
    refine ls <| q1 hF rfl (e_as (v' := .bool ((decide (p1.Kind < 1)) || (decide (16 < p1.Kind)))) (e_pickF hF rfl rfl) (by rw [hb]; rfl)) fun a hF => ?_
    exact key _ _ (hF.has ⟨rfl, rfl, trivial⟩) hS
  intro a w hF hS
  refine re <| ?_
  rcases bdich ((decide (p1.Kind < 1)) || (decide (16 < p1.Kind))) with hb3 | hb3
  ·
    replace hm := ite_t hm hb3
    refine tn <| ctv hF rfl hb3 <| th <| ?_
    refine rg <| ?_
    refine ls <| q1 hF rfl (e_asg hF rfl) fun a hF => ?_
    refine re <| ?_
    refine tn <| ?_
    refine wp_ret <| tr <| ?_
    obtain rfl := Option.some.inj hm
    exact r1 hF Tryd.results21 rfl ⟨rfl, hS.keep⟩
  ·
    replace hm := ite_f hm hb3
    refine tn <| cfv hF rfl hb3 <| wp_skip <| ?_
    refine tn <| th <| midK (fun a w => ∃ (vA2 : Str) (HA1 : PH), (leadlineref15_Show_j1 N p1) vA2 = some r ∧ Ext w0 H HA1 ∧ Fr 48 [(1, .pointer (some ⟨b2, 0, none⟩)), (3, strv vA2)] a ∧ St w0 Nil [HA1] [blk b2 (.cells [.int .i64 p1.Kind, .int .i64 p1.T, .int .i64 p1.A, .int .i64 p1.N, .int .i64 p1.M].toArray 23 (0, 0))] w) ?_ ?_
    ·
      replace hm := bind_some hm
      obtain ⟨r4, h5, hm⟩ := hm
      replace hm := bind_some hm
      obtain ⟨s6, h7, hm⟩ := hm
      replace hm := bind_some hm
      obtain ⟨x11, h12, hm⟩ := hm
      replace hm := bind_some hm
      obtain ⟨s16, h17, hm⟩ := hm
      refine rdS 11 hS wide fun w hS => ?_
      refine d1 (i := 0) rfl (by kernel_rfl) (by kernel_rfl) (St.ld hS) hF rfl (fun _ _ _ h => h) (fun w hl => (e_fa hF fa23_1 rfl)) fun a hF => ?_
      refine d1 (i := 1) rfl (by kernel_rfl) (by kernel_rfl) (St.ld hS) hF rfl (fun _ _ _ h => h) (fun w hl => (e_ld hF Tryd.isAgg3 rfl (hl.cellB (.head _) rfl))) fun a hF => ?_
      refine d1 (i := 5) rfl (by kernel_rfl) (by kernel_rfl) (St.ld hS) hF rfl (fun _ _ _ h => h) (fun w hl => (e_fa hF fa23_0 rfl)) fun a hF => ?_
      refine d1 (i := 6) rfl (by kernel_rfl) (by kernel_rfl) (St.ld hS) hF rfl (fun _ _ _ h => h) (fun w hl => (e_ld hF Tryd.isAgg3 rfl (hl.cellB (.head _) rfl))) fun a hF => ?_
      refine da2 (i := 2) (j := 4) (by kernel_rfl) ?_ ?_
      ·
        refine di (i := 2) rfl <| c1 hF rfl Tryd.call48 (leadlineref01_Text_c _ (hp_le _) h5) ⟨rfl, trivial⟩ (fun v w a hR hF => ?_)
        obtain ⟨rfl, hk⟩ := hR
        replace hS := hS.pass hk
        clear hk
        refine ⟨fun _ => (St.ld hS), ?_⟩
        refine d1 (i := 3) rfl (by kernel_rfl) (by kernel_rfl) (St.ld hS) hF rfl (fun _ _ _ h => h) (fun w hl => (e_catU hF rfl rfl h7)) fun a hF => ?_
        refine da1 (i := 4) (by kernel_rfl) ?_
        refine di (i := 4) rfl <| a_bsl (e := 9) (sz := 1) [strv [], strv [108, 111, 97, 100], strv [111, 119, 110], strv [115, 116, 111, 114, 101], strv [102, 108, 117, 115, 104], strv [111, 112, 116], strv [115, 102, 101, 110, 99, 101], strv [109, 102, 101, 110, 99, 101], strv [99, 97, 115], strv [102, 97, 105, 108], strv [116, 97, 107, 101], strv [103, 105, 118, 101], strv [99, 111, 109, 101], strv [111, 117, 116], strv [102, 101, 110, 99, 101], strv [99, 114, 97, 115, 104], strv [102, 97, 117, 108, 116]] hF rfl hS rfl rfl rfl (fun w => by kernel_rfl) fun b9 w a hS hF => ?_
        have hv8 : Rows (α := Str) H [strv [], strv [108, 111, 97, 100], strv [111, 119, 110], strv [115, 116, 111, 114, 101], strv [102, 108, 117, 115, 104], strv [111, 112, 116], strv [115, 102, 101, 110, 99, 101], strv [109, 102, 101, 110, 99, 101], strv [99, 97, 115], strv [102, 97, 105, 108], strv [116, 97, 107, 101], strv [103, 105, 118, 101], strv [99, 111, 109, 101], strv [111, 117, 116], strv [102, 101, 110, 99, 101], strv [99, 114, 97, 115, 104], strv [102, 97, 117, 108, 116]] ([[], [108, 111, 97, 100], [111, 119, 110], [115, 116, 111, 114, 101], [102, 108, 117, 115, 104], [111, 112, 116], [115, 102, 101, 110, 99, 101], [109, 102, 101, 110, 99, 101], [99, 97, 115], [102, 97, 105, 108], [116, 97, 107, 101], [103, 105, 118, 101], [99, 111, 109, 101], [111, 117, 116], [102, 101, 110, 99, 101], [99, 114, 97, 115, 104], [102, 97, 117, 108, 116]] : List Str) := (.cons (c := [strv []]) rfl (.cons (c := [strv [108, 111, 97, 100]]) rfl (.cons (c := [strv [111, 119, 110]]) rfl (.cons (c := [strv [115, 116, 111, 114, 101]]) rfl (.cons (c := [strv [102, 108, 117, 115, 104]]) rfl (.cons (c := [strv [111, 112, 116]]) rfl (.cons (c := [strv [115, 102, 101, 110, 99, 101]]) rfl (.cons (c := [strv [109, 102, 101, 110, 99, 101]]) rfl (.cons (c := [strv [99, 97, 115]]) rfl (.cons (c := [strv [102, 97, 105, 108]]) rfl (.cons (c := [strv [116, 97, 107, 101]]) rfl (.cons (c := [strv [103, 105, 118, 101]]) rfl (.cons (c := [strv [99, 111, 109, 101]]) rfl (.cons (c := [strv [111, 117, 116]]) rfl (.cons (c := [strv [102, 101, 110, 99, 101]]) rfl (.cons (c := [strv [99, 114, 97, 115, 104]]) rfl (.cons (c := [strv [102, 97, 117, 108, 116]]) rfl .nil)))))))))))))))))
        refine ⟨fun _ => (St.ldsX hS (fun _ _ h => h) (fun _ h => (.tail _ h))), ?_⟩
        refine da1 (i := 7) (by kernel_rfl) ?_
        refine di (i := 7) rfl <| q1 hF rfl (e_iaI hF Tryd.runUnderlying66 Tryd.sizeOf9 rfl rfl h12 (Rd.oaI ((St.ld hS).rdO (.head _)) hv8 (by decide) h12)) fun a hF => ?_
        refine ⟨fun _ => (St.ldsX hS (fun _ _ h => h) (fun _ h => (.tail _ h))), ?_⟩
        obtain ⟨c13, g14, hl15⟩ := Rows.getI hv8 h12
        obtain rfl : c13 = [strv x11] := g14
        refine da1 (i := 8) (by kernel_rfl) ?_
        refine di (i := 8) rfl <| q1 hF rfl (e_ld hF Tryd.isAgg9 rfl ((St.ld hS).elO (.head _) (hl15 0 _ rfl))) fun a hF => ?_
        refine ⟨fun _ => (St.ldsX hS (fun _ _ h => h) (fun _ h => (.tail _ h))), ?_⟩
        refine d1 (i := 9) rfl (by kernel_rfl) (by kernel_rfl) (St.ldsX hS (fun _ _ h => h) (fun _ h => (.tail _ h))) hF rfl (fun _ _ _ h => h) (fun w hl => (e_catU hF rfl rfl h17)) fun a hF => ?_
        refine d1 (i := 10) rfl (by kernel_rfl) (by kernel_rfl) (St.ldsX hS (fun _ _ h => h) (fun _ h => (.tail _ h))) hF rfl (fun _ _ _ h => h) (fun w hl => (e_asg hF rfl)) fun a hF => ?_
        refine de (by kernel_rfl) <| ?_
        refine tn <| ?_
        replace hS := hS.pickL (.cons (.tail .head) .nil)
        exact ⟨s16, H, hm, (Ext.refl _ _), hF.has ⟨rfl, rfl, trivial⟩, hS⟩
      ·
        refine di (i := 4) rfl <| a_bsl (e := 9) (sz := 1) [strv [], strv [108, 111, 97, 100], strv [111, 119, 110], strv [115, 116, 111, 114, 101], strv [102, 108, 117, 115, 104], strv [111, 112, 116], strv [115, 102, 101, 110, 99, 101], strv [109, 102, 101, 110, 99, 101], strv [99, 97, 115], strv [102, 97, 105, 108], strv [116, 97, 107, 101], strv [103, 105, 118, 101], strv [99, 111, 109, 101], strv [111, 117, 116], strv [102, 101, 110, 99, 101], strv [99, 114, 97, 115, 104], strv [102, 97, 117, 108, 116]] hF rfl hS rfl rfl rfl (fun w => by kernel_rfl) fun b9 w a hS hF => ?_
        have hv8 : Rows (α := Str) H [strv [], strv [108, 111, 97, 100], strv [111, 119, 110], strv [115, 116, 111, 114, 101], strv [102, 108, 117, 115, 104], strv [111, 112, 116], strv [115, 102, 101, 110, 99, 101], strv [109, 102, 101, 110, 99, 101], strv [99, 97, 115], strv [102, 97, 105, 108], strv [116, 97, 107, 101], strv [103, 105, 118, 101], strv [99, 111, 109, 101], strv [111, 117, 116], strv [102, 101, 110, 99, 101], strv [99, 114, 97, 115, 104], strv [102, 97, 117, 108, 116]] ([[], [108, 111, 97, 100], [111, 119, 110], [115, 116, 111, 114, 101], [102, 108, 117, 115, 104], [111, 112, 116], [115, 102, 101, 110, 99, 101], [109, 102, 101, 110, 99, 101], [99, 97, 115], [102, 97, 105, 108], [116, 97, 107, 101], [103, 105, 118, 101], [99, 111, 109, 101], [111, 117, 116], [102, 101, 110, 99, 101], [99, 114, 97, 115, 104], [102, 97, 117, 108, 116]] : List Str) := (.cons (c := [strv []]) rfl (.cons (c := [strv [108, 111, 97, 100]]) rfl (.cons (c := [strv [111, 119, 110]]) rfl (.cons (c := [strv [115, 116, 111, 114, 101]]) rfl (.cons (c := [strv [102, 108, 117, 115, 104]]) rfl (.cons (c := [strv [111, 112, 116]]) rfl (.cons (c := [strv [115, 102, 101, 110, 99, 101]]) rfl (.cons (c := [strv [109, 102, 101, 110, 99, 101]]) rfl (.cons (c := [strv [99, 97, 115]]) rfl (.cons (c := [strv [102, 97, 105, 108]]) rfl (.cons (c := [strv [116, 97, 107, 101]]) rfl (.cons (c := [strv [103, 105, 118, 101]]) rfl (.cons (c := [strv [99, 111, 109, 101]]) rfl (.cons (c := [strv [111, 117, 116]]) rfl (.cons (c := [strv [102, 101, 110, 99, 101]]) rfl (.cons (c := [strv [99, 114, 97, 115, 104]]) rfl (.cons (c := [strv [102, 97, 117, 108, 116]]) rfl .nil)))))))))))))))))
        refine ⟨fun _ => (St.ldsX hS (fun _ _ h => h) (fun _ h => (.tail _ h))), ?_⟩
        refine da2 (i := 2) (j := 7) (by kernel_rfl) ?_ ?_
        ·
          refine di (i := 2) rfl <| c1 hF rfl Tryd.call48 (leadlineref01_Text_c _ (hp_le _) h5) ⟨rfl, trivial⟩ (fun v w a hR hF => ?_)
          obtain ⟨rfl, hk⟩ := hR
          replace hS := hS.pass hk
          clear hk
          refine ⟨fun _ => (St.ldsX hS (fun _ _ h => h) (fun _ h => (.tail _ h))), ?_⟩
          refine d1 (i := 3) rfl (by kernel_rfl) (by kernel_rfl) (St.ldsX hS (fun _ _ h => h) (fun _ h => (.tail _ h))) hF rfl (fun _ _ _ h => h) (fun w hl => (e_catU hF rfl rfl h7)) fun a hF => ?_
          refine da1 (i := 7) (by kernel_rfl) ?_
          refine di (i := 7) rfl <| q1 hF rfl (e_iaI hF Tryd.runUnderlying66 Tryd.sizeOf9 rfl rfl h12 (Rd.oaI ((St.ld hS).rdO (.head _)) hv8 (by decide) h12)) fun a hF => ?_
          refine ⟨fun _ => (St.ldsX hS (fun _ _ h => h) (fun _ h => (.tail _ h))), ?_⟩
          obtain ⟨c13, g14, hl15⟩ := Rows.getI hv8 h12
          obtain rfl : c13 = [strv x11] := g14
          refine da1 (i := 8) (by kernel_rfl) ?_
          refine di (i := 8) rfl <| q1 hF rfl (e_ld hF Tryd.isAgg9 rfl ((St.ld hS).elO (.head _) (hl15 0 _ rfl))) fun a hF => ?_
          refine ⟨fun _ => (St.ldsX hS (fun _ _ h => h) (fun _ h => (.tail _ h))), ?_⟩
          refine d1 (i := 9) rfl (by kernel_rfl) (by kernel_rfl) (St.ldsX hS (fun _ _ h => h) (fun _ h => (.tail _ h))) hF rfl (fun _ _ _ h => h) (fun w hl => (e_catU hF rfl rfl h17)) fun a hF => ?_
          refine d1 (i := 10) rfl (by kernel_rfl) (by kernel_rfl) (St.ldsX hS (fun _ _ h => h) (fun _ h => (.tail _ h))) hF rfl (fun _ _ _ h => h) (fun w hl => (e_asg hF rfl)) fun a hF => ?_
          refine de (by kernel_rfl) <| ?_
          refine tn <| ?_
          replace hS := hS.pickL (.cons (.tail .head) .nil)
          exact ⟨s16, H, hm, (Ext.refl _ _), hF.has ⟨rfl, rfl, trivial⟩, hS⟩
        ·
          refine di (i := 7) rfl <| q1 hF rfl (e_iaI hF Tryd.runUnderlying66 Tryd.sizeOf9 rfl rfl h12 (Rd.oaI ((St.ld hS).rdO (.head _)) hv8 (by decide) h12)) fun a hF => ?_
          refine ⟨fun _ => (St.ldsX hS (fun _ _ h => h) (fun _ h => (.tail _ h))), ?_⟩
          obtain ⟨c13, g14, hl15⟩ := Rows.getI hv8 h12
          obtain rfl : c13 = [strv x11] := g14
          refine da2 (i := 2) (j := 8) (by kernel_rfl) ?_ ?_
          ·
            refine di (i := 2) rfl <| c1 hF rfl Tryd.call48 (leadlineref01_Text_c _ (hp_le _) h5) ⟨rfl, trivial⟩ (fun v w a hR hF => ?_)
            obtain ⟨rfl, hk⟩ := hR
            replace hS := hS.pass hk
            clear hk
            refine ⟨fun _ => (St.ldsX hS (fun _ _ h => h) (fun _ h => (.tail _ h))), ?_⟩
            refine d1 (i := 3) rfl (by kernel_rfl) (by kernel_rfl) (St.ldsX hS (fun _ _ h => h) (fun _ h => (.tail _ h))) hF rfl (fun _ _ _ h => h) (fun w hl => (e_catU hF rfl rfl h7)) fun a hF => ?_
            refine da1 (i := 8) (by kernel_rfl) ?_
            refine di (i := 8) rfl <| q1 hF rfl (e_ld hF Tryd.isAgg9 rfl ((St.ld hS).elO (.head _) (hl15 0 _ rfl))) fun a hF => ?_
            refine ⟨fun _ => (St.ldsX hS (fun _ _ h => h) (fun _ h => (.tail _ h))), ?_⟩
            refine d1 (i := 9) rfl (by kernel_rfl) (by kernel_rfl) (St.ldsX hS (fun _ _ h => h) (fun _ h => (.tail _ h))) hF rfl (fun _ _ _ h => h) (fun w hl => (e_catU hF rfl rfl h17)) fun a hF => ?_
            refine d1 (i := 10) rfl (by kernel_rfl) (by kernel_rfl) (St.ldsX hS (fun _ _ h => h) (fun _ h => (.tail _ h))) hF rfl (fun _ _ _ h => h) (fun w hl => (e_asg hF rfl)) fun a hF => ?_
            refine de (by kernel_rfl) <| ?_
            refine tn <| ?_
            replace hS := hS.pickL (.cons (.tail .head) .nil)
            exact ⟨s16, H, hm, (Ext.refl _ _), hF.has ⟨rfl, rfl, trivial⟩, hS⟩
          ·
            refine di (i := 8) rfl <| q1 hF rfl (e_ld hF Tryd.isAgg9 rfl ((St.ld hS).elO (.head _) (hl15 0 _ rfl))) fun a hF => ?_
            refine ⟨fun _ => (St.ldsX hS (fun _ _ h => h) (fun _ h => (.tail _ h))), ?_⟩
            refine da1 (i := 2) (by kernel_rfl) ?_
            refine di (i := 2) rfl <| c1 hF rfl Tryd.call48 (leadlineref01_Text_c _ (hp_le _) h5) ⟨rfl, trivial⟩ (fun v w a hR hF => ?_)
            obtain ⟨rfl, hk⟩ := hR
            replace hS := hS.pass hk
            clear hk
            refine ⟨fun _ => (St.ldsX hS (fun _ _ h => h) (fun _ h => (.tail _ h))), ?_⟩
            refine d1 (i := 3) rfl (by kernel_rfl) (by kernel_rfl) (St.ldsX hS (fun _ _ h => h) (fun _ h => (.tail _ h))) hF rfl (fun _ _ _ h => h) (fun w hl => (e_catU hF rfl rfl h7)) fun a hF => ?_
            refine d1 (i := 9) rfl (by kernel_rfl) (by kernel_rfl) (St.ldsX hS (fun _ _ h => h) (fun _ h => (.tail _ h))) hF rfl (fun _ _ _ h => h) (fun w hl => (e_catU hF rfl rfl h17)) fun a hF => ?_
            refine d1 (i := 10) rfl (by kernel_rfl) (by kernel_rfl) (St.ldsX hS (fun _ _ h => h) (fun _ h => (.tail _ h))) hF rfl (fun _ _ _ h => h) (fun w hl => (e_asg hF rfl)) fun a hF => ?_
            refine de (by kernel_rfl) <| ?_
            refine tn <| ?_
            replace hS := hS.pickL (.cons (.tail .head) .nil)
            exact ⟨s16, H, hm, (Ext.refl _ _), hF.has ⟨rfl, rfl, trivial⟩, hS⟩
    clear hm hF hS
    rintro a w ⟨vA2, HA1, hm, hxHA1, hF, hS⟩
    unfold leadlineref15_Show_j1 at hm
    refine th <| ?_
    refine rg <| ?_
    refine ls <| q1 hF rfl (e_fa hF fa23_2 rfl) fun a hF => ?_
    refine ls <| q1 hF rfl (e_ld hF Tryd.isAgg3 rfl ((St.ld hS).cellB (.head _) rfl)) fun a hF => ?_
    refine ls <| q1 hF rfl (e_fa hF fa23_3 rfl) fun a hF => ?_
    refine ls <| q1 hF rfl (e_ld hF Tryd.isAgg3 rfl ((St.ld hS).cellB (.head _) rfl)) fun a hF => ?_
    refine ls <| q1 hF rfl (e_fa hF fa23_4 rfl) fun a hF => ?_
    refine ls <| q1 hF rfl (e_ld hF Tryd.isAgg3 rfl ((St.ld hS).cellB (.head _) rfl)) fun a hF => ?_
    refine ls <| a_bsl (e := 3) (sz := 1) [.int .i64 p1.A, .int .i64 p1.N, .int .i64 p1.M] hF rfl hS rfl rfl rfl (fun w => by kernel_rfl) fun b19 w a hS hF => ?_
    have hv18 : Rows (α := Int) HA1 [.int .i64 p1.A, .int .i64 p1.N, .int .i64 p1.M] ([p1.A, p1.N, p1.M] : List Int) := (.cons (c := [.int .i64 p1.A]) rfl (.cons (c := [.int .i64 p1.N]) rfl (.cons (c := [.int .i64 p1.M]) rfl .nil)))
    refine ls <| q1 hF rfl (e_asg hF rfl) fun a hF => ?_
    refine re <| ?_
    refine tn <| th <| th <| ?_
    refine rg <| ?_
    refine ls <| q1 hF rfl (e_asg hF rfl) fun a hF => ?_
    refine re <| ?_
    refine tn <| midK (fun a w => ∃ (vA3 : Str), leadlineref15_Show_j2 vA3 = some r ∧ Fr 48 [(3, strv vA3)] a ∧ St w0 Nil [HA1] [] w) ?_ ?_
    ·
      replace hS := hS.pickL (.cons (.tail .head) (.cons .head .nil))
      refine wp_block <| lp (α := Nat × Str × Int) (fun (gh : Nat × Str × Int) a w => match gh with | (nn3, vB1, vB2) => (leadlineref15_Show_l3 N leadlineref15_Show_j2 p1) nn3 vB1 vB2 = some r ∧ Fr 48 [(1, .pointer (some ⟨b2, 0, none⟩)), (3, strv vB1), (4, .slice (some ⟨b19, 0, none⟩) ([p1.A, p1.N, p1.M] : List Int).length 3), (5, .int .i64 vB2)] a ∧ St w0 Nil [HA1] [blk b2 (.cells [.int .i64 p1.Kind, .int .i64 p1.T, .int .i64 p1.A, .int .i64 p1.N, .int .i64 p1.M].toArray 23 (0, 0)), sla 3 1 (some ⟨b19, 0, none⟩) ([p1.A, p1.N, p1.M] : List Int).length 3 [.int .i64 p1.A, .int .i64 p1.N, .int .i64 p1.M]] w) (fun gh => gh.1) (N, vA2, 0) ⟨hm, hF.has ⟨rfl, rfl, rfl, rfl, trivial⟩, hS⟩ ?_
      clear hm hF hS
      rintro ⟨nn3, vB1, vB2⟩ a w ⟨hm, hF, hS⟩
      obtain _ | nn3 := nn3
      · simp [leadlineref15_Show_l3] at hm
      rw [leadlineref15_Show_l3] at hm
      refine th <| th <| ?_
      refine rg <| ?_
      refine ls <| q1 hF rfl (e_move hF rfl) fun a hF => ?_
      refine ls <| q1 hF rfl (e_lss hF rfl rfl) fun a hF => ?_
      refine re <| ?_
      rcases bdich (decide (vB2 < 3)) with hb21 | hb21
      ·
        replace hm := itp_t hm hb21
        refine tn <| ctv hF rfl hb21 <| wp_skip <| ?_
        refine tn <| th <| midK (fun a w => ∃ (vC1 : Str), (leadlineref15_Show_j4 (leadlineref15_Show_l3 N leadlineref15_Show_j2 p1 nn3) vB2) vC1 = some r ∧ Fr 48 [(1, .pointer (some ⟨b2, 0, none⟩)), (3, strv vC1), (4, .slice (some ⟨b19, 0, none⟩) ([p1.A, p1.N, p1.M] : List Int).length 3), (5, .int .i64 vB2)] a ∧ St w0 Nil [HA1] [blk b2 (.cells [.int .i64 p1.Kind, .int .i64 p1.T, .int .i64 p1.A, .int .i64 p1.N, .int .i64 p1.M].toArray 23 (0, 0)), sla 3 1 (some ⟨b19, 0, none⟩) ([p1.A, p1.N, p1.M] : List Int).length 3 [.int .i64 p1.A, .int .i64 p1.N, .int .i64 p1.M]] w) ?_ ?_
        ·
          refine wp_block <| th <| ?_
          replace hm := bind_some hm
          obtain ⟨r22, h23, hm⟩ := hm
          refine rg <| ?_
          refine ls <| q1 hF rfl (e_fa hF fa23_0 rfl) fun a hF => ?_
          refine ls <| q1 hF rfl (e_ld hF Tryd.isAgg3 rfl ((St.ld hS).cellB (.head _) rfl)) fun a hF => ?_
          refine ls <| q1 hF rfl (e_move hF rfl) fun a hF => ?_
          refine ls <| c1 hF rfl Tryd.call46 (leadlineref15_has_c (hp_le _) h23) ⟨rfl, rfl, trivial⟩ (fun v w a hR hF => ?_)
          obtain ⟨rfl, hk⟩ := hR
          replace hS := hS.pass hk
          clear hk
          refine re <| ?_
          rcases bdich r22 with hb24 | hb24
          ·
            replace hm := ite_t hm hb24
            refine tn <| ctv hF rfl hb24 <| ?_
            replace hm := bind_some hm
            obtain ⟨x25, h26, hm⟩ := hm
            have ho27 := Rd.oaI (hS.rdO (.tail _ (.head _))) hv18 (by decide) h26
            obtain ⟨c28, g29, hl30⟩ := Rows.getI hv18 h26
            obtain rfl : c28 = [.int .i64 x25] := g29
            replace hm := bind_some hm
            obtain ⟨r31, h32, hm⟩ := hm
            replace hm := bind_some hm
            obtain ⟨s33, h34, hm⟩ := hm
            replace hm := bind_some hm
            obtain ⟨s35, h36, hm⟩ := hm
            refine rg <| ?_
            refine ls <| q1 hF rfl (e_move hF rfl) fun a hF => ?_
            refine ls <| q1 hF rfl (e_move hF rfl) fun a hF => ?_
            refine ls <| q1 hF rfl (e_move hF rfl) fun a hF => ?_
            refine ls <| q1 hF rfl (e_iaI hF Tryd.runUnderlying25 Tryd.sizeOf3 rfl rfl h26 ho27) fun a hF => ?_
            refine ls <| q1 hF rfl (e_ld hF Tryd.isAgg3 rfl ((St.ld hS).elO (.tail _ (.head _)) (hl30 0 _ rfl))) fun a hF => ?_
            refine ls <| c1 hF rfl Tryd.call48 (leadlineref01_Text_c _ (hp_le _) h32) ⟨rfl, trivial⟩ (fun v w a hR hF => ?_)
            obtain ⟨rfl, hk⟩ := hR
            replace hS := hS.pass hk
            clear hk
            refine ls <| q1 hF rfl (e_catU hF rfl rfl h34) fun a hF => ?_
            refine ls <| q1 hF rfl (e_catU hF rfl rfl h36) fun a hF => ?_
            refine ls <| q1 hF rfl (e_asg hF rfl) fun a hF => ?_
            refine re <| ?_
            refine bn <| tn <| ?_
            exact ⟨s35, hm, hF.has ⟨rfl, rfl, rfl, rfl, trivial⟩, hS⟩
          ·
            replace hm := ite_f hm hb24
            refine tn <| cfv hF rfl hb24 <| wp_skip <| ?_
            refine bn <| tn <| ?_
            exact ⟨vB1, hm, hF.has ⟨rfl, rfl, rfl, rfl, trivial⟩, hS⟩
        clear hm hF hS
        rintro a w ⟨vC1, hm, hF, hS⟩
        unfold leadlineref15_Show_j4 at hm
        refine rg <| ?_
        refine ls <| q1 hF rfl (e_move hF rfl) fun a hF => ?_
        refine ls <| q1 hF rfl (e_add hF rfl rfl) fun a hF => ?_
        refine ls <| q1 hF rfl (e_asg hF rfl) fun a hF => ?_
        refine re <| ?_
        refine tn <| ?_
        exact ⟨(nn3, vC1, (IntKind.i64.wrap (vB2 + 1))), ⟨hm, hF.has ⟨rfl, rfl, rfl, rfl, trivial⟩, hS⟩, Nat.lt_succ_self _⟩
      ·
        replace hm := itp_f hm hb21
        refine tn <| cfv hF rfl hb21 <| ?_
        refine wp_exit <| tx <| tx <| bx <| ?_
        refine tn <| ?_
        replace hS := hS.pickL .nil
        exact ⟨vB1, hm, hF.has ⟨rfl, trivial⟩, hS⟩
    clear hm hF hS
    rintro a w ⟨vA3, hm, hF, hS⟩
    unfold leadlineref15_Show_j2 at hm
    refine th <| ?_
    refine rg <| ?_
    refine ls <| q1 hF rfl (e_move hF rfl) fun a hF => ?_
    refine ls <| q1 hF rfl (e_asg hF rfl) fun a hF => ?_
    refine re <| ?_
    refine tn <| ?_
    refine wp_ret <| ?_
    obtain rfl := Option.some.inj hm
    exact r1 hF Tryd.results21 rfl ⟨rfl, hS.keep⟩

set_option maxRecDepth 100000 in
theorem leadlinelaw17_cut_c {N : Nat} {w0 : World} {H : PH} (hH : H.le w0) {oa2 : Option Addr} {cap3 : Nat} {p1 : (List api_Event)} (hc4 : p1.length ≤ cap3) (hr5 : SR H oa2 p1) {r : (List api_Event)} (hm : leadlinelaw17_cut N p1 = some r) : Tot Tryd.prog 25 #[.slice oa2 p1.length cap3] w0 (fun v w' => ∃ (H' : PH) (oa0 : Option Addr) (cap0 : Nat), v = .slice oa0 r.length cap0 ∧ r.length ≤ cap0 ∧ SR H' oa0 r ∧ Ext w0 H H' ∧ H'.le w' ∧ Keep Nil w0 w') := by
  unfold leadlinelaw17_cut at hm
  refine fn0 (args := [.slice oa2 p1.length cap3]) (F := [(0, .slice oa2 p1.length cap3)]) Tryd.func25 rfl Tryd.ntmps25 rfl rfl fun a hF => ?_
  have hS : St w0 Nil [H] [] w0 := start1 hH
  refine th <| ?_
  refine rg <| ?_
  refine ls <| q1 hF rfl (e_asg hF rfl) fun a hF => ?_
  refine re <| ?_
  refine tn <| th <| ?_
  replace hm := bind_some hm
  obtain ⟨l6, h7, hm⟩ := hm
  obtain ⟨oa8, cap9, e10, e11, hc12, hr13⟩ := SR.sub (sz := 5) hr5 hc4 rfl h7
  refine rg <| ?_
  refine ls <| q1 hF rfl (e_move hF rfl) fun a hF => ?_
  refine ls <| q1 hF rfl (e_move hF rfl) fun a hF => ?_
  refine ls <| q1 hF rfl (e_lenL (α := api_Event) (xs := p1) hF Tryd.runUnderlying39 rfl) fun a hF => ?_
  refine ls <| q1 hF rfl (e_min hF rfl rfl) fun a hF => ?_
  refine ls <| q1 hF rfl (e_subL (xs := p1) (vl := 0) (vh := (min (p1.length : Int) 30)) hF Tryd.runUnderlying39 Tryd.sizeOf23 rfl hc4 rfl rfl h7 e10 e11) fun a hF => ?_
  refine ls <| q1 hF rfl (e_asg hF rfl) fun a hF => ?_
  refine re <| ?_
  refine tn <| ?_
  refine wp_ret <| ?_
  obtain rfl := Option.some.inj hm
  exact r1 hF Tryd.results25 rfl ⟨H, _, _, rfl, hc12, hr13, (Ext.refl _ _), (St.le hS), hS.keep⟩

set_option maxRecDepth 100000 in
theorem clock_Threads_c {N : Nat} {w0 : World} {H : PH} (hH : H.le w0) {oa2 : Option Addr} {cap3 : Nat} {p1 : (List api_Event)} (hc4 : p1.length ≤ cap3) (hr5 : SR H oa2 p1) {r : Int} (hm : clock_Threads N p1 = some r) : Tot Tryd.prog 49 #[.slice oa2 p1.length cap3] w0 (fun v w' => v = .int .i64 r ∧ Keep Nil w0 w') := by
  unfold clock_Threads at hm
  refine fn0 (args := [.slice oa2 p1.length cap3]) (F := [(0, .slice oa2 p1.length cap3)]) Tryd.func49 rfl Tryd.ntmps49 rfl rfl fun a hF => ?_
  have hS : St w0 Nil [H] [] w0 := start1 hH
  refine th <| ?_
  refine rg <| ?_
  refine ls <| q1 hF rfl (e_asg hF rfl) fun a hF => ?_
  refine re <| ?_
  refine tn <| th <| ?_
  refine rg <| ?_
  refine ls <| q1 hF rfl (e_asg hF rfl) fun a hF => ?_
  refine re <| ?_
  refine tn <| th <| th <| ?_
  refine rg <| ?_
  refine ls <| q1 hF rfl (e_move hF rfl) fun a hF => ?_
  refine ls <| q1 hF rfl (e_lenL (α := api_Event) (xs := p1) hF Tryd.runUnderlying39 rfl) fun a hF => ?_
  refine ls <| q1 hF rfl (e_move hF rfl) fun a hF => ?_
  refine re <| ?_
  refine tn <| midK (fun a w => ∃ (vA2 : Int) (HA1 : PH), clock_Threads_j1 vA2 = some r ∧ Ext w0 H HA1 ∧ Fr 27 [(3, .int .i64 vA2)] a ∧ St w0 Nil [HA1] [] w) ?_ ?_
  ·
    refine wp_block <| lp (α := Nat × Int × Int) (fun (gh : Nat × Int × Int) a w => match gh with | (nn2, vB2, vB7) => ∃ (HB1 : PH) (oaB3 : Option Addr) (capB4 : Nat), (clock_Threads_l2 N clock_Threads_j1 p1) nn2 vB2 vB7 = some r ∧ Ext w0 H HB1 ∧ Fr 27 [(3, .int .i64 vB2), (6, .slice oaB3 p1.length capB4), (7, .int .i64 (p1.length : Int)), (8, .int .i64 vB7)] a ∧ St w0 Nil [HB1] [] w ∧ p1.length ≤ capB4 ∧ SR HB1 oaB3 p1) (fun gh => gh.1) (N, 0, 0) ⟨H, oa2, cap3, hm, (Ext.refl _ _), hF.has ⟨rfl, rfl, rfl, rfl, trivial⟩, hS, hc4, hr5⟩ ?_
    clear hm hF hS
    rintro ⟨nn2, vB2, vB7⟩ a w ⟨HB1, oaB3, capB4, hm, hxHB1, hF, hS, hcB5, hrB6⟩
    obtain _ | nn2 := nn2
    · simp [clock_Threads_l2] at hm
    rw [clock_Threads_l2] at hm
    refine th <| ?_
    refine rg <| ?_
    refine ls <| q1 hF rfl (e_lss hF rfl rfl) fun a hF => ?_
    refine re <| ?_
    rcases bdich (decide (vB7 < (p1.length : Int))) with hb6 | hb6
    ·
      replace hm := itp_t hm hb6
      refine tn <| th <| ctv hF rfl hb6 <| wp_skip <| ?_
      refine tn <| th <| wp_block <| th <| ?_
      replace hm := bind_some hm
      obtain ⟨x7, h8, hm⟩ := hm
      obtain ⟨c9, g10, hl11⟩ := SR.get hrB6 h8
      obtain rfl := api_Event_open g10
      refine rg <| ?_
      refine ls <| q1 hF rfl (e_iaI hF Tryd.runUnderlying39 Tryd.sizeOf23 rfl rfl h8 (SR.oaI hrB6 (by decide) h8)) fun a hF => ?_
      refine ls <| q1 hF rfl (e_ldA hF Tryd.isAgg23 Tryd.sizeOf23 rfl rfl (fun j v hj => PH.le.cell (Lds.le (St.ld hS)) (hl11 j v hj))) fun a hF => ?_
      refine ls <| a_alloc (cs := [.int .i64 0, .int .i64 0, .int .i64 0, .int .i64 0, .int .i64 0].toArray) hF rfl hS Tryd.zeroValue23 rfl fun b12 w a hS hF => ?_
      refine ls <| s_blkA hF hS Tryd.sizeOf23 rfl rfl rfl rfl (one_cells rfl) .head fun w hS => ?_
      refine re <| ?_
      refine tn <| th <| th <| ?_
      refine rg <| ?_
      refine ls <| q1 hF rfl (e_fa hF fa23_1 rfl) fun a hF => ?_
      refine ls <| q1 hF rfl (e_ld hF Tryd.isAgg3 rfl ((St.ld hS).cellB (.head _) rfl)) fun a hF => ?_
      refine ls <| q1 hF rfl (e_lss hF rfl rfl) fun a hF => ?_
      refine ls <| q1 hF rfl (e_move hF rfl) fun a hF => ?_
      refine grp (N := 27) (Fk := [(3, .int .i64 vB2), (5, .pointer (some ⟨b12, 0, none⟩)), (6, .slice oaB3 p1.length capB4), (7, .int .i64 (p1.length : Int)), (8, .int .i64 vB7), (19, .bool ((decide (x7.T < 0)) || (decide (8 ≤ x7.T))))]) (b := (decide (x7.T < 0))) 4 hS ?_ ?_ ?_
      ·
        intro hb key
        replace hF := Fr.as hF (t := 15) rfl (congrArg Value.bool hb)
        refine ls <| gn hF rfl rfl rfl rfl fun a hF => ?_
        refine ls <| gn hF rfl rfl rfl rfl fun a hF => ?_
        refine ls <| gn hF rfl rfl rfl rfl fun a hF => ?_
        refine ls <| q1 hF rfl (e_as (v' := .bool ((decide (x7.T < 0)) || (decide (8 ≤ x7.T)))) (e_pickT hF rfl rfl) (by rw [hb]; rfl)) fun a hF => ?_
        exact key _ _ (hF.has ⟨rfl, rfl, rfl, rfl, rfl, rfl, trivial⟩) hS
      ·
        intro hb key
        replace hF := Fr.as hF (t := 15) rfl (congrArg Value.bool hb)
        refine ls <| gy hF rfl rfl <| q1 hF rfl (e_fa hF fa23_1 rfl) fun a hF => ?_
        refine ls <| gy hF rfl rfl <| q1 hF rfl (e_ld hF Tryd.isAgg3 rfl ((St.ld hS).cellB (.head _) rfl)) fun a hF => ?_
        refine ls <| gy hF rfl rfl <| q1 hF rfl (e_geq hF rfl rfl) fun a hF => ?_
        refine ls <| q1 hF rfl (e_as (v' := .bool ((decide (x7.T < 0)) || (decide (8 ≤ x7.T)))) (e_pickF hF rfl rfl) (by rw [hb]; rfl)) fun a hF => ?_
        exact key _ _ (hF.has ⟨rfl, rfl, rfl, rfl, rfl, rfl, trivial⟩) hS
      intro a w hF hS
      refine re <| ?_
      rcases bdich ((decide (x7.T < 0)) || (decide (8 ≤ x7.T))) with hb13 | hb13
      ·
        replace hm := ite_t hm hb13
        refine tn <| ctv hF rfl hb13 <| th <| ?_
        refine rg <| ?_
        refine ls <| q1 hF rfl (e_asg hF rfl) fun a hF => ?_
        refine re <| ?_
        refine tn <| ?_
        refine wp_ret <| tr <| br <| tr <| tr <| br <| tr <| ?_
        obtain rfl := Option.some.inj hm
        exact r1 hF Tryd.results49 rfl ⟨rfl, hS.keep⟩
      ·
        replace hm := ite_f hm hb13
        refine tn <| cfv hF rfl hb13 <| wp_skip <| ?_
        refine tn <| ?_
        refine rg <| ?_
        refine ls <| q1 hF rfl (e_move hF rfl) fun a hF => ?_
        refine ls <| q1 hF rfl (e_fa hF fa23_1 rfl) fun a hF => ?_
        refine ls <| q1 hF rfl (e_ld hF Tryd.isAgg3 rfl ((St.ld hS).cellB (.head _) rfl)) fun a hF => ?_
        refine ls <| q1 hF rfl (e_add hF rfl rfl) fun a hF => ?_
        refine ls <| q1 hF rfl (e_max hF rfl rfl) fun a hF => ?_
        refine ls <| q1 hF rfl (e_asg hF rfl) fun a hF => ?_
        refine re <| ?_
        refine bn <| tn <| ?_
        refine rg <| ?_
        refine ls <| q1 hF rfl (e_add hF rfl rfl) fun a hF => ?_
        refine ls <| q1 hF rfl (e_move hF rfl) fun a hF => ?_
        refine re <| ?_
        refine tn <| ?_
        replace hS := hS.pickL .nil
        exact ⟨(nn2, (max vB2 (IntKind.i64.wrap (x7.T + 1))), (IntKind.i64.wrap (vB7 + 1))), ⟨HB1, oaB3, capB4, hm, hxHB1, hF.has ⟨rfl, rfl, rfl, rfl, trivial⟩, hS, hcB5, hrB6⟩, Nat.lt_succ_self _⟩
    ·
      replace hm := itp_f hm hb6
      refine tn <| th <| cfv hF rfl hb6 <| ?_
      refine wp_exit <| tx <| tx <| bx <| ?_
      refine tn <| ?_
      exact ⟨vB2, HB1, hm, hxHB1, hF.has ⟨rfl, trivial⟩, hS⟩
  clear hm hF hS
  rintro a w ⟨vA2, HA1, hm, hxHA1, hF, hS⟩
  unfold clock_Threads_j1 at hm
  refine th <| ?_
  refine rg <| ?_
  refine ls <| q1 hF rfl (e_move hF rfl) fun a hF => ?_
  refine ls <| q1 hF rfl (e_asg hF rfl) fun a hF => ?_
  refine re <| ?_
  refine tn <| ?_
  refine wp_ret <| ?_
  obtain rfl := Option.some.inj hm
  exact r1 hF Tryd.results49 rfl ⟨rfl, hS.keep⟩

set_option maxRecDepth 100000 in
theorem slices_Clone_api_Event_api_Event_c {N : Nat} {w0 : World} {H : PH} (hH : H.le w0) {oa2 : Option Addr} {cap3 : Nat} {p1 : (List api_Event)} (hc4 : p1.length ≤ cap3) (hr5 : SR H oa2 p1) {r : (List api_Event)} (hm : slices_Clone_api_Event_api_Event N p1 = some r) : Tot Tryd.prog 50 #[.slice oa2 p1.length cap3] w0 (fun v w' => ∃ (oa0 : Option Addr) (cap0 : Nat) (vs0 : List Value), v = .slice oa0 r.length cap0 ∧ (∀ h, Rows h vs0 r) ∧ Fresh w0 (sla 23 5 oa0 r.length cap0 vs0) w') := by
  unfold slices_Clone_api_Event_api_Event at hm
  refine fn0 (args := [.slice oa2 p1.length cap3]) (F := [(0, .slice oa2 p1.length cap3)]) Tryd.func50 rfl Tryd.ntmps50 rfl rfl fun a hF => ?_
  have hS : St w0 Nil [H] [] w0 := start1 hH
  refine th <| ?_
  refine rg <| ?_
  refine ls <| q1 hF rfl (e_asg hF rfl) fun a hF => ?_
  refine re <| ?_
  refine tn <| th <| th <| ?_
  refine rg <| ?_
  refine ls <| q1 hF rfl (e_move hF rfl) fun a hF => ?_
  refine ls <| q1 hF rfl (e_eqlN hF Tryd.runUnderlying39 rfl rfl) fun a hF => ?_
  refine re <| ?_
  rcases bdich oa2.isNone with hb6 | hb6
  ·
    obtain ⟨rfl, rfl⟩ := cloneNil hr5 (by decide) hb6 (by simpa using hm)
    refine tn <| ctv hF rfl hb6 <| th <| rg <| ls <| q1 hF rfl (e_asg hF rfl) fun a hF => ?_
    refine re <| tn <| wp_ret <| tr <| ?_
    replace hS := St.nilS hS 23 5
    exact r1 hF Tryd.results50 rfl ⟨_, _, _, rfl, (fun _ => .nil), hS.endFresh (.head _)⟩
  ·
    refine tn <| cfv hF rfl hb6 <| wp_skip <| ?_
    refine tn <| th <| ?_
    replace hm := bind_some hm
    obtain ⟨l10, h11, hm⟩ := hm
    refine rg <| ?_
    refine ls <| a_bsl (e := 23) (sz := 5) [] hF rfl hS rfl rfl rfl (fun w => by kernel_rfl) fun b8 w a hS hF => ?_
    have hv7 : Rows (α := api_Event) H [] [] := .nil
    refine ls <| q1 hF rfl (e_move hF rfl) fun a hF => ?_
    obtain ⟨us16, hd17, hu18⟩ := id hr5
    refine ls <| m_app (α := api_Event) (xs := []) (ys := p1) hF rfl hS Tryd.underlying39 info23 rfl (by decide) rfl rfl rfl (.head _) hv7 (hS.rdH (.head _) hd17) hu18 h11 fun oa12 cap13 vs14 w a hv15 hU hF => ?_
    replace hS := hU _ .head
    clear hU
    refine ls <| q1 hF rfl (e_asg hF rfl) fun a hF => ?_
    refine re <| ?_
    refine tn <| ?_
    refine wp_ret <| ?_
    obtain rfl := Option.some.inj hm
    exact r1 hF Tryd.results50 rfl ⟨_, _, _, rfl, (fun _ => Rows.ind hv15), hS.endFresh (.head _)⟩

set_option maxRecDepth 100000 in
theorem trace_Swap_c {N : Nat} {w0 : World} {H : PH} (hH : H.le w0) {oa2 : Option Addr} {cap3 : Nat} {p1 : (List api_Event)} (hc4 : p1.length ≤ cap3) (hr5 : SR H oa2 p1) {p6 : Int} {oa8 : Option Addr} {cap9 : Nat} {p7 : (List Int)} (hc10 : p7.length ≤ cap9) (hr11 : SR H oa8 p7) {p12 : Int} {r : ((List api_Event) × Bool)} (hm : trace_Swap N p1 p6 p7 p12 = some r) : Tot Tryd.prog 26 #[.slice oa2 p1.length cap3, .int .i64 p6, .slice oa8 p7.length cap9, .int .i64 p12] w0 (fun v w' => ∃ (oa0 : Option Addr) (cap0 : Nat) (vs0 : List Value), v = .tuple #[.slice oa0 r.1.length cap0, .bool r.2] ∧ (∀ h, Rows h vs0 r.1) ∧ Fresh w0 (sla 23 5 oa0 r.1.length cap0 vs0) w') := by
  unfold trace_Swap at hm
  refine fn0 (args := [.slice oa2 p1.length cap3, .int .i64 p6, .slice oa8 p7.length cap9, .int .i64 p12]) (F := [(0, .slice oa2 p1.length cap3), (1, .int .i64 p6), (2, .slice oa8 p7.length cap9), (3, .int .i64 p12)]) Tryd.func26 rfl Tryd.ntmps26 rfl rfl fun a hF => ?_
  have hS : St w0 Nil [H] [] w0 := start1 hH
  refine th <| ?_
  refine rg <| ?_
  refine ls <| q1 hF rfl (e_asg hF rfl) fun a hF => ?_
  refine ls <| q1 hF rfl (e_asg hF rfl) fun a hF => ?_
  refine re <| ?_
  refine tn <| th <| th <| midK (fun a w => ∃ (vA6 : Bool) (HA1 : PH) (oaA2 : Option Addr) (capA3 : Nat), (trace_Swap_j1 N p1 p6) vA6 = some r ∧ Ext w0 H HA1 ∧ Fr 58 [(0, .slice oaA2 p1.length capA3), (1, .int .i64 p6), (38, .bool vA6)] a ∧ St w0 Nil [HA1] [] w ∧ p1.length ≤ capA3 ∧ SR HA1 oaA2 p1) ?_ ?_
  ·
    replace hm := bind_some hm
    obtain ⟨r13, h14, hm⟩ := hm
    rcases bdich (decide (r13 = 0)) with hb15 | hb15
    ·
      replace hm := itp_t hm hb15
      refine rdS 28 hS wide fun w hS => ?_
      refine d1 (i := 0) rfl (by kernel_rfl) (by kernel_rfl) (St.ld hS) hF rfl (fun _ _ _ h => h) (fun w hl => (e_move hF rfl)) fun a hF => ?_
      refine da1 (i := 1) (by kernel_rfl) ?_
      refine di (i := 1) rfl <| c1 hF rfl Tryd.call49 (clock_Threads_c (hp_le _) hc4 (St.srH hS hr5) h14) ⟨rfl, trivial⟩ (fun v w a hR hF => ?_)
      obtain ⟨rfl, hk⟩ := hR
      replace hS := hS.pass hk
      clear hk
      refine ⟨fun _ => (St.ld hS), ?_⟩
      refine d1 (i := 2) rfl (by kernel_rfl) (by kernel_rfl) (St.ld hS) hF rfl (fun _ _ _ h => h) (fun w hl => (e_eql hF rfl rfl)) fun a hF => ?_
      refine d1 (i := 3) rfl (by kernel_rfl) (by kernel_rfl) (St.ld hS) hF rfl (fun _ _ _ h => h) (fun w hl => (e_as (e_move hF rfl) (congrArg Value.bool hb15))) fun a hF => ?_
      refine d1n (i := 4) rfl (by kernel_rfl) (by kernel_rfl) (St.ld hS) hF rfl rfl rfl rfl (fun _ _ _ h => h) fun a hF => ?_
      refine d1n (i := 5) rfl (by kernel_rfl) (by kernel_rfl) (St.ld hS) hF rfl rfl rfl rfl (fun _ _ _ h => h) fun a hF => ?_
      refine d1 (i := 6) rfl (by kernel_rfl) (by kernel_rfl) (St.ld hS) hF rfl (fun _ _ _ h => h) (fun w hl => (e_pickT hF rfl rfl)) fun a hF => ?_
      refine d1 (i := 7) rfl (by kernel_rfl) (by kernel_rfl) (St.ld hS) hF rfl (fun _ _ _ h => h) (fun w hl => (e_move hF rfl)) fun a hF => ?_
      refine d1n (i := 8) rfl (by kernel_rfl) (by kernel_rfl) (St.ld hS) hF rfl rfl rfl rfl (fun _ _ _ h => h) fun a hF => ?_
      refine d1n (i := 9) rfl (by kernel_rfl) (by kernel_rfl) (St.ld hS) hF rfl rfl rfl rfl (fun _ _ _ h => h) fun a hF => ?_
      refine d1n (i := 10) rfl (by kernel_rfl) (by kernel_rfl) (St.ld hS) hF rfl rfl rfl rfl (fun _ _ _ h => h) fun a hF => ?_
      refine d1n (i := 11) rfl (by kernel_rfl) (by kernel_rfl) (St.ld hS) hF rfl rfl rfl rfl (fun _ _ _ h => h) fun a hF => ?_
      refine d1n (i := 12) rfl (by kernel_rfl) (by kernel_rfl) (St.ld hS) hF rfl rfl rfl rfl (fun _ _ _ h => h) fun a hF => ?_
      refine d1 (i := 13) rfl (by kernel_rfl) (by kernel_rfl) (St.ld hS) hF rfl (fun _ _ _ h => h) (fun w hl => (e_pickT hF rfl rfl)) fun a hF => ?_
      refine d1 (i := 14) rfl (by kernel_rfl) (by kernel_rfl) (St.ld hS) hF rfl (fun _ _ _ h => h) (fun w hl => (e_move hF rfl)) fun a hF => ?_
      refine d1n (i := 15) rfl (by kernel_rfl) (by kernel_rfl) (St.ld hS) hF rfl rfl rfl rfl (fun _ _ _ h => h) fun a hF => ?_
      refine d1n (i := 16) rfl (by kernel_rfl) (by kernel_rfl) (St.ld hS) hF rfl rfl rfl rfl (fun _ _ _ h => h) fun a hF => ?_
      refine d1n (i := 17) rfl (by kernel_rfl) (by kernel_rfl) (St.ld hS) hF rfl rfl rfl rfl (fun _ _ _ h => h) fun a hF => ?_
      refine d1n (i := 18) rfl (by kernel_rfl) (by kernel_rfl) (St.ld hS) hF rfl rfl rfl rfl (fun _ _ _ h => h) fun a hF => ?_
      refine d1n (i := 19) rfl (by kernel_rfl) (by kernel_rfl) (St.ld hS) hF rfl rfl rfl rfl (fun _ _ _ h => h) fun a hF => ?_
      refine d1n (i := 20) rfl (by kernel_rfl) (by kernel_rfl) (St.ld hS) hF rfl rfl rfl rfl (fun _ _ _ h => h) fun a hF => ?_
      refine d1n (i := 21) rfl (by kernel_rfl) (by kernel_rfl) (St.ld hS) hF rfl rfl rfl rfl (fun _ _ _ h => h) fun a hF => ?_
      refine d1n (i := 22) rfl (by kernel_rfl) (by kernel_rfl) (St.ld hS) hF rfl rfl rfl rfl (fun _ _ _ h => h) fun a hF => ?_
      refine d1n (i := 23) rfl (by kernel_rfl) (by kernel_rfl) (St.ld hS) hF rfl rfl rfl rfl (fun _ _ _ h => h) fun a hF => ?_
      refine d1n (i := 24) rfl (by kernel_rfl) (by kernel_rfl) (St.ld hS) hF rfl rfl rfl rfl (fun _ _ _ h => h) fun a hF => ?_
      refine d1n (i := 25) rfl (by kernel_rfl) (by kernel_rfl) (St.ld hS) hF rfl rfl rfl rfl (fun _ _ _ h => h) fun a hF => ?_
      refine d1n (i := 26) rfl (by kernel_rfl) (by kernel_rfl) (St.ld hS) hF rfl rfl rfl rfl (fun _ _ _ h => h) fun a hF => ?_
      refine d1 (i := 27) rfl (by kernel_rfl) (by kernel_rfl) (St.ld hS) hF rfl (fun _ _ _ h => h) (fun w hl => (e_pickT hF rfl rfl)) fun a hF => ?_
      refine de (by kernel_rfl) <| ?_
      refine tn <| ?_
      exact ⟨true, H, oa2, cap3, hm, (Ext.refl _ _), hF.has ⟨rfl, rfl, rfl, trivial⟩, hS, hc4, hr5⟩
    ·
      replace hm := itp_f hm hb15
      rcases bdich (decide (p6 < 0)) with hb16 | hb16
      ·
        replace hm := itp_t hm hb16
        refine rdS 28 hS wide fun w hS => ?_
        refine d1 (i := 0) rfl (by kernel_rfl) (by kernel_rfl) (St.ld hS) hF rfl (fun _ _ _ h => h) (fun w hl => (e_move hF rfl)) fun a hF => ?_
        refine da1 (i := 1) (by kernel_rfl) ?_
        refine di (i := 1) rfl <| c1 hF rfl Tryd.call49 (clock_Threads_c (hp_le _) hc4 (St.srH hS hr5) h14) ⟨rfl, trivial⟩ (fun v w a hR hF => ?_)
        obtain ⟨rfl, hk⟩ := hR
        replace hS := hS.pass hk
        clear hk
        refine ⟨fun _ => (St.ld hS), ?_⟩
        refine d1 (i := 2) rfl (by kernel_rfl) (by kernel_rfl) (St.ld hS) hF rfl (fun _ _ _ h => h) (fun w hl => (e_eql hF rfl rfl)) fun a hF => ?_
        refine d1 (i := 3) rfl (by kernel_rfl) (by kernel_rfl) (St.ld hS) hF rfl (fun _ _ _ h => h) (fun w hl => (e_as (e_move hF rfl) (congrArg Value.bool hb15))) fun a hF => ?_
        refine d1g (i := 4) rfl (by kernel_rfl) (by kernel_rfl) (St.ld hS) hF rfl rfl rfl (fun _ _ _ h => h) (fun w hl => (e_move hF rfl)) fun a hF => ?_
        refine d1g (i := 5) rfl (by kernel_rfl) (by kernel_rfl) (St.ld hS) hF rfl rfl rfl (fun _ _ _ h => h) (fun w hl => (e_lss hF rfl rfl)) fun a hF => ?_
        refine d1 (i := 6) rfl (by kernel_rfl) (by kernel_rfl) (St.ld hS) hF rfl (fun _ _ _ h => h) (fun w hl => (e_pickF hF rfl rfl)) fun a hF => ?_
        refine d1 (i := 7) rfl (by kernel_rfl) (by kernel_rfl) (St.ld hS) hF rfl (fun _ _ _ h => h) (fun w hl => (e_as (e_move hF rfl) (congrArg Value.bool hb16))) fun a hF => ?_
        refine d1n (i := 8) rfl (by kernel_rfl) (by kernel_rfl) (St.ld hS) hF rfl rfl rfl rfl (fun _ _ _ h => h) fun a hF => ?_
        refine d1n (i := 9) rfl (by kernel_rfl) (by kernel_rfl) (St.ld hS) hF rfl rfl rfl rfl (fun _ _ _ h => h) fun a hF => ?_
        refine d1n (i := 10) rfl (by kernel_rfl) (by kernel_rfl) (St.ld hS) hF rfl rfl rfl rfl (fun _ _ _ h => h) fun a hF => ?_
        refine d1n (i := 11) rfl (by kernel_rfl) (by kernel_rfl) (St.ld hS) hF rfl rfl rfl rfl (fun _ _ _ h => h) fun a hF => ?_
        refine d1n (i := 12) rfl (by kernel_rfl) (by kernel_rfl) (St.ld hS) hF rfl rfl rfl rfl (fun _ _ _ h => h) fun a hF => ?_
        refine d1 (i := 13) rfl (by kernel_rfl) (by kernel_rfl) (St.ld hS) hF rfl (fun _ _ _ h => h) (fun w hl => (e_pickT hF rfl rfl)) fun a hF => ?_
        refine d1 (i := 14) rfl (by kernel_rfl) (by kernel_rfl) (St.ld hS) hF rfl (fun _ _ _ h => h) (fun w hl => (e_move hF rfl)) fun a hF => ?_
        refine d1n (i := 15) rfl (by kernel_rfl) (by kernel_rfl) (St.ld hS) hF rfl rfl rfl rfl (fun _ _ _ h => h) fun a hF => ?_
        refine d1n (i := 16) rfl (by kernel_rfl) (by kernel_rfl) (St.ld hS) hF rfl rfl rfl rfl (fun _ _ _ h => h) fun a hF => ?_
        refine d1n (i := 17) rfl (by kernel_rfl) (by kernel_rfl) (St.ld hS) hF rfl rfl rfl rfl (fun _ _ _ h => h) fun a hF => ?_
        refine d1n (i := 18) rfl (by kernel_rfl) (by kernel_rfl) (St.ld hS) hF rfl rfl rfl rfl (fun _ _ _ h => h) fun a hF => ?_
        refine d1n (i := 19) rfl (by kernel_rfl) (by kernel_rfl) (St.ld hS) hF rfl rfl rfl rfl (fun _ _ _ h => h) fun a hF => ?_
        refine d1n (i := 20) rfl (by kernel_rfl) (by kernel_rfl) (St.ld hS) hF rfl rfl rfl rfl (fun _ _ _ h => h) fun a hF => ?_
        refine d1n (i := 21) rfl (by kernel_rfl) (by kernel_rfl) (St.ld hS) hF rfl rfl rfl rfl (fun _ _ _ h => h) fun a hF => ?_
        refine d1n (i := 22) rfl (by kernel_rfl) (by kernel_rfl) (St.ld hS) hF rfl rfl rfl rfl (fun _ _ _ h => h) fun a hF => ?_
        refine d1n (i := 23) rfl (by kernel_rfl) (by kernel_rfl) (St.ld hS) hF rfl rfl rfl rfl (fun _ _ _ h => h) fun a hF => ?_
        refine d1n (i := 24) rfl (by kernel_rfl) (by kernel_rfl) (St.ld hS) hF rfl rfl rfl rfl (fun _ _ _ h => h) fun a hF => ?_
        refine d1n (i := 25) rfl (by kernel_rfl) (by kernel_rfl) (St.ld hS) hF rfl rfl rfl rfl (fun _ _ _ h => h) fun a hF => ?_
        refine d1n (i := 26) rfl (by kernel_rfl) (by kernel_rfl) (St.ld hS) hF rfl rfl rfl rfl (fun _ _ _ h => h) fun a hF => ?_
        refine d1 (i := 27) rfl (by kernel_rfl) (by kernel_rfl) (St.ld hS) hF rfl (fun _ _ _ h => h) (fun w hl => (e_pickT hF rfl rfl)) fun a hF => ?_
        refine de (by kernel_rfl) <| ?_
        refine tn <| ?_
        exact ⟨true, H, oa2, cap3, hm, (Ext.refl _ _), hF.has ⟨rfl, rfl, rfl, trivial⟩, hS, hc4, hr5⟩
      ·
        replace hm := itp_f hm hb16
        rcases bdich (decide ((IntKind.i64.wrap ((p1.length : Int) - 1)) ≤ p6)) with hb17 | hb17
        ·
          replace hm := itp_t hm hb17
          refine rdS 28 hS wide fun w hS => ?_
          refine d1 (i := 0) rfl (by kernel_rfl) (by kernel_rfl) (St.ld hS) hF rfl (fun _ _ _ h => h) (fun w hl => (e_move hF rfl)) fun a hF => ?_
          refine da1 (i := 1) (by kernel_rfl) ?_
          refine di (i := 1) rfl <| c1 hF rfl Tryd.call49 (clock_Threads_c (hp_le _) hc4 (St.srH hS hr5) h14) ⟨rfl, trivial⟩ (fun v w a hR hF => ?_)
          obtain ⟨rfl, hk⟩ := hR
          replace hS := hS.pass hk
          clear hk
          refine ⟨fun _ => (St.ld hS), ?_⟩
          refine d1 (i := 2) rfl (by kernel_rfl) (by kernel_rfl) (St.ld hS) hF rfl (fun _ _ _ h => h) (fun w hl => (e_eql hF rfl rfl)) fun a hF => ?_
          refine d1 (i := 3) rfl (by kernel_rfl) (by kernel_rfl) (St.ld hS) hF rfl (fun _ _ _ h => h) (fun w hl => (e_as (e_move hF rfl) (congrArg Value.bool hb15))) fun a hF => ?_
          refine d1g (i := 4) rfl (by kernel_rfl) (by kernel_rfl) (St.ld hS) hF rfl rfl rfl (fun _ _ _ h => h) (fun w hl => (e_move hF rfl)) fun a hF => ?_
          refine d1g (i := 5) rfl (by kernel_rfl) (by kernel_rfl) (St.ld hS) hF rfl rfl rfl (fun _ _ _ h => h) (fun w hl => (e_lss hF rfl rfl)) fun a hF => ?_
          refine d1 (i := 6) rfl (by kernel_rfl) (by kernel_rfl) (St.ld hS) hF rfl (fun _ _ _ h => h) (fun w hl => (e_pickF hF rfl rfl)) fun a hF => ?_
          refine d1 (i := 7) rfl (by kernel_rfl) (by kernel_rfl) (St.ld hS) hF rfl (fun _ _ _ h => h) (fun w hl => (e_as (e_move hF rfl) (congrArg Value.bool hb16))) fun a hF => ?_
          refine d1g (i := 8) rfl (by kernel_rfl) (by kernel_rfl) (St.ld hS) hF rfl rfl rfl (fun _ _ _ h => h) (fun w hl => (e_move hF rfl)) fun a hF => ?_
          refine d1g (i := 9) rfl (by kernel_rfl) (by kernel_rfl) (St.ld hS) hF rfl rfl rfl (fun _ _ _ h => h) (fun w hl => (e_move hF rfl)) fun a hF => ?_
          refine d1g (i := 10) rfl (by kernel_rfl) (by kernel_rfl) (St.ld hS) hF rfl rfl rfl (fun _ _ _ h => h) (fun w hl => (e_lenL (α := api_Event) (xs := p1) hF Tryd.runUnderlying39 rfl)) fun a hF => ?_
          refine d1g (i := 11) rfl (by kernel_rfl) (by kernel_rfl) (St.ld hS) hF rfl rfl rfl (fun _ _ _ h => h) (fun w hl => (e_sub hF rfl rfl)) fun a hF => ?_
          refine d1g (i := 12) rfl (by kernel_rfl) (by kernel_rfl) (St.ld hS) hF rfl rfl rfl (fun _ _ _ h => h) (fun w hl => (e_geq hF rfl rfl)) fun a hF => ?_
          refine d1 (i := 13) rfl (by kernel_rfl) (by kernel_rfl) (St.ld hS) hF rfl (fun _ _ _ h => h) (fun w hl => (e_pickF hF rfl rfl)) fun a hF => ?_
          refine d1 (i := 14) rfl (by kernel_rfl) (by kernel_rfl) (St.ld hS) hF rfl (fun _ _ _ h => h) (fun w hl => (e_as (e_move hF rfl) (congrArg Value.bool hb17))) fun a hF => ?_
          refine d1n (i := 15) rfl (by kernel_rfl) (by kernel_rfl) (St.ld hS) hF rfl rfl rfl rfl (fun _ _ _ h => h) fun a hF => ?_
          refine d1n (i := 16) rfl (by kernel_rfl) (by kernel_rfl) (St.ld hS) hF rfl rfl rfl rfl (fun _ _ _ h => h) fun a hF => ?_
          refine d1n (i := 17) rfl (by kernel_rfl) (by kernel_rfl) (St.ld hS) hF rfl rfl rfl rfl (fun _ _ _ h => h) fun a hF => ?_
          refine d1n (i := 18) rfl (by kernel_rfl) (by kernel_rfl) (St.ld hS) hF rfl rfl rfl rfl (fun _ _ _ h => h) fun a hF => ?_
          refine d1n (i := 19) rfl (by kernel_rfl) (by kernel_rfl) (St.ld hS) hF rfl rfl rfl rfl (fun _ _ _ h => h) fun a hF => ?_
          refine d1n (i := 20) rfl (by kernel_rfl) (by kernel_rfl) (St.ld hS) hF rfl rfl rfl rfl (fun _ _ _ h => h) fun a hF => ?_
          refine d1n (i := 21) rfl (by kernel_rfl) (by kernel_rfl) (St.ld hS) hF rfl rfl rfl rfl (fun _ _ _ h => h) fun a hF => ?_
          refine d1n (i := 22) rfl (by kernel_rfl) (by kernel_rfl) (St.ld hS) hF rfl rfl rfl rfl (fun _ _ _ h => h) fun a hF => ?_
          refine d1n (i := 23) rfl (by kernel_rfl) (by kernel_rfl) (St.ld hS) hF rfl rfl rfl rfl (fun _ _ _ h => h) fun a hF => ?_
          refine d1n (i := 24) rfl (by kernel_rfl) (by kernel_rfl) (St.ld hS) hF rfl rfl rfl rfl (fun _ _ _ h => h) fun a hF => ?_
          refine d1n (i := 25) rfl (by kernel_rfl) (by kernel_rfl) (St.ld hS) hF rfl rfl rfl rfl (fun _ _ _ h => h) fun a hF => ?_
          refine d1n (i := 26) rfl (by kernel_rfl) (by kernel_rfl) (St.ld hS) hF rfl rfl rfl rfl (fun _ _ _ h => h) fun a hF => ?_
          refine d1 (i := 27) rfl (by kernel_rfl) (by kernel_rfl) (St.ld hS) hF rfl (fun _ _ _ h => h) (fun w hl => (e_pickT hF rfl rfl)) fun a hF => ?_
          refine de (by kernel_rfl) <| ?_
          refine tn <| ?_
          exact ⟨true, H, oa2, cap3, hm, (Ext.refl _ _), hF.has ⟨rfl, rfl, rfl, trivial⟩, hS, hc4, hr5⟩
        ·
          replace hm := itp_f hm hb17
          replace hm := bind_some hm
          obtain ⟨x18, h19, hm⟩ := hm
          obtain ⟨c20, g21, hl22⟩ := SR.get hr5 h19
          obtain rfl := api_Event_open g21
          replace hm := bind_some hm
          obtain ⟨x23, h24, hm⟩ := hm
          obtain ⟨c25, g26, hl27⟩ := SR.get hr5 h24
          obtain rfl := api_Event_open g26
          replace hm := bind_some hm
          obtain ⟨r28, h29, hm⟩ := hm
          refine rdS 28 hS wide fun w hS => ?_
          refine d1 (i := 0) rfl (by kernel_rfl) (by kernel_rfl) (St.ld hS) hF rfl (fun _ _ _ h => h) (fun w hl => (e_move hF rfl)) fun a hF => ?_
          refine da1 (i := 1) (by kernel_rfl) ?_
          refine di (i := 1) rfl <| c1 hF rfl Tryd.call49 (clock_Threads_c (hp_le _) hc4 (St.srH hS hr5) h14) ⟨rfl, trivial⟩ (fun v w a hR hF => ?_)
          obtain ⟨rfl, hk⟩ := hR
          replace hS := hS.pass hk
          clear hk
          refine ⟨fun _ => (St.ld hS), ?_⟩
          refine d1 (i := 2) rfl (by kernel_rfl) (by kernel_rfl) (St.ld hS) hF rfl (fun _ _ _ h => h) (fun w hl => (e_eql hF rfl rfl)) fun a hF => ?_
          refine d1 (i := 3) rfl (by kernel_rfl) (by kernel_rfl) (St.ld hS) hF rfl (fun _ _ _ h => h) (fun w hl => (e_as (e_move hF rfl) (congrArg Value.bool hb15))) fun a hF => ?_
          refine d1g (i := 4) rfl (by kernel_rfl) (by kernel_rfl) (St.ld hS) hF rfl rfl rfl (fun _ _ _ h => h) (fun w hl => (e_move hF rfl)) fun a hF => ?_
          refine d1g (i := 5) rfl (by kernel_rfl) (by kernel_rfl) (St.ld hS) hF rfl rfl rfl (fun _ _ _ h => h) (fun w hl => (e_lss hF rfl rfl)) fun a hF => ?_
          refine d1 (i := 6) rfl (by kernel_rfl) (by kernel_rfl) (St.ld hS) hF rfl (fun _ _ _ h => h) (fun w hl => (e_pickF hF rfl rfl)) fun a hF => ?_
          refine d1 (i := 7) rfl (by kernel_rfl) (by kernel_rfl) (St.ld hS) hF rfl (fun _ _ _ h => h) (fun w hl => (e_as (e_move hF rfl) (congrArg Value.bool hb16))) fun a hF => ?_
          refine d1g (i := 8) rfl (by kernel_rfl) (by kernel_rfl) (St.ld hS) hF rfl rfl rfl (fun _ _ _ h => h) (fun w hl => (e_move hF rfl)) fun a hF => ?_
          refine d1g (i := 9) rfl (by kernel_rfl) (by kernel_rfl) (St.ld hS) hF rfl rfl rfl (fun _ _ _ h => h) (fun w hl => (e_move hF rfl)) fun a hF => ?_
          refine d1g (i := 10) rfl (by kernel_rfl) (by kernel_rfl) (St.ld hS) hF rfl rfl rfl (fun _ _ _ h => h) (fun w hl => (e_lenL (α := api_Event) (xs := p1) hF Tryd.runUnderlying39 rfl)) fun a hF => ?_
          refine d1g (i := 11) rfl (by kernel_rfl) (by kernel_rfl) (St.ld hS) hF rfl rfl rfl (fun _ _ _ h => h) (fun w hl => (e_sub hF rfl rfl)) fun a hF => ?_
          refine d1g (i := 12) rfl (by kernel_rfl) (by kernel_rfl) (St.ld hS) hF rfl rfl rfl (fun _ _ _ h => h) (fun w hl => (e_geq hF rfl rfl)) fun a hF => ?_
          refine d1 (i := 13) rfl (by kernel_rfl) (by kernel_rfl) (St.ld hS) hF rfl (fun _ _ _ h => h) (fun w hl => (e_pickF hF rfl rfl)) fun a hF => ?_
          refine d1 (i := 14) rfl (by kernel_rfl) (by kernel_rfl) (St.ld hS) hF rfl (fun _ _ _ h => h) (fun w hl => (e_as (e_move hF rfl) (congrArg Value.bool hb17))) fun a hF => ?_
          refine d1g (i := 15) rfl (by kernel_rfl) (by kernel_rfl) (St.ld hS) hF rfl rfl rfl (fun _ _ _ h => h) (fun w hl => (e_move hF rfl)) fun a hF => ?_
          refine d1g (i := 16) rfl (by kernel_rfl) (by kernel_rfl) (St.ld hS) hF rfl rfl rfl (fun _ _ _ h => h) (fun w hl => (e_move hF rfl)) fun a hF => ?_
          refine d1g (i := 17) rfl (by kernel_rfl) (by kernel_rfl) (St.ld hS) hF rfl rfl rfl (fun _ _ _ h => h) (fun w hl => (e_iaI hF Tryd.runUnderlying39 Tryd.sizeOf23 rfl rfl h19 (SR.oaI hr5 (by decide) h19))) fun a hF => ?_
          refine d1g (i := 18) rfl (by kernel_rfl) (by kernel_rfl) (St.ld hS) hF rfl rfl rfl (fun _ _ _ h => h) (fun w hl => (e_ldA hF Tryd.isAgg23 Tryd.sizeOf23 rfl rfl (fun j v hj => PH.le.cell (Lds.le hl) (hl22 j v hj)))) fun a hF => ?_
          refine d1g (i := 19) rfl (by kernel_rfl) (by kernel_rfl) (St.ld hS) hF rfl rfl rfl (fun _ _ _ h => h) (fun w hl => (e_move hF rfl)) fun a hF => ?_
          refine d1g (i := 20) rfl (by kernel_rfl) (by kernel_rfl) (St.ld hS) hF rfl rfl rfl (fun _ _ _ h => h) (fun w hl => (e_move hF rfl)) fun a hF => ?_
          refine d1g (i := 21) rfl (by kernel_rfl) (by kernel_rfl) (St.ld hS) hF rfl rfl rfl (fun _ _ _ h => h) (fun w hl => (e_add hF rfl rfl)) fun a hF => ?_
          refine d1g (i := 22) rfl (by kernel_rfl) (by kernel_rfl) (St.ld hS) hF rfl rfl rfl (fun _ _ _ h => h) (fun w hl => (e_iaI hF Tryd.runUnderlying39 Tryd.sizeOf23 rfl rfl h24 (SR.oaI hr5 (by decide) h24))) fun a hF => ?_
          refine d1g (i := 23) rfl (by kernel_rfl) (by kernel_rfl) (St.ld hS) hF rfl rfl rfl (fun _ _ _ h => h) (fun w hl => (e_ldA hF Tryd.isAgg23 Tryd.sizeOf23 rfl rfl (fun j v hj => PH.le.cell (Lds.le hl) (hl27 j v hj)))) fun a hF => ?_
          refine d1g (i := 24) rfl (by kernel_rfl) (by kernel_rfl) (St.ld hS) hF rfl rfl rfl (fun _ _ _ h => h) (fun w hl => (e_move hF rfl)) fun a hF => ?_
          refine d1g (i := 25) rfl (by kernel_rfl) (by kernel_rfl) (St.ld hS) hF rfl rfl rfl (fun _ _ _ h => h) (fun w hl => (e_move hF rfl)) fun a hF => ?_
          refine da1 (i := 26) (by kernel_rfl) ?_
          refine di (i := 26) rfl <| gy hF rfl rfl <| c1 hF rfl Tryd.call16 (event_Depend_c (hp_le _) hc10 (St.srH hS hr11) h29) ⟨rfl, rfl, rfl, rfl, trivial⟩ (fun v w a hR hF => ?_)
          obtain ⟨rfl, hk⟩ := hR
          replace hS := hS.pass hk
          clear hk
          refine ⟨fun _ => (St.ld hS), ?_⟩
          refine d1 (i := 27) rfl (by kernel_rfl) (by kernel_rfl) (St.ld hS) hF rfl (fun _ _ _ h => h) (fun w hl => (e_pickF hF rfl rfl)) fun a hF => ?_
          refine de (by kernel_rfl) <| ?_
          refine tn <| ?_
          exact ⟨r28, H, oa2, cap3, hm, (Ext.refl _ _), hF.has ⟨rfl, rfl, rfl, trivial⟩, hS, hc4, hr5⟩
  clear hm hF hS
  rintro a w ⟨vA6, HA1, oaA2, capA3, hm, hxHA1, hF, hS, hcA4, hrA5⟩
  unfold trace_Swap_j1 at hm
  rcases bdich vA6 with hb30 | hb30
  ·
    replace hm := ite_t hm hb30
    refine ctv hF rfl hb30 <| th <| ?_
    refine rg <| ?_
    refine ls <| q1 hF rfl (e_asg hF rfl) fun a hF => ?_
    refine ls <| q1 hF rfl (e_asg hF rfl) fun a hF => ?_
    refine re <| ?_
    refine tn <| ?_
    refine wp_ret <| tr <| ?_
    replace hS := St.nilS hS 23 5
    obtain rfl := Option.some.inj hm
    exact r2 hF Tryd.results26 rfl rfl ⟨_, _, _, rfl, (fun _ => .nil), hS.endFresh (.head _)⟩
  ·
    replace hm := ite_f hm hb30
    refine cfv hF rfl hb30 <| wp_skip <| ?_
    refine tn <| th <| ?_
    replace hm := bind_some hm
    obtain ⟨r31, h32, hm⟩ := hm
    refine rg <| ?_
    refine ls <| q1 hF rfl (e_move hF rfl) fun a hF => ?_
    refine ls <| c1 hF rfl Tryd.call50 (slices_Clone_api_Event_api_Event_c (hp_le _) hcA4 (St.srH hS hrA5) h32) ⟨rfl, trivial⟩ (fun v w a hR hF => ?_)
    obtain ⟨oa33, cap34, vs35, rfl, hv36, hk⟩ := hR
    replace hS := hS.fresh hk
    clear hk
    replace hv36 := hv36 HA1
    refine ls <| q1 hF rfl (e_asg hF rfl) fun a hF => ?_
    refine re <| ?_
    refine tn <| th <| midK (fun a w => ∃ (vA7 : (List api_Event)) (oaA8 : Option Addr) (capA9 : Nat) (vsA10 : List Value), trace_Swap_j2 vA7 = some r ∧ Fr 58 [(10, .slice oaA8 vA7.length capA9)] a ∧ St w0 Nil [HA1] [sla 23 5 oaA8 vA7.length capA9 vsA10] w ∧ Rows HA1 vsA10 vA7) ?_ ?_
    ·
      replace hm := bind_some hm
      obtain ⟨x38, h39, hm⟩ := hm
      have ho40 := Rd.oaI (hS.rdO (.head _)) hv36 (by decide) h39
      obtain ⟨c41, g42, hl43⟩ := Rows.getI hv36 h39
      obtain rfl := api_Event_open g42
      replace hm := bind_some hm
      obtain ⟨x44, h45, hm⟩ := hm
      have ho46 := Rd.oaI (hS.rdO (.head _)) hv36 (by decide) h45
      obtain ⟨c47, g48, hl49⟩ := Rows.getI hv36 h45
      obtain rfl := api_Event_open g48
      have ho50 := Rd.oaI (hS.rdO (.head _)) hv36 (by decide) h45
      replace hm := bind_some hm
      obtain ⟨l51, h52, hm⟩ := hm
      replace hm := bind_some hm
      obtain ⟨x56, h57, hm⟩ := hm
      replace hm := bind_some hm
      obtain ⟨l58, h59, hm⟩ := hm
      refine rdL sub_nil 17 hS wide fun w hS => ?_
      refine d1 (i := 0) rfl (by kernel_rfl) (by kernel_rfl) (St.ldsX hS (fun _ _ h => h) (fun _ h => (.tail _ h))) hF rfl (fun _ _ _ h => h) (fun w hl => (e_move hF rfl)) fun a hF => ?_
      refine d1 (i := 1) rfl (by kernel_rfl) (by kernel_rfl) (St.ldsX hS (fun _ _ h => h) (fun _ h => (.tail _ h))) hF rfl (fun _ _ _ h => h) (fun w hl => (e_move hF rfl)) fun a hF => ?_
      refine d1 (i := 2) rfl (by kernel_rfl) (by kernel_rfl) (St.ldsX hS (fun _ _ h => h) (fun _ h => (.tail _ h))) hF rfl (fun _ _ _ h => h) (fun w hl => (e_move hF rfl)) fun a hF => ?_
      refine d1 (i := 3) rfl (by kernel_rfl) (by kernel_rfl) (St.ldsX hS (fun _ _ h => h) (fun _ h => (.tail _ h))) hF rfl (fun _ _ _ h => h) (fun w hl => (e_move hF rfl)) fun a hF => ?_
      refine d1 (i := 4) rfl (by kernel_rfl) (by kernel_rfl) (St.ldsX hS (fun _ _ h => h) (fun _ h => (.tail _ h))) hF rfl (fun _ _ _ h => h) (fun w hl => (e_add hF rfl rfl)) fun a hF => ?_
      refine d1 (i := 5) rfl (by kernel_rfl) (by kernel_rfl) (St.ldsX hS (fun _ _ h => h) (fun _ h => (.tail _ h))) hF rfl (fun _ _ _ h => h) (fun w hl => (e_move hF rfl)) fun a hF => ?_
      refine d1 (i := 6) rfl (by kernel_rfl) (by kernel_rfl) (St.ldsX hS (fun _ _ h => h) (fun _ h => (.tail _ h))) hF rfl (fun _ _ _ h => h) (fun w hl => (e_move hF rfl)) fun a hF => ?_
      refine d1 (i := 7) rfl (by kernel_rfl) (by kernel_rfl) (St.ldsX hS (fun _ _ h => h) (fun _ h => (.tail _ h))) hF rfl (fun _ _ _ h => h) (fun w hl => (e_add hF rfl rfl)) fun a hF => ?_
      refine d1 (i := 8) rfl (by kernel_rfl) (by kernel_rfl) (St.ldsX hS (fun _ _ h => h) (fun _ h => (.tail _ h))) hF rfl (fun _ _ _ h => h) (fun w hl => (e_iaI hF Tryd.runUnderlying39 Tryd.sizeOf23 rfl rfl h39 ho40)) fun a hF => ?_
      refine da3 (i := 9) (j := 10) (k := 11) (by kernel_rfl) ?_ ?_ ?_
      ·
        refine di (i := 9) rfl <| q1 hF rfl (e_ldA hF Tryd.isAgg23 Tryd.sizeOf23 rfl rfl ((St.ld hS).elsO (.head _) hl43)) fun a hF => ?_
        refine ⟨fun _ => (St.ldsX hS (fun _ _ h => h) (fun _ h => (.tail _ h))), ?_⟩
        refine d1 (i := 10) rfl (by kernel_rfl) (by kernel_rfl) (St.ldsX hS (fun _ _ h => h) (fun _ h => (.tail _ h))) hF rfl (fun _ _ _ h => h) (fun w hl => (e_move hF rfl)) fun a hF => ?_
        refine d1 (i := 11) rfl (by kernel_rfl) (by kernel_rfl) (St.ldsX hS (fun _ _ h => h) (fun _ h => (.tail _ h))) hF rfl (fun _ _ _ h => h) (fun w hl => (e_move hF rfl)) fun a hF => ?_
        refine d1 (i := 12) rfl (by kernel_rfl) (by kernel_rfl) (St.ldsX hS (fun _ _ h => h) (fun _ h => (.tail _ h))) hF rfl (fun _ _ _ h => h) (fun w hl => (e_iaI hF Tryd.runUnderlying39 Tryd.sizeOf23 rfl rfl h45 ho46)) fun a hF => ?_
        refine da1 (i := 13) (by kernel_rfl) ?_
        refine di (i := 13) rfl <| q1 hF rfl (e_ldA hF Tryd.isAgg23 Tryd.sizeOf23 rfl rfl ((St.ld hS).elsO (.head _) hl49)) fun a hF => ?_
        refine ⟨fun _ => (St.ldsX hS (fun _ _ h => h) (fun _ h => (.tail _ h))), ?_⟩
        refine d1 (i := 14) rfl (by kernel_rfl) (by kernel_rfl) (St.ldsX hS (fun _ _ h => h) (fun _ h => (.tail _ h))) hF rfl (fun _ _ _ h => h) (fun w hl => (e_iaI hF Tryd.runUnderlying39 Tryd.sizeOf23 rfl rfl h45 ho50)) fun a hF => ?_
        refine da1 (i := 15) (by kernel_rfl) ?_
        have hn55 := setI_len h52
        refine di (i := 15) rfl <| s_slW (α := api_Event) hF hS Tryd.sizeOf23 rfl rfl rfl hv36 ⟨_, _, rfl, rfl, ⟨_, _, rfl, rfl, ⟨_, _, rfl, rfl, ⟨_, _, rfl, rfl, rfl⟩⟩⟩⟩ h52 (.head _) fun vs53 w hv54 hU => ?_
        replace hS := hU _ .head
        clear hU
        refine ⟨fun _ => (St.ldsX hS (fun _ _ h => h) (fun _ h => (.tail _ h))), ?_⟩
        replace hF := Fr.as hF (t := 43) (v' := .slice oa33 l51.length cap34) rfl (by rw [hn55])
        refine da1 (i := 16) (by kernel_rfl) ?_
        refine di (i := 16) rfl <| q1 hF rfl (e_iaI hF Tryd.runUnderlying39 Tryd.sizeOf23 rfl rfl h57 (Rd.oaI ((St.ld hS).rdO (.head _)) hv54 (by decide) h57)) fun a hF => ?_
        refine ⟨fun _ => (St.ldsX hS (fun _ _ h => h) (fun _ h => (.tail _ h))), ?_⟩
        refine da1 (i := 17) (by kernel_rfl) ?_
        have hn62 := setI_len h59
        refine di (i := 17) rfl <| s_slW (α := api_Event) hF hS Tryd.sizeOf23 rfl rfl rfl hv54 ⟨_, _, rfl, rfl, ⟨_, _, rfl, rfl, ⟨_, _, rfl, rfl, ⟨_, _, rfl, rfl, rfl⟩⟩⟩⟩ h59 (.head _) fun vs60 w hv61 hU => ?_
        replace hS := hU _ .head
        clear hU
        refine ⟨fun h => absurd rfl h, ?_⟩
        refine de (by kernel_rfl) <| ?_
        refine tn <| ?_
        replace hF := Fr.as hF (t := 10) (v' := .slice oa33 l58.length cap34) rfl (by rw [(hn62.trans hn55)])
        exact ⟨l58, oa33, cap34, vs60, hm, hF.has ⟨rfl, trivial⟩, hS, hv61⟩
      ·
        refine di (i := 10) rfl <| q1 hF rfl (e_move hF rfl) fun a hF => ?_
        refine ⟨fun _ => (St.ldsX hS (fun _ _ h => h) (fun _ h => (.tail _ h))), ?_⟩
        refine da2 (i := 9) (j := 11) (by kernel_rfl) ?_ ?_
        ·
          refine di (i := 9) rfl <| q1 hF rfl (e_ldA hF Tryd.isAgg23 Tryd.sizeOf23 rfl rfl ((St.ld hS).elsO (.head _) hl43)) fun a hF => ?_
          refine ⟨fun _ => (St.ldsX hS (fun _ _ h => h) (fun _ h => (.tail _ h))), ?_⟩
          refine d1 (i := 11) rfl (by kernel_rfl) (by kernel_rfl) (St.ldsX hS (fun _ _ h => h) (fun _ h => (.tail _ h))) hF rfl (fun _ _ _ h => h) (fun w hl => (e_move hF rfl)) fun a hF => ?_
          refine d1 (i := 12) rfl (by kernel_rfl) (by kernel_rfl) (St.ldsX hS (fun _ _ h => h) (fun _ h => (.tail _ h))) hF rfl (fun _ _ _ h => h) (fun w hl => (e_iaI hF Tryd.runUnderlying39 Tryd.sizeOf23 rfl rfl h45 ho46)) fun a hF => ?_
          refine da1 (i := 13) (by kernel_rfl) ?_
          refine di (i := 13) rfl <| q1 hF rfl (e_ldA hF Tryd.isAgg23 Tryd.sizeOf23 rfl rfl ((St.ld hS).elsO (.head _) hl49)) fun a hF => ?_
          refine ⟨fun _ => (St.ldsX hS (fun _ _ h => h) (fun _ h => (.tail _ h))), ?_⟩
          refine d1 (i := 14) rfl (by kernel_rfl) (by kernel_rfl) (St.ldsX hS (fun _ _ h => h) (fun _ h => (.tail _ h))) hF rfl (fun _ _ _ h => h) (fun w hl => (e_iaI hF Tryd.runUnderlying39 Tryd.sizeOf23 rfl rfl h45 ho50)) fun a hF => ?_
          refine da1 (i := 15) (by kernel_rfl) ?_
          have hn55 := setI_len h52
          refine di (i := 15) rfl <| s_slW (α := api_Event) hF hS Tryd.sizeOf23 rfl rfl rfl hv36 ⟨_, _, rfl, rfl, ⟨_, _, rfl, rfl, ⟨_, _, rfl, rfl, ⟨_, _, rfl, rfl, rfl⟩⟩⟩⟩ h52 (.head _) fun vs53 w hv54 hU => ?_
          replace hS := hU _ .head
          clear hU
          refine ⟨fun _ => (St.ldsX hS (fun _ _ h => h) (fun _ h => (.tail _ h))), ?_⟩
          replace hF := Fr.as hF (t := 43) (v' := .slice oa33 l51.length cap34) rfl (by rw [hn55])
          refine da1 (i := 16) (by kernel_rfl) ?_
          refine di (i := 16) rfl <| q1 hF rfl (e_iaI hF Tryd.runUnderlying39 Tryd.sizeOf23 rfl rfl h57 (Rd.oaI ((St.ld hS).rdO (.head _)) hv54 (by decide) h57)) fun a hF => ?_
          refine ⟨fun _ => (St.ldsX hS (fun _ _ h => h) (fun _ h => (.tail _ h))), ?_⟩
          refine da1 (i := 17) (by kernel_rfl) ?_
          have hn62 := setI_len h59
          refine di (i := 17) rfl <| s_slW (α := api_Event) hF hS Tryd.sizeOf23 rfl rfl rfl hv54 ⟨_, _, rfl, rfl, ⟨_, _, rfl, rfl, ⟨_, _, rfl, rfl, ⟨_, _, rfl, rfl, rfl⟩⟩⟩⟩ h59 (.head _) fun vs60 w hv61 hU => ?_
          replace hS := hU _ .head
          clear hU
          refine ⟨fun h => absurd rfl h, ?_⟩
          refine de (by kernel_rfl) <| ?_
          refine tn <| ?_
          replace hF := Fr.as hF (t := 10) (v' := .slice oa33 l58.length cap34) rfl (by rw [(hn62.trans hn55)])
          exact ⟨l58, oa33, cap34, vs60, hm, hF.has ⟨rfl, trivial⟩, hS, hv61⟩
        ·
          refine di (i := 11) rfl <| q1 hF rfl (e_move hF rfl) fun a hF => ?_
          refine ⟨fun _ => (St.ldsX hS (fun _ _ h => h) (fun _ h => (.tail _ h))), ?_⟩
          refine da2 (i := 9) (j := 12) (by kernel_rfl) ?_ ?_
          ·
            refine di (i := 9) rfl <| q1 hF rfl (e_ldA hF Tryd.isAgg23 Tryd.sizeOf23 rfl rfl ((St.ld hS).elsO (.head _) hl43)) fun a hF => ?_
            refine ⟨fun _ => (St.ldsX hS (fun _ _ h => h) (fun _ h => (.tail _ h))), ?_⟩
            refine d1 (i := 12) rfl (by kernel_rfl) (by kernel_rfl) (St.ldsX hS (fun _ _ h => h) (fun _ h => (.tail _ h))) hF rfl (fun _ _ _ h => h) (fun w hl => (e_iaI hF Tryd.runUnderlying39 Tryd.sizeOf23 rfl rfl h45 ho46)) fun a hF => ?_
            refine da1 (i := 13) (by kernel_rfl) ?_
            refine di (i := 13) rfl <| q1 hF rfl (e_ldA hF Tryd.isAgg23 Tryd.sizeOf23 rfl rfl ((St.ld hS).elsO (.head _) hl49)) fun a hF => ?_
            refine ⟨fun _ => (St.ldsX hS (fun _ _ h => h) (fun _ h => (.tail _ h))), ?_⟩
            refine d1 (i := 14) rfl (by kernel_rfl) (by kernel_rfl) (St.ldsX hS (fun _ _ h => h) (fun _ h => (.tail _ h))) hF rfl (fun _ _ _ h => h) (fun w hl => (e_iaI hF Tryd.runUnderlying39 Tryd.sizeOf23 rfl rfl h45 ho50)) fun a hF => ?_
            refine da1 (i := 15) (by kernel_rfl) ?_
            have hn55 := setI_len h52
            refine di (i := 15) rfl <| s_slW (α := api_Event) hF hS Tryd.sizeOf23 rfl rfl rfl hv36 ⟨_, _, rfl, rfl, ⟨_, _, rfl, rfl, ⟨_, _, rfl, rfl, ⟨_, _, rfl, rfl, rfl⟩⟩⟩⟩ h52 (.head _) fun vs53 w hv54 hU => ?_
            replace hS := hU _ .head
            clear hU
            refine ⟨fun _ => (St.ldsX hS (fun _ _ h => h) (fun _ h => (.tail _ h))), ?_⟩
            replace hF := Fr.as hF (t := 43) (v' := .slice oa33 l51.length cap34) rfl (by rw [hn55])
            refine da1 (i := 16) (by kernel_rfl) ?_
            refine di (i := 16) rfl <| q1 hF rfl (e_iaI hF Tryd.runUnderlying39 Tryd.sizeOf23 rfl rfl h57 (Rd.oaI ((St.ld hS).rdO (.head _)) hv54 (by decide) h57)) fun a hF => ?_
            refine ⟨fun _ => (St.ldsX hS (fun _ _ h => h) (fun _ h => (.tail _ h))), ?_⟩
            refine da1 (i := 17) (by kernel_rfl) ?_
            have hn62 := setI_len h59
            refine di (i := 17) rfl <| s_slW (α := api_Event) hF hS Tryd.sizeOf23 rfl rfl rfl hv54 ⟨_, _, rfl, rfl, ⟨_, _, rfl, rfl, ⟨_, _, rfl, rfl, ⟨_, _, rfl, rfl, rfl⟩⟩⟩⟩ h59 (.head _) fun vs60 w hv61 hU => ?_
            replace hS := hU _ .head
            clear hU
            refine ⟨fun h => absurd rfl h, ?_⟩
            refine de (by kernel_rfl) <| ?_
            refine tn <| ?_
            replace hF := Fr.as hF (t := 10) (v' := .slice oa33 l58.length cap34) rfl (by rw [(hn62.trans hn55)])
            exact ⟨l58, oa33, cap34, vs60, hm, hF.has ⟨rfl, trivial⟩, hS, hv61⟩
          ·
            refine di (i := 12) rfl <| q1 hF rfl (e_iaI hF Tryd.runUnderlying39 Tryd.sizeOf23 rfl rfl h45 ho46) fun a hF => ?_
            refine ⟨fun _ => (St.ldsX hS (fun _ _ h => h) (fun _ h => (.tail _ h))), ?_⟩
            refine da2 (i := 9) (j := 13) (by kernel_rfl) ?_ ?_
            ·
              refine di (i := 9) rfl <| q1 hF rfl (e_ldA hF Tryd.isAgg23 Tryd.sizeOf23 rfl rfl ((St.ld hS).elsO (.head _) hl43)) fun a hF => ?_
              refine ⟨fun _ => (St.ldsX hS (fun _ _ h => h) (fun _ h => (.tail _ h))), ?_⟩
              refine da1 (i := 13) (by kernel_rfl) ?_
              refine di (i := 13) rfl <| q1 hF rfl (e_ldA hF Tryd.isAgg23 Tryd.sizeOf23 rfl rfl ((St.ld hS).elsO (.head _) hl49)) fun a hF => ?_
              refine ⟨fun _ => (St.ldsX hS (fun _ _ h => h) (fun _ h => (.tail _ h))), ?_⟩
              refine d1 (i := 14) rfl (by kernel_rfl) (by kernel_rfl) (St.ldsX hS (fun _ _ h => h) (fun _ h => (.tail _ h))) hF rfl (fun _ _ _ h => h) (fun w hl => (e_iaI hF Tryd.runUnderlying39 Tryd.sizeOf23 rfl rfl h45 ho50)) fun a hF => ?_
              refine da1 (i := 15) (by kernel_rfl) ?_
              have hn55 := setI_len h52
              refine di (i := 15) rfl <| s_slW (α := api_Event) hF hS Tryd.sizeOf23 rfl rfl rfl hv36 ⟨_, _, rfl, rfl, ⟨_, _, rfl, rfl, ⟨_, _, rfl, rfl, ⟨_, _, rfl, rfl, rfl⟩⟩⟩⟩ h52 (.head _) fun vs53 w hv54 hU => ?_
              replace hS := hU _ .head
              clear hU
              refine ⟨fun _ => (St.ldsX hS (fun _ _ h => h) (fun _ h => (.tail _ h))), ?_⟩
              replace hF := Fr.as hF (t := 43) (v' := .slice oa33 l51.length cap34) rfl (by rw [hn55])
              refine da1 (i := 16) (by kernel_rfl) ?_
              refine di (i := 16) rfl <| q1 hF rfl (e_iaI hF Tryd.runUnderlying39 Tryd.sizeOf23 rfl rfl h57 (Rd.oaI ((St.ld hS).rdO (.head _)) hv54 (by decide) h57)) fun a hF => ?_
              refine ⟨fun _ => (St.ldsX hS (fun _ _ h => h) (fun _ h => (.tail _ h))), ?_⟩
              refine da1 (i := 17) (by kernel_rfl) ?_
              have hn62 := setI_len h59
              refine di (i := 17) rfl <| s_slW (α := api_Event) hF hS Tryd.sizeOf23 rfl rfl rfl hv54 ⟨_, _, rfl, rfl, ⟨_, _, rfl, rfl, ⟨_, _, rfl, rfl, ⟨_, _, rfl, rfl, rfl⟩⟩⟩⟩ h59 (.head _) fun vs60 w hv61 hU => ?_
              replace hS := hU _ .head
              clear hU
              refine ⟨fun h => absurd rfl h, ?_⟩
              refine de (by kernel_rfl) <| ?_
              refine tn <| ?_
              replace hF := Fr.as hF (t := 10) (v' := .slice oa33 l58.length cap34) rfl (by rw [(hn62.trans hn55)])
              exact ⟨l58, oa33, cap34, vs60, hm, hF.has ⟨rfl, trivial⟩, hS, hv61⟩
            ·
              refine di (i := 13) rfl <| q1 hF rfl (e_ldA hF Tryd.isAgg23 Tryd.sizeOf23 rfl rfl ((St.ld hS).elsO (.head _) hl49)) fun a hF => ?_
              refine ⟨fun _ => (St.ldsX hS (fun _ _ h => h) (fun _ h => (.tail _ h))), ?_⟩
              refine da1 (i := 9) (by kernel_rfl) ?_
              refine di (i := 9) rfl <| q1 hF rfl (e_ldA hF Tryd.isAgg23 Tryd.sizeOf23 rfl rfl ((St.ld hS).elsO (.head _) hl43)) fun a hF => ?_
              refine ⟨fun _ => (St.ldsX hS (fun _ _ h => h) (fun _ h => (.tail _ h))), ?_⟩
              refine d1 (i := 14) rfl (by kernel_rfl) (by kernel_rfl) (St.ldsX hS (fun _ _ h => h) (fun _ h => (.tail _ h))) hF rfl (fun _ _ _ h => h) (fun w hl => (e_iaI hF Tryd.runUnderlying39 Tryd.sizeOf23 rfl rfl h45 ho50)) fun a hF => ?_
              refine da1 (i := 15) (by kernel_rfl) ?_
              have hn55 := setI_len h52
              refine di (i := 15) rfl <| s_slW (α := api_Event) hF hS Tryd.sizeOf23 rfl rfl rfl hv36 ⟨_, _, rfl, rfl, ⟨_, _, rfl, rfl, ⟨_, _, rfl, rfl, ⟨_, _, rfl, rfl, rfl⟩⟩⟩⟩ h52 (.head _) fun vs53 w hv54 hU => ?_
              replace hS := hU _ .head
              clear hU
              refine ⟨fun _ => (St.ldsX hS (fun _ _ h => h) (fun _ h => (.tail _ h))), ?_⟩
              replace hF := Fr.as hF (t := 43) (v' := .slice oa33 l51.length cap34) rfl (by rw [hn55])
              refine da1 (i := 16) (by kernel_rfl) ?_
              refine di (i := 16) rfl <| q1 hF rfl (e_iaI hF Tryd.runUnderlying39 Tryd.sizeOf23 rfl rfl h57 (Rd.oaI ((St.ld hS).rdO (.head _)) hv54 (by decide) h57)) fun a hF => ?_
              refine ⟨fun _ => (St.ldsX hS (fun _ _ h => h) (fun _ h => (.tail _ h))), ?_⟩
              refine da1 (i := 17) (by kernel_rfl) ?_
              have hn62 := setI_len h59
              refine di (i := 17) rfl <| s_slW (α := api_Event) hF hS Tryd.sizeOf23 rfl rfl rfl hv54 ⟨_, _, rfl, rfl, ⟨_, _, rfl, rfl, ⟨_, _, rfl, rfl, ⟨_, _, rfl, rfl, rfl⟩⟩⟩⟩ h59 (.head _) fun vs60 w hv61 hU => ?_
              replace hS := hU _ .head
              clear hU
              refine ⟨fun h => absurd rfl h, ?_⟩
              refine de (by kernel_rfl) <| ?_
              refine tn <| ?_
              replace hF := Fr.as hF (t := 10) (v' := .slice oa33 l58.length cap34) rfl (by rw [(hn62.trans hn55)])
              exact ⟨l58, oa33, cap34, vs60, hm, hF.has ⟨rfl, trivial⟩, hS, hv61⟩
      ·
        refine di (i := 11) rfl <| q1 hF rfl (e_move hF rfl) fun a hF => ?_
        refine ⟨fun _ => (St.ldsX hS (fun _ _ h => h) (fun _ h => (.tail _ h))), ?_⟩
        refine da2 (i := 9) (j := 10) (by kernel_rfl) ?_ ?_
        ·
          refine di (i := 9) rfl <| q1 hF rfl (e_ldA hF Tryd.isAgg23 Tryd.sizeOf23 rfl rfl ((St.ld hS).elsO (.head _) hl43)) fun a hF => ?_
          refine ⟨fun _ => (St.ldsX hS (fun _ _ h => h) (fun _ h => (.tail _ h))), ?_⟩
          refine d1 (i := 10) rfl (by kernel_rfl) (by kernel_rfl) (St.ldsX hS (fun _ _ h => h) (fun _ h => (.tail _ h))) hF rfl (fun _ _ _ h => h) (fun w hl => (e_move hF rfl)) fun a hF => ?_
          refine d1 (i := 12) rfl (by kernel_rfl) (by kernel_rfl) (St.ldsX hS (fun _ _ h => h) (fun _ h => (.tail _ h))) hF rfl (fun _ _ _ h => h) (fun w hl => (e_iaI hF Tryd.runUnderlying39 Tryd.sizeOf23 rfl rfl h45 ho46)) fun a hF => ?_
          refine da1 (i := 13) (by kernel_rfl) ?_
          refine di (i := 13) rfl <| q1 hF rfl (e_ldA hF Tryd.isAgg23 Tryd.sizeOf23 rfl rfl ((St.ld hS).elsO (.head _) hl49)) fun a hF => ?_
          refine ⟨fun _ => (St.ldsX hS (fun _ _ h => h) (fun _ h => (.tail _ h))), ?_⟩
          refine d1 (i := 14) rfl (by kernel_rfl) (by kernel_rfl) (St.ldsX hS (fun _ _ h => h) (fun _ h => (.tail _ h))) hF rfl (fun _ _ _ h => h) (fun w hl => (e_iaI hF Tryd.runUnderlying39 Tryd.sizeOf23 rfl rfl h45 ho50)) fun a hF => ?_
          refine da1 (i := 15) (by kernel_rfl) ?_
          have hn55 := setI_len h52
          refine di (i := 15) rfl <| s_slW (α := api_Event) hF hS Tryd.sizeOf23 rfl rfl rfl hv36 ⟨_, _, rfl, rfl, ⟨_, _, rfl, rfl, ⟨_, _, rfl, rfl, ⟨_, _, rfl, rfl, rfl⟩⟩⟩⟩ h52 (.head _) fun vs53 w hv54 hU => ?_
          replace hS := hU _ .head
          clear hU
          refine ⟨fun _ => (St.ldsX hS (fun _ _ h => h) (fun _ h => (.tail _ h))), ?_⟩
          replace hF := Fr.as hF (t := 43) (v' := .slice oa33 l51.length cap34) rfl (by rw [hn55])
          refine da1 (i := 16) (by kernel_rfl) ?_
          refine di (i := 16) rfl <| q1 hF rfl (e_iaI hF Tryd.runUnderlying39 Tryd.sizeOf23 rfl rfl h57 (Rd.oaI ((St.ld hS).rdO (.head _)) hv54 (by decide) h57)) fun a hF => ?_
          refine ⟨fun _ => (St.ldsX hS (fun _ _ h => h) (fun _ h => (.tail _ h))), ?_⟩
          refine da1 (i := 17) (by kernel_rfl) ?_
          have hn62 := setI_len h59
          refine di (i := 17) rfl <| s_slW (α := api_Event) hF hS Tryd.sizeOf23 rfl rfl rfl hv54 ⟨_, _, rfl, rfl, ⟨_, _, rfl, rfl, ⟨_, _, rfl, rfl, ⟨_, _, rfl, rfl, rfl⟩⟩⟩⟩ h59 (.head _) fun vs60 w hv61 hU => ?_
          replace hS := hU _ .head
          clear hU
          refine ⟨fun h => absurd rfl h, ?_⟩
          refine de (by kernel_rfl) <| ?_
          refine tn <| ?_
          replace hF := Fr.as hF (t := 10) (v' := .slice oa33 l58.length cap34) rfl (by rw [(hn62.trans hn55)])
          exact ⟨l58, oa33, cap34, vs60, hm, hF.has ⟨rfl, trivial⟩, hS, hv61⟩
        ·
          refine di (i := 10) rfl <| q1 hF rfl (e_move hF rfl) fun a hF => ?_
          refine ⟨fun _ => (St.ldsX hS (fun _ _ h => h) (fun _ h => (.tail _ h))), ?_⟩
          refine da2 (i := 9) (j := 12) (by kernel_rfl) ?_ ?_
          ·
            refine di (i := 9) rfl <| q1 hF rfl (e_ldA hF Tryd.isAgg23 Tryd.sizeOf23 rfl rfl ((St.ld hS).elsO (.head _) hl43)) fun a hF => ?_
            refine ⟨fun _ => (St.ldsX hS (fun _ _ h => h) (fun _ h => (.tail _ h))), ?_⟩
            refine d1 (i := 12) rfl (by kernel_rfl) (by kernel_rfl) (St.ldsX hS (fun _ _ h => h) (fun _ h => (.tail _ h))) hF rfl (fun _ _ _ h => h) (fun w hl => (e_iaI hF Tryd.runUnderlying39 Tryd.sizeOf23 rfl rfl h45 ho46)) fun a hF => ?_
            refine da1 (i := 13) (by kernel_rfl) ?_
            refine di (i := 13) rfl <| q1 hF rfl (e_ldA hF Tryd.isAgg23 Tryd.sizeOf23 rfl rfl ((St.ld hS).elsO (.head _) hl49)) fun a hF => ?_
            refine ⟨fun _ => (St.ldsX hS (fun _ _ h => h) (fun _ h => (.tail _ h))), ?_⟩
            refine d1 (i := 14) rfl (by kernel_rfl) (by kernel_rfl) (St.ldsX hS (fun _ _ h => h) (fun _ h => (.tail _ h))) hF rfl (fun _ _ _ h => h) (fun w hl => (e_iaI hF Tryd.runUnderlying39 Tryd.sizeOf23 rfl rfl h45 ho50)) fun a hF => ?_
            refine da1 (i := 15) (by kernel_rfl) ?_
            have hn55 := setI_len h52
            refine di (i := 15) rfl <| s_slW (α := api_Event) hF hS Tryd.sizeOf23 rfl rfl rfl hv36 ⟨_, _, rfl, rfl, ⟨_, _, rfl, rfl, ⟨_, _, rfl, rfl, ⟨_, _, rfl, rfl, rfl⟩⟩⟩⟩ h52 (.head _) fun vs53 w hv54 hU => ?_
            replace hS := hU _ .head
            clear hU
            refine ⟨fun _ => (St.ldsX hS (fun _ _ h => h) (fun _ h => (.tail _ h))), ?_⟩
            replace hF := Fr.as hF (t := 43) (v' := .slice oa33 l51.length cap34) rfl (by rw [hn55])
            refine da1 (i := 16) (by kernel_rfl) ?_
            refine di (i := 16) rfl <| q1 hF rfl (e_iaI hF Tryd.runUnderlying39 Tryd.sizeOf23 rfl rfl h57 (Rd.oaI ((St.ld hS).rdO (.head _)) hv54 (by decide) h57)) fun a hF => ?_
            refine ⟨fun _ => (St.ldsX hS (fun _ _ h => h) (fun _ h => (.tail _ h))), ?_⟩
            refine da1 (i := 17) (by kernel_rfl) ?_
            have hn62 := setI_len h59
            refine di (i := 17) rfl <| s_slW (α := api_Event) hF hS Tryd.sizeOf23 rfl rfl rfl hv54 ⟨_, _, rfl, rfl, ⟨_, _, rfl, rfl, ⟨_, _, rfl, rfl, ⟨_, _, rfl, rfl, rfl⟩⟩⟩⟩ h59 (.head _) fun vs60 w hv61 hU => ?_
            replace hS := hU _ .head
            clear hU
            refine ⟨fun h => absurd rfl h, ?_⟩
            refine de (by kernel_rfl) <| ?_
            refine tn <| ?_
            replace hF := Fr.as hF (t := 10) (v' := .slice oa33 l58.length cap34) rfl (by rw [(hn62.trans hn55)])
            exact ⟨l58, oa33, cap34, vs60, hm, hF.has ⟨rfl, trivial⟩, hS, hv61⟩
          ·
            refine di (i := 12) rfl <| q1 hF rfl (e_iaI hF Tryd.runUnderlying39 Tryd.sizeOf23 rfl rfl h45 ho46) fun a hF => ?_
            refine ⟨fun _ => (St.ldsX hS (fun _ _ h => h) (fun _ h => (.tail _ h))), ?_⟩
            refine da2 (i := 9) (j := 13) (by kernel_rfl) ?_ ?_
            ·
              refine di (i := 9) rfl <| q1 hF rfl (e_ldA hF Tryd.isAgg23 Tryd.sizeOf23 rfl rfl ((St.ld hS).elsO (.head _) hl43)) fun a hF => ?_
              refine ⟨fun _ => (St.ldsX hS (fun _ _ h => h) (fun _ h => (.tail _ h))), ?_⟩
              refine da1 (i := 13) (by kernel_rfl) ?_
              refine di (i := 13) rfl <| q1 hF rfl (e_ldA hF Tryd.isAgg23 Tryd.sizeOf23 rfl rfl ((St.ld hS).elsO (.head _) hl49)) fun a hF => ?_
              refine ⟨fun _ => (St.ldsX hS (fun _ _ h => h) (fun _ h => (.tail _ h))), ?_⟩
              refine d1 (i := 14) rfl (by kernel_rfl) (by kernel_rfl) (St.ldsX hS (fun _ _ h => h) (fun _ h => (.tail _ h))) hF rfl (fun _ _ _ h => h) (fun w hl => (e_iaI hF Tryd.runUnderlying39 Tryd.sizeOf23 rfl rfl h45 ho50)) fun a hF => ?_
              refine da1 (i := 15) (by kernel_rfl) ?_
              have hn55 := setI_len h52
              refine di (i := 15) rfl <| s_slW (α := api_Event) hF hS Tryd.sizeOf23 rfl rfl rfl hv36 ⟨_, _, rfl, rfl, ⟨_, _, rfl, rfl, ⟨_, _, rfl, rfl, ⟨_, _, rfl, rfl, rfl⟩⟩⟩⟩ h52 (.head _) fun vs53 w hv54 hU => ?_
              replace hS := hU _ .head
              clear hU
              refine ⟨fun _ => (St.ldsX hS (fun _ _ h => h) (fun _ h => (.tail _ h))), ?_⟩
              replace hF := Fr.as hF (t := 43) (v' := .slice oa33 l51.length cap34) rfl (by rw [hn55])
              refine da1 (i := 16) (by kernel_rfl) ?_
              refine di (i := 16) rfl <| q1 hF rfl (e_iaI hF Tryd.runUnderlying39 Tryd.sizeOf23 rfl rfl h57 (Rd.oaI ((St.ld hS).rdO (.head _)) hv54 (by decide) h57)) fun a hF => ?_
              refine ⟨fun _ => (St.ldsX hS (fun _ _ h => h) (fun _ h => (.tail _ h))), ?_⟩
              refine da1 (i := 17) (by kernel_rfl) ?_
              have hn62 := setI_len h59
              refine di (i := 17) rfl <| s_slW (α := api_Event) hF hS Tryd.sizeOf23 rfl rfl rfl hv54 ⟨_, _, rfl, rfl, ⟨_, _, rfl, rfl, ⟨_, _, rfl, rfl, ⟨_, _, rfl, rfl, rfl⟩⟩⟩⟩ h59 (.head _) fun vs60 w hv61 hU => ?_
              replace hS := hU _ .head
              clear hU
              refine ⟨fun h => absurd rfl h, ?_⟩
              refine de (by kernel_rfl) <| ?_
              refine tn <| ?_
              replace hF := Fr.as hF (t := 10) (v' := .slice oa33 l58.length cap34) rfl (by rw [(hn62.trans hn55)])
              exact ⟨l58, oa33, cap34, vs60, hm, hF.has ⟨rfl, trivial⟩, hS, hv61⟩
            ·
              refine di (i := 13) rfl <| q1 hF rfl (e_ldA hF Tryd.isAgg23 Tryd.sizeOf23 rfl rfl ((St.ld hS).elsO (.head _) hl49)) fun a hF => ?_
              refine ⟨fun _ => (St.ldsX hS (fun _ _ h => h) (fun _ h => (.tail _ h))), ?_⟩
              refine da1 (i := 9) (by kernel_rfl) ?_
              refine di (i := 9) rfl <| q1 hF rfl (e_ldA hF Tryd.isAgg23 Tryd.sizeOf23 rfl rfl ((St.ld hS).elsO (.head _) hl43)) fun a hF => ?_
              refine ⟨fun _ => (St.ldsX hS (fun _ _ h => h) (fun _ h => (.tail _ h))), ?_⟩
              refine d1 (i := 14) rfl (by kernel_rfl) (by kernel_rfl) (St.ldsX hS (fun _ _ h => h) (fun _ h => (.tail _ h))) hF rfl (fun _ _ _ h => h) (fun w hl => (e_iaI hF Tryd.runUnderlying39 Tryd.sizeOf23 rfl rfl h45 ho50)) fun a hF => ?_
              refine da1 (i := 15) (by kernel_rfl) ?_
              have hn55 := setI_len h52
              refine di (i := 15) rfl <| s_slW (α := api_Event) hF hS Tryd.sizeOf23 rfl rfl rfl hv36 ⟨_, _, rfl, rfl, ⟨_, _, rfl, rfl, ⟨_, _, rfl, rfl, ⟨_, _, rfl, rfl, rfl⟩⟩⟩⟩ h52 (.head _) fun vs53 w hv54 hU => ?_
              replace hS := hU _ .head
              clear hU
              refine ⟨fun _ => (St.ldsX hS (fun _ _ h => h) (fun _ h => (.tail _ h))), ?_⟩
              replace hF := Fr.as hF (t := 43) (v' := .slice oa33 l51.length cap34) rfl (by rw [hn55])
              refine da1 (i := 16) (by kernel_rfl) ?_
              refine di (i := 16) rfl <| q1 hF rfl (e_iaI hF Tryd.runUnderlying39 Tryd.sizeOf23 rfl rfl h57 (Rd.oaI ((St.ld hS).rdO (.head _)) hv54 (by decide) h57)) fun a hF => ?_
              refine ⟨fun _ => (St.ldsX hS (fun _ _ h => h) (fun _ h => (.tail _ h))), ?_⟩
              refine da1 (i := 17) (by kernel_rfl) ?_
              have hn62 := setI_len h59
              refine di (i := 17) rfl <| s_slW (α := api_Event) hF hS Tryd.sizeOf23 rfl rfl rfl hv54 ⟨_, _, rfl, rfl, ⟨_, _, rfl, rfl, ⟨_, _, rfl, rfl, ⟨_, _, rfl, rfl, rfl⟩⟩⟩⟩ h59 (.head _) fun vs60 w hv61 hU => ?_
              replace hS := hU _ .head
              clear hU
              refine ⟨fun h => absurd rfl h, ?_⟩
              refine de (by kernel_rfl) <| ?_
              refine tn <| ?_
              replace hF := Fr.as hF (t := 10) (v' := .slice oa33 l58.length cap34) rfl (by rw [(hn62.trans hn55)])
              exact ⟨l58, oa33, cap34, vs60, hm, hF.has ⟨rfl, trivial⟩, hS, hv61⟩
    clear hm hF hS
    rintro a w ⟨vA7, oaA8, capA9, vsA10, hm, hF, hS, hvA11⟩
    unfold trace_Swap_j2 at hm
    refine th <| ?_
    refine rg <| ?_
    refine ls <| q1 hF rfl (e_move hF rfl) fun a hF => ?_
    refine ls <| q1 hF rfl (e_asg hF rfl) fun a hF => ?_
    refine ls <| q1 hF rfl (e_asg hF rfl) fun a hF => ?_
    refine re <| ?_
    refine tn <| ?_
    refine wp_ret <| ?_
    obtain rfl := Option.some.inj hm
    exact r2 hF Tryd.results26 rfl rfl ⟨_, _, _, rfl, (fun _ => Rows.ind hvA11), hS.endFresh (.head _)⟩

set_option maxRecDepth 100000 in
theorem leadlineref16_Threads_c {N : Nat} {w0 : World} {H : PH} (hH : H.le w0) {oa2 : Option Addr} {cap3 : Nat} {p1 : (List api_Event)} (hc4 : p1.length ≤ cap3) (hr5 : SR H oa2 p1) {r : Int} (hm : leadlineref16_Threads N p1 = some r) : Tot Tryd.prog 51 #[.slice oa2 p1.length cap3] w0 (fun v w' => v = .int .i64 r ∧ Keep Nil w0 w') := by
  unfold leadlineref16_Threads at hm
  refine fn0 (args := [.slice oa2 p1.length cap3]) (F := [(0, .slice oa2 p1.length cap3)]) Tryd.func51 rfl Tryd.ntmps51 rfl rfl fun a hF => ?_
  have hS : St w0 Nil [H] [] w0 := start1 hH
  refine th <| ?_
  refine rg <| ?_
  refine ls <| q1 hF rfl (e_asg hF rfl) fun a hF => ?_
  refine re <| ?_
  refine tn <| th <| ?_
  refine rg <| ?_
  refine ls <| q1 hF rfl (e_asg hF rfl) fun a hF => ?_
  refine re <| ?_
  refine tn <| th <| th <| ?_
  refine rg <| ?_
  refine ls <| q1 hF rfl (e_asg hF rfl) fun a hF => ?_
  refine re <| ?_
  refine tn <| midK (fun a w => ∃ (vA2 : Int) (HA1 : PH), leadlineref16_Threads_j1 vA2 = some r ∧ Ext w0 H HA1 ∧ Fr 34 [(3, .int .i64 vA2)] a ∧ St w0 Nil [HA1] [] w) ?_ ?_
  ·
    refine wp_block <| lp (α := Nat × Int × Int) (fun (gh : Nat × Int × Int) a w => match gh with | (nn2, vB6, vB7) => ∃ (HB1 : PH) (oaB2 : Option Addr) (capB3 : Nat), (leadlineref16_Threads_l2 N leadlineref16_Threads_j1 p1) nn2 vB6 vB7 = some r ∧ Ext w0 H HB1 ∧ Fr 34 [(0, .slice oaB2 p1.length capB3), (3, .int .i64 vB6), (4, .int .i64 vB7)] a ∧ St w0 Nil [HB1] [] w ∧ p1.length ≤ capB3 ∧ SR HB1 oaB2 p1) (fun gh => gh.1) (N, 0, 0) ⟨H, oa2, cap3, hm, (Ext.refl _ _), hF.has ⟨rfl, rfl, rfl, trivial⟩, hS, hc4, hr5⟩ ?_
    clear hm hF hS
    rintro ⟨nn2, vB6, vB7⟩ a w ⟨HB1, oaB2, capB3, hm, hxHB1, hF, hS, hcB4, hrB5⟩
    obtain _ | nn2 := nn2
    · simp [leadlineref16_Threads_l2] at hm
    rw [leadlineref16_Threads_l2] at hm
    refine th <| th <| ?_
    refine rg <| ?_
    refine ls <| q1 hF rfl (e_move hF rfl) fun a hF => ?_
    refine ls <| q1 hF rfl (e_move hF rfl) fun a hF => ?_
    refine ls <| q1 hF rfl (e_lenL (α := api_Event) (xs := p1) hF Tryd.runUnderlying39 rfl) fun a hF => ?_
    refine ls <| q1 hF rfl (e_lss hF rfl rfl) fun a hF => ?_
    refine re <| ?_
    rcases bdich (decide (vB7 < (p1.length : Int))) with hb6 | hb6
    ·
      replace hm := itp_t hm hb6
      refine tn <| ctv hF rfl hb6 <| wp_skip <| ?_
      refine tn <| th <| wp_block <| th <| th <| ?_
      replace hm := bind_some hm
      obtain ⟨x7, h8, hm⟩ := hm
      obtain ⟨c9, g10, hl11⟩ := SR.get hrB5 h8
      obtain rfl := api_Event_open g10
      refine rg <| ?_
      refine ls <| q1 hF rfl (e_move hF rfl) fun a hF => ?_
      refine ls <| q1 hF rfl (e_move hF rfl) fun a hF => ?_
      refine ls <| q1 hF rfl (e_iaI hF Tryd.runUnderlying39 Tryd.sizeOf23 rfl rfl h8 (SR.oaI hrB5 (by decide) h8)) fun a hF => ?_
      refine ls <| q1 hF rfl (e_fa hF fa23_1 rfl) fun a hF => ?_
      refine ls <| q1 hF rfl (e_ld hF Tryd.isAgg3 rfl (PH.le.cell (Lds.le (St.ld hS)) (hl11 1 _ rfl))) fun a hF => ?_
      refine ls <| q1 hF rfl (e_lss hF rfl rfl) fun a hF => ?_
      refine ls <| q1 hF rfl (e_move hF rfl) fun a hF => ?_
      refine grp (N := 34) (Fk := [(0, .slice oaB2 p1.length capB3), (3, .int .i64 vB6), (4, .int .i64 vB7), (24, .bool ((decide (x7.T < 0)) || (decide (7 < x7.T))))]) (b := (decide (x7.T < 0))) 7 hS ?_ ?_ ?_
      ·
        intro hb key
        replace hF := Fr.as hF (t := 17) rfl (congrArg Value.bool hb)
        refine ls <| gn hF rfl rfl rfl rfl fun a hF => ?_
        refine ls <| gn hF rfl rfl rfl rfl fun a hF => ?_
        refine ls <| gn hF rfl rfl rfl rfl fun a hF => ?_
        refine ls <| gn hF rfl rfl rfl rfl fun a hF => ?_
        refine ls <| gn hF rfl rfl rfl rfl fun a hF => ?_
        refine ls <| gn hF rfl rfl rfl rfl fun a hF => ?_
        refine ls <| q1 hF rfl (e_as (v' := .bool ((decide (x7.T < 0)) || (decide (7 < x7.T)))) (e_pickT hF rfl rfl) (by rw [hb]; rfl)) fun a hF => ?_
        exact key _ _ (hF.has ⟨rfl, rfl, rfl, rfl, trivial⟩) hS
      ·
        intro hb key
        replace hF := Fr.as hF (t := 17) rfl (congrArg Value.bool hb)
        refine ls <| gy hF rfl rfl <| q1 hF rfl (e_move hF rfl) fun a hF => ?_
        refine ls <| gy hF rfl rfl <| q1 hF rfl (e_move hF rfl) fun a hF => ?_
        refine ls <| gy hF rfl rfl <| q1 hF rfl (e_iaI hF Tryd.runUnderlying39 Tryd.sizeOf23 rfl rfl h8 (SR.oaI hrB5 (by decide) h8)) fun a hF => ?_
        refine ls <| gy hF rfl rfl <| q1 hF rfl (e_fa hF fa23_1 rfl) fun a hF => ?_
        refine ls <| gy hF rfl rfl <| q1 hF rfl (e_ld hF Tryd.isAgg3 rfl (PH.le.cell (Lds.le (St.ld hS)) (hl11 1 _ rfl))) fun a hF => ?_
        refine ls <| gy hF rfl rfl <| q1 hF rfl (e_gtr hF rfl rfl) fun a hF => ?_
        refine ls <| q1 hF rfl (e_as (v' := .bool ((decide (x7.T < 0)) || (decide (7 < x7.T)))) (e_pickF hF rfl rfl) (by rw [hb]; rfl)) fun a hF => ?_
        exact key _ _ (hF.has ⟨rfl, rfl, rfl, rfl, trivial⟩) hS
      intro a w hF hS
      refine re <| ?_
      rcases bdich ((decide (x7.T < 0)) || (decide (7 < x7.T))) with hb12 | hb12
      ·
        replace hm := ite_t hm hb12
        refine tn <| ctv hF rfl hb12 <| th <| ?_
        refine rg <| ?_
        refine ls <| q1 hF rfl (e_asg hF rfl) fun a hF => ?_
        refine re <| ?_
        refine tn <| ?_
        refine wp_ret <| tr <| br <| tr <| tr <| br <| tr <| ?_
        obtain rfl := Option.some.inj hm
        exact r1 hF Tryd.results51 rfl ⟨rfl, hS.keep⟩
      ·
        replace hm := ite_f hm hb12
        refine tn <| cfv hF rfl hb12 <| wp_skip <| ?_
        refine tn <| ?_
        refine rg <| ?_
        refine ls <| q1 hF rfl (e_move hF rfl) fun a hF => ?_
        refine ls <| q1 hF rfl (e_move hF rfl) fun a hF => ?_
        refine ls <| q1 hF rfl (e_move hF rfl) fun a hF => ?_
        refine ls <| q1 hF rfl (e_iaI hF Tryd.runUnderlying39 Tryd.sizeOf23 rfl rfl h8 (SR.oaI hrB5 (by decide) h8)) fun a hF => ?_
        refine ls <| q1 hF rfl (e_fa hF fa23_1 rfl) fun a hF => ?_
        refine ls <| q1 hF rfl (e_ld hF Tryd.isAgg3 rfl (PH.le.cell (Lds.le (St.ld hS)) (hl11 1 _ rfl))) fun a hF => ?_
        refine ls <| q1 hF rfl (e_add hF rfl rfl) fun a hF => ?_
        refine ls <| q1 hF rfl (e_max hF rfl rfl) fun a hF => ?_
        refine ls <| q1 hF rfl (e_asg hF rfl) fun a hF => ?_
        refine re <| ?_
        refine bn <| tn <| ?_
        refine rg <| ?_
        refine ls <| q1 hF rfl (e_move hF rfl) fun a hF => ?_
        refine ls <| q1 hF rfl (e_add hF rfl rfl) fun a hF => ?_
        refine ls <| q1 hF rfl (e_asg hF rfl) fun a hF => ?_
        refine re <| ?_
        refine tn <| ?_
        exact ⟨(nn2, (max vB6 (IntKind.i64.wrap (x7.T + 1))), (IntKind.i64.wrap (vB7 + 1))), ⟨HB1, oaB2, capB3, hm, hxHB1, hF.has ⟨rfl, rfl, rfl, trivial⟩, hS, hcB4, hrB5⟩, Nat.lt_succ_self _⟩
    ·
      replace hm := itp_f hm hb6
      refine tn <| cfv hF rfl hb6 <| ?_
      refine wp_exit <| tx <| tx <| bx <| ?_
      refine tn <| ?_
      exact ⟨vB6, HB1, hm, hxHB1, hF.has ⟨rfl, trivial⟩, hS⟩
  clear hm hF hS
  rintro a w ⟨vA2, HA1, hm, hxHA1, hF, hS⟩
  unfold leadlineref16_Threads_j1 at hm
  refine th <| ?_
  refine rg <| ?_
  refine ls <| q1 hF rfl (e_move hF rfl) fun a hF => ?_
  refine ls <| q1 hF rfl (e_asg hF rfl) fun a hF => ?_
  refine re <| ?_
  refine tn <| ?_
  refine wp_ret <| ?_
  obtain rfl := Option.some.inj hm
  exact r1 hF Tryd.results51 rfl ⟨rfl, hS.keep⟩
end Go.LM.ET
