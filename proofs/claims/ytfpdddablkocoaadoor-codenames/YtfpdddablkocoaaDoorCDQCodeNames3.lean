/- Walks, lifted by program. No condition beyond each theorem's own premises. -/
import Derived.Test.YtfpdddablkocoaaDoorCDQCodeNames2
namespace Go.LM.CODE
open Go Go.LL Go.MD Go.LM Go.Proofs Go.MD.CODE

set_option maxRecDepth 100000 in
theorem code_Run_c {N : Nat} {w0 : World} {H : PH} (hH : H.le w0) {oa2 : Option Addr} {cap3 : Nat} {p1 : (List api_Op)} (hc4 : p1.length ≤ cap3) (hr5 : SR H oa2 p1) {oa7 : Option Addr} {cap8 : Nat} {p6 : (List Int)} (hc9 : p6.length ≤ cap8) (hr10 : SR H oa7 p6) {r : (Int × Int)} (hm : code_Run N p1 p6 = some r) : Tot Tryd.prog 18 #[.slice oa2 p1.length cap3, .slice oa7 p6.length cap8] w0 (fun v w' => v = .tuple #[.int .i64 r.1, .int .i64 r.2] ∧ Keep Nil w0 w') := by
  unfold code_Run at hm
  refine fn0 (args := [.slice oa2 p1.length cap3, .slice oa7 p6.length cap8]) (F := [(0, .slice oa2 p1.length cap3), (1, .slice oa7 p6.length cap8)]) Tryd.func18 rfl Tryd.ntmps18 rfl rfl fun a hF => ?_
  have hS : St w0 Nil [H] [] w0 := start1 hH
  refine th <| ?_
  refine rg <| ?_
  refine ls <| q1 hF rfl (e_asg hF rfl) fun a hF => ?_
  refine ls <| q1 hF rfl (e_asg hF rfl) fun a hF => ?_
  refine re <| ?_
  refine tn <| th <| th <| ?_
  replace hm := bind_some hm
  obtain ⟨r11, h12, hm⟩ := hm
  refine rg <| ?_
  refine ls <| q1 hF rfl (e_move hF rfl) fun a hF => ?_
  refine ls <| q1 hF rfl (e_move hF rfl) fun a hF => ?_
  refine ls <| q1 hF rfl (e_lenL (α := Int) (xs := p6) hF Tryd.runUnderlying33 rfl) fun a hF => ?_
  refine ls <| c1 hF rfl Tryd.call19 (code_Right_c (hp_le _) hc4 (St.srH hS hr5) h12) ⟨rfl, rfl, trivial⟩ (fun v w a hR hF => ?_)
  obtain ⟨rfl, hk⟩ := hR
  replace hS := hS.pass hk
  clear hk
  refine ls <| q1 hF rfl (e_not hF rfl) fun a hF => ?_
  refine re <| ?_
  rcases bdich r11 with hb13 | hb13
  ·
    replace hm := ite_t hm hb13
    refine tn <| cfv hF rfl (by rw [hb13]; rfl) <| wp_skip <| ?_
    refine tn <| th <| ?_
    refine rg <| ?_
    refine ls <| a_alloc (cs := [.slice none 0 0, .int .i64 0].toArray) hF rfl hS Tryd.zeroValue61 rfl fun b14 w a hS hF => ?_
    refine re <| ?_
    refine tn <| th <| th <| ?_
    refine rg <| ?_
    refine ls <| q1 hF rfl (e_move hF rfl) fun a hF => ?_
    refine ls <| q1 hF rfl (e_lenL (α := api_Op) (xs := p1) hF Tryd.runUnderlying26 rfl) fun a hF => ?_
    refine ls <| q1 hF rfl (e_move hF rfl) fun a hF => ?_
    refine re <| ?_
    refine tn <| midK (fun a w => ∃ (vA2 : (List Int)) (vA8 : Int) (HA1 : PH) (oaA3 : Option Addr) (capA4 : Nat) (vsA5 : List Value), (code_Run_j1 N) vA2 vA8 = some r ∧ Ext w0 H HA1 ∧ Fr 74 [(6, .pointer (some ⟨b14, 0, none⟩))] a ∧ St w0 Nil [HA1] [sla 3 1 oaA3 vA2.length capA4 vsA5, blk b14 (.cells [.slice oaA3 vA2.length capA4, .int .i64 vA8].toArray 61 (0, 0))] w ∧ Rows HA1 vsA5 vA2) ?_ ?_
    ·
      replace hS := St.nilS hS 3 1
      refine wp_block <| lp (α := Nat × (List Int) × Int × Int) (fun (gh : Nat × (List Int) × Int × Int) a w => match gh with | (nn2, vB6, vB12, vB17) => ∃ (HB1 : PH) (oaB2 : Option Addr) (capB3 : Nat) (oaB7 : Option Addr) (capB8 : Nat) (vsB9 : List Value) (oaB13 : Option Addr) (capB14 : Nat), (code_Run_l2 N (code_Run_j1 N) p1 p6) nn2 vB6 vB12 vB17 = some r ∧ Ext w0 H HB1 ∧ Fr 74 [(1, .slice oaB2 p6.length capB3), (6, .pointer (some ⟨b14, 0, none⟩)), (20, .slice oaB13 p1.length capB14), (21, .int .i64 (p1.length : Int)), (22, .int .i64 vB17)] a ∧ St w0 Nil [HB1] [sla 3 1 oaB7 vB6.length capB8 vsB9, blk b14 (.cells [.slice oaB7 vB6.length capB8, .int .i64 vB12].toArray 61 (0, 0))] w ∧ p6.length ≤ capB3 ∧ SR HB1 oaB2 p6 ∧ Rows HB1 vsB9 vB6 ∧ p1.length ≤ capB14 ∧ SR HB1 oaB13 p1) (fun gh => gh.1) (N, [], 0, 0) ⟨H, oa7, cap8, none, 0, [], oa2, cap3, hm, (Ext.refl _ _), hF.has ⟨rfl, rfl, rfl, rfl, rfl, trivial⟩, hS, hc9, hr10, .nil, hc4, hr5⟩ ?_
      clear hm hF hS
      rintro ⟨nn2, vB6, vB12, vB17⟩ a w ⟨HB1, oaB2, capB3, oaB7, capB8, vsB9, oaB13, capB14, hm, hxHB1, hF, hS, hcB4, hrB5, hvB10, hcB15, hrB16⟩
      obtain _ | nn2 := nn2
      · simp [code_Run_l2] at hm
      rw [code_Run_l2] at hm
      refine th <| ?_
      refine rg <| ?_
      refine ls <| q1 hF rfl (e_lss hF rfl rfl) fun a hF => ?_
      refine re <| ?_
      rcases bdich (decide (vB17 < (p1.length : Int))) with hb15 | hb15
      ·
        replace hm := itp_t hm hb15
        refine tn <| th <| ctv hF rfl hb15 <| wp_skip <| ?_
        refine tn <| th <| midK (fun a w => ∃ (vC1 : (List Int)) (vC7 : Int) (oaC2 : Option Addr) (capC3 : Nat) (vsC4 : List Value), (code_Run_j3 (code_Run_l2 N (code_Run_j1 N) p1 p6 nn2) vB17) vC1 vC7 = some r ∧ Fr 74 [(1, .slice oaB2 p6.length capB3), (6, .pointer (some ⟨b14, 0, none⟩)), (20, .slice oaB13 p1.length capB14), (21, .int .i64 (p1.length : Int)), (22, .int .i64 vB17)] a ∧ St w0 Nil [HB1] [sla 3 1 oaC2 vC1.length capC3 vsC4, blk b14 (.cells [.slice oaC2 vC1.length capC3, .int .i64 vC7].toArray 61 (0, 0))] w ∧ Rows HB1 vsC4 vC1) ?_ ?_
        ·
          refine wp_block <| th <| ?_
          replace hm := bind_some hm
          obtain ⟨x16, h17, hm⟩ := hm
          obtain ⟨c18, g19, hl20⟩ := SR.get hrB16 h17
          obtain rfl := api_Op_open g19
          refine rg <| ?_
          refine ls <| q1 hF rfl (e_iaI hF Tryd.runUnderlying26 Tryd.sizeOf46 rfl rfl h17 (SR.oaI hrB16 (by decide) h17)) fun a hF => ?_
          refine ls <| q1 hF rfl (e_ldA hF Tryd.isAgg46 Tryd.sizeOf46 rfl rfl (fun j v hj => PH.le.cell (Lds.le (St.ld hS)) (hl20 j v hj))) fun a hF => ?_
          refine ls <| a_alloc (cs := [.int .i64 0, .int .i64 0].toArray) hF rfl hS Tryd.zeroValue46 rfl fun b21 w a hS hF => ?_
          refine ls <| s_blkA hF hS Tryd.sizeOf46 rfl rfl rfl rfl (one_cells rfl) .head fun w hS => ?_
          refine re <| ?_
          refine tn <| th <| ?_
          replace hm := bind_some hm
          obtain ⟨r22, h23, hm⟩ := hm
          refine rg <| ?_
          refine ls <| q1 hF rfl (e_fa hF fa46_0 rfl) fun a hF => ?_
          refine ls <| q1 hF rfl (e_ld hF Tryd.isAgg3 rfl ((St.ld hS).cellB (.head _) rfl)) fun a hF => ?_
          refine ls <| c1 hF rfl Tryd.call34 (code_wants_c (hp_le _) h23) ⟨rfl, trivial⟩ (fun v w a hR hF => ?_)
          obtain ⟨rfl, hk⟩ := hR
          replace hS := hS.pass hk
          clear hk
          refine re <| ?_
          refine tn <| wp_block <| th <| ?_
          refine rg <| ?_
          refine ls <| q1 hF rfl (e_eql hF rfl rfl) fun a hF => ?_
          refine ls <| q1 hF rfl (e_asg hF rfl) fun a hF => ?_
          refine re <| ?_
          rcases bdich (decide (r22 = 0)) with hb24 | hb24
          ·
            replace hm := itp_t hm hb24
            refine tn <| ctv hF rfl hb24 <| th <| ?_
            refine rg <| ?_
            refine ls <| q1 hF rfl (e_fa hF fa46_1 rfl) fun a hF => ?_
            refine ls <| q1 hF rfl (e_ld hF Tryd.isAgg3 rfl ((St.ld hS).cellB (.head _) rfl)) fun a hF => ?_
            refine ls <| q1 hF rfl (e_asg hF rfl) fun a hF => ?_
            refine re <| ?_
            refine tn <| th <| th <| ?_
            refine rg <| ?_
            refine ls <| q1 hF rfl (e_fa hF fa46_0 rfl) fun a hF => ?_
            refine ls <| q1 hF rfl (e_ld hF Tryd.isAgg3 rfl ((St.ld hS).cellB (.head _) rfl)) fun a hF => ?_
            refine ls <| q1 hF rfl (e_eql hF rfl rfl) fun a hF => ?_
            refine re <| ?_
            refine tn <| midK (fun a w => ∃ (vD1 : Int), (code_Run_j4 N (code_Run_j3 (code_Run_l2 N (code_Run_j1 N) p1 p6 nn2) vB17) vB6 vB12) vD1 = some r ∧ Fr 74 [(1, .slice oaB2 p6.length capB3), (6, .pointer (some ⟨b14, 0, none⟩)), (9, .int .i64 vD1), (20, .slice oaB13 p1.length capB14), (21, .int .i64 (p1.length : Int)), (22, .int .i64 vB17)] a ∧ St w0 Nil [HB1] [sla 3 1 oaB7 vB6.length capB8 vsB9, blk b14 (.cells [.slice oaB7 vB6.length capB8, .int .i64 vB12].toArray 61 (0, 0))] w) ?_ ?_
            ·
              rcases bdich (decide (x16.Kind = 2)) with hb25 | hb25
              ·
                replace hm := itp_t hm hb25
                refine ctv hF rfl hb25 <| ?_
                replace hm := bind_some hm
                obtain ⟨x26, h27, hm⟩ := hm
                obtain ⟨c28, g29, hl30⟩ := SR.get hrB5 h27
                obtain rfl : c28 = [.int .i64 x26] := g29
                refine rg <| ?_
                refine ls <| q1 hF rfl (e_move hF rfl) fun a hF => ?_
                refine ls <| q1 hF rfl (e_fa hF fa46_1 rfl) fun a hF => ?_
                refine ls <| q1 hF rfl (e_ld hF Tryd.isAgg3 rfl ((St.ld hS).cellB (.head _) rfl)) fun a hF => ?_
                refine ls <| q1 hF rfl (e_iaI hF Tryd.runUnderlying33 Tryd.sizeOf3 rfl rfl h27 (SR.oaI hrB5 (by decide) h27)) fun a hF => ?_
                refine ls <| q1 hF rfl (e_ld hF Tryd.isAgg3 rfl (PH.le.cell (Lds.le (St.ld hS)) (hl30 0 _ rfl))) fun a hF => ?_
                refine ls <| q1 hF rfl (e_asg hF rfl) fun a hF => ?_
                refine re <| ?_
                refine tn <| ?_
                replace hS := hS.pickL (.cons (.tail .head) (.cons (.tail .head) .nil))
                exact ⟨x26, hm, hF.has ⟨rfl, rfl, rfl, rfl, rfl, rfl, trivial⟩, hS⟩
              ·
                replace hm := itp_f hm hb25
                refine cfv hF rfl hb25 <| wp_skip <| ?_
                refine tn <| ?_
                replace hS := hS.pickL (.cons (.tail .head) (.cons (.tail .head) .nil))
                exact ⟨x16.N, hm, hF.has ⟨rfl, rfl, rfl, rfl, rfl, rfl, trivial⟩, hS⟩
            clear hm hF hS
            rintro a w ⟨vD1, hm, hF, hS⟩
            unfold code_Run_j4 at hm
            replace hm := bind_some hm
            obtain ⟨r31, h32, hm⟩ := hm
            refine rg <| ?_
            refine ls <| q1 hF rfl (e_move hF rfl) fun a hF => ?_
            replace hS := hS.pickL (.cons (.tail .head) (.cons .head .nil))
            replace hS := St.sep [blk b14 (.cells [.slice oaB7 vB6.length capB8, .int .i64 vB12].toArray 61 (0, 0)), sla 3 1 oaB7 vB6.length capB8 vsB9] hS
            refine ls <| c1 hF rfl Tryd.call35 (code_pile_up__m0_61_o_c (St.le hS) (p1 := (code_pile.mk (code_list.mk vB6) vB12)) (b2 := b14) (oa3 := oaB7) (cap4 := capB8) (vs5 := vsB9) hvB10 (St.sepOk hS) (St.sepDis hS) h32) ⟨rfl, rfl, trivial⟩ (fun v w a hR hF => ?_)
            obtain ⟨oa33, cap34, vs35, rfl, hv36, hk⟩ := hR
            replace hS := (hS.mut hk .head).unsep
            clear hk
            replace hv36 := hv36 HB1
            refine re <| ?_
            refine bn <| bn <| tn <| ?_
            replace hS := hS.pickL (.cons (.tail .head) (.cons .head .nil))
            exact ⟨r31.list.l, r31.high, oa33, cap34, vs35, hm, hF.has ⟨rfl, rfl, rfl, rfl, rfl, trivial⟩, hS, hv36⟩
          ·
            replace hm := itp_f hm hb24
            refine tn <| cfv hF rfl hb24 <| th <| ?_
            refine rg <| ?_
            refine ls <| q1 hF rfl (e_eql hF rfl rfl) fun a hF => ?_
            refine ls <| q1 hF rfl (e_asg hF rfl) fun a hF => ?_
            refine re <| ?_
            rcases bdich (decide (r22 = 1)) with hb38 | hb38
            ·
              replace hm := itp_t hm hb38
              refine tn <| ctv hF rfl hb38 <| th <| ?_
              replace hm := bind_some hm
              obtain ⟨r39, h40, hm⟩ := hm
              replace hm := bind_some hm
              obtain ⟨r46, h47, hm⟩ := hm
              refine rdL (sub_cons (.head _) sub_nil) 10 hS wide fun w hS => ?_
              refine d1 (i := 0) rfl (by kernel_rfl) (by kernel_rfl) (St.ldsX hS (fun _ _ h => h) (sub_cons (.head _) sub_nil)) hF rfl (fun _ _ _ h => h) (fun w hl => (e_fa hF fa46_0 rfl)) fun a hF => ?_
              refine d1 (i := 1) rfl (by kernel_rfl) (by kernel_rfl) (St.ldsX hS (fun _ _ h => h) (sub_cons (.head _) sub_nil)) hF rfl (fun _ _ _ h => h) (fun w hl => (e_ld hF Tryd.isAgg3 rfl (hl.cellB (.head _) rfl))) fun a hF => ?_
              refine d1 (i := 2) rfl (by kernel_rfl) (by kernel_rfl) (St.ldsX hS (fun _ _ h => h) (sub_cons (.head _) sub_nil)) hF rfl (fun _ _ _ h => h) (fun w hl => (e_fa hF fa61_0 rfl)) fun a hF => ?_
              refine da1 (i := 3) (by kernel_rfl) ?_
              replace hS := hS.pickL (.cons (.tail (.tail .head)) (.cons (.tail .head) (.cons .head .nil)))
              replace hS := St.sep [blk b14 (.cells [.slice oaB7 vB6.length capB8, .int .i64 vB12].toArray 61 (0, 0)), sla 3 1 oaB7 vB6.length capB8 vsB9] hS
              refine di (i := 3) rfl <| c1 hF rfl Tryd.call37 (code_list_take__m0_61_0_o_c (St.le hS) (p1 := (code_pile.mk (code_list.mk vB6) vB12)) (b2 := b14) (oa3 := oaB7) (cap4 := capB8) (vs5 := vsB9) hvB10 (St.sepOk hS) (St.sepDis hS) h40) ⟨rfl, trivial⟩ (fun v w a hR hF => ?_)
              obtain ⟨oa41, cap42, vs43, rfl, hv44, hk⟩ := hR
              replace hS := (hS.mut hk .head).unsep
              clear hk
              replace hv44 := hv44 HB1
              refine ⟨fun _ => (St.ldsX hS (fun _ _ h => h) (fun _ h => (.tail _ (.tail _ h)))), ?_⟩
              refine da1 (i := 4) (by kernel_rfl) ?_
              refine di (i := 4) rfl <| c1 hF rfl Tryd.call36 (words_One_c (hp_le _) h47) ⟨rfl, rfl, trivial⟩ (fun v w a hR hF => ?_)
              obtain ⟨rfl, hk⟩ := hR
              replace hS := hS.pass hk
              clear hk
              refine ⟨fun _ => (St.ldsX hS (fun _ _ h => h) (fun _ h => (.tail _ (.tail _ h)))), ?_⟩
              refine d1 (i := 5) rfl (by kernel_rfl) (by kernel_rfl) (St.ldsX hS (fun _ _ h => h) (fun _ h => (.tail _ (.tail _ h)))) hF rfl (fun _ _ _ h => h) (fun w hl => (e_move hF rfl)) fun a hF => ?_
              refine d1 (i := 6) rfl (by kernel_rfl) (by kernel_rfl) (St.ldsX hS (fun _ _ h => h) (fun _ h => (.tail _ (.tail _ h)))) hF rfl (fun _ _ _ h => h) (fun w hl => (e_ext hF rfl rfl)) fun a hF => ?_
              refine d1 (i := 7) rfl (by kernel_rfl) (by kernel_rfl) (St.ldsX hS (fun _ _ h => h) (fun _ h => (.tail _ (.tail _ h)))) hF rfl (fun _ _ _ h => h) (fun w hl => (e_ext hF rfl rfl)) fun a hF => ?_
              refine d1 (i := 8) rfl (by kernel_rfl) (by kernel_rfl) (St.ldsX hS (fun _ _ h => h) (fun _ h => (.tail _ (.tail _ h)))) hF rfl (fun _ _ _ h => h) (fun w hl => (e_asg hF rfl)) fun a hF => ?_
              refine d1 (i := 9) rfl (by kernel_rfl) (by kernel_rfl) (St.ldsX hS (fun _ _ h => h) (fun _ h => (.tail _ (.tail _ h)))) hF rfl (fun _ _ _ h => h) (fun w hl => (e_asg hF rfl)) fun a hF => ?_
              refine de (by kernel_rfl) <| ?_
              refine tn <| ?_
              replace hm := bind_some hm
              obtain ⟨r48, h49, hm⟩ := hm
              refine rg <| ?_
              refine ls <| q1 hF rfl (e_move hF rfl) fun a hF => ?_
              replace hS := hS.pickL (.cons .head (.cons .head (.cons .head .nil)))
              replace hS := St.sep [blk b14 (.cells [.slice oa41 r39.2.list.l.length cap42, .int .i64 r39.2.high].toArray 61 (0, 0)), sla 3 1 oa41 r39.2.list.l.length cap42 vs43] hS
              refine ls <| c1 hF rfl Tryd.call35 (code_pile_up__m0_61_o_c (St.le hS) (p1 := r39.2) (b2 := b14) (oa3 := oa41) (cap4 := cap42) (vs5 := vs43) hv44 (St.sepOk hS) (St.sepDis hS) h49) ⟨rfl, rfl, trivial⟩ (fun v w a hR hF => ?_)
              obtain ⟨oa50, cap51, vs52, rfl, hv53, hk⟩ := hR
              replace hS := (hS.mut hk .head).unsep
              clear hk
              replace hv53 := hv53 HB1
              refine re <| ?_
              refine bn <| bn <| tn <| ?_
              replace hS := hS.pickL (.cons (.tail .head) (.cons .head .nil))
              exact ⟨r48.list.l, r48.high, oa50, cap51, vs52, hm, hF.has ⟨rfl, rfl, rfl, rfl, rfl, trivial⟩, hS, hv53⟩
            ·
              replace hm := itp_f hm hb38
              refine tn <| cfv hF rfl hb38 <| th <| ?_
              replace hm := bind_some hm
              obtain ⟨r55, h56, hm⟩ := hm
              refine rg <| ?_
              refine ls <| q1 hF rfl (e_fa hF fa61_0 rfl) fun a hF => ?_
              replace hS := hS.pickL (.cons (.tail (.tail .head)) (.cons (.tail .head) (.cons .head .nil)))
              replace hS := St.sep [blk b14 (.cells [.slice oaB7 vB6.length capB8, .int .i64 vB12].toArray 61 (0, 0)), sla 3 1 oaB7 vB6.length capB8 vsB9] hS
              refine ls <| c1 hF rfl Tryd.call37 (code_list_take__m0_61_0_o_c (St.le hS) (p1 := (code_pile.mk (code_list.mk vB6) vB12)) (b2 := b14) (oa3 := oaB7) (cap4 := capB8) (vs5 := vsB9) hvB10 (St.sepOk hS) (St.sepDis hS) h56) ⟨rfl, trivial⟩ (fun v w a hR hF => ?_)
              obtain ⟨oa57, cap58, vs59, rfl, hv60, hk⟩ := hR
              replace hS := (hS.mut hk .head).unsep
              clear hk
              replace hv60 := hv60 HB1
              refine ls <| q1 hF rfl (e_asg hF rfl) fun a hF => ?_
              refine re <| ?_
              refine tn <| th <| ?_
              replace hm := bind_some hm
              obtain ⟨r62, h63, hm⟩ := hm
              replace hm := bind_some hm
              obtain ⟨r69, h70, hm⟩ := hm
              refine rdL (sub_cons (.tail _ (.tail _ (.head _))) sub_nil) 11 hS wide fun w hS => ?_
              refine d1 (i := 0) rfl (by kernel_rfl) (by kernel_rfl) (St.ldsX hS (fun _ _ h => h) (fun _ h => (.tail _ (.tail _ h)))) hF rfl (fun _ _ _ h => h) (fun w hl => (e_fa hF fa46_0 rfl)) fun a hF => ?_
              refine d1 (i := 1) rfl (by kernel_rfl) (by kernel_rfl) (St.ldsX hS (fun _ _ h => h) (fun _ h => (.tail _ (.tail _ h)))) hF rfl (fun _ _ _ h => h) (fun w hl => (e_ld hF Tryd.isAgg3 rfl (hl.cellB (.head _) rfl))) fun a hF => ?_
              refine d1 (i := 2) rfl (by kernel_rfl) (by kernel_rfl) (St.ldsX hS (fun _ _ h => h) (fun _ h => (.tail _ (.tail _ h)))) hF rfl (fun _ _ _ h => h) (fun w hl => (e_fa hF fa61_0 rfl)) fun a hF => ?_
              refine d1 (i := 4) rfl (by kernel_rfl) (by kernel_rfl) (St.ldsX hS (fun _ _ h => h) (fun _ h => (.tail _ (.tail _ h)))) hF rfl (fun _ _ _ h => h) (fun w hl => (e_move hF rfl)) fun a hF => ?_
              refine da1 (i := 3) (by kernel_rfl) ?_
              replace hS := hS.pickL (.cons .head (.cons .head (.cons .head .nil)))
              replace hS := St.sep [blk b14 (.cells [.slice oa57 r55.2.list.l.length cap58, .int .i64 r55.2.high].toArray 61 (0, 0)), sla 3 1 oa57 r55.2.list.l.length cap58 vs59] hS
              refine di (i := 3) rfl <| c1 hF rfl Tryd.call37 (code_list_take__m0_61_0_o_c (St.le hS) (p1 := r55.2) (b2 := b14) (oa3 := oa57) (cap4 := cap58) (vs5 := vs59) hv60 (St.sepOk hS) (St.sepDis hS) h63) ⟨rfl, trivial⟩ (fun v w a hR hF => ?_)
              obtain ⟨oa64, cap65, vs66, rfl, hv67, hk⟩ := hR
              replace hS := (hS.mut hk .head).unsep
              clear hk
              replace hv67 := hv67 HB1
              refine ⟨fun _ => (St.ldsX hS (fun _ _ h => h) (fun _ h => (.tail _ (.tail _ h)))), ?_⟩
              refine da1 (i := 5) (by kernel_rfl) ?_
              refine di (i := 5) rfl <| c1 hF rfl Tryd.call38 (words_Two_c (hp_le _) h70) ⟨rfl, rfl, rfl, trivial⟩ (fun v w a hR hF => ?_)
              obtain ⟨rfl, hk⟩ := hR
              replace hS := hS.pass hk
              clear hk
              refine ⟨fun _ => (St.ldsX hS (fun _ _ h => h) (fun _ h => (.tail _ (.tail _ h)))), ?_⟩
              refine d1 (i := 6) rfl (by kernel_rfl) (by kernel_rfl) (St.ldsX hS (fun _ _ h => h) (fun _ h => (.tail _ (.tail _ h)))) hF rfl (fun _ _ _ h => h) (fun w hl => (e_move hF rfl)) fun a hF => ?_
              refine d1 (i := 7) rfl (by kernel_rfl) (by kernel_rfl) (St.ldsX hS (fun _ _ h => h) (fun _ h => (.tail _ (.tail _ h)))) hF rfl (fun _ _ _ h => h) (fun w hl => (e_ext hF rfl rfl)) fun a hF => ?_
              refine d1 (i := 8) rfl (by kernel_rfl) (by kernel_rfl) (St.ldsX hS (fun _ _ h => h) (fun _ h => (.tail _ (.tail _ h)))) hF rfl (fun _ _ _ h => h) (fun w hl => (e_ext hF rfl rfl)) fun a hF => ?_
              refine d1 (i := 9) rfl (by kernel_rfl) (by kernel_rfl) (St.ldsX hS (fun _ _ h => h) (fun _ h => (.tail _ (.tail _ h)))) hF rfl (fun _ _ _ h => h) (fun w hl => (e_asg hF rfl)) fun a hF => ?_
              refine d1 (i := 10) rfl (by kernel_rfl) (by kernel_rfl) (St.ldsX hS (fun _ _ h => h) (fun _ h => (.tail _ (.tail _ h)))) hF rfl (fun _ _ _ h => h) (fun w hl => (e_asg hF rfl)) fun a hF => ?_
              refine de (by kernel_rfl) <| ?_
              refine tn <| th <| th <| ?_
              refine rg <| ?_
              refine ls <| q1 hF rfl (e_move hF rfl) fun a hF => ?_
              refine ls <| q1 hF rfl (e_neq hF rfl rfl) fun a hF => ?_
              refine re <| ?_
              rcases bdich (decide (r69.2 ≠ 0)) with hb71 | hb71
              ·
                replace hm := itp_t hm hb71
                refine tn <| ctv hF rfl hb71 <| th <| ?_
                refine rg <| ?_
                refine ls <| q1 hF rfl (e_move hF rfl) fun a hF => ?_
                refine ls <| q1 hF rfl (e_asg hF rfl) fun a hF => ?_
                refine ls <| q1 hF rfl (e_asg hF rfl) fun a hF => ?_
                refine re <| ?_
                refine tn <| ?_
                refine wp_ret <| tr <| br <| br <| tr <| tr <| br <| tr <| ?_
                obtain rfl := Option.some.inj hm
                exact r2 hF Tryd.results18 rfl rfl ⟨rfl, hS.keep⟩
              ·
                replace hm := itp_f hm hb71
                refine tn <| cfv hF rfl hb71 <| wp_skip <| ?_
                refine tn <| ?_
                replace hm := bind_some hm
                obtain ⟨r72, h73, hm⟩ := hm
                refine rg <| ?_
                refine ls <| q1 hF rfl (e_move hF rfl) fun a hF => ?_
                replace hS := hS.pickL (.cons .head (.cons .head (.cons .head .nil)))
                replace hS := St.sep [blk b14 (.cells [.slice oa64 r62.2.list.l.length cap65, .int .i64 r62.2.high].toArray 61 (0, 0)), sla 3 1 oa64 r62.2.list.l.length cap65 vs66] hS
                refine ls <| c1 hF rfl Tryd.call35 (code_pile_up__m0_61_o_c (St.le hS) (p1 := r62.2) (b2 := b14) (oa3 := oa64) (cap4 := cap65) (vs5 := vs66) hv67 (St.sepOk hS) (St.sepDis hS) h73) ⟨rfl, rfl, trivial⟩ (fun v w a hR hF => ?_)
                obtain ⟨oa74, cap75, vs76, rfl, hv77, hk⟩ := hR
                replace hS := (hS.mut hk .head).unsep
                clear hk
                replace hv77 := hv77 HB1
                refine re <| ?_
                refine bn <| bn <| tn <| ?_
                replace hS := hS.pickL (.cons (.tail .head) (.cons .head .nil))
                exact ⟨r72.list.l, r72.high, oa74, cap75, vs76, hm, hF.has ⟨rfl, rfl, rfl, rfl, rfl, trivial⟩, hS, hv77⟩
        clear hm hF hS
        rintro a w ⟨vC1, vC7, oaC2, capC3, vsC4, hm, hF, hS, hvC5⟩
        unfold code_Run_j3 at hm
        refine rg <| ?_
        refine ls <| q1 hF rfl (e_add hF rfl rfl) fun a hF => ?_
        refine ls <| q1 hF rfl (e_move hF rfl) fun a hF => ?_
        refine re <| ?_
        refine tn <| ?_
        exact ⟨(nn2, vC1, vC7, (IntKind.i64.wrap (vB17 + 1))), ⟨HB1, oaB2, capB3, oaC2, capC3, vsC4, oaB13, capB14, hm, hxHB1, hF.has ⟨rfl, rfl, rfl, rfl, rfl, trivial⟩, hS, hcB4, hrB5, hvC5, hcB15, hrB16⟩, Nat.lt_succ_self _⟩
      ·
        replace hm := itp_f hm hb15
        refine tn <| th <| cfv hF rfl hb15 <| ?_
        refine wp_exit <| tx <| tx <| bx <| ?_
        refine tn <| ?_
        exact ⟨vB6, vB12, HB1, oaB7, capB8, vsB9, hm, hxHB1, hF.has ⟨rfl, trivial⟩, hS, hvB10⟩
    clear hm hF hS
    rintro a w ⟨vA2, vA8, HA1, oaA3, capA4, vsA5, hm, hxHA1, hF, hS, hvA6⟩
    unfold code_Run_j1 at hm
    refine th <| ?_
    replace hm := bind_some hm
    obtain ⟨r79, h80, hm⟩ := hm
    refine rg <| ?_
    refine ls <| q1 hF rfl (e_fa hF fa61_0 rfl) fun a hF => ?_
    replace hS := hS.pickL (.cons (.tail .head) (.cons .head .nil))
    replace hS := St.sep [blk b14 (.cells [.slice oaA3 vA2.length capA4, .int .i64 vA8].toArray 61 (0, 0)), sla 3 1 oaA3 vA2.length capA4 vsA5] hS
    refine ls <| c1 hF rfl Tryd.call37 (code_list_take__m0_61_0_o_c (St.le hS) (p1 := (code_pile.mk (code_list.mk vA2) vA8)) (b2 := b14) (oa3 := oaA3) (cap4 := capA4) (vs5 := vsA5) hvA6 (St.sepOk hS) (St.sepDis hS) h80) ⟨rfl, trivial⟩ (fun v w a hR hF => ?_)
    obtain ⟨oa81, cap82, vs83, rfl, hv84, hk⟩ := hR
    replace hS := (hS.mut hk .head).unsep
    clear hk
    replace hv84 := hv84 HA1
    refine ls <| q1 hF rfl (e_asg hF rfl) fun a hF => ?_
    refine ls <| q1 hF rfl (e_asg hF rfl) fun a hF => ?_
    refine re <| ?_
    refine tn <| ?_
    refine wp_ret <| ?_
    obtain rfl := Option.some.inj hm
    exact r2 hF Tryd.results18 rfl rfl ⟨rfl, hS.keep⟩
  ·
    replace hm := ite_f hm hb13
    refine tn <| ctv hF rfl (by rw [hb13]; rfl) <| th <| ?_
    refine rg <| ?_
    refine ls <| q1 hF rfl (e_asg hF rfl) fun a hF => ?_
    refine ls <| q1 hF rfl (e_asg hF rfl) fun a hF => ?_
    refine re <| ?_
    refine tn <| ?_
    refine wp_ret <| tr <| ?_
    obtain rfl := Option.some.inj hm
    exact r2 hF Tryd.results18 rfl rfl ⟨rfl, hS.keep⟩

set_option maxRecDepth 100000 in
theorem code_Value_c {N : Nat} {w0 : World} {H : PH} (hH : H.le w0) (hT : Tab H) {oa2 : Option Addr} {cap3 : Nat} {p1 : (List api_Node)} (hc4 : p1.length ≤ cap3) (hr5 : SR H oa2 p1) {oa7 : Option Addr} {cap8 : Nat} {p6 : (List Str)} (hc9 : p6.length ≤ cap8) (hr10 : SR H oa7 p6) {oa12 : Option Addr} {cap13 : Nat} {p11 : (List Int)} (hc14 : p11.length ≤ cap13) (hr15 : SR H oa12 p11) {r : (Int × Int)} (hm : code_Value N p1 p6 p11 = some r) : Tot Tryd.prog 15 #[.slice oa2 p1.length cap3, .slice oa7 p6.length cap8, .slice oa12 p11.length cap13] w0 (fun v w' => v = .tuple #[.int .i64 r.1, .int .i64 r.2] ∧ Keep Nil w0 w') := by
  unfold code_Value at hm
  refine fn0 (args := [.slice oa2 p1.length cap3, .slice oa7 p6.length cap8, .slice oa12 p11.length cap13]) (F := [(0, .slice oa2 p1.length cap3), (1, .slice oa7 p6.length cap8), (2, .slice oa12 p11.length cap13)]) Tryd.func15 rfl Tryd.ntmps15 rfl rfl fun a hF => ?_
  have hS : St w0 Nil [H] [] w0 := start1 hH
  refine th <| ?_
  refine rg <| ?_
  refine ls <| q1 hF rfl (e_asg hF rfl) fun a hF => ?_
  refine ls <| q1 hF rfl (e_asg hF rfl) fun a hF => ?_
  refine re <| ?_
  refine tn <| th <| th <| ?_
  refine rg <| ?_
  refine ls <| q1 hF rfl (e_move hF rfl) fun a hF => ?_
  refine ls <| q1 hF rfl (e_lenL (α := Str) (xs := p6) hF Tryd.runUnderlying23 rfl) fun a hF => ?_
  refine ls <| q1 hF rfl (e_move hF rfl) fun a hF => ?_
  refine ls <| q1 hF rfl (e_lenL (α := Int) (xs := p11) hF Tryd.runUnderlying33 rfl) fun a hF => ?_
  refine ls <| q1 hF rfl (e_neq hF rfl rfl) fun a hF => ?_
  refine re <| ?_
  rcases bdich (decide ((p6.length : Int) ≠ (p11.length : Int))) with hb16 | hb16
  ·
    replace hm := itp_t hm hb16
    refine tn <| ctv hF rfl hb16 <| th <| ?_
    refine rg <| ?_
    refine ls <| q1 hF rfl (e_asg hF rfl) fun a hF => ?_
    refine ls <| q1 hF rfl (e_asg hF rfl) fun a hF => ?_
    refine re <| ?_
    refine tn <| ?_
    refine wp_ret <| tr <| ?_
    obtain rfl := Option.some.inj hm
    exact r2 hF Tryd.results15 rfl rfl ⟨rfl, hS.keep⟩
  ·
    replace hm := itp_f hm hb16
    refine tn <| cfv hF rfl hb16 <| wp_skip <| ?_
    refine tn <| th <| ?_
    replace hm := bind_some hm
    obtain ⟨r17, h18, hm⟩ := hm
    refine rg <| ?_
    refine ls <| q1 hF rfl (e_move hF rfl) fun a hF => ?_
    refine ls <| q1 hF rfl (e_move hF rfl) fun a hF => ?_
    refine ls <| c1 hF rfl Tryd.call11 (code_Make_c (hp_le _) (Tab.mono hT (St.up hS)) hc4 (St.srH hS hr5) hc9 (St.srH hS hr10) h18) ⟨rfl, rfl, trivial⟩ (fun v w a hR hF => ?_)
    obtain ⟨oa19, cap20, vs21, rfl, hv22, hk⟩ := hR
    replace hS := hS.fresh hk
    clear hk
    replace hv22 := hv22 H
    refine ls <| q1 hF rfl (e_move hF rfl) fun a hF => ?_
    refine ls <| q1 hF rfl (e_ext hF rfl rfl) fun a hF => ?_
    refine ls <| q1 hF rfl (e_ext hF rfl rfl) fun a hF => ?_
    refine ls <| q1 hF rfl (e_asg hF rfl) fun a hF => ?_
    refine ls <| q1 hF rfl (e_asg hF rfl) fun a hF => ?_
    refine re <| ?_
    refine tn <| th <| th <| ?_
    refine rg <| ?_
    refine ls <| q1 hF rfl (e_move hF rfl) fun a hF => ?_
    refine ls <| q1 hF rfl (e_neq hF rfl rfl) fun a hF => ?_
    refine re <| ?_
    rcases bdich (decide (r17.2 ≠ 0)) with hb24 | hb24
    ·
      replace hm := itp_t hm hb24
      refine tn <| ctv hF rfl hb24 <| th <| ?_
      refine rg <| ?_
      refine ls <| q1 hF rfl (e_move hF rfl) fun a hF => ?_
      refine ls <| q1 hF rfl (e_asg hF rfl) fun a hF => ?_
      refine ls <| q1 hF rfl (e_asg hF rfl) fun a hF => ?_
      refine re <| ?_
      refine tn <| ?_
      refine wp_ret <| tr <| ?_
      obtain rfl := Option.some.inj hm
      exact r2 hF Tryd.results15 rfl rfl ⟨rfl, hS.keep⟩
    ·
      replace hm := itp_f hm hb24
      refine tn <| cfv hF rfl hb24 <| wp_skip <| ?_
      refine tn <| th <| ?_
      replace hm := bind_some hm
      obtain ⟨r25, h26, hm⟩ := hm
      refine rg <| ?_
      refine ls <| q1 hF rfl (e_move hF rfl) fun a hF => ?_
      refine ls <| q1 hF rfl (e_move hF rfl) fun a hF => ?_
      refine ls <| c1 hF rfl Tryd.call18 (code_Run_c (hp_le _) (St.capO hS (.head _)) (St.srO hS (.head _) hv22) hc14 (St.srH hS hr15) h26) ⟨rfl, rfl, trivial⟩ (fun v w a hR hF => ?_)
      obtain ⟨rfl, hk⟩ := hR
      replace hS := hS.pass hk
      clear hk
      refine ls <| q1 hF rfl (e_ext hF rfl rfl) fun a hF => ?_
      refine ls <| q1 hF rfl (e_ext hF rfl rfl) fun a hF => ?_
      refine ls <| q1 hF rfl (e_asg hF rfl) fun a hF => ?_
      refine ls <| q1 hF rfl (e_asg hF rfl) fun a hF => ?_
      refine re <| ?_
      refine tn <| ?_
      refine wp_ret <| ?_
      obtain rfl := Option.some.inj hm
      exact r2 hF Tryd.results15 rfl rfl ⟨rfl, hS.keep⟩

set_option maxRecDepth 100000 in
theorem code_High_c {N : Nat} {w0 : World} {H : PH} (hH : H.le w0) {oa2 : Option Addr} {cap3 : Nat} {p1 : (List api_Op)} (hc4 : p1.length ≤ cap3) (hr5 : SR H oa2 p1) {r : Int} (hm : code_High N p1 = some r) : Tot Tryd.prog 20 #[.slice oa2 p1.length cap3] w0 (fun v w' => v = .int .i64 r ∧ Keep Nil w0 w') := by
  unfold code_High at hm
  refine fn0 (args := [.slice oa2 p1.length cap3]) (F := [(0, .slice oa2 p1.length cap3)]) Tryd.func20 rfl Tryd.ntmps20 rfl rfl fun a hF => ?_
  have hS : St w0 Nil [H] [] w0 := start1 hH
  refine th <| ?_
  refine rg <| ?_
  refine ls <| q1 hF rfl (e_asg hF rfl) fun a hF => ?_
  refine re <| ?_
  refine tn <| th <| ?_
  replace hm := bind_some hm
  obtain ⟨r6, h7, hm⟩ := hm
  refine rg <| ?_
  refine ls <| q1 hF rfl (e_move hF rfl) fun a hF => ?_
  refine ls <| c1 hF rfl Tryd.call40 (code_heights_c (hp_le _) hc4 (St.srH hS hr5) h7) ⟨rfl, trivial⟩ (fun v w a hR hF => ?_)
  obtain ⟨rfl, hk⟩ := hR
  replace hS := hS.pass hk
  clear hk
  refine ls <| q1 hF rfl (e_move hF rfl) fun a hF => ?_
  refine ls <| q1 hF rfl (e_ext hF rfl rfl) fun a hF => ?_
  refine ls <| q1 hF rfl (e_ext hF rfl rfl) fun a hF => ?_
  refine ls <| q1 hF rfl (e_ext hF rfl rfl) fun a hF => ?_
  refine ls <| q1 hF rfl (e_asg hF rfl) fun a hF => ?_
  refine ls <| q1 hF rfl (e_asg hF rfl) fun a hF => ?_
  refine ls <| q1 hF rfl (e_asg hF rfl) fun a hF => ?_
  refine re <| ?_
  refine tn <| th <| ?_
  refine rg <| ?_
  refine ls <| q1 hF rfl (e_move hF rfl) fun a hF => ?_
  refine ls <| q1 hF rfl (e_asg hF rfl) fun a hF => ?_
  refine re <| ?_
  refine tn <| ?_
  refine wp_ret <| ?_
  obtain rfl := Option.some.inj hm
  exact r1 hF Tryd.results20 rfl ⟨rfl, hS.keep⟩

set_option maxRecDepth 100000 in
theorem slices_Equal_api_Op_api_Op_c {N : Nat} {w0 : World} {H : PH} (hH : H.le w0) {oa2 : Option Addr} {cap3 : Nat} {p1 : (List api_Op)} (hc4 : p1.length ≤ cap3) (hr5 : SR H oa2 p1) {oa7 : Option Addr} {cap8 : Nat} {p6 : (List api_Op)} (hc9 : p6.length ≤ cap8) (hr10 : SR H oa7 p6) {r : Bool} (hm : slices_Equal_api_Op_api_Op N p1 p6 = some r) : Tot Tryd.prog 55 #[.slice oa2 p1.length cap3, .slice oa7 p6.length cap8] w0 (fun v w' => v = .bool r ∧ Keep Nil w0 w') := by
  unfold slices_Equal_api_Op_api_Op at hm
  refine fn0 (args := [.slice oa2 p1.length cap3, .slice oa7 p6.length cap8]) (F := [(0, .slice oa2 p1.length cap3), (1, .slice oa7 p6.length cap8)]) Tryd.func55 rfl Tryd.ntmps55 rfl rfl fun a hF => ?_
  have hS : St w0 Nil [H] [] w0 := start1 hH
  refine th <| ?_
  refine rg <| ?_
  refine ls <| q1 hF rfl (e_asg hF rfl) fun a hF => ?_
  refine re <| ?_
  refine tn <| th <| th <| ?_
  refine rg <| ?_
  refine ls <| q1 hF rfl (e_move hF rfl) fun a hF => ?_
  refine ls <| q1 hF rfl (e_lenL (α := api_Op) (xs := p1) hF Tryd.runUnderlying26 rfl) fun a hF => ?_
  refine ls <| q1 hF rfl (e_move hF rfl) fun a hF => ?_
  refine ls <| q1 hF rfl (e_lenL (α := api_Op) (xs := p6) hF Tryd.runUnderlying26 rfl) fun a hF => ?_
  refine ls <| q1 hF rfl (e_neq hF rfl rfl) fun a hF => ?_
  refine re <| ?_
  rcases bdich (decide ((p1.length : Int) ≠ (p6.length : Int))) with hb11 | hb11
  ·
    replace hm := itp_t hm hb11
    refine tn <| ctv hF rfl hb11 <| th <| ?_
    refine rg <| ?_
    refine ls <| q1 hF rfl (e_asg hF rfl) fun a hF => ?_
    refine re <| ?_
    refine tn <| ?_
    refine wp_ret <| tr <| ?_
    obtain rfl := Option.some.inj hm
    exact r1 hF Tryd.results55 rfl ⟨rfl, hS.keep⟩
  ·
    replace hm := itp_f hm hb11
    refine tn <| cfv hF rfl hb11 <| wp_skip <| ?_
    refine tn <| th <| th <| ?_
    refine rg <| ?_
    refine ls <| q1 hF rfl (e_move hF rfl) fun a hF => ?_
    refine ls <| q1 hF rfl (e_lenL (α := api_Op) (xs := p1) hF Tryd.runUnderlying26 rfl) fun a hF => ?_
    refine ls <| q1 hF rfl (e_move hF rfl) fun a hF => ?_
    refine re <| ?_
    refine tn <| midK (fun a w => ∃ (HA1 : PH), slices_Equal_api_Op_api_Op_j1 = some r ∧ Ext w0 H HA1 ∧ Fr 26 [] a ∧ St w0 Nil [HA1] [] w) ?_ ?_
    ·
      refine wp_block <| lp (α := Nat × Int) (fun (gh : Nat × Int) a w => match gh with | (nn2, vB10) => ∃ (HB1 : PH) (oaB2 : Option Addr) (capB3 : Nat) (oaB6 : Option Addr) (capB7 : Nat), (slices_Equal_api_Op_api_Op_l2 N slices_Equal_api_Op_api_Op_j1 p1 p6) nn2 vB10 = some r ∧ Ext w0 H HB1 ∧ Fr 26 [(0, .slice oaB2 p1.length capB3), (1, .slice oaB6 p6.length capB7), (12, .int .i64 (p1.length : Int)), (13, .int .i64 vB10)] a ∧ St w0 Nil [HB1] [] w ∧ p1.length ≤ capB3 ∧ SR HB1 oaB2 p1 ∧ p6.length ≤ capB7 ∧ SR HB1 oaB6 p6) (fun gh => gh.1) (N, 0) ⟨H, oa2, cap3, oa7, cap8, hm, (Ext.refl _ _), hF.has ⟨rfl, rfl, rfl, rfl, trivial⟩, hS, hc4, hr5, hc9, hr10⟩ ?_
      clear hm hF hS
      rintro ⟨nn2, vB10⟩ a w ⟨HB1, oaB2, capB3, oaB6, capB7, hm, hxHB1, hF, hS, hcB4, hrB5, hcB8, hrB9⟩
      obtain _ | nn2 := nn2
      · simp [slices_Equal_api_Op_api_Op_l2] at hm
      rw [slices_Equal_api_Op_api_Op_l2] at hm
      refine th <| ?_
      refine rg <| ?_
      refine ls <| q1 hF rfl (e_lss hF rfl rfl) fun a hF => ?_
      refine re <| ?_
      rcases bdich (decide (vB10 < (p1.length : Int))) with hb12 | hb12
      ·
        replace hm := itp_t hm hb12
        refine tn <| th <| ctv hF rfl hb12 <| wp_skip <| ?_
        refine tn <| th <| wp_block <| th <| ?_
        refine rg <| ?_
        refine ls <| q1 hF rfl (e_move hF rfl) fun a hF => ?_
        refine ls <| q1 hF rfl (e_asg hF rfl) fun a hF => ?_
        refine re <| ?_
        refine tn <| th <| ?_
        replace hm := bind_some hm
        obtain ⟨x13, h14, hm⟩ := hm
        obtain ⟨c15, g16, hl17⟩ := SR.get hrB5 h14
        obtain rfl := api_Op_open g16
        replace hm := bind_some hm
        obtain ⟨x18, h19, hm⟩ := hm
        obtain ⟨c20, g21, hl22⟩ := SR.get hrB9 h19
        obtain rfl := api_Op_open g21
        refine rxS 9 hS wide (by kernel_rfl) fun w hS => ?_
        refine x1 (St.ld hS) hF rfl rfl (fun _ _ _ h => h) (fun w hl => (e_move hF rfl)) fun a hF => ?_
        refine x1 (St.ld hS) hF rfl rfl (fun _ _ _ h => h) (fun w hl => (e_move hF rfl)) fun a hF => ?_
        refine x1 (St.ld hS) hF rfl rfl (fun _ _ _ h => h) (fun w hl => (e_iaI hF Tryd.runUnderlying26 Tryd.sizeOf46 rfl rfl h14 (SR.oaI hrB5 (by decide) h14))) fun a hF => ?_
        refine x1 (St.ld hS) hF rfl rfl (fun _ _ _ h => h) (fun w hl => (e_ldA hF Tryd.isAgg46 Tryd.sizeOf46 rfl rfl (fun j v hj => PH.le.cell (Lds.le hl) (hl17 j v hj)))) fun a hF => ?_
        refine x1 (St.ld hS) hF rfl rfl (fun _ _ _ h => h) (fun w hl => (e_move hF rfl)) fun a hF => ?_
        refine x1 (St.ld hS) hF rfl rfl (fun _ _ _ h => h) (fun w hl => (e_move hF rfl)) fun a hF => ?_
        refine x1 (St.ld hS) hF rfl rfl (fun _ _ _ h => h) (fun w hl => (e_iaI hF Tryd.runUnderlying26 Tryd.sizeOf46 rfl rfl h19 (SR.oaI hrB9 (by decide) h19))) fun a hF => ?_
        refine x1 (St.ld hS) hF rfl rfl (fun _ _ _ h => h) (fun w hl => (e_ldA hF Tryd.isAgg46 Tryd.sizeOf46 rfl rfl (fun j v hj => PH.le.cell (Lds.le hl) (hl22 j v hj)))) fun a hF => ?_
        refine x1 (St.ld hS) hF rfl rfl (fun _ _ _ h => h) (fun w hl => (api_Op_neq (x := x13) (y := x18) hF rfl rfl)) fun a hF => ?_
        refine xe <| ?_
        rcases bdich (decide (x13 ≠ x18)) with hb23 | hb23
        ·
          replace hm := itp_t hm hb23
          refine tn <| ctv hF rfl hb23 <| th <| ?_
          refine rg <| ?_
          refine ls <| q1 hF rfl (e_asg hF rfl) fun a hF => ?_
          refine re <| ?_
          refine tn <| ?_
          refine wp_ret <| br <| tr <| tr <| br <| tr <| ?_
          obtain rfl := Option.some.inj hm
          exact r1 hF Tryd.results55 rfl ⟨rfl, hS.keep⟩
        ·
          replace hm := itp_f hm hb23
          refine tn <| cfv hF rfl hb23 <| wp_skip <| ?_
          refine bn <| tn <| ?_
          refine rg <| ?_
          refine ls <| q1 hF rfl (e_add hF rfl rfl) fun a hF => ?_
          refine ls <| q1 hF rfl (e_move hF rfl) fun a hF => ?_
          refine re <| ?_
          refine tn <| ?_
          exact ⟨(nn2, (IntKind.i64.wrap (vB10 + 1))), ⟨HB1, oaB2, capB3, oaB6, capB7, hm, hxHB1, hF.has ⟨rfl, rfl, rfl, rfl, trivial⟩, hS, hcB4, hrB5, hcB8, hrB9⟩, Nat.lt_succ_self _⟩
      ·
        replace hm := itp_f hm hb12
        refine tn <| th <| cfv hF rfl hb12 <| ?_
        refine wp_exit <| tx <| tx <| bx <| ?_
        refine tn <| ?_
        exact ⟨HB1, hm, hxHB1, hF.has trivial, hS⟩
    clear hm hF hS
    rintro a w ⟨HA1, hm, hxHA1, hF, hS⟩
    unfold slices_Equal_api_Op_api_Op_j1 at hm
    refine th <| ?_
    refine rg <| ?_
    refine ls <| q1 hF rfl (e_asg hF rfl) fun a hF => ?_
    refine re <| ?_
    refine tn <| ?_
    refine wp_ret <| ?_
    obtain rfl := Option.some.inj hm
    exact r1 hF Tryd.results55 rfl ⟨rfl, hS.keep⟩

set_option maxRecDepth 100000 in
theorem code_Same_c {N : Nat} {w0 : World} {H : PH} (hH : H.le w0) {oa2 : Option Addr} {cap3 : Nat} {p1 : (List api_Op)} (hc4 : p1.length ≤ cap3) (hr5 : SR H oa2 p1) {oa7 : Option Addr} {cap8 : Nat} {p6 : (List api_Op)} (hc9 : p6.length ≤ cap8) (hr10 : SR H oa7 p6) {r : Bool} (hm : code_Same N p1 p6 = some r) : Tot Tryd.prog 32 #[.slice oa2 p1.length cap3, .slice oa7 p6.length cap8] w0 (fun v w' => v = .bool r ∧ Keep Nil w0 w') := by
  unfold code_Same at hm
  refine fn0 (args := [.slice oa2 p1.length cap3, .slice oa7 p6.length cap8]) (F := [(0, .slice oa2 p1.length cap3), (1, .slice oa7 p6.length cap8)]) Tryd.func32 rfl Tryd.ntmps32 rfl rfl fun a hF => ?_
  have hS : St w0 Nil [H] [] w0 := start1 hH
  refine th <| ?_
  refine rg <| ?_
  refine ls <| q1 hF rfl (e_asg hF rfl) fun a hF => ?_
  refine re <| ?_
  refine tn <| th <| ?_
  replace hm := bind_some hm
  obtain ⟨r11, h12, hm⟩ := hm
  refine rg <| ?_
  refine ls <| q1 hF rfl (e_move hF rfl) fun a hF => ?_
  refine ls <| q1 hF rfl (e_move hF rfl) fun a hF => ?_
  refine ls <| c1 hF rfl Tryd.call55 (slices_Equal_api_Op_api_Op_c (hp_le _) hc4 (St.srH hS hr5) hc9 (St.srH hS hr10) h12) ⟨rfl, rfl, trivial⟩ (fun v w a hR hF => ?_)
  obtain ⟨rfl, hk⟩ := hR
  replace hS := hS.pass hk
  clear hk
  refine ls <| q1 hF rfl (e_asg hF rfl) fun a hF => ?_
  refine re <| ?_
  refine tn <| ?_
  refine wp_ret <| ?_
  obtain rfl := Option.some.inj hm
  exact r1 hF Tryd.results32 rfl ⟨rfl, hS.keep⟩

set_option maxRecDepth 100000 in
theorem leadlinelaw08_fixed_c {N : Nat} {w0 : World} {H : PH} (hH : H.le w0) (hT : Tab H)  {r : Bool} (hm : leadlinelaw08_fixed N  = some r) : Tot Tryd.prog 14 #[] w0 (fun v w' => v = .bool r ∧ Keep Nil w0 w') := by
  unfold leadlinelaw08_fixed at hm
  refine fn0 (args := []) (F := []) Tryd.func14 rfl Tryd.ntmps14 rfl rfl fun a hF => ?_
  have hS : St w0 Nil [H] [] w0 := start1 hH
  refine th <| ?_
  refine rg <| ?_
  refine ls <| q1 hF rfl (e_asg hF rfl) fun a hF => ?_
  refine re <| ?_
  refine tn <| th <| ?_
  refine rg <| ?_
  refine ls <| q1 hF rfl (e_bldK [.int .i64 5] [.int .i64 5, .int .i64 0, strv [], .int .i64 0] hF ⟨rfl, trivial⟩ (fun w => by kernel_rfl)) fun a hF => ?_
  refine ls <| q1 hF rfl (e_bldK [.int .i64 2, strv [97]] [.int .i64 2, .int .i64 0, strv [97], .int .i64 0] hF ⟨rfl, rfl, trivial⟩ (fun w => by kernel_rfl)) fun a hF => ?_
  refine ls <| q1 hF rfl (e_bldK [.int .i64 7] [.int .i64 7, .int .i64 0, strv [], .int .i64 0] hF ⟨rfl, trivial⟩ (fun w => by kernel_rfl)) fun a hF => ?_
  refine ls <| q1 hF rfl (e_bldK [.int .i64 2, strv [98]] [.int .i64 2, .int .i64 0, strv [98], .int .i64 0] hF ⟨rfl, rfl, trivial⟩ (fun w => by kernel_rfl)) fun a hF => ?_
  refine ls <| q1 hF rfl (e_bldK [.int .i64 1, .int .i64 2] [.int .i64 1, .int .i64 2, strv [], .int .i64 0] hF ⟨rfl, rfl, trivial⟩ (fun w => by kernel_rfl)) fun a hF => ?_
  refine ls <| a_bsl (e := 39) (sz := 4) [.int .i64 5, .int .i64 0, strv [], .int .i64 0, .int .i64 2, .int .i64 0, strv [97], .int .i64 0, .int .i64 7, .int .i64 0, strv [], .int .i64 0, .int .i64 2, .int .i64 0, strv [98], .int .i64 0, .int .i64 1, .int .i64 2, strv [], .int .i64 0] hF rfl hS rfl rfl rfl (fun w => by kernel_rfl) fun b2 w a hS hF => ?_
  have hv1 : Rows (α := api_Node) H [.int .i64 5, .int .i64 0, strv [], .int .i64 0, .int .i64 2, .int .i64 0, strv [97], .int .i64 0, .int .i64 7, .int .i64 0, strv [], .int .i64 0, .int .i64 2, .int .i64 0, strv [98], .int .i64 0, .int .i64 1, .int .i64 2, strv [], .int .i64 0] ([(api_Node.mk 5 0 [] 0), (api_Node.mk 2 0 [97] 0), (api_Node.mk 7 0 [] 0), (api_Node.mk 2 0 [98] 0), (api_Node.mk 1 2 [] 0)] : List api_Node) := (.cons (c := [.int .i64 5, .int .i64 0, strv [], .int .i64 0]) ⟨_, _, rfl, rfl, ⟨_, _, rfl, rfl, ⟨_, _, rfl, rfl, rfl⟩⟩⟩ (.cons (c := [.int .i64 2, .int .i64 0, strv [97], .int .i64 0]) ⟨_, _, rfl, rfl, ⟨_, _, rfl, rfl, ⟨_, _, rfl, rfl, rfl⟩⟩⟩ (.cons (c := [.int .i64 7, .int .i64 0, strv [], .int .i64 0]) ⟨_, _, rfl, rfl, ⟨_, _, rfl, rfl, ⟨_, _, rfl, rfl, rfl⟩⟩⟩ (.cons (c := [.int .i64 2, .int .i64 0, strv [98], .int .i64 0]) ⟨_, _, rfl, rfl, ⟨_, _, rfl, rfl, ⟨_, _, rfl, rfl, rfl⟩⟩⟩ (.cons (c := [.int .i64 1, .int .i64 2, strv [], .int .i64 0]) ⟨_, _, rfl, rfl, ⟨_, _, rfl, rfl, ⟨_, _, rfl, rfl, rfl⟩⟩⟩ .nil)))))
  refine ls <| q1 hF rfl (e_asg hF rfl) fun a hF => ?_
  refine re <| ?_
  refine tn <| th <| ?_
  refine rg <| ?_
  refine ls <| a_bsl (e := 9) (sz := 1) [strv [97], strv [98]] hF rfl hS rfl rfl rfl (fun w => by kernel_rfl) fun b5 w a hS hF => ?_
  have hv4 : Rows (α := Str) H [strv [97], strv [98]] ([[97], [98]] : List Str) := (.cons (c := [strv [97]]) rfl (.cons (c := [strv [98]]) rfl .nil))
  refine ls <| q1 hF rfl (e_asg hF rfl) fun a hF => ?_
  refine re <| ?_
  refine tn <| th <| ?_
  replace hm := bind_some hm
  obtain ⟨r7, h8, hm⟩ := hm
  refine rg <| ?_
  refine ls <| q1 hF rfl (e_move hF rfl) fun a hF => ?_
  refine ls <| q1 hF rfl (e_move hF rfl) fun a hF => ?_
  refine ls <| c1 hF rfl Tryd.call11 (code_Make_c (hp_le _) (Tab.mono hT (St.up hS)) (St.capO hS (.tail _ (.head _))) (St.srO hS (.tail _ (.head _)) hv1) (St.capO hS (.head _)) (St.srO hS (.head _) hv4) h8) ⟨rfl, rfl, trivial⟩ (fun v w a hR hF => ?_)
  obtain ⟨oa9, cap10, vs11, rfl, hv12, hk⟩ := hR
  replace hS := hS.fresh hk
  clear hk
  replace hv12 := hv12 H
  refine ls <| q1 hF rfl (e_move hF rfl) fun a hF => ?_
  refine ls <| q1 hF rfl (e_ext hF rfl rfl) fun a hF => ?_
  refine ls <| q1 hF rfl (e_ext hF rfl rfl) fun a hF => ?_
  refine ls <| q1 hF rfl (e_asg hF rfl) fun a hF => ?_
  refine ls <| q1 hF rfl (e_asg hF rfl) fun a hF => ?_
  refine re <| ?_
  refine tn <| th <| ?_
  replace hm := bind_some hm
  obtain ⟨r17, h18, hm⟩ := hm
  refine rg <| ?_
  refine ls <| q1 hF rfl (e_move hF rfl) fun a hF => ?_
  refine ls <| a_bsl (e := 3) (sz := 1) [.int .i64 3, .int .i64 4] hF rfl hS rfl rfl rfl (fun w => by kernel_rfl) fun b15 w a hS hF => ?_
  have hv14 : Rows (α := Int) H [.int .i64 3, .int .i64 4] ([3, 4] : List Int) := (.cons (c := [.int .i64 3]) rfl (.cons (c := [.int .i64 4]) rfl .nil))
  refine ls <| c1 hF rfl Tryd.call18 (code_Run_c (hp_le _) (St.capO hS (.tail _ (.head _))) (St.srO hS (.tail _ (.head _)) hv12) (St.capO hS (.head _)) (St.srO hS (.head _) hv14) h18) ⟨rfl, rfl, trivial⟩ (fun v w a hR hF => ?_)
  obtain ⟨rfl, hk⟩ := hR
  replace hS := hS.pass hk
  clear hk
  refine ls <| q1 hF rfl (e_move hF rfl) fun a hF => ?_
  refine ls <| q1 hF rfl (e_ext hF rfl rfl) fun a hF => ?_
  refine ls <| q1 hF rfl (e_ext hF rfl rfl) fun a hF => ?_
  refine ls <| q1 hF rfl (e_asg hF rfl) fun a hF => ?_
  refine ls <| q1 hF rfl (e_asg hF rfl) fun a hF => ?_
  refine re <| ?_
  refine tn <| th <| ?_
  replace hm := bind_some hm
  obtain ⟨r22, h23, hm⟩ := hm
  refine rg <| ?_
  refine ls <| q1 hF rfl (e_move hF rfl) fun a hF => ?_
  refine ls <| q1 hF rfl (e_move hF rfl) fun a hF => ?_
  refine ls <| a_bsl (e := 3) (sz := 1) [.int .i64 3, .int .i64 4] hF rfl hS rfl rfl rfl (fun w => by kernel_rfl) fun b20 w a hS hF => ?_
  have hv19 : Rows (α := Int) H [.int .i64 3, .int .i64 4] ([3, 4] : List Int) := (.cons (c := [.int .i64 3]) rfl (.cons (c := [.int .i64 4]) rfl .nil))
  refine ls <| c1 hF rfl Tryd.call15 (code_Value_c (hp_le _) (Tab.mono hT (St.up hS)) (St.capO hS (.tail _ (.tail _ (.tail _ (.tail _ (.head _)))))) (St.srO hS (.tail _ (.tail _ (.tail _ (.tail _ (.head _))))) hv1) (St.capO hS (.tail _ (.tail _ (.tail _ (.head _))))) (St.srO hS (.tail _ (.tail _ (.tail _ (.head _)))) hv4) (St.capO hS (.head _)) (St.srO hS (.head _) hv19) h23) ⟨rfl, rfl, rfl, trivial⟩ (fun v w a hR hF => ?_)
  obtain ⟨rfl, hk⟩ := hR
  replace hS := hS.pass hk
  clear hk
  refine ls <| q1 hF rfl (e_move hF rfl) fun a hF => ?_
  refine ls <| q1 hF rfl (e_ext hF rfl rfl) fun a hF => ?_
  refine ls <| q1 hF rfl (e_ext hF rfl rfl) fun a hF => ?_
  refine ls <| q1 hF rfl (e_asg hF rfl) fun a hF => ?_
  refine ls <| q1 hF rfl (e_asg hF rfl) fun a hF => ?_
  refine re <| ?_
  refine tn <| th <| ?_
  replace hm := bind_some hm
  obtain ⟨r27, h28, hm⟩ := hm
  refine rg <| ?_
  refine ls <| q1 hF rfl (e_move hF rfl) fun a hF => ?_
  refine ls <| a_bsl (e := 9) (sz := 1) [strv [97]] hF rfl hS rfl rfl rfl (fun w => by kernel_rfl) fun b25 w a hS hF => ?_
  have hv24 : Rows (α := Str) H [strv [97]] ([[97]] : List Str) := (.cons (c := [strv [97]]) rfl .nil)
  refine ls <| c1 hF rfl Tryd.call11 (code_Make_c (hp_le _) (Tab.mono hT (St.up hS)) (St.capO hS (.tail _ (.tail _ (.tail _ (.tail _ (.tail _ (.head _))))))) (St.srO hS (.tail _ (.tail _ (.tail _ (.tail _ (.tail _ (.head _)))))) hv1) (St.capO hS (.head _)) (St.srO hS (.head _) hv24) h28) ⟨rfl, rfl, trivial⟩ (fun v w a hR hF => ?_)
  obtain ⟨oa29, cap30, vs31, rfl, hv32, hk⟩ := hR
  replace hS := hS.fresh hk
  clear hk
  replace hv32 := hv32 H
  refine ls <| q1 hF rfl (e_move hF rfl) fun a hF => ?_
  refine ls <| q1 hF rfl (e_ext hF rfl rfl) fun a hF => ?_
  refine ls <| q1 hF rfl (e_ext hF rfl rfl) fun a hF => ?_
  refine ls <| q1 hF rfl (e_asg hF rfl) fun a hF => ?_
  refine ls <| q1 hF rfl (e_asg hF rfl) fun a hF => ?_
  refine re <| ?_
  refine tn <| th <| ?_
  replace hm := bind_some hm
  obtain ⟨r37, h38, hm⟩ := hm
  refine rg <| ?_
  refine ls <| q1 hF rfl (e_move hF rfl) fun a hF => ?_
  refine ls <| a_bsl (e := 3) (sz := 1) [.int .i64 3] hF rfl hS rfl rfl rfl (fun w => by kernel_rfl) fun b35 w a hS hF => ?_
  have hv34 : Rows (α := Int) H [.int .i64 3] ([3] : List Int) := (.cons (c := [.int .i64 3]) rfl .nil)
  refine ls <| c1 hF rfl Tryd.call18 (code_Run_c (hp_le _) (St.capO hS (.tail _ (.tail _ (.tail _ (.tail _ (.tail _ (.head _))))))) (St.srO hS (.tail _ (.tail _ (.tail _ (.tail _ (.tail _ (.head _)))))) hv12) (St.capO hS (.head _)) (St.srO hS (.head _) hv34) h38) ⟨rfl, rfl, trivial⟩ (fun v w a hR hF => ?_)
  obtain ⟨rfl, hk⟩ := hR
  replace hS := hS.pass hk
  clear hk
  refine ls <| q1 hF rfl (e_move hF rfl) fun a hF => ?_
  refine ls <| q1 hF rfl (e_ext hF rfl rfl) fun a hF => ?_
  refine ls <| q1 hF rfl (e_ext hF rfl rfl) fun a hF => ?_
  refine ls <| q1 hF rfl (e_asg hF rfl) fun a hF => ?_
  refine ls <| q1 hF rfl (e_asg hF rfl) fun a hF => ?_
  refine re <| ?_
  refine tn <| th <| ?_
  replace hm := bind_some hm
  obtain ⟨r39, h40, hm⟩ := hm
  refine rg <| ?_
  refine ls <| q1 hF rfl (e_move hF rfl) fun a hF => ?_
  refine ls <| q1 hF rfl (e_move hF rfl) fun a hF => ?_
  refine ls <| c1 hF rfl Tryd.call15 (code_Value_c (hp_le _) (Tab.mono hT (St.up hS)) (St.capO hS (.tail _ (.tail _ (.tail _ (.tail _ (.tail _ (.tail _ (.tail _ (.head _))))))))) (St.srO hS (.tail _ (.tail _ (.tail _ (.tail _ (.tail _ (.tail _ (.tail _ (.head _)))))))) hv1) (St.capO hS (.tail _ (.tail _ (.tail _ (.tail _ (.tail _ (.tail _ (.head _)))))))) (St.srO hS (.tail _ (.tail _ (.tail _ (.tail _ (.tail _ (.tail _ (.head _))))))) hv4) (Nat.le_refl _) (SR.nil _ none) h40) ⟨rfl, rfl, rfl, trivial⟩ (fun v w a hR hF => ?_)
  obtain ⟨rfl, hk⟩ := hR
  replace hS := hS.pass hk
  clear hk
  refine ls <| q1 hF rfl (e_move hF rfl) fun a hF => ?_
  refine ls <| q1 hF rfl (e_ext hF rfl rfl) fun a hF => ?_
  refine ls <| q1 hF rfl (e_ext hF rfl rfl) fun a hF => ?_
  refine ls <| q1 hF rfl (e_asg hF rfl) fun a hF => ?_
  refine ls <| q1 hF rfl (e_asg hF rfl) fun a hF => ?_
  refine re <| ?_
  refine tn <| th <| ?_
  replace hm := bind_some hm
  obtain ⟨r44, h45, hm⟩ := hm
  refine rg <| ?_
  refine ls <| q1 hF rfl (e_bldK [.int .i64 1] [.int .i64 1, .int .i64 0] hF ⟨rfl, trivial⟩ (fun w => by kernel_rfl)) fun a hF => ?_
  refine ls <| q1 hF rfl (e_bldK [.int .i64 1] [.int .i64 1, .int .i64 0] hF ⟨rfl, trivial⟩ (fun w => by kernel_rfl)) fun a hF => ?_
  refine ls <| q1 hF rfl (e_bldK [.int .i64 9] [.int .i64 9, .int .i64 0] hF ⟨rfl, trivial⟩ (fun w => by kernel_rfl)) fun a hF => ?_
  refine ls <| a_bsl (e := 46) (sz := 2) [.int .i64 1, .int .i64 0, .int .i64 1, .int .i64 0, .int .i64 9, .int .i64 0] hF rfl hS rfl rfl rfl (fun w => by kernel_rfl) fun b42 w a hS hF => ?_
  have hv41 : Rows (α := api_Op) H [.int .i64 1, .int .i64 0, .int .i64 1, .int .i64 0, .int .i64 9, .int .i64 0] ([(api_Op.mk 1 0), (api_Op.mk 1 0), (api_Op.mk 9 0)] : List api_Op) := (.cons (c := [.int .i64 1, .int .i64 0]) ⟨_, _, rfl, rfl, rfl⟩ (.cons (c := [.int .i64 1, .int .i64 0]) ⟨_, _, rfl, rfl, rfl⟩ (.cons (c := [.int .i64 9, .int .i64 0]) ⟨_, _, rfl, rfl, rfl⟩ .nil)))
  refine ls <| c1 hF rfl Tryd.call18 (code_Run_c (hp_le _) (St.capO hS (.head _)) (St.srO hS (.head _) hv41) (Nat.le_refl _) (SR.nil _ none) h45) ⟨rfl, rfl, trivial⟩ (fun v w a hR hF => ?_)
  obtain ⟨rfl, hk⟩ := hR
  replace hS := hS.pass hk
  clear hk
  refine ls <| q1 hF rfl (e_move hF rfl) fun a hF => ?_
  refine ls <| q1 hF rfl (e_ext hF rfl rfl) fun a hF => ?_
  refine ls <| q1 hF rfl (e_ext hF rfl rfl) fun a hF => ?_
  refine ls <| q1 hF rfl (e_asg hF rfl) fun a hF => ?_
  refine ls <| q1 hF rfl (e_asg hF rfl) fun a hF => ?_
  refine re <| ?_
  refine tn <| th <| ?_
  refine rg <| ?_
  refine ls <| q1 hF rfl (e_bldK [.int .i64 2] [.int .i64 2, .int .i64 0] hF ⟨rfl, trivial⟩ (fun w => by kernel_rfl)) fun a hF => ?_
  refine ls <| q1 hF rfl (e_bldK [.int .i64 2, .int .i64 1] [.int .i64 2, .int .i64 1] hF ⟨rfl, rfl, trivial⟩ (fun w => by kernel_rfl)) fun a hF => ?_
  refine ls <| q1 hF rfl (e_bldK [.int .i64 1, .int .i64 2] [.int .i64 1, .int .i64 2] hF ⟨rfl, rfl, trivial⟩ (fun w => by kernel_rfl)) fun a hF => ?_
  refine ls <| q1 hF rfl (e_bldK [.int .i64 7] [.int .i64 7, .int .i64 0] hF ⟨rfl, trivial⟩ (fun w => by kernel_rfl)) fun a hF => ?_
  refine ls <| q1 hF rfl (e_bldK [.int .i64 5] [.int .i64 5, .int .i64 0] hF ⟨rfl, trivial⟩ (fun w => by kernel_rfl)) fun a hF => ?_
  refine ls <| a_bsl (e := 46) (sz := 2) [.int .i64 2, .int .i64 0, .int .i64 2, .int .i64 1, .int .i64 1, .int .i64 2, .int .i64 7, .int .i64 0, .int .i64 5, .int .i64 0] hF rfl hS rfl rfl rfl (fun w => by kernel_rfl) fun b47 w a hS hF => ?_
  have hv46 : Rows (α := api_Op) H [.int .i64 2, .int .i64 0, .int .i64 2, .int .i64 1, .int .i64 1, .int .i64 2, .int .i64 7, .int .i64 0, .int .i64 5, .int .i64 0] ([(api_Op.mk 2 0), (api_Op.mk 2 1), (api_Op.mk 1 2), (api_Op.mk 7 0), (api_Op.mk 5 0)] : List api_Op) := (.cons (c := [.int .i64 2, .int .i64 0]) ⟨_, _, rfl, rfl, rfl⟩ (.cons (c := [.int .i64 2, .int .i64 1]) ⟨_, _, rfl, rfl, rfl⟩ (.cons (c := [.int .i64 1, .int .i64 2]) ⟨_, _, rfl, rfl, rfl⟩ (.cons (c := [.int .i64 7, .int .i64 0]) ⟨_, _, rfl, rfl, rfl⟩ (.cons (c := [.int .i64 5, .int .i64 0]) ⟨_, _, rfl, rfl, rfl⟩ .nil)))))
  refine ls <| q1 hF rfl (e_asg hF rfl) fun a hF => ?_
  refine re <| ?_
  refine tn <| th <| ?_
  obtain ⟨H52, hx49, hr50, hc51, hS⟩ := St.frzS hS (.tail (.tail (.tail (.tail (.tail (.tail (.tail .head))))))) hv12
  replace hm := bind_some hm
  obtain ⟨r53, h54, hm⟩ := hm
  replace hm := bind_some hm
  obtain ⟨_, hb55, hm⟩ := hm
  replace hb55 := sure_some hb55
  replace hm := bind_some hm
  obtain ⟨r56, h57, hm⟩ := hm
  replace hm := bind_some hm
  obtain ⟨_, hb58, hm⟩ := hm
  replace hb58 := sure_some hb58
  replace hm := bind_some hm
  obtain ⟨l59, h60, hm⟩ := hm
  obtain ⟨oa61, cap62, e63, e64, hc65, hr66⟩ := SR.sub (sz := 2) hr50 hc51 rfl h60
  replace hm := bind_some hm
  obtain ⟨r67, h68, hm⟩ := hm
  replace hm := bind_some hm
  obtain ⟨_, hb69, hm⟩ := hm
  replace hb69 := sure_some hb69
  replace hm := bind_some hm
  obtain ⟨r70, h71, hm⟩ := hm
  replace hm := bind_some hm
  obtain ⟨_, hb72, hm⟩ := hm
  replace hb72 := sure_some hb72
  replace hm := bind_some hm
  obtain ⟨r73, h74, hm⟩ := hm
  replace hm := bind_some hm
  obtain ⟨_, hb75, hm⟩ := hm
  replace hb75 := sure_some hb75
  replace hm := bind_some hm
  obtain ⟨r76, h77, hm⟩ := hm
  replace hm := bind_some hm
  obtain ⟨_, hb78, hm⟩ := hm
  replace hb78 := sure_some hb78
  replace hm := bind_some hm
  obtain ⟨r79, h80, hm⟩ := hm
  refine rg <| ?_
  refine ls <| q1 hF rfl (e_move hF rfl) fun a hF => ?_
  refine ls <| q1 hF rfl (e_move hF rfl) fun a hF => ?_
  refine ls <| c1 hF rfl Tryd.call13 (leadlineref08_Same_c (hp_le _) hc51 (St.srH hS hr50) (St.capO hS (.head _)) (St.srO hS (.head _) (hv46.mono hx49.sub)) h54) ⟨rfl, rfl, trivial⟩ (fun v w a hR hF => ?_)
  obtain ⟨rfl, hk⟩ := hR
  replace hS := hS.pass hk
  clear hk
  refine ls <| q1 hF rfl (e_move hF rfl) fun a hF => ?_
  refine grp (N := 145) (Fk := [(3, .slice oa9 r7.1.length cap10), (5, .int .i64 r17.1), (6, .int .i64 r17.2), (7, .int .i64 r22.1), (8, .int .i64 r22.2), (10, .int .i64 r27.2), (12, .int .i64 r37.2), (14, .int .i64 r39.2), (16, .int .i64 r44.2), (17, .slice (some ⟨b47, 0, none⟩) ([(api_Op.mk 2 0), (api_Op.mk 2 1), (api_Op.mk 1 2), (api_Op.mk 7 0), (api_Op.mk 5 0)] : List api_Op).length 5), (82, .bool (r53 && (decide (r7.2 = 0))))]) (b := r53) 3 hS ?_ ?_ ?_
  ·
    intro hb key
    replace hF := Fr.as hF (t := 79) rfl (congrArg Value.bool hb)
    refine ls <| gy hF rfl rfl <| q1 hF rfl (e_move hF rfl) fun a hF => ?_
    refine ls <| gy hF rfl rfl <| q1 hF rfl (e_eql hF rfl rfl) fun a hF => ?_
    refine ls <| q1 hF rfl (e_as (v' := .bool (r53 && (decide (r7.2 = 0)))) (e_pickT hF rfl rfl) (by rw [hb]; rfl)) fun a hF => ?_
    exact key _ _ (hF.has ⟨rfl, rfl, rfl, rfl, rfl, rfl, rfl, rfl, rfl, rfl, rfl, trivial⟩) hS
  ·
    intro hb key
    replace hF := Fr.as hF (t := 79) rfl (congrArg Value.bool hb)
    refine ls <| gn hF rfl rfl rfl rfl fun a hF => ?_
    refine ls <| gn hF rfl rfl rfl rfl fun a hF => ?_
    refine ls <| q1 hF rfl (e_as (v' := .bool (r53 && (decide (r7.2 = 0)))) (e_pickF hF rfl rfl) (by rw [hb]; rfl)) fun a hF => ?_
    exact key _ _ (hF.has ⟨rfl, rfl, rfl, rfl, rfl, rfl, rfl, rfl, rfl, rfl, rfl, trivial⟩) hS
  intro a w hF hS
  refine ls <| q1 hF rfl (e_move hF rfl) fun a hF => ?_
  refine grp (N := 145) (Fk := [(3, .slice oa9 r7.1.length cap10), (6, .int .i64 r17.2), (7, .int .i64 r22.1), (8, .int .i64 r22.2), (10, .int .i64 r27.2), (12, .int .i64 r37.2), (14, .int .i64 r39.2), (16, .int .i64 r44.2), (17, .slice (some ⟨b47, 0, none⟩) ([(api_Op.mk 2 0), (api_Op.mk 2 1), (api_Op.mk 1 2), (api_Op.mk 7 0), (api_Op.mk 5 0)] : List api_Op).length 5), (86, .bool ((r53 && (decide (r7.2 = 0))) && (decide (r17.1 = 11))))]) (b := (r53 && (decide (r7.2 = 0)))) 3 hS ?_ ?_ ?_
  ·
    intro hb key
    replace hF := Fr.as hF (t := 83) rfl (congrArg Value.bool hb)
    refine ls <| gy hF rfl rfl <| q1 hF rfl (e_move hF rfl) fun a hF => ?_
    refine ls <| gy hF rfl rfl <| q1 hF rfl (e_eql hF rfl rfl) fun a hF => ?_
    refine ls <| q1 hF rfl (e_as (v' := .bool ((r53 && (decide (r7.2 = 0))) && (decide (r17.1 = 11)))) (e_pickT hF rfl rfl) (by rw [hb]; rfl)) fun a hF => ?_
    exact key _ _ (hF.has ⟨rfl, rfl, rfl, rfl, rfl, rfl, rfl, rfl, rfl, rfl, trivial⟩) hS
  ·
    intro hb key
    replace hF := Fr.as hF (t := 83) rfl (congrArg Value.bool hb)
    refine ls <| gn hF rfl rfl rfl rfl fun a hF => ?_
    refine ls <| gn hF rfl rfl rfl rfl fun a hF => ?_
    refine ls <| q1 hF rfl (e_as (v' := .bool ((r53 && (decide (r7.2 = 0))) && (decide (r17.1 = 11)))) (e_pickF hF rfl rfl) (by rw [hb]; rfl)) fun a hF => ?_
    exact key _ _ (hF.has ⟨rfl, rfl, rfl, rfl, rfl, rfl, rfl, rfl, rfl, rfl, trivial⟩) hS
  intro a w hF hS
  refine ls <| q1 hF rfl (e_move hF rfl) fun a hF => ?_
  refine grp (N := 145) (Fk := [(3, .slice oa9 r7.1.length cap10), (7, .int .i64 r22.1), (8, .int .i64 r22.2), (10, .int .i64 r27.2), (12, .int .i64 r37.2), (14, .int .i64 r39.2), (16, .int .i64 r44.2), (17, .slice (some ⟨b47, 0, none⟩) ([(api_Op.mk 2 0), (api_Op.mk 2 1), (api_Op.mk 1 2), (api_Op.mk 7 0), (api_Op.mk 5 0)] : List api_Op).length 5), (90, .bool (((r53 && (decide (r7.2 = 0))) && (decide (r17.1 = 11))) && (decide (r17.2 = 0))))]) (b := ((r53 && (decide (r7.2 = 0))) && (decide (r17.1 = 11)))) 3 hS ?_ ?_ ?_
  ·
    intro hb key
    replace hF := Fr.as hF (t := 87) rfl (congrArg Value.bool hb)
    refine ls <| gy hF rfl rfl <| q1 hF rfl (e_move hF rfl) fun a hF => ?_
    refine ls <| gy hF rfl rfl <| q1 hF rfl (e_eql hF rfl rfl) fun a hF => ?_
    refine ls <| q1 hF rfl (e_as (v' := .bool (((r53 && (decide (r7.2 = 0))) && (decide (r17.1 = 11))) && (decide (r17.2 = 0)))) (e_pickT hF rfl rfl) (by rw [hb]; rfl)) fun a hF => ?_
    exact key _ _ (hF.has ⟨rfl, rfl, rfl, rfl, rfl, rfl, rfl, rfl, rfl, trivial⟩) hS
  ·
    intro hb key
    replace hF := Fr.as hF (t := 87) rfl (congrArg Value.bool hb)
    refine ls <| gn hF rfl rfl rfl rfl fun a hF => ?_
    refine ls <| gn hF rfl rfl rfl rfl fun a hF => ?_
    refine ls <| q1 hF rfl (e_as (v' := .bool (((r53 && (decide (r7.2 = 0))) && (decide (r17.1 = 11))) && (decide (r17.2 = 0)))) (e_pickF hF rfl rfl) (by rw [hb]; rfl)) fun a hF => ?_
    exact key _ _ (hF.has ⟨rfl, rfl, rfl, rfl, rfl, rfl, rfl, rfl, rfl, trivial⟩) hS
  intro a w hF hS
  refine ls <| q1 hF rfl (e_move hF rfl) fun a hF => ?_
  refine grp (N := 145) (Fk := [(3, .slice oa9 r7.1.length cap10), (8, .int .i64 r22.2), (10, .int .i64 r27.2), (12, .int .i64 r37.2), (14, .int .i64 r39.2), (16, .int .i64 r44.2), (17, .slice (some ⟨b47, 0, none⟩) ([(api_Op.mk 2 0), (api_Op.mk 2 1), (api_Op.mk 1 2), (api_Op.mk 7 0), (api_Op.mk 5 0)] : List api_Op).length 5), (94, .bool ((((r53 && (decide (r7.2 = 0))) && (decide (r17.1 = 11))) && (decide (r17.2 = 0))) && (decide (r22.1 = 11))))]) (b := (((r53 && (decide (r7.2 = 0))) && (decide (r17.1 = 11))) && (decide (r17.2 = 0)))) 3 hS ?_ ?_ ?_
  ·
    intro hb key
    replace hF := Fr.as hF (t := 91) rfl (congrArg Value.bool hb)
    refine ls <| gy hF rfl rfl <| q1 hF rfl (e_move hF rfl) fun a hF => ?_
    refine ls <| gy hF rfl rfl <| q1 hF rfl (e_eql hF rfl rfl) fun a hF => ?_
    refine ls <| q1 hF rfl (e_as (v' := .bool ((((r53 && (decide (r7.2 = 0))) && (decide (r17.1 = 11))) && (decide (r17.2 = 0))) && (decide (r22.1 = 11)))) (e_pickT hF rfl rfl) (by rw [hb]; rfl)) fun a hF => ?_
    exact key _ _ (hF.has ⟨rfl, rfl, rfl, rfl, rfl, rfl, rfl, rfl, trivial⟩) hS
  ·
    intro hb key
    replace hF := Fr.as hF (t := 91) rfl (congrArg Value.bool hb)
    refine ls <| gn hF rfl rfl rfl rfl fun a hF => ?_
    refine ls <| gn hF rfl rfl rfl rfl fun a hF => ?_
    refine ls <| q1 hF rfl (e_as (v' := .bool ((((r53 && (decide (r7.2 = 0))) && (decide (r17.1 = 11))) && (decide (r17.2 = 0))) && (decide (r22.1 = 11)))) (e_pickF hF rfl rfl) (by rw [hb]; rfl)) fun a hF => ?_
    exact key _ _ (hF.has ⟨rfl, rfl, rfl, rfl, rfl, rfl, rfl, rfl, trivial⟩) hS
  intro a w hF hS
  refine ls <| q1 hF rfl (e_move hF rfl) fun a hF => ?_
  refine grp (N := 145) (Fk := [(3, .slice oa9 r7.1.length cap10), (10, .int .i64 r27.2), (12, .int .i64 r37.2), (14, .int .i64 r39.2), (16, .int .i64 r44.2), (17, .slice (some ⟨b47, 0, none⟩) ([(api_Op.mk 2 0), (api_Op.mk 2 1), (api_Op.mk 1 2), (api_Op.mk 7 0), (api_Op.mk 5 0)] : List api_Op).length 5), (98, .bool (((((r53 && (decide (r7.2 = 0))) && (decide (r17.1 = 11))) && (decide (r17.2 = 0))) && (decide (r22.1 = 11))) && (decide (r22.2 = 0))))]) (b := ((((r53 && (decide (r7.2 = 0))) && (decide (r17.1 = 11))) && (decide (r17.2 = 0))) && (decide (r22.1 = 11)))) 3 hS ?_ ?_ ?_
  ·
    intro hb key
    replace hF := Fr.as hF (t := 95) rfl (congrArg Value.bool hb)
    refine ls <| gy hF rfl rfl <| q1 hF rfl (e_move hF rfl) fun a hF => ?_
    refine ls <| gy hF rfl rfl <| q1 hF rfl (e_eql hF rfl rfl) fun a hF => ?_
    refine ls <| q1 hF rfl (e_as (v' := .bool (((((r53 && (decide (r7.2 = 0))) && (decide (r17.1 = 11))) && (decide (r17.2 = 0))) && (decide (r22.1 = 11))) && (decide (r22.2 = 0)))) (e_pickT hF rfl rfl) (by rw [hb]; rfl)) fun a hF => ?_
    exact key _ _ (hF.has ⟨rfl, rfl, rfl, rfl, rfl, rfl, rfl, trivial⟩) hS
  ·
    intro hb key
    replace hF := Fr.as hF (t := 95) rfl (congrArg Value.bool hb)
    refine ls <| gn hF rfl rfl rfl rfl fun a hF => ?_
    refine ls <| gn hF rfl rfl rfl rfl fun a hF => ?_
    refine ls <| q1 hF rfl (e_as (v' := .bool (((((r53 && (decide (r7.2 = 0))) && (decide (r17.1 = 11))) && (decide (r17.2 = 0))) && (decide (r22.1 = 11))) && (decide (r22.2 = 0)))) (e_pickF hF rfl rfl) (by rw [hb]; rfl)) fun a hF => ?_
    exact key _ _ (hF.has ⟨rfl, rfl, rfl, rfl, rfl, rfl, rfl, trivial⟩) hS
  intro a w hF hS
  refine ls <| q1 hF rfl (e_move hF rfl) fun a hF => ?_
  refine grp (N := 145) (Fk := [(3, .slice oa9 r7.1.length cap10), (12, .int .i64 r37.2), (14, .int .i64 r39.2), (16, .int .i64 r44.2), (17, .slice (some ⟨b47, 0, none⟩) ([(api_Op.mk 2 0), (api_Op.mk 2 1), (api_Op.mk 1 2), (api_Op.mk 7 0), (api_Op.mk 5 0)] : List api_Op).length 5), (102, .bool ((((((r53 && (decide (r7.2 = 0))) && (decide (r17.1 = 11))) && (decide (r17.2 = 0))) && (decide (r22.1 = 11))) && (decide (r22.2 = 0))) && (decide (r27.2 = 9))))]) (b := (((((r53 && (decide (r7.2 = 0))) && (decide (r17.1 = 11))) && (decide (r17.2 = 0))) && (decide (r22.1 = 11))) && (decide (r22.2 = 0)))) 3 hS ?_ ?_ ?_
  ·
    intro hb key
    replace hF := Fr.as hF (t := 99) rfl (congrArg Value.bool hb)
    refine ls <| gy hF rfl rfl <| q1 hF rfl (e_move hF rfl) fun a hF => ?_
    refine ls <| gy hF rfl rfl <| q1 hF rfl (e_eql hF rfl rfl) fun a hF => ?_
    refine ls <| q1 hF rfl (e_as (v' := .bool ((((((r53 && (decide (r7.2 = 0))) && (decide (r17.1 = 11))) && (decide (r17.2 = 0))) && (decide (r22.1 = 11))) && (decide (r22.2 = 0))) && (decide (r27.2 = 9)))) (e_pickT hF rfl rfl) (by rw [hb]; rfl)) fun a hF => ?_
    exact key _ _ (hF.has ⟨rfl, rfl, rfl, rfl, rfl, rfl, trivial⟩) hS
  ·
    intro hb key
    replace hF := Fr.as hF (t := 99) rfl (congrArg Value.bool hb)
    refine ls <| gn hF rfl rfl rfl rfl fun a hF => ?_
    refine ls <| gn hF rfl rfl rfl rfl fun a hF => ?_
    refine ls <| q1 hF rfl (e_as (v' := .bool ((((((r53 && (decide (r7.2 = 0))) && (decide (r17.1 = 11))) && (decide (r17.2 = 0))) && (decide (r22.1 = 11))) && (decide (r22.2 = 0))) && (decide (r27.2 = 9)))) (e_pickF hF rfl rfl) (by rw [hb]; rfl)) fun a hF => ?_
    exact key _ _ (hF.has ⟨rfl, rfl, rfl, rfl, rfl, rfl, trivial⟩) hS
  intro a w hF hS
  refine ls <| q1 hF rfl (e_move hF rfl) fun a hF => ?_
  refine grp (N := 145) (Fk := [(3, .slice oa9 r7.1.length cap10), (14, .int .i64 r39.2), (16, .int .i64 r44.2), (17, .slice (some ⟨b47, 0, none⟩) ([(api_Op.mk 2 0), (api_Op.mk 2 1), (api_Op.mk 1 2), (api_Op.mk 7 0), (api_Op.mk 5 0)] : List api_Op).length 5), (106, .bool (((((((r53 && (decide (r7.2 = 0))) && (decide (r17.1 = 11))) && (decide (r17.2 = 0))) && (decide (r22.1 = 11))) && (decide (r22.2 = 0))) && (decide (r27.2 = 9))) && (decide (r37.2 = 8))))]) (b := ((((((r53 && (decide (r7.2 = 0))) && (decide (r17.1 = 11))) && (decide (r17.2 = 0))) && (decide (r22.1 = 11))) && (decide (r22.2 = 0))) && (decide (r27.2 = 9)))) 3 hS ?_ ?_ ?_
  ·
    intro hb key
    replace hF := Fr.as hF (t := 103) rfl (congrArg Value.bool hb)
    refine ls <| gy hF rfl rfl <| q1 hF rfl (e_move hF rfl) fun a hF => ?_
    refine ls <| gy hF rfl rfl <| q1 hF rfl (e_eql hF rfl rfl) fun a hF => ?_
    refine ls <| q1 hF rfl (e_as (v' := .bool (((((((r53 && (decide (r7.2 = 0))) && (decide (r17.1 = 11))) && (decide (r17.2 = 0))) && (decide (r22.1 = 11))) && (decide (r22.2 = 0))) && (decide (r27.2 = 9))) && (decide (r37.2 = 8)))) (e_pickT hF rfl rfl) (by rw [hb]; rfl)) fun a hF => ?_
    exact key _ _ (hF.has ⟨rfl, rfl, rfl, rfl, rfl, trivial⟩) hS
  ·
    intro hb key
    replace hF := Fr.as hF (t := 103) rfl (congrArg Value.bool hb)
    refine ls <| gn hF rfl rfl rfl rfl fun a hF => ?_
    refine ls <| gn hF rfl rfl rfl rfl fun a hF => ?_
    refine ls <| q1 hF rfl (e_as (v' := .bool (((((((r53 && (decide (r7.2 = 0))) && (decide (r17.1 = 11))) && (decide (r17.2 = 0))) && (decide (r22.1 = 11))) && (decide (r22.2 = 0))) && (decide (r27.2 = 9))) && (decide (r37.2 = 8)))) (e_pickF hF rfl rfl) (by rw [hb]; rfl)) fun a hF => ?_
    exact key _ _ (hF.has ⟨rfl, rfl, rfl, rfl, rfl, trivial⟩) hS
  intro a w hF hS
  refine ls <| q1 hF rfl (e_move hF rfl) fun a hF => ?_
  refine grp (N := 145) (Fk := [(3, .slice oa9 r7.1.length cap10), (16, .int .i64 r44.2), (17, .slice (some ⟨b47, 0, none⟩) ([(api_Op.mk 2 0), (api_Op.mk 2 1), (api_Op.mk 1 2), (api_Op.mk 7 0), (api_Op.mk 5 0)] : List api_Op).length 5), (110, .bool ((((((((r53 && (decide (r7.2 = 0))) && (decide (r17.1 = 11))) && (decide (r17.2 = 0))) && (decide (r22.1 = 11))) && (decide (r22.2 = 0))) && (decide (r27.2 = 9))) && (decide (r37.2 = 8))) && (decide (r39.2 = 1))))]) (b := (((((((r53 && (decide (r7.2 = 0))) && (decide (r17.1 = 11))) && (decide (r17.2 = 0))) && (decide (r22.1 = 11))) && (decide (r22.2 = 0))) && (decide (r27.2 = 9))) && (decide (r37.2 = 8)))) 3 hS ?_ ?_ ?_
  ·
    intro hb key
    replace hF := Fr.as hF (t := 107) rfl (congrArg Value.bool hb)
    refine ls <| gy hF rfl rfl <| q1 hF rfl (e_move hF rfl) fun a hF => ?_
    refine ls <| gy hF rfl rfl <| q1 hF rfl (e_eql hF rfl rfl) fun a hF => ?_
    refine ls <| q1 hF rfl (e_as (v' := .bool ((((((((r53 && (decide (r7.2 = 0))) && (decide (r17.1 = 11))) && (decide (r17.2 = 0))) && (decide (r22.1 = 11))) && (decide (r22.2 = 0))) && (decide (r27.2 = 9))) && (decide (r37.2 = 8))) && (decide (r39.2 = 1)))) (e_pickT hF rfl rfl) (by rw [hb]; rfl)) fun a hF => ?_
    exact key _ _ (hF.has ⟨rfl, rfl, rfl, rfl, trivial⟩) hS
  ·
    intro hb key
    replace hF := Fr.as hF (t := 107) rfl (congrArg Value.bool hb)
    refine ls <| gn hF rfl rfl rfl rfl fun a hF => ?_
    refine ls <| gn hF rfl rfl rfl rfl fun a hF => ?_
    refine ls <| q1 hF rfl (e_as (v' := .bool ((((((((r53 && (decide (r7.2 = 0))) && (decide (r17.1 = 11))) && (decide (r17.2 = 0))) && (decide (r22.1 = 11))) && (decide (r22.2 = 0))) && (decide (r27.2 = 9))) && (decide (r37.2 = 8))) && (decide (r39.2 = 1)))) (e_pickF hF rfl rfl) (by rw [hb]; rfl)) fun a hF => ?_
    exact key _ _ (hF.has ⟨rfl, rfl, rfl, rfl, trivial⟩) hS
  intro a w hF hS
  refine ls <| q1 hF rfl (e_move hF rfl) fun a hF => ?_
  refine grp (N := 145) (Fk := [(3, .slice oa9 r7.1.length cap10), (17, .slice (some ⟨b47, 0, none⟩) ([(api_Op.mk 2 0), (api_Op.mk 2 1), (api_Op.mk 1 2), (api_Op.mk 7 0), (api_Op.mk 5 0)] : List api_Op).length 5), (114, .bool (((((((((r53 && (decide (r7.2 = 0))) && (decide (r17.1 = 11))) && (decide (r17.2 = 0))) && (decide (r22.1 = 11))) && (decide (r22.2 = 0))) && (decide (r27.2 = 9))) && (decide (r37.2 = 8))) && (decide (r39.2 = 1))) && (decide (r44.2 = 12))))]) (b := ((((((((r53 && (decide (r7.2 = 0))) && (decide (r17.1 = 11))) && (decide (r17.2 = 0))) && (decide (r22.1 = 11))) && (decide (r22.2 = 0))) && (decide (r27.2 = 9))) && (decide (r37.2 = 8))) && (decide (r39.2 = 1)))) 3 hS ?_ ?_ ?_
  ·
    intro hb key
    replace hF := Fr.as hF (t := 111) rfl (congrArg Value.bool hb)
    refine ls <| gy hF rfl rfl <| q1 hF rfl (e_move hF rfl) fun a hF => ?_
    refine ls <| gy hF rfl rfl <| q1 hF rfl (e_eql hF rfl rfl) fun a hF => ?_
    refine ls <| q1 hF rfl (e_as (v' := .bool (((((((((r53 && (decide (r7.2 = 0))) && (decide (r17.1 = 11))) && (decide (r17.2 = 0))) && (decide (r22.1 = 11))) && (decide (r22.2 = 0))) && (decide (r27.2 = 9))) && (decide (r37.2 = 8))) && (decide (r39.2 = 1))) && (decide (r44.2 = 12)))) (e_pickT hF rfl rfl) (by rw [hb]; rfl)) fun a hF => ?_
    exact key _ _ (hF.has ⟨rfl, rfl, rfl, trivial⟩) hS
  ·
    intro hb key
    replace hF := Fr.as hF (t := 111) rfl (congrArg Value.bool hb)
    refine ls <| gn hF rfl rfl rfl rfl fun a hF => ?_
    refine ls <| gn hF rfl rfl rfl rfl fun a hF => ?_
    refine ls <| q1 hF rfl (e_as (v' := .bool (((((((((r53 && (decide (r7.2 = 0))) && (decide (r17.1 = 11))) && (decide (r17.2 = 0))) && (decide (r22.1 = 11))) && (decide (r22.2 = 0))) && (decide (r27.2 = 9))) && (decide (r37.2 = 8))) && (decide (r39.2 = 1))) && (decide (r44.2 = 12)))) (e_pickF hF rfl rfl) (by rw [hb]; rfl)) fun a hF => ?_
    exact key _ _ (hF.has ⟨rfl, rfl, rfl, trivial⟩) hS
  intro a w hF hS
  refine ls <| q1 hF rfl (e_as (e_move hF rfl) (congrArg Value.bool hb55)) fun a hF => ?_
  refine ls <| gy hF rfl rfl <| q1 hF rfl (e_move hF rfl) fun a hF => ?_
  refine ls <| gy hF rfl rfl <| c1 hF rfl Tryd.call20 (code_High_c (hp_le _) hc51 (St.srH hS hr50) h57) ⟨rfl, trivial⟩ (fun v w a hR hF => ?_)
  obtain ⟨rfl, hk⟩ := hR
  replace hS := hS.pass hk
  clear hk
  refine ls <| gy hF rfl rfl <| q1 hF rfl (e_eql hF rfl rfl) fun a hF => ?_
  refine ls <| q1 hF rfl (e_pickT hF rfl rfl) fun a hF => ?_
  refine ls <| q1 hF rfl (e_as (e_move hF rfl) (congrArg Value.bool hb58)) fun a hF => ?_
  refine ls <| gy hF rfl rfl <| q1 hF rfl (e_move hF rfl) fun a hF => ?_
  refine ls <| gy hF rfl rfl <| q1 hF rfl (e_subL (xs := r7.1) (vl := 3) (vh := (r7.1.length : Int)) hF Tryd.runUnderlying26 Tryd.sizeOf46 rfl hc51 rfl rfl h60 e63 e64) fun a hF => ?_
  refine ls <| gy hF rfl rfl <| c1 hF rfl Tryd.call20 (code_High_c (hp_le _) hc65 (St.srH hS hr66) h68) ⟨rfl, trivial⟩ (fun v w a hR hF => ?_)
  obtain ⟨rfl, hk⟩ := hR
  replace hS := hS.pass hk
  clear hk
  refine ls <| gy hF rfl rfl <| q1 hF rfl (e_eql hF rfl rfl) fun a hF => ?_
  refine ls <| q1 hF rfl (e_pickT hF rfl rfl) fun a hF => ?_
  refine ls <| q1 hF rfl (e_as (e_move hF rfl) (congrArg Value.bool hb69)) fun a hF => ?_
  refine ls <| gy hF rfl rfl <| q1 hF rfl (e_move hF rfl) fun a hF => ?_
  refine ls <| gy hF rfl rfl <| c1 hF rfl Tryd.call19 (code_Right_c (hp_le _) hc51 (St.srH hS hr50) h71) ⟨rfl, rfl, trivial⟩ (fun v w a hR hF => ?_)
  obtain ⟨rfl, hk⟩ := hR
  replace hS := hS.pass hk
  clear hk
  refine ls <| q1 hF rfl (e_pickT hF rfl rfl) fun a hF => ?_
  refine ls <| q1 hF rfl (e_as (e_move hF rfl) (congrArg Value.bool hb72)) fun a hF => ?_
  refine ls <| gy hF rfl rfl <| q1 hF rfl (e_move hF rfl) fun a hF => ?_
  refine ls <| gy hF rfl rfl <| c1 hF rfl Tryd.call19 (code_Right_c (hp_le _) hc51 (St.srH hS hr50) h74) ⟨rfl, rfl, trivial⟩ (fun v w a hR hF => ?_)
  obtain ⟨rfl, hk⟩ := hR
  replace hS := hS.pass hk
  clear hk
  refine ls <| gy hF rfl rfl <| q1 hF rfl (e_not hF rfl) fun a hF => ?_
  refine ls <| q1 hF rfl (e_pickT hF rfl rfl) fun a hF => ?_
  refine ls <| q1 hF rfl (e_as (e_move hF rfl) (congrArg Value.bool hb75)) fun a hF => ?_
  refine ls <| gy hF rfl rfl <| q1 hF rfl (e_move hF rfl) fun a hF => ?_
  refine ls <| gy hF rfl rfl <| q1 hF rfl (e_move hF rfl) fun a hF => ?_
  refine ls <| gy hF rfl rfl <| c1 hF rfl Tryd.call32 (code_Same_c (hp_le _) hc51 (St.srH hS hr50) (St.capO hS (.head _)) (St.srO hS (.head _) (hv46.mono hx49.sub)) h77) ⟨rfl, rfl, trivial⟩ (fun v w a hR hF => ?_)
  obtain ⟨rfl, hk⟩ := hR
  replace hS := hS.pass hk
  clear hk
  refine ls <| q1 hF rfl (e_pickT hF rfl rfl) fun a hF => ?_
  refine ls <| q1 hF rfl (e_as (e_move hF rfl) (congrArg Value.bool hb78)) fun a hF => ?_
  refine ls <| gy hF rfl rfl <| q1 hF rfl (e_move hF rfl) fun a hF => ?_
  refine ls <| gy hF rfl rfl <| c1 hF rfl Tryd.call32 (code_Same_c (hp_le _) hc51 (St.srH hS hr50) (Nat.le_refl _) (SR.nil _ none) h80) ⟨rfl, rfl, trivial⟩ (fun v w a hR hF => ?_)
  obtain ⟨rfl, hk⟩ := hR
  replace hS := hS.pass hk
  clear hk
  refine ls <| gy hF rfl rfl <| q1 hF rfl (e_not hF rfl) fun a hF => ?_
  refine ls <| q1 hF rfl (e_pickT hF rfl rfl) fun a hF => ?_
  refine ls <| q1 hF rfl (e_asg hF rfl) fun a hF => ?_
  refine re <| ?_
  refine tn <| ?_
  refine wp_ret <| ?_
  obtain rfl := Option.some.inj hm
  exact r1 hF Tryd.results14 rfl ⟨rfl, hS.keep⟩

set_option maxRecDepth 100000 in
theorem leadlinelaw08_CodeNames_c {N : Nat} {w0 : World} {H : PH} (hH : H.le w0) (hT : Tab H) {oa2 : Option Addr} {cap3 : Nat} {p1 : (List api_Node)} (hc4 : p1.length ≤ cap3) (hr5 : SR H oa2 p1) {p6 : Int} {p7 : Int} {p8 : Int} {r : Bool} (hm : leadlinelaw08_CodeNames N p1 p6 p7 p8 = some r) : Tot Tryd.prog 7 #[.slice oa2 p1.length cap3, .agg #[.int .i64 p6, .int .i64 p7, .int .i64 p8]] w0 (fun v w' => v = .bool r ∧ Keep Nil w0 w') := by
  unfold leadlinelaw08_CodeNames at hm
  refine fn0 (args := [.slice oa2 p1.length cap3, .agg #[.int .i64 p6, .int .i64 p7, .int .i64 p8]]) (F := [(0, .slice oa2 p1.length cap3), (1, .agg #[.int .i64 p6, .int .i64 p7, .int .i64 p8])]) Tryd.func7 rfl Tryd.ntmps7 rfl rfl fun a hF => ?_
  have hS : St w0 Nil [H] [] w0 := start1 hH
  refine th <| ?_
  refine rg <| ?_
  refine ls <| a_box (cs := [.int .i64 p6, .int .i64 p7, .int .i64 p8].toArray) hF rfl hS rfl rfl fun b9 w a hS hF => ?_
  refine ls <| q1 hF rfl (e_asg hF rfl) fun a hF => ?_
  refine re <| ?_
  refine tn <| th <| th <| ?_
  refine rg <| ?_
  refine ls <| q1 hF rfl (e_move hF rfl) fun a hF => ?_
  refine ls <| q1 hF rfl (e_lenL (α := api_Node) (xs := p1) hF Tryd.runUnderlying22 rfl) fun a hF => ?_
  refine ls <| q1 hF rfl (e_gtr hF rfl rfl) fun a hF => ?_
  refine re <| ?_
  rcases bdich (decide (60 < (p1.length : Int))) with hb10 | hb10
  ·
    replace hm := itp_t hm hb10
    refine tn <| ctv hF rfl hb10 <| th <| ?_
    replace hm := bind_some hm
    obtain ⟨r11, h12, hm⟩ := hm
    refine rg <| ?_
    refine ls <| c1 hF rfl Tryd.call14 (leadlinelaw08_fixed_c (hp_le _) (Tab.mono hT (St.up hS)) h12) trivial (fun v w a hR hF => ?_)
    obtain ⟨rfl, hk⟩ := hR
    replace hS := hS.pass hk
    clear hk
    refine ls <| q1 hF rfl (e_asg hF rfl) fun a hF => ?_
    refine re <| ?_
    refine tn <| ?_
    refine wp_ret <| tr <| ?_
    obtain rfl := Option.some.inj hm
    exact r1 hF Tryd.results7 rfl ⟨rfl, hS.keep⟩
  ·
    replace hm := itp_f hm hb10
    refine tn <| cfv hF rfl hb10 <| wp_skip <| ?_
    refine tn <| th <| ?_
    replace hm := bind_some hm
    obtain ⟨r19, h20, hm⟩ := hm
    refine rg <| ?_
    refine ls <| q1 hF rfl (e_move hF rfl) fun a hF => ?_
    refine ls <| a_bsl (e := 9) (sz := 1) [strv [97], strv [98], strv [120, 49]] hF rfl hS rfl rfl rfl (fun w => by kernel_rfl) fun b14 w a hS hF => ?_
    have hv13 : Rows (α := Str) H [strv [97], strv [98], strv [120, 49]] ([[97], [98], [120, 49]] : List Str) := (.cons (c := [strv [97]]) rfl (.cons (c := [strv [98]]) rfl (.cons (c := [strv [120, 49]]) rfl .nil)))
    refine ls <| q1 hF rfl (e_iaA (i := 0) hF Tryd.runUnderlying48 Tryd.sizeOf3 rfl rfl rfl (by decide)) fun a hF => ?_
    refine ls <| q1 hF rfl (e_ld hF Tryd.isAgg3 rfl ((St.ld hS).cellB (.tail _ (.head _)) rfl)) fun a hF => ?_
    refine ls <| q1 hF rfl (e_iaA (i := 1) hF Tryd.runUnderlying48 Tryd.sizeOf3 rfl rfl rfl (by decide)) fun a hF => ?_
    refine ls <| q1 hF rfl (e_ld hF Tryd.isAgg3 rfl ((St.ld hS).cellB (.tail _ (.head _)) rfl)) fun a hF => ?_
    refine ls <| q1 hF rfl (e_iaA (i := 2) hF Tryd.runUnderlying48 Tryd.sizeOf3 rfl rfl rfl (by decide)) fun a hF => ?_
    refine ls <| q1 hF rfl (e_ld hF Tryd.isAgg3 rfl ((St.ld hS).cellB (.tail _ (.head _)) rfl)) fun a hF => ?_
    refine ls <| a_bsl (e := 3) (sz := 1) [.int .i64 p6, .int .i64 p7, .int .i64 p8] hF rfl hS rfl rfl rfl (fun w => by kernel_rfl) fun b17 w a hS hF => ?_
    have hv16 : Rows (α := Int) H [.int .i64 p6, .int .i64 p7, .int .i64 p8] ([p6, p7, p8] : List Int) := (.cons (c := [.int .i64 p6]) rfl (.cons (c := [.int .i64 p7]) rfl (.cons (c := [.int .i64 p8]) rfl .nil)))
    refine ls <| c1 hF rfl Tryd.call15 (code_Value_c (hp_le _) (Tab.mono hT (St.up hS)) hc4 (St.srH hS hr5) (St.capO hS (.tail _ (.head _))) (St.srO hS (.tail _ (.head _)) hv13) (St.capO hS (.head _)) (St.srO hS (.head _) hv16) h20) ⟨rfl, rfl, rfl, trivial⟩ (fun v w a hR hF => ?_)
    obtain ⟨rfl, hk⟩ := hR
    replace hS := hS.pass hk
    clear hk
    refine ls <| q1 hF rfl (e_move hF rfl) fun a hF => ?_
    refine ls <| q1 hF rfl (e_ext hF rfl rfl) fun a hF => ?_
    refine ls <| q1 hF rfl (e_ext hF rfl rfl) fun a hF => ?_
    refine ls <| q1 hF rfl (e_asg hF rfl) fun a hF => ?_
    refine ls <| q1 hF rfl (e_asg hF rfl) fun a hF => ?_
    refine re <| ?_
    refine tn <| th <| ?_
    replace hm := bind_some hm
    obtain ⟨r27, h28, hm⟩ := hm
    refine rg <| ?_
    refine ls <| q1 hF rfl (e_move hF rfl) fun a hF => ?_
    refine ls <| a_bsl (e := 9) (sz := 1) [strv [120, 49], strv [97], strv [98]] hF rfl hS rfl rfl rfl (fun w => by kernel_rfl) fun b22 w a hS hF => ?_
    have hv21 : Rows (α := Str) H [strv [120, 49], strv [97], strv [98]] ([[120, 49], [97], [98]] : List Str) := (.cons (c := [strv [120, 49]]) rfl (.cons (c := [strv [97]]) rfl (.cons (c := [strv [98]]) rfl .nil)))
    refine ls <| q1 hF rfl (e_iaA (i := 2) hF Tryd.runUnderlying48 Tryd.sizeOf3 rfl rfl rfl (by decide)) fun a hF => ?_
    refine ls <| q1 hF rfl (e_ld hF Tryd.isAgg3 rfl ((St.ld hS).cellB (.tail _ (.tail _ (.tail _ (.head _)))) rfl)) fun a hF => ?_
    refine ls <| q1 hF rfl (e_iaA (i := 0) hF Tryd.runUnderlying48 Tryd.sizeOf3 rfl rfl rfl (by decide)) fun a hF => ?_
    refine ls <| q1 hF rfl (e_ld hF Tryd.isAgg3 rfl ((St.ld hS).cellB (.tail _ (.tail _ (.tail _ (.head _)))) rfl)) fun a hF => ?_
    refine ls <| q1 hF rfl (e_iaA (i := 1) hF Tryd.runUnderlying48 Tryd.sizeOf3 rfl rfl rfl (by decide)) fun a hF => ?_
    refine ls <| q1 hF rfl (e_ld hF Tryd.isAgg3 rfl ((St.ld hS).cellB (.tail _ (.tail _ (.tail _ (.head _)))) rfl)) fun a hF => ?_
    refine ls <| a_bsl (e := 3) (sz := 1) [.int .i64 p8, .int .i64 p6, .int .i64 p7] hF rfl hS rfl rfl rfl (fun w => by kernel_rfl) fun b25 w a hS hF => ?_
    have hv24 : Rows (α := Int) H [.int .i64 p8, .int .i64 p6, .int .i64 p7] ([p8, p6, p7] : List Int) := (.cons (c := [.int .i64 p8]) rfl (.cons (c := [.int .i64 p6]) rfl (.cons (c := [.int .i64 p7]) rfl .nil)))
    refine ls <| c1 hF rfl Tryd.call15 (code_Value_c (hp_le _) (Tab.mono hT (St.up hS)) hc4 (St.srH hS hr5) (St.capO hS (.tail _ (.head _))) (St.srO hS (.tail _ (.head _)) hv21) (St.capO hS (.head _)) (St.srO hS (.head _) hv24) h28) ⟨rfl, rfl, rfl, trivial⟩ (fun v w a hR hF => ?_)
    obtain ⟨rfl, hk⟩ := hR
    replace hS := hS.pass hk
    clear hk
    refine ls <| q1 hF rfl (e_move hF rfl) fun a hF => ?_
    refine ls <| q1 hF rfl (e_ext hF rfl rfl) fun a hF => ?_
    refine ls <| q1 hF rfl (e_ext hF rfl rfl) fun a hF => ?_
    refine ls <| q1 hF rfl (e_asg hF rfl) fun a hF => ?_
    refine ls <| q1 hF rfl (e_asg hF rfl) fun a hF => ?_
    refine re <| ?_
    refine tn <| th <| ?_
    replace hm := bind_some hm
    obtain ⟨r32, h33, hm⟩ := hm
    refine rg <| ?_
    refine ls <| q1 hF rfl (e_move hF rfl) fun a hF => ?_
    refine ls <| a_bsl (e := 9) (sz := 1) [strv [97], strv [98], strv [120, 49]] hF rfl hS rfl rfl rfl (fun w => by kernel_rfl) fun b30 w a hS hF => ?_
    have hv29 : Rows (α := Str) H [strv [97], strv [98], strv [120, 49]] ([[97], [98], [120, 49]] : List Str) := (.cons (c := [strv [97]]) rfl (.cons (c := [strv [98]]) rfl (.cons (c := [strv [120, 49]]) rfl .nil)))
    refine ls <| c1 hF rfl Tryd.call11 (code_Make_c (hp_le _) (Tab.mono hT (St.up hS)) hc4 (St.srH hS hr5) (St.capO hS (.head _)) (St.srO hS (.head _) hv29) h33) ⟨rfl, rfl, trivial⟩ (fun v w a hR hF => ?_)
    obtain ⟨oa34, cap35, vs36, rfl, hv37, hk⟩ := hR
    replace hS := hS.fresh hk
    clear hk
    replace hv37 := hv37 H
    refine ls <| q1 hF rfl (e_move hF rfl) fun a hF => ?_
    refine ls <| q1 hF rfl (e_ext hF rfl rfl) fun a hF => ?_
    refine ls <| q1 hF rfl (e_ext hF rfl rfl) fun a hF => ?_
    refine ls <| q1 hF rfl (e_asg hF rfl) fun a hF => ?_
    refine ls <| q1 hF rfl (e_asg hF rfl) fun a hF => ?_
    refine re <| ?_
    refine tn <| th <| ?_
    replace hm := bind_some hm
    obtain ⟨r42, h43, hm⟩ := hm
    refine rg <| ?_
    refine ls <| q1 hF rfl (e_move hF rfl) fun a hF => ?_
    refine ls <| a_bsl (e := 9) (sz := 1) [strv [120, 49], strv [97], strv [98]] hF rfl hS rfl rfl rfl (fun w => by kernel_rfl) fun b40 w a hS hF => ?_
    have hv39 : Rows (α := Str) H [strv [120, 49], strv [97], strv [98]] ([[120, 49], [97], [98]] : List Str) := (.cons (c := [strv [120, 49]]) rfl (.cons (c := [strv [97]]) rfl (.cons (c := [strv [98]]) rfl .nil)))
    refine ls <| c1 hF rfl Tryd.call11 (code_Make_c (hp_le _) (Tab.mono hT (St.up hS)) hc4 (St.srH hS hr5) (St.capO hS (.head _)) (St.srO hS (.head _) hv39) h43) ⟨rfl, rfl, trivial⟩ (fun v w a hR hF => ?_)
    obtain ⟨oa44, cap45, vs46, rfl, hv47, hk⟩ := hR
    replace hS := hS.fresh hk
    clear hk
    replace hv47 := hv47 H
    refine ls <| q1 hF rfl (e_move hF rfl) fun a hF => ?_
    refine ls <| q1 hF rfl (e_ext hF rfl rfl) fun a hF => ?_
    refine ls <| q1 hF rfl (e_ext hF rfl rfl) fun a hF => ?_
    refine ls <| q1 hF rfl (e_asg hF rfl) fun a hF => ?_
    refine ls <| q1 hF rfl (e_asg hF rfl) fun a hF => ?_
    refine re <| ?_
    refine tn <| th <| th <| ?_
    refine rg <| ?_
    refine ls <| q1 hF rfl (e_move hF rfl) fun a hF => ?_
    refine ls <| q1 hF rfl (e_move hF rfl) fun a hF => ?_
    refine ls <| q1 hF rfl (e_neq hF rfl rfl) fun a hF => ?_
    refine ls <| q1 hF rfl (e_move hF rfl) fun a hF => ?_
    refine grp (N := 136) (Fk := [(9, .slice oa34 r32.1.length cap35), (10, .int .i64 r32.2), (11, .slice oa44 r42.1.length cap45), (12, .int .i64 r42.2), (63, .bool ((decide (r19.1 ≠ r27.1)) || (decide (r19.2 ≠ r27.2))))]) (b := (decide (r19.1 ≠ r27.1))) 4 hS ?_ ?_ ?_
    ·
      intro hb key
      replace hF := Fr.as hF (t := 59) rfl (congrArg Value.bool hb)
      refine ls <| gn hF rfl rfl rfl rfl fun a hF => ?_
      refine ls <| gn hF rfl rfl rfl rfl fun a hF => ?_
      refine ls <| gn hF rfl rfl rfl rfl fun a hF => ?_
      refine ls <| q1 hF rfl (e_as (v' := .bool ((decide (r19.1 ≠ r27.1)) || (decide (r19.2 ≠ r27.2)))) (e_pickT hF rfl rfl) (by rw [hb]; rfl)) fun a hF => ?_
      exact key _ _ (hF.has ⟨rfl, rfl, rfl, rfl, rfl, trivial⟩) hS
    ·
      intro hb key
      replace hF := Fr.as hF (t := 59) rfl (congrArg Value.bool hb)
      refine ls <| gy hF rfl rfl <| q1 hF rfl (e_move hF rfl) fun a hF => ?_
      refine ls <| gy hF rfl rfl <| q1 hF rfl (e_move hF rfl) fun a hF => ?_
      refine ls <| gy hF rfl rfl <| q1 hF rfl (e_neq hF rfl rfl) fun a hF => ?_
      refine ls <| q1 hF rfl (e_as (v' := .bool ((decide (r19.1 ≠ r27.1)) || (decide (r19.2 ≠ r27.2)))) (e_pickF hF rfl rfl) (by rw [hb]; rfl)) fun a hF => ?_
      exact key _ _ (hF.has ⟨rfl, rfl, rfl, rfl, rfl, trivial⟩) hS
    intro a w hF hS
    refine ls <| q1 hF rfl (e_move hF rfl) fun a hF => ?_
    refine grp (N := 136) (Fk := [(9, .slice oa34 r32.1.length cap35), (11, .slice oa44 r42.1.length cap45), (68, .bool (((decide (r19.1 ≠ r27.1)) || (decide (r19.2 ≠ r27.2))) || (decide (r32.2 ≠ r42.2))))]) (b := ((decide (r19.1 ≠ r27.1)) || (decide (r19.2 ≠ r27.2)))) 4 hS ?_ ?_ ?_
    ·
      intro hb key
      replace hF := Fr.as hF (t := 64) rfl (congrArg Value.bool hb)
      refine ls <| gn hF rfl rfl rfl rfl fun a hF => ?_
      refine ls <| gn hF rfl rfl rfl rfl fun a hF => ?_
      refine ls <| gn hF rfl rfl rfl rfl fun a hF => ?_
      refine ls <| q1 hF rfl (e_as (v' := .bool (((decide (r19.1 ≠ r27.1)) || (decide (r19.2 ≠ r27.2))) || (decide (r32.2 ≠ r42.2)))) (e_pickT hF rfl rfl) (by rw [hb]; rfl)) fun a hF => ?_
      exact key _ _ (hF.has ⟨rfl, rfl, rfl, trivial⟩) hS
    ·
      intro hb key
      replace hF := Fr.as hF (t := 64) rfl (congrArg Value.bool hb)
      refine ls <| gy hF rfl rfl <| q1 hF rfl (e_move hF rfl) fun a hF => ?_
      refine ls <| gy hF rfl rfl <| q1 hF rfl (e_move hF rfl) fun a hF => ?_
      refine ls <| gy hF rfl rfl <| q1 hF rfl (e_neq hF rfl rfl) fun a hF => ?_
      refine ls <| q1 hF rfl (e_as (v' := .bool (((decide (r19.1 ≠ r27.1)) || (decide (r19.2 ≠ r27.2))) || (decide (r32.2 ≠ r42.2)))) (e_pickF hF rfl rfl) (by rw [hb]; rfl)) fun a hF => ?_
      exact key _ _ (hF.has ⟨rfl, rfl, rfl, trivial⟩) hS
    intro a w hF hS
    refine ls <| q1 hF rfl (e_move hF rfl) fun a hF => ?_
    refine grp (N := 136) (Fk := [(9, .slice oa34 r32.1.length cap35), (11, .slice oa44 r42.1.length cap45), (75, .bool ((((decide (r19.1 ≠ r27.1)) || (decide (r19.2 ≠ r27.2))) || (decide (r32.2 ≠ r42.2))) || (decide ((r32.1.length : Int) ≠ (r42.1.length : Int)))))]) (b := (((decide (r19.1 ≠ r27.1)) || (decide (r19.2 ≠ r27.2))) || (decide (r32.2 ≠ r42.2)))) 6 hS ?_ ?_ ?_
    ·
      intro hb key
      replace hF := Fr.as hF (t := 69) rfl (congrArg Value.bool hb)
      refine ls <| gn hF rfl rfl rfl rfl fun a hF => ?_
      refine ls <| gn hF rfl rfl rfl rfl fun a hF => ?_
      refine ls <| gn hF rfl rfl rfl rfl fun a hF => ?_
      refine ls <| gn hF rfl rfl rfl rfl fun a hF => ?_
      refine ls <| gn hF rfl rfl rfl rfl fun a hF => ?_
      refine ls <| q1 hF rfl (e_as (v' := .bool ((((decide (r19.1 ≠ r27.1)) || (decide (r19.2 ≠ r27.2))) || (decide (r32.2 ≠ r42.2))) || (decide ((r32.1.length : Int) ≠ (r42.1.length : Int))))) (e_pickT hF rfl rfl) (by rw [hb]; rfl)) fun a hF => ?_
      exact key _ _ (hF.has ⟨rfl, rfl, rfl, trivial⟩) hS
    ·
      intro hb key
      replace hF := Fr.as hF (t := 69) rfl (congrArg Value.bool hb)
      refine ls <| gy hF rfl rfl <| q1 hF rfl (e_move hF rfl) fun a hF => ?_
      refine ls <| gy hF rfl rfl <| q1 hF rfl (e_lenL (α := api_Op) (xs := r32.1) hF Tryd.runUnderlying26 rfl) fun a hF => ?_
      refine ls <| gy hF rfl rfl <| q1 hF rfl (e_move hF rfl) fun a hF => ?_
      refine ls <| gy hF rfl rfl <| q1 hF rfl (e_lenL (α := api_Op) (xs := r42.1) hF Tryd.runUnderlying26 rfl) fun a hF => ?_
      refine ls <| gy hF rfl rfl <| q1 hF rfl (e_neq hF rfl rfl) fun a hF => ?_
      refine ls <| q1 hF rfl (e_as (v' := .bool ((((decide (r19.1 ≠ r27.1)) || (decide (r19.2 ≠ r27.2))) || (decide (r32.2 ≠ r42.2))) || (decide ((r32.1.length : Int) ≠ (r42.1.length : Int))))) (e_pickF hF rfl rfl) (by rw [hb]; rfl)) fun a hF => ?_
      exact key _ _ (hF.has ⟨rfl, rfl, rfl, trivial⟩) hS
    intro a w hF hS
    refine re <| ?_
    replace hm := bind_some hm
    obtain ⟨_, hb49, hm⟩ := hm
    replace hb49 := bnt (sure_some hb49)
    refine tn <| cfv hF rfl hb49 <| wp_skip <| ?_
    refine tn <| th <| th <| ?_
    refine rg <| ?_
    refine ls <| q1 hF rfl (e_asg hF rfl) fun a hF => ?_
    refine re <| ?_
    refine tn <| midK (fun a w => ∃ (HA1 : PH), (leadlinelaw08_CodeNames_j1 N) = some r ∧ Ext w0 H HA1 ∧ Fr 136 [] a ∧ St w0 Nil [HA1] [] w) ?_ ?_
    ·
      replace hS := hS.pickL (.cons (.tail (.tail .head)) (.cons .head .nil))
      refine wp_block <| lp (α := Nat × Int) (fun (gh : Nat × Int) a w => match gh with | (nn2, vB2) => ∃ (HB1 : PH), (leadlinelaw08_CodeNames_l2 N (leadlinelaw08_CodeNames_j1 N) r32 r42) nn2 vB2 = some r ∧ Ext w0 H HB1 ∧ Fr 136 [(9, .slice oa34 r32.1.length cap35), (11, .slice oa44 r42.1.length cap45), (13, .int .i64 vB2)] a ∧ St w0 Nil [HB1] [sla 46 2 oa34 r32.1.length cap35 vs36, sla 46 2 oa44 r42.1.length cap45 vs46] w) (fun gh => gh.1) (N, 0) ⟨H, hm, (Ext.refl _ _), hF.has ⟨rfl, rfl, rfl, trivial⟩, hS⟩ ?_
      clear hm hF hS
      rintro ⟨nn2, vB2⟩ a w ⟨HB1, hm, hxHB1, hF, hS⟩
      obtain _ | nn2 := nn2
      · simp [leadlinelaw08_CodeNames_l2] at hm
      rw [leadlinelaw08_CodeNames_l2] at hm
      refine th <| th <| ?_
      refine rg <| ?_
      refine ls <| q1 hF rfl (e_move hF rfl) fun a hF => ?_
      refine ls <| q1 hF rfl (e_move hF rfl) fun a hF => ?_
      refine ls <| q1 hF rfl (e_lenL (α := api_Op) (xs := r32.1) hF Tryd.runUnderlying26 rfl) fun a hF => ?_
      refine ls <| q1 hF rfl (e_lss hF rfl rfl) fun a hF => ?_
      refine re <| ?_
      rcases bdich (decide (vB2 < (r32.1.length : Int))) with hb50 | hb50
      ·
        replace hm := itp_t hm hb50
        refine tn <| ctv hF rfl hb50 <| wp_skip <| ?_
        refine tn <| th <| wp_block <| th <| midK (fun a w => ∃ (vC1 : Bool), (leadlinelaw08_CodeNames_j3 (leadlinelaw08_CodeNames_l2 N (leadlinelaw08_CodeNames_j1 N) r32 r42 nn2) vB2) vC1 = some r ∧ Fr 136 [(9, .slice oa34 r32.1.length cap35), (11, .slice oa44 r42.1.length cap45), (13, .int .i64 vB2), (134, .bool vC1)] a ∧ St w0 Nil [HB1] [sla 46 2 oa34 r32.1.length cap35 vs36, sla 46 2 oa44 r42.1.length cap45 vs46] w) ?_ ?_
        ·
          replace hm := bind_some hm
          obtain ⟨x51, h52, hm⟩ := hm
          have ho53 := Rd.oaI (hS.rdO (.head _)) hv37 (by decide) h52
          obtain ⟨c54, g55, hl56⟩ := Rows.getI hv37 h52
          obtain rfl := api_Op_open g55
          replace hm := bind_some hm
          obtain ⟨x57, h58, hm⟩ := hm
          have ho59 := Rd.oaI (hS.rdO (.tail _ (.head _))) hv47 (by decide) h58
          obtain ⟨c60, g61, hl62⟩ := Rows.getI hv47 h58
          obtain rfl := api_Op_open g61
          rcases bdich (decide (x51.Kind ≠ x57.Kind)) with hb63 | hb63
          ·
            replace hm := itp_t hm hb63
            refine rxS 53 hS wide (by kernel_rfl) fun w hS => ?_
            refine x1 (St.ld hS) hF rfl rfl (fun _ _ _ h => h) (fun w hl => (e_move hF rfl)) fun a hF => ?_
            refine x1 (St.ld hS) hF rfl rfl (fun _ _ _ h => h) (fun w hl => (e_move hF rfl)) fun a hF => ?_
            refine x1 (St.ld hS) hF rfl rfl (fun _ _ _ h => h) (fun w hl => (e_iaI hF Tryd.runUnderlying26 Tryd.sizeOf46 rfl rfl h52 ho53)) fun a hF => ?_
            refine x1 (St.ld hS) hF rfl rfl (fun _ _ _ h => h) (fun w hl => (e_fa hF fa46_0 rfl)) fun a hF => ?_
            refine x1 (St.ld hS) hF rfl rfl (fun _ _ _ h => h) (fun w hl => (e_ld hF Tryd.isAgg3 rfl (hl.elO2 (.head _) (hl56 0 _ rfl)))) fun a hF => ?_
            refine x1 (St.ld hS) hF rfl rfl (fun _ _ _ h => h) (fun w hl => (e_move hF rfl)) fun a hF => ?_
            refine x1 (St.ld hS) hF rfl rfl (fun _ _ _ h => h) (fun w hl => (e_move hF rfl)) fun a hF => ?_
            refine x1 (St.ld hS) hF rfl rfl (fun _ _ _ h => h) (fun w hl => (e_iaI hF Tryd.runUnderlying26 Tryd.sizeOf46 rfl rfl h58 ho59)) fun a hF => ?_
            refine x1 (St.ld hS) hF rfl rfl (fun _ _ _ h => h) (fun w hl => (e_fa hF fa46_0 rfl)) fun a hF => ?_
            refine x1 (St.ld hS) hF rfl rfl (fun _ _ _ h => h) (fun w hl => (e_ld hF Tryd.isAgg3 rfl (hl.elO2 (.tail _ (.head _)) (hl62 0 _ rfl)))) fun a hF => ?_
            refine x1 (St.ld hS) hF rfl rfl (fun _ _ _ h => h) (fun w hl => (e_neq hF rfl rfl)) fun a hF => ?_
            refine x1 (St.ld hS) hF rfl rfl (fun _ _ _ h => h) (fun w hl => (e_as (e_move hF rfl) (congrArg Value.bool hb63))) fun a hF => ?_
            refine x1n (St.ld hS) hF rfl rfl rfl rfl rfl (fun _ _ _ h => h) fun a hF => ?_
            refine x1n (St.ld hS) hF rfl rfl rfl rfl rfl (fun _ _ _ h => h) fun a hF => ?_
            refine x1n (St.ld hS) hF rfl rfl rfl rfl rfl (fun _ _ _ h => h) fun a hF => ?_
            refine x1n (St.ld hS) hF rfl rfl rfl rfl rfl (fun _ _ _ h => h) fun a hF => ?_
            refine x1n (St.ld hS) hF rfl rfl rfl rfl rfl (fun _ _ _ h => h) fun a hF => ?_
            refine x1n (St.ld hS) hF rfl rfl rfl rfl rfl (fun _ _ _ h => h) fun a hF => ?_
            refine x1n (St.ld hS) hF rfl rfl rfl rfl rfl (fun _ _ _ h => h) fun a hF => ?_
            refine x1u (St.ld hS) hF rfl rfl rfl rfl (fun _ _ _ h => h) fun a hF => ?_
            refine x1u (St.ld hS) hF rfl rfl rfl rfl (fun _ _ _ h => h) fun a hF => ?_
            refine x1u (St.ld hS) hF rfl rfl rfl rfl (fun _ _ _ h => h) fun a hF => ?_
            refine x1u (St.ld hS) hF rfl rfl rfl rfl (fun _ _ _ h => h) fun a hF => ?_
            refine x1u (St.ld hS) hF rfl rfl rfl rfl (fun _ _ _ h => h) fun a hF => ?_
            refine x1u (St.ld hS) hF rfl rfl rfl rfl (fun _ _ _ h => h) fun a hF => ?_
            refine x1u (St.ld hS) hF rfl rfl rfl rfl (fun _ _ _ h => h) fun a hF => ?_
            refine x1u (St.ld hS) hF rfl rfl rfl rfl (fun _ _ _ h => h) fun a hF => ?_
            refine x1u (St.ld hS) hF rfl rfl rfl rfl (fun _ _ _ h => h) fun a hF => ?_
            refine x1n (St.ld hS) hF rfl rfl rfl rfl rfl (fun _ _ _ h => h) fun a hF => ?_
            refine x1 (St.ld hS) hF rfl rfl (fun _ _ _ h => h) (fun w hl => (e_pickT hF rfl rfl)) fun a hF => ?_
            refine x1 (St.ld hS) hF rfl rfl (fun _ _ _ h => h) (fun w hl => (e_move hF rfl)) fun a hF => ?_
            refine x1n (St.ld hS) hF rfl rfl rfl rfl rfl (fun _ _ _ h => h) fun a hF => ?_
            refine x1n (St.ld hS) hF rfl rfl rfl rfl rfl (fun _ _ _ h => h) fun a hF => ?_
            refine x1n (St.ld hS) hF rfl rfl rfl rfl rfl (fun _ _ _ h => h) fun a hF => ?_
            refine x1n (St.ld hS) hF rfl rfl rfl rfl rfl (fun _ _ _ h => h) fun a hF => ?_
            refine x1n (St.ld hS) hF rfl rfl rfl rfl rfl (fun _ _ _ h => h) fun a hF => ?_
            refine x1n (St.ld hS) hF rfl rfl rfl rfl rfl (fun _ _ _ h => h) fun a hF => ?_
            refine x1n (St.ld hS) hF rfl rfl rfl rfl rfl (fun _ _ _ h => h) fun a hF => ?_
            refine x1u (St.ld hS) hF rfl rfl rfl rfl (fun _ _ _ h => h) fun a hF => ?_
            refine x1u (St.ld hS) hF rfl rfl rfl rfl (fun _ _ _ h => h) fun a hF => ?_
            refine x1u (St.ld hS) hF rfl rfl rfl rfl (fun _ _ _ h => h) fun a hF => ?_
            refine x1u (St.ld hS) hF rfl rfl rfl rfl (fun _ _ _ h => h) fun a hF => ?_
            refine x1u (St.ld hS) hF rfl rfl rfl rfl (fun _ _ _ h => h) fun a hF => ?_
            refine x1u (St.ld hS) hF rfl rfl rfl rfl (fun _ _ _ h => h) fun a hF => ?_
            refine x1u (St.ld hS) hF rfl rfl rfl rfl (fun _ _ _ h => h) fun a hF => ?_
            refine x1u (St.ld hS) hF rfl rfl rfl rfl (fun _ _ _ h => h) fun a hF => ?_
            refine x1u (St.ld hS) hF rfl rfl rfl rfl (fun _ _ _ h => h) fun a hF => ?_
            refine x1u (St.ld hS) hF rfl rfl rfl rfl (fun _ _ _ h => h) fun a hF => ?_
            refine x1u (St.ld hS) hF rfl rfl rfl rfl (fun _ _ _ h => h) fun a hF => ?_
            refine x1u (St.ld hS) hF rfl rfl rfl rfl (fun _ _ _ h => h) fun a hF => ?_
            refine x1u (St.ld hS) hF rfl rfl rfl rfl (fun _ _ _ h => h) fun a hF => ?_
            refine x1n (St.ld hS) hF rfl rfl rfl rfl rfl (fun _ _ _ h => h) fun a hF => ?_
            refine x1 (St.ld hS) hF rfl rfl (fun _ _ _ h => h) (fun w hl => (e_pickT hF rfl rfl)) fun a hF => ?_
            refine xe <| ?_
            refine tn <| ?_
            exact ⟨true, hm, hF.has ⟨rfl, rfl, rfl, rfl, trivial⟩, hS⟩
          ·
            replace hm := itp_f hm hb63
            have ho64 := Rd.oaI (hS.rdO (.head _)) hv37 (by decide) h52
            rcases bdich (decide (x51.Kind ≠ 2)) with hb65 | hb65
            ·
              replace hm := itp_t hm hb65
              have ho66 := Rd.oaI (hS.rdO (.head _)) hv37 (by decide) h52
              have ho67 := Rd.oaI (hS.rdO (.tail _ (.head _))) hv47 (by decide) h58
              rcases bdich (decide (x51 ≠ x57)) with hb68 | hb68
              ·
                replace hm := itp_t hm hb68
                refine rxS 53 hS wide (by kernel_rfl) fun w hS => ?_
                refine x1 (St.ld hS) hF rfl rfl (fun _ _ _ h => h) (fun w hl => (e_move hF rfl)) fun a hF => ?_
                refine x1 (St.ld hS) hF rfl rfl (fun _ _ _ h => h) (fun w hl => (e_move hF rfl)) fun a hF => ?_
                refine x1 (St.ld hS) hF rfl rfl (fun _ _ _ h => h) (fun w hl => (e_iaI hF Tryd.runUnderlying26 Tryd.sizeOf46 rfl rfl h52 ho53)) fun a hF => ?_
                refine x1 (St.ld hS) hF rfl rfl (fun _ _ _ h => h) (fun w hl => (e_fa hF fa46_0 rfl)) fun a hF => ?_
                refine x1 (St.ld hS) hF rfl rfl (fun _ _ _ h => h) (fun w hl => (e_ld hF Tryd.isAgg3 rfl (hl.elO2 (.head _) (hl56 0 _ rfl)))) fun a hF => ?_
                refine x1 (St.ld hS) hF rfl rfl (fun _ _ _ h => h) (fun w hl => (e_move hF rfl)) fun a hF => ?_
                refine x1 (St.ld hS) hF rfl rfl (fun _ _ _ h => h) (fun w hl => (e_move hF rfl)) fun a hF => ?_
                refine x1 (St.ld hS) hF rfl rfl (fun _ _ _ h => h) (fun w hl => (e_iaI hF Tryd.runUnderlying26 Tryd.sizeOf46 rfl rfl h58 ho59)) fun a hF => ?_
                refine x1 (St.ld hS) hF rfl rfl (fun _ _ _ h => h) (fun w hl => (e_fa hF fa46_0 rfl)) fun a hF => ?_
                refine x1 (St.ld hS) hF rfl rfl (fun _ _ _ h => h) (fun w hl => (e_ld hF Tryd.isAgg3 rfl (hl.elO2 (.tail _ (.head _)) (hl62 0 _ rfl)))) fun a hF => ?_
                refine x1 (St.ld hS) hF rfl rfl (fun _ _ _ h => h) (fun w hl => (e_neq hF rfl rfl)) fun a hF => ?_
                refine x1 (St.ld hS) hF rfl rfl (fun _ _ _ h => h) (fun w hl => (e_as (e_move hF rfl) (congrArg Value.bool hb63))) fun a hF => ?_
                refine x1g (St.ld hS) hF rfl rfl rfl rfl (fun _ _ _ h => h) (fun w hl => (e_move hF rfl)) fun a hF => ?_
                refine x1g (St.ld hS) hF rfl rfl rfl rfl (fun _ _ _ h => h) (fun w hl => (e_move hF rfl)) fun a hF => ?_
                refine x1g (St.ld hS) hF rfl rfl rfl rfl (fun _ _ _ h => h) (fun w hl => (e_iaI hF Tryd.runUnderlying26 Tryd.sizeOf46 rfl rfl h52 ho64)) fun a hF => ?_
                refine x1g (St.ld hS) hF rfl rfl rfl rfl (fun _ _ _ h => h) (fun w hl => (e_fa hF fa46_0 rfl)) fun a hF => ?_
                refine x1g (St.ld hS) hF rfl rfl rfl rfl (fun _ _ _ h => h) (fun w hl => (e_ld hF Tryd.isAgg3 rfl (hl.elO2 (.head _) (hl56 0 _ rfl)))) fun a hF => ?_
                refine x1g (St.ld hS) hF rfl rfl rfl rfl (fun _ _ _ h => h) (fun w hl => (e_neq hF rfl rfl)) fun a hF => ?_
                refine x1g (St.ld hS) hF rfl rfl rfl rfl (fun _ _ _ h => h) (fun w hl => (e_as (e_move hF rfl) (congrArg Value.bool hb65))) fun a hF => ?_
                refine x1g (St.ld hS) hF rfl rfl rfl rfl (fun _ _ _ h => h) (fun w hl => (e_move hF rfl)) fun a hF => ?_
                refine x1g (St.ld hS) hF rfl rfl rfl rfl (fun _ _ _ h => h) (fun w hl => (e_move hF rfl)) fun a hF => ?_
                refine x1g (St.ld hS) hF rfl rfl rfl rfl (fun _ _ _ h => h) (fun w hl => (e_iaI hF Tryd.runUnderlying26 Tryd.sizeOf46 rfl rfl h52 ho66)) fun a hF => ?_
                refine x1g (St.ld hS) hF rfl rfl rfl rfl (fun _ _ _ h => h) (fun w hl => (e_ldA hF Tryd.isAgg46 Tryd.sizeOf46 rfl rfl (hl.elsO (.head _) hl56))) fun a hF => ?_
                refine x1g (St.ld hS) hF rfl rfl rfl rfl (fun _ _ _ h => h) (fun w hl => (e_move hF rfl)) fun a hF => ?_
                refine x1g (St.ld hS) hF rfl rfl rfl rfl (fun _ _ _ h => h) (fun w hl => (e_move hF rfl)) fun a hF => ?_
                refine x1g (St.ld hS) hF rfl rfl rfl rfl (fun _ _ _ h => h) (fun w hl => (e_iaI hF Tryd.runUnderlying26 Tryd.sizeOf46 rfl rfl h58 ho67)) fun a hF => ?_
                refine x1g (St.ld hS) hF rfl rfl rfl rfl (fun _ _ _ h => h) (fun w hl => (e_ldA hF Tryd.isAgg46 Tryd.sizeOf46 rfl rfl (hl.elsO (.tail _ (.head _)) hl62))) fun a hF => ?_
                refine x1g (St.ld hS) hF rfl rfl rfl rfl (fun _ _ _ h => h) (fun w hl => (api_Op_neq (x := x51) (y := x57) hF rfl rfl)) fun a hF => ?_
                refine x1g (St.ld hS) hF rfl rfl rfl rfl (fun _ _ _ h => h) (fun w hl => (e_pickT hF rfl rfl)) fun a hF => ?_
                refine x1 (St.ld hS) hF rfl rfl (fun _ _ _ h => h) (fun w hl => (e_pickF hF rfl rfl)) fun a hF => ?_
                refine x1 (St.ld hS) hF rfl rfl (fun _ _ _ h => h) (fun w hl => (e_as (e_move hF rfl) (congrArg Value.bool hb68))) fun a hF => ?_
                refine x1n (St.ld hS) hF rfl rfl rfl rfl rfl (fun _ _ _ h => h) fun a hF => ?_
                refine x1n (St.ld hS) hF rfl rfl rfl rfl rfl (fun _ _ _ h => h) fun a hF => ?_
                refine x1n (St.ld hS) hF rfl rfl rfl rfl rfl (fun _ _ _ h => h) fun a hF => ?_
                refine x1n (St.ld hS) hF rfl rfl rfl rfl rfl (fun _ _ _ h => h) fun a hF => ?_
                refine x1n (St.ld hS) hF rfl rfl rfl rfl rfl (fun _ _ _ h => h) fun a hF => ?_
                refine x1n (St.ld hS) hF rfl rfl rfl rfl rfl (fun _ _ _ h => h) fun a hF => ?_
                refine x1n (St.ld hS) hF rfl rfl rfl rfl rfl (fun _ _ _ h => h) fun a hF => ?_
                refine x1u (St.ld hS) hF rfl rfl rfl rfl (fun _ _ _ h => h) fun a hF => ?_
                refine x1u (St.ld hS) hF rfl rfl rfl rfl (fun _ _ _ h => h) fun a hF => ?_
                refine x1u (St.ld hS) hF rfl rfl rfl rfl (fun _ _ _ h => h) fun a hF => ?_
                refine x1u (St.ld hS) hF rfl rfl rfl rfl (fun _ _ _ h => h) fun a hF => ?_
                refine x1u (St.ld hS) hF rfl rfl rfl rfl (fun _ _ _ h => h) fun a hF => ?_
                refine x1u (St.ld hS) hF rfl rfl rfl rfl (fun _ _ _ h => h) fun a hF => ?_
                refine x1u (St.ld hS) hF rfl rfl rfl rfl (fun _ _ _ h => h) fun a hF => ?_
                refine x1u (St.ld hS) hF rfl rfl rfl rfl (fun _ _ _ h => h) fun a hF => ?_
                refine x1u (St.ld hS) hF rfl rfl rfl rfl (fun _ _ _ h => h) fun a hF => ?_
                refine x1u (St.ld hS) hF rfl rfl rfl rfl (fun _ _ _ h => h) fun a hF => ?_
                refine x1u (St.ld hS) hF rfl rfl rfl rfl (fun _ _ _ h => h) fun a hF => ?_
                refine x1u (St.ld hS) hF rfl rfl rfl rfl (fun _ _ _ h => h) fun a hF => ?_
                refine x1u (St.ld hS) hF rfl rfl rfl rfl (fun _ _ _ h => h) fun a hF => ?_
                refine x1n (St.ld hS) hF rfl rfl rfl rfl rfl (fun _ _ _ h => h) fun a hF => ?_
                refine x1 (St.ld hS) hF rfl rfl (fun _ _ _ h => h) (fun w hl => (e_pickT hF rfl rfl)) fun a hF => ?_
                refine xe <| ?_
                refine tn <| ?_
                exact ⟨true, hm, hF.has ⟨rfl, rfl, rfl, rfl, trivial⟩, hS⟩
              ·
                replace hm := itp_f hm hb68
                have ho69 := Rd.oaI (hS.rdO (.head _)) hv37 (by decide) h52
                rcases bdich (decide (x51.Kind = 2)) with hb70 | hb70
                ·
                  replace hm := itp_t hm hb70
                  have ho71 := Rd.oaI (hS.rdO (.head _)) hv37 (by decide) h52
                  have ho72 := Rd.oaI (hS.rdO (.tail _ (.head _))) hv47 (by decide) h58
                  refine rxS 53 hS wide (by kernel_rfl) fun w hS => ?_
                  refine x1 (St.ld hS) hF rfl rfl (fun _ _ _ h => h) (fun w hl => (e_move hF rfl)) fun a hF => ?_
                  refine x1 (St.ld hS) hF rfl rfl (fun _ _ _ h => h) (fun w hl => (e_move hF rfl)) fun a hF => ?_
                  refine x1 (St.ld hS) hF rfl rfl (fun _ _ _ h => h) (fun w hl => (e_iaI hF Tryd.runUnderlying26 Tryd.sizeOf46 rfl rfl h52 ho53)) fun a hF => ?_
                  refine x1 (St.ld hS) hF rfl rfl (fun _ _ _ h => h) (fun w hl => (e_fa hF fa46_0 rfl)) fun a hF => ?_
                  refine x1 (St.ld hS) hF rfl rfl (fun _ _ _ h => h) (fun w hl => (e_ld hF Tryd.isAgg3 rfl (hl.elO2 (.head _) (hl56 0 _ rfl)))) fun a hF => ?_
                  refine x1 (St.ld hS) hF rfl rfl (fun _ _ _ h => h) (fun w hl => (e_move hF rfl)) fun a hF => ?_
                  refine x1 (St.ld hS) hF rfl rfl (fun _ _ _ h => h) (fun w hl => (e_move hF rfl)) fun a hF => ?_
                  refine x1 (St.ld hS) hF rfl rfl (fun _ _ _ h => h) (fun w hl => (e_iaI hF Tryd.runUnderlying26 Tryd.sizeOf46 rfl rfl h58 ho59)) fun a hF => ?_
                  refine x1 (St.ld hS) hF rfl rfl (fun _ _ _ h => h) (fun w hl => (e_fa hF fa46_0 rfl)) fun a hF => ?_
                  refine x1 (St.ld hS) hF rfl rfl (fun _ _ _ h => h) (fun w hl => (e_ld hF Tryd.isAgg3 rfl (hl.elO2 (.tail _ (.head _)) (hl62 0 _ rfl)))) fun a hF => ?_
                  refine x1 (St.ld hS) hF rfl rfl (fun _ _ _ h => h) (fun w hl => (e_neq hF rfl rfl)) fun a hF => ?_
                  refine x1 (St.ld hS) hF rfl rfl (fun _ _ _ h => h) (fun w hl => (e_as (e_move hF rfl) (congrArg Value.bool hb63))) fun a hF => ?_
                  refine x1g (St.ld hS) hF rfl rfl rfl rfl (fun _ _ _ h => h) (fun w hl => (e_move hF rfl)) fun a hF => ?_
                  refine x1g (St.ld hS) hF rfl rfl rfl rfl (fun _ _ _ h => h) (fun w hl => (e_move hF rfl)) fun a hF => ?_
                  refine x1g (St.ld hS) hF rfl rfl rfl rfl (fun _ _ _ h => h) (fun w hl => (e_iaI hF Tryd.runUnderlying26 Tryd.sizeOf46 rfl rfl h52 ho64)) fun a hF => ?_
                  refine x1g (St.ld hS) hF rfl rfl rfl rfl (fun _ _ _ h => h) (fun w hl => (e_fa hF fa46_0 rfl)) fun a hF => ?_
                  refine x1g (St.ld hS) hF rfl rfl rfl rfl (fun _ _ _ h => h) (fun w hl => (e_ld hF Tryd.isAgg3 rfl (hl.elO2 (.head _) (hl56 0 _ rfl)))) fun a hF => ?_
                  refine x1g (St.ld hS) hF rfl rfl rfl rfl (fun _ _ _ h => h) (fun w hl => (e_neq hF rfl rfl)) fun a hF => ?_
                  refine x1g (St.ld hS) hF rfl rfl rfl rfl (fun _ _ _ h => h) (fun w hl => (e_as (e_move hF rfl) (congrArg Value.bool hb65))) fun a hF => ?_
                  refine x1g (St.ld hS) hF rfl rfl rfl rfl (fun _ _ _ h => h) (fun w hl => (e_move hF rfl)) fun a hF => ?_
                  refine x1g (St.ld hS) hF rfl rfl rfl rfl (fun _ _ _ h => h) (fun w hl => (e_move hF rfl)) fun a hF => ?_
                  refine x1g (St.ld hS) hF rfl rfl rfl rfl (fun _ _ _ h => h) (fun w hl => (e_iaI hF Tryd.runUnderlying26 Tryd.sizeOf46 rfl rfl h52 ho66)) fun a hF => ?_
                  refine x1g (St.ld hS) hF rfl rfl rfl rfl (fun _ _ _ h => h) (fun w hl => (e_ldA hF Tryd.isAgg46 Tryd.sizeOf46 rfl rfl (hl.elsO (.head _) hl56))) fun a hF => ?_
                  refine x1g (St.ld hS) hF rfl rfl rfl rfl (fun _ _ _ h => h) (fun w hl => (e_move hF rfl)) fun a hF => ?_
                  refine x1g (St.ld hS) hF rfl rfl rfl rfl (fun _ _ _ h => h) (fun w hl => (e_move hF rfl)) fun a hF => ?_
                  refine x1g (St.ld hS) hF rfl rfl rfl rfl (fun _ _ _ h => h) (fun w hl => (e_iaI hF Tryd.runUnderlying26 Tryd.sizeOf46 rfl rfl h58 ho67)) fun a hF => ?_
                  refine x1g (St.ld hS) hF rfl rfl rfl rfl (fun _ _ _ h => h) (fun w hl => (e_ldA hF Tryd.isAgg46 Tryd.sizeOf46 rfl rfl (hl.elsO (.tail _ (.head _)) hl62))) fun a hF => ?_
                  refine x1g (St.ld hS) hF rfl rfl rfl rfl (fun _ _ _ h => h) (fun w hl => (api_Op_neq (x := x51) (y := x57) hF rfl rfl)) fun a hF => ?_
                  refine x1g (St.ld hS) hF rfl rfl rfl rfl (fun _ _ _ h => h) (fun w hl => (e_pickT hF rfl rfl)) fun a hF => ?_
                  refine x1 (St.ld hS) hF rfl rfl (fun _ _ _ h => h) (fun w hl => (e_pickF hF rfl rfl)) fun a hF => ?_
                  refine x1 (St.ld hS) hF rfl rfl (fun _ _ _ h => h) (fun w hl => (e_as (e_move hF rfl) (congrArg Value.bool hb68))) fun a hF => ?_
                  refine x1g (St.ld hS) hF rfl rfl rfl rfl (fun _ _ _ h => h) (fun w hl => (e_move hF rfl)) fun a hF => ?_
                  refine x1g (St.ld hS) hF rfl rfl rfl rfl (fun _ _ _ h => h) (fun w hl => (e_move hF rfl)) fun a hF => ?_
                  refine x1g (St.ld hS) hF rfl rfl rfl rfl (fun _ _ _ h => h) (fun w hl => (e_iaI hF Tryd.runUnderlying26 Tryd.sizeOf46 rfl rfl h52 ho69)) fun a hF => ?_
                  refine x1g (St.ld hS) hF rfl rfl rfl rfl (fun _ _ _ h => h) (fun w hl => (e_fa hF fa46_0 rfl)) fun a hF => ?_
                  refine x1g (St.ld hS) hF rfl rfl rfl rfl (fun _ _ _ h => h) (fun w hl => (e_ld hF Tryd.isAgg3 rfl (hl.elO2 (.head _) (hl56 0 _ rfl)))) fun a hF => ?_
                  refine x1g (St.ld hS) hF rfl rfl rfl rfl (fun _ _ _ h => h) (fun w hl => (e_eql hF rfl rfl)) fun a hF => ?_
                  refine x1g (St.ld hS) hF rfl rfl rfl rfl (fun _ _ _ h => h) (fun w hl => (e_as (e_move hF rfl) (congrArg Value.bool hb70))) fun a hF => ?_
                  refine x1g (St.ld hS) hF rfl rfl rfl rfl (fun _ _ _ h => h) (fun w hl => (e_move hF rfl)) fun a hF => ?_
                  refine x1g (St.ld hS) hF rfl rfl rfl rfl (fun _ _ _ h => h) (fun w hl => (e_move hF rfl)) fun a hF => ?_
                  refine x1g (St.ld hS) hF rfl rfl rfl rfl (fun _ _ _ h => h) (fun w hl => (e_iaI hF Tryd.runUnderlying26 Tryd.sizeOf46 rfl rfl h52 ho71)) fun a hF => ?_
                  refine x1g (St.ld hS) hF rfl rfl rfl rfl (fun _ _ _ h => h) (fun w hl => (e_fa hF fa46_1 rfl)) fun a hF => ?_
                  refine x1g (St.ld hS) hF rfl rfl rfl rfl (fun _ _ _ h => h) (fun w hl => (e_ld hF Tryd.isAgg3 rfl (hl.elO2 (.head _) (hl56 1 _ rfl)))) fun a hF => ?_
                  refine x1g (St.ld hS) hF rfl rfl rfl rfl (fun _ _ _ h => h) (fun w hl => (e_add hF rfl rfl)) fun a hF => ?_
                  refine x1g (St.ld hS) hF rfl rfl rfl rfl (fun _ _ _ h => h) (fun w hl => (e_rem hF rfl rfl (by decide))) fun a hF => ?_
                  refine x1g (St.ld hS) hF rfl rfl rfl rfl (fun _ _ _ h => h) (fun w hl => (e_move hF rfl)) fun a hF => ?_
                  refine x1g (St.ld hS) hF rfl rfl rfl rfl (fun _ _ _ h => h) (fun w hl => (e_move hF rfl)) fun a hF => ?_
                  refine x1g (St.ld hS) hF rfl rfl rfl rfl (fun _ _ _ h => h) (fun w hl => (e_iaI hF Tryd.runUnderlying26 Tryd.sizeOf46 rfl rfl h58 ho72)) fun a hF => ?_
                  refine x1g (St.ld hS) hF rfl rfl rfl rfl (fun _ _ _ h => h) (fun w hl => (e_fa hF fa46_1 rfl)) fun a hF => ?_
                  refine x1g (St.ld hS) hF rfl rfl rfl rfl (fun _ _ _ h => h) (fun w hl => (e_ld hF Tryd.isAgg3 rfl (hl.elO2 (.tail _ (.head _)) (hl62 1 _ rfl)))) fun a hF => ?_
                  refine x1g (St.ld hS) hF rfl rfl rfl rfl (fun _ _ _ h => h) (fun w hl => (e_neq hF rfl rfl)) fun a hF => ?_
                  refine x1g (St.ld hS) hF rfl rfl rfl rfl (fun _ _ _ h => h) (fun w hl => (e_pickT hF rfl rfl)) fun a hF => ?_
                  refine x1 (St.ld hS) hF rfl rfl (fun _ _ _ h => h) (fun w hl => (e_pickF hF rfl rfl)) fun a hF => ?_
                  refine xe <| ?_
                  refine tn <| ?_
                  exact ⟨(decide (((IntKind.i64.wrap (x51.N + 1)).tmod 3) ≠ x57.N)), hm, hF.has ⟨rfl, rfl, rfl, rfl, trivial⟩, hS⟩
                ·
                  replace hm := itp_f hm hb70
                  refine rxS 53 hS wide (by kernel_rfl) fun w hS => ?_
                  refine x1 (St.ld hS) hF rfl rfl (fun _ _ _ h => h) (fun w hl => (e_move hF rfl)) fun a hF => ?_
                  refine x1 (St.ld hS) hF rfl rfl (fun _ _ _ h => h) (fun w hl => (e_move hF rfl)) fun a hF => ?_
                  refine x1 (St.ld hS) hF rfl rfl (fun _ _ _ h => h) (fun w hl => (e_iaI hF Tryd.runUnderlying26 Tryd.sizeOf46 rfl rfl h52 ho53)) fun a hF => ?_
                  refine x1 (St.ld hS) hF rfl rfl (fun _ _ _ h => h) (fun w hl => (e_fa hF fa46_0 rfl)) fun a hF => ?_
                  refine x1 (St.ld hS) hF rfl rfl (fun _ _ _ h => h) (fun w hl => (e_ld hF Tryd.isAgg3 rfl (hl.elO2 (.head _) (hl56 0 _ rfl)))) fun a hF => ?_
                  refine x1 (St.ld hS) hF rfl rfl (fun _ _ _ h => h) (fun w hl => (e_move hF rfl)) fun a hF => ?_
                  refine x1 (St.ld hS) hF rfl rfl (fun _ _ _ h => h) (fun w hl => (e_move hF rfl)) fun a hF => ?_
                  refine x1 (St.ld hS) hF rfl rfl (fun _ _ _ h => h) (fun w hl => (e_iaI hF Tryd.runUnderlying26 Tryd.sizeOf46 rfl rfl h58 ho59)) fun a hF => ?_
                  refine x1 (St.ld hS) hF rfl rfl (fun _ _ _ h => h) (fun w hl => (e_fa hF fa46_0 rfl)) fun a hF => ?_
                  refine x1 (St.ld hS) hF rfl rfl (fun _ _ _ h => h) (fun w hl => (e_ld hF Tryd.isAgg3 rfl (hl.elO2 (.tail _ (.head _)) (hl62 0 _ rfl)))) fun a hF => ?_
                  refine x1 (St.ld hS) hF rfl rfl (fun _ _ _ h => h) (fun w hl => (e_neq hF rfl rfl)) fun a hF => ?_
                  refine x1 (St.ld hS) hF rfl rfl (fun _ _ _ h => h) (fun w hl => (e_as (e_move hF rfl) (congrArg Value.bool hb63))) fun a hF => ?_
                  refine x1g (St.ld hS) hF rfl rfl rfl rfl (fun _ _ _ h => h) (fun w hl => (e_move hF rfl)) fun a hF => ?_
                  refine x1g (St.ld hS) hF rfl rfl rfl rfl (fun _ _ _ h => h) (fun w hl => (e_move hF rfl)) fun a hF => ?_
                  refine x1g (St.ld hS) hF rfl rfl rfl rfl (fun _ _ _ h => h) (fun w hl => (e_iaI hF Tryd.runUnderlying26 Tryd.sizeOf46 rfl rfl h52 ho64)) fun a hF => ?_
                  refine x1g (St.ld hS) hF rfl rfl rfl rfl (fun _ _ _ h => h) (fun w hl => (e_fa hF fa46_0 rfl)) fun a hF => ?_
                  refine x1g (St.ld hS) hF rfl rfl rfl rfl (fun _ _ _ h => h) (fun w hl => (e_ld hF Tryd.isAgg3 rfl (hl.elO2 (.head _) (hl56 0 _ rfl)))) fun a hF => ?_
                  refine x1g (St.ld hS) hF rfl rfl rfl rfl (fun _ _ _ h => h) (fun w hl => (e_neq hF rfl rfl)) fun a hF => ?_
                  refine x1g (St.ld hS) hF rfl rfl rfl rfl (fun _ _ _ h => h) (fun w hl => (e_as (e_move hF rfl) (congrArg Value.bool hb65))) fun a hF => ?_
                  refine x1g (St.ld hS) hF rfl rfl rfl rfl (fun _ _ _ h => h) (fun w hl => (e_move hF rfl)) fun a hF => ?_
                  refine x1g (St.ld hS) hF rfl rfl rfl rfl (fun _ _ _ h => h) (fun w hl => (e_move hF rfl)) fun a hF => ?_
                  refine x1g (St.ld hS) hF rfl rfl rfl rfl (fun _ _ _ h => h) (fun w hl => (e_iaI hF Tryd.runUnderlying26 Tryd.sizeOf46 rfl rfl h52 ho66)) fun a hF => ?_
                  refine x1g (St.ld hS) hF rfl rfl rfl rfl (fun _ _ _ h => h) (fun w hl => (e_ldA hF Tryd.isAgg46 Tryd.sizeOf46 rfl rfl (hl.elsO (.head _) hl56))) fun a hF => ?_
                  refine x1g (St.ld hS) hF rfl rfl rfl rfl (fun _ _ _ h => h) (fun w hl => (e_move hF rfl)) fun a hF => ?_
                  refine x1g (St.ld hS) hF rfl rfl rfl rfl (fun _ _ _ h => h) (fun w hl => (e_move hF rfl)) fun a hF => ?_
                  refine x1g (St.ld hS) hF rfl rfl rfl rfl (fun _ _ _ h => h) (fun w hl => (e_iaI hF Tryd.runUnderlying26 Tryd.sizeOf46 rfl rfl h58 ho67)) fun a hF => ?_
                  refine x1g (St.ld hS) hF rfl rfl rfl rfl (fun _ _ _ h => h) (fun w hl => (e_ldA hF Tryd.isAgg46 Tryd.sizeOf46 rfl rfl (hl.elsO (.tail _ (.head _)) hl62))) fun a hF => ?_
                  refine x1g (St.ld hS) hF rfl rfl rfl rfl (fun _ _ _ h => h) (fun w hl => (api_Op_neq (x := x51) (y := x57) hF rfl rfl)) fun a hF => ?_
                  refine x1g (St.ld hS) hF rfl rfl rfl rfl (fun _ _ _ h => h) (fun w hl => (e_pickT hF rfl rfl)) fun a hF => ?_
                  refine x1 (St.ld hS) hF rfl rfl (fun _ _ _ h => h) (fun w hl => (e_pickF hF rfl rfl)) fun a hF => ?_
                  refine x1 (St.ld hS) hF rfl rfl (fun _ _ _ h => h) (fun w hl => (e_as (e_move hF rfl) (congrArg Value.bool hb68))) fun a hF => ?_
                  refine x1g (St.ld hS) hF rfl rfl rfl rfl (fun _ _ _ h => h) (fun w hl => (e_move hF rfl)) fun a hF => ?_
                  refine x1g (St.ld hS) hF rfl rfl rfl rfl (fun _ _ _ h => h) (fun w hl => (e_move hF rfl)) fun a hF => ?_
                  refine x1g (St.ld hS) hF rfl rfl rfl rfl (fun _ _ _ h => h) (fun w hl => (e_iaI hF Tryd.runUnderlying26 Tryd.sizeOf46 rfl rfl h52 ho69)) fun a hF => ?_
                  refine x1g (St.ld hS) hF rfl rfl rfl rfl (fun _ _ _ h => h) (fun w hl => (e_fa hF fa46_0 rfl)) fun a hF => ?_
                  refine x1g (St.ld hS) hF rfl rfl rfl rfl (fun _ _ _ h => h) (fun w hl => (e_ld hF Tryd.isAgg3 rfl (hl.elO2 (.head _) (hl56 0 _ rfl)))) fun a hF => ?_
                  refine x1g (St.ld hS) hF rfl rfl rfl rfl (fun _ _ _ h => h) (fun w hl => (e_eql hF rfl rfl)) fun a hF => ?_
                  refine x1g (St.ld hS) hF rfl rfl rfl rfl (fun _ _ _ h => h) (fun w hl => (e_as (e_move hF rfl) (congrArg Value.bool hb70))) fun a hF => ?_
                  refine x1n (St.ld hS) hF rfl rfl rfl rfl rfl (fun _ _ _ h => h) fun a hF => ?_
                  refine x1n (St.ld hS) hF rfl rfl rfl rfl rfl (fun _ _ _ h => h) fun a hF => ?_
                  refine x1n (St.ld hS) hF rfl rfl rfl rfl rfl (fun _ _ _ h => h) fun a hF => ?_
                  refine x1n (St.ld hS) hF rfl rfl rfl rfl rfl (fun _ _ _ h => h) fun a hF => ?_
                  refine x1n (St.ld hS) hF rfl rfl rfl rfl rfl (fun _ _ _ h => h) fun a hF => ?_
                  refine x1n (St.ld hS) hF rfl rfl rfl rfl rfl (fun _ _ _ h => h) fun a hF => ?_
                  refine x1n (St.ld hS) hF rfl rfl rfl rfl rfl (fun _ _ _ h => h) fun a hF => ?_
                  refine x1n (St.ld hS) hF rfl rfl rfl rfl rfl (fun _ _ _ h => h) fun a hF => ?_
                  refine x1n (St.ld hS) hF rfl rfl rfl rfl rfl (fun _ _ _ h => h) fun a hF => ?_
                  refine x1n (St.ld hS) hF rfl rfl rfl rfl rfl (fun _ _ _ h => h) fun a hF => ?_
                  refine x1n (St.ld hS) hF rfl rfl rfl rfl rfl (fun _ _ _ h => h) fun a hF => ?_
                  refine x1n (St.ld hS) hF rfl rfl rfl rfl rfl (fun _ _ _ h => h) fun a hF => ?_
                  refine x1n (St.ld hS) hF rfl rfl rfl rfl rfl (fun _ _ _ h => h) fun a hF => ?_
                  refine x1g (St.ld hS) hF rfl rfl rfl rfl (fun _ _ _ h => h) (fun w hl => (e_pickF hF rfl rfl)) fun a hF => ?_
                  refine x1 (St.ld hS) hF rfl rfl (fun _ _ _ h => h) (fun w hl => (e_pickF hF rfl rfl)) fun a hF => ?_
                  refine xe <| ?_
                  refine tn <| ?_
                  exact ⟨false, hm, hF.has ⟨rfl, rfl, rfl, rfl, trivial⟩, hS⟩
            ·
              replace hm := itp_f hm hb65
              have ho73 := Rd.oaI (hS.rdO (.head _)) hv37 (by decide) h52
              rcases bdich (decide (x51.Kind = 2)) with hb74 | hb74
              ·
                replace hm := itp_t hm hb74
                have ho75 := Rd.oaI (hS.rdO (.head _)) hv37 (by decide) h52
                have ho76 := Rd.oaI (hS.rdO (.tail _ (.head _))) hv47 (by decide) h58
                refine rxS 53 hS wide (by kernel_rfl) fun w hS => ?_
                refine x1 (St.ld hS) hF rfl rfl (fun _ _ _ h => h) (fun w hl => (e_move hF rfl)) fun a hF => ?_
                refine x1 (St.ld hS) hF rfl rfl (fun _ _ _ h => h) (fun w hl => (e_move hF rfl)) fun a hF => ?_
                refine x1 (St.ld hS) hF rfl rfl (fun _ _ _ h => h) (fun w hl => (e_iaI hF Tryd.runUnderlying26 Tryd.sizeOf46 rfl rfl h52 ho53)) fun a hF => ?_
                refine x1 (St.ld hS) hF rfl rfl (fun _ _ _ h => h) (fun w hl => (e_fa hF fa46_0 rfl)) fun a hF => ?_
                refine x1 (St.ld hS) hF rfl rfl (fun _ _ _ h => h) (fun w hl => (e_ld hF Tryd.isAgg3 rfl (hl.elO2 (.head _) (hl56 0 _ rfl)))) fun a hF => ?_
                refine x1 (St.ld hS) hF rfl rfl (fun _ _ _ h => h) (fun w hl => (e_move hF rfl)) fun a hF => ?_
                refine x1 (St.ld hS) hF rfl rfl (fun _ _ _ h => h) (fun w hl => (e_move hF rfl)) fun a hF => ?_
                refine x1 (St.ld hS) hF rfl rfl (fun _ _ _ h => h) (fun w hl => (e_iaI hF Tryd.runUnderlying26 Tryd.sizeOf46 rfl rfl h58 ho59)) fun a hF => ?_
                refine x1 (St.ld hS) hF rfl rfl (fun _ _ _ h => h) (fun w hl => (e_fa hF fa46_0 rfl)) fun a hF => ?_
                refine x1 (St.ld hS) hF rfl rfl (fun _ _ _ h => h) (fun w hl => (e_ld hF Tryd.isAgg3 rfl (hl.elO2 (.tail _ (.head _)) (hl62 0 _ rfl)))) fun a hF => ?_
                refine x1 (St.ld hS) hF rfl rfl (fun _ _ _ h => h) (fun w hl => (e_neq hF rfl rfl)) fun a hF => ?_
                refine x1 (St.ld hS) hF rfl rfl (fun _ _ _ h => h) (fun w hl => (e_as (e_move hF rfl) (congrArg Value.bool hb63))) fun a hF => ?_
                refine x1g (St.ld hS) hF rfl rfl rfl rfl (fun _ _ _ h => h) (fun w hl => (e_move hF rfl)) fun a hF => ?_
                refine x1g (St.ld hS) hF rfl rfl rfl rfl (fun _ _ _ h => h) (fun w hl => (e_move hF rfl)) fun a hF => ?_
                refine x1g (St.ld hS) hF rfl rfl rfl rfl (fun _ _ _ h => h) (fun w hl => (e_iaI hF Tryd.runUnderlying26 Tryd.sizeOf46 rfl rfl h52 ho64)) fun a hF => ?_
                refine x1g (St.ld hS) hF rfl rfl rfl rfl (fun _ _ _ h => h) (fun w hl => (e_fa hF fa46_0 rfl)) fun a hF => ?_
                refine x1g (St.ld hS) hF rfl rfl rfl rfl (fun _ _ _ h => h) (fun w hl => (e_ld hF Tryd.isAgg3 rfl (hl.elO2 (.head _) (hl56 0 _ rfl)))) fun a hF => ?_
                refine x1g (St.ld hS) hF rfl rfl rfl rfl (fun _ _ _ h => h) (fun w hl => (e_neq hF rfl rfl)) fun a hF => ?_
                refine x1g (St.ld hS) hF rfl rfl rfl rfl (fun _ _ _ h => h) (fun w hl => (e_as (e_move hF rfl) (congrArg Value.bool hb65))) fun a hF => ?_
                refine x1n (St.ld hS) hF rfl rfl rfl rfl rfl (fun _ _ _ h => h) fun a hF => ?_
                refine x1n (St.ld hS) hF rfl rfl rfl rfl rfl (fun _ _ _ h => h) fun a hF => ?_
                refine x1n (St.ld hS) hF rfl rfl rfl rfl rfl (fun _ _ _ h => h) fun a hF => ?_
                refine x1n (St.ld hS) hF rfl rfl rfl rfl rfl (fun _ _ _ h => h) fun a hF => ?_
                refine x1n (St.ld hS) hF rfl rfl rfl rfl rfl (fun _ _ _ h => h) fun a hF => ?_
                refine x1n (St.ld hS) hF rfl rfl rfl rfl rfl (fun _ _ _ h => h) fun a hF => ?_
                refine x1n (St.ld hS) hF rfl rfl rfl rfl rfl (fun _ _ _ h => h) fun a hF => ?_
                refine x1n (St.ld hS) hF rfl rfl rfl rfl rfl (fun _ _ _ h => h) fun a hF => ?_
                refine x1n (St.ld hS) hF rfl rfl rfl rfl rfl (fun _ _ _ h => h) fun a hF => ?_
                refine x1g (St.ld hS) hF rfl rfl rfl rfl (fun _ _ _ h => h) (fun w hl => (e_pickF hF rfl rfl)) fun a hF => ?_
                refine x1 (St.ld hS) hF rfl rfl (fun _ _ _ h => h) (fun w hl => (e_pickF hF rfl rfl)) fun a hF => ?_
                refine x1 (St.ld hS) hF rfl rfl (fun _ _ _ h => h) (fun w hl => (e_move hF rfl)) fun a hF => ?_
                refine x1g (St.ld hS) hF rfl rfl rfl rfl (fun _ _ _ h => h) (fun w hl => (e_move hF rfl)) fun a hF => ?_
                refine x1g (St.ld hS) hF rfl rfl rfl rfl (fun _ _ _ h => h) (fun w hl => (e_move hF rfl)) fun a hF => ?_
                refine x1g (St.ld hS) hF rfl rfl rfl rfl (fun _ _ _ h => h) (fun w hl => (e_iaI hF Tryd.runUnderlying26 Tryd.sizeOf46 rfl rfl h52 ho73)) fun a hF => ?_
                refine x1g (St.ld hS) hF rfl rfl rfl rfl (fun _ _ _ h => h) (fun w hl => (e_fa hF fa46_0 rfl)) fun a hF => ?_
                refine x1g (St.ld hS) hF rfl rfl rfl rfl (fun _ _ _ h => h) (fun w hl => (e_ld hF Tryd.isAgg3 rfl (hl.elO2 (.head _) (hl56 0 _ rfl)))) fun a hF => ?_
                refine x1g (St.ld hS) hF rfl rfl rfl rfl (fun _ _ _ h => h) (fun w hl => (e_eql hF rfl rfl)) fun a hF => ?_
                refine x1g (St.ld hS) hF rfl rfl rfl rfl (fun _ _ _ h => h) (fun w hl => (e_as (e_move hF rfl) (congrArg Value.bool hb74))) fun a hF => ?_
                refine x1g (St.ld hS) hF rfl rfl rfl rfl (fun _ _ _ h => h) (fun w hl => (e_move hF rfl)) fun a hF => ?_
                refine x1g (St.ld hS) hF rfl rfl rfl rfl (fun _ _ _ h => h) (fun w hl => (e_move hF rfl)) fun a hF => ?_
                refine x1g (St.ld hS) hF rfl rfl rfl rfl (fun _ _ _ h => h) (fun w hl => (e_iaI hF Tryd.runUnderlying26 Tryd.sizeOf46 rfl rfl h52 ho75)) fun a hF => ?_
                refine x1g (St.ld hS) hF rfl rfl rfl rfl (fun _ _ _ h => h) (fun w hl => (e_fa hF fa46_1 rfl)) fun a hF => ?_
                refine x1g (St.ld hS) hF rfl rfl rfl rfl (fun _ _ _ h => h) (fun w hl => (e_ld hF Tryd.isAgg3 rfl (hl.elO2 (.head _) (hl56 1 _ rfl)))) fun a hF => ?_
                refine x1g (St.ld hS) hF rfl rfl rfl rfl (fun _ _ _ h => h) (fun w hl => (e_add hF rfl rfl)) fun a hF => ?_
                refine x1g (St.ld hS) hF rfl rfl rfl rfl (fun _ _ _ h => h) (fun w hl => (e_rem hF rfl rfl (by decide))) fun a hF => ?_
                refine x1g (St.ld hS) hF rfl rfl rfl rfl (fun _ _ _ h => h) (fun w hl => (e_move hF rfl)) fun a hF => ?_
                refine x1g (St.ld hS) hF rfl rfl rfl rfl (fun _ _ _ h => h) (fun w hl => (e_move hF rfl)) fun a hF => ?_
                refine x1g (St.ld hS) hF rfl rfl rfl rfl (fun _ _ _ h => h) (fun w hl => (e_iaI hF Tryd.runUnderlying26 Tryd.sizeOf46 rfl rfl h58 ho76)) fun a hF => ?_
                refine x1g (St.ld hS) hF rfl rfl rfl rfl (fun _ _ _ h => h) (fun w hl => (e_fa hF fa46_1 rfl)) fun a hF => ?_
                refine x1g (St.ld hS) hF rfl rfl rfl rfl (fun _ _ _ h => h) (fun w hl => (e_ld hF Tryd.isAgg3 rfl (hl.elO2 (.tail _ (.head _)) (hl62 1 _ rfl)))) fun a hF => ?_
                refine x1g (St.ld hS) hF rfl rfl rfl rfl (fun _ _ _ h => h) (fun w hl => (e_neq hF rfl rfl)) fun a hF => ?_
                refine x1g (St.ld hS) hF rfl rfl rfl rfl (fun _ _ _ h => h) (fun w hl => (e_pickT hF rfl rfl)) fun a hF => ?_
                refine x1 (St.ld hS) hF rfl rfl (fun _ _ _ h => h) (fun w hl => (e_pickF hF rfl rfl)) fun a hF => ?_
                refine xe <| ?_
                refine tn <| ?_
                exact ⟨(decide (((IntKind.i64.wrap (x51.N + 1)).tmod 3) ≠ x57.N)), hm, hF.has ⟨rfl, rfl, rfl, rfl, trivial⟩, hS⟩
              ·
                replace hm := itp_f hm hb74
                refine rxS 53 hS wide (by kernel_rfl) fun w hS => ?_
                refine x1 (St.ld hS) hF rfl rfl (fun _ _ _ h => h) (fun w hl => (e_move hF rfl)) fun a hF => ?_
                refine x1 (St.ld hS) hF rfl rfl (fun _ _ _ h => h) (fun w hl => (e_move hF rfl)) fun a hF => ?_
                refine x1 (St.ld hS) hF rfl rfl (fun _ _ _ h => h) (fun w hl => (e_iaI hF Tryd.runUnderlying26 Tryd.sizeOf46 rfl rfl h52 ho53)) fun a hF => ?_
                refine x1 (St.ld hS) hF rfl rfl (fun _ _ _ h => h) (fun w hl => (e_fa hF fa46_0 rfl)) fun a hF => ?_
                refine x1 (St.ld hS) hF rfl rfl (fun _ _ _ h => h) (fun w hl => (e_ld hF Tryd.isAgg3 rfl (hl.elO2 (.head _) (hl56 0 _ rfl)))) fun a hF => ?_
                refine x1 (St.ld hS) hF rfl rfl (fun _ _ _ h => h) (fun w hl => (e_move hF rfl)) fun a hF => ?_
                refine x1 (St.ld hS) hF rfl rfl (fun _ _ _ h => h) (fun w hl => (e_move hF rfl)) fun a hF => ?_
                refine x1 (St.ld hS) hF rfl rfl (fun _ _ _ h => h) (fun w hl => (e_iaI hF Tryd.runUnderlying26 Tryd.sizeOf46 rfl rfl h58 ho59)) fun a hF => ?_
                refine x1 (St.ld hS) hF rfl rfl (fun _ _ _ h => h) (fun w hl => (e_fa hF fa46_0 rfl)) fun a hF => ?_
                refine x1 (St.ld hS) hF rfl rfl (fun _ _ _ h => h) (fun w hl => (e_ld hF Tryd.isAgg3 rfl (hl.elO2 (.tail _ (.head _)) (hl62 0 _ rfl)))) fun a hF => ?_
                refine x1 (St.ld hS) hF rfl rfl (fun _ _ _ h => h) (fun w hl => (e_neq hF rfl rfl)) fun a hF => ?_
                refine x1 (St.ld hS) hF rfl rfl (fun _ _ _ h => h) (fun w hl => (e_as (e_move hF rfl) (congrArg Value.bool hb63))) fun a hF => ?_
                refine x1g (St.ld hS) hF rfl rfl rfl rfl (fun _ _ _ h => h) (fun w hl => (e_move hF rfl)) fun a hF => ?_
                refine x1g (St.ld hS) hF rfl rfl rfl rfl (fun _ _ _ h => h) (fun w hl => (e_move hF rfl)) fun a hF => ?_
                refine x1g (St.ld hS) hF rfl rfl rfl rfl (fun _ _ _ h => h) (fun w hl => (e_iaI hF Tryd.runUnderlying26 Tryd.sizeOf46 rfl rfl h52 ho64)) fun a hF => ?_
                refine x1g (St.ld hS) hF rfl rfl rfl rfl (fun _ _ _ h => h) (fun w hl => (e_fa hF fa46_0 rfl)) fun a hF => ?_
                refine x1g (St.ld hS) hF rfl rfl rfl rfl (fun _ _ _ h => h) (fun w hl => (e_ld hF Tryd.isAgg3 rfl (hl.elO2 (.head _) (hl56 0 _ rfl)))) fun a hF => ?_
                refine x1g (St.ld hS) hF rfl rfl rfl rfl (fun _ _ _ h => h) (fun w hl => (e_neq hF rfl rfl)) fun a hF => ?_
                refine x1g (St.ld hS) hF rfl rfl rfl rfl (fun _ _ _ h => h) (fun w hl => (e_as (e_move hF rfl) (congrArg Value.bool hb65))) fun a hF => ?_
                refine x1n (St.ld hS) hF rfl rfl rfl rfl rfl (fun _ _ _ h => h) fun a hF => ?_
                refine x1n (St.ld hS) hF rfl rfl rfl rfl rfl (fun _ _ _ h => h) fun a hF => ?_
                refine x1n (St.ld hS) hF rfl rfl rfl rfl rfl (fun _ _ _ h => h) fun a hF => ?_
                refine x1n (St.ld hS) hF rfl rfl rfl rfl rfl (fun _ _ _ h => h) fun a hF => ?_
                refine x1n (St.ld hS) hF rfl rfl rfl rfl rfl (fun _ _ _ h => h) fun a hF => ?_
                refine x1n (St.ld hS) hF rfl rfl rfl rfl rfl (fun _ _ _ h => h) fun a hF => ?_
                refine x1n (St.ld hS) hF rfl rfl rfl rfl rfl (fun _ _ _ h => h) fun a hF => ?_
                refine x1n (St.ld hS) hF rfl rfl rfl rfl rfl (fun _ _ _ h => h) fun a hF => ?_
                refine x1n (St.ld hS) hF rfl rfl rfl rfl rfl (fun _ _ _ h => h) fun a hF => ?_
                refine x1g (St.ld hS) hF rfl rfl rfl rfl (fun _ _ _ h => h) (fun w hl => (e_pickF hF rfl rfl)) fun a hF => ?_
                refine x1 (St.ld hS) hF rfl rfl (fun _ _ _ h => h) (fun w hl => (e_pickF hF rfl rfl)) fun a hF => ?_
                refine x1 (St.ld hS) hF rfl rfl (fun _ _ _ h => h) (fun w hl => (e_move hF rfl)) fun a hF => ?_
                refine x1g (St.ld hS) hF rfl rfl rfl rfl (fun _ _ _ h => h) (fun w hl => (e_move hF rfl)) fun a hF => ?_
                refine x1g (St.ld hS) hF rfl rfl rfl rfl (fun _ _ _ h => h) (fun w hl => (e_move hF rfl)) fun a hF => ?_
                refine x1g (St.ld hS) hF rfl rfl rfl rfl (fun _ _ _ h => h) (fun w hl => (e_iaI hF Tryd.runUnderlying26 Tryd.sizeOf46 rfl rfl h52 ho73)) fun a hF => ?_
                refine x1g (St.ld hS) hF rfl rfl rfl rfl (fun _ _ _ h => h) (fun w hl => (e_fa hF fa46_0 rfl)) fun a hF => ?_
                refine x1g (St.ld hS) hF rfl rfl rfl rfl (fun _ _ _ h => h) (fun w hl => (e_ld hF Tryd.isAgg3 rfl (hl.elO2 (.head _) (hl56 0 _ rfl)))) fun a hF => ?_
                refine x1g (St.ld hS) hF rfl rfl rfl rfl (fun _ _ _ h => h) (fun w hl => (e_eql hF rfl rfl)) fun a hF => ?_
                refine x1g (St.ld hS) hF rfl rfl rfl rfl (fun _ _ _ h => h) (fun w hl => (e_as (e_move hF rfl) (congrArg Value.bool hb74))) fun a hF => ?_
                refine x1n (St.ld hS) hF rfl rfl rfl rfl rfl (fun _ _ _ h => h) fun a hF => ?_
                refine x1n (St.ld hS) hF rfl rfl rfl rfl rfl (fun _ _ _ h => h) fun a hF => ?_
                refine x1n (St.ld hS) hF rfl rfl rfl rfl rfl (fun _ _ _ h => h) fun a hF => ?_
                refine x1n (St.ld hS) hF rfl rfl rfl rfl rfl (fun _ _ _ h => h) fun a hF => ?_
                refine x1n (St.ld hS) hF rfl rfl rfl rfl rfl (fun _ _ _ h => h) fun a hF => ?_
                refine x1n (St.ld hS) hF rfl rfl rfl rfl rfl (fun _ _ _ h => h) fun a hF => ?_
                refine x1n (St.ld hS) hF rfl rfl rfl rfl rfl (fun _ _ _ h => h) fun a hF => ?_
                refine x1n (St.ld hS) hF rfl rfl rfl rfl rfl (fun _ _ _ h => h) fun a hF => ?_
                refine x1n (St.ld hS) hF rfl rfl rfl rfl rfl (fun _ _ _ h => h) fun a hF => ?_
                refine x1n (St.ld hS) hF rfl rfl rfl rfl rfl (fun _ _ _ h => h) fun a hF => ?_
                refine x1n (St.ld hS) hF rfl rfl rfl rfl rfl (fun _ _ _ h => h) fun a hF => ?_
                refine x1n (St.ld hS) hF rfl rfl rfl rfl rfl (fun _ _ _ h => h) fun a hF => ?_
                refine x1n (St.ld hS) hF rfl rfl rfl rfl rfl (fun _ _ _ h => h) fun a hF => ?_
                refine x1g (St.ld hS) hF rfl rfl rfl rfl (fun _ _ _ h => h) (fun w hl => (e_pickF hF rfl rfl)) fun a hF => ?_
                refine x1 (St.ld hS) hF rfl rfl (fun _ _ _ h => h) (fun w hl => (e_pickF hF rfl rfl)) fun a hF => ?_
                refine xe <| ?_
                refine tn <| ?_
                exact ⟨false, hm, hF.has ⟨rfl, rfl, rfl, rfl, trivial⟩, hS⟩
        clear hm hF hS
        rintro a w ⟨vC1, hm, hF, hS⟩
        unfold leadlinelaw08_CodeNames_j3 at hm
        replace hm := bind_some hm
        obtain ⟨_, hb77, hm⟩ := hm
        replace hb77 := bnt (sure_some hb77)
        refine cfv hF rfl hb77 <| wp_skip <| ?_
        refine bn <| tn <| ?_
        refine rg <| ?_
        refine ls <| q1 hF rfl (e_move hF rfl) fun a hF => ?_
        refine ls <| q1 hF rfl (e_add hF rfl rfl) fun a hF => ?_
        refine ls <| q1 hF rfl (e_asg hF rfl) fun a hF => ?_
        refine re <| ?_
        refine tn <| ?_
        exact ⟨(nn2, (IntKind.i64.wrap (vB2 + 1))), ⟨HB1, hm, hxHB1, hF.has ⟨rfl, rfl, rfl, trivial⟩, hS⟩, Nat.lt_succ_self _⟩
      ·
        replace hm := itp_f hm hb50
        refine tn <| cfv hF rfl hb50 <| ?_
        refine wp_exit <| tx <| tx <| bx <| ?_
        refine tn <| ?_
        replace hS := hS.pickL .nil
        exact ⟨HB1, hm, hxHB1, hF.has trivial, hS⟩
    clear hm hF hS
    rintro a w ⟨HA1, hm, hxHA1, hF, hS⟩
    unfold leadlinelaw08_CodeNames_j1 at hm
    refine th <| ?_
    replace hm := bind_some hm
    obtain ⟨r78, h79, hm⟩ := hm
    refine rg <| ?_
    refine ls <| c1 hF rfl Tryd.call14 (leadlinelaw08_fixed_c (hp_le _) (Tab.mono (Tab.mono hT hxHA1.sub) (St.up hS)) h79) trivial (fun v w a hR hF => ?_)
    obtain ⟨rfl, hk⟩ := hR
    replace hS := hS.pass hk
    clear hk
    refine ls <| q1 hF rfl (e_asg hF rfl) fun a hF => ?_
    refine re <| ?_
    refine tn <| ?_
    refine wp_ret <| ?_
    obtain rfl := Option.some.inj hm
    exact r1 hF Tryd.results7 rfl ⟨rfl, hS.keep⟩
end Go.LM.CODE
