/- Walks, lifted by program. No condition beyond each theorem's own premises. -/
import Derived.Test.YtfpdddablkocoaaDoorCDQCodeValues1
namespace Go.LM.CODE
open Go Go.LL Go.MD Go.LM Go.Proofs Go.MD.CODE

set_option maxRecDepth 100000 in
theorem code_make_c : ∀ (N : Nat) {w0 : World} {H : PH} (hH : H.le w0) {oa2 : Option Addr} {cap3 : Nat} {p1 : (List api_Node)} (hc4 : p1.length ≤ cap3) (hr5 : SR H oa2 p1) {p6 : Int} {oa8 : Option Addr} {cap9 : Nat} {p7 : (List Str)} (hc10 : p7.length ≤ cap9) (hr11 : SR H oa8 p7) {r : (List api_Op)} (hm : code_make N p1 p6 p7 = some r), Tot Tryd.prog 28 #[.slice oa2 p1.length cap3, .int .i64 p6, .slice oa8 p7.length cap9] w0 (fun v w' => ∃ (oa0 : Option Addr) (cap0 : Nat) (vs0 : List Value), v = .slice oa0 r.length cap0 ∧ (∀ h, Rows h vs0 r) ∧ Fresh w0 (sla 46 2 oa0 r.length cap0 vs0) w') := by
  intro N
  induction N with
  | zero => intros; rename_i hm; simp [code_make] at hm
  | succ N ih =>
  intro w0 H hH oa2 cap3 p1 hc4 hr5 p6 oa8 cap9 p7 hc10 hr11 r hm
  rw [code_make] at hm
  refine fn0 (args := [.slice oa2 p1.length cap3, .int .i64 p6, .slice oa8 p7.length cap9]) (F := [(0, .slice oa2 p1.length cap3), (1, .int .i64 p6), (2, .slice oa8 p7.length cap9)]) Tryd.func28 rfl Tryd.ntmps28 rfl rfl fun a hF => ?_
  have hS : St w0 Nil [H] [] w0 := start1 hH
  refine th <| ?_
  refine rg <| ?_
  refine ls <| q1 hF rfl (e_asg hF rfl) fun a hF => ?_
  refine re <| ?_
  refine tn <| th <| ?_
  refine rg <| ?_
  refine ls <| q1 hF rfl (e_asg hF rfl) fun a hF => ?_
  refine re <| ?_
  refine tn <| th <| ?_
  refine rg <| ?_
  refine ls <| q1 hF rfl (e_move hF rfl) fun a hF => ?_
  refine ls <| q1 hF rfl (e_add hF rfl rfl) fun a hF => ?_
  refine ls <| q1 hF rfl (e_asg hF rfl) fun a hF => ?_
  refine re <| ?_
  refine tn <| th <| th <| ?_
  replace hm := bind_some hm
  obtain ⟨x12, h13, hm⟩ := hm
  obtain ⟨c14, g15, hl16⟩ := SR.get hr5 h13
  obtain rfl := api_Node_open g15
  replace hm := bind_some hm
  obtain ⟨r17, h18, hm⟩ := hm
  refine rg <| ?_
  refine ls <| q1 hF rfl (e_move hF rfl) fun a hF => ?_
  refine ls <| q1 hF rfl (e_move hF rfl) fun a hF => ?_
  refine ls <| q1 hF rfl (e_iaI hF Tryd.runUnderlying22 Tryd.sizeOf39 rfl rfl h13 (SR.oaI hr5 (by decide) h13)) fun a hF => ?_
  refine ls <| q1 hF rfl (e_fa hF fa39_0 rfl) fun a hF => ?_
  refine ls <| q1 hF rfl (e_ld hF Tryd.isAgg3 rfl (PH.le.cell (Lds.le (St.ld hS)) (hl16 0 _ rfl))) fun a hF => ?_
  refine ls <| c1 hF rfl Tryd.call34 (code_wants_c (hp_le _) h18) ⟨rfl, trivial⟩ (fun v w a hR hF => ?_)
  obtain ⟨rfl, hk⟩ := hR
  replace hS := hS.pass hk
  clear hk
  refine ls <| q1 hF rfl (e_move hF rfl) fun a hF => ?_
  refine re <| ?_
  refine tn <| midK (fun a w => ∃ (vA10 : (List api_Op)) (HA1 : PH) (oaA2 : Option Addr) (capA3 : Nat) (oaA6 : Option Addr) (capA7 : Nat) (oaA11 : Option Addr) (capA12 : Nat) (vsA13 : List Value), (code_make_j1 N p7 x12) vA10 = some r ∧ Ext w0 H HA1 ∧ Fr 56 [(0, .slice oaA2 p1.length capA3), (1, .int .i64 p6), (2, .slice oaA6 p7.length capA7), (7, .slice oaA11 vA10.length capA12)] a ∧ St w0 Nil [HA1] [sla 46 2 oaA11 vA10.length capA12 vsA13] w ∧ p1.length ≤ capA3 ∧ SR HA1 oaA2 p1 ∧ p7.length ≤ capA7 ∧ SR HA1 oaA6 p7 ∧ Rows HA1 vsA13 vA10) ?_ ?_
  ·
    replace hS := St.nilS hS 46 2
    refine wp_block <| lp (α := Nat × (List api_Op) × Int × Int) (fun (gh : Nat × (List api_Op) × Int × Int) a w => match gh with | (nn2, vB10, vB16, vB17) => ∃ (HB1 : PH) (oaB2 : Option Addr) (capB3 : Nat) (oaB6 : Option Addr) (capB7 : Nat) (oaB11 : Option Addr) (capB12 : Nat) (vsB13 : List Value), (code_make_l2 (code_make N) N (code_make_j1 N p7 x12) p1 p7 r17) nn2 vB10 vB16 vB17 = some r ∧ Ext w0 H HB1 ∧ Fr 56 [(0, .slice oaB2 p1.length capB3), (1, .int .i64 p6), (2, .slice oaB6 p7.length capB7), (7, .slice oaB11 vB10.length capB12), (8, .int .i64 vB16), (17, .int .i64 r17), (18, .int .i64 vB17)] a ∧ St w0 Nil [HB1] [sla 46 2 oaB11 vB10.length capB12 vsB13] w ∧ p1.length ≤ capB3 ∧ SR HB1 oaB2 p1 ∧ p7.length ≤ capB7 ∧ SR HB1 oaB6 p7 ∧ Rows HB1 vsB13 vB10) (fun gh => gh.1) (N, [], (IntKind.i64.wrap (p6 + 1)), 0) ⟨H, oa2, cap3, oa8, cap9, none, 0, [], hm, (Ext.refl _ _), hF.has ⟨rfl, rfl, rfl, rfl, rfl, rfl, rfl, trivial⟩, hS, hc4, hr5, hc10, hr11, .nil⟩ ?_
    clear hm hF hS
    rintro ⟨nn2, vB10, vB16, vB17⟩ a w ⟨HB1, oaB2, capB3, oaB6, capB7, oaB11, capB12, vsB13, hm, hxHB1, hF, hS, hcB4, hrB5, hcB8, hrB9, hvB14⟩
    obtain _ | nn2 := nn2
    · simp [code_make_l2] at hm
    rw [code_make_l2] at hm
    refine th <| ?_
    refine rg <| ?_
    refine ls <| q1 hF rfl (e_lss hF rfl rfl) fun a hF => ?_
    refine re <| ?_
    rcases bdich (decide (vB17 < r17)) with hb19 | hb19
    ·
      replace hm := itp_t hm hb19
      refine tn <| th <| ctv hF rfl hb19 <| wp_skip <| ?_
      refine tn <| th <| wp_block <| th <| ?_
      replace hm := bind_some hm
      obtain ⟨r20, h21, hm⟩ := hm
      replace hm := bind_some hm
      obtain ⟨l27, h28, hm⟩ := hm
      refine rg <| ?_
      refine ls <| q1 hF rfl (e_move hF rfl) fun a hF => ?_
      refine ls <| q1 hF rfl (e_move hF rfl) fun a hF => ?_
      refine ls <| q1 hF rfl (e_move hF rfl) fun a hF => ?_
      refine ls <| q1 hF rfl (e_move hF rfl) fun a hF => ?_
      refine ls <| c1 hF rfl Tryd.call28 (ih (hp_le _) hcB4 (St.srH hS hrB5) hcB8 (St.srH hS hrB9) h21) ⟨rfl, rfl, rfl, trivial⟩ (fun v w a hR hF => ?_)
      obtain ⟨oa22, cap23, vs24, rfl, hv25, hk⟩ := hR
      replace hS := hS.fresh hk
      clear hk
      replace hv25 := hv25 HB1
      refine ls <| m_app (α := api_Op) (xs := vB10) (ys := r20) hF rfl hS Tryd.underlying26 info46 rfl (by decide) rfl rfl rfl (.tail _ (.head _)) hvB14 (hS.rdO (.head _)) hv25 h28 fun oa29 cap30 vs31 w a hv32 hU hF => ?_
      replace hS := hU _ (.tail .head)
      clear hU
      refine ls <| q1 hF rfl (e_asg hF rfl) fun a hF => ?_
      refine re <| ?_
      refine tn <| ?_
      replace hm := bind_some hm
      obtain ⟨r33, h34, hm⟩ := hm
      refine rg <| ?_
      refine ls <| q1 hF rfl (e_move hF rfl) fun a hF => ?_
      refine ls <| q1 hF rfl (e_move hF rfl) fun a hF => ?_
      refine ls <| c1 hF rfl Tryd.call48 (expr_End_c (hp_le _) hcB4 (St.srH hS hrB5) h34) ⟨rfl, rfl, trivial⟩ (fun v w a hR hF => ?_)
      obtain ⟨rfl, hk⟩ := hR
      replace hS := hS.pass hk
      clear hk
      refine ls <| q1 hF rfl (e_asg hF rfl) fun a hF => ?_
      refine re <| ?_
      refine bn <| tn <| ?_
      refine rg <| ?_
      refine ls <| q1 hF rfl (e_add hF rfl rfl) fun a hF => ?_
      refine ls <| q1 hF rfl (e_move hF rfl) fun a hF => ?_
      refine re <| ?_
      refine tn <| ?_
      replace hS := hS.pickL (.cons (.tail .head) .nil)
      exact ⟨(nn2, l27, r33, (IntKind.i64.wrap (vB17 + 1))), ⟨HB1, oaB2, capB3, oaB6, capB7, oa29, cap30, vs31, hm, hxHB1, hF.has ⟨rfl, rfl, rfl, rfl, rfl, rfl, rfl, trivial⟩, hS, hcB4, hrB5, hcB8, hrB9, hv32⟩, Nat.lt_succ_self _⟩
    ·
      replace hm := itp_f hm hb19
      refine tn <| th <| cfv hF rfl hb19 <| ?_
      refine wp_exit <| tx <| tx <| bx <| ?_
      refine tn <| ?_
      exact ⟨vB10, HB1, oaB2, capB3, oaB6, capB7, oaB11, capB12, vsB13, hm, hxHB1, hF.has ⟨rfl, rfl, rfl, rfl, trivial⟩, hS, hcB4, hrB5, hcB8, hrB9, hvB14⟩
  clear hm hF hS
  rintro a w ⟨vA10, HA1, oaA2, capA3, oaA6, capA7, oaA11, capA12, vsA13, hm, hxHA1, hF, hS, hcA4, hrA5, hcA8, hrA9, hvA14⟩
  unfold code_make_j1 at hm
  refine th <| ?_
  obtain ⟨c35, g36, hl37⟩ := SR.get hrA5 h13
  obtain rfl := api_Node_open g36
  refine rdS 12 hS wide fun w hS => ?_
  refine d1 (i := 0) rfl (by kernel_rfl) (by kernel_rfl) (St.ld hS) hF rfl (fun _ _ _ h => h) (fun w hl => (e_move hF rfl)) fun a hF => ?_
  refine d1 (i := 1) rfl (by kernel_rfl) (by kernel_rfl) (St.ld hS) hF rfl (fun _ _ _ h => h) (fun w hl => (e_move hF rfl)) fun a hF => ?_
  refine d1 (i := 2) rfl (by kernel_rfl) (by kernel_rfl) (St.ld hS) hF rfl (fun _ _ _ h => h) (fun w hl => (e_iaI hF Tryd.runUnderlying22 Tryd.sizeOf39 rfl rfl h13 (SR.oaI hrA5 (by decide) h13))) fun a hF => ?_
  refine d1 (i := 3) rfl (by kernel_rfl) (by kernel_rfl) (St.ld hS) hF rfl (fun _ _ _ h => h) (fun w hl => (e_fa hF fa39_0 rfl)) fun a hF => ?_
  refine d1 (i := 4) rfl (by kernel_rfl) (by kernel_rfl) (St.ld hS) hF rfl (fun _ _ _ h => h) (fun w hl => (e_ld hF Tryd.isAgg3 rfl (PH.le.cell (Lds.le hl) (hl37 0 _ rfl)))) fun a hF => ?_
  refine d1 (i := 5) rfl (by kernel_rfl) (by kernel_rfl) (St.ld hS) hF rfl (fun _ _ _ h => h) (fun w hl => (e_move hF rfl)) fun a hF => ?_
  refine d1 (i := 6) rfl (by kernel_rfl) (by kernel_rfl) (St.ld hS) hF rfl (fun _ _ _ h => h) (fun w hl => (e_move hF rfl)) fun a hF => ?_
  refine d1 (i := 7) rfl (by kernel_rfl) (by kernel_rfl) (St.ld hS) hF rfl (fun _ _ _ h => h) (fun w hl => (e_iaI hF Tryd.runUnderlying22 Tryd.sizeOf39 rfl rfl h13 (SR.oaI hrA5 (by decide) h13))) fun a hF => ?_
  refine d1 (i := 8) rfl (by kernel_rfl) (by kernel_rfl) (St.ld hS) hF rfl (fun _ _ _ h => h) (fun w hl => (e_fa hF fa39_1 rfl)) fun a hF => ?_
  refine d1 (i := 9) rfl (by kernel_rfl) (by kernel_rfl) (St.ld hS) hF rfl (fun _ _ _ h => h) (fun w hl => (e_ld hF Tryd.isAgg3 rfl (PH.le.cell (Lds.le hl) (hl37 1 _ rfl)))) fun a hF => ?_
  refine d1 (i := 10) rfl (by kernel_rfl) (by kernel_rfl) (St.ld hS) hF rfl (fun _ _ _ h => h) (fun w hl => (e_bldK [.int .i64 x12.Op, .int .i64 x12.N] [.int .i64 x12.Op, .int .i64 x12.N] hF ⟨rfl, rfl, trivial⟩ (fun w => by kernel_rfl))) fun a hF => ?_
  refine da1 (i := 11) (by kernel_rfl) ?_
  refine di (i := 11) rfl <| a_alloc (cs := [.int .i64 0, .int .i64 0].toArray) hF rfl hS Tryd.zeroValue46 rfl fun b38 w a hS hF => ?_
  refine ⟨fun _ => (St.ldsX hS (fun _ _ h => h) (fun _ h => (.tail _ h))), ?_⟩
  refine da1 (i := 12) (by kernel_rfl) ?_
  refine di (i := 12) rfl <| s_blkA hF hS Tryd.sizeOf46 rfl rfl rfl rfl (one_cells rfl) .head fun w hS => ?_
  refine ⟨fun h => absurd rfl h, ?_⟩
  refine de (by kernel_rfl) <| ?_
  refine tn <| th <| th <| ?_
  refine rg <| ?_
  refine ls <| q1 hF rfl (e_fa hF fa46_0 rfl) fun a hF => ?_
  refine ls <| q1 hF rfl (e_ld hF Tryd.isAgg3 rfl ((St.ld hS).cellB (.head _) rfl)) fun a hF => ?_
  refine ls <| q1 hF rfl (e_eql hF rfl rfl) fun a hF => ?_
  refine re <| ?_
  refine tn <| midK (fun a w => ∃ (vA16 : api_Op), (code_make_j3 vA10) vA16 = some r ∧ Fr 56 [(7, .slice oaA11 vA10.length capA12), (9, .pointer (some ⟨b38, 0, none⟩))] a ∧ St w0 Nil [HA1] [sla 46 2 oaA11 vA10.length capA12 vsA13, blk b38 (.cells [.int .i64 vA16.Kind, .int .i64 vA16.N].toArray 46 (0, 0))] w) ?_ ?_
  ·
    rcases bdich (decide (x12.Op = 2)) with hb39 | hb39
    ·
      replace hm := itp_t hm hb39
      refine ctv hF rfl hb39 <| ?_
      replace hm := bind_some hm
      obtain ⟨r40, h41, hm⟩ := hm
      refine rg <| ?_
      refine ls <| q1 hF rfl (e_move hF rfl) fun a hF => ?_
      refine ls <| q1 hF rfl (e_move hF rfl) fun a hF => ?_
      refine ls <| q1 hF rfl (e_move hF rfl) fun a hF => ?_
      refine ls <| q1 hF rfl (e_iaI hF Tryd.runUnderlying22 Tryd.sizeOf39 rfl rfl h13 (SR.oaI hrA5 (by decide) h13)) fun a hF => ?_
      refine ls <| q1 hF rfl (e_fa hF fa39_2 rfl) fun a hF => ?_
      refine ls <| q1 hF rfl (e_ld hF Tryd.isAgg9 rfl (PH.le.cell (Lds.le (St.ld hS)) (hl37 2 _ rfl))) fun a hF => ?_
      refine ls <| c1 hF rfl Tryd.call50 (slices_Index_string_string_c (hp_le _) hcA8 (St.srH hS hrA9) h41) ⟨rfl, rfl, trivial⟩ (fun v w a hR hF => ?_)
      obtain ⟨rfl, hk⟩ := hR
      replace hS := hS.pass hk
      clear hk
      refine ls <| q1 hF rfl (e_fa hF fa46_1 rfl) fun a hF => ?_
      refine ls <| s_blk hF hS Tryd.sizeOf3 rfl rfl rfl rfl .head (.succ .zero) fun w hS => ?_
      refine re <| ?_
      refine tn <| ?_
      replace hS := hS.pickL (.cons (.tail .head) (.cons .head .nil))
      exact ⟨(api_Op.mk x12.Op r40), hm, hF.has ⟨rfl, rfl, trivial⟩, hS⟩
    ·
      replace hm := itp_f hm hb39
      refine cfv hF rfl hb39 <| wp_skip <| ?_
      refine tn <| ?_
      replace hS := hS.pickL (.cons (.tail .head) (.cons .head .nil))
      exact ⟨(api_Op.mk x12.Op x12.N), hm, hF.has ⟨rfl, rfl, trivial⟩, hS⟩
  clear hm hF hS
  rintro a w ⟨vA16, hm, hF, hS⟩
  unfold code_make_j3 at hm
  refine th <| ?_
  replace hm := bind_some hm
  obtain ⟨l45, h46, hm⟩ := hm
  refine rg <| ?_
  refine ls <| q1 hF rfl (e_move hF rfl) fun a hF => ?_
  refine ls <| q1 hF rfl (e_ldA hF Tryd.isAgg46 Tryd.sizeOf46 rfl rfl ((St.ld hS).cellsB (.tail _ (.head _)))) fun a hF => ?_
  refine ls <| a_bsl (e := 46) (sz := 2) [.int .i64 vA16.Kind, .int .i64 vA16.N] hF rfl hS rfl rfl rfl (fun w => by kernel_rfl) fun b43 w a hS hF => ?_
  have hv42 : Rows (α := api_Op) HA1 [.int .i64 vA16.Kind, .int .i64 vA16.N] ([vA16] : List api_Op) := (.cons (c := [.int .i64 vA16.Kind, .int .i64 vA16.N]) ⟨_, _, rfl, rfl, rfl⟩ .nil)
  refine ls <| m_app (α := api_Op) (xs := vA10) (ys := ([vA16] : List api_Op)) hF rfl hS Tryd.underlying26 info46 rfl (by decide) rfl rfl rfl (.tail _ (.head _)) hvA14 (hS.rdO (.head _)) hv42 h46 fun oa47 cap48 vs49 w a hv50 hU hF => ?_
  replace hS := hU _ (.tail .head)
  clear hU
  replace hS := hS.drop .head
  refine ls <| q1 hF rfl (e_asg hF rfl) fun a hF => ?_
  refine re <| ?_
  refine tn <| ?_
  refine wp_ret <| ?_
  obtain rfl := Option.some.inj hm
  exact r1 hF Tryd.results28 rfl ⟨_, _, _, rfl, (fun _ => Rows.ind hv50), hS.endFresh (.head _)⟩

set_option maxRecDepth 100000 in
theorem code_Make_c {N : Nat} {w0 : World} {H : PH} (hH : H.le w0) (hT : Tab H) {oa2 : Option Addr} {cap3 : Nat} {p1 : (List api_Node)} (hc4 : p1.length ≤ cap3) (hr5 : SR H oa2 p1) {oa7 : Option Addr} {cap8 : Nat} {p6 : (List Str)} (hc9 : p6.length ≤ cap8) (hr10 : SR H oa7 p6) {r : ((List api_Op) × Int)} (hm : code_Make N p1 p6 = some r) : Tot Tryd.prog 11 #[.slice oa2 p1.length cap3, .slice oa7 p6.length cap8] w0 (fun v w' => ∃ (oa0 : Option Addr) (cap0 : Nat) (vs0 : List Value), v = .tuple #[.slice oa0 r.1.length cap0, .int .i64 r.2] ∧ (∀ h, Rows h vs0 r.1) ∧ Fresh w0 (sla 46 2 oa0 r.1.length cap0 vs0) w') := by
  unfold code_Make at hm
  refine fn0 (args := [.slice oa2 p1.length cap3, .slice oa7 p6.length cap8]) (F := [(0, .slice oa2 p1.length cap3), (1, .slice oa7 p6.length cap8)]) Tryd.func11 rfl Tryd.ntmps11 rfl rfl fun a hF => ?_
  have hS : St w0 Nil [H] [] w0 := start1 hH
  refine th <| ?_
  refine rg <| ?_
  refine ls <| a_box (cs := [.slice oa7 p6.length cap8].toArray) hF rfl hS rfl rfl fun b11 w a hS hF => ?_
  refine ls <| q1 hF rfl (e_asg hF rfl) fun a hF => ?_
  refine ls <| q1 hF rfl (e_asg hF rfl) fun a hF => ?_
  refine re <| ?_
  refine tn <| th <| th <| ?_
  replace hm := bind_some hm
  obtain ⟨r12, h13, hm⟩ := hm
  refine rg <| ?_
  refine ls <| q1 hF rfl (e_move hF rfl) fun a hF => ?_
  refine ls <| c1 hF rfl Tryd.call23 (expr_Right_c (hp_le _) (Tab.mono hT (St.up hS)) hc4 (St.srH hS hr5) h13) ⟨rfl, trivial⟩ (fun v w a hR hF => ?_)
  obtain ⟨rfl, hk⟩ := hR
  replace hS := hS.pass hk
  clear hk
  refine ls <| q1 hF rfl (e_not hF rfl) fun a hF => ?_
  refine re <| ?_
  rcases bdich r12 with hb14 | hb14
  ·
    replace hm := ite_t hm hb14
    refine tn <| cfv hF rfl (by rw [hb14]; rfl) <| wp_skip <| ?_
    refine tn <| th <| ?_
    refine rg <| ?_
    refine ls <| q1 hF rfl (e_mkf (vs := [.pointer (some ⟨b11, 0, none⟩)]) hF ⟨rfl, trivial⟩) fun a hF => ?_
    refine ls <| q1 hF rfl (e_asg hF rfl) fun a hF => ?_
    refine re <| ?_
    refine tn <| th <| th <| ?_
    replace hm := bind_some hm
    obtain ⟨r15, h16, hm⟩ := hm
    replace hm := bind_some hm
    obtain ⟨r22, h23, hm⟩ := hm
    refine rg <| ?_
    refine ls <| q1 hF rfl (e_move hF rfl) fun a hF => ?_
    refine ls <| c1 hF rfl Tryd.call27 (expr_Names_c (hp_le _) (Tab.mono hT (St.up hS)) hc4 (St.srH hS hr5) h16) ⟨rfl, trivial⟩ (fun v w a hR hF => ?_)
    obtain ⟨oa17, cap18, vs19, rfl, hv20, hk⟩ := hR
    replace hS := hS.fresh hk
    clear hk
    replace hv20 := hv20 H
    refine ls <| q1 hF rfl (e_move hF rfl) fun a hF => ?_
    refine ls <| c1 hF rfl Tryd.call26 (slices_ContainsFunc_string_string__Make_1_c (hp_le _) (St.capO hS (.head _)) (St.srO hS (.head _) hv20) hc9 (St.srH hS hr10) (St.blkO hS (.tail _ (.head _))) h23) ⟨rfl, rfl, trivial⟩ (fun v w a hR hF => ?_)
    obtain ⟨rfl, hk⟩ := hR
    replace hS := hS.pass hk
    clear hk
    refine re <| ?_
    rcases bdich r22 with hb24 | hb24
    ·
      replace hm := ite_t hm hb24
      refine tn <| ctv hF rfl hb24 <| th <| ?_
      refine rg <| ?_
      refine ls <| q1 hF rfl (e_asg hF rfl) fun a hF => ?_
      refine ls <| q1 hF rfl (e_asg hF rfl) fun a hF => ?_
      refine re <| ?_
      refine tn <| ?_
      refine wp_ret <| tr <| ?_
      replace hS := St.nilS hS 46 2
      obtain rfl := Option.some.inj hm
      exact r2 hF Tryd.results11 rfl rfl ⟨_, _, _, rfl, (fun _ => .nil), hS.endFresh (.head _)⟩
    ·
      replace hm := ite_f hm hb24
      refine tn <| cfv hF rfl hb24 <| wp_skip <| ?_
      refine tn <| th <| ?_
      replace hm := bind_some hm
      obtain ⟨r25, h26, hm⟩ := hm
      refine rg <| ?_
      refine ls <| q1 hF rfl (e_move hF rfl) fun a hF => ?_
      refine ls <| q1 hF rfl (e_ld hF Tryd.isAgg23 rfl ((St.ld hS).cellB (.tail _ (.head _)) rfl)) fun a hF => ?_
      refine ls <| c1 hF rfl Tryd.call28 (code_make_c _ (hp_le _) hc4 (St.srH hS hr5) hc9 (St.srH hS hr10) h26) ⟨rfl, rfl, rfl, trivial⟩ (fun v w a hR hF => ?_)
      obtain ⟨oa27, cap28, vs29, rfl, hv30, hk⟩ := hR
      replace hS := hS.fresh hk
      clear hk
      replace hv30 := hv30 H
      refine ls <| q1 hF rfl (e_asg hF rfl) fun a hF => ?_
      refine ls <| q1 hF rfl (e_asg hF rfl) fun a hF => ?_
      refine re <| ?_
      refine tn <| ?_
      refine wp_ret <| ?_
      obtain rfl := Option.some.inj hm
      exact r2 hF Tryd.results11 rfl rfl ⟨_, _, _, rfl, (fun _ => Rows.ind hv30), hS.endFresh (.head _)⟩
  ·
    replace hm := ite_f hm hb14
    refine tn <| ctv hF rfl (by rw [hb14]; rfl) <| th <| ?_
    refine rg <| ?_
    refine ls <| q1 hF rfl (e_asg hF rfl) fun a hF => ?_
    refine ls <| q1 hF rfl (e_asg hF rfl) fun a hF => ?_
    refine re <| ?_
    refine tn <| ?_
    refine wp_ret <| tr <| ?_
    replace hS := St.nilS hS 46 2
    obtain rfl := Option.some.inj hm
    exact r2 hF Tryd.results11 rfl rfl ⟨_, _, _, rfl, (fun _ => .nil), hS.endFresh (.head _)⟩

set_option maxRecDepth 100000 in
theorem leadlineref03_Kids_c {N : Nat} {w0 : World} {H : PH} (hH : H.le w0) {p1 : Int} {r : Int} (hm : leadlineref03_Kids N p1 = some r) : Tot Tryd.prog 17 #[.int .i64 p1] w0 (fun v w' => v = .int .i64 r ∧ Keep Nil w0 w') := by
  unfold leadlineref03_Kids at hm
  refine fn0 (args := [.int .i64 p1]) (F := [(0, .int .i64 p1)]) Tryd.func17 rfl Tryd.ntmps17 rfl rfl fun a hF => ?_
  have hS : St w0 Nil [H] [] w0 := start1 hH
  refine th <| ?_
  refine rg <| ?_
  refine ls <| q1 hF rfl (e_asg hF rfl) fun a hF => ?_
  refine re <| ?_
  refine tn <| th <| th <| ?_
  refine rg <| ?_
  refine ls <| q1 hF rfl (e_move hF rfl) fun a hF => ?_
  refine ls <| q1 hF rfl (e_eql hF rfl rfl) fun a hF => ?_
  refine ls <| q1 hF rfl (e_move hF rfl) fun a hF => ?_
  refine grp (N := 21) (Fk := [(0, .int .i64 p1), (8, .bool ((decide (p1 = 1)) || (decide (p1 = 2))))]) (b := (decide (p1 = 1))) 3 hS ?_ ?_ ?_
  ·
    intro hb key
    replace hF := Fr.as hF (t := 5) rfl (congrArg Value.bool hb)
    refine ls <| gn hF rfl rfl rfl rfl fun a hF => ?_
    refine ls <| gn hF rfl rfl rfl rfl fun a hF => ?_
    refine ls <| q1 hF rfl (e_as (v' := .bool ((decide (p1 = 1)) || (decide (p1 = 2)))) (e_pickT hF rfl rfl) (by rw [hb]; rfl)) fun a hF => ?_
    exact key _ _ (hF.has ⟨rfl, rfl, trivial⟩) hS
  ·
    intro hb key
    replace hF := Fr.as hF (t := 5) rfl (congrArg Value.bool hb)
    refine ls <| gy hF rfl rfl <| q1 hF rfl (e_move hF rfl) fun a hF => ?_
    refine ls <| gy hF rfl rfl <| q1 hF rfl (e_eql hF rfl rfl) fun a hF => ?_
    refine ls <| q1 hF rfl (e_as (v' := .bool ((decide (p1 = 1)) || (decide (p1 = 2)))) (e_pickF hF rfl rfl) (by rw [hb]; rfl)) fun a hF => ?_
    exact key _ _ (hF.has ⟨rfl, rfl, trivial⟩) hS
  intro a w hF hS
  refine re <| ?_
  rcases bdich ((decide (p1 = 1)) || (decide (p1 = 2))) with hb2 | hb2
  ·
    replace hm := ite_t hm hb2
    refine tn <| ctv hF rfl hb2 <| th <| ?_
    refine rg <| ?_
    refine ls <| q1 hF rfl (e_asg hF rfl) fun a hF => ?_
    refine re <| ?_
    refine tn <| ?_
    refine wp_ret <| tr <| ?_
    obtain rfl := Option.some.inj hm
    exact r1 hF Tryd.results17 rfl ⟨rfl, hS.keep⟩
  ·
    replace hm := ite_f hm hb2
    refine tn <| cfv hF rfl hb2 <| wp_skip <| ?_
    refine tn <| th <| th <| ?_
    refine rg <| ?_
    refine ls <| q1 hF rfl (e_move hF rfl) fun a hF => ?_
    refine ls <| q1 hF rfl (e_eql hF rfl rfl) fun a hF => ?_
    refine ls <| q1 hF rfl (e_move hF rfl) fun a hF => ?_
    refine grp (N := 21) (Fk := [(0, .int .i64 p1), (14, .bool ((decide (p1 = 3)) || (decide (p1 = 4))))]) (b := (decide (p1 = 3))) 3 hS ?_ ?_ ?_
    ·
      intro hb key
      replace hF := Fr.as hF (t := 11) rfl (congrArg Value.bool hb)
      refine ls <| gn hF rfl rfl rfl rfl fun a hF => ?_
      refine ls <| gn hF rfl rfl rfl rfl fun a hF => ?_
      refine ls <| q1 hF rfl (e_as (v' := .bool ((decide (p1 = 3)) || (decide (p1 = 4)))) (e_pickT hF rfl rfl) (by rw [hb]; rfl)) fun a hF => ?_
      exact key _ _ (hF.has ⟨rfl, rfl, trivial⟩) hS
    ·
      intro hb key
      replace hF := Fr.as hF (t := 11) rfl (congrArg Value.bool hb)
      refine ls <| gy hF rfl rfl <| q1 hF rfl (e_move hF rfl) fun a hF => ?_
      refine ls <| gy hF rfl rfl <| q1 hF rfl (e_eql hF rfl rfl) fun a hF => ?_
      refine ls <| q1 hF rfl (e_as (v' := .bool ((decide (p1 = 3)) || (decide (p1 = 4)))) (e_pickF hF rfl rfl) (by rw [hb]; rfl)) fun a hF => ?_
      exact key _ _ (hF.has ⟨rfl, rfl, trivial⟩) hS
    intro a w hF hS
    refine re <| ?_
    rcases bdich ((decide (p1 = 3)) || (decide (p1 = 4))) with hb3 | hb3
    ·
      replace hm := ite_t hm hb3
      refine tn <| ctv hF rfl hb3 <| th <| ?_
      refine rg <| ?_
      refine ls <| q1 hF rfl (e_asg hF rfl) fun a hF => ?_
      refine re <| ?_
      refine tn <| ?_
      refine wp_ret <| tr <| ?_
      obtain rfl := Option.some.inj hm
      exact r1 hF Tryd.results17 rfl ⟨rfl, hS.keep⟩
    ·
      replace hm := ite_f hm hb3
      refine tn <| cfv hF rfl hb3 <| wp_skip <| ?_
      refine tn <| th <| th <| ?_
      refine rg <| ?_
      refine ls <| q1 hF rfl (e_move hF rfl) fun a hF => ?_
      refine ls <| q1 hF rfl (e_geq hF rfl rfl) fun a hF => ?_
      refine ls <| q1 hF rfl (e_move hF rfl) fun a hF => ?_
      refine grp (N := 21) (Fk := [(20, .bool ((decide (5 ≤ p1)) && (decide (p1 ≤ 15))))]) (b := (decide (5 ≤ p1))) 3 hS ?_ ?_ ?_
      ·
        intro hb key
        replace hF := Fr.as hF (t := 17) rfl (congrArg Value.bool hb)
        refine ls <| gy hF rfl rfl <| q1 hF rfl (e_move hF rfl) fun a hF => ?_
        refine ls <| gy hF rfl rfl <| q1 hF rfl (e_leq hF rfl rfl) fun a hF => ?_
        refine ls <| q1 hF rfl (e_as (v' := .bool ((decide (5 ≤ p1)) && (decide (p1 ≤ 15)))) (e_pickT hF rfl rfl) (by rw [hb]; rfl)) fun a hF => ?_
        exact key _ _ (hF.has ⟨rfl, trivial⟩) hS
      ·
        intro hb key
        replace hF := Fr.as hF (t := 17) rfl (congrArg Value.bool hb)
        refine ls <| gn hF rfl rfl rfl rfl fun a hF => ?_
        refine ls <| gn hF rfl rfl rfl rfl fun a hF => ?_
        refine ls <| q1 hF rfl (e_as (v' := .bool ((decide (5 ≤ p1)) && (decide (p1 ≤ 15)))) (e_pickF hF rfl rfl) (by rw [hb]; rfl)) fun a hF => ?_
        exact key _ _ (hF.has ⟨rfl, trivial⟩) hS
      intro a w hF hS
      refine re <| ?_
      rcases bdich ((decide (5 ≤ p1)) && (decide (p1 ≤ 15))) with hb4 | hb4
      ·
        replace hm := ite_t hm hb4
        refine tn <| ctv hF rfl hb4 <| th <| ?_
        refine rg <| ?_
        refine ls <| q1 hF rfl (e_asg hF rfl) fun a hF => ?_
        refine re <| ?_
        refine tn <| ?_
        refine wp_ret <| tr <| ?_
        obtain rfl := Option.some.inj hm
        exact r1 hF Tryd.results17 rfl ⟨rfl, hS.keep⟩
      ·
        replace hm := ite_f hm hb4
        refine tn <| cfv hF rfl hb4 <| wp_skip <| ?_
        refine tn <| th <| ?_
        refine rg <| ?_
        refine ls <| q1 hF rfl (e_asg hF rfl) fun a hF => ?_
        refine re <| ?_
        refine tn <| ?_
        refine wp_ret <| ?_
        obtain rfl := Option.some.inj hm
        exact r1 hF Tryd.results17 rfl ⟨rfl, hS.keep⟩

set_option maxRecDepth 100000 in
theorem leadlineref03_End_c : ∀ (N : Nat) {w0 : World} {H : PH} (hH : H.le w0) {oa2 : Option Addr} {cap3 : Nat} {p1 : (List api_Node)} (hc4 : p1.length ≤ cap3) (hr5 : SR H oa2 p1) {p6 : Int} {r : Int} (hm : leadlineref03_End N p1 p6 = some r), Tot Tryd.prog 52 #[.slice oa2 p1.length cap3, .int .i64 p6] w0 (fun v w' => v = .int .i64 r ∧ Keep Nil w0 w') := by
  intro N
  induction N with
  | zero => intros; rename_i hm; simp [leadlineref03_End] at hm
  | succ N ih =>
  intro w0 H hH oa2 cap3 p1 hc4 hr5 p6 r hm
  rw [leadlineref03_End] at hm
  refine fn0 (args := [.slice oa2 p1.length cap3, .int .i64 p6]) (F := [(0, .slice oa2 p1.length cap3), (1, .int .i64 p6)]) Tryd.func52 rfl Tryd.ntmps52 rfl rfl fun a hF => ?_
  have hS : St w0 Nil [H] [] w0 := start1 hH
  refine th <| ?_
  refine rg <| ?_
  refine ls <| q1 hF rfl (e_asg hF rfl) fun a hF => ?_
  refine re <| ?_
  refine tn <| th <| th <| midK (fun a w => ∃ (vA6 : Bool) (HA1 : PH) (oaA2 : Option Addr) (capA3 : Nat), (leadlineref03_End_j1 (leadlineref03_End N) N p1 p6) vA6 = some r ∧ Ext w0 H HA1 ∧ Fr 44 [(0, .slice oaA2 p1.length capA3), (1, .int .i64 p6), (23, .bool vA6)] a ∧ St w0 Nil [HA1] [] w ∧ p1.length ≤ capA3 ∧ SR HA1 oaA2 p1) ?_ ?_
  ·
    rcases bdich ((decide (p6 < 0)) || (decide ((p1.length : Int) ≤ p6))) with hb7 | hb7
    ·
      replace hm := ite_t hm hb7
      refine rg <| ?_
      refine ls <| q1 hF rfl (e_move hF rfl) fun a hF => ?_
      refine ls <| q1 hF rfl (e_lss hF rfl rfl) fun a hF => ?_
      refine ls <| q1 hF rfl (e_move hF rfl) fun a hF => ?_
      refine grp (N := 44) (Fk := [(0, .slice oa2 p1.length cap3), (1, .int .i64 p6), (14, .bool ((decide (p6 < 0)) || (decide ((p1.length : Int) ≤ p6))))]) (b := (decide (p6 < 0))) 5 hS ?_ ?_ ?_
      ·
        intro hb key
        replace hF := Fr.as hF (t := 9) rfl (congrArg Value.bool hb)
        refine ls <| gn hF rfl rfl rfl rfl fun a hF => ?_
        refine ls <| gn hF rfl rfl rfl rfl fun a hF => ?_
        refine ls <| gn hF rfl rfl rfl rfl fun a hF => ?_
        refine ls <| gn hF rfl rfl rfl rfl fun a hF => ?_
        refine ls <| q1 hF rfl (e_as (v' := .bool ((decide (p6 < 0)) || (decide ((p1.length : Int) ≤ p6)))) (e_pickT hF rfl rfl) (by rw [hb]; rfl)) fun a hF => ?_
        exact key _ _ (hF.has ⟨rfl, rfl, rfl, trivial⟩) hS
      ·
        intro hb key
        replace hF := Fr.as hF (t := 9) rfl (congrArg Value.bool hb)
        refine ls <| gy hF rfl rfl <| q1 hF rfl (e_move hF rfl) fun a hF => ?_
        refine ls <| gy hF rfl rfl <| q1 hF rfl (e_move hF rfl) fun a hF => ?_
        refine ls <| gy hF rfl rfl <| q1 hF rfl (e_lenL (α := api_Node) (xs := p1) hF Tryd.runUnderlying22 rfl) fun a hF => ?_
        refine ls <| gy hF rfl rfl <| q1 hF rfl (e_geq hF rfl rfl) fun a hF => ?_
        refine ls <| q1 hF rfl (e_as (v' := .bool ((decide (p6 < 0)) || (decide ((p1.length : Int) ≤ p6)))) (e_pickF hF rfl rfl) (by rw [hb]; rfl)) fun a hF => ?_
        exact key _ _ (hF.has ⟨rfl, rfl, rfl, trivial⟩) hS
      intro a w hF hS
      refine ls <| q1 hF rfl (e_as (e_move hF rfl) (congrArg Value.bool hb7)) fun a hF => ?_
      refine ls <| gn hF rfl rfl rfl rfl fun a hF => ?_
      refine ls <| gn hF rfl rfl rfl rfl fun a hF => ?_
      refine ls <| gn hF rfl rfl rfl rfl fun a hF => ?_
      refine ls <| gn hF rfl rfl rfl rfl fun a hF => ?_
      refine ls <| gn hF rfl rfl rfl rfl fun a hF => ?_
      refine ls <| gn hF rfl rfl rfl rfl fun a hF => ?_
      refine ls <| gn hF rfl rfl rfl rfl fun a hF => ?_
      refine ls <| q1 hF rfl (e_pickT hF rfl rfl) fun a hF => ?_
      refine re <| ?_
      refine tn <| ?_
      exact ⟨true, H, oa2, cap3, hm, (Ext.refl _ _), hF.has ⟨rfl, rfl, rfl, trivial⟩, hS, hc4, hr5⟩
    ·
      replace hm := ite_f hm hb7
      replace hm := bind_some hm
      obtain ⟨x8, h9, hm⟩ := hm
      obtain ⟨c10, g11, hl12⟩ := SR.get hr5 h9
      obtain rfl := api_Node_open g11
      replace hm := bind_some hm
      obtain ⟨r13, h14, hm⟩ := hm
      refine rg <| ?_
      refine ls <| q1 hF rfl (e_move hF rfl) fun a hF => ?_
      refine ls <| q1 hF rfl (e_lss hF rfl rfl) fun a hF => ?_
      refine ls <| q1 hF rfl (e_move hF rfl) fun a hF => ?_
      refine grp (N := 44) (Fk := [(0, .slice oa2 p1.length cap3), (1, .int .i64 p6), (14, .bool ((decide (p6 < 0)) || (decide ((p1.length : Int) ≤ p6))))]) (b := (decide (p6 < 0))) 5 hS ?_ ?_ ?_
      ·
        intro hb key
        replace hF := Fr.as hF (t := 9) rfl (congrArg Value.bool hb)
        refine ls <| gn hF rfl rfl rfl rfl fun a hF => ?_
        refine ls <| gn hF rfl rfl rfl rfl fun a hF => ?_
        refine ls <| gn hF rfl rfl rfl rfl fun a hF => ?_
        refine ls <| gn hF rfl rfl rfl rfl fun a hF => ?_
        refine ls <| q1 hF rfl (e_as (v' := .bool ((decide (p6 < 0)) || (decide ((p1.length : Int) ≤ p6)))) (e_pickT hF rfl rfl) (by rw [hb]; rfl)) fun a hF => ?_
        exact key _ _ (hF.has ⟨rfl, rfl, rfl, trivial⟩) hS
      ·
        intro hb key
        replace hF := Fr.as hF (t := 9) rfl (congrArg Value.bool hb)
        refine ls <| gy hF rfl rfl <| q1 hF rfl (e_move hF rfl) fun a hF => ?_
        refine ls <| gy hF rfl rfl <| q1 hF rfl (e_move hF rfl) fun a hF => ?_
        refine ls <| gy hF rfl rfl <| q1 hF rfl (e_lenL (α := api_Node) (xs := p1) hF Tryd.runUnderlying22 rfl) fun a hF => ?_
        refine ls <| gy hF rfl rfl <| q1 hF rfl (e_geq hF rfl rfl) fun a hF => ?_
        refine ls <| q1 hF rfl (e_as (v' := .bool ((decide (p6 < 0)) || (decide ((p1.length : Int) ≤ p6)))) (e_pickF hF rfl rfl) (by rw [hb]; rfl)) fun a hF => ?_
        exact key _ _ (hF.has ⟨rfl, rfl, rfl, trivial⟩) hS
      intro a w hF hS
      refine ls <| q1 hF rfl (e_as (e_move hF rfl) (congrArg Value.bool hb7)) fun a hF => ?_
      refine ls <| gy hF rfl rfl <| q1 hF rfl (e_move hF rfl) fun a hF => ?_
      refine ls <| gy hF rfl rfl <| q1 hF rfl (e_move hF rfl) fun a hF => ?_
      refine ls <| gy hF rfl rfl <| q1 hF rfl (e_iaI hF Tryd.runUnderlying22 Tryd.sizeOf39 rfl rfl h9 (SR.oaI hr5 (by decide) h9)) fun a hF => ?_
      refine ls <| gy hF rfl rfl <| q1 hF rfl (e_fa hF fa39_0 rfl) fun a hF => ?_
      refine ls <| gy hF rfl rfl <| q1 hF rfl (e_ld hF Tryd.isAgg3 rfl (PH.le.cell (Lds.le (St.ld hS)) (hl12 0 _ rfl))) fun a hF => ?_
      refine ls <| gy hF rfl rfl <| c1 hF rfl Tryd.call17 (leadlineref03_Kids_c (hp_le _) h14) ⟨rfl, trivial⟩ (fun v w a hR hF => ?_)
      obtain ⟨rfl, hk⟩ := hR
      replace hS := hS.pass hk
      clear hk
      refine ls <| gy hF rfl rfl <| q1 hF rfl (e_lss hF rfl rfl) fun a hF => ?_
      refine ls <| q1 hF rfl (e_pickF hF rfl rfl) fun a hF => ?_
      refine re <| ?_
      refine tn <| ?_
      exact ⟨(decide (r13 < 0)), H, oa2, cap3, hm, (Ext.refl _ _), hF.has ⟨rfl, rfl, rfl, trivial⟩, hS, hc4, hr5⟩
  clear hm hF hS
  rintro a w ⟨vA6, HA1, oaA2, capA3, hm, hxHA1, hF, hS, hcA4, hrA5⟩
  unfold leadlineref03_End_j1 at hm
  rcases bdich vA6 with hb15 | hb15
  ·
    replace hm := ite_t hm hb15
    refine ctv hF rfl hb15 <| th <| ?_
    refine rg <| ?_
    refine ls <| q1 hF rfl (e_asg hF rfl) fun a hF => ?_
    refine re <| ?_
    refine tn <| ?_
    refine wp_ret <| tr <| ?_
    obtain rfl := Option.some.inj hm
    exact r1 hF Tryd.results52 rfl ⟨rfl, hS.keep⟩
  ·
    replace hm := ite_f hm hb15
    refine cfv hF rfl hb15 <| wp_skip <| ?_
    refine tn <| th <| ?_
    refine rg <| ?_
    refine ls <| q1 hF rfl (e_move hF rfl) fun a hF => ?_
    refine ls <| q1 hF rfl (e_add hF rfl rfl) fun a hF => ?_
    refine ls <| q1 hF rfl (e_asg hF rfl) fun a hF => ?_
    refine re <| ?_
    refine tn <| th <| th <| ?_
    refine rg <| ?_
    refine ls <| q1 hF rfl (e_asg hF rfl) fun a hF => ?_
    refine re <| ?_
    refine tn <| midK (fun a w => ∃ (vA7 : Int), leadlineref03_End_j2 vA7 = some r ∧ Fr 44 [(5, .int .i64 vA7)] a ∧ St w0 Nil [HA1] [] w) ?_ ?_
    ·
      refine wp_block <| lp (α := Nat × Int × Int) (fun (gh : Nat × Int × Int) a w => match gh with | (nn3, vB1, vB2) => (leadlineref03_End_l3 (leadlineref03_End N) N leadlineref03_End_j2 p1 p6) nn3 vB1 vB2 = some r ∧ Fr 44 [(0, .slice oaA2 p1.length capA3), (1, .int .i64 p6), (5, .int .i64 vB1), (6, .int .i64 vB2)] a ∧ St w0 Nil [HA1] [] w) (fun gh => gh.1) (N, (IntKind.i64.wrap (p6 + 1)), 0) ⟨hm, hF.has ⟨rfl, rfl, rfl, rfl, trivial⟩, hS⟩ ?_
      clear hm hF hS
      rintro ⟨nn3, vB1, vB2⟩ a w ⟨hm, hF, hS⟩
      obtain _ | nn3 := nn3
      · simp [leadlineref03_End_l3] at hm
      rw [leadlineref03_End_l3] at hm
      refine th <| th <| ?_
      replace hm := bind_some hm
      obtain ⟨x16, h17, hm⟩ := hm
      obtain ⟨c18, g19, hl20⟩ := SR.get hrA5 h17
      obtain rfl := api_Node_open g19
      replace hm := bind_some hm
      obtain ⟨r21, h22, hm⟩ := hm
      refine rg <| ?_
      refine ls <| q1 hF rfl (e_move hF rfl) fun a hF => ?_
      refine ls <| q1 hF rfl (e_move hF rfl) fun a hF => ?_
      refine ls <| q1 hF rfl (e_move hF rfl) fun a hF => ?_
      refine ls <| q1 hF rfl (e_iaI hF Tryd.runUnderlying22 Tryd.sizeOf39 rfl rfl h17 (SR.oaI hrA5 (by decide) h17)) fun a hF => ?_
      refine ls <| q1 hF rfl (e_fa hF fa39_0 rfl) fun a hF => ?_
      refine ls <| q1 hF rfl (e_ld hF Tryd.isAgg3 rfl (PH.le.cell (Lds.le (St.ld hS)) (hl20 0 _ rfl))) fun a hF => ?_
      refine ls <| c1 hF rfl Tryd.call17 (leadlineref03_Kids_c (hp_le _) h22) ⟨rfl, trivial⟩ (fun v w a hR hF => ?_)
      obtain ⟨rfl, hk⟩ := hR
      replace hS := hS.pass hk
      clear hk
      refine ls <| q1 hF rfl (e_lss hF rfl rfl) fun a hF => ?_
      refine ls <| q1 hF rfl (e_move hF rfl) fun a hF => ?_
      refine grp (N := 44) (Fk := [(0, .slice oaA2 p1.length capA3), (1, .int .i64 p6), (5, .int .i64 vB1), (6, .int .i64 vB2), (37, .bool ((decide (vB2 < r21)) && (decide (0 ≤ vB1))))]) (b := (decide (vB2 < r21))) 3 hS ?_ ?_ ?_
      ·
        intro hb key
        replace hF := Fr.as hF (t := 34) rfl (congrArg Value.bool hb)
        refine ls <| gy hF rfl rfl <| q1 hF rfl (e_move hF rfl) fun a hF => ?_
        refine ls <| gy hF rfl rfl <| q1 hF rfl (e_geq hF rfl rfl) fun a hF => ?_
        refine ls <| q1 hF rfl (e_as (v' := .bool ((decide (vB2 < r21)) && (decide (0 ≤ vB1)))) (e_pickT hF rfl rfl) (by rw [hb]; rfl)) fun a hF => ?_
        exact key _ _ (hF.has ⟨rfl, rfl, rfl, rfl, rfl, trivial⟩) hS
      ·
        intro hb key
        replace hF := Fr.as hF (t := 34) rfl (congrArg Value.bool hb)
        refine ls <| gn hF rfl rfl rfl rfl fun a hF => ?_
        refine ls <| gn hF rfl rfl rfl rfl fun a hF => ?_
        refine ls <| q1 hF rfl (e_as (v' := .bool ((decide (vB2 < r21)) && (decide (0 ≤ vB1)))) (e_pickF hF rfl rfl) (by rw [hb]; rfl)) fun a hF => ?_
        exact key _ _ (hF.has ⟨rfl, rfl, rfl, rfl, rfl, trivial⟩) hS
      intro a w hF hS
      refine re <| ?_
      rcases bdich ((decide (vB2 < r21)) && (decide (0 ≤ vB1))) with hb23 | hb23
      ·
        replace hm := ite_t hm hb23
        refine tn <| ctv hF rfl hb23 <| wp_skip <| ?_
        refine tn <| th <| wp_block <| ?_
        replace hm := bind_some hm
        obtain ⟨r24, h25, hm⟩ := hm
        refine rg <| ?_
        refine ls <| q1 hF rfl (e_move hF rfl) fun a hF => ?_
        refine ls <| q1 hF rfl (e_move hF rfl) fun a hF => ?_
        refine ls <| c1 hF rfl Tryd.call52 (ih (hp_le _) hcA4 (St.srH hS hrA5) h25) ⟨rfl, rfl, trivial⟩ (fun v w a hR hF => ?_)
        obtain ⟨rfl, hk⟩ := hR
        replace hS := hS.pass hk
        clear hk
        refine ls <| q1 hF rfl (e_asg hF rfl) fun a hF => ?_
        refine re <| ?_
        refine bn <| tn <| ?_
        refine rg <| ?_
        refine ls <| q1 hF rfl (e_move hF rfl) fun a hF => ?_
        refine ls <| q1 hF rfl (e_add hF rfl rfl) fun a hF => ?_
        refine ls <| q1 hF rfl (e_asg hF rfl) fun a hF => ?_
        refine re <| ?_
        refine tn <| ?_
        exact ⟨(nn3, r24, (IntKind.i64.wrap (vB2 + 1))), ⟨hm, hF.has ⟨rfl, rfl, rfl, rfl, trivial⟩, hS⟩, Nat.lt_succ_self _⟩
      ·
        replace hm := ite_f hm hb23
        refine tn <| cfv hF rfl hb23 <| ?_
        refine wp_exit <| tx <| tx <| bx <| ?_
        refine tn <| ?_
        exact ⟨vB1, hm, hF.has ⟨rfl, trivial⟩, hS⟩
    clear hm hF hS
    rintro a w ⟨vA7, hm, hF, hS⟩
    unfold leadlineref03_End_j2 at hm
    refine th <| ?_
    refine rg <| ?_
    refine ls <| q1 hF rfl (e_move hF rfl) fun a hF => ?_
    refine ls <| q1 hF rfl (e_asg hF rfl) fun a hF => ?_
    refine re <| ?_
    refine tn <| ?_
    refine wp_ret <| ?_
    obtain rfl := Option.some.inj hm
    exact r1 hF Tryd.results52 rfl ⟨rfl, hS.keep⟩

set_option maxRecDepth 100000 in
theorem leadlineref02_letter_c {N : Nat} {w0 : World} {H : PH} (hH : H.le w0) {p1 : Int} {r : Bool} (hm : leadlineref02_letter N p1 = some r) : Tot Tryd.prog 68 #[.int .u8 p1] w0 (fun v w' => v = .bool r ∧ Keep Nil w0 w') := by
  unfold leadlineref02_letter at hm
  refine fn0 (args := [.int .u8 p1]) (F := [(0, .int .u8 p1)]) Tryd.func68 rfl Tryd.ntmps68 rfl rfl fun a hF => ?_
  have hS : St w0 Nil [H] [] w0 := start1 hH
  refine th <| ?_
  refine rg <| ?_
  refine ls <| q1 hF rfl (e_asg hF rfl) fun a hF => ?_
  refine re <| ?_
  refine tn <| th <| ?_
  refine rg <| ?_
  refine ls <| q1 hF rfl (e_move hF rfl) fun a hF => ?_
  refine ls <| q1 hF rfl (e_geq hF rfl rfl) fun a hF => ?_
  refine ls <| q1 hF rfl (e_move hF rfl) fun a hF => ?_
  refine grp (N := 13) (Fk := [(0, .int .u8 p1), (8, .bool ((decide (97 ≤ p1)) && (decide (p1 ≤ 122))))]) (b := (decide (97 ≤ p1))) 3 hS ?_ ?_ ?_
  ·
    intro hb key
    replace hF := Fr.as hF (t := 5) rfl (congrArg Value.bool hb)
    refine ls <| gy hF rfl rfl <| q1 hF rfl (e_move hF rfl) fun a hF => ?_
    refine ls <| gy hF rfl rfl <| q1 hF rfl (e_leq hF rfl rfl) fun a hF => ?_
    refine ls <| q1 hF rfl (e_as (v' := .bool ((decide (97 ≤ p1)) && (decide (p1 ≤ 122)))) (e_pickT hF rfl rfl) (by rw [hb]; rfl)) fun a hF => ?_
    exact key _ _ (hF.has ⟨rfl, rfl, trivial⟩) hS
  ·
    intro hb key
    replace hF := Fr.as hF (t := 5) rfl (congrArg Value.bool hb)
    refine ls <| gn hF rfl rfl rfl rfl fun a hF => ?_
    refine ls <| gn hF rfl rfl rfl rfl fun a hF => ?_
    refine ls <| q1 hF rfl (e_as (v' := .bool ((decide (97 ≤ p1)) && (decide (p1 ≤ 122)))) (e_pickF hF rfl rfl) (by rw [hb]; rfl)) fun a hF => ?_
    exact key _ _ (hF.has ⟨rfl, rfl, trivial⟩) hS
  intro a w hF hS
  refine ls <| q1 hF rfl (e_move hF rfl) fun a hF => ?_
  refine grp (N := 13) (Fk := [(12, .bool (((decide (97 ≤ p1)) && (decide (p1 ≤ 122))) || (decide (p1 = 95))))]) (b := ((decide (97 ≤ p1)) && (decide (p1 ≤ 122)))) 3 hS ?_ ?_ ?_
  ·
    intro hb key
    replace hF := Fr.as hF (t := 9) rfl (congrArg Value.bool hb)
    refine ls <| gn hF rfl rfl rfl rfl fun a hF => ?_
    refine ls <| gn hF rfl rfl rfl rfl fun a hF => ?_
    refine ls <| q1 hF rfl (e_as (v' := .bool (((decide (97 ≤ p1)) && (decide (p1 ≤ 122))) || (decide (p1 = 95)))) (e_pickT hF rfl rfl) (by rw [hb]; rfl)) fun a hF => ?_
    exact key _ _ (hF.has ⟨rfl, trivial⟩) hS
  ·
    intro hb key
    replace hF := Fr.as hF (t := 9) rfl (congrArg Value.bool hb)
    refine ls <| gy hF rfl rfl <| q1 hF rfl (e_move hF rfl) fun a hF => ?_
    refine ls <| gy hF rfl rfl <| q1 hF rfl (e_eql hF rfl rfl) fun a hF => ?_
    refine ls <| q1 hF rfl (e_as (v' := .bool (((decide (97 ≤ p1)) && (decide (p1 ≤ 122))) || (decide (p1 = 95)))) (e_pickF hF rfl rfl) (by rw [hb]; rfl)) fun a hF => ?_
    exact key _ _ (hF.has ⟨rfl, trivial⟩) hS
  intro a w hF hS
  refine ls <| q1 hF rfl (e_asg hF rfl) fun a hF => ?_
  refine re <| ?_
  refine tn <| ?_
  refine wp_ret <| ?_
  obtain rfl := Option.some.inj hm
  exact r1 hF Tryd.results68 rfl ⟨rfl, hS.keep⟩

set_option maxRecDepth 100000 in
theorem leadlineref02_Kept_c {N : Nat} {w0 : World} {H : PH} (hH : H.le w0) {p1 : Str} {r : Bool} (hm : leadlineref02_Kept N p1 = some r) : Tot Tryd.prog 69 #[strv p1] w0 (fun v w' => v = .bool r ∧ Keep Nil w0 w') := by
  unfold leadlineref02_Kept at hm
  refine fn0 (args := [strv p1]) (F := [(0, strv p1)]) Tryd.func69 rfl Tryd.ntmps69 rfl rfl fun a hF => ?_
  have hS : St w0 Nil [H] [] w0 := start1 hH
  refine th <| ?_
  refine rg <| ?_
  refine ls <| q1 hF rfl (e_asg hF rfl) fun a hF => ?_
  refine re <| ?_
  refine tn <| th <| ?_
  refine rg <| ?_
  refine ls <| a_bsl (e := 9) (sz := 1) [strv [108, 105, 110, 101], strv [118, 111, 108], strv [108, 111, 99, 107], strv [116, 104, 114, 101, 97, 100], strv [114, 101, 103], strv [108, 111, 97, 100], strv [115, 116, 111, 114, 101], strv [99, 97, 115], strv [102, 108, 117, 115, 104], strv [111, 112, 116], strv [115, 102, 101, 110, 99, 101], strv [109, 102, 101, 110, 99, 101], strv [116, 97, 107, 101], strv [103, 105, 118, 101], strv [105, 102], strv [101, 108, 115, 101], strv [108, 111, 111, 112], strv [98, 114, 101, 97, 107], strv [99, 104, 101, 99, 107], strv [114, 101, 99, 111, 118, 101, 114], strv [97, 108, 119, 97, 121, 115]] hF rfl hS rfl rfl rfl (fun w => by kernel_rfl) fun b3 w a hS hF => ?_
  have hv2 : Rows (α := Str) H [strv [108, 105, 110, 101], strv [118, 111, 108], strv [108, 111, 99, 107], strv [116, 104, 114, 101, 97, 100], strv [114, 101, 103], strv [108, 111, 97, 100], strv [115, 116, 111, 114, 101], strv [99, 97, 115], strv [102, 108, 117, 115, 104], strv [111, 112, 116], strv [115, 102, 101, 110, 99, 101], strv [109, 102, 101, 110, 99, 101], strv [116, 97, 107, 101], strv [103, 105, 118, 101], strv [105, 102], strv [101, 108, 115, 101], strv [108, 111, 111, 112], strv [98, 114, 101, 97, 107], strv [99, 104, 101, 99, 107], strv [114, 101, 99, 111, 118, 101, 114], strv [97, 108, 119, 97, 121, 115]] ([[108, 105, 110, 101], [118, 111, 108], [108, 111, 99, 107], [116, 104, 114, 101, 97, 100], [114, 101, 103], [108, 111, 97, 100], [115, 116, 111, 114, 101], [99, 97, 115], [102, 108, 117, 115, 104], [111, 112, 116], [115, 102, 101, 110, 99, 101], [109, 102, 101, 110, 99, 101], [116, 97, 107, 101], [103, 105, 118, 101], [105, 102], [101, 108, 115, 101], [108, 111, 111, 112], [98, 114, 101, 97, 107], [99, 104, 101, 99, 107], [114, 101, 99, 111, 118, 101, 114], [97, 108, 119, 97, 121, 115]] : List Str) := (.cons (c := [strv [108, 105, 110, 101]]) rfl (.cons (c := [strv [118, 111, 108]]) rfl (.cons (c := [strv [108, 111, 99, 107]]) rfl (.cons (c := [strv [116, 104, 114, 101, 97, 100]]) rfl (.cons (c := [strv [114, 101, 103]]) rfl (.cons (c := [strv [108, 111, 97, 100]]) rfl (.cons (c := [strv [115, 116, 111, 114, 101]]) rfl (.cons (c := [strv [99, 97, 115]]) rfl (.cons (c := [strv [102, 108, 117, 115, 104]]) rfl (.cons (c := [strv [111, 112, 116]]) rfl (.cons (c := [strv [115, 102, 101, 110, 99, 101]]) rfl (.cons (c := [strv [109, 102, 101, 110, 99, 101]]) rfl (.cons (c := [strv [116, 97, 107, 101]]) rfl (.cons (c := [strv [103, 105, 118, 101]]) rfl (.cons (c := [strv [105, 102]]) rfl (.cons (c := [strv [101, 108, 115, 101]]) rfl (.cons (c := [strv [108, 111, 111, 112]]) rfl (.cons (c := [strv [98, 114, 101, 97, 107]]) rfl (.cons (c := [strv [99, 104, 101, 99, 107]]) rfl (.cons (c := [strv [114, 101, 99, 111, 118, 101, 114]]) rfl (.cons (c := [strv [97, 108, 119, 97, 121, 115]]) rfl .nil)))))))))))))))))))))
  refine ls <| q1 hF rfl (e_asg hF rfl) fun a hF => ?_
  refine re <| ?_
  refine tn <| th <| th <| ?_
  refine rg <| ?_
  refine ls <| q1 hF rfl (e_asg hF rfl) fun a hF => ?_
  refine re <| ?_
  refine tn <| midK (fun a w => ∃ (HA1 : PH), leadlineref02_Kept_j1 = some r ∧ Ext w0 H HA1 ∧ Fr 18 [] a ∧ St w0 Nil [HA1] [] w) ?_ ?_
  ·
    refine wp_block <| lp (α := Nat × Int) (fun (gh : Nat × Int) a w => match gh with | (nn2, vB2) => ∃ (HB1 : PH), (leadlineref02_Kept_l2 N leadlineref02_Kept_j1 p1) nn2 vB2 = some r ∧ Ext w0 H HB1 ∧ Fr 18 [(0, strv p1), (3, .slice (some ⟨b3, 0, none⟩) ([[108, 105, 110, 101], [118, 111, 108], [108, 111, 99, 107], [116, 104, 114, 101, 97, 100], [114, 101, 103], [108, 111, 97, 100], [115, 116, 111, 114, 101], [99, 97, 115], [102, 108, 117, 115, 104], [111, 112, 116], [115, 102, 101, 110, 99, 101], [109, 102, 101, 110, 99, 101], [116, 97, 107, 101], [103, 105, 118, 101], [105, 102], [101, 108, 115, 101], [108, 111, 111, 112], [98, 114, 101, 97, 107], [99, 104, 101, 99, 107], [114, 101, 99, 111, 118, 101, 114], [97, 108, 119, 97, 121, 115]] : List Str).length 21), (4, .int .i64 vB2)] a ∧ St w0 Nil [HB1] [sla 9 1 (some ⟨b3, 0, none⟩) ([[108, 105, 110, 101], [118, 111, 108], [108, 111, 99, 107], [116, 104, 114, 101, 97, 100], [114, 101, 103], [108, 111, 97, 100], [115, 116, 111, 114, 101], [99, 97, 115], [102, 108, 117, 115, 104], [111, 112, 116], [115, 102, 101, 110, 99, 101], [109, 102, 101, 110, 99, 101], [116, 97, 107, 101], [103, 105, 118, 101], [105, 102], [101, 108, 115, 101], [108, 111, 111, 112], [98, 114, 101, 97, 107], [99, 104, 101, 99, 107], [114, 101, 99, 111, 118, 101, 114], [97, 108, 119, 97, 121, 115]] : List Str).length 21 [strv [108, 105, 110, 101], strv [118, 111, 108], strv [108, 111, 99, 107], strv [116, 104, 114, 101, 97, 100], strv [114, 101, 103], strv [108, 111, 97, 100], strv [115, 116, 111, 114, 101], strv [99, 97, 115], strv [102, 108, 117, 115, 104], strv [111, 112, 116], strv [115, 102, 101, 110, 99, 101], strv [109, 102, 101, 110, 99, 101], strv [116, 97, 107, 101], strv [103, 105, 118, 101], strv [105, 102], strv [101, 108, 115, 101], strv [108, 111, 111, 112], strv [98, 114, 101, 97, 107], strv [99, 104, 101, 99, 107], strv [114, 101, 99, 111, 118, 101, 114], strv [97, 108, 119, 97, 121, 115]]] w) (fun gh => gh.1) (N, 0) ⟨H, hm, (Ext.refl _ _), hF.has ⟨rfl, rfl, rfl, trivial⟩, hS⟩ ?_
    clear hm hF hS
    rintro ⟨nn2, vB2⟩ a w ⟨HB1, hm, hxHB1, hF, hS⟩
    obtain _ | nn2 := nn2
    · simp [leadlineref02_Kept_l2] at hm
    rw [leadlineref02_Kept_l2] at hm
    refine th <| th <| ?_
    refine rg <| ?_
    refine ls <| q1 hF rfl (e_move hF rfl) fun a hF => ?_
    refine ls <| q1 hF rfl (e_move hF rfl) fun a hF => ?_
    refine ls <| q1 hF rfl (e_lenL (α := Str) (xs := ([[108, 105, 110, 101], [118, 111, 108], [108, 111, 99, 107], [116, 104, 114, 101, 97, 100], [114, 101, 103], [108, 111, 97, 100], [115, 116, 111, 114, 101], [99, 97, 115], [102, 108, 117, 115, 104], [111, 112, 116], [115, 102, 101, 110, 99, 101], [109, 102, 101, 110, 99, 101], [116, 97, 107, 101], [103, 105, 118, 101], [105, 102], [101, 108, 115, 101], [108, 111, 111, 112], [98, 114, 101, 97, 107], [99, 104, 101, 99, 107], [114, 101, 99, 111, 118, 101, 114], [97, 108, 119, 97, 121, 115]] : List Str)) hF Tryd.runUnderlying23 rfl) fun a hF => ?_
    refine ls <| q1 hF rfl (e_lss hF rfl rfl) fun a hF => ?_
    refine re <| ?_
    rcases bdich (decide (vB2 < (([[108, 105, 110, 101], [118, 111, 108], [108, 111, 99, 107], [116, 104, 114, 101, 97, 100], [114, 101, 103], [108, 111, 97, 100], [115, 116, 111, 114, 101], [99, 97, 115], [102, 108, 117, 115, 104], [111, 112, 116], [115, 102, 101, 110, 99, 101], [109, 102, 101, 110, 99, 101], [116, 97, 107, 101], [103, 105, 118, 101], [105, 102], [101, 108, 115, 101], [108, 111, 111, 112], [98, 114, 101, 97, 107], [99, 104, 101, 99, 107], [114, 101, 99, 111, 118, 101, 114], [97, 108, 119, 97, 121, 115]] : List Str).length : Int))) with hb5 | hb5
    ·
      replace hm := itp_t hm hb5
      refine tn <| ctv hF rfl hb5 <| wp_skip <| ?_
      refine tn <| th <| wp_block <| th <| ?_
      replace hm := bind_some hm
      obtain ⟨x6, h7, hm⟩ := hm
      have ho8 := Rd.oaI (hS.rdO (.head _)) hv2 (by decide) h7
      obtain ⟨c9, g10, hl11⟩ := Rows.getI hv2 h7
      obtain rfl : c9 = [strv x6] := g10
      refine rg <| ?_
      refine ls <| q1 hF rfl (e_move hF rfl) fun a hF => ?_
      refine ls <| q1 hF rfl (e_move hF rfl) fun a hF => ?_
      refine ls <| q1 hF rfl (e_iaI hF Tryd.runUnderlying23 Tryd.sizeOf9 rfl rfl h7 ho8) fun a hF => ?_
      refine ls <| q1 hF rfl (e_ld hF Tryd.isAgg9 rfl ((St.ld hS).elO (.head _) (hl11 0 _ rfl))) fun a hF => ?_
      refine ls <| q1 hF rfl (e_move hF rfl) fun a hF => ?_
      refine ls <| q1 hF rfl (e_eqlU (m := x6) (n := p1) hF rfl rfl) fun a hF => ?_
      refine re <| ?_
      rcases bdich (decide (x6 = p1)) with hb12 | hb12
      ·
        replace hm := itp_t hm hb12
        refine tn <| ctv hF rfl hb12 <| th <| ?_
        refine rg <| ?_
        refine ls <| q1 hF rfl (e_asg hF rfl) fun a hF => ?_
        refine re <| ?_
        refine tn <| ?_
        refine wp_ret <| br <| tr <| tr <| br <| tr <| ?_
        obtain rfl := Option.some.inj hm
        exact r1 hF Tryd.results69 rfl ⟨rfl, hS.keep⟩
      ·
        replace hm := itp_f hm hb12
        refine tn <| cfv hF rfl hb12 <| wp_skip <| ?_
        refine bn <| tn <| ?_
        refine rg <| ?_
        refine ls <| q1 hF rfl (e_move hF rfl) fun a hF => ?_
        refine ls <| q1 hF rfl (e_add hF rfl rfl) fun a hF => ?_
        refine ls <| q1 hF rfl (e_asg hF rfl) fun a hF => ?_
        refine re <| ?_
        refine tn <| ?_
        exact ⟨(nn2, (IntKind.i64.wrap (vB2 + 1))), ⟨HB1, hm, hxHB1, hF.has ⟨rfl, rfl, rfl, trivial⟩, hS⟩, Nat.lt_succ_self _⟩
    ·
      replace hm := itp_f hm hb5
      refine tn <| cfv hF rfl hb5 <| ?_
      refine wp_exit <| tx <| tx <| bx <| ?_
      refine tn <| ?_
      replace hS := hS.pickL .nil
      exact ⟨HB1, hm, hxHB1, hF.has trivial, hS⟩
  clear hm hF hS
  rintro a w ⟨HA1, hm, hxHA1, hF, hS⟩
  unfold leadlineref02_Kept_j1 at hm
  refine th <| ?_
  refine rg <| ?_
  refine ls <| q1 hF rfl (e_asg hF rfl) fun a hF => ?_
  refine re <| ?_
  refine tn <| ?_
  refine wp_ret <| ?_
  obtain rfl := Option.some.inj hm
  exact r1 hF Tryd.results69 rfl ⟨rfl, hS.keep⟩

set_option maxRecDepth 100000 in
theorem leadlineref02_digit_c {N : Nat} {w0 : World} {H : PH} (hH : H.le w0) {p1 : Int} {r : Bool} (hm : leadlineref02_digit N p1 = some r) : Tot Tryd.prog 70 #[.int .u8 p1] w0 (fun v w' => v = .bool r ∧ Keep Nil w0 w') := by
  unfold leadlineref02_digit at hm
  refine fn0 (args := [.int .u8 p1]) (F := [(0, .int .u8 p1)]) Tryd.func70 rfl Tryd.ntmps70 rfl rfl fun a hF => ?_
  have hS : St w0 Nil [H] [] w0 := start1 hH
  refine th <| ?_
  refine rg <| ?_
  refine ls <| q1 hF rfl (e_asg hF rfl) fun a hF => ?_
  refine re <| ?_
  refine tn <| th <| ?_
  refine rg <| ?_
  refine ls <| q1 hF rfl (e_move hF rfl) fun a hF => ?_
  refine ls <| q1 hF rfl (e_geq hF rfl rfl) fun a hF => ?_
  refine ls <| q1 hF rfl (e_move hF rfl) fun a hF => ?_
  refine grp (N := 9) (Fk := [(8, .bool ((decide (48 ≤ p1)) && (decide (p1 ≤ 57))))]) (b := (decide (48 ≤ p1))) 3 hS ?_ ?_ ?_
  ·
    intro hb key
    replace hF := Fr.as hF (t := 5) rfl (congrArg Value.bool hb)
    refine ls <| gy hF rfl rfl <| q1 hF rfl (e_move hF rfl) fun a hF => ?_
    refine ls <| gy hF rfl rfl <| q1 hF rfl (e_leq hF rfl rfl) fun a hF => ?_
    refine ls <| q1 hF rfl (e_as (v' := .bool ((decide (48 ≤ p1)) && (decide (p1 ≤ 57)))) (e_pickT hF rfl rfl) (by rw [hb]; rfl)) fun a hF => ?_
    exact key _ _ (hF.has ⟨rfl, trivial⟩) hS
  ·
    intro hb key
    replace hF := Fr.as hF (t := 5) rfl (congrArg Value.bool hb)
    refine ls <| gn hF rfl rfl rfl rfl fun a hF => ?_
    refine ls <| gn hF rfl rfl rfl rfl fun a hF => ?_
    refine ls <| q1 hF rfl (e_as (v' := .bool ((decide (48 ≤ p1)) && (decide (p1 ≤ 57)))) (e_pickF hF rfl rfl) (by rw [hb]; rfl)) fun a hF => ?_
    exact key _ _ (hF.has ⟨rfl, trivial⟩) hS
  intro a w hF hS
  refine ls <| q1 hF rfl (e_asg hF rfl) fun a hF => ?_
  refine re <| ?_
  refine tn <| ?_
  refine wp_ret <| ?_
  obtain rfl := Option.some.inj hm
  exact r1 hF Tryd.results70 rfl ⟨rfl, hS.keep⟩

set_option maxRecDepth 100000 in
theorem leadlineref02_Name_c {N : Nat} {w0 : World} {H : PH} (hH : H.le w0) {p1 : Str} {r : Bool} (hm : leadlineref02_Name N p1 = some r) : Tot Tryd.prog 53 #[strv p1] w0 (fun v w' => v = .bool r ∧ Keep Nil w0 w') := by
  unfold leadlineref02_Name at hm
  refine fn0 (args := [strv p1]) (F := [(0, strv p1)]) Tryd.func53 rfl Tryd.ntmps53 rfl rfl fun a hF => ?_
  have hS : St w0 Nil [H] [] w0 := start1 hH
  refine th <| ?_
  refine rg <| ?_
  refine ls <| q1 hF rfl (e_asg hF rfl) fun a hF => ?_
  refine re <| ?_
  refine tn <| th <| th <| midK (fun a w => ∃ (vA2 : Bool) (HA1 : PH), (leadlineref02_Name_j1 N p1) vA2 = some r ∧ Ext w0 H HA1 ∧ Fr 40 [(0, strv p1), (21, .bool vA2)] a ∧ St w0 Nil [HA1] [] w) ?_ ?_
  ·
    rcases bdich ((decide ((p1.length : Int) < 1)) || (decide (16 < (p1.length : Int)))) with hb2 | hb2
    ·
      replace hm := ite_t hm hb2
      refine rg <| ?_
      refine ls <| q1 hF rfl (e_move hF rfl) fun a hF => ?_
      refine ls <| q1 hF rfl (e_lenU (s := p1) hF Tryd.runUnderlying9 rfl) fun a hF => ?_
      refine ls <| q1 hF rfl (e_lss hF rfl rfl) fun a hF => ?_
      refine ls <| q1 hF rfl (e_move hF rfl) fun a hF => ?_
      refine grp (N := 40) (Fk := [(0, strv p1), (11, .bool ((decide ((p1.length : Int) < 1)) || (decide (16 < (p1.length : Int)))))]) (b := (decide ((p1.length : Int) < 1))) 4 hS ?_ ?_ ?_
      ·
        intro hb key
        replace hF := Fr.as hF (t := 7) rfl (congrArg Value.bool hb)
        refine ls <| gn hF rfl rfl rfl rfl fun a hF => ?_
        refine ls <| gn hF rfl rfl rfl rfl fun a hF => ?_
        refine ls <| gn hF rfl rfl rfl rfl fun a hF => ?_
        refine ls <| q1 hF rfl (e_as (v' := .bool ((decide ((p1.length : Int) < 1)) || (decide (16 < (p1.length : Int))))) (e_pickT hF rfl rfl) (by rw [hb]; rfl)) fun a hF => ?_
        exact key _ _ (hF.has ⟨rfl, rfl, trivial⟩) hS
      ·
        intro hb key
        replace hF := Fr.as hF (t := 7) rfl (congrArg Value.bool hb)
        refine ls <| gy hF rfl rfl <| q1 hF rfl (e_move hF rfl) fun a hF => ?_
        refine ls <| gy hF rfl rfl <| q1 hF rfl (e_lenU (s := p1) hF Tryd.runUnderlying9 rfl) fun a hF => ?_
        refine ls <| gy hF rfl rfl <| q1 hF rfl (e_gtr hF rfl rfl) fun a hF => ?_
        refine ls <| q1 hF rfl (e_as (v' := .bool ((decide ((p1.length : Int) < 1)) || (decide (16 < (p1.length : Int))))) (e_pickF hF rfl rfl) (by rw [hb]; rfl)) fun a hF => ?_
        exact key _ _ (hF.has ⟨rfl, rfl, trivial⟩) hS
      intro a w hF hS
      refine ls <| q1 hF rfl (e_as (e_move hF rfl) (congrArg Value.bool hb2)) fun a hF => ?_
      refine ls <| gn hF rfl rfl rfl rfl fun a hF => ?_
      refine ls <| gn hF rfl rfl rfl rfl fun a hF => ?_
      refine ls <| gn hF rfl rfl rfl rfl fun a hF => ?_
      refine ls <| gn hF rfl rfl rfl rfl fun a hF => ?_
      refine ls <| q1 hF rfl (e_pickT hF rfl rfl) fun a hF => ?_
      refine ls <| q1 hF rfl (e_move hF rfl) fun a hF => ?_
      refine ls <| gn hF rfl rfl rfl rfl fun a hF => ?_
      refine ls <| gn hF rfl rfl rfl rfl fun a hF => ?_
      refine ls <| q1 hF rfl (e_pickT hF rfl rfl) fun a hF => ?_
      refine re <| ?_
      refine tn <| ?_
      exact ⟨true, H, hm, (Ext.refl _ _), hF.has ⟨rfl, rfl, trivial⟩, hS⟩
    ·
      replace hm := ite_f hm hb2
      replace hm := bind_some hm
      obtain ⟨x3, h4, hm⟩ := hm
      replace hm := bind_some hm
      obtain ⟨r5, h6, hm⟩ := hm
      rcases bdich r5 with hb7 | hb7
      ·
        replace hm := ite_t hm hb7
        have hb7' : (!r5) = false := by rw [hb7]; rfl
        replace hm := bind_some hm
        obtain ⟨r8, h9, hm⟩ := hm
        refine rg <| ?_
        refine ls <| q1 hF rfl (e_move hF rfl) fun a hF => ?_
        refine ls <| q1 hF rfl (e_lenU (s := p1) hF Tryd.runUnderlying9 rfl) fun a hF => ?_
        refine ls <| q1 hF rfl (e_lss hF rfl rfl) fun a hF => ?_
        refine ls <| q1 hF rfl (e_move hF rfl) fun a hF => ?_
        refine grp (N := 40) (Fk := [(0, strv p1), (11, .bool ((decide ((p1.length : Int) < 1)) || (decide (16 < (p1.length : Int)))))]) (b := (decide ((p1.length : Int) < 1))) 4 hS ?_ ?_ ?_
        ·
          intro hb key
          replace hF := Fr.as hF (t := 7) rfl (congrArg Value.bool hb)
          refine ls <| gn hF rfl rfl rfl rfl fun a hF => ?_
          refine ls <| gn hF rfl rfl rfl rfl fun a hF => ?_
          refine ls <| gn hF rfl rfl rfl rfl fun a hF => ?_
          refine ls <| q1 hF rfl (e_as (v' := .bool ((decide ((p1.length : Int) < 1)) || (decide (16 < (p1.length : Int))))) (e_pickT hF rfl rfl) (by rw [hb]; rfl)) fun a hF => ?_
          exact key _ _ (hF.has ⟨rfl, rfl, trivial⟩) hS
        ·
          intro hb key
          replace hF := Fr.as hF (t := 7) rfl (congrArg Value.bool hb)
          refine ls <| gy hF rfl rfl <| q1 hF rfl (e_move hF rfl) fun a hF => ?_
          refine ls <| gy hF rfl rfl <| q1 hF rfl (e_lenU (s := p1) hF Tryd.runUnderlying9 rfl) fun a hF => ?_
          refine ls <| gy hF rfl rfl <| q1 hF rfl (e_gtr hF rfl rfl) fun a hF => ?_
          refine ls <| q1 hF rfl (e_as (v' := .bool ((decide ((p1.length : Int) < 1)) || (decide (16 < (p1.length : Int))))) (e_pickF hF rfl rfl) (by rw [hb]; rfl)) fun a hF => ?_
          exact key _ _ (hF.has ⟨rfl, rfl, trivial⟩) hS
        intro a w hF hS
        refine ls <| q1 hF rfl (e_as (e_move hF rfl) (congrArg Value.bool hb2)) fun a hF => ?_
        refine ls <| gy hF rfl rfl <| q1 hF rfl (e_move hF rfl) fun a hF => ?_
        refine ls <| gy hF rfl rfl <| q1 hF rfl (e_byte (s := p1) hF Tryd.runUnderlying9 rfl rfl h4) fun a hF => ?_
        refine ls <| gy hF rfl rfl <| c1 hF rfl Tryd.call68 (leadlineref02_letter_c (hp_le _) h6) ⟨rfl, trivial⟩ (fun v w a hR hF => ?_)
        obtain ⟨rfl, hk⟩ := hR
        replace hS := hS.pass hk
        clear hk
        refine ls <| gy hF rfl rfl <| q1 hF rfl (e_not hF rfl) fun a hF => ?_
        refine ls <| q1 hF rfl (e_pickF hF rfl rfl) fun a hF => ?_
        refine ls <| q1 hF rfl (e_as (e_move hF rfl) (congrArg Value.bool hb7')) fun a hF => ?_
        refine ls <| gy hF rfl rfl <| q1 hF rfl (e_move hF rfl) fun a hF => ?_
        refine ls <| gy hF rfl rfl <| c1 hF rfl Tryd.call69 (leadlineref02_Kept_c (hp_le _) h9) ⟨rfl, trivial⟩ (fun v w a hR hF => ?_)
        obtain ⟨rfl, hk⟩ := hR
        replace hS := hS.pass hk
        clear hk
        refine ls <| q1 hF rfl (e_pickF hF rfl rfl) fun a hF => ?_
        refine re <| ?_
        refine tn <| ?_
        exact ⟨r8, H, hm, (Ext.refl _ _), hF.has ⟨rfl, rfl, trivial⟩, hS⟩
      ·
        replace hm := ite_f hm hb7
        have hb7' : (!r5) = true := by rw [hb7]; rfl
        refine rg <| ?_
        refine ls <| q1 hF rfl (e_move hF rfl) fun a hF => ?_
        refine ls <| q1 hF rfl (e_lenU (s := p1) hF Tryd.runUnderlying9 rfl) fun a hF => ?_
        refine ls <| q1 hF rfl (e_lss hF rfl rfl) fun a hF => ?_
        refine ls <| q1 hF rfl (e_move hF rfl) fun a hF => ?_
        refine grp (N := 40) (Fk := [(0, strv p1), (11, .bool ((decide ((p1.length : Int) < 1)) || (decide (16 < (p1.length : Int)))))]) (b := (decide ((p1.length : Int) < 1))) 4 hS ?_ ?_ ?_
        ·
          intro hb key
          replace hF := Fr.as hF (t := 7) rfl (congrArg Value.bool hb)
          refine ls <| gn hF rfl rfl rfl rfl fun a hF => ?_
          refine ls <| gn hF rfl rfl rfl rfl fun a hF => ?_
          refine ls <| gn hF rfl rfl rfl rfl fun a hF => ?_
          refine ls <| q1 hF rfl (e_as (v' := .bool ((decide ((p1.length : Int) < 1)) || (decide (16 < (p1.length : Int))))) (e_pickT hF rfl rfl) (by rw [hb]; rfl)) fun a hF => ?_
          exact key _ _ (hF.has ⟨rfl, rfl, trivial⟩) hS
        ·
          intro hb key
          replace hF := Fr.as hF (t := 7) rfl (congrArg Value.bool hb)
          refine ls <| gy hF rfl rfl <| q1 hF rfl (e_move hF rfl) fun a hF => ?_
          refine ls <| gy hF rfl rfl <| q1 hF rfl (e_lenU (s := p1) hF Tryd.runUnderlying9 rfl) fun a hF => ?_
          refine ls <| gy hF rfl rfl <| q1 hF rfl (e_gtr hF rfl rfl) fun a hF => ?_
          refine ls <| q1 hF rfl (e_as (v' := .bool ((decide ((p1.length : Int) < 1)) || (decide (16 < (p1.length : Int))))) (e_pickF hF rfl rfl) (by rw [hb]; rfl)) fun a hF => ?_
          exact key _ _ (hF.has ⟨rfl, rfl, trivial⟩) hS
        intro a w hF hS
        refine ls <| q1 hF rfl (e_as (e_move hF rfl) (congrArg Value.bool hb2)) fun a hF => ?_
        refine ls <| gy hF rfl rfl <| q1 hF rfl (e_move hF rfl) fun a hF => ?_
        refine ls <| gy hF rfl rfl <| q1 hF rfl (e_byte (s := p1) hF Tryd.runUnderlying9 rfl rfl h4) fun a hF => ?_
        refine ls <| gy hF rfl rfl <| c1 hF rfl Tryd.call68 (leadlineref02_letter_c (hp_le _) h6) ⟨rfl, trivial⟩ (fun v w a hR hF => ?_)
        obtain ⟨rfl, hk⟩ := hR
        replace hS := hS.pass hk
        clear hk
        refine ls <| gy hF rfl rfl <| q1 hF rfl (e_not hF rfl) fun a hF => ?_
        refine ls <| q1 hF rfl (e_pickF hF rfl rfl) fun a hF => ?_
        refine ls <| q1 hF rfl (e_as (e_move hF rfl) (congrArg Value.bool hb7')) fun a hF => ?_
        refine ls <| gn hF rfl rfl rfl rfl fun a hF => ?_
        refine ls <| gn hF rfl rfl rfl rfl fun a hF => ?_
        refine ls <| q1 hF rfl (e_pickT hF rfl rfl) fun a hF => ?_
        refine re <| ?_
        refine tn <| ?_
        exact ⟨true, H, hm, (Ext.refl _ _), hF.has ⟨rfl, rfl, trivial⟩, hS⟩
  clear hm hF hS
  rintro a w ⟨vA2, HA1, hm, hxHA1, hF, hS⟩
  unfold leadlineref02_Name_j1 at hm
  rcases bdich vA2 with hb10 | hb10
  ·
    replace hm := ite_t hm hb10
    refine ctv hF rfl hb10 <| th <| ?_
    refine rg <| ?_
    refine ls <| q1 hF rfl (e_asg hF rfl) fun a hF => ?_
    refine re <| ?_
    refine tn <| ?_
    refine wp_ret <| tr <| ?_
    obtain rfl := Option.some.inj hm
    exact r1 hF Tryd.results53 rfl ⟨rfl, hS.keep⟩
  ·
    replace hm := ite_f hm hb10
    refine cfv hF rfl hb10 <| wp_skip <| ?_
    refine tn <| th <| th <| ?_
    refine rg <| ?_
    refine ls <| q1 hF rfl (e_asg hF rfl) fun a hF => ?_
    refine re <| ?_
    refine tn <| midK (fun a w => leadlineref02_Name_j2 = some r ∧ Fr 40 [] a ∧ St w0 Nil [HA1] [] w) ?_ ?_
    ·
      refine wp_block <| lp (α := Nat × Int) (fun (gh : Nat × Int) a w => match gh with | (nn3, vB1) => (leadlineref02_Name_l3 N leadlineref02_Name_j2 p1) nn3 vB1 = some r ∧ Fr 40 [(0, strv p1), (3, .int .i64 vB1)] a ∧ St w0 Nil [HA1] [] w) (fun gh => gh.1) (N, 0) ⟨hm, hF.has ⟨rfl, rfl, trivial⟩, hS⟩ ?_
      clear hm hF hS
      rintro ⟨nn3, vB1⟩ a w ⟨hm, hF, hS⟩
      obtain _ | nn3 := nn3
      · simp [leadlineref02_Name_l3] at hm
      rw [leadlineref02_Name_l3] at hm
      refine th <| th <| ?_
      refine rg <| ?_
      refine ls <| q1 hF rfl (e_move hF rfl) fun a hF => ?_
      refine ls <| q1 hF rfl (e_move hF rfl) fun a hF => ?_
      refine ls <| q1 hF rfl (e_lenU (s := p1) hF Tryd.runUnderlying9 rfl) fun a hF => ?_
      refine ls <| q1 hF rfl (e_lss hF rfl rfl) fun a hF => ?_
      refine re <| ?_
      rcases bdich (decide (vB1 < (p1.length : Int))) with hb11 | hb11
      ·
        replace hm := itp_t hm hb11
        refine tn <| ctv hF rfl hb11 <| wp_skip <| ?_
        refine tn <| th <| wp_block <| th <| midK (fun a w => ∃ (vC1 : Bool), (leadlineref02_Name_j4 (leadlineref02_Name_l3 N leadlineref02_Name_j2 p1 nn3) vB1) vC1 = some r ∧ Fr 40 [(0, strv p1), (3, .int .i64 vB1), (39, .bool vC1)] a ∧ St w0 Nil [HA1] [] w) ?_ ?_
        ·
          replace hm := bind_some hm
          obtain ⟨x12, h13, hm⟩ := hm
          replace hm := bind_some hm
          obtain ⟨r14, h15, hm⟩ := hm
          rcases bdich r14 with hb16 | hb16
          ·
            replace hm := ite_t hm hb16
            have hb16' : (!r14) = false := by rw [hb16]; rfl
            refine rg <| ?_
            refine ls <| q1 hF rfl (e_move hF rfl) fun a hF => ?_
            refine ls <| q1 hF rfl (e_move hF rfl) fun a hF => ?_
            refine ls <| q1 hF rfl (e_byte (s := p1) hF Tryd.runUnderlying9 rfl rfl h13) fun a hF => ?_
            refine ls <| c1 hF rfl Tryd.call68 (leadlineref02_letter_c (hp_le _) h15) ⟨rfl, trivial⟩ (fun v w a hR hF => ?_)
            obtain ⟨rfl, hk⟩ := hR
            replace hS := hS.pass hk
            clear hk
            refine ls <| q1 hF rfl (e_not hF rfl) fun a hF => ?_
            refine ls <| q1 hF rfl (e_as (e_move hF rfl) (congrArg Value.bool hb16')) fun a hF => ?_
            refine ls <| gn hF rfl rfl rfl rfl fun a hF => ?_
            refine ls <| gn hF rfl rfl rfl rfl fun a hF => ?_
            refine ls <| gn hF rfl rfl rfl rfl fun a hF => ?_
            refine ls <| gn hF rfl rfl rfl rfl fun a hF => ?_
            refine ls <| gn hF rfl rfl rfl rfl fun a hF => ?_
            refine ls <| q1 hF rfl (e_pickF hF rfl rfl) fun a hF => ?_
            refine re <| ?_
            refine tn <| ?_
            exact ⟨false, hm, hF.has ⟨rfl, rfl, rfl, trivial⟩, hS⟩
          ·
            replace hm := ite_f hm hb16
            have hb16' : (!r14) = true := by rw [hb16]; rfl
            replace hm := bind_some hm
            obtain ⟨x17, h18, hm⟩ := hm
            replace hm := bind_some hm
            obtain ⟨r19, h20, hm⟩ := hm
            refine rg <| ?_
            refine ls <| q1 hF rfl (e_move hF rfl) fun a hF => ?_
            refine ls <| q1 hF rfl (e_move hF rfl) fun a hF => ?_
            refine ls <| q1 hF rfl (e_byte (s := p1) hF Tryd.runUnderlying9 rfl rfl h13) fun a hF => ?_
            refine ls <| c1 hF rfl Tryd.call68 (leadlineref02_letter_c (hp_le _) h15) ⟨rfl, trivial⟩ (fun v w a hR hF => ?_)
            obtain ⟨rfl, hk⟩ := hR
            replace hS := hS.pass hk
            clear hk
            refine ls <| q1 hF rfl (e_not hF rfl) fun a hF => ?_
            refine ls <| q1 hF rfl (e_as (e_move hF rfl) (congrArg Value.bool hb16')) fun a hF => ?_
            refine ls <| gy hF rfl rfl <| q1 hF rfl (e_move hF rfl) fun a hF => ?_
            refine ls <| gy hF rfl rfl <| q1 hF rfl (e_move hF rfl) fun a hF => ?_
            refine ls <| gy hF rfl rfl <| q1 hF rfl (e_byte (s := p1) hF Tryd.runUnderlying9 rfl rfl h18) fun a hF => ?_
            refine ls <| gy hF rfl rfl <| c1 hF rfl Tryd.call70 (leadlineref02_digit_c (hp_le _) h20) ⟨rfl, trivial⟩ (fun v w a hR hF => ?_)
            obtain ⟨rfl, hk⟩ := hR
            replace hS := hS.pass hk
            clear hk
            refine ls <| gy hF rfl rfl <| q1 hF rfl (e_not hF rfl) fun a hF => ?_
            refine ls <| q1 hF rfl (e_pickT hF rfl rfl) fun a hF => ?_
            refine re <| ?_
            refine tn <| ?_
            exact ⟨(!r19), hm, hF.has ⟨rfl, rfl, rfl, trivial⟩, hS⟩
        clear hm hF hS
        rintro a w ⟨vC1, hm, hF, hS⟩
        unfold leadlineref02_Name_j4 at hm
        rcases bdich vC1 with hb21 | hb21
        ·
          replace hm := ite_t hm hb21
          refine ctv hF rfl hb21 <| th <| ?_
          refine rg <| ?_
          refine ls <| q1 hF rfl (e_asg hF rfl) fun a hF => ?_
          refine re <| ?_
          refine tn <| ?_
          refine wp_ret <| br <| tr <| tr <| br <| tr <| ?_
          obtain rfl := Option.some.inj hm
          exact r1 hF Tryd.results53 rfl ⟨rfl, hS.keep⟩
        ·
          replace hm := ite_f hm hb21
          refine cfv hF rfl hb21 <| wp_skip <| ?_
          refine bn <| tn <| ?_
          refine rg <| ?_
          refine ls <| q1 hF rfl (e_move hF rfl) fun a hF => ?_
          refine ls <| q1 hF rfl (e_add hF rfl rfl) fun a hF => ?_
          refine ls <| q1 hF rfl (e_asg hF rfl) fun a hF => ?_
          refine re <| ?_
          refine tn <| ?_
          exact ⟨(nn3, (IntKind.i64.wrap (vB1 + 1))), ⟨hm, hF.has ⟨rfl, rfl, trivial⟩, hS⟩, Nat.lt_succ_self _⟩
      ·
        replace hm := itp_f hm hb11
        refine tn <| cfv hF rfl hb11 <| ?_
        refine wp_exit <| tx <| tx <| bx <| ?_
        refine tn <| ?_
        exact ⟨hm, hF.has trivial, hS⟩
    clear hm hF hS
    rintro a w ⟨hm, hF, hS⟩
    unfold leadlineref02_Name_j2 at hm
    refine th <| ?_
    refine rg <| ?_
    refine ls <| q1 hF rfl (e_asg hF rfl) fun a hF => ?_
    refine re <| ?_
    refine tn <| ?_
    refine wp_ret <| ?_
    obtain rfl := Option.some.inj hm
    exact r1 hF Tryd.results53 rfl ⟨rfl, hS.keep⟩

set_option maxRecDepth 100000 in
theorem leadlineref03_deep_c : ∀ (N : Nat) {w0 : World} {H : PH} (hH : H.le w0) {oa2 : Option Addr} {cap3 : Nat} {p1 : (List api_Node)} (hc4 : p1.length ≤ cap3) (hr5 : SR H oa2 p1) {p6 : Int} {r : Int} (hm : leadlineref03_deep N p1 p6 = some r), Tot Tryd.prog 54 #[.slice oa2 p1.length cap3, .int .i64 p6] w0 (fun v w' => v = .int .i64 r ∧ Keep Nil w0 w') := by
  intro N
  induction N with
  | zero => intros; rename_i hm; simp [leadlineref03_deep] at hm
  | succ N ih =>
  intro w0 H hH oa2 cap3 p1 hc4 hr5 p6 r hm
  rw [leadlineref03_deep] at hm
  refine fn0 (args := [.slice oa2 p1.length cap3, .int .i64 p6]) (F := [(0, .slice oa2 p1.length cap3), (1, .int .i64 p6)]) Tryd.func54 rfl Tryd.ntmps54 rfl rfl fun a hF => ?_
  have hS : St w0 Nil [H] [] w0 := start1 hH
  refine th <| ?_
  refine rg <| ?_
  refine ls <| q1 hF rfl (e_asg hF rfl) fun a hF => ?_
  refine re <| ?_
  refine tn <| th <| ?_
  refine rg <| ?_
  refine ls <| q1 hF rfl (e_move hF rfl) fun a hF => ?_
  refine ls <| q1 hF rfl (e_add hF rfl rfl) fun a hF => ?_
  refine ls <| q1 hF rfl (e_asg hF rfl) fun a hF => ?_
  refine ls <| q1 hF rfl (e_asg hF rfl) fun a hF => ?_
  refine re <| ?_
  refine tn <| th <| th <| ?_
  refine rg <| ?_
  refine ls <| q1 hF rfl (e_asg hF rfl) fun a hF => ?_
  refine re <| ?_
  refine tn <| midK (fun a w => ∃ (vA2 : Int) (HA1 : PH), leadlineref03_deep_j1 vA2 = some r ∧ Ext w0 H HA1 ∧ Fr 30 [(5, .int .i64 vA2)] a ∧ St w0 Nil [HA1] [] w) ?_ ?_
  ·
    refine wp_block <| lp (α := Nat × Int × Int × Int) (fun (gh : Nat × Int × Int × Int) a w => match gh with | (nn2, vB6, vB7, vB8) => ∃ (HB1 : PH) (oaB2 : Option Addr) (capB3 : Nat), (leadlineref03_deep_l2 (leadlineref03_deep N) N leadlineref03_deep_j1 p1 p6) nn2 vB6 vB7 vB8 = some r ∧ Ext w0 H HB1 ∧ Fr 30 [(0, .slice oaB2 p1.length capB3), (1, .int .i64 p6), (5, .int .i64 vB6), (6, .int .i64 vB7), (7, .int .i64 vB8)] a ∧ St w0 Nil [HB1] [] w ∧ p1.length ≤ capB3 ∧ SR HB1 oaB2 p1) (fun gh => gh.1) (N, 0, (IntKind.i64.wrap (p6 + 1)), 0) ⟨H, oa2, cap3, hm, (Ext.refl _ _), hF.has ⟨rfl, rfl, rfl, rfl, rfl, trivial⟩, hS, hc4, hr5⟩ ?_
    clear hm hF hS
    rintro ⟨nn2, vB6, vB7, vB8⟩ a w ⟨HB1, oaB2, capB3, hm, hxHB1, hF, hS, hcB4, hrB5⟩
    obtain _ | nn2 := nn2
    · simp [leadlineref03_deep_l2] at hm
    rw [leadlineref03_deep_l2] at hm
    refine th <| th <| ?_
    replace hm := bind_some hm
    obtain ⟨x7, h8, hm⟩ := hm
    obtain ⟨c9, g10, hl11⟩ := SR.get hrB5 h8
    obtain rfl := api_Node_open g10
    replace hm := bind_some hm
    obtain ⟨r12, h13, hm⟩ := hm
    refine rg <| ?_
    refine ls <| q1 hF rfl (e_move hF rfl) fun a hF => ?_
    refine ls <| q1 hF rfl (e_move hF rfl) fun a hF => ?_
    refine ls <| q1 hF rfl (e_move hF rfl) fun a hF => ?_
    refine ls <| q1 hF rfl (e_iaI hF Tryd.runUnderlying22 Tryd.sizeOf39 rfl rfl h8 (SR.oaI hrB5 (by decide) h8)) fun a hF => ?_
    refine ls <| q1 hF rfl (e_fa hF fa39_0 rfl) fun a hF => ?_
    refine ls <| q1 hF rfl (e_ld hF Tryd.isAgg3 rfl (PH.le.cell (Lds.le (St.ld hS)) (hl11 0 _ rfl))) fun a hF => ?_
    refine ls <| c1 hF rfl Tryd.call17 (leadlineref03_Kids_c (hp_le _) h13) ⟨rfl, trivial⟩ (fun v w a hR hF => ?_)
    obtain ⟨rfl, hk⟩ := hR
    replace hS := hS.pass hk
    clear hk
    refine ls <| q1 hF rfl (e_lss hF rfl rfl) fun a hF => ?_
    refine re <| ?_
    rcases bdich (decide (vB8 < r12)) with hb14 | hb14
    ·
      replace hm := itp_t hm hb14
      refine tn <| ctv hF rfl hb14 <| wp_skip <| ?_
      refine tn <| th <| wp_block <| th <| ?_
      replace hm := bind_some hm
      obtain ⟨r15, h16, hm⟩ := hm
      refine rg <| ?_
      refine ls <| q1 hF rfl (e_move hF rfl) fun a hF => ?_
      refine ls <| q1 hF rfl (e_move hF rfl) fun a hF => ?_
      refine ls <| q1 hF rfl (e_move hF rfl) fun a hF => ?_
      refine ls <| c1 hF rfl Tryd.call54 (ih (hp_le _) hcB4 (St.srH hS hrB5) h16) ⟨rfl, rfl, trivial⟩ (fun v w a hR hF => ?_)
      obtain ⟨rfl, hk⟩ := hR
      replace hS := hS.pass hk
      clear hk
      refine ls <| q1 hF rfl (e_max hF rfl rfl) fun a hF => ?_
      refine ls <| q1 hF rfl (e_asg hF rfl) fun a hF => ?_
      refine re <| ?_
      refine tn <| ?_
      replace hm := bind_some hm
      obtain ⟨r17, h18, hm⟩ := hm
      refine rg <| ?_
      refine ls <| q1 hF rfl (e_move hF rfl) fun a hF => ?_
      refine ls <| q1 hF rfl (e_move hF rfl) fun a hF => ?_
      refine ls <| c1 hF rfl Tryd.call52 (leadlineref03_End_c _ (hp_le _) hcB4 (St.srH hS hrB5) h18) ⟨rfl, rfl, trivial⟩ (fun v w a hR hF => ?_)
      obtain ⟨rfl, hk⟩ := hR
      replace hS := hS.pass hk
      clear hk
      refine ls <| q1 hF rfl (e_asg hF rfl) fun a hF => ?_
      refine re <| ?_
      refine bn <| tn <| ?_
      refine rg <| ?_
      refine ls <| q1 hF rfl (e_move hF rfl) fun a hF => ?_
      refine ls <| q1 hF rfl (e_add hF rfl rfl) fun a hF => ?_
      refine ls <| q1 hF rfl (e_asg hF rfl) fun a hF => ?_
      refine re <| ?_
      refine tn <| ?_
      exact ⟨(nn2, (max vB6 r15), r17, (IntKind.i64.wrap (vB8 + 1))), ⟨HB1, oaB2, capB3, hm, hxHB1, hF.has ⟨rfl, rfl, rfl, rfl, rfl, trivial⟩, hS, hcB4, hrB5⟩, Nat.lt_succ_self _⟩
    ·
      replace hm := itp_f hm hb14
      refine tn <| cfv hF rfl hb14 <| ?_
      refine wp_exit <| tx <| tx <| bx <| ?_
      refine tn <| ?_
      exact ⟨vB6, HB1, hm, hxHB1, hF.has ⟨rfl, trivial⟩, hS⟩
  clear hm hF hS
  rintro a w ⟨vA2, HA1, hm, hxHA1, hF, hS⟩
  unfold leadlineref03_deep_j1 at hm
  refine th <| ?_
  refine rg <| ?_
  refine ls <| q1 hF rfl (e_move hF rfl) fun a hF => ?_
  refine ls <| q1 hF rfl (e_add hF rfl rfl) fun a hF => ?_
  refine ls <| q1 hF rfl (e_asg hF rfl) fun a hF => ?_
  refine re <| ?_
  refine tn <| ?_
  refine wp_ret <| ?_
  obtain rfl := Option.some.inj hm
  exact r1 hF Tryd.results54 rfl ⟨rfl, hS.keep⟩

set_option maxRecDepth 100000 in
theorem leadlineref03_Right_c {N : Nat} {w0 : World} {H : PH} (hH : H.le w0) {oa2 : Option Addr} {cap3 : Nat} {p1 : (List api_Node)} (hc4 : p1.length ≤ cap3) (hr5 : SR H oa2 p1) {r : Bool} (hm : leadlineref03_Right N p1 = some r) : Tot Tryd.prog 29 #[.slice oa2 p1.length cap3] w0 (fun v w' => v = .bool r ∧ Keep Nil w0 w') := by
  unfold leadlineref03_Right at hm
  refine fn0 (args := [.slice oa2 p1.length cap3]) (F := [(0, .slice oa2 p1.length cap3)]) Tryd.func29 rfl Tryd.ntmps29 rfl rfl fun a hF => ?_
  have hS : St w0 Nil [H] [] w0 := start1 hH
  refine th <| ?_
  refine rg <| ?_
  refine ls <| q1 hF rfl (e_asg hF rfl) fun a hF => ?_
  refine re <| ?_
  refine tn <| th <| th <| midK (fun a w => ∃ (vA6 : Bool) (HA1 : PH) (oaA2 : Option Addr) (capA3 : Nat), (leadlineref03_Right_j1 N p1) vA6 = some r ∧ Ext w0 H HA1 ∧ Fr 77 [(0, .slice oaA2 p1.length capA3), (14, .bool vA6)] a ∧ St w0 Nil [HA1] [] w ∧ p1.length ≤ capA3 ∧ SR HA1 oaA2 p1) ?_ ?_
  ·
    rcases bdich (decide (40 < (p1.length : Int))) with hb6 | hb6
    ·
      replace hm := itp_t hm hb6
      refine rg <| ?_
      refine ls <| q1 hF rfl (e_move hF rfl) fun a hF => ?_
      refine ls <| q1 hF rfl (e_lenL (α := api_Node) (xs := p1) hF Tryd.runUnderlying22 rfl) fun a hF => ?_
      refine ls <| q1 hF rfl (e_gtr hF rfl rfl) fun a hF => ?_
      refine ls <| q1 hF rfl (e_as (e_move hF rfl) (congrArg Value.bool hb6)) fun a hF => ?_
      refine ls <| gn hF rfl rfl rfl rfl fun a hF => ?_
      refine ls <| gn hF rfl rfl rfl rfl fun a hF => ?_
      refine ls <| gn hF rfl rfl rfl rfl fun a hF => ?_
      refine ls <| gn hF rfl rfl rfl rfl fun a hF => ?_
      refine ls <| gn hF rfl rfl rfl rfl fun a hF => ?_
      refine ls <| q1 hF rfl (e_pickT hF rfl rfl) fun a hF => ?_
      refine re <| ?_
      refine tn <| ?_
      exact ⟨true, H, oa2, cap3, hm, (Ext.refl _ _), hF.has ⟨rfl, rfl, trivial⟩, hS, hc4, hr5⟩
    ·
      replace hm := itp_f hm hb6
      replace hm := bind_some hm
      obtain ⟨r7, h8, hm⟩ := hm
      refine rg <| ?_
      refine ls <| q1 hF rfl (e_move hF rfl) fun a hF => ?_
      refine ls <| q1 hF rfl (e_lenL (α := api_Node) (xs := p1) hF Tryd.runUnderlying22 rfl) fun a hF => ?_
      refine ls <| q1 hF rfl (e_gtr hF rfl rfl) fun a hF => ?_
      refine ls <| q1 hF rfl (e_as (e_move hF rfl) (congrArg Value.bool hb6)) fun a hF => ?_
      refine ls <| gy hF rfl rfl <| q1 hF rfl (e_move hF rfl) fun a hF => ?_
      refine ls <| gy hF rfl rfl <| c1 hF rfl Tryd.call52 (leadlineref03_End_c _ (hp_le _) hc4 (St.srH hS hr5) h8) ⟨rfl, rfl, trivial⟩ (fun v w a hR hF => ?_)
      obtain ⟨rfl, hk⟩ := hR
      replace hS := hS.pass hk
      clear hk
      refine ls <| gy hF rfl rfl <| q1 hF rfl (e_move hF rfl) fun a hF => ?_
      refine ls <| gy hF rfl rfl <| q1 hF rfl (e_lenL (α := api_Node) (xs := p1) hF Tryd.runUnderlying22 rfl) fun a hF => ?_
      refine ls <| gy hF rfl rfl <| q1 hF rfl (e_neq hF rfl rfl) fun a hF => ?_
      refine ls <| q1 hF rfl (e_pickF hF rfl rfl) fun a hF => ?_
      refine re <| ?_
      refine tn <| ?_
      exact ⟨(decide (r7 ≠ (p1.length : Int))), H, oa2, cap3, hm, (Ext.refl _ _), hF.has ⟨rfl, rfl, trivial⟩, hS, hc4, hr5⟩
  clear hm hF hS
  rintro a w ⟨vA6, HA1, oaA2, capA3, hm, hxHA1, hF, hS, hcA4, hrA5⟩
  unfold leadlineref03_Right_j1 at hm
  rcases bdich vA6 with hb9 | hb9
  ·
    replace hm := ite_t hm hb9
    refine ctv hF rfl hb9 <| th <| ?_
    refine rg <| ?_
    refine ls <| q1 hF rfl (e_asg hF rfl) fun a hF => ?_
    refine re <| ?_
    refine tn <| ?_
    refine wp_ret <| tr <| ?_
    obtain rfl := Option.some.inj hm
    exact r1 hF Tryd.results29 rfl ⟨rfl, hS.keep⟩
  ·
    replace hm := ite_f hm hb9
    refine cfv hF rfl hb9 <| wp_skip <| ?_
    refine tn <| th <| th <| ?_
    refine rg <| ?_
    refine ls <| q1 hF rfl (e_asg hF rfl) fun a hF => ?_
    refine re <| ?_
    refine tn <| midK (fun a w => (leadlineref03_Right_j2 N p1) = some r ∧ Fr 77 [(0, .slice oaA2 p1.length capA3)] a ∧ St w0 Nil [HA1] [] w) ?_ ?_
    ·
      refine wp_block <| lp (α := Nat × Int) (fun (gh : Nat × Int) a w => match gh with | (nn3, vB1) => (leadlineref03_Right_l3 N (leadlineref03_Right_j2 N p1) p1) nn3 vB1 = some r ∧ Fr 77 [(0, .slice oaA2 p1.length capA3), (3, .int .i64 vB1)] a ∧ St w0 Nil [HA1] [] w) (fun gh => gh.1) (N, 0) ⟨hm, hF.has ⟨rfl, rfl, trivial⟩, hS⟩ ?_
      clear hm hF hS
      rintro ⟨nn3, vB1⟩ a w ⟨hm, hF, hS⟩
      obtain _ | nn3 := nn3
      · simp [leadlineref03_Right_l3] at hm
      rw [leadlineref03_Right_l3] at hm
      refine th <| th <| ?_
      refine rg <| ?_
      refine ls <| q1 hF rfl (e_move hF rfl) fun a hF => ?_
      refine ls <| q1 hF rfl (e_move hF rfl) fun a hF => ?_
      refine ls <| q1 hF rfl (e_lenL (α := api_Node) (xs := p1) hF Tryd.runUnderlying22 rfl) fun a hF => ?_
      refine ls <| q1 hF rfl (e_lss hF rfl rfl) fun a hF => ?_
      refine re <| ?_
      rcases bdich (decide (vB1 < (p1.length : Int))) with hb10 | hb10
      ·
        replace hm := itp_t hm hb10
        refine tn <| ctv hF rfl hb10 <| wp_skip <| ?_
        refine tn <| th <| wp_block <| th <| ?_
        replace hm := bind_some hm
        obtain ⟨x11, h12, hm⟩ := hm
        obtain ⟨c13, g14, hl15⟩ := SR.get hrA5 h12
        obtain rfl := api_Node_open g14
        refine rg <| ?_
        refine ls <| q1 hF rfl (e_move hF rfl) fun a hF => ?_
        refine ls <| q1 hF rfl (e_move hF rfl) fun a hF => ?_
        refine ls <| q1 hF rfl (e_iaI hF Tryd.runUnderlying22 Tryd.sizeOf39 rfl rfl h12 (SR.oaI hrA5 (by decide) h12)) fun a hF => ?_
        refine ls <| q1 hF rfl (e_ldA hF Tryd.isAgg39 Tryd.sizeOf39 rfl rfl (fun j v hj => PH.le.cell (Lds.le (St.ld hS)) (hl15 j v hj))) fun a hF => ?_
        refine ls <| a_alloc (cs := [.int .i64 0, .int .i64 0, strv [], .int .i64 0].toArray) hF rfl hS Tryd.zeroValue39 rfl fun b16 w a hS hF => ?_
        refine ls <| s_blkA hF hS Tryd.sizeOf39 rfl rfl rfl rfl (one_cells rfl) .head fun w hS => ?_
        refine re <| ?_
        refine tn <| th <| midK (fun a w => ∃ (vC1 : Bool), (leadlineref03_Right_j4 (leadlineref03_Right_l3 N (leadlineref03_Right_j2 N p1) p1 nn3) vB1) vC1 = some r ∧ Fr 77 [(0, .slice oaA2 p1.length capA3), (3, .int .i64 vB1), (73, .bool vC1)] a ∧ St w0 Nil [HA1] [] w) ?_ ?_
        ·
          rcases bdich ((((((decide (x11.At < 0)) || (decide (4000 < x11.At))) || ((decide (x11.Op ≠ 1)) && (decide (x11.N ≠ 0)))) || ((decide (x11.Op ≠ 2)) && (decide (x11.Name ≠ [])))) || (decide (x11.N < 0))) || (decide (4294967296 < x11.N))) with hb17 | hb17
          ·
            replace hm := ite_t hm hb17
            refine rg <| ?_
            refine ls <| q1 hF rfl (e_fa hF fa39_3 rfl) fun a hF => ?_
            refine ls <| q1 hF rfl (e_ld hF Tryd.isAgg3 rfl ((St.ld hS).cellB (.head _) rfl)) fun a hF => ?_
            refine ls <| q1 hF rfl (e_lss hF rfl rfl) fun a hF => ?_
            refine ls <| q1 hF rfl (e_move hF rfl) fun a hF => ?_
            refine grp (N := 77) (Fk := [(0, .slice oaA2 p1.length capA3), (3, .int .i64 vB1), (4, .pointer (some ⟨b16, 0, none⟩)), (32, .bool ((decide (x11.At < 0)) || (decide (4000 < x11.At))))]) (b := (decide (x11.At < 0))) 4 hS ?_ ?_ ?_
            ·
              intro hb key
              replace hF := Fr.as hF (t := 28) rfl (congrArg Value.bool hb)
              refine ls <| gn hF rfl rfl rfl rfl fun a hF => ?_
              refine ls <| gn hF rfl rfl rfl rfl fun a hF => ?_
              refine ls <| gn hF rfl rfl rfl rfl fun a hF => ?_
              refine ls <| q1 hF rfl (e_as (v' := .bool ((decide (x11.At < 0)) || (decide (4000 < x11.At)))) (e_pickT hF rfl rfl) (by rw [hb]; rfl)) fun a hF => ?_
              exact key _ _ (hF.has ⟨rfl, rfl, rfl, rfl, trivial⟩) hS
            ·
              intro hb key
              replace hF := Fr.as hF (t := 28) rfl (congrArg Value.bool hb)
              refine ls <| gy hF rfl rfl <| q1 hF rfl (e_fa hF fa39_3 rfl) fun a hF => ?_
              refine ls <| gy hF rfl rfl <| q1 hF rfl (e_ld hF Tryd.isAgg3 rfl ((St.ld hS).cellB (.head _) rfl)) fun a hF => ?_
              refine ls <| gy hF rfl rfl <| q1 hF rfl (e_gtr hF rfl rfl) fun a hF => ?_
              refine ls <| q1 hF rfl (e_as (v' := .bool ((decide (x11.At < 0)) || (decide (4000 < x11.At)))) (e_pickF hF rfl rfl) (by rw [hb]; rfl)) fun a hF => ?_
              exact key _ _ (hF.has ⟨rfl, rfl, rfl, rfl, trivial⟩) hS
            intro a w hF hS
            refine ls <| q1 hF rfl (e_move hF rfl) fun a hF => ?_
            refine grp (N := 77) (Fk := [(0, .slice oaA2 p1.length capA3), (3, .int .i64 vB1), (4, .pointer (some ⟨b16, 0, none⟩)), (42, .bool (((decide (x11.At < 0)) || (decide (4000 < x11.At))) || ((decide (x11.Op ≠ 1)) && (decide (x11.N ≠ 0)))))]) (b := ((decide (x11.At < 0)) || (decide (4000 < x11.At)))) 9 hS ?_ ?_ ?_
            ·
              intro hb key
              replace hF := Fr.as hF (t := 33) rfl (congrArg Value.bool hb)
              refine ls <| gn hF rfl rfl rfl rfl fun a hF => ?_
              refine ls <| gn hF rfl rfl rfl rfl fun a hF => ?_
              refine ls <| gn hF rfl rfl rfl rfl fun a hF => ?_
              refine ls <| gn hF rfl rfl rfl rfl fun a hF => ?_
              refine ls <| gnu hF rfl rfl rfl fun a hF => ?_
              refine ls <| gnu hF rfl rfl rfl fun a hF => ?_
              refine ls <| gnu hF rfl rfl rfl fun a hF => ?_
              refine ls <| gn hF rfl rfl rfl rfl fun a hF => ?_
              refine ls <| q1 hF rfl (e_as (v' := .bool (((decide (x11.At < 0)) || (decide (4000 < x11.At))) || ((decide (x11.Op ≠ 1)) && (decide (x11.N ≠ 0))))) (e_pickT hF rfl rfl) (by rw [hb]; rfl)) fun a hF => ?_
              exact key _ _ (hF.has ⟨rfl, rfl, rfl, rfl, trivial⟩) hS
            ·
              intro hb key
              replace hF := Fr.as hF (t := 33) rfl (congrArg Value.bool hb)
              refine ls <| gy hF rfl rfl <| q1 hF rfl (e_fa hF fa39_0 rfl) fun a hF => ?_
              refine ls <| gy hF rfl rfl <| q1 hF rfl (e_ld hF Tryd.isAgg3 rfl ((St.ld hS).cellB (.head _) rfl)) fun a hF => ?_
              refine ls <| gy hF rfl rfl <| q1 hF rfl (e_neq hF rfl rfl) fun a hF => ?_
              refine ls <| gy hF rfl rfl <| q1 hF rfl (e_move hF rfl) fun a hF => ?_
              refine grp (N := 77) (Fk := [(0, .slice oaA2 p1.length capA3), (3, .int .i64 vB1), (4, .pointer (some ⟨b16, 0, none⟩)), (33, .bool false), (41, .bool ((decide (x11.Op ≠ 1)) && (decide (x11.N ≠ 0))))]) (b := (decide (x11.Op ≠ 1))) 4 hS ?_ ?_ ?_
              ·
                intro hb key
                replace hF := Fr.as hF (t := 37) rfl (congrArg Value.bool hb)
                refine ls <| gy hF rfl rfl <| q1 hF rfl (e_fa hF fa39_1 rfl) fun a hF => ?_
                refine ls <| gy hF rfl rfl <| q1 hF rfl (e_ld hF Tryd.isAgg3 rfl ((St.ld hS).cellB (.head _) rfl)) fun a hF => ?_
                refine ls <| gy hF rfl rfl <| q1 hF rfl (e_neq hF rfl rfl) fun a hF => ?_
                refine ls <| gy hF rfl rfl <| q1 hF rfl (e_as (v' := .bool ((decide (x11.Op ≠ 1)) && (decide (x11.N ≠ 0)))) (e_pickT hF rfl rfl) (by rw [hb]; rfl)) fun a hF => ?_
                exact key _ _ (hF.has ⟨rfl, rfl, rfl, rfl, rfl, trivial⟩) hS
              ·
                intro hb key
                replace hF := Fr.as hF (t := 37) rfl (congrArg Value.bool hb)
                refine ls <| gn hF rfl rfl rfl rfl fun a hF => ?_
                refine ls <| gn hF rfl rfl rfl rfl fun a hF => ?_
                refine ls <| gn hF rfl rfl rfl rfl fun a hF => ?_
                refine ls <| gy hF rfl rfl <| q1 hF rfl (e_as (v' := .bool ((decide (x11.Op ≠ 1)) && (decide (x11.N ≠ 0)))) (e_pickF hF rfl rfl) (by rw [hb]; rfl)) fun a hF => ?_
                exact key _ _ (hF.has ⟨rfl, rfl, rfl, rfl, rfl, trivial⟩) hS
              intro a w hF hS
              refine ls <| q1 hF rfl (e_as (v' := .bool (((decide (x11.At < 0)) || (decide (4000 < x11.At))) || ((decide (x11.Op ≠ 1)) && (decide (x11.N ≠ 0))))) (e_pickF hF rfl rfl) (by rw [hb]; rfl)) fun a hF => ?_
              exact key _ _ (hF.has ⟨rfl, rfl, rfl, rfl, trivial⟩) hS
            intro a w hF hS
            refine ls <| q1 hF rfl (e_move hF rfl) fun a hF => ?_
            refine grp (N := 77) (Fk := [(0, .slice oaA2 p1.length capA3), (3, .int .i64 vB1), (4, .pointer (some ⟨b16, 0, none⟩)), (52, .bool ((((decide (x11.At < 0)) || (decide (4000 < x11.At))) || ((decide (x11.Op ≠ 1)) && (decide (x11.N ≠ 0)))) || ((decide (x11.Op ≠ 2)) && (decide (x11.Name ≠ [])))))]) (b := (((decide (x11.At < 0)) || (decide (4000 < x11.At))) || ((decide (x11.Op ≠ 1)) && (decide (x11.N ≠ 0))))) 9 hS ?_ ?_ ?_
            ·
              intro hb key
              replace hF := Fr.as hF (t := 43) rfl (congrArg Value.bool hb)
              refine ls <| gn hF rfl rfl rfl rfl fun a hF => ?_
              refine ls <| gn hF rfl rfl rfl rfl fun a hF => ?_
              refine ls <| gn hF rfl rfl rfl rfl fun a hF => ?_
              refine ls <| gn hF rfl rfl rfl rfl fun a hF => ?_
              refine ls <| gnu hF rfl rfl rfl fun a hF => ?_
              refine ls <| gnu hF rfl rfl rfl fun a hF => ?_
              refine ls <| gnu hF rfl rfl rfl fun a hF => ?_
              refine ls <| gn hF rfl rfl rfl rfl fun a hF => ?_
              refine ls <| q1 hF rfl (e_as (v' := .bool ((((decide (x11.At < 0)) || (decide (4000 < x11.At))) || ((decide (x11.Op ≠ 1)) && (decide (x11.N ≠ 0)))) || ((decide (x11.Op ≠ 2)) && (decide (x11.Name ≠ []))))) (e_pickT hF rfl rfl) (by rw [hb]; rfl)) fun a hF => ?_
              exact key _ _ (hF.has ⟨rfl, rfl, rfl, rfl, trivial⟩) hS
            ·
              intro hb key
              replace hF := Fr.as hF (t := 43) rfl (congrArg Value.bool hb)
              refine ls <| gy hF rfl rfl <| q1 hF rfl (e_fa hF fa39_0 rfl) fun a hF => ?_
              refine ls <| gy hF rfl rfl <| q1 hF rfl (e_ld hF Tryd.isAgg3 rfl ((St.ld hS).cellB (.head _) rfl)) fun a hF => ?_
              refine ls <| gy hF rfl rfl <| q1 hF rfl (e_neq hF rfl rfl) fun a hF => ?_
              refine ls <| gy hF rfl rfl <| q1 hF rfl (e_move hF rfl) fun a hF => ?_
              refine grp (N := 77) (Fk := [(0, .slice oaA2 p1.length capA3), (3, .int .i64 vB1), (4, .pointer (some ⟨b16, 0, none⟩)), (43, .bool false), (51, .bool ((decide (x11.Op ≠ 2)) && (decide (x11.Name ≠ []))))]) (b := (decide (x11.Op ≠ 2))) 4 hS ?_ ?_ ?_
              ·
                intro hb key
                replace hF := Fr.as hF (t := 47) rfl (congrArg Value.bool hb)
                refine ls <| gy hF rfl rfl <| q1 hF rfl (e_fa hF fa39_2 rfl) fun a hF => ?_
                refine ls <| gy hF rfl rfl <| q1 hF rfl (e_ld hF Tryd.isAgg9 rfl ((St.ld hS).cellB (.head _) rfl)) fun a hF => ?_
                refine ls <| gy hF rfl rfl <| q1 hF rfl (e_neqU (m := x11.Name) (n := []) hF rfl rfl) fun a hF => ?_
                refine ls <| gy hF rfl rfl <| q1 hF rfl (e_as (v' := .bool ((decide (x11.Op ≠ 2)) && (decide (x11.Name ≠ [])))) (e_pickT hF rfl rfl) (by rw [hb]; rfl)) fun a hF => ?_
                exact key _ _ (hF.has ⟨rfl, rfl, rfl, rfl, rfl, trivial⟩) hS
              ·
                intro hb key
                replace hF := Fr.as hF (t := 47) rfl (congrArg Value.bool hb)
                refine ls <| gn hF rfl rfl rfl rfl fun a hF => ?_
                refine ls <| gn hF rfl rfl rfl rfl fun a hF => ?_
                refine ls <| gn hF rfl rfl rfl rfl fun a hF => ?_
                refine ls <| gy hF rfl rfl <| q1 hF rfl (e_as (v' := .bool ((decide (x11.Op ≠ 2)) && (decide (x11.Name ≠ [])))) (e_pickF hF rfl rfl) (by rw [hb]; rfl)) fun a hF => ?_
                exact key _ _ (hF.has ⟨rfl, rfl, rfl, rfl, rfl, trivial⟩) hS
              intro a w hF hS
              refine ls <| q1 hF rfl (e_as (v' := .bool ((((decide (x11.At < 0)) || (decide (4000 < x11.At))) || ((decide (x11.Op ≠ 1)) && (decide (x11.N ≠ 0)))) || ((decide (x11.Op ≠ 2)) && (decide (x11.Name ≠ []))))) (e_pickF hF rfl rfl) (by rw [hb]; rfl)) fun a hF => ?_
              exact key _ _ (hF.has ⟨rfl, rfl, rfl, rfl, trivial⟩) hS
            intro a w hF hS
            refine ls <| q1 hF rfl (e_move hF rfl) fun a hF => ?_
            refine grp (N := 77) (Fk := [(0, .slice oaA2 p1.length capA3), (3, .int .i64 vB1), (4, .pointer (some ⟨b16, 0, none⟩)), (57, .bool (((((decide (x11.At < 0)) || (decide (4000 < x11.At))) || ((decide (x11.Op ≠ 1)) && (decide (x11.N ≠ 0)))) || ((decide (x11.Op ≠ 2)) && (decide (x11.Name ≠ [])))) || (decide (x11.N < 0))))]) (b := ((((decide (x11.At < 0)) || (decide (4000 < x11.At))) || ((decide (x11.Op ≠ 1)) && (decide (x11.N ≠ 0)))) || ((decide (x11.Op ≠ 2)) && (decide (x11.Name ≠ []))))) 4 hS ?_ ?_ ?_
            ·
              intro hb key
              replace hF := Fr.as hF (t := 53) rfl (congrArg Value.bool hb)
              refine ls <| gn hF rfl rfl rfl rfl fun a hF => ?_
              refine ls <| gn hF rfl rfl rfl rfl fun a hF => ?_
              refine ls <| gn hF rfl rfl rfl rfl fun a hF => ?_
              refine ls <| q1 hF rfl (e_as (v' := .bool (((((decide (x11.At < 0)) || (decide (4000 < x11.At))) || ((decide (x11.Op ≠ 1)) && (decide (x11.N ≠ 0)))) || ((decide (x11.Op ≠ 2)) && (decide (x11.Name ≠ [])))) || (decide (x11.N < 0)))) (e_pickT hF rfl rfl) (by rw [hb]; rfl)) fun a hF => ?_
              exact key _ _ (hF.has ⟨rfl, rfl, rfl, rfl, trivial⟩) hS
            ·
              intro hb key
              replace hF := Fr.as hF (t := 53) rfl (congrArg Value.bool hb)
              refine ls <| gy hF rfl rfl <| q1 hF rfl (e_fa hF fa39_1 rfl) fun a hF => ?_
              refine ls <| gy hF rfl rfl <| q1 hF rfl (e_ld hF Tryd.isAgg3 rfl ((St.ld hS).cellB (.head _) rfl)) fun a hF => ?_
              refine ls <| gy hF rfl rfl <| q1 hF rfl (e_lss hF rfl rfl) fun a hF => ?_
              refine ls <| q1 hF rfl (e_as (v' := .bool (((((decide (x11.At < 0)) || (decide (4000 < x11.At))) || ((decide (x11.Op ≠ 1)) && (decide (x11.N ≠ 0)))) || ((decide (x11.Op ≠ 2)) && (decide (x11.Name ≠ [])))) || (decide (x11.N < 0)))) (e_pickF hF rfl rfl) (by rw [hb]; rfl)) fun a hF => ?_
              exact key _ _ (hF.has ⟨rfl, rfl, rfl, rfl, trivial⟩) hS
            intro a w hF hS
            refine ls <| q1 hF rfl (e_move hF rfl) fun a hF => ?_
            refine grp (N := 77) (Fk := [(0, .slice oaA2 p1.length capA3), (3, .int .i64 vB1), (4, .pointer (some ⟨b16, 0, none⟩)), (62, .bool ((((((decide (x11.At < 0)) || (decide (4000 < x11.At))) || ((decide (x11.Op ≠ 1)) && (decide (x11.N ≠ 0)))) || ((decide (x11.Op ≠ 2)) && (decide (x11.Name ≠ [])))) || (decide (x11.N < 0))) || (decide (4294967296 < x11.N))))]) (b := (((((decide (x11.At < 0)) || (decide (4000 < x11.At))) || ((decide (x11.Op ≠ 1)) && (decide (x11.N ≠ 0)))) || ((decide (x11.Op ≠ 2)) && (decide (x11.Name ≠ [])))) || (decide (x11.N < 0)))) 4 hS ?_ ?_ ?_
            ·
              intro hb key
              replace hF := Fr.as hF (t := 58) rfl (congrArg Value.bool hb)
              refine ls <| gn hF rfl rfl rfl rfl fun a hF => ?_
              refine ls <| gn hF rfl rfl rfl rfl fun a hF => ?_
              refine ls <| gn hF rfl rfl rfl rfl fun a hF => ?_
              refine ls <| q1 hF rfl (e_as (v' := .bool ((((((decide (x11.At < 0)) || (decide (4000 < x11.At))) || ((decide (x11.Op ≠ 1)) && (decide (x11.N ≠ 0)))) || ((decide (x11.Op ≠ 2)) && (decide (x11.Name ≠ [])))) || (decide (x11.N < 0))) || (decide (4294967296 < x11.N)))) (e_pickT hF rfl rfl) (by rw [hb]; rfl)) fun a hF => ?_
              exact key _ _ (hF.has ⟨rfl, rfl, rfl, rfl, trivial⟩) hS
            ·
              intro hb key
              replace hF := Fr.as hF (t := 58) rfl (congrArg Value.bool hb)
              refine ls <| gy hF rfl rfl <| q1 hF rfl (e_fa hF fa39_1 rfl) fun a hF => ?_
              refine ls <| gy hF rfl rfl <| q1 hF rfl (e_ld hF Tryd.isAgg3 rfl ((St.ld hS).cellB (.head _) rfl)) fun a hF => ?_
              refine ls <| gy hF rfl rfl <| q1 hF rfl (e_gtr hF rfl rfl) fun a hF => ?_
              refine ls <| q1 hF rfl (e_as (v' := .bool ((((((decide (x11.At < 0)) || (decide (4000 < x11.At))) || ((decide (x11.Op ≠ 1)) && (decide (x11.N ≠ 0)))) || ((decide (x11.Op ≠ 2)) && (decide (x11.Name ≠ [])))) || (decide (x11.N < 0))) || (decide (4294967296 < x11.N)))) (e_pickF hF rfl rfl) (by rw [hb]; rfl)) fun a hF => ?_
              exact key _ _ (hF.has ⟨rfl, rfl, rfl, rfl, trivial⟩) hS
            intro a w hF hS
            refine ls <| q1 hF rfl (e_as (e_move hF rfl) (congrArg Value.bool hb17)) fun a hF => ?_
            refine ls <| gn hF rfl rfl rfl rfl fun a hF => ?_
            refine ls <| gn hF rfl rfl rfl rfl fun a hF => ?_
            refine ls <| gn hF rfl rfl rfl rfl fun a hF => ?_
            refine ls <| gn hF rfl rfl rfl rfl fun a hF => ?_
            refine ls <| gnu hF rfl rfl rfl fun a hF => ?_
            refine ls <| gnu hF rfl rfl rfl fun a hF => ?_
            refine ls <| gnu hF rfl rfl rfl fun a hF => ?_
            refine ls <| gnu hF rfl rfl rfl fun a hF => ?_
            refine ls <| gn hF rfl rfl rfl rfl fun a hF => ?_
            refine ls <| q1 hF rfl (e_pickT hF rfl rfl) fun a hF => ?_
            refine re <| ?_
            refine tn <| ?_
            replace hS := hS.pickL .nil
            exact ⟨true, hm, hF.has ⟨rfl, rfl, rfl, trivial⟩, hS⟩
          ·
            replace hm := ite_f hm hb17
            rcases bdich (decide (x11.Op = 2)) with hb18 | hb18
            ·
              replace hm := itp_t hm hb18
              replace hm := bind_some hm
              obtain ⟨r19, h20, hm⟩ := hm
              refine rg <| ?_
              refine ls <| q1 hF rfl (e_fa hF fa39_3 rfl) fun a hF => ?_
              refine ls <| q1 hF rfl (e_ld hF Tryd.isAgg3 rfl ((St.ld hS).cellB (.head _) rfl)) fun a hF => ?_
              refine ls <| q1 hF rfl (e_lss hF rfl rfl) fun a hF => ?_
              refine ls <| q1 hF rfl (e_move hF rfl) fun a hF => ?_
              refine grp (N := 77) (Fk := [(0, .slice oaA2 p1.length capA3), (3, .int .i64 vB1), (4, .pointer (some ⟨b16, 0, none⟩)), (32, .bool ((decide (x11.At < 0)) || (decide (4000 < x11.At))))]) (b := (decide (x11.At < 0))) 4 hS ?_ ?_ ?_
              ·
                intro hb key
                replace hF := Fr.as hF (t := 28) rfl (congrArg Value.bool hb)
                refine ls <| gn hF rfl rfl rfl rfl fun a hF => ?_
                refine ls <| gn hF rfl rfl rfl rfl fun a hF => ?_
                refine ls <| gn hF rfl rfl rfl rfl fun a hF => ?_
                refine ls <| q1 hF rfl (e_as (v' := .bool ((decide (x11.At < 0)) || (decide (4000 < x11.At)))) (e_pickT hF rfl rfl) (by rw [hb]; rfl)) fun a hF => ?_
                exact key _ _ (hF.has ⟨rfl, rfl, rfl, rfl, trivial⟩) hS
              ·
                intro hb key
                replace hF := Fr.as hF (t := 28) rfl (congrArg Value.bool hb)
                refine ls <| gy hF rfl rfl <| q1 hF rfl (e_fa hF fa39_3 rfl) fun a hF => ?_
                refine ls <| gy hF rfl rfl <| q1 hF rfl (e_ld hF Tryd.isAgg3 rfl ((St.ld hS).cellB (.head _) rfl)) fun a hF => ?_
                refine ls <| gy hF rfl rfl <| q1 hF rfl (e_gtr hF rfl rfl) fun a hF => ?_
                refine ls <| q1 hF rfl (e_as (v' := .bool ((decide (x11.At < 0)) || (decide (4000 < x11.At)))) (e_pickF hF rfl rfl) (by rw [hb]; rfl)) fun a hF => ?_
                exact key _ _ (hF.has ⟨rfl, rfl, rfl, rfl, trivial⟩) hS
              intro a w hF hS
              refine ls <| q1 hF rfl (e_move hF rfl) fun a hF => ?_
              refine grp (N := 77) (Fk := [(0, .slice oaA2 p1.length capA3), (3, .int .i64 vB1), (4, .pointer (some ⟨b16, 0, none⟩)), (42, .bool (((decide (x11.At < 0)) || (decide (4000 < x11.At))) || ((decide (x11.Op ≠ 1)) && (decide (x11.N ≠ 0)))))]) (b := ((decide (x11.At < 0)) || (decide (4000 < x11.At)))) 9 hS ?_ ?_ ?_
              ·
                intro hb key
                replace hF := Fr.as hF (t := 33) rfl (congrArg Value.bool hb)
                refine ls <| gn hF rfl rfl rfl rfl fun a hF => ?_
                refine ls <| gn hF rfl rfl rfl rfl fun a hF => ?_
                refine ls <| gn hF rfl rfl rfl rfl fun a hF => ?_
                refine ls <| gn hF rfl rfl rfl rfl fun a hF => ?_
                refine ls <| gnu hF rfl rfl rfl fun a hF => ?_
                refine ls <| gnu hF rfl rfl rfl fun a hF => ?_
                refine ls <| gnu hF rfl rfl rfl fun a hF => ?_
                refine ls <| gn hF rfl rfl rfl rfl fun a hF => ?_
                refine ls <| q1 hF rfl (e_as (v' := .bool (((decide (x11.At < 0)) || (decide (4000 < x11.At))) || ((decide (x11.Op ≠ 1)) && (decide (x11.N ≠ 0))))) (e_pickT hF rfl rfl) (by rw [hb]; rfl)) fun a hF => ?_
                exact key _ _ (hF.has ⟨rfl, rfl, rfl, rfl, trivial⟩) hS
              ·
                intro hb key
                replace hF := Fr.as hF (t := 33) rfl (congrArg Value.bool hb)
                refine ls <| gy hF rfl rfl <| q1 hF rfl (e_fa hF fa39_0 rfl) fun a hF => ?_
                refine ls <| gy hF rfl rfl <| q1 hF rfl (e_ld hF Tryd.isAgg3 rfl ((St.ld hS).cellB (.head _) rfl)) fun a hF => ?_
                refine ls <| gy hF rfl rfl <| q1 hF rfl (e_neq hF rfl rfl) fun a hF => ?_
                refine ls <| gy hF rfl rfl <| q1 hF rfl (e_move hF rfl) fun a hF => ?_
                refine grp (N := 77) (Fk := [(0, .slice oaA2 p1.length capA3), (3, .int .i64 vB1), (4, .pointer (some ⟨b16, 0, none⟩)), (33, .bool false), (41, .bool ((decide (x11.Op ≠ 1)) && (decide (x11.N ≠ 0))))]) (b := (decide (x11.Op ≠ 1))) 4 hS ?_ ?_ ?_
                ·
                  intro hb key
                  replace hF := Fr.as hF (t := 37) rfl (congrArg Value.bool hb)
                  refine ls <| gy hF rfl rfl <| q1 hF rfl (e_fa hF fa39_1 rfl) fun a hF => ?_
                  refine ls <| gy hF rfl rfl <| q1 hF rfl (e_ld hF Tryd.isAgg3 rfl ((St.ld hS).cellB (.head _) rfl)) fun a hF => ?_
                  refine ls <| gy hF rfl rfl <| q1 hF rfl (e_neq hF rfl rfl) fun a hF => ?_
                  refine ls <| gy hF rfl rfl <| q1 hF rfl (e_as (v' := .bool ((decide (x11.Op ≠ 1)) && (decide (x11.N ≠ 0)))) (e_pickT hF rfl rfl) (by rw [hb]; rfl)) fun a hF => ?_
                  exact key _ _ (hF.has ⟨rfl, rfl, rfl, rfl, rfl, trivial⟩) hS
                ·
                  intro hb key
                  replace hF := Fr.as hF (t := 37) rfl (congrArg Value.bool hb)
                  refine ls <| gn hF rfl rfl rfl rfl fun a hF => ?_
                  refine ls <| gn hF rfl rfl rfl rfl fun a hF => ?_
                  refine ls <| gn hF rfl rfl rfl rfl fun a hF => ?_
                  refine ls <| gy hF rfl rfl <| q1 hF rfl (e_as (v' := .bool ((decide (x11.Op ≠ 1)) && (decide (x11.N ≠ 0)))) (e_pickF hF rfl rfl) (by rw [hb]; rfl)) fun a hF => ?_
                  exact key _ _ (hF.has ⟨rfl, rfl, rfl, rfl, rfl, trivial⟩) hS
                intro a w hF hS
                refine ls <| q1 hF rfl (e_as (v' := .bool (((decide (x11.At < 0)) || (decide (4000 < x11.At))) || ((decide (x11.Op ≠ 1)) && (decide (x11.N ≠ 0))))) (e_pickF hF rfl rfl) (by rw [hb]; rfl)) fun a hF => ?_
                exact key _ _ (hF.has ⟨rfl, rfl, rfl, rfl, trivial⟩) hS
              intro a w hF hS
              refine ls <| q1 hF rfl (e_move hF rfl) fun a hF => ?_
              refine grp (N := 77) (Fk := [(0, .slice oaA2 p1.length capA3), (3, .int .i64 vB1), (4, .pointer (some ⟨b16, 0, none⟩)), (52, .bool ((((decide (x11.At < 0)) || (decide (4000 < x11.At))) || ((decide (x11.Op ≠ 1)) && (decide (x11.N ≠ 0)))) || ((decide (x11.Op ≠ 2)) && (decide (x11.Name ≠ [])))))]) (b := (((decide (x11.At < 0)) || (decide (4000 < x11.At))) || ((decide (x11.Op ≠ 1)) && (decide (x11.N ≠ 0))))) 9 hS ?_ ?_ ?_
              ·
                intro hb key
                replace hF := Fr.as hF (t := 43) rfl (congrArg Value.bool hb)
                refine ls <| gn hF rfl rfl rfl rfl fun a hF => ?_
                refine ls <| gn hF rfl rfl rfl rfl fun a hF => ?_
                refine ls <| gn hF rfl rfl rfl rfl fun a hF => ?_
                refine ls <| gn hF rfl rfl rfl rfl fun a hF => ?_
                refine ls <| gnu hF rfl rfl rfl fun a hF => ?_
                refine ls <| gnu hF rfl rfl rfl fun a hF => ?_
                refine ls <| gnu hF rfl rfl rfl fun a hF => ?_
                refine ls <| gn hF rfl rfl rfl rfl fun a hF => ?_
                refine ls <| q1 hF rfl (e_as (v' := .bool ((((decide (x11.At < 0)) || (decide (4000 < x11.At))) || ((decide (x11.Op ≠ 1)) && (decide (x11.N ≠ 0)))) || ((decide (x11.Op ≠ 2)) && (decide (x11.Name ≠ []))))) (e_pickT hF rfl rfl) (by rw [hb]; rfl)) fun a hF => ?_
                exact key _ _ (hF.has ⟨rfl, rfl, rfl, rfl, trivial⟩) hS
              ·
                intro hb key
                replace hF := Fr.as hF (t := 43) rfl (congrArg Value.bool hb)
                refine ls <| gy hF rfl rfl <| q1 hF rfl (e_fa hF fa39_0 rfl) fun a hF => ?_
                refine ls <| gy hF rfl rfl <| q1 hF rfl (e_ld hF Tryd.isAgg3 rfl ((St.ld hS).cellB (.head _) rfl)) fun a hF => ?_
                refine ls <| gy hF rfl rfl <| q1 hF rfl (e_neq hF rfl rfl) fun a hF => ?_
                refine ls <| gy hF rfl rfl <| q1 hF rfl (e_move hF rfl) fun a hF => ?_
                refine grp (N := 77) (Fk := [(0, .slice oaA2 p1.length capA3), (3, .int .i64 vB1), (4, .pointer (some ⟨b16, 0, none⟩)), (43, .bool false), (51, .bool ((decide (x11.Op ≠ 2)) && (decide (x11.Name ≠ []))))]) (b := (decide (x11.Op ≠ 2))) 4 hS ?_ ?_ ?_
                ·
                  intro hb key
                  replace hF := Fr.as hF (t := 47) rfl (congrArg Value.bool hb)
                  refine ls <| gy hF rfl rfl <| q1 hF rfl (e_fa hF fa39_2 rfl) fun a hF => ?_
                  refine ls <| gy hF rfl rfl <| q1 hF rfl (e_ld hF Tryd.isAgg9 rfl ((St.ld hS).cellB (.head _) rfl)) fun a hF => ?_
                  refine ls <| gy hF rfl rfl <| q1 hF rfl (e_neqU (m := x11.Name) (n := []) hF rfl rfl) fun a hF => ?_
                  refine ls <| gy hF rfl rfl <| q1 hF rfl (e_as (v' := .bool ((decide (x11.Op ≠ 2)) && (decide (x11.Name ≠ [])))) (e_pickT hF rfl rfl) (by rw [hb]; rfl)) fun a hF => ?_
                  exact key _ _ (hF.has ⟨rfl, rfl, rfl, rfl, rfl, trivial⟩) hS
                ·
                  intro hb key
                  replace hF := Fr.as hF (t := 47) rfl (congrArg Value.bool hb)
                  refine ls <| gn hF rfl rfl rfl rfl fun a hF => ?_
                  refine ls <| gn hF rfl rfl rfl rfl fun a hF => ?_
                  refine ls <| gn hF rfl rfl rfl rfl fun a hF => ?_
                  refine ls <| gy hF rfl rfl <| q1 hF rfl (e_as (v' := .bool ((decide (x11.Op ≠ 2)) && (decide (x11.Name ≠ [])))) (e_pickF hF rfl rfl) (by rw [hb]; rfl)) fun a hF => ?_
                  exact key _ _ (hF.has ⟨rfl, rfl, rfl, rfl, rfl, trivial⟩) hS
                intro a w hF hS
                refine ls <| q1 hF rfl (e_as (v' := .bool ((((decide (x11.At < 0)) || (decide (4000 < x11.At))) || ((decide (x11.Op ≠ 1)) && (decide (x11.N ≠ 0)))) || ((decide (x11.Op ≠ 2)) && (decide (x11.Name ≠ []))))) (e_pickF hF rfl rfl) (by rw [hb]; rfl)) fun a hF => ?_
                exact key _ _ (hF.has ⟨rfl, rfl, rfl, rfl, trivial⟩) hS
              intro a w hF hS
              refine ls <| q1 hF rfl (e_move hF rfl) fun a hF => ?_
              refine grp (N := 77) (Fk := [(0, .slice oaA2 p1.length capA3), (3, .int .i64 vB1), (4, .pointer (some ⟨b16, 0, none⟩)), (57, .bool (((((decide (x11.At < 0)) || (decide (4000 < x11.At))) || ((decide (x11.Op ≠ 1)) && (decide (x11.N ≠ 0)))) || ((decide (x11.Op ≠ 2)) && (decide (x11.Name ≠ [])))) || (decide (x11.N < 0))))]) (b := ((((decide (x11.At < 0)) || (decide (4000 < x11.At))) || ((decide (x11.Op ≠ 1)) && (decide (x11.N ≠ 0)))) || ((decide (x11.Op ≠ 2)) && (decide (x11.Name ≠ []))))) 4 hS ?_ ?_ ?_
              ·
                intro hb key
                replace hF := Fr.as hF (t := 53) rfl (congrArg Value.bool hb)
                refine ls <| gn hF rfl rfl rfl rfl fun a hF => ?_
                refine ls <| gn hF rfl rfl rfl rfl fun a hF => ?_
                refine ls <| gn hF rfl rfl rfl rfl fun a hF => ?_
                refine ls <| q1 hF rfl (e_as (v' := .bool (((((decide (x11.At < 0)) || (decide (4000 < x11.At))) || ((decide (x11.Op ≠ 1)) && (decide (x11.N ≠ 0)))) || ((decide (x11.Op ≠ 2)) && (decide (x11.Name ≠ [])))) || (decide (x11.N < 0)))) (e_pickT hF rfl rfl) (by rw [hb]; rfl)) fun a hF => ?_
                exact key _ _ (hF.has ⟨rfl, rfl, rfl, rfl, trivial⟩) hS
              ·
                intro hb key
                replace hF := Fr.as hF (t := 53) rfl (congrArg Value.bool hb)
                refine ls <| gy hF rfl rfl <| q1 hF rfl (e_fa hF fa39_1 rfl) fun a hF => ?_
                refine ls <| gy hF rfl rfl <| q1 hF rfl (e_ld hF Tryd.isAgg3 rfl ((St.ld hS).cellB (.head _) rfl)) fun a hF => ?_
                refine ls <| gy hF rfl rfl <| q1 hF rfl (e_lss hF rfl rfl) fun a hF => ?_
                refine ls <| q1 hF rfl (e_as (v' := .bool (((((decide (x11.At < 0)) || (decide (4000 < x11.At))) || ((decide (x11.Op ≠ 1)) && (decide (x11.N ≠ 0)))) || ((decide (x11.Op ≠ 2)) && (decide (x11.Name ≠ [])))) || (decide (x11.N < 0)))) (e_pickF hF rfl rfl) (by rw [hb]; rfl)) fun a hF => ?_
                exact key _ _ (hF.has ⟨rfl, rfl, rfl, rfl, trivial⟩) hS
              intro a w hF hS
              refine ls <| q1 hF rfl (e_move hF rfl) fun a hF => ?_
              refine grp (N := 77) (Fk := [(0, .slice oaA2 p1.length capA3), (3, .int .i64 vB1), (4, .pointer (some ⟨b16, 0, none⟩)), (62, .bool ((((((decide (x11.At < 0)) || (decide (4000 < x11.At))) || ((decide (x11.Op ≠ 1)) && (decide (x11.N ≠ 0)))) || ((decide (x11.Op ≠ 2)) && (decide (x11.Name ≠ [])))) || (decide (x11.N < 0))) || (decide (4294967296 < x11.N))))]) (b := (((((decide (x11.At < 0)) || (decide (4000 < x11.At))) || ((decide (x11.Op ≠ 1)) && (decide (x11.N ≠ 0)))) || ((decide (x11.Op ≠ 2)) && (decide (x11.Name ≠ [])))) || (decide (x11.N < 0)))) 4 hS ?_ ?_ ?_
              ·
                intro hb key
                replace hF := Fr.as hF (t := 58) rfl (congrArg Value.bool hb)
                refine ls <| gn hF rfl rfl rfl rfl fun a hF => ?_
                refine ls <| gn hF rfl rfl rfl rfl fun a hF => ?_
                refine ls <| gn hF rfl rfl rfl rfl fun a hF => ?_
                refine ls <| q1 hF rfl (e_as (v' := .bool ((((((decide (x11.At < 0)) || (decide (4000 < x11.At))) || ((decide (x11.Op ≠ 1)) && (decide (x11.N ≠ 0)))) || ((decide (x11.Op ≠ 2)) && (decide (x11.Name ≠ [])))) || (decide (x11.N < 0))) || (decide (4294967296 < x11.N)))) (e_pickT hF rfl rfl) (by rw [hb]; rfl)) fun a hF => ?_
                exact key _ _ (hF.has ⟨rfl, rfl, rfl, rfl, trivial⟩) hS
              ·
                intro hb key
                replace hF := Fr.as hF (t := 58) rfl (congrArg Value.bool hb)
                refine ls <| gy hF rfl rfl <| q1 hF rfl (e_fa hF fa39_1 rfl) fun a hF => ?_
                refine ls <| gy hF rfl rfl <| q1 hF rfl (e_ld hF Tryd.isAgg3 rfl ((St.ld hS).cellB (.head _) rfl)) fun a hF => ?_
                refine ls <| gy hF rfl rfl <| q1 hF rfl (e_gtr hF rfl rfl) fun a hF => ?_
                refine ls <| q1 hF rfl (e_as (v' := .bool ((((((decide (x11.At < 0)) || (decide (4000 < x11.At))) || ((decide (x11.Op ≠ 1)) && (decide (x11.N ≠ 0)))) || ((decide (x11.Op ≠ 2)) && (decide (x11.Name ≠ [])))) || (decide (x11.N < 0))) || (decide (4294967296 < x11.N)))) (e_pickF hF rfl rfl) (by rw [hb]; rfl)) fun a hF => ?_
                exact key _ _ (hF.has ⟨rfl, rfl, rfl, rfl, trivial⟩) hS
              intro a w hF hS
              refine ls <| q1 hF rfl (e_as (e_move hF rfl) (congrArg Value.bool hb17)) fun a hF => ?_
              refine ls <| gy hF rfl rfl <| q1 hF rfl (e_fa hF fa39_0 rfl) fun a hF => ?_
              refine ls <| gy hF rfl rfl <| q1 hF rfl (e_ld hF Tryd.isAgg3 rfl ((St.ld hS).cellB (.head _) rfl)) fun a hF => ?_
              refine ls <| gy hF rfl rfl <| q1 hF rfl (e_eql hF rfl rfl) fun a hF => ?_
              refine ls <| gy hF rfl rfl <| q1 hF rfl (e_as (e_move hF rfl) (congrArg Value.bool hb18)) fun a hF => ?_
              refine ls <| gy hF rfl rfl <| q1 hF rfl (e_fa hF fa39_2 rfl) fun a hF => ?_
              refine ls <| gy hF rfl rfl <| q1 hF rfl (e_ld hF Tryd.isAgg9 rfl ((St.ld hS).cellB (.head _) rfl)) fun a hF => ?_
              refine ls <| gy hF rfl rfl <| c1 hF rfl Tryd.call53 (leadlineref02_Name_c (hp_le _) h20) ⟨rfl, trivial⟩ (fun v w a hR hF => ?_)
              obtain ⟨rfl, hk⟩ := hR
              replace hS := hS.pass hk
              clear hk
              refine ls <| gy hF rfl rfl <| q1 hF rfl (e_not hF rfl) fun a hF => ?_
              refine ls <| gy hF rfl rfl <| q1 hF rfl (e_pickT hF rfl rfl) fun a hF => ?_
              refine ls <| q1 hF rfl (e_pickF hF rfl rfl) fun a hF => ?_
              refine re <| ?_
              refine tn <| ?_
              replace hS := hS.pickL .nil
              exact ⟨(!r19), hm, hF.has ⟨rfl, rfl, rfl, trivial⟩, hS⟩
            ·
              replace hm := itp_f hm hb18
              refine rg <| ?_
              refine ls <| q1 hF rfl (e_fa hF fa39_3 rfl) fun a hF => ?_
              refine ls <| q1 hF rfl (e_ld hF Tryd.isAgg3 rfl ((St.ld hS).cellB (.head _) rfl)) fun a hF => ?_
              refine ls <| q1 hF rfl (e_lss hF rfl rfl) fun a hF => ?_
              refine ls <| q1 hF rfl (e_move hF rfl) fun a hF => ?_
              refine grp (N := 77) (Fk := [(0, .slice oaA2 p1.length capA3), (3, .int .i64 vB1), (4, .pointer (some ⟨b16, 0, none⟩)), (32, .bool ((decide (x11.At < 0)) || (decide (4000 < x11.At))))]) (b := (decide (x11.At < 0))) 4 hS ?_ ?_ ?_
              ·
                intro hb key
                replace hF := Fr.as hF (t := 28) rfl (congrArg Value.bool hb)
                refine ls <| gn hF rfl rfl rfl rfl fun a hF => ?_
                refine ls <| gn hF rfl rfl rfl rfl fun a hF => ?_
                refine ls <| gn hF rfl rfl rfl rfl fun a hF => ?_
                refine ls <| q1 hF rfl (e_as (v' := .bool ((decide (x11.At < 0)) || (decide (4000 < x11.At)))) (e_pickT hF rfl rfl) (by rw [hb]; rfl)) fun a hF => ?_
                exact key _ _ (hF.has ⟨rfl, rfl, rfl, rfl, trivial⟩) hS
              ·
                intro hb key
                replace hF := Fr.as hF (t := 28) rfl (congrArg Value.bool hb)
                refine ls <| gy hF rfl rfl <| q1 hF rfl (e_fa hF fa39_3 rfl) fun a hF => ?_
                refine ls <| gy hF rfl rfl <| q1 hF rfl (e_ld hF Tryd.isAgg3 rfl ((St.ld hS).cellB (.head _) rfl)) fun a hF => ?_
                refine ls <| gy hF rfl rfl <| q1 hF rfl (e_gtr hF rfl rfl) fun a hF => ?_
                refine ls <| q1 hF rfl (e_as (v' := .bool ((decide (x11.At < 0)) || (decide (4000 < x11.At)))) (e_pickF hF rfl rfl) (by rw [hb]; rfl)) fun a hF => ?_
                exact key _ _ (hF.has ⟨rfl, rfl, rfl, rfl, trivial⟩) hS
              intro a w hF hS
              refine ls <| q1 hF rfl (e_move hF rfl) fun a hF => ?_
              refine grp (N := 77) (Fk := [(0, .slice oaA2 p1.length capA3), (3, .int .i64 vB1), (4, .pointer (some ⟨b16, 0, none⟩)), (42, .bool (((decide (x11.At < 0)) || (decide (4000 < x11.At))) || ((decide (x11.Op ≠ 1)) && (decide (x11.N ≠ 0)))))]) (b := ((decide (x11.At < 0)) || (decide (4000 < x11.At)))) 9 hS ?_ ?_ ?_
              ·
                intro hb key
                replace hF := Fr.as hF (t := 33) rfl (congrArg Value.bool hb)
                refine ls <| gn hF rfl rfl rfl rfl fun a hF => ?_
                refine ls <| gn hF rfl rfl rfl rfl fun a hF => ?_
                refine ls <| gn hF rfl rfl rfl rfl fun a hF => ?_
                refine ls <| gn hF rfl rfl rfl rfl fun a hF => ?_
                refine ls <| gnu hF rfl rfl rfl fun a hF => ?_
                refine ls <| gnu hF rfl rfl rfl fun a hF => ?_
                refine ls <| gnu hF rfl rfl rfl fun a hF => ?_
                refine ls <| gn hF rfl rfl rfl rfl fun a hF => ?_
                refine ls <| q1 hF rfl (e_as (v' := .bool (((decide (x11.At < 0)) || (decide (4000 < x11.At))) || ((decide (x11.Op ≠ 1)) && (decide (x11.N ≠ 0))))) (e_pickT hF rfl rfl) (by rw [hb]; rfl)) fun a hF => ?_
                exact key _ _ (hF.has ⟨rfl, rfl, rfl, rfl, trivial⟩) hS
              ·
                intro hb key
                replace hF := Fr.as hF (t := 33) rfl (congrArg Value.bool hb)
                refine ls <| gy hF rfl rfl <| q1 hF rfl (e_fa hF fa39_0 rfl) fun a hF => ?_
                refine ls <| gy hF rfl rfl <| q1 hF rfl (e_ld hF Tryd.isAgg3 rfl ((St.ld hS).cellB (.head _) rfl)) fun a hF => ?_
                refine ls <| gy hF rfl rfl <| q1 hF rfl (e_neq hF rfl rfl) fun a hF => ?_
                refine ls <| gy hF rfl rfl <| q1 hF rfl (e_move hF rfl) fun a hF => ?_
                refine grp (N := 77) (Fk := [(0, .slice oaA2 p1.length capA3), (3, .int .i64 vB1), (4, .pointer (some ⟨b16, 0, none⟩)), (33, .bool false), (41, .bool ((decide (x11.Op ≠ 1)) && (decide (x11.N ≠ 0))))]) (b := (decide (x11.Op ≠ 1))) 4 hS ?_ ?_ ?_
                ·
                  intro hb key
                  replace hF := Fr.as hF (t := 37) rfl (congrArg Value.bool hb)
                  refine ls <| gy hF rfl rfl <| q1 hF rfl (e_fa hF fa39_1 rfl) fun a hF => ?_
                  refine ls <| gy hF rfl rfl <| q1 hF rfl (e_ld hF Tryd.isAgg3 rfl ((St.ld hS).cellB (.head _) rfl)) fun a hF => ?_
                  refine ls <| gy hF rfl rfl <| q1 hF rfl (e_neq hF rfl rfl) fun a hF => ?_
                  refine ls <| gy hF rfl rfl <| q1 hF rfl (e_as (v' := .bool ((decide (x11.Op ≠ 1)) && (decide (x11.N ≠ 0)))) (e_pickT hF rfl rfl) (by rw [hb]; rfl)) fun a hF => ?_
                  exact key _ _ (hF.has ⟨rfl, rfl, rfl, rfl, rfl, trivial⟩) hS
                ·
                  intro hb key
                  replace hF := Fr.as hF (t := 37) rfl (congrArg Value.bool hb)
                  refine ls <| gn hF rfl rfl rfl rfl fun a hF => ?_
                  refine ls <| gn hF rfl rfl rfl rfl fun a hF => ?_
                  refine ls <| gn hF rfl rfl rfl rfl fun a hF => ?_
                  refine ls <| gy hF rfl rfl <| q1 hF rfl (e_as (v' := .bool ((decide (x11.Op ≠ 1)) && (decide (x11.N ≠ 0)))) (e_pickF hF rfl rfl) (by rw [hb]; rfl)) fun a hF => ?_
                  exact key _ _ (hF.has ⟨rfl, rfl, rfl, rfl, rfl, trivial⟩) hS
                intro a w hF hS
                refine ls <| q1 hF rfl (e_as (v' := .bool (((decide (x11.At < 0)) || (decide (4000 < x11.At))) || ((decide (x11.Op ≠ 1)) && (decide (x11.N ≠ 0))))) (e_pickF hF rfl rfl) (by rw [hb]; rfl)) fun a hF => ?_
                exact key _ _ (hF.has ⟨rfl, rfl, rfl, rfl, trivial⟩) hS
              intro a w hF hS
              refine ls <| q1 hF rfl (e_move hF rfl) fun a hF => ?_
              refine grp (N := 77) (Fk := [(0, .slice oaA2 p1.length capA3), (3, .int .i64 vB1), (4, .pointer (some ⟨b16, 0, none⟩)), (52, .bool ((((decide (x11.At < 0)) || (decide (4000 < x11.At))) || ((decide (x11.Op ≠ 1)) && (decide (x11.N ≠ 0)))) || ((decide (x11.Op ≠ 2)) && (decide (x11.Name ≠ [])))))]) (b := (((decide (x11.At < 0)) || (decide (4000 < x11.At))) || ((decide (x11.Op ≠ 1)) && (decide (x11.N ≠ 0))))) 9 hS ?_ ?_ ?_
              ·
                intro hb key
                replace hF := Fr.as hF (t := 43) rfl (congrArg Value.bool hb)
                refine ls <| gn hF rfl rfl rfl rfl fun a hF => ?_
                refine ls <| gn hF rfl rfl rfl rfl fun a hF => ?_
                refine ls <| gn hF rfl rfl rfl rfl fun a hF => ?_
                refine ls <| gn hF rfl rfl rfl rfl fun a hF => ?_
                refine ls <| gnu hF rfl rfl rfl fun a hF => ?_
                refine ls <| gnu hF rfl rfl rfl fun a hF => ?_
                refine ls <| gnu hF rfl rfl rfl fun a hF => ?_
                refine ls <| gn hF rfl rfl rfl rfl fun a hF => ?_
                refine ls <| q1 hF rfl (e_as (v' := .bool ((((decide (x11.At < 0)) || (decide (4000 < x11.At))) || ((decide (x11.Op ≠ 1)) && (decide (x11.N ≠ 0)))) || ((decide (x11.Op ≠ 2)) && (decide (x11.Name ≠ []))))) (e_pickT hF rfl rfl) (by rw [hb]; rfl)) fun a hF => ?_
                exact key _ _ (hF.has ⟨rfl, rfl, rfl, rfl, trivial⟩) hS
              ·
                intro hb key
                replace hF := Fr.as hF (t := 43) rfl (congrArg Value.bool hb)
                refine ls <| gy hF rfl rfl <| q1 hF rfl (e_fa hF fa39_0 rfl) fun a hF => ?_
                refine ls <| gy hF rfl rfl <| q1 hF rfl (e_ld hF Tryd.isAgg3 rfl ((St.ld hS).cellB (.head _) rfl)) fun a hF => ?_
                refine ls <| gy hF rfl rfl <| q1 hF rfl (e_neq hF rfl rfl) fun a hF => ?_
                refine ls <| gy hF rfl rfl <| q1 hF rfl (e_move hF rfl) fun a hF => ?_
                refine grp (N := 77) (Fk := [(0, .slice oaA2 p1.length capA3), (3, .int .i64 vB1), (4, .pointer (some ⟨b16, 0, none⟩)), (43, .bool false), (51, .bool ((decide (x11.Op ≠ 2)) && (decide (x11.Name ≠ []))))]) (b := (decide (x11.Op ≠ 2))) 4 hS ?_ ?_ ?_
                ·
                  intro hb key
                  replace hF := Fr.as hF (t := 47) rfl (congrArg Value.bool hb)
                  refine ls <| gy hF rfl rfl <| q1 hF rfl (e_fa hF fa39_2 rfl) fun a hF => ?_
                  refine ls <| gy hF rfl rfl <| q1 hF rfl (e_ld hF Tryd.isAgg9 rfl ((St.ld hS).cellB (.head _) rfl)) fun a hF => ?_
                  refine ls <| gy hF rfl rfl <| q1 hF rfl (e_neqU (m := x11.Name) (n := []) hF rfl rfl) fun a hF => ?_
                  refine ls <| gy hF rfl rfl <| q1 hF rfl (e_as (v' := .bool ((decide (x11.Op ≠ 2)) && (decide (x11.Name ≠ [])))) (e_pickT hF rfl rfl) (by rw [hb]; rfl)) fun a hF => ?_
                  exact key _ _ (hF.has ⟨rfl, rfl, rfl, rfl, rfl, trivial⟩) hS
                ·
                  intro hb key
                  replace hF := Fr.as hF (t := 47) rfl (congrArg Value.bool hb)
                  refine ls <| gn hF rfl rfl rfl rfl fun a hF => ?_
                  refine ls <| gn hF rfl rfl rfl rfl fun a hF => ?_
                  refine ls <| gn hF rfl rfl rfl rfl fun a hF => ?_
                  refine ls <| gy hF rfl rfl <| q1 hF rfl (e_as (v' := .bool ((decide (x11.Op ≠ 2)) && (decide (x11.Name ≠ [])))) (e_pickF hF rfl rfl) (by rw [hb]; rfl)) fun a hF => ?_
                  exact key _ _ (hF.has ⟨rfl, rfl, rfl, rfl, rfl, trivial⟩) hS
                intro a w hF hS
                refine ls <| q1 hF rfl (e_as (v' := .bool ((((decide (x11.At < 0)) || (decide (4000 < x11.At))) || ((decide (x11.Op ≠ 1)) && (decide (x11.N ≠ 0)))) || ((decide (x11.Op ≠ 2)) && (decide (x11.Name ≠ []))))) (e_pickF hF rfl rfl) (by rw [hb]; rfl)) fun a hF => ?_
                exact key _ _ (hF.has ⟨rfl, rfl, rfl, rfl, trivial⟩) hS
              intro a w hF hS
              refine ls <| q1 hF rfl (e_move hF rfl) fun a hF => ?_
              refine grp (N := 77) (Fk := [(0, .slice oaA2 p1.length capA3), (3, .int .i64 vB1), (4, .pointer (some ⟨b16, 0, none⟩)), (57, .bool (((((decide (x11.At < 0)) || (decide (4000 < x11.At))) || ((decide (x11.Op ≠ 1)) && (decide (x11.N ≠ 0)))) || ((decide (x11.Op ≠ 2)) && (decide (x11.Name ≠ [])))) || (decide (x11.N < 0))))]) (b := ((((decide (x11.At < 0)) || (decide (4000 < x11.At))) || ((decide (x11.Op ≠ 1)) && (decide (x11.N ≠ 0)))) || ((decide (x11.Op ≠ 2)) && (decide (x11.Name ≠ []))))) 4 hS ?_ ?_ ?_
              ·
                intro hb key
                replace hF := Fr.as hF (t := 53) rfl (congrArg Value.bool hb)
                refine ls <| gn hF rfl rfl rfl rfl fun a hF => ?_
                refine ls <| gn hF rfl rfl rfl rfl fun a hF => ?_
                refine ls <| gn hF rfl rfl rfl rfl fun a hF => ?_
                refine ls <| q1 hF rfl (e_as (v' := .bool (((((decide (x11.At < 0)) || (decide (4000 < x11.At))) || ((decide (x11.Op ≠ 1)) && (decide (x11.N ≠ 0)))) || ((decide (x11.Op ≠ 2)) && (decide (x11.Name ≠ [])))) || (decide (x11.N < 0)))) (e_pickT hF rfl rfl) (by rw [hb]; rfl)) fun a hF => ?_
                exact key _ _ (hF.has ⟨rfl, rfl, rfl, rfl, trivial⟩) hS
              ·
                intro hb key
                replace hF := Fr.as hF (t := 53) rfl (congrArg Value.bool hb)
                refine ls <| gy hF rfl rfl <| q1 hF rfl (e_fa hF fa39_1 rfl) fun a hF => ?_
                refine ls <| gy hF rfl rfl <| q1 hF rfl (e_ld hF Tryd.isAgg3 rfl ((St.ld hS).cellB (.head _) rfl)) fun a hF => ?_
                refine ls <| gy hF rfl rfl <| q1 hF rfl (e_lss hF rfl rfl) fun a hF => ?_
                refine ls <| q1 hF rfl (e_as (v' := .bool (((((decide (x11.At < 0)) || (decide (4000 < x11.At))) || ((decide (x11.Op ≠ 1)) && (decide (x11.N ≠ 0)))) || ((decide (x11.Op ≠ 2)) && (decide (x11.Name ≠ [])))) || (decide (x11.N < 0)))) (e_pickF hF rfl rfl) (by rw [hb]; rfl)) fun a hF => ?_
                exact key _ _ (hF.has ⟨rfl, rfl, rfl, rfl, trivial⟩) hS
              intro a w hF hS
              refine ls <| q1 hF rfl (e_move hF rfl) fun a hF => ?_
              refine grp (N := 77) (Fk := [(0, .slice oaA2 p1.length capA3), (3, .int .i64 vB1), (4, .pointer (some ⟨b16, 0, none⟩)), (62, .bool ((((((decide (x11.At < 0)) || (decide (4000 < x11.At))) || ((decide (x11.Op ≠ 1)) && (decide (x11.N ≠ 0)))) || ((decide (x11.Op ≠ 2)) && (decide (x11.Name ≠ [])))) || (decide (x11.N < 0))) || (decide (4294967296 < x11.N))))]) (b := (((((decide (x11.At < 0)) || (decide (4000 < x11.At))) || ((decide (x11.Op ≠ 1)) && (decide (x11.N ≠ 0)))) || ((decide (x11.Op ≠ 2)) && (decide (x11.Name ≠ [])))) || (decide (x11.N < 0)))) 4 hS ?_ ?_ ?_
              ·
                intro hb key
                replace hF := Fr.as hF (t := 58) rfl (congrArg Value.bool hb)
                refine ls <| gn hF rfl rfl rfl rfl fun a hF => ?_
                refine ls <| gn hF rfl rfl rfl rfl fun a hF => ?_
                refine ls <| gn hF rfl rfl rfl rfl fun a hF => ?_
                refine ls <| q1 hF rfl (e_as (v' := .bool ((((((decide (x11.At < 0)) || (decide (4000 < x11.At))) || ((decide (x11.Op ≠ 1)) && (decide (x11.N ≠ 0)))) || ((decide (x11.Op ≠ 2)) && (decide (x11.Name ≠ [])))) || (decide (x11.N < 0))) || (decide (4294967296 < x11.N)))) (e_pickT hF rfl rfl) (by rw [hb]; rfl)) fun a hF => ?_
                exact key _ _ (hF.has ⟨rfl, rfl, rfl, rfl, trivial⟩) hS
              ·
                intro hb key
                replace hF := Fr.as hF (t := 58) rfl (congrArg Value.bool hb)
                refine ls <| gy hF rfl rfl <| q1 hF rfl (e_fa hF fa39_1 rfl) fun a hF => ?_
                refine ls <| gy hF rfl rfl <| q1 hF rfl (e_ld hF Tryd.isAgg3 rfl ((St.ld hS).cellB (.head _) rfl)) fun a hF => ?_
                refine ls <| gy hF rfl rfl <| q1 hF rfl (e_gtr hF rfl rfl) fun a hF => ?_
                refine ls <| q1 hF rfl (e_as (v' := .bool ((((((decide (x11.At < 0)) || (decide (4000 < x11.At))) || ((decide (x11.Op ≠ 1)) && (decide (x11.N ≠ 0)))) || ((decide (x11.Op ≠ 2)) && (decide (x11.Name ≠ [])))) || (decide (x11.N < 0))) || (decide (4294967296 < x11.N)))) (e_pickF hF rfl rfl) (by rw [hb]; rfl)) fun a hF => ?_
                exact key _ _ (hF.has ⟨rfl, rfl, rfl, rfl, trivial⟩) hS
              intro a w hF hS
              refine ls <| q1 hF rfl (e_as (e_move hF rfl) (congrArg Value.bool hb17)) fun a hF => ?_
              refine ls <| gy hF rfl rfl <| q1 hF rfl (e_fa hF fa39_0 rfl) fun a hF => ?_
              refine ls <| gy hF rfl rfl <| q1 hF rfl (e_ld hF Tryd.isAgg3 rfl ((St.ld hS).cellB (.head _) rfl)) fun a hF => ?_
              refine ls <| gy hF rfl rfl <| q1 hF rfl (e_eql hF rfl rfl) fun a hF => ?_
              refine ls <| gy hF rfl rfl <| q1 hF rfl (e_as (e_move hF rfl) (congrArg Value.bool hb18)) fun a hF => ?_
              refine ls <| gn hF rfl rfl rfl rfl fun a hF => ?_
              refine ls <| gn hF rfl rfl rfl rfl fun a hF => ?_
              refine ls <| gn hF rfl rfl rfl rfl fun a hF => ?_
              refine ls <| gn hF rfl rfl rfl rfl fun a hF => ?_
              refine ls <| gy hF rfl rfl <| q1 hF rfl (e_pickF hF rfl rfl) fun a hF => ?_
              refine ls <| q1 hF rfl (e_pickF hF rfl rfl) fun a hF => ?_
              refine re <| ?_
              refine tn <| ?_
              replace hS := hS.pickL .nil
              exact ⟨false, hm, hF.has ⟨rfl, rfl, rfl, trivial⟩, hS⟩
        clear hm hF hS
        rintro a w ⟨vC1, hm, hF, hS⟩
        unfold leadlineref03_Right_j4 at hm
        rcases bdich vC1 with hb21 | hb21
        ·
          replace hm := ite_t hm hb21
          refine ctv hF rfl hb21 <| th <| ?_
          refine rg <| ?_
          refine ls <| q1 hF rfl (e_asg hF rfl) fun a hF => ?_
          refine re <| ?_
          refine tn <| ?_
          refine wp_ret <| br <| tr <| tr <| br <| tr <| ?_
          obtain rfl := Option.some.inj hm
          exact r1 hF Tryd.results29 rfl ⟨rfl, hS.keep⟩
        ·
          replace hm := ite_f hm hb21
          refine cfv hF rfl hb21 <| wp_skip <| ?_
          refine bn <| tn <| ?_
          refine rg <| ?_
          refine ls <| q1 hF rfl (e_move hF rfl) fun a hF => ?_
          refine ls <| q1 hF rfl (e_add hF rfl rfl) fun a hF => ?_
          refine ls <| q1 hF rfl (e_asg hF rfl) fun a hF => ?_
          refine re <| ?_
          refine tn <| ?_
          exact ⟨(nn3, (IntKind.i64.wrap (vB1 + 1))), ⟨hm, hF.has ⟨rfl, rfl, trivial⟩, hS⟩, Nat.lt_succ_self _⟩
      ·
        replace hm := itp_f hm hb10
        refine tn <| cfv hF rfl hb10 <| ?_
        refine wp_exit <| tx <| tx <| bx <| ?_
        refine tn <| ?_
        exact ⟨hm, hF.has ⟨rfl, trivial⟩, hS⟩
    clear hm hF hS
    rintro a w ⟨hm, hF, hS⟩
    unfold leadlineref03_Right_j2 at hm
    refine th <| ?_
    replace hm := bind_some hm
    obtain ⟨r22, h23, hm⟩ := hm
    refine rg <| ?_
    refine ls <| q1 hF rfl (e_move hF rfl) fun a hF => ?_
    refine ls <| c1 hF rfl Tryd.call54 (leadlineref03_deep_c _ (hp_le _) hcA4 (St.srH hS hrA5) h23) ⟨rfl, rfl, trivial⟩ (fun v w a hR hF => ?_)
    obtain ⟨rfl, hk⟩ := hR
    replace hS := hS.pass hk
    clear hk
    refine ls <| q1 hF rfl (e_leq hF rfl rfl) fun a hF => ?_
    refine ls <| q1 hF rfl (e_asg hF rfl) fun a hF => ?_
    refine re <| ?_
    refine tn <| ?_
    refine wp_ret <| ?_
    obtain rfl := Option.some.inj hm
    exact r1 hF Tryd.results29 rfl ⟨rfl, hS.keep⟩

set_option maxRecDepth 100000 in
theorem leadlineref06_Place_c {N : Nat} {w0 : World} {H : PH} (hH : H.le w0) {oa2 : Option Addr} {cap3 : Nat} {p1 : (List Str)} (hc4 : p1.length ≤ cap3) (hr5 : SR H oa2 p1) {p6 : Str} {r : Int} (hm : leadlineref06_Place N p1 p6 = some r) : Tot Tryd.prog 30 #[.slice oa2 p1.length cap3, strv p6] w0 (fun v w' => v = .int .i64 r ∧ Keep Nil w0 w') := by
  unfold leadlineref06_Place at hm
  refine fn0 (args := [.slice oa2 p1.length cap3, strv p6]) (F := [(0, .slice oa2 p1.length cap3), (1, strv p6)]) Tryd.func30 rfl Tryd.ntmps30 rfl rfl fun a hF => ?_
  have hS : St w0 Nil [H] [] w0 := start1 hH
  refine th <| ?_
  refine rg <| ?_
  refine ls <| q1 hF rfl (e_asg hF rfl) fun a hF => ?_
  refine re <| ?_
  refine tn <| th <| th <| ?_
  refine rg <| ?_
  refine ls <| q1 hF rfl (e_asg hF rfl) fun a hF => ?_
  refine re <| ?_
  refine tn <| midK (fun a w => ∃ (HA1 : PH), leadlineref06_Place_j1 = some r ∧ Ext w0 H HA1 ∧ Fr 19 [] a ∧ St w0 Nil [HA1] [] w) ?_ ?_
  ·
    refine wp_block <| lp (α := Nat × Int) (fun (gh : Nat × Int) a w => match gh with | (nn2, vB6) => ∃ (HB1 : PH) (oaB2 : Option Addr) (capB3 : Nat), (leadlineref06_Place_l2 N leadlineref06_Place_j1 p1 p6) nn2 vB6 = some r ∧ Ext w0 H HB1 ∧ Fr 19 [(0, .slice oaB2 p1.length capB3), (1, strv p6), (5, .int .i64 vB6)] a ∧ St w0 Nil [HB1] [] w ∧ p1.length ≤ capB3 ∧ SR HB1 oaB2 p1) (fun gh => gh.1) (N, 0) ⟨H, oa2, cap3, hm, (Ext.refl _ _), hF.has ⟨rfl, rfl, rfl, trivial⟩, hS, hc4, hr5⟩ ?_
    clear hm hF hS
    rintro ⟨nn2, vB6⟩ a w ⟨HB1, oaB2, capB3, hm, hxHB1, hF, hS, hcB4, hrB5⟩
    obtain _ | nn2 := nn2
    · simp [leadlineref06_Place_l2] at hm
    rw [leadlineref06_Place_l2] at hm
    refine th <| th <| ?_
    refine rg <| ?_
    refine ls <| q1 hF rfl (e_move hF rfl) fun a hF => ?_
    refine ls <| q1 hF rfl (e_move hF rfl) fun a hF => ?_
    refine ls <| q1 hF rfl (e_lenL (α := Str) (xs := p1) hF Tryd.runUnderlying23 rfl) fun a hF => ?_
    refine ls <| q1 hF rfl (e_lss hF rfl rfl) fun a hF => ?_
    refine re <| ?_
    rcases bdich (decide (vB6 < (p1.length : Int))) with hb7 | hb7
    ·
      replace hm := itp_t hm hb7
      refine tn <| ctv hF rfl hb7 <| wp_skip <| ?_
      refine tn <| th <| wp_block <| th <| ?_
      replace hm := bind_some hm
      obtain ⟨x8, h9, hm⟩ := hm
      obtain ⟨c10, g11, hl12⟩ := SR.get hrB5 h9
      obtain rfl : c10 = [strv x8] := g11
      refine rg <| ?_
      refine ls <| q1 hF rfl (e_move hF rfl) fun a hF => ?_
      refine ls <| q1 hF rfl (e_move hF rfl) fun a hF => ?_
      refine ls <| q1 hF rfl (e_iaI hF Tryd.runUnderlying23 Tryd.sizeOf9 rfl rfl h9 (SR.oaI hrB5 (by decide) h9)) fun a hF => ?_
      refine ls <| q1 hF rfl (e_ld hF Tryd.isAgg9 rfl (PH.le.cell (Lds.le (St.ld hS)) (hl12 0 _ rfl))) fun a hF => ?_
      refine ls <| q1 hF rfl (e_move hF rfl) fun a hF => ?_
      refine ls <| q1 hF rfl (e_eqlU (m := x8) (n := p6) hF rfl rfl) fun a hF => ?_
      refine re <| ?_
      rcases bdich (decide (x8 = p6)) with hb13 | hb13
      ·
        replace hm := itp_t hm hb13
        refine tn <| ctv hF rfl hb13 <| th <| ?_
        refine rg <| ?_
        refine ls <| q1 hF rfl (e_move hF rfl) fun a hF => ?_
        refine ls <| q1 hF rfl (e_asg hF rfl) fun a hF => ?_
        refine re <| ?_
        refine tn <| ?_
        refine wp_ret <| br <| tr <| tr <| br <| tr <| ?_
        obtain rfl := Option.some.inj hm
        exact r1 hF Tryd.results30 rfl ⟨rfl, hS.keep⟩
      ·
        replace hm := itp_f hm hb13
        refine tn <| cfv hF rfl hb13 <| wp_skip <| ?_
        refine bn <| tn <| ?_
        refine rg <| ?_
        refine ls <| q1 hF rfl (e_move hF rfl) fun a hF => ?_
        refine ls <| q1 hF rfl (e_add hF rfl rfl) fun a hF => ?_
        refine ls <| q1 hF rfl (e_asg hF rfl) fun a hF => ?_
        refine re <| ?_
        refine tn <| ?_
        exact ⟨(nn2, (IntKind.i64.wrap (vB6 + 1))), ⟨HB1, oaB2, capB3, hm, hxHB1, hF.has ⟨rfl, rfl, rfl, trivial⟩, hS, hcB4, hrB5⟩, Nat.lt_succ_self _⟩
    ·
      replace hm := itp_f hm hb7
      refine tn <| cfv hF rfl hb7 <| ?_
      refine wp_exit <| tx <| tx <| bx <| ?_
      refine tn <| ?_
      exact ⟨HB1, hm, hxHB1, hF.has trivial, hS⟩
  clear hm hF hS
  rintro a w ⟨HA1, hm, hxHA1, hF, hS⟩
  unfold leadlineref06_Place_j1 at hm
  refine th <| ?_
  refine rg <| ?_
  refine ls <| q1 hF rfl (e_asg hF rfl) fun a hF => ?_
  refine re <| ?_
  refine tn <| ?_
  refine wp_ret <| ?_
  obtain rfl := Option.some.inj hm
  exact r1 hF Tryd.results30 rfl ⟨rfl, hS.keep⟩

set_option maxRecDepth 100000 in
theorem leadlineref08_steps_c : ∀ (N : Nat) {w0 : World} {H : PH} (hH : H.le w0) {oa2 : Option Addr} {cap3 : Nat} {p1 : (List api_Node)} (hc4 : p1.length ≤ cap3) (hr5 : SR H oa2 p1) {p6 : Int} {oa8 : Option Addr} {cap9 : Nat} {p7 : (List Str)} (hc10 : p7.length ≤ cap9) (hr11 : SR H oa8 p7) {r : (List api_Op)} (hm : leadlineref08_steps N p1 p6 p7 = some r), Tot Tryd.prog 31 #[.slice oa2 p1.length cap3, .int .i64 p6, .slice oa8 p7.length cap9] w0 (fun v w' => ∃ (oa0 : Option Addr) (cap0 : Nat) (vs0 : List Value), v = .slice oa0 r.length cap0 ∧ (∀ h, Rows h vs0 r) ∧ Fresh w0 (sla 46 2 oa0 r.length cap0 vs0) w') := by
  intro N
  induction N with
  | zero => intros; rename_i hm; simp [leadlineref08_steps] at hm
  | succ N ih =>
  intro w0 H hH oa2 cap3 p1 hc4 hr5 p6 oa8 cap9 p7 hc10 hr11 r hm
  rw [leadlineref08_steps] at hm
  refine fn0 (args := [.slice oa2 p1.length cap3, .int .i64 p6, .slice oa8 p7.length cap9]) (F := [(0, .slice oa2 p1.length cap3), (1, .int .i64 p6), (2, .slice oa8 p7.length cap9)]) Tryd.func31 rfl Tryd.ntmps31 rfl rfl fun a hF => ?_
  have hS : St w0 Nil [H] [] w0 := start1 hH
  refine th <| ?_
  refine rg <| ?_
  refine ls <| q1 hF rfl (e_asg hF rfl) fun a hF => ?_
  refine re <| ?_
  refine tn <| th <| ?_
  refine rg <| ?_
  refine ls <| a_bsl (e := 46) (sz := 2) [] hF rfl hS rfl rfl rfl (fun w => by kernel_rfl) fun b13 w a hS hF => ?_
  have hv12 : Rows (α := api_Op) H [] [] := .nil
  refine ls <| q1 hF rfl (e_move hF rfl) fun a hF => ?_
  refine ls <| q1 hF rfl (e_add hF rfl rfl) fun a hF => ?_
  refine ls <| q1 hF rfl (e_asg hF rfl) fun a hF => ?_
  refine ls <| q1 hF rfl (e_asg hF rfl) fun a hF => ?_
  refine re <| ?_
  refine tn <| th <| th <| ?_
  refine rg <| ?_
  refine ls <| q1 hF rfl (e_asg hF rfl) fun a hF => ?_
  refine re <| ?_
  refine tn <| midK (fun a w => ∃ (vA10 : (List api_Op)) (HA1 : PH) (oaA2 : Option Addr) (capA3 : Nat) (oaA6 : Option Addr) (capA7 : Nat) (oaA11 : Option Addr) (capA12 : Nat) (vsA13 : List Value), (leadlineref08_steps_j1 N p1 p6 p7) vA10 = some r ∧ Ext w0 H HA1 ∧ Fr 62 [(0, .slice oaA2 p1.length capA3), (1, .int .i64 p6), (2, .slice oaA6 p7.length capA7), (7, .slice oaA11 vA10.length capA12)] a ∧ St w0 Nil [HA1] [sla 46 2 oaA11 vA10.length capA12 vsA13] w ∧ p1.length ≤ capA3 ∧ SR HA1 oaA2 p1 ∧ p7.length ≤ capA7 ∧ SR HA1 oaA6 p7 ∧ Rows HA1 vsA13 vA10) ?_ ?_
  ·
    refine wp_block <| lp (α := Nat × (List api_Op) × Int × Int) (fun (gh : Nat × (List api_Op) × Int × Int) a w => match gh with | (nn2, vB10, vB16, vB17) => ∃ (HB1 : PH) (oaB2 : Option Addr) (capB3 : Nat) (oaB6 : Option Addr) (capB7 : Nat) (oaB11 : Option Addr) (capB12 : Nat) (vsB13 : List Value), (leadlineref08_steps_l2 (leadlineref08_steps N) N (leadlineref08_steps_j1 N p1 p6 p7) p1 p6 p7) nn2 vB10 vB16 vB17 = some r ∧ Ext w0 H HB1 ∧ Fr 62 [(0, .slice oaB2 p1.length capB3), (1, .int .i64 p6), (2, .slice oaB6 p7.length capB7), (7, .slice oaB11 vB10.length capB12), (8, .int .i64 vB16), (9, .int .i64 vB17)] a ∧ St w0 Nil [HB1] [sla 46 2 oaB11 vB10.length capB12 vsB13] w ∧ p1.length ≤ capB3 ∧ SR HB1 oaB2 p1 ∧ p7.length ≤ capB7 ∧ SR HB1 oaB6 p7 ∧ Rows HB1 vsB13 vB10) (fun gh => gh.1) (N, [], (IntKind.i64.wrap (p6 + 1)), 0) ⟨H, oa2, cap3, oa8, cap9, (some ⟨b13, 0, none⟩), 0, [], hm, (Ext.refl _ _), hF.has ⟨rfl, rfl, rfl, rfl, rfl, rfl, trivial⟩, hS, hc4, hr5, hc10, hr11, hv12⟩ ?_
    clear hm hF hS
    rintro ⟨nn2, vB10, vB16, vB17⟩ a w ⟨HB1, oaB2, capB3, oaB6, capB7, oaB11, capB12, vsB13, hm, hxHB1, hF, hS, hcB4, hrB5, hcB8, hrB9, hvB14⟩
    obtain _ | nn2 := nn2
    · simp [leadlineref08_steps_l2] at hm
    rw [leadlineref08_steps_l2] at hm
    refine th <| th <| ?_
    replace hm := bind_some hm
    obtain ⟨x15, h16, hm⟩ := hm
    obtain ⟨c17, g18, hl19⟩ := SR.get hrB5 h16
    obtain rfl := api_Node_open g18
    replace hm := bind_some hm
    obtain ⟨r20, h21, hm⟩ := hm
    refine rg <| ?_
    refine ls <| q1 hF rfl (e_move hF rfl) fun a hF => ?_
    refine ls <| q1 hF rfl (e_move hF rfl) fun a hF => ?_
    refine ls <| q1 hF rfl (e_move hF rfl) fun a hF => ?_
    refine ls <| q1 hF rfl (e_iaI hF Tryd.runUnderlying22 Tryd.sizeOf39 rfl rfl h16 (SR.oaI hrB5 (by decide) h16)) fun a hF => ?_
    refine ls <| q1 hF rfl (e_fa hF fa39_0 rfl) fun a hF => ?_
    refine ls <| q1 hF rfl (e_ld hF Tryd.isAgg3 rfl (PH.le.cell (Lds.le (St.ld hS)) (hl19 0 _ rfl))) fun a hF => ?_
    refine ls <| c1 hF rfl Tryd.call17 (leadlineref03_Kids_c (hp_le _) h21) ⟨rfl, trivial⟩ (fun v w a hR hF => ?_)
    obtain ⟨rfl, hk⟩ := hR
    replace hS := hS.pass hk
    clear hk
    refine ls <| q1 hF rfl (e_lss hF rfl rfl) fun a hF => ?_
    refine re <| ?_
    rcases bdich (decide (vB17 < r20)) with hb22 | hb22
    ·
      replace hm := itp_t hm hb22
      refine tn <| ctv hF rfl hb22 <| wp_skip <| ?_
      refine tn <| th <| wp_block <| th <| ?_
      replace hm := bind_some hm
      obtain ⟨r23, h24, hm⟩ := hm
      replace hm := bind_some hm
      obtain ⟨l30, h31, hm⟩ := hm
      refine rg <| ?_
      refine ls <| q1 hF rfl (e_move hF rfl) fun a hF => ?_
      refine ls <| q1 hF rfl (e_move hF rfl) fun a hF => ?_
      refine ls <| q1 hF rfl (e_move hF rfl) fun a hF => ?_
      refine ls <| q1 hF rfl (e_move hF rfl) fun a hF => ?_
      refine ls <| c1 hF rfl Tryd.call31 (ih (hp_le _) hcB4 (St.srH hS hrB5) hcB8 (St.srH hS hrB9) h24) ⟨rfl, rfl, rfl, trivial⟩ (fun v w a hR hF => ?_)
      obtain ⟨oa25, cap26, vs27, rfl, hv28, hk⟩ := hR
      replace hS := hS.fresh hk
      clear hk
      replace hv28 := hv28 HB1
      refine ls <| m_app (α := api_Op) (xs := vB10) (ys := r23) hF rfl hS Tryd.underlying26 info46 rfl (by decide) rfl rfl rfl (.tail _ (.head _)) hvB14 (hS.rdO (.head _)) hv28 h31 fun oa32 cap33 vs34 w a hv35 hU hF => ?_
      replace hS := hU _ (.tail .head)
      clear hU
      refine ls <| q1 hF rfl (e_asg hF rfl) fun a hF => ?_
      refine re <| ?_
      refine tn <| ?_
      replace hm := bind_some hm
      obtain ⟨r36, h37, hm⟩ := hm
      refine rg <| ?_
      refine ls <| q1 hF rfl (e_move hF rfl) fun a hF => ?_
      refine ls <| q1 hF rfl (e_move hF rfl) fun a hF => ?_
      refine ls <| c1 hF rfl Tryd.call52 (leadlineref03_End_c _ (hp_le _) hcB4 (St.srH hS hrB5) h37) ⟨rfl, rfl, trivial⟩ (fun v w a hR hF => ?_)
      obtain ⟨rfl, hk⟩ := hR
      replace hS := hS.pass hk
      clear hk
      refine ls <| q1 hF rfl (e_asg hF rfl) fun a hF => ?_
      refine re <| ?_
      refine bn <| tn <| ?_
      refine rg <| ?_
      refine ls <| q1 hF rfl (e_move hF rfl) fun a hF => ?_
      refine ls <| q1 hF rfl (e_add hF rfl rfl) fun a hF => ?_
      refine ls <| q1 hF rfl (e_asg hF rfl) fun a hF => ?_
      refine re <| ?_
      refine tn <| ?_
      replace hS := hS.pickL (.cons (.tail .head) .nil)
      exact ⟨(nn2, l30, r36, (IntKind.i64.wrap (vB17 + 1))), ⟨HB1, oaB2, capB3, oaB6, capB7, oa32, cap33, vs34, hm, hxHB1, hF.has ⟨rfl, rfl, rfl, rfl, rfl, rfl, trivial⟩, hS, hcB4, hrB5, hcB8, hrB9, hv35⟩, Nat.lt_succ_self _⟩
    ·
      replace hm := itp_f hm hb22
      refine tn <| cfv hF rfl hb22 <| ?_
      refine wp_exit <| tx <| tx <| bx <| ?_
      refine tn <| ?_
      exact ⟨vB10, HB1, oaB2, capB3, oaB6, capB7, oaB11, capB12, vsB13, hm, hxHB1, hF.has ⟨rfl, rfl, rfl, rfl, trivial⟩, hS, hcB4, hrB5, hcB8, hrB9, hvB14⟩
  clear hm hF hS
  rintro a w ⟨vA10, HA1, oaA2, capA3, oaA6, capA7, oaA11, capA12, vsA13, hm, hxHA1, hF, hS, hcA4, hrA5, hcA8, hrA9, hvA14⟩
  unfold leadlineref08_steps_j1 at hm
  refine th <| ?_
  replace hm := bind_some hm
  obtain ⟨x38, h39, hm⟩ := hm
  obtain ⟨c40, g41, hl42⟩ := SR.get hrA5 h39
  obtain rfl := api_Node_open g41
  refine rg <| ?_
  refine ls <| q1 hF rfl (e_move hF rfl) fun a hF => ?_
  refine ls <| q1 hF rfl (e_move hF rfl) fun a hF => ?_
  refine ls <| q1 hF rfl (e_iaI hF Tryd.runUnderlying22 Tryd.sizeOf39 rfl rfl h39 (SR.oaI hrA5 (by decide) h39)) fun a hF => ?_
  refine ls <| q1 hF rfl (e_fa hF fa39_1 rfl) fun a hF => ?_
  refine ls <| q1 hF rfl (e_ld hF Tryd.isAgg3 rfl (PH.le.cell (Lds.le (St.ld hS)) (hl42 1 _ rfl))) fun a hF => ?_
  refine ls <| q1 hF rfl (e_asg hF rfl) fun a hF => ?_
  refine re <| ?_
  refine tn <| th <| th <| ?_
  refine rg <| ?_
  refine ls <| q1 hF rfl (e_move hF rfl) fun a hF => ?_
  refine ls <| q1 hF rfl (e_move hF rfl) fun a hF => ?_
  refine ls <| q1 hF rfl (e_iaI hF Tryd.runUnderlying22 Tryd.sizeOf39 rfl rfl h39 (SR.oaI hrA5 (by decide) h39)) fun a hF => ?_
  refine ls <| q1 hF rfl (e_fa hF fa39_0 rfl) fun a hF => ?_
  refine ls <| q1 hF rfl (e_ld hF Tryd.isAgg3 rfl (PH.le.cell (Lds.le (St.ld hS)) (hl42 0 _ rfl))) fun a hF => ?_
  refine ls <| q1 hF rfl (e_eql hF rfl rfl) fun a hF => ?_
  refine re <| ?_
  refine tn <| midK (fun a w => ∃ (vA16 : Int), (leadlineref08_steps_j3 vA10 x38) vA16 = some r ∧ Fr 62 [(0, .slice oaA2 p1.length capA3), (1, .int .i64 p6), (7, .slice oaA11 vA10.length capA12), (10, .int .i64 vA16)] a ∧ St w0 Nil [HA1] [sla 46 2 oaA11 vA10.length capA12 vsA13] w) ?_ ?_
  ·
    rcases bdich (decide (x38.Op = 2)) with hb43 | hb43
    ·
      replace hm := itp_t hm hb43
      refine ctv hF rfl hb43 <| ?_
      replace hm := bind_some hm
      obtain ⟨r44, h45, hm⟩ := hm
      refine rg <| ?_
      refine ls <| q1 hF rfl (e_move hF rfl) fun a hF => ?_
      refine ls <| q1 hF rfl (e_move hF rfl) fun a hF => ?_
      refine ls <| q1 hF rfl (e_move hF rfl) fun a hF => ?_
      refine ls <| q1 hF rfl (e_iaI hF Tryd.runUnderlying22 Tryd.sizeOf39 rfl rfl h39 (SR.oaI hrA5 (by decide) h39)) fun a hF => ?_
      refine ls <| q1 hF rfl (e_fa hF fa39_2 rfl) fun a hF => ?_
      refine ls <| q1 hF rfl (e_ld hF Tryd.isAgg9 rfl (PH.le.cell (Lds.le (St.ld hS)) (hl42 2 _ rfl))) fun a hF => ?_
      refine ls <| c1 hF rfl Tryd.call30 (leadlineref06_Place_c (hp_le _) hcA8 (St.srH hS hrA9) h45) ⟨rfl, rfl, trivial⟩ (fun v w a hR hF => ?_)
      obtain ⟨rfl, hk⟩ := hR
      replace hS := hS.pass hk
      clear hk
      refine ls <| q1 hF rfl (e_asg hF rfl) fun a hF => ?_
      refine re <| ?_
      refine tn <| ?_
      exact ⟨r44, hm, hF.has ⟨rfl, rfl, rfl, rfl, trivial⟩, hS⟩
    ·
      replace hm := itp_f hm hb43
      refine cfv hF rfl hb43 <| wp_skip <| ?_
      refine tn <| ?_
      exact ⟨x38.N, hm, hF.has ⟨rfl, rfl, rfl, rfl, trivial⟩, hS⟩
  clear hm hF hS
  rintro a w ⟨vA16, hm, hF, hS⟩
  unfold leadlineref08_steps_j3 at hm
  refine th <| ?_
  replace hm := bind_some hm
  obtain ⟨l49, h50, hm⟩ := hm
  refine rg <| ?_
  refine ls <| q1 hF rfl (e_move hF rfl) fun a hF => ?_
  refine ls <| q1 hF rfl (e_move hF rfl) fun a hF => ?_
  refine ls <| q1 hF rfl (e_move hF rfl) fun a hF => ?_
  refine ls <| q1 hF rfl (e_iaI hF Tryd.runUnderlying22 Tryd.sizeOf39 rfl rfl h39 (SR.oaI hrA5 (by decide) h39)) fun a hF => ?_
  refine ls <| q1 hF rfl (e_fa hF fa39_0 rfl) fun a hF => ?_
  refine ls <| q1 hF rfl (e_ld hF Tryd.isAgg3 rfl (PH.le.cell (Lds.le (St.ld hS)) (hl42 0 _ rfl))) fun a hF => ?_
  refine ls <| q1 hF rfl (e_move hF rfl) fun a hF => ?_
  refine ls <| q1 hF rfl (e_bldK [.int .i64 x38.Op, .int .i64 vA16] [.int .i64 x38.Op, .int .i64 vA16] hF ⟨rfl, rfl, trivial⟩ (fun w => by kernel_rfl)) fun a hF => ?_
  refine ls <| a_bsl (e := 46) (sz := 2) [.int .i64 x38.Op, .int .i64 vA16] hF rfl hS rfl rfl rfl (fun w => by kernel_rfl) fun b47 w a hS hF => ?_
  have hv46 : Rows (α := api_Op) HA1 [.int .i64 x38.Op, .int .i64 vA16] ([(api_Op.mk x38.Op vA16)] : List api_Op) := (.cons (c := [.int .i64 x38.Op, .int .i64 vA16]) ⟨_, _, rfl, rfl, rfl⟩ .nil)
  refine ls <| m_app (α := api_Op) (xs := vA10) (ys := ([(api_Op.mk x38.Op vA16)] : List api_Op)) hF rfl hS Tryd.underlying26 info46 rfl (by decide) rfl rfl rfl (.tail _ (.head _)) hvA14 (hS.rdO (.head _)) hv46 h50 fun oa51 cap52 vs53 w a hv54 hU hF => ?_
  replace hS := hU _ (.tail .head)
  clear hU
  replace hS := hS.drop .head
  refine ls <| q1 hF rfl (e_asg hF rfl) fun a hF => ?_
  refine re <| ?_
  refine tn <| th <| ?_
  refine rg <| ?_
  refine ls <| q1 hF rfl (e_move hF rfl) fun a hF => ?_
  refine ls <| q1 hF rfl (e_asg hF rfl) fun a hF => ?_
  refine re <| ?_
  refine tn <| ?_
  refine wp_ret <| ?_
  obtain rfl := Option.some.inj hm
  exact r1 hF Tryd.results31 rfl ⟨_, _, _, rfl, (fun _ => Rows.ind hv54), hS.endFresh (.head _)⟩
end Go.LM.CODE
