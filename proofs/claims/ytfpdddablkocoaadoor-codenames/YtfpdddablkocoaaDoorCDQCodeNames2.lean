/- Walks, lifted by program. No condition beyond each theorem's own premises. -/
import Derived.Test.YtfpdddablkocoaaDoorCDQCodeNames1
namespace Go.LM.CODE
open Go Go.LL Go.MD Go.LM Go.Proofs Go.MD.CODE

set_option maxRecDepth 100000 in
theorem code_heights_c {N : Nat} {w0 : World} {H : PH} (hH : H.le w0) {oa2 : Option Addr} {cap3 : Nat} {p1 : (List api_Op)} (hc4 : p1.length ≤ cap3) (hr5 : SR H oa2 p1) {r : (Int × Int × Bool)} (hm : code_heights N p1 = some r) : Tot Tryd.prog 40 #[.slice oa2 p1.length cap3] w0 (fun v w' => v = .tuple #[.int .i64 r.1, .int .i64 r.2.1, .bool r.2.2] ∧ Keep Nil w0 w') := by
  unfold code_heights at hm
  refine fn0 (args := [.slice oa2 p1.length cap3]) (F := [(0, .slice oa2 p1.length cap3)]) Tryd.func40 rfl Tryd.ntmps40 rfl rfl fun a hF => ?_
  have hS : St w0 Nil [H] [] w0 := start1 hH
  refine th <| ?_
  refine rg <| ?_
  refine ls <| q1 hF rfl (e_asg hF rfl) fun a hF => ?_
  refine ls <| q1 hF rfl (e_asg hF rfl) fun a hF => ?_
  refine ls <| q1 hF rfl (e_asg hF rfl) fun a hF => ?_
  refine re <| ?_
  refine tn <| th <| ?_
  refine rg <| ?_
  refine ls <| q1 hF rfl (e_asg hF rfl) fun a hF => ?_
  refine ls <| q1 hF rfl (e_asg hF rfl) fun a hF => ?_
  refine re <| ?_
  refine tn <| th <| th <| ?_
  refine rg <| ?_
  refine ls <| q1 hF rfl (e_move hF rfl) fun a hF => ?_
  refine ls <| q1 hF rfl (e_lenL (α := api_Op) (xs := p1) hF Tryd.runUnderlying26 rfl) fun a hF => ?_
  refine ls <| q1 hF rfl (e_move hF rfl) fun a hF => ?_
  refine re <| ?_
  refine tn <| midK (fun a w => ∃ (vA2 : Int) (vA3 : Int) (HA1 : PH), code_heights_j1 vA2 vA3 = some r ∧ Ext w0 H HA1 ∧ Fr 30 [(5, .int .i64 vA2), (6, .int .i64 vA3)] a ∧ St w0 Nil [HA1] [] w) ?_ ?_
  ·
    refine wp_block <| lp (α := Nat × Int × Int × Int) (fun (gh : Nat × Int × Int × Int) a w => match gh with | (nn2, vB2, vB3, vB8) => ∃ (HB1 : PH) (oaB4 : Option Addr) (capB5 : Nat), (code_heights_l2 N code_heights_j1 p1) nn2 vB2 vB3 vB8 = some r ∧ Ext w0 H HB1 ∧ Fr 30 [(5, .int .i64 vB2), (6, .int .i64 vB3), (9, .slice oaB4 p1.length capB5), (10, .int .i64 (p1.length : Int)), (11, .int .i64 vB8)] a ∧ St w0 Nil [HB1] [] w ∧ p1.length ≤ capB5 ∧ SR HB1 oaB4 p1) (fun gh => gh.1) (N, 0, 0, 0) ⟨H, oa2, cap3, hm, (Ext.refl _ _), hF.has ⟨rfl, rfl, rfl, rfl, rfl, trivial⟩, hS, hc4, hr5⟩ ?_
    clear hm hF hS
    rintro ⟨nn2, vB2, vB3, vB8⟩ a w ⟨HB1, oaB4, capB5, hm, hxHB1, hF, hS, hcB6, hrB7⟩
    obtain _ | nn2 := nn2
    · simp [code_heights_l2] at hm
    rw [code_heights_l2] at hm
    refine th <| ?_
    refine rg <| ?_
    refine ls <| q1 hF rfl (e_lss hF rfl rfl) fun a hF => ?_
    refine re <| ?_
    rcases bdich (decide (vB8 < (p1.length : Int))) with hb6 | hb6
    ·
      replace hm := itp_t hm hb6
      refine tn <| th <| ctv hF rfl hb6 <| wp_skip <| ?_
      refine tn <| th <| wp_block <| th <| ?_
      replace hm := bind_some hm
      obtain ⟨x7, h8, hm⟩ := hm
      obtain ⟨c9, g10, hl11⟩ := SR.get hrB7 h8
      obtain rfl := api_Op_open g10
      refine rg <| ?_
      refine ls <| q1 hF rfl (e_iaI hF Tryd.runUnderlying26 Tryd.sizeOf46 rfl rfl h8 (SR.oaI hrB7 (by decide) h8)) fun a hF => ?_
      refine ls <| q1 hF rfl (e_ldA hF Tryd.isAgg46 Tryd.sizeOf46 rfl rfl (fun j v hj => PH.le.cell (Lds.le (St.ld hS)) (hl11 j v hj))) fun a hF => ?_
      refine ls <| a_alloc (cs := [.int .i64 0, .int .i64 0].toArray) hF rfl hS Tryd.zeroValue46 rfl fun b12 w a hS hF => ?_
      refine ls <| s_blkA hF hS Tryd.sizeOf46 rfl rfl rfl rfl (one_cells rfl) .head fun w hS => ?_
      refine re <| ?_
      refine tn <| th <| ?_
      replace hm := bind_some hm
      obtain ⟨r13, h14, hm⟩ := hm
      refine rg <| ?_
      refine ls <| q1 hF rfl (e_move hF rfl) fun a hF => ?_
      refine ls <| q1 hF rfl (e_fa hF fa46_0 rfl) fun a hF => ?_
      refine ls <| q1 hF rfl (e_ld hF Tryd.isAgg3 rfl ((St.ld hS).cellB (.head _) rfl)) fun a hF => ?_
      refine ls <| c1 hF rfl Tryd.call34 (code_wants_c (hp_le _) h14) ⟨rfl, trivial⟩ (fun v w a hR hF => ?_)
      obtain ⟨rfl, hk⟩ := hR
      replace hS := hS.pass hk
      clear hk
      refine ls <| q1 hF rfl (e_sub hF rfl rfl) fun a hF => ?_
      refine ls <| q1 hF rfl (e_asg hF rfl) fun a hF => ?_
      refine re <| ?_
      refine tn <| th <| th <| ?_
      refine rg <| ?_
      refine ls <| q1 hF rfl (e_move hF rfl) fun a hF => ?_
      refine ls <| q1 hF rfl (e_lss hF rfl rfl) fun a hF => ?_
      refine re <| ?_
      rcases bdich (decide ((IntKind.i64.wrap (vB2 - r13)) < 0)) with hb15 | hb15
      ·
        replace hm := itp_t hm hb15
        refine tn <| ctv hF rfl hb15 <| th <| ?_
        refine rg <| ?_
        refine ls <| q1 hF rfl (e_asg hF rfl) fun a hF => ?_
        refine ls <| q1 hF rfl (e_asg hF rfl) fun a hF => ?_
        refine ls <| q1 hF rfl (e_asg hF rfl) fun a hF => ?_
        refine re <| ?_
        refine tn <| ?_
        refine wp_ret <| tr <| br <| tr <| tr <| br <| tr <| ?_
        obtain rfl := Option.some.inj hm
        exact r3 hF Tryd.results40 rfl rfl rfl ⟨rfl, hS.keep⟩
      ·
        replace hm := itp_f hm hb15
        refine tn <| cfv hF rfl hb15 <| wp_skip <| ?_
        refine tn <| th <| ?_
        refine rg <| ?_
        refine ls <| q1 hF rfl (e_move hF rfl) fun a hF => ?_
        refine ls <| q1 hF rfl (e_add hF rfl rfl) fun a hF => ?_
        refine ls <| q1 hF rfl (e_asg hF rfl) fun a hF => ?_
        refine re <| ?_
        refine tn <| ?_
        refine rg <| ?_
        refine ls <| q1 hF rfl (e_move hF rfl) fun a hF => ?_
        refine ls <| q1 hF rfl (e_move hF rfl) fun a hF => ?_
        refine ls <| q1 hF rfl (e_max hF rfl rfl) fun a hF => ?_
        refine ls <| q1 hF rfl (e_asg hF rfl) fun a hF => ?_
        refine re <| ?_
        refine bn <| tn <| ?_
        refine rg <| ?_
        refine ls <| q1 hF rfl (e_add hF rfl rfl) fun a hF => ?_
        refine ls <| q1 hF rfl (e_move hF rfl) fun a hF => ?_
        refine re <| ?_
        refine tn <| ?_
        replace hS := hS.pickL .nil
        exact ⟨(nn2, (IntKind.i64.wrap ((IntKind.i64.wrap (vB2 - r13)) + 1)), (max vB3 (IntKind.i64.wrap ((IntKind.i64.wrap (vB2 - r13)) + 1))), (IntKind.i64.wrap (vB8 + 1))), ⟨HB1, oaB4, capB5, hm, hxHB1, hF.has ⟨rfl, rfl, rfl, rfl, rfl, trivial⟩, hS, hcB6, hrB7⟩, Nat.lt_succ_self _⟩
    ·
      replace hm := itp_f hm hb6
      refine tn <| th <| cfv hF rfl hb6 <| ?_
      refine wp_exit <| tx <| tx <| bx <| ?_
      refine tn <| ?_
      exact ⟨vB2, vB3, HB1, hm, hxHB1, hF.has ⟨rfl, rfl, trivial⟩, hS⟩
  clear hm hF hS
  rintro a w ⟨vA2, vA3, HA1, hm, hxHA1, hF, hS⟩
  unfold code_heights_j1 at hm
  refine th <| ?_
  refine rg <| ?_
  refine ls <| q1 hF rfl (e_move hF rfl) fun a hF => ?_
  refine ls <| q1 hF rfl (e_move hF rfl) fun a hF => ?_
  refine ls <| q1 hF rfl (e_asg hF rfl) fun a hF => ?_
  refine ls <| q1 hF rfl (e_asg hF rfl) fun a hF => ?_
  refine ls <| q1 hF rfl (e_asg hF rfl) fun a hF => ?_
  refine re <| ?_
  refine tn <| ?_
  refine wp_ret <| ?_
  obtain rfl := Option.some.inj hm
  exact r3 hF Tryd.results40 rfl rfl rfl ⟨rfl, hS.keep⟩

set_option maxRecDepth 100000 in
theorem code_Right_1_c {N : Nat} {w0 : World} {H : PH} (hH : H.le w0) {p1 : api_Op} {y3 : Int} {b2 : Nat} (hb4 : H b2 = some (.cells [.int .i64 y3].toArray 3 (0, 0))) {r : Bool} (hm : code_Right_1 N p1 y3 = some r) : Tot Tryd.prog 39 #[.agg #[.int .i64 p1.Kind, .int .i64 p1.N], .pointer (some ⟨b2, 0, none⟩)] w0 (fun v w' => v = .bool r ∧ Keep Nil w0 w') := by
  unfold code_Right_1 at hm
  refine fn0 (args := [.agg #[.int .i64 p1.Kind, .int .i64 p1.N], .pointer (some ⟨b2, 0, none⟩)]) (F := [(0, .agg #[.int .i64 p1.Kind, .int .i64 p1.N]), (1, .pointer (some ⟨b2, 0, none⟩))]) Tryd.func39 rfl Tryd.ntmps39 rfl rfl fun a hF => ?_
  have hS : St w0 Nil [H] [] w0 := start1 hH
  refine th <| ?_
  refine rg <| ?_
  refine ls <| a_box (cs := [.int .i64 p1.Kind, .int .i64 p1.N].toArray) hF rfl hS rfl rfl fun b5 w a hS hF => ?_
  refine ls <| q1 hF rfl (e_asg hF rfl) fun a hF => ?_
  refine re <| ?_
  refine tn <| th <| wp_block <| th <| ?_
  refine rg <| ?_
  refine ls <| q1 hF rfl (e_fa hF fa46_0 rfl) fun a hF => ?_
  refine ls <| q1 hF rfl (e_ld hF Tryd.isAgg3 rfl ((St.ld hS).cellB (.head _) rfl)) fun a hF => ?_
  refine ls <| q1 hF rfl (e_eql hF rfl rfl) fun a hF => ?_
  refine ls <| q1 hF rfl (e_asg hF rfl) fun a hF => ?_
  refine re <| ?_
  rcases bdich (decide (p1.Kind = 1)) with hb6 | hb6
  ·
    replace hm := itp_t hm hb6
    refine tn <| ctv hF rfl hb6 <| th <| ?_
    refine rg <| ?_
    refine ls <| q1 hF rfl (e_fa hF fa46_1 rfl) fun a hF => ?_
    refine ls <| q1 hF rfl (e_ld hF Tryd.isAgg3 rfl ((St.ld hS).cellB (.head _) rfl)) fun a hF => ?_
    refine ls <| q1 hF rfl (e_lss hF rfl rfl) fun a hF => ?_
    refine ls <| q1 hF rfl (e_move hF rfl) fun a hF => ?_
    refine grp (N := 42) (Fk := [(15, .bool ((decide (p1.N < 0)) || (decide (4294967296 < p1.N))))]) (b := (decide (p1.N < 0))) 4 hS ?_ ?_ ?_
    ·
      intro hb key
      replace hF := Fr.as hF (t := 11) rfl (congrArg Value.bool hb)
      refine ls <| gn hF rfl rfl rfl rfl fun a hF => ?_
      refine ls <| gn hF rfl rfl rfl rfl fun a hF => ?_
      refine ls <| gn hF rfl rfl rfl rfl fun a hF => ?_
      refine ls <| q1 hF rfl (e_as (v' := .bool ((decide (p1.N < 0)) || (decide (4294967296 < p1.N)))) (e_pickT hF rfl rfl) (by rw [hb]; rfl)) fun a hF => ?_
      exact key _ _ (hF.has ⟨rfl, trivial⟩) hS
    ·
      intro hb key
      replace hF := Fr.as hF (t := 11) rfl (congrArg Value.bool hb)
      refine ls <| gy hF rfl rfl <| q1 hF rfl (e_fa hF fa46_1 rfl) fun a hF => ?_
      refine ls <| gy hF rfl rfl <| q1 hF rfl (e_ld hF Tryd.isAgg3 rfl ((St.ld hS).cellB (.head _) rfl)) fun a hF => ?_
      refine ls <| gy hF rfl rfl <| q1 hF rfl (e_gtr hF rfl rfl) fun a hF => ?_
      refine ls <| q1 hF rfl (e_as (v' := .bool ((decide (p1.N < 0)) || (decide (4294967296 < p1.N)))) (e_pickF hF rfl rfl) (by rw [hb]; rfl)) fun a hF => ?_
      exact key _ _ (hF.has ⟨rfl, trivial⟩) hS
    intro a w hF hS
    refine ls <| q1 hF rfl (e_asg hF rfl) fun a hF => ?_
    refine re <| ?_
    refine tn <| ?_
    refine wp_ret <| br <| tr <| ?_
    obtain rfl := Option.some.inj hm
    exact r1 hF Tryd.results39 rfl ⟨rfl, hS.keep⟩
  ·
    replace hm := itp_f hm hb6
    refine tn <| cfv hF rfl hb6 <| th <| ?_
    refine rg <| ?_
    refine ls <| q1 hF rfl (e_fa hF fa46_0 rfl) fun a hF => ?_
    refine ls <| q1 hF rfl (e_ld hF Tryd.isAgg3 rfl ((St.ld hS).cellB (.head _) rfl)) fun a hF => ?_
    refine ls <| q1 hF rfl (e_eql hF rfl rfl) fun a hF => ?_
    refine ls <| q1 hF rfl (e_asg hF rfl) fun a hF => ?_
    refine re <| ?_
    rcases bdich (decide (p1.Kind = 2)) with hb7 | hb7
    ·
      replace hm := itp_t hm hb7
      refine tn <| ctv hF rfl hb7 <| th <| ?_
      refine rg <| ?_
      refine ls <| q1 hF rfl (e_fa hF fa46_1 rfl) fun a hF => ?_
      refine ls <| q1 hF rfl (e_ld hF Tryd.isAgg3 rfl ((St.ld hS).cellB (.head _) rfl)) fun a hF => ?_
      refine ls <| q1 hF rfl (e_lss hF rfl rfl) fun a hF => ?_
      refine ls <| q1 hF rfl (e_move hF rfl) fun a hF => ?_
      refine grp (N := 42) (Fk := [(28, .bool ((decide (p1.N < 0)) || (decide (y3 ≤ p1.N))))]) (b := (decide (p1.N < 0))) 5 hS ?_ ?_ ?_
      ·
        intro hb key
        replace hF := Fr.as hF (t := 23) rfl (congrArg Value.bool hb)
        refine ls <| gn hF rfl rfl rfl rfl fun a hF => ?_
        refine ls <| gn hF rfl rfl rfl rfl fun a hF => ?_
        refine ls <| gn hF rfl rfl rfl rfl fun a hF => ?_
        refine ls <| gn hF rfl rfl rfl rfl fun a hF => ?_
        refine ls <| q1 hF rfl (e_as (v' := .bool ((decide (p1.N < 0)) || (decide (y3 ≤ p1.N)))) (e_pickT hF rfl rfl) (by rw [hb]; rfl)) fun a hF => ?_
        exact key _ _ (hF.has ⟨rfl, trivial⟩) hS
      ·
        intro hb key
        replace hF := Fr.as hF (t := 23) rfl (congrArg Value.bool hb)
        refine ls <| gy hF rfl rfl <| q1 hF rfl (e_fa hF fa46_1 rfl) fun a hF => ?_
        refine ls <| gy hF rfl rfl <| q1 hF rfl (e_ld hF Tryd.isAgg3 rfl ((St.ld hS).cellB (.head _) rfl)) fun a hF => ?_
        refine ls <| gy hF rfl rfl <| q1 hF rfl (e_ld hF Tryd.isAgg3 rfl (PH.le.cell (Lds.le (St.ld hS)) (ph_cell hb4 rfl))) fun a hF => ?_
        refine ls <| gy hF rfl rfl <| q1 hF rfl (e_geq hF rfl rfl) fun a hF => ?_
        refine ls <| q1 hF rfl (e_as (v' := .bool ((decide (p1.N < 0)) || (decide (y3 ≤ p1.N)))) (e_pickF hF rfl rfl) (by rw [hb]; rfl)) fun a hF => ?_
        exact key _ _ (hF.has ⟨rfl, trivial⟩) hS
      intro a w hF hS
      refine ls <| q1 hF rfl (e_asg hF rfl) fun a hF => ?_
      refine re <| ?_
      refine tn <| ?_
      refine wp_ret <| br <| tr <| ?_
      obtain rfl := Option.some.inj hm
      exact r1 hF Tryd.results39 rfl ⟨rfl, hS.keep⟩
    ·
      replace hm := itp_f hm hb7
      refine tn <| cfv hF rfl hb7 <| wp_skip <| ?_
      refine bn <| tn <| th <| ?_
      refine rg <| ?_
      refine ls <| q1 hF rfl (e_fa hF fa46_1 rfl) fun a hF => ?_
      refine ls <| q1 hF rfl (e_ld hF Tryd.isAgg3 rfl ((St.ld hS).cellB (.head _) rfl)) fun a hF => ?_
      refine ls <| q1 hF rfl (e_neq hF rfl rfl) fun a hF => ?_
      refine ls <| q1 hF rfl (e_move hF rfl) fun a hF => ?_
      refine grp (N := 42) (Fk := [(2, .pointer (some ⟨b5, 0, none⟩)), (36, .bool ((decide (p1.N ≠ 0)) || (decide (p1.Kind < 1))))]) (b := (decide (p1.N ≠ 0))) 4 hS ?_ ?_ ?_
      ·
        intro hb key
        replace hF := Fr.as hF (t := 32) rfl (congrArg Value.bool hb)
        refine ls <| gn hF rfl rfl rfl rfl fun a hF => ?_
        refine ls <| gn hF rfl rfl rfl rfl fun a hF => ?_
        refine ls <| gn hF rfl rfl rfl rfl fun a hF => ?_
        refine ls <| q1 hF rfl (e_as (v' := .bool ((decide (p1.N ≠ 0)) || (decide (p1.Kind < 1)))) (e_pickT hF rfl rfl) (by rw [hb]; rfl)) fun a hF => ?_
        exact key _ _ (hF.has ⟨rfl, rfl, trivial⟩) hS
      ·
        intro hb key
        replace hF := Fr.as hF (t := 32) rfl (congrArg Value.bool hb)
        refine ls <| gy hF rfl rfl <| q1 hF rfl (e_fa hF fa46_0 rfl) fun a hF => ?_
        refine ls <| gy hF rfl rfl <| q1 hF rfl (e_ld hF Tryd.isAgg3 rfl ((St.ld hS).cellB (.head _) rfl)) fun a hF => ?_
        refine ls <| gy hF rfl rfl <| q1 hF rfl (e_lss hF rfl rfl) fun a hF => ?_
        refine ls <| q1 hF rfl (e_as (v' := .bool ((decide (p1.N ≠ 0)) || (decide (p1.Kind < 1)))) (e_pickF hF rfl rfl) (by rw [hb]; rfl)) fun a hF => ?_
        exact key _ _ (hF.has ⟨rfl, rfl, trivial⟩) hS
      intro a w hF hS
      refine ls <| q1 hF rfl (e_move hF rfl) fun a hF => ?_
      refine grp (N := 42) (Fk := [(41, .bool (((decide (p1.N ≠ 0)) || (decide (p1.Kind < 1))) || (decide (16 ≤ p1.Kind))))]) (b := ((decide (p1.N ≠ 0)) || (decide (p1.Kind < 1)))) 4 hS ?_ ?_ ?_
      ·
        intro hb key
        replace hF := Fr.as hF (t := 37) rfl (congrArg Value.bool hb)
        refine ls <| gn hF rfl rfl rfl rfl fun a hF => ?_
        refine ls <| gn hF rfl rfl rfl rfl fun a hF => ?_
        refine ls <| gn hF rfl rfl rfl rfl fun a hF => ?_
        refine ls <| q1 hF rfl (e_as (v' := .bool (((decide (p1.N ≠ 0)) || (decide (p1.Kind < 1))) || (decide (16 ≤ p1.Kind)))) (e_pickT hF rfl rfl) (by rw [hb]; rfl)) fun a hF => ?_
        exact key _ _ (hF.has ⟨rfl, trivial⟩) hS
      ·
        intro hb key
        replace hF := Fr.as hF (t := 37) rfl (congrArg Value.bool hb)
        refine ls <| gy hF rfl rfl <| q1 hF rfl (e_fa hF fa46_0 rfl) fun a hF => ?_
        refine ls <| gy hF rfl rfl <| q1 hF rfl (e_ld hF Tryd.isAgg3 rfl ((St.ld hS).cellB (.head _) rfl)) fun a hF => ?_
        refine ls <| gy hF rfl rfl <| q1 hF rfl (e_geq hF rfl rfl) fun a hF => ?_
        refine ls <| q1 hF rfl (e_as (v' := .bool (((decide (p1.N ≠ 0)) || (decide (p1.Kind < 1))) || (decide (16 ≤ p1.Kind)))) (e_pickF hF rfl rfl) (by rw [hb]; rfl)) fun a hF => ?_
        exact key _ _ (hF.has ⟨rfl, trivial⟩) hS
      intro a w hF hS
      refine ls <| q1 hF rfl (e_asg hF rfl) fun a hF => ?_
      refine re <| ?_
      refine tn <| ?_
      refine wp_ret <| ?_
      obtain rfl := Option.some.inj hm
      exact r1 hF Tryd.results39 rfl ⟨rfl, hS.keep⟩

set_option maxRecDepth 100000 in
theorem slices_IndexFunc_api_Op_api_Op__Right_1_c {N : Nat} {w0 : World} {H : PH} (hH : H.le w0) {oa2 : Option Addr} {cap3 : Nat} {p1 : (List api_Op)} (hc4 : p1.length ≤ cap3) (hr5 : SR H oa2 p1) {y7 : Int} {b6 : Nat} (hb8 : H b6 = some (.cells [.int .i64 y7].toArray 3 (0, 0))) {r : Int} (hm : slices_IndexFunc_api_Op_api_Op__Right_1 N p1 y7 = some r) : Tot Tryd.prog 60 #[.slice oa2 p1.length cap3, .func (.func 39) #[] #[.pointer (some ⟨b6, 0, none⟩)]] w0 (fun v w' => v = .int .i64 r ∧ Keep Nil w0 w') := by
  unfold slices_IndexFunc_api_Op_api_Op__Right_1 at hm
  refine fn0 (args := [.slice oa2 p1.length cap3, .func (.func 39) #[] #[.pointer (some ⟨b6, 0, none⟩)]]) (F := [(0, .slice oa2 p1.length cap3), (1, .func (.func 39) #[] #[.pointer (some ⟨b6, 0, none⟩)])]) Tryd.func60 rfl Tryd.ntmps60 rfl rfl fun a hF => ?_
  have hS : St w0 Nil [H] [] w0 := start1 hH
  refine th <| ?_
  refine rg <| ?_
  refine ls <| q1 hF rfl (e_asg hF rfl) fun a hF => ?_
  refine re <| ?_
  refine tn <| th <| th <| ?_
  refine rg <| ?_
  refine ls <| q1 hF rfl (e_move hF rfl) fun a hF => ?_
  refine ls <| q1 hF rfl (e_lenL (α := api_Op) (xs := p1) hF Tryd.runUnderlying26 rfl) fun a hF => ?_
  refine ls <| q1 hF rfl (e_move hF rfl) fun a hF => ?_
  refine re <| ?_
  refine tn <| midK (fun a w => ∃ (HA1 : PH), slices_IndexFunc_api_Op_api_Op__Right_1_j1 = some r ∧ Ext w0 H HA1 ∧ Fr 19 [] a ∧ St w0 Nil [HA1] [] w) ?_ ?_
  ·
    refine wp_block <| lp (α := Nat × Int) (fun (gh : Nat × Int) a w => match gh with | (nn2, vB6) => ∃ (HB1 : PH) (oaB2 : Option Addr) (capB3 : Nat), (slices_IndexFunc_api_Op_api_Op__Right_1_l2 N slices_IndexFunc_api_Op_api_Op__Right_1_j1 p1 y7) nn2 vB6 = some r ∧ Ext w0 H HB1 ∧ Fr 19 [(0, .slice oaB2 p1.length capB3), (1, .func (.func 39) #[] #[.pointer (some ⟨b6, 0, none⟩)]), (7, .int .i64 (p1.length : Int)), (8, .int .i64 vB6)] a ∧ St w0 Nil [HB1] [] w ∧ p1.length ≤ capB3 ∧ SR HB1 oaB2 p1) (fun gh => gh.1) (N, 0) ⟨H, oa2, cap3, hm, (Ext.refl _ _), hF.has ⟨rfl, rfl, rfl, rfl, trivial⟩, hS, hc4, hr5⟩ ?_
    clear hm hF hS
    rintro ⟨nn2, vB6⟩ a w ⟨HB1, oaB2, capB3, hm, hxHB1, hF, hS, hcB4, hrB5⟩
    obtain _ | nn2 := nn2
    · simp [slices_IndexFunc_api_Op_api_Op__Right_1_l2] at hm
    rw [slices_IndexFunc_api_Op_api_Op__Right_1_l2] at hm
    refine th <| ?_
    refine rg <| ?_
    refine ls <| q1 hF rfl (e_lss hF rfl rfl) fun a hF => ?_
    refine re <| ?_
    rcases bdich (decide (vB6 < (p1.length : Int))) with hb9 | hb9
    ·
      replace hm := itp_t hm hb9
      refine tn <| th <| ctv hF rfl hb9 <| wp_skip <| ?_
      refine tn <| th <| wp_block <| th <| ?_
      refine rg <| ?_
      refine ls <| q1 hF rfl (e_move hF rfl) fun a hF => ?_
      refine ls <| q1 hF rfl (e_asg hF rfl) fun a hF => ?_
      refine re <| ?_
      refine tn <| th <| ?_
      replace hm := bind_some hm
      obtain ⟨x10, h11, hm⟩ := hm
      obtain ⟨c12, g13, hl14⟩ := SR.get hrB5 h11
      obtain rfl := api_Op_open g13
      replace hm := bind_some hm
      obtain ⟨r15, h16, hm⟩ := hm
      refine rg <| ?_
      refine ls <| q1 hF rfl (e_move hF rfl) fun a hF => ?_
      refine ls <| q1 hF rfl (e_move hF rfl) fun a hF => ?_
      refine ls <| q1 hF rfl (e_move hF rfl) fun a hF => ?_
      refine ls <| q1 hF rfl (e_iaI hF Tryd.runUnderlying26 Tryd.sizeOf46 rfl rfl h11 (SR.oaI hrB5 (by decide) h11)) fun a hF => ?_
      refine ls <| q1 hF rfl (e_ldA hF Tryd.isAgg46 Tryd.sizeOf46 rfl rfl (fun j v hj => PH.le.cell (Lds.le (St.ld hS)) (hl14 j v hj))) fun a hF => ?_
      refine ls <| k1 (vs := [.agg #[.int .i64 x10.Kind, .int .i64 x10.N]]) (caps := [.pointer (some ⟨b6, 0, none⟩)]) hF rfl rfl Tryd.call39 (code_Right_1_c (hp_le _) (St.up hS _ _ (hxHB1.sub _ _ hb8)) h16) ⟨rfl, trivial⟩ rfl (fun v w a hR hF => ?_)
      obtain ⟨rfl, hk⟩ := hR
      replace hS := hS.pass hk
      clear hk
      refine re <| ?_
      rcases bdich r15 with hb17 | hb17
      ·
        replace hm := ite_t hm hb17
        refine tn <| ctv hF rfl hb17 <| th <| ?_
        refine rg <| ?_
        refine ls <| q1 hF rfl (e_move hF rfl) fun a hF => ?_
        refine ls <| q1 hF rfl (e_asg hF rfl) fun a hF => ?_
        refine re <| ?_
        refine tn <| ?_
        refine wp_ret <| br <| tr <| tr <| br <| tr <| ?_
        obtain rfl := Option.some.inj hm
        exact r1 hF Tryd.results60 rfl ⟨rfl, hS.keep⟩
      ·
        replace hm := ite_f hm hb17
        refine tn <| cfv hF rfl hb17 <| wp_skip <| ?_
        refine bn <| tn <| ?_
        refine rg <| ?_
        refine ls <| q1 hF rfl (e_add hF rfl rfl) fun a hF => ?_
        refine ls <| q1 hF rfl (e_move hF rfl) fun a hF => ?_
        refine re <| ?_
        refine tn <| ?_
        exact ⟨(nn2, (IntKind.i64.wrap (vB6 + 1))), ⟨HB1, oaB2, capB3, hm, hxHB1, hF.has ⟨rfl, rfl, rfl, rfl, trivial⟩, hS, hcB4, hrB5⟩, Nat.lt_succ_self _⟩
    ·
      replace hm := itp_f hm hb9
      refine tn <| th <| cfv hF rfl hb9 <| ?_
      refine wp_exit <| tx <| tx <| bx <| ?_
      refine tn <| ?_
      exact ⟨HB1, hm, hxHB1, hF.has trivial, hS⟩
  clear hm hF hS
  rintro a w ⟨HA1, hm, hxHA1, hF, hS⟩
  unfold slices_IndexFunc_api_Op_api_Op__Right_1_j1 at hm
  refine th <| ?_
  refine rg <| ?_
  refine ls <| q1 hF rfl (e_asg hF rfl) fun a hF => ?_
  refine re <| ?_
  refine tn <| ?_
  refine wp_ret <| ?_
  obtain rfl := Option.some.inj hm
  exact r1 hF Tryd.results60 rfl ⟨rfl, hS.keep⟩

set_option maxRecDepth 100000 in
theorem slices_ContainsFunc_api_Op_api_Op__Right_1_c {N : Nat} {w0 : World} {H : PH} (hH : H.le w0) {oa2 : Option Addr} {cap3 : Nat} {p1 : (List api_Op)} (hc4 : p1.length ≤ cap3) (hr5 : SR H oa2 p1) {y7 : Int} {b6 : Nat} (hb8 : H b6 = some (.cells [.int .i64 y7].toArray 3 (0, 0))) {r : Bool} (hm : slices_ContainsFunc_api_Op_api_Op__Right_1 N p1 y7 = some r) : Tot Tryd.prog 41 #[.slice oa2 p1.length cap3, .func (.func 39) #[] #[.pointer (some ⟨b6, 0, none⟩)]] w0 (fun v w' => v = .bool r ∧ Keep Nil w0 w') := by
  unfold slices_ContainsFunc_api_Op_api_Op__Right_1 at hm
  refine fn0 (args := [.slice oa2 p1.length cap3, .func (.func 39) #[] #[.pointer (some ⟨b6, 0, none⟩)]]) (F := [(0, .slice oa2 p1.length cap3), (1, .func (.func 39) #[] #[.pointer (some ⟨b6, 0, none⟩)])]) Tryd.func41 rfl Tryd.ntmps41 rfl rfl fun a hF => ?_
  have hS : St w0 Nil [H] [] w0 := start1 hH
  refine th <| ?_
  refine rg <| ?_
  refine ls <| q1 hF rfl (e_asg hF rfl) fun a hF => ?_
  refine re <| ?_
  refine tn <| th <| ?_
  replace hm := bind_some hm
  obtain ⟨r9, h10, hm⟩ := hm
  refine rg <| ?_
  refine ls <| q1 hF rfl (e_move hF rfl) fun a hF => ?_
  refine ls <| q1 hF rfl (e_move hF rfl) fun a hF => ?_
  refine ls <| c1 hF rfl Tryd.call60 (slices_IndexFunc_api_Op_api_Op__Right_1_c (hp_le _) hc4 (St.srH hS hr5) (St.up hS _ _ hb8) h10) ⟨rfl, rfl, trivial⟩ (fun v w a hR hF => ?_)
  obtain ⟨rfl, hk⟩ := hR
  replace hS := hS.pass hk
  clear hk
  refine ls <| q1 hF rfl (e_geq hF rfl rfl) fun a hF => ?_
  refine ls <| q1 hF rfl (e_asg hF rfl) fun a hF => ?_
  refine re <| ?_
  refine tn <| ?_
  refine wp_ret <| ?_
  obtain rfl := Option.some.inj hm
  exact r1 hF Tryd.results41 rfl ⟨rfl, hS.keep⟩

set_option maxRecDepth 100000 in
theorem code_Right_c {N : Nat} {w0 : World} {H : PH} (hH : H.le w0) {oa2 : Option Addr} {cap3 : Nat} {p1 : (List api_Op)} (hc4 : p1.length ≤ cap3) (hr5 : SR H oa2 p1) {p6 : Int} {r : Bool} (hm : code_Right N p1 p6 = some r) : Tot Tryd.prog 19 #[.slice oa2 p1.length cap3, .int .i64 p6] w0 (fun v w' => v = .bool r ∧ Keep Nil w0 w') := by
  unfold code_Right at hm
  refine fn0 (args := [.slice oa2 p1.length cap3, .int .i64 p6]) (F := [(0, .slice oa2 p1.length cap3), (1, .int .i64 p6)]) Tryd.func19 rfl Tryd.ntmps19 rfl rfl fun a hF => ?_
  have hS : St w0 Nil [H] [] w0 := start1 hH
  refine th <| ?_
  refine rg <| ?_
  refine ls <| a_box (cs := [.int .i64 p6].toArray) hF rfl hS rfl rfl fun b7 w a hS hF => ?_
  refine ls <| q1 hF rfl (e_asg hF rfl) fun a hF => ?_
  refine re <| ?_
  refine tn <| th <| ?_
  refine rg <| ?_
  refine ls <| q1 hF rfl (e_mkf (vs := [.pointer (some ⟨b7, 0, none⟩)]) hF ⟨rfl, trivial⟩) fun a hF => ?_
  refine ls <| q1 hF rfl (e_asg hF rfl) fun a hF => ?_
  refine re <| ?_
  refine tn <| th <| ?_
  replace hm := bind_some hm
  obtain ⟨r8, h9, hm⟩ := hm
  refine rg <| ?_
  refine ls <| q1 hF rfl (e_move hF rfl) fun a hF => ?_
  refine ls <| c1 hF rfl Tryd.call40 (code_heights_c (hp_le _) hc4 (St.srH hS hr5) h9) ⟨rfl, trivial⟩ (fun v w a hR hF => ?_)
  obtain ⟨rfl, hk⟩ := hR
  replace hS := hS.pass hk
  clear hk
  refine ls <| q1 hF rfl (e_move hF rfl) fun a hF => ?_
  refine ls <| q1 hF rfl (e_ext hF rfl rfl) fun a hF => ?_
  refine ls <| q1 hF rfl (e_ext hF rfl rfl) fun a hF => ?_
  refine ls <| q1 hF rfl (e_ext hF rfl rfl) fun a hF => ?_
  refine ls <| q1 hF rfl (e_asg hF rfl) fun a hF => ?_
  refine ls <| q1 hF rfl (e_asg hF rfl) fun a hF => ?_
  refine ls <| q1 hF rfl (e_asg hF rfl) fun a hF => ?_
  refine re <| ?_
  refine tn <| th <| ?_
  rcases bdich (((decide ((p1.length : Int) ≤ 40)) && r8.2.2) && (decide (r8.1 = 1))) with hb10 | hb10
  ·
    replace hm := ite_t hm hb10
    replace hm := bind_some hm
    obtain ⟨r11, h12, hm⟩ := hm
    refine rg <| ?_
    refine ls <| q1 hF rfl (e_move hF rfl) fun a hF => ?_
    refine ls <| q1 hF rfl (e_lenL (α := api_Op) (xs := p1) hF Tryd.runUnderlying26 rfl) fun a hF => ?_
    refine ls <| q1 hF rfl (e_leq hF rfl rfl) fun a hF => ?_
    refine ls <| q1 hF rfl (e_move hF rfl) fun a hF => ?_
    refine grp (N := 32) (Fk := [(0, .slice oa2 p1.length cap3), (5, .func (.func 39) #[] #[.pointer (some ⟨b7, 0, none⟩)]), (6, .int .i64 r8.1), (21, .bool ((decide ((p1.length : Int) ≤ 40)) && r8.2.2))]) (b := (decide ((p1.length : Int) ≤ 40))) 2 hS ?_ ?_ ?_
    ·
      intro hb key
      replace hF := Fr.as hF (t := 19) rfl (congrArg Value.bool hb)
      refine ls <| gy hF rfl rfl <| q1 hF rfl (e_move hF rfl) fun a hF => ?_
      refine ls <| q1 hF rfl (e_as (v' := .bool ((decide ((p1.length : Int) ≤ 40)) && r8.2.2)) (e_pickT hF rfl rfl) (by rw [hb]; rfl)) fun a hF => ?_
      exact key _ _ (hF.has ⟨rfl, rfl, rfl, rfl, trivial⟩) hS
    ·
      intro hb key
      replace hF := Fr.as hF (t := 19) rfl (congrArg Value.bool hb)
      refine ls <| gn hF rfl rfl rfl rfl fun a hF => ?_
      refine ls <| q1 hF rfl (e_as (v' := .bool ((decide ((p1.length : Int) ≤ 40)) && r8.2.2)) (e_pickF hF rfl rfl) (by rw [hb]; rfl)) fun a hF => ?_
      exact key _ _ (hF.has ⟨rfl, rfl, rfl, rfl, trivial⟩) hS
    intro a w hF hS
    refine ls <| q1 hF rfl (e_move hF rfl) fun a hF => ?_
    refine grp (N := 32) (Fk := [(0, .slice oa2 p1.length cap3), (5, .func (.func 39) #[] #[.pointer (some ⟨b7, 0, none⟩)]), (25, .bool (((decide ((p1.length : Int) ≤ 40)) && r8.2.2) && (decide (r8.1 = 1))))]) (b := ((decide ((p1.length : Int) ≤ 40)) && r8.2.2)) 3 hS ?_ ?_ ?_
    ·
      intro hb key
      replace hF := Fr.as hF (t := 22) rfl (congrArg Value.bool hb)
      refine ls <| gy hF rfl rfl <| q1 hF rfl (e_move hF rfl) fun a hF => ?_
      refine ls <| gy hF rfl rfl <| q1 hF rfl (e_eql hF rfl rfl) fun a hF => ?_
      refine ls <| q1 hF rfl (e_as (v' := .bool (((decide ((p1.length : Int) ≤ 40)) && r8.2.2) && (decide (r8.1 = 1)))) (e_pickT hF rfl rfl) (by rw [hb]; rfl)) fun a hF => ?_
      exact key _ _ (hF.has ⟨rfl, rfl, rfl, trivial⟩) hS
    ·
      intro hb key
      replace hF := Fr.as hF (t := 22) rfl (congrArg Value.bool hb)
      refine ls <| gn hF rfl rfl rfl rfl fun a hF => ?_
      refine ls <| gn hF rfl rfl rfl rfl fun a hF => ?_
      refine ls <| q1 hF rfl (e_as (v' := .bool (((decide ((p1.length : Int) ≤ 40)) && r8.2.2) && (decide (r8.1 = 1)))) (e_pickF hF rfl rfl) (by rw [hb]; rfl)) fun a hF => ?_
      exact key _ _ (hF.has ⟨rfl, rfl, rfl, trivial⟩) hS
    intro a w hF hS
    refine ls <| q1 hF rfl (e_as (e_move hF rfl) (congrArg Value.bool hb10)) fun a hF => ?_
    refine ls <| gy hF rfl rfl <| q1 hF rfl (e_move hF rfl) fun a hF => ?_
    refine ls <| gy hF rfl rfl <| q1 hF rfl (e_move hF rfl) fun a hF => ?_
    refine ls <| gy hF rfl rfl <| c1 hF rfl Tryd.call41 (slices_ContainsFunc_api_Op_api_Op__Right_1_c (hp_le _) hc4 (St.srH hS hr5) (St.blkO hS (.head _)) h12) ⟨rfl, rfl, trivial⟩ (fun v w a hR hF => ?_)
    obtain ⟨rfl, hk⟩ := hR
    replace hS := hS.pass hk
    clear hk
    refine ls <| gy hF rfl rfl <| q1 hF rfl (e_not hF rfl) fun a hF => ?_
    refine ls <| q1 hF rfl (e_pickT hF rfl rfl) fun a hF => ?_
    refine ls <| q1 hF rfl (e_asg hF rfl) fun a hF => ?_
    refine re <| ?_
    refine tn <| ?_
    refine wp_ret <| ?_
    obtain rfl := Option.some.inj hm
    exact r1 hF Tryd.results19 rfl ⟨rfl, hS.keep⟩
  ·
    replace hm := ite_f hm hb10
    refine rg <| ?_
    refine ls <| q1 hF rfl (e_move hF rfl) fun a hF => ?_
    refine ls <| q1 hF rfl (e_lenL (α := api_Op) (xs := p1) hF Tryd.runUnderlying26 rfl) fun a hF => ?_
    refine ls <| q1 hF rfl (e_leq hF rfl rfl) fun a hF => ?_
    refine ls <| q1 hF rfl (e_move hF rfl) fun a hF => ?_
    refine grp (N := 32) (Fk := [(0, .slice oa2 p1.length cap3), (5, .func (.func 39) #[] #[.pointer (some ⟨b7, 0, none⟩)]), (6, .int .i64 r8.1), (21, .bool ((decide ((p1.length : Int) ≤ 40)) && r8.2.2))]) (b := (decide ((p1.length : Int) ≤ 40))) 2 hS ?_ ?_ ?_
    ·
      intro hb key
      replace hF := Fr.as hF (t := 19) rfl (congrArg Value.bool hb)
      refine ls <| gy hF rfl rfl <| q1 hF rfl (e_move hF rfl) fun a hF => ?_
      refine ls <| q1 hF rfl (e_as (v' := .bool ((decide ((p1.length : Int) ≤ 40)) && r8.2.2)) (e_pickT hF rfl rfl) (by rw [hb]; rfl)) fun a hF => ?_
      exact key _ _ (hF.has ⟨rfl, rfl, rfl, rfl, trivial⟩) hS
    ·
      intro hb key
      replace hF := Fr.as hF (t := 19) rfl (congrArg Value.bool hb)
      refine ls <| gn hF rfl rfl rfl rfl fun a hF => ?_
      refine ls <| q1 hF rfl (e_as (v' := .bool ((decide ((p1.length : Int) ≤ 40)) && r8.2.2)) (e_pickF hF rfl rfl) (by rw [hb]; rfl)) fun a hF => ?_
      exact key _ _ (hF.has ⟨rfl, rfl, rfl, rfl, trivial⟩) hS
    intro a w hF hS
    refine ls <| q1 hF rfl (e_move hF rfl) fun a hF => ?_
    refine grp (N := 32) (Fk := [(0, .slice oa2 p1.length cap3), (5, .func (.func 39) #[] #[.pointer (some ⟨b7, 0, none⟩)]), (25, .bool (((decide ((p1.length : Int) ≤ 40)) && r8.2.2) && (decide (r8.1 = 1))))]) (b := ((decide ((p1.length : Int) ≤ 40)) && r8.2.2)) 3 hS ?_ ?_ ?_
    ·
      intro hb key
      replace hF := Fr.as hF (t := 22) rfl (congrArg Value.bool hb)
      refine ls <| gy hF rfl rfl <| q1 hF rfl (e_move hF rfl) fun a hF => ?_
      refine ls <| gy hF rfl rfl <| q1 hF rfl (e_eql hF rfl rfl) fun a hF => ?_
      refine ls <| q1 hF rfl (e_as (v' := .bool (((decide ((p1.length : Int) ≤ 40)) && r8.2.2) && (decide (r8.1 = 1)))) (e_pickT hF rfl rfl) (by rw [hb]; rfl)) fun a hF => ?_
      exact key _ _ (hF.has ⟨rfl, rfl, rfl, trivial⟩) hS
    ·
      intro hb key
      replace hF := Fr.as hF (t := 22) rfl (congrArg Value.bool hb)
      refine ls <| gn hF rfl rfl rfl rfl fun a hF => ?_
      refine ls <| gn hF rfl rfl rfl rfl fun a hF => ?_
      refine ls <| q1 hF rfl (e_as (v' := .bool (((decide ((p1.length : Int) ≤ 40)) && r8.2.2) && (decide (r8.1 = 1)))) (e_pickF hF rfl rfl) (by rw [hb]; rfl)) fun a hF => ?_
      exact key _ _ (hF.has ⟨rfl, rfl, rfl, trivial⟩) hS
    intro a w hF hS
    refine ls <| q1 hF rfl (e_as (e_move hF rfl) (congrArg Value.bool hb10)) fun a hF => ?_
    refine ls <| gn hF rfl rfl rfl rfl fun a hF => ?_
    refine ls <| gn hF rfl rfl rfl rfl fun a hF => ?_
    refine ls <| gn hF rfl rfl rfl rfl fun a hF => ?_
    refine ls <| gn hF rfl rfl rfl rfl fun a hF => ?_
    refine ls <| q1 hF rfl (e_pickF hF rfl rfl) fun a hF => ?_
    refine ls <| q1 hF rfl (e_asg hF rfl) fun a hF => ?_
    refine re <| ?_
    refine tn <| ?_
    refine wp_ret <| ?_
    obtain rfl := Option.some.inj hm
    exact r1 hF Tryd.results19 rfl ⟨rfl, hS.keep⟩

set_option maxRecDepth 100000 in
theorem code_list_put__m0_61_0_o_c {N : Nat} {w0 : World} {H : PH} (hH : H.le w0) {b2 : Nat} {p1 : code_pile} {oa3 : Option Addr} {cap4 : Nat} {vs5 : List Value} (hv6 : Rows H vs5 p1.list.l) {p8 : Int} (hO : (sepA [blk b2 (.cells [.slice oa3 p1.list.l.length cap4, .int .i64 p1.high].toArray 61 (0, 0)), sla 3 1 oa3 p1.list.l.length cap4 vs5]).ok (hp w0)) (hD : ∀ b, (sepA [blk b2 (.cells [.slice oa3 p1.list.l.length cap4, .int .i64 p1.high].toArray 61 (0, 0)), sla 3 1 oa3 p1.list.l.length cap4 vs5]).fp b → H b = none) {r : code_pile} (hm : code_list_put__m0_61_0_o N p1 p8 = some r) : Tot Tryd.prog 56 #[.pointer (some ⟨b2, 0, none⟩), .int .i64 p8] w0 (fun v w' => ∃ (oa1m : Option Addr) (cap1m : Nat) (vs1m : List Value), v = .tuple #[] ∧ (∀ h, Rows h vs1m r.list.l) ∧ Mut w0 (sepA [blk b2 (.cells [.slice oa3 p1.list.l.length cap4, .int .i64 p1.high].toArray 61 (0, 0)), sla 3 1 oa3 p1.list.l.length cap4 vs5]) (sepA [blk b2 (.cells [.slice oa1m r.list.l.length cap1m, .int .i64 r.high].toArray 61 (0, 0)), sla 3 1 oa1m r.list.l.length cap1m vs1m]) w') := by
  unfold code_list_put__m0_61_0_o at hm
  refine fn0 (args := [.pointer (some ⟨b2, 0, none⟩), .int .i64 p8]) (F := [(0, .pointer (some ⟨b2, 0, none⟩)), (1, .int .i64 p8)]) Tryd.func56 rfl Tryd.ntmps56 rfl rfl fun a hF => ?_
  have hS := startM hH hO hD
  replace hm := bind_some hm
  obtain ⟨l12, h13, hm⟩ := hm
  refine rg <| ?_
  refine ls <| q1 hF rfl (e_move hF rfl) fun a hF => ?_
  refine ls <| q1 hF rfl (e_move hF rfl) fun a hF => ?_
  refine ls <| q1 hF rfl (e_nilp hF rfl) fun a hF => ?_
  refine ls <| q1 hF rfl (e_fa hF fa59_0 rfl) fun a hF => ?_
  refine ls <| q1 hF rfl (e_ld hF Tryd.isAgg33 rfl ((St.ld hS).cellB (.head _) rfl)) fun a hF => ?_
  refine ls <| q1 hF rfl (e_move hF rfl) fun a hF => ?_
  refine ls <| a_bsl (e := 3) (sz := 1) [.int .i64 p8] hF rfl hS rfl rfl rfl (fun w => by kernel_rfl) fun b10 w a hS hF => ?_
  have hv9 : Rows (α := Int) H [.int .i64 p8] ([p8] : List Int) := (.cons (c := [.int .i64 p8]) rfl .nil)
  refine ls <| m_app (α := Int) (xs := p1.list.l) (ys := ([p8] : List Int)) hF rfl hS Tryd.underlying33 info3 rfl (by decide) rfl rfl rfl (.tail _ (.tail _ (.head _))) hv6 (hS.rdO (.head _)) hv9 h13 fun oa14 cap15 vs16 w a hv17 hU hF => ?_
  replace hS := hU _ (.tail (.tail .head))
  clear hU
  replace hS := hS.drop .head
  refine ls <| q1 hF rfl (e_nilp hF rfl) fun a hF => ?_
  refine ls <| q1 hF rfl (e_fa hF fa59_0 rfl) fun a hF => ?_
  refine ls <| s_blk hF hS Tryd.sizeOf33 rfl rfl rfl rfl .head .zero fun w hS => ?_
  refine re <| ?_
  obtain rfl := Option.some.inj hm
  exact r0n hF Tryd.results56 ⟨oa14, cap15, vs16, rfl, (fun _ => Rows.ind hv17), (hS.pickL (.cons .head (.cons .head .nil))).endMut⟩

set_option maxRecDepth 100000 in
theorem code_pile_up__m0_61_o_c {N : Nat} {w0 : World} {H : PH} (hH : H.le w0) {b2 : Nat} {p1 : code_pile} {oa3 : Option Addr} {cap4 : Nat} {vs5 : List Value} (hv6 : Rows H vs5 p1.list.l) {p8 : Int} (hO : (sepA [blk b2 (.cells [.slice oa3 p1.list.l.length cap4, .int .i64 p1.high].toArray 61 (0, 0)), sla 3 1 oa3 p1.list.l.length cap4 vs5]).ok (hp w0)) (hD : ∀ b, (sepA [blk b2 (.cells [.slice oa3 p1.list.l.length cap4, .int .i64 p1.high].toArray 61 (0, 0)), sla 3 1 oa3 p1.list.l.length cap4 vs5]).fp b → H b = none) {r : code_pile} (hm : code_pile_up__m0_61_o N p1 p8 = some r) : Tot Tryd.prog 35 #[.pointer (some ⟨b2, 0, none⟩), .int .i64 p8] w0 (fun v w' => ∃ (oa1m : Option Addr) (cap1m : Nat) (vs1m : List Value), v = .tuple #[] ∧ (∀ h, Rows h vs1m r.list.l) ∧ Mut w0 (sepA [blk b2 (.cells [.slice oa3 p1.list.l.length cap4, .int .i64 p1.high].toArray 61 (0, 0)), sla 3 1 oa3 p1.list.l.length cap4 vs5]) (sepA [blk b2 (.cells [.slice oa1m r.list.l.length cap1m, .int .i64 r.high].toArray 61 (0, 0)), sla 3 1 oa1m r.list.l.length cap1m vs1m]) w') := by
  unfold code_pile_up__m0_61_o at hm
  refine fn0 (args := [.pointer (some ⟨b2, 0, none⟩), .int .i64 p8]) (F := [(0, .pointer (some ⟨b2, 0, none⟩)), (1, .int .i64 p8)]) Tryd.func35 rfl Tryd.ntmps35 rfl rfl fun a hF => ?_
  have hS := startM hH hO hD
  refine th <| ?_
  replace hm := bind_some hm
  obtain ⟨r9, h10, hm⟩ := hm
  refine rg <| ?_
  refine ls <| q1 hF rfl (e_move hF rfl) fun a hF => ?_
  refine ls <| q1 hF rfl (e_nilp hF rfl) fun a hF => ?_
  refine ls <| q1 hF rfl (e_fa hF fa61_0 rfl) fun a hF => ?_
  refine ls <| q1 hF rfl (e_move hF rfl) fun a hF => ?_
  replace hS := hS.pickL (.cons .head (.cons .head .nil))
  replace hS := St.sep [blk b2 (.cells [.slice oa3 p1.list.l.length cap4, .int .i64 p1.high].toArray 61 (0, 0)), sla 3 1 oa3 p1.list.l.length cap4 vs5] hS
  refine ls <| c1 hF rfl Tryd.call56 (code_list_put__m0_61_0_o_c (St.le hS) (p1 := p1) (b2 := b2) (oa3 := oa3) (cap4 := cap4) (vs5 := vs5) hv6 (St.sepOk hS) (St.sepDis hS) h10) ⟨rfl, rfl, trivial⟩ (fun v w a hR hF => ?_)
  obtain ⟨oa11, cap12, vs13, rfl, hv14, hk⟩ := hR
  replace hS := (hS.mut hk .head).unsep
  clear hk
  replace hv14 := hv14 H
  refine re <| ?_
  refine tn <| ?_
  refine rp 12 3 hS wide (by kernel_rfl) fun w hS => ?_
  refine y1 (St.ld hS) hF rfl rfl (fun _ _ _ h => h) (fun w hl => (e_move hF rfl)) fun a hF => ?_
  refine y1 (St.ld hS) hF rfl rfl (fun _ _ _ h => h) (fun w hl => (e_move hF rfl)) fun a hF => ?_
  refine y1 (St.ld hS) hF rfl rfl (fun _ _ _ h => h) (fun w hl => (e_nilp hF rfl)) fun a hF => ?_
  refine y1 (St.ld hS) hF rfl rfl (fun _ _ _ h => h) (fun w hl => (e_fa hF fa61_1 rfl)) fun a hF => ?_
  refine y1 (St.ld hS) hF rfl rfl (fun _ _ _ h => h) (fun w hl => (e_ld hF Tryd.isAgg3 rfl (hl.cellB (.head _) rfl))) fun a hF => ?_
  refine y1 (St.ld hS) hF rfl rfl (fun _ _ _ h => h) (fun w hl => (e_move hF rfl)) fun a hF => ?_
  refine y1 (St.ld hS) hF rfl rfl (fun _ _ _ h => h) (fun w hl => (e_nilp hF rfl)) fun a hF => ?_
  refine y1 (St.ld hS) hF rfl rfl (fun _ _ _ h => h) (fun w hl => (e_fa hF fa61_0 rfl)) fun a hF => ?_
  refine y1 (St.ld hS) hF rfl rfl (fun _ _ _ h => h) (fun w hl => (e_fa hF fa59_0 rfl)) fun a hF => ?_
  refine y1 (St.ld hS) hF rfl rfl (fun _ _ _ h => h) (fun w hl => (e_ld hF Tryd.isAgg33 rfl (hl.cellB (.head _) rfl))) fun a hF => ?_
  refine y1 (St.ld hS) hF rfl rfl (fun _ _ _ h => h) (fun w hl => (e_lenL (α := Int) (xs := r9.list.l) hF Tryd.runUnderlying33 rfl)) fun a hF => ?_
  refine y1 (St.ld hS) hF rfl rfl (fun _ _ _ h => h) (fun w hl => (e_max hF rfl rfl)) fun a hF => ?_
  refine yz rfl <| yd (S2 := Lds [H] [sla 3 1 oa11 r9.list.l.length cap12 vs13]) (z := 15) ?_
  refine d1 (i := 12) rfl (by kernel_rfl) (by kernel_rfl) (St.ldsX hS (fun _ _ h => h) (fun _ h => (.tail _ h))) hF rfl (fun _ _ _ h => h) (fun w hl => (e_nilp hF rfl)) fun a hF => ?_
  refine d1 (i := 13) rfl (by kernel_rfl) (by kernel_rfl) (St.ldsX hS (fun _ _ h => h) (fun _ h => (.tail _ h))) hF rfl (fun _ _ _ h => h) (fun w hl => (e_fa hF fa61_1 rfl)) fun a hF => ?_
  refine da1 (i := 14) (by kernel_rfl) ?_
  refine di (i := 14) rfl <| s_blk hF hS Tryd.sizeOf3 rfl rfl rfl rfl .head (.succ .zero) fun w hS => ?_
  refine ⟨fun _ => (St.ldsX hS (fun _ _ h => h) (fun _ h => (.tail _ h))), ?_⟩
  refine de (by kernel_rfl) <| ?_
  obtain rfl := Option.some.inj hm
  exact r0n hF Tryd.results35 ⟨oa11, cap12, vs13, rfl, (fun _ => Rows.ind hv14), (hS.pickL (.cons .head (.cons .head .nil))).endMut⟩

set_option maxRecDepth 100000 in
theorem code_list_take__m0_61_0_o_c {N : Nat} {w0 : World} {H : PH} (hH : H.le w0) {b2 : Nat} {p1 : code_pile} {oa3 : Option Addr} {cap4 : Nat} {vs5 : List Value} (hv6 : Rows H vs5 p1.list.l) (hO : (sepA [blk b2 (.cells [.slice oa3 p1.list.l.length cap4, .int .i64 p1.high].toArray 61 (0, 0)), sla 3 1 oa3 p1.list.l.length cap4 vs5]).ok (hp w0)) (hD : ∀ b, (sepA [blk b2 (.cells [.slice oa3 p1.list.l.length cap4, .int .i64 p1.high].toArray 61 (0, 0)), sla 3 1 oa3 p1.list.l.length cap4 vs5]).fp b → H b = none) {r : (Int × code_pile)} (hm : code_list_take__m0_61_0_o N p1 = some r) : Tot Tryd.prog 37 #[.pointer (some ⟨b2, 0, none⟩)] w0 (fun v w' => ∃ (oa1m : Option Addr) (cap1m : Nat) (vs1m : List Value), v = .int .i64 r.1 ∧ (∀ h, Rows h vs1m r.2.list.l) ∧ Mut w0 (sepA [blk b2 (.cells [.slice oa3 p1.list.l.length cap4, .int .i64 p1.high].toArray 61 (0, 0)), sla 3 1 oa3 p1.list.l.length cap4 vs5]) (sepA [blk b2 (.cells [.slice oa1m r.2.list.l.length cap1m, .int .i64 r.2.high].toArray 61 (0, 0)), sla 3 1 oa1m r.2.list.l.length cap1m vs1m]) w') := by
  unfold code_list_take__m0_61_0_o at hm
  refine fn0 (args := [.pointer (some ⟨b2, 0, none⟩)]) (F := [(0, .pointer (some ⟨b2, 0, none⟩))]) Tryd.func37 rfl Tryd.ntmps37 rfl rfl fun a hF => ?_
  have hS := startM hH hO hD
  refine th <| ?_
  refine rg <| ?_
  refine ls <| q1 hF rfl (e_asg hF rfl) fun a hF => ?_
  refine re <| ?_
  refine tn <| th <| ?_
  replace hm := bind_some hm
  obtain ⟨x8, h9, hm⟩ := hm
  have ho10 := Rd.oaI (hS.rdO (.tail _ (.head _))) hv6 (by decide) h9
  obtain ⟨c11, g12, hl13⟩ := Rows.getI hv6 h9
  obtain rfl : c11 = [.int .i64 x8] := g12
  refine rxS 13 hS wide (by kernel_rfl) fun w hS => ?_
  refine x1 (St.ld hS) hF rfl rfl (fun _ _ _ h => h) (fun w hl => (e_move hF rfl)) fun a hF => ?_
  refine x1 (St.ld hS) hF rfl rfl (fun _ _ _ h => h) (fun w hl => (e_nilp hF rfl)) fun a hF => ?_
  refine x1 (St.ld hS) hF rfl rfl (fun _ _ _ h => h) (fun w hl => (e_fa hF fa59_0 rfl)) fun a hF => ?_
  refine x1 (St.ld hS) hF rfl rfl (fun _ _ _ h => h) (fun w hl => (e_ld hF Tryd.isAgg33 rfl (hl.cellB (.head _) rfl))) fun a hF => ?_
  refine x1 (St.ld hS) hF rfl rfl (fun _ _ _ h => h) (fun w hl => (e_move hF rfl)) fun a hF => ?_
  refine x1 (St.ld hS) hF rfl rfl (fun _ _ _ h => h) (fun w hl => (e_nilp hF rfl)) fun a hF => ?_
  refine x1 (St.ld hS) hF rfl rfl (fun _ _ _ h => h) (fun w hl => (e_fa hF fa59_0 rfl)) fun a hF => ?_
  refine x1 (St.ld hS) hF rfl rfl (fun _ _ _ h => h) (fun w hl => (e_ld hF Tryd.isAgg33 rfl (hl.cellB (.head _) rfl))) fun a hF => ?_
  refine x1 (St.ld hS) hF rfl rfl (fun _ _ _ h => h) (fun w hl => (e_lenL (α := Int) (xs := p1.list.l) hF Tryd.runUnderlying33 rfl)) fun a hF => ?_
  refine x1 (St.ld hS) hF rfl rfl (fun _ _ _ h => h) (fun w hl => (e_sub hF rfl rfl)) fun a hF => ?_
  refine x1 (St.ld hS) hF rfl rfl (fun _ _ _ h => h) (fun w hl => (e_iaI hF Tryd.runUnderlying33 Tryd.sizeOf3 rfl rfl h9 ho10)) fun a hF => ?_
  refine x1 (St.ld hS) hF rfl rfl (fun _ _ _ h => h) (fun w hl => (e_ld hF Tryd.isAgg3 rfl (hl.elO (.tail _ (.head _)) (hl13 0 _ rfl)))) fun a hF => ?_
  refine x1 (St.ld hS) hF rfl rfl (fun _ _ _ h => h) (fun w hl => (e_asg hF rfl)) fun a hF => ?_
  refine xe <| ?_
  refine tn <| th <| ?_
  replace hm := bind_some hm
  obtain ⟨l14, h15, hm⟩ := hm
  have hc16 := St.capO hS (.tail _ (.head _))
  obtain ⟨vs17, hv18, hU⟩ := St.shrink hS hv6 rfl (.tail _ (.head _)) h15
  replace hS := hU _ (.tail .head)
  clear hU
  refine rp 12 3 hS wide (by kernel_rfl) fun w hS => ?_
  refine y1 (St.ld hS) hF rfl rfl (fun _ _ _ h => h) (fun w hl => (e_move hF rfl)) fun a hF => ?_
  refine y1 (St.ld hS) hF rfl rfl (fun _ _ _ h => h) (fun w hl => (e_move hF rfl)) fun a hF => ?_
  refine y1 (St.ld hS) hF rfl rfl (fun _ _ _ h => h) (fun w hl => (e_nilp hF rfl)) fun a hF => ?_
  refine y1 (St.ld hS) hF rfl rfl (fun _ _ _ h => h) (fun w hl => (e_fa hF fa59_0 rfl)) fun a hF => ?_
  refine y1 (St.ld hS) hF rfl rfl (fun _ _ _ h => h) (fun w hl => (e_ld hF Tryd.isAgg33 rfl (hl.cellB (.head _) rfl))) fun a hF => ?_
  refine y1 (St.ld hS) hF rfl rfl (fun _ _ _ h => h) (fun w hl => (e_move hF rfl)) fun a hF => ?_
  refine y1 (St.ld hS) hF rfl rfl (fun _ _ _ h => h) (fun w hl => (e_nilp hF rfl)) fun a hF => ?_
  refine y1 (St.ld hS) hF rfl rfl (fun _ _ _ h => h) (fun w hl => (e_fa hF fa59_0 rfl)) fun a hF => ?_
  refine y1 (St.ld hS) hF rfl rfl (fun _ _ _ h => h) (fun w hl => (e_ld hF Tryd.isAgg33 rfl (hl.cellB (.head _) rfl))) fun a hF => ?_
  refine y1 (St.ld hS) hF rfl rfl (fun _ _ _ h => h) (fun w hl => (e_lenL (α := Int) (xs := p1.list.l) hF Tryd.runUnderlying33 rfl)) fun a hF => ?_
  refine y1 (St.ld hS) hF rfl rfl (fun _ _ _ h => h) (fun w hl => (e_sub hF rfl rfl)) fun a hF => ?_
  refine y1 (St.ld hS) hF rfl rfl (fun _ _ _ h => h) (fun w hl => (e_subL (xs := p1.list.l) (vl := 0) (vh := (IntKind.i64.wrap ((p1.list.l.length : Int) - 1))) hF Tryd.runUnderlying33 Tryd.sizeOf3 rfl hc16 rfl rfl h15 (subOa0 _ _ _) (Nat.sub_zero _))) fun a hF => ?_
  refine yz rfl <| yd (S2 := Lds [H] []) (z := 15) ?_
  refine d1 (i := 12) rfl (by kernel_rfl) (by kernel_rfl) (St.ldsX hS (fun _ _ h => h) (fun _ h => (.tail _ (.tail _ h)))) hF rfl (fun _ _ _ h => h) (fun w hl => (e_nilp hF rfl)) fun a hF => ?_
  refine d1 (i := 13) rfl (by kernel_rfl) (by kernel_rfl) (St.ldsX hS (fun _ _ h => h) (fun _ h => (.tail _ (.tail _ h)))) hF rfl (fun _ _ _ h => h) (fun w hl => (e_fa hF fa59_0 rfl)) fun a hF => ?_
  refine da1 (i := 14) (by kernel_rfl) ?_
  refine di (i := 14) rfl <| s_blk hF hS Tryd.sizeOf33 rfl rfl rfl rfl .head .zero fun w hS => ?_
  refine ⟨fun _ => (St.ldsX hS (fun _ _ h => h) (fun _ h => (.tail _ (.tail _ h)))), ?_⟩
  refine de (by kernel_rfl) <| ?_
  refine tn <| th <| ?_
  refine rg <| ?_
  refine ls <| q1 hF rfl (e_move hF rfl) fun a hF => ?_
  refine ls <| q1 hF rfl (e_asg hF rfl) fun a hF => ?_
  refine re <| ?_
  refine tn <| ?_
  refine wp_ret <| ?_
  obtain rfl := Option.some.inj hm
  exact r1 hF Tryd.results37 rfl ⟨oa3, cap4, vs17, rfl, (fun _ => Rows.ind hv18), (hS.pickL (.cons .head (.cons .head .nil))).endMut⟩

set_option maxRecDepth 100000 in
theorem words_Truth_c {N : Nat} {w0 : World} {H : PH} (hH : H.le w0) {p1 : Int} {r : Bool} (hm : words_Truth N p1 = some r) : Tot Tryd.prog 58 #[.int .i64 p1] w0 (fun v w' => v = .bool r ∧ Keep Nil w0 w') := by
  unfold words_Truth at hm
  refine fn0 (args := [.int .i64 p1]) (F := [(0, .int .i64 p1)]) Tryd.func58 rfl Tryd.ntmps58 rfl rfl fun a hF => ?_
  have hS : St w0 Nil [H] [] w0 := start1 hH
  refine th <| ?_
  refine rg <| ?_
  refine ls <| q1 hF rfl (e_asg hF rfl) fun a hF => ?_
  refine re <| ?_
  refine tn <| th <| ?_
  refine rg <| ?_
  refine ls <| q1 hF rfl (e_move hF rfl) fun a hF => ?_
  refine ls <| q1 hF rfl (e_neq hF rfl rfl) fun a hF => ?_
  refine ls <| q1 hF rfl (e_asg hF rfl) fun a hF => ?_
  refine re <| ?_
  refine tn <| ?_
  refine wp_ret <| ?_
  obtain rfl := Option.some.inj hm
  exact r1 hF Tryd.results58 rfl ⟨rfl, hS.keep⟩

set_option maxRecDepth 100000 in
theorem words_Bool_c {N : Nat} {w0 : World} {H : PH} (hH : H.le w0) {p1 : Bool} {r : Int} (hm : words_Bool N p1 = some r) : Tot Tryd.prog 57 #[.bool p1] w0 (fun v w' => v = .int .i64 r ∧ Keep Nil w0 w') := by
  unfold words_Bool at hm
  refine fn0 (args := [.bool p1]) (F := [(0, .bool p1)]) Tryd.func57 rfl Tryd.ntmps57 rfl rfl fun a hF => ?_
  have hS : St w0 Nil [H] [] w0 := start1 hH
  refine th <| ?_
  refine rg <| ?_
  refine ls <| q1 hF rfl (e_asg hF rfl) fun a hF => ?_
  refine re <| ?_
  refine tn <| th <| th <| ?_
  refine rg <| ?_
  refine ls <| q1 hF rfl (e_move hF rfl) fun a hF => ?_
  refine re <| ?_
  rcases bdich p1 with hb2 | hb2
  ·
    replace hm := ite_t hm hb2
    refine tn <| ctv hF rfl hb2 <| th <| ?_
    refine rg <| ?_
    refine ls <| q1 hF rfl (e_asg hF rfl) fun a hF => ?_
    refine re <| ?_
    refine tn <| ?_
    refine wp_ret <| tr <| ?_
    obtain rfl := Option.some.inj hm
    exact r1 hF Tryd.results57 rfl ⟨rfl, hS.keep⟩
  ·
    replace hm := ite_f hm hb2
    refine tn <| cfv hF rfl hb2 <| wp_skip <| ?_
    refine tn <| th <| ?_
    refine rg <| ?_
    refine ls <| q1 hF rfl (e_asg hF rfl) fun a hF => ?_
    refine re <| ?_
    refine tn <| ?_
    refine wp_ret <| ?_
    obtain rfl := Option.some.inj hm
    exact r1 hF Tryd.results57 rfl ⟨rfl, hS.keep⟩

set_option maxRecDepth 100000 in
theorem words_One_c {N : Nat} {w0 : World} {H : PH} (hH : H.le w0) {p1 : Int} {p2 : Int} {r : (Int × Int)} (hm : words_One N p1 p2 = some r) : Tot Tryd.prog 36 #[.int .i64 p1, .int .i64 p2] w0 (fun v w' => v = .tuple #[.int .i64 r.1, .int .i64 r.2] ∧ Keep Nil w0 w') := by
  unfold words_One at hm
  refine fn0 (args := [.int .i64 p1, .int .i64 p2]) (F := [(0, .int .i64 p1), (1, .int .i64 p2)]) Tryd.func36 rfl Tryd.ntmps36 rfl rfl fun a hF => ?_
  have hS : St w0 Nil [H] [] w0 := start1 hH
  refine th <| ?_
  refine rg <| ?_
  refine ls <| q1 hF rfl (e_asg hF rfl) fun a hF => ?_
  refine ls <| q1 hF rfl (e_asg hF rfl) fun a hF => ?_
  refine re <| ?_
  refine tn <| th <| th <| ?_
  refine rg <| ?_
  refine ls <| q1 hF rfl (e_move hF rfl) fun a hF => ?_
  refine re <| ?_
  refine tn <| wp_block <| th <| ?_
  refine rg <| ?_
  refine ls <| q1 hF rfl (e_eql hF rfl rfl) fun a hF => ?_
  refine ls <| q1 hF rfl (e_asg hF rfl) fun a hF => ?_
  refine re <| ?_
  rcases bdich (decide (p1 = 3)) with hb3 | hb3
  ·
    replace hm := itp_t hm hb3
    refine tn <| ctv hF rfl hb3 <| th <| ?_
    refine rg <| ?_
    refine ls <| q1 hF rfl (e_move hF rfl) fun a hF => ?_
    refine ls <| q1 hF rfl (e_neg hF rfl) fun a hF => ?_
    refine ls <| q1 hF rfl (e_asg hF rfl) fun a hF => ?_
    refine ls <| q1 hF rfl (e_asg hF rfl) fun a hF => ?_
    refine re <| ?_
    refine tn <| ?_
    refine wp_ret <| br <| tr <| ?_
    obtain rfl := Option.some.inj hm
    exact r2 hF Tryd.results36 rfl rfl ⟨rfl, hS.keep⟩
  ·
    replace hm := itp_f hm hb3
    refine tn <| cfv hF rfl hb3 <| th <| ?_
    refine rg <| ?_
    refine ls <| q1 hF rfl (e_eql hF rfl rfl) fun a hF => ?_
    refine ls <| q1 hF rfl (e_asg hF rfl) fun a hF => ?_
    refine re <| ?_
    rcases bdich (decide (p1 = 4)) with hb4 | hb4
    ·
      replace hm := itp_t hm hb4
      refine tn <| ctv hF rfl hb4 <| th <| ?_
      replace hm := bind_some hm
      obtain ⟨r5, h6, hm⟩ := hm
      replace hm := bind_some hm
      obtain ⟨r7, h8, hm⟩ := hm
      refine rg <| ?_
      refine ls <| q1 hF rfl (e_move hF rfl) fun a hF => ?_
      refine ls <| c1 hF rfl Tryd.call58 (words_Truth_c (hp_le _) h6) ⟨rfl, trivial⟩ (fun v w a hR hF => ?_)
      obtain ⟨rfl, hk⟩ := hR
      replace hS := hS.pass hk
      clear hk
      refine ls <| q1 hF rfl (e_not hF rfl) fun a hF => ?_
      refine ls <| c1 hF rfl Tryd.call57 (words_Bool_c (hp_le _) h8) ⟨rfl, trivial⟩ (fun v w a hR hF => ?_)
      obtain ⟨rfl, hk⟩ := hR
      replace hS := hS.pass hk
      clear hk
      refine ls <| q1 hF rfl (e_asg hF rfl) fun a hF => ?_
      refine ls <| q1 hF rfl (e_asg hF rfl) fun a hF => ?_
      refine re <| ?_
      refine tn <| ?_
      refine wp_ret <| br <| tr <| ?_
      obtain rfl := Option.some.inj hm
      exact r2 hF Tryd.results36 rfl rfl ⟨rfl, hS.keep⟩
    ·
      replace hm := itp_f hm hb4
      refine tn <| cfv hF rfl hb4 <| wp_skip <| ?_
      refine bn <| tn <| th <| ?_
      refine rg <| ?_
      refine ls <| q1 hF rfl (e_asg hF rfl) fun a hF => ?_
      refine ls <| q1 hF rfl (e_asg hF rfl) fun a hF => ?_
      refine re <| ?_
      refine tn <| ?_
      refine wp_ret <| ?_
      obtain rfl := Option.some.inj hm
      exact r2 hF Tryd.results36 rfl rfl ⟨rfl, hS.keep⟩

set_option maxRecDepth 100000 in
theorem words_ops_1__ops_7_c {N : Nat} {w0 : World} {H : PH} (hH : H.le w0)  {r : Unit} (hm : words_ops_1__ops_7 N  = some r) : Tot Tryd.prog 71 #[.func (.func 78) #[] #[]] w0 (fun v w' => ∃ (b1 : Nat), v = .func (.func 72) #[] #[.pointer (some ⟨b1, 0, none⟩)] ∧ Fresh w0 (blk b1 (.cells [.func (.func 78) #[] #[]].toArray 86 (0, 0))) w') := by
  unfold words_ops_1__ops_7 at hm
  refine fn0 (args := [.func (.func 78) #[] #[]]) (F := [(0, .func (.func 78) #[] #[])]) Tryd.func71 rfl Tryd.ntmps71 rfl rfl fun a hF => ?_
  have hS : St w0 Nil [H] [] w0 := start1 hH
  refine th <| ?_
  refine rg <| ?_
  refine ls <| a_box (cs := [.func (.func 78) #[] #[]].toArray) hF rfl hS rfl rfl fun b1 w a hS hF => ?_
  refine ls <| q1 hF rfl (e_asg hF rfl) fun a hF => ?_
  refine re <| ?_
  refine tn <| th <| ?_
  refine rg <| ?_
  refine ls <| q1 hF rfl (e_mkf (vs := [.pointer (some ⟨b1, 0, none⟩)]) hF ⟨rfl, trivial⟩) fun a hF => ?_
  refine ls <| q1 hF rfl (e_asg hF rfl) fun a hF => ?_
  refine re <| ?_
  refine tn <| ?_
  refine wp_ret <| ?_
  obtain rfl := Option.some.inj hm
  exact r1 hF Tryd.results71 rfl ⟨b1, rfl, hS.endFresh (.head _)⟩

set_option maxRecDepth 100000 in
theorem words_ops_1__ops_8_c {N : Nat} {w0 : World} {H : PH} (hH : H.le w0)  {r : Unit} (hm : words_ops_1__ops_8 N  = some r) : Tot Tryd.prog 71 #[.func (.func 79) #[] #[]] w0 (fun v w' => ∃ (b1 : Nat), v = .func (.func 72) #[] #[.pointer (some ⟨b1, 0, none⟩)] ∧ Fresh w0 (blk b1 (.cells [.func (.func 79) #[] #[]].toArray 86 (0, 0))) w') := by
  unfold words_ops_1__ops_8 at hm
  refine fn0 (args := [.func (.func 79) #[] #[]]) (F := [(0, .func (.func 79) #[] #[])]) Tryd.func71 rfl Tryd.ntmps71 rfl rfl fun a hF => ?_
  have hS : St w0 Nil [H] [] w0 := start1 hH
  refine th <| ?_
  refine rg <| ?_
  refine ls <| a_box (cs := [.func (.func 79) #[] #[]].toArray) hF rfl hS rfl rfl fun b1 w a hS hF => ?_
  refine ls <| q1 hF rfl (e_asg hF rfl) fun a hF => ?_
  refine re <| ?_
  refine tn <| th <| ?_
  refine rg <| ?_
  refine ls <| q1 hF rfl (e_mkf (vs := [.pointer (some ⟨b1, 0, none⟩)]) hF ⟨rfl, trivial⟩) fun a hF => ?_
  refine ls <| q1 hF rfl (e_asg hF rfl) fun a hF => ?_
  refine re <| ?_
  refine tn <| ?_
  refine wp_ret <| ?_
  obtain rfl := Option.some.inj hm
  exact r1 hF Tryd.results71 rfl ⟨b1, rfl, hS.endFresh (.head _)⟩

set_option maxRecDepth 100000 in
theorem words_ops_1__ops_9_c {N : Nat} {w0 : World} {H : PH} (hH : H.le w0)  {r : Unit} (hm : words_ops_1__ops_9 N  = some r) : Tot Tryd.prog 71 #[.func (.func 80) #[] #[]] w0 (fun v w' => ∃ (b1 : Nat), v = .func (.func 72) #[] #[.pointer (some ⟨b1, 0, none⟩)] ∧ Fresh w0 (blk b1 (.cells [.func (.func 80) #[] #[]].toArray 86 (0, 0))) w') := by
  unfold words_ops_1__ops_9 at hm
  refine fn0 (args := [.func (.func 80) #[] #[]]) (F := [(0, .func (.func 80) #[] #[])]) Tryd.func71 rfl Tryd.ntmps71 rfl rfl fun a hF => ?_
  have hS : St w0 Nil [H] [] w0 := start1 hH
  refine th <| ?_
  refine rg <| ?_
  refine ls <| a_box (cs := [.func (.func 80) #[] #[]].toArray) hF rfl hS rfl rfl fun b1 w a hS hF => ?_
  refine ls <| q1 hF rfl (e_asg hF rfl) fun a hF => ?_
  refine re <| ?_
  refine tn <| th <| ?_
  refine rg <| ?_
  refine ls <| q1 hF rfl (e_mkf (vs := [.pointer (some ⟨b1, 0, none⟩)]) hF ⟨rfl, trivial⟩) fun a hF => ?_
  refine ls <| q1 hF rfl (e_asg hF rfl) fun a hF => ?_
  refine re <| ?_
  refine tn <| ?_
  refine wp_ret <| ?_
  obtain rfl := Option.some.inj hm
  exact r1 hF Tryd.results71 rfl ⟨b1, rfl, hS.endFresh (.head _)⟩

set_option maxRecDepth 100000 in
theorem words_ops_1__ops_10_c {N : Nat} {w0 : World} {H : PH} (hH : H.le w0)  {r : Unit} (hm : words_ops_1__ops_10 N  = some r) : Tot Tryd.prog 71 #[.func (.func 81) #[] #[]] w0 (fun v w' => ∃ (b1 : Nat), v = .func (.func 72) #[] #[.pointer (some ⟨b1, 0, none⟩)] ∧ Fresh w0 (blk b1 (.cells [.func (.func 81) #[] #[]].toArray 86 (0, 0))) w') := by
  unfold words_ops_1__ops_10 at hm
  refine fn0 (args := [.func (.func 81) #[] #[]]) (F := [(0, .func (.func 81) #[] #[])]) Tryd.func71 rfl Tryd.ntmps71 rfl rfl fun a hF => ?_
  have hS : St w0 Nil [H] [] w0 := start1 hH
  refine th <| ?_
  refine rg <| ?_
  refine ls <| a_box (cs := [.func (.func 81) #[] #[]].toArray) hF rfl hS rfl rfl fun b1 w a hS hF => ?_
  refine ls <| q1 hF rfl (e_asg hF rfl) fun a hF => ?_
  refine re <| ?_
  refine tn <| th <| ?_
  refine rg <| ?_
  refine ls <| q1 hF rfl (e_mkf (vs := [.pointer (some ⟨b1, 0, none⟩)]) hF ⟨rfl, trivial⟩) fun a hF => ?_
  refine ls <| q1 hF rfl (e_asg hF rfl) fun a hF => ?_
  refine re <| ?_
  refine tn <| ?_
  refine wp_ret <| ?_
  obtain rfl := Option.some.inj hm
  exact r1 hF Tryd.results71 rfl ⟨b1, rfl, hS.endFresh (.head _)⟩

set_option maxRecDepth 100000 in
theorem words_ops_1__ops_11_c {N : Nat} {w0 : World} {H : PH} (hH : H.le w0)  {r : Unit} (hm : words_ops_1__ops_11 N  = some r) : Tot Tryd.prog 71 #[.func (.func 82) #[] #[]] w0 (fun v w' => ∃ (b1 : Nat), v = .func (.func 72) #[] #[.pointer (some ⟨b1, 0, none⟩)] ∧ Fresh w0 (blk b1 (.cells [.func (.func 82) #[] #[]].toArray 86 (0, 0))) w') := by
  unfold words_ops_1__ops_11 at hm
  refine fn0 (args := [.func (.func 82) #[] #[]]) (F := [(0, .func (.func 82) #[] #[])]) Tryd.func71 rfl Tryd.ntmps71 rfl rfl fun a hF => ?_
  have hS : St w0 Nil [H] [] w0 := start1 hH
  refine th <| ?_
  refine rg <| ?_
  refine ls <| a_box (cs := [.func (.func 82) #[] #[]].toArray) hF rfl hS rfl rfl fun b1 w a hS hF => ?_
  refine ls <| q1 hF rfl (e_asg hF rfl) fun a hF => ?_
  refine re <| ?_
  refine tn <| th <| ?_
  refine rg <| ?_
  refine ls <| q1 hF rfl (e_mkf (vs := [.pointer (some ⟨b1, 0, none⟩)]) hF ⟨rfl, trivial⟩) fun a hF => ?_
  refine ls <| q1 hF rfl (e_asg hF rfl) fun a hF => ?_
  refine re <| ?_
  refine tn <| ?_
  refine wp_ret <| ?_
  obtain rfl := Option.some.inj hm
  exact r1 hF Tryd.results71 rfl ⟨b1, rfl, hS.endFresh (.head _)⟩

set_option maxRecDepth 100000 in
theorem words_ops_1__ops_12_c {N : Nat} {w0 : World} {H : PH} (hH : H.le w0)  {r : Unit} (hm : words_ops_1__ops_12 N  = some r) : Tot Tryd.prog 71 #[.func (.func 83) #[] #[]] w0 (fun v w' => ∃ (b1 : Nat), v = .func (.func 72) #[] #[.pointer (some ⟨b1, 0, none⟩)] ∧ Fresh w0 (blk b1 (.cells [.func (.func 83) #[] #[]].toArray 86 (0, 0))) w') := by
  unfold words_ops_1__ops_12 at hm
  refine fn0 (args := [.func (.func 83) #[] #[]]) (F := [(0, .func (.func 83) #[] #[])]) Tryd.func71 rfl Tryd.ntmps71 rfl rfl fun a hF => ?_
  have hS : St w0 Nil [H] [] w0 := start1 hH
  refine th <| ?_
  refine rg <| ?_
  refine ls <| a_box (cs := [.func (.func 83) #[] #[]].toArray) hF rfl hS rfl rfl fun b1 w a hS hF => ?_
  refine ls <| q1 hF rfl (e_asg hF rfl) fun a hF => ?_
  refine re <| ?_
  refine tn <| th <| ?_
  refine rg <| ?_
  refine ls <| q1 hF rfl (e_mkf (vs := [.pointer (some ⟨b1, 0, none⟩)]) hF ⟨rfl, trivial⟩) fun a hF => ?_
  refine ls <| q1 hF rfl (e_asg hF rfl) fun a hF => ?_
  refine re <| ?_
  refine tn <| ?_
  refine wp_ret <| ?_
  obtain rfl := Option.some.inj hm
  exact r1 hF Tryd.results71 rfl ⟨b1, rfl, hS.endFresh (.head _)⟩

set_option maxRecDepth 100000 in
theorem words_ops_c {N : Nat} {w0 : World} {H : PH} (hH : H.le w0)  {r : Unit} (hm : words_ops N  = some r) : Tot Tryd.prog 59 #[] w0 (fun v w' => ∃ (b5 : Nat) (b8 : Nat) (b11 : Nat) (b14 : Nat) (b17 : Nat) (b20 : Nat), v = .agg #[.nilFunc, .nilFunc, .nilFunc, .nilFunc, .nilFunc, .func (.func 73) #[] #[], .func (.func 74) #[] #[], .func (.func 75) #[] #[], .func (.func 76) #[] #[], .func (.func 77) #[] #[], .func (.func 72) #[] #[.pointer (some ⟨b5, 0, none⟩)], .func (.func 72) #[] #[.pointer (some ⟨b8, 0, none⟩)], .func (.func 72) #[] #[.pointer (some ⟨b11, 0, none⟩)], .func (.func 72) #[] #[.pointer (some ⟨b14, 0, none⟩)], .func (.func 72) #[] #[.pointer (some ⟨b17, 0, none⟩)], .func (.func 72) #[] #[.pointer (some ⟨b20, 0, none⟩)]] ∧ Fresh w0 (sepA [blk b5 (.cells [.func (.func 78) #[] #[]].toArray 86 (0, 0)), blk b8 (.cells [.func (.func 79) #[] #[]].toArray 86 (0, 0)), blk b11 (.cells [.func (.func 80) #[] #[]].toArray 86 (0, 0)), blk b14 (.cells [.func (.func 81) #[] #[]].toArray 86 (0, 0)), blk b17 (.cells [.func (.func 82) #[] #[]].toArray 86 (0, 0)), blk b20 (.cells [.func (.func 83) #[] #[]].toArray 86 (0, 0))]) w') := by
  unfold words_ops at hm
  refine fn0 (args := []) (F := []) Tryd.func59 rfl Tryd.ntmps59 rfl rfl fun a hF => ?_
  have hS : St w0 Nil [H] [] w0 := start1 hH
  refine th <| ?_
  refine rg <| ?_
  refine ls <| a_alloc (cs := [.nilFunc, .nilFunc, .nilFunc, .nilFunc, .nilFunc, .nilFunc, .nilFunc, .nilFunc, .nilFunc, .nilFunc, .nilFunc, .nilFunc, .nilFunc, .nilFunc, .nilFunc, .nilFunc].toArray) hF rfl hS Tryd.zeroValue79 rfl fun b1 w a hS hF => ?_
  refine re <| ?_
  refine tn <| th <| ?_
  refine rg <| ?_
  refine ls <| a_alloc (cs := [.nilFunc, .nilFunc, .nilFunc, .nilFunc, .nilFunc, .nilFunc, .nilFunc, .nilFunc, .nilFunc, .nilFunc, .nilFunc, .nilFunc, .nilFunc, .nilFunc, .nilFunc, .nilFunc].toArray) hF rfl hS Tryd.zeroValue79 rfl fun b2 w a hS hF => ?_
  refine re <| ?_
  refine tn <| th <| ?_
  refine rg <| ?_
  refine ls <| q1 hF rfl (e_asg hF rfl) fun a hF => ?_
  refine re <| ?_
  refine tn <| th <| ?_
  refine rg <| ?_
  refine ls <| q1 hF rfl (e_iaA (i := 5) hF Tryd.runUnderlying79 Tryd.sizeOf78 rfl rfl rfl (by decide)) fun a hF => ?_
  refine ls <| s_blk hF hS Tryd.sizeOf78 rfl rfl rfl rfl .head (.succ (.succ (.succ (.succ (.succ .zero))))) fun w hS => ?_
  refine re <| ?_
  refine tn <| th <| ?_
  refine rg <| ?_
  refine ls <| q1 hF rfl (e_iaA (i := 6) hF Tryd.runUnderlying79 Tryd.sizeOf78 rfl rfl rfl (by decide)) fun a hF => ?_
  refine ls <| s_blk hF hS Tryd.sizeOf78 rfl rfl rfl rfl .head (.succ (.succ (.succ (.succ (.succ (.succ .zero)))))) fun w hS => ?_
  refine re <| ?_
  refine tn <| th <| ?_
  refine rg <| ?_
  refine ls <| q1 hF rfl (e_iaA (i := 7) hF Tryd.runUnderlying79 Tryd.sizeOf78 rfl rfl rfl (by decide)) fun a hF => ?_
  refine ls <| s_blk hF hS Tryd.sizeOf78 rfl rfl rfl rfl .head (.succ (.succ (.succ (.succ (.succ (.succ (.succ .zero))))))) fun w hS => ?_
  refine re <| ?_
  refine tn <| th <| ?_
  refine rg <| ?_
  refine ls <| q1 hF rfl (e_iaA (i := 8) hF Tryd.runUnderlying79 Tryd.sizeOf78 rfl rfl rfl (by decide)) fun a hF => ?_
  refine ls <| s_blk hF hS Tryd.sizeOf78 rfl rfl rfl rfl .head (.succ (.succ (.succ (.succ (.succ (.succ (.succ (.succ .zero)))))))) fun w hS => ?_
  refine re <| ?_
  refine tn <| th <| ?_
  refine rg <| ?_
  refine ls <| q1 hF rfl (e_iaA (i := 9) hF Tryd.runUnderlying79 Tryd.sizeOf78 rfl rfl rfl (by decide)) fun a hF => ?_
  refine ls <| s_blk hF hS Tryd.sizeOf78 rfl rfl rfl rfl .head (.succ (.succ (.succ (.succ (.succ (.succ (.succ (.succ (.succ .zero))))))))) fun w hS => ?_
  refine re <| ?_
  refine tn <| th <| ?_
  replace hm := bind_some hm
  obtain ⟨r3, h4, hm⟩ := hm
  refine rg <| ?_
  refine ls <| q1 hF rfl (e_move hF rfl) fun a hF => ?_
  refine ls <| k1 (vs := [.func (.func 78) #[] #[]]) (caps := []) hF rfl rfl Tryd.call71 (words_ops_1__ops_7_c (hp_le _) h4) ⟨rfl, trivial⟩ rfl (fun v w a hR hF => ?_)
  obtain ⟨b5, rfl, hk⟩ := hR
  replace hS := hS.fresh hk
  clear hk
  refine ls <| q1 hF rfl (e_iaA (i := 10) hF Tryd.runUnderlying79 Tryd.sizeOf78 rfl rfl rfl (by decide)) fun a hF => ?_
  refine ls <| s_blk hF hS Tryd.sizeOf78 rfl rfl rfl rfl (.tail .head) (.succ (.succ (.succ (.succ (.succ (.succ (.succ (.succ (.succ (.succ .zero)))))))))) fun w hS => ?_
  refine re <| ?_
  refine tn <| th <| ?_
  replace hm := bind_some hm
  obtain ⟨r6, h7, hm⟩ := hm
  refine rg <| ?_
  refine ls <| q1 hF rfl (e_move hF rfl) fun a hF => ?_
  refine ls <| k1 (vs := [.func (.func 79) #[] #[]]) (caps := []) hF rfl rfl Tryd.call71 (words_ops_1__ops_8_c (hp_le _) h7) ⟨rfl, trivial⟩ rfl (fun v w a hR hF => ?_)
  obtain ⟨b8, rfl, hk⟩ := hR
  replace hS := hS.fresh hk
  clear hk
  refine ls <| q1 hF rfl (e_iaA (i := 11) hF Tryd.runUnderlying79 Tryd.sizeOf78 rfl rfl rfl (by decide)) fun a hF => ?_
  refine ls <| s_blk hF hS Tryd.sizeOf78 rfl rfl rfl rfl (.tail (.tail .head)) (.succ (.succ (.succ (.succ (.succ (.succ (.succ (.succ (.succ (.succ (.succ .zero))))))))))) fun w hS => ?_
  refine re <| ?_
  refine tn <| th <| ?_
  replace hm := bind_some hm
  obtain ⟨r9, h10, hm⟩ := hm
  refine rg <| ?_
  refine ls <| q1 hF rfl (e_move hF rfl) fun a hF => ?_
  refine ls <| k1 (vs := [.func (.func 80) #[] #[]]) (caps := []) hF rfl rfl Tryd.call71 (words_ops_1__ops_9_c (hp_le _) h10) ⟨rfl, trivial⟩ rfl (fun v w a hR hF => ?_)
  obtain ⟨b11, rfl, hk⟩ := hR
  replace hS := hS.fresh hk
  clear hk
  refine ls <| q1 hF rfl (e_iaA (i := 12) hF Tryd.runUnderlying79 Tryd.sizeOf78 rfl rfl rfl (by decide)) fun a hF => ?_
  refine ls <| s_blk hF hS Tryd.sizeOf78 rfl rfl rfl rfl (.tail (.tail (.tail .head))) (.succ (.succ (.succ (.succ (.succ (.succ (.succ (.succ (.succ (.succ (.succ (.succ .zero)))))))))))) fun w hS => ?_
  refine re <| ?_
  refine tn <| th <| ?_
  replace hm := bind_some hm
  obtain ⟨r12, h13, hm⟩ := hm
  refine rg <| ?_
  refine ls <| q1 hF rfl (e_move hF rfl) fun a hF => ?_
  refine ls <| k1 (vs := [.func (.func 81) #[] #[]]) (caps := []) hF rfl rfl Tryd.call71 (words_ops_1__ops_10_c (hp_le _) h13) ⟨rfl, trivial⟩ rfl (fun v w a hR hF => ?_)
  obtain ⟨b14, rfl, hk⟩ := hR
  replace hS := hS.fresh hk
  clear hk
  refine ls <| q1 hF rfl (e_iaA (i := 13) hF Tryd.runUnderlying79 Tryd.sizeOf78 rfl rfl rfl (by decide)) fun a hF => ?_
  refine ls <| s_blk hF hS Tryd.sizeOf78 rfl rfl rfl rfl (.tail (.tail (.tail (.tail .head)))) (.succ (.succ (.succ (.succ (.succ (.succ (.succ (.succ (.succ (.succ (.succ (.succ (.succ .zero))))))))))))) fun w hS => ?_
  refine re <| ?_
  refine tn <| th <| ?_
  replace hm := bind_some hm
  obtain ⟨r15, h16, hm⟩ := hm
  refine rg <| ?_
  refine ls <| q1 hF rfl (e_move hF rfl) fun a hF => ?_
  refine ls <| k1 (vs := [.func (.func 82) #[] #[]]) (caps := []) hF rfl rfl Tryd.call71 (words_ops_1__ops_11_c (hp_le _) h16) ⟨rfl, trivial⟩ rfl (fun v w a hR hF => ?_)
  obtain ⟨b17, rfl, hk⟩ := hR
  replace hS := hS.fresh hk
  clear hk
  refine ls <| q1 hF rfl (e_iaA (i := 14) hF Tryd.runUnderlying79 Tryd.sizeOf78 rfl rfl rfl (by decide)) fun a hF => ?_
  refine ls <| s_blk hF hS Tryd.sizeOf78 rfl rfl rfl rfl (.tail (.tail (.tail (.tail (.tail .head))))) (.succ (.succ (.succ (.succ (.succ (.succ (.succ (.succ (.succ (.succ (.succ (.succ (.succ (.succ .zero)))))))))))))) fun w hS => ?_
  refine re <| ?_
  refine tn <| th <| ?_
  replace hm := bind_some hm
  obtain ⟨r18, h19, hm⟩ := hm
  refine rg <| ?_
  refine ls <| q1 hF rfl (e_move hF rfl) fun a hF => ?_
  refine ls <| k1 (vs := [.func (.func 83) #[] #[]]) (caps := []) hF rfl rfl Tryd.call71 (words_ops_1__ops_12_c (hp_le _) h19) ⟨rfl, trivial⟩ rfl (fun v w a hR hF => ?_)
  obtain ⟨b20, rfl, hk⟩ := hR
  replace hS := hS.fresh hk
  clear hk
  refine ls <| q1 hF rfl (e_iaA (i := 15) hF Tryd.runUnderlying79 Tryd.sizeOf78 rfl rfl rfl (by decide)) fun a hF => ?_
  refine ls <| s_blk hF hS Tryd.sizeOf78 rfl rfl rfl rfl (.tail (.tail (.tail (.tail (.tail (.tail .head)))))) (.succ (.succ (.succ (.succ (.succ (.succ (.succ (.succ (.succ (.succ (.succ (.succ (.succ (.succ (.succ .zero))))))))))))))) fun w hS => ?_
  refine re <| ?_
  refine tn <| th <| ?_
  refine rg <| ?_
  refine ls <| q1 hF rfl (e_ldA hF Tryd.isAgg79 Tryd.sizeOf79 rfl rfl ((St.ld hS).cellsB (.tail _ (.tail _ (.tail _ (.tail _ (.tail _ (.tail _ (.head _))))))))) fun a hF => ?_
  refine ls <| s_blkA hF hS Tryd.sizeOf79 rfl rfl rfl rfl (one_cells rfl) (.tail (.tail (.tail (.tail (.tail (.tail (.tail .head))))))) fun w hS => ?_
  refine re <| ?_
  refine tn <| ?_
  refine wp_ret <| ?_
  obtain rfl := Option.some.inj hm
  exact r1c (vs := [.nilFunc, .nilFunc, .nilFunc, .nilFunc, .nilFunc, .func (.func 73) #[] #[], .func (.func 74) #[] #[], .func (.func 75) #[] #[], .func (.func 76) #[] #[], .func (.func 77) #[] #[], .func (.func 72) #[] #[.pointer (some ⟨b5, 0, none⟩)], .func (.func 72) #[] #[.pointer (some ⟨b8, 0, none⟩)], .func (.func 72) #[] #[.pointer (some ⟨b11, 0, none⟩)], .func (.func 72) #[] #[.pointer (some ⟨b14, 0, none⟩)], .func (.func 72) #[] #[.pointer (some ⟨b17, 0, none⟩)], .func (.func 72) #[] #[.pointer (some ⟨b20, 0, none⟩)]]) (.inl rfl) hF Tryd.results59 rfl Tryd.isAgg79 Tryd.sizeOf79 rfl ((St.ld hS).cellsB (.tail _ (.tail _ (.tail _ (.tail _ (.tail _ (.tail _ (.tail _ (.head _))))))))) ⟨b5, b8, b11, b14, b17, b20, rfl, (hS.pickL (.cons (.tail (.tail (.tail (.tail (.tail .head))))) (.cons (.tail (.tail (.tail (.tail .head)))) (.cons (.tail (.tail (.tail .head))) (.cons (.tail (.tail .head)) (.cons (.tail .head) (.cons .head .nil))))))).endFreshL⟩

set_option maxRecDepth 100000 in
theorem words_ops_2_c {N : Nat} {w0 : World} {H : PH} (hH : H.le w0) {p1 : Int} {p2 : Int} {r : Int} (hm : words_ops_2 N p1 p2 = some r) : Tot Tryd.prog 73 #[.int .i64 p1, .int .i64 p2] w0 (fun v w' => v = .int .i64 r ∧ Keep Nil w0 w') := by
  unfold words_ops_2 at hm
  refine fn0 (args := [.int .i64 p1, .int .i64 p2]) (F := [(0, .int .i64 p1), (1, .int .i64 p2)]) Tryd.func73 rfl Tryd.ntmps73 rfl rfl fun a hF => ?_
  have hS : St w0 Nil [H] [] w0 := start1 hH
  refine th <| ?_
  refine rg <| ?_
  refine ls <| q1 hF rfl (e_asg hF rfl) fun a hF => ?_
  refine re <| ?_
  refine tn <| th <| ?_
  refine rg <| ?_
  refine ls <| q1 hF rfl (e_move hF rfl) fun a hF => ?_
  refine ls <| q1 hF rfl (e_move hF rfl) fun a hF => ?_
  refine ls <| q1 hF rfl (e_add hF rfl rfl) fun a hF => ?_
  refine ls <| q1 hF rfl (e_asg hF rfl) fun a hF => ?_
  refine re <| ?_
  refine tn <| ?_
  refine wp_ret <| ?_
  obtain rfl := Option.some.inj hm
  exact r1 hF Tryd.results73 rfl ⟨rfl, hS.keep⟩

set_option maxRecDepth 100000 in
theorem words_ops_3_c {N : Nat} {w0 : World} {H : PH} (hH : H.le w0) {p1 : Int} {p2 : Int} {r : Int} (hm : words_ops_3 N p1 p2 = some r) : Tot Tryd.prog 74 #[.int .i64 p1, .int .i64 p2] w0 (fun v w' => v = .int .i64 r ∧ Keep Nil w0 w') := by
  unfold words_ops_3 at hm
  refine fn0 (args := [.int .i64 p1, .int .i64 p2]) (F := [(0, .int .i64 p1), (1, .int .i64 p2)]) Tryd.func74 rfl Tryd.ntmps74 rfl rfl fun a hF => ?_
  have hS : St w0 Nil [H] [] w0 := start1 hH
  refine th <| ?_
  refine rg <| ?_
  refine ls <| q1 hF rfl (e_asg hF rfl) fun a hF => ?_
  refine re <| ?_
  refine tn <| th <| ?_
  refine rg <| ?_
  refine ls <| q1 hF rfl (e_move hF rfl) fun a hF => ?_
  refine ls <| q1 hF rfl (e_move hF rfl) fun a hF => ?_
  refine ls <| q1 hF rfl (e_sub hF rfl rfl) fun a hF => ?_
  refine ls <| q1 hF rfl (e_asg hF rfl) fun a hF => ?_
  refine re <| ?_
  refine tn <| ?_
  refine wp_ret <| ?_
  obtain rfl := Option.some.inj hm
  exact r1 hF Tryd.results74 rfl ⟨rfl, hS.keep⟩

set_option maxRecDepth 100000 in
theorem words_ops_4_c {N : Nat} {w0 : World} {H : PH} (hH : H.le w0) {p1 : Int} {p2 : Int} {r : Int} (hm : words_ops_4 N p1 p2 = some r) : Tot Tryd.prog 75 #[.int .i64 p1, .int .i64 p2] w0 (fun v w' => v = .int .i64 r ∧ Keep Nil w0 w') := by
  unfold words_ops_4 at hm
  refine fn0 (args := [.int .i64 p1, .int .i64 p2]) (F := [(0, .int .i64 p1), (1, .int .i64 p2)]) Tryd.func75 rfl Tryd.ntmps75 rfl rfl fun a hF => ?_
  have hS : St w0 Nil [H] [] w0 := start1 hH
  refine th <| ?_
  refine rg <| ?_
  refine ls <| q1 hF rfl (e_asg hF rfl) fun a hF => ?_
  refine re <| ?_
  refine tn <| th <| ?_
  refine rg <| ?_
  refine ls <| q1 hF rfl (e_move hF rfl) fun a hF => ?_
  refine ls <| q1 hF rfl (e_move hF rfl) fun a hF => ?_
  refine ls <| q1 hF rfl (e_mul hF rfl rfl) fun a hF => ?_
  refine ls <| q1 hF rfl (e_asg hF rfl) fun a hF => ?_
  refine re <| ?_
  refine tn <| ?_
  refine wp_ret <| ?_
  obtain rfl := Option.some.inj hm
  exact r1 hF Tryd.results75 rfl ⟨rfl, hS.keep⟩

set_option maxRecDepth 100000 in
theorem words_ops_5_c {N : Nat} {w0 : World} {H : PH} (hH : H.le w0) {p1 : Int} {p2 : Int} {r : Int} (hm : words_ops_5 N p1 p2 = some r) : Tot Tryd.prog 76 #[.int .i64 p1, .int .i64 p2] w0 (fun v w' => v = .int .i64 r ∧ Keep Nil w0 w') := by
  unfold words_ops_5 at hm
  refine fn0 (args := [.int .i64 p1, .int .i64 p2]) (F := [(0, .int .i64 p1), (1, .int .i64 p2)]) Tryd.func76 rfl Tryd.ntmps76 rfl rfl fun a hF => ?_
  have hS : St w0 Nil [H] [] w0 := start1 hH
  refine th <| ?_
  refine rg <| ?_
  refine ls <| q1 hF rfl (e_asg hF rfl) fun a hF => ?_
  refine re <| ?_
  refine tn <| th <| ?_
  replace hm := bind_some hm
  obtain ⟨x3, h4, hm⟩ := hm
  refine rg <| ?_
  refine ls <| q1 hF rfl (e_move hF rfl) fun a hF => ?_
  refine ls <| q1 hF rfl (e_move hF rfl) fun a hF => ?_
  refine ls <| q1 hF rfl (e_divI hF rfl rfl h4) fun a hF => ?_
  refine ls <| q1 hF rfl (e_asg hF rfl) fun a hF => ?_
  refine re <| ?_
  refine tn <| ?_
  refine wp_ret <| ?_
  obtain rfl := Option.some.inj hm
  exact r1 hF Tryd.results76 rfl ⟨rfl, hS.keep⟩

set_option maxRecDepth 100000 in
theorem words_ops_6_c {N : Nat} {w0 : World} {H : PH} (hH : H.le w0) {p1 : Int} {p2 : Int} {r : Int} (hm : words_ops_6 N p1 p2 = some r) : Tot Tryd.prog 77 #[.int .i64 p1, .int .i64 p2] w0 (fun v w' => v = .int .i64 r ∧ Keep Nil w0 w') := by
  unfold words_ops_6 at hm
  refine fn0 (args := [.int .i64 p1, .int .i64 p2]) (F := [(0, .int .i64 p1), (1, .int .i64 p2)]) Tryd.func77 rfl Tryd.ntmps77 rfl rfl fun a hF => ?_
  have hS : St w0 Nil [H] [] w0 := start1 hH
  refine th <| ?_
  refine rg <| ?_
  refine ls <| q1 hF rfl (e_asg hF rfl) fun a hF => ?_
  refine re <| ?_
  refine tn <| th <| ?_
  replace hm := bind_some hm
  obtain ⟨x3, h4, hm⟩ := hm
  refine rg <| ?_
  refine ls <| q1 hF rfl (e_move hF rfl) fun a hF => ?_
  refine ls <| q1 hF rfl (e_move hF rfl) fun a hF => ?_
  refine ls <| q1 hF rfl (e_remI hF rfl rfl h4) fun a hF => ?_
  refine ls <| q1 hF rfl (e_asg hF rfl) fun a hF => ?_
  refine re <| ?_
  refine tn <| ?_
  refine wp_ret <| ?_
  obtain rfl := Option.some.inj hm
  exact r1 hF Tryd.results77 rfl ⟨rfl, hS.keep⟩

set_option maxRecDepth 100000 in
theorem words_ops_7_c {N : Nat} {w0 : World} {H : PH} (hH : H.le w0) {p1 : Int} {p2 : Int} {r : Bool} (hm : words_ops_7 N p1 p2 = some r) : Tot Tryd.prog 78 #[.int .i64 p1, .int .i64 p2] w0 (fun v w' => v = .bool r ∧ Keep Nil w0 w') := by
  unfold words_ops_7 at hm
  refine fn0 (args := [.int .i64 p1, .int .i64 p2]) (F := [(0, .int .i64 p1), (1, .int .i64 p2)]) Tryd.func78 rfl Tryd.ntmps78 rfl rfl fun a hF => ?_
  have hS : St w0 Nil [H] [] w0 := start1 hH
  refine th <| ?_
  refine rg <| ?_
  refine ls <| q1 hF rfl (e_asg hF rfl) fun a hF => ?_
  refine re <| ?_
  refine tn <| th <| ?_
  refine rg <| ?_
  refine ls <| q1 hF rfl (e_move hF rfl) fun a hF => ?_
  refine ls <| q1 hF rfl (e_move hF rfl) fun a hF => ?_
  refine ls <| q1 hF rfl (e_eql hF rfl rfl) fun a hF => ?_
  refine ls <| q1 hF rfl (e_asg hF rfl) fun a hF => ?_
  refine re <| ?_
  refine tn <| ?_
  refine wp_ret <| ?_
  obtain rfl := Option.some.inj hm
  exact r1 hF Tryd.results78 rfl ⟨rfl, hS.keep⟩

set_option maxRecDepth 100000 in
theorem words_ops_1_1__ops_7_c {N : Nat} {w0 : World} {H : PH} (hH : H.le w0) {p1 : Int} {p2 : Int} {b3 : Nat} (hb4 : H b3 = some (.cells [.func (.func 78) #[] #[]].toArray 86 (0, 0))) {r : Int} (hm : words_ops_1_1__ops_7 N p1 p2 = some r) : Tot Tryd.prog 72 #[.int .i64 p1, .int .i64 p2, .pointer (some ⟨b3, 0, none⟩)] w0 (fun v w' => v = .int .i64 r ∧ Keep Nil w0 w') := by
  unfold words_ops_1_1__ops_7 at hm
  refine fn0 (args := [.int .i64 p1, .int .i64 p2, .pointer (some ⟨b3, 0, none⟩)]) (F := [(0, .int .i64 p1), (1, .int .i64 p2), (2, .pointer (some ⟨b3, 0, none⟩))]) Tryd.func72 rfl Tryd.ntmps72 rfl rfl fun a hF => ?_
  have hS : St w0 Nil [H] [] w0 := start1 hH
  refine th <| ?_
  refine rg <| ?_
  refine ls <| q1 hF rfl (e_asg hF rfl) fun a hF => ?_
  refine re <| ?_
  refine tn <| th <| ?_
  replace hm := bind_some hm
  obtain ⟨r5, h6, hm⟩ := hm
  replace hm := bind_some hm
  obtain ⟨r7, h8, hm⟩ := hm
  refine rg <| ?_
  refine ls <| q1 hF rfl (e_ld hF Tryd.isAgg86 rfl (PH.le.cell (Lds.le (St.ld hS)) (ph_cell hb4 rfl))) fun a hF => ?_
  refine ls <| q1 hF rfl (e_move hF rfl) fun a hF => ?_
  refine ls <| q1 hF rfl (e_move hF rfl) fun a hF => ?_
  refine ls <| k1 (vs := [.int .i64 p1, .int .i64 p2]) (caps := []) hF rfl rfl Tryd.call78 (words_ops_7_c (hp_le _) h6) ⟨rfl, rfl, trivial⟩ rfl (fun v w a hR hF => ?_)
  obtain ⟨rfl, hk⟩ := hR
  replace hS := hS.pass hk
  clear hk
  refine ls <| c1 hF rfl Tryd.call57 (words_Bool_c (hp_le _) h8) ⟨rfl, trivial⟩ (fun v w a hR hF => ?_)
  obtain ⟨rfl, hk⟩ := hR
  replace hS := hS.pass hk
  clear hk
  refine ls <| q1 hF rfl (e_asg hF rfl) fun a hF => ?_
  refine re <| ?_
  refine tn <| ?_
  refine wp_ret <| ?_
  obtain rfl := Option.some.inj hm
  exact r1 hF Tryd.results72 rfl ⟨rfl, hS.keep⟩

set_option maxRecDepth 100000 in
theorem words_ops_8_c {N : Nat} {w0 : World} {H : PH} (hH : H.le w0) {p1 : Int} {p2 : Int} {r : Bool} (hm : words_ops_8 N p1 p2 = some r) : Tot Tryd.prog 79 #[.int .i64 p1, .int .i64 p2] w0 (fun v w' => v = .bool r ∧ Keep Nil w0 w') := by
  unfold words_ops_8 at hm
  refine fn0 (args := [.int .i64 p1, .int .i64 p2]) (F := [(0, .int .i64 p1), (1, .int .i64 p2)]) Tryd.func79 rfl Tryd.ntmps79 rfl rfl fun a hF => ?_
  have hS : St w0 Nil [H] [] w0 := start1 hH
  refine th <| ?_
  refine rg <| ?_
  refine ls <| q1 hF rfl (e_asg hF rfl) fun a hF => ?_
  refine re <| ?_
  refine tn <| th <| ?_
  refine rg <| ?_
  refine ls <| q1 hF rfl (e_move hF rfl) fun a hF => ?_
  refine ls <| q1 hF rfl (e_move hF rfl) fun a hF => ?_
  refine ls <| q1 hF rfl (e_neq hF rfl rfl) fun a hF => ?_
  refine ls <| q1 hF rfl (e_asg hF rfl) fun a hF => ?_
  refine re <| ?_
  refine tn <| ?_
  refine wp_ret <| ?_
  obtain rfl := Option.some.inj hm
  exact r1 hF Tryd.results79 rfl ⟨rfl, hS.keep⟩

set_option maxRecDepth 100000 in
theorem words_ops_1_1__ops_8_c {N : Nat} {w0 : World} {H : PH} (hH : H.le w0) {p1 : Int} {p2 : Int} {b3 : Nat} (hb4 : H b3 = some (.cells [.func (.func 79) #[] #[]].toArray 86 (0, 0))) {r : Int} (hm : words_ops_1_1__ops_8 N p1 p2 = some r) : Tot Tryd.prog 72 #[.int .i64 p1, .int .i64 p2, .pointer (some ⟨b3, 0, none⟩)] w0 (fun v w' => v = .int .i64 r ∧ Keep Nil w0 w') := by
  unfold words_ops_1_1__ops_8 at hm
  refine fn0 (args := [.int .i64 p1, .int .i64 p2, .pointer (some ⟨b3, 0, none⟩)]) (F := [(0, .int .i64 p1), (1, .int .i64 p2), (2, .pointer (some ⟨b3, 0, none⟩))]) Tryd.func72 rfl Tryd.ntmps72 rfl rfl fun a hF => ?_
  have hS : St w0 Nil [H] [] w0 := start1 hH
  refine th <| ?_
  refine rg <| ?_
  refine ls <| q1 hF rfl (e_asg hF rfl) fun a hF => ?_
  refine re <| ?_
  refine tn <| th <| ?_
  replace hm := bind_some hm
  obtain ⟨r5, h6, hm⟩ := hm
  replace hm := bind_some hm
  obtain ⟨r7, h8, hm⟩ := hm
  refine rg <| ?_
  refine ls <| q1 hF rfl (e_ld hF Tryd.isAgg86 rfl (PH.le.cell (Lds.le (St.ld hS)) (ph_cell hb4 rfl))) fun a hF => ?_
  refine ls <| q1 hF rfl (e_move hF rfl) fun a hF => ?_
  refine ls <| q1 hF rfl (e_move hF rfl) fun a hF => ?_
  refine ls <| k1 (vs := [.int .i64 p1, .int .i64 p2]) (caps := []) hF rfl rfl Tryd.call79 (words_ops_8_c (hp_le _) h6) ⟨rfl, rfl, trivial⟩ rfl (fun v w a hR hF => ?_)
  obtain ⟨rfl, hk⟩ := hR
  replace hS := hS.pass hk
  clear hk
  refine ls <| c1 hF rfl Tryd.call57 (words_Bool_c (hp_le _) h8) ⟨rfl, trivial⟩ (fun v w a hR hF => ?_)
  obtain ⟨rfl, hk⟩ := hR
  replace hS := hS.pass hk
  clear hk
  refine ls <| q1 hF rfl (e_asg hF rfl) fun a hF => ?_
  refine re <| ?_
  refine tn <| ?_
  refine wp_ret <| ?_
  obtain rfl := Option.some.inj hm
  exact r1 hF Tryd.results72 rfl ⟨rfl, hS.keep⟩

set_option maxRecDepth 100000 in
theorem words_ops_9_c {N : Nat} {w0 : World} {H : PH} (hH : H.le w0) {p1 : Int} {p2 : Int} {r : Bool} (hm : words_ops_9 N p1 p2 = some r) : Tot Tryd.prog 80 #[.int .i64 p1, .int .i64 p2] w0 (fun v w' => v = .bool r ∧ Keep Nil w0 w') := by
  unfold words_ops_9 at hm
  refine fn0 (args := [.int .i64 p1, .int .i64 p2]) (F := [(0, .int .i64 p1), (1, .int .i64 p2)]) Tryd.func80 rfl Tryd.ntmps80 rfl rfl fun a hF => ?_
  have hS : St w0 Nil [H] [] w0 := start1 hH
  refine th <| ?_
  refine rg <| ?_
  refine ls <| q1 hF rfl (e_asg hF rfl) fun a hF => ?_
  refine re <| ?_
  refine tn <| th <| ?_
  refine rg <| ?_
  refine ls <| q1 hF rfl (e_move hF rfl) fun a hF => ?_
  refine ls <| q1 hF rfl (e_move hF rfl) fun a hF => ?_
  refine ls <| q1 hF rfl (e_lss hF rfl rfl) fun a hF => ?_
  refine ls <| q1 hF rfl (e_asg hF rfl) fun a hF => ?_
  refine re <| ?_
  refine tn <| ?_
  refine wp_ret <| ?_
  obtain rfl := Option.some.inj hm
  exact r1 hF Tryd.results80 rfl ⟨rfl, hS.keep⟩

set_option maxRecDepth 100000 in
theorem words_ops_1_1__ops_9_c {N : Nat} {w0 : World} {H : PH} (hH : H.le w0) {p1 : Int} {p2 : Int} {b3 : Nat} (hb4 : H b3 = some (.cells [.func (.func 80) #[] #[]].toArray 86 (0, 0))) {r : Int} (hm : words_ops_1_1__ops_9 N p1 p2 = some r) : Tot Tryd.prog 72 #[.int .i64 p1, .int .i64 p2, .pointer (some ⟨b3, 0, none⟩)] w0 (fun v w' => v = .int .i64 r ∧ Keep Nil w0 w') := by
  unfold words_ops_1_1__ops_9 at hm
  refine fn0 (args := [.int .i64 p1, .int .i64 p2, .pointer (some ⟨b3, 0, none⟩)]) (F := [(0, .int .i64 p1), (1, .int .i64 p2), (2, .pointer (some ⟨b3, 0, none⟩))]) Tryd.func72 rfl Tryd.ntmps72 rfl rfl fun a hF => ?_
  have hS : St w0 Nil [H] [] w0 := start1 hH
  refine th <| ?_
  refine rg <| ?_
  refine ls <| q1 hF rfl (e_asg hF rfl) fun a hF => ?_
  refine re <| ?_
  refine tn <| th <| ?_
  replace hm := bind_some hm
  obtain ⟨r5, h6, hm⟩ := hm
  replace hm := bind_some hm
  obtain ⟨r7, h8, hm⟩ := hm
  refine rg <| ?_
  refine ls <| q1 hF rfl (e_ld hF Tryd.isAgg86 rfl (PH.le.cell (Lds.le (St.ld hS)) (ph_cell hb4 rfl))) fun a hF => ?_
  refine ls <| q1 hF rfl (e_move hF rfl) fun a hF => ?_
  refine ls <| q1 hF rfl (e_move hF rfl) fun a hF => ?_
  refine ls <| k1 (vs := [.int .i64 p1, .int .i64 p2]) (caps := []) hF rfl rfl Tryd.call80 (words_ops_9_c (hp_le _) h6) ⟨rfl, rfl, trivial⟩ rfl (fun v w a hR hF => ?_)
  obtain ⟨rfl, hk⟩ := hR
  replace hS := hS.pass hk
  clear hk
  refine ls <| c1 hF rfl Tryd.call57 (words_Bool_c (hp_le _) h8) ⟨rfl, trivial⟩ (fun v w a hR hF => ?_)
  obtain ⟨rfl, hk⟩ := hR
  replace hS := hS.pass hk
  clear hk
  refine ls <| q1 hF rfl (e_asg hF rfl) fun a hF => ?_
  refine re <| ?_
  refine tn <| ?_
  refine wp_ret <| ?_
  obtain rfl := Option.some.inj hm
  exact r1 hF Tryd.results72 rfl ⟨rfl, hS.keep⟩

set_option maxRecDepth 100000 in
theorem words_ops_10_c {N : Nat} {w0 : World} {H : PH} (hH : H.le w0) {p1 : Int} {p2 : Int} {r : Bool} (hm : words_ops_10 N p1 p2 = some r) : Tot Tryd.prog 81 #[.int .i64 p1, .int .i64 p2] w0 (fun v w' => v = .bool r ∧ Keep Nil w0 w') := by
  unfold words_ops_10 at hm
  refine fn0 (args := [.int .i64 p1, .int .i64 p2]) (F := [(0, .int .i64 p1), (1, .int .i64 p2)]) Tryd.func81 rfl Tryd.ntmps81 rfl rfl fun a hF => ?_
  have hS : St w0 Nil [H] [] w0 := start1 hH
  refine th <| ?_
  refine rg <| ?_
  refine ls <| q1 hF rfl (e_asg hF rfl) fun a hF => ?_
  refine re <| ?_
  refine tn <| th <| ?_
  refine rg <| ?_
  refine ls <| q1 hF rfl (e_move hF rfl) fun a hF => ?_
  refine ls <| q1 hF rfl (e_move hF rfl) fun a hF => ?_
  refine ls <| q1 hF rfl (e_leq hF rfl rfl) fun a hF => ?_
  refine ls <| q1 hF rfl (e_asg hF rfl) fun a hF => ?_
  refine re <| ?_
  refine tn <| ?_
  refine wp_ret <| ?_
  obtain rfl := Option.some.inj hm
  exact r1 hF Tryd.results81 rfl ⟨rfl, hS.keep⟩

set_option maxRecDepth 100000 in
theorem words_ops_1_1__ops_10_c {N : Nat} {w0 : World} {H : PH} (hH : H.le w0) {p1 : Int} {p2 : Int} {b3 : Nat} (hb4 : H b3 = some (.cells [.func (.func 81) #[] #[]].toArray 86 (0, 0))) {r : Int} (hm : words_ops_1_1__ops_10 N p1 p2 = some r) : Tot Tryd.prog 72 #[.int .i64 p1, .int .i64 p2, .pointer (some ⟨b3, 0, none⟩)] w0 (fun v w' => v = .int .i64 r ∧ Keep Nil w0 w') := by
  unfold words_ops_1_1__ops_10 at hm
  refine fn0 (args := [.int .i64 p1, .int .i64 p2, .pointer (some ⟨b3, 0, none⟩)]) (F := [(0, .int .i64 p1), (1, .int .i64 p2), (2, .pointer (some ⟨b3, 0, none⟩))]) Tryd.func72 rfl Tryd.ntmps72 rfl rfl fun a hF => ?_
  have hS : St w0 Nil [H] [] w0 := start1 hH
  refine th <| ?_
  refine rg <| ?_
  refine ls <| q1 hF rfl (e_asg hF rfl) fun a hF => ?_
  refine re <| ?_
  refine tn <| th <| ?_
  replace hm := bind_some hm
  obtain ⟨r5, h6, hm⟩ := hm
  replace hm := bind_some hm
  obtain ⟨r7, h8, hm⟩ := hm
  refine rg <| ?_
  refine ls <| q1 hF rfl (e_ld hF Tryd.isAgg86 rfl (PH.le.cell (Lds.le (St.ld hS)) (ph_cell hb4 rfl))) fun a hF => ?_
  refine ls <| q1 hF rfl (e_move hF rfl) fun a hF => ?_
  refine ls <| q1 hF rfl (e_move hF rfl) fun a hF => ?_
  refine ls <| k1 (vs := [.int .i64 p1, .int .i64 p2]) (caps := []) hF rfl rfl Tryd.call81 (words_ops_10_c (hp_le _) h6) ⟨rfl, rfl, trivial⟩ rfl (fun v w a hR hF => ?_)
  obtain ⟨rfl, hk⟩ := hR
  replace hS := hS.pass hk
  clear hk
  refine ls <| c1 hF rfl Tryd.call57 (words_Bool_c (hp_le _) h8) ⟨rfl, trivial⟩ (fun v w a hR hF => ?_)
  obtain ⟨rfl, hk⟩ := hR
  replace hS := hS.pass hk
  clear hk
  refine ls <| q1 hF rfl (e_asg hF rfl) fun a hF => ?_
  refine re <| ?_
  refine tn <| ?_
  refine wp_ret <| ?_
  obtain rfl := Option.some.inj hm
  exact r1 hF Tryd.results72 rfl ⟨rfl, hS.keep⟩

set_option maxRecDepth 100000 in
theorem words_ops_11_c {N : Nat} {w0 : World} {H : PH} (hH : H.le w0) {p1 : Int} {p2 : Int} {r : Bool} (hm : words_ops_11 N p1 p2 = some r) : Tot Tryd.prog 82 #[.int .i64 p1, .int .i64 p2] w0 (fun v w' => v = .bool r ∧ Keep Nil w0 w') := by
  unfold words_ops_11 at hm
  refine fn0 (args := [.int .i64 p1, .int .i64 p2]) (F := [(0, .int .i64 p1), (1, .int .i64 p2)]) Tryd.func82 rfl Tryd.ntmps82 rfl rfl fun a hF => ?_
  have hS : St w0 Nil [H] [] w0 := start1 hH
  refine th <| ?_
  refine rg <| ?_
  refine ls <| q1 hF rfl (e_asg hF rfl) fun a hF => ?_
  refine re <| ?_
  refine tn <| th <| ?_
  replace hm := bind_some hm
  obtain ⟨r3, h4, hm⟩ := hm
  rcases bdich r3 with hb5 | hb5
  ·
    replace hm := ite_t hm hb5
    replace hm := bind_some hm
    obtain ⟨r6, h7, hm⟩ := hm
    refine rg <| ?_
    refine ls <| q1 hF rfl (e_move hF rfl) fun a hF => ?_
    refine ls <| c1 hF rfl Tryd.call58 (words_Truth_c (hp_le _) h4) ⟨rfl, trivial⟩ (fun v w a hR hF => ?_)
    obtain ⟨rfl, hk⟩ := hR
    replace hS := hS.pass hk
    clear hk
    refine ls <| q1 hF rfl (e_as (e_move hF rfl) (congrArg Value.bool hb5)) fun a hF => ?_
    refine ls <| gy hF rfl rfl <| q1 hF rfl (e_move hF rfl) fun a hF => ?_
    refine ls <| gy hF rfl rfl <| c1 hF rfl Tryd.call58 (words_Truth_c (hp_le _) h7) ⟨rfl, trivial⟩ (fun v w a hR hF => ?_)
    obtain ⟨rfl, hk⟩ := hR
    replace hS := hS.pass hk
    clear hk
    refine ls <| q1 hF rfl (e_pickT hF rfl rfl) fun a hF => ?_
    refine ls <| q1 hF rfl (e_asg hF rfl) fun a hF => ?_
    refine re <| ?_
    refine tn <| ?_
    refine wp_ret <| ?_
    obtain rfl := Option.some.inj hm
    exact r1 hF Tryd.results82 rfl ⟨rfl, hS.keep⟩
  ·
    replace hm := ite_f hm hb5
    refine rg <| ?_
    refine ls <| q1 hF rfl (e_move hF rfl) fun a hF => ?_
    refine ls <| c1 hF rfl Tryd.call58 (words_Truth_c (hp_le _) h4) ⟨rfl, trivial⟩ (fun v w a hR hF => ?_)
    obtain ⟨rfl, hk⟩ := hR
    replace hS := hS.pass hk
    clear hk
    refine ls <| q1 hF rfl (e_as (e_move hF rfl) (congrArg Value.bool hb5)) fun a hF => ?_
    refine ls <| gn hF rfl rfl rfl rfl fun a hF => ?_
    refine ls <| gn hF rfl rfl rfl rfl fun a hF => ?_
    refine ls <| q1 hF rfl (e_pickF hF rfl rfl) fun a hF => ?_
    refine ls <| q1 hF rfl (e_asg hF rfl) fun a hF => ?_
    refine re <| ?_
    refine tn <| ?_
    refine wp_ret <| ?_
    obtain rfl := Option.some.inj hm
    exact r1 hF Tryd.results82 rfl ⟨rfl, hS.keep⟩

set_option maxRecDepth 100000 in
theorem words_ops_1_1__ops_11_c {N : Nat} {w0 : World} {H : PH} (hH : H.le w0) {p1 : Int} {p2 : Int} {b3 : Nat} (hb4 : H b3 = some (.cells [.func (.func 82) #[] #[]].toArray 86 (0, 0))) {r : Int} (hm : words_ops_1_1__ops_11 N p1 p2 = some r) : Tot Tryd.prog 72 #[.int .i64 p1, .int .i64 p2, .pointer (some ⟨b3, 0, none⟩)] w0 (fun v w' => v = .int .i64 r ∧ Keep Nil w0 w') := by
  unfold words_ops_1_1__ops_11 at hm
  refine fn0 (args := [.int .i64 p1, .int .i64 p2, .pointer (some ⟨b3, 0, none⟩)]) (F := [(0, .int .i64 p1), (1, .int .i64 p2), (2, .pointer (some ⟨b3, 0, none⟩))]) Tryd.func72 rfl Tryd.ntmps72 rfl rfl fun a hF => ?_
  have hS : St w0 Nil [H] [] w0 := start1 hH
  refine th <| ?_
  refine rg <| ?_
  refine ls <| q1 hF rfl (e_asg hF rfl) fun a hF => ?_
  refine re <| ?_
  refine tn <| th <| ?_
  replace hm := bind_some hm
  obtain ⟨r5, h6, hm⟩ := hm
  replace hm := bind_some hm
  obtain ⟨r7, h8, hm⟩ := hm
  refine rg <| ?_
  refine ls <| q1 hF rfl (e_ld hF Tryd.isAgg86 rfl (PH.le.cell (Lds.le (St.ld hS)) (ph_cell hb4 rfl))) fun a hF => ?_
  refine ls <| q1 hF rfl (e_move hF rfl) fun a hF => ?_
  refine ls <| q1 hF rfl (e_move hF rfl) fun a hF => ?_
  refine ls <| k1 (vs := [.int .i64 p1, .int .i64 p2]) (caps := []) hF rfl rfl Tryd.call82 (words_ops_11_c (hp_le _) h6) ⟨rfl, rfl, trivial⟩ rfl (fun v w a hR hF => ?_)
  obtain ⟨rfl, hk⟩ := hR
  replace hS := hS.pass hk
  clear hk
  refine ls <| c1 hF rfl Tryd.call57 (words_Bool_c (hp_le _) h8) ⟨rfl, trivial⟩ (fun v w a hR hF => ?_)
  obtain ⟨rfl, hk⟩ := hR
  replace hS := hS.pass hk
  clear hk
  refine ls <| q1 hF rfl (e_asg hF rfl) fun a hF => ?_
  refine re <| ?_
  refine tn <| ?_
  refine wp_ret <| ?_
  obtain rfl := Option.some.inj hm
  exact r1 hF Tryd.results72 rfl ⟨rfl, hS.keep⟩

set_option maxRecDepth 100000 in
theorem words_ops_12_c {N : Nat} {w0 : World} {H : PH} (hH : H.le w0) {p1 : Int} {p2 : Int} {r : Bool} (hm : words_ops_12 N p1 p2 = some r) : Tot Tryd.prog 83 #[.int .i64 p1, .int .i64 p2] w0 (fun v w' => v = .bool r ∧ Keep Nil w0 w') := by
  unfold words_ops_12 at hm
  refine fn0 (args := [.int .i64 p1, .int .i64 p2]) (F := [(0, .int .i64 p1), (1, .int .i64 p2)]) Tryd.func83 rfl Tryd.ntmps83 rfl rfl fun a hF => ?_
  have hS : St w0 Nil [H] [] w0 := start1 hH
  refine th <| ?_
  refine rg <| ?_
  refine ls <| q1 hF rfl (e_asg hF rfl) fun a hF => ?_
  refine re <| ?_
  refine tn <| th <| ?_
  replace hm := bind_some hm
  obtain ⟨r3, h4, hm⟩ := hm
  rcases bdich r3 with hb5 | hb5
  ·
    replace hm := ite_t hm hb5
    refine rg <| ?_
    refine ls <| q1 hF rfl (e_move hF rfl) fun a hF => ?_
    refine ls <| c1 hF rfl Tryd.call58 (words_Truth_c (hp_le _) h4) ⟨rfl, trivial⟩ (fun v w a hR hF => ?_)
    obtain ⟨rfl, hk⟩ := hR
    replace hS := hS.pass hk
    clear hk
    refine ls <| q1 hF rfl (e_as (e_move hF rfl) (congrArg Value.bool hb5)) fun a hF => ?_
    refine ls <| gn hF rfl rfl rfl rfl fun a hF => ?_
    refine ls <| gn hF rfl rfl rfl rfl fun a hF => ?_
    refine ls <| q1 hF rfl (e_pickT hF rfl rfl) fun a hF => ?_
    refine ls <| q1 hF rfl (e_asg hF rfl) fun a hF => ?_
    refine re <| ?_
    refine tn <| ?_
    refine wp_ret <| ?_
    obtain rfl := Option.some.inj hm
    exact r1 hF Tryd.results83 rfl ⟨rfl, hS.keep⟩
  ·
    replace hm := ite_f hm hb5
    replace hm := bind_some hm
    obtain ⟨r6, h7, hm⟩ := hm
    refine rg <| ?_
    refine ls <| q1 hF rfl (e_move hF rfl) fun a hF => ?_
    refine ls <| c1 hF rfl Tryd.call58 (words_Truth_c (hp_le _) h4) ⟨rfl, trivial⟩ (fun v w a hR hF => ?_)
    obtain ⟨rfl, hk⟩ := hR
    replace hS := hS.pass hk
    clear hk
    refine ls <| q1 hF rfl (e_as (e_move hF rfl) (congrArg Value.bool hb5)) fun a hF => ?_
    refine ls <| gy hF rfl rfl <| q1 hF rfl (e_move hF rfl) fun a hF => ?_
    refine ls <| gy hF rfl rfl <| c1 hF rfl Tryd.call58 (words_Truth_c (hp_le _) h7) ⟨rfl, trivial⟩ (fun v w a hR hF => ?_)
    obtain ⟨rfl, hk⟩ := hR
    replace hS := hS.pass hk
    clear hk
    refine ls <| q1 hF rfl (e_pickF hF rfl rfl) fun a hF => ?_
    refine ls <| q1 hF rfl (e_asg hF rfl) fun a hF => ?_
    refine re <| ?_
    refine tn <| ?_
    refine wp_ret <| ?_
    obtain rfl := Option.some.inj hm
    exact r1 hF Tryd.results83 rfl ⟨rfl, hS.keep⟩

set_option maxRecDepth 100000 in
theorem words_ops_1_1__ops_12_c {N : Nat} {w0 : World} {H : PH} (hH : H.le w0) {p1 : Int} {p2 : Int} {b3 : Nat} (hb4 : H b3 = some (.cells [.func (.func 83) #[] #[]].toArray 86 (0, 0))) {r : Int} (hm : words_ops_1_1__ops_12 N p1 p2 = some r) : Tot Tryd.prog 72 #[.int .i64 p1, .int .i64 p2, .pointer (some ⟨b3, 0, none⟩)] w0 (fun v w' => v = .int .i64 r ∧ Keep Nil w0 w') := by
  unfold words_ops_1_1__ops_12 at hm
  refine fn0 (args := [.int .i64 p1, .int .i64 p2, .pointer (some ⟨b3, 0, none⟩)]) (F := [(0, .int .i64 p1), (1, .int .i64 p2), (2, .pointer (some ⟨b3, 0, none⟩))]) Tryd.func72 rfl Tryd.ntmps72 rfl rfl fun a hF => ?_
  have hS : St w0 Nil [H] [] w0 := start1 hH
  refine th <| ?_
  refine rg <| ?_
  refine ls <| q1 hF rfl (e_asg hF rfl) fun a hF => ?_
  refine re <| ?_
  refine tn <| th <| ?_
  replace hm := bind_some hm
  obtain ⟨r5, h6, hm⟩ := hm
  replace hm := bind_some hm
  obtain ⟨r7, h8, hm⟩ := hm
  refine rg <| ?_
  refine ls <| q1 hF rfl (e_ld hF Tryd.isAgg86 rfl (PH.le.cell (Lds.le (St.ld hS)) (ph_cell hb4 rfl))) fun a hF => ?_
  refine ls <| q1 hF rfl (e_move hF rfl) fun a hF => ?_
  refine ls <| q1 hF rfl (e_move hF rfl) fun a hF => ?_
  refine ls <| k1 (vs := [.int .i64 p1, .int .i64 p2]) (caps := []) hF rfl rfl Tryd.call83 (words_ops_12_c (hp_le _) h6) ⟨rfl, rfl, trivial⟩ rfl (fun v w a hR hF => ?_)
  obtain ⟨rfl, hk⟩ := hR
  replace hS := hS.pass hk
  clear hk
  refine ls <| c1 hF rfl Tryd.call57 (words_Bool_c (hp_le _) h8) ⟨rfl, trivial⟩ (fun v w a hR hF => ?_)
  obtain ⟨rfl, hk⟩ := hR
  replace hS := hS.pass hk
  clear hk
  refine ls <| q1 hF rfl (e_asg hF rfl) fun a hF => ?_
  refine re <| ?_
  refine tn <| ?_
  refine wp_ret <| ?_
  obtain rfl := Option.some.inj hm
  exact r1 hF Tryd.results72 rfl ⟨rfl, hS.keep⟩

set_option maxRecDepth 100000 in
theorem words_Two_c {N : Nat} {w0 : World} {H : PH} (hH : H.le w0) {p1 : Int} {p2 : Int} {p3 : Int} {r : (Int × Int)} (hm : words_Two N p1 p2 p3 = some r) : Tot Tryd.prog 38 #[.int .i64 p1, .int .i64 p2, .int .i64 p3] w0 (fun v w' => v = .tuple #[.int .i64 r.1, .int .i64 r.2] ∧ Keep Nil w0 w') := by
  unfold words_Two at hm
  refine fn0 (args := [.int .i64 p1, .int .i64 p2, .int .i64 p3]) (F := [(0, .int .i64 p1), (1, .int .i64 p2), (2, .int .i64 p3)]) Tryd.func38 rfl Tryd.ntmps38 rfl rfl fun a hF => ?_
  have hS : St w0 Nil [H] [] w0 := start1 hH
  refine th <| ?_
  refine rg <| ?_
  refine ls <| q1 hF rfl (e_asg hF rfl) fun a hF => ?_
  refine ls <| q1 hF rfl (e_asg hF rfl) fun a hF => ?_
  refine re <| ?_
  refine tn <| th <| th <| ?_
  refine rg <| ?_
  refine ls <| q1 hF rfl (e_move hF rfl) fun a hF => ?_
  refine ls <| q1 hF rfl (e_lss hF rfl rfl) fun a hF => ?_
  refine ls <| q1 hF rfl (e_move hF rfl) fun a hF => ?_
  refine grp (N := 36) (Fk := [(0, .int .i64 p1), (1, .int .i64 p2), (2, .int .i64 p3), (14, .bool ((decide (p1 < 0)) || (decide (16 ≤ p1))))]) (b := (decide (p1 < 0))) 3 hS ?_ ?_ ?_
  ·
    intro hb key
    replace hF := Fr.as hF (t := 11) rfl (congrArg Value.bool hb)
    refine ls <| gn hF rfl rfl rfl rfl fun a hF => ?_
    refine ls <| gn hF rfl rfl rfl rfl fun a hF => ?_
    refine ls <| q1 hF rfl (e_as (v' := .bool ((decide (p1 < 0)) || (decide (16 ≤ p1)))) (e_pickT hF rfl rfl) (by rw [hb]; rfl)) fun a hF => ?_
    exact key _ _ (hF.has ⟨rfl, rfl, rfl, rfl, trivial⟩) hS
  ·
    intro hb key
    replace hF := Fr.as hF (t := 11) rfl (congrArg Value.bool hb)
    refine ls <| gy hF rfl rfl <| q1 hF rfl (e_move hF rfl) fun a hF => ?_
    refine ls <| gy hF rfl rfl <| q1 hF rfl (e_geq hF rfl rfl) fun a hF => ?_
    refine ls <| q1 hF rfl (e_as (v' := .bool ((decide (p1 < 0)) || (decide (16 ≤ p1)))) (e_pickF hF rfl rfl) (by rw [hb]; rfl)) fun a hF => ?_
    exact key _ _ (hF.has ⟨rfl, rfl, rfl, rfl, trivial⟩) hS
  intro a w hF hS
  refine re <| ?_
  rcases bdich ((decide (p1 < 0)) || (decide (16 ≤ p1))) with hb4 | hb4
  ·
    replace hm := ite_t hm hb4
    refine tn <| ctv hF rfl hb4 <| th <| ?_
    refine rg <| ?_
    refine ls <| q1 hF rfl (e_asg hF rfl) fun a hF => ?_
    refine ls <| q1 hF rfl (e_asg hF rfl) fun a hF => ?_
    refine re <| ?_
    refine tn <| ?_
    refine wp_ret <| tr <| ?_
    obtain rfl := Option.some.inj hm
    exact r2 hF Tryd.results38 rfl rfl ⟨rfl, hS.keep⟩
  ·
    replace hm := ite_f hm hb4
    refine tn <| cfv hF rfl hb4 <| wp_skip <| ?_
    refine tn <| th <| ?_
    rcases bdich (decide (p1 = 0)) with hb5 | hb5
    ·
      replace hm := itp_t hm hb5
      replace hF := Fr.as hF (t := 0) (v' := .int .i64 0) rfl (by rw [of_decide_eq_true hb5])
      replace hm := bind_some hm
      obtain ⟨r6, h7, hm⟩ := hm
      refine rg <| ?_
      refine ls <| c1 hF rfl Tryd.call59 (words_ops_c (hp_le _) h7) trivial (fun v w a hR hF => ?_)
      obtain ⟨b8, b9, b10, b11, b12, b13, rfl, hk⟩ := hR
      replace hS := (hS.fresh hk).unsep
      clear hk
      refine ls <| q1 hF rfl (e_move hF rfl) fun a hF => ?_
      refine ls <| q1 hF rfl (e_k (v := .nilFunc) hF rfl (by rfl) (by kernel_rfl)) fun a hF => ?_
      refine ls <| q1 hF rfl (e_asg hF rfl) fun a hF => ?_
      refine re <| ?_
      refine tn <| th <| wp_block <| th <| ?_
      refine rg <| ?_
      refine ls <| q1 hF rfl (e_move hF rfl) fun a hF => ?_
      refine ls <| q1 hF rfl (e_k (v := .bool true) hF rfl (by rfl) (by kernel_rfl)) fun a hF => ?_
      refine ls <| q1 hF rfl (e_asg hF rfl) fun a hF => ?_
      refine re <| ?_
      refine tn <| ct hF rfl <| th <| ?_
      refine rg <| ?_
      refine ls <| q1 hF rfl (e_asg hF rfl) fun a hF => ?_
      refine ls <| q1 hF rfl (e_asg hF rfl) fun a hF => ?_
      refine re <| ?_
      refine tn <| ?_
      refine wp_ret <| br <| tr <| ?_
      obtain rfl := Option.some.inj hm
      exact r2 hF Tryd.results38 rfl rfl ⟨rfl, hS.keep⟩
    ·
      replace hm := itp_f hm hb5
      rcases bdich (decide (p1 = 1)) with hb14 | hb14
      ·
        replace hm := itp_t hm hb14
        replace hF := Fr.as hF (t := 0) (v' := .int .i64 1) rfl (by rw [of_decide_eq_true hb14])
        replace hm := bind_some hm
        obtain ⟨r15, h16, hm⟩ := hm
        refine rg <| ?_
        refine ls <| c1 hF rfl Tryd.call59 (words_ops_c (hp_le _) h16) trivial (fun v w a hR hF => ?_)
        obtain ⟨b17, b18, b19, b20, b21, b22, rfl, hk⟩ := hR
        replace hS := (hS.fresh hk).unsep
        clear hk
        refine ls <| q1 hF rfl (e_move hF rfl) fun a hF => ?_
        refine ls <| q1 hF rfl (e_k (v := .nilFunc) hF rfl (by rfl) (by kernel_rfl)) fun a hF => ?_
        refine ls <| q1 hF rfl (e_asg hF rfl) fun a hF => ?_
        refine re <| ?_
        refine tn <| th <| wp_block <| th <| ?_
        refine rg <| ?_
        refine ls <| q1 hF rfl (e_move hF rfl) fun a hF => ?_
        refine ls <| q1 hF rfl (e_k (v := .bool true) hF rfl (by rfl) (by kernel_rfl)) fun a hF => ?_
        refine ls <| q1 hF rfl (e_asg hF rfl) fun a hF => ?_
        refine re <| ?_
        refine tn <| ct hF rfl <| th <| ?_
        refine rg <| ?_
        refine ls <| q1 hF rfl (e_asg hF rfl) fun a hF => ?_
        refine ls <| q1 hF rfl (e_asg hF rfl) fun a hF => ?_
        refine re <| ?_
        refine tn <| ?_
        refine wp_ret <| br <| tr <| ?_
        obtain rfl := Option.some.inj hm
        exact r2 hF Tryd.results38 rfl rfl ⟨rfl, hS.keep⟩
      ·
        replace hm := itp_f hm hb14
        rcases bdich (decide (p1 = 2)) with hb23 | hb23
        ·
          replace hm := itp_t hm hb23
          replace hF := Fr.as hF (t := 0) (v' := .int .i64 2) rfl (by rw [of_decide_eq_true hb23])
          replace hm := bind_some hm
          obtain ⟨r24, h25, hm⟩ := hm
          refine rg <| ?_
          refine ls <| c1 hF rfl Tryd.call59 (words_ops_c (hp_le _) h25) trivial (fun v w a hR hF => ?_)
          obtain ⟨b26, b27, b28, b29, b30, b31, rfl, hk⟩ := hR
          replace hS := (hS.fresh hk).unsep
          clear hk
          refine ls <| q1 hF rfl (e_move hF rfl) fun a hF => ?_
          refine ls <| q1 hF rfl (e_k (v := .nilFunc) hF rfl (by rfl) (by kernel_rfl)) fun a hF => ?_
          refine ls <| q1 hF rfl (e_asg hF rfl) fun a hF => ?_
          refine re <| ?_
          refine tn <| th <| wp_block <| th <| ?_
          refine rg <| ?_
          refine ls <| q1 hF rfl (e_move hF rfl) fun a hF => ?_
          refine ls <| q1 hF rfl (e_k (v := .bool true) hF rfl (by rfl) (by kernel_rfl)) fun a hF => ?_
          refine ls <| q1 hF rfl (e_asg hF rfl) fun a hF => ?_
          refine re <| ?_
          refine tn <| ct hF rfl <| th <| ?_
          refine rg <| ?_
          refine ls <| q1 hF rfl (e_asg hF rfl) fun a hF => ?_
          refine ls <| q1 hF rfl (e_asg hF rfl) fun a hF => ?_
          refine re <| ?_
          refine tn <| ?_
          refine wp_ret <| br <| tr <| ?_
          obtain rfl := Option.some.inj hm
          exact r2 hF Tryd.results38 rfl rfl ⟨rfl, hS.keep⟩
        ·
          replace hm := itp_f hm hb23
          rcases bdich (decide (p1 = 3)) with hb32 | hb32
          ·
            replace hm := itp_t hm hb32
            replace hF := Fr.as hF (t := 0) (v' := .int .i64 3) rfl (by rw [of_decide_eq_true hb32])
            replace hm := bind_some hm
            obtain ⟨r33, h34, hm⟩ := hm
            refine rg <| ?_
            refine ls <| c1 hF rfl Tryd.call59 (words_ops_c (hp_le _) h34) trivial (fun v w a hR hF => ?_)
            obtain ⟨b35, b36, b37, b38, b39, b40, rfl, hk⟩ := hR
            replace hS := (hS.fresh hk).unsep
            clear hk
            refine ls <| q1 hF rfl (e_move hF rfl) fun a hF => ?_
            refine ls <| q1 hF rfl (e_k (v := .nilFunc) hF rfl (by rfl) (by kernel_rfl)) fun a hF => ?_
            refine ls <| q1 hF rfl (e_asg hF rfl) fun a hF => ?_
            refine re <| ?_
            refine tn <| th <| wp_block <| th <| ?_
            refine rg <| ?_
            refine ls <| q1 hF rfl (e_move hF rfl) fun a hF => ?_
            refine ls <| q1 hF rfl (e_k (v := .bool true) hF rfl (by rfl) (by kernel_rfl)) fun a hF => ?_
            refine ls <| q1 hF rfl (e_asg hF rfl) fun a hF => ?_
            refine re <| ?_
            refine tn <| ct hF rfl <| th <| ?_
            refine rg <| ?_
            refine ls <| q1 hF rfl (e_asg hF rfl) fun a hF => ?_
            refine ls <| q1 hF rfl (e_asg hF rfl) fun a hF => ?_
            refine re <| ?_
            refine tn <| ?_
            refine wp_ret <| br <| tr <| ?_
            obtain rfl := Option.some.inj hm
            exact r2 hF Tryd.results38 rfl rfl ⟨rfl, hS.keep⟩
          ·
            replace hm := itp_f hm hb32
            rcases bdich (decide (p1 = 4)) with hb41 | hb41
            ·
              replace hm := itp_t hm hb41
              replace hF := Fr.as hF (t := 0) (v' := .int .i64 4) rfl (by rw [of_decide_eq_true hb41])
              replace hm := bind_some hm
              obtain ⟨r42, h43, hm⟩ := hm
              refine rg <| ?_
              refine ls <| c1 hF rfl Tryd.call59 (words_ops_c (hp_le _) h43) trivial (fun v w a hR hF => ?_)
              obtain ⟨b44, b45, b46, b47, b48, b49, rfl, hk⟩ := hR
              replace hS := (hS.fresh hk).unsep
              clear hk
              refine ls <| q1 hF rfl (e_move hF rfl) fun a hF => ?_
              refine ls <| q1 hF rfl (e_k (v := .nilFunc) hF rfl (by rfl) (by kernel_rfl)) fun a hF => ?_
              refine ls <| q1 hF rfl (e_asg hF rfl) fun a hF => ?_
              refine re <| ?_
              refine tn <| th <| wp_block <| th <| ?_
              refine rg <| ?_
              refine ls <| q1 hF rfl (e_move hF rfl) fun a hF => ?_
              refine ls <| q1 hF rfl (e_k (v := .bool true) hF rfl (by rfl) (by kernel_rfl)) fun a hF => ?_
              refine ls <| q1 hF rfl (e_asg hF rfl) fun a hF => ?_
              refine re <| ?_
              refine tn <| ct hF rfl <| th <| ?_
              refine rg <| ?_
              refine ls <| q1 hF rfl (e_asg hF rfl) fun a hF => ?_
              refine ls <| q1 hF rfl (e_asg hF rfl) fun a hF => ?_
              refine re <| ?_
              refine tn <| ?_
              refine wp_ret <| br <| tr <| ?_
              obtain rfl := Option.some.inj hm
              exact r2 hF Tryd.results38 rfl rfl ⟨rfl, hS.keep⟩
            ·
              replace hm := itp_f hm hb41
              rcases bdich (decide (p1 = 5)) with hb50 | hb50
              ·
                replace hm := itp_t hm hb50
                replace hF := Fr.as hF (t := 0) (v' := .int .i64 5) rfl (by rw [of_decide_eq_true hb50])
                replace hm := bind_some hm
                obtain ⟨r51, h52, hm⟩ := hm
                refine rg <| ?_
                refine ls <| c1 hF rfl Tryd.call59 (words_ops_c (hp_le _) h52) trivial (fun v w a hR hF => ?_)
                obtain ⟨b53, b54, b55, b56, b57, b58, rfl, hk⟩ := hR
                replace hS := (hS.fresh hk).unsep
                clear hk
                refine ls <| q1 hF rfl (e_move hF rfl) fun a hF => ?_
                refine ls <| q1 hF rfl (e_k (v := .func (.func 73) #[] #[]) hF rfl (by rfl) (by kernel_rfl)) fun a hF => ?_
                refine ls <| q1 hF rfl (e_asg hF rfl) fun a hF => ?_
                refine re <| ?_
                refine tn <| th <| wp_block <| th <| ?_
                refine rg <| ?_
                refine ls <| q1 hF rfl (e_move hF rfl) fun a hF => ?_
                refine ls <| q1 hF rfl (e_k (v := .bool false) hF rfl (by rfl) (by kernel_rfl)) fun a hF => ?_
                refine ls <| q1 hF rfl (e_asg hF rfl) fun a hF => ?_
                refine re <| ?_
                refine tn <| cf hF rfl <| th <| ?_
                refine rg <| ?_
                refine ls <| q1 hF rfl (e_move hF rfl) fun a hF => ?_
                refine ls <| q1 hF rfl ((e_as (e_eql hF rfl rfl) (by rfl))) fun a hF => ?_
                refine ls <| q1 hF rfl (e_move hF rfl) fun a hF => ?_
                refine ls <| gy hF rfl rfl <| q1 hF rfl (e_move hF rfl) fun a hF => ?_
                refine ls <| gy hF rfl rfl <| q1 hF rfl ((e_as (e_eql hF rfl rfl) (by rfl))) fun a hF => ?_
                refine ls <| q1 hF rfl (e_pickF hF rfl rfl) fun a hF => ?_
                refine ls <| q1 hF rfl (e_move hF rfl) fun a hF => ?_
                refine ls <| gn hF rfl rfl rfl rfl fun a hF => ?_
                refine ls <| gn hF rfl rfl rfl rfl fun a hF => ?_
                refine ls <| q1 hF rfl (e_pickF hF rfl rfl) fun a hF => ?_
                refine ls <| q1 hF rfl (e_asg hF rfl) fun a hF => ?_
                refine re <| ?_
                refine tn <| cf hF rfl <| wp_skip <| ?_
                refine bn <| tn <| th <| ?_
                replace hm := bind_some hm
                obtain ⟨r59, h60, hm⟩ := hm
                refine rg <| ?_
                refine ls <| q1 hF rfl (e_move hF rfl) fun a hF => ?_
                refine ls <| q1 hF rfl (e_move hF rfl) fun a hF => ?_
                refine ls <| q1 hF rfl (e_move hF rfl) fun a hF => ?_
                refine ls <| k1 (vs := [.int .i64 p2, .int .i64 p3]) (caps := []) hF rfl rfl Tryd.call73 (words_ops_2_c (hp_le _) h60) ⟨rfl, rfl, trivial⟩ rfl (fun v w a hR hF => ?_)
                obtain ⟨rfl, hk⟩ := hR
                replace hS := hS.pass hk
                clear hk
                refine ls <| q1 hF rfl (e_asg hF rfl) fun a hF => ?_
                refine ls <| q1 hF rfl (e_asg hF rfl) fun a hF => ?_
                refine re <| ?_
                refine tn <| ?_
                refine wp_ret <| ?_
                obtain rfl := Option.some.inj hm
                exact r2 hF Tryd.results38 rfl rfl ⟨rfl, hS.keep⟩
              ·
                replace hm := itp_f hm hb50
                rcases bdich (decide (p1 = 6)) with hb61 | hb61
                ·
                  replace hm := itp_t hm hb61
                  replace hF := Fr.as hF (t := 0) (v' := .int .i64 6) rfl (by rw [of_decide_eq_true hb61])
                  replace hm := bind_some hm
                  obtain ⟨r62, h63, hm⟩ := hm
                  refine rg <| ?_
                  refine ls <| c1 hF rfl Tryd.call59 (words_ops_c (hp_le _) h63) trivial (fun v w a hR hF => ?_)
                  obtain ⟨b64, b65, b66, b67, b68, b69, rfl, hk⟩ := hR
                  replace hS := (hS.fresh hk).unsep
                  clear hk
                  refine ls <| q1 hF rfl (e_move hF rfl) fun a hF => ?_
                  refine ls <| q1 hF rfl (e_k (v := .func (.func 74) #[] #[]) hF rfl (by rfl) (by kernel_rfl)) fun a hF => ?_
                  refine ls <| q1 hF rfl (e_asg hF rfl) fun a hF => ?_
                  refine re <| ?_
                  refine tn <| th <| wp_block <| th <| ?_
                  refine rg <| ?_
                  refine ls <| q1 hF rfl (e_move hF rfl) fun a hF => ?_
                  refine ls <| q1 hF rfl (e_k (v := .bool false) hF rfl (by rfl) (by kernel_rfl)) fun a hF => ?_
                  refine ls <| q1 hF rfl (e_asg hF rfl) fun a hF => ?_
                  refine re <| ?_
                  refine tn <| cf hF rfl <| th <| ?_
                  refine rg <| ?_
                  refine ls <| q1 hF rfl (e_move hF rfl) fun a hF => ?_
                  refine ls <| q1 hF rfl ((e_as (e_eql hF rfl rfl) (by rfl))) fun a hF => ?_
                  refine ls <| q1 hF rfl (e_move hF rfl) fun a hF => ?_
                  refine ls <| gy hF rfl rfl <| q1 hF rfl (e_move hF rfl) fun a hF => ?_
                  refine ls <| gy hF rfl rfl <| q1 hF rfl ((e_as (e_eql hF rfl rfl) (by rfl))) fun a hF => ?_
                  refine ls <| q1 hF rfl (e_pickF hF rfl rfl) fun a hF => ?_
                  refine ls <| q1 hF rfl (e_move hF rfl) fun a hF => ?_
                  refine ls <| gn hF rfl rfl rfl rfl fun a hF => ?_
                  refine ls <| gn hF rfl rfl rfl rfl fun a hF => ?_
                  refine ls <| q1 hF rfl (e_pickF hF rfl rfl) fun a hF => ?_
                  refine ls <| q1 hF rfl (e_asg hF rfl) fun a hF => ?_
                  refine re <| ?_
                  refine tn <| cf hF rfl <| wp_skip <| ?_
                  refine bn <| tn <| th <| ?_
                  replace hm := bind_some hm
                  obtain ⟨r70, h71, hm⟩ := hm
                  refine rg <| ?_
                  refine ls <| q1 hF rfl (e_move hF rfl) fun a hF => ?_
                  refine ls <| q1 hF rfl (e_move hF rfl) fun a hF => ?_
                  refine ls <| q1 hF rfl (e_move hF rfl) fun a hF => ?_
                  refine ls <| k1 (vs := [.int .i64 p2, .int .i64 p3]) (caps := []) hF rfl rfl Tryd.call74 (words_ops_3_c (hp_le _) h71) ⟨rfl, rfl, trivial⟩ rfl (fun v w a hR hF => ?_)
                  obtain ⟨rfl, hk⟩ := hR
                  replace hS := hS.pass hk
                  clear hk
                  refine ls <| q1 hF rfl (e_asg hF rfl) fun a hF => ?_
                  refine ls <| q1 hF rfl (e_asg hF rfl) fun a hF => ?_
                  refine re <| ?_
                  refine tn <| ?_
                  refine wp_ret <| ?_
                  obtain rfl := Option.some.inj hm
                  exact r2 hF Tryd.results38 rfl rfl ⟨rfl, hS.keep⟩
                ·
                  replace hm := itp_f hm hb61
                  rcases bdich (decide (p1 = 7)) with hb72 | hb72
                  ·
                    replace hm := itp_t hm hb72
                    replace hF := Fr.as hF (t := 0) (v' := .int .i64 7) rfl (by rw [of_decide_eq_true hb72])
                    replace hm := bind_some hm
                    obtain ⟨r73, h74, hm⟩ := hm
                    refine rg <| ?_
                    refine ls <| c1 hF rfl Tryd.call59 (words_ops_c (hp_le _) h74) trivial (fun v w a hR hF => ?_)
                    obtain ⟨b75, b76, b77, b78, b79, b80, rfl, hk⟩ := hR
                    replace hS := (hS.fresh hk).unsep
                    clear hk
                    refine ls <| q1 hF rfl (e_move hF rfl) fun a hF => ?_
                    refine ls <| q1 hF rfl (e_k (v := .func (.func 75) #[] #[]) hF rfl (by rfl) (by kernel_rfl)) fun a hF => ?_
                    refine ls <| q1 hF rfl (e_asg hF rfl) fun a hF => ?_
                    refine re <| ?_
                    refine tn <| th <| wp_block <| th <| ?_
                    refine rg <| ?_
                    refine ls <| q1 hF rfl (e_move hF rfl) fun a hF => ?_
                    refine ls <| q1 hF rfl (e_k (v := .bool false) hF rfl (by rfl) (by kernel_rfl)) fun a hF => ?_
                    refine ls <| q1 hF rfl (e_asg hF rfl) fun a hF => ?_
                    refine re <| ?_
                    refine tn <| cf hF rfl <| th <| ?_
                    refine rg <| ?_
                    refine ls <| q1 hF rfl (e_move hF rfl) fun a hF => ?_
                    refine ls <| q1 hF rfl ((e_as (e_eql hF rfl rfl) (by rfl))) fun a hF => ?_
                    refine ls <| q1 hF rfl (e_move hF rfl) fun a hF => ?_
                    refine ls <| gy hF rfl rfl <| q1 hF rfl (e_move hF rfl) fun a hF => ?_
                    refine ls <| gy hF rfl rfl <| q1 hF rfl ((e_as (e_eql hF rfl rfl) (by rfl))) fun a hF => ?_
                    refine ls <| q1 hF rfl (e_pickF hF rfl rfl) fun a hF => ?_
                    refine ls <| q1 hF rfl (e_move hF rfl) fun a hF => ?_
                    refine ls <| gn hF rfl rfl rfl rfl fun a hF => ?_
                    refine ls <| gn hF rfl rfl rfl rfl fun a hF => ?_
                    refine ls <| q1 hF rfl (e_pickF hF rfl rfl) fun a hF => ?_
                    refine ls <| q1 hF rfl (e_asg hF rfl) fun a hF => ?_
                    refine re <| ?_
                    refine tn <| cf hF rfl <| wp_skip <| ?_
                    refine bn <| tn <| th <| ?_
                    replace hm := bind_some hm
                    obtain ⟨r81, h82, hm⟩ := hm
                    refine rg <| ?_
                    refine ls <| q1 hF rfl (e_move hF rfl) fun a hF => ?_
                    refine ls <| q1 hF rfl (e_move hF rfl) fun a hF => ?_
                    refine ls <| q1 hF rfl (e_move hF rfl) fun a hF => ?_
                    refine ls <| k1 (vs := [.int .i64 p2, .int .i64 p3]) (caps := []) hF rfl rfl Tryd.call75 (words_ops_4_c (hp_le _) h82) ⟨rfl, rfl, trivial⟩ rfl (fun v w a hR hF => ?_)
                    obtain ⟨rfl, hk⟩ := hR
                    replace hS := hS.pass hk
                    clear hk
                    refine ls <| q1 hF rfl (e_asg hF rfl) fun a hF => ?_
                    refine ls <| q1 hF rfl (e_asg hF rfl) fun a hF => ?_
                    refine re <| ?_
                    refine tn <| ?_
                    refine wp_ret <| ?_
                    obtain rfl := Option.some.inj hm
                    exact r2 hF Tryd.results38 rfl rfl ⟨rfl, hS.keep⟩
                  ·
                    replace hm := itp_f hm hb72
                    rcases bdich (decide (p1 = 8)) with hb83 | hb83
                    ·
                      replace hm := itp_t hm hb83
                      replace hF := Fr.as hF (t := 0) (v' := .int .i64 8) rfl (by rw [of_decide_eq_true hb83])
                      replace hm := bind_some hm
                      obtain ⟨r84, h85, hm⟩ := hm
                      refine rg <| ?_
                      refine ls <| c1 hF rfl Tryd.call59 (words_ops_c (hp_le _) h85) trivial (fun v w a hR hF => ?_)
                      obtain ⟨b86, b87, b88, b89, b90, b91, rfl, hk⟩ := hR
                      replace hS := (hS.fresh hk).unsep
                      clear hk
                      refine ls <| q1 hF rfl (e_move hF rfl) fun a hF => ?_
                      refine ls <| q1 hF rfl (e_k (v := .func (.func 76) #[] #[]) hF rfl (by rfl) (by kernel_rfl)) fun a hF => ?_
                      refine ls <| q1 hF rfl (e_asg hF rfl) fun a hF => ?_
                      refine re <| ?_
                      refine tn <| th <| wp_block <| th <| ?_
                      refine rg <| ?_
                      refine ls <| q1 hF rfl (e_move hF rfl) fun a hF => ?_
                      refine ls <| q1 hF rfl (e_k (v := .bool false) hF rfl (by rfl) (by kernel_rfl)) fun a hF => ?_
                      refine ls <| q1 hF rfl (e_asg hF rfl) fun a hF => ?_
                      refine re <| ?_
                      refine tn <| cf hF rfl <| th <| ?_
                      refine rg <| ?_
                      refine ls <| q1 hF rfl (e_move hF rfl) fun a hF => ?_
                      refine ls <| q1 hF rfl ((e_as (e_eql hF rfl rfl) (by rfl))) fun a hF => ?_
                      refine ls <| q1 hF rfl (e_move hF rfl) fun a hF => ?_
                      refine ls <| gn hF rfl rfl rfl rfl fun a hF => ?_
                      refine ls <| gn hF rfl rfl rfl rfl fun a hF => ?_
                      refine ls <| q1 hF rfl (e_pickT hF rfl rfl) fun a hF => ?_
                      refine ls <| q1 hF rfl (e_move hF rfl) fun a hF => ?_
                      refine ls <| gy hF rfl rfl <| q1 hF rfl (e_move hF rfl) fun a hF => ?_
                      refine ls <| gy hF rfl rfl <| q1 hF rfl (e_eql hF rfl rfl) fun a hF => ?_
                      refine ls <| q1 hF rfl (e_pickT hF rfl rfl) fun a hF => ?_
                      refine ls <| q1 hF rfl (e_asg hF rfl) fun a hF => ?_
                      refine re <| ?_
                      rcases bdich (decide (p3 = 0)) with hb92 | hb92
                      ·
                        replace hm := itp_t hm hb92
                        refine tn <| ctv hF rfl hb92 <| th <| ?_
                        refine rg <| ?_
                        refine ls <| q1 hF rfl (e_asg hF rfl) fun a hF => ?_
                        refine ls <| q1 hF rfl (e_asg hF rfl) fun a hF => ?_
                        refine re <| ?_
                        refine tn <| ?_
                        refine wp_ret <| br <| tr <| ?_
                        obtain rfl := Option.some.inj hm
                        exact r2 hF Tryd.results38 rfl rfl ⟨rfl, hS.keep⟩
                      ·
                        replace hm := itp_f hm hb92
                        refine tn <| cfv hF rfl hb92 <| wp_skip <| ?_
                        refine bn <| tn <| th <| ?_
                        replace hm := bind_some hm
                        obtain ⟨r93, h94, hm⟩ := hm
                        refine rg <| ?_
                        refine ls <| q1 hF rfl (e_move hF rfl) fun a hF => ?_
                        refine ls <| q1 hF rfl (e_move hF rfl) fun a hF => ?_
                        refine ls <| q1 hF rfl (e_move hF rfl) fun a hF => ?_
                        refine ls <| k1 (vs := [.int .i64 p2, .int .i64 p3]) (caps := []) hF rfl rfl Tryd.call76 (words_ops_5_c (hp_le _) h94) ⟨rfl, rfl, trivial⟩ rfl (fun v w a hR hF => ?_)
                        obtain ⟨rfl, hk⟩ := hR
                        replace hS := hS.pass hk
                        clear hk
                        refine ls <| q1 hF rfl (e_asg hF rfl) fun a hF => ?_
                        refine ls <| q1 hF rfl (e_asg hF rfl) fun a hF => ?_
                        refine re <| ?_
                        refine tn <| ?_
                        refine wp_ret <| ?_
                        obtain rfl := Option.some.inj hm
                        exact r2 hF Tryd.results38 rfl rfl ⟨rfl, hS.keep⟩
                    ·
                      replace hm := itp_f hm hb83
                      rcases bdich (decide (p1 = 9)) with hb95 | hb95
                      ·
                        replace hm := itp_t hm hb95
                        replace hF := Fr.as hF (t := 0) (v' := .int .i64 9) rfl (by rw [of_decide_eq_true hb95])
                        replace hm := bind_some hm
                        obtain ⟨r96, h97, hm⟩ := hm
                        refine rg <| ?_
                        refine ls <| c1 hF rfl Tryd.call59 (words_ops_c (hp_le _) h97) trivial (fun v w a hR hF => ?_)
                        obtain ⟨b98, b99, b100, b101, b102, b103, rfl, hk⟩ := hR
                        replace hS := (hS.fresh hk).unsep
                        clear hk
                        refine ls <| q1 hF rfl (e_move hF rfl) fun a hF => ?_
                        refine ls <| q1 hF rfl (e_k (v := .func (.func 77) #[] #[]) hF rfl (by rfl) (by kernel_rfl)) fun a hF => ?_
                        refine ls <| q1 hF rfl (e_asg hF rfl) fun a hF => ?_
                        refine re <| ?_
                        refine tn <| th <| wp_block <| th <| ?_
                        refine rg <| ?_
                        refine ls <| q1 hF rfl (e_move hF rfl) fun a hF => ?_
                        refine ls <| q1 hF rfl (e_k (v := .bool false) hF rfl (by rfl) (by kernel_rfl)) fun a hF => ?_
                        refine ls <| q1 hF rfl (e_asg hF rfl) fun a hF => ?_
                        refine re <| ?_
                        refine tn <| cf hF rfl <| th <| ?_
                        refine rg <| ?_
                        refine ls <| q1 hF rfl (e_move hF rfl) fun a hF => ?_
                        refine ls <| q1 hF rfl ((e_as (e_eql hF rfl rfl) (by rfl))) fun a hF => ?_
                        refine ls <| q1 hF rfl (e_move hF rfl) fun a hF => ?_
                        refine ls <| gy hF rfl rfl <| q1 hF rfl (e_move hF rfl) fun a hF => ?_
                        refine ls <| gy hF rfl rfl <| q1 hF rfl ((e_as (e_eql hF rfl rfl) (by rfl))) fun a hF => ?_
                        refine ls <| q1 hF rfl (e_pickF hF rfl rfl) fun a hF => ?_
                        refine ls <| q1 hF rfl (e_move hF rfl) fun a hF => ?_
                        refine ls <| gy hF rfl rfl <| q1 hF rfl (e_move hF rfl) fun a hF => ?_
                        refine ls <| gy hF rfl rfl <| q1 hF rfl (e_eql hF rfl rfl) fun a hF => ?_
                        refine ls <| q1 hF rfl (e_pickT hF rfl rfl) fun a hF => ?_
                        refine ls <| q1 hF rfl (e_asg hF rfl) fun a hF => ?_
                        refine re <| ?_
                        rcases bdich (decide (p3 = 0)) with hb104 | hb104
                        ·
                          replace hm := itp_t hm hb104
                          refine tn <| ctv hF rfl hb104 <| th <| ?_
                          refine rg <| ?_
                          refine ls <| q1 hF rfl (e_asg hF rfl) fun a hF => ?_
                          refine ls <| q1 hF rfl (e_asg hF rfl) fun a hF => ?_
                          refine re <| ?_
                          refine tn <| ?_
                          refine wp_ret <| br <| tr <| ?_
                          obtain rfl := Option.some.inj hm
                          exact r2 hF Tryd.results38 rfl rfl ⟨rfl, hS.keep⟩
                        ·
                          replace hm := itp_f hm hb104
                          refine tn <| cfv hF rfl hb104 <| wp_skip <| ?_
                          refine bn <| tn <| th <| ?_
                          replace hm := bind_some hm
                          obtain ⟨r105, h106, hm⟩ := hm
                          refine rg <| ?_
                          refine ls <| q1 hF rfl (e_move hF rfl) fun a hF => ?_
                          refine ls <| q1 hF rfl (e_move hF rfl) fun a hF => ?_
                          refine ls <| q1 hF rfl (e_move hF rfl) fun a hF => ?_
                          refine ls <| k1 (vs := [.int .i64 p2, .int .i64 p3]) (caps := []) hF rfl rfl Tryd.call77 (words_ops_6_c (hp_le _) h106) ⟨rfl, rfl, trivial⟩ rfl (fun v w a hR hF => ?_)
                          obtain ⟨rfl, hk⟩ := hR
                          replace hS := hS.pass hk
                          clear hk
                          refine ls <| q1 hF rfl (e_asg hF rfl) fun a hF => ?_
                          refine ls <| q1 hF rfl (e_asg hF rfl) fun a hF => ?_
                          refine re <| ?_
                          refine tn <| ?_
                          refine wp_ret <| ?_
                          obtain rfl := Option.some.inj hm
                          exact r2 hF Tryd.results38 rfl rfl ⟨rfl, hS.keep⟩
                      ·
                        replace hm := itp_f hm hb95
                        rcases bdich (decide (p1 = 10)) with hb107 | hb107
                        ·
                          replace hm := itp_t hm hb107
                          replace hF := Fr.as hF (t := 0) (v' := .int .i64 10) rfl (by rw [of_decide_eq_true hb107])
                          replace hm := bind_some hm
                          obtain ⟨r108, h109, hm⟩ := hm
                          refine rg <| ?_
                          refine ls <| c1 hF rfl Tryd.call59 (words_ops_c (hp_le _) h109) trivial (fun v w a hR hF => ?_)
                          obtain ⟨b110, b111, b112, b113, b114, b115, rfl, hk⟩ := hR
                          replace hS := (hS.fresh hk).unsep
                          clear hk
                          refine ls <| q1 hF rfl (e_move hF rfl) fun a hF => ?_
                          refine ls <| q1 hF rfl (e_k (v := .func (.func 72) #[] #[.pointer (some ⟨b110, 0, none⟩)]) hF rfl (by rfl) (by kernel_rfl)) fun a hF => ?_
                          refine ls <| q1 hF rfl (e_asg hF rfl) fun a hF => ?_
                          refine re <| ?_
                          refine tn <| th <| wp_block <| th <| ?_
                          refine rg <| ?_
                          refine ls <| q1 hF rfl (e_move hF rfl) fun a hF => ?_
                          refine ls <| q1 hF rfl (e_k (v := .bool false) hF rfl (by rfl) (by kernel_rfl)) fun a hF => ?_
                          refine ls <| q1 hF rfl (e_asg hF rfl) fun a hF => ?_
                          refine re <| ?_
                          refine tn <| cf hF rfl <| th <| ?_
                          refine rg <| ?_
                          refine ls <| q1 hF rfl (e_move hF rfl) fun a hF => ?_
                          refine ls <| q1 hF rfl ((e_as (e_eql hF rfl rfl) (by rfl))) fun a hF => ?_
                          refine ls <| q1 hF rfl (e_move hF rfl) fun a hF => ?_
                          refine ls <| gy hF rfl rfl <| q1 hF rfl (e_move hF rfl) fun a hF => ?_
                          refine ls <| gy hF rfl rfl <| q1 hF rfl ((e_as (e_eql hF rfl rfl) (by rfl))) fun a hF => ?_
                          refine ls <| q1 hF rfl (e_pickF hF rfl rfl) fun a hF => ?_
                          refine ls <| q1 hF rfl (e_move hF rfl) fun a hF => ?_
                          refine ls <| gn hF rfl rfl rfl rfl fun a hF => ?_
                          refine ls <| gn hF rfl rfl rfl rfl fun a hF => ?_
                          refine ls <| q1 hF rfl (e_pickF hF rfl rfl) fun a hF => ?_
                          refine ls <| q1 hF rfl (e_asg hF rfl) fun a hF => ?_
                          refine re <| ?_
                          refine tn <| cf hF rfl <| wp_skip <| ?_
                          refine bn <| tn <| th <| ?_
                          replace hm := bind_some hm
                          obtain ⟨r116, h117, hm⟩ := hm
                          refine rg <| ?_
                          refine ls <| q1 hF rfl (e_move hF rfl) fun a hF => ?_
                          refine ls <| q1 hF rfl (e_move hF rfl) fun a hF => ?_
                          refine ls <| q1 hF rfl (e_move hF rfl) fun a hF => ?_
                          refine ls <| k1 (vs := [.int .i64 p2, .int .i64 p3]) (caps := [.pointer (some ⟨b110, 0, none⟩)]) hF rfl rfl Tryd.call72 (words_ops_1_1__ops_7_c (hp_le _) (St.blkO hS (.head _)) h117) ⟨rfl, rfl, trivial⟩ rfl (fun v w a hR hF => ?_)
                          obtain ⟨rfl, hk⟩ := hR
                          replace hS := hS.pass hk
                          clear hk
                          refine ls <| q1 hF rfl (e_asg hF rfl) fun a hF => ?_
                          refine ls <| q1 hF rfl (e_asg hF rfl) fun a hF => ?_
                          refine re <| ?_
                          refine tn <| ?_
                          refine wp_ret <| ?_
                          obtain rfl := Option.some.inj hm
                          exact r2 hF Tryd.results38 rfl rfl ⟨rfl, hS.keep⟩
                        ·
                          replace hm := itp_f hm hb107
                          rcases bdich (decide (p1 = 11)) with hb118 | hb118
                          ·
                            replace hm := itp_t hm hb118
                            replace hF := Fr.as hF (t := 0) (v' := .int .i64 11) rfl (by rw [of_decide_eq_true hb118])
                            replace hm := bind_some hm
                            obtain ⟨r119, h120, hm⟩ := hm
                            refine rg <| ?_
                            refine ls <| c1 hF rfl Tryd.call59 (words_ops_c (hp_le _) h120) trivial (fun v w a hR hF => ?_)
                            obtain ⟨b121, b122, b123, b124, b125, b126, rfl, hk⟩ := hR
                            replace hS := (hS.fresh hk).unsep
                            clear hk
                            refine ls <| q1 hF rfl (e_move hF rfl) fun a hF => ?_
                            refine ls <| q1 hF rfl (e_k (v := .func (.func 72) #[] #[.pointer (some ⟨b122, 0, none⟩)]) hF rfl (by rfl) (by kernel_rfl)) fun a hF => ?_
                            refine ls <| q1 hF rfl (e_asg hF rfl) fun a hF => ?_
                            refine re <| ?_
                            refine tn <| th <| wp_block <| th <| ?_
                            refine rg <| ?_
                            refine ls <| q1 hF rfl (e_move hF rfl) fun a hF => ?_
                            refine ls <| q1 hF rfl (e_k (v := .bool false) hF rfl (by rfl) (by kernel_rfl)) fun a hF => ?_
                            refine ls <| q1 hF rfl (e_asg hF rfl) fun a hF => ?_
                            refine re <| ?_
                            refine tn <| cf hF rfl <| th <| ?_
                            refine rg <| ?_
                            refine ls <| q1 hF rfl (e_move hF rfl) fun a hF => ?_
                            refine ls <| q1 hF rfl ((e_as (e_eql hF rfl rfl) (by rfl))) fun a hF => ?_
                            refine ls <| q1 hF rfl (e_move hF rfl) fun a hF => ?_
                            refine ls <| gy hF rfl rfl <| q1 hF rfl (e_move hF rfl) fun a hF => ?_
                            refine ls <| gy hF rfl rfl <| q1 hF rfl ((e_as (e_eql hF rfl rfl) (by rfl))) fun a hF => ?_
                            refine ls <| q1 hF rfl (e_pickF hF rfl rfl) fun a hF => ?_
                            refine ls <| q1 hF rfl (e_move hF rfl) fun a hF => ?_
                            refine ls <| gn hF rfl rfl rfl rfl fun a hF => ?_
                            refine ls <| gn hF rfl rfl rfl rfl fun a hF => ?_
                            refine ls <| q1 hF rfl (e_pickF hF rfl rfl) fun a hF => ?_
                            refine ls <| q1 hF rfl (e_asg hF rfl) fun a hF => ?_
                            refine re <| ?_
                            refine tn <| cf hF rfl <| wp_skip <| ?_
                            refine bn <| tn <| th <| ?_
                            replace hm := bind_some hm
                            obtain ⟨r127, h128, hm⟩ := hm
                            refine rg <| ?_
                            refine ls <| q1 hF rfl (e_move hF rfl) fun a hF => ?_
                            refine ls <| q1 hF rfl (e_move hF rfl) fun a hF => ?_
                            refine ls <| q1 hF rfl (e_move hF rfl) fun a hF => ?_
                            refine ls <| k1 (vs := [.int .i64 p2, .int .i64 p3]) (caps := [.pointer (some ⟨b122, 0, none⟩)]) hF rfl rfl Tryd.call72 (words_ops_1_1__ops_8_c (hp_le _) (St.blkO hS (.tail _ (.head _))) h128) ⟨rfl, rfl, trivial⟩ rfl (fun v w a hR hF => ?_)
                            obtain ⟨rfl, hk⟩ := hR
                            replace hS := hS.pass hk
                            clear hk
                            refine ls <| q1 hF rfl (e_asg hF rfl) fun a hF => ?_
                            refine ls <| q1 hF rfl (e_asg hF rfl) fun a hF => ?_
                            refine re <| ?_
                            refine tn <| ?_
                            refine wp_ret <| ?_
                            obtain rfl := Option.some.inj hm
                            exact r2 hF Tryd.results38 rfl rfl ⟨rfl, hS.keep⟩
                          ·
                            replace hm := itp_f hm hb118
                            rcases bdich (decide (p1 = 12)) with hb129 | hb129
                            ·
                              replace hm := itp_t hm hb129
                              replace hF := Fr.as hF (t := 0) (v' := .int .i64 12) rfl (by rw [of_decide_eq_true hb129])
                              replace hm := bind_some hm
                              obtain ⟨r130, h131, hm⟩ := hm
                              refine rg <| ?_
                              refine ls <| c1 hF rfl Tryd.call59 (words_ops_c (hp_le _) h131) trivial (fun v w a hR hF => ?_)
                              obtain ⟨b132, b133, b134, b135, b136, b137, rfl, hk⟩ := hR
                              replace hS := (hS.fresh hk).unsep
                              clear hk
                              refine ls <| q1 hF rfl (e_move hF rfl) fun a hF => ?_
                              refine ls <| q1 hF rfl (e_k (v := .func (.func 72) #[] #[.pointer (some ⟨b134, 0, none⟩)]) hF rfl (by rfl) (by kernel_rfl)) fun a hF => ?_
                              refine ls <| q1 hF rfl (e_asg hF rfl) fun a hF => ?_
                              refine re <| ?_
                              refine tn <| th <| wp_block <| th <| ?_
                              refine rg <| ?_
                              refine ls <| q1 hF rfl (e_move hF rfl) fun a hF => ?_
                              refine ls <| q1 hF rfl (e_k (v := .bool false) hF rfl (by rfl) (by kernel_rfl)) fun a hF => ?_
                              refine ls <| q1 hF rfl (e_asg hF rfl) fun a hF => ?_
                              refine re <| ?_
                              refine tn <| cf hF rfl <| th <| ?_
                              refine rg <| ?_
                              refine ls <| q1 hF rfl (e_move hF rfl) fun a hF => ?_
                              refine ls <| q1 hF rfl ((e_as (e_eql hF rfl rfl) (by rfl))) fun a hF => ?_
                              refine ls <| q1 hF rfl (e_move hF rfl) fun a hF => ?_
                              refine ls <| gy hF rfl rfl <| q1 hF rfl (e_move hF rfl) fun a hF => ?_
                              refine ls <| gy hF rfl rfl <| q1 hF rfl ((e_as (e_eql hF rfl rfl) (by rfl))) fun a hF => ?_
                              refine ls <| q1 hF rfl (e_pickF hF rfl rfl) fun a hF => ?_
                              refine ls <| q1 hF rfl (e_move hF rfl) fun a hF => ?_
                              refine ls <| gn hF rfl rfl rfl rfl fun a hF => ?_
                              refine ls <| gn hF rfl rfl rfl rfl fun a hF => ?_
                              refine ls <| q1 hF rfl (e_pickF hF rfl rfl) fun a hF => ?_
                              refine ls <| q1 hF rfl (e_asg hF rfl) fun a hF => ?_
                              refine re <| ?_
                              refine tn <| cf hF rfl <| wp_skip <| ?_
                              refine bn <| tn <| th <| ?_
                              replace hm := bind_some hm
                              obtain ⟨r138, h139, hm⟩ := hm
                              refine rg <| ?_
                              refine ls <| q1 hF rfl (e_move hF rfl) fun a hF => ?_
                              refine ls <| q1 hF rfl (e_move hF rfl) fun a hF => ?_
                              refine ls <| q1 hF rfl (e_move hF rfl) fun a hF => ?_
                              refine ls <| k1 (vs := [.int .i64 p2, .int .i64 p3]) (caps := [.pointer (some ⟨b134, 0, none⟩)]) hF rfl rfl Tryd.call72 (words_ops_1_1__ops_9_c (hp_le _) (St.blkO hS (.tail _ (.tail _ (.head _)))) h139) ⟨rfl, rfl, trivial⟩ rfl (fun v w a hR hF => ?_)
                              obtain ⟨rfl, hk⟩ := hR
                              replace hS := hS.pass hk
                              clear hk
                              refine ls <| q1 hF rfl (e_asg hF rfl) fun a hF => ?_
                              refine ls <| q1 hF rfl (e_asg hF rfl) fun a hF => ?_
                              refine re <| ?_
                              refine tn <| ?_
                              refine wp_ret <| ?_
                              obtain rfl := Option.some.inj hm
                              exact r2 hF Tryd.results38 rfl rfl ⟨rfl, hS.keep⟩
                            ·
                              replace hm := itp_f hm hb129
                              rcases bdich (decide (p1 = 13)) with hb140 | hb140
                              ·
                                replace hm := itp_t hm hb140
                                replace hF := Fr.as hF (t := 0) (v' := .int .i64 13) rfl (by rw [of_decide_eq_true hb140])
                                replace hm := bind_some hm
                                obtain ⟨r141, h142, hm⟩ := hm
                                refine rg <| ?_
                                refine ls <| c1 hF rfl Tryd.call59 (words_ops_c (hp_le _) h142) trivial (fun v w a hR hF => ?_)
                                obtain ⟨b143, b144, b145, b146, b147, b148, rfl, hk⟩ := hR
                                replace hS := (hS.fresh hk).unsep
                                clear hk
                                refine ls <| q1 hF rfl (e_move hF rfl) fun a hF => ?_
                                refine ls <| q1 hF rfl (e_k (v := .func (.func 72) #[] #[.pointer (some ⟨b146, 0, none⟩)]) hF rfl (by rfl) (by kernel_rfl)) fun a hF => ?_
                                refine ls <| q1 hF rfl (e_asg hF rfl) fun a hF => ?_
                                refine re <| ?_
                                refine tn <| th <| wp_block <| th <| ?_
                                refine rg <| ?_
                                refine ls <| q1 hF rfl (e_move hF rfl) fun a hF => ?_
                                refine ls <| q1 hF rfl (e_k (v := .bool false) hF rfl (by rfl) (by kernel_rfl)) fun a hF => ?_
                                refine ls <| q1 hF rfl (e_asg hF rfl) fun a hF => ?_
                                refine re <| ?_
                                refine tn <| cf hF rfl <| th <| ?_
                                refine rg <| ?_
                                refine ls <| q1 hF rfl (e_move hF rfl) fun a hF => ?_
                                refine ls <| q1 hF rfl ((e_as (e_eql hF rfl rfl) (by rfl))) fun a hF => ?_
                                refine ls <| q1 hF rfl (e_move hF rfl) fun a hF => ?_
                                refine ls <| gy hF rfl rfl <| q1 hF rfl (e_move hF rfl) fun a hF => ?_
                                refine ls <| gy hF rfl rfl <| q1 hF rfl ((e_as (e_eql hF rfl rfl) (by rfl))) fun a hF => ?_
                                refine ls <| q1 hF rfl (e_pickF hF rfl rfl) fun a hF => ?_
                                refine ls <| q1 hF rfl (e_move hF rfl) fun a hF => ?_
                                refine ls <| gn hF rfl rfl rfl rfl fun a hF => ?_
                                refine ls <| gn hF rfl rfl rfl rfl fun a hF => ?_
                                refine ls <| q1 hF rfl (e_pickF hF rfl rfl) fun a hF => ?_
                                refine ls <| q1 hF rfl (e_asg hF rfl) fun a hF => ?_
                                refine re <| ?_
                                refine tn <| cf hF rfl <| wp_skip <| ?_
                                refine bn <| tn <| th <| ?_
                                replace hm := bind_some hm
                                obtain ⟨r149, h150, hm⟩ := hm
                                refine rg <| ?_
                                refine ls <| q1 hF rfl (e_move hF rfl) fun a hF => ?_
                                refine ls <| q1 hF rfl (e_move hF rfl) fun a hF => ?_
                                refine ls <| q1 hF rfl (e_move hF rfl) fun a hF => ?_
                                refine ls <| k1 (vs := [.int .i64 p2, .int .i64 p3]) (caps := [.pointer (some ⟨b146, 0, none⟩)]) hF rfl rfl Tryd.call72 (words_ops_1_1__ops_10_c (hp_le _) (St.blkO hS (.tail _ (.tail _ (.tail _ (.head _))))) h150) ⟨rfl, rfl, trivial⟩ rfl (fun v w a hR hF => ?_)
                                obtain ⟨rfl, hk⟩ := hR
                                replace hS := hS.pass hk
                                clear hk
                                refine ls <| q1 hF rfl (e_asg hF rfl) fun a hF => ?_
                                refine ls <| q1 hF rfl (e_asg hF rfl) fun a hF => ?_
                                refine re <| ?_
                                refine tn <| ?_
                                refine wp_ret <| ?_
                                obtain rfl := Option.some.inj hm
                                exact r2 hF Tryd.results38 rfl rfl ⟨rfl, hS.keep⟩
                              ·
                                replace hm := itp_f hm hb140
                                rcases bdich (decide (p1 = 14)) with hb151 | hb151
                                ·
                                  replace hm := itp_t hm hb151
                                  replace hF := Fr.as hF (t := 0) (v' := .int .i64 14) rfl (by rw [of_decide_eq_true hb151])
                                  replace hm := bind_some hm
                                  obtain ⟨r152, h153, hm⟩ := hm
                                  refine rg <| ?_
                                  refine ls <| c1 hF rfl Tryd.call59 (words_ops_c (hp_le _) h153) trivial (fun v w a hR hF => ?_)
                                  obtain ⟨b154, b155, b156, b157, b158, b159, rfl, hk⟩ := hR
                                  replace hS := (hS.fresh hk).unsep
                                  clear hk
                                  refine ls <| q1 hF rfl (e_move hF rfl) fun a hF => ?_
                                  refine ls <| q1 hF rfl (e_k (v := .func (.func 72) #[] #[.pointer (some ⟨b158, 0, none⟩)]) hF rfl (by rfl) (by kernel_rfl)) fun a hF => ?_
                                  refine ls <| q1 hF rfl (e_asg hF rfl) fun a hF => ?_
                                  refine re <| ?_
                                  refine tn <| th <| wp_block <| th <| ?_
                                  refine rg <| ?_
                                  refine ls <| q1 hF rfl (e_move hF rfl) fun a hF => ?_
                                  refine ls <| q1 hF rfl (e_k (v := .bool false) hF rfl (by rfl) (by kernel_rfl)) fun a hF => ?_
                                  refine ls <| q1 hF rfl (e_asg hF rfl) fun a hF => ?_
                                  refine re <| ?_
                                  refine tn <| cf hF rfl <| th <| ?_
                                  refine rg <| ?_
                                  refine ls <| q1 hF rfl (e_move hF rfl) fun a hF => ?_
                                  refine ls <| q1 hF rfl ((e_as (e_eql hF rfl rfl) (by rfl))) fun a hF => ?_
                                  refine ls <| q1 hF rfl (e_move hF rfl) fun a hF => ?_
                                  refine ls <| gy hF rfl rfl <| q1 hF rfl (e_move hF rfl) fun a hF => ?_
                                  refine ls <| gy hF rfl rfl <| q1 hF rfl ((e_as (e_eql hF rfl rfl) (by rfl))) fun a hF => ?_
                                  refine ls <| q1 hF rfl (e_pickF hF rfl rfl) fun a hF => ?_
                                  refine ls <| q1 hF rfl (e_move hF rfl) fun a hF => ?_
                                  refine ls <| gn hF rfl rfl rfl rfl fun a hF => ?_
                                  refine ls <| gn hF rfl rfl rfl rfl fun a hF => ?_
                                  refine ls <| q1 hF rfl (e_pickF hF rfl rfl) fun a hF => ?_
                                  refine ls <| q1 hF rfl (e_asg hF rfl) fun a hF => ?_
                                  refine re <| ?_
                                  refine tn <| cf hF rfl <| wp_skip <| ?_
                                  refine bn <| tn <| th <| ?_
                                  replace hm := bind_some hm
                                  obtain ⟨r160, h161, hm⟩ := hm
                                  refine rg <| ?_
                                  refine ls <| q1 hF rfl (e_move hF rfl) fun a hF => ?_
                                  refine ls <| q1 hF rfl (e_move hF rfl) fun a hF => ?_
                                  refine ls <| q1 hF rfl (e_move hF rfl) fun a hF => ?_
                                  refine ls <| k1 (vs := [.int .i64 p2, .int .i64 p3]) (caps := [.pointer (some ⟨b158, 0, none⟩)]) hF rfl rfl Tryd.call72 (words_ops_1_1__ops_11_c (hp_le _) (St.blkO hS (.tail _ (.tail _ (.tail _ (.tail _ (.head _)))))) h161) ⟨rfl, rfl, trivial⟩ rfl (fun v w a hR hF => ?_)
                                  obtain ⟨rfl, hk⟩ := hR
                                  replace hS := hS.pass hk
                                  clear hk
                                  refine ls <| q1 hF rfl (e_asg hF rfl) fun a hF => ?_
                                  refine ls <| q1 hF rfl (e_asg hF rfl) fun a hF => ?_
                                  refine re <| ?_
                                  refine tn <| ?_
                                  refine wp_ret <| ?_
                                  obtain rfl := Option.some.inj hm
                                  exact r2 hF Tryd.results38 rfl rfl ⟨rfl, hS.keep⟩
                                ·
                                  replace hm := itp_f hm hb151
                                  rcases bdich (decide (p1 = 15)) with hb162 | hb162
                                  ·
                                    replace hm := itp_t hm hb162
                                    replace hF := Fr.as hF (t := 0) (v' := .int .i64 15) rfl (by rw [of_decide_eq_true hb162])
                                    replace hm := bind_some hm
                                    obtain ⟨r163, h164, hm⟩ := hm
                                    refine rg <| ?_
                                    refine ls <| c1 hF rfl Tryd.call59 (words_ops_c (hp_le _) h164) trivial (fun v w a hR hF => ?_)
                                    obtain ⟨b165, b166, b167, b168, b169, b170, rfl, hk⟩ := hR
                                    replace hS := (hS.fresh hk).unsep
                                    clear hk
                                    refine ls <| q1 hF rfl (e_move hF rfl) fun a hF => ?_
                                    refine ls <| q1 hF rfl (e_k (v := .func (.func 72) #[] #[.pointer (some ⟨b170, 0, none⟩)]) hF rfl (by rfl) (by kernel_rfl)) fun a hF => ?_
                                    refine ls <| q1 hF rfl (e_asg hF rfl) fun a hF => ?_
                                    refine re <| ?_
                                    refine tn <| th <| wp_block <| th <| ?_
                                    refine rg <| ?_
                                    refine ls <| q1 hF rfl (e_move hF rfl) fun a hF => ?_
                                    refine ls <| q1 hF rfl (e_k (v := .bool false) hF rfl (by rfl) (by kernel_rfl)) fun a hF => ?_
                                    refine ls <| q1 hF rfl (e_asg hF rfl) fun a hF => ?_
                                    refine re <| ?_
                                    refine tn <| cf hF rfl <| th <| ?_
                                    refine rg <| ?_
                                    refine ls <| q1 hF rfl (e_move hF rfl) fun a hF => ?_
                                    refine ls <| q1 hF rfl ((e_as (e_eql hF rfl rfl) (by rfl))) fun a hF => ?_
                                    refine ls <| q1 hF rfl (e_move hF rfl) fun a hF => ?_
                                    refine ls <| gy hF rfl rfl <| q1 hF rfl (e_move hF rfl) fun a hF => ?_
                                    refine ls <| gy hF rfl rfl <| q1 hF rfl ((e_as (e_eql hF rfl rfl) (by rfl))) fun a hF => ?_
                                    refine ls <| q1 hF rfl (e_pickF hF rfl rfl) fun a hF => ?_
                                    refine ls <| q1 hF rfl (e_move hF rfl) fun a hF => ?_
                                    refine ls <| gn hF rfl rfl rfl rfl fun a hF => ?_
                                    refine ls <| gn hF rfl rfl rfl rfl fun a hF => ?_
                                    refine ls <| q1 hF rfl (e_pickF hF rfl rfl) fun a hF => ?_
                                    refine ls <| q1 hF rfl (e_asg hF rfl) fun a hF => ?_
                                    refine re <| ?_
                                    refine tn <| cf hF rfl <| wp_skip <| ?_
                                    refine bn <| tn <| th <| ?_
                                    replace hm := bind_some hm
                                    obtain ⟨r171, h172, hm⟩ := hm
                                    refine rg <| ?_
                                    refine ls <| q1 hF rfl (e_move hF rfl) fun a hF => ?_
                                    refine ls <| q1 hF rfl (e_move hF rfl) fun a hF => ?_
                                    refine ls <| q1 hF rfl (e_move hF rfl) fun a hF => ?_
                                    refine ls <| k1 (vs := [.int .i64 p2, .int .i64 p3]) (caps := [.pointer (some ⟨b170, 0, none⟩)]) hF rfl rfl Tryd.call72 (words_ops_1_1__ops_12_c (hp_le _) (St.blkO hS (.tail _ (.tail _ (.tail _ (.tail _ (.tail _ (.head _))))))) h172) ⟨rfl, rfl, trivial⟩ rfl (fun v w a hR hF => ?_)
                                    obtain ⟨rfl, hk⟩ := hR
                                    replace hS := hS.pass hk
                                    clear hk
                                    refine ls <| q1 hF rfl (e_asg hF rfl) fun a hF => ?_
                                    refine ls <| q1 hF rfl (e_asg hF rfl) fun a hF => ?_
                                    refine re <| ?_
                                    refine tn <| ?_
                                    refine wp_ret <| ?_
                                    obtain rfl := Option.some.inj hm
                                    exact r2 hF Tryd.results38 rfl rfl ⟨rfl, hS.keep⟩
                                  ·
                                    replace hm := itp_f hm hb162
                                    cases hm
end Go.LM.CODE
