/- Walks, lifted by program. No condition beyond each theorem's own premises. -/
import Derived.Test.YtfpdddablkocoaaDoorCDQCodeSame3
namespace Go.LM.CODE
open Go Go.LL Go.MD Go.LM Go.Proofs Go.MD.CODE

set_option maxRecDepth 100000 in
theorem leadlinelaw08_CodeSame_c {N : Nat} {w0 : World} {H : PH} (hH : H.le w0) (hT : Tab H) {oa2 : Option Addr} {cap3 : Nat} {p1 : (List api_Node)} (hc4 : p1.length ≤ cap3) (hr5 : SR H oa2 p1) {oa7 : Option Addr} {cap8 : Nat} {p6 : (List Str)} (hc9 : p6.length ≤ cap8) (hr10 : SR H oa7 p6) {p11 : Int} {r : Bool} (hm : leadlinelaw08_CodeSame N p1 p6 p11 = some r) : Tot Tryd.prog 5 #[.slice oa2 p1.length cap3, .slice oa7 p6.length cap8, .int .i64 p11] w0 (fun v w' => v = .bool r ∧ Keep Nil w0 w') := by
  unfold leadlinelaw08_CodeSame at hm
  refine fn0 (args := [.slice oa2 p1.length cap3, .slice oa7 p6.length cap8, .int .i64 p11]) (F := [(0, .slice oa2 p1.length cap3), (1, .slice oa7 p6.length cap8), (2, .int .i64 p11)]) Tryd.func5 rfl Tryd.ntmps5 rfl rfl fun a hF => ?_
  have hS : St w0 Nil [H] [] w0 := start1 hH
  refine th <| ?_
  refine rg <| ?_
  refine ls <| q1 hF rfl (e_asg hF rfl) fun a hF => ?_
  refine re <| ?_
  refine tn <| th <| ?_
  replace hm := bind_some hm
  obtain ⟨r12, h13, hm⟩ := hm
  refine rg <| ?_
  refine ls <| q1 hF rfl (e_move hF rfl) fun a hF => ?_
  refine ls <| c1 hF rfl Tryd.call9 (leadlinelaw03_Cut_c (hp_le _) hc4 (St.srH hS hr5) h13) ⟨rfl, trivial⟩ (fun v w a hR hF => ?_)
  obtain ⟨oa14, cap15, vs16, rfl, hv17, hk⟩ := hR
  replace hS := hS.fresh hk
  clear hk
  replace hv17 := hv17 H
  refine ls <| q1 hF rfl (e_asg hF rfl) fun a hF => ?_
  refine re <| ?_
  refine tn <| th <| ?_
  replace hm := bind_some hm
  obtain ⟨r19, h20, hm⟩ := hm
  refine rg <| ?_
  refine ls <| q1 hF rfl (e_move hF rfl) fun a hF => ?_
  refine ls <| c1 hF rfl Tryd.call10 (leadlinelaw08_few_c (hp_le _) hc9 (St.srH hS hr10) h20) ⟨rfl, trivial⟩ (fun v w a hR hF => ?_)
  obtain ⟨oa21, cap22, vs23, rfl, hv24, hk⟩ := hR
  replace hS := hS.fresh hk
  clear hk
  replace hv24 := hv24 H
  refine ls <| q1 hF rfl (e_asg hF rfl) fun a hF => ?_
  refine re <| ?_
  refine tn <| th <| ?_
  refine rg <| ?_
  refine ls <| a_bsl (e := 3) (sz := 1) [] hF rfl hS rfl rfl rfl (fun w => by kernel_rfl) fun b27 w a hS hF => ?_
  have hv26 : Rows (α := Int) H [] [] := .nil
  refine ls <| q1 hF rfl (e_asg hF rfl) fun a hF => ?_
  refine re <| ?_
  refine tn <| th <| th <| ?_
  refine rg <| ?_
  refine ls <| q1 hF rfl (e_asg hF rfl) fun a hF => ?_
  refine re <| ?_
  refine tn <| midK (fun a w => ∃ (vA2 : (List Int)) (HA1 : PH) (oaA3 : Option Addr) (capA4 : Nat) (vsA5 : List Value), (leadlinelaw08_CodeSame_j1 N r12 r19) vA2 = some r ∧ Ext w0 H HA1 ∧ Fr 113 [(0, .slice oa14 r12.length cap15), (1, .slice oa21 r19.length cap22), (7, .slice oaA3 vA2.length capA4)] a ∧ St w0 Nil [HA1] [sla 39 4 oa14 r12.length cap15 vs16, sla 9 1 oa21 r19.length cap22 vs23, sla 3 1 oaA3 vA2.length capA4 vsA5] w ∧ Rows HA1 vsA5 vA2) ?_ ?_
  ·
    replace hS := hS.pickL (.cons (.tail (.tail .head)) (.cons (.tail .head) (.cons .head .nil)))
    refine wp_block <| lp (α := Nat × (List Int) × Int) (fun (gh : Nat × (List Int) × Int) a w => match gh with | (nn2, vB2, vB8) => ∃ (HB1 : PH) (oaB3 : Option Addr) (capB4 : Nat) (vsB5 : List Value), (leadlinelaw08_CodeSame_l2 N (leadlinelaw08_CodeSame_j1 N r12 r19) p11 r19) nn2 vB2 vB8 = some r ∧ Ext w0 H HB1 ∧ Fr 113 [(0, .slice oa14 r12.length cap15), (1, .slice oa21 r19.length cap22), (2, .int .i64 p11), (7, .slice oaB3 vB2.length capB4), (8, .int .i64 vB8)] a ∧ St w0 Nil [HB1] [sla 39 4 oa14 r12.length cap15 vs16, sla 9 1 oa21 r19.length cap22 vs23, sla 3 1 oaB3 vB2.length capB4 vsB5] w ∧ Rows HB1 vsB5 vB2) (fun gh => gh.1) (N, [], 0) ⟨H, (some ⟨b27, 0, none⟩), 0, [], hm, (Ext.refl _ _), hF.has ⟨rfl, rfl, rfl, rfl, rfl, trivial⟩, hS, hv26⟩ ?_
    clear hm hF hS
    rintro ⟨nn2, vB2, vB8⟩ a w ⟨HB1, oaB3, capB4, vsB5, hm, hxHB1, hF, hS, hvB6⟩
    obtain _ | nn2 := nn2
    · simp [leadlinelaw08_CodeSame_l2] at hm
    rw [leadlinelaw08_CodeSame_l2] at hm
    refine th <| th <| ?_
    refine rg <| ?_
    refine ls <| q1 hF rfl (e_move hF rfl) fun a hF => ?_
    refine ls <| q1 hF rfl (e_move hF rfl) fun a hF => ?_
    refine ls <| q1 hF rfl (e_lenL (α := Str) (xs := r19) hF Tryd.runUnderlying23 rfl) fun a hF => ?_
    refine ls <| q1 hF rfl (e_lss hF rfl rfl) fun a hF => ?_
    refine re <| ?_
    rcases bdich (decide (vB8 < (r19.length : Int))) with hb29 | hb29
    ·
      replace hm := itp_t hm hb29
      refine tn <| ctv hF rfl hb29 <| wp_skip <| ?_
      refine tn <| th <| wp_block <| ?_
      replace hm := bind_some hm
      obtain ⟨l33, h34, hm⟩ := hm
      refine rg <| ?_
      refine ls <| q1 hF rfl (e_move hF rfl) fun a hF => ?_
      refine ls <| q1 hF rfl (e_move hF rfl) fun a hF => ?_
      refine ls <| q1 hF rfl (e_move hF rfl) fun a hF => ?_
      refine ls <| q1 hF rfl (e_move hF rfl) fun a hF => ?_
      refine ls <| q1 hF rfl (e_mul hF rfl rfl) fun a hF => ?_
      refine ls <| q1 hF rfl (e_add hF rfl rfl) fun a hF => ?_
      refine ls <| a_bsl (e := 3) (sz := 1) [.int .i64 (IntKind.i64.wrap (p11 + (IntKind.i64.wrap (vB8 * p11))))] hF rfl hS rfl rfl rfl (fun w => by kernel_rfl) fun b31 w a hS hF => ?_
      have hv30 : Rows (α := Int) HB1 [.int .i64 (IntKind.i64.wrap (p11 + (IntKind.i64.wrap (vB8 * p11))))] ([(IntKind.i64.wrap (p11 + (IntKind.i64.wrap (vB8 * p11))))] : List Int) := (.cons (c := [.int .i64 (IntKind.i64.wrap (p11 + (IntKind.i64.wrap (vB8 * p11))))]) rfl .nil)
      refine ls <| m_app (α := Int) (xs := vB2) (ys := ([(IntKind.i64.wrap (p11 + (IntKind.i64.wrap (vB8 * p11))))] : List Int)) hF rfl hS Tryd.underlying33 info3 rfl (by decide) rfl rfl rfl (.tail _ (.tail _ (.tail _ (.head _)))) hvB6 (hS.rdO (.head _)) hv30 h34 fun oa35 cap36 vs37 w a hv38 hU hF => ?_
      replace hS := hU _ (.tail (.tail (.tail .head)))
      clear hU
      replace hS := hS.drop .head
      refine ls <| q1 hF rfl (e_asg hF rfl) fun a hF => ?_
      refine re <| ?_
      refine bn <| tn <| ?_
      refine rg <| ?_
      refine ls <| q1 hF rfl (e_move hF rfl) fun a hF => ?_
      refine ls <| q1 hF rfl (e_add hF rfl rfl) fun a hF => ?_
      refine ls <| q1 hF rfl (e_asg hF rfl) fun a hF => ?_
      refine re <| ?_
      refine tn <| ?_
      exact ⟨(nn2, l33, (IntKind.i64.wrap (vB8 + 1))), ⟨HB1, oa35, cap36, vs37, hm, hxHB1, hF.has ⟨rfl, rfl, rfl, rfl, rfl, trivial⟩, hS, hv38⟩, Nat.lt_succ_self _⟩
    ·
      replace hm := itp_f hm hb29
      refine tn <| cfv hF rfl hb29 <| ?_
      refine wp_exit <| tx <| tx <| bx <| ?_
      refine tn <| ?_
      exact ⟨vB2, HB1, oaB3, capB4, vsB5, hm, hxHB1, hF.has ⟨rfl, rfl, rfl, trivial⟩, hS, hvB6⟩
  clear hm hF hS
  rintro a w ⟨vA2, HA1, oaA3, capA4, vsA5, hm, hxHA1, hF, hS, hvA6⟩
  unfold leadlinelaw08_CodeSame_j1 at hm
  refine th <| ?_
  replace hm := bind_some hm
  obtain ⟨r39, h40, hm⟩ := hm
  refine rg <| ?_
  refine ls <| q1 hF rfl (e_move hF rfl) fun a hF => ?_
  refine ls <| q1 hF rfl (e_move hF rfl) fun a hF => ?_
  refine ls <| c1 hF rfl Tryd.call11 (code_Make_c (hp_le _) (Tab.mono (Tab.mono hT hxHA1.sub) (St.up hS)) (St.capO hS (.head _)) (St.srO hS (.head _) (hv17.mono hxHA1.sub)) (St.capO hS (.tail _ (.head _))) (St.srO hS (.tail _ (.head _)) (hv24.mono hxHA1.sub)) h40) ⟨rfl, rfl, trivial⟩ (fun v w a hR hF => ?_)
  obtain ⟨oa41, cap42, vs43, rfl, hv44, hk⟩ := hR
  replace hS := hS.fresh hk
  clear hk
  replace hv44 := hv44 HA1
  refine ls <| q1 hF rfl (e_move hF rfl) fun a hF => ?_
  refine ls <| q1 hF rfl (e_ext hF rfl rfl) fun a hF => ?_
  refine ls <| q1 hF rfl (e_ext hF rfl rfl) fun a hF => ?_
  refine ls <| q1 hF rfl (e_asg hF rfl) fun a hF => ?_
  refine ls <| q1 hF rfl (e_asg hF rfl) fun a hF => ?_
  refine re <| ?_
  refine tn <| th <| th <| ?_
  refine rg <| ?_
  refine ls <| q1 hF rfl (e_move hF rfl) fun a hF => ?_
  refine ls <| q1 hF rfl (e_neq hF rfl rfl) fun a hF => ?_
  refine re <| ?_
  rcases bdich (decide (r39.2 ≠ 0)) with hb46 | hb46
  ·
    replace hm := itp_t hm hb46
    refine tn <| ctv hF rfl hb46 <| th <| ?_
    rcases bdich (decide ((r39.1.length : Int) = 0)) with hb47 | hb47
    ·
      replace hm := itp_t hm hb47
      replace hm := bind_some hm
      obtain ⟨r48, h49, hm⟩ := hm
      refine rg <| ?_
      refine ls <| q1 hF rfl (e_move hF rfl) fun a hF => ?_
      refine ls <| q1 hF rfl (e_lenL (α := api_Op) (xs := r39.1) hF Tryd.runUnderlying26 rfl) fun a hF => ?_
      refine ls <| q1 hF rfl (e_eql hF rfl rfl) fun a hF => ?_
      refine ls <| q1 hF rfl (e_as (e_move hF rfl) (congrArg Value.bool hb47)) fun a hF => ?_
      refine ls <| gy hF rfl rfl <| c1 hF rfl Tryd.call14 (leadlinelaw08_fixed_c (hp_le _) (Tab.mono (Tab.mono hT hxHA1.sub) (St.up hS)) h49) trivial (fun v w a hR hF => ?_)
      obtain ⟨rfl, hk⟩ := hR
      replace hS := hS.pass hk
      clear hk
      refine ls <| q1 hF rfl (e_pickT hF rfl rfl) fun a hF => ?_
      refine ls <| q1 hF rfl (e_asg hF rfl) fun a hF => ?_
      refine re <| ?_
      refine tn <| ?_
      refine wp_ret <| tr <| ?_
      obtain rfl := Option.some.inj hm
      exact r1 hF Tryd.results5 rfl ⟨rfl, hS.keep⟩
    ·
      replace hm := itp_f hm hb47
      refine rg <| ?_
      refine ls <| q1 hF rfl (e_move hF rfl) fun a hF => ?_
      refine ls <| q1 hF rfl (e_lenL (α := api_Op) (xs := r39.1) hF Tryd.runUnderlying26 rfl) fun a hF => ?_
      refine ls <| q1 hF rfl (e_eql hF rfl rfl) fun a hF => ?_
      refine ls <| q1 hF rfl (e_as (e_move hF rfl) (congrArg Value.bool hb47)) fun a hF => ?_
      refine ls <| gn hF rfl rfl rfl rfl fun a hF => ?_
      refine ls <| q1 hF rfl (e_pickF hF rfl rfl) fun a hF => ?_
      refine ls <| q1 hF rfl (e_asg hF rfl) fun a hF => ?_
      refine re <| ?_
      refine tn <| ?_
      refine wp_ret <| tr <| ?_
      obtain rfl := Option.some.inj hm
      exact r1 hF Tryd.results5 rfl ⟨rfl, hS.keep⟩
  ·
    replace hm := itp_f hm hb46
    refine tn <| cfv hF rfl hb46 <| wp_skip <| ?_
    refine tn <| th <| ?_
    refine rg <| ?_
    refine ls <| q1 hF rfl (e_asg hF rfl) fun a hF => ?_
    refine re <| ?_
    refine tn <| th <| th <| ?_
    refine rg <| ?_
    refine ls <| q1 hF rfl (e_asg hF rfl) fun a hF => ?_
    refine re <| ?_
    refine tn <| midK (fun a w => ∃ (vA8 : Int), (leadlinelaw08_CodeSame_j3 N r12 r19 vA2 r39) vA8 = some r ∧ Fr 113 [(0, .slice oa14 r12.length cap15), (1, .slice oa21 r19.length cap22), (7, .slice oaA3 vA2.length capA4), (9, .slice oa41 r39.1.length cap42), (11, .int .i64 vA8)] a ∧ St w0 Nil [HA1] [sla 39 4 oa14 r12.length cap15 vs16, sla 9 1 oa21 r19.length cap22 vs23, sla 3 1 oaA3 vA2.length capA4 vsA5, sla 46 2 oa41 r39.1.length cap42 vs43] w) ?_ ?_
    ·
      replace hS := hS.pickL (.cons (.tail .head) (.cons (.tail .head) (.cons (.tail .head) (.cons .head .nil))))
      refine wp_block <| lp (α := Nat × Int × Int) (fun (gh : Nat × Int × Int) a w => match gh with | (nn4, vB9, vB10) => (leadlinelaw08_CodeSame_l4 N (leadlinelaw08_CodeSame_j3 N r12 r19 vA2 r39) r12) nn4 vB9 vB10 = some r ∧ Fr 113 [(0, .slice oa14 r12.length cap15), (1, .slice oa21 r19.length cap22), (7, .slice oaA3 vA2.length capA4), (9, .slice oa41 r39.1.length cap42), (11, .int .i64 vB9), (12, .int .i64 vB10)] a ∧ St w0 Nil [HA1] [sla 39 4 oa14 r12.length cap15 vs16, sla 9 1 oa21 r19.length cap22 vs23, sla 3 1 oaA3 vA2.length capA4 vsA5, sla 46 2 oa41 r39.1.length cap42 vs43] w) (fun gh => gh.1) (N, 0, 0) ⟨hm, hF.has ⟨rfl, rfl, rfl, rfl, rfl, rfl, trivial⟩, hS⟩ ?_
      clear hm hF hS
      rintro ⟨nn4, vB9, vB10⟩ a w ⟨hm, hF, hS⟩
      obtain _ | nn4 := nn4
      · simp [leadlinelaw08_CodeSame_l4] at hm
      rw [leadlinelaw08_CodeSame_l4] at hm
      refine th <| th <| ?_
      refine rg <| ?_
      refine ls <| q1 hF rfl (e_move hF rfl) fun a hF => ?_
      refine ls <| q1 hF rfl (e_move hF rfl) fun a hF => ?_
      refine ls <| q1 hF rfl (e_lenL (α := api_Node) (xs := r12) hF Tryd.runUnderlying22 rfl) fun a hF => ?_
      refine ls <| q1 hF rfl (e_lss hF rfl rfl) fun a hF => ?_
      refine re <| ?_
      rcases bdich (decide (vB10 < (r12.length : Int))) with hb50 | hb50
      ·
        replace hm := itp_t hm hb50
        refine tn <| ctv hF rfl hb50 <| wp_skip <| ?_
        refine tn <| th <| midK (fun a w => ∃ (vC1 : Int), (leadlinelaw08_CodeSame_j5 (leadlinelaw08_CodeSame_l4 N (leadlinelaw08_CodeSame_j3 N r12 r19 vA2 r39) r12 nn4) vB10) vC1 = some r ∧ Fr 113 [(0, .slice oa14 r12.length cap15), (1, .slice oa21 r19.length cap22), (7, .slice oaA3 vA2.length capA4), (9, .slice oa41 r39.1.length cap42), (11, .int .i64 vC1), (12, .int .i64 vB10)] a ∧ St w0 Nil [HA1] [sla 39 4 oa14 r12.length cap15 vs16, sla 9 1 oa21 r19.length cap22 vs23, sla 3 1 oaA3 vA2.length capA4 vsA5, sla 46 2 oa41 r39.1.length cap42 vs43] w) ?_ ?_
        ·
          refine wp_block <| th <| ?_
          replace hm := bind_some hm
          obtain ⟨x51, h52, hm⟩ := hm
          have ho53 := Rd.oaI (hS.rdO (.head _)) hv17 (by decide) h52
          obtain ⟨c54, g55, hl56⟩ := Rows.getI hv17 h52
          obtain rfl := api_Node_open g55
          replace hm := bind_some hm
          obtain ⟨r57, h58, hm⟩ := hm
          refine rg <| ?_
          refine ls <| q1 hF rfl (e_move hF rfl) fun a hF => ?_
          refine ls <| q1 hF rfl (e_move hF rfl) fun a hF => ?_
          refine ls <| q1 hF rfl (e_iaI hF Tryd.runUnderlying22 Tryd.sizeOf39 rfl rfl h52 ho53) fun a hF => ?_
          refine ls <| q1 hF rfl (e_fa hF fa39_0 rfl) fun a hF => ?_
          refine ls <| q1 hF rfl (e_ld hF Tryd.isAgg3 rfl ((St.ld hS).elO2 (.head _) (hl56 0 _ rfl))) fun a hF => ?_
          refine ls <| c1 hF rfl Tryd.call17 (leadlineref03_Kids_c (hp_le _) h58) ⟨rfl, trivial⟩ (fun v w a hR hF => ?_)
          obtain ⟨rfl, hk⟩ := hR
          replace hS := hS.pass hk
          clear hk
          refine ls <| q1 hF rfl (e_eql hF rfl rfl) fun a hF => ?_
          refine re <| ?_
          rcases bdich (decide (r57 = 0)) with hb59 | hb59
          ·
            replace hm := itp_t hm hb59
            refine tn <| ctv hF rfl hb59 <| ?_
            refine rg <| ?_
            refine ls <| q1 hF rfl (e_move hF rfl) fun a hF => ?_
            refine ls <| q1 hF rfl (e_add hF rfl rfl) fun a hF => ?_
            refine ls <| q1 hF rfl (e_asg hF rfl) fun a hF => ?_
            refine re <| ?_
            refine bn <| tn <| ?_
            exact ⟨(IntKind.i64.wrap (vB9 + 1)), hm, hF.has ⟨rfl, rfl, rfl, rfl, rfl, rfl, trivial⟩, hS⟩
          ·
            replace hm := itp_f hm hb59
            refine tn <| cfv hF rfl hb59 <| wp_skip <| ?_
            refine bn <| tn <| ?_
            exact ⟨vB9, hm, hF.has ⟨rfl, rfl, rfl, rfl, rfl, rfl, trivial⟩, hS⟩
        clear hm hF hS
        rintro a w ⟨vC1, hm, hF, hS⟩
        unfold leadlinelaw08_CodeSame_j5 at hm
        refine rg <| ?_
        refine ls <| q1 hF rfl (e_move hF rfl) fun a hF => ?_
        refine ls <| q1 hF rfl (e_add hF rfl rfl) fun a hF => ?_
        refine ls <| q1 hF rfl (e_asg hF rfl) fun a hF => ?_
        refine re <| ?_
        refine tn <| ?_
        exact ⟨(nn4, vC1, (IntKind.i64.wrap (vB10 + 1))), ⟨hm, hF.has ⟨rfl, rfl, rfl, rfl, rfl, rfl, trivial⟩, hS⟩, Nat.lt_succ_self _⟩
      ·
        replace hm := itp_f hm hb50
        refine tn <| cfv hF rfl hb50 <| ?_
        refine wp_exit <| tx <| tx <| bx <| ?_
        refine tn <| ?_
        exact ⟨vB9, hm, hF.has ⟨rfl, rfl, rfl, rfl, rfl, trivial⟩, hS⟩
    clear hm hF hS
    rintro a w ⟨vA8, hm, hF, hS⟩
    unfold leadlinelaw08_CodeSame_j3 at hm
    refine th <| ?_
    replace hm := bind_some hm
    obtain ⟨r60, h61, hm⟩ := hm
    refine rg <| ?_
    refine ls <| q1 hF rfl (e_move hF rfl) fun a hF => ?_
    refine ls <| q1 hF rfl (e_move hF rfl) fun a hF => ?_
    refine ls <| c1 hF rfl Tryd.call18 (code_Run_c (hp_le _) (St.capO hS (.tail _ (.tail _ (.tail _ (.head _))))) (St.srO hS (.tail _ (.tail _ (.tail _ (.head _)))) hv44) (St.capO hS (.tail _ (.tail _ (.head _)))) (St.srO hS (.tail _ (.tail _ (.head _))) hvA6) h61) ⟨rfl, rfl, trivial⟩ (fun v w a hR hF => ?_)
    obtain ⟨rfl, hk⟩ := hR
    replace hS := hS.pass hk
    clear hk
    refine ls <| q1 hF rfl (e_move hF rfl) fun a hF => ?_
    refine ls <| q1 hF rfl (e_ext hF rfl rfl) fun a hF => ?_
    refine ls <| q1 hF rfl (e_ext hF rfl rfl) fun a hF => ?_
    refine ls <| q1 hF rfl (e_asg hF rfl) fun a hF => ?_
    refine ls <| q1 hF rfl (e_asg hF rfl) fun a hF => ?_
    refine re <| ?_
    refine tn <| th <| ?_
    replace hm := bind_some hm
    obtain ⟨r62, h63, hm⟩ := hm
    refine rg <| ?_
    refine ls <| q1 hF rfl (e_move hF rfl) fun a hF => ?_
    refine ls <| q1 hF rfl (e_move hF rfl) fun a hF => ?_
    refine ls <| q1 hF rfl (e_move hF rfl) fun a hF => ?_
    refine ls <| c1 hF rfl Tryd.call15 (code_Value_c (hp_le _) (Tab.mono (Tab.mono hT hxHA1.sub) (St.up hS)) (St.capO hS (.head _)) (St.srO hS (.head _) (hv17.mono hxHA1.sub)) (St.capO hS (.tail _ (.head _))) (St.srO hS (.tail _ (.head _)) (hv24.mono hxHA1.sub)) (St.capO hS (.tail _ (.tail _ (.head _)))) (St.srO hS (.tail _ (.tail _ (.head _))) hvA6) h63) ⟨rfl, rfl, rfl, trivial⟩ (fun v w a hR hF => ?_)
    obtain ⟨rfl, hk⟩ := hR
    replace hS := hS.pass hk
    clear hk
    refine ls <| q1 hF rfl (e_move hF rfl) fun a hF => ?_
    refine ls <| q1 hF rfl (e_ext hF rfl rfl) fun a hF => ?_
    refine ls <| q1 hF rfl (e_ext hF rfl rfl) fun a hF => ?_
    refine ls <| q1 hF rfl (e_asg hF rfl) fun a hF => ?_
    refine ls <| q1 hF rfl (e_asg hF rfl) fun a hF => ?_
    refine re <| ?_
    refine tn <| th <| ?_
    replace hm := bind_some hm
    obtain ⟨r64, h65, hm⟩ := hm
    rcases bdich (((r64 && (decide ((r39.1.length : Int) = (r12.length : Int)))) && (decide (r60.1 = r62.1))) && (decide (r60.2 = r62.2))) with hb66 | hb66
    ·
      replace hm := ite_t hm hb66
      replace hm := bind_some hm
      obtain ⟨r67, h68, hm⟩ := hm
      rcases bdich (decide (1 ≤ r67)) with hb69 | hb69
      ·
        replace hm := itp_t hm hb69
        replace hm := bind_some hm
        obtain ⟨r70, h71, hm⟩ := hm
        rcases bdich (decide (r70 ≤ vA8)) with hb72 | hb72
        ·
          replace hm := itp_t hm hb72
          replace hm := bind_some hm
          obtain ⟨r73, h74, hm⟩ := hm
          refine rg <| ?_
          refine ls <| q1 hF rfl (e_move hF rfl) fun a hF => ?_
          refine ls <| q1 hF rfl (e_move hF rfl) fun a hF => ?_
          refine ls <| q1 hF rfl (e_lenL (α := Int) (xs := vA2) hF Tryd.runUnderlying33 rfl) fun a hF => ?_
          refine ls <| c1 hF rfl Tryd.call19 (code_Right_c (hp_le _) (St.capO hS (.tail _ (.tail _ (.tail _ (.head _))))) (St.srO hS (.tail _ (.tail _ (.tail _ (.head _)))) hv44) h65) ⟨rfl, rfl, trivial⟩ (fun v w a hR hF => ?_)
          obtain ⟨rfl, hk⟩ := hR
          replace hS := hS.pass hk
          clear hk
          refine ls <| q1 hF rfl (e_move hF rfl) fun a hF => ?_
          refine grp (N := 113) (Fk := [(9, .slice oa41 r39.1.length cap42), (11, .int .i64 vA8), (13, .int .i64 r60.1), (14, .int .i64 r60.2), (15, .int .i64 r62.1), (16, .int .i64 r62.2), (88, .bool (r64 && (decide ((r39.1.length : Int) = (r12.length : Int)))))]) (b := r64) 6 hS ?_ ?_ ?_
          ·
            intro hb key
            replace hF := Fr.as hF (t := 82) rfl (congrArg Value.bool hb)
            refine ls <| gy hF rfl rfl <| q1 hF rfl (e_move hF rfl) fun a hF => ?_
            refine ls <| gy hF rfl rfl <| q1 hF rfl (e_lenL (α := api_Op) (xs := r39.1) hF Tryd.runUnderlying26 rfl) fun a hF => ?_
            refine ls <| gy hF rfl rfl <| q1 hF rfl (e_move hF rfl) fun a hF => ?_
            refine ls <| gy hF rfl rfl <| q1 hF rfl (e_lenL (α := api_Node) (xs := r12) hF Tryd.runUnderlying22 rfl) fun a hF => ?_
            refine ls <| gy hF rfl rfl <| q1 hF rfl (e_eql hF rfl rfl) fun a hF => ?_
            refine ls <| q1 hF rfl (e_as (v' := .bool (r64 && (decide ((r39.1.length : Int) = (r12.length : Int))))) (e_pickT hF rfl rfl) (by rw [hb]; rfl)) fun a hF => ?_
            exact key _ _ (hF.has ⟨rfl, rfl, rfl, rfl, rfl, rfl, rfl, trivial⟩) hS
          ·
            intro hb key
            replace hF := Fr.as hF (t := 82) rfl (congrArg Value.bool hb)
            refine ls <| gn hF rfl rfl rfl rfl fun a hF => ?_
            refine ls <| gn hF rfl rfl rfl rfl fun a hF => ?_
            refine ls <| gn hF rfl rfl rfl rfl fun a hF => ?_
            refine ls <| gn hF rfl rfl rfl rfl fun a hF => ?_
            refine ls <| gn hF rfl rfl rfl rfl fun a hF => ?_
            refine ls <| q1 hF rfl (e_as (v' := .bool (r64 && (decide ((r39.1.length : Int) = (r12.length : Int))))) (e_pickF hF rfl rfl) (by rw [hb]; rfl)) fun a hF => ?_
            exact key _ _ (hF.has ⟨rfl, rfl, rfl, rfl, rfl, rfl, rfl, trivial⟩) hS
          intro a w hF hS
          refine ls <| q1 hF rfl (e_move hF rfl) fun a hF => ?_
          refine grp (N := 113) (Fk := [(9, .slice oa41 r39.1.length cap42), (11, .int .i64 vA8), (14, .int .i64 r60.2), (16, .int .i64 r62.2), (93, .bool ((r64 && (decide ((r39.1.length : Int) = (r12.length : Int)))) && (decide (r60.1 = r62.1))))]) (b := (r64 && (decide ((r39.1.length : Int) = (r12.length : Int))))) 4 hS ?_ ?_ ?_
          ·
            intro hb key
            replace hF := Fr.as hF (t := 89) rfl (congrArg Value.bool hb)
            refine ls <| gy hF rfl rfl <| q1 hF rfl (e_move hF rfl) fun a hF => ?_
            refine ls <| gy hF rfl rfl <| q1 hF rfl (e_move hF rfl) fun a hF => ?_
            refine ls <| gy hF rfl rfl <| q1 hF rfl (e_eql hF rfl rfl) fun a hF => ?_
            refine ls <| q1 hF rfl (e_as (v' := .bool ((r64 && (decide ((r39.1.length : Int) = (r12.length : Int)))) && (decide (r60.1 = r62.1)))) (e_pickT hF rfl rfl) (by rw [hb]; rfl)) fun a hF => ?_
            exact key _ _ (hF.has ⟨rfl, rfl, rfl, rfl, rfl, trivial⟩) hS
          ·
            intro hb key
            replace hF := Fr.as hF (t := 89) rfl (congrArg Value.bool hb)
            refine ls <| gn hF rfl rfl rfl rfl fun a hF => ?_
            refine ls <| gn hF rfl rfl rfl rfl fun a hF => ?_
            refine ls <| gn hF rfl rfl rfl rfl fun a hF => ?_
            refine ls <| q1 hF rfl (e_as (v' := .bool ((r64 && (decide ((r39.1.length : Int) = (r12.length : Int)))) && (decide (r60.1 = r62.1)))) (e_pickF hF rfl rfl) (by rw [hb]; rfl)) fun a hF => ?_
            exact key _ _ (hF.has ⟨rfl, rfl, rfl, rfl, rfl, trivial⟩) hS
          intro a w hF hS
          refine ls <| q1 hF rfl (e_move hF rfl) fun a hF => ?_
          refine grp (N := 113) (Fk := [(9, .slice oa41 r39.1.length cap42), (11, .int .i64 vA8), (98, .bool (((r64 && (decide ((r39.1.length : Int) = (r12.length : Int)))) && (decide (r60.1 = r62.1))) && (decide (r60.2 = r62.2))))]) (b := ((r64 && (decide ((r39.1.length : Int) = (r12.length : Int)))) && (decide (r60.1 = r62.1)))) 4 hS ?_ ?_ ?_
          ·
            intro hb key
            replace hF := Fr.as hF (t := 94) rfl (congrArg Value.bool hb)
            refine ls <| gy hF rfl rfl <| q1 hF rfl (e_move hF rfl) fun a hF => ?_
            refine ls <| gy hF rfl rfl <| q1 hF rfl (e_move hF rfl) fun a hF => ?_
            refine ls <| gy hF rfl rfl <| q1 hF rfl (e_eql hF rfl rfl) fun a hF => ?_
            refine ls <| q1 hF rfl (e_as (v' := .bool (((r64 && (decide ((r39.1.length : Int) = (r12.length : Int)))) && (decide (r60.1 = r62.1))) && (decide (r60.2 = r62.2)))) (e_pickT hF rfl rfl) (by rw [hb]; rfl)) fun a hF => ?_
            exact key _ _ (hF.has ⟨rfl, rfl, rfl, trivial⟩) hS
          ·
            intro hb key
            replace hF := Fr.as hF (t := 94) rfl (congrArg Value.bool hb)
            refine ls <| gn hF rfl rfl rfl rfl fun a hF => ?_
            refine ls <| gn hF rfl rfl rfl rfl fun a hF => ?_
            refine ls <| gn hF rfl rfl rfl rfl fun a hF => ?_
            refine ls <| q1 hF rfl (e_as (v' := .bool (((r64 && (decide ((r39.1.length : Int) = (r12.length : Int)))) && (decide (r60.1 = r62.1))) && (decide (r60.2 = r62.2)))) (e_pickF hF rfl rfl) (by rw [hb]; rfl)) fun a hF => ?_
            exact key _ _ (hF.has ⟨rfl, rfl, rfl, trivial⟩) hS
          intro a w hF hS
          refine ls <| q1 hF rfl (e_as (e_move hF rfl) (congrArg Value.bool hb66)) fun a hF => ?_
          refine ls <| gy hF rfl rfl <| q1 hF rfl (e_move hF rfl) fun a hF => ?_
          refine ls <| gy hF rfl rfl <| c1 hF rfl Tryd.call20 (code_High_c (hp_le _) (St.capO hS (.tail _ (.tail _ (.tail _ (.head _))))) (St.srO hS (.tail _ (.tail _ (.tail _ (.head _)))) hv44) h68) ⟨rfl, trivial⟩ (fun v w a hR hF => ?_)
          obtain ⟨rfl, hk⟩ := hR
          replace hS := hS.pass hk
          clear hk
          refine ls <| gy hF rfl rfl <| q1 hF rfl (e_geq hF rfl rfl) fun a hF => ?_
          refine ls <| q1 hF rfl (e_pickT hF rfl rfl) fun a hF => ?_
          refine ls <| q1 hF rfl (e_as (e_move hF rfl) (congrArg Value.bool hb69)) fun a hF => ?_
          refine ls <| gy hF rfl rfl <| q1 hF rfl (e_move hF rfl) fun a hF => ?_
          refine ls <| gy hF rfl rfl <| c1 hF rfl Tryd.call20 (code_High_c (hp_le _) (St.capO hS (.tail _ (.tail _ (.tail _ (.head _))))) (St.srO hS (.tail _ (.tail _ (.tail _ (.head _)))) hv44) h71) ⟨rfl, trivial⟩ (fun v w a hR hF => ?_)
          obtain ⟨rfl, hk⟩ := hR
          replace hS := hS.pass hk
          clear hk
          refine ls <| gy hF rfl rfl <| q1 hF rfl (e_move hF rfl) fun a hF => ?_
          refine ls <| gy hF rfl rfl <| q1 hF rfl (e_leq hF rfl rfl) fun a hF => ?_
          refine ls <| q1 hF rfl (e_pickT hF rfl rfl) fun a hF => ?_
          refine ls <| q1 hF rfl (e_as (e_move hF rfl) (congrArg Value.bool hb72)) fun a hF => ?_
          refine ls <| gy hF rfl rfl <| c1 hF rfl Tryd.call14 (leadlinelaw08_fixed_c (hp_le _) (Tab.mono (Tab.mono hT hxHA1.sub) (St.up hS)) h74) trivial (fun v w a hR hF => ?_)
          obtain ⟨rfl, hk⟩ := hR
          replace hS := hS.pass hk
          clear hk
          refine ls <| q1 hF rfl (e_pickT hF rfl rfl) fun a hF => ?_
          refine ls <| q1 hF rfl (e_asg hF rfl) fun a hF => ?_
          refine re <| ?_
          refine tn <| ?_
          refine wp_ret <| ?_
          obtain rfl := Option.some.inj hm
          exact r1 hF Tryd.results5 rfl ⟨rfl, hS.keep⟩
        ·
          replace hm := itp_f hm hb72
          refine rg <| ?_
          refine ls <| q1 hF rfl (e_move hF rfl) fun a hF => ?_
          refine ls <| q1 hF rfl (e_move hF rfl) fun a hF => ?_
          refine ls <| q1 hF rfl (e_lenL (α := Int) (xs := vA2) hF Tryd.runUnderlying33 rfl) fun a hF => ?_
          refine ls <| c1 hF rfl Tryd.call19 (code_Right_c (hp_le _) (St.capO hS (.tail _ (.tail _ (.tail _ (.head _))))) (St.srO hS (.tail _ (.tail _ (.tail _ (.head _)))) hv44) h65) ⟨rfl, rfl, trivial⟩ (fun v w a hR hF => ?_)
          obtain ⟨rfl, hk⟩ := hR
          replace hS := hS.pass hk
          clear hk
          refine ls <| q1 hF rfl (e_move hF rfl) fun a hF => ?_
          refine grp (N := 113) (Fk := [(9, .slice oa41 r39.1.length cap42), (11, .int .i64 vA8), (13, .int .i64 r60.1), (14, .int .i64 r60.2), (15, .int .i64 r62.1), (16, .int .i64 r62.2), (88, .bool (r64 && (decide ((r39.1.length : Int) = (r12.length : Int)))))]) (b := r64) 6 hS ?_ ?_ ?_
          ·
            intro hb key
            replace hF := Fr.as hF (t := 82) rfl (congrArg Value.bool hb)
            refine ls <| gy hF rfl rfl <| q1 hF rfl (e_move hF rfl) fun a hF => ?_
            refine ls <| gy hF rfl rfl <| q1 hF rfl (e_lenL (α := api_Op) (xs := r39.1) hF Tryd.runUnderlying26 rfl) fun a hF => ?_
            refine ls <| gy hF rfl rfl <| q1 hF rfl (e_move hF rfl) fun a hF => ?_
            refine ls <| gy hF rfl rfl <| q1 hF rfl (e_lenL (α := api_Node) (xs := r12) hF Tryd.runUnderlying22 rfl) fun a hF => ?_
            refine ls <| gy hF rfl rfl <| q1 hF rfl (e_eql hF rfl rfl) fun a hF => ?_
            refine ls <| q1 hF rfl (e_as (v' := .bool (r64 && (decide ((r39.1.length : Int) = (r12.length : Int))))) (e_pickT hF rfl rfl) (by rw [hb]; rfl)) fun a hF => ?_
            exact key _ _ (hF.has ⟨rfl, rfl, rfl, rfl, rfl, rfl, rfl, trivial⟩) hS
          ·
            intro hb key
            replace hF := Fr.as hF (t := 82) rfl (congrArg Value.bool hb)
            refine ls <| gn hF rfl rfl rfl rfl fun a hF => ?_
            refine ls <| gn hF rfl rfl rfl rfl fun a hF => ?_
            refine ls <| gn hF rfl rfl rfl rfl fun a hF => ?_
            refine ls <| gn hF rfl rfl rfl rfl fun a hF => ?_
            refine ls <| gn hF rfl rfl rfl rfl fun a hF => ?_
            refine ls <| q1 hF rfl (e_as (v' := .bool (r64 && (decide ((r39.1.length : Int) = (r12.length : Int))))) (e_pickF hF rfl rfl) (by rw [hb]; rfl)) fun a hF => ?_
            exact key _ _ (hF.has ⟨rfl, rfl, rfl, rfl, rfl, rfl, rfl, trivial⟩) hS
          intro a w hF hS
          refine ls <| q1 hF rfl (e_move hF rfl) fun a hF => ?_
          refine grp (N := 113) (Fk := [(9, .slice oa41 r39.1.length cap42), (11, .int .i64 vA8), (14, .int .i64 r60.2), (16, .int .i64 r62.2), (93, .bool ((r64 && (decide ((r39.1.length : Int) = (r12.length : Int)))) && (decide (r60.1 = r62.1))))]) (b := (r64 && (decide ((r39.1.length : Int) = (r12.length : Int))))) 4 hS ?_ ?_ ?_
          ·
            intro hb key
            replace hF := Fr.as hF (t := 89) rfl (congrArg Value.bool hb)
            refine ls <| gy hF rfl rfl <| q1 hF rfl (e_move hF rfl) fun a hF => ?_
            refine ls <| gy hF rfl rfl <| q1 hF rfl (e_move hF rfl) fun a hF => ?_
            refine ls <| gy hF rfl rfl <| q1 hF rfl (e_eql hF rfl rfl) fun a hF => ?_
            refine ls <| q1 hF rfl (e_as (v' := .bool ((r64 && (decide ((r39.1.length : Int) = (r12.length : Int)))) && (decide (r60.1 = r62.1)))) (e_pickT hF rfl rfl) (by rw [hb]; rfl)) fun a hF => ?_
            exact key _ _ (hF.has ⟨rfl, rfl, rfl, rfl, rfl, trivial⟩) hS
          ·
            intro hb key
            replace hF := Fr.as hF (t := 89) rfl (congrArg Value.bool hb)
            refine ls <| gn hF rfl rfl rfl rfl fun a hF => ?_
            refine ls <| gn hF rfl rfl rfl rfl fun a hF => ?_
            refine ls <| gn hF rfl rfl rfl rfl fun a hF => ?_
            refine ls <| q1 hF rfl (e_as (v' := .bool ((r64 && (decide ((r39.1.length : Int) = (r12.length : Int)))) && (decide (r60.1 = r62.1)))) (e_pickF hF rfl rfl) (by rw [hb]; rfl)) fun a hF => ?_
            exact key _ _ (hF.has ⟨rfl, rfl, rfl, rfl, rfl, trivial⟩) hS
          intro a w hF hS
          refine ls <| q1 hF rfl (e_move hF rfl) fun a hF => ?_
          refine grp (N := 113) (Fk := [(9, .slice oa41 r39.1.length cap42), (11, .int .i64 vA8), (98, .bool (((r64 && (decide ((r39.1.length : Int) = (r12.length : Int)))) && (decide (r60.1 = r62.1))) && (decide (r60.2 = r62.2))))]) (b := ((r64 && (decide ((r39.1.length : Int) = (r12.length : Int)))) && (decide (r60.1 = r62.1)))) 4 hS ?_ ?_ ?_
          ·
            intro hb key
            replace hF := Fr.as hF (t := 94) rfl (congrArg Value.bool hb)
            refine ls <| gy hF rfl rfl <| q1 hF rfl (e_move hF rfl) fun a hF => ?_
            refine ls <| gy hF rfl rfl <| q1 hF rfl (e_move hF rfl) fun a hF => ?_
            refine ls <| gy hF rfl rfl <| q1 hF rfl (e_eql hF rfl rfl) fun a hF => ?_
            refine ls <| q1 hF rfl (e_as (v' := .bool (((r64 && (decide ((r39.1.length : Int) = (r12.length : Int)))) && (decide (r60.1 = r62.1))) && (decide (r60.2 = r62.2)))) (e_pickT hF rfl rfl) (by rw [hb]; rfl)) fun a hF => ?_
            exact key _ _ (hF.has ⟨rfl, rfl, rfl, trivial⟩) hS
          ·
            intro hb key
            replace hF := Fr.as hF (t := 94) rfl (congrArg Value.bool hb)
            refine ls <| gn hF rfl rfl rfl rfl fun a hF => ?_
            refine ls <| gn hF rfl rfl rfl rfl fun a hF => ?_
            refine ls <| gn hF rfl rfl rfl rfl fun a hF => ?_
            refine ls <| q1 hF rfl (e_as (v' := .bool (((r64 && (decide ((r39.1.length : Int) = (r12.length : Int)))) && (decide (r60.1 = r62.1))) && (decide (r60.2 = r62.2)))) (e_pickF hF rfl rfl) (by rw [hb]; rfl)) fun a hF => ?_
            exact key _ _ (hF.has ⟨rfl, rfl, rfl, trivial⟩) hS
          intro a w hF hS
          refine ls <| q1 hF rfl (e_as (e_move hF rfl) (congrArg Value.bool hb66)) fun a hF => ?_
          refine ls <| gy hF rfl rfl <| q1 hF rfl (e_move hF rfl) fun a hF => ?_
          refine ls <| gy hF rfl rfl <| c1 hF rfl Tryd.call20 (code_High_c (hp_le _) (St.capO hS (.tail _ (.tail _ (.tail _ (.head _))))) (St.srO hS (.tail _ (.tail _ (.tail _ (.head _)))) hv44) h68) ⟨rfl, trivial⟩ (fun v w a hR hF => ?_)
          obtain ⟨rfl, hk⟩ := hR
          replace hS := hS.pass hk
          clear hk
          refine ls <| gy hF rfl rfl <| q1 hF rfl (e_geq hF rfl rfl) fun a hF => ?_
          refine ls <| q1 hF rfl (e_pickT hF rfl rfl) fun a hF => ?_
          refine ls <| q1 hF rfl (e_as (e_move hF rfl) (congrArg Value.bool hb69)) fun a hF => ?_
          refine ls <| gy hF rfl rfl <| q1 hF rfl (e_move hF rfl) fun a hF => ?_
          refine ls <| gy hF rfl rfl <| c1 hF rfl Tryd.call20 (code_High_c (hp_le _) (St.capO hS (.tail _ (.tail _ (.tail _ (.head _))))) (St.srO hS (.tail _ (.tail _ (.tail _ (.head _)))) hv44) h71) ⟨rfl, trivial⟩ (fun v w a hR hF => ?_)
          obtain ⟨rfl, hk⟩ := hR
          replace hS := hS.pass hk
          clear hk
          refine ls <| gy hF rfl rfl <| q1 hF rfl (e_move hF rfl) fun a hF => ?_
          refine ls <| gy hF rfl rfl <| q1 hF rfl (e_leq hF rfl rfl) fun a hF => ?_
          refine ls <| q1 hF rfl (e_pickT hF rfl rfl) fun a hF => ?_
          refine ls <| q1 hF rfl (e_as (e_move hF rfl) (congrArg Value.bool hb72)) fun a hF => ?_
          refine ls <| gn hF rfl rfl rfl rfl fun a hF => ?_
          refine ls <| q1 hF rfl (e_pickF hF rfl rfl) fun a hF => ?_
          refine ls <| q1 hF rfl (e_asg hF rfl) fun a hF => ?_
          refine re <| ?_
          refine tn <| ?_
          refine wp_ret <| ?_
          obtain rfl := Option.some.inj hm
          exact r1 hF Tryd.results5 rfl ⟨rfl, hS.keep⟩
      ·
        replace hm := itp_f hm hb69
        refine rg <| ?_
        refine ls <| q1 hF rfl (e_move hF rfl) fun a hF => ?_
        refine ls <| q1 hF rfl (e_move hF rfl) fun a hF => ?_
        refine ls <| q1 hF rfl (e_lenL (α := Int) (xs := vA2) hF Tryd.runUnderlying33 rfl) fun a hF => ?_
        refine ls <| c1 hF rfl Tryd.call19 (code_Right_c (hp_le _) (St.capO hS (.tail _ (.tail _ (.tail _ (.head _))))) (St.srO hS (.tail _ (.tail _ (.tail _ (.head _)))) hv44) h65) ⟨rfl, rfl, trivial⟩ (fun v w a hR hF => ?_)
        obtain ⟨rfl, hk⟩ := hR
        replace hS := hS.pass hk
        clear hk
        refine ls <| q1 hF rfl (e_move hF rfl) fun a hF => ?_
        refine grp (N := 113) (Fk := [(9, .slice oa41 r39.1.length cap42), (11, .int .i64 vA8), (13, .int .i64 r60.1), (14, .int .i64 r60.2), (15, .int .i64 r62.1), (16, .int .i64 r62.2), (88, .bool (r64 && (decide ((r39.1.length : Int) = (r12.length : Int)))))]) (b := r64) 6 hS ?_ ?_ ?_
        ·
          intro hb key
          replace hF := Fr.as hF (t := 82) rfl (congrArg Value.bool hb)
          refine ls <| gy hF rfl rfl <| q1 hF rfl (e_move hF rfl) fun a hF => ?_
          refine ls <| gy hF rfl rfl <| q1 hF rfl (e_lenL (α := api_Op) (xs := r39.1) hF Tryd.runUnderlying26 rfl) fun a hF => ?_
          refine ls <| gy hF rfl rfl <| q1 hF rfl (e_move hF rfl) fun a hF => ?_
          refine ls <| gy hF rfl rfl <| q1 hF rfl (e_lenL (α := api_Node) (xs := r12) hF Tryd.runUnderlying22 rfl) fun a hF => ?_
          refine ls <| gy hF rfl rfl <| q1 hF rfl (e_eql hF rfl rfl) fun a hF => ?_
          refine ls <| q1 hF rfl (e_as (v' := .bool (r64 && (decide ((r39.1.length : Int) = (r12.length : Int))))) (e_pickT hF rfl rfl) (by rw [hb]; rfl)) fun a hF => ?_
          exact key _ _ (hF.has ⟨rfl, rfl, rfl, rfl, rfl, rfl, rfl, trivial⟩) hS
        ·
          intro hb key
          replace hF := Fr.as hF (t := 82) rfl (congrArg Value.bool hb)
          refine ls <| gn hF rfl rfl rfl rfl fun a hF => ?_
          refine ls <| gn hF rfl rfl rfl rfl fun a hF => ?_
          refine ls <| gn hF rfl rfl rfl rfl fun a hF => ?_
          refine ls <| gn hF rfl rfl rfl rfl fun a hF => ?_
          refine ls <| gn hF rfl rfl rfl rfl fun a hF => ?_
          refine ls <| q1 hF rfl (e_as (v' := .bool (r64 && (decide ((r39.1.length : Int) = (r12.length : Int))))) (e_pickF hF rfl rfl) (by rw [hb]; rfl)) fun a hF => ?_
          exact key _ _ (hF.has ⟨rfl, rfl, rfl, rfl, rfl, rfl, rfl, trivial⟩) hS
        intro a w hF hS
        refine ls <| q1 hF rfl (e_move hF rfl) fun a hF => ?_
        refine grp (N := 113) (Fk := [(9, .slice oa41 r39.1.length cap42), (11, .int .i64 vA8), (14, .int .i64 r60.2), (16, .int .i64 r62.2), (93, .bool ((r64 && (decide ((r39.1.length : Int) = (r12.length : Int)))) && (decide (r60.1 = r62.1))))]) (b := (r64 && (decide ((r39.1.length : Int) = (r12.length : Int))))) 4 hS ?_ ?_ ?_
        ·
          intro hb key
          replace hF := Fr.as hF (t := 89) rfl (congrArg Value.bool hb)
          refine ls <| gy hF rfl rfl <| q1 hF rfl (e_move hF rfl) fun a hF => ?_
          refine ls <| gy hF rfl rfl <| q1 hF rfl (e_move hF rfl) fun a hF => ?_
          refine ls <| gy hF rfl rfl <| q1 hF rfl (e_eql hF rfl rfl) fun a hF => ?_
          refine ls <| q1 hF rfl (e_as (v' := .bool ((r64 && (decide ((r39.1.length : Int) = (r12.length : Int)))) && (decide (r60.1 = r62.1)))) (e_pickT hF rfl rfl) (by rw [hb]; rfl)) fun a hF => ?_
          exact key _ _ (hF.has ⟨rfl, rfl, rfl, rfl, rfl, trivial⟩) hS
        ·
          intro hb key
          replace hF := Fr.as hF (t := 89) rfl (congrArg Value.bool hb)
          refine ls <| gn hF rfl rfl rfl rfl fun a hF => ?_
          refine ls <| gn hF rfl rfl rfl rfl fun a hF => ?_
          refine ls <| gn hF rfl rfl rfl rfl fun a hF => ?_
          refine ls <| q1 hF rfl (e_as (v' := .bool ((r64 && (decide ((r39.1.length : Int) = (r12.length : Int)))) && (decide (r60.1 = r62.1)))) (e_pickF hF rfl rfl) (by rw [hb]; rfl)) fun a hF => ?_
          exact key _ _ (hF.has ⟨rfl, rfl, rfl, rfl, rfl, trivial⟩) hS
        intro a w hF hS
        refine ls <| q1 hF rfl (e_move hF rfl) fun a hF => ?_
        refine grp (N := 113) (Fk := [(9, .slice oa41 r39.1.length cap42), (11, .int .i64 vA8), (98, .bool (((r64 && (decide ((r39.1.length : Int) = (r12.length : Int)))) && (decide (r60.1 = r62.1))) && (decide (r60.2 = r62.2))))]) (b := ((r64 && (decide ((r39.1.length : Int) = (r12.length : Int)))) && (decide (r60.1 = r62.1)))) 4 hS ?_ ?_ ?_
        ·
          intro hb key
          replace hF := Fr.as hF (t := 94) rfl (congrArg Value.bool hb)
          refine ls <| gy hF rfl rfl <| q1 hF rfl (e_move hF rfl) fun a hF => ?_
          refine ls <| gy hF rfl rfl <| q1 hF rfl (e_move hF rfl) fun a hF => ?_
          refine ls <| gy hF rfl rfl <| q1 hF rfl (e_eql hF rfl rfl) fun a hF => ?_
          refine ls <| q1 hF rfl (e_as (v' := .bool (((r64 && (decide ((r39.1.length : Int) = (r12.length : Int)))) && (decide (r60.1 = r62.1))) && (decide (r60.2 = r62.2)))) (e_pickT hF rfl rfl) (by rw [hb]; rfl)) fun a hF => ?_
          exact key _ _ (hF.has ⟨rfl, rfl, rfl, trivial⟩) hS
        ·
          intro hb key
          replace hF := Fr.as hF (t := 94) rfl (congrArg Value.bool hb)
          refine ls <| gn hF rfl rfl rfl rfl fun a hF => ?_
          refine ls <| gn hF rfl rfl rfl rfl fun a hF => ?_
          refine ls <| gn hF rfl rfl rfl rfl fun a hF => ?_
          refine ls <| q1 hF rfl (e_as (v' := .bool (((r64 && (decide ((r39.1.length : Int) = (r12.length : Int)))) && (decide (r60.1 = r62.1))) && (decide (r60.2 = r62.2)))) (e_pickF hF rfl rfl) (by rw [hb]; rfl)) fun a hF => ?_
          exact key _ _ (hF.has ⟨rfl, rfl, rfl, trivial⟩) hS
        intro a w hF hS
        refine ls <| q1 hF rfl (e_as (e_move hF rfl) (congrArg Value.bool hb66)) fun a hF => ?_
        refine ls <| gy hF rfl rfl <| q1 hF rfl (e_move hF rfl) fun a hF => ?_
        refine ls <| gy hF rfl rfl <| c1 hF rfl Tryd.call20 (code_High_c (hp_le _) (St.capO hS (.tail _ (.tail _ (.tail _ (.head _))))) (St.srO hS (.tail _ (.tail _ (.tail _ (.head _)))) hv44) h68) ⟨rfl, trivial⟩ (fun v w a hR hF => ?_)
        obtain ⟨rfl, hk⟩ := hR
        replace hS := hS.pass hk
        clear hk
        refine ls <| gy hF rfl rfl <| q1 hF rfl (e_geq hF rfl rfl) fun a hF => ?_
        refine ls <| q1 hF rfl (e_pickT hF rfl rfl) fun a hF => ?_
        refine ls <| q1 hF rfl (e_as (e_move hF rfl) (congrArg Value.bool hb69)) fun a hF => ?_
        refine ls <| gn hF rfl rfl rfl rfl fun a hF => ?_
        refine ls <| gn hF rfl rfl rfl rfl fun a hF => ?_
        refine ls <| gn hF rfl rfl rfl rfl fun a hF => ?_
        refine ls <| gn hF rfl rfl rfl rfl fun a hF => ?_
        refine ls <| q1 hF rfl (e_pickF hF rfl rfl) fun a hF => ?_
        refine ls <| q1 hF rfl (e_move hF rfl) fun a hF => ?_
        refine ls <| gn hF rfl rfl rfl rfl fun a hF => ?_
        refine ls <| q1 hF rfl (e_pickF hF rfl rfl) fun a hF => ?_
        refine ls <| q1 hF rfl (e_asg hF rfl) fun a hF => ?_
        refine re <| ?_
        refine tn <| ?_
        refine wp_ret <| ?_
        obtain rfl := Option.some.inj hm
        exact r1 hF Tryd.results5 rfl ⟨rfl, hS.keep⟩
    ·
      replace hm := ite_f hm hb66
      refine rg <| ?_
      refine ls <| q1 hF rfl (e_move hF rfl) fun a hF => ?_
      refine ls <| q1 hF rfl (e_move hF rfl) fun a hF => ?_
      refine ls <| q1 hF rfl (e_lenL (α := Int) (xs := vA2) hF Tryd.runUnderlying33 rfl) fun a hF => ?_
      refine ls <| c1 hF rfl Tryd.call19 (code_Right_c (hp_le _) (St.capO hS (.tail _ (.tail _ (.tail _ (.head _))))) (St.srO hS (.tail _ (.tail _ (.tail _ (.head _)))) hv44) h65) ⟨rfl, rfl, trivial⟩ (fun v w a hR hF => ?_)
      obtain ⟨rfl, hk⟩ := hR
      replace hS := hS.pass hk
      clear hk
      refine ls <| q1 hF rfl (e_move hF rfl) fun a hF => ?_
      refine grp (N := 113) (Fk := [(9, .slice oa41 r39.1.length cap42), (11, .int .i64 vA8), (13, .int .i64 r60.1), (14, .int .i64 r60.2), (15, .int .i64 r62.1), (16, .int .i64 r62.2), (88, .bool (r64 && (decide ((r39.1.length : Int) = (r12.length : Int)))))]) (b := r64) 6 hS ?_ ?_ ?_
      ·
        intro hb key
        replace hF := Fr.as hF (t := 82) rfl (congrArg Value.bool hb)
        refine ls <| gy hF rfl rfl <| q1 hF rfl (e_move hF rfl) fun a hF => ?_
        refine ls <| gy hF rfl rfl <| q1 hF rfl (e_lenL (α := api_Op) (xs := r39.1) hF Tryd.runUnderlying26 rfl) fun a hF => ?_
        refine ls <| gy hF rfl rfl <| q1 hF rfl (e_move hF rfl) fun a hF => ?_
        refine ls <| gy hF rfl rfl <| q1 hF rfl (e_lenL (α := api_Node) (xs := r12) hF Tryd.runUnderlying22 rfl) fun a hF => ?_
        refine ls <| gy hF rfl rfl <| q1 hF rfl (e_eql hF rfl rfl) fun a hF => ?_
        refine ls <| q1 hF rfl (e_as (v' := .bool (r64 && (decide ((r39.1.length : Int) = (r12.length : Int))))) (e_pickT hF rfl rfl) (by rw [hb]; rfl)) fun a hF => ?_
        exact key _ _ (hF.has ⟨rfl, rfl, rfl, rfl, rfl, rfl, rfl, trivial⟩) hS
      ·
        intro hb key
        replace hF := Fr.as hF (t := 82) rfl (congrArg Value.bool hb)
        refine ls <| gn hF rfl rfl rfl rfl fun a hF => ?_
        refine ls <| gn hF rfl rfl rfl rfl fun a hF => ?_
        refine ls <| gn hF rfl rfl rfl rfl fun a hF => ?_
        refine ls <| gn hF rfl rfl rfl rfl fun a hF => ?_
        refine ls <| gn hF rfl rfl rfl rfl fun a hF => ?_
        refine ls <| q1 hF rfl (e_as (v' := .bool (r64 && (decide ((r39.1.length : Int) = (r12.length : Int))))) (e_pickF hF rfl rfl) (by rw [hb]; rfl)) fun a hF => ?_
        exact key _ _ (hF.has ⟨rfl, rfl, rfl, rfl, rfl, rfl, rfl, trivial⟩) hS
      intro a w hF hS
      refine ls <| q1 hF rfl (e_move hF rfl) fun a hF => ?_
      refine grp (N := 113) (Fk := [(9, .slice oa41 r39.1.length cap42), (11, .int .i64 vA8), (14, .int .i64 r60.2), (16, .int .i64 r62.2), (93, .bool ((r64 && (decide ((r39.1.length : Int) = (r12.length : Int)))) && (decide (r60.1 = r62.1))))]) (b := (r64 && (decide ((r39.1.length : Int) = (r12.length : Int))))) 4 hS ?_ ?_ ?_
      ·
        intro hb key
        replace hF := Fr.as hF (t := 89) rfl (congrArg Value.bool hb)
        refine ls <| gy hF rfl rfl <| q1 hF rfl (e_move hF rfl) fun a hF => ?_
        refine ls <| gy hF rfl rfl <| q1 hF rfl (e_move hF rfl) fun a hF => ?_
        refine ls <| gy hF rfl rfl <| q1 hF rfl (e_eql hF rfl rfl) fun a hF => ?_
        refine ls <| q1 hF rfl (e_as (v' := .bool ((r64 && (decide ((r39.1.length : Int) = (r12.length : Int)))) && (decide (r60.1 = r62.1)))) (e_pickT hF rfl rfl) (by rw [hb]; rfl)) fun a hF => ?_
        exact key _ _ (hF.has ⟨rfl, rfl, rfl, rfl, rfl, trivial⟩) hS
      ·
        intro hb key
        replace hF := Fr.as hF (t := 89) rfl (congrArg Value.bool hb)
        refine ls <| gn hF rfl rfl rfl rfl fun a hF => ?_
        refine ls <| gn hF rfl rfl rfl rfl fun a hF => ?_
        refine ls <| gn hF rfl rfl rfl rfl fun a hF => ?_
        refine ls <| q1 hF rfl (e_as (v' := .bool ((r64 && (decide ((r39.1.length : Int) = (r12.length : Int)))) && (decide (r60.1 = r62.1)))) (e_pickF hF rfl rfl) (by rw [hb]; rfl)) fun a hF => ?_
        exact key _ _ (hF.has ⟨rfl, rfl, rfl, rfl, rfl, trivial⟩) hS
      intro a w hF hS
      refine ls <| q1 hF rfl (e_move hF rfl) fun a hF => ?_
      refine grp (N := 113) (Fk := [(9, .slice oa41 r39.1.length cap42), (11, .int .i64 vA8), (98, .bool (((r64 && (decide ((r39.1.length : Int) = (r12.length : Int)))) && (decide (r60.1 = r62.1))) && (decide (r60.2 = r62.2))))]) (b := ((r64 && (decide ((r39.1.length : Int) = (r12.length : Int)))) && (decide (r60.1 = r62.1)))) 4 hS ?_ ?_ ?_
      ·
        intro hb key
        replace hF := Fr.as hF (t := 94) rfl (congrArg Value.bool hb)
        refine ls <| gy hF rfl rfl <| q1 hF rfl (e_move hF rfl) fun a hF => ?_
        refine ls <| gy hF rfl rfl <| q1 hF rfl (e_move hF rfl) fun a hF => ?_
        refine ls <| gy hF rfl rfl <| q1 hF rfl (e_eql hF rfl rfl) fun a hF => ?_
        refine ls <| q1 hF rfl (e_as (v' := .bool (((r64 && (decide ((r39.1.length : Int) = (r12.length : Int)))) && (decide (r60.1 = r62.1))) && (decide (r60.2 = r62.2)))) (e_pickT hF rfl rfl) (by rw [hb]; rfl)) fun a hF => ?_
        exact key _ _ (hF.has ⟨rfl, rfl, rfl, trivial⟩) hS
      ·
        intro hb key
        replace hF := Fr.as hF (t := 94) rfl (congrArg Value.bool hb)
        refine ls <| gn hF rfl rfl rfl rfl fun a hF => ?_
        refine ls <| gn hF rfl rfl rfl rfl fun a hF => ?_
        refine ls <| gn hF rfl rfl rfl rfl fun a hF => ?_
        refine ls <| q1 hF rfl (e_as (v' := .bool (((r64 && (decide ((r39.1.length : Int) = (r12.length : Int)))) && (decide (r60.1 = r62.1))) && (decide (r60.2 = r62.2)))) (e_pickF hF rfl rfl) (by rw [hb]; rfl)) fun a hF => ?_
        exact key _ _ (hF.has ⟨rfl, rfl, rfl, trivial⟩) hS
      intro a w hF hS
      refine ls <| q1 hF rfl (e_as (e_move hF rfl) (congrArg Value.bool hb66)) fun a hF => ?_
      refine ls <| gn hF rfl rfl rfl rfl fun a hF => ?_
      refine ls <| gn hF rfl rfl rfl rfl fun a hF => ?_
      refine ls <| gn hF rfl rfl rfl rfl fun a hF => ?_
      refine ls <| q1 hF rfl (e_pickF hF rfl rfl) fun a hF => ?_
      refine ls <| q1 hF rfl (e_move hF rfl) fun a hF => ?_
      refine ls <| gn hF rfl rfl rfl rfl fun a hF => ?_
      refine ls <| gn hF rfl rfl rfl rfl fun a hF => ?_
      refine ls <| gn hF rfl rfl rfl rfl fun a hF => ?_
      refine ls <| gn hF rfl rfl rfl rfl fun a hF => ?_
      refine ls <| q1 hF rfl (e_pickF hF rfl rfl) fun a hF => ?_
      refine ls <| q1 hF rfl (e_move hF rfl) fun a hF => ?_
      refine ls <| gn hF rfl rfl rfl rfl fun a hF => ?_
      refine ls <| q1 hF rfl (e_pickF hF rfl rfl) fun a hF => ?_
      refine ls <| q1 hF rfl (e_asg hF rfl) fun a hF => ?_
      refine re <| ?_
      refine tn <| ?_
      refine wp_ret <| ?_
      obtain rfl := Option.some.inj hm
      exact r1 hF Tryd.results5 rfl ⟨rfl, hS.keep⟩
end Go.LM.CODE
