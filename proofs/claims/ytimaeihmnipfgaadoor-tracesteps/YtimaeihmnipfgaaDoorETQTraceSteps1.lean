/- Walks, lifted by program. No condition beyond each theorem's own premises. -/
import Derived.Test.YtimaeihmnipfgaaDoorETB
namespace Go.LM.ET
open Go Go.LL Go.MD Go.LM Go.Proofs Go.MD.ET

set_option maxRecDepth 100000 in
theorem event_Uses_c {N : Nat} {w0 : World} {H : PH} (hH : H.le w0) {p1 : api_Event} {oa3 : Option Addr} {cap4 : Nat} {p2 : (List Int)} (hc5 : p2.length ≤ cap4) (hr6 : SR H oa3 p2) {p7 : Int} {r : (List api_Use)} (hm : event_Uses N p1 p2 p7 = some r) : Tot Tryd.prog 14 #[.agg #[.int .i64 p1.Kind, .int .i64 p1.T, .int .i64 p1.A, .int .i64 p1.N, .int .i64 p1.M], .slice oa3 p2.length cap4, .int .i64 p7] w0 (fun v w' => ∃ (oa0 : Option Addr) (cap0 : Nat) (vs0 : List Value), v = .slice oa0 r.length cap0 ∧ (∀ h, Rows h vs0 r) ∧ Fresh w0 (sla 27 3 oa0 r.length cap0 vs0) w') := by
  unfold event_Uses at hm
  refine fn0 (args := [.agg #[.int .i64 p1.Kind, .int .i64 p1.T, .int .i64 p1.A, .int .i64 p1.N, .int .i64 p1.M], .slice oa3 p2.length cap4, .int .i64 p7]) (F := [(0, .agg #[.int .i64 p1.Kind, .int .i64 p1.T, .int .i64 p1.A, .int .i64 p1.N, .int .i64 p1.M]), (1, .slice oa3 p2.length cap4), (2, .int .i64 p7)]) Tryd.func14 rfl Tryd.ntmps14 rfl rfl fun a hF => ?_
  have hS : St w0 Nil [H] [] w0 := start1 hH
  refine th <| ?_
  refine rg <| ?_
  refine ls <| a_box (cs := [.int .i64 p1.Kind, .int .i64 p1.T, .int .i64 p1.A, .int .i64 p1.N, .int .i64 p1.M].toArray) hF rfl hS rfl rfl fun b8 w a hS hF => ?_
  refine ls <| q1 hF rfl (e_asg hF rfl) fun a hF => ?_
  refine re <| ?_
  refine tn <| th <| ?_
  refine rg <| ?_
  refine ls <| q1 hF rfl (e_asg hF rfl) fun a hF => ?_
  refine re <| ?_
  refine tn <| th <| th <| ?_
  refine rg <| ?_
  refine ls <| q1 hF rfl (e_fa hF fa23_0 rfl) fun a hF => ?_
  refine ls <| q1 hF rfl (e_ld hF Tryd.isAgg3 rfl ((St.ld hS).cellB (.head _) rfl)) fun a hF => ?_
  refine re <| ?_
  refine tn <| midK (fun a w => ∃ (vA2 : (List api_Use)) (HA1 : PH) (oaA3 : Option Addr) (capA4 : Nat) (vsA5 : List Value), event_Uses_j1 vA2 = some r ∧ Ext w0 H HA1 ∧ Fr 75 [(7, .slice oaA3 vA2.length capA4)] a ∧ St w0 Nil [HA1] [sla 27 3 oaA3 vA2.length capA4 vsA5] w ∧ Rows HA1 vsA5 vA2) ?_ ?_
  ·
    refine wp_block <| th <| wp_block <| th <| wp_block <| th <| midK (fun a w => ∃ (vB2 : api_Event) (vB3 : (List api_Use)) (HB1 : PH) (oaB4 : Option Addr) (capB5 : Nat) (vsB6 : List Value), (event_Uses_j2 event_Uses_j1) vB2 vB3 = some r ∧ Ext w0 H HB1 ∧ Fr 75 [(3, .pointer (some ⟨b8, 0, none⟩)), (7, .slice oaB4 vB3.length capB5)] a ∧ St w0 Nil [HB1] [blk b8 (.cells [.int .i64 vB2.Kind, .int .i64 vB2.T, .int .i64 vB2.A, .int .i64 vB2.N, .int .i64 vB2.M].toArray 23 (0, 0)), sla 27 3 oaB4 vB3.length capB5 vsB6] w ∧ Rows HB1 vsB6 vB3) ?_ ?_
    ·
      refine wp_block <| th <| wp_block <| th <| wp_block <| th <| th <| th <| th <| ?_
      refine rg <| ?_
      refine ls <| q1 hF rfl (e_eql hF rfl rfl) fun a hF => ?_
      refine ls <| q1 hF rfl (e_asg hF rfl) fun a hF => ?_
      refine re <| ?_
      refine tn <| midK (fun a w => ∃ (vC6 : Bool) (HC1 : PH) (oaC2 : Option Addr) (capC3 : Nat), (event_Uses_j3 N event_Uses_j1 (event_Uses_j2 event_Uses_j1) p1 p2 p7) vC6 = some r ∧ Ext w0 H HC1 ∧ Fr 75 [(1, .slice oaC2 p2.length capC3), (2, .int .i64 p7), (3, .pointer (some ⟨b8, 0, none⟩)), (7, .slice none 0 0), (9, .int .i64 p1.Kind), (10, .bool vC6)] a ∧ St w0 Nil [HC1] [blk b8 (.cells [.int .i64 p1.Kind, .int .i64 p1.T, .int .i64 p1.A, .int .i64 p1.N, .int .i64 p1.M].toArray 23 (0, 0))] w ∧ p2.length ≤ capC3 ∧ SR HC1 oaC2 p2) ?_ ?_
      ·
        rcases bdich (decide (p1.Kind = 1)) with hb9 | hb9
        ·
          replace hm := itp_t hm hb9
          refine ctv hF rfl hb9 <| wp_skip <| ?_
          refine tn <| ?_
          exact ⟨(decide (p1.Kind = 1)), H, oa3, cap4, hm, (Ext.refl _ _), hF.has ⟨rfl, rfl, rfl, rfl, rfl, rfl, trivial⟩, hS, hc5, hr6⟩
        ·
          replace hm := itp_f hm hb9
          refine cfv hF rfl hb9 <| ?_
          refine rg <| ?_
          refine ls <| q1 hF rfl (e_eql hF rfl rfl) fun a hF => ?_
          refine ls <| q1 hF rfl (e_asg hF rfl) fun a hF => ?_
          refine re <| ?_
          refine tn <| ?_
          exact ⟨(decide (p1.Kind = 9)), H, oa3, cap4, hm, (Ext.refl _ _), hF.has ⟨rfl, rfl, rfl, rfl, rfl, rfl, trivial⟩, hS, hc5, hr6⟩
      clear hm hF hS
      rintro a w ⟨vC6, HC1, oaC2, capC3, hm, hxHC1, hF, hS, hcC4, hrC5⟩
      unfold event_Uses_j3 at hm
      rcases bdich vC6 with hb10 | hb10
      ·
        replace hm := ite_t hm hb10
        refine ctv hF rfl hb10 <| ?_
        refine wp_exit <| tx <| tx <| bx <| ?_
        refine tn <| th <| ?_
        replace hm := bind_some hm
        obtain ⟨l14, h15, hm⟩ := hm
        refine rg <| ?_
        refine ls <| q1 hF rfl (e_move hF rfl) fun a hF => ?_
        refine ls <| q1 hF rfl (e_fa hF fa23_2 rfl) fun a hF => ?_
        refine ls <| q1 hF rfl (e_ld hF Tryd.isAgg3 rfl ((St.ld hS).cellB (.head _) rfl)) fun a hF => ?_
        refine ls <| q1 hF rfl (e_bldK [.int .i64 1, .int .i64 p1.A] [.int .i64 1, .int .i64 p1.A, .bool false] hF ⟨rfl, rfl, trivial⟩ (fun w => by kernel_rfl)) fun a hF => ?_
        refine ls <| a_bsl (e := 27) (sz := 3) [.int .i64 1, .int .i64 p1.A, .bool false] hF rfl hS rfl rfl rfl (fun w => by kernel_rfl) fun b12 w a hS hF => ?_
        have hv11 : Rows (α := api_Use) HC1 [.int .i64 1, .int .i64 p1.A, .bool false] ([(api_Use.mk 1 p1.A false)] : List api_Use) := (.cons (c := [.int .i64 1, .int .i64 p1.A, .bool false]) ⟨_, _, rfl, rfl, ⟨_, _, rfl, rfl, rfl⟩⟩ .nil)
        replace hS := St.nilS hS 27 3
        refine ls <| m_app (α := api_Use) (xs := []) (ys := ([(api_Use.mk 1 p1.A false)] : List api_Use)) hF rfl hS Tryd.underlying29 info27 rfl (by decide) rfl rfl rfl (.head _) .nil (hS.rdO (.tail _ (.head _))) hv11 h15 fun oa16 cap17 vs18 w a hv19 hU hF => ?_
        replace hS := hU _ .head
        clear hU
        replace hS := hS.drop (.tail .head)
        refine ls <| q1 hF rfl (e_asg hF rfl) fun a hF => ?_
        refine re <| ?_
        refine tn <| ?_
        refine wp_exit <| bo rfl <| tx <| bo rfl <| tx <| bo rfl <| tx <| bo rfl <| tx <| bx <| ?_
        refine tn <| ?_
        replace hS := hS.pickL (.cons .head .nil)
        exact ⟨l14, HC1, oa16, cap17, vs18, hm, hxHC1, hF.has ⟨rfl, trivial⟩, hS, hv19⟩
      ·
        replace hm := ite_f hm hb10
        refine cfv hF rfl hb10 <| wp_skip <| ?_
        refine tn <| th <| th <| th <| ?_
        refine rg <| ?_
        refine ls <| q1 hF rfl (e_eql hF rfl rfl) fun a hF => ?_
        refine ls <| q1 hF rfl (e_asg hF rfl) fun a hF => ?_
        refine re <| ?_
        refine tn <| midK (fun a w => ∃ (vC7 : Bool), (event_Uses_j4 N event_Uses_j1 (event_Uses_j2 event_Uses_j1) p1 p2 p7) vC7 = some r ∧ Fr 75 [(1, .slice oaC2 p2.length capC3), (2, .int .i64 p7), (3, .pointer (some ⟨b8, 0, none⟩)), (7, .slice none 0 0), (9, .int .i64 p1.Kind), (13, .bool vC7)] a ∧ St w0 Nil [HC1] [blk b8 (.cells [.int .i64 p1.Kind, .int .i64 p1.T, .int .i64 p1.A, .int .i64 p1.N, .int .i64 p1.M].toArray 23 (0, 0))] w) ?_ ?_
        ·
          rcases bdich (decide (p1.Kind = 8)) with hb21 | hb21
          ·
            replace hm := itp_t hm hb21
            refine ctv hF rfl hb21 <| wp_skip <| ?_
            refine tn <| ?_
            exact ⟨(decide (p1.Kind = 8)), hm, hF.has ⟨rfl, rfl, rfl, rfl, rfl, rfl, trivial⟩, hS⟩
          ·
            replace hm := itp_f hm hb21
            refine cfv hF rfl hb21 <| ?_
            refine rg <| ?_
            refine ls <| q1 hF rfl (e_eql hF rfl rfl) fun a hF => ?_
            refine ls <| q1 hF rfl (e_asg hF rfl) fun a hF => ?_
            refine re <| ?_
            refine tn <| ?_
            exact ⟨(decide (p1.Kind = 12)), hm, hF.has ⟨rfl, rfl, rfl, rfl, rfl, rfl, trivial⟩, hS⟩
        clear hm hF hS
        rintro a w ⟨vC7, hm, hF, hS⟩
        unfold event_Uses_j4 at hm
        rcases bdich vC7 with hb22 | hb22
        ·
          replace hm := ite_t hm hb22
          refine ctv hF rfl hb22 <| ?_
          refine wp_exit <| tx <| tx <| bo rfl <| tx <| bx <| ?_
          refine tn <| th <| ?_
          replace hm := bind_some hm
          obtain ⟨l26, h27, hm⟩ := hm
          refine rg <| ?_
          refine ls <| q1 hF rfl (e_move hF rfl) fun a hF => ?_
          refine ls <| q1 hF rfl (e_fa hF fa23_2 rfl) fun a hF => ?_
          refine ls <| q1 hF rfl (e_ld hF Tryd.isAgg3 rfl ((St.ld hS).cellB (.head _) rfl)) fun a hF => ?_
          refine ls <| q1 hF rfl (e_bldK [.int .i64 1, .int .i64 p1.A, .bool true] [.int .i64 1, .int .i64 p1.A, .bool true] hF ⟨rfl, rfl, rfl, trivial⟩ (fun w => by kernel_rfl)) fun a hF => ?_
          refine ls <| a_bsl (e := 27) (sz := 3) [.int .i64 1, .int .i64 p1.A, .bool true] hF rfl hS rfl rfl rfl (fun w => by kernel_rfl) fun b24 w a hS hF => ?_
          have hv23 : Rows (α := api_Use) HC1 [.int .i64 1, .int .i64 p1.A, .bool true] ([(api_Use.mk 1 p1.A true)] : List api_Use) := (.cons (c := [.int .i64 1, .int .i64 p1.A, .bool true]) ⟨_, _, rfl, rfl, ⟨_, _, rfl, rfl, rfl⟩⟩ .nil)
          replace hS := St.nilS hS 27 3
          refine ls <| m_app (α := api_Use) (xs := []) (ys := ([(api_Use.mk 1 p1.A true)] : List api_Use)) hF rfl hS Tryd.underlying29 info27 rfl (by decide) rfl rfl rfl (.head _) .nil (hS.rdO (.tail _ (.head _))) hv23 h27 fun oa28 cap29 vs30 w a hv31 hU hF => ?_
          replace hS := hU _ .head
          clear hU
          replace hS := hS.drop (.tail .head)
          refine ls <| q1 hF rfl (e_asg hF rfl) fun a hF => ?_
          refine re <| ?_
          refine tn <| th <| th <| ?_
          refine rg <| ?_
          refine ls <| q1 hF rfl (e_fa hF fa23_2 rfl) fun a hF => ?_
          refine ls <| q1 hF rfl (e_ld hF Tryd.isAgg3 rfl ((St.ld hS).cellB (.tail _ (.head _)) rfl)) fun a hF => ?_
          refine ls <| q1 hF rfl (e_lss hF rfl rfl) fun a hF => ?_
          refine ls <| q1 hF rfl (e_move hF rfl) fun a hF => ?_
          refine grp (N := 75) (Fk := [(1, .slice oaC2 p2.length capC3), (3, .pointer (some ⟨b8, 0, none⟩)), (7, .slice oa28 l26.length cap29), (44, .bool ((decide (p1.A < 0)) || (decide (p7 ≤ p1.A))))]) (b := (decide (p1.A < 0))) 5 hS ?_ ?_ ?_
          ·
            intro hb key
            replace hF := Fr.as hF (t := 39) rfl (congrArg Value.bool hb)
            refine ls <| gn hF rfl rfl rfl rfl fun a hF => ?_
            refine ls <| gn hF rfl rfl rfl rfl fun a hF => ?_
            refine ls <| gn hF rfl rfl rfl rfl fun a hF => ?_
            refine ls <| gn hF rfl rfl rfl rfl fun a hF => ?_
            refine ls <| q1 hF rfl (e_as (v' := .bool ((decide (p1.A < 0)) || (decide (p7 ≤ p1.A)))) (e_pickT hF rfl rfl) (by rw [hb]; rfl)) fun a hF => ?_
            exact key _ _ (hF.has ⟨rfl, rfl, rfl, rfl, trivial⟩) hS
          ·
            intro hb key
            replace hF := Fr.as hF (t := 39) rfl (congrArg Value.bool hb)
            refine ls <| gy hF rfl rfl <| q1 hF rfl (e_fa hF fa23_2 rfl) fun a hF => ?_
            refine ls <| gy hF rfl rfl <| q1 hF rfl (e_ld hF Tryd.isAgg3 rfl ((St.ld hS).cellB (.tail _ (.head _)) rfl)) fun a hF => ?_
            refine ls <| gy hF rfl rfl <| q1 hF rfl (e_move hF rfl) fun a hF => ?_
            refine ls <| gy hF rfl rfl <| q1 hF rfl (e_geq hF rfl rfl) fun a hF => ?_
            refine ls <| q1 hF rfl (e_as (v' := .bool ((decide (p1.A < 0)) || (decide (p7 ≤ p1.A)))) (e_pickF hF rfl rfl) (by rw [hb]; rfl)) fun a hF => ?_
            exact key _ _ (hF.has ⟨rfl, rfl, rfl, rfl, trivial⟩) hS
          intro a w hF hS
          refine ls <| q1 hF rfl (e_move hF rfl) fun a hF => ?_
          refine grp (N := 75) (Fk := [(1, .slice oaC2 p2.length capC3), (3, .pointer (some ⟨b8, 0, none⟩)), (7, .slice oa28 l26.length cap29), (51, .bool (((decide (p1.A < 0)) || (decide (p7 ≤ p1.A))) || (decide ((p2.length : Int) ≤ p1.A))))]) (b := ((decide (p1.A < 0)) || (decide (p7 ≤ p1.A)))) 6 hS ?_ ?_ ?_
          ·
            intro hb key
            replace hF := Fr.as hF (t := 45) rfl (congrArg Value.bool hb)
            refine ls <| gn hF rfl rfl rfl rfl fun a hF => ?_
            refine ls <| gn hF rfl rfl rfl rfl fun a hF => ?_
            refine ls <| gn hF rfl rfl rfl rfl fun a hF => ?_
            refine ls <| gn hF rfl rfl rfl rfl fun a hF => ?_
            refine ls <| gn hF rfl rfl rfl rfl fun a hF => ?_
            refine ls <| q1 hF rfl (e_as (v' := .bool (((decide (p1.A < 0)) || (decide (p7 ≤ p1.A))) || (decide ((p2.length : Int) ≤ p1.A)))) (e_pickT hF rfl rfl) (by rw [hb]; rfl)) fun a hF => ?_
            exact key _ _ (hF.has ⟨rfl, rfl, rfl, rfl, trivial⟩) hS
          ·
            intro hb key
            replace hF := Fr.as hF (t := 45) rfl (congrArg Value.bool hb)
            refine ls <| gy hF rfl rfl <| q1 hF rfl (e_fa hF fa23_2 rfl) fun a hF => ?_
            refine ls <| gy hF rfl rfl <| q1 hF rfl (e_ld hF Tryd.isAgg3 rfl ((St.ld hS).cellB (.tail _ (.head _)) rfl)) fun a hF => ?_
            refine ls <| gy hF rfl rfl <| q1 hF rfl (e_move hF rfl) fun a hF => ?_
            refine ls <| gy hF rfl rfl <| q1 hF rfl (e_lenL (α := Int) (xs := p2) hF Tryd.runUnderlying25 rfl) fun a hF => ?_
            refine ls <| gy hF rfl rfl <| q1 hF rfl (e_geq hF rfl rfl) fun a hF => ?_
            refine ls <| q1 hF rfl (e_as (v' := .bool (((decide (p1.A < 0)) || (decide (p7 ≤ p1.A))) || (decide ((p2.length : Int) ≤ p1.A)))) (e_pickF hF rfl rfl) (by rw [hb]; rfl)) fun a hF => ?_
            exact key _ _ (hF.has ⟨rfl, rfl, rfl, rfl, trivial⟩) hS
          intro a w hF hS
          refine re <| ?_
          rcases bdich (((decide (p1.A < 0)) || (decide (p7 ≤ p1.A))) || (decide ((p2.length : Int) ≤ p1.A))) with hb33 | hb33
          ·
            replace hm := ite_t hm hb33
            refine tn <| ctv hF rfl hb33 <| ?_
            refine wp_exit <| tx <| bo rfl <| tx <| bo rfl <| tx <| bo rfl <| tx <| bx <| ?_
            refine tn <| ?_
            replace hS := hS.pickL (.cons .head .nil)
            exact ⟨l26, HC1, oa28, cap29, vs30, hm, hxHC1, hF.has ⟨rfl, trivial⟩, hS, hv31⟩
          ·
            replace hm := ite_f hm hb33
            refine tn <| cfv hF rfl hb33 <| wp_skip <| ?_
            refine tn <| ?_
            replace hm := bind_some hm
            obtain ⟨x34, h35, hm⟩ := hm
            obtain ⟨c36, g37, hl38⟩ := SR.get hrC5 h35
            obtain rfl : c36 = [.int .i64 x34] := g37
            refine rg <| ?_
            refine ls <| q1 hF rfl (e_move hF rfl) fun a hF => ?_
            refine ls <| q1 hF rfl (e_fa hF fa23_2 rfl) fun a hF => ?_
            refine ls <| q1 hF rfl (e_ld hF Tryd.isAgg3 rfl ((St.ld hS).cellB (.tail _ (.head _)) rfl)) fun a hF => ?_
            refine ls <| q1 hF rfl (e_iaI hF Tryd.runUnderlying25 Tryd.sizeOf3 rfl rfl h35 (SR.oaI hrC5 (by decide) h35)) fun a hF => ?_
            refine ls <| q1 hF rfl (e_ld hF Tryd.isAgg3 rfl (PH.le.cell (Lds.le (St.ld hS)) (hl38 0 _ rfl))) fun a hF => ?_
            refine ls <| q1 hF rfl (e_fa hF fa23_2 rfl) fun a hF => ?_
            refine ls <| s_blk hF hS Tryd.sizeOf3 rfl rfl rfl rfl (.tail .head) (.succ (.succ .zero)) fun w hS => ?_
            refine re <| ?_
            refine bn <| tn <| ?_
            replace hS := hS.pickL (.cons (.tail .head) (.cons .head .nil))
            exact ⟨(api_Event.mk p1.Kind p1.T x34 p1.N p1.M), l26, HC1, oa28, cap29, vs30, hm, hxHC1, hF.has ⟨rfl, rfl, trivial⟩, hS, hv31⟩
        ·
          replace hm := ite_f hm hb22
          refine cfv hF rfl hb22 <| wp_skip <| ?_
          refine tn <| th <| th <| ?_
          refine rg <| ?_
          refine ls <| q1 hF rfl (e_eql hF rfl rfl) fun a hF => ?_
          refine ls <| q1 hF rfl (e_asg hF rfl) fun a hF => ?_
          refine re <| ?_
          rcases bdich (decide (p1.Kind = 13)) with hb39 | hb39
          ·
            replace hm := itp_t hm hb39
            refine tn <| ctv hF rfl hb39 <| ?_
            refine wp_exit <| tx <| tx <| bo rfl <| tx <| bo rfl <| tx <| bx <| ?_
            refine tn <| ?_
            replace hS := St.nilS hS 27 3
            replace hS := hS.pickL (.cons (.tail .head) (.cons .head .nil))
            exact ⟨p1, [], HC1, none, 0, [], hm, hxHC1, hF.has ⟨rfl, rfl, trivial⟩, hS, .nil⟩
          ·
            replace hm := itp_f hm hb39
            refine tn <| cfv hF rfl hb39 <| wp_skip <| ?_
            refine tn <| th <| th <| th <| ?_
            refine rg <| ?_
            refine ls <| q1 hF rfl (e_eql hF rfl rfl) fun a hF => ?_
            refine ls <| q1 hF rfl (e_asg hF rfl) fun a hF => ?_
            refine re <| ?_
            refine tn <| midK (fun a w => ∃ (vC8 : Bool), (event_Uses_j5 event_Uses_j1 p1) vC8 = some r ∧ Fr 75 [(3, .pointer (some ⟨b8, 0, none⟩)), (7, .slice none 0 0), (9, .int .i64 p1.Kind), (18, .bool vC8)] a ∧ St w0 Nil [HC1] [blk b8 (.cells [.int .i64 p1.Kind, .int .i64 p1.T, .int .i64 p1.A, .int .i64 p1.N, .int .i64 p1.M].toArray 23 (0, 0))] w) ?_ ?_
            ·
              rcases bdich (decide (p1.Kind = 10)) with hb40 | hb40
              ·
                replace hm := itp_t hm hb40
                refine ctv hF rfl hb40 <| wp_skip <| ?_
                refine tn <| ?_
                exact ⟨(decide (p1.Kind = 10)), hm, hF.has ⟨rfl, rfl, rfl, rfl, trivial⟩, hS⟩
              ·
                replace hm := itp_f hm hb40
                refine cfv hF rfl hb40 <| ?_
                refine rg <| ?_
                refine ls <| q1 hF rfl (e_eql hF rfl rfl) fun a hF => ?_
                refine ls <| q1 hF rfl (e_asg hF rfl) fun a hF => ?_
                refine re <| ?_
                refine tn <| ?_
                exact ⟨(decide (p1.Kind = 11)), hm, hF.has ⟨rfl, rfl, rfl, rfl, trivial⟩, hS⟩
            clear hm hF hS
            rintro a w ⟨vC8, hm, hF, hS⟩
            unfold event_Uses_j5 at hm
            rcases bdich vC8 with hb41 | hb41
            ·
              replace hm := ite_t hm hb41
              refine ctv hF rfl hb41 <| ?_
              refine wp_exit <| tx <| tx <| bo rfl <| tx <| bo rfl <| tx <| bo rfl <| tx <| bx <| ?_
              refine tn <| th <| ?_
              replace hm := bind_some hm
              obtain ⟨l45, h46, hm⟩ := hm
              refine rg <| ?_
              refine ls <| q1 hF rfl (e_move hF rfl) fun a hF => ?_
              refine ls <| q1 hF rfl (e_fa hF fa23_2 rfl) fun a hF => ?_
              refine ls <| q1 hF rfl (e_ld hF Tryd.isAgg3 rfl ((St.ld hS).cellB (.head _) rfl)) fun a hF => ?_
              refine ls <| q1 hF rfl (e_bldK [.int .i64 3, .int .i64 p1.A, .bool true] [.int .i64 3, .int .i64 p1.A, .bool true] hF ⟨rfl, rfl, rfl, trivial⟩ (fun w => by kernel_rfl)) fun a hF => ?_
              refine ls <| a_bsl (e := 27) (sz := 3) [.int .i64 3, .int .i64 p1.A, .bool true] hF rfl hS rfl rfl rfl (fun w => by kernel_rfl) fun b43 w a hS hF => ?_
              have hv42 : Rows (α := api_Use) HC1 [.int .i64 3, .int .i64 p1.A, .bool true] ([(api_Use.mk 3 p1.A true)] : List api_Use) := (.cons (c := [.int .i64 3, .int .i64 p1.A, .bool true]) ⟨_, _, rfl, rfl, ⟨_, _, rfl, rfl, rfl⟩⟩ .nil)
              replace hS := St.nilS hS 27 3
              refine ls <| m_app (α := api_Use) (xs := []) (ys := ([(api_Use.mk 3 p1.A true)] : List api_Use)) hF rfl hS Tryd.underlying29 info27 rfl (by decide) rfl rfl rfl (.head _) .nil (hS.rdO (.tail _ (.head _))) hv42 h46 fun oa47 cap48 vs49 w a hv50 hU hF => ?_
              replace hS := hU _ .head
              clear hU
              replace hS := hS.drop (.tail .head)
              refine ls <| q1 hF rfl (e_asg hF rfl) fun a hF => ?_
              refine re <| ?_
              refine tn <| ?_
              refine wp_exit <| bo rfl <| tx <| bx <| ?_
              refine tn <| ?_
              replace hS := hS.pickL (.cons .head .nil)
              exact ⟨l45, HC1, oa47, cap48, vs49, hm, hxHC1, hF.has ⟨rfl, trivial⟩, hS, hv50⟩
            ·
              replace hm := ite_f hm hb41
              refine cfv hF rfl hb41 <| wp_skip <| ?_
              refine tn <| th <| th <| ?_
              refine rg <| ?_
              refine ls <| q1 hF rfl (e_eql hF rfl rfl) fun a hF => ?_
              refine ls <| q1 hF rfl (e_asg hF rfl) fun a hF => ?_
              refine re <| ?_
              refine tn <| midK (fun a w => ∃ (vC9 : Bool), (event_Uses_j6 event_Uses_j1) vC9 = some r ∧ Fr 75 [(7, .slice none 0 0), (21, .bool vC9)] a ∧ St w0 Nil [HC1] [] w) ?_ ?_
              ·
                rcases bdich (decide (p1.Kind = 15)) with hb52 | hb52
                ·
                  replace hm := itp_t hm hb52
                  refine ctv hF rfl hb52 <| wp_skip <| ?_
                  refine tn <| ?_
                  replace hS := hS.pickL .nil
                  exact ⟨(decide (p1.Kind = 15)), hm, hF.has ⟨rfl, rfl, trivial⟩, hS⟩
                ·
                  replace hm := itp_f hm hb52
                  refine cfv hF rfl hb52 <| ?_
                  refine rg <| ?_
                  refine ls <| q1 hF rfl (e_eql hF rfl rfl) fun a hF => ?_
                  refine ls <| q1 hF rfl (e_asg hF rfl) fun a hF => ?_
                  refine re <| ?_
                  refine tn <| ?_
                  replace hS := hS.pickL .nil
                  exact ⟨(decide (p1.Kind = 16)), hm, hF.has ⟨rfl, rfl, trivial⟩, hS⟩
              clear hm hF hS
              rintro a w ⟨vC9, hm, hF, hS⟩
              unfold event_Uses_j6 at hm
              rcases bdich vC9 with hb53 | hb53
              ·
                replace hm := ite_t hm hb53
                refine ctv hF rfl hb53 <| ?_
                refine wp_exit <| tx <| bo rfl <| tx <| bo rfl <| tx <| bo rfl <| tx <| bo rfl <| tx <| bx <| ?_
                refine tn <| th <| ?_
                replace hm := bind_some hm
                obtain ⟨l57, h58, hm⟩ := hm
                refine rg <| ?_
                refine ls <| q1 hF rfl (e_move hF rfl) fun a hF => ?_
                refine ls <| q1 hF rfl (e_bldK [.int .i64 4, .bool true] [.int .i64 4, .int .i64 0, .bool true] hF ⟨rfl, rfl, trivial⟩ (fun w => by kernel_rfl)) fun a hF => ?_
                refine ls <| a_bsl (e := 27) (sz := 3) [.int .i64 4, .int .i64 0, .bool true] hF rfl hS rfl rfl rfl (fun w => by kernel_rfl) fun b55 w a hS hF => ?_
                have hv54 : Rows (α := api_Use) HC1 [.int .i64 4, .int .i64 0, .bool true] ([(api_Use.mk 4 0 true)] : List api_Use) := (.cons (c := [.int .i64 4, .int .i64 0, .bool true]) ⟨_, _, rfl, rfl, ⟨_, _, rfl, rfl, rfl⟩⟩ .nil)
                replace hS := St.nilS hS 27 3
                refine ls <| m_app (α := api_Use) (xs := []) (ys := ([(api_Use.mk 4 0 true)] : List api_Use)) hF rfl hS Tryd.underlying29 info27 rfl (by decide) rfl rfl rfl (.head _) .nil (hS.rdO (.tail _ (.head _))) hv54 h58 fun oa59 cap60 vs61 w a hv62 hU hF => ?_
                replace hS := hU _ .head
                clear hU
                replace hS := hS.drop (.tail .head)
                refine ls <| q1 hF rfl (e_asg hF rfl) fun a hF => ?_
                refine re <| ?_
                refine tn <| ?_
                refine wp_exit <| bx <| ?_
                refine tn <| ?_
                exact ⟨l57, HC1, oa59, cap60, vs61, hm, hxHC1, hF.has ⟨rfl, trivial⟩, hS, hv62⟩
              ·
                replace hm := ite_f hm hb53
                refine cfv hF rfl hb53 <| wp_skip <| ?_
                refine tn <| ?_
                refine wp_exit <| bo rfl <| tx <| bo rfl <| tx <| bo rfl <| tx <| bo rfl <| tx <| bo rfl <| tx <| bx <| ?_
                refine tn <| ?_
                replace hS := St.nilS hS 27 3
                exact ⟨[], HC1, none, 0, [], hm, hxHC1, hF.has ⟨rfl, trivial⟩, hS, .nil⟩
    clear hm hF hS
    rintro a w ⟨vB2, vB3, HB1, oaB4, capB5, vsB6, hm, hxHB1, hF, hS, hvB7⟩
    unfold event_Uses_j2 at hm
    refine th <| ?_
    replace hm := bind_some hm
    obtain ⟨l67, h68, hm⟩ := hm
    refine rg <| ?_
    refine ls <| q1 hF rfl (e_move hF rfl) fun a hF => ?_
    refine ls <| q1 hF rfl (e_fa hF fa23_2 rfl) fun a hF => ?_
    refine ls <| q1 hF rfl (e_ld hF Tryd.isAgg3 rfl ((St.ld hS).cellB (.head _) rfl)) fun a hF => ?_
    refine ls <| q1 hF rfl (e_bldK [.int .i64 2, .int .i64 vB2.A, .bool true] [.int .i64 2, .int .i64 vB2.A, .bool true] hF ⟨rfl, rfl, rfl, trivial⟩ (fun w => by kernel_rfl)) fun a hF => ?_
    refine ls <| a_bsl (e := 27) (sz := 3) [.int .i64 2, .int .i64 vB2.A, .bool true] hF rfl hS rfl rfl rfl (fun w => by kernel_rfl) fun b65 w a hS hF => ?_
    have hv64 : Rows (α := api_Use) HB1 [.int .i64 2, .int .i64 vB2.A, .bool true] ([(api_Use.mk 2 vB2.A true)] : List api_Use) := (.cons (c := [.int .i64 2, .int .i64 vB2.A, .bool true]) ⟨_, _, rfl, rfl, ⟨_, _, rfl, rfl, rfl⟩⟩ .nil)
    refine ls <| m_app (α := api_Use) (xs := vB3) (ys := ([(api_Use.mk 2 vB2.A true)] : List api_Use)) hF rfl hS Tryd.underlying29 info27 rfl (by decide) rfl rfl rfl (.tail _ (.tail _ (.head _))) hvB7 (hS.rdO (.head _)) hv64 h68 fun oa69 cap70 vs71 w a hv72 hU hF => ?_
    replace hS := hU _ (.tail (.tail .head))
    clear hU
    replace hS := hS.drop .head
    refine ls <| q1 hF rfl (e_asg hF rfl) fun a hF => ?_
    refine re <| ?_
    refine tn <| ?_
    refine wp_exit <| bo rfl <| tx <| bo rfl <| tx <| bx <| ?_
    refine tn <| ?_
    replace hS := hS.pickL (.cons (.tail .head) .nil)
    exact ⟨l67, HB1, oa69, cap70, vs71, hm, hxHB1, hF.has ⟨rfl, trivial⟩, hS, hv72⟩
  clear hm hF hS
  rintro a w ⟨vA2, HA1, oaA3, capA4, vsA5, hm, hxHA1, hF, hS, hvA6⟩
  unfold event_Uses_j1 at hm
  refine th <| ?_
  refine rg <| ?_
  refine ls <| q1 hF rfl (e_move hF rfl) fun a hF => ?_
  refine ls <| q1 hF rfl (e_asg hF rfl) fun a hF => ?_
  refine re <| ?_
  refine tn <| ?_
  refine wp_ret <| ?_
  obtain rfl := Option.some.inj hm
  exact r1 hF Tryd.results14 rfl ⟨_, _, _, rfl, (fun _ => Rows.ind hvA6), hS.endFresh (.head _)⟩

set_option maxRecDepth 100000 in
theorem leadlineref15_Uses_c {N : Nat} {w0 : World} {H : PH} (hH : H.le w0) {p1 : api_Event} {oa3 : Option Addr} {cap4 : Nat} {p2 : (List Int)} (hc5 : p2.length ≤ cap4) (hr6 : SR H oa3 p2) {p7 : Int} {r : (List api_Use)} (hm : leadlineref15_Uses N p1 p2 p7 = some r) : Tot Tryd.prog 15 #[.agg #[.int .i64 p1.Kind, .int .i64 p1.T, .int .i64 p1.A, .int .i64 p1.N, .int .i64 p1.M], .slice oa3 p2.length cap4, .int .i64 p7] w0 (fun v w' => ∃ (oa0 : Option Addr) (cap0 : Nat) (vs0 : List Value), v = .slice oa0 r.length cap0 ∧ (∀ h, Rows h vs0 r) ∧ Fresh w0 (sla 27 3 oa0 r.length cap0 vs0) w') := by
  unfold leadlineref15_Uses at hm
  refine fn0 (args := [.agg #[.int .i64 p1.Kind, .int .i64 p1.T, .int .i64 p1.A, .int .i64 p1.N, .int .i64 p1.M], .slice oa3 p2.length cap4, .int .i64 p7]) (F := [(0, .agg #[.int .i64 p1.Kind, .int .i64 p1.T, .int .i64 p1.A, .int .i64 p1.N, .int .i64 p1.M]), (1, .slice oa3 p2.length cap4), (2, .int .i64 p7)]) Tryd.func15 rfl Tryd.ntmps15 rfl rfl fun a hF => ?_
  have hS : St w0 Nil [H] [] w0 := start1 hH
  refine th <| ?_
  refine rg <| ?_
  refine ls <| a_box (cs := [.int .i64 p1.Kind, .int .i64 p1.T, .int .i64 p1.A, .int .i64 p1.N, .int .i64 p1.M].toArray) hF rfl hS rfl rfl fun b8 w a hS hF => ?_
  refine ls <| q1 hF rfl (e_asg hF rfl) fun a hF => ?_
  refine re <| ?_
  refine tn <| th <| th <| ?_
  refine rg <| ?_
  refine ls <| q1 hF rfl (e_fa hF fa23_0 rfl) fun a hF => ?_
  refine ls <| q1 hF rfl (e_ld hF Tryd.isAgg3 rfl ((St.ld hS).cellB (.head _) rfl)) fun a hF => ?_
  refine re <| ?_
  refine tn <| wp_block <| th <| th <| ?_
  refine rg <| ?_
  refine ls <| q1 hF rfl (e_eql hF rfl rfl) fun a hF => ?_
  refine ls <| q1 hF rfl (e_asg hF rfl) fun a hF => ?_
  refine re <| ?_
  refine tn <| midK (fun a w => ∃ (vA6 : Bool) (HA1 : PH) (oaA2 : Option Addr) (capA3 : Nat), (leadlineref15_Uses_j1 p1 p2 p7) vA6 = some r ∧ Ext w0 H HA1 ∧ Fr 68 [(1, .slice oaA2 p2.length capA3), (2, .int .i64 p7), (3, .pointer (some ⟨b8, 0, none⟩)), (9, .int .i64 p1.Kind), (10, .bool vA6)] a ∧ St w0 Nil [HA1] [blk b8 (.cells [.int .i64 p1.Kind, .int .i64 p1.T, .int .i64 p1.A, .int .i64 p1.N, .int .i64 p1.M].toArray 23 (0, 0))] w ∧ p2.length ≤ capA3 ∧ SR HA1 oaA2 p2) ?_ ?_
  ·
    rcases bdich (decide (p1.Kind = 1)) with hb9 | hb9
    ·
      replace hm := itp_t hm hb9
      refine ctv hF rfl hb9 <| wp_skip <| ?_
      refine tn <| ?_
      exact ⟨(decide (p1.Kind = 1)), H, oa3, cap4, hm, (Ext.refl _ _), hF.has ⟨rfl, rfl, rfl, rfl, rfl, trivial⟩, hS, hc5, hr6⟩
    ·
      replace hm := itp_f hm hb9
      refine cfv hF rfl hb9 <| ?_
      refine rg <| ?_
      refine ls <| q1 hF rfl (e_eql hF rfl rfl) fun a hF => ?_
      refine ls <| q1 hF rfl (e_asg hF rfl) fun a hF => ?_
      refine re <| ?_
      refine tn <| ?_
      exact ⟨(decide (p1.Kind = 9)), H, oa3, cap4, hm, (Ext.refl _ _), hF.has ⟨rfl, rfl, rfl, rfl, rfl, trivial⟩, hS, hc5, hr6⟩
  clear hm hF hS
  rintro a w ⟨vA6, HA1, oaA2, capA3, hm, hxHA1, hF, hS, hcA4, hrA5⟩
  unfold leadlineref15_Uses_j1 at hm
  rcases bdich vA6 with hb10 | hb10
  ·
    replace hm := ite_t hm hb10
    refine ctv hF rfl hb10 <| th <| ?_
    refine rg <| ?_
    refine ls <| q1 hF rfl (e_fa hF fa23_2 rfl) fun a hF => ?_
    refine ls <| q1 hF rfl (e_ld hF Tryd.isAgg3 rfl ((St.ld hS).cellB (.head _) rfl)) fun a hF => ?_
    refine ls <| q1 hF rfl (e_bldK [.int .i64 1, .int .i64 p1.A] [.int .i64 1, .int .i64 p1.A, .bool false] hF ⟨rfl, rfl, trivial⟩ (fun w => by kernel_rfl)) fun a hF => ?_
    refine ls <| a_bsl (e := 27) (sz := 3) [.int .i64 1, .int .i64 p1.A, .bool false] hF rfl hS rfl rfl rfl (fun w => by kernel_rfl) fun b12 w a hS hF => ?_
    have hv11 : Rows (α := api_Use) HA1 [.int .i64 1, .int .i64 p1.A, .bool false] ([(api_Use.mk 1 p1.A false)] : List api_Use) := (.cons (c := [.int .i64 1, .int .i64 p1.A, .bool false]) ⟨_, _, rfl, rfl, ⟨_, _, rfl, rfl, rfl⟩⟩ .nil)
    refine ls <| q1 hF rfl (e_asg hF rfl) fun a hF => ?_
    refine re <| ?_
    refine tn <| ?_
    refine wp_ret <| br <| tr <| ?_
    obtain rfl := Option.some.inj hm
    exact r1 hF Tryd.results15 rfl ⟨_, _, _, rfl, (fun _ => Rows.ind hv11), hS.endFresh (.head _)⟩
  ·
    replace hm := ite_f hm hb10
    refine cfv hF rfl hb10 <| th <| th <| ?_
    refine rg <| ?_
    refine ls <| q1 hF rfl (e_eql hF rfl rfl) fun a hF => ?_
    refine ls <| q1 hF rfl (e_asg hF rfl) fun a hF => ?_
    refine re <| ?_
    refine tn <| midK (fun a w => ∃ (vA7 : Bool), (leadlineref15_Uses_j2 p1 p2 p7) vA7 = some r ∧ Fr 68 [(1, .slice oaA2 p2.length capA3), (2, .int .i64 p7), (3, .pointer (some ⟨b8, 0, none⟩)), (9, .int .i64 p1.Kind), (17, .bool vA7)] a ∧ St w0 Nil [HA1] [blk b8 (.cells [.int .i64 p1.Kind, .int .i64 p1.T, .int .i64 p1.A, .int .i64 p1.N, .int .i64 p1.M].toArray 23 (0, 0))] w) ?_ ?_
    ·
      rcases bdich (decide (p1.Kind = 8)) with hb14 | hb14
      ·
        replace hm := itp_t hm hb14
        refine ctv hF rfl hb14 <| wp_skip <| ?_
        refine tn <| ?_
        exact ⟨(decide (p1.Kind = 8)), hm, hF.has ⟨rfl, rfl, rfl, rfl, rfl, trivial⟩, hS⟩
      ·
        replace hm := itp_f hm hb14
        refine cfv hF rfl hb14 <| ?_
        refine rg <| ?_
        refine ls <| q1 hF rfl (e_eql hF rfl rfl) fun a hF => ?_
        refine ls <| q1 hF rfl (e_asg hF rfl) fun a hF => ?_
        refine re <| ?_
        refine tn <| ?_
        exact ⟨(decide (p1.Kind = 12)), hm, hF.has ⟨rfl, rfl, rfl, rfl, rfl, trivial⟩, hS⟩
    clear hm hF hS
    rintro a w ⟨vA7, hm, hF, hS⟩
    unfold leadlineref15_Uses_j2 at hm
    rcases bdich vA7 with hb15 | hb15
    ·
      replace hm := ite_t hm hb15
      refine ctv hF rfl hb15 <| th <| ?_
      refine rg <| ?_
      refine ls <| q1 hF rfl (e_fa hF fa23_2 rfl) fun a hF => ?_
      refine ls <| q1 hF rfl (e_ld hF Tryd.isAgg3 rfl ((St.ld hS).cellB (.head _) rfl)) fun a hF => ?_
      refine ls <| q1 hF rfl (e_bldK [.int .i64 1, .int .i64 p1.A, .bool true] [.int .i64 1, .int .i64 p1.A, .bool true] hF ⟨rfl, rfl, rfl, trivial⟩ (fun w => by kernel_rfl)) fun a hF => ?_
      refine ls <| a_bsl (e := 27) (sz := 3) [.int .i64 1, .int .i64 p1.A, .bool true] hF rfl hS rfl rfl rfl (fun w => by kernel_rfl) fun b17 w a hS hF => ?_
      have hv16 : Rows (α := api_Use) HA1 [.int .i64 1, .int .i64 p1.A, .bool true] ([(api_Use.mk 1 p1.A true)] : List api_Use) := (.cons (c := [.int .i64 1, .int .i64 p1.A, .bool true]) ⟨_, _, rfl, rfl, ⟨_, _, rfl, rfl, rfl⟩⟩ .nil)
      refine ls <| q1 hF rfl (e_asg hF rfl) fun a hF => ?_
      refine re <| ?_
      refine tn <| th <| th <| ?_
      refine rg <| ?_
      refine ls <| q1 hF rfl (e_fa hF fa23_2 rfl) fun a hF => ?_
      refine ls <| q1 hF rfl (e_ld hF Tryd.isAgg3 rfl ((St.ld hS).cellB (.tail _ (.head _)) rfl)) fun a hF => ?_
      refine ls <| q1 hF rfl (e_geq hF rfl rfl) fun a hF => ?_
      refine ls <| q1 hF rfl (e_move hF rfl) fun a hF => ?_
      refine grp (N := 68) (Fk := [(1, .slice oaA2 p2.length capA3), (3, .pointer (some ⟨b8, 0, none⟩)), (7, .slice (some ⟨b17, 0, none⟩) ([(api_Use.mk 1 p1.A true)] : List api_Use).length 1), (32, .bool ((decide (0 ≤ p1.A)) && (decide (p1.A < p7))))]) (b := (decide (0 ≤ p1.A))) 5 hS ?_ ?_ ?_
      ·
        intro hb key
        replace hF := Fr.as hF (t := 27) rfl (congrArg Value.bool hb)
        refine ls <| gy hF rfl rfl <| q1 hF rfl (e_fa hF fa23_2 rfl) fun a hF => ?_
        refine ls <| gy hF rfl rfl <| q1 hF rfl (e_ld hF Tryd.isAgg3 rfl ((St.ld hS).cellB (.tail _ (.head _)) rfl)) fun a hF => ?_
        refine ls <| gy hF rfl rfl <| q1 hF rfl (e_move hF rfl) fun a hF => ?_
        refine ls <| gy hF rfl rfl <| q1 hF rfl (e_lss hF rfl rfl) fun a hF => ?_
        refine ls <| q1 hF rfl (e_as (v' := .bool ((decide (0 ≤ p1.A)) && (decide (p1.A < p7)))) (e_pickT hF rfl rfl) (by rw [hb]; rfl)) fun a hF => ?_
        exact key _ _ (hF.has ⟨rfl, rfl, rfl, rfl, trivial⟩) hS
      ·
        intro hb key
        replace hF := Fr.as hF (t := 27) rfl (congrArg Value.bool hb)
        refine ls <| gn hF rfl rfl rfl rfl fun a hF => ?_
        refine ls <| gn hF rfl rfl rfl rfl fun a hF => ?_
        refine ls <| gn hF rfl rfl rfl rfl fun a hF => ?_
        refine ls <| gn hF rfl rfl rfl rfl fun a hF => ?_
        refine ls <| q1 hF rfl (e_as (v' := .bool ((decide (0 ≤ p1.A)) && (decide (p1.A < p7)))) (e_pickF hF rfl rfl) (by rw [hb]; rfl)) fun a hF => ?_
        exact key _ _ (hF.has ⟨rfl, rfl, rfl, rfl, trivial⟩) hS
      intro a w hF hS
      refine ls <| q1 hF rfl (e_move hF rfl) fun a hF => ?_
      refine grp (N := 68) (Fk := [(1, .slice oaA2 p2.length capA3), (3, .pointer (some ⟨b8, 0, none⟩)), (7, .slice (some ⟨b17, 0, none⟩) ([(api_Use.mk 1 p1.A true)] : List api_Use).length 1), (39, .bool (((decide (0 ≤ p1.A)) && (decide (p1.A < p7))) && (decide (p1.A < (p2.length : Int)))))]) (b := ((decide (0 ≤ p1.A)) && (decide (p1.A < p7)))) 6 hS ?_ ?_ ?_
      ·
        intro hb key
        replace hF := Fr.as hF (t := 33) rfl (congrArg Value.bool hb)
        refine ls <| gy hF rfl rfl <| q1 hF rfl (e_fa hF fa23_2 rfl) fun a hF => ?_
        refine ls <| gy hF rfl rfl <| q1 hF rfl (e_ld hF Tryd.isAgg3 rfl ((St.ld hS).cellB (.tail _ (.head _)) rfl)) fun a hF => ?_
        refine ls <| gy hF rfl rfl <| q1 hF rfl (e_move hF rfl) fun a hF => ?_
        refine ls <| gy hF rfl rfl <| q1 hF rfl (e_lenL (α := Int) (xs := p2) hF Tryd.runUnderlying25 rfl) fun a hF => ?_
        refine ls <| gy hF rfl rfl <| q1 hF rfl (e_lss hF rfl rfl) fun a hF => ?_
        refine ls <| q1 hF rfl (e_as (v' := .bool (((decide (0 ≤ p1.A)) && (decide (p1.A < p7))) && (decide (p1.A < (p2.length : Int))))) (e_pickT hF rfl rfl) (by rw [hb]; rfl)) fun a hF => ?_
        exact key _ _ (hF.has ⟨rfl, rfl, rfl, rfl, trivial⟩) hS
      ·
        intro hb key
        replace hF := Fr.as hF (t := 33) rfl (congrArg Value.bool hb)
        refine ls <| gn hF rfl rfl rfl rfl fun a hF => ?_
        refine ls <| gn hF rfl rfl rfl rfl fun a hF => ?_
        refine ls <| gn hF rfl rfl rfl rfl fun a hF => ?_
        refine ls <| gn hF rfl rfl rfl rfl fun a hF => ?_
        refine ls <| gn hF rfl rfl rfl rfl fun a hF => ?_
        refine ls <| q1 hF rfl (e_as (v' := .bool (((decide (0 ≤ p1.A)) && (decide (p1.A < p7))) && (decide (p1.A < (p2.length : Int))))) (e_pickF hF rfl rfl) (by rw [hb]; rfl)) fun a hF => ?_
        exact key _ _ (hF.has ⟨rfl, rfl, rfl, rfl, trivial⟩) hS
      intro a w hF hS
      refine re <| ?_
      refine tn <| midK (fun a w => ∃ (vA8 : (List api_Use)) (oaA9 : Option Addr) (capA10 : Nat) (vsA11 : List Value), leadlineref15_Uses_j3 vA8 = some r ∧ Fr 68 [(7, .slice oaA9 vA8.length capA10)] a ∧ St w0 Nil [HA1] [sla 27 3 oaA9 vA8.length capA10 vsA11] w ∧ Rows HA1 vsA11 vA8) ?_ ?_
      ·
        rcases bdich (((decide (0 ≤ p1.A)) && (decide (p1.A < p7))) && (decide (p1.A < (p2.length : Int)))) with hb19 | hb19
        ·
          replace hm := ite_t hm hb19
          refine ctv hF rfl hb19 <| ?_
          replace hm := bind_some hm
          obtain ⟨x20, h21, hm⟩ := hm
          obtain ⟨c22, g23, hl24⟩ := SR.get hrA5 h21
          obtain rfl : c22 = [.int .i64 x20] := g23
          replace hm := bind_some hm
          obtain ⟨l28, h29, hm⟩ := hm
          refine rg <| ?_
          refine ls <| q1 hF rfl (e_move hF rfl) fun a hF => ?_
          refine ls <| q1 hF rfl (e_move hF rfl) fun a hF => ?_
          refine ls <| q1 hF rfl (e_fa hF fa23_2 rfl) fun a hF => ?_
          refine ls <| q1 hF rfl (e_ld hF Tryd.isAgg3 rfl ((St.ld hS).cellB (.tail _ (.head _)) rfl)) fun a hF => ?_
          refine ls <| q1 hF rfl (e_iaI hF Tryd.runUnderlying25 Tryd.sizeOf3 rfl rfl h21 (SR.oaI hrA5 (by decide) h21)) fun a hF => ?_
          refine ls <| q1 hF rfl (e_ld hF Tryd.isAgg3 rfl (PH.le.cell (Lds.le (St.ld hS)) (hl24 0 _ rfl))) fun a hF => ?_
          refine ls <| q1 hF rfl (e_bldK [.int .i64 2, .int .i64 x20, .bool true] [.int .i64 2, .int .i64 x20, .bool true] hF ⟨rfl, rfl, rfl, trivial⟩ (fun w => by kernel_rfl)) fun a hF => ?_
          refine ls <| a_bsl (e := 27) (sz := 3) [.int .i64 2, .int .i64 x20, .bool true] hF rfl hS rfl rfl rfl (fun w => by kernel_rfl) fun b26 w a hS hF => ?_
          have hv25 : Rows (α := api_Use) HA1 [.int .i64 2, .int .i64 x20, .bool true] ([(api_Use.mk 2 x20 true)] : List api_Use) := (.cons (c := [.int .i64 2, .int .i64 x20, .bool true]) ⟨_, _, rfl, rfl, ⟨_, _, rfl, rfl, rfl⟩⟩ .nil)
          refine ls <| m_app (α := api_Use) (xs := ([(api_Use.mk 1 p1.A true)] : List api_Use)) (ys := ([(api_Use.mk 2 x20 true)] : List api_Use)) hF rfl hS Tryd.underlying29 info27 rfl (by decide) rfl rfl rfl (.tail _ (.head _)) hv16 (hS.rdO (.head _)) hv25 h29 fun oa30 cap31 vs32 w a hv33 hU hF => ?_
          replace hS := hU _ (.tail .head)
          clear hU
          replace hS := hS.drop .head
          refine ls <| q1 hF rfl (e_asg hF rfl) fun a hF => ?_
          refine re <| ?_
          refine tn <| ?_
          replace hS := hS.pickL (.cons .head .nil)
          exact ⟨l28, oa30, cap31, vs32, hm, hF.has ⟨rfl, trivial⟩, hS, hv33⟩
        ·
          replace hm := ite_f hm hb19
          refine cfv hF rfl hb19 <| wp_skip <| ?_
          refine tn <| ?_
          replace hS := hS.pickL (.cons .head .nil)
          exact ⟨([(api_Use.mk 1 p1.A true)] : List api_Use), (some ⟨b17, 0, none⟩), 1, [.int .i64 1, .int .i64 p1.A, .bool true], hm, hF.has ⟨rfl, trivial⟩, hS, hv16⟩
      clear hm hF hS
      rintro a w ⟨vA8, oaA9, capA10, vsA11, hm, hF, hS, hvA12⟩
      unfold leadlineref15_Uses_j3 at hm
      refine th <| ?_
      refine rg <| ?_
      refine ls <| q1 hF rfl (e_move hF rfl) fun a hF => ?_
      refine ls <| q1 hF rfl (e_asg hF rfl) fun a hF => ?_
      refine re <| ?_
      refine tn <| ?_
      refine wp_ret <| br <| tr <| ?_
      obtain rfl := Option.some.inj hm
      exact r1 hF Tryd.results15 rfl ⟨_, _, _, rfl, (fun _ => Rows.ind hvA12), hS.endFresh (.head _)⟩
    ·
      replace hm := ite_f hm hb15
      refine cfv hF rfl hb15 <| th <| ?_
      refine rg <| ?_
      refine ls <| q1 hF rfl (e_eql hF rfl rfl) fun a hF => ?_
      refine ls <| q1 hF rfl (e_asg hF rfl) fun a hF => ?_
      refine re <| ?_
      rcases bdich (decide (p1.Kind = 13)) with hb34 | hb34
      ·
        replace hm := itp_t hm hb34
        refine tn <| ctv hF rfl hb34 <| th <| ?_
        refine rg <| ?_
        refine ls <| q1 hF rfl (e_fa hF fa23_2 rfl) fun a hF => ?_
        refine ls <| q1 hF rfl (e_ld hF Tryd.isAgg3 rfl ((St.ld hS).cellB (.head _) rfl)) fun a hF => ?_
        refine ls <| q1 hF rfl (e_bldK [.int .i64 2, .int .i64 p1.A, .bool true] [.int .i64 2, .int .i64 p1.A, .bool true] hF ⟨rfl, rfl, rfl, trivial⟩ (fun w => by kernel_rfl)) fun a hF => ?_
        refine ls <| a_bsl (e := 27) (sz := 3) [.int .i64 2, .int .i64 p1.A, .bool true] hF rfl hS rfl rfl rfl (fun w => by kernel_rfl) fun b36 w a hS hF => ?_
        have hv35 : Rows (α := api_Use) HA1 [.int .i64 2, .int .i64 p1.A, .bool true] ([(api_Use.mk 2 p1.A true)] : List api_Use) := (.cons (c := [.int .i64 2, .int .i64 p1.A, .bool true]) ⟨_, _, rfl, rfl, ⟨_, _, rfl, rfl, rfl⟩⟩ .nil)
        refine ls <| q1 hF rfl (e_asg hF rfl) fun a hF => ?_
        refine re <| ?_
        refine tn <| ?_
        refine wp_ret <| br <| tr <| ?_
        obtain rfl := Option.some.inj hm
        exact r1 hF Tryd.results15 rfl ⟨_, _, _, rfl, (fun _ => Rows.ind hv35), hS.endFresh (.head _)⟩
      ·
        replace hm := itp_f hm hb34
        refine tn <| cfv hF rfl hb34 <| th <| th <| ?_
        refine rg <| ?_
        refine ls <| q1 hF rfl (e_eql hF rfl rfl) fun a hF => ?_
        refine ls <| q1 hF rfl (e_asg hF rfl) fun a hF => ?_
        refine re <| ?_
        refine tn <| midK (fun a w => ∃ (vA14 : Bool), (leadlineref15_Uses_j4 p1) vA14 = some r ∧ Fr 68 [(3, .pointer (some ⟨b8, 0, none⟩)), (9, .int .i64 p1.Kind), (56, .bool vA14)] a ∧ St w0 Nil [HA1] [blk b8 (.cells [.int .i64 p1.Kind, .int .i64 p1.T, .int .i64 p1.A, .int .i64 p1.N, .int .i64 p1.M].toArray 23 (0, 0))] w) ?_ ?_
        ·
          rcases bdich (decide (p1.Kind = 10)) with hb38 | hb38
          ·
            replace hm := itp_t hm hb38
            refine ctv hF rfl hb38 <| wp_skip <| ?_
            refine tn <| ?_
            exact ⟨(decide (p1.Kind = 10)), hm, hF.has ⟨rfl, rfl, rfl, trivial⟩, hS⟩
          ·
            replace hm := itp_f hm hb38
            refine cfv hF rfl hb38 <| ?_
            refine rg <| ?_
            refine ls <| q1 hF rfl (e_eql hF rfl rfl) fun a hF => ?_
            refine ls <| q1 hF rfl (e_asg hF rfl) fun a hF => ?_
            refine re <| ?_
            refine tn <| ?_
            exact ⟨(decide (p1.Kind = 11)), hm, hF.has ⟨rfl, rfl, rfl, trivial⟩, hS⟩
        clear hm hF hS
        rintro a w ⟨vA14, hm, hF, hS⟩
        unfold leadlineref15_Uses_j4 at hm
        rcases bdich vA14 with hb39 | hb39
        ·
          replace hm := ite_t hm hb39
          refine ctv hF rfl hb39 <| th <| ?_
          refine rg <| ?_
          refine ls <| q1 hF rfl (e_fa hF fa23_2 rfl) fun a hF => ?_
          refine ls <| q1 hF rfl (e_ld hF Tryd.isAgg3 rfl ((St.ld hS).cellB (.head _) rfl)) fun a hF => ?_
          refine ls <| q1 hF rfl (e_bldK [.int .i64 3, .int .i64 p1.A, .bool true] [.int .i64 3, .int .i64 p1.A, .bool true] hF ⟨rfl, rfl, rfl, trivial⟩ (fun w => by kernel_rfl)) fun a hF => ?_
          refine ls <| a_bsl (e := 27) (sz := 3) [.int .i64 3, .int .i64 p1.A, .bool true] hF rfl hS rfl rfl rfl (fun w => by kernel_rfl) fun b41 w a hS hF => ?_
          have hv40 : Rows (α := api_Use) HA1 [.int .i64 3, .int .i64 p1.A, .bool true] ([(api_Use.mk 3 p1.A true)] : List api_Use) := (.cons (c := [.int .i64 3, .int .i64 p1.A, .bool true]) ⟨_, _, rfl, rfl, ⟨_, _, rfl, rfl, rfl⟩⟩ .nil)
          refine ls <| q1 hF rfl (e_asg hF rfl) fun a hF => ?_
          refine re <| ?_
          refine tn <| ?_
          refine wp_ret <| br <| tr <| ?_
          obtain rfl := Option.some.inj hm
          exact r1 hF Tryd.results15 rfl ⟨_, _, _, rfl, (fun _ => Rows.ind hv40), hS.endFresh (.head _)⟩
        ·
          replace hm := ite_f hm hb39
          refine cfv hF rfl hb39 <| th <| th <| ?_
          refine rg <| ?_
          refine ls <| q1 hF rfl (e_eql hF rfl rfl) fun a hF => ?_
          refine ls <| q1 hF rfl (e_asg hF rfl) fun a hF => ?_
          refine re <| ?_
          refine tn <| midK (fun a w => ∃ (vA15 : Bool), leadlineref15_Uses_j5 vA15 = some r ∧ Fr 68 [(63, .bool vA15)] a ∧ St w0 Nil [HA1] [] w) ?_ ?_
          ·
            rcases bdich (decide (p1.Kind = 15)) with hb43 | hb43
            ·
              replace hm := itp_t hm hb43
              refine ctv hF rfl hb43 <| wp_skip <| ?_
              refine tn <| ?_
              replace hS := hS.pickL .nil
              exact ⟨(decide (p1.Kind = 15)), hm, hF.has ⟨rfl, trivial⟩, hS⟩
            ·
              replace hm := itp_f hm hb43
              refine cfv hF rfl hb43 <| ?_
              refine rg <| ?_
              refine ls <| q1 hF rfl (e_eql hF rfl rfl) fun a hF => ?_
              refine ls <| q1 hF rfl (e_asg hF rfl) fun a hF => ?_
              refine re <| ?_
              refine tn <| ?_
              replace hS := hS.pickL .nil
              exact ⟨(decide (p1.Kind = 16)), hm, hF.has ⟨rfl, trivial⟩, hS⟩
          clear hm hF hS
          rintro a w ⟨vA15, hm, hF, hS⟩
          unfold leadlineref15_Uses_j5 at hm
          rcases bdich vA15 with hb44 | hb44
          ·
            replace hm := ite_t hm hb44
            refine ctv hF rfl hb44 <| th <| ?_
            refine rg <| ?_
            refine ls <| q1 hF rfl (e_bldK [.int .i64 4, .bool true] [.int .i64 4, .int .i64 0, .bool true] hF ⟨rfl, rfl, trivial⟩ (fun w => by kernel_rfl)) fun a hF => ?_
            refine ls <| a_bsl (e := 27) (sz := 3) [.int .i64 4, .int .i64 0, .bool true] hF rfl hS rfl rfl rfl (fun w => by kernel_rfl) fun b46 w a hS hF => ?_
            have hv45 : Rows (α := api_Use) HA1 [.int .i64 4, .int .i64 0, .bool true] ([(api_Use.mk 4 0 true)] : List api_Use) := (.cons (c := [.int .i64 4, .int .i64 0, .bool true]) ⟨_, _, rfl, rfl, ⟨_, _, rfl, rfl, rfl⟩⟩ .nil)
            refine ls <| q1 hF rfl (e_asg hF rfl) fun a hF => ?_
            refine re <| ?_
            refine tn <| ?_
            refine wp_ret <| br <| tr <| ?_
            obtain rfl := Option.some.inj hm
            exact r1 hF Tryd.results15 rfl ⟨_, _, _, rfl, (fun _ => Rows.ind hv45), hS.endFresh (.head _)⟩
          ·
            replace hm := ite_f hm hb44
            refine cfv hF rfl hb44 <| wp_skip <| ?_
            refine bn <| tn <| th <| ?_
            refine rg <| ?_
            refine ls <| q1 hF rfl (e_asg hF rfl) fun a hF => ?_
            refine re <| ?_
            refine tn <| ?_
            refine wp_ret <| ?_
            replace hS := St.nilS hS 27 3
            obtain rfl := Option.some.inj hm
            exact r1 hF Tryd.results15 rfl ⟨_, _, _, rfl, (fun _ => .nil), hS.endFresh (.head _)⟩

set_option maxRecDepth 100000 in
theorem event_all_c {N : Nat} {w0 : World} {H : PH} (hH : H.le w0) {p1 : api_Event} {r : Bool} (hm : event_all N p1 = some r) : Tot Tryd.prog 40 #[.agg #[.int .i64 p1.Kind, .int .i64 p1.T, .int .i64 p1.A, .int .i64 p1.N, .int .i64 p1.M]] w0 (fun v w' => v = .bool r ∧ Keep Nil w0 w') := by
  unfold event_all at hm
  refine fn0 (args := [.agg #[.int .i64 p1.Kind, .int .i64 p1.T, .int .i64 p1.A, .int .i64 p1.N, .int .i64 p1.M]]) (F := [(0, .agg #[.int .i64 p1.Kind, .int .i64 p1.T, .int .i64 p1.A, .int .i64 p1.N, .int .i64 p1.M])]) Tryd.func40 rfl Tryd.ntmps40 rfl rfl fun a hF => ?_
  have hS : St w0 Nil [H] [] w0 := start1 hH
  refine th <| ?_
  refine rg <| ?_
  refine ls <| a_box (cs := [.int .i64 p1.Kind, .int .i64 p1.T, .int .i64 p1.A, .int .i64 p1.N, .int .i64 p1.M].toArray) hF rfl hS rfl rfl fun b2 w a hS hF => ?_
  refine ls <| q1 hF rfl (e_asg hF rfl) fun a hF => ?_
  refine re <| ?_
  refine tn <| th <| ?_
  refine rg <| ?_
  refine ls <| q1 hF rfl (e_fa hF fa23_0 rfl) fun a hF => ?_
  refine ls <| q1 hF rfl (e_ld hF Tryd.isAgg3 rfl ((St.ld hS).cellB (.head _) rfl)) fun a hF => ?_
  refine ls <| q1 hF rfl (e_eql hF rfl rfl) fun a hF => ?_
  refine ls <| q1 hF rfl (e_move hF rfl) fun a hF => ?_
  refine grp (N := 11) (Fk := [(10, .bool ((decide (p1.Kind = 15)) || (decide (p1.Kind = 16))))]) (b := (decide (p1.Kind = 15))) 4 hS ?_ ?_ ?_
  ·
    intro hb key
    replace hF := Fr.as hF (t := 6) rfl (congrArg Value.bool hb)
    refine ls <| gn hF rfl rfl rfl rfl fun a hF => ?_
    refine ls <| gn hF rfl rfl rfl rfl fun a hF => ?_
    refine ls <| gn hF rfl rfl rfl rfl fun a hF => ?_
    refine ls <| q1 hF rfl (e_as (v' := .bool ((decide (p1.Kind = 15)) || (decide (p1.Kind = 16)))) (e_pickT hF rfl rfl) (by rw [hb]; rfl)) fun a hF => ?_
    exact key _ _ (hF.has ⟨rfl, trivial⟩) hS
  ·
    intro hb key
    replace hF := Fr.as hF (t := 6) rfl (congrArg Value.bool hb)
    refine ls <| gy hF rfl rfl <| q1 hF rfl (e_fa hF fa23_0 rfl) fun a hF => ?_
    refine ls <| gy hF rfl rfl <| q1 hF rfl (e_ld hF Tryd.isAgg3 rfl ((St.ld hS).cellB (.head _) rfl)) fun a hF => ?_
    refine ls <| gy hF rfl rfl <| q1 hF rfl (e_eql hF rfl rfl) fun a hF => ?_
    refine ls <| q1 hF rfl (e_as (v' := .bool ((decide (p1.Kind = 15)) || (decide (p1.Kind = 16)))) (e_pickF hF rfl rfl) (by rw [hb]; rfl)) fun a hF => ?_
    exact key _ _ (hF.has ⟨rfl, trivial⟩) hS
  intro a w hF hS
  refine ls <| q1 hF rfl (e_asg hF rfl) fun a hF => ?_
  refine re <| ?_
  refine tn <| ?_
  refine wp_ret <| ?_
  obtain rfl := Option.some.inj hm
  exact r1 hF Tryd.results40 rfl ⟨rfl, hS.keep⟩

set_option maxRecDepth 100000 in
theorem event_Clash_c {N : Nat} {w0 : World} {H : PH} (hH : H.le w0) {p1 : api_Use} {p2 : api_Use} {r : Bool} (hm : event_Clash N p1 p2 = some r) : Tot Tryd.prog 22 #[.agg #[.int .i64 p1.What, .int .i64 p1.N, .bool p1.Write], .agg #[.int .i64 p2.What, .int .i64 p2.N, .bool p2.Write]] w0 (fun v w' => v = .bool r ∧ Keep Nil w0 w') := by
  unfold event_Clash at hm
  refine fn0 (args := [.agg #[.int .i64 p1.What, .int .i64 p1.N, .bool p1.Write], .agg #[.int .i64 p2.What, .int .i64 p2.N, .bool p2.Write]]) (F := [(0, .agg #[.int .i64 p1.What, .int .i64 p1.N, .bool p1.Write]), (1, .agg #[.int .i64 p2.What, .int .i64 p2.N, .bool p2.Write])]) Tryd.func22 rfl Tryd.ntmps22 rfl rfl fun a hF => ?_
  have hS : St w0 Nil [H] [] w0 := start1 hH
  refine th <| ?_
  refine rg <| ?_
  refine ls <| a_box (cs := [.int .i64 p1.What, .int .i64 p1.N, .bool p1.Write].toArray) hF rfl hS rfl rfl fun b3 w a hS hF => ?_
  refine ls <| a_box (cs := [.int .i64 p2.What, .int .i64 p2.N, .bool p2.Write].toArray) hF rfl hS rfl rfl fun b4 w a hS hF => ?_
  refine ls <| q1 hF rfl (e_asg hF rfl) fun a hF => ?_
  refine re <| ?_
  refine tn <| th <| th <| ?_
  refine rg <| ?_
  refine ls <| q1 hF rfl (e_fa hF fa27_0 rfl) fun a hF => ?_
  refine ls <| q1 hF rfl (e_ld hF Tryd.isAgg3 rfl ((St.ld hS).cellB (.tail _ (.head _)) rfl)) fun a hF => ?_
  refine ls <| q1 hF rfl (e_eql hF rfl rfl) fun a hF => ?_
  refine ls <| q1 hF rfl (e_move hF rfl) fun a hF => ?_
  refine grp (N := 33) (Fk := [(2, .pointer (some ⟨b3, 0, none⟩)), (3, .pointer (some ⟨b4, 0, none⟩)), (12, .bool ((decide (p1.What = 4)) || (decide (p2.What = 4))))]) (b := (decide (p1.What = 4))) 4 hS ?_ ?_ ?_
  ·
    intro hb key
    replace hF := Fr.as hF (t := 8) rfl (congrArg Value.bool hb)
    refine ls <| gn hF rfl rfl rfl rfl fun a hF => ?_
    refine ls <| gn hF rfl rfl rfl rfl fun a hF => ?_
    refine ls <| gn hF rfl rfl rfl rfl fun a hF => ?_
    refine ls <| q1 hF rfl (e_as (v' := .bool ((decide (p1.What = 4)) || (decide (p2.What = 4)))) (e_pickT hF rfl rfl) (by rw [hb]; rfl)) fun a hF => ?_
    exact key _ _ (hF.has ⟨rfl, rfl, rfl, trivial⟩) hS
  ·
    intro hb key
    replace hF := Fr.as hF (t := 8) rfl (congrArg Value.bool hb)
    refine ls <| gy hF rfl rfl <| q1 hF rfl (e_fa hF fa27_0 rfl) fun a hF => ?_
    refine ls <| gy hF rfl rfl <| q1 hF rfl (e_ld hF Tryd.isAgg3 rfl ((St.ld hS).cellB (.head _) rfl)) fun a hF => ?_
    refine ls <| gy hF rfl rfl <| q1 hF rfl (e_eql hF rfl rfl) fun a hF => ?_
    refine ls <| q1 hF rfl (e_as (v' := .bool ((decide (p1.What = 4)) || (decide (p2.What = 4)))) (e_pickF hF rfl rfl) (by rw [hb]; rfl)) fun a hF => ?_
    exact key _ _ (hF.has ⟨rfl, rfl, rfl, trivial⟩) hS
  intro a w hF hS
  refine re <| ?_
  rcases bdich ((decide (p1.What = 4)) || (decide (p2.What = 4))) with hb5 | hb5
  ·
    replace hm := ite_t hm hb5
    refine tn <| ctv hF rfl hb5 <| th <| ?_
    refine rg <| ?_
    refine ls <| q1 hF rfl (e_asg hF rfl) fun a hF => ?_
    refine re <| ?_
    refine tn <| ?_
    refine wp_ret <| tr <| ?_
    obtain rfl := Option.some.inj hm
    exact r1 hF Tryd.results22 rfl ⟨rfl, hS.keep⟩
  ·
    replace hm := ite_f hm hb5
    refine tn <| cfv hF rfl hb5 <| wp_skip <| ?_
    refine tn <| th <| ?_
    refine rg <| ?_
    refine ls <| q1 hF rfl (e_fa hF fa27_0 rfl) fun a hF => ?_
    refine ls <| q1 hF rfl (e_ld hF Tryd.isAgg3 rfl ((St.ld hS).cellB (.tail _ (.head _)) rfl)) fun a hF => ?_
    refine ls <| q1 hF rfl (e_fa hF fa27_0 rfl) fun a hF => ?_
    refine ls <| q1 hF rfl (e_ld hF Tryd.isAgg3 rfl ((St.ld hS).cellB (.head _) rfl)) fun a hF => ?_
    refine ls <| q1 hF rfl (e_eql hF rfl rfl) fun a hF => ?_
    refine ls <| q1 hF rfl (e_move hF rfl) fun a hF => ?_
    refine grp (N := 33) (Fk := [(2, .pointer (some ⟨b3, 0, none⟩)), (3, .pointer (some ⟨b4, 0, none⟩)), (24, .bool ((decide (p1.What = p2.What)) && (decide (p1.N = p2.N))))]) (b := (decide (p1.What = p2.What))) 6 hS ?_ ?_ ?_
    ·
      intro hb key
      replace hF := Fr.as hF (t := 18) rfl (congrArg Value.bool hb)
      refine ls <| gy hF rfl rfl <| q1 hF rfl (e_fa hF fa27_1 rfl) fun a hF => ?_
      refine ls <| gy hF rfl rfl <| q1 hF rfl (e_ld hF Tryd.isAgg3 rfl ((St.ld hS).cellB (.tail _ (.head _)) rfl)) fun a hF => ?_
      refine ls <| gy hF rfl rfl <| q1 hF rfl (e_fa hF fa27_1 rfl) fun a hF => ?_
      refine ls <| gy hF rfl rfl <| q1 hF rfl (e_ld hF Tryd.isAgg3 rfl ((St.ld hS).cellB (.head _) rfl)) fun a hF => ?_
      refine ls <| gy hF rfl rfl <| q1 hF rfl (e_eql hF rfl rfl) fun a hF => ?_
      refine ls <| q1 hF rfl (e_as (v' := .bool ((decide (p1.What = p2.What)) && (decide (p1.N = p2.N)))) (e_pickT hF rfl rfl) (by rw [hb]; rfl)) fun a hF => ?_
      exact key _ _ (hF.has ⟨rfl, rfl, rfl, trivial⟩) hS
    ·
      intro hb key
      replace hF := Fr.as hF (t := 18) rfl (congrArg Value.bool hb)
      refine ls <| gn hF rfl rfl rfl rfl fun a hF => ?_
      refine ls <| gn hF rfl rfl rfl rfl fun a hF => ?_
      refine ls <| gn hF rfl rfl rfl rfl fun a hF => ?_
      refine ls <| gn hF rfl rfl rfl rfl fun a hF => ?_
      refine ls <| gn hF rfl rfl rfl rfl fun a hF => ?_
      refine ls <| q1 hF rfl (e_as (v' := .bool ((decide (p1.What = p2.What)) && (decide (p1.N = p2.N)))) (e_pickF hF rfl rfl) (by rw [hb]; rfl)) fun a hF => ?_
      exact key _ _ (hF.has ⟨rfl, rfl, rfl, trivial⟩) hS
    intro a w hF hS
    refine ls <| q1 hF rfl (e_move hF rfl) fun a hF => ?_
    refine grp (N := 33) (Fk := [(32, .bool (((decide (p1.What = p2.What)) && (decide (p1.N = p2.N))) && (p1.Write || p2.Write)))]) (b := ((decide (p1.What = p2.What)) && (decide (p1.N = p2.N)))) 7 hS ?_ ?_ ?_
    ·
      intro hb key
      replace hF := Fr.as hF (t := 25) rfl (congrArg Value.bool hb)
      refine ls <| gy hF rfl rfl <| q1 hF rfl (e_fa hF fa27_2 rfl) fun a hF => ?_
      refine ls <| gy hF rfl rfl <| q1 hF rfl (e_ld hF Tryd.isAgg4 rfl ((St.ld hS).cellB (.tail _ (.head _)) rfl)) fun a hF => ?_
      refine ls <| gy hF rfl rfl <| q1 hF rfl (e_move hF rfl) fun a hF => ?_
      refine grp (N := 33) (Fk := [(25, .bool true), (31, .bool (p1.Write || p2.Write))]) (b := p1.Write) 3 hS ?_ ?_ ?_
      ·
        intro hb key
        replace hF := Fr.as hF (t := 28) rfl (congrArg Value.bool hb)
        refine ls <| gn hF rfl rfl rfl rfl fun a hF => ?_
        refine ls <| gn hF rfl rfl rfl rfl fun a hF => ?_
        refine ls <| gy hF rfl rfl <| q1 hF rfl (e_as (v' := .bool (p1.Write || p2.Write)) (e_pickT hF rfl rfl) (by rw [hb]; rfl)) fun a hF => ?_
        exact key _ _ (hF.has ⟨rfl, rfl, trivial⟩) hS
      ·
        intro hb key
        replace hF := Fr.as hF (t := 28) rfl (congrArg Value.bool hb)
        refine ls <| gy hF rfl rfl <| q1 hF rfl (e_fa hF fa27_2 rfl) fun a hF => ?_
        refine ls <| gy hF rfl rfl <| q1 hF rfl (e_ld hF Tryd.isAgg4 rfl ((St.ld hS).cellB (.head _) rfl)) fun a hF => ?_
        refine ls <| gy hF rfl rfl <| q1 hF rfl (e_as (v' := .bool (p1.Write || p2.Write)) (e_pickF hF rfl rfl) (by rw [hb]; rfl)) fun a hF => ?_
        exact key _ _ (hF.has ⟨rfl, rfl, trivial⟩) hS
      intro a w hF hS
      refine ls <| q1 hF rfl (e_as (v' := .bool (((decide (p1.What = p2.What)) && (decide (p1.N = p2.N))) && (p1.Write || p2.Write))) (e_pickT hF rfl rfl) (by rw [hb]; rfl)) fun a hF => ?_
      exact key _ _ (hF.has ⟨rfl, trivial⟩) hS
    ·
      intro hb key
      replace hF := Fr.as hF (t := 25) rfl (congrArg Value.bool hb)
      refine ls <| gn hF rfl rfl rfl rfl fun a hF => ?_
      refine ls <| gn hF rfl rfl rfl rfl fun a hF => ?_
      refine ls <| gn hF rfl rfl rfl rfl fun a hF => ?_
      refine ls <| gnu hF rfl rfl rfl fun a hF => ?_
      refine ls <| gnu hF rfl rfl rfl fun a hF => ?_
      refine ls <| gn hF rfl rfl rfl rfl fun a hF => ?_
      refine ls <| q1 hF rfl (e_as (v' := .bool (((decide (p1.What = p2.What)) && (decide (p1.N = p2.N))) && (p1.Write || p2.Write))) (e_pickF hF rfl rfl) (by rw [hb]; rfl)) fun a hF => ?_
      exact key _ _ (hF.has ⟨rfl, trivial⟩) hS
    intro a w hF hS
    refine ls <| q1 hF rfl (e_asg hF rfl) fun a hF => ?_
    refine re <| ?_
    refine tn <| ?_
    refine wp_ret <| ?_
    obtain rfl := Option.some.inj hm
    exact r1 hF Tryd.results22 rfl ⟨rfl, hS.keep⟩

set_option maxRecDepth 100000 in
theorem event_Depend_1_1_c {N : Nat} {w0 : World} {H : PH} (hH : H.le w0) {p1 : api_Use} {y3 : api_Use} {b2 : Nat} (hb4 : H b2 = some (.cells [.int .i64 y3.What, .int .i64 y3.N, .bool y3.Write].toArray 27 (0, 0))) {r : Bool} (hm : event_Depend_1_1 N p1 y3 = some r) : Tot Tryd.prog 43 #[.agg #[.int .i64 p1.What, .int .i64 p1.N, .bool p1.Write], .pointer (some ⟨b2, 0, none⟩)] w0 (fun v w' => v = .bool r ∧ Keep Nil w0 w') := by
  unfold event_Depend_1_1 at hm
  refine fn0 (args := [.agg #[.int .i64 p1.What, .int .i64 p1.N, .bool p1.Write], .pointer (some ⟨b2, 0, none⟩)]) (F := [(0, .agg #[.int .i64 p1.What, .int .i64 p1.N, .bool p1.Write]), (1, .pointer (some ⟨b2, 0, none⟩))]) Tryd.func43 rfl Tryd.ntmps43 rfl rfl fun a hF => ?_
  have hS : St w0 Nil [H] [] w0 := start1 hH
  refine th <| ?_
  refine rg <| ?_
  refine ls <| a_box (cs := [.int .i64 p1.What, .int .i64 p1.N, .bool p1.Write].toArray) hF rfl hS rfl rfl fun b5 w a hS hF => ?_
  refine ls <| q1 hF rfl (e_asg hF rfl) fun a hF => ?_
  refine re <| ?_
  refine tn <| th <| ?_
  replace hm := bind_some hm
  obtain ⟨r6, h7, hm⟩ := hm
  refine rg <| ?_
  refine ls <| q1 hF rfl (e_ldA hF Tryd.isAgg27 Tryd.sizeOf27 rfl rfl (cellsR (Lds.le (St.ld hS)) hb4)) fun a hF => ?_
  refine ls <| q1 hF rfl (e_ldA hF Tryd.isAgg27 Tryd.sizeOf27 rfl rfl ((St.ld hS).cellsB (.head _))) fun a hF => ?_
  refine ls <| c1 hF rfl Tryd.call22 (event_Clash_c (hp_le _) h7) ⟨rfl, rfl, trivial⟩ (fun v w a hR hF => ?_)
  obtain ⟨rfl, hk⟩ := hR
  replace hS := hS.pass hk
  clear hk
  refine ls <| q1 hF rfl (e_asg hF rfl) fun a hF => ?_
  refine re <| ?_
  refine tn <| ?_
  refine wp_ret <| ?_
  obtain rfl := Option.some.inj hm
  exact r1 hF Tryd.results43 rfl ⟨rfl, hS.keep⟩

set_option maxRecDepth 100000 in
theorem slices_IndexFunc_api_Use_api_Use__Depend_1_1_c {N : Nat} {w0 : World} {H : PH} (hH : H.le w0) {oa2 : Option Addr} {cap3 : Nat} {p1 : (List api_Use)} (hc4 : p1.length ≤ cap3) (hr5 : SR H oa2 p1) {y7 : api_Use} {b6 : Nat} (hb8 : H b6 = some (.cells [.int .i64 y7.What, .int .i64 y7.N, .bool y7.Write].toArray 27 (0, 0))) {r : Int} (hm : slices_IndexFunc_api_Use_api_Use__Depend_1_1 N p1 y7 = some r) : Tot Tryd.prog 59 #[.slice oa2 p1.length cap3, .func (.func 43) #[] #[.pointer (some ⟨b6, 0, none⟩)]] w0 (fun v w' => v = .int .i64 r ∧ Keep Nil w0 w') := by
  unfold slices_IndexFunc_api_Use_api_Use__Depend_1_1 at hm
  refine fn0 (args := [.slice oa2 p1.length cap3, .func (.func 43) #[] #[.pointer (some ⟨b6, 0, none⟩)]]) (F := [(0, .slice oa2 p1.length cap3), (1, .func (.func 43) #[] #[.pointer (some ⟨b6, 0, none⟩)])]) Tryd.func59 rfl Tryd.ntmps59 rfl rfl fun a hF => ?_
  have hS : St w0 Nil [H] [] w0 := start1 hH
  refine th <| ?_
  refine rg <| ?_
  refine ls <| q1 hF rfl (e_asg hF rfl) fun a hF => ?_
  refine re <| ?_
  refine tn <| th <| th <| ?_
  refine rg <| ?_
  refine ls <| q1 hF rfl (e_move hF rfl) fun a hF => ?_
  refine ls <| q1 hF rfl (e_lenL (α := api_Use) (xs := p1) hF Tryd.runUnderlying29 rfl) fun a hF => ?_
  refine ls <| q1 hF rfl (e_move hF rfl) fun a hF => ?_
  refine re <| ?_
  refine tn <| midK (fun a w => ∃ (HA1 : PH), slices_IndexFunc_api_Use_api_Use__Depend_1_1_j1 = some r ∧ Ext w0 H HA1 ∧ Fr 19 [] a ∧ St w0 Nil [HA1] [] w) ?_ ?_
  ·
    refine wp_block <| lp (α := Nat × Int) (fun (gh : Nat × Int) a w => match gh with | (nn2, vB6) => ∃ (HB1 : PH) (oaB2 : Option Addr) (capB3 : Nat), (slices_IndexFunc_api_Use_api_Use__Depend_1_1_l2 N slices_IndexFunc_api_Use_api_Use__Depend_1_1_j1 p1 y7) nn2 vB6 = some r ∧ Ext w0 H HB1 ∧ Fr 19 [(0, .slice oaB2 p1.length capB3), (1, .func (.func 43) #[] #[.pointer (some ⟨b6, 0, none⟩)]), (7, .int .i64 (p1.length : Int)), (8, .int .i64 vB6)] a ∧ St w0 Nil [HB1] [] w ∧ p1.length ≤ capB3 ∧ SR HB1 oaB2 p1) (fun gh => gh.1) (N, 0) ⟨H, oa2, cap3, hm, (Ext.refl _ _), hF.has ⟨rfl, rfl, rfl, rfl, trivial⟩, hS, hc4, hr5⟩ ?_
    clear hm hF hS
    rintro ⟨nn2, vB6⟩ a w ⟨HB1, oaB2, capB3, hm, hxHB1, hF, hS, hcB4, hrB5⟩
    obtain _ | nn2 := nn2
    · simp [slices_IndexFunc_api_Use_api_Use__Depend_1_1_l2] at hm
    rw [slices_IndexFunc_api_Use_api_Use__Depend_1_1_l2] at hm
    refine th <| ?_
    refine rg <| ?_
    refine ls <| q1 hF rfl (e_lss hF rfl rfl) fun a hF => ?_
    refine re <| ?_
    rcases bdich (decide (vB6 < (p1.length : Int))) with hb9 | hb9
    ·
      replace hm := itp_t hm hb9
      refine tn <| th <| ctv hF rfl hb9 <| wp_skip <| ?_
      refine tn <| th <| wp_block <| th <| ?_
      refine rg <| ?_
      refine ls <| q1 hF rfl (e_move hF rfl) fun a hF => ?_
      refine ls <| q1 hF rfl (e_asg hF rfl) fun a hF => ?_
      refine re <| ?_
      refine tn <| th <| ?_
      replace hm := bind_some hm
      obtain ⟨x10, h11, hm⟩ := hm
      obtain ⟨c12, g13, hl14⟩ := SR.get hrB5 h11
      obtain rfl := api_Use_open g13
      replace hm := bind_some hm
      obtain ⟨r15, h16, hm⟩ := hm
      refine rg <| ?_
      refine ls <| q1 hF rfl (e_move hF rfl) fun a hF => ?_
      refine ls <| q1 hF rfl (e_move hF rfl) fun a hF => ?_
      refine ls <| q1 hF rfl (e_move hF rfl) fun a hF => ?_
      refine ls <| q1 hF rfl (e_iaI hF Tryd.runUnderlying29 Tryd.sizeOf27 rfl rfl h11 (SR.oaI hrB5 (by decide) h11)) fun a hF => ?_
      refine ls <| q1 hF rfl (e_ldA hF Tryd.isAgg27 Tryd.sizeOf27 rfl rfl (fun j v hj => PH.le.cell (Lds.le (St.ld hS)) (hl14 j v hj))) fun a hF => ?_
      refine ls <| k1 (vs := [.agg #[.int .i64 x10.What, .int .i64 x10.N, .bool x10.Write]]) (caps := [.pointer (some ⟨b6, 0, none⟩)]) hF rfl rfl Tryd.call43 (event_Depend_1_1_c (hp_le _) (St.up hS _ _ (hxHB1.sub _ _ hb8)) h16) ⟨rfl, trivial⟩ rfl (fun v w a hR hF => ?_)
      obtain ⟨rfl, hk⟩ := hR
      replace hS := hS.pass hk
      clear hk
      refine re <| ?_
      rcases bdich r15 with hb17 | hb17
      ·
        replace hm := ite_t hm hb17
        refine tn <| ctv hF rfl hb17 <| th <| ?_
        refine rg <| ?_
        refine ls <| q1 hF rfl (e_move hF rfl) fun a hF => ?_
        refine ls <| q1 hF rfl (e_asg hF rfl) fun a hF => ?_
        refine re <| ?_
        refine tn <| ?_
        refine wp_ret <| br <| tr <| tr <| br <| tr <| ?_
        obtain rfl := Option.some.inj hm
        exact r1 hF Tryd.results59 rfl ⟨rfl, hS.keep⟩
      ·
        replace hm := ite_f hm hb17
        refine tn <| cfv hF rfl hb17 <| wp_skip <| ?_
        refine bn <| tn <| ?_
        refine rg <| ?_
        refine ls <| q1 hF rfl (e_add hF rfl rfl) fun a hF => ?_
        refine ls <| q1 hF rfl (e_move hF rfl) fun a hF => ?_
        refine re <| ?_
        refine tn <| ?_
        exact ⟨(nn2, (IntKind.i64.wrap (vB6 + 1))), ⟨HB1, oaB2, capB3, hm, hxHB1, hF.has ⟨rfl, rfl, rfl, rfl, trivial⟩, hS, hcB4, hrB5⟩, Nat.lt_succ_self _⟩
    ·
      replace hm := itp_f hm hb9
      refine tn <| th <| cfv hF rfl hb9 <| ?_
      refine wp_exit <| tx <| tx <| bx <| ?_
      refine tn <| ?_
      exact ⟨HB1, hm, hxHB1, hF.has trivial, hS⟩
  clear hm hF hS
  rintro a w ⟨HA1, hm, hxHA1, hF, hS⟩
  unfold slices_IndexFunc_api_Use_api_Use__Depend_1_1_j1 at hm
  refine th <| ?_
  refine rg <| ?_
  refine ls <| q1 hF rfl (e_asg hF rfl) fun a hF => ?_
  refine re <| ?_
  refine tn <| ?_
  refine wp_ret <| ?_
  obtain rfl := Option.some.inj hm
  exact r1 hF Tryd.results59 rfl ⟨rfl, hS.keep⟩

set_option maxRecDepth 100000 in
theorem slices_ContainsFunc_api_Use_api_Use__Depend_1_1_c {N : Nat} {w0 : World} {H : PH} (hH : H.le w0) {oa2 : Option Addr} {cap3 : Nat} {p1 : (List api_Use)} (hc4 : p1.length ≤ cap3) (hr5 : SR H oa2 p1) {y7 : api_Use} {b6 : Nat} (hb8 : H b6 = some (.cells [.int .i64 y7.What, .int .i64 y7.N, .bool y7.Write].toArray 27 (0, 0))) {r : Bool} (hm : slices_ContainsFunc_api_Use_api_Use__Depend_1_1 N p1 y7 = some r) : Tot Tryd.prog 41 #[.slice oa2 p1.length cap3, .func (.func 43) #[] #[.pointer (some ⟨b6, 0, none⟩)]] w0 (fun v w' => v = .bool r ∧ Keep Nil w0 w') := by
  unfold slices_ContainsFunc_api_Use_api_Use__Depend_1_1 at hm
  refine fn0 (args := [.slice oa2 p1.length cap3, .func (.func 43) #[] #[.pointer (some ⟨b6, 0, none⟩)]]) (F := [(0, .slice oa2 p1.length cap3), (1, .func (.func 43) #[] #[.pointer (some ⟨b6, 0, none⟩)])]) Tryd.func41 rfl Tryd.ntmps41 rfl rfl fun a hF => ?_
  have hS : St w0 Nil [H] [] w0 := start1 hH
  refine th <| ?_
  refine rg <| ?_
  refine ls <| q1 hF rfl (e_asg hF rfl) fun a hF => ?_
  refine re <| ?_
  refine tn <| th <| ?_
  replace hm := bind_some hm
  obtain ⟨r9, h10, hm⟩ := hm
  refine rg <| ?_
  refine ls <| q1 hF rfl (e_move hF rfl) fun a hF => ?_
  refine ls <| q1 hF rfl (e_move hF rfl) fun a hF => ?_
  refine ls <| c1 hF rfl Tryd.call59 (slices_IndexFunc_api_Use_api_Use__Depend_1_1_c (hp_le _) hc4 (St.srH hS hr5) (St.up hS _ _ hb8) h10) ⟨rfl, rfl, trivial⟩ (fun v w a hR hF => ?_)
  obtain ⟨rfl, hk⟩ := hR
  replace hS := hS.pass hk
  clear hk
  refine ls <| q1 hF rfl (e_geq hF rfl rfl) fun a hF => ?_
  refine ls <| q1 hF rfl (e_asg hF rfl) fun a hF => ?_
  refine re <| ?_
  refine tn <| ?_
  refine wp_ret <| ?_
  obtain rfl := Option.some.inj hm
  exact r1 hF Tryd.results41 rfl ⟨rfl, hS.keep⟩

set_option maxRecDepth 100000 in
theorem event_Depend_1_c {N : Nat} {w0 : World} {H : PH} (hH : H.le w0) {p1 : api_Use} {oa4 : Option Addr} {cap5 : Nat} {y3 : (List api_Use)} (hc6 : y3.length ≤ cap5) (hr7 : SR H oa4 y3) {b2 : Nat} (hb8 : H b2 = some (.cells [.slice oa4 y3.length cap5].toArray 29 (0, 0))) {r : Bool} (hm : event_Depend_1 N p1 y3 = some r) : Tot Tryd.prog 42 #[.agg #[.int .i64 p1.What, .int .i64 p1.N, .bool p1.Write], .pointer (some ⟨b2, 0, none⟩)] w0 (fun v w' => v = .bool r ∧ Keep Nil w0 w') := by
  unfold event_Depend_1 at hm
  refine fn0 (args := [.agg #[.int .i64 p1.What, .int .i64 p1.N, .bool p1.Write], .pointer (some ⟨b2, 0, none⟩)]) (F := [(0, .agg #[.int .i64 p1.What, .int .i64 p1.N, .bool p1.Write]), (1, .pointer (some ⟨b2, 0, none⟩))]) Tryd.func42 rfl Tryd.ntmps42 rfl rfl fun a hF => ?_
  have hS : St w0 Nil [H] [] w0 := start1 hH
  refine th <| ?_
  refine rg <| ?_
  refine ls <| a_box (cs := [.int .i64 p1.What, .int .i64 p1.N, .bool p1.Write].toArray) hF rfl hS rfl rfl fun b9 w a hS hF => ?_
  refine ls <| q1 hF rfl (e_asg hF rfl) fun a hF => ?_
  refine re <| ?_
  refine tn <| th <| ?_
  replace hm := bind_some hm
  obtain ⟨r10, h11, hm⟩ := hm
  refine rg <| ?_
  refine ls <| q1 hF rfl (e_ld hF Tryd.isAgg29 rfl (PH.le.cell (Lds.le (St.ld hS)) (ph_cell hb8 rfl))) fun a hF => ?_
  refine ls <| q1 hF rfl (e_mkf (vs := [.pointer (some ⟨b9, 0, none⟩)]) hF ⟨rfl, trivial⟩) fun a hF => ?_
  refine ls <| c1 hF rfl Tryd.call41 (slices_ContainsFunc_api_Use_api_Use__Depend_1_1_c (hp_le _) hc6 (St.srH hS hr7) (St.blkO hS (.head _)) h11) ⟨rfl, rfl, trivial⟩ (fun v w a hR hF => ?_)
  obtain ⟨rfl, hk⟩ := hR
  replace hS := hS.pass hk
  clear hk
  refine ls <| q1 hF rfl (e_asg hF rfl) fun a hF => ?_
  refine re <| ?_
  refine tn <| ?_
  refine wp_ret <| ?_
  obtain rfl := Option.some.inj hm
  exact r1 hF Tryd.results42 rfl ⟨rfl, hS.keep⟩

set_option maxRecDepth 100000 in
theorem slices_IndexFunc_api_Use_api_Use__Depend_1_c {N : Nat} {w0 : World} {H : PH} (hH : H.le w0) {oa2 : Option Addr} {cap3 : Nat} {p1 : (List api_Use)} (hc4 : p1.length ≤ cap3) (hr5 : SR H oa2 p1) {oa8 : Option Addr} {cap9 : Nat} {y7 : (List api_Use)} (hc10 : y7.length ≤ cap9) (hr11 : SR H oa8 y7) {b6 : Nat} (hb12 : H b6 = some (.cells [.slice oa8 y7.length cap9].toArray 29 (0, 0))) {r : Int} (hm : slices_IndexFunc_api_Use_api_Use__Depend_1 N p1 y7 = some r) : Tot Tryd.prog 59 #[.slice oa2 p1.length cap3, .func (.func 42) #[] #[.pointer (some ⟨b6, 0, none⟩)]] w0 (fun v w' => v = .int .i64 r ∧ Keep Nil w0 w') := by
  unfold slices_IndexFunc_api_Use_api_Use__Depend_1 at hm
  refine fn0 (args := [.slice oa2 p1.length cap3, .func (.func 42) #[] #[.pointer (some ⟨b6, 0, none⟩)]]) (F := [(0, .slice oa2 p1.length cap3), (1, .func (.func 42) #[] #[.pointer (some ⟨b6, 0, none⟩)])]) Tryd.func59 rfl Tryd.ntmps59 rfl rfl fun a hF => ?_
  have hS : St w0 Nil [H] [] w0 := start1 hH
  refine th <| ?_
  refine rg <| ?_
  refine ls <| q1 hF rfl (e_asg hF rfl) fun a hF => ?_
  refine re <| ?_
  refine tn <| th <| th <| ?_
  refine rg <| ?_
  refine ls <| q1 hF rfl (e_move hF rfl) fun a hF => ?_
  refine ls <| q1 hF rfl (e_lenL (α := api_Use) (xs := p1) hF Tryd.runUnderlying29 rfl) fun a hF => ?_
  refine ls <| q1 hF rfl (e_move hF rfl) fun a hF => ?_
  refine re <| ?_
  refine tn <| midK (fun a w => ∃ (HA1 : PH), slices_IndexFunc_api_Use_api_Use__Depend_1_j1 = some r ∧ Ext w0 H HA1 ∧ Fr 19 [] a ∧ St w0 Nil [HA1] [] w) ?_ ?_
  ·
    refine wp_block <| lp (α := Nat × Int) (fun (gh : Nat × Int) a w => match gh with | (nn2, vB6) => ∃ (HB1 : PH) (oaB2 : Option Addr) (capB3 : Nat), (slices_IndexFunc_api_Use_api_Use__Depend_1_l2 N slices_IndexFunc_api_Use_api_Use__Depend_1_j1 p1 y7) nn2 vB6 = some r ∧ Ext w0 H HB1 ∧ Fr 19 [(0, .slice oaB2 p1.length capB3), (1, .func (.func 42) #[] #[.pointer (some ⟨b6, 0, none⟩)]), (7, .int .i64 (p1.length : Int)), (8, .int .i64 vB6)] a ∧ St w0 Nil [HB1] [] w ∧ p1.length ≤ capB3 ∧ SR HB1 oaB2 p1) (fun gh => gh.1) (N, 0) ⟨H, oa2, cap3, hm, (Ext.refl _ _), hF.has ⟨rfl, rfl, rfl, rfl, trivial⟩, hS, hc4, hr5⟩ ?_
    clear hm hF hS
    rintro ⟨nn2, vB6⟩ a w ⟨HB1, oaB2, capB3, hm, hxHB1, hF, hS, hcB4, hrB5⟩
    obtain _ | nn2 := nn2
    · simp [slices_IndexFunc_api_Use_api_Use__Depend_1_l2] at hm
    rw [slices_IndexFunc_api_Use_api_Use__Depend_1_l2] at hm
    refine th <| ?_
    refine rg <| ?_
    refine ls <| q1 hF rfl (e_lss hF rfl rfl) fun a hF => ?_
    refine re <| ?_
    rcases bdich (decide (vB6 < (p1.length : Int))) with hb13 | hb13
    ·
      replace hm := itp_t hm hb13
      refine tn <| th <| ctv hF rfl hb13 <| wp_skip <| ?_
      refine tn <| th <| wp_block <| th <| ?_
      refine rg <| ?_
      refine ls <| q1 hF rfl (e_move hF rfl) fun a hF => ?_
      refine ls <| q1 hF rfl (e_asg hF rfl) fun a hF => ?_
      refine re <| ?_
      refine tn <| th <| ?_
      replace hm := bind_some hm
      obtain ⟨x14, h15, hm⟩ := hm
      obtain ⟨c16, g17, hl18⟩ := SR.get hrB5 h15
      obtain rfl := api_Use_open g17
      replace hm := bind_some hm
      obtain ⟨r19, h20, hm⟩ := hm
      refine rg <| ?_
      refine ls <| q1 hF rfl (e_move hF rfl) fun a hF => ?_
      refine ls <| q1 hF rfl (e_move hF rfl) fun a hF => ?_
      refine ls <| q1 hF rfl (e_move hF rfl) fun a hF => ?_
      refine ls <| q1 hF rfl (e_iaI hF Tryd.runUnderlying29 Tryd.sizeOf27 rfl rfl h15 (SR.oaI hrB5 (by decide) h15)) fun a hF => ?_
      refine ls <| q1 hF rfl (e_ldA hF Tryd.isAgg27 Tryd.sizeOf27 rfl rfl (fun j v hj => PH.le.cell (Lds.le (St.ld hS)) (hl18 j v hj))) fun a hF => ?_
      refine ls <| k1 (vs := [.agg #[.int .i64 x14.What, .int .i64 x14.N, .bool x14.Write]]) (caps := [.pointer (some ⟨b6, 0, none⟩)]) hF rfl rfl Tryd.call42 (event_Depend_1_c (hp_le _) hc10 (St.srH hS (hr11.mono hxHB1.sub)) (St.up hS _ _ (hxHB1.sub _ _ hb12)) h20) ⟨rfl, trivial⟩ rfl (fun v w a hR hF => ?_)
      obtain ⟨rfl, hk⟩ := hR
      replace hS := hS.pass hk
      clear hk
      refine re <| ?_
      rcases bdich r19 with hb21 | hb21
      ·
        replace hm := ite_t hm hb21
        refine tn <| ctv hF rfl hb21 <| th <| ?_
        refine rg <| ?_
        refine ls <| q1 hF rfl (e_move hF rfl) fun a hF => ?_
        refine ls <| q1 hF rfl (e_asg hF rfl) fun a hF => ?_
        refine re <| ?_
        refine tn <| ?_
        refine wp_ret <| br <| tr <| tr <| br <| tr <| ?_
        obtain rfl := Option.some.inj hm
        exact r1 hF Tryd.results59 rfl ⟨rfl, hS.keep⟩
      ·
        replace hm := ite_f hm hb21
        refine tn <| cfv hF rfl hb21 <| wp_skip <| ?_
        refine bn <| tn <| ?_
        refine rg <| ?_
        refine ls <| q1 hF rfl (e_add hF rfl rfl) fun a hF => ?_
        refine ls <| q1 hF rfl (e_move hF rfl) fun a hF => ?_
        refine re <| ?_
        refine tn <| ?_
        exact ⟨(nn2, (IntKind.i64.wrap (vB6 + 1))), ⟨HB1, oaB2, capB3, hm, hxHB1, hF.has ⟨rfl, rfl, rfl, rfl, trivial⟩, hS, hcB4, hrB5⟩, Nat.lt_succ_self _⟩
    ·
      replace hm := itp_f hm hb13
      refine tn <| th <| cfv hF rfl hb13 <| ?_
      refine wp_exit <| tx <| tx <| bx <| ?_
      refine tn <| ?_
      exact ⟨HB1, hm, hxHB1, hF.has trivial, hS⟩
  clear hm hF hS
  rintro a w ⟨HA1, hm, hxHA1, hF, hS⟩
  unfold slices_IndexFunc_api_Use_api_Use__Depend_1_j1 at hm
  refine th <| ?_
  refine rg <| ?_
  refine ls <| q1 hF rfl (e_asg hF rfl) fun a hF => ?_
  refine re <| ?_
  refine tn <| ?_
  refine wp_ret <| ?_
  obtain rfl := Option.some.inj hm
  exact r1 hF Tryd.results59 rfl ⟨rfl, hS.keep⟩

set_option maxRecDepth 100000 in
theorem slices_ContainsFunc_api_Use_api_Use__Depend_1_c {N : Nat} {w0 : World} {H : PH} (hH : H.le w0) {oa2 : Option Addr} {cap3 : Nat} {p1 : (List api_Use)} (hc4 : p1.length ≤ cap3) (hr5 : SR H oa2 p1) {oa8 : Option Addr} {cap9 : Nat} {y7 : (List api_Use)} (hc10 : y7.length ≤ cap9) (hr11 : SR H oa8 y7) {b6 : Nat} (hb12 : H b6 = some (.cells [.slice oa8 y7.length cap9].toArray 29 (0, 0))) {r : Bool} (hm : slices_ContainsFunc_api_Use_api_Use__Depend_1 N p1 y7 = some r) : Tot Tryd.prog 41 #[.slice oa2 p1.length cap3, .func (.func 42) #[] #[.pointer (some ⟨b6, 0, none⟩)]] w0 (fun v w' => v = .bool r ∧ Keep Nil w0 w') := by
  unfold slices_ContainsFunc_api_Use_api_Use__Depend_1 at hm
  refine fn0 (args := [.slice oa2 p1.length cap3, .func (.func 42) #[] #[.pointer (some ⟨b6, 0, none⟩)]]) (F := [(0, .slice oa2 p1.length cap3), (1, .func (.func 42) #[] #[.pointer (some ⟨b6, 0, none⟩)])]) Tryd.func41 rfl Tryd.ntmps41 rfl rfl fun a hF => ?_
  have hS : St w0 Nil [H] [] w0 := start1 hH
  refine th <| ?_
  refine rg <| ?_
  refine ls <| q1 hF rfl (e_asg hF rfl) fun a hF => ?_
  refine re <| ?_
  refine tn <| th <| ?_
  replace hm := bind_some hm
  obtain ⟨r13, h14, hm⟩ := hm
  refine rg <| ?_
  refine ls <| q1 hF rfl (e_move hF rfl) fun a hF => ?_
  refine ls <| q1 hF rfl (e_move hF rfl) fun a hF => ?_
  refine ls <| c1 hF rfl Tryd.call59 (slices_IndexFunc_api_Use_api_Use__Depend_1_c (hp_le _) hc4 (St.srH hS hr5) hc10 (St.srH hS hr11) (St.up hS _ _ hb12) h14) ⟨rfl, rfl, trivial⟩ (fun v w a hR hF => ?_)
  obtain ⟨rfl, hk⟩ := hR
  replace hS := hS.pass hk
  clear hk
  refine ls <| q1 hF rfl (e_geq hF rfl rfl) fun a hF => ?_
  refine ls <| q1 hF rfl (e_asg hF rfl) fun a hF => ?_
  refine re <| ?_
  refine tn <| ?_
  refine wp_ret <| ?_
  obtain rfl := Option.some.inj hm
  exact r1 hF Tryd.results41 rfl ⟨rfl, hS.keep⟩

set_option maxRecDepth 100000 in
theorem event_Depend_c {N : Nat} {w0 : World} {H : PH} (hH : H.le w0) {p1 : api_Event} {p2 : api_Event} {oa4 : Option Addr} {cap5 : Nat} {p3 : (List Int)} (hc6 : p3.length ≤ cap5) (hr7 : SR H oa4 p3) {p8 : Int} {r : Bool} (hm : event_Depend N p1 p2 p3 p8 = some r) : Tot Tryd.prog 16 #[.agg #[.int .i64 p1.Kind, .int .i64 p1.T, .int .i64 p1.A, .int .i64 p1.N, .int .i64 p1.M], .agg #[.int .i64 p2.Kind, .int .i64 p2.T, .int .i64 p2.A, .int .i64 p2.N, .int .i64 p2.M], .slice oa4 p3.length cap5, .int .i64 p8] w0 (fun v w' => v = .bool r ∧ Keep Nil w0 w') := by
  unfold event_Depend at hm
  refine fn0 (args := [.agg #[.int .i64 p1.Kind, .int .i64 p1.T, .int .i64 p1.A, .int .i64 p1.N, .int .i64 p1.M], .agg #[.int .i64 p2.Kind, .int .i64 p2.T, .int .i64 p2.A, .int .i64 p2.N, .int .i64 p2.M], .slice oa4 p3.length cap5, .int .i64 p8]) (F := [(0, .agg #[.int .i64 p1.Kind, .int .i64 p1.T, .int .i64 p1.A, .int .i64 p1.N, .int .i64 p1.M]), (1, .agg #[.int .i64 p2.Kind, .int .i64 p2.T, .int .i64 p2.A, .int .i64 p2.N, .int .i64 p2.M]), (2, .slice oa4 p3.length cap5), (3, .int .i64 p8)]) Tryd.func16 rfl Tryd.ntmps16 rfl rfl fun a hF => ?_
  have hS : St w0 Nil [H] [] w0 := start1 hH
  refine th <| ?_
  refine rg <| ?_
  refine ls <| a_box (cs := [.int .i64 p1.Kind, .int .i64 p1.T, .int .i64 p1.A, .int .i64 p1.N, .int .i64 p1.M].toArray) hF rfl hS rfl rfl fun b9 w a hS hF => ?_
  refine ls <| a_box (cs := [.int .i64 p2.Kind, .int .i64 p2.T, .int .i64 p2.A, .int .i64 p2.N, .int .i64 p2.M].toArray) hF rfl hS rfl rfl fun b10 w a hS hF => ?_
  refine ls <| q1 hF rfl (e_asg hF rfl) fun a hF => ?_
  refine re <| ?_
  refine tn <| th <| th <| midK (fun a w => ∃ (vA6 : Bool) (HA1 : PH) (oaA2 : Option Addr) (capA3 : Nat), (event_Depend_j1 N p1 p2 p3 p8) vA6 = some r ∧ Ext w0 H HA1 ∧ Fr 33 [(2, .slice oaA2 p3.length capA3), (3, .int .i64 p8), (4, .pointer (some ⟨b9, 0, none⟩)), (5, .pointer (some ⟨b10, 0, none⟩)), (22, .bool vA6)] a ∧ St w0 Nil [HA1] [blk b9 (.cells [.int .i64 p1.Kind, .int .i64 p1.T, .int .i64 p1.A, .int .i64 p1.N, .int .i64 p1.M].toArray 23 (0, 0)), blk b10 (.cells [.int .i64 p2.Kind, .int .i64 p2.T, .int .i64 p2.A, .int .i64 p2.N, .int .i64 p2.M].toArray 23 (0, 0))] w ∧ p3.length ≤ capA3 ∧ SR HA1 oaA2 p3) ?_ ?_
  ·
    rcases bdich (decide (p1.T = p2.T)) with hb11 | hb11
    ·
      replace hm := itp_t hm hb11
      refine rg <| ?_
      refine ls <| q1 hF rfl (e_fa hF fa23_1 rfl) fun a hF => ?_
      refine ls <| q1 hF rfl (e_ld hF Tryd.isAgg3 rfl ((St.ld hS).cellB (.tail _ (.head _)) rfl)) fun a hF => ?_
      refine ls <| q1 hF rfl (e_fa hF fa23_1 rfl) fun a hF => ?_
      refine ls <| q1 hF rfl (e_ld hF Tryd.isAgg3 rfl ((St.ld hS).cellB (.head _) rfl)) fun a hF => ?_
      refine ls <| q1 hF rfl (e_eql hF rfl rfl) fun a hF => ?_
      refine ls <| q1 hF rfl (e_as (e_move hF rfl) (congrArg Value.bool hb11)) fun a hF => ?_
      refine ls <| gn hF rfl rfl rfl rfl fun a hF => ?_
      refine ls <| gn hF rfl rfl rfl rfl fun a hF => ?_
      refine ls <| q1 hF rfl (e_pickT hF rfl rfl) fun a hF => ?_
      refine ls <| q1 hF rfl (e_move hF rfl) fun a hF => ?_
      refine ls <| gn hF rfl rfl rfl rfl fun a hF => ?_
      refine ls <| gn hF rfl rfl rfl rfl fun a hF => ?_
      refine ls <| q1 hF rfl (e_pickT hF rfl rfl) fun a hF => ?_
      refine re <| ?_
      refine tn <| ?_
      replace hS := hS.pickL (.cons (.tail .head) (.cons .head .nil))
      exact ⟨true, H, oa4, cap5, hm, (Ext.refl _ _), hF.has ⟨rfl, rfl, rfl, rfl, rfl, trivial⟩, hS, hc6, hr7⟩
    ·
      replace hm := itp_f hm hb11
      replace hm := bind_some hm
      obtain ⟨r12, h13, hm⟩ := hm
      rcases bdich r12 with hb14 | hb14
      ·
        replace hm := ite_t hm hb14
        refine rg <| ?_
        refine ls <| q1 hF rfl (e_fa hF fa23_1 rfl) fun a hF => ?_
        refine ls <| q1 hF rfl (e_ld hF Tryd.isAgg3 rfl ((St.ld hS).cellB (.tail _ (.head _)) rfl)) fun a hF => ?_
        refine ls <| q1 hF rfl (e_fa hF fa23_1 rfl) fun a hF => ?_
        refine ls <| q1 hF rfl (e_ld hF Tryd.isAgg3 rfl ((St.ld hS).cellB (.head _) rfl)) fun a hF => ?_
        refine ls <| q1 hF rfl (e_eql hF rfl rfl) fun a hF => ?_
        refine ls <| q1 hF rfl (e_as (e_move hF rfl) (congrArg Value.bool hb11)) fun a hF => ?_
        refine ls <| gy hF rfl rfl <| q1 hF rfl (e_ldA hF Tryd.isAgg23 Tryd.sizeOf23 rfl rfl ((St.ld hS).cellsB (.tail _ (.head _)))) fun a hF => ?_
        refine ls <| gy hF rfl rfl <| c1 hF rfl Tryd.call40 (event_all_c (hp_le _) h13) ⟨rfl, trivial⟩ (fun v w a hR hF => ?_)
        obtain ⟨rfl, hk⟩ := hR
        replace hS := hS.pass hk
        clear hk
        refine ls <| q1 hF rfl (e_pickF hF rfl rfl) fun a hF => ?_
        refine ls <| q1 hF rfl (e_as (e_move hF rfl) (congrArg Value.bool hb14)) fun a hF => ?_
        refine ls <| gn hF rfl rfl rfl rfl fun a hF => ?_
        refine ls <| gn hF rfl rfl rfl rfl fun a hF => ?_
        refine ls <| q1 hF rfl (e_pickT hF rfl rfl) fun a hF => ?_
        refine re <| ?_
        refine tn <| ?_
        replace hS := hS.pickL (.cons (.tail .head) (.cons .head .nil))
        exact ⟨true, H, oa4, cap5, hm, (Ext.refl _ _), hF.has ⟨rfl, rfl, rfl, rfl, rfl, trivial⟩, hS, hc6, hr7⟩
      ·
        replace hm := ite_f hm hb14
        replace hm := bind_some hm
        obtain ⟨r15, h16, hm⟩ := hm
        refine rg <| ?_
        refine ls <| q1 hF rfl (e_fa hF fa23_1 rfl) fun a hF => ?_
        refine ls <| q1 hF rfl (e_ld hF Tryd.isAgg3 rfl ((St.ld hS).cellB (.tail _ (.head _)) rfl)) fun a hF => ?_
        refine ls <| q1 hF rfl (e_fa hF fa23_1 rfl) fun a hF => ?_
        refine ls <| q1 hF rfl (e_ld hF Tryd.isAgg3 rfl ((St.ld hS).cellB (.head _) rfl)) fun a hF => ?_
        refine ls <| q1 hF rfl (e_eql hF rfl rfl) fun a hF => ?_
        refine ls <| q1 hF rfl (e_as (e_move hF rfl) (congrArg Value.bool hb11)) fun a hF => ?_
        refine ls <| gy hF rfl rfl <| q1 hF rfl (e_ldA hF Tryd.isAgg23 Tryd.sizeOf23 rfl rfl ((St.ld hS).cellsB (.tail _ (.head _)))) fun a hF => ?_
        refine ls <| gy hF rfl rfl <| c1 hF rfl Tryd.call40 (event_all_c (hp_le _) h13) ⟨rfl, trivial⟩ (fun v w a hR hF => ?_)
        obtain ⟨rfl, hk⟩ := hR
        replace hS := hS.pass hk
        clear hk
        refine ls <| q1 hF rfl (e_pickF hF rfl rfl) fun a hF => ?_
        refine ls <| q1 hF rfl (e_as (e_move hF rfl) (congrArg Value.bool hb14)) fun a hF => ?_
        refine ls <| gy hF rfl rfl <| q1 hF rfl (e_ldA hF Tryd.isAgg23 Tryd.sizeOf23 rfl rfl ((St.ld hS).cellsB (.head _))) fun a hF => ?_
        refine ls <| gy hF rfl rfl <| c1 hF rfl Tryd.call40 (event_all_c (hp_le _) h16) ⟨rfl, trivial⟩ (fun v w a hR hF => ?_)
        obtain ⟨rfl, hk⟩ := hR
        replace hS := hS.pass hk
        clear hk
        refine ls <| q1 hF rfl (e_pickF hF rfl rfl) fun a hF => ?_
        refine re <| ?_
        refine tn <| ?_
        replace hS := hS.pickL (.cons (.tail .head) (.cons .head .nil))
        exact ⟨r15, H, oa4, cap5, hm, (Ext.refl _ _), hF.has ⟨rfl, rfl, rfl, rfl, rfl, trivial⟩, hS, hc6, hr7⟩
  clear hm hF hS
  rintro a w ⟨vA6, HA1, oaA2, capA3, hm, hxHA1, hF, hS, hcA4, hrA5⟩
  unfold event_Depend_j1 at hm
  rcases bdich vA6 with hb17 | hb17
  ·
    replace hm := ite_t hm hb17
    refine ctv hF rfl hb17 <| th <| ?_
    refine rg <| ?_
    refine ls <| q1 hF rfl (e_asg hF rfl) fun a hF => ?_
    refine re <| ?_
    refine tn <| ?_
    refine wp_ret <| tr <| ?_
    obtain rfl := Option.some.inj hm
    exact r1 hF Tryd.results16 rfl ⟨rfl, hS.keep⟩
  ·
    replace hm := ite_f hm hb17
    refine cfv hF rfl hb17 <| wp_skip <| ?_
    refine tn <| th <| ?_
    replace hm := bind_some hm
    obtain ⟨r18, h19, hm⟩ := hm
    refine rg <| ?_
    refine ls <| q1 hF rfl (e_ldA hF Tryd.isAgg23 Tryd.sizeOf23 rfl rfl ((St.ld hS).cellsB (.tail _ (.head _)))) fun a hF => ?_
    refine ls <| q1 hF rfl (e_move hF rfl) fun a hF => ?_
    refine ls <| q1 hF rfl (e_move hF rfl) fun a hF => ?_
    refine ls <| c1 hF rfl Tryd.call14 (event_Uses_c (hp_le _) hcA4 (St.srH hS hrA5) h19) ⟨rfl, rfl, rfl, trivial⟩ (fun v w a hR hF => ?_)
    obtain ⟨oa20, cap21, vs22, rfl, hv23, hk⟩ := hR
    replace hS := hS.fresh hk
    clear hk
    replace hv23 := hv23 HA1
    refine ls <| a_alloc (cs := [.slice none 0 0].toArray) hF rfl hS Tryd.zeroValue29 rfl fun b25 w a hS hF => ?_
    refine ls <| s_blk hF hS Tryd.sizeOf29 rfl rfl rfl rfl .head .zero fun w hS => ?_
    refine re <| ?_
    refine tn <| th <| ?_
    replace hm := bind_some hm
    obtain ⟨r26, h27, hm⟩ := hm
    replace hm := bind_some hm
    obtain ⟨r33, h34, hm⟩ := hm
    refine rg <| ?_
    refine ls <| q1 hF rfl (e_ldA hF Tryd.isAgg23 Tryd.sizeOf23 rfl rfl ((St.ld hS).cellsB (.tail _ (.tail _ (.head _))))) fun a hF => ?_
    refine ls <| q1 hF rfl (e_move hF rfl) fun a hF => ?_
    refine ls <| q1 hF rfl (e_move hF rfl) fun a hF => ?_
    refine ls <| c1 hF rfl Tryd.call14 (event_Uses_c (hp_le _) hcA4 (St.srH hS hrA5) h27) ⟨rfl, rfl, rfl, trivial⟩ (fun v w a hR hF => ?_)
    obtain ⟨oa28, cap29, vs30, rfl, hv31, hk⟩ := hR
    replace hS := hS.fresh hk
    clear hk
    replace hv31 := hv31 HA1
    refine ls <| q1 hF rfl (e_mkf (vs := [.pointer (some ⟨b25, 0, none⟩)]) hF ⟨rfl, trivial⟩) fun a hF => ?_
    refine ls <| c1 hF rfl Tryd.call41 (slices_ContainsFunc_api_Use_api_Use__Depend_1_c (hp_le _) (St.capO hS (.head _)) (St.srO hS (.head _) hv31) (St.capO hS (.tail _ (.tail _ (.head _)))) (St.srO hS (.tail _ (.tail _ (.head _))) hv23) (St.blkO hS (.tail _ (.head _))) h34) ⟨rfl, rfl, trivial⟩ (fun v w a hR hF => ?_)
    obtain ⟨rfl, hk⟩ := hR
    replace hS := hS.pass hk
    clear hk
    refine ls <| q1 hF rfl (e_asg hF rfl) fun a hF => ?_
    refine re <| ?_
    refine tn <| ?_
    refine wp_ret <| ?_
    obtain rfl := Option.some.inj hm
    exact r1 hF Tryd.results16 rfl ⟨rfl, hS.keep⟩

set_option maxRecDepth 100000 in
theorem leadlineref15_Clash_c {N : Nat} {w0 : World} {H : PH} (hH : H.le w0) {p1 : api_Use} {p2 : api_Use} {r : Bool} (hm : leadlineref15_Clash N p1 p2 = some r) : Tot Tryd.prog 23 #[.agg #[.int .i64 p1.What, .int .i64 p1.N, .bool p1.Write], .agg #[.int .i64 p2.What, .int .i64 p2.N, .bool p2.Write]] w0 (fun v w' => v = .bool r ∧ Keep Nil w0 w') := by
  unfold leadlineref15_Clash at hm
  refine fn0 (args := [.agg #[.int .i64 p1.What, .int .i64 p1.N, .bool p1.Write], .agg #[.int .i64 p2.What, .int .i64 p2.N, .bool p2.Write]]) (F := [(0, .agg #[.int .i64 p1.What, .int .i64 p1.N, .bool p1.Write]), (1, .agg #[.int .i64 p2.What, .int .i64 p2.N, .bool p2.Write])]) Tryd.func23 rfl Tryd.ntmps23 rfl rfl fun a hF => ?_
  have hS : St w0 Nil [H] [] w0 := start1 hH
  refine th <| ?_
  refine rg <| ?_
  refine ls <| a_box (cs := [.int .i64 p1.What, .int .i64 p1.N, .bool p1.Write].toArray) hF rfl hS rfl rfl fun b3 w a hS hF => ?_
  refine ls <| a_box (cs := [.int .i64 p2.What, .int .i64 p2.N, .bool p2.Write].toArray) hF rfl hS rfl rfl fun b4 w a hS hF => ?_
  refine ls <| q1 hF rfl (e_asg hF rfl) fun a hF => ?_
  refine re <| ?_
  refine tn <| th <| ?_
  refine rg <| ?_
  refine ls <| q1 hF rfl (e_fa hF fa27_0 rfl) fun a hF => ?_
  refine ls <| q1 hF rfl (e_ld hF Tryd.isAgg3 rfl ((St.ld hS).cellB (.tail _ (.head _)) rfl)) fun a hF => ?_
  refine ls <| q1 hF rfl (e_eql hF rfl rfl) fun a hF => ?_
  refine ls <| q1 hF rfl (e_move hF rfl) fun a hF => ?_
  refine grp (N := 35) (Fk := [(2, .pointer (some ⟨b3, 0, none⟩)), (3, .pointer (some ⟨b4, 0, none⟩)), (12, .bool ((decide (p1.What = 4)) || (decide (p2.What = 4))))]) (b := (decide (p1.What = 4))) 4 hS ?_ ?_ ?_
  ·
    intro hb key
    replace hF := Fr.as hF (t := 8) rfl (congrArg Value.bool hb)
    refine ls <| gn hF rfl rfl rfl rfl fun a hF => ?_
    refine ls <| gn hF rfl rfl rfl rfl fun a hF => ?_
    refine ls <| gn hF rfl rfl rfl rfl fun a hF => ?_
    refine ls <| q1 hF rfl (e_as (v' := .bool ((decide (p1.What = 4)) || (decide (p2.What = 4)))) (e_pickT hF rfl rfl) (by rw [hb]; rfl)) fun a hF => ?_
    exact key _ _ (hF.has ⟨rfl, rfl, rfl, trivial⟩) hS
  ·
    intro hb key
    replace hF := Fr.as hF (t := 8) rfl (congrArg Value.bool hb)
    refine ls <| gy hF rfl rfl <| q1 hF rfl (e_fa hF fa27_0 rfl) fun a hF => ?_
    refine ls <| gy hF rfl rfl <| q1 hF rfl (e_ld hF Tryd.isAgg3 rfl ((St.ld hS).cellB (.head _) rfl)) fun a hF => ?_
    refine ls <| gy hF rfl rfl <| q1 hF rfl (e_eql hF rfl rfl) fun a hF => ?_
    refine ls <| q1 hF rfl (e_as (v' := .bool ((decide (p1.What = 4)) || (decide (p2.What = 4)))) (e_pickF hF rfl rfl) (by rw [hb]; rfl)) fun a hF => ?_
    exact key _ _ (hF.has ⟨rfl, rfl, rfl, trivial⟩) hS
  intro a w hF hS
  refine ls <| q1 hF rfl (e_move hF rfl) fun a hF => ?_
  refine grp (N := 35) (Fk := [(34, .bool (((decide (p1.What = 4)) || (decide (p2.What = 4))) || (((decide (p1.What = p2.What)) && (decide (p1.N = p2.N))) && (p1.Write || p2.Write))))]) (b := ((decide (p1.What = 4)) || (decide (p2.What = 4)))) 21 hS ?_ ?_ ?_
  ·
    intro hb key
    replace hF := Fr.as hF (t := 13) rfl (congrArg Value.bool hb)
    refine ls <| gn hF rfl rfl rfl rfl fun a hF => ?_
    refine ls <| gn hF rfl rfl rfl rfl fun a hF => ?_
    refine ls <| gn hF rfl rfl rfl rfl fun a hF => ?_
    refine ls <| gn hF rfl rfl rfl rfl fun a hF => ?_
    refine ls <| gn hF rfl rfl rfl rfl fun a hF => ?_
    refine ls <| gn hF rfl rfl rfl rfl fun a hF => ?_
    refine ls <| gnu hF rfl rfl rfl fun a hF => ?_
    refine ls <| gnu hF rfl rfl rfl fun a hF => ?_
    refine ls <| gnu hF rfl rfl rfl fun a hF => ?_
    refine ls <| gnu hF rfl rfl rfl fun a hF => ?_
    refine ls <| gnu hF rfl rfl rfl fun a hF => ?_
    refine ls <| gn hF rfl rfl rfl rfl fun a hF => ?_
    refine ls <| gn hF rfl rfl rfl rfl fun a hF => ?_
    refine ls <| gnu hF rfl rfl rfl fun a hF => ?_
    refine ls <| gnu hF rfl rfl rfl fun a hF => ?_
    refine ls <| gnu hF rfl rfl rfl fun a hF => ?_
    refine ls <| gnu hF rfl rfl rfl fun a hF => ?_
    refine ls <| gnu hF rfl rfl rfl fun a hF => ?_
    refine ls <| gnu hF rfl rfl rfl fun a hF => ?_
    refine ls <| gn hF rfl rfl rfl rfl fun a hF => ?_
    refine ls <| q1 hF rfl (e_as (v' := .bool (((decide (p1.What = 4)) || (decide (p2.What = 4))) || (((decide (p1.What = p2.What)) && (decide (p1.N = p2.N))) && (p1.Write || p2.Write)))) (e_pickT hF rfl rfl) (by rw [hb]; rfl)) fun a hF => ?_
    exact key _ _ (hF.has ⟨rfl, trivial⟩) hS
  ·
    intro hb key
    replace hF := Fr.as hF (t := 13) rfl (congrArg Value.bool hb)
    refine ls <| gy hF rfl rfl <| q1 hF rfl (e_fa hF fa27_0 rfl) fun a hF => ?_
    refine ls <| gy hF rfl rfl <| q1 hF rfl (e_ld hF Tryd.isAgg3 rfl ((St.ld hS).cellB (.tail _ (.head _)) rfl)) fun a hF => ?_
    refine ls <| gy hF rfl rfl <| q1 hF rfl (e_fa hF fa27_0 rfl) fun a hF => ?_
    refine ls <| gy hF rfl rfl <| q1 hF rfl (e_ld hF Tryd.isAgg3 rfl ((St.ld hS).cellB (.head _) rfl)) fun a hF => ?_
    refine ls <| gy hF rfl rfl <| q1 hF rfl (e_eql hF rfl rfl) fun a hF => ?_
    refine ls <| gy hF rfl rfl <| q1 hF rfl (e_move hF rfl) fun a hF => ?_
    refine grp (N := 35) (Fk := [(2, .pointer (some ⟨b3, 0, none⟩)), (3, .pointer (some ⟨b4, 0, none⟩)), (13, .bool false), (25, .bool ((decide (p1.What = p2.What)) && (decide (p1.N = p2.N))))]) (b := (decide (p1.What = p2.What))) 6 hS ?_ ?_ ?_
    ·
      intro hb key
      replace hF := Fr.as hF (t := 19) rfl (congrArg Value.bool hb)
      refine ls <| gy hF rfl rfl <| q1 hF rfl (e_fa hF fa27_1 rfl) fun a hF => ?_
      refine ls <| gy hF rfl rfl <| q1 hF rfl (e_ld hF Tryd.isAgg3 rfl ((St.ld hS).cellB (.tail _ (.head _)) rfl)) fun a hF => ?_
      refine ls <| gy hF rfl rfl <| q1 hF rfl (e_fa hF fa27_1 rfl) fun a hF => ?_
      refine ls <| gy hF rfl rfl <| q1 hF rfl (e_ld hF Tryd.isAgg3 rfl ((St.ld hS).cellB (.head _) rfl)) fun a hF => ?_
      refine ls <| gy hF rfl rfl <| q1 hF rfl (e_eql hF rfl rfl) fun a hF => ?_
      refine ls <| gy hF rfl rfl <| q1 hF rfl (e_as (v' := .bool ((decide (p1.What = p2.What)) && (decide (p1.N = p2.N)))) (e_pickT hF rfl rfl) (by rw [hb]; rfl)) fun a hF => ?_
      exact key _ _ (hF.has ⟨rfl, rfl, rfl, rfl, trivial⟩) hS
    ·
      intro hb key
      replace hF := Fr.as hF (t := 19) rfl (congrArg Value.bool hb)
      refine ls <| gn hF rfl rfl rfl rfl fun a hF => ?_
      refine ls <| gn hF rfl rfl rfl rfl fun a hF => ?_
      refine ls <| gn hF rfl rfl rfl rfl fun a hF => ?_
      refine ls <| gn hF rfl rfl rfl rfl fun a hF => ?_
      refine ls <| gn hF rfl rfl rfl rfl fun a hF => ?_
      refine ls <| gy hF rfl rfl <| q1 hF rfl (e_as (v' := .bool ((decide (p1.What = p2.What)) && (decide (p1.N = p2.N)))) (e_pickF hF rfl rfl) (by rw [hb]; rfl)) fun a hF => ?_
      exact key _ _ (hF.has ⟨rfl, rfl, rfl, rfl, trivial⟩) hS
    intro a w hF hS
    refine ls <| gy hF rfl rfl <| q1 hF rfl (e_move hF rfl) fun a hF => ?_
    refine grp (N := 35) (Fk := [(13, .bool false), (33, .bool (((decide (p1.What = p2.What)) && (decide (p1.N = p2.N))) && (p1.Write || p2.Write)))]) (b := ((decide (p1.What = p2.What)) && (decide (p1.N = p2.N)))) 7 hS ?_ ?_ ?_
    ·
      intro hb key
      replace hF := Fr.as hF (t := 26) rfl (congrArg Value.bool hb)
      refine ls <| gy hF rfl rfl <| q1 hF rfl (e_fa hF fa27_2 rfl) fun a hF => ?_
      refine ls <| gy hF rfl rfl <| q1 hF rfl (e_ld hF Tryd.isAgg4 rfl ((St.ld hS).cellB (.tail _ (.head _)) rfl)) fun a hF => ?_
      refine ls <| gy hF rfl rfl <| q1 hF rfl (e_move hF rfl) fun a hF => ?_
      refine grp (N := 35) (Fk := [(13, .bool false), (26, .bool true), (32, .bool (p1.Write || p2.Write))]) (b := p1.Write) 3 hS ?_ ?_ ?_
      ·
        intro hb key
        replace hF := Fr.as hF (t := 29) rfl (congrArg Value.bool hb)
        refine ls <| gn hF rfl rfl rfl rfl fun a hF => ?_
        refine ls <| gn hF rfl rfl rfl rfl fun a hF => ?_
        refine ls <| gy hF rfl rfl <| q1 hF rfl (e_as (v' := .bool (p1.Write || p2.Write)) (e_pickT hF rfl rfl) (by rw [hb]; rfl)) fun a hF => ?_
        exact key _ _ (hF.has ⟨rfl, rfl, rfl, trivial⟩) hS
      ·
        intro hb key
        replace hF := Fr.as hF (t := 29) rfl (congrArg Value.bool hb)
        refine ls <| gy hF rfl rfl <| q1 hF rfl (e_fa hF fa27_2 rfl) fun a hF => ?_
        refine ls <| gy hF rfl rfl <| q1 hF rfl (e_ld hF Tryd.isAgg4 rfl ((St.ld hS).cellB (.head _) rfl)) fun a hF => ?_
        refine ls <| gy hF rfl rfl <| q1 hF rfl (e_as (v' := .bool (p1.Write || p2.Write)) (e_pickF hF rfl rfl) (by rw [hb]; rfl)) fun a hF => ?_
        exact key _ _ (hF.has ⟨rfl, rfl, rfl, trivial⟩) hS
      intro a w hF hS
      refine ls <| gy hF rfl rfl <| q1 hF rfl (e_as (v' := .bool (((decide (p1.What = p2.What)) && (decide (p1.N = p2.N))) && (p1.Write || p2.Write))) (e_pickT hF rfl rfl) (by rw [hb]; rfl)) fun a hF => ?_
      exact key _ _ (hF.has ⟨rfl, rfl, trivial⟩) hS
    ·
      intro hb key
      replace hF := Fr.as hF (t := 26) rfl (congrArg Value.bool hb)
      refine ls <| gn hF rfl rfl rfl rfl fun a hF => ?_
      refine ls <| gn hF rfl rfl rfl rfl fun a hF => ?_
      refine ls <| gn hF rfl rfl rfl rfl fun a hF => ?_
      refine ls <| gnu hF rfl rfl rfl fun a hF => ?_
      refine ls <| gnu hF rfl rfl rfl fun a hF => ?_
      refine ls <| gn hF rfl rfl rfl rfl fun a hF => ?_
      refine ls <| gy hF rfl rfl <| q1 hF rfl (e_as (v' := .bool (((decide (p1.What = p2.What)) && (decide (p1.N = p2.N))) && (p1.Write || p2.Write))) (e_pickF hF rfl rfl) (by rw [hb]; rfl)) fun a hF => ?_
      exact key _ _ (hF.has ⟨rfl, rfl, trivial⟩) hS
    intro a w hF hS
    refine ls <| q1 hF rfl (e_as (v' := .bool (((decide (p1.What = 4)) || (decide (p2.What = 4))) || (((decide (p1.What = p2.What)) && (decide (p1.N = p2.N))) && (p1.Write || p2.Write)))) (e_pickF hF rfl rfl) (by rw [hb]; rfl)) fun a hF => ?_
    exact key _ _ (hF.has ⟨rfl, trivial⟩) hS
  intro a w hF hS
  refine ls <| q1 hF rfl (e_asg hF rfl) fun a hF => ?_
  refine re <| ?_
  refine tn <| ?_
  refine wp_ret <| ?_
  obtain rfl := Option.some.inj hm
  exact r1 hF Tryd.results23 rfl ⟨rfl, hS.keep⟩

set_option maxRecDepth 100000 in
theorem leadlineref15_Depend_c {N : Nat} {w0 : World} {H : PH} (hH : H.le w0) {p1 : api_Event} {p2 : api_Event} {oa4 : Option Addr} {cap5 : Nat} {p3 : (List Int)} (hc6 : p3.length ≤ cap5) (hr7 : SR H oa4 p3) {p8 : Int} {r : Bool} (hm : leadlineref15_Depend N p1 p2 p3 p8 = some r) : Tot Tryd.prog 17 #[.agg #[.int .i64 p1.Kind, .int .i64 p1.T, .int .i64 p1.A, .int .i64 p1.N, .int .i64 p1.M], .agg #[.int .i64 p2.Kind, .int .i64 p2.T, .int .i64 p2.A, .int .i64 p2.N, .int .i64 p2.M], .slice oa4 p3.length cap5, .int .i64 p8] w0 (fun v w' => v = .bool r ∧ Keep Nil w0 w') := by
  unfold leadlineref15_Depend at hm
  refine fn0 (args := [.agg #[.int .i64 p1.Kind, .int .i64 p1.T, .int .i64 p1.A, .int .i64 p1.N, .int .i64 p1.M], .agg #[.int .i64 p2.Kind, .int .i64 p2.T, .int .i64 p2.A, .int .i64 p2.N, .int .i64 p2.M], .slice oa4 p3.length cap5, .int .i64 p8]) (F := [(0, .agg #[.int .i64 p1.Kind, .int .i64 p1.T, .int .i64 p1.A, .int .i64 p1.N, .int .i64 p1.M]), (1, .agg #[.int .i64 p2.Kind, .int .i64 p2.T, .int .i64 p2.A, .int .i64 p2.N, .int .i64 p2.M]), (2, .slice oa4 p3.length cap5), (3, .int .i64 p8)]) Tryd.func17 rfl Tryd.ntmps17 rfl rfl fun a hF => ?_
  have hS : St w0 Nil [H] [] w0 := start1 hH
  refine th <| ?_
  refine rg <| ?_
  refine ls <| a_box (cs := [.int .i64 p1.Kind, .int .i64 p1.T, .int .i64 p1.A, .int .i64 p1.N, .int .i64 p1.M].toArray) hF rfl hS rfl rfl fun b9 w a hS hF => ?_
  refine ls <| a_box (cs := [.int .i64 p2.Kind, .int .i64 p2.T, .int .i64 p2.A, .int .i64 p2.N, .int .i64 p2.M].toArray) hF rfl hS rfl rfl fun b10 w a hS hF => ?_
  refine ls <| q1 hF rfl (e_asg hF rfl) fun a hF => ?_
  refine re <| ?_
  refine tn <| th <| th <| ?_
  refine rg <| ?_
  refine ls <| q1 hF rfl (e_fa hF fa23_1 rfl) fun a hF => ?_
  refine ls <| q1 hF rfl (e_ld hF Tryd.isAgg3 rfl ((St.ld hS).cellB (.tail _ (.head _)) rfl)) fun a hF => ?_
  refine ls <| q1 hF rfl (e_fa hF fa23_1 rfl) fun a hF => ?_
  refine ls <| q1 hF rfl (e_ld hF Tryd.isAgg3 rfl ((St.ld hS).cellB (.head _) rfl)) fun a hF => ?_
  refine ls <| q1 hF rfl (e_eql hF rfl rfl) fun a hF => ?_
  refine ls <| q1 hF rfl (e_move hF rfl) fun a hF => ?_
  refine grp (N := 67) (Fk := [(2, .slice oa4 p3.length cap5), (3, .int .i64 p8), (4, .pointer (some ⟨b9, 0, none⟩)), (5, .pointer (some ⟨b10, 0, none⟩)), (27, .bool ((decide (p1.T = p2.T)) || ((decide (15 ≤ p1.Kind)) && (decide (p1.Kind ≤ 16)))))]) (b := (decide (p1.T = p2.T))) 9 hS ?_ ?_ ?_
  ·
    intro hb key
    replace hF := Fr.as hF (t := 18) rfl (congrArg Value.bool hb)
    refine ls <| gn hF rfl rfl rfl rfl fun a hF => ?_
    refine ls <| gn hF rfl rfl rfl rfl fun a hF => ?_
    refine ls <| gn hF rfl rfl rfl rfl fun a hF => ?_
    refine ls <| gn hF rfl rfl rfl rfl fun a hF => ?_
    refine ls <| gnu hF rfl rfl rfl fun a hF => ?_
    refine ls <| gnu hF rfl rfl rfl fun a hF => ?_
    refine ls <| gnu hF rfl rfl rfl fun a hF => ?_
    refine ls <| gn hF rfl rfl rfl rfl fun a hF => ?_
    refine ls <| q1 hF rfl (e_as (v' := .bool ((decide (p1.T = p2.T)) || ((decide (15 ≤ p1.Kind)) && (decide (p1.Kind ≤ 16))))) (e_pickT hF rfl rfl) (by rw [hb]; rfl)) fun a hF => ?_
    exact key _ _ (hF.has ⟨rfl, rfl, rfl, rfl, rfl, trivial⟩) hS
  ·
    intro hb key
    replace hF := Fr.as hF (t := 18) rfl (congrArg Value.bool hb)
    refine ls <| gy hF rfl rfl <| q1 hF rfl (e_fa hF fa23_0 rfl) fun a hF => ?_
    refine ls <| gy hF rfl rfl <| q1 hF rfl (e_ld hF Tryd.isAgg3 rfl ((St.ld hS).cellB (.tail _ (.head _)) rfl)) fun a hF => ?_
    refine ls <| gy hF rfl rfl <| q1 hF rfl (e_geq hF rfl rfl) fun a hF => ?_
    refine ls <| gy hF rfl rfl <| q1 hF rfl (e_move hF rfl) fun a hF => ?_
    refine grp (N := 67) (Fk := [(2, .slice oa4 p3.length cap5), (3, .int .i64 p8), (4, .pointer (some ⟨b9, 0, none⟩)), (5, .pointer (some ⟨b10, 0, none⟩)), (18, .bool false), (26, .bool ((decide (15 ≤ p1.Kind)) && (decide (p1.Kind ≤ 16))))]) (b := (decide (15 ≤ p1.Kind))) 4 hS ?_ ?_ ?_
    ·
      intro hb key
      replace hF := Fr.as hF (t := 22) rfl (congrArg Value.bool hb)
      refine ls <| gy hF rfl rfl <| q1 hF rfl (e_fa hF fa23_0 rfl) fun a hF => ?_
      refine ls <| gy hF rfl rfl <| q1 hF rfl (e_ld hF Tryd.isAgg3 rfl ((St.ld hS).cellB (.tail _ (.head _)) rfl)) fun a hF => ?_
      refine ls <| gy hF rfl rfl <| q1 hF rfl (e_leq hF rfl rfl) fun a hF => ?_
      refine ls <| gy hF rfl rfl <| q1 hF rfl (e_as (v' := .bool ((decide (15 ≤ p1.Kind)) && (decide (p1.Kind ≤ 16)))) (e_pickT hF rfl rfl) (by rw [hb]; rfl)) fun a hF => ?_
      exact key _ _ (hF.has ⟨rfl, rfl, rfl, rfl, rfl, rfl, trivial⟩) hS
    ·
      intro hb key
      replace hF := Fr.as hF (t := 22) rfl (congrArg Value.bool hb)
      refine ls <| gn hF rfl rfl rfl rfl fun a hF => ?_
      refine ls <| gn hF rfl rfl rfl rfl fun a hF => ?_
      refine ls <| gn hF rfl rfl rfl rfl fun a hF => ?_
      refine ls <| gy hF rfl rfl <| q1 hF rfl (e_as (v' := .bool ((decide (15 ≤ p1.Kind)) && (decide (p1.Kind ≤ 16)))) (e_pickF hF rfl rfl) (by rw [hb]; rfl)) fun a hF => ?_
      exact key _ _ (hF.has ⟨rfl, rfl, rfl, rfl, rfl, rfl, trivial⟩) hS
    intro a w hF hS
    refine ls <| q1 hF rfl (e_as (v' := .bool ((decide (p1.T = p2.T)) || ((decide (15 ≤ p1.Kind)) && (decide (p1.Kind ≤ 16))))) (e_pickF hF rfl rfl) (by rw [hb]; rfl)) fun a hF => ?_
    exact key _ _ (hF.has ⟨rfl, rfl, rfl, rfl, rfl, trivial⟩) hS
  intro a w hF hS
  refine ls <| q1 hF rfl (e_move hF rfl) fun a hF => ?_
  refine grp (N := 67) (Fk := [(2, .slice oa4 p3.length cap5), (3, .int .i64 p8), (4, .pointer (some ⟨b9, 0, none⟩)), (5, .pointer (some ⟨b10, 0, none⟩)), (37, .bool (((decide (p1.T = p2.T)) || ((decide (15 ≤ p1.Kind)) && (decide (p1.Kind ≤ 16)))) || ((decide (15 ≤ p2.Kind)) && (decide (p2.Kind ≤ 16)))))]) (b := ((decide (p1.T = p2.T)) || ((decide (15 ≤ p1.Kind)) && (decide (p1.Kind ≤ 16))))) 9 hS ?_ ?_ ?_
  ·
    intro hb key
    replace hF := Fr.as hF (t := 28) rfl (congrArg Value.bool hb)
    refine ls <| gn hF rfl rfl rfl rfl fun a hF => ?_
    refine ls <| gn hF rfl rfl rfl rfl fun a hF => ?_
    refine ls <| gn hF rfl rfl rfl rfl fun a hF => ?_
    refine ls <| gn hF rfl rfl rfl rfl fun a hF => ?_
    refine ls <| gnu hF rfl rfl rfl fun a hF => ?_
    refine ls <| gnu hF rfl rfl rfl fun a hF => ?_
    refine ls <| gnu hF rfl rfl rfl fun a hF => ?_
    refine ls <| gn hF rfl rfl rfl rfl fun a hF => ?_
    refine ls <| q1 hF rfl (e_as (v' := .bool (((decide (p1.T = p2.T)) || ((decide (15 ≤ p1.Kind)) && (decide (p1.Kind ≤ 16)))) || ((decide (15 ≤ p2.Kind)) && (decide (p2.Kind ≤ 16))))) (e_pickT hF rfl rfl) (by rw [hb]; rfl)) fun a hF => ?_
    exact key _ _ (hF.has ⟨rfl, rfl, rfl, rfl, rfl, trivial⟩) hS
  ·
    intro hb key
    replace hF := Fr.as hF (t := 28) rfl (congrArg Value.bool hb)
    refine ls <| gy hF rfl rfl <| q1 hF rfl (e_fa hF fa23_0 rfl) fun a hF => ?_
    refine ls <| gy hF rfl rfl <| q1 hF rfl (e_ld hF Tryd.isAgg3 rfl ((St.ld hS).cellB (.head _) rfl)) fun a hF => ?_
    refine ls <| gy hF rfl rfl <| q1 hF rfl (e_geq hF rfl rfl) fun a hF => ?_
    refine ls <| gy hF rfl rfl <| q1 hF rfl (e_move hF rfl) fun a hF => ?_
    refine grp (N := 67) (Fk := [(2, .slice oa4 p3.length cap5), (3, .int .i64 p8), (4, .pointer (some ⟨b9, 0, none⟩)), (5, .pointer (some ⟨b10, 0, none⟩)), (28, .bool false), (36, .bool ((decide (15 ≤ p2.Kind)) && (decide (p2.Kind ≤ 16))))]) (b := (decide (15 ≤ p2.Kind))) 4 hS ?_ ?_ ?_
    ·
      intro hb key
      replace hF := Fr.as hF (t := 32) rfl (congrArg Value.bool hb)
      refine ls <| gy hF rfl rfl <| q1 hF rfl (e_fa hF fa23_0 rfl) fun a hF => ?_
      refine ls <| gy hF rfl rfl <| q1 hF rfl (e_ld hF Tryd.isAgg3 rfl ((St.ld hS).cellB (.head _) rfl)) fun a hF => ?_
      refine ls <| gy hF rfl rfl <| q1 hF rfl (e_leq hF rfl rfl) fun a hF => ?_
      refine ls <| gy hF rfl rfl <| q1 hF rfl (e_as (v' := .bool ((decide (15 ≤ p2.Kind)) && (decide (p2.Kind ≤ 16)))) (e_pickT hF rfl rfl) (by rw [hb]; rfl)) fun a hF => ?_
      exact key _ _ (hF.has ⟨rfl, rfl, rfl, rfl, rfl, rfl, trivial⟩) hS
    ·
      intro hb key
      replace hF := Fr.as hF (t := 32) rfl (congrArg Value.bool hb)
      refine ls <| gn hF rfl rfl rfl rfl fun a hF => ?_
      refine ls <| gn hF rfl rfl rfl rfl fun a hF => ?_
      refine ls <| gn hF rfl rfl rfl rfl fun a hF => ?_
      refine ls <| gy hF rfl rfl <| q1 hF rfl (e_as (v' := .bool ((decide (15 ≤ p2.Kind)) && (decide (p2.Kind ≤ 16)))) (e_pickF hF rfl rfl) (by rw [hb]; rfl)) fun a hF => ?_
      exact key _ _ (hF.has ⟨rfl, rfl, rfl, rfl, rfl, rfl, trivial⟩) hS
    intro a w hF hS
    refine ls <| q1 hF rfl (e_as (v' := .bool (((decide (p1.T = p2.T)) || ((decide (15 ≤ p1.Kind)) && (decide (p1.Kind ≤ 16)))) || ((decide (15 ≤ p2.Kind)) && (decide (p2.Kind ≤ 16))))) (e_pickF hF rfl rfl) (by rw [hb]; rfl)) fun a hF => ?_
    exact key _ _ (hF.has ⟨rfl, rfl, rfl, rfl, rfl, trivial⟩) hS
  intro a w hF hS
  refine re <| ?_
  rcases bdich (((decide (p1.T = p2.T)) || ((decide (15 ≤ p1.Kind)) && (decide (p1.Kind ≤ 16)))) || ((decide (15 ≤ p2.Kind)) && (decide (p2.Kind ≤ 16)))) with hb11 | hb11
  ·
    replace hm := ite_t hm hb11
    refine tn <| ctv hF rfl hb11 <| th <| ?_
    refine rg <| ?_
    refine ls <| q1 hF rfl (e_asg hF rfl) fun a hF => ?_
    refine re <| ?_
    refine tn <| ?_
    refine wp_ret <| tr <| ?_
    obtain rfl := Option.some.inj hm
    exact r1 hF Tryd.results17 rfl ⟨rfl, hS.keep⟩
  ·
    replace hm := ite_f hm hb11
    refine tn <| cfv hF rfl hb11 <| wp_skip <| ?_
    refine tn <| th <| ?_
    replace hm := bind_some hm
    obtain ⟨r12, h13, hm⟩ := hm
    replace hm := bind_some hm
    obtain ⟨r19, h20, hm⟩ := hm
    refine rdS 10 hS wide fun w hS => ?_
    refine d1 (i := 0) rfl (by kernel_rfl) (by kernel_rfl) (St.ld hS) hF rfl (fun _ _ _ h => h) (fun w hl => (e_ldA hF Tryd.isAgg23 Tryd.sizeOf23 rfl rfl (hl.cellsB (.tail _ (.head _))))) fun a hF => ?_
    refine d1 (i := 1) rfl (by kernel_rfl) (by kernel_rfl) (St.ld hS) hF rfl (fun _ _ _ h => h) (fun w hl => (e_move hF rfl)) fun a hF => ?_
    refine d1 (i := 2) rfl (by kernel_rfl) (by kernel_rfl) (St.ld hS) hF rfl (fun _ _ _ h => h) (fun w hl => (e_move hF rfl)) fun a hF => ?_
    refine d1 (i := 4) rfl (by kernel_rfl) (by kernel_rfl) (St.ld hS) hF rfl (fun _ _ _ h => h) (fun w hl => (e_ldA hF Tryd.isAgg23 Tryd.sizeOf23 rfl rfl (hl.cellsB (.head _)))) fun a hF => ?_
    refine d1 (i := 5) rfl (by kernel_rfl) (by kernel_rfl) (St.ld hS) hF rfl (fun _ _ _ h => h) (fun w hl => (e_move hF rfl)) fun a hF => ?_
    refine d1 (i := 6) rfl (by kernel_rfl) (by kernel_rfl) (St.ld hS) hF rfl (fun _ _ _ h => h) (fun w hl => (e_move hF rfl)) fun a hF => ?_
    refine da1 (i := 3) (by kernel_rfl) ?_
    refine di (i := 3) rfl <| c1 hF rfl Tryd.call15 (leadlineref15_Uses_c (hp_le _) hc6 (St.srH hS hr7) h13) ⟨rfl, rfl, rfl, trivial⟩ (fun v w a hR hF => ?_)
    obtain ⟨oa14, cap15, vs16, rfl, hv17, hk⟩ := hR
    replace hS := hS.fresh hk
    clear hk
    replace hv17 := hv17 H
    refine ⟨fun _ => (St.ldsX hS (fun _ _ h => h) (fun _ h => (.tail _ h))), ?_⟩
    refine da1 (i := 7) (by kernel_rfl) ?_
    refine di (i := 7) rfl <| c1 hF rfl Tryd.call15 (leadlineref15_Uses_c (hp_le _) hc6 (St.srH hS hr7) h20) ⟨rfl, rfl, rfl, trivial⟩ (fun v w a hR hF => ?_)
    obtain ⟨oa21, cap22, vs23, rfl, hv24, hk⟩ := hR
    replace hS := hS.fresh hk
    clear hk
    replace hv24 := hv24 H
    refine ⟨fun _ => (St.ldsX hS (fun _ _ h => h) (fun _ h => (.tail _ (.tail _ h)))), ?_⟩
    refine d1 (i := 8) rfl (by kernel_rfl) (by kernel_rfl) (St.ldsX hS (fun _ _ h => h) (fun _ h => (.tail _ (.tail _ h)))) hF rfl (fun _ _ _ h => h) (fun w hl => (e_asg hF rfl)) fun a hF => ?_
    refine d1 (i := 9) rfl (by kernel_rfl) (by kernel_rfl) (St.ldsX hS (fun _ _ h => h) (fun _ h => (.tail _ (.tail _ h)))) hF rfl (fun _ _ _ h => h) (fun w hl => (e_asg hF rfl)) fun a hF => ?_
    refine de (by kernel_rfl) <| ?_
    refine tn <| th <| th <| ?_
    refine rg <| ?_
    refine ls <| q1 hF rfl (e_asg hF rfl) fun a hF => ?_
    refine re <| ?_
    refine tn <| midK (fun a w => ∃ (HA1 : PH), leadlineref15_Depend_j1 = some r ∧ Ext w0 H HA1 ∧ Fr 67 [] a ∧ St w0 Nil [HA1] [] w) ?_ ?_
    ·
      replace hS := hS.pickL (.cons (.tail .head) (.cons .head .nil))
      refine wp_block <| lp (α := Nat × Int) (fun (gh : Nat × Int) a w => match gh with | (nn2, vB2) => ∃ (HB1 : PH), (leadlineref15_Depend_l2 N leadlineref15_Depend_j1 r12 r19) nn2 vB2 = some r ∧ Ext w0 H HB1 ∧ Fr 67 [(9, .slice oa14 r12.length cap15), (10, .slice oa21 r19.length cap22), (11, .int .i64 vB2)] a ∧ St w0 Nil [HB1] [sla 27 3 oa14 r12.length cap15 vs16, sla 27 3 oa21 r19.length cap22 vs23] w) (fun gh => gh.1) (N, 0) ⟨H, hm, (Ext.refl _ _), hF.has ⟨rfl, rfl, rfl, trivial⟩, hS⟩ ?_
      clear hm hF hS
      rintro ⟨nn2, vB2⟩ a w ⟨HB1, hm, hxHB1, hF, hS⟩
      obtain _ | nn2 := nn2
      · simp [leadlineref15_Depend_l2] at hm
      rw [leadlineref15_Depend_l2] at hm
      refine th <| th <| ?_
      refine rg <| ?_
      refine ls <| q1 hF rfl (e_move hF rfl) fun a hF => ?_
      refine ls <| q1 hF rfl (e_move hF rfl) fun a hF => ?_
      refine ls <| q1 hF rfl (e_lenL (α := api_Use) (xs := r12) hF Tryd.runUnderlying29 rfl) fun a hF => ?_
      refine ls <| q1 hF rfl (e_lss hF rfl rfl) fun a hF => ?_
      refine re <| ?_
      rcases bdich (decide (vB2 < (r12.length : Int))) with hb26 | hb26
      ·
        replace hm := itp_t hm hb26
        refine tn <| ctv hF rfl hb26 <| wp_skip <| ?_
        refine tn <| th <| midK (fun a w => (leadlineref15_Depend_j3 (leadlineref15_Depend_l2 N leadlineref15_Depend_j1 r12 r19 nn2) vB2) = some r ∧ Fr 67 [(9, .slice oa14 r12.length cap15), (10, .slice oa21 r19.length cap22), (11, .int .i64 vB2)] a ∧ St w0 Nil [HB1] [sla 27 3 oa14 r12.length cap15 vs16, sla 27 3 oa21 r19.length cap22 vs23] w) ?_ ?_
        ·
          refine wp_block <| th <| ?_
          refine rg <| ?_
          refine ls <| q1 hF rfl (e_asg hF rfl) fun a hF => ?_
          refine re <| ?_
          refine tn <| wp_block <| lp (α := Nat × Int) (fun (gh : Nat × Int) a w => match gh with | (nn4, vD1) => (leadlineref15_Depend_l4 N (leadlineref15_Depend_j3 (leadlineref15_Depend_l2 N leadlineref15_Depend_j1 r12 r19 nn2) vB2) r12 r19 vB2) nn4 vD1 = some r ∧ Fr 67 [(9, .slice oa14 r12.length cap15), (10, .slice oa21 r19.length cap22), (11, .int .i64 vB2), (12, .int .i64 vD1)] a ∧ St w0 Nil [HB1] [sla 27 3 oa14 r12.length cap15 vs16, sla 27 3 oa21 r19.length cap22 vs23] w) (fun gh => gh.1) (N, 0) ⟨hm, hF.has ⟨rfl, rfl, rfl, rfl, trivial⟩, hS⟩ ?_
          clear hm hF hS
          rintro ⟨nn4, vD1⟩ a w ⟨hm, hF, hS⟩
          obtain _ | nn4 := nn4
          · simp [leadlineref15_Depend_l4] at hm
          rw [leadlineref15_Depend_l4] at hm
          refine th <| th <| ?_
          refine rg <| ?_
          refine ls <| q1 hF rfl (e_move hF rfl) fun a hF => ?_
          refine ls <| q1 hF rfl (e_move hF rfl) fun a hF => ?_
          refine ls <| q1 hF rfl (e_lenL (α := api_Use) (xs := r19) hF Tryd.runUnderlying29 rfl) fun a hF => ?_
          refine ls <| q1 hF rfl (e_lss hF rfl rfl) fun a hF => ?_
          refine re <| ?_
          rcases bdich (decide (vD1 < (r19.length : Int))) with hb27 | hb27
          ·
            replace hm := itp_t hm hb27
            refine tn <| ctv hF rfl hb27 <| wp_skip <| ?_
            refine tn <| th <| wp_block <| th <| ?_
            replace hm := bind_some hm
            obtain ⟨x28, h29, hm⟩ := hm
            have ho30 := Rd.oaI (hS.rdO (.head _)) hv17 (by decide) h29
            obtain ⟨c31, g32, hl33⟩ := Rows.getI hv17 h29
            obtain rfl := api_Use_open g32
            replace hm := bind_some hm
            obtain ⟨x34, h35, hm⟩ := hm
            have ho36 := Rd.oaI (hS.rdO (.tail _ (.head _))) hv24 (by decide) h35
            obtain ⟨c37, g38, hl39⟩ := Rows.getI hv24 h35
            obtain rfl := api_Use_open g38
            replace hm := bind_some hm
            obtain ⟨r40, h41, hm⟩ := hm
            refine rdS 9 hS wide fun w hS => ?_
            refine d1 (i := 0) rfl (by kernel_rfl) (by kernel_rfl) (St.ld hS) hF rfl (fun _ _ _ h => h) (fun w hl => (e_move hF rfl)) fun a hF => ?_
            refine d1 (i := 1) rfl (by kernel_rfl) (by kernel_rfl) (St.ld hS) hF rfl (fun _ _ _ h => h) (fun w hl => (e_move hF rfl)) fun a hF => ?_
            refine d1 (i := 2) rfl (by kernel_rfl) (by kernel_rfl) (St.ld hS) hF rfl (fun _ _ _ h => h) (fun w hl => (e_iaI hF Tryd.runUnderlying29 Tryd.sizeOf27 rfl rfl h29 ho30)) fun a hF => ?_
            refine d1 (i := 3) rfl (by kernel_rfl) (by kernel_rfl) (St.ld hS) hF rfl (fun _ _ _ h => h) (fun w hl => (e_ldA hF Tryd.isAgg27 Tryd.sizeOf27 rfl rfl (hl.elsO (.head _) hl33))) fun a hF => ?_
            refine d1 (i := 4) rfl (by kernel_rfl) (by kernel_rfl) (St.ld hS) hF rfl (fun _ _ _ h => h) (fun w hl => (e_move hF rfl)) fun a hF => ?_
            refine d1 (i := 5) rfl (by kernel_rfl) (by kernel_rfl) (St.ld hS) hF rfl (fun _ _ _ h => h) (fun w hl => (e_move hF rfl)) fun a hF => ?_
            refine d1 (i := 6) rfl (by kernel_rfl) (by kernel_rfl) (St.ld hS) hF rfl (fun _ _ _ h => h) (fun w hl => (e_iaI hF Tryd.runUnderlying29 Tryd.sizeOf27 rfl rfl h35 ho36)) fun a hF => ?_
            refine d1 (i := 7) rfl (by kernel_rfl) (by kernel_rfl) (St.ld hS) hF rfl (fun _ _ _ h => h) (fun w hl => (e_ldA hF Tryd.isAgg27 Tryd.sizeOf27 rfl rfl (hl.elsO (.tail _ (.head _)) hl39))) fun a hF => ?_
            refine da1 (i := 8) (by kernel_rfl) ?_
            refine di (i := 8) rfl <| c1 hF rfl Tryd.call23 (leadlineref15_Clash_c (hp_le _) h41) ⟨rfl, rfl, trivial⟩ (fun v w a hR hF => ?_)
            obtain ⟨rfl, hk⟩ := hR
            replace hS := hS.pass hk
            clear hk
            refine ⟨fun _ => (St.ld hS), ?_⟩
            refine de (by kernel_rfl) <| ?_
            rcases bdich r40 with hb42 | hb42
            ·
              replace hm := ite_t hm hb42
              refine tn <| ctv hF rfl hb42 <| th <| ?_
              refine rg <| ?_
              refine ls <| q1 hF rfl (e_asg hF rfl) fun a hF => ?_
              refine re <| ?_
              refine tn <| ?_
              refine wp_ret <| br <| tr <| tr <| br <| br <| tr <| tr <| br <| tr <| ?_
              obtain rfl := Option.some.inj hm
              exact r1 hF Tryd.results17 rfl ⟨rfl, hS.keep⟩
            ·
              replace hm := ite_f hm hb42
              refine tn <| cfv hF rfl hb42 <| wp_skip <| ?_
              refine bn <| tn <| ?_
              refine rg <| ?_
              refine ls <| q1 hF rfl (e_move hF rfl) fun a hF => ?_
              refine ls <| q1 hF rfl (e_add hF rfl rfl) fun a hF => ?_
              refine ls <| q1 hF rfl (e_asg hF rfl) fun a hF => ?_
              refine re <| ?_
              refine tn <| ?_
              exact ⟨(nn4, (IntKind.i64.wrap (vD1 + 1))), ⟨hm, hF.has ⟨rfl, rfl, rfl, rfl, trivial⟩, hS⟩, Nat.lt_succ_self _⟩
          ·
            replace hm := itp_f hm hb27
            refine tn <| cfv hF rfl hb27 <| ?_
            refine wp_exit <| tx <| tx <| bx <| ?_
            refine bn <| tn <| ?_
            exact ⟨hm, hF.has ⟨rfl, rfl, rfl, trivial⟩, hS⟩
        clear hm hF hS
        rintro a w ⟨hm, hF, hS⟩
        unfold leadlineref15_Depend_j3 at hm
        refine rg <| ?_
        refine ls <| q1 hF rfl (e_move hF rfl) fun a hF => ?_
        refine ls <| q1 hF rfl (e_add hF rfl rfl) fun a hF => ?_
        refine ls <| q1 hF rfl (e_asg hF rfl) fun a hF => ?_
        refine re <| ?_
        refine tn <| ?_
        exact ⟨(nn2, (IntKind.i64.wrap (vB2 + 1))), ⟨HB1, hm, hxHB1, hF.has ⟨rfl, rfl, rfl, trivial⟩, hS⟩, Nat.lt_succ_self _⟩
      ·
        replace hm := itp_f hm hb26
        refine tn <| cfv hF rfl hb26 <| ?_
        refine wp_exit <| tx <| tx <| bx <| ?_
        refine tn <| ?_
        replace hS := hS.pickL .nil
        exact ⟨HB1, hm, hxHB1, hF.has trivial, hS⟩
    clear hm hF hS
    rintro a w ⟨HA1, hm, hxHA1, hF, hS⟩
    unfold leadlineref15_Depend_j1 at hm
    refine th <| ?_
    refine rg <| ?_
    refine ls <| q1 hF rfl (e_asg hF rfl) fun a hF => ?_
    refine re <| ?_
    refine tn <| ?_
    refine wp_ret <| ?_
    obtain rfl := Option.some.inj hm
    exact r1 hF Tryd.results17 rfl ⟨rfl, hS.keep⟩

set_option maxRecDepth 100000 in
theorem event_known_c {N : Nat} {w0 : World} {H : PH} (hH : H.le w0) {p1 : Int} {r : Bool} (hm : event_known N p1 = some r) : Tot Tryd.prog 44 #[.int .i64 p1] w0 (fun v w' => v = .bool r ∧ Keep Nil w0 w') := by
  unfold event_known at hm
  refine fn0 (args := [.int .i64 p1]) (F := [(0, .int .i64 p1)]) Tryd.func44 rfl Tryd.ntmps44 rfl rfl fun a hF => ?_
  have hS : St w0 Nil [H] [] w0 := start1 hH
  refine th <| ?_
  refine rg <| ?_
  refine ls <| q1 hF rfl (e_asg hF rfl) fun a hF => ?_
  refine re <| ?_
  refine tn <| th <| ?_
  refine rg <| ?_
  refine ls <| q1 hF rfl (e_move hF rfl) fun a hF => ?_
  refine ls <| q1 hF rfl (e_geq hF rfl rfl) fun a hF => ?_
  refine ls <| q1 hF rfl (e_move hF rfl) fun a hF => ?_
  refine grp (N := 9) (Fk := [(8, .bool ((decide (1 ≤ p1)) && (decide (p1 < 17))))]) (b := (decide (1 ≤ p1))) 3 hS ?_ ?_ ?_
  ·
    intro hb key
    replace hF := Fr.as hF (t := 5) rfl (congrArg Value.bool hb)
    refine ls <| gy hF rfl rfl <| q1 hF rfl (e_move hF rfl) fun a hF => ?_
    refine ls <| gy hF rfl rfl <| q1 hF rfl (e_lss hF rfl rfl) fun a hF => ?_
    refine ls <| q1 hF rfl (e_as (v' := .bool ((decide (1 ≤ p1)) && (decide (p1 < 17)))) (e_pickT hF rfl rfl) (by rw [hb]; rfl)) fun a hF => ?_
    exact key _ _ (hF.has ⟨rfl, trivial⟩) hS
  ·
    intro hb key
    replace hF := Fr.as hF (t := 5) rfl (congrArg Value.bool hb)
    refine ls <| gn hF rfl rfl rfl rfl fun a hF => ?_
    refine ls <| gn hF rfl rfl rfl rfl fun a hF => ?_
    refine ls <| q1 hF rfl (e_as (v' := .bool ((decide (1 ≤ p1)) && (decide (p1 < 17)))) (e_pickF hF rfl rfl) (by rw [hb]; rfl)) fun a hF => ?_
    exact key _ _ (hF.has ⟨rfl, trivial⟩) hS
  intro a w hF hS
  refine ls <| q1 hF rfl (e_asg hF rfl) fun a hF => ?_
  refine re <| ?_
  refine tn <| ?_
  refine wp_ret <| ?_
  obtain rfl := Option.some.inj hm
  exact r1 hF Tryd.results44 rfl ⟨rfl, hS.keep⟩

set_option maxRecDepth 100000 in
theorem event_kinds_c {N : Nat} {w0 : World} {H : PH} (hH : H.le w0)  {r : (Arr 17 event_kind)} (hm : event_kinds N  = some r) : Tot Tryd.prog 45 #[] w0 (fun v w' => ∃ (H' : PH) (cs0 : List Value), v = .agg cs0.toArray ∧ Enc.rep H' cs0 r ∧ Ext w0 H H' ∧ H'.le w' ∧ Keep Nil w0 w') := by
  unfold event_kinds at hm
  refine fn0 (args := []) (F := []) Tryd.func45 rfl Tryd.ntmps45 rfl rfl fun a hF => ?_
  have hS : St w0 Nil [H] [] w0 := start1 hH
  refine th <| ?_
  refine rg <| ?_
  refine ls <| a_alloc (cs := [strv [], .bool false, .bool false, .bool false, strv [], .bool false, .bool false, .bool false, strv [], .bool false, .bool false, .bool false, strv [], .bool false, .bool false, .bool false, strv [], .bool false, .bool false, .bool false, strv [], .bool false, .bool false, .bool false, strv [], .bool false, .bool false, .bool false, strv [], .bool false, .bool false, .bool false, strv [], .bool false, .bool false, .bool false, strv [], .bool false, .bool false, .bool false, strv [], .bool false, .bool false, .bool false, strv [], .bool false, .bool false, .bool false, strv [], .bool false, .bool false, .bool false, strv [], .bool false, .bool false, .bool false, strv [], .bool false, .bool false, .bool false, strv [], .bool false, .bool false, .bool false, strv [], .bool false, .bool false, .bool false].toArray) hF rfl hS Tryd.zeroValue60 rfl fun b1 w a hS hF => ?_
  refine re <| ?_
  refine tn <| th <| ?_
  refine rg <| ?_
  refine ls <| q1 hF rfl (e_bldK [strv [108, 111, 97, 100], .bool true, .bool true, .bool false] [strv [108, 111, 97, 100], .bool true, .bool true, .bool false] hF ⟨rfl, rfl, rfl, rfl, trivial⟩ (fun w => by kernel_rfl)) fun a hF => ?_
  refine ls <| q1 hF rfl (e_bldK [strv [111, 119, 110], .bool true, .bool true, .bool false] [strv [111, 119, 110], .bool true, .bool true, .bool false] hF ⟨rfl, rfl, rfl, rfl, trivial⟩ (fun w => by kernel_rfl)) fun a hF => ?_
  refine ls <| q1 hF rfl (e_bldK [strv [115, 116, 111, 114, 101], .bool true, .bool true, .bool false] [strv [115, 116, 111, 114, 101], .bool true, .bool true, .bool false] hF ⟨rfl, rfl, rfl, rfl, trivial⟩ (fun w => by kernel_rfl)) fun a hF => ?_
  refine ls <| q1 hF rfl (e_bldK [strv [102, 108, 117, 115, 104], .bool true, .bool false, .bool false] [strv [102, 108, 117, 115, 104], .bool true, .bool false, .bool false] hF ⟨rfl, rfl, rfl, rfl, trivial⟩ (fun w => by kernel_rfl)) fun a hF => ?_
  refine ls <| q1 hF rfl (e_bldK [strv [111, 112, 116], .bool true, .bool false, .bool false] [strv [111, 112, 116], .bool true, .bool false, .bool false] hF ⟨rfl, rfl, rfl, rfl, trivial⟩ (fun w => by kernel_rfl)) fun a hF => ?_
  refine ls <| q1 hF rfl (e_bldK [strv [115, 102, 101, 110, 99, 101], .bool false, .bool false, .bool false] [strv [115, 102, 101, 110, 99, 101], .bool false, .bool false, .bool false] hF ⟨rfl, rfl, rfl, rfl, trivial⟩ (fun w => by kernel_rfl)) fun a hF => ?_
  refine ls <| q1 hF rfl (e_bldK [strv [109, 102, 101, 110, 99, 101], .bool false, .bool false, .bool false] [strv [109, 102, 101, 110, 99, 101], .bool false, .bool false, .bool false] hF ⟨rfl, rfl, rfl, rfl, trivial⟩ (fun w => by kernel_rfl)) fun a hF => ?_
  refine ls <| q1 hF rfl (e_bldK [strv [99, 97, 115], .bool true, .bool true, .bool true] [strv [99, 97, 115], .bool true, .bool true, .bool true] hF ⟨rfl, rfl, rfl, rfl, trivial⟩ (fun w => by kernel_rfl)) fun a hF => ?_
  refine ls <| q1 hF rfl (e_bldK [strv [102, 97, 105, 108], .bool true, .bool true, .bool false] [strv [102, 97, 105, 108], .bool true, .bool true, .bool false] hF ⟨rfl, rfl, rfl, rfl, trivial⟩ (fun w => by kernel_rfl)) fun a hF => ?_
  refine ls <| q1 hF rfl (e_bldK [strv [116, 97, 107, 101], .bool true, .bool false, .bool false] [strv [116, 97, 107, 101], .bool true, .bool false, .bool false] hF ⟨rfl, rfl, rfl, rfl, trivial⟩ (fun w => by kernel_rfl)) fun a hF => ?_
  refine ls <| q1 hF rfl (e_bldK [strv [103, 105, 118, 101], .bool true, .bool false, .bool false] [strv [103, 105, 118, 101], .bool true, .bool false, .bool false] hF ⟨rfl, rfl, rfl, rfl, trivial⟩ (fun w => by kernel_rfl)) fun a hF => ?_
  refine ls <| q1 hF rfl (e_bldK [strv [99, 111, 109, 101], .bool true, .bool true, .bool false] [strv [99, 111, 109, 101], .bool true, .bool true, .bool false] hF ⟨rfl, rfl, rfl, rfl, trivial⟩ (fun w => by kernel_rfl)) fun a hF => ?_
  refine ls <| q1 hF rfl (e_bldK [strv [111, 117, 116], .bool true, .bool false, .bool false] [strv [111, 117, 116], .bool true, .bool false, .bool false] hF ⟨rfl, rfl, rfl, rfl, trivial⟩ (fun w => by kernel_rfl)) fun a hF => ?_
  refine ls <| q1 hF rfl (e_bldK [strv [102, 101, 110, 99, 101], .bool false, .bool false, .bool false] [strv [102, 101, 110, 99, 101], .bool false, .bool false, .bool false] hF ⟨rfl, rfl, rfl, rfl, trivial⟩ (fun w => by kernel_rfl)) fun a hF => ?_
  refine ls <| q1 hF rfl (e_bldK [strv [99, 114, 97, 115, 104], .bool false, .bool true, .bool false] [strv [99, 114, 97, 115, 104], .bool false, .bool true, .bool false] hF ⟨rfl, rfl, rfl, rfl, trivial⟩ (fun w => by kernel_rfl)) fun a hF => ?_
  refine ls <| q1 hF rfl (e_bldK [strv [102, 97, 117, 108, 116], .bool true, .bool false, .bool false] [strv [102, 97, 117, 108, 116], .bool true, .bool false, .bool false] hF ⟨rfl, rfl, rfl, rfl, trivial⟩ (fun w => by kernel_rfl)) fun a hF => ?_
  refine ls <| q1 hF rfl (e_bldK [.agg #[strv [108, 111, 97, 100], .bool true, .bool true, .bool false], .agg #[strv [111, 119, 110], .bool true, .bool true, .bool false], .agg #[strv [115, 116, 111, 114, 101], .bool true, .bool true, .bool false], .agg #[strv [102, 108, 117, 115, 104], .bool true, .bool false, .bool false], .agg #[strv [111, 112, 116], .bool true, .bool false, .bool false], .agg #[strv [115, 102, 101, 110, 99, 101], .bool false, .bool false, .bool false], .agg #[strv [109, 102, 101, 110, 99, 101], .bool false, .bool false, .bool false], .agg #[strv [99, 97, 115], .bool true, .bool true, .bool true], .agg #[strv [102, 97, 105, 108], .bool true, .bool true, .bool false], .agg #[strv [116, 97, 107, 101], .bool true, .bool false, .bool false], .agg #[strv [103, 105, 118, 101], .bool true, .bool false, .bool false], .agg #[strv [99, 111, 109, 101], .bool true, .bool true, .bool false], .agg #[strv [111, 117, 116], .bool true, .bool false, .bool false], .agg #[strv [102, 101, 110, 99, 101], .bool false, .bool false, .bool false], .agg #[strv [99, 114, 97, 115, 104], .bool false, .bool true, .bool false], .agg #[strv [102, 97, 117, 108, 116], .bool true, .bool false, .bool false]] [strv [], .bool false, .bool false, .bool false, strv [108, 111, 97, 100], .bool true, .bool true, .bool false, strv [111, 119, 110], .bool true, .bool true, .bool false, strv [115, 116, 111, 114, 101], .bool true, .bool true, .bool false, strv [102, 108, 117, 115, 104], .bool true, .bool false, .bool false, strv [111, 112, 116], .bool true, .bool false, .bool false, strv [115, 102, 101, 110, 99, 101], .bool false, .bool false, .bool false, strv [109, 102, 101, 110, 99, 101], .bool false, .bool false, .bool false, strv [99, 97, 115], .bool true, .bool true, .bool true, strv [102, 97, 105, 108], .bool true, .bool true, .bool false, strv [116, 97, 107, 101], .bool true, .bool false, .bool false, strv [103, 105, 118, 101], .bool true, .bool false, .bool false, strv [99, 111, 109, 101], .bool true, .bool true, .bool false, strv [111, 117, 116], .bool true, .bool false, .bool false, strv [102, 101, 110, 99, 101], .bool false, .bool false, .bool false, strv [99, 114, 97, 115, 104], .bool false, .bool true, .bool false, strv [102, 97, 117, 108, 116], .bool true, .bool false, .bool false] hF ⟨rfl, rfl, rfl, rfl, rfl, rfl, rfl, rfl, rfl, rfl, rfl, rfl, rfl, rfl, rfl, rfl, trivial⟩ (fun w => by kernel_rfl)) fun a hF => ?_
  refine ls <| s_blkA hF hS Tryd.sizeOf60 rfl rfl rfl rfl (one_cells rfl) .head fun w hS => ?_
  refine re <| ?_
  refine tn <| ?_
  refine wp_ret <| ?_
  obtain rfl := Option.some.inj hm
  exact r1c (vs := [strv [], .bool false, .bool false, .bool false, strv [108, 111, 97, 100], .bool true, .bool true, .bool false, strv [111, 119, 110], .bool true, .bool true, .bool false, strv [115, 116, 111, 114, 101], .bool true, .bool true, .bool false, strv [102, 108, 117, 115, 104], .bool true, .bool false, .bool false, strv [111, 112, 116], .bool true, .bool false, .bool false, strv [115, 102, 101, 110, 99, 101], .bool false, .bool false, .bool false, strv [109, 102, 101, 110, 99, 101], .bool false, .bool false, .bool false, strv [99, 97, 115], .bool true, .bool true, .bool true, strv [102, 97, 105, 108], .bool true, .bool true, .bool false, strv [116, 97, 107, 101], .bool true, .bool false, .bool false, strv [103, 105, 118, 101], .bool true, .bool false, .bool false, strv [99, 111, 109, 101], .bool true, .bool true, .bool false, strv [111, 117, 116], .bool true, .bool false, .bool false, strv [102, 101, 110, 99, 101], .bool false, .bool false, .bool false, strv [99, 114, 97, 115, 104], .bool false, .bool true, .bool false, strv [102, 97, 117, 108, 116], .bool true, .bool false, .bool false]) (.inl rfl) hF Tryd.results45 rfl Tryd.isAgg60 Tryd.sizeOf60 rfl ((St.ld hS).cellsB (.head _)) ⟨H, _, rfl, (show Enc.rep (α := (Arr 17 event_kind)) H [strv [], .bool false, .bool false, .bool false, strv [108, 111, 97, 100], .bool true, .bool true, .bool false, strv [111, 119, 110], .bool true, .bool true, .bool false, strv [115, 116, 111, 114, 101], .bool true, .bool true, .bool false, strv [102, 108, 117, 115, 104], .bool true, .bool false, .bool false, strv [111, 112, 116], .bool true, .bool false, .bool false, strv [115, 102, 101, 110, 99, 101], .bool false, .bool false, .bool false, strv [109, 102, 101, 110, 99, 101], .bool false, .bool false, .bool false, strv [99, 97, 115], .bool true, .bool true, .bool true, strv [102, 97, 105, 108], .bool true, .bool true, .bool false, strv [116, 97, 107, 101], .bool true, .bool false, .bool false, strv [103, 105, 118, 101], .bool true, .bool false, .bool false, strv [99, 111, 109, 101], .bool true, .bool true, .bool false, strv [111, 117, 116], .bool true, .bool false, .bool false, strv [102, 101, 110, 99, 101], .bool false, .bool false, .bool false, strv [99, 114, 97, 115, 104], .bool false, .bool true, .bool false, strv [102, 97, 117, 108, 116], .bool true, .bool false, .bool false] (⟨[(event_kind.mk [] false false false), (event_kind.mk [108, 111, 97, 100] true true false), (event_kind.mk [111, 119, 110] true true false), (event_kind.mk [115, 116, 111, 114, 101] true true false), (event_kind.mk [102, 108, 117, 115, 104] true false false), (event_kind.mk [111, 112, 116] true false false), (event_kind.mk [115, 102, 101, 110, 99, 101] false false false), (event_kind.mk [109, 102, 101, 110, 99, 101] false false false), (event_kind.mk [99, 97, 115] true true true), (event_kind.mk [102, 97, 105, 108] true true false), (event_kind.mk [116, 97, 107, 101] true false false), (event_kind.mk [103, 105, 118, 101] true false false), (event_kind.mk [99, 111, 109, 101] true true false), (event_kind.mk [111, 117, 116] true false false), (event_kind.mk [102, 101, 110, 99, 101] false false false), (event_kind.mk [99, 114, 97, 115, 104] false true false), (event_kind.mk [102, 97, 117, 108, 116] true false false)], rfl⟩ : (Arr 17 event_kind)) from (.cons (c := [strv [], .bool false, .bool false, .bool false]) ⟨_, _, rfl, rfl, ⟨_, _, rfl, rfl, ⟨_, _, rfl, rfl, rfl⟩⟩⟩ (.cons (c := [strv [108, 111, 97, 100], .bool true, .bool true, .bool false]) ⟨_, _, rfl, rfl, ⟨_, _, rfl, rfl, ⟨_, _, rfl, rfl, rfl⟩⟩⟩ (.cons (c := [strv [111, 119, 110], .bool true, .bool true, .bool false]) ⟨_, _, rfl, rfl, ⟨_, _, rfl, rfl, ⟨_, _, rfl, rfl, rfl⟩⟩⟩ (.cons (c := [strv [115, 116, 111, 114, 101], .bool true, .bool true, .bool false]) ⟨_, _, rfl, rfl, ⟨_, _, rfl, rfl, ⟨_, _, rfl, rfl, rfl⟩⟩⟩ (.cons (c := [strv [102, 108, 117, 115, 104], .bool true, .bool false, .bool false]) ⟨_, _, rfl, rfl, ⟨_, _, rfl, rfl, ⟨_, _, rfl, rfl, rfl⟩⟩⟩ (.cons (c := [strv [111, 112, 116], .bool true, .bool false, .bool false]) ⟨_, _, rfl, rfl, ⟨_, _, rfl, rfl, ⟨_, _, rfl, rfl, rfl⟩⟩⟩ (.cons (c := [strv [115, 102, 101, 110, 99, 101], .bool false, .bool false, .bool false]) ⟨_, _, rfl, rfl, ⟨_, _, rfl, rfl, ⟨_, _, rfl, rfl, rfl⟩⟩⟩ (.cons (c := [strv [109, 102, 101, 110, 99, 101], .bool false, .bool false, .bool false]) ⟨_, _, rfl, rfl, ⟨_, _, rfl, rfl, ⟨_, _, rfl, rfl, rfl⟩⟩⟩ (.cons (c := [strv [99, 97, 115], .bool true, .bool true, .bool true]) ⟨_, _, rfl, rfl, ⟨_, _, rfl, rfl, ⟨_, _, rfl, rfl, rfl⟩⟩⟩ (.cons (c := [strv [102, 97, 105, 108], .bool true, .bool true, .bool false]) ⟨_, _, rfl, rfl, ⟨_, _, rfl, rfl, ⟨_, _, rfl, rfl, rfl⟩⟩⟩ (.cons (c := [strv [116, 97, 107, 101], .bool true, .bool false, .bool false]) ⟨_, _, rfl, rfl, ⟨_, _, rfl, rfl, ⟨_, _, rfl, rfl, rfl⟩⟩⟩ (.cons (c := [strv [103, 105, 118, 101], .bool true, .bool false, .bool false]) ⟨_, _, rfl, rfl, ⟨_, _, rfl, rfl, ⟨_, _, rfl, rfl, rfl⟩⟩⟩ (.cons (c := [strv [99, 111, 109, 101], .bool true, .bool true, .bool false]) ⟨_, _, rfl, rfl, ⟨_, _, rfl, rfl, ⟨_, _, rfl, rfl, rfl⟩⟩⟩ (.cons (c := [strv [111, 117, 116], .bool true, .bool false, .bool false]) ⟨_, _, rfl, rfl, ⟨_, _, rfl, rfl, ⟨_, _, rfl, rfl, rfl⟩⟩⟩ (.cons (c := [strv [102, 101, 110, 99, 101], .bool false, .bool false, .bool false]) ⟨_, _, rfl, rfl, ⟨_, _, rfl, rfl, ⟨_, _, rfl, rfl, rfl⟩⟩⟩ (.cons (c := [strv [99, 114, 97, 115, 104], .bool false, .bool true, .bool false]) ⟨_, _, rfl, rfl, ⟨_, _, rfl, rfl, ⟨_, _, rfl, rfl, rfl⟩⟩⟩ (.cons (c := [strv [102, 97, 117, 108, 116], .bool true, .bool false, .bool false]) ⟨_, _, rfl, rfl, ⟨_, _, rfl, rfl, ⟨_, _, rfl, rfl, rfl⟩⟩⟩ .nil)))))))))))))))))), (Ext.refl _ _), (St.le hS), hS.keep⟩

set_option maxRecDepth 100000 in
theorem words_Text_c {N : Nat} {w0 : World} {H : PH} (hH : H.le w0) (hT : Tab H) {p1 : Int} {r : Str} (hm : words_Text N p1 = some r) : Tot Tryd.prog 47 #[.int .i64 p1] w0 (fun v w' => v = strv r ∧ Keep Nil w0 w') := by
  unfold words_Text at hm
  refine fn0 (args := [.int .i64 p1]) (F := [(0, .int .i64 p1)]) Tryd.func47 rfl Tryd.ntmps47 rfl rfl fun a hF => ?_
  have hS : St w0 Nil [H] [] w0 := start1 hH
  refine th <| ?_
  refine rg <| ?_
  refine ls <| q1 hF rfl (e_asg hF rfl) fun a hF => ?_
  refine re <| ?_
  refine tn <| th <| ?_
  replace hm := bind_some hm
  obtain ⟨r2, h3, hm⟩ := hm
  refine rg <| ?_
  refine ls <| q1 hF rfl (e_move hF rfl) fun a hF => ?_
  refine ls <| c1 hF rfl Tryd.call60 (itoaM_c (hp_le _) (Tab.mono hT (St.up hS)) h3) ⟨rfl, trivial⟩ (fun v w a hR hF => ?_)
  obtain ⟨rfl, hk⟩ := hR
  replace hS := hS.pass hk
  clear hk
  refine ls <| q1 hF rfl (e_asg hF rfl) fun a hF => ?_
  refine re <| ?_
  refine tn <| ?_
  refine wp_ret <| ?_
  obtain rfl := Option.some.inj hm
  exact r1 hF Tryd.results47 rfl ⟨rfl, hS.keep⟩

set_option maxRecDepth 100000 in
theorem event_Show_c {N : Nat} {w0 : World} {H : PH} (hH : H.le w0) (hT : Tab H) {p1 : api_Event} {r : Str} (hm : event_Show N p1 = some r) : Tot Tryd.prog 20 #[.agg #[.int .i64 p1.Kind, .int .i64 p1.T, .int .i64 p1.A, .int .i64 p1.N, .int .i64 p1.M]] w0 (fun v w' => v = strv r ∧ Keep Nil w0 w') := by
  unfold event_Show at hm
  refine fn0 (args := [.agg #[.int .i64 p1.Kind, .int .i64 p1.T, .int .i64 p1.A, .int .i64 p1.N, .int .i64 p1.M]]) (F := [(0, .agg #[.int .i64 p1.Kind, .int .i64 p1.T, .int .i64 p1.A, .int .i64 p1.N, .int .i64 p1.M])]) Tryd.func20 rfl Tryd.ntmps20 rfl rfl fun a hF => ?_
  have hS : St w0 Nil [H] [] w0 := start1 hH
  refine th <| ?_
  refine rg <| ?_
  refine ls <| a_box (cs := [.int .i64 p1.Kind, .int .i64 p1.T, .int .i64 p1.A, .int .i64 p1.N, .int .i64 p1.M].toArray) hF rfl hS rfl rfl fun b2 w a hS hF => ?_
  refine ls <| q1 hF rfl (e_asg hF rfl) fun a hF => ?_
  refine re <| ?_
  refine tn <| th <| th <| ?_
  replace hm := bind_some hm
  obtain ⟨r3, h4, hm⟩ := hm
  refine rg <| ?_
  refine ls <| q1 hF rfl (e_fa hF fa23_0 rfl) fun a hF => ?_
  refine ls <| q1 hF rfl (e_ld hF Tryd.isAgg3 rfl ((St.ld hS).cellB (.head _) rfl)) fun a hF => ?_
  refine ls <| c1 hF rfl Tryd.call44 (event_known_c (hp_le _) h4) ⟨rfl, trivial⟩ (fun v w a hR hF => ?_)
  obtain ⟨rfl, hk⟩ := hR
  replace hS := hS.pass hk
  clear hk
  refine ls <| q1 hF rfl (e_not hF rfl) fun a hF => ?_
  refine re <| ?_
  rcases bdich r3 with hb5 | hb5
  ·
    replace hm := ite_t hm hb5
    refine tn <| cfv hF rfl (by rw [hb5]; rfl) <| wp_skip <| ?_
    refine tn <| th <| midK (fun a w => ∃ (vA3 : event_kind) (HA1 : PH) (bA2 : Nat), (event_Show_j1 N p1) vA3 = some r ∧ Ext w0 H HA1 ∧ Fr 53 [(1, .pointer (some ⟨b2, 0, none⟩)), (3, .pointer (some ⟨bA2, 0, none⟩))] a ∧ St w0 Nil [HA1] [blk b2 (.cells [.int .i64 p1.Kind, .int .i64 p1.T, .int .i64 p1.A, .int .i64 p1.N, .int .i64 p1.M].toArray 23 (0, 0)), blk bA2 (.cells [strv vA3.name, .bool vA3.a, .bool vA3.n, .bool vA3.m].toArray 59 (0, 0))] w) ?_ ?_
    ·
      replace hm := bind_some hm
      obtain ⟨r6, h7, hm⟩ := hm
      replace hm := bind_some hm
      obtain ⟨x14, h15, hm⟩ := hm
      refine rdS 5 hS wide fun w hS => ?_
      refine d1 (i := 1) rfl (by kernel_rfl) (by kernel_rfl) (St.ld hS) hF rfl (fun _ _ _ h => h) (fun w hl => (e_fa hF fa23_0 rfl)) fun a hF => ?_
      refine d1 (i := 2) rfl (by kernel_rfl) (by kernel_rfl) (St.ld hS) hF rfl (fun _ _ _ h => h) (fun w hl => (e_ld hF Tryd.isAgg3 rfl (hl.cellB (.head _) rfl))) fun a hF => ?_
      refine da2 (i := 0) (j := 4) (by kernel_rfl) ?_ ?_
      ·
        refine di (i := 0) rfl <| c1 hF rfl Tryd.call45 (event_kinds_c (St.le hS) h7) trivial (fun v w a hR hF => ?_)
        obtain ⟨H10, cs11, rfl, g12, hx8, hl9, hk⟩ := hR
        obtain ⟨hS, hx8⟩ := And.intro (St.passH hS hk hx8 hl9) (St.extc hS hx8)
        clear hk
        have hv13 : Rows H10 cs11 r6.l := g12
        refine ⟨fun _ => (St.ldsX hS hx8.sub (fun _ h => h)), ?_⟩
        obtain ⟨c16, g17, hl18⟩ := Rows.getI hv13 h15
        obtain rfl := event_kind_open g17
        refine d1 (i := 3) rfl (by kernel_rfl) (by kernel_rfl) (St.ldsX hS hx8.sub (fun _ h => h)) hF rfl (fun _ _ _ h => h) (fun w hl => (e_ixA hF Tryd.runUnderlying60 Tryd.sizeOf59 Tryd.isAgg59 rfl rfl r6.h h15 rfl hl18)) fun a hF => ?_
        refine da1 (i := 4) (by kernel_rfl) ?_
        refine di (i := 4) rfl <| a_alloc (cs := [strv [], .bool false, .bool false, .bool false].toArray) hF rfl hS Tryd.zeroValue59 rfl fun b19 w a hS hF => ?_
        refine ⟨fun _ => (St.ldsX hS hx8.sub (fun _ h => (.tail _ h))), ?_⟩
        refine da1 (i := 5) (by kernel_rfl) ?_
        refine di (i := 5) rfl <| s_blkA hF hS Tryd.sizeOf59 rfl rfl rfl rfl (one_cells rfl) .head fun w hS => ?_
        refine ⟨fun h => absurd rfl h, ?_⟩
        refine de (by kernel_rfl) <| ?_
        refine tn <| ?_
        replace hS := hS.pickL (.cons (.tail .head) (.cons .head .nil))
        exact ⟨x14, H10, b19, hm, hx8, hF.has ⟨rfl, rfl, trivial⟩, hS⟩
      ·
        refine di (i := 4) rfl <| a_alloc (cs := [strv [], .bool false, .bool false, .bool false].toArray) hF rfl hS Tryd.zeroValue59 rfl fun b19 w a hS hF => ?_
        refine ⟨fun _ => (St.ldsX hS (fun _ _ h => h) (fun _ h => (.tail _ h))), ?_⟩
        refine da1 (i := 0) (by kernel_rfl) ?_
        refine di (i := 0) rfl <| c1 hF rfl Tryd.call45 (event_kinds_c (St.le hS) h7) trivial (fun v w a hR hF => ?_)
        obtain ⟨H10, cs11, rfl, g12, hx8, hl9, hk⟩ := hR
        obtain ⟨hS, hx8⟩ := And.intro (St.passH hS hk hx8 hl9) (St.extc hS hx8)
        clear hk
        have hv13 : Rows H10 cs11 r6.l := g12
        refine ⟨fun _ => (St.ldsX hS hx8.sub (fun _ h => (.tail _ h))), ?_⟩
        obtain ⟨c16, g17, hl18⟩ := Rows.getI hv13 h15
        obtain rfl := event_kind_open g17
        refine d1 (i := 3) rfl (by kernel_rfl) (by kernel_rfl) (St.ldsX hS hx8.sub (fun _ h => (.tail _ h))) hF rfl (fun _ _ _ h => h) (fun w hl => (e_ixA hF Tryd.runUnderlying60 Tryd.sizeOf59 Tryd.isAgg59 rfl rfl r6.h h15 rfl hl18)) fun a hF => ?_
        refine da1 (i := 5) (by kernel_rfl) ?_
        refine di (i := 5) rfl <| s_blkA hF hS Tryd.sizeOf59 rfl rfl rfl rfl (one_cells rfl) .head fun w hS => ?_
        refine ⟨fun h => absurd rfl h, ?_⟩
        refine de (by kernel_rfl) <| ?_
        refine tn <| ?_
        replace hS := hS.pickL (.cons (.tail .head) (.cons .head .nil))
        exact ⟨x14, H10, b19, hm, hx8, hF.has ⟨rfl, rfl, trivial⟩, hS⟩
    clear hm hF hS
    rintro a w ⟨vA3, HA1, bA2, hm, hxHA1, hF, hS⟩
    unfold event_Show_j1 at hm
    refine th <| ?_
    replace hm := bind_some hm
    obtain ⟨r20, h21, hm⟩ := hm
    replace hm := bind_some hm
    obtain ⟨s22, h23, hm⟩ := hm
    replace hm := bind_some hm
    obtain ⟨s24, h25, hm⟩ := hm
    refine rdS 8 hS wide fun w hS => ?_
    refine d1 (i := 0) rfl (by kernel_rfl) (by kernel_rfl) (St.ld hS) hF rfl (fun _ _ _ h => h) (fun w hl => (e_fa hF fa23_1 rfl)) fun a hF => ?_
    refine d1 (i := 1) rfl (by kernel_rfl) (by kernel_rfl) (St.ld hS) hF rfl (fun _ _ _ h => h) (fun w hl => (e_ld hF Tryd.isAgg3 rfl (hl.cellB (.head _) rfl))) fun a hF => ?_
    refine d1 (i := 4) rfl (by kernel_rfl) (by kernel_rfl) (St.ld hS) hF rfl (fun _ _ _ h => h) (fun w hl => (e_fa hF fa59_0 rfl)) fun a hF => ?_
    refine d1 (i := 5) rfl (by kernel_rfl) (by kernel_rfl) (St.ld hS) hF rfl (fun _ _ _ h => h) (fun w hl => (e_ld hF Tryd.isAgg9 rfl (hl.cellB (.tail _ (.head _)) rfl))) fun a hF => ?_
    refine da1 (i := 2) (by kernel_rfl) ?_
    refine di (i := 2) rfl <| c1 hF rfl Tryd.call47 (words_Text_c (hp_le _) (Tab.mono (Tab.mono hT hxHA1.sub) (St.up hS)) h21) ⟨rfl, trivial⟩ (fun v w a hR hF => ?_)
    obtain ⟨rfl, hk⟩ := hR
    replace hS := hS.pass hk
    clear hk
    refine ⟨fun _ => (St.ld hS), ?_⟩
    refine d1 (i := 3) rfl (by kernel_rfl) (by kernel_rfl) (St.ld hS) hF rfl (fun _ _ _ h => h) (fun w hl => (e_catU hF rfl rfl h23)) fun a hF => ?_
    refine d1 (i := 6) rfl (by kernel_rfl) (by kernel_rfl) (St.ld hS) hF rfl (fun _ _ _ h => h) (fun w hl => (e_catU hF rfl rfl h25)) fun a hF => ?_
    refine d1 (i := 7) rfl (by kernel_rfl) (by kernel_rfl) (St.ld hS) hF rfl (fun _ _ _ h => h) (fun w hl => (e_asg hF rfl)) fun a hF => ?_
    refine de (by kernel_rfl) <| ?_
    refine tn <| th <| th <| ?_
    refine rg <| ?_
    refine ls <| q1 hF rfl (e_fa hF fa59_1 rfl) fun a hF => ?_
    refine ls <| q1 hF rfl (e_ld hF Tryd.isAgg4 rfl ((St.ld hS).cellB (.tail _ (.head _)) rfl)) fun a hF => ?_
    refine ls <| q1 hF rfl (e_fa hF fa23_2 rfl) fun a hF => ?_
    refine ls <| q1 hF rfl (e_ld hF Tryd.isAgg3 rfl ((St.ld hS).cellB (.head _) rfl)) fun a hF => ?_
    refine ls <| q1 hF rfl (e_bldK [.bool vA3.a, .int .i64 p1.A] [.bool vA3.a, .int .i64 p1.A] hF ⟨rfl, rfl, trivial⟩ (fun w => by kernel_rfl)) fun a hF => ?_
    refine ls <| q1 hF rfl (e_fa hF fa59_2 rfl) fun a hF => ?_
    refine ls <| q1 hF rfl (e_ld hF Tryd.isAgg4 rfl ((St.ld hS).cellB (.tail _ (.head _)) rfl)) fun a hF => ?_
    refine ls <| q1 hF rfl (e_fa hF fa23_3 rfl) fun a hF => ?_
    refine ls <| q1 hF rfl (e_ld hF Tryd.isAgg3 rfl ((St.ld hS).cellB (.head _) rfl)) fun a hF => ?_
    refine ls <| q1 hF rfl (e_bldK [.bool vA3.n, .int .i64 p1.N] [.bool vA3.n, .int .i64 p1.N] hF ⟨rfl, rfl, trivial⟩ (fun w => by kernel_rfl)) fun a hF => ?_
    refine ls <| q1 hF rfl (e_fa hF fa59_3 rfl) fun a hF => ?_
    refine ls <| q1 hF rfl (e_ld hF Tryd.isAgg4 rfl ((St.ld hS).cellB (.tail _ (.head _)) rfl)) fun a hF => ?_
    refine ls <| q1 hF rfl (e_fa hF fa23_4 rfl) fun a hF => ?_
    refine ls <| q1 hF rfl (e_ld hF Tryd.isAgg3 rfl ((St.ld hS).cellB (.head _) rfl)) fun a hF => ?_
    refine ls <| q1 hF rfl (e_bldK [.bool vA3.m, .int .i64 p1.M] [.bool vA3.m, .int .i64 p1.M] hF ⟨rfl, rfl, trivial⟩ (fun w => by kernel_rfl)) fun a hF => ?_
    refine ls <| a_bsl (e := 64) (sz := 2) [.bool vA3.a, .int .i64 p1.A, .bool vA3.n, .int .i64 p1.N, .bool vA3.m, .int .i64 p1.M] hF rfl hS rfl rfl rfl (fun w => by kernel_rfl) fun b27 w a hS hF => ?_
    have hv26 : Rows (α := S_is_n) HA1 [.bool vA3.a, .int .i64 p1.A, .bool vA3.n, .int .i64 p1.N, .bool vA3.m, .int .i64 p1.M] ([(S_is_n.mk vA3.a p1.A), (S_is_n.mk vA3.n p1.N), (S_is_n.mk vA3.m p1.M)] : List S_is_n) := (.cons (c := [.bool vA3.a, .int .i64 p1.A]) ⟨_, _, rfl, rfl, rfl⟩ (.cons (c := [.bool vA3.n, .int .i64 p1.N]) ⟨_, _, rfl, rfl, rfl⟩ (.cons (c := [.bool vA3.m, .int .i64 p1.M]) ⟨_, _, rfl, rfl, rfl⟩ .nil)))
    refine ls <| q1 hF rfl (e_lenL (α := S_is_n) (xs := ([(S_is_n.mk vA3.a p1.A), (S_is_n.mk vA3.n p1.N), (S_is_n.mk vA3.m p1.M)] : List S_is_n)) hF Tryd.runUnderlying65 rfl) fun a hF => ?_
    refine ls <| q1 hF rfl (e_move hF rfl) fun a hF => ?_
    refine re <| ?_
    refine tn <| midK (fun a w => ∃ (vA4 : Str), event_Show_j2 vA4 = some r ∧ Fr 53 [(4, strv vA4)] a ∧ St w0 Nil [HA1] [] w) ?_ ?_
    ·
      replace hS := hS.pickL (.cons .head .nil)
      refine wp_block <| lp (α := Nat × Str × Int) (fun (gh : Nat × Str × Int) a w => match gh with | (nn3, vB1, vB2) => (event_Show_l3 N event_Show_j2 p1 vA3) nn3 vB1 vB2 = some r ∧ Fr 53 [(4, strv vB1), (37, .slice (some ⟨b27, 0, none⟩) ([(S_is_n.mk vA3.a p1.A), (S_is_n.mk vA3.n p1.N), (S_is_n.mk vA3.m p1.M)] : List S_is_n).length 3), (38, .int .i64 (([(S_is_n.mk vA3.a p1.A), (S_is_n.mk vA3.n p1.N), (S_is_n.mk vA3.m p1.M)] : List S_is_n).length : Int)), (39, .int .i64 vB2)] a ∧ St w0 Nil [HA1] [sla 64 2 (some ⟨b27, 0, none⟩) ([(S_is_n.mk vA3.a p1.A), (S_is_n.mk vA3.n p1.N), (S_is_n.mk vA3.m p1.M)] : List S_is_n).length 3 [.bool vA3.a, .int .i64 p1.A, .bool vA3.n, .int .i64 p1.N, .bool vA3.m, .int .i64 p1.M]] w) (fun gh => gh.1) (N, s24, 0) ⟨hm, hF.has ⟨rfl, rfl, rfl, rfl, trivial⟩, hS⟩ ?_
      clear hm hF hS
      rintro ⟨nn3, vB1, vB2⟩ a w ⟨hm, hF, hS⟩
      obtain _ | nn3 := nn3
      · simp [event_Show_l3] at hm
      rw [event_Show_l3] at hm
      refine th <| ?_
      refine rg <| ?_
      refine ls <| q1 hF rfl (e_lss hF rfl rfl) fun a hF => ?_
      refine re <| ?_
      rcases bdich (decide (vB2 < (([(S_is_n.mk vA3.a p1.A), (S_is_n.mk vA3.n p1.N), (S_is_n.mk vA3.m p1.M)] : List S_is_n).length : Int))) with hb29 | hb29
      ·
        replace hm := itp_t hm hb29
        refine tn <| th <| ctv hF rfl hb29 <| wp_skip <| ?_
        refine tn <| th <| midK (fun a w => ∃ (vC1 : Str), (event_Show_j4 (event_Show_l3 N event_Show_j2 p1 vA3 nn3) vB2) vC1 = some r ∧ Fr 53 [(4, strv vC1), (37, .slice (some ⟨b27, 0, none⟩) ([(S_is_n.mk vA3.a p1.A), (S_is_n.mk vA3.n p1.N), (S_is_n.mk vA3.m p1.M)] : List S_is_n).length 3), (38, .int .i64 (([(S_is_n.mk vA3.a p1.A), (S_is_n.mk vA3.n p1.N), (S_is_n.mk vA3.m p1.M)] : List S_is_n).length : Int)), (39, .int .i64 vB2)] a ∧ St w0 Nil [HA1] [sla 64 2 (some ⟨b27, 0, none⟩) ([(S_is_n.mk vA3.a p1.A), (S_is_n.mk vA3.n p1.N), (S_is_n.mk vA3.m p1.M)] : List S_is_n).length 3 [.bool vA3.a, .int .i64 p1.A, .bool vA3.n, .int .i64 p1.N, .bool vA3.m, .int .i64 p1.M]] w) ?_ ?_
        ·
          refine wp_block <| th <| ?_
          replace hm := bind_some hm
          obtain ⟨x30, h31, hm⟩ := hm
          have ho32 := Rd.oaI (hS.rdO (.head _)) hv26 (by decide) h31
          obtain ⟨c33, g34, hl35⟩ := Rows.getI hv26 h31
          obtain rfl := S_is_n_open g34
          refine rg <| ?_
          refine ls <| q1 hF rfl (e_iaI hF Tryd.runUnderlying65 Tryd.sizeOf64 rfl rfl h31 ho32) fun a hF => ?_
          refine ls <| q1 hF rfl (e_ldA hF Tryd.isAgg64 Tryd.sizeOf64 rfl rfl ((St.ld hS).elsO (.head _) hl35)) fun a hF => ?_
          refine ls <| a_alloc (cs := [.bool false, .int .i64 0].toArray) hF rfl hS Tryd.zeroValue64 rfl fun b36 w a hS hF => ?_
          refine ls <| s_blkA hF hS Tryd.sizeOf64 rfl rfl rfl rfl (one_cells rfl) .head fun w hS => ?_
          refine re <| ?_
          refine tn <| th <| ?_
          refine rg <| ?_
          refine ls <| q1 hF rfl (e_fa hF fa64_0 rfl) fun a hF => ?_
          refine ls <| q1 hF rfl (e_ld hF Tryd.isAgg4 rfl ((St.ld hS).cellB (.head _) rfl)) fun a hF => ?_
          refine re <| ?_
          rcases bdich x30.is' with hb37 | hb37
          ·
            replace hm := ite_t hm hb37
            refine tn <| ctv hF rfl hb37 <| ?_
            replace hm := bind_some hm
            obtain ⟨r38, h39, hm⟩ := hm
            replace hm := bind_some hm
            obtain ⟨s40, h41, hm⟩ := hm
            replace hm := bind_some hm
            obtain ⟨s42, h43, hm⟩ := hm
            refine rg <| ?_
            refine ls <| q1 hF rfl (e_move hF rfl) fun a hF => ?_
            refine ls <| q1 hF rfl (e_fa hF fa64_1 rfl) fun a hF => ?_
            refine ls <| q1 hF rfl (e_ld hF Tryd.isAgg3 rfl ((St.ld hS).cellB (.head _) rfl)) fun a hF => ?_
            refine ls <| c1 hF rfl Tryd.call47 (words_Text_c (hp_le _) (Tab.mono (Tab.mono hT hxHA1.sub) (St.up hS)) h39) ⟨rfl, trivial⟩ (fun v w a hR hF => ?_)
            obtain ⟨rfl, hk⟩ := hR
            replace hS := hS.pass hk
            clear hk
            refine ls <| q1 hF rfl (e_catU hF rfl rfl h41) fun a hF => ?_
            refine ls <| q1 hF rfl (e_catU hF rfl rfl h43) fun a hF => ?_
            refine ls <| q1 hF rfl (e_asg hF rfl) fun a hF => ?_
            refine re <| ?_
            refine bn <| tn <| ?_
            replace hS := hS.pickL (.cons (.tail .head) .nil)
            exact ⟨s42, hm, hF.has ⟨rfl, rfl, rfl, rfl, trivial⟩, hS⟩
          ·
            replace hm := ite_f hm hb37
            refine tn <| cfv hF rfl hb37 <| wp_skip <| ?_
            refine bn <| tn <| ?_
            replace hS := hS.pickL (.cons (.tail .head) .nil)
            exact ⟨vB1, hm, hF.has ⟨rfl, rfl, rfl, rfl, trivial⟩, hS⟩
        clear hm hF hS
        rintro a w ⟨vC1, hm, hF, hS⟩
        unfold event_Show_j4 at hm
        refine rg <| ?_
        refine ls <| q1 hF rfl (e_add hF rfl rfl) fun a hF => ?_
        refine ls <| q1 hF rfl (e_move hF rfl) fun a hF => ?_
        refine re <| ?_
        refine tn <| ?_
        exact ⟨(nn3, vC1, (IntKind.i64.wrap (vB2 + 1))), ⟨hm, hF.has ⟨rfl, rfl, rfl, rfl, trivial⟩, hS⟩, Nat.lt_succ_self _⟩
      ·
        replace hm := itp_f hm hb29
        refine tn <| th <| cfv hF rfl hb29 <| ?_
        refine wp_exit <| tx <| tx <| bx <| ?_
        refine tn <| ?_
        replace hS := hS.pickL .nil
        exact ⟨vB1, hm, hF.has ⟨rfl, trivial⟩, hS⟩
    clear hm hF hS
    rintro a w ⟨vA4, hm, hF, hS⟩
    unfold event_Show_j2 at hm
    refine th <| ?_
    refine rg <| ?_
    refine ls <| q1 hF rfl (e_move hF rfl) fun a hF => ?_
    refine ls <| q1 hF rfl (e_asg hF rfl) fun a hF => ?_
    refine re <| ?_
    refine tn <| ?_
    refine wp_ret <| ?_
    obtain rfl := Option.some.inj hm
    exact r1 hF Tryd.results20 rfl ⟨rfl, hS.keep⟩
  ·
    replace hm := ite_f hm hb5
    refine tn <| ctv hF rfl (by rw [hb5]; rfl) <| th <| ?_
    refine rg <| ?_
    refine ls <| q1 hF rfl (e_asg hF rfl) fun a hF => ?_
    refine re <| ?_
    refine tn <| ?_
    refine wp_ret <| tr <| ?_
    obtain rfl := Option.some.inj hm
    exact r1 hF Tryd.results20 rfl ⟨rfl, hS.keep⟩
end Go.LM.ET
