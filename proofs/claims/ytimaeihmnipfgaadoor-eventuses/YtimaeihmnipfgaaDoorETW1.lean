/- Walks, lifted by program. No condition beyond each theorem's own premises. -/
import Derived.Test.YtimaeihmnipfgaaDoorETB
namespace Go.LM.ET
open Go Go.LL Go.MD Go.LM Go.Proofs Go.MD.ET

set_option maxHeartbeats 4000000 in
set_option maxRecDepth 100000 in
theorem event_Uses_c {N : Nat} {w0 : World} {H : PH} (hH : H.le w0) {p1 : api_Event} {oa3 : Option Addr} {cap4 : Nat} {p2 : (List Int)} (hc5 : p2.length ≤ cap4) (hr6 : SR H oa3 p2) {p7 : Int} {r : (List api_Use)} (hm : event_Uses N p1 p2 p7 = some r) : Tot Tryd.prog 14 #[.agg #[.int .i64 p1.Kind, .int .i64 p1.T, .int .i64 p1.A, .int .i64 p1.N, .int .i64 p1.M], .slice oa3 p2.length cap4, .int .i64 p7] w0 (fun v w' => ∃ (oa0 : Option Addr) (cap0 : Nat) (vs0 : List Value), v = .slice oa0 r.length cap0 ∧ (∀ h, Rows h vs0 r) ∧ Fresh w0 (sla 27 3 oa0 r.length cap0 vs0) w') := by
  unfold event_Uses at hm
  refine fn0 (args := [.agg #[.int .i64 p1.Kind, .int .i64 p1.T, .int .i64 p1.A, .int .i64 p1.N, .int .i64 p1.M], .slice oa3 p2.length cap4, .int .i64 p7]) (F := [(0, .agg #[.int .i64 p1.Kind, .int .i64 p1.T, .int .i64 p1.A, .int .i64 p1.N, .int .i64 p1.M]), (1, .slice oa3 p2.length cap4), (2, .int .i64 p7)]) Tryd.func14 rfl Tryd.ntmps14 rfl rfl fun a hF => ?_
  have hS : St w0 Nil [H] [] w0 := start1 hH
  refine th <| ?_
  refine rg <| ?_
  refine ls <| a_box (cs := [.int .i64 p1.Kind, .int .i64 p1.T, .int .i64 p1.A, .int .i64 p1.N, .int .i64 p1.M].toArray) hF rfl hS rfl rfl fun b8 w a hS hF => ?_
  refine ls <| q1 hF rfl (e_asg hF rfl) fun a hF => ?_
  refine re <| ?_
  refine tn <| th <| ?_
  refine rg <| ?_
  refine ls <| q1 hF rfl (e_asg hF rfl) fun a hF => ?_
  refine re <| ?_
  refine tn <| th <| th <| ?_
  refine rg <| ?_
  refine ls <| q1 hF rfl (e_fa hF fa23_0 rfl) fun a hF => ?_
  refine ls <| q1 hF rfl (e_ld hF Tryd.isAgg3 rfl ((St.ld hS).cellB (.head _) rfl)) fun a hF => ?_
  refine re <| ?_
  refine tn <| midK (fun a w => ∃ (vA2 : (List api_Use)) (HA1 : PH) (oaA3 : Option Addr) (capA4 : Nat) (vsA5 : List Value), event_Uses_j1 vA2 = some r ∧ Ext w0 H HA1 ∧ Fr 75 [(7, .slice oaA3 vA2.length capA4)] a ∧ St w0 Nil [HA1] [sla 27 3 oaA3 vA2.length capA4 vsA5] w ∧ Rows HA1 vsA5 vA2) ?_ ?_
  ·
    refine wp_block <| th <| wp_block <| th <| wp_block <| th <| midK (fun a w => ∃ (vB2 : api_Event) (vB3 : (List api_Use)) (HB1 : PH) (oaB4 : Option Addr) (capB5 : Nat) (vsB6 : List Value), (event_Uses_j2 event_Uses_j1) vB2 vB3 = some r ∧ Ext w0 H HB1 ∧ Fr 75 [(3, .pointer (some ⟨b8, 0, none⟩)), (7, .slice oaB4 vB3.length capB5)] a ∧ St w0 Nil [HB1] [blk b8 (.cells [.int .i64 vB2.Kind, .int .i64 vB2.T, .int .i64 vB2.A, .int .i64 vB2.N, .int .i64 vB2.M].toArray 23 (0, 0)), sla 27 3 oaB4 vB3.length capB5 vsB6] w ∧ Rows HB1 vsB6 vB3) ?_ ?_
    ·
      refine wp_block <| th <| wp_block <| th <| wp_block <| th <| th <| th <| th <| ?_
      refine rg <| ?_
      refine ls <| q1 hF rfl (e_eql hF rfl rfl) fun a hF => ?_
      refine ls <| q1 hF rfl (e_asg hF rfl) fun a hF => ?_
      refine re <| ?_
      refine tn <| midK (fun a w => ∃ (vC6 : Bool) (HC1 : PH) (oaC2 : Option Addr) (capC3 : Nat), (event_Uses_j3 N event_Uses_j1 (event_Uses_j2 event_Uses_j1) p1 p2 p7) vC6 = some r ∧ Ext w0 H HC1 ∧ Fr 75 [(1, .slice oaC2 p2.length capC3), (2, .int .i64 p7), (3, .pointer (some ⟨b8, 0, none⟩)), (7, .slice none 0 0), (9, .int .i64 p1.Kind), (10, .bool vC6)] a ∧ St w0 Nil [HC1] [blk b8 (.cells [.int .i64 p1.Kind, .int .i64 p1.T, .int .i64 p1.A, .int .i64 p1.N, .int .i64 p1.M].toArray 23 (0, 0))] w ∧ p2.length ≤ capC3 ∧ SR HC1 oaC2 p2) ?_ ?_
      ·
        rcases bdich (decide (p1.Kind = 1)) with hb9 | hb9
        ·
          replace hm := itp_t hm hb9
          refine ctv hF rfl hb9 <| wp_skip <| ?_
          refine tn <| ?_
          exact ⟨(decide (p1.Kind = 1)), H, oa3, cap4, hm, (Ext.refl _ _), hF.has ⟨rfl, rfl, rfl, rfl, rfl, rfl, trivial⟩, hS, hc5, hr6⟩
        ·
          replace hm := itp_f hm hb9
          refine cfv hF rfl hb9 <| ?_
          refine rg <| ?_
          refine ls <| q1 hF rfl (e_eql hF rfl rfl) fun a hF => ?_
          refine ls <| q1 hF rfl (e_asg hF rfl) fun a hF => ?_
          refine re <| ?_
          refine tn <| ?_
          exact ⟨(decide (p1.Kind = 9)), H, oa3, cap4, hm, (Ext.refl _ _), hF.has ⟨rfl, rfl, rfl, rfl, rfl, rfl, trivial⟩, hS, hc5, hr6⟩
      clear hm hF hS
      rintro a w ⟨vC6, HC1, oaC2, capC3, hm, hxHC1, hF, hS, hcC4, hrC5⟩
      unfold event_Uses_j3 at hm
      rcases bdich vC6 with hb10 | hb10
      ·
        replace hm := ite_t hm hb10
        refine ctv hF rfl hb10 <| ?_
        refine wp_exit <| tx <| tx <| bx <| ?_
        refine tn <| th <| ?_
        replace hm := bind_some hm
        obtain ⟨l14, h15, hm⟩ := hm
        refine rg <| ?_
        refine ls <| q1 hF rfl (e_move hF rfl) fun a hF => ?_
        refine ls <| q1 hF rfl (e_fa hF fa23_2 rfl) fun a hF => ?_
        refine ls <| q1 hF rfl (e_ld hF Tryd.isAgg3 rfl ((St.ld hS).cellB (.head _) rfl)) fun a hF => ?_
        refine ls <| q1 hF rfl (e_bldK [.int .i64 1, .int .i64 p1.A] [.int .i64 1, .int .i64 p1.A, .bool false] hF ⟨rfl, rfl, trivial⟩ (fun w => by kernel_rfl)) fun a hF => ?_
        refine ls <| a_bsl (e := 27) (sz := 3) [.int .i64 1, .int .i64 p1.A, .bool false] hF rfl hS rfl rfl rfl (fun w => by kernel_rfl) fun b12 w a hS hF => ?_
        have hv11 : Rows (α := api_Use) HC1 [.int .i64 1, .int .i64 p1.A, .bool false] ([(api_Use.mk 1 p1.A false)] : List api_Use) := (.cons (c := [.int .i64 1, .int .i64 p1.A, .bool false]) ⟨_, _, rfl, rfl, ⟨_, _, rfl, rfl, rfl⟩⟩ .nil)
        replace hS := St.nilS hS 27 3
        refine ls <| m_app (α := api_Use) (xs := []) (ys := ([(api_Use.mk 1 p1.A false)] : List api_Use)) hF rfl hS Tryd.underlying29 info27 rfl (by decide) rfl rfl rfl (.head _) .nil (hS.rdO (.tail _ (.head _))) hv11 h15 fun oa16 cap17 vs18 w a hv19 hU hF => ?_
        replace hS := hU _ .head
        clear hU
        replace hS := hS.drop (.tail .head)
        refine ls <| q1 hF rfl (e_asg hF rfl) fun a hF => ?_
        refine re <| ?_
        refine tn <| ?_
        refine wp_exit <| bo rfl <| tx <| bo rfl <| tx <| bo rfl <| tx <| bo rfl <| tx <| bx <| ?_
        refine tn <| ?_
        replace hS := hS.pickL (.cons .head .nil)
        exact ⟨l14, HC1, oa16, cap17, vs18, hm, hxHC1, hF.has ⟨rfl, trivial⟩, hS, hv19⟩
      ·
        replace hm := ite_f hm hb10
        refine cfv hF rfl hb10 <| wp_skip <| ?_
        refine tn <| th <| th <| th <| ?_
        refine rg <| ?_
        refine ls <| q1 hF rfl (e_eql hF rfl rfl) fun a hF => ?_
        refine ls <| q1 hF rfl (e_asg hF rfl) fun a hF => ?_
        refine re <| ?_
        refine tn <| midK (fun a w => ∃ (vC7 : Bool), (event_Uses_j4 N event_Uses_j1 (event_Uses_j2 event_Uses_j1) p1 p2 p7) vC7 = some r ∧ Fr 75 [(1, .slice oaC2 p2.length capC3), (2, .int .i64 p7), (3, .pointer (some ⟨b8, 0, none⟩)), (7, .slice none 0 0), (9, .int .i64 p1.Kind), (13, .bool vC7)] a ∧ St w0 Nil [HC1] [blk b8 (.cells [.int .i64 p1.Kind, .int .i64 p1.T, .int .i64 p1.A, .int .i64 p1.N, .int .i64 p1.M].toArray 23 (0, 0))] w) ?_ ?_
        ·
          rcases bdich (decide (p1.Kind = 8)) with hb21 | hb21
          ·
            replace hm := itp_t hm hb21
            refine ctv hF rfl hb21 <| wp_skip <| ?_
            refine tn <| ?_
            exact ⟨(decide (p1.Kind = 8)), hm, hF.has ⟨rfl, rfl, rfl, rfl, rfl, rfl, trivial⟩, hS⟩
          ·
            replace hm := itp_f hm hb21
            refine cfv hF rfl hb21 <| ?_
            refine rg <| ?_
            refine ls <| q1 hF rfl (e_eql hF rfl rfl) fun a hF => ?_
            refine ls <| q1 hF rfl (e_asg hF rfl) fun a hF => ?_
            refine re <| ?_
            refine tn <| ?_
            exact ⟨(decide (p1.Kind = 12)), hm, hF.has ⟨rfl, rfl, rfl, rfl, rfl, rfl, trivial⟩, hS⟩
        clear hm hF hS
        rintro a w ⟨vC7, hm, hF, hS⟩
        unfold event_Uses_j4 at hm
        rcases bdich vC7 with hb22 | hb22
        ·
          replace hm := ite_t hm hb22
          refine ctv hF rfl hb22 <| ?_
          refine wp_exit <| tx <| tx <| bo rfl <| tx <| bx <| ?_
          refine tn <| th <| ?_
          replace hm := bind_some hm
          obtain ⟨l26, h27, hm⟩ := hm
          refine rg <| ?_
          refine ls <| q1 hF rfl (e_move hF rfl) fun a hF => ?_
          refine ls <| q1 hF rfl (e_fa hF fa23_2 rfl) fun a hF => ?_
          refine ls <| q1 hF rfl (e_ld hF Tryd.isAgg3 rfl ((St.ld hS).cellB (.head _) rfl)) fun a hF => ?_
          refine ls <| q1 hF rfl (e_bldK [.int .i64 1, .int .i64 p1.A, .bool true] [.int .i64 1, .int .i64 p1.A, .bool true] hF ⟨rfl, rfl, rfl, trivial⟩ (fun w => by kernel_rfl)) fun a hF => ?_
          refine ls <| a_bsl (e := 27) (sz := 3) [.int .i64 1, .int .i64 p1.A, .bool true] hF rfl hS rfl rfl rfl (fun w => by kernel_rfl) fun b24 w a hS hF => ?_
          have hv23 : Rows (α := api_Use) HC1 [.int .i64 1, .int .i64 p1.A, .bool true] ([(api_Use.mk 1 p1.A true)] : List api_Use) := (.cons (c := [.int .i64 1, .int .i64 p1.A, .bool true]) ⟨_, _, rfl, rfl, ⟨_, _, rfl, rfl, rfl⟩⟩ .nil)
          replace hS := St.nilS hS 27 3
          refine ls <| m_app (α := api_Use) (xs := []) (ys := ([(api_Use.mk 1 p1.A true)] : List api_Use)) hF rfl hS Tryd.underlying29 info27 rfl (by decide) rfl rfl rfl (.head _) .nil (hS.rdO (.tail _ (.head _))) hv23 h27 fun oa28 cap29 vs30 w a hv31 hU hF => ?_
          replace hS := hU _ .head
          clear hU
          replace hS := hS.drop (.tail .head)
          refine ls <| q1 hF rfl (e_asg hF rfl) fun a hF => ?_
          refine re <| ?_
          refine tn <| th <| th <| ?_
          refine rg <| ?_
          refine ls <| q1 hF rfl (e_fa hF fa23_2 rfl) fun a hF => ?_
          refine ls <| q1 hF rfl (e_ld hF Tryd.isAgg3 rfl ((St.ld hS).cellB (.tail _ (.head _)) rfl)) fun a hF => ?_
          refine ls <| q1 hF rfl (e_lss hF rfl rfl) fun a hF => ?_
          refine ls <| q1 hF rfl (e_move hF rfl) fun a hF => ?_
          refine grp (N := 75) (Fk := [(1, .slice oaC2 p2.length capC3), (3, .pointer (some ⟨b8, 0, none⟩)), (7, .slice oa28 l26.length cap29), (44, .bool ((decide (p1.A < 0)) || (decide (p7 ≤ p1.A))))]) (b := (decide (p1.A < 0))) 5 hS ?_ ?_ ?_
          ·
            intro hb key
            replace hF := Fr.as hF (t := 39) rfl (congrArg Value.bool hb)
            refine ls <| gn hF rfl rfl rfl rfl fun a hF => ?_
            refine ls <| gn hF rfl rfl rfl rfl fun a hF => ?_
            refine ls <| gn hF rfl rfl rfl rfl fun a hF => ?_
            refine ls <| gn hF rfl rfl rfl rfl fun a hF => ?_
            refine ls <| q1 hF rfl (e_as (v' := .bool ((decide (p1.A < 0)) || (decide (p7 ≤ p1.A)))) (e_pickT hF rfl rfl) (by rw [hb]; rfl)) fun a hF => ?_
            exact key _ _ (hF.has ⟨rfl, rfl, rfl, rfl, trivial⟩) hS
          ·
            intro hb key
            replace hF := Fr.as hF (t := 39) rfl (congrArg Value.bool hb)
            refine ls <| gy hF rfl rfl <| q1 hF rfl (e_fa hF fa23_2 rfl) fun a hF => ?_
            refine ls <| gy hF rfl rfl <| q1 hF rfl (e_ld hF Tryd.isAgg3 rfl ((St.ld hS).cellB (.tail _ (.head _)) rfl)) fun a hF => ?_
            refine ls <| gy hF rfl rfl <| q1 hF rfl (e_move hF rfl) fun a hF => ?_
            refine ls <| gy hF rfl rfl <| q1 hF rfl (e_geq hF rfl rfl) fun a hF => ?_
            refine ls <| q1 hF rfl (e_as (v' := .bool ((decide (p1.A < 0)) || (decide (p7 ≤ p1.A)))) (e_pickF hF rfl rfl) (by rw [hb]; rfl)) fun a hF => ?_
            exact key _ _ (hF.has ⟨rfl, rfl, rfl, rfl, trivial⟩) hS
          intro a w hF hS
          refine ls <| q1 hF rfl (e_move hF rfl) fun a hF => ?_
          refine grp (N := 75) (Fk := [(1, .slice oaC2 p2.length capC3), (3, .pointer (some ⟨b8, 0, none⟩)), (7, .slice oa28 l26.length cap29), (51, .bool (((decide (p1.A < 0)) || (decide (p7 ≤ p1.A))) || (decide ((p2.length : Int) ≤ p1.A))))]) (b := ((decide (p1.A < 0)) || (decide (p7 ≤ p1.A)))) 6 hS ?_ ?_ ?_
          ·
            intro hb key
            replace hF := Fr.as hF (t := 45) rfl (congrArg Value.bool hb)
            refine ls <| gn hF rfl rfl rfl rfl fun a hF => ?_
            refine ls <| gn hF rfl rfl rfl rfl fun a hF => ?_
            refine ls <| gn hF rfl rfl rfl rfl fun a hF => ?_
            refine ls <| gn hF rfl rfl rfl rfl fun a hF => ?_
            refine ls <| gn hF rfl rfl rfl rfl fun a hF => ?_
            refine ls <| q1 hF rfl (e_as (v' := .bool (((decide (p1.A < 0)) || (decide (p7 ≤ p1.A))) || (decide ((p2.length : Int) ≤ p1.A)))) (e_pickT hF rfl rfl) (by rw [hb]; rfl)) fun a hF => ?_
            exact key _ _ (hF.has ⟨rfl, rfl, rfl, rfl, trivial⟩) hS
          ·
            intro hb key
            replace hF := Fr.as hF (t := 45) rfl (congrArg Value.bool hb)
            refine ls <| gy hF rfl rfl <| q1 hF rfl (e_fa hF fa23_2 rfl) fun a hF => ?_
            refine ls <| gy hF rfl rfl <| q1 hF rfl (e_ld hF Tryd.isAgg3 rfl ((St.ld hS).cellB (.tail _ (.head _)) rfl)) fun a hF => ?_
            refine ls <| gy hF rfl rfl <| q1 hF rfl (e_move hF rfl) fun a hF => ?_
            refine ls <| gy hF rfl rfl <| q1 hF rfl (e_lenL (α := Int) (xs := p2) hF Tryd.runUnderlying25 rfl) fun a hF => ?_
            refine ls <| gy hF rfl rfl <| q1 hF rfl (e_geq hF rfl rfl) fun a hF => ?_
            refine ls <| q1 hF rfl (e_as (v' := .bool (((decide (p1.A < 0)) || (decide (p7 ≤ p1.A))) || (decide ((p2.length : Int) ≤ p1.A)))) (e_pickF hF rfl rfl) (by rw [hb]; rfl)) fun a hF => ?_
            exact key _ _ (hF.has ⟨rfl, rfl, rfl, rfl, trivial⟩) hS
          intro a w hF hS
          refine re <| ?_
          rcases bdich (((decide (p1.A < 0)) || (decide (p7 ≤ p1.A))) || (decide ((p2.length : Int) ≤ p1.A))) with hb33 | hb33
          ·
            replace hm := ite_t hm hb33
            refine tn <| ctv hF rfl hb33 <| ?_
            refine wp_exit <| tx <| bo rfl <| tx <| bo rfl <| tx <| bo rfl <| tx <| bx <| ?_
            refine tn <| ?_
            replace hS := hS.pickL (.cons .head .nil)
            exact ⟨l26, HC1, oa28, cap29, vs30, hm, hxHC1, hF.has ⟨rfl, trivial⟩, hS, hv31⟩
          ·
            replace hm := ite_f hm hb33
            refine tn <| cfv hF rfl hb33 <| wp_skip <| ?_
            refine tn <| ?_
            replace hm := bind_some hm
            obtain ⟨x34, h35, hm⟩ := hm
            obtain ⟨c36, g37, hl38⟩ := SR.get hrC5 h35
            obtain rfl : c36 = [.int .i64 x34] := g37
            refine rg <| ?_
            refine ls <| q1 hF rfl (e_move hF rfl) fun a hF => ?_
            refine ls <| q1 hF rfl (e_fa hF fa23_2 rfl) fun a hF => ?_
            refine ls <| q1 hF rfl (e_ld hF Tryd.isAgg3 rfl ((St.ld hS).cellB (.tail _ (.head _)) rfl)) fun a hF => ?_
            refine ls <| q1 hF rfl (e_iaI hF Tryd.runUnderlying25 Tryd.sizeOf3 rfl rfl h35 (SR.oaI hrC5 (by decide) h35)) fun a hF => ?_
            refine ls <| q1 hF rfl (e_ld hF Tryd.isAgg3 rfl (PH.le.cell (Lds.le (St.ld hS)) (hl38 0 _ rfl))) fun a hF => ?_
            refine ls <| q1 hF rfl (e_fa hF fa23_2 rfl) fun a hF => ?_
            refine ls <| s_blk hF hS Tryd.sizeOf3 rfl rfl rfl rfl (.tail .head) (.succ (.succ .zero)) fun w hS => ?_
            refine re <| ?_
            refine bn <| tn <| ?_
            replace hS := hS.pickL (.cons (.tail .head) (.cons .head .nil))
            exact ⟨(api_Event.mk p1.Kind p1.T x34 p1.N p1.M), l26, HC1, oa28, cap29, vs30, hm, hxHC1, hF.has ⟨rfl, rfl, trivial⟩, hS, hv31⟩
        ·
          replace hm := ite_f hm hb22
          refine cfv hF rfl hb22 <| wp_skip <| ?_
          refine tn <| th <| th <| ?_
          refine rg <| ?_
          refine ls <| q1 hF rfl (e_eql hF rfl rfl) fun a hF => ?_
          refine ls <| q1 hF rfl (e_asg hF rfl) fun a hF => ?_
          refine re <| ?_
          rcases bdich (decide (p1.Kind = 13)) with hb39 | hb39
          ·
            replace hm := itp_t hm hb39
            refine tn <| ctv hF rfl hb39 <| ?_
            refine wp_exit <| tx <| tx <| bo rfl <| tx <| bo rfl <| tx <| bx <| ?_
            refine tn <| ?_
            replace hS := St.nilS hS 27 3
            replace hS := hS.pickL (.cons (.tail .head) (.cons .head .nil))
            exact ⟨p1, [], HC1, none, 0, [], hm, hxHC1, hF.has ⟨rfl, rfl, trivial⟩, hS, .nil⟩
          ·
            replace hm := itp_f hm hb39
            refine tn <| cfv hF rfl hb39 <| wp_skip <| ?_
            refine tn <| th <| th <| th <| ?_
            refine rg <| ?_
            refine ls <| q1 hF rfl (e_eql hF rfl rfl) fun a hF => ?_
            refine ls <| q1 hF rfl (e_asg hF rfl) fun a hF => ?_
            refine re <| ?_
            refine tn <| midK (fun a w => ∃ (vC8 : Bool), (event_Uses_j5 event_Uses_j1 p1) vC8 = some r ∧ Fr 75 [(3, .pointer (some ⟨b8, 0, none⟩)), (7, .slice none 0 0), (9, .int .i64 p1.Kind), (18, .bool vC8)] a ∧ St w0 Nil [HC1] [blk b8 (.cells [.int .i64 p1.Kind, .int .i64 p1.T, .int .i64 p1.A, .int .i64 p1.N, .int .i64 p1.M].toArray 23 (0, 0))] w) ?_ ?_
            ·
              rcases bdich (decide (p1.Kind = 10)) with hb40 | hb40
              ·
                replace hm := itp_t hm hb40
                refine ctv hF rfl hb40 <| wp_skip <| ?_
                refine tn <| ?_
                exact ⟨(decide (p1.Kind = 10)), hm, hF.has ⟨rfl, rfl, rfl, rfl, trivial⟩, hS⟩
              ·
                replace hm := itp_f hm hb40
                refine cfv hF rfl hb40 <| ?_
                refine rg <| ?_
                refine ls <| q1 hF rfl (e_eql hF rfl rfl) fun a hF => ?_
                refine ls <| q1 hF rfl (e_asg hF rfl) fun a hF => ?_
                refine re <| ?_
                refine tn <| ?_
                exact ⟨(decide (p1.Kind = 11)), hm, hF.has ⟨rfl, rfl, rfl, rfl, trivial⟩, hS⟩
            clear hm hF hS
            rintro a w ⟨vC8, hm, hF, hS⟩
            unfold event_Uses_j5 at hm
            rcases bdich vC8 with hb41 | hb41
            ·
              replace hm := ite_t hm hb41
              refine ctv hF rfl hb41 <| ?_
              refine wp_exit <| tx <| tx <| bo rfl <| tx <| bo rfl <| tx <| bo rfl <| tx <| bx <| ?_
              refine tn <| th <| ?_
              replace hm := bind_some hm
              obtain ⟨l45, h46, hm⟩ := hm
              refine rg <| ?_
              refine ls <| q1 hF rfl (e_move hF rfl) fun a hF => ?_
              refine ls <| q1 hF rfl (e_fa hF fa23_2 rfl) fun a hF => ?_
              refine ls <| q1 hF rfl (e_ld hF Tryd.isAgg3 rfl ((St.ld hS).cellB (.head _) rfl)) fun a hF => ?_
              refine ls <| q1 hF rfl (e_bldK [.int .i64 3, .int .i64 p1.A, .bool true] [.int .i64 3, .int .i64 p1.A, .bool true] hF ⟨rfl, rfl, rfl, trivial⟩ (fun w => by kernel_rfl)) fun a hF => ?_
              refine ls <| a_bsl (e := 27) (sz := 3) [.int .i64 3, .int .i64 p1.A, .bool true] hF rfl hS rfl rfl rfl (fun w => by kernel_rfl) fun b43 w a hS hF => ?_
              have hv42 : Rows (α := api_Use) HC1 [.int .i64 3, .int .i64 p1.A, .bool true] ([(api_Use.mk 3 p1.A true)] : List api_Use) := (.cons (c := [.int .i64 3, .int .i64 p1.A, .bool true]) ⟨_, _, rfl, rfl, ⟨_, _, rfl, rfl, rfl⟩⟩ .nil)
              replace hS := St.nilS hS 27 3
              refine ls <| m_app (α := api_Use) (xs := []) (ys := ([(api_Use.mk 3 p1.A true)] : List api_Use)) hF rfl hS Tryd.underlying29 info27 rfl (by decide) rfl rfl rfl (.head _) .nil (hS.rdO (.tail _ (.head _))) hv42 h46 fun oa47 cap48 vs49 w a hv50 hU hF => ?_
              replace hS := hU _ .head
              clear hU
              replace hS := hS.drop (.tail .head)
              refine ls <| q1 hF rfl (e_asg hF rfl) fun a hF => ?_
              refine re <| ?_
              refine tn <| ?_
              refine wp_exit <| bo rfl <| tx <| bx <| ?_
              refine tn <| ?_
              replace hS := hS.pickL (.cons .head .nil)
              exact ⟨l45, HC1, oa47, cap48, vs49, hm, hxHC1, hF.has ⟨rfl, trivial⟩, hS, hv50⟩
            ·
              replace hm := ite_f hm hb41
              refine cfv hF rfl hb41 <| wp_skip <| ?_
              refine tn <| th <| th <| ?_
              refine rg <| ?_
              refine ls <| q1 hF rfl (e_eql hF rfl rfl) fun a hF => ?_
              refine ls <| q1 hF rfl (e_asg hF rfl) fun a hF => ?_
              refine re <| ?_
              refine tn <| midK (fun a w => ∃ (vC9 : Bool), (event_Uses_j6 event_Uses_j1) vC9 = some r ∧ Fr 75 [(7, .slice none 0 0), (21, .bool vC9)] a ∧ St w0 Nil [HC1] [] w) ?_ ?_
              ·
                rcases bdich (decide (p1.Kind = 15)) with hb52 | hb52
                ·
                  replace hm := itp_t hm hb52
                  refine ctv hF rfl hb52 <| wp_skip <| ?_
                  refine tn <| ?_
                  replace hS := hS.pickL .nil
                  exact ⟨(decide (p1.Kind = 15)), hm, hF.has ⟨rfl, rfl, trivial⟩, hS⟩
                ·
                  replace hm := itp_f hm hb52
                  refine cfv hF rfl hb52 <| ?_
                  refine rg <| ?_
                  refine ls <| q1 hF rfl (e_eql hF rfl rfl) fun a hF => ?_
                  refine ls <| q1 hF rfl (e_asg hF rfl) fun a hF => ?_
                  refine re <| ?_
                  refine tn <| ?_
                  replace hS := hS.pickL .nil
                  exact ⟨(decide (p1.Kind = 16)), hm, hF.has ⟨rfl, rfl, trivial⟩, hS⟩
              clear hm hF hS
              rintro a w ⟨vC9, hm, hF, hS⟩
              unfold event_Uses_j6 at hm
              rcases bdich vC9 with hb53 | hb53
              ·
                replace hm := ite_t hm hb53
                refine ctv hF rfl hb53 <| ?_
                refine wp_exit <| tx <| bo rfl <| tx <| bo rfl <| tx <| bo rfl <| tx <| bo rfl <| tx <| bx <| ?_
                refine tn <| th <| ?_
                replace hm := bind_some hm
                obtain ⟨l57, h58, hm⟩ := hm
                refine rg <| ?_
                refine ls <| q1 hF rfl (e_move hF rfl) fun a hF => ?_
                refine ls <| q1 hF rfl (e_bldK [.int .i64 4, .bool true] [.int .i64 4, .int .i64 0, .bool true] hF ⟨rfl, rfl, trivial⟩ (fun w => by kernel_rfl)) fun a hF => ?_
                refine ls <| a_bsl (e := 27) (sz := 3) [.int .i64 4, .int .i64 0, .bool true] hF rfl hS rfl rfl rfl (fun w => by kernel_rfl) fun b55 w a hS hF => ?_
                have hv54 : Rows (α := api_Use) HC1 [.int .i64 4, .int .i64 0, .bool true] ([(api_Use.mk 4 0 true)] : List api_Use) := (.cons (c := [.int .i64 4, .int .i64 0, .bool true]) ⟨_, _, rfl, rfl, ⟨_, _, rfl, rfl, rfl⟩⟩ .nil)
                replace hS := St.nilS hS 27 3
                refine ls <| m_app (α := api_Use) (xs := []) (ys := ([(api_Use.mk 4 0 true)] : List api_Use)) hF rfl hS Tryd.underlying29 info27 rfl (by decide) rfl rfl rfl (.head _) .nil (hS.rdO (.tail _ (.head _))) hv54 h58 fun oa59 cap60 vs61 w a hv62 hU hF => ?_
                replace hS := hU _ .head
                clear hU
                replace hS := hS.drop (.tail .head)
                refine ls <| q1 hF rfl (e_asg hF rfl) fun a hF => ?_
                refine re <| ?_
                refine tn <| ?_
                refine wp_exit <| bx <| ?_
                refine tn <| ?_
                exact ⟨l57, HC1, oa59, cap60, vs61, hm, hxHC1, hF.has ⟨rfl, trivial⟩, hS, hv62⟩
              ·
                replace hm := ite_f hm hb53
                refine cfv hF rfl hb53 <| wp_skip <| ?_
                refine tn <| ?_
                refine wp_exit <| bo rfl <| tx <| bo rfl <| tx <| bo rfl <| tx <| bo rfl <| tx <| bo rfl <| tx <| bx <| ?_
                refine tn <| ?_
                replace hS := St.nilS hS 27 3
                exact ⟨[], HC1, none, 0, [], hm, hxHC1, hF.has ⟨rfl, trivial⟩, hS, .nil⟩
    clear hm hF hS
    rintro a w ⟨vB2, vB3, HB1, oaB4, capB5, vsB6, hm, hxHB1, hF, hS, hvB7⟩
    unfold event_Uses_j2 at hm
    refine th <| ?_
    replace hm := bind_some hm
    obtain ⟨l67, h68, hm⟩ := hm
    refine rg <| ?_
    refine ls <| q1 hF rfl (e_move hF rfl) fun a hF => ?_
    refine ls <| q1 hF rfl (e_fa hF fa23_2 rfl) fun a hF => ?_
    refine ls <| q1 hF rfl (e_ld hF Tryd.isAgg3 rfl ((St.ld hS).cellB (.head _) rfl)) fun a hF => ?_
    refine ls <| q1 hF rfl (e_bldK [.int .i64 2, .int .i64 vB2.A, .bool true] [.int .i64 2, .int .i64 vB2.A, .bool true] hF ⟨rfl, rfl, rfl, trivial⟩ (fun w => by kernel_rfl)) fun a hF => ?_
    refine ls <| a_bsl (e := 27) (sz := 3) [.int .i64 2, .int .i64 vB2.A, .bool true] hF rfl hS rfl rfl rfl (fun w => by kernel_rfl) fun b65 w a hS hF => ?_
    have hv64 : Rows (α := api_Use) HB1 [.int .i64 2, .int .i64 vB2.A, .bool true] ([(api_Use.mk 2 vB2.A true)] : List api_Use) := (.cons (c := [.int .i64 2, .int .i64 vB2.A, .bool true]) ⟨_, _, rfl, rfl, ⟨_, _, rfl, rfl, rfl⟩⟩ .nil)
    refine ls <| m_app (α := api_Use) (xs := vB3) (ys := ([(api_Use.mk 2 vB2.A true)] : List api_Use)) hF rfl hS Tryd.underlying29 info27 rfl (by decide) rfl rfl rfl (.tail _ (.tail _ (.head _))) hvB7 (hS.rdO (.head _)) hv64 h68 fun oa69 cap70 vs71 w a hv72 hU hF => ?_
    replace hS := hU _ (.tail (.tail .head))
    clear hU
    replace hS := hS.drop .head
    refine ls <| q1 hF rfl (e_asg hF rfl) fun a hF => ?_
    refine re <| ?_
    refine tn <| ?_
    refine wp_exit <| bo rfl <| tx <| bo rfl <| tx <| bx <| ?_
    refine tn <| ?_
    replace hS := hS.pickL (.cons (.tail .head) .nil)
    exact ⟨l67, HB1, oa69, cap70, vs71, hm, hxHB1, hF.has ⟨rfl, trivial⟩, hS, hv72⟩
  clear hm hF hS
  rintro a w ⟨vA2, HA1, oaA3, capA4, vsA5, hm, hxHA1, hF, hS, hvA6⟩
  unfold event_Uses_j1 at hm
  refine th <| ?_
  refine rg <| ?_
  refine ls <| q1 hF rfl (e_move hF rfl) fun a hF => ?_
  refine ls <| q1 hF rfl (e_asg hF rfl) fun a hF => ?_
  refine re <| ?_
  refine tn <| ?_
  refine wp_ret <| ?_
  obtain rfl := Option.some.inj hm
  exact r1 hF Tryd.results14 rfl ⟨_, _, _, rfl, (fun _ => Rows.ind hvA6), hS.endFresh (.head _)⟩

set_option maxHeartbeats 4000000 in
set_option maxRecDepth 100000 in
theorem leadlineref15_Uses_c {N : Nat} {w0 : World} {H : PH} (hH : H.le w0) {p1 : api_Event} {oa3 : Option Addr} {cap4 : Nat} {p2 : (List Int)} (hc5 : p2.length ≤ cap4) (hr6 : SR H oa3 p2) {p7 : Int} {r : (List api_Use)} (hm : leadlineref15_Uses N p1 p2 p7 = some r) : Tot Tryd.prog 15 #[.agg #[.int .i64 p1.Kind, .int .i64 p1.T, .int .i64 p1.A, .int .i64 p1.N, .int .i64 p1.M], .slice oa3 p2.length cap4, .int .i64 p7] w0 (fun v w' => ∃ (oa0 : Option Addr) (cap0 : Nat) (vs0 : List Value), v = .slice oa0 r.length cap0 ∧ (∀ h, Rows h vs0 r) ∧ Fresh w0 (sla 27 3 oa0 r.length cap0 vs0) w') := by
  unfold leadlineref15_Uses at hm
  refine fn0 (args := [.agg #[.int .i64 p1.Kind, .int .i64 p1.T, .int .i64 p1.A, .int .i64 p1.N, .int .i64 p1.M], .slice oa3 p2.length cap4, .int .i64 p7]) (F := [(0, .agg #[.int .i64 p1.Kind, .int .i64 p1.T, .int .i64 p1.A, .int .i64 p1.N, .int .i64 p1.M]), (1, .slice oa3 p2.length cap4), (2, .int .i64 p7)]) Tryd.func15 rfl Tryd.ntmps15 rfl rfl fun a hF => ?_
  have hS : St w0 Nil [H] [] w0 := start1 hH
  refine th <| ?_
  refine rg <| ?_
  refine ls <| a_box (cs := [.int .i64 p1.Kind, .int .i64 p1.T, .int .i64 p1.A, .int .i64 p1.N, .int .i64 p1.M].toArray) hF rfl hS rfl rfl fun b8 w a hS hF => ?_
  refine ls <| q1 hF rfl (e_asg hF rfl) fun a hF => ?_
  refine re <| ?_
  refine tn <| th <| th <| ?_
  refine rg <| ?_
  refine ls <| q1 hF rfl (e_fa hF fa23_0 rfl) fun a hF => ?_
  refine ls <| q1 hF rfl (e_ld hF Tryd.isAgg3 rfl ((St.ld hS).cellB (.head _) rfl)) fun a hF => ?_
  refine re <| ?_
  refine tn <| wp_block <| th <| th <| ?_
  refine rg <| ?_
  refine ls <| q1 hF rfl (e_eql hF rfl rfl) fun a hF => ?_
  refine ls <| q1 hF rfl (e_asg hF rfl) fun a hF => ?_
  refine re <| ?_
  refine tn <| midK (fun a w => ∃ (vA6 : Bool) (HA1 : PH) (oaA2 : Option Addr) (capA3 : Nat), (leadlineref15_Uses_j1 p1 p2 p7) vA6 = some r ∧ Ext w0 H HA1 ∧ Fr 68 [(1, .slice oaA2 p2.length capA3), (2, .int .i64 p7), (3, .pointer (some ⟨b8, 0, none⟩)), (9, .int .i64 p1.Kind), (10, .bool vA6)] a ∧ St w0 Nil [HA1] [blk b8 (.cells [.int .i64 p1.Kind, .int .i64 p1.T, .int .i64 p1.A, .int .i64 p1.N, .int .i64 p1.M].toArray 23 (0, 0))] w ∧ p2.length ≤ capA3 ∧ SR HA1 oaA2 p2) ?_ ?_
  ·
    rcases bdich (decide (p1.Kind = 1)) with hb9 | hb9
    ·
      replace hm := itp_t hm hb9
      refine ctv hF rfl hb9 <| wp_skip <| ?_
      refine tn <| ?_
      exact ⟨(decide (p1.Kind = 1)), H, oa3, cap4, hm, (Ext.refl _ _), hF.has ⟨rfl, rfl, rfl, rfl, rfl, trivial⟩, hS, hc5, hr6⟩
    ·
      replace hm := itp_f hm hb9
      refine cfv hF rfl hb9 <| ?_
      refine rg <| ?_
      refine ls <| q1 hF rfl (e_eql hF rfl rfl) fun a hF => ?_
      refine ls <| q1 hF rfl (e_asg hF rfl) fun a hF => ?_
      refine re <| ?_
      refine tn <| ?_
      exact ⟨(decide (p1.Kind = 9)), H, oa3, cap4, hm, (Ext.refl _ _), hF.has ⟨rfl, rfl, rfl, rfl, rfl, trivial⟩, hS, hc5, hr6⟩
  clear hm hF hS
  rintro a w ⟨vA6, HA1, oaA2, capA3, hm, hxHA1, hF, hS, hcA4, hrA5⟩
  unfold leadlineref15_Uses_j1 at hm
  rcases bdich vA6 with hb10 | hb10
  ·
    replace hm := ite_t hm hb10
    refine ctv hF rfl hb10 <| th <| ?_
    refine rg <| ?_
    refine ls <| q1 hF rfl (e_fa hF fa23_2 rfl) fun a hF => ?_
    refine ls <| q1 hF rfl (e_ld hF Tryd.isAgg3 rfl ((St.ld hS).cellB (.head _) rfl)) fun a hF => ?_
    refine ls <| q1 hF rfl (e_bldK [.int .i64 1, .int .i64 p1.A] [.int .i64 1, .int .i64 p1.A, .bool false] hF ⟨rfl, rfl, trivial⟩ (fun w => by kernel_rfl)) fun a hF => ?_
    refine ls <| a_bsl (e := 27) (sz := 3) [.int .i64 1, .int .i64 p1.A, .bool false] hF rfl hS rfl rfl rfl (fun w => by kernel_rfl) fun b12 w a hS hF => ?_
    have hv11 : Rows (α := api_Use) HA1 [.int .i64 1, .int .i64 p1.A, .bool false] ([(api_Use.mk 1 p1.A false)] : List api_Use) := (.cons (c := [.int .i64 1, .int .i64 p1.A, .bool false]) ⟨_, _, rfl, rfl, ⟨_, _, rfl, rfl, rfl⟩⟩ .nil)
    refine ls <| q1 hF rfl (e_asg hF rfl) fun a hF => ?_
    refine re <| ?_
    refine tn <| ?_
    refine wp_ret <| br <| tr <| ?_
    obtain rfl := Option.some.inj hm
    exact r1 hF Tryd.results15 rfl ⟨_, _, _, rfl, (fun _ => Rows.ind hv11), hS.endFresh (.head _)⟩
  ·
    replace hm := ite_f hm hb10
    refine cfv hF rfl hb10 <| th <| th <| ?_
    refine rg <| ?_
    refine ls <| q1 hF rfl (e_eql hF rfl rfl) fun a hF => ?_
    refine ls <| q1 hF rfl (e_asg hF rfl) fun a hF => ?_
    refine re <| ?_
    refine tn <| midK (fun a w => ∃ (vA7 : Bool), (leadlineref15_Uses_j2 p1 p2 p7) vA7 = some r ∧ Fr 68 [(1, .slice oaA2 p2.length capA3), (2, .int .i64 p7), (3, .pointer (some ⟨b8, 0, none⟩)), (9, .int .i64 p1.Kind), (17, .bool vA7)] a ∧ St w0 Nil [HA1] [blk b8 (.cells [.int .i64 p1.Kind, .int .i64 p1.T, .int .i64 p1.A, .int .i64 p1.N, .int .i64 p1.M].toArray 23 (0, 0))] w) ?_ ?_
    ·
      rcases bdich (decide (p1.Kind = 8)) with hb14 | hb14
      ·
        replace hm := itp_t hm hb14
        refine ctv hF rfl hb14 <| wp_skip <| ?_
        refine tn <| ?_
        exact ⟨(decide (p1.Kind = 8)), hm, hF.has ⟨rfl, rfl, rfl, rfl, rfl, trivial⟩, hS⟩
      ·
        replace hm := itp_f hm hb14
        refine cfv hF rfl hb14 <| ?_
        refine rg <| ?_
        refine ls <| q1 hF rfl (e_eql hF rfl rfl) fun a hF => ?_
        refine ls <| q1 hF rfl (e_asg hF rfl) fun a hF => ?_
        refine re <| ?_
        refine tn <| ?_
        exact ⟨(decide (p1.Kind = 12)), hm, hF.has ⟨rfl, rfl, rfl, rfl, rfl, trivial⟩, hS⟩
    clear hm hF hS
    rintro a w ⟨vA7, hm, hF, hS⟩
    unfold leadlineref15_Uses_j2 at hm
    rcases bdich vA7 with hb15 | hb15
    ·
      replace hm := ite_t hm hb15
      refine ctv hF rfl hb15 <| th <| ?_
      refine rg <| ?_
      refine ls <| q1 hF rfl (e_fa hF fa23_2 rfl) fun a hF => ?_
      refine ls <| q1 hF rfl (e_ld hF Tryd.isAgg3 rfl ((St.ld hS).cellB (.head _) rfl)) fun a hF => ?_
      refine ls <| q1 hF rfl (e_bldK [.int .i64 1, .int .i64 p1.A, .bool true] [.int .i64 1, .int .i64 p1.A, .bool true] hF ⟨rfl, rfl, rfl, trivial⟩ (fun w => by kernel_rfl)) fun a hF => ?_
      refine ls <| a_bsl (e := 27) (sz := 3) [.int .i64 1, .int .i64 p1.A, .bool true] hF rfl hS rfl rfl rfl (fun w => by kernel_rfl) fun b17 w a hS hF => ?_
      have hv16 : Rows (α := api_Use) HA1 [.int .i64 1, .int .i64 p1.A, .bool true] ([(api_Use.mk 1 p1.A true)] : List api_Use) := (.cons (c := [.int .i64 1, .int .i64 p1.A, .bool true]) ⟨_, _, rfl, rfl, ⟨_, _, rfl, rfl, rfl⟩⟩ .nil)
      refine ls <| q1 hF rfl (e_asg hF rfl) fun a hF => ?_
      refine re <| ?_
      refine tn <| th <| th <| ?_
      refine rg <| ?_
      refine ls <| q1 hF rfl (e_fa hF fa23_2 rfl) fun a hF => ?_
      refine ls <| q1 hF rfl (e_ld hF Tryd.isAgg3 rfl ((St.ld hS).cellB (.tail _ (.head _)) rfl)) fun a hF => ?_
      refine ls <| q1 hF rfl (e_geq hF rfl rfl) fun a hF => ?_
      refine ls <| q1 hF rfl (e_move hF rfl) fun a hF => ?_
      refine grp (N := 68) (Fk := [(1, .slice oaA2 p2.length capA3), (3, .pointer (some ⟨b8, 0, none⟩)), (7, .slice (some ⟨b17, 0, none⟩) ([(api_Use.mk 1 p1.A true)] : List api_Use).length 1), (32, .bool ((decide (0 ≤ p1.A)) && (decide (p1.A < p7))))]) (b := (decide (0 ≤ p1.A))) 5 hS ?_ ?_ ?_
      ·
        intro hb key
        replace hF := Fr.as hF (t := 27) rfl (congrArg Value.bool hb)
        refine ls <| gy hF rfl rfl <| q1 hF rfl (e_fa hF fa23_2 rfl) fun a hF => ?_
        refine ls <| gy hF rfl rfl <| q1 hF rfl (e_ld hF Tryd.isAgg3 rfl ((St.ld hS).cellB (.tail _ (.head _)) rfl)) fun a hF => ?_
        refine ls <| gy hF rfl rfl <| q1 hF rfl (e_move hF rfl) fun a hF => ?_
        refine ls <| gy hF rfl rfl <| q1 hF rfl (e_lss hF rfl rfl) fun a hF => ?_
        refine ls <| q1 hF rfl (e_as (v' := .bool ((decide (0 ≤ p1.A)) && (decide (p1.A < p7)))) (e_pickT hF rfl rfl) (by rw [hb]; rfl)) fun a hF => ?_
        exact key _ _ (hF.has ⟨rfl, rfl, rfl, rfl, trivial⟩) hS
      ·
        intro hb key
        replace hF := Fr.as hF (t := 27) rfl (congrArg Value.bool hb)
        refine ls <| gn hF rfl rfl rfl rfl fun a hF => ?_
        refine ls <| gn hF rfl rfl rfl rfl fun a hF => ?_
        refine ls <| gn hF rfl rfl rfl rfl fun a hF => ?_
        refine ls <| gn hF rfl rfl rfl rfl fun a hF => ?_
        refine ls <| q1 hF rfl (e_as (v' := .bool ((decide (0 ≤ p1.A)) && (decide (p1.A < p7)))) (e_pickF hF rfl rfl) (by rw [hb]; rfl)) fun a hF => ?_
        exact key _ _ (hF.has ⟨rfl, rfl, rfl, rfl, trivial⟩) hS
      intro a w hF hS
      refine ls <| q1 hF rfl (e_move hF rfl) fun a hF => ?_
      refine grp (N := 68) (Fk := [(1, .slice oaA2 p2.length capA3), (3, .pointer (some ⟨b8, 0, none⟩)), (7, .slice (some ⟨b17, 0, none⟩) ([(api_Use.mk 1 p1.A true)] : List api_Use).length 1), (39, .bool (((decide (0 ≤ p1.A)) && (decide (p1.A < p7))) && (decide (p1.A < (p2.length : Int)))))]) (b := ((decide (0 ≤ p1.A)) && (decide (p1.A < p7)))) 6 hS ?_ ?_ ?_
      ·
        intro hb key
        replace hF := Fr.as hF (t := 33) rfl (congrArg Value.bool hb)
        refine ls <| gy hF rfl rfl <| q1 hF rfl (e_fa hF fa23_2 rfl) fun a hF => ?_
        refine ls <| gy hF rfl rfl <| q1 hF rfl (e_ld hF Tryd.isAgg3 rfl ((St.ld hS).cellB (.tail _ (.head _)) rfl)) fun a hF => ?_
        refine ls <| gy hF rfl rfl <| q1 hF rfl (e_move hF rfl) fun a hF => ?_
        refine ls <| gy hF rfl rfl <| q1 hF rfl (e_lenL (α := Int) (xs := p2) hF Tryd.runUnderlying25 rfl) fun a hF => ?_
        refine ls <| gy hF rfl rfl <| q1 hF rfl (e_lss hF rfl rfl) fun a hF => ?_
        refine ls <| q1 hF rfl (e_as (v' := .bool (((decide (0 ≤ p1.A)) && (decide (p1.A < p7))) && (decide (p1.A < (p2.length : Int))))) (e_pickT hF rfl rfl) (by rw [hb]; rfl)) fun a hF => ?_
        exact key _ _ (hF.has ⟨rfl, rfl, rfl, rfl, trivial⟩) hS
      ·
        intro hb key
        replace hF := Fr.as hF (t := 33) rfl (congrArg Value.bool hb)
        refine ls <| gn hF rfl rfl rfl rfl fun a hF => ?_
        refine ls <| gn hF rfl rfl rfl rfl fun a hF => ?_
        refine ls <| gn hF rfl rfl rfl rfl fun a hF => ?_
        refine ls <| gn hF rfl rfl rfl rfl fun a hF => ?_
        refine ls <| gn hF rfl rfl rfl rfl fun a hF => ?_
        refine ls <| q1 hF rfl (e_as (v' := .bool (((decide (0 ≤ p1.A)) && (decide (p1.A < p7))) && (decide (p1.A < (p2.length : Int))))) (e_pickF hF rfl rfl) (by rw [hb]; rfl)) fun a hF => ?_
        exact key _ _ (hF.has ⟨rfl, rfl, rfl, rfl, trivial⟩) hS
      intro a w hF hS
      refine re <| ?_
      refine tn <| midK (fun a w => ∃ (vA8 : (List api_Use)) (oaA9 : Option Addr) (capA10 : Nat) (vsA11 : List Value), leadlineref15_Uses_j3 vA8 = some r ∧ Fr 68 [(7, .slice oaA9 vA8.length capA10)] a ∧ St w0 Nil [HA1] [sla 27 3 oaA9 vA8.length capA10 vsA11] w ∧ Rows HA1 vsA11 vA8) ?_ ?_
      ·
        rcases bdich (((decide (0 ≤ p1.A)) && (decide (p1.A < p7))) && (decide (p1.A < (p2.length : Int)))) with hb19 | hb19
        ·
          replace hm := ite_t hm hb19
          refine ctv hF rfl hb19 <| ?_
          replace hm := bind_some hm
          obtain ⟨x20, h21, hm⟩ := hm
          obtain ⟨c22, g23, hl24⟩ := SR.get hrA5 h21
          obtain rfl : c22 = [.int .i64 x20] := g23
          replace hm := bind_some hm
          obtain ⟨l28, h29, hm⟩ := hm
          refine rg <| ?_
          refine ls <| q1 hF rfl (e_move hF rfl) fun a hF => ?_
          refine ls <| q1 hF rfl (e_move hF rfl) fun a hF => ?_
          refine ls <| q1 hF rfl (e_fa hF fa23_2 rfl) fun a hF => ?_
          refine ls <| q1 hF rfl (e_ld hF Tryd.isAgg3 rfl ((St.ld hS).cellB (.tail _ (.head _)) rfl)) fun a hF => ?_
          refine ls <| q1 hF rfl (e_iaI hF Tryd.runUnderlying25 Tryd.sizeOf3 rfl rfl h21 (SR.oaI hrA5 (by decide) h21)) fun a hF => ?_
          refine ls <| q1 hF rfl (e_ld hF Tryd.isAgg3 rfl (PH.le.cell (Lds.le (St.ld hS)) (hl24 0 _ rfl))) fun a hF => ?_
          refine ls <| q1 hF rfl (e_bldK [.int .i64 2, .int .i64 x20, .bool true] [.int .i64 2, .int .i64 x20, .bool true] hF ⟨rfl, rfl, rfl, trivial⟩ (fun w => by kernel_rfl)) fun a hF => ?_
          refine ls <| a_bsl (e := 27) (sz := 3) [.int .i64 2, .int .i64 x20, .bool true] hF rfl hS rfl rfl rfl (fun w => by kernel_rfl) fun b26 w a hS hF => ?_
          have hv25 : Rows (α := api_Use) HA1 [.int .i64 2, .int .i64 x20, .bool true] ([(api_Use.mk 2 x20 true)] : List api_Use) := (.cons (c := [.int .i64 2, .int .i64 x20, .bool true]) ⟨_, _, rfl, rfl, ⟨_, _, rfl, rfl, rfl⟩⟩ .nil)
          refine ls <| m_app (α := api_Use) (xs := ([(api_Use.mk 1 p1.A true)] : List api_Use)) (ys := ([(api_Use.mk 2 x20 true)] : List api_Use)) hF rfl hS Tryd.underlying29 info27 rfl (by decide) rfl rfl rfl (.tail _ (.head _)) hv16 (hS.rdO (.head _)) hv25 h29 fun oa30 cap31 vs32 w a hv33 hU hF => ?_
          replace hS := hU _ (.tail .head)
          clear hU
          replace hS := hS.drop .head
          refine ls <| q1 hF rfl (e_asg hF rfl) fun a hF => ?_
          refine re <| ?_
          refine tn <| ?_
          replace hS := hS.pickL (.cons .head .nil)
          exact ⟨l28, oa30, cap31, vs32, hm, hF.has ⟨rfl, trivial⟩, hS, hv33⟩
        ·
          replace hm := ite_f hm hb19
          refine cfv hF rfl hb19 <| wp_skip <| ?_
          refine tn <| ?_
          replace hS := hS.pickL (.cons .head .nil)
          exact ⟨([(api_Use.mk 1 p1.A true)] : List api_Use), (some ⟨b17, 0, none⟩), 1, [.int .i64 1, .int .i64 p1.A, .bool true], hm, hF.has ⟨rfl, trivial⟩, hS, hv16⟩
      clear hm hF hS
      rintro a w ⟨vA8, oaA9, capA10, vsA11, hm, hF, hS, hvA12⟩
      unfold leadlineref15_Uses_j3 at hm
      refine th <| ?_
      refine rg <| ?_
      refine ls <| q1 hF rfl (e_move hF rfl) fun a hF => ?_
      refine ls <| q1 hF rfl (e_asg hF rfl) fun a hF => ?_
      refine re <| ?_
      refine tn <| ?_
      refine wp_ret <| br <| tr <| ?_
      obtain rfl := Option.some.inj hm
      exact r1 hF Tryd.results15 rfl ⟨_, _, _, rfl, (fun _ => Rows.ind hvA12), hS.endFresh (.head _)⟩
    ·
      replace hm := ite_f hm hb15
      refine cfv hF rfl hb15 <| th <| ?_
      refine rg <| ?_
      refine ls <| q1 hF rfl (e_eql hF rfl rfl) fun a hF => ?_
      refine ls <| q1 hF rfl (e_asg hF rfl) fun a hF => ?_
      refine re <| ?_
      rcases bdich (decide (p1.Kind = 13)) with hb34 | hb34
      ·
        replace hm := itp_t hm hb34
        refine tn <| ctv hF rfl hb34 <| th <| ?_
        refine rg <| ?_
        refine ls <| q1 hF rfl (e_fa hF fa23_2 rfl) fun a hF => ?_
        refine ls <| q1 hF rfl (e_ld hF Tryd.isAgg3 rfl ((St.ld hS).cellB (.head _) rfl)) fun a hF => ?_
        refine ls <| q1 hF rfl (e_bldK [.int .i64 2, .int .i64 p1.A, .bool true] [.int .i64 2, .int .i64 p1.A, .bool true] hF ⟨rfl, rfl, rfl, trivial⟩ (fun w => by kernel_rfl)) fun a hF => ?_
        refine ls <| a_bsl (e := 27) (sz := 3) [.int .i64 2, .int .i64 p1.A, .bool true] hF rfl hS rfl rfl rfl (fun w => by kernel_rfl) fun b36 w a hS hF => ?_
        have hv35 : Rows (α := api_Use) HA1 [.int .i64 2, .int .i64 p1.A, .bool true] ([(api_Use.mk 2 p1.A true)] : List api_Use) := (.cons (c := [.int .i64 2, .int .i64 p1.A, .bool true]) ⟨_, _, rfl, rfl, ⟨_, _, rfl, rfl, rfl⟩⟩ .nil)
        refine ls <| q1 hF rfl (e_asg hF rfl) fun a hF => ?_
        refine re <| ?_
        refine tn <| ?_
        refine wp_ret <| br <| tr <| ?_
        obtain rfl := Option.some.inj hm
        exact r1 hF Tryd.results15 rfl ⟨_, _, _, rfl, (fun _ => Rows.ind hv35), hS.endFresh (.head _)⟩
      ·
        replace hm := itp_f hm hb34
        refine tn <| cfv hF rfl hb34 <| th <| th <| ?_
        refine rg <| ?_
        refine ls <| q1 hF rfl (e_eql hF rfl rfl) fun a hF => ?_
        refine ls <| q1 hF rfl (e_asg hF rfl) fun a hF => ?_
        refine re <| ?_
        refine tn <| midK (fun a w => ∃ (vA14 : Bool), (leadlineref15_Uses_j4 p1) vA14 = some r ∧ Fr 68 [(3, .pointer (some ⟨b8, 0, none⟩)), (9, .int .i64 p1.Kind), (56, .bool vA14)] a ∧ St w0 Nil [HA1] [blk b8 (.cells [.int .i64 p1.Kind, .int .i64 p1.T, .int .i64 p1.A, .int .i64 p1.N, .int .i64 p1.M].toArray 23 (0, 0))] w) ?_ ?_
        ·
          rcases bdich (decide (p1.Kind = 10)) with hb38 | hb38
          ·
            replace hm := itp_t hm hb38
            refine ctv hF rfl hb38 <| wp_skip <| ?_
            refine tn <| ?_
            exact ⟨(decide (p1.Kind = 10)), hm, hF.has ⟨rfl, rfl, rfl, trivial⟩, hS⟩
          ·
            replace hm := itp_f hm hb38
            refine cfv hF rfl hb38 <| ?_
            refine rg <| ?_
            refine ls <| q1 hF rfl (e_eql hF rfl rfl) fun a hF => ?_
            refine ls <| q1 hF rfl (e_asg hF rfl) fun a hF => ?_
            refine re <| ?_
            refine tn <| ?_
            exact ⟨(decide (p1.Kind = 11)), hm, hF.has ⟨rfl, rfl, rfl, trivial⟩, hS⟩
        clear hm hF hS
        rintro a w ⟨vA14, hm, hF, hS⟩
        unfold leadlineref15_Uses_j4 at hm
        rcases bdich vA14 with hb39 | hb39
        ·
          replace hm := ite_t hm hb39
          refine ctv hF rfl hb39 <| th <| ?_
          refine rg <| ?_
          refine ls <| q1 hF rfl (e_fa hF fa23_2 rfl) fun a hF => ?_
          refine ls <| q1 hF rfl (e_ld hF Tryd.isAgg3 rfl ((St.ld hS).cellB (.head _) rfl)) fun a hF => ?_
          refine ls <| q1 hF rfl (e_bldK [.int .i64 3, .int .i64 p1.A, .bool true] [.int .i64 3, .int .i64 p1.A, .bool true] hF ⟨rfl, rfl, rfl, trivial⟩ (fun w => by kernel_rfl)) fun a hF => ?_
          refine ls <| a_bsl (e := 27) (sz := 3) [.int .i64 3, .int .i64 p1.A, .bool true] hF rfl hS rfl rfl rfl (fun w => by kernel_rfl) fun b41 w a hS hF => ?_
          have hv40 : Rows (α := api_Use) HA1 [.int .i64 3, .int .i64 p1.A, .bool true] ([(api_Use.mk 3 p1.A true)] : List api_Use) := (.cons (c := [.int .i64 3, .int .i64 p1.A, .bool true]) ⟨_, _, rfl, rfl, ⟨_, _, rfl, rfl, rfl⟩⟩ .nil)
          refine ls <| q1 hF rfl (e_asg hF rfl) fun a hF => ?_
          refine re <| ?_
          refine tn <| ?_
          refine wp_ret <| br <| tr <| ?_
          obtain rfl := Option.some.inj hm
          exact r1 hF Tryd.results15 rfl ⟨_, _, _, rfl, (fun _ => Rows.ind hv40), hS.endFresh (.head _)⟩
        ·
          replace hm := ite_f hm hb39
          refine cfv hF rfl hb39 <| th <| th <| ?_
          refine rg <| ?_
          refine ls <| q1 hF rfl (e_eql hF rfl rfl) fun a hF => ?_
          refine ls <| q1 hF rfl (e_asg hF rfl) fun a hF => ?_
          refine re <| ?_
          refine tn <| midK (fun a w => ∃ (vA15 : Bool), leadlineref15_Uses_j5 vA15 = some r ∧ Fr 68 [(63, .bool vA15)] a ∧ St w0 Nil [HA1] [] w) ?_ ?_
          ·
            rcases bdich (decide (p1.Kind = 15)) with hb43 | hb43
            ·
              replace hm := itp_t hm hb43
              refine ctv hF rfl hb43 <| wp_skip <| ?_
              refine tn <| ?_
              replace hS := hS.pickL .nil
              exact ⟨(decide (p1.Kind = 15)), hm, hF.has ⟨rfl, trivial⟩, hS⟩
            ·
              replace hm := itp_f hm hb43
              refine cfv hF rfl hb43 <| ?_
              refine rg <| ?_
              refine ls <| q1 hF rfl (e_eql hF rfl rfl) fun a hF => ?_
              refine ls <| q1 hF rfl (e_asg hF rfl) fun a hF => ?_
              refine re <| ?_
              refine tn <| ?_
              replace hS := hS.pickL .nil
              exact ⟨(decide (p1.Kind = 16)), hm, hF.has ⟨rfl, trivial⟩, hS⟩
          clear hm hF hS
          rintro a w ⟨vA15, hm, hF, hS⟩
          unfold leadlineref15_Uses_j5 at hm
          rcases bdich vA15 with hb44 | hb44
          ·
            replace hm := ite_t hm hb44
            refine ctv hF rfl hb44 <| th <| ?_
            refine rg <| ?_
            refine ls <| q1 hF rfl (e_bldK [.int .i64 4, .bool true] [.int .i64 4, .int .i64 0, .bool true] hF ⟨rfl, rfl, trivial⟩ (fun w => by kernel_rfl)) fun a hF => ?_
            refine ls <| a_bsl (e := 27) (sz := 3) [.int .i64 4, .int .i64 0, .bool true] hF rfl hS rfl rfl rfl (fun w => by kernel_rfl) fun b46 w a hS hF => ?_
            have hv45 : Rows (α := api_Use) HA1 [.int .i64 4, .int .i64 0, .bool true] ([(api_Use.mk 4 0 true)] : List api_Use) := (.cons (c := [.int .i64 4, .int .i64 0, .bool true]) ⟨_, _, rfl, rfl, ⟨_, _, rfl, rfl, rfl⟩⟩ .nil)
            refine ls <| q1 hF rfl (e_asg hF rfl) fun a hF => ?_
            refine re <| ?_
            refine tn <| ?_
            refine wp_ret <| br <| tr <| ?_
            obtain rfl := Option.some.inj hm
            exact r1 hF Tryd.results15 rfl ⟨_, _, _, rfl, (fun _ => Rows.ind hv45), hS.endFresh (.head _)⟩
          ·
            replace hm := ite_f hm hb44
            refine cfv hF rfl hb44 <| wp_skip <| ?_
            refine bn <| tn <| th <| ?_
            refine rg <| ?_
            refine ls <| q1 hF rfl (e_asg hF rfl) fun a hF => ?_
            refine re <| ?_
            refine tn <| ?_
            refine wp_ret <| ?_
            replace hS := St.nilS hS 27 3
            obtain rfl := Option.some.inj hm
            exact r1 hF Tryd.results15 rfl ⟨_, _, _, rfl, (fun _ => .nil), hS.endFresh (.head _)⟩

set_option maxRecDepth 100000 in
theorem leadlineref15_Same_c {N : Nat} {w0 : World} {H : PH} (hH : H.le w0) {oa2 : Option Addr} {cap3 : Nat} {p1 : (List api_Use)} (hc4 : p1.length ≤ cap3) (hr5 : SR H oa2 p1) {oa7 : Option Addr} {cap8 : Nat} {p6 : (List api_Use)} (hc9 : p6.length ≤ cap8) (hr10 : SR H oa7 p6) {r : Bool} (hm : leadlineref15_Same N p1 p6 = some r) : Tot Tryd.prog 13 #[.slice oa2 p1.length cap3, .slice oa7 p6.length cap8] w0 (fun v w' => v = .bool r ∧ Keep Nil w0 w') := by
  unfold leadlineref15_Same at hm
  refine fn0 (args := [.slice oa2 p1.length cap3, .slice oa7 p6.length cap8]) (F := [(0, .slice oa2 p1.length cap3), (1, .slice oa7 p6.length cap8)]) Tryd.func13 rfl Tryd.ntmps13 rfl rfl fun a hF => ?_
  have hS : St w0 Nil [H] [] w0 := start1 hH
  refine th <| ?_
  refine rg <| ?_
  refine ls <| q1 hF rfl (e_asg hF rfl) fun a hF => ?_
  refine re <| ?_
  refine tn <| th <| th <| ?_
  refine rg <| ?_
  refine ls <| q1 hF rfl (e_move hF rfl) fun a hF => ?_
  refine ls <| q1 hF rfl (e_lenL (α := api_Use) (xs := p1) hF Tryd.runUnderlying29 rfl) fun a hF => ?_
  refine ls <| q1 hF rfl (e_move hF rfl) fun a hF => ?_
  refine ls <| q1 hF rfl (e_lenL (α := api_Use) (xs := p6) hF Tryd.runUnderlying29 rfl) fun a hF => ?_
  refine ls <| q1 hF rfl (e_neq hF rfl rfl) fun a hF => ?_
  refine re <| ?_
  rcases bdich (decide ((p1.length : Int) ≠ (p6.length : Int))) with hb11 | hb11
  ·
    replace hm := itp_t hm hb11
    refine tn <| ctv hF rfl hb11 <| th <| ?_
    refine rg <| ?_
    refine ls <| q1 hF rfl (e_asg hF rfl) fun a hF => ?_
    refine re <| ?_
    refine tn <| ?_
    refine wp_ret <| tr <| ?_
    obtain rfl := Option.some.inj hm
    exact r1 hF Tryd.results13 rfl ⟨rfl, hS.keep⟩
  ·
    replace hm := itp_f hm hb11
    refine tn <| cfv hF rfl hb11 <| wp_skip <| ?_
    refine tn <| th <| th <| ?_
    refine rg <| ?_
    refine ls <| q1 hF rfl (e_asg hF rfl) fun a hF => ?_
    refine re <| ?_
    refine tn <| midK (fun a w => ∃ (HA1 : PH), leadlineref15_Same_j1 = some r ∧ Ext w0 H HA1 ∧ Fr 26 [] a ∧ St w0 Nil [HA1] [] w) ?_ ?_
    ·
      refine wp_block <| lp (α := Nat × Int) (fun (gh : Nat × Int) a w => match gh with | (nn2, vB10) => ∃ (HB1 : PH) (oaB2 : Option Addr) (capB3 : Nat) (oaB6 : Option Addr) (capB7 : Nat), (leadlineref15_Same_l2 N leadlineref15_Same_j1 p1 p6) nn2 vB10 = some r ∧ Ext w0 H HB1 ∧ Fr 26 [(0, .slice oaB2 p1.length capB3), (1, .slice oaB6 p6.length capB7), (5, .int .i64 vB10)] a ∧ St w0 Nil [HB1] [] w ∧ p1.length ≤ capB3 ∧ SR HB1 oaB2 p1 ∧ p6.length ≤ capB7 ∧ SR HB1 oaB6 p6) (fun gh => gh.1) (N, 0) ⟨H, oa2, cap3, oa7, cap8, hm, (Ext.refl _ _), hF.has ⟨rfl, rfl, rfl, trivial⟩, hS, hc4, hr5, hc9, hr10⟩ ?_
      clear hm hF hS
      rintro ⟨nn2, vB10⟩ a w ⟨HB1, oaB2, capB3, oaB6, capB7, hm, hxHB1, hF, hS, hcB4, hrB5, hcB8, hrB9⟩
      obtain _ | nn2 := nn2
      · simp [leadlineref15_Same_l2] at hm
      rw [leadlineref15_Same_l2] at hm
      refine th <| th <| ?_
      refine rg <| ?_
      refine ls <| q1 hF rfl (e_move hF rfl) fun a hF => ?_
      refine ls <| q1 hF rfl (e_move hF rfl) fun a hF => ?_
      refine ls <| q1 hF rfl (e_lenL (α := api_Use) (xs := p1) hF Tryd.runUnderlying29 rfl) fun a hF => ?_
      refine ls <| q1 hF rfl (e_lss hF rfl rfl) fun a hF => ?_
      refine re <| ?_
      rcases bdich (decide (vB10 < (p1.length : Int))) with hb12 | hb12
      ·
        replace hm := itp_t hm hb12
        refine tn <| ctv hF rfl hb12 <| wp_skip <| ?_
        refine tn <| th <| wp_block <| th <| ?_
        replace hm := bind_some hm
        obtain ⟨x13, h14, hm⟩ := hm
        obtain ⟨c15, g16, hl17⟩ := SR.get hrB5 h14
        obtain rfl := api_Use_open g16
        replace hm := bind_some hm
        obtain ⟨x18, h19, hm⟩ := hm
        obtain ⟨c20, g21, hl22⟩ := SR.get hrB9 h19
        obtain rfl := api_Use_open g21
        refine rxS 9 hS wide (by kernel_rfl) fun w hS => ?_
        refine x1 (St.ld hS) hF rfl rfl (fun _ _ _ h => h) (fun w hl => (e_move hF rfl)) fun a hF => ?_
        refine x1 (St.ld hS) hF rfl rfl (fun _ _ _ h => h) (fun w hl => (e_move hF rfl)) fun a hF => ?_
        refine x1 (St.ld hS) hF rfl rfl (fun _ _ _ h => h) (fun w hl => (e_iaI hF Tryd.runUnderlying29 Tryd.sizeOf27 rfl rfl h14 (SR.oaI hrB5 (by decide) h14))) fun a hF => ?_
        refine x1 (St.ld hS) hF rfl rfl (fun _ _ _ h => h) (fun w hl => (e_ldA hF Tryd.isAgg27 Tryd.sizeOf27 rfl rfl (fun j v hj => PH.le.cell (Lds.le hl) (hl17 j v hj)))) fun a hF => ?_
        refine x1 (St.ld hS) hF rfl rfl (fun _ _ _ h => h) (fun w hl => (e_move hF rfl)) fun a hF => ?_
        refine x1 (St.ld hS) hF rfl rfl (fun _ _ _ h => h) (fun w hl => (e_move hF rfl)) fun a hF => ?_
        refine x1 (St.ld hS) hF rfl rfl (fun _ _ _ h => h) (fun w hl => (e_iaI hF Tryd.runUnderlying29 Tryd.sizeOf27 rfl rfl h19 (SR.oaI hrB9 (by decide) h19))) fun a hF => ?_
        refine x1 (St.ld hS) hF rfl rfl (fun _ _ _ h => h) (fun w hl => (e_ldA hF Tryd.isAgg27 Tryd.sizeOf27 rfl rfl (fun j v hj => PH.le.cell (Lds.le hl) (hl22 j v hj)))) fun a hF => ?_
        refine x1 (St.ld hS) hF rfl rfl (fun _ _ _ h => h) (fun w hl => (api_Use_neq (x := x13) (y := x18) hF rfl rfl)) fun a hF => ?_
        refine xe <| ?_
        rcases bdich (decide (x13 ≠ x18)) with hb23 | hb23
        ·
          replace hm := itp_t hm hb23
          refine tn <| ctv hF rfl hb23 <| th <| ?_
          refine rg <| ?_
          refine ls <| q1 hF rfl (e_asg hF rfl) fun a hF => ?_
          refine re <| ?_
          refine tn <| ?_
          refine wp_ret <| br <| tr <| tr <| br <| tr <| ?_
          obtain rfl := Option.some.inj hm
          exact r1 hF Tryd.results13 rfl ⟨rfl, hS.keep⟩
        ·
          replace hm := itp_f hm hb23
          refine tn <| cfv hF rfl hb23 <| wp_skip <| ?_
          refine bn <| tn <| ?_
          refine rg <| ?_
          refine ls <| q1 hF rfl (e_move hF rfl) fun a hF => ?_
          refine ls <| q1 hF rfl (e_add hF rfl rfl) fun a hF => ?_
          refine ls <| q1 hF rfl (e_asg hF rfl) fun a hF => ?_
          refine re <| ?_
          refine tn <| ?_
          exact ⟨(nn2, (IntKind.i64.wrap (vB10 + 1))), ⟨HB1, oaB2, capB3, oaB6, capB7, hm, hxHB1, hF.has ⟨rfl, rfl, rfl, trivial⟩, hS, hcB4, hrB5, hcB8, hrB9⟩, Nat.lt_succ_self _⟩
      ·
        replace hm := itp_f hm hb12
        refine tn <| cfv hF rfl hb12 <| ?_
        refine wp_exit <| tx <| tx <| bx <| ?_
        refine tn <| ?_
        exact ⟨HB1, hm, hxHB1, hF.has trivial, hS⟩
    clear hm hF hS
    rintro a w ⟨HA1, hm, hxHA1, hF, hS⟩
    unfold leadlineref15_Same_j1 at hm
    refine th <| ?_
    refine rg <| ?_
    refine ls <| q1 hF rfl (e_asg hF rfl) fun a hF => ?_
    refine re <| ?_
    refine tn <| ?_
    refine wp_ret <| ?_
    obtain rfl := Option.some.inj hm
    exact r1 hF Tryd.results13 rfl ⟨rfl, hS.keep⟩

set_option maxRecDepth 100000 in
theorem event_all_c {N : Nat} {w0 : World} {H : PH} (hH : H.le w0) {p1 : api_Event} {r : Bool} (hm : event_all N p1 = some r) : Tot Tryd.prog 40 #[.agg #[.int .i64 p1.Kind, .int .i64 p1.T, .int .i64 p1.A, .int .i64 p1.N, .int .i64 p1.M]] w0 (fun v w' => v = .bool r ∧ Keep Nil w0 w') := by
  unfold event_all at hm
  refine fn0 (args := [.agg #[.int .i64 p1.Kind, .int .i64 p1.T, .int .i64 p1.A, .int .i64 p1.N, .int .i64 p1.M]]) (F := [(0, .agg #[.int .i64 p1.Kind, .int .i64 p1.T, .int .i64 p1.A, .int .i64 p1.N, .int .i64 p1.M])]) Tryd.func40 rfl Tryd.ntmps40 rfl rfl fun a hF => ?_
  have hS : St w0 Nil [H] [] w0 := start1 hH
  refine th <| ?_
  refine rg <| ?_
  refine ls <| a_box (cs := [.int .i64 p1.Kind, .int .i64 p1.T, .int .i64 p1.A, .int .i64 p1.N, .int .i64 p1.M].toArray) hF rfl hS rfl rfl fun b2 w a hS hF => ?_
  refine ls <| q1 hF rfl (e_asg hF rfl) fun a hF => ?_
  refine re <| ?_
  refine tn <| th <| ?_
  refine rg <| ?_
  refine ls <| q1 hF rfl (e_fa hF fa23_0 rfl) fun a hF => ?_
  refine ls <| q1 hF rfl (e_ld hF Tryd.isAgg3 rfl ((St.ld hS).cellB (.head _) rfl)) fun a hF => ?_
  refine ls <| q1 hF rfl (e_eql hF rfl rfl) fun a hF => ?_
  refine ls <| q1 hF rfl (e_move hF rfl) fun a hF => ?_
  refine grp (N := 11) (Fk := [(10, .bool ((decide (p1.Kind = 15)) || (decide (p1.Kind = 16))))]) (b := (decide (p1.Kind = 15))) 4 hS ?_ ?_ ?_
  ·
    intro hb key
    replace hF := Fr.as hF (t := 6) rfl (congrArg Value.bool hb)
    refine ls <| gn hF rfl rfl rfl rfl fun a hF => ?_
    refine ls <| gn hF rfl rfl rfl rfl fun a hF => ?_
    refine ls <| gn hF rfl rfl rfl rfl fun a hF => ?_
    refine ls <| q1 hF rfl (e_as (v' := .bool ((decide (p1.Kind = 15)) || (decide (p1.Kind = 16)))) (e_pickT hF rfl rfl) (by rw [hb]; rfl)) fun a hF => ?_
    exact key _ _ (hF.has ⟨rfl, trivial⟩) hS
  ·
    intro hb key
    replace hF := Fr.as hF (t := 6) rfl (congrArg Value.bool hb)
    refine ls <| gy hF rfl rfl <| q1 hF rfl (e_fa hF fa23_0 rfl) fun a hF => ?_
    refine ls <| gy hF rfl rfl <| q1 hF rfl (e_ld hF Tryd.isAgg3 rfl ((St.ld hS).cellB (.head _) rfl)) fun a hF => ?_
    refine ls <| gy hF rfl rfl <| q1 hF rfl (e_eql hF rfl rfl) fun a hF => ?_
    refine ls <| q1 hF rfl (e_as (v' := .bool ((decide (p1.Kind = 15)) || (decide (p1.Kind = 16)))) (e_pickF hF rfl rfl) (by rw [hb]; rfl)) fun a hF => ?_
    exact key _ _ (hF.has ⟨rfl, trivial⟩) hS
  intro a w hF hS
  refine ls <| q1 hF rfl (e_asg hF rfl) fun a hF => ?_
  refine re <| ?_
  refine tn <| ?_
  refine wp_ret <| ?_
  obtain rfl := Option.some.inj hm
  exact r1 hF Tryd.results40 rfl ⟨rfl, hS.keep⟩
end Go.LM.ET
