/- Walks, lifted by program. No condition beyond each theorem's own premises. -/
import Derived.Test.YtimaeihmnipfgaaDoorETW1
namespace Go.LM.ET
open Go Go.LL Go.MD Go.LM Go.Proofs Go.MD.ET

set_option maxRecDepth 100000 in
theorem event_Clash_c {N : Nat} {w0 : World} {H : PH} (hH : H.le w0) {p1 : api_Use} {p2 : api_Use} {r : Bool} (hm : event_Clash N p1 p2 = some r) : Tot Tryd.prog 22 #[.agg #[.int .i64 p1.What, .int .i64 p1.N, .bool p1.Write], .agg #[.int .i64 p2.What, .int .i64 p2.N, .bool p2.Write]] w0 (fun v w' => v = .bool r ∧ Keep Nil w0 w') := by
  unfold event_Clash at hm
  refine fn0 (args := [.agg #[.int .i64 p1.What, .int .i64 p1.N, .bool p1.Write], .agg #[.int .i64 p2.What, .int .i64 p2.N, .bool p2.Write]]) (F := [(0, .agg #[.int .i64 p1.What, .int .i64 p1.N, .bool p1.Write]), (1, .agg #[.int .i64 p2.What, .int .i64 p2.N, .bool p2.Write])]) Tryd.func22 rfl Tryd.ntmps22 rfl rfl fun a hF => ?_
  have hS : St w0 Nil [H] [] w0 := start1 hH
  refine th <| ?_
  refine rg <| ?_
  refine ls <| a_box (cs := [.int .i64 p1.What, .int .i64 p1.N, .bool p1.Write].toArray) hF rfl hS rfl rfl fun b3 w a hS hF => ?_
  refine ls <| a_box (cs := [.int .i64 p2.What, .int .i64 p2.N, .bool p2.Write].toArray) hF rfl hS rfl rfl fun b4 w a hS hF => ?_
  refine ls <| q1 hF rfl (e_asg hF rfl) fun a hF => ?_
  refine re <| ?_
  refine tn <| th <| th <| ?_
  refine rg <| ?_
  refine ls <| q1 hF rfl (e_fa hF fa27_0 rfl) fun a hF => ?_
  refine ls <| q1 hF rfl (e_ld hF Tryd.isAgg3 rfl ((St.ld hS).cellB (.tail _ (.head _)) rfl)) fun a hF => ?_
  refine ls <| q1 hF rfl (e_eql hF rfl rfl) fun a hF => ?_
  refine ls <| q1 hF rfl (e_move hF rfl) fun a hF => ?_
  refine grp (N := 33) (Fk := [(2, .pointer (some ⟨b3, 0, none⟩)), (3, .pointer (some ⟨b4, 0, none⟩)), (12, .bool ((decide (p1.What = 4)) || (decide (p2.What = 4))))]) (b := (decide (p1.What = 4))) 4 hS ?_ ?_ ?_
  ·
    intro hb key
    replace hF := Fr.as hF (t := 8) rfl (congrArg Value.bool hb)
    refine ls <| gn hF rfl rfl rfl rfl fun a hF => ?_
    refine ls <| gn hF rfl rfl rfl rfl fun a hF => ?_
    refine ls <| gn hF rfl rfl rfl rfl fun a hF => ?_
    refine ls <| q1 hF rfl (e_as (v' := .bool ((decide (p1.What = 4)) || (decide (p2.What = 4)))) (e_pickT hF rfl rfl) (by rw [hb]; rfl)) fun a hF => ?_
    exact key _ _ (hF.has ⟨rfl, rfl, rfl, trivial⟩) hS
  ·
    intro hb key
    replace hF := Fr.as hF (t := 8) rfl (congrArg Value.bool hb)
    refine ls <| gy hF rfl rfl <| q1 hF rfl (e_fa hF fa27_0 rfl) fun a hF => ?_
    refine ls <| gy hF rfl rfl <| q1 hF rfl (e_ld hF Tryd.isAgg3 rfl ((St.ld hS).cellB (.head _) rfl)) fun a hF => ?_
    refine ls <| gy hF rfl rfl <| q1 hF rfl (e_eql hF rfl rfl) fun a hF => ?_
    refine ls <| q1 hF rfl (e_as (v' := .bool ((decide (p1.What = 4)) || (decide (p2.What = 4)))) (e_pickF hF rfl rfl) (by rw [hb]; rfl)) fun a hF => ?_
    exact key _ _ (hF.has ⟨rfl, rfl, rfl, trivial⟩) hS
  intro a w hF hS
  refine re <| ?_
  rcases bdich ((decide (p1.What = 4)) || (decide (p2.What = 4))) with hb5 | hb5
  ·
    replace hm := ite_t hm hb5
    refine tn <| ctv hF rfl hb5 <| th <| ?_
    refine rg <| ?_
    refine ls <| q1 hF rfl (e_asg hF rfl) fun a hF => ?_
    refine re <| ?_
    refine tn <| ?_
    refine wp_ret <| tr <| ?_
    obtain rfl := Option.some.inj hm
    exact r1 hF Tryd.results22 rfl ⟨rfl, hS.keep⟩
  ·
    replace hm := ite_f hm hb5
    refine tn <| cfv hF rfl hb5 <| wp_skip <| ?_
    refine tn <| th <| ?_
    refine rg <| ?_
    refine ls <| q1 hF rfl (e_fa hF fa27_0 rfl) fun a hF => ?_
    refine ls <| q1 hF rfl (e_ld hF Tryd.isAgg3 rfl ((St.ld hS).cellB (.tail _ (.head _)) rfl)) fun a hF => ?_
    refine ls <| q1 hF rfl (e_fa hF fa27_0 rfl) fun a hF => ?_
    refine ls <| q1 hF rfl (e_ld hF Tryd.isAgg3 rfl ((St.ld hS).cellB (.head _) rfl)) fun a hF => ?_
    refine ls <| q1 hF rfl (e_eql hF rfl rfl) fun a hF => ?_
    refine ls <| q1 hF rfl (e_move hF rfl) fun a hF => ?_
    refine grp (N := 33) (Fk := [(2, .pointer (some ⟨b3, 0, none⟩)), (3, .pointer (some ⟨b4, 0, none⟩)), (24, .bool ((decide (p1.What = p2.What)) && (decide (p1.N = p2.N))))]) (b := (decide (p1.What = p2.What))) 6 hS ?_ ?_ ?_
    ·
      intro hb key
      replace hF := Fr.as hF (t := 18) rfl (congrArg Value.bool hb)
      refine ls <| gy hF rfl rfl <| q1 hF rfl (e_fa hF fa27_1 rfl) fun a hF => ?_
      refine ls <| gy hF rfl rfl <| q1 hF rfl (e_ld hF Tryd.isAgg3 rfl ((St.ld hS).cellB (.tail _ (.head _)) rfl)) fun a hF => ?_
      refine ls <| gy hF rfl rfl <| q1 hF rfl (e_fa hF fa27_1 rfl) fun a hF => ?_
      refine ls <| gy hF rfl rfl <| q1 hF rfl (e_ld hF Tryd.isAgg3 rfl ((St.ld hS).cellB (.head _) rfl)) fun a hF => ?_
      refine ls <| gy hF rfl rfl <| q1 hF rfl (e_eql hF rfl rfl) fun a hF => ?_
      refine ls <| q1 hF rfl (e_as (v' := .bool ((decide (p1.What = p2.What)) && (decide (p1.N = p2.N)))) (e_pickT hF rfl rfl) (by rw [hb]; rfl)) fun a hF => ?_
      exact key _ _ (hF.has ⟨rfl, rfl, rfl, trivial⟩) hS
    ·
      intro hb key
      replace hF := Fr.as hF (t := 18) rfl (congrArg Value.bool hb)
      refine ls <| gn hF rfl rfl rfl rfl fun a hF => ?_
      refine ls <| gn hF rfl rfl rfl rfl fun a hF => ?_
      refine ls <| gn hF rfl rfl rfl rfl fun a hF => ?_
      refine ls <| gn hF rfl rfl rfl rfl fun a hF => ?_
      refine ls <| gn hF rfl rfl rfl rfl fun a hF => ?_
      refine ls <| q1 hF rfl (e_as (v' := .bool ((decide (p1.What = p2.What)) && (decide (p1.N = p2.N)))) (e_pickF hF rfl rfl) (by rw [hb]; rfl)) fun a hF => ?_
      exact key _ _ (hF.has ⟨rfl, rfl, rfl, trivial⟩) hS
    intro a w hF hS
    refine ls <| q1 hF rfl (e_move hF rfl) fun a hF => ?_
    refine grp (N := 33) (Fk := [(32, .bool (((decide (p1.What = p2.What)) && (decide (p1.N = p2.N))) && (p1.Write || p2.Write)))]) (b := ((decide (p1.What = p2.What)) && (decide (p1.N = p2.N)))) 7 hS ?_ ?_ ?_
    ·
      intro hb key
      replace hF := Fr.as hF (t := 25) rfl (congrArg Value.bool hb)
      refine ls <| gy hF rfl rfl <| q1 hF rfl (e_fa hF fa27_2 rfl) fun a hF => ?_
      refine ls <| gy hF rfl rfl <| q1 hF rfl (e_ld hF Tryd.isAgg4 rfl ((St.ld hS).cellB (.tail _ (.head _)) rfl)) fun a hF => ?_
      refine ls <| gy hF rfl rfl <| q1 hF rfl (e_move hF rfl) fun a hF => ?_
      refine grp (N := 33) (Fk := [(25, .bool true), (31, .bool (p1.Write || p2.Write))]) (b := p1.Write) 3 hS ?_ ?_ ?_
      ·
        intro hb key
        replace hF := Fr.as hF (t := 28) rfl (congrArg Value.bool hb)
        refine ls <| gn hF rfl rfl rfl rfl fun a hF => ?_
        refine ls <| gn hF rfl rfl rfl rfl fun a hF => ?_
        refine ls <| gy hF rfl rfl <| q1 hF rfl (e_as (v' := .bool (p1.Write || p2.Write)) (e_pickT hF rfl rfl) (by rw [hb]; rfl)) fun a hF => ?_
        exact key _ _ (hF.has ⟨rfl, rfl, trivial⟩) hS
      ·
        intro hb key
        replace hF := Fr.as hF (t := 28) rfl (congrArg Value.bool hb)
        refine ls <| gy hF rfl rfl <| q1 hF rfl (e_fa hF fa27_2 rfl) fun a hF => ?_
        refine ls <| gy hF rfl rfl <| q1 hF rfl (e_ld hF Tryd.isAgg4 rfl ((St.ld hS).cellB (.head _) rfl)) fun a hF => ?_
        refine ls <| gy hF rfl rfl <| q1 hF rfl (e_as (v' := .bool (p1.Write || p2.Write)) (e_pickF hF rfl rfl) (by rw [hb]; rfl)) fun a hF => ?_
        exact key _ _ (hF.has ⟨rfl, rfl, trivial⟩) hS
      intro a w hF hS
      refine ls <| q1 hF rfl (e_as (v' := .bool (((decide (p1.What = p2.What)) && (decide (p1.N = p2.N))) && (p1.Write || p2.Write))) (e_pickT hF rfl rfl) (by rw [hb]; rfl)) fun a hF => ?_
      exact key _ _ (hF.has ⟨rfl, trivial⟩) hS
    ·
      intro hb key
      replace hF := Fr.as hF (t := 25) rfl (congrArg Value.bool hb)
      refine ls <| gn hF rfl rfl rfl rfl fun a hF => ?_
      refine ls <| gn hF rfl rfl rfl rfl fun a hF => ?_
      refine ls <| gn hF rfl rfl rfl rfl fun a hF => ?_
      refine ls <| gnu hF rfl rfl rfl fun a hF => ?_
      refine ls <| gnu hF rfl rfl rfl fun a hF => ?_
      refine ls <| gn hF rfl rfl rfl rfl fun a hF => ?_
      refine ls <| q1 hF rfl (e_as (v' := .bool (((decide (p1.What = p2.What)) && (decide (p1.N = p2.N))) && (p1.Write || p2.Write))) (e_pickF hF rfl rfl) (by rw [hb]; rfl)) fun a hF => ?_
      exact key _ _ (hF.has ⟨rfl, trivial⟩) hS
    intro a w hF hS
    refine ls <| q1 hF rfl (e_asg hF rfl) fun a hF => ?_
    refine re <| ?_
    refine tn <| ?_
    refine wp_ret <| ?_
    obtain rfl := Option.some.inj hm
    exact r1 hF Tryd.results22 rfl ⟨rfl, hS.keep⟩

set_option maxRecDepth 100000 in
theorem event_Depend_1_1_c {N : Nat} {w0 : World} {H : PH} (hH : H.le w0) {p1 : api_Use} {y3 : api_Use} {b2 : Nat} (hb4 : H b2 = some (.cells [.int .i64 y3.What, .int .i64 y3.N, .bool y3.Write].toArray 27 (0, 0))) {r : Bool} (hm : event_Depend_1_1 N p1 y3 = some r) : Tot Tryd.prog 43 #[.agg #[.int .i64 p1.What, .int .i64 p1.N, .bool p1.Write], .pointer (some ⟨b2, 0, none⟩)] w0 (fun v w' => v = .bool r ∧ Keep Nil w0 w') := by
  unfold event_Depend_1_1 at hm
  refine fn0 (args := [.agg #[.int .i64 p1.What, .int .i64 p1.N, .bool p1.Write], .pointer (some ⟨b2, 0, none⟩)]) (F := [(0, .agg #[.int .i64 p1.What, .int .i64 p1.N, .bool p1.Write]), (1, .pointer (some ⟨b2, 0, none⟩))]) Tryd.func43 rfl Tryd.ntmps43 rfl rfl fun a hF => ?_
  have hS : St w0 Nil [H] [] w0 := start1 hH
  refine th <| ?_
  refine rg <| ?_
  refine ls <| a_box (cs := [.int .i64 p1.What, .int .i64 p1.N, .bool p1.Write].toArray) hF rfl hS rfl rfl fun b5 w a hS hF => ?_
  refine ls <| q1 hF rfl (e_asg hF rfl) fun a hF => ?_
  refine re <| ?_
  refine tn <| th <| ?_
  replace hm := bind_some hm
  obtain ⟨r6, h7, hm⟩ := hm
  refine rg <| ?_
  refine ls <| q1 hF rfl (e_ldA hF Tryd.isAgg27 Tryd.sizeOf27 rfl rfl (cellsR (Lds.le (St.ld hS)) hb4)) fun a hF => ?_
  refine ls <| q1 hF rfl (e_ldA hF Tryd.isAgg27 Tryd.sizeOf27 rfl rfl ((St.ld hS).cellsB (.head _))) fun a hF => ?_
  refine ls <| c1 hF rfl Tryd.call22 (event_Clash_c (hp_le _) h7) ⟨rfl, rfl, trivial⟩ (fun v w a hR hF => ?_)
  obtain ⟨rfl, hk⟩ := hR
  replace hS := hS.pass hk
  clear hk
  refine ls <| q1 hF rfl (e_asg hF rfl) fun a hF => ?_
  refine re <| ?_
  refine tn <| ?_
  refine wp_ret <| ?_
  obtain rfl := Option.some.inj hm
  exact r1 hF Tryd.results43 rfl ⟨rfl, hS.keep⟩

set_option maxRecDepth 100000 in
theorem slices_IndexFunc_api_Use_api_Use__Depend_1_1_c {N : Nat} {w0 : World} {H : PH} (hH : H.le w0) {oa2 : Option Addr} {cap3 : Nat} {p1 : (List api_Use)} (hc4 : p1.length ≤ cap3) (hr5 : SR H oa2 p1) {y7 : api_Use} {b6 : Nat} (hb8 : H b6 = some (.cells [.int .i64 y7.What, .int .i64 y7.N, .bool y7.Write].toArray 27 (0, 0))) {r : Int} (hm : slices_IndexFunc_api_Use_api_Use__Depend_1_1 N p1 y7 = some r) : Tot Tryd.prog 59 #[.slice oa2 p1.length cap3, .func (.func 43) #[] #[.pointer (some ⟨b6, 0, none⟩)]] w0 (fun v w' => v = .int .i64 r ∧ Keep Nil w0 w') := by
  unfold slices_IndexFunc_api_Use_api_Use__Depend_1_1 at hm
  refine fn0 (args := [.slice oa2 p1.length cap3, .func (.func 43) #[] #[.pointer (some ⟨b6, 0, none⟩)]]) (F := [(0, .slice oa2 p1.length cap3), (1, .func (.func 43) #[] #[.pointer (some ⟨b6, 0, none⟩)])]) Tryd.func59 rfl Tryd.ntmps59 rfl rfl fun a hF => ?_
  have hS : St w0 Nil [H] [] w0 := start1 hH
  refine th <| ?_
  refine rg <| ?_
  refine ls <| q1 hF rfl (e_asg hF rfl) fun a hF => ?_
  refine re <| ?_
  refine tn <| th <| th <| ?_
  refine rg <| ?_
  refine ls <| q1 hF rfl (e_move hF rfl) fun a hF => ?_
  refine ls <| q1 hF rfl (e_lenL (α := api_Use) (xs := p1) hF Tryd.runUnderlying29 rfl) fun a hF => ?_
  refine ls <| q1 hF rfl (e_move hF rfl) fun a hF => ?_
  refine re <| ?_
  refine tn <| midK (fun a w => ∃ (HA1 : PH), slices_IndexFunc_api_Use_api_Use__Depend_1_1_j1 = some r ∧ Ext w0 H HA1 ∧ Fr 19 [] a ∧ St w0 Nil [HA1] [] w) ?_ ?_
  ·
    refine wp_block <| lp (α := Nat × Int) (fun (gh : Nat × Int) a w => match gh with | (nn2, vB6) => ∃ (HB1 : PH) (oaB2 : Option Addr) (capB3 : Nat), (slices_IndexFunc_api_Use_api_Use__Depend_1_1_l2 N slices_IndexFunc_api_Use_api_Use__Depend_1_1_j1 p1 y7) nn2 vB6 = some r ∧ Ext w0 H HB1 ∧ Fr 19 [(0, .slice oaB2 p1.length capB3), (1, .func (.func 43) #[] #[.pointer (some ⟨b6, 0, none⟩)]), (7, .int .i64 (p1.length : Int)), (8, .int .i64 vB6)] a ∧ St w0 Nil [HB1] [] w ∧ p1.length ≤ capB3 ∧ SR HB1 oaB2 p1) (fun gh => gh.1) (N, 0) ⟨H, oa2, cap3, hm, (Ext.refl _ _), hF.has ⟨rfl, rfl, rfl, rfl, trivial⟩, hS, hc4, hr5⟩ ?_
    clear hm hF hS
    rintro ⟨nn2, vB6⟩ a w ⟨HB1, oaB2, capB3, hm, hxHB1, hF, hS, hcB4, hrB5⟩
    obtain _ | nn2 := nn2
    · simp [slices_IndexFunc_api_Use_api_Use__Depend_1_1_l2] at hm
    rw [slices_IndexFunc_api_Use_api_Use__Depend_1_1_l2] at hm
    refine th <| ?_
    refine rg <| ?_
    refine ls <| q1 hF rfl (e_lss hF rfl rfl) fun a hF => ?_
    refine re <| ?_
    rcases bdich (decide (vB6 < (p1.length : Int))) with hb9 | hb9
    ·
      replace hm := itp_t hm hb9
      refine tn <| th <| ctv hF rfl hb9 <| wp_skip <| ?_
      refine tn <| th <| wp_block <| th <| ?_
      refine rg <| ?_
      refine ls <| q1 hF rfl (e_move hF rfl) fun a hF => ?_
      refine ls <| q1 hF rfl (e_asg hF rfl) fun a hF => ?_
      refine re <| ?_
      refine tn <| th <| ?_
      replace hm := bind_some hm
      obtain ⟨x10, h11, hm⟩ := hm
      obtain ⟨c12, g13, hl14⟩ := SR.get hrB5 h11
      obtain rfl := api_Use_open g13
      replace hm := bind_some hm
      obtain ⟨r15, h16, hm⟩ := hm
      refine rg <| ?_
      refine ls <| q1 hF rfl (e_move hF rfl) fun a hF => ?_
      refine ls <| q1 hF rfl (e_move hF rfl) fun a hF => ?_
      refine ls <| q1 hF rfl (e_move hF rfl) fun a hF => ?_
      refine ls <| q1 hF rfl (e_iaI hF Tryd.runUnderlying29 Tryd.sizeOf27 rfl rfl h11 (SR.oaI hrB5 (by decide) h11)) fun a hF => ?_
      refine ls <| q1 hF rfl (e_ldA hF Tryd.isAgg27 Tryd.sizeOf27 rfl rfl (fun j v hj => PH.le.cell (Lds.le (St.ld hS)) (hl14 j v hj))) fun a hF => ?_
      refine ls <| k1 (vs := [.agg #[.int .i64 x10.What, .int .i64 x10.N, .bool x10.Write]]) (caps := [.pointer (some ⟨b6, 0, none⟩)]) hF rfl rfl Tryd.call43 (event_Depend_1_1_c (hp_le _) (St.up hS _ _ (hxHB1.sub _ _ hb8)) h16) ⟨rfl, trivial⟩ rfl (fun v w a hR hF => ?_)
      obtain ⟨rfl, hk⟩ := hR
      replace hS := hS.pass hk
      clear hk
      refine re <| ?_
      rcases bdich r15 with hb17 | hb17
      ·
        replace hm := ite_t hm hb17
        refine tn <| ctv hF rfl hb17 <| th <| ?_
        refine rg <| ?_
        refine ls <| q1 hF rfl (e_move hF rfl) fun a hF => ?_
        refine ls <| q1 hF rfl (e_asg hF rfl) fun a hF => ?_
        refine re <| ?_
        refine tn <| ?_
        refine wp_ret <| br <| tr <| tr <| br <| tr <| ?_
        obtain rfl := Option.some.inj hm
        exact r1 hF Tryd.results59 rfl ⟨rfl, hS.keep⟩
      ·
        replace hm := ite_f hm hb17
        refine tn <| cfv hF rfl hb17 <| wp_skip <| ?_
        refine bn <| tn <| ?_
        refine rg <| ?_
        refine ls <| q1 hF rfl (e_add hF rfl rfl) fun a hF => ?_
        refine ls <| q1 hF rfl (e_move hF rfl) fun a hF => ?_
        refine re <| ?_
        refine tn <| ?_
        exact ⟨(nn2, (IntKind.i64.wrap (vB6 + 1))), ⟨HB1, oaB2, capB3, hm, hxHB1, hF.has ⟨rfl, rfl, rfl, rfl, trivial⟩, hS, hcB4, hrB5⟩, Nat.lt_succ_self _⟩
    ·
      replace hm := itp_f hm hb9
      refine tn <| th <| cfv hF rfl hb9 <| ?_
      refine wp_exit <| tx <| tx <| bx <| ?_
      refine tn <| ?_
      exact ⟨HB1, hm, hxHB1, hF.has trivial, hS⟩
  clear hm hF hS
  rintro a w ⟨HA1, hm, hxHA1, hF, hS⟩
  unfold slices_IndexFunc_api_Use_api_Use__Depend_1_1_j1 at hm
  refine th <| ?_
  refine rg <| ?_
  refine ls <| q1 hF rfl (e_asg hF rfl) fun a hF => ?_
  refine re <| ?_
  refine tn <| ?_
  refine wp_ret <| ?_
  obtain rfl := Option.some.inj hm
  exact r1 hF Tryd.results59 rfl ⟨rfl, hS.keep⟩

set_option maxRecDepth 100000 in
theorem slices_ContainsFunc_api_Use_api_Use__Depend_1_1_c {N : Nat} {w0 : World} {H : PH} (hH : H.le w0) {oa2 : Option Addr} {cap3 : Nat} {p1 : (List api_Use)} (hc4 : p1.length ≤ cap3) (hr5 : SR H oa2 p1) {y7 : api_Use} {b6 : Nat} (hb8 : H b6 = some (.cells [.int .i64 y7.What, .int .i64 y7.N, .bool y7.Write].toArray 27 (0, 0))) {r : Bool} (hm : slices_ContainsFunc_api_Use_api_Use__Depend_1_1 N p1 y7 = some r) : Tot Tryd.prog 41 #[.slice oa2 p1.length cap3, .func (.func 43) #[] #[.pointer (some ⟨b6, 0, none⟩)]] w0 (fun v w' => v = .bool r ∧ Keep Nil w0 w') := by
  unfold slices_ContainsFunc_api_Use_api_Use__Depend_1_1 at hm
  refine fn0 (args := [.slice oa2 p1.length cap3, .func (.func 43) #[] #[.pointer (some ⟨b6, 0, none⟩)]]) (F := [(0, .slice oa2 p1.length cap3), (1, .func (.func 43) #[] #[.pointer (some ⟨b6, 0, none⟩)])]) Tryd.func41 rfl Tryd.ntmps41 rfl rfl fun a hF => ?_
  have hS : St w0 Nil [H] [] w0 := start1 hH
  refine th <| ?_
  refine rg <| ?_
  refine ls <| q1 hF rfl (e_asg hF rfl) fun a hF => ?_
  refine re <| ?_
  refine tn <| th <| ?_
  replace hm := bind_some hm
  obtain ⟨r9, h10, hm⟩ := hm
  refine rg <| ?_
  refine ls <| q1 hF rfl (e_move hF rfl) fun a hF => ?_
  refine ls <| q1 hF rfl (e_move hF rfl) fun a hF => ?_
  refine ls <| c1 hF rfl Tryd.call59 (slices_IndexFunc_api_Use_api_Use__Depend_1_1_c (hp_le _) hc4 (St.srH hS hr5) (St.up hS _ _ hb8) h10) ⟨rfl, rfl, trivial⟩ (fun v w a hR hF => ?_)
  obtain ⟨rfl, hk⟩ := hR
  replace hS := hS.pass hk
  clear hk
  refine ls <| q1 hF rfl (e_geq hF rfl rfl) fun a hF => ?_
  refine ls <| q1 hF rfl (e_asg hF rfl) fun a hF => ?_
  refine re <| ?_
  refine tn <| ?_
  refine wp_ret <| ?_
  obtain rfl := Option.some.inj hm
  exact r1 hF Tryd.results41 rfl ⟨rfl, hS.keep⟩

set_option maxRecDepth 100000 in
theorem event_Depend_1_c {N : Nat} {w0 : World} {H : PH} (hH : H.le w0) {p1 : api_Use} {oa4 : Option Addr} {cap5 : Nat} {y3 : (List api_Use)} (hc6 : y3.length ≤ cap5) (hr7 : SR H oa4 y3) {b2 : Nat} (hb8 : H b2 = some (.cells [.slice oa4 y3.length cap5].toArray 29 (0, 0))) {r : Bool} (hm : event_Depend_1 N p1 y3 = some r) : Tot Tryd.prog 42 #[.agg #[.int .i64 p1.What, .int .i64 p1.N, .bool p1.Write], .pointer (some ⟨b2, 0, none⟩)] w0 (fun v w' => v = .bool r ∧ Keep Nil w0 w') := by
  unfold event_Depend_1 at hm
  refine fn0 (args := [.agg #[.int .i64 p1.What, .int .i64 p1.N, .bool p1.Write], .pointer (some ⟨b2, 0, none⟩)]) (F := [(0, .agg #[.int .i64 p1.What, .int .i64 p1.N, .bool p1.Write]), (1, .pointer (some ⟨b2, 0, none⟩))]) Tryd.func42 rfl Tryd.ntmps42 rfl rfl fun a hF => ?_
  have hS : St w0 Nil [H] [] w0 := start1 hH
  refine th <| ?_
  refine rg <| ?_
  refine ls <| a_box (cs := [.int .i64 p1.What, .int .i64 p1.N, .bool p1.Write].toArray) hF rfl hS rfl rfl fun b9 w a hS hF => ?_
  refine ls <| q1 hF rfl (e_asg hF rfl) fun a hF => ?_
  refine re <| ?_
  refine tn <| th <| ?_
  replace hm := bind_some hm
  obtain ⟨r10, h11, hm⟩ := hm
  refine rg <| ?_
  refine ls <| q1 hF rfl (e_ld hF Tryd.isAgg29 rfl (PH.le.cell (Lds.le (St.ld hS)) (ph_cell hb8 rfl))) fun a hF => ?_
  refine ls <| q1 hF rfl (e_mkf (vs := [.pointer (some ⟨b9, 0, none⟩)]) hF ⟨rfl, trivial⟩) fun a hF => ?_
  refine ls <| c1 hF rfl Tryd.call41 (slices_ContainsFunc_api_Use_api_Use__Depend_1_1_c (hp_le _) hc6 (St.srH hS hr7) (St.blkO hS (.head _)) h11) ⟨rfl, rfl, trivial⟩ (fun v w a hR hF => ?_)
  obtain ⟨rfl, hk⟩ := hR
  replace hS := hS.pass hk
  clear hk
  refine ls <| q1 hF rfl (e_asg hF rfl) fun a hF => ?_
  refine re <| ?_
  refine tn <| ?_
  refine wp_ret <| ?_
  obtain rfl := Option.some.inj hm
  exact r1 hF Tryd.results42 rfl ⟨rfl, hS.keep⟩

set_option maxRecDepth 100000 in
theorem slices_IndexFunc_api_Use_api_Use__Depend_1_c {N : Nat} {w0 : World} {H : PH} (hH : H.le w0) {oa2 : Option Addr} {cap3 : Nat} {p1 : (List api_Use)} (hc4 : p1.length ≤ cap3) (hr5 : SR H oa2 p1) {oa8 : Option Addr} {cap9 : Nat} {y7 : (List api_Use)} (hc10 : y7.length ≤ cap9) (hr11 : SR H oa8 y7) {b6 : Nat} (hb12 : H b6 = some (.cells [.slice oa8 y7.length cap9].toArray 29 (0, 0))) {r : Int} (hm : slices_IndexFunc_api_Use_api_Use__Depend_1 N p1 y7 = some r) : Tot Tryd.prog 59 #[.slice oa2 p1.length cap3, .func (.func 42) #[] #[.pointer (some ⟨b6, 0, none⟩)]] w0 (fun v w' => v = .int .i64 r ∧ Keep Nil w0 w') := by
  unfold slices_IndexFunc_api_Use_api_Use__Depend_1 at hm
  refine fn0 (args := [.slice oa2 p1.length cap3, .func (.func 42) #[] #[.pointer (some ⟨b6, 0, none⟩)]]) (F := [(0, .slice oa2 p1.length cap3), (1, .func (.func 42) #[] #[.pointer (some ⟨b6, 0, none⟩)])]) Tryd.func59 rfl Tryd.ntmps59 rfl rfl fun a hF => ?_
  have hS : St w0 Nil [H] [] w0 := start1 hH
  refine th <| ?_
  refine rg <| ?_
  refine ls <| q1 hF rfl (e_asg hF rfl) fun a hF => ?_
  refine re <| ?_
  refine tn <| th <| th <| ?_
  refine rg <| ?_
  refine ls <| q1 hF rfl (e_move hF rfl) fun a hF => ?_
  refine ls <| q1 hF rfl (e_lenL (α := api_Use) (xs := p1) hF Tryd.runUnderlying29 rfl) fun a hF => ?_
  refine ls <| q1 hF rfl (e_move hF rfl) fun a hF => ?_
  refine re <| ?_
  refine tn <| midK (fun a w => ∃ (HA1 : PH), slices_IndexFunc_api_Use_api_Use__Depend_1_j1 = some r ∧ Ext w0 H HA1 ∧ Fr 19 [] a ∧ St w0 Nil [HA1] [] w) ?_ ?_
  ·
    refine wp_block <| lp (α := Nat × Int) (fun (gh : Nat × Int) a w => match gh with | (nn2, vB6) => ∃ (HB1 : PH) (oaB2 : Option Addr) (capB3 : Nat), (slices_IndexFunc_api_Use_api_Use__Depend_1_l2 N slices_IndexFunc_api_Use_api_Use__Depend_1_j1 p1 y7) nn2 vB6 = some r ∧ Ext w0 H HB1 ∧ Fr 19 [(0, .slice oaB2 p1.length capB3), (1, .func (.func 42) #[] #[.pointer (some ⟨b6, 0, none⟩)]), (7, .int .i64 (p1.length : Int)), (8, .int .i64 vB6)] a ∧ St w0 Nil [HB1] [] w ∧ p1.length ≤ capB3 ∧ SR HB1 oaB2 p1) (fun gh => gh.1) (N, 0) ⟨H, oa2, cap3, hm, (Ext.refl _ _), hF.has ⟨rfl, rfl, rfl, rfl, trivial⟩, hS, hc4, hr5⟩ ?_
    clear hm hF hS
    rintro ⟨nn2, vB6⟩ a w ⟨HB1, oaB2, capB3, hm, hxHB1, hF, hS, hcB4, hrB5⟩
    obtain _ | nn2 := nn2
    · simp [slices_IndexFunc_api_Use_api_Use__Depend_1_l2] at hm
    rw [slices_IndexFunc_api_Use_api_Use__Depend_1_l2] at hm
    refine th <| ?_
    refine rg <| ?_
    refine ls <| q1 hF rfl (e_lss hF rfl rfl) fun a hF => ?_
    refine re <| ?_
    rcases bdich (decide (vB6 < (p1.length : Int))) with hb13 | hb13
    ·
      replace hm := itp_t hm hb13
      refine tn <| th <| ctv hF rfl hb13 <| wp_skip <| ?_
      refine tn <| th <| wp_block <| th <| ?_
      refine rg <| ?_
      refine ls <| q1 hF rfl (e_move hF rfl) fun a hF => ?_
      refine ls <| q1 hF rfl (e_asg hF rfl) fun a hF => ?_
      refine re <| ?_
      refine tn <| th <| ?_
      replace hm := bind_some hm
      obtain ⟨x14, h15, hm⟩ := hm
      obtain ⟨c16, g17, hl18⟩ := SR.get hrB5 h15
      obtain rfl := api_Use_open g17
      replace hm := bind_some hm
      obtain ⟨r19, h20, hm⟩ := hm
      refine rg <| ?_
      refine ls <| q1 hF rfl (e_move hF rfl) fun a hF => ?_
      refine ls <| q1 hF rfl (e_move hF rfl) fun a hF => ?_
      refine ls <| q1 hF rfl (e_move hF rfl) fun a hF => ?_
      refine ls <| q1 hF rfl (e_iaI hF Tryd.runUnderlying29 Tryd.sizeOf27 rfl rfl h15 (SR.oaI hrB5 (by decide) h15)) fun a hF => ?_
      refine ls <| q1 hF rfl (e_ldA hF Tryd.isAgg27 Tryd.sizeOf27 rfl rfl (fun j v hj => PH.le.cell (Lds.le (St.ld hS)) (hl18 j v hj))) fun a hF => ?_
      refine ls <| k1 (vs := [.agg #[.int .i64 x14.What, .int .i64 x14.N, .bool x14.Write]]) (caps := [.pointer (some ⟨b6, 0, none⟩)]) hF rfl rfl Tryd.call42 (event_Depend_1_c (hp_le _) hc10 (St.srH hS (hr11.mono hxHB1.sub)) (St.up hS _ _ (hxHB1.sub _ _ hb12)) h20) ⟨rfl, trivial⟩ rfl (fun v w a hR hF => ?_)
      obtain ⟨rfl, hk⟩ := hR
      replace hS := hS.pass hk
      clear hk
      refine re <| ?_
      rcases bdich r19 with hb21 | hb21
      ·
        replace hm := ite_t hm hb21
        refine tn <| ctv hF rfl hb21 <| th <| ?_
        refine rg <| ?_
        refine ls <| q1 hF rfl (e_move hF rfl) fun a hF => ?_
        refine ls <| q1 hF rfl (e_asg hF rfl) fun a hF => ?_
        refine re <| ?_
        refine tn <| ?_
        refine wp_ret <| br <| tr <| tr <| br <| tr <| ?_
        obtain rfl := Option.some.inj hm
        exact r1 hF Tryd.results59 rfl ⟨rfl, hS.keep⟩
      ·
        replace hm := ite_f hm hb21
        refine tn <| cfv hF rfl hb21 <| wp_skip <| ?_
        refine bn <| tn <| ?_
        refine rg <| ?_
        refine ls <| q1 hF rfl (e_add hF rfl rfl) fun a hF => ?_
        refine ls <| q1 hF rfl (e_move hF rfl) fun a hF => ?_
        refine re <| ?_
        refine tn <| ?_
        exact ⟨(nn2, (IntKind.i64.wrap (vB6 + 1))), ⟨HB1, oaB2, capB3, hm, hxHB1, hF.has ⟨rfl, rfl, rfl, rfl, trivial⟩, hS, hcB4, hrB5⟩, Nat.lt_succ_self _⟩
    ·
      replace hm := itp_f hm hb13
      refine tn <| th <| cfv hF rfl hb13 <| ?_
      refine wp_exit <| tx <| tx <| bx <| ?_
      refine tn <| ?_
      exact ⟨HB1, hm, hxHB1, hF.has trivial, hS⟩
  clear hm hF hS
  rintro a w ⟨HA1, hm, hxHA1, hF, hS⟩
  unfold slices_IndexFunc_api_Use_api_Use__Depend_1_j1 at hm
  refine th <| ?_
  refine rg <| ?_
  refine ls <| q1 hF rfl (e_asg hF rfl) fun a hF => ?_
  refine re <| ?_
  refine tn <| ?_
  refine wp_ret <| ?_
  obtain rfl := Option.some.inj hm
  exact r1 hF Tryd.results59 rfl ⟨rfl, hS.keep⟩

set_option maxRecDepth 100000 in
theorem slices_ContainsFunc_api_Use_api_Use__Depend_1_c {N : Nat} {w0 : World} {H : PH} (hH : H.le w0) {oa2 : Option Addr} {cap3 : Nat} {p1 : (List api_Use)} (hc4 : p1.length ≤ cap3) (hr5 : SR H oa2 p1) {oa8 : Option Addr} {cap9 : Nat} {y7 : (List api_Use)} (hc10 : y7.length ≤ cap9) (hr11 : SR H oa8 y7) {b6 : Nat} (hb12 : H b6 = some (.cells [.slice oa8 y7.length cap9].toArray 29 (0, 0))) {r : Bool} (hm : slices_ContainsFunc_api_Use_api_Use__Depend_1 N p1 y7 = some r) : Tot Tryd.prog 41 #[.slice oa2 p1.length cap3, .func (.func 42) #[] #[.pointer (some ⟨b6, 0, none⟩)]] w0 (fun v w' => v = .bool r ∧ Keep Nil w0 w') := by
  unfold slices_ContainsFunc_api_Use_api_Use__Depend_1 at hm
  refine fn0 (args := [.slice oa2 p1.length cap3, .func (.func 42) #[] #[.pointer (some ⟨b6, 0, none⟩)]]) (F := [(0, .slice oa2 p1.length cap3), (1, .func (.func 42) #[] #[.pointer (some ⟨b6, 0, none⟩)])]) Tryd.func41 rfl Tryd.ntmps41 rfl rfl fun a hF => ?_
  have hS : St w0 Nil [H] [] w0 := start1 hH
  refine th <| ?_
  refine rg <| ?_
  refine ls <| q1 hF rfl (e_asg hF rfl) fun a hF => ?_
  refine re <| ?_
  refine tn <| th <| ?_
  replace hm := bind_some hm
  obtain ⟨r13, h14, hm⟩ := hm
  refine rg <| ?_
  refine ls <| q1 hF rfl (e_move hF rfl) fun a hF => ?_
  refine ls <| q1 hF rfl (e_move hF rfl) fun a hF => ?_
  refine ls <| c1 hF rfl Tryd.call59 (slices_IndexFunc_api_Use_api_Use__Depend_1_c (hp_le _) hc4 (St.srH hS hr5) hc10 (St.srH hS hr11) (St.up hS _ _ hb12) h14) ⟨rfl, rfl, trivial⟩ (fun v w a hR hF => ?_)
  obtain ⟨rfl, hk⟩ := hR
  replace hS := hS.pass hk
  clear hk
  refine ls <| q1 hF rfl (e_geq hF rfl rfl) fun a hF => ?_
  refine ls <| q1 hF rfl (e_asg hF rfl) fun a hF => ?_
  refine re <| ?_
  refine tn <| ?_
  refine wp_ret <| ?_
  obtain rfl := Option.some.inj hm
  exact r1 hF Tryd.results41 rfl ⟨rfl, hS.keep⟩

set_option maxRecDepth 100000 in
theorem event_Depend_c {N : Nat} {w0 : World} {H : PH} (hH : H.le w0) {p1 : api_Event} {p2 : api_Event} {oa4 : Option Addr} {cap5 : Nat} {p3 : (List Int)} (hc6 : p3.length ≤ cap5) (hr7 : SR H oa4 p3) {p8 : Int} {r : Bool} (hm : event_Depend N p1 p2 p3 p8 = some r) : Tot Tryd.prog 16 #[.agg #[.int .i64 p1.Kind, .int .i64 p1.T, .int .i64 p1.A, .int .i64 p1.N, .int .i64 p1.M], .agg #[.int .i64 p2.Kind, .int .i64 p2.T, .int .i64 p2.A, .int .i64 p2.N, .int .i64 p2.M], .slice oa4 p3.length cap5, .int .i64 p8] w0 (fun v w' => v = .bool r ∧ Keep Nil w0 w') := by
  unfold event_Depend at hm
  refine fn0 (args := [.agg #[.int .i64 p1.Kind, .int .i64 p1.T, .int .i64 p1.A, .int .i64 p1.N, .int .i64 p1.M], .agg #[.int .i64 p2.Kind, .int .i64 p2.T, .int .i64 p2.A, .int .i64 p2.N, .int .i64 p2.M], .slice oa4 p3.length cap5, .int .i64 p8]) (F := [(0, .agg #[.int .i64 p1.Kind, .int .i64 p1.T, .int .i64 p1.A, .int .i64 p1.N, .int .i64 p1.M]), (1, .agg #[.int .i64 p2.Kind, .int .i64 p2.T, .int .i64 p2.A, .int .i64 p2.N, .int .i64 p2.M]), (2, .slice oa4 p3.length cap5), (3, .int .i64 p8)]) Tryd.func16 rfl Tryd.ntmps16 rfl rfl fun a hF => ?_
  have hS : St w0 Nil [H] [] w0 := start1 hH
  refine th <| ?_
  refine rg <| ?_
  refine ls <| a_box (cs := [.int .i64 p1.Kind, .int .i64 p1.T, .int .i64 p1.A, .int .i64 p1.N, .int .i64 p1.M].toArray) hF rfl hS rfl rfl fun b9 w a hS hF => ?_
  refine ls <| a_box (cs := [.int .i64 p2.Kind, .int .i64 p2.T, .int .i64 p2.A, .int .i64 p2.N, .int .i64 p2.M].toArray) hF rfl hS rfl rfl fun b10 w a hS hF => ?_
  refine ls <| q1 hF rfl (e_asg hF rfl) fun a hF => ?_
  refine re <| ?_
  refine tn <| th <| th <| midK (fun a w => ∃ (vA6 : Bool) (HA1 : PH) (oaA2 : Option Addr) (capA3 : Nat), (event_Depend_j1 N p1 p2 p3 p8) vA6 = some r ∧ Ext w0 H HA1 ∧ Fr 33 [(2, .slice oaA2 p3.length capA3), (3, .int .i64 p8), (4, .pointer (some ⟨b9, 0, none⟩)), (5, .pointer (some ⟨b10, 0, none⟩)), (22, .bool vA6)] a ∧ St w0 Nil [HA1] [blk b9 (.cells [.int .i64 p1.Kind, .int .i64 p1.T, .int .i64 p1.A, .int .i64 p1.N, .int .i64 p1.M].toArray 23 (0, 0)), blk b10 (.cells [.int .i64 p2.Kind, .int .i64 p2.T, .int .i64 p2.A, .int .i64 p2.N, .int .i64 p2.M].toArray 23 (0, 0))] w ∧ p3.length ≤ capA3 ∧ SR HA1 oaA2 p3) ?_ ?_
  ·
    rcases bdich (decide (p1.T = p2.T)) with hb11 | hb11
    ·
      replace hm := itp_t hm hb11
      refine rg <| ?_
      refine ls <| q1 hF rfl (e_fa hF fa23_1 rfl) fun a hF => ?_
      refine ls <| q1 hF rfl (e_ld hF Tryd.isAgg3 rfl ((St.ld hS).cellB (.tail _ (.head _)) rfl)) fun a hF => ?_
      refine ls <| q1 hF rfl (e_fa hF fa23_1 rfl) fun a hF => ?_
      refine ls <| q1 hF rfl (e_ld hF Tryd.isAgg3 rfl ((St.ld hS).cellB (.head _) rfl)) fun a hF => ?_
      refine ls <| q1 hF rfl (e_eql hF rfl rfl) fun a hF => ?_
      refine ls <| q1 hF rfl (e_as (e_move hF rfl) (congrArg Value.bool hb11)) fun a hF => ?_
      refine ls <| gn hF rfl rfl rfl rfl fun a hF => ?_
      refine ls <| gn hF rfl rfl rfl rfl fun a hF => ?_
      refine ls <| q1 hF rfl (e_pickT hF rfl rfl) fun a hF => ?_
      refine ls <| q1 hF rfl (e_move hF rfl) fun a hF => ?_
      refine ls <| gn hF rfl rfl rfl rfl fun a hF => ?_
      refine ls <| gn hF rfl rfl rfl rfl fun a hF => ?_
      refine ls <| q1 hF rfl (e_pickT hF rfl rfl) fun a hF => ?_
      refine re <| ?_
      refine tn <| ?_
      replace hS := hS.pickL (.cons (.tail .head) (.cons .head .nil))
      exact ⟨true, H, oa4, cap5, hm, (Ext.refl _ _), hF.has ⟨rfl, rfl, rfl, rfl, rfl, trivial⟩, hS, hc6, hr7⟩
    ·
      replace hm := itp_f hm hb11
      replace hm := bind_some hm
      obtain ⟨r12, h13, hm⟩ := hm
      rcases bdich r12 with hb14 | hb14
      ·
        replace hm := ite_t hm hb14
        refine rg <| ?_
        refine ls <| q1 hF rfl (e_fa hF fa23_1 rfl) fun a hF => ?_
        refine ls <| q1 hF rfl (e_ld hF Tryd.isAgg3 rfl ((St.ld hS).cellB (.tail _ (.head _)) rfl)) fun a hF => ?_
        refine ls <| q1 hF rfl (e_fa hF fa23_1 rfl) fun a hF => ?_
        refine ls <| q1 hF rfl (e_ld hF Tryd.isAgg3 rfl ((St.ld hS).cellB (.head _) rfl)) fun a hF => ?_
        refine ls <| q1 hF rfl (e_eql hF rfl rfl) fun a hF => ?_
        refine ls <| q1 hF rfl (e_as (e_move hF rfl) (congrArg Value.bool hb11)) fun a hF => ?_
        refine ls <| gy hF rfl rfl <| q1 hF rfl (e_ldA hF Tryd.isAgg23 Tryd.sizeOf23 rfl rfl ((St.ld hS).cellsB (.tail _ (.head _)))) fun a hF => ?_
        refine ls <| gy hF rfl rfl <| c1 hF rfl Tryd.call40 (event_all_c (hp_le _) h13) ⟨rfl, trivial⟩ (fun v w a hR hF => ?_)
        obtain ⟨rfl, hk⟩ := hR
        replace hS := hS.pass hk
        clear hk
        refine ls <| q1 hF rfl (e_pickF hF rfl rfl) fun a hF => ?_
        refine ls <| q1 hF rfl (e_as (e_move hF rfl) (congrArg Value.bool hb14)) fun a hF => ?_
        refine ls <| gn hF rfl rfl rfl rfl fun a hF => ?_
        refine ls <| gn hF rfl rfl rfl rfl fun a hF => ?_
        refine ls <| q1 hF rfl (e_pickT hF rfl rfl) fun a hF => ?_
        refine re <| ?_
        refine tn <| ?_
        replace hS := hS.pickL (.cons (.tail .head) (.cons .head .nil))
        exact ⟨true, H, oa4, cap5, hm, (Ext.refl _ _), hF.has ⟨rfl, rfl, rfl, rfl, rfl, trivial⟩, hS, hc6, hr7⟩
      ·
        replace hm := ite_f hm hb14
        replace hm := bind_some hm
        obtain ⟨r15, h16, hm⟩ := hm
        refine rg <| ?_
        refine ls <| q1 hF rfl (e_fa hF fa23_1 rfl) fun a hF => ?_
        refine ls <| q1 hF rfl (e_ld hF Tryd.isAgg3 rfl ((St.ld hS).cellB (.tail _ (.head _)) rfl)) fun a hF => ?_
        refine ls <| q1 hF rfl (e_fa hF fa23_1 rfl) fun a hF => ?_
        refine ls <| q1 hF rfl (e_ld hF Tryd.isAgg3 rfl ((St.ld hS).cellB (.head _) rfl)) fun a hF => ?_
        refine ls <| q1 hF rfl (e_eql hF rfl rfl) fun a hF => ?_
        refine ls <| q1 hF rfl (e_as (e_move hF rfl) (congrArg Value.bool hb11)) fun a hF => ?_
        refine ls <| gy hF rfl rfl <| q1 hF rfl (e_ldA hF Tryd.isAgg23 Tryd.sizeOf23 rfl rfl ((St.ld hS).cellsB (.tail _ (.head _)))) fun a hF => ?_
        refine ls <| gy hF rfl rfl <| c1 hF rfl Tryd.call40 (event_all_c (hp_le _) h13) ⟨rfl, trivial⟩ (fun v w a hR hF => ?_)
        obtain ⟨rfl, hk⟩ := hR
        replace hS := hS.pass hk
        clear hk
        refine ls <| q1 hF rfl (e_pickF hF rfl rfl) fun a hF => ?_
        refine ls <| q1 hF rfl (e_as (e_move hF rfl) (congrArg Value.bool hb14)) fun a hF => ?_
        refine ls <| gy hF rfl rfl <| q1 hF rfl (e_ldA hF Tryd.isAgg23 Tryd.sizeOf23 rfl rfl ((St.ld hS).cellsB (.head _))) fun a hF => ?_
        refine ls <| gy hF rfl rfl <| c1 hF rfl Tryd.call40 (event_all_c (hp_le _) h16) ⟨rfl, trivial⟩ (fun v w a hR hF => ?_)
        obtain ⟨rfl, hk⟩ := hR
        replace hS := hS.pass hk
        clear hk
        refine ls <| q1 hF rfl (e_pickF hF rfl rfl) fun a hF => ?_
        refine re <| ?_
        refine tn <| ?_
        replace hS := hS.pickL (.cons (.tail .head) (.cons .head .nil))
        exact ⟨r15, H, oa4, cap5, hm, (Ext.refl _ _), hF.has ⟨rfl, rfl, rfl, rfl, rfl, trivial⟩, hS, hc6, hr7⟩
  clear hm hF hS
  rintro a w ⟨vA6, HA1, oaA2, capA3, hm, hxHA1, hF, hS, hcA4, hrA5⟩
  unfold event_Depend_j1 at hm
  rcases bdich vA6 with hb17 | hb17
  ·
    replace hm := ite_t hm hb17
    refine ctv hF rfl hb17 <| th <| ?_
    refine rg <| ?_
    refine ls <| q1 hF rfl (e_asg hF rfl) fun a hF => ?_
    refine re <| ?_
    refine tn <| ?_
    refine wp_ret <| tr <| ?_
    obtain rfl := Option.some.inj hm
    exact r1 hF Tryd.results16 rfl ⟨rfl, hS.keep⟩
  ·
    replace hm := ite_f hm hb17
    refine cfv hF rfl hb17 <| wp_skip <| ?_
    refine tn <| th <| ?_
    replace hm := bind_some hm
    obtain ⟨r18, h19, hm⟩ := hm
    refine rg <| ?_
    refine ls <| q1 hF rfl (e_ldA hF Tryd.isAgg23 Tryd.sizeOf23 rfl rfl ((St.ld hS).cellsB (.tail _ (.head _)))) fun a hF => ?_
    refine ls <| q1 hF rfl (e_move hF rfl) fun a hF => ?_
    refine ls <| q1 hF rfl (e_move hF rfl) fun a hF => ?_
    refine ls <| c1 hF rfl Tryd.call14 (event_Uses_c (hp_le _) hcA4 (St.srH hS hrA5) h19) ⟨rfl, rfl, rfl, trivial⟩ (fun v w a hR hF => ?_)
    obtain ⟨oa20, cap21, vs22, rfl, hv23, hk⟩ := hR
    replace hS := hS.fresh hk
    clear hk
    replace hv23 := hv23 HA1
    refine ls <| a_alloc (cs := [.slice none 0 0].toArray) hF rfl hS Tryd.zeroValue29 rfl fun b25 w a hS hF => ?_
    refine ls <| s_blk hF hS Tryd.sizeOf29 rfl rfl rfl rfl .head .zero fun w hS => ?_
    refine re <| ?_
    refine tn <| th <| ?_
    replace hm := bind_some hm
    obtain ⟨r26, h27, hm⟩ := hm
    replace hm := bind_some hm
    obtain ⟨r33, h34, hm⟩ := hm
    refine rg <| ?_
    refine ls <| q1 hF rfl (e_ldA hF Tryd.isAgg23 Tryd.sizeOf23 rfl rfl ((St.ld hS).cellsB (.tail _ (.tail _ (.head _))))) fun a hF => ?_
    refine ls <| q1 hF rfl (e_move hF rfl) fun a hF => ?_
    refine ls <| q1 hF rfl (e_move hF rfl) fun a hF => ?_
    refine ls <| c1 hF rfl Tryd.call14 (event_Uses_c (hp_le _) hcA4 (St.srH hS hrA5) h27) ⟨rfl, rfl, rfl, trivial⟩ (fun v w a hR hF => ?_)
    obtain ⟨oa28, cap29, vs30, rfl, hv31, hk⟩ := hR
    replace hS := hS.fresh hk
    clear hk
    replace hv31 := hv31 HA1
    refine ls <| q1 hF rfl (e_mkf (vs := [.pointer (some ⟨b25, 0, none⟩)]) hF ⟨rfl, trivial⟩) fun a hF => ?_
    refine ls <| c1 hF rfl Tryd.call41 (slices_ContainsFunc_api_Use_api_Use__Depend_1_c (hp_le _) (St.capO hS (.head _)) (St.srO hS (.head _) hv31) (St.capO hS (.tail _ (.tail _ (.head _)))) (St.srO hS (.tail _ (.tail _ (.head _))) hv23) (St.blkO hS (.tail _ (.head _))) h34) ⟨rfl, rfl, trivial⟩ (fun v w a hR hF => ?_)
    obtain ⟨rfl, hk⟩ := hR
    replace hS := hS.pass hk
    clear hk
    refine ls <| q1 hF rfl (e_asg hF rfl) fun a hF => ?_
    refine re <| ?_
    refine tn <| ?_
    refine wp_ret <| ?_
    obtain rfl := Option.some.inj hm
    exact r1 hF Tryd.results16 rfl ⟨rfl, hS.keep⟩

set_option maxRecDepth 100000 in
theorem leadlineref15_Clash_c {N : Nat} {w0 : World} {H : PH} (hH : H.le w0) {p1 : api_Use} {p2 : api_Use} {r : Bool} (hm : leadlineref15_Clash N p1 p2 = some r) : Tot Tryd.prog 23 #[.agg #[.int .i64 p1.What, .int .i64 p1.N, .bool p1.Write], .agg #[.int .i64 p2.What, .int .i64 p2.N, .bool p2.Write]] w0 (fun v w' => v = .bool r ∧ Keep Nil w0 w') := by
  unfold leadlineref15_Clash at hm
  refine fn0 (args := [.agg #[.int .i64 p1.What, .int .i64 p1.N, .bool p1.Write], .agg #[.int .i64 p2.What, .int .i64 p2.N, .bool p2.Write]]) (F := [(0, .agg #[.int .i64 p1.What, .int .i64 p1.N, .bool p1.Write]), (1, .agg #[.int .i64 p2.What, .int .i64 p2.N, .bool p2.Write])]) Tryd.func23 rfl Tryd.ntmps23 rfl rfl fun a hF => ?_
  have hS : St w0 Nil [H] [] w0 := start1 hH
  refine th <| ?_
  refine rg <| ?_
  refine ls <| a_box (cs := [.int .i64 p1.What, .int .i64 p1.N, .bool p1.Write].toArray) hF rfl hS rfl rfl fun b3 w a hS hF => ?_
  refine ls <| a_box (cs := [.int .i64 p2.What, .int .i64 p2.N, .bool p2.Write].toArray) hF rfl hS rfl rfl fun b4 w a hS hF => ?_
  refine ls <| q1 hF rfl (e_asg hF rfl) fun a hF => ?_
  refine re <| ?_
  refine tn <| th <| ?_
  refine rg <| ?_
  refine ls <| q1 hF rfl (e_fa hF fa27_0 rfl) fun a hF => ?_
  refine ls <| q1 hF rfl (e_ld hF Tryd.isAgg3 rfl ((St.ld hS).cellB (.tail _ (.head _)) rfl)) fun a hF => ?_
  refine ls <| q1 hF rfl (e_eql hF rfl rfl) fun a hF => ?_
  refine ls <| q1 hF rfl (e_move hF rfl) fun a hF => ?_
  refine grp (N := 35) (Fk := [(2, .pointer (some ⟨b3, 0, none⟩)), (3, .pointer (some ⟨b4, 0, none⟩)), (12, .bool ((decide (p1.What = 4)) || (decide (p2.What = 4))))]) (b := (decide (p1.What = 4))) 4 hS ?_ ?_ ?_
  ·
    intro hb key
    replace hF := Fr.as hF (t := 8) rfl (congrArg Value.bool hb)
    refine ls <| gn hF rfl rfl rfl rfl fun a hF => ?_
    refine ls <| gn hF rfl rfl rfl rfl fun a hF => ?_
    refine ls <| gn hF rfl rfl rfl rfl fun a hF => ?_
    refine ls <| q1 hF rfl (e_as (v' := .bool ((decide (p1.What = 4)) || (decide (p2.What = 4)))) (e_pickT hF rfl rfl) (by rw [hb]; rfl)) fun a hF => ?_
    exact key _ _ (hF.has ⟨rfl, rfl, rfl, trivial⟩) hS
  ·
    intro hb key
    replace hF := Fr.as hF (t := 8) rfl (congrArg Value.bool hb)
    refine ls <| gy hF rfl rfl <| q1 hF rfl (e_fa hF fa27_0 rfl) fun a hF => ?_
    refine ls <| gy hF rfl rfl <| q1 hF rfl (e_ld hF Tryd.isAgg3 rfl ((St.ld hS).cellB (.head _) rfl)) fun a hF => ?_
    refine ls <| gy hF rfl rfl <| q1 hF rfl (e_eql hF rfl rfl) fun a hF => ?_
    refine ls <| q1 hF rfl (e_as (v' := .bool ((decide (p1.What = 4)) || (decide (p2.What = 4)))) (e_pickF hF rfl rfl) (by rw [hb]; rfl)) fun a hF => ?_
    exact key _ _ (hF.has ⟨rfl, rfl, rfl, trivial⟩) hS
  intro a w hF hS
  refine ls <| q1 hF rfl (e_move hF rfl) fun a hF => ?_
  refine grp (N := 35) (Fk := [(34, .bool (((decide (p1.What = 4)) || (decide (p2.What = 4))) || (((decide (p1.What = p2.What)) && (decide (p1.N = p2.N))) && (p1.Write || p2.Write))))]) (b := ((decide (p1.What = 4)) || (decide (p2.What = 4)))) 21 hS ?_ ?_ ?_
  ·
    intro hb key
    replace hF := Fr.as hF (t := 13) rfl (congrArg Value.bool hb)
    refine ls <| gn hF rfl rfl rfl rfl fun a hF => ?_
    refine ls <| gn hF rfl rfl rfl rfl fun a hF => ?_
    refine ls <| gn hF rfl rfl rfl rfl fun a hF => ?_
    refine ls <| gn hF rfl rfl rfl rfl fun a hF => ?_
    refine ls <| gn hF rfl rfl rfl rfl fun a hF => ?_
    refine ls <| gn hF rfl rfl rfl rfl fun a hF => ?_
    refine ls <| gnu hF rfl rfl rfl fun a hF => ?_
    refine ls <| gnu hF rfl rfl rfl fun a hF => ?_
    refine ls <| gnu hF rfl rfl rfl fun a hF => ?_
    refine ls <| gnu hF rfl rfl rfl fun a hF => ?_
    refine ls <| gnu hF rfl rfl rfl fun a hF => ?_
    refine ls <| gn hF rfl rfl rfl rfl fun a hF => ?_
    refine ls <| gn hF rfl rfl rfl rfl fun a hF => ?_
    refine ls <| gnu hF rfl rfl rfl fun a hF => ?_
    refine ls <| gnu hF rfl rfl rfl fun a hF => ?_
    refine ls <| gnu hF rfl rfl rfl fun a hF => ?_
    refine ls <| gnu hF rfl rfl rfl fun a hF => ?_
    refine ls <| gnu hF rfl rfl rfl fun a hF => ?_
    refine ls <| gnu hF rfl rfl rfl fun a hF => ?_
    refine ls <| gn hF rfl rfl rfl rfl fun a hF => ?_
    refine ls <| q1 hF rfl (e_as (v' := .bool (((decide (p1.What = 4)) || (decide (p2.What = 4))) || (((decide (p1.What = p2.What)) && (decide (p1.N = p2.N))) && (p1.Write || p2.Write)))) (e_pickT hF rfl rfl) (by rw [hb]; rfl)) fun a hF => ?_
    exact key _ _ (hF.has ⟨rfl, trivial⟩) hS
  ·
    intro hb key
    replace hF := Fr.as hF (t := 13) rfl (congrArg Value.bool hb)
    refine ls <| gy hF rfl rfl <| q1 hF rfl (e_fa hF fa27_0 rfl) fun a hF => ?_
    refine ls <| gy hF rfl rfl <| q1 hF rfl (e_ld hF Tryd.isAgg3 rfl ((St.ld hS).cellB (.tail _ (.head _)) rfl)) fun a hF => ?_
    refine ls <| gy hF rfl rfl <| q1 hF rfl (e_fa hF fa27_0 rfl) fun a hF => ?_
    refine ls <| gy hF rfl rfl <| q1 hF rfl (e_ld hF Tryd.isAgg3 rfl ((St.ld hS).cellB (.head _) rfl)) fun a hF => ?_
    refine ls <| gy hF rfl rfl <| q1 hF rfl (e_eql hF rfl rfl) fun a hF => ?_
    refine ls <| gy hF rfl rfl <| q1 hF rfl (e_move hF rfl) fun a hF => ?_
    refine grp (N := 35) (Fk := [(2, .pointer (some ⟨b3, 0, none⟩)), (3, .pointer (some ⟨b4, 0, none⟩)), (13, .bool false), (25, .bool ((decide (p1.What = p2.What)) && (decide (p1.N = p2.N))))]) (b := (decide (p1.What = p2.What))) 6 hS ?_ ?_ ?_
    ·
      intro hb key
      replace hF := Fr.as hF (t := 19) rfl (congrArg Value.bool hb)
      refine ls <| gy hF rfl rfl <| q1 hF rfl (e_fa hF fa27_1 rfl) fun a hF => ?_
      refine ls <| gy hF rfl rfl <| q1 hF rfl (e_ld hF Tryd.isAgg3 rfl ((St.ld hS).cellB (.tail _ (.head _)) rfl)) fun a hF => ?_
      refine ls <| gy hF rfl rfl <| q1 hF rfl (e_fa hF fa27_1 rfl) fun a hF => ?_
      refine ls <| gy hF rfl rfl <| q1 hF rfl (e_ld hF Tryd.isAgg3 rfl ((St.ld hS).cellB (.head _) rfl)) fun a hF => ?_
      refine ls <| gy hF rfl rfl <| q1 hF rfl (e_eql hF rfl rfl) fun a hF => ?_
      refine ls <| gy hF rfl rfl <| q1 hF rfl (e_as (v' := .bool ((decide (p1.What = p2.What)) && (decide (p1.N = p2.N)))) (e_pickT hF rfl rfl) (by rw [hb]; rfl)) fun a hF => ?_
      exact key _ _ (hF.has ⟨rfl, rfl, rfl, rfl, trivial⟩) hS
    ·
      intro hb key
      replace hF := Fr.as hF (t := 19) rfl (congrArg Value.bool hb)
      refine ls <| gn hF rfl rfl rfl rfl fun a hF => ?_
      refine ls <| gn hF rfl rfl rfl rfl fun a hF => ?_
      refine ls <| gn hF rfl rfl rfl rfl fun a hF => ?_
      refine ls <| gn hF rfl rfl rfl rfl fun a hF => ?_
      refine ls <| gn hF rfl rfl rfl rfl fun a hF => ?_
      refine ls <| gy hF rfl rfl <| q1 hF rfl (e_as (v' := .bool ((decide (p1.What = p2.What)) && (decide (p1.N = p2.N)))) (e_pickF hF rfl rfl) (by rw [hb]; rfl)) fun a hF => ?_
      exact key _ _ (hF.has ⟨rfl, rfl, rfl, rfl, trivial⟩) hS
    intro a w hF hS
    refine ls <| gy hF rfl rfl <| q1 hF rfl (e_move hF rfl) fun a hF => ?_
    refine grp (N := 35) (Fk := [(13, .bool false), (33, .bool (((decide (p1.What = p2.What)) && (decide (p1.N = p2.N))) && (p1.Write || p2.Write)))]) (b := ((decide (p1.What = p2.What)) && (decide (p1.N = p2.N)))) 7 hS ?_ ?_ ?_
    ·
      intro hb key
      replace hF := Fr.as hF (t := 26) rfl (congrArg Value.bool hb)
      refine ls <| gy hF rfl rfl <| q1 hF rfl (e_fa hF fa27_2 rfl) fun a hF => ?_
      refine ls <| gy hF rfl rfl <| q1 hF rfl (e_ld hF Tryd.isAgg4 rfl ((St.ld hS).cellB (.tail _ (.head _)) rfl)) fun a hF => ?_
      refine ls <| gy hF rfl rfl <| q1 hF rfl (e_move hF rfl) fun a hF => ?_
      refine grp (N := 35) (Fk := [(13, .bool false), (26, .bool true), (32, .bool (p1.Write || p2.Write))]) (b := p1.Write) 3 hS ?_ ?_ ?_
      ·
        intro hb key
        replace hF := Fr.as hF (t := 29) rfl (congrArg Value.bool hb)
        refine ls <| gn hF rfl rfl rfl rfl fun a hF => ?_
        refine ls <| gn hF rfl rfl rfl rfl fun a hF => ?_
        refine ls <| gy hF rfl rfl <| q1 hF rfl (e_as (v' := .bool (p1.Write || p2.Write)) (e_pickT hF rfl rfl) (by rw [hb]; rfl)) fun a hF => ?_
        exact key _ _ (hF.has ⟨rfl, rfl, rfl, trivial⟩) hS
      ·
        intro hb key
        replace hF := Fr.as hF (t := 29) rfl (congrArg Value.bool hb)
        refine ls <| gy hF rfl rfl <| q1 hF rfl (e_fa hF fa27_2 rfl) fun a hF => ?_
        refine ls <| gy hF rfl rfl <| q1 hF rfl (e_ld hF Tryd.isAgg4 rfl ((St.ld hS).cellB (.head _) rfl)) fun a hF => ?_
        refine ls <| gy hF rfl rfl <| q1 hF rfl (e_as (v' := .bool (p1.Write || p2.Write)) (e_pickF hF rfl rfl) (by rw [hb]; rfl)) fun a hF => ?_
        exact key _ _ (hF.has ⟨rfl, rfl, rfl, trivial⟩) hS
      intro a w hF hS
      refine ls <| gy hF rfl rfl <| q1 hF rfl (e_as (v' := .bool (((decide (p1.What = p2.What)) && (decide (p1.N = p2.N))) && (p1.Write || p2.Write))) (e_pickT hF rfl rfl) (by rw [hb]; rfl)) fun a hF => ?_
      exact key _ _ (hF.has ⟨rfl, rfl, trivial⟩) hS
    ·
      intro hb key
      replace hF := Fr.as hF (t := 26) rfl (congrArg Value.bool hb)
      refine ls <| gn hF rfl rfl rfl rfl fun a hF => ?_
      refine ls <| gn hF rfl rfl rfl rfl fun a hF => ?_
      refine ls <| gn hF rfl rfl rfl rfl fun a hF => ?_
      refine ls <| gnu hF rfl rfl rfl fun a hF => ?_
      refine ls <| gnu hF rfl rfl rfl fun a hF => ?_
      refine ls <| gn hF rfl rfl rfl rfl fun a hF => ?_
      refine ls <| gy hF rfl rfl <| q1 hF rfl (e_as (v' := .bool (((decide (p1.What = p2.What)) && (decide (p1.N = p2.N))) && (p1.Write || p2.Write))) (e_pickF hF rfl rfl) (by rw [hb]; rfl)) fun a hF => ?_
      exact key _ _ (hF.has ⟨rfl, rfl, trivial⟩) hS
    intro a w hF hS
    refine ls <| q1 hF rfl (e_as (v' := .bool (((decide (p1.What = 4)) || (decide (p2.What = 4))) || (((decide (p1.What = p2.What)) && (decide (p1.N = p2.N))) && (p1.Write || p2.Write)))) (e_pickF hF rfl rfl) (by rw [hb]; rfl)) fun a hF => ?_
    exact key _ _ (hF.has ⟨rfl, trivial⟩) hS
  intro a w hF hS
  refine ls <| q1 hF rfl (e_asg hF rfl) fun a hF => ?_
  refine re <| ?_
  refine tn <| ?_
  refine wp_ret <| ?_
  obtain rfl := Option.some.inj hm
  exact r1 hF Tryd.results23 rfl ⟨rfl, hS.keep⟩
end Go.LM.ET
