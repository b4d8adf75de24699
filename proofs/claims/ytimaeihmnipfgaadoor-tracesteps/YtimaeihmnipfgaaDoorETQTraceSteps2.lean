/- Walks, lifted by program. No condition beyond each theorem's own premises. -/
import Derived.Test.YtimaeihmnipfgaaDoorETQTraceSteps1
namespace Go.LM.ET
open Go Go.LL Go.MD Go.LM Go.Proofs Go.MD.ET

set_option maxRecDepth 100000 in
theorem clock_Threads_c {N : Nat} {w0 : World} {H : PH} (hH : H.le w0) {oa2 : Option Addr} {cap3 : Nat} {p1 : (List api_Event)} (hc4 : p1.length ≤ cap3) (hr5 : SR H oa2 p1) {r : Int} (hm : clock_Threads N p1 = some r) : Tot Tryd.prog 49 #[.slice oa2 p1.length cap3] w0 (fun v w' => v = .int .i64 r ∧ Keep Nil w0 w') := by
  unfold clock_Threads at hm
  refine fn0 (args := [.slice oa2 p1.length cap3]) (F := [(0, .slice oa2 p1.length cap3)]) Tryd.func49 rfl Tryd.ntmps49 rfl rfl fun a hF => ?_
  have hS : St w0 Nil [H] [] w0 := start1 hH
  refine th <| ?_
  refine rg <| ?_
  refine ls <| q1 hF rfl (e_asg hF rfl) fun a hF => ?_
  refine re <| ?_
  refine tn <| th <| ?_
  refine rg <| ?_
  refine ls <| q1 hF rfl (e_asg hF rfl) fun a hF => ?_
  refine re <| ?_
  refine tn <| th <| th <| ?_
  refine rg <| ?_
  refine ls <| q1 hF rfl (e_move hF rfl) fun a hF => ?_
  refine ls <| q1 hF rfl (e_lenL (α := api_Event) (xs := p1) hF Tryd.runUnderlying39 rfl) fun a hF => ?_
  refine ls <| q1 hF rfl (e_move hF rfl) fun a hF => ?_
  refine re <| ?_
  refine tn <| midK (fun a w => ∃ (vA2 : Int) (HA1 : PH), clock_Threads_j1 vA2 = some r ∧ Ext w0 H HA1 ∧ Fr 27 [(3, .int .i64 vA2)] a ∧ St w0 Nil [HA1] [] w) ?_ ?_
  ·
    refine wp_block <| lp (α := Nat × Int × Int) (fun (gh : Nat × Int × Int) a w => match gh with | (nn2, vB2, vB7) => ∃ (HB1 : PH) (oaB3 : Option Addr) (capB4 : Nat), (clock_Threads_l2 N clock_Threads_j1 p1) nn2 vB2 vB7 = some r ∧ Ext w0 H HB1 ∧ Fr 27 [(3, .int .i64 vB2), (6, .slice oaB3 p1.length capB4), (7, .int .i64 (p1.length : Int)), (8, .int .i64 vB7)] a ∧ St w0 Nil [HB1] [] w ∧ p1.length ≤ capB4 ∧ SR HB1 oaB3 p1) (fun gh => gh.1) (N, 0, 0) ⟨H, oa2, cap3, hm, (Ext.refl _ _), hF.has ⟨rfl, rfl, rfl, rfl, trivial⟩, hS, hc4, hr5⟩ ?_
    clear hm hF hS
    rintro ⟨nn2, vB2, vB7⟩ a w ⟨HB1, oaB3, capB4, hm, hxHB1, hF, hS, hcB5, hrB6⟩
    obtain _ | nn2 := nn2
    · simp [clock_Threads_l2] at hm
    rw [clock_Threads_l2] at hm
    refine th <| ?_
    refine rg <| ?_
    refine ls <| q1 hF rfl (e_lss hF rfl rfl) fun a hF => ?_
    refine re <| ?_
    rcases bdich (decide (vB7 < (p1.length : Int))) with hb6 | hb6
    ·
      replace hm := itp_t hm hb6
      refine tn <| th <| ctv hF rfl hb6 <| wp_skip <| ?_
      refine tn <| th <| wp_block <| th <| ?_
      replace hm := bind_some hm
      obtain ⟨x7, h8, hm⟩ := hm
      obtain ⟨c9, g10, hl11⟩ := SR.get hrB6 h8
      obtain rfl := api_Event_open g10
      refine rg <| ?_
      refine ls <| q1 hF rfl (e_iaI hF Tryd.runUnderlying39 Tryd.sizeOf23 rfl rfl h8 (SR.oaI hrB6 (by decide) h8)) fun a hF => ?_
      refine ls <| q1 hF rfl (e_ldA hF Tryd.isAgg23 Tryd.sizeOf23 rfl rfl (fun j v hj => PH.le.cell (Lds.le (St.ld hS)) (hl11 j v hj))) fun a hF => ?_
      refine ls <| a_alloc (cs := [.int .i64 0, .int .i64 0, .int .i64 0, .int .i64 0, .int .i64 0].toArray) hF rfl hS Tryd.zeroValue23 rfl fun b12 w a hS hF => ?_
      refine ls <| s_blkA hF hS Tryd.sizeOf23 rfl rfl rfl rfl (one_cells rfl) .head fun w hS => ?_
      refine re <| ?_
      refine tn <| th <| th <| ?_
      refine rg <| ?_
      refine ls <| q1 hF rfl (e_fa hF fa23_1 rfl) fun a hF => ?_
      refine ls <| q1 hF rfl (e_ld hF Tryd.isAgg3 rfl ((St.ld hS).cellB (.head _) rfl)) fun a hF => ?_
      refine ls <| q1 hF rfl (e_lss hF rfl rfl) fun a hF => ?_
      refine ls <| q1 hF rfl (e_move hF rfl) fun a hF => ?_
      refine grp (N := 27) (Fk := [(3, .int .i64 vB2), (5, .pointer (some ⟨b12, 0, none⟩)), (6, .slice oaB3 p1.length capB4), (7, .int .i64 (p1.length : Int)), (8, .int .i64 vB7), (19, .bool ((decide (x7.T < 0)) || (decide (8 ≤ x7.T))))]) (b := (decide (x7.T < 0))) 4 hS ?_ ?_ ?_
      ·
        intro hb key
        replace hF := Fr.as hF (t := 15) rfl (congrArg Value.bool hb)
        refine ls <| gn hF rfl rfl rfl rfl fun a hF => ?_
        refine ls <| gn hF rfl rfl rfl rfl fun a hF => ?_
        refine ls <| gn hF rfl rfl rfl rfl fun a hF => ?_
        refine ls <| q1 hF rfl (e_as (v' := .bool ((decide (x7.T < 0)) || (decide (8 ≤ x7.T)))) (e_pickT hF rfl rfl) (by rw [hb]; rfl)) fun a hF => ?_
        exact key _ _ (hF.has ⟨rfl, rfl, rfl, rfl, rfl, rfl, trivial⟩) hS
      ·
        intro hb key
        replace hF := Fr.as hF (t := 15) rfl (congrArg Value.bool hb)
        refine ls <| gy hF rfl rfl <| q1 hF rfl (e_fa hF fa23_1 rfl) fun a hF => ?_
        refine ls <| gy hF rfl rfl <| q1 hF rfl (e_ld hF Tryd.isAgg3 rfl ((St.ld hS).cellB (.head _) rfl)) fun a hF => ?_
        refine ls <| gy hF rfl rfl <| q1 hF rfl (e_geq hF rfl rfl) fun a hF => ?_
        refine ls <| q1 hF rfl (e_as (v' := .bool ((decide (x7.T < 0)) || (decide (8 ≤ x7.T)))) (e_pickF hF rfl rfl) (by rw [hb]; rfl)) fun a hF => ?_
        exact key _ _ (hF.has ⟨rfl, rfl, rfl, rfl, rfl, rfl, trivial⟩) hS
      intro a w hF hS
      refine re <| ?_
      rcases bdich ((decide (x7.T < 0)) || (decide (8 ≤ x7.T))) with hb13 | hb13
      ·
        replace hm := ite_t hm hb13
        refine tn <| ctv hF rfl hb13 <| th <| ?_
        refine rg <| ?_
        refine ls <| q1 hF rfl (e_asg hF rfl) fun a hF => ?_
        refine re <| ?_
        refine tn <| ?_
        refine wp_ret <| tr <| br <| tr <| tr <| br <| tr <| ?_
        obtain rfl := Option.some.inj hm
        exact r1 hF Tryd.results49 rfl ⟨rfl, hS.keep⟩
      ·
        replace hm := ite_f hm hb13
        refine tn <| cfv hF rfl hb13 <| wp_skip <| ?_
        refine tn <| ?_
        refine rg <| ?_
        refine ls <| q1 hF rfl (e_move hF rfl) fun a hF => ?_
        refine ls <| q1 hF rfl (e_fa hF fa23_1 rfl) fun a hF => ?_
        refine ls <| q1 hF rfl (e_ld hF Tryd.isAgg3 rfl ((St.ld hS).cellB (.head _) rfl)) fun a hF => ?_
        refine ls <| q1 hF rfl (e_add hF rfl rfl) fun a hF => ?_
        refine ls <| q1 hF rfl (e_max hF rfl rfl) fun a hF => ?_
        refine ls <| q1 hF rfl (e_asg hF rfl) fun a hF => ?_
        refine re <| ?_
        refine bn <| tn <| ?_
        refine rg <| ?_
        refine ls <| q1 hF rfl (e_add hF rfl rfl) fun a hF => ?_
        refine ls <| q1 hF rfl (e_move hF rfl) fun a hF => ?_
        refine re <| ?_
        refine tn <| ?_
        replace hS := hS.pickL .nil
        exact ⟨(nn2, (max vB2 (IntKind.i64.wrap (x7.T + 1))), (IntKind.i64.wrap (vB7 + 1))), ⟨HB1, oaB3, capB4, hm, hxHB1, hF.has ⟨rfl, rfl, rfl, rfl, trivial⟩, hS, hcB5, hrB6⟩, Nat.lt_succ_self _⟩
    ·
      replace hm := itp_f hm hb6
      refine tn <| th <| cfv hF rfl hb6 <| ?_
      refine wp_exit <| tx <| tx <| bx <| ?_
      refine tn <| ?_
      exact ⟨vB2, HB1, hm, hxHB1, hF.has ⟨rfl, trivial⟩, hS⟩
  clear hm hF hS
  rintro a w ⟨vA2, HA1, hm, hxHA1, hF, hS⟩
  unfold clock_Threads_j1 at hm
  refine th <| ?_
  refine rg <| ?_
  refine ls <| q1 hF rfl (e_move hF rfl) fun a hF => ?_
  refine ls <| q1 hF rfl (e_asg hF rfl) fun a hF => ?_
  refine re <| ?_
  refine tn <| ?_
  refine wp_ret <| ?_
  obtain rfl := Option.some.inj hm
  exact r1 hF Tryd.results49 rfl ⟨rfl, hS.keep⟩

set_option maxRecDepth 100000 in
theorem slices_Clone_api_Event_api_Event_c {N : Nat} {w0 : World} {H : PH} (hH : H.le w0) {oa2 : Option Addr} {cap3 : Nat} {p1 : (List api_Event)} (hc4 : p1.length ≤ cap3) (hr5 : SR H oa2 p1) {r : (List api_Event)} (hm : slices_Clone_api_Event_api_Event N p1 = some r) : Tot Tryd.prog 50 #[.slice oa2 p1.length cap3] w0 (fun v w' => ∃ (oa0 : Option Addr) (cap0 : Nat) (vs0 : List Value), v = .slice oa0 r.length cap0 ∧ (∀ h, Rows h vs0 r) ∧ Fresh w0 (sla 23 5 oa0 r.length cap0 vs0) w') := by
  unfold slices_Clone_api_Event_api_Event at hm
  refine fn0 (args := [.slice oa2 p1.length cap3]) (F := [(0, .slice oa2 p1.length cap3)]) Tryd.func50 rfl Tryd.ntmps50 rfl rfl fun a hF => ?_
  have hS : St w0 Nil [H] [] w0 := start1 hH
  refine th <| ?_
  refine rg <| ?_
  refine ls <| q1 hF rfl (e_asg hF rfl) fun a hF => ?_
  refine re <| ?_
  refine tn <| th <| th <| ?_
  refine rg <| ?_
  refine ls <| q1 hF rfl (e_move hF rfl) fun a hF => ?_
  refine ls <| q1 hF rfl (e_eqlN hF Tryd.runUnderlying39 rfl rfl) fun a hF => ?_
  refine re <| ?_
  rcases bdich oa2.isNone with hb6 | hb6
  ·
    obtain ⟨rfl, rfl⟩ := cloneNil hr5 (by decide) hb6 (by simpa using hm)
    refine tn <| ctv hF rfl hb6 <| th <| rg <| ls <| q1 hF rfl (e_asg hF rfl) fun a hF => ?_
    refine re <| tn <| wp_ret <| tr <| ?_
    replace hS := St.nilS hS 23 5
    exact r1 hF Tryd.results50 rfl ⟨_, _, _, rfl, (fun _ => .nil), hS.endFresh (.head _)⟩
  ·
    refine tn <| cfv hF rfl hb6 <| wp_skip <| ?_
    refine tn <| th <| ?_
    replace hm := bind_some hm
    obtain ⟨l10, h11, hm⟩ := hm
    refine rg <| ?_
    refine ls <| a_bsl (e := 23) (sz := 5) [] hF rfl hS rfl rfl rfl (fun w => by kernel_rfl) fun b8 w a hS hF => ?_
    have hv7 : Rows (α := api_Event) H [] [] := .nil
    refine ls <| q1 hF rfl (e_move hF rfl) fun a hF => ?_
    obtain ⟨us16, hd17, hu18⟩ := id hr5
    refine ls <| m_app (α := api_Event) (xs := []) (ys := p1) hF rfl hS Tryd.underlying39 info23 rfl (by decide) rfl rfl rfl (.head _) hv7 (hS.rdH (.head _) hd17) hu18 h11 fun oa12 cap13 vs14 w a hv15 hU hF => ?_
    replace hS := hU _ .head
    clear hU
    refine ls <| q1 hF rfl (e_asg hF rfl) fun a hF => ?_
    refine re <| ?_
    refine tn <| ?_
    refine wp_ret <| ?_
    obtain rfl := Option.some.inj hm
    exact r1 hF Tryd.results50 rfl ⟨_, _, _, rfl, (fun _ => Rows.ind hv15), hS.endFresh (.head _)⟩

set_option maxRecDepth 100000 in
theorem trace_Swap_c {N : Nat} {w0 : World} {H : PH} (hH : H.le w0) {oa2 : Option Addr} {cap3 : Nat} {p1 : (List api_Event)} (hc4 : p1.length ≤ cap3) (hr5 : SR H oa2 p1) {p6 : Int} {oa8 : Option Addr} {cap9 : Nat} {p7 : (List Int)} (hc10 : p7.length ≤ cap9) (hr11 : SR H oa8 p7) {p12 : Int} {r : ((List api_Event) × Bool)} (hm : trace_Swap N p1 p6 p7 p12 = some r) : Tot Tryd.prog 26 #[.slice oa2 p1.length cap3, .int .i64 p6, .slice oa8 p7.length cap9, .int .i64 p12] w0 (fun v w' => ∃ (oa0 : Option Addr) (cap0 : Nat) (vs0 : List Value), v = .tuple #[.slice oa0 r.1.length cap0, .bool r.2] ∧ (∀ h, Rows h vs0 r.1) ∧ Fresh w0 (sla 23 5 oa0 r.1.length cap0 vs0) w') := by
  unfold trace_Swap at hm
  refine fn0 (args := [.slice oa2 p1.length cap3, .int .i64 p6, .slice oa8 p7.length cap9, .int .i64 p12]) (F := [(0, .slice oa2 p1.length cap3), (1, .int .i64 p6), (2, .slice oa8 p7.length cap9), (3, .int .i64 p12)]) Tryd.func26 rfl Tryd.ntmps26 rfl rfl fun a hF => ?_
  have hS : St w0 Nil [H] [] w0 := start1 hH
  refine th <| ?_
  refine rg <| ?_
  refine ls <| q1 hF rfl (e_asg hF rfl) fun a hF => ?_
  refine ls <| q1 hF rfl (e_asg hF rfl) fun a hF => ?_
  refine re <| ?_
  refine tn <| th <| th <| midK (fun a w => ∃ (vA6 : Bool) (HA1 : PH) (oaA2 : Option Addr) (capA3 : Nat), (trace_Swap_j1 N p1 p6) vA6 = some r ∧ Ext w0 H HA1 ∧ Fr 58 [(0, .slice oaA2 p1.length capA3), (1, .int .i64 p6), (38, .bool vA6)] a ∧ St w0 Nil [HA1] [] w ∧ p1.length ≤ capA3 ∧ SR HA1 oaA2 p1) ?_ ?_
  ·
    replace hm := bind_some hm
    obtain ⟨r13, h14, hm⟩ := hm
    rcases bdich (decide (r13 = 0)) with hb15 | hb15
    ·
      replace hm := itp_t hm hb15
      refine rdS 28 hS wide fun w hS => ?_
      refine d1 (i := 0) rfl (by kernel_rfl) (by kernel_rfl) (St.ld hS) hF rfl (fun _ _ _ h => h) (fun w hl => (e_move hF rfl)) fun a hF => ?_
      refine da1 (i := 1) (by kernel_rfl) ?_
      refine di (i := 1) rfl <| c1 hF rfl Tryd.call49 (clock_Threads_c (hp_le _) hc4 (St.srH hS hr5) h14) ⟨rfl, trivial⟩ (fun v w a hR hF => ?_)
      obtain ⟨rfl, hk⟩ := hR
      replace hS := hS.pass hk
      clear hk
      refine ⟨fun _ => (St.ld hS), ?_⟩
      refine d1 (i := 2) rfl (by kernel_rfl) (by kernel_rfl) (St.ld hS) hF rfl (fun _ _ _ h => h) (fun w hl => (e_eql hF rfl rfl)) fun a hF => ?_
      refine d1 (i := 3) rfl (by kernel_rfl) (by kernel_rfl) (St.ld hS) hF rfl (fun _ _ _ h => h) (fun w hl => (e_as (e_move hF rfl) (congrArg Value.bool hb15))) fun a hF => ?_
      refine d1n (i := 4) rfl (by kernel_rfl) (by kernel_rfl) (St.ld hS) hF rfl rfl rfl rfl (fun _ _ _ h => h) fun a hF => ?_
      refine d1n (i := 5) rfl (by kernel_rfl) (by kernel_rfl) (St.ld hS) hF rfl rfl rfl rfl (fun _ _ _ h => h) fun a hF => ?_
      refine d1 (i := 6) rfl (by kernel_rfl) (by kernel_rfl) (St.ld hS) hF rfl (fun _ _ _ h => h) (fun w hl => (e_pickT hF rfl rfl)) fun a hF => ?_
      refine d1 (i := 7) rfl (by kernel_rfl) (by kernel_rfl) (St.ld hS) hF rfl (fun _ _ _ h => h) (fun w hl => (e_move hF rfl)) fun a hF => ?_
      refine d1n (i := 8) rfl (by kernel_rfl) (by kernel_rfl) (St.ld hS) hF rfl rfl rfl rfl (fun _ _ _ h => h) fun a hF => ?_
      refine d1n (i := 9) rfl (by kernel_rfl) (by kernel_rfl) (St.ld hS) hF rfl rfl rfl rfl (fun _ _ _ h => h) fun a hF => ?_
      refine d1n (i := 10) rfl (by kernel_rfl) (by kernel_rfl) (St.ld hS) hF rfl rfl rfl rfl (fun _ _ _ h => h) fun a hF => ?_
      refine d1n (i := 11) rfl (by kernel_rfl) (by kernel_rfl) (St.ld hS) hF rfl rfl rfl rfl (fun _ _ _ h => h) fun a hF => ?_
      refine d1n (i := 12) rfl (by kernel_rfl) (by kernel_rfl) (St.ld hS) hF rfl rfl rfl rfl (fun _ _ _ h => h) fun a hF => ?_
      refine d1 (i := 13) rfl (by kernel_rfl) (by kernel_rfl) (St.ld hS) hF rfl (fun _ _ _ h => h) (fun w hl => (e_pickT hF rfl rfl)) fun a hF => ?_
      refine d1 (i := 14) rfl (by kernel_rfl) (by kernel_rfl) (St.ld hS) hF rfl (fun _ _ _ h => h) (fun w hl => (e_move hF rfl)) fun a hF => ?_
      refine d1n (i := 15) rfl (by kernel_rfl) (by kernel_rfl) (St.ld hS) hF rfl rfl rfl rfl (fun _ _ _ h => h) fun a hF => ?_
      refine d1n (i := 16) rfl (by kernel_rfl) (by kernel_rfl) (St.ld hS) hF rfl rfl rfl rfl (fun _ _ _ h => h) fun a hF => ?_
      refine d1n (i := 17) rfl (by kernel_rfl) (by kernel_rfl) (St.ld hS) hF rfl rfl rfl rfl (fun _ _ _ h => h) fun a hF => ?_
      refine d1n (i := 18) rfl (by kernel_rfl) (by kernel_rfl) (St.ld hS) hF rfl rfl rfl rfl (fun _ _ _ h => h) fun a hF => ?_
      refine d1n (i := 19) rfl (by kernel_rfl) (by kernel_rfl) (St.ld hS) hF rfl rfl rfl rfl (fun _ _ _ h => h) fun a hF => ?_
      refine d1n (i := 20) rfl (by kernel_rfl) (by kernel_rfl) (St.ld hS) hF rfl rfl rfl rfl (fun _ _ _ h => h) fun a hF => ?_
      refine d1n (i := 21) rfl (by kernel_rfl) (by kernel_rfl) (St.ld hS) hF rfl rfl rfl rfl (fun _ _ _ h => h) fun a hF => ?_
      refine d1n (i := 22) rfl (by kernel_rfl) (by kernel_rfl) (St.ld hS) hF rfl rfl rfl rfl (fun _ _ _ h => h) fun a hF => ?_
      refine d1n (i := 23) rfl (by kernel_rfl) (by kernel_rfl) (St.ld hS) hF rfl rfl rfl rfl (fun _ _ _ h => h) fun a hF => ?_
      refine d1n (i := 24) rfl (by kernel_rfl) (by kernel_rfl) (St.ld hS) hF rfl rfl rfl rfl (fun _ _ _ h => h) fun a hF => ?_
      refine d1n (i := 25) rfl (by kernel_rfl) (by kernel_rfl) (St.ld hS) hF rfl rfl rfl rfl (fun _ _ _ h => h) fun a hF => ?_
      refine d1n (i := 26) rfl (by kernel_rfl) (by kernel_rfl) (St.ld hS) hF rfl rfl rfl rfl (fun _ _ _ h => h) fun a hF => ?_
      refine d1 (i := 27) rfl (by kernel_rfl) (by kernel_rfl) (St.ld hS) hF rfl (fun _ _ _ h => h) (fun w hl => (e_pickT hF rfl rfl)) fun a hF => ?_
      refine de (by kernel_rfl) <| ?_
      refine tn <| ?_
      exact ⟨true, H, oa2, cap3, hm, (Ext.refl _ _), hF.has ⟨rfl, rfl, rfl, trivial⟩, hS, hc4, hr5⟩
    ·
      replace hm := itp_f hm hb15
      rcases bdich (decide (p6 < 0)) with hb16 | hb16
      ·
        replace hm := itp_t hm hb16
        refine rdS 28 hS wide fun w hS => ?_
        refine d1 (i := 0) rfl (by kernel_rfl) (by kernel_rfl) (St.ld hS) hF rfl (fun _ _ _ h => h) (fun w hl => (e_move hF rfl)) fun a hF => ?_
        refine da1 (i := 1) (by kernel_rfl) ?_
        refine di (i := 1) rfl <| c1 hF rfl Tryd.call49 (clock_Threads_c (hp_le _) hc4 (St.srH hS hr5) h14) ⟨rfl, trivial⟩ (fun v w a hR hF => ?_)
        obtain ⟨rfl, hk⟩ := hR
        replace hS := hS.pass hk
        clear hk
        refine ⟨fun _ => (St.ld hS), ?_⟩
        refine d1 (i := 2) rfl (by kernel_rfl) (by kernel_rfl) (St.ld hS) hF rfl (fun _ _ _ h => h) (fun w hl => (e_eql hF rfl rfl)) fun a hF => ?_
        refine d1 (i := 3) rfl (by kernel_rfl) (by kernel_rfl) (St.ld hS) hF rfl (fun _ _ _ h => h) (fun w hl => (e_as (e_move hF rfl) (congrArg Value.bool hb15))) fun a hF => ?_
        refine d1g (i := 4) rfl (by kernel_rfl) (by kernel_rfl) (St.ld hS) hF rfl rfl rfl (fun _ _ _ h => h) (fun w hl => (e_move hF rfl)) fun a hF => ?_
        refine d1g (i := 5) rfl (by kernel_rfl) (by kernel_rfl) (St.ld hS) hF rfl rfl rfl (fun _ _ _ h => h) (fun w hl => (e_lss hF rfl rfl)) fun a hF => ?_
        refine d1 (i := 6) rfl (by kernel_rfl) (by kernel_rfl) (St.ld hS) hF rfl (fun _ _ _ h => h) (fun w hl => (e_pickF hF rfl rfl)) fun a hF => ?_
        refine d1 (i := 7) rfl (by kernel_rfl) (by kernel_rfl) (St.ld hS) hF rfl (fun _ _ _ h => h) (fun w hl => (e_as (e_move hF rfl) (congrArg Value.bool hb16))) fun a hF => ?_
        refine d1n (i := 8) rfl (by kernel_rfl) (by kernel_rfl) (St.ld hS) hF rfl rfl rfl rfl (fun _ _ _ h => h) fun a hF => ?_
        refine d1n (i := 9) rfl (by kernel_rfl) (by kernel_rfl) (St.ld hS) hF rfl rfl rfl rfl (fun _ _ _ h => h) fun a hF => ?_
        refine d1n (i := 10) rfl (by kernel_rfl) (by kernel_rfl) (St.ld hS) hF rfl rfl rfl rfl (fun _ _ _ h => h) fun a hF => ?_
        refine d1n (i := 11) rfl (by kernel_rfl) (by kernel_rfl) (St.ld hS) hF rfl rfl rfl rfl (fun _ _ _ h => h) fun a hF => ?_
        refine d1n (i := 12) rfl (by kernel_rfl) (by kernel_rfl) (St.ld hS) hF rfl rfl rfl rfl (fun _ _ _ h => h) fun a hF => ?_
        refine d1 (i := 13) rfl (by kernel_rfl) (by kernel_rfl) (St.ld hS) hF rfl (fun _ _ _ h => h) (fun w hl => (e_pickT hF rfl rfl)) fun a hF => ?_
        refine d1 (i := 14) rfl (by kernel_rfl) (by kernel_rfl) (St.ld hS) hF rfl (fun _ _ _ h => h) (fun w hl => (e_move hF rfl)) fun a hF => ?_
        refine d1n (i := 15) rfl (by kernel_rfl) (by kernel_rfl) (St.ld hS) hF rfl rfl rfl rfl (fun _ _ _ h => h) fun a hF => ?_
        refine d1n (i := 16) rfl (by kernel_rfl) (by kernel_rfl) (St.ld hS) hF rfl rfl rfl rfl (fun _ _ _ h => h) fun a hF => ?_
        refine d1n (i := 17) rfl (by kernel_rfl) (by kernel_rfl) (St.ld hS) hF rfl rfl rfl rfl (fun _ _ _ h => h) fun a hF => ?_
        refine d1n (i := 18) rfl (by kernel_rfl) (by kernel_rfl) (St.ld hS) hF rfl rfl rfl rfl (fun _ _ _ h => h) fun a hF => ?_
        refine d1n (i := 19) rfl (by kernel_rfl) (by kernel_rfl) (St.ld hS) hF rfl rfl rfl rfl (fun _ _ _ h => h) fun a hF => ?_
        refine d1n (i := 20) rfl (by kernel_rfl) (by kernel_rfl) (St.ld hS) hF rfl rfl rfl rfl (fun _ _ _ h => h) fun a hF => ?_
        refine d1n (i := 21) rfl (by kernel_rfl) (by kernel_rfl) (St.ld hS) hF rfl rfl rfl rfl (fun _ _ _ h => h) fun a hF => ?_
        refine d1n (i := 22) rfl (by kernel_rfl) (by kernel_rfl) (St.ld hS) hF rfl rfl rfl rfl (fun _ _ _ h => h) fun a hF => ?_
        refine d1n (i := 23) rfl (by kernel_rfl) (by kernel_rfl) (St.ld hS) hF rfl rfl rfl rfl (fun _ _ _ h => h) fun a hF => ?_
        refine d1n (i := 24) rfl (by kernel_rfl) (by kernel_rfl) (St.ld hS) hF rfl rfl rfl rfl (fun _ _ _ h => h) fun a hF => ?_
        refine d1n (i := 25) rfl (by kernel_rfl) (by kernel_rfl) (St.ld hS) hF rfl rfl rfl rfl (fun _ _ _ h => h) fun a hF => ?_
        refine d1n (i := 26) rfl (by kernel_rfl) (by kernel_rfl) (St.ld hS) hF rfl rfl rfl rfl (fun _ _ _ h => h) fun a hF => ?_
        refine d1 (i := 27) rfl (by kernel_rfl) (by kernel_rfl) (St.ld hS) hF rfl (fun _ _ _ h => h) (fun w hl => (e_pickT hF rfl rfl)) fun a hF => ?_
        refine de (by kernel_rfl) <| ?_
        refine tn <| ?_
        exact ⟨true, H, oa2, cap3, hm, (Ext.refl _ _), hF.has ⟨rfl, rfl, rfl, trivial⟩, hS, hc4, hr5⟩
      ·
        replace hm := itp_f hm hb16
        rcases bdich (decide ((IntKind.i64.wrap ((p1.length : Int) - 1)) ≤ p6)) with hb17 | hb17
        ·
          replace hm := itp_t hm hb17
          refine rdS 28 hS wide fun w hS => ?_
          refine d1 (i := 0) rfl (by kernel_rfl) (by kernel_rfl) (St.ld hS) hF rfl (fun _ _ _ h => h) (fun w hl => (e_move hF rfl)) fun a hF => ?_
          refine da1 (i := 1) (by kernel_rfl) ?_
          refine di (i := 1) rfl <| c1 hF rfl Tryd.call49 (clock_Threads_c (hp_le _) hc4 (St.srH hS hr5) h14) ⟨rfl, trivial⟩ (fun v w a hR hF => ?_)
          obtain ⟨rfl, hk⟩ := hR
          replace hS := hS.pass hk
          clear hk
          refine ⟨fun _ => (St.ld hS), ?_⟩
          refine d1 (i := 2) rfl (by kernel_rfl) (by kernel_rfl) (St.ld hS) hF rfl (fun _ _ _ h => h) (fun w hl => (e_eql hF rfl rfl)) fun a hF => ?_
          refine d1 (i := 3) rfl (by kernel_rfl) (by kernel_rfl) (St.ld hS) hF rfl (fun _ _ _ h => h) (fun w hl => (e_as (e_move hF rfl) (congrArg Value.bool hb15))) fun a hF => ?_
          refine d1g (i := 4) rfl (by kernel_rfl) (by kernel_rfl) (St.ld hS) hF rfl rfl rfl (fun _ _ _ h => h) (fun w hl => (e_move hF rfl)) fun a hF => ?_
          refine d1g (i := 5) rfl (by kernel_rfl) (by kernel_rfl) (St.ld hS) hF rfl rfl rfl (fun _ _ _ h => h) (fun w hl => (e_lss hF rfl rfl)) fun a hF => ?_
          refine d1 (i := 6) rfl (by kernel_rfl) (by kernel_rfl) (St.ld hS) hF rfl (fun _ _ _ h => h) (fun w hl => (e_pickF hF rfl rfl)) fun a hF => ?_
          refine d1 (i := 7) rfl (by kernel_rfl) (by kernel_rfl) (St.ld hS) hF rfl (fun _ _ _ h => h) (fun w hl => (e_as (e_move hF rfl) (congrArg Value.bool hb16))) fun a hF => ?_
          refine d1g (i := 8) rfl (by kernel_rfl) (by kernel_rfl) (St.ld hS) hF rfl rfl rfl (fun _ _ _ h => h) (fun w hl => (e_move hF rfl)) fun a hF => ?_
          refine d1g (i := 9) rfl (by kernel_rfl) (by kernel_rfl) (St.ld hS) hF rfl rfl rfl (fun _ _ _ h => h) (fun w hl => (e_move hF rfl)) fun a hF => ?_
          refine d1g (i := 10) rfl (by kernel_rfl) (by kernel_rfl) (St.ld hS) hF rfl rfl rfl (fun _ _ _ h => h) (fun w hl => (e_lenL (α := api_Event) (xs := p1) hF Tryd.runUnderlying39 rfl)) fun a hF => ?_
          refine d1g (i := 11) rfl (by kernel_rfl) (by kernel_rfl) (St.ld hS) hF rfl rfl rfl (fun _ _ _ h => h) (fun w hl => (e_sub hF rfl rfl)) fun a hF => ?_
          refine d1g (i := 12) rfl (by kernel_rfl) (by kernel_rfl) (St.ld hS) hF rfl rfl rfl (fun _ _ _ h => h) (fun w hl => (e_geq hF rfl rfl)) fun a hF => ?_
          refine d1 (i := 13) rfl (by kernel_rfl) (by kernel_rfl) (St.ld hS) hF rfl (fun _ _ _ h => h) (fun w hl => (e_pickF hF rfl rfl)) fun a hF => ?_
          refine d1 (i := 14) rfl (by kernel_rfl) (by kernel_rfl) (St.ld hS) hF rfl (fun _ _ _ h => h) (fun w hl => (e_as (e_move hF rfl) (congrArg Value.bool hb17))) fun a hF => ?_
          refine d1n (i := 15) rfl (by kernel_rfl) (by kernel_rfl) (St.ld hS) hF rfl rfl rfl rfl (fun _ _ _ h => h) fun a hF => ?_
          refine d1n (i := 16) rfl (by kernel_rfl) (by kernel_rfl) (St.ld hS) hF rfl rfl rfl rfl (fun _ _ _ h => h) fun a hF => ?_
          refine d1n (i := 17) rfl (by kernel_rfl) (by kernel_rfl) (St.ld hS) hF rfl rfl rfl rfl (fun _ _ _ h => h) fun a hF => ?_
          refine d1n (i := 18) rfl (by kernel_rfl) (by kernel_rfl) (St.ld hS) hF rfl rfl rfl rfl (fun _ _ _ h => h) fun a hF => ?_
          refine d1n (i := 19) rfl (by kernel_rfl) (by kernel_rfl) (St.ld hS) hF rfl rfl rfl rfl (fun _ _ _ h => h) fun a hF => ?_
          refine d1n (i := 20) rfl (by kernel_rfl) (by kernel_rfl) (St.ld hS) hF rfl rfl rfl rfl (fun _ _ _ h => h) fun a hF => ?_
          refine d1n (i := 21) rfl (by kernel_rfl) (by kernel_rfl) (St.ld hS) hF rfl rfl rfl rfl (fun _ _ _ h => h) fun a hF => ?_
          refine d1n (i := 22) rfl (by kernel_rfl) (by kernel_rfl) (St.ld hS) hF rfl rfl rfl rfl (fun _ _ _ h => h) fun a hF => ?_
          refine d1n (i := 23) rfl (by kernel_rfl) (by kernel_rfl) (St.ld hS) hF rfl rfl rfl rfl (fun _ _ _ h => h) fun a hF => ?_
          refine d1n (i := 24) rfl (by kernel_rfl) (by kernel_rfl) (St.ld hS) hF rfl rfl rfl rfl (fun _ _ _ h => h) fun a hF => ?_
          refine d1n (i := 25) rfl (by kernel_rfl) (by kernel_rfl) (St.ld hS) hF rfl rfl rfl rfl (fun _ _ _ h => h) fun a hF => ?_
          refine d1n (i := 26) rfl (by kernel_rfl) (by kernel_rfl) (St.ld hS) hF rfl rfl rfl rfl (fun _ _ _ h => h) fun a hF => ?_
          refine d1 (i := 27) rfl (by kernel_rfl) (by kernel_rfl) (St.ld hS) hF rfl (fun _ _ _ h => h) (fun w hl => (e_pickT hF rfl rfl)) fun a hF => ?_
          refine de (by kernel_rfl) <| ?_
          refine tn <| ?_
          exact ⟨true, H, oa2, cap3, hm, (Ext.refl _ _), hF.has ⟨rfl, rfl, rfl, trivial⟩, hS, hc4, hr5⟩
        ·
          replace hm := itp_f hm hb17
          replace hm := bind_some hm
          obtain ⟨x18, h19, hm⟩ := hm
          obtain ⟨c20, g21, hl22⟩ := SR.get hr5 h19
          obtain rfl := api_Event_open g21
          replace hm := bind_some hm
          obtain ⟨x23, h24, hm⟩ := hm
          obtain ⟨c25, g26, hl27⟩ := SR.get hr5 h24
          obtain rfl := api_Event_open g26
          replace hm := bind_some hm
          obtain ⟨r28, h29, hm⟩ := hm
          refine rdS 28 hS wide fun w hS => ?_
          refine d1 (i := 0) rfl (by kernel_rfl) (by kernel_rfl) (St.ld hS) hF rfl (fun _ _ _ h => h) (fun w hl => (e_move hF rfl)) fun a hF => ?_
          refine da1 (i := 1) (by kernel_rfl) ?_
          refine di (i := 1) rfl <| c1 hF rfl Tryd.call49 (clock_Threads_c (hp_le _) hc4 (St.srH hS hr5) h14) ⟨rfl, trivial⟩ (fun v w a hR hF => ?_)
          obtain ⟨rfl, hk⟩ := hR
          replace hS := hS.pass hk
          clear hk
          refine ⟨fun _ => (St.ld hS), ?_⟩
          refine d1 (i := 2) rfl (by kernel_rfl) (by kernel_rfl) (St.ld hS) hF rfl (fun _ _ _ h => h) (fun w hl => (e_eql hF rfl rfl)) fun a hF => ?_
          refine d1 (i := 3) rfl (by kernel_rfl) (by kernel_rfl) (St.ld hS) hF rfl (fun _ _ _ h => h) (fun w hl => (e_as (e_move hF rfl) (congrArg Value.bool hb15))) fun a hF => ?_
          refine d1g (i := 4) rfl (by kernel_rfl) (by kernel_rfl) (St.ld hS) hF rfl rfl rfl (fun _ _ _ h => h) (fun w hl => (e_move hF rfl)) fun a hF => ?_
          refine d1g (i := 5) rfl (by kernel_rfl) (by kernel_rfl) (St.ld hS) hF rfl rfl rfl (fun _ _ _ h => h) (fun w hl => (e_lss hF rfl rfl)) fun a hF => ?_
          refine d1 (i := 6) rfl (by kernel_rfl) (by kernel_rfl) (St.ld hS) hF rfl (fun _ _ _ h => h) (fun w hl => (e_pickF hF rfl rfl)) fun a hF => ?_
          refine d1 (i := 7) rfl (by kernel_rfl) (by kernel_rfl) (St.ld hS) hF rfl (fun _ _ _ h => h) (fun w hl => (e_as (e_move hF rfl) (congrArg Value.bool hb16))) fun a hF => ?_
          refine d1g (i := 8) rfl (by kernel_rfl) (by kernel_rfl) (St.ld hS) hF rfl rfl rfl (fun _ _ _ h => h) (fun w hl => (e_move hF rfl)) fun a hF => ?_
          refine d1g (i := 9) rfl (by kernel_rfl) (by kernel_rfl) (St.ld hS) hF rfl rfl rfl (fun _ _ _ h => h) (fun w hl => (e_move hF rfl)) fun a hF => ?_
          refine d1g (i := 10) rfl (by kernel_rfl) (by kernel_rfl) (St.ld hS) hF rfl rfl rfl (fun _ _ _ h => h) (fun w hl => (e_lenL (α := api_Event) (xs := p1) hF Tryd.runUnderlying39 rfl)) fun a hF => ?_
          refine d1g (i := 11) rfl (by kernel_rfl) (by kernel_rfl) (St.ld hS) hF rfl rfl rfl (fun _ _ _ h => h) (fun w hl => (e_sub hF rfl rfl)) fun a hF => ?_
          refine d1g (i := 12) rfl (by kernel_rfl) (by kernel_rfl) (St.ld hS) hF rfl rfl rfl (fun _ _ _ h => h) (fun w hl => (e_geq hF rfl rfl)) fun a hF => ?_
          refine d1 (i := 13) rfl (by kernel_rfl) (by kernel_rfl) (St.ld hS) hF rfl (fun _ _ _ h => h) (fun w hl => (e_pickF hF rfl rfl)) fun a hF => ?_
          refine d1 (i := 14) rfl (by kernel_rfl) (by kernel_rfl) (St.ld hS) hF rfl (fun _ _ _ h => h) (fun w hl => (e_as (e_move hF rfl) (congrArg Value.bool hb17))) fun a hF => ?_
          refine d1g (i := 15) rfl (by kernel_rfl) (by kernel_rfl) (St.ld hS) hF rfl rfl rfl (fun _ _ _ h => h) (fun w hl => (e_move hF rfl)) fun a hF => ?_
          refine d1g (i := 16) rfl (by kernel_rfl) (by kernel_rfl) (St.ld hS) hF rfl rfl rfl (fun _ _ _ h => h) (fun w hl => (e_move hF rfl)) fun a hF => ?_
          refine d1g (i := 17) rfl (by kernel_rfl) (by kernel_rfl) (St.ld hS) hF rfl rfl rfl (fun _ _ _ h => h) (fun w hl => (e_iaI hF Tryd.runUnderlying39 Tryd.sizeOf23 rfl rfl h19 (SR.oaI hr5 (by decide) h19))) fun a hF => ?_
          refine d1g (i := 18) rfl (by kernel_rfl) (by kernel_rfl) (St.ld hS) hF rfl rfl rfl (fun _ _ _ h => h) (fun w hl => (e_ldA hF Tryd.isAgg23 Tryd.sizeOf23 rfl rfl (fun j v hj => PH.le.cell (Lds.le hl) (hl22 j v hj)))) fun a hF => ?_
          refine d1g (i := 19) rfl (by kernel_rfl) (by kernel_rfl) (St.ld hS) hF rfl rfl rfl (fun _ _ _ h => h) (fun w hl => (e_move hF rfl)) fun a hF => ?_
          refine d1g (i := 20) rfl (by kernel_rfl) (by kernel_rfl) (St.ld hS) hF rfl rfl rfl (fun _ _ _ h => h) (fun w hl => (e_move hF rfl)) fun a hF => ?_
          refine d1g (i := 21) rfl (by kernel_rfl) (by kernel_rfl) (St.ld hS) hF rfl rfl rfl (fun _ _ _ h => h) (fun w hl => (e_add hF rfl rfl)) fun a hF => ?_
          refine d1g (i := 22) rfl (by kernel_rfl) (by kernel_rfl) (St.ld hS) hF rfl rfl rfl (fun _ _ _ h => h) (fun w hl => (e_iaI hF Tryd.runUnderlying39 Tryd.sizeOf23 rfl rfl h24 (SR.oaI hr5 (by decide) h24))) fun a hF => ?_
          refine d1g (i := 23) rfl (by kernel_rfl) (by kernel_rfl) (St.ld hS) hF rfl rfl rfl (fun _ _ _ h => h) (fun w hl => (e_ldA hF Tryd.isAgg23 Tryd.sizeOf23 rfl rfl (fun j v hj => PH.le.cell (Lds.le hl) (hl27 j v hj)))) fun a hF => ?_
          refine d1g (i := 24) rfl (by kernel_rfl) (by kernel_rfl) (St.ld hS) hF rfl rfl rfl (fun _ _ _ h => h) (fun w hl => (e_move hF rfl)) fun a hF => ?_
          refine d1g (i := 25) rfl (by kernel_rfl) (by kernel_rfl) (St.ld hS) hF rfl rfl rfl (fun _ _ _ h => h) (fun w hl => (e_move hF rfl)) fun a hF => ?_
          refine da1 (i := 26) (by kernel_rfl) ?_
          refine di (i := 26) rfl <| gy hF rfl rfl <| c1 hF rfl Tryd.call16 (event_Depend_c (hp_le _) hc10 (St.srH hS hr11) h29) ⟨rfl, rfl, rfl, rfl, trivial⟩ (fun v w a hR hF => ?_)
          obtain ⟨rfl, hk⟩ := hR
          replace hS := hS.pass hk
          clear hk
          refine ⟨fun _ => (St.ld hS), ?_⟩
          refine d1 (i := 27) rfl (by kernel_rfl) (by kernel_rfl) (St.ld hS) hF rfl (fun _ _ _ h => h) (fun w hl => (e_pickF hF rfl rfl)) fun a hF => ?_
          refine de (by kernel_rfl) <| ?_
          refine tn <| ?_
          exact ⟨r28, H, oa2, cap3, hm, (Ext.refl _ _), hF.has ⟨rfl, rfl, rfl, trivial⟩, hS, hc4, hr5⟩
  clear hm hF hS
  rintro a w ⟨vA6, HA1, oaA2, capA3, hm, hxHA1, hF, hS, hcA4, hrA5⟩
  unfold trace_Swap_j1 at hm
  rcases bdich vA6 with hb30 | hb30
  ·
    replace hm := ite_t hm hb30
    refine ctv hF rfl hb30 <| th <| ?_
    refine rg <| ?_
    refine ls <| q1 hF rfl (e_asg hF rfl) fun a hF => ?_
    refine ls <| q1 hF rfl (e_asg hF rfl) fun a hF => ?_
    refine re <| ?_
    refine tn <| ?_
    refine wp_ret <| tr <| ?_
    replace hS := St.nilS hS 23 5
    obtain rfl := Option.some.inj hm
    exact r2 hF Tryd.results26 rfl rfl ⟨_, _, _, rfl, (fun _ => .nil), hS.endFresh (.head _)⟩
  ·
    replace hm := ite_f hm hb30
    refine cfv hF rfl hb30 <| wp_skip <| ?_
    refine tn <| th <| ?_
    replace hm := bind_some hm
    obtain ⟨r31, h32, hm⟩ := hm
    refine rg <| ?_
    refine ls <| q1 hF rfl (e_move hF rfl) fun a hF => ?_
    refine ls <| c1 hF rfl Tryd.call50 (slices_Clone_api_Event_api_Event_c (hp_le _) hcA4 (St.srH hS hrA5) h32) ⟨rfl, trivial⟩ (fun v w a hR hF => ?_)
    obtain ⟨oa33, cap34, vs35, rfl, hv36, hk⟩ := hR
    replace hS := hS.fresh hk
    clear hk
    replace hv36 := hv36 HA1
    refine ls <| q1 hF rfl (e_asg hF rfl) fun a hF => ?_
    refine re <| ?_
    refine tn <| th <| midK (fun a w => ∃ (vA7 : (List api_Event)) (oaA8 : Option Addr) (capA9 : Nat) (vsA10 : List Value), trace_Swap_j2 vA7 = some r ∧ Fr 58 [(10, .slice oaA8 vA7.length capA9)] a ∧ St w0 Nil [HA1] [sla 23 5 oaA8 vA7.length capA9 vsA10] w ∧ Rows HA1 vsA10 vA7) ?_ ?_
    ·
      replace hm := bind_some hm
      obtain ⟨x38, h39, hm⟩ := hm
      have ho40 := Rd.oaI (hS.rdO (.head _)) hv36 (by decide) h39
      obtain ⟨c41, g42, hl43⟩ := Rows.getI hv36 h39
      obtain rfl := api_Event_open g42
      replace hm := bind_some hm
      obtain ⟨x44, h45, hm⟩ := hm
      have ho46 := Rd.oaI (hS.rdO (.head _)) hv36 (by decide) h45
      obtain ⟨c47, g48, hl49⟩ := Rows.getI hv36 h45
      obtain rfl := api_Event_open g48
      have ho50 := Rd.oaI (hS.rdO (.head _)) hv36 (by decide) h45
      replace hm := bind_some hm
      obtain ⟨l51, h52, hm⟩ := hm
      replace hm := bind_some hm
      obtain ⟨x56, h57, hm⟩ := hm
      replace hm := bind_some hm
      obtain ⟨l58, h59, hm⟩ := hm
      refine rdL sub_nil 17 hS wide fun w hS => ?_
      refine d1 (i := 0) rfl (by kernel_rfl) (by kernel_rfl) (St.ldsX hS (fun _ _ h => h) (fun _ h => (.tail _ h))) hF rfl (fun _ _ _ h => h) (fun w hl => (e_move hF rfl)) fun a hF => ?_
      refine d1 (i := 1) rfl (by kernel_rfl) (by kernel_rfl) (St.ldsX hS (fun _ _ h => h) (fun _ h => (.tail _ h))) hF rfl (fun _ _ _ h => h) (fun w hl => (e_move hF rfl)) fun a hF => ?_
      refine d1 (i := 2) rfl (by kernel_rfl) (by kernel_rfl) (St.ldsX hS (fun _ _ h => h) (fun _ h => (.tail _ h))) hF rfl (fun _ _ _ h => h) (fun w hl => (e_move hF rfl)) fun a hF => ?_
      refine d1 (i := 3) rfl (by kernel_rfl) (by kernel_rfl) (St.ldsX hS (fun _ _ h => h) (fun _ h => (.tail _ h))) hF rfl (fun _ _ _ h => h) (fun w hl => (e_move hF rfl)) fun a hF => ?_
      refine d1 (i := 4) rfl (by kernel_rfl) (by kernel_rfl) (St.ldsX hS (fun _ _ h => h) (fun _ h => (.tail _ h))) hF rfl (fun _ _ _ h => h) (fun w hl => (e_add hF rfl rfl)) fun a hF => ?_
      refine d1 (i := 5) rfl (by kernel_rfl) (by kernel_rfl) (St.ldsX hS (fun _ _ h => h) (fun _ h => (.tail _ h))) hF rfl (fun _ _ _ h => h) (fun w hl => (e_move hF rfl)) fun a hF => ?_
      refine d1 (i := 6) rfl (by kernel_rfl) (by kernel_rfl) (St.ldsX hS (fun _ _ h => h) (fun _ h => (.tail _ h))) hF rfl (fun _ _ _ h => h) (fun w hl => (e_move hF rfl)) fun a hF => ?_
      refine d1 (i := 7) rfl (by kernel_rfl) (by kernel_rfl) (St.ldsX hS (fun _ _ h => h) (fun _ h => (.tail _ h))) hF rfl (fun _ _ _ h => h) (fun w hl => (e_add hF rfl rfl)) fun a hF => ?_
      refine d1 (i := 8) rfl (by kernel_rfl) (by kernel_rfl) (St.ldsX hS (fun _ _ h => h) (fun _ h => (.tail _ h))) hF rfl (fun _ _ _ h => h) (fun w hl => (e_iaI hF Tryd.runUnderlying39 Tryd.sizeOf23 rfl rfl h39 ho40)) fun a hF => ?_
      refine da3 (i := 9) (j := 10) (k := 11) (by kernel_rfl) ?_ ?_ ?_
      ·
        refine di (i := 9) rfl <| q1 hF rfl (e_ldA hF Tryd.isAgg23 Tryd.sizeOf23 rfl rfl ((St.ld hS).elsO (.head _) hl43)) fun a hF => ?_
        refine ⟨fun _ => (St.ldsX hS (fun _ _ h => h) (fun _ h => (.tail _ h))), ?_⟩
        refine d1 (i := 10) rfl (by kernel_rfl) (by kernel_rfl) (St.ldsX hS (fun _ _ h => h) (fun _ h => (.tail _ h))) hF rfl (fun _ _ _ h => h) (fun w hl => (e_move hF rfl)) fun a hF => ?_
        refine d1 (i := 11) rfl (by kernel_rfl) (by kernel_rfl) (St.ldsX hS (fun _ _ h => h) (fun _ h => (.tail _ h))) hF rfl (fun _ _ _ h => h) (fun w hl => (e_move hF rfl)) fun a hF => ?_
        refine d1 (i := 12) rfl (by kernel_rfl) (by kernel_rfl) (St.ldsX hS (fun _ _ h => h) (fun _ h => (.tail _ h))) hF rfl (fun _ _ _ h => h) (fun w hl => (e_iaI hF Tryd.runUnderlying39 Tryd.sizeOf23 rfl rfl h45 ho46)) fun a hF => ?_
        refine da1 (i := 13) (by kernel_rfl) ?_
        refine di (i := 13) rfl <| q1 hF rfl (e_ldA hF Tryd.isAgg23 Tryd.sizeOf23 rfl rfl ((St.ld hS).elsO (.head _) hl49)) fun a hF => ?_
        refine ⟨fun _ => (St.ldsX hS (fun _ _ h => h) (fun _ h => (.tail _ h))), ?_⟩
        refine d1 (i := 14) rfl (by kernel_rfl) (by kernel_rfl) (St.ldsX hS (fun _ _ h => h) (fun _ h => (.tail _ h))) hF rfl (fun _ _ _ h => h) (fun w hl => (e_iaI hF Tryd.runUnderlying39 Tryd.sizeOf23 rfl rfl h45 ho50)) fun a hF => ?_
        refine da1 (i := 15) (by kernel_rfl) ?_
        have hn55 := setI_len h52
        refine di (i := 15) rfl <| s_slW (α := api_Event) hF hS Tryd.sizeOf23 rfl rfl rfl hv36 ⟨_, _, rfl, rfl, ⟨_, _, rfl, rfl, ⟨_, _, rfl, rfl, ⟨_, _, rfl, rfl, rfl⟩⟩⟩⟩ h52 (.head _) fun vs53 w hv54 hU => ?_
        replace hS := hU _ .head
        clear hU
        refine ⟨fun _ => (St.ldsX hS (fun _ _ h => h) (fun _ h => (.tail _ h))), ?_⟩
        replace hF := Fr.as hF (t := 43) (v' := .slice oa33 l51.length cap34) rfl (by rw [hn55])
        refine da1 (i := 16) (by kernel_rfl) ?_
        refine di (i := 16) rfl <| q1 hF rfl (e_iaI hF Tryd.runUnderlying39 Tryd.sizeOf23 rfl rfl h57 (Rd.oaI ((St.ld hS).rdO (.head _)) hv54 (by decide) h57)) fun a hF => ?_
        refine ⟨fun _ => (St.ldsX hS (fun _ _ h => h) (fun _ h => (.tail _ h))), ?_⟩
        refine da1 (i := 17) (by kernel_rfl) ?_
        have hn62 := setI_len h59
        refine di (i := 17) rfl <| s_slW (α := api_Event) hF hS Tryd.sizeOf23 rfl rfl rfl hv54 ⟨_, _, rfl, rfl, ⟨_, _, rfl, rfl, ⟨_, _, rfl, rfl, ⟨_, _, rfl, rfl, rfl⟩⟩⟩⟩ h59 (.head _) fun vs60 w hv61 hU => ?_
        replace hS := hU _ .head
        clear hU
        refine ⟨fun h => absurd rfl h, ?_⟩
        refine de (by kernel_rfl) <| ?_
        refine tn <| ?_
        replace hF := Fr.as hF (t := 10) (v' := .slice oa33 l58.length cap34) rfl (by rw [(hn62.trans hn55)])
        exact ⟨l58, oa33, cap34, vs60, hm, hF.has ⟨rfl, trivial⟩, hS, hv61⟩
      ·
        refine di (i := 10) rfl <| q1 hF rfl (e_move hF rfl) fun a hF => ?_
        refine ⟨fun _ => (St.ldsX hS (fun _ _ h => h) (fun _ h => (.tail _ h))), ?_⟩
        refine da2 (i := 9) (j := 11) (by kernel_rfl) ?_ ?_
        ·
          refine di (i := 9) rfl <| q1 hF rfl (e_ldA hF Tryd.isAgg23 Tryd.sizeOf23 rfl rfl ((St.ld hS).elsO (.head _) hl43)) fun a hF => ?_
          refine ⟨fun _ => (St.ldsX hS (fun _ _ h => h) (fun _ h => (.tail _ h))), ?_⟩
          refine d1 (i := 11) rfl (by kernel_rfl) (by kernel_rfl) (St.ldsX hS (fun _ _ h => h) (fun _ h => (.tail _ h))) hF rfl (fun _ _ _ h => h) (fun w hl => (e_move hF rfl)) fun a hF => ?_
          refine d1 (i := 12) rfl (by kernel_rfl) (by kernel_rfl) (St.ldsX hS (fun _ _ h => h) (fun _ h => (.tail _ h))) hF rfl (fun _ _ _ h => h) (fun w hl => (e_iaI hF Tryd.runUnderlying39 Tryd.sizeOf23 rfl rfl h45 ho46)) fun a hF => ?_
          refine da1 (i := 13) (by kernel_rfl) ?_
          refine di (i := 13) rfl <| q1 hF rfl (e_ldA hF Tryd.isAgg23 Tryd.sizeOf23 rfl rfl ((St.ld hS).elsO (.head _) hl49)) fun a hF => ?_
          refine ⟨fun _ => (St.ldsX hS (fun _ _ h => h) (fun _ h => (.tail _ h))), ?_⟩
          refine d1 (i := 14) rfl (by kernel_rfl) (by kernel_rfl) (St.ldsX hS (fun _ _ h => h) (fun _ h => (.tail _ h))) hF rfl (fun _ _ _ h => h) (fun w hl => (e_iaI hF Tryd.runUnderlying39 Tryd.sizeOf23 rfl rfl h45 ho50)) fun a hF => ?_
          refine da1 (i := 15) (by kernel_rfl) ?_
          have hn55 := setI_len h52
          refine di (i := 15) rfl <| s_slW (α := api_Event) hF hS Tryd.sizeOf23 rfl rfl rfl hv36 ⟨_, _, rfl, rfl, ⟨_, _, rfl, rfl, ⟨_, _, rfl, rfl, ⟨_, _, rfl, rfl, rfl⟩⟩⟩⟩ h52 (.head _) fun vs53 w hv54 hU => ?_
          replace hS := hU _ .head
          clear hU
          refine ⟨fun _ => (St.ldsX hS (fun _ _ h => h) (fun _ h => (.tail _ h))), ?_⟩
          replace hF := Fr.as hF (t := 43) (v' := .slice oa33 l51.length cap34) rfl (by rw [hn55])
          refine da1 (i := 16) (by kernel_rfl) ?_
          refine di (i := 16) rfl <| q1 hF rfl (e_iaI hF Tryd.runUnderlying39 Tryd.sizeOf23 rfl rfl h57 (Rd.oaI ((St.ld hS).rdO (.head _)) hv54 (by decide) h57)) fun a hF => ?_
          refine ⟨fun _ => (St.ldsX hS (fun _ _ h => h) (fun _ h => (.tail _ h))), ?_⟩
          refine da1 (i := 17) (by kernel_rfl) ?_
          have hn62 := setI_len h59
          refine di (i := 17) rfl <| s_slW (α := api_Event) hF hS Tryd.sizeOf23 rfl rfl rfl hv54 ⟨_, _, rfl, rfl, ⟨_, _, rfl, rfl, ⟨_, _, rfl, rfl, ⟨_, _, rfl, rfl, rfl⟩⟩⟩⟩ h59 (.head _) fun vs60 w hv61 hU => ?_
          replace hS := hU _ .head
          clear hU
          refine ⟨fun h => absurd rfl h, ?_⟩
          refine de (by kernel_rfl) <| ?_
          refine tn <| ?_
          replace hF := Fr.as hF (t := 10) (v' := .slice oa33 l58.length cap34) rfl (by rw [(hn62.trans hn55)])
          exact ⟨l58, oa33, cap34, vs60, hm, hF.has ⟨rfl, trivial⟩, hS, hv61⟩
        ·
          refine di (i := 11) rfl <| q1 hF rfl (e_move hF rfl) fun a hF => ?_
          refine ⟨fun _ => (St.ldsX hS (fun _ _ h => h) (fun _ h => (.tail _ h))), ?_⟩
          refine da2 (i := 9) (j := 12) (by kernel_rfl) ?_ ?_
          ·
            refine di (i := 9) rfl <| q1 hF rfl (e_ldA hF Tryd.isAgg23 Tryd.sizeOf23 rfl rfl ((St.ld hS).elsO (.head _) hl43)) fun a hF => ?_
            refine ⟨fun _ => (St.ldsX hS (fun _ _ h => h) (fun _ h => (.tail _ h))), ?_⟩
            refine d1 (i := 12) rfl (by kernel_rfl) (by kernel_rfl) (St.ldsX hS (fun _ _ h => h) (fun _ h => (.tail _ h))) hF rfl (fun _ _ _ h => h) (fun w hl => (e_iaI hF Tryd.runUnderlying39 Tryd.sizeOf23 rfl rfl h45 ho46)) fun a hF => ?_
            refine da1 (i := 13) (by kernel_rfl) ?_
            refine di (i := 13) rfl <| q1 hF rfl (e_ldA hF Tryd.isAgg23 Tryd.sizeOf23 rfl rfl ((St.ld hS).elsO (.head _) hl49)) fun a hF => ?_
            refine ⟨fun _ => (St.ldsX hS (fun _ _ h => h) (fun _ h => (.tail _ h))), ?_⟩
            refine d1 (i := 14) rfl (by kernel_rfl) (by kernel_rfl) (St.ldsX hS (fun _ _ h => h) (fun _ h => (.tail _ h))) hF rfl (fun _ _ _ h => h) (fun w hl => (e_iaI hF Tryd.runUnderlying39 Tryd.sizeOf23 rfl rfl h45 ho50)) fun a hF => ?_
            refine da1 (i := 15) (by kernel_rfl) ?_
            have hn55 := setI_len h52
            refine di (i := 15) rfl <| s_slW (α := api_Event) hF hS Tryd.sizeOf23 rfl rfl rfl hv36 ⟨_, _, rfl, rfl, ⟨_, _, rfl, rfl, ⟨_, _, rfl, rfl, ⟨_, _, rfl, rfl, rfl⟩⟩⟩⟩ h52 (.head _) fun vs53 w hv54 hU => ?_
            replace hS := hU _ .head
            clear hU
            refine ⟨fun _ => (St.ldsX hS (fun _ _ h => h) (fun _ h => (.tail _ h))), ?_⟩
            replace hF := Fr.as hF (t := 43) (v' := .slice oa33 l51.length cap34) rfl (by rw [hn55])
            refine da1 (i := 16) (by kernel_rfl) ?_
            refine di (i := 16) rfl <| q1 hF rfl (e_iaI hF Tryd.runUnderlying39 Tryd.sizeOf23 rfl rfl h57 (Rd.oaI ((St.ld hS).rdO (.head _)) hv54 (by decide) h57)) fun a hF => ?_
            refine ⟨fun _ => (St.ldsX hS (fun _ _ h => h) (fun _ h => (.tail _ h))), ?_⟩
            refine da1 (i := 17) (by kernel_rfl) ?_
            have hn62 := setI_len h59
            refine di (i := 17) rfl <| s_slW (α := api_Event) hF hS Tryd.sizeOf23 rfl rfl rfl hv54 ⟨_, _, rfl, rfl, ⟨_, _, rfl, rfl, ⟨_, _, rfl, rfl, ⟨_, _, rfl, rfl, rfl⟩⟩⟩⟩ h59 (.head _) fun vs60 w hv61 hU => ?_
            replace hS := hU _ .head
            clear hU
            refine ⟨fun h => absurd rfl h, ?_⟩
            refine de (by kernel_rfl) <| ?_
            refine tn <| ?_
            replace hF := Fr.as hF (t := 10) (v' := .slice oa33 l58.length cap34) rfl (by rw [(hn62.trans hn55)])
            exact ⟨l58, oa33, cap34, vs60, hm, hF.has ⟨rfl, trivial⟩, hS, hv61⟩
          ·
            refine di (i := 12) rfl <| q1 hF rfl (e_iaI hF Tryd.runUnderlying39 Tryd.sizeOf23 rfl rfl h45 ho46) fun a hF => ?_
            refine ⟨fun _ => (St.ldsX hS (fun _ _ h => h) (fun _ h => (.tail _ h))), ?_⟩
            refine da2 (i := 9) (j := 13) (by kernel_rfl) ?_ ?_
            ·
              refine di (i := 9) rfl <| q1 hF rfl (e_ldA hF Tryd.isAgg23 Tryd.sizeOf23 rfl rfl ((St.ld hS).elsO (.head _) hl43)) fun a hF => ?_
              refine ⟨fun _ => (St.ldsX hS (fun _ _ h => h) (fun _ h => (.tail _ h))), ?_⟩
              refine da1 (i := 13) (by kernel_rfl) ?_
              refine di (i := 13) rfl <| q1 hF rfl (e_ldA hF Tryd.isAgg23 Tryd.sizeOf23 rfl rfl ((St.ld hS).elsO (.head _) hl49)) fun a hF => ?_
              refine ⟨fun _ => (St.ldsX hS (fun _ _ h => h) (fun _ h => (.tail _ h))), ?_⟩
              refine d1 (i := 14) rfl (by kernel_rfl) (by kernel_rfl) (St.ldsX hS (fun _ _ h => h) (fun _ h => (.tail _ h))) hF rfl (fun _ _ _ h => h) (fun w hl => (e_iaI hF Tryd.runUnderlying39 Tryd.sizeOf23 rfl rfl h45 ho50)) fun a hF => ?_
              refine da1 (i := 15) (by kernel_rfl) ?_
              have hn55 := setI_len h52
              refine di (i := 15) rfl <| s_slW (α := api_Event) hF hS Tryd.sizeOf23 rfl rfl rfl hv36 ⟨_, _, rfl, rfl, ⟨_, _, rfl, rfl, ⟨_, _, rfl, rfl, ⟨_, _, rfl, rfl, rfl⟩⟩⟩⟩ h52 (.head _) fun vs53 w hv54 hU => ?_
              replace hS := hU _ .head
              clear hU
              refine ⟨fun _ => (St.ldsX hS (fun _ _ h => h) (fun _ h => (.tail _ h))), ?_⟩
              replace hF := Fr.as hF (t := 43) (v' := .slice oa33 l51.length cap34) rfl (by rw [hn55])
              refine da1 (i := 16) (by kernel_rfl) ?_
              refine di (i := 16) rfl <| q1 hF rfl (e_iaI hF Tryd.runUnderlying39 Tryd.sizeOf23 rfl rfl h57 (Rd.oaI ((St.ld hS).rdO (.head _)) hv54 (by decide) h57)) fun a hF => ?_
              refine ⟨fun _ => (St.ldsX hS (fun _ _ h => h) (fun _ h => (.tail _ h))), ?_⟩
              refine da1 (i := 17) (by kernel_rfl) ?_
              have hn62 := setI_len h59
              refine di (i := 17) rfl <| s_slW (α := api_Event) hF hS Tryd.sizeOf23 rfl rfl rfl hv54 ⟨_, _, rfl, rfl, ⟨_, _, rfl, rfl, ⟨_, _, rfl, rfl, ⟨_, _, rfl, rfl, rfl⟩⟩⟩⟩ h59 (.head _) fun vs60 w hv61 hU => ?_
              replace hS := hU _ .head
              clear hU
              refine ⟨fun h => absurd rfl h, ?_⟩
              refine de (by kernel_rfl) <| ?_
              refine tn <| ?_
              replace hF := Fr.as hF (t := 10) (v' := .slice oa33 l58.length cap34) rfl (by rw [(hn62.trans hn55)])
              exact ⟨l58, oa33, cap34, vs60, hm, hF.has ⟨rfl, trivial⟩, hS, hv61⟩
            ·
              refine di (i := 13) rfl <| q1 hF rfl (e_ldA hF Tryd.isAgg23 Tryd.sizeOf23 rfl rfl ((St.ld hS).elsO (.head _) hl49)) fun a hF => ?_
              refine ⟨fun _ => (St.ldsX hS (fun _ _ h => h) (fun _ h => (.tail _ h))), ?_⟩
              refine da1 (i := 9) (by kernel_rfl) ?_
              refine di (i := 9) rfl <| q1 hF rfl (e_ldA hF Tryd.isAgg23 Tryd.sizeOf23 rfl rfl ((St.ld hS).elsO (.head _) hl43)) fun a hF => ?_
              refine ⟨fun _ => (St.ldsX hS (fun _ _ h => h) (fun _ h => (.tail _ h))), ?_⟩
              refine d1 (i := 14) rfl (by kernel_rfl) (by kernel_rfl) (St.ldsX hS (fun _ _ h => h) (fun _ h => (.tail _ h))) hF rfl (fun _ _ _ h => h) (fun w hl => (e_iaI hF Tryd.runUnderlying39 Tryd.sizeOf23 rfl rfl h45 ho50)) fun a hF => ?_
              refine da1 (i := 15) (by kernel_rfl) ?_
              have hn55 := setI_len h52
              refine di (i := 15) rfl <| s_slW (α := api_Event) hF hS Tryd.sizeOf23 rfl rfl rfl hv36 ⟨_, _, rfl, rfl, ⟨_, _, rfl, rfl, ⟨_, _, rfl, rfl, ⟨_, _, rfl, rfl, rfl⟩⟩⟩⟩ h52 (.head _) fun vs53 w hv54 hU => ?_
              replace hS := hU _ .head
              clear hU
              refine ⟨fun _ => (St.ldsX hS (fun _ _ h => h) (fun _ h => (.tail _ h))), ?_⟩
              replace hF := Fr.as hF (t := 43) (v' := .slice oa33 l51.length cap34) rfl (by rw [hn55])
              refine da1 (i := 16) (by kernel_rfl) ?_
              refine di (i := 16) rfl <| q1 hF rfl (e_iaI hF Tryd.runUnderlying39 Tryd.sizeOf23 rfl rfl h57 (Rd.oaI ((St.ld hS).rdO (.head _)) hv54 (by decide) h57)) fun a hF => ?_
              refine ⟨fun _ => (St.ldsX hS (fun _ _ h => h) (fun _ h => (.tail _ h))), ?_⟩
              refine da1 (i := 17) (by kernel_rfl) ?_
              have hn62 := setI_len h59
              refine di (i := 17) rfl <| s_slW (α := api_Event) hF hS Tryd.sizeOf23 rfl rfl rfl hv54 ⟨_, _, rfl, rfl, ⟨_, _, rfl, rfl, ⟨_, _, rfl, rfl, ⟨_, _, rfl, rfl, rfl⟩⟩⟩⟩ h59 (.head _) fun vs60 w hv61 hU => ?_
              replace hS := hU _ .head
              clear hU
              refine ⟨fun h => absurd rfl h, ?_⟩
              refine de (by kernel_rfl) <| ?_
              refine tn <| ?_
              replace hF := Fr.as hF (t := 10) (v' := .slice oa33 l58.length cap34) rfl (by rw [(hn62.trans hn55)])
              exact ⟨l58, oa33, cap34, vs60, hm, hF.has ⟨rfl, trivial⟩, hS, hv61⟩
      ·
        refine di (i := 11) rfl <| q1 hF rfl (e_move hF rfl) fun a hF => ?_
        refine ⟨fun _ => (St.ldsX hS (fun _ _ h => h) (fun _ h => (.tail _ h))), ?_⟩
        refine da2 (i := 9) (j := 10) (by kernel_rfl) ?_ ?_
        ·
          refine di (i := 9) rfl <| q1 hF rfl (e_ldA hF Tryd.isAgg23 Tryd.sizeOf23 rfl rfl ((St.ld hS).elsO (.head _) hl43)) fun a hF => ?_
          refine ⟨fun _ => (St.ldsX hS (fun _ _ h => h) (fun _ h => (.tail _ h))), ?_⟩
          refine d1 (i := 10) rfl (by kernel_rfl) (by kernel_rfl) (St.ldsX hS (fun _ _ h => h) (fun _ h => (.tail _ h))) hF rfl (fun _ _ _ h => h) (fun w hl => (e_move hF rfl)) fun a hF => ?_
          refine d1 (i := 12) rfl (by kernel_rfl) (by kernel_rfl) (St.ldsX hS (fun _ _ h => h) (fun _ h => (.tail _ h))) hF rfl (fun _ _ _ h => h) (fun w hl => (e_iaI hF Tryd.runUnderlying39 Tryd.sizeOf23 rfl rfl h45 ho46)) fun a hF => ?_
          refine da1 (i := 13) (by kernel_rfl) ?_
          refine di (i := 13) rfl <| q1 hF rfl (e_ldA hF Tryd.isAgg23 Tryd.sizeOf23 rfl rfl ((St.ld hS).elsO (.head _) hl49)) fun a hF => ?_
          refine ⟨fun _ => (St.ldsX hS (fun _ _ h => h) (fun _ h => (.tail _ h))), ?_⟩
          refine d1 (i := 14) rfl (by kernel_rfl) (by kernel_rfl) (St.ldsX hS (fun _ _ h => h) (fun _ h => (.tail _ h))) hF rfl (fun _ _ _ h => h) (fun w hl => (e_iaI hF Tryd.runUnderlying39 Tryd.sizeOf23 rfl rfl h45 ho50)) fun a hF => ?_
          refine da1 (i := 15) (by kernel_rfl) ?_
          have hn55 := setI_len h52
          refine di (i := 15) rfl <| s_slW (α := api_Event) hF hS Tryd.sizeOf23 rfl rfl rfl hv36 ⟨_, _, rfl, rfl, ⟨_, _, rfl, rfl, ⟨_, _, rfl, rfl, ⟨_, _, rfl, rfl, rfl⟩⟩⟩⟩ h52 (.head _) fun vs53 w hv54 hU => ?_
          replace hS := hU _ .head
          clear hU
          refine ⟨fun _ => (St.ldsX hS (fun _ _ h => h) (fun _ h => (.tail _ h))), ?_⟩
          replace hF := Fr.as hF (t := 43) (v' := .slice oa33 l51.length cap34) rfl (by rw [hn55])
          refine da1 (i := 16) (by kernel_rfl) ?_
          refine di (i := 16) rfl <| q1 hF rfl (e_iaI hF Tryd.runUnderlying39 Tryd.sizeOf23 rfl rfl h57 (Rd.oaI ((St.ld hS).rdO (.head _)) hv54 (by decide) h57)) fun a hF => ?_
          refine ⟨fun _ => (St.ldsX hS (fun _ _ h => h) (fun _ h => (.tail _ h))), ?_⟩
          refine da1 (i := 17) (by kernel_rfl) ?_
          have hn62 := setI_len h59
          refine di (i := 17) rfl <| s_slW (α := api_Event) hF hS Tryd.sizeOf23 rfl rfl rfl hv54 ⟨_, _, rfl, rfl, ⟨_, _, rfl, rfl, ⟨_, _, rfl, rfl, ⟨_, _, rfl, rfl, rfl⟩⟩⟩⟩ h59 (.head _) fun vs60 w hv61 hU => ?_
          replace hS := hU _ .head
          clear hU
          refine ⟨fun h => absurd rfl h, ?_⟩
          refine de (by kernel_rfl) <| ?_
          refine tn <| ?_
          replace hF := Fr.as hF (t := 10) (v' := .slice oa33 l58.length cap34) rfl (by rw [(hn62.trans hn55)])
          exact ⟨l58, oa33, cap34, vs60, hm, hF.has ⟨rfl, trivial⟩, hS, hv61⟩
        ·
          refine di (i := 10) rfl <| q1 hF rfl (e_move hF rfl) fun a hF => ?_
          refine ⟨fun _ => (St.ldsX hS (fun _ _ h => h) (fun _ h => (.tail _ h))), ?_⟩
          refine da2 (i := 9) (j := 12) (by kernel_rfl) ?_ ?_
          ·
            refine di (i := 9) rfl <| q1 hF rfl (e_ldA hF Tryd.isAgg23 Tryd.sizeOf23 rfl rfl ((St.ld hS).elsO (.head _) hl43)) fun a hF => ?_
            refine ⟨fun _ => (St.ldsX hS (fun _ _ h => h) (fun _ h => (.tail _ h))), ?_⟩
            refine d1 (i := 12) rfl (by kernel_rfl) (by kernel_rfl) (St.ldsX hS (fun _ _ h => h) (fun _ h => (.tail _ h))) hF rfl (fun _ _ _ h => h) (fun w hl => (e_iaI hF Tryd.runUnderlying39 Tryd.sizeOf23 rfl rfl h45 ho46)) fun a hF => ?_
            refine da1 (i := 13) (by kernel_rfl) ?_
            refine di (i := 13) rfl <| q1 hF rfl (e_ldA hF Tryd.isAgg23 Tryd.sizeOf23 rfl rfl ((St.ld hS).elsO (.head _) hl49)) fun a hF => ?_
            refine ⟨fun _ => (St.ldsX hS (fun _ _ h => h) (fun _ h => (.tail _ h))), ?_⟩
            refine d1 (i := 14) rfl (by kernel_rfl) (by kernel_rfl) (St.ldsX hS (fun _ _ h => h) (fun _ h => (.tail _ h))) hF rfl (fun _ _ _ h => h) (fun w hl => (e_iaI hF Tryd.runUnderlying39 Tryd.sizeOf23 rfl rfl h45 ho50)) fun a hF => ?_
            refine da1 (i := 15) (by kernel_rfl) ?_
            have hn55 := setI_len h52
            refine di (i := 15) rfl <| s_slW (α := api_Event) hF hS Tryd.sizeOf23 rfl rfl rfl hv36 ⟨_, _, rfl, rfl, ⟨_, _, rfl, rfl, ⟨_, _, rfl, rfl, ⟨_, _, rfl, rfl, rfl⟩⟩⟩⟩ h52 (.head _) fun vs53 w hv54 hU => ?_
            replace hS := hU _ .head
            clear hU
            refine ⟨fun _ => (St.ldsX hS (fun _ _ h => h) (fun _ h => (.tail _ h))), ?_⟩
            replace hF := Fr.as hF (t := 43) (v' := .slice oa33 l51.length cap34) rfl (by rw [hn55])
            refine da1 (i := 16) (by kernel_rfl) ?_
            refine di (i := 16) rfl <| q1 hF rfl (e_iaI hF Tryd.runUnderlying39 Tryd.sizeOf23 rfl rfl h57 (Rd.oaI ((St.ld hS).rdO (.head _)) hv54 (by decide) h57)) fun a hF => ?_
            refine ⟨fun _ => (St.ldsX hS (fun _ _ h => h) (fun _ h => (.tail _ h))), ?_⟩
            refine da1 (i := 17) (by kernel_rfl) ?_
            have hn62 := setI_len h59
            refine di (i := 17) rfl <| s_slW (α := api_Event) hF hS Tryd.sizeOf23 rfl rfl rfl hv54 ⟨_, _, rfl, rfl, ⟨_, _, rfl, rfl, ⟨_, _, rfl, rfl, ⟨_, _, rfl, rfl, rfl⟩⟩⟩⟩ h59 (.head _) fun vs60 w hv61 hU => ?_
            replace hS := hU _ .head
            clear hU
            refine ⟨fun h => absurd rfl h, ?_⟩
            refine de (by kernel_rfl) <| ?_
            refine tn <| ?_
            replace hF := Fr.as hF (t := 10) (v' := .slice oa33 l58.length cap34) rfl (by rw [(hn62.trans hn55)])
            exact ⟨l58, oa33, cap34, vs60, hm, hF.has ⟨rfl, trivial⟩, hS, hv61⟩
          ·
            refine di (i := 12) rfl <| q1 hF rfl (e_iaI hF Tryd.runUnderlying39 Tryd.sizeOf23 rfl rfl h45 ho46) fun a hF => ?_
            refine ⟨fun _ => (St.ldsX hS (fun _ _ h => h) (fun _ h => (.tail _ h))), ?_⟩
            refine da2 (i := 9) (j := 13) (by kernel_rfl) ?_ ?_
            ·
              refine di (i := 9) rfl <| q1 hF rfl (e_ldA hF Tryd.isAgg23 Tryd.sizeOf23 rfl rfl ((St.ld hS).elsO (.head _) hl43)) fun a hF => ?_
              refine ⟨fun _ => (St.ldsX hS (fun _ _ h => h) (fun _ h => (.tail _ h))), ?_⟩
              refine da1 (i := 13) (by kernel_rfl) ?_
              refine di (i := 13) rfl <| q1 hF rfl (e_ldA hF Tryd.isAgg23 Tryd.sizeOf23 rfl rfl ((St.ld hS).elsO (.head _) hl49)) fun a hF => ?_
              refine ⟨fun _ => (St.ldsX hS (fun _ _ h => h) (fun _ h => (.tail _ h))), ?_⟩
              refine d1 (i := 14) rfl (by kernel_rfl) (by kernel_rfl) (St.ldsX hS (fun _ _ h => h) (fun _ h => (.tail _ h))) hF rfl (fun _ _ _ h => h) (fun w hl => (e_iaI hF Tryd.runUnderlying39 Tryd.sizeOf23 rfl rfl h45 ho50)) fun a hF => ?_
              refine da1 (i := 15) (by kernel_rfl) ?_
              have hn55 := setI_len h52
              refine di (i := 15) rfl <| s_slW (α := api_Event) hF hS Tryd.sizeOf23 rfl rfl rfl hv36 ⟨_, _, rfl, rfl, ⟨_, _, rfl, rfl, ⟨_, _, rfl, rfl, ⟨_, _, rfl, rfl, rfl⟩⟩⟩⟩ h52 (.head _) fun vs53 w hv54 hU => ?_
              replace hS := hU _ .head
              clear hU
              refine ⟨fun _ => (St.ldsX hS (fun _ _ h => h) (fun _ h => (.tail _ h))), ?_⟩
              replace hF := Fr.as hF (t := 43) (v' := .slice oa33 l51.length cap34) rfl (by rw [hn55])
              refine da1 (i := 16) (by kernel_rfl) ?_
              refine di (i := 16) rfl <| q1 hF rfl (e_iaI hF Tryd.runUnderlying39 Tryd.sizeOf23 rfl rfl h57 (Rd.oaI ((St.ld hS).rdO (.head _)) hv54 (by decide) h57)) fun a hF => ?_
              refine ⟨fun _ => (St.ldsX hS (fun _ _ h => h) (fun _ h => (.tail _ h))), ?_⟩
              refine da1 (i := 17) (by kernel_rfl) ?_
              have hn62 := setI_len h59
              refine di (i := 17) rfl <| s_slW (α := api_Event) hF hS Tryd.sizeOf23 rfl rfl rfl hv54 ⟨_, _, rfl, rfl, ⟨_, _, rfl, rfl, ⟨_, _, rfl, rfl, ⟨_, _, rfl, rfl, rfl⟩⟩⟩⟩ h59 (.head _) fun vs60 w hv61 hU => ?_
              replace hS := hU _ .head
              clear hU
              refine ⟨fun h => absurd rfl h, ?_⟩
              refine de (by kernel_rfl) <| ?_
              refine tn <| ?_
              replace hF := Fr.as hF (t := 10) (v' := .slice oa33 l58.length cap34) rfl (by rw [(hn62.trans hn55)])
              exact ⟨l58, oa33, cap34, vs60, hm, hF.has ⟨rfl, trivial⟩, hS, hv61⟩
            ·
              refine di (i := 13) rfl <| q1 hF rfl (e_ldA hF Tryd.isAgg23 Tryd.sizeOf23 rfl rfl ((St.ld hS).elsO (.head _) hl49)) fun a hF => ?_
              refine ⟨fun _ => (St.ldsX hS (fun _ _ h => h) (fun _ h => (.tail _ h))), ?_⟩
              refine da1 (i := 9) (by kernel_rfl) ?_
              refine di (i := 9) rfl <| q1 hF rfl (e_ldA hF Tryd.isAgg23 Tryd.sizeOf23 rfl rfl ((St.ld hS).elsO (.head _) hl43)) fun a hF => ?_
              refine ⟨fun _ => (St.ldsX hS (fun _ _ h => h) (fun _ h => (.tail _ h))), ?_⟩
              refine d1 (i := 14) rfl (by kernel_rfl) (by kernel_rfl) (St.ldsX hS (fun _ _ h => h) (fun _ h => (.tail _ h))) hF rfl (fun _ _ _ h => h) (fun w hl => (e_iaI hF Tryd.runUnderlying39 Tryd.sizeOf23 rfl rfl h45 ho50)) fun a hF => ?_
              refine da1 (i := 15) (by kernel_rfl) ?_
              have hn55 := setI_len h52
              refine di (i := 15) rfl <| s_slW (α := api_Event) hF hS Tryd.sizeOf23 rfl rfl rfl hv36 ⟨_, _, rfl, rfl, ⟨_, _, rfl, rfl, ⟨_, _, rfl, rfl, ⟨_, _, rfl, rfl, rfl⟩⟩⟩⟩ h52 (.head _) fun vs53 w hv54 hU => ?_
              replace hS := hU _ .head
              clear hU
              refine ⟨fun _ => (St.ldsX hS (fun _ _ h => h) (fun _ h => (.tail _ h))), ?_⟩
              replace hF := Fr.as hF (t := 43) (v' := .slice oa33 l51.length cap34) rfl (by rw [hn55])
              refine da1 (i := 16) (by kernel_rfl) ?_
              refine di (i := 16) rfl <| q1 hF rfl (e_iaI hF Tryd.runUnderlying39 Tryd.sizeOf23 rfl rfl h57 (Rd.oaI ((St.ld hS).rdO (.head _)) hv54 (by decide) h57)) fun a hF => ?_
              refine ⟨fun _ => (St.ldsX hS (fun _ _ h => h) (fun _ h => (.tail _ h))), ?_⟩
              refine da1 (i := 17) (by kernel_rfl) ?_
              have hn62 := setI_len h59
              refine di (i := 17) rfl <| s_slW (α := api_Event) hF hS Tryd.sizeOf23 rfl rfl rfl hv54 ⟨_, _, rfl, rfl, ⟨_, _, rfl, rfl, ⟨_, _, rfl, rfl, ⟨_, _, rfl, rfl, rfl⟩⟩⟩⟩ h59 (.head _) fun vs60 w hv61 hU => ?_
              replace hS := hU _ .head
              clear hU
              refine ⟨fun h => absurd rfl h, ?_⟩
              refine de (by kernel_rfl) <| ?_
              refine tn <| ?_
              replace hF := Fr.as hF (t := 10) (v' := .slice oa33 l58.length cap34) rfl (by rw [(hn62.trans hn55)])
              exact ⟨l58, oa33, cap34, vs60, hm, hF.has ⟨rfl, trivial⟩, hS, hv61⟩
    clear hm hF hS
    rintro a w ⟨vA7, oaA8, capA9, vsA10, hm, hF, hS, hvA11⟩
    unfold trace_Swap_j2 at hm
    refine th <| ?_
    refine rg <| ?_
    refine ls <| q1 hF rfl (e_move hF rfl) fun a hF => ?_
    refine ls <| q1 hF rfl (e_asg hF rfl) fun a hF => ?_
    refine ls <| q1 hF rfl (e_asg hF rfl) fun a hF => ?_
    refine re <| ?_
    refine tn <| ?_
    refine wp_ret <| ?_
    obtain rfl := Option.some.inj hm
    exact r2 hF Tryd.results26 rfl rfl ⟨_, _, _, rfl, (fun _ => Rows.ind hvA11), hS.endFresh (.head _)⟩

set_option maxRecDepth 100000 in
theorem trace_Form_1_c {N : Nat} {w0 : World} {H : PH} (hH : H.le w0) {p1 : Int} {m4 c6 : Nat} {l5 : List (Int × Value × Nat)} {y3 : (List (Int × Bool))} (hf8 : H m4 = some (.map (l5.map (toE kI)).toArray c6)) (hm7 : MRel Value.bool l5 y3) {b2 : Nat} (hb9 : H b2 = some (.cells [.map (some m4)].toArray 68 (0, 0))) {oa12 : Option Addr} {cap13 : Nat} {y11 : (List api_Event)} (hc14 : y11.length ≤ cap13) (hr15 : SR H oa12 y11) {b10 : Nat} (hb16 : H b10 = some (.cells [.slice oa12 y11.length cap13].toArray 39 (0, 0))) {oa19 : Option Addr} {cap20 : Nat} {y18 : (List Int)} (hc21 : y18.length ≤ cap20) (hr22 : SR H oa19 y18) {b17 : Nat} (hb23 : H b17 = some (.cells [.slice oa19 y18.length cap20].toArray 25 (0, 0))) {y25 : Int} {b24 : Nat} (hb26 : H b24 = some (.cells [.int .i64 y25].toArray 3 (0, 0))) {r : Bool} (hm : trace_Form_1 N p1 y3 y11 y18 y25 = some r) : Tot Tryd.prog 52 #[.int .i64 p1, .pointer (some ⟨b2, 0, none⟩), .pointer (some ⟨b10, 0, none⟩), .pointer (some ⟨b17, 0, none⟩), .pointer (some ⟨b24, 0, none⟩)] w0 (fun v w' => v = .bool r ∧ Keep Nil w0 w') := by
  unfold trace_Form_1 at hm
  refine fn0 (args := [.int .i64 p1, .pointer (some ⟨b2, 0, none⟩), .pointer (some ⟨b10, 0, none⟩), .pointer (some ⟨b17, 0, none⟩), .pointer (some ⟨b24, 0, none⟩)]) (F := [(0, .int .i64 p1), (1, .pointer (some ⟨b2, 0, none⟩)), (2, .pointer (some ⟨b10, 0, none⟩)), (3, .pointer (some ⟨b17, 0, none⟩)), (4, .pointer (some ⟨b24, 0, none⟩))]) Tryd.func52 rfl Tryd.ntmps52 rfl rfl fun a hF => ?_
  have hS : St w0 Nil [H] [] w0 := start1 hH
  refine th <| ?_
  refine rg <| ?_
  refine ls <| q1 hF rfl (e_asg hF rfl) fun a hF => ?_
  refine re <| ?_
  refine tn <| th <| th <| ?_
  refine rg <| ?_
  refine ls <| q1 hF rfl (e_move hF rfl) fun a hF => ?_
  refine ls <| q1 hF rfl (e_move hF rfl) fun a hF => ?_
  refine re <| ?_
  refine tn <| midK (fun a w => ∃ (HA1 : PH), trace_Form_1_j1 = some r ∧ Ext w0 H HA1 ∧ Fr 29 [] a ∧ St w0 Nil [HA1] [] w) ?_ ?_
  ·
    refine wp_block <| lp (α := Nat × Int) (fun (gh : Nat × Int) a w => match gh with | (nn2, vB2) => ∃ (HB1 : PH), (trace_Form_1_l2 N trace_Form_1_j1 p1 y3 y11 y18 y25) nn2 vB2 = some r ∧ Ext w0 H HB1 ∧ Fr 29 [(0, .int .i64 p1), (1, .pointer (some ⟨b2, 0, none⟩)), (2, .pointer (some ⟨b10, 0, none⟩)), (3, .pointer (some ⟨b17, 0, none⟩)), (4, .pointer (some ⟨b24, 0, none⟩)), (8, .int .i64 p1), (9, .int .i64 vB2)] a ∧ St w0 Nil [HB1] [] w) (fun gh => gh.1) (N, 0) ⟨H, hm, (Ext.refl _ _), hF.has ⟨rfl, rfl, rfl, rfl, rfl, rfl, rfl, trivial⟩, hS⟩ ?_
    clear hm hF hS
    rintro ⟨nn2, vB2⟩ a w ⟨HB1, hm, hxHB1, hF, hS⟩
    obtain _ | nn2 := nn2
    · simp [trace_Form_1_l2] at hm
    rw [trace_Form_1_l2] at hm
    refine th <| ?_
    refine rg <| ?_
    refine ls <| q1 hF rfl (e_lss hF rfl rfl) fun a hF => ?_
    refine re <| ?_
    rcases bdich (decide (vB2 < p1)) with hb27 | hb27
    ·
      replace hm := itp_t hm hb27
      refine tn <| th <| ctv hF rfl hb27 <| wp_skip <| ?_
      refine tn <| th <| wp_block <| th <| ?_
      refine rg <| ?_
      refine ls <| q1 hF rfl (e_move hF rfl) fun a hF => ?_
      refine ls <| q1 hF rfl (e_asg hF rfl) fun a hF => ?_
      refine re <| ?_
      refine tn <| th <| midK (fun a w => ∃ (vC1 : Bool), (trace_Form_1_j3 (trace_Form_1_l2 N trace_Form_1_j1 p1 y3 y11 y18 y25 nn2) vB2) vC1 = some r ∧ Fr 29 [(0, .int .i64 p1), (1, .pointer (some ⟨b2, 0, none⟩)), (2, .pointer (some ⟨b10, 0, none⟩)), (3, .pointer (some ⟨b17, 0, none⟩)), (4, .pointer (some ⟨b24, 0, none⟩)), (8, .int .i64 p1), (9, .int .i64 vB2), (27, .bool vC1)] a ∧ St w0 Nil [HB1] [] w) ?_ ?_
      ·
        rcases bdich ((plook vB2 y3).getD false) with hb28 | hb28
        ·
          replace hm := ite_t hm hb28
          replace hm := bind_some hm
          obtain ⟨x29, h30, hm⟩ := hm
          obtain ⟨c31, g32, hl33⟩ := SR.get hr15 h30
          obtain rfl := api_Event_open g32
          replace hm := bind_some hm
          obtain ⟨x34, h35, hm⟩ := hm
          obtain ⟨c36, g37, hl38⟩ := SR.get hr15 h35
          obtain rfl := api_Event_open g37
          replace hm := bind_some hm
          obtain ⟨r39, h40, hm⟩ := hm
          refine rdS 16 hS wide fun w hS => ?_
          refine d1 (i := 0) rfl (by kernel_rfl) (by kernel_rfl) (St.ld hS) hF rfl (fun _ _ _ h => h) (fun w hl => (e_ld hF Tryd.isAgg68 rfl (PH.le.cell (fun b o hx => (Lds.le hl) b o (hxHB1.sub b o hx)) (ph_cell hb9 rfl)))) fun a hF => ?_
          refine d1 (i := 1) rfl (by kernel_rfl) (by kernel_rfl) (St.ld hS) hF rfl (fun _ _ _ h => h) (fun w hl => (e_move hF rfl)) fun a hF => ?_
          refine d1 (i := 2) rfl (by kernel_rfl) (by kernel_rfl) (St.ld hS) hF rfl (fun _ _ _ h => h) (fun w hl => (e_lookM (ev := Value.bool) (dv := false) (m := y3) (k := vB2) hF key3 Tryd.runUnderlying68 Tryd.zeroValue4 ((fun b o hx => (Lds.le hl) b o (hxHB1.sub b o hx)) _ _ hf8) rfl rfl hm7)) fun a hF => ?_
          refine d1 (i := 3) rfl (by kernel_rfl) (by kernel_rfl) (St.ld hS) hF rfl (fun _ _ _ h => h) (fun w hl => (e_as (e_move hF rfl) (congrArg Value.bool hb28))) fun a hF => ?_
          refine d1g (i := 4) rfl (by kernel_rfl) (by kernel_rfl) (St.ld hS) hF rfl rfl rfl (fun _ _ _ h => h) (fun w hl => (e_ld hF Tryd.isAgg39 rfl (PH.le.cell (fun b o hx => (Lds.le hl) b o (hxHB1.sub b o hx)) (ph_cell hb16 rfl)))) fun a hF => ?_
          refine d1g (i := 5) rfl (by kernel_rfl) (by kernel_rfl) (St.ld hS) hF rfl rfl rfl (fun _ _ _ h => h) (fun w hl => (e_move hF rfl)) fun a hF => ?_
          refine d1g (i := 6) rfl (by kernel_rfl) (by kernel_rfl) (St.ld hS) hF rfl rfl rfl (fun _ _ _ h => h) (fun w hl => (e_iaI hF Tryd.runUnderlying39 Tryd.sizeOf23 rfl rfl h30 (SR.oaI hr15 (by decide) h30))) fun a hF => ?_
          refine d1g (i := 7) rfl (by kernel_rfl) (by kernel_rfl) (St.ld hS) hF rfl rfl rfl (fun _ _ _ h => h) (fun w hl => (e_ldA hF Tryd.isAgg23 Tryd.sizeOf23 rfl rfl (fun j v hj => PH.le.cell (fun b o hx => (Lds.le hl) b o (hxHB1.sub b o hx)) (hl33 j v hj)))) fun a hF => ?_
          refine d1g (i := 8) rfl (by kernel_rfl) (by kernel_rfl) (St.ld hS) hF rfl rfl rfl (fun _ _ _ h => h) (fun w hl => (e_ld hF Tryd.isAgg39 rfl (PH.le.cell (fun b o hx => (Lds.le hl) b o (hxHB1.sub b o hx)) (ph_cell hb16 rfl)))) fun a hF => ?_
          refine d1g (i := 9) rfl (by kernel_rfl) (by kernel_rfl) (St.ld hS) hF rfl rfl rfl (fun _ _ _ h => h) (fun w hl => (e_move hF rfl)) fun a hF => ?_
          refine d1g (i := 10) rfl (by kernel_rfl) (by kernel_rfl) (St.ld hS) hF rfl rfl rfl (fun _ _ _ h => h) (fun w hl => (e_iaI hF Tryd.runUnderlying39 Tryd.sizeOf23 rfl rfl h35 (SR.oaI hr15 (by decide) h35))) fun a hF => ?_
          refine d1g (i := 11) rfl (by kernel_rfl) (by kernel_rfl) (St.ld hS) hF rfl rfl rfl (fun _ _ _ h => h) (fun w hl => (e_ldA hF Tryd.isAgg23 Tryd.sizeOf23 rfl rfl (fun j v hj => PH.le.cell (fun b o hx => (Lds.le hl) b o (hxHB1.sub b o hx)) (hl38 j v hj)))) fun a hF => ?_
          refine d1g (i := 12) rfl (by kernel_rfl) (by kernel_rfl) (St.ld hS) hF rfl rfl rfl (fun _ _ _ h => h) (fun w hl => (e_ld hF Tryd.isAgg25 rfl (PH.le.cell (fun b o hx => (Lds.le hl) b o (hxHB1.sub b o hx)) (ph_cell hb23 rfl)))) fun a hF => ?_
          refine d1g (i := 13) rfl (by kernel_rfl) (by kernel_rfl) (St.ld hS) hF rfl rfl rfl (fun _ _ _ h => h) (fun w hl => (e_ld hF Tryd.isAgg3 rfl (PH.le.cell (fun b o hx => (Lds.le hl) b o (hxHB1.sub b o hx)) (ph_cell hb26 rfl)))) fun a hF => ?_
          refine da1 (i := 14) (by kernel_rfl) ?_
          refine di (i := 14) rfl <| gy hF rfl rfl <| c1 hF rfl Tryd.call16 (event_Depend_c (hp_le _) hc21 (St.srH hS (hr22.mono hxHB1.sub)) h40) ⟨rfl, rfl, rfl, rfl, trivial⟩ (fun v w a hR hF => ?_)
          obtain ⟨rfl, hk⟩ := hR
          replace hS := hS.pass hk
          clear hk
          refine ⟨fun _ => (St.ld hS), ?_⟩
          refine d1 (i := 15) rfl (by kernel_rfl) (by kernel_rfl) (St.ld hS) hF rfl (fun _ _ _ h => h) (fun w hl => (e_pickT hF rfl rfl)) fun a hF => ?_
          refine de (by kernel_rfl) <| ?_
          refine tn <| ?_
          exact ⟨r39, hm, hF.has ⟨rfl, rfl, rfl, rfl, rfl, rfl, rfl, rfl, trivial⟩, hS⟩
        ·
          replace hm := ite_f hm hb28
          refine rxS 16 hS wide (by kernel_rfl) fun w hS => ?_
          refine x1 (St.ld hS) hF rfl rfl (fun _ _ _ h => h) (fun w hl => (e_ld hF Tryd.isAgg68 rfl (PH.le.cell (fun b o hx => (Lds.le hl) b o (hxHB1.sub b o hx)) (ph_cell hb9 rfl)))) fun a hF => ?_
          refine x1 (St.ld hS) hF rfl rfl (fun _ _ _ h => h) (fun w hl => (e_move hF rfl)) fun a hF => ?_
          refine x1 (St.ld hS) hF rfl rfl (fun _ _ _ h => h) (fun w hl => (e_lookM (ev := Value.bool) (dv := false) (m := y3) (k := vB2) hF key3 Tryd.runUnderlying68 Tryd.zeroValue4 ((fun b o hx => (Lds.le hl) b o (hxHB1.sub b o hx)) _ _ hf8) rfl rfl hm7)) fun a hF => ?_
          refine x1 (St.ld hS) hF rfl rfl (fun _ _ _ h => h) (fun w hl => (e_as (e_move hF rfl) (congrArg Value.bool hb28))) fun a hF => ?_
          refine x1n (St.ld hS) hF rfl rfl rfl rfl rfl (fun _ _ _ h => h) fun a hF => ?_
          refine x1n (St.ld hS) hF rfl rfl rfl rfl rfl (fun _ _ _ h => h) fun a hF => ?_
          refine x1n (St.ld hS) hF rfl rfl rfl rfl rfl (fun _ _ _ h => h) fun a hF => ?_
          refine x1n (St.ld hS) hF rfl rfl rfl rfl rfl (fun _ _ _ h => h) fun a hF => ?_
          refine x1n (St.ld hS) hF rfl rfl rfl rfl rfl (fun _ _ _ h => h) fun a hF => ?_
          refine x1n (St.ld hS) hF rfl rfl rfl rfl rfl (fun _ _ _ h => h) fun a hF => ?_
          refine x1n (St.ld hS) hF rfl rfl rfl rfl rfl (fun _ _ _ h => h) fun a hF => ?_
          refine x1n (St.ld hS) hF rfl rfl rfl rfl rfl (fun _ _ _ h => h) fun a hF => ?_
          refine x1n (St.ld hS) hF rfl rfl rfl rfl rfl (fun _ _ _ h => h) fun a hF => ?_
          refine x1n (St.ld hS) hF rfl rfl rfl rfl rfl (fun _ _ _ h => h) fun a hF => ?_
          refine x1n (St.ld hS) hF rfl rfl rfl rfl rfl (fun _ _ _ h => h) fun a hF => ?_
          refine x1 (St.ld hS) hF rfl rfl (fun _ _ _ h => h) (fun w hl => (e_pickF hF rfl rfl)) fun a hF => ?_
          refine xe <| ?_
          refine tn <| ?_
          exact ⟨false, hm, hF.has ⟨rfl, rfl, rfl, rfl, rfl, rfl, rfl, rfl, trivial⟩, hS⟩
      clear hm hF hS
      rintro a w ⟨vC1, hm, hF, hS⟩
      unfold trace_Form_1_j3 at hm
      rcases bdich vC1 with hb41 | hb41
      ·
        replace hm := ite_t hm hb41
        refine ctv hF rfl hb41 <| th <| ?_
        refine rg <| ?_
        refine ls <| q1 hF rfl (e_asg hF rfl) fun a hF => ?_
        refine re <| ?_
        refine tn <| ?_
        refine wp_ret <| br <| tr <| tr <| br <| tr <| ?_
        obtain rfl := Option.some.inj hm
        exact r1 hF Tryd.results52 rfl ⟨rfl, hS.keep⟩
      ·
        replace hm := ite_f hm hb41
        refine cfv hF rfl hb41 <| wp_skip <| ?_
        refine bn <| tn <| ?_
        refine rg <| ?_
        refine ls <| q1 hF rfl (e_add hF rfl rfl) fun a hF => ?_
        refine ls <| q1 hF rfl (e_move hF rfl) fun a hF => ?_
        refine re <| ?_
        refine tn <| ?_
        exact ⟨(nn2, (IntKind.i64.wrap (vB2 + 1))), ⟨HB1, hm, hxHB1, hF.has ⟨rfl, rfl, rfl, rfl, rfl, rfl, rfl, trivial⟩, hS⟩, Nat.lt_succ_self _⟩
    ·
      replace hm := itp_f hm hb27
      refine tn <| th <| cfv hF rfl hb27 <| ?_
      refine wp_exit <| tx <| tx <| bx <| ?_
      refine tn <| ?_
      exact ⟨HB1, hm, hxHB1, hF.has trivial, hS⟩
  clear hm hF hS
  rintro a w ⟨HA1, hm, hxHA1, hF, hS⟩
  unfold trace_Form_1_j1 at hm
  refine th <| ?_
  refine rg <| ?_
  refine ls <| q1 hF rfl (e_asg hF rfl) fun a hF => ?_
  refine re <| ?_
  refine tn <| ?_
  refine wp_ret <| ?_
  obtain rfl := Option.some.inj hm
  exact r1 hF Tryd.results52 rfl ⟨rfl, hS.keep⟩

set_option maxRecDepth 100000 in
theorem trace_Form_c {N : Nat} {w0 : World} {H : PH} (hH : H.le w0) {oa2 : Option Addr} {cap3 : Nat} {p1 : (List api_Event)} (hc4 : p1.length ≤ cap3) (hr5 : SR H oa2 p1) {oa7 : Option Addr} {cap8 : Nat} {p6 : (List Int)} (hc9 : p6.length ≤ cap8) (hr10 : SR H oa7 p6) {p11 : Int} {r : (List api_Event)} (hm : trace_Form N p1 p6 p11 = some r) : Tot Tryd.prog 29 #[.slice oa2 p1.length cap3, .slice oa7 p6.length cap8, .int .i64 p11] w0 (fun v w' => ∃ (oa0 : Option Addr) (cap0 : Nat) (vs0 : List Value), v = .slice oa0 r.length cap0 ∧ (∀ h, Rows h vs0 r) ∧ Fresh w0 (sla 23 5 oa0 r.length cap0 vs0) w') := by
  unfold trace_Form at hm
  refine fn0 (args := [.slice oa2 p1.length cap3, .slice oa7 p6.length cap8, .int .i64 p11]) (F := [(0, .slice oa2 p1.length cap3), (1, .slice oa7 p6.length cap8), (2, .int .i64 p11)]) Tryd.func29 rfl Tryd.ntmps29 rfl rfl fun a hF => ?_
  have hS : St w0 Nil [H] [] w0 := start1 hH
  refine th <| ?_
  refine rg <| ?_
  refine ls <| a_box (cs := [.slice oa2 p1.length cap3].toArray) hF rfl hS rfl rfl fun b12 w a hS hF => ?_
  refine ls <| a_box (cs := [.slice oa7 p6.length cap8].toArray) hF rfl hS rfl rfl fun b13 w a hS hF => ?_
  refine ls <| a_box (cs := [.int .i64 p11].toArray) hF rfl hS rfl rfl fun b14 w a hS hF => ?_
  refine ls <| q1 hF rfl (e_asg hF rfl) fun a hF => ?_
  refine re <| ?_
  refine tn <| th <| th <| ?_
  replace hm := bind_some hm
  obtain ⟨r15, h16, hm⟩ := hm
  refine rg <| ?_
  refine ls <| q1 hF rfl (e_ld hF Tryd.isAgg39 rfl ((St.ld hS).cellB (.tail _ (.tail _ (.head _))) rfl)) fun a hF => ?_
  refine ls <| c1 hF rfl Tryd.call49 (clock_Threads_c (hp_le _) hc4 (St.srH hS hr5) h16) ⟨rfl, trivial⟩ (fun v w a hR hF => ?_)
  obtain ⟨rfl, hk⟩ := hR
  replace hS := hS.pass hk
  clear hk
  refine ls <| q1 hF rfl (e_eql hF rfl rfl) fun a hF => ?_
  refine re <| ?_
  rcases bdich (decide (r15 = 0)) with hb17 | hb17
  ·
    replace hm := itp_t hm hb17
    refine tn <| ctv hF rfl hb17 <| th <| ?_
    refine rg <| ?_
    refine ls <| q1 hF rfl (e_asg hF rfl) fun a hF => ?_
    refine re <| ?_
    refine tn <| ?_
    refine wp_ret <| tr <| ?_
    replace hS := St.nilS hS 23 5
    obtain rfl := Option.some.inj hm
    exact r1 hF Tryd.results29 rfl ⟨_, _, _, rfl, (fun _ => .nil), hS.endFresh (.head _)⟩
  ·
    replace hm := itp_f hm hb17
    refine tn <| cfv hF rfl hb17 <| wp_skip <| ?_
    refine tn <| th <| ?_
    refine rg <| ?_
    refine ls <| a_map hF rfl hS fun m18 w a hS hF => ?_
    replace hS : St w0 Nil [H] (imap kI m18 [] 0 :: _) w := hS
    have hm19 : MRel (κ := Int) (β := Bool) Value.bool [] [] := MRel.nil _
    refine ls <| a_alloc (cs := [.map none].toArray) hF rfl hS Tryd.zeroValue68 rfl fun b20 w a hS hF => ?_
    refine ls <| s_blk hF hS Tryd.sizeOf68 rfl rfl rfl rfl .head .zero fun w hS => ?_
    refine re <| ?_
    refine tn <| th <| th <| ?_
    refine rg <| ?_
    refine ls <| q1 hF rfl (e_ld hF Tryd.isAgg39 rfl ((St.ld hS).cellB (.tail _ (.tail _ (.tail _ (.tail _ (.head _))))) rfl)) fun a hF => ?_
    refine ls <| q1 hF rfl (e_lenL (α := api_Event) (xs := p1) hF Tryd.runUnderlying39 rfl) fun a hF => ?_
    refine ls <| q1 hF rfl (e_move hF rfl) fun a hF => ?_
    refine re <| ?_
    refine tn <| midK (fun a w => ∃ (vA10 : (List (Int × Bool))) (HA1 : PH) (oaA2 : Option Addr) (capA3 : Nat) (oaA6 : Option Addr) (capA7 : Nat) (lA11 : List (Int × Value × Nat)) (cA12 : Nat), (trace_Form_j1 N p1 p6 p11) vA10 = some r ∧ Ext w0 H HA1 ∧ Fr 72 [(3, .pointer (some ⟨b12, 0, none⟩)), (4, .pointer (some ⟨b13, 0, none⟩)), (5, .pointer (some ⟨b14, 0, none⟩)), (7, .pointer (some ⟨b20, 0, none⟩))] a ∧ St w0 Nil [HA1] [blk b12 (.cells [.slice oaA2 p1.length capA3].toArray 39 (0, 0)), blk b13 (.cells [.slice oaA6 p6.length capA7].toArray 25 (0, 0)), blk b14 (.cells [.int .i64 p11].toArray 3 (0, 0)), imap kI m18 lA11 cA12, blk b20 (.cells [.map (some m18)].toArray 68 (0, 0))] w ∧ p1.length ≤ capA3 ∧ SR HA1 oaA2 p1 ∧ p6.length ≤ capA7 ∧ SR HA1 oaA6 p6 ∧ MRel Value.bool lA11 vA10) ?_ ?_
    ·
      replace hS := hS.pickL (.cons (.tail (.tail (.tail (.tail .head)))) (.cons (.tail (.tail (.tail .head))) (.cons (.tail (.tail .head)) (.cons (.tail .head) (.cons .head .nil)))))
      refine wp_block <| lp (α := Nat × (List (Int × Bool)) × Int) (fun (gh : Nat × (List (Int × Bool)) × Int) a w => match gh with | (nn2, vB10, vB14) => ∃ (HB1 : PH) (oaB2 : Option Addr) (capB3 : Nat) (oaB6 : Option Addr) (capB7 : Nat) (lB11 : List (Int × Value × Nat)) (cB12 : Nat), (trace_Form_l2 N (trace_Form_j1 N p1 p6 p11) p1) nn2 vB10 vB14 = some r ∧ Ext w0 H HB1 ∧ Fr 72 [(3, .pointer (some ⟨b12, 0, none⟩)), (4, .pointer (some ⟨b13, 0, none⟩)), (5, .pointer (some ⟨b14, 0, none⟩)), (7, .pointer (some ⟨b20, 0, none⟩)), (18, .int .i64 (p1.length : Int)), (19, .int .i64 vB14)] a ∧ St w0 Nil [HB1] [blk b12 (.cells [.slice oaB2 p1.length capB3].toArray 39 (0, 0)), blk b13 (.cells [.slice oaB6 p6.length capB7].toArray 25 (0, 0)), blk b14 (.cells [.int .i64 p11].toArray 3 (0, 0)), imap kI m18 lB11 cB12, blk b20 (.cells [.map (some m18)].toArray 68 (0, 0))] w ∧ p1.length ≤ capB3 ∧ SR HB1 oaB2 p1 ∧ p6.length ≤ capB7 ∧ SR HB1 oaB6 p6 ∧ MRel Value.bool lB11 vB10) (fun gh => gh.1) (N, [], 0) ⟨H, oa2, cap3, oa7, cap8, [], 0, hm, (Ext.refl _ _), hF.has ⟨rfl, rfl, rfl, rfl, rfl, rfl, trivial⟩, hS, hc4, hr5, hc9, hr10, hm19⟩ ?_
      clear hm hF hS
      rintro ⟨nn2, vB10, vB14⟩ a w ⟨HB1, oaB2, capB3, oaB6, capB7, lB11, cB12, hm, hxHB1, hF, hS, hcB4, hrB5, hcB8, hrB9, hmB13⟩
      obtain _ | nn2 := nn2
      · simp [trace_Form_l2] at hm
      rw [trace_Form_l2] at hm
      refine th <| ?_
      refine rg <| ?_
      refine ls <| q1 hF rfl (e_lss hF rfl rfl) fun a hF => ?_
      refine re <| ?_
      rcases bdich (decide (vB14 < (p1.length : Int))) with hb21 | hb21
      ·
        replace hm := itp_t hm hb21
        refine tn <| th <| ctv hF rfl hb21 <| wp_skip <| ?_
        refine tn <| th <| wp_block <| th <| ?_
        refine rg <| ?_
        refine ls <| q1 hF rfl (e_move hF rfl) fun a hF => ?_
        refine ls <| q1 hF rfl (e_asg hF rfl) fun a hF => ?_
        refine re <| ?_
        refine tn <| ?_
        refine rg <| ?_
        refine ls <| q1 hF rfl (e_ld hF Tryd.isAgg68 rfl ((St.ld hS).cellB (.tail _ (.tail _ (.tail _ (.tail _ (.head _))))) rfl)) fun a hF => ?_
        refine ls <| q1 hF rfl (e_move hF rfl) fun a hF => ?_
        refine ls <| m_put (ev := Value.bool) (m := vB10) (k := vB14) (v := true) hF hS key3 Tryd.runUnderlying68 rfl rfl rfl (.tail _ (.tail _ (.tail _ (.head _)))) hmB13 fun l22 c23 w hm24 hU => ?_
        replace hS := hU _ (.tail (.tail (.tail .head)))
        clear hU
        refine re <| ?_
        refine bn <| tn <| ?_
        refine rg <| ?_
        refine ls <| q1 hF rfl (e_add hF rfl rfl) fun a hF => ?_
        refine ls <| q1 hF rfl (e_move hF rfl) fun a hF => ?_
        refine re <| ?_
        refine tn <| ?_
        exact ⟨(nn2, (pput vB14 true vB10), (IntKind.i64.wrap (vB14 + 1))), ⟨HB1, oaB2, capB3, oaB6, capB7, l22, c23, hm, hxHB1, hF.has ⟨rfl, rfl, rfl, rfl, rfl, rfl, trivial⟩, hS, hcB4, hrB5, hcB8, hrB9, hm24⟩, Nat.lt_succ_self _⟩
      ·
        replace hm := itp_f hm hb21
        refine tn <| th <| cfv hF rfl hb21 <| ?_
        refine wp_exit <| tx <| tx <| bx <| ?_
        refine tn <| ?_
        exact ⟨vB10, HB1, oaB2, capB3, oaB6, capB7, lB11, cB12, hm, hxHB1, hF.has ⟨rfl, rfl, rfl, rfl, trivial⟩, hS, hcB4, hrB5, hcB8, hrB9, hmB13⟩
    clear hm hF hS
    rintro a w ⟨vA10, HA1, oaA2, capA3, oaA6, capA7, lA11, cA12, hm, hxHA1, hF, hS, hcA4, hrA5, hcA8, hrA9, hmA13⟩
    unfold trace_Form_j1 at hm
    refine th <| ?_
    refine rg <| ?_
    refine ls <| q1 hF rfl (e_mkf (vs := [.pointer (some ⟨b20, 0, none⟩), .pointer (some ⟨b12, 0, none⟩), .pointer (some ⟨b13, 0, none⟩), .pointer (some ⟨b14, 0, none⟩)]) hF ⟨rfl, rfl, rfl, rfl, trivial⟩) fun a hF => ?_
    refine ls <| q1 hF rfl (e_asg hF rfl) fun a hF => ?_
    refine re <| ?_
    refine tn <| th <| ?_
    refine rg <| ?_
    refine ls <| q1 hF rfl (e_asg hF rfl) fun a hF => ?_
    refine re <| ?_
    refine tn <| th <| midK (fun a w => ∃ (vA14 : (List api_Event)) (oaA15 : Option Addr) (capA16 : Nat) (vsA17 : List Value), trace_Form_j3 vA14 = some r ∧ Fr 72 [(10, .slice oaA15 vA14.length capA16)] a ∧ St w0 Nil [HA1] [sla 23 5 oaA15 vA14.length capA16 vsA17] w ∧ Rows HA1 vsA17 vA14) ?_ ?_
    ·
      replace hS := St.nilS hS 23 5
      replace hS := hS.pickL (.cons (.tail .head) (.cons (.tail (.tail (.tail .head))) (.cons (.tail (.tail (.tail .head))) (.cons (.tail .head) (.cons (.tail .head) (.cons .head .nil))))))
      refine wp_block <| lp (α := Nat × (List (Int × Bool)) × (List api_Event)) (fun (gh : Nat × (List (Int × Bool)) × (List api_Event)) a w => match gh with | (nn4, vB15, vB19) => ∃ (lB16 : List (Int × Value × Nat)) (cB17 : Nat) (oaB20 : Option Addr) (capB21 : Nat) (vsB22 : List Value), (trace_Form_l4 N trace_Form_j3 p1 p6 p11) nn4 vB15 vB19 = some r ∧ Fr 72 [(3, .pointer (some ⟨b12, 0, none⟩)), (7, .pointer (some ⟨b20, 0, none⟩)), (9, .func (.func 52) #[] #[.pointer (some ⟨b20, 0, none⟩), .pointer (some ⟨b12, 0, none⟩), .pointer (some ⟨b13, 0, none⟩), .pointer (some ⟨b14, 0, none⟩)]), (10, .slice oaB20 vB19.length capB21)] a ∧ St w0 Nil [HA1] [blk b12 (.cells [.slice oaA2 p1.length capA3].toArray 39 (0, 0)), imap kI m18 lB16 cB17, blk b20 (.cells [.map (some m18)].toArray 68 (0, 0)), blk b13 (.cells [.slice oaA6 p6.length capA7].toArray 25 (0, 0)), blk b14 (.cells [.int .i64 p11].toArray 3 (0, 0)), sla 23 5 oaB20 vB19.length capB21 vsB22] w ∧ MRel Value.bool lB16 vB15 ∧ Rows HA1 vsB22 vB19) (fun gh => gh.1) (N, vA10, []) ⟨lA11, cA12, none, 0, [], hm, hF.has ⟨rfl, rfl, rfl, rfl, trivial⟩, hS, hmA13, .nil⟩ ?_
      clear hm hF hS
      rintro ⟨nn4, vB15, vB19⟩ a w ⟨lB16, cB17, oaB20, capB21, vsB22, hm, hF, hS, hmB18, hvB23⟩
      obtain _ | nn4 := nn4
      · simp [trace_Form_l4] at hm
      rw [trace_Form_l4] at hm
      refine th <| th <| ?_
      refine rg <| ?_
      refine ls <| q1 hF rfl (e_ld hF Tryd.isAgg68 rfl ((St.ld hS).cellB (.tail _ (.tail _ (.head _))) rfl)) fun a hF => ?_
      refine ls <| q1 hF rfl (e_lenM (kv := kI) (ev := Value.bool) (m := vB15) hF Tryd.runUnderlying68 (Lds.mapO (St.ld hS) (.tail _ (.head _))) rfl hmB18) fun a hF => ?_
      refine ls <| q1 hF rfl (e_gtr hF rfl rfl) fun a hF => ?_
      refine re <| ?_
      rcases bdich (decide (0 < (vB15.length : Int))) with hb25 | hb25
      ·
        replace hm := itp_t hm hb25
        refine tn <| ctv hF rfl hb25 <| wp_skip <| ?_
        refine tn <| wp_block <| th <| ?_
        refine rg <| ?_
        refine ls <| q1 hF rfl (e_asg hF rfl) fun a hF => ?_
        refine re <| ?_
        refine tn <| th <| th <| ?_
        refine rg <| ?_
        refine ls <| q1 hF rfl (e_ld hF Tryd.isAgg39 rfl ((St.ld hS).cellB (.head _) rfl)) fun a hF => ?_
        refine ls <| q1 hF rfl (e_lenL (α := api_Event) (xs := p1) hF Tryd.runUnderlying39 rfl) fun a hF => ?_
        refine ls <| q1 hF rfl (e_move hF rfl) fun a hF => ?_
        refine re <| ?_
        refine tn <| midK (fun a w => ∃ (vC1 : Int), (trace_Form_j5 (trace_Form_l4 N trace_Form_j3 p1 p6 p11 nn4) p1 vB15 vB19) vC1 = some r ∧ Fr 72 [(3, .pointer (some ⟨b12, 0, none⟩)), (7, .pointer (some ⟨b20, 0, none⟩)), (9, .func (.func 52) #[] #[.pointer (some ⟨b20, 0, none⟩), .pointer (some ⟨b12, 0, none⟩), .pointer (some ⟨b13, 0, none⟩), .pointer (some ⟨b14, 0, none⟩)]), (10, .slice oaB20 vB19.length capB21), (11, .int .i64 vC1)] a ∧ St w0 Nil [HA1] [blk b12 (.cells [.slice oaA2 p1.length capA3].toArray 39 (0, 0)), imap kI m18 lB16 cB17, blk b20 (.cells [.map (some m18)].toArray 68 (0, 0)), blk b13 (.cells [.slice oaA6 p6.length capA7].toArray 25 (0, 0)), blk b14 (.cells [.int .i64 p11].toArray 3 (0, 0)), sla 23 5 oaB20 vB19.length capB21 vsB22] w) ?_ ?_
        ·
          refine wp_block <| lp (α := Nat × Int × Int) (fun (gh : Nat × Int × Int) a w => match gh with | (nn6, vD1, vD2) => (trace_Form_l6 N (trace_Form_j5 (trace_Form_l4 N trace_Form_j3 p1 p6 p11 nn4) p1 vB15 vB19) p1 p6 p11 vB15) nn6 vD1 vD2 = some r ∧ Fr 72 [(3, .pointer (some ⟨b12, 0, none⟩)), (7, .pointer (some ⟨b20, 0, none⟩)), (9, .func (.func 52) #[] #[.pointer (some ⟨b20, 0, none⟩), .pointer (some ⟨b12, 0, none⟩), .pointer (some ⟨b13, 0, none⟩), .pointer (some ⟨b14, 0, none⟩)]), (10, .slice oaB20 vB19.length capB21), (11, .int .i64 vD1), (30, .int .i64 (p1.length : Int)), (31, .int .i64 vD2)] a ∧ St w0 Nil [HA1] [blk b12 (.cells [.slice oaA2 p1.length capA3].toArray 39 (0, 0)), imap kI m18 lB16 cB17, blk b20 (.cells [.map (some m18)].toArray 68 (0, 0)), blk b13 (.cells [.slice oaA6 p6.length capA7].toArray 25 (0, 0)), blk b14 (.cells [.int .i64 p11].toArray 3 (0, 0)), sla 23 5 oaB20 vB19.length capB21 vsB22] w) (fun gh => gh.1) (N, (-1), 0) ⟨hm, hF.has ⟨rfl, rfl, rfl, rfl, rfl, rfl, rfl, trivial⟩, hS⟩ ?_
          clear hm hF hS
          rintro ⟨nn6, vD1, vD2⟩ a w ⟨hm, hF, hS⟩
          obtain _ | nn6 := nn6
          · simp [trace_Form_l6] at hm
          rw [trace_Form_l6] at hm
          refine th <| ?_
          refine rg <| ?_
          refine ls <| q1 hF rfl (e_lss hF rfl rfl) fun a hF => ?_
          refine re <| ?_
          rcases bdich (decide (vD2 < (p1.length : Int))) with hb26 | hb26
          ·
            replace hm := itp_t hm hb26
            refine tn <| th <| ctv hF rfl hb26 <| wp_skip <| ?_
            refine tn <| th <| midK (fun a w => ∃ (vE1 : Int), (trace_Form_j7 (trace_Form_l6 N (trace_Form_j5 (trace_Form_l4 N trace_Form_j3 p1 p6 p11 nn4) p1 vB15 vB19) p1 p6 p11 vB15 nn6) vD2) vE1 = some r ∧ Fr 72 [(3, .pointer (some ⟨b12, 0, none⟩)), (7, .pointer (some ⟨b20, 0, none⟩)), (9, .func (.func 52) #[] #[.pointer (some ⟨b20, 0, none⟩), .pointer (some ⟨b12, 0, none⟩), .pointer (some ⟨b13, 0, none⟩), .pointer (some ⟨b14, 0, none⟩)]), (10, .slice oaB20 vB19.length capB21), (11, .int .i64 vE1), (30, .int .i64 (p1.length : Int)), (31, .int .i64 vD2)] a ∧ St w0 Nil [HA1] [blk b12 (.cells [.slice oaA2 p1.length capA3].toArray 39 (0, 0)), imap kI m18 lB16 cB17, blk b20 (.cells [.map (some m18)].toArray 68 (0, 0)), blk b13 (.cells [.slice oaA6 p6.length capA7].toArray 25 (0, 0)), blk b14 (.cells [.int .i64 p11].toArray 3 (0, 0)), sla 23 5 oaB20 vB19.length capB21 vsB22] w) ?_ ?_
            ·
              refine wp_block <| th <| ?_
              refine rg <| ?_
              refine ls <| q1 hF rfl (e_move hF rfl) fun a hF => ?_
              refine ls <| q1 hF rfl (e_asg hF rfl) fun a hF => ?_
              refine re <| ?_
              refine tn <| th <| midK (fun a w => ∃ (vF1 : Bool), (trace_Form_j8 (trace_Form_j7 (trace_Form_l6 N (trace_Form_j5 (trace_Form_l4 N trace_Form_j3 p1 p6 p11 nn4) p1 vB15 vB19) p1 p6 p11 vB15 nn6) vD2) vD1 vD2) vF1 = some r ∧ Fr 72 [(3, .pointer (some ⟨b12, 0, none⟩)), (7, .pointer (some ⟨b20, 0, none⟩)), (9, .func (.func 52) #[] #[.pointer (some ⟨b20, 0, none⟩), .pointer (some ⟨b12, 0, none⟩), .pointer (some ⟨b13, 0, none⟩), .pointer (some ⟨b14, 0, none⟩)]), (10, .slice oaB20 vB19.length capB21), (11, .int .i64 vD1), (12, .int .i64 vD2), (30, .int .i64 (p1.length : Int)), (31, .int .i64 vD2), (59, .bool vF1)] a ∧ St w0 Nil [HA1] [blk b12 (.cells [.slice oaA2 p1.length capA3].toArray 39 (0, 0)), imap kI m18 lB16 cB17, blk b20 (.cells [.map (some m18)].toArray 68 (0, 0)), blk b13 (.cells [.slice oaA6 p6.length capA7].toArray 25 (0, 0)), blk b14 (.cells [.int .i64 p11].toArray 3 (0, 0)), sla 23 5 oaB20 vB19.length capB21 vsB22] w) ?_ ?_
              ·
                rcases bdich ((plook vD2 vB15).getD false) with hb27 | hb27
                ·
                  replace hm := ite_t hm hb27
                  rcases bdich (decide (vD1 < 0)) with hb28 | hb28
                  ·
                    replace hm := itp_t hm hb28
                    replace hm := bind_some hm
                    obtain ⟨r29, h30, hm⟩ := hm
                    refine rdS 26 hS wide fun w hS => ?_
                    refine d1 (i := 0) rfl (by kernel_rfl) (by kernel_rfl) (St.ld hS) hF rfl (fun _ _ _ h => h) (fun w hl => (e_ld hF Tryd.isAgg68 rfl (hl.cellB (.tail _ (.tail _ (.head _))) rfl))) fun a hF => ?_
                    refine d1 (i := 1) rfl (by kernel_rfl) (by kernel_rfl) (St.ld hS) hF rfl (fun _ _ _ h => h) (fun w hl => (e_move hF rfl)) fun a hF => ?_
                    refine d1 (i := 2) rfl (by kernel_rfl) (by kernel_rfl) (St.ld hS) hF rfl (fun _ _ _ h => h) (fun w hl => (e_lookM (ev := Value.bool) (dv := false) (m := vB15) (k := vD2) hF key3 Tryd.runUnderlying68 Tryd.zeroValue4 (Lds.mapO hl (.tail _ (.head _))) rfl rfl hmB18)) fun a hF => ?_
                    refine d1 (i := 3) rfl (by kernel_rfl) (by kernel_rfl) (St.ld hS) hF rfl (fun _ _ _ h => h) (fun w hl => (e_as (e_move hF rfl) (congrArg Value.bool hb27))) fun a hF => ?_
                    refine d1g (i := 4) rfl (by kernel_rfl) (by kernel_rfl) (St.ld hS) hF rfl rfl rfl (fun _ _ _ h => h) (fun w hl => (e_move hF rfl)) fun a hF => ?_
                    refine d1g (i := 5) rfl (by kernel_rfl) (by kernel_rfl) (St.ld hS) hF rfl rfl rfl (fun _ _ _ h => h) (fun w hl => (e_lss hF rfl rfl)) fun a hF => ?_
                    refine d1g (i := 6) rfl (by kernel_rfl) (by kernel_rfl) (St.ld hS) hF rfl rfl rfl (fun _ _ _ h => h) (fun w hl => (e_as (e_move hF rfl) (congrArg Value.bool hb28))) fun a hF => ?_
                    refine d1n (i := 7) rfl (by kernel_rfl) (by kernel_rfl) (St.ld hS) hF rfl rfl rfl rfl (fun _ _ _ h => h) fun a hF => ?_
                    refine d1n (i := 8) rfl (by kernel_rfl) (by kernel_rfl) (St.ld hS) hF rfl rfl rfl rfl (fun _ _ _ h => h) fun a hF => ?_
                    refine d1n (i := 9) rfl (by kernel_rfl) (by kernel_rfl) (St.ld hS) hF rfl rfl rfl rfl (fun _ _ _ h => h) fun a hF => ?_
                    refine d1n (i := 10) rfl (by kernel_rfl) (by kernel_rfl) (St.ld hS) hF rfl rfl rfl rfl (fun _ _ _ h => h) fun a hF => ?_
                    refine d1n (i := 11) rfl (by kernel_rfl) (by kernel_rfl) (St.ld hS) hF rfl rfl rfl rfl (fun _ _ _ h => h) fun a hF => ?_
                    refine d1n (i := 12) rfl (by kernel_rfl) (by kernel_rfl) (St.ld hS) hF rfl rfl rfl rfl (fun _ _ _ h => h) fun a hF => ?_
                    refine d1n (i := 13) rfl (by kernel_rfl) (by kernel_rfl) (St.ld hS) hF rfl rfl rfl rfl (fun _ _ _ h => h) fun a hF => ?_
                    refine d1n (i := 14) rfl (by kernel_rfl) (by kernel_rfl) (St.ld hS) hF rfl rfl rfl rfl (fun _ _ _ h => h) fun a hF => ?_
                    refine d1n (i := 15) rfl (by kernel_rfl) (by kernel_rfl) (St.ld hS) hF rfl rfl rfl rfl (fun _ _ _ h => h) fun a hF => ?_
                    refine d1n (i := 16) rfl (by kernel_rfl) (by kernel_rfl) (St.ld hS) hF rfl rfl rfl rfl (fun _ _ _ h => h) fun a hF => ?_
                    refine d1n (i := 17) rfl (by kernel_rfl) (by kernel_rfl) (St.ld hS) hF rfl rfl rfl rfl (fun _ _ _ h => h) fun a hF => ?_
                    refine d1g (i := 18) rfl (by kernel_rfl) (by kernel_rfl) (St.ld hS) hF rfl rfl rfl (fun _ _ _ h => h) (fun w hl => (e_pickT hF rfl rfl)) fun a hF => ?_
                    refine d1 (i := 19) rfl (by kernel_rfl) (by kernel_rfl) (St.ld hS) hF rfl (fun _ _ _ h => h) (fun w hl => (e_pickT hF rfl rfl)) fun a hF => ?_
                    refine d1 (i := 20) rfl (by kernel_rfl) (by kernel_rfl) (St.ld hS) hF rfl (fun _ _ _ h => h) (fun w hl => (e_move hF rfl)) fun a hF => ?_
                    refine d1g (i := 21) rfl (by kernel_rfl) (by kernel_rfl) (St.ld hS) hF rfl rfl rfl (fun _ _ _ h => h) (fun w hl => (e_move hF rfl)) fun a hF => ?_
                    refine d1g (i := 22) rfl (by kernel_rfl) (by kernel_rfl) (St.ld hS) hF rfl rfl rfl (fun _ _ _ h => h) (fun w hl => (e_move hF rfl)) fun a hF => ?_
                    refine da1 (i := 23) (by kernel_rfl) ?_
                    refine di (i := 23) rfl <| gy hF rfl rfl <| k1 (vs := [.int .i64 vD2]) (caps := [.pointer (some ⟨b20, 0, none⟩), .pointer (some ⟨b12, 0, none⟩), .pointer (some ⟨b13, 0, none⟩), .pointer (some ⟨b14, 0, none⟩)]) hF rfl rfl Tryd.call52 (trace_Form_1_c (hp_le _) (St.mapO hS (.tail _ (.head _))) hmB18 (St.blkO hS (.tail _ (.tail _ (.head _)))) hcA4 (St.srH hS hrA5) (St.blkO hS (.head _)) hcA8 (St.srH hS hrA9) (St.blkO hS (.tail _ (.tail _ (.tail _ (.head _))))) (St.blkO hS (.tail _ (.tail _ (.tail _ (.tail _ (.head _)))))) h30) ⟨rfl, trivial⟩ rfl (fun v w a hR hF => ?_)
                    obtain ⟨rfl, hk⟩ := hR
                    replace hS := hS.pass hk
                    clear hk
                    refine ⟨fun _ => (St.ld hS), ?_⟩
                    refine d1g (i := 24) rfl (by kernel_rfl) (by kernel_rfl) (St.ld hS) hF rfl rfl rfl (fun _ _ _ h => h) (fun w hl => (e_not hF rfl)) fun a hF => ?_
                    refine d1 (i := 25) rfl (by kernel_rfl) (by kernel_rfl) (St.ld hS) hF rfl (fun _ _ _ h => h) (fun w hl => (e_pickT hF rfl rfl)) fun a hF => ?_
                    refine de (by kernel_rfl) <| ?_
                    refine tn <| ?_
                    exact ⟨(!r29), hm, hF.has ⟨rfl, rfl, rfl, rfl, rfl, rfl, rfl, rfl, rfl, trivial⟩, hS⟩
                  ·
                    replace hm := itp_f hm hb28
                    replace hm := bind_some hm
                    obtain ⟨x31, h32, hm⟩ := hm
                    obtain ⟨c33, g34, hl35⟩ := SR.get hrA5 h32
                    obtain rfl := api_Event_open g34
                    replace hm := bind_some hm
                    obtain ⟨x36, h37, hm⟩ := hm
                    obtain ⟨c38, g39, hl40⟩ := SR.get hrA5 h37
                    obtain rfl := api_Event_open g39
                    rcases bdich (decide (x31.T < x36.T)) with hb41 | hb41
                    ·
                      replace hm := itp_t hm hb41
                      replace hm := bind_some hm
                      obtain ⟨r42, h43, hm⟩ := hm
                      refine rdS 26 hS wide fun w hS => ?_
                      refine d1 (i := 0) rfl (by kernel_rfl) (by kernel_rfl) (St.ld hS) hF rfl (fun _ _ _ h => h) (fun w hl => (e_ld hF Tryd.isAgg68 rfl (hl.cellB (.tail _ (.tail _ (.head _))) rfl))) fun a hF => ?_
                      refine d1 (i := 1) rfl (by kernel_rfl) (by kernel_rfl) (St.ld hS) hF rfl (fun _ _ _ h => h) (fun w hl => (e_move hF rfl)) fun a hF => ?_
                      refine d1 (i := 2) rfl (by kernel_rfl) (by kernel_rfl) (St.ld hS) hF rfl (fun _ _ _ h => h) (fun w hl => (e_lookM (ev := Value.bool) (dv := false) (m := vB15) (k := vD2) hF key3 Tryd.runUnderlying68 Tryd.zeroValue4 (Lds.mapO hl (.tail _ (.head _))) rfl rfl hmB18)) fun a hF => ?_
                      refine d1 (i := 3) rfl (by kernel_rfl) (by kernel_rfl) (St.ld hS) hF rfl (fun _ _ _ h => h) (fun w hl => (e_as (e_move hF rfl) (congrArg Value.bool hb27))) fun a hF => ?_
                      refine d1g (i := 4) rfl (by kernel_rfl) (by kernel_rfl) (St.ld hS) hF rfl rfl rfl (fun _ _ _ h => h) (fun w hl => (e_move hF rfl)) fun a hF => ?_
                      refine d1g (i := 5) rfl (by kernel_rfl) (by kernel_rfl) (St.ld hS) hF rfl rfl rfl (fun _ _ _ h => h) (fun w hl => (e_lss hF rfl rfl)) fun a hF => ?_
                      refine d1g (i := 6) rfl (by kernel_rfl) (by kernel_rfl) (St.ld hS) hF rfl rfl rfl (fun _ _ _ h => h) (fun w hl => (e_as (e_move hF rfl) (congrArg Value.bool hb28))) fun a hF => ?_
                      refine d1g (i := 7) rfl (by kernel_rfl) (by kernel_rfl) (St.ld hS) hF rfl rfl rfl (fun _ _ _ h => h) (fun w hl => (e_ld hF Tryd.isAgg39 rfl (hl.cellB (.head _) rfl))) fun a hF => ?_
                      refine d1g (i := 8) rfl (by kernel_rfl) (by kernel_rfl) (St.ld hS) hF rfl rfl rfl (fun _ _ _ h => h) (fun w hl => (e_move hF rfl)) fun a hF => ?_
                      refine d1g (i := 9) rfl (by kernel_rfl) (by kernel_rfl) (St.ld hS) hF rfl rfl rfl (fun _ _ _ h => h) (fun w hl => (e_iaI hF Tryd.runUnderlying39 Tryd.sizeOf23 rfl rfl h32 (SR.oaI hrA5 (by decide) h32))) fun a hF => ?_
                      refine d1g (i := 10) rfl (by kernel_rfl) (by kernel_rfl) (St.ld hS) hF rfl rfl rfl (fun _ _ _ h => h) (fun w hl => (e_fa hF fa23_1 rfl)) fun a hF => ?_
                      refine d1g (i := 11) rfl (by kernel_rfl) (by kernel_rfl) (St.ld hS) hF rfl rfl rfl (fun _ _ _ h => h) (fun w hl => (e_ld hF Tryd.isAgg3 rfl (PH.le.cell (Lds.le hl) (hl35 1 _ rfl)))) fun a hF => ?_
                      refine d1g (i := 12) rfl (by kernel_rfl) (by kernel_rfl) (St.ld hS) hF rfl rfl rfl (fun _ _ _ h => h) (fun w hl => (e_ld hF Tryd.isAgg39 rfl (hl.cellB (.head _) rfl))) fun a hF => ?_
                      refine d1g (i := 13) rfl (by kernel_rfl) (by kernel_rfl) (St.ld hS) hF rfl rfl rfl (fun _ _ _ h => h) (fun w hl => (e_move hF rfl)) fun a hF => ?_
                      refine d1g (i := 14) rfl (by kernel_rfl) (by kernel_rfl) (St.ld hS) hF rfl rfl rfl (fun _ _ _ h => h) (fun w hl => (e_iaI hF Tryd.runUnderlying39 Tryd.sizeOf23 rfl rfl h37 (SR.oaI hrA5 (by decide) h37))) fun a hF => ?_
                      refine d1g (i := 15) rfl (by kernel_rfl) (by kernel_rfl) (St.ld hS) hF rfl rfl rfl (fun _ _ _ h => h) (fun w hl => (e_fa hF fa23_1 rfl)) fun a hF => ?_
                      refine d1g (i := 16) rfl (by kernel_rfl) (by kernel_rfl) (St.ld hS) hF rfl rfl rfl (fun _ _ _ h => h) (fun w hl => (e_ld hF Tryd.isAgg3 rfl (PH.le.cell (Lds.le hl) (hl40 1 _ rfl)))) fun a hF => ?_
                      refine d1g (i := 17) rfl (by kernel_rfl) (by kernel_rfl) (St.ld hS) hF rfl rfl rfl (fun _ _ _ h => h) (fun w hl => (e_lss hF rfl rfl)) fun a hF => ?_
                      refine d1g (i := 18) rfl (by kernel_rfl) (by kernel_rfl) (St.ld hS) hF rfl rfl rfl (fun _ _ _ h => h) (fun w hl => (e_pickF hF rfl rfl)) fun a hF => ?_
                      refine d1 (i := 19) rfl (by kernel_rfl) (by kernel_rfl) (St.ld hS) hF rfl (fun _ _ _ h => h) (fun w hl => (e_pickT hF rfl rfl)) fun a hF => ?_
                      refine d1 (i := 20) rfl (by kernel_rfl) (by kernel_rfl) (St.ld hS) hF rfl (fun _ _ _ h => h) (fun w hl => (e_as (e_move hF rfl) (congrArg Value.bool hb41))) fun a hF => ?_
                      refine d1g (i := 21) rfl (by kernel_rfl) (by kernel_rfl) (St.ld hS) hF rfl rfl rfl (fun _ _ _ h => h) (fun w hl => (e_move hF rfl)) fun a hF => ?_
                      refine d1g (i := 22) rfl (by kernel_rfl) (by kernel_rfl) (St.ld hS) hF rfl rfl rfl (fun _ _ _ h => h) (fun w hl => (e_move hF rfl)) fun a hF => ?_
                      refine da1 (i := 23) (by kernel_rfl) ?_
                      refine di (i := 23) rfl <| gy hF rfl rfl <| k1 (vs := [.int .i64 vD2]) (caps := [.pointer (some ⟨b20, 0, none⟩), .pointer (some ⟨b12, 0, none⟩), .pointer (some ⟨b13, 0, none⟩), .pointer (some ⟨b14, 0, none⟩)]) hF rfl rfl Tryd.call52 (trace_Form_1_c (hp_le _) (St.mapO hS (.tail _ (.head _))) hmB18 (St.blkO hS (.tail _ (.tail _ (.head _)))) hcA4 (St.srH hS hrA5) (St.blkO hS (.head _)) hcA8 (St.srH hS hrA9) (St.blkO hS (.tail _ (.tail _ (.tail _ (.head _))))) (St.blkO hS (.tail _ (.tail _ (.tail _ (.tail _ (.head _)))))) h43) ⟨rfl, trivial⟩ rfl (fun v w a hR hF => ?_)
                      obtain ⟨rfl, hk⟩ := hR
                      replace hS := hS.pass hk
                      clear hk
                      refine ⟨fun _ => (St.ld hS), ?_⟩
                      refine d1g (i := 24) rfl (by kernel_rfl) (by kernel_rfl) (St.ld hS) hF rfl rfl rfl (fun _ _ _ h => h) (fun w hl => (e_not hF rfl)) fun a hF => ?_
                      refine d1 (i := 25) rfl (by kernel_rfl) (by kernel_rfl) (St.ld hS) hF rfl (fun _ _ _ h => h) (fun w hl => (e_pickT hF rfl rfl)) fun a hF => ?_
                      refine de (by kernel_rfl) <| ?_
                      refine tn <| ?_
                      exact ⟨(!r42), hm, hF.has ⟨rfl, rfl, rfl, rfl, rfl, rfl, rfl, rfl, rfl, trivial⟩, hS⟩
                    ·
                      replace hm := itp_f hm hb41
                      refine rxS 26 hS wide (by kernel_rfl) fun w hS => ?_
                      refine x1 (St.ld hS) hF rfl rfl (fun _ _ _ h => h) (fun w hl => (e_ld hF Tryd.isAgg68 rfl (hl.cellB (.tail _ (.tail _ (.head _))) rfl))) fun a hF => ?_
                      refine x1 (St.ld hS) hF rfl rfl (fun _ _ _ h => h) (fun w hl => (e_move hF rfl)) fun a hF => ?_
                      refine x1 (St.ld hS) hF rfl rfl (fun _ _ _ h => h) (fun w hl => (e_lookM (ev := Value.bool) (dv := false) (m := vB15) (k := vD2) hF key3 Tryd.runUnderlying68 Tryd.zeroValue4 (Lds.mapO hl (.tail _ (.head _))) rfl rfl hmB18)) fun a hF => ?_
                      refine x1 (St.ld hS) hF rfl rfl (fun _ _ _ h => h) (fun w hl => (e_as (e_move hF rfl) (congrArg Value.bool hb27))) fun a hF => ?_
                      refine x1g (St.ld hS) hF rfl rfl rfl rfl (fun _ _ _ h => h) (fun w hl => (e_move hF rfl)) fun a hF => ?_
                      refine x1g (St.ld hS) hF rfl rfl rfl rfl (fun _ _ _ h => h) (fun w hl => (e_lss hF rfl rfl)) fun a hF => ?_
                      refine x1g (St.ld hS) hF rfl rfl rfl rfl (fun _ _ _ h => h) (fun w hl => (e_as (e_move hF rfl) (congrArg Value.bool hb28))) fun a hF => ?_
                      refine x1g (St.ld hS) hF rfl rfl rfl rfl (fun _ _ _ h => h) (fun w hl => (e_ld hF Tryd.isAgg39 rfl (hl.cellB (.head _) rfl))) fun a hF => ?_
                      refine x1g (St.ld hS) hF rfl rfl rfl rfl (fun _ _ _ h => h) (fun w hl => (e_move hF rfl)) fun a hF => ?_
                      refine x1g (St.ld hS) hF rfl rfl rfl rfl (fun _ _ _ h => h) (fun w hl => (e_iaI hF Tryd.runUnderlying39 Tryd.sizeOf23 rfl rfl h32 (SR.oaI hrA5 (by decide) h32))) fun a hF => ?_
                      refine x1g (St.ld hS) hF rfl rfl rfl rfl (fun _ _ _ h => h) (fun w hl => (e_fa hF fa23_1 rfl)) fun a hF => ?_
                      refine x1g (St.ld hS) hF rfl rfl rfl rfl (fun _ _ _ h => h) (fun w hl => (e_ld hF Tryd.isAgg3 rfl (PH.le.cell (Lds.le hl) (hl35 1 _ rfl)))) fun a hF => ?_
                      refine x1g (St.ld hS) hF rfl rfl rfl rfl (fun _ _ _ h => h) (fun w hl => (e_ld hF Tryd.isAgg39 rfl (hl.cellB (.head _) rfl))) fun a hF => ?_
                      refine x1g (St.ld hS) hF rfl rfl rfl rfl (fun _ _ _ h => h) (fun w hl => (e_move hF rfl)) fun a hF => ?_
                      refine x1g (St.ld hS) hF rfl rfl rfl rfl (fun _ _ _ h => h) (fun w hl => (e_iaI hF Tryd.runUnderlying39 Tryd.sizeOf23 rfl rfl h37 (SR.oaI hrA5 (by decide) h37))) fun a hF => ?_
                      refine x1g (St.ld hS) hF rfl rfl rfl rfl (fun _ _ _ h => h) (fun w hl => (e_fa hF fa23_1 rfl)) fun a hF => ?_
                      refine x1g (St.ld hS) hF rfl rfl rfl rfl (fun _ _ _ h => h) (fun w hl => (e_ld hF Tryd.isAgg3 rfl (PH.le.cell (Lds.le hl) (hl40 1 _ rfl)))) fun a hF => ?_
                      refine x1g (St.ld hS) hF rfl rfl rfl rfl (fun _ _ _ h => h) (fun w hl => (e_lss hF rfl rfl)) fun a hF => ?_
                      refine x1g (St.ld hS) hF rfl rfl rfl rfl (fun _ _ _ h => h) (fun w hl => (e_pickF hF rfl rfl)) fun a hF => ?_
                      refine x1 (St.ld hS) hF rfl rfl (fun _ _ _ h => h) (fun w hl => (e_pickT hF rfl rfl)) fun a hF => ?_
                      refine x1 (St.ld hS) hF rfl rfl (fun _ _ _ h => h) (fun w hl => (e_as (e_move hF rfl) (congrArg Value.bool hb41))) fun a hF => ?_
                      refine x1n (St.ld hS) hF rfl rfl rfl rfl rfl (fun _ _ _ h => h) fun a hF => ?_
                      refine x1n (St.ld hS) hF rfl rfl rfl rfl rfl (fun _ _ _ h => h) fun a hF => ?_
                      refine x1n (St.ld hS) hF rfl rfl rfl rfl rfl (fun _ _ _ h => h) fun a hF => ?_
                      refine x1n (St.ld hS) hF rfl rfl rfl rfl rfl (fun _ _ _ h => h) fun a hF => ?_
                      refine x1 (St.ld hS) hF rfl rfl (fun _ _ _ h => h) (fun w hl => (e_pickF hF rfl rfl)) fun a hF => ?_
                      refine xe <| ?_
                      refine tn <| ?_
                      exact ⟨false, hm, hF.has ⟨rfl, rfl, rfl, rfl, rfl, rfl, rfl, rfl, rfl, trivial⟩, hS⟩
                ·
                  replace hm := ite_f hm hb27
                  refine rxS 26 hS wide (by kernel_rfl) fun w hS => ?_
                  refine x1 (St.ld hS) hF rfl rfl (fun _ _ _ h => h) (fun w hl => (e_ld hF Tryd.isAgg68 rfl (hl.cellB (.tail _ (.tail _ (.head _))) rfl))) fun a hF => ?_
                  refine x1 (St.ld hS) hF rfl rfl (fun _ _ _ h => h) (fun w hl => (e_move hF rfl)) fun a hF => ?_
                  refine x1 (St.ld hS) hF rfl rfl (fun _ _ _ h => h) (fun w hl => (e_lookM (ev := Value.bool) (dv := false) (m := vB15) (k := vD2) hF key3 Tryd.runUnderlying68 Tryd.zeroValue4 (Lds.mapO hl (.tail _ (.head _))) rfl rfl hmB18)) fun a hF => ?_
                  refine x1 (St.ld hS) hF rfl rfl (fun _ _ _ h => h) (fun w hl => (e_as (e_move hF rfl) (congrArg Value.bool hb27))) fun a hF => ?_
                  refine x1n (St.ld hS) hF rfl rfl rfl rfl rfl (fun _ _ _ h => h) fun a hF => ?_
                  refine x1n (St.ld hS) hF rfl rfl rfl rfl rfl (fun _ _ _ h => h) fun a hF => ?_
                  refine x1n (St.ld hS) hF rfl rfl rfl rfl rfl (fun _ _ _ h => h) fun a hF => ?_
                  refine x1u (St.ld hS) hF rfl rfl rfl rfl (fun _ _ _ h => h) fun a hF => ?_
                  refine x1u (St.ld hS) hF rfl rfl rfl rfl (fun _ _ _ h => h) fun a hF => ?_
                  refine x1u (St.ld hS) hF rfl rfl rfl rfl (fun _ _ _ h => h) fun a hF => ?_
                  refine x1u (St.ld hS) hF rfl rfl rfl rfl (fun _ _ _ h => h) fun a hF => ?_
                  refine x1u (St.ld hS) hF rfl rfl rfl rfl (fun _ _ _ h => h) fun a hF => ?_
                  refine x1u (St.ld hS) hF rfl rfl rfl rfl (fun _ _ _ h => h) fun a hF => ?_
                  refine x1u (St.ld hS) hF rfl rfl rfl rfl (fun _ _ _ h => h) fun a hF => ?_
                  refine x1u (St.ld hS) hF rfl rfl rfl rfl (fun _ _ _ h => h) fun a hF => ?_
                  refine x1u (St.ld hS) hF rfl rfl rfl rfl (fun _ _ _ h => h) fun a hF => ?_
                  refine x1u (St.ld hS) hF rfl rfl rfl rfl (fun _ _ _ h => h) fun a hF => ?_
                  refine x1u (St.ld hS) hF rfl rfl rfl rfl (fun _ _ _ h => h) fun a hF => ?_
                  refine x1n (St.ld hS) hF rfl rfl rfl rfl rfl (fun _ _ _ h => h) fun a hF => ?_
                  refine x1 (St.ld hS) hF rfl rfl (fun _ _ _ h => h) (fun w hl => (e_pickF hF rfl rfl)) fun a hF => ?_
                  refine x1 (St.ld hS) hF rfl rfl (fun _ _ _ h => h) (fun w hl => (e_move hF rfl)) fun a hF => ?_
                  refine x1n (St.ld hS) hF rfl rfl rfl rfl rfl (fun _ _ _ h => h) fun a hF => ?_
                  refine x1n (St.ld hS) hF rfl rfl rfl rfl rfl (fun _ _ _ h => h) fun a hF => ?_
                  refine x1n (St.ld hS) hF rfl rfl rfl rfl rfl (fun _ _ _ h => h) fun a hF => ?_
                  refine x1n (St.ld hS) hF rfl rfl rfl rfl rfl (fun _ _ _ h => h) fun a hF => ?_
                  refine x1 (St.ld hS) hF rfl rfl (fun _ _ _ h => h) (fun w hl => (e_pickF hF rfl rfl)) fun a hF => ?_
                  refine xe <| ?_
                  refine tn <| ?_
                  exact ⟨false, hm, hF.has ⟨rfl, rfl, rfl, rfl, rfl, rfl, rfl, rfl, rfl, trivial⟩, hS⟩
              clear hm hF hS
              rintro a w ⟨vF1, hm, hF, hS⟩
              unfold trace_Form_j8 at hm
              rcases bdich vF1 with hb44 | hb44
              ·
                replace hm := ite_t hm hb44
                refine ctv hF rfl hb44 <| ?_
                refine rg <| ?_
                refine ls <| q1 hF rfl (e_move hF rfl) fun a hF => ?_
                refine ls <| q1 hF rfl (e_asg hF rfl) fun a hF => ?_
                refine re <| ?_
                refine bn <| tn <| ?_
                exact ⟨vD2, hm, hF.has ⟨rfl, rfl, rfl, rfl, rfl, rfl, rfl, trivial⟩, hS⟩
              ·
                replace hm := ite_f hm hb44
                refine cfv hF rfl hb44 <| wp_skip <| ?_
                refine bn <| tn <| ?_
                exact ⟨vD1, hm, hF.has ⟨rfl, rfl, rfl, rfl, rfl, rfl, rfl, trivial⟩, hS⟩
            clear hm hF hS
            rintro a w ⟨vE1, hm, hF, hS⟩
            unfold trace_Form_j7 at hm
            refine rg <| ?_
            refine ls <| q1 hF rfl (e_add hF rfl rfl) fun a hF => ?_
            refine ls <| q1 hF rfl (e_move hF rfl) fun a hF => ?_
            refine re <| ?_
            refine tn <| ?_
            exact ⟨(nn6, vE1, (IntKind.i64.wrap (vD2 + 1))), ⟨hm, hF.has ⟨rfl, rfl, rfl, rfl, rfl, rfl, rfl, trivial⟩, hS⟩, Nat.lt_succ_self _⟩
          ·
            replace hm := itp_f hm hb26
            refine tn <| th <| cfv hF rfl hb26 <| ?_
            refine wp_exit <| tx <| tx <| bx <| ?_
            refine tn <| ?_
            exact ⟨vD1, hm, hF.has ⟨rfl, rfl, rfl, rfl, rfl, trivial⟩, hS⟩
        clear hm hF hS
        rintro a w ⟨vC1, hm, hF, hS⟩
        unfold trace_Form_j5 at hm
        refine th <| ?_
        replace hm := bind_some hm
        obtain ⟨x45, h46, hm⟩ := hm
        obtain ⟨c47, g48, hl49⟩ := SR.get hrA5 h46
        obtain rfl := api_Event_open g48
        replace hm := bind_some hm
        obtain ⟨l53, h54, hm⟩ := hm
        refine rg <| ?_
        refine ls <| q1 hF rfl (e_move hF rfl) fun a hF => ?_
        refine ls <| q1 hF rfl (e_ld hF Tryd.isAgg39 rfl ((St.ld hS).cellB (.head _) rfl)) fun a hF => ?_
        refine ls <| q1 hF rfl (e_move hF rfl) fun a hF => ?_
        refine ls <| q1 hF rfl (e_iaI hF Tryd.runUnderlying39 Tryd.sizeOf23 rfl rfl h46 (SR.oaI hrA5 (by decide) h46)) fun a hF => ?_
        refine ls <| q1 hF rfl (e_ldA hF Tryd.isAgg23 Tryd.sizeOf23 rfl rfl (fun j v hj => PH.le.cell (Lds.le (St.ld hS)) (hl49 j v hj))) fun a hF => ?_
        refine ls <| a_bsl (e := 23) (sz := 5) [.int .i64 x45.Kind, .int .i64 x45.T, .int .i64 x45.A, .int .i64 x45.N, .int .i64 x45.M] hF rfl hS rfl rfl rfl (fun w => by kernel_rfl) fun b51 w a hS hF => ?_
        have hv50 : Rows (α := api_Event) HA1 [.int .i64 x45.Kind, .int .i64 x45.T, .int .i64 x45.A, .int .i64 x45.N, .int .i64 x45.M] ([x45] : List api_Event) := (.cons (c := [.int .i64 x45.Kind, .int .i64 x45.T, .int .i64 x45.A, .int .i64 x45.N, .int .i64 x45.M]) ⟨_, _, rfl, rfl, ⟨_, _, rfl, rfl, ⟨_, _, rfl, rfl, ⟨_, _, rfl, rfl, rfl⟩⟩⟩⟩ .nil)
        refine ls <| m_app (α := api_Event) (xs := vB19) (ys := ([x45] : List api_Event)) hF rfl hS Tryd.underlying39 info23 rfl (by decide) rfl rfl rfl (.tail _ (.tail _ (.tail _ (.tail _ (.tail _ (.tail _ (.head _))))))) hvB23 (hS.rdO (.head _)) hv50 h54 fun oa55 cap56 vs57 w a hv58 hU hF => ?_
        replace hS := hU _ (.tail (.tail (.tail (.tail (.tail (.tail .head))))))
        clear hU
        replace hS := hS.drop .head
        refine ls <| q1 hF rfl (e_asg hF rfl) fun a hF => ?_
        refine re <| ?_
        refine tn <| ?_
        refine rg <| ?_
        refine ls <| q1 hF rfl (e_ld hF Tryd.isAgg68 rfl ((St.ld hS).cellB (.tail _ (.tail _ (.head _))) rfl)) fun a hF => ?_
        refine ls <| q1 hF rfl (e_move hF rfl) fun a hF => ?_
        refine ls <| m_del (ev := Value.bool) (m := vB15) (k := vC1) hF hS key3 Tryd.runUnderlying68 rfl rfl (.tail _ (.head _)) hmB18 fun l59 c60 w hm61 hU => ?_
        replace hS := hU _ (.tail .head)
        clear hU
        refine re <| ?_
        refine bn <| tn <| ?_
        exact ⟨(nn4, (pdel vC1 vB15), l53), ⟨l59, c60, oa55, cap56, vs57, hm, hF.has ⟨rfl, rfl, rfl, rfl, trivial⟩, hS, hm61, hv58⟩, Nat.lt_succ_self _⟩
      ·
        replace hm := itp_f hm hb25
        refine tn <| cfv hF rfl hb25 <| ?_
        refine wp_exit <| tx <| tx <| bx <| ?_
        refine tn <| ?_
        replace hS := hS.pickL (.cons (.tail (.tail (.tail (.tail (.tail .head))))) .nil)
        exact ⟨vB19, oaB20, capB21, vsB22, hm, hF.has ⟨rfl, trivial⟩, hS, hvB23⟩
    clear hm hF hS
    rintro a w ⟨vA14, oaA15, capA16, vsA17, hm, hF, hS, hvA18⟩
    unfold trace_Form_j3 at hm
    refine th <| ?_
    refine rg <| ?_
    refine ls <| q1 hF rfl (e_move hF rfl) fun a hF => ?_
    refine ls <| q1 hF rfl (e_asg hF rfl) fun a hF => ?_
    refine re <| ?_
    refine tn <| ?_
    refine wp_ret <| ?_
    obtain rfl := Option.some.inj hm
    exact r1 hF Tryd.results29 rfl ⟨_, _, _, rfl, (fun _ => Rows.ind hvA18), hS.endFresh (.head _)⟩

set_option maxRecDepth 100000 in
theorem leadlineref17_Equal_c {N : Nat} {w0 : World} {H : PH} (hH : H.le w0) {oa2 : Option Addr} {cap3 : Nat} {p1 : (List api_Event)} (hc4 : p1.length ≤ cap3) (hr5 : SR H oa2 p1) {oa7 : Option Addr} {cap8 : Nat} {p6 : (List api_Event)} (hc9 : p6.length ≤ cap8) (hr10 : SR H oa7 p6) {r : Bool} (hm : leadlineref17_Equal N p1 p6 = some r) : Tot Tryd.prog 28 #[.slice oa2 p1.length cap3, .slice oa7 p6.length cap8] w0 (fun v w' => v = .bool r ∧ Keep Nil w0 w') := by
  unfold leadlineref17_Equal at hm
  refine fn0 (args := [.slice oa2 p1.length cap3, .slice oa7 p6.length cap8]) (F := [(0, .slice oa2 p1.length cap3), (1, .slice oa7 p6.length cap8)]) Tryd.func28 rfl Tryd.ntmps28 rfl rfl fun a hF => ?_
  have hS : St w0 Nil [H] [] w0 := start1 hH
  refine th <| ?_
  refine rg <| ?_
  refine ls <| q1 hF rfl (e_asg hF rfl) fun a hF => ?_
  refine re <| ?_
  refine tn <| th <| th <| ?_
  refine rg <| ?_
  refine ls <| q1 hF rfl (e_move hF rfl) fun a hF => ?_
  refine ls <| q1 hF rfl (e_lenL (α := api_Event) (xs := p1) hF Tryd.runUnderlying39 rfl) fun a hF => ?_
  refine ls <| q1 hF rfl (e_move hF rfl) fun a hF => ?_
  refine ls <| q1 hF rfl (e_lenL (α := api_Event) (xs := p6) hF Tryd.runUnderlying39 rfl) fun a hF => ?_
  refine ls <| q1 hF rfl (e_neq hF rfl rfl) fun a hF => ?_
  refine re <| ?_
  rcases bdich (decide ((p1.length : Int) ≠ (p6.length : Int))) with hb11 | hb11
  ·
    replace hm := itp_t hm hb11
    refine tn <| ctv hF rfl hb11 <| th <| ?_
    refine rg <| ?_
    refine ls <| q1 hF rfl (e_asg hF rfl) fun a hF => ?_
    refine re <| ?_
    refine tn <| ?_
    refine wp_ret <| tr <| ?_
    obtain rfl := Option.some.inj hm
    exact r1 hF Tryd.results28 rfl ⟨rfl, hS.keep⟩
  ·
    replace hm := itp_f hm hb11
    refine tn <| cfv hF rfl hb11 <| wp_skip <| ?_
    refine tn <| th <| th <| ?_
    refine rg <| ?_
    refine ls <| q1 hF rfl (e_asg hF rfl) fun a hF => ?_
    refine re <| ?_
    refine tn <| midK (fun a w => ∃ (HA1 : PH), leadlineref17_Equal_j1 = some r ∧ Ext w0 H HA1 ∧ Fr 26 [] a ∧ St w0 Nil [HA1] [] w) ?_ ?_
    ·
      refine wp_block <| lp (α := Nat × Int) (fun (gh : Nat × Int) a w => match gh with | (nn2, vB10) => ∃ (HB1 : PH) (oaB2 : Option Addr) (capB3 : Nat) (oaB6 : Option Addr) (capB7 : Nat), (leadlineref17_Equal_l2 N leadlineref17_Equal_j1 p1 p6) nn2 vB10 = some r ∧ Ext w0 H HB1 ∧ Fr 26 [(0, .slice oaB2 p1.length capB3), (1, .slice oaB6 p6.length capB7), (5, .int .i64 vB10)] a ∧ St w0 Nil [HB1] [] w ∧ p1.length ≤ capB3 ∧ SR HB1 oaB2 p1 ∧ p6.length ≤ capB7 ∧ SR HB1 oaB6 p6) (fun gh => gh.1) (N, 0) ⟨H, oa2, cap3, oa7, cap8, hm, (Ext.refl _ _), hF.has ⟨rfl, rfl, rfl, trivial⟩, hS, hc4, hr5, hc9, hr10⟩ ?_
      clear hm hF hS
      rintro ⟨nn2, vB10⟩ a w ⟨HB1, oaB2, capB3, oaB6, capB7, hm, hxHB1, hF, hS, hcB4, hrB5, hcB8, hrB9⟩
      obtain _ | nn2 := nn2
      · simp [leadlineref17_Equal_l2] at hm
      rw [leadlineref17_Equal_l2] at hm
      refine th <| th <| ?_
      refine rg <| ?_
      refine ls <| q1 hF rfl (e_move hF rfl) fun a hF => ?_
      refine ls <| q1 hF rfl (e_move hF rfl) fun a hF => ?_
      refine ls <| q1 hF rfl (e_lenL (α := api_Event) (xs := p1) hF Tryd.runUnderlying39 rfl) fun a hF => ?_
      refine ls <| q1 hF rfl (e_lss hF rfl rfl) fun a hF => ?_
      refine re <| ?_
      rcases bdich (decide (vB10 < (p1.length : Int))) with hb12 | hb12
      ·
        replace hm := itp_t hm hb12
        refine tn <| ctv hF rfl hb12 <| wp_skip <| ?_
        refine tn <| th <| wp_block <| th <| ?_
        replace hm := bind_some hm
        obtain ⟨x13, h14, hm⟩ := hm
        obtain ⟨c15, g16, hl17⟩ := SR.get hrB5 h14
        obtain rfl := api_Event_open g16
        replace hm := bind_some hm
        obtain ⟨x18, h19, hm⟩ := hm
        obtain ⟨c20, g21, hl22⟩ := SR.get hrB9 h19
        obtain rfl := api_Event_open g21
        refine rxS 9 hS wide (by kernel_rfl) fun w hS => ?_
        refine x1 (St.ld hS) hF rfl rfl (fun _ _ _ h => h) (fun w hl => (e_move hF rfl)) fun a hF => ?_
        refine x1 (St.ld hS) hF rfl rfl (fun _ _ _ h => h) (fun w hl => (e_move hF rfl)) fun a hF => ?_
        refine x1 (St.ld hS) hF rfl rfl (fun _ _ _ h => h) (fun w hl => (e_iaI hF Tryd.runUnderlying39 Tryd.sizeOf23 rfl rfl h14 (SR.oaI hrB5 (by decide) h14))) fun a hF => ?_
        refine x1 (St.ld hS) hF rfl rfl (fun _ _ _ h => h) (fun w hl => (e_ldA hF Tryd.isAgg23 Tryd.sizeOf23 rfl rfl (fun j v hj => PH.le.cell (Lds.le hl) (hl17 j v hj)))) fun a hF => ?_
        refine x1 (St.ld hS) hF rfl rfl (fun _ _ _ h => h) (fun w hl => (e_move hF rfl)) fun a hF => ?_
        refine x1 (St.ld hS) hF rfl rfl (fun _ _ _ h => h) (fun w hl => (e_move hF rfl)) fun a hF => ?_
        refine x1 (St.ld hS) hF rfl rfl (fun _ _ _ h => h) (fun w hl => (e_iaI hF Tryd.runUnderlying39 Tryd.sizeOf23 rfl rfl h19 (SR.oaI hrB9 (by decide) h19))) fun a hF => ?_
        refine x1 (St.ld hS) hF rfl rfl (fun _ _ _ h => h) (fun w hl => (e_ldA hF Tryd.isAgg23 Tryd.sizeOf23 rfl rfl (fun j v hj => PH.le.cell (Lds.le hl) (hl22 j v hj)))) fun a hF => ?_
        refine x1 (St.ld hS) hF rfl rfl (fun _ _ _ h => h) (fun w hl => (api_Event_neq (x := x13) (y := x18) hF rfl rfl)) fun a hF => ?_
        refine xe <| ?_
        rcases bdich (decide (x13 ≠ x18)) with hb23 | hb23
        ·
          replace hm := itp_t hm hb23
          refine tn <| ctv hF rfl hb23 <| th <| ?_
          refine rg <| ?_
          refine ls <| q1 hF rfl (e_asg hF rfl) fun a hF => ?_
          refine re <| ?_
          refine tn <| ?_
          refine wp_ret <| br <| tr <| tr <| br <| tr <| ?_
          obtain rfl := Option.some.inj hm
          exact r1 hF Tryd.results28 rfl ⟨rfl, hS.keep⟩
        ·
          replace hm := itp_f hm hb23
          refine tn <| cfv hF rfl hb23 <| wp_skip <| ?_
          refine bn <| tn <| ?_
          refine rg <| ?_
          refine ls <| q1 hF rfl (e_move hF rfl) fun a hF => ?_
          refine ls <| q1 hF rfl (e_add hF rfl rfl) fun a hF => ?_
          refine ls <| q1 hF rfl (e_asg hF rfl) fun a hF => ?_
          refine re <| ?_
          refine tn <| ?_
          exact ⟨(nn2, (IntKind.i64.wrap (vB10 + 1))), ⟨HB1, oaB2, capB3, oaB6, capB7, hm, hxHB1, hF.has ⟨rfl, rfl, rfl, trivial⟩, hS, hcB4, hrB5, hcB8, hrB9⟩, Nat.lt_succ_self _⟩
      ·
        replace hm := itp_f hm hb12
        refine tn <| cfv hF rfl hb12 <| ?_
        refine wp_exit <| tx <| tx <| bx <| ?_
        refine tn <| ?_
        exact ⟨HB1, hm, hxHB1, hF.has trivial, hS⟩
    clear hm hF hS
    rintro a w ⟨HA1, hm, hxHA1, hF, hS⟩
    unfold leadlineref17_Equal_j1 at hm
    refine th <| ?_
    refine rg <| ?_
    refine ls <| q1 hF rfl (e_asg hF rfl) fun a hF => ?_
    refine re <| ?_
    refine tn <| ?_
    refine wp_ret <| ?_
    obtain rfl := Option.some.inj hm
    exact r1 hF Tryd.results28 rfl ⟨rfl, hS.keep⟩

set_option maxRecDepth 100000 in
theorem trace_Same_1_c {N : Nat} {w0 : World} {H : PH} (hH : H.le w0) {oa2 : Option Addr} {cap3 : Nat} {p1 : (List api_Event)} (hc4 : p1.length ≤ cap3) (hr5 : SR H oa2 p1) {r : Bool} (hm : trace_Same_1 N p1 = some r) : Tot Tryd.prog 54 #[.slice oa2 p1.length cap3] w0 (fun v w' => v = .bool r ∧ Keep Nil w0 w') := by
  unfold trace_Same_1 at hm
  refine fn0 (args := [.slice oa2 p1.length cap3]) (F := [(0, .slice oa2 p1.length cap3)]) Tryd.func54 rfl Tryd.ntmps54 rfl rfl fun a hF => ?_
  have hS : St w0 Nil [H] [] w0 := start1 hH
  refine th <| ?_
  refine rg <| ?_
  refine ls <| q1 hF rfl (e_asg hF rfl) fun a hF => ?_
  refine re <| ?_
  refine tn <| th <| ?_
  rcases bdich (decide (0 < (p1.length : Int))) with hb6 | hb6
  ·
    replace hm := itp_t hm hb6
    replace hm := bind_some hm
    obtain ⟨r7, h8, hm⟩ := hm
    refine rg <| ?_
    refine ls <| q1 hF rfl (e_move hF rfl) fun a hF => ?_
    refine ls <| q1 hF rfl (e_lenL (α := api_Event) (xs := p1) hF Tryd.runUnderlying39 rfl) fun a hF => ?_
    refine ls <| q1 hF rfl (e_gtr hF rfl rfl) fun a hF => ?_
    refine ls <| q1 hF rfl (e_as (e_move hF rfl) (congrArg Value.bool hb6)) fun a hF => ?_
    refine ls <| gy hF rfl rfl <| q1 hF rfl (e_move hF rfl) fun a hF => ?_
    refine ls <| gy hF rfl rfl <| c1 hF rfl Tryd.call49 (clock_Threads_c (hp_le _) hc4 (St.srH hS hr5) h8) ⟨rfl, trivial⟩ (fun v w a hR hF => ?_)
    obtain ⟨rfl, hk⟩ := hR
    replace hS := hS.pass hk
    clear hk
    refine ls <| gy hF rfl rfl <| q1 hF rfl (e_eql hF rfl rfl) fun a hF => ?_
    refine ls <| q1 hF rfl (e_pickT hF rfl rfl) fun a hF => ?_
    refine ls <| q1 hF rfl (e_asg hF rfl) fun a hF => ?_
    refine re <| ?_
    refine tn <| ?_
    refine wp_ret <| ?_
    obtain rfl := Option.some.inj hm
    exact r1 hF Tryd.results54 rfl ⟨rfl, hS.keep⟩
  ·
    replace hm := itp_f hm hb6
    refine rg <| ?_
    refine ls <| q1 hF rfl (e_move hF rfl) fun a hF => ?_
    refine ls <| q1 hF rfl (e_lenL (α := api_Event) (xs := p1) hF Tryd.runUnderlying39 rfl) fun a hF => ?_
    refine ls <| q1 hF rfl (e_gtr hF rfl rfl) fun a hF => ?_
    refine ls <| q1 hF rfl (e_as (e_move hF rfl) (congrArg Value.bool hb6)) fun a hF => ?_
    refine ls <| gn hF rfl rfl rfl rfl fun a hF => ?_
    refine ls <| gn hF rfl rfl rfl rfl fun a hF => ?_
    refine ls <| gn hF rfl rfl rfl rfl fun a hF => ?_
    refine ls <| q1 hF rfl (e_pickF hF rfl rfl) fun a hF => ?_
    refine ls <| q1 hF rfl (e_asg hF rfl) fun a hF => ?_
    refine re <| ?_
    refine tn <| ?_
    refine wp_ret <| ?_
    obtain rfl := Option.some.inj hm
    exact r1 hF Tryd.results54 rfl ⟨rfl, hS.keep⟩

set_option maxRecDepth 100000 in
theorem slices_Equal_api_Event_api_Event_c {N : Nat} {w0 : World} {H : PH} (hH : H.le w0) {oa2 : Option Addr} {cap3 : Nat} {p1 : (List api_Event)} (hc4 : p1.length ≤ cap3) (hr5 : SR H oa2 p1) {oa7 : Option Addr} {cap8 : Nat} {p6 : (List api_Event)} (hc9 : p6.length ≤ cap8) (hr10 : SR H oa7 p6) {r : Bool} (hm : slices_Equal_api_Event_api_Event N p1 p6 = some r) : Tot Tryd.prog 55 #[.slice oa2 p1.length cap3, .slice oa7 p6.length cap8] w0 (fun v w' => v = .bool r ∧ Keep Nil w0 w') := by
  unfold slices_Equal_api_Event_api_Event at hm
  refine fn0 (args := [.slice oa2 p1.length cap3, .slice oa7 p6.length cap8]) (F := [(0, .slice oa2 p1.length cap3), (1, .slice oa7 p6.length cap8)]) Tryd.func55 rfl Tryd.ntmps55 rfl rfl fun a hF => ?_
  have hS : St w0 Nil [H] [] w0 := start1 hH
  refine th <| ?_
  refine rg <| ?_
  refine ls <| q1 hF rfl (e_asg hF rfl) fun a hF => ?_
  refine re <| ?_
  refine tn <| th <| th <| ?_
  refine rg <| ?_
  refine ls <| q1 hF rfl (e_move hF rfl) fun a hF => ?_
  refine ls <| q1 hF rfl (e_lenL (α := api_Event) (xs := p1) hF Tryd.runUnderlying39 rfl) fun a hF => ?_
  refine ls <| q1 hF rfl (e_move hF rfl) fun a hF => ?_
  refine ls <| q1 hF rfl (e_lenL (α := api_Event) (xs := p6) hF Tryd.runUnderlying39 rfl) fun a hF => ?_
  refine ls <| q1 hF rfl (e_neq hF rfl rfl) fun a hF => ?_
  refine re <| ?_
  rcases bdich (decide ((p1.length : Int) ≠ (p6.length : Int))) with hb11 | hb11
  ·
    replace hm := itp_t hm hb11
    refine tn <| ctv hF rfl hb11 <| th <| ?_
    refine rg <| ?_
    refine ls <| q1 hF rfl (e_asg hF rfl) fun a hF => ?_
    refine re <| ?_
    refine tn <| ?_
    refine wp_ret <| tr <| ?_
    obtain rfl := Option.some.inj hm
    exact r1 hF Tryd.results55 rfl ⟨rfl, hS.keep⟩
  ·
    replace hm := itp_f hm hb11
    refine tn <| cfv hF rfl hb11 <| wp_skip <| ?_
    refine tn <| th <| th <| ?_
    refine rg <| ?_
    refine ls <| q1 hF rfl (e_move hF rfl) fun a hF => ?_
    refine ls <| q1 hF rfl (e_lenL (α := api_Event) (xs := p1) hF Tryd.runUnderlying39 rfl) fun a hF => ?_
    refine ls <| q1 hF rfl (e_move hF rfl) fun a hF => ?_
    refine re <| ?_
    refine tn <| midK (fun a w => ∃ (HA1 : PH), slices_Equal_api_Event_api_Event_j1 = some r ∧ Ext w0 H HA1 ∧ Fr 26 [] a ∧ St w0 Nil [HA1] [] w) ?_ ?_
    ·
      refine wp_block <| lp (α := Nat × Int) (fun (gh : Nat × Int) a w => match gh with | (nn2, vB10) => ∃ (HB1 : PH) (oaB2 : Option Addr) (capB3 : Nat) (oaB6 : Option Addr) (capB7 : Nat), (slices_Equal_api_Event_api_Event_l2 N slices_Equal_api_Event_api_Event_j1 p1 p6) nn2 vB10 = some r ∧ Ext w0 H HB1 ∧ Fr 26 [(0, .slice oaB2 p1.length capB3), (1, .slice oaB6 p6.length capB7), (12, .int .i64 (p1.length : Int)), (13, .int .i64 vB10)] a ∧ St w0 Nil [HB1] [] w ∧ p1.length ≤ capB3 ∧ SR HB1 oaB2 p1 ∧ p6.length ≤ capB7 ∧ SR HB1 oaB6 p6) (fun gh => gh.1) (N, 0) ⟨H, oa2, cap3, oa7, cap8, hm, (Ext.refl _ _), hF.has ⟨rfl, rfl, rfl, rfl, trivial⟩, hS, hc4, hr5, hc9, hr10⟩ ?_
      clear hm hF hS
      rintro ⟨nn2, vB10⟩ a w ⟨HB1, oaB2, capB3, oaB6, capB7, hm, hxHB1, hF, hS, hcB4, hrB5, hcB8, hrB9⟩
      obtain _ | nn2 := nn2
      · simp [slices_Equal_api_Event_api_Event_l2] at hm
      rw [slices_Equal_api_Event_api_Event_l2] at hm
      refine th <| ?_
      refine rg <| ?_
      refine ls <| q1 hF rfl (e_lss hF rfl rfl) fun a hF => ?_
      refine re <| ?_
      rcases bdich (decide (vB10 < (p1.length : Int))) with hb12 | hb12
      ·
        replace hm := itp_t hm hb12
        refine tn <| th <| ctv hF rfl hb12 <| wp_skip <| ?_
        refine tn <| th <| wp_block <| th <| ?_
        refine rg <| ?_
        refine ls <| q1 hF rfl (e_move hF rfl) fun a hF => ?_
        refine ls <| q1 hF rfl (e_asg hF rfl) fun a hF => ?_
        refine re <| ?_
        refine tn <| th <| ?_
        replace hm := bind_some hm
        obtain ⟨x13, h14, hm⟩ := hm
        obtain ⟨c15, g16, hl17⟩ := SR.get hrB5 h14
        obtain rfl := api_Event_open g16
        replace hm := bind_some hm
        obtain ⟨x18, h19, hm⟩ := hm
        obtain ⟨c20, g21, hl22⟩ := SR.get hrB9 h19
        obtain rfl := api_Event_open g21
        refine rxS 9 hS wide (by kernel_rfl) fun w hS => ?_
        refine x1 (St.ld hS) hF rfl rfl (fun _ _ _ h => h) (fun w hl => (e_move hF rfl)) fun a hF => ?_
        refine x1 (St.ld hS) hF rfl rfl (fun _ _ _ h => h) (fun w hl => (e_move hF rfl)) fun a hF => ?_
        refine x1 (St.ld hS) hF rfl rfl (fun _ _ _ h => h) (fun w hl => (e_iaI hF Tryd.runUnderlying39 Tryd.sizeOf23 rfl rfl h14 (SR.oaI hrB5 (by decide) h14))) fun a hF => ?_
        refine x1 (St.ld hS) hF rfl rfl (fun _ _ _ h => h) (fun w hl => (e_ldA hF Tryd.isAgg23 Tryd.sizeOf23 rfl rfl (fun j v hj => PH.le.cell (Lds.le hl) (hl17 j v hj)))) fun a hF => ?_
        refine x1 (St.ld hS) hF rfl rfl (fun _ _ _ h => h) (fun w hl => (e_move hF rfl)) fun a hF => ?_
        refine x1 (St.ld hS) hF rfl rfl (fun _ _ _ h => h) (fun w hl => (e_move hF rfl)) fun a hF => ?_
        refine x1 (St.ld hS) hF rfl rfl (fun _ _ _ h => h) (fun w hl => (e_iaI hF Tryd.runUnderlying39 Tryd.sizeOf23 rfl rfl h19 (SR.oaI hrB9 (by decide) h19))) fun a hF => ?_
        refine x1 (St.ld hS) hF rfl rfl (fun _ _ _ h => h) (fun w hl => (e_ldA hF Tryd.isAgg23 Tryd.sizeOf23 rfl rfl (fun j v hj => PH.le.cell (Lds.le hl) (hl22 j v hj)))) fun a hF => ?_
        refine x1 (St.ld hS) hF rfl rfl (fun _ _ _ h => h) (fun w hl => (api_Event_neq (x := x13) (y := x18) hF rfl rfl)) fun a hF => ?_
        refine xe <| ?_
        rcases bdich (decide (x13 ≠ x18)) with hb23 | hb23
        ·
          replace hm := itp_t hm hb23
          refine tn <| ctv hF rfl hb23 <| th <| ?_
          refine rg <| ?_
          refine ls <| q1 hF rfl (e_asg hF rfl) fun a hF => ?_
          refine re <| ?_
          refine tn <| ?_
          refine wp_ret <| br <| tr <| tr <| br <| tr <| ?_
          obtain rfl := Option.some.inj hm
          exact r1 hF Tryd.results55 rfl ⟨rfl, hS.keep⟩
        ·
          replace hm := itp_f hm hb23
          refine tn <| cfv hF rfl hb23 <| wp_skip <| ?_
          refine bn <| tn <| ?_
          refine rg <| ?_
          refine ls <| q1 hF rfl (e_add hF rfl rfl) fun a hF => ?_
          refine ls <| q1 hF rfl (e_move hF rfl) fun a hF => ?_
          refine re <| ?_
          refine tn <| ?_
          exact ⟨(nn2, (IntKind.i64.wrap (vB10 + 1))), ⟨HB1, oaB2, capB3, oaB6, capB7, hm, hxHB1, hF.has ⟨rfl, rfl, rfl, rfl, trivial⟩, hS, hcB4, hrB5, hcB8, hrB9⟩, Nat.lt_succ_self _⟩
      ·
        replace hm := itp_f hm hb12
        refine tn <| th <| cfv hF rfl hb12 <| ?_
        refine wp_exit <| tx <| tx <| bx <| ?_
        refine tn <| ?_
        exact ⟨HB1, hm, hxHB1, hF.has trivial, hS⟩
    clear hm hF hS
    rintro a w ⟨HA1, hm, hxHA1, hF, hS⟩
    unfold slices_Equal_api_Event_api_Event_j1 at hm
    refine th <| ?_
    refine rg <| ?_
    refine ls <| q1 hF rfl (e_asg hF rfl) fun a hF => ?_
    refine re <| ?_
    refine tn <| ?_
    refine wp_ret <| ?_
    obtain rfl := Option.some.inj hm
    exact r1 hF Tryd.results55 rfl ⟨rfl, hS.keep⟩

set_option maxRecDepth 100000 in
theorem trace_Same_c {N : Nat} {w0 : World} {H : PH} (hH : H.le w0) {oa2 : Option Addr} {cap3 : Nat} {p1 : (List api_Event)} (hc4 : p1.length ≤ cap3) (hr5 : SR H oa2 p1) {oa7 : Option Addr} {cap8 : Nat} {p6 : (List api_Event)} (hc9 : p6.length ≤ cap8) (hr10 : SR H oa7 p6) {oa12 : Option Addr} {cap13 : Nat} {p11 : (List Int)} (hc14 : p11.length ≤ cap13) (hr15 : SR H oa12 p11) {p16 : Int} {r : Bool} (hm : trace_Same N p1 p6 p11 p16 = some r) : Tot Tryd.prog 31 #[.slice oa2 p1.length cap3, .slice oa7 p6.length cap8, .slice oa12 p11.length cap13, .int .i64 p16] w0 (fun v w' => v = .bool r ∧ Keep Nil w0 w') := by
  unfold trace_Same at hm
  refine fn0 (args := [.slice oa2 p1.length cap3, .slice oa7 p6.length cap8, .slice oa12 p11.length cap13, .int .i64 p16]) (F := [(0, .slice oa2 p1.length cap3), (1, .slice oa7 p6.length cap8), (2, .slice oa12 p11.length cap13), (3, .int .i64 p16)]) Tryd.func31 rfl Tryd.ntmps31 rfl rfl fun a hF => ?_
  have hS : St w0 Nil [H] [] w0 := start1 hH
  refine th <| ?_
  refine rg <| ?_
  refine ls <| q1 hF rfl (e_asg hF rfl) fun a hF => ?_
  refine re <| ?_
  refine tn <| th <| ?_
  refine rg <| ?_
  refine ls <| q1 hF rfl (e_asg hF rfl) fun a hF => ?_
  refine re <| ?_
  refine tn <| th <| ?_
  replace hm := bind_some hm
  obtain ⟨r17, h18, hm⟩ := hm
  rcases bdich r17 with hb19 | hb19
  ·
    replace hm := ite_t hm hb19
    have hb19' : (!r17) = false := by rw [hb19]; rfl
    refine rg <| ?_
    refine ls <| q1 hF rfl (e_move hF rfl) fun a hF => ?_
    refine ls <| q1 hF rfl (e_move hF rfl) fun a hF => ?_
    refine ls <| k1 (vs := [.slice oa2 p1.length cap3]) (caps := []) hF rfl rfl Tryd.call54 (trace_Same_1_c (hp_le _) hc4 (St.srH hS hr5) h18) ⟨rfl, trivial⟩ rfl (fun v w a hR hF => ?_)
    obtain ⟨rfl, hk⟩ := hR
    replace hS := hS.pass hk
    clear hk
    refine ls <| q1 hF rfl (e_not hF rfl) fun a hF => ?_
    refine ls <| q1 hF rfl (e_as (e_move hF rfl) (congrArg Value.bool hb19')) fun a hF => ?_
    refine ls <| gn hF rfl rfl rfl rfl fun a hF => ?_
    refine ls <| gn hF rfl rfl rfl rfl fun a hF => ?_
    refine ls <| gn hF rfl rfl rfl rfl fun a hF => ?_
    refine ls <| gn hF rfl rfl rfl rfl fun a hF => ?_
    refine ls <| q1 hF rfl (e_pickF hF rfl rfl) fun a hF => ?_
    refine ls <| q1 hF rfl (e_move hF rfl) fun a hF => ?_
    refine ls <| gn hF rfl rfl rfl rfl fun a hF => ?_
    refine ls <| gn hF rfl rfl rfl rfl fun a hF => ?_
    refine ls <| gn hF rfl rfl rfl rfl fun a hF => ?_
    refine ls <| gn hF rfl rfl rfl rfl fun a hF => ?_
    refine ls <| gn hF rfl rfl rfl rfl fun a hF => ?_
    refine ls <| gn hF rfl rfl rfl rfl fun a hF => ?_
    refine ls <| gn hF rfl rfl rfl rfl fun a hF => ?_
    refine ls <| gn hF rfl rfl rfl rfl fun a hF => ?_
    refine ls <| gn hF rfl rfl rfl rfl fun a hF => ?_
    refine ls <| q1 hF rfl (e_pickF hF rfl rfl) fun a hF => ?_
    refine ls <| q1 hF rfl (e_asg hF rfl) fun a hF => ?_
    refine re <| ?_
    refine tn <| ?_
    refine wp_ret <| ?_
    obtain rfl := Option.some.inj hm
    exact r1 hF Tryd.results31 rfl ⟨rfl, hS.keep⟩
  ·
    replace hm := ite_f hm hb19
    have hb19' : (!r17) = true := by rw [hb19]; rfl
    replace hm := bind_some hm
    obtain ⟨r20, h21, hm⟩ := hm
    rcases bdich r20 with hb22 | hb22
    ·
      replace hm := ite_t hm hb22
      have hb22' : (!r20) = false := by rw [hb22]; rfl
      refine rg <| ?_
      refine ls <| q1 hF rfl (e_move hF rfl) fun a hF => ?_
      refine ls <| q1 hF rfl (e_move hF rfl) fun a hF => ?_
      refine ls <| k1 (vs := [.slice oa2 p1.length cap3]) (caps := []) hF rfl rfl Tryd.call54 (trace_Same_1_c (hp_le _) hc4 (St.srH hS hr5) h18) ⟨rfl, trivial⟩ rfl (fun v w a hR hF => ?_)
      obtain ⟨rfl, hk⟩ := hR
      replace hS := hS.pass hk
      clear hk
      refine ls <| q1 hF rfl (e_not hF rfl) fun a hF => ?_
      refine ls <| q1 hF rfl (e_as (e_move hF rfl) (congrArg Value.bool hb19')) fun a hF => ?_
      refine ls <| gy hF rfl rfl <| q1 hF rfl (e_move hF rfl) fun a hF => ?_
      refine ls <| gy hF rfl rfl <| q1 hF rfl (e_move hF rfl) fun a hF => ?_
      refine ls <| gy hF rfl rfl <| k1 (vs := [.slice oa7 p6.length cap8]) (caps := []) hF rfl rfl Tryd.call54 (trace_Same_1_c (hp_le _) hc9 (St.srH hS hr10) h21) ⟨rfl, trivial⟩ rfl (fun v w a hR hF => ?_)
      obtain ⟨rfl, hk⟩ := hR
      replace hS := hS.pass hk
      clear hk
      refine ls <| gy hF rfl rfl <| q1 hF rfl (e_not hF rfl) fun a hF => ?_
      refine ls <| q1 hF rfl (e_pickT hF rfl rfl) fun a hF => ?_
      refine ls <| q1 hF rfl (e_as (e_move hF rfl) (congrArg Value.bool hb22')) fun a hF => ?_
      refine ls <| gn hF rfl rfl rfl rfl fun a hF => ?_
      refine ls <| gn hF rfl rfl rfl rfl fun a hF => ?_
      refine ls <| gn hF rfl rfl rfl rfl fun a hF => ?_
      refine ls <| gn hF rfl rfl rfl rfl fun a hF => ?_
      refine ls <| gn hF rfl rfl rfl rfl fun a hF => ?_
      refine ls <| gn hF rfl rfl rfl rfl fun a hF => ?_
      refine ls <| gn hF rfl rfl rfl rfl fun a hF => ?_
      refine ls <| gn hF rfl rfl rfl rfl fun a hF => ?_
      refine ls <| gn hF rfl rfl rfl rfl fun a hF => ?_
      refine ls <| q1 hF rfl (e_pickF hF rfl rfl) fun a hF => ?_
      refine ls <| q1 hF rfl (e_asg hF rfl) fun a hF => ?_
      refine re <| ?_
      refine tn <| ?_
      refine wp_ret <| ?_
      obtain rfl := Option.some.inj hm
      exact r1 hF Tryd.results31 rfl ⟨rfl, hS.keep⟩
    ·
      replace hm := ite_f hm hb22
      have hb22' : (!r20) = true := by rw [hb22]; rfl
      replace hm := bind_some hm
      obtain ⟨r23, h24, hm⟩ := hm
      replace hm := bind_some hm
      obtain ⟨r30, h31, hm⟩ := hm
      replace hm := bind_some hm
      obtain ⟨r37, h38, hm⟩ := hm
      refine rg <| ?_
      refine ls <| q1 hF rfl (e_move hF rfl) fun a hF => ?_
      refine ls <| q1 hF rfl (e_move hF rfl) fun a hF => ?_
      refine ls <| k1 (vs := [.slice oa2 p1.length cap3]) (caps := []) hF rfl rfl Tryd.call54 (trace_Same_1_c (hp_le _) hc4 (St.srH hS hr5) h18) ⟨rfl, trivial⟩ rfl (fun v w a hR hF => ?_)
      obtain ⟨rfl, hk⟩ := hR
      replace hS := hS.pass hk
      clear hk
      refine ls <| q1 hF rfl (e_not hF rfl) fun a hF => ?_
      refine ls <| q1 hF rfl (e_as (e_move hF rfl) (congrArg Value.bool hb19')) fun a hF => ?_
      refine ls <| gy hF rfl rfl <| q1 hF rfl (e_move hF rfl) fun a hF => ?_
      refine ls <| gy hF rfl rfl <| q1 hF rfl (e_move hF rfl) fun a hF => ?_
      refine ls <| gy hF rfl rfl <| k1 (vs := [.slice oa7 p6.length cap8]) (caps := []) hF rfl rfl Tryd.call54 (trace_Same_1_c (hp_le _) hc9 (St.srH hS hr10) h21) ⟨rfl, trivial⟩ rfl (fun v w a hR hF => ?_)
      obtain ⟨rfl, hk⟩ := hR
      replace hS := hS.pass hk
      clear hk
      refine ls <| gy hF rfl rfl <| q1 hF rfl (e_not hF rfl) fun a hF => ?_
      refine ls <| q1 hF rfl (e_pickT hF rfl rfl) fun a hF => ?_
      refine ls <| q1 hF rfl (e_as (e_move hF rfl) (congrArg Value.bool hb22')) fun a hF => ?_
      refine ls <| gy hF rfl rfl <| q1 hF rfl (e_move hF rfl) fun a hF => ?_
      refine ls <| gy hF rfl rfl <| q1 hF rfl (e_move hF rfl) fun a hF => ?_
      refine ls <| gy hF rfl rfl <| q1 hF rfl (e_move hF rfl) fun a hF => ?_
      refine ls <| gy hF rfl rfl <| c1 hF rfl Tryd.call29 (trace_Form_c (hp_le _) hc4 (St.srH hS hr5) hc14 (St.srH hS hr15) h24) ⟨rfl, rfl, rfl, trivial⟩ (fun v w a hR hF => ?_)
      obtain ⟨oa25, cap26, vs27, rfl, hv28, hk⟩ := hR
      replace hS := hS.fresh hk
      clear hk
      replace hv28 := hv28 H
      refine ls <| gy hF rfl rfl <| q1 hF rfl (e_move hF rfl) fun a hF => ?_
      refine ls <| gy hF rfl rfl <| q1 hF rfl (e_move hF rfl) fun a hF => ?_
      refine ls <| gy hF rfl rfl <| q1 hF rfl (e_move hF rfl) fun a hF => ?_
      refine ls <| gy hF rfl rfl <| c1 hF rfl Tryd.call29 (trace_Form_c (hp_le _) hc9 (St.srH hS hr10) hc14 (St.srH hS hr15) h31) ⟨rfl, rfl, rfl, trivial⟩ (fun v w a hR hF => ?_)
      obtain ⟨oa32, cap33, vs34, rfl, hv35, hk⟩ := hR
      replace hS := hS.fresh hk
      clear hk
      replace hv35 := hv35 H
      refine ls <| gy hF rfl rfl <| c1 hF rfl Tryd.call55 (slices_Equal_api_Event_api_Event_c (hp_le _) (St.capO hS (.tail _ (.head _))) (St.srO hS (.tail _ (.head _)) hv28) (St.capO hS (.head _)) (St.srO hS (.head _) hv35) h38) ⟨rfl, rfl, trivial⟩ (fun v w a hR hF => ?_)
      obtain ⟨rfl, hk⟩ := hR
      replace hS := hS.pass hk
      clear hk
      refine ls <| q1 hF rfl (e_pickT hF rfl rfl) fun a hF => ?_
      refine ls <| q1 hF rfl (e_asg hF rfl) fun a hF => ?_
      refine re <| ?_
      refine tn <| ?_
      refine wp_ret <| ?_
      obtain rfl := Option.some.inj hm
      exact r1 hF Tryd.results31 rfl ⟨rfl, hS.keep⟩

set_option maxRecDepth 100000 in
theorem trace_Key_c {N : Nat} {w0 : World} {H : PH} (hH : H.le w0) (hT : Tab H) {oa2 : Option Addr} {cap3 : Nat} {p1 : (List api_Event)} (hc4 : p1.length ≤ cap3) (hr5 : SR H oa2 p1) {oa7 : Option Addr} {cap8 : Nat} {p6 : (List Int)} (hc9 : p6.length ≤ cap8) (hr10 : SR H oa7 p6) {p11 : Int} {r : Str} (hm : trace_Key N p1 p6 p11 = some r) : Tot Tryd.prog 33 #[.slice oa2 p1.length cap3, .slice oa7 p6.length cap8, .int .i64 p11] w0 (fun v w' => v = strv r ∧ Keep Nil w0 w') := by
  unfold trace_Key at hm
  refine fn0 (args := [.slice oa2 p1.length cap3, .slice oa7 p6.length cap8, .int .i64 p11]) (F := [(0, .slice oa2 p1.length cap3), (1, .slice oa7 p6.length cap8), (2, .int .i64 p11)]) Tryd.func33 rfl Tryd.ntmps33 rfl rfl fun a hF => ?_
  have hS : St w0 Nil [H] [] w0 := start1 hH
  refine th <| ?_
  refine rg <| ?_
  refine ls <| q1 hF rfl (e_asg hF rfl) fun a hF => ?_
  refine re <| ?_
  refine tn <| th <| ?_
  refine rg <| ?_
  refine ls <| a_alloc (cs := [.pointer none, .slice none 0 0].toArray) hF rfl hS Tryd.zeroValue74 rfl fun b12 w a hS hF => ?_
  replace hS := hS.bld0 (e := 5)
  refine re <| ?_
  refine tn <| th <| th <| ?_
  replace hm := bind_some hm
  obtain ⟨r13, h14, hm⟩ := hm
  refine rg <| ?_
  refine ls <| q1 hF rfl (e_move hF rfl) fun a hF => ?_
  refine ls <| q1 hF rfl (e_move hF rfl) fun a hF => ?_
  refine ls <| q1 hF rfl (e_move hF rfl) fun a hF => ?_
  refine ls <| c1 hF rfl Tryd.call29 (trace_Form_c (hp_le _) hc4 (St.srH hS hr5) hc9 (St.srH hS hr10) h14) ⟨rfl, rfl, rfl, trivial⟩ (fun v w a hR hF => ?_)
  obtain ⟨oa15, cap16, vs17, rfl, hv18, hk⟩ := hR
  replace hS := hS.fresh hk
  clear hk
  replace hv18 := hv18 H
  refine ls <| q1 hF rfl (e_lenL (α := api_Event) (xs := r13) hF Tryd.runUnderlying39 rfl) fun a hF => ?_
  refine ls <| q1 hF rfl (e_move hF rfl) fun a hF => ?_
  refine re <| ?_
  refine tn <| midK (fun a w => ∃ (vA2 : Str) (HA1 : PH) (oaA3 : Option Addr) (capA4 : Nat) (vpA5 : Value), trace_Key_j1 vA2 = some r ∧ Ext w0 H HA1 ∧ Fr 25 [(7, .pointer (some ⟨b12, 0, none⟩))] a ∧ St w0 Nil [HA1] [bldA 74 5 b12 vpA5 oaA3 capA4 vA2] w ∧ BP b12 vpA5) ?_ ?_
  ·
    replace hS := hS.pickL (.cons (.tail .head) (.cons .head .nil))
    refine wp_block <| lp (α := Nat × Str × Int) (fun (gh : Nat × Str × Int) a w => match gh with | (nn2, vB2, vB7) => ∃ (HB1 : PH) (oaB3 : Option Addr) (capB4 : Nat) (vpB5 : Value), (trace_Key_l2 N trace_Key_j1 r13) nn2 vB2 vB7 = some r ∧ Ext w0 H HB1 ∧ Fr 25 [(7, .pointer (some ⟨b12, 0, none⟩)), (13, .slice oa15 r13.length cap16), (14, .int .i64 (r13.length : Int)), (15, .int .i64 vB7)] a ∧ St w0 Nil [HB1] [bldA 74 5 b12 vpB5 oaB3 capB4 vB2, sla 23 5 oa15 r13.length cap16 vs17] w ∧ BP b12 vpB5) (fun gh => gh.1) (N, [], 0) ⟨H, none, 0, (.pointer none), hm, (Ext.refl _ _), hF.has ⟨rfl, rfl, rfl, rfl, trivial⟩, hS, (.inl rfl)⟩ ?_
    clear hm hF hS
    rintro ⟨nn2, vB2, vB7⟩ a w ⟨HB1, oaB3, capB4, vpB5, hm, hxHB1, hF, hS, hbB6⟩
    obtain _ | nn2 := nn2
    · simp [trace_Key_l2] at hm
    rw [trace_Key_l2] at hm
    refine th <| ?_
    refine rg <| ?_
    refine ls <| q1 hF rfl (e_lss hF rfl rfl) fun a hF => ?_
    refine re <| ?_
    rcases bdich (decide (vB7 < (r13.length : Int))) with hb20 | hb20
    ·
      replace hm := itp_t hm hb20
      refine tn <| th <| ctv hF rfl hb20 <| wp_skip <| ?_
      refine tn <| th <| wp_block <| th <| ?_
      replace hm := bind_some hm
      obtain ⟨x21, h22, hm⟩ := hm
      have ho23 := Rd.oaI (hS.rdO (.tail _ (.head _))) hv18 (by decide) h22
      obtain ⟨c24, g25, hl26⟩ := Rows.getI hv18 h22
      obtain rfl := api_Event_open g25
      refine rg <| ?_
      refine ls <| q1 hF rfl (e_iaI hF Tryd.runUnderlying39 Tryd.sizeOf23 rfl rfl h22 ho23) fun a hF => ?_
      refine ls <| q1 hF rfl (e_ldA hF Tryd.isAgg23 Tryd.sizeOf23 rfl rfl ((St.ld hS).elsO (.tail _ (.head _)) hl26)) fun a hF => ?_
      refine ls <| a_alloc (cs := [.int .i64 0, .int .i64 0, .int .i64 0, .int .i64 0, .int .i64 0].toArray) hF rfl hS Tryd.zeroValue23 rfl fun b27 w a hS hF => ?_
      refine ls <| s_blkA hF hS Tryd.sizeOf23 rfl rfl rfl rfl (one_cells rfl) .head fun w hS => ?_
      refine re <| ?_
      refine tn <| ?_
      replace hm := bind_some hm
      obtain ⟨r28, h29, hm⟩ := hm
      replace hm := bind_some hm
      obtain ⟨s30, h31, hm⟩ := hm
      replace hm := bind_some hm
      obtain ⟨s32, h33, hm⟩ := hm
      refine rg <| ?_
      refine ls <| q1 hF rfl (e_ldA hF Tryd.isAgg23 Tryd.sizeOf23 rfl rfl ((St.ld hS).cellsB (.head _))) fun a hF => ?_
      refine ls <| c1 hF rfl Tryd.call20 (event_Show_c (hp_le _) (Tab.mono (Tab.mono hT hxHB1.sub) (St.up hS)) h29) ⟨rfl, trivial⟩ (fun v w a hR hF => ?_)
      obtain ⟨rfl, hk⟩ := hR
      replace hS := hS.pass hk
      clear hk
      refine ls <| q1 hF rfl (e_catU hF rfl rfl h31) fun a hF => ?_
      replace hS := hS.pickL (.cons (.tail .head) (.cons .head (.cons .head .nil)))
      refine ls <| c1 hF rfl Tryd.call56 (bws_c hS hbB6 h33) ⟨rfl, rfl, trivial⟩ (fun v w a hR hF => ?_)
      obtain ⟨rfl, oa34, cap35, hS⟩ := hR
      refine re <| ?_
      refine bn <| tn <| ?_
      refine rg <| ?_
      refine ls <| q1 hF rfl (e_add hF rfl rfl) fun a hF => ?_
      refine ls <| q1 hF rfl (e_move hF rfl) fun a hF => ?_
      refine re <| ?_
      refine tn <| ?_
      replace hS := hS.pickL (.cons .head (.cons (.tail .head) .nil))
      exact ⟨(nn2, s32, (IntKind.i64.wrap (vB7 + 1))), ⟨HB1, oa34, cap35, (.pointer (some ⟨b12, 0, none⟩)), hm, hxHB1, hF.has ⟨rfl, rfl, rfl, rfl, trivial⟩, hS, (.inr rfl)⟩, Nat.lt_succ_self _⟩
    ·
      replace hm := itp_f hm hb20
      refine tn <| th <| cfv hF rfl hb20 <| ?_
      refine wp_exit <| tx <| tx <| bx <| ?_
      refine tn <| ?_
      replace hS := hS.pickL (.cons .head .nil)
      exact ⟨vB2, HB1, oaB3, capB4, vpB5, hm, hxHB1, hF.has ⟨rfl, trivial⟩, hS, hbB6⟩
  clear hm hF hS
  rintro a w ⟨vA2, HA1, oaA3, capA4, vpA5, hm, hxHA1, hF, hS, hbA6⟩
  unfold trace_Key_j1 at hm
  refine th <| ?_
  refine rg <| ?_
  refine ls <| c1 hF rfl Tryd.call57 (bstr_c hS hbA6) ⟨rfl, trivial⟩ (fun v w a hR hF => ?_)
  obtain ⟨rfl, hk⟩ := hR
  replace hS := (start1 hH).pass hk
  clear hk
  refine ls <| q1 hF rfl (e_asg hF rfl) fun a hF => ?_
  refine re <| ?_
  refine tn <| ?_
  refine wp_ret <| ?_
  obtain rfl := Option.some.inj hm
  exact r1 hF Tryd.results33 rfl ⟨rfl, hS.keep⟩
end Go.LM.ET
