/- Walks, lifted by program. No condition beyond each theorem's own premises. -/
import Derived.Test.YtimaeihmnipfgaaDoorETQTraceTells2
namespace Go.LM.ET
open Go Go.LL Go.MD Go.LM Go.Proofs Go.MD.ET

set_option maxRecDepth 100000 in
theorem leadlineref17_Swap_c {N : Nat} {w0 : World} {H : PH} (hH : H.le w0) {oa2 : Option Addr} {cap3 : Nat} {p1 : (List api_Event)} (hc4 : p1.length ≤ cap3) (hr5 : SR H oa2 p1) {p6 : Int} {oa8 : Option Addr} {cap9 : Nat} {p7 : (List Int)} (hc10 : p7.length ≤ cap9) (hr11 : SR H oa8 p7) {p12 : Int} {r : ((List api_Event) × Bool)} (hm : leadlineref17_Swap N p1 p6 p7 p12 = some r) : Tot Tryd.prog 27 #[.slice oa2 p1.length cap3, .int .i64 p6, .slice oa8 p7.length cap9, .int .i64 p12] w0 (fun v w' => ∃ (oa0 : Option Addr) (cap0 : Nat) (vs0 : List Value), v = .tuple #[.slice oa0 r.1.length cap0, .bool r.2] ∧ (∀ h, Rows h vs0 r.1) ∧ Fresh w0 (sla 23 5 oa0 r.1.length cap0 vs0) w') := by
  unfold leadlineref17_Swap at hm
  refine fn0 (args := [.slice oa2 p1.length cap3, .int .i64 p6, .slice oa8 p7.length cap9, .int .i64 p12]) (F := [(0, .slice oa2 p1.length cap3), (1, .int .i64 p6), (2, .slice oa8 p7.length cap9), (3, .int .i64 p12)]) Tryd.func27 rfl Tryd.ntmps27 rfl rfl fun a hF => ?_
  have hS : St w0 Nil [H] [] w0 := start1 hH
  refine th <| ?_
  refine rg <| ?_
  refine ls <| q1 hF rfl (e_asg hF rfl) fun a hF => ?_
  refine ls <| q1 hF rfl (e_asg hF rfl) fun a hF => ?_
  refine re <| ?_
  refine tn <| th <| th <| midK (fun a w => ∃ (vA6 : Bool) (HA1 : PH) (oaA2 : Option Addr) (capA3 : Nat), (leadlineref17_Swap_j1 p1 p6) vA6 = some r ∧ Ext w0 H HA1 ∧ Fr 67 [(0, .slice oaA2 p1.length capA3), (1, .int .i64 p6), (42, .bool vA6)] a ∧ St w0 Nil [HA1] [] w ∧ p1.length ≤ capA3 ∧ SR HA1 oaA2 p1) ?_ ?_
  ·
    replace hm := bind_some hm
    obtain ⟨r13, h14, hm⟩ := hm
    rcases bdich (decide (r13 = 0)) with hb15 | hb15
    ·
      replace hm := itp_t hm hb15
      refine rdS 32 hS wide fun w hS => ?_
      refine d1 (i := 0) rfl (by kernel_rfl) (by kernel_rfl) (St.ld hS) hF rfl (fun _ _ _ h => h) (fun w hl => (e_move hF rfl)) fun a hF => ?_
      refine da1 (i := 1) (by kernel_rfl) ?_
      refine di (i := 1) rfl <| c1 hF rfl Tryd.call51 (leadlineref16_Threads_c (hp_le _) hc4 (St.srH hS hr5) h14) ⟨rfl, trivial⟩ (fun v w a hR hF => ?_)
      obtain ⟨rfl, hk⟩ := hR
      replace hS := hS.pass hk
      clear hk
      refine ⟨fun _ => (St.ld hS), ?_⟩
      refine d1 (i := 2) rfl (by kernel_rfl) (by kernel_rfl) (St.ld hS) hF rfl (fun _ _ _ h => h) (fun w hl => (e_eql hF rfl rfl)) fun a hF => ?_
      refine d1 (i := 3) rfl (by kernel_rfl) (by kernel_rfl) (St.ld hS) hF rfl (fun _ _ _ h => h) (fun w hl => (e_as (e_move hF rfl) (congrArg Value.bool hb15))) fun a hF => ?_
      refine d1n (i := 4) rfl (by kernel_rfl) (by kernel_rfl) (St.ld hS) hF rfl rfl rfl rfl (fun _ _ _ h => h) fun a hF => ?_
      refine d1n (i := 5) rfl (by kernel_rfl) (by kernel_rfl) (St.ld hS) hF rfl rfl rfl rfl (fun _ _ _ h => h) fun a hF => ?_
      refine d1 (i := 6) rfl (by kernel_rfl) (by kernel_rfl) (St.ld hS) hF rfl (fun _ _ _ h => h) (fun w hl => (e_pickT hF rfl rfl)) fun a hF => ?_
      refine d1 (i := 7) rfl (by kernel_rfl) (by kernel_rfl) (St.ld hS) hF rfl (fun _ _ _ h => h) (fun w hl => (e_move hF rfl)) fun a hF => ?_
      refine d1n (i := 8) rfl (by kernel_rfl) (by kernel_rfl) (St.ld hS) hF rfl rfl rfl rfl (fun _ _ _ h => h) fun a hF => ?_
      refine d1n (i := 9) rfl (by kernel_rfl) (by kernel_rfl) (St.ld hS) hF rfl rfl rfl rfl (fun _ _ _ h => h) fun a hF => ?_
      refine d1n (i := 10) rfl (by kernel_rfl) (by kernel_rfl) (St.ld hS) hF rfl rfl rfl rfl (fun _ _ _ h => h) fun a hF => ?_
      refine d1n (i := 11) rfl (by kernel_rfl) (by kernel_rfl) (St.ld hS) hF rfl rfl rfl rfl (fun _ _ _ h => h) fun a hF => ?_
      refine d1n (i := 12) rfl (by kernel_rfl) (by kernel_rfl) (St.ld hS) hF rfl rfl rfl rfl (fun _ _ _ h => h) fun a hF => ?_
      refine d1 (i := 13) rfl (by kernel_rfl) (by kernel_rfl) (St.ld hS) hF rfl (fun _ _ _ h => h) (fun w hl => (e_pickT hF rfl rfl)) fun a hF => ?_
      refine d1 (i := 14) rfl (by kernel_rfl) (by kernel_rfl) (St.ld hS) hF rfl (fun _ _ _ h => h) (fun w hl => (e_move hF rfl)) fun a hF => ?_
      refine d1n (i := 15) rfl (by kernel_rfl) (by kernel_rfl) (St.ld hS) hF rfl rfl rfl rfl (fun _ _ _ h => h) fun a hF => ?_
      refine d1n (i := 16) rfl (by kernel_rfl) (by kernel_rfl) (St.ld hS) hF rfl rfl rfl rfl (fun _ _ _ h => h) fun a hF => ?_
      refine d1 (i := 17) rfl (by kernel_rfl) (by kernel_rfl) (St.ld hS) hF rfl (fun _ _ _ h => h) (fun w hl => (e_pickT hF rfl rfl)) fun a hF => ?_
      refine d1 (i := 18) rfl (by kernel_rfl) (by kernel_rfl) (St.ld hS) hF rfl (fun _ _ _ h => h) (fun w hl => (e_move hF rfl)) fun a hF => ?_
      refine d1n (i := 19) rfl (by kernel_rfl) (by kernel_rfl) (St.ld hS) hF rfl rfl rfl rfl (fun _ _ _ h => h) fun a hF => ?_
      refine d1n (i := 20) rfl (by kernel_rfl) (by kernel_rfl) (St.ld hS) hF rfl rfl rfl rfl (fun _ _ _ h => h) fun a hF => ?_
      refine d1n (i := 21) rfl (by kernel_rfl) (by kernel_rfl) (St.ld hS) hF rfl rfl rfl rfl (fun _ _ _ h => h) fun a hF => ?_
      refine d1n (i := 22) rfl (by kernel_rfl) (by kernel_rfl) (St.ld hS) hF rfl rfl rfl rfl (fun _ _ _ h => h) fun a hF => ?_
      refine d1n (i := 23) rfl (by kernel_rfl) (by kernel_rfl) (St.ld hS) hF rfl rfl rfl rfl (fun _ _ _ h => h) fun a hF => ?_
      refine d1n (i := 24) rfl (by kernel_rfl) (by kernel_rfl) (St.ld hS) hF rfl rfl rfl rfl (fun _ _ _ h => h) fun a hF => ?_
      refine d1n (i := 25) rfl (by kernel_rfl) (by kernel_rfl) (St.ld hS) hF rfl rfl rfl rfl (fun _ _ _ h => h) fun a hF => ?_
      refine d1n (i := 26) rfl (by kernel_rfl) (by kernel_rfl) (St.ld hS) hF rfl rfl rfl rfl (fun _ _ _ h => h) fun a hF => ?_
      refine d1n (i := 27) rfl (by kernel_rfl) (by kernel_rfl) (St.ld hS) hF rfl rfl rfl rfl (fun _ _ _ h => h) fun a hF => ?_
      refine d1n (i := 28) rfl (by kernel_rfl) (by kernel_rfl) (St.ld hS) hF rfl rfl rfl rfl (fun _ _ _ h => h) fun a hF => ?_
      refine d1n (i := 29) rfl (by kernel_rfl) (by kernel_rfl) (St.ld hS) hF rfl rfl rfl rfl (fun _ _ _ h => h) fun a hF => ?_
      refine d1n (i := 30) rfl (by kernel_rfl) (by kernel_rfl) (St.ld hS) hF rfl rfl rfl rfl (fun _ _ _ h => h) fun a hF => ?_
      refine d1 (i := 31) rfl (by kernel_rfl) (by kernel_rfl) (St.ld hS) hF rfl (fun _ _ _ h => h) (fun w hl => (e_pickT hF rfl rfl)) fun a hF => ?_
      refine de (by kernel_rfl) <| ?_
      refine tn <| ?_
      exact ⟨true, H, oa2, cap3, hm, (Ext.refl _ _), hF.has ⟨rfl, rfl, rfl, trivial⟩, hS, hc4, hr5⟩
    ·
      replace hm := itp_f hm hb15
      rcases bdich (decide (p6 < 0)) with hb16 | hb16
      ·
        replace hm := itp_t hm hb16
        refine rdS 32 hS wide fun w hS => ?_
        refine d1 (i := 0) rfl (by kernel_rfl) (by kernel_rfl) (St.ld hS) hF rfl (fun _ _ _ h => h) (fun w hl => (e_move hF rfl)) fun a hF => ?_
        refine da1 (i := 1) (by kernel_rfl) ?_
        refine di (i := 1) rfl <| c1 hF rfl Tryd.call51 (leadlineref16_Threads_c (hp_le _) hc4 (St.srH hS hr5) h14) ⟨rfl, trivial⟩ (fun v w a hR hF => ?_)
        obtain ⟨rfl, hk⟩ := hR
        replace hS := hS.pass hk
        clear hk
        refine ⟨fun _ => (St.ld hS), ?_⟩
        refine d1 (i := 2) rfl (by kernel_rfl) (by kernel_rfl) (St.ld hS) hF rfl (fun _ _ _ h => h) (fun w hl => (e_eql hF rfl rfl)) fun a hF => ?_
        refine d1 (i := 3) rfl (by kernel_rfl) (by kernel_rfl) (St.ld hS) hF rfl (fun _ _ _ h => h) (fun w hl => (e_as (e_move hF rfl) (congrArg Value.bool hb15))) fun a hF => ?_
        refine d1g (i := 4) rfl (by kernel_rfl) (by kernel_rfl) (St.ld hS) hF rfl rfl rfl (fun _ _ _ h => h) (fun w hl => (e_move hF rfl)) fun a hF => ?_
        refine d1g (i := 5) rfl (by kernel_rfl) (by kernel_rfl) (St.ld hS) hF rfl rfl rfl (fun _ _ _ h => h) (fun w hl => (e_lss hF rfl rfl)) fun a hF => ?_
        refine d1 (i := 6) rfl (by kernel_rfl) (by kernel_rfl) (St.ld hS) hF rfl (fun _ _ _ h => h) (fun w hl => (e_pickF hF rfl rfl)) fun a hF => ?_
        refine d1 (i := 7) rfl (by kernel_rfl) (by kernel_rfl) (St.ld hS) hF rfl (fun _ _ _ h => h) (fun w hl => (e_as (e_move hF rfl) (congrArg Value.bool hb16))) fun a hF => ?_
        refine d1n (i := 8) rfl (by kernel_rfl) (by kernel_rfl) (St.ld hS) hF rfl rfl rfl rfl (fun _ _ _ h => h) fun a hF => ?_
        refine d1n (i := 9) rfl (by kernel_rfl) (by kernel_rfl) (St.ld hS) hF rfl rfl rfl rfl (fun _ _ _ h => h) fun a hF => ?_
        refine d1n (i := 10) rfl (by kernel_rfl) (by kernel_rfl) (St.ld hS) hF rfl rfl rfl rfl (fun _ _ _ h => h) fun a hF => ?_
        refine d1n (i := 11) rfl (by kernel_rfl) (by kernel_rfl) (St.ld hS) hF rfl rfl rfl rfl (fun _ _ _ h => h) fun a hF => ?_
        refine d1n (i := 12) rfl (by kernel_rfl) (by kernel_rfl) (St.ld hS) hF rfl rfl rfl rfl (fun _ _ _ h => h) fun a hF => ?_
        refine d1 (i := 13) rfl (by kernel_rfl) (by kernel_rfl) (St.ld hS) hF rfl (fun _ _ _ h => h) (fun w hl => (e_pickT hF rfl rfl)) fun a hF => ?_
        refine d1 (i := 14) rfl (by kernel_rfl) (by kernel_rfl) (St.ld hS) hF rfl (fun _ _ _ h => h) (fun w hl => (e_move hF rfl)) fun a hF => ?_
        refine d1n (i := 15) rfl (by kernel_rfl) (by kernel_rfl) (St.ld hS) hF rfl rfl rfl rfl (fun _ _ _ h => h) fun a hF => ?_
        refine d1n (i := 16) rfl (by kernel_rfl) (by kernel_rfl) (St.ld hS) hF rfl rfl rfl rfl (fun _ _ _ h => h) fun a hF => ?_
        refine d1 (i := 17) rfl (by kernel_rfl) (by kernel_rfl) (St.ld hS) hF rfl (fun _ _ _ h => h) (fun w hl => (e_pickT hF rfl rfl)) fun a hF => ?_
        refine d1 (i := 18) rfl (by kernel_rfl) (by kernel_rfl) (St.ld hS) hF rfl (fun _ _ _ h => h) (fun w hl => (e_move hF rfl)) fun a hF => ?_
        refine d1n (i := 19) rfl (by kernel_rfl) (by kernel_rfl) (St.ld hS) hF rfl rfl rfl rfl (fun _ _ _ h => h) fun a hF => ?_
        refine d1n (i := 20) rfl (by kernel_rfl) (by kernel_rfl) (St.ld hS) hF rfl rfl rfl rfl (fun _ _ _ h => h) fun a hF => ?_
        refine d1n (i := 21) rfl (by kernel_rfl) (by kernel_rfl) (St.ld hS) hF rfl rfl rfl rfl (fun _ _ _ h => h) fun a hF => ?_
        refine d1n (i := 22) rfl (by kernel_rfl) (by kernel_rfl) (St.ld hS) hF rfl rfl rfl rfl (fun _ _ _ h => h) fun a hF => ?_
        refine d1n (i := 23) rfl (by kernel_rfl) (by kernel_rfl) (St.ld hS) hF rfl rfl rfl rfl (fun _ _ _ h => h) fun a hF => ?_
        refine d1n (i := 24) rfl (by kernel_rfl) (by kernel_rfl) (St.ld hS) hF rfl rfl rfl rfl (fun _ _ _ h => h) fun a hF => ?_
        refine d1n (i := 25) rfl (by kernel_rfl) (by kernel_rfl) (St.ld hS) hF rfl rfl rfl rfl (fun _ _ _ h => h) fun a hF => ?_
        refine d1n (i := 26) rfl (by kernel_rfl) (by kernel_rfl) (St.ld hS) hF rfl rfl rfl rfl (fun _ _ _ h => h) fun a hF => ?_
        refine d1n (i := 27) rfl (by kernel_rfl) (by kernel_rfl) (St.ld hS) hF rfl rfl rfl rfl (fun _ _ _ h => h) fun a hF => ?_
        refine d1n (i := 28) rfl (by kernel_rfl) (by kernel_rfl) (St.ld hS) hF rfl rfl rfl rfl (fun _ _ _ h => h) fun a hF => ?_
        refine d1n (i := 29) rfl (by kernel_rfl) (by kernel_rfl) (St.ld hS) hF rfl rfl rfl rfl (fun _ _ _ h => h) fun a hF => ?_
        refine d1n (i := 30) rfl (by kernel_rfl) (by kernel_rfl) (St.ld hS) hF rfl rfl rfl rfl (fun _ _ _ h => h) fun a hF => ?_
        refine d1 (i := 31) rfl (by kernel_rfl) (by kernel_rfl) (St.ld hS) hF rfl (fun _ _ _ h => h) (fun w hl => (e_pickT hF rfl rfl)) fun a hF => ?_
        refine de (by kernel_rfl) <| ?_
        refine tn <| ?_
        exact ⟨true, H, oa2, cap3, hm, (Ext.refl _ _), hF.has ⟨rfl, rfl, rfl, trivial⟩, hS, hc4, hr5⟩
      ·
        replace hm := itp_f hm hb16
        rcases bdich (decide ((p1.length : Int) ≤ (IntKind.i64.wrap (p6 + 1)))) with hb17 | hb17
        ·
          replace hm := itp_t hm hb17
          refine rdS 32 hS wide fun w hS => ?_
          refine d1 (i := 0) rfl (by kernel_rfl) (by kernel_rfl) (St.ld hS) hF rfl (fun _ _ _ h => h) (fun w hl => (e_move hF rfl)) fun a hF => ?_
          refine da1 (i := 1) (by kernel_rfl) ?_
          refine di (i := 1) rfl <| c1 hF rfl Tryd.call51 (leadlineref16_Threads_c (hp_le _) hc4 (St.srH hS hr5) h14) ⟨rfl, trivial⟩ (fun v w a hR hF => ?_)
          obtain ⟨rfl, hk⟩ := hR
          replace hS := hS.pass hk
          clear hk
          refine ⟨fun _ => (St.ld hS), ?_⟩
          refine d1 (i := 2) rfl (by kernel_rfl) (by kernel_rfl) (St.ld hS) hF rfl (fun _ _ _ h => h) (fun w hl => (e_eql hF rfl rfl)) fun a hF => ?_
          refine d1 (i := 3) rfl (by kernel_rfl) (by kernel_rfl) (St.ld hS) hF rfl (fun _ _ _ h => h) (fun w hl => (e_as (e_move hF rfl) (congrArg Value.bool hb15))) fun a hF => ?_
          refine d1g (i := 4) rfl (by kernel_rfl) (by kernel_rfl) (St.ld hS) hF rfl rfl rfl (fun _ _ _ h => h) (fun w hl => (e_move hF rfl)) fun a hF => ?_
          refine d1g (i := 5) rfl (by kernel_rfl) (by kernel_rfl) (St.ld hS) hF rfl rfl rfl (fun _ _ _ h => h) (fun w hl => (e_lss hF rfl rfl)) fun a hF => ?_
          refine d1 (i := 6) rfl (by kernel_rfl) (by kernel_rfl) (St.ld hS) hF rfl (fun _ _ _ h => h) (fun w hl => (e_pickF hF rfl rfl)) fun a hF => ?_
          refine d1 (i := 7) rfl (by kernel_rfl) (by kernel_rfl) (St.ld hS) hF rfl (fun _ _ _ h => h) (fun w hl => (e_as (e_move hF rfl) (congrArg Value.bool hb16))) fun a hF => ?_
          refine d1g (i := 8) rfl (by kernel_rfl) (by kernel_rfl) (St.ld hS) hF rfl rfl rfl (fun _ _ _ h => h) (fun w hl => (e_move hF rfl)) fun a hF => ?_
          refine d1g (i := 9) rfl (by kernel_rfl) (by kernel_rfl) (St.ld hS) hF rfl rfl rfl (fun _ _ _ h => h) (fun w hl => (e_add hF rfl rfl)) fun a hF => ?_
          refine d1g (i := 10) rfl (by kernel_rfl) (by kernel_rfl) (St.ld hS) hF rfl rfl rfl (fun _ _ _ h => h) (fun w hl => (e_move hF rfl)) fun a hF => ?_
          refine d1g (i := 11) rfl (by kernel_rfl) (by kernel_rfl) (St.ld hS) hF rfl rfl rfl (fun _ _ _ h => h) (fun w hl => (e_lenL (α := api_Event) (xs := p1) hF Tryd.runUnderlying39 rfl)) fun a hF => ?_
          refine d1g (i := 12) rfl (by kernel_rfl) (by kernel_rfl) (St.ld hS) hF rfl rfl rfl (fun _ _ _ h => h) (fun w hl => (e_geq hF rfl rfl)) fun a hF => ?_
          refine d1 (i := 13) rfl (by kernel_rfl) (by kernel_rfl) (St.ld hS) hF rfl (fun _ _ _ h => h) (fun w hl => (e_pickF hF rfl rfl)) fun a hF => ?_
          refine d1 (i := 14) rfl (by kernel_rfl) (by kernel_rfl) (St.ld hS) hF rfl (fun _ _ _ h => h) (fun w hl => (e_as (e_move hF rfl) (congrArg Value.bool hb17))) fun a hF => ?_
          refine d1n (i := 15) rfl (by kernel_rfl) (by kernel_rfl) (St.ld hS) hF rfl rfl rfl rfl (fun _ _ _ h => h) fun a hF => ?_
          refine d1n (i := 16) rfl (by kernel_rfl) (by kernel_rfl) (St.ld hS) hF rfl rfl rfl rfl (fun _ _ _ h => h) fun a hF => ?_
          refine d1 (i := 17) rfl (by kernel_rfl) (by kernel_rfl) (St.ld hS) hF rfl (fun _ _ _ h => h) (fun w hl => (e_pickT hF rfl rfl)) fun a hF => ?_
          refine d1 (i := 18) rfl (by kernel_rfl) (by kernel_rfl) (St.ld hS) hF rfl (fun _ _ _ h => h) (fun w hl => (e_move hF rfl)) fun a hF => ?_
          refine d1n (i := 19) rfl (by kernel_rfl) (by kernel_rfl) (St.ld hS) hF rfl rfl rfl rfl (fun _ _ _ h => h) fun a hF => ?_
          refine d1n (i := 20) rfl (by kernel_rfl) (by kernel_rfl) (St.ld hS) hF rfl rfl rfl rfl (fun _ _ _ h => h) fun a hF => ?_
          refine d1n (i := 21) rfl (by kernel_rfl) (by kernel_rfl) (St.ld hS) hF rfl rfl rfl rfl (fun _ _ _ h => h) fun a hF => ?_
          refine d1n (i := 22) rfl (by kernel_rfl) (by kernel_rfl) (St.ld hS) hF rfl rfl rfl rfl (fun _ _ _ h => h) fun a hF => ?_
          refine d1n (i := 23) rfl (by kernel_rfl) (by kernel_rfl) (St.ld hS) hF rfl rfl rfl rfl (fun _ _ _ h => h) fun a hF => ?_
          refine d1n (i := 24) rfl (by kernel_rfl) (by kernel_rfl) (St.ld hS) hF rfl rfl rfl rfl (fun _ _ _ h => h) fun a hF => ?_
          refine d1n (i := 25) rfl (by kernel_rfl) (by kernel_rfl) (St.ld hS) hF rfl rfl rfl rfl (fun _ _ _ h => h) fun a hF => ?_
          refine d1n (i := 26) rfl (by kernel_rfl) (by kernel_rfl) (St.ld hS) hF rfl rfl rfl rfl (fun _ _ _ h => h) fun a hF => ?_
          refine d1n (i := 27) rfl (by kernel_rfl) (by kernel_rfl) (St.ld hS) hF rfl rfl rfl rfl (fun _ _ _ h => h) fun a hF => ?_
          refine d1n (i := 28) rfl (by kernel_rfl) (by kernel_rfl) (St.ld hS) hF rfl rfl rfl rfl (fun _ _ _ h => h) fun a hF => ?_
          refine d1n (i := 29) rfl (by kernel_rfl) (by kernel_rfl) (St.ld hS) hF rfl rfl rfl rfl (fun _ _ _ h => h) fun a hF => ?_
          refine d1n (i := 30) rfl (by kernel_rfl) (by kernel_rfl) (St.ld hS) hF rfl rfl rfl rfl (fun _ _ _ h => h) fun a hF => ?_
          refine d1 (i := 31) rfl (by kernel_rfl) (by kernel_rfl) (St.ld hS) hF rfl (fun _ _ _ h => h) (fun w hl => (e_pickT hF rfl rfl)) fun a hF => ?_
          refine de (by kernel_rfl) <| ?_
          refine tn <| ?_
          exact ⟨true, H, oa2, cap3, hm, (Ext.refl _ _), hF.has ⟨rfl, rfl, rfl, trivial⟩, hS, hc4, hr5⟩
        ·
          replace hm := itp_f hm hb17
          rcases bdich (decide (1000000 < p6)) with hb18 | hb18
          ·
            replace hm := itp_t hm hb18
            refine rdS 32 hS wide fun w hS => ?_
            refine d1 (i := 0) rfl (by kernel_rfl) (by kernel_rfl) (St.ld hS) hF rfl (fun _ _ _ h => h) (fun w hl => (e_move hF rfl)) fun a hF => ?_
            refine da1 (i := 1) (by kernel_rfl) ?_
            refine di (i := 1) rfl <| c1 hF rfl Tryd.call51 (leadlineref16_Threads_c (hp_le _) hc4 (St.srH hS hr5) h14) ⟨rfl, trivial⟩ (fun v w a hR hF => ?_)
            obtain ⟨rfl, hk⟩ := hR
            replace hS := hS.pass hk
            clear hk
            refine ⟨fun _ => (St.ld hS), ?_⟩
            refine d1 (i := 2) rfl (by kernel_rfl) (by kernel_rfl) (St.ld hS) hF rfl (fun _ _ _ h => h) (fun w hl => (e_eql hF rfl rfl)) fun a hF => ?_
            refine d1 (i := 3) rfl (by kernel_rfl) (by kernel_rfl) (St.ld hS) hF rfl (fun _ _ _ h => h) (fun w hl => (e_as (e_move hF rfl) (congrArg Value.bool hb15))) fun a hF => ?_
            refine d1g (i := 4) rfl (by kernel_rfl) (by kernel_rfl) (St.ld hS) hF rfl rfl rfl (fun _ _ _ h => h) (fun w hl => (e_move hF rfl)) fun a hF => ?_
            refine d1g (i := 5) rfl (by kernel_rfl) (by kernel_rfl) (St.ld hS) hF rfl rfl rfl (fun _ _ _ h => h) (fun w hl => (e_lss hF rfl rfl)) fun a hF => ?_
            refine d1 (i := 6) rfl (by kernel_rfl) (by kernel_rfl) (St.ld hS) hF rfl (fun _ _ _ h => h) (fun w hl => (e_pickF hF rfl rfl)) fun a hF => ?_
            refine d1 (i := 7) rfl (by kernel_rfl) (by kernel_rfl) (St.ld hS) hF rfl (fun _ _ _ h => h) (fun w hl => (e_as (e_move hF rfl) (congrArg Value.bool hb16))) fun a hF => ?_
            refine d1g (i := 8) rfl (by kernel_rfl) (by kernel_rfl) (St.ld hS) hF rfl rfl rfl (fun _ _ _ h => h) (fun w hl => (e_move hF rfl)) fun a hF => ?_
            refine d1g (i := 9) rfl (by kernel_rfl) (by kernel_rfl) (St.ld hS) hF rfl rfl rfl (fun _ _ _ h => h) (fun w hl => (e_add hF rfl rfl)) fun a hF => ?_
            refine d1g (i := 10) rfl (by kernel_rfl) (by kernel_rfl) (St.ld hS) hF rfl rfl rfl (fun _ _ _ h => h) (fun w hl => (e_move hF rfl)) fun a hF => ?_
            refine d1g (i := 11) rfl (by kernel_rfl) (by kernel_rfl) (St.ld hS) hF rfl rfl rfl (fun _ _ _ h => h) (fun w hl => (e_lenL (α := api_Event) (xs := p1) hF Tryd.runUnderlying39 rfl)) fun a hF => ?_
            refine d1g (i := 12) rfl (by kernel_rfl) (by kernel_rfl) (St.ld hS) hF rfl rfl rfl (fun _ _ _ h => h) (fun w hl => (e_geq hF rfl rfl)) fun a hF => ?_
            refine d1 (i := 13) rfl (by kernel_rfl) (by kernel_rfl) (St.ld hS) hF rfl (fun _ _ _ h => h) (fun w hl => (e_pickF hF rfl rfl)) fun a hF => ?_
            refine d1 (i := 14) rfl (by kernel_rfl) (by kernel_rfl) (St.ld hS) hF rfl (fun _ _ _ h => h) (fun w hl => (e_as (e_move hF rfl) (congrArg Value.bool hb17))) fun a hF => ?_
            refine d1g (i := 15) rfl (by kernel_rfl) (by kernel_rfl) (St.ld hS) hF rfl rfl rfl (fun _ _ _ h => h) (fun w hl => (e_move hF rfl)) fun a hF => ?_
            refine d1g (i := 16) rfl (by kernel_rfl) (by kernel_rfl) (St.ld hS) hF rfl rfl rfl (fun _ _ _ h => h) (fun w hl => (e_gtr hF rfl rfl)) fun a hF => ?_
            refine d1 (i := 17) rfl (by kernel_rfl) (by kernel_rfl) (St.ld hS) hF rfl (fun _ _ _ h => h) (fun w hl => (e_pickF hF rfl rfl)) fun a hF => ?_
            refine d1 (i := 18) rfl (by kernel_rfl) (by kernel_rfl) (St.ld hS) hF rfl (fun _ _ _ h => h) (fun w hl => (e_as (e_move hF rfl) (congrArg Value.bool hb18))) fun a hF => ?_
            refine d1n (i := 19) rfl (by kernel_rfl) (by kernel_rfl) (St.ld hS) hF rfl rfl rfl rfl (fun _ _ _ h => h) fun a hF => ?_
            refine d1n (i := 20) rfl (by kernel_rfl) (by kernel_rfl) (St.ld hS) hF rfl rfl rfl rfl (fun _ _ _ h => h) fun a hF => ?_
            refine d1n (i := 21) rfl (by kernel_rfl) (by kernel_rfl) (St.ld hS) hF rfl rfl rfl rfl (fun _ _ _ h => h) fun a hF => ?_
            refine d1n (i := 22) rfl (by kernel_rfl) (by kernel_rfl) (St.ld hS) hF rfl rfl rfl rfl (fun _ _ _ h => h) fun a hF => ?_
            refine d1n (i := 23) rfl (by kernel_rfl) (by kernel_rfl) (St.ld hS) hF rfl rfl rfl rfl (fun _ _ _ h => h) fun a hF => ?_
            refine d1n (i := 24) rfl (by kernel_rfl) (by kernel_rfl) (St.ld hS) hF rfl rfl rfl rfl (fun _ _ _ h => h) fun a hF => ?_
            refine d1n (i := 25) rfl (by kernel_rfl) (by kernel_rfl) (St.ld hS) hF rfl rfl rfl rfl (fun _ _ _ h => h) fun a hF => ?_
            refine d1n (i := 26) rfl (by kernel_rfl) (by kernel_rfl) (St.ld hS) hF rfl rfl rfl rfl (fun _ _ _ h => h) fun a hF => ?_
            refine d1n (i := 27) rfl (by kernel_rfl) (by kernel_rfl) (St.ld hS) hF rfl rfl rfl rfl (fun _ _ _ h => h) fun a hF => ?_
            refine d1n (i := 28) rfl (by kernel_rfl) (by kernel_rfl) (St.ld hS) hF rfl rfl rfl rfl (fun _ _ _ h => h) fun a hF => ?_
            refine d1n (i := 29) rfl (by kernel_rfl) (by kernel_rfl) (St.ld hS) hF rfl rfl rfl rfl (fun _ _ _ h => h) fun a hF => ?_
            refine d1n (i := 30) rfl (by kernel_rfl) (by kernel_rfl) (St.ld hS) hF rfl rfl rfl rfl (fun _ _ _ h => h) fun a hF => ?_
            refine d1 (i := 31) rfl (by kernel_rfl) (by kernel_rfl) (St.ld hS) hF rfl (fun _ _ _ h => h) (fun w hl => (e_pickT hF rfl rfl)) fun a hF => ?_
            refine de (by kernel_rfl) <| ?_
            refine tn <| ?_
            exact ⟨true, H, oa2, cap3, hm, (Ext.refl _ _), hF.has ⟨rfl, rfl, rfl, trivial⟩, hS, hc4, hr5⟩
          ·
            replace hm := itp_f hm hb18
            replace hm := bind_some hm
            obtain ⟨x19, h20, hm⟩ := hm
            obtain ⟨c21, g22, hl23⟩ := SR.get hr5 h20
            obtain rfl := api_Event_open g22
            replace hm := bind_some hm
            obtain ⟨x24, h25, hm⟩ := hm
            obtain ⟨c26, g27, hl28⟩ := SR.get hr5 h25
            obtain rfl := api_Event_open g27
            replace hm := bind_some hm
            obtain ⟨r29, h30, hm⟩ := hm
            refine rdS 32 hS wide fun w hS => ?_
            refine d1 (i := 0) rfl (by kernel_rfl) (by kernel_rfl) (St.ld hS) hF rfl (fun _ _ _ h => h) (fun w hl => (e_move hF rfl)) fun a hF => ?_
            refine da1 (i := 1) (by kernel_rfl) ?_
            refine di (i := 1) rfl <| c1 hF rfl Tryd.call51 (leadlineref16_Threads_c (hp_le _) hc4 (St.srH hS hr5) h14) ⟨rfl, trivial⟩ (fun v w a hR hF => ?_)
            obtain ⟨rfl, hk⟩ := hR
            replace hS := hS.pass hk
            clear hk
            refine ⟨fun _ => (St.ld hS), ?_⟩
            refine d1 (i := 2) rfl (by kernel_rfl) (by kernel_rfl) (St.ld hS) hF rfl (fun _ _ _ h => h) (fun w hl => (e_eql hF rfl rfl)) fun a hF => ?_
            refine d1 (i := 3) rfl (by kernel_rfl) (by kernel_rfl) (St.ld hS) hF rfl (fun _ _ _ h => h) (fun w hl => (e_as (e_move hF rfl) (congrArg Value.bool hb15))) fun a hF => ?_
            refine d1g (i := 4) rfl (by kernel_rfl) (by kernel_rfl) (St.ld hS) hF rfl rfl rfl (fun _ _ _ h => h) (fun w hl => (e_move hF rfl)) fun a hF => ?_
            refine d1g (i := 5) rfl (by kernel_rfl) (by kernel_rfl) (St.ld hS) hF rfl rfl rfl (fun _ _ _ h => h) (fun w hl => (e_lss hF rfl rfl)) fun a hF => ?_
            refine d1 (i := 6) rfl (by kernel_rfl) (by kernel_rfl) (St.ld hS) hF rfl (fun _ _ _ h => h) (fun w hl => (e_pickF hF rfl rfl)) fun a hF => ?_
            refine d1 (i := 7) rfl (by kernel_rfl) (by kernel_rfl) (St.ld hS) hF rfl (fun _ _ _ h => h) (fun w hl => (e_as (e_move hF rfl) (congrArg Value.bool hb16))) fun a hF => ?_
            refine d1g (i := 8) rfl (by kernel_rfl) (by kernel_rfl) (St.ld hS) hF rfl rfl rfl (fun _ _ _ h => h) (fun w hl => (e_move hF rfl)) fun a hF => ?_
            refine d1g (i := 9) rfl (by kernel_rfl) (by kernel_rfl) (St.ld hS) hF rfl rfl rfl (fun _ _ _ h => h) (fun w hl => (e_add hF rfl rfl)) fun a hF => ?_
            refine d1g (i := 10) rfl (by kernel_rfl) (by kernel_rfl) (St.ld hS) hF rfl rfl rfl (fun _ _ _ h => h) (fun w hl => (e_move hF rfl)) fun a hF => ?_
            refine d1g (i := 11) rfl (by kernel_rfl) (by kernel_rfl) (St.ld hS) hF rfl rfl rfl (fun _ _ _ h => h) (fun w hl => (e_lenL (α := api_Event) (xs := p1) hF Tryd.runUnderlying39 rfl)) fun a hF => ?_
            refine d1g (i := 12) rfl (by kernel_rfl) (by kernel_rfl) (St.ld hS) hF rfl rfl rfl (fun _ _ _ h => h) (fun w hl => (e_geq hF rfl rfl)) fun a hF => ?_
            refine d1 (i := 13) rfl (by kernel_rfl) (by kernel_rfl) (St.ld hS) hF rfl (fun _ _ _ h => h) (fun w hl => (e_pickF hF rfl rfl)) fun a hF => ?_
            refine d1 (i := 14) rfl (by kernel_rfl) (by kernel_rfl) (St.ld hS) hF rfl (fun _ _ _ h => h) (fun w hl => (e_as (e_move hF rfl) (congrArg Value.bool hb17))) fun a hF => ?_
            refine d1g (i := 15) rfl (by kernel_rfl) (by kernel_rfl) (St.ld hS) hF rfl rfl rfl (fun _ _ _ h => h) (fun w hl => (e_move hF rfl)) fun a hF => ?_
            refine d1g (i := 16) rfl (by kernel_rfl) (by kernel_rfl) (St.ld hS) hF rfl rfl rfl (fun _ _ _ h => h) (fun w hl => (e_gtr hF rfl rfl)) fun a hF => ?_
            refine d1 (i := 17) rfl (by kernel_rfl) (by kernel_rfl) (St.ld hS) hF rfl (fun _ _ _ h => h) (fun w hl => (e_pickF hF rfl rfl)) fun a hF => ?_
            refine d1 (i := 18) rfl (by kernel_rfl) (by kernel_rfl) (St.ld hS) hF rfl (fun _ _ _ h => h) (fun w hl => (e_as (e_move hF rfl) (congrArg Value.bool hb18))) fun a hF => ?_
            refine d1g (i := 19) rfl (by kernel_rfl) (by kernel_rfl) (St.ld hS) hF rfl rfl rfl (fun _ _ _ h => h) (fun w hl => (e_move hF rfl)) fun a hF => ?_
            refine d1g (i := 20) rfl (by kernel_rfl) (by kernel_rfl) (St.ld hS) hF rfl rfl rfl (fun _ _ _ h => h) (fun w hl => (e_move hF rfl)) fun a hF => ?_
            refine d1g (i := 21) rfl (by kernel_rfl) (by kernel_rfl) (St.ld hS) hF rfl rfl rfl (fun _ _ _ h => h) (fun w hl => (e_iaI hF Tryd.runUnderlying39 Tryd.sizeOf23 rfl rfl h20 (SR.oaI hr5 (by decide) h20))) fun a hF => ?_
            refine d1g (i := 22) rfl (by kernel_rfl) (by kernel_rfl) (St.ld hS) hF rfl rfl rfl (fun _ _ _ h => h) (fun w hl => (e_ldA hF Tryd.isAgg23 Tryd.sizeOf23 rfl rfl (fun j v hj => PH.le.cell (Lds.le hl) (hl23 j v hj)))) fun a hF => ?_
            refine d1g (i := 23) rfl (by kernel_rfl) (by kernel_rfl) (St.ld hS) hF rfl rfl rfl (fun _ _ _ h => h) (fun w hl => (e_move hF rfl)) fun a hF => ?_
            refine d1g (i := 24) rfl (by kernel_rfl) (by kernel_rfl) (St.ld hS) hF rfl rfl rfl (fun _ _ _ h => h) (fun w hl => (e_move hF rfl)) fun a hF => ?_
            refine d1g (i := 25) rfl (by kernel_rfl) (by kernel_rfl) (St.ld hS) hF rfl rfl rfl (fun _ _ _ h => h) (fun w hl => (e_add hF rfl rfl)) fun a hF => ?_
            refine d1g (i := 26) rfl (by kernel_rfl) (by kernel_rfl) (St.ld hS) hF rfl rfl rfl (fun _ _ _ h => h) (fun w hl => (e_iaI hF Tryd.runUnderlying39 Tryd.sizeOf23 rfl rfl h25 (SR.oaI hr5 (by decide) h25))) fun a hF => ?_
            refine d1g (i := 27) rfl (by kernel_rfl) (by kernel_rfl) (St.ld hS) hF rfl rfl rfl (fun _ _ _ h => h) (fun w hl => (e_ldA hF Tryd.isAgg23 Tryd.sizeOf23 rfl rfl (fun j v hj => PH.le.cell (Lds.le hl) (hl28 j v hj)))) fun a hF => ?_
            refine d1g (i := 28) rfl (by kernel_rfl) (by kernel_rfl) (St.ld hS) hF rfl rfl rfl (fun _ _ _ h => h) (fun w hl => (e_move hF rfl)) fun a hF => ?_
            refine d1g (i := 29) rfl (by kernel_rfl) (by kernel_rfl) (St.ld hS) hF rfl rfl rfl (fun _ _ _ h => h) (fun w hl => (e_move hF rfl)) fun a hF => ?_
            refine da1 (i := 30) (by kernel_rfl) ?_
            refine di (i := 30) rfl <| gy hF rfl rfl <| c1 hF rfl Tryd.call17 (leadlineref15_Depend_c (hp_le _) hc10 (St.srH hS hr11) h30) ⟨rfl, rfl, rfl, rfl, trivial⟩ (fun v w a hR hF => ?_)
            obtain ⟨rfl, hk⟩ := hR
            replace hS := hS.pass hk
            clear hk
            refine ⟨fun _ => (St.ld hS), ?_⟩
            refine d1 (i := 31) rfl (by kernel_rfl) (by kernel_rfl) (St.ld hS) hF rfl (fun _ _ _ h => h) (fun w hl => (e_pickF hF rfl rfl)) fun a hF => ?_
            refine de (by kernel_rfl) <| ?_
            refine tn <| ?_
            exact ⟨r29, H, oa2, cap3, hm, (Ext.refl _ _), hF.has ⟨rfl, rfl, rfl, trivial⟩, hS, hc4, hr5⟩
  clear hm hF hS
  rintro a w ⟨vA6, HA1, oaA2, capA3, hm, hxHA1, hF, hS, hcA4, hrA5⟩
  unfold leadlineref17_Swap_j1 at hm
  rcases bdich vA6 with hb31 | hb31
  ·
    replace hm := ite_t hm hb31
    refine ctv hF rfl hb31 <| th <| ?_
    refine rg <| ?_
    refine ls <| q1 hF rfl (e_asg hF rfl) fun a hF => ?_
    refine ls <| q1 hF rfl (e_asg hF rfl) fun a hF => ?_
    refine re <| ?_
    refine tn <| ?_
    refine wp_ret <| tr <| ?_
    replace hS := St.nilS hS 23 5
    obtain rfl := Option.some.inj hm
    exact r2 hF Tryd.results27 rfl rfl ⟨_, _, _, rfl, (fun _ => .nil), hS.endFresh (.head _)⟩
  ·
    replace hm := ite_f hm hb31
    refine cfv hF rfl hb31 <| wp_skip <| ?_
    refine tn <| th <| ?_
    replace hm := bind_some hm
    obtain ⟨l35, h36, hm⟩ := hm
    obtain ⟨oa37, cap38, e39, e40, hc41, hr42⟩ := SR.sub (sz := 5) hrA5 hcA4 rfl h36
    replace hm := bind_some hm
    obtain ⟨l43, h44, hm⟩ := hm
    refine rg <| ?_
    refine ls <| a_bsl (e := 23) (sz := 5) [] hF rfl hS rfl rfl rfl (fun w => by kernel_rfl) fun b33 w a hS hF => ?_
    have hv32 : Rows (α := api_Event) HA1 [] [] := .nil
    refine ls <| q1 hF rfl (e_move hF rfl) fun a hF => ?_
    refine ls <| q1 hF rfl (e_move hF rfl) fun a hF => ?_
    refine ls <| q1 hF rfl (e_subL (xs := p1) (vl := 0) (vh := p6) hF Tryd.runUnderlying39 Tryd.sizeOf23 rfl hcA4 rfl rfl h36 e39 e40) fun a hF => ?_
    obtain ⟨us49, hd50, hu51⟩ := id hr42
    refine ls <| m_app (α := api_Event) (xs := []) (ys := l35) hF rfl hS Tryd.underlying39 info23 rfl (by decide) rfl rfl rfl (.head _) hv32 (hS.rdH (.head _) hd50) hu51 h44 fun oa45 cap46 vs47 w a hv48 hU hF => ?_
    replace hS := hU _ .head
    clear hU
    refine ls <| q1 hF rfl (e_asg hF rfl) fun a hF => ?_
    refine re <| ?_
    refine tn <| th <| ?_
    replace hm := bind_some hm
    obtain ⟨x52, h53, hm⟩ := hm
    obtain ⟨c54, g55, hl56⟩ := SR.get hrA5 h53
    obtain rfl := api_Event_open g55
    replace hm := bind_some hm
    obtain ⟨x57, h58, hm⟩ := hm
    obtain ⟨c59, g60, hl61⟩ := SR.get hrA5 h58
    obtain rfl := api_Event_open g60
    replace hm := bind_some hm
    obtain ⟨l65, h66, hm⟩ := hm
    refine rdL sub_nil 13 hS wide fun w hS => ?_
    refine d1 (i := 0) rfl (by kernel_rfl) (by kernel_rfl) (St.ldsX hS (fun _ _ h => h) (fun _ h => (.tail _ h))) hF rfl (fun _ _ _ h => h) (fun w hl => (e_move hF rfl)) fun a hF => ?_
    refine d1 (i := 1) rfl (by kernel_rfl) (by kernel_rfl) (St.ldsX hS (fun _ _ h => h) (fun _ h => (.tail _ h))) hF rfl (fun _ _ _ h => h) (fun w hl => (e_move hF rfl)) fun a hF => ?_
    refine d1 (i := 2) rfl (by kernel_rfl) (by kernel_rfl) (St.ldsX hS (fun _ _ h => h) (fun _ h => (.tail _ h))) hF rfl (fun _ _ _ h => h) (fun w hl => (e_move hF rfl)) fun a hF => ?_
    refine d1 (i := 3) rfl (by kernel_rfl) (by kernel_rfl) (St.ldsX hS (fun _ _ h => h) (fun _ h => (.tail _ h))) hF rfl (fun _ _ _ h => h) (fun w hl => (e_add hF rfl rfl)) fun a hF => ?_
    refine d1 (i := 4) rfl (by kernel_rfl) (by kernel_rfl) (St.ldsX hS (fun _ _ h => h) (fun _ h => (.tail _ h))) hF rfl (fun _ _ _ h => h) (fun w hl => (e_iaI hF Tryd.runUnderlying39 Tryd.sizeOf23 rfl rfl h53 (SR.oaI hrA5 (by decide) h53))) fun a hF => ?_
    refine d1 (i := 5) rfl (by kernel_rfl) (by kernel_rfl) (St.ldsX hS (fun _ _ h => h) (fun _ h => (.tail _ h))) hF rfl (fun _ _ _ h => h) (fun w hl => (e_ldA hF Tryd.isAgg23 Tryd.sizeOf23 rfl rfl (fun j v hj => PH.le.cell (Lds.le hl) (hl56 j v hj)))) fun a hF => ?_
    refine d1 (i := 6) rfl (by kernel_rfl) (by kernel_rfl) (St.ldsX hS (fun _ _ h => h) (fun _ h => (.tail _ h))) hF rfl (fun _ _ _ h => h) (fun w hl => (e_move hF rfl)) fun a hF => ?_
    refine d1 (i := 7) rfl (by kernel_rfl) (by kernel_rfl) (St.ldsX hS (fun _ _ h => h) (fun _ h => (.tail _ h))) hF rfl (fun _ _ _ h => h) (fun w hl => (e_move hF rfl)) fun a hF => ?_
    refine d1 (i := 8) rfl (by kernel_rfl) (by kernel_rfl) (St.ldsX hS (fun _ _ h => h) (fun _ h => (.tail _ h))) hF rfl (fun _ _ _ h => h) (fun w hl => (e_iaI hF Tryd.runUnderlying39 Tryd.sizeOf23 rfl rfl h58 (SR.oaI hrA5 (by decide) h58))) fun a hF => ?_
    refine d1 (i := 9) rfl (by kernel_rfl) (by kernel_rfl) (St.ldsX hS (fun _ _ h => h) (fun _ h => (.tail _ h))) hF rfl (fun _ _ _ h => h) (fun w hl => (e_ldA hF Tryd.isAgg23 Tryd.sizeOf23 rfl rfl (fun j v hj => PH.le.cell (Lds.le hl) (hl61 j v hj)))) fun a hF => ?_
    refine da1 (i := 10) (by kernel_rfl) ?_
    refine di (i := 10) rfl <| a_bsl (e := 23) (sz := 5) [.int .i64 x52.Kind, .int .i64 x52.T, .int .i64 x52.A, .int .i64 x52.N, .int .i64 x52.M, .int .i64 x57.Kind, .int .i64 x57.T, .int .i64 x57.A, .int .i64 x57.N, .int .i64 x57.M] hF rfl hS rfl rfl rfl (fun w => by kernel_rfl) fun b63 w a hS hF => ?_
    have hv62 : Rows (α := api_Event) HA1 [.int .i64 x52.Kind, .int .i64 x52.T, .int .i64 x52.A, .int .i64 x52.N, .int .i64 x52.M, .int .i64 x57.Kind, .int .i64 x57.T, .int .i64 x57.A, .int .i64 x57.N, .int .i64 x57.M] ([x52, x57] : List api_Event) := (.cons (c := [.int .i64 x52.Kind, .int .i64 x52.T, .int .i64 x52.A, .int .i64 x52.N, .int .i64 x52.M]) ⟨_, _, rfl, rfl, ⟨_, _, rfl, rfl, ⟨_, _, rfl, rfl, ⟨_, _, rfl, rfl, rfl⟩⟩⟩⟩ (.cons (c := [.int .i64 x57.Kind, .int .i64 x57.T, .int .i64 x57.A, .int .i64 x57.N, .int .i64 x57.M]) ⟨_, _, rfl, rfl, ⟨_, _, rfl, rfl, ⟨_, _, rfl, rfl, ⟨_, _, rfl, rfl, rfl⟩⟩⟩⟩ .nil))
    refine ⟨fun _ => (St.ldsX hS (fun _ _ h => h) (fun _ h => (.tail _ (.tail _ h)))), ?_⟩
    refine da1 (i := 11) (by kernel_rfl) ?_
    refine di (i := 11) rfl <| m_app (α := api_Event) (xs := l43) (ys := ([x52, x57] : List api_Event)) hF rfl hS Tryd.underlying39 info23 rfl (by decide) rfl rfl rfl (.tail _ (.head _)) hv48 (hS.rdO (.head _)) hv62 h66 fun oa67 cap68 vs69 w a hv70 hU hF => ?_
    replace hS := hU _ (.tail .head)
    clear hU
    replace hS := hS.drop .head
    refine ⟨fun _ => (St.ldsX hS (fun _ _ h => h) (fun _ h => (.tail _ h))), ?_⟩
    refine d1 (i := 12) rfl (by kernel_rfl) (by kernel_rfl) (St.ldsX hS (fun _ _ h => h) (fun _ h => (.tail _ h))) hF rfl (fun _ _ _ h => h) (fun w hl => (e_asg hF rfl)) fun a hF => ?_
    refine de (by kernel_rfl) <| ?_
    refine tn <| th <| ?_
    replace hm := bind_some hm
    obtain ⟨l71, h72, hm⟩ := hm
    obtain ⟨oa73, cap74, e75, e76, hc77, hr78⟩ := SR.sub (sz := 5) hrA5 hcA4 rfl h72
    replace hm := bind_some hm
    obtain ⟨l79, h80, hm⟩ := hm
    refine rg <| ?_
    refine ls <| q1 hF rfl (e_move hF rfl) fun a hF => ?_
    refine ls <| q1 hF rfl (e_move hF rfl) fun a hF => ?_
    refine ls <| q1 hF rfl (e_move hF rfl) fun a hF => ?_
    refine ls <| q1 hF rfl (e_add hF rfl rfl) fun a hF => ?_
    refine ls <| q1 hF rfl (e_subL (xs := p1) (vl := (IntKind.i64.wrap (p6 + 2))) (vh := (p1.length : Int)) hF Tryd.runUnderlying39 Tryd.sizeOf23 rfl hcA4 rfl rfl h72 e75 e76) fun a hF => ?_
    obtain ⟨us85, hd86, hu87⟩ := id hr78
    refine ls <| m_app (α := api_Event) (xs := l65) (ys := l71) hF rfl hS Tryd.underlying39 info23 rfl (by decide) rfl rfl rfl (.head _) hv70 (hS.rdH (.head _) hd86) hu87 h80 fun oa81 cap82 vs83 w a hv84 hU hF => ?_
    replace hS := hU _ .head
    clear hU
    refine ls <| q1 hF rfl (e_asg hF rfl) fun a hF => ?_
    refine re <| ?_
    refine tn <| th <| ?_
    refine rg <| ?_
    refine ls <| q1 hF rfl (e_move hF rfl) fun a hF => ?_
    refine ls <| q1 hF rfl (e_asg hF rfl) fun a hF => ?_
    refine ls <| q1 hF rfl (e_asg hF rfl) fun a hF => ?_
    refine re <| ?_
    refine tn <| ?_
    refine wp_ret <| ?_
    obtain rfl := Option.some.inj hm
    exact r2 hF Tryd.results27 rfl rfl ⟨_, _, _, rfl, (fun _ => Rows.ind hv84), hS.endFresh (.head _)⟩

set_option maxRecDepth 100000 in
theorem trace_Form_1_c {N : Nat} {w0 : World} {H : PH} (hH : H.le w0) {p1 : Int} {m4 c6 : Nat} {l5 : List (Int × Value × Nat)} {y3 : (List (Int × Bool))} (hf8 : H m4 = some (.map (l5.map (toE kI)).toArray c6)) (hm7 : MRel Value.bool l5 y3) {b2 : Nat} (hb9 : H b2 = some (.cells [.map (some m4)].toArray 68 (0, 0))) {oa12 : Option Addr} {cap13 : Nat} {y11 : (List api_Event)} (hc14 : y11.length ≤ cap13) (hr15 : SR H oa12 y11) {b10 : Nat} (hb16 : H b10 = some (.cells [.slice oa12 y11.length cap13].toArray 39 (0, 0))) {oa19 : Option Addr} {cap20 : Nat} {y18 : (List Int)} (hc21 : y18.length ≤ cap20) (hr22 : SR H oa19 y18) {b17 : Nat} (hb23 : H b17 = some (.cells [.slice oa19 y18.length cap20].toArray 25 (0, 0))) {y25 : Int} {b24 : Nat} (hb26 : H b24 = some (.cells [.int .i64 y25].toArray 3 (0, 0))) {r : Bool} (hm : trace_Form_1 N p1 y3 y11 y18 y25 = some r) : Tot Tryd.prog 52 #[.int .i64 p1, .pointer (some ⟨b2, 0, none⟩), .pointer (some ⟨b10, 0, none⟩), .pointer (some ⟨b17, 0, none⟩), .pointer (some ⟨b24, 0, none⟩)] w0 (fun v w' => v = .bool r ∧ Keep Nil w0 w') := by
  unfold trace_Form_1 at hm
  refine fn0 (args := [.int .i64 p1, .pointer (some ⟨b2, 0, none⟩), .pointer (some ⟨b10, 0, none⟩), .pointer (some ⟨b17, 0, none⟩), .pointer (some ⟨b24, 0, none⟩)]) (F := [(0, .int .i64 p1), (1, .pointer (some ⟨b2, 0, none⟩)), (2, .pointer (some ⟨b10, 0, none⟩)), (3, .pointer (some ⟨b17, 0, none⟩)), (4, .pointer (some ⟨b24, 0, none⟩))]) Tryd.func52 rfl Tryd.ntmps52 rfl rfl fun a hF => ?_
  have hS : St w0 Nil [H] [] w0 := start1 hH
  refine th <| ?_
  refine rg <| ?_
  refine ls <| q1 hF rfl (e_asg hF rfl) fun a hF => ?_
  refine re <| ?_
  refine tn <| th <| th <| ?_
  refine rg <| ?_
  refine ls <| q1 hF rfl (e_move hF rfl) fun a hF => ?_
  refine ls <| q1 hF rfl (e_move hF rfl) fun a hF => ?_
  refine re <| ?_
  refine tn <| midK (fun a w => ∃ (HA1 : PH), trace_Form_1_j1 = some r ∧ Ext w0 H HA1 ∧ Fr 29 [] a ∧ St w0 Nil [HA1] [] w) ?_ ?_
  ·
    refine wp_block <| lp (α := Nat × Int) (fun (gh : Nat × Int) a w => match gh with | (nn2, vB2) => ∃ (HB1 : PH), (trace_Form_1_l2 N trace_Form_1_j1 p1 y3 y11 y18 y25) nn2 vB2 = some r ∧ Ext w0 H HB1 ∧ Fr 29 [(0, .int .i64 p1), (1, .pointer (some ⟨b2, 0, none⟩)), (2, .pointer (some ⟨b10, 0, none⟩)), (3, .pointer (some ⟨b17, 0, none⟩)), (4, .pointer (some ⟨b24, 0, none⟩)), (8, .int .i64 p1), (9, .int .i64 vB2)] a ∧ St w0 Nil [HB1] [] w) (fun gh => gh.1) (N, 0) ⟨H, hm, (Ext.refl _ _), hF.has ⟨rfl, rfl, rfl, rfl, rfl, rfl, rfl, trivial⟩, hS⟩ ?_
    clear hm hF hS
    rintro ⟨nn2, vB2⟩ a w ⟨HB1, hm, hxHB1, hF, hS⟩
    obtain _ | nn2 := nn2
    · simp [trace_Form_1_l2] at hm
    rw [trace_Form_1_l2] at hm
    refine th <| ?_
    refine rg <| ?_
    refine ls <| q1 hF rfl (e_lss hF rfl rfl) fun a hF => ?_
    refine re <| ?_
    rcases bdich (decide (vB2 < p1)) with hb27 | hb27
    ·
      replace hm := itp_t hm hb27
      refine tn <| th <| ctv hF rfl hb27 <| wp_skip <| ?_
      refine tn <| th <| wp_block <| th <| ?_
      refine rg <| ?_
      refine ls <| q1 hF rfl (e_move hF rfl) fun a hF => ?_
      refine ls <| q1 hF rfl (e_asg hF rfl) fun a hF => ?_
      refine re <| ?_
      refine tn <| th <| midK (fun a w => ∃ (vC1 : Bool), (trace_Form_1_j3 (trace_Form_1_l2 N trace_Form_1_j1 p1 y3 y11 y18 y25 nn2) vB2) vC1 = some r ∧ Fr 29 [(0, .int .i64 p1), (1, .pointer (some ⟨b2, 0, none⟩)), (2, .pointer (some ⟨b10, 0, none⟩)), (3, .pointer (some ⟨b17, 0, none⟩)), (4, .pointer (some ⟨b24, 0, none⟩)), (8, .int .i64 p1), (9, .int .i64 vB2), (27, .bool vC1)] a ∧ St w0 Nil [HB1] [] w) ?_ ?_
      ·
        rcases bdich ((plook vB2 y3).getD false) with hb28 | hb28
        ·
          replace hm := ite_t hm hb28
          replace hm := bind_some hm
          obtain ⟨x29, h30, hm⟩ := hm
          obtain ⟨c31, g32, hl33⟩ := SR.get hr15 h30
          obtain rfl := api_Event_open g32
          replace hm := bind_some hm
          obtain ⟨x34, h35, hm⟩ := hm
          obtain ⟨c36, g37, hl38⟩ := SR.get hr15 h35
          obtain rfl := api_Event_open g37
          replace hm := bind_some hm
          obtain ⟨r39, h40, hm⟩ := hm
          refine rdS 16 hS wide fun w hS => ?_
          refine d1 (i := 0) rfl (by kernel_rfl) (by kernel_rfl) (St.ld hS) hF rfl (fun _ _ _ h => h) (fun w hl => (e_ld hF Tryd.isAgg68 rfl (PH.le.cell (fun b o hx => (Lds.le hl) b o (hxHB1.sub b o hx)) (ph_cell hb9 rfl)))) fun a hF => ?_
          refine d1 (i := 1) rfl (by kernel_rfl) (by kernel_rfl) (St.ld hS) hF rfl (fun _ _ _ h => h) (fun w hl => (e_move hF rfl)) fun a hF => ?_
          refine d1 (i := 2) rfl (by kernel_rfl) (by kernel_rfl) (St.ld hS) hF rfl (fun _ _ _ h => h) (fun w hl => (e_lookM (ev := Value.bool) (dv := false) (m := y3) (k := vB2) hF key3 Tryd.runUnderlying68 Tryd.zeroValue4 ((fun b o hx => (Lds.le hl) b o (hxHB1.sub b o hx)) _ _ hf8) rfl rfl hm7)) fun a hF => ?_
          refine d1 (i := 3) rfl (by kernel_rfl) (by kernel_rfl) (St.ld hS) hF rfl (fun _ _ _ h => h) (fun w hl => (e_as (e_move hF rfl) (congrArg Value.bool hb28))) fun a hF => ?_
          refine d1g (i := 4) rfl (by kernel_rfl) (by kernel_rfl) (St.ld hS) hF rfl rfl rfl (fun _ _ _ h => h) (fun w hl => (e_ld hF Tryd.isAgg39 rfl (PH.le.cell (fun b o hx => (Lds.le hl) b o (hxHB1.sub b o hx)) (ph_cell hb16 rfl)))) fun a hF => ?_
          refine d1g (i := 5) rfl (by kernel_rfl) (by kernel_rfl) (St.ld hS) hF rfl rfl rfl (fun _ _ _ h => h) (fun w hl => (e_move hF rfl)) fun a hF => ?_
          refine d1g (i := 6) rfl (by kernel_rfl) (by kernel_rfl) (St.ld hS) hF rfl rfl rfl (fun _ _ _ h => h) (fun w hl => (e_iaI hF Tryd.runUnderlying39 Tryd.sizeOf23 rfl rfl h30 (SR.oaI hr15 (by decide) h30))) fun a hF => ?_
          refine d1g (i := 7) rfl (by kernel_rfl) (by kernel_rfl) (St.ld hS) hF rfl rfl rfl (fun _ _ _ h => h) (fun w hl => (e_ldA hF Tryd.isAgg23 Tryd.sizeOf23 rfl rfl (fun j v hj => PH.le.cell (fun b o hx => (Lds.le hl) b o (hxHB1.sub b o hx)) (hl33 j v hj)))) fun a hF => ?_
          refine d1g (i := 8) rfl (by kernel_rfl) (by kernel_rfl) (St.ld hS) hF rfl rfl rfl (fun _ _ _ h => h) (fun w hl => (e_ld hF Tryd.isAgg39 rfl (PH.le.cell (fun b o hx => (Lds.le hl) b o (hxHB1.sub b o hx)) (ph_cell hb16 rfl)))) fun a hF => ?_
          refine d1g (i := 9) rfl (by kernel_rfl) (by kernel_rfl) (St.ld hS) hF rfl rfl rfl (fun _ _ _ h => h) (fun w hl => (e_move hF rfl)) fun a hF => ?_
          refine d1g (i := 10) rfl (by kernel_rfl) (by kernel_rfl) (St.ld hS) hF rfl rfl rfl (fun _ _ _ h => h) (fun w hl => (e_iaI hF Tryd.runUnderlying39 Tryd.sizeOf23 rfl rfl h35 (SR.oaI hr15 (by decide) h35))) fun a hF => ?_
          refine d1g (i := 11) rfl (by kernel_rfl) (by kernel_rfl) (St.ld hS) hF rfl rfl rfl (fun _ _ _ h => h) (fun w hl => (e_ldA hF Tryd.isAgg23 Tryd.sizeOf23 rfl rfl (fun j v hj => PH.le.cell (fun b o hx => (Lds.le hl) b o (hxHB1.sub b o hx)) (hl38 j v hj)))) fun a hF => ?_
          refine d1g (i := 12) rfl (by kernel_rfl) (by kernel_rfl) (St.ld hS) hF rfl rfl rfl (fun _ _ _ h => h) (fun w hl => (e_ld hF Tryd.isAgg25 rfl (PH.le.cell (fun b o hx => (Lds.le hl) b o (hxHB1.sub b o hx)) (ph_cell hb23 rfl)))) fun a hF => ?_
          refine d1g (i := 13) rfl (by kernel_rfl) (by kernel_rfl) (St.ld hS) hF rfl rfl rfl (fun _ _ _ h => h) (fun w hl => (e_ld hF Tryd.isAgg3 rfl (PH.le.cell (fun b o hx => (Lds.le hl) b o (hxHB1.sub b o hx)) (ph_cell hb26 rfl)))) fun a hF => ?_
          refine da1 (i := 14) (by kernel_rfl) ?_
          refine di (i := 14) rfl <| gy hF rfl rfl <| c1 hF rfl Tryd.call16 (event_Depend_c (hp_le _) hc21 (St.srH hS (hr22.mono hxHB1.sub)) h40) ⟨rfl, rfl, rfl, rfl, trivial⟩ (fun v w a hR hF => ?_)
          obtain ⟨rfl, hk⟩ := hR
          replace hS := hS.pass hk
          clear hk
          refine ⟨fun _ => (St.ld hS), ?_⟩
          refine d1 (i := 15) rfl (by kernel_rfl) (by kernel_rfl) (St.ld hS) hF rfl (fun _ _ _ h => h) (fun w hl => (e_pickT hF rfl rfl)) fun a hF => ?_
          refine de (by kernel_rfl) <| ?_
          refine tn <| ?_
          exact ⟨r39, hm, hF.has ⟨rfl, rfl, rfl, rfl, rfl, rfl, rfl, rfl, trivial⟩, hS⟩
        ·
          replace hm := ite_f hm hb28
          refine rxS 16 hS wide (by kernel_rfl) fun w hS => ?_
          refine x1 (St.ld hS) hF rfl rfl (fun _ _ _ h => h) (fun w hl => (e_ld hF Tryd.isAgg68 rfl (PH.le.cell (fun b o hx => (Lds.le hl) b o (hxHB1.sub b o hx)) (ph_cell hb9 rfl)))) fun a hF => ?_
          refine x1 (St.ld hS) hF rfl rfl (fun _ _ _ h => h) (fun w hl => (e_move hF rfl)) fun a hF => ?_
          refine x1 (St.ld hS) hF rfl rfl (fun _ _ _ h => h) (fun w hl => (e_lookM (ev := Value.bool) (dv := false) (m := y3) (k := vB2) hF key3 Tryd.runUnderlying68 Tryd.zeroValue4 ((fun b o hx => (Lds.le hl) b o (hxHB1.sub b o hx)) _ _ hf8) rfl rfl hm7)) fun a hF => ?_
          refine x1 (St.ld hS) hF rfl rfl (fun _ _ _ h => h) (fun w hl => (e_as (e_move hF rfl) (congrArg Value.bool hb28))) fun a hF => ?_
          refine x1n (St.ld hS) hF rfl rfl rfl rfl rfl (fun _ _ _ h => h) fun a hF => ?_
          refine x1n (St.ld hS) hF rfl rfl rfl rfl rfl (fun _ _ _ h => h) fun a hF => ?_
          refine x1n (St.ld hS) hF rfl rfl rfl rfl rfl (fun _ _ _ h => h) fun a hF => ?_
          refine x1n (St.ld hS) hF rfl rfl rfl rfl rfl (fun _ _ _ h => h) fun a hF => ?_
          refine x1n (St.ld hS) hF rfl rfl rfl rfl rfl (fun _ _ _ h => h) fun a hF => ?_
          refine x1n (St.ld hS) hF rfl rfl rfl rfl rfl (fun _ _ _ h => h) fun a hF => ?_
          refine x1n (St.ld hS) hF rfl rfl rfl rfl rfl (fun _ _ _ h => h) fun a hF => ?_
          refine x1n (St.ld hS) hF rfl rfl rfl rfl rfl (fun _ _ _ h => h) fun a hF => ?_
          refine x1n (St.ld hS) hF rfl rfl rfl rfl rfl (fun _ _ _ h => h) fun a hF => ?_
          refine x1n (St.ld hS) hF rfl rfl rfl rfl rfl (fun _ _ _ h => h) fun a hF => ?_
          refine x1n (St.ld hS) hF rfl rfl rfl rfl rfl (fun _ _ _ h => h) fun a hF => ?_
          refine x1 (St.ld hS) hF rfl rfl (fun _ _ _ h => h) (fun w hl => (e_pickF hF rfl rfl)) fun a hF => ?_
          refine xe <| ?_
          refine tn <| ?_
          exact ⟨false, hm, hF.has ⟨rfl, rfl, rfl, rfl, rfl, rfl, rfl, rfl, trivial⟩, hS⟩
      clear hm hF hS
      rintro a w ⟨vC1, hm, hF, hS⟩
      unfold trace_Form_1_j3 at hm
      rcases bdich vC1 with hb41 | hb41
      ·
        replace hm := ite_t hm hb41
        refine ctv hF rfl hb41 <| th <| ?_
        refine rg <| ?_
        refine ls <| q1 hF rfl (e_asg hF rfl) fun a hF => ?_
        refine re <| ?_
        refine tn <| ?_
        refine wp_ret <| br <| tr <| tr <| br <| tr <| ?_
        obtain rfl := Option.some.inj hm
        exact r1 hF Tryd.results52 rfl ⟨rfl, hS.keep⟩
      ·
        replace hm := ite_f hm hb41
        refine cfv hF rfl hb41 <| wp_skip <| ?_
        refine bn <| tn <| ?_
        refine rg <| ?_
        refine ls <| q1 hF rfl (e_add hF rfl rfl) fun a hF => ?_
        refine ls <| q1 hF rfl (e_move hF rfl) fun a hF => ?_
        refine re <| ?_
        refine tn <| ?_
        exact ⟨(nn2, (IntKind.i64.wrap (vB2 + 1))), ⟨HB1, hm, hxHB1, hF.has ⟨rfl, rfl, rfl, rfl, rfl, rfl, rfl, trivial⟩, hS⟩, Nat.lt_succ_self _⟩
    ·
      replace hm := itp_f hm hb27
      refine tn <| th <| cfv hF rfl hb27 <| ?_
      refine wp_exit <| tx <| tx <| bx <| ?_
      refine tn <| ?_
      exact ⟨HB1, hm, hxHB1, hF.has trivial, hS⟩
  clear hm hF hS
  rintro a w ⟨HA1, hm, hxHA1, hF, hS⟩
  unfold trace_Form_1_j1 at hm
  refine th <| ?_
  refine rg <| ?_
  refine ls <| q1 hF rfl (e_asg hF rfl) fun a hF => ?_
  refine re <| ?_
  refine tn <| ?_
  refine wp_ret <| ?_
  obtain rfl := Option.some.inj hm
  exact r1 hF Tryd.results52 rfl ⟨rfl, hS.keep⟩

set_option maxRecDepth 100000 in
theorem trace_Form_c {N : Nat} {w0 : World} {H : PH} (hH : H.le w0) {oa2 : Option Addr} {cap3 : Nat} {p1 : (List api_Event)} (hc4 : p1.length ≤ cap3) (hr5 : SR H oa2 p1) {oa7 : Option Addr} {cap8 : Nat} {p6 : (List Int)} (hc9 : p6.length ≤ cap8) (hr10 : SR H oa7 p6) {p11 : Int} {r : (List api_Event)} (hm : trace_Form N p1 p6 p11 = some r) : Tot Tryd.prog 29 #[.slice oa2 p1.length cap3, .slice oa7 p6.length cap8, .int .i64 p11] w0 (fun v w' => ∃ (oa0 : Option Addr) (cap0 : Nat) (vs0 : List Value), v = .slice oa0 r.length cap0 ∧ (∀ h, Rows h vs0 r) ∧ Fresh w0 (sla 23 5 oa0 r.length cap0 vs0) w') := by
  unfold trace_Form at hm
  refine fn0 (args := [.slice oa2 p1.length cap3, .slice oa7 p6.length cap8, .int .i64 p11]) (F := [(0, .slice oa2 p1.length cap3), (1, .slice oa7 p6.length cap8), (2, .int .i64 p11)]) Tryd.func29 rfl Tryd.ntmps29 rfl rfl fun a hF => ?_
  have hS : St w0 Nil [H] [] w0 := start1 hH
  refine th <| ?_
  refine rg <| ?_
  refine ls <| a_box (cs := [.slice oa2 p1.length cap3].toArray) hF rfl hS rfl rfl fun b12 w a hS hF => ?_
  refine ls <| a_box (cs := [.slice oa7 p6.length cap8].toArray) hF rfl hS rfl rfl fun b13 w a hS hF => ?_
  refine ls <| a_box (cs := [.int .i64 p11].toArray) hF rfl hS rfl rfl fun b14 w a hS hF => ?_
  refine ls <| q1 hF rfl (e_asg hF rfl) fun a hF => ?_
  refine re <| ?_
  refine tn <| th <| th <| ?_
  replace hm := bind_some hm
  obtain ⟨r15, h16, hm⟩ := hm
  refine rg <| ?_
  refine ls <| q1 hF rfl (e_ld hF Tryd.isAgg39 rfl ((St.ld hS).cellB (.tail _ (.tail _ (.head _))) rfl)) fun a hF => ?_
  refine ls <| c1 hF rfl Tryd.call49 (clock_Threads_c (hp_le _) hc4 (St.srH hS hr5) h16) ⟨rfl, trivial⟩ (fun v w a hR hF => ?_)
  obtain ⟨rfl, hk⟩ := hR
  replace hS := hS.pass hk
  clear hk
  refine ls <| q1 hF rfl (e_eql hF rfl rfl) fun a hF => ?_
  refine re <| ?_
  rcases bdich (decide (r15 = 0)) with hb17 | hb17
  ·
    replace hm := itp_t hm hb17
    refine tn <| ctv hF rfl hb17 <| th <| ?_
    refine rg <| ?_
    refine ls <| q1 hF rfl (e_asg hF rfl) fun a hF => ?_
    refine re <| ?_
    refine tn <| ?_
    refine wp_ret <| tr <| ?_
    replace hS := St.nilS hS 23 5
    obtain rfl := Option.some.inj hm
    exact r1 hF Tryd.results29 rfl ⟨_, _, _, rfl, (fun _ => .nil), hS.endFresh (.head _)⟩
  ·
    replace hm := itp_f hm hb17
    refine tn <| cfv hF rfl hb17 <| wp_skip <| ?_
    refine tn <| th <| ?_
    refine rg <| ?_
    refine ls <| a_map hF rfl hS fun m18 w a hS hF => ?_
    replace hS : St w0 Nil [H] (imap kI m18 [] 0 :: _) w := hS
    have hm19 : MRel (κ := Int) (β := Bool) Value.bool [] [] := MRel.nil _
    refine ls <| a_alloc (cs := [.map none].toArray) hF rfl hS Tryd.zeroValue68 rfl fun b20 w a hS hF => ?_
    refine ls <| s_blk hF hS Tryd.sizeOf68 rfl rfl rfl rfl .head .zero fun w hS => ?_
    refine re <| ?_
    refine tn <| th <| th <| ?_
    refine rg <| ?_
    refine ls <| q1 hF rfl (e_ld hF Tryd.isAgg39 rfl ((St.ld hS).cellB (.tail _ (.tail _ (.tail _ (.tail _ (.head _))))) rfl)) fun a hF => ?_
    refine ls <| q1 hF rfl (e_lenL (α := api_Event) (xs := p1) hF Tryd.runUnderlying39 rfl) fun a hF => ?_
    refine ls <| q1 hF rfl (e_move hF rfl) fun a hF => ?_
    refine re <| ?_
    refine tn <| midK (fun a w => ∃ (vA10 : (List (Int × Bool))) (HA1 : PH) (oaA2 : Option Addr) (capA3 : Nat) (oaA6 : Option Addr) (capA7 : Nat) (lA11 : List (Int × Value × Nat)) (cA12 : Nat), (trace_Form_j1 N p1 p6 p11) vA10 = some r ∧ Ext w0 H HA1 ∧ Fr 72 [(3, .pointer (some ⟨b12, 0, none⟩)), (4, .pointer (some ⟨b13, 0, none⟩)), (5, .pointer (some ⟨b14, 0, none⟩)), (7, .pointer (some ⟨b20, 0, none⟩))] a ∧ St w0 Nil [HA1] [blk b12 (.cells [.slice oaA2 p1.length capA3].toArray 39 (0, 0)), blk b13 (.cells [.slice oaA6 p6.length capA7].toArray 25 (0, 0)), blk b14 (.cells [.int .i64 p11].toArray 3 (0, 0)), imap kI m18 lA11 cA12, blk b20 (.cells [.map (some m18)].toArray 68 (0, 0))] w ∧ p1.length ≤ capA3 ∧ SR HA1 oaA2 p1 ∧ p6.length ≤ capA7 ∧ SR HA1 oaA6 p6 ∧ MRel Value.bool lA11 vA10) ?_ ?_
    ·
      replace hS := hS.pickL (.cons (.tail (.tail (.tail (.tail .head)))) (.cons (.tail (.tail (.tail .head))) (.cons (.tail (.tail .head)) (.cons (.tail .head) (.cons .head .nil)))))
      refine wp_block <| lp (α := Nat × (List (Int × Bool)) × Int) (fun (gh : Nat × (List (Int × Bool)) × Int) a w => match gh with | (nn2, vB10, vB14) => ∃ (HB1 : PH) (oaB2 : Option Addr) (capB3 : Nat) (oaB6 : Option Addr) (capB7 : Nat) (lB11 : List (Int × Value × Nat)) (cB12 : Nat), (trace_Form_l2 N (trace_Form_j1 N p1 p6 p11) p1) nn2 vB10 vB14 = some r ∧ Ext w0 H HB1 ∧ Fr 72 [(3, .pointer (some ⟨b12, 0, none⟩)), (4, .pointer (some ⟨b13, 0, none⟩)), (5, .pointer (some ⟨b14, 0, none⟩)), (7, .pointer (some ⟨b20, 0, none⟩)), (18, .int .i64 (p1.length : Int)), (19, .int .i64 vB14)] a ∧ St w0 Nil [HB1] [blk b12 (.cells [.slice oaB2 p1.length capB3].toArray 39 (0, 0)), blk b13 (.cells [.slice oaB6 p6.length capB7].toArray 25 (0, 0)), blk b14 (.cells [.int .i64 p11].toArray 3 (0, 0)), imap kI m18 lB11 cB12, blk b20 (.cells [.map (some m18)].toArray 68 (0, 0))] w ∧ p1.length ≤ capB3 ∧ SR HB1 oaB2 p1 ∧ p6.length ≤ capB7 ∧ SR HB1 oaB6 p6 ∧ MRel Value.bool lB11 vB10) (fun gh => gh.1) (N, [], 0) ⟨H, oa2, cap3, oa7, cap8, [], 0, hm, (Ext.refl _ _), hF.has ⟨rfl, rfl, rfl, rfl, rfl, rfl, trivial⟩, hS, hc4, hr5, hc9, hr10, hm19⟩ ?_
      clear hm hF hS
      rintro ⟨nn2, vB10, vB14⟩ a w ⟨HB1, oaB2, capB3, oaB6, capB7, lB11, cB12, hm, hxHB1, hF, hS, hcB4, hrB5, hcB8, hrB9, hmB13⟩
      obtain _ | nn2 := nn2
      · simp [trace_Form_l2] at hm
      rw [trace_Form_l2] at hm
      refine th <| ?_
      refine rg <| ?_
      refine ls <| q1 hF rfl (e_lss hF rfl rfl) fun a hF => ?_
      refine re <| ?_
      rcases bdich (decide (vB14 < (p1.length : Int))) with hb21 | hb21
      ·
        replace hm := itp_t hm hb21
        refine tn <| th <| ctv hF rfl hb21 <| wp_skip <| ?_
        refine tn <| th <| wp_block <| th <| ?_
        refine rg <| ?_
        refine ls <| q1 hF rfl (e_move hF rfl) fun a hF => ?_
        refine ls <| q1 hF rfl (e_asg hF rfl) fun a hF => ?_
        refine re <| ?_
        refine tn <| ?_
        refine rg <| ?_
        refine ls <| q1 hF rfl (e_ld hF Tryd.isAgg68 rfl ((St.ld hS).cellB (.tail _ (.tail _ (.tail _ (.tail _ (.head _))))) rfl)) fun a hF => ?_
        refine ls <| q1 hF rfl (e_move hF rfl) fun a hF => ?_
        refine ls <| m_put (ev := Value.bool) (m := vB10) (k := vB14) (v := true) hF hS key3 Tryd.runUnderlying68 rfl rfl rfl (.tail _ (.tail _ (.tail _ (.head _)))) hmB13 fun l22 c23 w hm24 hU => ?_
        replace hS := hU _ (.tail (.tail (.tail .head)))
        clear hU
        refine re <| ?_
        refine bn <| tn <| ?_
        refine rg <| ?_
        refine ls <| q1 hF rfl (e_add hF rfl rfl) fun a hF => ?_
        refine ls <| q1 hF rfl (e_move hF rfl) fun a hF => ?_
        refine re <| ?_
        refine tn <| ?_
        exact ⟨(nn2, (pput vB14 true vB10), (IntKind.i64.wrap (vB14 + 1))), ⟨HB1, oaB2, capB3, oaB6, capB7, l22, c23, hm, hxHB1, hF.has ⟨rfl, rfl, rfl, rfl, rfl, rfl, trivial⟩, hS, hcB4, hrB5, hcB8, hrB9, hm24⟩, Nat.lt_succ_self _⟩
      ·
        replace hm := itp_f hm hb21
        refine tn <| th <| cfv hF rfl hb21 <| ?_
        refine wp_exit <| tx <| tx <| bx <| ?_
        refine tn <| ?_
        exact ⟨vB10, HB1, oaB2, capB3, oaB6, capB7, lB11, cB12, hm, hxHB1, hF.has ⟨rfl, rfl, rfl, rfl, trivial⟩, hS, hcB4, hrB5, hcB8, hrB9, hmB13⟩
    clear hm hF hS
    rintro a w ⟨vA10, HA1, oaA2, capA3, oaA6, capA7, lA11, cA12, hm, hxHA1, hF, hS, hcA4, hrA5, hcA8, hrA9, hmA13⟩
    unfold trace_Form_j1 at hm
    refine th <| ?_
    refine rg <| ?_
    refine ls <| q1 hF rfl (e_mkf (vs := [.pointer (some ⟨b20, 0, none⟩), .pointer (some ⟨b12, 0, none⟩), .pointer (some ⟨b13, 0, none⟩), .pointer (some ⟨b14, 0, none⟩)]) hF ⟨rfl, rfl, rfl, rfl, trivial⟩) fun a hF => ?_
    refine ls <| q1 hF rfl (e_asg hF rfl) fun a hF => ?_
    refine re <| ?_
    refine tn <| th <| ?_
    refine rg <| ?_
    refine ls <| q1 hF rfl (e_asg hF rfl) fun a hF => ?_
    refine re <| ?_
    refine tn <| th <| midK (fun a w => ∃ (vA14 : (List api_Event)) (oaA15 : Option Addr) (capA16 : Nat) (vsA17 : List Value), trace_Form_j3 vA14 = some r ∧ Fr 72 [(10, .slice oaA15 vA14.length capA16)] a ∧ St w0 Nil [HA1] [sla 23 5 oaA15 vA14.length capA16 vsA17] w ∧ Rows HA1 vsA17 vA14) ?_ ?_
    ·
      replace hS := St.nilS hS 23 5
      replace hS := hS.pickL (.cons (.tail .head) (.cons (.tail (.tail (.tail .head))) (.cons (.tail (.tail (.tail .head))) (.cons (.tail .head) (.cons (.tail .head) (.cons .head .nil))))))
      refine wp_block <| lp (α := Nat × (List (Int × Bool)) × (List api_Event)) (fun (gh : Nat × (List (Int × Bool)) × (List api_Event)) a w => match gh with | (nn4, vB15, vB19) => ∃ (lB16 : List (Int × Value × Nat)) (cB17 : Nat) (oaB20 : Option Addr) (capB21 : Nat) (vsB22 : List Value), (trace_Form_l4 N trace_Form_j3 p1 p6 p11) nn4 vB15 vB19 = some r ∧ Fr 72 [(3, .pointer (some ⟨b12, 0, none⟩)), (7, .pointer (some ⟨b20, 0, none⟩)), (9, .func (.func 52) #[] #[.pointer (some ⟨b20, 0, none⟩), .pointer (some ⟨b12, 0, none⟩), .pointer (some ⟨b13, 0, none⟩), .pointer (some ⟨b14, 0, none⟩)]), (10, .slice oaB20 vB19.length capB21)] a ∧ St w0 Nil [HA1] [blk b12 (.cells [.slice oaA2 p1.length capA3].toArray 39 (0, 0)), imap kI m18 lB16 cB17, blk b20 (.cells [.map (some m18)].toArray 68 (0, 0)), blk b13 (.cells [.slice oaA6 p6.length capA7].toArray 25 (0, 0)), blk b14 (.cells [.int .i64 p11].toArray 3 (0, 0)), sla 23 5 oaB20 vB19.length capB21 vsB22] w ∧ MRel Value.bool lB16 vB15 ∧ Rows HA1 vsB22 vB19) (fun gh => gh.1) (N, vA10, []) ⟨lA11, cA12, none, 0, [], hm, hF.has ⟨rfl, rfl, rfl, rfl, trivial⟩, hS, hmA13, .nil⟩ ?_
      clear hm hF hS
      rintro ⟨nn4, vB15, vB19⟩ a w ⟨lB16, cB17, oaB20, capB21, vsB22, hm, hF, hS, hmB18, hvB23⟩
      obtain _ | nn4 := nn4
      · simp [trace_Form_l4] at hm
      rw [trace_Form_l4] at hm
      refine th <| th <| ?_
      refine rg <| ?_
      refine ls <| q1 hF rfl (e_ld hF Tryd.isAgg68 rfl ((St.ld hS).cellB (.tail _ (.tail _ (.head _))) rfl)) fun a hF => ?_
      refine ls <| q1 hF rfl (e_lenM (kv := kI) (ev := Value.bool) (m := vB15) hF Tryd.runUnderlying68 (Lds.mapO (St.ld hS) (.tail _ (.head _))) rfl hmB18) fun a hF => ?_
      refine ls <| q1 hF rfl (e_gtr hF rfl rfl) fun a hF => ?_
      refine re <| ?_
      rcases bdich (decide (0 < (vB15.length : Int))) with hb25 | hb25
      ·
        replace hm := itp_t hm hb25
        refine tn <| ctv hF rfl hb25 <| wp_skip <| ?_
        refine tn <| wp_block <| th <| ?_
        refine rg <| ?_
        refine ls <| q1 hF rfl (e_asg hF rfl) fun a hF => ?_
        refine re <| ?_
        refine tn <| th <| th <| ?_
        refine rg <| ?_
        refine ls <| q1 hF rfl (e_ld hF Tryd.isAgg39 rfl ((St.ld hS).cellB (.head _) rfl)) fun a hF => ?_
        refine ls <| q1 hF rfl (e_lenL (α := api_Event) (xs := p1) hF Tryd.runUnderlying39 rfl) fun a hF => ?_
        refine ls <| q1 hF rfl (e_move hF rfl) fun a hF => ?_
        refine re <| ?_
        refine tn <| midK (fun a w => ∃ (vC1 : Int), (trace_Form_j5 (trace_Form_l4 N trace_Form_j3 p1 p6 p11 nn4) p1 vB15 vB19) vC1 = some r ∧ Fr 72 [(3, .pointer (some ⟨b12, 0, none⟩)), (7, .pointer (some ⟨b20, 0, none⟩)), (9, .func (.func 52) #[] #[.pointer (some ⟨b20, 0, none⟩), .pointer (some ⟨b12, 0, none⟩), .pointer (some ⟨b13, 0, none⟩), .pointer (some ⟨b14, 0, none⟩)]), (10, .slice oaB20 vB19.length capB21), (11, .int .i64 vC1)] a ∧ St w0 Nil [HA1] [blk b12 (.cells [.slice oaA2 p1.length capA3].toArray 39 (0, 0)), imap kI m18 lB16 cB17, blk b20 (.cells [.map (some m18)].toArray 68 (0, 0)), blk b13 (.cells [.slice oaA6 p6.length capA7].toArray 25 (0, 0)), blk b14 (.cells [.int .i64 p11].toArray 3 (0, 0)), sla 23 5 oaB20 vB19.length capB21 vsB22] w) ?_ ?_
        ·
          refine wp_block <| lp (α := Nat × Int × Int) (fun (gh : Nat × Int × Int) a w => match gh with | (nn6, vD1, vD2) => (trace_Form_l6 N (trace_Form_j5 (trace_Form_l4 N trace_Form_j3 p1 p6 p11 nn4) p1 vB15 vB19) p1 p6 p11 vB15) nn6 vD1 vD2 = some r ∧ Fr 72 [(3, .pointer (some ⟨b12, 0, none⟩)), (7, .pointer (some ⟨b20, 0, none⟩)), (9, .func (.func 52) #[] #[.pointer (some ⟨b20, 0, none⟩), .pointer (some ⟨b12, 0, none⟩), .pointer (some ⟨b13, 0, none⟩), .pointer (some ⟨b14, 0, none⟩)]), (10, .slice oaB20 vB19.length capB21), (11, .int .i64 vD1), (30, .int .i64 (p1.length : Int)), (31, .int .i64 vD2)] a ∧ St w0 Nil [HA1] [blk b12 (.cells [.slice oaA2 p1.length capA3].toArray 39 (0, 0)), imap kI m18 lB16 cB17, blk b20 (.cells [.map (some m18)].toArray 68 (0, 0)), blk b13 (.cells [.slice oaA6 p6.length capA7].toArray 25 (0, 0)), blk b14 (.cells [.int .i64 p11].toArray 3 (0, 0)), sla 23 5 oaB20 vB19.length capB21 vsB22] w) (fun gh => gh.1) (N, (-1), 0) ⟨hm, hF.has ⟨rfl, rfl, rfl, rfl, rfl, rfl, rfl, trivial⟩, hS⟩ ?_
          clear hm hF hS
          rintro ⟨nn6, vD1, vD2⟩ a w ⟨hm, hF, hS⟩
          obtain _ | nn6 := nn6
          · simp [trace_Form_l6] at hm
          rw [trace_Form_l6] at hm
          refine th <| ?_
          refine rg <| ?_
          refine ls <| q1 hF rfl (e_lss hF rfl rfl) fun a hF => ?_
          refine re <| ?_
          rcases bdich (decide (vD2 < (p1.length : Int))) with hb26 | hb26
          ·
            replace hm := itp_t hm hb26
            refine tn <| th <| ctv hF rfl hb26 <| wp_skip <| ?_
            refine tn <| th <| midK (fun a w => ∃ (vE1 : Int), (trace_Form_j7 (trace_Form_l6 N (trace_Form_j5 (trace_Form_l4 N trace_Form_j3 p1 p6 p11 nn4) p1 vB15 vB19) p1 p6 p11 vB15 nn6) vD2) vE1 = some r ∧ Fr 72 [(3, .pointer (some ⟨b12, 0, none⟩)), (7, .pointer (some ⟨b20, 0, none⟩)), (9, .func (.func 52) #[] #[.pointer (some ⟨b20, 0, none⟩), .pointer (some ⟨b12, 0, none⟩), .pointer (some ⟨b13, 0, none⟩), .pointer (some ⟨b14, 0, none⟩)]), (10, .slice oaB20 vB19.length capB21), (11, .int .i64 vE1), (30, .int .i64 (p1.length : Int)), (31, .int .i64 vD2)] a ∧ St w0 Nil [HA1] [blk b12 (.cells [.slice oaA2 p1.length capA3].toArray 39 (0, 0)), imap kI m18 lB16 cB17, blk b20 (.cells [.map (some m18)].toArray 68 (0, 0)), blk b13 (.cells [.slice oaA6 p6.length capA7].toArray 25 (0, 0)), blk b14 (.cells [.int .i64 p11].toArray 3 (0, 0)), sla 23 5 oaB20 vB19.length capB21 vsB22] w) ?_ ?_
            ·
              refine wp_block <| th <| ?_
              refine rg <| ?_
              refine ls <| q1 hF rfl (e_move hF rfl) fun a hF => ?_
              refine ls <| q1 hF rfl (e_asg hF rfl) fun a hF => ?_
              refine re <| ?_
              refine tn <| th <| midK (fun a w => ∃ (vF1 : Bool), (trace_Form_j8 (trace_Form_j7 (trace_Form_l6 N (trace_Form_j5 (trace_Form_l4 N trace_Form_j3 p1 p6 p11 nn4) p1 vB15 vB19) p1 p6 p11 vB15 nn6) vD2) vD1 vD2) vF1 = some r ∧ Fr 72 [(3, .pointer (some ⟨b12, 0, none⟩)), (7, .pointer (some ⟨b20, 0, none⟩)), (9, .func (.func 52) #[] #[.pointer (some ⟨b20, 0, none⟩), .pointer (some ⟨b12, 0, none⟩), .pointer (some ⟨b13, 0, none⟩), .pointer (some ⟨b14, 0, none⟩)]), (10, .slice oaB20 vB19.length capB21), (11, .int .i64 vD1), (12, .int .i64 vD2), (30, .int .i64 (p1.length : Int)), (31, .int .i64 vD2), (59, .bool vF1)] a ∧ St w0 Nil [HA1] [blk b12 (.cells [.slice oaA2 p1.length capA3].toArray 39 (0, 0)), imap kI m18 lB16 cB17, blk b20 (.cells [.map (some m18)].toArray 68 (0, 0)), blk b13 (.cells [.slice oaA6 p6.length capA7].toArray 25 (0, 0)), blk b14 (.cells [.int .i64 p11].toArray 3 (0, 0)), sla 23 5 oaB20 vB19.length capB21 vsB22] w) ?_ ?_
              ·
                rcases bdich ((plook vD2 vB15).getD false) with hb27 | hb27
                ·
                  replace hm := ite_t hm hb27
                  rcases bdich (decide (vD1 < 0)) with hb28 | hb28
                  ·
                    replace hm := itp_t hm hb28
                    replace hm := bind_some hm
                    obtain ⟨r29, h30, hm⟩ := hm
                    refine rdS 26 hS wide fun w hS => ?_
                    refine d1 (i := 0) rfl (by kernel_rfl) (by kernel_rfl) (St.ld hS) hF rfl (fun _ _ _ h => h) (fun w hl => (e_ld hF Tryd.isAgg68 rfl (hl.cellB (.tail _ (.tail _ (.head _))) rfl))) fun a hF => ?_
                    refine d1 (i := 1) rfl (by kernel_rfl) (by kernel_rfl) (St.ld hS) hF rfl (fun _ _ _ h => h) (fun w hl => (e_move hF rfl)) fun a hF => ?_
                    refine d1 (i := 2) rfl (by kernel_rfl) (by kernel_rfl) (St.ld hS) hF rfl (fun _ _ _ h => h) (fun w hl => (e_lookM (ev := Value.bool) (dv := false) (m := vB15) (k := vD2) hF key3 Tryd.runUnderlying68 Tryd.zeroValue4 (Lds.mapO hl (.tail _ (.head _))) rfl rfl hmB18)) fun a hF => ?_
                    refine d1 (i := 3) rfl (by kernel_rfl) (by kernel_rfl) (St.ld hS) hF rfl (fun _ _ _ h => h) (fun w hl => (e_as (e_move hF rfl) (congrArg Value.bool hb27))) fun a hF => ?_
                    refine d1g (i := 4) rfl (by kernel_rfl) (by kernel_rfl) (St.ld hS) hF rfl rfl rfl (fun _ _ _ h => h) (fun w hl => (e_move hF rfl)) fun a hF => ?_
                    refine d1g (i := 5) rfl (by kernel_rfl) (by kernel_rfl) (St.ld hS) hF rfl rfl rfl (fun _ _ _ h => h) (fun w hl => (e_lss hF rfl rfl)) fun a hF => ?_
                    refine d1g (i := 6) rfl (by kernel_rfl) (by kernel_rfl) (St.ld hS) hF rfl rfl rfl (fun _ _ _ h => h) (fun w hl => (e_as (e_move hF rfl) (congrArg Value.bool hb28))) fun a hF => ?_
                    refine d1n (i := 7) rfl (by kernel_rfl) (by kernel_rfl) (St.ld hS) hF rfl rfl rfl rfl (fun _ _ _ h => h) fun a hF => ?_
                    refine d1n (i := 8) rfl (by kernel_rfl) (by kernel_rfl) (St.ld hS) hF rfl rfl rfl rfl (fun _ _ _ h => h) fun a hF => ?_
                    refine d1n (i := 9) rfl (by kernel_rfl) (by kernel_rfl) (St.ld hS) hF rfl rfl rfl rfl (fun _ _ _ h => h) fun a hF => ?_
                    refine d1n (i := 10) rfl (by kernel_rfl) (by kernel_rfl) (St.ld hS) hF rfl rfl rfl rfl (fun _ _ _ h => h) fun a hF => ?_
                    refine d1n (i := 11) rfl (by kernel_rfl) (by kernel_rfl) (St.ld hS) hF rfl rfl rfl rfl (fun _ _ _ h => h) fun a hF => ?_
                    refine d1n (i := 12) rfl (by kernel_rfl) (by kernel_rfl) (St.ld hS) hF rfl rfl rfl rfl (fun _ _ _ h => h) fun a hF => ?_
                    refine d1n (i := 13) rfl (by kernel_rfl) (by kernel_rfl) (St.ld hS) hF rfl rfl rfl rfl (fun _ _ _ h => h) fun a hF => ?_
                    refine d1n (i := 14) rfl (by kernel_rfl) (by kernel_rfl) (St.ld hS) hF rfl rfl rfl rfl (fun _ _ _ h => h) fun a hF => ?_
                    refine d1n (i := 15) rfl (by kernel_rfl) (by kernel_rfl) (St.ld hS) hF rfl rfl rfl rfl (fun _ _ _ h => h) fun a hF => ?_
                    refine d1n (i := 16) rfl (by kernel_rfl) (by kernel_rfl) (St.ld hS) hF rfl rfl rfl rfl (fun _ _ _ h => h) fun a hF => ?_
                    refine d1n (i := 17) rfl (by kernel_rfl) (by kernel_rfl) (St.ld hS) hF rfl rfl rfl rfl (fun _ _ _ h => h) fun a hF => ?_
                    refine d1g (i := 18) rfl (by kernel_rfl) (by kernel_rfl) (St.ld hS) hF rfl rfl rfl (fun _ _ _ h => h) (fun w hl => (e_pickT hF rfl rfl)) fun a hF => ?_
                    refine d1 (i := 19) rfl (by kernel_rfl) (by kernel_rfl) (St.ld hS) hF rfl (fun _ _ _ h => h) (fun w hl => (e_pickT hF rfl rfl)) fun a hF => ?_
                    refine d1 (i := 20) rfl (by kernel_rfl) (by kernel_rfl) (St.ld hS) hF rfl (fun _ _ _ h => h) (fun w hl => (e_move hF rfl)) fun a hF => ?_
                    refine d1g (i := 21) rfl (by kernel_rfl) (by kernel_rfl) (St.ld hS) hF rfl rfl rfl (fun _ _ _ h => h) (fun w hl => (e_move hF rfl)) fun a hF => ?_
                    refine d1g (i := 22) rfl (by kernel_rfl) (by kernel_rfl) (St.ld hS) hF rfl rfl rfl (fun _ _ _ h => h) (fun w hl => (e_move hF rfl)) fun a hF => ?_
                    refine da1 (i := 23) (by kernel_rfl) ?_
                    refine di (i := 23) rfl <| gy hF rfl rfl <| k1 (vs := [.int .i64 vD2]) (caps := [.pointer (some ⟨b20, 0, none⟩), .pointer (some ⟨b12, 0, none⟩), .pointer (some ⟨b13, 0, none⟩), .pointer (some ⟨b14, 0, none⟩)]) hF rfl rfl Tryd.call52 (trace_Form_1_c (hp_le _) (St.mapO hS (.tail _ (.head _))) hmB18 (St.blkO hS (.tail _ (.tail _ (.head _)))) hcA4 (St.srH hS hrA5) (St.blkO hS (.head _)) hcA8 (St.srH hS hrA9) (St.blkO hS (.tail _ (.tail _ (.tail _ (.head _))))) (St.blkO hS (.tail _ (.tail _ (.tail _ (.tail _ (.head _)))))) h30) ⟨rfl, trivial⟩ rfl (fun v w a hR hF => ?_)
                    obtain ⟨rfl, hk⟩ := hR
                    replace hS := hS.pass hk
                    clear hk
                    refine ⟨fun _ => (St.ld hS), ?_⟩
                    refine d1g (i := 24) rfl (by kernel_rfl) (by kernel_rfl) (St.ld hS) hF rfl rfl rfl (fun _ _ _ h => h) (fun w hl => (e_not hF rfl)) fun a hF => ?_
                    refine d1 (i := 25) rfl (by kernel_rfl) (by kernel_rfl) (St.ld hS) hF rfl (fun _ _ _ h => h) (fun w hl => (e_pickT hF rfl rfl)) fun a hF => ?_
                    refine de (by kernel_rfl) <| ?_
                    refine tn <| ?_
                    exact ⟨(!r29), hm, hF.has ⟨rfl, rfl, rfl, rfl, rfl, rfl, rfl, rfl, rfl, trivial⟩, hS⟩
                  ·
                    replace hm := itp_f hm hb28
                    replace hm := bind_some hm
                    obtain ⟨x31, h32, hm⟩ := hm
                    obtain ⟨c33, g34, hl35⟩ := SR.get hrA5 h32
                    obtain rfl := api_Event_open g34
                    replace hm := bind_some hm
                    obtain ⟨x36, h37, hm⟩ := hm
                    obtain ⟨c38, g39, hl40⟩ := SR.get hrA5 h37
                    obtain rfl := api_Event_open g39
                    rcases bdich (decide (x31.T < x36.T)) with hb41 | hb41
                    ·
                      replace hm := itp_t hm hb41
                      replace hm := bind_some hm
                      obtain ⟨r42, h43, hm⟩ := hm
                      refine rdS 26 hS wide fun w hS => ?_
                      refine d1 (i := 0) rfl (by kernel_rfl) (by kernel_rfl) (St.ld hS) hF rfl (fun _ _ _ h => h) (fun w hl => (e_ld hF Tryd.isAgg68 rfl (hl.cellB (.tail _ (.tail _ (.head _))) rfl))) fun a hF => ?_
                      refine d1 (i := 1) rfl (by kernel_rfl) (by kernel_rfl) (St.ld hS) hF rfl (fun _ _ _ h => h) (fun w hl => (e_move hF rfl)) fun a hF => ?_
                      refine d1 (i := 2) rfl (by kernel_rfl) (by kernel_rfl) (St.ld hS) hF rfl (fun _ _ _ h => h) (fun w hl => (e_lookM (ev := Value.bool) (dv := false) (m := vB15) (k := vD2) hF key3 Tryd.runUnderlying68 Tryd.zeroValue4 (Lds.mapO hl (.tail _ (.head _))) rfl rfl hmB18)) fun a hF => ?_
                      refine d1 (i := 3) rfl (by kernel_rfl) (by kernel_rfl) (St.ld hS) hF rfl (fun _ _ _ h => h) (fun w hl => (e_as (e_move hF rfl) (congrArg Value.bool hb27))) fun a hF => ?_
                      refine d1g (i := 4) rfl (by kernel_rfl) (by kernel_rfl) (St.ld hS) hF rfl rfl rfl (fun _ _ _ h => h) (fun w hl => (e_move hF rfl)) fun a hF => ?_
                      refine d1g (i := 5) rfl (by kernel_rfl) (by kernel_rfl) (St.ld hS) hF rfl rfl rfl (fun _ _ _ h => h) (fun w hl => (e_lss hF rfl rfl)) fun a hF => ?_
                      refine d1g (i := 6) rfl (by kernel_rfl) (by kernel_rfl) (St.ld hS) hF rfl rfl rfl (fun _ _ _ h => h) (fun w hl => (e_as (e_move hF rfl) (congrArg Value.bool hb28))) fun a hF => ?_
                      refine d1g (i := 7) rfl (by kernel_rfl) (by kernel_rfl) (St.ld hS) hF rfl rfl rfl (fun _ _ _ h => h) (fun w hl => (e_ld hF Tryd.isAgg39 rfl (hl.cellB (.head _) rfl))) fun a hF => ?_
                      refine d1g (i := 8) rfl (by kernel_rfl) (by kernel_rfl) (St.ld hS) hF rfl rfl rfl (fun _ _ _ h => h) (fun w hl => (e_move hF rfl)) fun a hF => ?_
                      refine d1g (i := 9) rfl (by kernel_rfl) (by kernel_rfl) (St.ld hS) hF rfl rfl rfl (fun _ _ _ h => h) (fun w hl => (e_iaI hF Tryd.runUnderlying39 Tryd.sizeOf23 rfl rfl h32 (SR.oaI hrA5 (by decide) h32))) fun a hF => ?_
                      refine d1g (i := 10) rfl (by kernel_rfl) (by kernel_rfl) (St.ld hS) hF rfl rfl rfl (fun _ _ _ h => h) (fun w hl => (e_fa hF fa23_1 rfl)) fun a hF => ?_
                      refine d1g (i := 11) rfl (by kernel_rfl) (by kernel_rfl) (St.ld hS) hF rfl rfl rfl (fun _ _ _ h => h) (fun w hl => (e_ld hF Tryd.isAgg3 rfl (PH.le.cell (Lds.le hl) (hl35 1 _ rfl)))) fun a hF => ?_
                      refine d1g (i := 12) rfl (by kernel_rfl) (by kernel_rfl) (St.ld hS) hF rfl rfl rfl (fun _ _ _ h => h) (fun w hl => (e_ld hF Tryd.isAgg39 rfl (hl.cellB (.head _) rfl))) fun a hF => ?_
                      refine d1g (i := 13) rfl (by kernel_rfl) (by kernel_rfl) (St.ld hS) hF rfl rfl rfl (fun _ _ _ h => h) (fun w hl => (e_move hF rfl)) fun a hF => ?_
                      refine d1g (i := 14) rfl (by kernel_rfl) (by kernel_rfl) (St.ld hS) hF rfl rfl rfl (fun _ _ _ h => h) (fun w hl => (e_iaI hF Tryd.runUnderlying39 Tryd.sizeOf23 rfl rfl h37 (SR.oaI hrA5 (by decide) h37))) fun a hF => ?_
                      refine d1g (i := 15) rfl (by kernel_rfl) (by kernel_rfl) (St.ld hS) hF rfl rfl rfl (fun _ _ _ h => h) (fun w hl => (e_fa hF fa23_1 rfl)) fun a hF => ?_
                      refine d1g (i := 16) rfl (by kernel_rfl) (by kernel_rfl) (St.ld hS) hF rfl rfl rfl (fun _ _ _ h => h) (fun w hl => (e_ld hF Tryd.isAgg3 rfl (PH.le.cell (Lds.le hl) (hl40 1 _ rfl)))) fun a hF => ?_
                      refine d1g (i := 17) rfl (by kernel_rfl) (by kernel_rfl) (St.ld hS) hF rfl rfl rfl (fun _ _ _ h => h) (fun w hl => (e_lss hF rfl rfl)) fun a hF => ?_
                      refine d1g (i := 18) rfl (by kernel_rfl) (by kernel_rfl) (St.ld hS) hF rfl rfl rfl (fun _ _ _ h => h) (fun w hl => (e_pickF hF rfl rfl)) fun a hF => ?_
                      refine d1 (i := 19) rfl (by kernel_rfl) (by kernel_rfl) (St.ld hS) hF rfl (fun _ _ _ h => h) (fun w hl => (e_pickT hF rfl rfl)) fun a hF => ?_
                      refine d1 (i := 20) rfl (by kernel_rfl) (by kernel_rfl) (St.ld hS) hF rfl (fun _ _ _ h => h) (fun w hl => (e_as (e_move hF rfl) (congrArg Value.bool hb41))) fun a hF => ?_
                      refine d1g (i := 21) rfl (by kernel_rfl) (by kernel_rfl) (St.ld hS) hF rfl rfl rfl (fun _ _ _ h => h) (fun w hl => (e_move hF rfl)) fun a hF => ?_
                      refine d1g (i := 22) rfl (by kernel_rfl) (by kernel_rfl) (St.ld hS) hF rfl rfl rfl (fun _ _ _ h => h) (fun w hl => (e_move hF rfl)) fun a hF => ?_
                      refine da1 (i := 23) (by kernel_rfl) ?_
                      refine di (i := 23) rfl <| gy hF rfl rfl <| k1 (vs := [.int .i64 vD2]) (caps := [.pointer (some ⟨b20, 0, none⟩), .pointer (some ⟨b12, 0, none⟩), .pointer (some ⟨b13, 0, none⟩), .pointer (some ⟨b14, 0, none⟩)]) hF rfl rfl Tryd.call52 (trace_Form_1_c (hp_le _) (St.mapO hS (.tail _ (.head _))) hmB18 (St.blkO hS (.tail _ (.tail _ (.head _)))) hcA4 (St.srH hS hrA5) (St.blkO hS (.head _)) hcA8 (St.srH hS hrA9) (St.blkO hS (.tail _ (.tail _ (.tail _ (.head _))))) (St.blkO hS (.tail _ (.tail _ (.tail _ (.tail _ (.head _)))))) h43) ⟨rfl, trivial⟩ rfl (fun v w a hR hF => ?_)
                      obtain ⟨rfl, hk⟩ := hR
                      replace hS := hS.pass hk
                      clear hk
                      refine ⟨fun _ => (St.ld hS), ?_⟩
                      refine d1g (i := 24) rfl (by kernel_rfl) (by kernel_rfl) (St.ld hS) hF rfl rfl rfl (fun _ _ _ h => h) (fun w hl => (e_not hF rfl)) fun a hF => ?_
                      refine d1 (i := 25) rfl (by kernel_rfl) (by kernel_rfl) (St.ld hS) hF rfl (fun _ _ _ h => h) (fun w hl => (e_pickT hF rfl rfl)) fun a hF => ?_
                      refine de (by kernel_rfl) <| ?_
                      refine tn <| ?_
                      exact ⟨(!r42), hm, hF.has ⟨rfl, rfl, rfl, rfl, rfl, rfl, rfl, rfl, rfl, trivial⟩, hS⟩
                    ·
                      replace hm := itp_f hm hb41
                      refine rxS 26 hS wide (by kernel_rfl) fun w hS => ?_
                      refine x1 (St.ld hS) hF rfl rfl (fun _ _ _ h => h) (fun w hl => (e_ld hF Tryd.isAgg68 rfl (hl.cellB (.tail _ (.tail _ (.head _))) rfl))) fun a hF => ?_
                      refine x1 (St.ld hS) hF rfl rfl (fun _ _ _ h => h) (fun w hl => (e_move hF rfl)) fun a hF => ?_
                      refine x1 (St.ld hS) hF rfl rfl (fun _ _ _ h => h) (fun w hl => (e_lookM (ev := Value.bool) (dv := false) (m := vB15) (k := vD2) hF key3 Tryd.runUnderlying68 Tryd.zeroValue4 (Lds.mapO hl (.tail _ (.head _))) rfl rfl hmB18)) fun a hF => ?_
                      refine x1 (St.ld hS) hF rfl rfl (fun _ _ _ h => h) (fun w hl => (e_as (e_move hF rfl) (congrArg Value.bool hb27))) fun a hF => ?_
                      refine x1g (St.ld hS) hF rfl rfl rfl rfl (fun _ _ _ h => h) (fun w hl => (e_move hF rfl)) fun a hF => ?_
                      refine x1g (St.ld hS) hF rfl rfl rfl rfl (fun _ _ _ h => h) (fun w hl => (e_lss hF rfl rfl)) fun a hF => ?_
                      refine x1g (St.ld hS) hF rfl rfl rfl rfl (fun _ _ _ h => h) (fun w hl => (e_as (e_move hF rfl) (congrArg Value.bool hb28))) fun a hF => ?_
                      refine x1g (St.ld hS) hF rfl rfl rfl rfl (fun _ _ _ h => h) (fun w hl => (e_ld hF Tryd.isAgg39 rfl (hl.cellB (.head _) rfl))) fun a hF => ?_
                      refine x1g (St.ld hS) hF rfl rfl rfl rfl (fun _ _ _ h => h) (fun w hl => (e_move hF rfl)) fun a hF => ?_
                      refine x1g (St.ld hS) hF rfl rfl rfl rfl (fun _ _ _ h => h) (fun w hl => (e_iaI hF Tryd.runUnderlying39 Tryd.sizeOf23 rfl rfl h32 (SR.oaI hrA5 (by decide) h32))) fun a hF => ?_
                      refine x1g (St.ld hS) hF rfl rfl rfl rfl (fun _ _ _ h => h) (fun w hl => (e_fa hF fa23_1 rfl)) fun a hF => ?_
                      refine x1g (St.ld hS) hF rfl rfl rfl rfl (fun _ _ _ h => h) (fun w hl => (e_ld hF Tryd.isAgg3 rfl (PH.le.cell (Lds.le hl) (hl35 1 _ rfl)))) fun a hF => ?_
                      refine x1g (St.ld hS) hF rfl rfl rfl rfl (fun _ _ _ h => h) (fun w hl => (e_ld hF Tryd.isAgg39 rfl (hl.cellB (.head _) rfl))) fun a hF => ?_
                      refine x1g (St.ld hS) hF rfl rfl rfl rfl (fun _ _ _ h => h) (fun w hl => (e_move hF rfl)) fun a hF => ?_
                      refine x1g (St.ld hS) hF rfl rfl rfl rfl (fun _ _ _ h => h) (fun w hl => (e_iaI hF Tryd.runUnderlying39 Tryd.sizeOf23 rfl rfl h37 (SR.oaI hrA5 (by decide) h37))) fun a hF => ?_
                      refine x1g (St.ld hS) hF rfl rfl rfl rfl (fun _ _ _ h => h) (fun w hl => (e_fa hF fa23_1 rfl)) fun a hF => ?_
                      refine x1g (St.ld hS) hF rfl rfl rfl rfl (fun _ _ _ h => h) (fun w hl => (e_ld hF Tryd.isAgg3 rfl (PH.le.cell (Lds.le hl) (hl40 1 _ rfl)))) fun a hF => ?_
                      refine x1g (St.ld hS) hF rfl rfl rfl rfl (fun _ _ _ h => h) (fun w hl => (e_lss hF rfl rfl)) fun a hF => ?_
                      refine x1g (St.ld hS) hF rfl rfl rfl rfl (fun _ _ _ h => h) (fun w hl => (e_pickF hF rfl rfl)) fun a hF => ?_
                      refine x1 (St.ld hS) hF rfl rfl (fun _ _ _ h => h) (fun w hl => (e_pickT hF rfl rfl)) fun a hF => ?_
                      refine x1 (St.ld hS) hF rfl rfl (fun _ _ _ h => h) (fun w hl => (e_as (e_move hF rfl) (congrArg Value.bool hb41))) fun a hF => ?_
                      refine x1n (St.ld hS) hF rfl rfl rfl rfl rfl (fun _ _ _ h => h) fun a hF => ?_
                      refine x1n (St.ld hS) hF rfl rfl rfl rfl rfl (fun _ _ _ h => h) fun a hF => ?_
                      refine x1n (St.ld hS) hF rfl rfl rfl rfl rfl (fun _ _ _ h => h) fun a hF => ?_
                      refine x1n (St.ld hS) hF rfl rfl rfl rfl rfl (fun _ _ _ h => h) fun a hF => ?_
                      refine x1 (St.ld hS) hF rfl rfl (fun _ _ _ h => h) (fun w hl => (e_pickF hF rfl rfl)) fun a hF => ?_
                      refine xe <| ?_
                      refine tn <| ?_
                      exact ⟨false, hm, hF.has ⟨rfl, rfl, rfl, rfl, rfl, rfl, rfl, rfl, rfl, trivial⟩, hS⟩
                ·
                  replace hm := ite_f hm hb27
                  refine rxS 26 hS wide (by kernel_rfl) fun w hS => ?_
                  refine x1 (St.ld hS) hF rfl rfl (fun _ _ _ h => h) (fun w hl => (e_ld hF Tryd.isAgg68 rfl (hl.cellB (.tail _ (.tail _ (.head _))) rfl))) fun a hF => ?_
                  refine x1 (St.ld hS) hF rfl rfl (fun _ _ _ h => h) (fun w hl => (e_move hF rfl)) fun a hF => ?_
                  refine x1 (St.ld hS) hF rfl rfl (fun _ _ _ h => h) (fun w hl => (e_lookM (ev := Value.bool) (dv := false) (m := vB15) (k := vD2) hF key3 Tryd.runUnderlying68 Tryd.zeroValue4 (Lds.mapO hl (.tail _ (.head _))) rfl rfl hmB18)) fun a hF => ?_
                  refine x1 (St.ld hS) hF rfl rfl (fun _ _ _ h => h) (fun w hl => (e_as (e_move hF rfl) (congrArg Value.bool hb27))) fun a hF => ?_
                  refine x1n (St.ld hS) hF rfl rfl rfl rfl rfl (fun _ _ _ h => h) fun a hF => ?_
                  refine x1n (St.ld hS) hF rfl rfl rfl rfl rfl (fun _ _ _ h => h) fun a hF => ?_
                  refine x1n (St.ld hS) hF rfl rfl rfl rfl rfl (fun _ _ _ h => h) fun a hF => ?_
                  refine x1u (St.ld hS) hF rfl rfl rfl rfl (fun _ _ _ h => h) fun a hF => ?_
                  refine x1u (St.ld hS) hF rfl rfl rfl rfl (fun _ _ _ h => h) fun a hF => ?_
                  refine x1u (St.ld hS) hF rfl rfl rfl rfl (fun _ _ _ h => h) fun a hF => ?_
                  refine x1u (St.ld hS) hF rfl rfl rfl rfl (fun _ _ _ h => h) fun a hF => ?_
                  refine x1u (St.ld hS) hF rfl rfl rfl rfl (fun _ _ _ h => h) fun a hF => ?_
                  refine x1u (St.ld hS) hF rfl rfl rfl rfl (fun _ _ _ h => h) fun a hF => ?_
                  refine x1u (St.ld hS) hF rfl rfl rfl rfl (fun _ _ _ h => h) fun a hF => ?_
                  refine x1u (St.ld hS) hF rfl rfl rfl rfl (fun _ _ _ h => h) fun a hF => ?_
                  refine x1u (St.ld hS) hF rfl rfl rfl rfl (fun _ _ _ h => h) fun a hF => ?_
                  refine x1u (St.ld hS) hF rfl rfl rfl rfl (fun _ _ _ h => h) fun a hF => ?_
                  refine x1u (St.ld hS) hF rfl rfl rfl rfl (fun _ _ _ h => h) fun a hF => ?_
                  refine x1n (St.ld hS) hF rfl rfl rfl rfl rfl (fun _ _ _ h => h) fun a hF => ?_
                  refine x1 (St.ld hS) hF rfl rfl (fun _ _ _ h => h) (fun w hl => (e_pickF hF rfl rfl)) fun a hF => ?_
                  refine x1 (St.ld hS) hF rfl rfl (fun _ _ _ h => h) (fun w hl => (e_move hF rfl)) fun a hF => ?_
                  refine x1n (St.ld hS) hF rfl rfl rfl rfl rfl (fun _ _ _ h => h) fun a hF => ?_
                  refine x1n (St.ld hS) hF rfl rfl rfl rfl rfl (fun _ _ _ h => h) fun a hF => ?_
                  refine x1n (St.ld hS) hF rfl rfl rfl rfl rfl (fun _ _ _ h => h) fun a hF => ?_
                  refine x1n (St.ld hS) hF rfl rfl rfl rfl rfl (fun _ _ _ h => h) fun a hF => ?_
                  refine x1 (St.ld hS) hF rfl rfl (fun _ _ _ h => h) (fun w hl => (e_pickF hF rfl rfl)) fun a hF => ?_
                  refine xe <| ?_
                  refine tn <| ?_
                  exact ⟨false, hm, hF.has ⟨rfl, rfl, rfl, rfl, rfl, rfl, rfl, rfl, rfl, trivial⟩, hS⟩
              clear hm hF hS
              rintro a w ⟨vF1, hm, hF, hS⟩
              unfold trace_Form_j8 at hm
              rcases bdich vF1 with hb44 | hb44
              ·
                replace hm := ite_t hm hb44
                refine ctv hF rfl hb44 <| ?_
                refine rg <| ?_
                refine ls <| q1 hF rfl (e_move hF rfl) fun a hF => ?_
                refine ls <| q1 hF rfl (e_asg hF rfl) fun a hF => ?_
                refine re <| ?_
                refine bn <| tn <| ?_
                exact ⟨vD2, hm, hF.has ⟨rfl, rfl, rfl, rfl, rfl, rfl, rfl, trivial⟩, hS⟩
              ·
                replace hm := ite_f hm hb44
                refine cfv hF rfl hb44 <| wp_skip <| ?_
                refine bn <| tn <| ?_
                exact ⟨vD1, hm, hF.has ⟨rfl, rfl, rfl, rfl, rfl, rfl, rfl, trivial⟩, hS⟩
            clear hm hF hS
            rintro a w ⟨vE1, hm, hF, hS⟩
            unfold trace_Form_j7 at hm
            refine rg <| ?_
            refine ls <| q1 hF rfl (e_add hF rfl rfl) fun a hF => ?_
            refine ls <| q1 hF rfl (e_move hF rfl) fun a hF => ?_
            refine re <| ?_
            refine tn <| ?_
            exact ⟨(nn6, vE1, (IntKind.i64.wrap (vD2 + 1))), ⟨hm, hF.has ⟨rfl, rfl, rfl, rfl, rfl, rfl, rfl, trivial⟩, hS⟩, Nat.lt_succ_self _⟩
          ·
            replace hm := itp_f hm hb26
            refine tn <| th <| cfv hF rfl hb26 <| ?_
            refine wp_exit <| tx <| tx <| bx <| ?_
            refine tn <| ?_
            exact ⟨vD1, hm, hF.has ⟨rfl, rfl, rfl, rfl, rfl, trivial⟩, hS⟩
        clear hm hF hS
        rintro a w ⟨vC1, hm, hF, hS⟩
        unfold trace_Form_j5 at hm
        refine th <| ?_
        replace hm := bind_some hm
        obtain ⟨x45, h46, hm⟩ := hm
        obtain ⟨c47, g48, hl49⟩ := SR.get hrA5 h46
        obtain rfl := api_Event_open g48
        replace hm := bind_some hm
        obtain ⟨l53, h54, hm⟩ := hm
        refine rg <| ?_
        refine ls <| q1 hF rfl (e_move hF rfl) fun a hF => ?_
        refine ls <| q1 hF rfl (e_ld hF Tryd.isAgg39 rfl ((St.ld hS).cellB (.head _) rfl)) fun a hF => ?_
        refine ls <| q1 hF rfl (e_move hF rfl) fun a hF => ?_
        refine ls <| q1 hF rfl (e_iaI hF Tryd.runUnderlying39 Tryd.sizeOf23 rfl rfl h46 (SR.oaI hrA5 (by decide) h46)) fun a hF => ?_
        refine ls <| q1 hF rfl (e_ldA hF Tryd.isAgg23 Tryd.sizeOf23 rfl rfl (fun j v hj => PH.le.cell (Lds.le (St.ld hS)) (hl49 j v hj))) fun a hF => ?_
        refine ls <| a_bsl (e := 23) (sz := 5) [.int .i64 x45.Kind, .int .i64 x45.T, .int .i64 x45.A, .int .i64 x45.N, .int .i64 x45.M] hF rfl hS rfl rfl rfl (fun w => by kernel_rfl) fun b51 w a hS hF => ?_
        have hv50 : Rows (α := api_Event) HA1 [.int .i64 x45.Kind, .int .i64 x45.T, .int .i64 x45.A, .int .i64 x45.N, .int .i64 x45.M] ([x45] : List api_Event) := (.cons (c := [.int .i64 x45.Kind, .int .i64 x45.T, .int .i64 x45.A, .int .i64 x45.N, .int .i64 x45.M]) ⟨_, _, rfl, rfl, ⟨_, _, rfl, rfl, ⟨_, _, rfl, rfl, ⟨_, _, rfl, rfl, rfl⟩⟩⟩⟩ .nil)
        refine ls <| m_app (α := api_Event) (xs := vB19) (ys := ([x45] : List api_Event)) hF rfl hS Tryd.underlying39 info23 rfl (by decide) rfl rfl rfl (.tail _ (.tail _ (.tail _ (.tail _ (.tail _ (.tail _ (.head _))))))) hvB23 (hS.rdO (.head _)) hv50 h54 fun oa55 cap56 vs57 w a hv58 hU hF => ?_
        replace hS := hU _ (.tail (.tail (.tail (.tail (.tail (.tail .head))))))
        clear hU
        replace hS := hS.drop .head
        refine ls <| q1 hF rfl (e_asg hF rfl) fun a hF => ?_
        refine re <| ?_
        refine tn <| ?_
        refine rg <| ?_
        refine ls <| q1 hF rfl (e_ld hF Tryd.isAgg68 rfl ((St.ld hS).cellB (.tail _ (.tail _ (.head _))) rfl)) fun a hF => ?_
        refine ls <| q1 hF rfl (e_move hF rfl) fun a hF => ?_
        refine ls <| m_del (ev := Value.bool) (m := vB15) (k := vC1) hF hS key3 Tryd.runUnderlying68 rfl rfl (.tail _ (.head _)) hmB18 fun l59 c60 w hm61 hU => ?_
        replace hS := hU _ (.tail .head)
        clear hU
        refine re <| ?_
        refine bn <| tn <| ?_
        exact ⟨(nn4, (pdel vC1 vB15), l53), ⟨l59, c60, oa55, cap56, vs57, hm, hF.has ⟨rfl, rfl, rfl, rfl, trivial⟩, hS, hm61, hv58⟩, Nat.lt_succ_self _⟩
      ·
        replace hm := itp_f hm hb25
        refine tn <| cfv hF rfl hb25 <| ?_
        refine wp_exit <| tx <| tx <| bx <| ?_
        refine tn <| ?_
        replace hS := hS.pickL (.cons (.tail (.tail (.tail (.tail (.tail .head))))) .nil)
        exact ⟨vB19, oaB20, capB21, vsB22, hm, hF.has ⟨rfl, trivial⟩, hS, hvB23⟩
    clear hm hF hS
    rintro a w ⟨vA14, oaA15, capA16, vsA17, hm, hF, hS, hvA18⟩
    unfold trace_Form_j3 at hm
    refine th <| ?_
    refine rg <| ?_
    refine ls <| q1 hF rfl (e_move hF rfl) fun a hF => ?_
    refine ls <| q1 hF rfl (e_asg hF rfl) fun a hF => ?_
    refine re <| ?_
    refine tn <| ?_
    refine wp_ret <| ?_
    obtain rfl := Option.some.inj hm
    exact r1 hF Tryd.results29 rfl ⟨_, _, _, rfl, (fun _ => Rows.ind hvA18), hS.endFresh (.head _)⟩

set_option maxRecDepth 100000 in
theorem leadlineref17_first_c {N : Nat} {w0 : World} {H : PH} (hH : H.le w0) {oa2 : Option Addr} {cap3 : Nat} {p1 : (List api_Event)} (hc4 : p1.length ≤ cap3) (hr5 : SR H oa2 p1) {p6 : Int} {oa8 : Option Addr} {cap9 : Nat} {p7 : (List Int)} (hc10 : p7.length ≤ cap9) (hr11 : SR H oa8 p7) {p12 : Int} {r : Bool} (hm : leadlineref17_first N p1 p6 p7 p12 = some r) : Tot Tryd.prog 53 #[.slice oa2 p1.length cap3, .int .i64 p6, .slice oa8 p7.length cap9, .int .i64 p12] w0 (fun v w' => v = .bool r ∧ Keep Nil w0 w') := by
  unfold leadlineref17_first at hm
  refine fn0 (args := [.slice oa2 p1.length cap3, .int .i64 p6, .slice oa8 p7.length cap9, .int .i64 p12]) (F := [(0, .slice oa2 p1.length cap3), (1, .int .i64 p6), (2, .slice oa8 p7.length cap9), (3, .int .i64 p12)]) Tryd.func53 rfl Tryd.ntmps53 rfl rfl fun a hF => ?_
  have hS : St w0 Nil [H] [] w0 := start1 hH
  refine th <| ?_
  refine rg <| ?_
  refine ls <| q1 hF rfl (e_asg hF rfl) fun a hF => ?_
  refine re <| ?_
  refine tn <| th <| th <| ?_
  refine rg <| ?_
  refine ls <| q1 hF rfl (e_asg hF rfl) fun a hF => ?_
  refine re <| ?_
  refine tn <| midK (fun a w => ∃ (HA1 : PH), leadlineref17_first_j1 = some r ∧ Ext w0 H HA1 ∧ Fr 26 [] a ∧ St w0 Nil [HA1] [] w) ?_ ?_
  ·
    refine wp_block <| lp (α := Nat × Int) (fun (gh : Nat × Int) a w => match gh with | (nn2, vB10) => ∃ (HB1 : PH) (oaB2 : Option Addr) (capB3 : Nat) (oaB6 : Option Addr) (capB7 : Nat), (leadlineref17_first_l2 N leadlineref17_first_j1 p1 p6 p7 p12) nn2 vB10 = some r ∧ Ext w0 H HB1 ∧ Fr 26 [(0, .slice oaB2 p1.length capB3), (1, .int .i64 p6), (2, .slice oaB6 p7.length capB7), (3, .int .i64 p12), (9, .int .i64 vB10)] a ∧ St w0 Nil [HB1] [] w ∧ p1.length ≤ capB3 ∧ SR HB1 oaB2 p1 ∧ p7.length ≤ capB7 ∧ SR HB1 oaB6 p7) (fun gh => gh.1) (N, 0) ⟨H, oa2, cap3, oa8, cap9, hm, (Ext.refl _ _), hF.has ⟨rfl, rfl, rfl, rfl, rfl, trivial⟩, hS, hc4, hr5, hc10, hr11⟩ ?_
    clear hm hF hS
    rintro ⟨nn2, vB10⟩ a w ⟨HB1, oaB2, capB3, oaB6, capB7, hm, hxHB1, hF, hS, hcB4, hrB5, hcB8, hrB9⟩
    obtain _ | nn2 := nn2
    · simp [leadlineref17_first_l2] at hm
    rw [leadlineref17_first_l2] at hm
    refine th <| th <| ?_
    refine rg <| ?_
    refine ls <| q1 hF rfl (e_move hF rfl) fun a hF => ?_
    refine ls <| q1 hF rfl (e_move hF rfl) fun a hF => ?_
    refine ls <| q1 hF rfl (e_lss hF rfl rfl) fun a hF => ?_
    refine re <| ?_
    rcases bdich (decide (vB10 < p6)) with hb13 | hb13
    ·
      replace hm := itp_t hm hb13
      refine tn <| ctv hF rfl hb13 <| wp_skip <| ?_
      refine tn <| th <| wp_block <| th <| ?_
      replace hm := bind_some hm
      obtain ⟨x14, h15, hm⟩ := hm
      obtain ⟨c16, g17, hl18⟩ := SR.get hrB5 h15
      obtain rfl := api_Event_open g17
      replace hm := bind_some hm
      obtain ⟨x19, h20, hm⟩ := hm
      obtain ⟨c21, g22, hl23⟩ := SR.get hrB5 h20
      obtain rfl := api_Event_open g22
      replace hm := bind_some hm
      obtain ⟨r24, h25, hm⟩ := hm
      refine rdS 11 hS wide fun w hS => ?_
      refine d1 (i := 0) rfl (by kernel_rfl) (by kernel_rfl) (St.ld hS) hF rfl (fun _ _ _ h => h) (fun w hl => (e_move hF rfl)) fun a hF => ?_
      refine d1 (i := 1) rfl (by kernel_rfl) (by kernel_rfl) (St.ld hS) hF rfl (fun _ _ _ h => h) (fun w hl => (e_move hF rfl)) fun a hF => ?_
      refine d1 (i := 2) rfl (by kernel_rfl) (by kernel_rfl) (St.ld hS) hF rfl (fun _ _ _ h => h) (fun w hl => (e_iaI hF Tryd.runUnderlying39 Tryd.sizeOf23 rfl rfl h15 (SR.oaI hrB5 (by decide) h15))) fun a hF => ?_
      refine d1 (i := 3) rfl (by kernel_rfl) (by kernel_rfl) (St.ld hS) hF rfl (fun _ _ _ h => h) (fun w hl => (e_ldA hF Tryd.isAgg23 Tryd.sizeOf23 rfl rfl (fun j v hj => PH.le.cell (Lds.le hl) (hl18 j v hj)))) fun a hF => ?_
      refine d1 (i := 4) rfl (by kernel_rfl) (by kernel_rfl) (St.ld hS) hF rfl (fun _ _ _ h => h) (fun w hl => (e_move hF rfl)) fun a hF => ?_
      refine d1 (i := 5) rfl (by kernel_rfl) (by kernel_rfl) (St.ld hS) hF rfl (fun _ _ _ h => h) (fun w hl => (e_move hF rfl)) fun a hF => ?_
      refine d1 (i := 6) rfl (by kernel_rfl) (by kernel_rfl) (St.ld hS) hF rfl (fun _ _ _ h => h) (fun w hl => (e_iaI hF Tryd.runUnderlying39 Tryd.sizeOf23 rfl rfl h20 (SR.oaI hrB5 (by decide) h20))) fun a hF => ?_
      refine d1 (i := 7) rfl (by kernel_rfl) (by kernel_rfl) (St.ld hS) hF rfl (fun _ _ _ h => h) (fun w hl => (e_ldA hF Tryd.isAgg23 Tryd.sizeOf23 rfl rfl (fun j v hj => PH.le.cell (Lds.le hl) (hl23 j v hj)))) fun a hF => ?_
      refine d1 (i := 8) rfl (by kernel_rfl) (by kernel_rfl) (St.ld hS) hF rfl (fun _ _ _ h => h) (fun w hl => (e_move hF rfl)) fun a hF => ?_
      refine d1 (i := 9) rfl (by kernel_rfl) (by kernel_rfl) (St.ld hS) hF rfl (fun _ _ _ h => h) (fun w hl => (e_move hF rfl)) fun a hF => ?_
      refine da1 (i := 10) (by kernel_rfl) ?_
      refine di (i := 10) rfl <| c1 hF rfl Tryd.call17 (leadlineref15_Depend_c (hp_le _) hcB8 (St.srH hS hrB9) h25) ⟨rfl, rfl, rfl, rfl, trivial⟩ (fun v w a hR hF => ?_)
      obtain ⟨rfl, hk⟩ := hR
      replace hS := hS.pass hk
      clear hk
      refine ⟨fun _ => (St.ld hS), ?_⟩
      refine de (by kernel_rfl) <| ?_
      rcases bdich r24 with hb26 | hb26
      ·
        replace hm := ite_t hm hb26
        refine tn <| ctv hF rfl hb26 <| th <| ?_
        refine rg <| ?_
        refine ls <| q1 hF rfl (e_asg hF rfl) fun a hF => ?_
        refine re <| ?_
        refine tn <| ?_
        refine wp_ret <| br <| tr <| tr <| br <| tr <| ?_
        obtain rfl := Option.some.inj hm
        exact r1 hF Tryd.results53 rfl ⟨rfl, hS.keep⟩
      ·
        replace hm := ite_f hm hb26
        refine tn <| cfv hF rfl hb26 <| wp_skip <| ?_
        refine bn <| tn <| ?_
        refine rg <| ?_
        refine ls <| q1 hF rfl (e_move hF rfl) fun a hF => ?_
        refine ls <| q1 hF rfl (e_add hF rfl rfl) fun a hF => ?_
        refine ls <| q1 hF rfl (e_asg hF rfl) fun a hF => ?_
        refine re <| ?_
        refine tn <| ?_
        exact ⟨(nn2, (IntKind.i64.wrap (vB10 + 1))), ⟨HB1, oaB2, capB3, oaB6, capB7, hm, hxHB1, hF.has ⟨rfl, rfl, rfl, rfl, rfl, trivial⟩, hS, hcB4, hrB5, hcB8, hrB9⟩, Nat.lt_succ_self _⟩
    ·
      replace hm := itp_f hm hb13
      refine tn <| cfv hF rfl hb13 <| ?_
      refine wp_exit <| tx <| tx <| bx <| ?_
      refine tn <| ?_
      exact ⟨HB1, hm, hxHB1, hF.has trivial, hS⟩
  clear hm hF hS
  rintro a w ⟨HA1, hm, hxHA1, hF, hS⟩
  unfold leadlineref17_first_j1 at hm
  refine th <| ?_
  refine rg <| ?_
  refine ls <| q1 hF rfl (e_asg hF rfl) fun a hF => ?_
  refine re <| ?_
  refine tn <| ?_
  refine wp_ret <| ?_
  obtain rfl := Option.some.inj hm
  exact r1 hF Tryd.results53 rfl ⟨rfl, hS.keep⟩

set_option maxRecDepth 100000 in
theorem leadlineref17_Form_c {N : Nat} {w0 : World} {H : PH} (hH : H.le w0) {oa2 : Option Addr} {cap3 : Nat} {p1 : (List api_Event)} (hc4 : p1.length ≤ cap3) (hr5 : SR H oa2 p1) {oa7 : Option Addr} {cap8 : Nat} {p6 : (List Int)} (hc9 : p6.length ≤ cap8) (hr10 : SR H oa7 p6) {p11 : Int} {r : (List api_Event)} (hm : leadlineref17_Form N p1 p6 p11 = some r) : Tot Tryd.prog 30 #[.slice oa2 p1.length cap3, .slice oa7 p6.length cap8, .int .i64 p11] w0 (fun v w' => ∃ (oa0 : Option Addr) (cap0 : Nat) (vs0 : List Value), v = .slice oa0 r.length cap0 ∧ (∀ h, Rows h vs0 r) ∧ Fresh w0 (sla 23 5 oa0 r.length cap0 vs0) w') := by
  unfold leadlineref17_Form at hm
  refine fn0 (args := [.slice oa2 p1.length cap3, .slice oa7 p6.length cap8, .int .i64 p11]) (F := [(0, .slice oa2 p1.length cap3), (1, .slice oa7 p6.length cap8), (2, .int .i64 p11)]) Tryd.func30 rfl Tryd.ntmps30 rfl rfl fun a hF => ?_
  have hS : St w0 Nil [H] [] w0 := start1 hH
  refine th <| ?_
  refine rg <| ?_
  refine ls <| q1 hF rfl (e_asg hF rfl) fun a hF => ?_
  refine re <| ?_
  refine tn <| th <| ?_
  replace hm := bind_some hm
  obtain ⟨l18, h19, hm⟩ := hm
  refine rg <| ?_
  refine ls <| a_bsl (e := 23) (sz := 5) [] hF rfl hS rfl rfl rfl (fun w => by kernel_rfl) fun b13 w a hS hF => ?_
  have hv12 : Rows (α := api_Event) H [] [] := .nil
  refine ls <| a_bsl (e := 23) (sz := 5) [] hF rfl hS rfl rfl rfl (fun w => by kernel_rfl) fun b16 w a hS hF => ?_
  have hv15 : Rows (α := api_Event) H [] [] := .nil
  refine ls <| q1 hF rfl (e_move hF rfl) fun a hF => ?_
  obtain ⟨us24, hd25, hu26⟩ := id hr5
  refine ls <| m_app (α := api_Event) (xs := []) (ys := p1) hF rfl hS Tryd.underlying39 info23 rfl (by decide) rfl rfl rfl (.head _) hv15 (hS.rdH (.head _) hd25) hu26 h19 fun oa20 cap21 vs22 w a hv23 hU hF => ?_
  replace hS := hU _ .head
  clear hU
  refine ls <| q1 hF rfl (e_asg hF rfl) fun a hF => ?_
  refine ls <| q1 hF rfl (e_asg hF rfl) fun a hF => ?_
  refine re <| ?_
  refine tn <| th <| midK (fun a w => ∃ (vA2 : (List api_Event)) (HA1 : PH) (oaA3 : Option Addr) (capA4 : Nat) (vsA5 : List Value), leadlineref17_Form_j1 vA2 = some r ∧ Ext w0 H HA1 ∧ Fr 69 [(7, .slice oaA3 vA2.length capA4)] a ∧ St w0 Nil [HA1] [sla 23 5 oaA3 vA2.length capA4 vsA5] w ∧ Rows HA1 vsA5 vA2) ?_ ?_
  ·
    replace hS := hS.pickL (.cons (.tail .head) (.cons .head .nil))
    refine wp_block <| lp (α := Nat × (List api_Event) × (List api_Event)) (fun (gh : Nat × (List api_Event) × (List api_Event)) a w => match gh with | (nn2, vB10, vB16) => ∃ (HB1 : PH) (oaB2 : Option Addr) (capB3 : Nat) (oaB6 : Option Addr) (capB7 : Nat) (oaB11 : Option Addr) (capB12 : Nat) (vsB13 : List Value) (oaB17 : Option Addr) (capB18 : Nat) (vsB19 : List Value), (leadlineref17_Form_l2 N leadlineref17_Form_j1 p1 p6 p11) nn2 vB10 vB16 = some r ∧ Ext w0 H HB1 ∧ Fr 69 [(0, .slice oaB2 p1.length capB3), (1, .slice oaB6 p6.length capB7), (2, .int .i64 p11), (7, .slice oaB11 vB10.length capB12), (8, .slice oaB17 vB16.length capB18)] a ∧ St w0 Nil [HB1] [sla 23 5 oaB11 vB10.length capB12 vsB13, sla 23 5 oaB17 vB16.length capB18 vsB19] w ∧ p1.length ≤ capB3 ∧ SR HB1 oaB2 p1 ∧ p6.length ≤ capB7 ∧ SR HB1 oaB6 p6 ∧ Rows HB1 vsB13 vB10 ∧ Rows HB1 vsB19 vB16) (fun gh => gh.1) (N, [], l18) ⟨H, oa2, cap3, oa7, cap8, (some ⟨b13, 0, none⟩), 0, [], oa20, cap21, vs22, hm, (Ext.refl _ _), hF.has ⟨rfl, rfl, rfl, rfl, rfl, trivial⟩, hS, hc4, hr5, hc9, hr10, hv12, hv23⟩ ?_
    clear hm hF hS
    rintro ⟨nn2, vB10, vB16⟩ a w ⟨HB1, oaB2, capB3, oaB6, capB7, oaB11, capB12, vsB13, oaB17, capB18, vsB19, hm, hxHB1, hF, hS, hcB4, hrB5, hcB8, hrB9, hvB14, hvB20⟩
    obtain _ | nn2 := nn2
    · simp [leadlineref17_Form_l2] at hm
    rw [leadlineref17_Form_l2] at hm
    refine th <| th <| midK (fun a w => ∃ (vC1 : Bool), (leadlineref17_Form_j3 N leadlineref17_Form_j1 (leadlineref17_Form_l2 N leadlineref17_Form_j1 p1 p6 p11 nn2) p6 p11 vB10 vB16) vC1 = some r ∧ Fr 69 [(0, .slice oaB2 p1.length capB3), (1, .slice oaB6 p6.length capB7), (2, .int .i64 p11), (7, .slice oaB11 vB10.length capB12), (8, .slice oaB17 vB16.length capB18), (23, .bool vC1)] a ∧ St w0 Nil [HB1] [sla 23 5 oaB11 vB10.length capB12 vsB13, sla 23 5 oaB17 vB16.length capB18 vsB19] w) ?_ ?_
    ·
      rcases bdich (decide (0 < (vB16.length : Int))) with hb27 | hb27
      ·
        replace hm := itp_t hm hb27
        replace hm := bind_some hm
        obtain ⟨r28, h29, hm⟩ := hm
        refine rg <| ?_
        refine ls <| q1 hF rfl (e_move hF rfl) fun a hF => ?_
        refine ls <| q1 hF rfl (e_lenL (α := api_Event) (xs := vB16) hF Tryd.runUnderlying39 rfl) fun a hF => ?_
        refine ls <| q1 hF rfl (e_gtr hF rfl rfl) fun a hF => ?_
        refine ls <| q1 hF rfl (e_as (e_move hF rfl) (congrArg Value.bool hb27)) fun a hF => ?_
        refine ls <| gy hF rfl rfl <| q1 hF rfl (e_move hF rfl) fun a hF => ?_
        refine ls <| gy hF rfl rfl <| c1 hF rfl Tryd.call51 (leadlineref16_Threads_c (hp_le _) hcB4 (St.srH hS hrB5) h29) ⟨rfl, trivial⟩ (fun v w a hR hF => ?_)
        obtain ⟨rfl, hk⟩ := hR
        replace hS := hS.pass hk
        clear hk
        refine ls <| gy hF rfl rfl <| q1 hF rfl (e_gtr hF rfl rfl) fun a hF => ?_
        refine ls <| q1 hF rfl (e_pickT hF rfl rfl) fun a hF => ?_
        refine re <| ?_
        refine tn <| ?_
        exact ⟨(decide (0 < r28)), hm, hF.has ⟨rfl, rfl, rfl, rfl, rfl, rfl, trivial⟩, hS⟩
      ·
        replace hm := itp_f hm hb27
        refine rg <| ?_
        refine ls <| q1 hF rfl (e_move hF rfl) fun a hF => ?_
        refine ls <| q1 hF rfl (e_lenL (α := api_Event) (xs := vB16) hF Tryd.runUnderlying39 rfl) fun a hF => ?_
        refine ls <| q1 hF rfl (e_gtr hF rfl rfl) fun a hF => ?_
        refine ls <| q1 hF rfl (e_as (e_move hF rfl) (congrArg Value.bool hb27)) fun a hF => ?_
        refine ls <| gn hF rfl rfl rfl rfl fun a hF => ?_
        refine ls <| gn hF rfl rfl rfl rfl fun a hF => ?_
        refine ls <| gn hF rfl rfl rfl rfl fun a hF => ?_
        refine ls <| q1 hF rfl (e_pickF hF rfl rfl) fun a hF => ?_
        refine re <| ?_
        refine tn <| ?_
        exact ⟨false, hm, hF.has ⟨rfl, rfl, rfl, rfl, rfl, rfl, trivial⟩, hS⟩
    clear hm hF hS
    rintro a w ⟨vC1, hm, hF, hS⟩
    unfold leadlineref17_Form_j3 at hm
    rcases bdich vC1 with hb30 | hb30
    ·
      replace hm := ite_t hm hb30
      refine ctv hF rfl hb30 <| wp_skip <| ?_
      refine tn <| wp_block <| th <| ?_
      refine rg <| ?_
      refine ls <| q1 hF rfl (e_asg hF rfl) fun a hF => ?_
      refine re <| ?_
      refine tn <| th <| th <| ?_
      refine rg <| ?_
      refine ls <| q1 hF rfl (e_asg hF rfl) fun a hF => ?_
      refine re <| ?_
      refine tn <| midK (fun a w => ∃ (vC2 : Int), (leadlineref17_Form_j4 (leadlineref17_Form_l2 N leadlineref17_Form_j1 p1 p6 p11 nn2) vB10 vB16) vC2 = some r ∧ Fr 69 [(0, .slice oaB2 p1.length capB3), (1, .slice oaB6 p6.length capB7), (2, .int .i64 p11), (7, .slice oaB11 vB10.length capB12), (8, .slice oaB17 vB16.length capB18), (9, .int .i64 vC2)] a ∧ St w0 Nil [HB1] [sla 23 5 oaB11 vB10.length capB12 vsB13, sla 23 5 oaB17 vB16.length capB18 vsB19] w) ?_ ?_
      ·
        refine wp_block <| lp (α := Nat × Int × Int) (fun (gh : Nat × Int × Int) a w => match gh with | (nn5, vD1, vD2) => (leadlineref17_Form_l5 N (leadlineref17_Form_j4 (leadlineref17_Form_l2 N leadlineref17_Form_j1 p1 p6 p11 nn2) vB10 vB16) p6 p11 vB16) nn5 vD1 vD2 = some r ∧ Fr 69 [(0, .slice oaB2 p1.length capB3), (1, .slice oaB6 p6.length capB7), (2, .int .i64 p11), (7, .slice oaB11 vB10.length capB12), (8, .slice oaB17 vB16.length capB18), (9, .int .i64 vD1), (10, .int .i64 vD2)] a ∧ St w0 Nil [HB1] [sla 23 5 oaB11 vB10.length capB12 vsB13, sla 23 5 oaB17 vB16.length capB18 vsB19] w) (fun gh => gh.1) (N, 0, 1) ⟨hm, hF.has ⟨rfl, rfl, rfl, rfl, rfl, rfl, rfl, trivial⟩, hS⟩ ?_
        clear hm hF hS
        rintro ⟨nn5, vD1, vD2⟩ a w ⟨hm, hF, hS⟩
        obtain _ | nn5 := nn5
        · simp [leadlineref17_Form_l5] at hm
        rw [leadlineref17_Form_l5] at hm
        refine th <| th <| ?_
        refine rg <| ?_
        refine ls <| q1 hF rfl (e_move hF rfl) fun a hF => ?_
        refine ls <| q1 hF rfl (e_move hF rfl) fun a hF => ?_
        refine ls <| q1 hF rfl (e_lenL (α := api_Event) (xs := vB16) hF Tryd.runUnderlying39 rfl) fun a hF => ?_
        refine ls <| q1 hF rfl (e_lss hF rfl rfl) fun a hF => ?_
        refine re <| ?_
        rcases bdich (decide (vD2 < (vB16.length : Int))) with hb31 | hb31
        ·
          replace hm := itp_t hm hb31
          refine tn <| ctv hF rfl hb31 <| wp_skip <| ?_
          refine tn <| th <| midK (fun a w => ∃ (vE1 : Int), (leadlineref17_Form_j6 (leadlineref17_Form_l5 N (leadlineref17_Form_j4 (leadlineref17_Form_l2 N leadlineref17_Form_j1 p1 p6 p11 nn2) vB10 vB16) p6 p11 vB16 nn5) vD2) vE1 = some r ∧ Fr 69 [(0, .slice oaB2 p1.length capB3), (1, .slice oaB6 p6.length capB7), (2, .int .i64 p11), (7, .slice oaB11 vB10.length capB12), (8, .slice oaB17 vB16.length capB18), (9, .int .i64 vE1), (10, .int .i64 vD2)] a ∧ St w0 Nil [HB1] [sla 23 5 oaB11 vB10.length capB12 vsB13, sla 23 5 oaB17 vB16.length capB18 vsB19] w) ?_ ?_
          ·
            refine wp_block <| th <| midK (fun a w => ∃ (vF1 : Bool), (leadlineref17_Form_j7 (leadlineref17_Form_j6 (leadlineref17_Form_l5 N (leadlineref17_Form_j4 (leadlineref17_Form_l2 N leadlineref17_Form_j1 p1 p6 p11 nn2) vB10 vB16) p6 p11 vB16 nn5) vD2) vD1 vD2) vF1 = some r ∧ Fr 69 [(0, .slice oaB2 p1.length capB3), (1, .slice oaB6 p6.length capB7), (2, .int .i64 p11), (7, .slice oaB11 vB10.length capB12), (8, .slice oaB17 vB16.length capB18), (9, .int .i64 vD1), (10, .int .i64 vD2), (47, .bool vF1)] a ∧ St w0 Nil [HB1] [sla 23 5 oaB11 vB10.length capB12 vsB13, sla 23 5 oaB17 vB16.length capB18 vsB19] w) ?_ ?_
            ·
              replace hm := bind_some hm
              obtain ⟨x32, h33, hm⟩ := hm
              have ho34 := Rd.oaI (hS.rdO (.tail _ (.head _))) hvB20 (by decide) h33
              obtain ⟨c35, g36, hl37⟩ := Rows.getI hvB20 h33
              obtain rfl := api_Event_open g36
              replace hm := bind_some hm
              obtain ⟨x38, h39, hm⟩ := hm
              have ho40 := Rd.oaI (hS.rdO (.tail _ (.head _))) hvB20 (by decide) h39
              obtain ⟨c41, g42, hl43⟩ := Rows.getI hvB20 h39
              obtain rfl := api_Event_open g42
              rcases bdich (decide (x32.T < x38.T)) with hb44 | hb44
              ·
                replace hm := itp_t hm hb44
                replace hm := bind_some hm
                obtain ⟨r45, h46, hm⟩ := hm
                refine rdS 18 hS wide fun w hS => ?_
                refine d1 (i := 0) rfl (by kernel_rfl) (by kernel_rfl) (St.ld hS) hF rfl (fun _ _ _ h => h) (fun w hl => (e_move hF rfl)) fun a hF => ?_
                refine d1 (i := 1) rfl (by kernel_rfl) (by kernel_rfl) (St.ld hS) hF rfl (fun _ _ _ h => h) (fun w hl => (e_move hF rfl)) fun a hF => ?_
                refine d1 (i := 2) rfl (by kernel_rfl) (by kernel_rfl) (St.ld hS) hF rfl (fun _ _ _ h => h) (fun w hl => (e_iaI hF Tryd.runUnderlying39 Tryd.sizeOf23 rfl rfl h33 ho34)) fun a hF => ?_
                refine d1 (i := 3) rfl (by kernel_rfl) (by kernel_rfl) (St.ld hS) hF rfl (fun _ _ _ h => h) (fun w hl => (e_fa hF fa23_1 rfl)) fun a hF => ?_
                refine d1 (i := 4) rfl (by kernel_rfl) (by kernel_rfl) (St.ld hS) hF rfl (fun _ _ _ h => h) (fun w hl => (e_ld hF Tryd.isAgg3 rfl (hl.elO2 (.tail _ (.head _)) (hl37 1 _ rfl)))) fun a hF => ?_
                refine d1 (i := 5) rfl (by kernel_rfl) (by kernel_rfl) (St.ld hS) hF rfl (fun _ _ _ h => h) (fun w hl => (e_move hF rfl)) fun a hF => ?_
                refine d1 (i := 6) rfl (by kernel_rfl) (by kernel_rfl) (St.ld hS) hF rfl (fun _ _ _ h => h) (fun w hl => (e_move hF rfl)) fun a hF => ?_
                refine d1 (i := 7) rfl (by kernel_rfl) (by kernel_rfl) (St.ld hS) hF rfl (fun _ _ _ h => h) (fun w hl => (e_iaI hF Tryd.runUnderlying39 Tryd.sizeOf23 rfl rfl h39 ho40)) fun a hF => ?_
                refine d1 (i := 8) rfl (by kernel_rfl) (by kernel_rfl) (St.ld hS) hF rfl (fun _ _ _ h => h) (fun w hl => (e_fa hF fa23_1 rfl)) fun a hF => ?_
                refine d1 (i := 9) rfl (by kernel_rfl) (by kernel_rfl) (St.ld hS) hF rfl (fun _ _ _ h => h) (fun w hl => (e_ld hF Tryd.isAgg3 rfl (hl.elO2 (.tail _ (.head _)) (hl43 1 _ rfl)))) fun a hF => ?_
                refine d1 (i := 10) rfl (by kernel_rfl) (by kernel_rfl) (St.ld hS) hF rfl (fun _ _ _ h => h) (fun w hl => (e_lss hF rfl rfl)) fun a hF => ?_
                refine d1 (i := 11) rfl (by kernel_rfl) (by kernel_rfl) (St.ld hS) hF rfl (fun _ _ _ h => h) (fun w hl => (e_as (e_move hF rfl) (congrArg Value.bool hb44))) fun a hF => ?_
                refine d1g (i := 12) rfl (by kernel_rfl) (by kernel_rfl) (St.ld hS) hF rfl rfl rfl (fun _ _ _ h => h) (fun w hl => (e_move hF rfl)) fun a hF => ?_
                refine d1g (i := 13) rfl (by kernel_rfl) (by kernel_rfl) (St.ld hS) hF rfl rfl rfl (fun _ _ _ h => h) (fun w hl => (e_move hF rfl)) fun a hF => ?_
                refine d1g (i := 14) rfl (by kernel_rfl) (by kernel_rfl) (St.ld hS) hF rfl rfl rfl (fun _ _ _ h => h) (fun w hl => (e_move hF rfl)) fun a hF => ?_
                refine d1g (i := 15) rfl (by kernel_rfl) (by kernel_rfl) (St.ld hS) hF rfl rfl rfl (fun _ _ _ h => h) (fun w hl => (e_move hF rfl)) fun a hF => ?_
                refine da1 (i := 16) (by kernel_rfl) ?_
                refine di (i := 16) rfl <| gy hF rfl rfl <| c1 hF rfl Tryd.call53 (leadlineref17_first_c (hp_le _) (St.capO hS (.tail _ (.head _))) (St.srO hS (.tail _ (.head _)) hvB20) hcB8 (St.srH hS hrB9) h46) ⟨rfl, rfl, rfl, rfl, trivial⟩ (fun v w a hR hF => ?_)
                obtain ⟨rfl, hk⟩ := hR
                replace hS := hS.pass hk
                clear hk
                refine ⟨fun _ => (St.ld hS), ?_⟩
                refine d1 (i := 17) rfl (by kernel_rfl) (by kernel_rfl) (St.ld hS) hF rfl (fun _ _ _ h => h) (fun w hl => (e_pickT hF rfl rfl)) fun a hF => ?_
                refine de (by kernel_rfl) <| ?_
                refine tn <| ?_
                exact ⟨r45, hm, hF.has ⟨rfl, rfl, rfl, rfl, rfl, rfl, rfl, rfl, trivial⟩, hS⟩
              ·
                replace hm := itp_f hm hb44
                refine rxS 18 hS wide (by kernel_rfl) fun w hS => ?_
                refine x1 (St.ld hS) hF rfl rfl (fun _ _ _ h => h) (fun w hl => (e_move hF rfl)) fun a hF => ?_
                refine x1 (St.ld hS) hF rfl rfl (fun _ _ _ h => h) (fun w hl => (e_move hF rfl)) fun a hF => ?_
                refine x1 (St.ld hS) hF rfl rfl (fun _ _ _ h => h) (fun w hl => (e_iaI hF Tryd.runUnderlying39 Tryd.sizeOf23 rfl rfl h33 ho34)) fun a hF => ?_
                refine x1 (St.ld hS) hF rfl rfl (fun _ _ _ h => h) (fun w hl => (e_fa hF fa23_1 rfl)) fun a hF => ?_
                refine x1 (St.ld hS) hF rfl rfl (fun _ _ _ h => h) (fun w hl => (e_ld hF Tryd.isAgg3 rfl (hl.elO2 (.tail _ (.head _)) (hl37 1 _ rfl)))) fun a hF => ?_
                refine x1 (St.ld hS) hF rfl rfl (fun _ _ _ h => h) (fun w hl => (e_move hF rfl)) fun a hF => ?_
                refine x1 (St.ld hS) hF rfl rfl (fun _ _ _ h => h) (fun w hl => (e_move hF rfl)) fun a hF => ?_
                refine x1 (St.ld hS) hF rfl rfl (fun _ _ _ h => h) (fun w hl => (e_iaI hF Tryd.runUnderlying39 Tryd.sizeOf23 rfl rfl h39 ho40)) fun a hF => ?_
                refine x1 (St.ld hS) hF rfl rfl (fun _ _ _ h => h) (fun w hl => (e_fa hF fa23_1 rfl)) fun a hF => ?_
                refine x1 (St.ld hS) hF rfl rfl (fun _ _ _ h => h) (fun w hl => (e_ld hF Tryd.isAgg3 rfl (hl.elO2 (.tail _ (.head _)) (hl43 1 _ rfl)))) fun a hF => ?_
                refine x1 (St.ld hS) hF rfl rfl (fun _ _ _ h => h) (fun w hl => (e_lss hF rfl rfl)) fun a hF => ?_
                refine x1 (St.ld hS) hF rfl rfl (fun _ _ _ h => h) (fun w hl => (e_as (e_move hF rfl) (congrArg Value.bool hb44))) fun a hF => ?_
                refine x1n (St.ld hS) hF rfl rfl rfl rfl rfl (fun _ _ _ h => h) fun a hF => ?_
                refine x1n (St.ld hS) hF rfl rfl rfl rfl rfl (fun _ _ _ h => h) fun a hF => ?_
                refine x1n (St.ld hS) hF rfl rfl rfl rfl rfl (fun _ _ _ h => h) fun a hF => ?_
                refine x1n (St.ld hS) hF rfl rfl rfl rfl rfl (fun _ _ _ h => h) fun a hF => ?_
                refine x1n (St.ld hS) hF rfl rfl rfl rfl rfl (fun _ _ _ h => h) fun a hF => ?_
                refine x1 (St.ld hS) hF rfl rfl (fun _ _ _ h => h) (fun w hl => (e_pickF hF rfl rfl)) fun a hF => ?_
                refine xe <| ?_
                refine tn <| ?_
                exact ⟨false, hm, hF.has ⟨rfl, rfl, rfl, rfl, rfl, rfl, rfl, rfl, trivial⟩, hS⟩
            clear hm hF hS
            rintro a w ⟨vF1, hm, hF, hS⟩
            unfold leadlineref17_Form_j7 at hm
            rcases bdich vF1 with hb47 | hb47
            ·
              replace hm := ite_t hm hb47
              refine ctv hF rfl hb47 <| ?_
              refine rg <| ?_
              refine ls <| q1 hF rfl (e_move hF rfl) fun a hF => ?_
              refine ls <| q1 hF rfl (e_asg hF rfl) fun a hF => ?_
              refine re <| ?_
              refine bn <| tn <| ?_
              exact ⟨vD2, hm, hF.has ⟨rfl, rfl, rfl, rfl, rfl, rfl, rfl, trivial⟩, hS⟩
            ·
              replace hm := ite_f hm hb47
              refine cfv hF rfl hb47 <| wp_skip <| ?_
              refine bn <| tn <| ?_
              exact ⟨vD1, hm, hF.has ⟨rfl, rfl, rfl, rfl, rfl, rfl, rfl, trivial⟩, hS⟩
          clear hm hF hS
          rintro a w ⟨vE1, hm, hF, hS⟩
          unfold leadlineref17_Form_j6 at hm
          refine rg <| ?_
          refine ls <| q1 hF rfl (e_move hF rfl) fun a hF => ?_
          refine ls <| q1 hF rfl (e_add hF rfl rfl) fun a hF => ?_
          refine ls <| q1 hF rfl (e_asg hF rfl) fun a hF => ?_
          refine re <| ?_
          refine tn <| ?_
          exact ⟨(nn5, vE1, (IntKind.i64.wrap (vD2 + 1))), ⟨hm, hF.has ⟨rfl, rfl, rfl, rfl, rfl, rfl, rfl, trivial⟩, hS⟩, Nat.lt_succ_self _⟩
        ·
          replace hm := itp_f hm hb31
          refine tn <| cfv hF rfl hb31 <| ?_
          refine wp_exit <| tx <| tx <| bx <| ?_
          refine tn <| ?_
          exact ⟨vD1, hm, hF.has ⟨rfl, rfl, rfl, rfl, rfl, rfl, trivial⟩, hS⟩
      clear hm hF hS
      rintro a w ⟨vC2, hm, hF, hS⟩
      unfold leadlineref17_Form_j4 at hm
      refine th <| ?_
      replace hm := bind_some hm
      obtain ⟨x48, h49, hm⟩ := hm
      have ho50 := Rd.oaI (hS.rdO (.tail _ (.head _))) hvB20 (by decide) h49
      obtain ⟨c51, g52, hl53⟩ := Rows.getI hvB20 h49
      obtain rfl := api_Event_open g52
      replace hm := bind_some hm
      obtain ⟨l57, h58, hm⟩ := hm
      refine rg <| ?_
      refine ls <| q1 hF rfl (e_move hF rfl) fun a hF => ?_
      refine ls <| q1 hF rfl (e_move hF rfl) fun a hF => ?_
      refine ls <| q1 hF rfl (e_move hF rfl) fun a hF => ?_
      refine ls <| q1 hF rfl (e_iaI hF Tryd.runUnderlying39 Tryd.sizeOf23 rfl rfl h49 ho50) fun a hF => ?_
      refine ls <| q1 hF rfl (e_ldA hF Tryd.isAgg23 Tryd.sizeOf23 rfl rfl ((St.ld hS).elsO (.tail _ (.head _)) hl53)) fun a hF => ?_
      refine ls <| a_bsl (e := 23) (sz := 5) [.int .i64 x48.Kind, .int .i64 x48.T, .int .i64 x48.A, .int .i64 x48.N, .int .i64 x48.M] hF rfl hS rfl rfl rfl (fun w => by kernel_rfl) fun b55 w a hS hF => ?_
      have hv54 : Rows (α := api_Event) HB1 [.int .i64 x48.Kind, .int .i64 x48.T, .int .i64 x48.A, .int .i64 x48.N, .int .i64 x48.M] ([x48] : List api_Event) := (.cons (c := [.int .i64 x48.Kind, .int .i64 x48.T, .int .i64 x48.A, .int .i64 x48.N, .int .i64 x48.M]) ⟨_, _, rfl, rfl, ⟨_, _, rfl, rfl, ⟨_, _, rfl, rfl, ⟨_, _, rfl, rfl, rfl⟩⟩⟩⟩ .nil)
      refine ls <| m_app (α := api_Event) (xs := vB10) (ys := ([x48] : List api_Event)) hF rfl hS Tryd.underlying39 info23 rfl (by decide) rfl rfl rfl (.tail _ (.head _)) hvB14 (hS.rdO (.head _)) hv54 h58 fun oa59 cap60 vs61 w a hv62 hU hF => ?_
      replace hS := hU _ (.tail .head)
      clear hU
      replace hS := hS.drop .head
      refine ls <| q1 hF rfl (e_asg hF rfl) fun a hF => ?_
      refine re <| ?_
      refine tn <| th <| ?_
      obtain ⟨H69, hx66, hr67, hc68, hS⟩ := St.frzS hS (.tail .head) hvB20
      replace hm := bind_some hm
      obtain ⟨l70, h71, hm⟩ := hm
      obtain ⟨oa72, cap73, e74, e75, hc76, hr77⟩ := SR.sub (sz := 5) hr67 hc68 rfl h71
      replace hm := bind_some hm
      obtain ⟨l78, h79, hm⟩ := hm
      refine rg <| ?_
      refine ls <| a_bsl (e := 23) (sz := 5) [] hF rfl hS rfl rfl rfl (fun w => by kernel_rfl) fun b64 w a hS hF => ?_
      have hv63 : Rows (α := api_Event) HB1 [] [] := .nil
      refine ls <| q1 hF rfl (e_move hF rfl) fun a hF => ?_
      refine ls <| q1 hF rfl (e_move hF rfl) fun a hF => ?_
      refine ls <| q1 hF rfl (e_subL (xs := vB16) (vl := 0) (vh := vC2) hF Tryd.runUnderlying39 Tryd.sizeOf23 rfl hc68 rfl rfl h71 e74 e75) fun a hF => ?_
      obtain ⟨us84, hd85, hu86⟩ := id hr77
      refine ls <| m_app (α := api_Event) (xs := []) (ys := l70) hF rfl hS Tryd.underlying39 info23 rfl (by decide) rfl rfl rfl (.head _) (hv63.mono hx66.sub) (hS.rdH (.head _) hd85) hu86 h79 fun oa80 cap81 vs82 w a hv83 hU hF => ?_
      replace hS := hU _ .head
      clear hU
      refine ls <| q1 hF rfl (e_asg hF rfl) fun a hF => ?_
      refine re <| ?_
      refine tn <| th <| ?_
      replace hm := bind_some hm
      obtain ⟨l87, h88, hm⟩ := hm
      obtain ⟨oa89, cap90, e91, e92, hc93, hr94⟩ := SR.sub (sz := 5) hr67 hc68 rfl h88
      replace hm := bind_some hm
      obtain ⟨l95, h96, hm⟩ := hm
      refine rg <| ?_
      refine ls <| q1 hF rfl (e_move hF rfl) fun a hF => ?_
      refine ls <| q1 hF rfl (e_move hF rfl) fun a hF => ?_
      refine ls <| q1 hF rfl (e_move hF rfl) fun a hF => ?_
      refine ls <| q1 hF rfl (e_add hF rfl rfl) fun a hF => ?_
      refine ls <| q1 hF rfl (e_subL (xs := vB16) (vl := (IntKind.i64.wrap (vC2 + 1))) (vh := (vB16.length : Int)) hF Tryd.runUnderlying39 Tryd.sizeOf23 rfl hc68 rfl rfl h88 e91 e92) fun a hF => ?_
      obtain ⟨us101, hd102, hu103⟩ := id hr94
      refine ls <| m_app (α := api_Event) (xs := l78) (ys := l87) hF rfl hS Tryd.underlying39 info23 rfl (by decide) rfl rfl rfl (.head _) hv83 (hS.rdH (.head _) hd102) hu103 h96 fun oa97 cap98 vs99 w a hv100 hU hF => ?_
      replace hS := hU _ .head
      clear hU
      refine ls <| q1 hF rfl (e_asg hF rfl) fun a hF => ?_
      refine re <| ?_
      refine tn <| ?_
      refine rg <| ?_
      refine ls <| q1 hF rfl (e_move hF rfl) fun a hF => ?_
      refine ls <| q1 hF rfl (e_asg hF rfl) fun a hF => ?_
      refine re <| ?_
      refine bn <| tn <| ?_
      replace hS := hS.pickL (.cons (.tail .head) (.cons .head .nil))
      exact ⟨(nn2, l57, l95), ⟨H69, oaB2, capB3, oaB6, capB7, oa59, cap60, vs61, oa97, cap98, vs99, hm, (Ext.trans hxHB1 hx66), hF.has ⟨rfl, rfl, rfl, rfl, rfl, trivial⟩, hS, hcB4, (hrB5.mono hx66.sub), hcB8, (hrB9.mono hx66.sub), (hv62.mono hx66.sub), hv100⟩, Nat.lt_succ_self _⟩
    ·
      replace hm := ite_f hm hb30
      refine cfv hF rfl hb30 <| ?_
      refine wp_exit <| tx <| tx <| bx <| ?_
      refine tn <| ?_
      replace hS := hS.pickL (.cons .head .nil)
      exact ⟨vB10, HB1, oaB11, capB12, vsB13, hm, hxHB1, hF.has ⟨rfl, trivial⟩, hS, hvB14⟩
  clear hm hF hS
  rintro a w ⟨vA2, HA1, oaA3, capA4, vsA5, hm, hxHA1, hF, hS, hvA6⟩
  unfold leadlineref17_Form_j1 at hm
  refine th <| ?_
  refine rg <| ?_
  refine ls <| q1 hF rfl (e_move hF rfl) fun a hF => ?_
  refine ls <| q1 hF rfl (e_asg hF rfl) fun a hF => ?_
  refine re <| ?_
  refine tn <| ?_
  refine wp_ret <| ?_
  obtain rfl := Option.some.inj hm
  exact r1 hF Tryd.results30 rfl ⟨_, _, _, rfl, (fun _ => Rows.ind hvA6), hS.endFresh (.head _)⟩

set_option maxRecDepth 100000 in
theorem leadlineref17_Equal_c {N : Nat} {w0 : World} {H : PH} (hH : H.le w0) {oa2 : Option Addr} {cap3 : Nat} {p1 : (List api_Event)} (hc4 : p1.length ≤ cap3) (hr5 : SR H oa2 p1) {oa7 : Option Addr} {cap8 : Nat} {p6 : (List api_Event)} (hc9 : p6.length ≤ cap8) (hr10 : SR H oa7 p6) {r : Bool} (hm : leadlineref17_Equal N p1 p6 = some r) : Tot Tryd.prog 28 #[.slice oa2 p1.length cap3, .slice oa7 p6.length cap8] w0 (fun v w' => v = .bool r ∧ Keep Nil w0 w') := by
  unfold leadlineref17_Equal at hm
  refine fn0 (args := [.slice oa2 p1.length cap3, .slice oa7 p6.length cap8]) (F := [(0, .slice oa2 p1.length cap3), (1, .slice oa7 p6.length cap8)]) Tryd.func28 rfl Tryd.ntmps28 rfl rfl fun a hF => ?_
  have hS : St w0 Nil [H] [] w0 := start1 hH
  refine th <| ?_
  refine rg <| ?_
  refine ls <| q1 hF rfl (e_asg hF rfl) fun a hF => ?_
  refine re <| ?_
  refine tn <| th <| th <| ?_
  refine rg <| ?_
  refine ls <| q1 hF rfl (e_move hF rfl) fun a hF => ?_
  refine ls <| q1 hF rfl (e_lenL (α := api_Event) (xs := p1) hF Tryd.runUnderlying39 rfl) fun a hF => ?_
  refine ls <| q1 hF rfl (e_move hF rfl) fun a hF => ?_
  refine ls <| q1 hF rfl (e_lenL (α := api_Event) (xs := p6) hF Tryd.runUnderlying39 rfl) fun a hF => ?_
  refine ls <| q1 hF rfl (e_neq hF rfl rfl) fun a hF => ?_
  refine re <| ?_
  rcases bdich (decide ((p1.length : Int) ≠ (p6.length : Int))) with hb11 | hb11
  ·
    replace hm := itp_t hm hb11
    refine tn <| ctv hF rfl hb11 <| th <| ?_
    refine rg <| ?_
    refine ls <| q1 hF rfl (e_asg hF rfl) fun a hF => ?_
    refine re <| ?_
    refine tn <| ?_
    refine wp_ret <| tr <| ?_
    obtain rfl := Option.some.inj hm
    exact r1 hF Tryd.results28 rfl ⟨rfl, hS.keep⟩
  ·
    replace hm := itp_f hm hb11
    refine tn <| cfv hF rfl hb11 <| wp_skip <| ?_
    refine tn <| th <| th <| ?_
    refine rg <| ?_
    refine ls <| q1 hF rfl (e_asg hF rfl) fun a hF => ?_
    refine re <| ?_
    refine tn <| midK (fun a w => ∃ (HA1 : PH), leadlineref17_Equal_j1 = some r ∧ Ext w0 H HA1 ∧ Fr 26 [] a ∧ St w0 Nil [HA1] [] w) ?_ ?_
    ·
      refine wp_block <| lp (α := Nat × Int) (fun (gh : Nat × Int) a w => match gh with | (nn2, vB10) => ∃ (HB1 : PH) (oaB2 : Option Addr) (capB3 : Nat) (oaB6 : Option Addr) (capB7 : Nat), (leadlineref17_Equal_l2 N leadlineref17_Equal_j1 p1 p6) nn2 vB10 = some r ∧ Ext w0 H HB1 ∧ Fr 26 [(0, .slice oaB2 p1.length capB3), (1, .slice oaB6 p6.length capB7), (5, .int .i64 vB10)] a ∧ St w0 Nil [HB1] [] w ∧ p1.length ≤ capB3 ∧ SR HB1 oaB2 p1 ∧ p6.length ≤ capB7 ∧ SR HB1 oaB6 p6) (fun gh => gh.1) (N, 0) ⟨H, oa2, cap3, oa7, cap8, hm, (Ext.refl _ _), hF.has ⟨rfl, rfl, rfl, trivial⟩, hS, hc4, hr5, hc9, hr10⟩ ?_
      clear hm hF hS
      rintro ⟨nn2, vB10⟩ a w ⟨HB1, oaB2, capB3, oaB6, capB7, hm, hxHB1, hF, hS, hcB4, hrB5, hcB8, hrB9⟩
      obtain _ | nn2 := nn2
      · simp [leadlineref17_Equal_l2] at hm
      rw [leadlineref17_Equal_l2] at hm
      refine th <| th <| ?_
      refine rg <| ?_
      refine ls <| q1 hF rfl (e_move hF rfl) fun a hF => ?_
      refine ls <| q1 hF rfl (e_move hF rfl) fun a hF => ?_
      refine ls <| q1 hF rfl (e_lenL (α := api_Event) (xs := p1) hF Tryd.runUnderlying39 rfl) fun a hF => ?_
      refine ls <| q1 hF rfl (e_lss hF rfl rfl) fun a hF => ?_
      refine re <| ?_
      rcases bdich (decide (vB10 < (p1.length : Int))) with hb12 | hb12
      ·
        replace hm := itp_t hm hb12
        refine tn <| ctv hF rfl hb12 <| wp_skip <| ?_
        refine tn <| th <| wp_block <| th <| ?_
        replace hm := bind_some hm
        obtain ⟨x13, h14, hm⟩ := hm
        obtain ⟨c15, g16, hl17⟩ := SR.get hrB5 h14
        obtain rfl := api_Event_open g16
        replace hm := bind_some hm
        obtain ⟨x18, h19, hm⟩ := hm
        obtain ⟨c20, g21, hl22⟩ := SR.get hrB9 h19
        obtain rfl := api_Event_open g21
        refine rxS 9 hS wide (by kernel_rfl) fun w hS => ?_
        refine x1 (St.ld hS) hF rfl rfl (fun _ _ _ h => h) (fun w hl => (e_move hF rfl)) fun a hF => ?_
        refine x1 (St.ld hS) hF rfl rfl (fun _ _ _ h => h) (fun w hl => (e_move hF rfl)) fun a hF => ?_
        refine x1 (St.ld hS) hF rfl rfl (fun _ _ _ h => h) (fun w hl => (e_iaI hF Tryd.runUnderlying39 Tryd.sizeOf23 rfl rfl h14 (SR.oaI hrB5 (by decide) h14))) fun a hF => ?_
        refine x1 (St.ld hS) hF rfl rfl (fun _ _ _ h => h) (fun w hl => (e_ldA hF Tryd.isAgg23 Tryd.sizeOf23 rfl rfl (fun j v hj => PH.le.cell (Lds.le hl) (hl17 j v hj)))) fun a hF => ?_
        refine x1 (St.ld hS) hF rfl rfl (fun _ _ _ h => h) (fun w hl => (e_move hF rfl)) fun a hF => ?_
        refine x1 (St.ld hS) hF rfl rfl (fun _ _ _ h => h) (fun w hl => (e_move hF rfl)) fun a hF => ?_
        refine x1 (St.ld hS) hF rfl rfl (fun _ _ _ h => h) (fun w hl => (e_iaI hF Tryd.runUnderlying39 Tryd.sizeOf23 rfl rfl h19 (SR.oaI hrB9 (by decide) h19))) fun a hF => ?_
        refine x1 (St.ld hS) hF rfl rfl (fun _ _ _ h => h) (fun w hl => (e_ldA hF Tryd.isAgg23 Tryd.sizeOf23 rfl rfl (fun j v hj => PH.le.cell (Lds.le hl) (hl22 j v hj)))) fun a hF => ?_
        refine x1 (St.ld hS) hF rfl rfl (fun _ _ _ h => h) (fun w hl => (api_Event_neq (x := x13) (y := x18) hF rfl rfl)) fun a hF => ?_
        refine xe <| ?_
        rcases bdich (decide (x13 ≠ x18)) with hb23 | hb23
        ·
          replace hm := itp_t hm hb23
          refine tn <| ctv hF rfl hb23 <| th <| ?_
          refine rg <| ?_
          refine ls <| q1 hF rfl (e_asg hF rfl) fun a hF => ?_
          refine re <| ?_
          refine tn <| ?_
          refine wp_ret <| br <| tr <| tr <| br <| tr <| ?_
          obtain rfl := Option.some.inj hm
          exact r1 hF Tryd.results28 rfl ⟨rfl, hS.keep⟩
        ·
          replace hm := itp_f hm hb23
          refine tn <| cfv hF rfl hb23 <| wp_skip <| ?_
          refine bn <| tn <| ?_
          refine rg <| ?_
          refine ls <| q1 hF rfl (e_move hF rfl) fun a hF => ?_
          refine ls <| q1 hF rfl (e_add hF rfl rfl) fun a hF => ?_
          refine ls <| q1 hF rfl (e_asg hF rfl) fun a hF => ?_
          refine re <| ?_
          refine tn <| ?_
          exact ⟨(nn2, (IntKind.i64.wrap (vB10 + 1))), ⟨HB1, oaB2, capB3, oaB6, capB7, hm, hxHB1, hF.has ⟨rfl, rfl, rfl, trivial⟩, hS, hcB4, hrB5, hcB8, hrB9⟩, Nat.lt_succ_self _⟩
      ·
        replace hm := itp_f hm hb12
        refine tn <| cfv hF rfl hb12 <| ?_
        refine wp_exit <| tx <| tx <| bx <| ?_
        refine tn <| ?_
        exact ⟨HB1, hm, hxHB1, hF.has trivial, hS⟩
    clear hm hF hS
    rintro a w ⟨HA1, hm, hxHA1, hF, hS⟩
    unfold leadlineref17_Equal_j1 at hm
    refine th <| ?_
    refine rg <| ?_
    refine ls <| q1 hF rfl (e_asg hF rfl) fun a hF => ?_
    refine re <| ?_
    refine tn <| ?_
    refine wp_ret <| ?_
    obtain rfl := Option.some.inj hm
    exact r1 hF Tryd.results28 rfl ⟨rfl, hS.keep⟩

set_option maxRecDepth 100000 in
theorem trace_Same_1_c {N : Nat} {w0 : World} {H : PH} (hH : H.le w0) {oa2 : Option Addr} {cap3 : Nat} {p1 : (List api_Event)} (hc4 : p1.length ≤ cap3) (hr5 : SR H oa2 p1) {r : Bool} (hm : trace_Same_1 N p1 = some r) : Tot Tryd.prog 54 #[.slice oa2 p1.length cap3] w0 (fun v w' => v = .bool r ∧ Keep Nil w0 w') := by
  unfold trace_Same_1 at hm
  refine fn0 (args := [.slice oa2 p1.length cap3]) (F := [(0, .slice oa2 p1.length cap3)]) Tryd.func54 rfl Tryd.ntmps54 rfl rfl fun a hF => ?_
  have hS : St w0 Nil [H] [] w0 := start1 hH
  refine th <| ?_
  refine rg <| ?_
  refine ls <| q1 hF rfl (e_asg hF rfl) fun a hF => ?_
  refine re <| ?_
  refine tn <| th <| ?_
  rcases bdich (decide (0 < (p1.length : Int))) with hb6 | hb6
  ·
    replace hm := itp_t hm hb6
    replace hm := bind_some hm
    obtain ⟨r7, h8, hm⟩ := hm
    refine rg <| ?_
    refine ls <| q1 hF rfl (e_move hF rfl) fun a hF => ?_
    refine ls <| q1 hF rfl (e_lenL (α := api_Event) (xs := p1) hF Tryd.runUnderlying39 rfl) fun a hF => ?_
    refine ls <| q1 hF rfl (e_gtr hF rfl rfl) fun a hF => ?_
    refine ls <| q1 hF rfl (e_as (e_move hF rfl) (congrArg Value.bool hb6)) fun a hF => ?_
    refine ls <| gy hF rfl rfl <| q1 hF rfl (e_move hF rfl) fun a hF => ?_
    refine ls <| gy hF rfl rfl <| c1 hF rfl Tryd.call49 (clock_Threads_c (hp_le _) hc4 (St.srH hS hr5) h8) ⟨rfl, trivial⟩ (fun v w a hR hF => ?_)
    obtain ⟨rfl, hk⟩ := hR
    replace hS := hS.pass hk
    clear hk
    refine ls <| gy hF rfl rfl <| q1 hF rfl (e_eql hF rfl rfl) fun a hF => ?_
    refine ls <| q1 hF rfl (e_pickT hF rfl rfl) fun a hF => ?_
    refine ls <| q1 hF rfl (e_asg hF rfl) fun a hF => ?_
    refine re <| ?_
    refine tn <| ?_
    refine wp_ret <| ?_
    obtain rfl := Option.some.inj hm
    exact r1 hF Tryd.results54 rfl ⟨rfl, hS.keep⟩
  ·
    replace hm := itp_f hm hb6
    refine rg <| ?_
    refine ls <| q1 hF rfl (e_move hF rfl) fun a hF => ?_
    refine ls <| q1 hF rfl (e_lenL (α := api_Event) (xs := p1) hF Tryd.runUnderlying39 rfl) fun a hF => ?_
    refine ls <| q1 hF rfl (e_gtr hF rfl rfl) fun a hF => ?_
    refine ls <| q1 hF rfl (e_as (e_move hF rfl) (congrArg Value.bool hb6)) fun a hF => ?_
    refine ls <| gn hF rfl rfl rfl rfl fun a hF => ?_
    refine ls <| gn hF rfl rfl rfl rfl fun a hF => ?_
    refine ls <| gn hF rfl rfl rfl rfl fun a hF => ?_
    refine ls <| q1 hF rfl (e_pickF hF rfl rfl) fun a hF => ?_
    refine ls <| q1 hF rfl (e_asg hF rfl) fun a hF => ?_
    refine re <| ?_
    refine tn <| ?_
    refine wp_ret <| ?_
    obtain rfl := Option.some.inj hm
    exact r1 hF Tryd.results54 rfl ⟨rfl, hS.keep⟩

set_option maxRecDepth 100000 in
theorem slices_Equal_api_Event_api_Event_c {N : Nat} {w0 : World} {H : PH} (hH : H.le w0) {oa2 : Option Addr} {cap3 : Nat} {p1 : (List api_Event)} (hc4 : p1.length ≤ cap3) (hr5 : SR H oa2 p1) {oa7 : Option Addr} {cap8 : Nat} {p6 : (List api_Event)} (hc9 : p6.length ≤ cap8) (hr10 : SR H oa7 p6) {r : Bool} (hm : slices_Equal_api_Event_api_Event N p1 p6 = some r) : Tot Tryd.prog 55 #[.slice oa2 p1.length cap3, .slice oa7 p6.length cap8] w0 (fun v w' => v = .bool r ∧ Keep Nil w0 w') := by
  unfold slices_Equal_api_Event_api_Event at hm
  refine fn0 (args := [.slice oa2 p1.length cap3, .slice oa7 p6.length cap8]) (F := [(0, .slice oa2 p1.length cap3), (1, .slice oa7 p6.length cap8)]) Tryd.func55 rfl Tryd.ntmps55 rfl rfl fun a hF => ?_
  have hS : St w0 Nil [H] [] w0 := start1 hH
  refine th <| ?_
  refine rg <| ?_
  refine ls <| q1 hF rfl (e_asg hF rfl) fun a hF => ?_
  refine re <| ?_
  refine tn <| th <| th <| ?_
  refine rg <| ?_
  refine ls <| q1 hF rfl (e_move hF rfl) fun a hF => ?_
  refine ls <| q1 hF rfl (e_lenL (α := api_Event) (xs := p1) hF Tryd.runUnderlying39 rfl) fun a hF => ?_
  refine ls <| q1 hF rfl (e_move hF rfl) fun a hF => ?_
  refine ls <| q1 hF rfl (e_lenL (α := api_Event) (xs := p6) hF Tryd.runUnderlying39 rfl) fun a hF => ?_
  refine ls <| q1 hF rfl (e_neq hF rfl rfl) fun a hF => ?_
  refine re <| ?_
  rcases bdich (decide ((p1.length : Int) ≠ (p6.length : Int))) with hb11 | hb11
  ·
    replace hm := itp_t hm hb11
    refine tn <| ctv hF rfl hb11 <| th <| ?_
    refine rg <| ?_
    refine ls <| q1 hF rfl (e_asg hF rfl) fun a hF => ?_
    refine re <| ?_
    refine tn <| ?_
    refine wp_ret <| tr <| ?_
    obtain rfl := Option.some.inj hm
    exact r1 hF Tryd.results55 rfl ⟨rfl, hS.keep⟩
  ·
    replace hm := itp_f hm hb11
    refine tn <| cfv hF rfl hb11 <| wp_skip <| ?_
    refine tn <| th <| th <| ?_
    refine rg <| ?_
    refine ls <| q1 hF rfl (e_move hF rfl) fun a hF => ?_
    refine ls <| q1 hF rfl (e_lenL (α := api_Event) (xs := p1) hF Tryd.runUnderlying39 rfl) fun a hF => ?_
    refine ls <| q1 hF rfl (e_move hF rfl) fun a hF => ?_
    refine re <| ?_
    refine tn <| midK (fun a w => ∃ (HA1 : PH), slices_Equal_api_Event_api_Event_j1 = some r ∧ Ext w0 H HA1 ∧ Fr 26 [] a ∧ St w0 Nil [HA1] [] w) ?_ ?_
    ·
      refine wp_block <| lp (α := Nat × Int) (fun (gh : Nat × Int) a w => match gh with | (nn2, vB10) => ∃ (HB1 : PH) (oaB2 : Option Addr) (capB3 : Nat) (oaB6 : Option Addr) (capB7 : Nat), (slices_Equal_api_Event_api_Event_l2 N slices_Equal_api_Event_api_Event_j1 p1 p6) nn2 vB10 = some r ∧ Ext w0 H HB1 ∧ Fr 26 [(0, .slice oaB2 p1.length capB3), (1, .slice oaB6 p6.length capB7), (12, .int .i64 (p1.length : Int)), (13, .int .i64 vB10)] a ∧ St w0 Nil [HB1] [] w ∧ p1.length ≤ capB3 ∧ SR HB1 oaB2 p1 ∧ p6.length ≤ capB7 ∧ SR HB1 oaB6 p6) (fun gh => gh.1) (N, 0) ⟨H, oa2, cap3, oa7, cap8, hm, (Ext.refl _ _), hF.has ⟨rfl, rfl, rfl, rfl, trivial⟩, hS, hc4, hr5, hc9, hr10⟩ ?_
      clear hm hF hS
      rintro ⟨nn2, vB10⟩ a w ⟨HB1, oaB2, capB3, oaB6, capB7, hm, hxHB1, hF, hS, hcB4, hrB5, hcB8, hrB9⟩
      obtain _ | nn2 := nn2
      · simp [slices_Equal_api_Event_api_Event_l2] at hm
      rw [slices_Equal_api_Event_api_Event_l2] at hm
      refine th <| ?_
      refine rg <| ?_
      refine ls <| q1 hF rfl (e_lss hF rfl rfl) fun a hF => ?_
      refine re <| ?_
      rcases bdich (decide (vB10 < (p1.length : Int))) with hb12 | hb12
      ·
        replace hm := itp_t hm hb12
        refine tn <| th <| ctv hF rfl hb12 <| wp_skip <| ?_
        refine tn <| th <| wp_block <| th <| ?_
        refine rg <| ?_
        refine ls <| q1 hF rfl (e_move hF rfl) fun a hF => ?_
        refine ls <| q1 hF rfl (e_asg hF rfl) fun a hF => ?_
        refine re <| ?_
        refine tn <| th <| ?_
        replace hm := bind_some hm
        obtain ⟨x13, h14, hm⟩ := hm
        obtain ⟨c15, g16, hl17⟩ := SR.get hrB5 h14
        obtain rfl := api_Event_open g16
        replace hm := bind_some hm
        obtain ⟨x18, h19, hm⟩ := hm
        obtain ⟨c20, g21, hl22⟩ := SR.get hrB9 h19
        obtain rfl := api_Event_open g21
        refine rxS 9 hS wide (by kernel_rfl) fun w hS => ?_
        refine x1 (St.ld hS) hF rfl rfl (fun _ _ _ h => h) (fun w hl => (e_move hF rfl)) fun a hF => ?_
        refine x1 (St.ld hS) hF rfl rfl (fun _ _ _ h => h) (fun w hl => (e_move hF rfl)) fun a hF => ?_
        refine x1 (St.ld hS) hF rfl rfl (fun _ _ _ h => h) (fun w hl => (e_iaI hF Tryd.runUnderlying39 Tryd.sizeOf23 rfl rfl h14 (SR.oaI hrB5 (by decide) h14))) fun a hF => ?_
        refine x1 (St.ld hS) hF rfl rfl (fun _ _ _ h => h) (fun w hl => (e_ldA hF Tryd.isAgg23 Tryd.sizeOf23 rfl rfl (fun j v hj => PH.le.cell (Lds.le hl) (hl17 j v hj)))) fun a hF => ?_
        refine x1 (St.ld hS) hF rfl rfl (fun _ _ _ h => h) (fun w hl => (e_move hF rfl)) fun a hF => ?_
        refine x1 (St.ld hS) hF rfl rfl (fun _ _ _ h => h) (fun w hl => (e_move hF rfl)) fun a hF => ?_
        refine x1 (St.ld hS) hF rfl rfl (fun _ _ _ h => h) (fun w hl => (e_iaI hF Tryd.runUnderlying39 Tryd.sizeOf23 rfl rfl h19 (SR.oaI hrB9 (by decide) h19))) fun a hF => ?_
        refine x1 (St.ld hS) hF rfl rfl (fun _ _ _ h => h) (fun w hl => (e_ldA hF Tryd.isAgg23 Tryd.sizeOf23 rfl rfl (fun j v hj => PH.le.cell (Lds.le hl) (hl22 j v hj)))) fun a hF => ?_
        refine x1 (St.ld hS) hF rfl rfl (fun _ _ _ h => h) (fun w hl => (api_Event_neq (x := x13) (y := x18) hF rfl rfl)) fun a hF => ?_
        refine xe <| ?_
        rcases bdich (decide (x13 ≠ x18)) with hb23 | hb23
        ·
          replace hm := itp_t hm hb23
          refine tn <| ctv hF rfl hb23 <| th <| ?_
          refine rg <| ?_
          refine ls <| q1 hF rfl (e_asg hF rfl) fun a hF => ?_
          refine re <| ?_
          refine tn <| ?_
          refine wp_ret <| br <| tr <| tr <| br <| tr <| ?_
          obtain rfl := Option.some.inj hm
          exact r1 hF Tryd.results55 rfl ⟨rfl, hS.keep⟩
        ·
          replace hm := itp_f hm hb23
          refine tn <| cfv hF rfl hb23 <| wp_skip <| ?_
          refine bn <| tn <| ?_
          refine rg <| ?_
          refine ls <| q1 hF rfl (e_add hF rfl rfl) fun a hF => ?_
          refine ls <| q1 hF rfl (e_move hF rfl) fun a hF => ?_
          refine re <| ?_
          refine tn <| ?_
          exact ⟨(nn2, (IntKind.i64.wrap (vB10 + 1))), ⟨HB1, oaB2, capB3, oaB6, capB7, hm, hxHB1, hF.has ⟨rfl, rfl, rfl, rfl, trivial⟩, hS, hcB4, hrB5, hcB8, hrB9⟩, Nat.lt_succ_self _⟩
      ·
        replace hm := itp_f hm hb12
        refine tn <| th <| cfv hF rfl hb12 <| ?_
        refine wp_exit <| tx <| tx <| bx <| ?_
        refine tn <| ?_
        exact ⟨HB1, hm, hxHB1, hF.has trivial, hS⟩
    clear hm hF hS
    rintro a w ⟨HA1, hm, hxHA1, hF, hS⟩
    unfold slices_Equal_api_Event_api_Event_j1 at hm
    refine th <| ?_
    refine rg <| ?_
    refine ls <| q1 hF rfl (e_asg hF rfl) fun a hF => ?_
    refine re <| ?_
    refine tn <| ?_
    refine wp_ret <| ?_
    obtain rfl := Option.some.inj hm
    exact r1 hF Tryd.results55 rfl ⟨rfl, hS.keep⟩

set_option maxRecDepth 100000 in
theorem trace_Same_c {N : Nat} {w0 : World} {H : PH} (hH : H.le w0) {oa2 : Option Addr} {cap3 : Nat} {p1 : (List api_Event)} (hc4 : p1.length ≤ cap3) (hr5 : SR H oa2 p1) {oa7 : Option Addr} {cap8 : Nat} {p6 : (List api_Event)} (hc9 : p6.length ≤ cap8) (hr10 : SR H oa7 p6) {oa12 : Option Addr} {cap13 : Nat} {p11 : (List Int)} (hc14 : p11.length ≤ cap13) (hr15 : SR H oa12 p11) {p16 : Int} {r : Bool} (hm : trace_Same N p1 p6 p11 p16 = some r) : Tot Tryd.prog 31 #[.slice oa2 p1.length cap3, .slice oa7 p6.length cap8, .slice oa12 p11.length cap13, .int .i64 p16] w0 (fun v w' => v = .bool r ∧ Keep Nil w0 w') := by
  unfold trace_Same at hm
  refine fn0 (args := [.slice oa2 p1.length cap3, .slice oa7 p6.length cap8, .slice oa12 p11.length cap13, .int .i64 p16]) (F := [(0, .slice oa2 p1.length cap3), (1, .slice oa7 p6.length cap8), (2, .slice oa12 p11.length cap13), (3, .int .i64 p16)]) Tryd.func31 rfl Tryd.ntmps31 rfl rfl fun a hF => ?_
  have hS : St w0 Nil [H] [] w0 := start1 hH
  refine th <| ?_
  refine rg <| ?_
  refine ls <| q1 hF rfl (e_asg hF rfl) fun a hF => ?_
  refine re <| ?_
  refine tn <| th <| ?_
  refine rg <| ?_
  refine ls <| q1 hF rfl (e_asg hF rfl) fun a hF => ?_
  refine re <| ?_
  refine tn <| th <| ?_
  replace hm := bind_some hm
  obtain ⟨r17, h18, hm⟩ := hm
  rcases bdich r17 with hb19 | hb19
  ·
    replace hm := ite_t hm hb19
    have hb19' : (!r17) = false := by rw [hb19]; rfl
    refine rg <| ?_
    refine ls <| q1 hF rfl (e_move hF rfl) fun a hF => ?_
    refine ls <| q1 hF rfl (e_move hF rfl) fun a hF => ?_
    refine ls <| k1 (vs := [.slice oa2 p1.length cap3]) (caps := []) hF rfl rfl Tryd.call54 (trace_Same_1_c (hp_le _) hc4 (St.srH hS hr5) h18) ⟨rfl, trivial⟩ rfl (fun v w a hR hF => ?_)
    obtain ⟨rfl, hk⟩ := hR
    replace hS := hS.pass hk
    clear hk
    refine ls <| q1 hF rfl (e_not hF rfl) fun a hF => ?_
    refine ls <| q1 hF rfl (e_as (e_move hF rfl) (congrArg Value.bool hb19')) fun a hF => ?_
    refine ls <| gn hF rfl rfl rfl rfl fun a hF => ?_
    refine ls <| gn hF rfl rfl rfl rfl fun a hF => ?_
    refine ls <| gn hF rfl rfl rfl rfl fun a hF => ?_
    refine ls <| gn hF rfl rfl rfl rfl fun a hF => ?_
    refine ls <| q1 hF rfl (e_pickF hF rfl rfl) fun a hF => ?_
    refine ls <| q1 hF rfl (e_move hF rfl) fun a hF => ?_
    refine ls <| gn hF rfl rfl rfl rfl fun a hF => ?_
    refine ls <| gn hF rfl rfl rfl rfl fun a hF => ?_
    refine ls <| gn hF rfl rfl rfl rfl fun a hF => ?_
    refine ls <| gn hF rfl rfl rfl rfl fun a hF => ?_
    refine ls <| gn hF rfl rfl rfl rfl fun a hF => ?_
    refine ls <| gn hF rfl rfl rfl rfl fun a hF => ?_
    refine ls <| gn hF rfl rfl rfl rfl fun a hF => ?_
    refine ls <| gn hF rfl rfl rfl rfl fun a hF => ?_
    refine ls <| gn hF rfl rfl rfl rfl fun a hF => ?_
    refine ls <| q1 hF rfl (e_pickF hF rfl rfl) fun a hF => ?_
    refine ls <| q1 hF rfl (e_asg hF rfl) fun a hF => ?_
    refine re <| ?_
    refine tn <| ?_
    refine wp_ret <| ?_
    obtain rfl := Option.some.inj hm
    exact r1 hF Tryd.results31 rfl ⟨rfl, hS.keep⟩
  ·
    replace hm := ite_f hm hb19
    have hb19' : (!r17) = true := by rw [hb19]; rfl
    replace hm := bind_some hm
    obtain ⟨r20, h21, hm⟩ := hm
    rcases bdich r20 with hb22 | hb22
    ·
      replace hm := ite_t hm hb22
      have hb22' : (!r20) = false := by rw [hb22]; rfl
      refine rg <| ?_
      refine ls <| q1 hF rfl (e_move hF rfl) fun a hF => ?_
      refine ls <| q1 hF rfl (e_move hF rfl) fun a hF => ?_
      refine ls <| k1 (vs := [.slice oa2 p1.length cap3]) (caps := []) hF rfl rfl Tryd.call54 (trace_Same_1_c (hp_le _) hc4 (St.srH hS hr5) h18) ⟨rfl, trivial⟩ rfl (fun v w a hR hF => ?_)
      obtain ⟨rfl, hk⟩ := hR
      replace hS := hS.pass hk
      clear hk
      refine ls <| q1 hF rfl (e_not hF rfl) fun a hF => ?_
      refine ls <| q1 hF rfl (e_as (e_move hF rfl) (congrArg Value.bool hb19')) fun a hF => ?_
      refine ls <| gy hF rfl rfl <| q1 hF rfl (e_move hF rfl) fun a hF => ?_
      refine ls <| gy hF rfl rfl <| q1 hF rfl (e_move hF rfl) fun a hF => ?_
      refine ls <| gy hF rfl rfl <| k1 (vs := [.slice oa7 p6.length cap8]) (caps := []) hF rfl rfl Tryd.call54 (trace_Same_1_c (hp_le _) hc9 (St.srH hS hr10) h21) ⟨rfl, trivial⟩ rfl (fun v w a hR hF => ?_)
      obtain ⟨rfl, hk⟩ := hR
      replace hS := hS.pass hk
      clear hk
      refine ls <| gy hF rfl rfl <| q1 hF rfl (e_not hF rfl) fun a hF => ?_
      refine ls <| q1 hF rfl (e_pickT hF rfl rfl) fun a hF => ?_
      refine ls <| q1 hF rfl (e_as (e_move hF rfl) (congrArg Value.bool hb22')) fun a hF => ?_
      refine ls <| gn hF rfl rfl rfl rfl fun a hF => ?_
      refine ls <| gn hF rfl rfl rfl rfl fun a hF => ?_
      refine ls <| gn hF rfl rfl rfl rfl fun a hF => ?_
      refine ls <| gn hF rfl rfl rfl rfl fun a hF => ?_
      refine ls <| gn hF rfl rfl rfl rfl fun a hF => ?_
      refine ls <| gn hF rfl rfl rfl rfl fun a hF => ?_
      refine ls <| gn hF rfl rfl rfl rfl fun a hF => ?_
      refine ls <| gn hF rfl rfl rfl rfl fun a hF => ?_
      refine ls <| gn hF rfl rfl rfl rfl fun a hF => ?_
      refine ls <| q1 hF rfl (e_pickF hF rfl rfl) fun a hF => ?_
      refine ls <| q1 hF rfl (e_asg hF rfl) fun a hF => ?_
      refine re <| ?_
      refine tn <| ?_
      refine wp_ret <| ?_
      obtain rfl := Option.some.inj hm
      exact r1 hF Tryd.results31 rfl ⟨rfl, hS.keep⟩
    ·
      replace hm := ite_f hm hb22
      have hb22' : (!r20) = true := by rw [hb22]; rfl
      replace hm := bind_some hm
      obtain ⟨r23, h24, hm⟩ := hm
      replace hm := bind_some hm
      obtain ⟨r30, h31, hm⟩ := hm
      replace hm := bind_some hm
      obtain ⟨r37, h38, hm⟩ := hm
      refine rg <| ?_
      refine ls <| q1 hF rfl (e_move hF rfl) fun a hF => ?_
      refine ls <| q1 hF rfl (e_move hF rfl) fun a hF => ?_
      refine ls <| k1 (vs := [.slice oa2 p1.length cap3]) (caps := []) hF rfl rfl Tryd.call54 (trace_Same_1_c (hp_le _) hc4 (St.srH hS hr5) h18) ⟨rfl, trivial⟩ rfl (fun v w a hR hF => ?_)
      obtain ⟨rfl, hk⟩ := hR
      replace hS := hS.pass hk
      clear hk
      refine ls <| q1 hF rfl (e_not hF rfl) fun a hF => ?_
      refine ls <| q1 hF rfl (e_as (e_move hF rfl) (congrArg Value.bool hb19')) fun a hF => ?_
      refine ls <| gy hF rfl rfl <| q1 hF rfl (e_move hF rfl) fun a hF => ?_
      refine ls <| gy hF rfl rfl <| q1 hF rfl (e_move hF rfl) fun a hF => ?_
      refine ls <| gy hF rfl rfl <| k1 (vs := [.slice oa7 p6.length cap8]) (caps := []) hF rfl rfl Tryd.call54 (trace_Same_1_c (hp_le _) hc9 (St.srH hS hr10) h21) ⟨rfl, trivial⟩ rfl (fun v w a hR hF => ?_)
      obtain ⟨rfl, hk⟩ := hR
      replace hS := hS.pass hk
      clear hk
      refine ls <| gy hF rfl rfl <| q1 hF rfl (e_not hF rfl) fun a hF => ?_
      refine ls <| q1 hF rfl (e_pickT hF rfl rfl) fun a hF => ?_
      refine ls <| q1 hF rfl (e_as (e_move hF rfl) (congrArg Value.bool hb22')) fun a hF => ?_
      refine ls <| gy hF rfl rfl <| q1 hF rfl (e_move hF rfl) fun a hF => ?_
      refine ls <| gy hF rfl rfl <| q1 hF rfl (e_move hF rfl) fun a hF => ?_
      refine ls <| gy hF rfl rfl <| q1 hF rfl (e_move hF rfl) fun a hF => ?_
      refine ls <| gy hF rfl rfl <| c1 hF rfl Tryd.call29 (trace_Form_c (hp_le _) hc4 (St.srH hS hr5) hc14 (St.srH hS hr15) h24) ⟨rfl, rfl, rfl, trivial⟩ (fun v w a hR hF => ?_)
      obtain ⟨oa25, cap26, vs27, rfl, hv28, hk⟩ := hR
      replace hS := hS.fresh hk
      clear hk
      replace hv28 := hv28 H
      refine ls <| gy hF rfl rfl <| q1 hF rfl (e_move hF rfl) fun a hF => ?_
      refine ls <| gy hF rfl rfl <| q1 hF rfl (e_move hF rfl) fun a hF => ?_
      refine ls <| gy hF rfl rfl <| q1 hF rfl (e_move hF rfl) fun a hF => ?_
      refine ls <| gy hF rfl rfl <| c1 hF rfl Tryd.call29 (trace_Form_c (hp_le _) hc9 (St.srH hS hr10) hc14 (St.srH hS hr15) h31) ⟨rfl, rfl, rfl, trivial⟩ (fun v w a hR hF => ?_)
      obtain ⟨oa32, cap33, vs34, rfl, hv35, hk⟩ := hR
      replace hS := hS.fresh hk
      clear hk
      replace hv35 := hv35 H
      refine ls <| gy hF rfl rfl <| c1 hF rfl Tryd.call55 (slices_Equal_api_Event_api_Event_c (hp_le _) (St.capO hS (.tail _ (.head _))) (St.srO hS (.tail _ (.head _)) hv28) (St.capO hS (.head _)) (St.srO hS (.head _) hv35) h38) ⟨rfl, rfl, trivial⟩ (fun v w a hR hF => ?_)
      obtain ⟨rfl, hk⟩ := hR
      replace hS := hS.pass hk
      clear hk
      refine ls <| q1 hF rfl (e_pickT hF rfl rfl) fun a hF => ?_
      refine ls <| q1 hF rfl (e_asg hF rfl) fun a hF => ?_
      refine re <| ?_
      refine tn <| ?_
      refine wp_ret <| ?_
      obtain rfl := Option.some.inj hm
      exact r1 hF Tryd.results31 rfl ⟨rfl, hS.keep⟩
end Go.LM.ET
