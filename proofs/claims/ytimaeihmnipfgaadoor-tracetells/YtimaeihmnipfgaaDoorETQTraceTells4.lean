/- Walks, lifted by program. No condition beyond each theorem's own premises. -/
import Derived.Test.YtimaeihmnipfgaaDoorETQTraceTells3
namespace Go.LM.ET
open Go Go.LL Go.MD Go.LM Go.Proofs Go.MD.ET

set_option maxRecDepth 100000 in
theorem leadlineref17_Same_c {N : Nat} {w0 : World} {H : PH} (hH : H.le w0) {oa2 : Option Addr} {cap3 : Nat} {p1 : (List api_Event)} (hc4 : p1.length ≤ cap3) (hr5 : SR H oa2 p1) {oa7 : Option Addr} {cap8 : Nat} {p6 : (List api_Event)} (hc9 : p6.length ≤ cap8) (hr10 : SR H oa7 p6) {oa12 : Option Addr} {cap13 : Nat} {p11 : (List Int)} (hc14 : p11.length ≤ cap13) (hr15 : SR H oa12 p11) {p16 : Int} {r : Bool} (hm : leadlineref17_Same N p1 p6 p11 p16 = some r) : Tot Tryd.prog 32 #[.slice oa2 p1.length cap3, .slice oa7 p6.length cap8, .slice oa12 p11.length cap13, .int .i64 p16] w0 (fun v w' => v = .bool r ∧ Keep Nil w0 w') := by
  unfold leadlineref17_Same at hm
  refine fn0 (args := [.slice oa2 p1.length cap3, .slice oa7 p6.length cap8, .slice oa12 p11.length cap13, .int .i64 p16]) (F := [(0, .slice oa2 p1.length cap3), (1, .slice oa7 p6.length cap8), (2, .slice oa12 p11.length cap13), (3, .int .i64 p16)]) Tryd.func32 rfl Tryd.ntmps32 rfl rfl fun a hF => ?_
  have hS : St w0 Nil [H] [] w0 := start1 hH
  refine th <| ?_
  refine rg <| ?_
  refine ls <| q1 hF rfl (e_asg hF rfl) fun a hF => ?_
  refine re <| ?_
  refine tn <| th <| th <| midK (fun a w => ∃ (vA14 : Bool) (HA1 : PH) (oaA2 : Option Addr) (capA3 : Nat) (oaA6 : Option Addr) (capA7 : Nat) (oaA10 : Option Addr) (capA11 : Nat), (leadlineref17_Same_j1 N p1 p6 p11 p16) vA14 = some r ∧ Ext w0 H HA1 ∧ Fr 134 [(0, .slice oaA2 p1.length capA3), (1, .slice oaA6 p6.length capA7), (2, .slice oaA10 p11.length capA11), (3, .int .i64 p16), (36, .bool vA14)] a ∧ St w0 Nil [HA1] [] w ∧ p1.length ≤ capA3 ∧ SR HA1 oaA2 p1 ∧ p6.length ≤ capA7 ∧ SR HA1 oaA6 p6 ∧ p11.length ≤ capA11 ∧ SR HA1 oaA10 p11) ?_ ?_
  ·
    rcases bdich (decide ((p1.length : Int) ≠ (p6.length : Int))) with hb17 | hb17
    ·
      replace hm := itp_t hm hb17
      refine rg <| ?_
      refine ls <| q1 hF rfl (e_move hF rfl) fun a hF => ?_
      refine ls <| q1 hF rfl (e_lenL (α := api_Event) (xs := p1) hF Tryd.runUnderlying39 rfl) fun a hF => ?_
      refine ls <| q1 hF rfl (e_move hF rfl) fun a hF => ?_
      refine ls <| q1 hF rfl (e_lenL (α := api_Event) (xs := p6) hF Tryd.runUnderlying39 rfl) fun a hF => ?_
      refine ls <| q1 hF rfl (e_neq hF rfl rfl) fun a hF => ?_
      refine ls <| q1 hF rfl (e_as (e_move hF rfl) (congrArg Value.bool hb17)) fun a hF => ?_
      refine ls <| gn hF rfl rfl rfl rfl fun a hF => ?_
      refine ls <| gn hF rfl rfl rfl rfl fun a hF => ?_
      refine ls <| gn hF rfl rfl rfl rfl fun a hF => ?_
      refine ls <| gn hF rfl rfl rfl rfl fun a hF => ?_
      refine ls <| gnu hF rfl rfl rfl fun a hF => ?_
      refine ls <| gnu hF rfl rfl rfl fun a hF => ?_
      refine ls <| gnu hF rfl rfl rfl fun a hF => ?_
      refine ls <| gnu hF rfl rfl rfl fun a hF => ?_
      refine ls <| gnu hF rfl rfl rfl fun a hF => ?_
      refine ls <| gnu hF rfl rfl rfl fun a hF => ?_
      refine ls <| gnu hF rfl rfl rfl fun a hF => ?_
      refine ls <| gnu hF rfl rfl rfl fun a hF => ?_
      refine ls <| gn hF rfl rfl rfl rfl fun a hF => ?_
      refine ls <| q1 hF rfl (e_pickT hF rfl rfl) fun a hF => ?_
      refine re <| ?_
      refine tn <| ?_
      exact ⟨true, H, oa2, cap3, oa7, cap8, oa12, cap13, hm, (Ext.refl _ _), hF.has ⟨rfl, rfl, rfl, rfl, rfl, trivial⟩, hS, hc4, hr5, hc9, hr10, hc14, hr15⟩
    ·
      replace hm := itp_f hm hb17
      rcases bdich (decide (0 < (p1.length : Int))) with hb18 | hb18
      ·
        replace hm := itp_t hm hb18
        replace hm := bind_some hm
        obtain ⟨r19, h20, hm⟩ := hm
        rcases bdich (decide (r19 = 0)) with hb21 | hb21
        ·
          replace hm := itp_t hm hb21
          refine rg <| ?_
          refine ls <| q1 hF rfl (e_move hF rfl) fun a hF => ?_
          refine ls <| q1 hF rfl (e_lenL (α := api_Event) (xs := p1) hF Tryd.runUnderlying39 rfl) fun a hF => ?_
          refine ls <| q1 hF rfl (e_move hF rfl) fun a hF => ?_
          refine ls <| q1 hF rfl (e_lenL (α := api_Event) (xs := p6) hF Tryd.runUnderlying39 rfl) fun a hF => ?_
          refine ls <| q1 hF rfl (e_neq hF rfl rfl) fun a hF => ?_
          refine ls <| q1 hF rfl (e_as (e_move hF rfl) (congrArg Value.bool hb17)) fun a hF => ?_
          refine ls <| gy hF rfl rfl <| q1 hF rfl (e_move hF rfl) fun a hF => ?_
          refine ls <| gy hF rfl rfl <| q1 hF rfl (e_lenL (α := api_Event) (xs := p1) hF Tryd.runUnderlying39 rfl) fun a hF => ?_
          refine ls <| gy hF rfl rfl <| q1 hF rfl (e_gtr hF rfl rfl) fun a hF => ?_
          refine ls <| gy hF rfl rfl <| q1 hF rfl (e_as (e_move hF rfl) (congrArg Value.bool hb18)) fun a hF => ?_
          refine ls <| gy hF rfl rfl <| q1 hF rfl (e_move hF rfl) fun a hF => ?_
          refine ls <| gy hF rfl rfl <| c1 hF rfl Tryd.call51 (leadlineref16_Threads_c (hp_le _) hc4 (St.srH hS hr5) h20) ⟨rfl, trivial⟩ (fun v w a hR hF => ?_)
          obtain ⟨rfl, hk⟩ := hR
          replace hS := hS.pass hk
          clear hk
          refine ls <| gy hF rfl rfl <| q1 hF rfl (e_eql hF rfl rfl) fun a hF => ?_
          refine ls <| gy hF rfl rfl <| q1 hF rfl (e_as (e_move hF rfl) (congrArg Value.bool hb21)) fun a hF => ?_
          refine ls <| gn hF rfl rfl rfl rfl fun a hF => ?_
          refine ls <| gn hF rfl rfl rfl rfl fun a hF => ?_
          refine ls <| gn hF rfl rfl rfl rfl fun a hF => ?_
          refine ls <| gy hF rfl rfl <| q1 hF rfl (e_pickT hF rfl rfl) fun a hF => ?_
          refine ls <| gy hF rfl rfl <| q1 hF rfl (e_pickT hF rfl rfl) fun a hF => ?_
          refine ls <| q1 hF rfl (e_pickF hF rfl rfl) fun a hF => ?_
          refine re <| ?_
          refine tn <| ?_
          exact ⟨true, H, oa2, cap3, oa7, cap8, oa12, cap13, hm, (Ext.refl _ _), hF.has ⟨rfl, rfl, rfl, rfl, rfl, trivial⟩, hS, hc4, hr5, hc9, hr10, hc14, hr15⟩
        ·
          replace hm := itp_f hm hb21
          replace hm := bind_some hm
          obtain ⟨r22, h23, hm⟩ := hm
          refine rg <| ?_
          refine ls <| q1 hF rfl (e_move hF rfl) fun a hF => ?_
          refine ls <| q1 hF rfl (e_lenL (α := api_Event) (xs := p1) hF Tryd.runUnderlying39 rfl) fun a hF => ?_
          refine ls <| q1 hF rfl (e_move hF rfl) fun a hF => ?_
          refine ls <| q1 hF rfl (e_lenL (α := api_Event) (xs := p6) hF Tryd.runUnderlying39 rfl) fun a hF => ?_
          refine ls <| q1 hF rfl (e_neq hF rfl rfl) fun a hF => ?_
          refine ls <| q1 hF rfl (e_as (e_move hF rfl) (congrArg Value.bool hb17)) fun a hF => ?_
          refine ls <| gy hF rfl rfl <| q1 hF rfl (e_move hF rfl) fun a hF => ?_
          refine ls <| gy hF rfl rfl <| q1 hF rfl (e_lenL (α := api_Event) (xs := p1) hF Tryd.runUnderlying39 rfl) fun a hF => ?_
          refine ls <| gy hF rfl rfl <| q1 hF rfl (e_gtr hF rfl rfl) fun a hF => ?_
          refine ls <| gy hF rfl rfl <| q1 hF rfl (e_as (e_move hF rfl) (congrArg Value.bool hb18)) fun a hF => ?_
          refine ls <| gy hF rfl rfl <| q1 hF rfl (e_move hF rfl) fun a hF => ?_
          refine ls <| gy hF rfl rfl <| c1 hF rfl Tryd.call51 (leadlineref16_Threads_c (hp_le _) hc4 (St.srH hS hr5) h20) ⟨rfl, trivial⟩ (fun v w a hR hF => ?_)
          obtain ⟨rfl, hk⟩ := hR
          replace hS := hS.pass hk
          clear hk
          refine ls <| gy hF rfl rfl <| q1 hF rfl (e_eql hF rfl rfl) fun a hF => ?_
          refine ls <| gy hF rfl rfl <| q1 hF rfl (e_as (e_move hF rfl) (congrArg Value.bool hb21)) fun a hF => ?_
          refine ls <| gy hF rfl rfl <| q1 hF rfl (e_move hF rfl) fun a hF => ?_
          refine ls <| gy hF rfl rfl <| c1 hF rfl Tryd.call51 (leadlineref16_Threads_c (hp_le _) hc9 (St.srH hS hr10) h23) ⟨rfl, trivial⟩ (fun v w a hR hF => ?_)
          obtain ⟨rfl, hk⟩ := hR
          replace hS := hS.pass hk
          clear hk
          refine ls <| gy hF rfl rfl <| q1 hF rfl (e_eql hF rfl rfl) fun a hF => ?_
          refine ls <| gy hF rfl rfl <| q1 hF rfl (e_pickF hF rfl rfl) fun a hF => ?_
          refine ls <| gy hF rfl rfl <| q1 hF rfl (e_pickT hF rfl rfl) fun a hF => ?_
          refine ls <| q1 hF rfl (e_pickF hF rfl rfl) fun a hF => ?_
          refine re <| ?_
          refine tn <| ?_
          exact ⟨(decide (r22 = 0)), H, oa2, cap3, oa7, cap8, oa12, cap13, hm, (Ext.refl _ _), hF.has ⟨rfl, rfl, rfl, rfl, rfl, trivial⟩, hS, hc4, hr5, hc9, hr10, hc14, hr15⟩
      ·
        replace hm := itp_f hm hb18
        refine rg <| ?_
        refine ls <| q1 hF rfl (e_move hF rfl) fun a hF => ?_
        refine ls <| q1 hF rfl (e_lenL (α := api_Event) (xs := p1) hF Tryd.runUnderlying39 rfl) fun a hF => ?_
        refine ls <| q1 hF rfl (e_move hF rfl) fun a hF => ?_
        refine ls <| q1 hF rfl (e_lenL (α := api_Event) (xs := p6) hF Tryd.runUnderlying39 rfl) fun a hF => ?_
        refine ls <| q1 hF rfl (e_neq hF rfl rfl) fun a hF => ?_
        refine ls <| q1 hF rfl (e_as (e_move hF rfl) (congrArg Value.bool hb17)) fun a hF => ?_
        refine ls <| gy hF rfl rfl <| q1 hF rfl (e_move hF rfl) fun a hF => ?_
        refine ls <| gy hF rfl rfl <| q1 hF rfl (e_lenL (α := api_Event) (xs := p1) hF Tryd.runUnderlying39 rfl) fun a hF => ?_
        refine ls <| gy hF rfl rfl <| q1 hF rfl (e_gtr hF rfl rfl) fun a hF => ?_
        refine ls <| gy hF rfl rfl <| q1 hF rfl (e_as (e_move hF rfl) (congrArg Value.bool hb18)) fun a hF => ?_
        refine ls <| gn hF rfl rfl rfl rfl fun a hF => ?_
        refine ls <| gn hF rfl rfl rfl rfl fun a hF => ?_
        refine ls <| gn hF rfl rfl rfl rfl fun a hF => ?_
        refine ls <| gn hF rfl rfl rfl rfl fun a hF => ?_
        refine ls <| gnu hF rfl rfl rfl fun a hF => ?_
        refine ls <| gnu hF rfl rfl rfl fun a hF => ?_
        refine ls <| gnu hF rfl rfl rfl fun a hF => ?_
        refine ls <| gn hF rfl rfl rfl rfl fun a hF => ?_
        refine ls <| gy hF rfl rfl <| q1 hF rfl (e_pickF hF rfl rfl) fun a hF => ?_
        refine ls <| q1 hF rfl (e_pickF hF rfl rfl) fun a hF => ?_
        refine re <| ?_
        refine tn <| ?_
        exact ⟨false, H, oa2, cap3, oa7, cap8, oa12, cap13, hm, (Ext.refl _ _), hF.has ⟨rfl, rfl, rfl, rfl, rfl, trivial⟩, hS, hc4, hr5, hc9, hr10, hc14, hr15⟩
  clear hm hF hS
  rintro a w ⟨vA14, HA1, oaA2, capA3, oaA6, capA7, oaA10, capA11, hm, hxHA1, hF, hS, hcA4, hrA5, hcA8, hrA9, hcA12, hrA13⟩
  unfold leadlineref17_Same_j1 at hm
  rcases bdich vA14 with hb24 | hb24
  ·
    replace hm := ite_t hm hb24
    refine ctv hF rfl hb24 <| th <| ?_
    refine rg <| ?_
    refine ls <| q1 hF rfl (e_asg hF rfl) fun a hF => ?_
    refine re <| ?_
    refine tn <| ?_
    refine wp_ret <| tr <| ?_
    obtain rfl := Option.some.inj hm
    exact r1 hF Tryd.results32 rfl ⟨rfl, hS.keep⟩
  ·
    replace hm := ite_f hm hb24
    refine cfv hF rfl hb24 <| wp_skip <| ?_
    refine tn <| th <| ?_
    refine rg <| ?_
    refine ls <| a_bsl (e := 3) (sz := 1) [] hF rfl hS rfl rfl rfl (fun w => by kernel_rfl) fun b26 w a hS hF => ?_
    have hv25 : Rows (α := Int) HA1 [] [] := .nil
    refine ls <| q1 hF rfl (e_asg hF rfl) fun a hF => ?_
    refine re <| ?_
    refine tn <| th <| th <| ?_
    refine rg <| ?_
    refine ls <| q1 hF rfl (e_asg hF rfl) fun a hF => ?_
    refine re <| ?_
    refine tn <| midK (fun a w => ∃ (vA15 : (List Int)) (oaA16 : Option Addr) (capA17 : Nat) (vsA18 : List Value), (leadlineref17_Same_j2 N p1 p11 p16) vA15 = some r ∧ Fr 134 [(0, .slice oaA2 p1.length capA3), (2, .slice oaA10 p11.length capA11), (3, .int .i64 p16), (9, .slice oaA16 vA15.length capA17)] a ∧ St w0 Nil [HA1] [sla 3 1 oaA16 vA15.length capA17 vsA18] w ∧ Rows HA1 vsA18 vA15) ?_ ?_
    ·
      refine wp_block <| lp (α := Nat × (List Int) × Int) (fun (gh : Nat × (List Int) × Int) a w => match gh with | (nn3, vB1, vB7) => ∃ (oaB2 : Option Addr) (capB3 : Nat) (vsB4 : List Value), (leadlineref17_Same_l3 N (leadlineref17_Same_j2 N p1 p11 p16) p1 p6) nn3 vB1 vB7 = some r ∧ Fr 134 [(0, .slice oaA2 p1.length capA3), (1, .slice oaA6 p6.length capA7), (2, .slice oaA10 p11.length capA11), (3, .int .i64 p16), (9, .slice oaB2 vB1.length capB3), (10, .int .i64 vB7)] a ∧ St w0 Nil [HA1] [sla 3 1 oaB2 vB1.length capB3 vsB4] w ∧ Rows HA1 vsB4 vB1) (fun gh => gh.1) (N, [], 0) ⟨(some ⟨b26, 0, none⟩), 0, [], hm, hF.has ⟨rfl, rfl, rfl, rfl, rfl, rfl, trivial⟩, hS, hv25⟩ ?_
      clear hm hF hS
      rintro ⟨nn3, vB1, vB7⟩ a w ⟨oaB2, capB3, vsB4, hm, hF, hS, hvB5⟩
      obtain _ | nn3 := nn3
      · simp [leadlineref17_Same_l3] at hm
      rw [leadlineref17_Same_l3] at hm
      refine th <| th <| ?_
      refine rg <| ?_
      refine ls <| q1 hF rfl (e_move hF rfl) fun a hF => ?_
      refine ls <| q1 hF rfl (e_move hF rfl) fun a hF => ?_
      refine ls <| q1 hF rfl (e_lenL (α := api_Event) (xs := p1) hF Tryd.runUnderlying39 rfl) fun a hF => ?_
      refine ls <| q1 hF rfl (e_lss hF rfl rfl) fun a hF => ?_
      refine re <| ?_
      rcases bdich (decide (vB7 < (p1.length : Int))) with hb28 | hb28
      ·
        replace hm := itp_t hm hb28
        refine tn <| ctv hF rfl hb28 <| wp_skip <| ?_
        refine tn <| th <| midK (fun a w => ∃ (vC1 : (List Int)) (oaC2 : Option Addr) (capC3 : Nat) (vsC4 : List Value), (leadlineref17_Same_j4 (leadlineref17_Same_l3 N (leadlineref17_Same_j2 N p1 p11 p16) p1 p6 nn3) vB7) vC1 = some r ∧ Fr 134 [(0, .slice oaA2 p1.length capA3), (1, .slice oaA6 p6.length capA7), (2, .slice oaA10 p11.length capA11), (3, .int .i64 p16), (9, .slice oaC2 vC1.length capC3), (10, .int .i64 vB7)] a ∧ St w0 Nil [HA1] [sla 3 1 oaC2 vC1.length capC3 vsC4] w ∧ Rows HA1 vsC4 vC1) ?_ ?_
        ·
          refine wp_block <| th <| ?_
          refine rg <| ?_
          refine ls <| q1 hF rfl (e_asg hF rfl) fun a hF => ?_
          refine re <| ?_
          refine tn <| th <| th <| ?_
          refine rg <| ?_
          refine ls <| q1 hF rfl (e_asg hF rfl) fun a hF => ?_
          refine re <| ?_
          refine tn <| midK (fun a w => ∃ (vD1 : Int), (leadlineref17_Same_j5 N (leadlineref17_Same_j4 (leadlineref17_Same_l3 N (leadlineref17_Same_j2 N p1 p11 p16) p1 p6 nn3) vB7) p1 p6 vB1 vB7) vD1 = some r ∧ Fr 134 [(0, .slice oaA2 p1.length capA3), (1, .slice oaA6 p6.length capA7), (2, .slice oaA10 p11.length capA11), (3, .int .i64 p16), (9, .slice oaB2 vB1.length capB3), (10, .int .i64 vB7), (11, .int .i64 vD1)] a ∧ St w0 Nil [HA1] [sla 3 1 oaB2 vB1.length capB3 vsB4] w) ?_ ?_
          ·
            refine wp_block <| lp (α := Nat × Int × Int) (fun (gh : Nat × Int × Int) a w => match gh with | (nn6, vE1, vE2) => (leadlineref17_Same_l6 N (leadlineref17_Same_j5 N (leadlineref17_Same_j4 (leadlineref17_Same_l3 N (leadlineref17_Same_j2 N p1 p11 p16) p1 p6 nn3) vB7) p1 p6 vB1 vB7) p1 vB7) nn6 vE1 vE2 = some r ∧ Fr 134 [(0, .slice oaA2 p1.length capA3), (1, .slice oaA6 p6.length capA7), (2, .slice oaA10 p11.length capA11), (3, .int .i64 p16), (9, .slice oaB2 vB1.length capB3), (10, .int .i64 vB7), (11, .int .i64 vE1), (12, .int .i64 vE2)] a ∧ St w0 Nil [HA1] [sla 3 1 oaB2 vB1.length capB3 vsB4] w) (fun gh => gh.1) (N, 0, 0) ⟨hm, hF.has ⟨rfl, rfl, rfl, rfl, rfl, rfl, rfl, rfl, trivial⟩, hS⟩ ?_
            clear hm hF hS
            rintro ⟨nn6, vE1, vE2⟩ a w ⟨hm, hF, hS⟩
            obtain _ | nn6 := nn6
            · simp [leadlineref17_Same_l6] at hm
            rw [leadlineref17_Same_l6] at hm
            refine th <| th <| ?_
            refine rg <| ?_
            refine ls <| q1 hF rfl (e_move hF rfl) fun a hF => ?_
            refine ls <| q1 hF rfl (e_move hF rfl) fun a hF => ?_
            refine ls <| q1 hF rfl (e_lss hF rfl rfl) fun a hF => ?_
            refine re <| ?_
            rcases bdich (decide (vE2 < vB7)) with hb29 | hb29
            ·
              replace hm := itp_t hm hb29
              refine tn <| ctv hF rfl hb29 <| wp_skip <| ?_
              refine tn <| th <| midK (fun a w => ∃ (vF1 : Int), (leadlineref17_Same_j7 (leadlineref17_Same_l6 N (leadlineref17_Same_j5 N (leadlineref17_Same_j4 (leadlineref17_Same_l3 N (leadlineref17_Same_j2 N p1 p11 p16) p1 p6 nn3) vB7) p1 p6 vB1 vB7) p1 vB7 nn6) vE2) vF1 = some r ∧ Fr 134 [(0, .slice oaA2 p1.length capA3), (1, .slice oaA6 p6.length capA7), (2, .slice oaA10 p11.length capA11), (3, .int .i64 p16), (9, .slice oaB2 vB1.length capB3), (10, .int .i64 vB7), (11, .int .i64 vF1), (12, .int .i64 vE2)] a ∧ St w0 Nil [HA1] [sla 3 1 oaB2 vB1.length capB3 vsB4] w) ?_ ?_
              ·
                refine wp_block <| th <| ?_
                replace hm := bind_some hm
                obtain ⟨x30, h31, hm⟩ := hm
                obtain ⟨c32, g33, hl34⟩ := SR.get hrA5 h31
                obtain rfl := api_Event_open g33
                replace hm := bind_some hm
                obtain ⟨x35, h36, hm⟩ := hm
                obtain ⟨c37, g38, hl39⟩ := SR.get hrA5 h36
                obtain rfl := api_Event_open g38
                refine rxS 11 hS wide (by kernel_rfl) fun w hS => ?_
                refine x1 (St.ld hS) hF rfl rfl (fun _ _ _ h => h) (fun w hl => (e_move hF rfl)) fun a hF => ?_
                refine x1 (St.ld hS) hF rfl rfl (fun _ _ _ h => h) (fun w hl => (e_move hF rfl)) fun a hF => ?_
                refine x1 (St.ld hS) hF rfl rfl (fun _ _ _ h => h) (fun w hl => (e_iaI hF Tryd.runUnderlying39 Tryd.sizeOf23 rfl rfl h31 (SR.oaI hrA5 (by decide) h31))) fun a hF => ?_
                refine x1 (St.ld hS) hF rfl rfl (fun _ _ _ h => h) (fun w hl => (e_fa hF fa23_1 rfl)) fun a hF => ?_
                refine x1 (St.ld hS) hF rfl rfl (fun _ _ _ h => h) (fun w hl => (e_ld hF Tryd.isAgg3 rfl (PH.le.cell (Lds.le hl) (hl34 1 _ rfl)))) fun a hF => ?_
                refine x1 (St.ld hS) hF rfl rfl (fun _ _ _ h => h) (fun w hl => (e_move hF rfl)) fun a hF => ?_
                refine x1 (St.ld hS) hF rfl rfl (fun _ _ _ h => h) (fun w hl => (e_move hF rfl)) fun a hF => ?_
                refine x1 (St.ld hS) hF rfl rfl (fun _ _ _ h => h) (fun w hl => (e_iaI hF Tryd.runUnderlying39 Tryd.sizeOf23 rfl rfl h36 (SR.oaI hrA5 (by decide) h36))) fun a hF => ?_
                refine x1 (St.ld hS) hF rfl rfl (fun _ _ _ h => h) (fun w hl => (e_fa hF fa23_1 rfl)) fun a hF => ?_
                refine x1 (St.ld hS) hF rfl rfl (fun _ _ _ h => h) (fun w hl => (e_ld hF Tryd.isAgg3 rfl (PH.le.cell (Lds.le hl) (hl39 1 _ rfl)))) fun a hF => ?_
                refine x1 (St.ld hS) hF rfl rfl (fun _ _ _ h => h) (fun w hl => (e_eql hF rfl rfl)) fun a hF => ?_
                refine xe <| ?_
                rcases bdich (decide (x30.T = x35.T)) with hb40 | hb40
                ·
                  replace hm := itp_t hm hb40
                  refine tn <| ctv hF rfl hb40 <| ?_
                  refine rg <| ?_
                  refine ls <| q1 hF rfl (e_move hF rfl) fun a hF => ?_
                  refine ls <| q1 hF rfl (e_add hF rfl rfl) fun a hF => ?_
                  refine ls <| q1 hF rfl (e_asg hF rfl) fun a hF => ?_
                  refine re <| ?_
                  refine bn <| tn <| ?_
                  exact ⟨(IntKind.i64.wrap (vE1 + 1)), hm, hF.has ⟨rfl, rfl, rfl, rfl, rfl, rfl, rfl, rfl, trivial⟩, hS⟩
                ·
                  replace hm := itp_f hm hb40
                  refine tn <| cfv hF rfl hb40 <| wp_skip <| ?_
                  refine bn <| tn <| ?_
                  exact ⟨vE1, hm, hF.has ⟨rfl, rfl, rfl, rfl, rfl, rfl, rfl, rfl, trivial⟩, hS⟩
              clear hm hF hS
              rintro a w ⟨vF1, hm, hF, hS⟩
              unfold leadlineref17_Same_j7 at hm
              refine rg <| ?_
              refine ls <| q1 hF rfl (e_move hF rfl) fun a hF => ?_
              refine ls <| q1 hF rfl (e_add hF rfl rfl) fun a hF => ?_
              refine ls <| q1 hF rfl (e_asg hF rfl) fun a hF => ?_
              refine re <| ?_
              refine tn <| ?_
              exact ⟨(nn6, vF1, (IntKind.i64.wrap (vE2 + 1))), ⟨hm, hF.has ⟨rfl, rfl, rfl, rfl, rfl, rfl, rfl, rfl, trivial⟩, hS⟩, Nat.lt_succ_self _⟩
            ·
              replace hm := itp_f hm hb29
              refine tn <| cfv hF rfl hb29 <| ?_
              refine wp_exit <| tx <| tx <| bx <| ?_
              refine tn <| ?_
              exact ⟨vE1, hm, hF.has ⟨rfl, rfl, rfl, rfl, rfl, rfl, rfl, trivial⟩, hS⟩
          clear hm hF hS
          rintro a w ⟨vD1, hm, hF, hS⟩
          unfold leadlineref17_Same_j5 at hm
          refine th <| ?_
          refine rg <| ?_
          refine ls <| q1 hF rfl (e_asg hF rfl) fun a hF => ?_
          refine re <| ?_
          refine tn <| th <| th <| ?_
          refine rg <| ?_
          refine ls <| q1 hF rfl (e_asg hF rfl) fun a hF => ?_
          refine re <| ?_
          refine tn <| midK (fun a w => ∃ (vD2 : Int), (leadlineref17_Same_j8 (leadlineref17_Same_j4 (leadlineref17_Same_l3 N (leadlineref17_Same_j2 N p1 p11 p16) p1 p6 nn3) vB7) vB1) vD2 = some r ∧ Fr 134 [(0, .slice oaA2 p1.length capA3), (1, .slice oaA6 p6.length capA7), (2, .slice oaA10 p11.length capA11), (3, .int .i64 p16), (9, .slice oaB2 vB1.length capB3), (10, .int .i64 vB7), (13, .int .i64 vD2)] a ∧ St w0 Nil [HA1] [sla 3 1 oaB2 vB1.length capB3 vsB4] w) ?_ ?_
          ·
            refine wp_block <| lp (α := Nat × Int × Int × Int) (fun (gh : Nat × Int × Int × Int) a w => match gh with | (nn9, vE3, vE4, vE5) => (leadlineref17_Same_l9 N (leadlineref17_Same_j8 (leadlineref17_Same_j4 (leadlineref17_Same_l3 N (leadlineref17_Same_j2 N p1 p11 p16) p1 p6 nn3) vB7) vB1) p1 p6 vB7) nn9 vE3 vE4 vE5 = some r ∧ Fr 134 [(0, .slice oaA2 p1.length capA3), (1, .slice oaA6 p6.length capA7), (2, .slice oaA10 p11.length capA11), (3, .int .i64 p16), (9, .slice oaB2 vB1.length capB3), (10, .int .i64 vB7), (11, .int .i64 vE3), (13, .int .i64 vE4), (14, .int .i64 vE5)] a ∧ St w0 Nil [HA1] [sla 3 1 oaB2 vB1.length capB3 vsB4] w) (fun gh => gh.1) (N, vD1, (-1), 0) ⟨hm, hF.has ⟨rfl, rfl, rfl, rfl, rfl, rfl, rfl, rfl, rfl, trivial⟩, hS⟩ ?_
            clear hm hF hS
            rintro ⟨nn9, vE3, vE4, vE5⟩ a w ⟨hm, hF, hS⟩
            obtain _ | nn9 := nn9
            · simp [leadlineref17_Same_l9] at hm
            rw [leadlineref17_Same_l9] at hm
            refine th <| th <| ?_
            refine rg <| ?_
            refine ls <| q1 hF rfl (e_move hF rfl) fun a hF => ?_
            refine ls <| q1 hF rfl (e_move hF rfl) fun a hF => ?_
            refine ls <| q1 hF rfl (e_lenL (α := api_Event) (xs := p6) hF Tryd.runUnderlying39 rfl) fun a hF => ?_
            refine ls <| q1 hF rfl (e_lss hF rfl rfl) fun a hF => ?_
            refine re <| ?_
            rcases bdich (decide (vE5 < (p6.length : Int))) with hb41 | hb41
            ·
              replace hm := itp_t hm hb41
              refine tn <| ctv hF rfl hb41 <| wp_skip <| ?_
              refine tn <| th <| midK (fun a w => ∃ (vF2 : Int) (vF3 : Int), (leadlineref17_Same_j10 (leadlineref17_Same_l9 N (leadlineref17_Same_j8 (leadlineref17_Same_j4 (leadlineref17_Same_l3 N (leadlineref17_Same_j2 N p1 p11 p16) p1 p6 nn3) vB7) vB1) p1 p6 vB7 nn9) vE5) vF2 vF3 = some r ∧ Fr 134 [(0, .slice oaA2 p1.length capA3), (1, .slice oaA6 p6.length capA7), (2, .slice oaA10 p11.length capA11), (3, .int .i64 p16), (9, .slice oaB2 vB1.length capB3), (10, .int .i64 vB7), (11, .int .i64 vF2), (13, .int .i64 vF3), (14, .int .i64 vE5)] a ∧ St w0 Nil [HA1] [sla 3 1 oaB2 vB1.length capB3 vsB4] w) ?_ ?_
              ·
                refine wp_block <| th <| ?_
                replace hm := bind_some hm
                obtain ⟨x42, h43, hm⟩ := hm
                obtain ⟨c44, g45, hl46⟩ := SR.get hrA9 h43
                obtain rfl := api_Event_open g45
                replace hm := bind_some hm
                obtain ⟨x47, h48, hm⟩ := hm
                obtain ⟨c49, g50, hl51⟩ := SR.get hrA5 h48
                obtain rfl := api_Event_open g50
                refine rxS 11 hS wide (by kernel_rfl) fun w hS => ?_
                refine x1 (St.ld hS) hF rfl rfl (fun _ _ _ h => h) (fun w hl => (e_move hF rfl)) fun a hF => ?_
                refine x1 (St.ld hS) hF rfl rfl (fun _ _ _ h => h) (fun w hl => (e_move hF rfl)) fun a hF => ?_
                refine x1 (St.ld hS) hF rfl rfl (fun _ _ _ h => h) (fun w hl => (e_iaI hF Tryd.runUnderlying39 Tryd.sizeOf23 rfl rfl h43 (SR.oaI hrA9 (by decide) h43))) fun a hF => ?_
                refine x1 (St.ld hS) hF rfl rfl (fun _ _ _ h => h) (fun w hl => (e_fa hF fa23_1 rfl)) fun a hF => ?_
                refine x1 (St.ld hS) hF rfl rfl (fun _ _ _ h => h) (fun w hl => (e_ld hF Tryd.isAgg3 rfl (PH.le.cell (Lds.le hl) (hl46 1 _ rfl)))) fun a hF => ?_
                refine x1 (St.ld hS) hF rfl rfl (fun _ _ _ h => h) (fun w hl => (e_move hF rfl)) fun a hF => ?_
                refine x1 (St.ld hS) hF rfl rfl (fun _ _ _ h => h) (fun w hl => (e_move hF rfl)) fun a hF => ?_
                refine x1 (St.ld hS) hF rfl rfl (fun _ _ _ h => h) (fun w hl => (e_iaI hF Tryd.runUnderlying39 Tryd.sizeOf23 rfl rfl h48 (SR.oaI hrA5 (by decide) h48))) fun a hF => ?_
                refine x1 (St.ld hS) hF rfl rfl (fun _ _ _ h => h) (fun w hl => (e_fa hF fa23_1 rfl)) fun a hF => ?_
                refine x1 (St.ld hS) hF rfl rfl (fun _ _ _ h => h) (fun w hl => (e_ld hF Tryd.isAgg3 rfl (PH.le.cell (Lds.le hl) (hl51 1 _ rfl)))) fun a hF => ?_
                refine x1 (St.ld hS) hF rfl rfl (fun _ _ _ h => h) (fun w hl => (e_eql hF rfl rfl)) fun a hF => ?_
                refine xe <| ?_
                rcases bdich (decide (x42.T = x47.T)) with hb52 | hb52
                ·
                  replace hm := itp_t hm hb52
                  refine tn <| ctv hF rfl hb52 <| th <| th <| ?_
                  refine rxS 13 hS wide (by kernel_rfl) fun w hS => ?_
                  refine x1 (St.ld hS) hF rfl rfl (fun _ _ _ h => h) (fun w hl => (e_move hF rfl)) fun a hF => ?_
                  refine x1 (St.ld hS) hF rfl rfl (fun _ _ _ h => h) (fun w hl => (e_eql hF rfl rfl)) fun a hF => ?_
                  refine x1 (St.ld hS) hF rfl rfl (fun _ _ _ h => h) (fun w hl => (e_move hF rfl)) fun a hF => ?_
                  refine grpX (N := 134) (Fk := [(0, .slice oaA2 p1.length capA3), (1, .slice oaA6 p6.length capA7), (2, .slice oaA10 p11.length capA11), (3, .int .i64 p16), (9, .slice oaB2 vB1.length capB3), (10, .int .i64 vB7), (11, .int .i64 vE3), (13, .int .i64 vE4), (14, .int .i64 vE5), (91, .bool ((decide (vE3 = 0)) && (decide (x42 = x47))))]) (b := (decide (vE3 = 0))) 10 hS ?_ ?_ ?_
                  ·
                    intro hb key
                    replace hF := Fr.as hF (t := 81) rfl (congrArg Value.bool hb)
                    refine x1g (St.ld hS) hF rfl rfl rfl rfl (fun _ _ _ h => h) (fun w hl => (e_move hF rfl)) fun a hF => ?_
                    refine x1g (St.ld hS) hF rfl rfl rfl rfl (fun _ _ _ h => h) (fun w hl => (e_move hF rfl)) fun a hF => ?_
                    refine x1g (St.ld hS) hF rfl rfl rfl rfl (fun _ _ _ h => h) (fun w hl => (e_iaI hF Tryd.runUnderlying39 Tryd.sizeOf23 rfl rfl h43 (SR.oaI hrA9 (by decide) h43))) fun a hF => ?_
                    refine x1g (St.ld hS) hF rfl rfl rfl rfl (fun _ _ _ h => h) (fun w hl => (e_ldA hF Tryd.isAgg23 Tryd.sizeOf23 rfl rfl (fun j v hj => PH.le.cell (Lds.le hl) (hl46 j v hj)))) fun a hF => ?_
                    refine x1g (St.ld hS) hF rfl rfl rfl rfl (fun _ _ _ h => h) (fun w hl => (e_move hF rfl)) fun a hF => ?_
                    refine x1g (St.ld hS) hF rfl rfl rfl rfl (fun _ _ _ h => h) (fun w hl => (e_move hF rfl)) fun a hF => ?_
                    refine x1g (St.ld hS) hF rfl rfl rfl rfl (fun _ _ _ h => h) (fun w hl => (e_iaI hF Tryd.runUnderlying39 Tryd.sizeOf23 rfl rfl h48 (SR.oaI hrA5 (by decide) h48))) fun a hF => ?_
                    refine x1g (St.ld hS) hF rfl rfl rfl rfl (fun _ _ _ h => h) (fun w hl => (e_ldA hF Tryd.isAgg23 Tryd.sizeOf23 rfl rfl (fun j v hj => PH.le.cell (Lds.le hl) (hl51 j v hj)))) fun a hF => ?_
                    refine x1g (St.ld hS) hF rfl rfl rfl rfl (fun _ _ _ h => h) (fun w hl => (api_Event_eql (x := x42) (y := x47) hF rfl rfl)) fun a hF => ?_
                    refine x1 (St.ld hS) hF rfl rfl (fun _ _ _ h => h) (fun w hl => (e_as (v' := .bool ((decide (vE3 = 0)) && (decide (x42 = x47)))) (e_pickT hF rfl rfl) (by rw [hb]; rfl))) fun a hF => ?_
                    exact key _ _ (hF.has ⟨rfl, rfl, rfl, rfl, rfl, rfl, rfl, rfl, rfl, rfl, trivial⟩) hS
                  ·
                    intro hb key
                    replace hF := Fr.as hF (t := 81) rfl (congrArg Value.bool hb)
                    refine x1n (St.ld hS) hF rfl rfl rfl rfl rfl (fun _ _ _ h => h) fun a hF => ?_
                    refine x1n (St.ld hS) hF rfl rfl rfl rfl rfl (fun _ _ _ h => h) fun a hF => ?_
                    refine x1n (St.ld hS) hF rfl rfl rfl rfl rfl (fun _ _ _ h => h) fun a hF => ?_
                    refine x1n (St.ld hS) hF rfl rfl rfl rfl rfl (fun _ _ _ h => h) fun a hF => ?_
                    refine x1n (St.ld hS) hF rfl rfl rfl rfl rfl (fun _ _ _ h => h) fun a hF => ?_
                    refine x1n (St.ld hS) hF rfl rfl rfl rfl rfl (fun _ _ _ h => h) fun a hF => ?_
                    refine x1n (St.ld hS) hF rfl rfl rfl rfl rfl (fun _ _ _ h => h) fun a hF => ?_
                    refine x1n (St.ld hS) hF rfl rfl rfl rfl rfl (fun _ _ _ h => h) fun a hF => ?_
                    refine x1n (St.ld hS) hF rfl rfl rfl rfl rfl (fun _ _ _ h => h) fun a hF => ?_
                    refine x1 (St.ld hS) hF rfl rfl (fun _ _ _ h => h) (fun w hl => (e_as (v' := .bool ((decide (vE3 = 0)) && (decide (x42 = x47)))) (e_pickF hF rfl rfl) (by rw [hb]; rfl))) fun a hF => ?_
                    exact key _ _ (hF.has ⟨rfl, rfl, rfl, rfl, rfl, rfl, rfl, rfl, rfl, rfl, trivial⟩) hS
                  intro a w hF hS
                  refine xe <| ?_
                  refine tn <| midK (fun a w => ∃ (vG1 : Int), (leadlineref17_Same_j11 (leadlineref17_Same_j10 (leadlineref17_Same_l9 N (leadlineref17_Same_j8 (leadlineref17_Same_j4 (leadlineref17_Same_l3 N (leadlineref17_Same_j2 N p1 p11 p16) p1 p6 nn3) vB7) vB1) p1 p6 vB7 nn9) vE5) vE3) vG1 = some r ∧ Fr 134 [(0, .slice oaA2 p1.length capA3), (1, .slice oaA6 p6.length capA7), (2, .slice oaA10 p11.length capA11), (3, .int .i64 p16), (9, .slice oaB2 vB1.length capB3), (10, .int .i64 vB7), (11, .int .i64 vE3), (13, .int .i64 vG1), (14, .int .i64 vE5)] a ∧ St w0 Nil [HA1] [sla 3 1 oaB2 vB1.length capB3 vsB4] w) ?_ ?_
                  ·
                    rcases bdich ((decide (vE3 = 0)) && (decide (x42 = x47))) with hb53 | hb53
                    ·
                      replace hm := ite_t hm hb53
                      refine ctv hF rfl hb53 <| ?_
                      refine rg <| ?_
                      refine ls <| q1 hF rfl (e_move hF rfl) fun a hF => ?_
                      refine ls <| q1 hF rfl (e_asg hF rfl) fun a hF => ?_
                      refine re <| ?_
                      refine tn <| ?_
                      exact ⟨vE5, hm, hF.has ⟨rfl, rfl, rfl, rfl, rfl, rfl, rfl, rfl, rfl, trivial⟩, hS⟩
                    ·
                      replace hm := ite_f hm hb53
                      refine cfv hF rfl hb53 <| wp_skip <| ?_
                      refine tn <| ?_
                      exact ⟨vE4, hm, hF.has ⟨rfl, rfl, rfl, rfl, rfl, rfl, rfl, rfl, rfl, trivial⟩, hS⟩
                  clear hm hF hS
                  rintro a w ⟨vG1, hm, hF, hS⟩
                  unfold leadlineref17_Same_j11 at hm
                  refine rg <| ?_
                  refine ls <| q1 hF rfl (e_move hF rfl) fun a hF => ?_
                  refine ls <| q1 hF rfl (e_sub hF rfl rfl) fun a hF => ?_
                  refine ls <| q1 hF rfl (e_asg hF rfl) fun a hF => ?_
                  refine re <| ?_
                  refine bn <| tn <| ?_
                  exact ⟨(IntKind.i64.wrap (vE3 - 1)), vG1, hm, hF.has ⟨rfl, rfl, rfl, rfl, rfl, rfl, rfl, rfl, rfl, trivial⟩, hS⟩
                ·
                  replace hm := itp_f hm hb52
                  refine tn <| cfv hF rfl hb52 <| wp_skip <| ?_
                  refine bn <| tn <| ?_
                  exact ⟨vE3, vE4, hm, hF.has ⟨rfl, rfl, rfl, rfl, rfl, rfl, rfl, rfl, rfl, trivial⟩, hS⟩
              clear hm hF hS
              rintro a w ⟨vF2, vF3, hm, hF, hS⟩
              unfold leadlineref17_Same_j10 at hm
              refine rg <| ?_
              refine ls <| q1 hF rfl (e_move hF rfl) fun a hF => ?_
              refine ls <| q1 hF rfl (e_add hF rfl rfl) fun a hF => ?_
              refine ls <| q1 hF rfl (e_asg hF rfl) fun a hF => ?_
              refine re <| ?_
              refine tn <| ?_
              exact ⟨(nn9, vF2, vF3, (IntKind.i64.wrap (vE5 + 1))), ⟨hm, hF.has ⟨rfl, rfl, rfl, rfl, rfl, rfl, rfl, rfl, rfl, trivial⟩, hS⟩, Nat.lt_succ_self _⟩
            ·
              replace hm := itp_f hm hb41
              refine tn <| cfv hF rfl hb41 <| ?_
              refine wp_exit <| tx <| tx <| bx <| ?_
              refine tn <| ?_
              exact ⟨vE4, hm, hF.has ⟨rfl, rfl, rfl, rfl, rfl, rfl, rfl, trivial⟩, hS⟩
          clear hm hF hS
          rintro a w ⟨vD2, hm, hF, hS⟩
          unfold leadlineref17_Same_j8 at hm
          refine th <| th <| ?_
          refine rg <| ?_
          refine ls <| q1 hF rfl (e_move hF rfl) fun a hF => ?_
          refine ls <| q1 hF rfl (e_lss hF rfl rfl) fun a hF => ?_
          refine re <| ?_
          rcases bdich (decide (vD2 < 0)) with hb54 | hb54
          ·
            replace hm := itp_t hm hb54
            refine tn <| ctv hF rfl hb54 <| th <| ?_
            refine rg <| ?_
            refine ls <| q1 hF rfl (e_asg hF rfl) fun a hF => ?_
            refine re <| ?_
            refine tn <| ?_
            refine wp_ret <| tr <| br <| tr <| tr <| br <| tr <| ?_
            obtain rfl := Option.some.inj hm
            exact r1 hF Tryd.results32 rfl ⟨rfl, hS.keep⟩
          ·
            replace hm := itp_f hm hb54
            refine tn <| cfv hF rfl hb54 <| wp_skip <| ?_
            refine tn <| ?_
            replace hm := bind_some hm
            obtain ⟨l58, h59, hm⟩ := hm
            refine rg <| ?_
            refine ls <| q1 hF rfl (e_move hF rfl) fun a hF => ?_
            refine ls <| q1 hF rfl (e_move hF rfl) fun a hF => ?_
            refine ls <| a_bsl (e := 3) (sz := 1) [.int .i64 vD2] hF rfl hS rfl rfl rfl (fun w => by kernel_rfl) fun b56 w a hS hF => ?_
            have hv55 : Rows (α := Int) HA1 [.int .i64 vD2] ([vD2] : List Int) := (.cons (c := [.int .i64 vD2]) rfl .nil)
            refine ls <| m_app (α := Int) (xs := vB1) (ys := ([vD2] : List Int)) hF rfl hS Tryd.underlying25 info3 rfl (by decide) rfl rfl rfl (.tail _ (.head _)) hvB5 (hS.rdO (.head _)) hv55 h59 fun oa60 cap61 vs62 w a hv63 hU hF => ?_
            replace hS := hU _ (.tail .head)
            clear hU
            replace hS := hS.drop .head
            refine ls <| q1 hF rfl (e_asg hF rfl) fun a hF => ?_
            refine re <| ?_
            refine bn <| tn <| ?_
            exact ⟨l58, oa60, cap61, vs62, hm, hF.has ⟨rfl, rfl, rfl, rfl, rfl, rfl, trivial⟩, hS, hv63⟩
        clear hm hF hS
        rintro a w ⟨vC1, oaC2, capC3, vsC4, hm, hF, hS, hvC5⟩
        unfold leadlineref17_Same_j4 at hm
        refine rg <| ?_
        refine ls <| q1 hF rfl (e_move hF rfl) fun a hF => ?_
        refine ls <| q1 hF rfl (e_add hF rfl rfl) fun a hF => ?_
        refine ls <| q1 hF rfl (e_asg hF rfl) fun a hF => ?_
        refine re <| ?_
        refine tn <| ?_
        exact ⟨(nn3, vC1, (IntKind.i64.wrap (vB7 + 1))), ⟨oaC2, capC3, vsC4, hm, hF.has ⟨rfl, rfl, rfl, rfl, rfl, rfl, trivial⟩, hS, hvC5⟩, Nat.lt_succ_self _⟩
      ·
        replace hm := itp_f hm hb28
        refine tn <| cfv hF rfl hb28 <| ?_
        refine wp_exit <| tx <| tx <| bx <| ?_
        refine tn <| ?_
        exact ⟨vB1, oaB2, capB3, vsB4, hm, hF.has ⟨rfl, rfl, rfl, rfl, trivial⟩, hS, hvB5⟩
    clear hm hF hS
    rintro a w ⟨vA15, oaA16, capA17, vsA18, hm, hF, hS, hvA19⟩
    unfold leadlineref17_Same_j2 at hm
    refine th <| th <| ?_
    refine rg <| ?_
    refine ls <| q1 hF rfl (e_asg hF rfl) fun a hF => ?_
    refine re <| ?_
    refine tn <| midK (fun a w => leadlineref17_Same_j12 = some r ∧ Fr 134 [] a ∧ St w0 Nil [HA1] [] w) ?_ ?_
    ·
      refine wp_block <| lp (α := Nat × Int) (fun (gh : Nat × Int) a w => match gh with | (nn13, vB8) => (leadlineref17_Same_l13 N leadlineref17_Same_j12 p1 p11 p16 vA15) nn13 vB8 = some r ∧ Fr 134 [(0, .slice oaA2 p1.length capA3), (2, .slice oaA10 p11.length capA11), (3, .int .i64 p16), (9, .slice oaA16 vA15.length capA17), (15, .int .i64 vB8)] a ∧ St w0 Nil [HA1] [sla 3 1 oaA16 vA15.length capA17 vsA18] w) (fun gh => gh.1) (N, 0) ⟨hm, hF.has ⟨rfl, rfl, rfl, rfl, rfl, trivial⟩, hS⟩ ?_
      clear hm hF hS
      rintro ⟨nn13, vB8⟩ a w ⟨hm, hF, hS⟩
      obtain _ | nn13 := nn13
      · simp [leadlineref17_Same_l13] at hm
      rw [leadlineref17_Same_l13] at hm
      refine th <| th <| ?_
      refine rg <| ?_
      refine ls <| q1 hF rfl (e_move hF rfl) fun a hF => ?_
      refine ls <| q1 hF rfl (e_move hF rfl) fun a hF => ?_
      refine ls <| q1 hF rfl (e_lenL (α := api_Event) (xs := p1) hF Tryd.runUnderlying39 rfl) fun a hF => ?_
      refine ls <| q1 hF rfl (e_lss hF rfl rfl) fun a hF => ?_
      refine re <| ?_
      rcases bdich (decide (vB8 < (p1.length : Int))) with hb64 | hb64
      ·
        replace hm := itp_t hm hb64
        refine tn <| ctv hF rfl hb64 <| wp_skip <| ?_
        refine tn <| th <| midK (fun a w => (leadlineref17_Same_j14 (leadlineref17_Same_l13 N leadlineref17_Same_j12 p1 p11 p16 vA15 nn13) vB8) = some r ∧ Fr 134 [(0, .slice oaA2 p1.length capA3), (2, .slice oaA10 p11.length capA11), (3, .int .i64 p16), (9, .slice oaA16 vA15.length capA17), (15, .int .i64 vB8)] a ∧ St w0 Nil [HA1] [sla 3 1 oaA16 vA15.length capA17 vsA18] w) ?_ ?_
        ·
          refine wp_block <| th <| ?_
          refine rg <| ?_
          refine ls <| q1 hF rfl (e_asg hF rfl) fun a hF => ?_
          refine re <| ?_
          refine tn <| wp_block <| lp (α := Nat × Int) (fun (gh : Nat × Int) a w => match gh with | (nn15, vD3) => (leadlineref17_Same_l15 N (leadlineref17_Same_j14 (leadlineref17_Same_l13 N leadlineref17_Same_j12 p1 p11 p16 vA15 nn13) vB8) p1 p11 p16 vA15 vB8) nn15 vD3 = some r ∧ Fr 134 [(0, .slice oaA2 p1.length capA3), (2, .slice oaA10 p11.length capA11), (3, .int .i64 p16), (9, .slice oaA16 vA15.length capA17), (15, .int .i64 vB8), (16, .int .i64 vD3)] a ∧ St w0 Nil [HA1] [sla 3 1 oaA16 vA15.length capA17 vsA18] w) (fun gh => gh.1) (N, 0) ⟨hm, hF.has ⟨rfl, rfl, rfl, rfl, rfl, rfl, trivial⟩, hS⟩ ?_
          clear hm hF hS
          rintro ⟨nn15, vD3⟩ a w ⟨hm, hF, hS⟩
          obtain _ | nn15 := nn15
          · simp [leadlineref17_Same_l15] at hm
          rw [leadlineref17_Same_l15] at hm
          refine th <| th <| ?_
          refine rg <| ?_
          refine ls <| q1 hF rfl (e_move hF rfl) fun a hF => ?_
          refine ls <| q1 hF rfl (e_move hF rfl) fun a hF => ?_
          refine ls <| q1 hF rfl (e_lss hF rfl rfl) fun a hF => ?_
          refine re <| ?_
          rcases bdich (decide (vD3 < vB8)) with hb65 | hb65
          ·
            replace hm := itp_t hm hb65
            refine tn <| ctv hF rfl hb65 <| wp_skip <| ?_
            refine tn <| th <| wp_block <| th <| midK (fun a w => ∃ (vE6 : Bool), (leadlineref17_Same_j16 (leadlineref17_Same_l15 N (leadlineref17_Same_j14 (leadlineref17_Same_l13 N leadlineref17_Same_j12 p1 p11 p16 vA15 nn13) vB8) p1 p11 p16 vA15 vB8 nn15) vD3) vE6 = some r ∧ Fr 134 [(0, .slice oaA2 p1.length capA3), (2, .slice oaA10 p11.length capA11), (3, .int .i64 p16), (9, .slice oaA16 vA15.length capA17), (15, .int .i64 vB8), (16, .int .i64 vD3), (133, .bool vE6)] a ∧ St w0 Nil [HA1] [sla 3 1 oaA16 vA15.length capA17 vsA18] w) ?_ ?_
            ·
              replace hm := bind_some hm
              obtain ⟨x66, h67, hm⟩ := hm
              obtain ⟨c68, g69, hl70⟩ := SR.get hrA5 h67
              obtain rfl := api_Event_open g69
              replace hm := bind_some hm
              obtain ⟨x71, h72, hm⟩ := hm
              obtain ⟨c73, g74, hl75⟩ := SR.get hrA5 h72
              obtain rfl := api_Event_open g74
              replace hm := bind_some hm
              obtain ⟨r76, h77, hm⟩ := hm
              rcases bdich r76 with hb78 | hb78
              ·
                replace hm := ite_t hm hb78
                replace hm := bind_some hm
                obtain ⟨x79, h80, hm⟩ := hm
                have ho81 := Rd.oaI (hS.rdO (.head _)) hvA19 (by decide) h80
                obtain ⟨c82, g83, hl84⟩ := Rows.getI hvA19 h80
                obtain rfl : c82 = [.int .i64 x79] := g83
                replace hm := bind_some hm
                obtain ⟨x85, h86, hm⟩ := hm
                have ho87 := Rd.oaI (hS.rdO (.head _)) hvA19 (by decide) h86
                obtain ⟨c88, g89, hl90⟩ := Rows.getI hvA19 h86
                obtain rfl : c88 = [.int .i64 x85] := g89
                refine rdS 22 hS wide fun w hS => ?_
                refine d1 (i := 0) rfl (by kernel_rfl) (by kernel_rfl) (St.ld hS) hF rfl (fun _ _ _ h => h) (fun w hl => (e_move hF rfl)) fun a hF => ?_
                refine d1 (i := 1) rfl (by kernel_rfl) (by kernel_rfl) (St.ld hS) hF rfl (fun _ _ _ h => h) (fun w hl => (e_move hF rfl)) fun a hF => ?_
                refine d1 (i := 2) rfl (by kernel_rfl) (by kernel_rfl) (St.ld hS) hF rfl (fun _ _ _ h => h) (fun w hl => (e_iaI hF Tryd.runUnderlying39 Tryd.sizeOf23 rfl rfl h67 (SR.oaI hrA5 (by decide) h67))) fun a hF => ?_
                refine d1 (i := 3) rfl (by kernel_rfl) (by kernel_rfl) (St.ld hS) hF rfl (fun _ _ _ h => h) (fun w hl => (e_ldA hF Tryd.isAgg23 Tryd.sizeOf23 rfl rfl (fun j v hj => PH.le.cell (Lds.le hl) (hl70 j v hj)))) fun a hF => ?_
                refine d1 (i := 4) rfl (by kernel_rfl) (by kernel_rfl) (St.ld hS) hF rfl (fun _ _ _ h => h) (fun w hl => (e_move hF rfl)) fun a hF => ?_
                refine d1 (i := 5) rfl (by kernel_rfl) (by kernel_rfl) (St.ld hS) hF rfl (fun _ _ _ h => h) (fun w hl => (e_move hF rfl)) fun a hF => ?_
                refine d1 (i := 6) rfl (by kernel_rfl) (by kernel_rfl) (St.ld hS) hF rfl (fun _ _ _ h => h) (fun w hl => (e_iaI hF Tryd.runUnderlying39 Tryd.sizeOf23 rfl rfl h72 (SR.oaI hrA5 (by decide) h72))) fun a hF => ?_
                refine d1 (i := 7) rfl (by kernel_rfl) (by kernel_rfl) (St.ld hS) hF rfl (fun _ _ _ h => h) (fun w hl => (e_ldA hF Tryd.isAgg23 Tryd.sizeOf23 rfl rfl (fun j v hj => PH.le.cell (Lds.le hl) (hl75 j v hj)))) fun a hF => ?_
                refine d1 (i := 8) rfl (by kernel_rfl) (by kernel_rfl) (St.ld hS) hF rfl (fun _ _ _ h => h) (fun w hl => (e_move hF rfl)) fun a hF => ?_
                refine d1 (i := 9) rfl (by kernel_rfl) (by kernel_rfl) (St.ld hS) hF rfl (fun _ _ _ h => h) (fun w hl => (e_move hF rfl)) fun a hF => ?_
                refine da1 (i := 10) (by kernel_rfl) ?_
                refine di (i := 10) rfl <| c1 hF rfl Tryd.call17 (leadlineref15_Depend_c (hp_le _) hcA12 (St.srH hS hrA13) h77) ⟨rfl, rfl, rfl, rfl, trivial⟩ (fun v w a hR hF => ?_)
                obtain ⟨rfl, hk⟩ := hR
                replace hS := hS.pass hk
                clear hk
                refine ⟨fun _ => (St.ld hS), ?_⟩
                refine d1 (i := 11) rfl (by kernel_rfl) (by kernel_rfl) (St.ld hS) hF rfl (fun _ _ _ h => h) (fun w hl => (e_as (e_move hF rfl) (congrArg Value.bool hb78))) fun a hF => ?_
                refine d1g (i := 12) rfl (by kernel_rfl) (by kernel_rfl) (St.ld hS) hF rfl rfl rfl (fun _ _ _ h => h) (fun w hl => (e_move hF rfl)) fun a hF => ?_
                refine d1g (i := 13) rfl (by kernel_rfl) (by kernel_rfl) (St.ld hS) hF rfl rfl rfl (fun _ _ _ h => h) (fun w hl => (e_move hF rfl)) fun a hF => ?_
                refine d1g (i := 14) rfl (by kernel_rfl) (by kernel_rfl) (St.ld hS) hF rfl rfl rfl (fun _ _ _ h => h) (fun w hl => (e_iaI hF Tryd.runUnderlying25 Tryd.sizeOf3 rfl rfl h80 ho81)) fun a hF => ?_
                refine d1g (i := 15) rfl (by kernel_rfl) (by kernel_rfl) (St.ld hS) hF rfl rfl rfl (fun _ _ _ h => h) (fun w hl => (e_ld hF Tryd.isAgg3 rfl (hl.elO (.head _) (hl84 0 _ rfl)))) fun a hF => ?_
                refine d1g (i := 16) rfl (by kernel_rfl) (by kernel_rfl) (St.ld hS) hF rfl rfl rfl (fun _ _ _ h => h) (fun w hl => (e_move hF rfl)) fun a hF => ?_
                refine d1g (i := 17) rfl (by kernel_rfl) (by kernel_rfl) (St.ld hS) hF rfl rfl rfl (fun _ _ _ h => h) (fun w hl => (e_move hF rfl)) fun a hF => ?_
                refine d1g (i := 18) rfl (by kernel_rfl) (by kernel_rfl) (St.ld hS) hF rfl rfl rfl (fun _ _ _ h => h) (fun w hl => (e_iaI hF Tryd.runUnderlying25 Tryd.sizeOf3 rfl rfl h86 ho87)) fun a hF => ?_
                refine d1g (i := 19) rfl (by kernel_rfl) (by kernel_rfl) (St.ld hS) hF rfl rfl rfl (fun _ _ _ h => h) (fun w hl => (e_ld hF Tryd.isAgg3 rfl (hl.elO (.head _) (hl90 0 _ rfl)))) fun a hF => ?_
                refine d1g (i := 20) rfl (by kernel_rfl) (by kernel_rfl) (St.ld hS) hF rfl rfl rfl (fun _ _ _ h => h) (fun w hl => (e_gtr hF rfl rfl)) fun a hF => ?_
                refine d1 (i := 21) rfl (by kernel_rfl) (by kernel_rfl) (St.ld hS) hF rfl (fun _ _ _ h => h) (fun w hl => (e_pickT hF rfl rfl)) fun a hF => ?_
                refine de (by kernel_rfl) <| ?_
                refine tn <| ?_
                exact ⟨(decide (x85 < x79)), hm, hF.has ⟨rfl, rfl, rfl, rfl, rfl, rfl, rfl, trivial⟩, hS⟩
              ·
                replace hm := ite_f hm hb78
                refine rdS 22 hS wide fun w hS => ?_
                refine d1 (i := 0) rfl (by kernel_rfl) (by kernel_rfl) (St.ld hS) hF rfl (fun _ _ _ h => h) (fun w hl => (e_move hF rfl)) fun a hF => ?_
                refine d1 (i := 1) rfl (by kernel_rfl) (by kernel_rfl) (St.ld hS) hF rfl (fun _ _ _ h => h) (fun w hl => (e_move hF rfl)) fun a hF => ?_
                refine d1 (i := 2) rfl (by kernel_rfl) (by kernel_rfl) (St.ld hS) hF rfl (fun _ _ _ h => h) (fun w hl => (e_iaI hF Tryd.runUnderlying39 Tryd.sizeOf23 rfl rfl h67 (SR.oaI hrA5 (by decide) h67))) fun a hF => ?_
                refine d1 (i := 3) rfl (by kernel_rfl) (by kernel_rfl) (St.ld hS) hF rfl (fun _ _ _ h => h) (fun w hl => (e_ldA hF Tryd.isAgg23 Tryd.sizeOf23 rfl rfl (fun j v hj => PH.le.cell (Lds.le hl) (hl70 j v hj)))) fun a hF => ?_
                refine d1 (i := 4) rfl (by kernel_rfl) (by kernel_rfl) (St.ld hS) hF rfl (fun _ _ _ h => h) (fun w hl => (e_move hF rfl)) fun a hF => ?_
                refine d1 (i := 5) rfl (by kernel_rfl) (by kernel_rfl) (St.ld hS) hF rfl (fun _ _ _ h => h) (fun w hl => (e_move hF rfl)) fun a hF => ?_
                refine d1 (i := 6) rfl (by kernel_rfl) (by kernel_rfl) (St.ld hS) hF rfl (fun _ _ _ h => h) (fun w hl => (e_iaI hF Tryd.runUnderlying39 Tryd.sizeOf23 rfl rfl h72 (SR.oaI hrA5 (by decide) h72))) fun a hF => ?_
                refine d1 (i := 7) rfl (by kernel_rfl) (by kernel_rfl) (St.ld hS) hF rfl (fun _ _ _ h => h) (fun w hl => (e_ldA hF Tryd.isAgg23 Tryd.sizeOf23 rfl rfl (fun j v hj => PH.le.cell (Lds.le hl) (hl75 j v hj)))) fun a hF => ?_
                refine d1 (i := 8) rfl (by kernel_rfl) (by kernel_rfl) (St.ld hS) hF rfl (fun _ _ _ h => h) (fun w hl => (e_move hF rfl)) fun a hF => ?_
                refine d1 (i := 9) rfl (by kernel_rfl) (by kernel_rfl) (St.ld hS) hF rfl (fun _ _ _ h => h) (fun w hl => (e_move hF rfl)) fun a hF => ?_
                refine da1 (i := 10) (by kernel_rfl) ?_
                refine di (i := 10) rfl <| c1 hF rfl Tryd.call17 (leadlineref15_Depend_c (hp_le _) hcA12 (St.srH hS hrA13) h77) ⟨rfl, rfl, rfl, rfl, trivial⟩ (fun v w a hR hF => ?_)
                obtain ⟨rfl, hk⟩ := hR
                replace hS := hS.pass hk
                clear hk
                refine ⟨fun _ => (St.ld hS), ?_⟩
                refine d1 (i := 11) rfl (by kernel_rfl) (by kernel_rfl) (St.ld hS) hF rfl (fun _ _ _ h => h) (fun w hl => (e_as (e_move hF rfl) (congrArg Value.bool hb78))) fun a hF => ?_
                refine d1n (i := 12) rfl (by kernel_rfl) (by kernel_rfl) (St.ld hS) hF rfl rfl rfl rfl (fun _ _ _ h => h) fun a hF => ?_
                refine d1n (i := 13) rfl (by kernel_rfl) (by kernel_rfl) (St.ld hS) hF rfl rfl rfl rfl (fun _ _ _ h => h) fun a hF => ?_
                refine d1n (i := 14) rfl (by kernel_rfl) (by kernel_rfl) (St.ld hS) hF rfl rfl rfl rfl (fun _ _ _ h => h) fun a hF => ?_
                refine d1n (i := 15) rfl (by kernel_rfl) (by kernel_rfl) (St.ld hS) hF rfl rfl rfl rfl (fun _ _ _ h => h) fun a hF => ?_
                refine d1n (i := 16) rfl (by kernel_rfl) (by kernel_rfl) (St.ld hS) hF rfl rfl rfl rfl (fun _ _ _ h => h) fun a hF => ?_
                refine d1n (i := 17) rfl (by kernel_rfl) (by kernel_rfl) (St.ld hS) hF rfl rfl rfl rfl (fun _ _ _ h => h) fun a hF => ?_
                refine d1n (i := 18) rfl (by kernel_rfl) (by kernel_rfl) (St.ld hS) hF rfl rfl rfl rfl (fun _ _ _ h => h) fun a hF => ?_
                refine d1n (i := 19) rfl (by kernel_rfl) (by kernel_rfl) (St.ld hS) hF rfl rfl rfl rfl (fun _ _ _ h => h) fun a hF => ?_
                refine d1n (i := 20) rfl (by kernel_rfl) (by kernel_rfl) (St.ld hS) hF rfl rfl rfl rfl (fun _ _ _ h => h) fun a hF => ?_
                refine d1 (i := 21) rfl (by kernel_rfl) (by kernel_rfl) (St.ld hS) hF rfl (fun _ _ _ h => h) (fun w hl => (e_pickF hF rfl rfl)) fun a hF => ?_
                refine de (by kernel_rfl) <| ?_
                refine tn <| ?_
                exact ⟨false, hm, hF.has ⟨rfl, rfl, rfl, rfl, rfl, rfl, rfl, trivial⟩, hS⟩
            clear hm hF hS
            rintro a w ⟨vE6, hm, hF, hS⟩
            unfold leadlineref17_Same_j16 at hm
            rcases bdich vE6 with hb91 | hb91
            ·
              replace hm := ite_t hm hb91
              refine ctv hF rfl hb91 <| th <| ?_
              refine rg <| ?_
              refine ls <| q1 hF rfl (e_asg hF rfl) fun a hF => ?_
              refine re <| ?_
              refine tn <| ?_
              refine wp_ret <| br <| tr <| tr <| br <| br <| tr <| tr <| br <| tr <| ?_
              obtain rfl := Option.some.inj hm
              exact r1 hF Tryd.results32 rfl ⟨rfl, hS.keep⟩
            ·
              replace hm := ite_f hm hb91
              refine cfv hF rfl hb91 <| wp_skip <| ?_
              refine bn <| tn <| ?_
              refine rg <| ?_
              refine ls <| q1 hF rfl (e_move hF rfl) fun a hF => ?_
              refine ls <| q1 hF rfl (e_add hF rfl rfl) fun a hF => ?_
              refine ls <| q1 hF rfl (e_asg hF rfl) fun a hF => ?_
              refine re <| ?_
              refine tn <| ?_
              exact ⟨(nn15, (IntKind.i64.wrap (vD3 + 1))), ⟨hm, hF.has ⟨rfl, rfl, rfl, rfl, rfl, rfl, trivial⟩, hS⟩, Nat.lt_succ_self _⟩
          ·
            replace hm := itp_f hm hb65
            refine tn <| cfv hF rfl hb65 <| ?_
            refine wp_exit <| tx <| tx <| bx <| ?_
            refine bn <| tn <| ?_
            exact ⟨hm, hF.has ⟨rfl, rfl, rfl, rfl, rfl, trivial⟩, hS⟩
        clear hm hF hS
        rintro a w ⟨hm, hF, hS⟩
        unfold leadlineref17_Same_j14 at hm
        refine rg <| ?_
        refine ls <| q1 hF rfl (e_move hF rfl) fun a hF => ?_
        refine ls <| q1 hF rfl (e_add hF rfl rfl) fun a hF => ?_
        refine ls <| q1 hF rfl (e_asg hF rfl) fun a hF => ?_
        refine re <| ?_
        refine tn <| ?_
        exact ⟨(nn13, (IntKind.i64.wrap (vB8 + 1))), ⟨hm, hF.has ⟨rfl, rfl, rfl, rfl, rfl, trivial⟩, hS⟩, Nat.lt_succ_self _⟩
      ·
        replace hm := itp_f hm hb64
        refine tn <| cfv hF rfl hb64 <| ?_
        refine wp_exit <| tx <| tx <| bx <| ?_
        refine tn <| ?_
        replace hS := hS.pickL .nil
        exact ⟨hm, hF.has trivial, hS⟩
    clear hm hF hS
    rintro a w ⟨hm, hF, hS⟩
    unfold leadlineref17_Same_j12 at hm
    refine th <| ?_
    refine rg <| ?_
    refine ls <| q1 hF rfl (e_asg hF rfl) fun a hF => ?_
    refine re <| ?_
    refine tn <| ?_
    refine wp_ret <| ?_
    obtain rfl := Option.some.inj hm
    exact r1 hF Tryd.results32 rfl ⟨rfl, hS.keep⟩

set_option maxRecDepth 100000 in
theorem trace_Key_c {N : Nat} {w0 : World} {H : PH} (hH : H.le w0) (hT : Tab H) {oa2 : Option Addr} {cap3 : Nat} {p1 : (List api_Event)} (hc4 : p1.length ≤ cap3) (hr5 : SR H oa2 p1) {oa7 : Option Addr} {cap8 : Nat} {p6 : (List Int)} (hc9 : p6.length ≤ cap8) (hr10 : SR H oa7 p6) {p11 : Int} {r : Str} (hm : trace_Key N p1 p6 p11 = some r) : Tot Tryd.prog 33 #[.slice oa2 p1.length cap3, .slice oa7 p6.length cap8, .int .i64 p11] w0 (fun v w' => v = strv r ∧ Keep Nil w0 w') := by
  unfold trace_Key at hm
  refine fn0 (args := [.slice oa2 p1.length cap3, .slice oa7 p6.length cap8, .int .i64 p11]) (F := [(0, .slice oa2 p1.length cap3), (1, .slice oa7 p6.length cap8), (2, .int .i64 p11)]) Tryd.func33 rfl Tryd.ntmps33 rfl rfl fun a hF => ?_
  have hS : St w0 Nil [H] [] w0 := start1 hH
  refine th <| ?_
  refine rg <| ?_
  refine ls <| q1 hF rfl (e_asg hF rfl) fun a hF => ?_
  refine re <| ?_
  refine tn <| th <| ?_
  refine rg <| ?_
  refine ls <| a_alloc (cs := [.pointer none, .slice none 0 0].toArray) hF rfl hS Tryd.zeroValue74 rfl fun b12 w a hS hF => ?_
  replace hS := hS.bld0 (e := 5)
  refine re <| ?_
  refine tn <| th <| th <| ?_
  replace hm := bind_some hm
  obtain ⟨r13, h14, hm⟩ := hm
  refine rg <| ?_
  refine ls <| q1 hF rfl (e_move hF rfl) fun a hF => ?_
  refine ls <| q1 hF rfl (e_move hF rfl) fun a hF => ?_
  refine ls <| q1 hF rfl (e_move hF rfl) fun a hF => ?_
  refine ls <| c1 hF rfl Tryd.call29 (trace_Form_c (hp_le _) hc4 (St.srH hS hr5) hc9 (St.srH hS hr10) h14) ⟨rfl, rfl, rfl, trivial⟩ (fun v w a hR hF => ?_)
  obtain ⟨oa15, cap16, vs17, rfl, hv18, hk⟩ := hR
  replace hS := hS.fresh hk
  clear hk
  replace hv18 := hv18 H
  refine ls <| q1 hF rfl (e_lenL (α := api_Event) (xs := r13) hF Tryd.runUnderlying39 rfl) fun a hF => ?_
  refine ls <| q1 hF rfl (e_move hF rfl) fun a hF => ?_
  refine re <| ?_
  refine tn <| midK (fun a w => ∃ (vA2 : Str) (HA1 : PH) (oaA3 : Option Addr) (capA4 : Nat) (vpA5 : Value), trace_Key_j1 vA2 = some r ∧ Ext w0 H HA1 ∧ Fr 25 [(7, .pointer (some ⟨b12, 0, none⟩))] a ∧ St w0 Nil [HA1] [bldA 74 5 b12 vpA5 oaA3 capA4 vA2] w ∧ BP b12 vpA5) ?_ ?_
  ·
    replace hS := hS.pickL (.cons (.tail .head) (.cons .head .nil))
    refine wp_block <| lp (α := Nat × Str × Int) (fun (gh : Nat × Str × Int) a w => match gh with | (nn2, vB2, vB7) => ∃ (HB1 : PH) (oaB3 : Option Addr) (capB4 : Nat) (vpB5 : Value), (trace_Key_l2 N trace_Key_j1 r13) nn2 vB2 vB7 = some r ∧ Ext w0 H HB1 ∧ Fr 25 [(7, .pointer (some ⟨b12, 0, none⟩)), (13, .slice oa15 r13.length cap16), (14, .int .i64 (r13.length : Int)), (15, .int .i64 vB7)] a ∧ St w0 Nil [HB1] [bldA 74 5 b12 vpB5 oaB3 capB4 vB2, sla 23 5 oa15 r13.length cap16 vs17] w ∧ BP b12 vpB5) (fun gh => gh.1) (N, [], 0) ⟨H, none, 0, (.pointer none), hm, (Ext.refl _ _), hF.has ⟨rfl, rfl, rfl, rfl, trivial⟩, hS, (.inl rfl)⟩ ?_
    clear hm hF hS
    rintro ⟨nn2, vB2, vB7⟩ a w ⟨HB1, oaB3, capB4, vpB5, hm, hxHB1, hF, hS, hbB6⟩
    obtain _ | nn2 := nn2
    · simp [trace_Key_l2] at hm
    rw [trace_Key_l2] at hm
    refine th <| ?_
    refine rg <| ?_
    refine ls <| q1 hF rfl (e_lss hF rfl rfl) fun a hF => ?_
    refine re <| ?_
    rcases bdich (decide (vB7 < (r13.length : Int))) with hb20 | hb20
    ·
      replace hm := itp_t hm hb20
      refine tn <| th <| ctv hF rfl hb20 <| wp_skip <| ?_
      refine tn <| th <| wp_block <| th <| ?_
      replace hm := bind_some hm
      obtain ⟨x21, h22, hm⟩ := hm
      have ho23 := Rd.oaI (hS.rdO (.tail _ (.head _))) hv18 (by decide) h22
      obtain ⟨c24, g25, hl26⟩ := Rows.getI hv18 h22
      obtain rfl := api_Event_open g25
      refine rg <| ?_
      refine ls <| q1 hF rfl (e_iaI hF Tryd.runUnderlying39 Tryd.sizeOf23 rfl rfl h22 ho23) fun a hF => ?_
      refine ls <| q1 hF rfl (e_ldA hF Tryd.isAgg23 Tryd.sizeOf23 rfl rfl ((St.ld hS).elsO (.tail _ (.head _)) hl26)) fun a hF => ?_
      refine ls <| a_alloc (cs := [.int .i64 0, .int .i64 0, .int .i64 0, .int .i64 0, .int .i64 0].toArray) hF rfl hS Tryd.zeroValue23 rfl fun b27 w a hS hF => ?_
      refine ls <| s_blkA hF hS Tryd.sizeOf23 rfl rfl rfl rfl (one_cells rfl) .head fun w hS => ?_
      refine re <| ?_
      refine tn <| ?_
      replace hm := bind_some hm
      obtain ⟨r28, h29, hm⟩ := hm
      replace hm := bind_some hm
      obtain ⟨s30, h31, hm⟩ := hm
      replace hm := bind_some hm
      obtain ⟨s32, h33, hm⟩ := hm
      refine rg <| ?_
      refine ls <| q1 hF rfl (e_ldA hF Tryd.isAgg23 Tryd.sizeOf23 rfl rfl ((St.ld hS).cellsB (.head _))) fun a hF => ?_
      refine ls <| c1 hF rfl Tryd.call20 (event_Show_c (hp_le _) (Tab.mono (Tab.mono hT hxHB1.sub) (St.up hS)) h29) ⟨rfl, trivial⟩ (fun v w a hR hF => ?_)
      obtain ⟨rfl, hk⟩ := hR
      replace hS := hS.pass hk
      clear hk
      refine ls <| q1 hF rfl (e_catU hF rfl rfl h31) fun a hF => ?_
      replace hS := hS.pickL (.cons (.tail .head) (.cons .head (.cons .head .nil)))
      refine ls <| c1 hF rfl Tryd.call56 (bws_c hS hbB6 h33) ⟨rfl, rfl, trivial⟩ (fun v w a hR hF => ?_)
      obtain ⟨rfl, oa34, cap35, hS⟩ := hR
      refine re <| ?_
      refine bn <| tn <| ?_
      refine rg <| ?_
      refine ls <| q1 hF rfl (e_add hF rfl rfl) fun a hF => ?_
      refine ls <| q1 hF rfl (e_move hF rfl) fun a hF => ?_
      refine re <| ?_
      refine tn <| ?_
      replace hS := hS.pickL (.cons .head (.cons (.tail .head) .nil))
      exact ⟨(nn2, s32, (IntKind.i64.wrap (vB7 + 1))), ⟨HB1, oa34, cap35, (.pointer (some ⟨b12, 0, none⟩)), hm, hxHB1, hF.has ⟨rfl, rfl, rfl, rfl, trivial⟩, hS, (.inr rfl)⟩, Nat.lt_succ_self _⟩
    ·
      replace hm := itp_f hm hb20
      refine tn <| th <| cfv hF rfl hb20 <| ?_
      refine wp_exit <| tx <| tx <| bx <| ?_
      refine tn <| ?_
      replace hS := hS.pickL (.cons .head .nil)
      exact ⟨vB2, HB1, oaB3, capB4, vpB5, hm, hxHB1, hF.has ⟨rfl, trivial⟩, hS, hbB6⟩
  clear hm hF hS
  rintro a w ⟨vA2, HA1, oaA3, capA4, vpA5, hm, hxHA1, hF, hS, hbA6⟩
  unfold trace_Key_j1 at hm
  refine th <| ?_
  refine rg <| ?_
  refine ls <| c1 hF rfl Tryd.call57 (bstr_c hS hbA6) ⟨rfl, trivial⟩ (fun v w a hR hF => ?_)
  obtain ⟨rfl, hk⟩ := hR
  replace hS := (start1 hH).pass hk
  clear hk
  refine ls <| q1 hF rfl (e_asg hF rfl) fun a hF => ?_
  refine re <| ?_
  refine tn <| ?_
  refine wp_ret <| ?_
  obtain rfl := Option.some.inj hm
  exact r1 hF Tryd.results33 rfl ⟨rfl, hS.keep⟩

set_option maxRecDepth 100000 in
theorem leadlineref17_Key_c {N : Nat} {w0 : World} {H : PH} (hH : H.le w0) {oa2 : Option Addr} {cap3 : Nat} {p1 : (List api_Event)} (hc4 : p1.length ≤ cap3) (hr5 : SR H oa2 p1) {oa7 : Option Addr} {cap8 : Nat} {p6 : (List Int)} (hc9 : p6.length ≤ cap8) (hr10 : SR H oa7 p6) {p11 : Int} {r : Str} (hm : leadlineref17_Key N p1 p6 p11 = some r) : Tot Tryd.prog 34 #[.slice oa2 p1.length cap3, .slice oa7 p6.length cap8, .int .i64 p11] w0 (fun v w' => v = strv r ∧ Keep Nil w0 w') := by
  unfold leadlineref17_Key at hm
  refine fn0 (args := [.slice oa2 p1.length cap3, .slice oa7 p6.length cap8, .int .i64 p11]) (F := [(0, .slice oa2 p1.length cap3), (1, .slice oa7 p6.length cap8), (2, .int .i64 p11)]) Tryd.func34 rfl Tryd.ntmps34 rfl rfl fun a hF => ?_
  have hS : St w0 Nil [H] [] w0 := start1 hH
  refine th <| ?_
  refine rg <| ?_
  refine ls <| q1 hF rfl (e_asg hF rfl) fun a hF => ?_
  refine re <| ?_
  refine tn <| th <| ?_
  replace hm := bind_some hm
  obtain ⟨r12, h13, hm⟩ := hm
  refine rg <| ?_
  refine ls <| q1 hF rfl (e_move hF rfl) fun a hF => ?_
  refine ls <| q1 hF rfl (e_move hF rfl) fun a hF => ?_
  refine ls <| q1 hF rfl (e_move hF rfl) fun a hF => ?_
  refine ls <| c1 hF rfl Tryd.call30 (leadlineref17_Form_c (hp_le _) hc4 (St.srH hS hr5) hc9 (St.srH hS hr10) h13) ⟨rfl, rfl, rfl, trivial⟩ (fun v w a hR hF => ?_)
  obtain ⟨oa14, cap15, vs16, rfl, hv17, hk⟩ := hR
  replace hS := hS.fresh hk
  clear hk
  replace hv17 := hv17 H
  refine ls <| q1 hF rfl (e_asg hF rfl) fun a hF => ?_
  refine ls <| q1 hF rfl (e_asg hF rfl) fun a hF => ?_
  refine re <| ?_
  refine tn <| th <| th <| ?_
  refine rg <| ?_
  refine ls <| q1 hF rfl (e_asg hF rfl) fun a hF => ?_
  refine re <| ?_
  refine tn <| midK (fun a w => ∃ (vA2 : Str) (HA1 : PH), leadlineref17_Key_j1 vA2 = some r ∧ Ext w0 H HA1 ∧ Fr 29 [(7, strv vA2)] a ∧ St w0 Nil [HA1] [] w) ?_ ?_
  ·
    refine wp_block <| lp (α := Nat × Str × Int) (fun (gh : Nat × Str × Int) a w => match gh with | (nn2, vB2, vB3) => ∃ (HB1 : PH), (leadlineref17_Key_l2 N leadlineref17_Key_j1 r12) nn2 vB2 vB3 = some r ∧ Ext w0 H HB1 ∧ Fr 29 [(7, strv vB2), (8, .slice oa14 r12.length cap15), (9, .int .i64 vB3)] a ∧ St w0 Nil [HB1] [sla 23 5 oa14 r12.length cap15 vs16] w) (fun gh => gh.1) (N, [], 0) ⟨H, hm, (Ext.refl _ _), hF.has ⟨rfl, rfl, rfl, trivial⟩, hS⟩ ?_
    clear hm hF hS
    rintro ⟨nn2, vB2, vB3⟩ a w ⟨HB1, hm, hxHB1, hF, hS⟩
    obtain _ | nn2 := nn2
    · simp [leadlineref17_Key_l2] at hm
    rw [leadlineref17_Key_l2] at hm
    refine th <| th <| ?_
    refine rg <| ?_
    refine ls <| q1 hF rfl (e_move hF rfl) fun a hF => ?_
    refine ls <| q1 hF rfl (e_move hF rfl) fun a hF => ?_
    refine ls <| q1 hF rfl (e_lenL (α := api_Event) (xs := r12) hF Tryd.runUnderlying39 rfl) fun a hF => ?_
    refine ls <| q1 hF rfl (e_lss hF rfl rfl) fun a hF => ?_
    refine re <| ?_
    rcases bdich (decide (vB3 < (r12.length : Int))) with hb19 | hb19
    ·
      replace hm := itp_t hm hb19
      refine tn <| ctv hF rfl hb19 <| wp_skip <| ?_
      refine tn <| th <| wp_block <| ?_
      replace hm := bind_some hm
      obtain ⟨x20, h21, hm⟩ := hm
      have ho22 := Rd.oaI (hS.rdO (.head _)) hv17 (by decide) h21
      obtain ⟨c23, g24, hl25⟩ := Rows.getI hv17 h21
      obtain rfl := api_Event_open g24
      replace hm := bind_some hm
      obtain ⟨r26, h27, hm⟩ := hm
      replace hm := bind_some hm
      obtain ⟨s28, h29, hm⟩ := hm
      replace hm := bind_some hm
      obtain ⟨s30, h31, hm⟩ := hm
      refine rg <| ?_
      refine ls <| q1 hF rfl (e_move hF rfl) fun a hF => ?_
      refine ls <| q1 hF rfl (e_move hF rfl) fun a hF => ?_
      refine ls <| q1 hF rfl (e_move hF rfl) fun a hF => ?_
      refine ls <| q1 hF rfl (e_iaI hF Tryd.runUnderlying39 Tryd.sizeOf23 rfl rfl h21 ho22) fun a hF => ?_
      refine ls <| q1 hF rfl (e_ldA hF Tryd.isAgg23 Tryd.sizeOf23 rfl rfl ((St.ld hS).elsO (.head _) hl25)) fun a hF => ?_
      refine ls <| c1 hF rfl Tryd.call21 (leadlineref15_Show_c (hp_le _) h27) ⟨rfl, trivial⟩ (fun v w a hR hF => ?_)
      obtain ⟨rfl, hk⟩ := hR
      replace hS := hS.pass hk
      clear hk
      refine ls <| q1 hF rfl (e_catU hF rfl rfl h29) fun a hF => ?_
      refine ls <| q1 hF rfl (e_catU hF rfl rfl h31) fun a hF => ?_
      refine ls <| q1 hF rfl (e_asg hF rfl) fun a hF => ?_
      refine re <| ?_
      refine bn <| tn <| ?_
      refine rg <| ?_
      refine ls <| q1 hF rfl (e_move hF rfl) fun a hF => ?_
      refine ls <| q1 hF rfl (e_add hF rfl rfl) fun a hF => ?_
      refine ls <| q1 hF rfl (e_asg hF rfl) fun a hF => ?_
      refine re <| ?_
      refine tn <| ?_
      exact ⟨(nn2, s30, (IntKind.i64.wrap (vB3 + 1))), ⟨HB1, hm, hxHB1, hF.has ⟨rfl, rfl, rfl, trivial⟩, hS⟩, Nat.lt_succ_self _⟩
    ·
      replace hm := itp_f hm hb19
      refine tn <| cfv hF rfl hb19 <| ?_
      refine wp_exit <| tx <| tx <| bx <| ?_
      refine tn <| ?_
      replace hS := hS.pickL .nil
      exact ⟨vB2, HB1, hm, hxHB1, hF.has ⟨rfl, trivial⟩, hS⟩
  clear hm hF hS
  rintro a w ⟨vA2, HA1, hm, hxHA1, hF, hS⟩
  unfold leadlineref17_Key_j1 at hm
  refine th <| ?_
  refine rg <| ?_
  refine ls <| q1 hF rfl (e_move hF rfl) fun a hF => ?_
  refine ls <| q1 hF rfl (e_asg hF rfl) fun a hF => ?_
  refine re <| ?_
  refine tn <| ?_
  refine wp_ret <| ?_
  obtain rfl := Option.some.inj hm
  exact r1 hF Tryd.results34 rfl ⟨rfl, hS.keep⟩

set_option maxRecDepth 100000 in
theorem trace_Steps_c {N : Nat} {w0 : World} {H : PH} (hH : H.le w0) {oa2 : Option Addr} {cap3 : Nat} {p1 : (List api_Event)} (hc4 : p1.length ≤ cap3) (hr5 : SR H oa2 p1) {oa7 : Option Addr} {cap8 : Nat} {p6 : (List Int)} (hc9 : p6.length ≤ cap8) (hr10 : SR H oa7 p6) {p11 : Int} {r : (List (List Int))} (hm : trace_Steps N p1 p6 p11 = some r) : Tot Tryd.prog 36 #[.slice oa2 p1.length cap3, .slice oa7 p6.length cap8, .int .i64 p11] w0 (fun v w' => ∃ (H' : PH) (oa0 : Option Addr) (cap0 : Nat), v = .slice oa0 r.length cap0 ∧ r.length ≤ cap0 ∧ SR H' oa0 r ∧ Ext w0 H H' ∧ H'.le w' ∧ Keep Nil w0 w') := by
  unfold trace_Steps at hm
  refine fn0 (args := [.slice oa2 p1.length cap3, .slice oa7 p6.length cap8, .int .i64 p11]) (F := [(0, .slice oa2 p1.length cap3), (1, .slice oa7 p6.length cap8), (2, .int .i64 p11)]) Tryd.func36 rfl Tryd.ntmps36 rfl rfl fun a hF => ?_
  have hS : St w0 Nil [H] [] w0 := start1 hH
  refine th <| ?_
  refine rg <| ?_
  refine ls <| q1 hF rfl (e_asg hF rfl) fun a hF => ?_
  refine re <| ?_
  refine tn <| th <| th <| ?_
  replace hm := bind_some hm
  obtain ⟨r12, h13, hm⟩ := hm
  refine rg <| ?_
  refine ls <| q1 hF rfl (e_move hF rfl) fun a hF => ?_
  refine ls <| c1 hF rfl Tryd.call49 (clock_Threads_c (hp_le _) hc4 (St.srH hS hr5) h13) ⟨rfl, trivial⟩ (fun v w a hR hF => ?_)
  obtain ⟨rfl, hk⟩ := hR
  replace hS := hS.pass hk
  clear hk
  refine ls <| q1 hF rfl (e_eql hF rfl rfl) fun a hF => ?_
  refine re <| ?_
  rcases bdich (decide (r12 = 0)) with hb14 | hb14
  ·
    replace hm := itp_t hm hb14
    refine tn <| ctv hF rfl hb14 <| th <| ?_
    refine rg <| ?_
    refine ls <| q1 hF rfl (e_asg hF rfl) fun a hF => ?_
    refine re <| ?_
    refine tn <| ?_
    refine wp_ret <| tr <| ?_
    obtain rfl := Option.some.inj hm
    exact r1 hF Tryd.results36 rfl ⟨H, _, _, rfl, (Nat.le_refl 0), (SR.nil _ _), (Ext.refl _ _), (St.le hS), hS.keep⟩
  ·
    replace hm := itp_f hm hb14
    refine tn <| cfv hF rfl hb14 <| wp_skip <| ?_
    refine tn <| th <| ?_
    refine rg <| ?_
    refine ls <| q1 hF rfl (e_asg hF rfl) fun a hF => ?_
    refine re <| ?_
    refine tn <| th <| ?_
    replace hm := bind_some hm
    obtain ⟨l15, h16, hm⟩ := hm
    refine rg <| ?_
    refine ls <| q1 hF rfl (e_move hF rfl) fun a hF => ?_
    refine ls <| q1 hF rfl (e_lenL (α := api_Event) (xs := p1) hF Tryd.runUnderlying39 rfl) fun a hF => ?_
    refine ls <| m_mk (α := Int) hF rfl hS Tryd.underlying25 info3 rfl (zz := 0) rfl rfl rfl h16 fun b18 vs19 w a hv17 hS hF => ?_
    refine ls <| q1 hF rfl (e_asg hF rfl) fun a hF => ?_
    refine re <| ?_
    refine tn <| th <| th <| ?_
    refine rg <| ?_
    refine ls <| q1 hF rfl (e_move hF rfl) fun a hF => ?_
    refine ls <| q1 hF rfl (e_lenL (α := api_Event) (xs := p1) hF Tryd.runUnderlying39 rfl) fun a hF => ?_
    refine ls <| q1 hF rfl (e_move hF rfl) fun a hF => ?_
    refine re <| ?_
    refine tn <| midK (fun a w => ∃ (vA2 : (List (List Int))) (HA1 : PH) (oaA3 : Option Addr) (capA4 : Nat) (qsA5 : List RowQ), trace_Steps_j1 vA2 = some r ∧ Ext w0 H HA1 ∧ Fr 79 [(7, .slice oaA3 vA2.length capA4)] a ∧ St w0 Nil [HA1] [sla 25 1 oaA3 vA2.length capA4 (qsA5.map rowV), bigA (rowA 3 1) qsA5] w ∧ NR HA1 qsA5 vA2) ?_ ?_
    ·
      replace hS := St.nilS hS 25 1
      replace hS := hS.nilBig (rowA 3 1)
      replace hS := hS.pickL (.cons (.tail .head) (.cons .head (.cons .head .nil)))
      refine wp_block <| lp (α := Nat × (List (List Int)) × (List Int) × Int) (fun (gh : Nat × (List (List Int)) × (List Int) × Int) a w => match gh with | (nn2, vB10, vB16, vB22) => ∃ (HB1 : PH) (oaB2 : Option Addr) (capB3 : Nat) (oaB6 : Option Addr) (capB7 : Nat) (oaB11 : Option Addr) (capB12 : Nat) (qsB13 : List RowQ) (oaB17 : Option Addr) (capB18 : Nat) (vsB19 : List Value), (trace_Steps_l2 N trace_Steps_j1 p1 p6 p11) nn2 vB10 vB16 vB22 = some r ∧ Ext w0 H HB1 ∧ Fr 79 [(0, .slice oaB2 p1.length capB3), (1, .slice oaB6 p6.length capB7), (2, .int .i64 p11), (7, .slice oaB11 vB10.length capB12), (8, .slice oaB17 vB16.length capB18), (18, .int .i64 (p1.length : Int)), (19, .int .i64 vB22)] a ∧ St w0 Nil [HB1] [sla 25 1 oaB11 vB10.length capB12 (qsB13.map rowV), bigA (rowA 3 1) qsB13, sla 3 1 oaB17 vB16.length capB18 vsB19] w ∧ p1.length ≤ capB3 ∧ SR HB1 oaB2 p1 ∧ p6.length ≤ capB7 ∧ SR HB1 oaB6 p6 ∧ NR HB1 qsB13 vB10 ∧ Rows HB1 vsB19 vB16) (fun gh => gh.1) (N, [], l15, 0) ⟨H, oa2, cap3, oa7, cap8, none, 0, [], (some ⟨b18, 0, none⟩), l15.length, vs19, hm, (Ext.refl _ _), hF.has ⟨rfl, rfl, rfl, rfl, rfl, rfl, rfl, trivial⟩, hS, hc4, hr5, hc9, hr10, .nil, hv17⟩ ?_
      clear hm hF hS
      rintro ⟨nn2, vB10, vB16, vB22⟩ a w ⟨HB1, oaB2, capB3, oaB6, capB7, oaB11, capB12, qsB13, oaB17, capB18, vsB19, hm, hxHB1, hF, hS, hcB4, hrB5, hcB8, hrB9, hvB14, hvB20⟩
      obtain _ | nn2 := nn2
      · simp [trace_Steps_l2] at hm
      rw [trace_Steps_l2] at hm
      refine th <| ?_
      refine rg <| ?_
      refine ls <| q1 hF rfl (e_lss hF rfl rfl) fun a hF => ?_
      refine re <| ?_
      rcases bdich (decide (vB22 < (p1.length : Int))) with hb21 | hb21
      ·
        replace hm := itp_t hm hb21
        refine tn <| th <| ctv hF rfl hb21 <| wp_skip <| ?_
        refine tn <| th <| midK (fun a w => ∃ (vC1 : (List (List Int))) (vC7 : (List Int)) (oaC2 : Option Addr) (capC3 : Nat) (qsC4 : List RowQ) (oaC8 : Option Addr) (capC9 : Nat) (vsC10 : List Value), (trace_Steps_j3 (trace_Steps_l2 N trace_Steps_j1 p1 p6 p11 nn2) vB22) vC1 vC7 = some r ∧ Fr 79 [(0, .slice oaB2 p1.length capB3), (1, .slice oaB6 p6.length capB7), (2, .int .i64 p11), (7, .slice oaC2 vC1.length capC3), (8, .slice oaC8 vC7.length capC9), (18, .int .i64 (p1.length : Int)), (19, .int .i64 vB22)] a ∧ St w0 Nil [HB1] [sla 25 1 oaC2 vC1.length capC3 (qsC4.map rowV), bigA (rowA 3 1) qsC4, sla 3 1 oaC8 vC7.length capC9 vsC10] w ∧ NR HB1 qsC4 vC1 ∧ Rows HB1 vsC10 vC7) ?_ ?_
        ·
          refine wp_block <| th <| ?_
          refine rg <| ?_
          refine ls <| q1 hF rfl (e_move hF rfl) fun a hF => ?_
          refine ls <| q1 hF rfl (e_asg hF rfl) fun a hF => ?_
          refine re <| ?_
          refine tn <| th <| th <| ?_
          refine rg <| ?_
          refine ls <| q1 hF rfl (e_move hF rfl) fun a hF => ?_
          refine ls <| q1 hF rfl (e_move hF rfl) fun a hF => ?_
          refine re <| ?_
          refine tn <| midK (fun a w => ∃ (vD1 : (List Int)) (oaD2 : Option Addr) (capD3 : Nat) (vsD4 : List Value), (trace_Steps_j4 (trace_Steps_j3 (trace_Steps_l2 N trace_Steps_j1 p1 p6 p11 nn2) vB22) vB10 vB22) vD1 = some r ∧ Fr 79 [(0, .slice oaB2 p1.length capB3), (1, .slice oaB6 p6.length capB7), (2, .int .i64 p11), (7, .slice oaB11 vB10.length capB12), (8, .slice oaD2 vD1.length capD3), (9, .int .i64 vB22), (18, .int .i64 (p1.length : Int)), (19, .int .i64 vB22)] a ∧ St w0 Nil [HB1] [sla 25 1 oaB11 vB10.length capB12 (qsB13.map rowV), bigA (rowA 3 1) qsB13, sla 3 1 oaD2 vD1.length capD3 vsD4] w ∧ Rows HB1 vsD4 vD1) ?_ ?_
          ·
            refine wp_block <| lp (α := Nat × (List Int) × Int) (fun (gh : Nat × (List Int) × Int) a w => match gh with | (nn5, vE1, vE7) => ∃ (oaE2 : Option Addr) (capE3 : Nat) (vsE4 : List Value), (trace_Steps_l5 N (trace_Steps_j4 (trace_Steps_j3 (trace_Steps_l2 N trace_Steps_j1 p1 p6 p11 nn2) vB22) vB10 vB22) p1 p6 p11 vB22) nn5 vE1 vE7 = some r ∧ Fr 79 [(0, .slice oaB2 p1.length capB3), (1, .slice oaB6 p6.length capB7), (2, .int .i64 p11), (7, .slice oaB11 vB10.length capB12), (8, .slice oaE2 vE1.length capE3), (9, .int .i64 vB22), (18, .int .i64 (p1.length : Int)), (19, .int .i64 vB22), (22, .int .i64 vB22), (23, .int .i64 vE7)] a ∧ St w0 Nil [HB1] [sla 25 1 oaB11 vB10.length capB12 (qsB13.map rowV), bigA (rowA 3 1) qsB13, sla 3 1 oaE2 vE1.length capE3 vsE4] w ∧ Rows HB1 vsE4 vE1) (fun gh => gh.1) (N, vB16, 0) ⟨oaB17, capB18, vsB19, hm, hF.has ⟨rfl, rfl, rfl, rfl, rfl, rfl, rfl, rfl, rfl, rfl, trivial⟩, hS, hvB20⟩ ?_
            clear hm hF hS
            rintro ⟨nn5, vE1, vE7⟩ a w ⟨oaE2, capE3, vsE4, hm, hF, hS, hvE5⟩
            obtain _ | nn5 := nn5
            · simp [trace_Steps_l5] at hm
            rw [trace_Steps_l5] at hm
            refine th <| ?_
            refine rg <| ?_
            refine ls <| q1 hF rfl (e_lss hF rfl rfl) fun a hF => ?_
            refine re <| ?_
            rcases bdich (decide (vE7 < vB22)) with hb22 | hb22
            ·
              replace hm := itp_t hm hb22
              refine tn <| th <| ctv hF rfl hb22 <| wp_skip <| ?_
              refine tn <| th <| midK (fun a w => ∃ (vF1 : (List Int)) (oaF2 : Option Addr) (capF3 : Nat) (vsF4 : List Value), (trace_Steps_j6 (trace_Steps_l5 N (trace_Steps_j4 (trace_Steps_j3 (trace_Steps_l2 N trace_Steps_j1 p1 p6 p11 nn2) vB22) vB10 vB22) p1 p6 p11 vB22 nn5) vE7) vF1 = some r ∧ Fr 79 [(0, .slice oaB2 p1.length capB3), (1, .slice oaB6 p6.length capB7), (2, .int .i64 p11), (7, .slice oaB11 vB10.length capB12), (8, .slice oaF2 vF1.length capF3), (9, .int .i64 vB22), (18, .int .i64 (p1.length : Int)), (19, .int .i64 vB22), (22, .int .i64 vB22), (23, .int .i64 vE7)] a ∧ St w0 Nil [HB1] [sla 25 1 oaB11 vB10.length capB12 (qsB13.map rowV), bigA (rowA 3 1) qsB13, sla 3 1 oaF2 vF1.length capF3 vsF4] w ∧ Rows HB1 vsF4 vF1) ?_ ?_
              ·
                refine wp_block <| th <| ?_
                refine rg <| ?_
                refine ls <| q1 hF rfl (e_move hF rfl) fun a hF => ?_
                refine ls <| q1 hF rfl (e_asg hF rfl) fun a hF => ?_
                refine re <| ?_
                refine tn <| th <| ?_
                replace hm := bind_some hm
                obtain ⟨x23, h24, hm⟩ := hm
                obtain ⟨c25, g26, hl27⟩ := SR.get hrB5 h24
                obtain rfl := api_Event_open g26
                replace hm := bind_some hm
                obtain ⟨x28, h29, hm⟩ := hm
                obtain ⟨c30, g31, hl32⟩ := SR.get hrB5 h29
                obtain rfl := api_Event_open g31
                replace hm := bind_some hm
                obtain ⟨r33, h34, hm⟩ := hm
                refine rdS 11 hS wide fun w hS => ?_
                refine d1 (i := 0) rfl (by kernel_rfl) (by kernel_rfl) (St.ld hS) hF rfl (fun _ _ _ h => h) (fun w hl => (e_move hF rfl)) fun a hF => ?_
                refine d1 (i := 1) rfl (by kernel_rfl) (by kernel_rfl) (St.ld hS) hF rfl (fun _ _ _ h => h) (fun w hl => (e_move hF rfl)) fun a hF => ?_
                refine d1 (i := 2) rfl (by kernel_rfl) (by kernel_rfl) (St.ld hS) hF rfl (fun _ _ _ h => h) (fun w hl => (e_iaI hF Tryd.runUnderlying39 Tryd.sizeOf23 rfl rfl h24 (SR.oaI hrB5 (by decide) h24))) fun a hF => ?_
                refine d1 (i := 3) rfl (by kernel_rfl) (by kernel_rfl) (St.ld hS) hF rfl (fun _ _ _ h => h) (fun w hl => (e_ldA hF Tryd.isAgg23 Tryd.sizeOf23 rfl rfl (fun j v hj => PH.le.cell (Lds.le hl) (hl27 j v hj)))) fun a hF => ?_
                refine d1 (i := 4) rfl (by kernel_rfl) (by kernel_rfl) (St.ld hS) hF rfl (fun _ _ _ h => h) (fun w hl => (e_move hF rfl)) fun a hF => ?_
                refine d1 (i := 5) rfl (by kernel_rfl) (by kernel_rfl) (St.ld hS) hF rfl (fun _ _ _ h => h) (fun w hl => (e_move hF rfl)) fun a hF => ?_
                refine d1 (i := 6) rfl (by kernel_rfl) (by kernel_rfl) (St.ld hS) hF rfl (fun _ _ _ h => h) (fun w hl => (e_iaI hF Tryd.runUnderlying39 Tryd.sizeOf23 rfl rfl h29 (SR.oaI hrB5 (by decide) h29))) fun a hF => ?_
                refine d1 (i := 7) rfl (by kernel_rfl) (by kernel_rfl) (St.ld hS) hF rfl (fun _ _ _ h => h) (fun w hl => (e_ldA hF Tryd.isAgg23 Tryd.sizeOf23 rfl rfl (fun j v hj => PH.le.cell (Lds.le hl) (hl32 j v hj)))) fun a hF => ?_
                refine d1 (i := 8) rfl (by kernel_rfl) (by kernel_rfl) (St.ld hS) hF rfl (fun _ _ _ h => h) (fun w hl => (e_move hF rfl)) fun a hF => ?_
                refine d1 (i := 9) rfl (by kernel_rfl) (by kernel_rfl) (St.ld hS) hF rfl (fun _ _ _ h => h) (fun w hl => (e_move hF rfl)) fun a hF => ?_
                refine da1 (i := 10) (by kernel_rfl) ?_
                refine di (i := 10) rfl <| c1 hF rfl Tryd.call16 (event_Depend_c (hp_le _) hcB8 (St.srH hS hrB9) h34) ⟨rfl, rfl, rfl, rfl, trivial⟩ (fun v w a hR hF => ?_)
                obtain ⟨rfl, hk⟩ := hR
                replace hS := hS.pass hk
                clear hk
                refine ⟨fun _ => (St.ld hS), ?_⟩
                refine de (by kernel_rfl) <| ?_
                rcases bdich r33 with hb35 | hb35
                ·
                  replace hm := ite_t hm hb35
                  refine tn <| ctv hF rfl hb35 <| ?_
                  replace hm := bind_some hm
                  obtain ⟨x36, h37, hm⟩ := hm
                  have ho38 := Rd.oaI (hS.rdO (.tail _ (.tail _ (.head _)))) hvE5 (by decide) h37
                  obtain ⟨c39, g40, hl41⟩ := Rows.getI hvE5 h37
                  obtain rfl : c39 = [.int .i64 x36] := g40
                  replace hm := bind_some hm
                  obtain ⟨x42, h43, hm⟩ := hm
                  have ho44 := Rd.oaI (hS.rdO (.tail _ (.tail _ (.head _)))) hvE5 (by decide) h43
                  obtain ⟨c45, g46, hl47⟩ := Rows.getI hvE5 h43
                  obtain rfl : c45 = [.int .i64 x42] := g46
                  have ho48 := Rd.oaI (hS.rdO (.tail _ (.tail _ (.head _)))) hvE5 (by decide) h37
                  replace hm := bind_some hm
                  obtain ⟨l49, h50, hm⟩ := hm
                  refine rxS 13 hS wide (by kernel_rfl) fun w hS => ?_
                  refine x1 (St.ld hS) hF rfl rfl (fun _ _ _ h => h) (fun w hl => (e_move hF rfl)) fun a hF => ?_
                  refine x1 (St.ld hS) hF rfl rfl (fun _ _ _ h => h) (fun w hl => (e_move hF rfl)) fun a hF => ?_
                  refine x1 (St.ld hS) hF rfl rfl (fun _ _ _ h => h) (fun w hl => (e_move hF rfl)) fun a hF => ?_
                  refine x1 (St.ld hS) hF rfl rfl (fun _ _ _ h => h) (fun w hl => (e_move hF rfl)) fun a hF => ?_
                  refine x1 (St.ld hS) hF rfl rfl (fun _ _ _ h => h) (fun w hl => (e_iaI hF Tryd.runUnderlying25 Tryd.sizeOf3 rfl rfl h37 ho38)) fun a hF => ?_
                  refine x1 (St.ld hS) hF rfl rfl (fun _ _ _ h => h) (fun w hl => (e_ld hF Tryd.isAgg3 rfl (hl.elO (.tail _ (.tail _ (.head _))) (hl41 0 _ rfl)))) fun a hF => ?_
                  refine x1 (St.ld hS) hF rfl rfl (fun _ _ _ h => h) (fun w hl => (e_move hF rfl)) fun a hF => ?_
                  refine x1 (St.ld hS) hF rfl rfl (fun _ _ _ h => h) (fun w hl => (e_move hF rfl)) fun a hF => ?_
                  refine x1 (St.ld hS) hF rfl rfl (fun _ _ _ h => h) (fun w hl => (e_iaI hF Tryd.runUnderlying25 Tryd.sizeOf3 rfl rfl h43 ho44)) fun a hF => ?_
                  refine x1 (St.ld hS) hF rfl rfl (fun _ _ _ h => h) (fun w hl => (e_ld hF Tryd.isAgg3 rfl (hl.elO (.tail _ (.tail _ (.head _))) (hl47 0 _ rfl)))) fun a hF => ?_
                  refine x1 (St.ld hS) hF rfl rfl (fun _ _ _ h => h) (fun w hl => (e_add hF rfl rfl)) fun a hF => ?_
                  refine x1 (St.ld hS) hF rfl rfl (fun _ _ _ h => h) (fun w hl => (e_max hF rfl rfl)) fun a hF => ?_
                  refine x1 (St.ld hS) hF rfl rfl (fun _ _ _ h => h) (fun w hl => (e_iaI hF Tryd.runUnderlying25 Tryd.sizeOf3 rfl rfl h37 ho48)) fun a hF => ?_
                  have hn53 := setI_len h50
                  refine xz rfl <| s_slJ (α := Int) hF hS Tryd.sizeOf3 rfl rfl rfl rfl hvE5 rfl h50 (.tail _ (.tail _ (.head _))) fun vs51 w hv52 hU => ?_
                  replace hS := hU _ (.tail (.tail .head))
                  clear hU
                  refine bn <| tn <| ?_
                  replace hF := Fr.as hF (t := 8) (v' := .slice oaE2 l49.length capE3) rfl (by rw [hn53])
                  exact ⟨l49, oaE2, capE3, vs51, hm, hF.has ⟨rfl, rfl, rfl, rfl, rfl, rfl, rfl, rfl, rfl, rfl, trivial⟩, hS, hv52⟩
                ·
                  replace hm := ite_f hm hb35
                  refine tn <| cfv hF rfl hb35 <| wp_skip <| ?_
                  refine bn <| tn <| ?_
                  exact ⟨vE1, oaE2, capE3, vsE4, hm, hF.has ⟨rfl, rfl, rfl, rfl, rfl, rfl, rfl, rfl, rfl, rfl, trivial⟩, hS, hvE5⟩
              clear hm hF hS
              rintro a w ⟨vF1, oaF2, capF3, vsF4, hm, hF, hS, hvF5⟩
              unfold trace_Steps_j6 at hm
              refine rg <| ?_
              refine ls <| q1 hF rfl (e_add hF rfl rfl) fun a hF => ?_
              refine ls <| q1 hF rfl (e_move hF rfl) fun a hF => ?_
              refine re <| ?_
              refine tn <| ?_
              exact ⟨(nn5, vF1, (IntKind.i64.wrap (vE7 + 1))), ⟨oaF2, capF3, vsF4, hm, hF.has ⟨rfl, rfl, rfl, rfl, rfl, rfl, rfl, rfl, rfl, rfl, trivial⟩, hS, hvF5⟩, Nat.lt_succ_self _⟩
            ·
              replace hm := itp_f hm hb22
              refine tn <| th <| cfv hF rfl hb22 <| ?_
              refine wp_exit <| tx <| tx <| bx <| ?_
              refine tn <| ?_
              exact ⟨vE1, oaE2, capE3, vsE4, hm, hF.has ⟨rfl, rfl, rfl, rfl, rfl, rfl, rfl, rfl, trivial⟩, hS, hvE5⟩
          clear hm hF hS
          rintro a w ⟨vD1, oaD2, capD3, vsD4, hm, hF, hS, hvD5⟩
          unfold trace_Steps_j4 at hm
          refine th <| th <| ?_
          replace hm := bind_some hm
          obtain ⟨x54, h55, hm⟩ := hm
          have ho56 := Rd.oaI (hS.rdO (.tail _ (.tail _ (.head _)))) hvD5 (by decide) h55
          obtain ⟨c57, g58, hl59⟩ := Rows.getI hvD5 h55
          obtain rfl : c57 = [.int .i64 x54] := g58
          refine rg <| ?_
          refine ls <| q1 hF rfl (e_move hF rfl) fun a hF => ?_
          refine ls <| q1 hF rfl (e_move hF rfl) fun a hF => ?_
          refine ls <| q1 hF rfl (e_iaI hF Tryd.runUnderlying25 Tryd.sizeOf3 rfl rfl h55 ho56) fun a hF => ?_
          refine ls <| q1 hF rfl (e_ld hF Tryd.isAgg3 rfl ((St.ld hS).elO (.tail _ (.tail _ (.head _))) (hl59 0 _ rfl))) fun a hF => ?_
          refine ls <| q1 hF rfl (e_move hF rfl) fun a hF => ?_
          refine ls <| q1 hF rfl (e_lenL (α := (List Int)) (xs := vB10) hF Tryd.runUnderlying49 rfl) fun a hF => ?_
          refine ls <| q1 hF rfl (e_eql hF rfl rfl) fun a hF => ?_
          refine re <| ?_
          refine tn <| midK (fun a w => ∃ (vD7 : (List (List Int))) (oaD8 : Option Addr) (capD9 : Nat) (qsD10 : List RowQ), (trace_Steps_j7 (trace_Steps_j3 (trace_Steps_l2 N trace_Steps_j1 p1 p6 p11 nn2) vB22) vD1 x54 vB22) vD7 = some r ∧ Fr 79 [(0, .slice oaB2 p1.length capB3), (1, .slice oaB6 p6.length capB7), (2, .int .i64 p11), (7, .slice oaD8 vD7.length capD9), (8, .slice oaD2 vD1.length capD3), (9, .int .i64 vB22), (18, .int .i64 (p1.length : Int)), (19, .int .i64 vB22)] a ∧ St w0 Nil [HB1] [sla 25 1 oaD8 vD7.length capD9 (qsD10.map rowV), bigA (rowA 3 1) qsD10, sla 3 1 oaD2 vD1.length capD3 vsD4] w ∧ NR HB1 qsD10 vD7) ?_ ?_
          ·
            rcases bdich (decide (x54 = (vB10.length : Int))) with hb60 | hb60
            ·
              replace hm := itp_t hm hb60
              refine ctv hF rfl hb60 <| ?_
              replace hm := bind_some hm
              obtain ⟨l64, h65, hm⟩ := hm
              refine rg <| ?_
              refine ls <| q1 hF rfl (e_move hF rfl) fun a hF => ?_
              refine ls <| a_bsl (e := 25) (sz := 1) [.slice none 0 0] hF rfl hS rfl rfl rfl (fun w => by kernel_rfl) fun b62 w a hS hF => ?_
              have hv61 : Rows (α := (List Int)) HB1 [.slice none 0 0] ([[]] : List (List Int)) := (.cons (c := [.slice none 0 0]) ⟨none, 0, rfl, Nat.le_refl _, SR.nil _ _⟩ .nil)
              refine ls <| m_appN (α := Int) (xs := vB10) (qs := qsB13) hF rfl hS Tryd.underlying49 info25 rfl rfl rfl (.tail _ (.head _)) hvB14 (hS.rdO (.head _)) h65 fun oa66 cap67 w a hv68 hU hF => ?_
              replace hS := hU _ (.tail .head)
              clear hU
              replace hS := hS.nilS 3 1
              replace hS := St.bigPush (f := rowA 3 1) (x := rowN) hS .head (.tail (.tail .head))
              replace hS := hS.drop .head
              refine ls <| q1 hF rfl (e_asg hF rfl) fun a hF => ?_
              refine re <| ?_
              refine tn <| ?_
              exact ⟨l64, oa66, cap67, (qsB13 ++ [rowN]), hm, hF.has ⟨rfl, rfl, rfl, rfl, rfl, rfl, rfl, rfl, trivial⟩, hS, hv68⟩
            ·
              replace hm := itp_f hm hb60
              refine cfv hF rfl hb60 <| wp_skip <| ?_
              refine tn <| ?_
              exact ⟨vB10, oaB11, capB12, qsB13, hm, hF.has ⟨rfl, rfl, rfl, rfl, rfl, rfl, rfl, rfl, trivial⟩, hS, hvB14⟩
          clear hm hF hS
          rintro a w ⟨vD7, oaD8, capD9, qsD10, hm, hF, hS, hvD11⟩
          unfold trace_Steps_j7 at hm
          have ho69 := Rd.oaI (hS.rdO (.tail _ (.tail _ (.head _)))) hvD5 (by decide) h55
          have ho70 := Rd.oaI (hS.rdO (.tail _ (.tail _ (.head _)))) hvD5 (by decide) h55
          replace hm := bind_some hm
          obtain ⟨x71, h72, hm⟩ := hm
          obtain ⟨oa73, cap74, vs75, hq76, hr77⟩ := NR.get hvD11 h72
          replace hm := bind_some hm
          obtain ⟨l81, h82, hm⟩ := hm
          replace hm := bind_some hm
          obtain ⟨l87, h88, hm⟩ := hm
          refine rdL (sub_cons (.tail _ (.tail _ (.head _))) sub_nil) 16 hS wide fun w hS => ?_
          refine d1 (i := 0) rfl (by kernel_rfl) (by kernel_rfl) (St.ldsX hS (fun _ _ h => h) (fun _ h => (.tail _ (.tail _ h)))) hF rfl (fun _ _ _ h => h) (fun w hl => (e_move hF rfl)) fun a hF => ?_
          refine d1 (i := 1) rfl (by kernel_rfl) (by kernel_rfl) (St.ldsX hS (fun _ _ h => h) (fun _ h => (.tail _ (.tail _ h)))) hF rfl (fun _ _ _ h => h) (fun w hl => (e_move hF rfl)) fun a hF => ?_
          refine d1 (i := 2) rfl (by kernel_rfl) (by kernel_rfl) (St.ldsX hS (fun _ _ h => h) (fun _ h => (.tail _ (.tail _ h)))) hF rfl (fun _ _ _ h => h) (fun w hl => (e_move hF rfl)) fun a hF => ?_
          refine d1 (i := 3) rfl (by kernel_rfl) (by kernel_rfl) (St.ldsX hS (fun _ _ h => h) (fun _ h => (.tail _ (.tail _ h)))) hF rfl (fun _ _ _ h => h) (fun w hl => (e_iaI hF Tryd.runUnderlying25 Tryd.sizeOf3 rfl rfl h55 ho69)) fun a hF => ?_
          refine d1 (i := 4) rfl (by kernel_rfl) (by kernel_rfl) (St.ldsX hS (fun _ _ h => h) (fun _ h => (.tail _ (.tail _ h)))) hF rfl (fun _ _ _ h => h) (fun w hl => (e_ld hF Tryd.isAgg3 rfl (hl.elO (.head _) (hl59 0 _ rfl)))) fun a hF => ?_
          refine d1 (i := 5) rfl (by kernel_rfl) (by kernel_rfl) (St.ldsX hS (fun _ _ h => h) (fun _ h => (.tail _ (.tail _ h)))) hF rfl (fun _ _ _ h => h) (fun w hl => (e_move hF rfl)) fun a hF => ?_
          refine d1 (i := 6) rfl (by kernel_rfl) (by kernel_rfl) (St.ldsX hS (fun _ _ h => h) (fun _ h => (.tail _ (.tail _ h)))) hF rfl (fun _ _ _ h => h) (fun w hl => (e_move hF rfl)) fun a hF => ?_
          refine d1 (i := 7) rfl (by kernel_rfl) (by kernel_rfl) (St.ldsX hS (fun _ _ h => h) (fun _ h => (.tail _ (.tail _ h)))) hF rfl (fun _ _ _ h => h) (fun w hl => (e_move hF rfl)) fun a hF => ?_
          refine d1 (i := 8) rfl (by kernel_rfl) (by kernel_rfl) (St.ldsX hS (fun _ _ h => h) (fun _ h => (.tail _ (.tail _ h)))) hF rfl (fun _ _ _ h => h) (fun w hl => (e_iaI hF Tryd.runUnderlying25 Tryd.sizeOf3 rfl rfl h55 ho70)) fun a hF => ?_
          refine d1 (i := 9) rfl (by kernel_rfl) (by kernel_rfl) (St.ldsX hS (fun _ _ h => h) (fun _ h => (.tail _ (.tail _ h)))) hF rfl (fun _ _ _ h => h) (fun w hl => (e_ld hF Tryd.isAgg3 rfl (hl.elO (.head _) (hl59 0 _ rfl)))) fun a hF => ?_
          refine da2 (i := 10) (j := 12) (by kernel_rfl) ?_ ?_
          ·
            refine di (i := 10) rfl <| q1 hF rfl (e_iaI hF Tryd.runUnderlying49 Tryd.sizeOf25 rfl rfl h72 (rowOa (St.ld hS) (.head _) hq76)) fun a hF => ?_
            refine ⟨fun _ => (St.ldsX hS (fun _ _ h => h) (fun _ h => (.tail _ (.tail _ h)))), ?_⟩
            refine da2 (i := 11) (j := 12) (by kernel_rfl) ?_ ?_
            ·
              refine di (i := 11) rfl <| q1 hF rfl (e_ld hF Tryd.isAgg25 rfl (rowCell (ie := 3) (St.ld hS) (.head _) hq76)) fun a hF => ?_
              refine ⟨fun _ => (St.ldsX hS (fun _ _ h => h) (fun _ h => (.tail _ (.tail _ h)))), ?_⟩
              refine d1 (i := 12) rfl (by kernel_rfl) (by kernel_rfl) (St.ldsX hS (fun _ _ h => h) (fun _ h => (.tail _ (.tail _ h)))) hF rfl (fun _ _ _ h => h) (fun w hl => (e_move hF rfl)) fun a hF => ?_
              refine da1 (i := 13) (by kernel_rfl) ?_
              have hv78 : Rows (α := Int) HB1 [.int .i64 vB22] ([vB22] : List Int) := (.cons (c := [.int .i64 vB22]) rfl .nil)
              refine di (i := 13) rfl <| a_bsl (e := 3) (sz := 1) [.int .i64 vB22] hF rfl hS rfl rfl rfl (fun w => by kernel_rfl) fun b79 w a hS hF => ?_
              refine ⟨fun _ => (St.ldsX hS (fun _ _ h => h) (fun _ h => (.tail _ (.tail _ (.tail _ h))))), ?_⟩
              refine da1 (i := 14) (by kernel_rfl) ?_
              refine di (i := 14) rfl <| m_appR (α := Int) (xs := x71) (ys := ([vB22] : List Int)) hF rfl hS Tryd.underlying25 info3 rfl (by decide) rfl rfl rfl (.tail _ (.tail _ (.head _))) hq76 hr77 (hS.rdO (.head _)) hv78 h82 fun oa83 cap84 vs85 w a hv86 hU hF => ?_
              replace hS := hU _ (.tail (.tail .head))
              clear hU
              replace hS := hS.drop .head
              refine ⟨fun _ => (St.ldsX hS (fun _ _ h => h) (fun _ h => (.tail _ (.tail _ h)))), ?_⟩
              refine da1 (i := 15) (by kernel_rfl) ?_
              refine di (i := 15) rfl <| q1 hF rfl (e_iaI hF Tryd.runUnderlying49 Tryd.sizeOf25 rfl rfl h72 (rowOa (St.ld hS) (.head _) hq76)) fun a hF => ?_
              refine ⟨fun _ => (St.ldsX hS (fun _ _ h => h) (fun _ h => (.tail _ (.tail _ h)))), ?_⟩
              refine da1 (i := 16) (by kernel_rfl) ?_
              have hn90 := setI_len h88
              refine di (i := 16) rfl <| m_stR (α := Int) hF hS Tryd.sizeOf25 rfl rfl hvD11 hv86 h88 (.head _) fun w hv89 hU => ?_
              replace hS := hU _ .head
              clear hU
              refine ⟨fun h => absurd rfl h, ?_⟩
              refine de (by kernel_rfl) <| ?_
              refine bn <| tn <| ?_
              replace hF := Fr.as hF (t := 7) (v' := .slice oaD8 l87.length capD9) rfl (by rw [hn90])
              exact ⟨l87, vD1, oaD8, capD9, (qsD10.set x54.toNat ⟨oa83, l81.length, cap84, vs85⟩), oaD2, capD3, vsD4, hm, hF.has ⟨rfl, rfl, rfl, rfl, rfl, rfl, rfl, trivial⟩, hS, hv89, hvD5⟩
            ·
              refine di (i := 12) rfl <| q1 hF rfl (e_move hF rfl) fun a hF => ?_
              refine ⟨fun _ => (St.ldsX hS (fun _ _ h => h) (fun _ h => (.tail _ (.tail _ h)))), ?_⟩
              refine da2 (i := 11) (j := 13) (by kernel_rfl) ?_ ?_
              ·
                refine di (i := 11) rfl <| q1 hF rfl (e_ld hF Tryd.isAgg25 rfl (rowCell (ie := 3) (St.ld hS) (.head _) hq76)) fun a hF => ?_
                refine ⟨fun _ => (St.ldsX hS (fun _ _ h => h) (fun _ h => (.tail _ (.tail _ h)))), ?_⟩
                refine da1 (i := 13) (by kernel_rfl) ?_
                have hv78 : Rows (α := Int) HB1 [.int .i64 vB22] ([vB22] : List Int) := (.cons (c := [.int .i64 vB22]) rfl .nil)
                refine di (i := 13) rfl <| a_bsl (e := 3) (sz := 1) [.int .i64 vB22] hF rfl hS rfl rfl rfl (fun w => by kernel_rfl) fun b79 w a hS hF => ?_
                refine ⟨fun _ => (St.ldsX hS (fun _ _ h => h) (fun _ h => (.tail _ (.tail _ (.tail _ h))))), ?_⟩
                refine da1 (i := 14) (by kernel_rfl) ?_
                refine di (i := 14) rfl <| m_appR (α := Int) (xs := x71) (ys := ([vB22] : List Int)) hF rfl hS Tryd.underlying25 info3 rfl (by decide) rfl rfl rfl (.tail _ (.tail _ (.head _))) hq76 hr77 (hS.rdO (.head _)) hv78 h82 fun oa83 cap84 vs85 w a hv86 hU hF => ?_
                replace hS := hU _ (.tail (.tail .head))
                clear hU
                replace hS := hS.drop .head
                refine ⟨fun _ => (St.ldsX hS (fun _ _ h => h) (fun _ h => (.tail _ (.tail _ h)))), ?_⟩
                refine da1 (i := 15) (by kernel_rfl) ?_
                refine di (i := 15) rfl <| q1 hF rfl (e_iaI hF Tryd.runUnderlying49 Tryd.sizeOf25 rfl rfl h72 (rowOa (St.ld hS) (.head _) hq76)) fun a hF => ?_
                refine ⟨fun _ => (St.ldsX hS (fun _ _ h => h) (fun _ h => (.tail _ (.tail _ h)))), ?_⟩
                refine da1 (i := 16) (by kernel_rfl) ?_
                have hn90 := setI_len h88
                refine di (i := 16) rfl <| m_stR (α := Int) hF hS Tryd.sizeOf25 rfl rfl hvD11 hv86 h88 (.head _) fun w hv89 hU => ?_
                replace hS := hU _ .head
                clear hU
                refine ⟨fun h => absurd rfl h, ?_⟩
                refine de (by kernel_rfl) <| ?_
                refine bn <| tn <| ?_
                replace hF := Fr.as hF (t := 7) (v' := .slice oaD8 l87.length capD9) rfl (by rw [hn90])
                exact ⟨l87, vD1, oaD8, capD9, (qsD10.set x54.toNat ⟨oa83, l81.length, cap84, vs85⟩), oaD2, capD3, vsD4, hm, hF.has ⟨rfl, rfl, rfl, rfl, rfl, rfl, rfl, trivial⟩, hS, hv89, hvD5⟩
              ·
                have hv78 : Rows (α := Int) HB1 [.int .i64 vB22] ([vB22] : List Int) := (.cons (c := [.int .i64 vB22]) rfl .nil)
                refine di (i := 13) rfl <| a_bsl (e := 3) (sz := 1) [.int .i64 vB22] hF rfl hS rfl rfl rfl (fun w => by kernel_rfl) fun b79 w a hS hF => ?_
                refine ⟨fun _ => (St.ldsX hS (fun _ _ h => h) (fun _ h => (.tail _ (.tail _ (.tail _ h))))), ?_⟩
                refine da1 (i := 11) (by kernel_rfl) ?_
                refine di (i := 11) rfl <| q1 hF rfl (e_ld hF Tryd.isAgg25 rfl (rowCell (ie := 3) (St.ld hS) (.tail _ (.head _)) hq76)) fun a hF => ?_
                refine ⟨fun _ => (St.ldsX hS (fun _ _ h => h) (fun _ h => (.tail _ (.tail _ (.tail _ h))))), ?_⟩
                refine da1 (i := 14) (by kernel_rfl) ?_
                refine di (i := 14) rfl <| m_appR (α := Int) (xs := x71) (ys := ([vB22] : List Int)) hF rfl hS Tryd.underlying25 info3 rfl (by decide) rfl rfl rfl (.tail _ (.tail _ (.head _))) hq76 hr77 (hS.rdO (.head _)) hv78 h82 fun oa83 cap84 vs85 w a hv86 hU hF => ?_
                replace hS := hU _ (.tail (.tail .head))
                clear hU
                replace hS := hS.drop .head
                refine ⟨fun _ => (St.ldsX hS (fun _ _ h => h) (fun _ h => (.tail _ (.tail _ h)))), ?_⟩
                refine da1 (i := 15) (by kernel_rfl) ?_
                refine di (i := 15) rfl <| q1 hF rfl (e_iaI hF Tryd.runUnderlying49 Tryd.sizeOf25 rfl rfl h72 (rowOa (St.ld hS) (.head _) hq76)) fun a hF => ?_
                refine ⟨fun _ => (St.ldsX hS (fun _ _ h => h) (fun _ h => (.tail _ (.tail _ h)))), ?_⟩
                refine da1 (i := 16) (by kernel_rfl) ?_
                have hn90 := setI_len h88
                refine di (i := 16) rfl <| m_stR (α := Int) hF hS Tryd.sizeOf25 rfl rfl hvD11 hv86 h88 (.head _) fun w hv89 hU => ?_
                replace hS := hU _ .head
                clear hU
                refine ⟨fun h => absurd rfl h, ?_⟩
                refine de (by kernel_rfl) <| ?_
                refine bn <| tn <| ?_
                replace hF := Fr.as hF (t := 7) (v' := .slice oaD8 l87.length capD9) rfl (by rw [hn90])
                exact ⟨l87, vD1, oaD8, capD9, (qsD10.set x54.toNat ⟨oa83, l81.length, cap84, vs85⟩), oaD2, capD3, vsD4, hm, hF.has ⟨rfl, rfl, rfl, rfl, rfl, rfl, rfl, trivial⟩, hS, hv89, hvD5⟩
          ·
            refine di (i := 12) rfl <| q1 hF rfl (e_move hF rfl) fun a hF => ?_
            refine ⟨fun _ => (St.ldsX hS (fun _ _ h => h) (fun _ h => (.tail _ (.tail _ h)))), ?_⟩
            refine da2 (i := 10) (j := 13) (by kernel_rfl) ?_ ?_
            ·
              refine di (i := 10) rfl <| q1 hF rfl (e_iaI hF Tryd.runUnderlying49 Tryd.sizeOf25 rfl rfl h72 (rowOa (St.ld hS) (.head _) hq76)) fun a hF => ?_
              refine ⟨fun _ => (St.ldsX hS (fun _ _ h => h) (fun _ h => (.tail _ (.tail _ h)))), ?_⟩
              refine da2 (i := 11) (j := 13) (by kernel_rfl) ?_ ?_
              ·
                refine di (i := 11) rfl <| q1 hF rfl (e_ld hF Tryd.isAgg25 rfl (rowCell (ie := 3) (St.ld hS) (.head _) hq76)) fun a hF => ?_
                refine ⟨fun _ => (St.ldsX hS (fun _ _ h => h) (fun _ h => (.tail _ (.tail _ h)))), ?_⟩
                refine da1 (i := 13) (by kernel_rfl) ?_
                have hv78 : Rows (α := Int) HB1 [.int .i64 vB22] ([vB22] : List Int) := (.cons (c := [.int .i64 vB22]) rfl .nil)
                refine di (i := 13) rfl <| a_bsl (e := 3) (sz := 1) [.int .i64 vB22] hF rfl hS rfl rfl rfl (fun w => by kernel_rfl) fun b79 w a hS hF => ?_
                refine ⟨fun _ => (St.ldsX hS (fun _ _ h => h) (fun _ h => (.tail _ (.tail _ (.tail _ h))))), ?_⟩
                refine da1 (i := 14) (by kernel_rfl) ?_
                refine di (i := 14) rfl <| m_appR (α := Int) (xs := x71) (ys := ([vB22] : List Int)) hF rfl hS Tryd.underlying25 info3 rfl (by decide) rfl rfl rfl (.tail _ (.tail _ (.head _))) hq76 hr77 (hS.rdO (.head _)) hv78 h82 fun oa83 cap84 vs85 w a hv86 hU hF => ?_
                replace hS := hU _ (.tail (.tail .head))
                clear hU
                replace hS := hS.drop .head
                refine ⟨fun _ => (St.ldsX hS (fun _ _ h => h) (fun _ h => (.tail _ (.tail _ h)))), ?_⟩
                refine da1 (i := 15) (by kernel_rfl) ?_
                refine di (i := 15) rfl <| q1 hF rfl (e_iaI hF Tryd.runUnderlying49 Tryd.sizeOf25 rfl rfl h72 (rowOa (St.ld hS) (.head _) hq76)) fun a hF => ?_
                refine ⟨fun _ => (St.ldsX hS (fun _ _ h => h) (fun _ h => (.tail _ (.tail _ h)))), ?_⟩
                refine da1 (i := 16) (by kernel_rfl) ?_
                have hn90 := setI_len h88
                refine di (i := 16) rfl <| m_stR (α := Int) hF hS Tryd.sizeOf25 rfl rfl hvD11 hv86 h88 (.head _) fun w hv89 hU => ?_
                replace hS := hU _ .head
                clear hU
                refine ⟨fun h => absurd rfl h, ?_⟩
                refine de (by kernel_rfl) <| ?_
                refine bn <| tn <| ?_
                replace hF := Fr.as hF (t := 7) (v' := .slice oaD8 l87.length capD9) rfl (by rw [hn90])
                exact ⟨l87, vD1, oaD8, capD9, (qsD10.set x54.toNat ⟨oa83, l81.length, cap84, vs85⟩), oaD2, capD3, vsD4, hm, hF.has ⟨rfl, rfl, rfl, rfl, rfl, rfl, rfl, trivial⟩, hS, hv89, hvD5⟩
              ·
                have hv78 : Rows (α := Int) HB1 [.int .i64 vB22] ([vB22] : List Int) := (.cons (c := [.int .i64 vB22]) rfl .nil)
                refine di (i := 13) rfl <| a_bsl (e := 3) (sz := 1) [.int .i64 vB22] hF rfl hS rfl rfl rfl (fun w => by kernel_rfl) fun b79 w a hS hF => ?_
                refine ⟨fun _ => (St.ldsX hS (fun _ _ h => h) (fun _ h => (.tail _ (.tail _ (.tail _ h))))), ?_⟩
                refine da1 (i := 11) (by kernel_rfl) ?_
                refine di (i := 11) rfl <| q1 hF rfl (e_ld hF Tryd.isAgg25 rfl (rowCell (ie := 3) (St.ld hS) (.tail _ (.head _)) hq76)) fun a hF => ?_
                refine ⟨fun _ => (St.ldsX hS (fun _ _ h => h) (fun _ h => (.tail _ (.tail _ (.tail _ h))))), ?_⟩
                refine da1 (i := 14) (by kernel_rfl) ?_
                refine di (i := 14) rfl <| m_appR (α := Int) (xs := x71) (ys := ([vB22] : List Int)) hF rfl hS Tryd.underlying25 info3 rfl (by decide) rfl rfl rfl (.tail _ (.tail _ (.head _))) hq76 hr77 (hS.rdO (.head _)) hv78 h82 fun oa83 cap84 vs85 w a hv86 hU hF => ?_
                replace hS := hU _ (.tail (.tail .head))
                clear hU
                replace hS := hS.drop .head
                refine ⟨fun _ => (St.ldsX hS (fun _ _ h => h) (fun _ h => (.tail _ (.tail _ h)))), ?_⟩
                refine da1 (i := 15) (by kernel_rfl) ?_
                refine di (i := 15) rfl <| q1 hF rfl (e_iaI hF Tryd.runUnderlying49 Tryd.sizeOf25 rfl rfl h72 (rowOa (St.ld hS) (.head _) hq76)) fun a hF => ?_
                refine ⟨fun _ => (St.ldsX hS (fun _ _ h => h) (fun _ h => (.tail _ (.tail _ h)))), ?_⟩
                refine da1 (i := 16) (by kernel_rfl) ?_
                have hn90 := setI_len h88
                refine di (i := 16) rfl <| m_stR (α := Int) hF hS Tryd.sizeOf25 rfl rfl hvD11 hv86 h88 (.head _) fun w hv89 hU => ?_
                replace hS := hU _ .head
                clear hU
                refine ⟨fun h => absurd rfl h, ?_⟩
                refine de (by kernel_rfl) <| ?_
                refine bn <| tn <| ?_
                replace hF := Fr.as hF (t := 7) (v' := .slice oaD8 l87.length capD9) rfl (by rw [hn90])
                exact ⟨l87, vD1, oaD8, capD9, (qsD10.set x54.toNat ⟨oa83, l81.length, cap84, vs85⟩), oaD2, capD3, vsD4, hm, hF.has ⟨rfl, rfl, rfl, rfl, rfl, rfl, rfl, trivial⟩, hS, hv89, hvD5⟩
            ·
              have hv78 : Rows (α := Int) HB1 [.int .i64 vB22] ([vB22] : List Int) := (.cons (c := [.int .i64 vB22]) rfl .nil)
              refine di (i := 13) rfl <| a_bsl (e := 3) (sz := 1) [.int .i64 vB22] hF rfl hS rfl rfl rfl (fun w => by kernel_rfl) fun b79 w a hS hF => ?_
              refine ⟨fun _ => (St.ldsX hS (fun _ _ h => h) (fun _ h => (.tail _ (.tail _ (.tail _ h))))), ?_⟩
              refine da1 (i := 10) (by kernel_rfl) ?_
              refine di (i := 10) rfl <| q1 hF rfl (e_iaI hF Tryd.runUnderlying49 Tryd.sizeOf25 rfl rfl h72 (rowOa (St.ld hS) (.tail _ (.head _)) hq76)) fun a hF => ?_
              refine ⟨fun _ => (St.ldsX hS (fun _ _ h => h) (fun _ h => (.tail _ (.tail _ (.tail _ h))))), ?_⟩
              refine da1 (i := 11) (by kernel_rfl) ?_
              refine di (i := 11) rfl <| q1 hF rfl (e_ld hF Tryd.isAgg25 rfl (rowCell (ie := 3) (St.ld hS) (.tail _ (.head _)) hq76)) fun a hF => ?_
              refine ⟨fun _ => (St.ldsX hS (fun _ _ h => h) (fun _ h => (.tail _ (.tail _ (.tail _ h))))), ?_⟩
              refine da1 (i := 14) (by kernel_rfl) ?_
              refine di (i := 14) rfl <| m_appR (α := Int) (xs := x71) (ys := ([vB22] : List Int)) hF rfl hS Tryd.underlying25 info3 rfl (by decide) rfl rfl rfl (.tail _ (.tail _ (.head _))) hq76 hr77 (hS.rdO (.head _)) hv78 h82 fun oa83 cap84 vs85 w a hv86 hU hF => ?_
              replace hS := hU _ (.tail (.tail .head))
              clear hU
              replace hS := hS.drop .head
              refine ⟨fun _ => (St.ldsX hS (fun _ _ h => h) (fun _ h => (.tail _ (.tail _ h)))), ?_⟩
              refine da1 (i := 15) (by kernel_rfl) ?_
              refine di (i := 15) rfl <| q1 hF rfl (e_iaI hF Tryd.runUnderlying49 Tryd.sizeOf25 rfl rfl h72 (rowOa (St.ld hS) (.head _) hq76)) fun a hF => ?_
              refine ⟨fun _ => (St.ldsX hS (fun _ _ h => h) (fun _ h => (.tail _ (.tail _ h)))), ?_⟩
              refine da1 (i := 16) (by kernel_rfl) ?_
              have hn90 := setI_len h88
              refine di (i := 16) rfl <| m_stR (α := Int) hF hS Tryd.sizeOf25 rfl rfl hvD11 hv86 h88 (.head _) fun w hv89 hU => ?_
              replace hS := hU _ .head
              clear hU
              refine ⟨fun h => absurd rfl h, ?_⟩
              refine de (by kernel_rfl) <| ?_
              refine bn <| tn <| ?_
              replace hF := Fr.as hF (t := 7) (v' := .slice oaD8 l87.length capD9) rfl (by rw [hn90])
              exact ⟨l87, vD1, oaD8, capD9, (qsD10.set x54.toNat ⟨oa83, l81.length, cap84, vs85⟩), oaD2, capD3, vsD4, hm, hF.has ⟨rfl, rfl, rfl, rfl, rfl, rfl, rfl, trivial⟩, hS, hv89, hvD5⟩
        clear hm hF hS
        rintro a w ⟨vC1, vC7, oaC2, capC3, qsC4, oaC8, capC9, vsC10, hm, hF, hS, hvC5, hvC11⟩
        unfold trace_Steps_j3 at hm
        refine rg <| ?_
        refine ls <| q1 hF rfl (e_add hF rfl rfl) fun a hF => ?_
        refine ls <| q1 hF rfl (e_move hF rfl) fun a hF => ?_
        refine re <| ?_
        refine tn <| ?_
        exact ⟨(nn2, vC1, vC7, (IntKind.i64.wrap (vB22 + 1))), ⟨HB1, oaB2, capB3, oaB6, capB7, oaC2, capC3, qsC4, oaC8, capC9, vsC10, hm, hxHB1, hF.has ⟨rfl, rfl, rfl, rfl, rfl, rfl, rfl, trivial⟩, hS, hcB4, hrB5, hcB8, hrB9, hvC5, hvC11⟩, Nat.lt_succ_self _⟩
      ·
        replace hm := itp_f hm hb21
        refine tn <| th <| cfv hF rfl hb21 <| ?_
        refine wp_exit <| tx <| tx <| bx <| ?_
        refine tn <| ?_
        replace hS := hS.pickL (.cons .head (.cons .head .nil))
        exact ⟨vB10, HB1, oaB11, capB12, qsB13, hm, hxHB1, hF.has ⟨rfl, trivial⟩, hS, hvB14⟩
    clear hm hF hS
    rintro a w ⟨vA2, HA1, oaA3, capA4, qsA5, hm, hxHA1, hF, hS, hvA6⟩
    unfold trace_Steps_j1 at hm
    refine th <| ?_
    refine rg <| ?_
    refine ls <| q1 hF rfl (e_move hF rfl) fun a hF => ?_
    refine ls <| q1 hF rfl (e_asg hF rfl) fun a hF => ?_
    refine re <| ?_
    refine tn <| ?_
    refine wp_ret <| ?_
    obtain ⟨H94, hx91, hr92, hc93, hS⟩ := St.frzN hS (.tail .head) .head hvA6
    obtain rfl := Option.some.inj hm
    exact r1 hF Tryd.results36 rfl ⟨H94, _, _, rfl, hc93, hr92, (Ext.trans hxHA1 hx91), (St.le hS), hS.keep⟩

set_option maxRecDepth 100000 in
theorem leadlineref17_Steps_c {N : Nat} {w0 : World} {H : PH} (hH : H.le w0) {oa2 : Option Addr} {cap3 : Nat} {p1 : (List api_Event)} (hc4 : p1.length ≤ cap3) (hr5 : SR H oa2 p1) {oa7 : Option Addr} {cap8 : Nat} {p6 : (List Int)} (hc9 : p6.length ≤ cap8) (hr10 : SR H oa7 p6) {p11 : Int} {r : (List (List Int))} (hm : leadlineref17_Steps N p1 p6 p11 = some r) : Tot Tryd.prog 37 #[.slice oa2 p1.length cap3, .slice oa7 p6.length cap8, .int .i64 p11] w0 (fun v w' => ∃ (H' : PH) (oa0 : Option Addr) (cap0 : Nat), v = .slice oa0 r.length cap0 ∧ r.length ≤ cap0 ∧ SR H' oa0 r ∧ Ext w0 H H' ∧ H'.le w' ∧ Keep Nil w0 w') := by
  unfold leadlineref17_Steps at hm
  refine fn0 (args := [.slice oa2 p1.length cap3, .slice oa7 p6.length cap8, .int .i64 p11]) (F := [(0, .slice oa2 p1.length cap3), (1, .slice oa7 p6.length cap8), (2, .int .i64 p11)]) Tryd.func37 rfl Tryd.ntmps37 rfl rfl fun a hF => ?_
  have hS : St w0 Nil [H] [] w0 := start1 hH
  refine th <| ?_
  refine rg <| ?_
  refine ls <| q1 hF rfl (e_asg hF rfl) fun a hF => ?_
  refine re <| ?_
  refine tn <| th <| midK (fun a w => ∃ (vA15 : (List Bool)) (HA1 : PH) (oaA2 : Option Addr) (capA3 : Nat) (oaA6 : Option Addr) (capA7 : Nat) (oaA10 : Option Addr) (capA11 : Nat) (vsA12 : List Value) (oaA16 : Option Addr) (capA17 : Nat) (vsA18 : List Value), (leadlineref17_Steps_j1 N p1 p6 p11) vA15 = some r ∧ Ext w0 H HA1 ∧ Fr 90 [(0, .slice oaA2 p1.length capA3), (1, .slice oaA6 p6.length capA7), (2, .int .i64 p11), (7, .slice oaA10 0 capA11), (8, .slice oaA16 vA15.length capA17)] a ∧ St w0 Nil [HA1] [sla 25 1 oaA10 0 capA11 vsA12, sla 4 1 oaA16 vA15.length capA17 vsA18] w ∧ p1.length ≤ capA3 ∧ SR HA1 oaA2 p1 ∧ p6.length ≤ capA7 ∧ SR HA1 oaA6 p6 ∧ Rows HA1 vsA12 ([] : List (List Int)) ∧ Rows HA1 vsA18 vA15) ?_ ?_
  ·
    replace hm := bind_some hm
    obtain ⟨l15, h16, hm⟩ := hm
    refine rdS 6 hS wide fun w hS => ?_
    refine d1 (i := 1) rfl (by kernel_rfl) (by kernel_rfl) (St.ld hS) hF rfl (fun _ _ _ h => h) (fun w hl => (e_move hF rfl)) fun a hF => ?_
    refine d1 (i := 2) rfl (by kernel_rfl) (by kernel_rfl) (St.ld hS) hF rfl (fun _ _ _ h => h) (fun w hl => (e_lenL (α := api_Event) (xs := p1) hF Tryd.runUnderlying39 rfl)) fun a hF => ?_
    refine da2 (i := 0) (j := 3) (by kernel_rfl) ?_ ?_
    ·
      refine di (i := 0) rfl <| a_bsl (e := 25) (sz := 1) [] hF rfl hS rfl rfl rfl (fun w => by kernel_rfl) fun b13 w a hS hF => ?_
      have hv12 : Rows (α := (List Int)) H [] [] := .nil
      refine ⟨fun _ => (St.ldsX hS (fun _ _ h => h) (fun _ h => (.tail _ h))), ?_⟩
      refine d1 (i := 4) rfl (by kernel_rfl) (by kernel_rfl) (St.ldsX hS (fun _ _ h => h) (fun _ h => (.tail _ h))) hF rfl (fun _ _ _ h => h) (fun w hl => (e_asg hF rfl)) fun a hF => ?_
      refine da1 (i := 3) (by kernel_rfl) ?_
      refine di (i := 3) rfl <| m_mk (α := Bool) hF rfl hS Tryd.underlying81 info4 rfl (zz := false) rfl rfl rfl h16 fun b18 vs19 w a hv17 hS hF => ?_
      refine ⟨fun _ => (St.ldsX hS (fun _ _ h => h) (fun _ h => (.tail _ (.tail _ h)))), ?_⟩
      refine d1 (i := 5) rfl (by kernel_rfl) (by kernel_rfl) (St.ldsX hS (fun _ _ h => h) (fun _ h => (.tail _ (.tail _ h)))) hF rfl (fun _ _ _ h => h) (fun w hl => (e_asg hF rfl)) fun a hF => ?_
      refine de (by kernel_rfl) <| ?_
      refine tn <| ?_
      replace hS := hS.pickL (.cons (.tail .head) (.cons .head .nil))
      exact ⟨l15, H, oa2, cap3, oa7, cap8, (some ⟨b13, 0, none⟩), 0, [], (some ⟨b18, 0, none⟩), l15.length, vs19, hm, (Ext.refl _ _), hF.has ⟨rfl, rfl, rfl, rfl, rfl, trivial⟩, hS, hc4, hr5, hc9, hr10, hv12, hv17⟩
    ·
      refine di (i := 3) rfl <| m_mk (α := Bool) hF rfl hS Tryd.underlying81 info4 rfl (zz := false) rfl rfl rfl h16 fun b18 vs19 w a hv17 hS hF => ?_
      refine ⟨fun _ => (St.ldsX hS (fun _ _ h => h) (fun _ h => (.tail _ h))), ?_⟩
      refine da1 (i := 0) (by kernel_rfl) ?_
      refine di (i := 0) rfl <| a_bsl (e := 25) (sz := 1) [] hF rfl hS rfl rfl rfl (fun w => by kernel_rfl) fun b13 w a hS hF => ?_
      have hv12 : Rows (α := (List Int)) H [] [] := .nil
      refine ⟨fun _ => (St.ldsX hS (fun _ _ h => h) (fun _ h => (.tail _ (.tail _ h)))), ?_⟩
      refine d1 (i := 4) rfl (by kernel_rfl) (by kernel_rfl) (St.ldsX hS (fun _ _ h => h) (fun _ h => (.tail _ (.tail _ h)))) hF rfl (fun _ _ _ h => h) (fun w hl => (e_asg hF rfl)) fun a hF => ?_
      refine d1 (i := 5) rfl (by kernel_rfl) (by kernel_rfl) (St.ldsX hS (fun _ _ h => h) (fun _ h => (.tail _ (.tail _ h)))) hF rfl (fun _ _ _ h => h) (fun w hl => (e_asg hF rfl)) fun a hF => ?_
      refine de (by kernel_rfl) <| ?_
      refine tn <| ?_
      exact ⟨l15, H, oa2, cap3, oa7, cap8, (some ⟨b13, 0, none⟩), 0, [], (some ⟨b18, 0, none⟩), l15.length, vs19, hm, (Ext.refl _ _), hF.has ⟨rfl, rfl, rfl, rfl, rfl, trivial⟩, hS, hc4, hr5, hc9, hr10, hv12, hv17⟩
  clear hm hF hS
  rintro a w ⟨vA15, HA1, oaA2, capA3, oaA6, capA7, oaA10, capA11, vsA12, oaA16, capA17, vsA18, hm, hxHA1, hF, hS, hcA4, hrA5, hcA8, hrA9, hvA13, hvA19⟩
  unfold leadlineref17_Steps_j1 at hm
  refine th <| ?_
  refine rg <| ?_
  refine ls <| q1 hF rfl (e_move hF rfl) fun a hF => ?_
  refine ls <| q1 hF rfl (e_lenL (α := api_Event) (xs := p1) hF Tryd.runUnderlying39 rfl) fun a hF => ?_
  refine ls <| q1 hF rfl (e_asg hF rfl) fun a hF => ?_
  refine re <| ?_
  refine tn <| th <| th <| ?_
  replace hm := bind_some hm
  obtain ⟨r21, h22, hm⟩ := hm
  refine rg <| ?_
  refine ls <| q1 hF rfl (e_move hF rfl) fun a hF => ?_
  refine ls <| c1 hF rfl Tryd.call51 (leadlineref16_Threads_c (hp_le _) hcA4 (St.srH hS hrA5) h22) ⟨rfl, trivial⟩ (fun v w a hR hF => ?_)
  obtain ⟨rfl, hk⟩ := hR
  replace hS := hS.pass hk
  clear hk
  refine ls <| q1 hF rfl (e_eql hF rfl rfl) fun a hF => ?_
  refine re <| ?_
  refine tn <| midK (fun a w => ∃ (vA21 : Int), (leadlineref17_Steps_j2 N p1 p6 p11 vA15) vA21 = some r ∧ Fr 90 [(0, .slice oaA2 p1.length capA3), (1, .slice oaA6 p6.length capA7), (2, .int .i64 p11), (7, .slice oaA10 0 capA11), (8, .slice oaA16 vA15.length capA17), (9, .int .i64 vA21)] a ∧ St w0 Nil [HA1] [sla 25 1 oaA10 0 capA11 vsA12, sla 4 1 oaA16 vA15.length capA17 vsA18] w) ?_ ?_
  ·
    rcases bdich (decide (r21 = 0)) with hb23 | hb23
    ·
      replace hm := itp_t hm hb23
      refine ctv hF rfl hb23 <| ?_
      refine rg <| ?_
      refine ls <| q1 hF rfl (e_asg hF rfl) fun a hF => ?_
      refine re <| ?_
      refine tn <| ?_
      exact ⟨0, hm, hF.has ⟨rfl, rfl, rfl, rfl, rfl, rfl, trivial⟩, hS⟩
    ·
      replace hm := itp_f hm hb23
      refine cfv hF rfl hb23 <| wp_skip <| ?_
      refine tn <| ?_
      exact ⟨(p1.length : Int), hm, hF.has ⟨rfl, rfl, rfl, rfl, rfl, rfl, trivial⟩, hS⟩
  clear hm hF hS
  rintro a w ⟨vA21, hm, hF, hS⟩
  unfold leadlineref17_Steps_j2 at hm
  refine th <| midK (fun a w => ∃ (vA23 : (List (List Int))) (HA22 : PH) (oaA24 : Option Addr) (capA25 : Nat) (vsA26 : List Value), leadlineref17_Steps_j3 vA23 = some r ∧ Ext w0 HA1 HA22 ∧ Fr 90 [(7, .slice oaA24 vA23.length capA25)] a ∧ St w0 Nil [HA22] [sla 25 1 oaA24 vA23.length capA25 vsA26] w ∧ Rows HA22 vsA26 vA23) ?_ ?_
  ·
    refine wp_block <| lp (α := Nat × (List (List Int)) × (List Bool) × Int) (fun (gh : Nat × (List (List Int)) × (List Bool) × Int) a w => match gh with | (nn4, vB2, vB8, vB14) => ∃ (HB1 : PH) (oaB3 : Option Addr) (capB4 : Nat) (vsB5 : List Value) (oaB9 : Option Addr) (capB10 : Nat) (vsB11 : List Value), (leadlineref17_Steps_l4 N leadlineref17_Steps_j3 p1 p6 p11) nn4 vB2 vB8 vB14 = some r ∧ Ext w0 HA1 HB1 ∧ Fr 90 [(0, .slice oaA2 p1.length capA3), (1, .slice oaA6 p6.length capA7), (2, .int .i64 p11), (7, .slice oaB3 vB2.length capB4), (8, .slice oaB9 vB8.length capB10), (9, .int .i64 vB14)] a ∧ St w0 Nil [HB1] [sla 25 1 oaB3 vB2.length capB4 vsB5, sla 4 1 oaB9 vB8.length capB10 vsB11] w ∧ Rows HB1 vsB5 vB2 ∧ Rows HB1 vsB11 vB8) (fun gh => gh.1) (N, [], vA15, vA21) ⟨HA1, oaA10, capA11, vsA12, oaA16, capA17, vsA18, hm, (Ext.refl _ _), hF.has ⟨rfl, rfl, rfl, rfl, rfl, rfl, trivial⟩, hS, hvA13, hvA19⟩ ?_
    clear hm hF hS
    rintro ⟨nn4, vB2, vB8, vB14⟩ a w ⟨HB1, oaB3, capB4, vsB5, oaB9, capB10, vsB11, hm, hxHB1, hF, hS, hvB6, hvB12⟩
    obtain _ | nn4 := nn4
    · simp [leadlineref17_Steps_l4] at hm
    rw [leadlineref17_Steps_l4] at hm
    refine th <| th <| ?_
    refine rg <| ?_
    refine ls <| q1 hF rfl (e_move hF rfl) fun a hF => ?_
    refine ls <| q1 hF rfl (e_gtr hF rfl rfl) fun a hF => ?_
    refine re <| ?_
    rcases bdich (decide (0 < vB14)) with hb24 | hb24
    ·
      replace hm := itp_t hm hb24
      refine tn <| ctv hF rfl hb24 <| wp_skip <| ?_
      refine tn <| wp_block <| th <| ?_
      refine rg <| ?_
      refine ls <| a_bsl (e := 3) (sz := 1) [] hF rfl hS rfl rfl rfl (fun w => by kernel_rfl) fun b26 w a hS hF => ?_
      have hv25 : Rows (α := Int) HB1 [] [] := .nil
      refine ls <| q1 hF rfl (e_asg hF rfl) fun a hF => ?_
      refine re <| ?_
      refine tn <| th <| th <| ?_
      refine rg <| ?_
      refine ls <| q1 hF rfl (e_asg hF rfl) fun a hF => ?_
      refine re <| ?_
      refine tn <| midK (fun a w => ∃ (vC1 : (List Int)) (oaC2 : Option Addr) (capC3 : Nat) (vsC4 : List Value), (leadlineref17_Steps_j5 N (leadlineref17_Steps_l4 N leadlineref17_Steps_j3 p1 p6 p11 nn4) vB2 vB8 vB14) vC1 = some r ∧ Fr 90 [(0, .slice oaA2 p1.length capA3), (1, .slice oaA6 p6.length capA7), (2, .int .i64 p11), (7, .slice oaB3 vB2.length capB4), (8, .slice oaB9 vB8.length capB10), (9, .int .i64 vB14), (10, .slice oaC2 vC1.length capC3)] a ∧ St w0 Nil [HB1] [sla 25 1 oaB3 vB2.length capB4 vsB5, sla 4 1 oaB9 vB8.length capB10 vsB11, sla 3 1 oaC2 vC1.length capC3 vsC4] w ∧ Rows HB1 vsC4 vC1) ?_ ?_
      ·
        replace hS := hS.pickL (.cons (.tail .head) (.cons (.tail .head) (.cons .head .nil)))
        refine wp_block <| lp (α := Nat × (List Int) × Int) (fun (gh : Nat × (List Int) × Int) a w => match gh with | (nn6, vD1, vD7) => ∃ (oaD2 : Option Addr) (capD3 : Nat) (vsD4 : List Value), (leadlineref17_Steps_l6 N (leadlineref17_Steps_j5 N (leadlineref17_Steps_l4 N leadlineref17_Steps_j3 p1 p6 p11 nn4) vB2 vB8 vB14) p1 p6 p11 vB8) nn6 vD1 vD7 = some r ∧ Fr 90 [(0, .slice oaA2 p1.length capA3), (1, .slice oaA6 p6.length capA7), (2, .int .i64 p11), (7, .slice oaB3 vB2.length capB4), (8, .slice oaB9 vB8.length capB10), (9, .int .i64 vB14), (10, .slice oaD2 vD1.length capD3), (11, .int .i64 vD7)] a ∧ St w0 Nil [HB1] [sla 25 1 oaB3 vB2.length capB4 vsB5, sla 4 1 oaB9 vB8.length capB10 vsB11, sla 3 1 oaD2 vD1.length capD3 vsD4] w ∧ Rows HB1 vsD4 vD1) (fun gh => gh.1) (N, [], 0) ⟨(some ⟨b26, 0, none⟩), 0, [], hm, hF.has ⟨rfl, rfl, rfl, rfl, rfl, rfl, rfl, rfl, trivial⟩, hS, hv25⟩ ?_
        clear hm hF hS
        rintro ⟨nn6, vD1, vD7⟩ a w ⟨oaD2, capD3, vsD4, hm, hF, hS, hvD5⟩
        obtain _ | nn6 := nn6
        · simp [leadlineref17_Steps_l6] at hm
        rw [leadlineref17_Steps_l6] at hm
        refine th <| th <| ?_
        refine rg <| ?_
        refine ls <| q1 hF rfl (e_move hF rfl) fun a hF => ?_
        refine ls <| q1 hF rfl (e_move hF rfl) fun a hF => ?_
        refine ls <| q1 hF rfl (e_lenL (α := api_Event) (xs := p1) hF Tryd.runUnderlying39 rfl) fun a hF => ?_
        refine ls <| q1 hF rfl (e_lss hF rfl rfl) fun a hF => ?_
        refine re <| ?_
        rcases bdich (decide (vD7 < (p1.length : Int))) with hb28 | hb28
        ·
          replace hm := itp_t hm hb28
          refine tn <| ctv hF rfl hb28 <| wp_skip <| ?_
          refine tn <| th <| midK (fun a w => ∃ (vE1 : (List Int)) (oaE2 : Option Addr) (capE3 : Nat) (vsE4 : List Value), (leadlineref17_Steps_j7 (leadlineref17_Steps_l6 N (leadlineref17_Steps_j5 N (leadlineref17_Steps_l4 N leadlineref17_Steps_j3 p1 p6 p11 nn4) vB2 vB8 vB14) p1 p6 p11 vB8 nn6) vD7) vE1 = some r ∧ Fr 90 [(0, .slice oaA2 p1.length capA3), (1, .slice oaA6 p6.length capA7), (2, .int .i64 p11), (7, .slice oaB3 vB2.length capB4), (8, .slice oaB9 vB8.length capB10), (9, .int .i64 vB14), (10, .slice oaE2 vE1.length capE3), (11, .int .i64 vD7)] a ∧ St w0 Nil [HB1] [sla 25 1 oaB3 vB2.length capB4 vsB5, sla 4 1 oaB9 vB8.length capB10 vsB11, sla 3 1 oaE2 vE1.length capE3 vsE4] w ∧ Rows HB1 vsE4 vE1) ?_ ?_
          ·
            refine wp_block <| th <| ?_
            replace hm := bind_some hm
            obtain ⟨x29, h30, hm⟩ := hm
            have ho31 := Rd.oaI (hS.rdO (.tail _ (.head _))) hvB12 (by decide) h30
            obtain ⟨c32, g33, hl34⟩ := Rows.getI hvB12 h30
            obtain rfl : c32 = [.bool x29] := g33
            refine rg <| ?_
            refine ls <| q1 hF rfl (e_move hF rfl) fun a hF => ?_
            refine ls <| q1 hF rfl (e_move hF rfl) fun a hF => ?_
            refine ls <| q1 hF rfl (e_iaI hF Tryd.runUnderlying81 Tryd.sizeOf4 rfl rfl h30 ho31) fun a hF => ?_
            refine ls <| q1 hF rfl (e_ld hF Tryd.isAgg4 rfl ((St.ld hS).elO (.tail _ (.head _)) (hl34 0 _ rfl))) fun a hF => ?_
            refine ls <| q1 hF rfl (e_not hF rfl) fun a hF => ?_
            refine ls <| q1 hF rfl (e_asg hF rfl) fun a hF => ?_
            refine re <| ?_
            refine tn <| th <| th <| ?_
            refine rg <| ?_
            refine ls <| q1 hF rfl (e_asg hF rfl) fun a hF => ?_
            refine re <| ?_
            refine tn <| midK (fun a w => ∃ (vF1 : Bool), (leadlineref17_Steps_j8 (leadlineref17_Steps_j7 (leadlineref17_Steps_l6 N (leadlineref17_Steps_j5 N (leadlineref17_Steps_l4 N leadlineref17_Steps_j3 p1 p6 p11 nn4) vB2 vB8 vB14) p1 p6 p11 vB8 nn6) vD7) vD1 vD7) vF1 = some r ∧ Fr 90 [(0, .slice oaA2 p1.length capA3), (1, .slice oaA6 p6.length capA7), (2, .int .i64 p11), (7, .slice oaB3 vB2.length capB4), (8, .slice oaB9 vB8.length capB10), (9, .int .i64 vB14), (10, .slice oaD2 vD1.length capD3), (11, .int .i64 vD7), (12, .bool vF1)] a ∧ St w0 Nil [HB1] [sla 25 1 oaB3 vB2.length capB4 vsB5, sla 4 1 oaB9 vB8.length capB10 vsB11, sla 3 1 oaD2 vD1.length capD3 vsD4] w) ?_ ?_
            ·
              refine wp_block <| lp (α := Nat × Bool × Int) (fun (gh : Nat × Bool × Int) a w => match gh with | (nn9, vG1, vG2) => (leadlineref17_Steps_l9 N (leadlineref17_Steps_j8 (leadlineref17_Steps_j7 (leadlineref17_Steps_l6 N (leadlineref17_Steps_j5 N (leadlineref17_Steps_l4 N leadlineref17_Steps_j3 p1 p6 p11 nn4) vB2 vB8 vB14) p1 p6 p11 vB8 nn6) vD7) vD1 vD7) p1 p6 p11 vD7 vB8) nn9 vG1 vG2 = some r ∧ Fr 90 [(0, .slice oaA2 p1.length capA3), (1, .slice oaA6 p6.length capA7), (2, .int .i64 p11), (7, .slice oaB3 vB2.length capB4), (8, .slice oaB9 vB8.length capB10), (9, .int .i64 vB14), (10, .slice oaD2 vD1.length capD3), (11, .int .i64 vD7), (12, .bool vG1), (13, .int .i64 vG2)] a ∧ St w0 Nil [HB1] [sla 25 1 oaB3 vB2.length capB4 vsB5, sla 4 1 oaB9 vB8.length capB10 vsB11, sla 3 1 oaD2 vD1.length capD3 vsD4] w) (fun gh => gh.1) (N, (!x29), 0) ⟨hm, hF.has ⟨rfl, rfl, rfl, rfl, rfl, rfl, rfl, rfl, rfl, rfl, trivial⟩, hS⟩ ?_
              clear hm hF hS
              rintro ⟨nn9, vG1, vG2⟩ a w ⟨hm, hF, hS⟩
              obtain _ | nn9 := nn9
              · simp [leadlineref17_Steps_l9] at hm
              rw [leadlineref17_Steps_l9] at hm
              refine th <| th <| ?_
              refine rg <| ?_
              refine ls <| q1 hF rfl (e_move hF rfl) fun a hF => ?_
              refine ls <| q1 hF rfl (e_move hF rfl) fun a hF => ?_
              refine ls <| q1 hF rfl (e_lss hF rfl rfl) fun a hF => ?_
              refine re <| ?_
              rcases bdich (decide (vG2 < vD7)) with hb35 | hb35
              ·
                replace hm := itp_t hm hb35
                refine tn <| ctv hF rfl hb35 <| wp_skip <| ?_
                refine tn <| th <| midK (fun a w => ∃ (vH1 : Bool), (leadlineref17_Steps_j10 (leadlineref17_Steps_l9 N (leadlineref17_Steps_j8 (leadlineref17_Steps_j7 (leadlineref17_Steps_l6 N (leadlineref17_Steps_j5 N (leadlineref17_Steps_l4 N leadlineref17_Steps_j3 p1 p6 p11 nn4) vB2 vB8 vB14) p1 p6 p11 vB8 nn6) vD7) vD1 vD7) p1 p6 p11 vD7 vB8 nn9) vG2) vH1 = some r ∧ Fr 90 [(0, .slice oaA2 p1.length capA3), (1, .slice oaA6 p6.length capA7), (2, .int .i64 p11), (7, .slice oaB3 vB2.length capB4), (8, .slice oaB9 vB8.length capB10), (9, .int .i64 vB14), (10, .slice oaD2 vD1.length capD3), (11, .int .i64 vD7), (12, .bool vH1), (13, .int .i64 vG2)] a ∧ St w0 Nil [HB1] [sla 25 1 oaB3 vB2.length capB4 vsB5, sla 4 1 oaB9 vB8.length capB10 vsB11, sla 3 1 oaD2 vD1.length capD3 vsD4] w) ?_ ?_
                ·
                  refine wp_block <| ?_
                  rcases bdich vG1 with hb36 | hb36
                  ·
                    replace hm := ite_t hm hb36
                    replace hm := bind_some hm
                    obtain ⟨x37, h38, hm⟩ := hm
                    have ho39 := Rd.oaI (hS.rdO (.tail _ (.head _))) hvB12 (by decide) h38
                    obtain ⟨c40, g41, hl42⟩ := Rows.getI hvB12 h38
                    obtain rfl : c40 = [.bool x37] := g41
                    rcases bdich x37 with hb43 | hb43
                    ·
                      replace hm := ite_t hm hb43
                      refine rxS 22 hS wide (by kernel_rfl) fun w hS => ?_
                      refine x1 (St.ld hS) hF rfl rfl (fun _ _ _ h => h) (fun w hl => (e_move hF rfl)) fun a hF => ?_
                      refine x1 (St.ld hS) hF rfl rfl (fun _ _ _ h => h) (fun w hl => (e_as (e_move hF rfl) (congrArg Value.bool hb36))) fun a hF => ?_
                      refine x1g (St.ld hS) hF rfl rfl rfl rfl (fun _ _ _ h => h) (fun w hl => (e_move hF rfl)) fun a hF => ?_
                      refine x1g (St.ld hS) hF rfl rfl rfl rfl (fun _ _ _ h => h) (fun w hl => (e_move hF rfl)) fun a hF => ?_
                      refine x1g (St.ld hS) hF rfl rfl rfl rfl (fun _ _ _ h => h) (fun w hl => (e_iaI hF Tryd.runUnderlying81 Tryd.sizeOf4 rfl rfl h38 ho39)) fun a hF => ?_
                      refine x1g (St.ld hS) hF rfl rfl rfl rfl (fun _ _ _ h => h) (fun w hl => (e_ld hF Tryd.isAgg4 rfl (hl.elO (.tail _ (.head _)) (hl42 0 _ rfl)))) fun a hF => ?_
                      refine x1g (St.ld hS) hF rfl rfl rfl rfl (fun _ _ _ h => h) (fun w hl => (e_as (e_move hF rfl) (congrArg Value.bool hb43))) fun a hF => ?_
                      refine x1n (St.ld hS) hF rfl rfl rfl rfl rfl (fun _ _ _ h => h) fun a hF => ?_
                      refine x1n (St.ld hS) hF rfl rfl rfl rfl rfl (fun _ _ _ h => h) fun a hF => ?_
                      refine x1n (St.ld hS) hF rfl rfl rfl rfl rfl (fun _ _ _ h => h) fun a hF => ?_
                      refine x1n (St.ld hS) hF rfl rfl rfl rfl rfl (fun _ _ _ h => h) fun a hF => ?_
                      refine x1n (St.ld hS) hF rfl rfl rfl rfl rfl (fun _ _ _ h => h) fun a hF => ?_
                      refine x1n (St.ld hS) hF rfl rfl rfl rfl rfl (fun _ _ _ h => h) fun a hF => ?_
                      refine x1n (St.ld hS) hF rfl rfl rfl rfl rfl (fun _ _ _ h => h) fun a hF => ?_
                      refine x1n (St.ld hS) hF rfl rfl rfl rfl rfl (fun _ _ _ h => h) fun a hF => ?_
                      refine x1n (St.ld hS) hF rfl rfl rfl rfl rfl (fun _ _ _ h => h) fun a hF => ?_
                      refine x1n (St.ld hS) hF rfl rfl rfl rfl rfl (fun _ _ _ h => h) fun a hF => ?_
                      refine x1n (St.ld hS) hF rfl rfl rfl rfl rfl (fun _ _ _ h => h) fun a hF => ?_
                      refine x1n (St.ld hS) hF rfl rfl rfl rfl rfl (fun _ _ _ h => h) fun a hF => ?_
                      refine x1g (St.ld hS) hF rfl rfl rfl rfl (fun _ _ _ h => h) (fun w hl => (e_pickT hF rfl rfl)) fun a hF => ?_
                      refine x1 (St.ld hS) hF rfl rfl (fun _ _ _ h => h) (fun w hl => (e_pickT hF rfl rfl)) fun a hF => ?_
                      refine x1 (St.ld hS) hF rfl rfl (fun _ _ _ h => h) (fun w hl => (e_asg hF rfl)) fun a hF => ?_
                      refine xe <| ?_
                      refine bn <| tn <| ?_
                      exact ⟨true, hm, hF.has ⟨rfl, rfl, rfl, rfl, rfl, rfl, rfl, rfl, rfl, rfl, trivial⟩, hS⟩
                    ·
                      replace hm := ite_f hm hb43
                      replace hm := bind_some hm
                      obtain ⟨x44, h45, hm⟩ := hm
                      obtain ⟨c46, g47, hl48⟩ := SR.get hrA5 h45
                      obtain rfl := api_Event_open g47
                      replace hm := bind_some hm
                      obtain ⟨x49, h50, hm⟩ := hm
                      obtain ⟨c51, g52, hl53⟩ := SR.get hrA5 h50
                      obtain rfl := api_Event_open g52
                      replace hm := bind_some hm
                      obtain ⟨r54, h55, hm⟩ := hm
                      refine rdS 22 hS wide fun w hS => ?_
                      refine d1 (i := 0) rfl (by kernel_rfl) (by kernel_rfl) (St.ld hS) hF rfl (fun _ _ _ h => h) (fun w hl => (e_move hF rfl)) fun a hF => ?_
                      refine d1 (i := 1) rfl (by kernel_rfl) (by kernel_rfl) (St.ld hS) hF rfl (fun _ _ _ h => h) (fun w hl => (e_as (e_move hF rfl) (congrArg Value.bool hb36))) fun a hF => ?_
                      refine d1g (i := 2) rfl (by kernel_rfl) (by kernel_rfl) (St.ld hS) hF rfl rfl rfl (fun _ _ _ h => h) (fun w hl => (e_move hF rfl)) fun a hF => ?_
                      refine d1g (i := 3) rfl (by kernel_rfl) (by kernel_rfl) (St.ld hS) hF rfl rfl rfl (fun _ _ _ h => h) (fun w hl => (e_move hF rfl)) fun a hF => ?_
                      refine d1g (i := 4) rfl (by kernel_rfl) (by kernel_rfl) (St.ld hS) hF rfl rfl rfl (fun _ _ _ h => h) (fun w hl => (e_iaI hF Tryd.runUnderlying81 Tryd.sizeOf4 rfl rfl h38 ho39)) fun a hF => ?_
                      refine d1g (i := 5) rfl (by kernel_rfl) (by kernel_rfl) (St.ld hS) hF rfl rfl rfl (fun _ _ _ h => h) (fun w hl => (e_ld hF Tryd.isAgg4 rfl (hl.elO (.tail _ (.head _)) (hl42 0 _ rfl)))) fun a hF => ?_
                      refine d1g (i := 6) rfl (by kernel_rfl) (by kernel_rfl) (St.ld hS) hF rfl rfl rfl (fun _ _ _ h => h) (fun w hl => (e_as (e_move hF rfl) (congrArg Value.bool hb43))) fun a hF => ?_
                      refine d1g (i := 7) rfl (by kernel_rfl) (by kernel_rfl) (St.ld hS) hF rfl rfl rfl (fun _ _ _ h => h) (fun w hl => (e_move hF rfl)) fun a hF => ?_
                      refine d1g (i := 8) rfl (by kernel_rfl) (by kernel_rfl) (St.ld hS) hF rfl rfl rfl (fun _ _ _ h => h) (fun w hl => (e_move hF rfl)) fun a hF => ?_
                      refine d1g (i := 9) rfl (by kernel_rfl) (by kernel_rfl) (St.ld hS) hF rfl rfl rfl (fun _ _ _ h => h) (fun w hl => (e_iaI hF Tryd.runUnderlying39 Tryd.sizeOf23 rfl rfl h45 (SR.oaI hrA5 (by decide) h45))) fun a hF => ?_
                      refine d1g (i := 10) rfl (by kernel_rfl) (by kernel_rfl) (St.ld hS) hF rfl rfl rfl (fun _ _ _ h => h) (fun w hl => (e_ldA hF Tryd.isAgg23 Tryd.sizeOf23 rfl rfl (fun j v hj => PH.le.cell (fun b o hx => (Lds.le hl) b o (hxHB1.sub b o hx)) (hl48 j v hj)))) fun a hF => ?_
                      refine d1g (i := 11) rfl (by kernel_rfl) (by kernel_rfl) (St.ld hS) hF rfl rfl rfl (fun _ _ _ h => h) (fun w hl => (e_move hF rfl)) fun a hF => ?_
                      refine d1g (i := 12) rfl (by kernel_rfl) (by kernel_rfl) (St.ld hS) hF rfl rfl rfl (fun _ _ _ h => h) (fun w hl => (e_move hF rfl)) fun a hF => ?_
                      refine d1g (i := 13) rfl (by kernel_rfl) (by kernel_rfl) (St.ld hS) hF rfl rfl rfl (fun _ _ _ h => h) (fun w hl => (e_iaI hF Tryd.runUnderlying39 Tryd.sizeOf23 rfl rfl h50 (SR.oaI hrA5 (by decide) h50))) fun a hF => ?_
                      refine d1g (i := 14) rfl (by kernel_rfl) (by kernel_rfl) (St.ld hS) hF rfl rfl rfl (fun _ _ _ h => h) (fun w hl => (e_ldA hF Tryd.isAgg23 Tryd.sizeOf23 rfl rfl (fun j v hj => PH.le.cell (fun b o hx => (Lds.le hl) b o (hxHB1.sub b o hx)) (hl53 j v hj)))) fun a hF => ?_
                      refine d1g (i := 15) rfl (by kernel_rfl) (by kernel_rfl) (St.ld hS) hF rfl rfl rfl (fun _ _ _ h => h) (fun w hl => (e_move hF rfl)) fun a hF => ?_
                      refine d1g (i := 16) rfl (by kernel_rfl) (by kernel_rfl) (St.ld hS) hF rfl rfl rfl (fun _ _ _ h => h) (fun w hl => (e_move hF rfl)) fun a hF => ?_
                      refine da1 (i := 17) (by kernel_rfl) ?_
                      refine di (i := 17) rfl <| gy hF rfl rfl <| c1 hF rfl Tryd.call17 (leadlineref15_Depend_c (hp_le _) hcA8 (St.srH hS (hrA9.mono hxHB1.sub)) h55) ⟨rfl, rfl, rfl, rfl, trivial⟩ (fun v w a hR hF => ?_)
                      obtain ⟨rfl, hk⟩ := hR
                      replace hS := hS.pass hk
                      clear hk
                      refine ⟨fun _ => (St.ld hS), ?_⟩
                      refine d1g (i := 18) rfl (by kernel_rfl) (by kernel_rfl) (St.ld hS) hF rfl rfl rfl (fun _ _ _ h => h) (fun w hl => (e_not hF rfl)) fun a hF => ?_
                      refine d1g (i := 19) rfl (by kernel_rfl) (by kernel_rfl) (St.ld hS) hF rfl rfl rfl (fun _ _ _ h => h) (fun w hl => (e_pickF hF rfl rfl)) fun a hF => ?_
                      refine d1 (i := 20) rfl (by kernel_rfl) (by kernel_rfl) (St.ld hS) hF rfl (fun _ _ _ h => h) (fun w hl => (e_pickT hF rfl rfl)) fun a hF => ?_
                      refine d1 (i := 21) rfl (by kernel_rfl) (by kernel_rfl) (St.ld hS) hF rfl (fun _ _ _ h => h) (fun w hl => (e_asg hF rfl)) fun a hF => ?_
                      refine de (by kernel_rfl) <| ?_
                      refine bn <| tn <| ?_
                      exact ⟨(!r54), hm, hF.has ⟨rfl, rfl, rfl, rfl, rfl, rfl, rfl, rfl, rfl, rfl, trivial⟩, hS⟩
                  ·
                    replace hm := ite_f hm hb36
                    refine rxS 22 hS wide (by kernel_rfl) fun w hS => ?_
                    refine x1 (St.ld hS) hF rfl rfl (fun _ _ _ h => h) (fun w hl => (e_move hF rfl)) fun a hF => ?_
                    refine x1 (St.ld hS) hF rfl rfl (fun _ _ _ h => h) (fun w hl => (e_as (e_move hF rfl) (congrArg Value.bool hb36))) fun a hF => ?_
                    refine x1n (St.ld hS) hF rfl rfl rfl rfl rfl (fun _ _ _ h => h) fun a hF => ?_
                    refine x1n (St.ld hS) hF rfl rfl rfl rfl rfl (fun _ _ _ h => h) fun a hF => ?_
                    refine x1n (St.ld hS) hF rfl rfl rfl rfl rfl (fun _ _ _ h => h) fun a hF => ?_
                    refine x1n (St.ld hS) hF rfl rfl rfl rfl rfl (fun _ _ _ h => h) fun a hF => ?_
                    refine x1n (St.ld hS) hF rfl rfl rfl rfl rfl (fun _ _ _ h => h) fun a hF => ?_
                    refine x1u (St.ld hS) hF rfl rfl rfl rfl (fun _ _ _ h => h) fun a hF => ?_
                    refine x1u (St.ld hS) hF rfl rfl rfl rfl (fun _ _ _ h => h) fun a hF => ?_
                    refine x1u (St.ld hS) hF rfl rfl rfl rfl (fun _ _ _ h => h) fun a hF => ?_
                    refine x1u (St.ld hS) hF rfl rfl rfl rfl (fun _ _ _ h => h) fun a hF => ?_
                    refine x1u (St.ld hS) hF rfl rfl rfl rfl (fun _ _ _ h => h) fun a hF => ?_
                    refine x1u (St.ld hS) hF rfl rfl rfl rfl (fun _ _ _ h => h) fun a hF => ?_
                    refine x1u (St.ld hS) hF rfl rfl rfl rfl (fun _ _ _ h => h) fun a hF => ?_
                    refine x1u (St.ld hS) hF rfl rfl rfl rfl (fun _ _ _ h => h) fun a hF => ?_
                    refine x1u (St.ld hS) hF rfl rfl rfl rfl (fun _ _ _ h => h) fun a hF => ?_
                    refine x1u (St.ld hS) hF rfl rfl rfl rfl (fun _ _ _ h => h) fun a hF => ?_
                    refine x1u (St.ld hS) hF rfl rfl rfl rfl (fun _ _ _ h => h) fun a hF => ?_
                    refine x1u (St.ld hS) hF rfl rfl rfl rfl (fun _ _ _ h => h) fun a hF => ?_
                    refine x1n (St.ld hS) hF rfl rfl rfl rfl rfl (fun _ _ _ h => h) fun a hF => ?_
                    refine x1 (St.ld hS) hF rfl rfl (fun _ _ _ h => h) (fun w hl => (e_pickF hF rfl rfl)) fun a hF => ?_
                    refine x1 (St.ld hS) hF rfl rfl (fun _ _ _ h => h) (fun w hl => (e_asg hF rfl)) fun a hF => ?_
                    refine xe <| ?_
                    refine bn <| tn <| ?_
                    exact ⟨false, hm, hF.has ⟨rfl, rfl, rfl, rfl, rfl, rfl, rfl, rfl, rfl, rfl, trivial⟩, hS⟩
                clear hm hF hS
                rintro a w ⟨vH1, hm, hF, hS⟩
                unfold leadlineref17_Steps_j10 at hm
                refine rg <| ?_
                refine ls <| q1 hF rfl (e_move hF rfl) fun a hF => ?_
                refine ls <| q1 hF rfl (e_add hF rfl rfl) fun a hF => ?_
                refine ls <| q1 hF rfl (e_asg hF rfl) fun a hF => ?_
                refine re <| ?_
                refine tn <| ?_
                exact ⟨(nn9, vH1, (IntKind.i64.wrap (vG2 + 1))), ⟨hm, hF.has ⟨rfl, rfl, rfl, rfl, rfl, rfl, rfl, rfl, rfl, rfl, trivial⟩, hS⟩, Nat.lt_succ_self _⟩
              ·
                replace hm := itp_f hm hb35
                refine tn <| cfv hF rfl hb35 <| ?_
                refine wp_exit <| tx <| tx <| bx <| ?_
                refine tn <| ?_
                exact ⟨vG1, hm, hF.has ⟨rfl, rfl, rfl, rfl, rfl, rfl, rfl, rfl, rfl, trivial⟩, hS⟩
            clear hm hF hS
            rintro a w ⟨vF1, hm, hF, hS⟩
            unfold leadlineref17_Steps_j8 at hm
            refine th <| ?_
            refine rg <| ?_
            refine ls <| q1 hF rfl (e_move hF rfl) fun a hF => ?_
            refine re <| ?_
            rcases bdich vF1 with hb56 | hb56
            ·
              replace hm := ite_t hm hb56
              refine tn <| ctv hF rfl hb56 <| ?_
              replace hm := bind_some hm
              obtain ⟨l60, h61, hm⟩ := hm
              refine rg <| ?_
              refine ls <| q1 hF rfl (e_move hF rfl) fun a hF => ?_
              refine ls <| q1 hF rfl (e_move hF rfl) fun a hF => ?_
              refine ls <| a_bsl (e := 3) (sz := 1) [.int .i64 vD7] hF rfl hS rfl rfl rfl (fun w => by kernel_rfl) fun b58 w a hS hF => ?_
              have hv57 : Rows (α := Int) HB1 [.int .i64 vD7] ([vD7] : List Int) := (.cons (c := [.int .i64 vD7]) rfl .nil)
              refine ls <| m_app (α := Int) (xs := vD1) (ys := ([vD7] : List Int)) hF rfl hS Tryd.underlying25 info3 rfl (by decide) rfl rfl rfl (.tail _ (.tail _ (.tail _ (.head _)))) hvD5 (hS.rdO (.head _)) hv57 h61 fun oa62 cap63 vs64 w a hv65 hU hF => ?_
              replace hS := hU _ (.tail (.tail (.tail .head)))
              clear hU
              replace hS := hS.drop .head
              refine ls <| q1 hF rfl (e_asg hF rfl) fun a hF => ?_
              refine re <| ?_
              refine bn <| tn <| ?_
              exact ⟨l60, oa62, cap63, vs64, hm, hF.has ⟨rfl, rfl, rfl, rfl, rfl, rfl, rfl, rfl, trivial⟩, hS, hv65⟩
            ·
              replace hm := ite_f hm hb56
              refine tn <| cfv hF rfl hb56 <| wp_skip <| ?_
              refine bn <| tn <| ?_
              exact ⟨vD1, oaD2, capD3, vsD4, hm, hF.has ⟨rfl, rfl, rfl, rfl, rfl, rfl, rfl, rfl, trivial⟩, hS, hvD5⟩
          clear hm hF hS
          rintro a w ⟨vE1, oaE2, capE3, vsE4, hm, hF, hS, hvE5⟩
          unfold leadlineref17_Steps_j7 at hm
          refine rg <| ?_
          refine ls <| q1 hF rfl (e_move hF rfl) fun a hF => ?_
          refine ls <| q1 hF rfl (e_add hF rfl rfl) fun a hF => ?_
          refine ls <| q1 hF rfl (e_asg hF rfl) fun a hF => ?_
          refine re <| ?_
          refine tn <| ?_
          exact ⟨(nn6, vE1, (IntKind.i64.wrap (vD7 + 1))), ⟨oaE2, capE3, vsE4, hm, hF.has ⟨rfl, rfl, rfl, rfl, rfl, rfl, rfl, rfl, trivial⟩, hS, hvE5⟩, Nat.lt_succ_self _⟩
        ·
          replace hm := itp_f hm hb28
          refine tn <| cfv hF rfl hb28 <| ?_
          refine wp_exit <| tx <| tx <| bx <| ?_
          refine tn <| ?_
          exact ⟨vD1, oaD2, capD3, vsD4, hm, hF.has ⟨rfl, rfl, rfl, rfl, rfl, rfl, rfl, trivial⟩, hS, hvD5⟩
      clear hm hF hS
      rintro a w ⟨vC1, oaC2, capC3, vsC4, hm, hF, hS, hvC5⟩
      unfold leadlineref17_Steps_j5 at hm
      refine th <| th <| ?_
      refine rg <| ?_
      refine ls <| q1 hF rfl (e_asg hF rfl) fun a hF => ?_
      refine re <| ?_
      refine tn <| midK (fun a w => ∃ (vC7 : (List Bool)) (oaC8 : Option Addr) (capC9 : Nat) (vsC10 : List Value), (leadlineref17_Steps_j11 (leadlineref17_Steps_l4 N leadlineref17_Steps_j3 p1 p6 p11 nn4) vC1 vB2 vB14) vC7 = some r ∧ Fr 90 [(0, .slice oaA2 p1.length capA3), (1, .slice oaA6 p6.length capA7), (2, .int .i64 p11), (7, .slice oaB3 vB2.length capB4), (8, .slice oaC8 vC7.length capC9), (9, .int .i64 vB14), (10, .slice oaC2 vC1.length capC3)] a ∧ St w0 Nil [HB1] [sla 25 1 oaB3 vB2.length capB4 vsB5, sla 4 1 oaC8 vC7.length capC9 vsC10, sla 3 1 oaC2 vC1.length capC3 vsC4] w ∧ Rows HB1 vsC10 vC7) ?_ ?_
      ·
        refine wp_block <| lp (α := Nat × (List Bool) × Int) (fun (gh : Nat × (List Bool) × Int) a w => match gh with | (nn12, vD8, vD14) => ∃ (oaD9 : Option Addr) (capD10 : Nat) (vsD11 : List Value), (leadlineref17_Steps_l12 N (leadlineref17_Steps_j11 (leadlineref17_Steps_l4 N leadlineref17_Steps_j3 p1 p6 p11 nn4) vC1 vB2 vB14) vC1) nn12 vD8 vD14 = some r ∧ Fr 90 [(0, .slice oaA2 p1.length capA3), (1, .slice oaA6 p6.length capA7), (2, .int .i64 p11), (7, .slice oaB3 vB2.length capB4), (8, .slice oaD9 vD8.length capD10), (9, .int .i64 vB14), (10, .slice oaC2 vC1.length capC3), (14, .int .i64 vD14)] a ∧ St w0 Nil [HB1] [sla 25 1 oaB3 vB2.length capB4 vsB5, sla 4 1 oaD9 vD8.length capD10 vsD11, sla 3 1 oaC2 vC1.length capC3 vsC4] w ∧ Rows HB1 vsD11 vD8) (fun gh => gh.1) (N, vB8, 0) ⟨oaB9, capB10, vsB11, hm, hF.has ⟨rfl, rfl, rfl, rfl, rfl, rfl, rfl, rfl, trivial⟩, hS, hvB12⟩ ?_
        clear hm hF hS
        rintro ⟨nn12, vD8, vD14⟩ a w ⟨oaD9, capD10, vsD11, hm, hF, hS, hvD12⟩
        obtain _ | nn12 := nn12
        · simp [leadlineref17_Steps_l12] at hm
        rw [leadlineref17_Steps_l12] at hm
        refine th <| th <| ?_
        refine rg <| ?_
        refine ls <| q1 hF rfl (e_move hF rfl) fun a hF => ?_
        refine ls <| q1 hF rfl (e_move hF rfl) fun a hF => ?_
        refine ls <| q1 hF rfl (e_lenL (α := Int) (xs := vC1) hF Tryd.runUnderlying25 rfl) fun a hF => ?_
        refine ls <| q1 hF rfl (e_lss hF rfl rfl) fun a hF => ?_
        refine re <| ?_
        rcases bdich (decide (vD14 < (vC1.length : Int))) with hb66 | hb66
        ·
          replace hm := itp_t hm hb66
          refine tn <| ctv hF rfl hb66 <| wp_skip <| ?_
          refine tn <| th <| wp_block <| ?_
          replace hm := bind_some hm
          obtain ⟨x67, h68, hm⟩ := hm
          have ho69 := Rd.oaI (hS.rdO (.tail _ (.tail _ (.head _)))) hvC5 (by decide) h68
          obtain ⟨c70, g71, hl72⟩ := Rows.getI hvC5 h68
          obtain rfl : c70 = [.int .i64 x67] := g71
          replace hm := bind_some hm
          obtain ⟨x73, h74, hm⟩ := hm
          have ho75 := Rd.oaI (hS.rdO (.tail _ (.head _))) hvD12 (by decide) h74
          replace hm := bind_some hm
          obtain ⟨l76, h77, hm⟩ := hm
          refine rg <| ?_
          refine ls <| q1 hF rfl (e_move hF rfl) fun a hF => ?_
          refine ls <| q1 hF rfl (e_move hF rfl) fun a hF => ?_
          refine ls <| q1 hF rfl (e_move hF rfl) fun a hF => ?_
          refine ls <| q1 hF rfl (e_iaI hF Tryd.runUnderlying25 Tryd.sizeOf3 rfl rfl h68 ho69) fun a hF => ?_
          refine ls <| q1 hF rfl (e_ld hF Tryd.isAgg3 rfl ((St.ld hS).elO (.tail _ (.tail _ (.head _))) (hl72 0 _ rfl))) fun a hF => ?_
          refine ls <| q1 hF rfl (e_iaI hF Tryd.runUnderlying81 Tryd.sizeOf4 rfl rfl h74 ho75) fun a hF => ?_
          have hn80 := setI_len h77
          refine ls <| s_slJ (α := Bool) hF hS Tryd.sizeOf4 rfl rfl rfl rfl hvD12 rfl h77 (.tail _ (.head _)) fun vs78 w hv79 hU => ?_
          replace hS := hU _ (.tail .head)
          clear hU
          refine re <| ?_
          refine bn <| tn <| ?_
          refine rg <| ?_
          refine ls <| q1 hF rfl (e_move hF rfl) fun a hF => ?_
          refine ls <| q1 hF rfl (e_add hF rfl rfl) fun a hF => ?_
          refine ls <| q1 hF rfl (e_asg hF rfl) fun a hF => ?_
          refine re <| ?_
          refine tn <| ?_
          replace hF := Fr.as hF (t := 8) (v' := .slice oaD9 l76.length capD10) rfl (by rw [hn80])
          exact ⟨(nn12, l76, (IntKind.i64.wrap (vD14 + 1))), ⟨oaD9, capD10, vs78, hm, hF.has ⟨rfl, rfl, rfl, rfl, rfl, rfl, rfl, rfl, trivial⟩, hS, hv79⟩, Nat.lt_succ_self _⟩
        ·
          replace hm := itp_f hm hb66
          refine tn <| cfv hF rfl hb66 <| ?_
          refine wp_exit <| tx <| tx <| bx <| ?_
          refine tn <| ?_
          exact ⟨vD8, oaD9, capD10, vsD11, hm, hF.has ⟨rfl, rfl, rfl, rfl, rfl, rfl, rfl, trivial⟩, hS, hvD12⟩
      clear hm hF hS
      rintro a w ⟨vC7, oaC8, capC9, vsC10, hm, hF, hS, hvC11⟩
      unfold leadlineref17_Steps_j11 at hm
      refine th <| ?_
      refine rg <| ?_
      refine ls <| q1 hF rfl (e_move hF rfl) fun a hF => ?_
      refine ls <| q1 hF rfl (e_move hF rfl) fun a hF => ?_
      refine ls <| q1 hF rfl (e_lenL (α := Int) (xs := vC1) hF Tryd.runUnderlying25 rfl) fun a hF => ?_
      refine ls <| q1 hF rfl (e_sub hF rfl rfl) fun a hF => ?_
      refine ls <| q1 hF rfl (e_asg hF rfl) fun a hF => ?_
      refine re <| ?_
      refine tn <| ?_
      replace hm := bind_some hm
      obtain ⟨l88, h89, hm⟩ := hm
      refine rg <| ?_
      refine ls <| q1 hF rfl (e_move hF rfl) fun a hF => ?_
      refine ls <| q1 hF rfl (e_move hF rfl) fun a hF => ?_
      obtain ⟨H84, hx81, hr82, hc83, hS⟩ := St.frzS hS (.tail (.tail .head)) hvC5
      refine ls <| a_bsl (e := 25) (sz := 1) [.slice oaC2 vC1.length capC3] hF rfl hS rfl rfl rfl (fun w => by kernel_rfl) fun b86 w a hS hF => ?_
      have hv85 : Rows (α := (List Int)) H84 [.slice oaC2 vC1.length capC3] ([vC1] : List (List Int)) := (.cons (c := [.slice oaC2 vC1.length capC3]) ⟨_, _, rfl, hc83, hr82⟩ .nil)
      refine ls <| m_app (α := (List Int)) (xs := vB2) (ys := ([vC1] : List (List Int))) hF rfl hS Tryd.underlying49 info25 rfl (by decide) rfl rfl rfl (.tail _ (.head _)) (hvB6.mono hx81.sub) (hS.rdO (.head _)) hv85 h89 fun oa90 cap91 vs92 w a hv93 hU hF => ?_
      replace hS := hU _ (.tail .head)
      clear hU
      replace hS := hS.drop .head
      refine ls <| q1 hF rfl (e_asg hF rfl) fun a hF => ?_
      refine re <| ?_
      refine bn <| tn <| ?_
      exact ⟨(nn4, l88, vC7, (IntKind.i64.wrap (vB14 - (vC1.length : Int)))), ⟨H84, oa90, cap91, vs92, oaC8, capC9, vsC10, hm, (Ext.trans hxHB1 hx81), hF.has ⟨rfl, rfl, rfl, rfl, rfl, rfl, trivial⟩, hS, hv93, (hvC11.mono hx81.sub)⟩, Nat.lt_succ_self _⟩
    ·
      replace hm := itp_f hm hb24
      refine tn <| cfv hF rfl hb24 <| ?_
      refine wp_exit <| tx <| tx <| bx <| ?_
      refine tn <| ?_
      replace hS := hS.pickL (.cons .head .nil)
      exact ⟨vB2, HB1, oaB3, capB4, vsB5, hm, hxHB1, hF.has ⟨rfl, trivial⟩, hS, hvB6⟩
  clear hm hF hS
  rintro a w ⟨vA23, HA22, oaA24, capA25, vsA26, hm, hxHA22, hF, hS, hvA27⟩
  unfold leadlineref17_Steps_j3 at hm
  refine th <| ?_
  refine rg <| ?_
  refine ls <| q1 hF rfl (e_move hF rfl) fun a hF => ?_
  refine ls <| q1 hF rfl (e_asg hF rfl) fun a hF => ?_
  refine re <| ?_
  refine tn <| ?_
  refine wp_ret <| ?_
  obtain ⟨H97, hx94, hr95, hc96, hS⟩ := St.frzS hS .head hvA27
  obtain rfl := Option.some.inj hm
  exact r1 hF Tryd.results37 rfl ⟨H97, _, _, rfl, hc96, hr95, (Ext.trans hxHA1 (Ext.trans hxHA22 hx94)), (St.le hS), hS.keep⟩

set_option maxRecDepth 100000 in
theorem leadlineref06_Ints_c {N : Nat} {w0 : World} {H : PH} (hH : H.le w0) {oa2 : Option Addr} {cap3 : Nat} {p1 : (List Int)} (hc4 : p1.length ≤ cap3) (hr5 : SR H oa2 p1) {oa7 : Option Addr} {cap8 : Nat} {p6 : (List Int)} (hc9 : p6.length ≤ cap8) (hr10 : SR H oa7 p6) {r : Bool} (hm : leadlineref06_Ints N p1 p6 = some r) : Tot Tryd.prog 58 #[.slice oa2 p1.length cap3, .slice oa7 p6.length cap8] w0 (fun v w' => v = .bool r ∧ Keep Nil w0 w') := by
  unfold leadlineref06_Ints at hm
  refine fn0 (args := [.slice oa2 p1.length cap3, .slice oa7 p6.length cap8]) (F := [(0, .slice oa2 p1.length cap3), (1, .slice oa7 p6.length cap8)]) Tryd.func58 rfl Tryd.ntmps58 rfl rfl fun a hF => ?_
  have hS : St w0 Nil [H] [] w0 := start1 hH
  refine th <| ?_
  refine rg <| ?_
  refine ls <| q1 hF rfl (e_asg hF rfl) fun a hF => ?_
  refine re <| ?_
  refine tn <| th <| th <| ?_
  refine rg <| ?_
  refine ls <| q1 hF rfl (e_move hF rfl) fun a hF => ?_
  refine ls <| q1 hF rfl (e_lenL (α := Int) (xs := p1) hF Tryd.runUnderlying25 rfl) fun a hF => ?_
  refine ls <| q1 hF rfl (e_move hF rfl) fun a hF => ?_
  refine ls <| q1 hF rfl (e_lenL (α := Int) (xs := p6) hF Tryd.runUnderlying25 rfl) fun a hF => ?_
  refine ls <| q1 hF rfl (e_neq hF rfl rfl) fun a hF => ?_
  refine re <| ?_
  rcases bdich (decide ((p1.length : Int) ≠ (p6.length : Int))) with hb11 | hb11
  ·
    replace hm := itp_t hm hb11
    refine tn <| ctv hF rfl hb11 <| th <| ?_
    refine rg <| ?_
    refine ls <| q1 hF rfl (e_asg hF rfl) fun a hF => ?_
    refine re <| ?_
    refine tn <| ?_
    refine wp_ret <| tr <| ?_
    obtain rfl := Option.some.inj hm
    exact r1 hF Tryd.results58 rfl ⟨rfl, hS.keep⟩
  ·
    replace hm := itp_f hm hb11
    refine tn <| cfv hF rfl hb11 <| wp_skip <| ?_
    refine tn <| th <| th <| ?_
    refine rg <| ?_
    refine ls <| q1 hF rfl (e_asg hF rfl) fun a hF => ?_
    refine re <| ?_
    refine tn <| midK (fun a w => ∃ (HA1 : PH), leadlineref06_Ints_j1 = some r ∧ Ext w0 H HA1 ∧ Fr 26 [] a ∧ St w0 Nil [HA1] [] w) ?_ ?_
    ·
      refine wp_block <| lp (α := Nat × Int) (fun (gh : Nat × Int) a w => match gh with | (nn2, vB10) => ∃ (HB1 : PH) (oaB2 : Option Addr) (capB3 : Nat) (oaB6 : Option Addr) (capB7 : Nat), (leadlineref06_Ints_l2 N leadlineref06_Ints_j1 p1 p6) nn2 vB10 = some r ∧ Ext w0 H HB1 ∧ Fr 26 [(0, .slice oaB2 p1.length capB3), (1, .slice oaB6 p6.length capB7), (5, .int .i64 vB10)] a ∧ St w0 Nil [HB1] [] w ∧ p1.length ≤ capB3 ∧ SR HB1 oaB2 p1 ∧ p6.length ≤ capB7 ∧ SR HB1 oaB6 p6) (fun gh => gh.1) (N, 0) ⟨H, oa2, cap3, oa7, cap8, hm, (Ext.refl _ _), hF.has ⟨rfl, rfl, rfl, trivial⟩, hS, hc4, hr5, hc9, hr10⟩ ?_
      clear hm hF hS
      rintro ⟨nn2, vB10⟩ a w ⟨HB1, oaB2, capB3, oaB6, capB7, hm, hxHB1, hF, hS, hcB4, hrB5, hcB8, hrB9⟩
      obtain _ | nn2 := nn2
      · simp [leadlineref06_Ints_l2] at hm
      rw [leadlineref06_Ints_l2] at hm
      refine th <| th <| ?_
      refine rg <| ?_
      refine ls <| q1 hF rfl (e_move hF rfl) fun a hF => ?_
      refine ls <| q1 hF rfl (e_move hF rfl) fun a hF => ?_
      refine ls <| q1 hF rfl (e_lenL (α := Int) (xs := p1) hF Tryd.runUnderlying25 rfl) fun a hF => ?_
      refine ls <| q1 hF rfl (e_lss hF rfl rfl) fun a hF => ?_
      refine re <| ?_
      rcases bdich (decide (vB10 < (p1.length : Int))) with hb12 | hb12
      ·
        replace hm := itp_t hm hb12
        refine tn <| ctv hF rfl hb12 <| wp_skip <| ?_
        refine tn <| th <| wp_block <| th <| ?_
        replace hm := bind_some hm
        obtain ⟨x13, h14, hm⟩ := hm
        obtain ⟨c15, g16, hl17⟩ := SR.get hrB5 h14
        obtain rfl : c15 = [.int .i64 x13] := g16
        replace hm := bind_some hm
        obtain ⟨x18, h19, hm⟩ := hm
        obtain ⟨c20, g21, hl22⟩ := SR.get hrB9 h19
        obtain rfl : c20 = [.int .i64 x18] := g21
        refine rxS 9 hS wide (by kernel_rfl) fun w hS => ?_
        refine x1 (St.ld hS) hF rfl rfl (fun _ _ _ h => h) (fun w hl => (e_move hF rfl)) fun a hF => ?_
        refine x1 (St.ld hS) hF rfl rfl (fun _ _ _ h => h) (fun w hl => (e_move hF rfl)) fun a hF => ?_
        refine x1 (St.ld hS) hF rfl rfl (fun _ _ _ h => h) (fun w hl => (e_iaI hF Tryd.runUnderlying25 Tryd.sizeOf3 rfl rfl h14 (SR.oaI hrB5 (by decide) h14))) fun a hF => ?_
        refine x1 (St.ld hS) hF rfl rfl (fun _ _ _ h => h) (fun w hl => (e_ld hF Tryd.isAgg3 rfl (PH.le.cell (Lds.le hl) (hl17 0 _ rfl)))) fun a hF => ?_
        refine x1 (St.ld hS) hF rfl rfl (fun _ _ _ h => h) (fun w hl => (e_move hF rfl)) fun a hF => ?_
        refine x1 (St.ld hS) hF rfl rfl (fun _ _ _ h => h) (fun w hl => (e_move hF rfl)) fun a hF => ?_
        refine x1 (St.ld hS) hF rfl rfl (fun _ _ _ h => h) (fun w hl => (e_iaI hF Tryd.runUnderlying25 Tryd.sizeOf3 rfl rfl h19 (SR.oaI hrB9 (by decide) h19))) fun a hF => ?_
        refine x1 (St.ld hS) hF rfl rfl (fun _ _ _ h => h) (fun w hl => (e_ld hF Tryd.isAgg3 rfl (PH.le.cell (Lds.le hl) (hl22 0 _ rfl)))) fun a hF => ?_
        refine x1 (St.ld hS) hF rfl rfl (fun _ _ _ h => h) (fun w hl => (e_neq hF rfl rfl)) fun a hF => ?_
        refine xe <| ?_
        rcases bdich (decide (x13 ≠ x18)) with hb23 | hb23
        ·
          replace hm := itp_t hm hb23
          refine tn <| ctv hF rfl hb23 <| th <| ?_
          refine rg <| ?_
          refine ls <| q1 hF rfl (e_asg hF rfl) fun a hF => ?_
          refine re <| ?_
          refine tn <| ?_
          refine wp_ret <| br <| tr <| tr <| br <| tr <| ?_
          obtain rfl := Option.some.inj hm
          exact r1 hF Tryd.results58 rfl ⟨rfl, hS.keep⟩
        ·
          replace hm := itp_f hm hb23
          refine tn <| cfv hF rfl hb23 <| wp_skip <| ?_
          refine bn <| tn <| ?_
          refine rg <| ?_
          refine ls <| q1 hF rfl (e_move hF rfl) fun a hF => ?_
          refine ls <| q1 hF rfl (e_add hF rfl rfl) fun a hF => ?_
          refine ls <| q1 hF rfl (e_asg hF rfl) fun a hF => ?_
          refine re <| ?_
          refine tn <| ?_
          exact ⟨(nn2, (IntKind.i64.wrap (vB10 + 1))), ⟨HB1, oaB2, capB3, oaB6, capB7, hm, hxHB1, hF.has ⟨rfl, rfl, rfl, trivial⟩, hS, hcB4, hrB5, hcB8, hrB9⟩, Nat.lt_succ_self _⟩
      ·
        replace hm := itp_f hm hb12
        refine tn <| cfv hF rfl hb12 <| ?_
        refine wp_exit <| tx <| tx <| bx <| ?_
        refine tn <| ?_
        exact ⟨HB1, hm, hxHB1, hF.has trivial, hS⟩
    clear hm hF hS
    rintro a w ⟨HA1, hm, hxHA1, hF, hS⟩
    unfold leadlineref06_Ints_j1 at hm
    refine th <| ?_
    refine rg <| ?_
    refine ls <| q1 hF rfl (e_asg hF rfl) fun a hF => ?_
    refine re <| ?_
    refine tn <| ?_
    refine wp_ret <| ?_
    obtain rfl := Option.some.inj hm
    exact r1 hF Tryd.results58 rfl ⟨rfl, hS.keep⟩
end Go.LM.ET
