/- Walks, lifted by program. No condition beyond each theorem's own premises. -/
import Derived.Test.YtimaeihmnipfgaaDoorETQTraceSteps2
namespace Go.LM.ET
open Go Go.LL Go.MD Go.LM Go.Proofs Go.MD.ET

set_option maxRecDepth 100000 in
theorem trace_Steps_c {N : Nat} {w0 : World} {H : PH} (hH : H.le w0) {oa2 : Option Addr} {cap3 : Nat} {p1 : (List api_Event)} (hc4 : p1.length ≤ cap3) (hr5 : SR H oa2 p1) {oa7 : Option Addr} {cap8 : Nat} {p6 : (List Int)} (hc9 : p6.length ≤ cap8) (hr10 : SR H oa7 p6) {p11 : Int} {r : (List (List Int))} (hm : trace_Steps N p1 p6 p11 = some r) : Tot Tryd.prog 36 #[.slice oa2 p1.length cap3, .slice oa7 p6.length cap8, .int .i64 p11] w0 (fun v w' => ∃ (H' : PH) (oa0 : Option Addr) (cap0 : Nat), v = .slice oa0 r.length cap0 ∧ r.length ≤ cap0 ∧ SR H' oa0 r ∧ Ext w0 H H' ∧ H'.le w' ∧ Keep Nil w0 w') := by
  unfold trace_Steps at hm
  refine fn0 (args := [.slice oa2 p1.length cap3, .slice oa7 p6.length cap8, .int .i64 p11]) (F := [(0, .slice oa2 p1.length cap3), (1, .slice oa7 p6.length cap8), (2, .int .i64 p11)]) Tryd.func36 rfl Tryd.ntmps36 rfl rfl fun a hF => ?_
  have hS : St w0 Nil [H] [] w0 := start1 hH
  refine th <| ?_
  refine rg <| ?_
  refine ls <| q1 hF rfl (e_asg hF rfl) fun a hF => ?_
  refine re <| ?_
  refine tn <| th <| th <| ?_
  replace hm := bind_some hm
  obtain ⟨r12, h13, hm⟩ := hm
  refine rg <| ?_
  refine ls <| q1 hF rfl (e_move hF rfl) fun a hF => ?_
  refine ls <| c1 hF rfl Tryd.call49 (clock_Threads_c (hp_le _) hc4 (St.srH hS hr5) h13) ⟨rfl, trivial⟩ (fun v w a hR hF => ?_)
  obtain ⟨rfl, hk⟩ := hR
  replace hS := hS.pass hk
  clear hk
  refine ls <| q1 hF rfl (e_eql hF rfl rfl) fun a hF => ?_
  refine re <| ?_
  rcases bdich (decide (r12 = 0)) with hb14 | hb14
  ·
    replace hm := itp_t hm hb14
    refine tn <| ctv hF rfl hb14 <| th <| ?_
    refine rg <| ?_
    refine ls <| q1 hF rfl (e_asg hF rfl) fun a hF => ?_
    refine re <| ?_
    refine tn <| ?_
    refine wp_ret <| tr <| ?_
    obtain rfl := Option.some.inj hm
    exact r1 hF Tryd.results36 rfl ⟨H, _, _, rfl, (Nat.le_refl 0), (SR.nil _ _), (Ext.refl _ _), (St.le hS), hS.keep⟩
  ·
    replace hm := itp_f hm hb14
    refine tn <| cfv hF rfl hb14 <| wp_skip <| ?_
    refine tn <| th <| ?_
    refine rg <| ?_
    refine ls <| q1 hF rfl (e_asg hF rfl) fun a hF => ?_
    refine re <| ?_
    refine tn <| th <| ?_
    replace hm := bind_some hm
    obtain ⟨l15, h16, hm⟩ := hm
    refine rg <| ?_
    refine ls <| q1 hF rfl (e_move hF rfl) fun a hF => ?_
    refine ls <| q1 hF rfl (e_lenL (α := api_Event) (xs := p1) hF Tryd.runUnderlying39 rfl) fun a hF => ?_
    refine ls <| m_mk (α := Int) hF rfl hS Tryd.underlying25 info3 rfl (zz := 0) rfl rfl rfl h16 fun b18 vs19 w a hv17 hS hF => ?_
    refine ls <| q1 hF rfl (e_asg hF rfl) fun a hF => ?_
    refine re <| ?_
    refine tn <| th <| th <| ?_
    refine rg <| ?_
    refine ls <| q1 hF rfl (e_move hF rfl) fun a hF => ?_
    refine ls <| q1 hF rfl (e_lenL (α := api_Event) (xs := p1) hF Tryd.runUnderlying39 rfl) fun a hF => ?_
    refine ls <| q1 hF rfl (e_move hF rfl) fun a hF => ?_
    refine re <| ?_
    refine tn <| midK (fun a w => ∃ (vA2 : (List (List Int))) (HA1 : PH) (oaA3 : Option Addr) (capA4 : Nat) (qsA5 : List RowQ), trace_Steps_j1 vA2 = some r ∧ Ext w0 H HA1 ∧ Fr 79 [(7, .slice oaA3 vA2.length capA4)] a ∧ St w0 Nil [HA1] [sla 25 1 oaA3 vA2.length capA4 (qsA5.map rowV), bigA (rowA 3 1) qsA5] w ∧ NR HA1 qsA5 vA2) ?_ ?_
    ·
      replace hS := St.nilS hS 25 1
      replace hS := hS.nilBig (rowA 3 1)
      replace hS := hS.pickL (.cons (.tail .head) (.cons .head (.cons .head .nil)))
      refine wp_block <| lp (α := Nat × (List (List Int)) × (List Int) × Int) (fun (gh : Nat × (List (List Int)) × (List Int) × Int) a w => match gh with | (nn2, vB10, vB16, vB22) => ∃ (HB1 : PH) (oaB2 : Option Addr) (capB3 : Nat) (oaB6 : Option Addr) (capB7 : Nat) (oaB11 : Option Addr) (capB12 : Nat) (qsB13 : List RowQ) (oaB17 : Option Addr) (capB18 : Nat) (vsB19 : List Value), (trace_Steps_l2 N trace_Steps_j1 p1 p6 p11) nn2 vB10 vB16 vB22 = some r ∧ Ext w0 H HB1 ∧ Fr 79 [(0, .slice oaB2 p1.length capB3), (1, .slice oaB6 p6.length capB7), (2, .int .i64 p11), (7, .slice oaB11 vB10.length capB12), (8, .slice oaB17 vB16.length capB18), (18, .int .i64 (p1.length : Int)), (19, .int .i64 vB22)] a ∧ St w0 Nil [HB1] [sla 25 1 oaB11 vB10.length capB12 (qsB13.map rowV), bigA (rowA 3 1) qsB13, sla 3 1 oaB17 vB16.length capB18 vsB19] w ∧ p1.length ≤ capB3 ∧ SR HB1 oaB2 p1 ∧ p6.length ≤ capB7 ∧ SR HB1 oaB6 p6 ∧ NR HB1 qsB13 vB10 ∧ Rows HB1 vsB19 vB16) (fun gh => gh.1) (N, [], l15, 0) ⟨H, oa2, cap3, oa7, cap8, none, 0, [], (some ⟨b18, 0, none⟩), l15.length, vs19, hm, (Ext.refl _ _), hF.has ⟨rfl, rfl, rfl, rfl, rfl, rfl, rfl, trivial⟩, hS, hc4, hr5, hc9, hr10, .nil, hv17⟩ ?_
      clear hm hF hS
      rintro ⟨nn2, vB10, vB16, vB22⟩ a w ⟨HB1, oaB2, capB3, oaB6, capB7, oaB11, capB12, qsB13, oaB17, capB18, vsB19, hm, hxHB1, hF, hS, hcB4, hrB5, hcB8, hrB9, hvB14, hvB20⟩
      obtain _ | nn2 := nn2
      · simp [trace_Steps_l2] at hm
      rw [trace_Steps_l2] at hm
      refine th <| ?_
      refine rg <| ?_
      refine ls <| q1 hF rfl (e_lss hF rfl rfl) fun a hF => ?_
      refine re <| ?_
      rcases bdich (decide (vB22 < (p1.length : Int))) with hb21 | hb21
      ·
        replace hm := itp_t hm hb21
        refine tn <| th <| ctv hF rfl hb21 <| wp_skip <| ?_
        refine tn <| th <| midK (fun a w => ∃ (vC1 : (List (List Int))) (vC7 : (List Int)) (oaC2 : Option Addr) (capC3 : Nat) (qsC4 : List RowQ) (oaC8 : Option Addr) (capC9 : Nat) (vsC10 : List Value), (trace_Steps_j3 (trace_Steps_l2 N trace_Steps_j1 p1 p6 p11 nn2) vB22) vC1 vC7 = some r ∧ Fr 79 [(0, .slice oaB2 p1.length capB3), (1, .slice oaB6 p6.length capB7), (2, .int .i64 p11), (7, .slice oaC2 vC1.length capC3), (8, .slice oaC8 vC7.length capC9), (18, .int .i64 (p1.length : Int)), (19, .int .i64 vB22)] a ∧ St w0 Nil [HB1] [sla 25 1 oaC2 vC1.length capC3 (qsC4.map rowV), bigA (rowA 3 1) qsC4, sla 3 1 oaC8 vC7.length capC9 vsC10] w ∧ NR HB1 qsC4 vC1 ∧ Rows HB1 vsC10 vC7) ?_ ?_
        ·
          refine wp_block <| th <| ?_
          refine rg <| ?_
          refine ls <| q1 hF rfl (e_move hF rfl) fun a hF => ?_
          refine ls <| q1 hF rfl (e_asg hF rfl) fun a hF => ?_
          refine re <| ?_
          refine tn <| th <| th <| ?_
          refine rg <| ?_
          refine ls <| q1 hF rfl (e_move hF rfl) fun a hF => ?_
          refine ls <| q1 hF rfl (e_move hF rfl) fun a hF => ?_
          refine re <| ?_
          refine tn <| midK (fun a w => ∃ (vD1 : (List Int)) (oaD2 : Option Addr) (capD3 : Nat) (vsD4 : List Value), (trace_Steps_j4 (trace_Steps_j3 (trace_Steps_l2 N trace_Steps_j1 p1 p6 p11 nn2) vB22) vB10 vB22) vD1 = some r ∧ Fr 79 [(0, .slice oaB2 p1.length capB3), (1, .slice oaB6 p6.length capB7), (2, .int .i64 p11), (7, .slice oaB11 vB10.length capB12), (8, .slice oaD2 vD1.length capD3), (9, .int .i64 vB22), (18, .int .i64 (p1.length : Int)), (19, .int .i64 vB22)] a ∧ St w0 Nil [HB1] [sla 25 1 oaB11 vB10.length capB12 (qsB13.map rowV), bigA (rowA 3 1) qsB13, sla 3 1 oaD2 vD1.length capD3 vsD4] w ∧ Rows HB1 vsD4 vD1) ?_ ?_
          ·
            refine wp_block <| lp (α := Nat × (List Int) × Int) (fun (gh : Nat × (List Int) × Int) a w => match gh with | (nn5, vE1, vE7) => ∃ (oaE2 : Option Addr) (capE3 : Nat) (vsE4 : List Value), (trace_Steps_l5 N (trace_Steps_j4 (trace_Steps_j3 (trace_Steps_l2 N trace_Steps_j1 p1 p6 p11 nn2) vB22) vB10 vB22) p1 p6 p11 vB22) nn5 vE1 vE7 = some r ∧ Fr 79 [(0, .slice oaB2 p1.length capB3), (1, .slice oaB6 p6.length capB7), (2, .int .i64 p11), (7, .slice oaB11 vB10.length capB12), (8, .slice oaE2 vE1.length capE3), (9, .int .i64 vB22), (18, .int .i64 (p1.length : Int)), (19, .int .i64 vB22), (22, .int .i64 vB22), (23, .int .i64 vE7)] a ∧ St w0 Nil [HB1] [sla 25 1 oaB11 vB10.length capB12 (qsB13.map rowV), bigA (rowA 3 1) qsB13, sla 3 1 oaE2 vE1.length capE3 vsE4] w ∧ Rows HB1 vsE4 vE1) (fun gh => gh.1) (N, vB16, 0) ⟨oaB17, capB18, vsB19, hm, hF.has ⟨rfl, rfl, rfl, rfl, rfl, rfl, rfl, rfl, rfl, rfl, trivial⟩, hS, hvB20⟩ ?_
            clear hm hF hS
            rintro ⟨nn5, vE1, vE7⟩ a w ⟨oaE2, capE3, vsE4, hm, hF, hS, hvE5⟩
            obtain _ | nn5 := nn5
            · simp [trace_Steps_l5] at hm
            rw [trace_Steps_l5] at hm
            refine th <| ?_
            refine rg <| ?_
            refine ls <| q1 hF rfl (e_lss hF rfl rfl) fun a hF => ?_
            refine re <| ?_
            rcases bdich (decide (vE7 < vB22)) with hb22 | hb22
            ·
              replace hm := itp_t hm hb22
              refine tn <| th <| ctv hF rfl hb22 <| wp_skip <| ?_
              refine tn <| th <| midK (fun a w => ∃ (vF1 : (List Int)) (oaF2 : Option Addr) (capF3 : Nat) (vsF4 : List Value), (trace_Steps_j6 (trace_Steps_l5 N (trace_Steps_j4 (trace_Steps_j3 (trace_Steps_l2 N trace_Steps_j1 p1 p6 p11 nn2) vB22) vB10 vB22) p1 p6 p11 vB22 nn5) vE7) vF1 = some r ∧ Fr 79 [(0, .slice oaB2 p1.length capB3), (1, .slice oaB6 p6.length capB7), (2, .int .i64 p11), (7, .slice oaB11 vB10.length capB12), (8, .slice oaF2 vF1.length capF3), (9, .int .i64 vB22), (18, .int .i64 (p1.length : Int)), (19, .int .i64 vB22), (22, .int .i64 vB22), (23, .int .i64 vE7)] a ∧ St w0 Nil [HB1] [sla 25 1 oaB11 vB10.length capB12 (qsB13.map rowV), bigA (rowA 3 1) qsB13, sla 3 1 oaF2 vF1.length capF3 vsF4] w ∧ Rows HB1 vsF4 vF1) ?_ ?_
              ·
                refine wp_block <| th <| ?_
                refine rg <| ?_
                refine ls <| q1 hF rfl (e_move hF rfl) fun a hF => ?_
                refine ls <| q1 hF rfl (e_asg hF rfl) fun a hF => ?_
                refine re <| ?_
                refine tn <| th <| ?_
                replace hm := bind_some hm
                obtain ⟨x23, h24, hm⟩ := hm
                obtain ⟨c25, g26, hl27⟩ := SR.get hrB5 h24
                obtain rfl := api_Event_open g26
                replace hm := bind_some hm
                obtain ⟨x28, h29, hm⟩ := hm
                obtain ⟨c30, g31, hl32⟩ := SR.get hrB5 h29
                obtain rfl := api_Event_open g31
                replace hm := bind_some hm
                obtain ⟨r33, h34, hm⟩ := hm
                refine rdS 11 hS wide fun w hS => ?_
                refine d1 (i := 0) rfl (by kernel_rfl) (by kernel_rfl) (St.ld hS) hF rfl (fun _ _ _ h => h) (fun w hl => (e_move hF rfl)) fun a hF => ?_
                refine d1 (i := 1) rfl (by kernel_rfl) (by kernel_rfl) (St.ld hS) hF rfl (fun _ _ _ h => h) (fun w hl => (e_move hF rfl)) fun a hF => ?_
                refine d1 (i := 2) rfl (by kernel_rfl) (by kernel_rfl) (St.ld hS) hF rfl (fun _ _ _ h => h) (fun w hl => (e_iaI hF Tryd.runUnderlying39 Tryd.sizeOf23 rfl rfl h24 (SR.oaI hrB5 (by decide) h24))) fun a hF => ?_
                refine d1 (i := 3) rfl (by kernel_rfl) (by kernel_rfl) (St.ld hS) hF rfl (fun _ _ _ h => h) (fun w hl => (e_ldA hF Tryd.isAgg23 Tryd.sizeOf23 rfl rfl (fun j v hj => PH.le.cell (Lds.le hl) (hl27 j v hj)))) fun a hF => ?_
                refine d1 (i := 4) rfl (by kernel_rfl) (by kernel_rfl) (St.ld hS) hF rfl (fun _ _ _ h => h) (fun w hl => (e_move hF rfl)) fun a hF => ?_
                refine d1 (i := 5) rfl (by kernel_rfl) (by kernel_rfl) (St.ld hS) hF rfl (fun _ _ _ h => h) (fun w hl => (e_move hF rfl)) fun a hF => ?_
                refine d1 (i := 6) rfl (by kernel_rfl) (by kernel_rfl) (St.ld hS) hF rfl (fun _ _ _ h => h) (fun w hl => (e_iaI hF Tryd.runUnderlying39 Tryd.sizeOf23 rfl rfl h29 (SR.oaI hrB5 (by decide) h29))) fun a hF => ?_
                refine d1 (i := 7) rfl (by kernel_rfl) (by kernel_rfl) (St.ld hS) hF rfl (fun _ _ _ h => h) (fun w hl => (e_ldA hF Tryd.isAgg23 Tryd.sizeOf23 rfl rfl (fun j v hj => PH.le.cell (Lds.le hl) (hl32 j v hj)))) fun a hF => ?_
                refine d1 (i := 8) rfl (by kernel_rfl) (by kernel_rfl) (St.ld hS) hF rfl (fun _ _ _ h => h) (fun w hl => (e_move hF rfl)) fun a hF => ?_
                refine d1 (i := 9) rfl (by kernel_rfl) (by kernel_rfl) (St.ld hS) hF rfl (fun _ _ _ h => h) (fun w hl => (e_move hF rfl)) fun a hF => ?_
                refine da1 (i := 10) (by kernel_rfl) ?_
                refine di (i := 10) rfl <| c1 hF rfl Tryd.call16 (event_Depend_c (hp_le _) hcB8 (St.srH hS hrB9) h34) ⟨rfl, rfl, rfl, rfl, trivial⟩ (fun v w a hR hF => ?_)
                obtain ⟨rfl, hk⟩ := hR
                replace hS := hS.pass hk
                clear hk
                refine ⟨fun _ => (St.ld hS), ?_⟩
                refine de (by kernel_rfl) <| ?_
                rcases bdich r33 with hb35 | hb35
                ·
                  replace hm := ite_t hm hb35
                  refine tn <| ctv hF rfl hb35 <| ?_
                  replace hm := bind_some hm
                  obtain ⟨x36, h37, hm⟩ := hm
                  have ho38 := Rd.oaI (hS.rdO (.tail _ (.tail _ (.head _)))) hvE5 (by decide) h37
                  obtain ⟨c39, g40, hl41⟩ := Rows.getI hvE5 h37
                  obtain rfl : c39 = [.int .i64 x36] := g40
                  replace hm := bind_some hm
                  obtain ⟨x42, h43, hm⟩ := hm
                  have ho44 := Rd.oaI (hS.rdO (.tail _ (.tail _ (.head _)))) hvE5 (by decide) h43
                  obtain ⟨c45, g46, hl47⟩ := Rows.getI hvE5 h43
                  obtain rfl : c45 = [.int .i64 x42] := g46
                  have ho48 := Rd.oaI (hS.rdO (.tail _ (.tail _ (.head _)))) hvE5 (by decide) h37
                  replace hm := bind_some hm
                  obtain ⟨l49, h50, hm⟩ := hm
                  refine rxS 13 hS wide (by kernel_rfl) fun w hS => ?_
                  refine x1 (St.ld hS) hF rfl rfl (fun _ _ _ h => h) (fun w hl => (e_move hF rfl)) fun a hF => ?_
                  refine x1 (St.ld hS) hF rfl rfl (fun _ _ _ h => h) (fun w hl => (e_move hF rfl)) fun a hF => ?_
                  refine x1 (St.ld hS) hF rfl rfl (fun _ _ _ h => h) (fun w hl => (e_move hF rfl)) fun a hF => ?_
                  refine x1 (St.ld hS) hF rfl rfl (fun _ _ _ h => h) (fun w hl => (e_move hF rfl)) fun a hF => ?_
                  refine x1 (St.ld hS) hF rfl rfl (fun _ _ _ h => h) (fun w hl => (e_iaI hF Tryd.runUnderlying25 Tryd.sizeOf3 rfl rfl h37 ho38)) fun a hF => ?_
                  refine x1 (St.ld hS) hF rfl rfl (fun _ _ _ h => h) (fun w hl => (e_ld hF Tryd.isAgg3 rfl (hl.elO (.tail _ (.tail _ (.head _))) (hl41 0 _ rfl)))) fun a hF => ?_
                  refine x1 (St.ld hS) hF rfl rfl (fun _ _ _ h => h) (fun w hl => (e_move hF rfl)) fun a hF => ?_
                  refine x1 (St.ld hS) hF rfl rfl (fun _ _ _ h => h) (fun w hl => (e_move hF rfl)) fun a hF => ?_
                  refine x1 (St.ld hS) hF rfl rfl (fun _ _ _ h => h) (fun w hl => (e_iaI hF Tryd.runUnderlying25 Tryd.sizeOf3 rfl rfl h43 ho44)) fun a hF => ?_
                  refine x1 (St.ld hS) hF rfl rfl (fun _ _ _ h => h) (fun w hl => (e_ld hF Tryd.isAgg3 rfl (hl.elO (.tail _ (.tail _ (.head _))) (hl47 0 _ rfl)))) fun a hF => ?_
                  refine x1 (St.ld hS) hF rfl rfl (fun _ _ _ h => h) (fun w hl => (e_add hF rfl rfl)) fun a hF => ?_
                  refine x1 (St.ld hS) hF rfl rfl (fun _ _ _ h => h) (fun w hl => (e_max hF rfl rfl)) fun a hF => ?_
                  refine x1 (St.ld hS) hF rfl rfl (fun _ _ _ h => h) (fun w hl => (e_iaI hF Tryd.runUnderlying25 Tryd.sizeOf3 rfl rfl h37 ho48)) fun a hF => ?_
                  have hn53 := setI_len h50
                  refine xz rfl <| s_slJ (α := Int) hF hS Tryd.sizeOf3 rfl rfl rfl rfl hvE5 rfl h50 (.tail _ (.tail _ (.head _))) fun vs51 w hv52 hU => ?_
                  replace hS := hU _ (.tail (.tail .head))
                  clear hU
                  refine bn <| tn <| ?_
                  replace hF := Fr.as hF (t := 8) (v' := .slice oaE2 l49.length capE3) rfl (by rw [hn53])
                  exact ⟨l49, oaE2, capE3, vs51, hm, hF.has ⟨rfl, rfl, rfl, rfl, rfl, rfl, rfl, rfl, rfl, rfl, trivial⟩, hS, hv52⟩
                ·
                  replace hm := ite_f hm hb35
                  refine tn <| cfv hF rfl hb35 <| wp_skip <| ?_
                  refine bn <| tn <| ?_
                  exact ⟨vE1, oaE2, capE3, vsE4, hm, hF.has ⟨rfl, rfl, rfl, rfl, rfl, rfl, rfl, rfl, rfl, rfl, trivial⟩, hS, hvE5⟩
              clear hm hF hS
              rintro a w ⟨vF1, oaF2, capF3, vsF4, hm, hF, hS, hvF5⟩
              unfold trace_Steps_j6 at hm
              refine rg <| ?_
              refine ls <| q1 hF rfl (e_add hF rfl rfl) fun a hF => ?_
              refine ls <| q1 hF rfl (e_move hF rfl) fun a hF => ?_
              refine re <| ?_
              refine tn <| ?_
              exact ⟨(nn5, vF1, (IntKind.i64.wrap (vE7 + 1))), ⟨oaF2, capF3, vsF4, hm, hF.has ⟨rfl, rfl, rfl, rfl, rfl, rfl, rfl, rfl, rfl, rfl, trivial⟩, hS, hvF5⟩, Nat.lt_succ_self _⟩
            ·
              replace hm := itp_f hm hb22
              refine tn <| th <| cfv hF rfl hb22 <| ?_
              refine wp_exit <| tx <| tx <| bx <| ?_
              refine tn <| ?_
              exact ⟨vE1, oaE2, capE3, vsE4, hm, hF.has ⟨rfl, rfl, rfl, rfl, rfl, rfl, rfl, rfl, trivial⟩, hS, hvE5⟩
          clear hm hF hS
          rintro a w ⟨vD1, oaD2, capD3, vsD4, hm, hF, hS, hvD5⟩
          unfold trace_Steps_j4 at hm
          refine th <| th <| ?_
          replace hm := bind_some hm
          obtain ⟨x54, h55, hm⟩ := hm
          have ho56 := Rd.oaI (hS.rdO (.tail _ (.tail _ (.head _)))) hvD5 (by decide) h55
          obtain ⟨c57, g58, hl59⟩ := Rows.getI hvD5 h55
          obtain rfl : c57 = [.int .i64 x54] := g58
          refine rg <| ?_
          refine ls <| q1 hF rfl (e_move hF rfl) fun a hF => ?_
          refine ls <| q1 hF rfl (e_move hF rfl) fun a hF => ?_
          refine ls <| q1 hF rfl (e_iaI hF Tryd.runUnderlying25 Tryd.sizeOf3 rfl rfl h55 ho56) fun a hF => ?_
          refine ls <| q1 hF rfl (e_ld hF Tryd.isAgg3 rfl ((St.ld hS).elO (.tail _ (.tail _ (.head _))) (hl59 0 _ rfl))) fun a hF => ?_
          refine ls <| q1 hF rfl (e_move hF rfl) fun a hF => ?_
          refine ls <| q1 hF rfl (e_lenL (α := (List Int)) (xs := vB10) hF Tryd.runUnderlying49 rfl) fun a hF => ?_
          refine ls <| q1 hF rfl (e_eql hF rfl rfl) fun a hF => ?_
          refine re <| ?_
          refine tn <| midK (fun a w => ∃ (vD7 : (List (List Int))) (oaD8 : Option Addr) (capD9 : Nat) (qsD10 : List RowQ), (trace_Steps_j7 (trace_Steps_j3 (trace_Steps_l2 N trace_Steps_j1 p1 p6 p11 nn2) vB22) vD1 x54 vB22) vD7 = some r ∧ Fr 79 [(0, .slice oaB2 p1.length capB3), (1, .slice oaB6 p6.length capB7), (2, .int .i64 p11), (7, .slice oaD8 vD7.length capD9), (8, .slice oaD2 vD1.length capD3), (9, .int .i64 vB22), (18, .int .i64 (p1.length : Int)), (19, .int .i64 vB22)] a ∧ St w0 Nil [HB1] [sla 25 1 oaD8 vD7.length capD9 (qsD10.map rowV), bigA (rowA 3 1) qsD10, sla 3 1 oaD2 vD1.length capD3 vsD4] w ∧ NR HB1 qsD10 vD7) ?_ ?_
          ·
            rcases bdich (decide (x54 = (vB10.length : Int))) with hb60 | hb60
            ·
              replace hm := itp_t hm hb60
              refine ctv hF rfl hb60 <| ?_
              replace hm := bind_some hm
              obtain ⟨l64, h65, hm⟩ := hm
              refine rg <| ?_
              refine ls <| q1 hF rfl (e_move hF rfl) fun a hF => ?_
              refine ls <| a_bsl (e := 25) (sz := 1) [.slice none 0 0] hF rfl hS rfl rfl rfl (fun w => by kernel_rfl) fun b62 w a hS hF => ?_
              have hv61 : Rows (α := (List Int)) HB1 [.slice none 0 0] ([[]] : List (List Int)) := (.cons (c := [.slice none 0 0]) ⟨none, 0, rfl, Nat.le_refl _, SR.nil _ _⟩ .nil)
              refine ls <| m_appN (α := Int) (xs := vB10) (qs := qsB13) hF rfl hS Tryd.underlying49 info25 rfl rfl rfl (.tail _ (.head _)) hvB14 (hS.rdO (.head _)) h65 fun oa66 cap67 w a hv68 hU hF => ?_
              replace hS := hU _ (.tail .head)
              clear hU
              replace hS := hS.nilS 3 1
              replace hS := St.bigPush (f := rowA 3 1) (x := rowN) hS .head (.tail (.tail .head))
              replace hS := hS.drop .head
              refine ls <| q1 hF rfl (e_asg hF rfl) fun a hF => ?_
              refine re <| ?_
              refine tn <| ?_
              exact ⟨l64, oa66, cap67, (qsB13 ++ [rowN]), hm, hF.has ⟨rfl, rfl, rfl, rfl, rfl, rfl, rfl, rfl, trivial⟩, hS, hv68⟩
            ·
              replace hm := itp_f hm hb60
              refine cfv hF rfl hb60 <| wp_skip <| ?_
              refine tn <| ?_
              exact ⟨vB10, oaB11, capB12, qsB13, hm, hF.has ⟨rfl, rfl, rfl, rfl, rfl, rfl, rfl, rfl, trivial⟩, hS, hvB14⟩
          clear hm hF hS
          rintro a w ⟨vD7, oaD8, capD9, qsD10, hm, hF, hS, hvD11⟩
          unfold trace_Steps_j7 at hm
          have ho69 := Rd.oaI (hS.rdO (.tail _ (.tail _ (.head _)))) hvD5 (by decide) h55
          have ho70 := Rd.oaI (hS.rdO (.tail _ (.tail _ (.head _)))) hvD5 (by decide) h55
          replace hm := bind_some hm
          obtain ⟨x71, h72, hm⟩ := hm
          obtain ⟨oa73, cap74, vs75, hq76, hr77⟩ := NR.get hvD11 h72
          replace hm := bind_some hm
          obtain ⟨l81, h82, hm⟩ := hm
          replace hm := bind_some hm
          obtain ⟨l87, h88, hm⟩ := hm
          refine rdL (sub_cons (.tail _ (.tail _ (.head _))) sub_nil) 16 hS wide fun w hS => ?_
          refine d1 (i := 0) rfl (by kernel_rfl) (by kernel_rfl) (St.ldsX hS (fun _ _ h => h) (fun _ h => (.tail _ (.tail _ h)))) hF rfl (fun _ _ _ h => h) (fun w hl => (e_move hF rfl)) fun a hF => ?_
          refine d1 (i := 1) rfl (by kernel_rfl) (by kernel_rfl) (St.ldsX hS (fun _ _ h => h) (fun _ h => (.tail _ (.tail _ h)))) hF rfl (fun _ _ _ h => h) (fun w hl => (e_move hF rfl)) fun a hF => ?_
          refine d1 (i := 2) rfl (by kernel_rfl) (by kernel_rfl) (St.ldsX hS (fun _ _ h => h) (fun _ h => (.tail _ (.tail _ h)))) hF rfl (fun _ _ _ h => h) (fun w hl => (e_move hF rfl)) fun a hF => ?_
          refine d1 (i := 3) rfl (by kernel_rfl) (by kernel_rfl) (St.ldsX hS (fun _ _ h => h) (fun _ h => (.tail _ (.tail _ h)))) hF rfl (fun _ _ _ h => h) (fun w hl => (e_iaI hF Tryd.runUnderlying25 Tryd.sizeOf3 rfl rfl h55 ho69)) fun a hF => ?_
          refine d1 (i := 4) rfl (by kernel_rfl) (by kernel_rfl) (St.ldsX hS (fun _ _ h => h) (fun _ h => (.tail _ (.tail _ h)))) hF rfl (fun _ _ _ h => h) (fun w hl => (e_ld hF Tryd.isAgg3 rfl (hl.elO (.head _) (hl59 0 _ rfl)))) fun a hF => ?_
          refine d1 (i := 5) rfl (by kernel_rfl) (by kernel_rfl) (St.ldsX hS (fun _ _ h => h) (fun _ h => (.tail _ (.tail _ h)))) hF rfl (fun _ _ _ h => h) (fun w hl => (e_move hF rfl)) fun a hF => ?_
          refine d1 (i := 6) rfl (by kernel_rfl) (by kernel_rfl) (St.ldsX hS (fun _ _ h => h) (fun _ h => (.tail _ (.tail _ h)))) hF rfl (fun _ _ _ h => h) (fun w hl => (e_move hF rfl)) fun a hF => ?_
          refine d1 (i := 7) rfl (by kernel_rfl) (by kernel_rfl) (St.ldsX hS (fun _ _ h => h) (fun _ h => (.tail _ (.tail _ h)))) hF rfl (fun _ _ _ h => h) (fun w hl => (e_move hF rfl)) fun a hF => ?_
          refine d1 (i := 8) rfl (by kernel_rfl) (by kernel_rfl) (St.ldsX hS (fun _ _ h => h) (fun _ h => (.tail _ (.tail _ h)))) hF rfl (fun _ _ _ h => h) (fun w hl => (e_iaI hF Tryd.runUnderlying25 Tryd.sizeOf3 rfl rfl h55 ho70)) fun a hF => ?_
          refine d1 (i := 9) rfl (by kernel_rfl) (by kernel_rfl) (St.ldsX hS (fun _ _ h => h) (fun _ h => (.tail _ (.tail _ h)))) hF rfl (fun _ _ _ h => h) (fun w hl => (e_ld hF Tryd.isAgg3 rfl (hl.elO (.head _) (hl59 0 _ rfl)))) fun a hF => ?_
          refine da2 (i := 10) (j := 12) (by kernel_rfl) ?_ ?_
          ·
            refine di (i := 10) rfl <| q1 hF rfl (e_iaI hF Tryd.runUnderlying49 Tryd.sizeOf25 rfl rfl h72 (rowOa (St.ld hS) (.head _) hq76)) fun a hF => ?_
            refine ⟨fun _ => (St.ldsX hS (fun _ _ h => h) (fun _ h => (.tail _ (.tail _ h)))), ?_⟩
            refine da2 (i := 11) (j := 12) (by kernel_rfl) ?_ ?_
            ·
              refine di (i := 11) rfl <| q1 hF rfl (e_ld hF Tryd.isAgg25 rfl (rowCell (ie := 3) (St.ld hS) (.head _) hq76)) fun a hF => ?_
              refine ⟨fun _ => (St.ldsX hS (fun _ _ h => h) (fun _ h => (.tail _ (.tail _ h)))), ?_⟩
              refine d1 (i := 12) rfl (by kernel_rfl) (by kernel_rfl) (St.ldsX hS (fun _ _ h => h) (fun _ h => (.tail _ (.tail _ h)))) hF rfl (fun _ _ _ h => h) (fun w hl => (e_move hF rfl)) fun a hF => ?_
              refine da1 (i := 13) (by kernel_rfl) ?_
              have hv78 : Rows (α := Int) HB1 [.int .i64 vB22] ([vB22] : List Int) := (.cons (c := [.int .i64 vB22]) rfl .nil)
              refine di (i := 13) rfl <| a_bsl (e := 3) (sz := 1) [.int .i64 vB22] hF rfl hS rfl rfl rfl (fun w => by kernel_rfl) fun b79 w a hS hF => ?_
              refine ⟨fun _ => (St.ldsX hS (fun _ _ h => h) (fun _ h => (.tail _ (.tail _ (.tail _ h))))), ?_⟩
              refine da1 (i := 14) (by kernel_rfl) ?_
              refine di (i := 14) rfl <| m_appR (α := Int) (xs := x71) (ys := ([vB22] : List Int)) hF rfl hS Tryd.underlying25 info3 rfl (by decide) rfl rfl rfl (.tail _ (.tail _ (.head _))) hq76 hr77 (hS.rdO (.head _)) hv78 h82 fun oa83 cap84 vs85 w a hv86 hU hF => ?_
              replace hS := hU _ (.tail (.tail .head))
              clear hU
              replace hS := hS.drop .head
              refine ⟨fun _ => (St.ldsX hS (fun _ _ h => h) (fun _ h => (.tail _ (.tail _ h)))), ?_⟩
              refine da1 (i := 15) (by kernel_rfl) ?_
              refine di (i := 15) rfl <| q1 hF rfl (e_iaI hF Tryd.runUnderlying49 Tryd.sizeOf25 rfl rfl h72 (rowOa (St.ld hS) (.head _) hq76)) fun a hF => ?_
              refine ⟨fun _ => (St.ldsX hS (fun _ _ h => h) (fun _ h => (.tail _ (.tail _ h)))), ?_⟩
              refine da1 (i := 16) (by kernel_rfl) ?_
              have hn90 := setI_len h88
              refine di (i := 16) rfl <| m_stR (α := Int) hF hS Tryd.sizeOf25 rfl rfl hvD11 hv86 h88 (.head _) fun w hv89 hU => ?_
              replace hS := hU _ .head
              clear hU
              refine ⟨fun h => absurd rfl h, ?_⟩
              refine de (by kernel_rfl) <| ?_
              refine bn <| tn <| ?_
              replace hF := Fr.as hF (t := 7) (v' := .slice oaD8 l87.length capD9) rfl (by rw [hn90])
              exact ⟨l87, vD1, oaD8, capD9, (qsD10.set x54.toNat ⟨oa83, l81.length, cap84, vs85⟩), oaD2, capD3, vsD4, hm, hF.has ⟨rfl, rfl, rfl, rfl, rfl, rfl, rfl, trivial⟩, hS, hv89, hvD5⟩
            ·
              refine di (i := 12) rfl <| q1 hF rfl (e_move hF rfl) fun a hF => ?_
              refine ⟨fun _ => (St.ldsX hS (fun _ _ h => h) (fun _ h => (.tail _ (.tail _ h)))), ?_⟩
              refine da2 (i := 11) (j := 13) (by kernel_rfl) ?_ ?_
              ·
                refine di (i := 11) rfl <| q1 hF rfl (e_ld hF Tryd.isAgg25 rfl (rowCell (ie := 3) (St.ld hS) (.head _) hq76)) fun a hF => ?_
                refine ⟨fun _ => (St.ldsX hS (fun _ _ h => h) (fun _ h => (.tail _ (.tail _ h)))), ?_⟩
                refine da1 (i := 13) (by kernel_rfl) ?_
                have hv78 : Rows (α := Int) HB1 [.int .i64 vB22] ([vB22] : List Int) := (.cons (c := [.int .i64 vB22]) rfl .nil)
                refine di (i := 13) rfl <| a_bsl (e := 3) (sz := 1) [.int .i64 vB22] hF rfl hS rfl rfl rfl (fun w => by kernel_rfl) fun b79 w a hS hF => ?_
                refine ⟨fun _ => (St.ldsX hS (fun _ _ h => h) (fun _ h => (.tail _ (.tail _ (.tail _ h))))), ?_⟩
                refine da1 (i := 14) (by kernel_rfl) ?_
                refine di (i := 14) rfl <| m_appR (α := Int) (xs := x71) (ys := ([vB22] : List Int)) hF rfl hS Tryd.underlying25 info3 rfl (by decide) rfl rfl rfl (.tail _ (.tail _ (.head _))) hq76 hr77 (hS.rdO (.head _)) hv78 h82 fun oa83 cap84 vs85 w a hv86 hU hF => ?_
                replace hS := hU _ (.tail (.tail .head))
                clear hU
                replace hS := hS.drop .head
                refine ⟨fun _ => (St.ldsX hS (fun _ _ h => h) (fun _ h => (.tail _ (.tail _ h)))), ?_⟩
                refine da1 (i := 15) (by kernel_rfl) ?_
                refine di (i := 15) rfl <| q1 hF rfl (e_iaI hF Tryd.runUnderlying49 Tryd.sizeOf25 rfl rfl h72 (rowOa (St.ld hS) (.head _) hq76)) fun a hF => ?_
                refine ⟨fun _ => (St.ldsX hS (fun _ _ h => h) (fun _ h => (.tail _ (.tail _ h)))), ?_⟩
                refine da1 (i := 16) (by kernel_rfl) ?_
                have hn90 := setI_len h88
                refine di (i := 16) rfl <| m_stR (α := Int) hF hS Tryd.sizeOf25 rfl rfl hvD11 hv86 h88 (.head _) fun w hv89 hU => ?_
                replace hS := hU _ .head
                clear hU
                refine ⟨fun h => absurd rfl h, ?_⟩
                refine de (by kernel_rfl) <| ?_
                refine bn <| tn <| ?_
                replace hF := Fr.as hF (t := 7) (v' := .slice oaD8 l87.length capD9) rfl (by rw [hn90])
                exact ⟨l87, vD1, oaD8, capD9, (qsD10.set x54.toNat ⟨oa83, l81.length, cap84, vs85⟩), oaD2, capD3, vsD4, hm, hF.has ⟨rfl, rfl, rfl, rfl, rfl, rfl, rfl, trivial⟩, hS, hv89, hvD5⟩
              ·
                have hv78 : Rows (α := Int) HB1 [.int .i64 vB22] ([vB22] : List Int) := (.cons (c := [.int .i64 vB22]) rfl .nil)
                refine di (i := 13) rfl <| a_bsl (e := 3) (sz := 1) [.int .i64 vB22] hF rfl hS rfl rfl rfl (fun w => by kernel_rfl) fun b79 w a hS hF => ?_
                refine ⟨fun _ => (St.ldsX hS (fun _ _ h => h) (fun _ h => (.tail _ (.tail _ (.tail _ h))))), ?_⟩
                refine da1 (i := 11) (by kernel_rfl) ?_
                refine di (i := 11) rfl <| q1 hF rfl (e_ld hF Tryd.isAgg25 rfl (rowCell (ie := 3) (St.ld hS) (.tail _ (.head _)) hq76)) fun a hF => ?_
                refine ⟨fun _ => (St.ldsX hS (fun _ _ h => h) (fun _ h => (.tail _ (.tail _ (.tail _ h))))), ?_⟩
                refine da1 (i := 14) (by kernel_rfl) ?_
                refine di (i := 14) rfl <| m_appR (α := Int) (xs := x71) (ys := ([vB22] : List Int)) hF rfl hS Tryd.underlying25 info3 rfl (by decide) rfl rfl rfl (.tail _ (.tail _ (.head _))) hq76 hr77 (hS.rdO (.head _)) hv78 h82 fun oa83 cap84 vs85 w a hv86 hU hF => ?_
                replace hS := hU _ (.tail (.tail .head))
                clear hU
                replace hS := hS.drop .head
                refine ⟨fun _ => (St.ldsX hS (fun _ _ h => h) (fun _ h => (.tail _ (.tail _ h)))), ?_⟩
                refine da1 (i := 15) (by kernel_rfl) ?_
                refine di (i := 15) rfl <| q1 hF rfl (e_iaI hF Tryd.runUnderlying49 Tryd.sizeOf25 rfl rfl h72 (rowOa (St.ld hS) (.head _) hq76)) fun a hF => ?_
                refine ⟨fun _ => (St.ldsX hS (fun _ _ h => h) (fun _ h => (.tail _ (.tail _ h)))), ?_⟩
                refine da1 (i := 16) (by kernel_rfl) ?_
                have hn90 := setI_len h88
                refine di (i := 16) rfl <| m_stR (α := Int) hF hS Tryd.sizeOf25 rfl rfl hvD11 hv86 h88 (.head _) fun w hv89 hU => ?_
                replace hS := hU _ .head
                clear hU
                refine ⟨fun h => absurd rfl h, ?_⟩
                refine de (by kernel_rfl) <| ?_
                refine bn <| tn <| ?_
                replace hF := Fr.as hF (t := 7) (v' := .slice oaD8 l87.length capD9) rfl (by rw [hn90])
                exact ⟨l87, vD1, oaD8, capD9, (qsD10.set x54.toNat ⟨oa83, l81.length, cap84, vs85⟩), oaD2, capD3, vsD4, hm, hF.has ⟨rfl, rfl, rfl, rfl, rfl, rfl, rfl, trivial⟩, hS, hv89, hvD5⟩
          ·
            refine di (i := 12) rfl <| q1 hF rfl (e_move hF rfl) fun a hF => ?_
            refine ⟨fun _ => (St.ldsX hS (fun _ _ h => h) (fun _ h => (.tail _ (.tail _ h)))), ?_⟩
            refine da2 (i := 10) (j := 13) (by kernel_rfl) ?_ ?_
            ·
              refine di (i := 10) rfl <| q1 hF rfl (e_iaI hF Tryd.runUnderlying49 Tryd.sizeOf25 rfl rfl h72 (rowOa (St.ld hS) (.head _) hq76)) fun a hF => ?_
              refine ⟨fun _ => (St.ldsX hS (fun _ _ h => h) (fun _ h => (.tail _ (.tail _ h)))), ?_⟩
              refine da2 (i := 11) (j := 13) (by kernel_rfl) ?_ ?_
              ·
                refine di (i := 11) rfl <| q1 hF rfl (e_ld hF Tryd.isAgg25 rfl (rowCell (ie := 3) (St.ld hS) (.head _) hq76)) fun a hF => ?_
                refine ⟨fun _ => (St.ldsX hS (fun _ _ h => h) (fun _ h => (.tail _ (.tail _ h)))), ?_⟩
                refine da1 (i := 13) (by kernel_rfl) ?_
                have hv78 : Rows (α := Int) HB1 [.int .i64 vB22] ([vB22] : List Int) := (.cons (c := [.int .i64 vB22]) rfl .nil)
                refine di (i := 13) rfl <| a_bsl (e := 3) (sz := 1) [.int .i64 vB22] hF rfl hS rfl rfl rfl (fun w => by kernel_rfl) fun b79 w a hS hF => ?_
                refine ⟨fun _ => (St.ldsX hS (fun _ _ h => h) (fun _ h => (.tail _ (.tail _ (.tail _ h))))), ?_⟩
                refine da1 (i := 14) (by kernel_rfl) ?_
                refine di (i := 14) rfl <| m_appR (α := Int) (xs := x71) (ys := ([vB22] : List Int)) hF rfl hS Tryd.underlying25 info3 rfl (by decide) rfl rfl rfl (.tail _ (.tail _ (.head _))) hq76 hr77 (hS.rdO (.head _)) hv78 h82 fun oa83 cap84 vs85 w a hv86 hU hF => ?_
                replace hS := hU _ (.tail (.tail .head))
                clear hU
                replace hS := hS.drop .head
                refine ⟨fun _ => (St.ldsX hS (fun _ _ h => h) (fun _ h => (.tail _ (.tail _ h)))), ?_⟩
                refine da1 (i := 15) (by kernel_rfl) ?_
                refine di (i := 15) rfl <| q1 hF rfl (e_iaI hF Tryd.runUnderlying49 Tryd.sizeOf25 rfl rfl h72 (rowOa (St.ld hS) (.head _) hq76)) fun a hF => ?_
                refine ⟨fun _ => (St.ldsX hS (fun _ _ h => h) (fun _ h => (.tail _ (.tail _ h)))), ?_⟩
                refine da1 (i := 16) (by kernel_rfl) ?_
                have hn90 := setI_len h88
                refine di (i := 16) rfl <| m_stR (α := Int) hF hS Tryd.sizeOf25 rfl rfl hvD11 hv86 h88 (.head _) fun w hv89 hU => ?_
                replace hS := hU _ .head
                clear hU
                refine ⟨fun h => absurd rfl h, ?_⟩
                refine de (by kernel_rfl) <| ?_
                refine bn <| tn <| ?_
                replace hF := Fr.as hF (t := 7) (v' := .slice oaD8 l87.length capD9) rfl (by rw [hn90])
                exact ⟨l87, vD1, oaD8, capD9, (qsD10.set x54.toNat ⟨oa83, l81.length, cap84, vs85⟩), oaD2, capD3, vsD4, hm, hF.has ⟨rfl, rfl, rfl, rfl, rfl, rfl, rfl, trivial⟩, hS, hv89, hvD5⟩
              ·
                have hv78 : Rows (α := Int) HB1 [.int .i64 vB22] ([vB22] : List Int) := (.cons (c := [.int .i64 vB22]) rfl .nil)
                refine di (i := 13) rfl <| a_bsl (e := 3) (sz := 1) [.int .i64 vB22] hF rfl hS rfl rfl rfl (fun w => by kernel_rfl) fun b79 w a hS hF => ?_
                refine ⟨fun _ => (St.ldsX hS (fun _ _ h => h) (fun _ h => (.tail _ (.tail _ (.tail _ h))))), ?_⟩
                refine da1 (i := 11) (by kernel_rfl) ?_
                refine di (i := 11) rfl <| q1 hF rfl (e_ld hF Tryd.isAgg25 rfl (rowCell (ie := 3) (St.ld hS) (.tail _ (.head _)) hq76)) fun a hF => ?_
                refine ⟨fun _ => (St.ldsX hS (fun _ _ h => h) (fun _ h => (.tail _ (.tail _ (.tail _ h))))), ?_⟩
                refine da1 (i := 14) (by kernel_rfl) ?_
                refine di (i := 14) rfl <| m_appR (α := Int) (xs := x71) (ys := ([vB22] : List Int)) hF rfl hS Tryd.underlying25 info3 rfl (by decide) rfl rfl rfl (.tail _ (.tail _ (.head _))) hq76 hr77 (hS.rdO (.head _)) hv78 h82 fun oa83 cap84 vs85 w a hv86 hU hF => ?_
                replace hS := hU _ (.tail (.tail .head))
                clear hU
                replace hS := hS.drop .head
                refine ⟨fun _ => (St.ldsX hS (fun _ _ h => h) (fun _ h => (.tail _ (.tail _ h)))), ?_⟩
                refine da1 (i := 15) (by kernel_rfl) ?_
                refine di (i := 15) rfl <| q1 hF rfl (e_iaI hF Tryd.runUnderlying49 Tryd.sizeOf25 rfl rfl h72 (rowOa (St.ld hS) (.head _) hq76)) fun a hF => ?_
                refine ⟨fun _ => (St.ldsX hS (fun _ _ h => h) (fun _ h => (.tail _ (.tail _ h)))), ?_⟩
                refine da1 (i := 16) (by kernel_rfl) ?_
                have hn90 := setI_len h88
                refine di (i := 16) rfl <| m_stR (α := Int) hF hS Tryd.sizeOf25 rfl rfl hvD11 hv86 h88 (.head _) fun w hv89 hU => ?_
                replace hS := hU _ .head
                clear hU
                refine ⟨fun h => absurd rfl h, ?_⟩
                refine de (by kernel_rfl) <| ?_
                refine bn <| tn <| ?_
                replace hF := Fr.as hF (t := 7) (v' := .slice oaD8 l87.length capD9) rfl (by rw [hn90])
                exact ⟨l87, vD1, oaD8, capD9, (qsD10.set x54.toNat ⟨oa83, l81.length, cap84, vs85⟩), oaD2, capD3, vsD4, hm, hF.has ⟨rfl, rfl, rfl, rfl, rfl, rfl, rfl, trivial⟩, hS, hv89, hvD5⟩
            ·
              have hv78 : Rows (α := Int) HB1 [.int .i64 vB22] ([vB22] : List Int) := (.cons (c := [.int .i64 vB22]) rfl .nil)
              refine di (i := 13) rfl <| a_bsl (e := 3) (sz := 1) [.int .i64 vB22] hF rfl hS rfl rfl rfl (fun w => by kernel_rfl) fun b79 w a hS hF => ?_
              refine ⟨fun _ => (St.ldsX hS (fun _ _ h => h) (fun _ h => (.tail _ (.tail _ (.tail _ h))))), ?_⟩
              refine da1 (i := 10) (by kernel_rfl) ?_
              refine di (i := 10) rfl <| q1 hF rfl (e_iaI hF Tryd.runUnderlying49 Tryd.sizeOf25 rfl rfl h72 (rowOa (St.ld hS) (.tail _ (.head _)) hq76)) fun a hF => ?_
              refine ⟨fun _ => (St.ldsX hS (fun _ _ h => h) (fun _ h => (.tail _ (.tail _ (.tail _ h))))), ?_⟩
              refine da1 (i := 11) (by kernel_rfl) ?_
              refine di (i := 11) rfl <| q1 hF rfl (e_ld hF Tryd.isAgg25 rfl (rowCell (ie := 3) (St.ld hS) (.tail _ (.head _)) hq76)) fun a hF => ?_
              refine ⟨fun _ => (St.ldsX hS (fun _ _ h => h) (fun _ h => (.tail _ (.tail _ (.tail _ h))))), ?_⟩
              refine da1 (i := 14) (by kernel_rfl) ?_
              refine di (i := 14) rfl <| m_appR (α := Int) (xs := x71) (ys := ([vB22] : List Int)) hF rfl hS Tryd.underlying25 info3 rfl (by decide) rfl rfl rfl (.tail _ (.tail _ (.head _))) hq76 hr77 (hS.rdO (.head _)) hv78 h82 fun oa83 cap84 vs85 w a hv86 hU hF => ?_
              replace hS := hU _ (.tail (.tail .head))
              clear hU
              replace hS := hS.drop .head
              refine ⟨fun _ => (St.ldsX hS (fun _ _ h => h) (fun _ h => (.tail _ (.tail _ h)))), ?_⟩
              refine da1 (i := 15) (by kernel_rfl) ?_
              refine di (i := 15) rfl <| q1 hF rfl (e_iaI hF Tryd.runUnderlying49 Tryd.sizeOf25 rfl rfl h72 (rowOa (St.ld hS) (.head _) hq76)) fun a hF => ?_
              refine ⟨fun _ => (St.ldsX hS (fun _ _ h => h) (fun _ h => (.tail _ (.tail _ h)))), ?_⟩
              refine da1 (i := 16) (by kernel_rfl) ?_
              have hn90 := setI_len h88
              refine di (i := 16) rfl <| m_stR (α := Int) hF hS Tryd.sizeOf25 rfl rfl hvD11 hv86 h88 (.head _) fun w hv89 hU => ?_
              replace hS := hU _ .head
              clear hU
              refine ⟨fun h => absurd rfl h, ?_⟩
              refine de (by kernel_rfl) <| ?_
              refine bn <| tn <| ?_
              replace hF := Fr.as hF (t := 7) (v' := .slice oaD8 l87.length capD9) rfl (by rw [hn90])
              exact ⟨l87, vD1, oaD8, capD9, (qsD10.set x54.toNat ⟨oa83, l81.length, cap84, vs85⟩), oaD2, capD3, vsD4, hm, hF.has ⟨rfl, rfl, rfl, rfl, rfl, rfl, rfl, trivial⟩, hS, hv89, hvD5⟩
        clear hm hF hS
        rintro a w ⟨vC1, vC7, oaC2, capC3, qsC4, oaC8, capC9, vsC10, hm, hF, hS, hvC5, hvC11⟩
        unfold trace_Steps_j3 at hm
        refine rg <| ?_
        refine ls <| q1 hF rfl (e_add hF rfl rfl) fun a hF => ?_
        refine ls <| q1 hF rfl (e_move hF rfl) fun a hF => ?_
        refine re <| ?_
        refine tn <| ?_
        exact ⟨(nn2, vC1, vC7, (IntKind.i64.wrap (vB22 + 1))), ⟨HB1, oaB2, capB3, oaB6, capB7, oaC2, capC3, qsC4, oaC8, capC9, vsC10, hm, hxHB1, hF.has ⟨rfl, rfl, rfl, rfl, rfl, rfl, rfl, trivial⟩, hS, hcB4, hrB5, hcB8, hrB9, hvC5, hvC11⟩, Nat.lt_succ_self _⟩
      ·
        replace hm := itp_f hm hb21
        refine tn <| th <| cfv hF rfl hb21 <| ?_
        refine wp_exit <| tx <| tx <| bx <| ?_
        refine tn <| ?_
        replace hS := hS.pickL (.cons .head (.cons .head .nil))
        exact ⟨vB10, HB1, oaB11, capB12, qsB13, hm, hxHB1, hF.has ⟨rfl, trivial⟩, hS, hvB14⟩
    clear hm hF hS
    rintro a w ⟨vA2, HA1, oaA3, capA4, qsA5, hm, hxHA1, hF, hS, hvA6⟩
    unfold trace_Steps_j1 at hm
    refine th <| ?_
    refine rg <| ?_
    refine ls <| q1 hF rfl (e_move hF rfl) fun a hF => ?_
    refine ls <| q1 hF rfl (e_asg hF rfl) fun a hF => ?_
    refine re <| ?_
    refine tn <| ?_
    refine wp_ret <| ?_
    obtain ⟨H94, hx91, hr92, hc93, hS⟩ := St.frzN hS (.tail .head) .head hvA6
    obtain rfl := Option.some.inj hm
    exact r1 hF Tryd.results36 rfl ⟨H94, _, _, rfl, hc93, hr92, (Ext.trans hxHA1 hx91), (St.le hS), hS.keep⟩

set_option maxRecDepth 100000 in
theorem leadlineref06_Ints_c {N : Nat} {w0 : World} {H : PH} (hH : H.le w0) {oa2 : Option Addr} {cap3 : Nat} {p1 : (List Int)} (hc4 : p1.length ≤ cap3) (hr5 : SR H oa2 p1) {oa7 : Option Addr} {cap8 : Nat} {p6 : (List Int)} (hc9 : p6.length ≤ cap8) (hr10 : SR H oa7 p6) {r : Bool} (hm : leadlineref06_Ints N p1 p6 = some r) : Tot Tryd.prog 58 #[.slice oa2 p1.length cap3, .slice oa7 p6.length cap8] w0 (fun v w' => v = .bool r ∧ Keep Nil w0 w') := by
  unfold leadlineref06_Ints at hm
  refine fn0 (args := [.slice oa2 p1.length cap3, .slice oa7 p6.length cap8]) (F := [(0, .slice oa2 p1.length cap3), (1, .slice oa7 p6.length cap8)]) Tryd.func58 rfl Tryd.ntmps58 rfl rfl fun a hF => ?_
  have hS : St w0 Nil [H] [] w0 := start1 hH
  refine th <| ?_
  refine rg <| ?_
  refine ls <| q1 hF rfl (e_asg hF rfl) fun a hF => ?_
  refine re <| ?_
  refine tn <| th <| th <| ?_
  refine rg <| ?_
  refine ls <| q1 hF rfl (e_move hF rfl) fun a hF => ?_
  refine ls <| q1 hF rfl (e_lenL (α := Int) (xs := p1) hF Tryd.runUnderlying25 rfl) fun a hF => ?_
  refine ls <| q1 hF rfl (e_move hF rfl) fun a hF => ?_
  refine ls <| q1 hF rfl (e_lenL (α := Int) (xs := p6) hF Tryd.runUnderlying25 rfl) fun a hF => ?_
  refine ls <| q1 hF rfl (e_neq hF rfl rfl) fun a hF => ?_
  refine re <| ?_
  rcases bdich (decide ((p1.length : Int) ≠ (p6.length : Int))) with hb11 | hb11
  ·
    replace hm := itp_t hm hb11
    refine tn <| ctv hF rfl hb11 <| th <| ?_
    refine rg <| ?_
    refine ls <| q1 hF rfl (e_asg hF rfl) fun a hF => ?_
    refine re <| ?_
    refine tn <| ?_
    refine wp_ret <| tr <| ?_
    obtain rfl := Option.some.inj hm
    exact r1 hF Tryd.results58 rfl ⟨rfl, hS.keep⟩
  ·
    replace hm := itp_f hm hb11
    refine tn <| cfv hF rfl hb11 <| wp_skip <| ?_
    refine tn <| th <| th <| ?_
    refine rg <| ?_
    refine ls <| q1 hF rfl (e_asg hF rfl) fun a hF => ?_
    refine re <| ?_
    refine tn <| midK (fun a w => ∃ (HA1 : PH), leadlineref06_Ints_j1 = some r ∧ Ext w0 H HA1 ∧ Fr 26 [] a ∧ St w0 Nil [HA1] [] w) ?_ ?_
    ·
      refine wp_block <| lp (α := Nat × Int) (fun (gh : Nat × Int) a w => match gh with | (nn2, vB10) => ∃ (HB1 : PH) (oaB2 : Option Addr) (capB3 : Nat) (oaB6 : Option Addr) (capB7 : Nat), (leadlineref06_Ints_l2 N leadlineref06_Ints_j1 p1 p6) nn2 vB10 = some r ∧ Ext w0 H HB1 ∧ Fr 26 [(0, .slice oaB2 p1.length capB3), (1, .slice oaB6 p6.length capB7), (5, .int .i64 vB10)] a ∧ St w0 Nil [HB1] [] w ∧ p1.length ≤ capB3 ∧ SR HB1 oaB2 p1 ∧ p6.length ≤ capB7 ∧ SR HB1 oaB6 p6) (fun gh => gh.1) (N, 0) ⟨H, oa2, cap3, oa7, cap8, hm, (Ext.refl _ _), hF.has ⟨rfl, rfl, rfl, trivial⟩, hS, hc4, hr5, hc9, hr10⟩ ?_
      clear hm hF hS
      rintro ⟨nn2, vB10⟩ a w ⟨HB1, oaB2, capB3, oaB6, capB7, hm, hxHB1, hF, hS, hcB4, hrB5, hcB8, hrB9⟩
      obtain _ | nn2 := nn2
      · simp [leadlineref06_Ints_l2] at hm
      rw [leadlineref06_Ints_l2] at hm
      refine th <| th <| ?_
      refine rg <| ?_
      refine ls <| q1 hF rfl (e_move hF rfl) fun a hF => ?_
      refine ls <| q1 hF rfl (e_move hF rfl) fun a hF => ?_
      refine ls <| q1 hF rfl (e_lenL (α := Int) (xs := p1) hF Tryd.runUnderlying25 rfl) fun a hF => ?_
      refine ls <| q1 hF rfl (e_lss hF rfl rfl) fun a hF => ?_
      refine re <| ?_
      rcases bdich (decide (vB10 < (p1.length : Int))) with hb12 | hb12
      ·
        replace hm := itp_t hm hb12
        refine tn <| ctv hF rfl hb12 <| wp_skip <| ?_
        refine tn <| th <| wp_block <| th <| ?_
        replace hm := bind_some hm
        obtain ⟨x13, h14, hm⟩ := hm
        obtain ⟨c15, g16, hl17⟩ := SR.get hrB5 h14
        obtain rfl : c15 = [.int .i64 x13] := g16
        replace hm := bind_some hm
        obtain ⟨x18, h19, hm⟩ := hm
        obtain ⟨c20, g21, hl22⟩ := SR.get hrB9 h19
        obtain rfl : c20 = [.int .i64 x18] := g21
        refine rxS 9 hS wide (by kernel_rfl) fun w hS => ?_
        refine x1 (St.ld hS) hF rfl rfl (fun _ _ _ h => h) (fun w hl => (e_move hF rfl)) fun a hF => ?_
        refine x1 (St.ld hS) hF rfl rfl (fun _ _ _ h => h) (fun w hl => (e_move hF rfl)) fun a hF => ?_
        refine x1 (St.ld hS) hF rfl rfl (fun _ _ _ h => h) (fun w hl => (e_iaI hF Tryd.runUnderlying25 Tryd.sizeOf3 rfl rfl h14 (SR.oaI hrB5 (by decide) h14))) fun a hF => ?_
        refine x1 (St.ld hS) hF rfl rfl (fun _ _ _ h => h) (fun w hl => (e_ld hF Tryd.isAgg3 rfl (PH.le.cell (Lds.le hl) (hl17 0 _ rfl)))) fun a hF => ?_
        refine x1 (St.ld hS) hF rfl rfl (fun _ _ _ h => h) (fun w hl => (e_move hF rfl)) fun a hF => ?_
        refine x1 (St.ld hS) hF rfl rfl (fun _ _ _ h => h) (fun w hl => (e_move hF rfl)) fun a hF => ?_
        refine x1 (St.ld hS) hF rfl rfl (fun _ _ _ h => h) (fun w hl => (e_iaI hF Tryd.runUnderlying25 Tryd.sizeOf3 rfl rfl h19 (SR.oaI hrB9 (by decide) h19))) fun a hF => ?_
        refine x1 (St.ld hS) hF rfl rfl (fun _ _ _ h => h) (fun w hl => (e_ld hF Tryd.isAgg3 rfl (PH.le.cell (Lds.le hl) (hl22 0 _ rfl)))) fun a hF => ?_
        refine x1 (St.ld hS) hF rfl rfl (fun _ _ _ h => h) (fun w hl => (e_neq hF rfl rfl)) fun a hF => ?_
        refine xe <| ?_
        rcases bdich (decide (x13 ≠ x18)) with hb23 | hb23
        ·
          replace hm := itp_t hm hb23
          refine tn <| ctv hF rfl hb23 <| th <| ?_
          refine rg <| ?_
          refine ls <| q1 hF rfl (e_asg hF rfl) fun a hF => ?_
          refine re <| ?_
          refine tn <| ?_
          refine wp_ret <| br <| tr <| tr <| br <| tr <| ?_
          obtain rfl := Option.some.inj hm
          exact r1 hF Tryd.results58 rfl ⟨rfl, hS.keep⟩
        ·
          replace hm := itp_f hm hb23
          refine tn <| cfv hF rfl hb23 <| wp_skip <| ?_
          refine bn <| tn <| ?_
          refine rg <| ?_
          refine ls <| q1 hF rfl (e_move hF rfl) fun a hF => ?_
          refine ls <| q1 hF rfl (e_add hF rfl rfl) fun a hF => ?_
          refine ls <| q1 hF rfl (e_asg hF rfl) fun a hF => ?_
          refine re <| ?_
          refine tn <| ?_
          exact ⟨(nn2, (IntKind.i64.wrap (vB10 + 1))), ⟨HB1, oaB2, capB3, oaB6, capB7, hm, hxHB1, hF.has ⟨rfl, rfl, rfl, trivial⟩, hS, hcB4, hrB5, hcB8, hrB9⟩, Nat.lt_succ_self _⟩
      ·
        replace hm := itp_f hm hb12
        refine tn <| cfv hF rfl hb12 <| ?_
        refine wp_exit <| tx <| tx <| bx <| ?_
        refine tn <| ?_
        exact ⟨HB1, hm, hxHB1, hF.has trivial, hS⟩
    clear hm hF hS
    rintro a w ⟨HA1, hm, hxHA1, hF, hS⟩
    unfold leadlineref06_Ints_j1 at hm
    refine th <| ?_
    refine rg <| ?_
    refine ls <| q1 hF rfl (e_asg hF rfl) fun a hF => ?_
    refine re <| ?_
    refine tn <| ?_
    refine wp_ret <| ?_
    obtain rfl := Option.some.inj hm
    exact r1 hF Tryd.results58 rfl ⟨rfl, hS.keep⟩

set_option maxRecDepth 100000 in
theorem leadlineref11_Rows_c {N : Nat} {w0 : World} {H : PH} (hH : H.le w0) {oa2 : Option Addr} {cap3 : Nat} {p1 : (List (List Int))} (hc4 : p1.length ≤ cap3) (hr5 : SR H oa2 p1) {oa7 : Option Addr} {cap8 : Nat} {p6 : (List (List Int))} (hc9 : p6.length ≤ cap8) (hr10 : SR H oa7 p6) {r : Bool} (hm : leadlineref11_Rows N p1 p6 = some r) : Tot Tryd.prog 35 #[.slice oa2 p1.length cap3, .slice oa7 p6.length cap8] w0 (fun v w' => v = .bool r ∧ Keep Nil w0 w') := by
  unfold leadlineref11_Rows at hm
  refine fn0 (args := [.slice oa2 p1.length cap3, .slice oa7 p6.length cap8]) (F := [(0, .slice oa2 p1.length cap3), (1, .slice oa7 p6.length cap8)]) Tryd.func35 rfl Tryd.ntmps35 rfl rfl fun a hF => ?_
  have hS : St w0 Nil [H] [] w0 := start1 hH
  refine th <| ?_
  refine rg <| ?_
  refine ls <| q1 hF rfl (e_asg hF rfl) fun a hF => ?_
  refine re <| ?_
  refine tn <| th <| th <| ?_
  refine rg <| ?_
  refine ls <| q1 hF rfl (e_move hF rfl) fun a hF => ?_
  refine ls <| q1 hF rfl (e_lenL (α := (List Int)) (xs := p1) hF Tryd.runUnderlying49 rfl) fun a hF => ?_
  refine ls <| q1 hF rfl (e_move hF rfl) fun a hF => ?_
  refine ls <| q1 hF rfl (e_lenL (α := (List Int)) (xs := p6) hF Tryd.runUnderlying49 rfl) fun a hF => ?_
  refine ls <| q1 hF rfl (e_neq hF rfl rfl) fun a hF => ?_
  refine re <| ?_
  rcases bdich (decide ((p1.length : Int) ≠ (p6.length : Int))) with hb11 | hb11
  ·
    replace hm := itp_t hm hb11
    refine tn <| ctv hF rfl hb11 <| th <| ?_
    refine rg <| ?_
    refine ls <| q1 hF rfl (e_asg hF rfl) fun a hF => ?_
    refine re <| ?_
    refine tn <| ?_
    refine wp_ret <| tr <| ?_
    obtain rfl := Option.some.inj hm
    exact r1 hF Tryd.results35 rfl ⟨rfl, hS.keep⟩
  ·
    replace hm := itp_f hm hb11
    refine tn <| cfv hF rfl hb11 <| wp_skip <| ?_
    refine tn <| th <| th <| ?_
    refine rg <| ?_
    refine ls <| q1 hF rfl (e_asg hF rfl) fun a hF => ?_
    refine re <| ?_
    refine tn <| midK (fun a w => ∃ (HA1 : PH), leadlineref11_Rows_j1 = some r ∧ Ext w0 H HA1 ∧ Fr 27 [] a ∧ St w0 Nil [HA1] [] w) ?_ ?_
    ·
      refine wp_block <| lp (α := Nat × Int) (fun (gh : Nat × Int) a w => match gh with | (nn2, vB10) => ∃ (HB1 : PH) (oaB2 : Option Addr) (capB3 : Nat) (oaB6 : Option Addr) (capB7 : Nat), (leadlineref11_Rows_l2 N leadlineref11_Rows_j1 p1 p6) nn2 vB10 = some r ∧ Ext w0 H HB1 ∧ Fr 27 [(0, .slice oaB2 p1.length capB3), (1, .slice oaB6 p6.length capB7), (5, .int .i64 vB10)] a ∧ St w0 Nil [HB1] [] w ∧ p1.length ≤ capB3 ∧ SR HB1 oaB2 p1 ∧ p6.length ≤ capB7 ∧ SR HB1 oaB6 p6) (fun gh => gh.1) (N, 0) ⟨H, oa2, cap3, oa7, cap8, hm, (Ext.refl _ _), hF.has ⟨rfl, rfl, rfl, trivial⟩, hS, hc4, hr5, hc9, hr10⟩ ?_
      clear hm hF hS
      rintro ⟨nn2, vB10⟩ a w ⟨HB1, oaB2, capB3, oaB6, capB7, hm, hxHB1, hF, hS, hcB4, hrB5, hcB8, hrB9⟩
      obtain _ | nn2 := nn2
      · simp [leadlineref11_Rows_l2] at hm
      rw [leadlineref11_Rows_l2] at hm
      refine th <| th <| ?_
      refine rg <| ?_
      refine ls <| q1 hF rfl (e_move hF rfl) fun a hF => ?_
      refine ls <| q1 hF rfl (e_move hF rfl) fun a hF => ?_
      refine ls <| q1 hF rfl (e_lenL (α := (List Int)) (xs := p1) hF Tryd.runUnderlying49 rfl) fun a hF => ?_
      refine ls <| q1 hF rfl (e_lss hF rfl rfl) fun a hF => ?_
      refine re <| ?_
      rcases bdich (decide (vB10 < (p1.length : Int))) with hb12 | hb12
      ·
        replace hm := itp_t hm hb12
        refine tn <| ctv hF rfl hb12 <| wp_skip <| ?_
        refine tn <| th <| wp_block <| th <| ?_
        replace hm := bind_some hm
        obtain ⟨x13, h14, hm⟩ := hm
        obtain ⟨c15, g16, hl17⟩ := SR.get hrB5 h14
        obtain ⟨oa18, cap19, rfl, hc20, hr21⟩ := g16
        replace hm := bind_some hm
        obtain ⟨x22, h23, hm⟩ := hm
        obtain ⟨c24, g25, hl26⟩ := SR.get hrB9 h23
        obtain ⟨oa27, cap28, rfl, hc29, hr30⟩ := g25
        replace hm := bind_some hm
        obtain ⟨r31, h32, hm⟩ := hm
        refine rdS 10 hS wide fun w hS => ?_
        refine d1 (i := 0) rfl (by kernel_rfl) (by kernel_rfl) (St.ld hS) hF rfl (fun _ _ _ h => h) (fun w hl => (e_move hF rfl)) fun a hF => ?_
        refine d1 (i := 1) rfl (by kernel_rfl) (by kernel_rfl) (St.ld hS) hF rfl (fun _ _ _ h => h) (fun w hl => (e_move hF rfl)) fun a hF => ?_
        refine d1 (i := 2) rfl (by kernel_rfl) (by kernel_rfl) (St.ld hS) hF rfl (fun _ _ _ h => h) (fun w hl => (e_iaI hF Tryd.runUnderlying49 Tryd.sizeOf25 rfl rfl h14 (SR.oaI hrB5 (by decide) h14))) fun a hF => ?_
        refine d1 (i := 3) rfl (by kernel_rfl) (by kernel_rfl) (St.ld hS) hF rfl (fun _ _ _ h => h) (fun w hl => (e_ld hF Tryd.isAgg25 rfl (PH.le.cell (Lds.le hl) (hl17 0 _ rfl)))) fun a hF => ?_
        refine d1 (i := 4) rfl (by kernel_rfl) (by kernel_rfl) (St.ld hS) hF rfl (fun _ _ _ h => h) (fun w hl => (e_move hF rfl)) fun a hF => ?_
        refine d1 (i := 5) rfl (by kernel_rfl) (by kernel_rfl) (St.ld hS) hF rfl (fun _ _ _ h => h) (fun w hl => (e_move hF rfl)) fun a hF => ?_
        refine d1 (i := 6) rfl (by kernel_rfl) (by kernel_rfl) (St.ld hS) hF rfl (fun _ _ _ h => h) (fun w hl => (e_iaI hF Tryd.runUnderlying49 Tryd.sizeOf25 rfl rfl h23 (SR.oaI hrB9 (by decide) h23))) fun a hF => ?_
        refine d1 (i := 7) rfl (by kernel_rfl) (by kernel_rfl) (St.ld hS) hF rfl (fun _ _ _ h => h) (fun w hl => (e_ld hF Tryd.isAgg25 rfl (PH.le.cell (Lds.le hl) (hl26 0 _ rfl)))) fun a hF => ?_
        refine da1 (i := 8) (by kernel_rfl) ?_
        refine di (i := 8) rfl <| c1 hF rfl Tryd.call58 (leadlineref06_Ints_c (hp_le _) hc20 (St.srH hS hr21) hc29 (St.srH hS hr30) h32) ⟨rfl, rfl, trivial⟩ (fun v w a hR hF => ?_)
        obtain ⟨rfl, hk⟩ := hR
        replace hS := hS.pass hk
        clear hk
        refine ⟨fun _ => (St.ld hS), ?_⟩
        refine d1 (i := 9) rfl (by kernel_rfl) (by kernel_rfl) (St.ld hS) hF rfl (fun _ _ _ h => h) (fun w hl => (e_not hF rfl)) fun a hF => ?_
        refine de (by kernel_rfl) <| ?_
        rcases bdich r31 with hb33 | hb33
        ·
          replace hm := ite_t hm hb33
          refine tn <| cfv hF rfl (by rw [hb33]; rfl) <| wp_skip <| ?_
          refine bn <| tn <| ?_
          refine rg <| ?_
          refine ls <| q1 hF rfl (e_move hF rfl) fun a hF => ?_
          refine ls <| q1 hF rfl (e_add hF rfl rfl) fun a hF => ?_
          refine ls <| q1 hF rfl (e_asg hF rfl) fun a hF => ?_
          refine re <| ?_
          refine tn <| ?_
          exact ⟨(nn2, (IntKind.i64.wrap (vB10 + 1))), ⟨HB1, oaB2, capB3, oaB6, capB7, hm, hxHB1, hF.has ⟨rfl, rfl, rfl, trivial⟩, hS, hcB4, hrB5, hcB8, hrB9⟩, Nat.lt_succ_self _⟩
        ·
          replace hm := ite_f hm hb33
          refine tn <| ctv hF rfl (by rw [hb33]; rfl) <| th <| ?_
          refine rg <| ?_
          refine ls <| q1 hF rfl (e_asg hF rfl) fun a hF => ?_
          refine re <| ?_
          refine tn <| ?_
          refine wp_ret <| br <| tr <| tr <| br <| tr <| ?_
          obtain rfl := Option.some.inj hm
          exact r1 hF Tryd.results35 rfl ⟨rfl, hS.keep⟩
      ·
        replace hm := itp_f hm hb12
        refine tn <| cfv hF rfl hb12 <| ?_
        refine wp_exit <| tx <| tx <| bx <| ?_
        refine tn <| ?_
        exact ⟨HB1, hm, hxHB1, hF.has trivial, hS⟩
    clear hm hF hS
    rintro a w ⟨HA1, hm, hxHA1, hF, hS⟩
    unfold leadlineref11_Rows_j1 at hm
    refine th <| ?_
    refine rg <| ?_
    refine ls <| q1 hF rfl (e_asg hF rfl) fun a hF => ?_
    refine re <| ?_
    refine tn <| ?_
    refine wp_ret <| ?_
    obtain rfl := Option.some.inj hm
    exact r1 hF Tryd.results35 rfl ⟨rfl, hS.keep⟩

set_option maxRecDepth 100000 in
theorem leadlinelaw17_fixed_c {N : Nat} {w0 : World} {H : PH} (hH : H.le w0) (hT : Tab H)  {r : Bool} (hm : leadlinelaw17_fixed N  = some r) : Tot Tryd.prog 38 #[] w0 (fun v w' => v = .bool r ∧ Keep Nil w0 w') := by
  unfold leadlinelaw17_fixed at hm
  refine fn0 (args := []) (F := []) Tryd.func38 rfl Tryd.ntmps38 rfl rfl fun a hF => ?_
  have hS : St w0 Nil [H] [] w0 := start1 hH
  refine th <| ?_
  refine rg <| ?_
  refine ls <| q1 hF rfl (e_asg hF rfl) fun a hF => ?_
  refine re <| ?_
  refine tn <| th <| ?_
  refine rg <| ?_
  have hv1 : Rows (α := Int) H [.int .i64 0, .int .i64 0, .int .i64 1] ([0, 0, 1] : List Int) := (.cons (c := [.int .i64 0]) rfl (.cons (c := [.int .i64 0]) rfl (.cons (c := [.int .i64 1]) rfl .nil)))
  refine ls <| a_bsl (e := 3) (sz := 1) [.int .i64 0, .int .i64 0, .int .i64 1] hF rfl hS rfl rfl rfl (fun w => by kernel_rfl) fun b2 w a hS hF => ?_
  refine ls <| q1 hF rfl (e_asg hF rfl) fun a hF => ?_
  refine re <| ?_
  refine tn <| th <| ?_
  refine rg <| ?_
  refine ls <| q1 hF rfl (e_bldK [.int .i64 12, .int .i64 1, .int .i64 1] [.int .i64 12, .int .i64 1, .int .i64 0, .int .i64 1, .int .i64 0] hF ⟨rfl, rfl, rfl, trivial⟩ (fun w => by kernel_rfl)) fun a hF => ?_
  refine ls <| q1 hF rfl (e_bldK [.int .i64 12, .int .i64 2, .int .i64 1] [.int .i64 12, .int .i64 0, .int .i64 2, .int .i64 1, .int .i64 0] hF ⟨rfl, rfl, rfl, trivial⟩ (fun w => by kernel_rfl)) fun a hF => ?_
  refine ls <| q1 hF rfl (e_bldK [.int .i64 1, .int .i64 0, .int .i64 1] [.int .i64 1, .int .i64 0, .int .i64 0, .int .i64 1, .int .i64 0] hF ⟨rfl, rfl, rfl, trivial⟩ (fun w => by kernel_rfl)) fun a hF => ?_
  refine ls <| a_alloc (cs := [.int .i64 0, .int .i64 0, .int .i64 0, .int .i64 0, .int .i64 0].toArray) hF rfl hS Tryd.zeroValue23 rfl fun b4 w a hS hF => ?_
  refine ls <| a_alloc (cs := [.int .i64 0, .int .i64 0, .int .i64 0, .int .i64 0, .int .i64 0].toArray) hF rfl hS Tryd.zeroValue23 rfl fun b5 w a hS hF => ?_
  refine ls <| a_alloc (cs := [.int .i64 0, .int .i64 0, .int .i64 0, .int .i64 0, .int .i64 0].toArray) hF rfl hS Tryd.zeroValue23 rfl fun b6 w a hS hF => ?_
  refine ls <| s_blkA hF hS Tryd.sizeOf23 rfl rfl rfl rfl (one_cells rfl) (.tail (.tail .head)) fun w hS => ?_
  refine ls <| s_blkA hF hS Tryd.sizeOf23 rfl rfl rfl rfl (one_cells rfl) (.tail .head) fun w hS => ?_
  refine ls <| s_blkA hF hS Tryd.sizeOf23 rfl rfl rfl rfl (one_cells rfl) .head fun w hS => ?_
  refine re <| ?_
  refine tn <| th <| ?_
  refine rg <| ?_
  refine ls <| q1 hF rfl (e_ldA hF Tryd.isAgg23 Tryd.sizeOf23 rfl rfl ((St.ld hS).cellsB (.tail _ (.tail _ (.head _))))) fun a hF => ?_
  refine ls <| q1 hF rfl (e_ldA hF Tryd.isAgg23 Tryd.sizeOf23 rfl rfl ((St.ld hS).cellsB (.tail _ (.head _)))) fun a hF => ?_
  refine ls <| q1 hF rfl (e_ldA hF Tryd.isAgg23 Tryd.sizeOf23 rfl rfl ((St.ld hS).cellsB (.head _))) fun a hF => ?_
  have hv7 : Rows (α := api_Event) H [.int .i64 12, .int .i64 1, .int .i64 0, .int .i64 1, .int .i64 0, .int .i64 12, .int .i64 0, .int .i64 2, .int .i64 1, .int .i64 0, .int .i64 1, .int .i64 0, .int .i64 0, .int .i64 1, .int .i64 0] ([(api_Event.mk 12 1 0 1 0), (api_Event.mk 12 0 2 1 0), (api_Event.mk 1 0 0 1 0)] : List api_Event) := (.cons (c := [.int .i64 12, .int .i64 1, .int .i64 0, .int .i64 1, .int .i64 0]) ⟨_, _, rfl, rfl, ⟨_, _, rfl, rfl, ⟨_, _, rfl, rfl, ⟨_, _, rfl, rfl, rfl⟩⟩⟩⟩ (.cons (c := [.int .i64 12, .int .i64 0, .int .i64 2, .int .i64 1, .int .i64 0]) ⟨_, _, rfl, rfl, ⟨_, _, rfl, rfl, ⟨_, _, rfl, rfl, ⟨_, _, rfl, rfl, rfl⟩⟩⟩⟩ (.cons (c := [.int .i64 1, .int .i64 0, .int .i64 0, .int .i64 1, .int .i64 0]) ⟨_, _, rfl, rfl, ⟨_, _, rfl, rfl, ⟨_, _, rfl, rfl, ⟨_, _, rfl, rfl, rfl⟩⟩⟩⟩ .nil)))
  refine ls <| a_bsl (e := 23) (sz := 5) [.int .i64 12, .int .i64 1, .int .i64 0, .int .i64 1, .int .i64 0, .int .i64 12, .int .i64 0, .int .i64 2, .int .i64 1, .int .i64 0, .int .i64 1, .int .i64 0, .int .i64 0, .int .i64 1, .int .i64 0] hF rfl hS rfl rfl rfl (fun w => by kernel_rfl) fun b8 w a hS hF => ?_
  refine ls <| q1 hF rfl (e_asg hF rfl) fun a hF => ?_
  refine re <| ?_
  refine tn <| th <| ?_
  replace hm := bind_some hm
  obtain ⟨r10, h11, hm⟩ := hm
  refine rg <| ?_
  refine ls <| q1 hF rfl (e_move hF rfl) fun a hF => ?_
  refine ls <| q1 hF rfl (e_move hF rfl) fun a hF => ?_
  refine ls <| c1 hF rfl Tryd.call26 (trace_Swap_c (hp_le _) (St.capO hS (.head _)) (St.srO hS (.head _) hv7) (St.capO hS (.tail _ (.tail _ (.tail _ (.tail _ (.head _)))))) (St.srO hS (.tail _ (.tail _ (.tail _ (.tail _ (.head _))))) hv1) h11) ⟨rfl, rfl, rfl, rfl, trivial⟩ (fun v w a hR hF => ?_)
  obtain ⟨oa12, cap13, vs14, rfl, hv15, hk⟩ := hR
  replace hS := hS.fresh hk
  clear hk
  replace hv15 := hv15 H
  refine ls <| q1 hF rfl (e_move hF rfl) fun a hF => ?_
  refine ls <| q1 hF rfl (e_ext hF rfl rfl) fun a hF => ?_
  refine ls <| q1 hF rfl (e_ext hF rfl rfl) fun a hF => ?_
  refine ls <| q1 hF rfl (e_asg hF rfl) fun a hF => ?_
  refine ls <| q1 hF rfl (e_asg hF rfl) fun a hF => ?_
  refine re <| ?_
  refine tn <| th <| ?_
  replace hm := bind_some hm
  obtain ⟨r17, h18, hm⟩ := hm
  refine rg <| ?_
  refine ls <| q1 hF rfl (e_move hF rfl) fun a hF => ?_
  refine ls <| q1 hF rfl (e_move hF rfl) fun a hF => ?_
  refine ls <| c1 hF rfl Tryd.call26 (trace_Swap_c (hp_le _) (St.capO hS (.tail _ (.head _))) (St.srO hS (.tail _ (.head _)) hv7) (St.capO hS (.tail _ (.tail _ (.tail _ (.tail _ (.tail _ (.head _))))))) (St.srO hS (.tail _ (.tail _ (.tail _ (.tail _ (.tail _ (.head _)))))) hv1) h18) ⟨rfl, rfl, rfl, rfl, trivial⟩ (fun v w a hR hF => ?_)
  obtain ⟨oa19, cap20, vs21, rfl, hv22, hk⟩ := hR
  replace hS := hS.fresh hk
  clear hk
  replace hv22 := hv22 H
  refine ls <| q1 hF rfl (e_move hF rfl) fun a hF => ?_
  refine ls <| q1 hF rfl (e_ext hF rfl rfl) fun a hF => ?_
  refine ls <| q1 hF rfl (e_ext hF rfl rfl) fun a hF => ?_
  refine ls <| q1 hF rfl (e_asg hF rfl) fun a hF => ?_
  refine ls <| q1 hF rfl (e_asg hF rfl) fun a hF => ?_
  refine re <| ?_
  refine tn <| th <| ?_
  obtain ⟨H27, hx24, hr25, hc26, hS⟩ := St.frzS hS (.tail (.tail .head)) hv7
  obtain ⟨H31, hx28, hr29, hc30, hS⟩ := St.frzS hS (.tail (.tail (.tail (.tail (.tail .head))))) (hv1.mono hx24.sub)
  replace hm := bind_some hm
  obtain ⟨r32, h33, hm⟩ := hm
  replace hm := bind_some hm
  obtain ⟨r42, h43, hm⟩ := hm
  replace hm := bind_some hm
  obtain ⟨_, hb44, hm⟩ := hm
  replace hb44 := sure_some hb44
  replace hm := bind_some hm
  obtain ⟨r45, h46, hm⟩ := hm
  replace hm := bind_some hm
  obtain ⟨_, hb47, hm⟩ := hm
  replace hb47 := sure_some hb47
  replace hm := bind_some hm
  obtain ⟨r51, h52, hm⟩ := hm
  replace hm := bind_some hm
  obtain ⟨_, hb53, hm⟩ := hm
  replace hb53 := sure_some hb53
  replace hm := bind_some hm
  obtain ⟨_, hb54, hm⟩ := hm
  replace hb54 := sure_some hb54
  replace hm := bind_some hm
  obtain ⟨_, hb55, hm⟩ := hm
  replace hb55 := sure_some hb55
  replace hm := bind_some hm
  obtain ⟨r59, h60, hm⟩ := hm
  replace hm := bind_some hm
  obtain ⟨_, hb61, hm⟩ := hm
  replace hb61 := sure_some hb61
  replace hm := bind_some hm
  obtain ⟨r62, h63, hm⟩ := hm
  replace hm := bind_some hm
  obtain ⟨_, hb64, hm⟩ := hm
  replace hb64 := sure_some hb64
  replace hm := bind_some hm
  obtain ⟨r65, h66, hm⟩ := hm
  replace hm := bind_some hm
  obtain ⟨r83, h84, hm⟩ := hm
  replace hm := bind_some hm
  obtain ⟨_, hb85, hm⟩ := hm
  replace hb85 := sure_some hb85
  replace hm := bind_some hm
  obtain ⟨r86, h87, hm⟩ := hm
  replace hm := bind_some hm
  obtain ⟨_, hb88, hm⟩ := hm
  replace hb88 := sure_some hb88
  replace hm := bind_some hm
  obtain ⟨r95, h96, hm⟩ := hm
  refine rdS 68 hS wide fun w hS => ?_
  refine d1 (i := 0) rfl (by kernel_rfl) (by kernel_rfl) (St.ld hS) hF rfl (fun _ _ _ h => h) (fun w hl => (e_move hF rfl)) fun a hF => ?_
  refine d1 (i := 1) rfl (by kernel_rfl) (by kernel_rfl) (St.ld hS) hF rfl (fun _ _ _ h => h) (fun w hl => (e_move hF rfl)) fun a hF => ?_
  refine d1 (i := 3) rfl (by kernel_rfl) (by kernel_rfl) (St.ld hS) hF rfl (fun _ _ _ h => h) (fun w hl => (e_ldA hF Tryd.isAgg23 Tryd.sizeOf23 rfl rfl (hl.cellsB (.tail _ (.tail _ (.tail _ (.head _))))))) fun a hF => ?_
  refine d1 (i := 4) rfl (by kernel_rfl) (by kernel_rfl) (St.ld hS) hF rfl (fun _ _ _ h => h) (fun w hl => (e_ldA hF Tryd.isAgg23 Tryd.sizeOf23 rfl rfl (hl.cellsB (.tail _ (.tail _ (.tail _ (.tail _ (.head _)))))))) fun a hF => ?_
  refine d1 (i := 5) rfl (by kernel_rfl) (by kernel_rfl) (St.ld hS) hF rfl (fun _ _ _ h => h) (fun w hl => (e_ldA hF Tryd.isAgg23 Tryd.sizeOf23 rfl rfl (hl.cellsB (.tail _ (.tail _ (.head _)))))) fun a hF => ?_
  have hv39 : Rows (α := api_Event) H31 [.int .i64 12, .int .i64 0, .int .i64 2, .int .i64 1, .int .i64 0, .int .i64 12, .int .i64 1, .int .i64 0, .int .i64 1, .int .i64 0, .int .i64 1, .int .i64 0, .int .i64 0, .int .i64 1, .int .i64 0] ([(api_Event.mk 12 0 2 1 0), (api_Event.mk 12 1 0 1 0), (api_Event.mk 1 0 0 1 0)] : List api_Event) := (.cons (c := [.int .i64 12, .int .i64 0, .int .i64 2, .int .i64 1, .int .i64 0]) ⟨_, _, rfl, rfl, ⟨_, _, rfl, rfl, ⟨_, _, rfl, rfl, ⟨_, _, rfl, rfl, rfl⟩⟩⟩⟩ (.cons (c := [.int .i64 12, .int .i64 1, .int .i64 0, .int .i64 1, .int .i64 0]) ⟨_, _, rfl, rfl, ⟨_, _, rfl, rfl, ⟨_, _, rfl, rfl, ⟨_, _, rfl, rfl, rfl⟩⟩⟩⟩ (.cons (c := [.int .i64 1, .int .i64 0, .int .i64 0, .int .i64 1, .int .i64 0]) ⟨_, _, rfl, rfl, ⟨_, _, rfl, rfl, ⟨_, _, rfl, rfl, ⟨_, _, rfl, rfl, rfl⟩⟩⟩⟩ .nil)))
  refine cutD (k := 2) (L := #[true, true, true, true, true, true, true, false, false, false, false, false, false, false, false, false, false, false, false, false, false, false, false, false, false, false, false, false, false, false, false, false, false, false, false, false, false, false, false, false, false, false, false, false, false, false, false, false, false, false, false, false, false, false, false, false, false, false, false, false, false, false, false, false, false, false, false, false]) (fun a w => ∃ (oa34 : Option Addr) (cap35 : Nat) (vs36 : List Value) (b40 : Nat), Fr 97 [(1, .slice (some ⟨b2, 0, none⟩) ([0, 0, 1] : List Int).length 3), (2, .pointer (some ⟨b4, 0, none⟩)), (3, .pointer (some ⟨b5, 0, none⟩)), (4, .pointer (some ⟨b6, 0, none⟩)), (5, .slice (some ⟨b8, 0, none⟩) ([(api_Event.mk 12 1 0 1 0), (api_Event.mk 12 0 2 1 0), (api_Event.mk 1 0 0 1 0)] : List api_Event).length 3), (6, .slice oa12 r10.1.length cap13), (7, .bool r10.2), (9, .bool r17.2), (30, .slice (some ⟨b8, 0, none⟩) ([(api_Event.mk 12 1 0 1 0), (api_Event.mk 12 0 2 1 0), (api_Event.mk 1 0 0 1 0)] : List api_Event).length 3), (31, .slice (some ⟨b2, 0, none⟩) ([0, 0, 1] : List Int).length 3), (32, .slice oa34 r32.length cap35), (33, .agg #[.int .i64 12, .int .i64 0, .int .i64 2, .int .i64 1, .int .i64 0]), (34, .agg #[.int .i64 12, .int .i64 1, .int .i64 0, .int .i64 1, .int .i64 0]), (35, .agg #[.int .i64 1, .int .i64 0, .int .i64 0, .int .i64 1, .int .i64 0]), (36, .slice (some ⟨b40, 0, none⟩) ([(api_Event.mk 12 0 2 1 0), (api_Event.mk 12 1 0 1 0), (api_Event.mk 1 0 0 1 0)] : List api_Event).length 3)] a ∧ St w0 Nil [H31] [sla 23 5 (some ⟨b40, 0, none⟩) ([(api_Event.mk 12 0 2 1 0), (api_Event.mk 12 1 0 1 0), (api_Event.mk 1 0 0 1 0)] : List api_Event).length 3 [.int .i64 12, .int .i64 0, .int .i64 2, .int .i64 1, .int .i64 0, .int .i64 12, .int .i64 1, .int .i64 0, .int .i64 1, .int .i64 0, .int .i64 1, .int .i64 0, .int .i64 0, .int .i64 1, .int .i64 0], sla 23 5 oa34 r32.length cap35 vs36, sla 23 5 oa19 r17.1.length cap20 vs21, sla 23 5 oa12 r10.1.length cap13 vs14, blk b6 (.cells [.int .i64 1, .int .i64 0, .int .i64 0, .int .i64 1, .int .i64 0].toArray 23 (0, 0)), blk b5 (.cells [.int .i64 12, .int .i64 0, .int .i64 2, .int .i64 1, .int .i64 0].toArray 23 (0, 0)), blk b4 (.cells [.int .i64 12, .int .i64 1, .int .i64 0, .int .i64 1, .int .i64 0].toArray 23 (0, 0))] w ∧ Rows H31 vs36 r32) ?_ ?_
  ·
    intro hJ97
    refine da2 (i := 2) (j := 6) (by kernel_rfl) ?_ ?_
    ·
      refine di (i := 2) rfl <| c1 hF rfl Tryd.call29 (trace_Form_c (hp_le _) hc26 (St.srH hS (hr25.mono hx28.sub)) hc30 (St.srH hS hr29) h33) ⟨rfl, rfl, rfl, trivial⟩ (fun v w a hR hF => ?_)
      obtain ⟨oa34, cap35, vs36, rfl, hv37, hk⟩ := hR
      replace hS := hS.fresh hk
      clear hk
      replace hv37 := hv37 H31
      refine ⟨fun _ => (St.ldsX hS (fun _ _ h => h) (fun _ h => (.tail _ h))), ?_⟩
      refine da1 (i := 6) (by kernel_rfl) ?_
      refine di (i := 6) rfl <| a_bsl (e := 23) (sz := 5) [.int .i64 12, .int .i64 0, .int .i64 2, .int .i64 1, .int .i64 0, .int .i64 12, .int .i64 1, .int .i64 0, .int .i64 1, .int .i64 0, .int .i64 1, .int .i64 0, .int .i64 0, .int .i64 1, .int .i64 0] hF rfl hS rfl rfl rfl (fun w => by kernel_rfl) fun b40 w a hS hF => ?_
      refine ⟨fun _ => (St.ldsX hS (fun _ _ h => h) (fun _ h => (.tail _ (.tail _ h)))), ?_⟩
      exact wpD_list (by kernel_rfl) (hJ97 _ _ ⟨oa34, cap35, vs36, b40, hF.has ⟨rfl, rfl, rfl, rfl, rfl, rfl, rfl, rfl, rfl, rfl, rfl, rfl, rfl, rfl, rfl, trivial⟩, hS, hv37⟩)
    ·
      refine di (i := 6) rfl <| a_bsl (e := 23) (sz := 5) [.int .i64 12, .int .i64 0, .int .i64 2, .int .i64 1, .int .i64 0, .int .i64 12, .int .i64 1, .int .i64 0, .int .i64 1, .int .i64 0, .int .i64 1, .int .i64 0, .int .i64 0, .int .i64 1, .int .i64 0] hF rfl hS rfl rfl rfl (fun w => by kernel_rfl) fun b40 w a hS hF => ?_
      refine ⟨fun _ => (St.ldsX hS (fun _ _ h => h) (fun _ h => (.tail _ h))), ?_⟩
      refine da1 (i := 2) (by kernel_rfl) ?_
      refine di (i := 2) rfl <| c1 hF rfl Tryd.call29 (trace_Form_c (hp_le _) hc26 (St.srH hS (hr25.mono hx28.sub)) hc30 (St.srH hS hr29) h33) ⟨rfl, rfl, rfl, trivial⟩ (fun v w a hR hF => ?_)
      obtain ⟨oa34, cap35, vs36, rfl, hv37, hk⟩ := hR
      replace hS := hS.fresh hk
      clear hk
      replace hv37 := hv37 H31
      refine ⟨fun _ => (St.ldsX hS (fun _ _ h => h) (fun _ h => (.tail _ (.tail _ h)))), ?_⟩
      replace hS := hS.pickL (.cons (.tail .head) (.cons .head (.cons .head (.cons .head (.cons .head (.cons .head (.cons .head .nil)))))))
      exact wpD_list (by kernel_rfl) (hJ97 _ _ ⟨oa34, cap35, vs36, b40, hF.has ⟨rfl, rfl, rfl, rfl, rfl, rfl, rfl, rfl, rfl, rfl, rfl, rfl, rfl, rfl, rfl, trivial⟩, hS, hv37⟩)
  ·
    rintro a w ⟨oa34, cap35, vs36, b40, hF, hS, hv37⟩
    refine da1 (i := 7) (by kernel_rfl) ?_
    refine di (i := 7) rfl <| c1 hF rfl Tryd.call28 (leadlineref17_Equal_c (hp_le _) (St.capO hS (.tail _ (.head _))) (St.srO hS (.tail _ (.head _)) hv37) (St.capO hS (.head _)) (St.srO hS (.head _) hv39) h43) ⟨rfl, rfl, trivial⟩ (fun v w a hR hF => ?_)
    obtain ⟨rfl, hk⟩ := hR
    replace hS := hS.pass hk
    clear hk
    refine ⟨fun _ => (St.ldsX hS (fun _ _ h => h) (fun _ h => (.tail _ (.tail _ h)))), ?_⟩
    refine d1 (i := 8) rfl (by kernel_rfl) (by kernel_rfl) (St.ldsX hS (fun _ _ h => h) (fun _ h => (.tail _ (.tail _ h)))) hF rfl (fun _ _ _ h => h) (fun w hl => (e_as (e_move hF rfl) (congrArg Value.bool hb44))) fun a hF => ?_
    refine d1g (i := 9) rfl (by kernel_rfl) (by kernel_rfl) (St.ldsX hS (fun _ _ h => h) (fun _ h => (.tail _ (.tail _ h)))) hF rfl rfl rfl (fun _ _ _ h => h) (fun w hl => (e_move hF rfl)) fun a hF => ?_
    refine d1g (i := 10) rfl (by kernel_rfl) (by kernel_rfl) (St.ldsX hS (fun _ _ h => h) (fun _ h => (.tail _ (.tail _ h)))) hF rfl rfl rfl (fun _ _ _ h => h) (fun w hl => (e_move hF rfl)) fun a hF => ?_
    refine d1g (i := 11) rfl (by kernel_rfl) (by kernel_rfl) (St.ldsX hS (fun _ _ h => h) (fun _ h => (.tail _ (.tail _ h)))) hF rfl rfl rfl (fun _ _ _ h => h) (fun w hl => (e_move hF rfl)) fun a hF => ?_
    refine da1 (i := 12) (by kernel_rfl) ?_
    refine di (i := 12) rfl <| gy hF rfl rfl <| c1 hF rfl Tryd.call31 (trace_Same_c (hp_le _) hc26 (St.srH hS (hr25.mono hx28.sub)) (St.capO hS (.tail _ (.tail _ (.tail _ (.head _))))) (St.srO hS (.tail _ (.tail _ (.tail _ (.head _)))) (hv15.mono (fun b o h => hx28.sub b o (hx24.sub b o h)))) hc30 (St.srH hS hr29) h46) ⟨rfl, rfl, rfl, rfl, trivial⟩ (fun v w a hR hF => ?_)
    obtain ⟨rfl, hk⟩ := hR
    replace hS := hS.pass hk
    clear hk
    refine ⟨fun _ => (St.ldsX hS (fun _ _ h => h) (fun _ h => (.tail _ (.tail _ h)))), ?_⟩
    refine d1 (i := 13) rfl (by kernel_rfl) (by kernel_rfl) (St.ldsX hS (fun _ _ h => h) (fun _ h => (.tail _ (.tail _ h)))) hF rfl (fun _ _ _ h => h) (fun w hl => (e_pickT hF rfl rfl)) fun a hF => ?_
    refine d1 (i := 14) rfl (by kernel_rfl) (by kernel_rfl) (St.ldsX hS (fun _ _ h => h) (fun _ h => (.tail _ (.tail _ h)))) hF rfl (fun _ _ _ h => h) (fun w hl => (e_as (e_move hF rfl) (congrArg Value.bool hb47))) fun a hF => ?_
    refine d1g (i := 15) rfl (by kernel_rfl) (by kernel_rfl) (St.ldsX hS (fun _ _ h => h) (fun _ h => (.tail _ (.tail _ h)))) hF rfl rfl rfl (fun _ _ _ h => h) (fun w hl => (e_move hF rfl)) fun a hF => ?_
    refine d1g (i := 16) rfl (by kernel_rfl) (by kernel_rfl) (St.ldsX hS (fun _ _ h => h) (fun _ h => (.tail _ (.tail _ h)))) hF rfl rfl rfl (fun _ _ _ h => h) (fun w hl => (e_ldA hF Tryd.isAgg23 Tryd.sizeOf23 rfl rfl (hl.cellsB (.tail _ (.tail _ (.tail _ (.tail _ (.head _)))))))) fun a hF => ?_
    refine d1g (i := 17) rfl (by kernel_rfl) (by kernel_rfl) (St.ldsX hS (fun _ _ h => h) (fun _ h => (.tail _ (.tail _ h)))) hF rfl rfl rfl (fun _ _ _ h => h) (fun w hl => (e_ldA hF Tryd.isAgg23 Tryd.sizeOf23 rfl rfl (hl.cellsB (.tail _ (.tail _ (.head _)))))) fun a hF => ?_
    refine d1g (i := 18) rfl (by kernel_rfl) (by kernel_rfl) (St.ldsX hS (fun _ _ h => h) (fun _ h => (.tail _ (.tail _ h)))) hF rfl rfl rfl (fun _ _ _ h => h) (fun w hl => (e_ldA hF Tryd.isAgg23 Tryd.sizeOf23 rfl rfl (hl.cellsB (.tail _ (.tail _ (.tail _ (.head _))))))) fun a hF => ?_
    refine d1g (i := 20) rfl (by kernel_rfl) (by kernel_rfl) (St.ldsX hS (fun _ _ h => h) (fun _ h => (.tail _ (.tail _ h)))) hF rfl rfl rfl (fun _ _ _ h => h) (fun w hl => (e_move hF rfl)) fun a hF => ?_
    refine da1 (i := 19) (by kernel_rfl) ?_
    have hv48 : Rows (α := api_Event) H31 [.int .i64 12, .int .i64 1, .int .i64 0, .int .i64 1, .int .i64 0, .int .i64 1, .int .i64 0, .int .i64 0, .int .i64 1, .int .i64 0, .int .i64 12, .int .i64 0, .int .i64 2, .int .i64 1, .int .i64 0] ([(api_Event.mk 12 1 0 1 0), (api_Event.mk 1 0 0 1 0), (api_Event.mk 12 0 2 1 0)] : List api_Event) := (.cons (c := [.int .i64 12, .int .i64 1, .int .i64 0, .int .i64 1, .int .i64 0]) ⟨_, _, rfl, rfl, ⟨_, _, rfl, rfl, ⟨_, _, rfl, rfl, ⟨_, _, rfl, rfl, rfl⟩⟩⟩⟩ (.cons (c := [.int .i64 1, .int .i64 0, .int .i64 0, .int .i64 1, .int .i64 0]) ⟨_, _, rfl, rfl, ⟨_, _, rfl, rfl, ⟨_, _, rfl, rfl, ⟨_, _, rfl, rfl, rfl⟩⟩⟩⟩ (.cons (c := [.int .i64 12, .int .i64 0, .int .i64 2, .int .i64 1, .int .i64 0]) ⟨_, _, rfl, rfl, ⟨_, _, rfl, rfl, ⟨_, _, rfl, rfl, ⟨_, _, rfl, rfl, rfl⟩⟩⟩⟩ .nil)))
    refine di (i := 19) rfl <| gy hF rfl rfl <| a_bsl (e := 23) (sz := 5) [.int .i64 12, .int .i64 1, .int .i64 0, .int .i64 1, .int .i64 0, .int .i64 1, .int .i64 0, .int .i64 0, .int .i64 1, .int .i64 0, .int .i64 12, .int .i64 0, .int .i64 2, .int .i64 1, .int .i64 0] hF rfl hS rfl rfl rfl (fun w => by kernel_rfl) fun b49 w a hS hF => ?_
    refine ⟨fun _ => (St.ldsX hS (fun _ _ h => h) (fun _ h => (.tail _ (.tail _ (.tail _ h))))), ?_⟩
    refine da1 (i := 21) (by kernel_rfl) ?_
    refine di (i := 21) rfl <| gy hF rfl rfl <| c1 hF rfl Tryd.call31 (trace_Same_c (hp_le _) hc26 (St.srH hS (hr25.mono hx28.sub)) (St.capO hS (.head _)) (St.srO hS (.head _) hv48) hc30 (St.srH hS hr29) h52) ⟨rfl, rfl, rfl, rfl, trivial⟩ (fun v w a hR hF => ?_)
    obtain ⟨rfl, hk⟩ := hR
    replace hS := hS.pass hk
    clear hk
    refine ⟨fun _ => (St.ldsX hS (fun _ _ h => h) (fun _ h => (.tail _ (.tail _ (.tail _ h))))), ?_⟩
    refine d1g (i := 22) rfl (by kernel_rfl) (by kernel_rfl) (St.ldsX hS (fun _ _ h => h) (fun _ h => (.tail _ (.tail _ (.tail _ h))))) hF rfl rfl rfl (fun _ _ _ h => h) (fun w hl => (e_not hF rfl)) fun a hF => ?_
    refine d1 (i := 23) rfl (by kernel_rfl) (by kernel_rfl) (St.ldsX hS (fun _ _ h => h) (fun _ h => (.tail _ (.tail _ (.tail _ h))))) hF rfl (fun _ _ _ h => h) (fun w hl => (e_pickT hF rfl rfl)) fun a hF => ?_
    refine d1 (i := 24) rfl (by kernel_rfl) (by kernel_rfl) (St.ldsX hS (fun _ _ h => h) (fun _ h => (.tail _ (.tail _ (.tail _ h))))) hF rfl (fun _ _ _ h => h) (fun w hl => (e_as (e_move hF rfl) (congrArg Value.bool hb53))) fun a hF => ?_
    refine d1g (i := 25) rfl (by kernel_rfl) (by kernel_rfl) (St.ldsX hS (fun _ _ h => h) (fun _ h => (.tail _ (.tail _ (.tail _ h))))) hF rfl rfl rfl (fun _ _ _ h => h) (fun w hl => (e_move hF rfl)) fun a hF => ?_
    refine d1 (i := 26) rfl (by kernel_rfl) (by kernel_rfl) (St.ldsX hS (fun _ _ h => h) (fun _ h => (.tail _ (.tail _ (.tail _ h))))) hF rfl (fun _ _ _ h => h) (fun w hl => (e_pickT hF rfl rfl)) fun a hF => ?_
    refine d1 (i := 27) rfl (by kernel_rfl) (by kernel_rfl) (St.ldsX hS (fun _ _ h => h) (fun _ h => (.tail _ (.tail _ (.tail _ h))))) hF rfl (fun _ _ _ h => h) (fun w hl => (e_as (e_move hF rfl) (congrArg Value.bool hb54))) fun a hF => ?_
    refine d1g (i := 28) rfl (by kernel_rfl) (by kernel_rfl) (St.ldsX hS (fun _ _ h => h) (fun _ h => (.tail _ (.tail _ (.tail _ h))))) hF rfl rfl rfl (fun _ _ _ h => h) (fun w hl => (e_move hF rfl)) fun a hF => ?_
    refine d1g (i := 29) rfl (by kernel_rfl) (by kernel_rfl) (St.ldsX hS (fun _ _ h => h) (fun _ h => (.tail _ (.tail _ (.tail _ h))))) hF rfl rfl rfl (fun _ _ _ h => h) (fun w hl => (e_not hF rfl)) fun a hF => ?_
    refine d1 (i := 30) rfl (by kernel_rfl) (by kernel_rfl) (St.ldsX hS (fun _ _ h => h) (fun _ h => (.tail _ (.tail _ (.tail _ h))))) hF rfl (fun _ _ _ h => h) (fun w hl => (e_pickT hF rfl rfl)) fun a hF => ?_
    refine d1 (i := 31) rfl (by kernel_rfl) (by kernel_rfl) (St.ldsX hS (fun _ _ h => h) (fun _ h => (.tail _ (.tail _ (.tail _ h))))) hF rfl (fun _ _ _ h => h) (fun w hl => (e_as (e_move hF rfl) (congrArg Value.bool hb55))) fun a hF => ?_
    refine d1g (i := 32) rfl (by kernel_rfl) (by kernel_rfl) (St.ldsX hS (fun _ _ h => h) (fun _ h => (.tail _ (.tail _ (.tail _ h))))) hF rfl rfl rfl (fun _ _ _ h => h) (fun w hl => (e_move hF rfl)) fun a hF => ?_
    refine d1g (i := 33) rfl (by kernel_rfl) (by kernel_rfl) (St.ldsX hS (fun _ _ h => h) (fun _ h => (.tail _ (.tail _ (.tail _ h))))) hF rfl rfl rfl (fun _ _ _ h => h) (fun w hl => (e_ldA hF Tryd.isAgg23 Tryd.sizeOf23 rfl rfl (hl.cellsB (.tail _ (.tail _ (.tail _ (.head _))))))) fun a hF => ?_
    refine d1g (i := 34) rfl (by kernel_rfl) (by kernel_rfl) (St.ldsX hS (fun _ _ h => h) (fun _ h => (.tail _ (.tail _ (.tail _ h))))) hF rfl rfl rfl (fun _ _ _ h => h) (fun w hl => (e_ldA hF Tryd.isAgg23 Tryd.sizeOf23 rfl rfl (hl.cellsB (.tail _ (.tail _ (.tail _ (.tail _ (.head _)))))))) fun a hF => ?_
    refine d1g (i := 35) rfl (by kernel_rfl) (by kernel_rfl) (St.ldsX hS (fun _ _ h => h) (fun _ h => (.tail _ (.tail _ (.tail _ h))))) hF rfl rfl rfl (fun _ _ _ h => h) (fun w hl => (e_ldA hF Tryd.isAgg23 Tryd.sizeOf23 rfl rfl (hl.cellsB (.tail _ (.tail _ (.head _)))))) fun a hF => ?_
    refine da1 (i := 36) (by kernel_rfl) ?_
    have hv56 : Rows (α := api_Event) H31 [.int .i64 12, .int .i64 0, .int .i64 2, .int .i64 1, .int .i64 0, .int .i64 12, .int .i64 1, .int .i64 0, .int .i64 1, .int .i64 0, .int .i64 1, .int .i64 0, .int .i64 0, .int .i64 1, .int .i64 0] ([(api_Event.mk 12 0 2 1 0), (api_Event.mk 12 1 0 1 0), (api_Event.mk 1 0 0 1 0)] : List api_Event) := (.cons (c := [.int .i64 12, .int .i64 0, .int .i64 2, .int .i64 1, .int .i64 0]) ⟨_, _, rfl, rfl, ⟨_, _, rfl, rfl, ⟨_, _, rfl, rfl, ⟨_, _, rfl, rfl, rfl⟩⟩⟩⟩ (.cons (c := [.int .i64 12, .int .i64 1, .int .i64 0, .int .i64 1, .int .i64 0]) ⟨_, _, rfl, rfl, ⟨_, _, rfl, rfl, ⟨_, _, rfl, rfl, ⟨_, _, rfl, rfl, rfl⟩⟩⟩⟩ (.cons (c := [.int .i64 1, .int .i64 0, .int .i64 0, .int .i64 1, .int .i64 0]) ⟨_, _, rfl, rfl, ⟨_, _, rfl, rfl, ⟨_, _, rfl, rfl, ⟨_, _, rfl, rfl, rfl⟩⟩⟩⟩ .nil)))
    refine di (i := 36) rfl <| gy hF rfl rfl <| a_bsl (e := 23) (sz := 5) [.int .i64 12, .int .i64 0, .int .i64 2, .int .i64 1, .int .i64 0, .int .i64 12, .int .i64 1, .int .i64 0, .int .i64 1, .int .i64 0, .int .i64 1, .int .i64 0, .int .i64 0, .int .i64 1, .int .i64 0] hF rfl hS rfl rfl rfl (fun w => by kernel_rfl) fun b57 w a hS hF => ?_
    refine ⟨fun _ => (St.ldsX hS (fun _ _ h => h) (fun _ h => (.tail _ (.tail _ (.tail _ (.tail _ h)))))), ?_⟩
    refine da1 (i := 37) (by kernel_rfl) ?_
    refine di (i := 37) rfl <| gy hF rfl rfl <| c1 hF rfl Tryd.call28 (leadlineref17_Equal_c (hp_le _) (St.capO hS (.tail _ (.tail _ (.tail _ (.tail _ (.tail _ (.head _))))))) (St.srO hS (.tail _ (.tail _ (.tail _ (.tail _ (.tail _ (.head _)))))) (hv15.mono (fun b o h => hx28.sub b o (hx24.sub b o h)))) (St.capO hS (.head _)) (St.srO hS (.head _) hv56) h60) ⟨rfl, rfl, trivial⟩ (fun v w a hR hF => ?_)
    obtain ⟨rfl, hk⟩ := hR
    replace hS := hS.pass hk
    clear hk
    refine ⟨fun _ => (St.ldsX hS (fun _ _ h => h) (fun _ h => (.tail _ (.tail _ (.tail _ (.tail _ h)))))), ?_⟩
    refine d1 (i := 38) rfl (by kernel_rfl) (by kernel_rfl) (St.ldsX hS (fun _ _ h => h) (fun _ h => (.tail _ (.tail _ (.tail _ (.tail _ h)))))) hF rfl (fun _ _ _ h => h) (fun w hl => (e_pickT hF rfl rfl)) fun a hF => ?_
    refine d1 (i := 39) rfl (by kernel_rfl) (by kernel_rfl) (St.ldsX hS (fun _ _ h => h) (fun _ h => (.tail _ (.tail _ (.tail _ (.tail _ h)))))) hF rfl (fun _ _ _ h => h) (fun w hl => (e_as (e_move hF rfl) (congrArg Value.bool hb61))) fun a hF => ?_
    refine d1g (i := 40) rfl (by kernel_rfl) (by kernel_rfl) (St.ldsX hS (fun _ _ h => h) (fun _ h => (.tail _ (.tail _ (.tail _ (.tail _ h)))))) hF rfl rfl rfl (fun _ _ _ h => h) (fun w hl => (e_move hF rfl)) fun a hF => ?_
    refine d1g (i := 41) rfl (by kernel_rfl) (by kernel_rfl) (St.ldsX hS (fun _ _ h => h) (fun _ h => (.tail _ (.tail _ (.tail _ (.tail _ h)))))) hF rfl rfl rfl (fun _ _ _ h => h) (fun w hl => (e_move hF rfl)) fun a hF => ?_
    refine da1 (i := 42) (by kernel_rfl) ?_
    refine di (i := 42) rfl <| gy hF rfl rfl <| c1 hF rfl Tryd.call33 (trace_Key_c (hp_le _) (Tab.mono (Tab.mono hT (fun b o h => hx28.sub b o (hx24.sub b o h))) (St.up hS)) hc26 (St.srH hS (hr25.mono hx28.sub)) hc30 (St.srH hS hr29) h63) ⟨rfl, rfl, rfl, trivial⟩ (fun v w a hR hF => ?_)
    obtain ⟨rfl, hk⟩ := hR
    replace hS := hS.pass hk
    clear hk
    refine ⟨fun _ => (St.ldsX hS (fun _ _ h => h) (fun _ h => (.tail _ (.tail _ (.tail _ (.tail _ h)))))), ?_⟩
    refine d1g (i := 43) rfl (by kernel_rfl) (by kernel_rfl) (St.ldsX hS (fun _ _ h => h) (fun _ h => (.tail _ (.tail _ (.tail _ (.tail _ h)))))) hF rfl rfl rfl (fun _ _ _ h => h) (fun w hl => (e_eqlU (m := r62) (n := [48, 32, 99, 111, 109, 101, 32, 50, 32, 49, 10, 49, 32, 99, 111, 109, 101, 32, 48, 32, 49, 10, 48, 32, 108, 111, 97, 100, 32, 48, 32, 49, 10]) hF rfl rfl)) fun a hF => ?_
    refine d1 (i := 44) rfl (by kernel_rfl) (by kernel_rfl) (St.ldsX hS (fun _ _ h => h) (fun _ h => (.tail _ (.tail _ (.tail _ (.tail _ h)))))) hF rfl (fun _ _ _ h => h) (fun w hl => (e_pickT hF rfl rfl)) fun a hF => ?_
    refine d1 (i := 45) rfl (by kernel_rfl) (by kernel_rfl) (St.ldsX hS (fun _ _ h => h) (fun _ h => (.tail _ (.tail _ (.tail _ (.tail _ h)))))) hF rfl (fun _ _ _ h => h) (fun w hl => (e_as (e_move hF rfl) (congrArg Value.bool hb64))) fun a hF => ?_
    refine d1g (i := 46) rfl (by kernel_rfl) (by kernel_rfl) (St.ldsX hS (fun _ _ h => h) (fun _ h => (.tail _ (.tail _ (.tail _ (.tail _ h)))))) hF rfl rfl rfl (fun _ _ _ h => h) (fun w hl => (e_move hF rfl)) fun a hF => ?_
    refine d1g (i := 47) rfl (by kernel_rfl) (by kernel_rfl) (St.ldsX hS (fun _ _ h => h) (fun _ h => (.tail _ (.tail _ (.tail _ (.tail _ h)))))) hF rfl rfl rfl (fun _ _ _ h => h) (fun w hl => (e_move hF rfl)) fun a hF => ?_
    have hv74 : Rows (α := Int) H31 [.int .i64 0, .int .i64 1] ([0, 1] : List Int) := (.cons (c := [.int .i64 0]) rfl (.cons (c := [.int .i64 1]) rfl .nil))
    have hv77 : Rows (α := Int) H31 [.int .i64 2] ([2] : List Int) := (.cons (c := [.int .i64 2]) rfl .nil)
    refine cutD (k := 4) (L := #[true, true, true, true, true, true, true, true, true, true, true, true, true, true, true, true, true, true, true, true, true, true, true, true, true, true, true, true, true, true, true, true, true, true, true, true, true, true, true, true, true, true, true, true, true, true, true, true, true, true, true, true, false, false, false, false, false, false, false, false, false, false, false, false, false, false, false, false]) (fun a w => ∃ (H69 : PH) (oa70 : Option Addr) (cap71 : Nat) (b75 : Nat) (b78 : Nat) (b81 : Nat), Fr 97 [(1, .slice (some ⟨b2, 0, none⟩) ([0, 0, 1] : List Int).length 3), (30, .slice (some ⟨b8, 0, none⟩) ([(api_Event.mk 12 1 0 1 0), (api_Event.mk 12 0 2 1 0), (api_Event.mk 1 0 0 1 0)] : List api_Event).length 3), (31, .slice (some ⟨b2, 0, none⟩) ([0, 0, 1] : List Int).length 3), (32, .slice oa34 r32.length cap35), (33, .agg #[.int .i64 12, .int .i64 0, .int .i64 2, .int .i64 1, .int .i64 0]), (34, .agg #[.int .i64 12, .int .i64 1, .int .i64 0, .int .i64 1, .int .i64 0]), (35, .agg #[.int .i64 1, .int .i64 0, .int .i64 0, .int .i64 1, .int .i64 0]), (36, .slice (some ⟨b40, 0, none⟩) ([(api_Event.mk 12 0 2 1 0), (api_Event.mk 12 1 0 1 0), (api_Event.mk 1 0 0 1 0)] : List api_Event).length 3), (37, .bool r42), (38, .bool true), (39, .slice (some ⟨b8, 0, none⟩) ([(api_Event.mk 12 1 0 1 0), (api_Event.mk 12 0 2 1 0), (api_Event.mk 1 0 0 1 0)] : List api_Event).length 3), (40, .slice oa12 r10.1.length cap13), (41, .slice (some ⟨b2, 0, none⟩) ([0, 0, 1] : List Int).length 3), (42, .bool r45), (43, .bool r45), (44, .bool true), (45, .slice (some ⟨b8, 0, none⟩) ([(api_Event.mk 12 1 0 1 0), (api_Event.mk 12 0 2 1 0), (api_Event.mk 1 0 0 1 0)] : List api_Event).length 3), (46, .agg #[.int .i64 12, .int .i64 1, .int .i64 0, .int .i64 1, .int .i64 0]), (47, .agg #[.int .i64 1, .int .i64 0, .int .i64 0, .int .i64 1, .int .i64 0]), (48, .agg #[.int .i64 12, .int .i64 0, .int .i64 2, .int .i64 1, .int .i64 0]), (49, .slice (some ⟨b49, 0, none⟩) ([(api_Event.mk 12 1 0 1 0), (api_Event.mk 1 0 0 1 0), (api_Event.mk 12 0 2 1 0)] : List api_Event).length 3), (50, .slice (some ⟨b2, 0, none⟩) ([0, 0, 1] : List Int).length 3), (51, .bool r51), (52, .bool (!r51)), (53, .bool (!r51)), (54, .bool true), (55, .bool r10.2), (56, .bool r10.2), (57, .bool true), (58, .bool r17.2), (59, .bool (!r17.2)), (60, .bool (!r17.2)), (61, .bool true), (62, .slice oa12 r10.1.length cap13), (63, .agg #[.int .i64 12, .int .i64 0, .int .i64 2, .int .i64 1, .int .i64 0]), (64, .agg #[.int .i64 12, .int .i64 1, .int .i64 0, .int .i64 1, .int .i64 0]), (65, .agg #[.int .i64 1, .int .i64 0, .int .i64 0, .int .i64 1, .int .i64 0]), (66, .slice (some ⟨b57, 0, none⟩) ([(api_Event.mk 12 0 2 1 0), (api_Event.mk 12 1 0 1 0), (api_Event.mk 1 0 0 1 0)] : List api_Event).length 3), (67, .bool r59), (68, .bool r59), (69, .bool true), (70, .slice (some ⟨b8, 0, none⟩) ([(api_Event.mk 12 1 0 1 0), (api_Event.mk 12 0 2 1 0), (api_Event.mk 1 0 0 1 0)] : List api_Event).length 3), (71, .slice (some ⟨b2, 0, none⟩) ([0, 0, 1] : List Int).length 3), (72, strv r62), (73, .bool (decide (r62 = [48, 32, 99, 111, 109, 101, 32, 50, 32, 49, 10, 49, 32, 99, 111, 109, 101, 32, 48, 32, 49, 10, 48, 32, 108, 111, 97, 100, 32, 48, 32, 49, 10]))), (74, .bool (decide (r62 = [48, 32, 99, 111, 109, 101, 32, 50, 32, 49, 10, 49, 32, 99, 111, 109, 101, 32, 48, 32, 49, 10, 48, 32, 108, 111, 97, 100, 32, 48, 32, 49, 10]))), (75, .bool true), (76, .slice (some ⟨b8, 0, none⟩) ([(api_Event.mk 12 1 0 1 0), (api_Event.mk 12 0 2 1 0), (api_Event.mk 1 0 0 1 0)] : List api_Event).length 3), (77, .slice (some ⟨b2, 0, none⟩) ([0, 0, 1] : List Int).length 3), (78, .slice oa70 r65.length cap71), (79, .slice (some ⟨b75, 0, none⟩) ([0, 1] : List Int).length 2), (80, .slice (some ⟨b78, 0, none⟩) ([2] : List Int).length 1), (81, .slice (some ⟨b81, 0, none⟩) ([([0, 1] : List Int), ([2] : List Int)] : List (List Int)).length 2)] a ∧ St w0 Nil [H69] [bigA (rowA 3 1) ([⟨(some ⟨b75, 0, none⟩), ([0, 1] : List Int).length, 2, [.int .i64 0, .int .i64 1]⟩, ⟨(some ⟨b78, 0, none⟩), ([2] : List Int).length, 1, [.int .i64 2]⟩] : List RowQ), sla 25 1 (some ⟨b81, 0, none⟩) ([([0, 1] : List Int), ([2] : List Int)] : List (List Int)).length 2 (([⟨(some ⟨b75, 0, none⟩), ([0, 1] : List Int).length, 2, [.int .i64 0, .int .i64 1]⟩, ⟨(some ⟨b78, 0, none⟩), ([2] : List Int).length, 1, [.int .i64 2]⟩] : List RowQ).map rowV), sla 23 5 (some ⟨b57, 0, none⟩) ([(api_Event.mk 12 0 2 1 0), (api_Event.mk 12 1 0 1 0), (api_Event.mk 1 0 0 1 0)] : List api_Event).length 3 [.int .i64 12, .int .i64 0, .int .i64 2, .int .i64 1, .int .i64 0, .int .i64 12, .int .i64 1, .int .i64 0, .int .i64 1, .int .i64 0, .int .i64 1, .int .i64 0, .int .i64 0, .int .i64 1, .int .i64 0], sla 23 5 (some ⟨b49, 0, none⟩) ([(api_Event.mk 12 1 0 1 0), (api_Event.mk 1 0 0 1 0), (api_Event.mk 12 0 2 1 0)] : List api_Event).length 3 [.int .i64 12, .int .i64 1, .int .i64 0, .int .i64 1, .int .i64 0, .int .i64 1, .int .i64 0, .int .i64 0, .int .i64 1, .int .i64 0, .int .i64 12, .int .i64 0, .int .i64 2, .int .i64 1, .int .i64 0], sla 23 5 (some ⟨b40, 0, none⟩) ([(api_Event.mk 12 0 2 1 0), (api_Event.mk 12 1 0 1 0), (api_Event.mk 1 0 0 1 0)] : List api_Event).length 3 [.int .i64 12, .int .i64 0, .int .i64 2, .int .i64 1, .int .i64 0, .int .i64 12, .int .i64 1, .int .i64 0, .int .i64 1, .int .i64 0, .int .i64 1, .int .i64 0, .int .i64 0, .int .i64 1, .int .i64 0], sla 23 5 oa34 r32.length cap35 vs36, sla 23 5 oa19 r17.1.length cap20 vs21, sla 23 5 oa12 r10.1.length cap13 vs14, blk b6 (.cells [.int .i64 1, .int .i64 0, .int .i64 0, .int .i64 1, .int .i64 0].toArray 23 (0, 0)), blk b5 (.cells [.int .i64 12, .int .i64 0, .int .i64 2, .int .i64 1, .int .i64 0].toArray 23 (0, 0)), blk b4 (.cells [.int .i64 12, .int .i64 1, .int .i64 0, .int .i64 1, .int .i64 0].toArray 23 (0, 0))] w ∧ r65.length ≤ cap71 ∧ SR H69 oa70 r65 ∧ Ext w0 H31 H69 ∧ NR (α := Int) H31 ([⟨(some ⟨b75, 0, none⟩), ([0, 1] : List Int).length, 2, [.int .i64 0, .int .i64 1]⟩, ⟨(some ⟨b78, 0, none⟩), ([2] : List Int).length, 1, [.int .i64 2]⟩] : List RowQ) ([([0, 1] : List Int), ([2] : List Int)] : List (List Int))) ?_ ?_
    ·
      intro hJ98
      refine da3 (i := 48) (j := 49) (k := 50) (by kernel_rfl) ?_ ?_ ?_
      ·
        refine di (i := 48) rfl <| gy hF rfl rfl <| c1 hF rfl Tryd.call36 (trace_Steps_c (St.le hS) hc26 (hr25.mono hx28.sub) hc30 hr29 h66) ⟨rfl, rfl, rfl, trivial⟩ (fun v w a hR hF => ?_)
        obtain ⟨H69, oa70, cap71, rfl, hc72, hr73, hx67, hl68, hk⟩ := hR
        obtain ⟨hS, hx67⟩ := And.intro (St.passH hS hk hx67 hl68) (St.extc hS hx67)
        clear hk
        refine ⟨fun _ => (St.ldsX hS hx67.sub (fun _ h => (.tail _ (.tail _ (.tail _ (.tail _ h)))))), ?_⟩
        refine da2 (i := 49) (j := 50) (by kernel_rfl) ?_ ?_
        ·
          refine di (i := 49) rfl <| gy hF rfl rfl <| a_bsl (e := 3) (sz := 1) [.int .i64 0, .int .i64 1] hF rfl hS rfl rfl rfl (fun w => by kernel_rfl) fun b75 w a hS hF => ?_
          refine ⟨fun _ => (St.ldsX hS hx67.sub (fun _ h => (.tail _ (.tail _ (.tail _ (.tail _ (.tail _ h))))))), ?_⟩
          refine da1 (i := 50) (by kernel_rfl) ?_
          refine di (i := 50) rfl <| gy hF rfl rfl <| a_bsl (e := 3) (sz := 1) [.int .i64 2] hF rfl hS rfl rfl rfl (fun w => by kernel_rfl) fun b78 w a hS hF => ?_
          refine ⟨fun _ => (St.ldsX hS hx67.sub (fun _ h => (.tail _ (.tail _ (.tail _ (.tail _ (.tail _ (.tail _ h)))))))), ?_⟩
          refine da1 (i := 51) (by kernel_rfl) ?_
          refine di (i := 51) rfl <| gy hF rfl rfl <| a_bsl (e := 25) (sz := 1) [.slice (some ⟨b75, 0, none⟩) ([0, 1] : List Int).length 2, .slice (some ⟨b78, 0, none⟩) ([2] : List Int).length 1] hF rfl hS rfl rfl rfl (fun w => by kernel_rfl) fun b81 w a hS hF => ?_
          replace hS := hS.nilBig (rowA 3 1)
          replace hS := St.bigPush (f := rowA 3 1) (x := ⟨(some ⟨b75, 0, none⟩), ([0, 1] : List Int).length, 2, [.int .i64 0, .int .i64 1]⟩) hS (.tail (.tail (.tail .head))) .head
          replace hS := St.bigPush (f := rowA 3 1) (x := ⟨(some ⟨b78, 0, none⟩), ([2] : List Int).length, 1, [.int .i64 2]⟩) hS (.tail (.tail .head)) .head
          have hn80 : NR (α := Int) H31 ([⟨(some ⟨b75, 0, none⟩), ([0, 1] : List Int).length, 2, [.int .i64 0, .int .i64 1]⟩, ⟨(some ⟨b78, 0, none⟩), ([2] : List Int).length, 1, [.int .i64 2]⟩] : List RowQ) ([([0, 1] : List Int), ([2] : List Int)] : List (List Int)) := (.cons rfl hv74 (.cons rfl hv77 .nil))
          refine ⟨fun _ => (St.ldsX hS hx67.sub (fun _ h => (.tail _ (.tail _ (.tail _ (.tail _ (.tail _ (.tail _ h)))))))), ?_⟩
          exact wpD_list (by kernel_rfl) (hJ98 _ _ ⟨H69, oa70, cap71, b75, b78, b81, hF.has ⟨rfl, rfl, rfl, rfl, rfl, rfl, rfl, rfl, rfl, rfl, rfl, rfl, rfl, rfl, rfl, rfl, rfl, rfl, rfl, rfl, rfl, rfl, rfl, rfl, rfl, rfl, rfl, rfl, rfl, rfl, rfl, rfl, rfl, rfl, rfl, rfl, rfl, rfl, rfl, rfl, rfl, rfl, rfl, rfl, rfl, rfl, rfl, rfl, rfl, rfl, rfl, rfl, rfl, trivial⟩, hS, hc72, hr73, hx67, hn80⟩)
        ·
          refine di (i := 50) rfl <| gy hF rfl rfl <| a_bsl (e := 3) (sz := 1) [.int .i64 2] hF rfl hS rfl rfl rfl (fun w => by kernel_rfl) fun b78 w a hS hF => ?_
          refine ⟨fun _ => (St.ldsX hS hx67.sub (fun _ h => (.tail _ (.tail _ (.tail _ (.tail _ (.tail _ h))))))), ?_⟩
          refine da1 (i := 49) (by kernel_rfl) ?_
          refine di (i := 49) rfl <| gy hF rfl rfl <| a_bsl (e := 3) (sz := 1) [.int .i64 0, .int .i64 1] hF rfl hS rfl rfl rfl (fun w => by kernel_rfl) fun b75 w a hS hF => ?_
          refine ⟨fun _ => (St.ldsX hS hx67.sub (fun _ h => (.tail _ (.tail _ (.tail _ (.tail _ (.tail _ (.tail _ h)))))))), ?_⟩
          refine da1 (i := 51) (by kernel_rfl) ?_
          refine di (i := 51) rfl <| gy hF rfl rfl <| a_bsl (e := 25) (sz := 1) [.slice (some ⟨b75, 0, none⟩) ([0, 1] : List Int).length 2, .slice (some ⟨b78, 0, none⟩) ([2] : List Int).length 1] hF rfl hS rfl rfl rfl (fun w => by kernel_rfl) fun b81 w a hS hF => ?_
          replace hS := hS.nilBig (rowA 3 1)
          replace hS := St.bigPush (f := rowA 3 1) (x := ⟨(some ⟨b75, 0, none⟩), ([0, 1] : List Int).length, 2, [.int .i64 0, .int .i64 1]⟩) hS (.tail (.tail .head)) .head
          replace hS := St.bigPush (f := rowA 3 1) (x := ⟨(some ⟨b78, 0, none⟩), ([2] : List Int).length, 1, [.int .i64 2]⟩) hS (.tail (.tail .head)) .head
          have hn80 : NR (α := Int) H31 ([⟨(some ⟨b75, 0, none⟩), ([0, 1] : List Int).length, 2, [.int .i64 0, .int .i64 1]⟩, ⟨(some ⟨b78, 0, none⟩), ([2] : List Int).length, 1, [.int .i64 2]⟩] : List RowQ) ([([0, 1] : List Int), ([2] : List Int)] : List (List Int)) := (.cons rfl hv74 (.cons rfl hv77 .nil))
          refine ⟨fun _ => (St.ldsX hS hx67.sub (fun _ h => (.tail _ (.tail _ (.tail _ (.tail _ (.tail _ (.tail _ h)))))))), ?_⟩
          exact wpD_list (by kernel_rfl) (hJ98 _ _ ⟨H69, oa70, cap71, b75, b78, b81, hF.has ⟨rfl, rfl, rfl, rfl, rfl, rfl, rfl, rfl, rfl, rfl, rfl, rfl, rfl, rfl, rfl, rfl, rfl, rfl, rfl, rfl, rfl, rfl, rfl, rfl, rfl, rfl, rfl, rfl, rfl, rfl, rfl, rfl, rfl, rfl, rfl, rfl, rfl, rfl, rfl, rfl, rfl, rfl, rfl, rfl, rfl, rfl, rfl, rfl, rfl, rfl, rfl, rfl, rfl, trivial⟩, hS, hc72, hr73, hx67, hn80⟩)
      ·
        refine di (i := 49) rfl <| gy hF rfl rfl <| a_bsl (e := 3) (sz := 1) [.int .i64 0, .int .i64 1] hF rfl hS rfl rfl rfl (fun w => by kernel_rfl) fun b75 w a hS hF => ?_
        refine ⟨fun _ => (St.ldsX hS (fun _ _ h => h) (fun _ h => (.tail _ (.tail _ (.tail _ (.tail _ (.tail _ h))))))), ?_⟩
        refine da2 (i := 48) (j := 50) (by kernel_rfl) ?_ ?_
        ·
          refine di (i := 48) rfl <| gy hF rfl rfl <| c1 hF rfl Tryd.call36 (trace_Steps_c (St.le hS) hc26 (hr25.mono hx28.sub) hc30 hr29 h66) ⟨rfl, rfl, rfl, trivial⟩ (fun v w a hR hF => ?_)
          obtain ⟨H69, oa70, cap71, rfl, hc72, hr73, hx67, hl68, hk⟩ := hR
          obtain ⟨hS, hx67⟩ := And.intro (St.passH hS hk hx67 hl68) (St.extc hS hx67)
          clear hk
          refine ⟨fun _ => (St.ldsX hS hx67.sub (fun _ h => (.tail _ (.tail _ (.tail _ (.tail _ (.tail _ h))))))), ?_⟩
          refine da1 (i := 50) (by kernel_rfl) ?_
          refine di (i := 50) rfl <| gy hF rfl rfl <| a_bsl (e := 3) (sz := 1) [.int .i64 2] hF rfl hS rfl rfl rfl (fun w => by kernel_rfl) fun b78 w a hS hF => ?_
          refine ⟨fun _ => (St.ldsX hS hx67.sub (fun _ h => (.tail _ (.tail _ (.tail _ (.tail _ (.tail _ (.tail _ h)))))))), ?_⟩
          refine da1 (i := 51) (by kernel_rfl) ?_
          refine di (i := 51) rfl <| gy hF rfl rfl <| a_bsl (e := 25) (sz := 1) [.slice (some ⟨b75, 0, none⟩) ([0, 1] : List Int).length 2, .slice (some ⟨b78, 0, none⟩) ([2] : List Int).length 1] hF rfl hS rfl rfl rfl (fun w => by kernel_rfl) fun b81 w a hS hF => ?_
          replace hS := hS.nilBig (rowA 3 1)
          replace hS := St.bigPush (f := rowA 3 1) (x := ⟨(some ⟨b75, 0, none⟩), ([0, 1] : List Int).length, 2, [.int .i64 0, .int .i64 1]⟩) hS (.tail (.tail (.tail .head))) .head
          replace hS := St.bigPush (f := rowA 3 1) (x := ⟨(some ⟨b78, 0, none⟩), ([2] : List Int).length, 1, [.int .i64 2]⟩) hS (.tail (.tail .head)) .head
          have hn80 : NR (α := Int) H31 ([⟨(some ⟨b75, 0, none⟩), ([0, 1] : List Int).length, 2, [.int .i64 0, .int .i64 1]⟩, ⟨(some ⟨b78, 0, none⟩), ([2] : List Int).length, 1, [.int .i64 2]⟩] : List RowQ) ([([0, 1] : List Int), ([2] : List Int)] : List (List Int)) := (.cons rfl hv74 (.cons rfl hv77 .nil))
          refine ⟨fun _ => (St.ldsX hS hx67.sub (fun _ h => (.tail _ (.tail _ (.tail _ (.tail _ (.tail _ (.tail _ h)))))))), ?_⟩
          exact wpD_list (by kernel_rfl) (hJ98 _ _ ⟨H69, oa70, cap71, b75, b78, b81, hF.has ⟨rfl, rfl, rfl, rfl, rfl, rfl, rfl, rfl, rfl, rfl, rfl, rfl, rfl, rfl, rfl, rfl, rfl, rfl, rfl, rfl, rfl, rfl, rfl, rfl, rfl, rfl, rfl, rfl, rfl, rfl, rfl, rfl, rfl, rfl, rfl, rfl, rfl, rfl, rfl, rfl, rfl, rfl, rfl, rfl, rfl, rfl, rfl, rfl, rfl, rfl, rfl, rfl, rfl, trivial⟩, hS, hc72, hr73, hx67, hn80⟩)
        ·
          refine di (i := 50) rfl <| gy hF rfl rfl <| a_bsl (e := 3) (sz := 1) [.int .i64 2] hF rfl hS rfl rfl rfl (fun w => by kernel_rfl) fun b78 w a hS hF => ?_
          refine ⟨fun _ => (St.ldsX hS (fun _ _ h => h) (fun _ h => (.tail _ (.tail _ (.tail _ (.tail _ (.tail _ (.tail _ h)))))))), ?_⟩
          refine da2 (i := 48) (j := 51) (by kernel_rfl) ?_ ?_
          ·
            refine di (i := 48) rfl <| gy hF rfl rfl <| c1 hF rfl Tryd.call36 (trace_Steps_c (St.le hS) hc26 (hr25.mono hx28.sub) hc30 hr29 h66) ⟨rfl, rfl, rfl, trivial⟩ (fun v w a hR hF => ?_)
            obtain ⟨H69, oa70, cap71, rfl, hc72, hr73, hx67, hl68, hk⟩ := hR
            obtain ⟨hS, hx67⟩ := And.intro (St.passH hS hk hx67 hl68) (St.extc hS hx67)
            clear hk
            refine ⟨fun _ => (St.ldsX hS hx67.sub (fun _ h => (.tail _ (.tail _ (.tail _ (.tail _ (.tail _ (.tail _ h)))))))), ?_⟩
            refine da1 (i := 51) (by kernel_rfl) ?_
            refine di (i := 51) rfl <| gy hF rfl rfl <| a_bsl (e := 25) (sz := 1) [.slice (some ⟨b75, 0, none⟩) ([0, 1] : List Int).length 2, .slice (some ⟨b78, 0, none⟩) ([2] : List Int).length 1] hF rfl hS rfl rfl rfl (fun w => by kernel_rfl) fun b81 w a hS hF => ?_
            replace hS := hS.nilBig (rowA 3 1)
            replace hS := St.bigPush (f := rowA 3 1) (x := ⟨(some ⟨b75, 0, none⟩), ([0, 1] : List Int).length, 2, [.int .i64 0, .int .i64 1]⟩) hS (.tail (.tail (.tail .head))) .head
            replace hS := St.bigPush (f := rowA 3 1) (x := ⟨(some ⟨b78, 0, none⟩), ([2] : List Int).length, 1, [.int .i64 2]⟩) hS (.tail (.tail .head)) .head
            have hn80 : NR (α := Int) H31 ([⟨(some ⟨b75, 0, none⟩), ([0, 1] : List Int).length, 2, [.int .i64 0, .int .i64 1]⟩, ⟨(some ⟨b78, 0, none⟩), ([2] : List Int).length, 1, [.int .i64 2]⟩] : List RowQ) ([([0, 1] : List Int), ([2] : List Int)] : List (List Int)) := (.cons rfl hv74 (.cons rfl hv77 .nil))
            refine ⟨fun _ => (St.ldsX hS hx67.sub (fun _ h => (.tail _ (.tail _ (.tail _ (.tail _ (.tail _ (.tail _ h)))))))), ?_⟩
            exact wpD_list (by kernel_rfl) (hJ98 _ _ ⟨H69, oa70, cap71, b75, b78, b81, hF.has ⟨rfl, rfl, rfl, rfl, rfl, rfl, rfl, rfl, rfl, rfl, rfl, rfl, rfl, rfl, rfl, rfl, rfl, rfl, rfl, rfl, rfl, rfl, rfl, rfl, rfl, rfl, rfl, rfl, rfl, rfl, rfl, rfl, rfl, rfl, rfl, rfl, rfl, rfl, rfl, rfl, rfl, rfl, rfl, rfl, rfl, rfl, rfl, rfl, rfl, rfl, rfl, rfl, rfl, trivial⟩, hS, hc72, hr73, hx67, hn80⟩)
          ·
            refine di (i := 51) rfl <| gy hF rfl rfl <| a_bsl (e := 25) (sz := 1) [.slice (some ⟨b75, 0, none⟩) ([0, 1] : List Int).length 2, .slice (some ⟨b78, 0, none⟩) ([2] : List Int).length 1] hF rfl hS rfl rfl rfl (fun w => by kernel_rfl) fun b81 w a hS hF => ?_
            replace hS := hS.nilBig (rowA 3 1)
            replace hS := St.bigPush (f := rowA 3 1) (x := ⟨(some ⟨b75, 0, none⟩), ([0, 1] : List Int).length, 2, [.int .i64 0, .int .i64 1]⟩) hS (.tail (.tail (.tail .head))) .head
            replace hS := St.bigPush (f := rowA 3 1) (x := ⟨(some ⟨b78, 0, none⟩), ([2] : List Int).length, 1, [.int .i64 2]⟩) hS (.tail (.tail .head)) .head
            have hn80 : NR (α := Int) H31 ([⟨(some ⟨b75, 0, none⟩), ([0, 1] : List Int).length, 2, [.int .i64 0, .int .i64 1]⟩, ⟨(some ⟨b78, 0, none⟩), ([2] : List Int).length, 1, [.int .i64 2]⟩] : List RowQ) ([([0, 1] : List Int), ([2] : List Int)] : List (List Int)) := (.cons rfl hv74 (.cons rfl hv77 .nil))
            refine ⟨fun _ => (St.ldsX hS (fun _ _ h => h) (fun _ h => (.tail _ (.tail _ (.tail _ (.tail _ (.tail _ (.tail _ h)))))))), ?_⟩
            refine da1 (i := 48) (by kernel_rfl) ?_
            refine di (i := 48) rfl <| gy hF rfl rfl <| c1 hF rfl Tryd.call36 (trace_Steps_c (St.le hS) hc26 (hr25.mono hx28.sub) hc30 hr29 h66) ⟨rfl, rfl, rfl, trivial⟩ (fun v w a hR hF => ?_)
            obtain ⟨H69, oa70, cap71, rfl, hc72, hr73, hx67, hl68, hk⟩ := hR
            obtain ⟨hS, hx67⟩ := And.intro (St.passH hS hk hx67 hl68) (St.extc hS hx67)
            clear hk
            refine ⟨fun _ => (St.ldsX hS hx67.sub (fun _ h => (.tail _ (.tail _ (.tail _ (.tail _ (.tail _ (.tail _ h)))))))), ?_⟩
            exact wpD_list (by kernel_rfl) (hJ98 _ _ ⟨H69, oa70, cap71, b75, b78, b81, hF.has ⟨rfl, rfl, rfl, rfl, rfl, rfl, rfl, rfl, rfl, rfl, rfl, rfl, rfl, rfl, rfl, rfl, rfl, rfl, rfl, rfl, rfl, rfl, rfl, rfl, rfl, rfl, rfl, rfl, rfl, rfl, rfl, rfl, rfl, rfl, rfl, rfl, rfl, rfl, rfl, rfl, rfl, rfl, rfl, rfl, rfl, rfl, rfl, rfl, rfl, rfl, rfl, rfl, rfl, trivial⟩, hS, hc72, hr73, hx67, hn80⟩)
      ·
        refine di (i := 50) rfl <| gy hF rfl rfl <| a_bsl (e := 3) (sz := 1) [.int .i64 2] hF rfl hS rfl rfl rfl (fun w => by kernel_rfl) fun b78 w a hS hF => ?_
        refine ⟨fun _ => (St.ldsX hS (fun _ _ h => h) (fun _ h => (.tail _ (.tail _ (.tail _ (.tail _ (.tail _ h))))))), ?_⟩
        refine da2 (i := 48) (j := 49) (by kernel_rfl) ?_ ?_
        ·
          refine di (i := 48) rfl <| gy hF rfl rfl <| c1 hF rfl Tryd.call36 (trace_Steps_c (St.le hS) hc26 (hr25.mono hx28.sub) hc30 hr29 h66) ⟨rfl, rfl, rfl, trivial⟩ (fun v w a hR hF => ?_)
          obtain ⟨H69, oa70, cap71, rfl, hc72, hr73, hx67, hl68, hk⟩ := hR
          obtain ⟨hS, hx67⟩ := And.intro (St.passH hS hk hx67 hl68) (St.extc hS hx67)
          clear hk
          refine ⟨fun _ => (St.ldsX hS hx67.sub (fun _ h => (.tail _ (.tail _ (.tail _ (.tail _ (.tail _ h))))))), ?_⟩
          refine da1 (i := 49) (by kernel_rfl) ?_
          refine di (i := 49) rfl <| gy hF rfl rfl <| a_bsl (e := 3) (sz := 1) [.int .i64 0, .int .i64 1] hF rfl hS rfl rfl rfl (fun w => by kernel_rfl) fun b75 w a hS hF => ?_
          refine ⟨fun _ => (St.ldsX hS hx67.sub (fun _ h => (.tail _ (.tail _ (.tail _ (.tail _ (.tail _ (.tail _ h)))))))), ?_⟩
          refine da1 (i := 51) (by kernel_rfl) ?_
          refine di (i := 51) rfl <| gy hF rfl rfl <| a_bsl (e := 25) (sz := 1) [.slice (some ⟨b75, 0, none⟩) ([0, 1] : List Int).length 2, .slice (some ⟨b78, 0, none⟩) ([2] : List Int).length 1] hF rfl hS rfl rfl rfl (fun w => by kernel_rfl) fun b81 w a hS hF => ?_
          replace hS := hS.nilBig (rowA 3 1)
          replace hS := St.bigPush (f := rowA 3 1) (x := ⟨(some ⟨b75, 0, none⟩), ([0, 1] : List Int).length, 2, [.int .i64 0, .int .i64 1]⟩) hS (.tail (.tail .head)) .head
          replace hS := St.bigPush (f := rowA 3 1) (x := ⟨(some ⟨b78, 0, none⟩), ([2] : List Int).length, 1, [.int .i64 2]⟩) hS (.tail (.tail .head)) .head
          have hn80 : NR (α := Int) H31 ([⟨(some ⟨b75, 0, none⟩), ([0, 1] : List Int).length, 2, [.int .i64 0, .int .i64 1]⟩, ⟨(some ⟨b78, 0, none⟩), ([2] : List Int).length, 1, [.int .i64 2]⟩] : List RowQ) ([([0, 1] : List Int), ([2] : List Int)] : List (List Int)) := (.cons rfl hv74 (.cons rfl hv77 .nil))
          refine ⟨fun _ => (St.ldsX hS hx67.sub (fun _ h => (.tail _ (.tail _ (.tail _ (.tail _ (.tail _ (.tail _ h)))))))), ?_⟩
          exact wpD_list (by kernel_rfl) (hJ98 _ _ ⟨H69, oa70, cap71, b75, b78, b81, hF.has ⟨rfl, rfl, rfl, rfl, rfl, rfl, rfl, rfl, rfl, rfl, rfl, rfl, rfl, rfl, rfl, rfl, rfl, rfl, rfl, rfl, rfl, rfl, rfl, rfl, rfl, rfl, rfl, rfl, rfl, rfl, rfl, rfl, rfl, rfl, rfl, rfl, rfl, rfl, rfl, rfl, rfl, rfl, rfl, rfl, rfl, rfl, rfl, rfl, rfl, rfl, rfl, rfl, rfl, trivial⟩, hS, hc72, hr73, hx67, hn80⟩)
        ·
          refine di (i := 49) rfl <| gy hF rfl rfl <| a_bsl (e := 3) (sz := 1) [.int .i64 0, .int .i64 1] hF rfl hS rfl rfl rfl (fun w => by kernel_rfl) fun b75 w a hS hF => ?_
          refine ⟨fun _ => (St.ldsX hS (fun _ _ h => h) (fun _ h => (.tail _ (.tail _ (.tail _ (.tail _ (.tail _ (.tail _ h)))))))), ?_⟩
          refine da2 (i := 48) (j := 51) (by kernel_rfl) ?_ ?_
          ·
            refine di (i := 48) rfl <| gy hF rfl rfl <| c1 hF rfl Tryd.call36 (trace_Steps_c (St.le hS) hc26 (hr25.mono hx28.sub) hc30 hr29 h66) ⟨rfl, rfl, rfl, trivial⟩ (fun v w a hR hF => ?_)
            obtain ⟨H69, oa70, cap71, rfl, hc72, hr73, hx67, hl68, hk⟩ := hR
            obtain ⟨hS, hx67⟩ := And.intro (St.passH hS hk hx67 hl68) (St.extc hS hx67)
            clear hk
            refine ⟨fun _ => (St.ldsX hS hx67.sub (fun _ h => (.tail _ (.tail _ (.tail _ (.tail _ (.tail _ (.tail _ h)))))))), ?_⟩
            refine da1 (i := 51) (by kernel_rfl) ?_
            refine di (i := 51) rfl <| gy hF rfl rfl <| a_bsl (e := 25) (sz := 1) [.slice (some ⟨b75, 0, none⟩) ([0, 1] : List Int).length 2, .slice (some ⟨b78, 0, none⟩) ([2] : List Int).length 1] hF rfl hS rfl rfl rfl (fun w => by kernel_rfl) fun b81 w a hS hF => ?_
            replace hS := hS.nilBig (rowA 3 1)
            replace hS := St.bigPush (f := rowA 3 1) (x := ⟨(some ⟨b75, 0, none⟩), ([0, 1] : List Int).length, 2, [.int .i64 0, .int .i64 1]⟩) hS (.tail (.tail .head)) .head
            replace hS := St.bigPush (f := rowA 3 1) (x := ⟨(some ⟨b78, 0, none⟩), ([2] : List Int).length, 1, [.int .i64 2]⟩) hS (.tail (.tail .head)) .head
            have hn80 : NR (α := Int) H31 ([⟨(some ⟨b75, 0, none⟩), ([0, 1] : List Int).length, 2, [.int .i64 0, .int .i64 1]⟩, ⟨(some ⟨b78, 0, none⟩), ([2] : List Int).length, 1, [.int .i64 2]⟩] : List RowQ) ([([0, 1] : List Int), ([2] : List Int)] : List (List Int)) := (.cons rfl hv74 (.cons rfl hv77 .nil))
            refine ⟨fun _ => (St.ldsX hS hx67.sub (fun _ h => (.tail _ (.tail _ (.tail _ (.tail _ (.tail _ (.tail _ h)))))))), ?_⟩
            exact wpD_list (by kernel_rfl) (hJ98 _ _ ⟨H69, oa70, cap71, b75, b78, b81, hF.has ⟨rfl, rfl, rfl, rfl, rfl, rfl, rfl, rfl, rfl, rfl, rfl, rfl, rfl, rfl, rfl, rfl, rfl, rfl, rfl, rfl, rfl, rfl, rfl, rfl, rfl, rfl, rfl, rfl, rfl, rfl, rfl, rfl, rfl, rfl, rfl, rfl, rfl, rfl, rfl, rfl, rfl, rfl, rfl, rfl, rfl, rfl, rfl, rfl, rfl, rfl, rfl, rfl, rfl, trivial⟩, hS, hc72, hr73, hx67, hn80⟩)
          ·
            refine di (i := 51) rfl <| gy hF rfl rfl <| a_bsl (e := 25) (sz := 1) [.slice (some ⟨b75, 0, none⟩) ([0, 1] : List Int).length 2, .slice (some ⟨b78, 0, none⟩) ([2] : List Int).length 1] hF rfl hS rfl rfl rfl (fun w => by kernel_rfl) fun b81 w a hS hF => ?_
            replace hS := hS.nilBig (rowA 3 1)
            replace hS := St.bigPush (f := rowA 3 1) (x := ⟨(some ⟨b75, 0, none⟩), ([0, 1] : List Int).length, 2, [.int .i64 0, .int .i64 1]⟩) hS (.tail (.tail .head)) .head
            replace hS := St.bigPush (f := rowA 3 1) (x := ⟨(some ⟨b78, 0, none⟩), ([2] : List Int).length, 1, [.int .i64 2]⟩) hS (.tail (.tail .head)) .head
            have hn80 : NR (α := Int) H31 ([⟨(some ⟨b75, 0, none⟩), ([0, 1] : List Int).length, 2, [.int .i64 0, .int .i64 1]⟩, ⟨(some ⟨b78, 0, none⟩), ([2] : List Int).length, 1, [.int .i64 2]⟩] : List RowQ) ([([0, 1] : List Int), ([2] : List Int)] : List (List Int)) := (.cons rfl hv74 (.cons rfl hv77 .nil))
            refine ⟨fun _ => (St.ldsX hS (fun _ _ h => h) (fun _ h => (.tail _ (.tail _ (.tail _ (.tail _ (.tail _ (.tail _ h)))))))), ?_⟩
            refine da1 (i := 48) (by kernel_rfl) ?_
            refine di (i := 48) rfl <| gy hF rfl rfl <| c1 hF rfl Tryd.call36 (trace_Steps_c (St.le hS) hc26 (hr25.mono hx28.sub) hc30 hr29 h66) ⟨rfl, rfl, rfl, trivial⟩ (fun v w a hR hF => ?_)
            obtain ⟨H69, oa70, cap71, rfl, hc72, hr73, hx67, hl68, hk⟩ := hR
            obtain ⟨hS, hx67⟩ := And.intro (St.passH hS hk hx67 hl68) (St.extc hS hx67)
            clear hk
            refine ⟨fun _ => (St.ldsX hS hx67.sub (fun _ h => (.tail _ (.tail _ (.tail _ (.tail _ (.tail _ (.tail _ h)))))))), ?_⟩
            exact wpD_list (by kernel_rfl) (hJ98 _ _ ⟨H69, oa70, cap71, b75, b78, b81, hF.has ⟨rfl, rfl, rfl, rfl, rfl, rfl, rfl, rfl, rfl, rfl, rfl, rfl, rfl, rfl, rfl, rfl, rfl, rfl, rfl, rfl, rfl, rfl, rfl, rfl, rfl, rfl, rfl, rfl, rfl, rfl, rfl, rfl, rfl, rfl, rfl, rfl, rfl, rfl, rfl, rfl, rfl, rfl, rfl, rfl, rfl, rfl, rfl, rfl, rfl, rfl, rfl, rfl, rfl, trivial⟩, hS, hc72, hr73, hx67, hn80⟩)
    ·
      rintro a w ⟨H69, oa70, cap71, b75, b78, b81, hF, hS, hc72, hr73, hx67, hn80⟩
      refine da1 (i := 52) (by kernel_rfl) ?_
      refine di (i := 52) rfl <| gy hF rfl rfl <| c1 hF rfl Tryd.call35 (leadlineref11_Rows_c (hp_le _) hc72 (St.srH hS hr73) (St.capO hS (.tail _ (.head _))) (St.srN (iet := 3) (isz := 1) (qs := ([⟨(some ⟨b75, 0, none⟩), ([0, 1] : List Int).length, 2, [.int .i64 0, .int .i64 1]⟩, ⟨(some ⟨b78, 0, none⟩), ([2] : List Int).length, 1, [.int .i64 2]⟩] : List RowQ)) hS (.tail _ (.head _)) (.head _) (hn80.mono hx67.sub)) h84) ⟨rfl, rfl, trivial⟩ (fun v w a hR hF => ?_)
      obtain ⟨rfl, hk⟩ := hR
      replace hS := hS.pass hk
      clear hk
      refine ⟨fun _ => (St.ldsX hS hx67.sub (fun _ h => (.tail _ (.tail _ (.tail _ (.tail _ (.tail _ (.tail _ h)))))))), ?_⟩
      refine d1 (i := 53) rfl (by kernel_rfl) (by kernel_rfl) (St.ldsX hS hx67.sub (fun _ h => (.tail _ (.tail _ (.tail _ (.tail _ (.tail _ (.tail _ h)))))))) hF rfl (fun _ _ _ h => h) (fun w hl => (e_pickT hF rfl rfl)) fun a hF => ?_
      refine d1 (i := 54) rfl (by kernel_rfl) (by kernel_rfl) (St.ldsX hS hx67.sub (fun _ h => (.tail _ (.tail _ (.tail _ (.tail _ (.tail _ (.tail _ h)))))))) hF rfl (fun _ _ _ h => h) (fun w hl => (e_as (e_move hF rfl) (congrArg Value.bool hb85))) fun a hF => ?_
      refine d1g (i := 55) rfl (by kernel_rfl) (by kernel_rfl) (St.ldsX hS hx67.sub (fun _ h => (.tail _ (.tail _ (.tail _ (.tail _ (.tail _ (.tail _ h)))))))) hF rfl rfl rfl (fun _ _ _ h => h) (fun w hl => (e_move hF rfl)) fun a hF => ?_
      refine da1 (i := 56) (by kernel_rfl) ?_
      refine di (i := 56) rfl <| gy hF rfl rfl <| c1 hF rfl Tryd.call31 (trace_Same_c (hp_le _) (Nat.le_refl _) (SR.nil _ none) (Nat.le_refl _) (SR.nil _ none) hc30 (St.srH hS (hr29.mono hx67.sub)) h87) ⟨rfl, rfl, rfl, rfl, trivial⟩ (fun v w a hR hF => ?_)
      obtain ⟨rfl, hk⟩ := hR
      replace hS := hS.pass hk
      clear hk
      refine ⟨fun _ => (St.ldsX hS hx67.sub (fun _ h => (.tail _ (.tail _ (.tail _ (.tail _ (.tail _ (.tail _ h)))))))), ?_⟩
      refine d1 (i := 57) rfl (by kernel_rfl) (by kernel_rfl) (St.ldsX hS hx67.sub (fun _ h => (.tail _ (.tail _ (.tail _ (.tail _ (.tail _ (.tail _ h)))))))) hF rfl (fun _ _ _ h => h) (fun w hl => (e_pickT hF rfl rfl)) fun a hF => ?_
      refine d1 (i := 58) rfl (by kernel_rfl) (by kernel_rfl) (St.ldsX hS hx67.sub (fun _ h => (.tail _ (.tail _ (.tail _ (.tail _ (.tail _ (.tail _ h)))))))) hF rfl (fun _ _ _ h => h) (fun w hl => (e_as (e_move hF rfl) (congrArg Value.bool hb88))) fun a hF => ?_
      refine d1g (i := 59) rfl (by kernel_rfl) (by kernel_rfl) (St.ldsX hS hx67.sub (fun _ h => (.tail _ (.tail _ (.tail _ (.tail _ (.tail _ (.tail _ h)))))))) hF rfl rfl rfl (fun _ _ _ h => h) (fun w hl => (e_bldK [.int .i64 9] [.int .i64 0, .int .i64 9, .int .i64 0, .int .i64 0, .int .i64 0] hF ⟨rfl, trivial⟩ (fun w => by kernel_rfl))) fun a hF => ?_
      refine d1g (i := 61) rfl (by kernel_rfl) (by kernel_rfl) (St.ldsX hS hx67.sub (fun _ h => (.tail _ (.tail _ (.tail _ (.tail _ (.tail _ (.tail _ h)))))))) hF rfl rfl rfl (fun _ _ _ h => h) (fun w hl => (e_bldK [.int .i64 9] [.int .i64 0, .int .i64 9, .int .i64 0, .int .i64 0, .int .i64 0] hF ⟨rfl, trivial⟩ (fun w => by kernel_rfl))) fun a hF => ?_
      refine d1g (i := 63) rfl (by kernel_rfl) (by kernel_rfl) (St.ldsX hS hx67.sub (fun _ h => (.tail _ (.tail _ (.tail _ (.tail _ (.tail _ (.tail _ h)))))))) hF rfl rfl rfl (fun _ _ _ h => h) (fun w hl => (e_move hF rfl)) fun a hF => ?_
      have hv89 : Rows (α := api_Event) H31 [.int .i64 0, .int .i64 9, .int .i64 0, .int .i64 0, .int .i64 0] ([(api_Event.mk 0 9 0 0 0)] : List api_Event) := (.cons (c := [.int .i64 0, .int .i64 9, .int .i64 0, .int .i64 0, .int .i64 0]) ⟨_, _, rfl, rfl, ⟨_, _, rfl, rfl, ⟨_, _, rfl, rfl, ⟨_, _, rfl, rfl, rfl⟩⟩⟩⟩ .nil)
      have hv92 : Rows (α := api_Event) H31 [.int .i64 0, .int .i64 9, .int .i64 0, .int .i64 0, .int .i64 0] ([(api_Event.mk 0 9 0 0 0)] : List api_Event) := (.cons (c := [.int .i64 0, .int .i64 9, .int .i64 0, .int .i64 0, .int .i64 0]) ⟨_, _, rfl, rfl, ⟨_, _, rfl, rfl, ⟨_, _, rfl, rfl, ⟨_, _, rfl, rfl, rfl⟩⟩⟩⟩ .nil)
      refine cutD (k := 2) (L := #[true, true, true, true, true, true, true, true, true, true, true, true, true, true, true, true, true, true, true, true, true, true, true, true, true, true, true, true, true, true, true, true, true, true, true, true, true, true, true, true, true, true, true, true, true, true, true, true, true, true, true, true, true, true, true, true, true, true, true, true, true, true, true, true, false, false, false, false]) (fun a w => ∃ (b90 : Nat) (b93 : Nat), Fr 97 [(30, .slice (some ⟨b8, 0, none⟩) ([(api_Event.mk 12 1 0 1 0), (api_Event.mk 12 0 2 1 0), (api_Event.mk 1 0 0 1 0)] : List api_Event).length 3), (31, .slice (some ⟨b2, 0, none⟩) ([0, 0, 1] : List Int).length 3), (32, .slice oa34 r32.length cap35), (33, .agg #[.int .i64 12, .int .i64 0, .int .i64 2, .int .i64 1, .int .i64 0]), (34, .agg #[.int .i64 12, .int .i64 1, .int .i64 0, .int .i64 1, .int .i64 0]), (35, .agg #[.int .i64 1, .int .i64 0, .int .i64 0, .int .i64 1, .int .i64 0]), (36, .slice (some ⟨b40, 0, none⟩) ([(api_Event.mk 12 0 2 1 0), (api_Event.mk 12 1 0 1 0), (api_Event.mk 1 0 0 1 0)] : List api_Event).length 3), (37, .bool r42), (38, .bool true), (39, .slice (some ⟨b8, 0, none⟩) ([(api_Event.mk 12 1 0 1 0), (api_Event.mk 12 0 2 1 0), (api_Event.mk 1 0 0 1 0)] : List api_Event).length 3), (40, .slice oa12 r10.1.length cap13), (41, .slice (some ⟨b2, 0, none⟩) ([0, 0, 1] : List Int).length 3), (42, .bool r45), (43, .bool r45), (44, .bool true), (45, .slice (some ⟨b8, 0, none⟩) ([(api_Event.mk 12 1 0 1 0), (api_Event.mk 12 0 2 1 0), (api_Event.mk 1 0 0 1 0)] : List api_Event).length 3), (46, .agg #[.int .i64 12, .int .i64 1, .int .i64 0, .int .i64 1, .int .i64 0]), (47, .agg #[.int .i64 1, .int .i64 0, .int .i64 0, .int .i64 1, .int .i64 0]), (48, .agg #[.int .i64 12, .int .i64 0, .int .i64 2, .int .i64 1, .int .i64 0]), (49, .slice (some ⟨b49, 0, none⟩) ([(api_Event.mk 12 1 0 1 0), (api_Event.mk 1 0 0 1 0), (api_Event.mk 12 0 2 1 0)] : List api_Event).length 3), (50, .slice (some ⟨b2, 0, none⟩) ([0, 0, 1] : List Int).length 3), (51, .bool r51), (52, .bool (!r51)), (53, .bool (!r51)), (54, .bool true), (55, .bool r10.2), (56, .bool r10.2), (57, .bool true), (58, .bool r17.2), (59, .bool (!r17.2)), (60, .bool (!r17.2)), (61, .bool true), (62, .slice oa12 r10.1.length cap13), (63, .agg #[.int .i64 12, .int .i64 0, .int .i64 2, .int .i64 1, .int .i64 0]), (64, .agg #[.int .i64 12, .int .i64 1, .int .i64 0, .int .i64 1, .int .i64 0]), (65, .agg #[.int .i64 1, .int .i64 0, .int .i64 0, .int .i64 1, .int .i64 0]), (66, .slice (some ⟨b57, 0, none⟩) ([(api_Event.mk 12 0 2 1 0), (api_Event.mk 12 1 0 1 0), (api_Event.mk 1 0 0 1 0)] : List api_Event).length 3), (67, .bool r59), (68, .bool r59), (69, .bool true), (70, .slice (some ⟨b8, 0, none⟩) ([(api_Event.mk 12 1 0 1 0), (api_Event.mk 12 0 2 1 0), (api_Event.mk 1 0 0 1 0)] : List api_Event).length 3), (71, .slice (some ⟨b2, 0, none⟩) ([0, 0, 1] : List Int).length 3), (72, strv r62), (73, .bool (decide (r62 = [48, 32, 99, 111, 109, 101, 32, 50, 32, 49, 10, 49, 32, 99, 111, 109, 101, 32, 48, 32, 49, 10, 48, 32, 108, 111, 97, 100, 32, 48, 32, 49, 10]))), (74, .bool (decide (r62 = [48, 32, 99, 111, 109, 101, 32, 50, 32, 49, 10, 49, 32, 99, 111, 109, 101, 32, 48, 32, 49, 10, 48, 32, 108, 111, 97, 100, 32, 48, 32, 49, 10]))), (75, .bool true), (76, .slice (some ⟨b8, 0, none⟩) ([(api_Event.mk 12 1 0 1 0), (api_Event.mk 12 0 2 1 0), (api_Event.mk 1 0 0 1 0)] : List api_Event).length 3), (77, .slice (some ⟨b2, 0, none⟩) ([0, 0, 1] : List Int).length 3), (78, .slice oa70 r65.length cap71), (79, .slice (some ⟨b75, 0, none⟩) ([0, 1] : List Int).length 2), (80, .slice (some ⟨b78, 0, none⟩) ([2] : List Int).length 1), (81, .slice (some ⟨b81, 0, none⟩) ([([0, 1] : List Int), ([2] : List Int)] : List (List Int)).length 2), (82, .bool r83), (83, .bool r83), (84, .bool true), (85, .slice (some ⟨b2, 0, none⟩) ([0, 0, 1] : List Int).length 3), (86, .bool r86), (87, .bool r86), (88, .bool true), (89, .agg #[.int .i64 0, .int .i64 9, .int .i64 0, .int .i64 0, .int .i64 0]), (90, .slice (some ⟨b90, 0, none⟩) ([(api_Event.mk 0 9 0 0 0)] : List api_Event).length 1), (91, .agg #[.int .i64 0, .int .i64 9, .int .i64 0, .int .i64 0, .int .i64 0]), (92, .slice (some ⟨b93, 0, none⟩) ([(api_Event.mk 0 9 0 0 0)] : List api_Event).length 1), (93, .slice (some ⟨b2, 0, none⟩) ([0, 0, 1] : List Int).length 3)] a ∧ St w0 Nil [H69] [sla 23 5 (some ⟨b93, 0, none⟩) ([(api_Event.mk 0 9 0 0 0)] : List api_Event).length 1 [.int .i64 0, .int .i64 9, .int .i64 0, .int .i64 0, .int .i64 0], sla 23 5 (some ⟨b90, 0, none⟩) ([(api_Event.mk 0 9 0 0 0)] : List api_Event).length 1 [.int .i64 0, .int .i64 9, .int .i64 0, .int .i64 0, .int .i64 0], bigA (rowA 3 1) ([⟨(some ⟨b75, 0, none⟩), ([0, 1] : List Int).length, 2, [.int .i64 0, .int .i64 1]⟩, ⟨(some ⟨b78, 0, none⟩), ([2] : List Int).length, 1, [.int .i64 2]⟩] : List RowQ), sla 25 1 (some ⟨b81, 0, none⟩) ([([0, 1] : List Int), ([2] : List Int)] : List (List Int)).length 2 (([⟨(some ⟨b75, 0, none⟩), ([0, 1] : List Int).length, 2, [.int .i64 0, .int .i64 1]⟩, ⟨(some ⟨b78, 0, none⟩), ([2] : List Int).length, 1, [.int .i64 2]⟩] : List RowQ).map rowV), sla 23 5 (some ⟨b57, 0, none⟩) ([(api_Event.mk 12 0 2 1 0), (api_Event.mk 12 1 0 1 0), (api_Event.mk 1 0 0 1 0)] : List api_Event).length 3 [.int .i64 12, .int .i64 0, .int .i64 2, .int .i64 1, .int .i64 0, .int .i64 12, .int .i64 1, .int .i64 0, .int .i64 1, .int .i64 0, .int .i64 1, .int .i64 0, .int .i64 0, .int .i64 1, .int .i64 0], sla 23 5 (some ⟨b49, 0, none⟩) ([(api_Event.mk 12 1 0 1 0), (api_Event.mk 1 0 0 1 0), (api_Event.mk 12 0 2 1 0)] : List api_Event).length 3 [.int .i64 12, .int .i64 1, .int .i64 0, .int .i64 1, .int .i64 0, .int .i64 1, .int .i64 0, .int .i64 0, .int .i64 1, .int .i64 0, .int .i64 12, .int .i64 0, .int .i64 2, .int .i64 1, .int .i64 0], sla 23 5 (some ⟨b40, 0, none⟩) ([(api_Event.mk 12 0 2 1 0), (api_Event.mk 12 1 0 1 0), (api_Event.mk 1 0 0 1 0)] : List api_Event).length 3 [.int .i64 12, .int .i64 0, .int .i64 2, .int .i64 1, .int .i64 0, .int .i64 12, .int .i64 1, .int .i64 0, .int .i64 1, .int .i64 0, .int .i64 1, .int .i64 0, .int .i64 0, .int .i64 1, .int .i64 0], sla 23 5 oa34 r32.length cap35 vs36, sla 23 5 oa19 r17.1.length cap20 vs21, sla 23 5 oa12 r10.1.length cap13 vs14, blk b6 (.cells [.int .i64 1, .int .i64 0, .int .i64 0, .int .i64 1, .int .i64 0].toArray 23 (0, 0)), blk b5 (.cells [.int .i64 12, .int .i64 0, .int .i64 2, .int .i64 1, .int .i64 0].toArray 23 (0, 0)), blk b4 (.cells [.int .i64 12, .int .i64 1, .int .i64 0, .int .i64 1, .int .i64 0].toArray 23 (0, 0))] w) ?_ ?_
      ·
        intro hJ99
        refine da2 (i := 60) (j := 62) (by kernel_rfl) ?_ ?_
        ·
          refine di (i := 60) rfl <| gy hF rfl rfl <| a_bsl (e := 23) (sz := 5) [.int .i64 0, .int .i64 9, .int .i64 0, .int .i64 0, .int .i64 0] hF rfl hS rfl rfl rfl (fun w => by kernel_rfl) fun b90 w a hS hF => ?_
          refine ⟨fun _ => (St.ldsX hS hx67.sub (fun _ h => (.tail _ (.tail _ (.tail _ (.tail _ (.tail _ (.tail _ (.tail _ h))))))))), ?_⟩
          refine da1 (i := 62) (by kernel_rfl) ?_
          refine di (i := 62) rfl <| gy hF rfl rfl <| a_bsl (e := 23) (sz := 5) [.int .i64 0, .int .i64 9, .int .i64 0, .int .i64 0, .int .i64 0] hF rfl hS rfl rfl rfl (fun w => by kernel_rfl) fun b93 w a hS hF => ?_
          refine ⟨fun _ => (St.ldsX hS hx67.sub (fun _ h => (.tail _ (.tail _ (.tail _ (.tail _ (.tail _ (.tail _ (.tail _ (.tail _ h)))))))))), ?_⟩
          exact wpD_list (by kernel_rfl) (hJ99 _ _ ⟨b90, b93, hF.has ⟨rfl, rfl, rfl, rfl, rfl, rfl, rfl, rfl, rfl, rfl, rfl, rfl, rfl, rfl, rfl, rfl, rfl, rfl, rfl, rfl, rfl, rfl, rfl, rfl, rfl, rfl, rfl, rfl, rfl, rfl, rfl, rfl, rfl, rfl, rfl, rfl, rfl, rfl, rfl, rfl, rfl, rfl, rfl, rfl, rfl, rfl, rfl, rfl, rfl, rfl, rfl, rfl, rfl, rfl, rfl, rfl, rfl, rfl, rfl, rfl, rfl, rfl, rfl, rfl, trivial⟩, hS⟩)
        ·
          refine di (i := 62) rfl <| gy hF rfl rfl <| a_bsl (e := 23) (sz := 5) [.int .i64 0, .int .i64 9, .int .i64 0, .int .i64 0, .int .i64 0] hF rfl hS rfl rfl rfl (fun w => by kernel_rfl) fun b93 w a hS hF => ?_
          refine ⟨fun _ => (St.ldsX hS hx67.sub (fun _ h => (.tail _ (.tail _ (.tail _ (.tail _ (.tail _ (.tail _ (.tail _ h))))))))), ?_⟩
          refine da1 (i := 60) (by kernel_rfl) ?_
          refine di (i := 60) rfl <| gy hF rfl rfl <| a_bsl (e := 23) (sz := 5) [.int .i64 0, .int .i64 9, .int .i64 0, .int .i64 0, .int .i64 0] hF rfl hS rfl rfl rfl (fun w => by kernel_rfl) fun b90 w a hS hF => ?_
          refine ⟨fun _ => (St.ldsX hS hx67.sub (fun _ h => (.tail _ (.tail _ (.tail _ (.tail _ (.tail _ (.tail _ (.tail _ (.tail _ h)))))))))), ?_⟩
          replace hS := hS.pickL (.cons (.tail .head) (.cons .head (.cons .head (.cons .head (.cons .head (.cons .head (.cons .head (.cons .head (.cons .head (.cons .head (.cons .head (.cons .head (.cons .head .nil)))))))))))))
          exact wpD_list (by kernel_rfl) (hJ99 _ _ ⟨b90, b93, hF.has ⟨rfl, rfl, rfl, rfl, rfl, rfl, rfl, rfl, rfl, rfl, rfl, rfl, rfl, rfl, rfl, rfl, rfl, rfl, rfl, rfl, rfl, rfl, rfl, rfl, rfl, rfl, rfl, rfl, rfl, rfl, rfl, rfl, rfl, rfl, rfl, rfl, rfl, rfl, rfl, rfl, rfl, rfl, rfl, rfl, rfl, rfl, rfl, rfl, rfl, rfl, rfl, rfl, rfl, rfl, rfl, rfl, rfl, rfl, rfl, rfl, rfl, rfl, rfl, rfl, trivial⟩, hS⟩)
      ·
        rintro a w ⟨b90, b93, hF, hS⟩
        refine da1 (i := 64) (by kernel_rfl) ?_
        refine di (i := 64) rfl <| gy hF rfl rfl <| c1 hF rfl Tryd.call31 (trace_Same_c (hp_le _) (St.capO hS (.tail _ (.head _))) (St.srO hS (.tail _ (.head _)) (hv89.mono hx67.sub)) (St.capO hS (.head _)) (St.srO hS (.head _) (hv92.mono hx67.sub)) hc30 (St.srH hS (hr29.mono hx67.sub)) h96) ⟨rfl, rfl, rfl, rfl, trivial⟩ (fun v w a hR hF => ?_)
        obtain ⟨rfl, hk⟩ := hR
        replace hS := hS.pass hk
        clear hk
        refine ⟨fun _ => (St.ldsX hS hx67.sub (fun _ h => (.tail _ (.tail _ (.tail _ (.tail _ (.tail _ (.tail _ (.tail _ (.tail _ h)))))))))), ?_⟩
        refine d1g (i := 65) rfl (by kernel_rfl) (by kernel_rfl) (St.ldsX hS hx67.sub (fun _ h => (.tail _ (.tail _ (.tail _ (.tail _ (.tail _ (.tail _ (.tail _ (.tail _ h)))))))))) hF rfl rfl rfl (fun _ _ _ h => h) (fun w hl => (e_not hF rfl)) fun a hF => ?_
        refine d1 (i := 66) rfl (by kernel_rfl) (by kernel_rfl) (St.ldsX hS hx67.sub (fun _ h => (.tail _ (.tail _ (.tail _ (.tail _ (.tail _ (.tail _ (.tail _ (.tail _ h)))))))))) hF rfl (fun _ _ _ h => h) (fun w hl => (e_pickT hF rfl rfl)) fun a hF => ?_
        refine d1 (i := 67) rfl (by kernel_rfl) (by kernel_rfl) (St.ldsX hS hx67.sub (fun _ h => (.tail _ (.tail _ (.tail _ (.tail _ (.tail _ (.tail _ (.tail _ (.tail _ h)))))))))) hF rfl (fun _ _ _ h => h) (fun w hl => (e_asg hF rfl)) fun a hF => ?_
        refine de (by kernel_rfl) <| ?_
        refine tn <| ?_
        refine wp_ret <| ?_
        obtain rfl := Option.some.inj hm
        exact r1 hF Tryd.results38 rfl ⟨rfl, hS.keep⟩

set_option maxRecDepth 100000 in
theorem leadlinelaw17_threads_c {N : Nat} {w0 : World} {H : PH} (hH : H.le w0) {oa2 : Option Addr} {cap3 : Nat} {p1 : (List api_Event)} (hc4 : p1.length ≤ cap3) (hr5 : SR H oa2 p1) {r : (List api_Event)} (hm : leadlinelaw17_threads N p1 = some r) : Tot Tryd.prog 39 #[.slice oa2 p1.length cap3] w0 (fun v w' => ∃ (oa0 : Option Addr) (cap0 : Nat) (vs0 : List Value), v = .slice oa0 r.length cap0 ∧ (∀ h, Rows h vs0 r) ∧ Fresh w0 (sla 23 5 oa0 r.length cap0 vs0) w') := by
  unfold leadlinelaw17_threads at hm
  refine fn0 (args := [.slice oa2 p1.length cap3]) (F := [(0, .slice oa2 p1.length cap3)]) Tryd.func39 rfl Tryd.ntmps39 rfl rfl fun a hF => ?_
  have hS : St w0 Nil [H] [] w0 := start1 hH
  refine th <| ?_
  refine rg <| ?_
  refine ls <| q1 hF rfl (e_asg hF rfl) fun a hF => ?_
  refine re <| ?_
  refine tn <| th <| ?_
  refine rg <| ?_
  refine ls <| a_bsl (e := 23) (sz := 5) [] hF rfl hS rfl rfl rfl (fun w => by kernel_rfl) fun b7 w a hS hF => ?_
  have hv6 : Rows (α := api_Event) H [] [] := .nil
  refine ls <| q1 hF rfl (e_asg hF rfl) fun a hF => ?_
  refine re <| ?_
  refine tn <| th <| th <| ?_
  refine rg <| ?_
  refine ls <| q1 hF rfl (e_asg hF rfl) fun a hF => ?_
  refine re <| ?_
  refine tn <| midK (fun a w => ∃ (vA2 : (List api_Event)) (HA1 : PH) (oaA3 : Option Addr) (capA4 : Nat) (vsA5 : List Value), leadlinelaw17_threads_j1 vA2 = some r ∧ Ext w0 H HA1 ∧ Fr 30 [(3, .slice oaA3 vA2.length capA4)] a ∧ St w0 Nil [HA1] [sla 23 5 oaA3 vA2.length capA4 vsA5] w ∧ Rows HA1 vsA5 vA2) ?_ ?_
  ·
    refine wp_block <| lp (α := Nat × (List api_Event) × Int) (fun (gh : Nat × (List api_Event) × Int) a w => match gh with | (nn2, vB6, vB12) => ∃ (HB1 : PH) (oaB2 : Option Addr) (capB3 : Nat) (oaB7 : Option Addr) (capB8 : Nat) (vsB9 : List Value), (leadlinelaw17_threads_l2 N leadlinelaw17_threads_j1 p1) nn2 vB6 vB12 = some r ∧ Ext w0 H HB1 ∧ Fr 30 [(0, .slice oaB2 p1.length capB3), (3, .slice oaB7 vB6.length capB8), (4, .int .i64 vB12)] a ∧ St w0 Nil [HB1] [sla 23 5 oaB7 vB6.length capB8 vsB9] w ∧ p1.length ≤ capB3 ∧ SR HB1 oaB2 p1 ∧ Rows HB1 vsB9 vB6) (fun gh => gh.1) (N, [], 0) ⟨H, oa2, cap3, (some ⟨b7, 0, none⟩), 0, [], hm, (Ext.refl _ _), hF.has ⟨rfl, rfl, rfl, trivial⟩, hS, hc4, hr5, hv6⟩ ?_
    clear hm hF hS
    rintro ⟨nn2, vB6, vB12⟩ a w ⟨HB1, oaB2, capB3, oaB7, capB8, vsB9, hm, hxHB1, hF, hS, hcB4, hrB5, hvB10⟩
    obtain _ | nn2 := nn2
    · simp [leadlinelaw17_threads_l2] at hm
    rw [leadlinelaw17_threads_l2] at hm
    refine th <| th <| ?_
    refine rg <| ?_
    refine ls <| q1 hF rfl (e_move hF rfl) fun a hF => ?_
    refine ls <| q1 hF rfl (e_move hF rfl) fun a hF => ?_
    refine ls <| q1 hF rfl (e_lenL (α := api_Event) (xs := p1) hF Tryd.runUnderlying39 rfl) fun a hF => ?_
    refine ls <| q1 hF rfl (e_lss hF rfl rfl) fun a hF => ?_
    refine ls <| q1 hF rfl (e_move hF rfl) fun a hF => ?_
    refine grp (N := 30) (Fk := [(0, .slice oaB2 p1.length capB3), (3, .slice oaB7 vB6.length capB8), (4, .int .i64 vB12), (14, .bool ((decide (vB12 < (p1.length : Int))) && (decide (vB12 < 30))))]) (b := (decide (vB12 < (p1.length : Int)))) 3 hS ?_ ?_ ?_
    ·
      intro hb key
      replace hF := Fr.as hF (t := 11) rfl (congrArg Value.bool hb)
      refine ls <| gy hF rfl rfl <| q1 hF rfl (e_move hF rfl) fun a hF => ?_
      refine ls <| gy hF rfl rfl <| q1 hF rfl (e_lss hF rfl rfl) fun a hF => ?_
      refine ls <| q1 hF rfl (e_as (v' := .bool ((decide (vB12 < (p1.length : Int))) && (decide (vB12 < 30)))) (e_pickT hF rfl rfl) (by rw [hb]; rfl)) fun a hF => ?_
      exact key _ _ (hF.has ⟨rfl, rfl, rfl, rfl, trivial⟩) hS
    ·
      intro hb key
      replace hF := Fr.as hF (t := 11) rfl (congrArg Value.bool hb)
      refine ls <| gn hF rfl rfl rfl rfl fun a hF => ?_
      refine ls <| gn hF rfl rfl rfl rfl fun a hF => ?_
      refine ls <| q1 hF rfl (e_as (v' := .bool ((decide (vB12 < (p1.length : Int))) && (decide (vB12 < 30)))) (e_pickF hF rfl rfl) (by rw [hb]; rfl)) fun a hF => ?_
      exact key _ _ (hF.has ⟨rfl, rfl, rfl, rfl, trivial⟩) hS
    intro a w hF hS
    refine re <| ?_
    rcases bdich ((decide (vB12 < (p1.length : Int))) && (decide (vB12 < 30))) with hb9 | hb9
    ·
      replace hm := ite_t hm hb9
      refine tn <| ctv hF rfl hb9 <| wp_skip <| ?_
      refine tn <| th <| wp_block <| th <| ?_
      replace hm := bind_some hm
      obtain ⟨x10, h11, hm⟩ := hm
      obtain ⟨c12, g13, hl14⟩ := SR.get hrB5 h11
      obtain rfl := api_Event_open g13
      refine rg <| ?_
      refine ls <| q1 hF rfl (e_move hF rfl) fun a hF => ?_
      refine ls <| q1 hF rfl (e_move hF rfl) fun a hF => ?_
      refine ls <| q1 hF rfl (e_iaI hF Tryd.runUnderlying39 Tryd.sizeOf23 rfl rfl h11 (SR.oaI hrB5 (by decide) h11)) fun a hF => ?_
      refine ls <| q1 hF rfl (e_ldA hF Tryd.isAgg23 Tryd.sizeOf23 rfl rfl (fun j v hj => PH.le.cell (Lds.le (St.ld hS)) (hl14 j v hj))) fun a hF => ?_
      refine ls <| a_alloc (cs := [.int .i64 0, .int .i64 0, .int .i64 0, .int .i64 0, .int .i64 0].toArray) hF rfl hS Tryd.zeroValue23 rfl fun b15 w a hS hF => ?_
      refine ls <| s_blkA hF hS Tryd.sizeOf23 rfl rfl rfl rfl (one_cells rfl) .head fun w hS => ?_
      refine re <| ?_
      refine tn <| th <| ?_
      refine rg <| ?_
      refine ls <| q1 hF rfl (e_fa hF fa23_1 rfl) fun a hF => ?_
      refine ls <| q1 hF rfl (e_ld hF Tryd.isAgg3 rfl ((St.ld hS).cellB (.head _) rfl)) fun a hF => ?_
      refine ls <| q1 hF rfl (e_band hF rfl rfl) fun a hF => ?_
      refine ls <| q1 hF rfl (e_fa hF fa23_1 rfl) fun a hF => ?_
      refine ls <| s_blk hF hS Tryd.sizeOf3 rfl rfl rfl rfl .head (.succ .zero) fun w hS => ?_
      refine re <| ?_
      refine tn <| ?_
      replace hm := bind_some hm
      obtain ⟨l19, h20, hm⟩ := hm
      refine rg <| ?_
      refine ls <| q1 hF rfl (e_move hF rfl) fun a hF => ?_
      refine ls <| q1 hF rfl (e_ldA hF Tryd.isAgg23 Tryd.sizeOf23 rfl rfl ((St.ld hS).cellsB (.head _))) fun a hF => ?_
      refine ls <| a_bsl (e := 23) (sz := 5) [.int .i64 x10.Kind, .int .i64 (iand .i64 x10.T 7), .int .i64 x10.A, .int .i64 x10.N, .int .i64 x10.M] hF rfl hS rfl rfl rfl (fun w => by kernel_rfl) fun b17 w a hS hF => ?_
      have hv16 : Rows (α := api_Event) HB1 [.int .i64 x10.Kind, .int .i64 (iand .i64 x10.T 7), .int .i64 x10.A, .int .i64 x10.N, .int .i64 x10.M] ([(api_Event.mk x10.Kind (iand .i64 x10.T 7) x10.A x10.N x10.M)] : List api_Event) := (.cons (c := [.int .i64 x10.Kind, .int .i64 (iand .i64 x10.T 7), .int .i64 x10.A, .int .i64 x10.N, .int .i64 x10.M]) ⟨_, _, rfl, rfl, ⟨_, _, rfl, rfl, ⟨_, _, rfl, rfl, ⟨_, _, rfl, rfl, rfl⟩⟩⟩⟩ .nil)
      refine ls <| m_app (α := api_Event) (xs := vB6) (ys := ([(api_Event.mk x10.Kind (iand .i64 x10.T 7) x10.A x10.N x10.M)] : List api_Event)) hF rfl hS Tryd.underlying39 info23 rfl (by decide) rfl rfl rfl (.tail _ (.tail _ (.head _))) hvB10 (hS.rdO (.head _)) hv16 h20 fun oa21 cap22 vs23 w a hv24 hU hF => ?_
      replace hS := hU _ (.tail (.tail .head))
      clear hU
      replace hS := hS.drop .head
      refine ls <| q1 hF rfl (e_asg hF rfl) fun a hF => ?_
      refine re <| ?_
      refine bn <| tn <| ?_
      refine rg <| ?_
      refine ls <| q1 hF rfl (e_move hF rfl) fun a hF => ?_
      refine ls <| q1 hF rfl (e_add hF rfl rfl) fun a hF => ?_
      refine ls <| q1 hF rfl (e_asg hF rfl) fun a hF => ?_
      refine re <| ?_
      refine tn <| ?_
      replace hS := hS.pickL (.cons (.tail .head) .nil)
      exact ⟨(nn2, l19, (IntKind.i64.wrap (vB12 + 1))), ⟨HB1, oaB2, capB3, oa21, cap22, vs23, hm, hxHB1, hF.has ⟨rfl, rfl, rfl, trivial⟩, hS, hcB4, hrB5, hv24⟩, Nat.lt_succ_self _⟩
    ·
      replace hm := ite_f hm hb9
      refine tn <| cfv hF rfl hb9 <| ?_
      refine wp_exit <| tx <| tx <| bx <| ?_
      refine tn <| ?_
      exact ⟨vB6, HB1, oaB7, capB8, vsB9, hm, hxHB1, hF.has ⟨rfl, trivial⟩, hS, hvB10⟩
  clear hm hF hS
  rintro a w ⟨vA2, HA1, oaA3, capA4, vsA5, hm, hxHA1, hF, hS, hvA6⟩
  unfold leadlinelaw17_threads_j1 at hm
  refine th <| ?_
  refine rg <| ?_
  refine ls <| q1 hF rfl (e_move hF rfl) fun a hF => ?_
  refine ls <| q1 hF rfl (e_asg hF rfl) fun a hF => ?_
  refine re <| ?_
  refine tn <| ?_
  refine wp_ret <| ?_
  obtain rfl := Option.some.inj hm
  exact r1 hF Tryd.results39 rfl ⟨_, _, _, rfl, (fun _ => Rows.ind hvA6), hS.endFresh (.head _)⟩
end Go.LM.ET
