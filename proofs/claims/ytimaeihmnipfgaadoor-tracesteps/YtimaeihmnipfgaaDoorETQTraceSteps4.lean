/- Walks, lifted by program. No condition beyond each theorem's own premises. -/
import Derived.Test.YtimaeihmnipfgaaDoorETQTraceSteps3
namespace Go.LM.ET
open Go Go.LL Go.MD Go.LM Go.Proofs Go.MD.ET

set_option maxRecDepth 100000 in
theorem leadlinelaw17_TraceSteps_c {N : Nat} {w0 : World} {H : PH} (hH : H.le w0) (hT : Tab H) {oa2 : Option Addr} {cap3 : Nat} {p1 : (List api_Event)} (hc4 : p1.length ≤ cap3) (hr5 : SR H oa2 p1) {p6 : Int} {r : Bool} (hm : leadlinelaw17_TraceSteps N p1 p6 = some r) : Tot Tryd.prog 10 #[.slice oa2 p1.length cap3, .int .i64 p6] w0 (fun v w' => v = .bool r ∧ Keep Nil w0 w') := by
  unfold leadlinelaw17_TraceSteps at hm
  refine fn0 (args := [.slice oa2 p1.length cap3, .int .i64 p6]) (F := [(0, .slice oa2 p1.length cap3), (1, .int .i64 p6)]) Tryd.func10 rfl Tryd.ntmps10 rfl rfl fun a hF => ?_
  have hS : St w0 Nil [H] [] w0 := start1 hH
  refine th <| ?_
  refine rg <| ?_
  refine ls <| q1 hF rfl (e_asg hF rfl) fun a hF => ?_
  refine re <| ?_
  refine tn <| th <| ?_
  replace hm := bind_some hm
  obtain ⟨r7, h8, hm⟩ := hm
  refine rg <| ?_
  refine ls <| q1 hF rfl (e_move hF rfl) fun a hF => ?_
  refine ls <| c1 hF rfl Tryd.call39 (leadlinelaw17_threads_c (hp_le _) hc4 (St.srH hS hr5) h8) ⟨rfl, trivial⟩ (fun v w a hR hF => ?_)
  obtain ⟨oa9, cap10, vs11, rfl, hv12, hk⟩ := hR
  replace hS := hS.fresh hk
  clear hk
  replace hv12 := hv12 H
  refine ls <| q1 hF rfl (e_asg hF rfl) fun a hF => ?_
  refine re <| ?_
  refine tn <| th <| ?_
  refine rg <| ?_
  refine ls <| a_bsl (e := 3) (sz := 1) [.int .i64 0, .int .i64 0, .int .i64 1] hF rfl hS rfl rfl rfl (fun w => by kernel_rfl) fun b15 w a hS hF => ?_
  have hv14 : Rows (α := Int) H [.int .i64 0, .int .i64 0, .int .i64 1] ([0, 0, 1] : List Int) := (.cons (c := [.int .i64 0]) rfl (.cons (c := [.int .i64 0]) rfl (.cons (c := [.int .i64 1]) rfl .nil)))
  refine ls <| q1 hF rfl (e_asg hF rfl) fun a hF => ?_
  refine re <| ?_
  refine tn <| th <| ?_
  replace hm := bind_some hm
  obtain ⟨r25, h26, hm⟩ := hm
  refine rg <| ?_
  refine ls <| q1 hF rfl (e_move hF rfl) fun a hF => ?_
  refine ls <| q1 hF rfl (e_move hF rfl) fun a hF => ?_
  refine ls <| q1 hF rfl (e_move hF rfl) fun a hF => ?_
  obtain ⟨H20, hx17, hr18, hc19, hS⟩ := St.frzS hS (.tail .head) hv12
  obtain ⟨H24, hx21, hr22, hc23, hS⟩ := St.frzS hS .head (hv14.mono hx17.sub)
  refine ls <| c1 hF rfl Tryd.call36 (trace_Steps_c (St.le hS) hc19 (hr18.mono hx21.sub) hc23 hr22 h26) ⟨rfl, rfl, rfl, trivial⟩ (fun v w a hR hF => ?_)
  obtain ⟨H29, oa30, cap31, rfl, hc32, hr33, hx27, hl28, hk⟩ := hR
  obtain ⟨hS, hx27⟩ := And.intro (St.passH hS hk hx27 hl28) (St.extc hS hx27)
  clear hk
  refine ls <| q1 hF rfl (e_asg hF rfl) fun a hF => ?_
  refine ls <| q1 hF rfl (e_asg hF rfl) fun a hF => ?_
  refine re <| ?_
  refine tn <| th <| th <| ?_
  refine rg <| ?_
  refine ls <| q1 hF rfl (e_asg hF rfl) fun a hF => ?_
  refine re <| ?_
  refine tn <| midK (fun a w => ∃ (vA1 : Int), (leadlinelaw17_TraceSteps_j1 N r7) vA1 = some r ∧ Fr 149 [(0, .slice oa9 r7.length cap10), (7, .int .i64 vA1)] a ∧ St w0 Nil [H29] [] w) ?_ ?_
  ·
    refine wp_block <| lp (α := Nat × Int × Int) (fun (gh : Nat × Int × Int) a w => match gh with | (nn2, vB1, vB2) => (leadlinelaw17_TraceSteps_l2 N (leadlinelaw17_TraceSteps_j1 N r7) p6 r7 r25) nn2 vB1 vB2 = some r ∧ Fr 149 [(0, .slice oa9 r7.length cap10), (1, .int .i64 p6), (5, .slice (some ⟨b15, 0, none⟩) ([0, 0, 1] : List Int).length 3), (6, .slice oa30 r25.length cap31), (7, .int .i64 vB1), (8, .int .i64 vB2)] a ∧ St w0 Nil [H29] [] w) (fun gh => gh.1) (N, 0, 0) ⟨hm, hF.has ⟨rfl, rfl, rfl, rfl, rfl, rfl, trivial⟩, hS⟩ ?_
    clear hm hF hS
    rintro ⟨nn2, vB1, vB2⟩ a w ⟨hm, hF, hS⟩
    obtain _ | nn2 := nn2
    · simp [leadlinelaw17_TraceSteps_l2] at hm
    rw [leadlinelaw17_TraceSteps_l2] at hm
    refine th <| th <| ?_
    refine rg <| ?_
    refine ls <| q1 hF rfl (e_move hF rfl) fun a hF => ?_
    refine ls <| q1 hF rfl (e_move hF rfl) fun a hF => ?_
    refine ls <| q1 hF rfl (e_lenL (α := (List Int)) (xs := r25) hF Tryd.runUnderlying49 rfl) fun a hF => ?_
    refine ls <| q1 hF rfl (e_lss hF rfl rfl) fun a hF => ?_
    refine re <| ?_
    rcases bdich (decide (vB2 < (r25.length : Int))) with hb34 | hb34
    ·
      replace hm := itp_t hm hb34
      refine tn <| ctv hF rfl hb34 <| wp_skip <| ?_
      refine tn <| th <| midK (fun a w => ∃ (vC1 : Int), (leadlinelaw17_TraceSteps_j3 (leadlinelaw17_TraceSteps_l2 N (leadlinelaw17_TraceSteps_j1 N r7) p6 r7 r25 nn2) vB2) vC1 = some r ∧ Fr 149 [(0, .slice oa9 r7.length cap10), (1, .int .i64 p6), (5, .slice (some ⟨b15, 0, none⟩) ([0, 0, 1] : List Int).length 3), (6, .slice oa30 r25.length cap31), (7, .int .i64 vC1), (8, .int .i64 vB2)] a ∧ St w0 Nil [H29] [] w) ?_ ?_
      ·
        refine wp_block <| th <| ?_
        refine rg <| ?_
        refine ls <| q1 hF rfl (e_asg hF rfl) fun a hF => ?_
        refine re <| ?_
        refine tn <| wp_block <| lp (α := Nat × Int × Int) (fun (gh : Nat × Int × Int) a w => match gh with | (nn4, vD1, vD2) => (leadlinelaw17_TraceSteps_l4 N (leadlinelaw17_TraceSteps_j3 (leadlinelaw17_TraceSteps_l2 N (leadlinelaw17_TraceSteps_j1 N r7) p6 r7 r25 nn2) vB2) p6 r7 r25 vB2) nn4 vD1 vD2 = some r ∧ Fr 149 [(0, .slice oa9 r7.length cap10), (1, .int .i64 p6), (5, .slice (some ⟨b15, 0, none⟩) ([0, 0, 1] : List Int).length 3), (6, .slice oa30 r25.length cap31), (7, .int .i64 vD1), (8, .int .i64 vB2), (9, .int .i64 vD2)] a ∧ St w0 Nil [H29] [] w) (fun gh => gh.1) (N, vB1, 0) ⟨hm, hF.has ⟨rfl, rfl, rfl, rfl, rfl, rfl, rfl, trivial⟩, hS⟩ ?_
        clear hm hF hS
        rintro ⟨nn4, vD1, vD2⟩ a w ⟨hm, hF, hS⟩
        obtain _ | nn4 := nn4
        · simp [leadlinelaw17_TraceSteps_l4] at hm
        rw [leadlinelaw17_TraceSteps_l4] at hm
        refine th <| th <| ?_
        replace hm := bind_some hm
        obtain ⟨x35, h36, hm⟩ := hm
        obtain ⟨c37, g38, hl39⟩ := SR.get hr33 h36
        obtain ⟨oa40, cap41, rfl, hc42, hr43⟩ := g38
        refine rg <| ?_
        refine ls <| q1 hF rfl (e_move hF rfl) fun a hF => ?_
        refine ls <| q1 hF rfl (e_move hF rfl) fun a hF => ?_
        refine ls <| q1 hF rfl (e_move hF rfl) fun a hF => ?_
        refine ls <| q1 hF rfl (e_iaI hF Tryd.runUnderlying49 Tryd.sizeOf25 rfl rfl h36 (SR.oaI hr33 (by decide) h36)) fun a hF => ?_
        refine ls <| q1 hF rfl (e_ld hF Tryd.isAgg25 rfl (PH.le.cell (Lds.le (St.ld hS)) (hl39 0 _ rfl))) fun a hF => ?_
        refine ls <| q1 hF rfl (e_lenL (α := Int) (xs := x35) hF Tryd.runUnderlying25 rfl) fun a hF => ?_
        refine ls <| q1 hF rfl (e_lss hF rfl rfl) fun a hF => ?_
        refine re <| ?_
        rcases bdich (decide (vD2 < (x35.length : Int))) with hb44 | hb44
        ·
          replace hm := itp_t hm hb44
          refine tn <| ctv hF rfl hb44 <| wp_skip <| ?_
          refine tn <| th <| midK (fun a w => (leadlinelaw17_TraceSteps_j5 (leadlinelaw17_TraceSteps_l4 N (leadlinelaw17_TraceSteps_j3 (leadlinelaw17_TraceSteps_l2 N (leadlinelaw17_TraceSteps_j1 N r7) p6 r7 r25 nn2) vB2) p6 r7 r25 vB2 nn4) vD1 vD2) = some r ∧ Fr 149 [(0, .slice oa9 r7.length cap10), (1, .int .i64 p6), (5, .slice (some ⟨b15, 0, none⟩) ([0, 0, 1] : List Int).length 3), (6, .slice oa30 r25.length cap31), (7, .int .i64 (IntKind.i64.wrap (vD1 + 1))), (8, .int .i64 vB2), (9, .int .i64 vD2)] a ∧ St w0 Nil [H29] [] w) ?_ ?_
          ·
            refine wp_block <| th <| ?_
            replace hm := bind_some hm
            obtain ⟨x45, h46, hm⟩ := hm
            obtain ⟨c47, g48, hl49⟩ := SR.get hr43 h46
            obtain rfl : c47 = [.int .i64 x45] := g48
            refine rg <| ?_
            refine ls <| q1 hF rfl (e_move hF rfl) fun a hF => ?_
            refine ls <| q1 hF rfl (e_move hF rfl) fun a hF => ?_
            refine ls <| q1 hF rfl (e_iaI hF Tryd.runUnderlying49 Tryd.sizeOf25 rfl rfl h36 (SR.oaI hr33 (by decide) h36)) fun a hF => ?_
            refine ls <| q1 hF rfl (e_ld hF Tryd.isAgg25 rfl (PH.le.cell (Lds.le (St.ld hS)) (hl39 0 _ rfl))) fun a hF => ?_
            refine ls <| q1 hF rfl (e_move hF rfl) fun a hF => ?_
            refine ls <| q1 hF rfl (e_iaI hF Tryd.runUnderlying25 Tryd.sizeOf3 rfl rfl h46 (SR.oaI hr43 (by decide) h46)) fun a hF => ?_
            refine ls <| q1 hF rfl (e_ld hF Tryd.isAgg3 rfl (PH.le.cell (Lds.le (St.ld hS)) (hl49 0 _ rfl))) fun a hF => ?_
            refine ls <| q1 hF rfl (e_asg hF rfl) fun a hF => ?_
            refine re <| ?_
            refine tn <| th <| th <| midK (fun a w => ∃ (vF1 : Bool), (leadlinelaw17_TraceSteps_j6 N (leadlinelaw17_TraceSteps_j5 (leadlinelaw17_TraceSteps_l4 N (leadlinelaw17_TraceSteps_j3 (leadlinelaw17_TraceSteps_l2 N (leadlinelaw17_TraceSteps_j1 N r7) p6 r7 r25 nn2) vB2) p6 r7 r25 vB2 nn4) vD1 vD2) p6 r7 r25 x35 x45 vD2 vB2) vF1 = some r ∧ Fr 149 [(0, .slice oa9 r7.length cap10), (1, .int .i64 p6), (5, .slice (some ⟨b15, 0, none⟩) ([0, 0, 1] : List Int).length 3), (6, .slice oa30 r25.length cap31), (7, .int .i64 vD1), (8, .int .i64 vB2), (9, .int .i64 vD2), (10, .int .i64 x45), (66, .bool vF1)] a ∧ St w0 Nil [H29] [] w) ?_ ?_
            ·
              rcases bdich ((decide (x45 < 0)) || (decide ((r7.length : Int) ≤ x45))) with hb50 | hb50
              ·
                replace hm := ite_t hm hb50
                refine rg <| ?_
                refine ls <| q1 hF rfl (e_move hF rfl) fun a hF => ?_
                refine ls <| q1 hF rfl (e_lss hF rfl rfl) fun a hF => ?_
                refine ls <| q1 hF rfl (e_move hF rfl) fun a hF => ?_
                refine grp (N := 149) (Fk := [(0, .slice oa9 r7.length cap10), (1, .int .i64 p6), (5, .slice (some ⟨b15, 0, none⟩) ([0, 0, 1] : List Int).length 3), (6, .slice oa30 r25.length cap31), (7, .int .i64 vD1), (8, .int .i64 vB2), (9, .int .i64 vD2), (10, .int .i64 x45), (50, .bool ((decide (x45 < 0)) || (decide ((r7.length : Int) ≤ x45))))]) (b := (decide (x45 < 0))) 5 hS ?_ ?_ ?_
                ·
                  intro hb key
                  replace hF := Fr.as hF (t := 45) rfl (congrArg Value.bool hb)
                  refine ls <| gn hF rfl rfl rfl rfl fun a hF => ?_
                  refine ls <| gn hF rfl rfl rfl rfl fun a hF => ?_
                  refine ls <| gn hF rfl rfl rfl rfl fun a hF => ?_
                  refine ls <| gn hF rfl rfl rfl rfl fun a hF => ?_
                  refine ls <| q1 hF rfl (e_as (v' := .bool ((decide (x45 < 0)) || (decide ((r7.length : Int) ≤ x45)))) (e_pickT hF rfl rfl) (by rw [hb]; rfl)) fun a hF => ?_
                  exact key _ _ (hF.has ⟨rfl, rfl, rfl, rfl, rfl, rfl, rfl, rfl, rfl, trivial⟩) hS
                ·
                  intro hb key
                  replace hF := Fr.as hF (t := 45) rfl (congrArg Value.bool hb)
                  refine ls <| gy hF rfl rfl <| q1 hF rfl (e_move hF rfl) fun a hF => ?_
                  refine ls <| gy hF rfl rfl <| q1 hF rfl (e_move hF rfl) fun a hF => ?_
                  refine ls <| gy hF rfl rfl <| q1 hF rfl (e_lenL (α := api_Event) (xs := r7) hF Tryd.runUnderlying39 rfl) fun a hF => ?_
                  refine ls <| gy hF rfl rfl <| q1 hF rfl (e_geq hF rfl rfl) fun a hF => ?_
                  refine ls <| q1 hF rfl (e_as (v' := .bool ((decide (x45 < 0)) || (decide ((r7.length : Int) ≤ x45)))) (e_pickF hF rfl rfl) (by rw [hb]; rfl)) fun a hF => ?_
                  exact key _ _ (hF.has ⟨rfl, rfl, rfl, rfl, rfl, rfl, rfl, rfl, rfl, trivial⟩) hS
                intro a w hF hS
                refine ls <| q1 hF rfl (e_as (e_move hF rfl) (congrArg Value.bool hb50)) fun a hF => ?_
                refine ls <| gn hF rfl rfl rfl rfl fun a hF => ?_
                refine ls <| gn hF rfl rfl rfl rfl fun a hF => ?_
                refine ls <| gn hF rfl rfl rfl rfl fun a hF => ?_
                refine ls <| gnu hF rfl rfl rfl fun a hF => ?_
                refine ls <| gnu hF rfl rfl rfl fun a hF => ?_
                refine ls <| gnu hF rfl rfl rfl fun a hF => ?_
                refine ls <| gnu hF rfl rfl rfl fun a hF => ?_
                refine ls <| gnu hF rfl rfl rfl fun a hF => ?_
                refine ls <| gnu hF rfl rfl rfl fun a hF => ?_
                refine ls <| gnu hF rfl rfl rfl fun a hF => ?_
                refine ls <| gnu hF rfl rfl rfl fun a hF => ?_
                refine ls <| gnu hF rfl rfl rfl fun a hF => ?_
                refine ls <| gnu hF rfl rfl rfl fun a hF => ?_
                refine ls <| gn hF rfl rfl rfl rfl fun a hF => ?_
                refine ls <| q1 hF rfl (e_pickT hF rfl rfl) fun a hF => ?_
                refine re <| ?_
                refine tn <| ?_
                exact ⟨true, hm, hF.has ⟨rfl, rfl, rfl, rfl, rfl, rfl, rfl, rfl, rfl, trivial⟩, hS⟩
              ·
                replace hm := ite_f hm hb50
                rcases bdich (decide (0 < vD2)) with hb51 | hb51
                ·
                  replace hm := itp_t hm hb51
                  replace hm := bind_some hm
                  obtain ⟨x52, h53, hm⟩ := hm
                  obtain ⟨c54, g55, hl56⟩ := SR.get hr43 h53
                  obtain rfl : c54 = [.int .i64 x52] := g55
                  refine rg <| ?_
                  refine ls <| q1 hF rfl (e_move hF rfl) fun a hF => ?_
                  refine ls <| q1 hF rfl (e_lss hF rfl rfl) fun a hF => ?_
                  refine ls <| q1 hF rfl (e_move hF rfl) fun a hF => ?_
                  refine grp (N := 149) (Fk := [(0, .slice oa9 r7.length cap10), (1, .int .i64 p6), (5, .slice (some ⟨b15, 0, none⟩) ([0, 0, 1] : List Int).length 3), (6, .slice oa30 r25.length cap31), (7, .int .i64 vD1), (8, .int .i64 vB2), (9, .int .i64 vD2), (10, .int .i64 x45), (50, .bool ((decide (x45 < 0)) || (decide ((r7.length : Int) ≤ x45))))]) (b := (decide (x45 < 0))) 5 hS ?_ ?_ ?_
                  ·
                    intro hb key
                    replace hF := Fr.as hF (t := 45) rfl (congrArg Value.bool hb)
                    refine ls <| gn hF rfl rfl rfl rfl fun a hF => ?_
                    refine ls <| gn hF rfl rfl rfl rfl fun a hF => ?_
                    refine ls <| gn hF rfl rfl rfl rfl fun a hF => ?_
                    refine ls <| gn hF rfl rfl rfl rfl fun a hF => ?_
                    refine ls <| q1 hF rfl (e_as (v' := .bool ((decide (x45 < 0)) || (decide ((r7.length : Int) ≤ x45)))) (e_pickT hF rfl rfl) (by rw [hb]; rfl)) fun a hF => ?_
                    exact key _ _ (hF.has ⟨rfl, rfl, rfl, rfl, rfl, rfl, rfl, rfl, rfl, trivial⟩) hS
                  ·
                    intro hb key
                    replace hF := Fr.as hF (t := 45) rfl (congrArg Value.bool hb)
                    refine ls <| gy hF rfl rfl <| q1 hF rfl (e_move hF rfl) fun a hF => ?_
                    refine ls <| gy hF rfl rfl <| q1 hF rfl (e_move hF rfl) fun a hF => ?_
                    refine ls <| gy hF rfl rfl <| q1 hF rfl (e_lenL (α := api_Event) (xs := r7) hF Tryd.runUnderlying39 rfl) fun a hF => ?_
                    refine ls <| gy hF rfl rfl <| q1 hF rfl (e_geq hF rfl rfl) fun a hF => ?_
                    refine ls <| q1 hF rfl (e_as (v' := .bool ((decide (x45 < 0)) || (decide ((r7.length : Int) ≤ x45)))) (e_pickF hF rfl rfl) (by rw [hb]; rfl)) fun a hF => ?_
                    exact key _ _ (hF.has ⟨rfl, rfl, rfl, rfl, rfl, rfl, rfl, rfl, rfl, trivial⟩) hS
                  intro a w hF hS
                  refine ls <| q1 hF rfl (e_as (e_move hF rfl) (congrArg Value.bool hb50)) fun a hF => ?_
                  refine ls <| gy hF rfl rfl <| q1 hF rfl (e_move hF rfl) fun a hF => ?_
                  refine ls <| gy hF rfl rfl <| q1 hF rfl (e_gtr hF rfl rfl) fun a hF => ?_
                  refine ls <| gy hF rfl rfl <| q1 hF rfl (e_as (e_move hF rfl) (congrArg Value.bool hb51)) fun a hF => ?_
                  refine ls <| gy hF rfl rfl <| q1 hF rfl (e_move hF rfl) fun a hF => ?_
                  refine ls <| gy hF rfl rfl <| q1 hF rfl (e_move hF rfl) fun a hF => ?_
                  refine ls <| gy hF rfl rfl <| q1 hF rfl (e_iaI hF Tryd.runUnderlying49 Tryd.sizeOf25 rfl rfl h36 (SR.oaI hr33 (by decide) h36)) fun a hF => ?_
                  refine ls <| gy hF rfl rfl <| q1 hF rfl (e_ld hF Tryd.isAgg25 rfl (PH.le.cell (Lds.le (St.ld hS)) (hl39 0 _ rfl))) fun a hF => ?_
                  refine ls <| gy hF rfl rfl <| q1 hF rfl (e_move hF rfl) fun a hF => ?_
                  refine ls <| gy hF rfl rfl <| q1 hF rfl (e_sub hF rfl rfl) fun a hF => ?_
                  refine ls <| gy hF rfl rfl <| q1 hF rfl (e_iaI hF Tryd.runUnderlying25 Tryd.sizeOf3 rfl rfl h53 (SR.oaI hr43 (by decide) h53)) fun a hF => ?_
                  refine ls <| gy hF rfl rfl <| q1 hF rfl (e_ld hF Tryd.isAgg3 rfl (PH.le.cell (Lds.le (St.ld hS)) (hl56 0 _ rfl))) fun a hF => ?_
                  refine ls <| gy hF rfl rfl <| q1 hF rfl (e_move hF rfl) fun a hF => ?_
                  refine ls <| gy hF rfl rfl <| q1 hF rfl (e_geq hF rfl rfl) fun a hF => ?_
                  refine ls <| gy hF rfl rfl <| q1 hF rfl (e_pickT hF rfl rfl) fun a hF => ?_
                  refine ls <| q1 hF rfl (e_pickF hF rfl rfl) fun a hF => ?_
                  refine re <| ?_
                  refine tn <| ?_
                  exact ⟨(decide (x45 ≤ x52)), hm, hF.has ⟨rfl, rfl, rfl, rfl, rfl, rfl, rfl, rfl, rfl, trivial⟩, hS⟩
                ·
                  replace hm := itp_f hm hb51
                  refine rg <| ?_
                  refine ls <| q1 hF rfl (e_move hF rfl) fun a hF => ?_
                  refine ls <| q1 hF rfl (e_lss hF rfl rfl) fun a hF => ?_
                  refine ls <| q1 hF rfl (e_move hF rfl) fun a hF => ?_
                  refine grp (N := 149) (Fk := [(0, .slice oa9 r7.length cap10), (1, .int .i64 p6), (5, .slice (some ⟨b15, 0, none⟩) ([0, 0, 1] : List Int).length 3), (6, .slice oa30 r25.length cap31), (7, .int .i64 vD1), (8, .int .i64 vB2), (9, .int .i64 vD2), (10, .int .i64 x45), (50, .bool ((decide (x45 < 0)) || (decide ((r7.length : Int) ≤ x45))))]) (b := (decide (x45 < 0))) 5 hS ?_ ?_ ?_
                  ·
                    intro hb key
                    replace hF := Fr.as hF (t := 45) rfl (congrArg Value.bool hb)
                    refine ls <| gn hF rfl rfl rfl rfl fun a hF => ?_
                    refine ls <| gn hF rfl rfl rfl rfl fun a hF => ?_
                    refine ls <| gn hF rfl rfl rfl rfl fun a hF => ?_
                    refine ls <| gn hF rfl rfl rfl rfl fun a hF => ?_
                    refine ls <| q1 hF rfl (e_as (v' := .bool ((decide (x45 < 0)) || (decide ((r7.length : Int) ≤ x45)))) (e_pickT hF rfl rfl) (by rw [hb]; rfl)) fun a hF => ?_
                    exact key _ _ (hF.has ⟨rfl, rfl, rfl, rfl, rfl, rfl, rfl, rfl, rfl, trivial⟩) hS
                  ·
                    intro hb key
                    replace hF := Fr.as hF (t := 45) rfl (congrArg Value.bool hb)
                    refine ls <| gy hF rfl rfl <| q1 hF rfl (e_move hF rfl) fun a hF => ?_
                    refine ls <| gy hF rfl rfl <| q1 hF rfl (e_move hF rfl) fun a hF => ?_
                    refine ls <| gy hF rfl rfl <| q1 hF rfl (e_lenL (α := api_Event) (xs := r7) hF Tryd.runUnderlying39 rfl) fun a hF => ?_
                    refine ls <| gy hF rfl rfl <| q1 hF rfl (e_geq hF rfl rfl) fun a hF => ?_
                    refine ls <| q1 hF rfl (e_as (v' := .bool ((decide (x45 < 0)) || (decide ((r7.length : Int) ≤ x45)))) (e_pickF hF rfl rfl) (by rw [hb]; rfl)) fun a hF => ?_
                    exact key _ _ (hF.has ⟨rfl, rfl, rfl, rfl, rfl, rfl, rfl, rfl, rfl, trivial⟩) hS
                  intro a w hF hS
                  refine ls <| q1 hF rfl (e_as (e_move hF rfl) (congrArg Value.bool hb50)) fun a hF => ?_
                  refine ls <| gy hF rfl rfl <| q1 hF rfl (e_move hF rfl) fun a hF => ?_
                  refine ls <| gy hF rfl rfl <| q1 hF rfl (e_gtr hF rfl rfl) fun a hF => ?_
                  refine ls <| gy hF rfl rfl <| q1 hF rfl (e_as (e_move hF rfl) (congrArg Value.bool hb51)) fun a hF => ?_
                  refine ls <| gn hF rfl rfl rfl rfl fun a hF => ?_
                  refine ls <| gn hF rfl rfl rfl rfl fun a hF => ?_
                  refine ls <| gn hF rfl rfl rfl rfl fun a hF => ?_
                  refine ls <| gn hF rfl rfl rfl rfl fun a hF => ?_
                  refine ls <| gn hF rfl rfl rfl rfl fun a hF => ?_
                  refine ls <| gn hF rfl rfl rfl rfl fun a hF => ?_
                  refine ls <| gn hF rfl rfl rfl rfl fun a hF => ?_
                  refine ls <| gn hF rfl rfl rfl rfl fun a hF => ?_
                  refine ls <| gn hF rfl rfl rfl rfl fun a hF => ?_
                  refine ls <| gn hF rfl rfl rfl rfl fun a hF => ?_
                  refine ls <| gy hF rfl rfl <| q1 hF rfl (e_pickF hF rfl rfl) fun a hF => ?_
                  refine ls <| q1 hF rfl (e_pickF hF rfl rfl) fun a hF => ?_
                  refine re <| ?_
                  refine tn <| ?_
                  exact ⟨false, hm, hF.has ⟨rfl, rfl, rfl, rfl, rfl, rfl, rfl, rfl, rfl, trivial⟩, hS⟩
            clear hm hF hS
            rintro a w ⟨vF1, hm, hF, hS⟩
            unfold leadlinelaw17_TraceSteps_j6 at hm
            replace hm := bind_some hm
            obtain ⟨_, hb57, hm⟩ := hm
            replace hb57 := bnt (sure_some hb57)
            refine cfv hF rfl hb57 <| wp_skip <| ?_
            refine tn <| th <| ?_
            refine rg <| ?_
            refine ls <| q1 hF rfl (e_move hF rfl) fun a hF => ?_
            refine ls <| q1 hF rfl (e_add hF rfl rfl) fun a hF => ?_
            refine ls <| q1 hF rfl (e_asg hF rfl) fun a hF => ?_
            refine re <| ?_
            refine tn <| th <| th <| ?_
            refine rg <| ?_
            refine ls <| q1 hF rfl (e_asg hF rfl) fun a hF => ?_
            refine re <| ?_
            refine tn <| midK (fun a w => (leadlinelaw17_TraceSteps_j7 N (leadlinelaw17_TraceSteps_j5 (leadlinelaw17_TraceSteps_l4 N (leadlinelaw17_TraceSteps_j3 (leadlinelaw17_TraceSteps_l2 N (leadlinelaw17_TraceSteps_j1 N r7) p6 r7 r25 nn2) vB2) p6 r7 r25 vB2 nn4) vD1 vD2) p6 r7 r25 x45 vB2) = some r ∧ Fr 149 [(0, .slice oa9 r7.length cap10), (1, .int .i64 p6), (5, .slice (some ⟨b15, 0, none⟩) ([0, 0, 1] : List Int).length 3), (6, .slice oa30 r25.length cap31), (7, .int .i64 (IntKind.i64.wrap (vD1 + 1))), (8, .int .i64 vB2), (9, .int .i64 vD2), (10, .int .i64 x45)] a ∧ St w0 Nil [H29] [] w) ?_ ?_
            ·
              refine wp_block <| lp (α := Nat × Int) (fun (gh : Nat × Int) a w => match gh with | (nn8, vG1) => (leadlinelaw17_TraceSteps_l8 N (leadlinelaw17_TraceSteps_j7 N (leadlinelaw17_TraceSteps_j5 (leadlinelaw17_TraceSteps_l4 N (leadlinelaw17_TraceSteps_j3 (leadlinelaw17_TraceSteps_l2 N (leadlinelaw17_TraceSteps_j1 N r7) p6 r7 r25 nn2) vB2) p6 r7 r25 vB2 nn4) vD1 vD2) p6 r7 r25 x45 vB2) p6 r7 x35 x45 vD2) nn8 vG1 = some r ∧ Fr 149 [(0, .slice oa9 r7.length cap10), (1, .int .i64 p6), (5, .slice (some ⟨b15, 0, none⟩) ([0, 0, 1] : List Int).length 3), (6, .slice oa30 r25.length cap31), (7, .int .i64 (IntKind.i64.wrap (vD1 + 1))), (8, .int .i64 vB2), (9, .int .i64 vD2), (10, .int .i64 x45), (11, .int .i64 vG1)] a ∧ St w0 Nil [H29] [] w) (fun gh => gh.1) (N, 0) ⟨hm, hF.has ⟨rfl, rfl, rfl, rfl, rfl, rfl, rfl, rfl, rfl, trivial⟩, hS⟩ ?_
              clear hm hF hS
              rintro ⟨nn8, vG1⟩ a w ⟨hm, hF, hS⟩
              obtain _ | nn8 := nn8
              · simp [leadlinelaw17_TraceSteps_l8] at hm
              rw [leadlinelaw17_TraceSteps_l8] at hm
              refine th <| th <| ?_
              refine rg <| ?_
              refine ls <| q1 hF rfl (e_move hF rfl) fun a hF => ?_
              refine ls <| q1 hF rfl (e_move hF rfl) fun a hF => ?_
              refine ls <| q1 hF rfl (e_lss hF rfl rfl) fun a hF => ?_
              refine re <| ?_
              rcases bdich (decide (vG1 < vD2)) with hb58 | hb58
              ·
                replace hm := itp_t hm hb58
                refine tn <| ctv hF rfl hb58 <| wp_skip <| ?_
                refine tn <| th <| wp_block <| th <| ?_
                replace hm := bind_some hm
                obtain ⟨x59, h60, hm⟩ := hm
                obtain ⟨c61, g62, hl63⟩ := SR.get hr43 h60
                obtain rfl : c61 = [.int .i64 x59] := g62
                replace hm := bind_some hm
                obtain ⟨x64, h65, hm⟩ := hm
                obtain ⟨c66, g67, hl68⟩ := SR.get hr18 h65
                obtain rfl := api_Event_open g67
                replace hm := bind_some hm
                obtain ⟨x69, h70, hm⟩ := hm
                obtain ⟨c71, g72, hl73⟩ := SR.get hr18 h70
                obtain rfl := api_Event_open g72
                replace hm := bind_some hm
                obtain ⟨r74, h75, hm⟩ := hm
                refine rdS 17 hS wide fun w hS => ?_
                refine d1 (i := 0) rfl (by kernel_rfl) (by kernel_rfl) (St.ld hS) hF rfl (fun _ _ _ h => h) (fun w hl => (e_move hF rfl)) fun a hF => ?_
                refine d1 (i := 1) rfl (by kernel_rfl) (by kernel_rfl) (St.ld hS) hF rfl (fun _ _ _ h => h) (fun w hl => (e_move hF rfl)) fun a hF => ?_
                refine d1 (i := 2) rfl (by kernel_rfl) (by kernel_rfl) (St.ld hS) hF rfl (fun _ _ _ h => h) (fun w hl => (e_move hF rfl)) fun a hF => ?_
                refine d1 (i := 3) rfl (by kernel_rfl) (by kernel_rfl) (St.ld hS) hF rfl (fun _ _ _ h => h) (fun w hl => (e_iaI hF Tryd.runUnderlying49 Tryd.sizeOf25 rfl rfl h36 (SR.oaI hr33 (by decide) h36))) fun a hF => ?_
                refine d1 (i := 4) rfl (by kernel_rfl) (by kernel_rfl) (St.ld hS) hF rfl (fun _ _ _ h => h) (fun w hl => (e_ld hF Tryd.isAgg25 rfl (PH.le.cell (Lds.le hl) (hl39 0 _ rfl)))) fun a hF => ?_
                refine d1 (i := 5) rfl (by kernel_rfl) (by kernel_rfl) (St.ld hS) hF rfl (fun _ _ _ h => h) (fun w hl => (e_move hF rfl)) fun a hF => ?_
                refine d1 (i := 6) rfl (by kernel_rfl) (by kernel_rfl) (St.ld hS) hF rfl (fun _ _ _ h => h) (fun w hl => (e_iaI hF Tryd.runUnderlying25 Tryd.sizeOf3 rfl rfl h60 (SR.oaI hr43 (by decide) h60))) fun a hF => ?_
                refine d1 (i := 7) rfl (by kernel_rfl) (by kernel_rfl) (St.ld hS) hF rfl (fun _ _ _ h => h) (fun w hl => (e_ld hF Tryd.isAgg3 rfl (PH.le.cell (Lds.le hl) (hl63 0 _ rfl)))) fun a hF => ?_
                refine d1 (i := 8) rfl (by kernel_rfl) (by kernel_rfl) (St.ld hS) hF rfl (fun _ _ _ h => h) (fun w hl => (e_iaI hF Tryd.runUnderlying39 Tryd.sizeOf23 rfl rfl h65 (SR.oaI hr18 (by decide) h65))) fun a hF => ?_
                refine d1 (i := 9) rfl (by kernel_rfl) (by kernel_rfl) (St.ld hS) hF rfl (fun _ _ _ h => h) (fun w hl => (e_ldA hF Tryd.isAgg23 Tryd.sizeOf23 rfl rfl (fun j v hj => PH.le.cell (fun b o hx => (Lds.le hl) b o ((fun b o h => hx27.sub b o (hx21.sub b o h)) b o hx)) (hl68 j v hj)))) fun a hF => ?_
                refine d1 (i := 10) rfl (by kernel_rfl) (by kernel_rfl) (St.ld hS) hF rfl (fun _ _ _ h => h) (fun w hl => (e_move hF rfl)) fun a hF => ?_
                refine d1 (i := 11) rfl (by kernel_rfl) (by kernel_rfl) (St.ld hS) hF rfl (fun _ _ _ h => h) (fun w hl => (e_move hF rfl)) fun a hF => ?_
                refine d1 (i := 12) rfl (by kernel_rfl) (by kernel_rfl) (St.ld hS) hF rfl (fun _ _ _ h => h) (fun w hl => (e_iaI hF Tryd.runUnderlying39 Tryd.sizeOf23 rfl rfl h70 (SR.oaI hr18 (by decide) h70))) fun a hF => ?_
                refine d1 (i := 13) rfl (by kernel_rfl) (by kernel_rfl) (St.ld hS) hF rfl (fun _ _ _ h => h) (fun w hl => (e_ldA hF Tryd.isAgg23 Tryd.sizeOf23 rfl rfl (fun j v hj => PH.le.cell (fun b o hx => (Lds.le hl) b o ((fun b o h => hx27.sub b o (hx21.sub b o h)) b o hx)) (hl73 j v hj)))) fun a hF => ?_
                refine d1 (i := 14) rfl (by kernel_rfl) (by kernel_rfl) (St.ld hS) hF rfl (fun _ _ _ h => h) (fun w hl => (e_move hF rfl)) fun a hF => ?_
                refine d1 (i := 15) rfl (by kernel_rfl) (by kernel_rfl) (St.ld hS) hF rfl (fun _ _ _ h => h) (fun w hl => (e_move hF rfl)) fun a hF => ?_
                refine da1 (i := 16) (by kernel_rfl) ?_
                refine di (i := 16) rfl <| c1 hF rfl Tryd.call17 (leadlineref15_Depend_c (hp_le _) hc23 (St.srH hS (hr22.mono hx27.sub)) h75) ⟨rfl, rfl, rfl, rfl, trivial⟩ (fun v w a hR hF => ?_)
                obtain ⟨rfl, hk⟩ := hR
                replace hS := hS.pass hk
                clear hk
                refine ⟨fun _ => (St.ld hS), ?_⟩
                refine de (by kernel_rfl) <| ?_
                replace hm := bind_some hm
                obtain ⟨_, hb76, hm⟩ := hm
                replace hb76 := bnt (sure_some hb76)
                refine tn <| cfv hF rfl hb76 <| wp_skip <| ?_
                refine bn <| tn <| ?_
                refine rg <| ?_
                refine ls <| q1 hF rfl (e_move hF rfl) fun a hF => ?_
                refine ls <| q1 hF rfl (e_add hF rfl rfl) fun a hF => ?_
                refine ls <| q1 hF rfl (e_asg hF rfl) fun a hF => ?_
                refine re <| ?_
                refine tn <| ?_
                exact ⟨(nn8, (IntKind.i64.wrap (vG1 + 1))), ⟨hm, hF.has ⟨rfl, rfl, rfl, rfl, rfl, rfl, rfl, rfl, rfl, trivial⟩, hS⟩, Nat.lt_succ_self _⟩
              ·
                replace hm := itp_f hm hb58
                refine tn <| cfv hF rfl hb58 <| ?_
                refine wp_exit <| tx <| tx <| bx <| ?_
                refine tn <| ?_
                exact ⟨hm, hF.has ⟨rfl, rfl, rfl, rfl, rfl, rfl, rfl, rfl, trivial⟩, hS⟩
            clear hm hF hS
            rintro a w ⟨hm, hF, hS⟩
            unfold leadlinelaw17_TraceSteps_j7 at hm
            refine th <| ?_
            refine rg <| ?_
            refine ls <| q1 hF rfl (e_move hF rfl) fun a hF => ?_
            refine ls <| q1 hF rfl (e_eql hF rfl rfl) fun a hF => ?_
            refine ls <| q1 hF rfl (e_asg hF rfl) fun a hF => ?_
            refine re <| ?_
            refine tn <| th <| th <| ?_
            refine rg <| ?_
            refine ls <| q1 hF rfl (e_asg hF rfl) fun a hF => ?_
            refine re <| ?_
            refine tn <| midK (fun a w => ∃ (vF2 : Bool), (leadlinelaw17_TraceSteps_j9 (leadlinelaw17_TraceSteps_j5 (leadlinelaw17_TraceSteps_l4 N (leadlinelaw17_TraceSteps_j3 (leadlinelaw17_TraceSteps_l2 N (leadlinelaw17_TraceSteps_j1 N r7) p6 r7 r25 nn2) vB2) p6 r7 r25 vB2 nn4) vD1 vD2)) vF2 = some r ∧ Fr 149 [(0, .slice oa9 r7.length cap10), (1, .int .i64 p6), (5, .slice (some ⟨b15, 0, none⟩) ([0, 0, 1] : List Int).length 3), (6, .slice oa30 r25.length cap31), (7, .int .i64 (IntKind.i64.wrap (vD1 + 1))), (8, .int .i64 vB2), (9, .int .i64 vD2), (12, .bool vF2)] a ∧ St w0 Nil [H29] [] w) ?_ ?_
            ·
              refine wp_block <| lp (α := Nat × Bool × Int) (fun (gh : Nat × Bool × Int) a w => match gh with | (nn10, vG2, vG3) => (leadlinelaw17_TraceSteps_l10 N (leadlinelaw17_TraceSteps_j9 (leadlinelaw17_TraceSteps_j5 (leadlinelaw17_TraceSteps_l4 N (leadlinelaw17_TraceSteps_j3 (leadlinelaw17_TraceSteps_l2 N (leadlinelaw17_TraceSteps_j1 N r7) p6 r7 r25 nn2) vB2) p6 r7 r25 vB2 nn4) vD1 vD2)) p6 r7 r25 x45 vB2) nn10 vG2 vG3 = some r ∧ Fr 149 [(0, .slice oa9 r7.length cap10), (1, .int .i64 p6), (5, .slice (some ⟨b15, 0, none⟩) ([0, 0, 1] : List Int).length 3), (6, .slice oa30 r25.length cap31), (7, .int .i64 (IntKind.i64.wrap (vD1 + 1))), (8, .int .i64 vB2), (9, .int .i64 vD2), (10, .int .i64 x45), (12, .bool vG2), (13, .int .i64 vG3)] a ∧ St w0 Nil [H29] [] w) (fun gh => gh.1) (N, (decide (vB2 = 0)), 0) ⟨hm, hF.has ⟨rfl, rfl, rfl, rfl, rfl, rfl, rfl, rfl, rfl, rfl, trivial⟩, hS⟩ ?_
              clear hm hF hS
              rintro ⟨nn10, vG2, vG3⟩ a w ⟨hm, hF, hS⟩
              obtain _ | nn10 := nn10
              · simp [leadlinelaw17_TraceSteps_l10] at hm
              rw [leadlinelaw17_TraceSteps_l10] at hm
              refine th <| th <| midK (fun a w => ∃ (vH1 : Bool), (leadlinelaw17_TraceSteps_j11 N (leadlinelaw17_TraceSteps_j9 (leadlinelaw17_TraceSteps_j5 (leadlinelaw17_TraceSteps_l4 N (leadlinelaw17_TraceSteps_j3 (leadlinelaw17_TraceSteps_l2 N (leadlinelaw17_TraceSteps_j1 N r7) p6 r7 r25 nn2) vB2) p6 r7 r25 vB2 nn4) vD1 vD2)) (leadlinelaw17_TraceSteps_l10 N (leadlinelaw17_TraceSteps_j9 (leadlinelaw17_TraceSteps_j5 (leadlinelaw17_TraceSteps_l4 N (leadlinelaw17_TraceSteps_j3 (leadlinelaw17_TraceSteps_l2 N (leadlinelaw17_TraceSteps_j1 N r7) p6 r7 r25 nn2) vB2) p6 r7 r25 vB2 nn4) vD1 vD2)) p6 r7 r25 x45 vB2 nn10) p6 r7 r25 x45 vB2 vG2 vG3) vH1 = some r ∧ Fr 149 [(0, .slice oa9 r7.length cap10), (1, .int .i64 p6), (5, .slice (some ⟨b15, 0, none⟩) ([0, 0, 1] : List Int).length 3), (6, .slice oa30 r25.length cap31), (7, .int .i64 (IntKind.i64.wrap (vD1 + 1))), (8, .int .i64 vB2), (9, .int .i64 vD2), (10, .int .i64 x45), (12, .bool vG2), (13, .int .i64 vG3), (104, .bool vH1)] a ∧ St w0 Nil [H29] [] w) ?_ ?_
              ·
                rcases bdich (decide (0 < vB2)) with hb77 | hb77
                ·
                  replace hm := itp_t hm hb77
                  replace hm := bind_some hm
                  obtain ⟨x78, h79, hm⟩ := hm
                  obtain ⟨c80, g81, hl82⟩ := SR.get hr33 h79
                  obtain ⟨oa83, cap84, rfl, hc85, hr86⟩ := g81
                  refine rg <| ?_
                  refine ls <| q1 hF rfl (e_move hF rfl) fun a hF => ?_
                  refine ls <| q1 hF rfl (e_gtr hF rfl rfl) fun a hF => ?_
                  refine ls <| q1 hF rfl (e_as (e_move hF rfl) (congrArg Value.bool hb77)) fun a hF => ?_
                  refine ls <| gy hF rfl rfl <| q1 hF rfl (e_move hF rfl) fun a hF => ?_
                  refine ls <| gy hF rfl rfl <| q1 hF rfl (e_move hF rfl) fun a hF => ?_
                  refine ls <| gy hF rfl rfl <| q1 hF rfl (e_move hF rfl) fun a hF => ?_
                  refine ls <| gy hF rfl rfl <| q1 hF rfl (e_sub hF rfl rfl) fun a hF => ?_
                  refine ls <| gy hF rfl rfl <| q1 hF rfl (e_iaI hF Tryd.runUnderlying49 Tryd.sizeOf25 rfl rfl h79 (SR.oaI hr33 (by decide) h79)) fun a hF => ?_
                  refine ls <| gy hF rfl rfl <| q1 hF rfl (e_ld hF Tryd.isAgg25 rfl (PH.le.cell (Lds.le (St.ld hS)) (hl82 0 _ rfl))) fun a hF => ?_
                  refine ls <| gy hF rfl rfl <| q1 hF rfl (e_lenL (α := Int) (xs := x78) hF Tryd.runUnderlying25 rfl) fun a hF => ?_
                  refine ls <| gy hF rfl rfl <| q1 hF rfl (e_lss hF rfl rfl) fun a hF => ?_
                  refine ls <| q1 hF rfl (e_pickT hF rfl rfl) fun a hF => ?_
                  refine re <| ?_
                  refine tn <| ?_
                  exact ⟨(decide (vG3 < (x78.length : Int))), hm, hF.has ⟨rfl, rfl, rfl, rfl, rfl, rfl, rfl, rfl, rfl, rfl, rfl, trivial⟩, hS⟩
                ·
                  replace hm := itp_f hm hb77
                  refine rg <| ?_
                  refine ls <| q1 hF rfl (e_move hF rfl) fun a hF => ?_
                  refine ls <| q1 hF rfl (e_gtr hF rfl rfl) fun a hF => ?_
                  refine ls <| q1 hF rfl (e_as (e_move hF rfl) (congrArg Value.bool hb77)) fun a hF => ?_
                  refine ls <| gn hF rfl rfl rfl rfl fun a hF => ?_
                  refine ls <| gn hF rfl rfl rfl rfl fun a hF => ?_
                  refine ls <| gn hF rfl rfl rfl rfl fun a hF => ?_
                  refine ls <| gn hF rfl rfl rfl rfl fun a hF => ?_
                  refine ls <| gn hF rfl rfl rfl rfl fun a hF => ?_
                  refine ls <| gn hF rfl rfl rfl rfl fun a hF => ?_
                  refine ls <| gn hF rfl rfl rfl rfl fun a hF => ?_
                  refine ls <| gn hF rfl rfl rfl rfl fun a hF => ?_
                  refine ls <| q1 hF rfl (e_pickF hF rfl rfl) fun a hF => ?_
                  refine re <| ?_
                  refine tn <| ?_
                  exact ⟨false, hm, hF.has ⟨rfl, rfl, rfl, rfl, rfl, rfl, rfl, rfl, rfl, rfl, rfl, trivial⟩, hS⟩
              clear hm hF hS
              rintro a w ⟨vH1, hm, hF, hS⟩
              unfold leadlinelaw17_TraceSteps_j11 at hm
              rcases bdich vH1 with hb87 | hb87
              ·
                replace hm := ite_t hm hb87
                refine ctv hF rfl hb87 <| wp_skip <| ?_
                refine tn <| th <| midK (fun a w => ∃ (vH2 : Bool), (leadlinelaw17_TraceSteps_j12 (leadlinelaw17_TraceSteps_l10 N (leadlinelaw17_TraceSteps_j9 (leadlinelaw17_TraceSteps_j5 (leadlinelaw17_TraceSteps_l4 N (leadlinelaw17_TraceSteps_j3 (leadlinelaw17_TraceSteps_l2 N (leadlinelaw17_TraceSteps_j1 N r7) p6 r7 r25 nn2) vB2) p6 r7 r25 vB2 nn4) vD1 vD2)) p6 r7 r25 x45 vB2 nn10) vG3) vH2 = some r ∧ Fr 149 [(0, .slice oa9 r7.length cap10), (1, .int .i64 p6), (5, .slice (some ⟨b15, 0, none⟩) ([0, 0, 1] : List Int).length 3), (6, .slice oa30 r25.length cap31), (7, .int .i64 (IntKind.i64.wrap (vD1 + 1))), (8, .int .i64 vB2), (9, .int .i64 vD2), (10, .int .i64 x45), (12, .bool vH2), (13, .int .i64 vG3)] a ∧ St w0 Nil [H29] [] w) ?_ ?_
                ·
                  refine wp_block <| ?_
                  rcases bdich vG2 with hb88 | hb88
                  ·
                    replace hm := ite_t hm hb88
                    refine rxS 34 hS wide (by kernel_rfl) fun w hS => ?_
                    refine x1 (St.ld hS) hF rfl rfl (fun _ _ _ h => h) (fun w hl => (e_move hF rfl)) fun a hF => ?_
                    refine x1 (St.ld hS) hF rfl rfl (fun _ _ _ h => h) (fun w hl => (e_as (e_move hF rfl) (congrArg Value.bool hb88))) fun a hF => ?_
                    refine x1n (St.ld hS) hF rfl rfl rfl rfl rfl (fun _ _ _ h => h) fun a hF => ?_
                    refine x1n (St.ld hS) hF rfl rfl rfl rfl rfl (fun _ _ _ h => h) fun a hF => ?_
                    refine x1n (St.ld hS) hF rfl rfl rfl rfl rfl (fun _ _ _ h => h) fun a hF => ?_
                    refine x1n (St.ld hS) hF rfl rfl rfl rfl rfl (fun _ _ _ h => h) fun a hF => ?_
                    refine x1n (St.ld hS) hF rfl rfl rfl rfl rfl (fun _ _ _ h => h) fun a hF => ?_
                    refine x1n (St.ld hS) hF rfl rfl rfl rfl rfl (fun _ _ _ h => h) fun a hF => ?_
                    refine x1n (St.ld hS) hF rfl rfl rfl rfl rfl (fun _ _ _ h => h) fun a hF => ?_
                    refine x1n (St.ld hS) hF rfl rfl rfl rfl rfl (fun _ _ _ h => h) fun a hF => ?_
                    refine x1n (St.ld hS) hF rfl rfl rfl rfl rfl (fun _ _ _ h => h) fun a hF => ?_
                    refine x1n (St.ld hS) hF rfl rfl rfl rfl rfl (fun _ _ _ h => h) fun a hF => ?_
                    refine x1n (St.ld hS) hF rfl rfl rfl rfl rfl (fun _ _ _ h => h) fun a hF => ?_
                    refine x1u (St.ld hS) hF rfl rfl rfl rfl (fun _ _ _ h => h) fun a hF => ?_
                    refine x1u (St.ld hS) hF rfl rfl rfl rfl (fun _ _ _ h => h) fun a hF => ?_
                    refine x1u (St.ld hS) hF rfl rfl rfl rfl (fun _ _ _ h => h) fun a hF => ?_
                    refine x1u (St.ld hS) hF rfl rfl rfl rfl (fun _ _ _ h => h) fun a hF => ?_
                    refine x1u (St.ld hS) hF rfl rfl rfl rfl (fun _ _ _ h => h) fun a hF => ?_
                    refine x1u (St.ld hS) hF rfl rfl rfl rfl (fun _ _ _ h => h) fun a hF => ?_
                    refine x1u (St.ld hS) hF rfl rfl rfl rfl (fun _ _ _ h => h) fun a hF => ?_
                    refine x1u (St.ld hS) hF rfl rfl rfl rfl (fun _ _ _ h => h) fun a hF => ?_
                    refine x1u (St.ld hS) hF rfl rfl rfl rfl (fun _ _ _ h => h) fun a hF => ?_
                    refine x1u (St.ld hS) hF rfl rfl rfl rfl (fun _ _ _ h => h) fun a hF => ?_
                    refine x1u (St.ld hS) hF rfl rfl rfl rfl (fun _ _ _ h => h) fun a hF => ?_
                    refine x1u (St.ld hS) hF rfl rfl rfl rfl (fun _ _ _ h => h) fun a hF => ?_
                    refine x1u (St.ld hS) hF rfl rfl rfl rfl (fun _ _ _ h => h) fun a hF => ?_
                    refine x1u (St.ld hS) hF rfl rfl rfl rfl (fun _ _ _ h => h) fun a hF => ?_
                    refine x1u (St.ld hS) hF rfl rfl rfl rfl (fun _ _ _ h => h) fun a hF => ?_
                    refine x1u (St.ld hS) hF rfl rfl rfl rfl (fun _ _ _ h => h) fun a hF => ?_
                    refine x1u (St.ld hS) hF rfl rfl rfl rfl (fun _ _ _ h => h) fun a hF => ?_
                    refine x1u (St.ld hS) hF rfl rfl rfl rfl (fun _ _ _ h => h) fun a hF => ?_
                    refine x1n (St.ld hS) hF rfl rfl rfl rfl rfl (fun _ _ _ h => h) fun a hF => ?_
                    refine x1 (St.ld hS) hF rfl rfl (fun _ _ _ h => h) (fun w hl => (e_pickT hF rfl rfl)) fun a hF => ?_
                    refine x1 (St.ld hS) hF rfl rfl (fun _ _ _ h => h) (fun w hl => (e_asg hF rfl)) fun a hF => ?_
                    refine xe <| ?_
                    refine bn <| tn <| ?_
                    exact ⟨true, hm, hF.has ⟨rfl, rfl, rfl, rfl, rfl, rfl, rfl, rfl, rfl, rfl, trivial⟩, hS⟩
                  ·
                    replace hm := ite_f hm hb88
                    replace hm := bind_some hm
                    obtain ⟨x89, h90, hm⟩ := hm
                    obtain ⟨c91, g92, hl93⟩ := SR.get hr33 h90
                    obtain ⟨oa94, cap95, rfl, hc96, hr97⟩ := g92
                    replace hm := bind_some hm
                    obtain ⟨x98, h99, hm⟩ := hm
                    obtain ⟨c100, g101, hl102⟩ := SR.get hr97 h99
                    obtain rfl : c100 = [.int .i64 x98] := g101
                    rcases bdich (decide (x98 < x45)) with hb103 | hb103
                    ·
                      replace hm := itp_t hm hb103
                      replace hm := bind_some hm
                      obtain ⟨x104, h105, hm⟩ := hm
                      obtain ⟨c106, g107, hl108⟩ := SR.get hr18 h105
                      obtain rfl := api_Event_open g107
                      replace hm := bind_some hm
                      obtain ⟨x109, h110, hm⟩ := hm
                      obtain ⟨c111, g112, hl113⟩ := SR.get hr18 h110
                      obtain rfl := api_Event_open g112
                      replace hm := bind_some hm
                      obtain ⟨r114, h115, hm⟩ := hm
                      refine rdS 34 hS wide fun w hS => ?_
                      refine d1 (i := 0) rfl (by kernel_rfl) (by kernel_rfl) (St.ld hS) hF rfl (fun _ _ _ h => h) (fun w hl => (e_move hF rfl)) fun a hF => ?_
                      refine d1 (i := 1) rfl (by kernel_rfl) (by kernel_rfl) (St.ld hS) hF rfl (fun _ _ _ h => h) (fun w hl => (e_as (e_move hF rfl) (congrArg Value.bool hb88))) fun a hF => ?_
                      refine d1g (i := 2) rfl (by kernel_rfl) (by kernel_rfl) (St.ld hS) hF rfl rfl rfl (fun _ _ _ h => h) (fun w hl => (e_move hF rfl)) fun a hF => ?_
                      refine d1g (i := 3) rfl (by kernel_rfl) (by kernel_rfl) (St.ld hS) hF rfl rfl rfl (fun _ _ _ h => h) (fun w hl => (e_move hF rfl)) fun a hF => ?_
                      refine d1g (i := 4) rfl (by kernel_rfl) (by kernel_rfl) (St.ld hS) hF rfl rfl rfl (fun _ _ _ h => h) (fun w hl => (e_sub hF rfl rfl)) fun a hF => ?_
                      refine d1g (i := 5) rfl (by kernel_rfl) (by kernel_rfl) (St.ld hS) hF rfl rfl rfl (fun _ _ _ h => h) (fun w hl => (e_iaI hF Tryd.runUnderlying49 Tryd.sizeOf25 rfl rfl h90 (SR.oaI hr33 (by decide) h90))) fun a hF => ?_
                      refine d1g (i := 6) rfl (by kernel_rfl) (by kernel_rfl) (St.ld hS) hF rfl rfl rfl (fun _ _ _ h => h) (fun w hl => (e_ld hF Tryd.isAgg25 rfl (PH.le.cell (Lds.le hl) (hl93 0 _ rfl)))) fun a hF => ?_
                      refine d1g (i := 7) rfl (by kernel_rfl) (by kernel_rfl) (St.ld hS) hF rfl rfl rfl (fun _ _ _ h => h) (fun w hl => (e_move hF rfl)) fun a hF => ?_
                      refine d1g (i := 8) rfl (by kernel_rfl) (by kernel_rfl) (St.ld hS) hF rfl rfl rfl (fun _ _ _ h => h) (fun w hl => (e_iaI hF Tryd.runUnderlying25 Tryd.sizeOf3 rfl rfl h99 (SR.oaI hr97 (by decide) h99))) fun a hF => ?_
                      refine d1g (i := 9) rfl (by kernel_rfl) (by kernel_rfl) (St.ld hS) hF rfl rfl rfl (fun _ _ _ h => h) (fun w hl => (e_ld hF Tryd.isAgg3 rfl (PH.le.cell (Lds.le hl) (hl102 0 _ rfl)))) fun a hF => ?_
                      refine d1g (i := 10) rfl (by kernel_rfl) (by kernel_rfl) (St.ld hS) hF rfl rfl rfl (fun _ _ _ h => h) (fun w hl => (e_move hF rfl)) fun a hF => ?_
                      refine d1g (i := 11) rfl (by kernel_rfl) (by kernel_rfl) (St.ld hS) hF rfl rfl rfl (fun _ _ _ h => h) (fun w hl => (e_lss hF rfl rfl)) fun a hF => ?_
                      refine d1g (i := 12) rfl (by kernel_rfl) (by kernel_rfl) (St.ld hS) hF rfl rfl rfl (fun _ _ _ h => h) (fun w hl => (e_as (e_move hF rfl) (congrArg Value.bool hb103))) fun a hF => ?_
                      refine d1g (i := 13) rfl (by kernel_rfl) (by kernel_rfl) (St.ld hS) hF rfl rfl rfl (fun _ _ _ h => h) (fun w hl => (e_move hF rfl)) fun a hF => ?_
                      refine d1g (i := 14) rfl (by kernel_rfl) (by kernel_rfl) (St.ld hS) hF rfl rfl rfl (fun _ _ _ h => h) (fun w hl => (e_move hF rfl)) fun a hF => ?_
                      refine d1g (i := 15) rfl (by kernel_rfl) (by kernel_rfl) (St.ld hS) hF rfl rfl rfl (fun _ _ _ h => h) (fun w hl => (e_move hF rfl)) fun a hF => ?_
                      refine d1g (i := 16) rfl (by kernel_rfl) (by kernel_rfl) (St.ld hS) hF rfl rfl rfl (fun _ _ _ h => h) (fun w hl => (e_sub hF rfl rfl)) fun a hF => ?_
                      refine d1g (i := 17) rfl (by kernel_rfl) (by kernel_rfl) (St.ld hS) hF rfl rfl rfl (fun _ _ _ h => h) (fun w hl => (e_iaI hF Tryd.runUnderlying49 Tryd.sizeOf25 rfl rfl h90 (SR.oaI hr33 (by decide) h90))) fun a hF => ?_
                      refine d1g (i := 18) rfl (by kernel_rfl) (by kernel_rfl) (St.ld hS) hF rfl rfl rfl (fun _ _ _ h => h) (fun w hl => (e_ld hF Tryd.isAgg25 rfl (PH.le.cell (Lds.le hl) (hl93 0 _ rfl)))) fun a hF => ?_
                      refine d1g (i := 19) rfl (by kernel_rfl) (by kernel_rfl) (St.ld hS) hF rfl rfl rfl (fun _ _ _ h => h) (fun w hl => (e_move hF rfl)) fun a hF => ?_
                      refine d1g (i := 20) rfl (by kernel_rfl) (by kernel_rfl) (St.ld hS) hF rfl rfl rfl (fun _ _ _ h => h) (fun w hl => (e_iaI hF Tryd.runUnderlying25 Tryd.sizeOf3 rfl rfl h99 (SR.oaI hr97 (by decide) h99))) fun a hF => ?_
                      refine d1g (i := 21) rfl (by kernel_rfl) (by kernel_rfl) (St.ld hS) hF rfl rfl rfl (fun _ _ _ h => h) (fun w hl => (e_ld hF Tryd.isAgg3 rfl (PH.le.cell (Lds.le hl) (hl102 0 _ rfl)))) fun a hF => ?_
                      refine d1g (i := 22) rfl (by kernel_rfl) (by kernel_rfl) (St.ld hS) hF rfl rfl rfl (fun _ _ _ h => h) (fun w hl => (e_iaI hF Tryd.runUnderlying39 Tryd.sizeOf23 rfl rfl h105 (SR.oaI hr18 (by decide) h105))) fun a hF => ?_
                      refine d1g (i := 23) rfl (by kernel_rfl) (by kernel_rfl) (St.ld hS) hF rfl rfl rfl (fun _ _ _ h => h) (fun w hl => (e_ldA hF Tryd.isAgg23 Tryd.sizeOf23 rfl rfl (fun j v hj => PH.le.cell (fun b o hx => (Lds.le hl) b o ((fun b o h => hx27.sub b o (hx21.sub b o h)) b o hx)) (hl108 j v hj)))) fun a hF => ?_
                      refine d1g (i := 24) rfl (by kernel_rfl) (by kernel_rfl) (St.ld hS) hF rfl rfl rfl (fun _ _ _ h => h) (fun w hl => (e_move hF rfl)) fun a hF => ?_
                      refine d1g (i := 25) rfl (by kernel_rfl) (by kernel_rfl) (St.ld hS) hF rfl rfl rfl (fun _ _ _ h => h) (fun w hl => (e_move hF rfl)) fun a hF => ?_
                      refine d1g (i := 26) rfl (by kernel_rfl) (by kernel_rfl) (St.ld hS) hF rfl rfl rfl (fun _ _ _ h => h) (fun w hl => (e_iaI hF Tryd.runUnderlying39 Tryd.sizeOf23 rfl rfl h110 (SR.oaI hr18 (by decide) h110))) fun a hF => ?_
                      refine d1g (i := 27) rfl (by kernel_rfl) (by kernel_rfl) (St.ld hS) hF rfl rfl rfl (fun _ _ _ h => h) (fun w hl => (e_ldA hF Tryd.isAgg23 Tryd.sizeOf23 rfl rfl (fun j v hj => PH.le.cell (fun b o hx => (Lds.le hl) b o ((fun b o h => hx27.sub b o (hx21.sub b o h)) b o hx)) (hl113 j v hj)))) fun a hF => ?_
                      refine d1g (i := 28) rfl (by kernel_rfl) (by kernel_rfl) (St.ld hS) hF rfl rfl rfl (fun _ _ _ h => h) (fun w hl => (e_move hF rfl)) fun a hF => ?_
                      refine d1g (i := 29) rfl (by kernel_rfl) (by kernel_rfl) (St.ld hS) hF rfl rfl rfl (fun _ _ _ h => h) (fun w hl => (e_move hF rfl)) fun a hF => ?_
                      refine da1 (i := 30) (by kernel_rfl) ?_
                      refine di (i := 30) rfl <| gy hF rfl rfl <| c1 hF rfl Tryd.call17 (leadlineref15_Depend_c (hp_le _) hc23 (St.srH hS (hr22.mono hx27.sub)) h115) ⟨rfl, rfl, rfl, rfl, trivial⟩ (fun v w a hR hF => ?_)
                      obtain ⟨rfl, hk⟩ := hR
                      replace hS := hS.pass hk
                      clear hk
                      refine ⟨fun _ => (St.ld hS), ?_⟩
                      refine d1g (i := 31) rfl (by kernel_rfl) (by kernel_rfl) (St.ld hS) hF rfl rfl rfl (fun _ _ _ h => h) (fun w hl => (e_pickT hF rfl rfl)) fun a hF => ?_
                      refine d1 (i := 32) rfl (by kernel_rfl) (by kernel_rfl) (St.ld hS) hF rfl (fun _ _ _ h => h) (fun w hl => (e_pickF hF rfl rfl)) fun a hF => ?_
                      refine d1 (i := 33) rfl (by kernel_rfl) (by kernel_rfl) (St.ld hS) hF rfl (fun _ _ _ h => h) (fun w hl => (e_asg hF rfl)) fun a hF => ?_
                      refine de (by kernel_rfl) <| ?_
                      refine bn <| tn <| ?_
                      exact ⟨r114, hm, hF.has ⟨rfl, rfl, rfl, rfl, rfl, rfl, rfl, rfl, rfl, rfl, trivial⟩, hS⟩
                    ·
                      replace hm := itp_f hm hb103
                      refine rxS 34 hS wide (by kernel_rfl) fun w hS => ?_
                      refine x1 (St.ld hS) hF rfl rfl (fun _ _ _ h => h) (fun w hl => (e_move hF rfl)) fun a hF => ?_
                      refine x1 (St.ld hS) hF rfl rfl (fun _ _ _ h => h) (fun w hl => (e_as (e_move hF rfl) (congrArg Value.bool hb88))) fun a hF => ?_
                      refine x1g (St.ld hS) hF rfl rfl rfl rfl (fun _ _ _ h => h) (fun w hl => (e_move hF rfl)) fun a hF => ?_
                      refine x1g (St.ld hS) hF rfl rfl rfl rfl (fun _ _ _ h => h) (fun w hl => (e_move hF rfl)) fun a hF => ?_
                      refine x1g (St.ld hS) hF rfl rfl rfl rfl (fun _ _ _ h => h) (fun w hl => (e_sub hF rfl rfl)) fun a hF => ?_
                      refine x1g (St.ld hS) hF rfl rfl rfl rfl (fun _ _ _ h => h) (fun w hl => (e_iaI hF Tryd.runUnderlying49 Tryd.sizeOf25 rfl rfl h90 (SR.oaI hr33 (by decide) h90))) fun a hF => ?_
                      refine x1g (St.ld hS) hF rfl rfl rfl rfl (fun _ _ _ h => h) (fun w hl => (e_ld hF Tryd.isAgg25 rfl (PH.le.cell (Lds.le hl) (hl93 0 _ rfl)))) fun a hF => ?_
                      refine x1g (St.ld hS) hF rfl rfl rfl rfl (fun _ _ _ h => h) (fun w hl => (e_move hF rfl)) fun a hF => ?_
                      refine x1g (St.ld hS) hF rfl rfl rfl rfl (fun _ _ _ h => h) (fun w hl => (e_iaI hF Tryd.runUnderlying25 Tryd.sizeOf3 rfl rfl h99 (SR.oaI hr97 (by decide) h99))) fun a hF => ?_
                      refine x1g (St.ld hS) hF rfl rfl rfl rfl (fun _ _ _ h => h) (fun w hl => (e_ld hF Tryd.isAgg3 rfl (PH.le.cell (Lds.le hl) (hl102 0 _ rfl)))) fun a hF => ?_
                      refine x1g (St.ld hS) hF rfl rfl rfl rfl (fun _ _ _ h => h) (fun w hl => (e_move hF rfl)) fun a hF => ?_
                      refine x1g (St.ld hS) hF rfl rfl rfl rfl (fun _ _ _ h => h) (fun w hl => (e_lss hF rfl rfl)) fun a hF => ?_
                      refine x1g (St.ld hS) hF rfl rfl rfl rfl (fun _ _ _ h => h) (fun w hl => (e_as (e_move hF rfl) (congrArg Value.bool hb103))) fun a hF => ?_
                      refine x1n (St.ld hS) hF rfl rfl rfl rfl rfl (fun _ _ _ h => h) fun a hF => ?_
                      refine x1n (St.ld hS) hF rfl rfl rfl rfl rfl (fun _ _ _ h => h) fun a hF => ?_
                      refine x1n (St.ld hS) hF rfl rfl rfl rfl rfl (fun _ _ _ h => h) fun a hF => ?_
                      refine x1n (St.ld hS) hF rfl rfl rfl rfl rfl (fun _ _ _ h => h) fun a hF => ?_
                      refine x1n (St.ld hS) hF rfl rfl rfl rfl rfl (fun _ _ _ h => h) fun a hF => ?_
                      refine x1n (St.ld hS) hF rfl rfl rfl rfl rfl (fun _ _ _ h => h) fun a hF => ?_
                      refine x1n (St.ld hS) hF rfl rfl rfl rfl rfl (fun _ _ _ h => h) fun a hF => ?_
                      refine x1n (St.ld hS) hF rfl rfl rfl rfl rfl (fun _ _ _ h => h) fun a hF => ?_
                      refine x1n (St.ld hS) hF rfl rfl rfl rfl rfl (fun _ _ _ h => h) fun a hF => ?_
                      refine x1n (St.ld hS) hF rfl rfl rfl rfl rfl (fun _ _ _ h => h) fun a hF => ?_
                      refine x1n (St.ld hS) hF rfl rfl rfl rfl rfl (fun _ _ _ h => h) fun a hF => ?_
                      refine x1n (St.ld hS) hF rfl rfl rfl rfl rfl (fun _ _ _ h => h) fun a hF => ?_
                      refine x1n (St.ld hS) hF rfl rfl rfl rfl rfl (fun _ _ _ h => h) fun a hF => ?_
                      refine x1n (St.ld hS) hF rfl rfl rfl rfl rfl (fun _ _ _ h => h) fun a hF => ?_
                      refine x1n (St.ld hS) hF rfl rfl rfl rfl rfl (fun _ _ _ h => h) fun a hF => ?_
                      refine x1n (St.ld hS) hF rfl rfl rfl rfl rfl (fun _ _ _ h => h) fun a hF => ?_
                      refine x1n (St.ld hS) hF rfl rfl rfl rfl rfl (fun _ _ _ h => h) fun a hF => ?_
                      refine x1n (St.ld hS) hF rfl rfl rfl rfl rfl (fun _ _ _ h => h) fun a hF => ?_
                      refine x1g (St.ld hS) hF rfl rfl rfl rfl (fun _ _ _ h => h) (fun w hl => (e_pickF hF rfl rfl)) fun a hF => ?_
                      refine x1 (St.ld hS) hF rfl rfl (fun _ _ _ h => h) (fun w hl => (e_pickF hF rfl rfl)) fun a hF => ?_
                      refine x1 (St.ld hS) hF rfl rfl (fun _ _ _ h => h) (fun w hl => (e_asg hF rfl)) fun a hF => ?_
                      refine xe <| ?_
                      refine bn <| tn <| ?_
                      exact ⟨false, hm, hF.has ⟨rfl, rfl, rfl, rfl, rfl, rfl, rfl, rfl, rfl, rfl, trivial⟩, hS⟩
                clear hm hF hS
                rintro a w ⟨vH2, hm, hF, hS⟩
                unfold leadlinelaw17_TraceSteps_j12 at hm
                refine rg <| ?_
                refine ls <| q1 hF rfl (e_move hF rfl) fun a hF => ?_
                refine ls <| q1 hF rfl (e_add hF rfl rfl) fun a hF => ?_
                refine ls <| q1 hF rfl (e_asg hF rfl) fun a hF => ?_
                refine re <| ?_
                refine tn <| ?_
                exact ⟨(nn10, vH2, (IntKind.i64.wrap (vG3 + 1))), ⟨hm, hF.has ⟨rfl, rfl, rfl, rfl, rfl, rfl, rfl, rfl, rfl, rfl, trivial⟩, hS⟩, Nat.lt_succ_self _⟩
              ·
                replace hm := ite_f hm hb87
                refine cfv hF rfl hb87 <| ?_
                refine wp_exit <| tx <| tx <| bx <| ?_
                refine tn <| ?_
                exact ⟨vG2, hm, hF.has ⟨rfl, rfl, rfl, rfl, rfl, rfl, rfl, rfl, trivial⟩, hS⟩
            clear hm hF hS
            rintro a w ⟨vF2, hm, hF, hS⟩
            unfold leadlinelaw17_TraceSteps_j9 at hm
            refine th <| ?_
            refine rg <| ?_
            refine ls <| q1 hF rfl (e_move hF rfl) fun a hF => ?_
            refine ls <| q1 hF rfl (e_not hF rfl) fun a hF => ?_
            refine re <| ?_
            replace hm := bind_some hm
            obtain ⟨_, hb116, hm⟩ := hm
            replace hb116 := bnt (sure_some hb116)
            refine tn <| cfv hF rfl hb116 <| wp_skip <| ?_
            refine bn <| tn <| ?_
            exact ⟨hm, hF.has ⟨rfl, rfl, rfl, rfl, rfl, rfl, rfl, trivial⟩, hS⟩
          clear hm hF hS
          rintro a w ⟨hm, hF, hS⟩
          unfold leadlinelaw17_TraceSteps_j5 at hm
          refine rg <| ?_
          refine ls <| q1 hF rfl (e_move hF rfl) fun a hF => ?_
          refine ls <| q1 hF rfl (e_add hF rfl rfl) fun a hF => ?_
          refine ls <| q1 hF rfl (e_asg hF rfl) fun a hF => ?_
          refine re <| ?_
          refine tn <| ?_
          exact ⟨(nn4, (IntKind.i64.wrap (vD1 + 1)), (IntKind.i64.wrap (vD2 + 1))), ⟨hm, hF.has ⟨rfl, rfl, rfl, rfl, rfl, rfl, rfl, trivial⟩, hS⟩, Nat.lt_succ_self _⟩
        ·
          replace hm := itp_f hm hb44
          refine tn <| cfv hF rfl hb44 <| ?_
          refine wp_exit <| tx <| tx <| bx <| ?_
          refine bn <| tn <| ?_
          exact ⟨vD1, hm, hF.has ⟨rfl, rfl, rfl, rfl, rfl, rfl, trivial⟩, hS⟩
      clear hm hF hS
      rintro a w ⟨vC1, hm, hF, hS⟩
      unfold leadlinelaw17_TraceSteps_j3 at hm
      refine rg <| ?_
      refine ls <| q1 hF rfl (e_move hF rfl) fun a hF => ?_
      refine ls <| q1 hF rfl (e_add hF rfl rfl) fun a hF => ?_
      refine ls <| q1 hF rfl (e_asg hF rfl) fun a hF => ?_
      refine re <| ?_
      refine tn <| ?_
      exact ⟨(nn2, vC1, (IntKind.i64.wrap (vB2 + 1))), ⟨hm, hF.has ⟨rfl, rfl, rfl, rfl, rfl, rfl, trivial⟩, hS⟩, Nat.lt_succ_self _⟩
    ·
      replace hm := itp_f hm hb34
      refine tn <| cfv hF rfl hb34 <| ?_
      refine wp_exit <| tx <| tx <| bx <| ?_
      refine tn <| ?_
      exact ⟨vB1, hm, hF.has ⟨rfl, rfl, trivial⟩, hS⟩
  clear hm hF hS
  rintro a w ⟨vA1, hm, hF, hS⟩
  unfold leadlinelaw17_TraceSteps_j1 at hm
  refine th <| ?_
  rcases bdich (decide (vA1 = (r7.length : Int))) with hb117 | hb117
  ·
    replace hm := itp_t hm hb117
    replace hm := bind_some hm
    obtain ⟨r118, h119, hm⟩ := hm
    refine rg <| ?_
    refine ls <| q1 hF rfl (e_move hF rfl) fun a hF => ?_
    refine ls <| q1 hF rfl (e_move hF rfl) fun a hF => ?_
    refine ls <| q1 hF rfl (e_lenL (α := api_Event) (xs := r7) hF Tryd.runUnderlying39 rfl) fun a hF => ?_
    refine ls <| q1 hF rfl (e_eql hF rfl rfl) fun a hF => ?_
    refine ls <| q1 hF rfl (e_as (e_move hF rfl) (congrArg Value.bool hb117)) fun a hF => ?_
    refine ls <| gy hF rfl rfl <| c1 hF rfl Tryd.call38 (leadlinelaw17_fixed_c (hp_le _) (Tab.mono (Tab.mono hT (fun b o h => (fun b o h => hx27.sub b o (hx21.sub b o h)) b o (hx17.sub b o h))) (St.up hS)) h119) trivial (fun v w a hR hF => ?_)
    obtain ⟨rfl, hk⟩ := hR
    replace hS := hS.pass hk
    clear hk
    refine ls <| q1 hF rfl (e_pickT hF rfl rfl) fun a hF => ?_
    refine ls <| q1 hF rfl (e_asg hF rfl) fun a hF => ?_
    refine re <| ?_
    refine tn <| ?_
    refine wp_ret <| ?_
    obtain rfl := Option.some.inj hm
    exact r1 hF Tryd.results10 rfl ⟨rfl, hS.keep⟩
  ·
    replace hm := itp_f hm hb117
    refine rg <| ?_
    refine ls <| q1 hF rfl (e_move hF rfl) fun a hF => ?_
    refine ls <| q1 hF rfl (e_move hF rfl) fun a hF => ?_
    refine ls <| q1 hF rfl (e_lenL (α := api_Event) (xs := r7) hF Tryd.runUnderlying39 rfl) fun a hF => ?_
    refine ls <| q1 hF rfl (e_eql hF rfl rfl) fun a hF => ?_
    refine ls <| q1 hF rfl (e_as (e_move hF rfl) (congrArg Value.bool hb117)) fun a hF => ?_
    refine ls <| gn hF rfl rfl rfl rfl fun a hF => ?_
    refine ls <| q1 hF rfl (e_pickF hF rfl rfl) fun a hF => ?_
    refine ls <| q1 hF rfl (e_asg hF rfl) fun a hF => ?_
    refine re <| ?_
    refine tn <| ?_
    refine wp_ret <| ?_
    obtain rfl := Option.some.inj hm
    exact r1 hF Tryd.results10 rfl ⟨rfl, hS.keep⟩
end Go.LM.ET
