/- Walks, lifted by program. No condition beyond each theorem's own premises. -/
import Derived.Test.YtimaeihmnipfgaaDoorETW2
namespace Go.LM.ET
open Go Go.LL Go.MD Go.LM Go.Proofs Go.MD.ET

set_option maxHeartbeats 4000000 in
set_option maxRecDepth 100000 in
theorem leadlineref15_Depend_c {N : Nat} {w0 : World} {H : PH} (hH : H.le w0) {p1 : api_Event} {p2 : api_Event} {oa4 : Option Addr} {cap5 : Nat} {p3 : (List Int)} (hc6 : p3.length ≤ cap5) (hr7 : SR H oa4 p3) {p8 : Int} {r : Bool} (hm : leadlineref15_Depend N p1 p2 p3 p8 = some r) : Tot Tryd.prog 17 #[.agg #[.int .i64 p1.Kind, .int .i64 p1.T, .int .i64 p1.A, .int .i64 p1.N, .int .i64 p1.M], .agg #[.int .i64 p2.Kind, .int .i64 p2.T, .int .i64 p2.A, .int .i64 p2.N, .int .i64 p2.M], .slice oa4 p3.length cap5, .int .i64 p8] w0 (fun v w' => v = .bool r ∧ Keep Nil w0 w') := by
  unfold leadlineref15_Depend at hm
  refine fn0 (args := [.agg #[.int .i64 p1.Kind, .int .i64 p1.T, .int .i64 p1.A, .int .i64 p1.N, .int .i64 p1.M], .agg #[.int .i64 p2.Kind, .int .i64 p2.T, .int .i64 p2.A, .int .i64 p2.N, .int .i64 p2.M], .slice oa4 p3.length cap5, .int .i64 p8]) (F := [(0, .agg #[.int .i64 p1.Kind, .int .i64 p1.T, .int .i64 p1.A, .int .i64 p1.N, .int .i64 p1.M]), (1, .agg #[.int .i64 p2.Kind, .int .i64 p2.T, .int .i64 p2.A, .int .i64 p2.N, .int .i64 p2.M]), (2, .slice oa4 p3.length cap5), (3, .int .i64 p8)]) Tryd.func17 rfl Tryd.ntmps17 rfl rfl fun a hF => ?_
  have hS : St w0 Nil [H] [] w0 := start1 hH
  refine th <| ?_
  refine rg <| ?_
  refine ls <| a_box (cs := [.int .i64 p1.Kind, .int .i64 p1.T, .int .i64 p1.A, .int .i64 p1.N, .int .i64 p1.M].toArray) hF rfl hS rfl rfl fun b9 w a hS hF => ?_
  refine ls <| a_box (cs := [.int .i64 p2.Kind, .int .i64 p2.T, .int .i64 p2.A, .int .i64 p2.N, .int .i64 p2.M].toArray) hF rfl hS rfl rfl fun b10 w a hS hF => ?_
  refine ls <| q1 hF rfl (e_asg hF rfl) fun a hF => ?_
  refine re <| ?_
  refine tn <| th <| th <| ?_
  refine rg <| ?_
  refine ls <| q1 hF rfl (e_fa hF fa23_1 rfl) fun a hF => ?_
  refine ls <| q1 hF rfl (e_ld hF Tryd.isAgg3 rfl ((St.ld hS).cellB (.tail _ (.head _)) rfl)) fun a hF => ?_
  refine ls <| q1 hF rfl (e_fa hF fa23_1 rfl) fun a hF => ?_
  refine ls <| q1 hF rfl (e_ld hF Tryd.isAgg3 rfl ((St.ld hS).cellB (.head _) rfl)) fun a hF => ?_
  refine ls <| q1 hF rfl (e_eql hF rfl rfl) fun a hF => ?_
  refine ls <| q1 hF rfl (e_move hF rfl) fun a hF => ?_
  refine grp (N := 67) (Fk := [(2, .slice oa4 p3.length cap5), (3, .int .i64 p8), (4, .pointer (some ⟨b9, 0, none⟩)), (5, .pointer (some ⟨b10, 0, none⟩)), (27, .bool ((decide (p1.T = p2.T)) || ((decide (15 ≤ p1.Kind)) && (decide (p1.Kind ≤ 16)))))]) (b := (decide (p1.T = p2.T))) 9 hS ?_ ?_ ?_
  ·
    intro hb key
    replace hF := Fr.as hF (t := 18) rfl (congrArg Value.bool hb)
    refine ls <| gn hF rfl rfl rfl rfl fun a hF => ?_
    refine ls <| gn hF rfl rfl rfl rfl fun a hF => ?_
    refine ls <| gn hF rfl rfl rfl rfl fun a hF => ?_
    refine ls <| gn hF rfl rfl rfl rfl fun a hF => ?_
    refine ls <| gnu hF rfl rfl rfl fun a hF => ?_
    refine ls <| gnu hF rfl rfl rfl fun a hF => ?_
    refine ls <| gnu hF rfl rfl rfl fun a hF => ?_
    refine ls <| gn hF rfl rfl rfl rfl fun a hF => ?_
    refine ls <| q1 hF rfl (e_as (v' := .bool ((decide (p1.T = p2.T)) || ((decide (15 ≤ p1.Kind)) && (decide (p1.Kind ≤ 16))))) (e_pickT hF rfl rfl) (by rw [hb]; rfl)) fun a hF => ?_
    exact key _ _ (hF.has ⟨rfl, rfl, rfl, rfl, rfl, trivial⟩) hS
  ·
    intro hb key
    replace hF := Fr.as hF (t := 18) rfl (congrArg Value.bool hb)
    refine ls <| gy hF rfl rfl <| q1 hF rfl (e_fa hF fa23_0 rfl) fun a hF => ?_
    refine ls <| gy hF rfl rfl <| q1 hF rfl (e_ld hF Tryd.isAgg3 rfl ((St.ld hS).cellB (.tail _ (.head _)) rfl)) fun a hF => ?_
    refine ls <| gy hF rfl rfl <| q1 hF rfl (e_geq hF rfl rfl) fun a hF => ?_
    refine ls <| gy hF rfl rfl <| q1 hF rfl (e_move hF rfl) fun a hF => ?_
    refine grp (N := 67) (Fk := [(2, .slice oa4 p3.length cap5), (3, .int .i64 p8), (4, .pointer (some ⟨b9, 0, none⟩)), (5, .pointer (some ⟨b10, 0, none⟩)), (18, .bool false), (26, .bool ((decide (15 ≤ p1.Kind)) && (decide (p1.Kind ≤ 16))))]) (b := (decide (15 ≤ p1.Kind))) 4 hS ?_ ?_ ?_
    ·
      intro hb key
      replace hF := Fr.as hF (t := 22) rfl (congrArg Value.bool hb)
      refine ls <| gy hF rfl rfl <| q1 hF rfl (e_fa hF fa23_0 rfl) fun a hF => ?_
      refine ls <| gy hF rfl rfl <| q1 hF rfl (e_ld hF Tryd.isAgg3 rfl ((St.ld hS).cellB (.tail _ (.head _)) rfl)) fun a hF => ?_
      refine ls <| gy hF rfl rfl <| q1 hF rfl (e_leq hF rfl rfl) fun a hF => ?_
      refine ls <| gy hF rfl rfl <| q1 hF rfl (e_as (v' := .bool ((decide (15 ≤ p1.Kind)) && (decide (p1.Kind ≤ 16)))) (e_pickT hF rfl rfl) (by rw [hb]; rfl)) fun a hF => ?_
      exact key _ _ (hF.has ⟨rfl, rfl, rfl, rfl, rfl, rfl, trivial⟩) hS
    ·
      intro hb key
      replace hF := Fr.as hF (t := 22) rfl (congrArg Value.bool hb)
      refine ls <| gn hF rfl rfl rfl rfl fun a hF => ?_
      refine ls <| gn hF rfl rfl rfl rfl fun a hF => ?_
      refine ls <| gn hF rfl rfl rfl rfl fun a hF => ?_
      refine ls <| gy hF rfl rfl <| q1 hF rfl (e_as (v' := .bool ((decide (15 ≤ p1.Kind)) && (decide (p1.Kind ≤ 16)))) (e_pickF hF rfl rfl) (by rw [hb]; rfl)) fun a hF => ?_
      exact key _ _ (hF.has ⟨rfl, rfl, rfl, rfl, rfl, rfl, trivial⟩) hS
    intro a w hF hS
    refine ls <| q1 hF rfl (e_as (v' := .bool ((decide (p1.T = p2.T)) || ((decide (15 ≤ p1.Kind)) && (decide (p1.Kind ≤ 16))))) (e_pickF hF rfl rfl) (by rw [hb]; rfl)) fun a hF => ?_
    exact key _ _ (hF.has ⟨rfl, rfl, rfl, rfl, rfl, trivial⟩) hS
  intro a w hF hS
  refine ls <| q1 hF rfl (e_move hF rfl) fun a hF => ?_
  refine grp (N := 67) (Fk := [(2, .slice oa4 p3.length cap5), (3, .int .i64 p8), (4, .pointer (some ⟨b9, 0, none⟩)), (5, .pointer (some ⟨b10, 0, none⟩)), (37, .bool (((decide (p1.T = p2.T)) || ((decide (15 ≤ p1.Kind)) && (decide (p1.Kind ≤ 16)))) || ((decide (15 ≤ p2.Kind)) && (decide (p2.Kind ≤ 16)))))]) (b := ((decide (p1.T = p2.T)) || ((decide (15 ≤ p1.Kind)) && (decide (p1.Kind ≤ 16))))) 9 hS ?_ ?_ ?_
  ·
    intro hb key
    replace hF := Fr.as hF (t := 28) rfl (congrArg Value.bool hb)
    refine ls <| gn hF rfl rfl rfl rfl fun a hF => ?_
    refine ls <| gn hF rfl rfl rfl rfl fun a hF => ?_
    refine ls <| gn hF rfl rfl rfl rfl fun a hF => ?_
    refine ls <| gn hF rfl rfl rfl rfl fun a hF => ?_
    refine ls <| gnu hF rfl rfl rfl fun a hF => ?_
    refine ls <| gnu hF rfl rfl rfl fun a hF => ?_
    refine ls <| gnu hF rfl rfl rfl fun a hF => ?_
    refine ls <| gn hF rfl rfl rfl rfl fun a hF => ?_
    refine ls <| q1 hF rfl (e_as (v' := .bool (((decide (p1.T = p2.T)) || ((decide (15 ≤ p1.Kind)) && (decide (p1.Kind ≤ 16)))) || ((decide (15 ≤ p2.Kind)) && (decide (p2.Kind ≤ 16))))) (e_pickT hF rfl rfl) (by rw [hb]; rfl)) fun a hF => ?_
    exact key _ _ (hF.has ⟨rfl, rfl, rfl, rfl, rfl, trivial⟩) hS
  ·
    intro hb key
    replace hF := Fr.as hF (t := 28) rfl (congrArg Value.bool hb)
    refine ls <| gy hF rfl rfl <| q1 hF rfl (e_fa hF fa23_0 rfl) fun a hF => ?_
    refine ls <| gy hF rfl rfl <| q1 hF rfl (e_ld hF Tryd.isAgg3 rfl ((St.ld hS).cellB (.head _) rfl)) fun a hF => ?_
    refine ls <| gy hF rfl rfl <| q1 hF rfl (e_geq hF rfl rfl) fun a hF => ?_
    refine ls <| gy hF rfl rfl <| q1 hF rfl (e_move hF rfl) fun a hF => ?_
    refine grp (N := 67) (Fk := [(2, .slice oa4 p3.length cap5), (3, .int .i64 p8), (4, .pointer (some ⟨b9, 0, none⟩)), (5, .pointer (some ⟨b10, 0, none⟩)), (28, .bool false), (36, .bool ((decide (15 ≤ p2.Kind)) && (decide (p2.Kind ≤ 16))))]) (b := (decide (15 ≤ p2.Kind))) 4 hS ?_ ?_ ?_
    ·
      intro hb key
      replace hF := Fr.as hF (t := 32) rfl (congrArg Value.bool hb)
      refine ls <| gy hF rfl rfl <| q1 hF rfl (e_fa hF fa23_0 rfl) fun a hF => ?_
      refine ls <| gy hF rfl rfl <| q1 hF rfl (e_ld hF Tryd.isAgg3 rfl ((St.ld hS).cellB (.head _) rfl)) fun a hF => ?_
      refine ls <| gy hF rfl rfl <| q1 hF rfl (e_leq hF rfl rfl) fun a hF => ?_
      refine ls <| gy hF rfl rfl <| q1 hF rfl (e_as (v' := .bool ((decide (15 ≤ p2.Kind)) && (decide (p2.Kind ≤ 16)))) (e_pickT hF rfl rfl) (by rw [hb]; rfl)) fun a hF => ?_
      exact key _ _ (hF.has ⟨rfl, rfl, rfl, rfl, rfl, rfl, trivial⟩) hS
    ·
      intro hb key
      replace hF := Fr.as hF (t := 32) rfl (congrArg Value.bool hb)
      refine ls <| gn hF rfl rfl rfl rfl fun a hF => ?_
      refine ls <| gn hF rfl rfl rfl rfl fun a hF => ?_
      refine ls <| gn hF rfl rfl rfl rfl fun a hF => ?_
      refine ls <| gy hF rfl rfl <| q1 hF rfl (e_as (v' := .bool ((decide (15 ≤ p2.Kind)) && (decide (p2.Kind ≤ 16)))) (e_pickF hF rfl rfl) (by rw [hb]; rfl)) fun a hF => ?_
      exact key _ _ (hF.has ⟨rfl, rfl, rfl, rfl, rfl, rfl, trivial⟩) hS
    intro a w hF hS
    refine ls <| q1 hF rfl (e_as (v' := .bool (((decide (p1.T = p2.T)) || ((decide (15 ≤ p1.Kind)) && (decide (p1.Kind ≤ 16)))) || ((decide (15 ≤ p2.Kind)) && (decide (p2.Kind ≤ 16))))) (e_pickF hF rfl rfl) (by rw [hb]; rfl)) fun a hF => ?_
    exact key _ _ (hF.has ⟨rfl, rfl, rfl, rfl, rfl, trivial⟩) hS
  intro a w hF hS
  refine re <| ?_
  rcases bdich (((decide (p1.T = p2.T)) || ((decide (15 ≤ p1.Kind)) && (decide (p1.Kind ≤ 16)))) || ((decide (15 ≤ p2.Kind)) && (decide (p2.Kind ≤ 16)))) with hb11 | hb11
  ·
    replace hm := ite_t hm hb11
    refine tn <| ctv hF rfl hb11 <| th <| ?_
    refine rg <| ?_
    refine ls <| q1 hF rfl (e_asg hF rfl) fun a hF => ?_
    refine re <| ?_
    refine tn <| ?_
    refine wp_ret <| tr <| ?_
    obtain rfl := Option.some.inj hm
    exact r1 hF Tryd.results17 rfl ⟨rfl, hS.keep⟩
  ·
    replace hm := ite_f hm hb11
    refine tn <| cfv hF rfl hb11 <| wp_skip <| ?_
    refine tn <| th <| ?_
    replace hm := bind_some hm
    obtain ⟨r12, h13, hm⟩ := hm
    replace hm := bind_some hm
    obtain ⟨r19, h20, hm⟩ := hm
    refine rdS 10 hS wide fun w hS => ?_
    refine d1 (i := 0) rfl (by kernel_rfl) (by kernel_rfl) (St.ld hS) hF rfl (fun _ _ _ h => h) (fun w hl => (e_ldA hF Tryd.isAgg23 Tryd.sizeOf23 rfl rfl (hl.cellsB (.tail _ (.head _))))) fun a hF => ?_
    refine d1 (i := 1) rfl (by kernel_rfl) (by kernel_rfl) (St.ld hS) hF rfl (fun _ _ _ h => h) (fun w hl => (e_move hF rfl)) fun a hF => ?_
    refine d1 (i := 2) rfl (by kernel_rfl) (by kernel_rfl) (St.ld hS) hF rfl (fun _ _ _ h => h) (fun w hl => (e_move hF rfl)) fun a hF => ?_
    refine d1 (i := 4) rfl (by kernel_rfl) (by kernel_rfl) (St.ld hS) hF rfl (fun _ _ _ h => h) (fun w hl => (e_ldA hF Tryd.isAgg23 Tryd.sizeOf23 rfl rfl (hl.cellsB (.head _)))) fun a hF => ?_
    refine d1 (i := 5) rfl (by kernel_rfl) (by kernel_rfl) (St.ld hS) hF rfl (fun _ _ _ h => h) (fun w hl => (e_move hF rfl)) fun a hF => ?_
    refine d1 (i := 6) rfl (by kernel_rfl) (by kernel_rfl) (St.ld hS) hF rfl (fun _ _ _ h => h) (fun w hl => (e_move hF rfl)) fun a hF => ?_
    refine da1 (i := 3) (by kernel_rfl) ?_
    refine di (i := 3) rfl <| c1 hF rfl Tryd.call15 (leadlineref15_Uses_c (hp_le _) hc6 (St.srH hS hr7) h13) ⟨rfl, rfl, rfl, trivial⟩ (fun v w a hR hF => ?_)
    obtain ⟨oa14, cap15, vs16, rfl, hv17, hk⟩ := hR
    replace hS := hS.fresh hk
    clear hk
    replace hv17 := hv17 H
    refine ⟨fun _ => (St.ldsX hS (fun _ _ h => h) (sub_cons (.tail _ (.head _)) (sub_cons (.tail _ (.tail _ (.head _))) sub_nil))), ?_⟩
    refine da1 (i := 7) (by kernel_rfl) ?_
    refine di (i := 7) rfl <| c1 hF rfl Tryd.call15 (leadlineref15_Uses_c (hp_le _) hc6 (St.srH hS hr7) h20) ⟨rfl, rfl, rfl, trivial⟩ (fun v w a hR hF => ?_)
    obtain ⟨oa21, cap22, vs23, rfl, hv24, hk⟩ := hR
    replace hS := hS.fresh hk
    clear hk
    replace hv24 := hv24 H
    refine ⟨fun _ => (St.ldsX hS (fun _ _ h => h) (sub_cons (.tail _ (.tail _ (.head _))) (sub_cons (.tail _ (.tail _ (.tail _ (.head _)))) sub_nil))), ?_⟩
    refine d1 (i := 8) rfl (by kernel_rfl) (by kernel_rfl) (St.ldsX hS (fun _ _ h => h) (sub_cons (.tail _ (.tail _ (.head _))) (sub_cons (.tail _ (.tail _ (.tail _ (.head _)))) sub_nil))) hF rfl (fun _ _ _ h => h) (fun w hl => (e_asg hF rfl)) fun a hF => ?_
    refine d1 (i := 9) rfl (by kernel_rfl) (by kernel_rfl) (St.ldsX hS (fun _ _ h => h) (sub_cons (.tail _ (.tail _ (.head _))) (sub_cons (.tail _ (.tail _ (.tail _ (.head _)))) sub_nil))) hF rfl (fun _ _ _ h => h) (fun w hl => (e_asg hF rfl)) fun a hF => ?_
    refine de (by kernel_rfl) <| ?_
    refine tn <| th <| th <| ?_
    refine rg <| ?_
    refine ls <| q1 hF rfl (e_asg hF rfl) fun a hF => ?_
    refine re <| ?_
    refine tn <| midK (fun a w => ∃ (HA1 : PH), leadlineref15_Depend_j1 = some r ∧ Ext w0 H HA1 ∧ Fr 67 [] a ∧ St w0 Nil [HA1] [] w) ?_ ?_
    ·
      replace hS := hS.pickL (.cons (.tail .head) (.cons .head .nil))
      refine wp_block <| lp (α := Nat × Int) (fun (gh : Nat × Int) a w => match gh with | (nn2, vB2) => ∃ (HB1 : PH), (leadlineref15_Depend_l2 N leadlineref15_Depend_j1 r12 r19) nn2 vB2 = some r ∧ Ext w0 H HB1 ∧ Fr 67 [(9, .slice oa14 r12.length cap15), (10, .slice oa21 r19.length cap22), (11, .int .i64 vB2)] a ∧ St w0 Nil [HB1] [sla 27 3 oa14 r12.length cap15 vs16, sla 27 3 oa21 r19.length cap22 vs23] w) (fun gh => gh.1) (N, 0) ⟨H, hm, (Ext.refl _ _), hF.has ⟨rfl, rfl, rfl, trivial⟩, hS⟩ ?_
      clear hm hF hS
      rintro ⟨nn2, vB2⟩ a w ⟨HB1, hm, hxHB1, hF, hS⟩
      obtain _ | nn2 := nn2
      · simp [leadlineref15_Depend_l2] at hm
      rw [leadlineref15_Depend_l2] at hm
      refine th <| th <| ?_
      refine rg <| ?_
      refine ls <| q1 hF rfl (e_move hF rfl) fun a hF => ?_
      refine ls <| q1 hF rfl (e_move hF rfl) fun a hF => ?_
      refine ls <| q1 hF rfl (e_lenL (α := api_Use) (xs := r12) hF Tryd.runUnderlying29 rfl) fun a hF => ?_
      refine ls <| q1 hF rfl (e_lss hF rfl rfl) fun a hF => ?_
      refine re <| ?_
      rcases bdich (decide (vB2 < (r12.length : Int))) with hb26 | hb26
      ·
        replace hm := itp_t hm hb26
        refine tn <| ctv hF rfl hb26 <| wp_skip <| ?_
        refine tn <| th <| midK (fun a w => (leadlineref15_Depend_j3 (leadlineref15_Depend_l2 N leadlineref15_Depend_j1 r12 r19 nn2) vB2) = some r ∧ Fr 67 [(9, .slice oa14 r12.length cap15), (10, .slice oa21 r19.length cap22), (11, .int .i64 vB2)] a ∧ St w0 Nil [HB1] [sla 27 3 oa14 r12.length cap15 vs16, sla 27 3 oa21 r19.length cap22 vs23] w) ?_ ?_
        ·
          refine wp_block <| th <| ?_
          refine rg <| ?_
          refine ls <| q1 hF rfl (e_asg hF rfl) fun a hF => ?_
          refine re <| ?_
          refine tn <| wp_block <| lp (α := Nat × Int) (fun (gh : Nat × Int) a w => match gh with | (nn4, vD1) => (leadlineref15_Depend_l4 N (leadlineref15_Depend_j3 (leadlineref15_Depend_l2 N leadlineref15_Depend_j1 r12 r19 nn2) vB2) r12 r19 vB2) nn4 vD1 = some r ∧ Fr 67 [(9, .slice oa14 r12.length cap15), (10, .slice oa21 r19.length cap22), (11, .int .i64 vB2), (12, .int .i64 vD1)] a ∧ St w0 Nil [HB1] [sla 27 3 oa14 r12.length cap15 vs16, sla 27 3 oa21 r19.length cap22 vs23] w) (fun gh => gh.1) (N, 0) ⟨hm, hF.has ⟨rfl, rfl, rfl, rfl, trivial⟩, hS⟩ ?_
          clear hm hF hS
          rintro ⟨nn4, vD1⟩ a w ⟨hm, hF, hS⟩
          obtain _ | nn4 := nn4
          · simp [leadlineref15_Depend_l4] at hm
          rw [leadlineref15_Depend_l4] at hm
          refine th <| th <| ?_
          refine rg <| ?_
          refine ls <| q1 hF rfl (e_move hF rfl) fun a hF => ?_
          refine ls <| q1 hF rfl (e_move hF rfl) fun a hF => ?_
          refine ls <| q1 hF rfl (e_lenL (α := api_Use) (xs := r19) hF Tryd.runUnderlying29 rfl) fun a hF => ?_
          refine ls <| q1 hF rfl (e_lss hF rfl rfl) fun a hF => ?_
          refine re <| ?_
          rcases bdich (decide (vD1 < (r19.length : Int))) with hb27 | hb27
          ·
            replace hm := itp_t hm hb27
            refine tn <| ctv hF rfl hb27 <| wp_skip <| ?_
            refine tn <| th <| wp_block <| th <| ?_
            replace hm := bind_some hm
            obtain ⟨x28, h29, hm⟩ := hm
            have ho30 := Rd.oaI (hS.rdO (.head _)) hv17 (by decide) h29
            obtain ⟨c31, g32, hl33⟩ := Rows.getI hv17 h29
            obtain rfl := api_Use_open g32
            replace hm := bind_some hm
            obtain ⟨x34, h35, hm⟩ := hm
            have ho36 := Rd.oaI (hS.rdO (.tail _ (.head _))) hv24 (by decide) h35
            obtain ⟨c37, g38, hl39⟩ := Rows.getI hv24 h35
            obtain rfl := api_Use_open g38
            replace hm := bind_some hm
            obtain ⟨r40, h41, hm⟩ := hm
            refine rdS 9 hS wide fun w hS => ?_
            refine d1 (i := 0) rfl (by kernel_rfl) (by kernel_rfl) (St.ld hS) hF rfl (fun _ _ _ h => h) (fun w hl => (e_move hF rfl)) fun a hF => ?_
            refine d1 (i := 1) rfl (by kernel_rfl) (by kernel_rfl) (St.ld hS) hF rfl (fun _ _ _ h => h) (fun w hl => (e_move hF rfl)) fun a hF => ?_
            refine d1 (i := 2) rfl (by kernel_rfl) (by kernel_rfl) (St.ld hS) hF rfl (fun _ _ _ h => h) (fun w hl => (e_iaI hF Tryd.runUnderlying29 Tryd.sizeOf27 rfl rfl h29 ho30)) fun a hF => ?_
            refine d1 (i := 3) rfl (by kernel_rfl) (by kernel_rfl) (St.ld hS) hF rfl (fun _ _ _ h => h) (fun w hl => (e_ldA hF Tryd.isAgg27 Tryd.sizeOf27 rfl rfl (hl.elsO (.head _) hl33))) fun a hF => ?_
            refine d1 (i := 4) rfl (by kernel_rfl) (by kernel_rfl) (St.ld hS) hF rfl (fun _ _ _ h => h) (fun w hl => (e_move hF rfl)) fun a hF => ?_
            refine d1 (i := 5) rfl (by kernel_rfl) (by kernel_rfl) (St.ld hS) hF rfl (fun _ _ _ h => h) (fun w hl => (e_move hF rfl)) fun a hF => ?_
            refine d1 (i := 6) rfl (by kernel_rfl) (by kernel_rfl) (St.ld hS) hF rfl (fun _ _ _ h => h) (fun w hl => (e_iaI hF Tryd.runUnderlying29 Tryd.sizeOf27 rfl rfl h35 ho36)) fun a hF => ?_
            refine d1 (i := 7) rfl (by kernel_rfl) (by kernel_rfl) (St.ld hS) hF rfl (fun _ _ _ h => h) (fun w hl => (e_ldA hF Tryd.isAgg27 Tryd.sizeOf27 rfl rfl (hl.elsO (.tail _ (.head _)) hl39))) fun a hF => ?_
            refine da1 (i := 8) (by kernel_rfl) ?_
            refine di (i := 8) rfl <| c1 hF rfl Tryd.call23 (leadlineref15_Clash_c (hp_le _) h41) ⟨rfl, rfl, trivial⟩ (fun v w a hR hF => ?_)
            obtain ⟨rfl, hk⟩ := hR
            replace hS := hS.pass hk
            clear hk
            refine ⟨fun _ => (St.ld hS), ?_⟩
            refine de (by kernel_rfl) <| ?_
            rcases bdich r40 with hb42 | hb42
            ·
              replace hm := ite_t hm hb42
              refine tn <| ctv hF rfl hb42 <| th <| ?_
              refine rg <| ?_
              refine ls <| q1 hF rfl (e_asg hF rfl) fun a hF => ?_
              refine re <| ?_
              refine tn <| ?_
              refine wp_ret <| br <| tr <| tr <| br <| br <| tr <| tr <| br <| tr <| ?_
              obtain rfl := Option.some.inj hm
              exact r1 hF Tryd.results17 rfl ⟨rfl, hS.keep⟩
            ·
              replace hm := ite_f hm hb42
              refine tn <| cfv hF rfl hb42 <| wp_skip <| ?_
              refine bn <| tn <| ?_
              refine rg <| ?_
              refine ls <| q1 hF rfl (e_move hF rfl) fun a hF => ?_
              refine ls <| q1 hF rfl (e_add hF rfl rfl) fun a hF => ?_
              refine ls <| q1 hF rfl (e_asg hF rfl) fun a hF => ?_
              refine re <| ?_
              refine tn <| ?_
              exact ⟨(nn4, (IntKind.i64.wrap (vD1 + 1))), ⟨hm, hF.has ⟨rfl, rfl, rfl, rfl, trivial⟩, hS⟩, Nat.lt_succ_self _⟩
          ·
            replace hm := itp_f hm hb27
            refine tn <| cfv hF rfl hb27 <| ?_
            refine wp_exit <| tx <| tx <| bx <| ?_
            refine bn <| tn <| ?_
            exact ⟨hm, hF.has ⟨rfl, rfl, rfl, trivial⟩, hS⟩
        clear hm hF hS
        rintro a w ⟨hm, hF, hS⟩
        unfold leadlineref15_Depend_j3 at hm
        refine rg <| ?_
        refine ls <| q1 hF rfl (e_move hF rfl) fun a hF => ?_
        refine ls <| q1 hF rfl (e_add hF rfl rfl) fun a hF => ?_
        refine ls <| q1 hF rfl (e_asg hF rfl) fun a hF => ?_
        refine re <| ?_
        refine tn <| ?_
        exact ⟨(nn2, (IntKind.i64.wrap (vB2 + 1))), ⟨HB1, hm, hxHB1, hF.has ⟨rfl, rfl, rfl, trivial⟩, hS⟩, Nat.lt_succ_self _⟩
      ·
        replace hm := itp_f hm hb26
        refine tn <| cfv hF rfl hb26 <| ?_
        refine wp_exit <| tx <| tx <| bx <| ?_
        refine tn <| ?_
        replace hS := hS.pickL .nil
        exact ⟨HB1, hm, hxHB1, hF.has trivial, hS⟩
    clear hm hF hS
    rintro a w ⟨HA1, hm, hxHA1, hF, hS⟩
    unfold leadlineref15_Depend_j1 at hm
    refine th <| ?_
    refine rg <| ?_
    refine ls <| q1 hF rfl (e_asg hF rfl) fun a hF => ?_
    refine re <| ?_
    refine tn <| ?_
    refine wp_ret <| ?_
    obtain rfl := Option.some.inj hm
    exact r1 hF Tryd.results17 rfl ⟨rfl, hS.keep⟩

set_option maxRecDepth 100000 in
theorem event_known_c {N : Nat} {w0 : World} {H : PH} (hH : H.le w0) {p1 : Int} {r : Bool} (hm : event_known N p1 = some r) : Tot Tryd.prog 44 #[.int .i64 p1] w0 (fun v w' => v = .bool r ∧ Keep Nil w0 w') := by
  unfold event_known at hm
  refine fn0 (args := [.int .i64 p1]) (F := [(0, .int .i64 p1)]) Tryd.func44 rfl Tryd.ntmps44 rfl rfl fun a hF => ?_
  have hS : St w0 Nil [H] [] w0 := start1 hH
  refine th <| ?_
  refine rg <| ?_
  refine ls <| q1 hF rfl (e_asg hF rfl) fun a hF => ?_
  refine re <| ?_
  refine tn <| th <| ?_
  refine rg <| ?_
  refine ls <| q1 hF rfl (e_move hF rfl) fun a hF => ?_
  refine ls <| q1 hF rfl (e_geq hF rfl rfl) fun a hF => ?_
  refine ls <| q1 hF rfl (e_move hF rfl) fun a hF => ?_
  refine grp (N := 9) (Fk := [(8, .bool ((decide (1 ≤ p1)) && (decide (p1 < 17))))]) (b := (decide (1 ≤ p1))) 3 hS ?_ ?_ ?_
  ·
    intro hb key
    replace hF := Fr.as hF (t := 5) rfl (congrArg Value.bool hb)
    refine ls <| gy hF rfl rfl <| q1 hF rfl (e_move hF rfl) fun a hF => ?_
    refine ls <| gy hF rfl rfl <| q1 hF rfl (e_lss hF rfl rfl) fun a hF => ?_
    refine ls <| q1 hF rfl (e_as (v' := .bool ((decide (1 ≤ p1)) && (decide (p1 < 17)))) (e_pickT hF rfl rfl) (by rw [hb]; rfl)) fun a hF => ?_
    exact key _ _ (hF.has ⟨rfl, trivial⟩) hS
  ·
    intro hb key
    replace hF := Fr.as hF (t := 5) rfl (congrArg Value.bool hb)
    refine ls <| gn hF rfl rfl rfl rfl fun a hF => ?_
    refine ls <| gn hF rfl rfl rfl rfl fun a hF => ?_
    refine ls <| q1 hF rfl (e_as (v' := .bool ((decide (1 ≤ p1)) && (decide (p1 < 17)))) (e_pickF hF rfl rfl) (by rw [hb]; rfl)) fun a hF => ?_
    exact key _ _ (hF.has ⟨rfl, trivial⟩) hS
  intro a w hF hS
  refine ls <| q1 hF rfl (e_asg hF rfl) fun a hF => ?_
  refine re <| ?_
  refine tn <| ?_
  refine wp_ret <| ?_
  obtain rfl := Option.some.inj hm
  exact r1 hF Tryd.results44 rfl ⟨rfl, hS.keep⟩

set_option maxRecDepth 100000 in
theorem event_kinds_c {N : Nat} {w0 : World} {H : PH} (hH : H.le w0)  {r : (Arr 17 event_kind)} (hm : event_kinds N  = some r) : Tot Tryd.prog 45 #[] w0 (fun v w' => ∃ (H' : PH) (cs0 : List Value), v = .agg cs0.toArray ∧ Enc.rep H' cs0 r ∧ Ext w0 H H' ∧ H'.le w' ∧ Keep Nil w0 w') := by
  unfold event_kinds at hm
  refine fn0 (args := []) (F := []) Tryd.func45 rfl Tryd.ntmps45 rfl rfl fun a hF => ?_
  have hS : St w0 Nil [H] [] w0 := start1 hH
  refine th <| ?_
  refine rg <| ?_
  refine ls <| a_alloc (cs := [strv [], .bool false, .bool false, .bool false, strv [], .bool false, .bool false, .bool false, strv [], .bool false, .bool false, .bool false, strv [], .bool false, .bool false, .bool false, strv [], .bool false, .bool false, .bool false, strv [], .bool false, .bool false, .bool false, strv [], .bool false, .bool false, .bool false, strv [], .bool false, .bool false, .bool false, strv [], .bool false, .bool false, .bool false, strv [], .bool false, .bool false, .bool false, strv [], .bool false, .bool false, .bool false, strv [], .bool false, .bool false, .bool false, strv [], .bool false, .bool false, .bool false, strv [], .bool false, .bool false, .bool false, strv [], .bool false, .bool false, .bool false, strv [], .bool false, .bool false, .bool false, strv [], .bool false, .bool false, .bool false].toArray) hF rfl hS Tryd.zeroValue60 rfl fun b1 w a hS hF => ?_
  refine re <| ?_
  refine tn <| th <| ?_
  refine rg <| ?_
  refine ls <| q1 hF rfl (e_bldK [strv [108, 111, 97, 100], .bool true, .bool true, .bool false] [strv [108, 111, 97, 100], .bool true, .bool true, .bool false] hF ⟨rfl, rfl, rfl, rfl, trivial⟩ (fun w => by kernel_rfl)) fun a hF => ?_
  refine ls <| q1 hF rfl (e_bldK [strv [111, 119, 110], .bool true, .bool true, .bool false] [strv [111, 119, 110], .bool true, .bool true, .bool false] hF ⟨rfl, rfl, rfl, rfl, trivial⟩ (fun w => by kernel_rfl)) fun a hF => ?_
  refine ls <| q1 hF rfl (e_bldK [strv [115, 116, 111, 114, 101], .bool true, .bool true, .bool false] [strv [115, 116, 111, 114, 101], .bool true, .bool true, .bool false] hF ⟨rfl, rfl, rfl, rfl, trivial⟩ (fun w => by kernel_rfl)) fun a hF => ?_
  refine ls <| q1 hF rfl (e_bldK [strv [102, 108, 117, 115, 104], .bool true, .bool false, .bool false] [strv [102, 108, 117, 115, 104], .bool true, .bool false, .bool false] hF ⟨rfl, rfl, rfl, rfl, trivial⟩ (fun w => by kernel_rfl)) fun a hF => ?_
  refine ls <| q1 hF rfl (e_bldK [strv [111, 112, 116], .bool true, .bool false, .bool false] [strv [111, 112, 116], .bool true, .bool false, .bool false] hF ⟨rfl, rfl, rfl, rfl, trivial⟩ (fun w => by kernel_rfl)) fun a hF => ?_
  refine ls <| q1 hF rfl (e_bldK [strv [115, 102, 101, 110, 99, 101], .bool false, .bool false, .bool false] [strv [115, 102, 101, 110, 99, 101], .bool false, .bool false, .bool false] hF ⟨rfl, rfl, rfl, rfl, trivial⟩ (fun w => by kernel_rfl)) fun a hF => ?_
  refine ls <| q1 hF rfl (e_bldK [strv [109, 102, 101, 110, 99, 101], .bool false, .bool false, .bool false] [strv [109, 102, 101, 110, 99, 101], .bool false, .bool false, .bool false] hF ⟨rfl, rfl, rfl, rfl, trivial⟩ (fun w => by kernel_rfl)) fun a hF => ?_
  refine ls <| q1 hF rfl (e_bldK [strv [99, 97, 115], .bool true, .bool true, .bool true] [strv [99, 97, 115], .bool true, .bool true, .bool true] hF ⟨rfl, rfl, rfl, rfl, trivial⟩ (fun w => by kernel_rfl)) fun a hF => ?_
  refine ls <| q1 hF rfl (e_bldK [strv [102, 97, 105, 108], .bool true, .bool true, .bool false] [strv [102, 97, 105, 108], .bool true, .bool true, .bool false] hF ⟨rfl, rfl, rfl, rfl, trivial⟩ (fun w => by kernel_rfl)) fun a hF => ?_
  refine ls <| q1 hF rfl (e_bldK [strv [116, 97, 107, 101], .bool true, .bool false, .bool false] [strv [116, 97, 107, 101], .bool true, .bool false, .bool false] hF ⟨rfl, rfl, rfl, rfl, trivial⟩ (fun w => by kernel_rfl)) fun a hF => ?_
  refine ls <| q1 hF rfl (e_bldK [strv [103, 105, 118, 101], .bool true, .bool false, .bool false] [strv [103, 105, 118, 101], .bool true, .bool false, .bool false] hF ⟨rfl, rfl, rfl, rfl, trivial⟩ (fun w => by kernel_rfl)) fun a hF => ?_
  refine ls <| q1 hF rfl (e_bldK [strv [99, 111, 109, 101], .bool true, .bool true, .bool false] [strv [99, 111, 109, 101], .bool true, .bool true, .bool false] hF ⟨rfl, rfl, rfl, rfl, trivial⟩ (fun w => by kernel_rfl)) fun a hF => ?_
  refine ls <| q1 hF rfl (e_bldK [strv [111, 117, 116], .bool true, .bool false, .bool false] [strv [111, 117, 116], .bool true, .bool false, .bool false] hF ⟨rfl, rfl, rfl, rfl, trivial⟩ (fun w => by kernel_rfl)) fun a hF => ?_
  refine ls <| q1 hF rfl (e_bldK [strv [102, 101, 110, 99, 101], .bool false, .bool false, .bool false] [strv [102, 101, 110, 99, 101], .bool false, .bool false, .bool false] hF ⟨rfl, rfl, rfl, rfl, trivial⟩ (fun w => by kernel_rfl)) fun a hF => ?_
  refine ls <| q1 hF rfl (e_bldK [strv [99, 114, 97, 115, 104], .bool false, .bool true, .bool false] [strv [99, 114, 97, 115, 104], .bool false, .bool true, .bool false] hF ⟨rfl, rfl, rfl, rfl, trivial⟩ (fun w => by kernel_rfl)) fun a hF => ?_
  refine ls <| q1 hF rfl (e_bldK [strv [102, 97, 117, 108, 116], .bool true, .bool false, .bool false] [strv [102, 97, 117, 108, 116], .bool true, .bool false, .bool false] hF ⟨rfl, rfl, rfl, rfl, trivial⟩ (fun w => by kernel_rfl)) fun a hF => ?_
  refine ls <| q1 hF rfl (e_bldK [.agg #[strv [108, 111, 97, 100], .bool true, .bool true, .bool false], .agg #[strv [111, 119, 110], .bool true, .bool true, .bool false], .agg #[strv [115, 116, 111, 114, 101], .bool true, .bool true, .bool false], .agg #[strv [102, 108, 117, 115, 104], .bool true, .bool false, .bool false], .agg #[strv [111, 112, 116], .bool true, .bool false, .bool false], .agg #[strv [115, 102, 101, 110, 99, 101], .bool false, .bool false, .bool false], .agg #[strv [109, 102, 101, 110, 99, 101], .bool false, .bool false, .bool false], .agg #[strv [99, 97, 115], .bool true, .bool true, .bool true], .agg #[strv [102, 97, 105, 108], .bool true, .bool true, .bool false], .agg #[strv [116, 97, 107, 101], .bool true, .bool false, .bool false], .agg #[strv [103, 105, 118, 101], .bool true, .bool false, .bool false], .agg #[strv [99, 111, 109, 101], .bool true, .bool true, .bool false], .agg #[strv [111, 117, 116], .bool true, .bool false, .bool false], .agg #[strv [102, 101, 110, 99, 101], .bool false, .bool false, .bool false], .agg #[strv [99, 114, 97, 115, 104], .bool false, .bool true, .bool false], .agg #[strv [102, 97, 117, 108, 116], .bool true, .bool false, .bool false]] [strv [], .bool false, .bool false, .bool false, strv [108, 111, 97, 100], .bool true, .bool true, .bool false, strv [111, 119, 110], .bool true, .bool true, .bool false, strv [115, 116, 111, 114, 101], .bool true, .bool true, .bool false, strv [102, 108, 117, 115, 104], .bool true, .bool false, .bool false, strv [111, 112, 116], .bool true, .bool false, .bool false, strv [115, 102, 101, 110, 99, 101], .bool false, .bool false, .bool false, strv [109, 102, 101, 110, 99, 101], .bool false, .bool false, .bool false, strv [99, 97, 115], .bool true, .bool true, .bool true, strv [102, 97, 105, 108], .bool true, .bool true, .bool false, strv [116, 97, 107, 101], .bool true, .bool false, .bool false, strv [103, 105, 118, 101], .bool true, .bool false, .bool false, strv [99, 111, 109, 101], .bool true, .bool true, .bool false, strv [111, 117, 116], .bool true, .bool false, .bool false, strv [102, 101, 110, 99, 101], .bool false, .bool false, .bool false, strv [99, 114, 97, 115, 104], .bool false, .bool true, .bool false, strv [102, 97, 117, 108, 116], .bool true, .bool false, .bool false] hF ⟨rfl, rfl, rfl, rfl, rfl, rfl, rfl, rfl, rfl, rfl, rfl, rfl, rfl, rfl, rfl, rfl, trivial⟩ (fun w => by kernel_rfl)) fun a hF => ?_
  refine ls <| s_blkA hF hS Tryd.sizeOf60 rfl rfl rfl rfl (one_cells rfl) .head fun w hS => ?_
  refine re <| ?_
  refine tn <| ?_
  refine wp_ret <| ?_
  obtain rfl := Option.some.inj hm
  exact r1c (vs := [strv [], .bool false, .bool false, .bool false, strv [108, 111, 97, 100], .bool true, .bool true, .bool false, strv [111, 119, 110], .bool true, .bool true, .bool false, strv [115, 116, 111, 114, 101], .bool true, .bool true, .bool false, strv [102, 108, 117, 115, 104], .bool true, .bool false, .bool false, strv [111, 112, 116], .bool true, .bool false, .bool false, strv [115, 102, 101, 110, 99, 101], .bool false, .bool false, .bool false, strv [109, 102, 101, 110, 99, 101], .bool false, .bool false, .bool false, strv [99, 97, 115], .bool true, .bool true, .bool true, strv [102, 97, 105, 108], .bool true, .bool true, .bool false, strv [116, 97, 107, 101], .bool true, .bool false, .bool false, strv [103, 105, 118, 101], .bool true, .bool false, .bool false, strv [99, 111, 109, 101], .bool true, .bool true, .bool false, strv [111, 117, 116], .bool true, .bool false, .bool false, strv [102, 101, 110, 99, 101], .bool false, .bool false, .bool false, strv [99, 114, 97, 115, 104], .bool false, .bool true, .bool false, strv [102, 97, 117, 108, 116], .bool true, .bool false, .bool false]) (.inl rfl) hF Tryd.results45 rfl Tryd.isAgg60 Tryd.sizeOf60 rfl ((St.ld hS).cellsB (.head _)) ⟨H, _, rfl, (show Enc.rep (α := (Arr 17 event_kind)) H [strv [], .bool false, .bool false, .bool false, strv [108, 111, 97, 100], .bool true, .bool true, .bool false, strv [111, 119, 110], .bool true, .bool true, .bool false, strv [115, 116, 111, 114, 101], .bool true, .bool true, .bool false, strv [102, 108, 117, 115, 104], .bool true, .bool false, .bool false, strv [111, 112, 116], .bool true, .bool false, .bool false, strv [115, 102, 101, 110, 99, 101], .bool false, .bool false, .bool false, strv [109, 102, 101, 110, 99, 101], .bool false, .bool false, .bool false, strv [99, 97, 115], .bool true, .bool true, .bool true, strv [102, 97, 105, 108], .bool true, .bool true, .bool false, strv [116, 97, 107, 101], .bool true, .bool false, .bool false, strv [103, 105, 118, 101], .bool true, .bool false, .bool false, strv [99, 111, 109, 101], .bool true, .bool true, .bool false, strv [111, 117, 116], .bool true, .bool false, .bool false, strv [102, 101, 110, 99, 101], .bool false, .bool false, .bool false, strv [99, 114, 97, 115, 104], .bool false, .bool true, .bool false, strv [102, 97, 117, 108, 116], .bool true, .bool false, .bool false] (⟨[(event_kind.mk [] false false false), (event_kind.mk [108, 111, 97, 100] true true false), (event_kind.mk [111, 119, 110] true true false), (event_kind.mk [115, 116, 111, 114, 101] true true false), (event_kind.mk [102, 108, 117, 115, 104] true false false), (event_kind.mk [111, 112, 116] true false false), (event_kind.mk [115, 102, 101, 110, 99, 101] false false false), (event_kind.mk [109, 102, 101, 110, 99, 101] false false false), (event_kind.mk [99, 97, 115] true true true), (event_kind.mk [102, 97, 105, 108] true true false), (event_kind.mk [116, 97, 107, 101] true false false), (event_kind.mk [103, 105, 118, 101] true false false), (event_kind.mk [99, 111, 109, 101] true true false), (event_kind.mk [111, 117, 116] true false false), (event_kind.mk [102, 101, 110, 99, 101] false false false), (event_kind.mk [99, 114, 97, 115, 104] false true false), (event_kind.mk [102, 97, 117, 108, 116] true false false)], rfl⟩ : (Arr 17 event_kind)) from (.cons (c := [strv [], .bool false, .bool false, .bool false]) ⟨_, _, rfl, rfl, ⟨_, _, rfl, rfl, ⟨_, _, rfl, rfl, rfl⟩⟩⟩ (.cons (c := [strv [108, 111, 97, 100], .bool true, .bool true, .bool false]) ⟨_, _, rfl, rfl, ⟨_, _, rfl, rfl, ⟨_, _, rfl, rfl, rfl⟩⟩⟩ (.cons (c := [strv [111, 119, 110], .bool true, .bool true, .bool false]) ⟨_, _, rfl, rfl, ⟨_, _, rfl, rfl, ⟨_, _, rfl, rfl, rfl⟩⟩⟩ (.cons (c := [strv [115, 116, 111, 114, 101], .bool true, .bool true, .bool false]) ⟨_, _, rfl, rfl, ⟨_, _, rfl, rfl, ⟨_, _, rfl, rfl, rfl⟩⟩⟩ (.cons (c := [strv [102, 108, 117, 115, 104], .bool true, .bool false, .bool false]) ⟨_, _, rfl, rfl, ⟨_, _, rfl, rfl, ⟨_, _, rfl, rfl, rfl⟩⟩⟩ (.cons (c := [strv [111, 112, 116], .bool true, .bool false, .bool false]) ⟨_, _, rfl, rfl, ⟨_, _, rfl, rfl, ⟨_, _, rfl, rfl, rfl⟩⟩⟩ (.cons (c := [strv [115, 102, 101, 110, 99, 101], .bool false, .bool false, .bool false]) ⟨_, _, rfl, rfl, ⟨_, _, rfl, rfl, ⟨_, _, rfl, rfl, rfl⟩⟩⟩ (.cons (c := [strv [109, 102, 101, 110, 99, 101], .bool false, .bool false, .bool false]) ⟨_, _, rfl, rfl, ⟨_, _, rfl, rfl, ⟨_, _, rfl, rfl, rfl⟩⟩⟩ (.cons (c := [strv [99, 97, 115], .bool true, .bool true, .bool true]) ⟨_, _, rfl, rfl, ⟨_, _, rfl, rfl, ⟨_, _, rfl, rfl, rfl⟩⟩⟩ (.cons (c := [strv [102, 97, 105, 108], .bool true, .bool true, .bool false]) ⟨_, _, rfl, rfl, ⟨_, _, rfl, rfl, ⟨_, _, rfl, rfl, rfl⟩⟩⟩ (.cons (c := [strv [116, 97, 107, 101], .bool true, .bool false, .bool false]) ⟨_, _, rfl, rfl, ⟨_, _, rfl, rfl, ⟨_, _, rfl, rfl, rfl⟩⟩⟩ (.cons (c := [strv [103, 105, 118, 101], .bool true, .bool false, .bool false]) ⟨_, _, rfl, rfl, ⟨_, _, rfl, rfl, ⟨_, _, rfl, rfl, rfl⟩⟩⟩ (.cons (c := [strv [99, 111, 109, 101], .bool true, .bool true, .bool false]) ⟨_, _, rfl, rfl, ⟨_, _, rfl, rfl, ⟨_, _, rfl, rfl, rfl⟩⟩⟩ (.cons (c := [strv [111, 117, 116], .bool true, .bool false, .bool false]) ⟨_, _, rfl, rfl, ⟨_, _, rfl, rfl, ⟨_, _, rfl, rfl, rfl⟩⟩⟩ (.cons (c := [strv [102, 101, 110, 99, 101], .bool false, .bool false, .bool false]) ⟨_, _, rfl, rfl, ⟨_, _, rfl, rfl, ⟨_, _, rfl, rfl, rfl⟩⟩⟩ (.cons (c := [strv [99, 114, 97, 115, 104], .bool false, .bool true, .bool false]) ⟨_, _, rfl, rfl, ⟨_, _, rfl, rfl, ⟨_, _, rfl, rfl, rfl⟩⟩⟩ (.cons (c := [strv [102, 97, 117, 108, 116], .bool true, .bool false, .bool false]) ⟨_, _, rfl, rfl, ⟨_, _, rfl, rfl, ⟨_, _, rfl, rfl, rfl⟩⟩⟩ .nil)))))))))))))))))), (Ext.refl _ _), (St.le hS), hS.keep⟩

set_option maxRecDepth 100000 in
theorem event_Right_c {N : Nat} {w0 : World} {H : PH} (hH : H.le w0) {p1 : api_Event} {r : Bool} (hm : event_Right N p1 = some r) : Tot Tryd.prog 18 #[.agg #[.int .i64 p1.Kind, .int .i64 p1.T, .int .i64 p1.A, .int .i64 p1.N, .int .i64 p1.M]] w0 (fun v w' => v = .bool r ∧ Keep Nil w0 w') := by
  unfold event_Right at hm
  refine fn0 (args := [.agg #[.int .i64 p1.Kind, .int .i64 p1.T, .int .i64 p1.A, .int .i64 p1.N, .int .i64 p1.M]]) (F := [(0, .agg #[.int .i64 p1.Kind, .int .i64 p1.T, .int .i64 p1.A, .int .i64 p1.N, .int .i64 p1.M])]) Tryd.func18 rfl Tryd.ntmps18 rfl rfl fun a hF => ?_
  have hS : St w0 Nil [H] [] w0 := start1 hH
  refine th <| ?_
  refine rg <| ?_
  refine ls <| a_box (cs := [.int .i64 p1.Kind, .int .i64 p1.T, .int .i64 p1.A, .int .i64 p1.N, .int .i64 p1.M].toArray) hF rfl hS rfl rfl fun b2 w a hS hF => ?_
  refine ls <| q1 hF rfl (e_asg hF rfl) fun a hF => ?_
  refine re <| ?_
  refine tn <| th <| th <| ?_
  replace hm := bind_some hm
  obtain ⟨r3, h4, hm⟩ := hm
  refine rg <| ?_
  refine ls <| q1 hF rfl (e_fa hF fa23_0 rfl) fun a hF => ?_
  refine ls <| q1 hF rfl (e_ld hF Tryd.isAgg3 rfl ((St.ld hS).cellB (.head _) rfl)) fun a hF => ?_
  refine ls <| c1 hF rfl Tryd.call44 (event_known_c (hp_le _) h4) ⟨rfl, trivial⟩ (fun v w a hR hF => ?_)
  obtain ⟨rfl, hk⟩ := hR
  replace hS := hS.pass hk
  clear hk
  refine ls <| q1 hF rfl (e_not hF rfl) fun a hF => ?_
  refine ls <| q1 hF rfl (e_move hF rfl) fun a hF => ?_
  refine grp (N := 57) (Fk := [(1, .pointer (some ⟨b2, 0, none⟩)), (12, .bool ((!r3) || (decide (p1.T < 0))))]) (b := (!r3)) 4 hS ?_ ?_ ?_
  ·
    intro hb key
    replace hF := Fr.as hF (t := 8) rfl (congrArg Value.bool hb)
    refine ls <| gn hF rfl rfl rfl rfl fun a hF => ?_
    refine ls <| gn hF rfl rfl rfl rfl fun a hF => ?_
    refine ls <| gn hF rfl rfl rfl rfl fun a hF => ?_
    refine ls <| q1 hF rfl (e_as (v' := .bool ((!r3) || (decide (p1.T < 0)))) (e_pickT hF rfl rfl) (by rw [hb]; rfl)) fun a hF => ?_
    exact key _ _ (hF.has ⟨rfl, rfl, trivial⟩) hS
  ·
    intro hb key
    replace hF := Fr.as hF (t := 8) rfl (congrArg Value.bool hb)
    refine ls <| gy hF rfl rfl <| q1 hF rfl (e_fa hF fa23_1 rfl) fun a hF => ?_
    refine ls <| gy hF rfl rfl <| q1 hF rfl (e_ld hF Tryd.isAgg3 rfl ((St.ld hS).cellB (.head _) rfl)) fun a hF => ?_
    refine ls <| gy hF rfl rfl <| q1 hF rfl (e_lss hF rfl rfl) fun a hF => ?_
    refine ls <| q1 hF rfl (e_as (v' := .bool ((!r3) || (decide (p1.T < 0)))) (e_pickF hF rfl rfl) (by rw [hb]; rfl)) fun a hF => ?_
    exact key _ _ (hF.has ⟨rfl, rfl, trivial⟩) hS
  intro a w hF hS
  refine ls <| q1 hF rfl (e_move hF rfl) fun a hF => ?_
  refine grp (N := 57) (Fk := [(1, .pointer (some ⟨b2, 0, none⟩)), (17, .bool (((!r3) || (decide (p1.T < 0))) || (decide (p1.A < 0))))]) (b := ((!r3) || (decide (p1.T < 0)))) 4 hS ?_ ?_ ?_
  ·
    intro hb key
    replace hF := Fr.as hF (t := 13) rfl (congrArg Value.bool hb)
    refine ls <| gn hF rfl rfl rfl rfl fun a hF => ?_
    refine ls <| gn hF rfl rfl rfl rfl fun a hF => ?_
    refine ls <| gn hF rfl rfl rfl rfl fun a hF => ?_
    refine ls <| q1 hF rfl (e_as (v' := .bool (((!r3) || (decide (p1.T < 0))) || (decide (p1.A < 0)))) (e_pickT hF rfl rfl) (by rw [hb]; rfl)) fun a hF => ?_
    exact key _ _ (hF.has ⟨rfl, rfl, trivial⟩) hS
  ·
    intro hb key
    replace hF := Fr.as hF (t := 13) rfl (congrArg Value.bool hb)
    refine ls <| gy hF rfl rfl <| q1 hF rfl (e_fa hF fa23_2 rfl) fun a hF => ?_
    refine ls <| gy hF rfl rfl <| q1 hF rfl (e_ld hF Tryd.isAgg3 rfl ((St.ld hS).cellB (.head _) rfl)) fun a hF => ?_
    refine ls <| gy hF rfl rfl <| q1 hF rfl (e_lss hF rfl rfl) fun a hF => ?_
    refine ls <| q1 hF rfl (e_as (v' := .bool (((!r3) || (decide (p1.T < 0))) || (decide (p1.A < 0)))) (e_pickF hF rfl rfl) (by rw [hb]; rfl)) fun a hF => ?_
    exact key _ _ (hF.has ⟨rfl, rfl, trivial⟩) hS
  intro a w hF hS
  refine re <| ?_
  rcases bdich (((!r3) || (decide (p1.T < 0))) || (decide (p1.A < 0))) with hb5 | hb5
  ·
    replace hm := ite_t hm hb5
    refine tn <| ctv hF rfl hb5 <| th <| ?_
    refine rg <| ?_
    refine ls <| q1 hF rfl (e_asg hF rfl) fun a hF => ?_
    refine re <| ?_
    refine tn <| ?_
    refine wp_ret <| tr <| ?_
    obtain rfl := Option.some.inj hm
    exact r1 hF Tryd.results18 rfl ⟨rfl, hS.keep⟩
  ·
    replace hm := ite_f hm hb5
    refine tn <| cfv hF rfl hb5 <| wp_skip <| ?_
    refine tn <| th <| midK (fun a w => ∃ (vA3 : event_kind) (HA1 : PH) (bA2 : Nat), (event_Right_j1 N p1) vA3 = some r ∧ Ext w0 H HA1 ∧ Fr 57 [(1, .pointer (some ⟨b2, 0, none⟩)), (3, .pointer (some ⟨bA2, 0, none⟩))] a ∧ St w0 Nil [HA1] [blk b2 (.cells [.int .i64 p1.Kind, .int .i64 p1.T, .int .i64 p1.A, .int .i64 p1.N, .int .i64 p1.M].toArray 23 (0, 0)), blk bA2 (.cells [strv vA3.name, .bool vA3.a, .bool vA3.n, .bool vA3.m].toArray 59 (0, 0))] w) ?_ ?_
    ·
      replace hm := bind_some hm
      obtain ⟨r6, h7, hm⟩ := hm
      replace hm := bind_some hm
      obtain ⟨x14, h15, hm⟩ := hm
      refine rdS 5 hS wide fun w hS => ?_
      refine d1 (i := 1) rfl (by kernel_rfl) (by kernel_rfl) (St.ld hS) hF rfl (fun _ _ _ h => h) (fun w hl => (e_fa hF fa23_0 rfl)) fun a hF => ?_
      refine d1 (i := 2) rfl (by kernel_rfl) (by kernel_rfl) (St.ld hS) hF rfl (fun _ _ _ h => h) (fun w hl => (e_ld hF Tryd.isAgg3 rfl (hl.cellB (.head _) rfl))) fun a hF => ?_
      refine da2 (i := 0) (j := 4) (by kernel_rfl) ?_ ?_
      ·
        refine di (i := 0) rfl <| c1 hF rfl Tryd.call45 (event_kinds_c (St.le hS) h7) trivial (fun v w a hR hF => ?_)
        obtain ⟨H10, cs11, rfl, g12, hx8, hl9, hk⟩ := hR
        obtain ⟨hS, hx8⟩ := And.intro (St.passH hS hk hx8 hl9) (St.extc hS hx8)
        clear hk
        have hv13 : Rows H10 cs11 r6.l := g12
        refine ⟨fun _ => (St.ldsX hS hx8.sub (sub_cons (.head _) sub_nil)), ?_⟩
        obtain ⟨c16, g17, hl18⟩ := Rows.getI hv13 h15
        obtain rfl := event_kind_open g17
        refine d1 (i := 3) rfl (by kernel_rfl) (by kernel_rfl) (St.ldsX hS hx8.sub (sub_cons (.head _) sub_nil)) hF rfl (fun _ _ _ h => h) (fun w hl => (e_ixA hF Tryd.runUnderlying60 Tryd.sizeOf59 Tryd.isAgg59 rfl rfl r6.h h15 rfl hl18)) fun a hF => ?_
        refine da1 (i := 4) (by kernel_rfl) ?_
        refine di (i := 4) rfl <| a_alloc (cs := [strv [], .bool false, .bool false, .bool false].toArray) hF rfl hS Tryd.zeroValue59 rfl fun b19 w a hS hF => ?_
        refine ⟨fun _ => (St.ldsX hS hx8.sub (sub_cons (.tail _ (.head _)) sub_nil)), ?_⟩
        refine da1 (i := 5) (by kernel_rfl) ?_
        refine di (i := 5) rfl <| s_blkA hF hS Tryd.sizeOf59 rfl rfl rfl rfl (one_cells rfl) .head fun w hS => ?_
        refine ⟨fun h => absurd rfl h, ?_⟩
        refine de (by kernel_rfl) <| ?_
        refine tn <| ?_
        replace hS := hS.pickL (.cons (.tail .head) (.cons .head .nil))
        exact ⟨x14, H10, b19, hm, hx8, hF.has ⟨rfl, rfl, trivial⟩, hS⟩
      ·
        refine di (i := 4) rfl <| a_alloc (cs := [strv [], .bool false, .bool false, .bool false].toArray) hF rfl hS Tryd.zeroValue59 rfl fun b19 w a hS hF => ?_
        refine ⟨fun _ => (St.ldsX hS (fun _ _ h => h) (sub_cons (.tail _ (.head _)) sub_nil)), ?_⟩
        refine da1 (i := 0) (by kernel_rfl) ?_
        refine di (i := 0) rfl <| c1 hF rfl Tryd.call45 (event_kinds_c (St.le hS) h7) trivial (fun v w a hR hF => ?_)
        obtain ⟨H10, cs11, rfl, g12, hx8, hl9, hk⟩ := hR
        obtain ⟨hS, hx8⟩ := And.intro (St.passH hS hk hx8 hl9) (St.extc hS hx8)
        clear hk
        have hv13 : Rows H10 cs11 r6.l := g12
        refine ⟨fun _ => (St.ldsX hS hx8.sub (sub_cons (.tail _ (.head _)) sub_nil)), ?_⟩
        obtain ⟨c16, g17, hl18⟩ := Rows.getI hv13 h15
        obtain rfl := event_kind_open g17
        refine d1 (i := 3) rfl (by kernel_rfl) (by kernel_rfl) (St.ldsX hS hx8.sub (sub_cons (.tail _ (.head _)) sub_nil)) hF rfl (fun _ _ _ h => h) (fun w hl => (e_ixA hF Tryd.runUnderlying60 Tryd.sizeOf59 Tryd.isAgg59 rfl rfl r6.h h15 rfl hl18)) fun a hF => ?_
        refine da1 (i := 5) (by kernel_rfl) ?_
        refine di (i := 5) rfl <| s_blkA hF hS Tryd.sizeOf59 rfl rfl rfl rfl (one_cells rfl) .head fun w hS => ?_
        refine ⟨fun h => absurd rfl h, ?_⟩
        refine de (by kernel_rfl) <| ?_
        refine tn <| ?_
        replace hS := hS.pickL (.cons (.tail .head) (.cons .head .nil))
        exact ⟨x14, H10, b19, hm, hx8, hF.has ⟨rfl, rfl, trivial⟩, hS⟩
    clear hm hF hS
    rintro a w ⟨vA3, HA1, bA2, hm, hxHA1, hF, hS⟩
    unfold event_Right_j1 at hm
    refine th <| ?_
    refine rg <| ?_
    refine ls <| q1 hF rfl (e_fa hF fa59_1 rfl) fun a hF => ?_
    refine ls <| q1 hF rfl (e_ld hF Tryd.isAgg4 rfl ((St.ld hS).cellB (.tail _ (.head _)) rfl)) fun a hF => ?_
    refine ls <| q1 hF rfl (e_move hF rfl) fun a hF => ?_
    refine grp (N := 57) (Fk := [(1, .pointer (some ⟨b2, 0, none⟩)), (3, .pointer (some ⟨bA2, 0, none⟩)), (28, .bool (vA3.a || (decide (p1.A = 0))))]) (b := vA3.a) 4 hS ?_ ?_ ?_
    ·
      intro hb key
      replace hF := Fr.as hF (t := 24) rfl (congrArg Value.bool hb)
      refine ls <| gn hF rfl rfl rfl rfl fun a hF => ?_
      refine ls <| gn hF rfl rfl rfl rfl fun a hF => ?_
      refine ls <| gn hF rfl rfl rfl rfl fun a hF => ?_
      refine ls <| q1 hF rfl (e_as (v' := .bool (vA3.a || (decide (p1.A = 0)))) (e_pickT hF rfl rfl) (by rw [hb]; rfl)) fun a hF => ?_
      exact key _ _ (hF.has ⟨rfl, rfl, rfl, trivial⟩) hS
    ·
      intro hb key
      replace hF := Fr.as hF (t := 24) rfl (congrArg Value.bool hb)
      refine ls <| gy hF rfl rfl <| q1 hF rfl (e_fa hF fa23_2 rfl) fun a hF => ?_
      refine ls <| gy hF rfl rfl <| q1 hF rfl (e_ld hF Tryd.isAgg3 rfl ((St.ld hS).cellB (.head _) rfl)) fun a hF => ?_
      refine ls <| gy hF rfl rfl <| q1 hF rfl (e_eql hF rfl rfl) fun a hF => ?_
      refine ls <| q1 hF rfl (e_as (v' := .bool (vA3.a || (decide (p1.A = 0)))) (e_pickF hF rfl rfl) (by rw [hb]; rfl)) fun a hF => ?_
      exact key _ _ (hF.has ⟨rfl, rfl, rfl, trivial⟩) hS
    intro a w hF hS
    refine ls <| q1 hF rfl (e_move hF rfl) fun a hF => ?_
    refine grp (N := 57) (Fk := [(1, .pointer (some ⟨b2, 0, none⟩)), (3, .pointer (some ⟨bA2, 0, none⟩)), (37, .bool ((vA3.a || (decide (p1.A = 0))) && (vA3.n || (decide (p1.N = 0)))))]) (b := (vA3.a || (decide (p1.A = 0)))) 8 hS ?_ ?_ ?_
    ·
      intro hb key
      replace hF := Fr.as hF (t := 29) rfl (congrArg Value.bool hb)
      refine ls <| gy hF rfl rfl <| q1 hF rfl (e_fa hF fa59_2 rfl) fun a hF => ?_
      refine ls <| gy hF rfl rfl <| q1 hF rfl (e_ld hF Tryd.isAgg4 rfl ((St.ld hS).cellB (.tail _ (.head _)) rfl)) fun a hF => ?_
      refine ls <| gy hF rfl rfl <| q1 hF rfl (e_move hF rfl) fun a hF => ?_
      refine grp (N := 57) (Fk := [(1, .pointer (some ⟨b2, 0, none⟩)), (3, .pointer (some ⟨bA2, 0, none⟩)), (29, .bool true), (36, .bool (vA3.n || (decide (p1.N = 0))))]) (b := vA3.n) 4 hS ?_ ?_ ?_
      ·
        intro hb key
        replace hF := Fr.as hF (t := 32) rfl (congrArg Value.bool hb)
        refine ls <| gn hF rfl rfl rfl rfl fun a hF => ?_
        refine ls <| gn hF rfl rfl rfl rfl fun a hF => ?_
        refine ls <| gn hF rfl rfl rfl rfl fun a hF => ?_
        refine ls <| gy hF rfl rfl <| q1 hF rfl (e_as (v' := .bool (vA3.n || (decide (p1.N = 0)))) (e_pickT hF rfl rfl) (by rw [hb]; rfl)) fun a hF => ?_
        exact key _ _ (hF.has ⟨rfl, rfl, rfl, rfl, trivial⟩) hS
      ·
        intro hb key
        replace hF := Fr.as hF (t := 32) rfl (congrArg Value.bool hb)
        refine ls <| gy hF rfl rfl <| q1 hF rfl (e_fa hF fa23_3 rfl) fun a hF => ?_
        refine ls <| gy hF rfl rfl <| q1 hF rfl (e_ld hF Tryd.isAgg3 rfl ((St.ld hS).cellB (.head _) rfl)) fun a hF => ?_
        refine ls <| gy hF rfl rfl <| q1 hF rfl (e_eql hF rfl rfl) fun a hF => ?_
        refine ls <| gy hF rfl rfl <| q1 hF rfl (e_as (v' := .bool (vA3.n || (decide (p1.N = 0)))) (e_pickF hF rfl rfl) (by rw [hb]; rfl)) fun a hF => ?_
        exact key _ _ (hF.has ⟨rfl, rfl, rfl, rfl, trivial⟩) hS
      intro a w hF hS
      refine ls <| q1 hF rfl (e_as (v' := .bool ((vA3.a || (decide (p1.A = 0))) && (vA3.n || (decide (p1.N = 0))))) (e_pickT hF rfl rfl) (by rw [hb]; rfl)) fun a hF => ?_
      exact key _ _ (hF.has ⟨rfl, rfl, rfl, trivial⟩) hS
    ·
      intro hb key
      replace hF := Fr.as hF (t := 29) rfl (congrArg Value.bool hb)
      refine ls <| gn hF rfl rfl rfl rfl fun a hF => ?_
      refine ls <| gn hF rfl rfl rfl rfl fun a hF => ?_
      refine ls <| gn hF rfl rfl rfl rfl fun a hF => ?_
      refine ls <| gnu hF rfl rfl rfl fun a hF => ?_
      refine ls <| gnu hF rfl rfl rfl fun a hF => ?_
      refine ls <| gnu hF rfl rfl rfl fun a hF => ?_
      refine ls <| gn hF rfl rfl rfl rfl fun a hF => ?_
      refine ls <| q1 hF rfl (e_as (v' := .bool ((vA3.a || (decide (p1.A = 0))) && (vA3.n || (decide (p1.N = 0))))) (e_pickF hF rfl rfl) (by rw [hb]; rfl)) fun a hF => ?_
      exact key _ _ (hF.has ⟨rfl, rfl, rfl, trivial⟩) hS
    intro a w hF hS
    refine ls <| q1 hF rfl (e_move hF rfl) fun a hF => ?_
    refine grp (N := 57) (Fk := [(1, .pointer (some ⟨b2, 0, none⟩)), (46, .bool (((vA3.a || (decide (p1.A = 0))) && (vA3.n || (decide (p1.N = 0)))) && (vA3.m || (decide (p1.M = 0)))))]) (b := ((vA3.a || (decide (p1.A = 0))) && (vA3.n || (decide (p1.N = 0))))) 8 hS ?_ ?_ ?_
    ·
      intro hb key
      replace hF := Fr.as hF (t := 38) rfl (congrArg Value.bool hb)
      refine ls <| gy hF rfl rfl <| q1 hF rfl (e_fa hF fa59_3 rfl) fun a hF => ?_
      refine ls <| gy hF rfl rfl <| q1 hF rfl (e_ld hF Tryd.isAgg4 rfl ((St.ld hS).cellB (.tail _ (.head _)) rfl)) fun a hF => ?_
      refine ls <| gy hF rfl rfl <| q1 hF rfl (e_move hF rfl) fun a hF => ?_
      refine grp (N := 57) (Fk := [(1, .pointer (some ⟨b2, 0, none⟩)), (38, .bool true), (45, .bool (vA3.m || (decide (p1.M = 0))))]) (b := vA3.m) 4 hS ?_ ?_ ?_
      ·
        intro hb key
        replace hF := Fr.as hF (t := 41) rfl (congrArg Value.bool hb)
        refine ls <| gn hF rfl rfl rfl rfl fun a hF => ?_
        refine ls <| gn hF rfl rfl rfl rfl fun a hF => ?_
        refine ls <| gn hF rfl rfl rfl rfl fun a hF => ?_
        refine ls <| gy hF rfl rfl <| q1 hF rfl (e_as (v' := .bool (vA3.m || (decide (p1.M = 0)))) (e_pickT hF rfl rfl) (by rw [hb]; rfl)) fun a hF => ?_
        exact key _ _ (hF.has ⟨rfl, rfl, rfl, trivial⟩) hS
      ·
        intro hb key
        replace hF := Fr.as hF (t := 41) rfl (congrArg Value.bool hb)
        refine ls <| gy hF rfl rfl <| q1 hF rfl (e_fa hF fa23_4 rfl) fun a hF => ?_
        refine ls <| gy hF rfl rfl <| q1 hF rfl (e_ld hF Tryd.isAgg3 rfl ((St.ld hS).cellB (.head _) rfl)) fun a hF => ?_
        refine ls <| gy hF rfl rfl <| q1 hF rfl (e_eql hF rfl rfl) fun a hF => ?_
        refine ls <| gy hF rfl rfl <| q1 hF rfl (e_as (v' := .bool (vA3.m || (decide (p1.M = 0)))) (e_pickF hF rfl rfl) (by rw [hb]; rfl)) fun a hF => ?_
        exact key _ _ (hF.has ⟨rfl, rfl, rfl, trivial⟩) hS
      intro a w hF hS
      refine ls <| q1 hF rfl (e_as (v' := .bool (((vA3.a || (decide (p1.A = 0))) && (vA3.n || (decide (p1.N = 0)))) && (vA3.m || (decide (p1.M = 0))))) (e_pickT hF rfl rfl) (by rw [hb]; rfl)) fun a hF => ?_
      exact key _ _ (hF.has ⟨rfl, rfl, trivial⟩) hS
    ·
      intro hb key
      replace hF := Fr.as hF (t := 38) rfl (congrArg Value.bool hb)
      refine ls <| gn hF rfl rfl rfl rfl fun a hF => ?_
      refine ls <| gn hF rfl rfl rfl rfl fun a hF => ?_
      refine ls <| gn hF rfl rfl rfl rfl fun a hF => ?_
      refine ls <| gnu hF rfl rfl rfl fun a hF => ?_
      refine ls <| gnu hF rfl rfl rfl fun a hF => ?_
      refine ls <| gnu hF rfl rfl rfl fun a hF => ?_
      refine ls <| gn hF rfl rfl rfl rfl fun a hF => ?_
      refine ls <| q1 hF rfl (e_as (v' := .bool (((vA3.a || (decide (p1.A = 0))) && (vA3.n || (decide (p1.N = 0)))) && (vA3.m || (decide (p1.M = 0))))) (e_pickF hF rfl rfl) (by rw [hb]; rfl)) fun a hF => ?_
      exact key _ _ (hF.has ⟨rfl, rfl, trivial⟩) hS
    intro a w hF hS
    refine ls <| q1 hF rfl (e_move hF rfl) fun a hF => ?_
    refine grp (N := 57) (Fk := [(56, .bool ((((vA3.a || (decide (p1.A = 0))) && (vA3.n || (decide (p1.N = 0)))) && (vA3.m || (decide (p1.M = 0)))) && ((decide (p1.Kind ≠ 15)) || (decide (p1.T = 0)))))]) (b := (((vA3.a || (decide (p1.A = 0))) && (vA3.n || (decide (p1.N = 0)))) && (vA3.m || (decide (p1.M = 0))))) 9 hS ?_ ?_ ?_
    ·
      intro hb key
      replace hF := Fr.as hF (t := 47) rfl (congrArg Value.bool hb)
      refine ls <| gy hF rfl rfl <| q1 hF rfl (e_fa hF fa23_0 rfl) fun a hF => ?_
      refine ls <| gy hF rfl rfl <| q1 hF rfl (e_ld hF Tryd.isAgg3 rfl ((St.ld hS).cellB (.head _) rfl)) fun a hF => ?_
      refine ls <| gy hF rfl rfl <| q1 hF rfl (e_neq hF rfl rfl) fun a hF => ?_
      refine ls <| gy hF rfl rfl <| q1 hF rfl (e_move hF rfl) fun a hF => ?_
      refine grp (N := 57) (Fk := [(47, .bool true), (55, .bool ((decide (p1.Kind ≠ 15)) || (decide (p1.T = 0))))]) (b := (decide (p1.Kind ≠ 15))) 4 hS ?_ ?_ ?_
      ·
        intro hb key
        replace hF := Fr.as hF (t := 51) rfl (congrArg Value.bool hb)
        refine ls <| gn hF rfl rfl rfl rfl fun a hF => ?_
        refine ls <| gn hF rfl rfl rfl rfl fun a hF => ?_
        refine ls <| gn hF rfl rfl rfl rfl fun a hF => ?_
        refine ls <| gy hF rfl rfl <| q1 hF rfl (e_as (v' := .bool ((decide (p1.Kind ≠ 15)) || (decide (p1.T = 0)))) (e_pickT hF rfl rfl) (by rw [hb]; rfl)) fun a hF => ?_
        exact key _ _ (hF.has ⟨rfl, rfl, trivial⟩) hS
      ·
        intro hb key
        replace hF := Fr.as hF (t := 51) rfl (congrArg Value.bool hb)
        refine ls <| gy hF rfl rfl <| q1 hF rfl (e_fa hF fa23_1 rfl) fun a hF => ?_
        refine ls <| gy hF rfl rfl <| q1 hF rfl (e_ld hF Tryd.isAgg3 rfl ((St.ld hS).cellB (.head _) rfl)) fun a hF => ?_
        refine ls <| gy hF rfl rfl <| q1 hF rfl (e_eql hF rfl rfl) fun a hF => ?_
        refine ls <| gy hF rfl rfl <| q1 hF rfl (e_as (v' := .bool ((decide (p1.Kind ≠ 15)) || (decide (p1.T = 0)))) (e_pickF hF rfl rfl) (by rw [hb]; rfl)) fun a hF => ?_
        exact key _ _ (hF.has ⟨rfl, rfl, trivial⟩) hS
      intro a w hF hS
      refine ls <| q1 hF rfl (e_as (v' := .bool ((((vA3.a || (decide (p1.A = 0))) && (vA3.n || (decide (p1.N = 0)))) && (vA3.m || (decide (p1.M = 0)))) && ((decide (p1.Kind ≠ 15)) || (decide (p1.T = 0))))) (e_pickT hF rfl rfl) (by rw [hb]; rfl)) fun a hF => ?_
      exact key _ _ (hF.has ⟨rfl, trivial⟩) hS
    ·
      intro hb key
      replace hF := Fr.as hF (t := 47) rfl (congrArg Value.bool hb)
      refine ls <| gn hF rfl rfl rfl rfl fun a hF => ?_
      refine ls <| gn hF rfl rfl rfl rfl fun a hF => ?_
      refine ls <| gn hF rfl rfl rfl rfl fun a hF => ?_
      refine ls <| gn hF rfl rfl rfl rfl fun a hF => ?_
      refine ls <| gnu hF rfl rfl rfl fun a hF => ?_
      refine ls <| gnu hF rfl rfl rfl fun a hF => ?_
      refine ls <| gnu hF rfl rfl rfl fun a hF => ?_
      refine ls <| gn hF rfl rfl rfl rfl fun a hF => ?_
      refine ls <| q1 hF rfl (e_as (v' := .bool ((((vA3.a || (decide (p1.A = 0))) && (vA3.n || (decide (p1.N = 0)))) && (vA3.m || (decide (p1.M = 0)))) && ((decide (p1.Kind ≠ 15)) || (decide (p1.T = 0))))) (e_pickF hF rfl rfl) (by rw [hb]; rfl)) fun a hF => ?_
      exact key _ _ (hF.has ⟨rfl, trivial⟩) hS
    intro a w hF hS
    refine ls <| q1 hF rfl (e_asg hF rfl) fun a hF => ?_
    refine re <| ?_
    refine tn <| ?_
    refine wp_ret <| ?_
    obtain rfl := Option.some.inj hm
    exact r1 hF Tryd.results18 rfl ⟨rfl, hS.keep⟩
end Go.LM.ET
