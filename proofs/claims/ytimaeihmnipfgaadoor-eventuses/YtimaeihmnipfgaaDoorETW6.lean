/- Walks, lifted by program. No condition beyond each theorem's own premises. -/
import Derived.Test.YtimaeihmnipfgaaDoorETW5
namespace Go.LM.ET
open Go Go.LL Go.MD Go.LM Go.Proofs Go.MD.ET

set_option maxHeartbeats 4000000 in
set_option maxRecDepth 100000 in
theorem leadlinelaw15_EventTells_c {N : Nat} {w0 : World} {H : PH} (hH : H.le w0) (hT : Tab H) {p1 : api_Event} {p2 : api_Event} {oa4 : Option Addr} {cap5 : Nat} {p3 : (List Int)} (hc6 : p3.length ≤ cap5) (hr7 : SR H oa4 p3) {p8 : Int} {r : Bool} (hm : leadlinelaw15_EventTells N p1 p2 p3 p8 = some r) : Tot Tryd.prog 3 #[.agg #[.int .i64 p1.Kind, .int .i64 p1.T, .int .i64 p1.A, .int .i64 p1.N, .int .i64 p1.M, .int .i64 p2.Kind, .int .i64 p2.T, .int .i64 p2.A, .int .i64 p2.N, .int .i64 p2.M], .slice oa4 p3.length cap5, .int .i64 p8] w0 (fun v w' => v = .bool r ∧ Keep Nil w0 w') := by
  unfold leadlinelaw15_EventTells at hm
  refine fn0 (args := [.agg #[.int .i64 p1.Kind, .int .i64 p1.T, .int .i64 p1.A, .int .i64 p1.N, .int .i64 p1.M, .int .i64 p2.Kind, .int .i64 p2.T, .int .i64 p2.A, .int .i64 p2.N, .int .i64 p2.M], .slice oa4 p3.length cap5, .int .i64 p8]) (F := [(0, .agg #[.int .i64 p1.Kind, .int .i64 p1.T, .int .i64 p1.A, .int .i64 p1.N, .int .i64 p1.M, .int .i64 p2.Kind, .int .i64 p2.T, .int .i64 p2.A, .int .i64 p2.N, .int .i64 p2.M]), (1, .slice oa4 p3.length cap5), (2, .int .i64 p8)]) Tryd.func3 rfl Tryd.ntmps3 rfl rfl fun a hF => ?_
  have hS : St w0 Nil [H] [] w0 := start1 hH
  refine th <| ?_
  refine rg <| ?_
  refine ls <| a_box (cs := [.int .i64 p1.Kind, .int .i64 p1.T, .int .i64 p1.A, .int .i64 p1.N, .int .i64 p1.M, .int .i64 p2.Kind, .int .i64 p2.T, .int .i64 p2.A, .int .i64 p2.N, .int .i64 p2.M].toArray) hF rfl hS rfl rfl fun b9 w a hS hF => ?_
  refine ls <| q1 hF rfl (e_asg hF rfl) fun a hF => ?_
  refine re <| ?_
  refine tn <| th <| ?_
  replace hm := bind_some hm
  obtain ⟨l10, h11, hm⟩ := hm
  obtain ⟨oa12, cap13, e14, e15, hc16, hr17⟩ := SR.sub (sz := 1) hr7 hc6 rfl h11
  refine rg <| ?_
  refine ls <| q1 hF rfl (e_move hF rfl) fun a hF => ?_
  refine ls <| q1 hF rfl (e_move hF rfl) fun a hF => ?_
  refine ls <| q1 hF rfl (e_lenL (α := Int) (xs := p3) hF Tryd.runUnderlying25 rfl) fun a hF => ?_
  refine ls <| q1 hF rfl (e_min hF rfl rfl) fun a hF => ?_
  refine ls <| q1 hF rfl (e_subL (xs := p3) (vl := 0) (vh := (min (p3.length : Int) 20)) hF Tryd.runUnderlying25 Tryd.sizeOf3 rfl hc6 rfl rfl h11 e14 e15) fun a hF => ?_
  refine ls <| q1 hF rfl (e_asg hF rfl) fun a hF => ?_
  refine re <| ?_
  refine tn <| th <| midK (fun a w => ∃ (HA1 : PH) (oaA2 : Option Addr) (capA3 : Nat) (bA6 : Nat) (bA7 : Nat), (leadlinelaw15_EventTells_j1 N p1 p2 p8 l10) = some r ∧ Ext w0 H HA1 ∧ Fr 84 [(1, .slice oaA2 l10.length capA3), (2, .int .i64 p8), (7, .pointer (some ⟨bA6, 0, none⟩)), (8, .pointer (some ⟨bA7, 0, none⟩))] a ∧ St w0 Nil [HA1] [blk bA6 (.cells [.int .i64 p1.Kind, .int .i64 p1.T, .int .i64 p1.A, .int .i64 p1.N, .int .i64 p1.M].toArray 23 (0, 0)), blk bA7 (.cells [.int .i64 p2.Kind, .int .i64 p2.T, .int .i64 p2.A, .int .i64 p2.N, .int .i64 p2.M].toArray 23 (0, 0))] w ∧ l10.length ≤ capA3 ∧ SR HA1 oaA2 l10) ?_ ?_
  ·
    refine rdS 7 hS wide fun w hS => ?_
    refine d1 (i := 0) rfl (by kernel_rfl) (by kernel_rfl) (St.ld hS) hF rfl (fun _ _ _ h => h) (fun w hl => (e_iaA (i := 0) hF Tryd.runUnderlying24 Tryd.sizeOf23 rfl rfl rfl (by decide))) fun a hF => ?_
    refine d1 (i := 1) rfl (by kernel_rfl) (by kernel_rfl) (St.ld hS) hF rfl (fun _ _ _ h => h) (fun w hl => (e_ldA hF Tryd.isAgg23 Tryd.sizeOf23 rfl rfl (Lds.cellsP (pre := []) (vs := [.int .i64 p1.Kind, .int .i64 p1.T, .int .i64 p1.A, .int .i64 p1.N, .int .i64 p1.M]) (post := [.int .i64 p2.Kind, .int .i64 p2.T, .int .i64 p2.A, .int .i64 p2.N, .int .i64 p2.M]) hl (.head _)))) fun a hF => ?_
    refine d1 (i := 2) rfl (by kernel_rfl) (by kernel_rfl) (St.ld hS) hF rfl (fun _ _ _ h => h) (fun w hl => (e_iaA (i := 1) hF Tryd.runUnderlying24 Tryd.sizeOf23 rfl rfl rfl (by decide))) fun a hF => ?_
    refine d1 (i := 3) rfl (by kernel_rfl) (by kernel_rfl) (St.ld hS) hF rfl (fun _ _ _ h => h) (fun w hl => (e_ldA hF Tryd.isAgg23 Tryd.sizeOf23 rfl rfl (Lds.cellsP (pre := [.int .i64 p1.Kind, .int .i64 p1.T, .int .i64 p1.A, .int .i64 p1.N, .int .i64 p1.M]) (vs := [.int .i64 p2.Kind, .int .i64 p2.T, .int .i64 p2.A, .int .i64 p2.N, .int .i64 p2.M]) (post := []) hl (.head _)))) fun a hF => ?_
    refine da2 (i := 4) (j := 5) (by kernel_rfl) ?_ ?_
    ·
      refine di (i := 4) rfl <| a_alloc (cs := [.int .i64 0, .int .i64 0, .int .i64 0, .int .i64 0, .int .i64 0].toArray) hF rfl hS Tryd.zeroValue23 rfl fun b18 w a hS hF => ?_
      refine ⟨fun _ => (St.ldsX hS (fun _ _ h => h) (sub_cons (.tail _ (.head _)) sub_nil)), ?_⟩
      refine da1 (i := 5) (by kernel_rfl) ?_
      refine di (i := 5) rfl <| a_alloc (cs := [.int .i64 0, .int .i64 0, .int .i64 0, .int .i64 0, .int .i64 0].toArray) hF rfl hS Tryd.zeroValue23 rfl fun b19 w a hS hF => ?_
      refine ⟨fun _ => (St.ldsX hS (fun _ _ h => h) (sub_cons (.tail _ (.tail _ (.head _))) sub_nil)), ?_⟩
      refine da1 (i := 6) (by kernel_rfl) ?_
      refine di (i := 6) rfl <| s_blkA hF hS Tryd.sizeOf23 rfl rfl rfl rfl (one_cells rfl) (.tail .head) fun w hS => ?_
      refine ⟨fun _ => (St.ldsX hS (fun _ _ h => h) (sub_cons (.tail _ (.tail _ (.head _))) sub_nil)), ?_⟩
      refine da1 (i := 7) (by kernel_rfl) ?_
      refine di (i := 7) rfl <| s_blkA hF hS Tryd.sizeOf23 rfl rfl rfl rfl (one_cells rfl) .head fun w hS => ?_
      refine ⟨fun h => absurd rfl h, ?_⟩
      refine de (by kernel_rfl) <| ?_
      refine tn <| ?_
      replace hS := hS.pickL (.cons (.tail .head) (.cons .head .nil))
      exact ⟨H, oa12, cap13, b18, b19, hm, (Ext.refl _ _), hF.has ⟨rfl, rfl, rfl, rfl, trivial⟩, hS, hc16, hr17⟩
    ·
      refine di (i := 5) rfl <| a_alloc (cs := [.int .i64 0, .int .i64 0, .int .i64 0, .int .i64 0, .int .i64 0].toArray) hF rfl hS Tryd.zeroValue23 rfl fun b19 w a hS hF => ?_
      refine ⟨fun _ => (St.ldsX hS (fun _ _ h => h) (sub_cons (.tail _ (.head _)) sub_nil)), ?_⟩
      refine da1 (i := 4) (by kernel_rfl) ?_
      refine di (i := 4) rfl <| a_alloc (cs := [.int .i64 0, .int .i64 0, .int .i64 0, .int .i64 0, .int .i64 0].toArray) hF rfl hS Tryd.zeroValue23 rfl fun b18 w a hS hF => ?_
      refine ⟨fun _ => (St.ldsX hS (fun _ _ h => h) (sub_cons (.tail _ (.tail _ (.head _))) sub_nil)), ?_⟩
      refine da1 (i := 6) (by kernel_rfl) ?_
      refine di (i := 6) rfl <| s_blkA hF hS Tryd.sizeOf23 rfl rfl rfl rfl (one_cells rfl) .head fun w hS => ?_
      refine ⟨fun _ => (St.ldsX hS (fun _ _ h => h) (sub_cons (.tail _ (.tail _ (.head _))) sub_nil)), ?_⟩
      refine da1 (i := 7) (by kernel_rfl) ?_
      refine di (i := 7) rfl <| s_blkA hF hS Tryd.sizeOf23 rfl rfl rfl rfl (one_cells rfl) (.tail .head) fun w hS => ?_
      refine ⟨fun h => absurd rfl h, ?_⟩
      refine de (by kernel_rfl) <| ?_
      refine tn <| ?_
      replace hS := hS.pickL (.cons .head (.cons .head .nil))
      exact ⟨H, oa12, cap13, b18, b19, hm, (Ext.refl _ _), hF.has ⟨rfl, rfl, rfl, rfl, trivial⟩, hS, hc16, hr17⟩
  clear hm hF hS
  rintro a w ⟨HA1, oaA2, capA3, bA6, bA7, hm, hxHA1, hF, hS, hcA4, hrA5⟩
  unfold leadlinelaw15_EventTells_j1 at hm
  refine th <| ?_
  refine rg <| ?_
  refine ls <| q1 hF rfl (e_fa hF fa23_2 rfl) fun a hF => ?_
  refine ls <| q1 hF rfl (e_ld hF Tryd.isAgg3 rfl ((St.ld hS).cellB (.head _) rfl)) fun a hF => ?_
  refine ls <| q1 hF rfl (e_fa hF fa23_3 rfl) fun a hF => ?_
  refine ls <| q1 hF rfl (e_ld hF Tryd.isAgg3 rfl ((St.ld hS).cellB (.head _) rfl)) fun a hF => ?_
  refine ls <| q1 hF rfl (e_fa hF fa23_4 rfl) fun a hF => ?_
  refine ls <| q1 hF rfl (e_ld hF Tryd.isAgg3 rfl ((St.ld hS).cellB (.head _) rfl)) fun a hF => ?_
  refine ls <| q1 hF rfl (e_gtr hF rfl rfl) fun a hF => ?_
  refine ls <| q1 hF rfl (e_bldK [.int .i64 p1.A, .int .i64 p1.N, .bool (decide (0 < p1.M))] [.int .i64 p1.A, .int .i64 p1.N, .bool (decide (0 < p1.M))] hF ⟨rfl, rfl, rfl, trivial⟩ (fun w => by kernel_rfl)) fun a hF => ?_
  refine ls <| a_alloc (cs := [.int .i64 0, .int .i64 0, .bool false].toArray) hF rfl hS Tryd.zeroValue27 rfl fun b20 w a hS hF => ?_
  refine ls <| s_blkA hF hS Tryd.sizeOf27 rfl rfl rfl rfl (one_cells rfl) .head fun w hS => ?_
  refine re <| ?_
  refine tn <| th <| ?_
  refine rg <| ?_
  refine ls <| q1 hF rfl (e_fa hF fa23_2 rfl) fun a hF => ?_
  refine ls <| q1 hF rfl (e_ld hF Tryd.isAgg3 rfl ((St.ld hS).cellB (.tail _ (.tail _ (.head _))) rfl)) fun a hF => ?_
  refine ls <| q1 hF rfl (e_fa hF fa23_3 rfl) fun a hF => ?_
  refine ls <| q1 hF rfl (e_ld hF Tryd.isAgg3 rfl ((St.ld hS).cellB (.tail _ (.tail _ (.head _))) rfl)) fun a hF => ?_
  refine ls <| q1 hF rfl (e_fa hF fa23_4 rfl) fun a hF => ?_
  refine ls <| q1 hF rfl (e_ld hF Tryd.isAgg3 rfl ((St.ld hS).cellB (.tail _ (.tail _ (.head _))) rfl)) fun a hF => ?_
  refine ls <| q1 hF rfl (e_gtr hF rfl rfl) fun a hF => ?_
  refine ls <| q1 hF rfl (e_bldK [.int .i64 p2.A, .int .i64 p2.N, .bool (decide (0 < p2.M))] [.int .i64 p2.A, .int .i64 p2.N, .bool (decide (0 < p2.M))] hF ⟨rfl, rfl, rfl, trivial⟩ (fun w => by kernel_rfl)) fun a hF => ?_
  refine ls <| a_alloc (cs := [.int .i64 0, .int .i64 0, .bool false].toArray) hF rfl hS Tryd.zeroValue27 rfl fun b21 w a hS hF => ?_
  refine ls <| s_blkA hF hS Tryd.sizeOf27 rfl rfl rfl rfl (one_cells rfl) .head fun w hS => ?_
  refine re <| ?_
  refine tn <| th <| ?_
  replace hm := bind_some hm
  obtain ⟨r22, h23, hm⟩ := hm
  replace hm := bind_some hm
  obtain ⟨r29, h30, hm⟩ := hm
  replace hm := bind_some hm
  obtain ⟨r36, h37, hm⟩ := hm
  replace hm := bind_some hm
  obtain ⟨_, hb38, hm⟩ := hm
  replace hb38 := sure_some hb38
  replace hm := bind_some hm
  obtain ⟨r39, h40, hm⟩ := hm
  replace hm := bind_some hm
  obtain ⟨r41, h42, hm⟩ := hm
  replace hm := bind_some hm
  obtain ⟨_, hb43, hm⟩ := hm
  replace hb43 := sure_some hb43
  replace hm := bind_some hm
  obtain ⟨r44, h45, hm⟩ := hm
  replace hm := bind_some hm
  obtain ⟨r46, h47, hm⟩ := hm
  replace hm := bind_some hm
  obtain ⟨_, hb48, hm⟩ := hm
  replace hb48 := sure_some hb48
  replace hm := bind_some hm
  obtain ⟨r49, h50, hm⟩ := hm
  replace hm := bind_some hm
  obtain ⟨r51, h52, hm⟩ := hm
  replace hm := bind_some hm
  obtain ⟨_, hb53, hm⟩ := hm
  replace hb53 := sure_some hb53
  replace hm := bind_some hm
  obtain ⟨r54, h55, hm⟩ := hm
  replace hm := bind_some hm
  obtain ⟨r56, h57, hm⟩ := hm
  replace hm := bind_some hm
  obtain ⟨_, hb58, hm⟩ := hm
  replace hb58 := sure_some hb58
  replace hm := bind_some hm
  obtain ⟨r59, h60, hm⟩ := hm
  refine rdS 49 hS wide fun w hS => ?_
  refine d1 (i := 0) rfl (by kernel_rfl) (by kernel_rfl) (St.ld hS) hF rfl (fun _ _ _ h => h) (fun w hl => (e_ldA hF Tryd.isAgg23 Tryd.sizeOf23 rfl rfl (hl.cellsB (.tail _ (.tail _ (.head _)))))) fun a hF => ?_
  refine d1 (i := 1) rfl (by kernel_rfl) (by kernel_rfl) (St.ld hS) hF rfl (fun _ _ _ h => h) (fun w hl => (e_move hF rfl)) fun a hF => ?_
  refine d1 (i := 2) rfl (by kernel_rfl) (by kernel_rfl) (St.ld hS) hF rfl (fun _ _ _ h => h) (fun w hl => (e_move hF rfl)) fun a hF => ?_
  refine d1 (i := 4) rfl (by kernel_rfl) (by kernel_rfl) (St.ld hS) hF rfl (fun _ _ _ h => h) (fun w hl => (e_ldA hF Tryd.isAgg23 Tryd.sizeOf23 rfl rfl (hl.cellsB (.tail _ (.tail _ (.head _)))))) fun a hF => ?_
  refine d1 (i := 5) rfl (by kernel_rfl) (by kernel_rfl) (St.ld hS) hF rfl (fun _ _ _ h => h) (fun w hl => (e_move hF rfl)) fun a hF => ?_
  refine d1 (i := 6) rfl (by kernel_rfl) (by kernel_rfl) (St.ld hS) hF rfl (fun _ _ _ h => h) (fun w hl => (e_move hF rfl)) fun a hF => ?_
  refine da1 (i := 3) (by kernel_rfl) ?_
  refine di (i := 3) rfl <| c1 hF rfl Tryd.call14 (event_Uses_c (hp_le _) hcA4 (St.srH hS hrA5) h23) ⟨rfl, rfl, rfl, trivial⟩ (fun v w a hR hF => ?_)
  obtain ⟨oa24, cap25, vs26, rfl, hv27, hk⟩ := hR
  replace hS := hS.fresh hk
  clear hk
  replace hv27 := hv27 HA1
  refine ⟨fun _ => (St.ldsX hS (fun _ _ h => h) (sub_cons (.tail _ (.head _)) (sub_cons (.tail _ (.tail _ (.head _))) (sub_cons (.tail _ (.tail _ (.tail _ (.head _)))) (sub_cons (.tail _ (.tail _ (.tail _ (.tail _ (.head _))))) sub_nil))))), ?_⟩
  refine da1 (i := 7) (by kernel_rfl) ?_
  refine di (i := 7) rfl <| c1 hF rfl Tryd.call15 (leadlineref15_Uses_c (hp_le _) hcA4 (St.srH hS hrA5) h30) ⟨rfl, rfl, rfl, trivial⟩ (fun v w a hR hF => ?_)
  obtain ⟨oa31, cap32, vs33, rfl, hv34, hk⟩ := hR
  replace hS := hS.fresh hk
  clear hk
  replace hv34 := hv34 HA1
  refine ⟨fun _ => (St.ldsX hS (fun _ _ h => h) (sub_cons (.tail _ (.tail _ (.head _))) (sub_cons (.tail _ (.tail _ (.tail _ (.head _)))) (sub_cons (.tail _ (.tail _ (.tail _ (.tail _ (.head _))))) (sub_cons (.tail _ (.tail _ (.tail _ (.tail _ (.tail _ (.head _)))))) sub_nil))))), ?_⟩
  refine da1 (i := 8) (by kernel_rfl) ?_
  refine di (i := 8) rfl <| c1 hF rfl Tryd.call13 (leadlineref15_Same_c (hp_le _) (St.capO hS (.tail _ (.head _))) (St.srO hS (.tail _ (.head _)) hv27) (St.capO hS (.head _)) (St.srO hS (.head _) hv34) h37) ⟨rfl, rfl, trivial⟩ (fun v w a hR hF => ?_)
  obtain ⟨rfl, hk⟩ := hR
  replace hS := hS.pass hk
  clear hk
  refine ⟨fun _ => (St.ldsX hS (fun _ _ h => h) (sub_cons (.tail _ (.tail _ (.head _))) (sub_cons (.tail _ (.tail _ (.tail _ (.head _)))) (sub_cons (.tail _ (.tail _ (.tail _ (.tail _ (.head _))))) (sub_cons (.tail _ (.tail _ (.tail _ (.tail _ (.tail _ (.head _)))))) sub_nil))))), ?_⟩
  refine d1 (i := 9) rfl (by kernel_rfl) (by kernel_rfl) (St.ldsX hS (fun _ _ h => h) (sub_cons (.tail _ (.tail _ (.head _))) (sub_cons (.tail _ (.tail _ (.tail _ (.head _)))) (sub_cons (.tail _ (.tail _ (.tail _ (.tail _ (.head _))))) (sub_cons (.tail _ (.tail _ (.tail _ (.tail _ (.tail _ (.head _)))))) sub_nil))))) hF rfl (fun _ _ _ h => h) (fun w hl => (e_as (e_move hF rfl) (congrArg Value.bool hb38))) fun a hF => ?_
  refine d1g (i := 10) rfl (by kernel_rfl) (by kernel_rfl) (St.ldsX hS (fun _ _ h => h) (sub_cons (.tail _ (.tail _ (.head _))) (sub_cons (.tail _ (.tail _ (.tail _ (.head _)))) (sub_cons (.tail _ (.tail _ (.tail _ (.tail _ (.head _))))) (sub_cons (.tail _ (.tail _ (.tail _ (.tail _ (.tail _ (.head _)))))) sub_nil))))) hF rfl rfl rfl (fun _ _ _ h => h) (fun w hl => (e_ldA hF Tryd.isAgg23 Tryd.sizeOf23 rfl rfl (hl.cellsB (.tail _ (.tail _ (.head _)))))) fun a hF => ?_
  refine d1g (i := 11) rfl (by kernel_rfl) (by kernel_rfl) (St.ldsX hS (fun _ _ h => h) (sub_cons (.tail _ (.tail _ (.head _))) (sub_cons (.tail _ (.tail _ (.tail _ (.head _)))) (sub_cons (.tail _ (.tail _ (.tail _ (.tail _ (.head _))))) (sub_cons (.tail _ (.tail _ (.tail _ (.tail _ (.tail _ (.head _)))))) sub_nil))))) hF rfl rfl rfl (fun _ _ _ h => h) (fun w hl => (e_ldA hF Tryd.isAgg23 Tryd.sizeOf23 rfl rfl (hl.cellsB (.tail _ (.tail _ (.tail _ (.head _))))))) fun a hF => ?_
  refine d1g (i := 12) rfl (by kernel_rfl) (by kernel_rfl) (St.ldsX hS (fun _ _ h => h) (sub_cons (.tail _ (.tail _ (.head _))) (sub_cons (.tail _ (.tail _ (.tail _ (.head _)))) (sub_cons (.tail _ (.tail _ (.tail _ (.tail _ (.head _))))) (sub_cons (.tail _ (.tail _ (.tail _ (.tail _ (.tail _ (.head _)))))) sub_nil))))) hF rfl rfl rfl (fun _ _ _ h => h) (fun w hl => (e_move hF rfl)) fun a hF => ?_
  refine d1g (i := 13) rfl (by kernel_rfl) (by kernel_rfl) (St.ldsX hS (fun _ _ h => h) (sub_cons (.tail _ (.tail _ (.head _))) (sub_cons (.tail _ (.tail _ (.tail _ (.head _)))) (sub_cons (.tail _ (.tail _ (.tail _ (.tail _ (.head _))))) (sub_cons (.tail _ (.tail _ (.tail _ (.tail _ (.tail _ (.head _)))))) sub_nil))))) hF rfl rfl rfl (fun _ _ _ h => h) (fun w hl => (e_move hF rfl)) fun a hF => ?_
  refine d1g (i := 15) rfl (by kernel_rfl) (by kernel_rfl) (St.ldsX hS (fun _ _ h => h) (sub_cons (.tail _ (.tail _ (.head _))) (sub_cons (.tail _ (.tail _ (.tail _ (.head _)))) (sub_cons (.tail _ (.tail _ (.tail _ (.tail _ (.head _))))) (sub_cons (.tail _ (.tail _ (.tail _ (.tail _ (.tail _ (.head _)))))) sub_nil))))) hF rfl rfl rfl (fun _ _ _ h => h) (fun w hl => (e_ldA hF Tryd.isAgg23 Tryd.sizeOf23 rfl rfl (hl.cellsB (.tail _ (.tail _ (.head _)))))) fun a hF => ?_
  refine d1g (i := 16) rfl (by kernel_rfl) (by kernel_rfl) (St.ldsX hS (fun _ _ h => h) (sub_cons (.tail _ (.tail _ (.head _))) (sub_cons (.tail _ (.tail _ (.tail _ (.head _)))) (sub_cons (.tail _ (.tail _ (.tail _ (.tail _ (.head _))))) (sub_cons (.tail _ (.tail _ (.tail _ (.tail _ (.tail _ (.head _)))))) sub_nil))))) hF rfl rfl rfl (fun _ _ _ h => h) (fun w hl => (e_ldA hF Tryd.isAgg23 Tryd.sizeOf23 rfl rfl (hl.cellsB (.tail _ (.tail _ (.tail _ (.head _))))))) fun a hF => ?_
  refine d1g (i := 17) rfl (by kernel_rfl) (by kernel_rfl) (St.ldsX hS (fun _ _ h => h) (sub_cons (.tail _ (.tail _ (.head _))) (sub_cons (.tail _ (.tail _ (.tail _ (.head _)))) (sub_cons (.tail _ (.tail _ (.tail _ (.tail _ (.head _))))) (sub_cons (.tail _ (.tail _ (.tail _ (.tail _ (.tail _ (.head _)))))) sub_nil))))) hF rfl rfl rfl (fun _ _ _ h => h) (fun w hl => (e_move hF rfl)) fun a hF => ?_
  refine d1g (i := 18) rfl (by kernel_rfl) (by kernel_rfl) (St.ldsX hS (fun _ _ h => h) (sub_cons (.tail _ (.tail _ (.head _))) (sub_cons (.tail _ (.tail _ (.tail _ (.head _)))) (sub_cons (.tail _ (.tail _ (.tail _ (.tail _ (.head _))))) (sub_cons (.tail _ (.tail _ (.tail _ (.tail _ (.tail _ (.head _)))))) sub_nil))))) hF rfl rfl rfl (fun _ _ _ h => h) (fun w hl => (e_move hF rfl)) fun a hF => ?_
  refine da1 (i := 14) (by kernel_rfl) ?_
  refine di (i := 14) rfl <| gy hF rfl rfl <| c1 hF rfl Tryd.call16 (event_Depend_c (hp_le _) hcA4 (St.srH hS hrA5) h40) ⟨rfl, rfl, rfl, rfl, trivial⟩ (fun v w a hR hF => ?_)
  obtain ⟨rfl, hk⟩ := hR
  replace hS := hS.pass hk
  clear hk
  refine ⟨fun _ => (St.ldsX hS (fun _ _ h => h) (sub_cons (.tail _ (.tail _ (.head _))) (sub_cons (.tail _ (.tail _ (.tail _ (.head _)))) (sub_cons (.tail _ (.tail _ (.tail _ (.tail _ (.head _))))) (sub_cons (.tail _ (.tail _ (.tail _ (.tail _ (.tail _ (.head _)))))) sub_nil))))), ?_⟩
  refine da1 (i := 19) (by kernel_rfl) ?_
  refine di (i := 19) rfl <| gy hF rfl rfl <| c1 hF rfl Tryd.call17 (leadlineref15_Depend_c (hp_le _) hcA4 (St.srH hS hrA5) h42) ⟨rfl, rfl, rfl, rfl, trivial⟩ (fun v w a hR hF => ?_)
  obtain ⟨rfl, hk⟩ := hR
  replace hS := hS.pass hk
  clear hk
  refine ⟨fun _ => (St.ldsX hS (fun _ _ h => h) (sub_cons (.tail _ (.tail _ (.head _))) (sub_cons (.tail _ (.tail _ (.tail _ (.head _)))) (sub_cons (.tail _ (.tail _ (.tail _ (.tail _ (.head _))))) (sub_cons (.tail _ (.tail _ (.tail _ (.tail _ (.tail _ (.head _)))))) sub_nil))))), ?_⟩
  refine d1g (i := 20) rfl (by kernel_rfl) (by kernel_rfl) (St.ldsX hS (fun _ _ h => h) (sub_cons (.tail _ (.tail _ (.head _))) (sub_cons (.tail _ (.tail _ (.tail _ (.head _)))) (sub_cons (.tail _ (.tail _ (.tail _ (.tail _ (.head _))))) (sub_cons (.tail _ (.tail _ (.tail _ (.tail _ (.tail _ (.head _)))))) sub_nil))))) hF rfl rfl rfl (fun _ _ _ h => h) (fun w hl => (e_eqlB hF Tryd.runUnderlying4 rfl rfl)) fun a hF => ?_
  refine d1 (i := 21) rfl (by kernel_rfl) (by kernel_rfl) (St.ldsX hS (fun _ _ h => h) (sub_cons (.tail _ (.tail _ (.head _))) (sub_cons (.tail _ (.tail _ (.tail _ (.head _)))) (sub_cons (.tail _ (.tail _ (.tail _ (.tail _ (.head _))))) (sub_cons (.tail _ (.tail _ (.tail _ (.tail _ (.tail _ (.head _)))))) sub_nil))))) hF rfl (fun _ _ _ h => h) (fun w hl => (e_pickT hF rfl rfl)) fun a hF => ?_
  refine d1 (i := 22) rfl (by kernel_rfl) (by kernel_rfl) (St.ldsX hS (fun _ _ h => h) (sub_cons (.tail _ (.tail _ (.head _))) (sub_cons (.tail _ (.tail _ (.tail _ (.head _)))) (sub_cons (.tail _ (.tail _ (.tail _ (.tail _ (.head _))))) (sub_cons (.tail _ (.tail _ (.tail _ (.tail _ (.tail _ (.head _)))))) sub_nil))))) hF rfl (fun _ _ _ h => h) (fun w hl => (e_as (e_move hF rfl) (congrArg Value.bool hb43))) fun a hF => ?_
  refine d1g (i := 23) rfl (by kernel_rfl) (by kernel_rfl) (St.ldsX hS (fun _ _ h => h) (sub_cons (.tail _ (.tail _ (.head _))) (sub_cons (.tail _ (.tail _ (.tail _ (.head _)))) (sub_cons (.tail _ (.tail _ (.tail _ (.tail _ (.head _))))) (sub_cons (.tail _ (.tail _ (.tail _ (.tail _ (.tail _ (.head _)))))) sub_nil))))) hF rfl rfl rfl (fun _ _ _ h => h) (fun w hl => (e_ldA hF Tryd.isAgg23 Tryd.sizeOf23 rfl rfl (hl.cellsB (.tail _ (.tail _ (.head _)))))) fun a hF => ?_
  refine d1g (i := 25) rfl (by kernel_rfl) (by kernel_rfl) (St.ldsX hS (fun _ _ h => h) (sub_cons (.tail _ (.tail _ (.head _))) (sub_cons (.tail _ (.tail _ (.tail _ (.head _)))) (sub_cons (.tail _ (.tail _ (.tail _ (.tail _ (.head _))))) (sub_cons (.tail _ (.tail _ (.tail _ (.tail _ (.tail _ (.head _)))))) sub_nil))))) hF rfl rfl rfl (fun _ _ _ h => h) (fun w hl => (e_ldA hF Tryd.isAgg23 Tryd.sizeOf23 rfl rfl (hl.cellsB (.tail _ (.tail _ (.head _)))))) fun a hF => ?_
  refine da1 (i := 24) (by kernel_rfl) ?_
  refine di (i := 24) rfl <| gy hF rfl rfl <| c1 hF rfl Tryd.call18 (event_Right_c (hp_le _) h45) ⟨rfl, trivial⟩ (fun v w a hR hF => ?_)
  obtain ⟨rfl, hk⟩ := hR
  replace hS := hS.pass hk
  clear hk
  refine ⟨fun _ => (St.ldsX hS (fun _ _ h => h) (sub_cons (.tail _ (.tail _ (.head _))) (sub_cons (.tail _ (.tail _ (.tail _ (.head _)))) (sub_cons (.tail _ (.tail _ (.tail _ (.tail _ (.head _))))) (sub_cons (.tail _ (.tail _ (.tail _ (.tail _ (.tail _ (.head _)))))) sub_nil))))), ?_⟩
  refine da1 (i := 26) (by kernel_rfl) ?_
  refine di (i := 26) rfl <| gy hF rfl rfl <| c1 hF rfl Tryd.call19 (leadlineref15_Right_c (hp_le _) h47) ⟨rfl, trivial⟩ (fun v w a hR hF => ?_)
  obtain ⟨rfl, hk⟩ := hR
  replace hS := hS.pass hk
  clear hk
  refine ⟨fun _ => (St.ldsX hS (fun _ _ h => h) (sub_cons (.tail _ (.tail _ (.head _))) (sub_cons (.tail _ (.tail _ (.tail _ (.head _)))) (sub_cons (.tail _ (.tail _ (.tail _ (.tail _ (.head _))))) (sub_cons (.tail _ (.tail _ (.tail _ (.tail _ (.tail _ (.head _)))))) sub_nil))))), ?_⟩
  refine d1g (i := 27) rfl (by kernel_rfl) (by kernel_rfl) (St.ldsX hS (fun _ _ h => h) (sub_cons (.tail _ (.tail _ (.head _))) (sub_cons (.tail _ (.tail _ (.tail _ (.head _)))) (sub_cons (.tail _ (.tail _ (.tail _ (.tail _ (.head _))))) (sub_cons (.tail _ (.tail _ (.tail _ (.tail _ (.tail _ (.head _)))))) sub_nil))))) hF rfl rfl rfl (fun _ _ _ h => h) (fun w hl => (e_eqlB hF Tryd.runUnderlying4 rfl rfl)) fun a hF => ?_
  refine d1 (i := 28) rfl (by kernel_rfl) (by kernel_rfl) (St.ldsX hS (fun _ _ h => h) (sub_cons (.tail _ (.tail _ (.head _))) (sub_cons (.tail _ (.tail _ (.tail _ (.head _)))) (sub_cons (.tail _ (.tail _ (.tail _ (.tail _ (.head _))))) (sub_cons (.tail _ (.tail _ (.tail _ (.tail _ (.tail _ (.head _)))))) sub_nil))))) hF rfl (fun _ _ _ h => h) (fun w hl => (e_pickT hF rfl rfl)) fun a hF => ?_
  refine d1 (i := 29) rfl (by kernel_rfl) (by kernel_rfl) (St.ldsX hS (fun _ _ h => h) (sub_cons (.tail _ (.tail _ (.head _))) (sub_cons (.tail _ (.tail _ (.tail _ (.head _)))) (sub_cons (.tail _ (.tail _ (.tail _ (.tail _ (.head _))))) (sub_cons (.tail _ (.tail _ (.tail _ (.tail _ (.tail _ (.head _)))))) sub_nil))))) hF rfl (fun _ _ _ h => h) (fun w hl => (e_as (e_move hF rfl) (congrArg Value.bool hb48))) fun a hF => ?_
  refine d1g (i := 30) rfl (by kernel_rfl) (by kernel_rfl) (St.ldsX hS (fun _ _ h => h) (sub_cons (.tail _ (.tail _ (.head _))) (sub_cons (.tail _ (.tail _ (.tail _ (.head _)))) (sub_cons (.tail _ (.tail _ (.tail _ (.tail _ (.head _))))) (sub_cons (.tail _ (.tail _ (.tail _ (.tail _ (.tail _ (.head _)))))) sub_nil))))) hF rfl rfl rfl (fun _ _ _ h => h) (fun w hl => (e_ldA hF Tryd.isAgg23 Tryd.sizeOf23 rfl rfl (hl.cellsB (.tail _ (.tail _ (.head _)))))) fun a hF => ?_
  refine d1g (i := 32) rfl (by kernel_rfl) (by kernel_rfl) (St.ldsX hS (fun _ _ h => h) (sub_cons (.tail _ (.tail _ (.head _))) (sub_cons (.tail _ (.tail _ (.tail _ (.head _)))) (sub_cons (.tail _ (.tail _ (.tail _ (.tail _ (.head _))))) (sub_cons (.tail _ (.tail _ (.tail _ (.tail _ (.tail _ (.head _)))))) sub_nil))))) hF rfl rfl rfl (fun _ _ _ h => h) (fun w hl => (e_ldA hF Tryd.isAgg23 Tryd.sizeOf23 rfl rfl (hl.cellsB (.tail _ (.tail _ (.head _)))))) fun a hF => ?_
  refine da1 (i := 31) (by kernel_rfl) ?_
  refine di (i := 31) rfl <| gy hF rfl rfl <| c1 hF rfl Tryd.call20 (event_Show_c (hp_le _) (Tab.mono (Tab.mono hT hxHA1.sub) (St.up hS)) h50) ⟨rfl, trivial⟩ (fun v w a hR hF => ?_)
  obtain ⟨rfl, hk⟩ := hR
  replace hS := hS.pass hk
  clear hk
  refine ⟨fun _ => (St.ldsX hS (fun _ _ h => h) (sub_cons (.tail _ (.tail _ (.head _))) (sub_cons (.tail _ (.tail _ (.tail _ (.head _)))) (sub_cons (.tail _ (.tail _ (.tail _ (.tail _ (.head _))))) (sub_cons (.tail _ (.tail _ (.tail _ (.tail _ (.tail _ (.head _)))))) sub_nil))))), ?_⟩
  refine da1 (i := 33) (by kernel_rfl) ?_
  refine di (i := 33) rfl <| gy hF rfl rfl <| c1 hF rfl Tryd.call21 (leadlineref15_Show_c (hp_le _) h52) ⟨rfl, trivial⟩ (fun v w a hR hF => ?_)
  obtain ⟨rfl, hk⟩ := hR
  replace hS := hS.pass hk
  clear hk
  refine ⟨fun _ => (St.ldsX hS (fun _ _ h => h) (sub_cons (.tail _ (.tail _ (.head _))) (sub_cons (.tail _ (.tail _ (.tail _ (.head _)))) (sub_cons (.tail _ (.tail _ (.tail _ (.tail _ (.head _))))) (sub_cons (.tail _ (.tail _ (.tail _ (.tail _ (.tail _ (.head _)))))) sub_nil))))), ?_⟩
  refine d1g (i := 34) rfl (by kernel_rfl) (by kernel_rfl) (St.ldsX hS (fun _ _ h => h) (sub_cons (.tail _ (.tail _ (.head _))) (sub_cons (.tail _ (.tail _ (.tail _ (.head _)))) (sub_cons (.tail _ (.tail _ (.tail _ (.tail _ (.head _))))) (sub_cons (.tail _ (.tail _ (.tail _ (.tail _ (.tail _ (.head _)))))) sub_nil))))) hF rfl rfl rfl (fun _ _ _ h => h) (fun w hl => (e_eqlU (m := r49) (n := r51) hF rfl rfl)) fun a hF => ?_
  refine d1 (i := 35) rfl (by kernel_rfl) (by kernel_rfl) (St.ldsX hS (fun _ _ h => h) (sub_cons (.tail _ (.tail _ (.head _))) (sub_cons (.tail _ (.tail _ (.tail _ (.head _)))) (sub_cons (.tail _ (.tail _ (.tail _ (.tail _ (.head _))))) (sub_cons (.tail _ (.tail _ (.tail _ (.tail _ (.tail _ (.head _)))))) sub_nil))))) hF rfl (fun _ _ _ h => h) (fun w hl => (e_pickT hF rfl rfl)) fun a hF => ?_
  refine d1 (i := 36) rfl (by kernel_rfl) (by kernel_rfl) (St.ldsX hS (fun _ _ h => h) (sub_cons (.tail _ (.tail _ (.head _))) (sub_cons (.tail _ (.tail _ (.tail _ (.head _)))) (sub_cons (.tail _ (.tail _ (.tail _ (.tail _ (.head _))))) (sub_cons (.tail _ (.tail _ (.tail _ (.tail _ (.tail _ (.head _)))))) sub_nil))))) hF rfl (fun _ _ _ h => h) (fun w hl => (e_as (e_move hF rfl) (congrArg Value.bool hb53))) fun a hF => ?_
  refine d1g (i := 37) rfl (by kernel_rfl) (by kernel_rfl) (St.ldsX hS (fun _ _ h => h) (sub_cons (.tail _ (.tail _ (.head _))) (sub_cons (.tail _ (.tail _ (.tail _ (.head _)))) (sub_cons (.tail _ (.tail _ (.tail _ (.tail _ (.head _))))) (sub_cons (.tail _ (.tail _ (.tail _ (.tail _ (.tail _ (.head _)))))) sub_nil))))) hF rfl rfl rfl (fun _ _ _ h => h) (fun w hl => (e_ldA hF Tryd.isAgg27 Tryd.sizeOf27 rfl rfl (hl.cellsB (.tail _ (.head _))))) fun a hF => ?_
  refine d1g (i := 38) rfl (by kernel_rfl) (by kernel_rfl) (St.ldsX hS (fun _ _ h => h) (sub_cons (.tail _ (.tail _ (.head _))) (sub_cons (.tail _ (.tail _ (.tail _ (.head _)))) (sub_cons (.tail _ (.tail _ (.tail _ (.tail _ (.head _))))) (sub_cons (.tail _ (.tail _ (.tail _ (.tail _ (.tail _ (.head _)))))) sub_nil))))) hF rfl rfl rfl (fun _ _ _ h => h) (fun w hl => (e_ldA hF Tryd.isAgg27 Tryd.sizeOf27 rfl rfl (hl.cellsB (.head _)))) fun a hF => ?_
  refine d1g (i := 40) rfl (by kernel_rfl) (by kernel_rfl) (St.ldsX hS (fun _ _ h => h) (sub_cons (.tail _ (.tail _ (.head _))) (sub_cons (.tail _ (.tail _ (.tail _ (.head _)))) (sub_cons (.tail _ (.tail _ (.tail _ (.tail _ (.head _))))) (sub_cons (.tail _ (.tail _ (.tail _ (.tail _ (.tail _ (.head _)))))) sub_nil))))) hF rfl rfl rfl (fun _ _ _ h => h) (fun w hl => (e_ldA hF Tryd.isAgg27 Tryd.sizeOf27 rfl rfl (hl.cellsB (.tail _ (.head _))))) fun a hF => ?_
  refine d1g (i := 41) rfl (by kernel_rfl) (by kernel_rfl) (St.ldsX hS (fun _ _ h => h) (sub_cons (.tail _ (.tail _ (.head _))) (sub_cons (.tail _ (.tail _ (.tail _ (.head _)))) (sub_cons (.tail _ (.tail _ (.tail _ (.tail _ (.head _))))) (sub_cons (.tail _ (.tail _ (.tail _ (.tail _ (.tail _ (.head _)))))) sub_nil))))) hF rfl rfl rfl (fun _ _ _ h => h) (fun w hl => (e_ldA hF Tryd.isAgg27 Tryd.sizeOf27 rfl rfl (hl.cellsB (.head _)))) fun a hF => ?_
  refine da1 (i := 39) (by kernel_rfl) ?_
  refine di (i := 39) rfl <| gy hF rfl rfl <| c1 hF rfl Tryd.call22 (event_Clash_c (hp_le _) h55) ⟨rfl, rfl, trivial⟩ (fun v w a hR hF => ?_)
  obtain ⟨rfl, hk⟩ := hR
  replace hS := hS.pass hk
  clear hk
  refine ⟨fun _ => (St.ldsX hS (fun _ _ h => h) (sub_cons (.tail _ (.tail _ (.head _))) (sub_cons (.tail _ (.tail _ (.tail _ (.head _)))) (sub_cons (.tail _ (.tail _ (.tail _ (.tail _ (.head _))))) (sub_cons (.tail _ (.tail _ (.tail _ (.tail _ (.tail _ (.head _)))))) sub_nil))))), ?_⟩
  refine da1 (i := 42) (by kernel_rfl) ?_
  refine di (i := 42) rfl <| gy hF rfl rfl <| c1 hF rfl Tryd.call23 (leadlineref15_Clash_c (hp_le _) h57) ⟨rfl, rfl, trivial⟩ (fun v w a hR hF => ?_)
  obtain ⟨rfl, hk⟩ := hR
  replace hS := hS.pass hk
  clear hk
  refine ⟨fun _ => (St.ldsX hS (fun _ _ h => h) (sub_cons (.tail _ (.tail _ (.head _))) (sub_cons (.tail _ (.tail _ (.tail _ (.head _)))) (sub_cons (.tail _ (.tail _ (.tail _ (.tail _ (.head _))))) (sub_cons (.tail _ (.tail _ (.tail _ (.tail _ (.tail _ (.head _)))))) sub_nil))))), ?_⟩
  refine d1g (i := 43) rfl (by kernel_rfl) (by kernel_rfl) (St.ldsX hS (fun _ _ h => h) (sub_cons (.tail _ (.tail _ (.head _))) (sub_cons (.tail _ (.tail _ (.tail _ (.head _)))) (sub_cons (.tail _ (.tail _ (.tail _ (.tail _ (.head _))))) (sub_cons (.tail _ (.tail _ (.tail _ (.tail _ (.tail _ (.head _)))))) sub_nil))))) hF rfl rfl rfl (fun _ _ _ h => h) (fun w hl => (e_eqlB hF Tryd.runUnderlying4 rfl rfl)) fun a hF => ?_
  refine d1 (i := 44) rfl (by kernel_rfl) (by kernel_rfl) (St.ldsX hS (fun _ _ h => h) (sub_cons (.tail _ (.tail _ (.head _))) (sub_cons (.tail _ (.tail _ (.tail _ (.head _)))) (sub_cons (.tail _ (.tail _ (.tail _ (.tail _ (.head _))))) (sub_cons (.tail _ (.tail _ (.tail _ (.tail _ (.tail _ (.head _)))))) sub_nil))))) hF rfl (fun _ _ _ h => h) (fun w hl => (e_pickT hF rfl rfl)) fun a hF => ?_
  refine d1 (i := 45) rfl (by kernel_rfl) (by kernel_rfl) (St.ldsX hS (fun _ _ h => h) (sub_cons (.tail _ (.tail _ (.head _))) (sub_cons (.tail _ (.tail _ (.tail _ (.head _)))) (sub_cons (.tail _ (.tail _ (.tail _ (.tail _ (.head _))))) (sub_cons (.tail _ (.tail _ (.tail _ (.tail _ (.tail _ (.head _)))))) sub_nil))))) hF rfl (fun _ _ _ h => h) (fun w hl => (e_as (e_move hF rfl) (congrArg Value.bool hb58))) fun a hF => ?_
  refine da1 (i := 46) (by kernel_rfl) ?_
  refine di (i := 46) rfl <| gy hF rfl rfl <| c1 hF rfl Tryd.call24 (leadlinelaw15_fixed_c (hp_le _) (Tab.mono (Tab.mono hT hxHA1.sub) (St.up hS)) h60) trivial (fun v w a hR hF => ?_)
  obtain ⟨rfl, hk⟩ := hR
  replace hS := hS.pass hk
  clear hk
  refine ⟨fun _ => (St.ldsX hS (fun _ _ h => h) (sub_cons (.tail _ (.tail _ (.head _))) (sub_cons (.tail _ (.tail _ (.tail _ (.head _)))) (sub_cons (.tail _ (.tail _ (.tail _ (.tail _ (.head _))))) (sub_cons (.tail _ (.tail _ (.tail _ (.tail _ (.tail _ (.head _)))))) sub_nil))))), ?_⟩
  refine d1 (i := 47) rfl (by kernel_rfl) (by kernel_rfl) (St.ldsX hS (fun _ _ h => h) (sub_cons (.tail _ (.tail _ (.head _))) (sub_cons (.tail _ (.tail _ (.tail _ (.head _)))) (sub_cons (.tail _ (.tail _ (.tail _ (.tail _ (.head _))))) (sub_cons (.tail _ (.tail _ (.tail _ (.tail _ (.tail _ (.head _)))))) sub_nil))))) hF rfl (fun _ _ _ h => h) (fun w hl => (e_pickT hF rfl rfl)) fun a hF => ?_
  refine d1 (i := 48) rfl (by kernel_rfl) (by kernel_rfl) (St.ldsX hS (fun _ _ h => h) (sub_cons (.tail _ (.tail _ (.head _))) (sub_cons (.tail _ (.tail _ (.tail _ (.head _)))) (sub_cons (.tail _ (.tail _ (.tail _ (.tail _ (.head _))))) (sub_cons (.tail _ (.tail _ (.tail _ (.tail _ (.tail _ (.head _)))))) sub_nil))))) hF rfl (fun _ _ _ h => h) (fun w hl => (e_asg hF rfl)) fun a hF => ?_
  refine de (by kernel_rfl) <| ?_
  refine tn <| ?_
  refine wp_ret <| ?_
  obtain rfl := Option.some.inj hm
  exact r1 hF Tryd.results3 rfl ⟨rfl, hS.keep⟩

set_option maxHeartbeats 4000000 in
set_option maxRecDepth 100000 in
theorem leadlinelaw15_EventBoth_c {N : Nat} {w0 : World} {H : PH} (hH : H.le w0) (hT : Tab H) {p1 : api_Event} {p2 : api_Event} {p3 : Int} {r : Bool} (hm : leadlinelaw15_EventBoth N p1 p2 p3 = some r) : Tot Tryd.prog 4 #[.agg #[.int .i64 p1.Kind, .int .i64 p1.T, .int .i64 p1.A, .int .i64 p1.N, .int .i64 p1.M], .agg #[.int .i64 p2.Kind, .int .i64 p2.T, .int .i64 p2.A, .int .i64 p2.N, .int .i64 p2.M], .int .i64 p3] w0 (fun v w' => v = .bool r ∧ Keep Nil w0 w') := by
  unfold leadlinelaw15_EventBoth at hm
  refine fn0 (args := [.agg #[.int .i64 p1.Kind, .int .i64 p1.T, .int .i64 p1.A, .int .i64 p1.N, .int .i64 p1.M], .agg #[.int .i64 p2.Kind, .int .i64 p2.T, .int .i64 p2.A, .int .i64 p2.N, .int .i64 p2.M], .int .i64 p3]) (F := [(0, .agg #[.int .i64 p1.Kind, .int .i64 p1.T, .int .i64 p1.A, .int .i64 p1.N, .int .i64 p1.M]), (1, .agg #[.int .i64 p2.Kind, .int .i64 p2.T, .int .i64 p2.A, .int .i64 p2.N, .int .i64 p2.M]), (2, .int .i64 p3)]) Tryd.func4 rfl Tryd.ntmps4 rfl rfl fun a hF => ?_
  have hS : St w0 Nil [H] [] w0 := start1 hH
  refine th <| ?_
  refine rg <| ?_
  refine ls <| a_box (cs := [.int .i64 p1.Kind, .int .i64 p1.T, .int .i64 p1.A, .int .i64 p1.N, .int .i64 p1.M].toArray) hF rfl hS rfl rfl fun b4 w a hS hF => ?_
  refine ls <| a_box (cs := [.int .i64 p2.Kind, .int .i64 p2.T, .int .i64 p2.A, .int .i64 p2.N, .int .i64 p2.M].toArray) hF rfl hS rfl rfl fun b5 w a hS hF => ?_
  refine ls <| q1 hF rfl (e_asg hF rfl) fun a hF => ?_
  refine re <| ?_
  refine tn <| th <| ?_
  refine rg <| ?_
  refine ls <| a_bsl (e := 3) (sz := 1) [.int .i64 0, .int .i64 0, .int .i64 1, .int .i64 1, .int .i64 2] hF rfl hS rfl rfl rfl (fun w => by kernel_rfl) fun b7 w a hS hF => ?_
  have hv6 : Rows (α := Int) H [.int .i64 0, .int .i64 0, .int .i64 1, .int .i64 1, .int .i64 2] ([0, 0, 1, 1, 2] : List Int) := (.cons (c := [.int .i64 0]) rfl (.cons (c := [.int .i64 0]) rfl (.cons (c := [.int .i64 1]) rfl (.cons (c := [.int .i64 1]) rfl (.cons (c := [.int .i64 2]) rfl .nil)))))
  refine ls <| q1 hF rfl (e_asg hF rfl) fun a hF => ?_
  refine re <| ?_
  refine tn <| th <| ?_
  replace hm := bind_some hm
  obtain ⟨r9, h10, hm⟩ := hm
  refine rg <| ?_
  refine ls <| q1 hF rfl (e_ldA hF Tryd.isAgg23 Tryd.sizeOf23 rfl rfl ((St.ld hS).cellsB (.tail _ (.tail _ (.head _))))) fun a hF => ?_
  refine ls <| q1 hF rfl (e_ldA hF Tryd.isAgg23 Tryd.sizeOf23 rfl rfl ((St.ld hS).cellsB (.tail _ (.head _)))) fun a hF => ?_
  refine ls <| q1 hF rfl (e_move hF rfl) fun a hF => ?_
  refine ls <| q1 hF rfl (e_move hF rfl) fun a hF => ?_
  refine ls <| c1 hF rfl Tryd.call16 (event_Depend_c (hp_le _) (St.capO hS (.head _)) (St.srO hS (.head _) hv6) h10) ⟨rfl, rfl, rfl, rfl, trivial⟩ (fun v w a hR hF => ?_)
  obtain ⟨rfl, hk⟩ := hR
  replace hS := hS.pass hk
  clear hk
  refine ls <| q1 hF rfl (e_asg hF rfl) fun a hF => ?_
  refine re <| ?_
  refine tn <| th <| ?_
  refine rg <| ?_
  refine ls <| q1 hF rfl (e_fa hF fa23_0 rfl) fun a hF => ?_
  refine ls <| q1 hF rfl (e_ld hF Tryd.isAgg3 rfl ((St.ld hS).cellB (.tail _ (.tail _ (.head _))) rfl)) fun a hF => ?_
  refine ls <| q1 hF rfl (e_eql hF rfl rfl) fun a hF => ?_
  refine ls <| q1 hF rfl (e_move hF rfl) fun a hF => ?_
  refine grp (N := 75) (Fk := [(2, .int .i64 p3), (3, .pointer (some ⟨b4, 0, none⟩)), (4, .pointer (some ⟨b5, 0, none⟩)), (7, .slice (some ⟨b7, 0, none⟩) ([0, 0, 1, 1, 2] : List Int).length 5), (8, .bool r9), (23, .bool ((decide (p1.Kind = 15)) || (decide (p1.Kind = 16))))]) (b := (decide (p1.Kind = 15))) 4 hS ?_ ?_ ?_
  ·
    intro hb key
    replace hF := Fr.as hF (t := 19) rfl (congrArg Value.bool hb)
    refine ls <| gn hF rfl rfl rfl rfl fun a hF => ?_
    refine ls <| gn hF rfl rfl rfl rfl fun a hF => ?_
    refine ls <| gn hF rfl rfl rfl rfl fun a hF => ?_
    refine ls <| q1 hF rfl (e_as (v' := .bool ((decide (p1.Kind = 15)) || (decide (p1.Kind = 16)))) (e_pickT hF rfl rfl) (by rw [hb]; rfl)) fun a hF => ?_
    exact key _ _ (hF.has ⟨rfl, rfl, rfl, rfl, rfl, rfl, trivial⟩) hS
  ·
    intro hb key
    replace hF := Fr.as hF (t := 19) rfl (congrArg Value.bool hb)
    refine ls <| gy hF rfl rfl <| q1 hF rfl (e_fa hF fa23_0 rfl) fun a hF => ?_
    refine ls <| gy hF rfl rfl <| q1 hF rfl (e_ld hF Tryd.isAgg3 rfl ((St.ld hS).cellB (.tail _ (.tail _ (.head _))) rfl)) fun a hF => ?_
    refine ls <| gy hF rfl rfl <| q1 hF rfl (e_eql hF rfl rfl) fun a hF => ?_
    refine ls <| q1 hF rfl (e_as (v' := .bool ((decide (p1.Kind = 15)) || (decide (p1.Kind = 16)))) (e_pickF hF rfl rfl) (by rw [hb]; rfl)) fun a hF => ?_
    exact key _ _ (hF.has ⟨rfl, rfl, rfl, rfl, rfl, rfl, trivial⟩) hS
  intro a w hF hS
  refine ls <| q1 hF rfl (e_move hF rfl) fun a hF => ?_
  refine grp (N := 75) (Fk := [(2, .int .i64 p3), (3, .pointer (some ⟨b4, 0, none⟩)), (4, .pointer (some ⟨b5, 0, none⟩)), (7, .slice (some ⟨b7, 0, none⟩) ([0, 0, 1, 1, 2] : List Int).length 5), (8, .bool r9), (28, .bool (((decide (p1.Kind = 15)) || (decide (p1.Kind = 16))) || (decide (p2.Kind = 15))))]) (b := ((decide (p1.Kind = 15)) || (decide (p1.Kind = 16)))) 4 hS ?_ ?_ ?_
  ·
    intro hb key
    replace hF := Fr.as hF (t := 24) rfl (congrArg Value.bool hb)
    refine ls <| gn hF rfl rfl rfl rfl fun a hF => ?_
    refine ls <| gn hF rfl rfl rfl rfl fun a hF => ?_
    refine ls <| gn hF rfl rfl rfl rfl fun a hF => ?_
    refine ls <| q1 hF rfl (e_as (v' := .bool (((decide (p1.Kind = 15)) || (decide (p1.Kind = 16))) || (decide (p2.Kind = 15)))) (e_pickT hF rfl rfl) (by rw [hb]; rfl)) fun a hF => ?_
    exact key _ _ (hF.has ⟨rfl, rfl, rfl, rfl, rfl, rfl, trivial⟩) hS
  ·
    intro hb key
    replace hF := Fr.as hF (t := 24) rfl (congrArg Value.bool hb)
    refine ls <| gy hF rfl rfl <| q1 hF rfl (e_fa hF fa23_0 rfl) fun a hF => ?_
    refine ls <| gy hF rfl rfl <| q1 hF rfl (e_ld hF Tryd.isAgg3 rfl ((St.ld hS).cellB (.tail _ (.head _)) rfl)) fun a hF => ?_
    refine ls <| gy hF rfl rfl <| q1 hF rfl (e_eql hF rfl rfl) fun a hF => ?_
    refine ls <| q1 hF rfl (e_as (v' := .bool (((decide (p1.Kind = 15)) || (decide (p1.Kind = 16))) || (decide (p2.Kind = 15)))) (e_pickF hF rfl rfl) (by rw [hb]; rfl)) fun a hF => ?_
    exact key _ _ (hF.has ⟨rfl, rfl, rfl, rfl, rfl, rfl, trivial⟩) hS
  intro a w hF hS
  refine ls <| q1 hF rfl (e_move hF rfl) fun a hF => ?_
  refine grp (N := 75) (Fk := [(2, .int .i64 p3), (3, .pointer (some ⟨b4, 0, none⟩)), (4, .pointer (some ⟨b5, 0, none⟩)), (7, .slice (some ⟨b7, 0, none⟩) ([0, 0, 1, 1, 2] : List Int).length 5), (8, .bool r9), (33, .bool ((((decide (p1.Kind = 15)) || (decide (p1.Kind = 16))) || (decide (p2.Kind = 15))) || (decide (p2.Kind = 16))))]) (b := (((decide (p1.Kind = 15)) || (decide (p1.Kind = 16))) || (decide (p2.Kind = 15)))) 4 hS ?_ ?_ ?_
  ·
    intro hb key
    replace hF := Fr.as hF (t := 29) rfl (congrArg Value.bool hb)
    refine ls <| gn hF rfl rfl rfl rfl fun a hF => ?_
    refine ls <| gn hF rfl rfl rfl rfl fun a hF => ?_
    refine ls <| gn hF rfl rfl rfl rfl fun a hF => ?_
    refine ls <| q1 hF rfl (e_as (v' := .bool ((((decide (p1.Kind = 15)) || (decide (p1.Kind = 16))) || (decide (p2.Kind = 15))) || (decide (p2.Kind = 16)))) (e_pickT hF rfl rfl) (by rw [hb]; rfl)) fun a hF => ?_
    exact key _ _ (hF.has ⟨rfl, rfl, rfl, rfl, rfl, rfl, trivial⟩) hS
  ·
    intro hb key
    replace hF := Fr.as hF (t := 29) rfl (congrArg Value.bool hb)
    refine ls <| gy hF rfl rfl <| q1 hF rfl (e_fa hF fa23_0 rfl) fun a hF => ?_
    refine ls <| gy hF rfl rfl <| q1 hF rfl (e_ld hF Tryd.isAgg3 rfl ((St.ld hS).cellB (.tail _ (.head _)) rfl)) fun a hF => ?_
    refine ls <| gy hF rfl rfl <| q1 hF rfl (e_eql hF rfl rfl) fun a hF => ?_
    refine ls <| q1 hF rfl (e_as (v' := .bool ((((decide (p1.Kind = 15)) || (decide (p1.Kind = 16))) || (decide (p2.Kind = 15))) || (decide (p2.Kind = 16)))) (e_pickF hF rfl rfl) (by rw [hb]; rfl)) fun a hF => ?_
    exact key _ _ (hF.has ⟨rfl, rfl, rfl, rfl, rfl, rfl, trivial⟩) hS
  intro a w hF hS
  refine ls <| q1 hF rfl (e_asg hF rfl) fun a hF => ?_
  refine re <| ?_
  refine tn <| th <| th <| ?_
  replace hm := bind_some hm
  obtain ⟨r11, h12, hm⟩ := hm
  refine rg <| ?_
  refine ls <| q1 hF rfl (e_move hF rfl) fun a hF => ?_
  refine ls <| q1 hF rfl (e_ldA hF Tryd.isAgg23 Tryd.sizeOf23 rfl rfl ((St.ld hS).cellsB (.tail _ (.head _)))) fun a hF => ?_
  refine ls <| q1 hF rfl (e_ldA hF Tryd.isAgg23 Tryd.sizeOf23 rfl rfl ((St.ld hS).cellsB (.tail _ (.tail _ (.head _))))) fun a hF => ?_
  refine ls <| q1 hF rfl (e_move hF rfl) fun a hF => ?_
  refine ls <| q1 hF rfl (e_move hF rfl) fun a hF => ?_
  refine ls <| c1 hF rfl Tryd.call16 (event_Depend_c (hp_le _) (St.capO hS (.head _)) (St.srO hS (.head _) hv6) h12) ⟨rfl, rfl, rfl, rfl, trivial⟩ (fun v w a hR hF => ?_)
  obtain ⟨rfl, hk⟩ := hR
  replace hS := hS.pass hk
  clear hk
  refine ls <| q1 hF rfl (e_neqB hF Tryd.runUnderlying4 rfl rfl) fun a hF => ?_
  refine ls <| q1 hF rfl (e_move hF rfl) fun a hF => ?_
  refine grp (N := 75) (Fk := [(2, .int .i64 p3), (3, .pointer (some ⟨b4, 0, none⟩)), (4, .pointer (some ⟨b5, 0, none⟩)), (7, .slice (some ⟨b7, 0, none⟩) ([0, 0, 1, 1, 2] : List Int).length 5), (8, .bool r9), (9, .bool ((((decide (p1.Kind = 15)) || (decide (p1.Kind = 16))) || (decide (p2.Kind = 15))) || (decide (p2.Kind = 16)))), (51, .bool ((r9 != r11) || ((decide (p1.T = p2.T)) && (!r9))))]) (b := (r9 != r11)) 10 hS ?_ ?_ ?_
  ·
    intro hb key
    replace hF := Fr.as hF (t := 41) rfl (congrArg Value.bool hb)
    refine ls <| gn hF rfl rfl rfl rfl fun a hF => ?_
    refine ls <| gn hF rfl rfl rfl rfl fun a hF => ?_
    refine ls <| gn hF rfl rfl rfl rfl fun a hF => ?_
    refine ls <| gn hF rfl rfl rfl rfl fun a hF => ?_
    refine ls <| gn hF rfl rfl rfl rfl fun a hF => ?_
    refine ls <| gn hF rfl rfl rfl rfl fun a hF => ?_
    refine ls <| gnu hF rfl rfl rfl fun a hF => ?_
    refine ls <| gnu hF rfl rfl rfl fun a hF => ?_
    refine ls <| gn hF rfl rfl rfl rfl fun a hF => ?_
    refine ls <| q1 hF rfl (e_as (v' := .bool ((r9 != r11) || ((decide (p1.T = p2.T)) && (!r9)))) (e_pickT hF rfl rfl) (by rw [hb]; rfl)) fun a hF => ?_
    exact key _ _ (hF.has ⟨rfl, rfl, rfl, rfl, rfl, rfl, rfl, trivial⟩) hS
  ·
    intro hb key
    replace hF := Fr.as hF (t := 41) rfl (congrArg Value.bool hb)
    refine ls <| gy hF rfl rfl <| q1 hF rfl (e_fa hF fa23_1 rfl) fun a hF => ?_
    refine ls <| gy hF rfl rfl <| q1 hF rfl (e_ld hF Tryd.isAgg3 rfl ((St.ld hS).cellB (.tail _ (.tail _ (.head _))) rfl)) fun a hF => ?_
    refine ls <| gy hF rfl rfl <| q1 hF rfl (e_fa hF fa23_1 rfl) fun a hF => ?_
    refine ls <| gy hF rfl rfl <| q1 hF rfl (e_ld hF Tryd.isAgg3 rfl ((St.ld hS).cellB (.tail _ (.head _)) rfl)) fun a hF => ?_
    refine ls <| gy hF rfl rfl <| q1 hF rfl (e_eql hF rfl rfl) fun a hF => ?_
    refine ls <| gy hF rfl rfl <| q1 hF rfl (e_move hF rfl) fun a hF => ?_
    refine grp (N := 75) (Fk := [(2, .int .i64 p3), (3, .pointer (some ⟨b4, 0, none⟩)), (4, .pointer (some ⟨b5, 0, none⟩)), (7, .slice (some ⟨b7, 0, none⟩) ([0, 0, 1, 1, 2] : List Int).length 5), (8, .bool r9), (9, .bool ((((decide (p1.Kind = 15)) || (decide (p1.Kind = 16))) || (decide (p2.Kind = 15))) || (decide (p2.Kind = 16)))), (41, .bool false), (50, .bool ((decide (p1.T = p2.T)) && (!r9)))]) (b := (decide (p1.T = p2.T))) 3 hS ?_ ?_ ?_
    ·
      intro hb key
      replace hF := Fr.as hF (t := 47) rfl (congrArg Value.bool hb)
      refine ls <| gy hF rfl rfl <| q1 hF rfl (e_move hF rfl) fun a hF => ?_
      refine ls <| gy hF rfl rfl <| q1 hF rfl (e_not hF rfl) fun a hF => ?_
      refine ls <| gy hF rfl rfl <| q1 hF rfl (e_as (v' := .bool ((decide (p1.T = p2.T)) && (!r9))) (e_pickT hF rfl rfl) (by rw [hb]; rfl)) fun a hF => ?_
      exact key _ _ (hF.has ⟨rfl, rfl, rfl, rfl, rfl, rfl, rfl, rfl, trivial⟩) hS
    ·
      intro hb key
      replace hF := Fr.as hF (t := 47) rfl (congrArg Value.bool hb)
      refine ls <| gn hF rfl rfl rfl rfl fun a hF => ?_
      refine ls <| gn hF rfl rfl rfl rfl fun a hF => ?_
      refine ls <| gy hF rfl rfl <| q1 hF rfl (e_as (v' := .bool ((decide (p1.T = p2.T)) && (!r9))) (e_pickF hF rfl rfl) (by rw [hb]; rfl)) fun a hF => ?_
      exact key _ _ (hF.has ⟨rfl, rfl, rfl, rfl, rfl, rfl, rfl, rfl, trivial⟩) hS
    intro a w hF hS
    refine ls <| q1 hF rfl (e_as (v' := .bool ((r9 != r11) || ((decide (p1.T = p2.T)) && (!r9)))) (e_pickF hF rfl rfl) (by rw [hb]; rfl)) fun a hF => ?_
    exact key _ _ (hF.has ⟨rfl, rfl, rfl, rfl, rfl, rfl, rfl, trivial⟩) hS
  intro a w hF hS
  refine re <| ?_
  replace hm := bind_some hm
  obtain ⟨_, hb13, hm⟩ := hm
  replace hb13 := bnt (sure_some hb13)
  refine tn <| cfv hF rfl hb13 <| wp_skip <| ?_
  refine tn <| th <| ?_
  rcases bdich ((decide (p1.T = p2.T)) || ((((decide (p1.Kind = 15)) || (decide (p1.Kind = 16))) || (decide (p2.Kind = 15))) || (decide (p2.Kind = 16)))) with hb14 | hb14
  ·
    replace hm := ite_t hm hb14
    replace hm := bind_some hm
    obtain ⟨r15, h16, hm⟩ := hm
    refine rg <| ?_
    refine ls <| q1 hF rfl (e_fa hF fa23_1 rfl) fun a hF => ?_
    refine ls <| q1 hF rfl (e_ld hF Tryd.isAgg3 rfl ((St.ld hS).cellB (.tail _ (.tail _ (.head _))) rfl)) fun a hF => ?_
    refine ls <| q1 hF rfl (e_fa hF fa23_1 rfl) fun a hF => ?_
    refine ls <| q1 hF rfl (e_ld hF Tryd.isAgg3 rfl ((St.ld hS).cellB (.tail _ (.head _)) rfl)) fun a hF => ?_
    refine ls <| q1 hF rfl (e_eql hF rfl rfl) fun a hF => ?_
    refine ls <| q1 hF rfl (e_move hF rfl) fun a hF => ?_
    refine grp (N := 75) (Fk := [(2, .int .i64 p3), (3, .pointer (some ⟨b4, 0, none⟩)), (7, .slice (some ⟨b7, 0, none⟩) ([0, 0, 1, 1, 2] : List Int).length 5), (8, .bool r9), (59, .bool ((decide (p1.T = p2.T)) || ((((decide (p1.Kind = 15)) || (decide (p1.Kind = 16))) || (decide (p2.Kind = 15))) || (decide (p2.Kind = 16)))))]) (b := (decide (p1.T = p2.T))) 2 hS ?_ ?_ ?_
    ·
      intro hb key
      replace hF := Fr.as hF (t := 57) rfl (congrArg Value.bool hb)
      refine ls <| gn hF rfl rfl rfl rfl fun a hF => ?_
      refine ls <| q1 hF rfl (e_as (v' := .bool ((decide (p1.T = p2.T)) || ((((decide (p1.Kind = 15)) || (decide (p1.Kind = 16))) || (decide (p2.Kind = 15))) || (decide (p2.Kind = 16))))) (e_pickT hF rfl rfl) (by rw [hb]; rfl)) fun a hF => ?_
      exact key _ _ (hF.has ⟨rfl, rfl, rfl, rfl, rfl, trivial⟩) hS
    ·
      intro hb key
      replace hF := Fr.as hF (t := 57) rfl (congrArg Value.bool hb)
      refine ls <| gy hF rfl rfl <| q1 hF rfl (e_move hF rfl) fun a hF => ?_
      refine ls <| q1 hF rfl (e_as (v' := .bool ((decide (p1.T = p2.T)) || ((((decide (p1.Kind = 15)) || (decide (p1.Kind = 16))) || (decide (p2.Kind = 15))) || (decide (p2.Kind = 16))))) (e_pickF hF rfl rfl) (by rw [hb]; rfl)) fun a hF => ?_
      exact key _ _ (hF.has ⟨rfl, rfl, rfl, rfl, rfl, trivial⟩) hS
    intro a w hF hS
    refine ls <| q1 hF rfl (e_as (e_move hF rfl) (congrArg Value.bool hb14)) fun a hF => ?_
    refine ls <| gn hF rfl rfl rfl rfl fun a hF => ?_
    refine ls <| gn hF rfl rfl rfl rfl fun a hF => ?_
    refine ls <| gn hF rfl rfl rfl rfl fun a hF => ?_
    refine ls <| gn hF rfl rfl rfl rfl fun a hF => ?_
    refine ls <| gn hF rfl rfl rfl rfl fun a hF => ?_
    refine ls <| gn hF rfl rfl rfl rfl fun a hF => ?_
    refine ls <| q1 hF rfl (e_pickT hF rfl rfl) fun a hF => ?_
    refine ls <| q1 hF rfl (e_move hF rfl) fun a hF => ?_
    refine ls <| gn hF rfl rfl rfl rfl fun a hF => ?_
    refine ls <| gn hF rfl rfl rfl rfl fun a hF => ?_
    refine ls <| q1 hF rfl (e_pickT hF rfl rfl) fun a hF => ?_
    refine ls <| q1 hF rfl (e_move hF rfl) fun a hF => ?_
    refine ls <| gy hF rfl rfl <| c1 hF rfl Tryd.call24 (leadlinelaw15_fixed_c (hp_le _) (Tab.mono hT (St.up hS)) h16) trivial (fun v w a hR hF => ?_)
    obtain ⟨rfl, hk⟩ := hR
    replace hS := hS.pass hk
    clear hk
    refine ls <| q1 hF rfl (e_pickT hF rfl rfl) fun a hF => ?_
    refine ls <| q1 hF rfl (e_asg hF rfl) fun a hF => ?_
    refine re <| ?_
    refine tn <| ?_
    refine wp_ret <| ?_
    obtain rfl := Option.some.inj hm
    exact r1 hF Tryd.results4 rfl ⟨rfl, hS.keep⟩
  ·
    replace hm := ite_f hm hb14
    replace hm := bind_some hm
    obtain ⟨r17, h18, hm⟩ := hm
    replace hm := bind_some hm
    obtain ⟨_, hb24, hm⟩ := hm
    replace hb24 := sure_some hb24
    replace hm := bind_some hm
    obtain ⟨r25, h26, hm⟩ := hm
    refine rg <| ?_
    refine ls <| q1 hF rfl (e_fa hF fa23_1 rfl) fun a hF => ?_
    refine ls <| q1 hF rfl (e_ld hF Tryd.isAgg3 rfl ((St.ld hS).cellB (.tail _ (.tail _ (.head _))) rfl)) fun a hF => ?_
    refine ls <| q1 hF rfl (e_fa hF fa23_1 rfl) fun a hF => ?_
    refine ls <| q1 hF rfl (e_ld hF Tryd.isAgg3 rfl ((St.ld hS).cellB (.tail _ (.head _)) rfl)) fun a hF => ?_
    refine ls <| q1 hF rfl (e_eql hF rfl rfl) fun a hF => ?_
    refine ls <| q1 hF rfl (e_move hF rfl) fun a hF => ?_
    refine grp (N := 75) (Fk := [(2, .int .i64 p3), (3, .pointer (some ⟨b4, 0, none⟩)), (7, .slice (some ⟨b7, 0, none⟩) ([0, 0, 1, 1, 2] : List Int).length 5), (8, .bool r9), (59, .bool ((decide (p1.T = p2.T)) || ((((decide (p1.Kind = 15)) || (decide (p1.Kind = 16))) || (decide (p2.Kind = 15))) || (decide (p2.Kind = 16)))))]) (b := (decide (p1.T = p2.T))) 2 hS ?_ ?_ ?_
    ·
      intro hb key
      replace hF := Fr.as hF (t := 57) rfl (congrArg Value.bool hb)
      refine ls <| gn hF rfl rfl rfl rfl fun a hF => ?_
      refine ls <| q1 hF rfl (e_as (v' := .bool ((decide (p1.T = p2.T)) || ((((decide (p1.Kind = 15)) || (decide (p1.Kind = 16))) || (decide (p2.Kind = 15))) || (decide (p2.Kind = 16))))) (e_pickT hF rfl rfl) (by rw [hb]; rfl)) fun a hF => ?_
      exact key _ _ (hF.has ⟨rfl, rfl, rfl, rfl, rfl, trivial⟩) hS
    ·
      intro hb key
      replace hF := Fr.as hF (t := 57) rfl (congrArg Value.bool hb)
      refine ls <| gy hF rfl rfl <| q1 hF rfl (e_move hF rfl) fun a hF => ?_
      refine ls <| q1 hF rfl (e_as (v' := .bool ((decide (p1.T = p2.T)) || ((((decide (p1.Kind = 15)) || (decide (p1.Kind = 16))) || (decide (p2.Kind = 15))) || (decide (p2.Kind = 16))))) (e_pickF hF rfl rfl) (by rw [hb]; rfl)) fun a hF => ?_
      exact key _ _ (hF.has ⟨rfl, rfl, rfl, rfl, rfl, trivial⟩) hS
    intro a w hF hS
    refine ls <| q1 hF rfl (e_as (e_move hF rfl) (congrArg Value.bool hb14)) fun a hF => ?_
    refine ls <| gy hF rfl rfl <| q1 hF rfl (e_ldA hF Tryd.isAgg23 Tryd.sizeOf23 rfl rfl ((St.ld hS).cellsB (.tail _ (.tail _ (.head _))))) fun a hF => ?_
    refine ls <| gy hF rfl rfl <| q1 hF rfl (e_move hF rfl) fun a hF => ?_
    refine ls <| gy hF rfl rfl <| q1 hF rfl (e_move hF rfl) fun a hF => ?_
    refine ls <| gy hF rfl rfl <| c1 hF rfl Tryd.call14 (event_Uses_c (hp_le _) (St.capO hS (.head _)) (St.srO hS (.head _) hv6) h18) ⟨rfl, rfl, rfl, trivial⟩ (fun v w a hR hF => ?_)
    obtain ⟨oa19, cap20, vs21, rfl, hv22, hk⟩ := hR
    replace hS := hS.fresh hk
    clear hk
    replace hv22 := hv22 H
    refine ls <| gy hF rfl rfl <| q1 hF rfl (e_lenL (α := api_Use) (xs := r17) hF Tryd.runUnderlying29 rfl) fun a hF => ?_
    refine ls <| gy hF rfl rfl <| q1 hF rfl (e_gtr hF rfl rfl) fun a hF => ?_
    refine ls <| q1 hF rfl (e_pickF hF rfl rfl) fun a hF => ?_
    refine ls <| q1 hF rfl (e_move hF rfl) fun a hF => ?_
    refine grp (N := 75) (Fk := [(71, .bool ((decide (0 < (r17.length : Int))) || (!r9)))]) (b := (decide (0 < (r17.length : Int)))) 3 hS ?_ ?_ ?_
    ·
      intro hb key
      replace hF := Fr.as hF (t := 68) rfl (congrArg Value.bool hb)
      refine ls <| gn hF rfl rfl rfl rfl fun a hF => ?_
      refine ls <| gn hF rfl rfl rfl rfl fun a hF => ?_
      refine ls <| q1 hF rfl (e_as (v' := .bool ((decide (0 < (r17.length : Int))) || (!r9))) (e_pickT hF rfl rfl) (by rw [hb]; rfl)) fun a hF => ?_
      exact key _ _ (hF.has ⟨rfl, trivial⟩) hS
    ·
      intro hb key
      replace hF := Fr.as hF (t := 68) rfl (congrArg Value.bool hb)
      refine ls <| gy hF rfl rfl <| q1 hF rfl (e_move hF rfl) fun a hF => ?_
      refine ls <| gy hF rfl rfl <| q1 hF rfl (e_not hF rfl) fun a hF => ?_
      refine ls <| q1 hF rfl (e_as (v' := .bool ((decide (0 < (r17.length : Int))) || (!r9))) (e_pickF hF rfl rfl) (by rw [hb]; rfl)) fun a hF => ?_
      exact key _ _ (hF.has ⟨rfl, trivial⟩) hS
    intro a w hF hS
    refine ls <| q1 hF rfl (e_as (e_move hF rfl) (congrArg Value.bool hb24)) fun a hF => ?_
    refine ls <| gy hF rfl rfl <| c1 hF rfl Tryd.call24 (leadlinelaw15_fixed_c (hp_le _) (Tab.mono hT (St.up hS)) h26) trivial (fun v w a hR hF => ?_)
    obtain ⟨rfl, hk⟩ := hR
    replace hS := hS.pass hk
    clear hk
    refine ls <| q1 hF rfl (e_pickT hF rfl rfl) fun a hF => ?_
    refine ls <| q1 hF rfl (e_asg hF rfl) fun a hF => ?_
    refine re <| ?_
    refine tn <| ?_
    refine wp_ret <| ?_
    obtain rfl := Option.some.inj hm
    exact r1 hF Tryd.results4 rfl ⟨rfl, hS.keep⟩
end Go.LM.ET
