/- Walks, lifted by program. No condition beyond each theorem's own premises. -/
import Derived.Test.YtimaeihmnipfgaaDoorETW6
namespace Go.LM.ET
open Go Go.LL Go.MD Go.LM Go.Proofs Go.MD.ET

set_option maxRecDepth 100000 in
theorem leadlinelaw15_EventShows_c {N : Nat} {w0 : World} {H : PH} (hH : H.le w0) (hT : Tab H) {p1 : api_Event} {p2 : api_Event} {r : Bool} (hm : leadlinelaw15_EventShows N p1 p2 = some r) : Tot Tryd.prog 5 #[.agg #[.int .i64 p1.Kind, .int .i64 p1.T, .int .i64 p1.A, .int .i64 p1.N, .int .i64 p1.M], .agg #[.int .i64 p2.Kind, .int .i64 p2.T, .int .i64 p2.A, .int .i64 p2.N, .int .i64 p2.M]] w0 (fun v w' => v = .bool r ∧ Keep Nil w0 w') := by
  unfold leadlinelaw15_EventShows at hm
  refine fn0 (args := [.agg #[.int .i64 p1.Kind, .int .i64 p1.T, .int .i64 p1.A, .int .i64 p1.N, .int .i64 p1.M], .agg #[.int .i64 p2.Kind, .int .i64 p2.T, .int .i64 p2.A, .int .i64 p2.N, .int .i64 p2.M]]) (F := [(0, .agg #[.int .i64 p1.Kind, .int .i64 p1.T, .int .i64 p1.A, .int .i64 p1.N, .int .i64 p1.M]), (1, .agg #[.int .i64 p2.Kind, .int .i64 p2.T, .int .i64 p2.A, .int .i64 p2.N, .int .i64 p2.M])]) Tryd.func5 rfl Tryd.ntmps5 rfl rfl fun a hF => ?_
  have hS : St w0 Nil [H] [] w0 := start1 hH
  refine th <| ?_
  refine rg <| ?_
  refine ls <| a_box (cs := [.int .i64 p1.Kind, .int .i64 p1.T, .int .i64 p1.A, .int .i64 p1.N, .int .i64 p1.M].toArray) hF rfl hS rfl rfl fun b3 w a hS hF => ?_
  refine ls <| a_box (cs := [.int .i64 p2.Kind, .int .i64 p2.T, .int .i64 p2.A, .int .i64 p2.N, .int .i64 p2.M].toArray) hF rfl hS rfl rfl fun b4 w a hS hF => ?_
  refine ls <| q1 hF rfl (e_asg hF rfl) fun a hF => ?_
  refine re <| ?_
  refine tn <| th <| th <| midK (fun a w => ∃ (vA2 : Bool) (HA1 : PH), (leadlinelaw15_EventShows_j1 N p1 p2) vA2 = some r ∧ Ext w0 H HA1 ∧ Fr 31 [(2, .pointer (some ⟨b3, 0, none⟩)), (3, .pointer (some ⟨b4, 0, none⟩)), (12, .bool vA2)] a ∧ St w0 Nil [HA1] [blk b3 (.cells [.int .i64 p1.Kind, .int .i64 p1.T, .int .i64 p1.A, .int .i64 p1.N, .int .i64 p1.M].toArray 23 (0, 0)), blk b4 (.cells [.int .i64 p2.Kind, .int .i64 p2.T, .int .i64 p2.A, .int .i64 p2.N, .int .i64 p2.M].toArray 23 (0, 0))] w) ?_ ?_
  ·
    replace hm := bind_some hm
    obtain ⟨r5, h6, hm⟩ := hm
    rcases bdich r5 with hb7 | hb7
    ·
      replace hm := ite_t hm hb7
      have hb7' : (!r5) = false := by rw [hb7]; rfl
      replace hm := bind_some hm
      obtain ⟨r8, h9, hm⟩ := hm
      refine rg <| ?_
      refine ls <| q1 hF rfl (e_ldA hF Tryd.isAgg23 Tryd.sizeOf23 rfl rfl ((St.ld hS).cellsB (.tail _ (.head _)))) fun a hF => ?_
      refine ls <| c1 hF rfl Tryd.call18 (event_Right_c (hp_le _) h6) ⟨rfl, trivial⟩ (fun v w a hR hF => ?_)
      obtain ⟨rfl, hk⟩ := hR
      replace hS := hS.pass hk
      clear hk
      refine ls <| q1 hF rfl (e_not hF rfl) fun a hF => ?_
      refine ls <| q1 hF rfl (e_as (e_move hF rfl) (congrArg Value.bool hb7')) fun a hF => ?_
      refine ls <| gy hF rfl rfl <| q1 hF rfl (e_ldA hF Tryd.isAgg23 Tryd.sizeOf23 rfl rfl ((St.ld hS).cellsB (.head _))) fun a hF => ?_
      refine ls <| gy hF rfl rfl <| c1 hF rfl Tryd.call18 (event_Right_c (hp_le _) h9) ⟨rfl, trivial⟩ (fun v w a hR hF => ?_)
      obtain ⟨rfl, hk⟩ := hR
      replace hS := hS.pass hk
      clear hk
      refine ls <| gy hF rfl rfl <| q1 hF rfl (e_not hF rfl) fun a hF => ?_
      refine ls <| q1 hF rfl (e_pickF hF rfl rfl) fun a hF => ?_
      refine re <| ?_
      refine tn <| ?_
      replace hS := hS.pickL (.cons (.tail .head) (.cons .head .nil))
      exact ⟨(!r8), H, hm, (Ext.refl _ _), hF.has ⟨rfl, rfl, rfl, trivial⟩, hS⟩
    ·
      replace hm := ite_f hm hb7
      have hb7' : (!r5) = true := by rw [hb7]; rfl
      refine rg <| ?_
      refine ls <| q1 hF rfl (e_ldA hF Tryd.isAgg23 Tryd.sizeOf23 rfl rfl ((St.ld hS).cellsB (.tail _ (.head _)))) fun a hF => ?_
      refine ls <| c1 hF rfl Tryd.call18 (event_Right_c (hp_le _) h6) ⟨rfl, trivial⟩ (fun v w a hR hF => ?_)
      obtain ⟨rfl, hk⟩ := hR
      replace hS := hS.pass hk
      clear hk
      refine ls <| q1 hF rfl (e_not hF rfl) fun a hF => ?_
      refine ls <| q1 hF rfl (e_as (e_move hF rfl) (congrArg Value.bool hb7')) fun a hF => ?_
      refine ls <| gn hF rfl rfl rfl rfl fun a hF => ?_
      refine ls <| gn hF rfl rfl rfl rfl fun a hF => ?_
      refine ls <| gn hF rfl rfl rfl rfl fun a hF => ?_
      refine ls <| q1 hF rfl (e_pickT hF rfl rfl) fun a hF => ?_
      refine re <| ?_
      refine tn <| ?_
      replace hS := hS.pickL (.cons (.tail .head) (.cons .head .nil))
      exact ⟨true, H, hm, (Ext.refl _ _), hF.has ⟨rfl, rfl, rfl, trivial⟩, hS⟩
  clear hm hF hS
  rintro a w ⟨vA2, HA1, hm, hxHA1, hF, hS⟩
  unfold leadlinelaw15_EventShows_j1 at hm
  rcases bdich vA2 with hb10 | hb10
  ·
    replace hm := ite_t hm hb10
    refine ctv hF rfl hb10 <| th <| ?_
    replace hm := bind_some hm
    obtain ⟨r11, h12, hm⟩ := hm
    refine rg <| ?_
    refine ls <| c1 hF rfl Tryd.call24 (leadlinelaw15_fixed_c (hp_le _) (Tab.mono (Tab.mono hT hxHA1.sub) (St.up hS)) h12) trivial (fun v w a hR hF => ?_)
    obtain ⟨rfl, hk⟩ := hR
    replace hS := hS.pass hk
    clear hk
    refine ls <| q1 hF rfl (e_asg hF rfl) fun a hF => ?_
    refine re <| ?_
    refine tn <| ?_
    refine wp_ret <| tr <| ?_
    obtain rfl := Option.some.inj hm
    exact r1 hF Tryd.results5 rfl ⟨rfl, hS.keep⟩
  ·
    replace hm := ite_f hm hb10
    refine cfv hF rfl hb10 <| wp_skip <| ?_
    refine tn <| th <| ?_
    replace hm := bind_some hm
    obtain ⟨r13, h14, hm⟩ := hm
    replace hm := bind_some hm
    obtain ⟨r15, h16, hm⟩ := hm
    replace hm := bind_some hm
    obtain ⟨_, hb17, hm⟩ := hm
    replace hb17 := sure_some hb17
    replace hm := bind_some hm
    obtain ⟨r18, h19, hm⟩ := hm
    replace hm := bind_some hm
    obtain ⟨_, hb20, hm⟩ := hm
    replace hb20 := sure_some hb20
    replace hm := bind_some hm
    obtain ⟨r21, h22, hm⟩ := hm
    refine rdS 18 hS wide fun w hS => ?_
    refine d1 (i := 0) rfl (by kernel_rfl) (by kernel_rfl) (St.ld hS) hF rfl (fun _ _ _ h => h) (fun w hl => (e_ldA hF Tryd.isAgg23 Tryd.sizeOf23 rfl rfl (hl.cellsB (.head _)))) fun a hF => ?_
    refine d1 (i := 2) rfl (by kernel_rfl) (by kernel_rfl) (St.ld hS) hF rfl (fun _ _ _ h => h) (fun w hl => (e_ldA hF Tryd.isAgg23 Tryd.sizeOf23 rfl rfl (hl.cellsB (.tail _ (.head _))))) fun a hF => ?_
    refine d1 (i := 5) rfl (by kernel_rfl) (by kernel_rfl) (St.ld hS) hF rfl (fun _ _ _ h => h) (fun w hl => (e_ldA hF Tryd.isAgg23 Tryd.sizeOf23 rfl rfl (hl.cellsB (.head _)))) fun a hF => ?_
    refine d1 (i := 6) rfl (by kernel_rfl) (by kernel_rfl) (St.ld hS) hF rfl (fun _ _ _ h => h) (fun w hl => (e_ldA hF Tryd.isAgg23 Tryd.sizeOf23 rfl rfl (hl.cellsB (.tail _ (.head _))))) fun a hF => ?_
    refine d1 (i := 7) rfl (by kernel_rfl) (by kernel_rfl) (St.ld hS) hF rfl (fun _ _ _ h => h) (fun w hl => (api_Event_eql (x := p1) (y := p2) hF rfl rfl)) fun a hF => ?_
    refine da1 (i := 1) (by kernel_rfl) ?_
    refine di (i := 1) rfl <| c1 hF rfl Tryd.call20 (event_Show_c (hp_le _) (Tab.mono (Tab.mono hT hxHA1.sub) (St.up hS)) h14) ⟨rfl, trivial⟩ (fun v w a hR hF => ?_)
    obtain ⟨rfl, hk⟩ := hR
    replace hS := hS.pass hk
    clear hk
    refine ⟨fun _ => (St.ld hS), ?_⟩
    refine da1 (i := 3) (by kernel_rfl) ?_
    refine di (i := 3) rfl <| c1 hF rfl Tryd.call20 (event_Show_c (hp_le _) (Tab.mono (Tab.mono hT hxHA1.sub) (St.up hS)) h16) ⟨rfl, trivial⟩ (fun v w a hR hF => ?_)
    obtain ⟨rfl, hk⟩ := hR
    replace hS := hS.pass hk
    clear hk
    refine ⟨fun _ => (St.ld hS), ?_⟩
    refine d1 (i := 4) rfl (by kernel_rfl) (by kernel_rfl) (St.ld hS) hF rfl (fun _ _ _ h => h) (fun w hl => (e_eqlU (m := r13) (n := r15) hF rfl rfl)) fun a hF => ?_
    refine d1 (i := 8) rfl (by kernel_rfl) (by kernel_rfl) (St.ld hS) hF rfl (fun _ _ _ h => h) (fun w hl => (e_eqlB hF Tryd.runUnderlying4 rfl rfl)) fun a hF => ?_
    refine d1 (i := 9) rfl (by kernel_rfl) (by kernel_rfl) (St.ld hS) hF rfl (fun _ _ _ h => h) (fun w hl => (e_as (e_move hF rfl) (congrArg Value.bool hb17))) fun a hF => ?_
    refine d1g (i := 10) rfl (by kernel_rfl) (by kernel_rfl) (St.ld hS) hF rfl rfl rfl (fun _ _ _ h => h) (fun w hl => (e_ldA hF Tryd.isAgg23 Tryd.sizeOf23 rfl rfl (hl.cellsB (.head _)))) fun a hF => ?_
    refine da1 (i := 11) (by kernel_rfl) ?_
    refine di (i := 11) rfl <| gy hF rfl rfl <| c1 hF rfl Tryd.call20 (event_Show_c (hp_le _) (Tab.mono (Tab.mono hT hxHA1.sub) (St.up hS)) h19) ⟨rfl, trivial⟩ (fun v w a hR hF => ?_)
    obtain ⟨rfl, hk⟩ := hR
    replace hS := hS.pass hk
    clear hk
    refine ⟨fun _ => (St.ld hS), ?_⟩
    refine d1g (i := 12) rfl (by kernel_rfl) (by kernel_rfl) (St.ld hS) hF rfl rfl rfl (fun _ _ _ h => h) (fun w hl => (e_neqU (m := r18) (n := []) hF rfl rfl)) fun a hF => ?_
    refine d1 (i := 13) rfl (by kernel_rfl) (by kernel_rfl) (St.ld hS) hF rfl (fun _ _ _ h => h) (fun w hl => (e_pickT hF rfl rfl)) fun a hF => ?_
    refine d1 (i := 14) rfl (by kernel_rfl) (by kernel_rfl) (St.ld hS) hF rfl (fun _ _ _ h => h) (fun w hl => (e_as (e_move hF rfl) (congrArg Value.bool hb20))) fun a hF => ?_
    refine da1 (i := 15) (by kernel_rfl) ?_
    refine di (i := 15) rfl <| gy hF rfl rfl <| c1 hF rfl Tryd.call24 (leadlinelaw15_fixed_c (hp_le _) (Tab.mono (Tab.mono hT hxHA1.sub) (St.up hS)) h22) trivial (fun v w a hR hF => ?_)
    obtain ⟨rfl, hk⟩ := hR
    replace hS := hS.pass hk
    clear hk
    refine ⟨fun _ => (St.ld hS), ?_⟩
    refine d1 (i := 16) rfl (by kernel_rfl) (by kernel_rfl) (St.ld hS) hF rfl (fun _ _ _ h => h) (fun w hl => (e_pickT hF rfl rfl)) fun a hF => ?_
    refine d1 (i := 17) rfl (by kernel_rfl) (by kernel_rfl) (St.ld hS) hF rfl (fun _ _ _ h => h) (fun w hl => (e_asg hF rfl)) fun a hF => ?_
    refine de (by kernel_rfl) <| ?_
    refine tn <| ?_
    refine wp_ret <| ?_
    obtain rfl := Option.some.inj hm
    exact r1 hF Tryd.results5 rfl ⟨rfl, hS.keep⟩

set_option maxHeartbeats 4000000 in
set_option maxRecDepth 100000 in
theorem leadlinelaw15_EventUses_c {N : Nat} {w0 : World} {H : PH} (hH : H.le w0) (hT : Tab H) {p1 : api_Event} {p2 : api_Event} {p3 : Int} {r : Bool} (hm : leadlinelaw15_EventUses N p1 p2 p3 = some r) : Tot Tryd.prog 6 #[.agg #[.int .i64 p1.Kind, .int .i64 p1.T, .int .i64 p1.A, .int .i64 p1.N, .int .i64 p1.M], .agg #[.int .i64 p2.Kind, .int .i64 p2.T, .int .i64 p2.A, .int .i64 p2.N, .int .i64 p2.M], .int .i64 p3] w0 (fun v w' => v = .bool r ∧ Keep Nil w0 w') := by
  unfold leadlinelaw15_EventUses at hm
  refine fn0 (args := [.agg #[.int .i64 p1.Kind, .int .i64 p1.T, .int .i64 p1.A, .int .i64 p1.N, .int .i64 p1.M], .agg #[.int .i64 p2.Kind, .int .i64 p2.T, .int .i64 p2.A, .int .i64 p2.N, .int .i64 p2.M], .int .i64 p3]) (F := [(0, .agg #[.int .i64 p1.Kind, .int .i64 p1.T, .int .i64 p1.A, .int .i64 p1.N, .int .i64 p1.M]), (1, .agg #[.int .i64 p2.Kind, .int .i64 p2.T, .int .i64 p2.A, .int .i64 p2.N, .int .i64 p2.M]), (2, .int .i64 p3)]) Tryd.func6 rfl Tryd.ntmps6 rfl rfl fun a hF => ?_
  have hS : St w0 Nil [H] [] w0 := start1 hH
  refine th <| ?_
  refine rg <| ?_
  refine ls <| a_box (cs := [.int .i64 p1.Kind, .int .i64 p1.T, .int .i64 p1.A, .int .i64 p1.N, .int .i64 p1.M].toArray) hF rfl hS rfl rfl fun b4 w a hS hF => ?_
  refine ls <| a_box (cs := [.int .i64 p2.Kind, .int .i64 p2.T, .int .i64 p2.A, .int .i64 p2.N, .int .i64 p2.M].toArray) hF rfl hS rfl rfl fun b5 w a hS hF => ?_
  refine ls <| q1 hF rfl (e_asg hF rfl) fun a hF => ?_
  refine re <| ?_
  refine tn <| th <| ?_
  refine rg <| ?_
  refine ls <| a_bsl (e := 3) (sz := 1) [.int .i64 0, .int .i64 0, .int .i64 1, .int .i64 1, .int .i64 2] hF rfl hS rfl rfl rfl (fun w => by kernel_rfl) fun b7 w a hS hF => ?_
  have hv6 : Rows (α := Int) H [.int .i64 0, .int .i64 0, .int .i64 1, .int .i64 1, .int .i64 2] ([0, 0, 1, 1, 2] : List Int) := (.cons (c := [.int .i64 0]) rfl (.cons (c := [.int .i64 0]) rfl (.cons (c := [.int .i64 1]) rfl (.cons (c := [.int .i64 1]) rfl (.cons (c := [.int .i64 2]) rfl .nil)))))
  refine ls <| q1 hF rfl (e_asg hF rfl) fun a hF => ?_
  refine re <| ?_
  refine tn <| th <| ?_
  replace hm := bind_some hm
  obtain ⟨r9, h10, hm⟩ := hm
  replace hm := bind_some hm
  obtain ⟨r16, h17, hm⟩ := hm
  refine rdS 11 hS wide fun w hS => ?_
  refine d1 (i := 0) rfl (by kernel_rfl) (by kernel_rfl) (St.ld hS) hF rfl (fun _ _ _ h => h) (fun w hl => (e_ldA hF Tryd.isAgg23 Tryd.sizeOf23 rfl rfl (hl.cellsB (.tail _ (.tail _ (.head _)))))) fun a hF => ?_
  refine d1 (i := 1) rfl (by kernel_rfl) (by kernel_rfl) (St.ld hS) hF rfl (fun _ _ _ h => h) (fun w hl => (e_move hF rfl)) fun a hF => ?_
  refine d1 (i := 2) rfl (by kernel_rfl) (by kernel_rfl) (St.ld hS) hF rfl (fun _ _ _ h => h) (fun w hl => (e_move hF rfl)) fun a hF => ?_
  refine d1 (i := 4) rfl (by kernel_rfl) (by kernel_rfl) (St.ld hS) hF rfl (fun _ _ _ h => h) (fun w hl => (e_ldA hF Tryd.isAgg23 Tryd.sizeOf23 rfl rfl (hl.cellsB (.tail _ (.head _))))) fun a hF => ?_
  refine d1 (i := 5) rfl (by kernel_rfl) (by kernel_rfl) (St.ld hS) hF rfl (fun _ _ _ h => h) (fun w hl => (e_move hF rfl)) fun a hF => ?_
  refine d1 (i := 6) rfl (by kernel_rfl) (by kernel_rfl) (St.ld hS) hF rfl (fun _ _ _ h => h) (fun w hl => (e_move hF rfl)) fun a hF => ?_
  refine da1 (i := 3) (by kernel_rfl) ?_
  refine di (i := 3) rfl <| c1 hF rfl Tryd.call14 (event_Uses_c (hp_le _) (St.capO hS (.head _)) (St.srO hS (.head _) hv6) h10) ⟨rfl, rfl, rfl, trivial⟩ (fun v w a hR hF => ?_)
  obtain ⟨oa11, cap12, vs13, rfl, hv14, hk⟩ := hR
  replace hS := hS.fresh hk
  clear hk
  replace hv14 := hv14 H
  refine ⟨fun _ => (St.ldsX hS (fun _ _ h => h) (sub_cons (.tail _ (.head _)) (sub_cons (.tail _ (.tail _ (.head _))) (sub_cons (.tail _ (.tail _ (.tail _ (.head _)))) sub_nil)))), ?_⟩
  refine da1 (i := 7) (by kernel_rfl) ?_
  refine di (i := 7) rfl <| c1 hF rfl Tryd.call14 (event_Uses_c (hp_le _) (St.capO hS (.tail _ (.head _))) (St.srO hS (.tail _ (.head _)) hv6) h17) ⟨rfl, rfl, rfl, trivial⟩ (fun v w a hR hF => ?_)
  obtain ⟨oa18, cap19, vs20, rfl, hv21, hk⟩ := hR
  replace hS := hS.fresh hk
  clear hk
  replace hv21 := hv21 H
  refine ⟨fun _ => (St.ldsX hS (fun _ _ h => h) (sub_cons (.tail _ (.tail _ (.head _))) (sub_cons (.tail _ (.tail _ (.tail _ (.head _)))) (sub_cons (.tail _ (.tail _ (.tail _ (.tail _ (.head _))))) sub_nil)))), ?_⟩
  refine d1 (i := 8) rfl (by kernel_rfl) (by kernel_rfl) (St.ldsX hS (fun _ _ h => h) (sub_cons (.tail _ (.tail _ (.head _))) (sub_cons (.tail _ (.tail _ (.tail _ (.head _)))) (sub_cons (.tail _ (.tail _ (.tail _ (.tail _ (.head _))))) sub_nil)))) hF rfl (fun _ _ _ h => h) (fun w hl => (e_asg hF rfl)) fun a hF => ?_
  refine d1 (i := 9) rfl (by kernel_rfl) (by kernel_rfl) (St.ldsX hS (fun _ _ h => h) (sub_cons (.tail _ (.tail _ (.head _))) (sub_cons (.tail _ (.tail _ (.tail _ (.head _)))) (sub_cons (.tail _ (.tail _ (.tail _ (.tail _ (.head _))))) sub_nil)))) hF rfl (fun _ _ _ h => h) (fun w hl => (e_asg hF rfl)) fun a hF => ?_
  refine d1 (i := 10) rfl (by kernel_rfl) (by kernel_rfl) (St.ldsX hS (fun _ _ h => h) (sub_cons (.tail _ (.tail _ (.head _))) (sub_cons (.tail _ (.tail _ (.tail _ (.head _)))) (sub_cons (.tail _ (.tail _ (.tail _ (.tail _ (.head _))))) sub_nil)))) hF rfl (fun _ _ _ h => h) (fun w hl => (e_asg hF rfl)) fun a hF => ?_
  refine de (by kernel_rfl) <| ?_
  refine tn <| th <| th <| ?_
  refine rg <| ?_
  refine ls <| q1 hF rfl (e_asg hF rfl) fun a hF => ?_
  refine re <| ?_
  refine tn <| midK (fun a w => ∃ (vA2 : Bool) (HA1 : PH), (leadlinelaw15_EventUses_j1 N p1 p2 p3) vA2 = some r ∧ Ext w0 H HA1 ∧ Fr 121 [(2, .int .i64 p3), (3, .pointer (some ⟨b4, 0, none⟩)), (4, .pointer (some ⟨b5, 0, none⟩)), (7, .slice (some ⟨b7, 0, none⟩) ([0, 0, 1, 1, 2] : List Int).length 5), (10, .bool vA2)] a ∧ St w0 Nil [HA1] [blk b4 (.cells [.int .i64 p1.Kind, .int .i64 p1.T, .int .i64 p1.A, .int .i64 p1.N, .int .i64 p1.M].toArray 23 (0, 0)), blk b5 (.cells [.int .i64 p2.Kind, .int .i64 p2.T, .int .i64 p2.A, .int .i64 p2.N, .int .i64 p2.M].toArray 23 (0, 0)), sla 3 1 (some ⟨b7, 0, none⟩) ([0, 0, 1, 1, 2] : List Int).length 5 [.int .i64 0, .int .i64 0, .int .i64 1, .int .i64 1, .int .i64 2]] w) ?_ ?_
  ·
    replace hS := hS.pickL (.cons (.tail (.tail (.tail (.tail .head)))) (.cons (.tail (.tail (.tail .head))) (.cons (.tail (.tail .head)) (.cons (.tail .head) (.cons .head .nil)))))
    refine wp_block <| lp (α := Nat × Bool × Int) (fun (gh : Nat × Bool × Int) a w => match gh with | (nn2, vB2, vB3) => ∃ (HB1 : PH), (leadlinelaw15_EventUses_l2 N (leadlinelaw15_EventUses_j1 N p1 p2 p3) r9 r16) nn2 vB2 vB3 = some r ∧ Ext w0 H HB1 ∧ Fr 121 [(2, .int .i64 p3), (3, .pointer (some ⟨b4, 0, none⟩)), (4, .pointer (some ⟨b5, 0, none⟩)), (7, .slice (some ⟨b7, 0, none⟩) ([0, 0, 1, 1, 2] : List Int).length 5), (8, .slice oa11 r9.length cap12), (9, .slice oa18 r16.length cap19), (10, .bool vB2), (11, .int .i64 vB3)] a ∧ St w0 Nil [HB1] [blk b4 (.cells [.int .i64 p1.Kind, .int .i64 p1.T, .int .i64 p1.A, .int .i64 p1.N, .int .i64 p1.M].toArray 23 (0, 0)), blk b5 (.cells [.int .i64 p2.Kind, .int .i64 p2.T, .int .i64 p2.A, .int .i64 p2.N, .int .i64 p2.M].toArray 23 (0, 0)), sla 3 1 (some ⟨b7, 0, none⟩) ([0, 0, 1, 1, 2] : List Int).length 5 [.int .i64 0, .int .i64 0, .int .i64 1, .int .i64 1, .int .i64 2], sla 27 3 oa11 r9.length cap12 vs13, sla 27 3 oa18 r16.length cap19 vs20] w) (fun gh => gh.1) (N, false, 0) ⟨H, hm, (Ext.refl _ _), hF.has ⟨rfl, rfl, rfl, rfl, rfl, rfl, rfl, rfl, trivial⟩, hS⟩ ?_
    clear hm hF hS
    rintro ⟨nn2, vB2, vB3⟩ a w ⟨HB1, hm, hxHB1, hF, hS⟩
    obtain _ | nn2 := nn2
    · simp [leadlinelaw15_EventUses_l2] at hm
    rw [leadlinelaw15_EventUses_l2] at hm
    refine th <| th <| ?_
    refine rg <| ?_
    refine ls <| q1 hF rfl (e_move hF rfl) fun a hF => ?_
    refine ls <| q1 hF rfl (e_move hF rfl) fun a hF => ?_
    refine ls <| q1 hF rfl (e_lenL (α := api_Use) (xs := r9) hF Tryd.runUnderlying29 rfl) fun a hF => ?_
    refine ls <| q1 hF rfl (e_lss hF rfl rfl) fun a hF => ?_
    refine re <| ?_
    rcases bdich (decide (vB3 < (r9.length : Int))) with hb23 | hb23
    ·
      replace hm := itp_t hm hb23
      refine tn <| ctv hF rfl hb23 <| wp_skip <| ?_
      refine tn <| th <| midK (fun a w => ∃ (vC1 : Bool), (leadlinelaw15_EventUses_j3 (leadlinelaw15_EventUses_l2 N (leadlinelaw15_EventUses_j1 N p1 p2 p3) r9 r16 nn2) vB3) vC1 = some r ∧ Fr 121 [(2, .int .i64 p3), (3, .pointer (some ⟨b4, 0, none⟩)), (4, .pointer (some ⟨b5, 0, none⟩)), (7, .slice (some ⟨b7, 0, none⟩) ([0, 0, 1, 1, 2] : List Int).length 5), (8, .slice oa11 r9.length cap12), (9, .slice oa18 r16.length cap19), (10, .bool vC1), (11, .int .i64 vB3)] a ∧ St w0 Nil [HB1] [blk b4 (.cells [.int .i64 p1.Kind, .int .i64 p1.T, .int .i64 p1.A, .int .i64 p1.N, .int .i64 p1.M].toArray 23 (0, 0)), blk b5 (.cells [.int .i64 p2.Kind, .int .i64 p2.T, .int .i64 p2.A, .int .i64 p2.N, .int .i64 p2.M].toArray 23 (0, 0)), sla 3 1 (some ⟨b7, 0, none⟩) ([0, 0, 1, 1, 2] : List Int).length 5 [.int .i64 0, .int .i64 0, .int .i64 1, .int .i64 1, .int .i64 2], sla 27 3 oa11 r9.length cap12 vs13, sla 27 3 oa18 r16.length cap19 vs20] w) ?_ ?_
      ·
        refine wp_block <| th <| th <| midK (fun a w => ∃ (vD1 : Bool), (leadlinelaw15_EventUses_j4 N (leadlinelaw15_EventUses_j3 (leadlinelaw15_EventUses_l2 N (leadlinelaw15_EventUses_j1 N p1 p2 p3) r9 r16 nn2) vB3) r9 r16 vB2 vB3) vD1 = some r ∧ Fr 121 [(2, .int .i64 p3), (3, .pointer (some ⟨b4, 0, none⟩)), (4, .pointer (some ⟨b5, 0, none⟩)), (7, .slice (some ⟨b7, 0, none⟩) ([0, 0, 1, 1, 2] : List Int).length 5), (8, .slice oa11 r9.length cap12), (9, .slice oa18 r16.length cap19), (10, .bool vB2), (11, .int .i64 vB3), (52, .bool vD1)] a ∧ St w0 Nil [HB1] [blk b4 (.cells [.int .i64 p1.Kind, .int .i64 p1.T, .int .i64 p1.A, .int .i64 p1.N, .int .i64 p1.M].toArray 23 (0, 0)), blk b5 (.cells [.int .i64 p2.Kind, .int .i64 p2.T, .int .i64 p2.A, .int .i64 p2.N, .int .i64 p2.M].toArray 23 (0, 0)), sla 3 1 (some ⟨b7, 0, none⟩) ([0, 0, 1, 1, 2] : List Int).length 5 [.int .i64 0, .int .i64 0, .int .i64 1, .int .i64 1, .int .i64 2], sla 27 3 oa11 r9.length cap12 vs13, sla 27 3 oa18 r16.length cap19 vs20] w) ?_ ?_
        ·
          replace hm := bind_some hm
          obtain ⟨x24, h25, hm⟩ := hm
          have ho26 := Rd.oaI (hS.rdO (.tail _ (.tail _ (.tail _ (.head _))))) hv14 (by decide) h25
          obtain ⟨c27, g28, hl29⟩ := Rows.getI hv14 h25
          obtain rfl := api_Use_open g28
          have ho30 := Rd.oaI (hS.rdO (.tail _ (.tail _ (.tail _ (.head _))))) hv14 (by decide) h25
          replace hm := bind_some hm
          obtain ⟨r31, h32, hm⟩ := hm
          have ho33 := Rd.oaI (hS.rdO (.tail _ (.tail _ (.tail _ (.head _))))) hv14 (by decide) h25
          rcases bdich x24.Write with hb34 | hb34
          ·
            replace hm := ite_t hm hb34
            refine rdS 23 hS wide fun w hS => ?_
            refine d1 (i := 0) rfl (by kernel_rfl) (by kernel_rfl) (St.ld hS) hF rfl (fun _ _ _ h => h) (fun w hl => (e_move hF rfl)) fun a hF => ?_
            refine d1 (i := 1) rfl (by kernel_rfl) (by kernel_rfl) (St.ld hS) hF rfl (fun _ _ _ h => h) (fun w hl => (e_move hF rfl)) fun a hF => ?_
            refine d1 (i := 2) rfl (by kernel_rfl) (by kernel_rfl) (St.ld hS) hF rfl (fun _ _ _ h => h) (fun w hl => (e_iaI hF Tryd.runUnderlying29 Tryd.sizeOf27 rfl rfl h25 ho26)) fun a hF => ?_
            refine d1 (i := 3) rfl (by kernel_rfl) (by kernel_rfl) (St.ld hS) hF rfl (fun _ _ _ h => h) (fun w hl => (e_ldA hF Tryd.isAgg27 Tryd.sizeOf27 rfl rfl (hl.elsO (.tail _ (.tail _ (.tail _ (.head _)))) hl29))) fun a hF => ?_
            refine d1 (i := 4) rfl (by kernel_rfl) (by kernel_rfl) (St.ld hS) hF rfl (fun _ _ _ h => h) (fun w hl => (e_move hF rfl)) fun a hF => ?_
            refine d1 (i := 5) rfl (by kernel_rfl) (by kernel_rfl) (St.ld hS) hF rfl (fun _ _ _ h => h) (fun w hl => (e_move hF rfl)) fun a hF => ?_
            refine d1 (i := 6) rfl (by kernel_rfl) (by kernel_rfl) (St.ld hS) hF rfl (fun _ _ _ h => h) (fun w hl => (e_iaI hF Tryd.runUnderlying29 Tryd.sizeOf27 rfl rfl h25 ho30)) fun a hF => ?_
            refine d1 (i := 7) rfl (by kernel_rfl) (by kernel_rfl) (St.ld hS) hF rfl (fun _ _ _ h => h) (fun w hl => (e_ldA hF Tryd.isAgg27 Tryd.sizeOf27 rfl rfl (hl.elsO (.tail _ (.tail _ (.tail _ (.head _)))) hl29))) fun a hF => ?_
            refine d1 (i := 9) rfl (by kernel_rfl) (by kernel_rfl) (St.ld hS) hF rfl (fun _ _ _ h => h) (fun w hl => (e_move hF rfl)) fun a hF => ?_
            refine d1 (i := 10) rfl (by kernel_rfl) (by kernel_rfl) (St.ld hS) hF rfl (fun _ _ _ h => h) (fun w hl => (e_move hF rfl)) fun a hF => ?_
            refine d1 (i := 11) rfl (by kernel_rfl) (by kernel_rfl) (St.ld hS) hF rfl (fun _ _ _ h => h) (fun w hl => (e_iaI hF Tryd.runUnderlying29 Tryd.sizeOf27 rfl rfl h25 ho33)) fun a hF => ?_
            refine d1 (i := 12) rfl (by kernel_rfl) (by kernel_rfl) (St.ld hS) hF rfl (fun _ _ _ h => h) (fun w hl => (e_fa hF fa27_2 rfl)) fun a hF => ?_
            refine d1 (i := 13) rfl (by kernel_rfl) (by kernel_rfl) (St.ld hS) hF rfl (fun _ _ _ h => h) (fun w hl => (e_ld hF Tryd.isAgg4 rfl (hl.elO2 (.tail _ (.tail _ (.tail _ (.head _)))) (hl29 2 _ rfl)))) fun a hF => ?_
            refine da1 (i := 8) (by kernel_rfl) ?_
            refine di (i := 8) rfl <| c1 hF rfl Tryd.call22 (event_Clash_c (hp_le _) h32) ⟨rfl, rfl, trivial⟩ (fun v w a hR hF => ?_)
            obtain ⟨rfl, hk⟩ := hR
            replace hS := hS.pass hk
            clear hk
            refine ⟨fun _ => (St.ld hS), ?_⟩
            refine d1 (i := 14) rfl (by kernel_rfl) (by kernel_rfl) (St.ld hS) hF rfl (fun _ _ _ h => h) (fun w hl => (e_as (e_move hF rfl) (congrArg Value.bool hb34))) fun a hF => ?_
            refine d1n (i := 15) rfl (by kernel_rfl) (by kernel_rfl) (St.ld hS) hF rfl rfl rfl rfl (fun _ _ _ h => h) fun a hF => ?_
            refine d1n (i := 16) rfl (by kernel_rfl) (by kernel_rfl) (St.ld hS) hF rfl rfl rfl rfl (fun _ _ _ h => h) fun a hF => ?_
            refine d1n (i := 17) rfl (by kernel_rfl) (by kernel_rfl) (St.ld hS) hF rfl rfl rfl rfl (fun _ _ _ h => h) fun a hF => ?_
            refine d1n (i := 18) rfl (by kernel_rfl) (by kernel_rfl) (St.ld hS) hF rfl rfl rfl rfl (fun _ _ _ h => h) fun a hF => ?_
            refine d1n (i := 19) rfl (by kernel_rfl) (by kernel_rfl) (St.ld hS) hF rfl rfl rfl rfl (fun _ _ _ h => h) fun a hF => ?_
            refine d1n (i := 20) rfl (by kernel_rfl) (by kernel_rfl) (St.ld hS) hF rfl rfl rfl rfl (fun _ _ _ h => h) fun a hF => ?_
            refine d1 (i := 21) rfl (by kernel_rfl) (by kernel_rfl) (St.ld hS) hF rfl (fun _ _ _ h => h) (fun w hl => (e_pickT hF rfl rfl)) fun a hF => ?_
            refine d1 (i := 22) rfl (by kernel_rfl) (by kernel_rfl) (St.ld hS) hF rfl (fun _ _ _ h => h) (fun w hl => (e_neqB hF Tryd.runUnderlying4 rfl rfl)) fun a hF => ?_
            refine de (by kernel_rfl) <| ?_
            refine tn <| ?_
            exact ⟨(r31 != true), hm, hF.has ⟨rfl, rfl, rfl, rfl, rfl, rfl, rfl, rfl, rfl, trivial⟩, hS⟩
          ·
            replace hm := ite_f hm hb34
            have ho35 := Rd.oaI (hS.rdO (.tail _ (.tail _ (.tail _ (.head _))))) hv14 (by decide) h25
            refine rdS 23 hS wide fun w hS => ?_
            refine d1 (i := 0) rfl (by kernel_rfl) (by kernel_rfl) (St.ld hS) hF rfl (fun _ _ _ h => h) (fun w hl => (e_move hF rfl)) fun a hF => ?_
            refine d1 (i := 1) rfl (by kernel_rfl) (by kernel_rfl) (St.ld hS) hF rfl (fun _ _ _ h => h) (fun w hl => (e_move hF rfl)) fun a hF => ?_
            refine d1 (i := 2) rfl (by kernel_rfl) (by kernel_rfl) (St.ld hS) hF rfl (fun _ _ _ h => h) (fun w hl => (e_iaI hF Tryd.runUnderlying29 Tryd.sizeOf27 rfl rfl h25 ho26)) fun a hF => ?_
            refine d1 (i := 3) rfl (by kernel_rfl) (by kernel_rfl) (St.ld hS) hF rfl (fun _ _ _ h => h) (fun w hl => (e_ldA hF Tryd.isAgg27 Tryd.sizeOf27 rfl rfl (hl.elsO (.tail _ (.tail _ (.tail _ (.head _)))) hl29))) fun a hF => ?_
            refine d1 (i := 4) rfl (by kernel_rfl) (by kernel_rfl) (St.ld hS) hF rfl (fun _ _ _ h => h) (fun w hl => (e_move hF rfl)) fun a hF => ?_
            refine d1 (i := 5) rfl (by kernel_rfl) (by kernel_rfl) (St.ld hS) hF rfl (fun _ _ _ h => h) (fun w hl => (e_move hF rfl)) fun a hF => ?_
            refine d1 (i := 6) rfl (by kernel_rfl) (by kernel_rfl) (St.ld hS) hF rfl (fun _ _ _ h => h) (fun w hl => (e_iaI hF Tryd.runUnderlying29 Tryd.sizeOf27 rfl rfl h25 ho30)) fun a hF => ?_
            refine d1 (i := 7) rfl (by kernel_rfl) (by kernel_rfl) (St.ld hS) hF rfl (fun _ _ _ h => h) (fun w hl => (e_ldA hF Tryd.isAgg27 Tryd.sizeOf27 rfl rfl (hl.elsO (.tail _ (.tail _ (.tail _ (.head _)))) hl29))) fun a hF => ?_
            refine d1 (i := 9) rfl (by kernel_rfl) (by kernel_rfl) (St.ld hS) hF rfl (fun _ _ _ h => h) (fun w hl => (e_move hF rfl)) fun a hF => ?_
            refine d1 (i := 10) rfl (by kernel_rfl) (by kernel_rfl) (St.ld hS) hF rfl (fun _ _ _ h => h) (fun w hl => (e_move hF rfl)) fun a hF => ?_
            refine d1 (i := 11) rfl (by kernel_rfl) (by kernel_rfl) (St.ld hS) hF rfl (fun _ _ _ h => h) (fun w hl => (e_iaI hF Tryd.runUnderlying29 Tryd.sizeOf27 rfl rfl h25 ho33)) fun a hF => ?_
            refine d1 (i := 12) rfl (by kernel_rfl) (by kernel_rfl) (St.ld hS) hF rfl (fun _ _ _ h => h) (fun w hl => (e_fa hF fa27_2 rfl)) fun a hF => ?_
            refine d1 (i := 13) rfl (by kernel_rfl) (by kernel_rfl) (St.ld hS) hF rfl (fun _ _ _ h => h) (fun w hl => (e_ld hF Tryd.isAgg4 rfl (hl.elO2 (.tail _ (.tail _ (.tail _ (.head _)))) (hl29 2 _ rfl)))) fun a hF => ?_
            refine da1 (i := 8) (by kernel_rfl) ?_
            refine di (i := 8) rfl <| c1 hF rfl Tryd.call22 (event_Clash_c (hp_le _) h32) ⟨rfl, rfl, trivial⟩ (fun v w a hR hF => ?_)
            obtain ⟨rfl, hk⟩ := hR
            replace hS := hS.pass hk
            clear hk
            refine ⟨fun _ => (St.ld hS), ?_⟩
            refine d1 (i := 14) rfl (by kernel_rfl) (by kernel_rfl) (St.ld hS) hF rfl (fun _ _ _ h => h) (fun w hl => (e_as (e_move hF rfl) (congrArg Value.bool hb34))) fun a hF => ?_
            refine d1g (i := 15) rfl (by kernel_rfl) (by kernel_rfl) (St.ld hS) hF rfl rfl rfl (fun _ _ _ h => h) (fun w hl => (e_move hF rfl)) fun a hF => ?_
            refine d1g (i := 16) rfl (by kernel_rfl) (by kernel_rfl) (St.ld hS) hF rfl rfl rfl (fun _ _ _ h => h) (fun w hl => (e_move hF rfl)) fun a hF => ?_
            refine d1g (i := 17) rfl (by kernel_rfl) (by kernel_rfl) (St.ld hS) hF rfl rfl rfl (fun _ _ _ h => h) (fun w hl => (e_iaI hF Tryd.runUnderlying29 Tryd.sizeOf27 rfl rfl h25 ho35)) fun a hF => ?_
            refine d1g (i := 18) rfl (by kernel_rfl) (by kernel_rfl) (St.ld hS) hF rfl rfl rfl (fun _ _ _ h => h) (fun w hl => (e_fa hF fa27_0 rfl)) fun a hF => ?_
            refine d1g (i := 19) rfl (by kernel_rfl) (by kernel_rfl) (St.ld hS) hF rfl rfl rfl (fun _ _ _ h => h) (fun w hl => (e_ld hF Tryd.isAgg3 rfl (hl.elO2 (.tail _ (.tail _ (.tail _ (.head _)))) (hl29 0 _ rfl)))) fun a hF => ?_
            refine d1g (i := 20) rfl (by kernel_rfl) (by kernel_rfl) (St.ld hS) hF rfl rfl rfl (fun _ _ _ h => h) (fun w hl => (e_eql hF rfl rfl)) fun a hF => ?_
            refine d1 (i := 21) rfl (by kernel_rfl) (by kernel_rfl) (St.ld hS) hF rfl (fun _ _ _ h => h) (fun w hl => (e_pickF hF rfl rfl)) fun a hF => ?_
            refine d1 (i := 22) rfl (by kernel_rfl) (by kernel_rfl) (St.ld hS) hF rfl (fun _ _ _ h => h) (fun w hl => (e_neqB hF Tryd.runUnderlying4 rfl rfl)) fun a hF => ?_
            refine de (by kernel_rfl) <| ?_
            refine tn <| ?_
            exact ⟨(r31 != (decide (x24.What = 4))), hm, hF.has ⟨rfl, rfl, rfl, rfl, rfl, rfl, rfl, rfl, rfl, trivial⟩, hS⟩
        clear hm hF hS
        rintro a w ⟨vD1, hm, hF, hS⟩
        unfold leadlinelaw15_EventUses_j4 at hm
        replace hm := bind_some hm
        obtain ⟨_, hb36, hm⟩ := hm
        replace hb36 := bnt (sure_some hb36)
        refine cfv hF rfl hb36 <| wp_skip <| ?_
        refine tn <| th <| ?_
        refine rg <| ?_
        refine ls <| q1 hF rfl (e_asg hF rfl) fun a hF => ?_
        refine re <| ?_
        refine tn <| wp_block <| lp (α := Nat × Bool × Int) (fun (gh : Nat × Bool × Int) a w => match gh with | (nn5, vD2, vD3) => (leadlinelaw15_EventUses_l5 N (leadlinelaw15_EventUses_j3 (leadlinelaw15_EventUses_l2 N (leadlinelaw15_EventUses_j1 N p1 p2 p3) r9 r16 nn2) vB3) r9 r16 vB3) nn5 vD2 vD3 = some r ∧ Fr 121 [(2, .int .i64 p3), (3, .pointer (some ⟨b4, 0, none⟩)), (4, .pointer (some ⟨b5, 0, none⟩)), (7, .slice (some ⟨b7, 0, none⟩) ([0, 0, 1, 1, 2] : List Int).length 5), (8, .slice oa11 r9.length cap12), (9, .slice oa18 r16.length cap19), (10, .bool vD2), (11, .int .i64 vB3), (12, .int .i64 vD3)] a ∧ St w0 Nil [HB1] [blk b4 (.cells [.int .i64 p1.Kind, .int .i64 p1.T, .int .i64 p1.A, .int .i64 p1.N, .int .i64 p1.M].toArray 23 (0, 0)), blk b5 (.cells [.int .i64 p2.Kind, .int .i64 p2.T, .int .i64 p2.A, .int .i64 p2.N, .int .i64 p2.M].toArray 23 (0, 0)), sla 3 1 (some ⟨b7, 0, none⟩) ([0, 0, 1, 1, 2] : List Int).length 5 [.int .i64 0, .int .i64 0, .int .i64 1, .int .i64 1, .int .i64 2], sla 27 3 oa11 r9.length cap12 vs13, sla 27 3 oa18 r16.length cap19 vs20] w) (fun gh => gh.1) (N, vB2, 0) ⟨hm, hF.has ⟨rfl, rfl, rfl, rfl, rfl, rfl, rfl, rfl, rfl, trivial⟩, hS⟩ ?_
        clear hm hF hS
        rintro ⟨nn5, vD2, vD3⟩ a w ⟨hm, hF, hS⟩
        obtain _ | nn5 := nn5
        · simp [leadlinelaw15_EventUses_l5] at hm
        rw [leadlinelaw15_EventUses_l5] at hm
        refine th <| th <| ?_
        refine rg <| ?_
        refine ls <| q1 hF rfl (e_move hF rfl) fun a hF => ?_
        refine ls <| q1 hF rfl (e_move hF rfl) fun a hF => ?_
        refine ls <| q1 hF rfl (e_lenL (α := api_Use) (xs := r16) hF Tryd.runUnderlying29 rfl) fun a hF => ?_
        refine ls <| q1 hF rfl (e_lss hF rfl rfl) fun a hF => ?_
        refine re <| ?_
        rcases bdich (decide (vD3 < (r16.length : Int))) with hb37 | hb37
        ·
          replace hm := itp_t hm hb37
          refine tn <| ctv hF rfl hb37 <| wp_skip <| ?_
          refine tn <| th <| wp_block <| th <| ?_
          replace hm := bind_some hm
          obtain ⟨x38, h39, hm⟩ := hm
          have ho40 := Rd.oaI (hS.rdO (.tail _ (.tail _ (.tail _ (.head _))))) hv14 (by decide) h39
          obtain ⟨c41, g42, hl43⟩ := Rows.getI hv14 h39
          obtain rfl := api_Use_open g42
          replace hm := bind_some hm
          obtain ⟨x44, h45, hm⟩ := hm
          have ho46 := Rd.oaI (hS.rdO (.tail _ (.tail _ (.tail _ (.tail _ (.head _)))))) hv21 (by decide) h45
          obtain ⟨c47, g48, hl49⟩ := Rows.getI hv21 h45
          obtain rfl := api_Use_open g48
          replace hm := bind_some hm
          obtain ⟨r50, h51, hm⟩ := hm
          refine rdS 10 hS wide fun w hS => ?_
          refine d1 (i := 0) rfl (by kernel_rfl) (by kernel_rfl) (St.ld hS) hF rfl (fun _ _ _ h => h) (fun w hl => (e_move hF rfl)) fun a hF => ?_
          refine d1 (i := 1) rfl (by kernel_rfl) (by kernel_rfl) (St.ld hS) hF rfl (fun _ _ _ h => h) (fun w hl => (e_move hF rfl)) fun a hF => ?_
          refine d1 (i := 2) rfl (by kernel_rfl) (by kernel_rfl) (St.ld hS) hF rfl (fun _ _ _ h => h) (fun w hl => (e_iaI hF Tryd.runUnderlying29 Tryd.sizeOf27 rfl rfl h39 ho40)) fun a hF => ?_
          refine d1 (i := 3) rfl (by kernel_rfl) (by kernel_rfl) (St.ld hS) hF rfl (fun _ _ _ h => h) (fun w hl => (e_ldA hF Tryd.isAgg27 Tryd.sizeOf27 rfl rfl (hl.elsO (.tail _ (.tail _ (.tail _ (.head _)))) hl43))) fun a hF => ?_
          refine d1 (i := 4) rfl (by kernel_rfl) (by kernel_rfl) (St.ld hS) hF rfl (fun _ _ _ h => h) (fun w hl => (e_move hF rfl)) fun a hF => ?_
          refine d1 (i := 5) rfl (by kernel_rfl) (by kernel_rfl) (St.ld hS) hF rfl (fun _ _ _ h => h) (fun w hl => (e_move hF rfl)) fun a hF => ?_
          refine d1 (i := 6) rfl (by kernel_rfl) (by kernel_rfl) (St.ld hS) hF rfl (fun _ _ _ h => h) (fun w hl => (e_iaI hF Tryd.runUnderlying29 Tryd.sizeOf27 rfl rfl h45 ho46)) fun a hF => ?_
          refine d1 (i := 7) rfl (by kernel_rfl) (by kernel_rfl) (St.ld hS) hF rfl (fun _ _ _ h => h) (fun w hl => (e_ldA hF Tryd.isAgg27 Tryd.sizeOf27 rfl rfl (hl.elsO (.tail _ (.tail _ (.tail _ (.tail _ (.head _))))) hl49))) fun a hF => ?_
          refine da1 (i := 8) (by kernel_rfl) ?_
          refine di (i := 8) rfl <| c1 hF rfl Tryd.call22 (event_Clash_c (hp_le _) h51) ⟨rfl, rfl, trivial⟩ (fun v w a hR hF => ?_)
          obtain ⟨rfl, hk⟩ := hR
          replace hS := hS.pass hk
          clear hk
          refine ⟨fun _ => (St.ld hS), ?_⟩
          refine d1 (i := 9) rfl (by kernel_rfl) (by kernel_rfl) (St.ld hS) hF rfl (fun _ _ _ h => h) (fun w hl => (e_asg hF rfl)) fun a hF => ?_
          refine de (by kernel_rfl) <| ?_
          refine tn <| th <| th <| ?_
          have ho52 := Rd.oaI (hS.rdO (.tail _ (.tail _ (.tail _ (.tail _ (.head _)))))) hv21 (by decide) h45
          have ho53 := Rd.oaI (hS.rdO (.tail _ (.tail _ (.tail _ (.head _))))) hv14 (by decide) h39
          replace hm := bind_some hm
          obtain ⟨r54, h55, hm⟩ := hm
          refine rdS 11 hS wide fun w hS => ?_
          refine d1 (i := 0) rfl (by kernel_rfl) (by kernel_rfl) (St.ld hS) hF rfl (fun _ _ _ h => h) (fun w hl => (e_move hF rfl)) fun a hF => ?_
          refine d1 (i := 1) rfl (by kernel_rfl) (by kernel_rfl) (St.ld hS) hF rfl (fun _ _ _ h => h) (fun w hl => (e_move hF rfl)) fun a hF => ?_
          refine d1 (i := 2) rfl (by kernel_rfl) (by kernel_rfl) (St.ld hS) hF rfl (fun _ _ _ h => h) (fun w hl => (e_move hF rfl)) fun a hF => ?_
          refine d1 (i := 3) rfl (by kernel_rfl) (by kernel_rfl) (St.ld hS) hF rfl (fun _ _ _ h => h) (fun w hl => (e_iaI hF Tryd.runUnderlying29 Tryd.sizeOf27 rfl rfl h45 ho52)) fun a hF => ?_
          refine d1 (i := 4) rfl (by kernel_rfl) (by kernel_rfl) (St.ld hS) hF rfl (fun _ _ _ h => h) (fun w hl => (e_ldA hF Tryd.isAgg27 Tryd.sizeOf27 rfl rfl (hl.elsO (.tail _ (.tail _ (.tail _ (.tail _ (.head _))))) hl49))) fun a hF => ?_
          refine d1 (i := 5) rfl (by kernel_rfl) (by kernel_rfl) (St.ld hS) hF rfl (fun _ _ _ h => h) (fun w hl => (e_move hF rfl)) fun a hF => ?_
          refine d1 (i := 6) rfl (by kernel_rfl) (by kernel_rfl) (St.ld hS) hF rfl (fun _ _ _ h => h) (fun w hl => (e_move hF rfl)) fun a hF => ?_
          refine d1 (i := 7) rfl (by kernel_rfl) (by kernel_rfl) (St.ld hS) hF rfl (fun _ _ _ h => h) (fun w hl => (e_iaI hF Tryd.runUnderlying29 Tryd.sizeOf27 rfl rfl h39 ho53)) fun a hF => ?_
          refine d1 (i := 8) rfl (by kernel_rfl) (by kernel_rfl) (St.ld hS) hF rfl (fun _ _ _ h => h) (fun w hl => (e_ldA hF Tryd.isAgg27 Tryd.sizeOf27 rfl rfl (hl.elsO (.tail _ (.tail _ (.tail _ (.head _)))) hl43))) fun a hF => ?_
          refine da1 (i := 9) (by kernel_rfl) ?_
          refine di (i := 9) rfl <| c1 hF rfl Tryd.call22 (event_Clash_c (hp_le _) h55) ⟨rfl, rfl, trivial⟩ (fun v w a hR hF => ?_)
          obtain ⟨rfl, hk⟩ := hR
          replace hS := hS.pass hk
          clear hk
          refine ⟨fun _ => (St.ld hS), ?_⟩
          refine d1 (i := 10) rfl (by kernel_rfl) (by kernel_rfl) (St.ld hS) hF rfl (fun _ _ _ h => h) (fun w hl => (e_neqB hF Tryd.runUnderlying4 rfl rfl)) fun a hF => ?_
          refine de (by kernel_rfl) <| ?_
          replace hm := bind_some hm
          obtain ⟨_, hb56, hm⟩ := hm
          replace hb56 := bnt (sure_some hb56)
          refine tn <| cfv hF rfl hb56 <| wp_skip <| ?_
          refine tn <| ?_
          refine rg <| ?_
          refine ls <| q1 hF rfl (e_move hF rfl) fun a hF => ?_
          refine ls <| q1 hF rfl (e_move hF rfl) fun a hF => ?_
          refine grp (N := 121) (Fk := [(2, .int .i64 p3), (3, .pointer (some ⟨b4, 0, none⟩)), (4, .pointer (some ⟨b5, 0, none⟩)), (7, .slice (some ⟨b7, 0, none⟩) ([0, 0, 1, 1, 2] : List Int).length 5), (8, .slice oa11 r9.length cap12), (9, .slice oa18 r16.length cap19), (11, .int .i64 vB3), (12, .int .i64 vD3), (82, .bool (vD2 || r50))]) (b := vD2) 2 hS ?_ ?_ ?_
          ·
            intro hb key
            replace hF := Fr.as hF (t := 80) rfl (congrArg Value.bool hb)
            refine ls <| gn hF rfl rfl rfl rfl fun a hF => ?_
            refine ls <| q1 hF rfl (e_as (v' := .bool (vD2 || r50)) (e_pickT hF rfl rfl) (by rw [hb]; rfl)) fun a hF => ?_
            exact key _ _ (hF.has ⟨rfl, rfl, rfl, rfl, rfl, rfl, rfl, rfl, rfl, trivial⟩) hS
          ·
            intro hb key
            replace hF := Fr.as hF (t := 80) rfl (congrArg Value.bool hb)
            refine ls <| gy hF rfl rfl <| q1 hF rfl (e_move hF rfl) fun a hF => ?_
            refine ls <| q1 hF rfl (e_as (v' := .bool (vD2 || r50)) (e_pickF hF rfl rfl) (by rw [hb]; rfl)) fun a hF => ?_
            exact key _ _ (hF.has ⟨rfl, rfl, rfl, rfl, rfl, rfl, rfl, rfl, rfl, trivial⟩) hS
          intro a w hF hS
          refine ls <| q1 hF rfl (e_asg hF rfl) fun a hF => ?_
          refine re <| ?_
          refine bn <| tn <| ?_
          refine rg <| ?_
          refine ls <| q1 hF rfl (e_move hF rfl) fun a hF => ?_
          refine ls <| q1 hF rfl (e_add hF rfl rfl) fun a hF => ?_
          refine ls <| q1 hF rfl (e_asg hF rfl) fun a hF => ?_
          refine re <| ?_
          refine tn <| ?_
          exact ⟨(nn5, (vD2 || r50), (IntKind.i64.wrap (vD3 + 1))), ⟨hm, hF.has ⟨rfl, rfl, rfl, rfl, rfl, rfl, rfl, rfl, rfl, trivial⟩, hS⟩, Nat.lt_succ_self _⟩
        ·
          replace hm := itp_f hm hb37
          refine tn <| cfv hF rfl hb37 <| ?_
          refine wp_exit <| tx <| tx <| bx <| ?_
          refine bn <| tn <| ?_
          exact ⟨vD2, hm, hF.has ⟨rfl, rfl, rfl, rfl, rfl, rfl, rfl, rfl, trivial⟩, hS⟩
      clear hm hF hS
      rintro a w ⟨vC1, hm, hF, hS⟩
      unfold leadlinelaw15_EventUses_j3 at hm
      refine rg <| ?_
      refine ls <| q1 hF rfl (e_move hF rfl) fun a hF => ?_
      refine ls <| q1 hF rfl (e_add hF rfl rfl) fun a hF => ?_
      refine ls <| q1 hF rfl (e_asg hF rfl) fun a hF => ?_
      refine re <| ?_
      refine tn <| ?_
      exact ⟨(nn2, vC1, (IntKind.i64.wrap (vB3 + 1))), ⟨HB1, hm, hxHB1, hF.has ⟨rfl, rfl, rfl, rfl, rfl, rfl, rfl, rfl, trivial⟩, hS⟩, Nat.lt_succ_self _⟩
    ·
      replace hm := itp_f hm hb23
      refine tn <| cfv hF rfl hb23 <| ?_
      refine wp_exit <| tx <| tx <| bx <| ?_
      refine tn <| ?_
      replace hS := hS.pickL (.cons .head (.cons .head (.cons .head .nil)))
      exact ⟨vB2, HB1, hm, hxHB1, hF.has ⟨rfl, rfl, rfl, rfl, rfl, trivial⟩, hS⟩
  clear hm hF hS
  rintro a w ⟨vA2, HA1, hm, hxHA1, hF, hS⟩
  unfold leadlinelaw15_EventUses_j1 at hm
  refine th <| ?_
  refine rg <| ?_
  refine ls <| q1 hF rfl (e_fa hF fa23_0 rfl) fun a hF => ?_
  refine ls <| q1 hF rfl (e_ld hF Tryd.isAgg3 rfl ((St.ld hS).cellB (.head _) rfl)) fun a hF => ?_
  refine ls <| q1 hF rfl (e_eql hF rfl rfl) fun a hF => ?_
  refine ls <| q1 hF rfl (e_move hF rfl) fun a hF => ?_
  refine grp (N := 121) (Fk := [(2, .int .i64 p3), (3, .pointer (some ⟨b4, 0, none⟩)), (4, .pointer (some ⟨b5, 0, none⟩)), (7, .slice (some ⟨b7, 0, none⟩) ([0, 0, 1, 1, 2] : List Int).length 5), (10, .bool vA2), (90, .bool ((decide (p1.Kind = 15)) || (decide (p1.Kind = 16))))]) (b := (decide (p1.Kind = 15))) 4 hS ?_ ?_ ?_
  ·
    intro hb key
    replace hF := Fr.as hF (t := 86) rfl (congrArg Value.bool hb)
    refine ls <| gn hF rfl rfl rfl rfl fun a hF => ?_
    refine ls <| gn hF rfl rfl rfl rfl fun a hF => ?_
    refine ls <| gn hF rfl rfl rfl rfl fun a hF => ?_
    refine ls <| q1 hF rfl (e_as (v' := .bool ((decide (p1.Kind = 15)) || (decide (p1.Kind = 16)))) (e_pickT hF rfl rfl) (by rw [hb]; rfl)) fun a hF => ?_
    exact key _ _ (hF.has ⟨rfl, rfl, rfl, rfl, rfl, rfl, trivial⟩) hS
  ·
    intro hb key
    replace hF := Fr.as hF (t := 86) rfl (congrArg Value.bool hb)
    refine ls <| gy hF rfl rfl <| q1 hF rfl (e_fa hF fa23_0 rfl) fun a hF => ?_
    refine ls <| gy hF rfl rfl <| q1 hF rfl (e_ld hF Tryd.isAgg3 rfl ((St.ld hS).cellB (.head _) rfl)) fun a hF => ?_
    refine ls <| gy hF rfl rfl <| q1 hF rfl (e_eql hF rfl rfl) fun a hF => ?_
    refine ls <| q1 hF rfl (e_as (v' := .bool ((decide (p1.Kind = 15)) || (decide (p1.Kind = 16)))) (e_pickF hF rfl rfl) (by rw [hb]; rfl)) fun a hF => ?_
    exact key _ _ (hF.has ⟨rfl, rfl, rfl, rfl, rfl, rfl, trivial⟩) hS
  intro a w hF hS
  refine ls <| q1 hF rfl (e_move hF rfl) fun a hF => ?_
  refine grp (N := 121) (Fk := [(2, .int .i64 p3), (3, .pointer (some ⟨b4, 0, none⟩)), (4, .pointer (some ⟨b5, 0, none⟩)), (7, .slice (some ⟨b7, 0, none⟩) ([0, 0, 1, 1, 2] : List Int).length 5), (10, .bool vA2), (95, .bool (((decide (p1.Kind = 15)) || (decide (p1.Kind = 16))) || (decide (p2.Kind = 15))))]) (b := ((decide (p1.Kind = 15)) || (decide (p1.Kind = 16)))) 4 hS ?_ ?_ ?_
  ·
    intro hb key
    replace hF := Fr.as hF (t := 91) rfl (congrArg Value.bool hb)
    refine ls <| gn hF rfl rfl rfl rfl fun a hF => ?_
    refine ls <| gn hF rfl rfl rfl rfl fun a hF => ?_
    refine ls <| gn hF rfl rfl rfl rfl fun a hF => ?_
    refine ls <| q1 hF rfl (e_as (v' := .bool (((decide (p1.Kind = 15)) || (decide (p1.Kind = 16))) || (decide (p2.Kind = 15)))) (e_pickT hF rfl rfl) (by rw [hb]; rfl)) fun a hF => ?_
    exact key _ _ (hF.has ⟨rfl, rfl, rfl, rfl, rfl, rfl, trivial⟩) hS
  ·
    intro hb key
    replace hF := Fr.as hF (t := 91) rfl (congrArg Value.bool hb)
    refine ls <| gy hF rfl rfl <| q1 hF rfl (e_fa hF fa23_0 rfl) fun a hF => ?_
    refine ls <| gy hF rfl rfl <| q1 hF rfl (e_ld hF Tryd.isAgg3 rfl ((St.ld hS).cellB (.tail _ (.head _)) rfl)) fun a hF => ?_
    refine ls <| gy hF rfl rfl <| q1 hF rfl (e_eql hF rfl rfl) fun a hF => ?_
    refine ls <| q1 hF rfl (e_as (v' := .bool (((decide (p1.Kind = 15)) || (decide (p1.Kind = 16))) || (decide (p2.Kind = 15)))) (e_pickF hF rfl rfl) (by rw [hb]; rfl)) fun a hF => ?_
    exact key _ _ (hF.has ⟨rfl, rfl, rfl, rfl, rfl, rfl, trivial⟩) hS
  intro a w hF hS
  refine ls <| q1 hF rfl (e_move hF rfl) fun a hF => ?_
  refine grp (N := 121) (Fk := [(2, .int .i64 p3), (3, .pointer (some ⟨b4, 0, none⟩)), (4, .pointer (some ⟨b5, 0, none⟩)), (7, .slice (some ⟨b7, 0, none⟩) ([0, 0, 1, 1, 2] : List Int).length 5), (10, .bool vA2), (100, .bool ((((decide (p1.Kind = 15)) || (decide (p1.Kind = 16))) || (decide (p2.Kind = 15))) || (decide (p2.Kind = 16))))]) (b := (((decide (p1.Kind = 15)) || (decide (p1.Kind = 16))) || (decide (p2.Kind = 15)))) 4 hS ?_ ?_ ?_
  ·
    intro hb key
    replace hF := Fr.as hF (t := 96) rfl (congrArg Value.bool hb)
    refine ls <| gn hF rfl rfl rfl rfl fun a hF => ?_
    refine ls <| gn hF rfl rfl rfl rfl fun a hF => ?_
    refine ls <| gn hF rfl rfl rfl rfl fun a hF => ?_
    refine ls <| q1 hF rfl (e_as (v' := .bool ((((decide (p1.Kind = 15)) || (decide (p1.Kind = 16))) || (decide (p2.Kind = 15))) || (decide (p2.Kind = 16)))) (e_pickT hF rfl rfl) (by rw [hb]; rfl)) fun a hF => ?_
    exact key _ _ (hF.has ⟨rfl, rfl, rfl, rfl, rfl, rfl, trivial⟩) hS
  ·
    intro hb key
    replace hF := Fr.as hF (t := 96) rfl (congrArg Value.bool hb)
    refine ls <| gy hF rfl rfl <| q1 hF rfl (e_fa hF fa23_0 rfl) fun a hF => ?_
    refine ls <| gy hF rfl rfl <| q1 hF rfl (e_ld hF Tryd.isAgg3 rfl ((St.ld hS).cellB (.tail _ (.head _)) rfl)) fun a hF => ?_
    refine ls <| gy hF rfl rfl <| q1 hF rfl (e_eql hF rfl rfl) fun a hF => ?_
    refine ls <| q1 hF rfl (e_as (v' := .bool ((((decide (p1.Kind = 15)) || (decide (p1.Kind = 16))) || (decide (p2.Kind = 15))) || (decide (p2.Kind = 16)))) (e_pickF hF rfl rfl) (by rw [hb]; rfl)) fun a hF => ?_
    exact key _ _ (hF.has ⟨rfl, rfl, rfl, rfl, rfl, rfl, trivial⟩) hS
  intro a w hF hS
  refine ls <| q1 hF rfl (e_asg hF rfl) fun a hF => ?_
  refine re <| ?_
  refine tn <| th <| ?_
  rcases bdich ((decide (p1.T = p2.T)) || ((((decide (p1.Kind = 15)) || (decide (p1.Kind = 16))) || (decide (p2.Kind = 15))) || (decide (p2.Kind = 16)))) with hb57 | hb57
  ·
    replace hm := ite_t hm hb57
    replace hm := bind_some hm
    obtain ⟨r58, h59, hm⟩ := hm
    refine rg <| ?_
    refine ls <| q1 hF rfl (e_fa hF fa23_1 rfl) fun a hF => ?_
    refine ls <| q1 hF rfl (e_ld hF Tryd.isAgg3 rfl ((St.ld hS).cellB (.head _) rfl)) fun a hF => ?_
    refine ls <| q1 hF rfl (e_fa hF fa23_1 rfl) fun a hF => ?_
    refine ls <| q1 hF rfl (e_ld hF Tryd.isAgg3 rfl ((St.ld hS).cellB (.tail _ (.head _)) rfl)) fun a hF => ?_
    refine ls <| q1 hF rfl (e_eql hF rfl rfl) fun a hF => ?_
    refine ls <| q1 hF rfl (e_move hF rfl) fun a hF => ?_
    refine grp (N := 121) (Fk := [(2, .int .i64 p3), (3, .pointer (some ⟨b4, 0, none⟩)), (4, .pointer (some ⟨b5, 0, none⟩)), (7, .slice (some ⟨b7, 0, none⟩) ([0, 0, 1, 1, 2] : List Int).length 5), (10, .bool vA2), (108, .bool ((decide (p1.T = p2.T)) || ((((decide (p1.Kind = 15)) || (decide (p1.Kind = 16))) || (decide (p2.Kind = 15))) || (decide (p2.Kind = 16)))))]) (b := (decide (p1.T = p2.T))) 2 hS ?_ ?_ ?_
    ·
      intro hb key
      replace hF := Fr.as hF (t := 106) rfl (congrArg Value.bool hb)
      refine ls <| gn hF rfl rfl rfl rfl fun a hF => ?_
      refine ls <| q1 hF rfl (e_as (v' := .bool ((decide (p1.T = p2.T)) || ((((decide (p1.Kind = 15)) || (decide (p1.Kind = 16))) || (decide (p2.Kind = 15))) || (decide (p2.Kind = 16))))) (e_pickT hF rfl rfl) (by rw [hb]; rfl)) fun a hF => ?_
      exact key _ _ (hF.has ⟨rfl, rfl, rfl, rfl, rfl, rfl, trivial⟩) hS
    ·
      intro hb key
      replace hF := Fr.as hF (t := 106) rfl (congrArg Value.bool hb)
      refine ls <| gy hF rfl rfl <| q1 hF rfl (e_move hF rfl) fun a hF => ?_
      refine ls <| q1 hF rfl (e_as (v' := .bool ((decide (p1.T = p2.T)) || ((((decide (p1.Kind = 15)) || (decide (p1.Kind = 16))) || (decide (p2.Kind = 15))) || (decide (p2.Kind = 16))))) (e_pickF hF rfl rfl) (by rw [hb]; rfl)) fun a hF => ?_
      exact key _ _ (hF.has ⟨rfl, rfl, rfl, rfl, rfl, rfl, trivial⟩) hS
    intro a w hF hS
    refine ls <| q1 hF rfl (e_as (e_move hF rfl) (congrArg Value.bool hb57)) fun a hF => ?_
    refine ls <| gn hF rfl rfl rfl rfl fun a hF => ?_
    refine ls <| gn hF rfl rfl rfl rfl fun a hF => ?_
    refine ls <| gn hF rfl rfl rfl rfl fun a hF => ?_
    refine ls <| gn hF rfl rfl rfl rfl fun a hF => ?_
    refine ls <| gn hF rfl rfl rfl rfl fun a hF => ?_
    refine ls <| gn hF rfl rfl rfl rfl fun a hF => ?_
    refine ls <| gn hF rfl rfl rfl rfl fun a hF => ?_
    refine ls <| q1 hF rfl (e_pickT hF rfl rfl) fun a hF => ?_
    refine ls <| q1 hF rfl (e_move hF rfl) fun a hF => ?_
    refine ls <| gy hF rfl rfl <| c1 hF rfl Tryd.call24 (leadlinelaw15_fixed_c (hp_le _) (Tab.mono (Tab.mono hT hxHA1.sub) (St.up hS)) h59) trivial (fun v w a hR hF => ?_)
    obtain ⟨rfl, hk⟩ := hR
    replace hS := hS.pass hk
    clear hk
    refine ls <| q1 hF rfl (e_pickT hF rfl rfl) fun a hF => ?_
    refine ls <| q1 hF rfl (e_asg hF rfl) fun a hF => ?_
    refine re <| ?_
    refine tn <| ?_
    refine wp_ret <| ?_
    obtain rfl := Option.some.inj hm
    exact r1 hF Tryd.results6 rfl ⟨rfl, hS.keep⟩
  ·
    replace hm := ite_f hm hb57
    replace hm := bind_some hm
    obtain ⟨r60, h61, hm⟩ := hm
    replace hm := bind_some hm
    obtain ⟨_, hb62, hm⟩ := hm
    replace hb62 := sure_some hb62
    replace hm := bind_some hm
    obtain ⟨r63, h64, hm⟩ := hm
    refine rg <| ?_
    refine ls <| q1 hF rfl (e_fa hF fa23_1 rfl) fun a hF => ?_
    refine ls <| q1 hF rfl (e_ld hF Tryd.isAgg3 rfl ((St.ld hS).cellB (.head _) rfl)) fun a hF => ?_
    refine ls <| q1 hF rfl (e_fa hF fa23_1 rfl) fun a hF => ?_
    refine ls <| q1 hF rfl (e_ld hF Tryd.isAgg3 rfl ((St.ld hS).cellB (.tail _ (.head _)) rfl)) fun a hF => ?_
    refine ls <| q1 hF rfl (e_eql hF rfl rfl) fun a hF => ?_
    refine ls <| q1 hF rfl (e_move hF rfl) fun a hF => ?_
    refine grp (N := 121) (Fk := [(2, .int .i64 p3), (3, .pointer (some ⟨b4, 0, none⟩)), (4, .pointer (some ⟨b5, 0, none⟩)), (7, .slice (some ⟨b7, 0, none⟩) ([0, 0, 1, 1, 2] : List Int).length 5), (10, .bool vA2), (108, .bool ((decide (p1.T = p2.T)) || ((((decide (p1.Kind = 15)) || (decide (p1.Kind = 16))) || (decide (p2.Kind = 15))) || (decide (p2.Kind = 16)))))]) (b := (decide (p1.T = p2.T))) 2 hS ?_ ?_ ?_
    ·
      intro hb key
      replace hF := Fr.as hF (t := 106) rfl (congrArg Value.bool hb)
      refine ls <| gn hF rfl rfl rfl rfl fun a hF => ?_
      refine ls <| q1 hF rfl (e_as (v' := .bool ((decide (p1.T = p2.T)) || ((((decide (p1.Kind = 15)) || (decide (p1.Kind = 16))) || (decide (p2.Kind = 15))) || (decide (p2.Kind = 16))))) (e_pickT hF rfl rfl) (by rw [hb]; rfl)) fun a hF => ?_
      exact key _ _ (hF.has ⟨rfl, rfl, rfl, rfl, rfl, rfl, trivial⟩) hS
    ·
      intro hb key
      replace hF := Fr.as hF (t := 106) rfl (congrArg Value.bool hb)
      refine ls <| gy hF rfl rfl <| q1 hF rfl (e_move hF rfl) fun a hF => ?_
      refine ls <| q1 hF rfl (e_as (v' := .bool ((decide (p1.T = p2.T)) || ((((decide (p1.Kind = 15)) || (decide (p1.Kind = 16))) || (decide (p2.Kind = 15))) || (decide (p2.Kind = 16))))) (e_pickF hF rfl rfl) (by rw [hb]; rfl)) fun a hF => ?_
      exact key _ _ (hF.has ⟨rfl, rfl, rfl, rfl, rfl, rfl, trivial⟩) hS
    intro a w hF hS
    refine ls <| q1 hF rfl (e_as (e_move hF rfl) (congrArg Value.bool hb57)) fun a hF => ?_
    refine ls <| gy hF rfl rfl <| q1 hF rfl (e_ldA hF Tryd.isAgg23 Tryd.sizeOf23 rfl rfl ((St.ld hS).cellsB (.head _))) fun a hF => ?_
    refine ls <| gy hF rfl rfl <| q1 hF rfl (e_ldA hF Tryd.isAgg23 Tryd.sizeOf23 rfl rfl ((St.ld hS).cellsB (.tail _ (.head _)))) fun a hF => ?_
    refine ls <| gy hF rfl rfl <| q1 hF rfl (e_move hF rfl) fun a hF => ?_
    refine ls <| gy hF rfl rfl <| q1 hF rfl (e_move hF rfl) fun a hF => ?_
    refine ls <| gy hF rfl rfl <| c1 hF rfl Tryd.call16 (event_Depend_c (hp_le _) (St.capO hS (.tail _ (.tail _ (.head _)))) (St.srO hS (.tail _ (.tail _ (.head _))) (hv6.mono hxHA1.sub)) h61) ⟨rfl, rfl, rfl, rfl, trivial⟩ (fun v w a hR hF => ?_)
    obtain ⟨rfl, hk⟩ := hR
    replace hS := hS.pass hk
    clear hk
    refine ls <| gy hF rfl rfl <| q1 hF rfl (e_move hF rfl) fun a hF => ?_
    refine ls <| gy hF rfl rfl <| q1 hF rfl (e_eqlB hF Tryd.runUnderlying4 rfl rfl) fun a hF => ?_
    refine ls <| q1 hF rfl (e_pickF hF rfl rfl) fun a hF => ?_
    refine ls <| q1 hF rfl (e_as (e_move hF rfl) (congrArg Value.bool hb62)) fun a hF => ?_
    refine ls <| gy hF rfl rfl <| c1 hF rfl Tryd.call24 (leadlinelaw15_fixed_c (hp_le _) (Tab.mono (Tab.mono hT hxHA1.sub) (St.up hS)) h64) trivial (fun v w a hR hF => ?_)
    obtain ⟨rfl, hk⟩ := hR
    replace hS := hS.pass hk
    clear hk
    refine ls <| q1 hF rfl (e_pickT hF rfl rfl) fun a hF => ?_
    refine ls <| q1 hF rfl (e_asg hF rfl) fun a hF => ?_
    refine re <| ?_
    refine tn <| ?_
    refine wp_ret <| ?_
    obtain rfl := Option.some.inj hm
    exact r1 hF Tryd.results6 rfl ⟨rfl, hS.keep⟩

set_option maxRecDepth 100000 in
theorem leadlinelaw17_cut_c {N : Nat} {w0 : World} {H : PH} (hH : H.le w0) {oa2 : Option Addr} {cap3 : Nat} {p1 : (List api_Event)} (hc4 : p1.length ≤ cap3) (hr5 : SR H oa2 p1) {r : (List api_Event)} (hm : leadlinelaw17_cut N p1 = some r) : Tot Tryd.prog 25 #[.slice oa2 p1.length cap3] w0 (fun v w' => ∃ (H' : PH) (oa0 : Option Addr) (cap0 : Nat), v = .slice oa0 r.length cap0 ∧ r.length ≤ cap0 ∧ SR H' oa0 r ∧ Ext w0 H H' ∧ H'.le w' ∧ Keep Nil w0 w') := by
  unfold leadlinelaw17_cut at hm
  refine fn0 (args := [.slice oa2 p1.length cap3]) (F := [(0, .slice oa2 p1.length cap3)]) Tryd.func25 rfl Tryd.ntmps25 rfl rfl fun a hF => ?_
  have hS : St w0 Nil [H] [] w0 := start1 hH
  refine th <| ?_
  refine rg <| ?_
  refine ls <| q1 hF rfl (e_asg hF rfl) fun a hF => ?_
  refine re <| ?_
  refine tn <| th <| ?_
  replace hm := bind_some hm
  obtain ⟨l6, h7, hm⟩ := hm
  obtain ⟨oa8, cap9, e10, e11, hc12, hr13⟩ := SR.sub (sz := 5) hr5 hc4 rfl h7
  refine rg <| ?_
  refine ls <| q1 hF rfl (e_move hF rfl) fun a hF => ?_
  refine ls <| q1 hF rfl (e_move hF rfl) fun a hF => ?_
  refine ls <| q1 hF rfl (e_lenL (α := api_Event) (xs := p1) hF Tryd.runUnderlying39 rfl) fun a hF => ?_
  refine ls <| q1 hF rfl (e_min hF rfl rfl) fun a hF => ?_
  refine ls <| q1 hF rfl (e_subL (xs := p1) (vl := 0) (vh := (min (p1.length : Int) 30)) hF Tryd.runUnderlying39 Tryd.sizeOf23 rfl hc4 rfl rfl h7 e10 e11) fun a hF => ?_
  refine ls <| q1 hF rfl (e_asg hF rfl) fun a hF => ?_
  refine re <| ?_
  refine tn <| ?_
  refine wp_ret <| ?_
  obtain rfl := Option.some.inj hm
  exact r1 hF Tryd.results25 rfl ⟨H, _, _, rfl, hc12, hr13, (Ext.refl _ _), (St.le hS), hS.keep⟩
end Go.LM.ET
