/- Walks, lifted by program. No condition beyond each theorem's own premises. -/
import Derived.Test.YtimaeihmnipfgaaDoorETW4
namespace Go.LM.ET
open Go Go.LL Go.MD Go.LM Go.Proofs Go.MD.ET

set_option maxHeartbeats 4000000 in
set_option maxRecDepth 100000 in
theorem leadlineref15_Show_c {N : Nat} {w0 : World} {H : PH} (hH : H.le w0) {p1 : api_Event} {r : Str} (hm : leadlineref15_Show N p1 = some r) : Tot Tryd.prog 21 #[.agg #[.int .i64 p1.Kind, .int .i64 p1.T, .int .i64 p1.A, .int .i64 p1.N, .int .i64 p1.M]] w0 (fun v w' => v = strv r ∧ Keep Nil w0 w') := by
  unfold leadlineref15_Show at hm
  refine fn0 (args := [.agg #[.int .i64 p1.Kind, .int .i64 p1.T, .int .i64 p1.A, .int .i64 p1.N, .int .i64 p1.M]]) (F := [(0, .agg #[.int .i64 p1.Kind, .int .i64 p1.T, .int .i64 p1.A, .int .i64 p1.N, .int .i64 p1.M])]) Tryd.func21 rfl Tryd.ntmps21 rfl rfl fun a hF => ?_
  have hS : St w0 Nil [H] [] w0 := start1 hH
  refine th <| ?_
  refine rg <| ?_
  refine ls <| a_box (cs := [.int .i64 p1.Kind, .int .i64 p1.T, .int .i64 p1.A, .int .i64 p1.N, .int .i64 p1.M].toArray) hF rfl hS rfl rfl fun b2 w a hS hF => ?_
  refine ls <| q1 hF rfl (e_asg hF rfl) fun a hF => ?_
  refine re <| ?_
  refine tn <| th <| th <| ?_
  refine rg <| ?_
  refine ls <| q1 hF rfl (e_fa hF fa23_0 rfl) fun a hF => ?_
  refine ls <| q1 hF rfl (e_ld hF Tryd.isAgg3 rfl ((St.ld hS).cellB (.head _) rfl)) fun a hF => ?_
  refine ls <| q1 hF rfl (e_lss hF rfl rfl) fun a hF => ?_
  refine ls <| q1 hF rfl (e_move hF rfl) fun a hF => ?_
  refine grp (N := 48) (Fk := [(1, .pointer (some ⟨b2, 0, none⟩)), (13, .bool ((decide (p1.Kind < 1)) || (decide (16 < p1.Kind))))]) (b := (decide (p1.Kind < 1))) 4 hS ?_ ?_ ?_
  ·
    intro hb key
    replace hF := Fr.as hF (t := 9) rfl (congrArg Value.bool hb)
    refine ls <| gn hF rfl rfl rfl rfl fun a hF => ?_
    refine ls <| gn hF rfl rfl rfl rfl fun a hF => ?_
    refine ls <| gn hF rfl rfl rfl rfl fun a hF => ?_
    refine ls <| q1 hF rfl (e_as (v' := .bool ((decide (p1.Kind < 1)) || (decide (16 < p1.Kind)))) (e_pickT hF rfl rfl) (by rw [hb]; rfl)) fun a hF => ?_
    exact key _ _ (hF.has ⟨rfl, rfl, trivial⟩) hS
  ·
    intro hb key
    replace hF := Fr.as hF (t := 9) rfl (congrArg Value.bool hb)
    refine ls <| gy hF rfl rfl <| q1 hF rfl (e_fa hF fa23_0 rfl) fun a hF => ?_
    refine ls <| gy hF rfl rfl <| q1 hF rfl (e_ld hF Tryd.isAgg3 rfl ((St.ld hS).cellB (.head _) rfl)) fun a hF => ?_
    refine ls <| gy hF rfl rfl <| q1 hF rfl (e_gtr hF rfl rfl) fun a hF => ?_
    refine ls <| q1 hF rfl (e_as (v' := .bool ((decide (p1.Kind < 1)) || (decide (16 < p1.Kind)))) (e_pickF hF rfl rfl) (by rw [hb]; rfl)) fun a hF => ?_
    exact key _ _ (hF.has ⟨rfl, rfl, trivial⟩) hS
  intro a w hF hS
  refine re <| ?_
  rcases bdich ((decide (p1.Kind < 1)) || (decide (16 < p1.Kind))) with hb3 | hb3
  ·
    replace hm := ite_t hm hb3
    refine tn <| ctv hF rfl hb3 <| th <| ?_
    refine rg <| ?_
    refine ls <| q1 hF rfl (e_asg hF rfl) fun a hF => ?_
    refine re <| ?_
    refine tn <| ?_
    refine wp_ret <| tr <| ?_
    obtain rfl := Option.some.inj hm
    exact r1 hF Tryd.results21 rfl ⟨rfl, hS.keep⟩
  ·
    replace hm := ite_f hm hb3
    refine tn <| cfv hF rfl hb3 <| wp_skip <| ?_
    refine tn <| th <| midK (fun a w => ∃ (vA2 : Str) (HA1 : PH), (leadlineref15_Show_j1 N p1) vA2 = some r ∧ Ext w0 H HA1 ∧ Fr 48 [(1, .pointer (some ⟨b2, 0, none⟩)), (3, strv vA2)] a ∧ St w0 Nil [HA1] [blk b2 (.cells [.int .i64 p1.Kind, .int .i64 p1.T, .int .i64 p1.A, .int .i64 p1.N, .int .i64 p1.M].toArray 23 (0, 0))] w) ?_ ?_
    ·
      replace hm := bind_some hm
      obtain ⟨r4, h5, hm⟩ := hm
      replace hm := bind_some hm
      obtain ⟨s6, h7, hm⟩ := hm
      replace hm := bind_some hm
      obtain ⟨x11, h12, hm⟩ := hm
      replace hm := bind_some hm
      obtain ⟨s16, h17, hm⟩ := hm
      refine rdS 11 hS wide fun w hS => ?_
      refine d1 (i := 0) rfl (by kernel_rfl) (by kernel_rfl) (St.ld hS) hF rfl (fun _ _ _ h => h) (fun w hl => (e_fa hF fa23_1 rfl)) fun a hF => ?_
      refine d1 (i := 1) rfl (by kernel_rfl) (by kernel_rfl) (St.ld hS) hF rfl (fun _ _ _ h => h) (fun w hl => (e_ld hF Tryd.isAgg3 rfl (hl.cellB (.head _) rfl))) fun a hF => ?_
      refine d1 (i := 5) rfl (by kernel_rfl) (by kernel_rfl) (St.ld hS) hF rfl (fun _ _ _ h => h) (fun w hl => (e_fa hF fa23_0 rfl)) fun a hF => ?_
      refine d1 (i := 6) rfl (by kernel_rfl) (by kernel_rfl) (St.ld hS) hF rfl (fun _ _ _ h => h) (fun w hl => (e_ld hF Tryd.isAgg3 rfl (hl.cellB (.head _) rfl))) fun a hF => ?_
      refine da2 (i := 2) (j := 4) (by kernel_rfl) ?_ ?_
      ·
        refine di (i := 2) rfl <| c1 hF rfl Tryd.call48 (leadlineref01_Text_c _ (hp_le _) h5) ⟨rfl, trivial⟩ (fun v w a hR hF => ?_)
        obtain ⟨rfl, hk⟩ := hR
        replace hS := hS.pass hk
        clear hk
        refine ⟨fun _ => (St.ld hS), ?_⟩
        refine d1 (i := 3) rfl (by kernel_rfl) (by kernel_rfl) (St.ld hS) hF rfl (fun _ _ _ h => h) (fun w hl => (e_catU hF rfl rfl h7)) fun a hF => ?_
        refine da1 (i := 4) (by kernel_rfl) ?_
        refine di (i := 4) rfl <| a_bsl (e := 9) (sz := 1) [strv [], strv [108, 111, 97, 100], strv [111, 119, 110], strv [115, 116, 111, 114, 101], strv [102, 108, 117, 115, 104], strv [111, 112, 116], strv [115, 102, 101, 110, 99, 101], strv [109, 102, 101, 110, 99, 101], strv [99, 97, 115], strv [102, 97, 105, 108], strv [116, 97, 107, 101], strv [103, 105, 118, 101], strv [99, 111, 109, 101], strv [111, 117, 116], strv [102, 101, 110, 99, 101], strv [99, 114, 97, 115, 104], strv [102, 97, 117, 108, 116]] hF rfl hS rfl rfl rfl (fun w => by kernel_rfl) fun b9 w a hS hF => ?_
        have hv8 : Rows (α := Str) H [strv [], strv [108, 111, 97, 100], strv [111, 119, 110], strv [115, 116, 111, 114, 101], strv [102, 108, 117, 115, 104], strv [111, 112, 116], strv [115, 102, 101, 110, 99, 101], strv [109, 102, 101, 110, 99, 101], strv [99, 97, 115], strv [102, 97, 105, 108], strv [116, 97, 107, 101], strv [103, 105, 118, 101], strv [99, 111, 109, 101], strv [111, 117, 116], strv [102, 101, 110, 99, 101], strv [99, 114, 97, 115, 104], strv [102, 97, 117, 108, 116]] ([[], [108, 111, 97, 100], [111, 119, 110], [115, 116, 111, 114, 101], [102, 108, 117, 115, 104], [111, 112, 116], [115, 102, 101, 110, 99, 101], [109, 102, 101, 110, 99, 101], [99, 97, 115], [102, 97, 105, 108], [116, 97, 107, 101], [103, 105, 118, 101], [99, 111, 109, 101], [111, 117, 116], [102, 101, 110, 99, 101], [99, 114, 97, 115, 104], [102, 97, 117, 108, 116]] : List Str) := (.cons (c := [strv []]) rfl (.cons (c := [strv [108, 111, 97, 100]]) rfl (.cons (c := [strv [111, 119, 110]]) rfl (.cons (c := [strv [115, 116, 111, 114, 101]]) rfl (.cons (c := [strv [102, 108, 117, 115, 104]]) rfl (.cons (c := [strv [111, 112, 116]]) rfl (.cons (c := [strv [115, 102, 101, 110, 99, 101]]) rfl (.cons (c := [strv [109, 102, 101, 110, 99, 101]]) rfl (.cons (c := [strv [99, 97, 115]]) rfl (.cons (c := [strv [102, 97, 105, 108]]) rfl (.cons (c := [strv [116, 97, 107, 101]]) rfl (.cons (c := [strv [103, 105, 118, 101]]) rfl (.cons (c := [strv [99, 111, 109, 101]]) rfl (.cons (c := [strv [111, 117, 116]]) rfl (.cons (c := [strv [102, 101, 110, 99, 101]]) rfl (.cons (c := [strv [99, 114, 97, 115, 104]]) rfl (.cons (c := [strv [102, 97, 117, 108, 116]]) rfl .nil)))))))))))))))))
        refine ⟨fun _ => (St.ldsX hS (fun _ _ h => h) (sub_cons (.tail _ (.head _)) sub_nil)), ?_⟩
        refine da1 (i := 7) (by kernel_rfl) ?_
        refine di (i := 7) rfl <| q1 hF rfl (e_iaI hF Tryd.runUnderlying66 Tryd.sizeOf9 rfl rfl h12 (Rd.oaI ((St.ld hS).rdO (.head _)) hv8 (by decide) h12)) fun a hF => ?_
        refine ⟨fun _ => (St.ldsX hS (fun _ _ h => h) (sub_cons (.tail _ (.head _)) sub_nil)), ?_⟩
        obtain ⟨c13, g14, hl15⟩ := Rows.getI hv8 h12
        obtain rfl : c13 = [strv x11] := g14
        refine da1 (i := 8) (by kernel_rfl) ?_
        refine di (i := 8) rfl <| q1 hF rfl (e_ld hF Tryd.isAgg9 rfl ((St.ld hS).elO (.head _) (hl15 0 _ rfl))) fun a hF => ?_
        refine ⟨fun _ => (St.ldsX hS (fun _ _ h => h) (sub_cons (.tail _ (.head _)) sub_nil)), ?_⟩
        refine d1 (i := 9) rfl (by kernel_rfl) (by kernel_rfl) (St.ldsX hS (fun _ _ h => h) (sub_cons (.tail _ (.head _)) sub_nil)) hF rfl (fun _ _ _ h => h) (fun w hl => (e_catU hF rfl rfl h17)) fun a hF => ?_
        refine d1 (i := 10) rfl (by kernel_rfl) (by kernel_rfl) (St.ldsX hS (fun _ _ h => h) (sub_cons (.tail _ (.head _)) sub_nil)) hF rfl (fun _ _ _ h => h) (fun w hl => (e_asg hF rfl)) fun a hF => ?_
        refine de (by kernel_rfl) <| ?_
        refine tn <| ?_
        replace hS := hS.pickL (.cons (.tail .head) .nil)
        exact ⟨s16, H, hm, (Ext.refl _ _), hF.has ⟨rfl, rfl, trivial⟩, hS⟩
      ·
        refine di (i := 4) rfl <| a_bsl (e := 9) (sz := 1) [strv [], strv [108, 111, 97, 100], strv [111, 119, 110], strv [115, 116, 111, 114, 101], strv [102, 108, 117, 115, 104], strv [111, 112, 116], strv [115, 102, 101, 110, 99, 101], strv [109, 102, 101, 110, 99, 101], strv [99, 97, 115], strv [102, 97, 105, 108], strv [116, 97, 107, 101], strv [103, 105, 118, 101], strv [99, 111, 109, 101], strv [111, 117, 116], strv [102, 101, 110, 99, 101], strv [99, 114, 97, 115, 104], strv [102, 97, 117, 108, 116]] hF rfl hS rfl rfl rfl (fun w => by kernel_rfl) fun b9 w a hS hF => ?_
        have hv8 : Rows (α := Str) H [strv [], strv [108, 111, 97, 100], strv [111, 119, 110], strv [115, 116, 111, 114, 101], strv [102, 108, 117, 115, 104], strv [111, 112, 116], strv [115, 102, 101, 110, 99, 101], strv [109, 102, 101, 110, 99, 101], strv [99, 97, 115], strv [102, 97, 105, 108], strv [116, 97, 107, 101], strv [103, 105, 118, 101], strv [99, 111, 109, 101], strv [111, 117, 116], strv [102, 101, 110, 99, 101], strv [99, 114, 97, 115, 104], strv [102, 97, 117, 108, 116]] ([[], [108, 111, 97, 100], [111, 119, 110], [115, 116, 111, 114, 101], [102, 108, 117, 115, 104], [111, 112, 116], [115, 102, 101, 110, 99, 101], [109, 102, 101, 110, 99, 101], [99, 97, 115], [102, 97, 105, 108], [116, 97, 107, 101], [103, 105, 118, 101], [99, 111, 109, 101], [111, 117, 116], [102, 101, 110, 99, 101], [99, 114, 97, 115, 104], [102, 97, 117, 108, 116]] : List Str) := (.cons (c := [strv []]) rfl (.cons (c := [strv [108, 111, 97, 100]]) rfl (.cons (c := [strv [111, 119, 110]]) rfl (.cons (c := [strv [115, 116, 111, 114, 101]]) rfl (.cons (c := [strv [102, 108, 117, 115, 104]]) rfl (.cons (c := [strv [111, 112, 116]]) rfl (.cons (c := [strv [115, 102, 101, 110, 99, 101]]) rfl (.cons (c := [strv [109, 102, 101, 110, 99, 101]]) rfl (.cons (c := [strv [99, 97, 115]]) rfl (.cons (c := [strv [102, 97, 105, 108]]) rfl (.cons (c := [strv [116, 97, 107, 101]]) rfl (.cons (c := [strv [103, 105, 118, 101]]) rfl (.cons (c := [strv [99, 111, 109, 101]]) rfl (.cons (c := [strv [111, 117, 116]]) rfl (.cons (c := [strv [102, 101, 110, 99, 101]]) rfl (.cons (c := [strv [99, 114, 97, 115, 104]]) rfl (.cons (c := [strv [102, 97, 117, 108, 116]]) rfl .nil)))))))))))))))))
        refine ⟨fun _ => (St.ldsX hS (fun _ _ h => h) (sub_cons (.tail _ (.head _)) sub_nil)), ?_⟩
        refine da2 (i := 2) (j := 7) (by kernel_rfl) ?_ ?_
        ·
          refine di (i := 2) rfl <| c1 hF rfl Tryd.call48 (leadlineref01_Text_c _ (hp_le _) h5) ⟨rfl, trivial⟩ (fun v w a hR hF => ?_)
          obtain ⟨rfl, hk⟩ := hR
          replace hS := hS.pass hk
          clear hk
          refine ⟨fun _ => (St.ldsX hS (fun _ _ h => h) (sub_cons (.tail _ (.head _)) sub_nil)), ?_⟩
          refine d1 (i := 3) rfl (by kernel_rfl) (by kernel_rfl) (St.ldsX hS (fun _ _ h => h) (sub_cons (.tail _ (.head _)) sub_nil)) hF rfl (fun _ _ _ h => h) (fun w hl => (e_catU hF rfl rfl h7)) fun a hF => ?_
          refine da1 (i := 7) (by kernel_rfl) ?_
          refine di (i := 7) rfl <| q1 hF rfl (e_iaI hF Tryd.runUnderlying66 Tryd.sizeOf9 rfl rfl h12 (Rd.oaI ((St.ld hS).rdO (.head _)) hv8 (by decide) h12)) fun a hF => ?_
          refine ⟨fun _ => (St.ldsX hS (fun _ _ h => h) (sub_cons (.tail _ (.head _)) sub_nil)), ?_⟩
          obtain ⟨c13, g14, hl15⟩ := Rows.getI hv8 h12
          obtain rfl : c13 = [strv x11] := g14
          refine da1 (i := 8) (by kernel_rfl) ?_
          refine di (i := 8) rfl <| q1 hF rfl (e_ld hF Tryd.isAgg9 rfl ((St.ld hS).elO (.head _) (hl15 0 _ rfl))) fun a hF => ?_
          refine ⟨fun _ => (St.ldsX hS (fun _ _ h => h) (sub_cons (.tail _ (.head _)) sub_nil)), ?_⟩
          refine d1 (i := 9) rfl (by kernel_rfl) (by kernel_rfl) (St.ldsX hS (fun _ _ h => h) (sub_cons (.tail _ (.head _)) sub_nil)) hF rfl (fun _ _ _ h => h) (fun w hl => (e_catU hF rfl rfl h17)) fun a hF => ?_
          refine d1 (i := 10) rfl (by kernel_rfl) (by kernel_rfl) (St.ldsX hS (fun _ _ h => h) (sub_cons (.tail _ (.head _)) sub_nil)) hF rfl (fun _ _ _ h => h) (fun w hl => (e_asg hF rfl)) fun a hF => ?_
          refine de (by kernel_rfl) <| ?_
          refine tn <| ?_
          replace hS := hS.pickL (.cons (.tail .head) .nil)
          exact ⟨s16, H, hm, (Ext.refl _ _), hF.has ⟨rfl, rfl, trivial⟩, hS⟩
        ·
          refine di (i := 7) rfl <| q1 hF rfl (e_iaI hF Tryd.runUnderlying66 Tryd.sizeOf9 rfl rfl h12 (Rd.oaI ((St.ld hS).rdO (.head _)) hv8 (by decide) h12)) fun a hF => ?_
          refine ⟨fun _ => (St.ldsX hS (fun _ _ h => h) (sub_cons (.tail _ (.head _)) sub_nil)), ?_⟩
          obtain ⟨c13, g14, hl15⟩ := Rows.getI hv8 h12
          obtain rfl : c13 = [strv x11] := g14
          refine da2 (i := 2) (j := 8) (by kernel_rfl) ?_ ?_
          ·
            refine di (i := 2) rfl <| c1 hF rfl Tryd.call48 (leadlineref01_Text_c _ (hp_le _) h5) ⟨rfl, trivial⟩ (fun v w a hR hF => ?_)
            obtain ⟨rfl, hk⟩ := hR
            replace hS := hS.pass hk
            clear hk
            refine ⟨fun _ => (St.ldsX hS (fun _ _ h => h) (sub_cons (.tail _ (.head _)) sub_nil)), ?_⟩
            refine d1 (i := 3) rfl (by kernel_rfl) (by kernel_rfl) (St.ldsX hS (fun _ _ h => h) (sub_cons (.tail _ (.head _)) sub_nil)) hF rfl (fun _ _ _ h => h) (fun w hl => (e_catU hF rfl rfl h7)) fun a hF => ?_
            refine da1 (i := 8) (by kernel_rfl) ?_
            refine di (i := 8) rfl <| q1 hF rfl (e_ld hF Tryd.isAgg9 rfl ((St.ld hS).elO (.head _) (hl15 0 _ rfl))) fun a hF => ?_
            refine ⟨fun _ => (St.ldsX hS (fun _ _ h => h) (sub_cons (.tail _ (.head _)) sub_nil)), ?_⟩
            refine d1 (i := 9) rfl (by kernel_rfl) (by kernel_rfl) (St.ldsX hS (fun _ _ h => h) (sub_cons (.tail _ (.head _)) sub_nil)) hF rfl (fun _ _ _ h => h) (fun w hl => (e_catU hF rfl rfl h17)) fun a hF => ?_
            refine d1 (i := 10) rfl (by kernel_rfl) (by kernel_rfl) (St.ldsX hS (fun _ _ h => h) (sub_cons (.tail _ (.head _)) sub_nil)) hF rfl (fun _ _ _ h => h) (fun w hl => (e_asg hF rfl)) fun a hF => ?_
            refine de (by kernel_rfl) <| ?_
            refine tn <| ?_
            replace hS := hS.pickL (.cons (.tail .head) .nil)
            exact ⟨s16, H, hm, (Ext.refl _ _), hF.has ⟨rfl, rfl, trivial⟩, hS⟩
          ·
            refine di (i := 8) rfl <| q1 hF rfl (e_ld hF Tryd.isAgg9 rfl ((St.ld hS).elO (.head _) (hl15 0 _ rfl))) fun a hF => ?_
            refine ⟨fun _ => (St.ldsX hS (fun _ _ h => h) (sub_cons (.tail _ (.head _)) sub_nil)), ?_⟩
            refine da1 (i := 2) (by kernel_rfl) ?_
            refine di (i := 2) rfl <| c1 hF rfl Tryd.call48 (leadlineref01_Text_c _ (hp_le _) h5) ⟨rfl, trivial⟩ (fun v w a hR hF => ?_)
            obtain ⟨rfl, hk⟩ := hR
            replace hS := hS.pass hk
            clear hk
            refine ⟨fun _ => (St.ldsX hS (fun _ _ h => h) (sub_cons (.tail _ (.head _)) sub_nil)), ?_⟩
            refine d1 (i := 3) rfl (by kernel_rfl) (by kernel_rfl) (St.ldsX hS (fun _ _ h => h) (sub_cons (.tail _ (.head _)) sub_nil)) hF rfl (fun _ _ _ h => h) (fun w hl => (e_catU hF rfl rfl h7)) fun a hF => ?_
            refine d1 (i := 9) rfl (by kernel_rfl) (by kernel_rfl) (St.ldsX hS (fun _ _ h => h) (sub_cons (.tail _ (.head _)) sub_nil)) hF rfl (fun _ _ _ h => h) (fun w hl => (e_catU hF rfl rfl h17)) fun a hF => ?_
            refine d1 (i := 10) rfl (by kernel_rfl) (by kernel_rfl) (St.ldsX hS (fun _ _ h => h) (sub_cons (.tail _ (.head _)) sub_nil)) hF rfl (fun _ _ _ h => h) (fun w hl => (e_asg hF rfl)) fun a hF => ?_
            refine de (by kernel_rfl) <| ?_
            refine tn <| ?_
            replace hS := hS.pickL (.cons (.tail .head) .nil)
            exact ⟨s16, H, hm, (Ext.refl _ _), hF.has ⟨rfl, rfl, trivial⟩, hS⟩
    clear hm hF hS
    rintro a w ⟨vA2, HA1, hm, hxHA1, hF, hS⟩
    unfold leadlineref15_Show_j1 at hm
    refine th <| ?_
    refine rg <| ?_
    refine ls <| q1 hF rfl (e_fa hF fa23_2 rfl) fun a hF => ?_
    refine ls <| q1 hF rfl (e_ld hF Tryd.isAgg3 rfl ((St.ld hS).cellB (.head _) rfl)) fun a hF => ?_
    refine ls <| q1 hF rfl (e_fa hF fa23_3 rfl) fun a hF => ?_
    refine ls <| q1 hF rfl (e_ld hF Tryd.isAgg3 rfl ((St.ld hS).cellB (.head _) rfl)) fun a hF => ?_
    refine ls <| q1 hF rfl (e_fa hF fa23_4 rfl) fun a hF => ?_
    refine ls <| q1 hF rfl (e_ld hF Tryd.isAgg3 rfl ((St.ld hS).cellB (.head _) rfl)) fun a hF => ?_
    refine ls <| a_bsl (e := 3) (sz := 1) [.int .i64 p1.A, .int .i64 p1.N, .int .i64 p1.M] hF rfl hS rfl rfl rfl (fun w => by kernel_rfl) fun b19 w a hS hF => ?_
    have hv18 : Rows (α := Int) HA1 [.int .i64 p1.A, .int .i64 p1.N, .int .i64 p1.M] ([p1.A, p1.N, p1.M] : List Int) := (.cons (c := [.int .i64 p1.A]) rfl (.cons (c := [.int .i64 p1.N]) rfl (.cons (c := [.int .i64 p1.M]) rfl .nil)))
    refine ls <| q1 hF rfl (e_asg hF rfl) fun a hF => ?_
    refine re <| ?_
    refine tn <| th <| th <| ?_
    refine rg <| ?_
    refine ls <| q1 hF rfl (e_asg hF rfl) fun a hF => ?_
    refine re <| ?_
    refine tn <| midK (fun a w => ∃ (vA3 : Str), leadlineref15_Show_j2 vA3 = some r ∧ Fr 48 [(3, strv vA3)] a ∧ St w0 Nil [HA1] [] w) ?_ ?_
    ·
      replace hS := hS.pickL (.cons (.tail .head) (.cons .head .nil))
      refine wp_block <| lp (α := Nat × Str × Int) (fun (gh : Nat × Str × Int) a w => match gh with | (nn3, vB1, vB2) => (leadlineref15_Show_l3 N leadlineref15_Show_j2 p1) nn3 vB1 vB2 = some r ∧ Fr 48 [(1, .pointer (some ⟨b2, 0, none⟩)), (3, strv vB1), (4, .slice (some ⟨b19, 0, none⟩) ([p1.A, p1.N, p1.M] : List Int).length 3), (5, .int .i64 vB2)] a ∧ St w0 Nil [HA1] [blk b2 (.cells [.int .i64 p1.Kind, .int .i64 p1.T, .int .i64 p1.A, .int .i64 p1.N, .int .i64 p1.M].toArray 23 (0, 0)), sla 3 1 (some ⟨b19, 0, none⟩) ([p1.A, p1.N, p1.M] : List Int).length 3 [.int .i64 p1.A, .int .i64 p1.N, .int .i64 p1.M]] w) (fun gh => gh.1) (N, vA2, 0) ⟨hm, hF.has ⟨rfl, rfl, rfl, rfl, trivial⟩, hS⟩ ?_
      clear hm hF hS
      rintro ⟨nn3, vB1, vB2⟩ a w ⟨hm, hF, hS⟩
      obtain _ | nn3 := nn3
      · simp [leadlineref15_Show_l3] at hm
      rw [leadlineref15_Show_l3] at hm
      refine th <| th <| ?_
      refine rg <| ?_
      refine ls <| q1 hF rfl (e_move hF rfl) fun a hF => ?_
      refine ls <| q1 hF rfl (e_lss hF rfl rfl) fun a hF => ?_
      refine re <| ?_
      rcases bdich (decide (vB2 < 3)) with hb21 | hb21
      ·
        replace hm := itp_t hm hb21
        refine tn <| ctv hF rfl hb21 <| wp_skip <| ?_
        refine tn <| th <| midK (fun a w => ∃ (vC1 : Str), (leadlineref15_Show_j4 (leadlineref15_Show_l3 N leadlineref15_Show_j2 p1 nn3) vB2) vC1 = some r ∧ Fr 48 [(1, .pointer (some ⟨b2, 0, none⟩)), (3, strv vC1), (4, .slice (some ⟨b19, 0, none⟩) ([p1.A, p1.N, p1.M] : List Int).length 3), (5, .int .i64 vB2)] a ∧ St w0 Nil [HA1] [blk b2 (.cells [.int .i64 p1.Kind, .int .i64 p1.T, .int .i64 p1.A, .int .i64 p1.N, .int .i64 p1.M].toArray 23 (0, 0)), sla 3 1 (some ⟨b19, 0, none⟩) ([p1.A, p1.N, p1.M] : List Int).length 3 [.int .i64 p1.A, .int .i64 p1.N, .int .i64 p1.M]] w) ?_ ?_
        ·
          refine wp_block <| th <| ?_
          replace hm := bind_some hm
          obtain ⟨r22, h23, hm⟩ := hm
          refine rg <| ?_
          refine ls <| q1 hF rfl (e_fa hF fa23_0 rfl) fun a hF => ?_
          refine ls <| q1 hF rfl (e_ld hF Tryd.isAgg3 rfl ((St.ld hS).cellB (.head _) rfl)) fun a hF => ?_
          refine ls <| q1 hF rfl (e_move hF rfl) fun a hF => ?_
          refine ls <| c1 hF rfl Tryd.call46 (leadlineref15_has_c (hp_le _) h23) ⟨rfl, rfl, trivial⟩ (fun v w a hR hF => ?_)
          obtain ⟨rfl, hk⟩ := hR
          replace hS := hS.pass hk
          clear hk
          refine re <| ?_
          rcases bdich r22 with hb24 | hb24
          ·
            replace hm := ite_t hm hb24
            refine tn <| ctv hF rfl hb24 <| ?_
            replace hm := bind_some hm
            obtain ⟨x25, h26, hm⟩ := hm
            have ho27 := Rd.oaI (hS.rdO (.tail _ (.head _))) hv18 (by decide) h26
            obtain ⟨c28, g29, hl30⟩ := Rows.getI hv18 h26
            obtain rfl : c28 = [.int .i64 x25] := g29
            replace hm := bind_some hm
            obtain ⟨r31, h32, hm⟩ := hm
            replace hm := bind_some hm
            obtain ⟨s33, h34, hm⟩ := hm
            replace hm := bind_some hm
            obtain ⟨s35, h36, hm⟩ := hm
            refine rg <| ?_
            refine ls <| q1 hF rfl (e_move hF rfl) fun a hF => ?_
            refine ls <| q1 hF rfl (e_move hF rfl) fun a hF => ?_
            refine ls <| q1 hF rfl (e_move hF rfl) fun a hF => ?_
            refine ls <| q1 hF rfl (e_iaI hF Tryd.runUnderlying25 Tryd.sizeOf3 rfl rfl h26 ho27) fun a hF => ?_
            refine ls <| q1 hF rfl (e_ld hF Tryd.isAgg3 rfl ((St.ld hS).elO (.tail _ (.head _)) (hl30 0 _ rfl))) fun a hF => ?_
            refine ls <| c1 hF rfl Tryd.call48 (leadlineref01_Text_c _ (hp_le _) h32) ⟨rfl, trivial⟩ (fun v w a hR hF => ?_)
            obtain ⟨rfl, hk⟩ := hR
            replace hS := hS.pass hk
            clear hk
            refine ls <| q1 hF rfl (e_catU hF rfl rfl h34) fun a hF => ?_
            refine ls <| q1 hF rfl (e_catU hF rfl rfl h36) fun a hF => ?_
            refine ls <| q1 hF rfl (e_asg hF rfl) fun a hF => ?_
            refine re <| ?_
            refine bn <| tn <| ?_
            exact ⟨s35, hm, hF.has ⟨rfl, rfl, rfl, rfl, trivial⟩, hS⟩
          ·
            replace hm := ite_f hm hb24
            refine tn <| cfv hF rfl hb24 <| wp_skip <| ?_
            refine bn <| tn <| ?_
            exact ⟨vB1, hm, hF.has ⟨rfl, rfl, rfl, rfl, trivial⟩, hS⟩
        clear hm hF hS
        rintro a w ⟨vC1, hm, hF, hS⟩
        unfold leadlineref15_Show_j4 at hm
        refine rg <| ?_
        refine ls <| q1 hF rfl (e_move hF rfl) fun a hF => ?_
        refine ls <| q1 hF rfl (e_add hF rfl rfl) fun a hF => ?_
        refine ls <| q1 hF rfl (e_asg hF rfl) fun a hF => ?_
        refine re <| ?_
        refine tn <| ?_
        exact ⟨(nn3, vC1, (IntKind.i64.wrap (vB2 + 1))), ⟨hm, hF.has ⟨rfl, rfl, rfl, rfl, trivial⟩, hS⟩, Nat.lt_succ_self _⟩
      ·
        replace hm := itp_f hm hb21
        refine tn <| cfv hF rfl hb21 <| ?_
        refine wp_exit <| tx <| tx <| bx <| ?_
        refine tn <| ?_
        replace hS := hS.pickL .nil
        exact ⟨vB1, hm, hF.has ⟨rfl, trivial⟩, hS⟩
    clear hm hF hS
    rintro a w ⟨vA3, hm, hF, hS⟩
    unfold leadlineref15_Show_j2 at hm
    refine th <| ?_
    refine rg <| ?_
    refine ls <| q1 hF rfl (e_move hF rfl) fun a hF => ?_
    refine ls <| q1 hF rfl (e_asg hF rfl) fun a hF => ?_
    refine re <| ?_
    refine tn <| ?_
    refine wp_ret <| ?_
    obtain rfl := Option.some.inj hm
    exact r1 hF Tryd.results21 rfl ⟨rfl, hS.keep⟩

set_option maxRecDepth 100000 in
theorem leadlinelaw15_fixed_c {N : Nat} {w0 : World} {H : PH} (hH : H.le w0) (hT : Tab H)  {r : Bool} (hm : leadlinelaw15_fixed N  = some r) : Tot Tryd.prog 24 #[] w0 (fun v w' => v = .bool r ∧ Keep Nil w0 w') := by
  unfold leadlinelaw15_fixed at hm
  refine fn0 (args := []) (F := []) Tryd.func24 rfl Tryd.ntmps24 rfl rfl fun a hF => ?_
  have hS : St w0 Nil [H] [] w0 := start1 hH
  refine th <| ?_
  refine rg <| ?_
  refine ls <| q1 hF rfl (e_asg hF rfl) fun a hF => ?_
  refine re <| ?_
  refine tn <| th <| ?_
  refine rg <| ?_
  refine ls <| a_bsl (e := 3) (sz := 1) [.int .i64 0, .int .i64 0, .int .i64 1] hF rfl hS rfl rfl rfl (fun w => by kernel_rfl) fun b2 w a hS hF => ?_
  have hv1 : Rows (α := Int) H [.int .i64 0, .int .i64 0, .int .i64 1] ([0, 0, 1] : List Int) := (.cons (c := [.int .i64 0]) rfl (.cons (c := [.int .i64 0]) rfl (.cons (c := [.int .i64 1]) rfl .nil)))
  refine ls <| q1 hF rfl (e_asg hF rfl) fun a hF => ?_
  refine re <| ?_
  refine tn <| th <| ?_
  refine rg <| ?_
  refine ls <| q1 hF rfl (e_bldK [.int .i64 1, .int .i64 5] [.int .i64 1, .int .i64 0, .int .i64 0, .int .i64 5, .int .i64 0] hF ⟨rfl, rfl, trivial⟩ (fun w => by kernel_rfl)) fun a hF => ?_
  refine ls <| q1 hF rfl (e_bldK [.int .i64 1, .int .i64 1] [.int .i64 1, .int .i64 1, .int .i64 0, .int .i64 0, .int .i64 0] hF ⟨rfl, rfl, trivial⟩ (fun w => by kernel_rfl)) fun a hF => ?_
  refine ls <| a_alloc (cs := [.int .i64 0, .int .i64 0, .int .i64 0, .int .i64 0, .int .i64 0].toArray) hF rfl hS Tryd.zeroValue23 rfl fun b4 w a hS hF => ?_
  refine ls <| a_alloc (cs := [.int .i64 0, .int .i64 0, .int .i64 0, .int .i64 0, .int .i64 0].toArray) hF rfl hS Tryd.zeroValue23 rfl fun b5 w a hS hF => ?_
  refine ls <| s_blkA hF hS Tryd.sizeOf23 rfl rfl rfl rfl (one_cells rfl) (.tail .head) fun w hS => ?_
  refine ls <| s_blkA hF hS Tryd.sizeOf23 rfl rfl rfl rfl (one_cells rfl) .head fun w hS => ?_
  refine re <| ?_
  refine tn <| th <| ?_
  refine rg <| ?_
  refine ls <| q1 hF rfl (e_bldK [.int .i64 12, .int .i64 1] [.int .i64 12, .int .i64 1, .int .i64 0, .int .i64 0, .int .i64 0] hF ⟨rfl, rfl, trivial⟩ (fun w => by kernel_rfl)) fun a hF => ?_
  refine ls <| q1 hF rfl (e_bldK [.int .i64 13, .int .i64 2] [.int .i64 13, .int .i64 2, .int .i64 0, .int .i64 0, .int .i64 0] hF ⟨rfl, rfl, trivial⟩ (fun w => by kernel_rfl)) fun a hF => ?_
  refine ls <| a_alloc (cs := [.int .i64 0, .int .i64 0, .int .i64 0, .int .i64 0, .int .i64 0].toArray) hF rfl hS Tryd.zeroValue23 rfl fun b6 w a hS hF => ?_
  refine ls <| a_alloc (cs := [.int .i64 0, .int .i64 0, .int .i64 0, .int .i64 0, .int .i64 0].toArray) hF rfl hS Tryd.zeroValue23 rfl fun b7 w a hS hF => ?_
  refine ls <| s_blkA hF hS Tryd.sizeOf23 rfl rfl rfl rfl (one_cells rfl) (.tail .head) fun w hS => ?_
  refine ls <| s_blkA hF hS Tryd.sizeOf23 rfl rfl rfl rfl (one_cells rfl) .head fun w hS => ?_
  refine re <| ?_
  refine tn <| th <| ?_
  refine rg <| ?_
  refine ls <| q1 hF rfl (e_bldK [.int .i64 16, .int .i64 1, .int .i64 2] [.int .i64 16, .int .i64 1, .int .i64 2, .int .i64 0, .int .i64 0] hF ⟨rfl, rfl, rfl, trivial⟩ (fun w => by kernel_rfl)) fun a hF => ?_
  refine ls <| a_alloc (cs := [.int .i64 0, .int .i64 0, .int .i64 0, .int .i64 0, .int .i64 0].toArray) hF rfl hS Tryd.zeroValue23 rfl fun b8 w a hS hF => ?_
  refine ls <| s_blkA hF hS Tryd.sizeOf23 rfl rfl rfl rfl (one_cells rfl) .head fun w hS => ?_
  refine re <| ?_
  refine tn <| th <| ?_
  replace hm := bind_some hm
  obtain ⟨r9, h10, hm⟩ := hm
  replace hm := bind_some hm
  obtain ⟨_, hb11, hm⟩ := hm
  replace hb11 := sure_some hb11
  replace hm := bind_some hm
  obtain ⟨r12, h13, hm⟩ := hm
  replace hm := bind_some hm
  obtain ⟨_, hb14, hm⟩ := hm
  replace hb14 := sure_some hb14
  replace hm := bind_some hm
  obtain ⟨r15, h16, hm⟩ := hm
  replace hm := bind_some hm
  obtain ⟨_, hb17, hm⟩ := hm
  replace hb17 := sure_some hb17
  replace hm := bind_some hm
  obtain ⟨r18, h19, hm⟩ := hm
  replace hm := bind_some hm
  obtain ⟨_, hb20, hm⟩ := hm
  replace hb20 := sure_some hb20
  replace hm := bind_some hm
  obtain ⟨r21, h22, hm⟩ := hm
  replace hm := bind_some hm
  obtain ⟨_, hb23, hm⟩ := hm
  replace hb23 := sure_some hb23
  replace hm := bind_some hm
  obtain ⟨r24, h25, hm⟩ := hm
  replace hm := bind_some hm
  obtain ⟨_, hb26, hm⟩ := hm
  replace hb26 := sure_some hb26
  replace hm := bind_some hm
  obtain ⟨r27, h28, hm⟩ := hm
  replace hm := bind_some hm
  obtain ⟨r37, h38, hm⟩ := hm
  replace hm := bind_some hm
  obtain ⟨_, hb39, hm⟩ := hm
  replace hb39 := sure_some hb39
  replace hm := bind_some hm
  obtain ⟨r40, h41, hm⟩ := hm
  replace hm := bind_some hm
  obtain ⟨_, hb42, hm⟩ := hm
  replace hb42 := sure_some hb42
  replace hm := bind_some hm
  obtain ⟨r43, h44, hm⟩ := hm
  replace hm := bind_some hm
  obtain ⟨_, hb45, hm⟩ := hm
  replace hb45 := sure_some hb45
  replace hm := bind_some hm
  obtain ⟨r46, h47, hm⟩ := hm
  replace hm := bind_some hm
  obtain ⟨_, hb48, hm⟩ := hm
  replace hb48 := sure_some hb48
  replace hm := bind_some hm
  obtain ⟨r49, h50, hm⟩ := hm
  replace hm := bind_some hm
  obtain ⟨_, hb51, hm⟩ := hm
  replace hb51 := sure_some hb51
  replace hm := bind_some hm
  obtain ⟨r52, h53, hm⟩ := hm
  replace hm := bind_some hm
  obtain ⟨_, hb54, hm⟩ := hm
  replace hb54 := sure_some hb54
  replace hm := bind_some hm
  obtain ⟨r55, h56, hm⟩ := hm
  replace hm := bind_some hm
  obtain ⟨_, hb57, hm⟩ := hm
  replace hb57 := sure_some hb57
  replace hm := bind_some hm
  obtain ⟨r58, h59, hm⟩ := hm
  replace hm := bind_some hm
  obtain ⟨_, hb60, hm⟩ := hm
  replace hb60 := sure_some hb60
  replace hm := bind_some hm
  obtain ⟨r61, h62, hm⟩ := hm
  refine rg <| ?_
  refine ls <| q1 hF rfl (e_ldA hF Tryd.isAgg23 Tryd.sizeOf23 rfl rfl ((St.ld hS).cellsB (.tail _ (.tail _ (.tail _ (.tail _ (.head _))))))) fun a hF => ?_
  refine ls <| q1 hF rfl (e_ldA hF Tryd.isAgg23 Tryd.sizeOf23 rfl rfl ((St.ld hS).cellsB (.tail _ (.tail _ (.tail _ (.head _)))))) fun a hF => ?_
  refine ls <| q1 hF rfl (e_move hF rfl) fun a hF => ?_
  refine ls <| c1 hF rfl Tryd.call16 (event_Depend_c (hp_le _) (St.capO hS (.tail _ (.tail _ (.tail _ (.tail _ (.tail _ (.head _))))))) (St.srO hS (.tail _ (.tail _ (.tail _ (.tail _ (.tail _ (.head _)))))) hv1) h10) ⟨rfl, rfl, rfl, rfl, trivial⟩ (fun v w a hR hF => ?_)
  obtain ⟨rfl, hk⟩ := hR
  replace hS := hS.pass hk
  clear hk
  refine ls <| q1 hF rfl (e_not hF rfl) fun a hF => ?_
  refine ls <| q1 hF rfl (e_as (e_move hF rfl) (congrArg Value.bool hb11)) fun a hF => ?_
  refine ls <| gy hF rfl rfl <| q1 hF rfl (e_ldA hF Tryd.isAgg23 Tryd.sizeOf23 rfl rfl ((St.ld hS).cellsB (.tail _ (.tail _ (.tail _ (.tail _ (.head _))))))) fun a hF => ?_
  refine ls <| gy hF rfl rfl <| q1 hF rfl (e_ldA hF Tryd.isAgg23 Tryd.sizeOf23 rfl rfl ((St.ld hS).cellsB (.tail _ (.tail _ (.head _))))) fun a hF => ?_
  refine ls <| gy hF rfl rfl <| q1 hF rfl (e_move hF rfl) fun a hF => ?_
  refine ls <| gy hF rfl rfl <| c1 hF rfl Tryd.call16 (event_Depend_c (hp_le _) (St.capO hS (.tail _ (.tail _ (.tail _ (.tail _ (.tail _ (.head _))))))) (St.srO hS (.tail _ (.tail _ (.tail _ (.tail _ (.tail _ (.head _)))))) hv1) h13) ⟨rfl, rfl, rfl, rfl, trivial⟩ (fun v w a hR hF => ?_)
  obtain ⟨rfl, hk⟩ := hR
  replace hS := hS.pass hk
  clear hk
  refine ls <| q1 hF rfl (e_pickT hF rfl rfl) fun a hF => ?_
  refine ls <| q1 hF rfl (e_as (e_move hF rfl) (congrArg Value.bool hb14)) fun a hF => ?_
  refine ls <| gy hF rfl rfl <| q1 hF rfl (e_ldA hF Tryd.isAgg23 Tryd.sizeOf23 rfl rfl ((St.ld hS).cellsB (.tail _ (.tail _ (.head _))))) fun a hF => ?_
  refine ls <| gy hF rfl rfl <| q1 hF rfl (e_ldA hF Tryd.isAgg23 Tryd.sizeOf23 rfl rfl ((St.ld hS).cellsB (.tail _ (.head _)))) fun a hF => ?_
  refine ls <| gy hF rfl rfl <| q1 hF rfl (e_move hF rfl) fun a hF => ?_
  refine ls <| gy hF rfl rfl <| c1 hF rfl Tryd.call16 (event_Depend_c (hp_le _) (St.capO hS (.tail _ (.tail _ (.tail _ (.tail _ (.tail _ (.head _))))))) (St.srO hS (.tail _ (.tail _ (.tail _ (.tail _ (.tail _ (.head _)))))) hv1) h16) ⟨rfl, rfl, rfl, rfl, trivial⟩ (fun v w a hR hF => ?_)
  obtain ⟨rfl, hk⟩ := hR
  replace hS := hS.pass hk
  clear hk
  refine ls <| q1 hF rfl (e_pickT hF rfl rfl) fun a hF => ?_
  refine ls <| q1 hF rfl (e_as (e_move hF rfl) (congrArg Value.bool hb17)) fun a hF => ?_
  refine ls <| gy hF rfl rfl <| q1 hF rfl (e_ldA hF Tryd.isAgg23 Tryd.sizeOf23 rfl rfl ((St.ld hS).cellsB (.tail _ (.tail _ (.head _))))) fun a hF => ?_
  refine ls <| gy hF rfl rfl <| q1 hF rfl (e_ldA hF Tryd.isAgg23 Tryd.sizeOf23 rfl rfl ((St.ld hS).cellsB (.tail _ (.head _)))) fun a hF => ?_
  refine ls <| gy hF rfl rfl <| q1 hF rfl (e_move hF rfl) fun a hF => ?_
  refine ls <| gy hF rfl rfl <| c1 hF rfl Tryd.call16 (event_Depend_c (hp_le _) (St.capO hS (.tail _ (.tail _ (.tail _ (.tail _ (.tail _ (.head _))))))) (St.srO hS (.tail _ (.tail _ (.tail _ (.tail _ (.tail _ (.head _)))))) hv1) h19) ⟨rfl, rfl, rfl, rfl, trivial⟩ (fun v w a hR hF => ?_)
  obtain ⟨rfl, hk⟩ := hR
  replace hS := hS.pass hk
  clear hk
  refine ls <| gy hF rfl rfl <| q1 hF rfl (e_not hF rfl) fun a hF => ?_
  refine ls <| q1 hF rfl (e_pickT hF rfl rfl) fun a hF => ?_
  refine ls <| q1 hF rfl (e_as (e_move hF rfl) (congrArg Value.bool hb20)) fun a hF => ?_
  refine ls <| gy hF rfl rfl <| q1 hF rfl (e_ldA hF Tryd.isAgg23 Tryd.sizeOf23 rfl rfl ((St.ld hS).cellsB (.tail _ (.tail _ (.tail _ (.tail _ (.head _))))))) fun a hF => ?_
  refine ls <| gy hF rfl rfl <| q1 hF rfl (e_ldA hF Tryd.isAgg23 Tryd.sizeOf23 rfl rfl ((St.ld hS).cellsB (.tail _ (.head _)))) fun a hF => ?_
  refine ls <| gy hF rfl rfl <| q1 hF rfl (e_move hF rfl) fun a hF => ?_
  refine ls <| gy hF rfl rfl <| c1 hF rfl Tryd.call16 (event_Depend_c (hp_le _) (St.capO hS (.tail _ (.tail _ (.tail _ (.tail _ (.tail _ (.head _))))))) (St.srO hS (.tail _ (.tail _ (.tail _ (.tail _ (.tail _ (.head _)))))) hv1) h22) ⟨rfl, rfl, rfl, rfl, trivial⟩ (fun v w a hR hF => ?_)
  obtain ⟨rfl, hk⟩ := hR
  replace hS := hS.pass hk
  clear hk
  refine ls <| gy hF rfl rfl <| q1 hF rfl (e_not hF rfl) fun a hF => ?_
  refine ls <| q1 hF rfl (e_pickT hF rfl rfl) fun a hF => ?_
  refine ls <| q1 hF rfl (e_as (e_move hF rfl) (congrArg Value.bool hb23)) fun a hF => ?_
  refine ls <| gy hF rfl rfl <| q1 hF rfl (e_ldA hF Tryd.isAgg23 Tryd.sizeOf23 rfl rfl ((St.ld hS).cellsB (.tail _ (.tail _ (.tail _ (.tail _ (.head _))))))) fun a hF => ?_
  refine ls <| gy hF rfl rfl <| q1 hF rfl (e_ldA hF Tryd.isAgg23 Tryd.sizeOf23 rfl rfl ((St.ld hS).cellsB (.head _))) fun a hF => ?_
  refine ls <| gy hF rfl rfl <| q1 hF rfl (e_move hF rfl) fun a hF => ?_
  refine ls <| gy hF rfl rfl <| c1 hF rfl Tryd.call16 (event_Depend_c (hp_le _) (St.capO hS (.tail _ (.tail _ (.tail _ (.tail _ (.tail _ (.head _))))))) (St.srO hS (.tail _ (.tail _ (.tail _ (.tail _ (.tail _ (.head _)))))) hv1) h25) ⟨rfl, rfl, rfl, rfl, trivial⟩ (fun v w a hR hF => ?_)
  obtain ⟨rfl, hk⟩ := hR
  replace hS := hS.pass hk
  clear hk
  refine ls <| q1 hF rfl (e_pickT hF rfl rfl) fun a hF => ?_
  refine ls <| q1 hF rfl (e_as (e_move hF rfl) (congrArg Value.bool hb26)) fun a hF => ?_
  refine ls <| gy hF rfl rfl <| q1 hF rfl (e_ldA hF Tryd.isAgg23 Tryd.sizeOf23 rfl rfl ((St.ld hS).cellsB (.tail _ (.tail _ (.head _))))) fun a hF => ?_
  refine ls <| gy hF rfl rfl <| q1 hF rfl (e_move hF rfl) fun a hF => ?_
  refine ls <| gy hF rfl rfl <| c1 hF rfl Tryd.call14 (event_Uses_c (hp_le _) (St.capO hS (.tail _ (.tail _ (.tail _ (.tail _ (.tail _ (.head _))))))) (St.srO hS (.tail _ (.tail _ (.tail _ (.tail _ (.tail _ (.head _)))))) hv1) h28) ⟨rfl, rfl, rfl, trivial⟩ (fun v w a hR hF => ?_)
  obtain ⟨oa29, cap30, vs31, rfl, hv32, hk⟩ := hR
  replace hS := hS.fresh hk
  clear hk
  replace hv32 := hv32 H
  refine ls <| gy hF rfl rfl <| q1 hF rfl (e_bldK [.int .i64 1, .bool true] [.int .i64 1, .int .i64 0, .bool true] hF ⟨rfl, rfl, trivial⟩ (fun w => by kernel_rfl)) fun a hF => ?_
  refine ls <| gy hF rfl rfl <| q1 hF rfl (e_bldK [.int .i64 2, .bool true] [.int .i64 2, .int .i64 0, .bool true] hF ⟨rfl, rfl, trivial⟩ (fun w => by kernel_rfl)) fun a hF => ?_
  refine ls <| gy hF rfl rfl <| a_bsl (e := 27) (sz := 3) [.int .i64 1, .int .i64 0, .bool true, .int .i64 2, .int .i64 0, .bool true] hF rfl hS rfl rfl rfl (fun w => by kernel_rfl) fun b35 w a hS hF => ?_
  have hv34 : Rows (α := api_Use) H [.int .i64 1, .int .i64 0, .bool true, .int .i64 2, .int .i64 0, .bool true] ([(api_Use.mk 1 0 true), (api_Use.mk 2 0 true)] : List api_Use) := (.cons (c := [.int .i64 1, .int .i64 0, .bool true]) ⟨_, _, rfl, rfl, ⟨_, _, rfl, rfl, rfl⟩⟩ (.cons (c := [.int .i64 2, .int .i64 0, .bool true]) ⟨_, _, rfl, rfl, ⟨_, _, rfl, rfl, rfl⟩⟩ .nil))
  refine ls <| gy hF rfl rfl <| c1 hF rfl Tryd.call13 (leadlineref15_Same_c (hp_le _) (St.capO hS (.tail _ (.head _))) (St.srO hS (.tail _ (.head _)) hv32) (St.capO hS (.head _)) (St.srO hS (.head _) hv34) h38) ⟨rfl, rfl, trivial⟩ (fun v w a hR hF => ?_)
  obtain ⟨rfl, hk⟩ := hR
  replace hS := hS.pass hk
  clear hk
  refine ls <| q1 hF rfl (e_pickT hF rfl rfl) fun a hF => ?_
  refine ls <| q1 hF rfl (e_as (e_move hF rfl) (congrArg Value.bool hb39)) fun a hF => ?_
  refine ls <| gy hF rfl rfl <| q1 hF rfl (e_ldA hF Tryd.isAgg23 Tryd.sizeOf23 rfl rfl ((St.ld hS).cellsB (.tail _ (.tail _ (.tail _ (.tail _ (.tail _ (.tail _ (.head _))))))))) fun a hF => ?_
  refine ls <| gy hF rfl rfl <| c1 hF rfl Tryd.call20 (event_Show_c (hp_le _) (Tab.mono hT (St.up hS)) h41) ⟨rfl, trivial⟩ (fun v w a hR hF => ?_)
  obtain ⟨rfl, hk⟩ := hR
  replace hS := hS.pass hk
  clear hk
  refine ls <| gy hF rfl rfl <| q1 hF rfl (e_eqlU (m := r40) (n := [48, 32, 108, 111, 97, 100, 32, 48, 32, 53]) hF rfl rfl) fun a hF => ?_
  refine ls <| q1 hF rfl (e_pickT hF rfl rfl) fun a hF => ?_
  refine ls <| q1 hF rfl (e_as (e_move hF rfl) (congrArg Value.bool hb42)) fun a hF => ?_
  refine ls <| gy hF rfl rfl <| q1 hF rfl (e_ldA hF Tryd.isAgg23 Tryd.sizeOf23 rfl rfl ((St.ld hS).cellsB (.tail _ (.tail _ (.head _))))) fun a hF => ?_
  refine ls <| gy hF rfl rfl <| c1 hF rfl Tryd.call20 (event_Show_c (hp_le _) (Tab.mono hT (St.up hS)) h44) ⟨rfl, trivial⟩ (fun v w a hR hF => ?_)
  obtain ⟨rfl, hk⟩ := hR
  replace hS := hS.pass hk
  clear hk
  refine ls <| gy hF rfl rfl <| q1 hF rfl (e_eqlU (m := r43) (n := [49, 32, 102, 97, 117, 108, 116, 32, 50]) hF rfl rfl) fun a hF => ?_
  refine ls <| q1 hF rfl (e_pickT hF rfl rfl) fun a hF => ?_
  refine ls <| q1 hF rfl (e_as (e_move hF rfl) (congrArg Value.bool hb45)) fun a hF => ?_
  refine ls <| gy hF rfl rfl <| q1 hF rfl (e_bldK [] [.int .i64 0, .int .i64 0, .int .i64 0, .int .i64 0, .int .i64 0] hF trivial (fun w => by kernel_rfl)) fun a hF => ?_
  refine ls <| gy hF rfl rfl <| c1 hF rfl Tryd.call20 (event_Show_c (hp_le _) (Tab.mono hT (St.up hS)) h47) ⟨rfl, trivial⟩ (fun v w a hR hF => ?_)
  obtain ⟨rfl, hk⟩ := hR
  replace hS := hS.pass hk
  clear hk
  refine ls <| gy hF rfl rfl <| q1 hF rfl (e_eqlU (m := r46) (n := []) hF rfl rfl) fun a hF => ?_
  refine ls <| q1 hF rfl (e_pickT hF rfl rfl) fun a hF => ?_
  refine ls <| q1 hF rfl (e_as (e_move hF rfl) (congrArg Value.bool hb48)) fun a hF => ?_
  refine ls <| gy hF rfl rfl <| q1 hF rfl (e_ldA hF Tryd.isAgg23 Tryd.sizeOf23 rfl rfl ((St.ld hS).cellsB (.tail _ (.tail _ (.tail _ (.tail _ (.tail _ (.tail _ (.head _))))))))) fun a hF => ?_
  refine ls <| gy hF rfl rfl <| c1 hF rfl Tryd.call18 (event_Right_c (hp_le _) h50) ⟨rfl, trivial⟩ (fun v w a hR hF => ?_)
  obtain ⟨rfl, hk⟩ := hR
  replace hS := hS.pass hk
  clear hk
  refine ls <| q1 hF rfl (e_pickT hF rfl rfl) fun a hF => ?_
  refine ls <| q1 hF rfl (e_as (e_move hF rfl) (congrArg Value.bool hb51)) fun a hF => ?_
  refine ls <| gy hF rfl rfl <| q1 hF rfl (e_bldK [.int .i64 14, .int .i64 1] [.int .i64 14, .int .i64 0, .int .i64 1, .int .i64 0, .int .i64 0] hF ⟨rfl, rfl, trivial⟩ (fun w => by kernel_rfl)) fun a hF => ?_
  refine ls <| gy hF rfl rfl <| c1 hF rfl Tryd.call18 (event_Right_c (hp_le _) h53) ⟨rfl, trivial⟩ (fun v w a hR hF => ?_)
  obtain ⟨rfl, hk⟩ := hR
  replace hS := hS.pass hk
  clear hk
  refine ls <| gy hF rfl rfl <| q1 hF rfl (e_not hF rfl) fun a hF => ?_
  refine ls <| q1 hF rfl (e_pickT hF rfl rfl) fun a hF => ?_
  refine ls <| q1 hF rfl (e_as (e_move hF rfl) (congrArg Value.bool hb54)) fun a hF => ?_
  refine ls <| gy hF rfl rfl <| q1 hF rfl (e_bldK [.int .i64 4] [.int .i64 4, .int .i64 0, .bool false] hF ⟨rfl, trivial⟩ (fun w => by kernel_rfl)) fun a hF => ?_
  refine ls <| gy hF rfl rfl <| q1 hF rfl (e_bldK [] [.int .i64 0, .int .i64 0, .bool false] hF trivial (fun w => by kernel_rfl)) fun a hF => ?_
  refine ls <| gy hF rfl rfl <| c1 hF rfl Tryd.call22 (event_Clash_c (hp_le _) h56) ⟨rfl, rfl, trivial⟩ (fun v w a hR hF => ?_)
  obtain ⟨rfl, hk⟩ := hR
  replace hS := hS.pass hk
  clear hk
  refine ls <| q1 hF rfl (e_pickT hF rfl rfl) fun a hF => ?_
  refine ls <| q1 hF rfl (e_as (e_move hF rfl) (congrArg Value.bool hb57)) fun a hF => ?_
  refine ls <| gy hF rfl rfl <| q1 hF rfl (e_bldK [.int .i64 8, .int .i64 3] [.int .i64 8, .int .i64 0, .int .i64 0, .int .i64 0, .int .i64 3] hF ⟨rfl, rfl, trivial⟩ (fun w => by kernel_rfl)) fun a hF => ?_
  refine ls <| gy hF rfl rfl <| c1 hF rfl Tryd.call18 (event_Right_c (hp_le _) h59) ⟨rfl, trivial⟩ (fun v w a hR hF => ?_)
  obtain ⟨rfl, hk⟩ := hR
  replace hS := hS.pass hk
  clear hk
  refine ls <| q1 hF rfl (e_pickT hF rfl rfl) fun a hF => ?_
  refine ls <| q1 hF rfl (e_as (e_move hF rfl) (congrArg Value.bool hb60)) fun a hF => ?_
  refine ls <| gy hF rfl rfl <| q1 hF rfl (e_bldK [.int .i64 15, .int .i64 1] [.int .i64 15, .int .i64 1, .int .i64 0, .int .i64 0, .int .i64 0] hF ⟨rfl, rfl, trivial⟩ (fun w => by kernel_rfl)) fun a hF => ?_
  refine ls <| gy hF rfl rfl <| c1 hF rfl Tryd.call18 (event_Right_c (hp_le _) h62) ⟨rfl, trivial⟩ (fun v w a hR hF => ?_)
  obtain ⟨rfl, hk⟩ := hR
  replace hS := hS.pass hk
  clear hk
  refine ls <| gy hF rfl rfl <| q1 hF rfl (e_not hF rfl) fun a hF => ?_
  refine ls <| q1 hF rfl (e_pickT hF rfl rfl) fun a hF => ?_
  refine ls <| q1 hF rfl (e_asg hF rfl) fun a hF => ?_
  refine re <| ?_
  refine tn <| ?_
  refine wp_ret <| ?_
  obtain rfl := Option.some.inj hm
  exact r1 hF Tryd.results24 rfl ⟨rfl, hS.keep⟩
end Go.LM.ET
