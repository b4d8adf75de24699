/- Walks, lifted by program. No condition beyond each theorem's own premises. -/
import Derived.Test.YtimaeihmnipfgaaDoorETW3
namespace Go.LM.ET
open Go Go.LL Go.MD Go.LM Go.Proofs Go.MD.ET

set_option maxRecDepth 100000 in
theorem leadlineref15_has_c {N : Nat} {w0 : World} {H : PH} (hH : H.le w0) {p1 : Int} {p2 : Int} {r : Bool} (hm : leadlineref15_has N p1 p2 = some r) : Tot Tryd.prog 46 #[.int .i64 p1, .int .i64 p2] w0 (fun v w' => v = .bool r ∧ Keep Nil w0 w') := by
  unfold leadlineref15_has at hm
  refine fn0 (args := [.int .i64 p1, .int .i64 p2]) (F := [(0, .int .i64 p1), (1, .int .i64 p2)]) Tryd.func46 rfl Tryd.ntmps46 rfl rfl fun a hF => ?_
  have hS : St w0 Nil [H] [] w0 := start1 hH
  refine th <| ?_
  refine rg <| ?_
  refine ls <| q1 hF rfl (e_asg hF rfl) fun a hF => ?_
  refine re <| ?_
  refine tn <| th <| ?_
  replace hm := bind_some hm
  obtain ⟨x6, h7, hm⟩ := hm
  replace hm := bind_some hm
  obtain ⟨x11, h12, hm⟩ := hm
  refine rdS 8 hS wide fun w hS => ?_
  refine d1 (i := 1) rfl (by kernel_rfl) (by kernel_rfl) (St.ld hS) hF rfl (fun _ _ _ h => h) (fun w hl => (e_move hF rfl)) fun a hF => ?_
  refine d1 (i := 4) rfl (by kernel_rfl) (by kernel_rfl) (St.ld hS) hF rfl (fun _ _ _ h => h) (fun w hl => (e_move hF rfl)) fun a hF => ?_
  refine d1 (i := 5) rfl (by kernel_rfl) (by kernel_rfl) (St.ld hS) hF rfl (fun _ _ _ h => h) (fun w hl => (e_byte (s := [97, 110, 109]) hF Tryd.runUnderlying9 rfl rfl h12)) fun a hF => ?_
  refine da1 (i := 0) (by kernel_rfl) ?_
  refine di (i := 0) rfl <| a_bsl (e := 9) (sz := 1) [strv [], strv [97, 110], strv [97, 110], strv [97, 110], strv [97], strv [97], strv [], strv [], strv [97, 110, 109], strv [97, 110], strv [97], strv [97], strv [97, 110], strv [97], strv [], strv [110], strv [97]] hF rfl hS rfl rfl rfl (fun w => by kernel_rfl) fun b4 w a hS hF => ?_
  have hv3 : Rows (α := Str) H [strv [], strv [97, 110], strv [97, 110], strv [97, 110], strv [97], strv [97], strv [], strv [], strv [97, 110, 109], strv [97, 110], strv [97], strv [97], strv [97, 110], strv [97], strv [], strv [110], strv [97]] ([[], [97, 110], [97, 110], [97, 110], [97], [97], [], [], [97, 110, 109], [97, 110], [97], [97], [97, 110], [97], [], [110], [97]] : List Str) := (.cons (c := [strv []]) rfl (.cons (c := [strv [97, 110]]) rfl (.cons (c := [strv [97, 110]]) rfl (.cons (c := [strv [97, 110]]) rfl (.cons (c := [strv [97]]) rfl (.cons (c := [strv [97]]) rfl (.cons (c := [strv []]) rfl (.cons (c := [strv []]) rfl (.cons (c := [strv [97, 110, 109]]) rfl (.cons (c := [strv [97, 110]]) rfl (.cons (c := [strv [97]]) rfl (.cons (c := [strv [97]]) rfl (.cons (c := [strv [97, 110]]) rfl (.cons (c := [strv [97]]) rfl (.cons (c := [strv []]) rfl (.cons (c := [strv [110]]) rfl (.cons (c := [strv [97]]) rfl .nil)))))))))))))))))
  refine ⟨fun _ => (St.ldsX hS (fun _ _ h => h) sub_nil), ?_⟩
  refine da1 (i := 2) (by kernel_rfl) ?_
  refine di (i := 2) rfl <| q1 hF rfl (e_iaI hF Tryd.runUnderlying66 Tryd.sizeOf9 rfl rfl h7 (Rd.oaI ((St.ld hS).rdO (.head _)) hv3 (by decide) h7)) fun a hF => ?_
  refine ⟨fun _ => (St.ldsX hS (fun _ _ h => h) sub_nil), ?_⟩
  obtain ⟨c8, g9, hl10⟩ := Rows.getI hv3 h7
  obtain rfl : c8 = [strv x6] := g9
  refine da1 (i := 3) (by kernel_rfl) ?_
  refine di (i := 3) rfl <| q1 hF rfl (e_ld hF Tryd.isAgg9 rfl ((St.ld hS).elO (.head _) (hl10 0 _ rfl))) fun a hF => ?_
  refine ⟨fun _ => (St.ldsX hS (fun _ _ h => h) sub_nil), ?_⟩
  refine d1 (i := 6) rfl (by kernel_rfl) (by kernel_rfl) (St.ldsX hS (fun _ _ h => h) sub_nil) hF rfl (fun _ _ _ h => h) (fun w hl => (e_asg hF rfl)) fun a hF => ?_
  refine d1 (i := 7) rfl (by kernel_rfl) (by kernel_rfl) (St.ldsX hS (fun _ _ h => h) sub_nil) hF rfl (fun _ _ _ h => h) (fun w hl => (e_asg hF rfl)) fun a hF => ?_
  refine de (by kernel_rfl) <| ?_
  refine tn <| th <| th <| ?_
  refine rg <| ?_
  refine ls <| q1 hF rfl (e_asg hF rfl) fun a hF => ?_
  refine re <| ?_
  refine tn <| midK (fun a w => ∃ (HA1 : PH), leadlineref15_has_j1 = some r ∧ Ext w0 H HA1 ∧ Fr 25 [] a ∧ St w0 Nil [HA1] [] w) ?_ ?_
  ·
    replace hS := hS.pickL .nil
    refine wp_block <| lp (α := Nat × Int) (fun (gh : Nat × Int) a w => match gh with | (nn2, vB2) => ∃ (HB1 : PH), (leadlineref15_has_l2 N leadlineref15_has_j1 x6 x11) nn2 vB2 = some r ∧ Ext w0 H HB1 ∧ Fr 25 [(5, strv x6), (6, .int .u8 x11), (7, .int .i64 vB2)] a ∧ St w0 Nil [HB1] [] w) (fun gh => gh.1) (N, 0) ⟨H, hm, (Ext.refl _ _), hF.has ⟨rfl, rfl, rfl, trivial⟩, hS⟩ ?_
    clear hm hF hS
    rintro ⟨nn2, vB2⟩ a w ⟨HB1, hm, hxHB1, hF, hS⟩
    obtain _ | nn2 := nn2
    · simp [leadlineref15_has_l2] at hm
    rw [leadlineref15_has_l2] at hm
    refine th <| th <| ?_
    refine rg <| ?_
    refine ls <| q1 hF rfl (e_move hF rfl) fun a hF => ?_
    refine ls <| q1 hF rfl (e_move hF rfl) fun a hF => ?_
    refine ls <| q1 hF rfl (e_lenU (s := x6) hF Tryd.runUnderlying9 rfl) fun a hF => ?_
    refine ls <| q1 hF rfl (e_lss hF rfl rfl) fun a hF => ?_
    refine re <| ?_
    rcases bdich (decide (vB2 < (x6.length : Int))) with hb13 | hb13
    ·
      replace hm := itp_t hm hb13
      refine tn <| ctv hF rfl hb13 <| wp_skip <| ?_
      refine tn <| th <| wp_block <| th <| ?_
      replace hm := bind_some hm
      obtain ⟨x14, h15, hm⟩ := hm
      refine rg <| ?_
      refine ls <| q1 hF rfl (e_move hF rfl) fun a hF => ?_
      refine ls <| q1 hF rfl (e_move hF rfl) fun a hF => ?_
      refine ls <| q1 hF rfl (e_byte (s := x6) hF Tryd.runUnderlying9 rfl rfl h15) fun a hF => ?_
      refine ls <| q1 hF rfl (e_move hF rfl) fun a hF => ?_
      refine ls <| q1 hF rfl (e_eql hF rfl rfl) fun a hF => ?_
      refine re <| ?_
      rcases bdich (decide (x14 = x11)) with hb16 | hb16
      ·
        replace hm := itp_t hm hb16
        refine tn <| ctv hF rfl hb16 <| th <| ?_
        refine rg <| ?_
        refine ls <| q1 hF rfl (e_asg hF rfl) fun a hF => ?_
        refine re <| ?_
        refine tn <| ?_
        refine wp_ret <| br <| tr <| tr <| br <| tr <| ?_
        obtain rfl := Option.some.inj hm
        exact r1 hF Tryd.results46 rfl ⟨rfl, hS.keep⟩
      ·
        replace hm := itp_f hm hb16
        refine tn <| cfv hF rfl hb16 <| wp_skip <| ?_
        refine bn <| tn <| ?_
        refine rg <| ?_
        refine ls <| q1 hF rfl (e_move hF rfl) fun a hF => ?_
        refine ls <| q1 hF rfl (e_add hF rfl rfl) fun a hF => ?_
        refine ls <| q1 hF rfl (e_asg hF rfl) fun a hF => ?_
        refine re <| ?_
        refine tn <| ?_
        exact ⟨(nn2, (IntKind.i64.wrap (vB2 + 1))), ⟨HB1, hm, hxHB1, hF.has ⟨rfl, rfl, rfl, trivial⟩, hS⟩, Nat.lt_succ_self _⟩
    ·
      replace hm := itp_f hm hb13
      refine tn <| cfv hF rfl hb13 <| ?_
      refine wp_exit <| tx <| tx <| bx <| ?_
      refine tn <| ?_
      exact ⟨HB1, hm, hxHB1, hF.has trivial, hS⟩
  clear hm hF hS
  rintro a w ⟨HA1, hm, hxHA1, hF, hS⟩
  unfold leadlineref15_has_j1 at hm
  refine th <| ?_
  refine rg <| ?_
  refine ls <| q1 hF rfl (e_asg hF rfl) fun a hF => ?_
  refine re <| ?_
  refine tn <| ?_
  refine wp_ret <| ?_
  obtain rfl := Option.some.inj hm
  exact r1 hF Tryd.results46 rfl ⟨rfl, hS.keep⟩

set_option maxHeartbeats 4000000 in
set_option maxRecDepth 100000 in
theorem leadlineref15_Right_c {N : Nat} {w0 : World} {H : PH} (hH : H.le w0) {p1 : api_Event} {r : Bool} (hm : leadlineref15_Right N p1 = some r) : Tot Tryd.prog 19 #[.agg #[.int .i64 p1.Kind, .int .i64 p1.T, .int .i64 p1.A, .int .i64 p1.N, .int .i64 p1.M]] w0 (fun v w' => v = .bool r ∧ Keep Nil w0 w') := by
  unfold leadlineref15_Right at hm
  refine fn0 (args := [.agg #[.int .i64 p1.Kind, .int .i64 p1.T, .int .i64 p1.A, .int .i64 p1.N, .int .i64 p1.M]]) (F := [(0, .agg #[.int .i64 p1.Kind, .int .i64 p1.T, .int .i64 p1.A, .int .i64 p1.N, .int .i64 p1.M])]) Tryd.func19 rfl Tryd.ntmps19 rfl rfl fun a hF => ?_
  have hS : St w0 Nil [H] [] w0 := start1 hH
  refine th <| ?_
  refine rg <| ?_
  refine ls <| a_box (cs := [.int .i64 p1.Kind, .int .i64 p1.T, .int .i64 p1.A, .int .i64 p1.N, .int .i64 p1.M].toArray) hF rfl hS rfl rfl fun b2 w a hS hF => ?_
  refine ls <| q1 hF rfl (e_asg hF rfl) fun a hF => ?_
  refine re <| ?_
  refine tn <| th <| th <| ?_
  refine rg <| ?_
  refine ls <| q1 hF rfl (e_fa hF fa23_0 rfl) fun a hF => ?_
  refine ls <| q1 hF rfl (e_ld hF Tryd.isAgg3 rfl ((St.ld hS).cellB (.head _) rfl)) fun a hF => ?_
  refine ls <| q1 hF rfl (e_lss hF rfl rfl) fun a hF => ?_
  refine ls <| q1 hF rfl (e_move hF rfl) fun a hF => ?_
  refine grp (N := 59) (Fk := [(1, .pointer (some ⟨b2, 0, none⟩)), (10, .bool ((decide (p1.Kind < 1)) || (decide (16 < p1.Kind))))]) (b := (decide (p1.Kind < 1))) 4 hS ?_ ?_ ?_
  ·
    intro hb key
    replace hF := Fr.as hF (t := 6) rfl (congrArg Value.bool hb)
    refine ls <| gn hF rfl rfl rfl rfl fun a hF => ?_
    refine ls <| gn hF rfl rfl rfl rfl fun a hF => ?_
    refine ls <| gn hF rfl rfl rfl rfl fun a hF => ?_
    refine ls <| q1 hF rfl (e_as (v' := .bool ((decide (p1.Kind < 1)) || (decide (16 < p1.Kind)))) (e_pickT hF rfl rfl) (by rw [hb]; rfl)) fun a hF => ?_
    exact key _ _ (hF.has ⟨rfl, rfl, trivial⟩) hS
  ·
    intro hb key
    replace hF := Fr.as hF (t := 6) rfl (congrArg Value.bool hb)
    refine ls <| gy hF rfl rfl <| q1 hF rfl (e_fa hF fa23_0 rfl) fun a hF => ?_
    refine ls <| gy hF rfl rfl <| q1 hF rfl (e_ld hF Tryd.isAgg3 rfl ((St.ld hS).cellB (.head _) rfl)) fun a hF => ?_
    refine ls <| gy hF rfl rfl <| q1 hF rfl (e_gtr hF rfl rfl) fun a hF => ?_
    refine ls <| q1 hF rfl (e_as (v' := .bool ((decide (p1.Kind < 1)) || (decide (16 < p1.Kind)))) (e_pickF hF rfl rfl) (by rw [hb]; rfl)) fun a hF => ?_
    exact key _ _ (hF.has ⟨rfl, rfl, trivial⟩) hS
  intro a w hF hS
  refine ls <| q1 hF rfl (e_move hF rfl) fun a hF => ?_
  refine grp (N := 59) (Fk := [(1, .pointer (some ⟨b2, 0, none⟩)), (15, .bool (((decide (p1.Kind < 1)) || (decide (16 < p1.Kind))) || (decide (p1.T < 0))))]) (b := ((decide (p1.Kind < 1)) || (decide (16 < p1.Kind)))) 4 hS ?_ ?_ ?_
  ·
    intro hb key
    replace hF := Fr.as hF (t := 11) rfl (congrArg Value.bool hb)
    refine ls <| gn hF rfl rfl rfl rfl fun a hF => ?_
    refine ls <| gn hF rfl rfl rfl rfl fun a hF => ?_
    refine ls <| gn hF rfl rfl rfl rfl fun a hF => ?_
    refine ls <| q1 hF rfl (e_as (v' := .bool (((decide (p1.Kind < 1)) || (decide (16 < p1.Kind))) || (decide (p1.T < 0)))) (e_pickT hF rfl rfl) (by rw [hb]; rfl)) fun a hF => ?_
    exact key _ _ (hF.has ⟨rfl, rfl, trivial⟩) hS
  ·
    intro hb key
    replace hF := Fr.as hF (t := 11) rfl (congrArg Value.bool hb)
    refine ls <| gy hF rfl rfl <| q1 hF rfl (e_fa hF fa23_1 rfl) fun a hF => ?_
    refine ls <| gy hF rfl rfl <| q1 hF rfl (e_ld hF Tryd.isAgg3 rfl ((St.ld hS).cellB (.head _) rfl)) fun a hF => ?_
    refine ls <| gy hF rfl rfl <| q1 hF rfl (e_lss hF rfl rfl) fun a hF => ?_
    refine ls <| q1 hF rfl (e_as (v' := .bool (((decide (p1.Kind < 1)) || (decide (16 < p1.Kind))) || (decide (p1.T < 0)))) (e_pickF hF rfl rfl) (by rw [hb]; rfl)) fun a hF => ?_
    exact key _ _ (hF.has ⟨rfl, rfl, trivial⟩) hS
  intro a w hF hS
  refine ls <| q1 hF rfl (e_move hF rfl) fun a hF => ?_
  refine grp (N := 59) (Fk := [(1, .pointer (some ⟨b2, 0, none⟩)), (20, .bool ((((decide (p1.Kind < 1)) || (decide (16 < p1.Kind))) || (decide (p1.T < 0))) || (decide (p1.A < 0))))]) (b := (((decide (p1.Kind < 1)) || (decide (16 < p1.Kind))) || (decide (p1.T < 0)))) 4 hS ?_ ?_ ?_
  ·
    intro hb key
    replace hF := Fr.as hF (t := 16) rfl (congrArg Value.bool hb)
    refine ls <| gn hF rfl rfl rfl rfl fun a hF => ?_
    refine ls <| gn hF rfl rfl rfl rfl fun a hF => ?_
    refine ls <| gn hF rfl rfl rfl rfl fun a hF => ?_
    refine ls <| q1 hF rfl (e_as (v' := .bool ((((decide (p1.Kind < 1)) || (decide (16 < p1.Kind))) || (decide (p1.T < 0))) || (decide (p1.A < 0)))) (e_pickT hF rfl rfl) (by rw [hb]; rfl)) fun a hF => ?_
    exact key _ _ (hF.has ⟨rfl, rfl, trivial⟩) hS
  ·
    intro hb key
    replace hF := Fr.as hF (t := 16) rfl (congrArg Value.bool hb)
    refine ls <| gy hF rfl rfl <| q1 hF rfl (e_fa hF fa23_2 rfl) fun a hF => ?_
    refine ls <| gy hF rfl rfl <| q1 hF rfl (e_ld hF Tryd.isAgg3 rfl ((St.ld hS).cellB (.head _) rfl)) fun a hF => ?_
    refine ls <| gy hF rfl rfl <| q1 hF rfl (e_lss hF rfl rfl) fun a hF => ?_
    refine ls <| q1 hF rfl (e_as (v' := .bool ((((decide (p1.Kind < 1)) || (decide (16 < p1.Kind))) || (decide (p1.T < 0))) || (decide (p1.A < 0)))) (e_pickF hF rfl rfl) (by rw [hb]; rfl)) fun a hF => ?_
    exact key _ _ (hF.has ⟨rfl, rfl, trivial⟩) hS
  intro a w hF hS
  refine ls <| q1 hF rfl (e_move hF rfl) fun a hF => ?_
  refine grp (N := 59) (Fk := [(1, .pointer (some ⟨b2, 0, none⟩)), (30, .bool (((((decide (p1.Kind < 1)) || (decide (16 < p1.Kind))) || (decide (p1.T < 0))) || (decide (p1.A < 0))) || ((decide (p1.Kind = 15)) && (decide (p1.T ≠ 0)))))]) (b := ((((decide (p1.Kind < 1)) || (decide (16 < p1.Kind))) || (decide (p1.T < 0))) || (decide (p1.A < 0)))) 9 hS ?_ ?_ ?_
  ·
    intro hb key
    replace hF := Fr.as hF (t := 21) rfl (congrArg Value.bool hb)
    refine ls <| gn hF rfl rfl rfl rfl fun a hF => ?_
    refine ls <| gn hF rfl rfl rfl rfl fun a hF => ?_
    refine ls <| gn hF rfl rfl rfl rfl fun a hF => ?_
    refine ls <| gn hF rfl rfl rfl rfl fun a hF => ?_
    refine ls <| gnu hF rfl rfl rfl fun a hF => ?_
    refine ls <| gnu hF rfl rfl rfl fun a hF => ?_
    refine ls <| gnu hF rfl rfl rfl fun a hF => ?_
    refine ls <| gn hF rfl rfl rfl rfl fun a hF => ?_
    refine ls <| q1 hF rfl (e_as (v' := .bool (((((decide (p1.Kind < 1)) || (decide (16 < p1.Kind))) || (decide (p1.T < 0))) || (decide (p1.A < 0))) || ((decide (p1.Kind = 15)) && (decide (p1.T ≠ 0))))) (e_pickT hF rfl rfl) (by rw [hb]; rfl)) fun a hF => ?_
    exact key _ _ (hF.has ⟨rfl, rfl, trivial⟩) hS
  ·
    intro hb key
    replace hF := Fr.as hF (t := 21) rfl (congrArg Value.bool hb)
    refine ls <| gy hF rfl rfl <| q1 hF rfl (e_fa hF fa23_0 rfl) fun a hF => ?_
    refine ls <| gy hF rfl rfl <| q1 hF rfl (e_ld hF Tryd.isAgg3 rfl ((St.ld hS).cellB (.head _) rfl)) fun a hF => ?_
    refine ls <| gy hF rfl rfl <| q1 hF rfl (e_eql hF rfl rfl) fun a hF => ?_
    refine ls <| gy hF rfl rfl <| q1 hF rfl (e_move hF rfl) fun a hF => ?_
    refine grp (N := 59) (Fk := [(1, .pointer (some ⟨b2, 0, none⟩)), (21, .bool false), (29, .bool ((decide (p1.Kind = 15)) && (decide (p1.T ≠ 0))))]) (b := (decide (p1.Kind = 15))) 4 hS ?_ ?_ ?_
    ·
      intro hb key
      replace hF := Fr.as hF (t := 25) rfl (congrArg Value.bool hb)
      refine ls <| gy hF rfl rfl <| q1 hF rfl (e_fa hF fa23_1 rfl) fun a hF => ?_
      refine ls <| gy hF rfl rfl <| q1 hF rfl (e_ld hF Tryd.isAgg3 rfl ((St.ld hS).cellB (.head _) rfl)) fun a hF => ?_
      refine ls <| gy hF rfl rfl <| q1 hF rfl (e_neq hF rfl rfl) fun a hF => ?_
      refine ls <| gy hF rfl rfl <| q1 hF rfl (e_as (v' := .bool ((decide (p1.Kind = 15)) && (decide (p1.T ≠ 0)))) (e_pickT hF rfl rfl) (by rw [hb]; rfl)) fun a hF => ?_
      exact key _ _ (hF.has ⟨rfl, rfl, rfl, trivial⟩) hS
    ·
      intro hb key
      replace hF := Fr.as hF (t := 25) rfl (congrArg Value.bool hb)
      refine ls <| gn hF rfl rfl rfl rfl fun a hF => ?_
      refine ls <| gn hF rfl rfl rfl rfl fun a hF => ?_
      refine ls <| gn hF rfl rfl rfl rfl fun a hF => ?_
      refine ls <| gy hF rfl rfl <| q1 hF rfl (e_as (v' := .bool ((decide (p1.Kind = 15)) && (decide (p1.T ≠ 0)))) (e_pickF hF rfl rfl) (by rw [hb]; rfl)) fun a hF => ?_
      exact key _ _ (hF.has ⟨rfl, rfl, rfl, trivial⟩) hS
    intro a w hF hS
    refine ls <| q1 hF rfl (e_as (v' := .bool (((((decide (p1.Kind < 1)) || (decide (16 < p1.Kind))) || (decide (p1.T < 0))) || (decide (p1.A < 0))) || ((decide (p1.Kind = 15)) && (decide (p1.T ≠ 0))))) (e_pickF hF rfl rfl) (by rw [hb]; rfl)) fun a hF => ?_
    exact key _ _ (hF.has ⟨rfl, rfl, trivial⟩) hS
  intro a w hF hS
  refine re <| ?_
  rcases bdich (((((decide (p1.Kind < 1)) || (decide (16 < p1.Kind))) || (decide (p1.T < 0))) || (decide (p1.A < 0))) || ((decide (p1.Kind = 15)) && (decide (p1.T ≠ 0)))) with hb3 | hb3
  ·
    replace hm := ite_t hm hb3
    refine tn <| ctv hF rfl hb3 <| th <| ?_
    refine rg <| ?_
    refine ls <| q1 hF rfl (e_asg hF rfl) fun a hF => ?_
    refine re <| ?_
    refine tn <| ?_
    refine wp_ret <| tr <| ?_
    obtain rfl := Option.some.inj hm
    exact r1 hF Tryd.results19 rfl ⟨rfl, hS.keep⟩
  ·
    replace hm := ite_f hm hb3
    refine tn <| cfv hF rfl hb3 <| wp_skip <| ?_
    refine tn <| th <| ?_
    replace hm := bind_some hm
    obtain ⟨r4, h5, hm⟩ := hm
    rcases bdich (r4 || (decide (p1.A = 0))) with hb6 | hb6
    ·
      replace hm := ite_t hm hb6
      replace hm := bind_some hm
      obtain ⟨r7, h8, hm⟩ := hm
      rcases bdich (r7 || (decide (p1.N = 0))) with hb9 | hb9
      ·
        replace hm := ite_t hm hb9
        replace hm := bind_some hm
        obtain ⟨r10, h11, hm⟩ := hm
        refine rg <| ?_
        refine ls <| q1 hF rfl (e_fa hF fa23_0 rfl) fun a hF => ?_
        refine ls <| q1 hF rfl (e_ld hF Tryd.isAgg3 rfl ((St.ld hS).cellB (.head _) rfl)) fun a hF => ?_
        refine ls <| c1 hF rfl Tryd.call46 (leadlineref15_has_c (hp_le _) h5) ⟨rfl, rfl, trivial⟩ (fun v w a hR hF => ?_)
        obtain ⟨rfl, hk⟩ := hR
        replace hS := hS.pass hk
        clear hk
        refine ls <| q1 hF rfl (e_move hF rfl) fun a hF => ?_
        refine grp (N := 59) (Fk := [(1, .pointer (some ⟨b2, 0, none⟩)), (38, .bool (r4 || (decide (p1.A = 0))))]) (b := r4) 4 hS ?_ ?_ ?_
        ·
          intro hb key
          replace hF := Fr.as hF (t := 34) rfl (congrArg Value.bool hb)
          refine ls <| gn hF rfl rfl rfl rfl fun a hF => ?_
          refine ls <| gn hF rfl rfl rfl rfl fun a hF => ?_
          refine ls <| gn hF rfl rfl rfl rfl fun a hF => ?_
          refine ls <| q1 hF rfl (e_as (v' := .bool (r4 || (decide (p1.A = 0)))) (e_pickT hF rfl rfl) (by rw [hb]; rfl)) fun a hF => ?_
          exact key _ _ (hF.has ⟨rfl, rfl, trivial⟩) hS
        ·
          intro hb key
          replace hF := Fr.as hF (t := 34) rfl (congrArg Value.bool hb)
          refine ls <| gy hF rfl rfl <| q1 hF rfl (e_fa hF fa23_2 rfl) fun a hF => ?_
          refine ls <| gy hF rfl rfl <| q1 hF rfl (e_ld hF Tryd.isAgg3 rfl ((St.ld hS).cellB (.head _) rfl)) fun a hF => ?_
          refine ls <| gy hF rfl rfl <| q1 hF rfl (e_eql hF rfl rfl) fun a hF => ?_
          refine ls <| q1 hF rfl (e_as (v' := .bool (r4 || (decide (p1.A = 0)))) (e_pickF hF rfl rfl) (by rw [hb]; rfl)) fun a hF => ?_
          exact key _ _ (hF.has ⟨rfl, rfl, trivial⟩) hS
        intro a w hF hS
        refine ls <| q1 hF rfl (e_as (e_move hF rfl) (congrArg Value.bool hb6)) fun a hF => ?_
        refine ls <| gy hF rfl rfl <| q1 hF rfl (e_fa hF fa23_0 rfl) fun a hF => ?_
        refine ls <| gy hF rfl rfl <| q1 hF rfl (e_ld hF Tryd.isAgg3 rfl ((St.ld hS).cellB (.head _) rfl)) fun a hF => ?_
        refine ls <| gy hF rfl rfl <| c1 hF rfl Tryd.call46 (leadlineref15_has_c (hp_le _) h8) ⟨rfl, rfl, trivial⟩ (fun v w a hR hF => ?_)
        obtain ⟨rfl, hk⟩ := hR
        replace hS := hS.pass hk
        clear hk
        refine ls <| gy hF rfl rfl <| q1 hF rfl (e_move hF rfl) fun a hF => ?_
        refine grp (N := 59) (Fk := [(1, .pointer (some ⟨b2, 0, none⟩)), (39, .bool true), (47, .bool (r7 || (decide (p1.N = 0))))]) (b := r7) 4 hS ?_ ?_ ?_
        ·
          intro hb key
          replace hF := Fr.as hF (t := 43) rfl (congrArg Value.bool hb)
          refine ls <| gn hF rfl rfl rfl rfl fun a hF => ?_
          refine ls <| gn hF rfl rfl rfl rfl fun a hF => ?_
          refine ls <| gn hF rfl rfl rfl rfl fun a hF => ?_
          refine ls <| gy hF rfl rfl <| q1 hF rfl (e_as (v' := .bool (r7 || (decide (p1.N = 0)))) (e_pickT hF rfl rfl) (by rw [hb]; rfl)) fun a hF => ?_
          exact key _ _ (hF.has ⟨rfl, rfl, rfl, trivial⟩) hS
        ·
          intro hb key
          replace hF := Fr.as hF (t := 43) rfl (congrArg Value.bool hb)
          refine ls <| gy hF rfl rfl <| q1 hF rfl (e_fa hF fa23_3 rfl) fun a hF => ?_
          refine ls <| gy hF rfl rfl <| q1 hF rfl (e_ld hF Tryd.isAgg3 rfl ((St.ld hS).cellB (.head _) rfl)) fun a hF => ?_
          refine ls <| gy hF rfl rfl <| q1 hF rfl (e_eql hF rfl rfl) fun a hF => ?_
          refine ls <| gy hF rfl rfl <| q1 hF rfl (e_as (v' := .bool (r7 || (decide (p1.N = 0)))) (e_pickF hF rfl rfl) (by rw [hb]; rfl)) fun a hF => ?_
          exact key _ _ (hF.has ⟨rfl, rfl, rfl, trivial⟩) hS
        intro a w hF hS
        refine ls <| q1 hF rfl (e_pickT hF rfl rfl) fun a hF => ?_
        refine ls <| q1 hF rfl (e_as (e_move hF rfl) (congrArg Value.bool hb9)) fun a hF => ?_
        refine ls <| gy hF rfl rfl <| q1 hF rfl (e_fa hF fa23_0 rfl) fun a hF => ?_
        refine ls <| gy hF rfl rfl <| q1 hF rfl (e_ld hF Tryd.isAgg3 rfl ((St.ld hS).cellB (.head _) rfl)) fun a hF => ?_
        refine ls <| gy hF rfl rfl <| c1 hF rfl Tryd.call46 (leadlineref15_has_c (hp_le _) h11) ⟨rfl, rfl, trivial⟩ (fun v w a hR hF => ?_)
        obtain ⟨rfl, hk⟩ := hR
        replace hS := hS.pass hk
        clear hk
        refine ls <| gy hF rfl rfl <| q1 hF rfl (e_move hF rfl) fun a hF => ?_
        refine grp (N := 59) (Fk := [(49, .bool true), (57, .bool (r10 || (decide (p1.M = 0))))]) (b := r10) 4 hS ?_ ?_ ?_
        ·
          intro hb key
          replace hF := Fr.as hF (t := 53) rfl (congrArg Value.bool hb)
          refine ls <| gn hF rfl rfl rfl rfl fun a hF => ?_
          refine ls <| gn hF rfl rfl rfl rfl fun a hF => ?_
          refine ls <| gn hF rfl rfl rfl rfl fun a hF => ?_
          refine ls <| gy hF rfl rfl <| q1 hF rfl (e_as (v' := .bool (r10 || (decide (p1.M = 0)))) (e_pickT hF rfl rfl) (by rw [hb]; rfl)) fun a hF => ?_
          exact key _ _ (hF.has ⟨rfl, rfl, trivial⟩) hS
        ·
          intro hb key
          replace hF := Fr.as hF (t := 53) rfl (congrArg Value.bool hb)
          refine ls <| gy hF rfl rfl <| q1 hF rfl (e_fa hF fa23_4 rfl) fun a hF => ?_
          refine ls <| gy hF rfl rfl <| q1 hF rfl (e_ld hF Tryd.isAgg3 rfl ((St.ld hS).cellB (.head _) rfl)) fun a hF => ?_
          refine ls <| gy hF rfl rfl <| q1 hF rfl (e_eql hF rfl rfl) fun a hF => ?_
          refine ls <| gy hF rfl rfl <| q1 hF rfl (e_as (v' := .bool (r10 || (decide (p1.M = 0)))) (e_pickF hF rfl rfl) (by rw [hb]; rfl)) fun a hF => ?_
          exact key _ _ (hF.has ⟨rfl, rfl, trivial⟩) hS
        intro a w hF hS
        refine ls <| q1 hF rfl (e_pickT hF rfl rfl) fun a hF => ?_
        refine ls <| q1 hF rfl (e_asg hF rfl) fun a hF => ?_
        refine re <| ?_
        refine tn <| ?_
        refine wp_ret <| ?_
        obtain rfl := Option.some.inj hm
        exact r1 hF Tryd.results19 rfl ⟨rfl, hS.keep⟩
      ·
        replace hm := ite_f hm hb9
        refine rg <| ?_
        refine ls <| q1 hF rfl (e_fa hF fa23_0 rfl) fun a hF => ?_
        refine ls <| q1 hF rfl (e_ld hF Tryd.isAgg3 rfl ((St.ld hS).cellB (.head _) rfl)) fun a hF => ?_
        refine ls <| c1 hF rfl Tryd.call46 (leadlineref15_has_c (hp_le _) h5) ⟨rfl, rfl, trivial⟩ (fun v w a hR hF => ?_)
        obtain ⟨rfl, hk⟩ := hR
        replace hS := hS.pass hk
        clear hk
        refine ls <| q1 hF rfl (e_move hF rfl) fun a hF => ?_
        refine grp (N := 59) (Fk := [(1, .pointer (some ⟨b2, 0, none⟩)), (38, .bool (r4 || (decide (p1.A = 0))))]) (b := r4) 4 hS ?_ ?_ ?_
        ·
          intro hb key
          replace hF := Fr.as hF (t := 34) rfl (congrArg Value.bool hb)
          refine ls <| gn hF rfl rfl rfl rfl fun a hF => ?_
          refine ls <| gn hF rfl rfl rfl rfl fun a hF => ?_
          refine ls <| gn hF rfl rfl rfl rfl fun a hF => ?_
          refine ls <| q1 hF rfl (e_as (v' := .bool (r4 || (decide (p1.A = 0)))) (e_pickT hF rfl rfl) (by rw [hb]; rfl)) fun a hF => ?_
          exact key _ _ (hF.has ⟨rfl, rfl, trivial⟩) hS
        ·
          intro hb key
          replace hF := Fr.as hF (t := 34) rfl (congrArg Value.bool hb)
          refine ls <| gy hF rfl rfl <| q1 hF rfl (e_fa hF fa23_2 rfl) fun a hF => ?_
          refine ls <| gy hF rfl rfl <| q1 hF rfl (e_ld hF Tryd.isAgg3 rfl ((St.ld hS).cellB (.head _) rfl)) fun a hF => ?_
          refine ls <| gy hF rfl rfl <| q1 hF rfl (e_eql hF rfl rfl) fun a hF => ?_
          refine ls <| q1 hF rfl (e_as (v' := .bool (r4 || (decide (p1.A = 0)))) (e_pickF hF rfl rfl) (by rw [hb]; rfl)) fun a hF => ?_
          exact key _ _ (hF.has ⟨rfl, rfl, trivial⟩) hS
        intro a w hF hS
        refine ls <| q1 hF rfl (e_as (e_move hF rfl) (congrArg Value.bool hb6)) fun a hF => ?_
        refine ls <| gy hF rfl rfl <| q1 hF rfl (e_fa hF fa23_0 rfl) fun a hF => ?_
        refine ls <| gy hF rfl rfl <| q1 hF rfl (e_ld hF Tryd.isAgg3 rfl ((St.ld hS).cellB (.head _) rfl)) fun a hF => ?_
        refine ls <| gy hF rfl rfl <| c1 hF rfl Tryd.call46 (leadlineref15_has_c (hp_le _) h8) ⟨rfl, rfl, trivial⟩ (fun v w a hR hF => ?_)
        obtain ⟨rfl, hk⟩ := hR
        replace hS := hS.pass hk
        clear hk
        refine ls <| gy hF rfl rfl <| q1 hF rfl (e_move hF rfl) fun a hF => ?_
        refine grp (N := 59) (Fk := [(1, .pointer (some ⟨b2, 0, none⟩)), (39, .bool true), (47, .bool (r7 || (decide (p1.N = 0))))]) (b := r7) 4 hS ?_ ?_ ?_
        ·
          intro hb key
          replace hF := Fr.as hF (t := 43) rfl (congrArg Value.bool hb)
          refine ls <| gn hF rfl rfl rfl rfl fun a hF => ?_
          refine ls <| gn hF rfl rfl rfl rfl fun a hF => ?_
          refine ls <| gn hF rfl rfl rfl rfl fun a hF => ?_
          refine ls <| gy hF rfl rfl <| q1 hF rfl (e_as (v' := .bool (r7 || (decide (p1.N = 0)))) (e_pickT hF rfl rfl) (by rw [hb]; rfl)) fun a hF => ?_
          exact key _ _ (hF.has ⟨rfl, rfl, rfl, trivial⟩) hS
        ·
          intro hb key
          replace hF := Fr.as hF (t := 43) rfl (congrArg Value.bool hb)
          refine ls <| gy hF rfl rfl <| q1 hF rfl (e_fa hF fa23_3 rfl) fun a hF => ?_
          refine ls <| gy hF rfl rfl <| q1 hF rfl (e_ld hF Tryd.isAgg3 rfl ((St.ld hS).cellB (.head _) rfl)) fun a hF => ?_
          refine ls <| gy hF rfl rfl <| q1 hF rfl (e_eql hF rfl rfl) fun a hF => ?_
          refine ls <| gy hF rfl rfl <| q1 hF rfl (e_as (v' := .bool (r7 || (decide (p1.N = 0)))) (e_pickF hF rfl rfl) (by rw [hb]; rfl)) fun a hF => ?_
          exact key _ _ (hF.has ⟨rfl, rfl, rfl, trivial⟩) hS
        intro a w hF hS
        refine ls <| q1 hF rfl (e_pickT hF rfl rfl) fun a hF => ?_
        refine ls <| q1 hF rfl (e_as (e_move hF rfl) (congrArg Value.bool hb9)) fun a hF => ?_
        refine ls <| gn hF rfl rfl rfl rfl fun a hF => ?_
        refine ls <| gn hF rfl rfl rfl rfl fun a hF => ?_
        refine ls <| gn hF rfl rfl rfl rfl fun a hF => ?_
        refine ls <| gn hF rfl rfl rfl rfl fun a hF => ?_
        refine ls <| gnu hF rfl rfl rfl fun a hF => ?_
        refine ls <| gnu hF rfl rfl rfl fun a hF => ?_
        refine ls <| gnu hF rfl rfl rfl fun a hF => ?_
        refine ls <| gn hF rfl rfl rfl rfl fun a hF => ?_
        refine ls <| q1 hF rfl (e_pickF hF rfl rfl) fun a hF => ?_
        refine ls <| q1 hF rfl (e_asg hF rfl) fun a hF => ?_
        refine re <| ?_
        refine tn <| ?_
        refine wp_ret <| ?_
        obtain rfl := Option.some.inj hm
        exact r1 hF Tryd.results19 rfl ⟨rfl, hS.keep⟩
    ·
      replace hm := ite_f hm hb6
      refine rg <| ?_
      refine ls <| q1 hF rfl (e_fa hF fa23_0 rfl) fun a hF => ?_
      refine ls <| q1 hF rfl (e_ld hF Tryd.isAgg3 rfl ((St.ld hS).cellB (.head _) rfl)) fun a hF => ?_
      refine ls <| c1 hF rfl Tryd.call46 (leadlineref15_has_c (hp_le _) h5) ⟨rfl, rfl, trivial⟩ (fun v w a hR hF => ?_)
      obtain ⟨rfl, hk⟩ := hR
      replace hS := hS.pass hk
      clear hk
      refine ls <| q1 hF rfl (e_move hF rfl) fun a hF => ?_
      refine grp (N := 59) (Fk := [(1, .pointer (some ⟨b2, 0, none⟩)), (38, .bool (r4 || (decide (p1.A = 0))))]) (b := r4) 4 hS ?_ ?_ ?_
      ·
        intro hb key
        replace hF := Fr.as hF (t := 34) rfl (congrArg Value.bool hb)
        refine ls <| gn hF rfl rfl rfl rfl fun a hF => ?_
        refine ls <| gn hF rfl rfl rfl rfl fun a hF => ?_
        refine ls <| gn hF rfl rfl rfl rfl fun a hF => ?_
        refine ls <| q1 hF rfl (e_as (v' := .bool (r4 || (decide (p1.A = 0)))) (e_pickT hF rfl rfl) (by rw [hb]; rfl)) fun a hF => ?_
        exact key _ _ (hF.has ⟨rfl, rfl, trivial⟩) hS
      ·
        intro hb key
        replace hF := Fr.as hF (t := 34) rfl (congrArg Value.bool hb)
        refine ls <| gy hF rfl rfl <| q1 hF rfl (e_fa hF fa23_2 rfl) fun a hF => ?_
        refine ls <| gy hF rfl rfl <| q1 hF rfl (e_ld hF Tryd.isAgg3 rfl ((St.ld hS).cellB (.head _) rfl)) fun a hF => ?_
        refine ls <| gy hF rfl rfl <| q1 hF rfl (e_eql hF rfl rfl) fun a hF => ?_
        refine ls <| q1 hF rfl (e_as (v' := .bool (r4 || (decide (p1.A = 0)))) (e_pickF hF rfl rfl) (by rw [hb]; rfl)) fun a hF => ?_
        exact key _ _ (hF.has ⟨rfl, rfl, trivial⟩) hS
      intro a w hF hS
      refine ls <| q1 hF rfl (e_as (e_move hF rfl) (congrArg Value.bool hb6)) fun a hF => ?_
      refine ls <| gn hF rfl rfl rfl rfl fun a hF => ?_
      refine ls <| gn hF rfl rfl rfl rfl fun a hF => ?_
      refine ls <| gn hF rfl rfl rfl rfl fun a hF => ?_
      refine ls <| gn hF rfl rfl rfl rfl fun a hF => ?_
      refine ls <| gnu hF rfl rfl rfl fun a hF => ?_
      refine ls <| gnu hF rfl rfl rfl fun a hF => ?_
      refine ls <| gnu hF rfl rfl rfl fun a hF => ?_
      refine ls <| gn hF rfl rfl rfl rfl fun a hF => ?_
      refine ls <| q1 hF rfl (e_pickF hF rfl rfl) fun a hF => ?_
      refine ls <| q1 hF rfl (e_move hF rfl) fun a hF => ?_
      refine ls <| gn hF rfl rfl rfl rfl fun a hF => ?_
      refine ls <| gn hF rfl rfl rfl rfl fun a hF => ?_
      refine ls <| gn hF rfl rfl rfl rfl fun a hF => ?_
      refine ls <| gn hF rfl rfl rfl rfl fun a hF => ?_
      refine ls <| gnu hF rfl rfl rfl fun a hF => ?_
      refine ls <| gnu hF rfl rfl rfl fun a hF => ?_
      refine ls <| gnu hF rfl rfl rfl fun a hF => ?_
      refine ls <| gn hF rfl rfl rfl rfl fun a hF => ?_
      refine ls <| q1 hF rfl (e_pickF hF rfl rfl) fun a hF => ?_
      refine ls <| q1 hF rfl (e_asg hF rfl) fun a hF => ?_
      refine re <| ?_
      refine tn <| ?_
      refine wp_ret <| ?_
      obtain rfl := Option.some.inj hm
      exact r1 hF Tryd.results19 rfl ⟨rfl, hS.keep⟩

set_option maxRecDepth 100000 in
theorem words_Text_c {N : Nat} {w0 : World} {H : PH} (hH : H.le w0) (hT : Tab H) {p1 : Int} {r : Str} (hm : words_Text N p1 = some r) : Tot Tryd.prog 47 #[.int .i64 p1] w0 (fun v w' => v = strv r ∧ Keep Nil w0 w') := by
  unfold words_Text at hm
  refine fn0 (args := [.int .i64 p1]) (F := [(0, .int .i64 p1)]) Tryd.func47 rfl Tryd.ntmps47 rfl rfl fun a hF => ?_
  have hS : St w0 Nil [H] [] w0 := start1 hH
  refine th <| ?_
  refine rg <| ?_
  refine ls <| q1 hF rfl (e_asg hF rfl) fun a hF => ?_
  refine re <| ?_
  refine tn <| th <| ?_
  replace hm := bind_some hm
  obtain ⟨r2, h3, hm⟩ := hm
  refine rg <| ?_
  refine ls <| q1 hF rfl (e_move hF rfl) fun a hF => ?_
  refine ls <| c1 hF rfl Tryd.call60 (itoaM_c (hp_le _) (Tab.mono hT (St.up hS)) h3) ⟨rfl, trivial⟩ (fun v w a hR hF => ?_)
  obtain ⟨rfl, hk⟩ := hR
  replace hS := hS.pass hk
  clear hk
  refine ls <| q1 hF rfl (e_asg hF rfl) fun a hF => ?_
  refine re <| ?_
  refine tn <| ?_
  refine wp_ret <| ?_
  obtain rfl := Option.some.inj hm
  exact r1 hF Tryd.results47 rfl ⟨rfl, hS.keep⟩

set_option maxRecDepth 100000 in
theorem event_Show_c {N : Nat} {w0 : World} {H : PH} (hH : H.le w0) (hT : Tab H) {p1 : api_Event} {r : Str} (hm : event_Show N p1 = some r) : Tot Tryd.prog 20 #[.agg #[.int .i64 p1.Kind, .int .i64 p1.T, .int .i64 p1.A, .int .i64 p1.N, .int .i64 p1.M]] w0 (fun v w' => v = strv r ∧ Keep Nil w0 w') := by
  unfold event_Show at hm
  refine fn0 (args := [.agg #[.int .i64 p1.Kind, .int .i64 p1.T, .int .i64 p1.A, .int .i64 p1.N, .int .i64 p1.M]]) (F := [(0, .agg #[.int .i64 p1.Kind, .int .i64 p1.T, .int .i64 p1.A, .int .i64 p1.N, .int .i64 p1.M])]) Tryd.func20 rfl Tryd.ntmps20 rfl rfl fun a hF => ?_
  have hS : St w0 Nil [H] [] w0 := start1 hH
  refine th <| ?_
  refine rg <| ?_
  refine ls <| a_box (cs := [.int .i64 p1.Kind, .int .i64 p1.T, .int .i64 p1.A, .int .i64 p1.N, .int .i64 p1.M].toArray) hF rfl hS rfl rfl fun b2 w a hS hF => ?_
  refine ls <| q1 hF rfl (e_asg hF rfl) fun a hF => ?_
  refine re <| ?_
  refine tn <| th <| th <| ?_
  replace hm := bind_some hm
  obtain ⟨r3, h4, hm⟩ := hm
  refine rg <| ?_
  refine ls <| q1 hF rfl (e_fa hF fa23_0 rfl) fun a hF => ?_
  refine ls <| q1 hF rfl (e_ld hF Tryd.isAgg3 rfl ((St.ld hS).cellB (.head _) rfl)) fun a hF => ?_
  refine ls <| c1 hF rfl Tryd.call44 (event_known_c (hp_le _) h4) ⟨rfl, trivial⟩ (fun v w a hR hF => ?_)
  obtain ⟨rfl, hk⟩ := hR
  replace hS := hS.pass hk
  clear hk
  refine ls <| q1 hF rfl (e_not hF rfl) fun a hF => ?_
  refine re <| ?_
  rcases bdich r3 with hb5 | hb5
  ·
    replace hm := ite_t hm hb5
    refine tn <| cfv hF rfl (by rw [hb5]; rfl) <| wp_skip <| ?_
    refine tn <| th <| midK (fun a w => ∃ (vA3 : event_kind) (HA1 : PH) (bA2 : Nat), (event_Show_j1 N p1) vA3 = some r ∧ Ext w0 H HA1 ∧ Fr 53 [(1, .pointer (some ⟨b2, 0, none⟩)), (3, .pointer (some ⟨bA2, 0, none⟩))] a ∧ St w0 Nil [HA1] [blk b2 (.cells [.int .i64 p1.Kind, .int .i64 p1.T, .int .i64 p1.A, .int .i64 p1.N, .int .i64 p1.M].toArray 23 (0, 0)), blk bA2 (.cells [strv vA3.name, .bool vA3.a, .bool vA3.n, .bool vA3.m].toArray 59 (0, 0))] w) ?_ ?_
    ·
      replace hm := bind_some hm
      obtain ⟨r6, h7, hm⟩ := hm
      replace hm := bind_some hm
      obtain ⟨x14, h15, hm⟩ := hm
      refine rdS 5 hS wide fun w hS => ?_
      refine d1 (i := 1) rfl (by kernel_rfl) (by kernel_rfl) (St.ld hS) hF rfl (fun _ _ _ h => h) (fun w hl => (e_fa hF fa23_0 rfl)) fun a hF => ?_
      refine d1 (i := 2) rfl (by kernel_rfl) (by kernel_rfl) (St.ld hS) hF rfl (fun _ _ _ h => h) (fun w hl => (e_ld hF Tryd.isAgg3 rfl (hl.cellB (.head _) rfl))) fun a hF => ?_
      refine da2 (i := 0) (j := 4) (by kernel_rfl) ?_ ?_
      ·
        refine di (i := 0) rfl <| c1 hF rfl Tryd.call45 (event_kinds_c (St.le hS) h7) trivial (fun v w a hR hF => ?_)
        obtain ⟨H10, cs11, rfl, g12, hx8, hl9, hk⟩ := hR
        obtain ⟨hS, hx8⟩ := And.intro (St.passH hS hk hx8 hl9) (St.extc hS hx8)
        clear hk
        have hv13 : Rows H10 cs11 r6.l := g12
        refine ⟨fun _ => (St.ldsX hS hx8.sub (sub_cons (.head _) sub_nil)), ?_⟩
        obtain ⟨c16, g17, hl18⟩ := Rows.getI hv13 h15
        obtain rfl := event_kind_open g17
        refine d1 (i := 3) rfl (by kernel_rfl) (by kernel_rfl) (St.ldsX hS hx8.sub (sub_cons (.head _) sub_nil)) hF rfl (fun _ _ _ h => h) (fun w hl => (e_ixA hF Tryd.runUnderlying60 Tryd.sizeOf59 Tryd.isAgg59 rfl rfl r6.h h15 rfl hl18)) fun a hF => ?_
        refine da1 (i := 4) (by kernel_rfl) ?_
        refine di (i := 4) rfl <| a_alloc (cs := [strv [], .bool false, .bool false, .bool false].toArray) hF rfl hS Tryd.zeroValue59 rfl fun b19 w a hS hF => ?_
        refine ⟨fun _ => (St.ldsX hS hx8.sub (sub_cons (.tail _ (.head _)) sub_nil)), ?_⟩
        refine da1 (i := 5) (by kernel_rfl) ?_
        refine di (i := 5) rfl <| s_blkA hF hS Tryd.sizeOf59 rfl rfl rfl rfl (one_cells rfl) .head fun w hS => ?_
        refine ⟨fun h => absurd rfl h, ?_⟩
        refine de (by kernel_rfl) <| ?_
        refine tn <| ?_
        replace hS := hS.pickL (.cons (.tail .head) (.cons .head .nil))
        exact ⟨x14, H10, b19, hm, hx8, hF.has ⟨rfl, rfl, trivial⟩, hS⟩
      ·
        refine di (i := 4) rfl <| a_alloc (cs := [strv [], .bool false, .bool false, .bool false].toArray) hF rfl hS Tryd.zeroValue59 rfl fun b19 w a hS hF => ?_
        refine ⟨fun _ => (St.ldsX hS (fun _ _ h => h) (sub_cons (.tail _ (.head _)) sub_nil)), ?_⟩
        refine da1 (i := 0) (by kernel_rfl) ?_
        refine di (i := 0) rfl <| c1 hF rfl Tryd.call45 (event_kinds_c (St.le hS) h7) trivial (fun v w a hR hF => ?_)
        obtain ⟨H10, cs11, rfl, g12, hx8, hl9, hk⟩ := hR
        obtain ⟨hS, hx8⟩ := And.intro (St.passH hS hk hx8 hl9) (St.extc hS hx8)
        clear hk
        have hv13 : Rows H10 cs11 r6.l := g12
        refine ⟨fun _ => (St.ldsX hS hx8.sub (sub_cons (.tail _ (.head _)) sub_nil)), ?_⟩
        obtain ⟨c16, g17, hl18⟩ := Rows.getI hv13 h15
        obtain rfl := event_kind_open g17
        refine d1 (i := 3) rfl (by kernel_rfl) (by kernel_rfl) (St.ldsX hS hx8.sub (sub_cons (.tail _ (.head _)) sub_nil)) hF rfl (fun _ _ _ h => h) (fun w hl => (e_ixA hF Tryd.runUnderlying60 Tryd.sizeOf59 Tryd.isAgg59 rfl rfl r6.h h15 rfl hl18)) fun a hF => ?_
        refine da1 (i := 5) (by kernel_rfl) ?_
        refine di (i := 5) rfl <| s_blkA hF hS Tryd.sizeOf59 rfl rfl rfl rfl (one_cells rfl) .head fun w hS => ?_
        refine ⟨fun h => absurd rfl h, ?_⟩
        refine de (by kernel_rfl) <| ?_
        refine tn <| ?_
        replace hS := hS.pickL (.cons (.tail .head) (.cons .head .nil))
        exact ⟨x14, H10, b19, hm, hx8, hF.has ⟨rfl, rfl, trivial⟩, hS⟩
    clear hm hF hS
    rintro a w ⟨vA3, HA1, bA2, hm, hxHA1, hF, hS⟩
    unfold event_Show_j1 at hm
    refine th <| ?_
    replace hm := bind_some hm
    obtain ⟨r20, h21, hm⟩ := hm
    replace hm := bind_some hm
    obtain ⟨s22, h23, hm⟩ := hm
    replace hm := bind_some hm
    obtain ⟨s24, h25, hm⟩ := hm
    refine rdS 8 hS wide fun w hS => ?_
    refine d1 (i := 0) rfl (by kernel_rfl) (by kernel_rfl) (St.ld hS) hF rfl (fun _ _ _ h => h) (fun w hl => (e_fa hF fa23_1 rfl)) fun a hF => ?_
    refine d1 (i := 1) rfl (by kernel_rfl) (by kernel_rfl) (St.ld hS) hF rfl (fun _ _ _ h => h) (fun w hl => (e_ld hF Tryd.isAgg3 rfl (hl.cellB (.head _) rfl))) fun a hF => ?_
    refine d1 (i := 4) rfl (by kernel_rfl) (by kernel_rfl) (St.ld hS) hF rfl (fun _ _ _ h => h) (fun w hl => (e_fa hF fa59_0 rfl)) fun a hF => ?_
    refine d1 (i := 5) rfl (by kernel_rfl) (by kernel_rfl) (St.ld hS) hF rfl (fun _ _ _ h => h) (fun w hl => (e_ld hF Tryd.isAgg9 rfl (hl.cellB (.tail _ (.head _)) rfl))) fun a hF => ?_
    refine da1 (i := 2) (by kernel_rfl) ?_
    refine di (i := 2) rfl <| c1 hF rfl Tryd.call47 (words_Text_c (hp_le _) (Tab.mono (Tab.mono hT hxHA1.sub) (St.up hS)) h21) ⟨rfl, trivial⟩ (fun v w a hR hF => ?_)
    obtain ⟨rfl, hk⟩ := hR
    replace hS := hS.pass hk
    clear hk
    refine ⟨fun _ => (St.ld hS), ?_⟩
    refine d1 (i := 3) rfl (by kernel_rfl) (by kernel_rfl) (St.ld hS) hF rfl (fun _ _ _ h => h) (fun w hl => (e_catU hF rfl rfl h23)) fun a hF => ?_
    refine d1 (i := 6) rfl (by kernel_rfl) (by kernel_rfl) (St.ld hS) hF rfl (fun _ _ _ h => h) (fun w hl => (e_catU hF rfl rfl h25)) fun a hF => ?_
    refine d1 (i := 7) rfl (by kernel_rfl) (by kernel_rfl) (St.ld hS) hF rfl (fun _ _ _ h => h) (fun w hl => (e_asg hF rfl)) fun a hF => ?_
    refine de (by kernel_rfl) <| ?_
    refine tn <| th <| th <| ?_
    refine rg <| ?_
    refine ls <| q1 hF rfl (e_fa hF fa59_1 rfl) fun a hF => ?_
    refine ls <| q1 hF rfl (e_ld hF Tryd.isAgg4 rfl ((St.ld hS).cellB (.tail _ (.head _)) rfl)) fun a hF => ?_
    refine ls <| q1 hF rfl (e_fa hF fa23_2 rfl) fun a hF => ?_
    refine ls <| q1 hF rfl (e_ld hF Tryd.isAgg3 rfl ((St.ld hS).cellB (.head _) rfl)) fun a hF => ?_
    refine ls <| q1 hF rfl (e_bldK [.bool vA3.a, .int .i64 p1.A] [.bool vA3.a, .int .i64 p1.A] hF ⟨rfl, rfl, trivial⟩ (fun w => by kernel_rfl)) fun a hF => ?_
    refine ls <| q1 hF rfl (e_fa hF fa59_2 rfl) fun a hF => ?_
    refine ls <| q1 hF rfl (e_ld hF Tryd.isAgg4 rfl ((St.ld hS).cellB (.tail _ (.head _)) rfl)) fun a hF => ?_
    refine ls <| q1 hF rfl (e_fa hF fa23_3 rfl) fun a hF => ?_
    refine ls <| q1 hF rfl (e_ld hF Tryd.isAgg3 rfl ((St.ld hS).cellB (.head _) rfl)) fun a hF => ?_
    refine ls <| q1 hF rfl (e_bldK [.bool vA3.n, .int .i64 p1.N] [.bool vA3.n, .int .i64 p1.N] hF ⟨rfl, rfl, trivial⟩ (fun w => by kernel_rfl)) fun a hF => ?_
    refine ls <| q1 hF rfl (e_fa hF fa59_3 rfl) fun a hF => ?_
    refine ls <| q1 hF rfl (e_ld hF Tryd.isAgg4 rfl ((St.ld hS).cellB (.tail _ (.head _)) rfl)) fun a hF => ?_
    refine ls <| q1 hF rfl (e_fa hF fa23_4 rfl) fun a hF => ?_
    refine ls <| q1 hF rfl (e_ld hF Tryd.isAgg3 rfl ((St.ld hS).cellB (.head _) rfl)) fun a hF => ?_
    refine ls <| q1 hF rfl (e_bldK [.bool vA3.m, .int .i64 p1.M] [.bool vA3.m, .int .i64 p1.M] hF ⟨rfl, rfl, trivial⟩ (fun w => by kernel_rfl)) fun a hF => ?_
    refine ls <| a_bsl (e := 64) (sz := 2) [.bool vA3.a, .int .i64 p1.A, .bool vA3.n, .int .i64 p1.N, .bool vA3.m, .int .i64 p1.M] hF rfl hS rfl rfl rfl (fun w => by kernel_rfl) fun b27 w a hS hF => ?_
    have hv26 : Rows (α := S_is_n) HA1 [.bool vA3.a, .int .i64 p1.A, .bool vA3.n, .int .i64 p1.N, .bool vA3.m, .int .i64 p1.M] ([(S_is_n.mk vA3.a p1.A), (S_is_n.mk vA3.n p1.N), (S_is_n.mk vA3.m p1.M)] : List S_is_n) := (.cons (c := [.bool vA3.a, .int .i64 p1.A]) ⟨_, _, rfl, rfl, rfl⟩ (.cons (c := [.bool vA3.n, .int .i64 p1.N]) ⟨_, _, rfl, rfl, rfl⟩ (.cons (c := [.bool vA3.m, .int .i64 p1.M]) ⟨_, _, rfl, rfl, rfl⟩ .nil)))
    refine ls <| q1 hF rfl (e_lenL (α := S_is_n) (xs := ([(S_is_n.mk vA3.a p1.A), (S_is_n.mk vA3.n p1.N), (S_is_n.mk vA3.m p1.M)] : List S_is_n)) hF Tryd.runUnderlying65 rfl) fun a hF => ?_
    refine ls <| q1 hF rfl (e_move hF rfl) fun a hF => ?_
    refine re <| ?_
    refine tn <| midK (fun a w => ∃ (vA4 : Str), event_Show_j2 vA4 = some r ∧ Fr 53 [(4, strv vA4)] a ∧ St w0 Nil [HA1] [] w) ?_ ?_
    ·
      replace hS := hS.pickL (.cons .head .nil)
      refine wp_block <| lp (α := Nat × Str × Int) (fun (gh : Nat × Str × Int) a w => match gh with | (nn3, vB1, vB2) => (event_Show_l3 N event_Show_j2 p1 vA3) nn3 vB1 vB2 = some r ∧ Fr 53 [(4, strv vB1), (37, .slice (some ⟨b27, 0, none⟩) ([(S_is_n.mk vA3.a p1.A), (S_is_n.mk vA3.n p1.N), (S_is_n.mk vA3.m p1.M)] : List S_is_n).length 3), (38, .int .i64 (([(S_is_n.mk vA3.a p1.A), (S_is_n.mk vA3.n p1.N), (S_is_n.mk vA3.m p1.M)] : List S_is_n).length : Int)), (39, .int .i64 vB2)] a ∧ St w0 Nil [HA1] [sla 64 2 (some ⟨b27, 0, none⟩) ([(S_is_n.mk vA3.a p1.A), (S_is_n.mk vA3.n p1.N), (S_is_n.mk vA3.m p1.M)] : List S_is_n).length 3 [.bool vA3.a, .int .i64 p1.A, .bool vA3.n, .int .i64 p1.N, .bool vA3.m, .int .i64 p1.M]] w) (fun gh => gh.1) (N, s24, 0) ⟨hm, hF.has ⟨rfl, rfl, rfl, rfl, trivial⟩, hS⟩ ?_
      clear hm hF hS
      rintro ⟨nn3, vB1, vB2⟩ a w ⟨hm, hF, hS⟩
      obtain _ | nn3 := nn3
      · simp [event_Show_l3] at hm
      rw [event_Show_l3] at hm
      refine th <| ?_
      refine rg <| ?_
      refine ls <| q1 hF rfl (e_lss hF rfl rfl) fun a hF => ?_
      refine re <| ?_
      rcases bdich (decide (vB2 < (([(S_is_n.mk vA3.a p1.A), (S_is_n.mk vA3.n p1.N), (S_is_n.mk vA3.m p1.M)] : List S_is_n).length : Int))) with hb29 | hb29
      ·
        replace hm := itp_t hm hb29
        refine tn <| th <| ctv hF rfl hb29 <| wp_skip <| ?_
        refine tn <| th <| midK (fun a w => ∃ (vC1 : Str), (event_Show_j4 (event_Show_l3 N event_Show_j2 p1 vA3 nn3) vB2) vC1 = some r ∧ Fr 53 [(4, strv vC1), (37, .slice (some ⟨b27, 0, none⟩) ([(S_is_n.mk vA3.a p1.A), (S_is_n.mk vA3.n p1.N), (S_is_n.mk vA3.m p1.M)] : List S_is_n).length 3), (38, .int .i64 (([(S_is_n.mk vA3.a p1.A), (S_is_n.mk vA3.n p1.N), (S_is_n.mk vA3.m p1.M)] : List S_is_n).length : Int)), (39, .int .i64 vB2)] a ∧ St w0 Nil [HA1] [sla 64 2 (some ⟨b27, 0, none⟩) ([(S_is_n.mk vA3.a p1.A), (S_is_n.mk vA3.n p1.N), (S_is_n.mk vA3.m p1.M)] : List S_is_n).length 3 [.bool vA3.a, .int .i64 p1.A, .bool vA3.n, .int .i64 p1.N, .bool vA3.m, .int .i64 p1.M]] w) ?_ ?_
        ·
          refine wp_block <| th <| ?_
          replace hm := bind_some hm
          obtain ⟨x30, h31, hm⟩ := hm
          have ho32 := Rd.oaI (hS.rdO (.head _)) hv26 (by decide) h31
          obtain ⟨c33, g34, hl35⟩ := Rows.getI hv26 h31
          obtain rfl := S_is_n_open g34
          refine rg <| ?_
          refine ls <| q1 hF rfl (e_iaI hF Tryd.runUnderlying65 Tryd.sizeOf64 rfl rfl h31 ho32) fun a hF => ?_
          refine ls <| q1 hF rfl (e_ldA hF Tryd.isAgg64 Tryd.sizeOf64 rfl rfl ((St.ld hS).elsO (.head _) hl35)) fun a hF => ?_
          refine ls <| a_alloc (cs := [.bool false, .int .i64 0].toArray) hF rfl hS Tryd.zeroValue64 rfl fun b36 w a hS hF => ?_
          refine ls <| s_blkA hF hS Tryd.sizeOf64 rfl rfl rfl rfl (one_cells rfl) .head fun w hS => ?_
          refine re <| ?_
          refine tn <| th <| ?_
          refine rg <| ?_
          refine ls <| q1 hF rfl (e_fa hF fa64_0 rfl) fun a hF => ?_
          refine ls <| q1 hF rfl (e_ld hF Tryd.isAgg4 rfl ((St.ld hS).cellB (.head _) rfl)) fun a hF => ?_
          refine re <| ?_
          rcases bdich x30.is' with hb37 | hb37
          ·
            replace hm := ite_t hm hb37
            refine tn <| ctv hF rfl hb37 <| ?_
            replace hm := bind_some hm
            obtain ⟨r38, h39, hm⟩ := hm
            replace hm := bind_some hm
            obtain ⟨s40, h41, hm⟩ := hm
            replace hm := bind_some hm
            obtain ⟨s42, h43, hm⟩ := hm
            refine rg <| ?_
            refine ls <| q1 hF rfl (e_move hF rfl) fun a hF => ?_
            refine ls <| q1 hF rfl (e_fa hF fa64_1 rfl) fun a hF => ?_
            refine ls <| q1 hF rfl (e_ld hF Tryd.isAgg3 rfl ((St.ld hS).cellB (.head _) rfl)) fun a hF => ?_
            refine ls <| c1 hF rfl Tryd.call47 (words_Text_c (hp_le _) (Tab.mono (Tab.mono hT hxHA1.sub) (St.up hS)) h39) ⟨rfl, trivial⟩ (fun v w a hR hF => ?_)
            obtain ⟨rfl, hk⟩ := hR
            replace hS := hS.pass hk
            clear hk
            refine ls <| q1 hF rfl (e_catU hF rfl rfl h41) fun a hF => ?_
            refine ls <| q1 hF rfl (e_catU hF rfl rfl h43) fun a hF => ?_
            refine ls <| q1 hF rfl (e_asg hF rfl) fun a hF => ?_
            refine re <| ?_
            refine bn <| tn <| ?_
            replace hS := hS.pickL (.cons (.tail .head) .nil)
            exact ⟨s42, hm, hF.has ⟨rfl, rfl, rfl, rfl, trivial⟩, hS⟩
          ·
            replace hm := ite_f hm hb37
            refine tn <| cfv hF rfl hb37 <| wp_skip <| ?_
            refine bn <| tn <| ?_
            replace hS := hS.pickL (.cons (.tail .head) .nil)
            exact ⟨vB1, hm, hF.has ⟨rfl, rfl, rfl, rfl, trivial⟩, hS⟩
        clear hm hF hS
        rintro a w ⟨vC1, hm, hF, hS⟩
        unfold event_Show_j4 at hm
        refine rg <| ?_
        refine ls <| q1 hF rfl (e_add hF rfl rfl) fun a hF => ?_
        refine ls <| q1 hF rfl (e_move hF rfl) fun a hF => ?_
        refine re <| ?_
        refine tn <| ?_
        exact ⟨(nn3, vC1, (IntKind.i64.wrap (vB2 + 1))), ⟨hm, hF.has ⟨rfl, rfl, rfl, rfl, trivial⟩, hS⟩, Nat.lt_succ_self _⟩
      ·
        replace hm := itp_f hm hb29
        refine tn <| th <| cfv hF rfl hb29 <| ?_
        refine wp_exit <| tx <| tx <| bx <| ?_
        refine tn <| ?_
        replace hS := hS.pickL .nil
        exact ⟨vB1, hm, hF.has ⟨rfl, trivial⟩, hS⟩
    clear hm hF hS
    rintro a w ⟨vA4, hm, hF, hS⟩
    unfold event_Show_j2 at hm
    refine th <| ?_
    refine rg <| ?_
    refine ls <| q1 hF rfl (e_move hF rfl) fun a hF => ?_
    refine ls <| q1 hF rfl (e_asg hF rfl) fun a hF => ?_
    refine re <| ?_
    refine tn <| ?_
    refine wp_ret <| ?_
    obtain rfl := Option.some.inj hm
    exact r1 hF Tryd.results20 rfl ⟨rfl, hS.keep⟩
  ·
    replace hm := ite_f hm hb5
    refine tn <| ctv hF rfl (by rw [hb5]; rfl) <| th <| ?_
    refine rg <| ?_
    refine ls <| q1 hF rfl (e_asg hF rfl) fun a hF => ?_
    refine re <| ?_
    refine tn <| ?_
    refine wp_ret <| tr <| ?_
    obtain rfl := Option.some.inj hm
    exact r1 hF Tryd.results20 rfl ⟨rfl, hS.keep⟩

set_option maxRecDepth 100000 in
theorem leadlineref01_Text_c : ∀ (N : Nat) {w0 : World} {H : PH} (hH : H.le w0) {p1 : Int} {r : Str} (hm : leadlineref01_Text N p1 = some r), Tot Tryd.prog 48 #[.int .i64 p1] w0 (fun v w' => v = strv r ∧ Keep Nil w0 w') := by
  intro N
  induction N with
  | zero => intros; rename_i hm; simp [leadlineref01_Text] at hm
  | succ N ih =>
  intro w0 H hH p1 r hm
  rw [leadlineref01_Text] at hm
  refine fn0 (args := [.int .i64 p1]) (F := [(0, .int .i64 p1)]) Tryd.func48 rfl Tryd.ntmps48 rfl rfl fun a hF => ?_
  have hS : St w0 Nil [H] [] w0 := start1 hH
  refine th <| ?_
  refine rg <| ?_
  refine ls <| q1 hF rfl (e_asg hF rfl) fun a hF => ?_
  refine re <| ?_
  refine tn <| th <| th <| ?_
  refine rg <| ?_
  refine ls <| q1 hF rfl (e_move hF rfl) fun a hF => ?_
  refine ls <| q1 hF rfl (e_geq hF rfl rfl) fun a hF => ?_
  refine ls <| q1 hF rfl (e_move hF rfl) fun a hF => ?_
  refine grp (N := 40) (Fk := [(0, .int .i64 p1), (9, .bool ((decide (0 ≤ p1)) && (decide (p1 < 10))))]) (b := (decide (0 ≤ p1))) 3 hS ?_ ?_ ?_
  ·
    intro hb key
    replace hF := Fr.as hF (t := 6) rfl (congrArg Value.bool hb)
    refine ls <| gy hF rfl rfl <| q1 hF rfl (e_move hF rfl) fun a hF => ?_
    refine ls <| gy hF rfl rfl <| q1 hF rfl (e_lss hF rfl rfl) fun a hF => ?_
    refine ls <| q1 hF rfl (e_as (v' := .bool ((decide (0 ≤ p1)) && (decide (p1 < 10)))) (e_pickT hF rfl rfl) (by rw [hb]; rfl)) fun a hF => ?_
    exact key _ _ (hF.has ⟨rfl, rfl, trivial⟩) hS
  ·
    intro hb key
    replace hF := Fr.as hF (t := 6) rfl (congrArg Value.bool hb)
    refine ls <| gn hF rfl rfl rfl rfl fun a hF => ?_
    refine ls <| gn hF rfl rfl rfl rfl fun a hF => ?_
    refine ls <| q1 hF rfl (e_as (v' := .bool ((decide (0 ≤ p1)) && (decide (p1 < 10)))) (e_pickF hF rfl rfl) (by rw [hb]; rfl)) fun a hF => ?_
    exact key _ _ (hF.has ⟨rfl, rfl, trivial⟩) hS
  intro a w hF hS
  refine re <| ?_
  rcases bdich ((decide (0 ≤ p1)) && (decide (p1 < 10))) with hb2 | hb2
  ·
    replace hm := ite_t hm hb2
    refine tn <| ctv hF rfl hb2 <| th <| ?_
    refine rg <| ?_
    refine ls <| q1 hF rfl (e_move hF rfl) fun a hF => ?_
    refine ls <| q1 hF rfl (e_add hF rfl rfl) fun a hF => ?_
    refine ls <| q1 hF rfl (e_cvt hF Tryd.runUnderlying3 Tryd.runUnderlying5 rfl) fun a hF => ?_
    refine ls <| a_bsl (e := 5) (sz := 1) [.int .u8 (IntKind.u8.wrap (IntKind.i64.wrap (48 + p1)))] hF rfl hS rfl rfl rfl (fun w => by kernel_rfl) fun b4 w a hS hF => ?_
    have hv3 : Rows (α := (IntK .u8)) H [.int .u8 (IntKind.u8.wrap (IntKind.i64.wrap (48 + p1)))] ([(IntK.mk (IntKind.u8.wrap (IntKind.i64.wrap (48 + p1))))] : List (IntK .u8)) := (.cons (c := [.int .u8 (IntKind.u8.wrap (IntKind.i64.wrap (48 + p1)))]) rfl .nil)
    refine ls <| q1 hF rfl (e_b2s (xs := ([(IntK.mk (IntKind.u8.wrap (IntKind.i64.wrap (48 + p1))))] : List (IntK .u8))) hF Tryd.underlying72 Tryd.underlying5 Tryd.underlying9 rfl ((St.ld hS).rdO (.head _)) hv3) fun a hF => ?_
    refine ls <| q1 hF rfl (e_asg hF rfl) fun a hF => ?_
    refine re <| ?_
    refine tn <| ?_
    refine wp_ret <| tr <| ?_
    obtain rfl := Option.some.inj hm
    exact r1 hF Tryd.results48 rfl ⟨rfl, hS.keep⟩
  ·
    replace hm := ite_f hm hb2
    refine tn <| cfv hF rfl hb2 <| wp_skip <| ?_
    refine tn <| th <| th <| ?_
    refine rg <| ?_
    refine ls <| q1 hF rfl (e_move hF rfl) fun a hF => ?_
    refine ls <| q1 hF rfl (e_gtr hF rfl rfl) fun a hF => ?_
    refine re <| ?_
    rcases bdich (decide (0 < p1)) with hb6 | hb6
    ·
      replace hm := itp_t hm hb6
      refine tn <| ctv hF rfl hb6 <| th <| ?_
      replace hm := bind_some hm
      obtain ⟨r7, h8, hm⟩ := hm
      replace hm := bind_some hm
      obtain ⟨r9, h10, hm⟩ := hm
      replace hm := bind_some hm
      obtain ⟨s11, h12, hm⟩ := hm
      refine rg <| ?_
      refine ls <| q1 hF rfl (e_move hF rfl) fun a hF => ?_
      refine ls <| q1 hF rfl (e_quo hF rfl rfl (by decide)) fun a hF => ?_
      refine ls <| c1 hF rfl Tryd.call48 (ih (hp_le _) h8) ⟨rfl, trivial⟩ (fun v w a hR hF => ?_)
      obtain ⟨rfl, hk⟩ := hR
      replace hS := hS.pass hk
      clear hk
      refine ls <| q1 hF rfl (e_move hF rfl) fun a hF => ?_
      refine ls <| q1 hF rfl (e_rem hF rfl rfl (by decide)) fun a hF => ?_
      refine ls <| c1 hF rfl Tryd.call48 (ih (hp_le _) h10) ⟨rfl, trivial⟩ (fun v w a hR hF => ?_)
      obtain ⟨rfl, hk⟩ := hR
      replace hS := hS.pass hk
      clear hk
      refine ls <| q1 hF rfl (e_catU hF rfl rfl h12) fun a hF => ?_
      refine ls <| q1 hF rfl (e_asg hF rfl) fun a hF => ?_
      refine re <| ?_
      refine tn <| ?_
      refine wp_ret <| tr <| ?_
      obtain rfl := Option.some.inj hm
      exact r1 hF Tryd.results48 rfl ⟨rfl, hS.keep⟩
    ·
      replace hm := itp_f hm hb6
      refine tn <| cfv hF rfl hb6 <| wp_skip <| ?_
      refine tn <| th <| ?_
      refine rg <| ?_
      refine ls <| q1 hF rfl (e_move hF rfl) fun a hF => ?_
      refine ls <| q1 hF rfl (e_rem hF rfl rfl (by decide)) fun a hF => ?_
      refine ls <| q1 hF rfl (e_asg hF rfl) fun a hF => ?_
      refine re <| ?_
      refine tn <| th <| th <| ?_
      refine rg <| ?_
      refine ls <| q1 hF rfl (e_move hF rfl) fun a hF => ?_
      refine ls <| q1 hF rfl (e_quo hF rfl rfl (by decide)) fun a hF => ?_
      refine ls <| q1 hF rfl (e_eql hF rfl rfl) fun a hF => ?_
      refine re <| ?_
      rcases bdich (decide ((IntKind.i64.wrap (p1.tdiv 10)) = 0)) with hb13 | hb13
      ·
        replace hm := itp_t hm hb13
        refine tn <| ctv hF rfl hb13 <| th <| ?_
        replace hm := bind_some hm
        obtain ⟨r14, h15, hm⟩ := hm
        replace hm := bind_some hm
        obtain ⟨s16, h17, hm⟩ := hm
        refine rg <| ?_
        refine ls <| q1 hF rfl (e_move hF rfl) fun a hF => ?_
        refine ls <| q1 hF rfl (e_neg hF rfl) fun a hF => ?_
        refine ls <| c1 hF rfl Tryd.call48 (ih (hp_le _) h15) ⟨rfl, trivial⟩ (fun v w a hR hF => ?_)
        obtain ⟨rfl, hk⟩ := hR
        replace hS := hS.pass hk
        clear hk
        refine ls <| q1 hF rfl (e_catU hF rfl rfl h17) fun a hF => ?_
        refine ls <| q1 hF rfl (e_asg hF rfl) fun a hF => ?_
        refine re <| ?_
        refine tn <| ?_
        refine wp_ret <| tr <| ?_
        obtain rfl := Option.some.inj hm
        exact r1 hF Tryd.results48 rfl ⟨rfl, hS.keep⟩
      ·
        replace hm := itp_f hm hb13
        refine tn <| cfv hF rfl hb13 <| wp_skip <| ?_
        refine tn <| th <| ?_
        replace hm := bind_some hm
        obtain ⟨r18, h19, hm⟩ := hm
        replace hm := bind_some hm
        obtain ⟨r20, h21, hm⟩ := hm
        replace hm := bind_some hm
        obtain ⟨s22, h23, hm⟩ := hm
        refine rg <| ?_
        refine ls <| q1 hF rfl (e_move hF rfl) fun a hF => ?_
        refine ls <| q1 hF rfl (e_quo hF rfl rfl (by decide)) fun a hF => ?_
        refine ls <| c1 hF rfl Tryd.call48 (ih (hp_le _) h19) ⟨rfl, trivial⟩ (fun v w a hR hF => ?_)
        obtain ⟨rfl, hk⟩ := hR
        replace hS := hS.pass hk
        clear hk
        refine ls <| q1 hF rfl (e_move hF rfl) fun a hF => ?_
        refine ls <| q1 hF rfl (e_neg hF rfl) fun a hF => ?_
        refine ls <| c1 hF rfl Tryd.call48 (ih (hp_le _) h21) ⟨rfl, trivial⟩ (fun v w a hR hF => ?_)
        obtain ⟨rfl, hk⟩ := hR
        replace hS := hS.pass hk
        clear hk
        refine ls <| q1 hF rfl (e_catU hF rfl rfl h23) fun a hF => ?_
        refine ls <| q1 hF rfl (e_asg hF rfl) fun a hF => ?_
        refine re <| ?_
        refine tn <| ?_
        refine wp_ret <| ?_
        obtain rfl := Option.some.inj hm
        exact r1 hF Tryd.results48 rfl ⟨rfl, hS.keep⟩
end Go.LM.ET
