/- Walks, lifted by program. No condition beyond each theorem's own premises. -/
import Derived.Test.YtfpdddablkocoaaDoorCDB
namespace Go.LM.CODE
open Go Go.LL Go.MD Go.LM Go.Proofs Go.MD.CODE

set_option maxRecDepth 100000 in
theorem scan_letter_c {N : Nat} {w0 : World} {H : PH} (hH : H.le w0) {p1 : Int} {r : Bool} (hm : scan_letter N p1 = some r) : Tot Tryd.prog 84 #[.int .u8 p1] w0 (fun v w' => v = .bool r ∧ Keep Nil w0 w') := by
  unfold scan_letter at hm
  refine fn0 (args := [.int .u8 p1]) (F := [(0, .int .u8 p1)]) Tryd.func84 rfl Tryd.ntmps84 rfl rfl fun a hF => ?_
  have hS : St w0 Nil [H] [] w0 := start1 hH
  refine th <| ?_
  refine rg <| ?_
  refine ls <| q1 hF rfl (e_asg hF rfl) fun a hF => ?_
  refine re <| ?_
  refine tn <| th <| ?_
  refine rg <| ?_
  refine ls <| q1 hF rfl (e_move hF rfl) fun a hF => ?_
  refine ls <| q1 hF rfl (e_geq hF rfl rfl) fun a hF => ?_
  refine ls <| q1 hF rfl (e_move hF rfl) fun a hF => ?_
  refine grp (N := 13) (Fk := [(0, .int .u8 p1), (8, .bool ((decide (97 ≤ p1)) && (decide (p1 ≤ 122))))]) (b := (decide (97 ≤ p1))) 3 hS ?_ ?_ ?_
  ·
    intro hb key
    replace hF := Fr.as hF (t := 5) rfl (congrArg Value.bool hb)
    refine ls <| gy hF rfl rfl <| q1 hF rfl (e_move hF rfl) fun a hF => ?_
    refine ls <| gy hF rfl rfl <| q1 hF rfl (e_leq hF rfl rfl) fun a hF => ?_
    refine ls <| q1 hF rfl (e_as (v' := .bool ((decide (97 ≤ p1)) && (decide (p1 ≤ 122)))) (e_pickT hF rfl rfl) (by rw [hb]; rfl)) fun a hF => ?_
    exact key _ _ (hF.has ⟨rfl, rfl, trivial⟩) hS
  ·
    intro hb key
    replace hF := Fr.as hF (t := 5) rfl (congrArg Value.bool hb)
    refine ls <| gn hF rfl rfl rfl rfl fun a hF => ?_
    refine ls <| gn hF rfl rfl rfl rfl fun a hF => ?_
    refine ls <| q1 hF rfl (e_as (v' := .bool ((decide (97 ≤ p1)) && (decide (p1 ≤ 122)))) (e_pickF hF rfl rfl) (by rw [hb]; rfl)) fun a hF => ?_
    exact key _ _ (hF.has ⟨rfl, rfl, trivial⟩) hS
  intro a w hF hS
  refine ls <| q1 hF rfl (e_move hF rfl) fun a hF => ?_
  refine grp (N := 13) (Fk := [(12, .bool (((decide (97 ≤ p1)) && (decide (p1 ≤ 122))) || (decide (p1 = 95))))]) (b := ((decide (97 ≤ p1)) && (decide (p1 ≤ 122)))) 3 hS ?_ ?_ ?_
  ·
    intro hb key
    replace hF := Fr.as hF (t := 9) rfl (congrArg Value.bool hb)
    refine ls <| gn hF rfl rfl rfl rfl fun a hF => ?_
    refine ls <| gn hF rfl rfl rfl rfl fun a hF => ?_
    refine ls <| q1 hF rfl (e_as (v' := .bool (((decide (97 ≤ p1)) && (decide (p1 ≤ 122))) || (decide (p1 = 95)))) (e_pickT hF rfl rfl) (by rw [hb]; rfl)) fun a hF => ?_
    exact key _ _ (hF.has ⟨rfl, trivial⟩) hS
  ·
    intro hb key
    replace hF := Fr.as hF (t := 9) rfl (congrArg Value.bool hb)
    refine ls <| gy hF rfl rfl <| q1 hF rfl (e_move hF rfl) fun a hF => ?_
    refine ls <| gy hF rfl rfl <| q1 hF rfl (e_eql hF rfl rfl) fun a hF => ?_
    refine ls <| q1 hF rfl (e_as (v' := .bool (((decide (97 ≤ p1)) && (decide (p1 ≤ 122))) || (decide (p1 = 95)))) (e_pickF hF rfl rfl) (by rw [hb]; rfl)) fun a hF => ?_
    exact key _ _ (hF.has ⟨rfl, trivial⟩) hS
  intro a w hF hS
  refine ls <| q1 hF rfl (e_asg hF rfl) fun a hF => ?_
  refine re <| ?_
  refine tn <| ?_
  refine wp_ret <| ?_
  obtain rfl := Option.some.inj hm
  exact r1 hF Tryd.results84 rfl ⟨rfl, hS.keep⟩

set_option maxRecDepth 100000 in
theorem scan_kept_c {N : Nat} {w0 : World} {H : PH} (hH : H.le w0) (hT : Tab H)  {r : (List (Str × Bool))} (hm : scan_kept N  = some r) : Tot Tryd.prog 89 #[] w0 (fun v w' => ∃ (m0 : Nat) (l0 : List (Str × Value × Nat)) (c0 : Nat), v = .map (some m0) ∧ MRel Value.bool l0 r ∧ Fresh w0 (imap kS m0 l0 c0) w') := by
  unfold scan_kept at hm
  refine fn0 (args := []) (F := []) Tryd.func89 rfl Tryd.ntmps89 rfl rfl fun a hF => ?_
  have hS : St w0 Nil [H] [] w0 := start1 hH
  refine th <| ?_
  refine rg <| ?_
  refine ls <| q1 hF rfl (e_asg hF rfl) fun a hF => ?_
  refine re <| ?_
  refine tn <| th <| ?_
  refine rg <| ?_
  refine ls <| a_map hF rfl hS fun m1 w a hS hF => ?_
  replace hS : St w0 Nil [H] (imap kS m1 [] 0 :: _) w := hS
  have hm2 : MRel (κ := Str) (β := Bool) Value.bool [] [] := MRel.nil _
  refine ls <| q1 hF rfl (e_asg hF rfl) fun a hF => ?_
  refine re <| ?_
  refine tn <| th <| th <| ?_
  replace hm := bind_some hm
  obtain ⟨r3, h4, hm⟩ := hm
  refine rg <| ?_
  refine ls <| c1 hF rfl Tryd.call90 (splitM_c (hp_le _) (Tab.mono hT (St.up hS)) h4) ⟨rfl, rfl, trivial⟩ (fun v w a hR hF => ?_)
  obtain ⟨oa5, cap6, vs7, rfl, hv8, hk⟩ := hR
  replace hS := hS.fresh hk
  clear hk
  replace hv8 := hv8 H
  refine ls <| q1 hF rfl (e_lenL (α := Str) (xs := r3) hF Tryd.runUnderlying23 rfl) fun a hF => ?_
  refine ls <| q1 hF rfl (e_move hF rfl) fun a hF => ?_
  refine re <| ?_
  refine tn <| midK (fun a w => ∃ (vA2 : (List (Str × Bool))) (HA1 : PH) (lA3 : List (Str × Value × Nat)) (cA4 : Nat), scan_kept_j1 vA2 = some r ∧ Ext w0 H HA1 ∧ Fr 15 [(1, .map (some m1))] a ∧ St w0 Nil [HA1] [imap kS m1 lA3 cA4] w ∧ MRel Value.bool lA3 vA2) ?_ ?_
  ·
    replace hS := hS.pickL (.cons (.tail .head) (.cons .head .nil))
    refine wp_block <| lp (α := Nat × (List (Str × Bool)) × Int) (fun (gh : Nat × (List (Str × Bool)) × Int) a w => match gh with | (nn2, vB2, vB6) => ∃ (HB1 : PH) (lB3 : List (Str × Value × Nat)) (cB4 : Nat), (scan_kept_l2 N scan_kept_j1 r3) nn2 vB2 vB6 = some r ∧ Ext w0 H HB1 ∧ Fr 15 [(1, .map (some m1)), (5, .slice oa5 r3.length cap6), (6, .int .i64 (r3.length : Int)), (7, .int .i64 vB6)] a ∧ St w0 Nil [HB1] [imap kS m1 lB3 cB4, sla 9 1 oa5 r3.length cap6 vs7] w ∧ MRel Value.bool lB3 vB2) (fun gh => gh.1) (N, [], 0) ⟨H, [], 0, hm, (Ext.refl _ _), hF.has ⟨rfl, rfl, rfl, rfl, trivial⟩, hS, hm2⟩ ?_
    clear hm hF hS
    rintro ⟨nn2, vB2, vB6⟩ a w ⟨HB1, lB3, cB4, hm, hxHB1, hF, hS, hmB5⟩
    obtain _ | nn2 := nn2
    · simp [scan_kept_l2] at hm
    rw [scan_kept_l2] at hm
    refine th <| ?_
    refine rg <| ?_
    refine ls <| q1 hF rfl (e_lss hF rfl rfl) fun a hF => ?_
    refine re <| ?_
    rcases bdich (decide (vB6 < (r3.length : Int))) with hb10 | hb10
    ·
      replace hm := itp_t hm hb10
      refine tn <| th <| ctv hF rfl hb10 <| wp_skip <| ?_
      refine tn <| th <| wp_block <| th <| ?_
      replace hm := bind_some hm
      obtain ⟨x11, h12, hm⟩ := hm
      have ho13 := Rd.oaI (hS.rdO (.tail _ (.head _))) hv8 (by decide) h12
      obtain ⟨c14, g15, hl16⟩ := Rows.getI hv8 h12
      obtain rfl : c14 = [strv x11] := g15
      refine rg <| ?_
      refine ls <| q1 hF rfl (e_iaI hF Tryd.runUnderlying23 Tryd.sizeOf9 rfl rfl h12 ho13) fun a hF => ?_
      refine ls <| q1 hF rfl (e_ld hF Tryd.isAgg9 rfl ((St.ld hS).elO (.tail _ (.head _)) (hl16 0 _ rfl))) fun a hF => ?_
      refine ls <| q1 hF rfl (e_asg hF rfl) fun a hF => ?_
      refine re <| ?_
      refine tn <| ?_
      refine rg <| ?_
      refine ls <| q1 hF rfl (e_move hF rfl) fun a hF => ?_
      refine ls <| q1 hF rfl (e_move hF rfl) fun a hF => ?_
      refine ls <| m_put (ev := Value.bool) (m := vB2) (k := x11) (v := true) hF hS key9 Tryd.runUnderlying89 rfl rfl rfl (.head _) hmB5 fun l17 c18 w hm19 hU => ?_
      replace hS := hU _ .head
      clear hU
      refine re <| ?_
      refine bn <| tn <| ?_
      refine rg <| ?_
      refine ls <| q1 hF rfl (e_add hF rfl rfl) fun a hF => ?_
      refine ls <| q1 hF rfl (e_move hF rfl) fun a hF => ?_
      refine re <| ?_
      refine tn <| ?_
      exact ⟨(nn2, (pput x11 true vB2), (IntKind.i64.wrap (vB6 + 1))), ⟨HB1, l17, c18, hm, hxHB1, hF.has ⟨rfl, rfl, rfl, rfl, trivial⟩, hS, hm19⟩, Nat.lt_succ_self _⟩
    ·
      replace hm := itp_f hm hb10
      refine tn <| th <| cfv hF rfl hb10 <| ?_
      refine wp_exit <| tx <| tx <| bx <| ?_
      refine tn <| ?_
      replace hS := hS.pickL (.cons .head .nil)
      exact ⟨vB2, HB1, lB3, cB4, hm, hxHB1, hF.has ⟨rfl, trivial⟩, hS, hmB5⟩
  clear hm hF hS
  rintro a w ⟨vA2, HA1, lA3, cA4, hm, hxHA1, hF, hS, hmA5⟩
  unfold scan_kept_j1 at hm
  refine th <| ?_
  refine rg <| ?_
  refine ls <| q1 hF rfl (e_move hF rfl) fun a hF => ?_
  refine ls <| q1 hF rfl (e_asg hF rfl) fun a hF => ?_
  refine re <| ?_
  refine tn <| ?_
  refine wp_ret <| ?_
  obtain rfl := Option.some.inj hm
  exact r1 hF Tryd.results89 rfl ⟨m1, lA3, cA4, rfl, hmA5, hS.endFresh (.head _)⟩

set_option maxRecDepth 100000 in
theorem scan_Kept_c {N : Nat} {w0 : World} {H : PH} (hH : H.le w0) (hT : Tab H) {p1 : Str} {r : Bool} (hm : scan_Kept N p1 = some r) : Tot Tryd.prog 85 #[strv p1] w0 (fun v w' => v = .bool r ∧ Keep Nil w0 w') := by
  unfold scan_Kept at hm
  refine fn0 (args := [strv p1]) (F := [(0, strv p1)]) Tryd.func85 rfl Tryd.ntmps85 rfl rfl fun a hF => ?_
  have hS : St w0 Nil [H] [] w0 := start1 hH
  refine th <| ?_
  refine rg <| ?_
  refine ls <| q1 hF rfl (e_asg hF rfl) fun a hF => ?_
  refine re <| ?_
  refine tn <| th <| ?_
  replace hm := bind_some hm
  obtain ⟨r2, h3, hm⟩ := hm
  refine rg <| ?_
  refine ls <| c1 hF rfl Tryd.call89 (scan_kept_c (hp_le _) (Tab.mono hT (St.up hS)) h3) trivial (fun v w a hR hF => ?_)
  obtain ⟨m4, l5, c6, rfl, hm7, hk⟩ := hR
  replace hS := hS.fresh hk
  clear hk
  refine ls <| q1 hF rfl (e_move hF rfl) fun a hF => ?_
  refine ls <| q1 hF rfl (e_lookM (ev := Value.bool) (dv := false) (m := r2) (k := p1) hF key9 Tryd.runUnderlying89 Tryd.zeroValue4 (Lds.mapO (St.ld hS) (.head _)) rfl rfl hm7) fun a hF => ?_
  refine ls <| q1 hF rfl (e_asg hF rfl) fun a hF => ?_
  refine re <| ?_
  refine tn <| ?_
  refine wp_ret <| ?_
  obtain rfl := Option.some.inj hm
  exact r1 hF Tryd.results85 rfl ⟨rfl, hS.keep⟩

set_option maxRecDepth 100000 in
theorem scan_digit_c {N : Nat} {w0 : World} {H : PH} (hH : H.le w0) {p1 : Int} {r : Bool} (hm : scan_digit N p1 = some r) : Tot Tryd.prog 88 #[.int .u8 p1] w0 (fun v w' => v = .bool r ∧ Keep Nil w0 w') := by
  unfold scan_digit at hm
  refine fn0 (args := [.int .u8 p1]) (F := [(0, .int .u8 p1)]) Tryd.func88 rfl Tryd.ntmps88 rfl rfl fun a hF => ?_
  have hS : St w0 Nil [H] [] w0 := start1 hH
  refine th <| ?_
  refine rg <| ?_
  refine ls <| q1 hF rfl (e_asg hF rfl) fun a hF => ?_
  refine re <| ?_
  refine tn <| th <| ?_
  refine rg <| ?_
  refine ls <| q1 hF rfl (e_move hF rfl) fun a hF => ?_
  refine ls <| q1 hF rfl (e_geq hF rfl rfl) fun a hF => ?_
  refine ls <| q1 hF rfl (e_move hF rfl) fun a hF => ?_
  refine grp (N := 9) (Fk := [(8, .bool ((decide (48 ≤ p1)) && (decide (p1 ≤ 57))))]) (b := (decide (48 ≤ p1))) 3 hS ?_ ?_ ?_
  ·
    intro hb key
    replace hF := Fr.as hF (t := 5) rfl (congrArg Value.bool hb)
    refine ls <| gy hF rfl rfl <| q1 hF rfl (e_move hF rfl) fun a hF => ?_
    refine ls <| gy hF rfl rfl <| q1 hF rfl (e_leq hF rfl rfl) fun a hF => ?_
    refine ls <| q1 hF rfl (e_as (v' := .bool ((decide (48 ≤ p1)) && (decide (p1 ≤ 57)))) (e_pickT hF rfl rfl) (by rw [hb]; rfl)) fun a hF => ?_
    exact key _ _ (hF.has ⟨rfl, trivial⟩) hS
  ·
    intro hb key
    replace hF := Fr.as hF (t := 5) rfl (congrArg Value.bool hb)
    refine ls <| gn hF rfl rfl rfl rfl fun a hF => ?_
    refine ls <| gn hF rfl rfl rfl rfl fun a hF => ?_
    refine ls <| q1 hF rfl (e_as (v' := .bool ((decide (48 ≤ p1)) && (decide (p1 ≤ 57)))) (e_pickF hF rfl rfl) (by rw [hb]; rfl)) fun a hF => ?_
    exact key _ _ (hF.has ⟨rfl, trivial⟩) hS
  intro a w hF hS
  refine ls <| q1 hF rfl (e_asg hF rfl) fun a hF => ?_
  refine re <| ?_
  refine tn <| ?_
  refine wp_ret <| ?_
  obtain rfl := Option.some.inj hm
  exact r1 hF Tryd.results88 rfl ⟨rfl, hS.keep⟩

set_option maxRecDepth 100000 in
theorem scan_Name_1_c {N : Nat} {w0 : World} {H : PH} (hH : H.le w0) {p1 : Int} {r : Bool} (hm : scan_Name_1 N p1 = some r) : Tot Tryd.prog 87 #[.int .u8 p1] w0 (fun v w' => v = .bool r ∧ Keep Nil w0 w') := by
  unfold scan_Name_1 at hm
  refine fn0 (args := [.int .u8 p1]) (F := [(0, .int .u8 p1)]) Tryd.func87 rfl Tryd.ntmps87 rfl rfl fun a hF => ?_
  have hS : St w0 Nil [H] [] w0 := start1 hH
  refine th <| ?_
  refine rg <| ?_
  refine ls <| q1 hF rfl (e_asg hF rfl) fun a hF => ?_
  refine re <| ?_
  refine tn <| th <| ?_
  replace hm := bind_some hm
  obtain ⟨r2, h3, hm⟩ := hm
  rcases bdich r2 with hb4 | hb4
  ·
    replace hm := ite_t hm hb4
    refine rg <| ?_
    refine ls <| q1 hF rfl (e_move hF rfl) fun a hF => ?_
    refine ls <| c1 hF rfl Tryd.call84 (scan_letter_c (hp_le _) h3) ⟨rfl, trivial⟩ (fun v w a hR hF => ?_)
    obtain ⟨rfl, hk⟩ := hR
    replace hS := hS.pass hk
    clear hk
    refine ls <| q1 hF rfl (e_as (e_move hF rfl) (congrArg Value.bool hb4)) fun a hF => ?_
    refine ls <| gn hF rfl rfl rfl rfl fun a hF => ?_
    refine ls <| gn hF rfl rfl rfl rfl fun a hF => ?_
    refine ls <| q1 hF rfl (e_pickT hF rfl rfl) fun a hF => ?_
    refine ls <| q1 hF rfl (e_asg hF rfl) fun a hF => ?_
    refine re <| ?_
    refine tn <| ?_
    refine wp_ret <| ?_
    obtain rfl := Option.some.inj hm
    exact r1 hF Tryd.results87 rfl ⟨rfl, hS.keep⟩
  ·
    replace hm := ite_f hm hb4
    replace hm := bind_some hm
    obtain ⟨r5, h6, hm⟩ := hm
    refine rg <| ?_
    refine ls <| q1 hF rfl (e_move hF rfl) fun a hF => ?_
    refine ls <| c1 hF rfl Tryd.call84 (scan_letter_c (hp_le _) h3) ⟨rfl, trivial⟩ (fun v w a hR hF => ?_)
    obtain ⟨rfl, hk⟩ := hR
    replace hS := hS.pass hk
    clear hk
    refine ls <| q1 hF rfl (e_as (e_move hF rfl) (congrArg Value.bool hb4)) fun a hF => ?_
    refine ls <| gy hF rfl rfl <| q1 hF rfl (e_move hF rfl) fun a hF => ?_
    refine ls <| gy hF rfl rfl <| c1 hF rfl Tryd.call88 (scan_digit_c (hp_le _) h6) ⟨rfl, trivial⟩ (fun v w a hR hF => ?_)
    obtain ⟨rfl, hk⟩ := hR
    replace hS := hS.pass hk
    clear hk
    refine ls <| q1 hF rfl (e_pickF hF rfl rfl) fun a hF => ?_
    refine ls <| q1 hF rfl (e_asg hF rfl) fun a hF => ?_
    refine re <| ?_
    refine tn <| ?_
    refine wp_ret <| ?_
    obtain rfl := Option.some.inj hm
    exact r1 hF Tryd.results87 rfl ⟨rfl, hS.keep⟩

set_option maxRecDepth 100000 in
theorem scan_run__Name_1_c {N : Nat} {w0 : World} {H : PH} (hH : H.le w0) {p1 : Str} {r : Int} (hm : scan_run__Name_1 N p1 = some r) : Tot Tryd.prog 86 #[strv p1, .func (.func 87) #[] #[]] w0 (fun v w' => v = .int .i64 r ∧ Keep Nil w0 w') := by
  unfold scan_run__Name_1 at hm
  refine fn0 (args := [strv p1, .func (.func 87) #[] #[]]) (F := [(0, strv p1), (1, .func (.func 87) #[] #[])]) Tryd.func86 rfl Tryd.ntmps86 rfl rfl fun a hF => ?_
  have hS : St w0 Nil [H] [] w0 := start1 hH
  refine th <| ?_
  refine rg <| ?_
  refine ls <| q1 hF rfl (e_asg hF rfl) fun a hF => ?_
  refine re <| ?_
  refine tn <| th <| ?_
  refine rg <| ?_
  refine ls <| q1 hF rfl (e_asg hF rfl) fun a hF => ?_
  refine re <| ?_
  refine tn <| th <| midK (fun a w => ∃ (vA2 : Int) (HA1 : PH), scan_run__Name_1_j1 vA2 = some r ∧ Ext w0 H HA1 ∧ Fr 20 [(5, .int .i64 vA2)] a ∧ St w0 Nil [HA1] [] w) ?_ ?_
  ·
    refine wp_block <| lp (α := Nat × Int) (fun (gh : Nat × Int) a w => match gh with | (nn2, vB2) => ∃ (HB1 : PH), (scan_run__Name_1_l2 N scan_run__Name_1_j1 p1) nn2 vB2 = some r ∧ Ext w0 H HB1 ∧ Fr 20 [(0, strv p1), (1, .func (.func 87) #[] #[]), (5, .int .i64 vB2)] a ∧ St w0 Nil [HB1] [] w) (fun gh => gh.1) (N, 0) ⟨H, hm, (Ext.refl _ _), hF.has ⟨rfl, rfl, rfl, trivial⟩, hS⟩ ?_
    clear hm hF hS
    rintro ⟨nn2, vB2⟩ a w ⟨HB1, hm, hxHB1, hF, hS⟩
    obtain _ | nn2 := nn2
    · simp [scan_run__Name_1_l2] at hm
    rw [scan_run__Name_1_l2] at hm
    refine th <| th <| midK (fun a w => ∃ (vC1 : Bool), (scan_run__Name_1_j3 scan_run__Name_1_j1 (scan_run__Name_1_l2 N scan_run__Name_1_j1 p1 nn2) vB2) vC1 = some r ∧ Fr 20 [(0, strv p1), (1, .func (.func 87) #[] #[]), (5, .int .i64 vB2), (16, .bool vC1)] a ∧ St w0 Nil [HB1] [] w) ?_ ?_
    ·
      rcases bdich (decide (vB2 < (p1.length : Int))) with hb2 | hb2
      ·
        replace hm := itp_t hm hb2
        replace hm := bind_some hm
        obtain ⟨x3, h4, hm⟩ := hm
        replace hm := bind_some hm
        obtain ⟨r5, h6, hm⟩ := hm
        refine rg <| ?_
        refine ls <| q1 hF rfl (e_move hF rfl) fun a hF => ?_
        refine ls <| q1 hF rfl (e_move hF rfl) fun a hF => ?_
        refine ls <| q1 hF rfl (e_lenU (s := p1) hF Tryd.runUnderlying9 rfl) fun a hF => ?_
        refine ls <| q1 hF rfl (e_lss hF rfl rfl) fun a hF => ?_
        refine ls <| q1 hF rfl (e_as (e_move hF rfl) (congrArg Value.bool hb2)) fun a hF => ?_
        refine ls <| gy hF rfl rfl <| q1 hF rfl (e_move hF rfl) fun a hF => ?_
        refine ls <| gy hF rfl rfl <| q1 hF rfl (e_move hF rfl) fun a hF => ?_
        refine ls <| gy hF rfl rfl <| q1 hF rfl (e_move hF rfl) fun a hF => ?_
        refine ls <| gy hF rfl rfl <| q1 hF rfl (e_byte (s := p1) hF Tryd.runUnderlying9 rfl rfl h4) fun a hF => ?_
        refine ls <| gy hF rfl rfl <| k1 (vs := [.int .u8 x3]) (caps := []) hF rfl rfl Tryd.call87 (scan_Name_1_c (hp_le _) h6) ⟨rfl, trivial⟩ rfl (fun v w a hR hF => ?_)
        obtain ⟨rfl, hk⟩ := hR
        replace hS := hS.pass hk
        clear hk
        refine ls <| q1 hF rfl (e_pickT hF rfl rfl) fun a hF => ?_
        refine re <| ?_
        refine tn <| ?_
        exact ⟨r5, hm, hF.has ⟨rfl, rfl, rfl, rfl, trivial⟩, hS⟩
      ·
        replace hm := itp_f hm hb2
        refine rg <| ?_
        refine ls <| q1 hF rfl (e_move hF rfl) fun a hF => ?_
        refine ls <| q1 hF rfl (e_move hF rfl) fun a hF => ?_
        refine ls <| q1 hF rfl (e_lenU (s := p1) hF Tryd.runUnderlying9 rfl) fun a hF => ?_
        refine ls <| q1 hF rfl (e_lss hF rfl rfl) fun a hF => ?_
        refine ls <| q1 hF rfl (e_as (e_move hF rfl) (congrArg Value.bool hb2)) fun a hF => ?_
        refine ls <| gn hF rfl rfl rfl rfl fun a hF => ?_
        refine ls <| gn hF rfl rfl rfl rfl fun a hF => ?_
        refine ls <| gn hF rfl rfl rfl rfl fun a hF => ?_
        refine ls <| gn hF rfl rfl rfl rfl fun a hF => ?_
        refine ls <| gn hF rfl rfl rfl rfl fun a hF => ?_
        refine ls <| q1 hF rfl (e_pickF hF rfl rfl) fun a hF => ?_
        refine re <| ?_
        refine tn <| ?_
        exact ⟨false, hm, hF.has ⟨rfl, rfl, rfl, rfl, trivial⟩, hS⟩
    clear hm hF hS
    rintro a w ⟨vC1, hm, hF, hS⟩
    unfold scan_run__Name_1_j3 at hm
    rcases bdich vC1 with hb7 | hb7
    ·
      replace hm := ite_t hm hb7
      refine ctv hF rfl hb7 <| wp_skip <| ?_
      refine tn <| wp_block <| ?_
      refine rg <| ?_
      refine ls <| q1 hF rfl (e_move hF rfl) fun a hF => ?_
      refine ls <| q1 hF rfl (e_add hF rfl rfl) fun a hF => ?_
      refine ls <| q1 hF rfl (e_asg hF rfl) fun a hF => ?_
      refine re <| ?_
      refine bn <| tn <| ?_
      exact ⟨(nn2, (IntKind.i64.wrap (vB2 + 1))), ⟨HB1, hm, hxHB1, hF.has ⟨rfl, rfl, rfl, trivial⟩, hS⟩, Nat.lt_succ_self _⟩
    ·
      replace hm := ite_f hm hb7
      refine cfv hF rfl hb7 <| ?_
      refine wp_exit <| tx <| tx <| bx <| ?_
      refine tn <| ?_
      exact ⟨vB2, HB1, hm, hxHB1, hF.has ⟨rfl, trivial⟩, hS⟩
  clear hm hF hS
  rintro a w ⟨vA2, HA1, hm, hxHA1, hF, hS⟩
  unfold scan_run__Name_1_j1 at hm
  refine th <| ?_
  refine rg <| ?_
  refine ls <| q1 hF rfl (e_move hF rfl) fun a hF => ?_
  refine ls <| q1 hF rfl (e_asg hF rfl) fun a hF => ?_
  refine re <| ?_
  refine tn <| ?_
  refine wp_ret <| ?_
  obtain rfl := Option.some.inj hm
  exact r1 hF Tryd.results86 rfl ⟨rfl, hS.keep⟩

set_option maxRecDepth 100000 in
theorem scan_Name_c {N : Nat} {w0 : World} {H : PH} (hH : H.le w0) (hT : Tab H) {p1 : Str} {r : Bool} (hm : scan_Name N p1 = some r) : Tot Tryd.prog 64 #[strv p1] w0 (fun v w' => v = .bool r ∧ Keep Nil w0 w') := by
  unfold scan_Name at hm
  refine fn0 (args := [strv p1]) (F := [(0, strv p1)]) Tryd.func64 rfl Tryd.ntmps64 rfl rfl fun a hF => ?_
  have hS : St w0 Nil [H] [] w0 := start1 hH
  refine th <| ?_
  refine rg <| ?_
  refine ls <| q1 hF rfl (e_asg hF rfl) fun a hF => ?_
  refine re <| ?_
  refine tn <| th <| th <| midK (fun a w => ∃ (vA2 : Bool) (HA1 : PH), (scan_Name_j1 N p1) vA2 = some r ∧ Ext w0 H HA1 ∧ Fr 25 [(0, strv p1), (19, .bool vA2)] a ∧ St w0 Nil [HA1] [] w) ?_ ?_
  ·
    rcases bdich ((decide (p1 = [])) || (decide (16 < (p1.length : Int)))) with hb2 | hb2
    ·
      replace hm := ite_t hm hb2
      refine rg <| ?_
      refine ls <| q1 hF rfl (e_move hF rfl) fun a hF => ?_
      refine ls <| q1 hF rfl (e_eqlU (m := p1) (n := []) hF rfl rfl) fun a hF => ?_
      refine ls <| q1 hF rfl (e_move hF rfl) fun a hF => ?_
      refine grp (N := 25) (Fk := [(0, strv p1), (9, .bool ((decide (p1 = [])) || (decide (16 < (p1.length : Int)))))]) (b := (decide (p1 = []))) 4 hS ?_ ?_ ?_
      ·
        intro hb key
        replace hF := Fr.as hF (t := 5) rfl (congrArg Value.bool hb)
        refine ls <| gn hF rfl rfl rfl rfl fun a hF => ?_
        refine ls <| gn hF rfl rfl rfl rfl fun a hF => ?_
        refine ls <| gn hF rfl rfl rfl rfl fun a hF => ?_
        refine ls <| q1 hF rfl (e_as (v' := .bool ((decide (p1 = [])) || (decide (16 < (p1.length : Int))))) (e_pickT hF rfl rfl) (by rw [hb]; rfl)) fun a hF => ?_
        exact key _ _ (hF.has ⟨rfl, rfl, trivial⟩) hS
      ·
        intro hb key
        replace hF := Fr.as hF (t := 5) rfl (congrArg Value.bool hb)
        refine ls <| gy hF rfl rfl <| q1 hF rfl (e_move hF rfl) fun a hF => ?_
        refine ls <| gy hF rfl rfl <| q1 hF rfl (e_lenU (s := p1) hF Tryd.runUnderlying9 rfl) fun a hF => ?_
        refine ls <| gy hF rfl rfl <| q1 hF rfl (e_gtr hF rfl rfl) fun a hF => ?_
        refine ls <| q1 hF rfl (e_as (v' := .bool ((decide (p1 = [])) || (decide (16 < (p1.length : Int))))) (e_pickF hF rfl rfl) (by rw [hb]; rfl)) fun a hF => ?_
        exact key _ _ (hF.has ⟨rfl, rfl, trivial⟩) hS
      intro a w hF hS
      refine ls <| q1 hF rfl (e_as (e_move hF rfl) (congrArg Value.bool hb2)) fun a hF => ?_
      refine ls <| gn hF rfl rfl rfl rfl fun a hF => ?_
      refine ls <| gn hF rfl rfl rfl rfl fun a hF => ?_
      refine ls <| gn hF rfl rfl rfl rfl fun a hF => ?_
      refine ls <| gn hF rfl rfl rfl rfl fun a hF => ?_
      refine ls <| q1 hF rfl (e_pickT hF rfl rfl) fun a hF => ?_
      refine ls <| q1 hF rfl (e_move hF rfl) fun a hF => ?_
      refine ls <| gn hF rfl rfl rfl rfl fun a hF => ?_
      refine ls <| gn hF rfl rfl rfl rfl fun a hF => ?_
      refine ls <| q1 hF rfl (e_pickT hF rfl rfl) fun a hF => ?_
      refine re <| ?_
      refine tn <| ?_
      exact ⟨true, H, hm, (Ext.refl _ _), hF.has ⟨rfl, rfl, trivial⟩, hS⟩
    ·
      replace hm := ite_f hm hb2
      replace hm := bind_some hm
      obtain ⟨x3, h4, hm⟩ := hm
      replace hm := bind_some hm
      obtain ⟨r5, h6, hm⟩ := hm
      rcases bdich r5 with hb7 | hb7
      ·
        replace hm := ite_t hm hb7
        have hb7' : (!r5) = false := by rw [hb7]; rfl
        replace hm := bind_some hm
        obtain ⟨r8, h9, hm⟩ := hm
        refine rg <| ?_
        refine ls <| q1 hF rfl (e_move hF rfl) fun a hF => ?_
        refine ls <| q1 hF rfl (e_eqlU (m := p1) (n := []) hF rfl rfl) fun a hF => ?_
        refine ls <| q1 hF rfl (e_move hF rfl) fun a hF => ?_
        refine grp (N := 25) (Fk := [(0, strv p1), (9, .bool ((decide (p1 = [])) || (decide (16 < (p1.length : Int)))))]) (b := (decide (p1 = []))) 4 hS ?_ ?_ ?_
        ·
          intro hb key
          replace hF := Fr.as hF (t := 5) rfl (congrArg Value.bool hb)
          refine ls <| gn hF rfl rfl rfl rfl fun a hF => ?_
          refine ls <| gn hF rfl rfl rfl rfl fun a hF => ?_
          refine ls <| gn hF rfl rfl rfl rfl fun a hF => ?_
          refine ls <| q1 hF rfl (e_as (v' := .bool ((decide (p1 = [])) || (decide (16 < (p1.length : Int))))) (e_pickT hF rfl rfl) (by rw [hb]; rfl)) fun a hF => ?_
          exact key _ _ (hF.has ⟨rfl, rfl, trivial⟩) hS
        ·
          intro hb key
          replace hF := Fr.as hF (t := 5) rfl (congrArg Value.bool hb)
          refine ls <| gy hF rfl rfl <| q1 hF rfl (e_move hF rfl) fun a hF => ?_
          refine ls <| gy hF rfl rfl <| q1 hF rfl (e_lenU (s := p1) hF Tryd.runUnderlying9 rfl) fun a hF => ?_
          refine ls <| gy hF rfl rfl <| q1 hF rfl (e_gtr hF rfl rfl) fun a hF => ?_
          refine ls <| q1 hF rfl (e_as (v' := .bool ((decide (p1 = [])) || (decide (16 < (p1.length : Int))))) (e_pickF hF rfl rfl) (by rw [hb]; rfl)) fun a hF => ?_
          exact key _ _ (hF.has ⟨rfl, rfl, trivial⟩) hS
        intro a w hF hS
        refine ls <| q1 hF rfl (e_as (e_move hF rfl) (congrArg Value.bool hb2)) fun a hF => ?_
        refine ls <| gy hF rfl rfl <| q1 hF rfl (e_move hF rfl) fun a hF => ?_
        refine ls <| gy hF rfl rfl <| q1 hF rfl (e_byte (s := p1) hF Tryd.runUnderlying9 rfl rfl h4) fun a hF => ?_
        refine ls <| gy hF rfl rfl <| c1 hF rfl Tryd.call84 (scan_letter_c (hp_le _) h6) ⟨rfl, trivial⟩ (fun v w a hR hF => ?_)
        obtain ⟨rfl, hk⟩ := hR
        replace hS := hS.pass hk
        clear hk
        refine ls <| gy hF rfl rfl <| q1 hF rfl (e_not hF rfl) fun a hF => ?_
        refine ls <| q1 hF rfl (e_pickF hF rfl rfl) fun a hF => ?_
        refine ls <| q1 hF rfl (e_as (e_move hF rfl) (congrArg Value.bool hb7')) fun a hF => ?_
        refine ls <| gy hF rfl rfl <| q1 hF rfl (e_move hF rfl) fun a hF => ?_
        refine ls <| gy hF rfl rfl <| c1 hF rfl Tryd.call85 (scan_Kept_c (hp_le _) (Tab.mono hT (St.up hS)) h9) ⟨rfl, trivial⟩ (fun v w a hR hF => ?_)
        obtain ⟨rfl, hk⟩ := hR
        replace hS := hS.pass hk
        clear hk
        refine ls <| q1 hF rfl (e_pickF hF rfl rfl) fun a hF => ?_
        refine re <| ?_
        refine tn <| ?_
        exact ⟨r8, H, hm, (Ext.refl _ _), hF.has ⟨rfl, rfl, trivial⟩, hS⟩
      ·
        replace hm := ite_f hm hb7
        have hb7' : (!r5) = true := by rw [hb7]; rfl
        refine rg <| ?_
        refine ls <| q1 hF rfl (e_move hF rfl) fun a hF => ?_
        refine ls <| q1 hF rfl (e_eqlU (m := p1) (n := []) hF rfl rfl) fun a hF => ?_
        refine ls <| q1 hF rfl (e_move hF rfl) fun a hF => ?_
        refine grp (N := 25) (Fk := [(0, strv p1), (9, .bool ((decide (p1 = [])) || (decide (16 < (p1.length : Int)))))]) (b := (decide (p1 = []))) 4 hS ?_ ?_ ?_
        ·
          intro hb key
          replace hF := Fr.as hF (t := 5) rfl (congrArg Value.bool hb)
          refine ls <| gn hF rfl rfl rfl rfl fun a hF => ?_
          refine ls <| gn hF rfl rfl rfl rfl fun a hF => ?_
          refine ls <| gn hF rfl rfl rfl rfl fun a hF => ?_
          refine ls <| q1 hF rfl (e_as (v' := .bool ((decide (p1 = [])) || (decide (16 < (p1.length : Int))))) (e_pickT hF rfl rfl) (by rw [hb]; rfl)) fun a hF => ?_
          exact key _ _ (hF.has ⟨rfl, rfl, trivial⟩) hS
        ·
          intro hb key
          replace hF := Fr.as hF (t := 5) rfl (congrArg Value.bool hb)
          refine ls <| gy hF rfl rfl <| q1 hF rfl (e_move hF rfl) fun a hF => ?_
          refine ls <| gy hF rfl rfl <| q1 hF rfl (e_lenU (s := p1) hF Tryd.runUnderlying9 rfl) fun a hF => ?_
          refine ls <| gy hF rfl rfl <| q1 hF rfl (e_gtr hF rfl rfl) fun a hF => ?_
          refine ls <| q1 hF rfl (e_as (v' := .bool ((decide (p1 = [])) || (decide (16 < (p1.length : Int))))) (e_pickF hF rfl rfl) (by rw [hb]; rfl)) fun a hF => ?_
          exact key _ _ (hF.has ⟨rfl, rfl, trivial⟩) hS
        intro a w hF hS
        refine ls <| q1 hF rfl (e_as (e_move hF rfl) (congrArg Value.bool hb2)) fun a hF => ?_
        refine ls <| gy hF rfl rfl <| q1 hF rfl (e_move hF rfl) fun a hF => ?_
        refine ls <| gy hF rfl rfl <| q1 hF rfl (e_byte (s := p1) hF Tryd.runUnderlying9 rfl rfl h4) fun a hF => ?_
        refine ls <| gy hF rfl rfl <| c1 hF rfl Tryd.call84 (scan_letter_c (hp_le _) h6) ⟨rfl, trivial⟩ (fun v w a hR hF => ?_)
        obtain ⟨rfl, hk⟩ := hR
        replace hS := hS.pass hk
        clear hk
        refine ls <| gy hF rfl rfl <| q1 hF rfl (e_not hF rfl) fun a hF => ?_
        refine ls <| q1 hF rfl (e_pickF hF rfl rfl) fun a hF => ?_
        refine ls <| q1 hF rfl (e_as (e_move hF rfl) (congrArg Value.bool hb7')) fun a hF => ?_
        refine ls <| gn hF rfl rfl rfl rfl fun a hF => ?_
        refine ls <| gn hF rfl rfl rfl rfl fun a hF => ?_
        refine ls <| q1 hF rfl (e_pickT hF rfl rfl) fun a hF => ?_
        refine re <| ?_
        refine tn <| ?_
        exact ⟨true, H, hm, (Ext.refl _ _), hF.has ⟨rfl, rfl, trivial⟩, hS⟩
  clear hm hF hS
  rintro a w ⟨vA2, HA1, hm, hxHA1, hF, hS⟩
  unfold scan_Name_j1 at hm
  rcases bdich vA2 with hb10 | hb10
  ·
    replace hm := ite_t hm hb10
    refine ctv hF rfl hb10 <| th <| ?_
    refine rg <| ?_
    refine ls <| q1 hF rfl (e_asg hF rfl) fun a hF => ?_
    refine re <| ?_
    refine tn <| ?_
    refine wp_ret <| tr <| ?_
    obtain rfl := Option.some.inj hm
    exact r1 hF Tryd.results64 rfl ⟨rfl, hS.keep⟩
  ·
    replace hm := ite_f hm hb10
    refine cfv hF rfl hb10 <| wp_skip <| ?_
    refine tn <| th <| ?_
    replace hm := bind_some hm
    obtain ⟨r11, h12, hm⟩ := hm
    refine rg <| ?_
    refine ls <| q1 hF rfl (e_move hF rfl) fun a hF => ?_
    refine ls <| c1 hF rfl Tryd.call86 (scan_run__Name_1_c (hp_le _) h12) ⟨rfl, rfl, trivial⟩ (fun v w a hR hF => ?_)
    obtain ⟨rfl, hk⟩ := hR
    replace hS := hS.pass hk
    clear hk
    refine ls <| q1 hF rfl (e_move hF rfl) fun a hF => ?_
    refine ls <| q1 hF rfl (e_lenU (s := p1) hF Tryd.runUnderlying9 rfl) fun a hF => ?_
    refine ls <| q1 hF rfl (e_eql hF rfl rfl) fun a hF => ?_
    refine ls <| q1 hF rfl (e_asg hF rfl) fun a hF => ?_
    refine re <| ?_
    refine tn <| ?_
    refine wp_ret <| ?_
    obtain rfl := Option.some.inj hm
    exact r1 hF Tryd.results64 rfl ⟨rfl, hS.keep⟩

set_option maxRecDepth 100000 in
theorem expr_may_c {N : Nat} {w0 : World} {H : PH} (hH : H.le w0) (hT : Tab H) {p1 : api_Node} {r : Bool} (hm : expr_may N p1 = some r) : Tot Tryd.prog 46 #[.agg #[.int .i64 p1.Op, .int .i64 p1.N, strv p1.Name, .int .i64 p1.At]] w0 (fun v w' => v = .bool r ∧ Keep Nil w0 w') := by
  unfold expr_may at hm
  refine fn0 (args := [.agg #[.int .i64 p1.Op, .int .i64 p1.N, strv p1.Name, .int .i64 p1.At]]) (F := [(0, .agg #[.int .i64 p1.Op, .int .i64 p1.N, strv p1.Name, .int .i64 p1.At])]) Tryd.func46 rfl Tryd.ntmps46 rfl rfl fun a hF => ?_
  have hS : St w0 Nil [H] [] w0 := start1 hH
  refine th <| ?_
  refine rg <| ?_
  refine ls <| a_box (cs := [.int .i64 p1.Op, .int .i64 p1.N, strv p1.Name, .int .i64 p1.At].toArray) hF rfl hS rfl rfl fun b2 w a hS hF => ?_
  refine ls <| q1 hF rfl (e_asg hF rfl) fun a hF => ?_
  refine re <| ?_
  refine tn <| th <| wp_block <| th <| ?_
  refine rg <| ?_
  refine ls <| q1 hF rfl (e_fa hF fa39_3 rfl) fun a hF => ?_
  refine ls <| q1 hF rfl (e_ld hF Tryd.isAgg3 rfl ((St.ld hS).cellB (.head _) rfl)) fun a hF => ?_
  refine ls <| q1 hF rfl (e_lss hF rfl rfl) fun a hF => ?_
  refine ls <| q1 hF rfl (e_move hF rfl) fun a hF => ?_
  refine grp (N := 49) (Fk := [(1, .pointer (some ⟨b2, 0, none⟩)), (11, .bool ((decide (p1.At < 0)) || (decide (4000 < p1.At))))]) (b := (decide (p1.At < 0))) 4 hS ?_ ?_ ?_
  ·
    intro hb key
    replace hF := Fr.as hF (t := 7) rfl (congrArg Value.bool hb)
    refine ls <| gn hF rfl rfl rfl rfl fun a hF => ?_
    refine ls <| gn hF rfl rfl rfl rfl fun a hF => ?_
    refine ls <| gn hF rfl rfl rfl rfl fun a hF => ?_
    refine ls <| q1 hF rfl (e_as (v' := .bool ((decide (p1.At < 0)) || (decide (4000 < p1.At)))) (e_pickT hF rfl rfl) (by rw [hb]; rfl)) fun a hF => ?_
    exact key _ _ (hF.has ⟨rfl, rfl, trivial⟩) hS
  ·
    intro hb key
    replace hF := Fr.as hF (t := 7) rfl (congrArg Value.bool hb)
    refine ls <| gy hF rfl rfl <| q1 hF rfl (e_fa hF fa39_3 rfl) fun a hF => ?_
    refine ls <| gy hF rfl rfl <| q1 hF rfl (e_ld hF Tryd.isAgg3 rfl ((St.ld hS).cellB (.head _) rfl)) fun a hF => ?_
    refine ls <| gy hF rfl rfl <| q1 hF rfl (e_gtr hF rfl rfl) fun a hF => ?_
    refine ls <| q1 hF rfl (e_as (v' := .bool ((decide (p1.At < 0)) || (decide (4000 < p1.At)))) (e_pickF hF rfl rfl) (by rw [hb]; rfl)) fun a hF => ?_
    exact key _ _ (hF.has ⟨rfl, rfl, trivial⟩) hS
  intro a w hF hS
  refine ls <| q1 hF rfl (e_asg hF rfl) fun a hF => ?_
  refine re <| ?_
  rcases bdich ((decide (p1.At < 0)) || (decide (4000 < p1.At))) with hb3 | hb3
  ·
    replace hm := ite_t hm hb3
    refine tn <| ctv hF rfl hb3 <| th <| ?_
    refine rg <| ?_
    refine ls <| q1 hF rfl (e_asg hF rfl) fun a hF => ?_
    refine re <| ?_
    refine tn <| ?_
    refine wp_ret <| br <| tr <| ?_
    obtain rfl := Option.some.inj hm
    exact r1 hF Tryd.results46 rfl ⟨rfl, hS.keep⟩
  ·
    replace hm := ite_f hm hb3
    refine tn <| cfv hF rfl hb3 <| th <| ?_
    refine rg <| ?_
    refine ls <| q1 hF rfl (e_fa hF fa39_0 rfl) fun a hF => ?_
    refine ls <| q1 hF rfl (e_ld hF Tryd.isAgg3 rfl ((St.ld hS).cellB (.head _) rfl)) fun a hF => ?_
    refine ls <| q1 hF rfl (e_eql hF rfl rfl) fun a hF => ?_
    refine ls <| q1 hF rfl (e_asg hF rfl) fun a hF => ?_
    refine re <| ?_
    rcases bdich (decide (p1.Op = 1)) with hb4 | hb4
    ·
      replace hm := itp_t hm hb4
      refine tn <| ctv hF rfl hb4 <| th <| ?_
      refine rg <| ?_
      refine ls <| q1 hF rfl (e_fa hF fa39_1 rfl) fun a hF => ?_
      refine ls <| q1 hF rfl (e_ld hF Tryd.isAgg3 rfl ((St.ld hS).cellB (.head _) rfl)) fun a hF => ?_
      refine ls <| q1 hF rfl (e_geq hF rfl rfl) fun a hF => ?_
      refine ls <| q1 hF rfl (e_move hF rfl) fun a hF => ?_
      refine grp (N := 49) (Fk := [(1, .pointer (some ⟨b2, 0, none⟩)), (23, .bool ((decide (0 ≤ p1.N)) && (decide (p1.N ≤ 4294967296))))]) (b := (decide (0 ≤ p1.N))) 4 hS ?_ ?_ ?_
      ·
        intro hb key
        replace hF := Fr.as hF (t := 19) rfl (congrArg Value.bool hb)
        refine ls <| gy hF rfl rfl <| q1 hF rfl (e_fa hF fa39_1 rfl) fun a hF => ?_
        refine ls <| gy hF rfl rfl <| q1 hF rfl (e_ld hF Tryd.isAgg3 rfl ((St.ld hS).cellB (.head _) rfl)) fun a hF => ?_
        refine ls <| gy hF rfl rfl <| q1 hF rfl (e_leq hF rfl rfl) fun a hF => ?_
        refine ls <| q1 hF rfl (e_as (v' := .bool ((decide (0 ≤ p1.N)) && (decide (p1.N ≤ 4294967296)))) (e_pickT hF rfl rfl) (by rw [hb]; rfl)) fun a hF => ?_
        exact key _ _ (hF.has ⟨rfl, rfl, trivial⟩) hS
      ·
        intro hb key
        replace hF := Fr.as hF (t := 19) rfl (congrArg Value.bool hb)
        refine ls <| gn hF rfl rfl rfl rfl fun a hF => ?_
        refine ls <| gn hF rfl rfl rfl rfl fun a hF => ?_
        refine ls <| gn hF rfl rfl rfl rfl fun a hF => ?_
        refine ls <| q1 hF rfl (e_as (v' := .bool ((decide (0 ≤ p1.N)) && (decide (p1.N ≤ 4294967296)))) (e_pickF hF rfl rfl) (by rw [hb]; rfl)) fun a hF => ?_
        exact key _ _ (hF.has ⟨rfl, rfl, trivial⟩) hS
      intro a w hF hS
      refine ls <| q1 hF rfl (e_move hF rfl) fun a hF => ?_
      refine grp (N := 49) (Fk := [(28, .bool (((decide (0 ≤ p1.N)) && (decide (p1.N ≤ 4294967296))) && (decide (p1.Name = []))))]) (b := ((decide (0 ≤ p1.N)) && (decide (p1.N ≤ 4294967296)))) 4 hS ?_ ?_ ?_
      ·
        intro hb key
        replace hF := Fr.as hF (t := 24) rfl (congrArg Value.bool hb)
        refine ls <| gy hF rfl rfl <| q1 hF rfl (e_fa hF fa39_2 rfl) fun a hF => ?_
        refine ls <| gy hF rfl rfl <| q1 hF rfl (e_ld hF Tryd.isAgg9 rfl ((St.ld hS).cellB (.head _) rfl)) fun a hF => ?_
        refine ls <| gy hF rfl rfl <| q1 hF rfl (e_eqlU (m := p1.Name) (n := []) hF rfl rfl) fun a hF => ?_
        refine ls <| q1 hF rfl (e_as (v' := .bool (((decide (0 ≤ p1.N)) && (decide (p1.N ≤ 4294967296))) && (decide (p1.Name = [])))) (e_pickT hF rfl rfl) (by rw [hb]; rfl)) fun a hF => ?_
        exact key _ _ (hF.has ⟨rfl, trivial⟩) hS
      ·
        intro hb key
        replace hF := Fr.as hF (t := 24) rfl (congrArg Value.bool hb)
        refine ls <| gn hF rfl rfl rfl rfl fun a hF => ?_
        refine ls <| gn hF rfl rfl rfl rfl fun a hF => ?_
        refine ls <| gn hF rfl rfl rfl rfl fun a hF => ?_
        refine ls <| q1 hF rfl (e_as (v' := .bool (((decide (0 ≤ p1.N)) && (decide (p1.N ≤ 4294967296))) && (decide (p1.Name = [])))) (e_pickF hF rfl rfl) (by rw [hb]; rfl)) fun a hF => ?_
        exact key _ _ (hF.has ⟨rfl, trivial⟩) hS
      intro a w hF hS
      refine ls <| q1 hF rfl (e_asg hF rfl) fun a hF => ?_
      refine re <| ?_
      refine tn <| ?_
      refine wp_ret <| br <| tr <| ?_
      obtain rfl := Option.some.inj hm
      exact r1 hF Tryd.results46 rfl ⟨rfl, hS.keep⟩
    ·
      replace hm := itp_f hm hb4
      refine tn <| cfv hF rfl hb4 <| th <| ?_
      refine rg <| ?_
      refine ls <| q1 hF rfl (e_fa hF fa39_0 rfl) fun a hF => ?_
      refine ls <| q1 hF rfl (e_ld hF Tryd.isAgg3 rfl ((St.ld hS).cellB (.head _) rfl)) fun a hF => ?_
      refine ls <| q1 hF rfl (e_eql hF rfl rfl) fun a hF => ?_
      refine ls <| q1 hF rfl (e_asg hF rfl) fun a hF => ?_
      refine re <| ?_
      rcases bdich (decide (p1.Op = 2)) with hb5 | hb5
      ·
        replace hm := itp_t hm hb5
        refine tn <| ctv hF rfl hb5 <| th <| ?_
        rcases bdich (decide (p1.N = 0)) with hb6 | hb6
        ·
          replace hm := itp_t hm hb6
          replace hm := bind_some hm
          obtain ⟨r7, h8, hm⟩ := hm
          refine rg <| ?_
          refine ls <| q1 hF rfl (e_fa hF fa39_1 rfl) fun a hF => ?_
          refine ls <| q1 hF rfl (e_ld hF Tryd.isAgg3 rfl ((St.ld hS).cellB (.head _) rfl)) fun a hF => ?_
          refine ls <| q1 hF rfl (e_eql hF rfl rfl) fun a hF => ?_
          refine ls <| q1 hF rfl (e_as (e_move hF rfl) (congrArg Value.bool hb6)) fun a hF => ?_
          refine ls <| gy hF rfl rfl <| q1 hF rfl (e_fa hF fa39_2 rfl) fun a hF => ?_
          refine ls <| gy hF rfl rfl <| q1 hF rfl (e_ld hF Tryd.isAgg9 rfl ((St.ld hS).cellB (.head _) rfl)) fun a hF => ?_
          refine ls <| gy hF rfl rfl <| c1 hF rfl Tryd.call64 (scan_Name_c (hp_le _) (Tab.mono hT (St.up hS)) h8) ⟨rfl, trivial⟩ (fun v w a hR hF => ?_)
          obtain ⟨rfl, hk⟩ := hR
          replace hS := hS.pass hk
          clear hk
          refine ls <| q1 hF rfl (e_pickT hF rfl rfl) fun a hF => ?_
          refine ls <| q1 hF rfl (e_asg hF rfl) fun a hF => ?_
          refine re <| ?_
          refine tn <| ?_
          refine wp_ret <| br <| tr <| ?_
          obtain rfl := Option.some.inj hm
          exact r1 hF Tryd.results46 rfl ⟨rfl, hS.keep⟩
        ·
          replace hm := itp_f hm hb6
          refine rg <| ?_
          refine ls <| q1 hF rfl (e_fa hF fa39_1 rfl) fun a hF => ?_
          refine ls <| q1 hF rfl (e_ld hF Tryd.isAgg3 rfl ((St.ld hS).cellB (.head _) rfl)) fun a hF => ?_
          refine ls <| q1 hF rfl (e_eql hF rfl rfl) fun a hF => ?_
          refine ls <| q1 hF rfl (e_as (e_move hF rfl) (congrArg Value.bool hb6)) fun a hF => ?_
          refine ls <| gn hF rfl rfl rfl rfl fun a hF => ?_
          refine ls <| gn hF rfl rfl rfl rfl fun a hF => ?_
          refine ls <| gn hF rfl rfl rfl rfl fun a hF => ?_
          refine ls <| q1 hF rfl (e_pickF hF rfl rfl) fun a hF => ?_
          refine ls <| q1 hF rfl (e_asg hF rfl) fun a hF => ?_
          refine re <| ?_
          refine tn <| ?_
          refine wp_ret <| br <| tr <| ?_
          obtain rfl := Option.some.inj hm
          exact r1 hF Tryd.results46 rfl ⟨rfl, hS.keep⟩
      ·
        replace hm := itp_f hm hb5
        refine tn <| cfv hF rfl hb5 <| wp_skip <| ?_
        refine bn <| tn <| th <| ?_
        refine rg <| ?_
        refine ls <| q1 hF rfl (e_fa hF fa39_1 rfl) fun a hF => ?_
        refine ls <| q1 hF rfl (e_ld hF Tryd.isAgg3 rfl ((St.ld hS).cellB (.head _) rfl)) fun a hF => ?_
        refine ls <| q1 hF rfl (e_eql hF rfl rfl) fun a hF => ?_
        refine ls <| q1 hF rfl (e_move hF rfl) fun a hF => ?_
        refine grp (N := 49) (Fk := [(48, .bool ((decide (p1.N = 0)) && (decide (p1.Name = []))))]) (b := (decide (p1.N = 0))) 4 hS ?_ ?_ ?_
        ·
          intro hb key
          replace hF := Fr.as hF (t := 44) rfl (congrArg Value.bool hb)
          refine ls <| gy hF rfl rfl <| q1 hF rfl (e_fa hF fa39_2 rfl) fun a hF => ?_
          refine ls <| gy hF rfl rfl <| q1 hF rfl (e_ld hF Tryd.isAgg9 rfl ((St.ld hS).cellB (.head _) rfl)) fun a hF => ?_
          refine ls <| gy hF rfl rfl <| q1 hF rfl (e_eqlU (m := p1.Name) (n := []) hF rfl rfl) fun a hF => ?_
          refine ls <| q1 hF rfl (e_as (v' := .bool ((decide (p1.N = 0)) && (decide (p1.Name = [])))) (e_pickT hF rfl rfl) (by rw [hb]; rfl)) fun a hF => ?_
          exact key _ _ (hF.has ⟨rfl, trivial⟩) hS
        ·
          intro hb key
          replace hF := Fr.as hF (t := 44) rfl (congrArg Value.bool hb)
          refine ls <| gn hF rfl rfl rfl rfl fun a hF => ?_
          refine ls <| gn hF rfl rfl rfl rfl fun a hF => ?_
          refine ls <| gn hF rfl rfl rfl rfl fun a hF => ?_
          refine ls <| q1 hF rfl (e_as (v' := .bool ((decide (p1.N = 0)) && (decide (p1.Name = [])))) (e_pickF hF rfl rfl) (by rw [hb]; rfl)) fun a hF => ?_
          exact key _ _ (hF.has ⟨rfl, trivial⟩) hS
        intro a w hF hS
        refine ls <| q1 hF rfl (e_asg hF rfl) fun a hF => ?_
        refine re <| ?_
        refine tn <| ?_
        refine wp_ret <| ?_
        obtain rfl := Option.some.inj hm
        exact r1 hF Tryd.results46 rfl ⟨rfl, hS.keep⟩

set_option maxRecDepth 100000 in
theorem expr_Right_1_c {N : Nat} {w0 : World} {H : PH} (hH : H.le w0) (hT : Tab H) {p1 : api_Node} {r : Bool} (hm : expr_Right_1 N p1 = some r) : Tot Tryd.prog 45 #[.agg #[.int .i64 p1.Op, .int .i64 p1.N, strv p1.Name, .int .i64 p1.At]] w0 (fun v w' => v = .bool r ∧ Keep Nil w0 w') := by
  unfold expr_Right_1 at hm
  refine fn0 (args := [.agg #[.int .i64 p1.Op, .int .i64 p1.N, strv p1.Name, .int .i64 p1.At]]) (F := [(0, .agg #[.int .i64 p1.Op, .int .i64 p1.N, strv p1.Name, .int .i64 p1.At])]) Tryd.func45 rfl Tryd.ntmps45 rfl rfl fun a hF => ?_
  have hS : St w0 Nil [H] [] w0 := start1 hH
  refine th <| ?_
  refine rg <| ?_
  refine ls <| a_box (cs := [.int .i64 p1.Op, .int .i64 p1.N, strv p1.Name, .int .i64 p1.At].toArray) hF rfl hS rfl rfl fun b2 w a hS hF => ?_
  refine ls <| q1 hF rfl (e_asg hF rfl) fun a hF => ?_
  refine re <| ?_
  refine tn <| th <| ?_
  replace hm := bind_some hm
  obtain ⟨r3, h4, hm⟩ := hm
  refine rg <| ?_
  refine ls <| q1 hF rfl (e_ldA hF Tryd.isAgg39 Tryd.sizeOf39 rfl rfl ((St.ld hS).cellsB (.head _))) fun a hF => ?_
  refine ls <| c1 hF rfl Tryd.call46 (expr_may_c (hp_le _) (Tab.mono hT (St.up hS)) h4) ⟨rfl, trivial⟩ (fun v w a hR hF => ?_)
  obtain ⟨rfl, hk⟩ := hR
  replace hS := hS.pass hk
  clear hk
  refine ls <| q1 hF rfl (e_not hF rfl) fun a hF => ?_
  refine ls <| q1 hF rfl (e_asg hF rfl) fun a hF => ?_
  refine re <| ?_
  refine tn <| ?_
  refine wp_ret <| ?_
  obtain rfl := Option.some.inj hm
  exact r1 hF Tryd.results45 rfl ⟨rfl, hS.keep⟩

set_option maxRecDepth 100000 in
theorem slices_IndexFunc_api_Node_api_Node__Right_1_c {N : Nat} {w0 : World} {H : PH} (hH : H.le w0) (hT : Tab H) {oa2 : Option Addr} {cap3 : Nat} {p1 : (List api_Node)} (hc4 : p1.length ≤ cap3) (hr5 : SR H oa2 p1) {r : Int} (hm : slices_IndexFunc_api_Node_api_Node__Right_1 N p1 = some r) : Tot Tryd.prog 65 #[.slice oa2 p1.length cap3, .func (.func 45) #[] #[]] w0 (fun v w' => v = .int .i64 r ∧ Keep Nil w0 w') := by
  unfold slices_IndexFunc_api_Node_api_Node__Right_1 at hm
  refine fn0 (args := [.slice oa2 p1.length cap3, .func (.func 45) #[] #[]]) (F := [(0, .slice oa2 p1.length cap3), (1, .func (.func 45) #[] #[])]) Tryd.func65 rfl Tryd.ntmps65 rfl rfl fun a hF => ?_
  have hS : St w0 Nil [H] [] w0 := start1 hH
  refine th <| ?_
  refine rg <| ?_
  refine ls <| q1 hF rfl (e_asg hF rfl) fun a hF => ?_
  refine re <| ?_
  refine tn <| th <| th <| ?_
  refine rg <| ?_
  refine ls <| q1 hF rfl (e_move hF rfl) fun a hF => ?_
  refine ls <| q1 hF rfl (e_lenL (α := api_Node) (xs := p1) hF Tryd.runUnderlying22 rfl) fun a hF => ?_
  refine ls <| q1 hF rfl (e_move hF rfl) fun a hF => ?_
  refine re <| ?_
  refine tn <| midK (fun a w => ∃ (HA1 : PH), slices_IndexFunc_api_Node_api_Node__Right_1_j1 = some r ∧ Ext w0 H HA1 ∧ Fr 19 [] a ∧ St w0 Nil [HA1] [] w) ?_ ?_
  ·
    refine wp_block <| lp (α := Nat × Int) (fun (gh : Nat × Int) a w => match gh with | (nn2, vB6) => ∃ (HB1 : PH) (oaB2 : Option Addr) (capB3 : Nat), (slices_IndexFunc_api_Node_api_Node__Right_1_l2 N slices_IndexFunc_api_Node_api_Node__Right_1_j1 p1) nn2 vB6 = some r ∧ Ext w0 H HB1 ∧ Fr 19 [(0, .slice oaB2 p1.length capB3), (1, .func (.func 45) #[] #[]), (7, .int .i64 (p1.length : Int)), (8, .int .i64 vB6)] a ∧ St w0 Nil [HB1] [] w ∧ p1.length ≤ capB3 ∧ SR HB1 oaB2 p1) (fun gh => gh.1) (N, 0) ⟨H, oa2, cap3, hm, (Ext.refl _ _), hF.has ⟨rfl, rfl, rfl, rfl, trivial⟩, hS, hc4, hr5⟩ ?_
    clear hm hF hS
    rintro ⟨nn2, vB6⟩ a w ⟨HB1, oaB2, capB3, hm, hxHB1, hF, hS, hcB4, hrB5⟩
    obtain _ | nn2 := nn2
    · simp [slices_IndexFunc_api_Node_api_Node__Right_1_l2] at hm
    rw [slices_IndexFunc_api_Node_api_Node__Right_1_l2] at hm
    refine th <| ?_
    refine rg <| ?_
    refine ls <| q1 hF rfl (e_lss hF rfl rfl) fun a hF => ?_
    refine re <| ?_
    rcases bdich (decide (vB6 < (p1.length : Int))) with hb6 | hb6
    ·
      replace hm := itp_t hm hb6
      refine tn <| th <| ctv hF rfl hb6 <| wp_skip <| ?_
      refine tn <| th <| wp_block <| th <| ?_
      refine rg <| ?_
      refine ls <| q1 hF rfl (e_move hF rfl) fun a hF => ?_
      refine ls <| q1 hF rfl (e_asg hF rfl) fun a hF => ?_
      refine re <| ?_
      refine tn <| th <| ?_
      replace hm := bind_some hm
      obtain ⟨x7, h8, hm⟩ := hm
      obtain ⟨c9, g10, hl11⟩ := SR.get hrB5 h8
      obtain rfl := api_Node_open g10
      replace hm := bind_some hm
      obtain ⟨r12, h13, hm⟩ := hm
      refine rg <| ?_
      refine ls <| q1 hF rfl (e_move hF rfl) fun a hF => ?_
      refine ls <| q1 hF rfl (e_move hF rfl) fun a hF => ?_
      refine ls <| q1 hF rfl (e_move hF rfl) fun a hF => ?_
      refine ls <| q1 hF rfl (e_iaI hF Tryd.runUnderlying22 Tryd.sizeOf39 rfl rfl h8 (SR.oaI hrB5 (by decide) h8)) fun a hF => ?_
      refine ls <| q1 hF rfl (e_ldA hF Tryd.isAgg39 Tryd.sizeOf39 rfl rfl (fun j v hj => PH.le.cell (Lds.le (St.ld hS)) (hl11 j v hj))) fun a hF => ?_
      refine ls <| k1 (vs := [.agg #[.int .i64 x7.Op, .int .i64 x7.N, strv x7.Name, .int .i64 x7.At]]) (caps := []) hF rfl rfl Tryd.call45 (expr_Right_1_c (hp_le _) (Tab.mono (Tab.mono hT hxHB1.sub) (St.up hS)) h13) ⟨rfl, trivial⟩ rfl (fun v w a hR hF => ?_)
      obtain ⟨rfl, hk⟩ := hR
      replace hS := hS.pass hk
      clear hk
      refine re <| ?_
      rcases bdich r12 with hb14 | hb14
      ·
        replace hm := ite_t hm hb14
        refine tn <| ctv hF rfl hb14 <| th <| ?_
        refine rg <| ?_
        refine ls <| q1 hF rfl (e_move hF rfl) fun a hF => ?_
        refine ls <| q1 hF rfl (e_asg hF rfl) fun a hF => ?_
        refine re <| ?_
        refine tn <| ?_
        refine wp_ret <| br <| tr <| tr <| br <| tr <| ?_
        obtain rfl := Option.some.inj hm
        exact r1 hF Tryd.results65 rfl ⟨rfl, hS.keep⟩
      ·
        replace hm := ite_f hm hb14
        refine tn <| cfv hF rfl hb14 <| wp_skip <| ?_
        refine bn <| tn <| ?_
        refine rg <| ?_
        refine ls <| q1 hF rfl (e_add hF rfl rfl) fun a hF => ?_
        refine ls <| q1 hF rfl (e_move hF rfl) fun a hF => ?_
        refine re <| ?_
        refine tn <| ?_
        exact ⟨(nn2, (IntKind.i64.wrap (vB6 + 1))), ⟨HB1, oaB2, capB3, hm, hxHB1, hF.has ⟨rfl, rfl, rfl, rfl, trivial⟩, hS, hcB4, hrB5⟩, Nat.lt_succ_self _⟩
    ·
      replace hm := itp_f hm hb6
      refine tn <| th <| cfv hF rfl hb6 <| ?_
      refine wp_exit <| tx <| tx <| bx <| ?_
      refine tn <| ?_
      exact ⟨HB1, hm, hxHB1, hF.has trivial, hS⟩
  clear hm hF hS
  rintro a w ⟨HA1, hm, hxHA1, hF, hS⟩
  unfold slices_IndexFunc_api_Node_api_Node__Right_1_j1 at hm
  refine th <| ?_
  refine rg <| ?_
  refine ls <| q1 hF rfl (e_asg hF rfl) fun a hF => ?_
  refine re <| ?_
  refine tn <| ?_
  refine wp_ret <| ?_
  obtain rfl := Option.some.inj hm
  exact r1 hF Tryd.results65 rfl ⟨rfl, hS.keep⟩

set_option maxRecDepth 100000 in
theorem slices_ContainsFunc_api_Node_api_Node__Right_1_c {N : Nat} {w0 : World} {H : PH} (hH : H.le w0) (hT : Tab H) {oa2 : Option Addr} {cap3 : Nat} {p1 : (List api_Node)} (hc4 : p1.length ≤ cap3) (hr5 : SR H oa2 p1) {r : Bool} (hm : slices_ContainsFunc_api_Node_api_Node__Right_1 N p1 = some r) : Tot Tryd.prog 47 #[.slice oa2 p1.length cap3, .func (.func 45) #[] #[]] w0 (fun v w' => v = .bool r ∧ Keep Nil w0 w') := by
  unfold slices_ContainsFunc_api_Node_api_Node__Right_1 at hm
  refine fn0 (args := [.slice oa2 p1.length cap3, .func (.func 45) #[] #[]]) (F := [(0, .slice oa2 p1.length cap3), (1, .func (.func 45) #[] #[])]) Tryd.func47 rfl Tryd.ntmps47 rfl rfl fun a hF => ?_
  have hS : St w0 Nil [H] [] w0 := start1 hH
  refine th <| ?_
  refine rg <| ?_
  refine ls <| q1 hF rfl (e_asg hF rfl) fun a hF => ?_
  refine re <| ?_
  refine tn <| th <| ?_
  replace hm := bind_some hm
  obtain ⟨r6, h7, hm⟩ := hm
  refine rg <| ?_
  refine ls <| q1 hF rfl (e_move hF rfl) fun a hF => ?_
  refine ls <| q1 hF rfl (e_move hF rfl) fun a hF => ?_
  refine ls <| c1 hF rfl Tryd.call65 (slices_IndexFunc_api_Node_api_Node__Right_1_c (hp_le _) (Tab.mono hT (St.up hS)) hc4 (St.srH hS hr5) h7) ⟨rfl, rfl, trivial⟩ (fun v w a hR hF => ?_)
  obtain ⟨rfl, hk⟩ := hR
  replace hS := hS.pass hk
  clear hk
  refine ls <| q1 hF rfl (e_geq hF rfl rfl) fun a hF => ?_
  refine ls <| q1 hF rfl (e_asg hF rfl) fun a hF => ?_
  refine re <| ?_
  refine tn <| ?_
  refine wp_ret <| ?_
  obtain rfl := Option.some.inj hm
  exact r1 hF Tryd.results47 rfl ⟨rfl, hS.keep⟩

set_option maxRecDepth 100000 in
theorem expr_many_c {N : Nat} {w0 : World} {H : PH} (hH : H.le w0) {p1 : Int} {r : Int} (hm : expr_many N p1 = some r) : Tot Tryd.prog 66 #[.int .i64 p1] w0 (fun v w' => v = .int .i64 r ∧ Keep Nil w0 w') := by
  unfold expr_many at hm
  refine fn0 (args := [.int .i64 p1]) (F := [(0, .int .i64 p1)]) Tryd.func66 rfl Tryd.ntmps66 rfl rfl fun a hF => ?_
  have hS : St w0 Nil [H] [] w0 := start1 hH
  refine th <| ?_
  refine rg <| ?_
  refine ls <| q1 hF rfl (e_asg hF rfl) fun a hF => ?_
  refine re <| ?_
  refine tn <| th <| wp_block <| th <| ?_
  refine rg <| ?_
  refine ls <| q1 hF rfl (e_move hF rfl) fun a hF => ?_
  refine ls <| q1 hF rfl (e_eql hF rfl rfl) fun a hF => ?_
  refine ls <| q1 hF rfl (e_move hF rfl) fun a hF => ?_
  refine grp (N := 24) (Fk := [(0, .int .i64 p1), (9, .bool ((decide (p1 = 1)) || (decide (p1 = 2))))]) (b := (decide (p1 = 1))) 3 hS ?_ ?_ ?_
  ·
    intro hb key
    replace hF := Fr.as hF (t := 6) rfl (congrArg Value.bool hb)
    refine ls <| gn hF rfl rfl rfl rfl fun a hF => ?_
    refine ls <| gn hF rfl rfl rfl rfl fun a hF => ?_
    refine ls <| q1 hF rfl (e_as (v' := .bool ((decide (p1 = 1)) || (decide (p1 = 2)))) (e_pickT hF rfl rfl) (by rw [hb]; rfl)) fun a hF => ?_
    exact key _ _ (hF.has ⟨rfl, rfl, trivial⟩) hS
  ·
    intro hb key
    replace hF := Fr.as hF (t := 6) rfl (congrArg Value.bool hb)
    refine ls <| gy hF rfl rfl <| q1 hF rfl (e_move hF rfl) fun a hF => ?_
    refine ls <| gy hF rfl rfl <| q1 hF rfl (e_eql hF rfl rfl) fun a hF => ?_
    refine ls <| q1 hF rfl (e_as (v' := .bool ((decide (p1 = 1)) || (decide (p1 = 2)))) (e_pickF hF rfl rfl) (by rw [hb]; rfl)) fun a hF => ?_
    exact key _ _ (hF.has ⟨rfl, rfl, trivial⟩) hS
  intro a w hF hS
  refine ls <| q1 hF rfl (e_asg hF rfl) fun a hF => ?_
  refine re <| ?_
  rcases bdich ((decide (p1 = 1)) || (decide (p1 = 2))) with hb2 | hb2
  ·
    replace hm := ite_t hm hb2
    refine tn <| ctv hF rfl hb2 <| th <| ?_
    refine rg <| ?_
    refine ls <| q1 hF rfl (e_asg hF rfl) fun a hF => ?_
    refine re <| ?_
    refine tn <| ?_
    refine wp_ret <| br <| tr <| ?_
    obtain rfl := Option.some.inj hm
    exact r1 hF Tryd.results66 rfl ⟨rfl, hS.keep⟩
  ·
    replace hm := ite_f hm hb2
    refine tn <| cfv hF rfl hb2 <| th <| ?_
    refine rg <| ?_
    refine ls <| q1 hF rfl (e_move hF rfl) fun a hF => ?_
    refine ls <| q1 hF rfl (e_eql hF rfl rfl) fun a hF => ?_
    refine ls <| q1 hF rfl (e_move hF rfl) fun a hF => ?_
    refine grp (N := 24) (Fk := [(0, .int .i64 p1), (16, .bool ((decide (p1 = 3)) || (decide (p1 = 4))))]) (b := (decide (p1 = 3))) 3 hS ?_ ?_ ?_
    ·
      intro hb key
      replace hF := Fr.as hF (t := 13) rfl (congrArg Value.bool hb)
      refine ls <| gn hF rfl rfl rfl rfl fun a hF => ?_
      refine ls <| gn hF rfl rfl rfl rfl fun a hF => ?_
      refine ls <| q1 hF rfl (e_as (v' := .bool ((decide (p1 = 3)) || (decide (p1 = 4)))) (e_pickT hF rfl rfl) (by rw [hb]; rfl)) fun a hF => ?_
      exact key _ _ (hF.has ⟨rfl, rfl, trivial⟩) hS
    ·
      intro hb key
      replace hF := Fr.as hF (t := 13) rfl (congrArg Value.bool hb)
      refine ls <| gy hF rfl rfl <| q1 hF rfl (e_move hF rfl) fun a hF => ?_
      refine ls <| gy hF rfl rfl <| q1 hF rfl (e_eql hF rfl rfl) fun a hF => ?_
      refine ls <| q1 hF rfl (e_as (v' := .bool ((decide (p1 = 3)) || (decide (p1 = 4)))) (e_pickF hF rfl rfl) (by rw [hb]; rfl)) fun a hF => ?_
      exact key _ _ (hF.has ⟨rfl, rfl, trivial⟩) hS
    intro a w hF hS
    refine ls <| q1 hF rfl (e_asg hF rfl) fun a hF => ?_
    refine re <| ?_
    rcases bdich ((decide (p1 = 3)) || (decide (p1 = 4))) with hb3 | hb3
    ·
      replace hm := ite_t hm hb3
      refine tn <| ctv hF rfl hb3 <| th <| ?_
      refine rg <| ?_
      refine ls <| q1 hF rfl (e_asg hF rfl) fun a hF => ?_
      refine re <| ?_
      refine tn <| ?_
      refine wp_ret <| br <| tr <| ?_
      obtain rfl := Option.some.inj hm
      exact r1 hF Tryd.results66 rfl ⟨rfl, hS.keep⟩
    ·
      replace hm := ite_f hm hb3
      refine tn <| cfv hF rfl hb3 <| th <| ?_
      refine rg <| ?_
      refine ls <| q1 hF rfl (e_move hF rfl) fun a hF => ?_
      refine ls <| q1 hF rfl (e_geq hF rfl rfl) fun a hF => ?_
      refine ls <| q1 hF rfl (e_move hF rfl) fun a hF => ?_
      refine grp (N := 24) (Fk := [(23, .bool ((decide (5 ≤ p1)) && (decide (p1 ≤ 15))))]) (b := (decide (5 ≤ p1))) 3 hS ?_ ?_ ?_
      ·
        intro hb key
        replace hF := Fr.as hF (t := 20) rfl (congrArg Value.bool hb)
        refine ls <| gy hF rfl rfl <| q1 hF rfl (e_move hF rfl) fun a hF => ?_
        refine ls <| gy hF rfl rfl <| q1 hF rfl (e_leq hF rfl rfl) fun a hF => ?_
        refine ls <| q1 hF rfl (e_as (v' := .bool ((decide (5 ≤ p1)) && (decide (p1 ≤ 15)))) (e_pickT hF rfl rfl) (by rw [hb]; rfl)) fun a hF => ?_
        exact key _ _ (hF.has ⟨rfl, trivial⟩) hS
      ·
        intro hb key
        replace hF := Fr.as hF (t := 20) rfl (congrArg Value.bool hb)
        refine ls <| gn hF rfl rfl rfl rfl fun a hF => ?_
        refine ls <| gn hF rfl rfl rfl rfl fun a hF => ?_
        refine ls <| q1 hF rfl (e_as (v' := .bool ((decide (5 ≤ p1)) && (decide (p1 ≤ 15)))) (e_pickF hF rfl rfl) (by rw [hb]; rfl)) fun a hF => ?_
        exact key _ _ (hF.has ⟨rfl, trivial⟩) hS
      intro a w hF hS
      refine ls <| q1 hF rfl (e_asg hF rfl) fun a hF => ?_
      refine re <| ?_
      rcases bdich ((decide (5 ≤ p1)) && (decide (p1 ≤ 15))) with hb4 | hb4
      ·
        replace hm := ite_t hm hb4
        refine tn <| ctv hF rfl hb4 <| th <| ?_
        refine rg <| ?_
        refine ls <| q1 hF rfl (e_asg hF rfl) fun a hF => ?_
        refine re <| ?_
        refine tn <| ?_
        refine wp_ret <| br <| tr <| ?_
        obtain rfl := Option.some.inj hm
        exact r1 hF Tryd.results66 rfl ⟨rfl, hS.keep⟩
      ·
        replace hm := ite_f hm hb4
        refine tn <| cfv hF rfl hb4 <| wp_skip <| ?_
        refine bn <| tn <| th <| ?_
        refine rg <| ?_
        refine ls <| q1 hF rfl (e_asg hF rfl) fun a hF => ?_
        refine re <| ?_
        refine tn <| ?_
        refine wp_ret <| ?_
        obtain rfl := Option.some.inj hm
        exact r1 hF Tryd.results66 rfl ⟨rfl, hS.keep⟩

set_option maxRecDepth 100000 in
theorem expr_End_c {N : Nat} {w0 : World} {H : PH} (hH : H.le w0) {oa2 : Option Addr} {cap3 : Nat} {p1 : (List api_Node)} (hc4 : p1.length ≤ cap3) (hr5 : SR H oa2 p1) {p6 : Int} {r : Int} (hm : expr_End N p1 p6 = some r) : Tot Tryd.prog 48 #[.slice oa2 p1.length cap3, .int .i64 p6] w0 (fun v w' => v = .int .i64 r ∧ Keep Nil w0 w') := by
  unfold expr_End at hm
  refine fn0 (args := [.slice oa2 p1.length cap3, .int .i64 p6]) (F := [(0, .slice oa2 p1.length cap3), (1, .int .i64 p6)]) Tryd.func48 rfl Tryd.ntmps48 rfl rfl fun a hF => ?_
  have hS : St w0 Nil [H] [] w0 := start1 hH
  refine th <| ?_
  refine rg <| ?_
  refine ls <| q1 hF rfl (e_asg hF rfl) fun a hF => ?_
  refine re <| ?_
  refine tn <| th <| th <| ?_
  refine rg <| ?_
  refine ls <| q1 hF rfl (e_asg hF rfl) fun a hF => ?_
  refine re <| ?_
  refine tn <| midK (fun a w => ∃ (vA2 : Int) (HA1 : PH), expr_End_j1 vA2 = some r ∧ Ext w0 H HA1 ∧ Fr 38 [(1, .int .i64 vA2)] a ∧ St w0 Nil [HA1] [] w) ?_ ?_
  ·
    refine wp_block <| lp (α := Nat × Int × Int) (fun (gh : Nat × Int × Int) a w => match gh with | (nn2, vB6, vB7) => ∃ (HB1 : PH) (oaB2 : Option Addr) (capB3 : Nat), (expr_End_l2 N expr_End_j1 p1) nn2 vB6 vB7 = some r ∧ Ext w0 H HB1 ∧ Fr 38 [(0, .slice oaB2 p1.length capB3), (1, .int .i64 vB6), (5, .int .i64 vB7)] a ∧ St w0 Nil [HB1] [] w ∧ p1.length ≤ capB3 ∧ SR HB1 oaB2 p1) (fun gh => gh.1) (N, p6, 1) ⟨H, oa2, cap3, hm, (Ext.refl _ _), hF.has ⟨rfl, rfl, rfl, trivial⟩, hS, hc4, hr5⟩ ?_
    clear hm hF hS
    rintro ⟨nn2, vB6, vB7⟩ a w ⟨HB1, oaB2, capB3, hm, hxHB1, hF, hS, hcB4, hrB5⟩
    obtain _ | nn2 := nn2
    · simp [expr_End_l2] at hm
    rw [expr_End_l2] at hm
    refine th <| th <| ?_
    refine rg <| ?_
    refine ls <| q1 hF rfl (e_move hF rfl) fun a hF => ?_
    refine ls <| q1 hF rfl (e_gtr hF rfl rfl) fun a hF => ?_
    refine re <| ?_
    rcases bdich (decide (0 < vB7)) with hb7 | hb7
    ·
      replace hm := itp_t hm hb7
      refine tn <| ctv hF rfl hb7 <| wp_skip <| ?_
      refine tn <| th <| wp_block <| th <| th <| midK (fun a w => ∃ (vC1 : Bool), (expr_End_j3 N (expr_End_l2 N expr_End_j1 p1 nn2) p1 vB6 vB7) vC1 = some r ∧ Fr 38 [(0, .slice oaB2 p1.length capB3), (1, .int .i64 vB6), (5, .int .i64 vB7), (26, .bool vC1)] a ∧ St w0 Nil [HB1] [] w) ?_ ?_
      ·
        rcases bdich ((decide (vB6 < 0)) || (decide ((p1.length : Int) ≤ vB6))) with hb8 | hb8
        ·
          replace hm := ite_t hm hb8
          refine rg <| ?_
          refine ls <| q1 hF rfl (e_move hF rfl) fun a hF => ?_
          refine ls <| q1 hF rfl (e_lss hF rfl rfl) fun a hF => ?_
          refine ls <| q1 hF rfl (e_move hF rfl) fun a hF => ?_
          refine grp (N := 38) (Fk := [(0, .slice oaB2 p1.length capB3), (1, .int .i64 vB6), (5, .int .i64 vB7), (17, .bool ((decide (vB6 < 0)) || (decide ((p1.length : Int) ≤ vB6))))]) (b := (decide (vB6 < 0))) 5 hS ?_ ?_ ?_
          ·
            intro hb key
            replace hF := Fr.as hF (t := 12) rfl (congrArg Value.bool hb)
            refine ls <| gn hF rfl rfl rfl rfl fun a hF => ?_
            refine ls <| gn hF rfl rfl rfl rfl fun a hF => ?_
            refine ls <| gn hF rfl rfl rfl rfl fun a hF => ?_
            refine ls <| gn hF rfl rfl rfl rfl fun a hF => ?_
            refine ls <| q1 hF rfl (e_as (v' := .bool ((decide (vB6 < 0)) || (decide ((p1.length : Int) ≤ vB6)))) (e_pickT hF rfl rfl) (by rw [hb]; rfl)) fun a hF => ?_
            exact key _ _ (hF.has ⟨rfl, rfl, rfl, rfl, trivial⟩) hS
          ·
            intro hb key
            replace hF := Fr.as hF (t := 12) rfl (congrArg Value.bool hb)
            refine ls <| gy hF rfl rfl <| q1 hF rfl (e_move hF rfl) fun a hF => ?_
            refine ls <| gy hF rfl rfl <| q1 hF rfl (e_move hF rfl) fun a hF => ?_
            refine ls <| gy hF rfl rfl <| q1 hF rfl (e_lenL (α := api_Node) (xs := p1) hF Tryd.runUnderlying22 rfl) fun a hF => ?_
            refine ls <| gy hF rfl rfl <| q1 hF rfl (e_geq hF rfl rfl) fun a hF => ?_
            refine ls <| q1 hF rfl (e_as (v' := .bool ((decide (vB6 < 0)) || (decide ((p1.length : Int) ≤ vB6)))) (e_pickF hF rfl rfl) (by rw [hb]; rfl)) fun a hF => ?_
            exact key _ _ (hF.has ⟨rfl, rfl, rfl, rfl, trivial⟩) hS
          intro a w hF hS
          refine ls <| q1 hF rfl (e_as (e_move hF rfl) (congrArg Value.bool hb8)) fun a hF => ?_
          refine ls <| gn hF rfl rfl rfl rfl fun a hF => ?_
          refine ls <| gn hF rfl rfl rfl rfl fun a hF => ?_
          refine ls <| gn hF rfl rfl rfl rfl fun a hF => ?_
          refine ls <| gn hF rfl rfl rfl rfl fun a hF => ?_
          refine ls <| gn hF rfl rfl rfl rfl fun a hF => ?_
          refine ls <| gn hF rfl rfl rfl rfl fun a hF => ?_
          refine ls <| gn hF rfl rfl rfl rfl fun a hF => ?_
          refine ls <| q1 hF rfl (e_pickT hF rfl rfl) fun a hF => ?_
          refine re <| ?_
          refine tn <| ?_
          exact ⟨true, hm, hF.has ⟨rfl, rfl, rfl, rfl, trivial⟩, hS⟩
        ·
          replace hm := ite_f hm hb8
          replace hm := bind_some hm
          obtain ⟨x9, h10, hm⟩ := hm
          obtain ⟨c11, g12, hl13⟩ := SR.get hrB5 h10
          obtain rfl := api_Node_open g12
          replace hm := bind_some hm
          obtain ⟨r14, h15, hm⟩ := hm
          refine rg <| ?_
          refine ls <| q1 hF rfl (e_move hF rfl) fun a hF => ?_
          refine ls <| q1 hF rfl (e_lss hF rfl rfl) fun a hF => ?_
          refine ls <| q1 hF rfl (e_move hF rfl) fun a hF => ?_
          refine grp (N := 38) (Fk := [(0, .slice oaB2 p1.length capB3), (1, .int .i64 vB6), (5, .int .i64 vB7), (17, .bool ((decide (vB6 < 0)) || (decide ((p1.length : Int) ≤ vB6))))]) (b := (decide (vB6 < 0))) 5 hS ?_ ?_ ?_
          ·
            intro hb key
            replace hF := Fr.as hF (t := 12) rfl (congrArg Value.bool hb)
            refine ls <| gn hF rfl rfl rfl rfl fun a hF => ?_
            refine ls <| gn hF rfl rfl rfl rfl fun a hF => ?_
            refine ls <| gn hF rfl rfl rfl rfl fun a hF => ?_
            refine ls <| gn hF rfl rfl rfl rfl fun a hF => ?_
            refine ls <| q1 hF rfl (e_as (v' := .bool ((decide (vB6 < 0)) || (decide ((p1.length : Int) ≤ vB6)))) (e_pickT hF rfl rfl) (by rw [hb]; rfl)) fun a hF => ?_
            exact key _ _ (hF.has ⟨rfl, rfl, rfl, rfl, trivial⟩) hS
          ·
            intro hb key
            replace hF := Fr.as hF (t := 12) rfl (congrArg Value.bool hb)
            refine ls <| gy hF rfl rfl <| q1 hF rfl (e_move hF rfl) fun a hF => ?_
            refine ls <| gy hF rfl rfl <| q1 hF rfl (e_move hF rfl) fun a hF => ?_
            refine ls <| gy hF rfl rfl <| q1 hF rfl (e_lenL (α := api_Node) (xs := p1) hF Tryd.runUnderlying22 rfl) fun a hF => ?_
            refine ls <| gy hF rfl rfl <| q1 hF rfl (e_geq hF rfl rfl) fun a hF => ?_
            refine ls <| q1 hF rfl (e_as (v' := .bool ((decide (vB6 < 0)) || (decide ((p1.length : Int) ≤ vB6)))) (e_pickF hF rfl rfl) (by rw [hb]; rfl)) fun a hF => ?_
            exact key _ _ (hF.has ⟨rfl, rfl, rfl, rfl, trivial⟩) hS
          intro a w hF hS
          refine ls <| q1 hF rfl (e_as (e_move hF rfl) (congrArg Value.bool hb8)) fun a hF => ?_
          refine ls <| gy hF rfl rfl <| q1 hF rfl (e_move hF rfl) fun a hF => ?_
          refine ls <| gy hF rfl rfl <| q1 hF rfl (e_move hF rfl) fun a hF => ?_
          refine ls <| gy hF rfl rfl <| q1 hF rfl (e_iaI hF Tryd.runUnderlying22 Tryd.sizeOf39 rfl rfl h10 (SR.oaI hrB5 (by decide) h10)) fun a hF => ?_
          refine ls <| gy hF rfl rfl <| q1 hF rfl (e_fa hF fa39_0 rfl) fun a hF => ?_
          refine ls <| gy hF rfl rfl <| q1 hF rfl (e_ld hF Tryd.isAgg3 rfl (PH.le.cell (Lds.le (St.ld hS)) (hl13 0 _ rfl))) fun a hF => ?_
          refine ls <| gy hF rfl rfl <| c1 hF rfl Tryd.call66 (expr_many_c (hp_le _) h15) ⟨rfl, trivial⟩ (fun v w a hR hF => ?_)
          obtain ⟨rfl, hk⟩ := hR
          replace hS := hS.pass hk
          clear hk
          refine ls <| gy hF rfl rfl <| q1 hF rfl (e_eql hF rfl rfl) fun a hF => ?_
          refine ls <| q1 hF rfl (e_pickF hF rfl rfl) fun a hF => ?_
          refine re <| ?_
          refine tn <| ?_
          exact ⟨(decide (r14 = (-1))), hm, hF.has ⟨rfl, rfl, rfl, rfl, trivial⟩, hS⟩
      clear hm hF hS
      rintro a w ⟨vC1, hm, hF, hS⟩
      unfold expr_End_j3 at hm
      rcases bdich vC1 with hb16 | hb16
      ·
        replace hm := ite_t hm hb16
        refine ctv hF rfl hb16 <| th <| ?_
        refine rg <| ?_
        refine ls <| q1 hF rfl (e_asg hF rfl) fun a hF => ?_
        refine re <| ?_
        refine tn <| ?_
        refine wp_ret <| tr <| br <| tr <| tr <| br <| tr <| ?_
        obtain rfl := Option.some.inj hm
        exact r1 hF Tryd.results48 rfl ⟨rfl, hS.keep⟩
      ·
        replace hm := ite_f hm hb16
        refine cfv hF rfl hb16 <| wp_skip <| ?_
        refine tn <| th <| ?_
        replace hm := bind_some hm
        obtain ⟨x17, h18, hm⟩ := hm
        obtain ⟨c19, g20, hl21⟩ := SR.get hrB5 h18
        obtain rfl := api_Node_open g20
        replace hm := bind_some hm
        obtain ⟨r22, h23, hm⟩ := hm
        refine rg <| ?_
        refine ls <| q1 hF rfl (e_move hF rfl) fun a hF => ?_
        refine ls <| q1 hF rfl (e_move hF rfl) fun a hF => ?_
        refine ls <| q1 hF rfl (e_move hF rfl) fun a hF => ?_
        refine ls <| q1 hF rfl (e_iaI hF Tryd.runUnderlying22 Tryd.sizeOf39 rfl rfl h18 (SR.oaI hrB5 (by decide) h18)) fun a hF => ?_
        refine ls <| q1 hF rfl (e_fa hF fa39_0 rfl) fun a hF => ?_
        refine ls <| q1 hF rfl (e_ld hF Tryd.isAgg3 rfl (PH.le.cell (Lds.le (St.ld hS)) (hl21 0 _ rfl))) fun a hF => ?_
        refine ls <| c1 hF rfl Tryd.call66 (expr_many_c (hp_le _) h23) ⟨rfl, trivial⟩ (fun v w a hR hF => ?_)
        obtain ⟨rfl, hk⟩ := hR
        replace hS := hS.pass hk
        clear hk
        refine ls <| q1 hF rfl (e_add hF rfl rfl) fun a hF => ?_
        refine ls <| q1 hF rfl (e_asg hF rfl) fun a hF => ?_
        refine re <| ?_
        refine tn <| ?_
        refine rg <| ?_
        refine ls <| q1 hF rfl (e_move hF rfl) fun a hF => ?_
        refine ls <| q1 hF rfl (e_add hF rfl rfl) fun a hF => ?_
        refine ls <| q1 hF rfl (e_asg hF rfl) fun a hF => ?_
        refine re <| ?_
        refine bn <| tn <| ?_
        refine rg <| ?_
        refine ls <| q1 hF rfl (e_move hF rfl) fun a hF => ?_
        refine ls <| q1 hF rfl (e_sub hF rfl rfl) fun a hF => ?_
        refine ls <| q1 hF rfl (e_asg hF rfl) fun a hF => ?_
        refine re <| ?_
        refine tn <| ?_
        exact ⟨(nn2, (IntKind.i64.wrap (vB6 + 1)), (IntKind.i64.wrap ((IntKind.i64.wrap (vB7 + r22)) - 1))), ⟨HB1, oaB2, capB3, hm, hxHB1, hF.has ⟨rfl, rfl, rfl, trivial⟩, hS, hcB4, hrB5⟩, Nat.lt_succ_self _⟩
    ·
      replace hm := itp_f hm hb7
      refine tn <| cfv hF rfl hb7 <| ?_
      refine wp_exit <| tx <| tx <| bx <| ?_
      refine tn <| ?_
      exact ⟨vB6, HB1, hm, hxHB1, hF.has ⟨rfl, trivial⟩, hS⟩
  clear hm hF hS
  rintro a w ⟨vA2, HA1, hm, hxHA1, hF, hS⟩
  unfold expr_End_j1 at hm
  refine th <| ?_
  refine rg <| ?_
  refine ls <| q1 hF rfl (e_move hF rfl) fun a hF => ?_
  refine ls <| q1 hF rfl (e_asg hF rfl) fun a hF => ?_
  refine re <| ?_
  refine tn <| ?_
  refine wp_ret <| ?_
  obtain rfl := Option.some.inj hm
  exact r1 hF Tryd.results48 rfl ⟨rfl, hS.keep⟩

set_option maxRecDepth 100000 in
theorem expr_operands_c {N : Nat} {w0 : World} {H : PH} (hH : H.le w0) {oa2 : Option Addr} {cap3 : Nat} {p1 : (List api_Node)} (hc4 : p1.length ≤ cap3) (hr5 : SR H oa2 p1) {p6 : Int} {r : (List Int)} (hm : expr_operands N p1 p6 = some r) : Tot Tryd.prog 67 #[.slice oa2 p1.length cap3, .int .i64 p6] w0 (fun v w' => ∃ (oa0 : Option Addr) (cap0 : Nat) (vs0 : List Value), v = .slice oa0 r.length cap0 ∧ (∀ h, Rows h vs0 r) ∧ Fresh w0 (sla 3 1 oa0 r.length cap0 vs0) w') := by
  unfold expr_operands at hm
  refine fn0 (args := [.slice oa2 p1.length cap3, .int .i64 p6]) (F := [(0, .slice oa2 p1.length cap3), (1, .int .i64 p6)]) Tryd.func67 rfl Tryd.ntmps67 rfl rfl fun a hF => ?_
  have hS : St w0 Nil [H] [] w0 := start1 hH
  refine th <| ?_
  refine rg <| ?_
  refine ls <| q1 hF rfl (e_asg hF rfl) fun a hF => ?_
  refine re <| ?_
  refine tn <| th <| ?_
  refine rg <| ?_
  refine ls <| q1 hF rfl (e_asg hF rfl) fun a hF => ?_
  refine re <| ?_
  refine tn <| th <| ?_
  refine rg <| ?_
  refine ls <| q1 hF rfl (e_move hF rfl) fun a hF => ?_
  refine ls <| q1 hF rfl (e_add hF rfl rfl) fun a hF => ?_
  refine ls <| q1 hF rfl (e_asg hF rfl) fun a hF => ?_
  refine re <| ?_
  refine tn <| th <| th <| ?_
  replace hm := bind_some hm
  obtain ⟨x7, h8, hm⟩ := hm
  obtain ⟨c9, g10, hl11⟩ := SR.get hr5 h8
  obtain rfl := api_Node_open g10
  replace hm := bind_some hm
  obtain ⟨r12, h13, hm⟩ := hm
  refine rg <| ?_
  refine ls <| q1 hF rfl (e_move hF rfl) fun a hF => ?_
  refine ls <| q1 hF rfl (e_move hF rfl) fun a hF => ?_
  refine ls <| q1 hF rfl (e_iaI hF Tryd.runUnderlying22 Tryd.sizeOf39 rfl rfl h8 (SR.oaI hr5 (by decide) h8)) fun a hF => ?_
  refine ls <| q1 hF rfl (e_fa hF fa39_0 rfl) fun a hF => ?_
  refine ls <| q1 hF rfl (e_ld hF Tryd.isAgg3 rfl (PH.le.cell (Lds.le (St.ld hS)) (hl11 0 _ rfl))) fun a hF => ?_
  refine ls <| c1 hF rfl Tryd.call66 (expr_many_c (hp_le _) h13) ⟨rfl, trivial⟩ (fun v w a hR hF => ?_)
  obtain ⟨rfl, hk⟩ := hR
  replace hS := hS.pass hk
  clear hk
  refine ls <| q1 hF rfl (e_move hF rfl) fun a hF => ?_
  refine re <| ?_
  refine tn <| midK (fun a w => ∃ (vA2 : (List Int)) (HA1 : PH) (oaA3 : Option Addr) (capA4 : Nat) (vsA5 : List Value), expr_operands_j1 vA2 = some r ∧ Ext w0 H HA1 ∧ Fr 26 [(5, .slice oaA3 vA2.length capA4)] a ∧ St w0 Nil [HA1] [sla 3 1 oaA3 vA2.length capA4 vsA5] w ∧ Rows HA1 vsA5 vA2) ?_ ?_
  ·
    replace hS := St.nilS hS 3 1
    refine wp_block <| lp (α := Nat × (List Int) × Int × Int) (fun (gh : Nat × (List Int) × Int × Int) a w => match gh with | (nn2, vB6, vB12, vB13) => ∃ (HB1 : PH) (oaB2 : Option Addr) (capB3 : Nat) (oaB7 : Option Addr) (capB8 : Nat) (vsB9 : List Value), (expr_operands_l2 N expr_operands_j1 p1 r12) nn2 vB6 vB12 vB13 = some r ∧ Ext w0 H HB1 ∧ Fr 26 [(0, .slice oaB2 p1.length capB3), (5, .slice oaB7 vB6.length capB8), (6, .int .i64 vB12), (14, .int .i64 r12), (15, .int .i64 vB13)] a ∧ St w0 Nil [HB1] [sla 3 1 oaB7 vB6.length capB8 vsB9] w ∧ p1.length ≤ capB3 ∧ SR HB1 oaB2 p1 ∧ Rows HB1 vsB9 vB6) (fun gh => gh.1) (N, [], (IntKind.i64.wrap (p6 + 1)), 0) ⟨H, oa2, cap3, none, 0, [], hm, (Ext.refl _ _), hF.has ⟨rfl, rfl, rfl, rfl, rfl, trivial⟩, hS, hc4, hr5, .nil⟩ ?_
    clear hm hF hS
    rintro ⟨nn2, vB6, vB12, vB13⟩ a w ⟨HB1, oaB2, capB3, oaB7, capB8, vsB9, hm, hxHB1, hF, hS, hcB4, hrB5, hvB10⟩
    obtain _ | nn2 := nn2
    · simp [expr_operands_l2] at hm
    rw [expr_operands_l2] at hm
    refine th <| ?_
    refine rg <| ?_
    refine ls <| q1 hF rfl (e_lss hF rfl rfl) fun a hF => ?_
    refine re <| ?_
    rcases bdich (decide (vB13 < r12)) with hb14 | hb14
    ·
      replace hm := itp_t hm hb14
      refine tn <| th <| ctv hF rfl hb14 <| wp_skip <| ?_
      refine tn <| th <| wp_block <| th <| ?_
      replace hm := bind_some hm
      obtain ⟨l18, h19, hm⟩ := hm
      refine rg <| ?_
      refine ls <| q1 hF rfl (e_move hF rfl) fun a hF => ?_
      refine ls <| q1 hF rfl (e_move hF rfl) fun a hF => ?_
      refine ls <| a_bsl (e := 3) (sz := 1) [.int .i64 vB12] hF rfl hS rfl rfl rfl (fun w => by kernel_rfl) fun b16 w a hS hF => ?_
      have hv15 : Rows (α := Int) HB1 [.int .i64 vB12] ([vB12] : List Int) := (.cons (c := [.int .i64 vB12]) rfl .nil)
      refine ls <| m_app (α := Int) (xs := vB6) (ys := ([vB12] : List Int)) hF rfl hS Tryd.underlying33 info3 rfl (by decide) rfl rfl rfl (.tail _ (.head _)) hvB10 (hS.rdO (.head _)) hv15 h19 fun oa20 cap21 vs22 w a hv23 hU hF => ?_
      replace hS := hU _ (.tail .head)
      clear hU
      replace hS := hS.drop .head
      refine ls <| q1 hF rfl (e_asg hF rfl) fun a hF => ?_
      refine re <| ?_
      refine tn <| ?_
      replace hm := bind_some hm
      obtain ⟨r24, h25, hm⟩ := hm
      refine rg <| ?_
      refine ls <| q1 hF rfl (e_move hF rfl) fun a hF => ?_
      refine ls <| q1 hF rfl (e_move hF rfl) fun a hF => ?_
      refine ls <| c1 hF rfl Tryd.call48 (expr_End_c (hp_le _) hcB4 (St.srH hS hrB5) h25) ⟨rfl, rfl, trivial⟩ (fun v w a hR hF => ?_)
      obtain ⟨rfl, hk⟩ := hR
      replace hS := hS.pass hk
      clear hk
      refine ls <| q1 hF rfl (e_asg hF rfl) fun a hF => ?_
      refine re <| ?_
      refine bn <| tn <| ?_
      refine rg <| ?_
      refine ls <| q1 hF rfl (e_add hF rfl rfl) fun a hF => ?_
      refine ls <| q1 hF rfl (e_move hF rfl) fun a hF => ?_
      refine re <| ?_
      refine tn <| ?_
      exact ⟨(nn2, l18, r24, (IntKind.i64.wrap (vB13 + 1))), ⟨HB1, oaB2, capB3, oa20, cap21, vs22, hm, hxHB1, hF.has ⟨rfl, rfl, rfl, rfl, rfl, trivial⟩, hS, hcB4, hrB5, hv23⟩, Nat.lt_succ_self _⟩
    ·
      replace hm := itp_f hm hb14
      refine tn <| th <| cfv hF rfl hb14 <| ?_
      refine wp_exit <| tx <| tx <| bx <| ?_
      refine tn <| ?_
      exact ⟨vB6, HB1, oaB7, capB8, vsB9, hm, hxHB1, hF.has ⟨rfl, trivial⟩, hS, hvB10⟩
  clear hm hF hS
  rintro a w ⟨vA2, HA1, oaA3, capA4, vsA5, hm, hxHA1, hF, hS, hvA6⟩
  unfold expr_operands_j1 at hm
  refine th <| ?_
  refine rg <| ?_
  refine ls <| q1 hF rfl (e_move hF rfl) fun a hF => ?_
  refine ls <| q1 hF rfl (e_asg hF rfl) fun a hF => ?_
  refine re <| ?_
  refine tn <| ?_
  refine wp_ret <| ?_
  obtain rfl := Option.some.inj hm
  exact r1 hF Tryd.results67 rfl ⟨_, _, _, rfl, (fun _ => Rows.ind hvA6), hS.endFresh (.head _)⟩

set_option maxRecDepth 100000 in
theorem expr_depth_c : ∀ (N : Nat) {w0 : World} {H : PH} (hH : H.le w0) {oa2 : Option Addr} {cap3 : Nat} {p1 : (List api_Node)} (hc4 : p1.length ≤ cap3) (hr5 : SR H oa2 p1) {p6 : Int} {r : Int} (hm : expr_depth N p1 p6 = some r), Tot Tryd.prog 49 #[.slice oa2 p1.length cap3, .int .i64 p6] w0 (fun v w' => v = .int .i64 r ∧ Keep Nil w0 w') := by
  intro N
  induction N with
  | zero => intros; rename_i hm; simp [expr_depth] at hm
  | succ N ih =>
  intro w0 H hH oa2 cap3 p1 hc4 hr5 p6 r hm
  rw [expr_depth] at hm
  refine fn0 (args := [.slice oa2 p1.length cap3, .int .i64 p6]) (F := [(0, .slice oa2 p1.length cap3), (1, .int .i64 p6)]) Tryd.func49 rfl Tryd.ntmps49 rfl rfl fun a hF => ?_
  have hS : St w0 Nil [H] [] w0 := start1 hH
  refine th <| ?_
  refine rg <| ?_
  refine ls <| q1 hF rfl (e_asg hF rfl) fun a hF => ?_
  refine re <| ?_
  refine tn <| th <| ?_
  refine rg <| ?_
  refine ls <| q1 hF rfl (e_asg hF rfl) fun a hF => ?_
  refine re <| ?_
  refine tn <| th <| th <| ?_
  replace hm := bind_some hm
  obtain ⟨r7, h8, hm⟩ := hm
  refine rg <| ?_
  refine ls <| q1 hF rfl (e_move hF rfl) fun a hF => ?_
  refine ls <| q1 hF rfl (e_move hF rfl) fun a hF => ?_
  refine ls <| c1 hF rfl Tryd.call67 (expr_operands_c (hp_le _) hc4 (St.srH hS hr5) h8) ⟨rfl, rfl, trivial⟩ (fun v w a hR hF => ?_)
  obtain ⟨oa9, cap10, vs11, rfl, hv12, hk⟩ := hR
  replace hS := hS.fresh hk
  clear hk
  replace hv12 := hv12 H
  refine ls <| q1 hF rfl (e_lenL (α := Int) (xs := r7) hF Tryd.runUnderlying33 rfl) fun a hF => ?_
  refine ls <| q1 hF rfl (e_move hF rfl) fun a hF => ?_
  refine re <| ?_
  refine tn <| midK (fun a w => ∃ (vA2 : Int) (HA1 : PH), expr_depth_j1 vA2 = some r ∧ Ext w0 H HA1 ∧ Fr 24 [(5, .int .i64 vA2)] a ∧ St w0 Nil [HA1] [] w) ?_ ?_
  ·
    refine wp_block <| lp (α := Nat × Int × Int) (fun (gh : Nat × Int × Int) a w => match gh with | (nn2, vB6, vB7) => ∃ (HB1 : PH) (oaB2 : Option Addr) (capB3 : Nat), (expr_depth_l2 (expr_depth N) N expr_depth_j1 p1 r7) nn2 vB6 vB7 = some r ∧ Ext w0 H HB1 ∧ Fr 24 [(0, .slice oaB2 p1.length capB3), (5, .int .i64 vB6), (10, .slice oa9 r7.length cap10), (11, .int .i64 (r7.length : Int)), (12, .int .i64 vB7)] a ∧ St w0 Nil [HB1] [sla 3 1 oa9 r7.length cap10 vs11] w ∧ p1.length ≤ capB3 ∧ SR HB1 oaB2 p1) (fun gh => gh.1) (N, 0, 0) ⟨H, oa2, cap3, hm, (Ext.refl _ _), hF.has ⟨rfl, rfl, rfl, rfl, rfl, trivial⟩, hS, hc4, hr5⟩ ?_
    clear hm hF hS
    rintro ⟨nn2, vB6, vB7⟩ a w ⟨HB1, oaB2, capB3, hm, hxHB1, hF, hS, hcB4, hrB5⟩
    obtain _ | nn2 := nn2
    · simp [expr_depth_l2] at hm
    rw [expr_depth_l2] at hm
    refine th <| ?_
    refine rg <| ?_
    refine ls <| q1 hF rfl (e_lss hF rfl rfl) fun a hF => ?_
    refine re <| ?_
    rcases bdich (decide (vB7 < (r7.length : Int))) with hb14 | hb14
    ·
      replace hm := itp_t hm hb14
      refine tn <| th <| ctv hF rfl hb14 <| wp_skip <| ?_
      refine tn <| th <| wp_block <| th <| ?_
      replace hm := bind_some hm
      obtain ⟨x15, h16, hm⟩ := hm
      have ho17 := Rd.oaI (hS.rdO (.head _)) hv12 (by decide) h16
      obtain ⟨c18, g19, hl20⟩ := Rows.getI hv12 h16
      obtain rfl : c18 = [.int .i64 x15] := g19
      refine rg <| ?_
      refine ls <| q1 hF rfl (e_iaI hF Tryd.runUnderlying33 Tryd.sizeOf3 rfl rfl h16 ho17) fun a hF => ?_
      refine ls <| q1 hF rfl (e_ld hF Tryd.isAgg3 rfl ((St.ld hS).elO (.head _) (hl20 0 _ rfl))) fun a hF => ?_
      refine ls <| q1 hF rfl (e_asg hF rfl) fun a hF => ?_
      refine re <| ?_
      refine tn <| ?_
      replace hm := bind_some hm
      obtain ⟨r21, h22, hm⟩ := hm
      refine rg <| ?_
      refine ls <| q1 hF rfl (e_move hF rfl) fun a hF => ?_
      refine ls <| q1 hF rfl (e_move hF rfl) fun a hF => ?_
      refine ls <| q1 hF rfl (e_move hF rfl) fun a hF => ?_
      refine ls <| c1 hF rfl Tryd.call49 (ih (hp_le _) hcB4 (St.srH hS hrB5) h22) ⟨rfl, rfl, trivial⟩ (fun v w a hR hF => ?_)
      obtain ⟨rfl, hk⟩ := hR
      replace hS := hS.pass hk
      clear hk
      refine ls <| q1 hF rfl (e_max hF rfl rfl) fun a hF => ?_
      refine ls <| q1 hF rfl (e_asg hF rfl) fun a hF => ?_
      refine re <| ?_
      refine bn <| tn <| ?_
      refine rg <| ?_
      refine ls <| q1 hF rfl (e_add hF rfl rfl) fun a hF => ?_
      refine ls <| q1 hF rfl (e_move hF rfl) fun a hF => ?_
      refine re <| ?_
      refine tn <| ?_
      exact ⟨(nn2, (max vB6 r21), (IntKind.i64.wrap (vB7 + 1))), ⟨HB1, oaB2, capB3, hm, hxHB1, hF.has ⟨rfl, rfl, rfl, rfl, rfl, trivial⟩, hS, hcB4, hrB5⟩, Nat.lt_succ_self _⟩
    ·
      replace hm := itp_f hm hb14
      refine tn <| th <| cfv hF rfl hb14 <| ?_
      refine wp_exit <| tx <| tx <| bx <| ?_
      refine tn <| ?_
      replace hS := hS.pickL .nil
      exact ⟨vB6, HB1, hm, hxHB1, hF.has ⟨rfl, trivial⟩, hS⟩
  clear hm hF hS
  rintro a w ⟨vA2, HA1, hm, hxHA1, hF, hS⟩
  unfold expr_depth_j1 at hm
  refine th <| ?_
  refine rg <| ?_
  refine ls <| q1 hF rfl (e_move hF rfl) fun a hF => ?_
  refine ls <| q1 hF rfl (e_add hF rfl rfl) fun a hF => ?_
  refine ls <| q1 hF rfl (e_asg hF rfl) fun a hF => ?_
  refine re <| ?_
  refine tn <| ?_
  refine wp_ret <| ?_
  obtain rfl := Option.some.inj hm
  exact r1 hF Tryd.results49 rfl ⟨rfl, hS.keep⟩

set_option maxRecDepth 100000 in
theorem expr_Right_c {N : Nat} {w0 : World} {H : PH} (hH : H.le w0) (hT : Tab H) {oa2 : Option Addr} {cap3 : Nat} {p1 : (List api_Node)} (hc4 : p1.length ≤ cap3) (hr5 : SR H oa2 p1) {r : Bool} (hm : expr_Right N p1 = some r) : Tot Tryd.prog 23 #[.slice oa2 p1.length cap3] w0 (fun v w' => v = .bool r ∧ Keep Nil w0 w') := by
  unfold expr_Right at hm
  refine fn0 (args := [.slice oa2 p1.length cap3]) (F := [(0, .slice oa2 p1.length cap3)]) Tryd.func23 rfl Tryd.ntmps23 rfl rfl fun a hF => ?_
  have hS : St w0 Nil [H] [] w0 := start1 hH
  refine th <| ?_
  refine rg <| ?_
  refine ls <| q1 hF rfl (e_asg hF rfl) fun a hF => ?_
  refine re <| ?_
  refine tn <| th <| ?_
  refine rg <| ?_
  refine ls <| q1 hF rfl (e_asg hF rfl) fun a hF => ?_
  refine re <| ?_
  refine tn <| th <| th <| midK (fun a w => ∃ (vA6 : Bool) (HA1 : PH) (oaA2 : Option Addr) (capA3 : Nat), (expr_Right_j1 N p1) vA6 = some r ∧ Ext w0 H HA1 ∧ Fr 27 [(0, .slice oaA2 p1.length capA3), (23, .bool vA6)] a ∧ St w0 Nil [HA1] [] w ∧ p1.length ≤ capA3 ∧ SR HA1 oaA2 p1) ?_ ?_
  ·
    rcases bdich ((decide ((p1.length : Int) = 0)) || (decide (40 < (p1.length : Int)))) with hb6 | hb6
    ·
      replace hm := ite_t hm hb6
      refine rg <| ?_
      refine ls <| q1 hF rfl (e_move hF rfl) fun a hF => ?_
      refine ls <| q1 hF rfl (e_lenL (α := api_Node) (xs := p1) hF Tryd.runUnderlying22 rfl) fun a hF => ?_
      refine ls <| q1 hF rfl (e_eql hF rfl rfl) fun a hF => ?_
      refine ls <| q1 hF rfl (e_move hF rfl) fun a hF => ?_
      refine grp (N := 27) (Fk := [(0, .slice oa2 p1.length cap3), (3, .func (.func 45) #[] #[]), (11, .bool ((decide ((p1.length : Int) = 0)) || (decide (40 < (p1.length : Int)))))]) (b := (decide ((p1.length : Int) = 0))) 4 hS ?_ ?_ ?_
      ·
        intro hb key
        replace hF := Fr.as hF (t := 7) rfl (congrArg Value.bool hb)
        refine ls <| gn hF rfl rfl rfl rfl fun a hF => ?_
        refine ls <| gn hF rfl rfl rfl rfl fun a hF => ?_
        refine ls <| gn hF rfl rfl rfl rfl fun a hF => ?_
        refine ls <| q1 hF rfl (e_as (v' := .bool ((decide ((p1.length : Int) = 0)) || (decide (40 < (p1.length : Int))))) (e_pickT hF rfl rfl) (by rw [hb]; rfl)) fun a hF => ?_
        exact key _ _ (hF.has ⟨rfl, rfl, rfl, trivial⟩) hS
      ·
        intro hb key
        replace hF := Fr.as hF (t := 7) rfl (congrArg Value.bool hb)
        refine ls <| gy hF rfl rfl <| q1 hF rfl (e_move hF rfl) fun a hF => ?_
        refine ls <| gy hF rfl rfl <| q1 hF rfl (e_lenL (α := api_Node) (xs := p1) hF Tryd.runUnderlying22 rfl) fun a hF => ?_
        refine ls <| gy hF rfl rfl <| q1 hF rfl (e_gtr hF rfl rfl) fun a hF => ?_
        refine ls <| q1 hF rfl (e_as (v' := .bool ((decide ((p1.length : Int) = 0)) || (decide (40 < (p1.length : Int))))) (e_pickF hF rfl rfl) (by rw [hb]; rfl)) fun a hF => ?_
        exact key _ _ (hF.has ⟨rfl, rfl, rfl, trivial⟩) hS
      intro a w hF hS
      refine ls <| q1 hF rfl (e_as (e_move hF rfl) (congrArg Value.bool hb6)) fun a hF => ?_
      refine ls <| gn hF rfl rfl rfl rfl fun a hF => ?_
      refine ls <| gn hF rfl rfl rfl rfl fun a hF => ?_
      refine ls <| gn hF rfl rfl rfl rfl fun a hF => ?_
      refine ls <| q1 hF rfl (e_pickT hF rfl rfl) fun a hF => ?_
      refine ls <| q1 hF rfl (e_move hF rfl) fun a hF => ?_
      refine ls <| gn hF rfl rfl rfl rfl fun a hF => ?_
      refine ls <| gn hF rfl rfl rfl rfl fun a hF => ?_
      refine ls <| gn hF rfl rfl rfl rfl fun a hF => ?_
      refine ls <| gn hF rfl rfl rfl rfl fun a hF => ?_
      refine ls <| gn hF rfl rfl rfl rfl fun a hF => ?_
      refine ls <| q1 hF rfl (e_pickT hF rfl rfl) fun a hF => ?_
      refine re <| ?_
      refine tn <| ?_
      exact ⟨true, H, oa2, cap3, hm, (Ext.refl _ _), hF.has ⟨rfl, rfl, trivial⟩, hS, hc4, hr5⟩
    ·
      replace hm := ite_f hm hb6
      replace hm := bind_some hm
      obtain ⟨r7, h8, hm⟩ := hm
      rcases bdich r7 with hb9 | hb9
      ·
        replace hm := ite_t hm hb9
        refine rg <| ?_
        refine ls <| q1 hF rfl (e_move hF rfl) fun a hF => ?_
        refine ls <| q1 hF rfl (e_lenL (α := api_Node) (xs := p1) hF Tryd.runUnderlying22 rfl) fun a hF => ?_
        refine ls <| q1 hF rfl (e_eql hF rfl rfl) fun a hF => ?_
        refine ls <| q1 hF rfl (e_move hF rfl) fun a hF => ?_
        refine grp (N := 27) (Fk := [(0, .slice oa2 p1.length cap3), (3, .func (.func 45) #[] #[]), (11, .bool ((decide ((p1.length : Int) = 0)) || (decide (40 < (p1.length : Int)))))]) (b := (decide ((p1.length : Int) = 0))) 4 hS ?_ ?_ ?_
        ·
          intro hb key
          replace hF := Fr.as hF (t := 7) rfl (congrArg Value.bool hb)
          refine ls <| gn hF rfl rfl rfl rfl fun a hF => ?_
          refine ls <| gn hF rfl rfl rfl rfl fun a hF => ?_
          refine ls <| gn hF rfl rfl rfl rfl fun a hF => ?_
          refine ls <| q1 hF rfl (e_as (v' := .bool ((decide ((p1.length : Int) = 0)) || (decide (40 < (p1.length : Int))))) (e_pickT hF rfl rfl) (by rw [hb]; rfl)) fun a hF => ?_
          exact key _ _ (hF.has ⟨rfl, rfl, rfl, trivial⟩) hS
        ·
          intro hb key
          replace hF := Fr.as hF (t := 7) rfl (congrArg Value.bool hb)
          refine ls <| gy hF rfl rfl <| q1 hF rfl (e_move hF rfl) fun a hF => ?_
          refine ls <| gy hF rfl rfl <| q1 hF rfl (e_lenL (α := api_Node) (xs := p1) hF Tryd.runUnderlying22 rfl) fun a hF => ?_
          refine ls <| gy hF rfl rfl <| q1 hF rfl (e_gtr hF rfl rfl) fun a hF => ?_
          refine ls <| q1 hF rfl (e_as (v' := .bool ((decide ((p1.length : Int) = 0)) || (decide (40 < (p1.length : Int))))) (e_pickF hF rfl rfl) (by rw [hb]; rfl)) fun a hF => ?_
          exact key _ _ (hF.has ⟨rfl, rfl, rfl, trivial⟩) hS
        intro a w hF hS
        refine ls <| q1 hF rfl (e_as (e_move hF rfl) (congrArg Value.bool hb6)) fun a hF => ?_
        refine ls <| gy hF rfl rfl <| q1 hF rfl (e_move hF rfl) fun a hF => ?_
        refine ls <| gy hF rfl rfl <| q1 hF rfl (e_move hF rfl) fun a hF => ?_
        refine ls <| gy hF rfl rfl <| c1 hF rfl Tryd.call47 (slices_ContainsFunc_api_Node_api_Node__Right_1_c (hp_le _) (Tab.mono hT (St.up hS)) hc4 (St.srH hS hr5) h8) ⟨rfl, rfl, trivial⟩ (fun v w a hR hF => ?_)
        obtain ⟨rfl, hk⟩ := hR
        replace hS := hS.pass hk
        clear hk
        refine ls <| q1 hF rfl (e_pickF hF rfl rfl) fun a hF => ?_
        refine ls <| q1 hF rfl (e_as (e_move hF rfl) (congrArg Value.bool hb9)) fun a hF => ?_
        refine ls <| gn hF rfl rfl rfl rfl fun a hF => ?_
        refine ls <| gn hF rfl rfl rfl rfl fun a hF => ?_
        refine ls <| gn hF rfl rfl rfl rfl fun a hF => ?_
        refine ls <| gn hF rfl rfl rfl rfl fun a hF => ?_
        refine ls <| gn hF rfl rfl rfl rfl fun a hF => ?_
        refine ls <| q1 hF rfl (e_pickT hF rfl rfl) fun a hF => ?_
        refine re <| ?_
        refine tn <| ?_
        exact ⟨true, H, oa2, cap3, hm, (Ext.refl _ _), hF.has ⟨rfl, rfl, trivial⟩, hS, hc4, hr5⟩
      ·
        replace hm := ite_f hm hb9
        replace hm := bind_some hm
        obtain ⟨r10, h11, hm⟩ := hm
        refine rg <| ?_
        refine ls <| q1 hF rfl (e_move hF rfl) fun a hF => ?_
        refine ls <| q1 hF rfl (e_lenL (α := api_Node) (xs := p1) hF Tryd.runUnderlying22 rfl) fun a hF => ?_
        refine ls <| q1 hF rfl (e_eql hF rfl rfl) fun a hF => ?_
        refine ls <| q1 hF rfl (e_move hF rfl) fun a hF => ?_
        refine grp (N := 27) (Fk := [(0, .slice oa2 p1.length cap3), (3, .func (.func 45) #[] #[]), (11, .bool ((decide ((p1.length : Int) = 0)) || (decide (40 < (p1.length : Int)))))]) (b := (decide ((p1.length : Int) = 0))) 4 hS ?_ ?_ ?_
        ·
          intro hb key
          replace hF := Fr.as hF (t := 7) rfl (congrArg Value.bool hb)
          refine ls <| gn hF rfl rfl rfl rfl fun a hF => ?_
          refine ls <| gn hF rfl rfl rfl rfl fun a hF => ?_
          refine ls <| gn hF rfl rfl rfl rfl fun a hF => ?_
          refine ls <| q1 hF rfl (e_as (v' := .bool ((decide ((p1.length : Int) = 0)) || (decide (40 < (p1.length : Int))))) (e_pickT hF rfl rfl) (by rw [hb]; rfl)) fun a hF => ?_
          exact key _ _ (hF.has ⟨rfl, rfl, rfl, trivial⟩) hS
        ·
          intro hb key
          replace hF := Fr.as hF (t := 7) rfl (congrArg Value.bool hb)
          refine ls <| gy hF rfl rfl <| q1 hF rfl (e_move hF rfl) fun a hF => ?_
          refine ls <| gy hF rfl rfl <| q1 hF rfl (e_lenL (α := api_Node) (xs := p1) hF Tryd.runUnderlying22 rfl) fun a hF => ?_
          refine ls <| gy hF rfl rfl <| q1 hF rfl (e_gtr hF rfl rfl) fun a hF => ?_
          refine ls <| q1 hF rfl (e_as (v' := .bool ((decide ((p1.length : Int) = 0)) || (decide (40 < (p1.length : Int))))) (e_pickF hF rfl rfl) (by rw [hb]; rfl)) fun a hF => ?_
          exact key _ _ (hF.has ⟨rfl, rfl, rfl, trivial⟩) hS
        intro a w hF hS
        refine ls <| q1 hF rfl (e_as (e_move hF rfl) (congrArg Value.bool hb6)) fun a hF => ?_
        refine ls <| gy hF rfl rfl <| q1 hF rfl (e_move hF rfl) fun a hF => ?_
        refine ls <| gy hF rfl rfl <| q1 hF rfl (e_move hF rfl) fun a hF => ?_
        refine ls <| gy hF rfl rfl <| c1 hF rfl Tryd.call47 (slices_ContainsFunc_api_Node_api_Node__Right_1_c (hp_le _) (Tab.mono hT (St.up hS)) hc4 (St.srH hS hr5) h8) ⟨rfl, rfl, trivial⟩ (fun v w a hR hF => ?_)
        obtain ⟨rfl, hk⟩ := hR
        replace hS := hS.pass hk
        clear hk
        refine ls <| q1 hF rfl (e_pickF hF rfl rfl) fun a hF => ?_
        refine ls <| q1 hF rfl (e_as (e_move hF rfl) (congrArg Value.bool hb9)) fun a hF => ?_
        refine ls <| gy hF rfl rfl <| q1 hF rfl (e_move hF rfl) fun a hF => ?_
        refine ls <| gy hF rfl rfl <| c1 hF rfl Tryd.call48 (expr_End_c (hp_le _) hc4 (St.srH hS hr5) h11) ⟨rfl, rfl, trivial⟩ (fun v w a hR hF => ?_)
        obtain ⟨rfl, hk⟩ := hR
        replace hS := hS.pass hk
        clear hk
        refine ls <| gy hF rfl rfl <| q1 hF rfl (e_move hF rfl) fun a hF => ?_
        refine ls <| gy hF rfl rfl <| q1 hF rfl (e_lenL (α := api_Node) (xs := p1) hF Tryd.runUnderlying22 rfl) fun a hF => ?_
        refine ls <| gy hF rfl rfl <| q1 hF rfl (e_neq hF rfl rfl) fun a hF => ?_
        refine ls <| q1 hF rfl (e_pickF hF rfl rfl) fun a hF => ?_
        refine re <| ?_
        refine tn <| ?_
        exact ⟨(decide (r10 ≠ (p1.length : Int))), H, oa2, cap3, hm, (Ext.refl _ _), hF.has ⟨rfl, rfl, trivial⟩, hS, hc4, hr5⟩
  clear hm hF hS
  rintro a w ⟨vA6, HA1, oaA2, capA3, hm, hxHA1, hF, hS, hcA4, hrA5⟩
  unfold expr_Right_j1 at hm
  rcases bdich vA6 with hb12 | hb12
  ·
    replace hm := ite_t hm hb12
    refine ctv hF rfl hb12 <| th <| ?_
    refine rg <| ?_
    refine ls <| q1 hF rfl (e_asg hF rfl) fun a hF => ?_
    refine re <| ?_
    refine tn <| ?_
    refine wp_ret <| tr <| ?_
    obtain rfl := Option.some.inj hm
    exact r1 hF Tryd.results23 rfl ⟨rfl, hS.keep⟩
  ·
    replace hm := ite_f hm hb12
    refine cfv hF rfl hb12 <| wp_skip <| ?_
    refine tn <| th <| ?_
    replace hm := bind_some hm
    obtain ⟨r13, h14, hm⟩ := hm
    refine rg <| ?_
    refine ls <| q1 hF rfl (e_move hF rfl) fun a hF => ?_
    refine ls <| c1 hF rfl Tryd.call49 (expr_depth_c _ (hp_le _) hcA4 (St.srH hS hrA5) h14) ⟨rfl, rfl, trivial⟩ (fun v w a hR hF => ?_)
    obtain ⟨rfl, hk⟩ := hR
    replace hS := hS.pass hk
    clear hk
    refine ls <| q1 hF rfl (e_leq hF rfl rfl) fun a hF => ?_
    refine ls <| q1 hF rfl (e_asg hF rfl) fun a hF => ?_
    refine re <| ?_
    refine tn <| ?_
    refine wp_ret <| ?_
    obtain rfl := Option.some.inj hm
    exact r1 hF Tryd.results23 rfl ⟨rfl, hS.keep⟩

set_option maxRecDepth 100000 in
theorem slices_Index_string_string_c {N : Nat} {w0 : World} {H : PH} (hH : H.le w0) {oa2 : Option Addr} {cap3 : Nat} {p1 : (List Str)} (hc4 : p1.length ≤ cap3) (hr5 : SR H oa2 p1) {p6 : Str} {r : Int} (hm : slices_Index_string_string N p1 p6 = some r) : Tot Tryd.prog 50 #[.slice oa2 p1.length cap3, strv p6] w0 (fun v w' => v = .int .i64 r ∧ Keep Nil w0 w') := by
  unfold slices_Index_string_string at hm
  refine fn0 (args := [.slice oa2 p1.length cap3, strv p6]) (F := [(0, .slice oa2 p1.length cap3), (1, strv p6)]) Tryd.func50 rfl Tryd.ntmps50 rfl rfl fun a hF => ?_
  have hS : St w0 Nil [H] [] w0 := start1 hH
  refine th <| ?_
  refine rg <| ?_
  refine ls <| q1 hF rfl (e_asg hF rfl) fun a hF => ?_
  refine re <| ?_
  refine tn <| th <| th <| ?_
  refine rg <| ?_
  refine ls <| q1 hF rfl (e_move hF rfl) fun a hF => ?_
  refine ls <| q1 hF rfl (e_lenL (α := Str) (xs := p1) hF Tryd.runUnderlying23 rfl) fun a hF => ?_
  refine ls <| q1 hF rfl (e_move hF rfl) fun a hF => ?_
  refine re <| ?_
  refine tn <| midK (fun a w => ∃ (HA1 : PH), slices_Index_string_string_j1 = some r ∧ Ext w0 H HA1 ∧ Fr 19 [] a ∧ St w0 Nil [HA1] [] w) ?_ ?_
  ·
    refine wp_block <| lp (α := Nat × Int) (fun (gh : Nat × Int) a w => match gh with | (nn2, vB6) => ∃ (HB1 : PH) (oaB2 : Option Addr) (capB3 : Nat), (slices_Index_string_string_l2 N slices_Index_string_string_j1 p1 p6) nn2 vB6 = some r ∧ Ext w0 H HB1 ∧ Fr 19 [(0, .slice oaB2 p1.length capB3), (1, strv p6), (7, .int .i64 (p1.length : Int)), (8, .int .i64 vB6)] a ∧ St w0 Nil [HB1] [] w ∧ p1.length ≤ capB3 ∧ SR HB1 oaB2 p1) (fun gh => gh.1) (N, 0) ⟨H, oa2, cap3, hm, (Ext.refl _ _), hF.has ⟨rfl, rfl, rfl, rfl, trivial⟩, hS, hc4, hr5⟩ ?_
    clear hm hF hS
    rintro ⟨nn2, vB6⟩ a w ⟨HB1, oaB2, capB3, hm, hxHB1, hF, hS, hcB4, hrB5⟩
    obtain _ | nn2 := nn2
    · simp [slices_Index_string_string_l2] at hm
    rw [slices_Index_string_string_l2] at hm
    refine th <| ?_
    refine rg <| ?_
    refine ls <| q1 hF rfl (e_lss hF rfl rfl) fun a hF => ?_
    refine re <| ?_
    rcases bdich (decide (vB6 < (p1.length : Int))) with hb7 | hb7
    ·
      replace hm := itp_t hm hb7
      refine tn <| th <| ctv hF rfl hb7 <| wp_skip <| ?_
      refine tn <| th <| wp_block <| th <| ?_
      refine rg <| ?_
      refine ls <| q1 hF rfl (e_move hF rfl) fun a hF => ?_
      refine ls <| q1 hF rfl (e_asg hF rfl) fun a hF => ?_
      refine re <| ?_
      refine tn <| th <| ?_
      replace hm := bind_some hm
      obtain ⟨x8, h9, hm⟩ := hm
      obtain ⟨c10, g11, hl12⟩ := SR.get hrB5 h9
      obtain rfl : c10 = [strv x8] := g11
      refine rg <| ?_
      refine ls <| q1 hF rfl (e_move hF rfl) fun a hF => ?_
      refine ls <| q1 hF rfl (e_move hF rfl) fun a hF => ?_
      refine ls <| q1 hF rfl (e_move hF rfl) fun a hF => ?_
      refine ls <| q1 hF rfl (e_iaI hF Tryd.runUnderlying23 Tryd.sizeOf9 rfl rfl h9 (SR.oaI hrB5 (by decide) h9)) fun a hF => ?_
      refine ls <| q1 hF rfl (e_ld hF Tryd.isAgg9 rfl (PH.le.cell (Lds.le (St.ld hS)) (hl12 0 _ rfl))) fun a hF => ?_
      refine ls <| q1 hF rfl (e_eqlU (m := p6) (n := x8) hF rfl rfl) fun a hF => ?_
      refine re <| ?_
      rcases bdich (decide (p6 = x8)) with hb13 | hb13
      ·
        replace hm := itp_t hm hb13
        refine tn <| ctv hF rfl hb13 <| th <| ?_
        refine rg <| ?_
        refine ls <| q1 hF rfl (e_move hF rfl) fun a hF => ?_
        refine ls <| q1 hF rfl (e_asg hF rfl) fun a hF => ?_
        refine re <| ?_
        refine tn <| ?_
        refine wp_ret <| br <| tr <| tr <| br <| tr <| ?_
        obtain rfl := Option.some.inj hm
        exact r1 hF Tryd.results50 rfl ⟨rfl, hS.keep⟩
      ·
        replace hm := itp_f hm hb13
        refine tn <| cfv hF rfl hb13 <| wp_skip <| ?_
        refine bn <| tn <| ?_
        refine rg <| ?_
        refine ls <| q1 hF rfl (e_add hF rfl rfl) fun a hF => ?_
        refine ls <| q1 hF rfl (e_move hF rfl) fun a hF => ?_
        refine re <| ?_
        refine tn <| ?_
        exact ⟨(nn2, (IntKind.i64.wrap (vB6 + 1))), ⟨HB1, oaB2, capB3, hm, hxHB1, hF.has ⟨rfl, rfl, rfl, rfl, trivial⟩, hS, hcB4, hrB5⟩, Nat.lt_succ_self _⟩
    ·
      replace hm := itp_f hm hb7
      refine tn <| th <| cfv hF rfl hb7 <| ?_
      refine wp_exit <| tx <| tx <| bx <| ?_
      refine tn <| ?_
      exact ⟨HB1, hm, hxHB1, hF.has trivial, hS⟩
  clear hm hF hS
  rintro a w ⟨HA1, hm, hxHA1, hF, hS⟩
  unfold slices_Index_string_string_j1 at hm
  refine th <| ?_
  refine rg <| ?_
  refine ls <| q1 hF rfl (e_asg hF rfl) fun a hF => ?_
  refine re <| ?_
  refine tn <| ?_
  refine wp_ret <| ?_
  obtain rfl := Option.some.inj hm
  exact r1 hF Tryd.results50 rfl ⟨rfl, hS.keep⟩

set_option maxRecDepth 100000 in
theorem slices_Contains_string_string_c {N : Nat} {w0 : World} {H : PH} (hH : H.le w0) {oa2 : Option Addr} {cap3 : Nat} {p1 : (List Str)} (hc4 : p1.length ≤ cap3) (hr5 : SR H oa2 p1) {p6 : Str} {r : Bool} (hm : slices_Contains_string_string N p1 p6 = some r) : Tot Tryd.prog 25 #[.slice oa2 p1.length cap3, strv p6] w0 (fun v w' => v = .bool r ∧ Keep Nil w0 w') := by
  unfold slices_Contains_string_string at hm
  refine fn0 (args := [.slice oa2 p1.length cap3, strv p6]) (F := [(0, .slice oa2 p1.length cap3), (1, strv p6)]) Tryd.func25 rfl Tryd.ntmps25 rfl rfl fun a hF => ?_
  have hS : St w0 Nil [H] [] w0 := start1 hH
  refine th <| ?_
  refine rg <| ?_
  refine ls <| q1 hF rfl (e_asg hF rfl) fun a hF => ?_
  refine re <| ?_
  refine tn <| th <| ?_
  replace hm := bind_some hm
  obtain ⟨r7, h8, hm⟩ := hm
  refine rg <| ?_
  refine ls <| q1 hF rfl (e_move hF rfl) fun a hF => ?_
  refine ls <| q1 hF rfl (e_move hF rfl) fun a hF => ?_
  refine ls <| c1 hF rfl Tryd.call50 (slices_Index_string_string_c (hp_le _) hc4 (St.srH hS hr5) h8) ⟨rfl, rfl, trivial⟩ (fun v w a hR hF => ?_)
  obtain ⟨rfl, hk⟩ := hR
  replace hS := hS.pass hk
  clear hk
  refine ls <| q1 hF rfl (e_geq hF rfl rfl) fun a hF => ?_
  refine ls <| q1 hF rfl (e_asg hF rfl) fun a hF => ?_
  refine re <| ?_
  refine tn <| ?_
  refine wp_ret <| ?_
  obtain rfl := Option.some.inj hm
  exact r1 hF Tryd.results25 rfl ⟨rfl, hS.keep⟩

set_option maxRecDepth 100000 in
theorem expr_Names_c {N : Nat} {w0 : World} {H : PH} (hH : H.le w0) (hT : Tab H) {oa2 : Option Addr} {cap3 : Nat} {p1 : (List api_Node)} (hc4 : p1.length ≤ cap3) (hr5 : SR H oa2 p1) {r : (List Str)} (hm : expr_Names N p1 = some r) : Tot Tryd.prog 27 #[.slice oa2 p1.length cap3] w0 (fun v w' => ∃ (oa0 : Option Addr) (cap0 : Nat) (vs0 : List Value), v = .slice oa0 r.length cap0 ∧ (∀ h, Rows h vs0 r) ∧ Fresh w0 (sla 9 1 oa0 r.length cap0 vs0) w') := by
  unfold expr_Names at hm
  refine fn0 (args := [.slice oa2 p1.length cap3]) (F := [(0, .slice oa2 p1.length cap3)]) Tryd.func27 rfl Tryd.ntmps27 rfl rfl fun a hF => ?_
  have hS : St w0 Nil [H] [] w0 := start1 hH
  refine th <| ?_
  refine rg <| ?_
  refine ls <| q1 hF rfl (e_asg hF rfl) fun a hF => ?_
  refine re <| ?_
  refine tn <| th <| th <| ?_
  replace hm := bind_some hm
  obtain ⟨r6, h7, hm⟩ := hm
  refine rg <| ?_
  refine ls <| q1 hF rfl (e_move hF rfl) fun a hF => ?_
  refine ls <| c1 hF rfl Tryd.call23 (expr_Right_c (hp_le _) (Tab.mono hT (St.up hS)) hc4 (St.srH hS hr5) h7) ⟨rfl, trivial⟩ (fun v w a hR hF => ?_)
  obtain ⟨rfl, hk⟩ := hR
  replace hS := hS.pass hk
  clear hk
  refine ls <| q1 hF rfl (e_not hF rfl) fun a hF => ?_
  refine re <| ?_
  rcases bdich r6 with hb8 | hb8
  ·
    replace hm := ite_t hm hb8
    refine tn <| cfv hF rfl (by rw [hb8]; rfl) <| wp_skip <| ?_
    refine tn <| th <| ?_
    refine rg <| ?_
    refine ls <| q1 hF rfl (e_asg hF rfl) fun a hF => ?_
    refine re <| ?_
    refine tn <| th <| th <| ?_
    refine rg <| ?_
    refine ls <| q1 hF rfl (e_move hF rfl) fun a hF => ?_
    refine ls <| q1 hF rfl (e_lenL (α := api_Node) (xs := p1) hF Tryd.runUnderlying22 rfl) fun a hF => ?_
    refine ls <| q1 hF rfl (e_move hF rfl) fun a hF => ?_
    refine re <| ?_
    refine tn <| midK (fun a w => ∃ (vA2 : (List Str)) (HA1 : PH) (oaA3 : Option Addr) (capA4 : Nat) (vsA5 : List Value), expr_Names_j1 vA2 = some r ∧ Ext w0 H HA1 ∧ Fr 32 [(3, .slice oaA3 vA2.length capA4)] a ∧ St w0 Nil [HA1] [sla 9 1 oaA3 vA2.length capA4 vsA5] w ∧ Rows HA1 vsA5 vA2) ?_ ?_
    ·
      replace hS := St.nilS hS 9 1
      refine wp_block <| lp (α := Nat × (List Str) × Int) (fun (gh : Nat × (List Str) × Int) a w => match gh with | (nn2, vB2, vB12) => ∃ (HB1 : PH) (oaB3 : Option Addr) (capB4 : Nat) (vsB5 : List Value) (oaB8 : Option Addr) (capB9 : Nat), (expr_Names_l2 N expr_Names_j1 p1) nn2 vB2 vB12 = some r ∧ Ext w0 H HB1 ∧ Fr 32 [(3, .slice oaB3 vB2.length capB4), (9, .slice oaB8 p1.length capB9), (10, .int .i64 (p1.length : Int)), (11, .int .i64 vB12)] a ∧ St w0 Nil [HB1] [sla 9 1 oaB3 vB2.length capB4 vsB5] w ∧ Rows HB1 vsB5 vB2 ∧ p1.length ≤ capB9 ∧ SR HB1 oaB8 p1) (fun gh => gh.1) (N, [], 0) ⟨H, none, 0, [], oa2, cap3, hm, (Ext.refl _ _), hF.has ⟨rfl, rfl, rfl, rfl, trivial⟩, hS, .nil, hc4, hr5⟩ ?_
      clear hm hF hS
      rintro ⟨nn2, vB2, vB12⟩ a w ⟨HB1, oaB3, capB4, vsB5, oaB8, capB9, hm, hxHB1, hF, hS, hvB6, hcB10, hrB11⟩
      obtain _ | nn2 := nn2
      · simp [expr_Names_l2] at hm
      rw [expr_Names_l2] at hm
      refine th <| ?_
      refine rg <| ?_
      refine ls <| q1 hF rfl (e_lss hF rfl rfl) fun a hF => ?_
      refine re <| ?_
      rcases bdich (decide (vB12 < (p1.length : Int))) with hb9 | hb9
      ·
        replace hm := itp_t hm hb9
        refine tn <| th <| ctv hF rfl hb9 <| wp_skip <| ?_
        refine tn <| th <| midK (fun a w => ∃ (vC1 : (List Str)) (oaC2 : Option Addr) (capC3 : Nat) (vsC4 : List Value), (expr_Names_j3 (expr_Names_l2 N expr_Names_j1 p1 nn2) vB12) vC1 = some r ∧ Fr 32 [(3, .slice oaC2 vC1.length capC3), (9, .slice oaB8 p1.length capB9), (10, .int .i64 (p1.length : Int)), (11, .int .i64 vB12)] a ∧ St w0 Nil [HB1] [sla 9 1 oaC2 vC1.length capC3 vsC4] w ∧ Rows HB1 vsC4 vC1) ?_ ?_
        ·
          refine wp_block <| th <| ?_
          replace hm := bind_some hm
          obtain ⟨x10, h11, hm⟩ := hm
          obtain ⟨c12, g13, hl14⟩ := SR.get hrB11 h11
          obtain rfl := api_Node_open g13
          refine rg <| ?_
          refine ls <| q1 hF rfl (e_iaI hF Tryd.runUnderlying22 Tryd.sizeOf39 rfl rfl h11 (SR.oaI hrB11 (by decide) h11)) fun a hF => ?_
          refine ls <| q1 hF rfl (e_ldA hF Tryd.isAgg39 Tryd.sizeOf39 rfl rfl (fun j v hj => PH.le.cell (Lds.le (St.ld hS)) (hl14 j v hj))) fun a hF => ?_
          refine ls <| a_alloc (cs := [.int .i64 0, .int .i64 0, strv [], .int .i64 0].toArray) hF rfl hS Tryd.zeroValue39 rfl fun b15 w a hS hF => ?_
          refine ls <| s_blkA hF hS Tryd.sizeOf39 rfl rfl rfl rfl (one_cells rfl) .head fun w hS => ?_
          refine re <| ?_
          refine tn <| th <| midK (fun a w => ∃ (vD1 : Bool), (expr_Names_j4 (expr_Names_j3 (expr_Names_l2 N expr_Names_j1 p1 nn2) vB12) x10 vB2) vD1 = some r ∧ Fr 32 [(3, .slice oaB3 vB2.length capB4), (5, .pointer (some ⟨b15, 0, none⟩)), (9, .slice oaB8 p1.length capB9), (10, .int .i64 (p1.length : Int)), (11, .int .i64 vB12), (24, .bool vD1)] a ∧ St w0 Nil [HB1] [sla 9 1 oaB3 vB2.length capB4 vsB5, blk b15 (.cells [.int .i64 x10.Op, .int .i64 x10.N, strv x10.Name, .int .i64 x10.At].toArray 39 (0, 0))] w) ?_ ?_
          ·
            rcases bdich (decide (x10.Op = 2)) with hb16 | hb16
            ·
              replace hm := itp_t hm hb16
              replace hm := bind_some hm
              obtain ⟨r17, h18, hm⟩ := hm
              refine rg <| ?_
              refine ls <| q1 hF rfl (e_fa hF fa39_0 rfl) fun a hF => ?_
              refine ls <| q1 hF rfl (e_ld hF Tryd.isAgg3 rfl ((St.ld hS).cellB (.head _) rfl)) fun a hF => ?_
              refine ls <| q1 hF rfl (e_eql hF rfl rfl) fun a hF => ?_
              refine ls <| q1 hF rfl (e_as (e_move hF rfl) (congrArg Value.bool hb16)) fun a hF => ?_
              refine ls <| gy hF rfl rfl <| q1 hF rfl (e_move hF rfl) fun a hF => ?_
              refine ls <| gy hF rfl rfl <| q1 hF rfl (e_fa hF fa39_2 rfl) fun a hF => ?_
              refine ls <| gy hF rfl rfl <| q1 hF rfl (e_ld hF Tryd.isAgg9 rfl ((St.ld hS).cellB (.head _) rfl)) fun a hF => ?_
              refine ls <| gy hF rfl rfl <| c1 hF rfl Tryd.call25 (slices_Contains_string_string_c (hp_le _) (St.capO hS (.tail _ (.head _))) (St.srO hS (.tail _ (.head _)) hvB6) h18) ⟨rfl, rfl, trivial⟩ (fun v w a hR hF => ?_)
              obtain ⟨rfl, hk⟩ := hR
              replace hS := hS.pass hk
              clear hk
              refine ls <| gy hF rfl rfl <| q1 hF rfl (e_not hF rfl) fun a hF => ?_
              refine ls <| q1 hF rfl (e_pickT hF rfl rfl) fun a hF => ?_
              refine re <| ?_
              refine tn <| ?_
              replace hS := hS.pickL (.cons (.tail .head) (.cons .head .nil))
              exact ⟨(!r17), hm, hF.has ⟨rfl, rfl, rfl, rfl, rfl, rfl, trivial⟩, hS⟩
            ·
              replace hm := itp_f hm hb16
              refine rg <| ?_
              refine ls <| q1 hF rfl (e_fa hF fa39_0 rfl) fun a hF => ?_
              refine ls <| q1 hF rfl (e_ld hF Tryd.isAgg3 rfl ((St.ld hS).cellB (.head _) rfl)) fun a hF => ?_
              refine ls <| q1 hF rfl (e_eql hF rfl rfl) fun a hF => ?_
              refine ls <| q1 hF rfl (e_as (e_move hF rfl) (congrArg Value.bool hb16)) fun a hF => ?_
              refine ls <| gn hF rfl rfl rfl rfl fun a hF => ?_
              refine ls <| gn hF rfl rfl rfl rfl fun a hF => ?_
              refine ls <| gn hF rfl rfl rfl rfl fun a hF => ?_
              refine ls <| gn hF rfl rfl rfl rfl fun a hF => ?_
              refine ls <| gn hF rfl rfl rfl rfl fun a hF => ?_
              refine ls <| q1 hF rfl (e_pickF hF rfl rfl) fun a hF => ?_
              refine re <| ?_
              refine tn <| ?_
              replace hS := hS.pickL (.cons (.tail .head) (.cons .head .nil))
              exact ⟨false, hm, hF.has ⟨rfl, rfl, rfl, rfl, rfl, rfl, trivial⟩, hS⟩
          clear hm hF hS
          rintro a w ⟨vD1, hm, hF, hS⟩
          unfold expr_Names_j4 at hm
          rcases bdich vD1 with hb19 | hb19
          ·
            replace hm := ite_t hm hb19
            refine ctv hF rfl hb19 <| ?_
            replace hm := bind_some hm
            obtain ⟨l23, h24, hm⟩ := hm
            refine rg <| ?_
            refine ls <| q1 hF rfl (e_move hF rfl) fun a hF => ?_
            refine ls <| q1 hF rfl (e_fa hF fa39_2 rfl) fun a hF => ?_
            refine ls <| q1 hF rfl (e_ld hF Tryd.isAgg9 rfl ((St.ld hS).cellB (.tail _ (.head _)) rfl)) fun a hF => ?_
            refine ls <| a_bsl (e := 9) (sz := 1) [strv x10.Name] hF rfl hS rfl rfl rfl (fun w => by kernel_rfl) fun b21 w a hS hF => ?_
            have hv20 : Rows (α := Str) HB1 [strv x10.Name] ([x10.Name] : List Str) := (.cons (c := [strv x10.Name]) rfl .nil)
            refine ls <| m_app (α := Str) (xs := vB2) (ys := ([x10.Name] : List Str)) hF rfl hS Tryd.underlying23 info9 rfl (by decide) rfl rfl rfl (.tail _ (.head _)) hvB6 (hS.rdO (.head _)) hv20 h24 fun oa25 cap26 vs27 w a hv28 hU hF => ?_
            replace hS := hU _ (.tail .head)
            clear hU
            replace hS := hS.drop .head
            refine ls <| q1 hF rfl (e_asg hF rfl) fun a hF => ?_
            refine re <| ?_
            refine bn <| tn <| ?_
            replace hS := hS.pickL (.cons .head .nil)
            exact ⟨l23, oa25, cap26, vs27, hm, hF.has ⟨rfl, rfl, rfl, rfl, trivial⟩, hS, hv28⟩
          ·
            replace hm := ite_f hm hb19
            refine cfv hF rfl hb19 <| wp_skip <| ?_
            refine bn <| tn <| ?_
            replace hS := hS.pickL (.cons .head .nil)
            exact ⟨vB2, oaB3, capB4, vsB5, hm, hF.has ⟨rfl, rfl, rfl, rfl, trivial⟩, hS, hvB6⟩
        clear hm hF hS
        rintro a w ⟨vC1, oaC2, capC3, vsC4, hm, hF, hS, hvC5⟩
        unfold expr_Names_j3 at hm
        refine rg <| ?_
        refine ls <| q1 hF rfl (e_add hF rfl rfl) fun a hF => ?_
        refine ls <| q1 hF rfl (e_move hF rfl) fun a hF => ?_
        refine re <| ?_
        refine tn <| ?_
        exact ⟨(nn2, vC1, (IntKind.i64.wrap (vB12 + 1))), ⟨HB1, oaC2, capC3, vsC4, oaB8, capB9, hm, hxHB1, hF.has ⟨rfl, rfl, rfl, rfl, trivial⟩, hS, hvC5, hcB10, hrB11⟩, Nat.lt_succ_self _⟩
      ·
        replace hm := itp_f hm hb9
        refine tn <| th <| cfv hF rfl hb9 <| ?_
        refine wp_exit <| tx <| tx <| bx <| ?_
        refine tn <| ?_
        exact ⟨vB2, HB1, oaB3, capB4, vsB5, hm, hxHB1, hF.has ⟨rfl, trivial⟩, hS, hvB6⟩
    clear hm hF hS
    rintro a w ⟨vA2, HA1, oaA3, capA4, vsA5, hm, hxHA1, hF, hS, hvA6⟩
    unfold expr_Names_j1 at hm
    refine th <| ?_
    refine rg <| ?_
    refine ls <| q1 hF rfl (e_move hF rfl) fun a hF => ?_
    refine ls <| q1 hF rfl (e_asg hF rfl) fun a hF => ?_
    refine re <| ?_
    refine tn <| ?_
    refine wp_ret <| ?_
    obtain rfl := Option.some.inj hm
    exact r1 hF Tryd.results27 rfl ⟨_, _, _, rfl, (fun _ => Rows.ind hvA6), hS.endFresh (.head _)⟩
  ·
    replace hm := ite_f hm hb8
    refine tn <| ctv hF rfl (by rw [hb8]; rfl) <| th <| ?_
    refine rg <| ?_
    refine ls <| q1 hF rfl (e_asg hF rfl) fun a hF => ?_
    refine re <| ?_
    refine tn <| ?_
    refine wp_ret <| tr <| ?_
    replace hS := St.nilS hS 9 1
    obtain rfl := Option.some.inj hm
    exact r1 hF Tryd.results27 rfl ⟨_, _, _, rfl, (fun _ => .nil), hS.endFresh (.head _)⟩

set_option maxRecDepth 100000 in
theorem code_Make_1_c {N : Nat} {w0 : World} {H : PH} (hH : H.le w0) {p1 : Str} {oa4 : Option Addr} {cap5 : Nat} {y3 : (List Str)} (hc6 : y3.length ≤ cap5) (hr7 : SR H oa4 y3) {b2 : Nat} (hb8 : H b2 = some (.cells [.slice oa4 y3.length cap5].toArray 23 (0, 0))) {r : Bool} (hm : code_Make_1 N p1 y3 = some r) : Tot Tryd.prog 24 #[strv p1, .pointer (some ⟨b2, 0, none⟩)] w0 (fun v w' => v = .bool r ∧ Keep Nil w0 w') := by
  unfold code_Make_1 at hm
  refine fn0 (args := [strv p1, .pointer (some ⟨b2, 0, none⟩)]) (F := [(0, strv p1), (1, .pointer (some ⟨b2, 0, none⟩))]) Tryd.func24 rfl Tryd.ntmps24 rfl rfl fun a hF => ?_
  have hS : St w0 Nil [H] [] w0 := start1 hH
  refine th <| ?_
  refine rg <| ?_
  refine ls <| q1 hF rfl (e_asg hF rfl) fun a hF => ?_
  refine re <| ?_
  refine tn <| th <| ?_
  replace hm := bind_some hm
  obtain ⟨r9, h10, hm⟩ := hm
  refine rg <| ?_
  refine ls <| q1 hF rfl (e_ld hF Tryd.isAgg23 rfl (PH.le.cell (Lds.le (St.ld hS)) (ph_cell hb8 rfl))) fun a hF => ?_
  refine ls <| q1 hF rfl (e_move hF rfl) fun a hF => ?_
  refine ls <| c1 hF rfl Tryd.call25 (slices_Contains_string_string_c (hp_le _) hc6 (St.srH hS hr7) h10) ⟨rfl, rfl, trivial⟩ (fun v w a hR hF => ?_)
  obtain ⟨rfl, hk⟩ := hR
  replace hS := hS.pass hk
  clear hk
  refine ls <| q1 hF rfl (e_not hF rfl) fun a hF => ?_
  refine ls <| q1 hF rfl (e_asg hF rfl) fun a hF => ?_
  refine re <| ?_
  refine tn <| ?_
  refine wp_ret <| ?_
  obtain rfl := Option.some.inj hm
  exact r1 hF Tryd.results24 rfl ⟨rfl, hS.keep⟩

set_option maxRecDepth 100000 in
theorem slices_IndexFunc_string_string__Make_1_c {N : Nat} {w0 : World} {H : PH} (hH : H.le w0) {oa2 : Option Addr} {cap3 : Nat} {p1 : (List Str)} (hc4 : p1.length ≤ cap3) (hr5 : SR H oa2 p1) {oa8 : Option Addr} {cap9 : Nat} {y7 : (List Str)} (hc10 : y7.length ≤ cap9) (hr11 : SR H oa8 y7) {b6 : Nat} (hb12 : H b6 = some (.cells [.slice oa8 y7.length cap9].toArray 23 (0, 0))) {r : Int} (hm : slices_IndexFunc_string_string__Make_1 N p1 y7 = some r) : Tot Tryd.prog 51 #[.slice oa2 p1.length cap3, .func (.func 24) #[] #[.pointer (some ⟨b6, 0, none⟩)]] w0 (fun v w' => v = .int .i64 r ∧ Keep Nil w0 w') := by
  unfold slices_IndexFunc_string_string__Make_1 at hm
  refine fn0 (args := [.slice oa2 p1.length cap3, .func (.func 24) #[] #[.pointer (some ⟨b6, 0, none⟩)]]) (F := [(0, .slice oa2 p1.length cap3), (1, .func (.func 24) #[] #[.pointer (some ⟨b6, 0, none⟩)])]) Tryd.func51 rfl Tryd.ntmps51 rfl rfl fun a hF => ?_
  have hS : St w0 Nil [H] [] w0 := start1 hH
  refine th <| ?_
  refine rg <| ?_
  refine ls <| q1 hF rfl (e_asg hF rfl) fun a hF => ?_
  refine re <| ?_
  refine tn <| th <| th <| ?_
  refine rg <| ?_
  refine ls <| q1 hF rfl (e_move hF rfl) fun a hF => ?_
  refine ls <| q1 hF rfl (e_lenL (α := Str) (xs := p1) hF Tryd.runUnderlying23 rfl) fun a hF => ?_
  refine ls <| q1 hF rfl (e_move hF rfl) fun a hF => ?_
  refine re <| ?_
  refine tn <| midK (fun a w => ∃ (HA1 : PH), slices_IndexFunc_string_string__Make_1_j1 = some r ∧ Ext w0 H HA1 ∧ Fr 19 [] a ∧ St w0 Nil [HA1] [] w) ?_ ?_
  ·
    refine wp_block <| lp (α := Nat × Int) (fun (gh : Nat × Int) a w => match gh with | (nn2, vB6) => ∃ (HB1 : PH) (oaB2 : Option Addr) (capB3 : Nat), (slices_IndexFunc_string_string__Make_1_l2 N slices_IndexFunc_string_string__Make_1_j1 p1 y7) nn2 vB6 = some r ∧ Ext w0 H HB1 ∧ Fr 19 [(0, .slice oaB2 p1.length capB3), (1, .func (.func 24) #[] #[.pointer (some ⟨b6, 0, none⟩)]), (7, .int .i64 (p1.length : Int)), (8, .int .i64 vB6)] a ∧ St w0 Nil [HB1] [] w ∧ p1.length ≤ capB3 ∧ SR HB1 oaB2 p1) (fun gh => gh.1) (N, 0) ⟨H, oa2, cap3, hm, (Ext.refl _ _), hF.has ⟨rfl, rfl, rfl, rfl, trivial⟩, hS, hc4, hr5⟩ ?_
    clear hm hF hS
    rintro ⟨nn2, vB6⟩ a w ⟨HB1, oaB2, capB3, hm, hxHB1, hF, hS, hcB4, hrB5⟩
    obtain _ | nn2 := nn2
    · simp [slices_IndexFunc_string_string__Make_1_l2] at hm
    rw [slices_IndexFunc_string_string__Make_1_l2] at hm
    refine th <| ?_
    refine rg <| ?_
    refine ls <| q1 hF rfl (e_lss hF rfl rfl) fun a hF => ?_
    refine re <| ?_
    rcases bdich (decide (vB6 < (p1.length : Int))) with hb13 | hb13
    ·
      replace hm := itp_t hm hb13
      refine tn <| th <| ctv hF rfl hb13 <| wp_skip <| ?_
      refine tn <| th <| wp_block <| th <| ?_
      refine rg <| ?_
      refine ls <| q1 hF rfl (e_move hF rfl) fun a hF => ?_
      refine ls <| q1 hF rfl (e_asg hF rfl) fun a hF => ?_
      refine re <| ?_
      refine tn <| th <| ?_
      replace hm := bind_some hm
      obtain ⟨x14, h15, hm⟩ := hm
      obtain ⟨c16, g17, hl18⟩ := SR.get hrB5 h15
      obtain rfl : c16 = [strv x14] := g17
      replace hm := bind_some hm
      obtain ⟨r19, h20, hm⟩ := hm
      refine rg <| ?_
      refine ls <| q1 hF rfl (e_move hF rfl) fun a hF => ?_
      refine ls <| q1 hF rfl (e_move hF rfl) fun a hF => ?_
      refine ls <| q1 hF rfl (e_move hF rfl) fun a hF => ?_
      refine ls <| q1 hF rfl (e_iaI hF Tryd.runUnderlying23 Tryd.sizeOf9 rfl rfl h15 (SR.oaI hrB5 (by decide) h15)) fun a hF => ?_
      refine ls <| q1 hF rfl (e_ld hF Tryd.isAgg9 rfl (PH.le.cell (Lds.le (St.ld hS)) (hl18 0 _ rfl))) fun a hF => ?_
      refine ls <| k1 (vs := [strv x14]) (caps := [.pointer (some ⟨b6, 0, none⟩)]) hF rfl rfl Tryd.call24 (code_Make_1_c (hp_le _) hc10 (St.srH hS (hr11.mono hxHB1.sub)) (St.up hS _ _ (hxHB1.sub _ _ hb12)) h20) ⟨rfl, trivial⟩ rfl (fun v w a hR hF => ?_)
      obtain ⟨rfl, hk⟩ := hR
      replace hS := hS.pass hk
      clear hk
      refine re <| ?_
      rcases bdich r19 with hb21 | hb21
      ·
        replace hm := ite_t hm hb21
        refine tn <| ctv hF rfl hb21 <| th <| ?_
        refine rg <| ?_
        refine ls <| q1 hF rfl (e_move hF rfl) fun a hF => ?_
        refine ls <| q1 hF rfl (e_asg hF rfl) fun a hF => ?_
        refine re <| ?_
        refine tn <| ?_
        refine wp_ret <| br <| tr <| tr <| br <| tr <| ?_
        obtain rfl := Option.some.inj hm
        exact r1 hF Tryd.results51 rfl ⟨rfl, hS.keep⟩
      ·
        replace hm := ite_f hm hb21
        refine tn <| cfv hF rfl hb21 <| wp_skip <| ?_
        refine bn <| tn <| ?_
        refine rg <| ?_
        refine ls <| q1 hF rfl (e_add hF rfl rfl) fun a hF => ?_
        refine ls <| q1 hF rfl (e_move hF rfl) fun a hF => ?_
        refine re <| ?_
        refine tn <| ?_
        exact ⟨(nn2, (IntKind.i64.wrap (vB6 + 1))), ⟨HB1, oaB2, capB3, hm, hxHB1, hF.has ⟨rfl, rfl, rfl, rfl, trivial⟩, hS, hcB4, hrB5⟩, Nat.lt_succ_self _⟩
    ·
      replace hm := itp_f hm hb13
      refine tn <| th <| cfv hF rfl hb13 <| ?_
      refine wp_exit <| tx <| tx <| bx <| ?_
      refine tn <| ?_
      exact ⟨HB1, hm, hxHB1, hF.has trivial, hS⟩
  clear hm hF hS
  rintro a w ⟨HA1, hm, hxHA1, hF, hS⟩
  unfold slices_IndexFunc_string_string__Make_1_j1 at hm
  refine th <| ?_
  refine rg <| ?_
  refine ls <| q1 hF rfl (e_asg hF rfl) fun a hF => ?_
  refine re <| ?_
  refine tn <| ?_
  refine wp_ret <| ?_
  obtain rfl := Option.some.inj hm
  exact r1 hF Tryd.results51 rfl ⟨rfl, hS.keep⟩

set_option maxRecDepth 100000 in
theorem slices_ContainsFunc_string_string__Make_1_c {N : Nat} {w0 : World} {H : PH} (hH : H.le w0) {oa2 : Option Addr} {cap3 : Nat} {p1 : (List Str)} (hc4 : p1.length ≤ cap3) (hr5 : SR H oa2 p1) {oa8 : Option Addr} {cap9 : Nat} {y7 : (List Str)} (hc10 : y7.length ≤ cap9) (hr11 : SR H oa8 y7) {b6 : Nat} (hb12 : H b6 = some (.cells [.slice oa8 y7.length cap9].toArray 23 (0, 0))) {r : Bool} (hm : slices_ContainsFunc_string_string__Make_1 N p1 y7 = some r) : Tot Tryd.prog 26 #[.slice oa2 p1.length cap3, .func (.func 24) #[] #[.pointer (some ⟨b6, 0, none⟩)]] w0 (fun v w' => v = .bool r ∧ Keep Nil w0 w') := by
  unfold slices_ContainsFunc_string_string__Make_1 at hm
  refine fn0 (args := [.slice oa2 p1.length cap3, .func (.func 24) #[] #[.pointer (some ⟨b6, 0, none⟩)]]) (F := [(0, .slice oa2 p1.length cap3), (1, .func (.func 24) #[] #[.pointer (some ⟨b6, 0, none⟩)])]) Tryd.func26 rfl Tryd.ntmps26 rfl rfl fun a hF => ?_
  have hS : St w0 Nil [H] [] w0 := start1 hH
  refine th <| ?_
  refine rg <| ?_
  refine ls <| q1 hF rfl (e_asg hF rfl) fun a hF => ?_
  refine re <| ?_
  refine tn <| th <| ?_
  replace hm := bind_some hm
  obtain ⟨r13, h14, hm⟩ := hm
  refine rg <| ?_
  refine ls <| q1 hF rfl (e_move hF rfl) fun a hF => ?_
  refine ls <| q1 hF rfl (e_move hF rfl) fun a hF => ?_
  refine ls <| c1 hF rfl Tryd.call51 (slices_IndexFunc_string_string__Make_1_c (hp_le _) hc4 (St.srH hS hr5) hc10 (St.srH hS hr11) (St.up hS _ _ hb12) h14) ⟨rfl, rfl, trivial⟩ (fun v w a hR hF => ?_)
  obtain ⟨rfl, hk⟩ := hR
  replace hS := hS.pass hk
  clear hk
  refine ls <| q1 hF rfl (e_geq hF rfl rfl) fun a hF => ?_
  refine ls <| q1 hF rfl (e_asg hF rfl) fun a hF => ?_
  refine re <| ?_
  refine tn <| ?_
  refine wp_ret <| ?_
  obtain rfl := Option.some.inj hm
  exact r1 hF Tryd.results26 rfl ⟨rfl, hS.keep⟩

set_option maxRecDepth 100000 in
theorem code_wants_c {N : Nat} {w0 : World} {H : PH} (hH : H.le w0) {p1 : Int} {r : Int} (hm : code_wants N p1 = some r) : Tot Tryd.prog 34 #[.int .i64 p1] w0 (fun v w' => v = .int .i64 r ∧ Keep Nil w0 w') := by
  unfold code_wants at hm
  refine fn0 (args := [.int .i64 p1]) (F := [(0, .int .i64 p1)]) Tryd.func34 rfl Tryd.ntmps34 rfl rfl fun a hF => ?_
  have hS : St w0 Nil [H] [] w0 := start1 hH
  refine th <| ?_
  refine rg <| ?_
  refine ls <| q1 hF rfl (e_asg hF rfl) fun a hF => ?_
  refine re <| ?_
  refine tn <| th <| wp_block <| th <| ?_
  refine rg <| ?_
  refine ls <| q1 hF rfl (e_move hF rfl) fun a hF => ?_
  refine ls <| q1 hF rfl (e_eql hF rfl rfl) fun a hF => ?_
  refine ls <| q1 hF rfl (e_move hF rfl) fun a hF => ?_
  refine grp (N := 17) (Fk := [(0, .int .i64 p1), (9, .bool ((decide (p1 = 3)) || (decide (p1 = 4))))]) (b := (decide (p1 = 3))) 3 hS ?_ ?_ ?_
  ·
    intro hb key
    replace hF := Fr.as hF (t := 6) rfl (congrArg Value.bool hb)
    refine ls <| gn hF rfl rfl rfl rfl fun a hF => ?_
    refine ls <| gn hF rfl rfl rfl rfl fun a hF => ?_
    refine ls <| q1 hF rfl (e_as (v' := .bool ((decide (p1 = 3)) || (decide (p1 = 4)))) (e_pickT hF rfl rfl) (by rw [hb]; rfl)) fun a hF => ?_
    exact key _ _ (hF.has ⟨rfl, rfl, trivial⟩) hS
  ·
    intro hb key
    replace hF := Fr.as hF (t := 6) rfl (congrArg Value.bool hb)
    refine ls <| gy hF rfl rfl <| q1 hF rfl (e_move hF rfl) fun a hF => ?_
    refine ls <| gy hF rfl rfl <| q1 hF rfl (e_eql hF rfl rfl) fun a hF => ?_
    refine ls <| q1 hF rfl (e_as (v' := .bool ((decide (p1 = 3)) || (decide (p1 = 4)))) (e_pickF hF rfl rfl) (by rw [hb]; rfl)) fun a hF => ?_
    exact key _ _ (hF.has ⟨rfl, rfl, trivial⟩) hS
  intro a w hF hS
  refine ls <| q1 hF rfl (e_asg hF rfl) fun a hF => ?_
  refine re <| ?_
  rcases bdich ((decide (p1 = 3)) || (decide (p1 = 4))) with hb2 | hb2
  ·
    replace hm := ite_t hm hb2
    refine tn <| ctv hF rfl hb2 <| th <| ?_
    refine rg <| ?_
    refine ls <| q1 hF rfl (e_asg hF rfl) fun a hF => ?_
    refine re <| ?_
    refine tn <| ?_
    refine wp_ret <| br <| tr <| ?_
    obtain rfl := Option.some.inj hm
    exact r1 hF Tryd.results34 rfl ⟨rfl, hS.keep⟩
  ·
    replace hm := ite_f hm hb2
    refine tn <| cfv hF rfl hb2 <| th <| ?_
    refine rg <| ?_
    refine ls <| q1 hF rfl (e_move hF rfl) fun a hF => ?_
    refine ls <| q1 hF rfl (e_geq hF rfl rfl) fun a hF => ?_
    refine ls <| q1 hF rfl (e_move hF rfl) fun a hF => ?_
    refine grp (N := 17) (Fk := [(16, .bool ((decide (5 ≤ p1)) && (decide (p1 ≤ 15))))]) (b := (decide (5 ≤ p1))) 3 hS ?_ ?_ ?_
    ·
      intro hb key
      replace hF := Fr.as hF (t := 13) rfl (congrArg Value.bool hb)
      refine ls <| gy hF rfl rfl <| q1 hF rfl (e_move hF rfl) fun a hF => ?_
      refine ls <| gy hF rfl rfl <| q1 hF rfl (e_leq hF rfl rfl) fun a hF => ?_
      refine ls <| q1 hF rfl (e_as (v' := .bool ((decide (5 ≤ p1)) && (decide (p1 ≤ 15)))) (e_pickT hF rfl rfl) (by rw [hb]; rfl)) fun a hF => ?_
      exact key _ _ (hF.has ⟨rfl, trivial⟩) hS
    ·
      intro hb key
      replace hF := Fr.as hF (t := 13) rfl (congrArg Value.bool hb)
      refine ls <| gn hF rfl rfl rfl rfl fun a hF => ?_
      refine ls <| gn hF rfl rfl rfl rfl fun a hF => ?_
      refine ls <| q1 hF rfl (e_as (v' := .bool ((decide (5 ≤ p1)) && (decide (p1 ≤ 15)))) (e_pickF hF rfl rfl) (by rw [hb]; rfl)) fun a hF => ?_
      exact key _ _ (hF.has ⟨rfl, trivial⟩) hS
    intro a w hF hS
    refine ls <| q1 hF rfl (e_asg hF rfl) fun a hF => ?_
    refine re <| ?_
    rcases bdich ((decide (5 ≤ p1)) && (decide (p1 ≤ 15))) with hb3 | hb3
    ·
      replace hm := ite_t hm hb3
      refine tn <| ctv hF rfl hb3 <| th <| ?_
      refine rg <| ?_
      refine ls <| q1 hF rfl (e_asg hF rfl) fun a hF => ?_
      refine re <| ?_
      refine tn <| ?_
      refine wp_ret <| br <| tr <| ?_
      obtain rfl := Option.some.inj hm
      exact r1 hF Tryd.results34 rfl ⟨rfl, hS.keep⟩
    ·
      replace hm := ite_f hm hb3
      refine tn <| cfv hF rfl hb3 <| wp_skip <| ?_
      refine bn <| tn <| th <| ?_
      refine rg <| ?_
      refine ls <| q1 hF rfl (e_asg hF rfl) fun a hF => ?_
      refine re <| ?_
      refine tn <| ?_
      refine wp_ret <| ?_
      obtain rfl := Option.some.inj hm
      exact r1 hF Tryd.results34 rfl ⟨rfl, hS.keep⟩

set_option maxRecDepth 100000 in
theorem code_make_c : ∀ (N : Nat) {w0 : World} {H : PH} (hH : H.le w0) {oa2 : Option Addr} {cap3 : Nat} {p1 : (List api_Node)} (hc4 : p1.length ≤ cap3) (hr5 : SR H oa2 p1) {p6 : Int} {oa8 : Option Addr} {cap9 : Nat} {p7 : (List Str)} (hc10 : p7.length ≤ cap9) (hr11 : SR H oa8 p7) {r : (List api_Op)} (hm : code_make N p1 p6 p7 = some r), Tot Tryd.prog 28 #[.slice oa2 p1.length cap3, .int .i64 p6, .slice oa8 p7.length cap9] w0 (fun v w' => ∃ (oa0 : Option Addr) (cap0 : Nat) (vs0 : List Value), v = .slice oa0 r.length cap0 ∧ (∀ h, Rows h vs0 r) ∧ Fresh w0 (sla 46 2 oa0 r.length cap0 vs0) w') := by
  intro N
  induction N with
  | zero => intros; rename_i hm; simp [code_make] at hm
  | succ N ih =>
  intro w0 H hH oa2 cap3 p1 hc4 hr5 p6 oa8 cap9 p7 hc10 hr11 r hm
  rw [code_make] at hm
  refine fn0 (args := [.slice oa2 p1.length cap3, .int .i64 p6, .slice oa8 p7.length cap9]) (F := [(0, .slice oa2 p1.length cap3), (1, .int .i64 p6), (2, .slice oa8 p7.length cap9)]) Tryd.func28 rfl Tryd.ntmps28 rfl rfl fun a hF => ?_
  have hS : St w0 Nil [H] [] w0 := start1 hH
  refine th <| ?_
  refine rg <| ?_
  refine ls <| q1 hF rfl (e_asg hF rfl) fun a hF => ?_
  refine re <| ?_
  refine tn <| th <| ?_
  refine rg <| ?_
  refine ls <| q1 hF rfl (e_asg hF rfl) fun a hF => ?_
  refine re <| ?_
  refine tn <| th <| ?_
  refine rg <| ?_
  refine ls <| q1 hF rfl (e_move hF rfl) fun a hF => ?_
  refine ls <| q1 hF rfl (e_add hF rfl rfl) fun a hF => ?_
  refine ls <| q1 hF rfl (e_asg hF rfl) fun a hF => ?_
  refine re <| ?_
  refine tn <| th <| th <| ?_
  replace hm := bind_some hm
  obtain ⟨x12, h13, hm⟩ := hm
  obtain ⟨c14, g15, hl16⟩ := SR.get hr5 h13
  obtain rfl := api_Node_open g15
  replace hm := bind_some hm
  obtain ⟨r17, h18, hm⟩ := hm
  refine rg <| ?_
  refine ls <| q1 hF rfl (e_move hF rfl) fun a hF => ?_
  refine ls <| q1 hF rfl (e_move hF rfl) fun a hF => ?_
  refine ls <| q1 hF rfl (e_iaI hF Tryd.runUnderlying22 Tryd.sizeOf39 rfl rfl h13 (SR.oaI hr5 (by decide) h13)) fun a hF => ?_
  refine ls <| q1 hF rfl (e_fa hF fa39_0 rfl) fun a hF => ?_
  refine ls <| q1 hF rfl (e_ld hF Tryd.isAgg3 rfl (PH.le.cell (Lds.le (St.ld hS)) (hl16 0 _ rfl))) fun a hF => ?_
  refine ls <| c1 hF rfl Tryd.call34 (code_wants_c (hp_le _) h18) ⟨rfl, trivial⟩ (fun v w a hR hF => ?_)
  obtain ⟨rfl, hk⟩ := hR
  replace hS := hS.pass hk
  clear hk
  refine ls <| q1 hF rfl (e_move hF rfl) fun a hF => ?_
  refine re <| ?_
  refine tn <| midK (fun a w => ∃ (vA10 : (List api_Op)) (HA1 : PH) (oaA2 : Option Addr) (capA3 : Nat) (oaA6 : Option Addr) (capA7 : Nat) (oaA11 : Option Addr) (capA12 : Nat) (vsA13 : List Value), (code_make_j1 N p7 x12) vA10 = some r ∧ Ext w0 H HA1 ∧ Fr 56 [(0, .slice oaA2 p1.length capA3), (1, .int .i64 p6), (2, .slice oaA6 p7.length capA7), (7, .slice oaA11 vA10.length capA12)] a ∧ St w0 Nil [HA1] [sla 46 2 oaA11 vA10.length capA12 vsA13] w ∧ p1.length ≤ capA3 ∧ SR HA1 oaA2 p1 ∧ p7.length ≤ capA7 ∧ SR HA1 oaA6 p7 ∧ Rows HA1 vsA13 vA10) ?_ ?_
  ·
    replace hS := St.nilS hS 46 2
    refine wp_block <| lp (α := Nat × (List api_Op) × Int × Int) (fun (gh : Nat × (List api_Op) × Int × Int) a w => match gh with | (nn2, vB10, vB16, vB17) => ∃ (HB1 : PH) (oaB2 : Option Addr) (capB3 : Nat) (oaB6 : Option Addr) (capB7 : Nat) (oaB11 : Option Addr) (capB12 : Nat) (vsB13 : List Value), (code_make_l2 (code_make N) N (code_make_j1 N p7 x12) p1 p7 r17) nn2 vB10 vB16 vB17 = some r ∧ Ext w0 H HB1 ∧ Fr 56 [(0, .slice oaB2 p1.length capB3), (1, .int .i64 p6), (2, .slice oaB6 p7.length capB7), (7, .slice oaB11 vB10.length capB12), (8, .int .i64 vB16), (17, .int .i64 r17), (18, .int .i64 vB17)] a ∧ St w0 Nil [HB1] [sla 46 2 oaB11 vB10.length capB12 vsB13] w ∧ p1.length ≤ capB3 ∧ SR HB1 oaB2 p1 ∧ p7.length ≤ capB7 ∧ SR HB1 oaB6 p7 ∧ Rows HB1 vsB13 vB10) (fun gh => gh.1) (N, [], (IntKind.i64.wrap (p6 + 1)), 0) ⟨H, oa2, cap3, oa8, cap9, none, 0, [], hm, (Ext.refl _ _), hF.has ⟨rfl, rfl, rfl, rfl, rfl, rfl, rfl, trivial⟩, hS, hc4, hr5, hc10, hr11, .nil⟩ ?_
    clear hm hF hS
    rintro ⟨nn2, vB10, vB16, vB17⟩ a w ⟨HB1, oaB2, capB3, oaB6, capB7, oaB11, capB12, vsB13, hm, hxHB1, hF, hS, hcB4, hrB5, hcB8, hrB9, hvB14⟩
    obtain _ | nn2 := nn2
    · simp [code_make_l2] at hm
    rw [code_make_l2] at hm
    refine th <| ?_
    refine rg <| ?_
    refine ls <| q1 hF rfl (e_lss hF rfl rfl) fun a hF => ?_
    refine re <| ?_
    rcases bdich (decide (vB17 < r17)) with hb19 | hb19
    ·
      replace hm := itp_t hm hb19
      refine tn <| th <| ctv hF rfl hb19 <| wp_skip <| ?_
      refine tn <| th <| wp_block <| th <| ?_
      replace hm := bind_some hm
      obtain ⟨r20, h21, hm⟩ := hm
      replace hm := bind_some hm
      obtain ⟨l27, h28, hm⟩ := hm
      refine rg <| ?_
      refine ls <| q1 hF rfl (e_move hF rfl) fun a hF => ?_
      refine ls <| q1 hF rfl (e_move hF rfl) fun a hF => ?_
      refine ls <| q1 hF rfl (e_move hF rfl) fun a hF => ?_
      refine ls <| q1 hF rfl (e_move hF rfl) fun a hF => ?_
      refine ls <| c1 hF rfl Tryd.call28 (ih (hp_le _) hcB4 (St.srH hS hrB5) hcB8 (St.srH hS hrB9) h21) ⟨rfl, rfl, rfl, trivial⟩ (fun v w a hR hF => ?_)
      obtain ⟨oa22, cap23, vs24, rfl, hv25, hk⟩ := hR
      replace hS := hS.fresh hk
      clear hk
      replace hv25 := hv25 HB1
      refine ls <| m_app (α := api_Op) (xs := vB10) (ys := r20) hF rfl hS Tryd.underlying26 info46 rfl (by decide) rfl rfl rfl (.tail _ (.head _)) hvB14 (hS.rdO (.head _)) hv25 h28 fun oa29 cap30 vs31 w a hv32 hU hF => ?_
      replace hS := hU _ (.tail .head)
      clear hU
      refine ls <| q1 hF rfl (e_asg hF rfl) fun a hF => ?_
      refine re <| ?_
      refine tn <| ?_
      replace hm := bind_some hm
      obtain ⟨r33, h34, hm⟩ := hm
      refine rg <| ?_
      refine ls <| q1 hF rfl (e_move hF rfl) fun a hF => ?_
      refine ls <| q1 hF rfl (e_move hF rfl) fun a hF => ?_
      refine ls <| c1 hF rfl Tryd.call48 (expr_End_c (hp_le _) hcB4 (St.srH hS hrB5) h34) ⟨rfl, rfl, trivial⟩ (fun v w a hR hF => ?_)
      obtain ⟨rfl, hk⟩ := hR
      replace hS := hS.pass hk
      clear hk
      refine ls <| q1 hF rfl (e_asg hF rfl) fun a hF => ?_
      refine re <| ?_
      refine bn <| tn <| ?_
      refine rg <| ?_
      refine ls <| q1 hF rfl (e_add hF rfl rfl) fun a hF => ?_
      refine ls <| q1 hF rfl (e_move hF rfl) fun a hF => ?_
      refine re <| ?_
      refine tn <| ?_
      replace hS := hS.pickL (.cons (.tail .head) .nil)
      exact ⟨(nn2, l27, r33, (IntKind.i64.wrap (vB17 + 1))), ⟨HB1, oaB2, capB3, oaB6, capB7, oa29, cap30, vs31, hm, hxHB1, hF.has ⟨rfl, rfl, rfl, rfl, rfl, rfl, rfl, trivial⟩, hS, hcB4, hrB5, hcB8, hrB9, hv32⟩, Nat.lt_succ_self _⟩
    ·
      replace hm := itp_f hm hb19
      refine tn <| th <| cfv hF rfl hb19 <| ?_
      refine wp_exit <| tx <| tx <| bx <| ?_
      refine tn <| ?_
      exact ⟨vB10, HB1, oaB2, capB3, oaB6, capB7, oaB11, capB12, vsB13, hm, hxHB1, hF.has ⟨rfl, rfl, rfl, rfl, trivial⟩, hS, hcB4, hrB5, hcB8, hrB9, hvB14⟩
  clear hm hF hS
  rintro a w ⟨vA10, HA1, oaA2, capA3, oaA6, capA7, oaA11, capA12, vsA13, hm, hxHA1, hF, hS, hcA4, hrA5, hcA8, hrA9, hvA14⟩
  unfold code_make_j1 at hm
  refine th <| ?_
  obtain ⟨c35, g36, hl37⟩ := SR.get hrA5 h13
  obtain rfl := api_Node_open g36
  refine rdS 12 hS wide fun w hS => ?_
  refine d1 (i := 0) rfl (by kernel_rfl) (by kernel_rfl) (St.ld hS) hF rfl (fun _ _ _ h => h) (fun w hl => (e_move hF rfl)) fun a hF => ?_
  refine d1 (i := 1) rfl (by kernel_rfl) (by kernel_rfl) (St.ld hS) hF rfl (fun _ _ _ h => h) (fun w hl => (e_move hF rfl)) fun a hF => ?_
  refine d1 (i := 2) rfl (by kernel_rfl) (by kernel_rfl) (St.ld hS) hF rfl (fun _ _ _ h => h) (fun w hl => (e_iaI hF Tryd.runUnderlying22 Tryd.sizeOf39 rfl rfl h13 (SR.oaI hrA5 (by decide) h13))) fun a hF => ?_
  refine d1 (i := 3) rfl (by kernel_rfl) (by kernel_rfl) (St.ld hS) hF rfl (fun _ _ _ h => h) (fun w hl => (e_fa hF fa39_0 rfl)) fun a hF => ?_
  refine d1 (i := 4) rfl (by kernel_rfl) (by kernel_rfl) (St.ld hS) hF rfl (fun _ _ _ h => h) (fun w hl => (e_ld hF Tryd.isAgg3 rfl (PH.le.cell (Lds.le hl) (hl37 0 _ rfl)))) fun a hF => ?_
  refine d1 (i := 5) rfl (by kernel_rfl) (by kernel_rfl) (St.ld hS) hF rfl (fun _ _ _ h => h) (fun w hl => (e_move hF rfl)) fun a hF => ?_
  refine d1 (i := 6) rfl (by kernel_rfl) (by kernel_rfl) (St.ld hS) hF rfl (fun _ _ _ h => h) (fun w hl => (e_move hF rfl)) fun a hF => ?_
  refine d1 (i := 7) rfl (by kernel_rfl) (by kernel_rfl) (St.ld hS) hF rfl (fun _ _ _ h => h) (fun w hl => (e_iaI hF Tryd.runUnderlying22 Tryd.sizeOf39 rfl rfl h13 (SR.oaI hrA5 (by decide) h13))) fun a hF => ?_
  refine d1 (i := 8) rfl (by kernel_rfl) (by kernel_rfl) (St.ld hS) hF rfl (fun _ _ _ h => h) (fun w hl => (e_fa hF fa39_1 rfl)) fun a hF => ?_
  refine d1 (i := 9) rfl (by kernel_rfl) (by kernel_rfl) (St.ld hS) hF rfl (fun _ _ _ h => h) (fun w hl => (e_ld hF Tryd.isAgg3 rfl (PH.le.cell (Lds.le hl) (hl37 1 _ rfl)))) fun a hF => ?_
  refine d1 (i := 10) rfl (by kernel_rfl) (by kernel_rfl) (St.ld hS) hF rfl (fun _ _ _ h => h) (fun w hl => (e_bldK [.int .i64 x12.Op, .int .i64 x12.N] [.int .i64 x12.Op, .int .i64 x12.N] hF ⟨rfl, rfl, trivial⟩ (fun w => by kernel_rfl))) fun a hF => ?_
  refine da1 (i := 11) (by kernel_rfl) ?_
  refine di (i := 11) rfl <| a_alloc (cs := [.int .i64 0, .int .i64 0].toArray) hF rfl hS Tryd.zeroValue46 rfl fun b38 w a hS hF => ?_
  refine ⟨fun _ => (St.ldsX hS (fun _ _ h => h) (fun _ h => (.tail _ h))), ?_⟩
  refine da1 (i := 12) (by kernel_rfl) ?_
  refine di (i := 12) rfl <| s_blkA hF hS Tryd.sizeOf46 rfl rfl rfl rfl (one_cells rfl) .head fun w hS => ?_
  refine ⟨fun h => absurd rfl h, ?_⟩
  refine de (by kernel_rfl) <| ?_
  refine tn <| th <| th <| ?_
  refine rg <| ?_
  refine ls <| q1 hF rfl (e_fa hF fa46_0 rfl) fun a hF => ?_
  refine ls <| q1 hF rfl (e_ld hF Tryd.isAgg3 rfl ((St.ld hS).cellB (.head _) rfl)) fun a hF => ?_
  refine ls <| q1 hF rfl (e_eql hF rfl rfl) fun a hF => ?_
  refine re <| ?_
  refine tn <| midK (fun a w => ∃ (vA16 : api_Op), (code_make_j3 vA10) vA16 = some r ∧ Fr 56 [(7, .slice oaA11 vA10.length capA12), (9, .pointer (some ⟨b38, 0, none⟩))] a ∧ St w0 Nil [HA1] [sla 46 2 oaA11 vA10.length capA12 vsA13, blk b38 (.cells [.int .i64 vA16.Kind, .int .i64 vA16.N].toArray 46 (0, 0))] w) ?_ ?_
  ·
    rcases bdich (decide (x12.Op = 2)) with hb39 | hb39
    ·
      replace hm := itp_t hm hb39
      refine ctv hF rfl hb39 <| ?_
      replace hm := bind_some hm
      obtain ⟨r40, h41, hm⟩ := hm
      refine rg <| ?_
      refine ls <| q1 hF rfl (e_move hF rfl) fun a hF => ?_
      refine ls <| q1 hF rfl (e_move hF rfl) fun a hF => ?_
      refine ls <| q1 hF rfl (e_move hF rfl) fun a hF => ?_
      refine ls <| q1 hF rfl (e_iaI hF Tryd.runUnderlying22 Tryd.sizeOf39 rfl rfl h13 (SR.oaI hrA5 (by decide) h13)) fun a hF => ?_
      refine ls <| q1 hF rfl (e_fa hF fa39_2 rfl) fun a hF => ?_
      refine ls <| q1 hF rfl (e_ld hF Tryd.isAgg9 rfl (PH.le.cell (Lds.le (St.ld hS)) (hl37 2 _ rfl))) fun a hF => ?_
      refine ls <| c1 hF rfl Tryd.call50 (slices_Index_string_string_c (hp_le _) hcA8 (St.srH hS hrA9) h41) ⟨rfl, rfl, trivial⟩ (fun v w a hR hF => ?_)
      obtain ⟨rfl, hk⟩ := hR
      replace hS := hS.pass hk
      clear hk
      refine ls <| q1 hF rfl (e_fa hF fa46_1 rfl) fun a hF => ?_
      refine ls <| s_blk hF hS Tryd.sizeOf3 rfl rfl rfl rfl .head (.succ .zero) fun w hS => ?_
      refine re <| ?_
      refine tn <| ?_
      replace hS := hS.pickL (.cons (.tail .head) (.cons .head .nil))
      exact ⟨(api_Op.mk x12.Op r40), hm, hF.has ⟨rfl, rfl, trivial⟩, hS⟩
    ·
      replace hm := itp_f hm hb39
      refine cfv hF rfl hb39 <| wp_skip <| ?_
      refine tn <| ?_
      replace hS := hS.pickL (.cons (.tail .head) (.cons .head .nil))
      exact ⟨(api_Op.mk x12.Op x12.N), hm, hF.has ⟨rfl, rfl, trivial⟩, hS⟩
  clear hm hF hS
  rintro a w ⟨vA16, hm, hF, hS⟩
  unfold code_make_j3 at hm
  refine th <| ?_
  replace hm := bind_some hm
  obtain ⟨l45, h46, hm⟩ := hm
  refine rg <| ?_
  refine ls <| q1 hF rfl (e_move hF rfl) fun a hF => ?_
  refine ls <| q1 hF rfl (e_ldA hF Tryd.isAgg46 Tryd.sizeOf46 rfl rfl ((St.ld hS).cellsB (.tail _ (.head _)))) fun a hF => ?_
  refine ls <| a_bsl (e := 46) (sz := 2) [.int .i64 vA16.Kind, .int .i64 vA16.N] hF rfl hS rfl rfl rfl (fun w => by kernel_rfl) fun b43 w a hS hF => ?_
  have hv42 : Rows (α := api_Op) HA1 [.int .i64 vA16.Kind, .int .i64 vA16.N] ([vA16] : List api_Op) := (.cons (c := [.int .i64 vA16.Kind, .int .i64 vA16.N]) ⟨_, _, rfl, rfl, rfl⟩ .nil)
  refine ls <| m_app (α := api_Op) (xs := vA10) (ys := ([vA16] : List api_Op)) hF rfl hS Tryd.underlying26 info46 rfl (by decide) rfl rfl rfl (.tail _ (.head _)) hvA14 (hS.rdO (.head _)) hv42 h46 fun oa47 cap48 vs49 w a hv50 hU hF => ?_
  replace hS := hU _ (.tail .head)
  clear hU
  replace hS := hS.drop .head
  refine ls <| q1 hF rfl (e_asg hF rfl) fun a hF => ?_
  refine re <| ?_
  refine tn <| ?_
  refine wp_ret <| ?_
  obtain rfl := Option.some.inj hm
  exact r1 hF Tryd.results28 rfl ⟨_, _, _, rfl, (fun _ => Rows.ind hv50), hS.endFresh (.head _)⟩

set_option maxRecDepth 100000 in
theorem code_Make_c {N : Nat} {w0 : World} {H : PH} (hH : H.le w0) (hT : Tab H) {oa2 : Option Addr} {cap3 : Nat} {p1 : (List api_Node)} (hc4 : p1.length ≤ cap3) (hr5 : SR H oa2 p1) {oa7 : Option Addr} {cap8 : Nat} {p6 : (List Str)} (hc9 : p6.length ≤ cap8) (hr10 : SR H oa7 p6) {r : ((List api_Op) × Int)} (hm : code_Make N p1 p6 = some r) : Tot Tryd.prog 11 #[.slice oa2 p1.length cap3, .slice oa7 p6.length cap8] w0 (fun v w' => ∃ (oa0 : Option Addr) (cap0 : Nat) (vs0 : List Value), v = .tuple #[.slice oa0 r.1.length cap0, .int .i64 r.2] ∧ (∀ h, Rows h vs0 r.1) ∧ Fresh w0 (sla 46 2 oa0 r.1.length cap0 vs0) w') := by
  unfold code_Make at hm
  refine fn0 (args := [.slice oa2 p1.length cap3, .slice oa7 p6.length cap8]) (F := [(0, .slice oa2 p1.length cap3), (1, .slice oa7 p6.length cap8)]) Tryd.func11 rfl Tryd.ntmps11 rfl rfl fun a hF => ?_
  have hS : St w0 Nil [H] [] w0 := start1 hH
  refine th <| ?_
  refine rg <| ?_
  refine ls <| a_box (cs := [.slice oa7 p6.length cap8].toArray) hF rfl hS rfl rfl fun b11 w a hS hF => ?_
  refine ls <| q1 hF rfl (e_asg hF rfl) fun a hF => ?_
  refine ls <| q1 hF rfl (e_asg hF rfl) fun a hF => ?_
  refine re <| ?_
  refine tn <| th <| th <| ?_
  replace hm := bind_some hm
  obtain ⟨r12, h13, hm⟩ := hm
  refine rg <| ?_
  refine ls <| q1 hF rfl (e_move hF rfl) fun a hF => ?_
  refine ls <| c1 hF rfl Tryd.call23 (expr_Right_c (hp_le _) (Tab.mono hT (St.up hS)) hc4 (St.srH hS hr5) h13) ⟨rfl, trivial⟩ (fun v w a hR hF => ?_)
  obtain ⟨rfl, hk⟩ := hR
  replace hS := hS.pass hk
  clear hk
  refine ls <| q1 hF rfl (e_not hF rfl) fun a hF => ?_
  refine re <| ?_
  rcases bdich r12 with hb14 | hb14
  ·
    replace hm := ite_t hm hb14
    refine tn <| cfv hF rfl (by rw [hb14]; rfl) <| wp_skip <| ?_
    refine tn <| th <| ?_
    refine rg <| ?_
    refine ls <| q1 hF rfl (e_mkf (vs := [.pointer (some ⟨b11, 0, none⟩)]) hF ⟨rfl, trivial⟩) fun a hF => ?_
    refine ls <| q1 hF rfl (e_asg hF rfl) fun a hF => ?_
    refine re <| ?_
    refine tn <| th <| th <| ?_
    replace hm := bind_some hm
    obtain ⟨r15, h16, hm⟩ := hm
    replace hm := bind_some hm
    obtain ⟨r22, h23, hm⟩ := hm
    refine rg <| ?_
    refine ls <| q1 hF rfl (e_move hF rfl) fun a hF => ?_
    refine ls <| c1 hF rfl Tryd.call27 (expr_Names_c (hp_le _) (Tab.mono hT (St.up hS)) hc4 (St.srH hS hr5) h16) ⟨rfl, trivial⟩ (fun v w a hR hF => ?_)
    obtain ⟨oa17, cap18, vs19, rfl, hv20, hk⟩ := hR
    replace hS := hS.fresh hk
    clear hk
    replace hv20 := hv20 H
    refine ls <| q1 hF rfl (e_move hF rfl) fun a hF => ?_
    refine ls <| c1 hF rfl Tryd.call26 (slices_ContainsFunc_string_string__Make_1_c (hp_le _) (St.capO hS (.head _)) (St.srO hS (.head _) hv20) hc9 (St.srH hS hr10) (St.blkO hS (.tail _ (.head _))) h23) ⟨rfl, rfl, trivial⟩ (fun v w a hR hF => ?_)
    obtain ⟨rfl, hk⟩ := hR
    replace hS := hS.pass hk
    clear hk
    refine re <| ?_
    rcases bdich r22 with hb24 | hb24
    ·
      replace hm := ite_t hm hb24
      refine tn <| ctv hF rfl hb24 <| th <| ?_
      refine rg <| ?_
      refine ls <| q1 hF rfl (e_asg hF rfl) fun a hF => ?_
      refine ls <| q1 hF rfl (e_asg hF rfl) fun a hF => ?_
      refine re <| ?_
      refine tn <| ?_
      refine wp_ret <| tr <| ?_
      replace hS := St.nilS hS 46 2
      obtain rfl := Option.some.inj hm
      exact r2 hF Tryd.results11 rfl rfl ⟨_, _, _, rfl, (fun _ => .nil), hS.endFresh (.head _)⟩
    ·
      replace hm := ite_f hm hb24
      refine tn <| cfv hF rfl hb24 <| wp_skip <| ?_
      refine tn <| th <| ?_
      replace hm := bind_some hm
      obtain ⟨r25, h26, hm⟩ := hm
      refine rg <| ?_
      refine ls <| q1 hF rfl (e_move hF rfl) fun a hF => ?_
      refine ls <| q1 hF rfl (e_ld hF Tryd.isAgg23 rfl ((St.ld hS).cellB (.tail _ (.head _)) rfl)) fun a hF => ?_
      refine ls <| c1 hF rfl Tryd.call28 (code_make_c _ (hp_le _) hc4 (St.srH hS hr5) hc9 (St.srH hS hr10) h26) ⟨rfl, rfl, rfl, trivial⟩ (fun v w a hR hF => ?_)
      obtain ⟨oa27, cap28, vs29, rfl, hv30, hk⟩ := hR
      replace hS := hS.fresh hk
      clear hk
      replace hv30 := hv30 H
      refine ls <| q1 hF rfl (e_asg hF rfl) fun a hF => ?_
      refine ls <| q1 hF rfl (e_asg hF rfl) fun a hF => ?_
      refine re <| ?_
      refine tn <| ?_
      refine wp_ret <| ?_
      obtain rfl := Option.some.inj hm
      exact r2 hF Tryd.results11 rfl rfl ⟨_, _, _, rfl, (fun _ => Rows.ind hv30), hS.endFresh (.head _)⟩
  ·
    replace hm := ite_f hm hb14
    refine tn <| ctv hF rfl (by rw [hb14]; rfl) <| th <| ?_
    refine rg <| ?_
    refine ls <| q1 hF rfl (e_asg hF rfl) fun a hF => ?_
    refine ls <| q1 hF rfl (e_asg hF rfl) fun a hF => ?_
    refine re <| ?_
    refine tn <| ?_
    refine wp_ret <| tr <| ?_
    replace hS := St.nilS hS 46 2
    obtain rfl := Option.some.inj hm
    exact r2 hF Tryd.results11 rfl rfl ⟨_, _, _, rfl, (fun _ => .nil), hS.endFresh (.head _)⟩

set_option maxRecDepth 100000 in
theorem leadlineref08_Same_c {N : Nat} {w0 : World} {H : PH} (hH : H.le w0) {oa2 : Option Addr} {cap3 : Nat} {p1 : (List api_Op)} (hc4 : p1.length ≤ cap3) (hr5 : SR H oa2 p1) {oa7 : Option Addr} {cap8 : Nat} {p6 : (List api_Op)} (hc9 : p6.length ≤ cap8) (hr10 : SR H oa7 p6) {r : Bool} (hm : leadlineref08_Same N p1 p6 = some r) : Tot Tryd.prog 13 #[.slice oa2 p1.length cap3, .slice oa7 p6.length cap8] w0 (fun v w' => v = .bool r ∧ Keep Nil w0 w') := by
  unfold leadlineref08_Same at hm
  refine fn0 (args := [.slice oa2 p1.length cap3, .slice oa7 p6.length cap8]) (F := [(0, .slice oa2 p1.length cap3), (1, .slice oa7 p6.length cap8)]) Tryd.func13 rfl Tryd.ntmps13 rfl rfl fun a hF => ?_
  have hS : St w0 Nil [H] [] w0 := start1 hH
  refine th <| ?_
  refine rg <| ?_
  refine ls <| q1 hF rfl (e_asg hF rfl) fun a hF => ?_
  refine re <| ?_
  refine tn <| th <| th <| ?_
  refine rg <| ?_
  refine ls <| q1 hF rfl (e_move hF rfl) fun a hF => ?_
  refine ls <| q1 hF rfl (e_lenL (α := api_Op) (xs := p1) hF Tryd.runUnderlying26 rfl) fun a hF => ?_
  refine ls <| q1 hF rfl (e_move hF rfl) fun a hF => ?_
  refine ls <| q1 hF rfl (e_lenL (α := api_Op) (xs := p6) hF Tryd.runUnderlying26 rfl) fun a hF => ?_
  refine ls <| q1 hF rfl (e_neq hF rfl rfl) fun a hF => ?_
  refine re <| ?_
  rcases bdich (decide ((p1.length : Int) ≠ (p6.length : Int))) with hb11 | hb11
  ·
    replace hm := itp_t hm hb11
    refine tn <| ctv hF rfl hb11 <| th <| ?_
    refine rg <| ?_
    refine ls <| q1 hF rfl (e_asg hF rfl) fun a hF => ?_
    refine re <| ?_
    refine tn <| ?_
    refine wp_ret <| tr <| ?_
    obtain rfl := Option.some.inj hm
    exact r1 hF Tryd.results13 rfl ⟨rfl, hS.keep⟩
  ·
    replace hm := itp_f hm hb11
    refine tn <| cfv hF rfl hb11 <| wp_skip <| ?_
    refine tn <| th <| th <| ?_
    refine rg <| ?_
    refine ls <| q1 hF rfl (e_asg hF rfl) fun a hF => ?_
    refine re <| ?_
    refine tn <| midK (fun a w => ∃ (HA1 : PH), leadlineref08_Same_j1 = some r ∧ Ext w0 H HA1 ∧ Fr 26 [] a ∧ St w0 Nil [HA1] [] w) ?_ ?_
    ·
      refine wp_block <| lp (α := Nat × Int) (fun (gh : Nat × Int) a w => match gh with | (nn2, vB10) => ∃ (HB1 : PH) (oaB2 : Option Addr) (capB3 : Nat) (oaB6 : Option Addr) (capB7 : Nat), (leadlineref08_Same_l2 N leadlineref08_Same_j1 p1 p6) nn2 vB10 = some r ∧ Ext w0 H HB1 ∧ Fr 26 [(0, .slice oaB2 p1.length capB3), (1, .slice oaB6 p6.length capB7), (5, .int .i64 vB10)] a ∧ St w0 Nil [HB1] [] w ∧ p1.length ≤ capB3 ∧ SR HB1 oaB2 p1 ∧ p6.length ≤ capB7 ∧ SR HB1 oaB6 p6) (fun gh => gh.1) (N, 0) ⟨H, oa2, cap3, oa7, cap8, hm, (Ext.refl _ _), hF.has ⟨rfl, rfl, rfl, trivial⟩, hS, hc4, hr5, hc9, hr10⟩ ?_
      clear hm hF hS
      rintro ⟨nn2, vB10⟩ a w ⟨HB1, oaB2, capB3, oaB6, capB7, hm, hxHB1, hF, hS, hcB4, hrB5, hcB8, hrB9⟩
      obtain _ | nn2 := nn2
      · simp [leadlineref08_Same_l2] at hm
      rw [leadlineref08_Same_l2] at hm
      refine th <| th <| ?_
      refine rg <| ?_
      refine ls <| q1 hF rfl (e_move hF rfl) fun a hF => ?_
      refine ls <| q1 hF rfl (e_move hF rfl) fun a hF => ?_
      refine ls <| q1 hF rfl (e_lenL (α := api_Op) (xs := p1) hF Tryd.runUnderlying26 rfl) fun a hF => ?_
      refine ls <| q1 hF rfl (e_lss hF rfl rfl) fun a hF => ?_
      refine re <| ?_
      rcases bdich (decide (vB10 < (p1.length : Int))) with hb12 | hb12
      ·
        replace hm := itp_t hm hb12
        refine tn <| ctv hF rfl hb12 <| wp_skip <| ?_
        refine tn <| th <| wp_block <| th <| ?_
        replace hm := bind_some hm
        obtain ⟨x13, h14, hm⟩ := hm
        obtain ⟨c15, g16, hl17⟩ := SR.get hrB5 h14
        obtain rfl := api_Op_open g16
        replace hm := bind_some hm
        obtain ⟨x18, h19, hm⟩ := hm
        obtain ⟨c20, g21, hl22⟩ := SR.get hrB9 h19
        obtain rfl := api_Op_open g21
        refine rxS 9 hS wide (by kernel_rfl) fun w hS => ?_
        refine x1 (St.ld hS) hF rfl rfl (fun _ _ _ h => h) (fun w hl => (e_move hF rfl)) fun a hF => ?_
        refine x1 (St.ld hS) hF rfl rfl (fun _ _ _ h => h) (fun w hl => (e_move hF rfl)) fun a hF => ?_
        refine x1 (St.ld hS) hF rfl rfl (fun _ _ _ h => h) (fun w hl => (e_iaI hF Tryd.runUnderlying26 Tryd.sizeOf46 rfl rfl h14 (SR.oaI hrB5 (by decide) h14))) fun a hF => ?_
        refine x1 (St.ld hS) hF rfl rfl (fun _ _ _ h => h) (fun w hl => (e_ldA hF Tryd.isAgg46 Tryd.sizeOf46 rfl rfl (fun j v hj => PH.le.cell (Lds.le hl) (hl17 j v hj)))) fun a hF => ?_
        refine x1 (St.ld hS) hF rfl rfl (fun _ _ _ h => h) (fun w hl => (e_move hF rfl)) fun a hF => ?_
        refine x1 (St.ld hS) hF rfl rfl (fun _ _ _ h => h) (fun w hl => (e_move hF rfl)) fun a hF => ?_
        refine x1 (St.ld hS) hF rfl rfl (fun _ _ _ h => h) (fun w hl => (e_iaI hF Tryd.runUnderlying26 Tryd.sizeOf46 rfl rfl h19 (SR.oaI hrB9 (by decide) h19))) fun a hF => ?_
        refine x1 (St.ld hS) hF rfl rfl (fun _ _ _ h => h) (fun w hl => (e_ldA hF Tryd.isAgg46 Tryd.sizeOf46 rfl rfl (fun j v hj => PH.le.cell (Lds.le hl) (hl22 j v hj)))) fun a hF => ?_
        refine x1 (St.ld hS) hF rfl rfl (fun _ _ _ h => h) (fun w hl => (api_Op_neq (x := x13) (y := x18) hF rfl rfl)) fun a hF => ?_
        refine xe <| ?_
        rcases bdich (decide (x13 ≠ x18)) with hb23 | hb23
        ·
          replace hm := itp_t hm hb23
          refine tn <| ctv hF rfl hb23 <| th <| ?_
          refine rg <| ?_
          refine ls <| q1 hF rfl (e_asg hF rfl) fun a hF => ?_
          refine re <| ?_
          refine tn <| ?_
          refine wp_ret <| br <| tr <| tr <| br <| tr <| ?_
          obtain rfl := Option.some.inj hm
          exact r1 hF Tryd.results13 rfl ⟨rfl, hS.keep⟩
        ·
          replace hm := itp_f hm hb23
          refine tn <| cfv hF rfl hb23 <| wp_skip <| ?_
          refine bn <| tn <| ?_
          refine rg <| ?_
          refine ls <| q1 hF rfl (e_move hF rfl) fun a hF => ?_
          refine ls <| q1 hF rfl (e_add hF rfl rfl) fun a hF => ?_
          refine ls <| q1 hF rfl (e_asg hF rfl) fun a hF => ?_
          refine re <| ?_
          refine tn <| ?_
          exact ⟨(nn2, (IntKind.i64.wrap (vB10 + 1))), ⟨HB1, oaB2, capB3, oaB6, capB7, hm, hxHB1, hF.has ⟨rfl, rfl, rfl, trivial⟩, hS, hcB4, hrB5, hcB8, hrB9⟩, Nat.lt_succ_self _⟩
      ·
        replace hm := itp_f hm hb12
        refine tn <| cfv hF rfl hb12 <| ?_
        refine wp_exit <| tx <| tx <| bx <| ?_
        refine tn <| ?_
        exact ⟨HB1, hm, hxHB1, hF.has trivial, hS⟩
    clear hm hF hS
    rintro a w ⟨HA1, hm, hxHA1, hF, hS⟩
    unfold leadlineref08_Same_j1 at hm
    refine th <| ?_
    refine rg <| ?_
    refine ls <| q1 hF rfl (e_asg hF rfl) fun a hF => ?_
    refine re <| ?_
    refine tn <| ?_
    refine wp_ret <| ?_
    obtain rfl := Option.some.inj hm
    exact r1 hF Tryd.results13 rfl ⟨rfl, hS.keep⟩
end Go.LM.CODE
