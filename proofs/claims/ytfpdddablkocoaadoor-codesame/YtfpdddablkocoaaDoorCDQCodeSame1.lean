/- Walks, lifted by program. No condition beyond each theorem's own premises. -/
import Derived.Test.YtfpdddablkocoaaDoorCDB
namespace Go.LM.CODE
open Go Go.LL Go.MD Go.LM Go.Proofs Go.MD.CODE

set_option maxRecDepth 100000 in
theorem leadlinelaw03_Cut_c {N : Nat} {w0 : World} {H : PH} (hH : H.le w0) {oa2 : Option Addr} {cap3 : Nat} {p1 : (List api_Node)} (hc4 : p1.length ≤ cap3) (hr5 : SR H oa2 p1) {r : (List api_Node)} (hm : leadlinelaw03_Cut N p1 = some r) : Tot Tryd.prog 9 #[.slice oa2 p1.length cap3] w0 (fun v w' => ∃ (oa0 : Option Addr) (cap0 : Nat) (vs0 : List Value), v = .slice oa0 r.length cap0 ∧ (∀ h, Rows h vs0 r) ∧ Fresh w0 (sla 39 4 oa0 r.length cap0 vs0) w') := by
  unfold leadlinelaw03_Cut at hm
  refine fn0 (args := [.slice oa2 p1.length cap3]) (F := [(0, .slice oa2 p1.length cap3)]) Tryd.func9 rfl Tryd.ntmps9 rfl rfl fun a hF => ?_
  have hS : St w0 Nil [H] [] w0 := start1 hH
  refine th <| ?_
  refine rg <| ?_
  refine ls <| q1 hF rfl (e_asg hF rfl) fun a hF => ?_
  refine re <| ?_
  refine tn <| th <| ?_
  refine rg <| ?_
  refine ls <| a_bsl (e := 39) (sz := 4) [] hF rfl hS rfl rfl rfl (fun w => by kernel_rfl) fun b7 w a hS hF => ?_
  have hv6 : Rows (α := api_Node) H [] [] := .nil
  refine ls <| q1 hF rfl (e_asg hF rfl) fun a hF => ?_
  refine re <| ?_
  refine tn <| th <| th <| ?_
  refine rg <| ?_
  refine ls <| q1 hF rfl (e_asg hF rfl) fun a hF => ?_
  refine re <| ?_
  refine tn <| midK (fun a w => ∃ (vA2 : (List api_Node)) (HA1 : PH) (oaA3 : Option Addr) (capA4 : Nat) (vsA5 : List Value), leadlinelaw03_Cut_j1 vA2 = some r ∧ Ext w0 H HA1 ∧ Fr 34 [(3, .slice oaA3 vA2.length capA4)] a ∧ St w0 Nil [HA1] [sla 39 4 oaA3 vA2.length capA4 vsA5] w ∧ Rows HA1 vsA5 vA2) ?_ ?_
  ·
    refine wp_block <| lp (α := Nat × (List api_Node) × Int) (fun (gh : Nat × (List api_Node) × Int) a w => match gh with | (nn2, vB6, vB12) => ∃ (HB1 : PH) (oaB2 : Option Addr) (capB3 : Nat) (oaB7 : Option Addr) (capB8 : Nat) (vsB9 : List Value), (leadlinelaw03_Cut_l2 N leadlinelaw03_Cut_j1 p1) nn2 vB6 vB12 = some r ∧ Ext w0 H HB1 ∧ Fr 34 [(0, .slice oaB2 p1.length capB3), (3, .slice oaB7 vB6.length capB8), (4, .int .i64 vB12)] a ∧ St w0 Nil [HB1] [sla 39 4 oaB7 vB6.length capB8 vsB9] w ∧ p1.length ≤ capB3 ∧ SR HB1 oaB2 p1 ∧ Rows HB1 vsB9 vB6) (fun gh => gh.1) (N, [], 0) ⟨H, oa2, cap3, (some ⟨b7, 0, none⟩), 0, [], hm, (Ext.refl _ _), hF.has ⟨rfl, rfl, rfl, trivial⟩, hS, hc4, hr5, hv6⟩ ?_
    clear hm hF hS
    rintro ⟨nn2, vB6, vB12⟩ a w ⟨HB1, oaB2, capB3, oaB7, capB8, vsB9, hm, hxHB1, hF, hS, hcB4, hrB5, hvB10⟩
    obtain _ | nn2 := nn2
    · simp [leadlinelaw03_Cut_l2] at hm
    rw [leadlinelaw03_Cut_l2] at hm
    refine th <| th <| ?_
    refine rg <| ?_
    refine ls <| q1 hF rfl (e_move hF rfl) fun a hF => ?_
    refine ls <| q1 hF rfl (e_move hF rfl) fun a hF => ?_
    refine ls <| q1 hF rfl (e_lenL (α := api_Node) (xs := p1) hF Tryd.runUnderlying22 rfl) fun a hF => ?_
    refine ls <| q1 hF rfl (e_lss hF rfl rfl) fun a hF => ?_
    refine ls <| q1 hF rfl (e_move hF rfl) fun a hF => ?_
    refine grp (N := 34) (Fk := [(0, .slice oaB2 p1.length capB3), (3, .slice oaB7 vB6.length capB8), (4, .int .i64 vB12), (14, .bool ((decide (vB12 < (p1.length : Int))) && (decide (vB12 < 60))))]) (b := (decide (vB12 < (p1.length : Int)))) 3 hS ?_ ?_ ?_
    ·
      intro hb key
      replace hF := Fr.as hF (t := 11) rfl (congrArg Value.bool hb)
      refine ls <| gy hF rfl rfl <| q1 hF rfl (e_move hF rfl) fun a hF => ?_
      refine ls <| gy hF rfl rfl <| q1 hF rfl (e_lss hF rfl rfl) fun a hF => ?_
      refine ls <| q1 hF rfl (e_as (v' := .bool ((decide (vB12 < (p1.length : Int))) && (decide (vB12 < 60)))) (e_pickT hF rfl rfl) (by rw [hb]; rfl)) fun a hF => ?_
      exact key _ _ (hF.has ⟨rfl, rfl, rfl, rfl, trivial⟩) hS
    ·
      intro hb key
      replace hF := Fr.as hF (t := 11) rfl (congrArg Value.bool hb)
      refine ls <| gn hF rfl rfl rfl rfl fun a hF => ?_
      refine ls <| gn hF rfl rfl rfl rfl fun a hF => ?_
      refine ls <| q1 hF rfl (e_as (v' := .bool ((decide (vB12 < (p1.length : Int))) && (decide (vB12 < 60)))) (e_pickF hF rfl rfl) (by rw [hb]; rfl)) fun a hF => ?_
      exact key _ _ (hF.has ⟨rfl, rfl, rfl, rfl, trivial⟩) hS
    intro a w hF hS
    refine re <| ?_
    rcases bdich ((decide (vB12 < (p1.length : Int))) && (decide (vB12 < 60))) with hb9 | hb9
    ·
      replace hm := ite_t hm hb9
      refine tn <| ctv hF rfl hb9 <| wp_skip <| ?_
      refine tn <| th <| wp_block <| th <| ?_
      replace hm := bind_some hm
      obtain ⟨x10, h11, hm⟩ := hm
      obtain ⟨c12, g13, hl14⟩ := SR.get hrB5 h11
      obtain rfl := api_Node_open g13
      refine rg <| ?_
      refine ls <| q1 hF rfl (e_move hF rfl) fun a hF => ?_
      refine ls <| q1 hF rfl (e_move hF rfl) fun a hF => ?_
      refine ls <| q1 hF rfl (e_iaI hF Tryd.runUnderlying22 Tryd.sizeOf39 rfl rfl h11 (SR.oaI hrB5 (by decide) h11)) fun a hF => ?_
      refine ls <| q1 hF rfl (e_ldA hF Tryd.isAgg39 Tryd.sizeOf39 rfl rfl (fun j v hj => PH.le.cell (Lds.le (St.ld hS)) (hl14 j v hj))) fun a hF => ?_
      refine ls <| a_alloc (cs := [.int .i64 0, .int .i64 0, strv [], .int .i64 0].toArray) hF rfl hS Tryd.zeroValue39 rfl fun b15 w a hS hF => ?_
      refine ls <| s_blkA hF hS Tryd.sizeOf39 rfl rfl rfl rfl (one_cells rfl) .head fun w hS => ?_
      refine re <| ?_
      refine tn <| th <| ?_
      replace hm := bind_some hm
      obtain ⟨s16, h17, hm⟩ := hm
      refine rg <| ?_
      refine ls <| q1 hF rfl (e_fa hF fa39_2 rfl) fun a hF => ?_
      refine ls <| q1 hF rfl (e_ld hF Tryd.isAgg9 rfl ((St.ld hS).cellB (.head _) rfl)) fun a hF => ?_
      refine ls <| q1 hF rfl (e_fa hF fa39_2 rfl) fun a hF => ?_
      refine ls <| q1 hF rfl (e_ld hF Tryd.isAgg9 rfl ((St.ld hS).cellB (.head _) rfl)) fun a hF => ?_
      refine ls <| q1 hF rfl (e_lenU (s := x10.Name) hF Tryd.runUnderlying9 rfl) fun a hF => ?_
      refine ls <| q1 hF rfl (e_min hF rfl rfl) fun a hF => ?_
      refine ls <| q1 hF rfl (e_subU (s := x10.Name) (vl := 0) (vh := (min (x10.Name.length : Int) 40)) hF Tryd.runUnderlying9 rfl rfl rfl h17) fun a hF => ?_
      refine ls <| q1 hF rfl (e_fa hF fa39_2 rfl) fun a hF => ?_
      refine ls <| s_blk hF hS Tryd.sizeOf9 rfl rfl rfl rfl .head (.succ (.succ .zero)) fun w hS => ?_
      refine re <| ?_
      refine tn <| ?_
      replace hm := bind_some hm
      obtain ⟨l21, h22, hm⟩ := hm
      refine rg <| ?_
      refine ls <| q1 hF rfl (e_move hF rfl) fun a hF => ?_
      refine ls <| q1 hF rfl (e_ldA hF Tryd.isAgg39 Tryd.sizeOf39 rfl rfl ((St.ld hS).cellsB (.head _))) fun a hF => ?_
      refine ls <| a_bsl (e := 39) (sz := 4) [.int .i64 x10.Op, .int .i64 x10.N, strv s16, .int .i64 x10.At] hF rfl hS rfl rfl rfl (fun w => by kernel_rfl) fun b19 w a hS hF => ?_
      have hv18 : Rows (α := api_Node) HB1 [.int .i64 x10.Op, .int .i64 x10.N, strv s16, .int .i64 x10.At] ([(api_Node.mk x10.Op x10.N s16 x10.At)] : List api_Node) := (.cons (c := [.int .i64 x10.Op, .int .i64 x10.N, strv s16, .int .i64 x10.At]) ⟨_, _, rfl, rfl, ⟨_, _, rfl, rfl, ⟨_, _, rfl, rfl, rfl⟩⟩⟩ .nil)
      refine ls <| m_app (α := api_Node) (xs := vB6) (ys := ([(api_Node.mk x10.Op x10.N s16 x10.At)] : List api_Node)) hF rfl hS Tryd.underlying22 info39 rfl (by decide) rfl rfl rfl (.tail _ (.tail _ (.head _))) hvB10 (hS.rdO (.head _)) hv18 h22 fun oa23 cap24 vs25 w a hv26 hU hF => ?_
      replace hS := hU _ (.tail (.tail .head))
      clear hU
      replace hS := hS.drop .head
      refine ls <| q1 hF rfl (e_asg hF rfl) fun a hF => ?_
      refine re <| ?_
      refine bn <| tn <| ?_
      refine rg <| ?_
      refine ls <| q1 hF rfl (e_move hF rfl) fun a hF => ?_
      refine ls <| q1 hF rfl (e_add hF rfl rfl) fun a hF => ?_
      refine ls <| q1 hF rfl (e_asg hF rfl) fun a hF => ?_
      refine re <| ?_
      refine tn <| ?_
      replace hS := hS.pickL (.cons (.tail .head) .nil)
      exact ⟨(nn2, l21, (IntKind.i64.wrap (vB12 + 1))), ⟨HB1, oaB2, capB3, oa23, cap24, vs25, hm, hxHB1, hF.has ⟨rfl, rfl, rfl, trivial⟩, hS, hcB4, hrB5, hv26⟩, Nat.lt_succ_self _⟩
    ·
      replace hm := ite_f hm hb9
      refine tn <| cfv hF rfl hb9 <| ?_
      refine wp_exit <| tx <| tx <| bx <| ?_
      refine tn <| ?_
      exact ⟨vB6, HB1, oaB7, capB8, vsB9, hm, hxHB1, hF.has ⟨rfl, trivial⟩, hS, hvB10⟩
  clear hm hF hS
  rintro a w ⟨vA2, HA1, oaA3, capA4, vsA5, hm, hxHA1, hF, hS, hvA6⟩
  unfold leadlinelaw03_Cut_j1 at hm
  refine th <| ?_
  refine rg <| ?_
  refine ls <| q1 hF rfl (e_move hF rfl) fun a hF => ?_
  refine ls <| q1 hF rfl (e_asg hF rfl) fun a hF => ?_
  refine re <| ?_
  refine tn <| ?_
  refine wp_ret <| ?_
  obtain rfl := Option.some.inj hm
  exact r1 hF Tryd.results9 rfl ⟨_, _, _, rfl, (fun _ => Rows.ind hvA6), hS.endFresh (.head _)⟩

set_option maxRecDepth 100000 in
theorem leadlinelaw08_few_c {N : Nat} {w0 : World} {H : PH} (hH : H.le w0) {oa2 : Option Addr} {cap3 : Nat} {p1 : (List Str)} (hc4 : p1.length ≤ cap3) (hr5 : SR H oa2 p1) {r : (List Str)} (hm : leadlinelaw08_few N p1 = some r) : Tot Tryd.prog 10 #[.slice oa2 p1.length cap3] w0 (fun v w' => ∃ (oa0 : Option Addr) (cap0 : Nat) (vs0 : List Value), v = .slice oa0 r.length cap0 ∧ (∀ h, Rows h vs0 r) ∧ Fresh w0 (sla 9 1 oa0 r.length cap0 vs0) w') := by
  unfold leadlinelaw08_few at hm
  refine fn0 (args := [.slice oa2 p1.length cap3]) (F := [(0, .slice oa2 p1.length cap3)]) Tryd.func10 rfl Tryd.ntmps10 rfl rfl fun a hF => ?_
  have hS : St w0 Nil [H] [] w0 := start1 hH
  refine th <| ?_
  refine rg <| ?_
  refine ls <| q1 hF rfl (e_asg hF rfl) fun a hF => ?_
  refine re <| ?_
  refine tn <| th <| ?_
  refine rg <| ?_
  refine ls <| a_bsl (e := 9) (sz := 1) [] hF rfl hS rfl rfl rfl (fun w => by kernel_rfl) fun b7 w a hS hF => ?_
  have hv6 : Rows (α := Str) H [] [] := .nil
  refine ls <| q1 hF rfl (e_asg hF rfl) fun a hF => ?_
  refine re <| ?_
  refine tn <| th <| th <| ?_
  refine rg <| ?_
  refine ls <| q1 hF rfl (e_asg hF rfl) fun a hF => ?_
  refine re <| ?_
  refine tn <| midK (fun a w => ∃ (vA2 : (List Str)) (HA1 : PH) (oaA3 : Option Addr) (capA4 : Nat) (vsA5 : List Value), leadlinelaw08_few_j1 vA2 = some r ∧ Ext w0 H HA1 ∧ Fr 31 [(3, .slice oaA3 vA2.length capA4)] a ∧ St w0 Nil [HA1] [sla 9 1 oaA3 vA2.length capA4 vsA5] w ∧ Rows HA1 vsA5 vA2) ?_ ?_
  ·
    refine wp_block <| lp (α := Nat × (List Str) × Int) (fun (gh : Nat × (List Str) × Int) a w => match gh with | (nn2, vB6, vB12) => ∃ (HB1 : PH) (oaB2 : Option Addr) (capB3 : Nat) (oaB7 : Option Addr) (capB8 : Nat) (vsB9 : List Value), (leadlinelaw08_few_l2 N leadlinelaw08_few_j1 p1) nn2 vB6 vB12 = some r ∧ Ext w0 H HB1 ∧ Fr 31 [(0, .slice oaB2 p1.length capB3), (3, .slice oaB7 vB6.length capB8), (4, .int .i64 vB12)] a ∧ St w0 Nil [HB1] [sla 9 1 oaB7 vB6.length capB8 vsB9] w ∧ p1.length ≤ capB3 ∧ SR HB1 oaB2 p1 ∧ Rows HB1 vsB9 vB6) (fun gh => gh.1) (N, [], 0) ⟨H, oa2, cap3, (some ⟨b7, 0, none⟩), 0, [], hm, (Ext.refl _ _), hF.has ⟨rfl, rfl, rfl, trivial⟩, hS, hc4, hr5, hv6⟩ ?_
    clear hm hF hS
    rintro ⟨nn2, vB6, vB12⟩ a w ⟨HB1, oaB2, capB3, oaB7, capB8, vsB9, hm, hxHB1, hF, hS, hcB4, hrB5, hvB10⟩
    obtain _ | nn2 := nn2
    · simp [leadlinelaw08_few_l2] at hm
    rw [leadlinelaw08_few_l2] at hm
    refine th <| th <| ?_
    refine rg <| ?_
    refine ls <| q1 hF rfl (e_move hF rfl) fun a hF => ?_
    refine ls <| q1 hF rfl (e_move hF rfl) fun a hF => ?_
    refine ls <| q1 hF rfl (e_lenL (α := Str) (xs := p1) hF Tryd.runUnderlying23 rfl) fun a hF => ?_
    refine ls <| q1 hF rfl (e_lss hF rfl rfl) fun a hF => ?_
    refine ls <| q1 hF rfl (e_move hF rfl) fun a hF => ?_
    refine grp (N := 31) (Fk := [(0, .slice oaB2 p1.length capB3), (3, .slice oaB7 vB6.length capB8), (4, .int .i64 vB12), (13, .bool ((decide (vB12 < (p1.length : Int))) && (decide (vB12 < 6))))]) (b := (decide (vB12 < (p1.length : Int)))) 3 hS ?_ ?_ ?_
    ·
      intro hb key
      replace hF := Fr.as hF (t := 10) rfl (congrArg Value.bool hb)
      refine ls <| gy hF rfl rfl <| q1 hF rfl (e_move hF rfl) fun a hF => ?_
      refine ls <| gy hF rfl rfl <| q1 hF rfl (e_lss hF rfl rfl) fun a hF => ?_
      refine ls <| q1 hF rfl (e_as (v' := .bool ((decide (vB12 < (p1.length : Int))) && (decide (vB12 < 6)))) (e_pickT hF rfl rfl) (by rw [hb]; rfl)) fun a hF => ?_
      exact key _ _ (hF.has ⟨rfl, rfl, rfl, rfl, trivial⟩) hS
    ·
      intro hb key
      replace hF := Fr.as hF (t := 10) rfl (congrArg Value.bool hb)
      refine ls <| gn hF rfl rfl rfl rfl fun a hF => ?_
      refine ls <| gn hF rfl rfl rfl rfl fun a hF => ?_
      refine ls <| q1 hF rfl (e_as (v' := .bool ((decide (vB12 < (p1.length : Int))) && (decide (vB12 < 6)))) (e_pickF hF rfl rfl) (by rw [hb]; rfl)) fun a hF => ?_
      exact key _ _ (hF.has ⟨rfl, rfl, rfl, rfl, trivial⟩) hS
    intro a w hF hS
    refine re <| ?_
    rcases bdich ((decide (vB12 < (p1.length : Int))) && (decide (vB12 < 6))) with hb9 | hb9
    ·
      replace hm := ite_t hm hb9
      refine tn <| ctv hF rfl hb9 <| wp_skip <| ?_
      refine tn <| th <| wp_block <| ?_
      replace hm := bind_some hm
      obtain ⟨x10, h11, hm⟩ := hm
      obtain ⟨c12, g13, hl14⟩ := SR.get hrB5 h11
      obtain rfl : c12 = [strv x10] := g13
      replace hm := bind_some hm
      obtain ⟨s15, h16, hm⟩ := hm
      replace hm := bind_some hm
      obtain ⟨l20, h21, hm⟩ := hm
      refine rdL sub_nil 15 hS wide fun w hS => ?_
      refine d1 (i := 0) rfl (by kernel_rfl) (by kernel_rfl) (St.ldsX hS (fun _ _ h => h) (fun _ h => (.tail _ h))) hF rfl (fun _ _ _ h => h) (fun w hl => (e_move hF rfl)) fun a hF => ?_
      refine d1 (i := 1) rfl (by kernel_rfl) (by kernel_rfl) (St.ldsX hS (fun _ _ h => h) (fun _ h => (.tail _ h))) hF rfl (fun _ _ _ h => h) (fun w hl => (e_move hF rfl)) fun a hF => ?_
      refine d1 (i := 2) rfl (by kernel_rfl) (by kernel_rfl) (St.ldsX hS (fun _ _ h => h) (fun _ h => (.tail _ h))) hF rfl (fun _ _ _ h => h) (fun w hl => (e_move hF rfl)) fun a hF => ?_
      refine d1 (i := 3) rfl (by kernel_rfl) (by kernel_rfl) (St.ldsX hS (fun _ _ h => h) (fun _ h => (.tail _ h))) hF rfl (fun _ _ _ h => h) (fun w hl => (e_iaI hF Tryd.runUnderlying23 Tryd.sizeOf9 rfl rfl h11 (SR.oaI hrB5 (by decide) h11))) fun a hF => ?_
      refine d1 (i := 4) rfl (by kernel_rfl) (by kernel_rfl) (St.ldsX hS (fun _ _ h => h) (fun _ h => (.tail _ h))) hF rfl (fun _ _ _ h => h) (fun w hl => (e_ld hF Tryd.isAgg9 rfl (PH.le.cell (Lds.le hl) (hl14 0 _ rfl)))) fun a hF => ?_
      refine d1 (i := 5) rfl (by kernel_rfl) (by kernel_rfl) (St.ldsX hS (fun _ _ h => h) (fun _ h => (.tail _ h))) hF rfl (fun _ _ _ h => h) (fun w hl => (e_move hF rfl)) fun a hF => ?_
      refine d1 (i := 6) rfl (by kernel_rfl) (by kernel_rfl) (St.ldsX hS (fun _ _ h => h) (fun _ h => (.tail _ h))) hF rfl (fun _ _ _ h => h) (fun w hl => (e_move hF rfl)) fun a hF => ?_
      refine d1 (i := 7) rfl (by kernel_rfl) (by kernel_rfl) (St.ldsX hS (fun _ _ h => h) (fun _ h => (.tail _ h))) hF rfl (fun _ _ _ h => h) (fun w hl => (e_iaI hF Tryd.runUnderlying23 Tryd.sizeOf9 rfl rfl h11 (SR.oaI hrB5 (by decide) h11))) fun a hF => ?_
      refine d1 (i := 8) rfl (by kernel_rfl) (by kernel_rfl) (St.ldsX hS (fun _ _ h => h) (fun _ h => (.tail _ h))) hF rfl (fun _ _ _ h => h) (fun w hl => (e_ld hF Tryd.isAgg9 rfl (PH.le.cell (Lds.le hl) (hl14 0 _ rfl)))) fun a hF => ?_
      refine d1 (i := 9) rfl (by kernel_rfl) (by kernel_rfl) (St.ldsX hS (fun _ _ h => h) (fun _ h => (.tail _ h))) hF rfl (fun _ _ _ h => h) (fun w hl => (e_lenU (s := x10) hF Tryd.runUnderlying9 rfl)) fun a hF => ?_
      refine d1 (i := 10) rfl (by kernel_rfl) (by kernel_rfl) (St.ldsX hS (fun _ _ h => h) (fun _ h => (.tail _ h))) hF rfl (fun _ _ _ h => h) (fun w hl => (e_min hF rfl rfl)) fun a hF => ?_
      refine d1 (i := 11) rfl (by kernel_rfl) (by kernel_rfl) (St.ldsX hS (fun _ _ h => h) (fun _ h => (.tail _ h))) hF rfl (fun _ _ _ h => h) (fun w hl => (e_subU (s := x10) (vl := 0) (vh := (min (x10.length : Int) 40)) hF Tryd.runUnderlying9 rfl rfl rfl h16)) fun a hF => ?_
      refine da1 (i := 12) (by kernel_rfl) ?_
      refine di (i := 12) rfl <| a_bsl (e := 9) (sz := 1) [strv s15] hF rfl hS rfl rfl rfl (fun w => by kernel_rfl) fun b18 w a hS hF => ?_
      have hv17 : Rows (α := Str) HB1 [strv s15] ([s15] : List Str) := (.cons (c := [strv s15]) rfl .nil)
      refine ⟨fun _ => (St.ldsX hS (fun _ _ h => h) (fun _ h => (.tail _ (.tail _ h)))), ?_⟩
      refine da1 (i := 13) (by kernel_rfl) ?_
      refine di (i := 13) rfl <| m_app (α := Str) (xs := vB6) (ys := ([s15] : List Str)) hF rfl hS Tryd.underlying23 info9 rfl (by decide) rfl rfl rfl (.tail _ (.head _)) hvB10 (hS.rdO (.head _)) hv17 h21 fun oa22 cap23 vs24 w a hv25 hU hF => ?_
      replace hS := hU _ (.tail .head)
      clear hU
      replace hS := hS.drop .head
      refine ⟨fun _ => (St.ldsX hS (fun _ _ h => h) (fun _ h => (.tail _ h))), ?_⟩
      refine d1 (i := 14) rfl (by kernel_rfl) (by kernel_rfl) (St.ldsX hS (fun _ _ h => h) (fun _ h => (.tail _ h))) hF rfl (fun _ _ _ h => h) (fun w hl => (e_asg hF rfl)) fun a hF => ?_
      refine de (by kernel_rfl) <| ?_
      refine bn <| tn <| ?_
      refine rg <| ?_
      refine ls <| q1 hF rfl (e_move hF rfl) fun a hF => ?_
      refine ls <| q1 hF rfl (e_add hF rfl rfl) fun a hF => ?_
      refine ls <| q1 hF rfl (e_asg hF rfl) fun a hF => ?_
      refine re <| ?_
      refine tn <| ?_
      exact ⟨(nn2, l20, (IntKind.i64.wrap (vB12 + 1))), ⟨HB1, oaB2, capB3, oa22, cap23, vs24, hm, hxHB1, hF.has ⟨rfl, rfl, rfl, trivial⟩, hS, hcB4, hrB5, hv25⟩, Nat.lt_succ_self _⟩
    ·
      replace hm := ite_f hm hb9
      refine tn <| cfv hF rfl hb9 <| ?_
      refine wp_exit <| tx <| tx <| bx <| ?_
      refine tn <| ?_
      exact ⟨vB6, HB1, oaB7, capB8, vsB9, hm, hxHB1, hF.has ⟨rfl, trivial⟩, hS, hvB10⟩
  clear hm hF hS
  rintro a w ⟨vA2, HA1, oaA3, capA4, vsA5, hm, hxHA1, hF, hS, hvA6⟩
  unfold leadlinelaw08_few_j1 at hm
  refine th <| ?_
  refine rg <| ?_
  refine ls <| q1 hF rfl (e_move hF rfl) fun a hF => ?_
  refine ls <| q1 hF rfl (e_asg hF rfl) fun a hF => ?_
  refine re <| ?_
  refine tn <| ?_
  refine wp_ret <| ?_
  obtain rfl := Option.some.inj hm
  exact r1 hF Tryd.results10 rfl ⟨_, _, _, rfl, (fun _ => Rows.ind hvA6), hS.endFresh (.head _)⟩

set_option maxRecDepth 100000 in
theorem scan_letter_c {N : Nat} {w0 : World} {H : PH} (hH : H.le w0) {p1 : Int} {r : Bool} (hm : scan_letter N p1 = some r) : Tot Tryd.prog 84 #[.int .u8 p1] w0 (fun v w' => v = .bool r ∧ Keep Nil w0 w') := by
  unfold scan_letter at hm
  refine fn0 (args := [.int .u8 p1]) (F := [(0, .int .u8 p1)]) Tryd.func84 rfl Tryd.ntmps84 rfl rfl fun a hF => ?_
  have hS : St w0 Nil [H] [] w0 := start1 hH
  refine th <| ?_
  refine rg <| ?_
  refine ls <| q1 hF rfl (e_asg hF rfl) fun a hF => ?_
  refine re <| ?_
  refine tn <| th <| ?_
  refine rg <| ?_
  refine ls <| q1 hF rfl (e_move hF rfl) fun a hF => ?_
  refine ls <| q1 hF rfl (e_geq hF rfl rfl) fun a hF => ?_
  refine ls <| q1 hF rfl (e_move hF rfl) fun a hF => ?_
  refine grp (N := 13) (Fk := [(0, .int .u8 p1), (8, .bool ((decide (97 ≤ p1)) && (decide (p1 ≤ 122))))]) (b := (decide (97 ≤ p1))) 3 hS ?_ ?_ ?_
  ·
    intro hb key
    replace hF := Fr.as hF (t := 5) rfl (congrArg Value.bool hb)
    refine ls <| gy hF rfl rfl <| q1 hF rfl (e_move hF rfl) fun a hF => ?_
    refine ls <| gy hF rfl rfl <| q1 hF rfl (e_leq hF rfl rfl) fun a hF => ?_
    refine ls <| q1 hF rfl (e_as (v' := .bool ((decide (97 ≤ p1)) && (decide (p1 ≤ 122)))) (e_pickT hF rfl rfl) (by rw [hb]; rfl)) fun a hF => ?_
    exact key _ _ (hF.has ⟨rfl, rfl, trivial⟩) hS
  ·
    intro hb key
    replace hF := Fr.as hF (t := 5) rfl (congrArg Value.bool hb)
    refine ls <| gn hF rfl rfl rfl rfl fun a hF => ?_
    refine ls <| gn hF rfl rfl rfl rfl fun a hF => ?_
    refine ls <| q1 hF rfl (e_as (v' := .bool ((decide (97 ≤ p1)) && (decide (p1 ≤ 122)))) (e_pickF hF rfl rfl) (by rw [hb]; rfl)) fun a hF => ?_
    exact key _ _ (hF.has ⟨rfl, rfl, trivial⟩) hS
  intro a w hF hS
  refine ls <| q1 hF rfl (e_move hF rfl) fun a hF => ?_
  refine grp (N := 13) (Fk := [(12, .bool (((decide (97 ≤ p1)) && (decide (p1 ≤ 122))) || (decide (p1 = 95))))]) (b := ((decide (97 ≤ p1)) && (decide (p1 ≤ 122)))) 3 hS ?_ ?_ ?_
  ·
    intro hb key
    replace hF := Fr.as hF (t := 9) rfl (congrArg Value.bool hb)
    refine ls <| gn hF rfl rfl rfl rfl fun a hF => ?_
    refine ls <| gn hF rfl rfl rfl rfl fun a hF => ?_
    refine ls <| q1 hF rfl (e_as (v' := .bool (((decide (97 ≤ p1)) && (decide (p1 ≤ 122))) || (decide (p1 = 95)))) (e_pickT hF rfl rfl) (by rw [hb]; rfl)) fun a hF => ?_
    exact key _ _ (hF.has ⟨rfl, trivial⟩) hS
  ·
    intro hb key
    replace hF := Fr.as hF (t := 9) rfl (congrArg Value.bool hb)
    refine ls <| gy hF rfl rfl <| q1 hF rfl (e_move hF rfl) fun a hF => ?_
    refine ls <| gy hF rfl rfl <| q1 hF rfl (e_eql hF rfl rfl) fun a hF => ?_
    refine ls <| q1 hF rfl (e_as (v' := .bool (((decide (97 ≤ p1)) && (decide (p1 ≤ 122))) || (decide (p1 = 95)))) (e_pickF hF rfl rfl) (by rw [hb]; rfl)) fun a hF => ?_
    exact key _ _ (hF.has ⟨rfl, trivial⟩) hS
  intro a w hF hS
  refine ls <| q1 hF rfl (e_asg hF rfl) fun a hF => ?_
  refine re <| ?_
  refine tn <| ?_
  refine wp_ret <| ?_
  obtain rfl := Option.some.inj hm
  exact r1 hF Tryd.results84 rfl ⟨rfl, hS.keep⟩

set_option maxRecDepth 100000 in
theorem scan_kept_c {N : Nat} {w0 : World} {H : PH} (hH : H.le w0) (hT : Tab H)  {r : (List (Str × Bool))} (hm : scan_kept N  = some r) : Tot Tryd.prog 89 #[] w0 (fun v w' => ∃ (m0 : Nat) (l0 : List (Str × Value × Nat)) (c0 : Nat), v = .map (some m0) ∧ MRel Value.bool l0 r ∧ Fresh w0 (imap kS m0 l0 c0) w') := by
  unfold scan_kept at hm
  refine fn0 (args := []) (F := []) Tryd.func89 rfl Tryd.ntmps89 rfl rfl fun a hF => ?_
  have hS : St w0 Nil [H] [] w0 := start1 hH
  refine th <| ?_
  refine rg <| ?_
  refine ls <| q1 hF rfl (e_asg hF rfl) fun a hF => ?_
  refine re <| ?_
  refine tn <| th <| ?_
  refine rg <| ?_
  refine ls <| a_map hF rfl hS fun m1 w a hS hF => ?_
  replace hS : St w0 Nil [H] (imap kS m1 [] 0 :: _) w := hS
  have hm2 : MRel (κ := Str) (β := Bool) Value.bool [] [] := MRel.nil _
  refine ls <| q1 hF rfl (e_asg hF rfl) fun a hF => ?_
  refine re <| ?_
  refine tn <| th <| th <| ?_
  replace hm := bind_some hm
  obtain ⟨r3, h4, hm⟩ := hm
  refine rg <| ?_
  refine ls <| c1 hF rfl Tryd.call90 (splitM_c (hp_le _) (Tab.mono hT (St.up hS)) h4) ⟨rfl, rfl, trivial⟩ (fun v w a hR hF => ?_)
  obtain ⟨oa5, cap6, vs7, rfl, hv8, hk⟩ := hR
  replace hS := hS.fresh hk
  clear hk
  replace hv8 := hv8 H
  refine ls <| q1 hF rfl (e_lenL (α := Str) (xs := r3) hF Tryd.runUnderlying23 rfl) fun a hF => ?_
  refine ls <| q1 hF rfl (e_move hF rfl) fun a hF => ?_
  refine re <| ?_
  refine tn <| midK (fun a w => ∃ (vA2 : (List (Str × Bool))) (HA1 : PH) (lA3 : List (Str × Value × Nat)) (cA4 : Nat), scan_kept_j1 vA2 = some r ∧ Ext w0 H HA1 ∧ Fr 15 [(1, .map (some m1))] a ∧ St w0 Nil [HA1] [imap kS m1 lA3 cA4] w ∧ MRel Value.bool lA3 vA2) ?_ ?_
  ·
    replace hS := hS.pickL (.cons (.tail .head) (.cons .head .nil))
    refine wp_block <| lp (α := Nat × (List (Str × Bool)) × Int) (fun (gh : Nat × (List (Str × Bool)) × Int) a w => match gh with | (nn2, vB2, vB6) => ∃ (HB1 : PH) (lB3 : List (Str × Value × Nat)) (cB4 : Nat), (scan_kept_l2 N scan_kept_j1 r3) nn2 vB2 vB6 = some r ∧ Ext w0 H HB1 ∧ Fr 15 [(1, .map (some m1)), (5, .slice oa5 r3.length cap6), (6, .int .i64 (r3.length : Int)), (7, .int .i64 vB6)] a ∧ St w0 Nil [HB1] [imap kS m1 lB3 cB4, sla 9 1 oa5 r3.length cap6 vs7] w ∧ MRel Value.bool lB3 vB2) (fun gh => gh.1) (N, [], 0) ⟨H, [], 0, hm, (Ext.refl _ _), hF.has ⟨rfl, rfl, rfl, rfl, trivial⟩, hS, hm2⟩ ?_
    clear hm hF hS
    rintro ⟨nn2, vB2, vB6⟩ a w ⟨HB1, lB3, cB4, hm, hxHB1, hF, hS, hmB5⟩
    obtain _ | nn2 := nn2
    · simp [scan_kept_l2] at hm
    rw [scan_kept_l2] at hm
    refine th <| ?_
    refine rg <| ?_
    refine ls <| q1 hF rfl (e_lss hF rfl rfl) fun a hF => ?_
    refine re <| ?_
    rcases bdich (decide (vB6 < (r3.length : Int))) with hb10 | hb10
    ·
      replace hm := itp_t hm hb10
      refine tn <| th <| ctv hF rfl hb10 <| wp_skip <| ?_
      refine tn <| th <| wp_block <| th <| ?_
      replace hm := bind_some hm
      obtain ⟨x11, h12, hm⟩ := hm
      have ho13 := Rd.oaI (hS.rdO (.tail _ (.head _))) hv8 (by decide) h12
      obtain ⟨c14, g15, hl16⟩ := Rows.getI hv8 h12
      obtain rfl : c14 = [strv x11] := g15
      refine rg <| ?_
      refine ls <| q1 hF rfl (e_iaI hF Tryd.runUnderlying23 Tryd.sizeOf9 rfl rfl h12 ho13) fun a hF => ?_
      refine ls <| q1 hF rfl (e_ld hF Tryd.isAgg9 rfl ((St.ld hS).elO (.tail _ (.head _)) (hl16 0 _ rfl))) fun a hF => ?_
      refine ls <| q1 hF rfl (e_asg hF rfl) fun a hF => ?_
      refine re <| ?_
      refine tn <| ?_
      refine rg <| ?_
      refine ls <| q1 hF rfl (e_move hF rfl) fun a hF => ?_
      refine ls <| q1 hF rfl (e_move hF rfl) fun a hF => ?_
      refine ls <| m_put (ev := Value.bool) (m := vB2) (k := x11) (v := true) hF hS key9 Tryd.runUnderlying89 rfl rfl rfl (.head _) hmB5 fun l17 c18 w hm19 hU => ?_
      replace hS := hU _ .head
      clear hU
      refine re <| ?_
      refine bn <| tn <| ?_
      refine rg <| ?_
      refine ls <| q1 hF rfl (e_add hF rfl rfl) fun a hF => ?_
      refine ls <| q1 hF rfl (e_move hF rfl) fun a hF => ?_
      refine re <| ?_
      refine tn <| ?_
      exact ⟨(nn2, (pput x11 true vB2), (IntKind.i64.wrap (vB6 + 1))), ⟨HB1, l17, c18, hm, hxHB1, hF.has ⟨rfl, rfl, rfl, rfl, trivial⟩, hS, hm19⟩, Nat.lt_succ_self _⟩
    ·
      replace hm := itp_f hm hb10
      refine tn <| th <| cfv hF rfl hb10 <| ?_
      refine wp_exit <| tx <| tx <| bx <| ?_
      refine tn <| ?_
      replace hS := hS.pickL (.cons .head .nil)
      exact ⟨vB2, HB1, lB3, cB4, hm, hxHB1, hF.has ⟨rfl, trivial⟩, hS, hmB5⟩
  clear hm hF hS
  rintro a w ⟨vA2, HA1, lA3, cA4, hm, hxHA1, hF, hS, hmA5⟩
  unfold scan_kept_j1 at hm
  refine th <| ?_
  refine rg <| ?_
  refine ls <| q1 hF rfl (e_move hF rfl) fun a hF => ?_
  refine ls <| q1 hF rfl (e_asg hF rfl) fun a hF => ?_
  refine re <| ?_
  refine tn <| ?_
  refine wp_ret <| ?_
  obtain rfl := Option.some.inj hm
  exact r1 hF Tryd.results89 rfl ⟨m1, lA3, cA4, rfl, hmA5, hS.endFresh (.head _)⟩

set_option maxRecDepth 100000 in
theorem scan_Kept_c {N : Nat} {w0 : World} {H : PH} (hH : H.le w0) (hT : Tab H) {p1 : Str} {r : Bool} (hm : scan_Kept N p1 = some r) : Tot Tryd.prog 85 #[strv p1] w0 (fun v w' => v = .bool r ∧ Keep Nil w0 w') := by
  unfold scan_Kept at hm
  refine fn0 (args := [strv p1]) (F := [(0, strv p1)]) Tryd.func85 rfl Tryd.ntmps85 rfl rfl fun a hF => ?_
  have hS : St w0 Nil [H] [] w0 := start1 hH
  refine th <| ?_
  refine rg <| ?_
  refine ls <| q1 hF rfl (e_asg hF rfl) fun a hF => ?_
  refine re <| ?_
  refine tn <| th <| ?_
  replace hm := bind_some hm
  obtain ⟨r2, h3, hm⟩ := hm
  refine rg <| ?_
  refine ls <| c1 hF rfl Tryd.call89 (scan_kept_c (hp_le _) (Tab.mono hT (St.up hS)) h3) trivial (fun v w a hR hF => ?_)
  obtain ⟨m4, l5, c6, rfl, hm7, hk⟩ := hR
  replace hS := hS.fresh hk
  clear hk
  refine ls <| q1 hF rfl (e_move hF rfl) fun a hF => ?_
  refine ls <| q1 hF rfl (e_lookM (ev := Value.bool) (dv := false) (m := r2) (k := p1) hF key9 Tryd.runUnderlying89 Tryd.zeroValue4 (Lds.mapO (St.ld hS) (.head _)) rfl rfl hm7) fun a hF => ?_
  refine ls <| q1 hF rfl (e_asg hF rfl) fun a hF => ?_
  refine re <| ?_
  refine tn <| ?_
  refine wp_ret <| ?_
  obtain rfl := Option.some.inj hm
  exact r1 hF Tryd.results85 rfl ⟨rfl, hS.keep⟩

set_option maxRecDepth 100000 in
theorem scan_digit_c {N : Nat} {w0 : World} {H : PH} (hH : H.le w0) {p1 : Int} {r : Bool} (hm : scan_digit N p1 = some r) : Tot Tryd.prog 88 #[.int .u8 p1] w0 (fun v w' => v = .bool r ∧ Keep Nil w0 w') := by
  unfold scan_digit at hm
  refine fn0 (args := [.int .u8 p1]) (F := [(0, .int .u8 p1)]) Tryd.func88 rfl Tryd.ntmps88 rfl rfl fun a hF => ?_
  have hS : St w0 Nil [H] [] w0 := start1 hH
  refine th <| ?_
  refine rg <| ?_
  refine ls <| q1 hF rfl (e_asg hF rfl) fun a hF => ?_
  refine re <| ?_
  refine tn <| th <| ?_
  refine rg <| ?_
  refine ls <| q1 hF rfl (e_move hF rfl) fun a hF => ?_
  refine ls <| q1 hF rfl (e_geq hF rfl rfl) fun a hF => ?_
  refine ls <| q1 hF rfl (e_move hF rfl) fun a hF => ?_
  refine grp (N := 9) (Fk := [(8, .bool ((decide (48 ≤ p1)) && (decide (p1 ≤ 57))))]) (b := (decide (48 ≤ p1))) 3 hS ?_ ?_ ?_
  ·
    intro hb key
    replace hF := Fr.as hF (t := 5) rfl (congrArg Value.bool hb)
    refine ls <| gy hF rfl rfl <| q1 hF rfl (e_move hF rfl) fun a hF => ?_
    refine ls <| gy hF rfl rfl <| q1 hF rfl (e_leq hF rfl rfl) fun a hF => ?_
    refine ls <| q1 hF rfl (e_as (v' := .bool ((decide (48 ≤ p1)) && (decide (p1 ≤ 57)))) (e_pickT hF rfl rfl) (by rw [hb]; rfl)) fun a hF => ?_
    exact key _ _ (hF.has ⟨rfl, trivial⟩) hS
  ·
    intro hb key
    replace hF := Fr.as hF (t := 5) rfl (congrArg Value.bool hb)
    refine ls <| gn hF rfl rfl rfl rfl fun a hF => ?_
    refine ls <| gn hF rfl rfl rfl rfl fun a hF => ?_
    refine ls <| q1 hF rfl (e_as (v' := .bool ((decide (48 ≤ p1)) && (decide (p1 ≤ 57)))) (e_pickF hF rfl rfl) (by rw [hb]; rfl)) fun a hF => ?_
    exact key _ _ (hF.has ⟨rfl, trivial⟩) hS
  intro a w hF hS
  refine ls <| q1 hF rfl (e_asg hF rfl) fun a hF => ?_
  refine re <| ?_
  refine tn <| ?_
  refine wp_ret <| ?_
  obtain rfl := Option.some.inj hm
  exact r1 hF Tryd.results88 rfl ⟨rfl, hS.keep⟩

set_option maxRecDepth 100000 in
theorem scan_Name_1_c {N : Nat} {w0 : World} {H : PH} (hH : H.le w0) {p1 : Int} {r : Bool} (hm : scan_Name_1 N p1 = some r) : Tot Tryd.prog 87 #[.int .u8 p1] w0 (fun v w' => v = .bool r ∧ Keep Nil w0 w') := by
  unfold scan_Name_1 at hm
  refine fn0 (args := [.int .u8 p1]) (F := [(0, .int .u8 p1)]) Tryd.func87 rfl Tryd.ntmps87 rfl rfl fun a hF => ?_
  have hS : St w0 Nil [H] [] w0 := start1 hH
  refine th <| ?_
  refine rg <| ?_
  refine ls <| q1 hF rfl (e_asg hF rfl) fun a hF => ?_
  refine re <| ?_
  refine tn <| th <| ?_
  replace hm := bind_some hm
  obtain ⟨r2, h3, hm⟩ := hm
  rcases bdich r2 with hb4 | hb4
  ·
    replace hm := ite_t hm hb4
    refine rg <| ?_
    refine ls <| q1 hF rfl (e_move hF rfl) fun a hF => ?_
    refine ls <| c1 hF rfl Tryd.call84 (scan_letter_c (hp_le _) h3) ⟨rfl, trivial⟩ (fun v w a hR hF => ?_)
    obtain ⟨rfl, hk⟩ := hR
    replace hS := hS.pass hk
    clear hk
    refine ls <| q1 hF rfl (e_as (e_move hF rfl) (congrArg Value.bool hb4)) fun a hF => ?_
    refine ls <| gn hF rfl rfl rfl rfl fun a hF => ?_
    refine ls <| gn hF rfl rfl rfl rfl fun a hF => ?_
    refine ls <| q1 hF rfl (e_pickT hF rfl rfl) fun a hF => ?_
    refine ls <| q1 hF rfl (e_asg hF rfl) fun a hF => ?_
    refine re <| ?_
    refine tn <| ?_
    refine wp_ret <| ?_
    obtain rfl := Option.some.inj hm
    exact r1 hF Tryd.results87 rfl ⟨rfl, hS.keep⟩
  ·
    replace hm := ite_f hm hb4
    replace hm := bind_some hm
    obtain ⟨r5, h6, hm⟩ := hm
    refine rg <| ?_
    refine ls <| q1 hF rfl (e_move hF rfl) fun a hF => ?_
    refine ls <| c1 hF rfl Tryd.call84 (scan_letter_c (hp_le _) h3) ⟨rfl, trivial⟩ (fun v w a hR hF => ?_)
    obtain ⟨rfl, hk⟩ := hR
    replace hS := hS.pass hk
    clear hk
    refine ls <| q1 hF rfl (e_as (e_move hF rfl) (congrArg Value.bool hb4)) fun a hF => ?_
    refine ls <| gy hF rfl rfl <| q1 hF rfl (e_move hF rfl) fun a hF => ?_
    refine ls <| gy hF rfl rfl <| c1 hF rfl Tryd.call88 (scan_digit_c (hp_le _) h6) ⟨rfl, trivial⟩ (fun v w a hR hF => ?_)
    obtain ⟨rfl, hk⟩ := hR
    replace hS := hS.pass hk
    clear hk
    refine ls <| q1 hF rfl (e_pickF hF rfl rfl) fun a hF => ?_
    refine ls <| q1 hF rfl (e_asg hF rfl) fun a hF => ?_
    refine re <| ?_
    refine tn <| ?_
    refine wp_ret <| ?_
    obtain rfl := Option.some.inj hm
    exact r1 hF Tryd.results87 rfl ⟨rfl, hS.keep⟩

set_option maxRecDepth 100000 in
theorem scan_run__Name_1_c {N : Nat} {w0 : World} {H : PH} (hH : H.le w0) {p1 : Str} {r : Int} (hm : scan_run__Name_1 N p1 = some r) : Tot Tryd.prog 86 #[strv p1, .func (.func 87) #[] #[]] w0 (fun v w' => v = .int .i64 r ∧ Keep Nil w0 w') := by
  unfold scan_run__Name_1 at hm
  refine fn0 (args := [strv p1, .func (.func 87) #[] #[]]) (F := [(0, strv p1), (1, .func (.func 87) #[] #[])]) Tryd.func86 rfl Tryd.ntmps86 rfl rfl fun a hF => ?_
  have hS : St w0 Nil [H] [] w0 := start1 hH
  refine th <| ?_
  refine rg <| ?_
  refine ls <| q1 hF rfl (e_asg hF rfl) fun a hF => ?_
  refine re <| ?_
  refine tn <| th <| ?_
  refine rg <| ?_
  refine ls <| q1 hF rfl (e_asg hF rfl) fun a hF => ?_
  refine re <| ?_
  refine tn <| th <| midK (fun a w => ∃ (vA2 : Int) (HA1 : PH), scan_run__Name_1_j1 vA2 = some r ∧ Ext w0 H HA1 ∧ Fr 20 [(5, .int .i64 vA2)] a ∧ St w0 Nil [HA1] [] w) ?_ ?_
  ·
    refine wp_block <| lp (α := Nat × Int) (fun (gh : Nat × Int) a w => match gh with | (nn2, vB2) => ∃ (HB1 : PH), (scan_run__Name_1_l2 N scan_run__Name_1_j1 p1) nn2 vB2 = some r ∧ Ext w0 H HB1 ∧ Fr 20 [(0, strv p1), (1, .func (.func 87) #[] #[]), (5, .int .i64 vB2)] a ∧ St w0 Nil [HB1] [] w) (fun gh => gh.1) (N, 0) ⟨H, hm, (Ext.refl _ _), hF.has ⟨rfl, rfl, rfl, trivial⟩, hS⟩ ?_
    clear hm hF hS
    rintro ⟨nn2, vB2⟩ a w ⟨HB1, hm, hxHB1, hF, hS⟩
    obtain _ | nn2 := nn2
    · simp [scan_run__Name_1_l2] at hm
    rw [scan_run__Name_1_l2] at hm
    refine th <| th <| midK (fun a w => ∃ (vC1 : Bool), (scan_run__Name_1_j3 scan_run__Name_1_j1 (scan_run__Name_1_l2 N scan_run__Name_1_j1 p1 nn2) vB2) vC1 = some r ∧ Fr 20 [(0, strv p1), (1, .func (.func 87) #[] #[]), (5, .int .i64 vB2), (16, .bool vC1)] a ∧ St w0 Nil [HB1] [] w) ?_ ?_
    ·
      rcases bdich (decide (vB2 < (p1.length : Int))) with hb2 | hb2
      ·
        replace hm := itp_t hm hb2
        replace hm := bind_some hm
        obtain ⟨x3, h4, hm⟩ := hm
        replace hm := bind_some hm
        obtain ⟨r5, h6, hm⟩ := hm
        refine rg <| ?_
        refine ls <| q1 hF rfl (e_move hF rfl) fun a hF => ?_
        refine ls <| q1 hF rfl (e_move hF rfl) fun a hF => ?_
        refine ls <| q1 hF rfl (e_lenU (s := p1) hF Tryd.runUnderlying9 rfl) fun a hF => ?_
        refine ls <| q1 hF rfl (e_lss hF rfl rfl) fun a hF => ?_
        refine ls <| q1 hF rfl (e_as (e_move hF rfl) (congrArg Value.bool hb2)) fun a hF => ?_
        refine ls <| gy hF rfl rfl <| q1 hF rfl (e_move hF rfl) fun a hF => ?_
        refine ls <| gy hF rfl rfl <| q1 hF rfl (e_move hF rfl) fun a hF => ?_
        refine ls <| gy hF rfl rfl <| q1 hF rfl (e_move hF rfl) fun a hF => ?_
        refine ls <| gy hF rfl rfl <| q1 hF rfl (e_byte (s := p1) hF Tryd.runUnderlying9 rfl rfl h4) fun a hF => ?_
        refine ls <| gy hF rfl rfl <| k1 (vs := [.int .u8 x3]) (caps := []) hF rfl rfl Tryd.call87 (scan_Name_1_c (hp_le _) h6) ⟨rfl, trivial⟩ rfl (fun v w a hR hF => ?_)
        obtain ⟨rfl, hk⟩ := hR
        replace hS := hS.pass hk
        clear hk
        refine ls <| q1 hF rfl (e_pickT hF rfl rfl) fun a hF => ?_
        refine re <| ?_
        refine tn <| ?_
        exact ⟨r5, hm, hF.has ⟨rfl, rfl, rfl, rfl, trivial⟩, hS⟩
      ·
        replace hm := itp_f hm hb2
        refine rg <| ?_
        refine ls <| q1 hF rfl (e_move hF rfl) fun a hF => ?_
        refine ls <| q1 hF rfl (e_move hF rfl) fun a hF => ?_
        refine ls <| q1 hF rfl (e_lenU (s := p1) hF Tryd.runUnderlying9 rfl) fun a hF => ?_
        refine ls <| q1 hF rfl (e_lss hF rfl rfl) fun a hF => ?_
        refine ls <| q1 hF rfl (e_as (e_move hF rfl) (congrArg Value.bool hb2)) fun a hF => ?_
        refine ls <| gn hF rfl rfl rfl rfl fun a hF => ?_
        refine ls <| gn hF rfl rfl rfl rfl fun a hF => ?_
        refine ls <| gn hF rfl rfl rfl rfl fun a hF => ?_
        refine ls <| gn hF rfl rfl rfl rfl fun a hF => ?_
        refine ls <| gn hF rfl rfl rfl rfl fun a hF => ?_
        refine ls <| q1 hF rfl (e_pickF hF rfl rfl) fun a hF => ?_
        refine re <| ?_
        refine tn <| ?_
        exact ⟨false, hm, hF.has ⟨rfl, rfl, rfl, rfl, trivial⟩, hS⟩
    clear hm hF hS
    rintro a w ⟨vC1, hm, hF, hS⟩
    unfold scan_run__Name_1_j3 at hm
    rcases bdich vC1 with hb7 | hb7
    ·
      replace hm := ite_t hm hb7
      refine ctv hF rfl hb7 <| wp_skip <| ?_
      refine tn <| wp_block <| ?_
      refine rg <| ?_
      refine ls <| q1 hF rfl (e_move hF rfl) fun a hF => ?_
      refine ls <| q1 hF rfl (e_add hF rfl rfl) fun a hF => ?_
      refine ls <| q1 hF rfl (e_asg hF rfl) fun a hF => ?_
      refine re <| ?_
      refine bn <| tn <| ?_
      exact ⟨(nn2, (IntKind.i64.wrap (vB2 + 1))), ⟨HB1, hm, hxHB1, hF.has ⟨rfl, rfl, rfl, trivial⟩, hS⟩, Nat.lt_succ_self _⟩
    ·
      replace hm := ite_f hm hb7
      refine cfv hF rfl hb7 <| ?_
      refine wp_exit <| tx <| tx <| bx <| ?_
      refine tn <| ?_
      exact ⟨vB2, HB1, hm, hxHB1, hF.has ⟨rfl, trivial⟩, hS⟩
  clear hm hF hS
  rintro a w ⟨vA2, HA1, hm, hxHA1, hF, hS⟩
  unfold scan_run__Name_1_j1 at hm
  refine th <| ?_
  refine rg <| ?_
  refine ls <| q1 hF rfl (e_move hF rfl) fun a hF => ?_
  refine ls <| q1 hF rfl (e_asg hF rfl) fun a hF => ?_
  refine re <| ?_
  refine tn <| ?_
  refine wp_ret <| ?_
  obtain rfl := Option.some.inj hm
  exact r1 hF Tryd.results86 rfl ⟨rfl, hS.keep⟩

set_option maxRecDepth 100000 in
theorem scan_Name_c {N : Nat} {w0 : World} {H : PH} (hH : H.le w0) (hT : Tab H) {p1 : Str} {r : Bool} (hm : scan_Name N p1 = some r) : Tot Tryd.prog 64 #[strv p1] w0 (fun v w' => v = .bool r ∧ Keep Nil w0 w') := by
  unfold scan_Name at hm
  refine fn0 (args := [strv p1]) (F := [(0, strv p1)]) Tryd.func64 rfl Tryd.ntmps64 rfl rfl fun a hF => ?_
  have hS : St w0 Nil [H] [] w0 := start1 hH
  refine th <| ?_
  refine rg <| ?_
  refine ls <| q1 hF rfl (e_asg hF rfl) fun a hF => ?_
  refine re <| ?_
  refine tn <| th <| th <| midK (fun a w => ∃ (vA2 : Bool) (HA1 : PH), (scan_Name_j1 N p1) vA2 = some r ∧ Ext w0 H HA1 ∧ Fr 25 [(0, strv p1), (19, .bool vA2)] a ∧ St w0 Nil [HA1] [] w) ?_ ?_
  ·
    rcases bdich ((decide (p1 = [])) || (decide (16 < (p1.length : Int)))) with hb2 | hb2
    ·
      replace hm := ite_t hm hb2
      refine rg <| ?_
      refine ls <| q1 hF rfl (e_move hF rfl) fun a hF => ?_
      refine ls <| q1 hF rfl (e_eqlU (m := p1) (n := []) hF rfl rfl) fun a hF => ?_
      refine ls <| q1 hF rfl (e_move hF rfl) fun a hF => ?_
      refine grp (N := 25) (Fk := [(0, strv p1), (9, .bool ((decide (p1 = [])) || (decide (16 < (p1.length : Int)))))]) (b := (decide (p1 = []))) 4 hS ?_ ?_ ?_
      ·
        intro hb key
        replace hF := Fr.as hF (t := 5) rfl (congrArg Value.bool hb)
        refine ls <| gn hF rfl rfl rfl rfl fun a hF => ?_
        refine ls <| gn hF rfl rfl rfl rfl fun a hF => ?_
        refine ls <| gn hF rfl rfl rfl rfl fun a hF => ?_
        refine ls <| q1 hF rfl (e_as (v' := .bool ((decide (p1 = [])) || (decide (16 < (p1.length : Int))))) (e_pickT hF rfl rfl) (by rw [hb]; rfl)) fun a hF => ?_
        exact key _ _ (hF.has ⟨rfl, rfl, trivial⟩) hS
      ·
        intro hb key
        replace hF := Fr.as hF (t := 5) rfl (congrArg Value.bool hb)
        refine ls <| gy hF rfl rfl <| q1 hF rfl (e_move hF rfl) fun a hF => ?_
        refine ls <| gy hF rfl rfl <| q1 hF rfl (e_lenU (s := p1) hF Tryd.runUnderlying9 rfl) fun a hF => ?_
        refine ls <| gy hF rfl rfl <| q1 hF rfl (e_gtr hF rfl rfl) fun a hF => ?_
        refine ls <| q1 hF rfl (e_as (v' := .bool ((decide (p1 = [])) || (decide (16 < (p1.length : Int))))) (e_pickF hF rfl rfl) (by rw [hb]; rfl)) fun a hF => ?_
        exact key _ _ (hF.has ⟨rfl, rfl, trivial⟩) hS
      intro a w hF hS
      refine ls <| q1 hF rfl (e_as (e_move hF rfl) (congrArg Value.bool hb2)) fun a hF => ?_
      refine ls <| gn hF rfl rfl rfl rfl fun a hF => ?_
      refine ls <| gn hF rfl rfl rfl rfl fun a hF => ?_
      refine ls <| gn hF rfl rfl rfl rfl fun a hF => ?_
      refine ls <| gn hF rfl rfl rfl rfl fun a hF => ?_
      refine ls <| q1 hF rfl (e_pickT hF rfl rfl) fun a hF => ?_
      refine ls <| q1 hF rfl (e_move hF rfl) fun a hF => ?_
      refine ls <| gn hF rfl rfl rfl rfl fun a hF => ?_
      refine ls <| gn hF rfl rfl rfl rfl fun a hF => ?_
      refine ls <| q1 hF rfl (e_pickT hF rfl rfl) fun a hF => ?_
      refine re <| ?_
      refine tn <| ?_
      exact ⟨true, H, hm, (Ext.refl _ _), hF.has ⟨rfl, rfl, trivial⟩, hS⟩
    ·
      replace hm := ite_f hm hb2
      replace hm := bind_some hm
      obtain ⟨x3, h4, hm⟩ := hm
      replace hm := bind_some hm
      obtain ⟨r5, h6, hm⟩ := hm
      rcases bdich r5 with hb7 | hb7
      ·
        replace hm := ite_t hm hb7
        have hb7' : (!r5) = false := by rw [hb7]; rfl
        replace hm := bind_some hm
        obtain ⟨r8, h9, hm⟩ := hm
        refine rg <| ?_
        refine ls <| q1 hF rfl (e_move hF rfl) fun a hF => ?_
        refine ls <| q1 hF rfl (e_eqlU (m := p1) (n := []) hF rfl rfl) fun a hF => ?_
        refine ls <| q1 hF rfl (e_move hF rfl) fun a hF => ?_
        refine grp (N := 25) (Fk := [(0, strv p1), (9, .bool ((decide (p1 = [])) || (decide (16 < (p1.length : Int)))))]) (b := (decide (p1 = []))) 4 hS ?_ ?_ ?_
        ·
          intro hb key
          replace hF := Fr.as hF (t := 5) rfl (congrArg Value.bool hb)
          refine ls <| gn hF rfl rfl rfl rfl fun a hF => ?_
          refine ls <| gn hF rfl rfl rfl rfl fun a hF => ?_
          refine ls <| gn hF rfl rfl rfl rfl fun a hF => ?_
          refine ls <| q1 hF rfl (e_as (v' := .bool ((decide (p1 = [])) || (decide (16 < (p1.length : Int))))) (e_pickT hF rfl rfl) (by rw [hb]; rfl)) fun a hF => ?_
          exact key _ _ (hF.has ⟨rfl, rfl, trivial⟩) hS
        ·
          intro hb key
          replace hF := Fr.as hF (t := 5) rfl (congrArg Value.bool hb)
          refine ls <| gy hF rfl rfl <| q1 hF rfl (e_move hF rfl) fun a hF => ?_
          refine ls <| gy hF rfl rfl <| q1 hF rfl (e_lenU (s := p1) hF Tryd.runUnderlying9 rfl) fun a hF => ?_
          refine ls <| gy hF rfl rfl <| q1 hF rfl (e_gtr hF rfl rfl) fun a hF => ?_
          refine ls <| q1 hF rfl (e_as (v' := .bool ((decide (p1 = [])) || (decide (16 < (p1.length : Int))))) (e_pickF hF rfl rfl) (by rw [hb]; rfl)) fun a hF => ?_
          exact key _ _ (hF.has ⟨rfl, rfl, trivial⟩) hS
        intro a w hF hS
        refine ls <| q1 hF rfl (e_as (e_move hF rfl) (congrArg Value.bool hb2)) fun a hF => ?_
        refine ls <| gy hF rfl rfl <| q1 hF rfl (e_move hF rfl) fun a hF => ?_
        refine ls <| gy hF rfl rfl <| q1 hF rfl (e_byte (s := p1) hF Tryd.runUnderlying9 rfl rfl h4) fun a hF => ?_
        refine ls <| gy hF rfl rfl <| c1 hF rfl Tryd.call84 (scan_letter_c (hp_le _) h6) ⟨rfl, trivial⟩ (fun v w a hR hF => ?_)
        obtain ⟨rfl, hk⟩ := hR
        replace hS := hS.pass hk
        clear hk
        refine ls <| gy hF rfl rfl <| q1 hF rfl (e_not hF rfl) fun a hF => ?_
        refine ls <| q1 hF rfl (e_pickF hF rfl rfl) fun a hF => ?_
        refine ls <| q1 hF rfl (e_as (e_move hF rfl) (congrArg Value.bool hb7')) fun a hF => ?_
        refine ls <| gy hF rfl rfl <| q1 hF rfl (e_move hF rfl) fun a hF => ?_
        refine ls <| gy hF rfl rfl <| c1 hF rfl Tryd.call85 (scan_Kept_c (hp_le _) (Tab.mono hT (St.up hS)) h9) ⟨rfl, trivial⟩ (fun v w a hR hF => ?_)
        obtain ⟨rfl, hk⟩ := hR
        replace hS := hS.pass hk
        clear hk
        refine ls <| q1 hF rfl (e_pickF hF rfl rfl) fun a hF => ?_
        refine re <| ?_
        refine tn <| ?_
        exact ⟨r8, H, hm, (Ext.refl _ _), hF.has ⟨rfl, rfl, trivial⟩, hS⟩
      ·
        replace hm := ite_f hm hb7
        have hb7' : (!r5) = true := by rw [hb7]; rfl
        refine rg <| ?_
        refine ls <| q1 hF rfl (e_move hF rfl) fun a hF => ?_
        refine ls <| q1 hF rfl (e_eqlU (m := p1) (n := []) hF rfl rfl) fun a hF => ?_
        refine ls <| q1 hF rfl (e_move hF rfl) fun a hF => ?_
        refine grp (N := 25) (Fk := [(0, strv p1), (9, .bool ((decide (p1 = [])) || (decide (16 < (p1.length : Int)))))]) (b := (decide (p1 = []))) 4 hS ?_ ?_ ?_
        ·
          intro hb key
          replace hF := Fr.as hF (t := 5) rfl (congrArg Value.bool hb)
          refine ls <| gn hF rfl rfl rfl rfl fun a hF => ?_
          refine ls <| gn hF rfl rfl rfl rfl fun a hF => ?_
          refine ls <| gn hF rfl rfl rfl rfl fun a hF => ?_
          refine ls <| q1 hF rfl (e_as (v' := .bool ((decide (p1 = [])) || (decide (16 < (p1.length : Int))))) (e_pickT hF rfl rfl) (by rw [hb]; rfl)) fun a hF => ?_
          exact key _ _ (hF.has ⟨rfl, rfl, trivial⟩) hS
        ·
          intro hb key
          replace hF := Fr.as hF (t := 5) rfl (congrArg Value.bool hb)
          refine ls <| gy hF rfl rfl <| q1 hF rfl (e_move hF rfl) fun a hF => ?_
          refine ls <| gy hF rfl rfl <| q1 hF rfl (e_lenU (s := p1) hF Tryd.runUnderlying9 rfl) fun a hF => ?_
          refine ls <| gy hF rfl rfl <| q1 hF rfl (e_gtr hF rfl rfl) fun a hF => ?_
          refine ls <| q1 hF rfl (e_as (v' := .bool ((decide (p1 = [])) || (decide (16 < (p1.length : Int))))) (e_pickF hF rfl rfl) (by rw [hb]; rfl)) fun a hF => ?_
          exact key _ _ (hF.has ⟨rfl, rfl, trivial⟩) hS
        intro a w hF hS
        refine ls <| q1 hF rfl (e_as (e_move hF rfl) (congrArg Value.bool hb2)) fun a hF => ?_
        refine ls <| gy hF rfl rfl <| q1 hF rfl (e_move hF rfl) fun a hF => ?_
        refine ls <| gy hF rfl rfl <| q1 hF rfl (e_byte (s := p1) hF Tryd.runUnderlying9 rfl rfl h4) fun a hF => ?_
        refine ls <| gy hF rfl rfl <| c1 hF rfl Tryd.call84 (scan_letter_c (hp_le _) h6) ⟨rfl, trivial⟩ (fun v w a hR hF => ?_)
        obtain ⟨rfl, hk⟩ := hR
        replace hS := hS.pass hk
        clear hk
        refine ls <| gy hF rfl rfl <| q1 hF rfl (e_not hF rfl) fun a hF => ?_
        refine ls <| q1 hF rfl (e_pickF hF rfl rfl) fun a hF => ?_
        refine ls <| q1 hF rfl (e_as (e_move hF rfl) (congrArg Value.bool hb7')) fun a hF => ?_
        refine ls <| gn hF rfl rfl rfl rfl fun a hF => ?_
        refine ls <| gn hF rfl rfl rfl rfl fun a hF => ?_
        refine ls <| q1 hF rfl (e_pickT hF rfl rfl) fun a hF => ?_
        refine re <| ?_
        refine tn <| ?_
        exact ⟨true, H, hm, (Ext.refl _ _), hF.has ⟨rfl, rfl, trivial⟩, hS⟩
  clear hm hF hS
  rintro a w ⟨vA2, HA1, hm, hxHA1, hF, hS⟩
  unfold scan_Name_j1 at hm
  rcases bdich vA2 with hb10 | hb10
  ·
    replace hm := ite_t hm hb10
    refine ctv hF rfl hb10 <| th <| ?_
    refine rg <| ?_
    refine ls <| q1 hF rfl (e_asg hF rfl) fun a hF => ?_
    refine re <| ?_
    refine tn <| ?_
    refine wp_ret <| tr <| ?_
    obtain rfl := Option.some.inj hm
    exact r1 hF Tryd.results64 rfl ⟨rfl, hS.keep⟩
  ·
    replace hm := ite_f hm hb10
    refine cfv hF rfl hb10 <| wp_skip <| ?_
    refine tn <| th <| ?_
    replace hm := bind_some hm
    obtain ⟨r11, h12, hm⟩ := hm
    refine rg <| ?_
    refine ls <| q1 hF rfl (e_move hF rfl) fun a hF => ?_
    refine ls <| c1 hF rfl Tryd.call86 (scan_run__Name_1_c (hp_le _) h12) ⟨rfl, rfl, trivial⟩ (fun v w a hR hF => ?_)
    obtain ⟨rfl, hk⟩ := hR
    replace hS := hS.pass hk
    clear hk
    refine ls <| q1 hF rfl (e_move hF rfl) fun a hF => ?_
    refine ls <| q1 hF rfl (e_lenU (s := p1) hF Tryd.runUnderlying9 rfl) fun a hF => ?_
    refine ls <| q1 hF rfl (e_eql hF rfl rfl) fun a hF => ?_
    refine ls <| q1 hF rfl (e_asg hF rfl) fun a hF => ?_
    refine re <| ?_
    refine tn <| ?_
    refine wp_ret <| ?_
    obtain rfl := Option.some.inj hm
    exact r1 hF Tryd.results64 rfl ⟨rfl, hS.keep⟩

set_option maxRecDepth 100000 in
theorem expr_may_c {N : Nat} {w0 : World} {H : PH} (hH : H.le w0) (hT : Tab H) {p1 : api_Node} {r : Bool} (hm : expr_may N p1 = some r) : Tot Tryd.prog 46 #[.agg #[.int .i64 p1.Op, .int .i64 p1.N, strv p1.Name, .int .i64 p1.At]] w0 (fun v w' => v = .bool r ∧ Keep Nil w0 w') := by
  unfold expr_may at hm
  refine fn0 (args := [.agg #[.int .i64 p1.Op, .int .i64 p1.N, strv p1.Name, .int .i64 p1.At]]) (F := [(0, .agg #[.int .i64 p1.Op, .int .i64 p1.N, strv p1.Name, .int .i64 p1.At])]) Tryd.func46 rfl Tryd.ntmps46 rfl rfl fun a hF => ?_
  have hS : St w0 Nil [H] [] w0 := start1 hH
  refine th <| ?_
  refine rg <| ?_
  refine ls <| a_box (cs := [.int .i64 p1.Op, .int .i64 p1.N, strv p1.Name, .int .i64 p1.At].toArray) hF rfl hS rfl rfl fun b2 w a hS hF => ?_
  refine ls <| q1 hF rfl (e_asg hF rfl) fun a hF => ?_
  refine re <| ?_
  refine tn <| th <| wp_block <| th <| ?_
  refine rg <| ?_
  refine ls <| q1 hF rfl (e_fa hF fa39_3 rfl) fun a hF => ?_
  refine ls <| q1 hF rfl (e_ld hF Tryd.isAgg3 rfl ((St.ld hS).cellB (.head _) rfl)) fun a hF => ?_
  refine ls <| q1 hF rfl (e_lss hF rfl rfl) fun a hF => ?_
  refine ls <| q1 hF rfl (e_move hF rfl) fun a hF => ?_
  refine grp (N := 49) (Fk := [(1, .pointer (some ⟨b2, 0, none⟩)), (11, .bool ((decide (p1.At < 0)) || (decide (4000 < p1.At))))]) (b := (decide (p1.At < 0))) 4 hS ?_ ?_ ?_
  ·
    intro hb key
    replace hF := Fr.as hF (t := 7) rfl (congrArg Value.bool hb)
    refine ls <| gn hF rfl rfl rfl rfl fun a hF => ?_
    refine ls <| gn hF rfl rfl rfl rfl fun a hF => ?_
    refine ls <| gn hF rfl rfl rfl rfl fun a hF => ?_
    refine ls <| q1 hF rfl (e_as (v' := .bool ((decide (p1.At < 0)) || (decide (4000 < p1.At)))) (e_pickT hF rfl rfl) (by rw [hb]; rfl)) fun a hF => ?_
    exact key _ _ (hF.has ⟨rfl, rfl, trivial⟩) hS
  ·
    intro hb key
    replace hF := Fr.as hF (t := 7) rfl (congrArg Value.bool hb)
    refine ls <| gy hF rfl rfl <| q1 hF rfl (e_fa hF fa39_3 rfl) fun a hF => ?_
    refine ls <| gy hF rfl rfl <| q1 hF rfl (e_ld hF Tryd.isAgg3 rfl ((St.ld hS).cellB (.head _) rfl)) fun a hF => ?_
    refine ls <| gy hF rfl rfl <| q1 hF rfl (e_gtr hF rfl rfl) fun a hF => ?_
    refine ls <| q1 hF rfl (e_as (v' := .bool ((decide (p1.At < 0)) || (decide (4000 < p1.At)))) (e_pickF hF rfl rfl) (by rw [hb]; rfl)) fun a hF => ?_
    exact key _ _ (hF.has ⟨rfl, rfl, trivial⟩) hS
  intro a w hF hS
  refine ls <| q1 hF rfl (e_asg hF rfl) fun a hF => ?_
  refine re <| ?_
  rcases bdich ((decide (p1.At < 0)) || (decide (4000 < p1.At))) with hb3 | hb3
  ·
    replace hm := ite_t hm hb3
    refine tn <| ctv hF rfl hb3 <| th <| ?_
    refine rg <| ?_
    refine ls <| q1 hF rfl (e_asg hF rfl) fun a hF => ?_
    refine re <| ?_
    refine tn <| ?_
    refine wp_ret <| br <| tr <| ?_
    obtain rfl := Option.some.inj hm
    exact r1 hF Tryd.results46 rfl ⟨rfl, hS.keep⟩
  ·
    replace hm := ite_f hm hb3
    refine tn <| cfv hF rfl hb3 <| th <| ?_
    refine rg <| ?_
    refine ls <| q1 hF rfl (e_fa hF fa39_0 rfl) fun a hF => ?_
    refine ls <| q1 hF rfl (e_ld hF Tryd.isAgg3 rfl ((St.ld hS).cellB (.head _) rfl)) fun a hF => ?_
    refine ls <| q1 hF rfl (e_eql hF rfl rfl) fun a hF => ?_
    refine ls <| q1 hF rfl (e_asg hF rfl) fun a hF => ?_
    refine re <| ?_
    rcases bdich (decide (p1.Op = 1)) with hb4 | hb4
    ·
      replace hm := itp_t hm hb4
      refine tn <| ctv hF rfl hb4 <| th <| ?_
      refine rg <| ?_
      refine ls <| q1 hF rfl (e_fa hF fa39_1 rfl) fun a hF => ?_
      refine ls <| q1 hF rfl (e_ld hF Tryd.isAgg3 rfl ((St.ld hS).cellB (.head _) rfl)) fun a hF => ?_
      refine ls <| q1 hF rfl (e_geq hF rfl rfl) fun a hF => ?_
      refine ls <| q1 hF rfl (e_move hF rfl) fun a hF => ?_
      refine grp (N := 49) (Fk := [(1, .pointer (some ⟨b2, 0, none⟩)), (23, .bool ((decide (0 ≤ p1.N)) && (decide (p1.N ≤ 4294967296))))]) (b := (decide (0 ≤ p1.N))) 4 hS ?_ ?_ ?_
      ·
        intro hb key
        replace hF := Fr.as hF (t := 19) rfl (congrArg Value.bool hb)
        refine ls <| gy hF rfl rfl <| q1 hF rfl (e_fa hF fa39_1 rfl) fun a hF => ?_
        refine ls <| gy hF rfl rfl <| q1 hF rfl (e_ld hF Tryd.isAgg3 rfl ((St.ld hS).cellB (.head _) rfl)) fun a hF => ?_
        refine ls <| gy hF rfl rfl <| q1 hF rfl (e_leq hF rfl rfl) fun a hF => ?_
        refine ls <| q1 hF rfl (e_as (v' := .bool ((decide (0 ≤ p1.N)) && (decide (p1.N ≤ 4294967296)))) (e_pickT hF rfl rfl) (by rw [hb]; rfl)) fun a hF => ?_
        exact key _ _ (hF.has ⟨rfl, rfl, trivial⟩) hS
      ·
        intro hb key
        replace hF := Fr.as hF (t := 19) rfl (congrArg Value.bool hb)
        refine ls <| gn hF rfl rfl rfl rfl fun a hF => ?_
        refine ls <| gn hF rfl rfl rfl rfl fun a hF => ?_
        refine ls <| gn hF rfl rfl rfl rfl fun a hF => ?_
        refine ls <| q1 hF rfl (e_as (v' := .bool ((decide (0 ≤ p1.N)) && (decide (p1.N ≤ 4294967296)))) (e_pickF hF rfl rfl) (by rw [hb]; rfl)) fun a hF => ?_
        exact key _ _ (hF.has ⟨rfl, rfl, trivial⟩) hS
      intro a w hF hS
      refine ls <| q1 hF rfl (e_move hF rfl) fun a hF => ?_
      refine grp (N := 49) (Fk := [(28, .bool (((decide (0 ≤ p1.N)) && (decide (p1.N ≤ 4294967296))) && (decide (p1.Name = []))))]) (b := ((decide (0 ≤ p1.N)) && (decide (p1.N ≤ 4294967296)))) 4 hS ?_ ?_ ?_
      ·
        intro hb key
        replace hF := Fr.as hF (t := 24) rfl (congrArg Value.bool hb)
        refine ls <| gy hF rfl rfl <| q1 hF rfl (e_fa hF fa39_2 rfl) fun a hF => ?_
        refine ls <| gy hF rfl rfl <| q1 hF rfl (e_ld hF Tryd.isAgg9 rfl ((St.ld hS).cellB (.head _) rfl)) fun a hF => ?_
        refine ls <| gy hF rfl rfl <| q1 hF rfl (e_eqlU (m := p1.Name) (n := []) hF rfl rfl) fun a hF => ?_
        refine ls <| q1 hF rfl (e_as (v' := .bool (((decide (0 ≤ p1.N)) && (decide (p1.N ≤ 4294967296))) && (decide (p1.Name = [])))) (e_pickT hF rfl rfl) (by rw [hb]; rfl)) fun a hF => ?_
        exact key _ _ (hF.has ⟨rfl, trivial⟩) hS
      ·
        intro hb key
        replace hF := Fr.as hF (t := 24) rfl (congrArg Value.bool hb)
        refine ls <| gn hF rfl rfl rfl rfl fun a hF => ?_
        refine ls <| gn hF rfl rfl rfl rfl fun a hF => ?_
        refine ls <| gn hF rfl rfl rfl rfl fun a hF => ?_
        refine ls <| q1 hF rfl (e_as (v' := .bool (((decide (0 ≤ p1.N)) && (decide (p1.N ≤ 4294967296))) && (decide (p1.Name = [])))) (e_pickF hF rfl rfl) (by rw [hb]; rfl)) fun a hF => ?_
        exact key _ _ (hF.has ⟨rfl, trivial⟩) hS
      intro a w hF hS
      refine ls <| q1 hF rfl (e_asg hF rfl) fun a hF => ?_
      refine re <| ?_
      refine tn <| ?_
      refine wp_ret <| br <| tr <| ?_
      obtain rfl := Option.some.inj hm
      exact r1 hF Tryd.results46 rfl ⟨rfl, hS.keep⟩
    ·
      replace hm := itp_f hm hb4
      refine tn <| cfv hF rfl hb4 <| th <| ?_
      refine rg <| ?_
      refine ls <| q1 hF rfl (e_fa hF fa39_0 rfl) fun a hF => ?_
      refine ls <| q1 hF rfl (e_ld hF Tryd.isAgg3 rfl ((St.ld hS).cellB (.head _) rfl)) fun a hF => ?_
      refine ls <| q1 hF rfl (e_eql hF rfl rfl) fun a hF => ?_
      refine ls <| q1 hF rfl (e_asg hF rfl) fun a hF => ?_
      refine re <| ?_
      rcases bdich (decide (p1.Op = 2)) with hb5 | hb5
      ·
        replace hm := itp_t hm hb5
        refine tn <| ctv hF rfl hb5 <| th <| ?_
        rcases bdich (decide (p1.N = 0)) with hb6 | hb6
        ·
          replace hm := itp_t hm hb6
          replace hm := bind_some hm
          obtain ⟨r7, h8, hm⟩ := hm
          refine rg <| ?_
          refine ls <| q1 hF rfl (e_fa hF fa39_1 rfl) fun a hF => ?_
          refine ls <| q1 hF rfl (e_ld hF Tryd.isAgg3 rfl ((St.ld hS).cellB (.head _) rfl)) fun a hF => ?_
          refine ls <| q1 hF rfl (e_eql hF rfl rfl) fun a hF => ?_
          refine ls <| q1 hF rfl (e_as (e_move hF rfl) (congrArg Value.bool hb6)) fun a hF => ?_
          refine ls <| gy hF rfl rfl <| q1 hF rfl (e_fa hF fa39_2 rfl) fun a hF => ?_
          refine ls <| gy hF rfl rfl <| q1 hF rfl (e_ld hF Tryd.isAgg9 rfl ((St.ld hS).cellB (.head _) rfl)) fun a hF => ?_
          refine ls <| gy hF rfl rfl <| c1 hF rfl Tryd.call64 (scan_Name_c (hp_le _) (Tab.mono hT (St.up hS)) h8) ⟨rfl, trivial⟩ (fun v w a hR hF => ?_)
          obtain ⟨rfl, hk⟩ := hR
          replace hS := hS.pass hk
          clear hk
          refine ls <| q1 hF rfl (e_pickT hF rfl rfl) fun a hF => ?_
          refine ls <| q1 hF rfl (e_asg hF rfl) fun a hF => ?_
          refine re <| ?_
          refine tn <| ?_
          refine wp_ret <| br <| tr <| ?_
          obtain rfl := Option.some.inj hm
          exact r1 hF Tryd.results46 rfl ⟨rfl, hS.keep⟩
        ·
          replace hm := itp_f hm hb6
          refine rg <| ?_
          refine ls <| q1 hF rfl (e_fa hF fa39_1 rfl) fun a hF => ?_
          refine ls <| q1 hF rfl (e_ld hF Tryd.isAgg3 rfl ((St.ld hS).cellB (.head _) rfl)) fun a hF => ?_
          refine ls <| q1 hF rfl (e_eql hF rfl rfl) fun a hF => ?_
          refine ls <| q1 hF rfl (e_as (e_move hF rfl) (congrArg Value.bool hb6)) fun a hF => ?_
          refine ls <| gn hF rfl rfl rfl rfl fun a hF => ?_
          refine ls <| gn hF rfl rfl rfl rfl fun a hF => ?_
          refine ls <| gn hF rfl rfl rfl rfl fun a hF => ?_
          refine ls <| q1 hF rfl (e_pickF hF rfl rfl) fun a hF => ?_
          refine ls <| q1 hF rfl (e_asg hF rfl) fun a hF => ?_
          refine re <| ?_
          refine tn <| ?_
          refine wp_ret <| br <| tr <| ?_
          obtain rfl := Option.some.inj hm
          exact r1 hF Tryd.results46 rfl ⟨rfl, hS.keep⟩
      ·
        replace hm := itp_f hm hb5
        refine tn <| cfv hF rfl hb5 <| wp_skip <| ?_
        refine bn <| tn <| th <| ?_
        refine rg <| ?_
        refine ls <| q1 hF rfl (e_fa hF fa39_1 rfl) fun a hF => ?_
        refine ls <| q1 hF rfl (e_ld hF Tryd.isAgg3 rfl ((St.ld hS).cellB (.head _) rfl)) fun a hF => ?_
        refine ls <| q1 hF rfl (e_eql hF rfl rfl) fun a hF => ?_
        refine ls <| q1 hF rfl (e_move hF rfl) fun a hF => ?_
        refine grp (N := 49) (Fk := [(48, .bool ((decide (p1.N = 0)) && (decide (p1.Name = []))))]) (b := (decide (p1.N = 0))) 4 hS ?_ ?_ ?_
        ·
          intro hb key
          replace hF := Fr.as hF (t := 44) rfl (congrArg Value.bool hb)
          refine ls <| gy hF rfl rfl <| q1 hF rfl (e_fa hF fa39_2 rfl) fun a hF => ?_
          refine ls <| gy hF rfl rfl <| q1 hF rfl (e_ld hF Tryd.isAgg9 rfl ((St.ld hS).cellB (.head _) rfl)) fun a hF => ?_
          refine ls <| gy hF rfl rfl <| q1 hF rfl (e_eqlU (m := p1.Name) (n := []) hF rfl rfl) fun a hF => ?_
          refine ls <| q1 hF rfl (e_as (v' := .bool ((decide (p1.N = 0)) && (decide (p1.Name = [])))) (e_pickT hF rfl rfl) (by rw [hb]; rfl)) fun a hF => ?_
          exact key _ _ (hF.has ⟨rfl, trivial⟩) hS
        ·
          intro hb key
          replace hF := Fr.as hF (t := 44) rfl (congrArg Value.bool hb)
          refine ls <| gn hF rfl rfl rfl rfl fun a hF => ?_
          refine ls <| gn hF rfl rfl rfl rfl fun a hF => ?_
          refine ls <| gn hF rfl rfl rfl rfl fun a hF => ?_
          refine ls <| q1 hF rfl (e_as (v' := .bool ((decide (p1.N = 0)) && (decide (p1.Name = [])))) (e_pickF hF rfl rfl) (by rw [hb]; rfl)) fun a hF => ?_
          exact key _ _ (hF.has ⟨rfl, trivial⟩) hS
        intro a w hF hS
        refine ls <| q1 hF rfl (e_asg hF rfl) fun a hF => ?_
        refine re <| ?_
        refine tn <| ?_
        refine wp_ret <| ?_
        obtain rfl := Option.some.inj hm
        exact r1 hF Tryd.results46 rfl ⟨rfl, hS.keep⟩

set_option maxRecDepth 100000 in
theorem expr_Right_1_c {N : Nat} {w0 : World} {H : PH} (hH : H.le w0) (hT : Tab H) {p1 : api_Node} {r : Bool} (hm : expr_Right_1 N p1 = some r) : Tot Tryd.prog 45 #[.agg #[.int .i64 p1.Op, .int .i64 p1.N, strv p1.Name, .int .i64 p1.At]] w0 (fun v w' => v = .bool r ∧ Keep Nil w0 w') := by
  unfold expr_Right_1 at hm
  refine fn0 (args := [.agg #[.int .i64 p1.Op, .int .i64 p1.N, strv p1.Name, .int .i64 p1.At]]) (F := [(0, .agg #[.int .i64 p1.Op, .int .i64 p1.N, strv p1.Name, .int .i64 p1.At])]) Tryd.func45 rfl Tryd.ntmps45 rfl rfl fun a hF => ?_
  have hS : St w0 Nil [H] [] w0 := start1 hH
  refine th <| ?_
  refine rg <| ?_
  refine ls <| a_box (cs := [.int .i64 p1.Op, .int .i64 p1.N, strv p1.Name, .int .i64 p1.At].toArray) hF rfl hS rfl rfl fun b2 w a hS hF => ?_
  refine ls <| q1 hF rfl (e_asg hF rfl) fun a hF => ?_
  refine re <| ?_
  refine tn <| th <| ?_
  replace hm := bind_some hm
  obtain ⟨r3, h4, hm⟩ := hm
  refine rg <| ?_
  refine ls <| q1 hF rfl (e_ldA hF Tryd.isAgg39 Tryd.sizeOf39 rfl rfl ((St.ld hS).cellsB (.head _))) fun a hF => ?_
  refine ls <| c1 hF rfl Tryd.call46 (expr_may_c (hp_le _) (Tab.mono hT (St.up hS)) h4) ⟨rfl, trivial⟩ (fun v w a hR hF => ?_)
  obtain ⟨rfl, hk⟩ := hR
  replace hS := hS.pass hk
  clear hk
  refine ls <| q1 hF rfl (e_not hF rfl) fun a hF => ?_
  refine ls <| q1 hF rfl (e_asg hF rfl) fun a hF => ?_
  refine re <| ?_
  refine tn <| ?_
  refine wp_ret <| ?_
  obtain rfl := Option.some.inj hm
  exact r1 hF Tryd.results45 rfl ⟨rfl, hS.keep⟩

set_option maxRecDepth 100000 in
theorem slices_IndexFunc_api_Node_api_Node__Right_1_c {N : Nat} {w0 : World} {H : PH} (hH : H.le w0) (hT : Tab H) {oa2 : Option Addr} {cap3 : Nat} {p1 : (List api_Node)} (hc4 : p1.length ≤ cap3) (hr5 : SR H oa2 p1) {r : Int} (hm : slices_IndexFunc_api_Node_api_Node__Right_1 N p1 = some r) : Tot Tryd.prog 65 #[.slice oa2 p1.length cap3, .func (.func 45) #[] #[]] w0 (fun v w' => v = .int .i64 r ∧ Keep Nil w0 w') := by
  unfold slices_IndexFunc_api_Node_api_Node__Right_1 at hm
  refine fn0 (args := [.slice oa2 p1.length cap3, .func (.func 45) #[] #[]]) (F := [(0, .slice oa2 p1.length cap3), (1, .func (.func 45) #[] #[])]) Tryd.func65 rfl Tryd.ntmps65 rfl rfl fun a hF => ?_
  have hS : St w0 Nil [H] [] w0 := start1 hH
  refine th <| ?_
  refine rg <| ?_
  refine ls <| q1 hF rfl (e_asg hF rfl) fun a hF => ?_
  refine re <| ?_
  refine tn <| th <| th <| ?_
  refine rg <| ?_
  refine ls <| q1 hF rfl (e_move hF rfl) fun a hF => ?_
  refine ls <| q1 hF rfl (e_lenL (α := api_Node) (xs := p1) hF Tryd.runUnderlying22 rfl) fun a hF => ?_
  refine ls <| q1 hF rfl (e_move hF rfl) fun a hF => ?_
  refine re <| ?_
  refine tn <| midK (fun a w => ∃ (HA1 : PH), slices_IndexFunc_api_Node_api_Node__Right_1_j1 = some r ∧ Ext w0 H HA1 ∧ Fr 19 [] a ∧ St w0 Nil [HA1] [] w) ?_ ?_
  ·
    refine wp_block <| lp (α := Nat × Int) (fun (gh : Nat × Int) a w => match gh with | (nn2, vB6) => ∃ (HB1 : PH) (oaB2 : Option Addr) (capB3 : Nat), (slices_IndexFunc_api_Node_api_Node__Right_1_l2 N slices_IndexFunc_api_Node_api_Node__Right_1_j1 p1) nn2 vB6 = some r ∧ Ext w0 H HB1 ∧ Fr 19 [(0, .slice oaB2 p1.length capB3), (1, .func (.func 45) #[] #[]), (7, .int .i64 (p1.length : Int)), (8, .int .i64 vB6)] a ∧ St w0 Nil [HB1] [] w ∧ p1.length ≤ capB3 ∧ SR HB1 oaB2 p1) (fun gh => gh.1) (N, 0) ⟨H, oa2, cap3, hm, (Ext.refl _ _), hF.has ⟨rfl, rfl, rfl, rfl, trivial⟩, hS, hc4, hr5⟩ ?_
    clear hm hF hS
    rintro ⟨nn2, vB6⟩ a w ⟨HB1, oaB2, capB3, hm, hxHB1, hF, hS, hcB4, hrB5⟩
    obtain _ | nn2 := nn2
    · simp [slices_IndexFunc_api_Node_api_Node__Right_1_l2] at hm
    rw [slices_IndexFunc_api_Node_api_Node__Right_1_l2] at hm
    refine th <| ?_
    refine rg <| ?_
    refine ls <| q1 hF rfl (e_lss hF rfl rfl) fun a hF => ?_
    refine re <| ?_
    rcases bdich (decide (vB6 < (p1.length : Int))) with hb6 | hb6
    ·
      replace hm := itp_t hm hb6
      refine tn <| th <| ctv hF rfl hb6 <| wp_skip <| ?_
      refine tn <| th <| wp_block <| th <| ?_
      refine rg <| ?_
      refine ls <| q1 hF rfl (e_move hF rfl) fun a hF => ?_
      refine ls <| q1 hF rfl (e_asg hF rfl) fun a hF => ?_
      refine re <| ?_
      refine tn <| th <| ?_
      replace hm := bind_some hm
      obtain ⟨x7, h8, hm⟩ := hm
      obtain ⟨c9, g10, hl11⟩ := SR.get hrB5 h8
      obtain rfl := api_Node_open g10
      replace hm := bind_some hm
      obtain ⟨r12, h13, hm⟩ := hm
      refine rg <| ?_
      refine ls <| q1 hF rfl (e_move hF rfl) fun a hF => ?_
      refine ls <| q1 hF rfl (e_move hF rfl) fun a hF => ?_
      refine ls <| q1 hF rfl (e_move hF rfl) fun a hF => ?_
      refine ls <| q1 hF rfl (e_iaI hF Tryd.runUnderlying22 Tryd.sizeOf39 rfl rfl h8 (SR.oaI hrB5 (by decide) h8)) fun a hF => ?_
      refine ls <| q1 hF rfl (e_ldA hF Tryd.isAgg39 Tryd.sizeOf39 rfl rfl (fun j v hj => PH.le.cell (Lds.le (St.ld hS)) (hl11 j v hj))) fun a hF => ?_
      refine ls <| k1 (vs := [.agg #[.int .i64 x7.Op, .int .i64 x7.N, strv x7.Name, .int .i64 x7.At]]) (caps := []) hF rfl rfl Tryd.call45 (expr_Right_1_c (hp_le _) (Tab.mono (Tab.mono hT hxHB1.sub) (St.up hS)) h13) ⟨rfl, trivial⟩ rfl (fun v w a hR hF => ?_)
      obtain ⟨rfl, hk⟩ := hR
      replace hS := hS.pass hk
      clear hk
      refine re <| ?_
      rcases bdich r12 with hb14 | hb14
      ·
        replace hm := ite_t hm hb14
        refine tn <| ctv hF rfl hb14 <| th <| ?_
        refine rg <| ?_
        refine ls <| q1 hF rfl (e_move hF rfl) fun a hF => ?_
        refine ls <| q1 hF rfl (e_asg hF rfl) fun a hF => ?_
        refine re <| ?_
        refine tn <| ?_
        refine wp_ret <| br <| tr <| tr <| br <| tr <| ?_
        obtain rfl := Option.some.inj hm
        exact r1 hF Tryd.results65 rfl ⟨rfl, hS.keep⟩
      ·
        replace hm := ite_f hm hb14
        refine tn <| cfv hF rfl hb14 <| wp_skip <| ?_
        refine bn <| tn <| ?_
        refine rg <| ?_
        refine ls <| q1 hF rfl (e_add hF rfl rfl) fun a hF => ?_
        refine ls <| q1 hF rfl (e_move hF rfl) fun a hF => ?_
        refine re <| ?_
        refine tn <| ?_
        exact ⟨(nn2, (IntKind.i64.wrap (vB6 + 1))), ⟨HB1, oaB2, capB3, hm, hxHB1, hF.has ⟨rfl, rfl, rfl, rfl, trivial⟩, hS, hcB4, hrB5⟩, Nat.lt_succ_self _⟩
    ·
      replace hm := itp_f hm hb6
      refine tn <| th <| cfv hF rfl hb6 <| ?_
      refine wp_exit <| tx <| tx <| bx <| ?_
      refine tn <| ?_
      exact ⟨HB1, hm, hxHB1, hF.has trivial, hS⟩
  clear hm hF hS
  rintro a w ⟨HA1, hm, hxHA1, hF, hS⟩
  unfold slices_IndexFunc_api_Node_api_Node__Right_1_j1 at hm
  refine th <| ?_
  refine rg <| ?_
  refine ls <| q1 hF rfl (e_asg hF rfl) fun a hF => ?_
  refine re <| ?_
  refine tn <| ?_
  refine wp_ret <| ?_
  obtain rfl := Option.some.inj hm
  exact r1 hF Tryd.results65 rfl ⟨rfl, hS.keep⟩

set_option maxRecDepth 100000 in
theorem slices_ContainsFunc_api_Node_api_Node__Right_1_c {N : Nat} {w0 : World} {H : PH} (hH : H.le w0) (hT : Tab H) {oa2 : Option Addr} {cap3 : Nat} {p1 : (List api_Node)} (hc4 : p1.length ≤ cap3) (hr5 : SR H oa2 p1) {r : Bool} (hm : slices_ContainsFunc_api_Node_api_Node__Right_1 N p1 = some r) : Tot Tryd.prog 47 #[.slice oa2 p1.length cap3, .func (.func 45) #[] #[]] w0 (fun v w' => v = .bool r ∧ Keep Nil w0 w') := by
  unfold slices_ContainsFunc_api_Node_api_Node__Right_1 at hm
  refine fn0 (args := [.slice oa2 p1.length cap3, .func (.func 45) #[] #[]]) (F := [(0, .slice oa2 p1.length cap3), (1, .func (.func 45) #[] #[])]) Tryd.func47 rfl Tryd.ntmps47 rfl rfl fun a hF => ?_
  have hS : St w0 Nil [H] [] w0 := start1 hH
  refine th <| ?_
  refine rg <| ?_
  refine ls <| q1 hF rfl (e_asg hF rfl) fun a hF => ?_
  refine re <| ?_
  refine tn <| th <| ?_
  replace hm := bind_some hm
  obtain ⟨r6, h7, hm⟩ := hm
  refine rg <| ?_
  refine ls <| q1 hF rfl (e_move hF rfl) fun a hF => ?_
  refine ls <| q1 hF rfl (e_move hF rfl) fun a hF => ?_
  refine ls <| c1 hF rfl Tryd.call65 (slices_IndexFunc_api_Node_api_Node__Right_1_c (hp_le _) (Tab.mono hT (St.up hS)) hc4 (St.srH hS hr5) h7) ⟨rfl, rfl, trivial⟩ (fun v w a hR hF => ?_)
  obtain ⟨rfl, hk⟩ := hR
  replace hS := hS.pass hk
  clear hk
  refine ls <| q1 hF rfl (e_geq hF rfl rfl) fun a hF => ?_
  refine ls <| q1 hF rfl (e_asg hF rfl) fun a hF => ?_
  refine re <| ?_
  refine tn <| ?_
  refine wp_ret <| ?_
  obtain rfl := Option.some.inj hm
  exact r1 hF Tryd.results47 rfl ⟨rfl, hS.keep⟩

set_option maxRecDepth 100000 in
theorem expr_many_c {N : Nat} {w0 : World} {H : PH} (hH : H.le w0) {p1 : Int} {r : Int} (hm : expr_many N p1 = some r) : Tot Tryd.prog 66 #[.int .i64 p1] w0 (fun v w' => v = .int .i64 r ∧ Keep Nil w0 w') := by
  unfold expr_many at hm
  refine fn0 (args := [.int .i64 p1]) (F := [(0, .int .i64 p1)]) Tryd.func66 rfl Tryd.ntmps66 rfl rfl fun a hF => ?_
  have hS : St w0 Nil [H] [] w0 := start1 hH
  refine th <| ?_
  refine rg <| ?_
  refine ls <| q1 hF rfl (e_asg hF rfl) fun a hF => ?_
  refine re <| ?_
  refine tn <| th <| wp_block <| th <| ?_
  refine rg <| ?_
  refine ls <| q1 hF rfl (e_move hF rfl) fun a hF => ?_
  refine ls <| q1 hF rfl (e_eql hF rfl rfl) fun a hF => ?_
  refine ls <| q1 hF rfl (e_move hF rfl) fun a hF => ?_
  refine grp (N := 24) (Fk := [(0, .int .i64 p1), (9, .bool ((decide (p1 = 1)) || (decide (p1 = 2))))]) (b := (decide (p1 = 1))) 3 hS ?_ ?_ ?_
  ·
    intro hb key
    replace hF := Fr.as hF (t := 6) rfl (congrArg Value.bool hb)
    refine ls <| gn hF rfl rfl rfl rfl fun a hF => ?_
    refine ls <| gn hF rfl rfl rfl rfl fun a hF => ?_
    refine ls <| q1 hF rfl (e_as (v' := .bool ((decide (p1 = 1)) || (decide (p1 = 2)))) (e_pickT hF rfl rfl) (by rw [hb]; rfl)) fun a hF => ?_
    exact key _ _ (hF.has ⟨rfl, rfl, trivial⟩) hS
  ·
    intro hb key
    replace hF := Fr.as hF (t := 6) rfl (congrArg Value.bool hb)
    refine ls <| gy hF rfl rfl <| q1 hF rfl (e_move hF rfl) fun a hF => ?_
    refine ls <| gy hF rfl rfl <| q1 hF rfl (e_eql hF rfl rfl) fun a hF => ?_
    refine ls <| q1 hF rfl (e_as (v' := .bool ((decide (p1 = 1)) || (decide (p1 = 2)))) (e_pickF hF rfl rfl) (by rw [hb]; rfl)) fun a hF => ?_
    exact key _ _ (hF.has ⟨rfl, rfl, trivial⟩) hS
  intro a w hF hS
  refine ls <| q1 hF rfl (e_asg hF rfl) fun a hF => ?_
  refine re <| ?_
  rcases bdich ((decide (p1 = 1)) || (decide (p1 = 2))) with hb2 | hb2
  ·
    replace hm := ite_t hm hb2
    refine tn <| ctv hF rfl hb2 <| th <| ?_
    refine rg <| ?_
    refine ls <| q1 hF rfl (e_asg hF rfl) fun a hF => ?_
    refine re <| ?_
    refine tn <| ?_
    refine wp_ret <| br <| tr <| ?_
    obtain rfl := Option.some.inj hm
    exact r1 hF Tryd.results66 rfl ⟨rfl, hS.keep⟩
  ·
    replace hm := ite_f hm hb2
    refine tn <| cfv hF rfl hb2 <| th <| ?_
    refine rg <| ?_
    refine ls <| q1 hF rfl (e_move hF rfl) fun a hF => ?_
    refine ls <| q1 hF rfl (e_eql hF rfl rfl) fun a hF => ?_
    refine ls <| q1 hF rfl (e_move hF rfl) fun a hF => ?_
    refine grp (N := 24) (Fk := [(0, .int .i64 p1), (16, .bool ((decide (p1 = 3)) || (decide (p1 = 4))))]) (b := (decide (p1 = 3))) 3 hS ?_ ?_ ?_
    ·
      intro hb key
      replace hF := Fr.as hF (t := 13) rfl (congrArg Value.bool hb)
      refine ls <| gn hF rfl rfl rfl rfl fun a hF => ?_
      refine ls <| gn hF rfl rfl rfl rfl fun a hF => ?_
      refine ls <| q1 hF rfl (e_as (v' := .bool ((decide (p1 = 3)) || (decide (p1 = 4)))) (e_pickT hF rfl rfl) (by rw [hb]; rfl)) fun a hF => ?_
      exact key _ _ (hF.has ⟨rfl, rfl, trivial⟩) hS
    ·
      intro hb key
      replace hF := Fr.as hF (t := 13) rfl (congrArg Value.bool hb)
      refine ls <| gy hF rfl rfl <| q1 hF rfl (e_move hF rfl) fun a hF => ?_
      refine ls <| gy hF rfl rfl <| q1 hF rfl (e_eql hF rfl rfl) fun a hF => ?_
      refine ls <| q1 hF rfl (e_as (v' := .bool ((decide (p1 = 3)) || (decide (p1 = 4)))) (e_pickF hF rfl rfl) (by rw [hb]; rfl)) fun a hF => ?_
      exact key _ _ (hF.has ⟨rfl, rfl, trivial⟩) hS
    intro a w hF hS
    refine ls <| q1 hF rfl (e_asg hF rfl) fun a hF => ?_
    refine re <| ?_
    rcases bdich ((decide (p1 = 3)) || (decide (p1 = 4))) with hb3 | hb3
    ·
      replace hm := ite_t hm hb3
      refine tn <| ctv hF rfl hb3 <| th <| ?_
      refine rg <| ?_
      refine ls <| q1 hF rfl (e_asg hF rfl) fun a hF => ?_
      refine re <| ?_
      refine tn <| ?_
      refine wp_ret <| br <| tr <| ?_
      obtain rfl := Option.some.inj hm
      exact r1 hF Tryd.results66 rfl ⟨rfl, hS.keep⟩
    ·
      replace hm := ite_f hm hb3
      refine tn <| cfv hF rfl hb3 <| th <| ?_
      refine rg <| ?_
      refine ls <| q1 hF rfl (e_move hF rfl) fun a hF => ?_
      refine ls <| q1 hF rfl (e_geq hF rfl rfl) fun a hF => ?_
      refine ls <| q1 hF rfl (e_move hF rfl) fun a hF => ?_
      refine grp (N := 24) (Fk := [(23, .bool ((decide (5 ≤ p1)) && (decide (p1 ≤ 15))))]) (b := (decide (5 ≤ p1))) 3 hS ?_ ?_ ?_
      ·
        intro hb key
        replace hF := Fr.as hF (t := 20) rfl (congrArg Value.bool hb)
        refine ls <| gy hF rfl rfl <| q1 hF rfl (e_move hF rfl) fun a hF => ?_
        refine ls <| gy hF rfl rfl <| q1 hF rfl (e_leq hF rfl rfl) fun a hF => ?_
        refine ls <| q1 hF rfl (e_as (v' := .bool ((decide (5 ≤ p1)) && (decide (p1 ≤ 15)))) (e_pickT hF rfl rfl) (by rw [hb]; rfl)) fun a hF => ?_
        exact key _ _ (hF.has ⟨rfl, trivial⟩) hS
      ·
        intro hb key
        replace hF := Fr.as hF (t := 20) rfl (congrArg Value.bool hb)
        refine ls <| gn hF rfl rfl rfl rfl fun a hF => ?_
        refine ls <| gn hF rfl rfl rfl rfl fun a hF => ?_
        refine ls <| q1 hF rfl (e_as (v' := .bool ((decide (5 ≤ p1)) && (decide (p1 ≤ 15)))) (e_pickF hF rfl rfl) (by rw [hb]; rfl)) fun a hF => ?_
        exact key _ _ (hF.has ⟨rfl, trivial⟩) hS
      intro a w hF hS
      refine ls <| q1 hF rfl (e_asg hF rfl) fun a hF => ?_
      refine re <| ?_
      rcases bdich ((decide (5 ≤ p1)) && (decide (p1 ≤ 15))) with hb4 | hb4
      ·
        replace hm := ite_t hm hb4
        refine tn <| ctv hF rfl hb4 <| th <| ?_
        refine rg <| ?_
        refine ls <| q1 hF rfl (e_asg hF rfl) fun a hF => ?_
        refine re <| ?_
        refine tn <| ?_
        refine wp_ret <| br <| tr <| ?_
        obtain rfl := Option.some.inj hm
        exact r1 hF Tryd.results66 rfl ⟨rfl, hS.keep⟩
      ·
        replace hm := ite_f hm hb4
        refine tn <| cfv hF rfl hb4 <| wp_skip <| ?_
        refine bn <| tn <| th <| ?_
        refine rg <| ?_
        refine ls <| q1 hF rfl (e_asg hF rfl) fun a hF => ?_
        refine re <| ?_
        refine tn <| ?_
        refine wp_ret <| ?_
        obtain rfl := Option.some.inj hm
        exact r1 hF Tryd.results66 rfl ⟨rfl, hS.keep⟩

set_option maxRecDepth 100000 in
theorem expr_End_c {N : Nat} {w0 : World} {H : PH} (hH : H.le w0) {oa2 : Option Addr} {cap3 : Nat} {p1 : (List api_Node)} (hc4 : p1.length ≤ cap3) (hr5 : SR H oa2 p1) {p6 : Int} {r : Int} (hm : expr_End N p1 p6 = some r) : Tot Tryd.prog 48 #[.slice oa2 p1.length cap3, .int .i64 p6] w0 (fun v w' => v = .int .i64 r ∧ Keep Nil w0 w') := by
  unfold expr_End at hm
  refine fn0 (args := [.slice oa2 p1.length cap3, .int .i64 p6]) (F := [(0, .slice oa2 p1.length cap3), (1, .int .i64 p6)]) Tryd.func48 rfl Tryd.ntmps48 rfl rfl fun a hF => ?_
  have hS : St w0 Nil [H] [] w0 := start1 hH
  refine th <| ?_
  refine rg <| ?_
  refine ls <| q1 hF rfl (e_asg hF rfl) fun a hF => ?_
  refine re <| ?_
  refine tn <| th <| th <| ?_
  refine rg <| ?_
  refine ls <| q1 hF rfl (e_asg hF rfl) fun a hF => ?_
  refine re <| ?_
  refine tn <| midK (fun a w => ∃ (vA2 : Int) (HA1 : PH), expr_End_j1 vA2 = some r ∧ Ext w0 H HA1 ∧ Fr 38 [(1, .int .i64 vA2)] a ∧ St w0 Nil [HA1] [] w) ?_ ?_
  ·
    refine wp_block <| lp (α := Nat × Int × Int) (fun (gh : Nat × Int × Int) a w => match gh with | (nn2, vB6, vB7) => ∃ (HB1 : PH) (oaB2 : Option Addr) (capB3 : Nat), (expr_End_l2 N expr_End_j1 p1) nn2 vB6 vB7 = some r ∧ Ext w0 H HB1 ∧ Fr 38 [(0, .slice oaB2 p1.length capB3), (1, .int .i64 vB6), (5, .int .i64 vB7)] a ∧ St w0 Nil [HB1] [] w ∧ p1.length ≤ capB3 ∧ SR HB1 oaB2 p1) (fun gh => gh.1) (N, p6, 1) ⟨H, oa2, cap3, hm, (Ext.refl _ _), hF.has ⟨rfl, rfl, rfl, trivial⟩, hS, hc4, hr5⟩ ?_
    clear hm hF hS
    rintro ⟨nn2, vB6, vB7⟩ a w ⟨HB1, oaB2, capB3, hm, hxHB1, hF, hS, hcB4, hrB5⟩
    obtain _ | nn2 := nn2
    · simp [expr_End_l2] at hm
    rw [expr_End_l2] at hm
    refine th <| th <| ?_
    refine rg <| ?_
    refine ls <| q1 hF rfl (e_move hF rfl) fun a hF => ?_
    refine ls <| q1 hF rfl (e_gtr hF rfl rfl) fun a hF => ?_
    refine re <| ?_
    rcases bdich (decide (0 < vB7)) with hb7 | hb7
    ·
      replace hm := itp_t hm hb7
      refine tn <| ctv hF rfl hb7 <| wp_skip <| ?_
      refine tn <| th <| wp_block <| th <| th <| midK (fun a w => ∃ (vC1 : Bool), (expr_End_j3 N (expr_End_l2 N expr_End_j1 p1 nn2) p1 vB6 vB7) vC1 = some r ∧ Fr 38 [(0, .slice oaB2 p1.length capB3), (1, .int .i64 vB6), (5, .int .i64 vB7), (26, .bool vC1)] a ∧ St w0 Nil [HB1] [] w) ?_ ?_
      ·
        rcases bdich ((decide (vB6 < 0)) || (decide ((p1.length : Int) ≤ vB6))) with hb8 | hb8
        ·
          replace hm := ite_t hm hb8
          refine rg <| ?_
          refine ls <| q1 hF rfl (e_move hF rfl) fun a hF => ?_
          refine ls <| q1 hF rfl (e_lss hF rfl rfl) fun a hF => ?_
          refine ls <| q1 hF rfl (e_move hF rfl) fun a hF => ?_
          refine grp (N := 38) (Fk := [(0, .slice oaB2 p1.length capB3), (1, .int .i64 vB6), (5, .int .i64 vB7), (17, .bool ((decide (vB6 < 0)) || (decide ((p1.length : Int) ≤ vB6))))]) (b := (decide (vB6 < 0))) 5 hS ?_ ?_ ?_
          ·
            intro hb key
            replace hF := Fr.as hF (t := 12) rfl (congrArg Value.bool hb)
            refine ls <| gn hF rfl rfl rfl rfl fun a hF => ?_
            refine ls <| gn hF rfl rfl rfl rfl fun a hF => ?_
            refine ls <| gn hF rfl rfl rfl rfl fun a hF => ?_
            refine ls <| gn hF rfl rfl rfl rfl fun a hF => ?_
            refine ls <| q1 hF rfl (e_as (v' := .bool ((decide (vB6 < 0)) || (decide ((p1.length : Int) ≤ vB6)))) (e_pickT hF rfl rfl) (by rw [hb]; rfl)) fun a hF => ?_
            exact key _ _ (hF.has ⟨rfl, rfl, rfl, rfl, trivial⟩) hS
          ·
            intro hb key
            replace hF := Fr.as hF (t := 12) rfl (congrArg Value.bool hb)
            refine ls <| gy hF rfl rfl <| q1 hF rfl (e_move hF rfl) fun a hF => ?_
            refine ls <| gy hF rfl rfl <| q1 hF rfl (e_move hF rfl) fun a hF => ?_
            refine ls <| gy hF rfl rfl <| q1 hF rfl (e_lenL (α := api_Node) (xs := p1) hF Tryd.runUnderlying22 rfl) fun a hF => ?_
            refine ls <| gy hF rfl rfl <| q1 hF rfl (e_geq hF rfl rfl) fun a hF => ?_
            refine ls <| q1 hF rfl (e_as (v' := .bool ((decide (vB6 < 0)) || (decide ((p1.length : Int) ≤ vB6)))) (e_pickF hF rfl rfl) (by rw [hb]; rfl)) fun a hF => ?_
            exact key _ _ (hF.has ⟨rfl, rfl, rfl, rfl, trivial⟩) hS
          intro a w hF hS
          refine ls <| q1 hF rfl (e_as (e_move hF rfl) (congrArg Value.bool hb8)) fun a hF => ?_
          refine ls <| gn hF rfl rfl rfl rfl fun a hF => ?_
          refine ls <| gn hF rfl rfl rfl rfl fun a hF => ?_
          refine ls <| gn hF rfl rfl rfl rfl fun a hF => ?_
          refine ls <| gn hF rfl rfl rfl rfl fun a hF => ?_
          refine ls <| gn hF rfl rfl rfl rfl fun a hF => ?_
          refine ls <| gn hF rfl rfl rfl rfl fun a hF => ?_
          refine ls <| gn hF rfl rfl rfl rfl fun a hF => ?_
          refine ls <| q1 hF rfl (e_pickT hF rfl rfl) fun a hF => ?_
          refine re <| ?_
          refine tn <| ?_
          exact ⟨true, hm, hF.has ⟨rfl, rfl, rfl, rfl, trivial⟩, hS⟩
        ·
          replace hm := ite_f hm hb8
          replace hm := bind_some hm
          obtain ⟨x9, h10, hm⟩ := hm
          obtain ⟨c11, g12, hl13⟩ := SR.get hrB5 h10
          obtain rfl := api_Node_open g12
          replace hm := bind_some hm
          obtain ⟨r14, h15, hm⟩ := hm
          refine rg <| ?_
          refine ls <| q1 hF rfl (e_move hF rfl) fun a hF => ?_
          refine ls <| q1 hF rfl (e_lss hF rfl rfl) fun a hF => ?_
          refine ls <| q1 hF rfl (e_move hF rfl) fun a hF => ?_
          refine grp (N := 38) (Fk := [(0, .slice oaB2 p1.length capB3), (1, .int .i64 vB6), (5, .int .i64 vB7), (17, .bool ((decide (vB6 < 0)) || (decide ((p1.length : Int) ≤ vB6))))]) (b := (decide (vB6 < 0))) 5 hS ?_ ?_ ?_
          ·
            intro hb key
            replace hF := Fr.as hF (t := 12) rfl (congrArg Value.bool hb)
            refine ls <| gn hF rfl rfl rfl rfl fun a hF => ?_
            refine ls <| gn hF rfl rfl rfl rfl fun a hF => ?_
            refine ls <| gn hF rfl rfl rfl rfl fun a hF => ?_
            refine ls <| gn hF rfl rfl rfl rfl fun a hF => ?_
            refine ls <| q1 hF rfl (e_as (v' := .bool ((decide (vB6 < 0)) || (decide ((p1.length : Int) ≤ vB6)))) (e_pickT hF rfl rfl) (by rw [hb]; rfl)) fun a hF => ?_
            exact key _ _ (hF.has ⟨rfl, rfl, rfl, rfl, trivial⟩) hS
          ·
            intro hb key
            replace hF := Fr.as hF (t := 12) rfl (congrArg Value.bool hb)
            refine ls <| gy hF rfl rfl <| q1 hF rfl (e_move hF rfl) fun a hF => ?_
            refine ls <| gy hF rfl rfl <| q1 hF rfl (e_move hF rfl) fun a hF => ?_
            refine ls <| gy hF rfl rfl <| q1 hF rfl (e_lenL (α := api_Node) (xs := p1) hF Tryd.runUnderlying22 rfl) fun a hF => ?_
            refine ls <| gy hF rfl rfl <| q1 hF rfl (e_geq hF rfl rfl) fun a hF => ?_
            refine ls <| q1 hF rfl (e_as (v' := .bool ((decide (vB6 < 0)) || (decide ((p1.length : Int) ≤ vB6)))) (e_pickF hF rfl rfl) (by rw [hb]; rfl)) fun a hF => ?_
            exact key _ _ (hF.has ⟨rfl, rfl, rfl, rfl, trivial⟩) hS
          intro a w hF hS
          refine ls <| q1 hF rfl (e_as (e_move hF rfl) (congrArg Value.bool hb8)) fun a hF => ?_
          refine ls <| gy hF rfl rfl <| q1 hF rfl (e_move hF rfl) fun a hF => ?_
          refine ls <| gy hF rfl rfl <| q1 hF rfl (e_move hF rfl) fun a hF => ?_
          refine ls <| gy hF rfl rfl <| q1 hF rfl (e_iaI hF Tryd.runUnderlying22 Tryd.sizeOf39 rfl rfl h10 (SR.oaI hrB5 (by decide) h10)) fun a hF => ?_
          refine ls <| gy hF rfl rfl <| q1 hF rfl (e_fa hF fa39_0 rfl) fun a hF => ?_
          refine ls <| gy hF rfl rfl <| q1 hF rfl (e_ld hF Tryd.isAgg3 rfl (PH.le.cell (Lds.le (St.ld hS)) (hl13 0 _ rfl))) fun a hF => ?_
          refine ls <| gy hF rfl rfl <| c1 hF rfl Tryd.call66 (expr_many_c (hp_le _) h15) ⟨rfl, trivial⟩ (fun v w a hR hF => ?_)
          obtain ⟨rfl, hk⟩ := hR
          replace hS := hS.pass hk
          clear hk
          refine ls <| gy hF rfl rfl <| q1 hF rfl (e_eql hF rfl rfl) fun a hF => ?_
          refine ls <| q1 hF rfl (e_pickF hF rfl rfl) fun a hF => ?_
          refine re <| ?_
          refine tn <| ?_
          exact ⟨(decide (r14 = (-1))), hm, hF.has ⟨rfl, rfl, rfl, rfl, trivial⟩, hS⟩
      clear hm hF hS
      rintro a w ⟨vC1, hm, hF, hS⟩
      unfold expr_End_j3 at hm
      rcases bdich vC1 with hb16 | hb16
      ·
        replace hm := ite_t hm hb16
        refine ctv hF rfl hb16 <| th <| ?_
        refine rg <| ?_
        refine ls <| q1 hF rfl (e_asg hF rfl) fun a hF => ?_
        refine re <| ?_
        refine tn <| ?_
        refine wp_ret <| tr <| br <| tr <| tr <| br <| tr <| ?_
        obtain rfl := Option.some.inj hm
        exact r1 hF Tryd.results48 rfl ⟨rfl, hS.keep⟩
      ·
        replace hm := ite_f hm hb16
        refine cfv hF rfl hb16 <| wp_skip <| ?_
        refine tn <| th <| ?_
        replace hm := bind_some hm
        obtain ⟨x17, h18, hm⟩ := hm
        obtain ⟨c19, g20, hl21⟩ := SR.get hrB5 h18
        obtain rfl := api_Node_open g20
        replace hm := bind_some hm
        obtain ⟨r22, h23, hm⟩ := hm
        refine rg <| ?_
        refine ls <| q1 hF rfl (e_move hF rfl) fun a hF => ?_
        refine ls <| q1 hF rfl (e_move hF rfl) fun a hF => ?_
        refine ls <| q1 hF rfl (e_move hF rfl) fun a hF => ?_
        refine ls <| q1 hF rfl (e_iaI hF Tryd.runUnderlying22 Tryd.sizeOf39 rfl rfl h18 (SR.oaI hrB5 (by decide) h18)) fun a hF => ?_
        refine ls <| q1 hF rfl (e_fa hF fa39_0 rfl) fun a hF => ?_
        refine ls <| q1 hF rfl (e_ld hF Tryd.isAgg3 rfl (PH.le.cell (Lds.le (St.ld hS)) (hl21 0 _ rfl))) fun a hF => ?_
        refine ls <| c1 hF rfl Tryd.call66 (expr_many_c (hp_le _) h23) ⟨rfl, trivial⟩ (fun v w a hR hF => ?_)
        obtain ⟨rfl, hk⟩ := hR
        replace hS := hS.pass hk
        clear hk
        refine ls <| q1 hF rfl (e_add hF rfl rfl) fun a hF => ?_
        refine ls <| q1 hF rfl (e_asg hF rfl) fun a hF => ?_
        refine re <| ?_
        refine tn <| ?_
        refine rg <| ?_
        refine ls <| q1 hF rfl (e_move hF rfl) fun a hF => ?_
        refine ls <| q1 hF rfl (e_add hF rfl rfl) fun a hF => ?_
        refine ls <| q1 hF rfl (e_asg hF rfl) fun a hF => ?_
        refine re <| ?_
        refine bn <| tn <| ?_
        refine rg <| ?_
        refine ls <| q1 hF rfl (e_move hF rfl) fun a hF => ?_
        refine ls <| q1 hF rfl (e_sub hF rfl rfl) fun a hF => ?_
        refine ls <| q1 hF rfl (e_asg hF rfl) fun a hF => ?_
        refine re <| ?_
        refine tn <| ?_
        exact ⟨(nn2, (IntKind.i64.wrap (vB6 + 1)), (IntKind.i64.wrap ((IntKind.i64.wrap (vB7 + r22)) - 1))), ⟨HB1, oaB2, capB3, hm, hxHB1, hF.has ⟨rfl, rfl, rfl, trivial⟩, hS, hcB4, hrB5⟩, Nat.lt_succ_self _⟩
    ·
      replace hm := itp_f hm hb7
      refine tn <| cfv hF rfl hb7 <| ?_
      refine wp_exit <| tx <| tx <| bx <| ?_
      refine tn <| ?_
      exact ⟨vB6, HB1, hm, hxHB1, hF.has ⟨rfl, trivial⟩, hS⟩
  clear hm hF hS
  rintro a w ⟨vA2, HA1, hm, hxHA1, hF, hS⟩
  unfold expr_End_j1 at hm
  refine th <| ?_
  refine rg <| ?_
  refine ls <| q1 hF rfl (e_move hF rfl) fun a hF => ?_
  refine ls <| q1 hF rfl (e_asg hF rfl) fun a hF => ?_
  refine re <| ?_
  refine tn <| ?_
  refine wp_ret <| ?_
  obtain rfl := Option.some.inj hm
  exact r1 hF Tryd.results48 rfl ⟨rfl, hS.keep⟩

set_option maxRecDepth 100000 in
theorem expr_operands_c {N : Nat} {w0 : World} {H : PH} (hH : H.le w0) {oa2 : Option Addr} {cap3 : Nat} {p1 : (List api_Node)} (hc4 : p1.length ≤ cap3) (hr5 : SR H oa2 p1) {p6 : Int} {r : (List Int)} (hm : expr_operands N p1 p6 = some r) : Tot Tryd.prog 67 #[.slice oa2 p1.length cap3, .int .i64 p6] w0 (fun v w' => ∃ (oa0 : Option Addr) (cap0 : Nat) (vs0 : List Value), v = .slice oa0 r.length cap0 ∧ (∀ h, Rows h vs0 r) ∧ Fresh w0 (sla 3 1 oa0 r.length cap0 vs0) w') := by
  unfold expr_operands at hm
  refine fn0 (args := [.slice oa2 p1.length cap3, .int .i64 p6]) (F := [(0, .slice oa2 p1.length cap3), (1, .int .i64 p6)]) Tryd.func67 rfl Tryd.ntmps67 rfl rfl fun a hF => ?_
  have hS : St w0 Nil [H] [] w0 := start1 hH
  refine th <| ?_
  refine rg <| ?_
  refine ls <| q1 hF rfl (e_asg hF rfl) fun a hF => ?_
  refine re <| ?_
  refine tn <| th <| ?_
  refine rg <| ?_
  refine ls <| q1 hF rfl (e_asg hF rfl) fun a hF => ?_
  refine re <| ?_
  refine tn <| th <| ?_
  refine rg <| ?_
  refine ls <| q1 hF rfl (e_move hF rfl) fun a hF => ?_
  refine ls <| q1 hF rfl (e_add hF rfl rfl) fun a hF => ?_
  refine ls <| q1 hF rfl (e_asg hF rfl) fun a hF => ?_
  refine re <| ?_
  refine tn <| th <| th <| ?_
  replace hm := bind_some hm
  obtain ⟨x7, h8, hm⟩ := hm
  obtain ⟨c9, g10, hl11⟩ := SR.get hr5 h8
  obtain rfl := api_Node_open g10
  replace hm := bind_some hm
  obtain ⟨r12, h13, hm⟩ := hm
  refine rg <| ?_
  refine ls <| q1 hF rfl (e_move hF rfl) fun a hF => ?_
  refine ls <| q1 hF rfl (e_move hF rfl) fun a hF => ?_
  refine ls <| q1 hF rfl (e_iaI hF Tryd.runUnderlying22 Tryd.sizeOf39 rfl rfl h8 (SR.oaI hr5 (by decide) h8)) fun a hF => ?_
  refine ls <| q1 hF rfl (e_fa hF fa39_0 rfl) fun a hF => ?_
  refine ls <| q1 hF rfl (e_ld hF Tryd.isAgg3 rfl (PH.le.cell (Lds.le (St.ld hS)) (hl11 0 _ rfl))) fun a hF => ?_
  refine ls <| c1 hF rfl Tryd.call66 (expr_many_c (hp_le _) h13) ⟨rfl, trivial⟩ (fun v w a hR hF => ?_)
  obtain ⟨rfl, hk⟩ := hR
  replace hS := hS.pass hk
  clear hk
  refine ls <| q1 hF rfl (e_move hF rfl) fun a hF => ?_
  refine re <| ?_
  refine tn <| midK (fun a w => ∃ (vA2 : (List Int)) (HA1 : PH) (oaA3 : Option Addr) (capA4 : Nat) (vsA5 : List Value), expr_operands_j1 vA2 = some r ∧ Ext w0 H HA1 ∧ Fr 26 [(5, .slice oaA3 vA2.length capA4)] a ∧ St w0 Nil [HA1] [sla 3 1 oaA3 vA2.length capA4 vsA5] w ∧ Rows HA1 vsA5 vA2) ?_ ?_
  ·
    replace hS := St.nilS hS 3 1
    refine wp_block <| lp (α := Nat × (List Int) × Int × Int) (fun (gh : Nat × (List Int) × Int × Int) a w => match gh with | (nn2, vB6, vB12, vB13) => ∃ (HB1 : PH) (oaB2 : Option Addr) (capB3 : Nat) (oaB7 : Option Addr) (capB8 : Nat) (vsB9 : List Value), (expr_operands_l2 N expr_operands_j1 p1 r12) nn2 vB6 vB12 vB13 = some r ∧ Ext w0 H HB1 ∧ Fr 26 [(0, .slice oaB2 p1.length capB3), (5, .slice oaB7 vB6.length capB8), (6, .int .i64 vB12), (14, .int .i64 r12), (15, .int .i64 vB13)] a ∧ St w0 Nil [HB1] [sla 3 1 oaB7 vB6.length capB8 vsB9] w ∧ p1.length ≤ capB3 ∧ SR HB1 oaB2 p1 ∧ Rows HB1 vsB9 vB6) (fun gh => gh.1) (N, [], (IntKind.i64.wrap (p6 + 1)), 0) ⟨H, oa2, cap3, none, 0, [], hm, (Ext.refl _ _), hF.has ⟨rfl, rfl, rfl, rfl, rfl, trivial⟩, hS, hc4, hr5, .nil⟩ ?_
    clear hm hF hS
    rintro ⟨nn2, vB6, vB12, vB13⟩ a w ⟨HB1, oaB2, capB3, oaB7, capB8, vsB9, hm, hxHB1, hF, hS, hcB4, hrB5, hvB10⟩
    obtain _ | nn2 := nn2
    · simp [expr_operands_l2] at hm
    rw [expr_operands_l2] at hm
    refine th <| ?_
    refine rg <| ?_
    refine ls <| q1 hF rfl (e_lss hF rfl rfl) fun a hF => ?_
    refine re <| ?_
    rcases bdich (decide (vB13 < r12)) with hb14 | hb14
    ·
      replace hm := itp_t hm hb14
      refine tn <| th <| ctv hF rfl hb14 <| wp_skip <| ?_
      refine tn <| th <| wp_block <| th <| ?_
      replace hm := bind_some hm
      obtain ⟨l18, h19, hm⟩ := hm
      refine rg <| ?_
      refine ls <| q1 hF rfl (e_move hF rfl) fun a hF => ?_
      refine ls <| q1 hF rfl (e_move hF rfl) fun a hF => ?_
      refine ls <| a_bsl (e := 3) (sz := 1) [.int .i64 vB12] hF rfl hS rfl rfl rfl (fun w => by kernel_rfl) fun b16 w a hS hF => ?_
      have hv15 : Rows (α := Int) HB1 [.int .i64 vB12] ([vB12] : List Int) := (.cons (c := [.int .i64 vB12]) rfl .nil)
      refine ls <| m_app (α := Int) (xs := vB6) (ys := ([vB12] : List Int)) hF rfl hS Tryd.underlying33 info3 rfl (by decide) rfl rfl rfl (.tail _ (.head _)) hvB10 (hS.rdO (.head _)) hv15 h19 fun oa20 cap21 vs22 w a hv23 hU hF => ?_
      replace hS := hU _ (.tail .head)
      clear hU
      replace hS := hS.drop .head
      refine ls <| q1 hF rfl (e_asg hF rfl) fun a hF => ?_
      refine re <| ?_
      refine tn <| ?_
      replace hm := bind_some hm
      obtain ⟨r24, h25, hm⟩ := hm
      refine rg <| ?_
      refine ls <| q1 hF rfl (e_move hF rfl) fun a hF => ?_
      refine ls <| q1 hF rfl (e_move hF rfl) fun a hF => ?_
      refine ls <| c1 hF rfl Tryd.call48 (expr_End_c (hp_le _) hcB4 (St.srH hS hrB5) h25) ⟨rfl, rfl, trivial⟩ (fun v w a hR hF => ?_)
      obtain ⟨rfl, hk⟩ := hR
      replace hS := hS.pass hk
      clear hk
      refine ls <| q1 hF rfl (e_asg hF rfl) fun a hF => ?_
      refine re <| ?_
      refine bn <| tn <| ?_
      refine rg <| ?_
      refine ls <| q1 hF rfl (e_add hF rfl rfl) fun a hF => ?_
      refine ls <| q1 hF rfl (e_move hF rfl) fun a hF => ?_
      refine re <| ?_
      refine tn <| ?_
      exact ⟨(nn2, l18, r24, (IntKind.i64.wrap (vB13 + 1))), ⟨HB1, oaB2, capB3, oa20, cap21, vs22, hm, hxHB1, hF.has ⟨rfl, rfl, rfl, rfl, rfl, trivial⟩, hS, hcB4, hrB5, hv23⟩, Nat.lt_succ_self _⟩
    ·
      replace hm := itp_f hm hb14
      refine tn <| th <| cfv hF rfl hb14 <| ?_
      refine wp_exit <| tx <| tx <| bx <| ?_
      refine tn <| ?_
      exact ⟨vB6, HB1, oaB7, capB8, vsB9, hm, hxHB1, hF.has ⟨rfl, trivial⟩, hS, hvB10⟩
  clear hm hF hS
  rintro a w ⟨vA2, HA1, oaA3, capA4, vsA5, hm, hxHA1, hF, hS, hvA6⟩
  unfold expr_operands_j1 at hm
  refine th <| ?_
  refine rg <| ?_
  refine ls <| q1 hF rfl (e_move hF rfl) fun a hF => ?_
  refine ls <| q1 hF rfl (e_asg hF rfl) fun a hF => ?_
  refine re <| ?_
  refine tn <| ?_
  refine wp_ret <| ?_
  obtain rfl := Option.some.inj hm
  exact r1 hF Tryd.results67 rfl ⟨_, _, _, rfl, (fun _ => Rows.ind hvA6), hS.endFresh (.head _)⟩

set_option maxRecDepth 100000 in
theorem expr_depth_c : ∀ (N : Nat) {w0 : World} {H : PH} (hH : H.le w0) {oa2 : Option Addr} {cap3 : Nat} {p1 : (List api_Node)} (hc4 : p1.length ≤ cap3) (hr5 : SR H oa2 p1) {p6 : Int} {r : Int} (hm : expr_depth N p1 p6 = some r), Tot Tryd.prog 49 #[.slice oa2 p1.length cap3, .int .i64 p6] w0 (fun v w' => v = .int .i64 r ∧ Keep Nil w0 w') := by
  intro N
  induction N with
  | zero => intros; rename_i hm; simp [expr_depth] at hm
  | succ N ih =>
  intro w0 H hH oa2 cap3 p1 hc4 hr5 p6 r hm
  rw [expr_depth] at hm
  refine fn0 (args := [.slice oa2 p1.length cap3, .int .i64 p6]) (F := [(0, .slice oa2 p1.length cap3), (1, .int .i64 p6)]) Tryd.func49 rfl Tryd.ntmps49 rfl rfl fun a hF => ?_
  have hS : St w0 Nil [H] [] w0 := start1 hH
  refine th <| ?_
  refine rg <| ?_
  refine ls <| q1 hF rfl (e_asg hF rfl) fun a hF => ?_
  refine re <| ?_
  refine tn <| th <| ?_
  refine rg <| ?_
  refine ls <| q1 hF rfl (e_asg hF rfl) fun a hF => ?_
  refine re <| ?_
  refine tn <| th <| th <| ?_
  replace hm := bind_some hm
  obtain ⟨r7, h8, hm⟩ := hm
  refine rg <| ?_
  refine ls <| q1 hF rfl (e_move hF rfl) fun a hF => ?_
  refine ls <| q1 hF rfl (e_move hF rfl) fun a hF => ?_
  refine ls <| c1 hF rfl Tryd.call67 (expr_operands_c (hp_le _) hc4 (St.srH hS hr5) h8) ⟨rfl, rfl, trivial⟩ (fun v w a hR hF => ?_)
  obtain ⟨oa9, cap10, vs11, rfl, hv12, hk⟩ := hR
  replace hS := hS.fresh hk
  clear hk
  replace hv12 := hv12 H
  refine ls <| q1 hF rfl (e_lenL (α := Int) (xs := r7) hF Tryd.runUnderlying33 rfl) fun a hF => ?_
  refine ls <| q1 hF rfl (e_move hF rfl) fun a hF => ?_
  refine re <| ?_
  refine tn <| midK (fun a w => ∃ (vA2 : Int) (HA1 : PH), expr_depth_j1 vA2 = some r ∧ Ext w0 H HA1 ∧ Fr 24 [(5, .int .i64 vA2)] a ∧ St w0 Nil [HA1] [] w) ?_ ?_
  ·
    refine wp_block <| lp (α := Nat × Int × Int) (fun (gh : Nat × Int × Int) a w => match gh with | (nn2, vB6, vB7) => ∃ (HB1 : PH) (oaB2 : Option Addr) (capB3 : Nat), (expr_depth_l2 (expr_depth N) N expr_depth_j1 p1 r7) nn2 vB6 vB7 = some r ∧ Ext w0 H HB1 ∧ Fr 24 [(0, .slice oaB2 p1.length capB3), (5, .int .i64 vB6), (10, .slice oa9 r7.length cap10), (11, .int .i64 (r7.length : Int)), (12, .int .i64 vB7)] a ∧ St w0 Nil [HB1] [sla 3 1 oa9 r7.length cap10 vs11] w ∧ p1.length ≤ capB3 ∧ SR HB1 oaB2 p1) (fun gh => gh.1) (N, 0, 0) ⟨H, oa2, cap3, hm, (Ext.refl _ _), hF.has ⟨rfl, rfl, rfl, rfl, rfl, trivial⟩, hS, hc4, hr5⟩ ?_
    clear hm hF hS
    rintro ⟨nn2, vB6, vB7⟩ a w ⟨HB1, oaB2, capB3, hm, hxHB1, hF, hS, hcB4, hrB5⟩
    obtain _ | nn2 := nn2
    · simp [expr_depth_l2] at hm
    rw [expr_depth_l2] at hm
    refine th <| ?_
    refine rg <| ?_
    refine ls <| q1 hF rfl (e_lss hF rfl rfl) fun a hF => ?_
    refine re <| ?_
    rcases bdich (decide (vB7 < (r7.length : Int))) with hb14 | hb14
    ·
      replace hm := itp_t hm hb14
      refine tn <| th <| ctv hF rfl hb14 <| wp_skip <| ?_
      refine tn <| th <| wp_block <| th <| ?_
      replace hm := bind_some hm
      obtain ⟨x15, h16, hm⟩ := hm
      have ho17 := Rd.oaI (hS.rdO (.head _)) hv12 (by decide) h16
      obtain ⟨c18, g19, hl20⟩ := Rows.getI hv12 h16
      obtain rfl : c18 = [.int .i64 x15] := g19
      refine rg <| ?_
      refine ls <| q1 hF rfl (e_iaI hF Tryd.runUnderlying33 Tryd.sizeOf3 rfl rfl h16 ho17) fun a hF => ?_
      refine ls <| q1 hF rfl (e_ld hF Tryd.isAgg3 rfl ((St.ld hS).elO (.head _) (hl20 0 _ rfl))) fun a hF => ?_
      refine ls <| q1 hF rfl (e_asg hF rfl) fun a hF => ?_
      refine re <| ?_
      refine tn <| ?_
      replace hm := bind_some hm
      obtain ⟨r21, h22, hm⟩ := hm
      refine rg <| ?_
      refine ls <| q1 hF rfl (e_move hF rfl) fun a hF => ?_
      refine ls <| q1 hF rfl (e_move hF rfl) fun a hF => ?_
      refine ls <| q1 hF rfl (e_move hF rfl) fun a hF => ?_
      refine ls <| c1 hF rfl Tryd.call49 (ih (hp_le _) hcB4 (St.srH hS hrB5) h22) ⟨rfl, rfl, trivial⟩ (fun v w a hR hF => ?_)
      obtain ⟨rfl, hk⟩ := hR
      replace hS := hS.pass hk
      clear hk
      refine ls <| q1 hF rfl (e_max hF rfl rfl) fun a hF => ?_
      refine ls <| q1 hF rfl (e_asg hF rfl) fun a hF => ?_
      refine re <| ?_
      refine bn <| tn <| ?_
      refine rg <| ?_
      refine ls <| q1 hF rfl (e_add hF rfl rfl) fun a hF => ?_
      refine ls <| q1 hF rfl (e_move hF rfl) fun a hF => ?_
      refine re <| ?_
      refine tn <| ?_
      exact ⟨(nn2, (max vB6 r21), (IntKind.i64.wrap (vB7 + 1))), ⟨HB1, oaB2, capB3, hm, hxHB1, hF.has ⟨rfl, rfl, rfl, rfl, rfl, trivial⟩, hS, hcB4, hrB5⟩, Nat.lt_succ_self _⟩
    ·
      replace hm := itp_f hm hb14
      refine tn <| th <| cfv hF rfl hb14 <| ?_
      refine wp_exit <| tx <| tx <| bx <| ?_
      refine tn <| ?_
      replace hS := hS.pickL .nil
      exact ⟨vB6, HB1, hm, hxHB1, hF.has ⟨rfl, trivial⟩, hS⟩
  clear hm hF hS
  rintro a w ⟨vA2, HA1, hm, hxHA1, hF, hS⟩
  unfold expr_depth_j1 at hm
  refine th <| ?_
  refine rg <| ?_
  refine ls <| q1 hF rfl (e_move hF rfl) fun a hF => ?_
  refine ls <| q1 hF rfl (e_add hF rfl rfl) fun a hF => ?_
  refine ls <| q1 hF rfl (e_asg hF rfl) fun a hF => ?_
  refine re <| ?_
  refine tn <| ?_
  refine wp_ret <| ?_
  obtain rfl := Option.some.inj hm
  exact r1 hF Tryd.results49 rfl ⟨rfl, hS.keep⟩

set_option maxRecDepth 100000 in
theorem expr_Right_c {N : Nat} {w0 : World} {H : PH} (hH : H.le w0) (hT : Tab H) {oa2 : Option Addr} {cap3 : Nat} {p1 : (List api_Node)} (hc4 : p1.length ≤ cap3) (hr5 : SR H oa2 p1) {r : Bool} (hm : expr_Right N p1 = some r) : Tot Tryd.prog 23 #[.slice oa2 p1.length cap3] w0 (fun v w' => v = .bool r ∧ Keep Nil w0 w') := by
  unfold expr_Right at hm
  refine fn0 (args := [.slice oa2 p1.length cap3]) (F := [(0, .slice oa2 p1.length cap3)]) Tryd.func23 rfl Tryd.ntmps23 rfl rfl fun a hF => ?_
  have hS : St w0 Nil [H] [] w0 := start1 hH
  refine th <| ?_
  refine rg <| ?_
  refine ls <| q1 hF rfl (e_asg hF rfl) fun a hF => ?_
  refine re <| ?_
  refine tn <| th <| ?_
  refine rg <| ?_
  refine ls <| q1 hF rfl (e_asg hF rfl) fun a hF => ?_
  refine re <| ?_
  refine tn <| th <| th <| midK (fun a w => ∃ (vA6 : Bool) (HA1 : PH) (oaA2 : Option Addr) (capA3 : Nat), (expr_Right_j1 N p1) vA6 = some r ∧ Ext w0 H HA1 ∧ Fr 27 [(0, .slice oaA2 p1.length capA3), (23, .bool vA6)] a ∧ St w0 Nil [HA1] [] w ∧ p1.length ≤ capA3 ∧ SR HA1 oaA2 p1) ?_ ?_
  ·
    rcases bdich ((decide ((p1.length : Int) = 0)) || (decide (40 < (p1.length : Int)))) with hb6 | hb6
    ·
      replace hm := ite_t hm hb6
      refine rg <| ?_
      refine ls <| q1 hF rfl (e_move hF rfl) fun a hF => ?_
      refine ls <| q1 hF rfl (e_lenL (α := api_Node) (xs := p1) hF Tryd.runUnderlying22 rfl) fun a hF => ?_
      refine ls <| q1 hF rfl (e_eql hF rfl rfl) fun a hF => ?_
      refine ls <| q1 hF rfl (e_move hF rfl) fun a hF => ?_
      refine grp (N := 27) (Fk := [(0, .slice oa2 p1.length cap3), (3, .func (.func 45) #[] #[]), (11, .bool ((decide ((p1.length : Int) = 0)) || (decide (40 < (p1.length : Int)))))]) (b := (decide ((p1.length : Int) = 0))) 4 hS ?_ ?_ ?_
      ·
        intro hb key
        replace hF := Fr.as hF (t := 7) rfl (congrArg Value.bool hb)
        refine ls <| gn hF rfl rfl rfl rfl fun a hF => ?_
        refine ls <| gn hF rfl rfl rfl rfl fun a hF => ?_
        refine ls <| gn hF rfl rfl rfl rfl fun a hF => ?_
        refine ls <| q1 hF rfl (e_as (v' := .bool ((decide ((p1.length : Int) = 0)) || (decide (40 < (p1.length : Int))))) (e_pickT hF rfl rfl) (by rw [hb]; rfl)) fun a hF => ?_
        exact key _ _ (hF.has ⟨rfl, rfl, rfl, trivial⟩) hS
      ·
        intro hb key
        replace hF := Fr.as hF (t := 7) rfl (congrArg Value.bool hb)
        refine ls <| gy hF rfl rfl <| q1 hF rfl (e_move hF rfl) fun a hF => ?_
        refine ls <| gy hF rfl rfl <| q1 hF rfl (e_lenL (α := api_Node) (xs := p1) hF Tryd.runUnderlying22 rfl) fun a hF => ?_
        refine ls <| gy hF rfl rfl <| q1 hF rfl (e_gtr hF rfl rfl) fun a hF => ?_
        refine ls <| q1 hF rfl (e_as (v' := .bool ((decide ((p1.length : Int) = 0)) || (decide (40 < (p1.length : Int))))) (e_pickF hF rfl rfl) (by rw [hb]; rfl)) fun a hF => ?_
        exact key _ _ (hF.has ⟨rfl, rfl, rfl, trivial⟩) hS
      intro a w hF hS
      refine ls <| q1 hF rfl (e_as (e_move hF rfl) (congrArg Value.bool hb6)) fun a hF => ?_
      refine ls <| gn hF rfl rfl rfl rfl fun a hF => ?_
      refine ls <| gn hF rfl rfl rfl rfl fun a hF => ?_
      refine ls <| gn hF rfl rfl rfl rfl fun a hF => ?_
      refine ls <| q1 hF rfl (e_pickT hF rfl rfl) fun a hF => ?_
      refine ls <| q1 hF rfl (e_move hF rfl) fun a hF => ?_
      refine ls <| gn hF rfl rfl rfl rfl fun a hF => ?_
      refine ls <| gn hF rfl rfl rfl rfl fun a hF => ?_
      refine ls <| gn hF rfl rfl rfl rfl fun a hF => ?_
      refine ls <| gn hF rfl rfl rfl rfl fun a hF => ?_
      refine ls <| gn hF rfl rfl rfl rfl fun a hF => ?_
      refine ls <| q1 hF rfl (e_pickT hF rfl rfl) fun a hF => ?_
      refine re <| ?_
      refine tn <| ?_
      exact ⟨true, H, oa2, cap3, hm, (Ext.refl _ _), hF.has ⟨rfl, rfl, trivial⟩, hS, hc4, hr5⟩
    ·
      replace hm := ite_f hm hb6
      replace hm := bind_some hm
      obtain ⟨r7, h8, hm⟩ := hm
      rcases bdich r7 with hb9 | hb9
      ·
        replace hm := ite_t hm hb9
        refine rg <| ?_
        refine ls <| q1 hF rfl (e_move hF rfl) fun a hF => ?_
        refine ls <| q1 hF rfl (e_lenL (α := api_Node) (xs := p1) hF Tryd.runUnderlying22 rfl) fun a hF => ?_
        refine ls <| q1 hF rfl (e_eql hF rfl rfl) fun a hF => ?_
        refine ls <| q1 hF rfl (e_move hF rfl) fun a hF => ?_
        refine grp (N := 27) (Fk := [(0, .slice oa2 p1.length cap3), (3, .func (.func 45) #[] #[]), (11, .bool ((decide ((p1.length : Int) = 0)) || (decide (40 < (p1.length : Int)))))]) (b := (decide ((p1.length : Int) = 0))) 4 hS ?_ ?_ ?_
        ·
          intro hb key
          replace hF := Fr.as hF (t := 7) rfl (congrArg Value.bool hb)
          refine ls <| gn hF rfl rfl rfl rfl fun a hF => ?_
          refine ls <| gn hF rfl rfl rfl rfl fun a hF => ?_
          refine ls <| gn hF rfl rfl rfl rfl fun a hF => ?_
          refine ls <| q1 hF rfl (e_as (v' := .bool ((decide ((p1.length : Int) = 0)) || (decide (40 < (p1.length : Int))))) (e_pickT hF rfl rfl) (by rw [hb]; rfl)) fun a hF => ?_
          exact key _ _ (hF.has ⟨rfl, rfl, rfl, trivial⟩) hS
        ·
          intro hb key
          replace hF := Fr.as hF (t := 7) rfl (congrArg Value.bool hb)
          refine ls <| gy hF rfl rfl <| q1 hF rfl (e_move hF rfl) fun a hF => ?_
          refine ls <| gy hF rfl rfl <| q1 hF rfl (e_lenL (α := api_Node) (xs := p1) hF Tryd.runUnderlying22 rfl) fun a hF => ?_
          refine ls <| gy hF rfl rfl <| q1 hF rfl (e_gtr hF rfl rfl) fun a hF => ?_
          refine ls <| q1 hF rfl (e_as (v' := .bool ((decide ((p1.length : Int) = 0)) || (decide (40 < (p1.length : Int))))) (e_pickF hF rfl rfl) (by rw [hb]; rfl)) fun a hF => ?_
          exact key _ _ (hF.has ⟨rfl, rfl, rfl, trivial⟩) hS
        intro a w hF hS
        refine ls <| q1 hF rfl (e_as (e_move hF rfl) (congrArg Value.bool hb6)) fun a hF => ?_
        refine ls <| gy hF rfl rfl <| q1 hF rfl (e_move hF rfl) fun a hF => ?_
        refine ls <| gy hF rfl rfl <| q1 hF rfl (e_move hF rfl) fun a hF => ?_
        refine ls <| gy hF rfl rfl <| c1 hF rfl Tryd.call47 (slices_ContainsFunc_api_Node_api_Node__Right_1_c (hp_le _) (Tab.mono hT (St.up hS)) hc4 (St.srH hS hr5) h8) ⟨rfl, rfl, trivial⟩ (fun v w a hR hF => ?_)
        obtain ⟨rfl, hk⟩ := hR
        replace hS := hS.pass hk
        clear hk
        refine ls <| q1 hF rfl (e_pickF hF rfl rfl) fun a hF => ?_
        refine ls <| q1 hF rfl (e_as (e_move hF rfl) (congrArg Value.bool hb9)) fun a hF => ?_
        refine ls <| gn hF rfl rfl rfl rfl fun a hF => ?_
        refine ls <| gn hF rfl rfl rfl rfl fun a hF => ?_
        refine ls <| gn hF rfl rfl rfl rfl fun a hF => ?_
        refine ls <| gn hF rfl rfl rfl rfl fun a hF => ?_
        refine ls <| gn hF rfl rfl rfl rfl fun a hF => ?_
        refine ls <| q1 hF rfl (e_pickT hF rfl rfl) fun a hF => ?_
        refine re <| ?_
        refine tn <| ?_
        exact ⟨true, H, oa2, cap3, hm, (Ext.refl _ _), hF.has ⟨rfl, rfl, trivial⟩, hS, hc4, hr5⟩
      ·
        replace hm := ite_f hm hb9
        replace hm := bind_some hm
        obtain ⟨r10, h11, hm⟩ := hm
        refine rg <| ?_
        refine ls <| q1 hF rfl (e_move hF rfl) fun a hF => ?_
        refine ls <| q1 hF rfl (e_lenL (α := api_Node) (xs := p1) hF Tryd.runUnderlying22 rfl) fun a hF => ?_
        refine ls <| q1 hF rfl (e_eql hF rfl rfl) fun a hF => ?_
        refine ls <| q1 hF rfl (e_move hF rfl) fun a hF => ?_
        refine grp (N := 27) (Fk := [(0, .slice oa2 p1.length cap3), (3, .func (.func 45) #[] #[]), (11, .bool ((decide ((p1.length : Int) = 0)) || (decide (40 < (p1.length : Int)))))]) (b := (decide ((p1.length : Int) = 0))) 4 hS ?_ ?_ ?_
        ·
          intro hb key
          replace hF := Fr.as hF (t := 7) rfl (congrArg Value.bool hb)
          refine ls <| gn hF rfl rfl rfl rfl fun a hF => ?_
          refine ls <| gn hF rfl rfl rfl rfl fun a hF => ?_
          refine ls <| gn hF rfl rfl rfl rfl fun a hF => ?_
          refine ls <| q1 hF rfl (e_as (v' := .bool ((decide ((p1.length : Int) = 0)) || (decide (40 < (p1.length : Int))))) (e_pickT hF rfl rfl) (by rw [hb]; rfl)) fun a hF => ?_
          exact key _ _ (hF.has ⟨rfl, rfl, rfl, trivial⟩) hS
        ·
          intro hb key
          replace hF := Fr.as hF (t := 7) rfl (congrArg Value.bool hb)
          refine ls <| gy hF rfl rfl <| q1 hF rfl (e_move hF rfl) fun a hF => ?_
          refine ls <| gy hF rfl rfl <| q1 hF rfl (e_lenL (α := api_Node) (xs := p1) hF Tryd.runUnderlying22 rfl) fun a hF => ?_
          refine ls <| gy hF rfl rfl <| q1 hF rfl (e_gtr hF rfl rfl) fun a hF => ?_
          refine ls <| q1 hF rfl (e_as (v' := .bool ((decide ((p1.length : Int) = 0)) || (decide (40 < (p1.length : Int))))) (e_pickF hF rfl rfl) (by rw [hb]; rfl)) fun a hF => ?_
          exact key _ _ (hF.has ⟨rfl, rfl, rfl, trivial⟩) hS
        intro a w hF hS
        refine ls <| q1 hF rfl (e_as (e_move hF rfl) (congrArg Value.bool hb6)) fun a hF => ?_
        refine ls <| gy hF rfl rfl <| q1 hF rfl (e_move hF rfl) fun a hF => ?_
        refine ls <| gy hF rfl rfl <| q1 hF rfl (e_move hF rfl) fun a hF => ?_
        refine ls <| gy hF rfl rfl <| c1 hF rfl Tryd.call47 (slices_ContainsFunc_api_Node_api_Node__Right_1_c (hp_le _) (Tab.mono hT (St.up hS)) hc4 (St.srH hS hr5) h8) ⟨rfl, rfl, trivial⟩ (fun v w a hR hF => ?_)
        obtain ⟨rfl, hk⟩ := hR
        replace hS := hS.pass hk
        clear hk
        refine ls <| q1 hF rfl (e_pickF hF rfl rfl) fun a hF => ?_
        refine ls <| q1 hF rfl (e_as (e_move hF rfl) (congrArg Value.bool hb9)) fun a hF => ?_
        refine ls <| gy hF rfl rfl <| q1 hF rfl (e_move hF rfl) fun a hF => ?_
        refine ls <| gy hF rfl rfl <| c1 hF rfl Tryd.call48 (expr_End_c (hp_le _) hc4 (St.srH hS hr5) h11) ⟨rfl, rfl, trivial⟩ (fun v w a hR hF => ?_)
        obtain ⟨rfl, hk⟩ := hR
        replace hS := hS.pass hk
        clear hk
        refine ls <| gy hF rfl rfl <| q1 hF rfl (e_move hF rfl) fun a hF => ?_
        refine ls <| gy hF rfl rfl <| q1 hF rfl (e_lenL (α := api_Node) (xs := p1) hF Tryd.runUnderlying22 rfl) fun a hF => ?_
        refine ls <| gy hF rfl rfl <| q1 hF rfl (e_neq hF rfl rfl) fun a hF => ?_
        refine ls <| q1 hF rfl (e_pickF hF rfl rfl) fun a hF => ?_
        refine re <| ?_
        refine tn <| ?_
        exact ⟨(decide (r10 ≠ (p1.length : Int))), H, oa2, cap3, hm, (Ext.refl _ _), hF.has ⟨rfl, rfl, trivial⟩, hS, hc4, hr5⟩
  clear hm hF hS
  rintro a w ⟨vA6, HA1, oaA2, capA3, hm, hxHA1, hF, hS, hcA4, hrA5⟩
  unfold expr_Right_j1 at hm
  rcases bdich vA6 with hb12 | hb12
  ·
    replace hm := ite_t hm hb12
    refine ctv hF rfl hb12 <| th <| ?_
    refine rg <| ?_
    refine ls <| q1 hF rfl (e_asg hF rfl) fun a hF => ?_
    refine re <| ?_
    refine tn <| ?_
    refine wp_ret <| tr <| ?_
    obtain rfl := Option.some.inj hm
    exact r1 hF Tryd.results23 rfl ⟨rfl, hS.keep⟩
  ·
    replace hm := ite_f hm hb12
    refine cfv hF rfl hb12 <| wp_skip <| ?_
    refine tn <| th <| ?_
    replace hm := bind_some hm
    obtain ⟨r13, h14, hm⟩ := hm
    refine rg <| ?_
    refine ls <| q1 hF rfl (e_move hF rfl) fun a hF => ?_
    refine ls <| c1 hF rfl Tryd.call49 (expr_depth_c _ (hp_le _) hcA4 (St.srH hS hrA5) h14) ⟨rfl, rfl, trivial⟩ (fun v w a hR hF => ?_)
    obtain ⟨rfl, hk⟩ := hR
    replace hS := hS.pass hk
    clear hk
    refine ls <| q1 hF rfl (e_leq hF rfl rfl) fun a hF => ?_
    refine ls <| q1 hF rfl (e_asg hF rfl) fun a hF => ?_
    refine re <| ?_
    refine tn <| ?_
    refine wp_ret <| ?_
    obtain rfl := Option.some.inj hm
    exact r1 hF Tryd.results23 rfl ⟨rfl, hS.keep⟩

set_option maxRecDepth 100000 in
theorem slices_Index_string_string_c {N : Nat} {w0 : World} {H : PH} (hH : H.le w0) {oa2 : Option Addr} {cap3 : Nat} {p1 : (List Str)} (hc4 : p1.length ≤ cap3) (hr5 : SR H oa2 p1) {p6 : Str} {r : Int} (hm : slices_Index_string_string N p1 p6 = some r) : Tot Tryd.prog 50 #[.slice oa2 p1.length cap3, strv p6] w0 (fun v w' => v = .int .i64 r ∧ Keep Nil w0 w') := by
  unfold slices_Index_string_string at hm
  refine fn0 (args := [.slice oa2 p1.length cap3, strv p6]) (F := [(0, .slice oa2 p1.length cap3), (1, strv p6)]) Tryd.func50 rfl Tryd.ntmps50 rfl rfl fun a hF => ?_
  have hS : St w0 Nil [H] [] w0 := start1 hH
  refine th <| ?_
  refine rg <| ?_
  refine ls <| q1 hF rfl (e_asg hF rfl) fun a hF => ?_
  refine re <| ?_
  refine tn <| th <| th <| ?_
  refine rg <| ?_
  refine ls <| q1 hF rfl (e_move hF rfl) fun a hF => ?_
  refine ls <| q1 hF rfl (e_lenL (α := Str) (xs := p1) hF Tryd.runUnderlying23 rfl) fun a hF => ?_
  refine ls <| q1 hF rfl (e_move hF rfl) fun a hF => ?_
  refine re <| ?_
  refine tn <| midK (fun a w => ∃ (HA1 : PH), slices_Index_string_string_j1 = some r ∧ Ext w0 H HA1 ∧ Fr 19 [] a ∧ St w0 Nil [HA1] [] w) ?_ ?_
  ·
    refine wp_block <| lp (α := Nat × Int) (fun (gh : Nat × Int) a w => match gh with | (nn2, vB6) => ∃ (HB1 : PH) (oaB2 : Option Addr) (capB3 : Nat), (slices_Index_string_string_l2 N slices_Index_string_string_j1 p1 p6) nn2 vB6 = some r ∧ Ext w0 H HB1 ∧ Fr 19 [(0, .slice oaB2 p1.length capB3), (1, strv p6), (7, .int .i64 (p1.length : Int)), (8, .int .i64 vB6)] a ∧ St w0 Nil [HB1] [] w ∧ p1.length ≤ capB3 ∧ SR HB1 oaB2 p1) (fun gh => gh.1) (N, 0) ⟨H, oa2, cap3, hm, (Ext.refl _ _), hF.has ⟨rfl, rfl, rfl, rfl, trivial⟩, hS, hc4, hr5⟩ ?_
    clear hm hF hS
    rintro ⟨nn2, vB6⟩ a w ⟨HB1, oaB2, capB3, hm, hxHB1, hF, hS, hcB4, hrB5⟩
    obtain _ | nn2 := nn2
    · simp [slices_Index_string_string_l2] at hm
    rw [slices_Index_string_string_l2] at hm
    refine th <| ?_
    refine rg <| ?_
    refine ls <| q1 hF rfl (e_lss hF rfl rfl) fun a hF => ?_
    refine re <| ?_
    rcases bdich (decide (vB6 < (p1.length : Int))) with hb7 | hb7
    ·
      replace hm := itp_t hm hb7
      refine tn <| th <| ctv hF rfl hb7 <| wp_skip <| ?_
      refine tn <| th <| wp_block <| th <| ?_
      refine rg <| ?_
      refine ls <| q1 hF rfl (e_move hF rfl) fun a hF => ?_
      refine ls <| q1 hF rfl (e_asg hF rfl) fun a hF => ?_
      refine re <| ?_
      refine tn <| th <| ?_
      replace hm := bind_some hm
      obtain ⟨x8, h9, hm⟩ := hm
      obtain ⟨c10, g11, hl12⟩ := SR.get hrB5 h9
      obtain rfl : c10 = [strv x8] := g11
      refine rg <| ?_
      refine ls <| q1 hF rfl (e_move hF rfl) fun a hF => ?_
      refine ls <| q1 hF rfl (e_move hF rfl) fun a hF => ?_
      refine ls <| q1 hF rfl (e_move hF rfl) fun a hF => ?_
      refine ls <| q1 hF rfl (e_iaI hF Tryd.runUnderlying23 Tryd.sizeOf9 rfl rfl h9 (SR.oaI hrB5 (by decide) h9)) fun a hF => ?_
      refine ls <| q1 hF rfl (e_ld hF Tryd.isAgg9 rfl (PH.le.cell (Lds.le (St.ld hS)) (hl12 0 _ rfl))) fun a hF => ?_
      refine ls <| q1 hF rfl (e_eqlU (m := p6) (n := x8) hF rfl rfl) fun a hF => ?_
      refine re <| ?_
      rcases bdich (decide (p6 = x8)) with hb13 | hb13
      ·
        replace hm := itp_t hm hb13
        refine tn <| ctv hF rfl hb13 <| th <| ?_
        refine rg <| ?_
        refine ls <| q1 hF rfl (e_move hF rfl) fun a hF => ?_
        refine ls <| q1 hF rfl (e_asg hF rfl) fun a hF => ?_
        refine re <| ?_
        refine tn <| ?_
        refine wp_ret <| br <| tr <| tr <| br <| tr <| ?_
        obtain rfl := Option.some.inj hm
        exact r1 hF Tryd.results50 rfl ⟨rfl, hS.keep⟩
      ·
        replace hm := itp_f hm hb13
        refine tn <| cfv hF rfl hb13 <| wp_skip <| ?_
        refine bn <| tn <| ?_
        refine rg <| ?_
        refine ls <| q1 hF rfl (e_add hF rfl rfl) fun a hF => ?_
        refine ls <| q1 hF rfl (e_move hF rfl) fun a hF => ?_
        refine re <| ?_
        refine tn <| ?_
        exact ⟨(nn2, (IntKind.i64.wrap (vB6 + 1))), ⟨HB1, oaB2, capB3, hm, hxHB1, hF.has ⟨rfl, rfl, rfl, rfl, trivial⟩, hS, hcB4, hrB5⟩, Nat.lt_succ_self _⟩
    ·
      replace hm := itp_f hm hb7
      refine tn <| th <| cfv hF rfl hb7 <| ?_
      refine wp_exit <| tx <| tx <| bx <| ?_
      refine tn <| ?_
      exact ⟨HB1, hm, hxHB1, hF.has trivial, hS⟩
  clear hm hF hS
  rintro a w ⟨HA1, hm, hxHA1, hF, hS⟩
  unfold slices_Index_string_string_j1 at hm
  refine th <| ?_
  refine rg <| ?_
  refine ls <| q1 hF rfl (e_asg hF rfl) fun a hF => ?_
  refine re <| ?_
  refine tn <| ?_
  refine wp_ret <| ?_
  obtain rfl := Option.some.inj hm
  exact r1 hF Tryd.results50 rfl ⟨rfl, hS.keep⟩

set_option maxRecDepth 100000 in
theorem slices_Contains_string_string_c {N : Nat} {w0 : World} {H : PH} (hH : H.le w0) {oa2 : Option Addr} {cap3 : Nat} {p1 : (List Str)} (hc4 : p1.length ≤ cap3) (hr5 : SR H oa2 p1) {p6 : Str} {r : Bool} (hm : slices_Contains_string_string N p1 p6 = some r) : Tot Tryd.prog 25 #[.slice oa2 p1.length cap3, strv p6] w0 (fun v w' => v = .bool r ∧ Keep Nil w0 w') := by
  unfold slices_Contains_string_string at hm
  refine fn0 (args := [.slice oa2 p1.length cap3, strv p6]) (F := [(0, .slice oa2 p1.length cap3), (1, strv p6)]) Tryd.func25 rfl Tryd.ntmps25 rfl rfl fun a hF => ?_
  have hS : St w0 Nil [H] [] w0 := start1 hH
  refine th <| ?_
  refine rg <| ?_
  refine ls <| q1 hF rfl (e_asg hF rfl) fun a hF => ?_
  refine re <| ?_
  refine tn <| th <| ?_
  replace hm := bind_some hm
  obtain ⟨r7, h8, hm⟩ := hm
  refine rg <| ?_
  refine ls <| q1 hF rfl (e_move hF rfl) fun a hF => ?_
  refine ls <| q1 hF rfl (e_move hF rfl) fun a hF => ?_
  refine ls <| c1 hF rfl Tryd.call50 (slices_Index_string_string_c (hp_le _) hc4 (St.srH hS hr5) h8) ⟨rfl, rfl, trivial⟩ (fun v w a hR hF => ?_)
  obtain ⟨rfl, hk⟩ := hR
  replace hS := hS.pass hk
  clear hk
  refine ls <| q1 hF rfl (e_geq hF rfl rfl) fun a hF => ?_
  refine ls <| q1 hF rfl (e_asg hF rfl) fun a hF => ?_
  refine re <| ?_
  refine tn <| ?_
  refine wp_ret <| ?_
  obtain rfl := Option.some.inj hm
  exact r1 hF Tryd.results25 rfl ⟨rfl, hS.keep⟩

set_option maxRecDepth 100000 in
theorem expr_Names_c {N : Nat} {w0 : World} {H : PH} (hH : H.le w0) (hT : Tab H) {oa2 : Option Addr} {cap3 : Nat} {p1 : (List api_Node)} (hc4 : p1.length ≤ cap3) (hr5 : SR H oa2 p1) {r : (List Str)} (hm : expr_Names N p1 = some r) : Tot Tryd.prog 27 #[.slice oa2 p1.length cap3] w0 (fun v w' => ∃ (oa0 : Option Addr) (cap0 : Nat) (vs0 : List Value), v = .slice oa0 r.length cap0 ∧ (∀ h, Rows h vs0 r) ∧ Fresh w0 (sla 9 1 oa0 r.length cap0 vs0) w') := by
  unfold expr_Names at hm
  refine fn0 (args := [.slice oa2 p1.length cap3]) (F := [(0, .slice oa2 p1.length cap3)]) Tryd.func27 rfl Tryd.ntmps27 rfl rfl fun a hF => ?_
  have hS : St w0 Nil [H] [] w0 := start1 hH
  refine th <| ?_
  refine rg <| ?_
  refine ls <| q1 hF rfl (e_asg hF rfl) fun a hF => ?_
  refine re <| ?_
  refine tn <| th <| th <| ?_
  replace hm := bind_some hm
  obtain ⟨r6, h7, hm⟩ := hm
  refine rg <| ?_
  refine ls <| q1 hF rfl (e_move hF rfl) fun a hF => ?_
  refine ls <| c1 hF rfl Tryd.call23 (expr_Right_c (hp_le _) (Tab.mono hT (St.up hS)) hc4 (St.srH hS hr5) h7) ⟨rfl, trivial⟩ (fun v w a hR hF => ?_)
  obtain ⟨rfl, hk⟩ := hR
  replace hS := hS.pass hk
  clear hk
  refine ls <| q1 hF rfl (e_not hF rfl) fun a hF => ?_
  refine re <| ?_
  rcases bdich r6 with hb8 | hb8
  ·
    replace hm := ite_t hm hb8
    refine tn <| cfv hF rfl (by rw [hb8]; rfl) <| wp_skip <| ?_
    refine tn <| th <| ?_
    refine rg <| ?_
    refine ls <| q1 hF rfl (e_asg hF rfl) fun a hF => ?_
    refine re <| ?_
    refine tn <| th <| th <| ?_
    refine rg <| ?_
    refine ls <| q1 hF rfl (e_move hF rfl) fun a hF => ?_
    refine ls <| q1 hF rfl (e_lenL (α := api_Node) (xs := p1) hF Tryd.runUnderlying22 rfl) fun a hF => ?_
    refine ls <| q1 hF rfl (e_move hF rfl) fun a hF => ?_
    refine re <| ?_
    refine tn <| midK (fun a w => ∃ (vA2 : (List Str)) (HA1 : PH) (oaA3 : Option Addr) (capA4 : Nat) (vsA5 : List Value), expr_Names_j1 vA2 = some r ∧ Ext w0 H HA1 ∧ Fr 32 [(3, .slice oaA3 vA2.length capA4)] a ∧ St w0 Nil [HA1] [sla 9 1 oaA3 vA2.length capA4 vsA5] w ∧ Rows HA1 vsA5 vA2) ?_ ?_
    ·
      replace hS := St.nilS hS 9 1
      refine wp_block <| lp (α := Nat × (List Str) × Int) (fun (gh : Nat × (List Str) × Int) a w => match gh with | (nn2, vB2, vB12) => ∃ (HB1 : PH) (oaB3 : Option Addr) (capB4 : Nat) (vsB5 : List Value) (oaB8 : Option Addr) (capB9 : Nat), (expr_Names_l2 N expr_Names_j1 p1) nn2 vB2 vB12 = some r ∧ Ext w0 H HB1 ∧ Fr 32 [(3, .slice oaB3 vB2.length capB4), (9, .slice oaB8 p1.length capB9), (10, .int .i64 (p1.length : Int)), (11, .int .i64 vB12)] a ∧ St w0 Nil [HB1] [sla 9 1 oaB3 vB2.length capB4 vsB5] w ∧ Rows HB1 vsB5 vB2 ∧ p1.length ≤ capB9 ∧ SR HB1 oaB8 p1) (fun gh => gh.1) (N, [], 0) ⟨H, none, 0, [], oa2, cap3, hm, (Ext.refl _ _), hF.has ⟨rfl, rfl, rfl, rfl, trivial⟩, hS, .nil, hc4, hr5⟩ ?_
      clear hm hF hS
      rintro ⟨nn2, vB2, vB12⟩ a w ⟨HB1, oaB3, capB4, vsB5, oaB8, capB9, hm, hxHB1, hF, hS, hvB6, hcB10, hrB11⟩
      obtain _ | nn2 := nn2
      · simp [expr_Names_l2] at hm
      rw [expr_Names_l2] at hm
      refine th <| ?_
      refine rg <| ?_
      refine ls <| q1 hF rfl (e_lss hF rfl rfl) fun a hF => ?_
      refine re <| ?_
      rcases bdich (decide (vB12 < (p1.length : Int))) with hb9 | hb9
      ·
        replace hm := itp_t hm hb9
        refine tn <| th <| ctv hF rfl hb9 <| wp_skip <| ?_
        refine tn <| th <| midK (fun a w => ∃ (vC1 : (List Str)) (oaC2 : Option Addr) (capC3 : Nat) (vsC4 : List Value), (expr_Names_j3 (expr_Names_l2 N expr_Names_j1 p1 nn2) vB12) vC1 = some r ∧ Fr 32 [(3, .slice oaC2 vC1.length capC3), (9, .slice oaB8 p1.length capB9), (10, .int .i64 (p1.length : Int)), (11, .int .i64 vB12)] a ∧ St w0 Nil [HB1] [sla 9 1 oaC2 vC1.length capC3 vsC4] w ∧ Rows HB1 vsC4 vC1) ?_ ?_
        ·
          refine wp_block <| th <| ?_
          replace hm := bind_some hm
          obtain ⟨x10, h11, hm⟩ := hm
          obtain ⟨c12, g13, hl14⟩ := SR.get hrB11 h11
          obtain rfl := api_Node_open g13
          refine rg <| ?_
          refine ls <| q1 hF rfl (e_iaI hF Tryd.runUnderlying22 Tryd.sizeOf39 rfl rfl h11 (SR.oaI hrB11 (by decide) h11)) fun a hF => ?_
          refine ls <| q1 hF rfl (e_ldA hF Tryd.isAgg39 Tryd.sizeOf39 rfl rfl (fun j v hj => PH.le.cell (Lds.le (St.ld hS)) (hl14 j v hj))) fun a hF => ?_
          refine ls <| a_alloc (cs := [.int .i64 0, .int .i64 0, strv [], .int .i64 0].toArray) hF rfl hS Tryd.zeroValue39 rfl fun b15 w a hS hF => ?_
          refine ls <| s_blkA hF hS Tryd.sizeOf39 rfl rfl rfl rfl (one_cells rfl) .head fun w hS => ?_
          refine re <| ?_
          refine tn <| th <| midK (fun a w => ∃ (vD1 : Bool), (expr_Names_j4 (expr_Names_j3 (expr_Names_l2 N expr_Names_j1 p1 nn2) vB12) x10 vB2) vD1 = some r ∧ Fr 32 [(3, .slice oaB3 vB2.length capB4), (5, .pointer (some ⟨b15, 0, none⟩)), (9, .slice oaB8 p1.length capB9), (10, .int .i64 (p1.length : Int)), (11, .int .i64 vB12), (24, .bool vD1)] a ∧ St w0 Nil [HB1] [sla 9 1 oaB3 vB2.length capB4 vsB5, blk b15 (.cells [.int .i64 x10.Op, .int .i64 x10.N, strv x10.Name, .int .i64 x10.At].toArray 39 (0, 0))] w) ?_ ?_
          ·
            rcases bdich (decide (x10.Op = 2)) with hb16 | hb16
            ·
              replace hm := itp_t hm hb16
              replace hm := bind_some hm
              obtain ⟨r17, h18, hm⟩ := hm
              refine rg <| ?_
              refine ls <| q1 hF rfl (e_fa hF fa39_0 rfl) fun a hF => ?_
              refine ls <| q1 hF rfl (e_ld hF Tryd.isAgg3 rfl ((St.ld hS).cellB (.head _) rfl)) fun a hF => ?_
              refine ls <| q1 hF rfl (e_eql hF rfl rfl) fun a hF => ?_
              refine ls <| q1 hF rfl (e_as (e_move hF rfl) (congrArg Value.bool hb16)) fun a hF => ?_
              refine ls <| gy hF rfl rfl <| q1 hF rfl (e_move hF rfl) fun a hF => ?_
              refine ls <| gy hF rfl rfl <| q1 hF rfl (e_fa hF fa39_2 rfl) fun a hF => ?_
              refine ls <| gy hF rfl rfl <| q1 hF rfl (e_ld hF Tryd.isAgg9 rfl ((St.ld hS).cellB (.head _) rfl)) fun a hF => ?_
              refine ls <| gy hF rfl rfl <| c1 hF rfl Tryd.call25 (slices_Contains_string_string_c (hp_le _) (St.capO hS (.tail _ (.head _))) (St.srO hS (.tail _ (.head _)) hvB6) h18) ⟨rfl, rfl, trivial⟩ (fun v w a hR hF => ?_)
              obtain ⟨rfl, hk⟩ := hR
              replace hS := hS.pass hk
              clear hk
              refine ls <| gy hF rfl rfl <| q1 hF rfl (e_not hF rfl) fun a hF => ?_
              refine ls <| q1 hF rfl (e_pickT hF rfl rfl) fun a hF => ?_
              refine re <| ?_
              refine tn <| ?_
              replace hS := hS.pickL (.cons (.tail .head) (.cons .head .nil))
              exact ⟨(!r17), hm, hF.has ⟨rfl, rfl, rfl, rfl, rfl, rfl, trivial⟩, hS⟩
            ·
              replace hm := itp_f hm hb16
              refine rg <| ?_
              refine ls <| q1 hF rfl (e_fa hF fa39_0 rfl) fun a hF => ?_
              refine ls <| q1 hF rfl (e_ld hF Tryd.isAgg3 rfl ((St.ld hS).cellB (.head _) rfl)) fun a hF => ?_
              refine ls <| q1 hF rfl (e_eql hF rfl rfl) fun a hF => ?_
              refine ls <| q1 hF rfl (e_as (e_move hF rfl) (congrArg Value.bool hb16)) fun a hF => ?_
              refine ls <| gn hF rfl rfl rfl rfl fun a hF => ?_
              refine ls <| gn hF rfl rfl rfl rfl fun a hF => ?_
              refine ls <| gn hF rfl rfl rfl rfl fun a hF => ?_
              refine ls <| gn hF rfl rfl rfl rfl fun a hF => ?_
              refine ls <| gn hF rfl rfl rfl rfl fun a hF => ?_
              refine ls <| q1 hF rfl (e_pickF hF rfl rfl) fun a hF => ?_
              refine re <| ?_
              refine tn <| ?_
              replace hS := hS.pickL (.cons (.tail .head) (.cons .head .nil))
              exact ⟨false, hm, hF.has ⟨rfl, rfl, rfl, rfl, rfl, rfl, trivial⟩, hS⟩
          clear hm hF hS
          rintro a w ⟨vD1, hm, hF, hS⟩
          unfold expr_Names_j4 at hm
          rcases bdich vD1 with hb19 | hb19
          ·
            replace hm := ite_t hm hb19
            refine ctv hF rfl hb19 <| ?_
            replace hm := bind_some hm
            obtain ⟨l23, h24, hm⟩ := hm
            refine rg <| ?_
            refine ls <| q1 hF rfl (e_move hF rfl) fun a hF => ?_
            refine ls <| q1 hF rfl (e_fa hF fa39_2 rfl) fun a hF => ?_
            refine ls <| q1 hF rfl (e_ld hF Tryd.isAgg9 rfl ((St.ld hS).cellB (.tail _ (.head _)) rfl)) fun a hF => ?_
            refine ls <| a_bsl (e := 9) (sz := 1) [strv x10.Name] hF rfl hS rfl rfl rfl (fun w => by kernel_rfl) fun b21 w a hS hF => ?_
            have hv20 : Rows (α := Str) HB1 [strv x10.Name] ([x10.Name] : List Str) := (.cons (c := [strv x10.Name]) rfl .nil)
            refine ls <| m_app (α := Str) (xs := vB2) (ys := ([x10.Name] : List Str)) hF rfl hS Tryd.underlying23 info9 rfl (by decide) rfl rfl rfl (.tail _ (.head _)) hvB6 (hS.rdO (.head _)) hv20 h24 fun oa25 cap26 vs27 w a hv28 hU hF => ?_
            replace hS := hU _ (.tail .head)
            clear hU
            replace hS := hS.drop .head
            refine ls <| q1 hF rfl (e_asg hF rfl) fun a hF => ?_
            refine re <| ?_
            refine bn <| tn <| ?_
            replace hS := hS.pickL (.cons .head .nil)
            exact ⟨l23, oa25, cap26, vs27, hm, hF.has ⟨rfl, rfl, rfl, rfl, trivial⟩, hS, hv28⟩
          ·
            replace hm := ite_f hm hb19
            refine cfv hF rfl hb19 <| wp_skip <| ?_
            refine bn <| tn <| ?_
            replace hS := hS.pickL (.cons .head .nil)
            exact ⟨vB2, oaB3, capB4, vsB5, hm, hF.has ⟨rfl, rfl, rfl, rfl, trivial⟩, hS, hvB6⟩
        clear hm hF hS
        rintro a w ⟨vC1, oaC2, capC3, vsC4, hm, hF, hS, hvC5⟩
        unfold expr_Names_j3 at hm
        refine rg <| ?_
        refine ls <| q1 hF rfl (e_add hF rfl rfl) fun a hF => ?_
        refine ls <| q1 hF rfl (e_move hF rfl) fun a hF => ?_
        refine re <| ?_
        refine tn <| ?_
        exact ⟨(nn2, vC1, (IntKind.i64.wrap (vB12 + 1))), ⟨HB1, oaC2, capC3, vsC4, oaB8, capB9, hm, hxHB1, hF.has ⟨rfl, rfl, rfl, rfl, trivial⟩, hS, hvC5, hcB10, hrB11⟩, Nat.lt_succ_self _⟩
      ·
        replace hm := itp_f hm hb9
        refine tn <| th <| cfv hF rfl hb9 <| ?_
        refine wp_exit <| tx <| tx <| bx <| ?_
        refine tn <| ?_
        exact ⟨vB2, HB1, oaB3, capB4, vsB5, hm, hxHB1, hF.has ⟨rfl, trivial⟩, hS, hvB6⟩
    clear hm hF hS
    rintro a w ⟨vA2, HA1, oaA3, capA4, vsA5, hm, hxHA1, hF, hS, hvA6⟩
    unfold expr_Names_j1 at hm
    refine th <| ?_
    refine rg <| ?_
    refine ls <| q1 hF rfl (e_move hF rfl) fun a hF => ?_
    refine ls <| q1 hF rfl (e_asg hF rfl) fun a hF => ?_
    refine re <| ?_
    refine tn <| ?_
    refine wp_ret <| ?_
    obtain rfl := Option.some.inj hm
    exact r1 hF Tryd.results27 rfl ⟨_, _, _, rfl, (fun _ => Rows.ind hvA6), hS.endFresh (.head _)⟩
  ·
    replace hm := ite_f hm hb8
    refine tn <| ctv hF rfl (by rw [hb8]; rfl) <| th <| ?_
    refine rg <| ?_
    refine ls <| q1 hF rfl (e_asg hF rfl) fun a hF => ?_
    refine re <| ?_
    refine tn <| ?_
    refine wp_ret <| tr <| ?_
    replace hS := St.nilS hS 9 1
    obtain rfl := Option.some.inj hm
    exact r1 hF Tryd.results27 rfl ⟨_, _, _, rfl, (fun _ => .nil), hS.endFresh (.head _)⟩

set_option maxRecDepth 100000 in
theorem code_Make_1_c {N : Nat} {w0 : World} {H : PH} (hH : H.le w0) {p1 : Str} {oa4 : Option Addr} {cap5 : Nat} {y3 : (List Str)} (hc6 : y3.length ≤ cap5) (hr7 : SR H oa4 y3) {b2 : Nat} (hb8 : H b2 = some (.cells [.slice oa4 y3.length cap5].toArray 23 (0, 0))) {r : Bool} (hm : code_Make_1 N p1 y3 = some r) : Tot Tryd.prog 24 #[strv p1, .pointer (some ⟨b2, 0, none⟩)] w0 (fun v w' => v = .bool r ∧ Keep Nil w0 w') := by
  unfold code_Make_1 at hm
  refine fn0 (args := [strv p1, .pointer (some ⟨b2, 0, none⟩)]) (F := [(0, strv p1), (1, .pointer (some ⟨b2, 0, none⟩))]) Tryd.func24 rfl Tryd.ntmps24 rfl rfl fun a hF => ?_
  have hS : St w0 Nil [H] [] w0 := start1 hH
  refine th <| ?_
  refine rg <| ?_
  refine ls <| q1 hF rfl (e_asg hF rfl) fun a hF => ?_
  refine re <| ?_
  refine tn <| th <| ?_
  replace hm := bind_some hm
  obtain ⟨r9, h10, hm⟩ := hm
  refine rg <| ?_
  refine ls <| q1 hF rfl (e_ld hF Tryd.isAgg23 rfl (PH.le.cell (Lds.le (St.ld hS)) (ph_cell hb8 rfl))) fun a hF => ?_
  refine ls <| q1 hF rfl (e_move hF rfl) fun a hF => ?_
  refine ls <| c1 hF rfl Tryd.call25 (slices_Contains_string_string_c (hp_le _) hc6 (St.srH hS hr7) h10) ⟨rfl, rfl, trivial⟩ (fun v w a hR hF => ?_)
  obtain ⟨rfl, hk⟩ := hR
  replace hS := hS.pass hk
  clear hk
  refine ls <| q1 hF rfl (e_not hF rfl) fun a hF => ?_
  refine ls <| q1 hF rfl (e_asg hF rfl) fun a hF => ?_
  refine re <| ?_
  refine tn <| ?_
  refine wp_ret <| ?_
  obtain rfl := Option.some.inj hm
  exact r1 hF Tryd.results24 rfl ⟨rfl, hS.keep⟩

set_option maxRecDepth 100000 in
theorem slices_IndexFunc_string_string__Make_1_c {N : Nat} {w0 : World} {H : PH} (hH : H.le w0) {oa2 : Option Addr} {cap3 : Nat} {p1 : (List Str)} (hc4 : p1.length ≤ cap3) (hr5 : SR H oa2 p1) {oa8 : Option Addr} {cap9 : Nat} {y7 : (List Str)} (hc10 : y7.length ≤ cap9) (hr11 : SR H oa8 y7) {b6 : Nat} (hb12 : H b6 = some (.cells [.slice oa8 y7.length cap9].toArray 23 (0, 0))) {r : Int} (hm : slices_IndexFunc_string_string__Make_1 N p1 y7 = some r) : Tot Tryd.prog 51 #[.slice oa2 p1.length cap3, .func (.func 24) #[] #[.pointer (some ⟨b6, 0, none⟩)]] w0 (fun v w' => v = .int .i64 r ∧ Keep Nil w0 w') := by
  unfold slices_IndexFunc_string_string__Make_1 at hm
  refine fn0 (args := [.slice oa2 p1.length cap3, .func (.func 24) #[] #[.pointer (some ⟨b6, 0, none⟩)]]) (F := [(0, .slice oa2 p1.length cap3), (1, .func (.func 24) #[] #[.pointer (some ⟨b6, 0, none⟩)])]) Tryd.func51 rfl Tryd.ntmps51 rfl rfl fun a hF => ?_
  have hS : St w0 Nil [H] [] w0 := start1 hH
  refine th <| ?_
  refine rg <| ?_
  refine ls <| q1 hF rfl (e_asg hF rfl) fun a hF => ?_
  refine re <| ?_
  refine tn <| th <| th <| ?_
  refine rg <| ?_
  refine ls <| q1 hF rfl (e_move hF rfl) fun a hF => ?_
  refine ls <| q1 hF rfl (e_lenL (α := Str) (xs := p1) hF Tryd.runUnderlying23 rfl) fun a hF => ?_
  refine ls <| q1 hF rfl (e_move hF rfl) fun a hF => ?_
  refine re <| ?_
  refine tn <| midK (fun a w => ∃ (HA1 : PH), slices_IndexFunc_string_string__Make_1_j1 = some r ∧ Ext w0 H HA1 ∧ Fr 19 [] a ∧ St w0 Nil [HA1] [] w) ?_ ?_
  ·
    refine wp_block <| lp (α := Nat × Int) (fun (gh : Nat × Int) a w => match gh with | (nn2, vB6) => ∃ (HB1 : PH) (oaB2 : Option Addr) (capB3 : Nat), (slices_IndexFunc_string_string__Make_1_l2 N slices_IndexFunc_string_string__Make_1_j1 p1 y7) nn2 vB6 = some r ∧ Ext w0 H HB1 ∧ Fr 19 [(0, .slice oaB2 p1.length capB3), (1, .func (.func 24) #[] #[.pointer (some ⟨b6, 0, none⟩)]), (7, .int .i64 (p1.length : Int)), (8, .int .i64 vB6)] a ∧ St w0 Nil [HB1] [] w ∧ p1.length ≤ capB3 ∧ SR HB1 oaB2 p1) (fun gh => gh.1) (N, 0) ⟨H, oa2, cap3, hm, (Ext.refl _ _), hF.has ⟨rfl, rfl, rfl, rfl, trivial⟩, hS, hc4, hr5⟩ ?_
    clear hm hF hS
    rintro ⟨nn2, vB6⟩ a w ⟨HB1, oaB2, capB3, hm, hxHB1, hF, hS, hcB4, hrB5⟩
    obtain _ | nn2 := nn2
    · simp [slices_IndexFunc_string_string__Make_1_l2] at hm
    rw [slices_IndexFunc_string_string__Make_1_l2] at hm
    refine th <| ?_
    refine rg <| ?_
    refine ls <| q1 hF rfl (e_lss hF rfl rfl) fun a hF => ?_
    refine re <| ?_
    rcases bdich (decide (vB6 < (p1.length : Int))) with hb13 | hb13
    ·
      replace hm := itp_t hm hb13
      refine tn <| th <| ctv hF rfl hb13 <| wp_skip <| ?_
      refine tn <| th <| wp_block <| th <| ?_
      refine rg <| ?_
      refine ls <| q1 hF rfl (e_move hF rfl) fun a hF => ?_
      refine ls <| q1 hF rfl (e_asg hF rfl) fun a hF => ?_
      refine re <| ?_
      refine tn <| th <| ?_
      replace hm := bind_some hm
      obtain ⟨x14, h15, hm⟩ := hm
      obtain ⟨c16, g17, hl18⟩ := SR.get hrB5 h15
      obtain rfl : c16 = [strv x14] := g17
      replace hm := bind_some hm
      obtain ⟨r19, h20, hm⟩ := hm
      refine rg <| ?_
      refine ls <| q1 hF rfl (e_move hF rfl) fun a hF => ?_
      refine ls <| q1 hF rfl (e_move hF rfl) fun a hF => ?_
      refine ls <| q1 hF rfl (e_move hF rfl) fun a hF => ?_
      refine ls <| q1 hF rfl (e_iaI hF Tryd.runUnderlying23 Tryd.sizeOf9 rfl rfl h15 (SR.oaI hrB5 (by decide) h15)) fun a hF => ?_
      refine ls <| q1 hF rfl (e_ld hF Tryd.isAgg9 rfl (PH.le.cell (Lds.le (St.ld hS)) (hl18 0 _ rfl))) fun a hF => ?_
      refine ls <| k1 (vs := [strv x14]) (caps := [.pointer (some ⟨b6, 0, none⟩)]) hF rfl rfl Tryd.call24 (code_Make_1_c (hp_le _) hc10 (St.srH hS (hr11.mono hxHB1.sub)) (St.up hS _ _ (hxHB1.sub _ _ hb12)) h20) ⟨rfl, trivial⟩ rfl (fun v w a hR hF => ?_)
      obtain ⟨rfl, hk⟩ := hR
      replace hS := hS.pass hk
      clear hk
      refine re <| ?_
      rcases bdich r19 with hb21 | hb21
      ·
        replace hm := ite_t hm hb21
        refine tn <| ctv hF rfl hb21 <| th <| ?_
        refine rg <| ?_
        refine ls <| q1 hF rfl (e_move hF rfl) fun a hF => ?_
        refine ls <| q1 hF rfl (e_asg hF rfl) fun a hF => ?_
        refine re <| ?_
        refine tn <| ?_
        refine wp_ret <| br <| tr <| tr <| br <| tr <| ?_
        obtain rfl := Option.some.inj hm
        exact r1 hF Tryd.results51 rfl ⟨rfl, hS.keep⟩
      ·
        replace hm := ite_f hm hb21
        refine tn <| cfv hF rfl hb21 <| wp_skip <| ?_
        refine bn <| tn <| ?_
        refine rg <| ?_
        refine ls <| q1 hF rfl (e_add hF rfl rfl) fun a hF => ?_
        refine ls <| q1 hF rfl (e_move hF rfl) fun a hF => ?_
        refine re <| ?_
        refine tn <| ?_
        exact ⟨(nn2, (IntKind.i64.wrap (vB6 + 1))), ⟨HB1, oaB2, capB3, hm, hxHB1, hF.has ⟨rfl, rfl, rfl, rfl, trivial⟩, hS, hcB4, hrB5⟩, Nat.lt_succ_self _⟩
    ·
      replace hm := itp_f hm hb13
      refine tn <| th <| cfv hF rfl hb13 <| ?_
      refine wp_exit <| tx <| tx <| bx <| ?_
      refine tn <| ?_
      exact ⟨HB1, hm, hxHB1, hF.has trivial, hS⟩
  clear hm hF hS
  rintro a w ⟨HA1, hm, hxHA1, hF, hS⟩
  unfold slices_IndexFunc_string_string__Make_1_j1 at hm
  refine th <| ?_
  refine rg <| ?_
  refine ls <| q1 hF rfl (e_asg hF rfl) fun a hF => ?_
  refine re <| ?_
  refine tn <| ?_
  refine wp_ret <| ?_
  obtain rfl := Option.some.inj hm
  exact r1 hF Tryd.results51 rfl ⟨rfl, hS.keep⟩

set_option maxRecDepth 100000 in
theorem slices_ContainsFunc_string_string__Make_1_c {N : Nat} {w0 : World} {H : PH} (hH : H.le w0) {oa2 : Option Addr} {cap3 : Nat} {p1 : (List Str)} (hc4 : p1.length ≤ cap3) (hr5 : SR H oa2 p1) {oa8 : Option Addr} {cap9 : Nat} {y7 : (List Str)} (hc10 : y7.length ≤ cap9) (hr11 : SR H oa8 y7) {b6 : Nat} (hb12 : H b6 = some (.cells [.slice oa8 y7.length cap9].toArray 23 (0, 0))) {r : Bool} (hm : slices_ContainsFunc_string_string__Make_1 N p1 y7 = some r) : Tot Tryd.prog 26 #[.slice oa2 p1.length cap3, .func (.func 24) #[] #[.pointer (some ⟨b6, 0, none⟩)]] w0 (fun v w' => v = .bool r ∧ Keep Nil w0 w') := by
  unfold slices_ContainsFunc_string_string__Make_1 at hm
  refine fn0 (args := [.slice oa2 p1.length cap3, .func (.func 24) #[] #[.pointer (some ⟨b6, 0, none⟩)]]) (F := [(0, .slice oa2 p1.length cap3), (1, .func (.func 24) #[] #[.pointer (some ⟨b6, 0, none⟩)])]) Tryd.func26 rfl Tryd.ntmps26 rfl rfl fun a hF => ?_
  have hS : St w0 Nil [H] [] w0 := start1 hH
  refine th <| ?_
  refine rg <| ?_
  refine ls <| q1 hF rfl (e_asg hF rfl) fun a hF => ?_
  refine re <| ?_
  refine tn <| th <| ?_
  replace hm := bind_some hm
  obtain ⟨r13, h14, hm⟩ := hm
  refine rg <| ?_
  refine ls <| q1 hF rfl (e_move hF rfl) fun a hF => ?_
  refine ls <| q1 hF rfl (e_move hF rfl) fun a hF => ?_
  refine ls <| c1 hF rfl Tryd.call51 (slices_IndexFunc_string_string__Make_1_c (hp_le _) hc4 (St.srH hS hr5) hc10 (St.srH hS hr11) (St.up hS _ _ hb12) h14) ⟨rfl, rfl, trivial⟩ (fun v w a hR hF => ?_)
  obtain ⟨rfl, hk⟩ := hR
  replace hS := hS.pass hk
  clear hk
  refine ls <| q1 hF rfl (e_geq hF rfl rfl) fun a hF => ?_
  refine ls <| q1 hF rfl (e_asg hF rfl) fun a hF => ?_
  refine re <| ?_
  refine tn <| ?_
  refine wp_ret <| ?_
  obtain rfl := Option.some.inj hm
  exact r1 hF Tryd.results26 rfl ⟨rfl, hS.keep⟩

set_option maxRecDepth 100000 in
theorem code_wants_c {N : Nat} {w0 : World} {H : PH} (hH : H.le w0) {p1 : Int} {r : Int} (hm : code_wants N p1 = some r) : Tot Tryd.prog 34 #[.int .i64 p1] w0 (fun v w' => v = .int .i64 r ∧ Keep Nil w0 w') := by
  unfold code_wants at hm
  refine fn0 (args := [.int .i64 p1]) (F := [(0, .int .i64 p1)]) Tryd.func34 rfl Tryd.ntmps34 rfl rfl fun a hF => ?_
  have hS : St w0 Nil [H] [] w0 := start1 hH
  refine th <| ?_
  refine rg <| ?_
  refine ls <| q1 hF rfl (e_asg hF rfl) fun a hF => ?_
  refine re <| ?_
  refine tn <| th <| wp_block <| th <| ?_
  refine rg <| ?_
  refine ls <| q1 hF rfl (e_move hF rfl) fun a hF => ?_
  refine ls <| q1 hF rfl (e_eql hF rfl rfl) fun a hF => ?_
  refine ls <| q1 hF rfl (e_move hF rfl) fun a hF => ?_
  refine grp (N := 17) (Fk := [(0, .int .i64 p1), (9, .bool ((decide (p1 = 3)) || (decide (p1 = 4))))]) (b := (decide (p1 = 3))) 3 hS ?_ ?_ ?_
  ·
    intro hb key
    replace hF := Fr.as hF (t := 6) rfl (congrArg Value.bool hb)
    refine ls <| gn hF rfl rfl rfl rfl fun a hF => ?_
    refine ls <| gn hF rfl rfl rfl rfl fun a hF => ?_
    refine ls <| q1 hF rfl (e_as (v' := .bool ((decide (p1 = 3)) || (decide (p1 = 4)))) (e_pickT hF rfl rfl) (by rw [hb]; rfl)) fun a hF => ?_
    exact key _ _ (hF.has ⟨rfl, rfl, trivial⟩) hS
  ·
    intro hb key
    replace hF := Fr.as hF (t := 6) rfl (congrArg Value.bool hb)
    refine ls <| gy hF rfl rfl <| q1 hF rfl (e_move hF rfl) fun a hF => ?_
    refine ls <| gy hF rfl rfl <| q1 hF rfl (e_eql hF rfl rfl) fun a hF => ?_
    refine ls <| q1 hF rfl (e_as (v' := .bool ((decide (p1 = 3)) || (decide (p1 = 4)))) (e_pickF hF rfl rfl) (by rw [hb]; rfl)) fun a hF => ?_
    exact key _ _ (hF.has ⟨rfl, rfl, trivial⟩) hS
  intro a w hF hS
  refine ls <| q1 hF rfl (e_asg hF rfl) fun a hF => ?_
  refine re <| ?_
  rcases bdich ((decide (p1 = 3)) || (decide (p1 = 4))) with hb2 | hb2
  ·
    replace hm := ite_t hm hb2
    refine tn <| ctv hF rfl hb2 <| th <| ?_
    refine rg <| ?_
    refine ls <| q1 hF rfl (e_asg hF rfl) fun a hF => ?_
    refine re <| ?_
    refine tn <| ?_
    refine wp_ret <| br <| tr <| ?_
    obtain rfl := Option.some.inj hm
    exact r1 hF Tryd.results34 rfl ⟨rfl, hS.keep⟩
  ·
    replace hm := ite_f hm hb2
    refine tn <| cfv hF rfl hb2 <| th <| ?_
    refine rg <| ?_
    refine ls <| q1 hF rfl (e_move hF rfl) fun a hF => ?_
    refine ls <| q1 hF rfl (e_geq hF rfl rfl) fun a hF => ?_
    refine ls <| q1 hF rfl (e_move hF rfl) fun a hF => ?_
    refine grp (N := 17) (Fk := [(16, .bool ((decide (5 ≤ p1)) && (decide (p1 ≤ 15))))]) (b := (decide (5 ≤ p1))) 3 hS ?_ ?_ ?_
    ·
      intro hb key
      replace hF := Fr.as hF (t := 13) rfl (congrArg Value.bool hb)
      refine ls <| gy hF rfl rfl <| q1 hF rfl (e_move hF rfl) fun a hF => ?_
      refine ls <| gy hF rfl rfl <| q1 hF rfl (e_leq hF rfl rfl) fun a hF => ?_
      refine ls <| q1 hF rfl (e_as (v' := .bool ((decide (5 ≤ p1)) && (decide (p1 ≤ 15)))) (e_pickT hF rfl rfl) (by rw [hb]; rfl)) fun a hF => ?_
      exact key _ _ (hF.has ⟨rfl, trivial⟩) hS
    ·
      intro hb key
      replace hF := Fr.as hF (t := 13) rfl (congrArg Value.bool hb)
      refine ls <| gn hF rfl rfl rfl rfl fun a hF => ?_
      refine ls <| gn hF rfl rfl rfl rfl fun a hF => ?_
      refine ls <| q1 hF rfl (e_as (v' := .bool ((decide (5 ≤ p1)) && (decide (p1 ≤ 15)))) (e_pickF hF rfl rfl) (by rw [hb]; rfl)) fun a hF => ?_
      exact key _ _ (hF.has ⟨rfl, trivial⟩) hS
    intro a w hF hS
    refine ls <| q1 hF rfl (e_asg hF rfl) fun a hF => ?_
    refine re <| ?_
    rcases bdich ((decide (5 ≤ p1)) && (decide (p1 ≤ 15))) with hb3 | hb3
    ·
      replace hm := ite_t hm hb3
      refine tn <| ctv hF rfl hb3 <| th <| ?_
      refine rg <| ?_
      refine ls <| q1 hF rfl (e_asg hF rfl) fun a hF => ?_
      refine re <| ?_
      refine tn <| ?_
      refine wp_ret <| br <| tr <| ?_
      obtain rfl := Option.some.inj hm
      exact r1 hF Tryd.results34 rfl ⟨rfl, hS.keep⟩
    ·
      replace hm := ite_f hm hb3
      refine tn <| cfv hF rfl hb3 <| wp_skip <| ?_
      refine bn <| tn <| th <| ?_
      refine rg <| ?_
      refine ls <| q1 hF rfl (e_asg hF rfl) fun a hF => ?_
      refine re <| ?_
      refine tn <| ?_
      refine wp_ret <| ?_
      obtain rfl := Option.some.inj hm
      exact r1 hF Tryd.results34 rfl ⟨rfl, hS.keep⟩
end Go.LM.CODE
