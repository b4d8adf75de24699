/- Walks, lifted by program. No condition beyond each theorem's own premises. -/
import Derived.Test.YtimaeihmnipfgaaDoorETQTraceSame3
namespace Go.LM.ET
open Go Go.LL Go.MD Go.LM Go.Proofs Go.MD.ET

set_option maxRecDepth 100000 in
theorem leadlinelaw17_TraceSame_c {N : Nat} {w0 : World} {H : PH} (hH : H.le w0) (hT : Tab H) {oa2 : Option Addr} {cap3 : Nat} {p1 : (List api_Event)} (hc4 : p1.length ≤ cap3) (hr5 : SR H oa2 p1) {oa7 : Option Addr} {cap8 : Nat} {p6 : (List Int)} (hc9 : p6.length ≤ cap8) (hr10 : SR H oa7 p6) {p11 : Int} {r : Bool} (hm : leadlinelaw17_TraceSame N p1 p6 p11 = some r) : Tot Tryd.prog 8 #[.slice oa2 p1.length cap3, .slice oa7 p6.length cap8, .int .i64 p11] w0 (fun v w' => v = .bool r ∧ Keep Nil w0 w') := by
  unfold leadlinelaw17_TraceSame at hm
  refine fn0 (args := [.slice oa2 p1.length cap3, .slice oa7 p6.length cap8, .int .i64 p11]) (F := [(0, .slice oa2 p1.length cap3), (1, .slice oa7 p6.length cap8), (2, .int .i64 p11)]) Tryd.func8 rfl Tryd.ntmps8 rfl rfl fun a hF => ?_
  have hS : St w0 Nil [H] [] w0 := start1 hH
  refine th <| ?_
  refine rg <| ?_
  refine ls <| q1 hF rfl (e_asg hF rfl) fun a hF => ?_
  refine re <| ?_
  refine tn <| th <| ?_
  replace hm := bind_some hm
  obtain ⟨r12, h13, hm⟩ := hm
  refine rg <| ?_
  refine ls <| q1 hF rfl (e_move hF rfl) fun a hF => ?_
  refine ls <| c1 hF rfl Tryd.call39 (leadlinelaw17_threads_c (hp_le _) hc4 (St.srH hS hr5) h13) ⟨rfl, trivial⟩ (fun v w a hR hF => ?_)
  obtain ⟨oa14, cap15, vs16, rfl, hv17, hk⟩ := hR
  replace hS := hS.fresh hk
  clear hk
  replace hv17 := hv17 H
  refine ls <| q1 hF rfl (e_asg hF rfl) fun a hF => ?_
  refine re <| ?_
  refine tn <| th <| ?_
  refine rg <| ?_
  refine ls <| a_bsl (e := 3) (sz := 1) [.int .i64 0, .int .i64 0, .int .i64 1] hF rfl hS rfl rfl rfl (fun w => by kernel_rfl) fun b20 w a hS hF => ?_
  have hv19 : Rows (α := Int) H [.int .i64 0, .int .i64 0, .int .i64 1] ([0, 0, 1] : List Int) := (.cons (c := [.int .i64 0]) rfl (.cons (c := [.int .i64 0]) rfl (.cons (c := [.int .i64 1]) rfl .nil)))
  refine ls <| q1 hF rfl (e_move hF rfl) fun a hF => ?_
  refine ls <| q1 hF rfl (e_asg hF rfl) fun a hF => ?_
  refine ls <| q1 hF rfl (e_asg hF rfl) fun a hF => ?_
  refine re <| ?_
  refine tn <| th <| th <| ?_
  refine rg <| ?_
  refine ls <| q1 hF rfl (e_asg hF rfl) fun a hF => ?_
  refine re <| ?_
  refine tn <| midK (fun a w => ∃ (vA10 : (List api_Event)) (HA1 : PH) (oaA2 : Option Addr) (capA3 : Nat) (oaA6 : Option Addr) (capA7 : Nat) (oaA11 : Option Addr) (capA12 : Nat), (leadlinelaw17_TraceSame_j1 N p11 r12) vA10 = some r ∧ Ext w0 H HA1 ∧ Fr 110 [(0, .slice oaA2 r12.length capA3), (2, .int .i64 p11), (7, .slice oaA6 ([0, 0, 1] : List Int).length capA7), (8, .slice oaA11 vA10.length capA12)] a ∧ St w0 Nil [HA1] [] w ∧ r12.length ≤ capA3 ∧ SR HA1 oaA2 r12 ∧ ([0, 0, 1] : List Int).length ≤ capA7 ∧ SR HA1 oaA6 ([0, 0, 1] : List Int) ∧ vA10.length ≤ capA12 ∧ SR HA1 oaA11 vA10) ?_ ?_
  ·
    obtain ⟨HB10, hxB7, hrB8, hcB9, hS⟩ := St.frzS hS (.tail .head) hv17
    obtain ⟨HB14, hxB11, hrB12, hcB13, hS⟩ := St.frzS hS .head (hv19.mono hxB7.sub)
    refine wp_block <| lp (α := Nat × (List api_Event) × Int) (fun (gh : Nat × (List api_Event) × Int) a w => match gh with | (nn2, vB28, vB33) => ∃ (HB15 : PH) (oaB16 : Option Addr) (capB17 : Nat) (oaB20 : Option Addr) (capB21 : Nat) (oaB24 : Option Addr) (capB25 : Nat) (oaB29 : Option Addr) (capB30 : Nat), (leadlinelaw17_TraceSame_l2 N (leadlinelaw17_TraceSame_j1 N p11 r12) p6 p11 r12) nn2 vB28 vB33 = some r ∧ Ext w0 H HB15 ∧ Fr 110 [(0, .slice oaB16 r12.length capB17), (1, .slice oaB20 p6.length capB21), (2, .int .i64 p11), (7, .slice oaB24 ([0, 0, 1] : List Int).length capB25), (8, .slice oaB29 vB28.length capB30), (9, .int .i64 vB33)] a ∧ St w0 Nil [HB15] [] w ∧ r12.length ≤ capB17 ∧ SR HB15 oaB16 r12 ∧ p6.length ≤ capB21 ∧ SR HB15 oaB20 p6 ∧ ([0, 0, 1] : List Int).length ≤ capB25 ∧ SR HB15 oaB24 ([0, 0, 1] : List Int) ∧ vB28.length ≤ capB30 ∧ SR HB15 oaB29 vB28) (fun gh => gh.1) (N, r12, 0) ⟨HB14, oa14, cap15, oa7, cap8, (some ⟨b20, 0, none⟩), 3, oa14, cap15, hm, (Ext.trans hxB7 hxB11), hF.has ⟨rfl, rfl, rfl, rfl, rfl, rfl, trivial⟩, hS, hcB9, (hrB8.mono hxB11.sub), hc9, (hr10.mono (fun b o h => hxB11.sub b o (hxB7.sub b o h))), hcB13, hrB12, hcB9, (hrB8.mono hxB11.sub)⟩ ?_
    clear hm hF hS
    rintro ⟨nn2, vB28, vB33⟩ a w ⟨HB15, oaB16, capB17, oaB20, capB21, oaB24, capB25, oaB29, capB30, hm, hxHB15, hF, hS, hcB18, hrB19, hcB22, hrB23, hcB26, hrB27, hcB31, hrB32⟩
    obtain _ | nn2 := nn2
    · simp [leadlinelaw17_TraceSame_l2] at hm
    rw [leadlinelaw17_TraceSame_l2] at hm
    refine th <| th <| ?_
    refine rg <| ?_
    refine ls <| q1 hF rfl (e_move hF rfl) fun a hF => ?_
    refine ls <| q1 hF rfl (e_move hF rfl) fun a hF => ?_
    refine ls <| q1 hF rfl (e_lenL (α := Int) (xs := p6) hF Tryd.runUnderlying25 rfl) fun a hF => ?_
    refine ls <| q1 hF rfl (e_lss hF rfl rfl) fun a hF => ?_
    refine ls <| q1 hF rfl (e_move hF rfl) fun a hF => ?_
    refine grp (N := 110) (Fk := [(0, .slice oaB16 r12.length capB17), (1, .slice oaB20 p6.length capB21), (2, .int .i64 p11), (7, .slice oaB24 ([0, 0, 1] : List Int).length capB25), (8, .slice oaB29 vB28.length capB30), (9, .int .i64 vB33), (25, .bool ((decide (vB33 < (p6.length : Int))) && (decide (vB33 < 60))))]) (b := (decide (vB33 < (p6.length : Int)))) 3 hS ?_ ?_ ?_
    ·
      intro hb key
      replace hF := Fr.as hF (t := 22) rfl (congrArg Value.bool hb)
      refine ls <| gy hF rfl rfl <| q1 hF rfl (e_move hF rfl) fun a hF => ?_
      refine ls <| gy hF rfl rfl <| q1 hF rfl (e_lss hF rfl rfl) fun a hF => ?_
      refine ls <| q1 hF rfl (e_as (v' := .bool ((decide (vB33 < (p6.length : Int))) && (decide (vB33 < 60)))) (e_pickT hF rfl rfl) (by rw [hb]; rfl)) fun a hF => ?_
      exact key _ _ (hF.has ⟨rfl, rfl, rfl, rfl, rfl, rfl, rfl, trivial⟩) hS
    ·
      intro hb key
      replace hF := Fr.as hF (t := 22) rfl (congrArg Value.bool hb)
      refine ls <| gn hF rfl rfl rfl rfl fun a hF => ?_
      refine ls <| gn hF rfl rfl rfl rfl fun a hF => ?_
      refine ls <| q1 hF rfl (e_as (v' := .bool ((decide (vB33 < (p6.length : Int))) && (decide (vB33 < 60)))) (e_pickF hF rfl rfl) (by rw [hb]; rfl)) fun a hF => ?_
      exact key _ _ (hF.has ⟨rfl, rfl, rfl, rfl, rfl, rfl, rfl, trivial⟩) hS
    intro a w hF hS
    refine ls <| q1 hF rfl (e_move hF rfl) fun a hF => ?_
    refine grp (N := 110) (Fk := [(0, .slice oaB16 r12.length capB17), (1, .slice oaB20 p6.length capB21), (2, .int .i64 p11), (7, .slice oaB24 ([0, 0, 1] : List Int).length capB25), (8, .slice oaB29 vB28.length capB30), (9, .int .i64 vB33), (30, .bool (((decide (vB33 < (p6.length : Int))) && (decide (vB33 < 60))) && (decide (1 < (r12.length : Int)))))]) (b := ((decide (vB33 < (p6.length : Int))) && (decide (vB33 < 60)))) 4 hS ?_ ?_ ?_
    ·
      intro hb key
      replace hF := Fr.as hF (t := 26) rfl (congrArg Value.bool hb)
      refine ls <| gy hF rfl rfl <| q1 hF rfl (e_move hF rfl) fun a hF => ?_
      refine ls <| gy hF rfl rfl <| q1 hF rfl (e_lenL (α := api_Event) (xs := r12) hF Tryd.runUnderlying39 rfl) fun a hF => ?_
      refine ls <| gy hF rfl rfl <| q1 hF rfl (e_gtr hF rfl rfl) fun a hF => ?_
      refine ls <| q1 hF rfl (e_as (v' := .bool (((decide (vB33 < (p6.length : Int))) && (decide (vB33 < 60))) && (decide (1 < (r12.length : Int))))) (e_pickT hF rfl rfl) (by rw [hb]; rfl)) fun a hF => ?_
      exact key _ _ (hF.has ⟨rfl, rfl, rfl, rfl, rfl, rfl, rfl, trivial⟩) hS
    ·
      intro hb key
      replace hF := Fr.as hF (t := 26) rfl (congrArg Value.bool hb)
      refine ls <| gn hF rfl rfl rfl rfl fun a hF => ?_
      refine ls <| gn hF rfl rfl rfl rfl fun a hF => ?_
      refine ls <| gn hF rfl rfl rfl rfl fun a hF => ?_
      refine ls <| q1 hF rfl (e_as (v' := .bool (((decide (vB33 < (p6.length : Int))) && (decide (vB33 < 60))) && (decide (1 < (r12.length : Int))))) (e_pickF hF rfl rfl) (by rw [hb]; rfl)) fun a hF => ?_
      exact key _ _ (hF.has ⟨rfl, rfl, rfl, rfl, rfl, rfl, rfl, trivial⟩) hS
    intro a w hF hS
    refine re <| ?_
    rcases bdich (((decide (vB33 < (p6.length : Int))) && (decide (vB33 < 60))) && (decide (1 < (r12.length : Int)))) with hb22 | hb22
    ·
      replace hm := ite_t hm hb22
      refine tn <| ctv hF rfl hb22 <| wp_skip <| ?_
      refine tn <| th <| midK (fun a w => ∃ (vC6 : (List api_Event)) (HC5 : PH) (oaC7 : Option Addr) (capC8 : Nat), (leadlinelaw17_TraceSame_j3 (leadlinelaw17_TraceSame_l2 N (leadlinelaw17_TraceSame_j1 N p11 r12) p6 p11 r12 nn2) vB33) vC6 = some r ∧ Ext w0 HB15 HC5 ∧ Fr 110 [(0, .slice oaB16 r12.length capB17), (1, .slice oaB20 p6.length capB21), (2, .int .i64 p11), (7, .slice oaB24 ([0, 0, 1] : List Int).length capB25), (8, .slice oaC7 vC6.length capC8), (9, .int .i64 vB33)] a ∧ St w0 Nil [HC5] [] w ∧ vC6.length ≤ capC8 ∧ SR HC5 oaC7 vC6) ?_ ?_
      ·
        refine wp_block <| th <| ?_
        replace hm := bind_some hm
        obtain ⟨x23, h24, hm⟩ := hm
        obtain ⟨c25, g26, hl27⟩ := SR.get hrB23 h24
        obtain rfl : c25 = [.int .i64 x23] := g26
        replace hm := bind_some hm
        obtain ⟨x28, h29, hm⟩ := hm
        replace hm := bind_some hm
        obtain ⟨r30, h31, hm⟩ := hm
        refine rg <| ?_
        refine ls <| q1 hF rfl (e_move hF rfl) fun a hF => ?_
        refine ls <| q1 hF rfl (e_move hF rfl) fun a hF => ?_
        refine ls <| q1 hF rfl (e_move hF rfl) fun a hF => ?_
        refine ls <| q1 hF rfl (e_iaI hF Tryd.runUnderlying25 Tryd.sizeOf3 rfl rfl h24 (SR.oaI hrB23 (by decide) h24)) fun a hF => ?_
        refine ls <| q1 hF rfl (e_ld hF Tryd.isAgg3 rfl (PH.le.cell (Lds.le (St.ld hS)) (hl27 0 _ rfl))) fun a hF => ?_
        refine ls <| q1 hF rfl (e_band hF rfl rfl) fun a hF => ?_
        refine ls <| q1 hF rfl (e_move hF rfl) fun a hF => ?_
        refine ls <| q1 hF rfl (e_lenL (α := api_Event) (xs := r12) hF Tryd.runUnderlying39 rfl) fun a hF => ?_
        refine ls <| q1 hF rfl (e_sub hF rfl rfl) fun a hF => ?_
        refine ls <| q1 hF rfl (e_remI hF rfl rfl h29) fun a hF => ?_
        refine ls <| q1 hF rfl (e_move hF rfl) fun a hF => ?_
        refine ls <| q1 hF rfl (e_move hF rfl) fun a hF => ?_
        refine ls <| c1 hF rfl Tryd.call26 (trace_Swap_c (hp_le _) hcB31 (St.srH hS hrB32) hcB26 (St.srH hS hrB27) h31) ⟨rfl, rfl, rfl, rfl, trivial⟩ (fun v w a hR hF => ?_)
        obtain ⟨oa32, cap33, vs34, rfl, hv35, hk⟩ := hR
        replace hS := hS.fresh hk
        clear hk
        replace hv35 := hv35 HB15
        refine ls <| q1 hF rfl (e_move hF rfl) fun a hF => ?_
        refine ls <| q1 hF rfl (e_ext hF rfl rfl) fun a hF => ?_
        refine ls <| q1 hF rfl (e_ext hF rfl rfl) fun a hF => ?_
        refine ls <| q1 hF rfl (e_asg hF rfl) fun a hF => ?_
        refine ls <| q1 hF rfl (e_asg hF rfl) fun a hF => ?_
        refine re <| ?_
        refine tn <| th <| ?_
        refine rg <| ?_
        refine ls <| q1 hF rfl (e_move hF rfl) fun a hF => ?_
        refine re <| ?_
        rcases bdich r30.2 with hb37 | hb37
        ·
          replace hm := ite_t hm hb37
          refine tn <| ctv hF rfl hb37 <| th <| th <| ?_
          refine rg <| ?_
          refine ls <| q1 hF rfl (e_move hF rfl) fun a hF => ?_
          refine ls <| q1 hF rfl (e_lenL (α := api_Event) (xs := r30.1) hF Tryd.runUnderlying39 rfl) fun a hF => ?_
          refine ls <| q1 hF rfl (e_move hF rfl) fun a hF => ?_
          refine ls <| q1 hF rfl (e_lenL (α := api_Event) (xs := r12) hF Tryd.runUnderlying39 rfl) fun a hF => ?_
          refine ls <| q1 hF rfl (e_neq hF rfl rfl) fun a hF => ?_
          refine re <| ?_
          replace hm := bind_some hm
          obtain ⟨_, hb38, hm⟩ := hm
          replace hb38 := bnt (sure_some hb38)
          refine tn <| cfv hF rfl hb38 <| wp_skip <| ?_
          refine tn <| ?_
          refine rg <| ?_
          refine ls <| q1 hF rfl (e_move hF rfl) fun a hF => ?_
          refine ls <| q1 hF rfl (e_asg hF rfl) fun a hF => ?_
          refine re <| ?_
          refine bn <| tn <| ?_
          obtain ⟨HC4, hxC1, hrC2, hcC3, hS⟩ := St.frzS hS .head hv35
          exact ⟨r30.1, HC4, oa32, cap33, hm, hxC1, hF.has ⟨rfl, rfl, rfl, rfl, rfl, rfl, trivial⟩, hS, hcC3, hrC2⟩
        ·
          replace hm := ite_f hm hb37
          refine tn <| cfv hF rfl hb37 <| wp_skip <| ?_
          refine bn <| tn <| ?_
          replace hS := hS.pickL .nil
          exact ⟨vB28, HB15, oaB29, capB30, hm, (Ext.refl _ _), hF.has ⟨rfl, rfl, rfl, rfl, rfl, rfl, trivial⟩, hS, hcB31, hrB32⟩
      clear hm hF hS
      rintro a w ⟨vC6, HC5, oaC7, capC8, hm, hxHC5, hF, hS, hcC9, hrC10⟩
      unfold leadlinelaw17_TraceSame_j3 at hm
      refine rg <| ?_
      refine ls <| q1 hF rfl (e_move hF rfl) fun a hF => ?_
      refine ls <| q1 hF rfl (e_add hF rfl rfl) fun a hF => ?_
      refine ls <| q1 hF rfl (e_asg hF rfl) fun a hF => ?_
      refine re <| ?_
      refine tn <| ?_
      exact ⟨(nn2, vC6, (IntKind.i64.wrap (vB33 + 1))), ⟨HC5, oaB16, capB17, oaB20, capB21, oaB24, capB25, oaC7, capC8, hm, (Ext.trans hxHB15 hxHC5), hF.has ⟨rfl, rfl, rfl, rfl, rfl, rfl, trivial⟩, hS, hcB18, (hrB19.mono hxHC5.sub), hcB22, (hrB23.mono hxHC5.sub), hcB26, (hrB27.mono hxHC5.sub), hcC9, hrC10⟩, Nat.lt_succ_self _⟩
    ·
      replace hm := ite_f hm hb22
      refine tn <| cfv hF rfl hb22 <| ?_
      refine wp_exit <| tx <| tx <| bx <| ?_
      refine tn <| ?_
      exact ⟨vB28, HB15, oaB16, capB17, oaB24, capB25, oaB29, capB30, hm, hxHB15, hF.has ⟨rfl, rfl, rfl, rfl, trivial⟩, hS, hcB18, hrB19, hcB26, hrB27, hcB31, hrB32⟩
  clear hm hF hS
  rintro a w ⟨vA10, HA1, oaA2, capA3, oaA6, capA7, oaA11, capA12, hm, hxHA1, hF, hS, hcA4, hrA5, hcA8, hrA9, hcA13, hrA14⟩
  unfold leadlinelaw17_TraceSame_j1 at hm
  refine th <| ?_
  replace hm := bind_some hm
  obtain ⟨r39, h40, hm⟩ := hm
  replace hm := bind_some hm
  obtain ⟨r46, h47, hm⟩ := hm
  refine rg <| ?_
  refine ls <| q1 hF rfl (e_move hF rfl) fun a hF => ?_
  refine ls <| q1 hF rfl (e_move hF rfl) fun a hF => ?_
  refine ls <| q1 hF rfl (e_move hF rfl) fun a hF => ?_
  refine ls <| c1 hF rfl Tryd.call29 (trace_Form_c (hp_le _) hcA4 (St.srH hS hrA5) hcA8 (St.srH hS hrA9) h40) ⟨rfl, rfl, rfl, trivial⟩ (fun v w a hR hF => ?_)
  obtain ⟨oa41, cap42, vs43, rfl, hv44, hk⟩ := hR
  replace hS := hS.fresh hk
  clear hk
  replace hv44 := hv44 HA1
  refine ls <| q1 hF rfl (e_move hF rfl) fun a hF => ?_
  refine ls <| q1 hF rfl (e_move hF rfl) fun a hF => ?_
  refine ls <| q1 hF rfl (e_move hF rfl) fun a hF => ?_
  refine ls <| c1 hF rfl Tryd.call29 (trace_Form_c (hp_le _) hcA13 (St.srH hS hrA14) hcA8 (St.srH hS hrA9) h47) ⟨rfl, rfl, rfl, trivial⟩ (fun v w a hR hF => ?_)
  obtain ⟨oa48, cap49, vs50, rfl, hv51, hk⟩ := hR
  replace hS := hS.fresh hk
  clear hk
  replace hv51 := hv51 HA1
  refine ls <| q1 hF rfl (e_asg hF rfl) fun a hF => ?_
  refine ls <| q1 hF rfl (e_asg hF rfl) fun a hF => ?_
  refine re <| ?_
  refine tn <| th <| ?_
  replace hm := bind_some hm
  obtain ⟨r53, h54, hm⟩ := hm
  replace hm := bind_some hm
  obtain ⟨_, hb55, hm⟩ := hm
  replace hb55 := sure_some hb55
  replace hm := bind_some hm
  obtain ⟨r56, h57, hm⟩ := hm
  replace hm := bind_some hm
  obtain ⟨_, hb58, hm⟩ := hm
  replace hb58 := sure_some hb58
  replace hm := bind_some hm
  obtain ⟨r59, h60, hm⟩ := hm
  replace hm := bind_some hm
  obtain ⟨_, hb61, hm⟩ := hm
  replace hb61 := sure_some hb61
  replace hm := bind_some hm
  obtain ⟨r62, h63, hm⟩ := hm
  replace hm := bind_some hm
  obtain ⟨r69, h70, hm⟩ := hm
  replace hm := bind_some hm
  obtain ⟨_, hb71, hm⟩ := hm
  replace hb71 := sure_some hb71
  replace hm := bind_some hm
  obtain ⟨r72, h73, hm⟩ := hm
  replace hm := bind_some hm
  obtain ⟨r74, h75, hm⟩ := hm
  replace hm := bind_some hm
  obtain ⟨_, hb76, hm⟩ := hm
  replace hb76 := sure_some hb76
  replace hm := bind_some hm
  obtain ⟨r77, h78, hm⟩ := hm
  refine rg <| ?_
  refine ls <| q1 hF rfl (e_move hF rfl) fun a hF => ?_
  refine ls <| q1 hF rfl (e_move hF rfl) fun a hF => ?_
  refine ls <| c1 hF rfl Tryd.call28 (leadlineref17_Equal_c (hp_le _) (St.capO hS (.tail _ (.head _))) (St.srO hS (.tail _ (.head _)) hv44) (St.capO hS (.head _)) (St.srO hS (.head _) hv51) h54) ⟨rfl, rfl, trivial⟩ (fun v w a hR hF => ?_)
  obtain ⟨rfl, hk⟩ := hR
  replace hS := hS.pass hk
  clear hk
  refine ls <| q1 hF rfl (e_as (e_move hF rfl) (congrArg Value.bool hb55)) fun a hF => ?_
  refine ls <| gy hF rfl rfl <| q1 hF rfl (e_move hF rfl) fun a hF => ?_
  refine ls <| gy hF rfl rfl <| q1 hF rfl (e_move hF rfl) fun a hF => ?_
  refine ls <| gy hF rfl rfl <| q1 hF rfl (e_move hF rfl) fun a hF => ?_
  refine ls <| gy hF rfl rfl <| q1 hF rfl (e_move hF rfl) fun a hF => ?_
  refine ls <| gy hF rfl rfl <| c1 hF rfl Tryd.call31 (trace_Same_c (hp_le _) hcA4 (St.srH hS hrA5) hcA13 (St.srH hS hrA14) hcA8 (St.srH hS hrA9) h57) ⟨rfl, rfl, rfl, rfl, trivial⟩ (fun v w a hR hF => ?_)
  obtain ⟨rfl, hk⟩ := hR
  replace hS := hS.pass hk
  clear hk
  refine ls <| q1 hF rfl (e_pickT hF rfl rfl) fun a hF => ?_
  refine ls <| q1 hF rfl (e_as (e_move hF rfl) (congrArg Value.bool hb58)) fun a hF => ?_
  refine ls <| gy hF rfl rfl <| q1 hF rfl (e_move hF rfl) fun a hF => ?_
  refine ls <| gy hF rfl rfl <| q1 hF rfl (e_move hF rfl) fun a hF => ?_
  refine ls <| gy hF rfl rfl <| q1 hF rfl (e_move hF rfl) fun a hF => ?_
  refine ls <| gy hF rfl rfl <| q1 hF rfl (e_move hF rfl) fun a hF => ?_
  refine ls <| gy hF rfl rfl <| c1 hF rfl Tryd.call31 (trace_Same_c (hp_le _) hcA4 (St.srH hS hrA5) (St.capO hS (.tail _ (.head _))) (St.srO hS (.tail _ (.head _)) hv44) hcA8 (St.srH hS hrA9) h60) ⟨rfl, rfl, rfl, rfl, trivial⟩ (fun v w a hR hF => ?_)
  obtain ⟨rfl, hk⟩ := hR
  replace hS := hS.pass hk
  clear hk
  refine ls <| q1 hF rfl (e_pickT hF rfl rfl) fun a hF => ?_
  refine ls <| q1 hF rfl (e_as (e_move hF rfl) (congrArg Value.bool hb61)) fun a hF => ?_
  refine ls <| gy hF rfl rfl <| q1 hF rfl (e_move hF rfl) fun a hF => ?_
  refine ls <| gy hF rfl rfl <| q1 hF rfl (e_move hF rfl) fun a hF => ?_
  refine ls <| gy hF rfl rfl <| q1 hF rfl (e_move hF rfl) fun a hF => ?_
  refine ls <| gy hF rfl rfl <| c1 hF rfl Tryd.call29 (trace_Form_c (hp_le _) (St.capO hS (.tail _ (.head _))) (St.srO hS (.tail _ (.head _)) hv44) hcA8 (St.srH hS hrA9) h63) ⟨rfl, rfl, rfl, trivial⟩ (fun v w a hR hF => ?_)
  obtain ⟨oa64, cap65, vs66, rfl, hv67, hk⟩ := hR
  replace hS := hS.fresh hk
  clear hk
  replace hv67 := hv67 HA1
  refine ls <| gy hF rfl rfl <| q1 hF rfl (e_move hF rfl) fun a hF => ?_
  refine ls <| gy hF rfl rfl <| c1 hF rfl Tryd.call28 (leadlineref17_Equal_c (hp_le _) (St.capO hS (.head _)) (St.srO hS (.head _) hv67) (St.capO hS (.tail _ (.tail _ (.head _)))) (St.srO hS (.tail _ (.tail _ (.head _))) hv44) h70) ⟨rfl, rfl, trivial⟩ (fun v w a hR hF => ?_)
  obtain ⟨rfl, hk⟩ := hR
  replace hS := hS.pass hk
  clear hk
  refine ls <| q1 hF rfl (e_pickT hF rfl rfl) fun a hF => ?_
  refine ls <| q1 hF rfl (e_as (e_move hF rfl) (congrArg Value.bool hb71)) fun a hF => ?_
  refine ls <| gy hF rfl rfl <| q1 hF rfl (e_move hF rfl) fun a hF => ?_
  refine ls <| gy hF rfl rfl <| q1 hF rfl (e_move hF rfl) fun a hF => ?_
  refine ls <| gy hF rfl rfl <| q1 hF rfl (e_move hF rfl) fun a hF => ?_
  refine ls <| gy hF rfl rfl <| c1 hF rfl Tryd.call33 (trace_Key_c (hp_le _) (Tab.mono (Tab.mono hT hxHA1.sub) (St.up hS)) hcA4 (St.srH hS hrA5) hcA8 (St.srH hS hrA9) h73) ⟨rfl, rfl, rfl, trivial⟩ (fun v w a hR hF => ?_)
  obtain ⟨rfl, hk⟩ := hR
  replace hS := hS.pass hk
  clear hk
  refine ls <| gy hF rfl rfl <| q1 hF rfl (e_move hF rfl) fun a hF => ?_
  refine ls <| gy hF rfl rfl <| q1 hF rfl (e_move hF rfl) fun a hF => ?_
  refine ls <| gy hF rfl rfl <| q1 hF rfl (e_move hF rfl) fun a hF => ?_
  refine ls <| gy hF rfl rfl <| c1 hF rfl Tryd.call33 (trace_Key_c (hp_le _) (Tab.mono (Tab.mono hT hxHA1.sub) (St.up hS)) hcA13 (St.srH hS hrA14) hcA8 (St.srH hS hrA9) h75) ⟨rfl, rfl, rfl, trivial⟩ (fun v w a hR hF => ?_)
  obtain ⟨rfl, hk⟩ := hR
  replace hS := hS.pass hk
  clear hk
  refine ls <| gy hF rfl rfl <| q1 hF rfl (e_eqlU (m := r72) (n := r74) hF rfl rfl) fun a hF => ?_
  refine ls <| q1 hF rfl (e_pickT hF rfl rfl) fun a hF => ?_
  refine ls <| q1 hF rfl (e_move hF rfl) fun a hF => ?_
  refine grp (N := 110) (Fk := [(106, .bool ((decide (r72 = r74)) && (decide ((r39.length : Int) = (r12.length : Int)))))]) (b := (decide (r72 = r74))) 6 hS ?_ ?_ ?_
  ·
    intro hb key
    replace hF := Fr.as hF (t := 100) rfl (congrArg Value.bool hb)
    refine ls <| gy hF rfl rfl <| q1 hF rfl (e_move hF rfl) fun a hF => ?_
    refine ls <| gy hF rfl rfl <| q1 hF rfl (e_lenL (α := api_Event) (xs := r39) hF Tryd.runUnderlying39 rfl) fun a hF => ?_
    refine ls <| gy hF rfl rfl <| q1 hF rfl (e_move hF rfl) fun a hF => ?_
    refine ls <| gy hF rfl rfl <| q1 hF rfl (e_lenL (α := api_Event) (xs := r12) hF Tryd.runUnderlying39 rfl) fun a hF => ?_
    refine ls <| gy hF rfl rfl <| q1 hF rfl (e_eql hF rfl rfl) fun a hF => ?_
    refine ls <| q1 hF rfl (e_as (v' := .bool ((decide (r72 = r74)) && (decide ((r39.length : Int) = (r12.length : Int))))) (e_pickT hF rfl rfl) (by rw [hb]; rfl)) fun a hF => ?_
    exact key _ _ (hF.has ⟨rfl, trivial⟩) hS
  ·
    intro hb key
    replace hF := Fr.as hF (t := 100) rfl (congrArg Value.bool hb)
    refine ls <| gn hF rfl rfl rfl rfl fun a hF => ?_
    refine ls <| gn hF rfl rfl rfl rfl fun a hF => ?_
    refine ls <| gn hF rfl rfl rfl rfl fun a hF => ?_
    refine ls <| gn hF rfl rfl rfl rfl fun a hF => ?_
    refine ls <| gn hF rfl rfl rfl rfl fun a hF => ?_
    refine ls <| q1 hF rfl (e_as (v' := .bool ((decide (r72 = r74)) && (decide ((r39.length : Int) = (r12.length : Int))))) (e_pickF hF rfl rfl) (by rw [hb]; rfl)) fun a hF => ?_
    exact key _ _ (hF.has ⟨rfl, trivial⟩) hS
  intro a w hF hS
  refine ls <| q1 hF rfl (e_as (e_move hF rfl) (congrArg Value.bool hb76)) fun a hF => ?_
  refine ls <| gy hF rfl rfl <| c1 hF rfl Tryd.call38 (leadlinelaw17_fixed_c (hp_le _) (Tab.mono (Tab.mono hT hxHA1.sub) (St.up hS)) h78) trivial (fun v w a hR hF => ?_)
  obtain ⟨rfl, hk⟩ := hR
  replace hS := hS.pass hk
  clear hk
  refine ls <| q1 hF rfl (e_pickT hF rfl rfl) fun a hF => ?_
  refine ls <| q1 hF rfl (e_asg hF rfl) fun a hF => ?_
  refine re <| ?_
  refine tn <| ?_
  refine wp_ret <| ?_
  obtain rfl := Option.some.inj hm
  exact r1 hF Tryd.results8 rfl ⟨rfl, hS.keep⟩
end Go.LM.ET
