/- Walks, lifted by program. No condition beyond each theorem's own premises. -/
import Derived.Test.YtfpdddablkocoaaDoorCDQCodeJoins3
namespace Go.LM.CODE
open Go Go.LL Go.MD Go.LM Go.Proofs Go.MD.CODE

set_option maxRecDepth 100000 in
theorem leadlineref08_Run_c {N : Nat} {w0 : World} {H : PH} (hH : H.le w0) {oa2 : Option Addr} {cap3 : Nat} {p1 : (List api_Op)} (hc4 : p1.length ≤ cap3) (hr5 : SR H oa2 p1) {oa7 : Option Addr} {cap8 : Nat} {p6 : (List Int)} (hc9 : p6.length ≤ cap8) (hr10 : SR H oa7 p6) {r : (Int × Int)} (hm : leadlineref08_Run N p1 p6 = some r) : Tot Tryd.prog 22 #[.slice oa2 p1.length cap3, .slice oa7 p6.length cap8] w0 (fun v w' => v = .tuple #[.int .i64 r.1, .int .i64 r.2] ∧ Keep Nil w0 w') := by
  unfold leadlineref08_Run at hm
  refine fn0 (args := [.slice oa2 p1.length cap3, .slice oa7 p6.length cap8]) (F := [(0, .slice oa2 p1.length cap3), (1, .slice oa7 p6.length cap8)]) Tryd.func22 rfl Tryd.ntmps22 rfl rfl fun a hF => ?_
  have hS : St w0 Nil [H] [] w0 := start1 hH
  refine th <| ?_
  refine rg <| ?_
  refine ls <| q1 hF rfl (e_asg hF rfl) fun a hF => ?_
  refine ls <| q1 hF rfl (e_asg hF rfl) fun a hF => ?_
  refine re <| ?_
  refine tn <| th <| th <| ?_
  replace hm := bind_some hm
  obtain ⟨r11, h12, hm⟩ := hm
  refine rg <| ?_
  refine ls <| q1 hF rfl (e_move hF rfl) fun a hF => ?_
  refine ls <| q1 hF rfl (e_move hF rfl) fun a hF => ?_
  refine ls <| q1 hF rfl (e_lenL (α := Int) (xs := p6) hF Tryd.runUnderlying33 rfl) fun a hF => ?_
  refine ls <| c1 hF rfl Tryd.call42 (leadlineref08_Right_c (hp_le _) hc4 (St.srH hS hr5) h12) ⟨rfl, rfl, trivial⟩ (fun v w a hR hF => ?_)
  obtain ⟨rfl, hk⟩ := hR
  replace hS := hS.pass hk
  clear hk
  refine ls <| q1 hF rfl (e_not hF rfl) fun a hF => ?_
  refine re <| ?_
  rcases bdich r11 with hb13 | hb13
  ·
    replace hm := ite_t hm hb13
    refine tn <| cfv hF rfl (by rw [hb13]; rfl) <| wp_skip <| ?_
    refine tn <| th <| ?_
    refine rg <| ?_
    refine ls <| a_bsl (e := 3) (sz := 1) [] hF rfl hS rfl rfl rfl (fun w => by kernel_rfl) fun b15 w a hS hF => ?_
    have hv14 : Rows (α := Int) H [] [] := .nil
    refine ls <| q1 hF rfl (e_asg hF rfl) fun a hF => ?_
    refine re <| ?_
    refine tn <| th <| th <| ?_
    refine rg <| ?_
    refine ls <| q1 hF rfl (e_asg hF rfl) fun a hF => ?_
    refine re <| ?_
    refine tn <| midK (fun a w => ∃ (vA2 : (List Int)) (HA1 : PH) (oaA3 : Option Addr) (capA4 : Nat) (vsA5 : List Value), leadlineref08_Run_j1 vA2 = some r ∧ Ext w0 H HA1 ∧ Fr 104 [(6, .slice oaA3 vA2.length capA4)] a ∧ St w0 Nil [HA1] [sla 3 1 oaA3 vA2.length capA4 vsA5] w ∧ Rows HA1 vsA5 vA2) ?_ ?_
    ·
      refine wp_block <| lp (α := Nat × (List Int) × Int) (fun (gh : Nat × (List Int) × Int) a w => match gh with | (nn2, vB10, vB16) => ∃ (HB1 : PH) (oaB2 : Option Addr) (capB3 : Nat) (oaB6 : Option Addr) (capB7 : Nat) (oaB11 : Option Addr) (capB12 : Nat) (vsB13 : List Value), (leadlineref08_Run_l2 N leadlineref08_Run_j1 p1 p6) nn2 vB10 vB16 = some r ∧ Ext w0 H HB1 ∧ Fr 104 [(0, .slice oaB2 p1.length capB3), (1, .slice oaB6 p6.length capB7), (6, .slice oaB11 vB10.length capB12), (7, .int .i64 vB16)] a ∧ St w0 Nil [HB1] [sla 3 1 oaB11 vB10.length capB12 vsB13] w ∧ p1.length ≤ capB3 ∧ SR HB1 oaB2 p1 ∧ p6.length ≤ capB7 ∧ SR HB1 oaB6 p6 ∧ Rows HB1 vsB13 vB10) (fun gh => gh.1) (N, [], 0) ⟨H, oa2, cap3, oa7, cap8, (some ⟨b15, 0, none⟩), 0, [], hm, (Ext.refl _ _), hF.has ⟨rfl, rfl, rfl, rfl, trivial⟩, hS, hc4, hr5, hc9, hr10, hv14⟩ ?_
      clear hm hF hS
      rintro ⟨nn2, vB10, vB16⟩ a w ⟨HB1, oaB2, capB3, oaB6, capB7, oaB11, capB12, vsB13, hm, hxHB1, hF, hS, hcB4, hrB5, hcB8, hrB9, hvB14⟩
      obtain _ | nn2 := nn2
      · simp [leadlineref08_Run_l2] at hm
      rw [leadlineref08_Run_l2] at hm
      refine th <| th <| ?_
      refine rg <| ?_
      refine ls <| q1 hF rfl (e_move hF rfl) fun a hF => ?_
      refine ls <| q1 hF rfl (e_move hF rfl) fun a hF => ?_
      refine ls <| q1 hF rfl (e_lenL (α := api_Op) (xs := p1) hF Tryd.runUnderlying26 rfl) fun a hF => ?_
      refine ls <| q1 hF rfl (e_lss hF rfl rfl) fun a hF => ?_
      refine re <| ?_
      rcases bdich (decide (vB16 < (p1.length : Int))) with hb17 | hb17
      ·
        replace hm := itp_t hm hb17
        refine tn <| ctv hF rfl hb17 <| wp_skip <| ?_
        refine tn <| th <| midK (fun a w => ∃ (vC1 : (List Int)) (oaC2 : Option Addr) (capC3 : Nat) (vsC4 : List Value), (leadlineref08_Run_j3 (leadlineref08_Run_l2 N leadlineref08_Run_j1 p1 p6 nn2) vB16) vC1 = some r ∧ Fr 104 [(0, .slice oaB2 p1.length capB3), (1, .slice oaB6 p6.length capB7), (6, .slice oaC2 vC1.length capC3), (7, .int .i64 vB16)] a ∧ St w0 Nil [HB1] [sla 3 1 oaC2 vC1.length capC3 vsC4] w ∧ Rows HB1 vsC4 vC1) ?_ ?_
        ·
          refine wp_block <| th <| ?_
          replace hm := bind_some hm
          obtain ⟨x18, h19, hm⟩ := hm
          obtain ⟨c20, g21, hl22⟩ := SR.get hrB5 h19
          obtain rfl := api_Op_open g21
          refine rg <| ?_
          refine ls <| q1 hF rfl (e_move hF rfl) fun a hF => ?_
          refine ls <| q1 hF rfl (e_move hF rfl) fun a hF => ?_
          refine ls <| q1 hF rfl (e_iaI hF Tryd.runUnderlying26 Tryd.sizeOf46 rfl rfl h19 (SR.oaI hrB5 (by decide) h19)) fun a hF => ?_
          refine ls <| q1 hF rfl (e_fa hF fa46_0 rfl) fun a hF => ?_
          refine ls <| q1 hF rfl (e_ld hF Tryd.isAgg3 rfl (PH.le.cell (Lds.le (St.ld hS)) (hl22 0 _ rfl))) fun a hF => ?_
          refine ls <| q1 hF rfl (e_move hF rfl) fun a hF => ?_
          refine ls <| q1 hF rfl (e_lenL (α := Int) (xs := vB10) hF Tryd.runUnderlying33 rfl) fun a hF => ?_
          refine ls <| q1 hF rfl (e_sub hF rfl rfl) fun a hF => ?_
          refine ls <| q1 hF rfl (e_asg hF rfl) fun a hF => ?_
          refine ls <| q1 hF rfl (e_asg hF rfl) fun a hF => ?_
          refine re <| ?_
          refine tn <| th <| ?_
          refine rg <| ?_
          refine ls <| q1 hF rfl (e_move hF rfl) fun a hF => ?_
          refine ls <| q1 hF rfl (e_eql hF rfl rfl) fun a hF => ?_
          refine re <| ?_
          rcases bdich (decide (x18.Kind = 1)) with hb23 | hb23
          ·
            replace hm := itp_t hm hb23
            refine tn <| ctv hF rfl hb23 <| ?_
            replace hm := bind_some hm
            obtain ⟨l27, h28, hm⟩ := hm
            refine rg <| ?_
            refine ls <| q1 hF rfl (e_move hF rfl) fun a hF => ?_
            refine ls <| q1 hF rfl (e_move hF rfl) fun a hF => ?_
            refine ls <| q1 hF rfl (e_move hF rfl) fun a hF => ?_
            refine ls <| q1 hF rfl (e_iaI hF Tryd.runUnderlying26 Tryd.sizeOf46 rfl rfl h19 (SR.oaI hrB5 (by decide) h19)) fun a hF => ?_
            refine ls <| q1 hF rfl (e_fa hF fa46_1 rfl) fun a hF => ?_
            refine ls <| q1 hF rfl (e_ld hF Tryd.isAgg3 rfl (PH.le.cell (Lds.le (St.ld hS)) (hl22 1 _ rfl))) fun a hF => ?_
            refine ls <| a_bsl (e := 3) (sz := 1) [.int .i64 x18.N] hF rfl hS rfl rfl rfl (fun w => by kernel_rfl) fun b25 w a hS hF => ?_
            have hv24 : Rows (α := Int) HB1 [.int .i64 x18.N] ([x18.N] : List Int) := (.cons (c := [.int .i64 x18.N]) rfl .nil)
            refine ls <| m_app (α := Int) (xs := vB10) (ys := ([x18.N] : List Int)) hF rfl hS Tryd.underlying33 info3 rfl (by decide) rfl rfl rfl (.tail _ (.head _)) hvB14 (hS.rdO (.head _)) hv24 h28 fun oa29 cap30 vs31 w a hv32 hU hF => ?_
            replace hS := hU _ (.tail .head)
            clear hU
            replace hS := hS.drop .head
            refine ls <| q1 hF rfl (e_asg hF rfl) fun a hF => ?_
            refine re <| ?_
            refine bn <| tn <| ?_
            exact ⟨l27, oa29, cap30, vs31, hm, hF.has ⟨rfl, rfl, rfl, rfl, trivial⟩, hS, hv32⟩
          ·
            replace hm := itp_f hm hb23
            refine tn <| cfv hF rfl hb23 <| th <| ?_
            refine rg <| ?_
            refine ls <| q1 hF rfl (e_move hF rfl) fun a hF => ?_
            refine ls <| q1 hF rfl (e_eql hF rfl rfl) fun a hF => ?_
            refine re <| ?_
            rcases bdich (decide (x18.Kind = 2)) with hb33 | hb33
            ·
              replace hm := itp_t hm hb33
              refine tn <| ctv hF rfl hb33 <| ?_
              replace hm := bind_some hm
              obtain ⟨x34, h35, hm⟩ := hm
              obtain ⟨c36, g37, hl38⟩ := SR.get hrB9 h35
              obtain rfl : c36 = [.int .i64 x34] := g37
              replace hm := bind_some hm
              obtain ⟨l42, h43, hm⟩ := hm
              refine rg <| ?_
              refine ls <| q1 hF rfl (e_move hF rfl) fun a hF => ?_
              refine ls <| q1 hF rfl (e_move hF rfl) fun a hF => ?_
              refine ls <| q1 hF rfl (e_move hF rfl) fun a hF => ?_
              refine ls <| q1 hF rfl (e_move hF rfl) fun a hF => ?_
              refine ls <| q1 hF rfl (e_iaI hF Tryd.runUnderlying26 Tryd.sizeOf46 rfl rfl h19 (SR.oaI hrB5 (by decide) h19)) fun a hF => ?_
              refine ls <| q1 hF rfl (e_fa hF fa46_1 rfl) fun a hF => ?_
              refine ls <| q1 hF rfl (e_ld hF Tryd.isAgg3 rfl (PH.le.cell (Lds.le (St.ld hS)) (hl22 1 _ rfl))) fun a hF => ?_
              refine ls <| q1 hF rfl (e_iaI hF Tryd.runUnderlying33 Tryd.sizeOf3 rfl rfl h35 (SR.oaI hrB9 (by decide) h35)) fun a hF => ?_
              refine ls <| q1 hF rfl (e_ld hF Tryd.isAgg3 rfl (PH.le.cell (Lds.le (St.ld hS)) (hl38 0 _ rfl))) fun a hF => ?_
              refine ls <| a_bsl (e := 3) (sz := 1) [.int .i64 x34] hF rfl hS rfl rfl rfl (fun w => by kernel_rfl) fun b40 w a hS hF => ?_
              have hv39 : Rows (α := Int) HB1 [.int .i64 x34] ([x34] : List Int) := (.cons (c := [.int .i64 x34]) rfl .nil)
              refine ls <| m_app (α := Int) (xs := vB10) (ys := ([x34] : List Int)) hF rfl hS Tryd.underlying33 info3 rfl (by decide) rfl rfl rfl (.tail _ (.head _)) hvB14 (hS.rdO (.head _)) hv39 h43 fun oa44 cap45 vs46 w a hv47 hU hF => ?_
              replace hS := hU _ (.tail .head)
              clear hU
              replace hS := hS.drop .head
              refine ls <| q1 hF rfl (e_asg hF rfl) fun a hF => ?_
              refine re <| ?_
              refine bn <| tn <| ?_
              exact ⟨l42, oa44, cap45, vs46, hm, hF.has ⟨rfl, rfl, rfl, rfl, trivial⟩, hS, hv47⟩
            ·
              replace hm := itp_f hm hb33
              refine tn <| cfv hF rfl hb33 <| th <| ?_
              refine rg <| ?_
              refine ls <| q1 hF rfl (e_move hF rfl) fun a hF => ?_
              refine ls <| q1 hF rfl (e_eql hF rfl rfl) fun a hF => ?_
              refine ls <| q1 hF rfl (e_move hF rfl) fun a hF => ?_
              refine grp (N := 104) (Fk := [(0, .slice oaB2 p1.length capB3), (1, .slice oaB6 p6.length capB7), (6, .slice oaB11 vB10.length capB12), (7, .int .i64 vB16), (8, .int .i64 x18.Kind), (9, .int .i64 (IntKind.i64.wrap ((vB10.length : Int) - 1))), (62, .bool ((decide (x18.Kind = 3)) || (decide (x18.Kind = 4))))]) (b := (decide (x18.Kind = 3))) 3 hS ?_ ?_ ?_
              ·
                intro hb key
                replace hF := Fr.as hF (t := 59) rfl (congrArg Value.bool hb)
                refine ls <| gn hF rfl rfl rfl rfl fun a hF => ?_
                refine ls <| gn hF rfl rfl rfl rfl fun a hF => ?_
                refine ls <| q1 hF rfl (e_as (v' := .bool ((decide (x18.Kind = 3)) || (decide (x18.Kind = 4)))) (e_pickT hF rfl rfl) (by rw [hb]; rfl)) fun a hF => ?_
                exact key _ _ (hF.has ⟨rfl, rfl, rfl, rfl, rfl, rfl, rfl, trivial⟩) hS
              ·
                intro hb key
                replace hF := Fr.as hF (t := 59) rfl (congrArg Value.bool hb)
                refine ls <| gy hF rfl rfl <| q1 hF rfl (e_move hF rfl) fun a hF => ?_
                refine ls <| gy hF rfl rfl <| q1 hF rfl (e_eql hF rfl rfl) fun a hF => ?_
                refine ls <| q1 hF rfl (e_as (v' := .bool ((decide (x18.Kind = 3)) || (decide (x18.Kind = 4)))) (e_pickF hF rfl rfl) (by rw [hb]; rfl)) fun a hF => ?_
                exact key _ _ (hF.has ⟨rfl, rfl, rfl, rfl, rfl, rfl, rfl, trivial⟩) hS
              intro a w hF hS
              refine re <| ?_
              rcases bdich ((decide (x18.Kind = 3)) || (decide (x18.Kind = 4))) with hb48 | hb48
              ·
                replace hm := ite_t hm hb48
                refine tn <| ctv hF rfl hb48 <| th <| ?_
                replace hm := bind_some hm
                obtain ⟨x49, h50, hm⟩ := hm
                have ho51 := Rd.oaI (hS.rdO (.head _)) hvB14 (by decide) h50
                obtain ⟨c52, g53, hl54⟩ := Rows.getI hvB14 h50
                obtain rfl : c52 = [.int .i64 x49] := g53
                replace hm := bind_some hm
                obtain ⟨r55, h56, hm⟩ := hm
                refine rg <| ?_
                refine ls <| q1 hF rfl (e_move hF rfl) fun a hF => ?_
                refine ls <| q1 hF rfl (e_move hF rfl) fun a hF => ?_
                refine ls <| q1 hF rfl (e_move hF rfl) fun a hF => ?_
                refine ls <| q1 hF rfl (e_iaI hF Tryd.runUnderlying33 Tryd.sizeOf3 rfl rfl h50 ho51) fun a hF => ?_
                refine ls <| q1 hF rfl (e_ld hF Tryd.isAgg3 rfl ((St.ld hS).elO (.head _) (hl54 0 _ rfl))) fun a hF => ?_
                refine ls <| c1 hF rfl Tryd.call43 (leadlineref01_One_c (hp_le _) h56) ⟨rfl, rfl, trivial⟩ (fun v w a hR hF => ?_)
                obtain ⟨rfl, hk⟩ := hR
                replace hS := hS.pass hk
                clear hk
                refine ls <| q1 hF rfl (e_move hF rfl) fun a hF => ?_
                refine ls <| q1 hF rfl (e_ext hF rfl rfl) fun a hF => ?_
                refine ls <| q1 hF rfl (e_ext hF rfl rfl) fun a hF => ?_
                refine ls <| q1 hF rfl (e_asg hF rfl) fun a hF => ?_
                refine ls <| q1 hF rfl (e_asg hF rfl) fun a hF => ?_
                refine re <| ?_
                refine tn <| ?_
                have ho57 := Rd.oaI (hS.rdO (.head _)) hvB14 (by decide) h50
                replace hm := bind_some hm
                obtain ⟨l58, h59, hm⟩ := hm
                refine rg <| ?_
                refine ls <| q1 hF rfl (e_move hF rfl) fun a hF => ?_
                refine ls <| q1 hF rfl (e_move hF rfl) fun a hF => ?_
                refine ls <| q1 hF rfl (e_move hF rfl) fun a hF => ?_
                refine ls <| q1 hF rfl (e_iaI hF Tryd.runUnderlying33 Tryd.sizeOf3 rfl rfl h50 ho57) fun a hF => ?_
                have hn62 := setI_len h59
                refine ls <| s_slJ (α := Int) hF hS Tryd.sizeOf3 rfl rfl rfl rfl hvB14 rfl h59 (.head _) fun vs60 w hv61 hU => ?_
                replace hS := hU _ .head
                clear hU
                refine re <| ?_
                refine bn <| tn <| ?_
                replace hF := Fr.as hF (t := 6) (v' := .slice oaB11 l58.length capB12) rfl (by rw [hn62])
                exact ⟨l58, oaB11, capB12, vs60, hm, hF.has ⟨rfl, rfl, rfl, rfl, trivial⟩, hS, hv61⟩
              ·
                replace hm := ite_f hm hb48
                refine tn <| cfv hF rfl hb48 <| th <| ?_
                replace hm := bind_some hm
                obtain ⟨x63, h64, hm⟩ := hm
                have ho65 := Rd.oaI (hS.rdO (.head _)) hvB14 (by decide) h64
                obtain ⟨c66, g67, hl68⟩ := Rows.getI hvB14 h64
                obtain rfl : c66 = [.int .i64 x63] := g67
                replace hm := bind_some hm
                obtain ⟨x69, h70, hm⟩ := hm
                have ho71 := Rd.oaI (hS.rdO (.head _)) hvB14 (by decide) h70
                obtain ⟨c72, g73, hl74⟩ := Rows.getI hvB14 h70
                obtain rfl : c72 = [.int .i64 x69] := g73
                replace hm := bind_some hm
                obtain ⟨r75, h76, hm⟩ := hm
                refine rdS 16 hS wide fun w hS => ?_
                refine d1 (i := 0) rfl (by kernel_rfl) (by kernel_rfl) (St.ld hS) hF rfl (fun _ _ _ h => h) (fun w hl => (e_move hF rfl)) fun a hF => ?_
                refine d1 (i := 1) rfl (by kernel_rfl) (by kernel_rfl) (St.ld hS) hF rfl (fun _ _ _ h => h) (fun w hl => (e_move hF rfl)) fun a hF => ?_
                refine d1 (i := 2) rfl (by kernel_rfl) (by kernel_rfl) (St.ld hS) hF rfl (fun _ _ _ h => h) (fun w hl => (e_move hF rfl)) fun a hF => ?_
                refine d1 (i := 3) rfl (by kernel_rfl) (by kernel_rfl) (St.ld hS) hF rfl (fun _ _ _ h => h) (fun w hl => (e_sub hF rfl rfl)) fun a hF => ?_
                refine d1 (i := 4) rfl (by kernel_rfl) (by kernel_rfl) (St.ld hS) hF rfl (fun _ _ _ h => h) (fun w hl => (e_iaI hF Tryd.runUnderlying33 Tryd.sizeOf3 rfl rfl h64 ho65)) fun a hF => ?_
                refine d1 (i := 5) rfl (by kernel_rfl) (by kernel_rfl) (St.ld hS) hF rfl (fun _ _ _ h => h) (fun w hl => (e_ld hF Tryd.isAgg3 rfl (hl.elO (.head _) (hl68 0 _ rfl)))) fun a hF => ?_
                refine d1 (i := 6) rfl (by kernel_rfl) (by kernel_rfl) (St.ld hS) hF rfl (fun _ _ _ h => h) (fun w hl => (e_move hF rfl)) fun a hF => ?_
                refine d1 (i := 7) rfl (by kernel_rfl) (by kernel_rfl) (St.ld hS) hF rfl (fun _ _ _ h => h) (fun w hl => (e_move hF rfl)) fun a hF => ?_
                refine d1 (i := 8) rfl (by kernel_rfl) (by kernel_rfl) (St.ld hS) hF rfl (fun _ _ _ h => h) (fun w hl => (e_iaI hF Tryd.runUnderlying33 Tryd.sizeOf3 rfl rfl h70 ho71)) fun a hF => ?_
                refine d1 (i := 9) rfl (by kernel_rfl) (by kernel_rfl) (St.ld hS) hF rfl (fun _ _ _ h => h) (fun w hl => (e_ld hF Tryd.isAgg3 rfl (hl.elO (.head _) (hl74 0 _ rfl)))) fun a hF => ?_
                refine da1 (i := 10) (by kernel_rfl) ?_
                refine di (i := 10) rfl <| c1 hF rfl Tryd.call44 (leadlineref01_Two_c (hp_le _) h76) ⟨rfl, rfl, rfl, trivial⟩ (fun v w a hR hF => ?_)
                obtain ⟨rfl, hk⟩ := hR
                replace hS := hS.pass hk
                clear hk
                refine ⟨fun _ => (St.ld hS), ?_⟩
                refine d1 (i := 11) rfl (by kernel_rfl) (by kernel_rfl) (St.ld hS) hF rfl (fun _ _ _ h => h) (fun w hl => (e_move hF rfl)) fun a hF => ?_
                refine d1 (i := 12) rfl (by kernel_rfl) (by kernel_rfl) (St.ld hS) hF rfl (fun _ _ _ h => h) (fun w hl => (e_ext hF rfl rfl)) fun a hF => ?_
                refine d1 (i := 13) rfl (by kernel_rfl) (by kernel_rfl) (St.ld hS) hF rfl (fun _ _ _ h => h) (fun w hl => (e_ext hF rfl rfl)) fun a hF => ?_
                refine d1 (i := 14) rfl (by kernel_rfl) (by kernel_rfl) (St.ld hS) hF rfl (fun _ _ _ h => h) (fun w hl => (e_asg hF rfl)) fun a hF => ?_
                refine d1 (i := 15) rfl (by kernel_rfl) (by kernel_rfl) (St.ld hS) hF rfl (fun _ _ _ h => h) (fun w hl => (e_asg hF rfl)) fun a hF => ?_
                refine de (by kernel_rfl) <| ?_
                refine tn <| th <| th <| ?_
                refine rg <| ?_
                refine ls <| q1 hF rfl (e_move hF rfl) fun a hF => ?_
                refine ls <| q1 hF rfl (e_neq hF rfl rfl) fun a hF => ?_
                refine re <| ?_
                rcases bdich (decide (r75.2 ≠ 0)) with hb77 | hb77
                ·
                  replace hm := itp_t hm hb77
                  refine tn <| ctv hF rfl hb77 <| th <| ?_
                  refine rg <| ?_
                  refine ls <| q1 hF rfl (e_move hF rfl) fun a hF => ?_
                  refine ls <| q1 hF rfl (e_asg hF rfl) fun a hF => ?_
                  refine ls <| q1 hF rfl (e_asg hF rfl) fun a hF => ?_
                  refine re <| ?_
                  refine tn <| ?_
                  refine wp_ret <| tr <| br <| tr <| tr <| br <| tr <| ?_
                  obtain rfl := Option.some.inj hm
                  exact r2 hF Tryd.results22 rfl rfl ⟨rfl, hS.keep⟩
                ·
                  replace hm := itp_f hm hb77
                  refine tn <| cfv hF rfl hb77 <| wp_skip <| ?_
                  refine tn <| th <| ?_
                  replace hm := bind_some hm
                  obtain ⟨l78, h79, hm⟩ := hm
                  have hc80 := St.capO hS (.head _)
                  obtain ⟨vs81, hv82, hU⟩ := St.shrink hS hvB14 rfl (.head _) h79
                  replace hS := hU _ .head
                  clear hU
                  refine rg <| ?_
                  refine ls <| q1 hF rfl (e_move hF rfl) fun a hF => ?_
                  refine ls <| q1 hF rfl (e_move hF rfl) fun a hF => ?_
                  refine ls <| q1 hF rfl (e_subL (xs := vB10) (vl := 0) (vh := (IntKind.i64.wrap ((vB10.length : Int) - 1))) hF Tryd.runUnderlying33 Tryd.sizeOf3 rfl hc80 rfl rfl h79 (subOa0 _ _ _) (Nat.sub_zero _)) fun a hF => ?_
                  refine ls <| q1 hF rfl (e_asg hF rfl) fun a hF => ?_
                  refine re <| ?_
                  refine tn <| ?_
                  replace hm := bind_some hm
                  obtain ⟨x83, h84, hm⟩ := hm
                  have ho85 := Rd.oaI (hS.rdO (.head _)) hv82 (by decide) h84
                  replace hm := bind_some hm
                  obtain ⟨l86, h87, hm⟩ := hm
                  refine rg <| ?_
                  refine ls <| q1 hF rfl (e_move hF rfl) fun a hF => ?_
                  refine ls <| q1 hF rfl (e_move hF rfl) fun a hF => ?_
                  refine ls <| q1 hF rfl (e_sub hF rfl rfl) fun a hF => ?_
                  refine ls <| q1 hF rfl (e_move hF rfl) fun a hF => ?_
                  refine ls <| q1 hF rfl (e_iaI hF Tryd.runUnderlying33 Tryd.sizeOf3 rfl rfl h84 ho85) fun a hF => ?_
                  have hn90 := setI_len h87
                  refine ls <| s_slJ (α := Int) hF hS Tryd.sizeOf3 rfl rfl rfl rfl hv82 rfl h87 (.head _) fun vs88 w hv89 hU => ?_
                  replace hS := hU _ .head
                  clear hU
                  refine re <| ?_
                  refine bn <| tn <| ?_
                  replace hF := Fr.as hF (t := 6) (v' := .slice oaB11 l86.length capB12) rfl (by rw [hn90])
                  exact ⟨l86, oaB11, capB12, vs88, hm, hF.has ⟨rfl, rfl, rfl, rfl, trivial⟩, hS, hv89⟩
        clear hm hF hS
        rintro a w ⟨vC1, oaC2, capC3, vsC4, hm, hF, hS, hvC5⟩
        unfold leadlineref08_Run_j3 at hm
        refine rg <| ?_
        refine ls <| q1 hF rfl (e_move hF rfl) fun a hF => ?_
        refine ls <| q1 hF rfl (e_add hF rfl rfl) fun a hF => ?_
        refine ls <| q1 hF rfl (e_asg hF rfl) fun a hF => ?_
        refine re <| ?_
        refine tn <| ?_
        exact ⟨(nn2, vC1, (IntKind.i64.wrap (vB16 + 1))), ⟨HB1, oaB2, capB3, oaB6, capB7, oaC2, capC3, vsC4, hm, hxHB1, hF.has ⟨rfl, rfl, rfl, rfl, trivial⟩, hS, hcB4, hrB5, hcB8, hrB9, hvC5⟩, Nat.lt_succ_self _⟩
      ·
        replace hm := itp_f hm hb17
        refine tn <| cfv hF rfl hb17 <| ?_
        refine wp_exit <| tx <| tx <| bx <| ?_
        refine tn <| ?_
        exact ⟨vB10, HB1, oaB11, capB12, vsB13, hm, hxHB1, hF.has ⟨rfl, trivial⟩, hS, hvB14⟩
    clear hm hF hS
    rintro a w ⟨vA2, HA1, oaA3, capA4, vsA5, hm, hxHA1, hF, hS, hvA6⟩
    unfold leadlineref08_Run_j1 at hm
    refine th <| ?_
    replace hm := bind_some hm
    obtain ⟨x91, h92, hm⟩ := hm
    have ho93 := Rd.oaI (hS.rdO (.head _)) hvA6 (by decide) h92
    obtain ⟨c94, g95, hl96⟩ := Rows.getI hvA6 h92
    obtain rfl : c94 = [.int .i64 x91] := g95
    refine rg <| ?_
    refine ls <| q1 hF rfl (e_move hF rfl) fun a hF => ?_
    refine ls <| q1 hF rfl (e_iaI hF Tryd.runUnderlying33 Tryd.sizeOf3 rfl rfl h92 ho93) fun a hF => ?_
    refine ls <| q1 hF rfl (e_ld hF Tryd.isAgg3 rfl ((St.ld hS).elO (.head _) (hl96 0 _ rfl))) fun a hF => ?_
    refine ls <| q1 hF rfl (e_asg hF rfl) fun a hF => ?_
    refine ls <| q1 hF rfl (e_asg hF rfl) fun a hF => ?_
    refine re <| ?_
    refine tn <| ?_
    refine wp_ret <| ?_
    obtain rfl := Option.some.inj hm
    exact r2 hF Tryd.results22 rfl rfl ⟨rfl, hS.keep⟩
  ·
    replace hm := ite_f hm hb13
    refine tn <| ctv hF rfl (by rw [hb13]; rfl) <| th <| ?_
    refine rg <| ?_
    refine ls <| q1 hF rfl (e_asg hF rfl) fun a hF => ?_
    refine ls <| q1 hF rfl (e_asg hF rfl) fun a hF => ?_
    refine re <| ?_
    refine tn <| ?_
    refine wp_ret <| tr <| ?_
    obtain rfl := Option.some.inj hm
    exact r2 hF Tryd.results22 rfl rfl ⟨rfl, hS.keep⟩

set_option maxRecDepth 100000 in
theorem leadlinelaw08_CodeJoins_c {N : Nat} {w0 : World} {H : PH} (hH : H.le w0) (hT : Tab H) {oa2 : Option Addr} {cap3 : Nat} {p1 : (List api_Op)} (hc4 : p1.length ≤ cap3) (hr5 : SR H oa2 p1) {oa7 : Option Addr} {cap8 : Nat} {p6 : (List api_Op)} (hc9 : p6.length ≤ cap8) (hr10 : SR H oa7 p6) {p11 : Int} {r : Bool} (hm : leadlinelaw08_CodeJoins N p1 p6 p11 = some r) : Tot Tryd.prog 6 #[.slice oa2 p1.length cap3, .slice oa7 p6.length cap8, .int .i64 p11] w0 (fun v w' => v = .bool r ∧ Keep Nil w0 w') := by
  unfold leadlinelaw08_CodeJoins at hm
  refine fn0 (args := [.slice oa2 p1.length cap3, .slice oa7 p6.length cap8, .int .i64 p11]) (F := [(0, .slice oa2 p1.length cap3), (1, .slice oa7 p6.length cap8), (2, .int .i64 p11)]) Tryd.func6 rfl Tryd.ntmps6 rfl rfl fun a hF => ?_
  have hS : St w0 Nil [H] [] w0 := start1 hH
  refine th <| ?_
  refine rg <| ?_
  refine ls <| q1 hF rfl (e_asg hF rfl) fun a hF => ?_
  refine re <| ?_
  refine tn <| th <| ?_
  refine rg <| ?_
  refine ls <| a_bsl (e := 3) (sz := 1) [.int .i64 7, .int .i64 (-2), .int .i64 0] hF rfl hS rfl rfl rfl (fun w => by kernel_rfl) fun b13 w a hS hF => ?_
  have hv12 : Rows (α := Int) H [.int .i64 7, .int .i64 (-2), .int .i64 0] ([7, (-2), 0] : List Int) := (.cons (c := [.int .i64 7]) rfl (.cons (c := [.int .i64 (-2)]) rfl (.cons (c := [.int .i64 0]) rfl .nil)))
  refine ls <| q1 hF rfl (e_asg hF rfl) fun a hF => ?_
  refine re <| ?_
  refine tn <| th <| ?_
  replace hm := bind_some hm
  obtain ⟨r15, h16, hm⟩ := hm
  refine rg <| ?_
  refine ls <| q1 hF rfl (e_move hF rfl) fun a hF => ?_
  refine ls <| c1 hF rfl Tryd.call21 (leadlinelaw08_Cut_c (St.le hS) hc4 hr5 h16) ⟨rfl, trivial⟩ (fun v w a hR hF => ?_)
  obtain ⟨H19, oa20, cap21, rfl, hc22, hr23, hx17, hl18, hk⟩ := hR
  obtain ⟨hS, hx17⟩ := And.intro (St.passH hS hk hx17 hl18) (St.extc hS hx17)
  clear hk
  refine ls <| q1 hF rfl (e_asg hF rfl) fun a hF => ?_
  refine re <| ?_
  refine tn <| th <| ?_
  replace hm := bind_some hm
  obtain ⟨r24, h25, hm⟩ := hm
  refine rg <| ?_
  refine ls <| q1 hF rfl (e_move hF rfl) fun a hF => ?_
  refine ls <| c1 hF rfl Tryd.call21 (leadlinelaw08_Cut_c (St.le hS) hc9 (hr10.mono hx17.sub) h25) ⟨rfl, trivial⟩ (fun v w a hR hF => ?_)
  obtain ⟨H28, oa29, cap30, rfl, hc31, hr32, hx26, hl27, hk⟩ := hR
  obtain ⟨hS, hx26⟩ := And.intro (St.passH hS hk hx26 hl27) (St.extc hS hx26)
  clear hk
  refine ls <| q1 hF rfl (e_asg hF rfl) fun a hF => ?_
  refine re <| ?_
  refine tn <| th <| ?_
  refine rg <| ?_
  refine ls <| q1 hF rfl (e_move hF rfl) fun a hF => ?_
  refine ls <| q1 hF rfl (e_band hF rfl rfl) fun a hF => ?_
  refine ls <| q1 hF rfl (e_rem hF rfl rfl (by decide)) fun a hF => ?_
  refine ls <| q1 hF rfl (e_add hF rfl rfl) fun a hF => ?_
  refine ls <| q1 hF rfl (e_asg hF rfl) fun a hF => ?_
  refine re <| ?_
  refine tn <| th <| ?_
  replace hm := bind_some hm
  obtain ⟨r33, h34, hm⟩ := hm
  refine rg <| ?_
  refine ls <| q1 hF rfl (e_move hF rfl) fun a hF => ?_
  refine ls <| q1 hF rfl (e_move hF rfl) fun a hF => ?_
  refine ls <| c1 hF rfl Tryd.call18 (code_Run_c (hp_le _) hc22 (St.srH hS (hr23.mono hx26.sub)) (St.capO hS (.head _)) (St.srO hS (.head _) (hv12.mono (fun b o h => hx26.sub b o (hx17.sub b o h)))) h34) ⟨rfl, rfl, trivial⟩ (fun v w a hR hF => ?_)
  obtain ⟨rfl, hk⟩ := hR
  replace hS := hS.pass hk
  clear hk
  refine ls <| q1 hF rfl (e_move hF rfl) fun a hF => ?_
  refine ls <| q1 hF rfl (e_ext hF rfl rfl) fun a hF => ?_
  refine ls <| q1 hF rfl (e_ext hF rfl rfl) fun a hF => ?_
  refine ls <| q1 hF rfl (e_asg hF rfl) fun a hF => ?_
  refine ls <| q1 hF rfl (e_asg hF rfl) fun a hF => ?_
  refine re <| ?_
  refine tn <| th <| ?_
  replace hm := bind_some hm
  obtain ⟨r35, h36, hm⟩ := hm
  refine rg <| ?_
  refine ls <| q1 hF rfl (e_move hF rfl) fun a hF => ?_
  refine ls <| q1 hF rfl (e_move hF rfl) fun a hF => ?_
  refine ls <| c1 hF rfl Tryd.call18 (code_Run_c (hp_le _) hc31 (St.srH hS hr32) (St.capO hS (.head _)) (St.srO hS (.head _) (hv12.mono (fun b o h => hx26.sub b o (hx17.sub b o h)))) h36) ⟨rfl, rfl, trivial⟩ (fun v w a hR hF => ?_)
  obtain ⟨rfl, hk⟩ := hR
  replace hS := hS.pass hk
  clear hk
  refine ls <| q1 hF rfl (e_move hF rfl) fun a hF => ?_
  refine ls <| q1 hF rfl (e_ext hF rfl rfl) fun a hF => ?_
  refine ls <| q1 hF rfl (e_ext hF rfl rfl) fun a hF => ?_
  refine ls <| q1 hF rfl (e_asg hF rfl) fun a hF => ?_
  refine ls <| q1 hF rfl (e_asg hF rfl) fun a hF => ?_
  refine re <| ?_
  refine tn <| th <| ?_
  replace hm := bind_some hm
  obtain ⟨l40, h41, hm⟩ := hm
  refine rg <| ?_
  refine ls <| a_bsl (e := 46) (sz := 2) [] hF rfl hS rfl rfl rfl (fun w => by kernel_rfl) fun b38 w a hS hF => ?_
  have hv37 : Rows (α := api_Op) H28 [] [] := .nil
  refine ls <| q1 hF rfl (e_move hF rfl) fun a hF => ?_
  obtain ⟨us46, hd47, hu48⟩ := id (hr23.mono hx26.sub)
  refine ls <| m_app (α := api_Op) (xs := []) (ys := r15) hF rfl hS Tryd.underlying26 info46 rfl (by decide) rfl rfl rfl (.head _) hv37 (hS.rdH (.head _) hd47) hu48 h41 fun oa42 cap43 vs44 w a hv45 hU hF => ?_
  replace hS := hU _ .head
  clear hU
  refine ls <| q1 hF rfl (e_asg hF rfl) fun a hF => ?_
  refine re <| ?_
  refine tn <| th <| ?_
  replace hm := bind_some hm
  obtain ⟨l49, h50, hm⟩ := hm
  refine rg <| ?_
  refine ls <| q1 hF rfl (e_move hF rfl) fun a hF => ?_
  refine ls <| q1 hF rfl (e_move hF rfl) fun a hF => ?_
  obtain ⟨us55, hd56, hu57⟩ := id hr32
  refine ls <| m_app (α := api_Op) (xs := l40) (ys := r24) hF rfl hS Tryd.underlying26 info46 rfl (by decide) rfl rfl rfl (.head _) hv45 (hS.rdH (.head _) hd56) hu57 h50 fun oa51 cap52 vs53 w a hv54 hU hF => ?_
  replace hS := hU _ .head
  clear hU
  refine ls <| q1 hF rfl (e_asg hF rfl) fun a hF => ?_
  refine re <| ?_
  refine tn <| th <| ?_
  replace hm := bind_some hm
  obtain ⟨l61, h62, hm⟩ := hm
  refine rg <| ?_
  refine ls <| q1 hF rfl (e_move hF rfl) fun a hF => ?_
  refine ls <| q1 hF rfl (e_move hF rfl) fun a hF => ?_
  refine ls <| q1 hF rfl (e_bldK [.int .i64 (IntKind.i64.wrap (5 + ((iand .i64 p11 65535).tmod 11)))] [.int .i64 (IntKind.i64.wrap (5 + ((iand .i64 p11 65535).tmod 11))), .int .i64 0] hF ⟨rfl, trivial⟩ (fun w => by kernel_rfl)) fun a hF => ?_
  refine ls <| a_bsl (e := 46) (sz := 2) [.int .i64 (IntKind.i64.wrap (5 + ((iand .i64 p11 65535).tmod 11))), .int .i64 0] hF rfl hS rfl rfl rfl (fun w => by kernel_rfl) fun b59 w a hS hF => ?_
  have hv58 : Rows (α := api_Op) H28 [.int .i64 (IntKind.i64.wrap (5 + ((iand .i64 p11 65535).tmod 11))), .int .i64 0] ([(api_Op.mk (IntKind.i64.wrap (5 + ((iand .i64 p11 65535).tmod 11))) 0)] : List api_Op) := (.cons (c := [.int .i64 (IntKind.i64.wrap (5 + ((iand .i64 p11 65535).tmod 11))), .int .i64 0]) ⟨_, _, rfl, rfl, rfl⟩ .nil)
  refine ls <| m_app (α := api_Op) (xs := l49) (ys := ([(api_Op.mk (IntKind.i64.wrap (5 + ((iand .i64 p11 65535).tmod 11))) 0)] : List api_Op)) hF rfl hS Tryd.underlying26 info46 rfl (by decide) rfl rfl rfl (.tail _ (.head _)) hv54 (hS.rdO (.head _)) hv58 h62 fun oa63 cap64 vs65 w a hv66 hU hF => ?_
  replace hS := hU _ (.tail .head)
  clear hU
  replace hS := hS.drop .head
  refine ls <| q1 hF rfl (e_asg hF rfl) fun a hF => ?_
  refine re <| ?_
  refine tn <| th <| ?_
  replace hm := bind_some hm
  obtain ⟨r67, h68, hm⟩ := hm
  refine rg <| ?_
  refine ls <| q1 hF rfl (e_move hF rfl) fun a hF => ?_
  refine ls <| q1 hF rfl (e_move hF rfl) fun a hF => ?_
  refine ls <| c1 hF rfl Tryd.call18 (code_Run_c (hp_le _) (St.capO hS (.head _)) (St.srO hS (.head _) hv66) (St.capO hS (.tail _ (.head _))) (St.srO hS (.tail _ (.head _)) (hv12.mono (fun b o h => hx26.sub b o (hx17.sub b o h)))) h68) ⟨rfl, rfl, trivial⟩ (fun v w a hR hF => ?_)
  obtain ⟨rfl, hk⟩ := hR
  replace hS := hS.pass hk
  clear hk
  refine ls <| q1 hF rfl (e_move hF rfl) fun a hF => ?_
  refine ls <| q1 hF rfl (e_ext hF rfl rfl) fun a hF => ?_
  refine ls <| q1 hF rfl (e_ext hF rfl rfl) fun a hF => ?_
  refine ls <| q1 hF rfl (e_asg hF rfl) fun a hF => ?_
  refine ls <| q1 hF rfl (e_asg hF rfl) fun a hF => ?_
  refine re <| ?_
  refine tn <| th <| th <| ?_
  refine rg <| ?_
  refine ls <| q1 hF rfl (e_move hF rfl) fun a hF => ?_
  refine ls <| q1 hF rfl (e_eql hF rfl rfl) fun a hF => ?_
  refine ls <| q1 hF rfl (e_move hF rfl) fun a hF => ?_
  refine grp (N := 106) (Fk := [(8, .int .i64 (IntKind.i64.wrap (5 + ((iand .i64 p11 65535).tmod 11)))), (9, .int .i64 r33.1), (10, .int .i64 r33.2), (11, .int .i64 r35.1), (12, .int .i64 r35.2), (13, .slice oa63 l61.length cap64), (14, .int .i64 r67.1), (15, .int .i64 r67.2), (61, .bool ((decide (r33.2 = 8)) || (decide (r35.2 = 8))))]) (b := (decide (r33.2 = 8))) 3 hS ?_ ?_ ?_
  ·
    intro hb key
    replace hF := Fr.as hF (t := 58) rfl (congrArg Value.bool hb)
    refine ls <| gn hF rfl rfl rfl rfl fun a hF => ?_
    refine ls <| gn hF rfl rfl rfl rfl fun a hF => ?_
    refine ls <| q1 hF rfl (e_as (v' := .bool ((decide (r33.2 = 8)) || (decide (r35.2 = 8)))) (e_pickT hF rfl rfl) (by rw [hb]; rfl)) fun a hF => ?_
    exact key _ _ (hF.has ⟨rfl, rfl, rfl, rfl, rfl, rfl, rfl, rfl, rfl, trivial⟩) hS
  ·
    intro hb key
    replace hF := Fr.as hF (t := 58) rfl (congrArg Value.bool hb)
    refine ls <| gy hF rfl rfl <| q1 hF rfl (e_move hF rfl) fun a hF => ?_
    refine ls <| gy hF rfl rfl <| q1 hF rfl (e_eql hF rfl rfl) fun a hF => ?_
    refine ls <| q1 hF rfl (e_as (v' := .bool ((decide (r33.2 = 8)) || (decide (r35.2 = 8)))) (e_pickF hF rfl rfl) (by rw [hb]; rfl)) fun a hF => ?_
    exact key _ _ (hF.has ⟨rfl, rfl, rfl, rfl, rfl, rfl, rfl, rfl, rfl, trivial⟩) hS
  intro a w hF hS
  refine ls <| q1 hF rfl (e_move hF rfl) fun a hF => ?_
  refine grp (N := 106) (Fk := [(8, .int .i64 (IntKind.i64.wrap (5 + ((iand .i64 p11 65535).tmod 11)))), (9, .int .i64 r33.1), (10, .int .i64 r33.2), (11, .int .i64 r35.1), (12, .int .i64 r35.2), (14, .int .i64 r67.1), (15, .int .i64 r67.2), (66, .bool (((decide (r33.2 = 8)) || (decide (r35.2 = 8))) || (decide (40 < (l61.length : Int)))))]) (b := ((decide (r33.2 = 8)) || (decide (r35.2 = 8)))) 4 hS ?_ ?_ ?_
  ·
    intro hb key
    replace hF := Fr.as hF (t := 62) rfl (congrArg Value.bool hb)
    refine ls <| gn hF rfl rfl rfl rfl fun a hF => ?_
    refine ls <| gn hF rfl rfl rfl rfl fun a hF => ?_
    refine ls <| gn hF rfl rfl rfl rfl fun a hF => ?_
    refine ls <| q1 hF rfl (e_as (v' := .bool (((decide (r33.2 = 8)) || (decide (r35.2 = 8))) || (decide (40 < (l61.length : Int))))) (e_pickT hF rfl rfl) (by rw [hb]; rfl)) fun a hF => ?_
    exact key _ _ (hF.has ⟨rfl, rfl, rfl, rfl, rfl, rfl, rfl, rfl, trivial⟩) hS
  ·
    intro hb key
    replace hF := Fr.as hF (t := 62) rfl (congrArg Value.bool hb)
    refine ls <| gy hF rfl rfl <| q1 hF rfl (e_move hF rfl) fun a hF => ?_
    refine ls <| gy hF rfl rfl <| q1 hF rfl (e_lenL (α := api_Op) (xs := l61) hF Tryd.runUnderlying26 rfl) fun a hF => ?_
    refine ls <| gy hF rfl rfl <| q1 hF rfl (e_gtr hF rfl rfl) fun a hF => ?_
    refine ls <| q1 hF rfl (e_as (v' := .bool (((decide (r33.2 = 8)) || (decide (r35.2 = 8))) || (decide (40 < (l61.length : Int))))) (e_pickF hF rfl rfl) (by rw [hb]; rfl)) fun a hF => ?_
    exact key _ _ (hF.has ⟨rfl, rfl, rfl, rfl, rfl, rfl, rfl, rfl, trivial⟩) hS
  intro a w hF hS
  refine re <| ?_
  rcases bdich (((decide (r33.2 = 8)) || (decide (r35.2 = 8))) || (decide (40 < (l61.length : Int)))) with hb69 | hb69
  ·
    replace hm := ite_t hm hb69
    refine tn <| ctv hF rfl hb69 <| th <| ?_
    replace hm := bind_some hm
    obtain ⟨r70, h71, hm⟩ := hm
    refine rg <| ?_
    refine ls <| c1 hF rfl Tryd.call14 (leadlinelaw08_fixed_c (hp_le _) (Tab.mono (Tab.mono hT (fun b o h => hx26.sub b o (hx17.sub b o h))) (St.up hS)) h71) trivial (fun v w a hR hF => ?_)
    obtain ⟨rfl, hk⟩ := hR
    replace hS := hS.pass hk
    clear hk
    refine ls <| q1 hF rfl (e_asg hF rfl) fun a hF => ?_
    refine re <| ?_
    refine tn <| ?_
    refine wp_ret <| tr <| ?_
    obtain rfl := Option.some.inj hm
    exact r1 hF Tryd.results6 rfl ⟨rfl, hS.keep⟩
  ·
    replace hm := ite_f hm hb69
    refine tn <| cfv hF rfl hb69 <| wp_skip <| ?_
    refine tn <| th <| th <| ?_
    refine rg <| ?_
    refine ls <| q1 hF rfl (e_move hF rfl) fun a hF => ?_
    refine ls <| q1 hF rfl (e_neq hF rfl rfl) fun a hF => ?_
    refine ls <| q1 hF rfl (e_move hF rfl) fun a hF => ?_
    refine grp (N := 106) (Fk := [(8, .int .i64 (IntKind.i64.wrap (5 + ((iand .i64 p11 65535).tmod 11)))), (9, .int .i64 r33.1), (11, .int .i64 r35.1), (14, .int .i64 r67.1), (15, .int .i64 r67.2), (73, .bool ((decide (r33.2 ≠ 0)) || (decide (r35.2 ≠ 0))))]) (b := (decide (r33.2 ≠ 0))) 3 hS ?_ ?_ ?_
    ·
      intro hb key
      replace hF := Fr.as hF (t := 70) rfl (congrArg Value.bool hb)
      refine ls <| gn hF rfl rfl rfl rfl fun a hF => ?_
      refine ls <| gn hF rfl rfl rfl rfl fun a hF => ?_
      refine ls <| q1 hF rfl (e_as (v' := .bool ((decide (r33.2 ≠ 0)) || (decide (r35.2 ≠ 0)))) (e_pickT hF rfl rfl) (by rw [hb]; rfl)) fun a hF => ?_
      exact key _ _ (hF.has ⟨rfl, rfl, rfl, rfl, rfl, rfl, trivial⟩) hS
    ·
      intro hb key
      replace hF := Fr.as hF (t := 70) rfl (congrArg Value.bool hb)
      refine ls <| gy hF rfl rfl <| q1 hF rfl (e_move hF rfl) fun a hF => ?_
      refine ls <| gy hF rfl rfl <| q1 hF rfl (e_neq hF rfl rfl) fun a hF => ?_
      refine ls <| q1 hF rfl (e_as (v' := .bool ((decide (r33.2 ≠ 0)) || (decide (r35.2 ≠ 0)))) (e_pickF hF rfl rfl) (by rw [hb]; rfl)) fun a hF => ?_
      exact key _ _ (hF.has ⟨rfl, rfl, rfl, rfl, rfl, rfl, trivial⟩) hS
    intro a w hF hS
    refine re <| ?_
    rcases bdich ((decide (r33.2 ≠ 0)) || (decide (r35.2 ≠ 0))) with hb72 | hb72
    ·
      replace hm := ite_t hm hb72
      refine tn <| ctv hF rfl hb72 <| th <| ?_
      rcases bdich ((decide (r67.2 = 12)) && (decide (r67.1 = 0))) with hb73 | hb73
      ·
        replace hm := ite_t hm hb73
        replace hm := bind_some hm
        obtain ⟨r74, h75, hm⟩ := hm
        refine rg <| ?_
        refine ls <| q1 hF rfl (e_move hF rfl) fun a hF => ?_
        refine ls <| q1 hF rfl (e_eql hF rfl rfl) fun a hF => ?_
        refine ls <| q1 hF rfl (e_move hF rfl) fun a hF => ?_
        refine grp (N := 106) (Fk := [(79, .bool ((decide (r67.2 = 12)) && (decide (r67.1 = 0))))]) (b := (decide (r67.2 = 12))) 3 hS ?_ ?_ ?_
        ·
          intro hb key
          replace hF := Fr.as hF (t := 76) rfl (congrArg Value.bool hb)
          refine ls <| gy hF rfl rfl <| q1 hF rfl (e_move hF rfl) fun a hF => ?_
          refine ls <| gy hF rfl rfl <| q1 hF rfl (e_eql hF rfl rfl) fun a hF => ?_
          refine ls <| q1 hF rfl (e_as (v' := .bool ((decide (r67.2 = 12)) && (decide (r67.1 = 0)))) (e_pickT hF rfl rfl) (by rw [hb]; rfl)) fun a hF => ?_
          exact key _ _ (hF.has ⟨rfl, trivial⟩) hS
        ·
          intro hb key
          replace hF := Fr.as hF (t := 76) rfl (congrArg Value.bool hb)
          refine ls <| gn hF rfl rfl rfl rfl fun a hF => ?_
          refine ls <| gn hF rfl rfl rfl rfl fun a hF => ?_
          refine ls <| q1 hF rfl (e_as (v' := .bool ((decide (r67.2 = 12)) && (decide (r67.1 = 0)))) (e_pickF hF rfl rfl) (by rw [hb]; rfl)) fun a hF => ?_
          exact key _ _ (hF.has ⟨rfl, trivial⟩) hS
        intro a w hF hS
        refine ls <| q1 hF rfl (e_as (e_move hF rfl) (congrArg Value.bool hb73)) fun a hF => ?_
        refine ls <| gy hF rfl rfl <| c1 hF rfl Tryd.call14 (leadlinelaw08_fixed_c (hp_le _) (Tab.mono (Tab.mono hT (fun b o h => hx26.sub b o (hx17.sub b o h))) (St.up hS)) h75) trivial (fun v w a hR hF => ?_)
        obtain ⟨rfl, hk⟩ := hR
        replace hS := hS.pass hk
        clear hk
        refine ls <| q1 hF rfl (e_pickT hF rfl rfl) fun a hF => ?_
        refine ls <| q1 hF rfl (e_asg hF rfl) fun a hF => ?_
        refine re <| ?_
        refine tn <| ?_
        refine wp_ret <| tr <| ?_
        obtain rfl := Option.some.inj hm
        exact r1 hF Tryd.results6 rfl ⟨rfl, hS.keep⟩
      ·
        replace hm := ite_f hm hb73
        refine rg <| ?_
        refine ls <| q1 hF rfl (e_move hF rfl) fun a hF => ?_
        refine ls <| q1 hF rfl (e_eql hF rfl rfl) fun a hF => ?_
        refine ls <| q1 hF rfl (e_move hF rfl) fun a hF => ?_
        refine grp (N := 106) (Fk := [(79, .bool ((decide (r67.2 = 12)) && (decide (r67.1 = 0))))]) (b := (decide (r67.2 = 12))) 3 hS ?_ ?_ ?_
        ·
          intro hb key
          replace hF := Fr.as hF (t := 76) rfl (congrArg Value.bool hb)
          refine ls <| gy hF rfl rfl <| q1 hF rfl (e_move hF rfl) fun a hF => ?_
          refine ls <| gy hF rfl rfl <| q1 hF rfl (e_eql hF rfl rfl) fun a hF => ?_
          refine ls <| q1 hF rfl (e_as (v' := .bool ((decide (r67.2 = 12)) && (decide (r67.1 = 0)))) (e_pickT hF rfl rfl) (by rw [hb]; rfl)) fun a hF => ?_
          exact key _ _ (hF.has ⟨rfl, trivial⟩) hS
        ·
          intro hb key
          replace hF := Fr.as hF (t := 76) rfl (congrArg Value.bool hb)
          refine ls <| gn hF rfl rfl rfl rfl fun a hF => ?_
          refine ls <| gn hF rfl rfl rfl rfl fun a hF => ?_
          refine ls <| q1 hF rfl (e_as (v' := .bool ((decide (r67.2 = 12)) && (decide (r67.1 = 0)))) (e_pickF hF rfl rfl) (by rw [hb]; rfl)) fun a hF => ?_
          exact key _ _ (hF.has ⟨rfl, trivial⟩) hS
        intro a w hF hS
        refine ls <| q1 hF rfl (e_as (e_move hF rfl) (congrArg Value.bool hb73)) fun a hF => ?_
        refine ls <| gn hF rfl rfl rfl rfl fun a hF => ?_
        refine ls <| q1 hF rfl (e_pickF hF rfl rfl) fun a hF => ?_
        refine ls <| q1 hF rfl (e_asg hF rfl) fun a hF => ?_
        refine re <| ?_
        refine tn <| ?_
        refine wp_ret <| tr <| ?_
        obtain rfl := Option.some.inj hm
        exact r1 hF Tryd.results6 rfl ⟨rfl, hS.keep⟩
    ·
      replace hm := ite_f hm hb72
      refine tn <| cfv hF rfl hb72 <| wp_skip <| ?_
      refine tn <| th <| ?_
      replace hm := bind_some hm
      obtain ⟨r82, h83, hm⟩ := hm
      refine rg <| ?_
      refine ls <| q1 hF rfl (e_bldK [.int .i64 2] [.int .i64 2, .int .i64 0] hF ⟨rfl, trivial⟩ (fun w => by kernel_rfl)) fun a hF => ?_
      refine ls <| q1 hF rfl (e_bldK [.int .i64 2, .int .i64 1] [.int .i64 2, .int .i64 1] hF ⟨rfl, rfl, trivial⟩ (fun w => by kernel_rfl)) fun a hF => ?_
      refine ls <| q1 hF rfl (e_move hF rfl) fun a hF => ?_
      refine ls <| q1 hF rfl (e_bldK [.int .i64 (IntKind.i64.wrap (5 + ((iand .i64 p11 65535).tmod 11)))] [.int .i64 (IntKind.i64.wrap (5 + ((iand .i64 p11 65535).tmod 11))), .int .i64 0] hF ⟨rfl, trivial⟩ (fun w => by kernel_rfl)) fun a hF => ?_
      refine ls <| a_bsl (e := 46) (sz := 2) [.int .i64 2, .int .i64 0, .int .i64 2, .int .i64 1, .int .i64 (IntKind.i64.wrap (5 + ((iand .i64 p11 65535).tmod 11))), .int .i64 0] hF rfl hS rfl rfl rfl (fun w => by kernel_rfl) fun b77 w a hS hF => ?_
      have hv76 : Rows (α := api_Op) H28 [.int .i64 2, .int .i64 0, .int .i64 2, .int .i64 1, .int .i64 (IntKind.i64.wrap (5 + ((iand .i64 p11 65535).tmod 11))), .int .i64 0] ([(api_Op.mk 2 0), (api_Op.mk 2 1), (api_Op.mk (IntKind.i64.wrap (5 + ((iand .i64 p11 65535).tmod 11))) 0)] : List api_Op) := (.cons (c := [.int .i64 2, .int .i64 0]) ⟨_, _, rfl, rfl, rfl⟩ (.cons (c := [.int .i64 2, .int .i64 1]) ⟨_, _, rfl, rfl, rfl⟩ (.cons (c := [.int .i64 (IntKind.i64.wrap (5 + ((iand .i64 p11 65535).tmod 11))), .int .i64 0]) ⟨_, _, rfl, rfl, rfl⟩ .nil)))
      refine ls <| q1 hF rfl (e_move hF rfl) fun a hF => ?_
      refine ls <| q1 hF rfl (e_move hF rfl) fun a hF => ?_
      refine ls <| a_bsl (e := 3) (sz := 1) [.int .i64 r33.1, .int .i64 r35.1] hF rfl hS rfl rfl rfl (fun w => by kernel_rfl) fun b80 w a hS hF => ?_
      have hv79 : Rows (α := Int) H28 [.int .i64 r33.1, .int .i64 r35.1] ([r33.1, r35.1] : List Int) := (.cons (c := [.int .i64 r33.1]) rfl (.cons (c := [.int .i64 r35.1]) rfl .nil))
      refine ls <| c1 hF rfl Tryd.call22 (leadlineref08_Run_c (hp_le _) (St.capO hS (.tail _ (.head _))) (St.srO hS (.tail _ (.head _)) hv76) (St.capO hS (.head _)) (St.srO hS (.head _) hv79) h83) ⟨rfl, rfl, trivial⟩ (fun v w a hR hF => ?_)
      obtain ⟨rfl, hk⟩ := hR
      replace hS := hS.pass hk
      clear hk
      refine ls <| q1 hF rfl (e_move hF rfl) fun a hF => ?_
      refine ls <| q1 hF rfl (e_ext hF rfl rfl) fun a hF => ?_
      refine ls <| q1 hF rfl (e_ext hF rfl rfl) fun a hF => ?_
      refine ls <| q1 hF rfl (e_asg hF rfl) fun a hF => ?_
      refine ls <| q1 hF rfl (e_asg hF rfl) fun a hF => ?_
      refine re <| ?_
      refine tn <| th <| ?_
      rcases bdich ((decide (r67.1 = r82.1)) && (decide (r67.2 = r82.2))) with hb84 | hb84
      ·
        replace hm := ite_t hm hb84
        replace hm := bind_some hm
        obtain ⟨r85, h86, hm⟩ := hm
        refine rg <| ?_
        refine ls <| q1 hF rfl (e_move hF rfl) fun a hF => ?_
        refine ls <| q1 hF rfl (e_move hF rfl) fun a hF => ?_
        refine ls <| q1 hF rfl (e_eql hF rfl rfl) fun a hF => ?_
        refine ls <| q1 hF rfl (e_move hF rfl) fun a hF => ?_
        refine grp (N := 106) (Fk := [(102, .bool ((decide (r67.1 = r82.1)) && (decide (r67.2 = r82.2))))]) (b := (decide (r67.1 = r82.1))) 4 hS ?_ ?_ ?_
        ·
          intro hb key
          replace hF := Fr.as hF (t := 98) rfl (congrArg Value.bool hb)
          refine ls <| gy hF rfl rfl <| q1 hF rfl (e_move hF rfl) fun a hF => ?_
          refine ls <| gy hF rfl rfl <| q1 hF rfl (e_move hF rfl) fun a hF => ?_
          refine ls <| gy hF rfl rfl <| q1 hF rfl (e_eql hF rfl rfl) fun a hF => ?_
          refine ls <| q1 hF rfl (e_as (v' := .bool ((decide (r67.1 = r82.1)) && (decide (r67.2 = r82.2)))) (e_pickT hF rfl rfl) (by rw [hb]; rfl)) fun a hF => ?_
          exact key _ _ (hF.has ⟨rfl, trivial⟩) hS
        ·
          intro hb key
          replace hF := Fr.as hF (t := 98) rfl (congrArg Value.bool hb)
          refine ls <| gn hF rfl rfl rfl rfl fun a hF => ?_
          refine ls <| gn hF rfl rfl rfl rfl fun a hF => ?_
          refine ls <| gn hF rfl rfl rfl rfl fun a hF => ?_
          refine ls <| q1 hF rfl (e_as (v' := .bool ((decide (r67.1 = r82.1)) && (decide (r67.2 = r82.2)))) (e_pickF hF rfl rfl) (by rw [hb]; rfl)) fun a hF => ?_
          exact key _ _ (hF.has ⟨rfl, trivial⟩) hS
        intro a w hF hS
        refine ls <| q1 hF rfl (e_as (e_move hF rfl) (congrArg Value.bool hb84)) fun a hF => ?_
        refine ls <| gy hF rfl rfl <| c1 hF rfl Tryd.call14 (leadlinelaw08_fixed_c (hp_le _) (Tab.mono (Tab.mono hT (fun b o h => hx26.sub b o (hx17.sub b o h))) (St.up hS)) h86) trivial (fun v w a hR hF => ?_)
        obtain ⟨rfl, hk⟩ := hR
        replace hS := hS.pass hk
        clear hk
        refine ls <| q1 hF rfl (e_pickT hF rfl rfl) fun a hF => ?_
        refine ls <| q1 hF rfl (e_asg hF rfl) fun a hF => ?_
        refine re <| ?_
        refine tn <| ?_
        refine wp_ret <| ?_
        obtain rfl := Option.some.inj hm
        exact r1 hF Tryd.results6 rfl ⟨rfl, hS.keep⟩
      ·
        replace hm := ite_f hm hb84
        refine rg <| ?_
        refine ls <| q1 hF rfl (e_move hF rfl) fun a hF => ?_
        refine ls <| q1 hF rfl (e_move hF rfl) fun a hF => ?_
        refine ls <| q1 hF rfl (e_eql hF rfl rfl) fun a hF => ?_
        refine ls <| q1 hF rfl (e_move hF rfl) fun a hF => ?_
        refine grp (N := 106) (Fk := [(102, .bool ((decide (r67.1 = r82.1)) && (decide (r67.2 = r82.2))))]) (b := (decide (r67.1 = r82.1))) 4 hS ?_ ?_ ?_
        ·
          intro hb key
          replace hF := Fr.as hF (t := 98) rfl (congrArg Value.bool hb)
          refine ls <| gy hF rfl rfl <| q1 hF rfl (e_move hF rfl) fun a hF => ?_
          refine ls <| gy hF rfl rfl <| q1 hF rfl (e_move hF rfl) fun a hF => ?_
          refine ls <| gy hF rfl rfl <| q1 hF rfl (e_eql hF rfl rfl) fun a hF => ?_
          refine ls <| q1 hF rfl (e_as (v' := .bool ((decide (r67.1 = r82.1)) && (decide (r67.2 = r82.2)))) (e_pickT hF rfl rfl) (by rw [hb]; rfl)) fun a hF => ?_
          exact key _ _ (hF.has ⟨rfl, trivial⟩) hS
        ·
          intro hb key
          replace hF := Fr.as hF (t := 98) rfl (congrArg Value.bool hb)
          refine ls <| gn hF rfl rfl rfl rfl fun a hF => ?_
          refine ls <| gn hF rfl rfl rfl rfl fun a hF => ?_
          refine ls <| gn hF rfl rfl rfl rfl fun a hF => ?_
          refine ls <| q1 hF rfl (e_as (v' := .bool ((decide (r67.1 = r82.1)) && (decide (r67.2 = r82.2)))) (e_pickF hF rfl rfl) (by rw [hb]; rfl)) fun a hF => ?_
          exact key _ _ (hF.has ⟨rfl, trivial⟩) hS
        intro a w hF hS
        refine ls <| q1 hF rfl (e_as (e_move hF rfl) (congrArg Value.bool hb84)) fun a hF => ?_
        refine ls <| gn hF rfl rfl rfl rfl fun a hF => ?_
        refine ls <| q1 hF rfl (e_pickF hF rfl rfl) fun a hF => ?_
        refine ls <| q1 hF rfl (e_asg hF rfl) fun a hF => ?_
        refine re <| ?_
        refine tn <| ?_
        refine wp_ret <| ?_
        obtain rfl := Option.some.inj hm
        exact r1 hF Tryd.results6 rfl ⟨rfl, hS.keep⟩
end Go.LM.CODE
