/- Walks, lifted by program. No condition beyond each theorem's own premises. -/
import Derived.Test.YtkgaliichchanaaLRW1
namespace Go.LM.LINES
open Go Go.LL Go.MD Go.LM Go.Proofs Go.MD.LINES

set_option maxHeartbeats 4000000 in
set_option maxRecDepth 100000 in
theorem leadlineref11_Mem_Out__m0_71_ffooo_c {N : Nat} {w0 : World} {H : PH} (hH : H.le w0) {b2 : Nat} {p1 : leadlineref11_Mem} {oa3 : Option Addr} {cap4 : Nat} (hc5 : p1.Of.length ≤ cap4) (hr6 : SR H oa3 p1.Of) {oa7 : Option Addr} {cap8 : Nat} (hc9 : p1.Firsts.length ≤ cap8) (hr10 : SR H oa7 p1.Firsts) {oa11 : Option Addr} {cap12 : Nat} {vs13 : List Value} (hv14 : Rows H vs13 p1.L) {oa16 : Option Addr} {cap17 : Nat} {vs18 : List Value} (hv19 : Rows H vs18 p1.K) {oa21 : Option Addr} {cap22 : Nat} {vs23 : List Value} (hv24 : Rows H vs23 p1.W) {p26 : Int} (hO : (sepA [blk b2 (.cells [.slice oa3 p1.Of.length cap4, .slice oa7 p1.Firsts.length cap8, .slice oa11 p1.L.length cap12, .slice oa16 p1.K.length cap17, .slice oa21 p1.W.length cap22].toArray 71 (0, 0)), sla 3 1 oa11 p1.L.length cap12 vs13, sla 3 1 oa16 p1.K.length cap17 vs18, sla 73 3 oa21 p1.W.length cap22 vs23]).ok (hp w0)) (hD : ∀ b, (sepA [blk b2 (.cells [.slice oa3 p1.Of.length cap4, .slice oa7 p1.Firsts.length cap8, .slice oa11 p1.L.length cap12, .slice oa16 p1.K.length cap17, .slice oa21 p1.W.length cap22].toArray 71 (0, 0)), sla 3 1 oa11 p1.L.length cap12 vs13, sla 3 1 oa16 p1.K.length cap17 vs18, sla 73 3 oa21 p1.W.length cap22 vs23]).fp b → H b = none) {r : (Int × leadlineref11_Mem)} (hm : leadlineref11_Mem_Out__m0_71_ffooo N p1 p26 = some r) : Tot Try.prog 23 #[.pointer (some ⟨b2, 0, none⟩), .int .i64 p26] w0 (fun v w' => ∃ (oa1m : Option Addr) (cap1m : Nat) (oa2m : Option Addr) (cap2m : Nat) (oa3m : Option Addr) (cap3m : Nat) (vs3m : List Value) (oa4m : Option Addr) (cap4m : Nat) (vs4m : List Value) (oa5m : Option Addr) (cap5m : Nat) (vs5m : List Value), v = .int .i64 r.1 ∧ r.2.Of.length ≤ cap1m ∧ SR H oa1m r.2.Of ∧ r.2.Firsts.length ≤ cap2m ∧ SR H oa2m r.2.Firsts ∧ (∀ h, Rows h vs3m r.2.L) ∧ (∀ h, Rows h vs4m r.2.K) ∧ (∀ h, Rows h vs5m r.2.W) ∧ Mut w0 (sepA [blk b2 (.cells [.slice oa3 p1.Of.length cap4, .slice oa7 p1.Firsts.length cap8, .slice oa11 p1.L.length cap12, .slice oa16 p1.K.length cap17, .slice oa21 p1.W.length cap22].toArray 71 (0, 0)), sla 3 1 oa11 p1.L.length cap12 vs13, sla 3 1 oa16 p1.K.length cap17 vs18, sla 73 3 oa21 p1.W.length cap22 vs23]) (sepA [blk b2 (.cells [.slice oa1m r.2.Of.length cap1m, .slice oa2m r.2.Firsts.length cap2m, .slice oa3m r.2.L.length cap3m, .slice oa4m r.2.K.length cap4m, .slice oa5m r.2.W.length cap5m].toArray 71 (0, 0)), sla 3 1 oa3m r.2.L.length cap3m vs3m, sla 3 1 oa4m r.2.K.length cap4m vs4m, sla 73 3 oa5m r.2.W.length cap5m vs5m]) w') := by
  unfold leadlineref11_Mem_Out__m0_71_ffooo at hm
  refine fn0 (args := [.pointer (some ⟨b2, 0, none⟩), .int .i64 p26]) (F := [(0, .pointer (some ⟨b2, 0, none⟩)), (1, .int .i64 p26)]) Try.func23 rfl Try.ntmps23 rfl rfl fun a hF => ?_
  have hS := startM hH hO hD
  refine th <| ?_
  refine rg <| ?_
  refine ls <| q1 hF rfl (e_asg hF rfl) fun a hF => ?_
  refine re <| ?_
  refine tn <| th <| th <| midK (fun a w => ∃ (vA1 : (List Int)) (vA6 : (List Int)) (vA11 : (List Int)) (vA17 : (List Int)) (vA23 : (List leadlineref11_Put)) (vA29 : Bool) (oaA2 : Option Addr) (capA3 : Nat) (oaA7 : Option Addr) (capA8 : Nat) (oaA12 : Option Addr) (capA13 : Nat) (vsA14 : List Value) (oaA18 : Option Addr) (capA19 : Nat) (vsA20 : List Value) (oaA24 : Option Addr) (capA25 : Nat) (vsA26 : List Value), (leadlineref11_Mem_Out__m0_71_ffooo_j1 N p26) vA1 vA6 vA11 vA17 vA23 vA29 = some r ∧ Fr 70 [(0, .pointer (some ⟨b2, 0, none⟩)), (1, .int .i64 p26), (14, .bool vA29)] a ∧ St w0 (sepA [blk b2 (.cells [.slice oa3 p1.Of.length cap4, .slice oa7 p1.Firsts.length cap8, .slice oa11 p1.L.length cap12, .slice oa16 p1.K.length cap17, .slice oa21 p1.W.length cap22].toArray 71 (0, 0)), sla 3 1 oa11 p1.L.length cap12 vs13, sla 3 1 oa16 p1.K.length cap17 vs18, sla 73 3 oa21 p1.W.length cap22 vs23]).fp [H] [sla 3 1 oaA12 vA11.length capA13 vsA14, sla 3 1 oaA18 vA17.length capA19 vsA20, sla 73 3 oaA24 vA23.length capA25 vsA26, blk b2 (.cells [.slice oaA2 vA1.length capA3, .slice oaA7 vA6.length capA8, .slice oaA12 vA11.length capA13, .slice oaA18 vA17.length capA19, .slice oaA24 vA23.length capA25].toArray 71 (0, 0))] w ∧ vA1.length ≤ capA3 ∧ SR H oaA2 vA1 ∧ vA6.length ≤ capA8 ∧ SR H oaA7 vA6 ∧ Rows H vsA14 vA11 ∧ Rows H vsA20 vA17 ∧ Rows H vsA26 vA23) ?_ ?_
  ·
    rcases bdich (decide (p26 < 0)) with hb27 | hb27
    ·
      replace hm := itp_t hm hb27
      refine rg <| ?_
      refine ls <| q1 hF rfl (e_move hF rfl) fun a hF => ?_
      refine ls <| q1 hF rfl (e_lss hF rfl rfl) fun a hF => ?_
      refine ls <| q1 hF rfl (e_as (e_move hF rfl) (congrArg Value.bool hb27)) fun a hF => ?_
      refine ls <| gn hF rfl rfl rfl rfl fun a hF => ?_
      refine ls <| gn hF rfl rfl rfl rfl fun a hF => ?_
      refine ls <| gn hF rfl rfl rfl rfl fun a hF => ?_
      refine ls <| gn hF rfl rfl rfl rfl fun a hF => ?_
      refine ls <| q1 hF rfl (e_pickT hF rfl rfl) fun a hF => ?_
      refine re <| ?_
      refine tn <| ?_
      replace hS := hS.pickL (.cons (.tail .head) (.cons (.tail .head) (.cons (.tail .head) (.cons .head .nil))))
      exact ⟨p1.Of, p1.Firsts, p1.L, p1.K, p1.W, true, oa3, cap4, oa7, cap8, oa11, cap12, vs13, oa16, cap17, vs18, oa21, cap22, vs23, hm, hF.has ⟨rfl, rfl, rfl, trivial⟩, hS, hc5, hr6, hc9, hr10, hv14, hv19, hv24⟩
    ·
      replace hm := itp_f hm hb27
      replace hm := bind_some hm
      obtain ⟨r28, h29, hm⟩ := hm
      refine rg <| ?_
      refine ls <| q1 hF rfl (e_move hF rfl) fun a hF => ?_
      refine ls <| q1 hF rfl (e_lss hF rfl rfl) fun a hF => ?_
      refine ls <| q1 hF rfl (e_as (e_move hF rfl) (congrArg Value.bool hb27)) fun a hF => ?_
      refine ls <| gy hF rfl rfl <| q1 hF rfl (e_move hF rfl) fun a hF => ?_
      refine ls <| gy hF rfl rfl <| q1 hF rfl (e_move hF rfl) fun a hF => ?_
      replace hS := hS.pickL (.cons .head (.cons .head (.cons .head (.cons .head .nil))))
      replace hS := St.sep [blk b2 (.cells [.slice oa3 p1.Of.length cap4, .slice oa7 p1.Firsts.length cap8, .slice oa11 p1.L.length cap12, .slice oa16 p1.K.length cap17, .slice oa21 p1.W.length cap22].toArray 71 (0, 0)), sla 3 1 oa11 p1.L.length cap12 vs13, sla 3 1 oa16 p1.K.length cap17 vs18, sla 73 3 oa21 p1.W.length cap22 vs23] hS
      refine ls <| gy hF rfl rfl <| c1 hF rfl Try.call34 (leadlineref11_Mem_Lines__m0_71_ffooo_c (St.le hS) (p1 := p1) (b2 := b2) (oa3 := oa3) (cap4 := cap4) (oa7 := oa7) (cap8 := cap8) (oa11 := oa11) (cap12 := cap12) (vs13 := vs13) (oa16 := oa16) (cap17 := cap17) (vs18 := vs18) (oa21 := oa21) (cap22 := cap22) (vs23 := vs23) hc5 hr6 hc9 hr10 hv14 hv19 hv24 (St.sepOk hS) (St.sepDis hS) h29) ⟨rfl, trivial⟩ (fun v w a hR hF => ?_)
      obtain ⟨oa30, cap31, oa34, cap35, oa38, cap39, vs40, oa43, cap44, vs45, oa48, cap49, vs50, rfl, hc32, hr33, hc36, hr37, hv41, hv46, hv51, hk⟩ := hR
      replace hS := (hS.mut hk .head).unsep
      clear hk
      replace hv41 := hv41 H
      replace hv46 := hv46 H
      replace hv51 := hv51 H
      refine ls <| gy hF rfl rfl <| q1 hF rfl (e_geq hF rfl rfl) fun a hF => ?_
      refine ls <| q1 hF rfl (e_pickF hF rfl rfl) fun a hF => ?_
      refine re <| ?_
      refine tn <| ?_
      replace hS := hS.pickL (.cons (.tail .head) (.cons (.tail .head) (.cons (.tail .head) (.cons .head .nil))))
      exact ⟨r28.2.Of, r28.2.Firsts, r28.2.L, r28.2.K, r28.2.W, (decide (r28.1 ≤ p26)), oa30, cap31, oa34, cap35, oa38, cap39, vs40, oa43, cap44, vs45, oa48, cap49, vs50, hm, hF.has ⟨rfl, rfl, rfl, trivial⟩, hS, hc32, hr33, hc36, hr37, hv41, hv46, hv51⟩
  clear hm hF hS
  rintro a w ⟨vA1, vA6, vA11, vA17, vA23, vA29, oaA2, capA3, oaA7, capA8, oaA12, capA13, vsA14, oaA18, capA19, vsA20, oaA24, capA25, vsA26, hm, hF, hS, hcA4, hrA5, hcA9, hrA10, hvA15, hvA21, hvA27⟩
  unfold leadlineref11_Mem_Out__m0_71_ffooo_j1 at hm
  rcases bdich vA29 with hb53 | hb53
  ·
    replace hm := ite_t hm hb53
    refine ctv hF rfl hb53 <| th <| ?_
    refine rg <| ?_
    refine ls <| q1 hF rfl (e_asg hF rfl) fun a hF => ?_
    refine re <| ?_
    refine tn <| ?_
    refine wr <| tr <| ?_
    obtain rfl := Option.some.inj hm
    exact r1 hF Try.results23 rfl ⟨oaA2, capA3, oaA7, capA8, oaA12, capA13, vsA14, oaA18, capA19, vsA20, oaA24, capA25, vsA26, rfl, hcA4, hrA5, hcA9, hrA10, (fun _ => Rows.ind hvA15), (fun _ => Rows.ind hvA21), (fun _ => Rows.ind hvA27), (hS.pickL (.cons (.tail (.tail (.tail .head))) (.cons .head (.cons .head (.cons .head .nil))))).endMut⟩
  ·
    replace hm := ite_f hm hb53
    refine cfv hF rfl hb53 <| wk <| ?_
    refine tn <| th <| ?_
    refine rg <| ?_
    refine ls <| a_bsl (e := 73) (sz := 3) [] hF rfl hS rfl rfl rfl (fun w => by kernel_rfl) fun b55 w a hS hF => ?_
    have hv54 : Rows (α := leadlineref11_Put) H [] [] := .nil
    refine ls <| q1 hF rfl (e_asg hF rfl) fun a hF => ?_
    refine re <| ?_
    refine tn <| th <| th <| ?_
    refine rg <| ?_
    refine ls <| q1 hF rfl (e_asg hF rfl) fun a hF => ?_
    refine re <| ?_
    refine tn <| midK (fun a w => ∃ (vA30 : (List Int)) (vA36 : (List leadlineref11_Put)) (oaA31 : Option Addr) (capA32 : Nat) (vsA33 : List Value) (oaA37 : Option Addr) (capA38 : Nat) (vsA39 : List Value), (leadlineref11_Mem_Out__m0_71_ffooo_j2 vA1 vA6 vA11) vA30 vA36 = some r ∧ Fr 70 [(0, .pointer (some ⟨b2, 0, none⟩)), (5, .slice oaA37 vA36.length capA38)] a ∧ St w0 (sepA [blk b2 (.cells [.slice oa3 p1.Of.length cap4, .slice oa7 p1.Firsts.length cap8, .slice oa11 p1.L.length cap12, .slice oa16 p1.K.length cap17, .slice oa21 p1.W.length cap22].toArray 71 (0, 0)), sla 3 1 oa11 p1.L.length cap12 vs13, sla 3 1 oa16 p1.K.length cap17 vs18, sla 73 3 oa21 p1.W.length cap22 vs23]).fp [H] [sla 3 1 oaA12 vA11.length capA13 vsA14, sla 3 1 oaA31 vA30.length capA32 vsA33, sla 73 3 oaA24 vA23.length capA25 vsA26, blk b2 (.cells [.slice oaA2 vA1.length capA3, .slice oaA7 vA6.length capA8, .slice oaA12 vA11.length capA13, .slice oaA31 vA30.length capA32, .slice oaA24 vA23.length capA25].toArray 71 (0, 0)), sla 73 3 oaA37 vA36.length capA38 vsA39] w ∧ Rows H vsA33 vA30 ∧ Rows H vsA39 vA36) ?_ ?_
    ·
      replace hS := hS.pickL (.cons (.tail .head) (.cons (.tail .head) (.cons (.tail .head) (.cons (.tail .head) (.cons .head .nil)))))
      refine wb <| lp (α := Nat × (List Int) × (List leadlineref11_Put) × Int) (fun (gh : Nat × (List Int) × (List leadlineref11_Put) × Int) a w => match gh with | (nn3, vB1, vB7, vB13) => ∃ (oaB2 : Option Addr) (capB3 : Nat) (vsB4 : List Value) (oaB8 : Option Addr) (capB9 : Nat) (vsB10 : List Value), (leadlineref11_Mem_Out__m0_71_ffooo_l3 N (leadlineref11_Mem_Out__m0_71_ffooo_j2 vA1 vA6 vA11) p26 vA23) nn3 vB1 vB7 vB13 = some r ∧ Fr 70 [(0, .pointer (some ⟨b2, 0, none⟩)), (1, .int .i64 p26), (5, .slice oaB8 vB7.length capB9), (6, .int .i64 vB13)] a ∧ St w0 (sepA [blk b2 (.cells [.slice oa3 p1.Of.length cap4, .slice oa7 p1.Firsts.length cap8, .slice oa11 p1.L.length cap12, .slice oa16 p1.K.length cap17, .slice oa21 p1.W.length cap22].toArray 71 (0, 0)), sla 3 1 oa11 p1.L.length cap12 vs13, sla 3 1 oa16 p1.K.length cap17 vs18, sla 73 3 oa21 p1.W.length cap22 vs23]).fp [H] [sla 3 1 oaA12 vA11.length capA13 vsA14, sla 3 1 oaB2 vB1.length capB3 vsB4, sla 73 3 oaA24 vA23.length capA25 vsA26, blk b2 (.cells [.slice oaA2 vA1.length capA3, .slice oaA7 vA6.length capA8, .slice oaA12 vA11.length capA13, .slice oaB2 vB1.length capB3, .slice oaA24 vA23.length capA25].toArray 71 (0, 0)), sla 73 3 oaB8 vB7.length capB9 vsB10] w ∧ Rows H vsB4 vB1 ∧ Rows H vsB10 vB7) (fun gh => gh.1) (N, vA17, [], 0) ⟨oaA18, capA19, vsA20, (some ⟨b55, 0, none⟩), 0, [], hm, hF.has ⟨rfl, rfl, rfl, rfl, trivial⟩, hS, hvA21, hv54⟩ ?_
      clear hm hF hS
      rintro ⟨nn3, vB1, vB7, vB13⟩ a w ⟨oaB2, capB3, vsB4, oaB8, capB9, vsB10, hm, hF, hS, hvB5, hvB11⟩
      obtain _ | nn3 := nn3
      · simp [leadlineref11_Mem_Out__m0_71_ffooo_l3] at hm
      rw [leadlineref11_Mem_Out__m0_71_ffooo_l3] at hm
      refine th <| th <| ?_
      refine rg <| ?_
      refine ls <| q1 hF rfl (e_move hF rfl) fun a hF => ?_
      refine ls <| q1 hF rfl (e_move hF rfl) fun a hF => ?_
      refine ls <| q1 hF rfl (e_nilp hF rfl) fun a hF => ?_
      refine ls <| q1 hF rfl (e_fa hF fa71_4 rfl) fun a hF => ?_
      refine ls <| q1 hF rfl (e_ld hF Try.isAgg69 rfl ((St.ld hS).cellB (.tail _ (.tail _ (.tail _ (.head _)))) rfl)) fun a hF => ?_
      refine ls <| q1 hF rfl (e_lenL (α := leadlineref11_Put) (xs := vA23) hF Try.runUnderlying69 rfl) fun a hF => ?_
      refine ls <| q1 hF rfl (e_lss hF rfl rfl) fun a hF => ?_
      refine re <| ?_
      rcases bdich (decide (vB13 < (vA23.length : Int))) with hb57 | hb57
      ·
        replace hm := itp_t hm hb57
        refine tn <| ctv hF rfl hb57 <| wk <| ?_
        refine tn <| th <| midK (fun a w => ∃ (vC1 : (List Int)) (vC7 : (List leadlineref11_Put)) (oaC2 : Option Addr) (capC3 : Nat) (vsC4 : List Value) (oaC8 : Option Addr) (capC9 : Nat) (vsC10 : List Value), (leadlineref11_Mem_Out__m0_71_ffooo_j4 (leadlineref11_Mem_Out__m0_71_ffooo_l3 N (leadlineref11_Mem_Out__m0_71_ffooo_j2 vA1 vA6 vA11) p26 vA23 nn3) vB13) vC1 vC7 = some r ∧ Fr 70 [(0, .pointer (some ⟨b2, 0, none⟩)), (1, .int .i64 p26), (5, .slice oaC8 vC7.length capC9), (6, .int .i64 vB13)] a ∧ St w0 (sepA [blk b2 (.cells [.slice oa3 p1.Of.length cap4, .slice oa7 p1.Firsts.length cap8, .slice oa11 p1.L.length cap12, .slice oa16 p1.K.length cap17, .slice oa21 p1.W.length cap22].toArray 71 (0, 0)), sla 3 1 oa11 p1.L.length cap12 vs13, sla 3 1 oa16 p1.K.length cap17 vs18, sla 73 3 oa21 p1.W.length cap22 vs23]).fp [H] [sla 3 1 oaA12 vA11.length capA13 vsA14, sla 3 1 oaC2 vC1.length capC3 vsC4, sla 73 3 oaA24 vA23.length capA25 vsA26, blk b2 (.cells [.slice oaA2 vA1.length capA3, .slice oaA7 vA6.length capA8, .slice oaA12 vA11.length capA13, .slice oaC2 vC1.length capC3, .slice oaA24 vA23.length capA25].toArray 71 (0, 0)), sla 73 3 oaC8 vC7.length capC9 vsC10] w ∧ Rows H vsC4 vC1 ∧ Rows H vsC10 vC7) ?_ ?_
        ·
          refine wb <| th <| ?_
          replace hm := bind_some hm
          obtain ⟨x58, h59, hm⟩ := hm
          have ho60 := Rd.oaI (hS.rdO (.tail _ (.tail _ (.head _)))) hvA27 (by decide) h59
          obtain ⟨c61, g62, hl63⟩ := Rows.getI hvA27 h59
          obtain rfl := leadlineref11_Put_open g62
          refine rg <| ?_
          refine ls <| q1 hF rfl (e_move hF rfl) fun a hF => ?_
          refine ls <| q1 hF rfl (e_nilp hF rfl) fun a hF => ?_
          refine ls <| q1 hF rfl (e_fa hF fa71_4 rfl) fun a hF => ?_
          refine ls <| q1 hF rfl (e_ld hF Try.isAgg69 rfl ((St.ld hS).cellB (.tail _ (.tail _ (.tail _ (.head _)))) rfl)) fun a hF => ?_
          refine ls <| q1 hF rfl (e_move hF rfl) fun a hF => ?_
          refine ls <| q1 hF rfl (e_iaI hF Try.runUnderlying69 Try.sizeOf73 rfl rfl h59 ho60) fun a hF => ?_
          refine ls <| q1 hF rfl (e_fa hF fa73_0 rfl) fun a hF => ?_
          refine ls <| q1 hF rfl (e_ld hF Try.isAgg3 rfl ((St.ld hS).elO2 (.tail _ (.tail _ (.head _))) (hl63 0 _ rfl))) fun a hF => ?_
          refine ls <| q1 hF rfl (e_move hF rfl) fun a hF => ?_
          refine ls <| q1 hF rfl (e_eql hF rfl rfl) fun a hF => ?_
          refine re <| ?_
          rcases bdich (decide (x58.Line = p26)) with hb64 | hb64
          ·
            replace hm := itp_t hm hb64
            refine tn <| ctv hF rfl hb64 <| ?_
            have ho65 := Rd.oaI (hS.rdO (.tail _ (.tail _ (.head _)))) hvA27 (by decide) h59
            have ho66 := Rd.oaI (hS.rdO (.tail _ (.tail _ (.head _)))) hvA27 (by decide) h59
            replace hm := bind_some hm
            obtain ⟨x67, h68, hm⟩ := hm
            have ho69 := Rd.oaI (hS.rdO (.tail _ (.head _))) hvB5 (by decide) h68
            replace hm := bind_some hm
            obtain ⟨l70, h71, hm⟩ := hm
            refine rxS 21 hS wide (by kernel_rfl) fun w hS => ?_
            refine x1 (St.ld hS) hF rfl rfl (fun _ _ _ h => h) (fun w hl => (e_move hF rfl)) fun a hF => ?_
            refine x1 (St.ld hS) hF rfl rfl (fun _ _ _ h => h) (fun w hl => (e_nilp hF rfl)) fun a hF => ?_
            refine x1 (St.ld hS) hF rfl rfl (fun _ _ _ h => h) (fun w hl => (e_fa hF fa71_3 rfl)) fun a hF => ?_
            refine x1 (St.ld hS) hF rfl rfl (fun _ _ _ h => h) (fun w hl => (e_ld hF Try.isAgg26 rfl (hl.cellB (.tail _ (.tail _ (.tail _ (.head _)))) rfl))) fun a hF => ?_
            refine x1 (St.ld hS) hF rfl rfl (fun _ _ _ h => h) (fun w hl => (e_move hF rfl)) fun a hF => ?_
            refine x1 (St.ld hS) hF rfl rfl (fun _ _ _ h => h) (fun w hl => (e_nilp hF rfl)) fun a hF => ?_
            refine x1 (St.ld hS) hF rfl rfl (fun _ _ _ h => h) (fun w hl => (e_fa hF fa71_4 rfl)) fun a hF => ?_
            refine x1 (St.ld hS) hF rfl rfl (fun _ _ _ h => h) (fun w hl => (e_ld hF Try.isAgg69 rfl (hl.cellB (.tail _ (.tail _ (.tail _ (.head _)))) rfl))) fun a hF => ?_
            refine x1 (St.ld hS) hF rfl rfl (fun _ _ _ h => h) (fun w hl => (e_move hF rfl)) fun a hF => ?_
            refine x1 (St.ld hS) hF rfl rfl (fun _ _ _ h => h) (fun w hl => (e_iaI hF Try.runUnderlying69 Try.sizeOf73 rfl rfl h59 ho65)) fun a hF => ?_
            refine x1 (St.ld hS) hF rfl rfl (fun _ _ _ h => h) (fun w hl => (e_fa hF fa73_1 rfl)) fun a hF => ?_
            refine x1 (St.ld hS) hF rfl rfl (fun _ _ _ h => h) (fun w hl => (e_ld hF Try.isAgg3 rfl (hl.elO2 (.tail _ (.tail _ (.head _))) (hl63 1 _ rfl)))) fun a hF => ?_
            refine x1 (St.ld hS) hF rfl rfl (fun _ _ _ h => h) (fun w hl => (e_move hF rfl)) fun a hF => ?_
            refine x1 (St.ld hS) hF rfl rfl (fun _ _ _ h => h) (fun w hl => (e_nilp hF rfl)) fun a hF => ?_
            refine x1 (St.ld hS) hF rfl rfl (fun _ _ _ h => h) (fun w hl => (e_fa hF fa71_4 rfl)) fun a hF => ?_
            refine x1 (St.ld hS) hF rfl rfl (fun _ _ _ h => h) (fun w hl => (e_ld hF Try.isAgg69 rfl (hl.cellB (.tail _ (.tail _ (.tail _ (.head _)))) rfl))) fun a hF => ?_
            refine x1 (St.ld hS) hF rfl rfl (fun _ _ _ h => h) (fun w hl => (e_move hF rfl)) fun a hF => ?_
            refine x1 (St.ld hS) hF rfl rfl (fun _ _ _ h => h) (fun w hl => (e_iaI hF Try.runUnderlying69 Try.sizeOf73 rfl rfl h59 ho66)) fun a hF => ?_
            refine x1 (St.ld hS) hF rfl rfl (fun _ _ _ h => h) (fun w hl => (e_fa hF fa73_2 rfl)) fun a hF => ?_
            refine x1 (St.ld hS) hF rfl rfl (fun _ _ _ h => h) (fun w hl => (e_ld hF Try.isAgg3 rfl (hl.elO2 (.tail _ (.tail _ (.head _))) (hl63 2 _ rfl)))) fun a hF => ?_
            refine x1 (St.ld hS) hF rfl rfl (fun _ _ _ h => h) (fun w hl => (e_iaI hF Try.runUnderlying26 Try.sizeOf3 rfl rfl h68 ho69)) fun a hF => ?_
            have hn74 := setI_len h71
            refine xz rfl <| s_slJ (α := Int) hF hS Try.sizeOf3 rfl rfl rfl rfl hvB5 rfl h71 (.tail _ (.head _)) fun vs72 w hv73 hU => ?_
            replace hS := hU _ (.tail .head)
            clear hU
            replace hS := St.eqL hS (A' := blk b2 (.cells [.slice oaA2 vA1.length capA3, .slice oaA7 vA6.length capA8, .slice oaA12 vA11.length capA13, .slice oaB2 l70.length capB3, .slice oaA24 vA23.length capA25].toArray 71 (0, 0))) (.tail (.tail (.tail .head))) (by rw [hn74])
            refine bn <| tn <| ?_
            exact ⟨l70, vB7, oaB2, capB3, vs72, oaB8, capB9, vsB10, hm, hF.has ⟨rfl, rfl, rfl, rfl, trivial⟩, hS, hv73, hvB11⟩
          ·
            replace hm := itp_f hm hb64
            refine tn <| cfv hF rfl hb64 <| ?_
            have ho75 := Rd.oaI (hS.rdO (.tail _ (.tail _ (.head _)))) hvA27 (by decide) h59
            replace hm := bind_some hm
            obtain ⟨l79, h80, hm⟩ := hm
            refine rg <| ?_
            refine ls <| q1 hF rfl (e_move hF rfl) fun a hF => ?_
            refine ls <| q1 hF rfl (e_move hF rfl) fun a hF => ?_
            refine ls <| q1 hF rfl (e_nilp hF rfl) fun a hF => ?_
            refine ls <| q1 hF rfl (e_fa hF fa71_4 rfl) fun a hF => ?_
            refine ls <| q1 hF rfl (e_ld hF Try.isAgg69 rfl ((St.ld hS).cellB (.tail _ (.tail _ (.tail _ (.head _)))) rfl)) fun a hF => ?_
            refine ls <| q1 hF rfl (e_move hF rfl) fun a hF => ?_
            refine ls <| q1 hF rfl (e_iaI hF Try.runUnderlying69 Try.sizeOf73 rfl rfl h59 ho75) fun a hF => ?_
            refine ls <| q1 hF rfl (e_ldA hF Try.isAgg73 Try.sizeOf73 rfl rfl ((St.ld hS).elsO (.tail _ (.tail _ (.head _))) hl63)) fun a hF => ?_
            refine ls <| a_bsl (e := 73) (sz := 3) [.int .i64 x58.Line, .int .i64 x58.Cell, .int .i64 x58.N] hF rfl hS rfl rfl rfl (fun w => by kernel_rfl) fun b77 w a hS hF => ?_
            have hv76 : Rows (α := leadlineref11_Put) H [.int .i64 x58.Line, .int .i64 x58.Cell, .int .i64 x58.N] ([x58] : List leadlineref11_Put) := (.cons (c := [.int .i64 x58.Line, .int .i64 x58.Cell, .int .i64 x58.N]) ⟨_, _, rfl, rfl, ⟨_, _, rfl, rfl, rfl⟩⟩ .nil)
            refine ls <| m_app (α := leadlineref11_Put) (xs := vB7) (ys := ([x58] : List leadlineref11_Put)) hF rfl hS Try.underlying69 info73 rfl (by decide) rfl rfl rfl (.tail _ (.tail _ (.tail _ (.tail _ (.tail _ (.head _)))))) hvB11 (hS.rdO (.head _)) hv76 h80 fun oa81 cap82 vs83 w a hv84 hU hF => ?_
            replace hS := hU _ (.tail (.tail (.tail (.tail (.tail .head)))))
            clear hU
            replace hS := hS.drop .head
            refine ls <| q1 hF rfl (e_asg hF rfl) fun a hF => ?_
            refine re <| ?_
            refine bn <| tn <| ?_
            exact ⟨vB1, l79, oaB2, capB3, vsB4, oa81, cap82, vs83, hm, hF.has ⟨rfl, rfl, rfl, rfl, trivial⟩, hS, hvB5, hv84⟩
        clear hm hF hS
        rintro a w ⟨vC1, vC7, oaC2, capC3, vsC4, oaC8, capC9, vsC10, hm, hF, hS, hvC5, hvC11⟩
        unfold leadlineref11_Mem_Out__m0_71_ffooo_j4 at hm
        refine rg <| ?_
        refine ls <| q1 hF rfl (e_move hF rfl) fun a hF => ?_
        refine ls <| q1 hF rfl (e_add hF rfl rfl) fun a hF => ?_
        refine ls <| q1 hF rfl (e_asg hF rfl) fun a hF => ?_
        refine re <| ?_
        refine tn <| ?_
        exact ⟨(nn3, vC1, vC7, (IntKind.i64.wrap (vB13 + 1))), ⟨oaC2, capC3, vsC4, oaC8, capC9, vsC10, hm, hF.has ⟨rfl, rfl, rfl, rfl, trivial⟩, hS, hvC5, hvC11⟩, Nat.lt_succ_self _⟩
      ·
        replace hm := itp_f hm hb57
        refine tn <| cfv hF rfl hb57 <| ?_
        refine we <| tx <| tx <| bx <| ?_
        refine tn <| ?_
        exact ⟨vB1, vB7, oaB2, capB3, vsB4, oaB8, capB9, vsB10, hm, hF.has ⟨rfl, rfl, trivial⟩, hS, hvB5, hvB11⟩
    clear hm hF hS
    rintro a w ⟨vA30, vA36, oaA31, capA32, vsA33, oaA37, capA38, vsA39, hm, hF, hS, hvA34, hvA40⟩
    unfold leadlineref11_Mem_Out__m0_71_ffooo_j2 at hm
    refine th <| ?_
    refine rg <| ?_
    refine ls <| q1 hF rfl (e_move hF rfl) fun a hF => ?_
    refine ls <| q1 hF rfl (e_move hF rfl) fun a hF => ?_
    refine ls <| q1 hF rfl (e_nilp hF rfl) fun a hF => ?_
    refine ls <| q1 hF rfl (e_fa hF fa71_4 rfl) fun a hF => ?_
    refine ls <| s_blk hF hS Try.sizeOf69 rfl rfl rfl rfl (.tail (.tail (.tail .head))) (.succ (.succ (.succ (.succ .zero)))) fun w hS => ?_
    refine re <| ?_
    refine tn <| th <| ?_
    refine rg <| ?_
    refine ls <| q1 hF rfl (e_asg hF rfl) fun a hF => ?_
    refine re <| ?_
    refine tn <| ?_
    refine wr <| ?_
    obtain rfl := Option.some.inj hm
    exact r1 hF Try.results23 rfl ⟨oaA2, capA3, oaA7, capA8, oaA12, capA13, vsA14, oaA31, capA32, vsA33, oaA37, capA38, vsA39, rfl, hcA4, hrA5, hcA9, hrA10, (fun _ => Rows.ind hvA15), (fun _ => Rows.ind hvA34), (fun _ => Rows.ind hvA40), (hS.pickL (.cons (.tail (.tail (.tail .head))) (.cons .head (.cons .head (.cons (.tail .head) .nil))))).endMut⟩

set_option maxRecDepth 100000 in
theorem leadlineref11_Mem_Pending__m0_71_ffooo_c {N : Nat} {w0 : World} {H : PH} (hH : H.le w0) {b2 : Nat} {p1 : leadlineref11_Mem} {oa3 : Option Addr} {cap4 : Nat} (hc5 : p1.Of.length ≤ cap4) (hr6 : SR H oa3 p1.Of) {oa7 : Option Addr} {cap8 : Nat} (hc9 : p1.Firsts.length ≤ cap8) (hr10 : SR H oa7 p1.Firsts) {oa11 : Option Addr} {cap12 : Nat} {vs13 : List Value} (hv14 : Rows H vs13 p1.L) {oa16 : Option Addr} {cap17 : Nat} {vs18 : List Value} (hv19 : Rows H vs18 p1.K) {oa21 : Option Addr} {cap22 : Nat} {vs23 : List Value} (hv24 : Rows H vs23 p1.W) (hO : (sepA [blk b2 (.cells [.slice oa3 p1.Of.length cap4, .slice oa7 p1.Firsts.length cap8, .slice oa11 p1.L.length cap12, .slice oa16 p1.K.length cap17, .slice oa21 p1.W.length cap22].toArray 71 (0, 0)), sla 3 1 oa11 p1.L.length cap12 vs13, sla 3 1 oa16 p1.K.length cap17 vs18, sla 73 3 oa21 p1.W.length cap22 vs23]).ok (hp w0)) (hD : ∀ b, (sepA [blk b2 (.cells [.slice oa3 p1.Of.length cap4, .slice oa7 p1.Firsts.length cap8, .slice oa11 p1.L.length cap12, .slice oa16 p1.K.length cap17, .slice oa21 p1.W.length cap22].toArray 71 (0, 0)), sla 3 1 oa11 p1.L.length cap12 vs13, sla 3 1 oa16 p1.K.length cap17 vs18, sla 73 3 oa21 p1.W.length cap22 vs23]).fp b → H b = none) {r : ((List Int) × leadlineref11_Mem)} (hm : leadlineref11_Mem_Pending__m0_71_ffooo N p1 = some r) : Tot Try.prog 36 #[.pointer (some ⟨b2, 0, none⟩)] w0 (fun v w' => ∃ (oa0 : Option Addr) (cap0 : Nat) (vs0 : List Value) (oa1m : Option Addr) (cap1m : Nat) (oa2m : Option Addr) (cap2m : Nat) (oa3m : Option Addr) (cap3m : Nat) (vs3m : List Value) (oa4m : Option Addr) (cap4m : Nat) (vs4m : List Value) (oa5m : Option Addr) (cap5m : Nat) (vs5m : List Value), v = .slice oa0 r.1.length cap0 ∧ (∀ h, Rows h vs0 r.1) ∧ r.2.Of.length ≤ cap1m ∧ SR H oa1m r.2.Of ∧ r.2.Firsts.length ≤ cap2m ∧ SR H oa2m r.2.Firsts ∧ (∀ h, Rows h vs3m r.2.L) ∧ (∀ h, Rows h vs4m r.2.K) ∧ (∀ h, Rows h vs5m r.2.W) ∧ Mut w0 (sepA [blk b2 (.cells [.slice oa3 p1.Of.length cap4, .slice oa7 p1.Firsts.length cap8, .slice oa11 p1.L.length cap12, .slice oa16 p1.K.length cap17, .slice oa21 p1.W.length cap22].toArray 71 (0, 0)), sla 3 1 oa11 p1.L.length cap12 vs13, sla 3 1 oa16 p1.K.length cap17 vs18, sla 73 3 oa21 p1.W.length cap22 vs23]) (sepA [blk b2 (.cells [.slice oa1m r.2.Of.length cap1m, .slice oa2m r.2.Firsts.length cap2m, .slice oa3m r.2.L.length cap3m, .slice oa4m r.2.K.length cap4m, .slice oa5m r.2.W.length cap5m].toArray 71 (0, 0)), sla 3 1 oa3m r.2.L.length cap3m vs3m, sla 3 1 oa4m r.2.K.length cap4m vs4m, sla 73 3 oa5m r.2.W.length cap5m vs5m, sla 3 1 oa0 r.1.length cap0 vs0]) w') := by
  unfold leadlineref11_Mem_Pending__m0_71_ffooo at hm
  refine fn0 (args := [.pointer (some ⟨b2, 0, none⟩)]) (F := [(0, .pointer (some ⟨b2, 0, none⟩))]) Try.func36 rfl Try.ntmps36 rfl rfl fun a hF => ?_
  have hS := startM hH hO hD
  refine th <| ?_
  refine rg <| ?_
  refine ls <| q1 hF rfl (e_asg hF rfl) fun a hF => ?_
  refine re <| ?_
  refine tn <| th <| ?_
  replace hm := bind_some hm
  obtain ⟨r26, h27, hm⟩ := hm
  replace hm := bind_some hm
  obtain ⟨l51, h52, hm⟩ := hm
  refine rg <| ?_
  refine ls <| q1 hF rfl (e_move hF rfl) fun a hF => ?_
  replace hS := hS.pickL (.cons .head (.cons .head (.cons .head (.cons .head .nil))))
  replace hS := St.sep [blk b2 (.cells [.slice oa3 p1.Of.length cap4, .slice oa7 p1.Firsts.length cap8, .slice oa11 p1.L.length cap12, .slice oa16 p1.K.length cap17, .slice oa21 p1.W.length cap22].toArray 71 (0, 0)), sla 3 1 oa11 p1.L.length cap12 vs13, sla 3 1 oa16 p1.K.length cap17 vs18, sla 73 3 oa21 p1.W.length cap22 vs23] hS
  refine ls <| c1 hF rfl Try.call34 (leadlineref11_Mem_Lines__m0_71_ffooo_c (St.le hS) (p1 := p1) (b2 := b2) (oa3 := oa3) (cap4 := cap4) (oa7 := oa7) (cap8 := cap8) (oa11 := oa11) (cap12 := cap12) (vs13 := vs13) (oa16 := oa16) (cap17 := cap17) (vs18 := vs18) (oa21 := oa21) (cap22 := cap22) (vs23 := vs23) hc5 hr6 hc9 hr10 hv14 hv19 hv24 (St.sepOk hS) (St.sepDis hS) h27) ⟨rfl, trivial⟩ (fun v w a hR hF => ?_)
  obtain ⟨oa28, cap29, oa32, cap33, oa36, cap37, vs38, oa41, cap42, vs43, oa46, cap47, vs48, rfl, hc30, hr31, hc34, hr35, hv39, hv44, hv49, hk⟩ := hR
  replace hS := (hS.mut hk .head).unsep
  clear hk
  replace hv39 := hv39 H
  replace hv44 := hv44 H
  replace hv49 := hv49 H
  refine ls <| m_mk (α := Int) hF rfl hS Try.underlying26 info3 rfl (zz := 0) rfl rfl rfl h52 fun b54 vs55 w a hv53 hS hF => ?_
  refine ls <| q1 hF rfl (e_asg hF rfl) fun a hF => ?_
  refine re <| ?_
  refine tn <| th <| th <| ?_
  refine rg <| ?_
  refine ls <| q1 hF rfl (e_asg hF rfl) fun a hF => ?_
  refine re <| ?_
  refine tn <| midK (fun a w => ∃ (vA1 : (List Int)) (oaA2 : Option Addr) (capA3 : Nat) (vsA4 : List Value), (leadlineref11_Mem_Pending__m0_71_ffooo_j1 r26) vA1 = some r ∧ Fr 35 [(0, .pointer (some ⟨b2, 0, none⟩)), (3, .slice oaA2 vA1.length capA3)] a ∧ St w0 (sepA [blk b2 (.cells [.slice oa3 p1.Of.length cap4, .slice oa7 p1.Firsts.length cap8, .slice oa11 p1.L.length cap12, .slice oa16 p1.K.length cap17, .slice oa21 p1.W.length cap22].toArray 71 (0, 0)), sla 3 1 oa11 p1.L.length cap12 vs13, sla 3 1 oa16 p1.K.length cap17 vs18, sla 73 3 oa21 p1.W.length cap22 vs23]).fp [H] [sla 3 1 oa36 r26.2.L.length cap37 vs38, sla 3 1 oa41 r26.2.K.length cap42 vs43, sla 73 3 oa46 r26.2.W.length cap47 vs48, blk b2 (.cells [.slice oa28 r26.2.Of.length cap29, .slice oa32 r26.2.Firsts.length cap33, .slice oa36 r26.2.L.length cap37, .slice oa41 r26.2.K.length cap42, .slice oa46 r26.2.W.length cap47].toArray 71 (0, 0)), sla 3 1 oaA2 vA1.length capA3 vsA4] w ∧ Rows H vsA4 vA1) ?_ ?_
  ·
    replace hS := hS.pickL (.cons (.tail (.tail .head)) (.cons (.tail (.tail .head)) (.cons (.tail (.tail .head)) (.cons (.tail .head) (.cons .head .nil)))))
    refine wb <| lp (α := Nat × (List Int) × Int) (fun (gh : Nat × (List Int) × Int) a w => match gh with | (nn2, vB1, vB7) => ∃ (oaB2 : Option Addr) (capB3 : Nat) (vsB4 : List Value), (leadlineref11_Mem_Pending__m0_71_ffooo_l2 N (leadlineref11_Mem_Pending__m0_71_ffooo_j1 r26) r26) nn2 vB1 vB7 = some r ∧ Fr 35 [(0, .pointer (some ⟨b2, 0, none⟩)), (3, .slice oaB2 vB1.length capB3), (4, .int .i64 vB7)] a ∧ St w0 (sepA [blk b2 (.cells [.slice oa3 p1.Of.length cap4, .slice oa7 p1.Firsts.length cap8, .slice oa11 p1.L.length cap12, .slice oa16 p1.K.length cap17, .slice oa21 p1.W.length cap22].toArray 71 (0, 0)), sla 3 1 oa11 p1.L.length cap12 vs13, sla 3 1 oa16 p1.K.length cap17 vs18, sla 73 3 oa21 p1.W.length cap22 vs23]).fp [H] [sla 3 1 oa36 r26.2.L.length cap37 vs38, sla 3 1 oa41 r26.2.K.length cap42 vs43, sla 73 3 oa46 r26.2.W.length cap47 vs48, blk b2 (.cells [.slice oa28 r26.2.Of.length cap29, .slice oa32 r26.2.Firsts.length cap33, .slice oa36 r26.2.L.length cap37, .slice oa41 r26.2.K.length cap42, .slice oa46 r26.2.W.length cap47].toArray 71 (0, 0)), sla 3 1 oaB2 vB1.length capB3 vsB4] w ∧ Rows H vsB4 vB1) (fun gh => gh.1) (N, l51, 0) ⟨(some ⟨b54, 0, none⟩), l51.length, vs55, hm, hF.has ⟨rfl, rfl, rfl, trivial⟩, hS, hv53⟩ ?_
    clear hm hF hS
    rintro ⟨nn2, vB1, vB7⟩ a w ⟨oaB2, capB3, vsB4, hm, hF, hS, hvB5⟩
    obtain _ | nn2 := nn2
    · simp [leadlineref11_Mem_Pending__m0_71_ffooo_l2] at hm
    rw [leadlineref11_Mem_Pending__m0_71_ffooo_l2] at hm
    refine th <| th <| ?_
    refine rg <| ?_
    refine ls <| q1 hF rfl (e_move hF rfl) fun a hF => ?_
    refine ls <| q1 hF rfl (e_move hF rfl) fun a hF => ?_
    refine ls <| q1 hF rfl (e_nilp hF rfl) fun a hF => ?_
    refine ls <| q1 hF rfl (e_fa hF fa71_4 rfl) fun a hF => ?_
    refine ls <| q1 hF rfl (e_ld hF Try.isAgg69 rfl ((St.ld hS).cellB (.tail _ (.tail _ (.tail _ (.head _)))) rfl)) fun a hF => ?_
    refine ls <| q1 hF rfl (e_lenL (α := leadlineref11_Put) (xs := r26.2.W) hF Try.runUnderlying69 rfl) fun a hF => ?_
    refine ls <| q1 hF rfl (e_lss hF rfl rfl) fun a hF => ?_
    refine re <| ?_
    rcases bdich (decide (vB7 < (r26.2.W.length : Int))) with hb57 | hb57
    ·
      replace hm := itp_t hm hb57
      refine tn <| ctv hF rfl hb57 <| wk <| ?_
      refine tn <| th <| wb <| th <| ?_
      replace hm := bind_some hm
      obtain ⟨x58, h59, hm⟩ := hm
      have ho60 := Rd.oaI (hS.rdO (.tail _ (.tail _ (.head _)))) hv49 (by decide) h59
      obtain ⟨c61, g62, hl63⟩ := Rows.getI hv49 h59
      obtain rfl := leadlineref11_Put_open g62
      refine rg <| ?_
      refine ls <| q1 hF rfl (e_move hF rfl) fun a hF => ?_
      refine ls <| q1 hF rfl (e_nilp hF rfl) fun a hF => ?_
      refine ls <| q1 hF rfl (e_fa hF fa71_4 rfl) fun a hF => ?_
      refine ls <| q1 hF rfl (e_ld hF Try.isAgg69 rfl ((St.ld hS).cellB (.tail _ (.tail _ (.tail _ (.head _)))) rfl)) fun a hF => ?_
      refine ls <| q1 hF rfl (e_move hF rfl) fun a hF => ?_
      refine ls <| q1 hF rfl (e_iaI hF Try.runUnderlying69 Try.sizeOf73 rfl rfl h59 ho60) fun a hF => ?_
      refine ls <| q1 hF rfl (e_fa hF fa73_0 rfl) fun a hF => ?_
      refine ls <| q1 hF rfl (e_ld hF Try.isAgg3 rfl ((St.ld hS).elO2 (.tail _ (.tail _ (.head _))) (hl63 0 _ rfl))) fun a hF => ?_
      refine ls <| q1 hF rfl (e_asg hF rfl) fun a hF => ?_
      refine re <| ?_
      refine tn <| ?_
      replace hm := bind_some hm
      obtain ⟨x64, h65, hm⟩ := hm
      have ho66 := Rd.oaI (hS.rdO (.tail _ (.tail _ (.tail _ (.tail _ (.head _)))))) hvB5 (by decide) h65
      obtain ⟨c67, g68, hl69⟩ := Rows.getI hvB5 h65
      obtain rfl : c67 = [.int .i64 x64] := g68
      have ho70 := Rd.oaI (hS.rdO (.tail _ (.tail _ (.tail _ (.tail _ (.head _)))))) hvB5 (by decide) h65
      replace hm := bind_some hm
      obtain ⟨l71, h72, hm⟩ := hm
      refine rg <| ?_
      refine ls <| q1 hF rfl (e_move hF rfl) fun a hF => ?_
      refine ls <| q1 hF rfl (e_move hF rfl) fun a hF => ?_
      refine ls <| q1 hF rfl (e_move hF rfl) fun a hF => ?_
      refine ls <| q1 hF rfl (e_move hF rfl) fun a hF => ?_
      refine ls <| q1 hF rfl (e_iaI hF Try.runUnderlying26 Try.sizeOf3 rfl rfl h65 ho66) fun a hF => ?_
      refine ls <| q1 hF rfl (e_ld hF Try.isAgg3 rfl ((St.ld hS).elO (.tail _ (.tail _ (.tail _ (.tail _ (.head _))))) (hl69 0 _ rfl))) fun a hF => ?_
      refine ls <| q1 hF rfl (e_add hF rfl rfl) fun a hF => ?_
      refine ls <| q1 hF rfl (e_iaI hF Try.runUnderlying26 Try.sizeOf3 rfl rfl h65 ho70) fun a hF => ?_
      have hn75 := setI_len h72
      refine ls <| s_slJ (α := Int) hF hS Try.sizeOf3 rfl rfl rfl rfl hvB5 rfl h72 (.tail _ (.tail _ (.tail _ (.tail _ (.head _))))) fun vs73 w hv74 hU => ?_
      replace hS := hU _ (.tail (.tail (.tail (.tail .head))))
      clear hU
      refine re <| ?_
      refine bn <| tn <| ?_
      refine rg <| ?_
      refine ls <| q1 hF rfl (e_move hF rfl) fun a hF => ?_
      refine ls <| q1 hF rfl (e_add hF rfl rfl) fun a hF => ?_
      refine ls <| q1 hF rfl (e_asg hF rfl) fun a hF => ?_
      refine re <| ?_
      refine tn <| ?_
      replace hF := Fr.as hF (t := 3) (v' := .slice oaB2 l71.length capB3) rfl (by rw [hn75])
      exact ⟨(nn2, l71, (IntKind.i64.wrap (vB7 + 1))), ⟨oaB2, capB3, vs73, hm, hF.has ⟨rfl, rfl, rfl, trivial⟩, hS, hv74⟩, Nat.lt_succ_self _⟩
    ·
      replace hm := itp_f hm hb57
      refine tn <| cfv hF rfl hb57 <| ?_
      refine we <| tx <| tx <| bx <| ?_
      refine tn <| ?_
      exact ⟨vB1, oaB2, capB3, vsB4, hm, hF.has ⟨rfl, rfl, trivial⟩, hS, hvB5⟩
  clear hm hF hS
  rintro a w ⟨vA1, oaA2, capA3, vsA4, hm, hF, hS, hvA5⟩
  unfold leadlineref11_Mem_Pending__m0_71_ffooo_j1 at hm
  refine th <| ?_
  refine rg <| ?_
  refine ls <| q1 hF rfl (e_move hF rfl) fun a hF => ?_
  refine ls <| q1 hF rfl (e_asg hF rfl) fun a hF => ?_
  refine re <| ?_
  refine tn <| ?_
  refine wr <| ?_
  obtain rfl := Option.some.inj hm
  exact r1 hF Try.results36 rfl ⟨_, _, _, oa28, cap29, oa32, cap33, oa36, cap37, vs38, oa41, cap42, vs43, oa46, cap47, vs48, rfl, (fun _ => Rows.ind hvA5), hc30, hr31, hc34, hr35, (fun _ => Rows.ind hv39), (fun _ => Rows.ind hv44), (fun _ => Rows.ind hv49), (hS.pickL (.cons (.tail (.tail (.tail .head))) (.cons .head (.cons .head (.cons .head (.cons .head .nil)))))).endMut⟩
end Go.LM.LINES
