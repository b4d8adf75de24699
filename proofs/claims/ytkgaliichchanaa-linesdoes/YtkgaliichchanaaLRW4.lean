/- Walks, lifted by program. No condition beyond each theorem's own premises. -/
import Derived.Test.YtkgaliichchanaaLRW2
import Derived.Test.YtkgaliichchanaaLRW3
namespace Go.LM.LINES
open Go Go.LL Go.MD Go.LM Go.Proofs Go.MD.LINES

set_option maxHeartbeats 4000000 in
set_option maxRecDepth 100000 in
theorem leadlineref11_Mem_Cuts__m0_71_ffooo_c {N : Nat} {w0 : World} {H : PH} (hH : H.le w0) {b2 : Nat} {p1 : leadlineref11_Mem} {oa3 : Option Addr} {cap4 : Nat} (hc5 : p1.Of.length ≤ cap4) (hr6 : SR H oa3 p1.Of) {oa7 : Option Addr} {cap8 : Nat} (hc9 : p1.Firsts.length ≤ cap8) (hr10 : SR H oa7 p1.Firsts) {oa11 : Option Addr} {cap12 : Nat} {vs13 : List Value} (hv14 : Rows H vs13 p1.L) {oa16 : Option Addr} {cap17 : Nat} {vs18 : List Value} (hv19 : Rows H vs18 p1.K) {oa21 : Option Addr} {cap22 : Nat} {vs23 : List Value} (hv24 : Rows H vs23 p1.W) (hO : (sepA [blk b2 (.cells [.slice oa3 p1.Of.length cap4, .slice oa7 p1.Firsts.length cap8, .slice oa11 p1.L.length cap12, .slice oa16 p1.K.length cap17, .slice oa21 p1.W.length cap22].toArray 71 (0, 0)), sla 3 1 oa11 p1.L.length cap12 vs13, sla 3 1 oa16 p1.K.length cap17 vs18, sla 73 3 oa21 p1.W.length cap22 vs23]).ok (hp w0)) (hD : ∀ b, (sepA [blk b2 (.cells [.slice oa3 p1.Of.length cap4, .slice oa7 p1.Firsts.length cap8, .slice oa11 p1.L.length cap12, .slice oa16 p1.K.length cap17, .slice oa21 p1.W.length cap22].toArray 71 (0, 0)), sla 3 1 oa11 p1.L.length cap12 vs13, sla 3 1 oa16 p1.K.length cap17 vs18, sla 73 3 oa21 p1.W.length cap22 vs23]).fp b → H b = none) {r : ((List (List Int)) × leadlineref11_Mem)} (hm : leadlineref11_Mem_Cuts__m0_71_ffooo N p1 = some r) : Tot Try.prog 37 #[.pointer (some ⟨b2, 0, none⟩)] w0 (fun v w' => ∃ (H' : PH) (oa0 : Option Addr) (cap0 : Nat) (oa1m : Option Addr) (cap1m : Nat) (oa2m : Option Addr) (cap2m : Nat) (oa3m : Option Addr) (cap3m : Nat) (vs3m : List Value) (oa4m : Option Addr) (cap4m : Nat) (vs4m : List Value) (oa5m : Option Addr) (cap5m : Nat) (vs5m : List Value), v = .slice oa0 r.1.length cap0 ∧ r.1.length ≤ cap0 ∧ SR H' oa0 r.1 ∧ r.2.Of.length ≤ cap1m ∧ SR H' oa1m r.2.Of ∧ r.2.Firsts.length ≤ cap2m ∧ SR H' oa2m r.2.Firsts ∧ (∀ h, Rows h vs3m r.2.L) ∧ (∀ h, Rows h vs4m r.2.K) ∧ (∀ h, Rows h vs5m r.2.W) ∧ ExtM w0 (sepA [blk b2 (.cells [.slice oa3 p1.Of.length cap4, .slice oa7 p1.Firsts.length cap8, .slice oa11 p1.L.length cap12, .slice oa16 p1.K.length cap17, .slice oa21 p1.W.length cap22].toArray 71 (0, 0)), sla 3 1 oa11 p1.L.length cap12 vs13, sla 3 1 oa16 p1.K.length cap17 vs18, sla 73 3 oa21 p1.W.length cap22 vs23]).fp H H' ∧ H'.le w' ∧ (∀ b, (sepA [blk b2 (.cells [.slice oa1m r.2.Of.length cap1m, .slice oa2m r.2.Firsts.length cap2m, .slice oa3m r.2.L.length cap3m, .slice oa4m r.2.K.length cap4m, .slice oa5m r.2.W.length cap5m].toArray 71 (0, 0)), sla 3 1 oa3m r.2.L.length cap3m vs3m, sla 3 1 oa4m r.2.K.length cap4m vs4m, sla 73 3 oa5m r.2.W.length cap5m vs5m]).fp b → H' b = none) ∧ Mut w0 (sepA [blk b2 (.cells [.slice oa3 p1.Of.length cap4, .slice oa7 p1.Firsts.length cap8, .slice oa11 p1.L.length cap12, .slice oa16 p1.K.length cap17, .slice oa21 p1.W.length cap22].toArray 71 (0, 0)), sla 3 1 oa11 p1.L.length cap12 vs13, sla 3 1 oa16 p1.K.length cap17 vs18, sla 73 3 oa21 p1.W.length cap22 vs23]) (sepA [blk b2 (.cells [.slice oa1m r.2.Of.length cap1m, .slice oa2m r.2.Firsts.length cap2m, .slice oa3m r.2.L.length cap3m, .slice oa4m r.2.K.length cap4m, .slice oa5m r.2.W.length cap5m].toArray 71 (0, 0)), sla 3 1 oa3m r.2.L.length cap3m vs3m, sla 3 1 oa4m r.2.K.length cap4m vs4m, sla 73 3 oa5m r.2.W.length cap5m vs5m]) w') := by
  unfold leadlineref11_Mem_Cuts__m0_71_ffooo at hm
  refine fn0 (args := [.pointer (some ⟨b2, 0, none⟩)]) (F := [(0, .pointer (some ⟨b2, 0, none⟩))]) Try.func37 rfl Try.ntmps37 rfl rfl fun a hF => ?_
  have hS := startM hH hO hD
  refine th <| ?_
  refine rg <| ?_
  refine ls <| q1 hF rfl (e_asg hF rfl) fun a hF => ?_
  refine re <| ?_
  refine tn <| th <| ?_
  replace hm := bind_some hm
  obtain ⟨r26, h27, hm⟩ := hm
  replace hm := bind_some hm
  obtain ⟨r67, h68, hm⟩ := hm
  refine rg <| ?_
  refine ls <| q1 hF rfl (e_move hF rfl) fun a hF => ?_
  replace hS := hS.pickL (.cons .head (.cons .head (.cons .head (.cons .head .nil))))
  replace hS := St.sep [blk b2 (.cells [.slice oa3 p1.Of.length cap4, .slice oa7 p1.Firsts.length cap8, .slice oa11 p1.L.length cap12, .slice oa16 p1.K.length cap17, .slice oa21 p1.W.length cap22].toArray 71 (0, 0)), sla 3 1 oa11 p1.L.length cap12 vs13, sla 3 1 oa16 p1.K.length cap17 vs18, sla 73 3 oa21 p1.W.length cap22 vs23] hS
  refine ls <| c1 hF rfl Try.call36 (leadlineref11_Mem_Pending__m0_71_ffooo_c (St.le hS) (p1 := p1) (b2 := b2) (oa3 := oa3) (cap4 := cap4) (oa7 := oa7) (cap8 := cap8) (oa11 := oa11) (cap12 := cap12) (vs13 := vs13) (oa16 := oa16) (cap17 := cap17) (vs18 := vs18) (oa21 := oa21) (cap22 := cap22) (vs23 := vs23) hc5 hr6 hc9 hr10 hv14 hv19 hv24 (St.sepOk hS) (St.sepDis hS) h27) ⟨rfl, trivial⟩ (fun v w a hR hF => ?_)
  obtain ⟨oa28, cap29, vs30, oa33, cap34, oa37, cap38, oa41, cap42, vs43, oa46, cap47, vs48, oa51, cap52, vs53, rfl, hv31, hc35, hr36, hc39, hr40, hv44, hv49, hv54, hk⟩ := hR
  replace hS := (hS.mut hk .head).unsep
  clear hk
  replace hv44 := hv44 H
  replace hv49 := hv49 H
  replace hv54 := hv54 H
  replace hv31 := hv31 H
  refine ls <| a_bsl (e := 3) (sz := 1) [] hF rfl hS rfl rfl rfl (fun w => by kernel_rfl) fun b57 w a hS hF => ?_
  have hv56 : Rows (α := Int) H [] [] := .nil
  obtain ⟨H62, hx59, hr60, hc61, hS⟩ := St.frzSM hS (.tail (.tail (.tail (.tail (.tail .head))))) hv31
  obtain ⟨H66, hx63, hr64, hc65, hS⟩ := St.frzSM hS .head (hv56.mono hx59.sub)
  refine ls <| c1 hF rfl Try.call38 (leadlineref11_grow_c _ (St.le hS) hc61 (hr60.mono hx63.sub) hc65 hr64 h68) ⟨rfl, rfl, trivial⟩ (fun v w a hR hF => ?_)
  obtain ⟨H72, oa73, cap74, rfl, hc75, hr76, hx69, hl70, hk⟩ := hR
  obtain ⟨hS, hx69⟩ := And.intro (St.passH hS hk hx69 hl70) (St.extcM hS hx69)
  clear hk
  refine ls <| a_bsl (e := 26) (sz := 1) [] hF rfl hS rfl rfl rfl (fun w => by kernel_rfl) fun b78 w a hS hF => ?_
  have hv77 : Rows (α := (List Int)) H72 [] [] := .nil
  refine ls <| a_bsl (e := 26) (sz := 1) [] hF rfl hS rfl rfl rfl (fun w => by kernel_rfl) fun b81 w a hS hF => ?_
  have hv80 : Rows (α := (List Int)) H72 [] [] := .nil
  refine ls <| q1 hF rfl (e_asg hF rfl) fun a hF => ?_
  refine ls <| q1 hF rfl (e_asg hF rfl) fun a hF => ?_
  refine ls <| q1 hF rfl (e_asg hF rfl) fun a hF => ?_
  refine re <| ?_
  refine tn <| th <| th <| ?_
  refine rg <| ?_
  refine ls <| q1 hF rfl (e_asg hF rfl) fun a hF => ?_
  refine re <| ?_
  refine tn <| midK (fun a w => ∃ (vA2 : (List Int)) (vA7 : (List Int)) (vA12 : (List Int)) (vA18 : (List Int)) (vA24 : (List leadlineref11_Put)) (vA30 : (List (List Int))) (HA1 : PH) (oaA3 : Option Addr) (capA4 : Nat) (oaA8 : Option Addr) (capA9 : Nat) (oaA13 : Option Addr) (capA14 : Nat) (vsA15 : List Value) (oaA19 : Option Addr) (capA20 : Nat) (vsA21 : List Value) (oaA25 : Option Addr) (capA26 : Nat) (vsA27 : List Value) (oaA31 : Option Addr) (capA32 : Nat) (vsA33 : List Value), leadlineref11_Mem_Cuts__m0_71_ffooo_j1 vA2 vA7 vA12 vA18 vA24 vA30 = some r ∧ ExtM w0 (sepA [blk b2 (.cells [.slice oa3 p1.Of.length cap4, .slice oa7 p1.Firsts.length cap8, .slice oa11 p1.L.length cap12, .slice oa16 p1.K.length cap17, .slice oa21 p1.W.length cap22].toArray 71 (0, 0)), sla 3 1 oa11 p1.L.length cap12 vs13, sla 3 1 oa16 p1.K.length cap17 vs18, sla 73 3 oa21 p1.W.length cap22 vs23]).fp H72 HA1 ∧ Fr 61 [(0, .pointer (some ⟨b2, 0, none⟩)), (4, .slice oaA31 vA30.length capA32)] a ∧ St w0 (sepA [blk b2 (.cells [.slice oa3 p1.Of.length cap4, .slice oa7 p1.Firsts.length cap8, .slice oa11 p1.L.length cap12, .slice oa16 p1.K.length cap17, .slice oa21 p1.W.length cap22].toArray 71 (0, 0)), sla 3 1 oa11 p1.L.length cap12 vs13, sla 3 1 oa16 p1.K.length cap17 vs18, sla 73 3 oa21 p1.W.length cap22 vs23]).fp [HA1] [sla 3 1 oaA13 vA12.length capA14 vsA15, sla 3 1 oaA19 vA18.length capA20 vsA21, sla 73 3 oaA25 vA24.length capA26 vsA27, blk b2 (.cells [.slice oaA3 vA2.length capA4, .slice oaA8 vA7.length capA9, .slice oaA13 vA12.length capA14, .slice oaA19 vA18.length capA20, .slice oaA25 vA24.length capA26].toArray 71 (0, 0)), sla 26 1 oaA31 vA30.length capA32 vsA33] w ∧ vA2.length ≤ capA4 ∧ SR HA1 oaA3 vA2 ∧ vA7.length ≤ capA9 ∧ SR HA1 oaA8 vA7 ∧ Rows HA1 vsA15 vA12 ∧ Rows HA1 vsA21 vA18 ∧ Rows HA1 vsA27 vA24 ∧ Rows HA1 vsA33 vA30) ?_ ?_
  ·
    replace hS := hS.pickL (.cons (.tail (.tail (.tail .head))) (.cons (.tail (.tail (.tail .head))) (.cons (.tail (.tail (.tail .head))) (.cons (.tail (.tail .head)) (.cons (.tail .head) (.cons .head .nil))))))
    refine wb <| lp (α := Nat × (List Int) × (List Int) × (List Int) × (List Int) × (List leadlineref11_Put) × (List (List Int)) × (List (List Int)) × Int) (fun (gh : Nat × (List Int) × (List Int) × (List Int) × (List Int) × (List leadlineref11_Put) × (List (List Int)) × (List (List Int)) × Int) a w => match gh with | (nn2, vB2, vB7, vB12, vB18, vB24, vB30, vB36, vB42) => ∃ (HB1 : PH) (oaB3 : Option Addr) (capB4 : Nat) (oaB8 : Option Addr) (capB9 : Nat) (oaB13 : Option Addr) (capB14 : Nat) (vsB15 : List Value) (oaB19 : Option Addr) (capB20 : Nat) (vsB21 : List Value) (oaB25 : Option Addr) (capB26 : Nat) (vsB27 : List Value) (oaB31 : Option Addr) (capB32 : Nat) (vsB33 : List Value) (oaB37 : Option Addr) (capB38 : Nat) (vsB39 : List Value), (leadlineref11_Mem_Cuts__m0_71_ffooo_l2 N leadlineref11_Mem_Cuts__m0_71_ffooo_j1 r67) nn2 vB2 vB7 vB12 vB18 vB24 vB30 vB36 vB42 = some r ∧ ExtM w0 (sepA [blk b2 (.cells [.slice oa3 p1.Of.length cap4, .slice oa7 p1.Firsts.length cap8, .slice oa11 p1.L.length cap12, .slice oa16 p1.K.length cap17, .slice oa21 p1.W.length cap22].toArray 71 (0, 0)), sla 3 1 oa11 p1.L.length cap12 vs13, sla 3 1 oa16 p1.K.length cap17 vs18, sla 73 3 oa21 p1.W.length cap22 vs23]).fp H72 HB1 ∧ Fr 61 [(0, .pointer (some ⟨b2, 0, none⟩)), (3, .slice oa73 r67.length cap74), (4, .slice oaB31 vB30.length capB32), (5, .slice oaB37 vB36.length capB38), (6, .int .i64 vB42)] a ∧ St w0 (sepA [blk b2 (.cells [.slice oa3 p1.Of.length cap4, .slice oa7 p1.Firsts.length cap8, .slice oa11 p1.L.length cap12, .slice oa16 p1.K.length cap17, .slice oa21 p1.W.length cap22].toArray 71 (0, 0)), sla 3 1 oa11 p1.L.length cap12 vs13, sla 3 1 oa16 p1.K.length cap17 vs18, sla 73 3 oa21 p1.W.length cap22 vs23]).fp [HB1] [sla 3 1 oaB13 vB12.length capB14 vsB15, sla 3 1 oaB19 vB18.length capB20 vsB21, sla 73 3 oaB25 vB24.length capB26 vsB27, blk b2 (.cells [.slice oaB3 vB2.length capB4, .slice oaB8 vB7.length capB9, .slice oaB13 vB12.length capB14, .slice oaB19 vB18.length capB20, .slice oaB25 vB24.length capB26].toArray 71 (0, 0)), sla 26 1 oaB31 vB30.length capB32 vsB33, sla 26 1 oaB37 vB36.length capB38 vsB39] w ∧ vB2.length ≤ capB4 ∧ SR HB1 oaB3 vB2 ∧ vB7.length ≤ capB9 ∧ SR HB1 oaB8 vB7 ∧ Rows HB1 vsB15 vB12 ∧ Rows HB1 vsB21 vB18 ∧ Rows HB1 vsB27 vB24 ∧ Rows HB1 vsB33 vB30 ∧ Rows HB1 vsB39 vB36) (fun gh => gh.1) (N, r26.2.Of, r26.2.Firsts, r26.2.L, r26.2.K, r26.2.W, [], [], 0) ⟨H72, oa33, cap34, oa37, cap38, oa41, cap42, vs43, oa46, cap47, vs48, oa51, cap52, vs53, (some ⟨b78, 0, none⟩), 0, [], (some ⟨b81, 0, none⟩), 0, [], hm, (ExtM.refl _ _ _), hF.has ⟨rfl, rfl, rfl, rfl, rfl, trivial⟩, hS, hc35, (hr36.mono (fun b o h => (fun b o h => hx69.sub b o (hx63.sub b o h)) b o (hx59.sub b o h))), hc39, (hr40.mono (fun b o h => (fun b o h => hx69.sub b o (hx63.sub b o h)) b o (hx59.sub b o h))), (hv44.mono (fun b o h => (fun b o h => hx69.sub b o (hx63.sub b o h)) b o (hx59.sub b o h))), (hv49.mono (fun b o h => (fun b o h => hx69.sub b o (hx63.sub b o h)) b o (hx59.sub b o h))), (hv54.mono (fun b o h => (fun b o h => hx69.sub b o (hx63.sub b o h)) b o (hx59.sub b o h))), hv77, hv80⟩ ?_
    clear hm hF hS
    rintro ⟨nn2, vB2, vB7, vB12, vB18, vB24, vB30, vB36, vB42⟩ a w ⟨HB1, oaB3, capB4, oaB8, capB9, oaB13, capB14, vsB15, oaB19, capB20, vsB21, oaB25, capB26, vsB27, oaB31, capB32, vsB33, oaB37, capB38, vsB39, hm, hxHB1, hF, hS, hcB5, hrB6, hcB10, hrB11, hvB16, hvB22, hvB28, hvB34, hvB40⟩
    obtain _ | nn2 := nn2
    · simp [leadlineref11_Mem_Cuts__m0_71_ffooo_l2] at hm
    rw [leadlineref11_Mem_Cuts__m0_71_ffooo_l2] at hm
    refine th <| th <| ?_
    refine rg <| ?_
    refine ls <| q1 hF rfl (e_move hF rfl) fun a hF => ?_
    refine ls <| q1 hF rfl (e_move hF rfl) fun a hF => ?_
    refine ls <| q1 hF rfl (e_lenL (α := (List Int)) (xs := r67) hF Try.runUnderlying28 rfl) fun a hF => ?_
    refine ls <| q1 hF rfl (e_lss hF rfl rfl) fun a hF => ?_
    refine re <| ?_
    rcases bdich (decide (vB42 < (r67.length : Int))) with hb83 | hb83
    ·
      replace hm := itp_t hm hb83
      refine tn <| ctv hF rfl hb83 <| wk <| ?_
      refine tn <| th <| midK (fun a w => ∃ (vC2 : (List Int)) (vC7 : (List Int)) (vC12 : (List Int)) (vC18 : (List Int)) (vC24 : (List leadlineref11_Put)) (vC30 : (List (List Int))) (vC36 : (List (List Int))) (HC1 : PH) (oaC3 : Option Addr) (capC4 : Nat) (oaC8 : Option Addr) (capC9 : Nat) (oaC13 : Option Addr) (capC14 : Nat) (vsC15 : List Value) (oaC19 : Option Addr) (capC20 : Nat) (vsC21 : List Value) (oaC25 : Option Addr) (capC26 : Nat) (vsC27 : List Value) (oaC31 : Option Addr) (capC32 : Nat) (vsC33 : List Value) (oaC37 : Option Addr) (capC38 : Nat) (vsC39 : List Value), (leadlineref11_Mem_Cuts__m0_71_ffooo_j3 (leadlineref11_Mem_Cuts__m0_71_ffooo_l2 N leadlineref11_Mem_Cuts__m0_71_ffooo_j1 r67 nn2) vB42) vC2 vC7 vC12 vC18 vC24 vC30 vC36 = some r ∧ ExtM w0 (sepA [blk b2 (.cells [.slice oa3 p1.Of.length cap4, .slice oa7 p1.Firsts.length cap8, .slice oa11 p1.L.length cap12, .slice oa16 p1.K.length cap17, .slice oa21 p1.W.length cap22].toArray 71 (0, 0)), sla 3 1 oa11 p1.L.length cap12 vs13, sla 3 1 oa16 p1.K.length cap17 vs18, sla 73 3 oa21 p1.W.length cap22 vs23]).fp HB1 HC1 ∧ Fr 61 [(0, .pointer (some ⟨b2, 0, none⟩)), (3, .slice oa73 r67.length cap74), (4, .slice oaC31 vC30.length capC32), (5, .slice oaC37 vC36.length capC38), (6, .int .i64 vB42)] a ∧ St w0 (sepA [blk b2 (.cells [.slice oa3 p1.Of.length cap4, .slice oa7 p1.Firsts.length cap8, .slice oa11 p1.L.length cap12, .slice oa16 p1.K.length cap17, .slice oa21 p1.W.length cap22].toArray 71 (0, 0)), sla 3 1 oa11 p1.L.length cap12 vs13, sla 3 1 oa16 p1.K.length cap17 vs18, sla 73 3 oa21 p1.W.length cap22 vs23]).fp [HC1] [sla 3 1 oaC13 vC12.length capC14 vsC15, sla 3 1 oaC19 vC18.length capC20 vsC21, sla 73 3 oaC25 vC24.length capC26 vsC27, blk b2 (.cells [.slice oaC3 vC2.length capC4, .slice oaC8 vC7.length capC9, .slice oaC13 vC12.length capC14, .slice oaC19 vC18.length capC20, .slice oaC25 vC24.length capC26].toArray 71 (0, 0)), sla 26 1 oaC31 vC30.length capC32 vsC33, sla 26 1 oaC37 vC36.length capC38 vsC39] w ∧ vC2.length ≤ capC4 ∧ SR HC1 oaC3 vC2 ∧ vC7.length ≤ capC9 ∧ SR HC1 oaC8 vC7 ∧ Rows HC1 vsC15 vC12 ∧ Rows HC1 vsC21 vC18 ∧ Rows HC1 vsC27 vC24 ∧ Rows HC1 vsC33 vC30 ∧ Rows HC1 vsC39 vC36) ?_ ?_
      ·
        refine wb <| th <| ?_
        replace hm := bind_some hm
        obtain ⟨x84, h85, hm⟩ := hm
        obtain ⟨c86, g87, hl88⟩ := SR.get hr76 h85
        obtain ⟨oa89, cap90, rfl, hc91, hr92⟩ := g87
        replace hm := bind_some hm
        obtain ⟨r93, h94, hm⟩ := hm
        refine rg <| ?_
        refine ls <| q1 hF rfl (e_move hF rfl) fun a hF => ?_
        refine ls <| q1 hF rfl (e_move hF rfl) fun a hF => ?_
        refine ls <| q1 hF rfl (e_move hF rfl) fun a hF => ?_
        refine ls <| q1 hF rfl (e_iaI hF Try.runUnderlying28 Try.sizeOf26 rfl rfl h85 (SR.oaI hr76 (by decide) h85)) fun a hF => ?_
        refine ls <| q1 hF rfl (e_ld hF Try.isAgg26 rfl (PH.le.cell (fun b o hx => (Lds.le (St.ld hS)) b o (hxHB1.sub b o hx)) (hl88 0 _ rfl))) fun a hF => ?_
        replace hS := hS.pickL (.cons (.tail (.tail (.tail .head))) (.cons .head (.cons .head (.cons .head (.cons .head (.cons .head .nil))))))
        replace hS := St.sep [blk b2 (.cells [.slice oaB3 vB2.length capB4, .slice oaB8 vB7.length capB9, .slice oaB13 vB12.length capB14, .slice oaB19 vB18.length capB20, .slice oaB25 vB24.length capB26].toArray 71 (0, 0)), sla 3 1 oaB13 vB12.length capB14 vsB15, sla 3 1 oaB19 vB18.length capB20 vsB21, sla 73 3 oaB25 vB24.length capB26 vsB27] hS
        refine ls <| c1 hF rfl Try.call26 (leadlineref11_Mem_Image__m0_71_ffooo_c (St.le hS) (p1 := (leadlineref11_Mem.mk vB2 vB7 vB12 vB18 vB24)) (b2 := b2) (oa3 := oaB3) (cap4 := capB4) (oa7 := oaB8) (cap8 := capB9) (oa11 := oaB13) (cap12 := capB14) (vs13 := vsB15) (oa16 := oaB19) (cap17 := capB20) (vs18 := vsB21) (oa21 := oaB25) (cap22 := capB26) (vs23 := vsB27) hcB5 hrB6 hcB10 hrB11 hvB16 hvB22 hvB28 hc91 (hr92.mono hxHB1.sub) (St.sepOk hS) (St.sepDis hS) h94) ⟨rfl, rfl, trivial⟩ (fun v w a hR hF => ?_)
        obtain ⟨oa95, cap96, vs97, oa100, cap101, oa104, cap105, oa108, cap109, vs110, oa113, cap114, vs115, oa118, cap119, vs120, rfl, hv98, hc102, hr103, hc106, hr107, hv111, hv116, hv121, hk⟩ := hR
        replace hS := (hS.mut hk .head).unsep
        clear hk
        replace hv111 := hv111 HB1
        replace hv116 := hv116 HB1
        replace hv121 := hv121 HB1
        replace hv98 := hv98 HB1
        refine ls <| q1 hF rfl (e_move hF rfl) fun a hF => ?_
        refine ls <| q1 hF rfl (e_ext hF rfl rfl) fun a hF => ?_
        refine ls <| q1 hF rfl (e_ext hF rfl rfl) fun a hF => ?_
        refine ls <| q1 hF rfl (e_asg hF rfl) fun a hF => ?_
        refine ls <| q1 hF rfl (e_asg hF rfl) fun a hF => ?_
        refine re <| ?_
        refine tn <| th <| ?_
        refine rg <| ?_
        refine ls <| q1 hF rfl (e_asg hF rfl) fun a hF => ?_
        refine re <| ?_
        refine tn <| th <| th <| ?_
        refine rg <| ?_
        refine ls <| q1 hF rfl (e_asg hF rfl) fun a hF => ?_
        refine re <| ?_
        refine tn <| midK (fun a w => ∃ (vD1 : Bool), (leadlineref11_Mem_Cuts__m0_71_ffooo_j4 (leadlineref11_Mem_Cuts__m0_71_ffooo_j3 (leadlineref11_Mem_Cuts__m0_71_ffooo_l2 N leadlineref11_Mem_Cuts__m0_71_ffooo_j1 r67 nn2) vB42) x84 r93 vB30 vB36) vD1 = some r ∧ Fr 61 [(0, .pointer (some ⟨b2, 0, none⟩)), (3, .slice oa73 r67.length cap74), (4, .slice oaB31 vB30.length capB32), (5, .slice oaB37 vB36.length capB38), (6, .int .i64 vB42), (7, .slice oa95 r93.1.length cap96), (9, .bool vD1)] a ∧ St w0 (sepA [blk b2 (.cells [.slice oa3 p1.Of.length cap4, .slice oa7 p1.Firsts.length cap8, .slice oa11 p1.L.length cap12, .slice oa16 p1.K.length cap17, .slice oa21 p1.W.length cap22].toArray 71 (0, 0)), sla 3 1 oa11 p1.L.length cap12 vs13, sla 3 1 oa16 p1.K.length cap17 vs18, sla 73 3 oa21 p1.W.length cap22 vs23]).fp [HB1] [sla 3 1 oa108 r93.2.2.L.length cap109 vs110, sla 3 1 oa113 r93.2.2.K.length cap114 vs115, sla 73 3 oa118 r93.2.2.W.length cap119 vs120, blk b2 (.cells [.slice oa100 r93.2.2.Of.length cap101, .slice oa104 r93.2.2.Firsts.length cap105, .slice oa108 r93.2.2.L.length cap109, .slice oa113 r93.2.2.K.length cap114, .slice oa118 r93.2.2.W.length cap119].toArray 71 (0, 0)), sla 26 1 oaB31 vB30.length capB32 vsB33, sla 26 1 oaB37 vB36.length capB38 vsB39, sla 3 1 oa95 r93.1.length cap96 vs97] w) ?_ ?_
        ·
          replace hS := hS.pickL (.cons (.tail .head) (.cons (.tail .head) (.cons (.tail .head) (.cons .head (.cons (.tail .head) (.cons (.tail .head) (.cons .head .nil)))))))
          refine wb <| lp (α := Nat × Bool × Int) (fun (gh : Nat × Bool × Int) a w => match gh with | (nn5, vE1, vE2) => (leadlineref11_Mem_Cuts__m0_71_ffooo_l5 N (leadlineref11_Mem_Cuts__m0_71_ffooo_j4 (leadlineref11_Mem_Cuts__m0_71_ffooo_j3 (leadlineref11_Mem_Cuts__m0_71_ffooo_l2 N leadlineref11_Mem_Cuts__m0_71_ffooo_j1 r67 nn2) vB42) x84 r93 vB30 vB36) r93 vB36) nn5 vE1 vE2 = some r ∧ Fr 61 [(0, .pointer (some ⟨b2, 0, none⟩)), (3, .slice oa73 r67.length cap74), (4, .slice oaB31 vB30.length capB32), (5, .slice oaB37 vB36.length capB38), (6, .int .i64 vB42), (7, .slice oa95 r93.1.length cap96), (9, .bool vE1), (10, .int .i64 vE2)] a ∧ St w0 (sepA [blk b2 (.cells [.slice oa3 p1.Of.length cap4, .slice oa7 p1.Firsts.length cap8, .slice oa11 p1.L.length cap12, .slice oa16 p1.K.length cap17, .slice oa21 p1.W.length cap22].toArray 71 (0, 0)), sla 3 1 oa11 p1.L.length cap12 vs13, sla 3 1 oa16 p1.K.length cap17 vs18, sla 73 3 oa21 p1.W.length cap22 vs23]).fp [HB1] [sla 3 1 oa108 r93.2.2.L.length cap109 vs110, sla 3 1 oa113 r93.2.2.K.length cap114 vs115, sla 73 3 oa118 r93.2.2.W.length cap119 vs120, blk b2 (.cells [.slice oa100 r93.2.2.Of.length cap101, .slice oa104 r93.2.2.Firsts.length cap105, .slice oa108 r93.2.2.L.length cap109, .slice oa113 r93.2.2.K.length cap114, .slice oa118 r93.2.2.W.length cap119].toArray 71 (0, 0)), sla 26 1 oaB31 vB30.length capB32 vsB33, sla 26 1 oaB37 vB36.length capB38 vsB39, sla 3 1 oa95 r93.1.length cap96 vs97] w) (fun gh => gh.1) (N, false, 0) ⟨hm, hF.has ⟨rfl, rfl, rfl, rfl, rfl, rfl, rfl, rfl, trivial⟩, hS⟩ ?_
          clear hm hF hS
          rintro ⟨nn5, vE1, vE2⟩ a w ⟨hm, hF, hS⟩
          obtain _ | nn5 := nn5
          · simp [leadlineref11_Mem_Cuts__m0_71_ffooo_l5] at hm
          rw [leadlineref11_Mem_Cuts__m0_71_ffooo_l5] at hm
          refine th <| th <| ?_
          refine rg <| ?_
          refine ls <| q1 hF rfl (e_move hF rfl) fun a hF => ?_
          refine ls <| q1 hF rfl (e_move hF rfl) fun a hF => ?_
          refine ls <| q1 hF rfl (e_lenL (α := (List Int)) (xs := vB36) hF Try.runUnderlying28 rfl) fun a hF => ?_
          refine ls <| q1 hF rfl (e_lss hF rfl rfl) fun a hF => ?_
          refine re <| ?_
          rcases bdich (decide (vE2 < (vB36.length : Int))) with hb123 | hb123
          ·
            replace hm := itp_t hm hb123
            refine tn <| ctv hF rfl hb123 <| wk <| ?_
            refine tn <| th <| midK (fun a w => ∃ (vF1 : Bool), (leadlineref11_Mem_Cuts__m0_71_ffooo_j6 (leadlineref11_Mem_Cuts__m0_71_ffooo_l5 N (leadlineref11_Mem_Cuts__m0_71_ffooo_j4 (leadlineref11_Mem_Cuts__m0_71_ffooo_j3 (leadlineref11_Mem_Cuts__m0_71_ffooo_l2 N leadlineref11_Mem_Cuts__m0_71_ffooo_j1 r67 nn2) vB42) x84 r93 vB30 vB36) r93 vB36 nn5) vE2) vF1 = some r ∧ Fr 61 [(0, .pointer (some ⟨b2, 0, none⟩)), (3, .slice oa73 r67.length cap74), (4, .slice oaB31 vB30.length capB32), (5, .slice oaB37 vB36.length capB38), (6, .int .i64 vB42), (7, .slice oa95 r93.1.length cap96), (9, .bool vF1), (10, .int .i64 vE2)] a ∧ St w0 (sepA [blk b2 (.cells [.slice oa3 p1.Of.length cap4, .slice oa7 p1.Firsts.length cap8, .slice oa11 p1.L.length cap12, .slice oa16 p1.K.length cap17, .slice oa21 p1.W.length cap22].toArray 71 (0, 0)), sla 3 1 oa11 p1.L.length cap12 vs13, sla 3 1 oa16 p1.K.length cap17 vs18, sla 73 3 oa21 p1.W.length cap22 vs23]).fp [HB1] [sla 3 1 oa108 r93.2.2.L.length cap109 vs110, sla 3 1 oa113 r93.2.2.K.length cap114 vs115, sla 73 3 oa118 r93.2.2.W.length cap119 vs120, blk b2 (.cells [.slice oa100 r93.2.2.Of.length cap101, .slice oa104 r93.2.2.Firsts.length cap105, .slice oa108 r93.2.2.L.length cap109, .slice oa113 r93.2.2.K.length cap114, .slice oa118 r93.2.2.W.length cap119].toArray 71 (0, 0)), sla 26 1 oaB31 vB30.length capB32 vsB33, sla 26 1 oaB37 vB36.length capB38 vsB39, sla 3 1 oa95 r93.1.length cap96 vs97] w) ?_ ?_
            ·
              refine wb <| ?_
              rcases bdich vE1 with hb124 | hb124
              ·
                replace hm := ite_t hm hb124
                refine rg <| ?_
                refine ls <| q1 hF rfl (e_move hF rfl) fun a hF => ?_
                refine ls <| q1 hF rfl (e_as (e_move hF rfl) (congrArg Value.bool hb124)) fun a hF => ?_
                refine ls <| gn hF rfl rfl rfl rfl fun a hF => ?_
                refine ls <| gn hF rfl rfl rfl rfl fun a hF => ?_
                refine ls <| gn hF rfl rfl rfl rfl fun a hF => ?_
                refine ls <| gn hF rfl rfl rfl rfl fun a hF => ?_
                refine ls <| gn hF rfl rfl rfl rfl fun a hF => ?_
                refine ls <| gn hF rfl rfl rfl rfl fun a hF => ?_
                refine ls <| q1 hF rfl (e_pickT hF rfl rfl) fun a hF => ?_
                refine ls <| q1 hF rfl (e_asg hF rfl) fun a hF => ?_
                refine re <| ?_
                refine bn <| tn <| ?_
                exact ⟨true, hm, hF.has ⟨rfl, rfl, rfl, rfl, rfl, rfl, rfl, rfl, trivial⟩, hS⟩
              ·
                replace hm := ite_f hm hb124
                replace hm := bind_some hm
                obtain ⟨x125, h126, hm⟩ := hm
                have ho127 := Rd.oaI (hS.rdO (.tail _ (.tail _ (.tail _ (.tail _ (.tail _ (.head _))))))) hvB40 (by decide) h126
                obtain ⟨c128, g129, hl130⟩ := Rows.getI hvB40 h126
                obtain ⟨oa131, cap132, rfl, hc133, hr134⟩ := g129
                replace hm := bind_some hm
                obtain ⟨r135, h136, hm⟩ := hm
                refine rg <| ?_
                refine ls <| q1 hF rfl (e_move hF rfl) fun a hF => ?_
                refine ls <| q1 hF rfl (e_as (e_move hF rfl) (congrArg Value.bool hb124)) fun a hF => ?_
                refine ls <| gy hF rfl rfl <| q1 hF rfl (e_move hF rfl) fun a hF => ?_
                refine ls <| gy hF rfl rfl <| q1 hF rfl (e_move hF rfl) fun a hF => ?_
                refine ls <| gy hF rfl rfl <| q1 hF rfl (e_iaI hF Try.runUnderlying28 Try.sizeOf26 rfl rfl h126 ho127) fun a hF => ?_
                refine ls <| gy hF rfl rfl <| q1 hF rfl (e_ld hF Try.isAgg26 rfl ((St.ld hS).elO (.tail _ (.tail _ (.tail _ (.tail _ (.tail _ (.head _)))))) (hl130 0 _ rfl))) fun a hF => ?_
                refine ls <| gy hF rfl rfl <| q1 hF rfl (e_move hF rfl) fun a hF => ?_
                refine ls <| gy hF rfl rfl <| c1 hF rfl Try.call12 (leadlineref06_Ints_c (hp_le _) hc133 (St.srH hS hr134) (St.capO hS (.tail _ (.tail _ (.tail _ (.tail _ (.tail _ (.tail _ (.head _)))))))) (St.srO hS (.tail _ (.tail _ (.tail _ (.tail _ (.tail _ (.tail _ (.head _))))))) hv98) h136) ⟨rfl, rfl, trivial⟩ (fun v w a hR hF => ?_)
                obtain ⟨rfl, hk⟩ := hR
                replace hS := hS.pass hk
                clear hk
                refine ls <| q1 hF rfl (e_pickF hF rfl rfl) fun a hF => ?_
                refine ls <| q1 hF rfl (e_asg hF rfl) fun a hF => ?_
                refine re <| ?_
                refine bn <| tn <| ?_
                exact ⟨r135, hm, hF.has ⟨rfl, rfl, rfl, rfl, rfl, rfl, rfl, rfl, trivial⟩, hS⟩
            clear hm hF hS
            rintro a w ⟨vF1, hm, hF, hS⟩
            unfold leadlineref11_Mem_Cuts__m0_71_ffooo_j6 at hm
            refine rg <| ?_
            refine ls <| q1 hF rfl (e_move hF rfl) fun a hF => ?_
            refine ls <| q1 hF rfl (e_add hF rfl rfl) fun a hF => ?_
            refine ls <| q1 hF rfl (e_asg hF rfl) fun a hF => ?_
            refine re <| ?_
            refine tn <| ?_
            exact ⟨(nn5, vF1, (IntKind.i64.wrap (vE2 + 1))), ⟨hm, hF.has ⟨rfl, rfl, rfl, rfl, rfl, rfl, rfl, rfl, trivial⟩, hS⟩, Nat.lt_succ_self _⟩
          ·
            replace hm := itp_f hm hb123
            refine tn <| cfv hF rfl hb123 <| ?_
            refine we <| tx <| tx <| bx <| ?_
            refine tn <| ?_
            exact ⟨vE1, hm, hF.has ⟨rfl, rfl, rfl, rfl, rfl, rfl, rfl, trivial⟩, hS⟩
        clear hm hF hS
        rintro a w ⟨vD1, hm, hF, hS⟩
        unfold leadlineref11_Mem_Cuts__m0_71_ffooo_j4 at hm
        refine th <| ?_
        refine rg <| ?_
        refine ls <| q1 hF rfl (e_move hF rfl) fun a hF => ?_
        refine ls <| q1 hF rfl (e_not hF rfl) fun a hF => ?_
        refine re <| ?_
        rcases bdich vD1 with hb137 | hb137
        ·
          replace hm := ite_t hm hb137
          refine tn <| cfv hF rfl (by rw [hb137]; rfl) <| wk <| ?_
          refine bn <| tn <| ?_
          replace hS := hS.pickL (.cons .head (.cons .head (.cons .head (.cons .head (.cons .head (.cons .head .nil))))))
          exact ⟨r93.2.2.Of, r93.2.2.Firsts, r93.2.2.L, r93.2.2.K, r93.2.2.W, vB30, vB36, HB1, oa100, cap101, oa104, cap105, oa108, cap109, vs110, oa113, cap114, vs115, oa118, cap119, vs120, oaB31, capB32, vsB33, oaB37, capB38, vsB39, hm, (ExtM.refl _ _ _), hF.has ⟨rfl, rfl, rfl, rfl, rfl, trivial⟩, hS, hc102, hr103, hc106, hr107, hv111, hv116, hv121, hvB34, hvB40⟩
        ·
          replace hm := ite_f hm hb137
          refine tn <| ctv hF rfl (by rw [hb137]; rfl) <| th <| ?_
          replace hm := bind_some hm
          obtain ⟨l145, h146, hm⟩ := hm
          refine rg <| ?_
          refine ls <| q1 hF rfl (e_move hF rfl) fun a hF => ?_
          refine ls <| q1 hF rfl (e_move hF rfl) fun a hF => ?_
          obtain ⟨H141, hx138, hr139, hc140, hS⟩ := St.frzSM hS (.tail (.tail (.tail (.tail (.tail (.tail .head)))))) hv98
          refine ls <| a_bsl (e := 26) (sz := 1) [.slice oa95 r93.1.length cap96] hF rfl hS rfl rfl rfl (fun w => by kernel_rfl) fun b143 w a hS hF => ?_
          have hv142 : Rows (α := (List Int)) H141 [.slice oa95 r93.1.length cap96] ([r93.1] : List (List Int)) := (.cons (c := [.slice oa95 r93.1.length cap96]) ⟨_, _, rfl, hc140, hr139⟩ .nil)
          refine ls <| m_app (α := (List Int)) (xs := vB36) (ys := ([r93.1] : List (List Int))) hF rfl hS Try.underlying28 info26 rfl (by decide) rfl rfl rfl (.tail _ (.tail _ (.tail _ (.tail _ (.tail _ (.tail _ (.head _))))))) (hvB40.mono hx138.sub) (hS.rdO (.head _)) hv142 h146 fun oa147 cap148 vs149 w a hv150 hU hF => ?_
          replace hS := hU _ (.tail (.tail (.tail (.tail (.tail (.tail .head))))))
          clear hU
          replace hS := hS.drop .head
          refine ls <| q1 hF rfl (e_asg hF rfl) fun a hF => ?_
          refine re <| ?_
          refine tn <| ?_
          replace hm := bind_some hm
          obtain ⟨l154, h155, hm⟩ := hm
          refine rg <| ?_
          refine ls <| q1 hF rfl (e_move hF rfl) fun a hF => ?_
          refine ls <| q1 hF rfl (e_move hF rfl) fun a hF => ?_
          refine ls <| q1 hF rfl (e_move hF rfl) fun a hF => ?_
          refine ls <| q1 hF rfl (e_iaI hF Try.runUnderlying28 Try.sizeOf26 rfl rfl h85 (SR.oaI hr76 (by decide) h85)) fun a hF => ?_
          refine ls <| q1 hF rfl (e_ld hF Try.isAgg26 rfl (PH.le.cell (fun b o hx => (Lds.le (St.ld hS)) b o ((fun b o h => hx138.sub b o (hxHB1.sub b o h)) b o hx)) (hl88 0 _ rfl))) fun a hF => ?_
          refine ls <| a_bsl (e := 26) (sz := 1) [.slice oa89 x84.length cap90] hF rfl hS rfl rfl rfl (fun w => by kernel_rfl) fun b152 w a hS hF => ?_
          have hv151 : Rows (α := (List Int)) H141 [.slice oa89 x84.length cap90] ([x84] : List (List Int)) := (.cons (c := [.slice oa89 x84.length cap90]) ⟨_, _, rfl, hc91, (hr92.mono (fun b o h => hx138.sub b o (hxHB1.sub b o h)))⟩ .nil)
          refine ls <| m_app (α := (List Int)) (xs := vB30) (ys := ([x84] : List (List Int))) hF rfl hS Try.underlying28 info26 rfl (by decide) rfl rfl rfl (.tail _ (.tail _ (.tail _ (.tail _ (.tail _ (.head _)))))) (hvB34.mono hx138.sub) (hS.rdO (.head _)) hv151 h155 fun oa156 cap157 vs158 w a hv159 hU hF => ?_
          replace hS := hU _ (.tail (.tail (.tail (.tail (.tail .head)))))
          clear hU
          replace hS := hS.drop .head
          refine ls <| q1 hF rfl (e_asg hF rfl) fun a hF => ?_
          refine re <| ?_
          refine bn <| tn <| ?_
          exact ⟨r93.2.2.Of, r93.2.2.Firsts, r93.2.2.L, r93.2.2.K, r93.2.2.W, l154, l145, H141, oa100, cap101, oa104, cap105, oa108, cap109, vs110, oa113, cap114, vs115, oa118, cap119, vs120, oa156, cap157, vs158, oa147, cap148, vs149, hm, hx138, hF.has ⟨rfl, rfl, rfl, rfl, rfl, trivial⟩, hS, hc102, (hr103.mono hx138.sub), hc106, (hr107.mono hx138.sub), (hv111.mono hx138.sub), (hv116.mono hx138.sub), (hv121.mono hx138.sub), hv159, hv150⟩
      clear hm hF hS
      rintro a w ⟨vC2, vC7, vC12, vC18, vC24, vC30, vC36, HC1, oaC3, capC4, oaC8, capC9, oaC13, capC14, vsC15, oaC19, capC20, vsC21, oaC25, capC26, vsC27, oaC31, capC32, vsC33, oaC37, capC38, vsC39, hm, hxHC1, hF, hS, hcC5, hrC6, hcC10, hrC11, hvC16, hvC22, hvC28, hvC34, hvC40⟩
      unfold leadlineref11_Mem_Cuts__m0_71_ffooo_j3 at hm
      refine rg <| ?_
      refine ls <| q1 hF rfl (e_move hF rfl) fun a hF => ?_
      refine ls <| q1 hF rfl (e_add hF rfl rfl) fun a hF => ?_
      refine ls <| q1 hF rfl (e_asg hF rfl) fun a hF => ?_
      refine re <| ?_
      refine tn <| ?_
      exact ⟨(nn2, vC2, vC7, vC12, vC18, vC24, vC30, vC36, (IntKind.i64.wrap (vB42 + 1))), ⟨HC1, oaC3, capC4, oaC8, capC9, oaC13, capC14, vsC15, oaC19, capC20, vsC21, oaC25, capC26, vsC27, oaC31, capC32, vsC33, oaC37, capC38, vsC39, hm, (ExtM.trans hxHB1 hxHC1), hF.has ⟨rfl, rfl, rfl, rfl, rfl, trivial⟩, hS, hcC5, hrC6, hcC10, hrC11, hvC16, hvC22, hvC28, hvC34, hvC40⟩, Nat.lt_succ_self _⟩
    ·
      replace hm := itp_f hm hb83
      refine tn <| cfv hF rfl hb83 <| ?_
      refine we <| tx <| tx <| bx <| ?_
      refine tn <| ?_
      replace hS := hS.pickL (.cons .head (.cons .head (.cons .head (.cons .head (.cons .head .nil)))))
      exact ⟨vB2, vB7, vB12, vB18, vB24, vB30, HB1, oaB3, capB4, oaB8, capB9, oaB13, capB14, vsB15, oaB19, capB20, vsB21, oaB25, capB26, vsB27, oaB31, capB32, vsB33, hm, hxHB1, hF.has ⟨rfl, rfl, trivial⟩, hS, hcB5, hrB6, hcB10, hrB11, hvB16, hvB22, hvB28, hvB34⟩
  clear hm hF hS
  rintro a w ⟨vA2, vA7, vA12, vA18, vA24, vA30, HA1, oaA3, capA4, oaA8, capA9, oaA13, capA14, vsA15, oaA19, capA20, vsA21, oaA25, capA26, vsA27, oaA31, capA32, vsA33, hm, hxHA1, hF, hS, hcA5, hrA6, hcA10, hrA11, hvA16, hvA22, hvA28, hvA34⟩
  unfold leadlineref11_Mem_Cuts__m0_71_ffooo_j1 at hm
  refine th <| ?_
  refine rg <| ?_
  refine ls <| q1 hF rfl (e_move hF rfl) fun a hF => ?_
  refine ls <| q1 hF rfl (e_asg hF rfl) fun a hF => ?_
  refine re <| ?_
  refine tn <| ?_
  refine wr <| ?_
  obtain ⟨H163, hx160, hr161, hc162, hS⟩ := St.frzSM hS (.tail (.tail (.tail (.tail .head)))) hvA34
  obtain rfl := Option.some.inj hm
  exact r1 hF Try.results37 rfl ⟨H163, _, _, oaA3, capA4, oaA8, capA9, oaA13, capA14, vsA15, oaA19, capA20, vsA21, oaA25, capA26, vsA27, rfl, hc162, hr161, hcA5, (hrA6.mono hx160.sub), hcA10, (hrA11.mono hx160.sub), (fun _ => Rows.ind hvA16), (fun _ => Rows.ind hvA22), (fun _ => Rows.ind hvA28), (ExtM.trans hx59 (ExtM.trans hx63 (ExtM.trans hx69 (ExtM.trans hxHA1 hx160)))), (St.le hS), (St.disL (hS.pickL (.cons (.tail (.tail (.tail .head))) (.cons .head (.cons .head (.cons .head .nil)))))), (hS.pickL (.cons (.tail (.tail (.tail .head))) (.cons .head (.cons .head (.cons .head .nil))))).endMut⟩

set_option maxRecDepth 100000 in
theorem leadlineref11_Mem_Crash__m0_71_ffooo_c {N : Nat} {w0 : World} {H : PH} (hH : H.le w0) {b2 : Nat} {p1 : leadlineref11_Mem} {oa3 : Option Addr} {cap4 : Nat} (hc5 : p1.Of.length ≤ cap4) (hr6 : SR H oa3 p1.Of) {oa7 : Option Addr} {cap8 : Nat} (hc9 : p1.Firsts.length ≤ cap8) (hr10 : SR H oa7 p1.Firsts) {oa11 : Option Addr} {cap12 : Nat} {vs13 : List Value} (hv14 : Rows H vs13 p1.L) {oa16 : Option Addr} {cap17 : Nat} {vs18 : List Value} (hv19 : Rows H vs18 p1.K) {oa21 : Option Addr} {cap22 : Nat} {vs23 : List Value} (hv24 : Rows H vs23 p1.W) {oa27 : Option Addr} {cap28 : Nat} {p26 : (List Int)} (hc29 : p26.length ≤ cap28) (hr30 : SR H oa27 p26) (hO : (sepA [blk b2 (.cells [.slice oa3 p1.Of.length cap4, .slice oa7 p1.Firsts.length cap8, .slice oa11 p1.L.length cap12, .slice oa16 p1.K.length cap17, .slice oa21 p1.W.length cap22].toArray 71 (0, 0)), sla 3 1 oa11 p1.L.length cap12 vs13, sla 3 1 oa16 p1.K.length cap17 vs18, sla 73 3 oa21 p1.W.length cap22 vs23]).ok (hp w0)) (hD : ∀ b, (sepA [blk b2 (.cells [.slice oa3 p1.Of.length cap4, .slice oa7 p1.Firsts.length cap8, .slice oa11 p1.L.length cap12, .slice oa16 p1.K.length cap17, .slice oa21 p1.W.length cap22].toArray 71 (0, 0)), sla 3 1 oa11 p1.L.length cap12 vs13, sla 3 1 oa16 p1.K.length cap17 vs18, sla 73 3 oa21 p1.W.length cap22 vs23]).fp b → H b = none) {r : (Int × leadlineref11_Mem)} (hm : leadlineref11_Mem_Crash__m0_71_ffooo N p1 p26 = some r) : Tot Try.prog 24 #[.pointer (some ⟨b2, 0, none⟩), .slice oa27 p26.length cap28] w0 (fun v w' => ∃ (oa1m : Option Addr) (cap1m : Nat) (oa2m : Option Addr) (cap2m : Nat) (oa3m : Option Addr) (cap3m : Nat) (vs3m : List Value) (oa4m : Option Addr) (cap4m : Nat) (vs4m : List Value) (oa5m : Option Addr) (cap5m : Nat) (vs5m : List Value), v = .int .i64 r.1 ∧ r.2.Of.length ≤ cap1m ∧ SR H oa1m r.2.Of ∧ r.2.Firsts.length ≤ cap2m ∧ SR H oa2m r.2.Firsts ∧ (∀ h, Rows h vs3m r.2.L) ∧ (∀ h, Rows h vs4m r.2.K) ∧ (∀ h, Rows h vs5m r.2.W) ∧ Mut w0 (sepA [blk b2 (.cells [.slice oa3 p1.Of.length cap4, .slice oa7 p1.Firsts.length cap8, .slice oa11 p1.L.length cap12, .slice oa16 p1.K.length cap17, .slice oa21 p1.W.length cap22].toArray 71 (0, 0)), sla 3 1 oa11 p1.L.length cap12 vs13, sla 3 1 oa16 p1.K.length cap17 vs18, sla 73 3 oa21 p1.W.length cap22 vs23]) (sepA [blk b2 (.cells [.slice oa1m r.2.Of.length cap1m, .slice oa2m r.2.Firsts.length cap2m, .slice oa3m r.2.L.length cap3m, .slice oa4m r.2.K.length cap4m, .slice oa5m r.2.W.length cap5m].toArray 71 (0, 0)), sla 3 1 oa3m r.2.L.length cap3m vs3m, sla 3 1 oa4m r.2.K.length cap4m vs4m, sla 73 3 oa5m r.2.W.length cap5m vs5m]) w') := by
  unfold leadlineref11_Mem_Crash__m0_71_ffooo at hm
  refine fn0 (args := [.pointer (some ⟨b2, 0, none⟩), .slice oa27 p26.length cap28]) (F := [(0, .pointer (some ⟨b2, 0, none⟩)), (1, .slice oa27 p26.length cap28)]) Try.func24 rfl Try.ntmps24 rfl rfl fun a hF => ?_
  have hS := startM hH hO hD
  refine th <| ?_
  refine rg <| ?_
  refine ls <| q1 hF rfl (e_asg hF rfl) fun a hF => ?_
  refine re <| ?_
  refine tn <| th <| ?_
  replace hm := bind_some hm
  obtain ⟨r31, h32, hm⟩ := hm
  refine rg <| ?_
  refine ls <| q1 hF rfl (e_move hF rfl) fun a hF => ?_
  refine ls <| q1 hF rfl (e_move hF rfl) fun a hF => ?_
  replace hS := hS.pickL (.cons .head (.cons .head (.cons .head (.cons .head .nil))))
  replace hS := St.sep [blk b2 (.cells [.slice oa3 p1.Of.length cap4, .slice oa7 p1.Firsts.length cap8, .slice oa11 p1.L.length cap12, .slice oa16 p1.K.length cap17, .slice oa21 p1.W.length cap22].toArray 71 (0, 0)), sla 3 1 oa11 p1.L.length cap12 vs13, sla 3 1 oa16 p1.K.length cap17 vs18, sla 73 3 oa21 p1.W.length cap22 vs23] hS
  refine ls <| c1 hF rfl Try.call26 (leadlineref11_Mem_Image__m0_71_ffooo_c (St.le hS) (p1 := p1) (b2 := b2) (oa3 := oa3) (cap4 := cap4) (oa7 := oa7) (cap8 := cap8) (oa11 := oa11) (cap12 := cap12) (vs13 := vs13) (oa16 := oa16) (cap17 := cap17) (vs18 := vs18) (oa21 := oa21) (cap22 := cap22) (vs23 := vs23) hc5 hr6 hc9 hr10 hv14 hv19 hv24 hc29 hr30 (St.sepOk hS) (St.sepDis hS) h32) ⟨rfl, rfl, trivial⟩ (fun v w a hR hF => ?_)
  obtain ⟨oa33, cap34, vs35, oa38, cap39, oa42, cap43, oa46, cap47, vs48, oa51, cap52, vs53, oa56, cap57, vs58, rfl, hv36, hc40, hr41, hc44, hr45, hv49, hv54, hv59, hk⟩ := hR
  replace hS := (hS.mut hk .head).unsep
  clear hk
  replace hv49 := hv49 H
  replace hv54 := hv54 H
  replace hv59 := hv59 H
  replace hv36 := hv36 H
  refine ls <| q1 hF rfl (e_move hF rfl) fun a hF => ?_
  refine ls <| q1 hF rfl (e_ext hF rfl rfl) fun a hF => ?_
  refine ls <| q1 hF rfl (e_ext hF rfl rfl) fun a hF => ?_
  refine ls <| q1 hF rfl (e_asg hF rfl) fun a hF => ?_
  refine ls <| q1 hF rfl (e_asg hF rfl) fun a hF => ?_
  refine re <| ?_
  refine tn <| th <| th <| ?_
  refine rg <| ?_
  refine ls <| q1 hF rfl (e_move hF rfl) fun a hF => ?_
  refine ls <| q1 hF rfl (e_neq hF rfl rfl) fun a hF => ?_
  refine re <| ?_
  rcases bdich (decide (r31.2.1 ≠ 0)) with hb61 | hb61
  ·
    replace hm := itp_t hm hb61
    refine tn <| ctv hF rfl hb61 <| th <| ?_
    refine rg <| ?_
    refine ls <| q1 hF rfl (e_move hF rfl) fun a hF => ?_
    refine ls <| q1 hF rfl (e_asg hF rfl) fun a hF => ?_
    refine re <| ?_
    refine tn <| ?_
    refine wr <| tr <| ?_
    obtain rfl := Option.some.inj hm
    exact r1 hF Try.results24 rfl ⟨oa38, cap39, oa42, cap43, oa46, cap47, vs48, oa51, cap52, vs53, oa56, cap57, vs58, rfl, hc40, hr41, hc44, hr45, (fun _ => Rows.ind hv49), (fun _ => Rows.ind hv54), (fun _ => Rows.ind hv59), (hS.pickL (.cons .head (.cons .head (.cons .head (.cons .head .nil))))).endMut⟩
  ·
    replace hm := itp_f hm hb61
    refine tn <| cfv hF rfl hb61 <| wk <| ?_
    refine tn <| th <| ?_
    replace hm := bind_some hm
    obtain ⟨l65, h66, hm⟩ := hm
    refine rg <| ?_
    refine ls <| a_bsl (e := 3) (sz := 1) [] hF rfl hS rfl rfl rfl (fun w => by kernel_rfl) fun b63 w a hS hF => ?_
    have hv62 : Rows (α := Int) H [] [] := .nil
    refine ls <| q1 hF rfl (e_move hF rfl) fun a hF => ?_
    refine ls <| m_app (α := Int) (xs := []) (ys := r31.1) hF rfl hS Try.underlying26 info3 rfl (by decide) rfl rfl rfl (.head _) hv62 (hS.rdO (.tail _ (.tail _ (.tail _ (.tail _ (.tail _ (.head _))))))) hv36 h66 fun oa67 cap68 vs69 w a hv70 hU hF => ?_
    replace hS := hU _ .head
    clear hU
    refine ls <| q1 hF rfl (e_asg hF rfl) fun a hF => ?_
    refine re <| ?_
    refine tn <| th <| ?_
    replace hm := bind_some hm
    obtain ⟨l71, h72, hm⟩ := hm
    obtain ⟨oa73, cap74, e75, e76, hc77, hr78⟩ := SR.sub (sz := 1) hr45 hc44 rfl h72
    replace hm := bind_some hm
    obtain ⟨l79, h80, hm⟩ := hm
    refine rdL (sub_cons (.tail _ (.head _)) (sub_cons (.tail _ (.tail _ (.head _))) (sub_cons (.tail _ (.tail _ (.tail _ (.head _)))) (sub_cons (.tail _ (.tail _ (.tail _ (.tail _ (.head _))))) (sub_cons (.tail _ (.tail _ (.tail _ (.tail _ (.tail _ (.head _)))))) sub_nil))))) 13 hS wide fun w hS => ?_
    refine d1 (i := 0) rfl (by kernel_rfl) (by kernel_rfl) (St.ldsX hS (fun _ _ h => h) (fun _ h => (.tail _ h))) hF rfl (fun _ _ _ h => h) (fun w hl => (e_move hF rfl)) fun a hF => ?_
    refine d1 (i := 1) rfl (by kernel_rfl) (by kernel_rfl) (St.ldsX hS (fun _ _ h => h) (fun _ h => (.tail _ h))) hF rfl (fun _ _ _ h => h) (fun w hl => (e_move hF rfl)) fun a hF => ?_
    refine d1 (i := 2) rfl (by kernel_rfl) (by kernel_rfl) (St.ldsX hS (fun _ _ h => h) (fun _ h => (.tail _ h))) hF rfl (fun _ _ _ h => h) (fun w hl => (e_nilp hF rfl)) fun a hF => ?_
    refine d1 (i := 3) rfl (by kernel_rfl) (by kernel_rfl) (St.ldsX hS (fun _ _ h => h) (fun _ h => (.tail _ h))) hF rfl (fun _ _ _ h => h) (fun w hl => (e_fa hF fa71_1 rfl)) fun a hF => ?_
    refine d1 (i := 4) rfl (by kernel_rfl) (by kernel_rfl) (St.ldsX hS (fun _ _ h => h) (fun _ h => (.tail _ h))) hF rfl (fun _ _ _ h => h) (fun w hl => (e_ld hF Try.isAgg26 rfl (hl.cellB (.head _) rfl))) fun a hF => ?_
    refine d1 (i := 5) rfl (by kernel_rfl) (by kernel_rfl) (St.ldsX hS (fun _ _ h => h) (fun _ h => (.tail _ h))) hF rfl (fun _ _ _ h => h) (fun w hl => (e_move hF rfl)) fun a hF => ?_
    refine d1 (i := 6) rfl (by kernel_rfl) (by kernel_rfl) (St.ldsX hS (fun _ _ h => h) (fun _ h => (.tail _ h))) hF rfl (fun _ _ _ h => h) (fun w hl => (e_nilp hF rfl)) fun a hF => ?_
    refine d1 (i := 7) rfl (by kernel_rfl) (by kernel_rfl) (St.ldsX hS (fun _ _ h => h) (fun _ h => (.tail _ h))) hF rfl (fun _ _ _ h => h) (fun w hl => (e_fa hF fa71_0 rfl)) fun a hF => ?_
    refine d1 (i := 8) rfl (by kernel_rfl) (by kernel_rfl) (St.ldsX hS (fun _ _ h => h) (fun _ h => (.tail _ h))) hF rfl (fun _ _ _ h => h) (fun w hl => (e_ld hF Try.isAgg26 rfl (hl.cellB (.head _) rfl))) fun a hF => ?_
    refine d1 (i := 9) rfl (by kernel_rfl) (by kernel_rfl) (St.ldsX hS (fun _ _ h => h) (fun _ h => (.tail _ h))) hF rfl (fun _ _ _ h => h) (fun w hl => (e_lenL (α := Int) (xs := r31.2.2.Of) hF Try.runUnderlying26 rfl)) fun a hF => ?_
    refine d1 (i := 10) rfl (by kernel_rfl) (by kernel_rfl) (St.ldsX hS (fun _ _ h => h) (fun _ h => (.tail _ h))) hF rfl (fun _ _ _ h => h) (fun w hl => (e_subL (xs := r31.2.2.Firsts) (vl := (r31.2.2.Of.length : Int)) (vh := (r31.2.2.Firsts.length : Int)) hF Try.runUnderlying26 Try.sizeOf3 rfl hc44 rfl rfl h72 e75 e76)) fun a hF => ?_
    refine da1 (i := 11) (by kernel_rfl) ?_
    obtain ⟨us85, hd86, hu87⟩ := id hr78
    refine di (i := 11) rfl <| m_app (α := Int) (xs := l65) (ys := l71) hF rfl hS Try.underlying26 info3 rfl (by decide) rfl rfl rfl (.head _) hv70 (hS.rdH (.head _) hd86) hu87 h80 fun oa81 cap82 vs83 w a hv84 hU hF => ?_
    replace hS := hU _ .head
    clear hU
    refine ⟨fun _ => (St.ldsX hS (fun _ _ h => h) (fun _ h => (.tail _ h))), ?_⟩
    refine d1 (i := 12) rfl (by kernel_rfl) (by kernel_rfl) (St.ldsX hS (fun _ _ h => h) (fun _ h => (.tail _ h))) hF rfl (fun _ _ _ h => h) (fun w hl => (e_asg hF rfl)) fun a hF => ?_
    refine de (by kernel_rfl) <| ?_
    refine tn <| th <| ?_
    refine rg <| ?_
    refine ls <| q1 hF rfl (e_move hF rfl) fun a hF => ?_
    refine ls <| q1 hF rfl (e_move hF rfl) fun a hF => ?_
    refine ls <| q1 hF rfl (e_nilp hF rfl) fun a hF => ?_
    refine ls <| q1 hF rfl (e_fa hF fa71_2 rfl) fun a hF => ?_
    refine ls <| s_blk hF hS Try.sizeOf26 rfl rfl rfl rfl (.tail .head) (.succ (.succ .zero)) fun w hS => ?_
    refine re <| ?_
    refine tn <| th <| ?_
    refine rg <| ?_
    refine ls <| q1 hF rfl (e_move hF rfl) fun a hF => ?_
    refine ls <| q1 hF rfl (e_move hF rfl) fun a hF => ?_
    refine ls <| q1 hF rfl (e_nilp hF rfl) fun a hF => ?_
    refine ls <| q1 hF rfl (e_fa hF fa71_3 rfl) fun a hF => ?_
    refine ls <| s_blk hF hS Try.sizeOf26 rfl rfl rfl rfl (.tail .head) (.succ (.succ (.succ .zero))) fun w hS => ?_
    refine re <| ?_
    refine tn <| th <| ?_
    refine rg <| ?_
    refine ls <| q1 hF rfl (e_move hF rfl) fun a hF => ?_
    refine ls <| q1 hF rfl (e_nilp hF rfl) fun a hF => ?_
    refine ls <| q1 hF rfl (e_fa hF fa71_4 rfl) fun a hF => ?_
    refine ls <| s_blk hF hS Try.sizeOf69 rfl rfl rfl rfl (.tail .head) (.succ (.succ (.succ (.succ .zero)))) fun w hS => ?_
    refine re <| ?_
    refine tn <| th <| ?_
    refine rg <| ?_
    refine ls <| q1 hF rfl (e_asg hF rfl) fun a hF => ?_
    refine re <| ?_
    refine tn <| ?_
    refine wr <| ?_
    replace hS := St.nilS hS 73 3
    obtain rfl := Option.some.inj hm
    exact r1 hF Try.results24 rfl ⟨oa38, cap39, oa42, cap43, oa81, cap82, vs83, oa33, cap34, vs35, none, 0, [], rfl, hc40, hr41, hc44, hr45, (fun _ => Rows.ind hv84), (fun _ => Rows.ind hv36), (fun _ => .nil), (hS.pickL (.cons (.tail (.tail .head)) (.cons (.tail .head) (.cons (.tail (.tail (.tail (.tail .head)))) (.cons .head .nil))))).endMut⟩
end Go.LM.LINES
