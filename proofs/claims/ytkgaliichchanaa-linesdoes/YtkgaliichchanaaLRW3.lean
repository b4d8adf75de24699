/- Walks, lifted by program. No condition beyond each theorem's own premises. -/
import Derived.Test.YtkgaliichchanaaLRW2
namespace Go.LM.LINES
open Go Go.LL Go.MD Go.LM Go.Proofs Go.MD.LINES

set_option maxHeartbeats 4000000 in
set_option maxRecDepth 100000 in
theorem leadlineref11_Mem_Image__m0_71_ffooo_c {N : Nat} {w0 : World} {H : PH} (hH : H.le w0) {b2 : Nat} {p1 : leadlineref11_Mem} {oa3 : Option Addr} {cap4 : Nat} (hc5 : p1.Of.length ≤ cap4) (hr6 : SR H oa3 p1.Of) {oa7 : Option Addr} {cap8 : Nat} (hc9 : p1.Firsts.length ≤ cap8) (hr10 : SR H oa7 p1.Firsts) {oa11 : Option Addr} {cap12 : Nat} {vs13 : List Value} (hv14 : Rows H vs13 p1.L) {oa16 : Option Addr} {cap17 : Nat} {vs18 : List Value} (hv19 : Rows H vs18 p1.K) {oa21 : Option Addr} {cap22 : Nat} {vs23 : List Value} (hv24 : Rows H vs23 p1.W) {oa27 : Option Addr} {cap28 : Nat} {p26 : (List Int)} (hc29 : p26.length ≤ cap28) (hr30 : SR H oa27 p26) (hO : (sepA [blk b2 (.cells [.slice oa3 p1.Of.length cap4, .slice oa7 p1.Firsts.length cap8, .slice oa11 p1.L.length cap12, .slice oa16 p1.K.length cap17, .slice oa21 p1.W.length cap22].toArray 71 (0, 0)), sla 3 1 oa11 p1.L.length cap12 vs13, sla 3 1 oa16 p1.K.length cap17 vs18, sla 73 3 oa21 p1.W.length cap22 vs23]).ok (hp w0)) (hD : ∀ b, (sepA [blk b2 (.cells [.slice oa3 p1.Of.length cap4, .slice oa7 p1.Firsts.length cap8, .slice oa11 p1.L.length cap12, .slice oa16 p1.K.length cap17, .slice oa21 p1.W.length cap22].toArray 71 (0, 0)), sla 3 1 oa11 p1.L.length cap12 vs13, sla 3 1 oa16 p1.K.length cap17 vs18, sla 73 3 oa21 p1.W.length cap22 vs23]).fp b → H b = none) {r : ((List Int) × Int × leadlineref11_Mem)} (hm : leadlineref11_Mem_Image__m0_71_ffooo N p1 p26 = some r) : Tot Try.prog 26 #[.pointer (some ⟨b2, 0, none⟩), .slice oa27 p26.length cap28] w0 (fun v w' => ∃ (oa0 : Option Addr) (cap0 : Nat) (vs0 : List Value) (oa1m : Option Addr) (cap1m : Nat) (oa2m : Option Addr) (cap2m : Nat) (oa3m : Option Addr) (cap3m : Nat) (vs3m : List Value) (oa4m : Option Addr) (cap4m : Nat) (vs4m : List Value) (oa5m : Option Addr) (cap5m : Nat) (vs5m : List Value), v = .tuple #[.slice oa0 r.1.length cap0, .int .i64 r.2.1] ∧ (∀ h, Rows h vs0 r.1) ∧ r.2.2.Of.length ≤ cap1m ∧ SR H oa1m r.2.2.Of ∧ r.2.2.Firsts.length ≤ cap2m ∧ SR H oa2m r.2.2.Firsts ∧ (∀ h, Rows h vs3m r.2.2.L) ∧ (∀ h, Rows h vs4m r.2.2.K) ∧ (∀ h, Rows h vs5m r.2.2.W) ∧ Mut w0 (sepA [blk b2 (.cells [.slice oa3 p1.Of.length cap4, .slice oa7 p1.Firsts.length cap8, .slice oa11 p1.L.length cap12, .slice oa16 p1.K.length cap17, .slice oa21 p1.W.length cap22].toArray 71 (0, 0)), sla 3 1 oa11 p1.L.length cap12 vs13, sla 3 1 oa16 p1.K.length cap17 vs18, sla 73 3 oa21 p1.W.length cap22 vs23]) (sepA [blk b2 (.cells [.slice oa1m r.2.2.Of.length cap1m, .slice oa2m r.2.2.Firsts.length cap2m, .slice oa3m r.2.2.L.length cap3m, .slice oa4m r.2.2.K.length cap4m, .slice oa5m r.2.2.W.length cap5m].toArray 71 (0, 0)), sla 3 1 oa3m r.2.2.L.length cap3m vs3m, sla 3 1 oa4m r.2.2.K.length cap4m vs4m, sla 73 3 oa5m r.2.2.W.length cap5m vs5m, sla 3 1 oa0 r.1.length cap0 vs0]) w') := by
  unfold leadlineref11_Mem_Image__m0_71_ffooo at hm
  refine fn0 (args := [.pointer (some ⟨b2, 0, none⟩), .slice oa27 p26.length cap28]) (F := [(0, .pointer (some ⟨b2, 0, none⟩)), (1, .slice oa27 p26.length cap28)]) Try.func26 rfl Try.ntmps26 rfl rfl fun a hF => ?_
  have hS := startM hH hO hD
  refine th <| ?_
  refine rg <| ?_
  refine ls <| q1 hF rfl (e_asg hF rfl) fun a hF => ?_
  refine ls <| q1 hF rfl (e_asg hF rfl) fun a hF => ?_
  refine re <| ?_
  refine tn <| th <| ?_
  replace hm := bind_some hm
  obtain ⟨r31, h32, hm⟩ := hm
  refine rg <| ?_
  refine ls <| q1 hF rfl (e_move hF rfl) fun a hF => ?_
  replace hS := hS.pickL (.cons .head (.cons .head (.cons .head (.cons .head .nil))))
  replace hS := St.sep [blk b2 (.cells [.slice oa3 p1.Of.length cap4, .slice oa7 p1.Firsts.length cap8, .slice oa11 p1.L.length cap12, .slice oa16 p1.K.length cap17, .slice oa21 p1.W.length cap22].toArray 71 (0, 0)), sla 3 1 oa11 p1.L.length cap12 vs13, sla 3 1 oa16 p1.K.length cap17 vs18, sla 73 3 oa21 p1.W.length cap22 vs23] hS
  refine ls <| c1 hF rfl Try.call36 (leadlineref11_Mem_Pending__m0_71_ffooo_c (St.le hS) (p1 := p1) (b2 := b2) (oa3 := oa3) (cap4 := cap4) (oa7 := oa7) (cap8 := cap8) (oa11 := oa11) (cap12 := cap12) (vs13 := vs13) (oa16 := oa16) (cap17 := cap17) (vs18 := vs18) (oa21 := oa21) (cap22 := cap22) (vs23 := vs23) hc5 hr6 hc9 hr10 hv14 hv19 hv24 (St.sepOk hS) (St.sepDis hS) h32) ⟨rfl, trivial⟩ (fun v w a hR hF => ?_)
  obtain ⟨oa33, cap34, vs35, oa38, cap39, oa42, cap43, oa46, cap47, vs48, oa51, cap52, vs53, oa56, cap57, vs58, rfl, hv36, hc40, hr41, hc44, hr45, hv49, hv54, hv59, hk⟩ := hR
  replace hS := (hS.mut hk .head).unsep
  clear hk
  replace hv49 := hv49 H
  replace hv54 := hv54 H
  replace hv59 := hv59 H
  replace hv36 := hv36 H
  refine ls <| q1 hF rfl (e_asg hF rfl) fun a hF => ?_
  refine re <| ?_
  refine tn <| th <| th <| ?_
  refine rg <| ?_
  refine ls <| q1 hF rfl (e_move hF rfl) fun a hF => ?_
  refine ls <| q1 hF rfl (e_lenL (α := Int) (xs := p26) hF Try.runUnderlying26 rfl) fun a hF => ?_
  refine ls <| q1 hF rfl (e_move hF rfl) fun a hF => ?_
  refine ls <| q1 hF rfl (e_lenL (α := Int) (xs := r31.1) hF Try.runUnderlying26 rfl) fun a hF => ?_
  refine ls <| q1 hF rfl (e_neq hF rfl rfl) fun a hF => ?_
  refine re <| ?_
  rcases bdich (decide ((p26.length : Int) ≠ (r31.1.length : Int))) with hb61 | hb61
  ·
    replace hm := itp_t hm hb61
    refine tn <| ctv hF rfl hb61 <| th <| ?_
    refine rg <| ?_
    refine ls <| q1 hF rfl (e_asg hF rfl) fun a hF => ?_
    refine ls <| q1 hF rfl (e_asg hF rfl) fun a hF => ?_
    refine re <| ?_
    refine tn <| ?_
    refine wr <| tr <| ?_
    replace hS := St.nilS hS 3 1
    obtain rfl := Option.some.inj hm
    exact r2 hF Try.results26 rfl rfl ⟨_, _, _, oa38, cap39, oa42, cap43, oa46, cap47, vs48, oa51, cap52, vs53, oa56, cap57, vs58, rfl, (fun _ => .nil), hc40, hr41, hc44, hr45, (fun _ => Rows.ind hv49), (fun _ => Rows.ind hv54), (fun _ => Rows.ind hv59), (hS.pickL (.cons (.tail .head) (.cons (.tail .head) (.cons (.tail .head) (.cons (.tail .head) (.cons .head .nil)))))).endMut⟩
  ·
    replace hm := itp_f hm hb61
    refine tn <| cfv hF rfl hb61 <| wk <| ?_
    refine tn <| th <| th <| ?_
    refine rg <| ?_
    refine ls <| q1 hF rfl (e_asg hF rfl) fun a hF => ?_
    refine re <| ?_
    refine tn <| midK (fun a w => (leadlineref11_Mem_Image__m0_71_ffooo_j1 N p26 r31) = some r ∧ Fr 89 [(0, .pointer (some ⟨b2, 0, none⟩)), (1, .slice oa27 p26.length cap28)] a ∧ St w0 (sepA [blk b2 (.cells [.slice oa3 p1.Of.length cap4, .slice oa7 p1.Firsts.length cap8, .slice oa11 p1.L.length cap12, .slice oa16 p1.K.length cap17, .slice oa21 p1.W.length cap22].toArray 71 (0, 0)), sla 3 1 oa11 p1.L.length cap12 vs13, sla 3 1 oa16 p1.K.length cap17 vs18, sla 73 3 oa21 p1.W.length cap22 vs23]).fp [H] [sla 3 1 oa46 r31.2.L.length cap47 vs48, sla 3 1 oa51 r31.2.K.length cap52 vs53, sla 73 3 oa56 r31.2.W.length cap57 vs58, blk b2 (.cells [.slice oa38 r31.2.Of.length cap39, .slice oa42 r31.2.Firsts.length cap43, .slice oa46 r31.2.L.length cap47, .slice oa51 r31.2.K.length cap52, .slice oa56 r31.2.W.length cap57].toArray 71 (0, 0))] w) ?_ ?_
    ·
      replace hS := hS.pickL (.cons (.tail .head) (.cons (.tail .head) (.cons (.tail .head) (.cons .head (.cons .head .nil)))))
      refine wb <| lp (α := Nat × Int) (fun (gh : Nat × Int) a w => match gh with | (nn2, vB1) => (leadlineref11_Mem_Image__m0_71_ffooo_l2 N (leadlineref11_Mem_Image__m0_71_ffooo_j1 N p26 r31) p26 r31) nn2 vB1 = some r ∧ Fr 89 [(0, .pointer (some ⟨b2, 0, none⟩)), (1, .slice oa27 p26.length cap28), (6, .slice oa33 r31.1.length cap34), (7, .int .i64 vB1)] a ∧ St w0 (sepA [blk b2 (.cells [.slice oa3 p1.Of.length cap4, .slice oa7 p1.Firsts.length cap8, .slice oa11 p1.L.length cap12, .slice oa16 p1.K.length cap17, .slice oa21 p1.W.length cap22].toArray 71 (0, 0)), sla 3 1 oa11 p1.L.length cap12 vs13, sla 3 1 oa16 p1.K.length cap17 vs18, sla 73 3 oa21 p1.W.length cap22 vs23]).fp [H] [sla 3 1 oa46 r31.2.L.length cap47 vs48, sla 3 1 oa51 r31.2.K.length cap52 vs53, sla 73 3 oa56 r31.2.W.length cap57 vs58, blk b2 (.cells [.slice oa38 r31.2.Of.length cap39, .slice oa42 r31.2.Firsts.length cap43, .slice oa46 r31.2.L.length cap47, .slice oa51 r31.2.K.length cap52, .slice oa56 r31.2.W.length cap57].toArray 71 (0, 0)), sla 3 1 oa33 r31.1.length cap34 vs35] w) (fun gh => gh.1) (N, 0) ⟨hm, hF.has ⟨rfl, rfl, rfl, rfl, trivial⟩, hS⟩ ?_
      clear hm hF hS
      rintro ⟨nn2, vB1⟩ a w ⟨hm, hF, hS⟩
      obtain _ | nn2 := nn2
      · simp [leadlineref11_Mem_Image__m0_71_ffooo_l2] at hm
      rw [leadlineref11_Mem_Image__m0_71_ffooo_l2] at hm
      refine th <| th <| ?_
      refine rg <| ?_
      refine ls <| q1 hF rfl (e_move hF rfl) fun a hF => ?_
      refine ls <| q1 hF rfl (e_move hF rfl) fun a hF => ?_
      refine ls <| q1 hF rfl (e_lenL (α := Int) (xs := r31.1) hF Try.runUnderlying26 rfl) fun a hF => ?_
      refine ls <| q1 hF rfl (e_lss hF rfl rfl) fun a hF => ?_
      refine re <| ?_
      rcases bdich (decide (vB1 < (r31.1.length : Int))) with hb62 | hb62
      ·
        replace hm := itp_t hm hb62
        refine tn <| ctv hF rfl hb62 <| wk <| ?_
        refine tn <| th <| wb <| th <| midK (fun a w => ∃ (vC1 : Bool), (leadlineref11_Mem_Image__m0_71_ffooo_j3 (leadlineref11_Mem_Image__m0_71_ffooo_l2 N (leadlineref11_Mem_Image__m0_71_ffooo_j1 N p26 r31) p26 r31 nn2) r31 vB1) vC1 = some r ∧ Fr 89 [(0, .pointer (some ⟨b2, 0, none⟩)), (1, .slice oa27 p26.length cap28), (6, .slice oa33 r31.1.length cap34), (7, .int .i64 vB1), (40, .bool vC1)] a ∧ St w0 (sepA [blk b2 (.cells [.slice oa3 p1.Of.length cap4, .slice oa7 p1.Firsts.length cap8, .slice oa11 p1.L.length cap12, .slice oa16 p1.K.length cap17, .slice oa21 p1.W.length cap22].toArray 71 (0, 0)), sla 3 1 oa11 p1.L.length cap12 vs13, sla 3 1 oa16 p1.K.length cap17 vs18, sla 73 3 oa21 p1.W.length cap22 vs23]).fp [H] [sla 3 1 oa46 r31.2.L.length cap47 vs48, sla 3 1 oa51 r31.2.K.length cap52 vs53, sla 73 3 oa56 r31.2.W.length cap57 vs58, blk b2 (.cells [.slice oa38 r31.2.Of.length cap39, .slice oa42 r31.2.Firsts.length cap43, .slice oa46 r31.2.L.length cap47, .slice oa51 r31.2.K.length cap52, .slice oa56 r31.2.W.length cap57].toArray 71 (0, 0)), sla 3 1 oa33 r31.1.length cap34 vs35] w) ?_ ?_
        ·
          replace hm := bind_some hm
          obtain ⟨x63, h64, hm⟩ := hm
          obtain ⟨c65, g66, hl67⟩ := SR.get hr30 h64
          obtain rfl : c65 = [.int .i64 x63] := g66
          rcases bdich (decide (x63 < 0)) with hb68 | hb68
          ·
            replace hm := itp_t hm hb68
            refine rxS 16 hS wide (by kernel_rfl) fun w hS => ?_
            refine x1 (St.ld hS) hF rfl rfl (fun _ _ _ h => h) (fun w hl => (e_move hF rfl)) fun a hF => ?_
            refine x1 (St.ld hS) hF rfl rfl (fun _ _ _ h => h) (fun w hl => (e_move hF rfl)) fun a hF => ?_
            refine x1 (St.ld hS) hF rfl rfl (fun _ _ _ h => h) (fun w hl => (e_iaI hF Try.runUnderlying26 Try.sizeOf3 rfl rfl h64 (SR.oaI hr30 (by decide) h64))) fun a hF => ?_
            refine x1 (St.ld hS) hF rfl rfl (fun _ _ _ h => h) (fun w hl => (e_ld hF Try.isAgg3 rfl (PH.le.cell (Lds.le hl) (hl67 0 _ rfl)))) fun a hF => ?_
            refine x1 (St.ld hS) hF rfl rfl (fun _ _ _ h => h) (fun w hl => (e_lss hF rfl rfl)) fun a hF => ?_
            refine x1 (St.ld hS) hF rfl rfl (fun _ _ _ h => h) (fun w hl => (e_as (e_move hF rfl) (congrArg Value.bool hb68))) fun a hF => ?_
            refine x1n (St.ld hS) hF rfl rfl rfl rfl rfl (fun _ _ _ h => h) fun a hF => ?_
            refine x1n (St.ld hS) hF rfl rfl rfl rfl rfl (fun _ _ _ h => h) fun a hF => ?_
            refine x1n (St.ld hS) hF rfl rfl rfl rfl rfl (fun _ _ _ h => h) fun a hF => ?_
            refine x1n (St.ld hS) hF rfl rfl rfl rfl rfl (fun _ _ _ h => h) fun a hF => ?_
            refine x1n (St.ld hS) hF rfl rfl rfl rfl rfl (fun _ _ _ h => h) fun a hF => ?_
            refine x1n (St.ld hS) hF rfl rfl rfl rfl rfl (fun _ _ _ h => h) fun a hF => ?_
            refine x1n (St.ld hS) hF rfl rfl rfl rfl rfl (fun _ _ _ h => h) fun a hF => ?_
            refine x1n (St.ld hS) hF rfl rfl rfl rfl rfl (fun _ _ _ h => h) fun a hF => ?_
            refine x1n (St.ld hS) hF rfl rfl rfl rfl rfl (fun _ _ _ h => h) fun a hF => ?_
            refine x1 (St.ld hS) hF rfl rfl (fun _ _ _ h => h) (fun w hl => (e_pickT hF rfl rfl)) fun a hF => ?_
            refine xe <| ?_
            refine tn <| ?_
            exact ⟨true, hm, hF.has ⟨rfl, rfl, rfl, rfl, rfl, trivial⟩, hS⟩
          ·
            replace hm := itp_f hm hb68
            replace hm := bind_some hm
            obtain ⟨x69, h70, hm⟩ := hm
            have ho71 := Rd.oaI (hS.rdO (.tail _ (.tail _ (.tail _ (.tail _ (.head _)))))) hv36 (by decide) h70
            obtain ⟨c72, g73, hl74⟩ := Rows.getI hv36 h70
            obtain rfl : c72 = [.int .i64 x69] := g73
            refine rxS 16 hS wide (by kernel_rfl) fun w hS => ?_
            refine x1 (St.ld hS) hF rfl rfl (fun _ _ _ h => h) (fun w hl => (e_move hF rfl)) fun a hF => ?_
            refine x1 (St.ld hS) hF rfl rfl (fun _ _ _ h => h) (fun w hl => (e_move hF rfl)) fun a hF => ?_
            refine x1 (St.ld hS) hF rfl rfl (fun _ _ _ h => h) (fun w hl => (e_iaI hF Try.runUnderlying26 Try.sizeOf3 rfl rfl h64 (SR.oaI hr30 (by decide) h64))) fun a hF => ?_
            refine x1 (St.ld hS) hF rfl rfl (fun _ _ _ h => h) (fun w hl => (e_ld hF Try.isAgg3 rfl (PH.le.cell (Lds.le hl) (hl67 0 _ rfl)))) fun a hF => ?_
            refine x1 (St.ld hS) hF rfl rfl (fun _ _ _ h => h) (fun w hl => (e_lss hF rfl rfl)) fun a hF => ?_
            refine x1 (St.ld hS) hF rfl rfl (fun _ _ _ h => h) (fun w hl => (e_as (e_move hF rfl) (congrArg Value.bool hb68))) fun a hF => ?_
            refine x1g (St.ld hS) hF rfl rfl rfl rfl (fun _ _ _ h => h) (fun w hl => (e_move hF rfl)) fun a hF => ?_
            refine x1g (St.ld hS) hF rfl rfl rfl rfl (fun _ _ _ h => h) (fun w hl => (e_move hF rfl)) fun a hF => ?_
            refine x1g (St.ld hS) hF rfl rfl rfl rfl (fun _ _ _ h => h) (fun w hl => (e_iaI hF Try.runUnderlying26 Try.sizeOf3 rfl rfl h64 (SR.oaI hr30 (by decide) h64))) fun a hF => ?_
            refine x1g (St.ld hS) hF rfl rfl rfl rfl (fun _ _ _ h => h) (fun w hl => (e_ld hF Try.isAgg3 rfl (PH.le.cell (Lds.le hl) (hl67 0 _ rfl)))) fun a hF => ?_
            refine x1g (St.ld hS) hF rfl rfl rfl rfl (fun _ _ _ h => h) (fun w hl => (e_move hF rfl)) fun a hF => ?_
            refine x1g (St.ld hS) hF rfl rfl rfl rfl (fun _ _ _ h => h) (fun w hl => (e_move hF rfl)) fun a hF => ?_
            refine x1g (St.ld hS) hF rfl rfl rfl rfl (fun _ _ _ h => h) (fun w hl => (e_iaI hF Try.runUnderlying26 Try.sizeOf3 rfl rfl h70 ho71)) fun a hF => ?_
            refine x1g (St.ld hS) hF rfl rfl rfl rfl (fun _ _ _ h => h) (fun w hl => (e_ld hF Try.isAgg3 rfl (hl.elO (.tail _ (.tail _ (.tail _ (.tail _ (.head _))))) (hl74 0 _ rfl)))) fun a hF => ?_
            refine x1g (St.ld hS) hF rfl rfl rfl rfl (fun _ _ _ h => h) (fun w hl => (e_gtr hF rfl rfl)) fun a hF => ?_
            refine x1 (St.ld hS) hF rfl rfl (fun _ _ _ h => h) (fun w hl => (e_pickF hF rfl rfl)) fun a hF => ?_
            refine xe <| ?_
            refine tn <| ?_
            exact ⟨(decide (x69 < x63)), hm, hF.has ⟨rfl, rfl, rfl, rfl, rfl, trivial⟩, hS⟩
        clear hm hF hS
        rintro a w ⟨vC1, hm, hF, hS⟩
        unfold leadlineref11_Mem_Image__m0_71_ffooo_j3 at hm
        rcases bdich vC1 with hb75 | hb75
        ·
          replace hm := ite_t hm hb75
          refine ctv hF rfl hb75 <| th <| ?_
          refine rg <| ?_
          refine ls <| q1 hF rfl (e_asg hF rfl) fun a hF => ?_
          refine ls <| q1 hF rfl (e_asg hF rfl) fun a hF => ?_
          refine re <| ?_
          refine tn <| ?_
          refine wr <| br <| tr <| tr <| br <| tr <| ?_
          replace hS := St.nilS hS 3 1
          obtain rfl := Option.some.inj hm
          exact r2 hF Try.results26 rfl rfl ⟨_, _, _, oa38, cap39, oa42, cap43, oa46, cap47, vs48, oa51, cap52, vs53, oa56, cap57, vs58, rfl, (fun _ => .nil), hc40, hr41, hc44, hr45, (fun _ => Rows.ind hv49), (fun _ => Rows.ind hv54), (fun _ => Rows.ind hv59), (hS.pickL (.cons (.tail (.tail (.tail (.tail .head)))) (.cons (.tail .head) (.cons (.tail .head) (.cons (.tail .head) (.cons .head .nil)))))).endMut⟩
        ·
          replace hm := ite_f hm hb75
          refine cfv hF rfl hb75 <| wk <| ?_
          refine bn <| tn <| ?_
          refine rg <| ?_
          refine ls <| q1 hF rfl (e_move hF rfl) fun a hF => ?_
          refine ls <| q1 hF rfl (e_add hF rfl rfl) fun a hF => ?_
          refine ls <| q1 hF rfl (e_asg hF rfl) fun a hF => ?_
          refine re <| ?_
          refine tn <| ?_
          exact ⟨(nn2, (IntKind.i64.wrap (vB1 + 1))), ⟨hm, hF.has ⟨rfl, rfl, rfl, rfl, trivial⟩, hS⟩, Nat.lt_succ_self _⟩
      ·
        replace hm := itp_f hm hb62
        refine tn <| cfv hF rfl hb62 <| ?_
        refine we <| tx <| tx <| bx <| ?_
        refine tn <| ?_
        replace hS := hS.pickL (.cons .head (.cons .head (.cons .head (.cons .head .nil))))
        exact ⟨hm, hF.has ⟨rfl, rfl, trivial⟩, hS⟩
    clear hm hF hS
    rintro a w ⟨hm, hF, hS⟩
    unfold leadlineref11_Mem_Image__m0_71_ffooo_j1 at hm
    refine th <| midK (fun a w => ∃ (vA1 : (List Int)) (vA7 : (List Int)) (oaA2 : Option Addr) (capA3 : Nat) (vsA4 : List Value) (oaA8 : Option Addr) (capA9 : Nat) (vsA10 : List Value), (leadlineref11_Mem_Image__m0_71_ffooo_j4 N r31) vA1 vA7 = some r ∧ Fr 89 [(0, .pointer (some ⟨b2, 0, none⟩)), (8, .slice oaA2 vA1.length capA3), (9, .slice oaA8 vA7.length capA9)] a ∧ St w0 (sepA [blk b2 (.cells [.slice oa3 p1.Of.length cap4, .slice oa7 p1.Firsts.length cap8, .slice oa11 p1.L.length cap12, .slice oa16 p1.K.length cap17, .slice oa21 p1.W.length cap22].toArray 71 (0, 0)), sla 3 1 oa11 p1.L.length cap12 vs13, sla 3 1 oa16 p1.K.length cap17 vs18, sla 73 3 oa21 p1.W.length cap22 vs23]).fp [H] [sla 3 1 oa46 r31.2.L.length cap47 vs48, sla 3 1 oa51 r31.2.K.length cap52 vs53, sla 73 3 oa56 r31.2.W.length cap57 vs58, blk b2 (.cells [.slice oa38 r31.2.Of.length cap39, .slice oa42 r31.2.Firsts.length cap43, .slice oa46 r31.2.L.length cap47, .slice oa51 r31.2.K.length cap52, .slice oa56 r31.2.W.length cap57].toArray 71 (0, 0)), sla 3 1 oaA2 vA1.length capA3 vsA4, sla 3 1 oaA8 vA7.length capA9 vsA10] w ∧ Rows H vsA4 vA1 ∧ Rows H vsA10 vA7) ?_ ?_
    ·
      replace hm := bind_some hm
      obtain ⟨l79, h80, hm⟩ := hm
      replace hm := bind_some hm
      obtain ⟨l91, h92, hm⟩ := hm
      refine rdS 11 hS wide fun w hS => ?_
      refine d1 (i := 1) rfl (by kernel_rfl) (by kernel_rfl) (St.ld hS) hF rfl (fun _ _ _ h => h) (fun w hl => (e_move hF rfl)) fun a hF => ?_
      refine d1 (i := 4) rfl (by kernel_rfl) (by kernel_rfl) (St.ld hS) hF rfl (fun _ _ _ h => h) (fun w hl => (e_move hF rfl)) fun a hF => ?_
      refine d1 (i := 5) rfl (by kernel_rfl) (by kernel_rfl) (St.ld hS) hF rfl (fun _ _ _ h => h) (fun w hl => (e_nilp hF rfl)) fun a hF => ?_
      refine d1 (i := 6) rfl (by kernel_rfl) (by kernel_rfl) (St.ld hS) hF rfl (fun _ _ _ h => h) (fun w hl => (e_fa hF fa71_3 rfl)) fun a hF => ?_
      refine d1 (i := 7) rfl (by kernel_rfl) (by kernel_rfl) (St.ld hS) hF rfl (fun _ _ _ h => h) (fun w hl => (e_ld hF Try.isAgg26 rfl (hl.cellB (.tail _ (.tail _ (.tail _ (.head _)))) rfl))) fun a hF => ?_
      refine da2 (i := 0) (j := 3) (by kernel_rfl) ?_ ?_
      ·
        refine di (i := 0) rfl <| a_bsl (e := 3) (sz := 1) [] hF rfl hS rfl rfl rfl (fun w => by kernel_rfl) fun b77 w a hS hF => ?_
        have hv76 : Rows (α := Int) H [] [] := .nil
        refine ⟨fun _ => (St.ldsX hS (fun _ _ h => h) (fun _ h => (.tail _ h))), ?_⟩
        refine da2 (i := 2) (j := 3) (by kernel_rfl) ?_ ?_
        ·
          obtain ⟨us85, hd86, hu87⟩ := id hr30
          refine di (i := 2) rfl <| m_app (α := Int) (xs := []) (ys := p26) hF rfl hS Try.underlying26 info3 rfl (by decide) rfl rfl rfl (.head _) hv76 (hS.rdH (.head _) hd86) hu87 h80 fun oa81 cap82 vs83 w a hv84 hU hF => ?_
          replace hS := hU _ .head
          clear hU
          refine ⟨fun _ => (St.ldsX hS (fun _ _ h => h) (fun _ h => (.tail _ h))), ?_⟩
          refine da1 (i := 3) (by kernel_rfl) ?_
          refine di (i := 3) rfl <| a_bsl (e := 3) (sz := 1) [] hF rfl hS rfl rfl rfl (fun w => by kernel_rfl) fun b89 w a hS hF => ?_
          have hv88 : Rows (α := Int) H [] [] := .nil
          refine ⟨fun _ => (St.ldsX hS (fun _ _ h => h) (fun _ h => (.tail _ (.tail _ h)))), ?_⟩
          refine da1 (i := 8) (by kernel_rfl) ?_
          refine di (i := 8) rfl <| m_app (α := Int) (xs := []) (ys := r31.2.K) hF rfl hS Try.underlying26 info3 rfl (by decide) rfl rfl rfl (.head _) hv88 (hS.rdO (.tail _ (.tail _ (.tail _ (.head _))))) hv54 h92 fun oa93 cap94 vs95 w a hv96 hU hF => ?_
          replace hS := hU _ .head
          clear hU
          refine ⟨fun _ => (St.ldsX hS (fun _ _ h => h) (fun _ h => (.tail _ (.tail _ h)))), ?_⟩
          refine d1 (i := 9) rfl (by kernel_rfl) (by kernel_rfl) (St.ldsX hS (fun _ _ h => h) (fun _ h => (.tail _ (.tail _ h)))) hF rfl (fun _ _ _ h => h) (fun w hl => (e_asg hF rfl)) fun a hF => ?_
          refine d1 (i := 10) rfl (by kernel_rfl) (by kernel_rfl) (St.ldsX hS (fun _ _ h => h) (fun _ h => (.tail _ (.tail _ h)))) hF rfl (fun _ _ _ h => h) (fun w hl => (e_asg hF rfl)) fun a hF => ?_
          refine de (by kernel_rfl) <| ?_
          refine tn <| ?_
          replace hS := hS.pickL (.cons (.tail (.tail .head)) (.cons (.tail (.tail .head)) (.cons (.tail (.tail .head)) (.cons (.tail (.tail .head)) (.cons (.tail .head) (.cons .head .nil))))))
          exact ⟨l79, l91, oa81, cap82, vs83, oa93, cap94, vs95, hm, hF.has ⟨rfl, rfl, rfl, trivial⟩, hS, hv84, hv96⟩
        ·
          refine di (i := 3) rfl <| a_bsl (e := 3) (sz := 1) [] hF rfl hS rfl rfl rfl (fun w => by kernel_rfl) fun b89 w a hS hF => ?_
          have hv88 : Rows (α := Int) H [] [] := .nil
          refine ⟨fun _ => (St.ldsX hS (fun _ _ h => h) (fun _ h => (.tail _ (.tail _ h)))), ?_⟩
          refine da1 (i := 2) (by kernel_rfl) ?_
          obtain ⟨us85, hd86, hu87⟩ := id hr30
          refine di (i := 2) rfl <| m_app (α := Int) (xs := []) (ys := p26) hF rfl hS Try.underlying26 info3 rfl (by decide) rfl rfl rfl (.tail _ (.head _)) hv76 (hS.rdH (.head _) hd86) hu87 h80 fun oa81 cap82 vs83 w a hv84 hU hF => ?_
          replace hS := hU _ (.tail .head)
          clear hU
          refine ⟨fun _ => (St.ldsX hS (fun _ _ h => h) (fun _ h => (.tail _ (.tail _ h)))), ?_⟩
          refine da1 (i := 8) (by kernel_rfl) ?_
          refine di (i := 8) rfl <| m_app (α := Int) (xs := []) (ys := r31.2.K) hF rfl hS Try.underlying26 info3 rfl (by decide) rfl rfl rfl (.head _) hv88 (hS.rdO (.tail _ (.tail _ (.tail _ (.head _))))) hv54 h92 fun oa93 cap94 vs95 w a hv96 hU hF => ?_
          replace hS := hU _ .head
          clear hU
          refine ⟨fun _ => (St.ldsX hS (fun _ _ h => h) (fun _ h => (.tail _ (.tail _ h)))), ?_⟩
          refine d1 (i := 9) rfl (by kernel_rfl) (by kernel_rfl) (St.ldsX hS (fun _ _ h => h) (fun _ h => (.tail _ (.tail _ h)))) hF rfl (fun _ _ _ h => h) (fun w hl => (e_asg hF rfl)) fun a hF => ?_
          refine d1 (i := 10) rfl (by kernel_rfl) (by kernel_rfl) (St.ldsX hS (fun _ _ h => h) (fun _ h => (.tail _ (.tail _ h)))) hF rfl (fun _ _ _ h => h) (fun w hl => (e_asg hF rfl)) fun a hF => ?_
          refine de (by kernel_rfl) <| ?_
          refine tn <| ?_
          replace hS := hS.pickL (.cons (.tail (.tail .head)) (.cons (.tail (.tail .head)) (.cons (.tail (.tail .head)) (.cons (.tail (.tail .head)) (.cons (.tail .head) (.cons .head .nil))))))
          exact ⟨l79, l91, oa81, cap82, vs83, oa93, cap94, vs95, hm, hF.has ⟨rfl, rfl, rfl, trivial⟩, hS, hv84, hv96⟩
      ·
        refine di (i := 3) rfl <| a_bsl (e := 3) (sz := 1) [] hF rfl hS rfl rfl rfl (fun w => by kernel_rfl) fun b89 w a hS hF => ?_
        have hv88 : Rows (α := Int) H [] [] := .nil
        refine ⟨fun _ => (St.ldsX hS (fun _ _ h => h) (fun _ h => (.tail _ h))), ?_⟩
        refine da1 (i := 0) (by kernel_rfl) ?_
        refine di (i := 0) rfl <| a_bsl (e := 3) (sz := 1) [] hF rfl hS rfl rfl rfl (fun w => by kernel_rfl) fun b77 w a hS hF => ?_
        have hv76 : Rows (α := Int) H [] [] := .nil
        refine ⟨fun _ => (St.ldsX hS (fun _ _ h => h) (fun _ h => (.tail _ (.tail _ h)))), ?_⟩
        refine da1 (i := 2) (by kernel_rfl) ?_
        obtain ⟨us85, hd86, hu87⟩ := id hr30
        refine di (i := 2) rfl <| m_app (α := Int) (xs := []) (ys := p26) hF rfl hS Try.underlying26 info3 rfl (by decide) rfl rfl rfl (.head _) hv76 (hS.rdH (.head _) hd86) hu87 h80 fun oa81 cap82 vs83 w a hv84 hU hF => ?_
        replace hS := hU _ .head
        clear hU
        refine ⟨fun _ => (St.ldsX hS (fun _ _ h => h) (fun _ h => (.tail _ (.tail _ h)))), ?_⟩
        refine da1 (i := 8) (by kernel_rfl) ?_
        refine di (i := 8) rfl <| m_app (α := Int) (xs := []) (ys := r31.2.K) hF rfl hS Try.underlying26 info3 rfl (by decide) rfl rfl rfl (.tail _ (.head _)) hv88 (hS.rdO (.tail _ (.tail _ (.tail _ (.head _))))) hv54 h92 fun oa93 cap94 vs95 w a hv96 hU hF => ?_
        replace hS := hU _ (.tail .head)
        clear hU
        refine ⟨fun _ => (St.ldsX hS (fun _ _ h => h) (fun _ h => (.tail _ (.tail _ h)))), ?_⟩
        refine d1 (i := 9) rfl (by kernel_rfl) (by kernel_rfl) (St.ldsX hS (fun _ _ h => h) (fun _ h => (.tail _ (.tail _ h)))) hF rfl (fun _ _ _ h => h) (fun w hl => (e_asg hF rfl)) fun a hF => ?_
        refine d1 (i := 10) rfl (by kernel_rfl) (by kernel_rfl) (St.ldsX hS (fun _ _ h => h) (fun _ h => (.tail _ (.tail _ h)))) hF rfl (fun _ _ _ h => h) (fun w hl => (e_asg hF rfl)) fun a hF => ?_
        refine de (by kernel_rfl) <| ?_
        refine tn <| ?_
        replace hS := hS.pickL (.cons (.tail (.tail .head)) (.cons (.tail (.tail .head)) (.cons (.tail (.tail .head)) (.cons (.tail (.tail .head)) (.cons .head (.cons .head .nil))))))
        exact ⟨l79, l91, oa81, cap82, vs83, oa93, cap94, vs95, hm, hF.has ⟨rfl, rfl, rfl, trivial⟩, hS, hv84, hv96⟩
    clear hm hF hS
    rintro a w ⟨vA1, vA7, oaA2, capA3, vsA4, oaA8, capA9, vsA10, hm, hF, hS, hvA5, hvA11⟩
    unfold leadlineref11_Mem_Image__m0_71_ffooo_j4 at hm
    refine th <| th <| ?_
    refine rg <| ?_
    refine ls <| q1 hF rfl (e_asg hF rfl) fun a hF => ?_
    refine re <| ?_
    refine tn <| midK (fun a w => ∃ (vA13 : (List Int)) (oaA14 : Option Addr) (capA15 : Nat) (vsA16 : List Value), (leadlineref11_Mem_Image__m0_71_ffooo_j5 r31) vA13 = some r ∧ Fr 89 [(0, .pointer (some ⟨b2, 0, none⟩)), (9, .slice oaA14 vA13.length capA15)] a ∧ St w0 (sepA [blk b2 (.cells [.slice oa3 p1.Of.length cap4, .slice oa7 p1.Firsts.length cap8, .slice oa11 p1.L.length cap12, .slice oa16 p1.K.length cap17, .slice oa21 p1.W.length cap22].toArray 71 (0, 0)), sla 3 1 oa11 p1.L.length cap12 vs13, sla 3 1 oa16 p1.K.length cap17 vs18, sla 73 3 oa21 p1.W.length cap22 vs23]).fp [H] [sla 3 1 oa46 r31.2.L.length cap47 vs48, sla 3 1 oa51 r31.2.K.length cap52 vs53, sla 73 3 oa56 r31.2.W.length cap57 vs58, blk b2 (.cells [.slice oa38 r31.2.Of.length cap39, .slice oa42 r31.2.Firsts.length cap43, .slice oa46 r31.2.L.length cap47, .slice oa51 r31.2.K.length cap52, .slice oa56 r31.2.W.length cap57].toArray 71 (0, 0)), sla 3 1 oaA14 vA13.length capA15 vsA16] w ∧ Rows H vsA16 vA13) ?_ ?_
    ·
      refine wb <| lp (α := Nat × (List Int) × (List Int) × Int) (fun (gh : Nat × (List Int) × (List Int) × Int) a w => match gh with | (nn6, vB2, vB8, vB14) => ∃ (oaB3 : Option Addr) (capB4 : Nat) (vsB5 : List Value) (oaB9 : Option Addr) (capB10 : Nat) (vsB11 : List Value), (leadlineref11_Mem_Image__m0_71_ffooo_l6 N (leadlineref11_Mem_Image__m0_71_ffooo_j5 r31) r31) nn6 vB2 vB8 vB14 = some r ∧ Fr 89 [(0, .pointer (some ⟨b2, 0, none⟩)), (8, .slice oaB3 vB2.length capB4), (9, .slice oaB9 vB8.length capB10), (10, .int .i64 vB14)] a ∧ St w0 (sepA [blk b2 (.cells [.slice oa3 p1.Of.length cap4, .slice oa7 p1.Firsts.length cap8, .slice oa11 p1.L.length cap12, .slice oa16 p1.K.length cap17, .slice oa21 p1.W.length cap22].toArray 71 (0, 0)), sla 3 1 oa11 p1.L.length cap12 vs13, sla 3 1 oa16 p1.K.length cap17 vs18, sla 73 3 oa21 p1.W.length cap22 vs23]).fp [H] [sla 3 1 oa46 r31.2.L.length cap47 vs48, sla 3 1 oa51 r31.2.K.length cap52 vs53, sla 73 3 oa56 r31.2.W.length cap57 vs58, blk b2 (.cells [.slice oa38 r31.2.Of.length cap39, .slice oa42 r31.2.Firsts.length cap43, .slice oa46 r31.2.L.length cap47, .slice oa51 r31.2.K.length cap52, .slice oa56 r31.2.W.length cap57].toArray 71 (0, 0)), sla 3 1 oaB3 vB2.length capB4 vsB5, sla 3 1 oaB9 vB8.length capB10 vsB11] w ∧ Rows H vsB5 vB2 ∧ Rows H vsB11 vB8) (fun gh => gh.1) (N, vA1, vA7, 0) ⟨oaA2, capA3, vsA4, oaA8, capA9, vsA10, hm, hF.has ⟨rfl, rfl, rfl, rfl, trivial⟩, hS, hvA5, hvA11⟩ ?_
      clear hm hF hS
      rintro ⟨nn6, vB2, vB8, vB14⟩ a w ⟨oaB3, capB4, vsB5, oaB9, capB10, vsB11, hm, hF, hS, hvB6, hvB12⟩
      obtain _ | nn6 := nn6
      · simp [leadlineref11_Mem_Image__m0_71_ffooo_l6] at hm
      rw [leadlineref11_Mem_Image__m0_71_ffooo_l6] at hm
      refine th <| th <| ?_
      refine rg <| ?_
      refine ls <| q1 hF rfl (e_move hF rfl) fun a hF => ?_
      refine ls <| q1 hF rfl (e_move hF rfl) fun a hF => ?_
      refine ls <| q1 hF rfl (e_nilp hF rfl) fun a hF => ?_
      refine ls <| q1 hF rfl (e_fa hF fa71_4 rfl) fun a hF => ?_
      refine ls <| q1 hF rfl (e_ld hF Try.isAgg69 rfl ((St.ld hS).cellB (.tail _ (.tail _ (.tail _ (.head _)))) rfl)) fun a hF => ?_
      refine ls <| q1 hF rfl (e_lenL (α := leadlineref11_Put) (xs := r31.2.W) hF Try.runUnderlying69 rfl) fun a hF => ?_
      refine ls <| q1 hF rfl (e_lss hF rfl rfl) fun a hF => ?_
      refine re <| ?_
      rcases bdich (decide (vB14 < (r31.2.W.length : Int))) with hb97 | hb97
      ·
        replace hm := itp_t hm hb97
        refine tn <| ctv hF rfl hb97 <| wk <| ?_
        refine tn <| th <| midK (fun a w => ∃ (vC2 : (List Int)) (vC8 : (List Int)) (oaC3 : Option Addr) (capC4 : Nat) (vsC5 : List Value) (oaC9 : Option Addr) (capC10 : Nat) (vsC11 : List Value), (leadlineref11_Mem_Image__m0_71_ffooo_j7 (leadlineref11_Mem_Image__m0_71_ffooo_l6 N (leadlineref11_Mem_Image__m0_71_ffooo_j5 r31) r31 nn6) vB14) vC2 vC8 = some r ∧ Fr 89 [(0, .pointer (some ⟨b2, 0, none⟩)), (8, .slice oaC3 vC2.length capC4), (9, .slice oaC9 vC8.length capC10), (10, .int .i64 vB14)] a ∧ St w0 (sepA [blk b2 (.cells [.slice oa3 p1.Of.length cap4, .slice oa7 p1.Firsts.length cap8, .slice oa11 p1.L.length cap12, .slice oa16 p1.K.length cap17, .slice oa21 p1.W.length cap22].toArray 71 (0, 0)), sla 3 1 oa11 p1.L.length cap12 vs13, sla 3 1 oa16 p1.K.length cap17 vs18, sla 73 3 oa21 p1.W.length cap22 vs23]).fp [H] [sla 3 1 oa46 r31.2.L.length cap47 vs48, sla 3 1 oa51 r31.2.K.length cap52 vs53, sla 73 3 oa56 r31.2.W.length cap57 vs58, blk b2 (.cells [.slice oa38 r31.2.Of.length cap39, .slice oa42 r31.2.Firsts.length cap43, .slice oa46 r31.2.L.length cap47, .slice oa51 r31.2.K.length cap52, .slice oa56 r31.2.W.length cap57].toArray 71 (0, 0)), sla 3 1 oaC3 vC2.length capC4 vsC5, sla 3 1 oaC9 vC8.length capC10 vsC11] w ∧ Rows H vsC5 vC2 ∧ Rows H vsC11 vC8) ?_ ?_
        ·
          refine wb <| th <| ?_
          replace hm := bind_some hm
          obtain ⟨x98, h99, hm⟩ := hm
          have ho100 := Rd.oaI (hS.rdO (.tail _ (.tail _ (.head _)))) hv59 (by decide) h99
          obtain ⟨c101, g102, hl103⟩ := Rows.getI hv59 h99
          obtain rfl := leadlineref11_Put_open g102
          refine rg <| ?_
          refine ls <| q1 hF rfl (e_move hF rfl) fun a hF => ?_
          refine ls <| q1 hF rfl (e_nilp hF rfl) fun a hF => ?_
          refine ls <| q1 hF rfl (e_fa hF fa71_4 rfl) fun a hF => ?_
          refine ls <| q1 hF rfl (e_ld hF Try.isAgg69 rfl ((St.ld hS).cellB (.tail _ (.tail _ (.tail _ (.head _)))) rfl)) fun a hF => ?_
          refine ls <| q1 hF rfl (e_move hF rfl) fun a hF => ?_
          refine ls <| q1 hF rfl (e_iaI hF Try.runUnderlying69 Try.sizeOf73 rfl rfl h99 ho100) fun a hF => ?_
          refine ls <| q1 hF rfl (e_ldA hF Try.isAgg73 Try.sizeOf73 rfl rfl ((St.ld hS).elsO (.tail _ (.tail _ (.head _))) hl103)) fun a hF => ?_
          refine ls <| a_alloc (cs := [.int .i64 0, .int .i64 0, .int .i64 0].toArray) hF rfl hS Try.zeroValue73 rfl fun b104 w a hS hF => ?_
          refine ls <| s_blkA hF hS Try.sizeOf73 rfl rfl rfl rfl (one_cells rfl) .head fun w hS => ?_
          refine re <| ?_
          refine tn <| th <| ?_
          replace hm := bind_some hm
          obtain ⟨x105, h106, hm⟩ := hm
          have ho107 := Rd.oaI (hS.rdO (.tail _ (.tail _ (.tail _ (.tail _ (.tail _ (.head _))))))) hvB6 (by decide) h106
          obtain ⟨c108, g109, hl110⟩ := Rows.getI hvB6 h106
          obtain rfl : c108 = [.int .i64 x105] := g109
          refine rg <| ?_
          refine ls <| q1 hF rfl (e_move hF rfl) fun a hF => ?_
          refine ls <| q1 hF rfl (e_fa hF fa73_0 rfl) fun a hF => ?_
          refine ls <| q1 hF rfl (e_ld hF Try.isAgg3 rfl ((St.ld hS).cellB (.head _) rfl)) fun a hF => ?_
          refine ls <| q1 hF rfl (e_iaI hF Try.runUnderlying26 Try.sizeOf3 rfl rfl h106 ho107) fun a hF => ?_
          refine ls <| q1 hF rfl (e_ld hF Try.isAgg3 rfl ((St.ld hS).elO (.tail _ (.tail _ (.tail _ (.tail _ (.tail _ (.head _)))))) (hl110 0 _ rfl))) fun a hF => ?_
          refine ls <| q1 hF rfl (e_gtr hF rfl rfl) fun a hF => ?_
          refine re <| ?_
          rcases bdich (decide (0 < x105)) with hb111 | hb111
          ·
            replace hm := itp_t hm hb111
            refine tn <| ctv hF rfl hb111 <| th <| ?_
            have ho112 := Rd.oaI (hS.rdO (.tail _ (.tail _ (.tail _ (.tail _ (.tail _ (.head _))))))) hvB6 (by decide) h106
            have ho113 := Rd.oaI (hS.rdO (.tail _ (.tail _ (.tail _ (.tail _ (.tail _ (.head _))))))) hvB6 (by decide) h106
            replace hm := bind_some hm
            obtain ⟨l114, h115, hm⟩ := hm
            refine rxS 10 hS wide (by kernel_rfl) fun w hS => ?_
            refine x1 (St.ld hS) hF rfl rfl (fun _ _ _ h => h) (fun w hl => (e_move hF rfl)) fun a hF => ?_
            refine x1 (St.ld hS) hF rfl rfl (fun _ _ _ h => h) (fun w hl => (e_fa hF fa73_0 rfl)) fun a hF => ?_
            refine x1 (St.ld hS) hF rfl rfl (fun _ _ _ h => h) (fun w hl => (e_ld hF Try.isAgg3 rfl (hl.cellB (.head _) rfl))) fun a hF => ?_
            refine x1 (St.ld hS) hF rfl rfl (fun _ _ _ h => h) (fun w hl => (e_move hF rfl)) fun a hF => ?_
            refine x1 (St.ld hS) hF rfl rfl (fun _ _ _ h => h) (fun w hl => (e_fa hF fa73_0 rfl)) fun a hF => ?_
            refine x1 (St.ld hS) hF rfl rfl (fun _ _ _ h => h) (fun w hl => (e_ld hF Try.isAgg3 rfl (hl.cellB (.head _) rfl))) fun a hF => ?_
            refine x1 (St.ld hS) hF rfl rfl (fun _ _ _ h => h) (fun w hl => (e_iaI hF Try.runUnderlying26 Try.sizeOf3 rfl rfl h106 ho112)) fun a hF => ?_
            refine x1 (St.ld hS) hF rfl rfl (fun _ _ _ h => h) (fun w hl => (e_ld hF Try.isAgg3 rfl (hl.elO (.tail _ (.tail _ (.tail _ (.tail _ (.tail _ (.head _)))))) (hl110 0 _ rfl)))) fun a hF => ?_
            refine x1 (St.ld hS) hF rfl rfl (fun _ _ _ h => h) (fun w hl => (e_sub hF rfl rfl)) fun a hF => ?_
            refine x1 (St.ld hS) hF rfl rfl (fun _ _ _ h => h) (fun w hl => (e_iaI hF Try.runUnderlying26 Try.sizeOf3 rfl rfl h106 ho113)) fun a hF => ?_
            have hn118 := setI_len h115
            refine xz rfl <| s_slJ (α := Int) hF hS Try.sizeOf3 rfl rfl rfl rfl hvB6 rfl h115 (.tail _ (.tail _ (.tail _ (.tail _ (.tail _ (.head _)))))) fun vs116 w hv117 hU => ?_
            replace hS := hU _ (.tail (.tail (.tail (.tail (.tail .head)))))
            clear hU
            refine tn <| ?_
            replace hm := bind_some hm
            obtain ⟨x119, h120, hm⟩ := hm
            have ho121 := Rd.oaI (hS.rdO (.tail _ (.tail _ (.tail _ (.tail _ (.tail _ (.tail _ (.head _)))))))) hvB12 (by decide) h120
            replace hm := bind_some hm
            obtain ⟨l122, h123, hm⟩ := hm
            refine rg <| ?_
            refine ls <| q1 hF rfl (e_move hF rfl) fun a hF => ?_
            refine ls <| q1 hF rfl (e_fa hF fa73_1 rfl) fun a hF => ?_
            refine ls <| q1 hF rfl (e_ld hF Try.isAgg3 rfl ((St.ld hS).cellB (.head _) rfl)) fun a hF => ?_
            refine ls <| q1 hF rfl (e_fa hF fa73_2 rfl) fun a hF => ?_
            refine ls <| q1 hF rfl (e_ld hF Try.isAgg3 rfl ((St.ld hS).cellB (.head _) rfl)) fun a hF => ?_
            refine ls <| q1 hF rfl (e_iaI hF Try.runUnderlying26 Try.sizeOf3 rfl rfl h120 ho121) fun a hF => ?_
            have hn126 := setI_len h123
            refine ls <| s_slJ (α := Int) hF hS Try.sizeOf3 rfl rfl rfl rfl hvB12 rfl h123 (.tail _ (.tail _ (.tail _ (.tail _ (.tail _ (.tail _ (.head _))))))) fun vs124 w hv125 hU => ?_
            replace hS := hU _ (.tail (.tail (.tail (.tail (.tail (.tail .head))))))
            clear hU
            refine re <| ?_
            refine bn <| tn <| ?_
            replace hF := Fr.as hF (t := 8) (v' := .slice oaB3 l114.length capB4) rfl (by rw [hn118])
            replace hF := Fr.as hF (t := 9) (v' := .slice oaB9 l122.length capB10) rfl (by rw [hn126])
            replace hS := hS.pickL (.cons (.tail .head) (.cons (.tail .head) (.cons (.tail .head) (.cons (.tail .head) (.cons (.tail .head) (.cons (.tail .head) .nil))))))
            exact ⟨l114, l122, oaB3, capB4, vs116, oaB9, capB10, vs124, hm, hF.has ⟨rfl, rfl, rfl, rfl, trivial⟩, hS, hv117, hv125⟩
          ·
            replace hm := itp_f hm hb111
            refine tn <| cfv hF rfl hb111 <| wk <| ?_
            refine bn <| tn <| ?_
            replace hS := hS.pickL (.cons (.tail .head) (.cons (.tail .head) (.cons (.tail .head) (.cons (.tail .head) (.cons (.tail .head) (.cons (.tail .head) .nil))))))
            exact ⟨vB2, vB8, oaB3, capB4, vsB5, oaB9, capB10, vsB11, hm, hF.has ⟨rfl, rfl, rfl, rfl, trivial⟩, hS, hvB6, hvB12⟩
        clear hm hF hS
        rintro a w ⟨vC2, vC8, oaC3, capC4, vsC5, oaC9, capC10, vsC11, hm, hF, hS, hvC6, hvC12⟩
        unfold leadlineref11_Mem_Image__m0_71_ffooo_j7 at hm
        refine rg <| ?_
        refine ls <| q1 hF rfl (e_move hF rfl) fun a hF => ?_
        refine ls <| q1 hF rfl (e_add hF rfl rfl) fun a hF => ?_
        refine ls <| q1 hF rfl (e_asg hF rfl) fun a hF => ?_
        refine re <| ?_
        refine tn <| ?_
        exact ⟨(nn6, vC2, vC8, (IntKind.i64.wrap (vB14 + 1))), ⟨oaC3, capC4, vsC5, oaC9, capC10, vsC11, hm, hF.has ⟨rfl, rfl, rfl, rfl, trivial⟩, hS, hvC6, hvC12⟩, Nat.lt_succ_self _⟩
      ·
        replace hm := itp_f hm hb97
        refine tn <| cfv hF rfl hb97 <| ?_
        refine we <| tx <| tx <| bx <| ?_
        refine tn <| ?_
        replace hS := hS.pickL (.cons .head (.cons .head (.cons .head (.cons .head (.cons (.tail .head) .nil)))))
        exact ⟨vB8, oaB9, capB10, vsB11, hm, hF.has ⟨rfl, rfl, trivial⟩, hS, hvB12⟩
    clear hm hF hS
    rintro a w ⟨vA13, oaA14, capA15, vsA16, hm, hF, hS, hvA17⟩
    unfold leadlineref11_Mem_Image__m0_71_ffooo_j5 at hm
    refine th <| ?_
    refine rg <| ?_
    refine ls <| q1 hF rfl (e_move hF rfl) fun a hF => ?_
    refine ls <| q1 hF rfl (e_asg hF rfl) fun a hF => ?_
    refine ls <| q1 hF rfl (e_asg hF rfl) fun a hF => ?_
    refine re <| ?_
    refine tn <| ?_
    refine wr <| ?_
    obtain rfl := Option.some.inj hm
    exact r2 hF Try.results26 rfl rfl ⟨_, _, _, oa38, cap39, oa42, cap43, oa46, cap47, vs48, oa51, cap52, vs53, oa56, cap57, vs58, rfl, (fun _ => Rows.ind hvA17), hc40, hr41, hc44, hr45, (fun _ => Rows.ind hv49), (fun _ => Rows.ind hv54), (fun _ => Rows.ind hv59), (hS.pickL (.cons (.tail (.tail (.tail .head))) (.cons .head (.cons .head (.cons .head (.cons .head .nil)))))).endMut⟩

set_option maxRecDepth 100000 in
theorem leadlineref11_grow_c : ∀ (N : Nat) {w0 : World} {H : PH} (hH : H.le w0) {oa2 : Option Addr} {cap3 : Nat} {p1 : (List Int)} (hc4 : p1.length ≤ cap3) (hr5 : SR H oa2 p1) {oa7 : Option Addr} {cap8 : Nat} {p6 : (List Int)} (hc9 : p6.length ≤ cap8) (hr10 : SR H oa7 p6) {r : (List (List Int))} (hm : leadlineref11_grow N p1 p6 = some r), Tot Try.prog 38 #[.slice oa2 p1.length cap3, .slice oa7 p6.length cap8] w0 (fun v w' => ∃ (H' : PH) (oa0 : Option Addr) (cap0 : Nat), v = .slice oa0 r.length cap0 ∧ r.length ≤ cap0 ∧ SR H' oa0 r ∧ Ext w0 H H' ∧ H'.le w' ∧ Keep Nil w0 w') := by
  intro N
  induction N with
  | zero => intros; rename_i hm; simp [leadlineref11_grow] at hm
  | succ N ih =>
  intro w0 H hH oa2 cap3 p1 hc4 hr5 oa7 cap8 p6 hc9 hr10 r hm
  rw [leadlineref11_grow] at hm
  refine fn0 (args := [.slice oa2 p1.length cap3, .slice oa7 p6.length cap8]) (F := [(0, .slice oa2 p1.length cap3), (1, .slice oa7 p6.length cap8)]) Try.func38 rfl Try.ntmps38 rfl rfl fun a hF => ?_
  have hS : St w0 Nil [H] [] w0 := start1 hH
  refine th <| ?_
  refine rg <| ?_
  refine ls <| q1 hF rfl (e_asg hF rfl) fun a hF => ?_
  refine re <| ?_
  refine tn <| th <| th <| ?_
  refine rg <| ?_
  refine ls <| q1 hF rfl (e_move hF rfl) fun a hF => ?_
  refine ls <| q1 hF rfl (e_lenL (α := Int) (xs := p6) hF Try.runUnderlying26 rfl) fun a hF => ?_
  refine ls <| q1 hF rfl (e_move hF rfl) fun a hF => ?_
  refine ls <| q1 hF rfl (e_lenL (α := Int) (xs := p1) hF Try.runUnderlying26 rfl) fun a hF => ?_
  refine ls <| q1 hF rfl (e_eql hF rfl rfl) fun a hF => ?_
  refine re <| ?_
  rcases bdich (decide ((p6.length : Int) = (p1.length : Int))) with hb11 | hb11
  ·
    replace hm := itp_t hm hb11
    refine tn <| ctv hF rfl hb11 <| th <| ?_
    refine rg <| ?_
    refine ls <| q1 hF rfl (e_move hF rfl) fun a hF => ?_
    refine ls <| a_bsl (e := 26) (sz := 1) [.slice oa7 p6.length cap8] hF rfl hS rfl rfl rfl (fun w => by kernel_rfl) fun b13 w a hS hF => ?_
    have hv12 : Rows (α := (List Int)) H [.slice oa7 p6.length cap8] ([p6] : List (List Int)) := (.cons (c := [.slice oa7 p6.length cap8]) ⟨_, _, rfl, hc9, hr10⟩ .nil)
    refine ls <| q1 hF rfl (e_asg hF rfl) fun a hF => ?_
    refine re <| ?_
    refine tn <| ?_
    refine wr <| tr <| ?_
    obtain ⟨H18, hx15, hr16, hc17, hS⟩ := St.frzS hS .head hv12
    obtain rfl := Option.some.inj hm
    exact r1 hF Try.results38 rfl ⟨H18, _, _, rfl, hc17, hr16, hx15, (St.le hS), hS.keep⟩
  ·
    replace hm := itp_f hm hb11
    refine tn <| cfv hF rfl hb11 <| wk <| ?_
    refine tn <| th <| ?_
    refine rg <| ?_
    refine ls <| a_bsl (e := 26) (sz := 1) [] hF rfl hS rfl rfl rfl (fun w => by kernel_rfl) fun b20 w a hS hF => ?_
    have hv19 : Rows (α := (List Int)) H [] [] := .nil
    refine ls <| q1 hF rfl (e_asg hF rfl) fun a hF => ?_
    refine re <| ?_
    refine tn <| th <| th <| ?_
    refine rg <| ?_
    refine ls <| q1 hF rfl (e_asg hF rfl) fun a hF => ?_
    refine re <| ?_
    refine tn <| midK (fun a w => ∃ (vA2 : (List (List Int))) (HA1 : PH) (oaA3 : Option Addr) (capA4 : Nat) (vsA5 : List Value), leadlineref11_grow_j1 vA2 = some r ∧ Ext w0 H HA1 ∧ Fr 38 [(5, .slice oaA3 vA2.length capA4)] a ∧ St w0 Nil [HA1] [sla 26 1 oaA3 vA2.length capA4 vsA5] w ∧ Rows HA1 vsA5 vA2) ?_ ?_
    ·
      refine wb <| lp (α := Nat × (List (List Int)) × Int) (fun (gh : Nat × (List (List Int)) × Int) a w => match gh with | (nn2, vB2, vB8) => ∃ (HB1 : PH) (oaB3 : Option Addr) (capB4 : Nat) (vsB5 : List Value), (leadlineref11_grow_l2 (leadlineref11_grow N) N leadlineref11_grow_j1 p1 p6) nn2 vB2 vB8 = some r ∧ Ext w0 H HB1 ∧ Fr 38 [(0, .slice oa2 p1.length cap3), (1, .slice oa7 p6.length cap8), (5, .slice oaB3 vB2.length capB4), (6, .int .i64 vB8)] a ∧ St w0 Nil [HB1] [sla 26 1 oaB3 vB2.length capB4 vsB5] w ∧ Rows HB1 vsB5 vB2) (fun gh => gh.1) (N, [], 0) ⟨H, (some ⟨b20, 0, none⟩), 0, [], hm, (Ext.refl _ _), hF.has ⟨rfl, rfl, rfl, rfl, trivial⟩, hS, hv19⟩ ?_
      clear hm hF hS
      rintro ⟨nn2, vB2, vB8⟩ a w ⟨HB1, oaB3, capB4, vsB5, hm, hxHB1, hF, hS, hvB6⟩
      obtain _ | nn2 := nn2
      · simp [leadlineref11_grow_l2] at hm
      rw [leadlineref11_grow_l2] at hm
      refine th <| th <| ?_
      replace hm := bind_some hm
      obtain ⟨x22, h23, hm⟩ := hm
      obtain ⟨c24, g25, hl26⟩ := SR.get hr5 h23
      obtain rfl : c24 = [.int .i64 x22] := g25
      refine rg <| ?_
      refine ls <| q1 hF rfl (e_move hF rfl) fun a hF => ?_
      refine ls <| q1 hF rfl (e_move hF rfl) fun a hF => ?_
      refine ls <| q1 hF rfl (e_move hF rfl) fun a hF => ?_
      refine ls <| q1 hF rfl (e_lenL (α := Int) (xs := p6) hF Try.runUnderlying26 rfl) fun a hF => ?_
      refine ls <| q1 hF rfl (e_iaI hF Try.runUnderlying26 Try.sizeOf3 rfl rfl h23 (SR.oaI hr5 (by decide) h23)) fun a hF => ?_
      refine ls <| q1 hF rfl (e_ld hF Try.isAgg3 rfl (PH.le.cell (fun b o hx => (Lds.le (St.ld hS)) b o (hxHB1.sub b o hx)) (hl26 0 _ rfl))) fun a hF => ?_
      refine ls <| q1 hF rfl (e_leq hF rfl rfl) fun a hF => ?_
      refine re <| ?_
      rcases bdich (decide (vB8 ≤ x22)) with hb27 | hb27
      ·
        replace hm := itp_t hm hb27
        refine tn <| ctv hF rfl hb27 <| wk <| ?_
        refine tn <| th <| wb <| th <| ?_
        replace hm := bind_some hm
        obtain ⟨l31, h32, hm⟩ := hm
        refine rg <| ?_
        refine ls <| a_bsl (e := 3) (sz := 1) [] hF rfl hS rfl rfl rfl (fun w => by kernel_rfl) fun b29 w a hS hF => ?_
        have hv28 : Rows (α := Int) HB1 [] [] := .nil
        refine ls <| q1 hF rfl (e_move hF rfl) fun a hF => ?_
        obtain ⟨us37, hd38, hu39⟩ := id (hr10.mono hxHB1.sub)
        refine ls <| m_app (α := Int) (xs := []) (ys := p6) hF rfl hS Try.underlying26 info3 rfl (by decide) rfl rfl rfl (.head _) hv28 (hS.rdH (.head _) hd38) hu39 h32 fun oa33 cap34 vs35 w a hv36 hU hF => ?_
        replace hS := hU _ .head
        clear hU
        refine ls <| q1 hF rfl (e_asg hF rfl) fun a hF => ?_
        refine re <| ?_
        refine tn <| th <| ?_
        replace hm := bind_some hm
        obtain ⟨l43, h44, hm⟩ := hm
        refine rg <| ?_
        refine ls <| q1 hF rfl (e_move hF rfl) fun a hF => ?_
        refine ls <| q1 hF rfl (e_move hF rfl) fun a hF => ?_
        refine ls <| a_bsl (e := 3) (sz := 1) [.int .i64 vB8] hF rfl hS rfl rfl rfl (fun w => by kernel_rfl) fun b41 w a hS hF => ?_
        have hv40 : Rows (α := Int) HB1 [.int .i64 vB8] ([vB8] : List Int) := (.cons (c := [.int .i64 vB8]) rfl .nil)
        refine ls <| m_app (α := Int) (xs := l31) (ys := ([vB8] : List Int)) hF rfl hS Try.underlying26 info3 rfl (by decide) rfl rfl rfl (.tail _ (.head _)) hv36 (hS.rdO (.head _)) hv40 h44 fun oa45 cap46 vs47 w a hv48 hU hF => ?_
        replace hS := hU _ (.tail .head)
        clear hU
        replace hS := hS.drop .head
        refine ls <| q1 hF rfl (e_asg hF rfl) fun a hF => ?_
        refine re <| ?_
        refine tn <| ?_
        replace hm := bind_some hm
        obtain ⟨r53, h54, hm⟩ := hm
        replace hm := bind_some hm
        obtain ⟨l63, h64, hm⟩ := hm
        refine rg <| ?_
        refine ls <| q1 hF rfl (e_move hF rfl) fun a hF => ?_
        refine ls <| q1 hF rfl (e_move hF rfl) fun a hF => ?_
        refine ls <| q1 hF rfl (e_move hF rfl) fun a hF => ?_
        obtain ⟨H52, hx49, hr50, hc51, hS⟩ := St.frzS hS .head hv48
        refine ls <| c1 hF rfl Try.call38 (ih (St.le hS) hc4 (hr5.mono (fun b o h => hx49.sub b o (hxHB1.sub b o h))) hc51 hr50 h54) ⟨rfl, rfl, trivial⟩ (fun v w a hR hF => ?_)
        obtain ⟨H58, oa59, cap60, rfl, hc61, hr62, hx55, hl56, hk⟩ := hR
        obtain ⟨hS, hx55⟩ := And.intro (St.passH hS hk hx55 hl56) (St.extc hS hx55)
        clear hk
        obtain ⟨us69, hd70, hu71⟩ := id hr62
        refine ls <| m_app (α := (List Int)) (xs := vB2) (ys := r53) hF rfl hS Try.underlying28 info26 rfl (by decide) rfl rfl rfl (.head _) (hvB6.mono (fun b o h => hx55.sub b o (hx49.sub b o h))) (hS.rdH (.head _) hd70) hu71 h64 fun oa65 cap66 vs67 w a hv68 hU hF => ?_
        replace hS := hU _ .head
        clear hU
        refine ls <| q1 hF rfl (e_asg hF rfl) fun a hF => ?_
        refine re <| ?_
        refine bn <| tn <| ?_
        refine rg <| ?_
        refine ls <| q1 hF rfl (e_move hF rfl) fun a hF => ?_
        refine ls <| q1 hF rfl (e_add hF rfl rfl) fun a hF => ?_
        refine ls <| q1 hF rfl (e_asg hF rfl) fun a hF => ?_
        refine re <| ?_
        refine tn <| ?_
        exact ⟨(nn2, l63, (IntKind.i64.wrap (vB8 + 1))), ⟨H58, oa65, cap66, vs67, hm, (Ext.trans hxHB1 (Ext.trans hx49 hx55)), hF.has ⟨rfl, rfl, rfl, rfl, trivial⟩, hS, hv68⟩, Nat.lt_succ_self _⟩
      ·
        replace hm := itp_f hm hb27
        refine tn <| cfv hF rfl hb27 <| ?_
        refine we <| tx <| tx <| bx <| ?_
        refine tn <| ?_
        exact ⟨vB2, HB1, oaB3, capB4, vsB5, hm, hxHB1, hF.has ⟨rfl, trivial⟩, hS, hvB6⟩
    clear hm hF hS
    rintro a w ⟨vA2, HA1, oaA3, capA4, vsA5, hm, hxHA1, hF, hS, hvA6⟩
    unfold leadlineref11_grow_j1 at hm
    refine th <| ?_
    refine rg <| ?_
    refine ls <| q1 hF rfl (e_move hF rfl) fun a hF => ?_
    refine ls <| q1 hF rfl (e_asg hF rfl) fun a hF => ?_
    refine re <| ?_
    refine tn <| ?_
    refine wr <| ?_
    obtain ⟨H75, hx72, hr73, hc74, hS⟩ := St.frzS hS .head hvA6
    obtain rfl := Option.some.inj hm
    exact r1 hF Try.results38 rfl ⟨H75, _, _, rfl, hc74, hr73, (Ext.trans hxHA1 hx72), (St.le hS), hS.keep⟩

set_option maxRecDepth 100000 in
theorem leadlineref06_Ints_c {N : Nat} {w0 : World} {H : PH} (hH : H.le w0) {oa2 : Option Addr} {cap3 : Nat} {p1 : (List Int)} (hc4 : p1.length ≤ cap3) (hr5 : SR H oa2 p1) {oa7 : Option Addr} {cap8 : Nat} {p6 : (List Int)} (hc9 : p6.length ≤ cap8) (hr10 : SR H oa7 p6) {r : Bool} (hm : leadlineref06_Ints N p1 p6 = some r) : Tot Try.prog 12 #[.slice oa2 p1.length cap3, .slice oa7 p6.length cap8] w0 (fun v w' => v = .bool r ∧ Keep Nil w0 w') := by
  unfold leadlineref06_Ints at hm
  refine fn0 (args := [.slice oa2 p1.length cap3, .slice oa7 p6.length cap8]) (F := [(0, .slice oa2 p1.length cap3), (1, .slice oa7 p6.length cap8)]) Try.func12 rfl Try.ntmps12 rfl rfl fun a hF => ?_
  have hS : St w0 Nil [H] [] w0 := start1 hH
  refine th <| ?_
  refine rg <| ?_
  refine ls <| q1 hF rfl (e_asg hF rfl) fun a hF => ?_
  refine re <| ?_
  refine tn <| th <| th <| ?_
  refine rg <| ?_
  refine ls <| q1 hF rfl (e_move hF rfl) fun a hF => ?_
  refine ls <| q1 hF rfl (e_lenL (α := Int) (xs := p1) hF Try.runUnderlying26 rfl) fun a hF => ?_
  refine ls <| q1 hF rfl (e_move hF rfl) fun a hF => ?_
  refine ls <| q1 hF rfl (e_lenL (α := Int) (xs := p6) hF Try.runUnderlying26 rfl) fun a hF => ?_
  refine ls <| q1 hF rfl (e_neq hF rfl rfl) fun a hF => ?_
  refine re <| ?_
  rcases bdich (decide ((p1.length : Int) ≠ (p6.length : Int))) with hb11 | hb11
  ·
    replace hm := itp_t hm hb11
    refine tn <| ctv hF rfl hb11 <| th <| ?_
    refine rg <| ?_
    refine ls <| q1 hF rfl (e_asg hF rfl) fun a hF => ?_
    refine re <| ?_
    refine tn <| ?_
    refine wr <| tr <| ?_
    obtain rfl := Option.some.inj hm
    exact r1 hF Try.results12 rfl ⟨rfl, hS.keep⟩
  ·
    replace hm := itp_f hm hb11
    refine tn <| cfv hF rfl hb11 <| wk <| ?_
    refine tn <| th <| th <| ?_
    refine rg <| ?_
    refine ls <| q1 hF rfl (e_asg hF rfl) fun a hF => ?_
    refine re <| ?_
    refine tn <| midK (fun a w => leadlineref06_Ints_j1 = some r ∧ Fr 26 [] a ∧ St w0 Nil [H] [] w) ?_ ?_
    ·
      refine wb <| lp (α := Nat × Int) (fun (gh : Nat × Int) a w => match gh with | (nn2, vB1) => (leadlineref06_Ints_l2 N leadlineref06_Ints_j1 p1 p6) nn2 vB1 = some r ∧ Fr 26 [(0, .slice oa2 p1.length cap3), (1, .slice oa7 p6.length cap8), (5, .int .i64 vB1)] a ∧ St w0 Nil [H] [] w) (fun gh => gh.1) (N, 0) ⟨hm, hF.has ⟨rfl, rfl, rfl, trivial⟩, hS⟩ ?_
      clear hm hF hS
      rintro ⟨nn2, vB1⟩ a w ⟨hm, hF, hS⟩
      obtain _ | nn2 := nn2
      · simp [leadlineref06_Ints_l2] at hm
      rw [leadlineref06_Ints_l2] at hm
      refine th <| th <| ?_
      refine rg <| ?_
      refine ls <| q1 hF rfl (e_move hF rfl) fun a hF => ?_
      refine ls <| q1 hF rfl (e_move hF rfl) fun a hF => ?_
      refine ls <| q1 hF rfl (e_lenL (α := Int) (xs := p1) hF Try.runUnderlying26 rfl) fun a hF => ?_
      refine ls <| q1 hF rfl (e_lss hF rfl rfl) fun a hF => ?_
      refine re <| ?_
      rcases bdich (decide (vB1 < (p1.length : Int))) with hb12 | hb12
      ·
        replace hm := itp_t hm hb12
        refine tn <| ctv hF rfl hb12 <| wk <| ?_
        refine tn <| th <| wb <| th <| ?_
        replace hm := bind_some hm
        obtain ⟨x13, h14, hm⟩ := hm
        obtain ⟨c15, g16, hl17⟩ := SR.get hr5 h14
        obtain rfl : c15 = [.int .i64 x13] := g16
        replace hm := bind_some hm
        obtain ⟨x18, h19, hm⟩ := hm
        obtain ⟨c20, g21, hl22⟩ := SR.get hr10 h19
        obtain rfl : c20 = [.int .i64 x18] := g21
        refine rxS 9 hS wide (by kernel_rfl) fun w hS => ?_
        refine x1 (St.ld hS) hF rfl rfl (fun _ _ _ h => h) (fun w hl => (e_move hF rfl)) fun a hF => ?_
        refine x1 (St.ld hS) hF rfl rfl (fun _ _ _ h => h) (fun w hl => (e_move hF rfl)) fun a hF => ?_
        refine x1 (St.ld hS) hF rfl rfl (fun _ _ _ h => h) (fun w hl => (e_iaI hF Try.runUnderlying26 Try.sizeOf3 rfl rfl h14 (SR.oaI hr5 (by decide) h14))) fun a hF => ?_
        refine x1 (St.ld hS) hF rfl rfl (fun _ _ _ h => h) (fun w hl => (e_ld hF Try.isAgg3 rfl (PH.le.cell (Lds.le hl) (hl17 0 _ rfl)))) fun a hF => ?_
        refine x1 (St.ld hS) hF rfl rfl (fun _ _ _ h => h) (fun w hl => (e_move hF rfl)) fun a hF => ?_
        refine x1 (St.ld hS) hF rfl rfl (fun _ _ _ h => h) (fun w hl => (e_move hF rfl)) fun a hF => ?_
        refine x1 (St.ld hS) hF rfl rfl (fun _ _ _ h => h) (fun w hl => (e_iaI hF Try.runUnderlying26 Try.sizeOf3 rfl rfl h19 (SR.oaI hr10 (by decide) h19))) fun a hF => ?_
        refine x1 (St.ld hS) hF rfl rfl (fun _ _ _ h => h) (fun w hl => (e_ld hF Try.isAgg3 rfl (PH.le.cell (Lds.le hl) (hl22 0 _ rfl)))) fun a hF => ?_
        refine x1 (St.ld hS) hF rfl rfl (fun _ _ _ h => h) (fun w hl => (e_neq hF rfl rfl)) fun a hF => ?_
        refine xe <| ?_
        rcases bdich (decide (x13 ≠ x18)) with hb23 | hb23
        ·
          replace hm := itp_t hm hb23
          refine tn <| ctv hF rfl hb23 <| th <| ?_
          refine rg <| ?_
          refine ls <| q1 hF rfl (e_asg hF rfl) fun a hF => ?_
          refine re <| ?_
          refine tn <| ?_
          refine wr <| br <| tr <| tr <| br <| tr <| ?_
          obtain rfl := Option.some.inj hm
          exact r1 hF Try.results12 rfl ⟨rfl, hS.keep⟩
        ·
          replace hm := itp_f hm hb23
          refine tn <| cfv hF rfl hb23 <| wk <| ?_
          refine bn <| tn <| ?_
          refine rg <| ?_
          refine ls <| q1 hF rfl (e_move hF rfl) fun a hF => ?_
          refine ls <| q1 hF rfl (e_add hF rfl rfl) fun a hF => ?_
          refine ls <| q1 hF rfl (e_asg hF rfl) fun a hF => ?_
          refine re <| ?_
          refine tn <| ?_
          exact ⟨(nn2, (IntKind.i64.wrap (vB1 + 1))), ⟨hm, hF.has ⟨rfl, rfl, rfl, trivial⟩, hS⟩, Nat.lt_succ_self _⟩
      ·
        replace hm := itp_f hm hb12
        refine tn <| cfv hF rfl hb12 <| ?_
        refine we <| tx <| tx <| bx <| ?_
        refine tn <| ?_
        exact ⟨hm, hF.has trivial, hS⟩
    clear hm hF hS
    rintro a w ⟨hm, hF, hS⟩
    unfold leadlineref06_Ints_j1 at hm
    refine th <| ?_
    refine rg <| ?_
    refine ls <| q1 hF rfl (e_asg hF rfl) fun a hF => ?_
    refine re <| ?_
    refine tn <| ?_
    refine wr <| ?_
    obtain rfl := Option.some.inj hm
    exact r1 hF Try.results12 rfl ⟨rfl, hS.keep⟩
end Go.LM.LINES
