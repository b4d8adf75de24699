/- Walks, lifted by program. No condition beyond each theorem's own premises. -/
import Derived.Test.YtkgaliichchanaaLRB
namespace Go.LM.LINES
open Go Go.LL Go.MD Go.LM Go.Proofs Go.MD.LINES

set_option maxRecDepth 100000 in
theorem leadlineref11_Mem_Lines__m0_71_ffooo_c {N : Nat} {w0 : World} {H : PH} (hH : H.le w0) {b2 : Nat} {p1 : leadlineref11_Mem} {oa3 : Option Addr} {cap4 : Nat} (hc5 : p1.Of.length ≤ cap4) (hr6 : SR H oa3 p1.Of) {oa7 : Option Addr} {cap8 : Nat} (hc9 : p1.Firsts.length ≤ cap8) (hr10 : SR H oa7 p1.Firsts) {oa11 : Option Addr} {cap12 : Nat} {vs13 : List Value} (hv14 : Rows H vs13 p1.L) {oa16 : Option Addr} {cap17 : Nat} {vs18 : List Value} (hv19 : Rows H vs18 p1.K) {oa21 : Option Addr} {cap22 : Nat} {vs23 : List Value} (hv24 : Rows H vs23 p1.W) (hO : (sepA [blk b2 (.cells [.slice oa3 p1.Of.length cap4, .slice oa7 p1.Firsts.length cap8, .slice oa11 p1.L.length cap12, .slice oa16 p1.K.length cap17, .slice oa21 p1.W.length cap22].toArray 71 (0, 0)), sla 3 1 oa11 p1.L.length cap12 vs13, sla 3 1 oa16 p1.K.length cap17 vs18, sla 73 3 oa21 p1.W.length cap22 vs23]).ok (hp w0)) (hD : ∀ b, (sepA [blk b2 (.cells [.slice oa3 p1.Of.length cap4, .slice oa7 p1.Firsts.length cap8, .slice oa11 p1.L.length cap12, .slice oa16 p1.K.length cap17, .slice oa21 p1.W.length cap22].toArray 71 (0, 0)), sla 3 1 oa11 p1.L.length cap12 vs13, sla 3 1 oa16 p1.K.length cap17 vs18, sla 73 3 oa21 p1.W.length cap22 vs23]).fp b → H b = none) {r : (Int × leadlineref11_Mem)} (hm : leadlineref11_Mem_Lines__m0_71_ffooo N p1 = some r) : Tot Try.prog 34 #[.pointer (some ⟨b2, 0, none⟩)] w0 (fun v w' => ∃ (oa1m : Option Addr) (cap1m : Nat) (oa2m : Option Addr) (cap2m : Nat) (oa3m : Option Addr) (cap3m : Nat) (vs3m : List Value) (oa4m : Option Addr) (cap4m : Nat) (vs4m : List Value) (oa5m : Option Addr) (cap5m : Nat) (vs5m : List Value), v = .int .i64 r.1 ∧ r.2.Of.length ≤ cap1m ∧ SR H oa1m r.2.Of ∧ r.2.Firsts.length ≤ cap2m ∧ SR H oa2m r.2.Firsts ∧ (∀ h, Rows h vs3m r.2.L) ∧ (∀ h, Rows h vs4m r.2.K) ∧ (∀ h, Rows h vs5m r.2.W) ∧ Mut w0 (sepA [blk b2 (.cells [.slice oa3 p1.Of.length cap4, .slice oa7 p1.Firsts.length cap8, .slice oa11 p1.L.length cap12, .slice oa16 p1.K.length cap17, .slice oa21 p1.W.length cap22].toArray 71 (0, 0)), sla 3 1 oa11 p1.L.length cap12 vs13, sla 3 1 oa16 p1.K.length cap17 vs18, sla 73 3 oa21 p1.W.length cap22 vs23]) (sepA [blk b2 (.cells [.slice oa1m r.2.Of.length cap1m, .slice oa2m r.2.Firsts.length cap2m, .slice oa3m r.2.L.length cap3m, .slice oa4m r.2.K.length cap4m, .slice oa5m r.2.W.length cap5m].toArray 71 (0, 0)), sla 3 1 oa3m r.2.L.length cap3m vs3m, sla 3 1 oa4m r.2.K.length cap4m vs4m, sla 73 3 oa5m r.2.W.length cap5m vs5m]) w') := by
  unfold leadlineref11_Mem_Lines__m0_71_ffooo at hm
  refine fn0 (args := [.pointer (some ⟨b2, 0, none⟩)]) (F := [(0, .pointer (some ⟨b2, 0, none⟩))]) Try.func34 rfl Try.ntmps34 rfl rfl fun a hF => ?_
  have hS := startM hH hO hD
  refine th <| ?_
  refine rg <| ?_
  refine ls <| q1 hF rfl (e_asg hF rfl) fun a hF => ?_
  refine re <| ?_
  refine tn <| th <| th <| ?_
  refine rg <| ?_
  refine ls <| q1 hF rfl (e_move hF rfl) fun a hF => ?_
  refine ls <| q1 hF rfl (e_nilp hF rfl) fun a hF => ?_
  refine ls <| q1 hF rfl (e_fa hF fa71_0 rfl) fun a hF => ?_
  refine ls <| q1 hF rfl (e_ld hF Try.isAgg26 rfl ((St.ld hS).cellB (.head _) rfl)) fun a hF => ?_
  refine ls <| q1 hF rfl (e_lenL (α := Int) (xs := p1.Of) hF Try.runUnderlying26 rfl) fun a hF => ?_
  refine ls <| q1 hF rfl (e_eql hF rfl rfl) fun a hF => ?_
  refine re <| ?_
  rcases bdich (decide ((p1.Of.length : Int) = 0)) with hb26 | hb26
  ·
    replace hm := itp_t hm hb26
    refine tn <| ctv hF rfl hb26 <| th <| ?_
    refine rg <| ?_
    refine ls <| q1 hF rfl (e_asg hF rfl) fun a hF => ?_
    refine re <| ?_
    refine tn <| ?_
    refine wr <| tr <| ?_
    obtain rfl := Option.some.inj hm
    exact r1 hF Try.results34 rfl ⟨oa3, cap4, oa7, cap8, oa11, cap12, vs13, oa16, cap17, vs18, oa21, cap22, vs23, rfl, hc5, hr6, hc9, hr10, (fun _ => Rows.ind hv14), (fun _ => Rows.ind hv19), (fun _ => Rows.ind hv24), (hS.pickL (.cons .head (.cons .head (.cons .head (.cons .head .nil))))).endMut⟩
  ·
    replace hm := itp_f hm hb26
    refine tn <| cfv hF rfl hb26 <| wk <| ?_
    refine tn <| th <| ?_
    replace hm := bind_some hm
    obtain ⟨x27, h28, hm⟩ := hm
    obtain ⟨c29, g30, hl31⟩ := SR.get hr6 h28
    obtain rfl : c29 = [.int .i64 x27] := g30
    refine rxS 14 hS wide (by kernel_rfl) fun w hS => ?_
    refine x1 (St.ld hS) hF rfl rfl (fun _ _ _ h => h) (fun w hl => (e_move hF rfl)) fun a hF => ?_
    refine x1 (St.ld hS) hF rfl rfl (fun _ _ _ h => h) (fun w hl => (e_nilp hF rfl)) fun a hF => ?_
    refine x1 (St.ld hS) hF rfl rfl (fun _ _ _ h => h) (fun w hl => (e_fa hF fa71_0 rfl)) fun a hF => ?_
    refine x1 (St.ld hS) hF rfl rfl (fun _ _ _ h => h) (fun w hl => (e_ld hF Try.isAgg26 rfl (hl.cellB (.head _) rfl))) fun a hF => ?_
    refine x1 (St.ld hS) hF rfl rfl (fun _ _ _ h => h) (fun w hl => (e_move hF rfl)) fun a hF => ?_
    refine x1 (St.ld hS) hF rfl rfl (fun _ _ _ h => h) (fun w hl => (e_nilp hF rfl)) fun a hF => ?_
    refine x1 (St.ld hS) hF rfl rfl (fun _ _ _ h => h) (fun w hl => (e_fa hF fa71_0 rfl)) fun a hF => ?_
    refine x1 (St.ld hS) hF rfl rfl (fun _ _ _ h => h) (fun w hl => (e_ld hF Try.isAgg26 rfl (hl.cellB (.head _) rfl))) fun a hF => ?_
    refine x1 (St.ld hS) hF rfl rfl (fun _ _ _ h => h) (fun w hl => (e_lenL (α := Int) (xs := p1.Of) hF Try.runUnderlying26 rfl)) fun a hF => ?_
    refine x1 (St.ld hS) hF rfl rfl (fun _ _ _ h => h) (fun w hl => (e_sub hF rfl rfl)) fun a hF => ?_
    refine x1 (St.ld hS) hF rfl rfl (fun _ _ _ h => h) (fun w hl => (e_iaI hF Try.runUnderlying26 Try.sizeOf3 rfl rfl h28 (SR.oaI hr6 (by decide) h28))) fun a hF => ?_
    refine x1 (St.ld hS) hF rfl rfl (fun _ _ _ h => h) (fun w hl => (e_ld hF Try.isAgg3 rfl (PH.le.cell (Lds.le hl) (hl31 0 _ rfl)))) fun a hF => ?_
    refine x1 (St.ld hS) hF rfl rfl (fun _ _ _ h => h) (fun w hl => (e_add hF rfl rfl)) fun a hF => ?_
    refine x1 (St.ld hS) hF rfl rfl (fun _ _ _ h => h) (fun w hl => (e_asg hF rfl)) fun a hF => ?_
    refine xe <| ?_
    refine tn <| ?_
    refine wr <| ?_
    obtain rfl := Option.some.inj hm
    exact r1 hF Try.results34 rfl ⟨oa3, cap4, oa7, cap8, oa11, cap12, vs13, oa16, cap17, vs18, oa21, cap22, vs23, rfl, hc5, hr6, hc9, hr10, (fun _ => Rows.ind hv14), (fun _ => Rows.ind hv19), (fun _ => Rows.ind hv24), (hS.pickL (.cons .head (.cons .head (.cons .head (.cons .head .nil))))).endMut⟩

set_option maxRecDepth 100000 in
theorem leadlineref11_Mem_Read__m0_71_ffooo_c {N : Nat} {w0 : World} {H : PH} (hH : H.le w0) {b2 : Nat} {p1 : leadlineref11_Mem} {oa3 : Option Addr} {cap4 : Nat} (hc5 : p1.Of.length ≤ cap4) (hr6 : SR H oa3 p1.Of) {oa7 : Option Addr} {cap8 : Nat} (hc9 : p1.Firsts.length ≤ cap8) (hr10 : SR H oa7 p1.Firsts) {oa11 : Option Addr} {cap12 : Nat} {vs13 : List Value} (hv14 : Rows H vs13 p1.L) {oa16 : Option Addr} {cap17 : Nat} {vs18 : List Value} (hv19 : Rows H vs18 p1.K) {oa21 : Option Addr} {cap22 : Nat} {vs23 : List Value} (hv24 : Rows H vs23 p1.W) {p26 : Int} (hO : (sepA [blk b2 (.cells [.slice oa3 p1.Of.length cap4, .slice oa7 p1.Firsts.length cap8, .slice oa11 p1.L.length cap12, .slice oa16 p1.K.length cap17, .slice oa21 p1.W.length cap22].toArray 71 (0, 0)), sla 3 1 oa11 p1.L.length cap12 vs13, sla 3 1 oa16 p1.K.length cap17 vs18, sla 73 3 oa21 p1.W.length cap22 vs23]).ok (hp w0)) (hD : ∀ b, (sepA [blk b2 (.cells [.slice oa3 p1.Of.length cap4, .slice oa7 p1.Firsts.length cap8, .slice oa11 p1.L.length cap12, .slice oa16 p1.K.length cap17, .slice oa21 p1.W.length cap22].toArray 71 (0, 0)), sla 3 1 oa11 p1.L.length cap12 vs13, sla 3 1 oa16 p1.K.length cap17 vs18, sla 73 3 oa21 p1.W.length cap22 vs23]).fp b → H b = none) {r : (Int × Int × leadlineref11_Mem)} (hm : leadlineref11_Mem_Read__m0_71_ffooo N p1 p26 = some r) : Tot Try.prog 28 #[.pointer (some ⟨b2, 0, none⟩), .int .i64 p26] w0 (fun v w' => ∃ (oa1m : Option Addr) (cap1m : Nat) (oa2m : Option Addr) (cap2m : Nat) (oa3m : Option Addr) (cap3m : Nat) (vs3m : List Value) (oa4m : Option Addr) (cap4m : Nat) (vs4m : List Value) (oa5m : Option Addr) (cap5m : Nat) (vs5m : List Value), v = .tuple #[.int .i64 r.1, .int .i64 r.2.1] ∧ r.2.2.Of.length ≤ cap1m ∧ SR H oa1m r.2.2.Of ∧ r.2.2.Firsts.length ≤ cap2m ∧ SR H oa2m r.2.2.Firsts ∧ (∀ h, Rows h vs3m r.2.2.L) ∧ (∀ h, Rows h vs4m r.2.2.K) ∧ (∀ h, Rows h vs5m r.2.2.W) ∧ Mut w0 (sepA [blk b2 (.cells [.slice oa3 p1.Of.length cap4, .slice oa7 p1.Firsts.length cap8, .slice oa11 p1.L.length cap12, .slice oa16 p1.K.length cap17, .slice oa21 p1.W.length cap22].toArray 71 (0, 0)), sla 3 1 oa11 p1.L.length cap12 vs13, sla 3 1 oa16 p1.K.length cap17 vs18, sla 73 3 oa21 p1.W.length cap22 vs23]) (sepA [blk b2 (.cells [.slice oa1m r.2.2.Of.length cap1m, .slice oa2m r.2.2.Firsts.length cap2m, .slice oa3m r.2.2.L.length cap3m, .slice oa4m r.2.2.K.length cap4m, .slice oa5m r.2.2.W.length cap5m].toArray 71 (0, 0)), sla 3 1 oa3m r.2.2.L.length cap3m vs3m, sla 3 1 oa4m r.2.2.K.length cap4m vs4m, sla 73 3 oa5m r.2.2.W.length cap5m vs5m]) w') := by
  unfold leadlineref11_Mem_Read__m0_71_ffooo at hm
  refine fn0 (args := [.pointer (some ⟨b2, 0, none⟩), .int .i64 p26]) (F := [(0, .pointer (some ⟨b2, 0, none⟩)), (1, .int .i64 p26)]) Try.func28 rfl Try.ntmps28 rfl rfl fun a hF => ?_
  have hS := startM hH hO hD
  refine th <| ?_
  refine rg <| ?_
  refine ls <| q1 hF rfl (e_asg hF rfl) fun a hF => ?_
  refine ls <| q1 hF rfl (e_asg hF rfl) fun a hF => ?_
  refine re <| ?_
  refine tn <| th <| th <| ?_
  refine rg <| ?_
  refine ls <| q1 hF rfl (e_move hF rfl) fun a hF => ?_
  refine ls <| q1 hF rfl (e_lss hF rfl rfl) fun a hF => ?_
  refine ls <| q1 hF rfl (e_move hF rfl) fun a hF => ?_
  refine grp (N := 24) (Fk := [(0, .pointer (some ⟨b2, 0, none⟩)), (1, .int .i64 p26), (16, .bool ((decide (p26 < 0)) || (decide ((p1.L.length : Int) ≤ p26))))]) (b := (decide (p26 < 0))) 8 hS ?_ ?_ ?_
  ·
    intro hb key
    replace hF := Fr.as hF (t := 8) rfl (congrArg Value.bool hb)
    refine ls <| gn hF rfl rfl rfl rfl fun a hF => ?_
    refine ls <| gn hF rfl rfl rfl rfl fun a hF => ?_
    refine ls <| gn hF rfl rfl rfl rfl fun a hF => ?_
    refine ls <| gn hF rfl rfl rfl rfl fun a hF => ?_
    refine ls <| gn hF rfl rfl rfl rfl fun a hF => ?_
    refine ls <| gn hF rfl rfl rfl rfl fun a hF => ?_
    refine ls <| gn hF rfl rfl rfl rfl fun a hF => ?_
    refine ls <| q1 hF rfl (e_as (v' := .bool ((decide (p26 < 0)) || (decide ((p1.L.length : Int) ≤ p26)))) (e_pickT hF rfl rfl) (by rw [hb]; rfl)) fun a hF => ?_
    exact key _ _ (hF.has ⟨rfl, rfl, rfl, trivial⟩) hS
  ·
    intro hb key
    replace hF := Fr.as hF (t := 8) rfl (congrArg Value.bool hb)
    refine ls <| gy hF rfl rfl <| q1 hF rfl (e_move hF rfl) fun a hF => ?_
    refine ls <| gy hF rfl rfl <| q1 hF rfl (e_move hF rfl) fun a hF => ?_
    refine ls <| gy hF rfl rfl <| q1 hF rfl (e_nilp hF rfl) fun a hF => ?_
    refine ls <| gy hF rfl rfl <| q1 hF rfl (e_fa hF fa71_2 rfl) fun a hF => ?_
    refine ls <| gy hF rfl rfl <| q1 hF rfl (e_ld hF Try.isAgg26 rfl ((St.ld hS).cellB (.head _) rfl)) fun a hF => ?_
    refine ls <| gy hF rfl rfl <| q1 hF rfl (e_lenL (α := Int) (xs := p1.L) hF Try.runUnderlying26 rfl) fun a hF => ?_
    refine ls <| gy hF rfl rfl <| q1 hF rfl (e_geq hF rfl rfl) fun a hF => ?_
    refine ls <| q1 hF rfl (e_as (v' := .bool ((decide (p26 < 0)) || (decide ((p1.L.length : Int) ≤ p26)))) (e_pickF hF rfl rfl) (by rw [hb]; rfl)) fun a hF => ?_
    exact key _ _ (hF.has ⟨rfl, rfl, rfl, trivial⟩) hS
  intro a w hF hS
  refine re <| ?_
  rcases bdich ((decide (p26 < 0)) || (decide ((p1.L.length : Int) ≤ p26))) with hb27 | hb27
  ·
    replace hm := ite_t hm hb27
    refine tn <| ctv hF rfl hb27 <| th <| ?_
    refine rg <| ?_
    refine ls <| q1 hF rfl (e_asg hF rfl) fun a hF => ?_
    refine ls <| q1 hF rfl (e_asg hF rfl) fun a hF => ?_
    refine re <| ?_
    refine tn <| ?_
    refine wr <| tr <| ?_
    obtain rfl := Option.some.inj hm
    exact r2 hF Try.results28 rfl rfl ⟨oa3, cap4, oa7, cap8, oa11, cap12, vs13, oa16, cap17, vs18, oa21, cap22, vs23, rfl, hc5, hr6, hc9, hr10, (fun _ => Rows.ind hv14), (fun _ => Rows.ind hv19), (fun _ => Rows.ind hv24), (hS.pickL (.cons .head (.cons .head (.cons .head (.cons .head .nil))))).endMut⟩
  ·
    replace hm := ite_f hm hb27
    refine tn <| cfv hF rfl hb27 <| wk <| ?_
    refine tn <| th <| ?_
    replace hm := bind_some hm
    obtain ⟨x28, h29, hm⟩ := hm
    have ho30 := Rd.oaI (hS.rdO (.tail _ (.head _))) hv14 (by decide) h29
    obtain ⟨c31, g32, hl33⟩ := Rows.getI hv14 h29
    obtain rfl : c31 = [.int .i64 x28] := g32
    refine rg <| ?_
    refine ls <| q1 hF rfl (e_move hF rfl) fun a hF => ?_
    refine ls <| q1 hF rfl (e_nilp hF rfl) fun a hF => ?_
    refine ls <| q1 hF rfl (e_fa hF fa71_2 rfl) fun a hF => ?_
    refine ls <| q1 hF rfl (e_ld hF Try.isAgg26 rfl ((St.ld hS).cellB (.head _) rfl)) fun a hF => ?_
    refine ls <| q1 hF rfl (e_move hF rfl) fun a hF => ?_
    refine ls <| q1 hF rfl (e_iaI hF Try.runUnderlying26 Try.sizeOf3 rfl rfl h29 ho30) fun a hF => ?_
    refine ls <| q1 hF rfl (e_ld hF Try.isAgg3 rfl ((St.ld hS).elO (.tail _ (.head _)) (hl33 0 _ rfl))) fun a hF => ?_
    refine ls <| q1 hF rfl (e_asg hF rfl) fun a hF => ?_
    refine ls <| q1 hF rfl (e_asg hF rfl) fun a hF => ?_
    refine re <| ?_
    refine tn <| ?_
    refine wr <| ?_
    obtain rfl := Option.some.inj hm
    exact r2 hF Try.results28 rfl rfl ⟨oa3, cap4, oa7, cap8, oa11, cap12, vs13, oa16, cap17, vs18, oa21, cap22, vs23, rfl, hc5, hr6, hc9, hr10, (fun _ => Rows.ind hv14), (fun _ => Rows.ind hv19), (fun _ => Rows.ind hv24), (hS.pickL (.cons .head (.cons .head (.cons .head (.cons .head .nil))))).endMut⟩

set_option maxHeartbeats 4000000 in
set_option maxRecDepth 100000 in
theorem leadlineref11_Mem_Write__m0_71_ffooo_c {N : Nat} {w0 : World} {H : PH} (hH : H.le w0) {b2 : Nat} {p1 : leadlineref11_Mem} {oa3 : Option Addr} {cap4 : Nat} (hc5 : p1.Of.length ≤ cap4) (hr6 : SR H oa3 p1.Of) {oa7 : Option Addr} {cap8 : Nat} (hc9 : p1.Firsts.length ≤ cap8) (hr10 : SR H oa7 p1.Firsts) {oa11 : Option Addr} {cap12 : Nat} {vs13 : List Value} (hv14 : Rows H vs13 p1.L) {oa16 : Option Addr} {cap17 : Nat} {vs18 : List Value} (hv19 : Rows H vs18 p1.K) {oa21 : Option Addr} {cap22 : Nat} {vs23 : List Value} (hv24 : Rows H vs23 p1.W) {p26 : Int} {p27 : Int} (hO : (sepA [blk b2 (.cells [.slice oa3 p1.Of.length cap4, .slice oa7 p1.Firsts.length cap8, .slice oa11 p1.L.length cap12, .slice oa16 p1.K.length cap17, .slice oa21 p1.W.length cap22].toArray 71 (0, 0)), sla 3 1 oa11 p1.L.length cap12 vs13, sla 3 1 oa16 p1.K.length cap17 vs18, sla 73 3 oa21 p1.W.length cap22 vs23]).ok (hp w0)) (hD : ∀ b, (sepA [blk b2 (.cells [.slice oa3 p1.Of.length cap4, .slice oa7 p1.Firsts.length cap8, .slice oa11 p1.L.length cap12, .slice oa16 p1.K.length cap17, .slice oa21 p1.W.length cap22].toArray 71 (0, 0)), sla 3 1 oa11 p1.L.length cap12 vs13, sla 3 1 oa16 p1.K.length cap17 vs18, sla 73 3 oa21 p1.W.length cap22 vs23]).fp b → H b = none) {r : (Int × leadlineref11_Mem)} (hm : leadlineref11_Mem_Write__m0_71_ffooo N p1 p26 p27 = some r) : Tot Try.prog 22 #[.pointer (some ⟨b2, 0, none⟩), .int .i64 p26, .int .i64 p27] w0 (fun v w' => ∃ (oa1m : Option Addr) (cap1m : Nat) (oa2m : Option Addr) (cap2m : Nat) (oa3m : Option Addr) (cap3m : Nat) (vs3m : List Value) (oa4m : Option Addr) (cap4m : Nat) (vs4m : List Value) (oa5m : Option Addr) (cap5m : Nat) (vs5m : List Value), v = .int .i64 r.1 ∧ r.2.Of.length ≤ cap1m ∧ SR H oa1m r.2.Of ∧ r.2.Firsts.length ≤ cap2m ∧ SR H oa2m r.2.Firsts ∧ (∀ h, Rows h vs3m r.2.L) ∧ (∀ h, Rows h vs4m r.2.K) ∧ (∀ h, Rows h vs5m r.2.W) ∧ Mut w0 (sepA [blk b2 (.cells [.slice oa3 p1.Of.length cap4, .slice oa7 p1.Firsts.length cap8, .slice oa11 p1.L.length cap12, .slice oa16 p1.K.length cap17, .slice oa21 p1.W.length cap22].toArray 71 (0, 0)), sla 3 1 oa11 p1.L.length cap12 vs13, sla 3 1 oa16 p1.K.length cap17 vs18, sla 73 3 oa21 p1.W.length cap22 vs23]) (sepA [blk b2 (.cells [.slice oa1m r.2.Of.length cap1m, .slice oa2m r.2.Firsts.length cap2m, .slice oa3m r.2.L.length cap3m, .slice oa4m r.2.K.length cap4m, .slice oa5m r.2.W.length cap5m].toArray 71 (0, 0)), sla 3 1 oa3m r.2.L.length cap3m vs3m, sla 3 1 oa4m r.2.K.length cap4m vs4m, sla 73 3 oa5m r.2.W.length cap5m vs5m]) w') := by
  unfold leadlineref11_Mem_Write__m0_71_ffooo at hm
  refine fn0 (args := [.pointer (some ⟨b2, 0, none⟩), .int .i64 p26, .int .i64 p27]) (F := [(0, .pointer (some ⟨b2, 0, none⟩)), (1, .int .i64 p26), (2, .int .i64 p27)]) Try.func22 rfl Try.ntmps22 rfl rfl fun a hF => ?_
  have hS := startM hH hO hD
  refine th <| ?_
  refine rg <| ?_
  refine ls <| q1 hF rfl (e_asg hF rfl) fun a hF => ?_
  refine re <| ?_
  refine tn <| th <| th <| ?_
  refine rg <| ?_
  refine ls <| q1 hF rfl (e_move hF rfl) fun a hF => ?_
  refine ls <| q1 hF rfl (e_lss hF rfl rfl) fun a hF => ?_
  refine ls <| q1 hF rfl (e_move hF rfl) fun a hF => ?_
  refine grp (N := 51) (Fk := [(0, .pointer (some ⟨b2, 0, none⟩)), (1, .int .i64 p26), (2, .int .i64 p27), (17, .bool ((decide (p26 < 0)) || (decide ((p1.L.length : Int) ≤ p26))))]) (b := (decide (p26 < 0))) 8 hS ?_ ?_ ?_
  ·
    intro hb key
    replace hF := Fr.as hF (t := 9) rfl (congrArg Value.bool hb)
    refine ls <| gn hF rfl rfl rfl rfl fun a hF => ?_
    refine ls <| gn hF rfl rfl rfl rfl fun a hF => ?_
    refine ls <| gn hF rfl rfl rfl rfl fun a hF => ?_
    refine ls <| gn hF rfl rfl rfl rfl fun a hF => ?_
    refine ls <| gn hF rfl rfl rfl rfl fun a hF => ?_
    refine ls <| gn hF rfl rfl rfl rfl fun a hF => ?_
    refine ls <| gn hF rfl rfl rfl rfl fun a hF => ?_
    refine ls <| q1 hF rfl (e_as (v' := .bool ((decide (p26 < 0)) || (decide ((p1.L.length : Int) ≤ p26)))) (e_pickT hF rfl rfl) (by rw [hb]; rfl)) fun a hF => ?_
    exact key _ _ (hF.has ⟨rfl, rfl, rfl, rfl, trivial⟩) hS
  ·
    intro hb key
    replace hF := Fr.as hF (t := 9) rfl (congrArg Value.bool hb)
    refine ls <| gy hF rfl rfl <| q1 hF rfl (e_move hF rfl) fun a hF => ?_
    refine ls <| gy hF rfl rfl <| q1 hF rfl (e_move hF rfl) fun a hF => ?_
    refine ls <| gy hF rfl rfl <| q1 hF rfl (e_nilp hF rfl) fun a hF => ?_
    refine ls <| gy hF rfl rfl <| q1 hF rfl (e_fa hF fa71_2 rfl) fun a hF => ?_
    refine ls <| gy hF rfl rfl <| q1 hF rfl (e_ld hF Try.isAgg26 rfl ((St.ld hS).cellB (.head _) rfl)) fun a hF => ?_
    refine ls <| gy hF rfl rfl <| q1 hF rfl (e_lenL (α := Int) (xs := p1.L) hF Try.runUnderlying26 rfl) fun a hF => ?_
    refine ls <| gy hF rfl rfl <| q1 hF rfl (e_geq hF rfl rfl) fun a hF => ?_
    refine ls <| q1 hF rfl (e_as (v' := .bool ((decide (p26 < 0)) || (decide ((p1.L.length : Int) ≤ p26)))) (e_pickF hF rfl rfl) (by rw [hb]; rfl)) fun a hF => ?_
    exact key _ _ (hF.has ⟨rfl, rfl, rfl, rfl, trivial⟩) hS
  intro a w hF hS
  refine re <| ?_
  rcases bdich ((decide (p26 < 0)) || (decide ((p1.L.length : Int) ≤ p26))) with hb28 | hb28
  ·
    replace hm := ite_t hm hb28
    refine tn <| ctv hF rfl hb28 <| th <| ?_
    refine rg <| ?_
    refine ls <| q1 hF rfl (e_asg hF rfl) fun a hF => ?_
    refine re <| ?_
    refine tn <| ?_
    refine wr <| tr <| ?_
    obtain rfl := Option.some.inj hm
    exact r1 hF Try.results22 rfl ⟨oa3, cap4, oa7, cap8, oa11, cap12, vs13, oa16, cap17, vs18, oa21, cap22, vs23, rfl, hc5, hr6, hc9, hr10, (fun _ => Rows.ind hv14), (fun _ => Rows.ind hv19), (fun _ => Rows.ind hv24), (hS.pickL (.cons .head (.cons .head (.cons .head (.cons .head .nil))))).endMut⟩
  ·
    replace hm := ite_f hm hb28
    refine tn <| cfv hF rfl hb28 <| wk <| ?_
    refine tn <| th <| ?_
    replace hm := bind_some hm
    obtain ⟨x29, h30, hm⟩ := hm
    have ho31 := Rd.oaI (hS.rdO (.tail _ (.head _))) hv14 (by decide) h30
    replace hm := bind_some hm
    obtain ⟨l32, h33, hm⟩ := hm
    refine rg <| ?_
    refine ls <| q1 hF rfl (e_move hF rfl) fun a hF => ?_
    refine ls <| q1 hF rfl (e_nilp hF rfl) fun a hF => ?_
    refine ls <| q1 hF rfl (e_fa hF fa71_2 rfl) fun a hF => ?_
    refine ls <| q1 hF rfl (e_ld hF Try.isAgg26 rfl ((St.ld hS).cellB (.head _) rfl)) fun a hF => ?_
    refine ls <| q1 hF rfl (e_move hF rfl) fun a hF => ?_
    refine ls <| q1 hF rfl (e_move hF rfl) fun a hF => ?_
    refine ls <| q1 hF rfl (e_iaI hF Try.runUnderlying26 Try.sizeOf3 rfl rfl h30 ho31) fun a hF => ?_
    have hn36 := setI_len h33
    refine ls <| s_slJ (α := Int) hF hS Try.sizeOf3 rfl rfl rfl rfl hv14 rfl h33 (.tail _ (.head _)) fun vs34 w hv35 hU => ?_
    replace hS := hU _ (.tail .head)
    clear hU
    replace hS := St.eqL hS (A' := blk b2 (.cells [.slice oa3 p1.Of.length cap4, .slice oa7 p1.Firsts.length cap8, .slice oa11 l32.length cap12, .slice oa16 p1.K.length cap17, .slice oa21 p1.W.length cap22].toArray 71 (0, 0))) .head (by rw [hn36])
    refine re <| ?_
    refine tn <| th <| th <| ?_
    refine rg <| ?_
    refine ls <| q1 hF rfl (e_move hF rfl) fun a hF => ?_
    refine ls <| q1 hF rfl (e_move hF rfl) fun a hF => ?_
    refine ls <| q1 hF rfl (e_nilp hF rfl) fun a hF => ?_
    refine ls <| q1 hF rfl (e_fa hF fa71_0 rfl) fun a hF => ?_
    refine ls <| q1 hF rfl (e_ld hF Try.isAgg26 rfl ((St.ld hS).cellB (.head _) rfl)) fun a hF => ?_
    refine ls <| q1 hF rfl (e_lenL (α := Int) (xs := p1.Of) hF Try.runUnderlying26 rfl) fun a hF => ?_
    refine ls <| q1 hF rfl (e_lss hF rfl rfl) fun a hF => ?_
    refine re <| ?_
    refine tn <| midK (fun a w => ∃ (vA1 : (List leadlineref11_Put)) (oaA2 : Option Addr) (capA3 : Nat) (vsA4 : List Value), (leadlineref11_Mem_Write__m0_71_ffooo_j1 p1 l32) vA1 = some r ∧ Fr 51 [(0, .pointer (some ⟨b2, 0, none⟩))] a ∧ St w0 (sepA [blk b2 (.cells [.slice oa3 p1.Of.length cap4, .slice oa7 p1.Firsts.length cap8, .slice oa11 p1.L.length cap12, .slice oa16 p1.K.length cap17, .slice oa21 p1.W.length cap22].toArray 71 (0, 0)), sla 3 1 oa11 p1.L.length cap12 vs13, sla 3 1 oa16 p1.K.length cap17 vs18, sla 73 3 oa21 p1.W.length cap22 vs23]).fp [H] [sla 3 1 oa11 l32.length cap12 vs34, sla 3 1 oa16 p1.K.length cap17 vs18, sla 73 3 oaA2 vA1.length capA3 vsA4, blk b2 (.cells [.slice oa3 p1.Of.length cap4, .slice oa7 p1.Firsts.length cap8, .slice oa11 l32.length cap12, .slice oa16 p1.K.length cap17, .slice oaA2 vA1.length capA3].toArray 71 (0, 0))] w ∧ Rows H vsA4 vA1) ?_ ?_
    ·
      rcases bdich (decide (p26 < (p1.Of.length : Int))) with hb37 | hb37
      ·
        replace hm := itp_t hm hb37
        refine ctv hF rfl hb37 <| ?_
        replace hm := bind_some hm
        obtain ⟨x38, h39, hm⟩ := hm
        obtain ⟨c40, g41, hl42⟩ := SR.get hr6 h39
        obtain rfl : c40 = [.int .i64 x38] := g41
        replace hm := bind_some hm
        obtain ⟨l46, h47, hm⟩ := hm
        refine rdL (sub_cons (.tail _ (.head _)) (sub_cons (.tail _ (.tail _ (.head _))) sub_nil)) 20 hS wide fun w hS => ?_
        refine d1 (i := 0) rfl (by kernel_rfl) (by kernel_rfl) (St.ldsX hS (fun _ _ h => h) (sub_cons (.tail _ (.head _)) (sub_cons (.tail _ (.tail _ (.head _))) sub_nil))) hF rfl (fun _ _ _ h => h) (fun w hl => (e_move hF rfl)) fun a hF => ?_
        refine d1 (i := 1) rfl (by kernel_rfl) (by kernel_rfl) (St.ldsX hS (fun _ _ h => h) (sub_cons (.tail _ (.head _)) (sub_cons (.tail _ (.tail _ (.head _))) sub_nil))) hF rfl (fun _ _ _ h => h) (fun w hl => (e_move hF rfl)) fun a hF => ?_
        refine d1 (i := 2) rfl (by kernel_rfl) (by kernel_rfl) (St.ldsX hS (fun _ _ h => h) (sub_cons (.tail _ (.head _)) (sub_cons (.tail _ (.tail _ (.head _))) sub_nil))) hF rfl (fun _ _ _ h => h) (fun w hl => (e_nilp hF rfl)) fun a hF => ?_
        refine d1 (i := 3) rfl (by kernel_rfl) (by kernel_rfl) (St.ldsX hS (fun _ _ h => h) (sub_cons (.tail _ (.head _)) (sub_cons (.tail _ (.tail _ (.head _))) sub_nil))) hF rfl (fun _ _ _ h => h) (fun w hl => (e_fa hF fa71_4 rfl)) fun a hF => ?_
        refine d1 (i := 5) rfl (by kernel_rfl) (by kernel_rfl) (St.ldsX hS (fun _ _ h => h) (sub_cons (.tail _ (.head _)) (sub_cons (.tail _ (.tail _ (.head _))) sub_nil))) hF rfl (fun _ _ _ h => h) (fun w hl => (e_move hF rfl)) fun a hF => ?_
        refine d1 (i := 6) rfl (by kernel_rfl) (by kernel_rfl) (St.ldsX hS (fun _ _ h => h) (sub_cons (.tail _ (.head _)) (sub_cons (.tail _ (.tail _ (.head _))) sub_nil))) hF rfl (fun _ _ _ h => h) (fun w hl => (e_nilp hF rfl)) fun a hF => ?_
        refine d1 (i := 7) rfl (by kernel_rfl) (by kernel_rfl) (St.ldsX hS (fun _ _ h => h) (sub_cons (.tail _ (.head _)) (sub_cons (.tail _ (.tail _ (.head _))) sub_nil))) hF rfl (fun _ _ _ h => h) (fun w hl => (e_fa hF fa71_0 rfl)) fun a hF => ?_
        refine d1 (i := 9) rfl (by kernel_rfl) (by kernel_rfl) (St.ldsX hS (fun _ _ h => h) (sub_cons (.tail _ (.head _)) (sub_cons (.tail _ (.tail _ (.head _))) sub_nil))) hF rfl (fun _ _ _ h => h) (fun w hl => (e_move hF rfl)) fun a hF => ?_
        refine d1 (i := 12) rfl (by kernel_rfl) (by kernel_rfl) (St.ldsX hS (fun _ _ h => h) (sub_cons (.tail _ (.head _)) (sub_cons (.tail _ (.tail _ (.head _))) sub_nil))) hF rfl (fun _ _ _ h => h) (fun w hl => (e_move hF rfl)) fun a hF => ?_
        refine d1 (i := 13) rfl (by kernel_rfl) (by kernel_rfl) (St.ldsX hS (fun _ _ h => h) (sub_cons (.tail _ (.head _)) (sub_cons (.tail _ (.tail _ (.head _))) sub_nil))) hF rfl (fun _ _ _ h => h) (fun w hl => (e_move hF rfl)) fun a hF => ?_
        refine da2 (i := 4) (j := 8) (by kernel_rfl) ?_ ?_
        ·
          refine di (i := 4) rfl <| q1 hF rfl (e_ld hF Try.isAgg69 rfl ((St.ld hS).cellB (.head _) rfl)) fun a hF => ?_
          refine ⟨fun _ => (St.ldsX hS (fun _ _ h => h) (sub_cons (.tail _ (.head _)) (sub_cons (.tail _ (.tail _ (.head _))) sub_nil))), ?_⟩
          refine da1 (i := 8) (by kernel_rfl) ?_
          refine di (i := 8) rfl <| q1 hF rfl (e_ld hF Try.isAgg26 rfl ((St.ld hS).cellB (.head _) rfl)) fun a hF => ?_
          refine ⟨fun _ => (St.ldsX hS (fun _ _ h => h) (sub_cons (.tail _ (.head _)) (sub_cons (.tail _ (.tail _ (.head _))) sub_nil))), ?_⟩
          refine d1 (i := 10) rfl (by kernel_rfl) (by kernel_rfl) (St.ldsX hS (fun _ _ h => h) (sub_cons (.tail _ (.head _)) (sub_cons (.tail _ (.tail _ (.head _))) sub_nil))) hF rfl (fun _ _ _ h => h) (fun w hl => (e_iaI hF Try.runUnderlying26 Try.sizeOf3 rfl rfl h39 (SR.oaI hr6 (by decide) h39))) fun a hF => ?_
          refine d1 (i := 11) rfl (by kernel_rfl) (by kernel_rfl) (St.ldsX hS (fun _ _ h => h) (sub_cons (.tail _ (.head _)) (sub_cons (.tail _ (.tail _ (.head _))) sub_nil))) hF rfl (fun _ _ _ h => h) (fun w hl => (e_ld hF Try.isAgg3 rfl (PH.le.cell (Lds.le hl) (hl42 0 _ rfl)))) fun a hF => ?_
          refine d1 (i := 14) rfl (by kernel_rfl) (by kernel_rfl) (St.ldsX hS (fun _ _ h => h) (sub_cons (.tail _ (.head _)) (sub_cons (.tail _ (.tail _ (.head _))) sub_nil))) hF rfl (fun _ _ _ h => h) (fun w hl => (e_bldK [.int .i64 x38, .int .i64 p26, .int .i64 p27] [.int .i64 x38, .int .i64 p26, .int .i64 p27] hF ⟨rfl, rfl, rfl, trivial⟩ (fun w => by kernel_rfl))) fun a hF => ?_
          refine da1 (i := 15) (by kernel_rfl) ?_
          refine di (i := 15) rfl <| a_bsl (e := 73) (sz := 3) [.int .i64 x38, .int .i64 p26, .int .i64 p27] hF rfl hS rfl rfl rfl (fun w => by kernel_rfl) fun b44 w a hS hF => ?_
          have hv43 : Rows (α := leadlineref11_Put) H [.int .i64 x38, .int .i64 p26, .int .i64 p27] ([(leadlineref11_Put.mk x38 p26 p27)] : List leadlineref11_Put) := (.cons (c := [.int .i64 x38, .int .i64 p26, .int .i64 p27]) ⟨_, _, rfl, rfl, ⟨_, _, rfl, rfl, rfl⟩⟩ .nil)
          refine ⟨fun _ => (St.ldsX hS (fun _ _ h => h) (sub_cons (.tail _ (.tail _ (.head _))) (sub_cons (.tail _ (.tail _ (.tail _ (.head _)))) sub_nil))), ?_⟩
          refine da1 (i := 16) (by kernel_rfl) ?_
          refine di (i := 16) rfl <| m_app (α := leadlineref11_Put) (xs := p1.W) (ys := ([(leadlineref11_Put.mk x38 p26 p27)] : List leadlineref11_Put)) hF rfl hS Try.underlying69 info73 rfl (by decide) rfl rfl rfl (.tail _ (.tail _ (.tail _ (.tail _ (.head _))))) hv24 (hS.rdO (.head _)) hv43 h47 fun oa48 cap49 vs50 w a hv51 hU hF => ?_
          replace hS := hU _ (.tail (.tail (.tail (.tail .head))))
          clear hU
          replace hS := hS.drop .head
          refine ⟨fun _ => (St.ldsX hS (fun _ _ h => h) (sub_cons (.tail _ (.head _)) (sub_cons (.tail _ (.tail _ (.head _))) sub_nil))), ?_⟩
          refine d1 (i := 17) rfl (by kernel_rfl) (by kernel_rfl) (St.ldsX hS (fun _ _ h => h) (sub_cons (.tail _ (.head _)) (sub_cons (.tail _ (.tail _ (.head _))) sub_nil))) hF rfl (fun _ _ _ h => h) (fun w hl => (e_nilp hF rfl)) fun a hF => ?_
          refine d1 (i := 18) rfl (by kernel_rfl) (by kernel_rfl) (St.ldsX hS (fun _ _ h => h) (sub_cons (.tail _ (.head _)) (sub_cons (.tail _ (.tail _ (.head _))) sub_nil))) hF rfl (fun _ _ _ h => h) (fun w hl => (e_fa hF fa71_4 rfl)) fun a hF => ?_
          refine da1 (i := 19) (by kernel_rfl) ?_
          refine di (i := 19) rfl <| s_blk hF hS Try.sizeOf69 rfl rfl rfl rfl .head (.succ (.succ (.succ (.succ .zero)))) fun w hS => ?_
          refine ⟨fun _ => (St.ldsX hS (fun _ _ h => h) (sub_cons (.tail _ (.head _)) (sub_cons (.tail _ (.tail _ (.head _))) sub_nil))), ?_⟩
          refine de (by kernel_rfl) <| ?_
          refine tn <| ?_
          replace hS := hS.pickL (.cons (.tail .head) (.cons (.tail .head) (.cons (.tail .head) (.cons .head .nil))))
          exact ⟨l46, oa48, cap49, vs50, hm, hF.has ⟨rfl, trivial⟩, hS, hv51⟩
        ·
          refine di (i := 8) rfl <| q1 hF rfl (e_ld hF Try.isAgg26 rfl ((St.ld hS).cellB (.head _) rfl)) fun a hF => ?_
          refine ⟨fun _ => (St.ldsX hS (fun _ _ h => h) (sub_cons (.tail _ (.head _)) (sub_cons (.tail _ (.tail _ (.head _))) sub_nil))), ?_⟩
          refine d1 (i := 10) rfl (by kernel_rfl) (by kernel_rfl) (St.ldsX hS (fun _ _ h => h) (sub_cons (.tail _ (.head _)) (sub_cons (.tail _ (.tail _ (.head _))) sub_nil))) hF rfl (fun _ _ _ h => h) (fun w hl => (e_iaI hF Try.runUnderlying26 Try.sizeOf3 rfl rfl h39 (SR.oaI hr6 (by decide) h39))) fun a hF => ?_
          refine d1 (i := 11) rfl (by kernel_rfl) (by kernel_rfl) (St.ldsX hS (fun _ _ h => h) (sub_cons (.tail _ (.head _)) (sub_cons (.tail _ (.tail _ (.head _))) sub_nil))) hF rfl (fun _ _ _ h => h) (fun w hl => (e_ld hF Try.isAgg3 rfl (PH.le.cell (Lds.le hl) (hl42 0 _ rfl)))) fun a hF => ?_
          refine d1 (i := 14) rfl (by kernel_rfl) (by kernel_rfl) (St.ldsX hS (fun _ _ h => h) (sub_cons (.tail _ (.head _)) (sub_cons (.tail _ (.tail _ (.head _))) sub_nil))) hF rfl (fun _ _ _ h => h) (fun w hl => (e_bldK [.int .i64 x38, .int .i64 p26, .int .i64 p27] [.int .i64 x38, .int .i64 p26, .int .i64 p27] hF ⟨rfl, rfl, rfl, trivial⟩ (fun w => by kernel_rfl))) fun a hF => ?_
          refine da2 (i := 4) (j := 15) (by kernel_rfl) ?_ ?_
          ·
            refine di (i := 4) rfl <| q1 hF rfl (e_ld hF Try.isAgg69 rfl ((St.ld hS).cellB (.head _) rfl)) fun a hF => ?_
            refine ⟨fun _ => (St.ldsX hS (fun _ _ h => h) (sub_cons (.tail _ (.head _)) (sub_cons (.tail _ (.tail _ (.head _))) sub_nil))), ?_⟩
            refine da1 (i := 15) (by kernel_rfl) ?_
            refine di (i := 15) rfl <| a_bsl (e := 73) (sz := 3) [.int .i64 x38, .int .i64 p26, .int .i64 p27] hF rfl hS rfl rfl rfl (fun w => by kernel_rfl) fun b44 w a hS hF => ?_
            have hv43 : Rows (α := leadlineref11_Put) H [.int .i64 x38, .int .i64 p26, .int .i64 p27] ([(leadlineref11_Put.mk x38 p26 p27)] : List leadlineref11_Put) := (.cons (c := [.int .i64 x38, .int .i64 p26, .int .i64 p27]) ⟨_, _, rfl, rfl, ⟨_, _, rfl, rfl, rfl⟩⟩ .nil)
            refine ⟨fun _ => (St.ldsX hS (fun _ _ h => h) (sub_cons (.tail _ (.tail _ (.head _))) (sub_cons (.tail _ (.tail _ (.tail _ (.head _)))) sub_nil))), ?_⟩
            refine da1 (i := 16) (by kernel_rfl) ?_
            refine di (i := 16) rfl <| m_app (α := leadlineref11_Put) (xs := p1.W) (ys := ([(leadlineref11_Put.mk x38 p26 p27)] : List leadlineref11_Put)) hF rfl hS Try.underlying69 info73 rfl (by decide) rfl rfl rfl (.tail _ (.tail _ (.tail _ (.tail _ (.head _))))) hv24 (hS.rdO (.head _)) hv43 h47 fun oa48 cap49 vs50 w a hv51 hU hF => ?_
            replace hS := hU _ (.tail (.tail (.tail (.tail .head))))
            clear hU
            replace hS := hS.drop .head
            refine ⟨fun _ => (St.ldsX hS (fun _ _ h => h) (sub_cons (.tail _ (.head _)) (sub_cons (.tail _ (.tail _ (.head _))) sub_nil))), ?_⟩
            refine d1 (i := 17) rfl (by kernel_rfl) (by kernel_rfl) (St.ldsX hS (fun _ _ h => h) (sub_cons (.tail _ (.head _)) (sub_cons (.tail _ (.tail _ (.head _))) sub_nil))) hF rfl (fun _ _ _ h => h) (fun w hl => (e_nilp hF rfl)) fun a hF => ?_
            refine d1 (i := 18) rfl (by kernel_rfl) (by kernel_rfl) (St.ldsX hS (fun _ _ h => h) (sub_cons (.tail _ (.head _)) (sub_cons (.tail _ (.tail _ (.head _))) sub_nil))) hF rfl (fun _ _ _ h => h) (fun w hl => (e_fa hF fa71_4 rfl)) fun a hF => ?_
            refine da1 (i := 19) (by kernel_rfl) ?_
            refine di (i := 19) rfl <| s_blk hF hS Try.sizeOf69 rfl rfl rfl rfl .head (.succ (.succ (.succ (.succ .zero)))) fun w hS => ?_
            refine ⟨fun _ => (St.ldsX hS (fun _ _ h => h) (sub_cons (.tail _ (.head _)) (sub_cons (.tail _ (.tail _ (.head _))) sub_nil))), ?_⟩
            refine de (by kernel_rfl) <| ?_
            refine tn <| ?_
            replace hS := hS.pickL (.cons (.tail .head) (.cons (.tail .head) (.cons (.tail .head) (.cons .head .nil))))
            exact ⟨l46, oa48, cap49, vs50, hm, hF.has ⟨rfl, trivial⟩, hS, hv51⟩
          ·
            refine di (i := 15) rfl <| a_bsl (e := 73) (sz := 3) [.int .i64 x38, .int .i64 p26, .int .i64 p27] hF rfl hS rfl rfl rfl (fun w => by kernel_rfl) fun b44 w a hS hF => ?_
            have hv43 : Rows (α := leadlineref11_Put) H [.int .i64 x38, .int .i64 p26, .int .i64 p27] ([(leadlineref11_Put.mk x38 p26 p27)] : List leadlineref11_Put) := (.cons (c := [.int .i64 x38, .int .i64 p26, .int .i64 p27]) ⟨_, _, rfl, rfl, ⟨_, _, rfl, rfl, rfl⟩⟩ .nil)
            refine ⟨fun _ => (St.ldsX hS (fun _ _ h => h) (sub_cons (.tail _ (.tail _ (.head _))) (sub_cons (.tail _ (.tail _ (.tail _ (.head _)))) sub_nil))), ?_⟩
            refine da1 (i := 4) (by kernel_rfl) ?_
            refine di (i := 4) rfl <| q1 hF rfl (e_ld hF Try.isAgg69 rfl ((St.ld hS).cellB (.tail _ (.head _)) rfl)) fun a hF => ?_
            refine ⟨fun _ => (St.ldsX hS (fun _ _ h => h) (sub_cons (.tail _ (.tail _ (.head _))) (sub_cons (.tail _ (.tail _ (.tail _ (.head _)))) sub_nil))), ?_⟩
            refine da1 (i := 16) (by kernel_rfl) ?_
            refine di (i := 16) rfl <| m_app (α := leadlineref11_Put) (xs := p1.W) (ys := ([(leadlineref11_Put.mk x38 p26 p27)] : List leadlineref11_Put)) hF rfl hS Try.underlying69 info73 rfl (by decide) rfl rfl rfl (.tail _ (.tail _ (.tail _ (.tail _ (.head _))))) hv24 (hS.rdO (.head _)) hv43 h47 fun oa48 cap49 vs50 w a hv51 hU hF => ?_
            replace hS := hU _ (.tail (.tail (.tail (.tail .head))))
            clear hU
            replace hS := hS.drop .head
            refine ⟨fun _ => (St.ldsX hS (fun _ _ h => h) (sub_cons (.tail _ (.head _)) (sub_cons (.tail _ (.tail _ (.head _))) sub_nil))), ?_⟩
            refine d1 (i := 17) rfl (by kernel_rfl) (by kernel_rfl) (St.ldsX hS (fun _ _ h => h) (sub_cons (.tail _ (.head _)) (sub_cons (.tail _ (.tail _ (.head _))) sub_nil))) hF rfl (fun _ _ _ h => h) (fun w hl => (e_nilp hF rfl)) fun a hF => ?_
            refine d1 (i := 18) rfl (by kernel_rfl) (by kernel_rfl) (St.ldsX hS (fun _ _ h => h) (sub_cons (.tail _ (.head _)) (sub_cons (.tail _ (.tail _ (.head _))) sub_nil))) hF rfl (fun _ _ _ h => h) (fun w hl => (e_fa hF fa71_4 rfl)) fun a hF => ?_
            refine da1 (i := 19) (by kernel_rfl) ?_
            refine di (i := 19) rfl <| s_blk hF hS Try.sizeOf69 rfl rfl rfl rfl .head (.succ (.succ (.succ (.succ .zero)))) fun w hS => ?_
            refine ⟨fun _ => (St.ldsX hS (fun _ _ h => h) (sub_cons (.tail _ (.head _)) (sub_cons (.tail _ (.tail _ (.head _))) sub_nil))), ?_⟩
            refine de (by kernel_rfl) <| ?_
            refine tn <| ?_
            replace hS := hS.pickL (.cons (.tail .head) (.cons (.tail .head) (.cons (.tail .head) (.cons .head .nil))))
            exact ⟨l46, oa48, cap49, vs50, hm, hF.has ⟨rfl, trivial⟩, hS, hv51⟩
      ·
        replace hm := itp_f hm hb37
        refine cfv hF rfl hb37 <| wk <| ?_
        refine tn <| ?_
        replace hS := hS.pickL (.cons (.tail .head) (.cons (.tail .head) (.cons (.tail .head) (.cons .head .nil))))
        exact ⟨p1.W, oa21, cap22, vs23, hm, hF.has ⟨rfl, trivial⟩, hS, hv24⟩
    clear hm hF hS
    rintro a w ⟨vA1, oaA2, capA3, vsA4, hm, hF, hS, hvA5⟩
    unfold leadlineref11_Mem_Write__m0_71_ffooo_j1 at hm
    refine th <| ?_
    refine rg <| ?_
    refine ls <| q1 hF rfl (e_asg hF rfl) fun a hF => ?_
    refine re <| ?_
    refine tn <| ?_
    refine wr <| ?_
    obtain rfl := Option.some.inj hm
    exact r1 hF Try.results22 rfl ⟨oa3, cap4, oa7, cap8, oa11, cap12, vs34, oa16, cap17, vs18, oaA2, capA3, vsA4, rfl, hc5, hr6, hc9, hr10, (fun _ => Rows.ind hv35), (fun _ => Rows.ind hv19), (fun _ => Rows.ind hvA5), (hS.pickL (.cons (.tail (.tail (.tail .head))) (.cons .head (.cons .head (.cons .head .nil))))).endMut⟩
end Go.LM.LINES
