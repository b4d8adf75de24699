/- Walks, lifted by program. No condition beyond the theorems' own premises. -/
import Derived.Test.YtgdkaddhhpgeiaaGreatDoorLBQ1
namespace Go.LM.LB
open Go Go.LL Go.MD Go.LM Go.Proofs Go.MD.LB Go.Proofs.Tryz
set_option maxRecDepth 100000
theorem Zy_c {N : Nat} {w0 : World} {H : PH} (hH : H.le w0) {oa2 : Option Addr} {cap3 : Nat} {p1 : (List api_Node)} (hc4 : p1.length ≤ cap3) (hr5 : SR H oa2 p1) {p6 : Int} {r : (List Int)} (hm : Zy N p1 p6 = some r) : Tot Tryz.prog 157 #[.slice oa2 p1.length cap3, .int .i64 p6] w0 (fun v w' => ∃ (oa0 : Option Addr) (cap0 : Nat) (vs0 : List Value), v = .slice oa0 r.length cap0 ∧ (∀ h, Rows h vs0 r) ∧ Fresh w0 (sla 3 1 oa0 r.length cap0 vs0) w') := by
 unfold Zy at hm
 refine fn0 func157 rfl ntmps157 rfl rfl fun a o => ?_
 have u : St w0 Nil [H] [] w0 := start1 hH
 refine th <| rg <| qa o rfl fun a o => ?_
 refine re <| tn <| th <| rg <| qa o rfl fun a o => ?_
 refine re <| tn <| th <| rg <| qm o rfl fun a o => ?_
 refine qv o (e_add o rfl rfl) fun a o => ?_
 refine qa o rfl fun a o => ?_
 refine re <| tn <| th <| th <| ?_
 obtain ⟨xz7, h8, hm⟩ := bs hm
 obtain ⟨cz9, g10, hl11⟩ := SR.get hr5 h8
 obtain rfl := api_Node_open g10
 obtain ⟨r12, h13, hm⟩ := bs hm
 refine rg <| qm o rfl fun a o => ?_
 refine qm o rfl fun a o => ?_
 refine qv o (e_iaI o runUnderlying49 sizeOf90 rfl rfl h8 (SR.oaI hr5 (by decide) h8)) fun a o => ?_
 refine qv o (e_fa o fa90_0 rfl) fun a o => ?_
 refine qv o (e_ld o isAgg3 rfl (PH.le.cell (Lds.le (St.ld u)) (hl11 0 _ rfl))) fun a o => ?_
 refine ls <| c1 o rfl call156 (Zw_c (hp_le _) h13) ⟨rfl, trivial⟩ (fun v w a hR o => ?_)
 obtain ⟨rfl, hk⟩ := hR
 replace u := u.pass hk
 refine qm o rfl fun a o => ?_
 refine re <| tn <| midK (fun a w => ∃ (vA1 : (List Int)) (oaA2 : Option Addr) (capA3 : Nat) (vsA4 : List Value), Zz vA1 = some r ∧ Fr 26 [(5, .slice oaA2 vA1.length capA3)] a ∧ St w0 Nil [H] [sla 3 1 oaA2 vA1.length capA3 vsA4] w ∧ Rows H vsA4 vA1) ?_ ?_
 replace u := St.nilS u 3 1
 refine wb <| lp (α := Nat × (List Int) × Int × Int) (fun (gh : Nat × (List Int) × Int × Int) a w => match gh with | (nn2, vB1, vB7, vB8) => ∃ (oaB2 : Option Addr) (capB3 : Nat) (vsB4 : List Value), (Z10 N Zz p1 r12) nn2 vB1 vB7 vB8 = some r ∧ Fr 26 [(0, .slice oa2 p1.length cap3), (5, .slice oaB2 vB1.length capB3), (6, .int .i64 vB7), (14, .int .i64 r12), (15, .int .i64 vB8)] a ∧ St w0 Nil [H] [sla 3 1 oaB2 vB1.length capB3 vsB4] w ∧ Rows H vsB4 vB1) (fun gh => gh.1) (N, [], (IntKind.i64.wrap (p6 + 1)), 0) ⟨none, 0, [], hm, o.hs, u, .nil⟩ ?_
 rintro ⟨nn2, vB1, vB7, vB8⟩ a w ⟨oaB2, capB3, vsB4, hm, o, u, hvB5⟩
 obtain _ | nn2 := nn2
 simp [Z10] at hm
 rw [Z10] at hm
 refine th <| rg <| qv o (e_lss o rfl rfl) fun a o => ?_
 refine re <| ?_
 rcases bdich (decide (vB8 < r12)) with hb14 | hb14
 replace hm := itp_t hm hb14
 refine tn <| th <| ctv o rfl hb14 <| wk <| ?_
 refine tn <| th <| wb <| th <| ?_
 obtain ⟨l18, h19, hm⟩ := bs hm
 refine rg <| qm o rfl fun a o => ?_
 refine qm o rfl fun a o => ?_
 refine ls <| a_bsl (e := 3) (sz := 1) [.int .i64 vB7] o rfl u rfl rfl rfl (fun w => by kernel_rfl) fun b16 w a u o => ?_
 have hv15 : Rows (α := Int) H [.int .i64 vB7] ([vB7] : List Int) := (.cons (c := [.int .i64 vB7]) rfl .nil)
 refine ls <| m_app (α := Int) (xs := vB1) (ys := ([vB7] : List Int)) o rfl u underlying42 info3 rfl (by decide) rfl rfl rfl t1 hvB5 (u.rdO (.head _)) hv15 h19 fun oa20 cap21 vs22 w a hv23 hU o => ?_
 replace u := hU _ (.tail .head)
 replace u := u.drop .head
 refine qa o rfl fun a o => ?_
 refine re <| tn <| ?_
 obtain ⟨r24, h25, hm⟩ := bs hm
 refine rg <| qm o rfl fun a o => ?_
 refine qm o rfl fun a o => ?_
 refine ls <| c1 o rfl call127 (Zm_c (hp_le _) hc4 (St.srH u hr5) h25) ⟨rfl, rfl, trivial⟩ (fun v w a hR o => ?_)
 obtain ⟨rfl, hk⟩ := hR
 replace u := u.pass hk
 refine qa o rfl fun a o => ?_
 refine re <| bn <| tn <| rg <| qv o (e_add o rfl rfl) fun a o => ?_
 refine qm o rfl fun a o => ?_
 refine re <| tn <| ?_
 exact ⟨(nn2, l18, r24, (IntKind.i64.wrap (vB8 + 1))), ⟨oa20, cap21, vs22, hm, o.hs, u, hv23⟩, Nat.lt_succ_self _⟩
 replace hm := itp_f hm hb14
 refine tn <| th <| cfv o rfl hb14 <| ?_
 refine we <| tx <| tx <| bx <| tn <| ?_
 exact ⟨vB1, oaB2, capB3, vsB4, hm, o.has ⟨rfl, trivial⟩, u, hvB5⟩
 rintro a w ⟨vA1, oaA2, capA3, vsA4, hm, o, u, hvA5⟩
 unfold Zz at hm
 refine th <| rg <| qm o rfl fun a o => ?_
 refine qa o rfl fun a o => ?_
 refine re <| tn <| wr <| ?_
 obtain rfl := si hm
 exact r1 o results157 rfl ⟨_, _, _, rfl, (fun _ => Rows.ind hvA5), u.endFresh (.head _)⟩
theorem Zt_c : ∀ (N : Nat) {w0 : World} {H : PH} (_ : H.le w0) {oa2 : Option Addr} {cap3 : Nat} {p1 : (List api_Node)} (_ : p1.length ≤ cap3) (_ : SR H oa2 p1) {p6 : Int} {r : Int} (_ : Zt N p1 p6 = some r), Tot Tryz.prog 128 #[.slice oa2 p1.length cap3, .int .i64 p6] w0 (fun v w' => v = .int .i64 r ∧ Keep Nil w0 w') := by
 intro N
 induction N with
  | zero => intros; rename_i hm; simp [Zt] at hm
  | succ N ih =>
 intro w0 H hH oa2 cap3 p1 hc4 hr5 p6 r hm
 rw [Zt] at hm
 refine fn0 func128 rfl ntmps128 rfl rfl fun a o => ?_
 have u : St w0 Nil [H] [] w0 := start1 hH
 refine th <| rg <| qa o rfl fun a o => ?_
 refine re <| tn <| th <| rg <| qa o rfl fun a o => ?_
 refine re <| tn <| th <| th <| ?_
 obtain ⟨rz7, h8, hm⟩ := bs hm
 refine rg <| qm o rfl fun a o => ?_
 refine qm o rfl fun a o => ?_
 refine ls <| c1 o rfl call157 (Zy_c (hp_le _) hc4 (St.srH u hr5) h8) ⟨rfl, rfl, trivial⟩ (fun v w a hR o => ?_)
 obtain ⟨oa9, cap10, vs11, rfl, hv12, hk⟩ := hR
 replace u := u.fresh hk
 replace hv12 := hv12 H
 refine qv o (e_lenL (α := Int) (xs := rz7) o runUnderlying42 rfl) fun a o => ?_
 refine qm o rfl fun a o => ?_
 refine re <| tn <| midK (fun a w => ∃ (vA1 : Int), Zu vA1 = some r ∧ Fr 24 [(5, .int .i64 vA1)] a ∧ St w0 Nil [H] [] w) ?_ ?_
 refine wb <| lp (α := Nat × Int × Int) (fun (gh : Nat × Int × Int) a w => match gh with | (nn2, vB1, vB2) => (Zv (Zt N) N Zu p1 rz7) nn2 vB1 vB2 = some r ∧ Fr 24 [(0, .slice oa2 p1.length cap3), (5, .int .i64 vB1), (10, .slice oa9 rz7.length cap10), (11, .int .i64 (rz7.length : Int)), (12, .int .i64 vB2)] a ∧ St w0 Nil [H] [sla 3 1 oa9 rz7.length cap10 vs11] w) (fun gh => gh.1) (N, 0, 0) ⟨hm, o.hs, u⟩ ?_
 rintro ⟨nn2, vB1, vB2⟩ a w ⟨hm, o, u⟩
 obtain _ | nn2 := nn2
 simp [Zv] at hm
 rw [Zv] at hm
 refine th <| rg <| qv o (e_lss o rfl rfl) fun a o => ?_
 refine re <| ?_
 rcases bdich (decide (vB2 < (rz7.length : Int))) with hb14 | hb14
 replace hm := itp_t hm hb14
 refine tn <| th <| ctv o rfl hb14 <| wk <| ?_
 refine tn <| th <| wb <| th <| ?_
 obtain ⟨x15, h16, hm⟩ := bs hm
 have ho17 := Rd.oaI (u.rdO (.head _)) hv12 (by decide) h16
 obtain ⟨c18, g19, hl20⟩ := Rows.getI hv12 h16
 obtain rfl : c18 = [.int .i64 x15] := g19
 refine rg <| qv o (e_iaI o Tryz.runUnderlying42 Tryz.sizeOf3 rfl rfl h16 ho17) fun a o => ?_
 refine qv o (e_ld o isAgg3 rfl ((St.ld u).elO (.head _) (hl20 0 _ rfl))) fun a o => ?_
 refine qa o rfl fun a o => ?_
 refine re <| tn <| ?_
 obtain ⟨r21, h22, hm⟩ := bs hm
 refine rg <| qm o rfl fun a o => ?_
 iterate 2 refine qm o rfl fun a o => ?_
 refine ls <| c1 o rfl call128 (ih (hp_le _) hc4 (St.srH u hr5) h22) ⟨rfl, rfl, trivial⟩ (fun v w a hR o => ?_)
 obtain ⟨rfl, hk⟩ := hR
 replace u := u.pass hk
 refine qv o (e_max o rfl rfl) fun a o => ?_
 refine qa o rfl fun a o => ?_
 refine re <| bn <| tn <| rg <| qv o (e_add o rfl rfl) fun a o => ?_
 refine qm o rfl fun a o => ?_
 refine re <| tn <| ?_
 exact ⟨(nn2, (max vB1 r21), (IntKind.i64.wrap (vB2 + 1))), ⟨hm, o.hs, u⟩, Nat.lt_succ_self _⟩
 replace hm := itp_f hm hb14
 refine tn <| th <| cfv o rfl hb14 <| ?_
 refine we <| tx <| tx <| bx <| tn <| ?_
 replace u := u.pickL .nil
 exact ⟨vB1, hm, o.has ⟨rfl, trivial⟩, u⟩
 rintro a w ⟨vA1, hm, o, u⟩
 unfold Zu at hm
 refine th <| rg <| qm o rfl fun a o => ?_
 refine qv o (e_add o rfl rfl) fun a o => ?_
 refine qa o rfl fun a o => ?_
 refine re <| tn <| wr <| ?_
 obtain rfl := si hm
 exact r1 o results128 rfl ⟨rfl, u.keep⟩
theorem Zq_c {N : Nat} {w0 : World} {H : PH} (hH : H.le w0) (hT : Tab H) {oa2 : Option Addr} {cap3 : Nat} {p1 : (List api_Node)} (hc4 : p1.length ≤ cap3) (hr5 : SR H oa2 p1) {r : Bool} (hm : Zq N p1 = some r) : Tot Tryz.prog 87 #[.slice oa2 p1.length cap3] w0 (fun v w' => v = .bool r ∧ Keep Nil w0 w') := by
 unfold Zq at hm
 refine fn0 func87 rfl ntmps87 rfl rfl fun a o => ?_
 have u : St w0 Nil [H] [] w0 := start1 hH
 refine th <| rg <| qa o rfl fun a o => ?_
 refine re <| tn <| th <| rg <| qa o rfl fun a o => ?_
 refine re <| tn <| th <| th <| midK (fun a w => ∃ (vA1 : Bool), (Zs N p1) vA1 = some r ∧ Fr 27 [(0, .slice oa2 p1.length cap3), (23, .bool vA1)] a ∧ St w0 Nil [H] [] w) ?_ ?_
 rcases bdich ((decide ((p1.length : Int) = 0)) || (decide (40 < (p1.length : Int)))) with hb6 | hb6
 replace hm := ite_t hm hb6
 refine rg <| qm o rfl fun a o => ?_
 refine qv o (e_lenL (α := api_Node) (xs := p1) o runUnderlying49 rfl) fun a o => ?_
 refine qv o (e_eql o rfl rfl) fun a o => ?_
 refine qm o rfl fun a o => ?_
 refine grp (N := 27) (Fk := [(0, .slice oa2 p1.length cap3), (3, .func (.func 124) #[] #[]), (11, .bool ((decide ((p1.length : Int) = 0)) || (decide (40 < (p1.length : Int)))))]) (b := (decide ((p1.length : Int) = 0))) 4 u ?_ ?_ ?_
 intro hb key
 replace o := Fr.as o (t := 7) rfl (congrArg Value.bool hb)
 iterate 3 refine qn o fun a o => ?_
 refine qv o (e_as (v' := .bool ((decide ((p1.length : Int) = 0)) || (decide (40 < (p1.length : Int))))) (e_pickT o rfl rfl) (by rw [hb]; rfl)) fun a o => ?_
 exact key _ _ (o.hs) u
 intro hb key
 replace o := Fr.as o (t := 7) rfl (congrArg Value.bool hb)
 refine qg o (e_move o rfl) fun a o => ?_
 refine qg o (e_lenL (α := api_Node) (xs := p1) o runUnderlying49 rfl) fun a o => ?_
 refine qg o (e_gtr o rfl rfl) fun a o => ?_
 refine qv o (e_as (v' := .bool ((decide ((p1.length : Int) = 0)) || (decide (40 < (p1.length : Int))))) (e_pickF o rfl rfl) (by rw [hb]; rfl)) fun a o => ?_
 exact key _ _ (o.hs) u
 intro a w o u
 refine qv o (e_as (e_move o rfl) (congrArg Value.bool hb6)) fun a o => ?_
 iterate 3 refine qn o fun a o => ?_
 refine qv o (e_pickT o rfl rfl) fun a o => ?_
 refine qm o rfl fun a o => ?_
 iterate 5 refine qn o fun a o => ?_
 refine qv o (e_pickT o rfl rfl) fun a o => ?_
 refine re <| tn <| ?_
 exact ⟨true, hm, o.has ⟨rfl, rfl, trivial⟩, u⟩
 replace hm := ite_f hm hb6
 obtain ⟨rz7, h8, hm⟩ := bs hm
 rcases bdich rz7 with hb9 | hb9
 replace hm := ite_t hm hb9
 refine rg <| qm o rfl fun a o => ?_
 refine qv o (e_lenL (α := api_Node) (xs := p1) o runUnderlying49 rfl) fun a o => ?_
 refine qv o (e_eql o rfl rfl) fun a o => ?_
 refine qm o rfl fun a o => ?_
 refine grp (N := 27) (Fk := [(0, .slice oa2 p1.length cap3), (3, .func (.func 124) #[] #[]), (11, .bool ((decide ((p1.length : Int) = 0)) || (decide (40 < (p1.length : Int)))))]) (b := (decide ((p1.length : Int) = 0))) 4 u ?_ ?_ ?_
 intro hb key
 replace o := Fr.as o (t := 7) rfl (congrArg Value.bool hb)
 iterate 3 refine qn o fun a o => ?_
 refine qv o (e_as (v' := .bool ((decide ((p1.length : Int) = 0)) || (decide (40 < (p1.length : Int))))) (e_pickT o rfl rfl) (by rw [hb]; rfl)) fun a o => ?_
 exact key _ _ (o.hs) u
 intro hb key
 replace o := Fr.as o (t := 7) rfl (congrArg Value.bool hb)
 refine qg o (e_move o rfl) fun a o => ?_
 refine qg o (e_lenL (α := api_Node) (xs := p1) o runUnderlying49 rfl) fun a o => ?_
 refine qg o (e_gtr o rfl rfl) fun a o => ?_
 refine qv o (e_as (v' := .bool ((decide ((p1.length : Int) = 0)) || (decide (40 < (p1.length : Int))))) (e_pickF o rfl rfl) (by rw [hb]; rfl)) fun a o => ?_
 exact key _ _ (o.hs) u
 intro a w o u
 refine qv o (e_as (e_move o rfl) (congrArg Value.bool hb6)) fun a o => ?_
 iterate 2 refine qg o (e_move o rfl) fun a o => ?_
 refine ls <| gy o rfl rfl <| c1 o rfl call126 (Z7m_c (hp_le _) (Tab.mono hT (St.up u)) hc4 (St.srH u hr5) h8) ⟨rfl, rfl, trivial⟩ (fun v w a hR o => ?_)
 obtain ⟨rfl, hk⟩ := hR
 replace u := u.pass hk
 refine qv o (e_pickF o rfl rfl) fun a o => ?_
 refine qv o (e_as (e_move o rfl) (congrArg Value.bool hb9)) fun a o => ?_
 iterate 5 refine qn o fun a o => ?_
 refine qv o (e_pickT o rfl rfl) fun a o => ?_
 refine re <| tn <| ?_
 exact ⟨true, hm, o.has ⟨rfl, rfl, trivial⟩, u⟩
 replace hm := ite_f hm hb9
 obtain ⟨r10, h11, hm⟩ := bs hm
 refine rg <| qm o rfl fun a o => ?_
 refine qv o (e_lenL (α := api_Node) (xs := p1) o runUnderlying49 rfl) fun a o => ?_
 refine qv o (e_eql o rfl rfl) fun a o => ?_
 refine qm o rfl fun a o => ?_
 refine grp (N := 27) (Fk := [(0, .slice oa2 p1.length cap3), (3, .func (.func 124) #[] #[]), (11, .bool ((decide ((p1.length : Int) = 0)) || (decide (40 < (p1.length : Int)))))]) (b := (decide ((p1.length : Int) = 0))) 4 u ?_ ?_ ?_
 intro hb key
 replace o := Fr.as o (t := 7) rfl (congrArg Value.bool hb)
 iterate 3 refine qn o fun a o => ?_
 refine qv o (e_as (v' := .bool ((decide ((p1.length : Int) = 0)) || (decide (40 < (p1.length : Int))))) (e_pickT o rfl rfl) (by rw [hb]; rfl)) fun a o => ?_
 exact key _ _ (o.hs) u
 intro hb key
 replace o := Fr.as o (t := 7) rfl (congrArg Value.bool hb)
 refine qg o (e_move o rfl) fun a o => ?_
 refine qg o (e_lenL (α := api_Node) (xs := p1) o runUnderlying49 rfl) fun a o => ?_
 refine qg o (e_gtr o rfl rfl) fun a o => ?_
 refine qv o (e_as (v' := .bool ((decide ((p1.length : Int) = 0)) || (decide (40 < (p1.length : Int))))) (e_pickF o rfl rfl) (by rw [hb]; rfl)) fun a o => ?_
 exact key _ _ (o.hs) u
 intro a w o u
 refine qv o (e_as (e_move o rfl) (congrArg Value.bool hb6)) fun a o => ?_
 iterate 2 refine qg o (e_move o rfl) fun a o => ?_
 refine ls <| gy o rfl rfl <| c1 o rfl call126 (Z7m_c (hp_le _) (Tab.mono hT (St.up u)) hc4 (St.srH u hr5) h8) ⟨rfl, rfl, trivial⟩ (fun v w a hR o => ?_)
 obtain ⟨rfl, hk⟩ := hR
 replace u := u.pass hk
 refine qv o (e_pickF o rfl rfl) fun a o => ?_
 refine qv o (e_as (e_move o rfl) (congrArg Value.bool hb9)) fun a o => ?_
 refine qg o (e_move o rfl) fun a o => ?_
 refine ls <| gy o rfl rfl <| c1 o rfl call127 (Zm_c (hp_le _) hc4 (St.srH u hr5) h11) ⟨rfl, rfl, trivial⟩ (fun v w a hR o => ?_)
 obtain ⟨rfl, hk⟩ := hR
 replace u := u.pass hk
 refine qg o (e_move o rfl) fun a o => ?_
 refine qg o (e_lenL (α := api_Node) (xs := p1) o runUnderlying49 rfl) fun a o => ?_
 refine qg o (e_neq o rfl rfl) fun a o => ?_
 refine qv o (e_pickF o rfl rfl) fun a o => ?_
 refine re <| tn <| ?_
 exact ⟨(decide (r10 ≠ (p1.length : Int))), hm, o.has ⟨rfl, rfl, trivial⟩, u⟩
 rintro a w ⟨vA1, hm, o, u⟩
 unfold Zs at hm
 rcases bdich vA1 with hb12 | hb12
 replace hm := ite_t hm hb12
 refine ctv o rfl hb12 <| th <| ?_
 refine rg <| qa o rfl fun a o => ?_
 refine re <| tn <| wr <| tr <| ?_
 obtain rfl := si hm
 exact r1 o results87 rfl ⟨rfl, u.keep⟩
 replace hm := ite_f hm hb12
 refine cfv o rfl hb12 <| wk <| ?_
 refine tn <| th <| ?_
 obtain ⟨r13, h14, hm⟩ := bs hm
 refine rg <| qm o rfl fun a o => ?_
 refine ls <| c1 o rfl call128 (Zt_c _ (hp_le _) hc4 (St.srH u hr5) h14) ⟨rfl, rfl, trivial⟩ (fun v w a hR o => ?_)
 obtain ⟨rfl, hk⟩ := hR
 replace u := u.pass hk
 refine qv o (e_leq o rfl rfl) fun a o => ?_
 refine qa o rfl fun a o => ?_
 refine re <| tn <| wr <| ?_
 obtain rfl := si hm
 exact r1 o results87 rfl ⟨rfl, u.keep⟩
theorem Z92_c {N : Nat} {w0 : World} {H : PH} (hH : H.le w0) (hT : Tab H) {p1 : Bool} {oa3 : Option Addr} {cap4 : Nat} {p2 : (List api_Node)} (hc5 : p2.length ≤ cap4) (hr6 : SR H oa3 p2) {r : Bool} (hm : Z92 N p1 p2 = some r) : Tot Tryz.prog 149 #[.bool p1, .slice oa3 p2.length cap4] w0 (fun v w' => v = .bool r ∧ Keep Nil w0 w') := by
 unfold Z92 at hm
 refine fn0 func149 rfl ntmps149 rfl rfl fun a o => ?_
 have u : St w0 Nil [H] [] w0 := start1 hH
 refine th <| rg <| qa o rfl fun a o => ?_
 refine re <| tn <| th <| ?_
 rcases bdich p1 with hb7 | hb7
 replace hm := ite_t hm hb7
 obtain ⟨rz8, h9, hm⟩ := bs hm
 refine rg <| qm o rfl fun a o => ?_
 refine qv o (e_as (e_move o rfl) (congrArg Value.bool hb7)) fun a o => ?_
 refine qg o (e_move o rfl) fun a o => ?_
 refine ls <| gy o rfl rfl <| c1 o rfl call87 (Zq_c (hp_le _) (Tab.mono hT (St.up u)) hc5 (St.srH u hr6) h9) ⟨rfl, trivial⟩ (fun v w a hR o => ?_)
 obtain ⟨rfl, hk⟩ := hR
 replace u := u.pass hk
 refine qv o (e_pickT o rfl rfl) fun a o => ?_
 refine qm o rfl fun a o => ?_
 refine grp (N := 19) (Fk := [(18, .bool (rz8 || ((!p1) && (decide ((p2.length : Int) = 0)))))]) (b := rz8) 8 u ?_ ?_ ?_
 intro hb key
 replace o := Fr.as o (t := 10) rfl (congrArg Value.bool hb)
 iterate 3 refine qn o fun a o => ?_
 iterate 3 refine ls <| gnu o rfl rfl rfl fun a o => ?_
 refine qn o fun a o => ?_
 refine qv o (e_as (v' := .bool (rz8 || ((!p1) && (decide ((p2.length : Int) = 0))))) (e_pickT o rfl rfl) (by rw [hb]; rfl)) fun a o => ?_
 exact key _ _ (o.has ⟨rfl, trivial⟩) u
 intro hb key
 replace o := Fr.as o (t := 10) rfl (congrArg Value.bool hb)
 refine qg o (e_move o rfl) fun a o => ?_
 refine qg o (e_not o rfl) fun a o => ?_
 refine qg o (e_move o rfl) fun a o => ?_
 refine grp (N := 19) (Fk := [(10, .bool false), (17, .bool ((!p1) && (decide ((p2.length : Int) = 0))))]) (b := (!p1)) 4 u ?_ ?_ ?_
 intro hb key
 replace o := Fr.as o (t := 13) rfl (congrArg Value.bool hb)
 refine qg o (e_move o rfl) fun a o => ?_
 refine qg o (e_lenL (α := api_Node) (xs := p2) o runUnderlying49 rfl) fun a o => ?_
 refine qg o (e_eql o rfl rfl) fun a o => ?_
 refine qg o (e_as (v' := .bool ((!p1) && (decide ((p2.length : Int) = 0)))) (e_pickT o rfl rfl) (by rw [hb]; rfl)) fun a o => ?_
 exact key _ _ (o.has ⟨rfl, rfl, trivial⟩) u
 intro hb key
 replace o := Fr.as o (t := 13) rfl (congrArg Value.bool hb)
 iterate 3 refine qn o fun a o => ?_
 refine qg o (e_as (v' := .bool ((!p1) && (decide ((p2.length : Int) = 0)))) (e_pickF o rfl rfl) (by rw [hb]; rfl)) fun a o => ?_
 exact key _ _ (o.has ⟨rfl, rfl, trivial⟩) u
 intro a w o u
 refine qv o (e_as (v' := .bool (rz8 || ((!p1) && (decide ((p2.length : Int) = 0))))) (e_pickF o rfl rfl) (by rw [hb]; rfl)) fun a o => ?_
 exact key _ _ (o.has ⟨rfl, trivial⟩) u
 intro a w o u
 refine qa o rfl fun a o => ?_
 refine re <| tn <| wr <| ?_
 obtain rfl := si hm
 exact r1 o results149 rfl ⟨rfl, u.keep⟩
 replace hm := ite_f hm hb7
 refine rg <| qm o rfl fun a o => ?_
 refine qv o (e_as (e_move o rfl) (congrArg Value.bool hb7)) fun a o => ?_
 iterate 2 refine qn o fun a o => ?_
 refine qv o (e_pickF o rfl rfl) fun a o => ?_
 refine qm o rfl fun a o => ?_
 refine qg o (e_move o rfl) fun a o => ?_
 refine qg o (e_not o rfl) fun a o => ?_
 refine qg o (e_move o rfl) fun a o => ?_
 refine grp (N := 19) (Fk := [(10, .bool false), (17, .bool ((!p1) && (decide ((p2.length : Int) = 0))))]) (b := (!p1)) 4 u ?_ ?_ ?_
 intro hb key
 replace o := Fr.as o (t := 13) rfl (congrArg Value.bool hb)
 refine qg o (e_move o rfl) fun a o => ?_
 refine qg o (e_lenL (α := api_Node) (xs := p2) o runUnderlying49 rfl) fun a o => ?_
 refine qg o (e_eql o rfl rfl) fun a o => ?_
 refine qg o (e_as (v' := .bool ((!p1) && (decide ((p2.length : Int) = 0)))) (e_pickT o rfl rfl) (by rw [hb]; rfl)) fun a o => ?_
 exact key _ _ (o.has ⟨rfl, rfl, trivial⟩) u
 intro hb key
 replace o := Fr.as o (t := 13) rfl (congrArg Value.bool hb)
 iterate 3 refine qn o fun a o => ?_
 refine qg o (e_as (v' := .bool ((!p1) && (decide ((p2.length : Int) = 0)))) (e_pickF o rfl rfl) (by rw [hb]; rfl)) fun a o => ?_
 exact key _ _ (o.has ⟨rfl, rfl, trivial⟩) u
 intro a w o u
 refine qv o (e_pickF o rfl rfl) fun a o => ?_
 refine qa o rfl fun a o => ?_
 refine re <| tn <| wr <| ?_
 obtain rfl := si hm
 exact r1 o results149 rfl ⟨rfl, u.keep⟩
set_option maxHeartbeats 4000000 in
theorem Z8z_c {N : Nat} {w0 : World} {H : PH} (hH : H.le w0) (hT : Tab H) {cs2 : List Value} {p1 : api_Stmt} (g3 : Enc.rep H cs2 p1) {r : Bool} (hm : Z8z N p1 = some r) : Tot Tryz.prog 110 #[.agg cs2.toArray] w0 (fun v w' => v = .bool r ∧ Keep Nil w0 w') := by
 unfold Z8z at hm
 refine fn0 func110 rfl ntmps110 rfl rfl fun a o => ?_
 have u : St w0 Nil [H] [] w0 := start1 hH
 obtain ⟨oa4, cap5, oa8, cap9, rfl, hc6, hr7, hc10, hr11⟩ := api_Stmt_open g3
 refine th <| rg <| ls <| a_box (cs := [.int .i64 p1.Kind, strv p1.Reg, strv p1.Name, .slice oa4 p1.E.length cap5, .slice oa8 p1.F.length cap9, .int .i64 p1.N, .int .i64 p1.Body, .int .i64 p1.Else, .int .i64 p1.At].toArray) o rfl u rfl rfl fun b12 w a u o => ?_
 refine qa o rfl fun a o => ?_
 refine re <| tn <| th <| ?_
 obtain ⟨r13, h14, hm⟩ := bs hm
 refine rg <| qv o (e_fa o fa51_0 rfl) fun a o => ?_
 refine qv o (e_ld o isAgg3 rfl ((St.ld u).cellB (.head _) rfl)) fun a o => ?_
 refine ls <| c1 o rfl call145 (Z8q_c (hp_le _) h14) ⟨rfl, trivial⟩ (fun v w a hR o => ?_)
 obtain ⟨rfl, hk⟩ := hR
 replace u := u.pass hk
 refine ls <| a_alloc (cs := [strv []].toArray) o rfl u zeroValue9 rfl fun b15 w a u o => ?_
 refine ls <| s_blk o u sizeOf9 rfl rfl rfl rfl .head .zero fun w u => ?_
 refine re <| tn <| th <| rg <| qv o (e_mkf (vs := [.pointer (some ⟨b15, 0, none⟩)]) o ⟨rfl, trivial⟩) fun a o => ?_
 refine qa o rfl fun a o => ?_
 iterate 2 refine re <| tn <| th <| rg <| qa o rfl fun a o => ?_
 refine re <| tn <| th <| rg <| qv o (e_fa o fa51_5 rfl) fun a o => ?_
 refine qv o (e_ld o isAgg3 rfl ((St.ld u).cellB t1 rfl)) fun a o => ?_
 refine qv o (e_eql o rfl rfl) fun a o => ?_
 refine qa o rfl fun a o => ?_
 refine re <| tn <| th <| th <| ?_
 obtain ⟨r16, h17, hm⟩ := bs hm
 refine rg <| qm o rfl fun a o => ?_
 refine ls <| k1 (vs := [strv [107]]) (caps := [.pointer (some ⟨b15, 0, none⟩)]) o rfl rfl call146 (Z90_c (hp_le _) (Tab.mono hT (St.up u)) (St.blkO u (.head _)) h17) ⟨rfl, trivial⟩ rfl (fun v w a hR o => ?_)
 obtain ⟨rfl, hk⟩ := hR
 replace u := u.pass hk
 refine re <| tn <| midK (fun a w => ∃ (vA1 : Bool), (Z93 N p1 r13) vA1 = some r ∧ Fr 85 [(1, .pointer (some ⟨b12, 0, none⟩)), (4, .func (.func 146) #[] #[.pointer (some ⟨b15, 0, none⟩)]), (5, .func (.func 148) #[] #[]), (6, .func (.func 149) #[] #[]), (7, .bool vA1)] a ∧ St w0 Nil [H] [blk b12 (.cells [.int .i64 p1.Kind, strv p1.Reg, strv p1.Name, .slice oa4 p1.E.length cap5, .slice oa8 p1.F.length cap9, .int .i64 p1.N, .int .i64 p1.Body, .int .i64 p1.Else, .int .i64 p1.At].toArray 51 (0, 0)), blk b15 (.cells [strv r13].toArray 9 (0, 0))] w) ?_ ?_
 rcases bdich r16 with hb18 | hb18
 replace hm := ite_t hm hb18
 refine ctv o rfl hb18 <| ?_
 refine rg <| qv o (e_fa o fa51_5 rfl) fun a o => ?_
 refine qv o (e_ld o isAgg3 rfl ((St.ld u).cellB t1 rfl)) fun a o => ?_
 refine qv o (e_geq o rfl rfl) fun a o => ?_
 refine qm o rfl fun a o => ?_
 refine grp (N := 85) (Fk := [(1, .pointer (some ⟨b12, 0, none⟩)), (4, .func (.func 146) #[] #[.pointer (some ⟨b15, 0, none⟩)]), (5, .func (.func 148) #[] #[]), (6, .func (.func 149) #[] #[]), (25, .bool ((decide (1 ≤ p1.N)) && (decide (p1.N ≤ 8))))]) (b := (decide (1 ≤ p1.N))) 4 u ?_ ?_ ?_
 intro hb key
 replace o := Fr.as o (t := 21) rfl (congrArg Value.bool hb)
 refine qg o (e_fa o fa51_5 rfl) fun a o => ?_
 refine qg o (e_ld o isAgg3 rfl ((St.ld u).cellB t1 rfl)) fun a o => ?_
 refine qg o (e_leq o rfl rfl) fun a o => ?_
 refine qv o (e_as (v' := .bool ((decide (1 ≤ p1.N)) && (decide (p1.N ≤ 8)))) (e_pickT o rfl rfl) (by rw [hb]; rfl)) fun a o => ?_
 exact key _ _ (o.hs) u
 intro hb key
 replace o := Fr.as o (t := 21) rfl (congrArg Value.bool hb)
 iterate 3 refine qn o fun a o => ?_
 refine qv o (e_as (v' := .bool ((decide (1 ≤ p1.N)) && (decide (p1.N ≤ 8)))) (e_pickF o rfl rfl) (by rw [hb]; rfl)) fun a o => ?_
 exact key _ _ (o.hs) u
 intro a w o u
 refine qa o rfl fun a o => ?_
 refine re <| tn <| ?_
 replace u := u.pickL (.cons (.tail .head) (.cons .head .nil))
 exact ⟨((decide (1 ≤ p1.N)) && (decide (p1.N ≤ 8))), hm, o.hs, u⟩
 replace hm := ite_f hm hb18
 refine cfv o rfl hb18 <| wk <| ?_
 refine tn <| ?_
 replace u := u.pickL (.cons (.tail .head) (.cons .head .nil))
 exact ⟨(decide (p1.N = 0)), hm, o.hs, u⟩
 rintro a w ⟨vA1, hm, o, u⟩
 unfold Z93 at hm
 refine th <| rg <| qv o (e_fa o fa51_0 rfl) fun a o => ?_
 refine qv o (e_ld o isAgg3 rfl ((St.ld u).cellB (.head _) rfl)) fun a o => ?_
 refine qv o (e_geq o rfl rfl) fun a o => ?_
 refine qm o rfl fun a o => ?_
 refine grp (N := 85) (Fk := [(1, .pointer (some ⟨b12, 0, none⟩)), (4, .func (.func 146) #[] #[.pointer (some ⟨b15, 0, none⟩)]), (5, .func (.func 148) #[] #[]), (6, .func (.func 149) #[] #[]), (7, .bool vA1), (33, .bool ((decide (1 ≤ p1.Kind)) && (decide (p1.Kind < 15))))]) (b := (decide (1 ≤ p1.Kind))) 4 u ?_ ?_ ?_
 intro hb key
 replace o := Fr.as o (t := 29) rfl (congrArg Value.bool hb)
 refine qg o (e_fa o fa51_0 rfl) fun a o => ?_
 refine qg o (e_ld o isAgg3 rfl ((St.ld u).cellB (.head _) rfl)) fun a o => ?_
 refine qg o (e_lss o rfl rfl) fun a o => ?_
 refine qv o (e_as (v' := .bool ((decide (1 ≤ p1.Kind)) && (decide (p1.Kind < 15)))) (e_pickT o rfl rfl) (by rw [hb]; rfl)) fun a o => ?_
 exact key _ _ (o.hs) u
 intro hb key
 replace o := Fr.as o (t := 29) rfl (congrArg Value.bool hb)
 iterate 3 refine qn o fun a o => ?_
 refine qv o (e_as (v' := .bool ((decide (1 ≤ p1.Kind)) && (decide (p1.Kind < 15)))) (e_pickF o rfl rfl) (by rw [hb]; rfl)) fun a o => ?_
 exact key _ _ (o.hs) u
 intro a w o u
 refine qm o rfl fun a o => ?_
 refine grp (N := 85) (Fk := [(1, .pointer (some ⟨b12, 0, none⟩)), (4, .func (.func 146) #[] #[.pointer (some ⟨b15, 0, none⟩)]), (5, .func (.func 148) #[] #[]), (6, .func (.func 149) #[] #[]), (7, .bool vA1), (38, .bool (((decide (1 ≤ p1.Kind)) && (decide (p1.Kind < 15))) && (decide (0 ≤ p1.At))))]) (b := ((decide (1 ≤ p1.Kind)) && (decide (p1.Kind < 15)))) 4 u ?_ ?_ ?_
 intro hb key
 replace o := Fr.as o (t := 34) rfl (congrArg Value.bool hb)
 refine qg o (e_fa o fa51_8 rfl) fun a o => ?_
 refine qg o (e_ld o isAgg3 rfl ((St.ld u).cellB (.head _) rfl)) fun a o => ?_
 refine qg o (e_geq o rfl rfl) fun a o => ?_
 refine qv o (e_as (v' := .bool (((decide (1 ≤ p1.Kind)) && (decide (p1.Kind < 15))) && (decide (0 ≤ p1.At)))) (e_pickT o rfl rfl) (by rw [hb]; rfl)) fun a o => ?_
 exact key _ _ (o.hs) u
 intro hb key
 replace o := Fr.as o (t := 34) rfl (congrArg Value.bool hb)
 iterate 3 refine qn o fun a o => ?_
 refine qv o (e_as (v' := .bool (((decide (1 ≤ p1.Kind)) && (decide (p1.Kind < 15))) && (decide (0 ≤ p1.At)))) (e_pickF o rfl rfl) (by rw [hb]; rfl)) fun a o => ?_
 exact key _ _ (o.hs) u
 intro a w o u
 refine qm o rfl fun a o => ?_
 refine grp (N := 85) (Fk := [(1, .pointer (some ⟨b12, 0, none⟩)), (4, .func (.func 146) #[] #[.pointer (some ⟨b15, 0, none⟩)]), (5, .func (.func 148) #[] #[]), (6, .func (.func 149) #[] #[]), (7, .bool vA1), (43, .bool ((((decide (1 ≤ p1.Kind)) && (decide (p1.Kind < 15))) && (decide (0 ≤ p1.At))) && (decide (p1.At ≤ 4000))))]) (b := (((decide (1 ≤ p1.Kind)) && (decide (p1.Kind < 15))) && (decide (0 ≤ p1.At)))) 4 u ?_ ?_ ?_
 intro hb key
 replace o := Fr.as o (t := 39) rfl (congrArg Value.bool hb)
 refine qg o (e_fa o fa51_8 rfl) fun a o => ?_
 refine qg o (e_ld o isAgg3 rfl ((St.ld u).cellB (.head _) rfl)) fun a o => ?_
 refine qg o (e_leq o rfl rfl) fun a o => ?_
 refine qv o (e_as (v' := .bool ((((decide (1 ≤ p1.Kind)) && (decide (p1.Kind < 15))) && (decide (0 ≤ p1.At))) && (decide (p1.At ≤ 4000)))) (e_pickT o rfl rfl) (by rw [hb]; rfl)) fun a o => ?_
 exact key _ _ (o.hs) u
 intro hb key
 replace o := Fr.as o (t := 39) rfl (congrArg Value.bool hb)
 iterate 3 refine qn o fun a o => ?_
 refine qv o (e_as (v' := .bool ((((decide (1 ≤ p1.Kind)) && (decide (p1.Kind < 15))) && (decide (0 ≤ p1.At))) && (decide (p1.At ≤ 4000)))) (e_pickF o rfl rfl) (by rw [hb]; rfl)) fun a o => ?_
 exact key _ _ (o.hs) u
 intro a w o u
 refine qm o rfl fun a o => ?_
 refine grp (N := 85) (Fk := [(1, .pointer (some ⟨b12, 0, none⟩)), (4, .func (.func 146) #[] #[.pointer (some ⟨b15, 0, none⟩)]), (5, .func (.func 148) #[] #[]), (6, .func (.func 149) #[] #[]), (46, .bool (((((decide (1 ≤ p1.Kind)) && (decide (p1.Kind < 15))) && (decide (0 ≤ p1.At))) && (decide (p1.At ≤ 4000))) && vA1))]) (b := ((((decide (1 ≤ p1.Kind)) && (decide (p1.Kind < 15))) && (decide (0 ≤ p1.At))) && (decide (p1.At ≤ 4000)))) 2 u ?_ ?_ ?_
 intro hb key
 replace o := Fr.as o (t := 44) rfl (congrArg Value.bool hb)
 refine qg o (e_move o rfl) fun a o => ?_
 refine qv o (e_as (v' := .bool (((((decide (1 ≤ p1.Kind)) && (decide (p1.Kind < 15))) && (decide (0 ≤ p1.At))) && (decide (p1.At ≤ 4000))) && vA1)) (e_pickT o rfl rfl) (by rw [hb]; rfl)) fun a o => ?_
 exact key _ _ (o.hs) u
 intro hb key
 replace o := Fr.as o (t := 44) rfl (congrArg Value.bool hb)
 refine qn o fun a o => ?_
 refine qv o (e_as (v' := .bool (((((decide (1 ≤ p1.Kind)) && (decide (p1.Kind < 15))) && (decide (0 ≤ p1.At))) && (decide (p1.At ≤ 4000))) && vA1)) (e_pickF o rfl rfl) (by rw [hb]; rfl)) fun a o => ?_
 exact key _ _ (o.hs) u
 intro a w o u
 refine qa o rfl fun a o => ?_
 refine re <| tn <| th <| ?_
 rcases bdich (((((decide (1 ≤ p1.Kind)) && (decide (p1.Kind < 15))) && (decide (0 ≤ p1.At))) && (decide (p1.At ≤ 4000))) && vA1) with hb19 | hb19
 replace hm := ite_t hm hb19
 have hb19' : (!(((((decide (1 ≤ p1.Kind)) && (decide (p1.Kind < 15))) && (decide (0 ≤ p1.At))) && (decide (p1.At ≤ 4000))) && vA1)) = false := by rw [hb19]; rfl
 obtain ⟨r20, h21, hm⟩ := bs hm
 obtain ⟨r22, h23, hm⟩ := bs hm
 rcases bdich r22 with hb24 | hb24
 replace hm := ite_t hm hb24
 have hb24' : (!r22) = false := by rw [hb24]; rfl
 obtain ⟨r25, h26, hm⟩ := bs hm
 obtain ⟨r27, h28, hm⟩ := bs hm
 rcases bdich r27 with hb29 | hb29
 replace hm := ite_t hm hb29
 have hb29' : (!r27) = false := by rw [hb29]; rfl
 obtain ⟨r30, h31, hm⟩ := bs hm
 obtain ⟨r32, h33, hm⟩ := bs hm
 rcases bdich r32 with hb34 | hb34
 replace hm := ite_t hm hb34
 have hb34' : (!r32) = false := by rw [hb34]; rfl
 obtain ⟨r35, h36, hm⟩ := bs hm
 obtain ⟨r37, h38, hm⟩ := bs hm
 refine rdS 39 u wide fun w u => ?_
 refine dq 0 (St.ld u) o rfl (fun w hl => e_move o rfl) fun a o => ?_
 refine dq 1 (St.ld u) o rfl (fun w hl => e_not o rfl) fun a o => ?_
 refine dq 2 (St.ld u) o rfl (fun w hl => e_as (e_move o rfl) (congrArg Value.bool hb19')) fun a o => ?_
 refine dg 3 (St.ld u) o rfl (fun w hl => e_move o rfl) fun a o => ?_
 refine dg 4 (St.ld u) o rfl (fun w hl => e_move o rfl) fun a o => ?_
 refine dg 6 (St.ld u) o rfl (fun w hl => e_fa o fa51_1 rfl) fun a o => ?_
 refine dg 7 (St.ld u) o rfl (fun w hl => e_ld o isAgg9 rfl (hl.cellB (.head _) rfl)) fun a o => ?_
 refine da1 (i := 5) (by kernel_rfl) ?_
 refine di (i := 5) rfl <| gy o rfl rfl <| k1 (vs := [strv [114]]) (caps := [.pointer (some ⟨b15, 0, none⟩)]) o rfl rfl call146 (Z90_c (hp_le _) (Tab.mono hT (St.up u)) (St.blkO u t1) h21) ⟨rfl, trivial⟩ rfl (fun v w a hR o => ?_)
 obtain ⟨rfl, hk⟩ := hR
 replace u := u.pass hk
 refine ⟨fun _ => (St.ld u), ?_⟩
 refine da1 (i := 8) (by kernel_rfl) ?_
 refine di (i := 8) rfl <| gy o rfl rfl <| k1 (vs := [.bool r20, strv p1.Reg]) (caps := []) o rfl rfl call148 (Z91_c (hp_le _) (Tab.mono hT (St.up u)) h23) ⟨rfl, rfl, trivial⟩ rfl (fun v w a hR o => ?_)
 obtain ⟨rfl, hk⟩ := hR
 replace u := u.pass hk
 refine ⟨fun _ => (St.ld u), ?_⟩
 refine dg 9 (St.ld u) o rfl (fun w hl => e_not o rfl) fun a o => ?_
 refine dq 10 (St.ld u) o rfl (fun w hl => e_pickF o rfl rfl) fun a o => ?_
 refine dq 11 (St.ld u) o rfl (fun w hl => e_as (e_move o rfl) (congrArg Value.bool hb24')) fun a o => ?_
 refine dg 12 (St.ld u) o rfl (fun w hl => e_move o rfl) fun a o => ?_
 refine dg 13 (St.ld u) o rfl (fun w hl => e_move o rfl) fun a o => ?_
 refine dg 15 (St.ld u) o rfl (fun w hl => e_fa o fa51_2 rfl) fun a o => ?_
 refine dg 16 (St.ld u) o rfl (fun w hl => e_ld o isAgg9 rfl (hl.cellB (.head _) rfl)) fun a o => ?_
 refine da1 (i := 14) (by kernel_rfl) ?_
 refine di (i := 14) rfl <| gy o rfl rfl <| k1 (vs := [strv [110]]) (caps := [.pointer (some ⟨b15, 0, none⟩)]) o rfl rfl call146 (Z90_c (hp_le _) (Tab.mono hT (St.up u)) (St.blkO u t1) h26) ⟨rfl, trivial⟩ rfl (fun v w a hR o => ?_)
 obtain ⟨rfl, hk⟩ := hR
 replace u := u.pass hk
 refine ⟨fun _ => (St.ld u), ?_⟩
 refine da1 (i := 17) (by kernel_rfl) ?_
 refine di (i := 17) rfl <| gy o rfl rfl <| k1 (vs := [.bool r25, strv p1.Name]) (caps := []) o rfl rfl call148 (Z91_c (hp_le _) (Tab.mono hT (St.up u)) h28) ⟨rfl, rfl, trivial⟩ rfl (fun v w a hR o => ?_)
 obtain ⟨rfl, hk⟩ := hR
 replace u := u.pass hk
 refine ⟨fun _ => (St.ld u), ?_⟩
 refine dg 18 (St.ld u) o rfl (fun w hl => e_not o rfl) fun a o => ?_
 refine dq 19 (St.ld u) o rfl (fun w hl => e_pickF o rfl rfl) fun a o => ?_
 refine dq 20 (St.ld u) o rfl (fun w hl => e_as (e_move o rfl) (congrArg Value.bool hb29')) fun a o => ?_
 refine dg 21 (St.ld u) o rfl (fun w hl => e_move o rfl) fun a o => ?_
 refine dg 22 (St.ld u) o rfl (fun w hl => e_move o rfl) fun a o => ?_
 refine dg 24 (St.ld u) o rfl (fun w hl => e_fa o fa51_3 rfl) fun a o => ?_
 refine dg 25 (St.ld u) o rfl (fun w hl => e_ld o isAgg49 rfl (hl.cellB (.head _) rfl)) fun a o => ?_
 refine da1 (i := 23) (by kernel_rfl) ?_
 refine di (i := 23) rfl <| gy o rfl rfl <| k1 (vs := [strv [101]]) (caps := [.pointer (some ⟨b15, 0, none⟩)]) o rfl rfl call146 (Z90_c (hp_le _) (Tab.mono hT (St.up u)) (St.blkO u t1) h31) ⟨rfl, trivial⟩ rfl (fun v w a hR o => ?_)
 obtain ⟨rfl, hk⟩ := hR
 replace u := u.pass hk
 refine ⟨fun _ => (St.ld u), ?_⟩
 refine da1 (i := 26) (by kernel_rfl) ?_
 refine di (i := 26) rfl <| gy o rfl rfl <| k1 (vs := [.bool r30, .slice oa4 p1.E.length cap5]) (caps := []) o rfl rfl call149 (Z92_c (hp_le _) (Tab.mono hT (St.up u)) hc6 (St.srH u hr7) h33) ⟨rfl, rfl, trivial⟩ rfl (fun v w a hR o => ?_)
 obtain ⟨rfl, hk⟩ := hR
 replace u := u.pass hk
 refine ⟨fun _ => (St.ld u), ?_⟩
 refine dg 27 (St.ld u) o rfl (fun w hl => e_not o rfl) fun a o => ?_
 refine dq 28 (St.ld u) o rfl (fun w hl => e_pickF o rfl rfl) fun a o => ?_
 refine dq 29 (St.ld u) o rfl (fun w hl => e_as (e_move o rfl) (congrArg Value.bool hb34')) fun a o => ?_
 refine dg 30 (St.ld u) o rfl (fun w hl => e_move o rfl) fun a o => ?_
 refine dg 31 (St.ld u) o rfl (fun w hl => e_move o rfl) fun a o => ?_
 refine dg 33 (St.ld u) o rfl (fun w hl => e_fa o fa51_4 rfl) fun a o => ?_
 refine dg 34 (St.ld u) o rfl (fun w hl => e_ld o isAgg49 rfl (hl.cellB (.head _) rfl)) fun a o => ?_
 refine da1 (i := 32) (by kernel_rfl) ?_
 refine di (i := 32) rfl <| gy o rfl rfl <| k1 (vs := [strv [102]]) (caps := [.pointer (some ⟨b15, 0, none⟩)]) o rfl rfl call146 (Z90_c (hp_le _) (Tab.mono hT (St.up u)) (St.blkO u t1) h36) ⟨rfl, trivial⟩ rfl (fun v w a hR o => ?_)
 obtain ⟨rfl, hk⟩ := hR
 replace u := u.pass hk
 refine ⟨fun _ => (St.ld u), ?_⟩
 refine da1 (i := 35) (by kernel_rfl) ?_
 refine di (i := 35) rfl <| gy o rfl rfl <| k1 (vs := [.bool r35, .slice oa8 p1.F.length cap9]) (caps := []) o rfl rfl call149 (Z92_c (hp_le _) (Tab.mono hT (St.up u)) hc10 (St.srH u hr11) h38) ⟨rfl, rfl, trivial⟩ rfl (fun v w a hR o => ?_)
 obtain ⟨rfl, hk⟩ := hR
 replace u := u.pass hk
 refine ⟨fun _ => (St.ld u), ?_⟩
 refine dg 36 (St.ld u) o rfl (fun w hl => e_not o rfl) fun a o => ?_
 refine dq 37 (St.ld u) o rfl (fun w hl => e_pickF o rfl rfl) fun a o => ?_
 refine dq 38 (St.ld u) o rfl (fun w hl => e_asg o rfl) fun a o => ?_
 refine de (by kernel_rfl) <| ?_
 refine tn <| wr <| ?_
 obtain rfl := si hm
 exact r1 o results110 rfl ⟨rfl, u.keep⟩
 replace hm := ite_f hm hb34
 have hb34' : (!r32) = true := by rw [hb34]; rfl
 refine rdS 39 u wide fun w u => ?_
 refine dq 0 (St.ld u) o rfl (fun w hl => e_move o rfl) fun a o => ?_
 refine dq 1 (St.ld u) o rfl (fun w hl => e_not o rfl) fun a o => ?_
 refine dq 2 (St.ld u) o rfl (fun w hl => e_as (e_move o rfl) (congrArg Value.bool hb19')) fun a o => ?_
 refine dg 3 (St.ld u) o rfl (fun w hl => e_move o rfl) fun a o => ?_
 refine dg 4 (St.ld u) o rfl (fun w hl => e_move o rfl) fun a o => ?_
 refine dg 6 (St.ld u) o rfl (fun w hl => e_fa o fa51_1 rfl) fun a o => ?_
 refine dg 7 (St.ld u) o rfl (fun w hl => e_ld o isAgg9 rfl (hl.cellB (.head _) rfl)) fun a o => ?_
 refine da1 (i := 5) (by kernel_rfl) ?_
 refine di (i := 5) rfl <| gy o rfl rfl <| k1 (vs := [strv [114]]) (caps := [.pointer (some ⟨b15, 0, none⟩)]) o rfl rfl call146 (Z90_c (hp_le _) (Tab.mono hT (St.up u)) (St.blkO u t1) h21) ⟨rfl, trivial⟩ rfl (fun v w a hR o => ?_)
 obtain ⟨rfl, hk⟩ := hR
 replace u := u.pass hk
 refine ⟨fun _ => (St.ld u), ?_⟩
 refine da1 (i := 8) (by kernel_rfl) ?_
 refine di (i := 8) rfl <| gy o rfl rfl <| k1 (vs := [.bool r20, strv p1.Reg]) (caps := []) o rfl rfl call148 (Z91_c (hp_le _) (Tab.mono hT (St.up u)) h23) ⟨rfl, rfl, trivial⟩ rfl (fun v w a hR o => ?_)
 obtain ⟨rfl, hk⟩ := hR
 replace u := u.pass hk
 refine ⟨fun _ => (St.ld u), ?_⟩
 refine dg 9 (St.ld u) o rfl (fun w hl => e_not o rfl) fun a o => ?_
 refine dq 10 (St.ld u) o rfl (fun w hl => e_pickF o rfl rfl) fun a o => ?_
 refine dq 11 (St.ld u) o rfl (fun w hl => e_as (e_move o rfl) (congrArg Value.bool hb24')) fun a o => ?_
 refine dg 12 (St.ld u) o rfl (fun w hl => e_move o rfl) fun a o => ?_
 refine dg 13 (St.ld u) o rfl (fun w hl => e_move o rfl) fun a o => ?_
 refine dg 15 (St.ld u) o rfl (fun w hl => e_fa o fa51_2 rfl) fun a o => ?_
 refine dg 16 (St.ld u) o rfl (fun w hl => e_ld o isAgg9 rfl (hl.cellB (.head _) rfl)) fun a o => ?_
 refine da1 (i := 14) (by kernel_rfl) ?_
 refine di (i := 14) rfl <| gy o rfl rfl <| k1 (vs := [strv [110]]) (caps := [.pointer (some ⟨b15, 0, none⟩)]) o rfl rfl call146 (Z90_c (hp_le _) (Tab.mono hT (St.up u)) (St.blkO u t1) h26) ⟨rfl, trivial⟩ rfl (fun v w a hR o => ?_)
 obtain ⟨rfl, hk⟩ := hR
 replace u := u.pass hk
 refine ⟨fun _ => (St.ld u), ?_⟩
 refine da1 (i := 17) (by kernel_rfl) ?_
 refine di (i := 17) rfl <| gy o rfl rfl <| k1 (vs := [.bool r25, strv p1.Name]) (caps := []) o rfl rfl call148 (Z91_c (hp_le _) (Tab.mono hT (St.up u)) h28) ⟨rfl, rfl, trivial⟩ rfl (fun v w a hR o => ?_)
 obtain ⟨rfl, hk⟩ := hR
 replace u := u.pass hk
 refine ⟨fun _ => (St.ld u), ?_⟩
 refine dg 18 (St.ld u) o rfl (fun w hl => e_not o rfl) fun a o => ?_
 refine dq 19 (St.ld u) o rfl (fun w hl => e_pickF o rfl rfl) fun a o => ?_
 refine dq 20 (St.ld u) o rfl (fun w hl => e_as (e_move o rfl) (congrArg Value.bool hb29')) fun a o => ?_
 refine dg 21 (St.ld u) o rfl (fun w hl => e_move o rfl) fun a o => ?_
 refine dg 22 (St.ld u) o rfl (fun w hl => e_move o rfl) fun a o => ?_
 refine dg 24 (St.ld u) o rfl (fun w hl => e_fa o fa51_3 rfl) fun a o => ?_
 refine dg 25 (St.ld u) o rfl (fun w hl => e_ld o isAgg49 rfl (hl.cellB (.head _) rfl)) fun a o => ?_
 refine da1 (i := 23) (by kernel_rfl) ?_
 refine di (i := 23) rfl <| gy o rfl rfl <| k1 (vs := [strv [101]]) (caps := [.pointer (some ⟨b15, 0, none⟩)]) o rfl rfl call146 (Z90_c (hp_le _) (Tab.mono hT (St.up u)) (St.blkO u t1) h31) ⟨rfl, trivial⟩ rfl (fun v w a hR o => ?_)
 obtain ⟨rfl, hk⟩ := hR
 replace u := u.pass hk
 refine ⟨fun _ => (St.ld u), ?_⟩
 refine da1 (i := 26) (by kernel_rfl) ?_
 refine di (i := 26) rfl <| gy o rfl rfl <| k1 (vs := [.bool r30, .slice oa4 p1.E.length cap5]) (caps := []) o rfl rfl call149 (Z92_c (hp_le _) (Tab.mono hT (St.up u)) hc6 (St.srH u hr7) h33) ⟨rfl, rfl, trivial⟩ rfl (fun v w a hR o => ?_)
 obtain ⟨rfl, hk⟩ := hR
 replace u := u.pass hk
 refine ⟨fun _ => (St.ld u), ?_⟩
 refine dg 27 (St.ld u) o rfl (fun w hl => e_not o rfl) fun a o => ?_
 refine dq 28 (St.ld u) o rfl (fun w hl => e_pickF o rfl rfl) fun a o => ?_
 refine dq 29 (St.ld u) o rfl (fun w hl => e_as (e_move o rfl) (congrArg Value.bool hb34')) fun a o => ?_
 refine dn 30 (St.ld u) o rfl fun a o => ?_
 refine dn 31 (St.ld u) o rfl fun a o => ?_
 refine dn 32 (St.ld u) o rfl fun a o => ?_
 refine dn 33 (St.ld u) o rfl fun a o => ?_
 refine dn 34 (St.ld u) o rfl fun a o => ?_
 refine dn 35 (St.ld u) o rfl fun a o => ?_
 refine dn 36 (St.ld u) o rfl fun a o => ?_
 refine dq 37 (St.ld u) o rfl (fun w hl => e_pickT o rfl rfl) fun a o => ?_
 refine dq 38 (St.ld u) o rfl (fun w hl => e_asg o rfl) fun a o => ?_
 refine de (by kernel_rfl) <| ?_
 refine tn <| wr <| ?_
 obtain rfl := si hm
 exact r1 o results110 rfl ⟨rfl, u.keep⟩
 replace hm := ite_f hm hb29
 have hb29' : (!r27) = true := by rw [hb29]; rfl
 refine rdS 39 u wide fun w u => ?_
 refine dq 0 (St.ld u) o rfl (fun w hl => e_move o rfl) fun a o => ?_
 refine dq 1 (St.ld u) o rfl (fun w hl => e_not o rfl) fun a o => ?_
 refine dq 2 (St.ld u) o rfl (fun w hl => e_as (e_move o rfl) (congrArg Value.bool hb19')) fun a o => ?_
 refine dg 3 (St.ld u) o rfl (fun w hl => e_move o rfl) fun a o => ?_
 refine dg 4 (St.ld u) o rfl (fun w hl => e_move o rfl) fun a o => ?_
 refine dg 6 (St.ld u) o rfl (fun w hl => e_fa o fa51_1 rfl) fun a o => ?_
 refine dg 7 (St.ld u) o rfl (fun w hl => e_ld o isAgg9 rfl (hl.cellB (.head _) rfl)) fun a o => ?_
 refine da1 (i := 5) (by kernel_rfl) ?_
 refine di (i := 5) rfl <| gy o rfl rfl <| k1 (vs := [strv [114]]) (caps := [.pointer (some ⟨b15, 0, none⟩)]) o rfl rfl call146 (Z90_c (hp_le _) (Tab.mono hT (St.up u)) (St.blkO u t1) h21) ⟨rfl, trivial⟩ rfl (fun v w a hR o => ?_)
 obtain ⟨rfl, hk⟩ := hR
 replace u := u.pass hk
 refine ⟨fun _ => (St.ld u), ?_⟩
 refine da1 (i := 8) (by kernel_rfl) ?_
 refine di (i := 8) rfl <| gy o rfl rfl <| k1 (vs := [.bool r20, strv p1.Reg]) (caps := []) o rfl rfl call148 (Z91_c (hp_le _) (Tab.mono hT (St.up u)) h23) ⟨rfl, rfl, trivial⟩ rfl (fun v w a hR o => ?_)
 obtain ⟨rfl, hk⟩ := hR
 replace u := u.pass hk
 refine ⟨fun _ => (St.ld u), ?_⟩
 refine dg 9 (St.ld u) o rfl (fun w hl => e_not o rfl) fun a o => ?_
 refine dq 10 (St.ld u) o rfl (fun w hl => e_pickF o rfl rfl) fun a o => ?_
 refine dq 11 (St.ld u) o rfl (fun w hl => e_as (e_move o rfl) (congrArg Value.bool hb24')) fun a o => ?_
 refine dg 12 (St.ld u) o rfl (fun w hl => e_move o rfl) fun a o => ?_
 refine dg 13 (St.ld u) o rfl (fun w hl => e_move o rfl) fun a o => ?_
 refine dg 15 (St.ld u) o rfl (fun w hl => e_fa o fa51_2 rfl) fun a o => ?_
 refine dg 16 (St.ld u) o rfl (fun w hl => e_ld o isAgg9 rfl (hl.cellB (.head _) rfl)) fun a o => ?_
 refine da1 (i := 14) (by kernel_rfl) ?_
 refine di (i := 14) rfl <| gy o rfl rfl <| k1 (vs := [strv [110]]) (caps := [.pointer (some ⟨b15, 0, none⟩)]) o rfl rfl call146 (Z90_c (hp_le _) (Tab.mono hT (St.up u)) (St.blkO u t1) h26) ⟨rfl, trivial⟩ rfl (fun v w a hR o => ?_)
 obtain ⟨rfl, hk⟩ := hR
 replace u := u.pass hk
 refine ⟨fun _ => (St.ld u), ?_⟩
 refine da1 (i := 17) (by kernel_rfl) ?_
 refine di (i := 17) rfl <| gy o rfl rfl <| k1 (vs := [.bool r25, strv p1.Name]) (caps := []) o rfl rfl call148 (Z91_c (hp_le _) (Tab.mono hT (St.up u)) h28) ⟨rfl, rfl, trivial⟩ rfl (fun v w a hR o => ?_)
 obtain ⟨rfl, hk⟩ := hR
 replace u := u.pass hk
 refine ⟨fun _ => (St.ld u), ?_⟩
 refine dg 18 (St.ld u) o rfl (fun w hl => e_not o rfl) fun a o => ?_
 refine dq 19 (St.ld u) o rfl (fun w hl => e_pickF o rfl rfl) fun a o => ?_
 refine dq 20 (St.ld u) o rfl (fun w hl => e_as (e_move o rfl) (congrArg Value.bool hb29')) fun a o => ?_
 refine dn 21 (St.ld u) o rfl fun a o => ?_
 refine dn 22 (St.ld u) o rfl fun a o => ?_
 refine dn 23 (St.ld u) o rfl fun a o => ?_
 refine dn 24 (St.ld u) o rfl fun a o => ?_
 refine dn 25 (St.ld u) o rfl fun a o => ?_
 refine dn 26 (St.ld u) o rfl fun a o => ?_
 refine dn 27 (St.ld u) o rfl fun a o => ?_
 refine dq 28 (St.ld u) o rfl (fun w hl => e_pickT o rfl rfl) fun a o => ?_
 refine dq 29 (St.ld u) o rfl (fun w hl => e_move o rfl) fun a o => ?_
 refine dn 30 (St.ld u) o rfl fun a o => ?_
 refine dn 31 (St.ld u) o rfl fun a o => ?_
 refine dn 32 (St.ld u) o rfl fun a o => ?_
 refine dn 33 (St.ld u) o rfl fun a o => ?_
 refine dn 34 (St.ld u) o rfl fun a o => ?_
 refine dn 35 (St.ld u) o rfl fun a o => ?_
 refine dn 36 (St.ld u) o rfl fun a o => ?_
 refine dq 37 (St.ld u) o rfl (fun w hl => e_pickT o rfl rfl) fun a o => ?_
 refine dq 38 (St.ld u) o rfl (fun w hl => e_asg o rfl) fun a o => ?_
 refine de (by kernel_rfl) <| ?_
 refine tn <| wr <| ?_
 obtain rfl := si hm
 exact r1 o results110 rfl ⟨rfl, u.keep⟩
 replace hm := ite_f hm hb24
 have hb24' : (!r22) = true := by rw [hb24]; rfl
 refine rdS 39 u wide fun w u => ?_
 refine dq 0 (St.ld u) o rfl (fun w hl => e_move o rfl) fun a o => ?_
 refine dq 1 (St.ld u) o rfl (fun w hl => e_not o rfl) fun a o => ?_
 refine dq 2 (St.ld u) o rfl (fun w hl => e_as (e_move o rfl) (congrArg Value.bool hb19')) fun a o => ?_
 refine dg 3 (St.ld u) o rfl (fun w hl => e_move o rfl) fun a o => ?_
 refine dg 4 (St.ld u) o rfl (fun w hl => e_move o rfl) fun a o => ?_
 refine dg 6 (St.ld u) o rfl (fun w hl => e_fa o fa51_1 rfl) fun a o => ?_
 refine dg 7 (St.ld u) o rfl (fun w hl => e_ld o isAgg9 rfl (hl.cellB (.head _) rfl)) fun a o => ?_
 refine da1 (i := 5) (by kernel_rfl) ?_
 refine di (i := 5) rfl <| gy o rfl rfl <| k1 (vs := [strv [114]]) (caps := [.pointer (some ⟨b15, 0, none⟩)]) o rfl rfl call146 (Z90_c (hp_le _) (Tab.mono hT (St.up u)) (St.blkO u t1) h21) ⟨rfl, trivial⟩ rfl (fun v w a hR o => ?_)
 obtain ⟨rfl, hk⟩ := hR
 replace u := u.pass hk
 refine ⟨fun _ => (St.ld u), ?_⟩
 refine da1 (i := 8) (by kernel_rfl) ?_
 refine di (i := 8) rfl <| gy o rfl rfl <| k1 (vs := [.bool r20, strv p1.Reg]) (caps := []) o rfl rfl call148 (Z91_c (hp_le _) (Tab.mono hT (St.up u)) h23) ⟨rfl, rfl, trivial⟩ rfl (fun v w a hR o => ?_)
 obtain ⟨rfl, hk⟩ := hR
 replace u := u.pass hk
 refine ⟨fun _ => (St.ld u), ?_⟩
 refine dg 9 (St.ld u) o rfl (fun w hl => e_not o rfl) fun a o => ?_
 refine dq 10 (St.ld u) o rfl (fun w hl => e_pickF o rfl rfl) fun a o => ?_
 refine dq 11 (St.ld u) o rfl (fun w hl => e_as (e_move o rfl) (congrArg Value.bool hb24')) fun a o => ?_
 refine dn 12 (St.ld u) o rfl fun a o => ?_
 refine dn 13 (St.ld u) o rfl fun a o => ?_
 refine dn 14 (St.ld u) o rfl fun a o => ?_
 refine dn 15 (St.ld u) o rfl fun a o => ?_
 refine dn 16 (St.ld u) o rfl fun a o => ?_
 refine dn 17 (St.ld u) o rfl fun a o => ?_
 refine dn 18 (St.ld u) o rfl fun a o => ?_
 refine dq 19 (St.ld u) o rfl (fun w hl => e_pickT o rfl rfl) fun a o => ?_
 refine dq 20 (St.ld u) o rfl (fun w hl => e_move o rfl) fun a o => ?_
 refine dn 21 (St.ld u) o rfl fun a o => ?_
 refine dn 22 (St.ld u) o rfl fun a o => ?_
 refine dn 23 (St.ld u) o rfl fun a o => ?_
 refine dn 24 (St.ld u) o rfl fun a o => ?_
 refine dn 25 (St.ld u) o rfl fun a o => ?_
 refine dn 26 (St.ld u) o rfl fun a o => ?_
 refine dn 27 (St.ld u) o rfl fun a o => ?_
 refine dq 28 (St.ld u) o rfl (fun w hl => e_pickT o rfl rfl) fun a o => ?_
 refine dq 29 (St.ld u) o rfl (fun w hl => e_move o rfl) fun a o => ?_
 refine dn 30 (St.ld u) o rfl fun a o => ?_
 refine dn 31 (St.ld u) o rfl fun a o => ?_
 refine dn 32 (St.ld u) o rfl fun a o => ?_
 refine dn 33 (St.ld u) o rfl fun a o => ?_
 refine dn 34 (St.ld u) o rfl fun a o => ?_
 refine dn 35 (St.ld u) o rfl fun a o => ?_
 refine dn 36 (St.ld u) o rfl fun a o => ?_
 refine dq 37 (St.ld u) o rfl (fun w hl => e_pickT o rfl rfl) fun a o => ?_
 refine dq 38 (St.ld u) o rfl (fun w hl => e_asg o rfl) fun a o => ?_
 refine de (by kernel_rfl) <| ?_
 refine tn <| wr <| ?_
 obtain rfl := si hm
 exact r1 o results110 rfl ⟨rfl, u.keep⟩
 replace hm := ite_f hm hb19
 have hb19' : (!(((((decide (1 ≤ p1.Kind)) && (decide (p1.Kind < 15))) && (decide (0 ≤ p1.At))) && (decide (p1.At ≤ 4000))) && vA1)) = true := by rw [hb19]; rfl
 refine rxS 39 u wide (by kernel_rfl) fun w u => ?_
 refine xq (St.ld u) o (fun w hl => e_move o rfl) fun a o => ?_
 refine xq (St.ld u) o (fun w hl => e_not o rfl) fun a o => ?_
 refine xq (St.ld u) o (fun w hl => e_as (e_move o rfl) (congrArg Value.bool hb19')) fun a o => ?_
 iterate 7 refine xn (St.ld u) o fun a o => ?_
 refine xq (St.ld u) o (fun w hl => e_pickT o rfl rfl) fun a o => ?_
 refine xq (St.ld u) o (fun w hl => e_move o rfl) fun a o => ?_
 iterate 7 refine xn (St.ld u) o fun a o => ?_
 refine xq (St.ld u) o (fun w hl => e_pickT o rfl rfl) fun a o => ?_
 refine xq (St.ld u) o (fun w hl => e_move o rfl) fun a o => ?_
 iterate 7 refine xn (St.ld u) o fun a o => ?_
 refine xq (St.ld u) o (fun w hl => e_pickT o rfl rfl) fun a o => ?_
 refine xq (St.ld u) o (fun w hl => e_move o rfl) fun a o => ?_
 iterate 7 refine xn (St.ld u) o fun a o => ?_
 refine xq (St.ld u) o (fun w hl => e_pickT o rfl rfl) fun a o => ?_
 refine xq (St.ld u) o (fun w hl => e_asg o rfl) fun a o => ?_
 refine xe <| tn <| wr <| ?_
 obtain rfl := si hm
 exact r1 o results110 rfl ⟨rfl, u.keep⟩
theorem Z88_c {N : Nat} {w0 : World} {H : PH} (hH : H.le w0) (hT : Tab H) {oa2 : Option Addr} {cap3 : Nat} {p1 : (List api_Stmt)} (_ : p1.length ≤ cap3) (hr5 : SR H oa2 p1) {r : Int} (hm : Z88 N p1 = some r) : Tot Tryz.prog 144 #[.slice oa2 p1.length cap3, .func (.func 110) #[] #[]] w0 (fun v w' => v = .int .i64 r ∧ Keep Nil w0 w') := by
 unfold Z88 at hm
 refine fn0 func144 rfl ntmps144 rfl rfl fun a o => ?_
 have u : St w0 Nil [H] [] w0 := start1 hH
 refine th <| rg <| qa o rfl fun a o => ?_
 refine re <| tn <| th <| th <| rg <| qm o rfl fun a o => ?_
 refine qv o (e_lenL (α := api_Stmt) (xs := p1) o runUnderlying46 rfl) fun a o => ?_
 refine qm o rfl fun a o => ?_
 refine re <| tn <| midK (fun a w => Z89 = some r ∧ Fr 19 [] a ∧ St w0 Nil [H] [] w) ?_ ?_
 refine wb <| lp (α := Nat × Int) (fun (gh : Nat × Int) a w => match gh with | (nn2, vB1) => (Z8a N Z89 p1) nn2 vB1 = some r ∧ Fr 19 [(0, .slice oa2 p1.length cap3), (1, .func (.func 110) #[] #[]), (7, .int .i64 (p1.length : Int)), (8, .int .i64 vB1)] a ∧ St w0 Nil [H] [] w) (fun gh => gh.1) (N, 0) ⟨hm, o.hs, u⟩ ?_
 rintro ⟨nn2, vB1⟩ a w ⟨hm, o, u⟩
 obtain _ | nn2 := nn2
 simp [Z8a] at hm
 rw [Z8a] at hm
 refine th <| rg <| qv o (e_lss o rfl rfl) fun a o => ?_
 refine re <| ?_
 rcases bdich (decide (vB1 < (p1.length : Int))) with hb6 | hb6
 replace hm := itp_t hm hb6
 refine tn <| th <| ctv o rfl hb6 <| wk <| ?_
 refine tn <| th <| wb <| th <| rg <| qm o rfl fun a o => ?_
 refine qa o rfl fun a o => ?_
 refine re <| tn <| th <| ?_
 obtain ⟨xz7, h8, hm⟩ := bs hm
 obtain ⟨cz9, g10, hl11⟩ := SR.get hr5 h8
 obtain ⟨oa12, cap13, oa16, cap17, rfl, hc14, hr15, hc18, hr19⟩ := api_Stmt_open g10
 obtain ⟨r20, h21, hm⟩ := bs hm
 refine rg <| qm o rfl fun a o => ?_
 iterate 2 refine qm o rfl fun a o => ?_
 refine qv o (e_iaI o runUnderlying46 sizeOf51 rfl rfl h8 (SR.oaI hr5 (by decide) h8)) fun a o => ?_
 refine qv o (e_ldA o isAgg51 sizeOf51 rfl rfl (fun j v hj => PH.le.cell (Lds.le (St.ld u)) (hl11 j v hj))) fun a o => ?_
 refine ls <| k1 (vs := [.agg #[.int .i64 xz7.Kind, strv xz7.Reg, strv xz7.Name, .slice oa12 xz7.E.length cap13, .slice oa16 xz7.F.length cap17, .int .i64 xz7.N, .int .i64 xz7.Body, .int .i64 xz7.Else, .int .i64 xz7.At]]) (caps := []) o rfl rfl call110 (Z8z_c (hp_le _) (Tab.mono hT (St.up u)) (Enc.mono (St.up u) (show Enc.rep (α := api_Stmt) H [.int .i64 xz7.Kind, strv xz7.Reg, strv xz7.Name, .slice oa12 xz7.E.length cap13, .slice oa16 xz7.F.length cap17, .int .i64 xz7.N, .int .i64 xz7.Body, .int .i64 xz7.Else, .int .i64 xz7.At] xz7 from ⟨_, _, rfl, rfl, ⟨_, _, rfl, rfl, ⟨_, _, rfl, rfl, ⟨_, _, rfl, ⟨_, _, rfl, hc14, hr15⟩, ⟨_, _, rfl, ⟨_, _, rfl, hc18, hr19⟩, ⟨_, _, rfl, rfl, ⟨_, _, rfl, rfl, ⟨_, _, rfl, rfl, rfl⟩⟩⟩⟩⟩⟩⟩⟩)) h21) ⟨rfl, trivial⟩ rfl (fun v w a hR o => ?_)
 obtain ⟨rfl, hk⟩ := hR
 replace u := u.pass hk
 refine re <| ?_
 rcases bdich r20 with hb22 | hb22
 replace hm := ite_t hm hb22
 refine tn <| ctv o rfl hb22 <| th <| ?_
 refine rg <| qm o rfl fun a o => ?_
 refine qa o rfl fun a o => ?_
 refine re <| tn <| wr <| br <| tr <| tr <| br <| tr <| ?_
 obtain rfl := si hm
 exact r1 o results144 rfl ⟨rfl, u.keep⟩
 replace hm := ite_f hm hb22
 refine tn <| cfv o rfl hb22 <| wk <| ?_
 refine bn <| tn <| rg <| qv o (e_add o rfl rfl) fun a o => ?_
 refine qm o rfl fun a o => ?_
 refine re <| tn <| ?_
 exact ⟨(nn2, (IntKind.i64.wrap (vB1 + 1))), ⟨hm, o.hs, u⟩, Nat.lt_succ_self _⟩
 replace hm := itp_f hm hb6
 refine tn <| th <| cfv o rfl hb6 <| ?_
 refine we <| tx <| tx <| bx <| tn <| ?_
 exact ⟨hm, o.has trivial, u⟩
 rintro a w ⟨hm, o, u⟩
 unfold Z89 at hm
 refine th <| rg <| qa o rfl fun a o => ?_
 refine re <| tn <| wr <| ?_
 obtain rfl := si hm
 exact r1 o results144 rfl ⟨rfl, u.keep⟩
theorem Z7n_c {N : Nat} {w0 : World} {H : PH} (hH : H.le w0) (hT : Tab H) {oa2 : Option Addr} {cap3 : Nat} {p1 : (List api_Stmt)} (hc4 : p1.length ≤ cap3) (hr5 : SR H oa2 p1) {r : Bool} (hm : Z7n N p1 = some r) : Tot Tryz.prog 109 #[.slice oa2 p1.length cap3, .func (.func 110) #[] #[]] w0 (fun v w' => v = .bool r ∧ Keep Nil w0 w') := by
 unfold Z7n at hm
 refine fn0 func109 rfl ntmps109 rfl rfl fun a o => ?_
 have u : St w0 Nil [H] [] w0 := start1 hH
 refine th <| rg <| qa o rfl fun a o => ?_
 refine re <| tn <| th <| ?_
 obtain ⟨rz6, h7, hm⟩ := bs hm
 refine rg <| qm o rfl fun a o => ?_
 refine qm o rfl fun a o => ?_
 refine ls <| c1 o rfl call144 (Z88_c (hp_le _) (Tab.mono hT (St.up u)) hc4 (St.srH u hr5) h7) ⟨rfl, rfl, trivial⟩ (fun v w a hR o => ?_)
 obtain ⟨rfl, hk⟩ := hR
 replace u := u.pass hk
 refine qv o (e_geq o rfl rfl) fun a o => ?_
 refine qa o rfl fun a o => ?_
 refine re <| tn <| wr <| ?_
 obtain rfl := si hm
 exact r1 o results109 rfl ⟨rfl, u.keep⟩
theorem Z94_c {N : Nat} {w0 : World} {H : PH} (hH : H.le w0) {p1 : Bool} {r : Int} (hm : Z94 N p1 = some r) : Tot Tryz.prog 150 #[.bool p1] w0 (fun v w' => v = .int .i64 r ∧ Keep Nil w0 w') := by
 unfold Z94 at hm
 refine fn0 func150 rfl ntmps150 rfl rfl fun a o => ?_
 have u : St w0 Nil [H] [] w0 := start1 hH
 refine th <| rg <| qa o rfl fun a o => ?_
 refine re <| tn <| th <| th <| rg <| qm o rfl fun a o => ?_
 refine re <| ?_
 rcases bdich p1 with hb2 | hb2
 replace hm := ite_t hm hb2
 refine tn <| ctv o rfl hb2 <| th <| ?_
 refine rg <| qa o rfl fun a o => ?_
 refine re <| tn <| wr <| tr <| ?_
 obtain rfl := si hm
 exact r1 o results150 rfl ⟨rfl, u.keep⟩
 replace hm := ite_f hm hb2
 refine tn <| cfv o rfl hb2 <| wk <| ?_
 refine tn <| th <| rg <| qa o rfl fun a o => ?_
 refine re <| tn <| wr <| ?_
 obtain rfl := si hm
 exact r1 o results150 rfl ⟨rfl, u.keep⟩
set_option maxHeartbeats 4000000 in
theorem Z8t_c : ∀ (N : Nat) {w0 : World} {H : PH} (_ : H.le w0) {oa2 : Option Addr} {cap3 : Nat} {p1 : (List api_Stmt)} (_ : p1.length ≤ cap3) (_ : SR H oa2 p1) {p6 : Int} {r : Int} (_ : Z8t N p1 p6 = some r), Tot Tryz.prog 111 #[.slice oa2 p1.length cap3, .int .i64 p6] w0 (fun v w' => v = .int .i64 r ∧ Keep Nil w0 w') := by
 intro N
 induction N with
  | zero => intros; rename_i hm; simp [Z8t] at hm
  | succ N ih =>
 intro w0 H hH oa2 cap3 p1 hc4 hr5 p6 r hm
 rw [Z8t] at hm
 refine fn0 func111 rfl ntmps111 rfl rfl fun a o => ?_
 have u : St w0 Nil [H] [] w0 := start1 hH
 refine th <| rg <| qa o rfl fun a o => ?_
 refine re <| tn <| th <| rg <| qa o rfl fun a o => ?_
 refine re <| tn <| th <| th <| rg <| qa o rfl fun a o => ?_
 refine re <| tn <| midK (fun a w => ∃ (vA1 : Int), Z8u vA1 = some r ∧ Fr 131 [(5, .int .i64 vA1)] a ∧ St w0 Nil [H] [] w) ?_ ?_
 refine wb <| lp (α := Nat × Int × Int) (fun (gh : Nat × Int × Int) a w => match gh with | (nn2, vB1, vB2) => (Z8x (Z8t N) N Z8u p1 p6) nn2 vB1 vB2 = some r ∧ Fr 131 [(0, .slice oa2 p1.length cap3), (1, .int .i64 p6), (5, .int .i64 vB1), (6, .int .i64 vB2)] a ∧ St w0 Nil [H] [] w) (fun gh => gh.1) (N, 0, 0) ⟨hm, o.hs, u⟩ ?_
 rintro ⟨nn2, vB1, vB2⟩ a w ⟨hm, o, u⟩
 obtain _ | nn2 := nn2
 simp [Z8x] at hm
 rw [Z8x] at hm
 refine th <| th <| rg <| qm o rfl fun a o => ?_
 refine qm o rfl fun a o => ?_
 refine qv o (e_lenL (α := api_Stmt) (xs := p1) o runUnderlying46 rfl) fun a o => ?_
 refine qv o (e_lss o rfl rfl) fun a o => ?_
 refine re <| ?_
 rcases bdich (decide (vB2 < (p1.length : Int))) with hb7 | hb7
 replace hm := itp_t hm hb7
 refine tn <| ctv o rfl hb7 <| wk <| ?_
 refine tn <| wb <| th <| ?_
 obtain ⟨xz8, h9, hm⟩ := bs hm
 obtain ⟨c10, g11, hl12⟩ := SR.get hr5 h9
 obtain ⟨oa13, cap14, oa17, cap18, rfl, hc15, hr16, hc19, hr20⟩ := api_Stmt_open g11
 refine rg <| qm o rfl fun a o => ?_
 refine qm o rfl fun a o => ?_
 refine qv o (e_iaI o runUnderlying46 sizeOf51 rfl rfl h9 (SR.oaI hr5 (by decide) h9)) fun a o => ?_
 refine qv o (e_ldA o isAgg51 sizeOf51 rfl rfl (fun j v hj => PH.le.cell (Lds.le (St.ld u)) (hl12 j v hj))) fun a o => ?_
 refine ls <| a_alloc (cs := [.int .i64 0, strv [], strv [], .slice none 0 0, .slice none 0 0, .int .i64 0, .int .i64 0, .int .i64 0, .int .i64 0].toArray) o rfl u zeroValue51 rfl fun b21 w a u o => ?_
 refine ls <| s_blkA o u sizeOf51 rfl rfl rfl rfl (one_cells rfl) .head fun w u => ?_
 refine re <| tn <| th <| rg <| qm o rfl fun a o => ?_
 refine qv o (e_add o rfl rfl) fun a o => ?_
 refine qv o (e_fa o fa51_6 rfl) fun a o => ?_
 refine qv o (e_ld o isAgg3 rfl ((St.ld u).cellB (.head _) rfl)) fun a o => ?_
 refine qv o (e_add o rfl rfl) fun a o => ?_
 refine qv o (e_fa o fa51_7 rfl) fun a o => ?_
 refine qv o (e_ld o isAgg3 rfl ((St.ld u).cellB (.head _) rfl)) fun a o => ?_
 refine qv o (e_add o rfl rfl) fun a o => ?_
 refine qa o rfl fun a o => ?_
 refine re <| tn <| th <| rg <| qv o (e_fa o fa51_0 rfl) fun a o => ?_
 refine qv o (e_ld o isAgg3 rfl ((St.ld u).cellB (.head _) rfl)) fun a o => ?_
 refine qv o (e_eql o rfl rfl) fun a o => ?_
 refine qm o rfl fun a o => ?_
 refine grp (N := 131) (Fk := [(0, .slice oa2 p1.length cap3), (1, .int .i64 p6), (5, .int .i64 vB1), (6, .int .i64 vB2), (7, .pointer (some ⟨b21, 0, none⟩)), (8, .int .i64 (IntKind.i64.wrap ((IntKind.i64.wrap ((IntKind.i64.wrap (vB2 + 1)) + xz8.Body)) + xz8.Else))), (36, .bool ((decide (xz8.Kind = 11)) || (decide (xz8.Kind = 12))))]) (b := (decide (xz8.Kind = 11))) 4 u ?_ ?_ ?_
 intro hb key
 replace o := Fr.as o (t := 32) rfl (congrArg Value.bool hb)
 iterate 3 refine qn o fun a o => ?_
 refine qv o (e_as (v' := .bool ((decide (xz8.Kind = 11)) || (decide (xz8.Kind = 12)))) (e_pickT o rfl rfl) (by rw [hb]; rfl)) fun a o => ?_
 exact key _ _ (o.hs) u
 intro hb key
 replace o := Fr.as o (t := 32) rfl (congrArg Value.bool hb)
 refine qg o (e_fa o fa51_0 rfl) fun a o => ?_
 refine qg o (e_ld o isAgg3 rfl ((St.ld u).cellB (.head _) rfl)) fun a o => ?_
 refine qg o (e_eql o rfl rfl) fun a o => ?_
 refine qv o (e_as (v' := .bool ((decide (xz8.Kind = 11)) || (decide (xz8.Kind = 12)))) (e_pickF o rfl rfl) (by rw [hb]; rfl)) fun a o => ?_
 exact key _ _ (o.hs) u
 intro a w o u
 refine qa o rfl fun a o => ?_
 refine re <| tn <| th <| wb <| th <| rg <| qv o (e_fa o fa51_6 rfl) fun a o => ?_
 refine qv o (e_ld o isAgg3 rfl ((St.ld u).cellB (.head _) rfl)) fun a o => ?_
 refine qv o (e_lss o rfl rfl) fun a o => ?_
 refine qm o rfl fun a o => ?_
 refine grp (N := 131) (Fk := [(0, .slice oa2 p1.length cap3), (1, .int .i64 p6), (5, .int .i64 vB1), (6, .int .i64 vB2), (7, .pointer (some ⟨b21, 0, none⟩)), (8, .int .i64 (IntKind.i64.wrap ((IntKind.i64.wrap ((IntKind.i64.wrap (vB2 + 1)) + xz8.Body)) + xz8.Else))), (9, .bool ((decide (xz8.Kind = 11)) || (decide (xz8.Kind = 12)))), (45, .bool ((decide (xz8.Body < 0)) || (decide (xz8.Else < 0))))]) (b := (decide (xz8.Body < 0))) 4 u ?_ ?_ ?_
 intro hb key
 replace o := Fr.as o (t := 41) rfl (congrArg Value.bool hb)
 iterate 3 refine qn o fun a o => ?_
 refine qv o (e_as (v' := .bool ((decide (xz8.Body < 0)) || (decide (xz8.Else < 0)))) (e_pickT o rfl rfl) (by rw [hb]; rfl)) fun a o => ?_
 exact key _ _ (o.hs) u
 intro hb key
 replace o := Fr.as o (t := 41) rfl (congrArg Value.bool hb)
 refine qg o (e_fa o fa51_7 rfl) fun a o => ?_
 refine qg o (e_ld o isAgg3 rfl ((St.ld u).cellB (.head _) rfl)) fun a o => ?_
 refine qg o (e_lss o rfl rfl) fun a o => ?_
 refine qv o (e_as (v' := .bool ((decide (xz8.Body < 0)) || (decide (xz8.Else < 0)))) (e_pickF o rfl rfl) (by rw [hb]; rfl)) fun a o => ?_
 exact key _ _ (o.hs) u
 intro a w o u
 refine qm o rfl fun a o => ?_
 refine grp (N := 131) (Fk := [(0, .slice oa2 p1.length cap3), (1, .int .i64 p6), (5, .int .i64 vB1), (6, .int .i64 vB2), (7, .pointer (some ⟨b21, 0, none⟩)), (8, .int .i64 (IntKind.i64.wrap ((IntKind.i64.wrap ((IntKind.i64.wrap (vB2 + 1)) + xz8.Body)) + xz8.Else))), (9, .bool ((decide (xz8.Kind = 11)) || (decide (xz8.Kind = 12)))), (52, .bool (((decide (xz8.Body < 0)) || (decide (xz8.Else < 0))) || (decide ((p1.length : Int) < xz8.Body))))]) (b := ((decide (xz8.Body < 0)) || (decide (xz8.Else < 0)))) 6 u ?_ ?_ ?_
 intro hb key
 replace o := Fr.as o (t := 46) rfl (congrArg Value.bool hb)
 iterate 5 refine qn o fun a o => ?_
 refine qv o (e_as (v' := .bool (((decide (xz8.Body < 0)) || (decide (xz8.Else < 0))) || (decide ((p1.length : Int) < xz8.Body)))) (e_pickT o rfl rfl) (by rw [hb]; rfl)) fun a o => ?_
 exact key _ _ (o.hs) u
 intro hb key
 replace o := Fr.as o (t := 46) rfl (congrArg Value.bool hb)
 refine qg o (e_fa o fa51_6 rfl) fun a o => ?_
 refine qg o (e_ld o isAgg3 rfl ((St.ld u).cellB (.head _) rfl)) fun a o => ?_
 refine qg o (e_move o rfl) fun a o => ?_
 refine qg o (e_lenL (α := api_Stmt) (xs := p1) o runUnderlying46 rfl) fun a o => ?_
 refine qg o (e_gtr o rfl rfl) fun a o => ?_
 refine qv o (e_as (v' := .bool (((decide (xz8.Body < 0)) || (decide (xz8.Else < 0))) || (decide ((p1.length : Int) < xz8.Body)))) (e_pickF o rfl rfl) (by rw [hb]; rfl)) fun a o => ?_
 exact key _ _ (o.hs) u
 intro a w o u
 refine qm o rfl fun a o => ?_
 refine grp (N := 131) (Fk := [(0, .slice oa2 p1.length cap3), (1, .int .i64 p6), (5, .int .i64 vB1), (6, .int .i64 vB2), (7, .pointer (some ⟨b21, 0, none⟩)), (8, .int .i64 (IntKind.i64.wrap ((IntKind.i64.wrap ((IntKind.i64.wrap (vB2 + 1)) + xz8.Body)) + xz8.Else))), (9, .bool ((decide (xz8.Kind = 11)) || (decide (xz8.Kind = 12)))), (59, .bool ((((decide (xz8.Body < 0)) || (decide (xz8.Else < 0))) || (decide ((p1.length : Int) < xz8.Body))) || (decide ((p1.length : Int) < xz8.Else))))]) (b := (((decide (xz8.Body < 0)) || (decide (xz8.Else < 0))) || (decide ((p1.length : Int) < xz8.Body)))) 6 u ?_ ?_ ?_
 intro hb key
 replace o := Fr.as o (t := 53) rfl (congrArg Value.bool hb)
 iterate 5 refine qn o fun a o => ?_
 refine qv o (e_as (v' := .bool ((((decide (xz8.Body < 0)) || (decide (xz8.Else < 0))) || (decide ((p1.length : Int) < xz8.Body))) || (decide ((p1.length : Int) < xz8.Else)))) (e_pickT o rfl rfl) (by rw [hb]; rfl)) fun a o => ?_
 exact key _ _ (o.hs) u
 intro hb key
 replace o := Fr.as o (t := 53) rfl (congrArg Value.bool hb)
 refine qg o (e_fa o fa51_7 rfl) fun a o => ?_
 refine qg o (e_ld o isAgg3 rfl ((St.ld u).cellB (.head _) rfl)) fun a o => ?_
 refine qg o (e_move o rfl) fun a o => ?_
 refine qg o (e_lenL (α := api_Stmt) (xs := p1) o runUnderlying46 rfl) fun a o => ?_
 refine qg o (e_gtr o rfl rfl) fun a o => ?_
 refine qv o (e_as (v' := .bool ((((decide (xz8.Body < 0)) || (decide (xz8.Else < 0))) || (decide ((p1.length : Int) < xz8.Body))) || (decide ((p1.length : Int) < xz8.Else)))) (e_pickF o rfl rfl) (by rw [hb]; rfl)) fun a o => ?_
 exact key _ _ (o.hs) u
 intro a w o u
 refine qm o rfl fun a o => ?_
 refine grp (N := 131) (Fk := [(0, .slice oa2 p1.length cap3), (1, .int .i64 p6), (5, .int .i64 vB1), (6, .int .i64 vB2), (7, .pointer (some ⟨b21, 0, none⟩)), (8, .int .i64 (IntKind.i64.wrap ((IntKind.i64.wrap ((IntKind.i64.wrap (vB2 + 1)) + xz8.Body)) + xz8.Else))), (9, .bool ((decide (xz8.Kind = 11)) || (decide (xz8.Kind = 12)))), (65, .bool (((((decide (xz8.Body < 0)) || (decide (xz8.Else < 0))) || (decide ((p1.length : Int) < xz8.Body))) || (decide ((p1.length : Int) < xz8.Else))) || (decide ((p1.length : Int) < (IntKind.i64.wrap ((IntKind.i64.wrap ((IntKind.i64.wrap (vB2 + 1)) + xz8.Body)) + xz8.Else))))))]) (b := ((((decide (xz8.Body < 0)) || (decide (xz8.Else < 0))) || (decide ((p1.length : Int) < xz8.Body))) || (decide ((p1.length : Int) < xz8.Else)))) 5 u ?_ ?_ ?_
 intro hb key
 replace o := Fr.as o (t := 60) rfl (congrArg Value.bool hb)
 iterate 4 refine qn o fun a o => ?_
 refine qv o (e_as (v' := .bool (((((decide (xz8.Body < 0)) || (decide (xz8.Else < 0))) || (decide ((p1.length : Int) < xz8.Body))) || (decide ((p1.length : Int) < xz8.Else))) || (decide ((p1.length : Int) < (IntKind.i64.wrap ((IntKind.i64.wrap ((IntKind.i64.wrap (vB2 + 1)) + xz8.Body)) + xz8.Else)))))) (e_pickT o rfl rfl) (by rw [hb]; rfl)) fun a o => ?_
 exact key _ _ (o.hs) u
 intro hb key
 replace o := Fr.as o (t := 60) rfl (congrArg Value.bool hb)
 iterate 2 refine qg o (e_move o rfl) fun a o => ?_
 refine qg o (e_lenL (α := api_Stmt) (xs := p1) o runUnderlying46 rfl) fun a o => ?_
 refine qg o (e_gtr o rfl rfl) fun a o => ?_
 refine qv o (e_as (v' := .bool (((((decide (xz8.Body < 0)) || (decide (xz8.Else < 0))) || (decide ((p1.length : Int) < xz8.Body))) || (decide ((p1.length : Int) < xz8.Else))) || (decide ((p1.length : Int) < (IntKind.i64.wrap ((IntKind.i64.wrap ((IntKind.i64.wrap (vB2 + 1)) + xz8.Body)) + xz8.Else)))))) (e_pickF o rfl rfl) (by rw [hb]; rfl)) fun a o => ?_
 exact key _ _ (o.hs) u
 intro a w o u
 refine qa o rfl fun a o => ?_
 refine re <| ?_
 rcases bdich (((((decide (xz8.Body < 0)) || (decide (xz8.Else < 0))) || (decide ((p1.length : Int) < xz8.Body))) || (decide ((p1.length : Int) < xz8.Else))) || (decide ((p1.length : Int) < (IntKind.i64.wrap ((IntKind.i64.wrap ((IntKind.i64.wrap (vB2 + 1)) + xz8.Body)) + xz8.Else))))) with hb22 | hb22
 replace hm := ite_t hm hb22
 refine tn <| ctv o rfl hb22 <| th <| ?_
 refine rg <| qa o rfl fun a o => ?_
 refine re <| tn <| wr <| br <| tr <| br <| tr <| br <| tr <| ?_
 obtain rfl := si hm
 exact r1 o results111 rfl ⟨rfl, u.keep⟩
 replace hm := ite_f hm hb22
 refine tn <| cfv o rfl hb22 <| th <| th <| ?_
 refine rg <| qm o rfl fun a o => ?_
 refine qv o (e_not o rfl) fun a o => ?_
 refine qm o rfl fun a o => ?_
 refine grp (N := 131) (Fk := [(0, .slice oa2 p1.length cap3), (1, .int .i64 p6), (5, .int .i64 vB1), (6, .int .i64 vB2), (7, .pointer (some ⟨b21, 0, none⟩)), (8, .int .i64 (IntKind.i64.wrap ((IntKind.i64.wrap ((IntKind.i64.wrap (vB2 + 1)) + xz8.Body)) + xz8.Else))), (9, .bool ((decide (xz8.Kind = 11)) || (decide (xz8.Kind = 12)))), (73, .bool ((!((decide (xz8.Kind = 11)) || (decide (xz8.Kind = 12)))) && (decide (0 < xz8.Body))))]) (b := (!((decide (xz8.Kind = 11)) || (decide (xz8.Kind = 12))))) 4 u ?_ ?_ ?_
 intro hb key
 replace o := Fr.as o (t := 69) rfl (congrArg Value.bool hb)
 refine qg o (e_fa o fa51_6 rfl) fun a o => ?_
 refine qg o (e_ld o isAgg3 rfl ((St.ld u).cellB (.head _) rfl)) fun a o => ?_
 refine qg o (e_gtr o rfl rfl) fun a o => ?_
 refine qv o (e_as (v' := .bool ((!((decide (xz8.Kind = 11)) || (decide (xz8.Kind = 12)))) && (decide (0 < xz8.Body)))) (e_pickT o rfl rfl) (by rw [hb]; rfl)) fun a o => ?_
 exact key _ _ (o.hs) u
 intro hb key
 replace o := Fr.as o (t := 69) rfl (congrArg Value.bool hb)
 iterate 3 refine qn o fun a o => ?_
 refine qv o (e_as (v' := .bool ((!((decide (xz8.Kind = 11)) || (decide (xz8.Kind = 12)))) && (decide (0 < xz8.Body)))) (e_pickF o rfl rfl) (by rw [hb]; rfl)) fun a o => ?_
 exact key _ _ (o.hs) u
 intro a w o u
 refine qa o rfl fun a o => ?_
 refine re <| tn <| midK (fun a w => ∃ (vC1 : Bool), (Z8v (Z8t N) N ((Z8x (Z8t N) N Z8u p1 p6) nn2) p1 p6 xz8 vB1 vB2) vC1 = some r ∧ Fr 131 [(0, .slice oa2 p1.length cap3), (1, .int .i64 p6), (5, .int .i64 vB1), (6, .int .i64 vB2), (7, .pointer (some ⟨b21, 0, none⟩)), (8, .int .i64 (IntKind.i64.wrap ((IntKind.i64.wrap ((IntKind.i64.wrap (vB2 + 1)) + xz8.Body)) + xz8.Else))), (9, .bool ((decide (xz8.Kind = 11)) || (decide (xz8.Kind = 12)))), (66, .bool vC1)] a ∧ St w0 Nil [H] [blk b21 (.cells [.int .i64 xz8.Kind, strv xz8.Reg, strv xz8.Name, .slice oa13 xz8.E.length cap14, .slice oa17 xz8.F.length cap18, .int .i64 xz8.N, .int .i64 xz8.Body, .int .i64 xz8.Else, .int .i64 xz8.At].toArray 51 (0, 0))] w) ?_ ?_
 rcases bdich ((!((decide (xz8.Kind = 11)) || (decide (xz8.Kind = 12)))) && (decide (0 < xz8.Body))) with hb23 | hb23
 replace hm := ite_t hm hb23
 refine ctv o rfl hb23 <| wk <| ?_
 refine tn <| ?_
 exact ⟨((!((decide (xz8.Kind = 11)) || (decide (xz8.Kind = 12)))) && (decide (0 < xz8.Body))), hm, o.hs, u⟩
 replace hm := ite_f hm hb23
 refine cfv o rfl hb23 <| th <| ?_
 refine rg <| qv o (e_fa o fa51_0 rfl) fun a o => ?_
 refine qv o (e_ld o isAgg3 rfl ((St.ld u).cellB (.head _) rfl)) fun a o => ?_
 refine qv o (e_neq o rfl rfl) fun a o => ?_
 refine qm o rfl fun a o => ?_
 refine grp (N := 131) (Fk := [(0, .slice oa2 p1.length cap3), (1, .int .i64 p6), (5, .int .i64 vB1), (6, .int .i64 vB2), (7, .pointer (some ⟨b21, 0, none⟩)), (8, .int .i64 (IntKind.i64.wrap ((IntKind.i64.wrap ((IntKind.i64.wrap (vB2 + 1)) + xz8.Body)) + xz8.Else))), (9, .bool ((decide (xz8.Kind = 11)) || (decide (xz8.Kind = 12)))), (81, .bool ((decide (xz8.Kind ≠ 11)) && (decide (0 < xz8.Else))))]) (b := (decide (xz8.Kind ≠ 11))) 4 u ?_ ?_ ?_
 intro hb key
 replace o := Fr.as o (t := 77) rfl (congrArg Value.bool hb)
 refine qg o (e_fa o fa51_7 rfl) fun a o => ?_
 refine qg o (e_ld o isAgg3 rfl ((St.ld u).cellB (.head _) rfl)) fun a o => ?_
 refine qg o (e_gtr o rfl rfl) fun a o => ?_
 refine qv o (e_as (v' := .bool ((decide (xz8.Kind ≠ 11)) && (decide (0 < xz8.Else)))) (e_pickT o rfl rfl) (by rw [hb]; rfl)) fun a o => ?_
 exact key _ _ (o.hs) u
 intro hb key
 replace o := Fr.as o (t := 77) rfl (congrArg Value.bool hb)
 iterate 3 refine qn o fun a o => ?_
 refine qv o (e_as (v' := .bool ((decide (xz8.Kind ≠ 11)) && (decide (0 < xz8.Else)))) (e_pickF o rfl rfl) (by rw [hb]; rfl)) fun a o => ?_
 exact key _ _ (o.hs) u
 intro a w o u
 refine qa o rfl fun a o => ?_
 refine re <| ?_
 rcases bdich ((decide (xz8.Kind ≠ 11)) && (decide (0 < xz8.Else))) with hb24 | hb24
 replace hm := ite_t hm hb24
 refine tn <| ctv o rfl hb24 <| wk <| ?_
 refine tn <| ?_
 exact ⟨((decide (xz8.Kind ≠ 11)) && (decide (0 < xz8.Else))), hm, o.hs, u⟩
 replace hm := ite_f hm hb24
 refine tn <| cfv o rfl hb24 <| ?_
 refine rg <| qv o (e_fa o fa51_0 rfl) fun a o => ?_
 refine qv o (e_ld o isAgg3 rfl ((St.ld u).cellB (.head _) rfl)) fun a o => ?_
 refine qv o (e_eql o rfl rfl) fun a o => ?_
 refine qm o rfl fun a o => ?_
 refine grp (N := 131) (Fk := [(0, .slice oa2 p1.length cap3), (1, .int .i64 p6), (5, .int .i64 vB1), (6, .int .i64 vB2), (7, .pointer (some ⟨b21, 0, none⟩)), (8, .int .i64 (IntKind.i64.wrap ((IntKind.i64.wrap ((IntKind.i64.wrap (vB2 + 1)) + xz8.Body)) + xz8.Else))), (9, .bool ((decide (xz8.Kind = 11)) || (decide (xz8.Kind = 12)))), (88, .bool ((decide (xz8.Kind = 13)) && (decide (p6 = 0))))]) (b := (decide (xz8.Kind = 13))) 3 u ?_ ?_ ?_
 intro hb key
 replace o := Fr.as o (t := 85) rfl (congrArg Value.bool hb)
 refine qg o (e_move o rfl) fun a o => ?_
 refine qg o (e_eql o rfl rfl) fun a o => ?_
 refine qv o (e_as (v' := .bool ((decide (xz8.Kind = 13)) && (decide (p6 = 0)))) (e_pickT o rfl rfl) (by rw [hb]; rfl)) fun a o => ?_
 exact key _ _ (o.hs) u
 intro hb key
 replace o := Fr.as o (t := 85) rfl (congrArg Value.bool hb)
 iterate 2 refine qn o fun a o => ?_
 refine qv o (e_as (v' := .bool ((decide (xz8.Kind = 13)) && (decide (p6 = 0)))) (e_pickF o rfl rfl) (by rw [hb]; rfl)) fun a o => ?_
 exact key _ _ (o.hs) u
 intro a w o u
 refine qa o rfl fun a o => ?_
 refine re <| tn <| ?_
 exact ⟨((decide (xz8.Kind = 13)) && (decide (p6 = 0))), hm, o.hs, u⟩
 rintro a w ⟨vC1, hm, o, u⟩
 unfold Z8v at hm
 rcases bdich vC1 with hb25 | hb25
 replace hm := ite_t hm hb25
 refine ctv o rfl hb25 <| th <| ?_
 refine rg <| qa o rfl fun a o => ?_
 refine re <| tn <| wr <| br <| tr <| br <| tr <| br <| tr <| ?_
 obtain rfl := si hm
 exact r1 o results111 rfl ⟨rfl, u.keep⟩
 replace hm := ite_f hm hb25
 refine cfv o rfl hb25 <| wk <| ?_
 refine bn <| tn <| th <| th <| rg <| qm o rfl fun a o => ?_
 refine re <| tn <| midK (fun a w => ∃ (vC2 : Int), (Z8w ((Z8x (Z8t N) N Z8u p1 p6) nn2) xz8 vB2) vC2 = some r ∧ Fr 131 [(0, .slice oa2 p1.length cap3), (1, .int .i64 p6), (5, .int .i64 vC2), (8, .int .i64 (IntKind.i64.wrap ((IntKind.i64.wrap ((IntKind.i64.wrap (vB2 + 1)) + xz8.Body)) + xz8.Else)))] a ∧ St w0 Nil [H] [] w) ?_ ?_
 rcases bdich ((decide (xz8.Kind = 11)) || (decide (xz8.Kind = 12))) with hb26 | hb26
 replace hm := ite_t hm hb26
 refine ctv o rfl hb26 <| th <| ?_
 obtain ⟨r27, h28, hm⟩ := bs hm
 refine rg <| qm o rfl fun a o => ?_
 refine qv o (e_fa o fa51_0 rfl) fun a o => ?_
 refine qv o (e_ld o isAgg3 rfl ((St.ld u).cellB (.head _) rfl)) fun a o => ?_
 refine qv o (e_eql o rfl rfl) fun a o => ?_
 refine ls <| c1 o rfl call150 (Z94_c (hp_le _) h28) ⟨rfl, trivial⟩ (fun v w a hR o => ?_)
 obtain ⟨rfl, hk⟩ := hR
 replace u := u.pass hk
 refine qv o (e_add o rfl rfl) fun a o => ?_
 refine qa o rfl fun a o => ?_
 refine re <| tn <| th <| ?_
 obtain ⟨l29, h30, hm⟩ := bs hm
 obtain ⟨oa31, cap32, e33, e34, hc35, hr36⟩ := SR.sub (sz := 9) hr5 hc4 rfl h30
 obtain ⟨r37, h38, hm⟩ := bs hm
 obtain ⟨l39, h40, hm⟩ := bs hm
 obtain ⟨oa41, cap42, e43, e44, hc45, hr46⟩ := SR.sub (sz := 9) hr5 hc4 rfl h40
 obtain ⟨r47, h48, hm⟩ := bs hm
 refine rdS 23 u wide fun w u => ?_
 refine dq 0 (St.ld u) o rfl (fun w hl => e_move o rfl) fun a o => ?_
 refine dq 1 (St.ld u) o rfl (fun w hl => e_move o rfl) fun a o => ?_
 refine dq 2 (St.ld u) o rfl (fun w hl => e_add o rfl rfl) fun a o => ?_
 refine dq 3 (St.ld u) o rfl (fun w hl => e_move o rfl) fun a o => ?_
 refine dq 4 (St.ld u) o rfl (fun w hl => e_add o rfl rfl) fun a o => ?_
 refine dq 5 (St.ld u) o rfl (fun w hl => e_fa o fa51_6 rfl) fun a o => ?_
 refine dq 6 (St.ld u) o rfl (fun w hl => e_ld o isAgg3 rfl (hl.cellB (.head _) rfl)) fun a o => ?_
 refine dq 7 (St.ld u) o rfl (fun w hl => e_add o rfl rfl) fun a o => ?_
 refine dq 8 (St.ld u) o rfl (fun w hl => e_subL (xs := p1) (vl := (IntKind.i64.wrap (vB2 + 1))) (vh := (IntKind.i64.wrap ((IntKind.i64.wrap (vB2 + 1)) + xz8.Body))) o runUnderlying46 sizeOf51 rfl hc4 rfl rfl h30 e33 e34) fun a o => ?_
 refine dq 9 (St.ld u) o rfl (fun w hl => e_move o rfl) fun a o => ?_
 refine dq 11 (St.ld u) o rfl (fun w hl => e_move o rfl) fun a o => ?_
 refine dq 12 (St.ld u) o rfl (fun w hl => e_move o rfl) fun a o => ?_
 refine dq 13 (St.ld u) o rfl (fun w hl => e_add o rfl rfl) fun a o => ?_
 refine dq 14 (St.ld u) o rfl (fun w hl => e_fa o fa51_6 rfl) fun a o => ?_
 refine dq 15 (St.ld u) o rfl (fun w hl => e_ld o isAgg3 rfl (hl.cellB (.head _) rfl)) fun a o => ?_
 refine dq 16 (St.ld u) o rfl (fun w hl => e_add o rfl rfl) fun a o => ?_
 refine dq 17 (St.ld u) o rfl (fun w hl => e_move o rfl) fun a o => ?_
 refine dq 18 (St.ld u) o rfl (fun w hl => e_subL (xs := p1) (vl := (IntKind.i64.wrap ((IntKind.i64.wrap (vB2 + 1)) + xz8.Body))) (vh := (IntKind.i64.wrap ((IntKind.i64.wrap ((IntKind.i64.wrap (vB2 + 1)) + xz8.Body)) + xz8.Else))) o runUnderlying46 sizeOf51 rfl hc4 rfl rfl h40 e43 e44) fun a o => ?_
 refine dq 19 (St.ld u) o rfl (fun w hl => e_move o rfl) fun a o => ?_
 refine da1 (i := 10) (by kernel_rfl) ?_
 refine di (i := 10) rfl <| c1 o rfl call111 (ih (hp_le _) hc35 (St.srH u hr36) h38) ⟨rfl, rfl, trivial⟩ (fun v w a hR o => ?_)
 obtain ⟨rfl, hk⟩ := hR
 replace u := u.pass hk
 refine ⟨fun _ => (St.ld u), ?_⟩
 refine da1 (i := 20) (by kernel_rfl) ?_
 refine di (i := 20) rfl <| c1 o rfl call111 (ih (hp_le _) hc45 (St.srH u hr46) h48) ⟨rfl, rfl, trivial⟩ (fun v w a hR o => ?_)
 obtain ⟨rfl, hk⟩ := hR
 replace u := u.pass hk
 refine ⟨fun _ => (St.ld u), ?_⟩
 refine dq 21 (St.ld u) o rfl (fun w hl => e_asg o rfl) fun a o => ?_
 refine dq 22 (St.ld u) o rfl (fun w hl => e_asg o rfl) fun a o => ?_
 refine de (by kernel_rfl) <| ?_
 refine tn <| th <| th <| rg <| qm o rfl fun a o => ?_
 refine qv o (e_eql o rfl rfl) fun a o => ?_
 refine qm o rfl fun a o => ?_
 refine grp (N := 131) (Fk := [(0, .slice oa2 p1.length cap3), (1, .int .i64 p6), (5, .int .i64 vB1), (8, .int .i64 (IntKind.i64.wrap ((IntKind.i64.wrap ((IntKind.i64.wrap (vB2 + 1)) + xz8.Body)) + xz8.Else))), (11, .int .i64 r37), (12, .int .i64 r47), (122, .bool ((decide (r37 = (-1))) || (decide (r47 = (-1)))))]) (b := (decide (r37 = (-1)))) 3 u ?_ ?_ ?_
 intro hb key
 replace o := Fr.as o (t := 119) rfl (congrArg Value.bool hb)
 iterate 2 refine qn o fun a o => ?_
 refine qv o (e_as (v' := .bool ((decide (r37 = (-1))) || (decide (r47 = (-1))))) (e_pickT o rfl rfl) (by rw [hb]; rfl)) fun a o => ?_
 exact key _ _ (o.hs) u
 intro hb key
 replace o := Fr.as o (t := 119) rfl (congrArg Value.bool hb)
 refine qg o (e_move o rfl) fun a o => ?_
 refine qg o (e_eql o rfl rfl) fun a o => ?_
 refine qv o (e_as (v' := .bool ((decide (r37 = (-1))) || (decide (r47 = (-1))))) (e_pickF o rfl rfl) (by rw [hb]; rfl)) fun a o => ?_
 exact key _ _ (o.hs) u
 intro a w o u
 refine re <| ?_
 rcases bdich ((decide (r37 = (-1))) || (decide (r47 = (-1)))) with hb49 | hb49
 replace hm := ite_t hm hb49
 refine tn <| ctv o rfl hb49 <| th <| ?_
 refine rg <| qa o rfl fun a o => ?_
 refine re <| tn <| wr <| tr <| tr <| br <| tr <| br <| tr <| ?_
 obtain rfl := si hm
 exact r1 o results111 rfl ⟨rfl, u.keep⟩
 replace hm := ite_f hm hb49
 refine tn <| cfv o rfl hb49 <| wk <| ?_
 refine tn <| rg <| qm o rfl fun a o => ?_
 refine qm o rfl fun a o => ?_
 refine qv o (e_add o rfl rfl) fun a o => ?_
 refine qm o rfl fun a o => ?_
 refine qv o (e_add o rfl rfl) fun a o => ?_
 refine qv o (e_max3 o rfl rfl rfl) fun a o => ?_
 refine qa o rfl fun a o => ?_
 refine re <| tn <| ?_
 replace u := u.pickL .nil
 exact ⟨(max (max vB1 (IntKind.i64.wrap (r37 + 1))) (IntKind.i64.wrap (r47 + 1))), hm, o.hs, u⟩
 replace hm := ite_f hm hb26
 refine cfv o rfl hb26 <| wk <| ?_
 refine tn <| ?_
 replace u := u.pickL .nil
 exact ⟨vB1, hm, o.hs, u⟩
 rintro a w ⟨vC2, hm, o, u⟩
 unfold Z8w at hm
 refine rg <| qm o rfl fun a o => ?_
 refine qa o rfl fun a o => ?_
 refine re <| bn <| tn <| ?_
 exact ⟨(nn2, vC2, (IntKind.i64.wrap ((IntKind.i64.wrap ((IntKind.i64.wrap (vB2 + 1)) + xz8.Body)) + xz8.Else))), ⟨hm, o.hs, u⟩, Nat.lt_succ_self _⟩
 replace hm := itp_f hm hb7
 refine tn <| cfv o rfl hb7 <| ?_
 refine we <| tx <| tx <| bx <| tn <| ?_
 exact ⟨vB1, hm, o.has ⟨rfl, trivial⟩, u⟩
 rintro a w ⟨vA1, hm, o, u⟩
 unfold Z8u at hm
 refine th <| rg <| qm o rfl fun a o => ?_
 refine qa o rfl fun a o => ?_
 refine re <| tn <| wr <| ?_
 obtain rfl := si hm
 exact r1 o results111 rfl ⟨rfl, u.keep⟩
theorem Z8r_c {N : Nat} {w0 : World} {H : PH} (hH : H.le w0) (hT : Tab H) {oa2 : Option Addr} {cap3 : Nat} {p1 : (List api_Stmt)} (hc4 : p1.length ≤ cap3) (hr5 : SR H oa2 p1) {r : Bool} (hm : Z8r N p1 = some r) : Tot Tryz.prog 69 #[.slice oa2 p1.length cap3] w0 (fun v w' => v = .bool r ∧ Keep Nil w0 w') := by
 unfold Z8r at hm
 refine fn0 func69 rfl ntmps69 rfl rfl fun a o => ?_
 have u : St w0 Nil [H] [] w0 := start1 hH
 refine th <| rg <| qa o rfl fun a o => ?_
 refine re <| tn <| th <| th <| midK (fun a w => ∃ (vA1 : Bool), (Z8s N p1) vA1 = some r ∧ Fr 19 [(0, .slice oa2 p1.length cap3), (10, .bool vA1)] a ∧ St w0 Nil [H] [] w) ?_ ?_
 rcases bdich (decide (40 < (p1.length : Int))) with hb6 | hb6
 replace hm := itp_t hm hb6
 refine rg <| qm o rfl fun a o => ?_
 refine qv o (e_lenL (α := api_Stmt) (xs := p1) o runUnderlying46 rfl) fun a o => ?_
 refine qv o (e_gtr o rfl rfl) fun a o => ?_
 refine qv o (e_as (e_move o rfl) (congrArg Value.bool hb6)) fun a o => ?_
 iterate 2 refine qn o fun a o => ?_
 refine qv o (e_pickT o rfl rfl) fun a o => ?_
 refine re <| tn <| ?_
 exact ⟨true, hm, o.has ⟨rfl, rfl, trivial⟩, u⟩
 replace hm := itp_f hm hb6
 obtain ⟨rz7, h8, hm⟩ := bs hm
 refine rg <| qm o rfl fun a o => ?_
 refine qv o (e_lenL (α := api_Stmt) (xs := p1) o runUnderlying46 rfl) fun a o => ?_
 refine qv o (e_gtr o rfl rfl) fun a o => ?_
 refine qv o (e_as (e_move o rfl) (congrArg Value.bool hb6)) fun a o => ?_
 refine qg o (e_move o rfl) fun a o => ?_
 refine ls <| gy o rfl rfl <| c1 o rfl call109 (Z7n_c (hp_le _) (Tab.mono hT (St.up u)) hc4 (St.srH u hr5) h8) ⟨rfl, rfl, trivial⟩ (fun v w a hR o => ?_)
 obtain ⟨rfl, hk⟩ := hR
 replace u := u.pass hk
 refine qv o (e_pickF o rfl rfl) fun a o => ?_
 refine re <| tn <| ?_
 exact ⟨rz7, hm, o.has ⟨rfl, rfl, trivial⟩, u⟩
 rintro a w ⟨vA1, hm, o, u⟩
 unfold Z8s at hm
 rcases bdich vA1 with hb9 | hb9
 replace hm := ite_t hm hb9
 refine ctv o rfl hb9 <| th <| ?_
 refine rg <| qa o rfl fun a o => ?_
 refine re <| tn <| wr <| tr <| ?_
 obtain rfl := si hm
 exact r1 o results69 rfl ⟨rfl, u.keep⟩
 replace hm := ite_f hm hb9
 refine cfv o rfl hb9 <| wk <| ?_
 refine tn <| th <| ?_
 obtain ⟨r10, h11, hm⟩ := bs hm
 refine rg <| qm o rfl fun a o => ?_
 refine ls <| c1 o rfl call111 (Z8t_c _ (hp_le _) hc4 (St.srH u hr5) h11) ⟨rfl, rfl, trivial⟩ (fun v w a hR o => ?_)
 obtain ⟨rfl, hk⟩ := hR
 replace u := u.pass hk
 refine qa o rfl fun a o => ?_
 refine re <| tn <| th <| rg <| qm o rfl fun a o => ?_
 refine qv o (e_neq o rfl rfl) fun a o => ?_
 refine qm o rfl fun a o => ?_
 refine grp (N := 19) (Fk := [(18, .bool ((decide (r10 ≠ (-1))) && (decide (r10 ≤ 12))))]) (b := (decide (r10 ≠ (-1)))) 3 u ?_ ?_ ?_
 intro hb key
 replace o := Fr.as o (t := 15) rfl (congrArg Value.bool hb)
 refine qg o (e_move o rfl) fun a o => ?_
 refine qg o (e_leq o rfl rfl) fun a o => ?_
 refine qv o (e_as (v' := .bool ((decide (r10 ≠ (-1))) && (decide (r10 ≤ 12)))) (e_pickT o rfl rfl) (by rw [hb]; rfl)) fun a o => ?_
 exact key _ _ (o.has ⟨rfl, trivial⟩) u
 intro hb key
 replace o := Fr.as o (t := 15) rfl (congrArg Value.bool hb)
 iterate 2 refine qn o fun a o => ?_
 refine qv o (e_as (v' := .bool ((decide (r10 ≠ (-1))) && (decide (r10 ≤ 12)))) (e_pickF o rfl rfl) (by rw [hb]; rfl)) fun a o => ?_
 exact key _ _ (o.has ⟨rfl, trivial⟩) u
 intro a w o u
 refine qa o rfl fun a o => ?_
 refine re <| tn <| wr <| ?_
 obtain rfl := si hm
 exact r1 o results69 rfl ⟨rfl, u.keep⟩
theorem Z6y_c {N : Nat} {w0 : World} {H : PH} (hH : H.le w0) (hT : Tab H) {cs2 : List Value} {p1 : api_Thread} (g3 : Enc.rep H cs2 p1) {r : Bool} (hm : Z6y N p1 = some r) : Tot Tryz.prog 83 #[.agg cs2.toArray] w0 (fun v w' => v = .bool r ∧ Keep Nil w0 w') := by
 unfold Z6y at hm
 refine fn0 func83 rfl ntmps83 rfl rfl fun a o => ?_
 have u : St w0 Nil [H] [] w0 := start1 hH
 obtain ⟨oa4, cap5, oa8, cap9, rfl, hc6, hr7, hc10, hr11⟩ := api_Thread_open g3
 refine th <| rg <| ls <| a_box (cs := [strv p1.Name, .slice oa4 p1.Regs.length cap5, .slice oa8 p1.Body.length cap9, .int .i64 p1.At].toArray) o rfl u rfl rfl fun b12 w a u o => ?_
 refine qa o rfl fun a o => ?_
 refine re <| tn <| th <| rg <| qa o rfl fun a o => ?_
 refine re <| tn <| th <| ?_
 obtain ⟨r13, h14, hm⟩ := bs hm
 rcases bdich r13 with hb15 | hb15
 replace hm := ite_t hm hb15
 obtain ⟨r16, h17, hm⟩ := bs hm
 rcases bdich r16 with hb18 | hb18
 replace hm := ite_t hm hb18
 have hb18' : (!r16) = false := by rw [hb18]; rfl
 refine rg <| qv o (e_fa o fa48_3 rfl) fun a o => ?_
 refine qv o (e_ld o isAgg3 rfl ((St.ld u).cellB (.head _) rfl)) fun a o => ?_
 refine ls <| c1 o rfl call86 (Z6x_c (hp_le _) h14) ⟨rfl, trivial⟩ (fun v w a hR o => ?_)
 obtain ⟨rfl, hk⟩ := hR
 replace u := u.pass hk
 refine qv o (e_as (e_move o rfl) (congrArg Value.bool hb15)) fun a o => ?_
 refine qg o (e_fa o fa48_1 rfl) fun a o => ?_
 refine qg o (e_ld o isAgg36 rfl ((St.ld u).cellB (.head _) rfl)) fun a o => ?_
 refine qg o (e_move o rfl) fun a o => ?_
 refine ls <| gy o rfl rfl <| c1 o rfl call123 (Z7r_c (hp_le _) (Tab.mono hT (St.up u)) hc6 (St.srH u hr7) h17) ⟨rfl, rfl, trivial⟩ (fun v w a hR o => ?_)
 obtain ⟨rfl, hk⟩ := hR
 replace u := u.pass hk
 refine qg o (e_not o rfl) fun a o => ?_
 refine qv o (e_pickT o rfl rfl) fun a o => ?_
 refine qv o (e_as (e_move o rfl) (congrArg Value.bool hb18')) fun a o => ?_
 iterate 3 refine qn o fun a o => ?_
 refine qv o (e_pickF o rfl rfl) fun a o => ?_
 refine qa o rfl fun a o => ?_
 refine re <| tn <| wr <| ?_
 obtain rfl := si hm
 exact r1 o results83 rfl ⟨rfl, u.keep⟩
 replace hm := ite_f hm hb18
 have hb18' : (!r16) = true := by rw [hb18]; rfl
 obtain ⟨r19, h20, hm⟩ := bs hm
 refine rg <| qv o (e_fa o fa48_3 rfl) fun a o => ?_
 refine qv o (e_ld o isAgg3 rfl ((St.ld u).cellB (.head _) rfl)) fun a o => ?_
 refine ls <| c1 o rfl call86 (Z6x_c (hp_le _) h14) ⟨rfl, trivial⟩ (fun v w a hR o => ?_)
 obtain ⟨rfl, hk⟩ := hR
 replace u := u.pass hk
 refine qv o (e_as (e_move o rfl) (congrArg Value.bool hb15)) fun a o => ?_
 refine qg o (e_fa o fa48_1 rfl) fun a o => ?_
 refine qg o (e_ld o isAgg36 rfl ((St.ld u).cellB (.head _) rfl)) fun a o => ?_
 refine qg o (e_move o rfl) fun a o => ?_
 refine ls <| gy o rfl rfl <| c1 o rfl call123 (Z7r_c (hp_le _) (Tab.mono hT (St.up u)) hc6 (St.srH u hr7) h17) ⟨rfl, rfl, trivial⟩ (fun v w a hR o => ?_)
 obtain ⟨rfl, hk⟩ := hR
 replace u := u.pass hk
 refine qg o (e_not o rfl) fun a o => ?_
 refine qv o (e_pickT o rfl rfl) fun a o => ?_
 refine qv o (e_as (e_move o rfl) (congrArg Value.bool hb18')) fun a o => ?_
 refine qg o (e_fa o fa48_2 rfl) fun a o => ?_
 refine qg o (e_ld o isAgg46 rfl ((St.ld u).cellB (.head _) rfl)) fun a o => ?_
 refine ls <| gy o rfl rfl <| c1 o rfl call69 (Z8r_c (hp_le _) (Tab.mono hT (St.up u)) hc10 (St.srH u hr11) h20) ⟨rfl, trivial⟩ (fun v w a hR o => ?_)
 obtain ⟨rfl, hk⟩ := hR
 replace u := u.pass hk
 refine qv o (e_pickT o rfl rfl) fun a o => ?_
 refine qa o rfl fun a o => ?_
 refine re <| tn <| wr <| ?_
 obtain rfl := si hm
 exact r1 o results83 rfl ⟨rfl, u.keep⟩
 replace hm := ite_f hm hb15
 refine rg <| qv o (e_fa o fa48_3 rfl) fun a o => ?_
 refine qv o (e_ld o isAgg3 rfl ((St.ld u).cellB (.head _) rfl)) fun a o => ?_
 refine ls <| c1 o rfl call86 (Z6x_c (hp_le _) h14) ⟨rfl, trivial⟩ (fun v w a hR o => ?_)
 obtain ⟨rfl, hk⟩ := hR
 replace u := u.pass hk
 refine qv o (e_as (e_move o rfl) (congrArg Value.bool hb15)) fun a o => ?_
 iterate 5 refine qn o fun a o => ?_
 refine qv o (e_pickF o rfl rfl) fun a o => ?_
 refine qm o rfl fun a o => ?_
 iterate 3 refine qn o fun a o => ?_
 refine qv o (e_pickF o rfl rfl) fun a o => ?_
 refine qa o rfl fun a o => ?_
 refine re <| tn <| wr <| ?_
 obtain rfl := si hm
 exact r1 o results83 rfl ⟨rfl, u.keep⟩
theorem Z6r_c {N : Nat} {w0 : World} {H : PH} (hH : H.le w0) (hT : Tab H) {cs2 : List Value} {p1 : api_Thread} (g3 : Enc.rep H cs2 p1) {r : Bool} (hm : Z6r N p1 = some r) : Tot Tryz.prog 81 #[.agg cs2.toArray] w0 (fun v w' => v = .bool r ∧ Keep Nil w0 w') := by
 unfold Z6r at hm
 refine fn0 func81 rfl ntmps81 rfl rfl fun a o => ?_
 have u : St w0 Nil [H] [] w0 := start1 hH
 obtain ⟨oa4, cap5, oa8, cap9, rfl, hc6, hr7, hc10, hr11⟩ := api_Thread_open g3
 refine th <| rg <| ls <| a_box (cs := [strv p1.Name, .slice oa4 p1.Regs.length cap5, .slice oa8 p1.Body.length cap9, .int .i64 p1.At].toArray) o rfl u rfl rfl fun b12 w a u o => ?_
 refine qa o rfl fun a o => ?_
 refine re <| tn <| th <| ?_
 obtain ⟨r13, h14, hm⟩ := bs hm
 rcases bdich r13 with hb15 | hb15
 replace hm := ite_t hm hb15
 have hb15' : (!r13) = false := by rw [hb15]; rfl
 obtain ⟨r16, h17, hm⟩ := bs hm
 refine rg <| qv o (e_fa o fa48_0 rfl) fun a o => ?_
 refine qv o (e_ld o isAgg9 rfl ((St.ld u).cellB (.head _) rfl)) fun a o => ?_
 refine ls <| c1 o rfl call82 (Z71_c (hp_le _) (Tab.mono hT (St.up u)) h14) ⟨rfl, trivial⟩ (fun v w a hR o => ?_)
 obtain ⟨rfl, hk⟩ := hR
 replace u := u.pass hk
 refine qv o (e_not o rfl) fun a o => ?_
 refine qv o (e_as (e_move o rfl) (congrArg Value.bool hb15')) fun a o => ?_
 refine qg o (e_ldA o isAgg48 sizeOf48 rfl rfl ((St.ld u).cellsB (.head _))) fun a o => ?_
 refine ls <| gy o rfl rfl <| c1 o rfl call83 (Z6y_c (hp_le _) (Tab.mono hT (St.up u)) (Enc.mono (St.up u) (show Enc.rep (α := api_Thread) H [strv p1.Name, .slice oa4 p1.Regs.length cap5, .slice oa8 p1.Body.length cap9, .int .i64 p1.At] p1 from ⟨_, _, rfl, rfl, ⟨_, _, rfl, ⟨_, _, rfl, hc6, hr7⟩, ⟨_, _, rfl, ⟨_, _, rfl, hc10, hr11⟩, rfl⟩⟩⟩)) h17) ⟨rfl, trivial⟩ (fun v w a hR o => ?_)
 obtain ⟨rfl, hk⟩ := hR
 replace u := u.pass hk
 refine qg o (e_not o rfl) fun a o => ?_
 refine qv o (e_pickF o rfl rfl) fun a o => ?_
 refine qa o rfl fun a o => ?_
 refine re <| tn <| wr <| ?_
 obtain rfl := si hm
 exact r1 o results81 rfl ⟨rfl, u.keep⟩
 replace hm := ite_f hm hb15
 have hb15' : (!r13) = true := by rw [hb15]; rfl
 refine rg <| qv o (e_fa o fa48_0 rfl) fun a o => ?_
 refine qv o (e_ld o isAgg9 rfl ((St.ld u).cellB (.head _) rfl)) fun a o => ?_
 refine ls <| c1 o rfl call82 (Z71_c (hp_le _) (Tab.mono hT (St.up u)) h14) ⟨rfl, trivial⟩ (fun v w a hR o => ?_)
 obtain ⟨rfl, hk⟩ := hR
 replace u := u.pass hk
 refine qv o (e_not o rfl) fun a o => ?_
 refine qv o (e_as (e_move o rfl) (congrArg Value.bool hb15')) fun a o => ?_
 iterate 3 refine qn o fun a o => ?_
 refine qv o (e_pickT o rfl rfl) fun a o => ?_
 refine qa o rfl fun a o => ?_
 refine re <| tn <| wr <| ?_
 obtain rfl := si hm
 exact r1 o results81 rfl ⟨rfl, u.keep⟩
theorem Z8b_c {N : Nat} {w0 : World} {H : PH} (hH : H.le w0) (hT : Tab H) {oa2 : Option Addr} {cap3 : Nat} {p1 : (List api_Thread)} (_ : p1.length ≤ cap3) (hr5 : SR H oa2 p1) {r : Int} (hm : Z8b N p1 = some r) : Tot Tryz.prog 130 #[.slice oa2 p1.length cap3, .func (.func 81) #[] #[]] w0 (fun v w' => v = .int .i64 r ∧ Keep Nil w0 w') := by
 unfold Z8b at hm
 refine fn0 func130 rfl ntmps130 rfl rfl fun a o => ?_
 have u : St w0 Nil [H] [] w0 := start1 hH
 refine th <| rg <| qa o rfl fun a o => ?_
 refine re <| tn <| th <| th <| rg <| qm o rfl fun a o => ?_
 refine qv o (e_lenL (α := api_Thread) (xs := p1) o runUnderlying24 rfl) fun a o => ?_
 refine qm o rfl fun a o => ?_
 refine re <| tn <| midK (fun a w => Z8c = some r ∧ Fr 19 [] a ∧ St w0 Nil [H] [] w) ?_ ?_
 refine wb <| lp (α := Nat × Int) (fun (gh : Nat × Int) a w => match gh with | (nn2, vB1) => (Z8d N Z8c p1) nn2 vB1 = some r ∧ Fr 19 [(0, .slice oa2 p1.length cap3), (1, .func (.func 81) #[] #[]), (7, .int .i64 (p1.length : Int)), (8, .int .i64 vB1)] a ∧ St w0 Nil [H] [] w) (fun gh => gh.1) (N, 0) ⟨hm, o.hs, u⟩ ?_
 rintro ⟨nn2, vB1⟩ a w ⟨hm, o, u⟩
 obtain _ | nn2 := nn2
 simp [Z8d] at hm
 rw [Z8d] at hm
 refine th <| rg <| qv o (e_lss o rfl rfl) fun a o => ?_
 refine re <| ?_
 rcases bdich (decide (vB1 < (p1.length : Int))) with hb6 | hb6
 replace hm := itp_t hm hb6
 refine tn <| th <| ctv o rfl hb6 <| wk <| ?_
 refine tn <| th <| wb <| th <| rg <| qm o rfl fun a o => ?_
 refine qa o rfl fun a o => ?_
 refine re <| tn <| th <| ?_
 obtain ⟨xz7, h8, hm⟩ := bs hm
 obtain ⟨cz9, g10, hl11⟩ := SR.get hr5 h8
 obtain ⟨oa12, cap13, oa16, cap17, rfl, hc14, hr15, hc18, hr19⟩ := api_Thread_open g10
 obtain ⟨r20, h21, hm⟩ := bs hm
 refine rg <| qm o rfl fun a o => ?_
 iterate 2 refine qm o rfl fun a o => ?_
 refine qv o (e_iaI o runUnderlying24 sizeOf48 rfl rfl h8 (SR.oaI hr5 (by decide) h8)) fun a o => ?_
 refine qv o (e_ldA o isAgg48 sizeOf48 rfl rfl (fun j v hj => PH.le.cell (Lds.le (St.ld u)) (hl11 j v hj))) fun a o => ?_
 refine ls <| k1 (vs := [.agg #[strv xz7.Name, .slice oa12 xz7.Regs.length cap13, .slice oa16 xz7.Body.length cap17, .int .i64 xz7.At]]) (caps := []) o rfl rfl call81 (Z6r_c (hp_le _) (Tab.mono hT (St.up u)) (Enc.mono (St.up u) (show Enc.rep (α := api_Thread) H [strv xz7.Name, .slice oa12 xz7.Regs.length cap13, .slice oa16 xz7.Body.length cap17, .int .i64 xz7.At] xz7 from ⟨_, _, rfl, rfl, ⟨_, _, rfl, ⟨_, _, rfl, hc14, hr15⟩, ⟨_, _, rfl, ⟨_, _, rfl, hc18, hr19⟩, rfl⟩⟩⟩)) h21) ⟨rfl, trivial⟩ rfl (fun v w a hR o => ?_)
 obtain ⟨rfl, hk⟩ := hR
 replace u := u.pass hk
 refine re <| ?_
 rcases bdich r20 with hb22 | hb22
 replace hm := ite_t hm hb22
 refine tn <| ctv o rfl hb22 <| th <| ?_
 refine rg <| qm o rfl fun a o => ?_
 refine qa o rfl fun a o => ?_
 refine re <| tn <| wr <| br <| tr <| tr <| br <| tr <| ?_
 obtain rfl := si hm
 exact r1 o results130 rfl ⟨rfl, u.keep⟩
 replace hm := ite_f hm hb22
 refine tn <| cfv o rfl hb22 <| wk <| ?_
 refine bn <| tn <| rg <| qv o (e_add o rfl rfl) fun a o => ?_
 refine qm o rfl fun a o => ?_
 refine re <| tn <| ?_
 exact ⟨(nn2, (IntKind.i64.wrap (vB1 + 1))), ⟨hm, o.hs, u⟩, Nat.lt_succ_self _⟩
 replace hm := itp_f hm hb6
 refine tn <| th <| cfv o rfl hb6 <| ?_
 refine we <| tx <| tx <| bx <| tn <| ?_
 exact ⟨hm, o.has trivial, u⟩
 rintro a w ⟨hm, o, u⟩
 unfold Z8c at hm
 refine th <| rg <| qa o rfl fun a o => ?_
 refine re <| tn <| wr <| ?_
 obtain rfl := si hm
 exact r1 o results130 rfl ⟨rfl, u.keep⟩
theorem Z7o_c {N : Nat} {w0 : World} {H : PH} (hH : H.le w0) (hT : Tab H) {oa2 : Option Addr} {cap3 : Nat} {p1 : (List api_Thread)} (hc4 : p1.length ≤ cap3) (hr5 : SR H oa2 p1) {r : Bool} (hm : Z7o N p1 = some r) : Tot Tryz.prog 89 #[.slice oa2 p1.length cap3, .func (.func 81) #[] #[]] w0 (fun v w' => v = .bool r ∧ Keep Nil w0 w') := by
 unfold Z7o at hm
 refine fn0 func89 rfl ntmps89 rfl rfl fun a o => ?_
 have u : St w0 Nil [H] [] w0 := start1 hH
 refine th <| rg <| qa o rfl fun a o => ?_
 refine re <| tn <| th <| ?_
 obtain ⟨rz6, h7, hm⟩ := bs hm
 refine rg <| qm o rfl fun a o => ?_
 refine qm o rfl fun a o => ?_
 refine ls <| c1 o rfl call130 (Z8b_c (hp_le _) (Tab.mono hT (St.up u)) hc4 (St.srH u hr5) h7) ⟨rfl, rfl, trivial⟩ (fun v w a hR o => ?_)
 obtain ⟨rfl, hk⟩ := hR
 replace u := u.pass hk
 refine qv o (e_geq o rfl rfl) fun a o => ?_
 refine qa o rfl fun a o => ?_
 refine re <| tn <| wr <| ?_
 obtain rfl := si hm
 exact r1 o results89 rfl ⟨rfl, u.keep⟩
theorem Z6s_c {N : Nat} {w0 : World} {H : PH} (hH : H.le w0) (hT : Tab H) {cs2 : List Value} {p1 : api_Thread} (g3 : Enc.rep H cs2 p1) {r : Bool} (hm : Z6s N p1 = some r) : Tot Tryz.prog 84 #[.agg cs2.toArray] w0 (fun v w' => v = .bool r ∧ Keep Nil w0 w') := by
 unfold Z6s at hm
 refine fn0 func84 rfl ntmps84 rfl rfl fun a o => ?_
 have u : St w0 Nil [H] [] w0 := start1 hH
 obtain ⟨oa4, cap5, oa8, cap9, rfl, hc6, hr7, hc10, hr11⟩ := api_Thread_open g3
 refine th <| rg <| ls <| a_box (cs := [strv p1.Name, .slice oa4 p1.Regs.length cap5, .slice oa8 p1.Body.length cap9, .int .i64 p1.At].toArray) o rfl u rfl rfl fun b12 w a u o => ?_
 refine qa o rfl fun a o => ?_
 refine re <| tn <| th <| ?_
 rcases bdich (decide (p1.Name ≠ [])) with hb13 | hb13
 replace hm := itp_t hm hb13
 refine rg <| qv o (e_fa o fa48_0 rfl) fun a o => ?_
 refine qv o (e_ld o isAgg9 rfl ((St.ld u).cellB (.head _) rfl)) fun a o => ?_
 refine qv o (e_neqU (m := p1.Name) (n := []) o rfl rfl) fun a o => ?_
 refine qv o (e_as (e_move o rfl) (congrArg Value.bool hb13)) fun a o => ?_
 iterate 3 refine qn o fun a o => ?_
 refine qv o (e_pickT o rfl rfl) fun a o => ?_
 refine qa o rfl fun a o => ?_
 refine re <| tn <| wr <| ?_
 obtain rfl := si hm
 exact r1 o results84 rfl ⟨rfl, u.keep⟩
 replace hm := itp_f hm hb13
 obtain ⟨r14, h15, hm⟩ := bs hm
 refine rg <| qv o (e_fa o fa48_0 rfl) fun a o => ?_
 refine qv o (e_ld o isAgg9 rfl ((St.ld u).cellB (.head _) rfl)) fun a o => ?_
 refine qv o (e_neqU (m := p1.Name) (n := []) o rfl rfl) fun a o => ?_
 refine qv o (e_as (e_move o rfl) (congrArg Value.bool hb13)) fun a o => ?_
 refine qg o (e_ldA o isAgg48 sizeOf48 rfl rfl ((St.ld u).cellsB (.head _))) fun a o => ?_
 refine ls <| gy o rfl rfl <| c1 o rfl call83 (Z6y_c (hp_le _) (Tab.mono hT (St.up u)) (Enc.mono (St.up u) (show Enc.rep (α := api_Thread) H [strv p1.Name, .slice oa4 p1.Regs.length cap5, .slice oa8 p1.Body.length cap9, .int .i64 p1.At] p1 from ⟨_, _, rfl, rfl, ⟨_, _, rfl, ⟨_, _, rfl, hc6, hr7⟩, ⟨_, _, rfl, ⟨_, _, rfl, hc10, hr11⟩, rfl⟩⟩⟩)) h15) ⟨rfl, trivial⟩ (fun v w a hR o => ?_)
 obtain ⟨rfl, hk⟩ := hR
 replace u := u.pass hk
 refine qg o (e_not o rfl) fun a o => ?_
 refine qv o (e_pickF o rfl rfl) fun a o => ?_
 refine qa o rfl fun a o => ?_
 refine re <| tn <| wr <| ?_
 obtain rfl := si hm
 exact r1 o results84 rfl ⟨rfl, u.keep⟩
theorem Z8e_c {N : Nat} {w0 : World} {H : PH} (hH : H.le w0) (hT : Tab H) {oa2 : Option Addr} {cap3 : Nat} {p1 : (List api_Thread)} (_ : p1.length ≤ cap3) (hr5 : SR H oa2 p1) {r : Int} (hm : Z8e N p1 = some r) : Tot Tryz.prog 130 #[.slice oa2 p1.length cap3, .func (.func 84) #[] #[]] w0 (fun v w' => v = .int .i64 r ∧ Keep Nil w0 w') := by
 unfold Z8e at hm
 refine fn0 func130 rfl ntmps130 rfl rfl fun a o => ?_
 have u : St w0 Nil [H] [] w0 := start1 hH
 refine th <| rg <| qa o rfl fun a o => ?_
 refine re <| tn <| th <| th <| rg <| qm o rfl fun a o => ?_
 refine qv o (e_lenL (α := api_Thread) (xs := p1) o runUnderlying24 rfl) fun a o => ?_
 refine qm o rfl fun a o => ?_
 refine re <| tn <| midK (fun a w => Z8f = some r ∧ Fr 19 [] a ∧ St w0 Nil [H] [] w) ?_ ?_
 refine wb <| lp (α := Nat × Int) (fun (gh : Nat × Int) a w => match gh with | (nn2, vB1) => (Z8g N Z8f p1) nn2 vB1 = some r ∧ Fr 19 [(0, .slice oa2 p1.length cap3), (1, .func (.func 84) #[] #[]), (7, .int .i64 (p1.length : Int)), (8, .int .i64 vB1)] a ∧ St w0 Nil [H] [] w) (fun gh => gh.1) (N, 0) ⟨hm, o.hs, u⟩ ?_
 rintro ⟨nn2, vB1⟩ a w ⟨hm, o, u⟩
 obtain _ | nn2 := nn2
 simp [Z8g] at hm
 rw [Z8g] at hm
 refine th <| rg <| qv o (e_lss o rfl rfl) fun a o => ?_
 refine re <| ?_
 rcases bdich (decide (vB1 < (p1.length : Int))) with hb6 | hb6
 replace hm := itp_t hm hb6
 refine tn <| th <| ctv o rfl hb6 <| wk <| ?_
 refine tn <| th <| wb <| th <| rg <| qm o rfl fun a o => ?_
 refine qa o rfl fun a o => ?_
 refine re <| tn <| th <| ?_
 obtain ⟨xz7, h8, hm⟩ := bs hm
 obtain ⟨cz9, g10, hl11⟩ := SR.get hr5 h8
 obtain ⟨oa12, cap13, oa16, cap17, rfl, hc14, hr15, hc18, hr19⟩ := api_Thread_open g10
 obtain ⟨r20, h21, hm⟩ := bs hm
 refine rg <| qm o rfl fun a o => ?_
 iterate 2 refine qm o rfl fun a o => ?_
 refine qv o (e_iaI o runUnderlying24 sizeOf48 rfl rfl h8 (SR.oaI hr5 (by decide) h8)) fun a o => ?_
 refine qv o (e_ldA o isAgg48 sizeOf48 rfl rfl (fun j v hj => PH.le.cell (Lds.le (St.ld u)) (hl11 j v hj))) fun a o => ?_
 refine ls <| k1 (vs := [.agg #[strv xz7.Name, .slice oa12 xz7.Regs.length cap13, .slice oa16 xz7.Body.length cap17, .int .i64 xz7.At]]) (caps := []) o rfl rfl call84 (Z6s_c (hp_le _) (Tab.mono hT (St.up u)) (Enc.mono (St.up u) (show Enc.rep (α := api_Thread) H [strv xz7.Name, .slice oa12 xz7.Regs.length cap13, .slice oa16 xz7.Body.length cap17, .int .i64 xz7.At] xz7 from ⟨_, _, rfl, rfl, ⟨_, _, rfl, ⟨_, _, rfl, hc14, hr15⟩, ⟨_, _, rfl, ⟨_, _, rfl, hc18, hr19⟩, rfl⟩⟩⟩)) h21) ⟨rfl, trivial⟩ rfl (fun v w a hR o => ?_)
 obtain ⟨rfl, hk⟩ := hR
 replace u := u.pass hk
 refine re <| ?_
 rcases bdich r20 with hb22 | hb22
 replace hm := ite_t hm hb22
 refine tn <| ctv o rfl hb22 <| th <| ?_
 refine rg <| qm o rfl fun a o => ?_
 refine qa o rfl fun a o => ?_
 refine re <| tn <| wr <| br <| tr <| tr <| br <| tr <| ?_
 obtain rfl := si hm
 exact r1 o results130 rfl ⟨rfl, u.keep⟩
 replace hm := ite_f hm hb22
 refine tn <| cfv o rfl hb22 <| wk <| ?_
 refine bn <| tn <| rg <| qv o (e_add o rfl rfl) fun a o => ?_
 refine qm o rfl fun a o => ?_
 refine re <| tn <| ?_
 exact ⟨(nn2, (IntKind.i64.wrap (vB1 + 1))), ⟨hm, o.hs, u⟩, Nat.lt_succ_self _⟩
 replace hm := itp_f hm hb6
 refine tn <| th <| cfv o rfl hb6 <| ?_
 refine we <| tx <| tx <| bx <| tn <| ?_
 exact ⟨hm, o.has trivial, u⟩
 rintro a w ⟨hm, o, u⟩
 unfold Z8f at hm
 refine th <| rg <| qa o rfl fun a o => ?_
 refine re <| tn <| wr <| ?_
 obtain rfl := si hm
 exact r1 o results130 rfl ⟨rfl, u.keep⟩
theorem Z7p_c {N : Nat} {w0 : World} {H : PH} (hH : H.le w0) (hT : Tab H) {oa2 : Option Addr} {cap3 : Nat} {p1 : (List api_Thread)} (hc4 : p1.length ≤ cap3) (hr5 : SR H oa2 p1) {r : Bool} (hm : Z7p N p1 = some r) : Tot Tryz.prog 89 #[.slice oa2 p1.length cap3, .func (.func 84) #[] #[]] w0 (fun v w' => v = .bool r ∧ Keep Nil w0 w') := by
 unfold Z7p at hm
 refine fn0 func89 rfl ntmps89 rfl rfl fun a o => ?_
 have u : St w0 Nil [H] [] w0 := start1 hH
 refine th <| rg <| qa o rfl fun a o => ?_
 refine re <| tn <| th <| ?_
 obtain ⟨rz6, h7, hm⟩ := bs hm
 refine rg <| qm o rfl fun a o => ?_
 refine qm o rfl fun a o => ?_
 refine ls <| c1 o rfl call130 (Z8e_c (hp_le _) (Tab.mono hT (St.up u)) hc4 (St.srH u hr5) h7) ⟨rfl, rfl, trivial⟩ (fun v w a hR o => ?_)
 obtain ⟨rfl, hk⟩ := hR
 replace u := u.pass hk
 refine qv o (e_geq o rfl rfl) fun a o => ?_
 refine qa o rfl fun a o => ?_
 refine re <| tn <| wr <| ?_
 obtain rfl := si hm
 exact r1 o results89 rfl ⟨rfl, u.keep⟩
theorem Z6t_c {N : Nat} {w0 : World} {H : PH} (hH : H.le w0) (hT : Tab H) {cs2 : List Value} {p1 : api_Claim} (g3 : Enc.rep H cs2 p1) {r : Bool} (hm : Z6t N p1 = some r) : Tot Tryz.prog 85 #[.agg cs2.toArray] w0 (fun v w' => v = .bool r ∧ Keep Nil w0 w') := by
 unfold Z6t at hm
 refine fn0 func85 rfl ntmps85 rfl rfl fun a o => ?_
 have u : St w0 Nil [H] [] w0 := start1 hH
 obtain ⟨oa4, cap5, rfl, hc6, hr7⟩ := api_Claim_open g3
 refine th <| rg <| ls <| a_box (cs := [.slice oa4 p1.E.length cap5, .int .i64 p1.At].toArray) o rfl u rfl rfl fun b8 w a u o => ?_
 refine qa o rfl fun a o => ?_
 refine re <| tn <| th <| ?_
 obtain ⟨rz9, h10, hm⟩ := bs hm
 rcases bdich rz9 with hb11 | hb11
 replace hm := ite_t hm hb11
 have hb11' : (!rz9) = false := by rw [hb11]; rfl
 obtain ⟨r12, h13, hm⟩ := bs hm
 refine rg <| qv o (e_fa o fa74_1 rfl) fun a o => ?_
 refine qv o (e_ld o isAgg3 rfl ((St.ld u).cellB (.head _) rfl)) fun a o => ?_
 refine ls <| c1 o rfl call86 (Z6x_c (hp_le _) h10) ⟨rfl, trivial⟩ (fun v w a hR o => ?_)
 obtain ⟨rfl, hk⟩ := hR
 replace u := u.pass hk
 refine qv o (e_not o rfl) fun a o => ?_
 refine qv o (e_as (e_move o rfl) (congrArg Value.bool hb11')) fun a o => ?_
 refine qg o (e_fa o fa74_0 rfl) fun a o => ?_
 refine qg o (e_ld o isAgg49 rfl ((St.ld u).cellB (.head _) rfl)) fun a o => ?_
 refine ls <| gy o rfl rfl <| c1 o rfl call87 (Zq_c (hp_le _) (Tab.mono hT (St.up u)) hc6 (St.srH u hr7) h13) ⟨rfl, trivial⟩ (fun v w a hR o => ?_)
 obtain ⟨rfl, hk⟩ := hR
 replace u := u.pass hk
 refine qg o (e_not o rfl) fun a o => ?_
 refine qv o (e_pickF o rfl rfl) fun a o => ?_
 refine qa o rfl fun a o => ?_
 refine re <| tn <| wr <| ?_
 obtain rfl := si hm
 exact r1 o results85 rfl ⟨rfl, u.keep⟩
 replace hm := ite_f hm hb11
 have hb11' : (!rz9) = true := by rw [hb11]; rfl
 refine rg <| qv o (e_fa o fa74_1 rfl) fun a o => ?_
 refine qv o (e_ld o isAgg3 rfl ((St.ld u).cellB (.head _) rfl)) fun a o => ?_
 refine ls <| c1 o rfl call86 (Z6x_c (hp_le _) h10) ⟨rfl, trivial⟩ (fun v w a hR o => ?_)
 obtain ⟨rfl, hk⟩ := hR
 replace u := u.pass hk
 refine qv o (e_not o rfl) fun a o => ?_
 refine qv o (e_as (e_move o rfl) (congrArg Value.bool hb11')) fun a o => ?_
 iterate 4 refine qn o fun a o => ?_
 refine qv o (e_pickT o rfl rfl) fun a o => ?_
 refine qa o rfl fun a o => ?_
 refine re <| tn <| wr <| ?_
 obtain rfl := si hm
 exact r1 o results85 rfl ⟨rfl, u.keep⟩
theorem Z82_c {N : Nat} {w0 : World} {H : PH} (hH : H.le w0) (hT : Tab H) {oa2 : Option Addr} {cap3 : Nat} {p1 : (List api_Claim)} (_ : p1.length ≤ cap3) (hr5 : SR H oa2 p1) {r : Int} (hm : Z82 N p1 = some r) : Tot Tryz.prog 131 #[.slice oa2 p1.length cap3, .func (.func 85) #[] #[]] w0 (fun v w' => v = .int .i64 r ∧ Keep Nil w0 w') := by
 unfold Z82 at hm
 refine fn0 func131 rfl ntmps131 rfl rfl fun a o => ?_
 have u : St w0 Nil [H] [] w0 := start1 hH
 refine th <| rg <| qa o rfl fun a o => ?_
 refine re <| tn <| th <| th <| rg <| qm o rfl fun a o => ?_
 refine qv o (e_lenL (α := api_Claim) (xs := p1) o runUnderlying25 rfl) fun a o => ?_
 refine qm o rfl fun a o => ?_
 refine re <| tn <| midK (fun a w => Z83 = some r ∧ Fr 19 [] a ∧ St w0 Nil [H] [] w) ?_ ?_
 refine wb <| lp (α := Nat × Int) (fun (gh : Nat × Int) a w => match gh with | (nn2, vB1) => (Z84 N Z83 p1) nn2 vB1 = some r ∧ Fr 19 [(0, .slice oa2 p1.length cap3), (1, .func (.func 85) #[] #[]), (7, .int .i64 (p1.length : Int)), (8, .int .i64 vB1)] a ∧ St w0 Nil [H] [] w) (fun gh => gh.1) (N, 0) ⟨hm, o.hs, u⟩ ?_
 rintro ⟨nn2, vB1⟩ a w ⟨hm, o, u⟩
 obtain _ | nn2 := nn2
 simp [Z84] at hm
 rw [Z84] at hm
 refine th <| rg <| qv o (e_lss o rfl rfl) fun a o => ?_
 refine re <| ?_
 rcases bdich (decide (vB1 < (p1.length : Int))) with hb6 | hb6
 replace hm := itp_t hm hb6
 refine tn <| th <| ctv o rfl hb6 <| wk <| ?_
 refine tn <| th <| wb <| th <| rg <| qm o rfl fun a o => ?_
 refine qa o rfl fun a o => ?_
 refine re <| tn <| th <| ?_
 obtain ⟨xz7, h8, hm⟩ := bs hm
 obtain ⟨cz9, g10, hl11⟩ := SR.get hr5 h8
 obtain ⟨oa12, cap13, rfl, hc14, hr15⟩ := api_Claim_open g10
 obtain ⟨r16, h17, hm⟩ := bs hm
 refine rg <| qm o rfl fun a o => ?_
 iterate 2 refine qm o rfl fun a o => ?_
 refine qv o (e_iaI o runUnderlying25 sizeOf74 rfl rfl h8 (SR.oaI hr5 (by decide) h8)) fun a o => ?_
 refine qv o (e_ldA o isAgg74 sizeOf74 rfl rfl (fun j v hj => PH.le.cell (Lds.le (St.ld u)) (hl11 j v hj))) fun a o => ?_
 refine ls <| k1 (vs := [.agg #[.slice oa12 xz7.E.length cap13, .int .i64 xz7.At]]) (caps := []) o rfl rfl call85 (Z6t_c (hp_le _) (Tab.mono hT (St.up u)) (Enc.mono (St.up u) (show Enc.rep (α := api_Claim) H [.slice oa12 xz7.E.length cap13, .int .i64 xz7.At] xz7 from ⟨_, _, rfl, ⟨_, _, rfl, hc14, hr15⟩, rfl⟩)) h17) ⟨rfl, trivial⟩ rfl (fun v w a hR o => ?_)
 obtain ⟨rfl, hk⟩ := hR
 replace u := u.pass hk
 refine re <| ?_
 rcases bdich r16 with hb18 | hb18
 replace hm := ite_t hm hb18
 refine tn <| ctv o rfl hb18 <| th <| ?_
 refine rg <| qm o rfl fun a o => ?_
 refine qa o rfl fun a o => ?_
 refine re <| tn <| wr <| br <| tr <| tr <| br <| tr <| ?_
 obtain rfl := si hm
 exact r1 o results131 rfl ⟨rfl, u.keep⟩
 replace hm := ite_f hm hb18
 refine tn <| cfv o rfl hb18 <| wk <| ?_
 refine bn <| tn <| rg <| qv o (e_add o rfl rfl) fun a o => ?_
 refine qm o rfl fun a o => ?_
 refine re <| tn <| ?_
 exact ⟨(nn2, (IntKind.i64.wrap (vB1 + 1))), ⟨hm, o.hs, u⟩, Nat.lt_succ_self _⟩
 replace hm := itp_f hm hb6
 refine tn <| th <| cfv o rfl hb6 <| ?_
 refine we <| tx <| tx <| bx <| tn <| ?_
 exact ⟨hm, o.has trivial, u⟩
 rintro a w ⟨hm, o, u⟩
 unfold Z83 at hm
 refine th <| rg <| qa o rfl fun a o => ?_
 refine re <| tn <| wr <| ?_
 obtain rfl := si hm
 exact r1 o results131 rfl ⟨rfl, u.keep⟩
theorem Z7l_c {N : Nat} {w0 : World} {H : PH} (hH : H.le w0) (hT : Tab H) {oa2 : Option Addr} {cap3 : Nat} {p1 : (List api_Claim)} (hc4 : p1.length ≤ cap3) (hr5 : SR H oa2 p1) {r : Bool} (hm : Z7l N p1 = some r) : Tot Tryz.prog 90 #[.slice oa2 p1.length cap3, .func (.func 85) #[] #[]] w0 (fun v w' => v = .bool r ∧ Keep Nil w0 w') := by
 unfold Z7l at hm
 refine fn0 func90 rfl ntmps90 rfl rfl fun a o => ?_
 have u : St w0 Nil [H] [] w0 := start1 hH
 refine th <| rg <| qa o rfl fun a o => ?_
 refine re <| tn <| th <| ?_
 obtain ⟨rz6, h7, hm⟩ := bs hm
 refine rg <| qm o rfl fun a o => ?_
 refine qm o rfl fun a o => ?_
 refine ls <| c1 o rfl call131 (Z82_c (hp_le _) (Tab.mono hT (St.up u)) hc4 (St.srH u hr5) h7) ⟨rfl, rfl, trivial⟩ (fun v w a hR o => ?_)
 obtain ⟨rfl, hk⟩ := hR
 replace u := u.pass hk
 refine qv o (e_geq o rfl rfl) fun a o => ?_
 refine qa o rfl fun a o => ?_
 refine re <| tn <| wr <| ?_
 obtain rfl := si hm
 exact r1 o results90 rfl ⟨rfl, u.keep⟩
theorem Z6p_c {N : Nat} {w0 : World} {H : PH} (hH : H.le w0) (hT : Tab H) {cs2 : List Value} {p1 : api_Prog} (g3 : Enc.rep H cs2 p1) {r : Bool} (hm : Z6p N p1 = some r) : Tot Tryz.prog 50 #[.agg cs2.toArray] w0 (fun v w' => v = .bool r ∧ Keep Nil w0 w') := by
 unfold Z6p at hm
 refine fn0 func50 rfl ntmps50 rfl rfl fun a o => ?_
 have u : St w0 Nil [H] [] w0 := start1 hH
 obtain ⟨oa4, cap5, oa8, cap9, oa12, cap13, oa16, cap17, oa20, cap21, oa24, cap25, rfl, hc6, hr7, hc10, hr11, hc14, hr15, hc18, hr19, hc22, hr23, hc26, hr27⟩ := api_Prog_open g3
 refine th <| rg <| ls <| a_box (cs := [.slice oa4 p1.Lines.length cap5, .slice oa8 p1.Vols.length cap9, .slice oa12 p1.Locks.length cap13, .slice oa16 p1.Threads.length cap17, .slice oa20 p1.Recover.length cap21, .slice oa24 p1.Claims.length cap25].toArray) o rfl u rfl rfl fun b28 w a u o => ?_
 refine qa o rfl fun a o => ?_
 iterate 4 refine re <| tn <| th <| rg <| qa o rfl fun a o => ?_
 refine re <| tn <| th <| wb <| th <| th <| ?_
 obtain ⟨r29, h30, hm⟩ := bs hm
 refine rg <| qv o (e_fa o fa27_0 rfl) fun a o => ?_
 refine qv o (e_ld o isAgg22 rfl ((St.ld u).cellB (.head _) rfl)) fun a o => ?_
 refine qm o rfl fun a o => ?_
 refine ls <| c1 o rfl call88 (Z7i_c (hp_le _) (Tab.mono hT (St.up u)) hc6 (St.srH u hr7) h30) ⟨rfl, rfl, trivial⟩ (fun v w a hR o => ?_)
 obtain ⟨rfl, hk⟩ := hR
 replace u := u.pass hk
 refine qa o rfl fun a o => ?_
 refine re <| tn <| midK (fun a w => ∃ (vA1 : Bool), (Z6u N p1) vA1 = some r ∧ Fr 43 [(1, .pointer (some ⟨b28, 0, none⟩)), (4, .func (.func 81) #[] #[]), (5, .func (.func 84) #[] #[]), (6, .func (.func 85) #[] #[]), (7, .bool vA1)] a ∧ St w0 Nil [H] [blk b28 (.cells [.slice oa4 p1.Lines.length cap5, .slice oa8 p1.Vols.length cap9, .slice oa12 p1.Locks.length cap13, .slice oa16 p1.Threads.length cap17, .slice oa20 p1.Recover.length cap21, .slice oa24 p1.Claims.length cap25].toArray 27 (0, 0))] w) ?_ ?_
 rcases bdich r29 with hb31 | hb31
 replace hm := ite_t hm hb31
 refine ctv o rfl hb31 <| wk <| ?_
 refine tn <| ?_
 exact ⟨r29, hm, o.hs, u⟩
 replace hm := ite_f hm hb31
 refine cfv o rfl hb31 <| th <| ?_
 obtain ⟨r32, h33, hm⟩ := bs hm
 refine rg <| qv o (e_fa o fa27_1 rfl) fun a o => ?_
 refine qv o (e_ld o isAgg23 rfl ((St.ld u).cellB (.head _) rfl)) fun a o => ?_
 refine ls <| c1 o rfl call80 (Z6v_c (hp_le _) (Tab.mono hT (St.up u)) hc10 (St.srH u hr11) h33) ⟨rfl, rfl, trivial⟩ (fun v w a hR o => ?_)
 obtain ⟨rfl, hk⟩ := hR
 replace u := u.pass hk
 refine qv o (e_not o rfl) fun a o => ?_
 refine qa o rfl fun a o => ?_
 refine re <| ?_
 rcases bdich r32 with hb34 | hb34
 replace hm := ite_t hm hb34
 refine tn <| cfv o rfl (by rw [hb34]; rfl) <| th <| ?_
 obtain ⟨r35, h36, hm⟩ := bs hm
 refine rg <| qv o (e_fa o fa27_2 rfl) fun a o => ?_
 refine qv o (e_ld o isAgg23 rfl ((St.ld u).cellB (.head _) rfl)) fun a o => ?_
 refine ls <| c1 o rfl call80 (Z6v_c (hp_le _) (Tab.mono hT (St.up u)) hc14 (St.srH u hr15) h36) ⟨rfl, rfl, trivial⟩ (fun v w a hR o => ?_)
 obtain ⟨rfl, hk⟩ := hR
 replace u := u.pass hk
 refine qv o (e_not o rfl) fun a o => ?_
 refine qa o rfl fun a o => ?_
 refine re <| ?_
 rcases bdich r35 with hb37 | hb37
 replace hm := ite_t hm hb37
 refine tn <| cfv o rfl (by rw [hb37]; rfl) <| ?_
 refine rg <| qv o (e_fa o fa27_4 rfl) fun a o => ?_
 refine qv o (e_ld o isAgg24 rfl ((St.ld u).cellB (.head _) rfl)) fun a o => ?_
 refine qv o (e_lenL (α := api_Thread) (xs := p1.Recover) o runUnderlying24 rfl) fun a o => ?_
 refine qv o (e_gtr o rfl rfl) fun a o => ?_
 refine qa o rfl fun a o => ?_
 refine re <| tn <| ?_
 exact ⟨(decide (1 < (p1.Recover.length : Int))), hm, o.hs, u⟩
 replace hm := ite_f hm hb37
 refine tn <| ctv o rfl (by rw [hb37]; rfl) <| wk <| ?_
 refine tn <| ?_
 exact ⟨(!r35), hm, o.hs, u⟩
 replace hm := ite_f hm hb34
 refine tn <| ctv o rfl (by rw [hb34]; rfl) <| wk <| ?_
 refine tn <| ?_
 exact ⟨(!r32), hm, o.hs, u⟩
 rintro a w ⟨vA1, hm, o, u⟩
 unfold Z6u at hm
 rcases bdich vA1 with hb38 | hb38
 replace hm := ite_t hm hb38
 refine ctv o rfl hb38 <| th <| ?_
 refine rg <| qa o rfl fun a o => ?_
 refine re <| tn <| wr <| br <| tr <| ?_
 obtain rfl := si hm
 exact r1 o results50 rfl ⟨rfl, u.keep⟩
 replace hm := ite_f hm hb38
 refine cfv o rfl hb38 <| wk <| ?_
 refine bn <| tn <| th <| ?_
 obtain ⟨r39, h40, hm⟩ := bs hm
 rcases bdich r39 with hb41 | hb41
 replace hm := ite_t hm hb41
 have hb41' : (!r39) = false := by rw [hb41]; rfl
 refine rg <| qv o (e_fa o fa27_3 rfl) fun a o => ?_
 refine qv o (e_ld o isAgg24 rfl ((St.ld u).cellB (.head _) rfl)) fun a o => ?_
 refine qm o rfl fun a o => ?_
 refine ls <| c1 o rfl call89 (Z7o_c (hp_le _) (Tab.mono hT (St.up u)) hc18 (St.srH u hr19) h40) ⟨rfl, rfl, trivial⟩ (fun v w a hR o => ?_)
 obtain ⟨rfl, hk⟩ := hR
 replace u := u.pass hk
 refine qv o (e_not o rfl) fun a o => ?_
 refine qv o (e_as (e_move o rfl) (congrArg Value.bool hb41')) fun a o => ?_
 iterate 5 refine qn o fun a o => ?_
 refine qv o (e_pickF o rfl rfl) fun a o => ?_
 refine qm o rfl fun a o => ?_
 iterate 5 refine qn o fun a o => ?_
 refine qv o (e_pickF o rfl rfl) fun a o => ?_
 refine qa o rfl fun a o => ?_
 refine re <| tn <| wr <| ?_
 obtain rfl := si hm
 exact r1 o results50 rfl ⟨rfl, u.keep⟩
 replace hm := ite_f hm hb41
 have hb41' : (!r39) = true := by rw [hb41]; rfl
 obtain ⟨r42, h43, hm⟩ := bs hm
 rcases bdich r42 with hb44 | hb44
 replace hm := ite_t hm hb44
 have hb44' : (!r42) = false := by rw [hb44]; rfl
 refine rg <| qv o (e_fa o fa27_3 rfl) fun a o => ?_
 refine qv o (e_ld o isAgg24 rfl ((St.ld u).cellB (.head _) rfl)) fun a o => ?_
 refine qm o rfl fun a o => ?_
 refine ls <| c1 o rfl call89 (Z7o_c (hp_le _) (Tab.mono hT (St.up u)) hc18 (St.srH u hr19) h40) ⟨rfl, rfl, trivial⟩ (fun v w a hR o => ?_)
 obtain ⟨rfl, hk⟩ := hR
 replace u := u.pass hk
 refine qv o (e_not o rfl) fun a o => ?_
 refine qv o (e_as (e_move o rfl) (congrArg Value.bool hb41')) fun a o => ?_
 refine qg o (e_fa o fa27_4 rfl) fun a o => ?_
 refine qg o (e_ld o isAgg24 rfl ((St.ld u).cellB (.head _) rfl)) fun a o => ?_
 refine qg o (e_move o rfl) fun a o => ?_
 refine ls <| gy o rfl rfl <| c1 o rfl call89 (Z7p_c (hp_le _) (Tab.mono hT (St.up u)) hc22 (St.srH u hr23) h43) ⟨rfl, rfl, trivial⟩ (fun v w a hR o => ?_)
 obtain ⟨rfl, hk⟩ := hR
 replace u := u.pass hk
 refine qg o (e_not o rfl) fun a o => ?_
 refine qv o (e_pickT o rfl rfl) fun a o => ?_
 refine qv o (e_as (e_move o rfl) (congrArg Value.bool hb44')) fun a o => ?_
 iterate 5 refine qn o fun a o => ?_
 refine qv o (e_pickF o rfl rfl) fun a o => ?_
 refine qa o rfl fun a o => ?_
 refine re <| tn <| wr <| ?_
 obtain rfl := si hm
 exact r1 o results50 rfl ⟨rfl, u.keep⟩
 replace hm := ite_f hm hb44
 have hb44' : (!r42) = true := by rw [hb44]; rfl
 obtain ⟨r45, h46, hm⟩ := bs hm
 refine rg <| qv o (e_fa o fa27_3 rfl) fun a o => ?_
 refine qv o (e_ld o isAgg24 rfl ((St.ld u).cellB (.head _) rfl)) fun a o => ?_
 refine qm o rfl fun a o => ?_
 refine ls <| c1 o rfl call89 (Z7o_c (hp_le _) (Tab.mono hT (St.up u)) hc18 (St.srH u hr19) h40) ⟨rfl, rfl, trivial⟩ (fun v w a hR o => ?_)
 obtain ⟨rfl, hk⟩ := hR
 replace u := u.pass hk
 refine qv o (e_not o rfl) fun a o => ?_
 refine qv o (e_as (e_move o rfl) (congrArg Value.bool hb41')) fun a o => ?_
 refine qg o (e_fa o fa27_4 rfl) fun a o => ?_
 refine qg o (e_ld o isAgg24 rfl ((St.ld u).cellB (.head _) rfl)) fun a o => ?_
 refine qg o (e_move o rfl) fun a o => ?_
 refine ls <| gy o rfl rfl <| c1 o rfl call89 (Z7p_c (hp_le _) (Tab.mono hT (St.up u)) hc22 (St.srH u hr23) h43) ⟨rfl, rfl, trivial⟩ (fun v w a hR o => ?_)
 obtain ⟨rfl, hk⟩ := hR
 replace u := u.pass hk
 refine qg o (e_not o rfl) fun a o => ?_
 refine qv o (e_pickT o rfl rfl) fun a o => ?_
 refine qv o (e_as (e_move o rfl) (congrArg Value.bool hb44')) fun a o => ?_
 refine qg o (e_fa o fa27_5 rfl) fun a o => ?_
 refine qg o (e_ld o isAgg25 rfl ((St.ld u).cellB (.head _) rfl)) fun a o => ?_
 refine qg o (e_move o rfl) fun a o => ?_
 refine ls <| gy o rfl rfl <| c1 o rfl call90 (Z7l_c (hp_le _) (Tab.mono hT (St.up u)) hc26 (St.srH u hr27) h46) ⟨rfl, rfl, trivial⟩ (fun v w a hR o => ?_)
 obtain ⟨rfl, hk⟩ := hR
 replace u := u.pass hk
 refine qg o (e_not o rfl) fun a o => ?_
 refine qv o (e_pickT o rfl rfl) fun a o => ?_
 refine qa o rfl fun a o => ?_
 refine re <| tn <| wr <| ?_
 obtain rfl := si hm
 exact r1 o results50 rfl ⟨rfl, u.keep⟩
theorem Z5t_c {N : Nat} {w0 : World} {H : PH} (hH : H.le w0) {oa2 : Option Addr} {cap3 : Nat} {p1 : (List api_Cell)} (_ : p1.length ≤ cap3) (_ : SR H oa2 p1) {r : Bool} (hm : Z5t N p1 = some r) : Tot Tryz.prog 91 #[.slice oa2 p1.length cap3] w0 (fun v w' => v = .bool r ∧ Keep Nil w0 w') := by
 unfold Z5t at hm
 refine fn0 func91 rfl ntmps91 rfl rfl fun a o => ?_
 have u : St w0 Nil [H] [] w0 := start1 hH
 refine th <| rg <| qa o rfl fun a o => ?_
 refine re <| tn <| th <| rg <| qm o rfl fun a o => ?_
 refine qv o (e_lenL (α := api_Cell) (xs := p1) o runUnderlying23 rfl) fun a o => ?_
 refine qv o (e_gtr o rfl rfl) fun a o => ?_
 refine qa o rfl fun a o => ?_
 refine re <| tn <| wr <| ?_
 obtain rfl := si hm
 exact r1 o results91 rfl ⟨rfl, u.keep⟩
theorem Z7w_c {N : Nat} {w0 : World} {H : PH} (hH : H.le w0) {oa2 : Option Addr} {cap3 : Nat} {p1 : (List (List api_Cell))} (_ : p1.length ≤ cap3) (hr5 : SR H oa2 p1) {r : Int} (hm : Z7w N p1 = some r) : Tot Tryz.prog 129 #[.slice oa2 p1.length cap3, .func (.func 91) #[] #[]] w0 (fun v w' => v = .int .i64 r ∧ Keep Nil w0 w') := by
 unfold Z7w at hm
 refine fn0 func129 rfl ntmps129 rfl rfl fun a o => ?_
 have u : St w0 Nil [H] [] w0 := start1 hH
 refine th <| rg <| qa o rfl fun a o => ?_
 refine re <| tn <| th <| th <| rg <| qm o rfl fun a o => ?_
 refine qv o (e_lenL (α := (List api_Cell)) (xs := p1) o runUnderlying22 rfl) fun a o => ?_
 refine qm o rfl fun a o => ?_
 refine re <| tn <| midK (fun a w => Z7x = some r ∧ Fr 19 [] a ∧ St w0 Nil [H] [] w) ?_ ?_
 refine wb <| lp (α := Nat × Int) (fun (gh : Nat × Int) a w => match gh with | (nn2, vB1) => (Z7y N Z7x p1) nn2 vB1 = some r ∧ Fr 19 [(0, .slice oa2 p1.length cap3), (1, .func (.func 91) #[] #[]), (7, .int .i64 (p1.length : Int)), (8, .int .i64 vB1)] a ∧ St w0 Nil [H] [] w) (fun gh => gh.1) (N, 0) ⟨hm, o.hs, u⟩ ?_
 rintro ⟨nn2, vB1⟩ a w ⟨hm, o, u⟩
 obtain _ | nn2 := nn2
 simp [Z7y] at hm
 rw [Z7y] at hm
 refine th <| rg <| qv o (e_lss o rfl rfl) fun a o => ?_
 refine re <| ?_
 rcases bdich (decide (vB1 < (p1.length : Int))) with hb6 | hb6
 replace hm := itp_t hm hb6
 refine tn <| th <| ctv o rfl hb6 <| wk <| ?_
 refine tn <| th <| wb <| th <| rg <| qm o rfl fun a o => ?_
 refine qa o rfl fun a o => ?_
 refine re <| tn <| th <| ?_
 obtain ⟨xz7, h8, hm⟩ := bs hm
 obtain ⟨cz9, g10, hl11⟩ := SR.get hr5 h8
 obtain ⟨oa12, cap13, rfl, hc14, hr15⟩ := g10
 obtain ⟨r16, h17, hm⟩ := bs hm
 refine rg <| qm o rfl fun a o => ?_
 iterate 2 refine qm o rfl fun a o => ?_
 refine qv o (e_iaI o runUnderlying22 sizeOf23 rfl rfl h8 (SR.oaI hr5 (by decide) h8)) fun a o => ?_
 refine qv o (e_ld o isAgg23 rfl (PH.le.cell (Lds.le (St.ld u)) (hl11 0 _ rfl))) fun a o => ?_
 refine ls <| k1 (vs := [.slice oa12 xz7.length cap13]) (caps := []) o rfl rfl call91 (Z5t_c (hp_le _) hc14 (St.srH u hr15) h17) ⟨rfl, trivial⟩ rfl (fun v w a hR o => ?_)
 obtain ⟨rfl, hk⟩ := hR
 replace u := u.pass hk
 refine re <| ?_
 rcases bdich r16 with hb18 | hb18
 replace hm := ite_t hm hb18
 refine tn <| ctv o rfl hb18 <| th <| ?_
 refine rg <| qm o rfl fun a o => ?_
 refine qa o rfl fun a o => ?_
 refine re <| tn <| wr <| br <| tr <| tr <| br <| tr <| ?_
 obtain rfl := si hm
 exact r1 o results129 rfl ⟨rfl, u.keep⟩
 replace hm := ite_f hm hb18
 refine tn <| cfv o rfl hb18 <| wk <| ?_
 refine bn <| tn <| rg <| qv o (e_add o rfl rfl) fun a o => ?_
 refine qm o rfl fun a o => ?_
 refine re <| tn <| ?_
 exact ⟨(nn2, (IntKind.i64.wrap (vB1 + 1))), ⟨hm, o.hs, u⟩, Nat.lt_succ_self _⟩
 replace hm := itp_f hm hb6
 refine tn <| th <| cfv o rfl hb6 <| ?_
 refine we <| tx <| tx <| bx <| tn <| ?_
 exact ⟨hm, o.has trivial, u⟩
 rintro a w ⟨hm, o, u⟩
 unfold Z7x at hm
 refine th <| rg <| qa o rfl fun a o => ?_
 refine re <| tn <| wr <| ?_
 obtain rfl := si hm
 exact r1 o results129 rfl ⟨rfl, u.keep⟩
theorem Z7j_c {N : Nat} {w0 : World} {H : PH} (hH : H.le w0) {oa2 : Option Addr} {cap3 : Nat} {p1 : (List (List api_Cell))} (hc4 : p1.length ≤ cap3) (hr5 : SR H oa2 p1) {r : Bool} (hm : Z7j N p1 = some r) : Tot Tryz.prog 88 #[.slice oa2 p1.length cap3, .func (.func 91) #[] #[]] w0 (fun v w' => v = .bool r ∧ Keep Nil w0 w') := by
 unfold Z7j at hm
 refine fn0 func88 rfl ntmps88 rfl rfl fun a o => ?_
 have u : St w0 Nil [H] [] w0 := start1 hH
 refine th <| rg <| qa o rfl fun a o => ?_
 refine re <| tn <| th <| ?_
 obtain ⟨rz6, h7, hm⟩ := bs hm
 refine rg <| qm o rfl fun a o => ?_
 refine qm o rfl fun a o => ?_
 refine ls <| c1 o rfl call129 (Z7w_c (hp_le _) hc4 (St.srH u hr5) h7) ⟨rfl, rfl, trivial⟩ (fun v w a hR o => ?_)
 obtain ⟨rfl, hk⟩ := hR
 replace u := u.pass hk
 refine qv o (e_geq o rfl rfl) fun a o => ?_
 refine qa o rfl fun a o => ?_
 refine re <| tn <| wr <| ?_
 obtain rfl := si hm
 exact r1 o results88 rfl ⟨rfl, u.keep⟩
theorem Z7d_c {N : Nat} {w0 : World} {H : PH} (hH : H.le w0) {oa2 : Option Addr} {cap3 : Nat} {p1 : (List (List api_Thread))} (_ : p1.length ≤ cap3) (hr5 : SR H oa2 p1) {r : (List api_Thread)} (hm : Z7d N p1 = some r) : Tot Tryz.prog 93 #[.slice oa2 p1.length cap3] w0 (fun v w' => ∃ (H' : PH) (oa0 : Option Addr) (cap0 : Nat), v = .slice oa0 r.length cap0 ∧ r.length ≤ cap0 ∧ SR H' oa0 r ∧ Ext w0 H H' ∧ H'.le w' ∧ Keep Nil w0 w') := by
 unfold Z7d at hm
 refine fn0 func93 rfl ntmps93 rfl rfl fun a o => ?_
 have u : St w0 Nil [H] [] w0 := start1 hH
 refine th <| rg <| qa o rfl fun a o => ?_
 refine re <| tn <| th <| rg <| qa o rfl fun a o => ?_
 refine re <| tn <| th <| th <| rg <| qm o rfl fun a o => ?_
 refine qv o (e_lenL (α := (List api_Thread)) (xs := p1) o runUnderlying147 rfl) fun a o => ?_
 refine qm o rfl fun a o => ?_
 refine re <| tn <| midK (fun a w => ∃ (vA1 : Int), (Z7e N p1) vA1 = some r ∧ Fr 36 [(0, .slice oa2 p1.length cap3), (3, .int .i64 vA1)] a ∧ St w0 Nil [H] [] w) ?_ ?_
 refine wb <| lp (α := Nat × Int × Int) (fun (gh : Nat × Int × Int) a w => match gh with | (nn2, vB1, vB2) => (Z7g N (Z7e N p1) p1) nn2 vB1 vB2 = some r ∧ Fr 36 [(0, .slice oa2 p1.length cap3), (3, .int .i64 vB1), (9, .slice oa2 p1.length cap3), (10, .int .i64 (p1.length : Int)), (11, .int .i64 vB2)] a ∧ St w0 Nil [H] [] w) (fun gh => gh.1) (N, 0, 0) ⟨hm, o.hs, u⟩ ?_
 rintro ⟨nn2, vB1, vB2⟩ a w ⟨hm, o, u⟩
 obtain _ | nn2 := nn2
 simp [Z7g] at hm
 rw [Z7g] at hm
 refine th <| rg <| qv o (e_lss o rfl rfl) fun a o => ?_
 refine re <| ?_
 rcases bdich (decide (vB2 < (p1.length : Int))) with hb6 | hb6
 replace hm := itp_t hm hb6
 refine tn <| th <| ctv o rfl hb6 <| wk <| ?_
 refine tn <| th <| wb <| th <| ?_
 obtain ⟨xz7, h8, hm⟩ := bs hm
 obtain ⟨cz9, g10, hl11⟩ := SR.get hr5 h8
 obtain ⟨oa12, cap13, rfl, hc14, hr15⟩ := g10
 refine rg <| qv o (e_iaI o Tryz.runUnderlying147 Tryz.sizeOf24 rfl rfl h8 (SR.oaI hr5 (by decide) h8)) fun a o => ?_
 refine qv o (e_ld o isAgg24 rfl (PH.le.cell (Lds.le (St.ld u)) (hl11 0 _ rfl))) fun a o => ?_
 refine qa o rfl fun a o => ?_
 refine re <| tn <| th <| rg <| qm o rfl fun a o => ?_
 refine qm o rfl fun a o => ?_
 refine qv o (e_lenL (α := api_Thread) (xs := xz7) o runUnderlying24 rfl) fun a o => ?_
 refine qv o (e_add o rfl rfl) fun a o => ?_
 refine qa o rfl fun a o => ?_
 refine re <| tn <| th <| rg <| qm o rfl fun a o => ?_
 refine qv o (e_lss o rfl rfl) fun a o => ?_
 refine re <| ?_
 rcases bdich (decide ((IntKind.i64.wrap (vB1 + (xz7.length : Int))) < 0)) with hb16 | hb16
 replace hm := itp_t hm hb16
 refine tn <| ctv o rfl hb16 <| ?_
 cases hm
 replace hm := itp_f hm hb16
 refine tn <| cfv o rfl hb16 <| wk <| ?_
 refine bn <| tn <| rg <| qv o (e_add o rfl rfl) fun a o => ?_
 refine qm o rfl fun a o => ?_
 refine re <| tn <| ?_
 exact ⟨(nn2, (IntKind.i64.wrap (vB1 + (xz7.length : Int))), (IntKind.i64.wrap (vB2 + 1))), ⟨hm, o.hs, u⟩, Nat.lt_succ_self _⟩
 replace hm := itp_f hm hb6
 refine tn <| th <| cfv o rfl hb6 <| ?_
 refine we <| tx <| tx <| bx <| tn <| ?_
 exact ⟨vB1, hm, o.has ⟨rfl, rfl, trivial⟩, u⟩
 rintro a w ⟨vA1, hm, o, u⟩
 unfold Z7e at hm
 refine th <| ?_
 obtain ⟨x17, h18, hm⟩ := bs hm
 refine rg <| qm o rfl fun a o => ?_
 refine ls <| c1 o rfl call132 (grow_c grow132 rfl rfl info48 rfl (by decide) h18) ⟨rfl, rfl, trivial⟩ (fun v w a hR o => ?_)
 obtain ⟨oa19, cap20, rfl, hk⟩ := hR
 replace u := u.fresh hk
 have hv21 : Rows H [] ([] : List api_Thread) := .nil
 refine qa o rfl fun a o => ?_
 refine re <| tn <| th <| th <| rg <| qm o rfl fun a o => ?_
 refine qv o (e_lenL (α := (List api_Thread)) (xs := p1) o runUnderlying147 rfl) fun a o => ?_
 refine qm o rfl fun a o => ?_
 refine re <| tn <| midK (fun a w => ∃ (vA2 : (List api_Thread)) (oaA3 : Option Addr) (capA4 : Nat) (vsA5 : List Value), Z7f vA2 = some r ∧ Fr 36 [(6, .slice oaA3 vA2.length capA4)] a ∧ St w0 Nil [H] [sla 48 4 oaA3 vA2.length capA4 vsA5] w ∧ Rows H vsA5 vA2) ?_ ?_
 refine wb <| lp (α := Nat × (List api_Thread) × Int) (fun (gh : Nat × (List api_Thread) × Int) a w => match gh with | (nn4, vB3, vB9) => ∃ (oaB4 : Option Addr) (capB5 : Nat) (vsB6 : List Value), (Z7h N Z7f p1) nn4 vB3 vB9 = some r ∧ Fr 36 [(6, .slice oaB4 vB3.length capB5), (25, .slice oa2 p1.length cap3), (26, .int .i64 (p1.length : Int)), (27, .int .i64 vB9)] a ∧ St w0 Nil [H] [sla 48 4 oaB4 vB3.length capB5 vsB6] w ∧ Rows H vsB6 vB3) (fun gh => gh.1) (N, [], 0) ⟨oa19, cap20, [], hm, o.hs, u, hv21⟩ ?_
 rintro ⟨nn4, vB3, vB9⟩ a w ⟨oaB4, capB5, vsB6, hm, o, u, hvB7⟩
 obtain _ | nn4 := nn4
 simp [Z7h] at hm
 rw [Z7h] at hm
 refine th <| rg <| qv o (e_lss o rfl rfl) fun a o => ?_
 refine re <| ?_
 rcases bdich (decide (vB9 < (p1.length : Int))) with hb23 | hb23
 replace hm := itp_t hm hb23
 refine tn <| th <| ctv o rfl hb23 <| wk <| ?_
 refine tn <| th <| wb <| th <| ?_
 obtain ⟨x24, h25, hm⟩ := bs hm
 obtain ⟨c26, g27, hl28⟩ := SR.get hr5 h25
 obtain ⟨oa29, cap30, rfl, hc31, hr32⟩ := g27
 refine rg <| qv o (e_iaI o Tryz.runUnderlying147 Tryz.sizeOf24 rfl rfl h25 (SR.oaI hr5 (by decide) h25)) fun a o => ?_
 refine qv o (e_ld o isAgg24 rfl (PH.le.cell (Lds.le (St.ld u)) (hl28 0 _ rfl))) fun a o => ?_
 refine qa o rfl fun a o => ?_
 refine re <| tn <| ?_
 obtain ⟨l33, h34, hm⟩ := bs hm
 refine rg <| qm o rfl fun a o => ?_
 refine qm o rfl fun a o => ?_
 obtain ⟨us39, hd40, hu41⟩ := id hr32
 refine ls <| m_app (α := api_Thread) (xs := vB3) (ys := x24) o rfl u underlying24 info48 rfl (by decide) rfl rfl rfl (.head _) hvB7 (u.rdH (.head _) hd40) hu41 h34 fun oa35 cap36 vs37 w a hv38 hU o => ?_
 replace u := hU _ .head
 refine qa o rfl fun a o => ?_
 refine re <| bn <| tn <| rg <| qv o (e_add o rfl rfl) fun a o => ?_
 refine qm o rfl fun a o => ?_
 refine re <| tn <| ?_
 exact ⟨(nn4, l33, (IntKind.i64.wrap (vB9 + 1))), ⟨oa35, cap36, vs37, hm, o.hs, u, hv38⟩, Nat.lt_succ_self _⟩
 replace hm := itp_f hm hb23
 refine tn <| th <| cfv o rfl hb23 <| ?_
 refine we <| tx <| tx <| bx <| tn <| ?_
 exact ⟨vB3, oaB4, capB5, vsB6, hm, o.has ⟨rfl, trivial⟩, u, hvB7⟩
 rintro a w ⟨vA2, oaA3, capA4, vsA5, hm, o, u, hvA6⟩
 unfold Z7f at hm
 refine th <| rg <| qm o rfl fun a o => ?_
 refine qa o rfl fun a o => ?_
 refine re <| tn <| wr <| ?_
 obtain ⟨H45, hx42, hr43, hc44, u⟩ := St.frzS u .head hvA6
 obtain rfl := si hm
 exact r1 o results93 rfl ⟨H45, _, _, rfl, hc44, hr43, hx42, (St.le u), u.keep⟩
theorem Z67_c {N : Nat} {w0 : World} {H : PH} (hH : H.le w0) {cs2 : List Value} {p1 : api_Prog} (g3 : Enc.rep H cs2 p1) {r : (List api_Thread)} (hm : Z67 N p1 = some r) : Tot Tryz.prog 52 #[.agg cs2.toArray] w0 (fun v w' => ∃ (H' : PH) (oa0 : Option Addr) (cap0 : Nat), v = .slice oa0 r.length cap0 ∧ r.length ≤ cap0 ∧ SR H' oa0 r ∧ Ext w0 H H' ∧ H'.le w' ∧ Keep Nil w0 w') := by
 unfold Z67 at hm
 refine fn0 func52 rfl ntmps52 rfl rfl fun a o => ?_
 have u : St w0 Nil [H] [] w0 := start1 hH
 obtain ⟨oa4, cap5, oa8, cap9, oa12, cap13, oa16, cap17, oa20, cap21, oa24, cap25, rfl, hc6, hr7, hc10, hr11, hc14, hr15, hc18, hr19, hc22, hr23, hc26, hr27⟩ := api_Prog_open g3
 refine th <| rg <| ls <| a_box (cs := [.slice oa4 p1.Lines.length cap5, .slice oa8 p1.Vols.length cap9, .slice oa12 p1.Locks.length cap13, .slice oa16 p1.Threads.length cap17, .slice oa20 p1.Recover.length cap21, .slice oa24 p1.Claims.length cap25].toArray) o rfl u rfl rfl fun b28 w a u o => ?_
 refine qa o rfl fun a o => ?_
 refine re <| tn <| th <| ?_
 obtain ⟨r36, h37, hm⟩ := bs hm
 refine rg <| qv o (e_fa o fa27_3 rfl) fun a o => ?_
 refine qv o (e_ld o isAgg24 rfl ((St.ld u).cellB (.head _) rfl)) fun a o => ?_
 refine qv o (e_fa o fa27_4 rfl) fun a o => ?_
 refine qv o (e_ld o isAgg24 rfl ((St.ld u).cellB (.head _) rfl)) fun a o => ?_
 refine ls <| a_bsl (e := 24) (sz := 1) [.slice oa16 p1.Threads.length cap17, .slice oa20 p1.Recover.length cap21] o rfl u rfl rfl rfl (fun w => by kernel_rfl) fun b30 w a u o => ?_
 have hv29 : Rows (α := (List api_Thread)) H [.slice oa16 p1.Threads.length cap17, .slice oa20 p1.Recover.length cap21] ([p1.Threads, p1.Recover] : List (List api_Thread)) := (.cons (c := [.slice oa16 p1.Threads.length cap17]) ⟨_, _, rfl, hc18, hr19⟩ (.cons (c := [.slice oa20 p1.Recover.length cap21]) ⟨_, _, rfl, hc22, hr23⟩ .nil))
 obtain ⟨H35, hx32, hr33, hc34, u⟩ := St.frzS u .head hv29
 refine ls <| c1 o rfl call93 (Z7d_c (St.le u) hc34 hr33 h37) ⟨rfl, trivial⟩ (fun v w a hR o => ?_)
 obtain ⟨H41, oa42, cap43, rfl, hc44, hr45, hx38, hl39, hk⟩ := hR
 obtain ⟨u, hx38⟩ := And.intro (St.passH u hk hx38 hl39) (St.extc u hx38)
 refine qa o rfl fun a o => ?_
 refine re <| tn <| wr <| ?_
 obtain rfl := si hm
 exact r1 o results52 rfl ⟨H41, _, _, rfl, hc44, hr45, (Ext.trans hx32 hx38), (St.le u), u.keep⟩
theorem Z5u_c {N : Nat} {w0 : World} {H : PH} (hH : H.le w0) {cs2 : List Value} {p1 : api_Thread} (g3 : Enc.rep H cs2 p1) {r : Bool} (hm : Z5u N p1 = some r) : Tot Tryz.prog 92 #[.agg cs2.toArray] w0 (fun v w' => v = .bool r ∧ Keep Nil w0 w') := by
 unfold Z5u at hm
 refine fn0 func92 rfl ntmps92 rfl rfl fun a o => ?_
 have u : St w0 Nil [H] [] w0 := start1 hH
 obtain ⟨oa4, cap5, oa8, cap9, rfl, hc6, hr7, hc10, hr11⟩ := api_Thread_open g3
 refine th <| rg <| ls <| a_box (cs := [strv p1.Name, .slice oa4 p1.Regs.length cap5, .slice oa8 p1.Body.length cap9, .int .i64 p1.At].toArray) o rfl u rfl rfl fun b12 w a u o => ?_
 refine qa o rfl fun a o => ?_
 refine re <| tn <| th <| rg <| qv o (e_fa o fa48_1 rfl) fun a o => ?_
 refine qv o (e_ld o isAgg36 rfl ((St.ld u).cellB (.head _) rfl)) fun a o => ?_
 refine qv o (e_lenL (α := Str) (xs := p1.Regs) o runUnderlying36 rfl) fun a o => ?_
 refine qv o (e_gtr o rfl rfl) fun a o => ?_
 refine qa o rfl fun a o => ?_
 refine re <| tn <| wr <| ?_
 obtain rfl := si hm
 exact r1 o results92 rfl ⟨rfl, u.keep⟩
theorem Z8h_c {N : Nat} {w0 : World} {H : PH} (hH : H.le w0) {oa2 : Option Addr} {cap3 : Nat} {p1 : (List api_Thread)} (_ : p1.length ≤ cap3) (hr5 : SR H oa2 p1) {r : Int} (hm : Z8h N p1 = some r) : Tot Tryz.prog 130 #[.slice oa2 p1.length cap3, .func (.func 92) #[] #[]] w0 (fun v w' => v = .int .i64 r ∧ Keep Nil w0 w') := by
 unfold Z8h at hm
 refine fn0 func130 rfl ntmps130 rfl rfl fun a o => ?_
 have u : St w0 Nil [H] [] w0 := start1 hH
 refine th <| rg <| qa o rfl fun a o => ?_
 refine re <| tn <| th <| th <| rg <| qm o rfl fun a o => ?_
 refine qv o (e_lenL (α := api_Thread) (xs := p1) o runUnderlying24 rfl) fun a o => ?_
 refine qm o rfl fun a o => ?_
 refine re <| tn <| midK (fun a w => Z8i = some r ∧ Fr 19 [] a ∧ St w0 Nil [H] [] w) ?_ ?_
 refine wb <| lp (α := Nat × Int) (fun (gh : Nat × Int) a w => match gh with | (nn2, vB1) => (Z8j N Z8i p1) nn2 vB1 = some r ∧ Fr 19 [(0, .slice oa2 p1.length cap3), (1, .func (.func 92) #[] #[]), (7, .int .i64 (p1.length : Int)), (8, .int .i64 vB1)] a ∧ St w0 Nil [H] [] w) (fun gh => gh.1) (N, 0) ⟨hm, o.hs, u⟩ ?_
 rintro ⟨nn2, vB1⟩ a w ⟨hm, o, u⟩
 obtain _ | nn2 := nn2
 simp [Z8j] at hm
 rw [Z8j] at hm
 refine th <| rg <| qv o (e_lss o rfl rfl) fun a o => ?_
 refine re <| ?_
 rcases bdich (decide (vB1 < (p1.length : Int))) with hb6 | hb6
 replace hm := itp_t hm hb6
 refine tn <| th <| ctv o rfl hb6 <| wk <| ?_
 refine tn <| th <| wb <| th <| rg <| qm o rfl fun a o => ?_
 refine qa o rfl fun a o => ?_
 refine re <| tn <| th <| ?_
 obtain ⟨xz7, h8, hm⟩ := bs hm
 obtain ⟨cz9, g10, hl11⟩ := SR.get hr5 h8
 obtain ⟨oa12, cap13, oa16, cap17, rfl, hc14, hr15, hc18, hr19⟩ := api_Thread_open g10
 obtain ⟨r20, h21, hm⟩ := bs hm
 refine rg <| qm o rfl fun a o => ?_
 iterate 2 refine qm o rfl fun a o => ?_
 refine qv o (e_iaI o runUnderlying24 sizeOf48 rfl rfl h8 (SR.oaI hr5 (by decide) h8)) fun a o => ?_
 refine qv o (e_ldA o isAgg48 sizeOf48 rfl rfl (fun j v hj => PH.le.cell (Lds.le (St.ld u)) (hl11 j v hj))) fun a o => ?_
 refine ls <| k1 (vs := [.agg #[strv xz7.Name, .slice oa12 xz7.Regs.length cap13, .slice oa16 xz7.Body.length cap17, .int .i64 xz7.At]]) (caps := []) o rfl rfl call92 (Z5u_c (hp_le _) (Enc.mono (St.up u) (show Enc.rep (α := api_Thread) H [strv xz7.Name, .slice oa12 xz7.Regs.length cap13, .slice oa16 xz7.Body.length cap17, .int .i64 xz7.At] xz7 from ⟨_, _, rfl, rfl, ⟨_, _, rfl, ⟨_, _, rfl, hc14, hr15⟩, ⟨_, _, rfl, ⟨_, _, rfl, hc18, hr19⟩, rfl⟩⟩⟩)) h21) ⟨rfl, trivial⟩ rfl (fun v w a hR o => ?_)
 obtain ⟨rfl, hk⟩ := hR
 replace u := u.pass hk
 refine re <| ?_
 rcases bdich r20 with hb22 | hb22
 replace hm := ite_t hm hb22
 refine tn <| ctv o rfl hb22 <| th <| ?_
 refine rg <| qm o rfl fun a o => ?_
 refine qa o rfl fun a o => ?_
 refine re <| tn <| wr <| br <| tr <| tr <| br <| tr <| ?_
 obtain rfl := si hm
 exact r1 o results130 rfl ⟨rfl, u.keep⟩
 replace hm := ite_f hm hb22
 refine tn <| cfv o rfl hb22 <| wk <| ?_
 refine bn <| tn <| rg <| qv o (e_add o rfl rfl) fun a o => ?_
 refine qm o rfl fun a o => ?_
 refine re <| tn <| ?_
 exact ⟨(nn2, (IntKind.i64.wrap (vB1 + 1))), ⟨hm, o.hs, u⟩, Nat.lt_succ_self _⟩
 replace hm := itp_f hm hb6
 refine tn <| th <| cfv o rfl hb6 <| ?_
 refine we <| tx <| tx <| bx <| tn <| ?_
 exact ⟨hm, o.has trivial, u⟩
 rintro a w ⟨hm, o, u⟩
 unfold Z8i at hm
 refine th <| rg <| qa o rfl fun a o => ?_
 refine re <| tn <| wr <| ?_
 obtain rfl := si hm
 exact r1 o results130 rfl ⟨rfl, u.keep⟩
theorem Z7q_c {N : Nat} {w0 : World} {H : PH} (hH : H.le w0) {oa2 : Option Addr} {cap3 : Nat} {p1 : (List api_Thread)} (hc4 : p1.length ≤ cap3) (hr5 : SR H oa2 p1) {r : Bool} (hm : Z7q N p1 = some r) : Tot Tryz.prog 89 #[.slice oa2 p1.length cap3, .func (.func 92) #[] #[]] w0 (fun v w' => v = .bool r ∧ Keep Nil w0 w') := by
 unfold Z7q at hm
 refine fn0 func89 rfl ntmps89 rfl rfl fun a o => ?_
 have u : St w0 Nil [H] [] w0 := start1 hH
 refine th <| rg <| qa o rfl fun a o => ?_
 refine re <| tn <| th <| ?_
 obtain ⟨rz6, h7, hm⟩ := bs hm
 refine rg <| qm o rfl fun a o => ?_
 refine qm o rfl fun a o => ?_
 refine ls <| c1 o rfl call130 (Z8h_c (hp_le _) hc4 (St.srH u hr5) h7) ⟨rfl, rfl, trivial⟩ (fun v w a hR o => ?_)
 obtain ⟨rfl, hk⟩ := hR
 replace u := u.pass hk
 refine qv o (e_geq o rfl rfl) fun a o => ?_
 refine qa o rfl fun a o => ?_
 refine re <| tn <| wr <| ?_
 obtain rfl := si hm
 exact r1 o results89 rfl ⟨rfl, u.keep⟩
end Go.LM.LB
