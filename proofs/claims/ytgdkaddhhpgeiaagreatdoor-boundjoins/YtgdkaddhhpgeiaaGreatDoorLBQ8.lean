/- Walks, lifted by program. No condition beyond the theorems' own premises. -/
import Derived.Test.YtgdkaddhhpgeiaaGreatDoorLBQ7
namespace Go.LM.LB
open Go Go.LL Go.MD Go.LM Go.Proofs Go.MD.LB Go.Proofs.Tryz
set_option maxRecDepth 100000
set_option maxHeartbeats 4000000 in
theorem Z17_c {N : Nat} {w0 : World} {H : PH} (hH : H.le w0) (hT : Tab H) {oa2 : Option Addr} {cap3 : Nat} {p1 : (List api_Stmt)} (hc4 : p1.length ≤ cap3) (hr5 : SR H oa2 p1) {oa7 : Option Addr} {cap8 : Nat} {p6 : (List api_Stmt)} (hc9 : p6.length ≤ cap8) (hr10 : SR H oa7 p6) {p11 : Int} {r : Bool} (hm : Z17 N p1 p6 p11 = some r) : Tot Tryz.prog 13 #[.slice oa2 p1.length cap3, .slice oa7 p6.length cap8, .int .i64 p11] w0 (fun v w' => v = .bool r ∧ Keep Nil w0 w') := by
 unfold Z17 at hm
 refine fn0 func13 rfl ntmps13 rfl rfl fun a o => ?_
 have u : St w0 Nil [H] [] w0 := start1 hH
 refine th <| rg <| qa o rfl fun a o => ?_
 refine re <| tn <| th <| ?_
 obtain ⟨r12, h13, hm⟩ := bs hm
 refine rg <| qm o rfl fun a o => ?_
 refine ls <| c1 o rfl call43 (Z14_c (St.le u) hc4 hr5 h13) ⟨rfl, trivial⟩ (fun v w a hR o => ?_)
 obtain ⟨H17, oa18, cap19, rfl, hc20, hr21, hx14, hl15, hk⟩ := hR
 obtain ⟨u, hx14⟩ := And.intro (St.passH u hk hx14 hl15) (St.extc u hx14)
 refine qa o rfl fun a o => ?_
 refine re <| tn <| th <| ?_
 obtain ⟨r22, h23, hm⟩ := bs hm
 refine rg <| qm o rfl fun a o => ?_
 refine ls <| c1 o rfl call43 (Z14_c (St.le u) hc9 (hr10.mono hx14.sub) h23) ⟨rfl, trivial⟩ (fun v w a hR o => ?_)
 obtain ⟨H27, oa28, cap29, rfl, hc30, hr31, hx24, hl25, hk⟩ := hR
 obtain ⟨u, hx24⟩ := And.intro (St.passH u hk hx24 hl25) (St.extc u hx24)
 refine qa o rfl fun a o => ?_
 refine re <| tn <| th <| ?_
 obtain ⟨r32, h33, hm⟩ := bs hm
 obtain ⟨r34, h35, hm⟩ := bs hm
 refine rg <| qm o rfl fun a o => ?_
 refine ls <| c1 o rfl call34 (Z8_c (hp_le _) (Tab.mono (Tab.mono hT (fun b o h => hx24.sub b o (hx14.sub b o h))) (St.up u)) hc20 (St.srH u (hr21.mono hx24.sub)) h33) ⟨rfl, trivial⟩ (fun v w a hR o => ?_)
 obtain ⟨rfl, hk⟩ := hR
 replace u := u.pass hk
 refine qm o rfl fun a o => ?_
 refine ls <| c1 o rfl call34 (Z8_c (hp_le _) (Tab.mono (Tab.mono hT (fun b o h => hx24.sub b o (hx14.sub b o h))) (St.up u)) hc30 (St.srH u hr31) h35) ⟨rfl, trivial⟩ (fun v w a hR o => ?_)
 obtain ⟨rfl, hk⟩ := hR
 replace u := u.pass hk
 iterate 2 refine qa o rfl fun a o => ?_
 refine re <| tn <| th <| ?_
 obtain ⟨l39, h40, hm⟩ := bs hm
 refine rg <| ls <| a_bsl (e := 51) (sz := 9) [] o rfl u rfl rfl rfl (fun w => by kernel_rfl) fun b37 w a u o => ?_
 have hv36 : Rows (α := api_Stmt) H27 [] [] := .nil
 refine qm o rfl fun a o => ?_
 obtain ⟨us45, hd46, hu47⟩ := id (hr21.mono hx24.sub)
 refine ls <| m_app (α := api_Stmt) (xs := []) (ys := r12) o rfl u underlying46 info51 rfl (by decide) rfl rfl rfl (.head _) hv36 (u.rdH (.head _) hd46) hu47 h40 fun oa41 cap42 vs43 w a hv44 hU o => ?_
 replace u := hU _ .head
 refine qa o rfl fun a o => ?_
 refine re <| tn <| th <| ?_
 obtain ⟨l48, h49, hm⟩ := bs hm
 refine rg <| qm o rfl fun a o => ?_
 refine qm o rfl fun a o => ?_
 obtain ⟨us54, hd55, hu56⟩ := id hr31
 refine ls <| m_app (α := api_Stmt) (xs := l39) (ys := r22) o rfl u underlying46 info51 rfl (by decide) rfl rfl rfl (.head _) hv44 (u.rdH (.head _) hd55) hu56 h49 fun oa50 cap51 vs52 w a hv53 hU o => ?_
 replace u := hU _ .head
 refine qa o rfl fun a o => ?_
 refine re <| tn <| th <| ?_
 obtain ⟨r57, h58, hm⟩ := bs hm
 refine rg <| qm o rfl fun a o => ?_
 refine ls <| c1 o rfl call34 (Z8_c (hp_le _) (Tab.mono (Tab.mono hT (fun b o h => hx24.sub b o (hx14.sub b o h))) (St.up u)) (St.capO u (.head _)) (St.srO u (.head _) hv53) h58) ⟨rfl, trivial⟩ (fun v w a hR o => ?_)
 obtain ⟨rfl, hk⟩ := hR
 replace u := u.pass hk
 refine qa o rfl fun a o => ?_
 refine re <| tn <| th <| th <| rg <| qm o rfl fun a o => ?_
 refine qv o (e_lss o rfl rfl) fun a o => ?_
 refine qm o rfl fun a o => ?_
 refine grp (N := 72) (Fk := [(0, .slice oa18 r12.length cap19), (2, .int .i64 p11), (7, .int .i64 r32), (8, .int .i64 r34), (10, .int .i64 r57), (34, .bool ((decide (r32 < 0)) || (decide (r34 < 0))))]) (b := (decide (r32 < 0))) 3 u ?_ ?_ ?_
 intro hb key
 replace o := Fr.as o (t := 31) rfl (congrArg Value.bool hb)
 iterate 2 refine qn o fun a o => ?_
 refine qv o (e_as (v' := .bool ((decide (r32 < 0)) || (decide (r34 < 0)))) (e_pickT o rfl rfl) (by rw [hb]; rfl)) fun a o => ?_
 exact key _ _ (o.hs) u
 intro hb key
 replace o := Fr.as o (t := 31) rfl (congrArg Value.bool hb)
 refine qg o (e_move o rfl) fun a o => ?_
 refine qg o (e_lss o rfl rfl) fun a o => ?_
 refine qv o (e_as (v' := .bool ((decide (r32 < 0)) || (decide (r34 < 0)))) (e_pickF o rfl rfl) (by rw [hb]; rfl)) fun a o => ?_
 exact key _ _ (o.hs) u
 intro a w o u
 refine qm o rfl fun a o => ?_
 refine grp (N := 72) (Fk := [(0, .slice oa18 r12.length cap19), (2, .int .i64 p11), (7, .int .i64 r32), (8, .int .i64 r34), (10, .int .i64 r57), (38, .bool (((decide (r32 < 0)) || (decide (r34 < 0))) || (decide (r57 < 0))))]) (b := ((decide (r32 < 0)) || (decide (r34 < 0)))) 3 u ?_ ?_ ?_
 intro hb key
 replace o := Fr.as o (t := 35) rfl (congrArg Value.bool hb)
 iterate 2 refine qn o fun a o => ?_
 refine qv o (e_as (v' := .bool (((decide (r32 < 0)) || (decide (r34 < 0))) || (decide (r57 < 0)))) (e_pickT o rfl rfl) (by rw [hb]; rfl)) fun a o => ?_
 exact key _ _ (o.hs) u
 intro hb key
 replace o := Fr.as o (t := 35) rfl (congrArg Value.bool hb)
 refine qg o (e_move o rfl) fun a o => ?_
 refine qg o (e_lss o rfl rfl) fun a o => ?_
 refine qv o (e_as (v' := .bool (((decide (r32 < 0)) || (decide (r34 < 0))) || (decide (r57 < 0)))) (e_pickF o rfl rfl) (by rw [hb]; rfl)) fun a o => ?_
 exact key _ _ (o.hs) u
 intro a w o u
 refine re <| ?_
 rcases bdich (((decide (r32 < 0)) || (decide (r34 < 0))) || (decide (r57 < 0))) with hb59 | hb59
 replace hm := ite_t hm hb59
 refine tn <| ctv o rfl hb59 <| th <| ?_
 obtain ⟨r60, h61, hm⟩ := bs hm
 refine rg <| ls <| c1 o rfl Tryz.call42 (Z18_c (hp_le _) (Tab.mono (Tab.mono hT (fun b o h => hx24.sub b o (hx14.sub b o h))) (St.up u)) h61) trivial (fun v w a hR o => ?_)
 obtain ⟨rfl, hk⟩ := hR
 replace u := u.pass hk
 refine qa o rfl fun a o => ?_
 refine re <| tn <| wr <| tr <| ?_
 obtain rfl := si hm
 exact r1 o results13 rfl ⟨rfl, u.keep⟩
 replace hm := ite_f hm hb59
 refine tn <| cfv o rfl hb59 <| wk <| ?_
 refine tn <| th <| ?_
 obtain ⟨l65, h66, hm⟩ := bs hm
 refine rg <| qm o rfl fun a o => ?_
 refine qv o (e_band o rfl rfl) fun a o => ?_
 refine qv o (e_add o rfl rfl) fun a o => ?_
 refine qm o rfl fun a o => ?_
 refine qv o (e_lenL (α := api_Stmt) (xs := r12) o runUnderlying46 rfl) fun a o => ?_
 refine qv o (e_bldK [.int .i64 12, .int .i64 (IntKind.i64.wrap (1 + (iand .i64 p11 7))), .int .i64 (r12.length : Int)] [.int .i64 12, strv [], strv [], .slice none 0 0, .slice none 0 0, .int .i64 (IntKind.i64.wrap (1 + (iand .i64 p11 7))), .int .i64 (r12.length : Int), .int .i64 0, .int .i64 0] o ⟨rfl, rfl, rfl, trivial⟩ (fun w => by kernel_rfl)) fun a o => ?_
 refine ls <| a_bsl (e := 51) (sz := 9) [.int .i64 12, strv [], strv [], .slice none 0 0, .slice none 0 0, .int .i64 (IntKind.i64.wrap (1 + (iand .i64 p11 7))), .int .i64 (r12.length : Int), .int .i64 0, .int .i64 0] o rfl u rfl rfl rfl (fun w => by kernel_rfl) fun b63 w a u o => ?_
 have hv62 : Rows (α := api_Stmt) H27 [.int .i64 12, strv [], strv [], .slice none 0 0, .slice none 0 0, .int .i64 (IntKind.i64.wrap (1 + (iand .i64 p11 7))), .int .i64 (r12.length : Int), .int .i64 0, .int .i64 0] ([(api_Stmt.mk 12 [] [] [] [] (IntKind.i64.wrap (1 + (iand .i64 p11 7))) (r12.length : Int) 0 0)] : List api_Stmt) := (.cons (c := [.int .i64 12, strv [], strv [], .slice none 0 0, .slice none 0 0, .int .i64 (IntKind.i64.wrap (1 + (iand .i64 p11 7))), .int .i64 (r12.length : Int), .int .i64 0, .int .i64 0]) ⟨_, _, rfl, rfl, ⟨_, _, rfl, rfl, ⟨_, _, rfl, rfl, ⟨_, _, rfl, ⟨none, 0, rfl, Nat.le_refl _, SR.nil _ _⟩, ⟨_, _, rfl, ⟨none, 0, rfl, Nat.le_refl _, SR.nil _ _⟩, ⟨_, _, rfl, rfl, ⟨_, _, rfl, rfl, ⟨_, _, rfl, rfl, rfl⟩⟩⟩⟩⟩⟩⟩⟩ .nil)
 refine qm o rfl fun a o => ?_
 obtain ⟨us71, hd72, hu73⟩ := id (hr21.mono hx24.sub)
 refine ls <| m_app (α := api_Stmt) (xs := ([(api_Stmt.mk 12 [] [] [] [] (IntKind.i64.wrap (1 + (iand .i64 p11 7))) (r12.length : Int) 0 0)] : List api_Stmt)) (ys := r12) o rfl u underlying46 info51 rfl (by decide) rfl rfl rfl (.head _) hv62 (u.rdH (.head _) hd72) hu73 h66 fun oa67 cap68 vs69 w a hv70 hU o => ?_
 replace u := hU _ .head
 refine qa o rfl fun a o => ?_
 refine re <| tn <| th <| ?_
 obtain ⟨r74, h75, hm⟩ := bs hm
 refine rg <| qm o rfl fun a o => ?_
 refine ls <| c1 o rfl call34 (Z8_c (hp_le _) (Tab.mono (Tab.mono hT (fun b o h => hx24.sub b o (hx14.sub b o h))) (St.up u)) (St.capO u (.head _)) (St.srO u (.head _) hv70) h75) ⟨rfl, trivial⟩ (fun v w a hR o => ?_)
 obtain ⟨rfl, hk⟩ := hR
 replace u := u.pass hk
 refine qa o rfl fun a o => ?_
 refine re <| tn <| th <| ?_
 rcases bdich ((decide (r57 = (IntKind.i64.wrap (r32 + r34)))) && ((decide (r74 < 0)) || (decide (r74 = (IntKind.i64.wrap ((IntKind.i64.wrap (1 + (iand .i64 p11 7))) * r32)))))) with hb76 | hb76
 replace hm := ite_t hm hb76
 obtain ⟨r77, h78, hm⟩ := bs hm
 refine rg <| qm o rfl fun a o => ?_
 iterate 2 refine qm o rfl fun a o => ?_
 refine qv o (e_add o rfl rfl) fun a o => ?_
 refine qv o (e_eql o rfl rfl) fun a o => ?_
 refine qm o rfl fun a o => ?_
 refine grp (N := 72) (Fk := [(68, .bool ((decide (r57 = (IntKind.i64.wrap (r32 + r34)))) && ((decide (r74 < 0)) || (decide (r74 = (IntKind.i64.wrap ((IntKind.i64.wrap (1 + (iand .i64 p11 7))) * r32)))))))]) (b := (decide (r57 = (IntKind.i64.wrap (r32 + r34))))) 12 u ?_ ?_ ?_
 intro hb key
 replace o := Fr.as o (t := 56) rfl (congrArg Value.bool hb)
 refine qg o (e_move o rfl) fun a o => ?_
 refine qg o (e_lss o rfl rfl) fun a o => ?_
 refine qg o (e_move o rfl) fun a o => ?_
 refine grp (N := 72) (Fk := [(56, .bool true), (67, .bool ((decide (r74 < 0)) || (decide (r74 = (IntKind.i64.wrap ((IntKind.i64.wrap (1 + (iand .i64 p11 7))) * r32))))))]) (b := (decide (r74 < 0))) 8 u ?_ ?_ ?_
 intro hb key
 replace o := Fr.as o (t := 59) rfl (congrArg Value.bool hb)
 iterate 7 refine qn o fun a o => ?_
 refine qg o (e_as (v' := .bool ((decide (r74 < 0)) || (decide (r74 = (IntKind.i64.wrap ((IntKind.i64.wrap (1 + (iand .i64 p11 7))) * r32)))))) (e_pickT o rfl rfl) (by rw [hb]; rfl)) fun a o => ?_
 exact key _ _ (o.has ⟨rfl, rfl, trivial⟩) u
 intro hb key
 replace o := Fr.as o (t := 59) rfl (congrArg Value.bool hb)
 iterate 2 refine qg o (e_move o rfl) fun a o => ?_
 refine qg o (e_band o rfl rfl) fun a o => ?_
 refine qg o (e_add o rfl rfl) fun a o => ?_
 refine qg o (e_move o rfl) fun a o => ?_
 refine qg o (e_mul o rfl rfl) fun a o => ?_
 refine qg o (e_eql o rfl rfl) fun a o => ?_
 refine qg o (e_as (v' := .bool ((decide (r74 < 0)) || (decide (r74 = (IntKind.i64.wrap ((IntKind.i64.wrap (1 + (iand .i64 p11 7))) * r32)))))) (e_pickF o rfl rfl) (by rw [hb]; rfl)) fun a o => ?_
 exact key _ _ (o.has ⟨rfl, rfl, trivial⟩) u
 intro a w o u
 refine qv o (e_as (v' := .bool ((decide (r57 = (IntKind.i64.wrap (r32 + r34)))) && ((decide (r74 < 0)) || (decide (r74 = (IntKind.i64.wrap ((IntKind.i64.wrap (1 + (iand .i64 p11 7))) * r32))))))) (e_pickT o rfl rfl) (by rw [hb]; rfl)) fun a o => ?_
 exact key _ _ (o.has ⟨rfl, trivial⟩) u
 intro hb key
 replace o := Fr.as o (t := 56) rfl (congrArg Value.bool hb)
 iterate 3 refine qn o fun a o => ?_
 iterate 7 refine ls <| gnu o rfl rfl rfl fun a o => ?_
 refine qn o fun a o => ?_
 refine qv o (e_as (v' := .bool ((decide (r57 = (IntKind.i64.wrap (r32 + r34)))) && ((decide (r74 < 0)) || (decide (r74 = (IntKind.i64.wrap ((IntKind.i64.wrap (1 + (iand .i64 p11 7))) * r32))))))) (e_pickF o rfl rfl) (by rw [hb]; rfl)) fun a o => ?_
 exact key _ _ (o.has ⟨rfl, trivial⟩) u
 intro a w o u
 refine qv o (e_as (e_move o rfl) (congrArg Value.bool hb76)) fun a o => ?_
 refine ls <| gy o rfl rfl <| c1 o rfl call42 (Z18_c (hp_le _) (Tab.mono (Tab.mono hT (fun b o h => hx24.sub b o (hx14.sub b o h))) (St.up u)) h78) trivial (fun v w a hR o => ?_)
 obtain ⟨rfl, hk⟩ := hR
 replace u := u.pass hk
 refine qv o (e_pickT o rfl rfl) fun a o => ?_
 refine qa o rfl fun a o => ?_
 refine re <| tn <| wr <| ?_
 obtain rfl := si hm
 exact r1 o results13 rfl ⟨rfl, u.keep⟩
 replace hm := ite_f hm hb76
 refine rg <| qm o rfl fun a o => ?_
 iterate 2 refine qm o rfl fun a o => ?_
 refine qv o (e_add o rfl rfl) fun a o => ?_
 refine qv o (e_eql o rfl rfl) fun a o => ?_
 refine qm o rfl fun a o => ?_
 refine grp (N := 72) (Fk := [(68, .bool ((decide (r57 = (IntKind.i64.wrap (r32 + r34)))) && ((decide (r74 < 0)) || (decide (r74 = (IntKind.i64.wrap ((IntKind.i64.wrap (1 + (iand .i64 p11 7))) * r32)))))))]) (b := (decide (r57 = (IntKind.i64.wrap (r32 + r34))))) 12 u ?_ ?_ ?_
 intro hb key
 replace o := Fr.as o (t := 56) rfl (congrArg Value.bool hb)
 refine qg o (e_move o rfl) fun a o => ?_
 refine qg o (e_lss o rfl rfl) fun a o => ?_
 refine qg o (e_move o rfl) fun a o => ?_
 refine grp (N := 72) (Fk := [(56, .bool true), (67, .bool ((decide (r74 < 0)) || (decide (r74 = (IntKind.i64.wrap ((IntKind.i64.wrap (1 + (iand .i64 p11 7))) * r32))))))]) (b := (decide (r74 < 0))) 8 u ?_ ?_ ?_
 intro hb key
 replace o := Fr.as o (t := 59) rfl (congrArg Value.bool hb)
 iterate 7 refine qn o fun a o => ?_
 refine qg o (e_as (v' := .bool ((decide (r74 < 0)) || (decide (r74 = (IntKind.i64.wrap ((IntKind.i64.wrap (1 + (iand .i64 p11 7))) * r32)))))) (e_pickT o rfl rfl) (by rw [hb]; rfl)) fun a o => ?_
 exact key _ _ (o.has ⟨rfl, rfl, trivial⟩) u
 intro hb key
 replace o := Fr.as o (t := 59) rfl (congrArg Value.bool hb)
 iterate 2 refine qg o (e_move o rfl) fun a o => ?_
 refine qg o (e_band o rfl rfl) fun a o => ?_
 refine qg o (e_add o rfl rfl) fun a o => ?_
 refine qg o (e_move o rfl) fun a o => ?_
 refine qg o (e_mul o rfl rfl) fun a o => ?_
 refine qg o (e_eql o rfl rfl) fun a o => ?_
 refine qg o (e_as (v' := .bool ((decide (r74 < 0)) || (decide (r74 = (IntKind.i64.wrap ((IntKind.i64.wrap (1 + (iand .i64 p11 7))) * r32)))))) (e_pickF o rfl rfl) (by rw [hb]; rfl)) fun a o => ?_
 exact key _ _ (o.has ⟨rfl, rfl, trivial⟩) u
 intro a w o u
 refine qv o (e_as (v' := .bool ((decide (r57 = (IntKind.i64.wrap (r32 + r34)))) && ((decide (r74 < 0)) || (decide (r74 = (IntKind.i64.wrap ((IntKind.i64.wrap (1 + (iand .i64 p11 7))) * r32))))))) (e_pickT o rfl rfl) (by rw [hb]; rfl)) fun a o => ?_
 exact key _ _ (o.has ⟨rfl, trivial⟩) u
 intro hb key
 replace o := Fr.as o (t := 56) rfl (congrArg Value.bool hb)
 iterate 3 refine qn o fun a o => ?_
 iterate 7 refine ls <| gnu o rfl rfl rfl fun a o => ?_
 refine qn o fun a o => ?_
 refine qv o (e_as (v' := .bool ((decide (r57 = (IntKind.i64.wrap (r32 + r34)))) && ((decide (r74 < 0)) || (decide (r74 = (IntKind.i64.wrap ((IntKind.i64.wrap (1 + (iand .i64 p11 7))) * r32))))))) (e_pickF o rfl rfl) (by rw [hb]; rfl)) fun a o => ?_
 exact key _ _ (o.has ⟨rfl, trivial⟩) u
 intro a w o u
 refine qv o (e_as (e_move o rfl) (congrArg Value.bool hb76)) fun a o => ?_
 refine qn o fun a o => ?_
 refine qv o (e_pickF o rfl rfl) fun a o => ?_
 refine qa o rfl fun a o => ?_
 refine re <| tn <| wr <| ?_
 obtain rfl := si hm
 exact r1 o results13 rfl ⟨rfl, u.keep⟩
end Go.LM.LB
