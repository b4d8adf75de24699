/- Walks, lifted by program. No condition beyond the theorems' own premises. -/
import Derived.Test.YtgdkaddhhpgeiaaGreatDoorLBQ7
namespace Go.LM.LB
open Go Go.LL Go.MD Go.LM Go.Proofs Go.MD.LB Go.Proofs.Tryz
set_option maxRecDepth 100000
theorem Z17_c {N : Nat} {w0 : World} {H : PH} (hH : H.le w0) (hT : Tab H) {oa2 : Option Addr} {cap3 : Nat} {p1 : (List api_Stmt)} (hc4 : p1.length ≤ cap3) (hr5 : SR H oa2 p1) {p6 : Int} {r : Bool} (hm : Z17 N p1 p6 = some r) : Tot Tryz.prog 14 #[.slice oa2 p1.length cap3, .int .i64 p6] w0 (fun v w' => v = .bool r ∧ Keep Nil w0 w') := by
 unfold Z17 at hm
 refine fn0 func14 rfl ntmps14 rfl rfl fun a o => ?_
 have u : St w0 Nil [H] [] w0 := start1 hH
 refine th <| rg <| qa o rfl fun a o => ?_
 refine re <| tn <| th <| ?_
 obtain ⟨rz7, h8, hm⟩ := bs hm
 refine rg <| qm o rfl fun a o => ?_
 refine ls <| c1 o rfl call43 (Z14_c (St.le u) hc4 hr5 h8) ⟨rfl, trivial⟩ (fun v w a hR o => ?_)
 obtain ⟨H12, oa13, cap14, rfl, hc15, hr16, hx9, hl10, hk⟩ := hR
 obtain ⟨u, hx9⟩ := And.intro (St.passH u hk hx9 hl10) (St.extc u hx9)
 refine qa o rfl fun a o => ?_
 refine re <| tn <| th <| rg <| qm o rfl fun a o => ?_
 refine qv o (e_band o rfl rfl) fun a o => ?_
 refine qv o (e_rem o rfl rfl (by decide)) fun a o => ?_
 refine qa o rfl fun a o => ?_
 refine re <| tn <| th <| ?_
 obtain ⟨r17, h18, hm⟩ := bs hm
 obtain ⟨r24, h25, hm⟩ := bs hm
 refine rg <| qm o rfl fun a o => ?_
 refine qm o rfl fun a o => ?_
 refine ls <| c1 o rfl call36 (Z9_c (hp_le _) (Tab.mono (Tab.mono hT hx9.sub) (St.up u)) hc15 (St.srH u hr16) h18) ⟨rfl, rfl, trivial⟩ (fun v w a hR o => ?_)
 obtain ⟨oa19, cap20, vs21, rfl, hv22, hk⟩ := hR
 replace u := u.fresh hk
 replace hv22 := hv22 H12
 refine qm o rfl fun a o => ?_
 refine ls <| c1 o rfl call36 (Z9_c (hp_le _) (Tab.mono (Tab.mono hT hx9.sub) (St.up u)) hc15 (St.srH u hr16) h25) ⟨rfl, rfl, trivial⟩ (fun v w a hR o => ?_)
 obtain ⟨oa26, cap27, vs28, rfl, hv29, hk⟩ := hR
 replace u := u.fresh hk
 replace hv29 := hv29 H12
 iterate 2 refine qa o rfl fun a o => ?_
 refine re <| tn <| th <| th <| rg <| qm o rfl fun a o => ?_
 refine qv o (e_lenL (α := Int) (xs := r17) o runUnderlying42 rfl) fun a o => ?_
 refine qm o rfl fun a o => ?_
 refine qv o (e_gtr o rfl rfl) fun a o => ?_
 refine qm o rfl fun a o => ?_
 refine grp (N := 51) (Fk := [(5, .int .i64 ((iand .i64 p6 65535).tmod 100)), (6, .slice oa19 r17.length cap20), (7, .slice oa26 r24.length cap27), (28, .bool ((decide (((iand .i64 p6 65535).tmod 100) < (r17.length : Int))) || (decide ((r24.length : Int) < (r17.length : Int)))))]) (b := (decide (((iand .i64 p6 65535).tmod 100) < (r17.length : Int)))) 6 u ?_ ?_ ?_
 intro hb key
 replace o := Fr.as o (t := 22) rfl (congrArg Value.bool hb)
 iterate 5 refine qn o fun a o => ?_
 refine qv o (e_as (v' := .bool ((decide (((iand .i64 p6 65535).tmod 100) < (r17.length : Int))) || (decide ((r24.length : Int) < (r17.length : Int))))) (e_pickT o rfl rfl) (by rw [hb]; rfl)) fun a o => ?_
 exact key _ _ (o.hs) u
 intro hb key
 replace o := Fr.as o (t := 22) rfl (congrArg Value.bool hb)
 refine qg o (e_move o rfl) fun a o => ?_
 refine qg o (e_lenL (α := Int) (xs := r17) o runUnderlying42 rfl) fun a o => ?_
 refine qg o (e_move o rfl) fun a o => ?_
 refine qg o (e_lenL (α := Int) (xs := r24) o runUnderlying42 rfl) fun a o => ?_
 refine qg o (e_gtr o rfl rfl) fun a o => ?_
 refine qv o (e_as (v' := .bool ((decide (((iand .i64 p6 65535).tmod 100) < (r17.length : Int))) || (decide ((r24.length : Int) < (r17.length : Int))))) (e_pickF o rfl rfl) (by rw [hb]; rfl)) fun a o => ?_
 exact key _ _ (o.hs) u
 intro a w o u
 refine qm o rfl fun a o => ?_
 refine grp (N := 51) (Fk := [(6, .slice oa19 r17.length cap20), (7, .slice oa26 r24.length cap27), (41, .bool (((decide (((iand .i64 p6 65535).tmod 100) < (r17.length : Int))) || (decide ((r24.length : Int) < (r17.length : Int)))) || ((decide ((r17.length : Int) < ((iand .i64 p6 65535).tmod 100))) && (decide ((r17.length : Int) ≠ (r24.length : Int))))))]) (b := ((decide (((iand .i64 p6 65535).tmod 100) < (r17.length : Int))) || (decide ((r24.length : Int) < (r17.length : Int))))) 12 u ?_ ?_ ?_
 intro hb key
 replace o := Fr.as o (t := 29) rfl (congrArg Value.bool hb)
 iterate 5 refine qn o fun a o => ?_
 iterate 5 refine ls <| gnu o rfl rfl rfl fun a o => ?_
 refine qn o fun a o => ?_
 refine qv o (e_as (v' := .bool (((decide (((iand .i64 p6 65535).tmod 100) < (r17.length : Int))) || (decide ((r24.length : Int) < (r17.length : Int)))) || ((decide ((r17.length : Int) < ((iand .i64 p6 65535).tmod 100))) && (decide ((r17.length : Int) ≠ (r24.length : Int)))))) (e_pickT o rfl rfl) (by rw [hb]; rfl)) fun a o => ?_
 exact key _ _ (o.hs) u
 intro hb key
 replace o := Fr.as o (t := 29) rfl (congrArg Value.bool hb)
 refine qg o (e_move o rfl) fun a o => ?_
 refine qg o (e_lenL (α := Int) (xs := r17) o runUnderlying42 rfl) fun a o => ?_
 refine qg o (e_move o rfl) fun a o => ?_
 refine qg o (e_lss o rfl rfl) fun a o => ?_
 refine qg o (e_move o rfl) fun a o => ?_
 refine grp (N := 51) (Fk := [(6, .slice oa19 r17.length cap20), (7, .slice oa26 r24.length cap27), (29, .bool false), (40, .bool ((decide ((r17.length : Int) < ((iand .i64 p6 65535).tmod 100))) && (decide ((r17.length : Int) ≠ (r24.length : Int)))))]) (b := (decide ((r17.length : Int) < ((iand .i64 p6 65535).tmod 100)))) 6 u ?_ ?_ ?_
 intro hb key
 replace o := Fr.as o (t := 34) rfl (congrArg Value.bool hb)
 refine qg o (e_move o rfl) fun a o => ?_
 refine qg o (e_lenL (α := Int) (xs := r17) o runUnderlying42 rfl) fun a o => ?_
 refine qg o (e_move o rfl) fun a o => ?_
 refine qg o (e_lenL (α := Int) (xs := r24) o runUnderlying42 rfl) fun a o => ?_
 refine qg o (e_neq o rfl rfl) fun a o => ?_
 refine qg o (e_as (v' := .bool ((decide ((r17.length : Int) < ((iand .i64 p6 65535).tmod 100))) && (decide ((r17.length : Int) ≠ (r24.length : Int))))) (e_pickT o rfl rfl) (by rw [hb]; rfl)) fun a o => ?_
 exact key _ _ (o.hs) u
 intro hb key
 replace o := Fr.as o (t := 34) rfl (congrArg Value.bool hb)
 iterate 5 refine qn o fun a o => ?_
 refine qg o (e_as (v' := .bool ((decide ((r17.length : Int) < ((iand .i64 p6 65535).tmod 100))) && (decide ((r17.length : Int) ≠ (r24.length : Int))))) (e_pickF o rfl rfl) (by rw [hb]; rfl)) fun a o => ?_
 exact key _ _ (o.hs) u
 intro a w o u
 refine qv o (e_as (v' := .bool (((decide (((iand .i64 p6 65535).tmod 100) < (r17.length : Int))) || (decide ((r24.length : Int) < (r17.length : Int)))) || ((decide ((r17.length : Int) < ((iand .i64 p6 65535).tmod 100))) && (decide ((r17.length : Int) ≠ (r24.length : Int)))))) (e_pickF o rfl rfl) (by rw [hb]; rfl)) fun a o => ?_
 exact key _ _ (o.hs) u
 intro a w o u
 refine re <| ?_
 obtain ⟨_, hb31, hm⟩ := bs hm
 replace hb31 := bnt (sure_some hb31)
 refine tn <| cfv o rfl hb31 <| wk <| ?_
 refine tn <| th <| ?_
 obtain ⟨l32, h33, hm⟩ := bs hm
 have hc34 := St.capO u (.head _)
 obtain ⟨vs35, hv36, hU⟩ := St.shrink u hv29 rfl (.head _) h33
 replace u := hU _ .head
 obtain ⟨r37, h38, hm⟩ := bs hm
 rcases bdich r37 with hb39 | hb39
 replace hm := ite_t hm hb39
 obtain ⟨r40, h41, hm⟩ := bs hm
 refine rg <| qm o rfl fun a o => ?_
 iterate 2 refine qm o rfl fun a o => ?_
 refine qv o (e_lenL (α := Int) (xs := r17) o runUnderlying42 rfl) fun a o => ?_
 refine qv o (e_subL (xs := r24) (vl := 0) (vh := (r17.length : Int)) o runUnderlying42 sizeOf3 rfl hc34 rfl rfl h33 (subOa0 _ _ _) (Nat.sub_zero _)) fun a o => ?_
 refine ls <| c1 o rfl call29 (Z56_c (hp_le _) (St.capO u t1) (St.srO u t1 hv22) (St.capO u (.head _)) (St.srO u (.head _) hv36) h38) ⟨rfl, rfl, trivial⟩ (fun v w a hR o => ?_)
 obtain ⟨rfl, hk⟩ := hR
 replace u := u.pass hk
 refine qv o (e_as (e_move o rfl) (congrArg Value.bool hb39)) fun a o => ?_
 refine ls <| gy o rfl rfl <| c1 o rfl call42 (Z18_c (hp_le _) (Tab.mono (Tab.mono hT hx9.sub) (St.up u)) h41) trivial (fun v w a hR o => ?_)
 obtain ⟨rfl, hk⟩ := hR
 replace u := u.pass hk
 refine qv o (e_pickT o rfl rfl) fun a o => ?_
 refine qa o rfl fun a o => ?_
 refine re <| tn <| wr <| ?_
 obtain rfl := si hm
 exact r1 o results14 rfl ⟨rfl, u.keep⟩
 replace hm := ite_f hm hb39
 refine rg <| qm o rfl fun a o => ?_
 iterate 2 refine qm o rfl fun a o => ?_
 refine qv o (e_lenL (α := Int) (xs := r17) o runUnderlying42 rfl) fun a o => ?_
 refine qv o (e_subL (xs := r24) (vl := 0) (vh := (r17.length : Int)) o runUnderlying42 sizeOf3 rfl hc34 rfl rfl h33 (subOa0 _ _ _) (Nat.sub_zero _)) fun a o => ?_
 refine ls <| c1 o rfl call29 (Z56_c (hp_le _) (St.capO u t1) (St.srO u t1 hv22) (St.capO u (.head _)) (St.srO u (.head _) hv36) h38) ⟨rfl, rfl, trivial⟩ (fun v w a hR o => ?_)
 obtain ⟨rfl, hk⟩ := hR
 replace u := u.pass hk
 refine qv o (e_as (e_move o rfl) (congrArg Value.bool hb39)) fun a o => ?_
 refine qn o fun a o => ?_
 refine qv o (e_pickF o rfl rfl) fun a o => ?_
 refine qa o rfl fun a o => ?_
 refine re <| tn <| wr <| ?_
 obtain rfl := si hm
 exact r1 o results14 rfl ⟨rfl, u.keep⟩
end Go.LM.LB
