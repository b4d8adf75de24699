/- Walks, lifted by program. No condition beyond the theorems' own premises. -/
import Derived.Test.YtgdkaddhhpgeiaaGreatDoorLBQ3
namespace Go.LM.LB
open Go Go.LL Go.MD Go.LM Go.Proofs Go.MD.LB Go.Proofs.Tryz
set_option maxRecDepth 100000
variable {N:Nat} {w0:World} {H:PH}
theorem Z1g_c (hH:H.le w0) {oa2:Option Addr} {cap3:Nat} {p1:(List api_Token)} (_:p1.length≤cap3) (hr5:SR H oa2 p1) {p6:Int} {p7:Str} {r:Bool} (hm:Z1g N p1 p6 p7=some r):Tot Tryz.prog 139 #[.slice oa2 p1.length cap3,i6 p6,strv p7] w0 (fun v w'=>v=.bool r∧Keep Nil w0 w'):=by
 unfold Z1g at hm
 refine fn0 func139 rfl ntmps139 rfl rfl fun a o=>?_
 have u:St w0 Nil [H] [] w0:=start1 hH
 refine th<|rg<|qa o rfl fun a o=>re<|tn<|th<|?_
 rcases bdich ((decide (0≤p6)) && (decide (p6 < (p1.length:Int)))) with hb8 | hb8
 replace hm:=ite_t hm hb8
 obtain ⟨xz9,h10,hm⟩:=bs hm
 obtain ⟨c11,g12,hl13⟩:=SR.get hr5 h10
 obtain rfl:=api_Token_open g12
 refine rg<|qm o rfl fun a o=>qv o (e_geq o rfl rfl) fun a o=>qm o rfl fun a o=>grp (N:=48) (Fk:=[(0,.slice oa2 p1.length cap3),(1,i6 p6),(2,strv p7),(14,.bool ((decide (0≤p6)) && (decide (p6 < (p1.length:Int)))))]) (b:=(decide (0≤p6))) 5 u ?_ ?_ ?_
 intro hb key
 replace o:=Fr.as o (t:=9) rfl (congrArg Value.bool hb)
 iterate 2 refine qg o (e_move o rfl) fun a o=>?_
 refine qg o (e_lenL (α:=api_Token) (xs:=p1) o runUnderlying120 rfl) fun a o=>qg o (e_lss o rfl rfl) fun a o=>qv o (e_as (v':=.bool ((decide (0≤p6)) && (decide (p6 < (p1.length:Int))))) (e_pickT o rfl rfl) (by rw [hb];rfl)) fun a o=>?_
 exact key _ _ (o.hs) u
 intro hb key
 replace o:=Fr.as o (t:=9) rfl (congrArg Value.bool hb)
 iterate 4 refine qn o fun a o=>?_
 refine qv o (e_as (v':=.bool ((decide (0≤p6)) && (decide (p6 < (p1.length:Int))))) (e_pickF o rfl rfl) (by rw [hb];rfl)) fun a o=>?_
 exact key _ _ (o.hs) u
 intro a w o u
 refine qv o (e_as (e_move o rfl) (congrArg Value.bool hb8)) fun a o=>?_
 iterate 2 refine qg o (e_move o rfl) fun a o=>?_
 refine qg o (e_iaI o runUnderlying120 sizeOf130 rfl rfl h10 (SR.oaI hr5 (by decide) h10)) fun a o=>qg o (e_fa o fa130_1 rfl) fun a o=>qg o (e_ld o isAgg9 rfl (PH.le.cell (Lds.le (St.ld u)) (hl13 1 _ rfl))) fun a o=>qg o (e_move o rfl) fun a o=>qg o (e_eqlU (m:=xz9.Text) (n:=p7) o rfl rfl) fun a o=>qv o (e_pickT o rfl rfl) fun a o=>qm o rfl fun a o=>grp (N:=48) (Fk:=[(0,.slice oa2 p1.length cap3),(1,i6 p6),(31,.bool ((decide (xz9.Text=p7)) && (decide (xz9.Kind≠2))))]) (b:=(decide (xz9.Text=p7))) 7 u ?_ ?_ ?_
 intro hb key
 replace o:=Fr.as o (t:=24) rfl (congrArg Value.bool hb)
 iterate 2 refine qg o (e_move o rfl) fun a o=>?_
 refine qg o (e_iaI o runUnderlying120 sizeOf130 rfl rfl h10 (SR.oaI hr5 (by decide) h10)) fun a o=>qg o (e_fa o fa130_0 rfl) fun a o=>qg o (e_ld o isAgg3 rfl (PH.le.cell (Lds.le (St.ld u)) (hl13 0 _ rfl))) fun a o=>qg o (e_neq o rfl rfl) fun a o=>qv o (e_as (v':=.bool ((decide (xz9.Text=p7)) && (decide (xz9.Kind≠2)))) (e_pickT o rfl rfl) (by rw [hb];rfl)) fun a o=>?_
 exact key _ _ (o.hs) u
 intro hb key
 replace o:=Fr.as o (t:=24) rfl (congrArg Value.bool hb)
 iterate 6 refine qn o fun a o=>?_
 refine qv o (e_as (v':=.bool ((decide (xz9.Text=p7)) && (decide (xz9.Kind≠2)))) (e_pickF o rfl rfl) (by rw [hb];rfl)) fun a o=>?_
 exact key _ _ (o.hs) u
 intro a w o u
 refine qm o rfl fun a o=>grp (N:=48) (Fk:=[(0,.slice oa2 p1.length cap3),(1,i6 p6),(39,.bool (((decide (xz9.Text=p7)) && (decide (xz9.Kind≠2))) && (decide (1≤xz9.Kind))))]) (b:=((decide (xz9.Text=p7)) && (decide (xz9.Kind≠2)))) 7 u ?_ ?_ ?_
 intro hb key
 replace o:=Fr.as o (t:=32) rfl (congrArg Value.bool hb)
 iterate 2 refine qg o (e_move o rfl) fun a o=>?_
 refine qg o (e_iaI o runUnderlying120 sizeOf130 rfl rfl h10 (SR.oaI hr5 (by decide) h10)) fun a o=>qg o (e_fa o fa130_0 rfl) fun a o=>qg o (e_ld o isAgg3 rfl (PH.le.cell (Lds.le (St.ld u)) (hl13 0 _ rfl))) fun a o=>qg o (e_geq o rfl rfl) fun a o=>qv o (e_as (v':=.bool (((decide (xz9.Text=p7)) && (decide (xz9.Kind≠2))) && (decide (1≤xz9.Kind)))) (e_pickT o rfl rfl) (by rw [hb];rfl)) fun a o=>?_
 exact key _ _ (o.hs) u
 intro hb key
 replace o:=Fr.as o (t:=32) rfl (congrArg Value.bool hb)
 iterate 6 refine qn o fun a o=>?_
 refine qv o (e_as (v':=.bool (((decide (xz9.Text=p7)) && (decide (xz9.Kind≠2))) && (decide (1≤xz9.Kind)))) (e_pickF o rfl rfl) (by rw [hb];rfl)) fun a o=>?_
 exact key _ _ (o.hs) u
 intro a w o u
 refine qm o rfl fun a o=>grp (N:=48) (Fk:=[(47,.bool ((((decide (xz9.Text=p7)) && (decide (xz9.Kind≠2))) && (decide (1≤xz9.Kind))) && (decide (xz9.Kind≤3))))]) (b:=(((decide (xz9.Text=p7)) && (decide (xz9.Kind≠2))) && (decide (1≤xz9.Kind)))) 7 u ?_ ?_ ?_
 intro hb key
 replace o:=Fr.as o (t:=40) rfl (congrArg Value.bool hb)
 iterate 2 refine qg o (e_move o rfl) fun a o=>?_
 refine qg o (e_iaI o runUnderlying120 sizeOf130 rfl rfl h10 (SR.oaI hr5 (by decide) h10)) fun a o=>qg o (e_fa o fa130_0 rfl) fun a o=>qg o (e_ld o isAgg3 rfl (PH.le.cell (Lds.le (St.ld u)) (hl13 0 _ rfl))) fun a o=>qg o (e_leq o rfl rfl) fun a o=>qv o (e_as (v':=.bool ((((decide (xz9.Text=p7)) && (decide (xz9.Kind≠2))) && (decide (1≤xz9.Kind))) && (decide (xz9.Kind≤3)))) (e_pickT o rfl rfl) (by rw [hb];rfl)) fun a o=>?_
 exact key _ _ (o.has ⟨rfl,trivial⟩) u
 intro hb key
 replace o:=Fr.as o (t:=40) rfl (congrArg Value.bool hb)
 iterate 6 refine qn o fun a o=>?_
 refine qv o (e_as (v':=.bool ((((decide (xz9.Text=p7)) && (decide (xz9.Kind≠2))) && (decide (1≤xz9.Kind))) && (decide (xz9.Kind≤3)))) (e_pickF o rfl rfl) (by rw [hb];rfl)) fun a o=>?_
 exact key _ _ (o.has ⟨rfl,trivial⟩) u
 intro a w o u
 refine qa o rfl fun a o=>re<|tn<|wr<|?_
 obtain rfl:=si hm
 exact r1 o results139 rfl ⟨rfl,u.keep⟩
 replace hm:=ite_f hm hb8
 refine rg<|qm o rfl fun a o=>qv o (e_geq o rfl rfl) fun a o=>qm o rfl fun a o=>grp (N:=48) (Fk:=[(0,.slice oa2 p1.length cap3),(1,i6 p6),(2,strv p7),(14,.bool ((decide (0≤p6)) && (decide (p6 < (p1.length:Int)))))]) (b:=(decide (0≤p6))) 5 u ?_ ?_ ?_
 intro hb key
 replace o:=Fr.as o (t:=9) rfl (congrArg Value.bool hb)
 iterate 2 refine qg o (e_move o rfl) fun a o=>?_
 refine qg o (e_lenL (α:=api_Token) (xs:=p1) o runUnderlying120 rfl) fun a o=>qg o (e_lss o rfl rfl) fun a o=>qv o (e_as (v':=.bool ((decide (0≤p6)) && (decide (p6 < (p1.length:Int))))) (e_pickT o rfl rfl) (by rw [hb];rfl)) fun a o=>?_
 exact key _ _ (o.hs) u
 intro hb key
 replace o:=Fr.as o (t:=9) rfl (congrArg Value.bool hb)
 iterate 4 refine qn o fun a o=>?_
 refine qv o (e_as (v':=.bool ((decide (0≤p6)) && (decide (p6 < (p1.length:Int))))) (e_pickF o rfl rfl) (by rw [hb];rfl)) fun a o=>?_
 exact key _ _ (o.hs) u
 intro a w o u
 refine qv o (e_as (e_move o rfl) (congrArg Value.bool hb8)) fun a o=>?_
 iterate 7 refine qn o fun a o=>?_
 refine qv o (e_pickF o rfl rfl) fun a o=>qm o rfl fun a o=>?_
 iterate 6 refine qn o fun a o=>?_
 refine qv o (e_pickF o rfl rfl) fun a o=>qm o rfl fun a o=>?_
 iterate 6 refine qn o fun a o=>?_
 refine qv o (e_pickF o rfl rfl) fun a o=>qm o rfl fun a o=>?_
 iterate 6 refine qn o fun a o=>?_
 refine qv o (e_pickF o rfl rfl) fun a o=>qa o rfl fun a o=>re<|tn<|wr<|?_
 obtain rfl:=si hm
 exact r1 o results139 rfl ⟨rfl,u.keep⟩
theorem Z4l_c (hH:H.le w0) {b2:Nat} {p1:leadlineref05_In} {oa3:Option Addr} {cap4:Nat} (hc5:p1.L.length≤cap4) (hr6:SR H oa3 p1.L) {p7:Str} (hO:(sepA [blk b2 (.cells [.slice oa3 p1.L.length cap4,i6 p1.At,i6 p1.E,i6 p1.Pos].toArray 125 (0,0))]).ok (hp w0)) (hD:∀ b,(sepA [blk b2 (.cells [.slice oa3 p1.L.length cap4,i6 p1.At,i6 p1.E,i6 p1.Pos].toArray 125 (0,0))]).fp b→H b=none) {r:(Bool×leadlineref05_In)} (hm:Z4l N p1 p7=some r):Tot Tryz.prog 102 #[.pointer (some ⟨b2,0,none⟩),strv p7] w0 (fun v w'=>∃ (oa1m:Option Addr) (cap1m:Nat),v=.bool r.1∧r.2.L.length≤cap1m∧SR H oa1m r.2.L∧Mut w0 (sepA [blk b2 (.cells [.slice oa3 p1.L.length cap4,i6 p1.At,i6 p1.E,i6 p1.Pos].toArray 125 (0,0))]) (sepA [blk b2 (.cells [.slice oa1m r.2.L.length cap1m,i6 r.2.At,i6 r.2.E,i6 r.2.Pos].toArray 125 (0,0))]) w'):=by
 unfold Z4l at hm
 refine fn0 func102 rfl ntmps102 rfl rfl fun a o=>?_
 have u:=startM hH hO hD
 refine th<|rg<|qa o rfl fun a o=>re<|tn<|th<|th<|midK (fun a w=>∃ (vA1:Bool),(Z4m p1) vA1=some r∧Fr 30 [(0,.pointer (some ⟨b2,0,none⟩)),(21,.bool vA1)] a∧St w0 (sepA [blk b2 (.cells [.slice oa3 p1.L.length cap4,i6 p1.At,i6 p1.E,i6 p1.Pos].toArray 125 (0,0))]).fp [H] [blk b2 (.cells [.slice oa3 p1.L.length cap4,i6 p1.At,i6 p1.E,i6 p1.Pos].toArray 125 (0,0))] w) ?_ ?_
 rcases bdich (decide (p1.E=0)) with hb8 | hb8
 replace hm:=itp_t hm hb8
 obtain ⟨rz9,h10,hm⟩:=bs hm
 refine rdS 17 u wide fun w u=>dr 0 u o rfl (e_move o rfl) fun a o=>dr 1 u o rfl (e_nilp o rfl) fun a o=>dr 2 u o rfl (e_fa o fa125_2 rfl) fun a o=>dq 3 (St.ld u) o rfl (fun w hl=>e_ld o isAgg29 rfl (hl.cellB t0 rfl)) fun a o=>dr 4 u o rfl (e_eql o rfl rfl) fun a o=>dr 5 u o rfl (e_as (e_move o rfl) (congrArg Value.bool hb8)) fun a o=>dg 6 (St.ld u) o rfl (fun w hl=>e_move o rfl) fun a o=>dg 7 (St.ld u) o rfl (fun w hl=>e_nilp o rfl) fun a o=>dg 8 (St.ld u) o rfl (fun w hl=>e_fa o fa125_0 rfl) fun a o=>dg 9 (St.ld u) o rfl (fun w hl=>e_ld o isAgg120 rfl (hl.cellB t0 rfl)) fun a o=>dg 10 (St.ld u) o rfl (fun w hl=>e_move o rfl) fun a o=>dg 11 (St.ld u) o rfl (fun w hl=>e_nilp o rfl) fun a o=>dg 12 (St.ld u) o rfl (fun w hl=>e_fa o fa125_1 rfl) fun a o=>dg 13 (St.ld u) o rfl (fun w hl=>e_ld o isAgg3 rfl (hl.cellB t0 rfl)) fun a o=>dg 14 (St.ld u) o rfl (fun w hl=>e_move o rfl) fun a o=>da1 (i:=15) (by kernel_rfl) ?_
 refine di (i:=15) rfl<|gy o rfl rfl<|cq o call139 (Z1g_c (hp_le _) hc5 (St.srH u hr6) h10) ⟨rfl,rfl,rfl,trivial⟩ u fun w a u o=>⟨fun _=>(St.ld u),?_⟩
 refine dr 16 u o rfl (e_pickT o rfl rfl) fun a o=>de (by kernel_rfl)<|tn<|?_
 exact ⟨rz9,hm,o.has ⟨rfl,rfl,trivial⟩,u⟩
 replace hm:=itp_f hm hb8
 refine rxS 17 u wide (by kernel_rfl) fun w u=>xm u o rfl fun a o=>xr u o (e_nilp o rfl) fun a o=>xr u o (e_fa o fa125_2 rfl) fun a o=>xq (St.ld u) o (fun w hl=>e_ld o isAgg29 rfl (hl.cellB t0 rfl)) fun a o=>xr u o (e_eql o rfl rfl) fun a o=>xr u o (e_as (e_move o rfl) (congrArg Value.bool hb8)) fun a o=>?_
 iterate 10 refine xn (St.ld u) o fun a o=>?_
 refine xr u o (e_pickF o rfl rfl) fun a o=>xe<|tn<|?_
 exact ⟨false,hm,o.has ⟨rfl,rfl,trivial⟩,u⟩
 rintro a w ⟨vA1,hm,o,u⟩
 unfold Z4m at hm
 rcases bdich vA1 with hb11 | hb11
 replace hm:=ite_t hm hb11
 refine ctv o rfl hb11<|th<|rg<|qm o rfl fun a o=>qm o rfl fun a o=>qv o (e_nilp o rfl) fun a o=>qv o (e_fa o fa125_1 rfl) fun a o=>qv o (e_ld o isAgg3 rfl ((St.ld u).cellB t0 rfl)) fun a o=>qv o (e_add o rfl rfl) fun a o=>qv o (e_nilp o rfl) fun a o=>qv o (e_fa o fa125_1 rfl) fun a o=>ls<|s_blk o u sizeOf3 rfl rfl rfl rfl .head (.succ .zero) fun w u=>re<|tn<|th<|rg<|qa o rfl fun a o=>re<|tn<|wr<|tr<|?_
 obtain rfl:=si hm
 exact r1 o results102 rfl ⟨oa3,cap4,rfl,hc5,hr6,(u.pickL (.cons .head .nil)).endMut⟩
 replace hm:=ite_f hm hb11
 refine cfv o rfl hb11<|wk<|tn<|th<|rg<|qa o rfl fun a o=>re<|tn<|wr<|?_
 obtain rfl:=si hm
 exact r1 o results102 rfl ⟨oa3,cap4,rfl,hc5,hr6,(u.pickL (.cons .head .nil)).endMut⟩
theorem Z1p_c (hH:H.le w0) {oa2:Option Addr} {cap3:Nat} {p1:(List api_Token)} (_:p1.length≤cap3) (hr5:SR H oa2 p1) {p6:Int} {r:Int} (hm:Z1p N p1 p6=some r):Tot Tryz.prog 143 #[.slice oa2 p1.length cap3,i6 p6] w0 (fun v w'=>v=i6 r∧Keep Nil w0 w'):=by
 unfold Z1p at hm
 refine fn0 func143 rfl ntmps143 rfl rfl fun a o=>?_
 have u:St w0 Nil [H] [] w0:=start1 hH
 refine th<|rg<|qa o rfl fun a o=>re<|tn<|th<|th<|rg<|qm o rfl fun a o=>qv o (e_geq o rfl rfl) fun a o=>qm o rfl fun a o=>grp (N:=37) (Fk:=[(0,.slice oa2 p1.length cap3),(1,i6 p6),(12,.bool ((decide (0≤p6)) && (decide (p6 < (p1.length:Int)))))]) (b:=(decide (0≤p6))) 5 u ?_ ?_ ?_
 intro hb key
 replace o:=Fr.as o (t:=7) rfl (congrArg Value.bool hb)
 iterate 2 refine qg o (e_move o rfl) fun a o=>?_
 refine qg o (e_lenL (α:=api_Token) (xs:=p1) o runUnderlying120 rfl) fun a o=>qg o (e_lss o rfl rfl) fun a o=>qv o (e_as (v':=.bool ((decide (0≤p6)) && (decide (p6 < (p1.length:Int))))) (e_pickT o rfl rfl) (by rw [hb];rfl)) fun a o=>?_
 exact key _ _ (o.hs) u
 intro hb key
 replace o:=Fr.as o (t:=7) rfl (congrArg Value.bool hb)
 iterate 4 refine qn o fun a o=>?_
 refine qv o (e_as (v':=.bool ((decide (0≤p6)) && (decide (p6 < (p1.length:Int))))) (e_pickF o rfl rfl) (by rw [hb];rfl)) fun a o=>?_
 exact key _ _ (o.hs) u
 intro a w o u
 refine re<|?_
 rcases bdich ((decide (0≤p6)) && (decide (p6 < (p1.length:Int)))) with hb7 | hb7
 replace hm:=ite_t hm hb7
 refine tn<|ctv o rfl hb7<|th<|?_
 obtain ⟨xz8,h9,hm⟩:=bs hm
 obtain ⟨c10,g11,hl12⟩:=SR.get hr5 h9
 obtain rfl:=api_Token_open g11
 refine rg<|qm o rfl fun a o=>qm o rfl fun a o=>qv o (e_iaI o runUnderlying120 sizeOf130 rfl rfl h9 (SR.oaI hr5 (by decide) h9)) fun a o=>qv o (e_fa o fa130_3 rfl) fun a o=>qv o (e_ld o isAgg3 rfl (PH.le.cell (Lds.le (St.ld u)) (hl12 3 _ rfl))) fun a o=>qa o rfl fun a o=>re<|tn<|wr<|tr<|?_
 obtain rfl:=si hm
 exact r1 o results143 rfl ⟨rfl,u.keep⟩
 replace hm:=ite_f hm hb7
 refine tn<|cfv o rfl hb7<|wk<|tn<|th<|th<|rg<|qm o rfl fun a o=>qv o (e_lenL (α:=api_Token) (xs:=p1) o runUnderlying120 rfl) fun a o=>qv o (e_eql o rfl rfl) fun a o=>re<|?_
 rcases bdich (decide ((p1.length:Int)=0)) with hb13 | hb13
 replace hm:=itp_t hm hb13
 refine tn<|ctv o rfl hb13<|th<|rg<|qa o rfl fun a o=>re<|tn<|wr<|tr<|?_
 obtain rfl:=si hm
 exact r1 o results143 rfl ⟨rfl,u.keep⟩
 replace hm:=itp_f hm hb13
 refine tn<|cfv o rfl hb13<|wk<|tn<|th<|?_
 obtain ⟨x14,h15,hm⟩:=bs hm
 obtain ⟨c16,g17,hl18⟩:=SR.get hr5 h15
 obtain rfl:=api_Token_open g17
 refine rxS 17 u wide (by kernel_rfl) fun w u=>?_
 iterate 2 refine xq (St.ld u) o (fun w hl=>e_move o rfl) fun a o=>?_
 refine xr u o (e_lenL (α:=api_Token) (xs:=p1) o runUnderlying120 rfl) fun a o=>xr u o (e_sub o rfl rfl) fun a o=>xr u o (e_iaI o runUnderlying120 sizeOf130 rfl rfl h15 (SR.oaI hr5 (by decide) h15)) fun a o=>xr u o (e_fa o fa130_3 rfl) fun a o=>xq (St.ld u) o (fun w hl=>e_ld o isAgg3 rfl (PH.le.cell (Lds.le hl) (hl18 3 _ rfl))) fun a o=>?_
 iterate 2 refine xq (St.ld u) o (fun w hl=>e_move o rfl) fun a o=>?_
 refine xr u o (e_lenL (α:=api_Token) (xs:=p1) o runUnderlying120 rfl) fun a o=>xr u o (e_sub o rfl rfl) fun a o=>xr u o (e_iaI o runUnderlying120 sizeOf130 rfl rfl h15 (SR.oaI hr5 (by decide) h15)) fun a o=>xr u o (e_fa o fa130_1 rfl) fun a o=>xq (St.ld u) o (fun w hl=>e_ld o isAgg9 rfl (PH.le.cell (Lds.le hl) (hl18 1 _ rfl))) fun a o=>xr u o (e_lenU (s:=x14.Text) o runUnderlying9 rfl) fun a o=>xr u o (e_add o rfl rfl) fun a o=>xr u o (e_asg o rfl) fun a o=>xe<|tn<|wr<|?_
 obtain rfl:=si hm
 exact r1 o results143 rfl ⟨rfl,u.keep⟩
theorem Z4i_c (hH:H.le w0) {b2:Nat} {p1:leadlineref05_In} {oa3:Option Addr} {cap4:Nat} (hc5:p1.L.length≤cap4) (hr6:SR H oa3 p1.L) (hO:(sepA [blk b2 (.cells [.slice oa3 p1.L.length cap4,i6 p1.At,i6 p1.E,i6 p1.Pos].toArray 125 (0,0))]).ok (hp w0)) (hD:∀ b,(sepA [blk b2 (.cells [.slice oa3 p1.L.length cap4,i6 p1.At,i6 p1.E,i6 p1.Pos].toArray 125 (0,0))]).fp b→H b=none) {r:leadlineref05_In} (hm:Z4i N p1=some r):Tot Tryz.prog 107 #[.pointer (some ⟨b2,0,none⟩)] w0 (fun v w'=>∃ (oa1m:Option Addr) (cap1m:Nat),v=.tuple #[]∧r.L.length≤cap1m∧SR H oa1m r.L∧Mut w0 (sepA [blk b2 (.cells [.slice oa3 p1.L.length cap4,i6 p1.At,i6 p1.E,i6 p1.Pos].toArray 125 (0,0))]) (sepA [blk b2 (.cells [.slice oa1m r.L.length cap1m,i6 r.At,i6 r.E,i6 r.Pos].toArray 125 (0,0))]) w'):=by
 unfold Z4i at hm
 refine fn0 func107 rfl ntmps107 rfl rfl fun a o=>?_
 have u:=startM hH hO hD
 refine th<|rg<|qm o rfl fun a o=>qv o (e_nilp o rfl) fun a o=>qv o (e_fa o fa125_2 rfl) fun a o=>qv o (e_ld o isAgg29 rfl ((St.ld u).cellB t0 rfl)) fun a o=>qv o (e_eql o rfl rfl) fun a o=>re<|?_
 rcases bdich (decide (p1.E=0)) with hb7 | hb7
 replace hm:=itp_t hm hb7
 refine tn<|ctv o rfl hb7<|th<|rg<|qm o rfl fun a o=>qv o (e_nilp o rfl) fun a o=>qv o (e_fa o fa125_2 rfl) fun a o=>ls<|s_blk o u sizeOf29 rfl rfl rfl rfl .head (.succ (.succ .zero)) fun w u=>re<|tn<|th<|th<|rxS 10 u wide (by kernel_rfl) fun w u=>xm u o rfl fun a o=>xr u o (e_nilp o rfl) fun a o=>xr u o (e_fa o fa125_1 rfl) fun a o=>xq (St.ld u) o (fun w hl=>e_ld o isAgg3 rfl (hl.cellB t0 rfl)) fun a o=>xm u o rfl fun a o=>xr u o (e_nilp o rfl) fun a o=>xr u o (e_fa o fa125_0 rfl) fun a o=>xq (St.ld u) o (fun w hl=>e_ld o isAgg120 rfl (hl.cellB t0 rfl)) fun a o=>xr u o (e_lenL (α:=api_Token) (xs:=p1.L) o runUnderlying120 rfl) fun a o=>xr u o (e_geq o rfl rfl) fun a o=>xe<|tn<|midK (fun a w=>∃ (vA1:Int),(Z4j N p1) vA1=some r∧Fr 35 [(0,.pointer (some ⟨b2,0,none⟩))] a∧St w0 (sepA [blk b2 (.cells [.slice oa3 p1.L.length cap4,i6 p1.At,i6 p1.E,i6 p1.Pos].toArray 125 (0,0))]).fp [H] [blk b2 (.cells [.slice oa3 p1.L.length cap4,i6 p1.At,i6 vA1,i6 p1.Pos].toArray 125 (0,0))] w) ?_ ?_
 rcases bdich (decide ((p1.L.length:Int)≤p1.At)) with hb8 | hb8
 replace hm:=itp_t hm hb8
 refine ctv o rfl hb8<|rg<|qm o rfl fun a o=>qv o (e_nilp o rfl) fun a o=>qv o (e_fa o fa125_2 rfl) fun a o=>ls<|s_blk o u sizeOf29 rfl rfl rfl rfl .head (.succ (.succ .zero)) fun w u=>re<|tn<|?_
 exact ⟨6,hm,o.has ⟨rfl,trivial⟩,u⟩
 replace hm:=itp_f hm hb8
 refine cfv o rfl hb8<|wk<|tn<|?_
 exact ⟨5,hm,o.has ⟨rfl,trivial⟩,u⟩
 rintro a w ⟨vA1,hm,o,u⟩
 unfold Z4j at hm
 obtain ⟨rz9,h10,hm⟩:=bs hm
 refine rdL sub_nil 13 u wide fun w u=>ds 0 (St.ldsX u i2 ta1) o rfl (e_move o rfl) fun a o=>ds 1 (St.ldsX u i2 ta1) o rfl (e_move o rfl) fun a o=>ds 2 (St.ldsX u i2 ta1) o rfl (e_nilp o rfl) fun a o=>ds 3 (St.ldsX u i2 ta1) o rfl (e_fa o fa125_0 rfl) fun a o=>da2 (i:=4) (j:=5) (by kernel_rfl) ?_ ?_
 refine di (i:=4) rfl<|q1 o rfl (e_ld o isAgg120 rfl ((St.ld u).cellB t0 rfl)) fun a o=>⟨fun _=>(St.ldsX u i2 ta1),?_⟩
 refine ds 5 (St.ldsX u i2 ta1) o rfl (e_move o rfl) fun a o=>ds 6 (St.ldsX u i2 ta1) o rfl (e_nilp o rfl) fun a o=>ds 7 (St.ldsX u i2 ta1) o rfl (e_fa o fa125_1 rfl) fun a o=>da1 (i:=8) (by kernel_rfl) ?_
 refine di (i:=8) rfl<|q1 o rfl (e_ld o isAgg3 rfl ((St.ld u).cellB t0 rfl)) fun a o=>⟨fun _=>(St.ldsX u i2 ta1),?_⟩
 refine da1 (i:=9) (by kernel_rfl) ?_
 refine di (i:=9) rfl<|cq o call143 (Z1p_c (hp_le _) hc5 (St.srH u hr6) h10) ⟨rfl,rfl,trivial⟩ u fun w a u o=>⟨fun _=>(St.ldsX u i2 ta1),?_⟩
 refine ds 10 (St.ldsX u i2 ta1) o rfl (e_nilp o rfl) fun a o=>ds 11 (St.ldsX u i2 ta1) o rfl (e_fa o fa125_3 rfl) fun a o=>da1 (i:=12) (by kernel_rfl) ?_
 refine di (i:=12) rfl<|s_blk o u sizeOf3 rfl rfl rfl rfl .head (.succ (.succ (.succ .zero))) fun w u=>⟨fun _=>(St.ldsX u i2 ta1),?_⟩
 refine de (by kernel_rfl)<|?_
 obtain rfl:=si hm
 exact r0n o results107 ⟨oa3,cap4,rfl,hc5,hr6,(u.pickL (.cons .head .nil)).endMut⟩
 refine di (i:=5) rfl<|q1 o rfl (e_move o rfl) fun a o=>⟨fun _=>(St.ldsX u i2 ta1),?_⟩
 refine da2 (i:=4) (j:=6) (by kernel_rfl) ?_ ?_
 refine di (i:=4) rfl<|q1 o rfl (e_ld o isAgg120 rfl ((St.ld u).cellB t0 rfl)) fun a o=>⟨fun _=>(St.ldsX u i2 ta1),?_⟩
 refine ds 6 (St.ldsX u i2 ta1) o rfl (e_nilp o rfl) fun a o=>ds 7 (St.ldsX u i2 ta1) o rfl (e_fa o fa125_1 rfl) fun a o=>da1 (i:=8) (by kernel_rfl) ?_
 refine di (i:=8) rfl<|q1 o rfl (e_ld o isAgg3 rfl ((St.ld u).cellB t0 rfl)) fun a o=>⟨fun _=>(St.ldsX u i2 ta1),?_⟩
 refine da1 (i:=9) (by kernel_rfl) ?_
 refine di (i:=9) rfl<|cq o call143 (Z1p_c (hp_le _) hc5 (St.srH u hr6) h10) ⟨rfl,rfl,trivial⟩ u fun w a u o=>⟨fun _=>(St.ldsX u i2 ta1),?_⟩
 refine ds 10 (St.ldsX u i2 ta1) o rfl (e_nilp o rfl) fun a o=>ds 11 (St.ldsX u i2 ta1) o rfl (e_fa o fa125_3 rfl) fun a o=>da1 (i:=12) (by kernel_rfl) ?_
 refine di (i:=12) rfl<|s_blk o u sizeOf3 rfl rfl rfl rfl .head (.succ (.succ (.succ .zero))) fun w u=>⟨fun _=>(St.ldsX u i2 ta1),?_⟩
 refine de (by kernel_rfl)<|?_
 obtain rfl:=si hm
 exact r0n o results107 ⟨oa3,cap4,rfl,hc5,hr6,(u.pickL (.cons .head .nil)).endMut⟩
 refine di (i:=6) rfl<|q1 o rfl (e_nilp o rfl) fun a o=>⟨fun _=>(St.ldsX u i2 ta1),?_⟩
 refine da2 (i:=4) (j:=7) (by kernel_rfl) ?_ ?_
 refine di (i:=4) rfl<|q1 o rfl (e_ld o isAgg120 rfl ((St.ld u).cellB t0 rfl)) fun a o=>⟨fun _=>(St.ldsX u i2 ta1),?_⟩
 refine ds 7 (St.ldsX u i2 ta1) o rfl (e_fa o fa125_1 rfl) fun a o=>da1 (i:=8) (by kernel_rfl) ?_
 refine di (i:=8) rfl<|q1 o rfl (e_ld o isAgg3 rfl ((St.ld u).cellB t0 rfl)) fun a o=>⟨fun _=>(St.ldsX u i2 ta1),?_⟩
 refine da1 (i:=9) (by kernel_rfl) ?_
 refine di (i:=9) rfl<|cq o call143 (Z1p_c (hp_le _) hc5 (St.srH u hr6) h10) ⟨rfl,rfl,trivial⟩ u fun w a u o=>⟨fun _=>(St.ldsX u i2 ta1),?_⟩
 refine ds 10 (St.ldsX u i2 ta1) o rfl (e_nilp o rfl) fun a o=>ds 11 (St.ldsX u i2 ta1) o rfl (e_fa o fa125_3 rfl) fun a o=>da1 (i:=12) (by kernel_rfl) ?_
 refine di (i:=12) rfl<|s_blk o u sizeOf3 rfl rfl rfl rfl .head (.succ (.succ (.succ .zero))) fun w u=>⟨fun _=>(St.ldsX u i2 ta1),?_⟩
 refine de (by kernel_rfl)<|?_
 obtain rfl:=si hm
 exact r0n o results107 ⟨oa3,cap4,rfl,hc5,hr6,(u.pickL (.cons .head .nil)).endMut⟩
 refine di (i:=7) rfl<|q1 o rfl (e_fa o fa125_1 rfl) fun a o=>⟨fun _=>(St.ldsX u i2 ta1),?_⟩
 refine da2 (i:=4) (j:=8) (by kernel_rfl) ?_ ?_
 refine di (i:=4) rfl<|q1 o rfl (e_ld o isAgg120 rfl ((St.ld u).cellB t0 rfl)) fun a o=>⟨fun _=>(St.ldsX u i2 ta1),?_⟩
 refine da1 (i:=8) (by kernel_rfl) ?_
 refine di (i:=8) rfl<|q1 o rfl (e_ld o isAgg3 rfl ((St.ld u).cellB t0 rfl)) fun a o=>⟨fun _=>(St.ldsX u i2 ta1),?_⟩
 refine da1 (i:=9) (by kernel_rfl) ?_
 refine di (i:=9) rfl<|cq o call143 (Z1p_c (hp_le _) hc5 (St.srH u hr6) h10) ⟨rfl,rfl,trivial⟩ u fun w a u o=>⟨fun _=>(St.ldsX u i2 ta1),?_⟩
 refine ds 10 (St.ldsX u i2 ta1) o rfl (e_nilp o rfl) fun a o=>ds 11 (St.ldsX u i2 ta1) o rfl (e_fa o fa125_3 rfl) fun a o=>da1 (i:=12) (by kernel_rfl) ?_
 refine di (i:=12) rfl<|s_blk o u sizeOf3 rfl rfl rfl rfl .head (.succ (.succ (.succ .zero))) fun w u=>⟨fun _=>(St.ldsX u i2 ta1),?_⟩
 refine de (by kernel_rfl)<|?_
 obtain rfl:=si hm
 exact r0n o results107 ⟨oa3,cap4,rfl,hc5,hr6,(u.pickL (.cons .head .nil)).endMut⟩
 refine di (i:=8) rfl<|q1 o rfl (e_ld o isAgg3 rfl ((St.ld u).cellB t0 rfl)) fun a o=>⟨fun _=>(St.ldsX u i2 ta1),?_⟩
 refine da1 (i:=4) (by kernel_rfl) ?_
 refine di (i:=4) rfl<|q1 o rfl (e_ld o isAgg120 rfl ((St.ld u).cellB t0 rfl)) fun a o=>⟨fun _=>(St.ldsX u i2 ta1),?_⟩
 refine da1 (i:=9) (by kernel_rfl) ?_
 refine di (i:=9) rfl<|cq o call143 (Z1p_c (hp_le _) hc5 (St.srH u hr6) h10) ⟨rfl,rfl,trivial⟩ u fun w a u o=>⟨fun _=>(St.ldsX u i2 ta1),?_⟩
 refine ds 10 (St.ldsX u i2 ta1) o rfl (e_nilp o rfl) fun a o=>ds 11 (St.ldsX u i2 ta1) o rfl (e_fa o fa125_3 rfl) fun a o=>da1 (i:=12) (by kernel_rfl) ?_
 refine di (i:=12) rfl<|s_blk o u sizeOf3 rfl rfl rfl rfl .head (.succ (.succ (.succ .zero))) fun w u=>⟨fun _=>(St.ldsX u i2 ta1),?_⟩
 refine de (by kernel_rfl)<|?_
 obtain rfl:=si hm
 exact r0n o results107 ⟨oa3,cap4,rfl,hc5,hr6,(u.pickL (.cons .head .nil)).endMut⟩
 replace hm:=itp_f hm hb7
 refine tn<|cfv o rfl hb7<|wk<|?_
 obtain rfl:=si hm
 exact r0n o results107 ⟨oa3,cap4,rfl,hc5,hr6,(u.pickL (.cons .head .nil)).endMut⟩
set_option maxHeartbeats 4000000 in
theorem Z4o_c (hH:H.le w0) {b2:Nat} {p1:leadlineref05_In} {oa3:Option Addr} {cap4:Nat} (hc5:p1.L.length≤cap4) (hr6:SR H oa3 p1.L) (hO:(sepA [blk b2 (.cells [.slice oa3 p1.L.length cap4,i6 p1.At,i6 p1.E,i6 p1.Pos].toArray 125 (0,0))]).ok (hp w0)) (hD:∀ b,(sepA [blk b2 (.cells [.slice oa3 p1.L.length cap4,i6 p1.At,i6 p1.E,i6 p1.Pos].toArray 125 (0,0))]).fp b→H b=none) {r:(api_Cell×leadlineref05_In)} (hm:Z4o N p1=some r):Tot Tryz.prog 104 #[.pointer (some ⟨b2,0,none⟩)] w0 (fun v w'=>∃ (oa1m:Option Addr) (cap1m:Nat),v=.agg #[strv r.1.Name,i6 r.1.N,i6 r.1.At]∧r.2.L.length≤cap1m∧SR H oa1m r.2.L∧Mut w0 (sepA [blk b2 (.cells [.slice oa3 p1.L.length cap4,i6 p1.At,i6 p1.E,i6 p1.Pos].toArray 125 (0,0))]) (sepA [blk b2 (.cells [.slice oa1m r.2.L.length cap1m,i6 r.2.At,i6 r.2.E,i6 r.2.Pos].toArray 125 (0,0))]) w'):=by
 unfold Z4o at hm
 refine fn0 func104 rfl ntmps104 rfl rfl fun a o=>?_
 have u:=startM hH hO hD
 refine th<|rg<|ls<|a_alloc (cs:=[strv [],i6 0,i6 0].toArray) o rfl u Tryz.zeroValue53 rfl fun b7 w a u o=>re<|tn<|th<|th<|midK (fun a w=>∃ (vA1:Bool),(Z4p N p1) vA1=some r∧Fr 84 [(0,.pointer (some ⟨b2,0,none⟩)),(2,.pointer (some ⟨b7,0,none⟩)),(47,.bool vA1)] a∧St w0 (sepA [blk b2 (.cells [.slice oa3 p1.L.length cap4,i6 p1.At,i6 p1.E,i6 p1.Pos].toArray 125 (0,0))]).fp [H] [blk b2 (.cells [.slice oa3 p1.L.length cap4,i6 p1.At,i6 p1.E,i6 p1.Pos].toArray 125 (0,0)),blk b7 (.cells [strv [],i6 0,i6 0].toArray 53 (0,0))] w) ?_ ?_
 rcases bdich (decide (p1.E=0)) with hb8 | hb8
 replace hm:=itp_t hm hb8
 rcases bdich (decide (p1.At < (p1.L.length:Int))) with hb9 | hb9
 replace hm:=itp_t hm hb9
 obtain ⟨x10,h11,hm⟩:=bs hm
 obtain ⟨c12,g13,hl14⟩:=SR.get hr6 h11
 obtain rfl:=api_Token_open g13
 rcases bdich (decide (x10.Kind=1)) with hb15 | hb15
 replace hm:=itp_t hm hb15
 obtain ⟨r16,h17,hm⟩:=bs hm
 refine rdS 45 u wide fun w u=>dr 0 u o rfl (e_move o rfl) fun a o=>dr 1 u o rfl (e_nilp o rfl) fun a o=>dr 2 u o rfl (e_fa o fa125_2 rfl) fun a o=>dq 3 (St.ld u) o rfl (fun w hl=>e_ld o isAgg29 rfl (hl.cellB t1 rfl)) fun a o=>dr 4 u o rfl (e_eql o rfl rfl) fun a o=>dr 5 u o rfl (e_as (e_move o rfl) (congrArg Value.bool hb8)) fun a o=>dg 6 (St.ld u) o rfl (fun w hl=>e_move o rfl) fun a o=>dg 7 (St.ld u) o rfl (fun w hl=>e_nilp o rfl) fun a o=>dg 8 (St.ld u) o rfl (fun w hl=>e_fa o fa125_1 rfl) fun a o=>dg 9 (St.ld u) o rfl (fun w hl=>e_ld o isAgg3 rfl (hl.cellB t1 rfl)) fun a o=>dg 10 (St.ld u) o rfl (fun w hl=>e_move o rfl) fun a o=>dg 11 (St.ld u) o rfl (fun w hl=>e_nilp o rfl) fun a o=>dg 12 (St.ld u) o rfl (fun w hl=>e_fa o fa125_0 rfl) fun a o=>dg 13 (St.ld u) o rfl (fun w hl=>e_ld o isAgg120 rfl (hl.cellB t1 rfl)) fun a o=>dg 14 (St.ld u) o rfl (fun w hl=>e_lenL (α:=api_Token) (xs:=p1.L) o runUnderlying120 rfl) fun a o=>dg 15 (St.ld u) o rfl (fun w hl=>e_lss o rfl rfl) fun a o=>dr 16 u o rfl (e_pickT o rfl rfl) fun a o=>dr 17 u o rfl (e_as (e_move o rfl) (congrArg Value.bool hb9)) fun a o=>dg 18 (St.ld u) o rfl (fun w hl=>e_move o rfl) fun a o=>dg 19 (St.ld u) o rfl (fun w hl=>e_nilp o rfl) fun a o=>dg 20 (St.ld u) o rfl (fun w hl=>e_fa o fa125_0 rfl) fun a o=>dg 21 (St.ld u) o rfl (fun w hl=>e_ld o isAgg120 rfl (hl.cellB t1 rfl)) fun a o=>dg 22 (St.ld u) o rfl (fun w hl=>e_move o rfl) fun a o=>dg 23 (St.ld u) o rfl (fun w hl=>e_nilp o rfl) fun a o=>dg 24 (St.ld u) o rfl (fun w hl=>e_fa o fa125_1 rfl) fun a o=>dg 25 (St.ld u) o rfl (fun w hl=>e_ld o isAgg3 rfl (hl.cellB t1 rfl)) fun a o=>dg 26 (St.ld u) o rfl (fun w hl=>e_iaI o runUnderlying120 sizeOf130 rfl rfl h11 (SR.oaI hr6 (by decide) h11)) fun a o=>dg 27 (St.ld u) o rfl (fun w hl=>e_fa o fa130_0 rfl) fun a o=>dg 28 (St.ld u) o rfl (fun w hl=>e_ld o isAgg3 rfl (PH.le.cell (Lds.le hl) (hl14 0 _ rfl))) fun a o=>dg 29 (St.ld u) o rfl (fun w hl=>e_eql o rfl rfl) fun a o=>?_
 refine dr 30 u o rfl (e_pickT o rfl rfl) fun a o=>dr 31 u o rfl (e_as (e_move o rfl) (congrArg Value.bool hb15)) fun a o=>dg 32 (St.ld u) o rfl (fun w hl=>e_move o rfl) fun a o=>dg 33 (St.ld u) o rfl (fun w hl=>e_nilp o rfl) fun a o=>dg 34 (St.ld u) o rfl (fun w hl=>e_fa o fa125_0 rfl) fun a o=>dg 35 (St.ld u) o rfl (fun w hl=>e_ld o isAgg120 rfl (hl.cellB t1 rfl)) fun a o=>dg 36 (St.ld u) o rfl (fun w hl=>e_move o rfl) fun a o=>dg 37 (St.ld u) o rfl (fun w hl=>e_nilp o rfl) fun a o=>dg 38 (St.ld u) o rfl (fun w hl=>e_fa o fa125_1 rfl) fun a o=>dg 39 (St.ld u) o rfl (fun w hl=>e_ld o isAgg3 rfl (hl.cellB t1 rfl)) fun a o=>dg 40 (St.ld u) o rfl (fun w hl=>e_iaI o runUnderlying120 sizeOf130 rfl rfl h11 (SR.oaI hr6 (by decide) h11)) fun a o=>dg 41 (St.ld u) o rfl (fun w hl=>e_fa o fa130_1 rfl) fun a o=>dg 42 (St.ld u) o rfl (fun w hl=>e_ld o isAgg9 rfl (PH.le.cell (Lds.le hl) (hl14 1 _ rfl))) fun a o=>da1 (i:=43) (by kernel_rfl) ?_
 refine di (i:=43) rfl<|gy o rfl rfl<|cq o call114 (Z1k_c (hp_le _) h17) ⟨rfl,trivial⟩ u fun w a u o=>⟨fun _=>(St.ld u),?_⟩
 refine dr 44 u o rfl (e_pickT o rfl rfl) fun a o=>de (by kernel_rfl)<|tn<|?_
 replace u:=u.pk [1,0] rfl
 exact ⟨r16,hm,o.hs,u⟩
 replace hm:=itp_f hm hb15
 refine rxS 45 u wide (by kernel_rfl) fun w u=>xm u o rfl fun a o=>xr u o (e_nilp o rfl) fun a o=>xr u o (e_fa o fa125_2 rfl) fun a o=>xq (St.ld u) o (fun w hl=>e_ld o isAgg29 rfl (hl.cellB t1 rfl)) fun a o=>xr u o (e_eql o rfl rfl) fun a o=>xr u o (e_as (e_move o rfl) (congrArg Value.bool hb8)) fun a o=>xg (St.ld u) o (fun w hl=>e_move o rfl) fun a o=>xg (St.ld u) o (fun w hl=>e_nilp o rfl) fun a o=>xg (St.ld u) o (fun w hl=>e_fa o fa125_1 rfl) fun a o=>xg (St.ld u) o (fun w hl=>e_ld o isAgg3 rfl (hl.cellB t1 rfl)) fun a o=>xg (St.ld u) o (fun w hl=>e_move o rfl) fun a o=>xg (St.ld u) o (fun w hl=>e_nilp o rfl) fun a o=>xg (St.ld u) o (fun w hl=>e_fa o fa125_0 rfl) fun a o=>xg (St.ld u) o (fun w hl=>e_ld o isAgg120 rfl (hl.cellB t1 rfl)) fun a o=>xg (St.ld u) o (fun w hl=>e_lenL (α:=api_Token) (xs:=p1.L) o runUnderlying120 rfl) fun a o=>xg (St.ld u) o (fun w hl=>e_lss o rfl rfl) fun a o=>xr u o (e_pickT o rfl rfl) fun a o=>xr u o (e_as (e_move o rfl) (congrArg Value.bool hb9)) fun a o=>xg (St.ld u) o (fun w hl=>e_move o rfl) fun a o=>xg (St.ld u) o (fun w hl=>e_nilp o rfl) fun a o=>xg (St.ld u) o (fun w hl=>e_fa o fa125_0 rfl) fun a o=>xg (St.ld u) o (fun w hl=>e_ld o isAgg120 rfl (hl.cellB t1 rfl)) fun a o=>xg (St.ld u) o (fun w hl=>e_move o rfl) fun a o=>xg (St.ld u) o (fun w hl=>e_nilp o rfl) fun a o=>xg (St.ld u) o (fun w hl=>e_fa o fa125_1 rfl) fun a o=>xg (St.ld u) o (fun w hl=>e_ld o isAgg3 rfl (hl.cellB t1 rfl)) fun a o=>xg (St.ld u) o (fun w hl=>e_iaI o runUnderlying120 sizeOf130 rfl rfl h11 (SR.oaI hr6 (by decide) h11)) fun a o=>xg (St.ld u) o (fun w hl=>e_fa o fa130_0 rfl) fun a o=>xg (St.ld u) o (fun w hl=>e_ld o isAgg3 rfl (PH.le.cell (Lds.le hl) (hl14 0 _ rfl))) fun a o=>xg (St.ld u) o (fun w hl=>e_eql o rfl rfl) fun a o=>?_
 refine xr u o (e_pickT o rfl rfl) fun a o=>xr u o (e_as (e_move o rfl) (congrArg Value.bool hb15)) fun a o=>?_
 iterate 12 refine xn (St.ld u) o fun a o=>?_
 refine xr u o (e_pickF o rfl rfl) fun a o=>xe<|tn<|?_
 replace u:=u.pk [1,0] rfl
 exact ⟨false,hm,o.hs,u⟩
 replace hm:=itp_f hm hb9
 refine rxS 45 u wide (by kernel_rfl) fun w u=>xm u o rfl fun a o=>xr u o (e_nilp o rfl) fun a o=>xr u o (e_fa o fa125_2 rfl) fun a o=>xq (St.ld u) o (fun w hl=>e_ld o isAgg29 rfl (hl.cellB t1 rfl)) fun a o=>xr u o (e_eql o rfl rfl) fun a o=>xr u o (e_as (e_move o rfl) (congrArg Value.bool hb8)) fun a o=>xg (St.ld u) o (fun w hl=>e_move o rfl) fun a o=>xg (St.ld u) o (fun w hl=>e_nilp o rfl) fun a o=>xg (St.ld u) o (fun w hl=>e_fa o fa125_1 rfl) fun a o=>xg (St.ld u) o (fun w hl=>e_ld o isAgg3 rfl (hl.cellB t1 rfl)) fun a o=>xg (St.ld u) o (fun w hl=>e_move o rfl) fun a o=>xg (St.ld u) o (fun w hl=>e_nilp o rfl) fun a o=>xg (St.ld u) o (fun w hl=>e_fa o fa125_0 rfl) fun a o=>xg (St.ld u) o (fun w hl=>e_ld o isAgg120 rfl (hl.cellB t1 rfl)) fun a o=>xg (St.ld u) o (fun w hl=>e_lenL (α:=api_Token) (xs:=p1.L) o runUnderlying120 rfl) fun a o=>xg (St.ld u) o (fun w hl=>e_lss o rfl rfl) fun a o=>xr u o (e_pickT o rfl rfl) fun a o=>xr u o (e_as (e_move o rfl) (congrArg Value.bool hb9)) fun a o=>?_
 iterate 12 refine xn (St.ld u) o fun a o=>?_
 refine xr u o (e_pickF o rfl rfl) fun a o=>xm u o rfl fun a o=>?_
 iterate 12 refine xn (St.ld u) o fun a o=>?_
 refine xr u o (e_pickF o rfl rfl) fun a o=>xe<|tn<|?_
 replace u:=u.pk [1,0] rfl
 exact ⟨false,hm,o.hs,u⟩
 replace hm:=itp_f hm hb8
 refine rxS 45 u wide (by kernel_rfl) fun w u=>xm u o rfl fun a o=>xr u o (e_nilp o rfl) fun a o=>xr u o (e_fa o fa125_2 rfl) fun a o=>xq (St.ld u) o (fun w hl=>e_ld o isAgg29 rfl (hl.cellB t1 rfl)) fun a o=>xr u o (e_eql o rfl rfl) fun a o=>xr u o (e_as (e_move o rfl) (congrArg Value.bool hb8)) fun a o=>?_
 iterate 10 refine xn (St.ld u) o fun a o=>?_
 refine xr u o (e_pickF o rfl rfl) fun a o=>xm u o rfl fun a o=>?_
 iterate 12 refine xn (St.ld u) o fun a o=>?_
 refine xr u o (e_pickF o rfl rfl) fun a o=>xm u o rfl fun a o=>?_
 iterate 12 refine xn (St.ld u) o fun a o=>?_
 refine xr u o (e_pickF o rfl rfl) fun a o=>xe<|tn<|?_
 replace u:=u.pk [1,0] rfl
 exact ⟨false,hm,o.hs,u⟩
 rintro a w ⟨vA1,hm,o,u⟩
 unfold Z4p at hm
 rcases bdich vA1 with hb18 | hb18
 replace hm:=ite_t hm hb18
 refine ctv o rfl hb18<|th<|rg<|qm o rfl fun a o=>qm o rfl fun a o=>qv o (e_nilp o rfl) fun a o=>qv o (e_fa o fa125_1 rfl) fun a o=>qv o (e_ld o isAgg3 rfl ((St.ld u).cellB t0 rfl)) fun a o=>qv o (e_add o rfl rfl) fun a o=>qv o (e_nilp o rfl) fun a o=>qv o (e_fa o fa125_1 rfl) fun a o=>ls<|s_blk o u sizeOf3 rfl rfl rfl rfl .head (.succ .zero) fun w u=>re<|tn<|th<|?_
 obtain ⟨x19,h20,hm⟩:=bs hm
 obtain ⟨c21,g22,hl23⟩:=SR.get hr6 h20
 obtain rfl:=api_Token_open g22
 refine rxS 25 u wide (by kernel_rfl) fun w u=>xm u o rfl fun a o=>xr u o (e_nilp o rfl) fun a o=>xr u o (e_fa o fa125_0 rfl) fun a o=>xq (St.ld u) o (fun w hl=>e_ld o isAgg120 rfl (hl.cellB t0 rfl)) fun a o=>xm u o rfl fun a o=>xr u o (e_nilp o rfl) fun a o=>xr u o (e_fa o fa125_1 rfl) fun a o=>xq (St.ld u) o (fun w hl=>e_ld o isAgg3 rfl (hl.cellB t0 rfl)) fun a o=>xr u o (e_sub o rfl rfl) fun a o=>xr u o (e_iaI o runUnderlying120 sizeOf130 rfl rfl h20 (SR.oaI hr6 (by decide) h20)) fun a o=>xr u o (e_fa o fa130_1 rfl) fun a o=>xq (St.ld u) o (fun w hl=>e_ld o isAgg9 rfl (PH.le.cell (Lds.le hl) (hl23 1 _ rfl))) fun a o=>xm u o rfl fun a o=>xr u o (e_nilp o rfl) fun a o=>xr u o (e_fa o fa125_0 rfl) fun a o=>xq (St.ld u) o (fun w hl=>e_ld o isAgg120 rfl (hl.cellB t0 rfl)) fun a o=>xm u o rfl fun a o=>xr u o (e_nilp o rfl) fun a o=>xr u o (e_fa o fa125_1 rfl) fun a o=>xq (St.ld u) o (fun w hl=>e_ld o isAgg3 rfl (hl.cellB t0 rfl)) fun a o=>xr u o (e_sub o rfl rfl) fun a o=>xr u o (e_iaI o runUnderlying120 sizeOf130 rfl rfl h20 (SR.oaI hr6 (by decide) h20)) fun a o=>xr u o (e_fa o fa130_3 rfl) fun a o=>xq (St.ld u) o (fun w hl=>e_ld o isAgg3 rfl (PH.le.cell (Lds.le hl) (hl23 3 _ rfl))) fun a o=>xq (St.ld u) o (fun w hl=>e_bldK [strv x19.Text,i6 x19.At] [strv x19.Text,i6 0,i6 x19.At] o ⟨rfl,rfl,trivial⟩ (fun w=>by kernel_rfl)) fun a o=>xz rfl<|s_blkA o u sizeOf53 rfl rfl rfl rfl (one_cells rfl) (.tail .head) fun w u=>tn<|wr<|tr<|?_
 obtain rfl:=si hm
 exact r1c (vs:=[strv x19.Text,i6 0,i6 x19.At]) (.inl rfl) o results104 rfl isAgg53 sizeOf53 rfl ((St.ld u).cellsB t1) ⟨oa3,cap4,rfl,hc5,hr6,(u.pickL (.cons .head .nil)).endMut⟩
 replace hm:=ite_f hm hb18
 refine cfv o rfl hb18<|wk<|tn<|th<|?_
 obtain ⟨r24,h25,hm⟩:=bs hm
 refine rg<|qm o rfl fun a o=>?_
 replace u:=u.pk [0,0] rfl
 replace u:=St.sep [blk b2 (.cells [.slice oa3 p1.L.length cap4,i6 p1.At,i6 p1.E,i6 p1.Pos].toArray 125 (0,0))] u
 refine ls<|c1 o rfl call107 (Z4i_c (St.le u) (p1:=p1) (b2:=b2) (oa3:=oa3) (cap4:=cap4) hc5 hr6 (St.sepOk u) (St.sepDis u) h25) ⟨rfl,trivial⟩ (fun v w a hR o=>?_)
 obtain ⟨oa26,cap27,rfl,hc28,hr29,hk⟩:=hR
 replace u:=(u.mut hk .head).unsep
 refine re<|tn<|th<|rg<|qv o (e_bldK [] [strv [],i6 0,i6 0] o trivial (fun w=>by kernel_rfl)) fun a o=>ls<|s_blkA o u sizeOf53 rfl rfl rfl rfl (one_cells rfl) (.tail .head) fun w u=>re<|tn<|wr<|?_
 obtain rfl:=si hm
 exact r1c (vs:=[strv [],i6 0,i6 0]) (.inl rfl) o results104 rfl isAgg53 sizeOf53 rfl ((St.ld u).cellsB t1) ⟨oa26,cap27,rfl,hc28,hr29,(u.pickL (.cons .head .nil)).endMut⟩
theorem Z4n_c (hH:H.le w0) {b2:Nat} {p1:leadlineref05_In} {oa3:Option Addr} {cap4:Nat} (hc5:p1.L.length≤cap4) (hr6:SR H oa3 p1.L) {p7:Str} (hO:(sepA [blk b2 (.cells [.slice oa3 p1.L.length cap4,i6 p1.At,i6 p1.E,i6 p1.Pos].toArray 125 (0,0))]).ok (hp w0)) (hD:∀ b,(sepA [blk b2 (.cells [.slice oa3 p1.L.length cap4,i6 p1.At,i6 p1.E,i6 p1.Pos].toArray 125 (0,0))]).fp b→H b=none) {r:leadlineref05_In} (hm:Z4n N p1 p7=some r):Tot Tryz.prog 140 #[.pointer (some ⟨b2,0,none⟩),strv p7] w0 (fun v w'=>∃ (oa1m:Option Addr) (cap1m:Nat),v=.tuple #[]∧r.L.length≤cap1m∧SR H oa1m r.L∧Mut w0 (sepA [blk b2 (.cells [.slice oa3 p1.L.length cap4,i6 p1.At,i6 p1.E,i6 p1.Pos].toArray 125 (0,0))]) (sepA [blk b2 (.cells [.slice oa1m r.L.length cap1m,i6 r.At,i6 r.E,i6 r.Pos].toArray 125 (0,0))]) w'):=by
 unfold Z4n at hm
 refine fn0 func140 rfl ntmps140 rfl rfl fun a o=>?_
 have u:=startM hH hO hD
 refine th<|?_
 obtain ⟨rz8,h9,hm⟩:=bs hm
 refine rg<|qm o rfl fun a o=>qm o rfl fun a o=>?_
 replace u:=u.pk [0] rfl
 replace u:=St.sep [blk b2 (.cells [.slice oa3 p1.L.length cap4,i6 p1.At,i6 p1.E,i6 p1.Pos].toArray 125 (0,0))] u
 refine ls<|c1 o rfl call102 (Z4l_c (St.le u) (p1:=p1) (b2:=b2) (oa3:=oa3) (cap4:=cap4) hc5 hr6 (St.sepOk u) (St.sepDis u) h9) ⟨rfl,rfl,trivial⟩ (fun v w a hR o=>?_)
 obtain ⟨oa10,cap11,rfl,hc12,hr13,hk⟩:=hR
 replace u:=(u.mut hk .head).unsep
 refine qv o (e_not o rfl) fun a o=>re<|?_
 rcases bdich rz8.1 with hb14 | hb14
 replace hm:=ite_t hm hb14
 refine tn<|cfv o rfl (by rw [hb14];rfl)<|wk<|?_
 obtain rfl:=si hm
 exact r0n o results140 ⟨oa10,cap11,rfl,hc12,hr13,(u.pickL (.cons .head .nil)).endMut⟩
 replace hm:=ite_f hm hb14
 refine tn<|ctv o rfl (by rw [hb14];rfl)<|?_
 obtain ⟨r15,h16,hm⟩:=bs hm
 refine rg<|qm o rfl fun a o=>?_
 replace u:=u.pk [0] rfl
 replace u:=St.sep [blk b2 (.cells [.slice oa10 rz8.2.L.length cap11,i6 rz8.2.At,i6 rz8.2.E,i6 rz8.2.Pos].toArray 125 (0,0))] u
 refine ls<|c1 o rfl call107 (Z4i_c (St.le u) (p1:=rz8.2) (b2:=b2) (oa3:=oa10) (cap4:=cap11) hc12 hr13 (St.sepOk u) (St.sepDis u) h16) ⟨rfl,trivial⟩ (fun v w a hR o=>?_)
 obtain ⟨oa17,cap18,rfl,hc19,hr20,hk⟩:=hR
 replace u:=(u.mut hk .head).unsep
 refine re<|?_
 obtain rfl:=si hm
 exact r0n o results140 ⟨oa17,cap18,rfl,hc19,hr20,(u.pickL (.cons .head .nil)).endMut⟩
set_option maxHeartbeats 4000000 in
theorem Z4q_c (hH:H.le w0) {b2:Nat} {p1:leadlineref05_In} {oa3:Option Addr} {cap4:Nat} (hc5:p1.L.length≤cap4) (hr6:SR H oa3 p1.L) {p7:Bool} (hO:(sepA [blk b2 (.cells [.slice oa3 p1.L.length cap4,i6 p1.At,i6 p1.E,i6 p1.Pos].toArray 125 (0,0))]).ok (hp w0)) (hD:∀ b,(sepA [blk b2 (.cells [.slice oa3 p1.L.length cap4,i6 p1.At,i6 p1.E,i6 p1.Pos].toArray 125 (0,0))]).fp b→H b=none) {r:((List api_Cell)×leadlineref05_In)} (hm:Z4q N p1 p7=some r):Tot Tryz.prog 103 #[.pointer (some ⟨b2,0,none⟩),.bool p7] w0 (fun v w'=>∃ (oa0:Option Addr) (cap0:Nat) (vs0:List Value) (oa1m:Option Addr) (cap1m:Nat),v=.slice oa0 r.1.length cap0∧(∀ h,Rows h vs0 r.1)∧r.2.L.length≤cap1m∧SR H oa1m r.2.L∧Mut w0 (sepA [blk b2 (.cells [.slice oa3 p1.L.length cap4,i6 p1.At,i6 p1.E,i6 p1.Pos].toArray 125 (0,0))]) (sepA [blk b2 (.cells [.slice oa1m r.2.L.length cap1m,i6 r.2.At,i6 r.2.E,i6 r.2.Pos].toArray 125 (0,0)),sla 53 3 oa0 r.1.length cap0 vs0]) w'):=by
 unfold Z4q at hm
 refine fn0 func103 rfl ntmps103 rfl rfl fun a o=>?_
 have u:=startM hH hO hD
 refine th<|rg<|qa o rfl fun a o=>re<|tn<|th<|rg<|ls<|a_bsl (e:=53) (sz:=3) [] o rfl u rfl rfl rfl (fun w=>by kernel_rfl) fun b9 w a u o=>?_
 have hv8:Rows (α:=api_Cell) H [] []:=.nil
 refine qa o rfl fun a o=>re<|tn<|th<|th<|rg<|qa o rfl fun a o=>re<|tn<|midK (fun a w=>∃ (vA1:(List api_Token)) (vA6:Int) (vA7:Int) (vA8:Int) (vA9:(List api_Cell)) (oaA2:Option Addr) (capA3:Nat) (oaA10:Option Addr) (capA11:Nat) (vsA12:List Value),(Z4r N) vA1 vA6 vA7 vA8 vA9=some r∧Fr 79 [(0,.pointer (some ⟨b2,0,none⟩)),(5,.slice oaA10 vA9.length capA11)] a∧St w0 (sepA [blk b2 (.cells [.slice oa3 p1.L.length cap4,i6 p1.At,i6 p1.E,i6 p1.Pos].toArray 125 (0,0))]).fp [H] [blk b2 (.cells [.slice oaA2 vA1.length capA3,i6 vA6,i6 vA7,i6 vA8].toArray 125 (0,0)),sla 53 3 oaA10 vA9.length capA11 vsA12] w∧vA1.length≤capA3∧SR H oaA2 vA1∧Rows H vsA12 vA9) ?_ ?_
 replace u:=u.pk [1,0] rfl
 refine wb<|lp (α:=Nat×(List api_Token)×Int×Int×Int×(List api_Cell)×Bool) (fun gh a w=>match gh with | (nn2,vB1,vB6,vB7,vB8,vB9,vB15)=>∃ (oaB2:Option Addr) (capB3:Nat) (oaB10:Option Addr) (capB11:Nat) (vsB12:List Value),(Z4v N (Z4r N) p7) nn2 vB1 vB6 vB7 vB8 vB9 vB15=some r∧Fr 79 [(0,.pointer (some ⟨b2,0,none⟩)),(1,.bool p7),(5,.slice oaB10 vB9.length capB11),(6,.bool vB15)] a∧St w0 (sepA [blk b2 (.cells [.slice oa3 p1.L.length cap4,i6 p1.At,i6 p1.E,i6 p1.Pos].toArray 125 (0,0))]).fp [H] [blk b2 (.cells [.slice oaB2 vB1.length capB3,i6 vB6,i6 vB7,i6 vB8].toArray 125 (0,0)),sla 53 3 oaB10 vB9.length capB11 vsB12] w∧vB1.length≤capB3∧SR H oaB2 vB1∧Rows H vsB12 vB9) (fun gh=>gh.1) (N,p1.L,p1.At,p1.E,p1.Pos,[],true) ⟨oa3,cap4,(some ⟨b9,0,none⟩),0,[],hm,o.hs,u,hc5,hr6,hv8⟩ ?_
 rintro ⟨nn2,vB1,vB6,vB7,vB8,vB9,vB15⟩ a w ⟨oaB2,capB3,oaB10,capB11,vsB12,hm,o,u,hcB4,hrB5,hvB13⟩
 obtain _ | nn2:=nn2
 simp [Z4v] at hm
 rw [Z4v] at hm
 refine th<|th<|rg<|qm o rfl fun a o=>qm o rfl fun a o=>grp (N:=79) (Fk:=[(0,.pointer (some ⟨b2,0,none⟩)),(1,.bool p7),(5,.slice oaB10 vB9.length capB11),(16,.bool (vB15 && (decide (vB7=0))))]) (b:=vB15) 6 u ?_ ?_ ?_
 intro hb key
 replace o:=Fr.as o (t:=10) rfl (congrArg Value.bool hb)
 refine qg o (e_move o rfl) fun a o=>qg o (e_nilp o rfl) fun a o=>qg o (e_fa o fa125_2 rfl) fun a o=>qg o (e_ld o isAgg29 rfl ((St.ld u).cellB t0 rfl)) fun a o=>qg o (e_eql o rfl rfl) fun a o=>qv o (e_as (v':=.bool (vB15 && (decide (vB7=0)))) (e_pickT o rfl rfl) (by rw [hb];rfl)) fun a o=>?_
 exact key _ _ (o.hs) u
 intro hb key
 replace o:=Fr.as o (t:=10) rfl (congrArg Value.bool hb)
 iterate 5 refine qn o fun a o=>?_
 refine qv o (e_as (v':=.bool (vB15 && (decide (vB7=0)))) (e_pickF o rfl rfl) (by rw [hb];rfl)) fun a o=>?_
 exact key _ _ (o.hs) u
 intro a w o u
 refine re<|?_
 rcases bdich (vB15 && (decide (vB7=0))) with hb11 | hb11
 replace hm:=ite_t hm hb11
 refine tn<|ctv o rfl hb11<|wk<|tn<|th<|wb<|th<|?_
 obtain ⟨r12,h13,hm⟩:=bs hm
 refine rg<|qm o rfl fun a o=>?_
 replace u:=u.pk [0,0] rfl
 replace u:=St.sep [blk b2 (.cells [.slice oaB2 vB1.length capB3,i6 vB6,i6 vB7,i6 vB8].toArray 125 (0,0))] u
 refine ls<|c1 o rfl call104 (Z4o_c (St.le u) (p1:=(leadlineref05_In.mk vB1 vB6 vB7 vB8)) (b2:=b2) (oa3:=oaB2) (cap4:=capB3) hcB4 hrB5 (St.sepOk u) (St.sepDis u) h13) ⟨rfl,trivial⟩ (fun v w a hR o=>?_)
 obtain ⟨oa14,cap15,rfl,hc16,hr17,hk⟩:=hR
 replace u:=(u.mut hk .head).unsep
 refine ls<|a_alloc (cs:=[strv [],i6 0,i6 0].toArray) o rfl u zeroValue53 rfl fun b18 w a u o=>ls<|s_blkA o u sizeOf53 rfl rfl rfl rfl (one_cells rfl) .head fun w u=>re<|tn<|th<|th<|midK (fun a w=>∃ (vC1:(List api_Token)) (vC6:Int) (vC7:Int) (vC8:Int) (vC9:Bool) (oaC2:Option Addr) (capC3:Nat),(Z4s N (Z4v N (Z4r N) p7 nn2) r12 vB9) vC1 vC6 vC7 vC8 vC9=some r∧Fr 79 [(0,.pointer (some ⟨b2,0,none⟩)),(1,.bool p7),(5,.slice oaB10 vB9.length capB11),(7,.pointer (some ⟨b18,0,none⟩)),(25,.bool vC9)] a∧St w0 (sepA [blk b2 (.cells [.slice oa3 p1.L.length cap4,i6 p1.At,i6 p1.E,i6 p1.Pos].toArray 125 (0,0))]).fp [H] [blk b2 (.cells [.slice oaC2 vC1.length capC3,i6 vC6,i6 vC7,i6 vC8].toArray 125 (0,0)),sla 53 3 oaB10 vB9.length capB11 vsB12,blk b18 (.cells [strv r12.1.Name,i6 r12.1.N,i6 r12.1.At].toArray 53 (0,0))] w∧vC1.length≤capC3∧SR H oaC2 vC1) ?_ ?_
 rcases bdich p7 with hb19 | hb19
 replace hm:=ite_t hm hb19
 obtain ⟨r20,h21,hm⟩:=bs hm
 refine rg<|qm o rfl fun a o=>qv o (e_as (e_move o rfl) (congrArg Value.bool hb19)) fun a o=>qg o (e_move o rfl) fun a o=>?_
 replace u:=u.pk [1,0,0] rfl
 replace u:=St.sep [blk b2 (.cells [.slice oa14 r12.2.L.length cap15,i6 r12.2.At,i6 r12.2.E,i6 r12.2.Pos].toArray 125 (0,0))] u
 refine ls<|gy o rfl rfl<|c1 o rfl call102 (Z4l_c (St.le u) (p1:=r12.2) (b2:=b2) (oa3:=oa14) (cap4:=cap15) hc16 hr17 (St.sepOk u) (St.sepDis u) h21) ⟨rfl,rfl,trivial⟩ (fun v w a hR o=>?_)
 obtain ⟨oa22,cap23,rfl,hc24,hr25,hk⟩:=hR
 replace u:=(u.mut hk .head).unsep
 refine qv o (e_pickT o rfl rfl) fun a o=>re<|tn<|?_
 replace u:=u.pk [0,1,0] rfl
 exact ⟨r20.2.L,r20.2.At,r20.2.E,r20.2.Pos,r20.1,oa22,cap23,hm,o.hs,u,hc24,hr25⟩
 replace hm:=ite_f hm hb19
 refine rg<|qm o rfl fun a o=>qv o (e_as (e_move o rfl) (congrArg Value.bool hb19)) fun a o=>?_
 iterate 2 refine qn o fun a o=>?_
 refine qv o (e_pickF o rfl rfl) fun a o=>re<|tn<|?_
 replace u:=u.pk [1,1,0] rfl
 exact ⟨r12.2.L,r12.2.At,r12.2.E,r12.2.Pos,false,oa14,cap15,hm,o.hs,u,hc16,hr17⟩
 rintro a w ⟨vC1,vC6,vC7,vC8,vC9,oaC2,capC3,hm,o,u,hcC4,hrC5⟩
 unfold Z4s at hm
 refine midK (fun a w=>∃ (vC10:(List api_Token)) (vC15:Int) (vC16:Int) (vC17:Int) (vC18:api_Cell) (oaC11:Option Addr) (capC12:Nat),(Z4t N (Z4v N (Z4r N) p7 nn2) vB9) vC10 vC15 vC16 vC17 vC18=some r∧Fr 79 [(0,.pointer (some ⟨b2,0,none⟩)),(1,.bool p7),(5,.slice oaB10 vB9.length capB11),(7,.pointer (some ⟨b18,0,none⟩))] a∧St w0 (sepA [blk b2 (.cells [.slice oa3 p1.L.length cap4,i6 p1.At,i6 p1.E,i6 p1.Pos].toArray 125 (0,0))]).fp [H] [blk b2 (.cells [.slice oaC11 vC10.length capC12,i6 vC15,i6 vC16,i6 vC17].toArray 125 (0,0)),sla 53 3 oaB10 vB9.length capB11 vsB12,blk b18 (.cells [strv vC18.Name,i6 vC18.N,i6 vC18.At].toArray 53 (0,0))] w∧vC10.length≤capC12∧SR H oaC11 vC10) ?_ ?_
 rcases bdich vC9 with hb26 | hb26
 replace hm:=ite_t hm hb26
 refine ctv o rfl hb26<|th<|midK (fun a w=>∃ (vD1:Bool),(Z4u N (Z4t N (Z4v N (Z4r N) p7 nn2) vB9) r12 vC1 vC6 vC7 vC8) vD1=some r∧Fr 79 [(0,.pointer (some ⟨b2,0,none⟩)),(1,.bool p7),(5,.slice oaB10 vB9.length capB11),(7,.pointer (some ⟨b18,0,none⟩)),(49,.bool vD1)] a∧St w0 (sepA [blk b2 (.cells [.slice oa3 p1.L.length cap4,i6 p1.At,i6 p1.E,i6 p1.Pos].toArray 125 (0,0))]).fp [H] [blk b2 (.cells [.slice oaC2 vC1.length capC3,i6 vC6,i6 vC7,i6 vC8].toArray 125 (0,0)),sla 53 3 oaB10 vB9.length capB11 vsB12,blk b18 (.cells [strv r12.1.Name,i6 r12.1.N,i6 r12.1.At].toArray 53 (0,0))] w) ?_ ?_
 rcases bdich (decide (vC6 < (vC1.length:Int))) with hb27 | hb27
 replace hm:=itp_t hm hb27
 obtain ⟨x28,h29,hm⟩:=bs hm
 obtain ⟨c30,g31,hl32⟩:=SR.get hrC5 h29
 obtain rfl:=api_Token_open g31
 refine rxS 24 u wide (by kernel_rfl) fun w u=>xm u o rfl fun a o=>xr u o (e_nilp o rfl) fun a o=>xr u o (e_fa o fa125_1 rfl) fun a o=>xq (St.ld u) o (fun w hl=>e_ld o isAgg3 rfl (hl.cellB t0 rfl)) fun a o=>xm u o rfl fun a o=>xr u o (e_nilp o rfl) fun a o=>xr u o (e_fa o fa125_0 rfl) fun a o=>xq (St.ld u) o (fun w hl=>e_ld o isAgg120 rfl (hl.cellB t0 rfl)) fun a o=>xr u o (e_lenL (α:=api_Token) (xs:=vC1) o runUnderlying120 rfl) fun a o=>xr u o (e_lss o rfl rfl) fun a o=>xr u o (e_as (e_move o rfl) (congrArg Value.bool hb27)) fun a o=>xg (St.ld u) o (fun w hl=>e_move o rfl) fun a o=>xg (St.ld u) o (fun w hl=>e_nilp o rfl) fun a o=>xg (St.ld u) o (fun w hl=>e_fa o fa125_0 rfl) fun a o=>xg (St.ld u) o (fun w hl=>e_ld o isAgg120 rfl (hl.cellB t0 rfl)) fun a o=>xg (St.ld u) o (fun w hl=>e_move o rfl) fun a o=>xg (St.ld u) o (fun w hl=>e_nilp o rfl) fun a o=>xg (St.ld u) o (fun w hl=>e_fa o fa125_1 rfl) fun a o=>xg (St.ld u) o (fun w hl=>e_ld o isAgg3 rfl (hl.cellB t0 rfl)) fun a o=>xg (St.ld u) o (fun w hl=>e_iaI o runUnderlying120 sizeOf130 rfl rfl h29 (SR.oaI hrC5 (by decide) h29)) fun a o=>xg (St.ld u) o (fun w hl=>e_fa o fa130_0 rfl) fun a o=>xg (St.ld u) o (fun w hl=>e_ld o isAgg3 rfl (PH.le.cell (Lds.le hl) (hl32 0 _ rfl))) fun a o=>xg (St.ld u) o (fun w hl=>e_eql o rfl rfl) fun a o=>xr u o (e_pickT o rfl rfl) fun a o=>xe<|tn<|?_
 exact ⟨(decide (x28.Kind=2)),hm,o.hs,u⟩
 replace hm:=itp_f hm hb27
 refine rxS 24 u wide (by kernel_rfl) fun w u=>xm u o rfl fun a o=>xr u o (e_nilp o rfl) fun a o=>xr u o (e_fa o fa125_1 rfl) fun a o=>xq (St.ld u) o (fun w hl=>e_ld o isAgg3 rfl (hl.cellB t0 rfl)) fun a o=>xm u o rfl fun a o=>xr u o (e_nilp o rfl) fun a o=>xr u o (e_fa o fa125_0 rfl) fun a o=>xq (St.ld u) o (fun w hl=>e_ld o isAgg120 rfl (hl.cellB t0 rfl)) fun a o=>xr u o (e_lenL (α:=api_Token) (xs:=vC1) o runUnderlying120 rfl) fun a o=>xr u o (e_lss o rfl rfl) fun a o=>xr u o (e_as (e_move o rfl) (congrArg Value.bool hb27)) fun a o=>?_
 iterate 12 refine xn (St.ld u) o fun a o=>?_
 refine xr u o (e_pickF o rfl rfl) fun a o=>xe<|tn<|?_
 exact ⟨false,hm,o.hs,u⟩
 rintro a w ⟨vD1,hm,o,u⟩
 unfold Z4u at hm
 rcases bdich vD1 with hb33 | hb33
 replace hm:=ite_t hm hb33
 refine ctv o rfl hb33<|th<|?_
 obtain ⟨x34,h35,hm⟩:=bs hm
 obtain ⟨c36,g37,hl38⟩:=SR.get hrC5 h35
 obtain rfl:=api_Token_open g37
 refine rxS 12 u wide (by kernel_rfl) fun w u=>xm u o rfl fun a o=>xr u o (e_nilp o rfl) fun a o=>xr u o (e_fa o fa125_0 rfl) fun a o=>xq (St.ld u) o (fun w hl=>e_ld o isAgg120 rfl (hl.cellB t0 rfl)) fun a o=>xm u o rfl fun a o=>xr u o (e_nilp o rfl) fun a o=>xr u o (e_fa o fa125_1 rfl) fun a o=>xq (St.ld u) o (fun w hl=>e_ld o isAgg3 rfl (hl.cellB t0 rfl)) fun a o=>xr u o (e_iaI o runUnderlying120 sizeOf130 rfl rfl h35 (SR.oaI hrC5 (by decide) h35)) fun a o=>xr u o (e_fa o fa130_2 rfl) fun a o=>xq (St.ld u) o (fun w hl=>e_ld o isAgg3 rfl (PH.le.cell (Lds.le hl) (hl38 2 _ rfl))) fun a o=>xr u o (e_fa o fa53_1 rfl) fun a o=>xz rfl<|s_blk o u sizeOf3 rfl rfl rfl rfl (.tail (.tail .head)) (.succ .zero) fun w u=>tn<|rg<|qm o rfl fun a o=>qm o rfl fun a o=>qv o (e_nilp o rfl) fun a o=>qv o (e_fa o fa125_1 rfl) fun a o=>qv o (e_ld o isAgg3 rfl ((St.ld u).cellB t0 rfl)) fun a o=>qv o (e_add o rfl rfl) fun a o=>qv o (e_nilp o rfl) fun a o=>qv o (e_fa o fa125_1 rfl) fun a o=>ls<|s_blk o u sizeOf3 rfl rfl rfl rfl .head (.succ .zero) fun w u=>re<|tn<|?_
 exact ⟨vC1,(IntKind.i64.wrap (vC6+1)),vC7,vC8,(api_Cell.mk r12.1.Name x34.N r12.1.At),oaC2,capC3,hm,o.hs,u,hcC4,hrC5⟩
 replace hm:=ite_f hm hb33
 refine cfv o rfl hb33<|?_
 obtain ⟨r39,h40,hm⟩:=bs hm
 refine rg<|qm o rfl fun a o=>?_
 replace u:=u.pk [0,0,0] rfl
 replace u:=St.sep [blk b2 (.cells [.slice oaC2 vC1.length capC3,i6 vC6,i6 vC7,i6 vC8].toArray 125 (0,0))] u
 refine ls<|c1 o rfl call107 (Z4i_c (St.le u) (p1:=(leadlineref05_In.mk vC1 vC6 vC7 vC8)) (b2:=b2) (oa3:=oaC2) (cap4:=capC3) hcC4 hrC5 (St.sepOk u) (St.sepDis u) h40) ⟨rfl,trivial⟩ (fun v w a hR o=>?_)
 obtain ⟨oa41,cap42,rfl,hc43,hr44,hk⟩:=hR
 replace u:=(u.mut hk .head).unsep
 refine re<|tn<|?_
 exact ⟨r39.L,r39.At,r39.E,r39.Pos,r12.1,oa41,cap42,hm,o.hs,u,hc43,hr44⟩
 replace hm:=ite_f hm hb26
 refine cfv o rfl hb26<|wk<|tn<|?_
 exact ⟨vC1,vC6,vC7,vC8,r12.1,oaC2,capC3,hm,o.hs,u,hcC4,hrC5⟩
 rintro a w ⟨vC10,vC15,vC16,vC17,vC18,oaC11,capC12,hm,o,u,hcC13,hrC14⟩
 unfold Z4t at hm
 obtain ⟨l48,h49,hm⟩:=bs hm
 refine rg<|qm o rfl fun a o=>qv o (e_ldA o isAgg53 sizeOf53 rfl rfl ((St.ld u).cellsB t2)) fun a o=>ls<|a_bsl (e:=53) (sz:=3) [strv vC18.Name,i6 vC18.N,i6 vC18.At] o rfl u rfl rfl rfl (fun w=>by kernel_rfl) fun b46 w a u o=>?_
 have hv45:Rows (α:=api_Cell) H [strv vC18.Name,i6 vC18.N,i6 vC18.At] ([vC18]:List api_Cell):=(.cons (c:=[strv vC18.Name,i6 vC18.N,i6 vC18.At]) ⟨_,_,rfl,rfl,⟨_,_,rfl,rfl,rfl⟩⟩ .nil)
 refine ls<|m_app (α:=api_Cell) (xs:=vB9) (ys:=([vC18]:List api_Cell)) o rfl u underlying23 info53 rfl (by decide) rfl rfl rfl t2 hvB13 (u.rdO t0) hv45 h49 fun oa50 cap51 vs52 w a hv53 hU o=>?_
 replace u:=hU _ (.tail (.tail .head))
 replace u:=u.drop .head
 refine qa o rfl fun a o=>re<|bn<|tn<|?_
 obtain ⟨r54,h55,hm⟩:=bs hm
 refine rg<|qm o rfl fun a o=>?_
 replace u:=u.pk [0,0,0] rfl
 replace u:=St.sep [blk b2 (.cells [.slice oaC11 vC10.length capC12,i6 vC15,i6 vC16,i6 vC17].toArray 125 (0,0))] u
 refine ls<|c1 o rfl call102 (Z4l_c (St.le u) (p1:=(leadlineref05_In.mk vC10 vC15 vC16 vC17)) (b2:=b2) (oa3:=oaC11) (cap4:=capC12) hcC13 hrC14 (St.sepOk u) (St.sepDis u) h55) ⟨rfl,rfl,trivial⟩ (fun v w a hR o=>?_)
 obtain ⟨oa56,cap57,rfl,hc58,hr59,hk⟩:=hR
 replace u:=(u.mut hk .head).unsep
 refine qa o rfl fun a o=>re<|tn<|?_
 replace u:=u.pk [0,0] rfl
 exact ⟨(nn2,r54.2.L,r54.2.At,r54.2.E,r54.2.Pos,l48,r54.1),⟨oa56,cap57,oa50,cap51,vs52,hm,o.hs,u,hc58,hr59,hv53⟩,Nat.lt_succ_self _⟩
 replace hm:=ite_f hm hb11
 refine tn<|cfv o rfl hb11<|we<|tx<|tx<|bx<|tn<|?_
 exact ⟨vB1,vB6,vB7,vB8,vB9,oaB2,capB3,oaB10,capB11,vsB12,hm,o.has ⟨rfl,rfl,trivial⟩,u,hcB4,hrB5,hvB13⟩
 rintro a w ⟨vA1,vA6,vA7,vA8,vA9,oaA2,capA3,oaA10,capA11,vsA12,hm,o,u,hcA4,hrA5,hvA13⟩
 unfold Z4r at hm
 refine th<|?_
 obtain ⟨r60,h61,hm⟩:=bs hm
 refine rg<|qm o rfl fun a o=>?_
 replace u:=u.pk [0,0] rfl
 replace u:=St.sep [blk b2 (.cells [.slice oaA2 vA1.length capA3,i6 vA6,i6 vA7,i6 vA8].toArray 125 (0,0))] u
 refine ls<|c1 o rfl call140 (Z4n_c (St.le u) (p1:=(leadlineref05_In.mk vA1 vA6 vA7 vA8)) (b2:=b2) (oa3:=oaA2) (cap4:=capA3) hcA4 hrA5 (St.sepOk u) (St.sepDis u) h61) ⟨rfl,rfl,trivial⟩ (fun v w a hR o=>?_)
 obtain ⟨oa62,cap63,rfl,hc64,hr65,hk⟩:=hR
 replace u:=(u.mut hk .head).unsep
 refine re<|tn<|th<|rg<|qm o rfl fun a o=>qa o rfl fun a o=>re<|tn<|wr<|?_
 obtain rfl:=si hm
 exact r1 o results103 rfl ⟨_,_,_,oa62,cap63,rfl,(fun _=>Rows.ind hvA13),hc64,hr65,(u.pickL (.cons .head (.cons .head .nil))).endMut⟩
theorem Z46_c (hH:H.le w0) {p1:Int} {r:Str} (hm:Z46 N p1=some r):Tot Tryz.prog 166 #[i6 p1] w0 (fun v w'=>v=strv r∧Keep Nil w0 w'):=by
 unfold Z46 at hm
 refine fn0 func166 rfl ntmps166 rfl rfl fun a o=>?_
 have u:St w0 Nil [H] [] w0:=start1 hH
 refine th<|rg<|qa o rfl fun a o=>re<|tn<|th<|?_
 obtain ⟨xz5,h6,hm⟩:=bs hm
 refine rg<|ls<|a_bsl (e:=9) (sz:=1) [strv [],strv [],strv [108,111,97,100],strv [115,116,111,114,101],strv [99,97,115],strv [102,108,117,115,104],strv [111,112,116],strv [115,102,101,110,99,101],strv [109,102,101,110,99,101],strv [116,97,107,101],strv [103,105,118,101],strv [105,102],strv [108,111,111,112],strv [98,114,101,97,107],strv [99,104,101,99,107]] o rfl u rfl rfl rfl (fun w=>by kernel_rfl) fun b3 w a u o=>?_
 have hv2:Rows (α:=Str) H [strv [],strv [],strv [108,111,97,100],strv [115,116,111,114,101],strv [99,97,115],strv [102,108,117,115,104],strv [111,112,116],strv [115,102,101,110,99,101],strv [109,102,101,110,99,101],strv [116,97,107,101],strv [103,105,118,101],strv [105,102],strv [108,111,111,112],strv [98,114,101,97,107],strv [99,104,101,99,107]] ([[],[],[108,111,97,100],[115,116,111,114,101],[99,97,115],[102,108,117,115,104],[111,112,116],[115,102,101,110,99,101],[109,102,101,110,99,101],[116,97,107,101],[103,105,118,101],[105,102],[108,111,111,112],[98,114,101,97,107],[99,104,101,99,107]]:List Str):=(.cons (c:=[strv []]) rfl (.cons (c:=[strv []]) rfl (.cons (c:=[strv [108,111,97,100]]) rfl (.cons (c:=[strv [115,116,111,114,101]]) rfl (.cons (c:=[strv [99,97,115]]) rfl (.cons (c:=[strv [102,108,117,115,104]]) rfl (.cons (c:=[strv [111,112,116]]) rfl (.cons (c:=[strv [115,102,101,110,99,101]]) rfl (.cons (c:=[strv [109,102,101,110,99,101]]) rfl (.cons (c:=[strv [116,97,107,101]]) rfl (.cons (c:=[strv [103,105,118,101]]) rfl (.cons (c:=[strv [105,102]]) rfl (.cons (c:=[strv [108,111,111,112]]) rfl (.cons (c:=[strv [98,114,101,97,107]]) rfl (.cons (c:=[strv [99,104,101,99,107]]) rfl .nil)))))))))))))))
 refine qm o rfl fun a o=>qv o (e_iaI o runUnderlying36 sizeOf9 rfl rfl h6 (Rd.oaI ((St.ld u).rdO t0) hv2 (by decide) h6)) fun a o=>?_
 obtain ⟨cz7,g8,hl9⟩:=Rows.getI hv2 h6
 obtain rfl:cz7=[strv xz5]:=g8
 refine qv o (e_ld o isAgg9 rfl ((St.ld u).elO t0 (hl9 0 _ rfl))) fun a o=>qa o rfl fun a o=>re<|tn<|wr<|?_
 obtain rfl:=si hm
 exact r1 o results166 rfl ⟨rfl,u.keep⟩
theorem Z37_c (hH:H.le w0) {b2:Nat} {p1:leadlineref04_P} {oa3:Option Addr} {cap4:Nat} (hc5:p1.L.length≤cap4) (hr6:SR H oa3 p1.L) {oa7:Option Addr} {cap8:Nat} {vs9:List Value} (hv10:Rows H vs9 p1.Out) {p12:Int} (hO:(sepA [blk b2 (.cells [.slice oa3 p1.L.length cap4,i6 p1.At,i6 p1.E,i6 p1.Pos,.slice oa7 p1.Out.length cap8].toArray 171 (0,0)),sla 51 9 oa7 p1.Out.length cap8 vs9]).ok (hp w0)) (hD:∀ b,(sepA [blk b2 (.cells [.slice oa3 p1.L.length cap4,i6 p1.At,i6 p1.E,i6 p1.Pos,.slice oa7 p1.Out.length cap8].toArray 171 (0,0)),sla 51 9 oa7 p1.Out.length cap8 vs9]).fp b→H b=none) {r:leadlineref04_P} (hm:Z37 N p1 p12=some r):Tot Tryz.prog 167 #[.pointer (some ⟨b2,0,none⟩),i6 p12] w0 (fun v w'=>∃ (H':PH) (oa1m:Option Addr) (cap1m:Nat) (oa2m:Option Addr) (cap2m:Nat) (vs2m:List Value),v=.tuple #[]∧r.L.length≤cap1m∧SR H' oa1m r.L∧Rows H' vs2m r.Out∧ExtM w0 (sepA [blk b2 (.cells [.slice oa3 p1.L.length cap4,i6 p1.At,i6 p1.E,i6 p1.Pos,.slice oa7 p1.Out.length cap8].toArray 171 (0,0)),sla 51 9 oa7 p1.Out.length cap8 vs9]).fp H H'∧H'.le w'∧(∀ b,(sepA [blk b2 (.cells [.slice oa1m r.L.length cap1m,i6 r.At,i6 r.E,i6 r.Pos,.slice oa2m r.Out.length cap2m].toArray 171 (0,0)),sla 51 9 oa2m r.Out.length cap2m vs2m]).fp b→H' b=none)∧Mut w0 (sepA [blk b2 (.cells [.slice oa3 p1.L.length cap4,i6 p1.At,i6 p1.E,i6 p1.Pos,.slice oa7 p1.Out.length cap8].toArray 171 (0,0)),sla 51 9 oa7 p1.Out.length cap8 vs9]) (sepA [blk b2 (.cells [.slice oa1m r.L.length cap1m,i6 r.At,i6 r.E,i6 r.Pos,.slice oa2m r.Out.length cap2m].toArray 171 (0,0)),sla 51 9 oa2m r.Out.length cap2m vs2m]) w'):=by
 unfold Z37 at hm
 refine fn0 func167 rfl ntmps167 rfl rfl fun a o=>?_
 have u:=startM hH hO hD
 refine th<|rg<|qm o rfl fun a o=>qv o (e_nilp o rfl) fun a o=>qv o (e_fa o fa171_2 rfl) fun a o=>qv o (e_ld o isAgg29 rfl ((St.ld u).cellB t0 rfl)) fun a o=>qv o (e_eql o rfl rfl) fun a o=>re<|?_
 rcases bdich (decide (p1.E=0)) with hb13 | hb13
 replace hm:=itp_t hm hb13
 refine tn<|ctv o rfl hb13<|th<|rg<|qm o rfl fun a o=>qm o rfl fun a o=>qv o (e_nilp o rfl) fun a o=>qv o (e_fa o fa171_2 rfl) fun a o=>ls<|s_blk o u sizeOf29 rfl rfl rfl rfl .head (.succ (.succ .zero)) fun w u=>re<|tn<|th<|th<|rxS 10 u wide (by kernel_rfl) fun w u=>xm u o rfl fun a o=>xr u o (e_nilp o rfl) fun a o=>xr u o (e_fa o fa171_1 rfl) fun a o=>xq (St.ld u) o (fun w hl=>e_ld o isAgg3 rfl (hl.cellB t0 rfl)) fun a o=>xm u o rfl fun a o=>xr u o (e_nilp o rfl) fun a o=>xr u o (e_fa o fa171_0 rfl) fun a o=>xq (St.ld u) o (fun w hl=>e_ld o isAgg120 rfl (hl.cellB t0 rfl)) fun a o=>xr u o (e_lenL (α:=api_Token) (xs:=p1.L) o runUnderlying120 rfl) fun a o=>xr u o (e_geq o rfl rfl) fun a o=>xe<|tn<|midK (fun a w=>∃ (vA1:Int),(Z38 N p1) vA1=some r∧Fr 38 [(0,.pointer (some ⟨b2,0,none⟩))] a∧St w0 (sepA [blk b2 (.cells [.slice oa3 p1.L.length cap4,i6 p1.At,i6 p1.E,i6 p1.Pos,.slice oa7 p1.Out.length cap8].toArray 171 (0,0)),sla 51 9 oa7 p1.Out.length cap8 vs9]).fp [H] [sla 51 9 oa7 p1.Out.length cap8 vs9,blk b2 (.cells [.slice oa3 p1.L.length cap4,i6 p1.At,i6 vA1,i6 p1.Pos,.slice oa7 p1.Out.length cap8].toArray 171 (0,0))] w) ?_ ?_
 rcases bdich (decide ((p1.L.length:Int)≤p1.At)) with hb14 | hb14
 replace hm:=itp_t hm hb14
 refine ctv o rfl hb14<|rg<|qm o rfl fun a o=>qv o (e_nilp o rfl) fun a o=>qv o (e_fa o fa171_2 rfl) fun a o=>ls<|s_blk o u sizeOf29 rfl rfl rfl rfl .head (.succ (.succ .zero)) fun w u=>re<|tn<|?_
 replace u:=u.pk [1,0] rfl
 exact ⟨6,hm,o.has ⟨rfl,trivial⟩,u⟩
 replace hm:=itp_f hm hb14
 refine cfv o rfl hb14<|wk<|tn<|?_
 replace u:=u.pk [1,0] rfl
 exact ⟨p12,hm,o.has ⟨rfl,trivial⟩,u⟩
 rintro a w ⟨vA1,hm,o,u⟩
 unfold Z38 at hm
 obtain ⟨r15,h16,hm⟩:=bs hm
 refine rdL (sub_cons t0 sub_nil) 13 u wide fun w u=>ds 0 (St.ldsX u i2 (sub_cons t0 sub_nil)) o rfl (e_move o rfl) fun a o=>ds 1 (St.ldsX u i2 (sub_cons t0 sub_nil)) o rfl (e_move o rfl) fun a o=>ds 2 (St.ldsX u i2 (sub_cons t0 sub_nil)) o rfl (e_nilp o rfl) fun a o=>ds 3 (St.ldsX u i2 (sub_cons t0 sub_nil)) o rfl (e_fa o fa171_0 rfl) fun a o=>da2 (i:=4) (j:=5) (by kernel_rfl) ?_ ?_
 refine di (i:=4) rfl<|q1 o rfl (e_ld o isAgg120 rfl ((St.ld u).cellB t1 rfl)) fun a o=>⟨fun _=>(St.ldsX u i2 (sub_cons t0 sub_nil)),?_⟩
 refine ds 5 (St.ldsX u i2 (sub_cons t0 sub_nil)) o rfl (e_move o rfl) fun a o=>ds 6 (St.ldsX u i2 (sub_cons t0 sub_nil)) o rfl (e_nilp o rfl) fun a o=>ds 7 (St.ldsX u i2 (sub_cons t0 sub_nil)) o rfl (e_fa o fa171_1 rfl) fun a o=>da1 (i:=8) (by kernel_rfl) ?_
 refine di (i:=8) rfl<|q1 o rfl (e_ld o isAgg3 rfl ((St.ld u).cellB t1 rfl)) fun a o=>⟨fun _=>(St.ldsX u i2 (sub_cons t0 sub_nil)),?_⟩
 refine da1 (i:=9) (by kernel_rfl) ?_
 refine di (i:=9) rfl<|cq o call143 (Z1p_c (hp_le _) hc5 (St.srH u hr6) h16) ⟨rfl,rfl,trivial⟩ u fun w a u o=>⟨fun _=>(St.ldsX u i2 (sub_cons t0 sub_nil)),?_⟩
 refine ds 10 (St.ldsX u i2 (sub_cons t0 sub_nil)) o rfl (e_nilp o rfl) fun a o=>ds 11 (St.ldsX u i2 (sub_cons t0 sub_nil)) o rfl (e_fa o fa171_3 rfl) fun a o=>da1 (i:=12) (by kernel_rfl) ?_
 refine di (i:=12) rfl<|s_blk o u sizeOf3 rfl rfl rfl rfl (.tail .head) (.succ (.succ (.succ .zero))) fun w u=>⟨fun _=>(St.ldsX u i2 (sub_cons t0 sub_nil)),?_⟩
 refine de (by kernel_rfl)<|?_
 obtain rfl:=si hm
 exact r0n o results167 ⟨H,oa3,cap4,oa7,cap8,vs9,rfl,hc5,hr6,hv10,(ExtM.refl _ _ _),(St.le u),(St.disL (u.pickL (.cons (.tail .head) (.cons .head .nil)))),(u.pickL (.cons (.tail .head) (.cons .head .nil))).endMut⟩
 refine di (i:=5) rfl<|q1 o rfl (e_move o rfl) fun a o=>⟨fun _=>(St.ldsX u i2 (sub_cons t0 sub_nil)),?_⟩
 refine da2 (i:=4) (j:=6) (by kernel_rfl) ?_ ?_
 refine di (i:=4) rfl<|q1 o rfl (e_ld o isAgg120 rfl ((St.ld u).cellB t1 rfl)) fun a o=>⟨fun _=>(St.ldsX u i2 (sub_cons t0 sub_nil)),?_⟩
 refine ds 6 (St.ldsX u i2 (sub_cons t0 sub_nil)) o rfl (e_nilp o rfl) fun a o=>ds 7 (St.ldsX u i2 (sub_cons t0 sub_nil)) o rfl (e_fa o fa171_1 rfl) fun a o=>da1 (i:=8) (by kernel_rfl) ?_
 refine di (i:=8) rfl<|q1 o rfl (e_ld o isAgg3 rfl ((St.ld u).cellB t1 rfl)) fun a o=>⟨fun _=>(St.ldsX u i2 (sub_cons t0 sub_nil)),?_⟩
 refine da1 (i:=9) (by kernel_rfl) ?_
 refine di (i:=9) rfl<|cq o call143 (Z1p_c (hp_le _) hc5 (St.srH u hr6) h16) ⟨rfl,rfl,trivial⟩ u fun w a u o=>⟨fun _=>(St.ldsX u i2 (sub_cons t0 sub_nil)),?_⟩
 refine ds 10 (St.ldsX u i2 (sub_cons t0 sub_nil)) o rfl (e_nilp o rfl) fun a o=>ds 11 (St.ldsX u i2 (sub_cons t0 sub_nil)) o rfl (e_fa o fa171_3 rfl) fun a o=>da1 (i:=12) (by kernel_rfl) ?_
 refine di (i:=12) rfl<|s_blk o u sizeOf3 rfl rfl rfl rfl (.tail .head) (.succ (.succ (.succ .zero))) fun w u=>⟨fun _=>(St.ldsX u i2 (sub_cons t0 sub_nil)),?_⟩
 refine de (by kernel_rfl)<|?_
 obtain rfl:=si hm
 exact r0n o results167 ⟨H,oa3,cap4,oa7,cap8,vs9,rfl,hc5,hr6,hv10,(ExtM.refl _ _ _),(St.le u),(St.disL (u.pickL (.cons (.tail .head) (.cons .head .nil)))),(u.pickL (.cons (.tail .head) (.cons .head .nil))).endMut⟩
 refine di (i:=6) rfl<|q1 o rfl (e_nilp o rfl) fun a o=>⟨fun _=>(St.ldsX u i2 (sub_cons t0 sub_nil)),?_⟩
 refine da2 (i:=4) (j:=7) (by kernel_rfl) ?_ ?_
 refine di (i:=4) rfl<|q1 o rfl (e_ld o isAgg120 rfl ((St.ld u).cellB t1 rfl)) fun a o=>⟨fun _=>(St.ldsX u i2 (sub_cons t0 sub_nil)),?_⟩
 refine ds 7 (St.ldsX u i2 (sub_cons t0 sub_nil)) o rfl (e_fa o fa171_1 rfl) fun a o=>da1 (i:=8) (by kernel_rfl) ?_
 refine di (i:=8) rfl<|q1 o rfl (e_ld o isAgg3 rfl ((St.ld u).cellB t1 rfl)) fun a o=>⟨fun _=>(St.ldsX u i2 (sub_cons t0 sub_nil)),?_⟩
 refine da1 (i:=9) (by kernel_rfl) ?_
 refine di (i:=9) rfl<|cq o call143 (Z1p_c (hp_le _) hc5 (St.srH u hr6) h16) ⟨rfl,rfl,trivial⟩ u fun w a u o=>⟨fun _=>(St.ldsX u i2 (sub_cons t0 sub_nil)),?_⟩
 refine ds 10 (St.ldsX u i2 (sub_cons t0 sub_nil)) o rfl (e_nilp o rfl) fun a o=>ds 11 (St.ldsX u i2 (sub_cons t0 sub_nil)) o rfl (e_fa o fa171_3 rfl) fun a o=>da1 (i:=12) (by kernel_rfl) ?_
 refine di (i:=12) rfl<|s_blk o u sizeOf3 rfl rfl rfl rfl (.tail .head) (.succ (.succ (.succ .zero))) fun w u=>⟨fun _=>(St.ldsX u i2 (sub_cons t0 sub_nil)),?_⟩
 refine de (by kernel_rfl)<|?_
 obtain rfl:=si hm
 exact r0n o results167 ⟨H,oa3,cap4,oa7,cap8,vs9,rfl,hc5,hr6,hv10,(ExtM.refl _ _ _),(St.le u),(St.disL (u.pickL (.cons (.tail .head) (.cons .head .nil)))),(u.pickL (.cons (.tail .head) (.cons .head .nil))).endMut⟩
 refine di (i:=7) rfl<|q1 o rfl (e_fa o fa171_1 rfl) fun a o=>⟨fun _=>(St.ldsX u i2 (sub_cons t0 sub_nil)),?_⟩
 refine da2 (i:=4) (j:=8) (by kernel_rfl) ?_ ?_
 refine di (i:=4) rfl<|q1 o rfl (e_ld o isAgg120 rfl ((St.ld u).cellB t1 rfl)) fun a o=>⟨fun _=>(St.ldsX u i2 (sub_cons t0 sub_nil)),?_⟩
 refine da1 (i:=8) (by kernel_rfl) ?_
 refine di (i:=8) rfl<|q1 o rfl (e_ld o isAgg3 rfl ((St.ld u).cellB t1 rfl)) fun a o=>⟨fun _=>(St.ldsX u i2 (sub_cons t0 sub_nil)),?_⟩
 refine da1 (i:=9) (by kernel_rfl) ?_
 refine di (i:=9) rfl<|cq o call143 (Z1p_c (hp_le _) hc5 (St.srH u hr6) h16) ⟨rfl,rfl,trivial⟩ u fun w a u o=>⟨fun _=>(St.ldsX u i2 (sub_cons t0 sub_nil)),?_⟩
 refine ds 10 (St.ldsX u i2 (sub_cons t0 sub_nil)) o rfl (e_nilp o rfl) fun a o=>ds 11 (St.ldsX u i2 (sub_cons t0 sub_nil)) o rfl (e_fa o fa171_3 rfl) fun a o=>da1 (i:=12) (by kernel_rfl) ?_
 refine di (i:=12) rfl<|s_blk o u sizeOf3 rfl rfl rfl rfl (.tail .head) (.succ (.succ (.succ .zero))) fun w u=>⟨fun _=>(St.ldsX u i2 (sub_cons t0 sub_nil)),?_⟩
 refine de (by kernel_rfl)<|?_
 obtain rfl:=si hm
 exact r0n o results167 ⟨H,oa3,cap4,oa7,cap8,vs9,rfl,hc5,hr6,hv10,(ExtM.refl _ _ _),(St.le u),(St.disL (u.pickL (.cons (.tail .head) (.cons .head .nil)))),(u.pickL (.cons (.tail .head) (.cons .head .nil))).endMut⟩
 refine di (i:=8) rfl<|q1 o rfl (e_ld o isAgg3 rfl ((St.ld u).cellB t1 rfl)) fun a o=>⟨fun _=>(St.ldsX u i2 (sub_cons t0 sub_nil)),?_⟩
 refine da1 (i:=4) (by kernel_rfl) ?_
 refine di (i:=4) rfl<|q1 o rfl (e_ld o isAgg120 rfl ((St.ld u).cellB t1 rfl)) fun a o=>⟨fun _=>(St.ldsX u i2 (sub_cons t0 sub_nil)),?_⟩
 refine da1 (i:=9) (by kernel_rfl) ?_
 refine di (i:=9) rfl<|cq o call143 (Z1p_c (hp_le _) hc5 (St.srH u hr6) h16) ⟨rfl,rfl,trivial⟩ u fun w a u o=>⟨fun _=>(St.ldsX u i2 (sub_cons t0 sub_nil)),?_⟩
 refine ds 10 (St.ldsX u i2 (sub_cons t0 sub_nil)) o rfl (e_nilp o rfl) fun a o=>ds 11 (St.ldsX u i2 (sub_cons t0 sub_nil)) o rfl (e_fa o fa171_3 rfl) fun a o=>da1 (i:=12) (by kernel_rfl) ?_
 refine di (i:=12) rfl<|s_blk o u sizeOf3 rfl rfl rfl rfl (.tail .head) (.succ (.succ (.succ .zero))) fun w u=>⟨fun _=>(St.ldsX u i2 (sub_cons t0 sub_nil)),?_⟩
 refine de (by kernel_rfl)<|?_
 obtain rfl:=si hm
 exact r0n o results167 ⟨H,oa3,cap4,oa7,cap8,vs9,rfl,hc5,hr6,hv10,(ExtM.refl _ _ _),(St.le u),(St.disL (u.pickL (.cons (.tail .head) (.cons .head .nil)))),(u.pickL (.cons (.tail .head) (.cons .head .nil))).endMut⟩
 replace hm:=itp_f hm hb13
 refine tn<|cfv o rfl hb13<|wk<|?_
 obtain rfl:=si hm
 exact r0n o results167 ⟨H,oa3,cap4,oa7,cap8,vs9,rfl,hc5,hr6,hv10,(ExtM.refl _ _ _),(St.le u),(St.disL (u.pickL (.cons .head (.cons .head .nil)))),(u.pickL (.cons .head (.cons .head .nil))).endMut⟩
set_option maxHeartbeats 4000000 in
theorem Z3i_c (hH:H.le w0) {b2:Nat} {p1:leadlineref04_P} {oa3:Option Addr} {cap4:Nat} (hc5:p1.L.length≤cap4) (hr6:SR H oa3 p1.L) {oa7:Option Addr} {cap8:Nat} {vs9:List Value} (hv10:Rows H vs9 p1.Out) (hO:(sepA [blk b2 (.cells [.slice oa3 p1.L.length cap4,i6 p1.At,i6 p1.E,i6 p1.Pos,.slice oa7 p1.Out.length cap8].toArray 171 (0,0)),sla 51 9 oa7 p1.Out.length cap8 vs9]).ok (hp w0)) (hD:∀ b,(sepA [blk b2 (.cells [.slice oa3 p1.L.length cap4,i6 p1.At,i6 p1.E,i6 p1.Pos,.slice oa7 p1.Out.length cap8].toArray 171 (0,0)),sla 51 9 oa7 p1.Out.length cap8 vs9]).fp b→H b=none) {r:(Str×leadlineref04_P)} (hm:Z3i N p1=some r):Tot Tryz.prog 175 #[.pointer (some ⟨b2,0,none⟩)] w0 (fun v w'=>∃ (H':PH) (oa1m:Option Addr) (cap1m:Nat) (oa2m:Option Addr) (cap2m:Nat) (vs2m:List Value),v=strv r.1∧r.2.L.length≤cap1m∧SR H' oa1m r.2.L∧Rows H' vs2m r.2.Out∧ExtM w0 (sepA [blk b2 (.cells [.slice oa3 p1.L.length cap4,i6 p1.At,i6 p1.E,i6 p1.Pos,.slice oa7 p1.Out.length cap8].toArray 171 (0,0)),sla 51 9 oa7 p1.Out.length cap8 vs9]).fp H H'∧H'.le w'∧(∀ b,(sepA [blk b2 (.cells [.slice oa1m r.2.L.length cap1m,i6 r.2.At,i6 r.2.E,i6 r.2.Pos,.slice oa2m r.2.Out.length cap2m].toArray 171 (0,0)),sla 51 9 oa2m r.2.Out.length cap2m vs2m]).fp b→H' b=none)∧Mut w0 (sepA [blk b2 (.cells [.slice oa3 p1.L.length cap4,i6 p1.At,i6 p1.E,i6 p1.Pos,.slice oa7 p1.Out.length cap8].toArray 171 (0,0)),sla 51 9 oa7 p1.Out.length cap8 vs9]) (sepA [blk b2 (.cells [.slice oa1m r.2.L.length cap1m,i6 r.2.At,i6 r.2.E,i6 r.2.Pos,.slice oa2m r.2.Out.length cap2m].toArray 171 (0,0)),sla 51 9 oa2m r.2.Out.length cap2m vs2m]) w'):=by
 unfold Z3i at hm
 refine fn0 func175 rfl ntmps175 rfl rfl fun a o=>?_
 have u:=startM hH hO hD
 refine th<|rg<|qa o rfl fun a o=>re<|tn<|th<|th<|midK (fun a w=>∃ (vA1:Bool),(Z3j N p1) vA1=some r∧Fr 70 [(0,.pointer (some ⟨b2,0,none⟩)),(47,.bool vA1)] a∧St w0 (sepA [blk b2 (.cells [.slice oa3 p1.L.length cap4,i6 p1.At,i6 p1.E,i6 p1.Pos,.slice oa7 p1.Out.length cap8].toArray 171 (0,0)),sla 51 9 oa7 p1.Out.length cap8 vs9]).fp [H] [sla 51 9 oa7 p1.Out.length cap8 vs9,blk b2 (.cells [.slice oa3 p1.L.length cap4,i6 p1.At,i6 p1.E,i6 p1.Pos,.slice oa7 p1.Out.length cap8].toArray 171 (0,0))] w) ?_ ?_
 rcases bdich (decide (p1.E=0)) with hb12 | hb12
 replace hm:=itp_t hm hb12
 rcases bdich (decide (p1.At < (p1.L.length:Int))) with hb13 | hb13
 replace hm:=itp_t hm hb13
 obtain ⟨x14,h15,hm⟩:=bs hm
 obtain ⟨c16,g17,hl18⟩:=SR.get hr6 h15
 obtain rfl:=api_Token_open g17
 rcases bdich (decide (x14.Kind=1)) with hb19 | hb19
 replace hm:=itp_t hm hb19
 obtain ⟨r20,h21,hm⟩:=bs hm
 refine rdS 45 u wide fun w u=>dr 0 u o rfl (e_move o rfl) fun a o=>dr 1 u o rfl (e_nilp o rfl) fun a o=>dr 2 u o rfl (e_fa o fa171_2 rfl) fun a o=>dq 3 (St.ld u) o rfl (fun w hl=>e_ld o isAgg29 rfl (hl.cellB t0 rfl)) fun a o=>dr 4 u o rfl (e_eql o rfl rfl) fun a o=>dr 5 u o rfl (e_as (e_move o rfl) (congrArg Value.bool hb12)) fun a o=>dg 6 (St.ld u) o rfl (fun w hl=>e_move o rfl) fun a o=>dg 7 (St.ld u) o rfl (fun w hl=>e_nilp o rfl) fun a o=>dg 8 (St.ld u) o rfl (fun w hl=>e_fa o fa171_1 rfl) fun a o=>dg 9 (St.ld u) o rfl (fun w hl=>e_ld o isAgg3 rfl (hl.cellB t0 rfl)) fun a o=>dg 10 (St.ld u) o rfl (fun w hl=>e_move o rfl) fun a o=>dg 11 (St.ld u) o rfl (fun w hl=>e_nilp o rfl) fun a o=>dg 12 (St.ld u) o rfl (fun w hl=>e_fa o fa171_0 rfl) fun a o=>dg 13 (St.ld u) o rfl (fun w hl=>e_ld o isAgg120 rfl (hl.cellB t0 rfl)) fun a o=>dg 14 (St.ld u) o rfl (fun w hl=>e_lenL (α:=api_Token) (xs:=p1.L) o runUnderlying120 rfl) fun a o=>dg 15 (St.ld u) o rfl (fun w hl=>e_lss o rfl rfl) fun a o=>dr 16 u o rfl (e_pickT o rfl rfl) fun a o=>dr 17 u o rfl (e_as (e_move o rfl) (congrArg Value.bool hb13)) fun a o=>dg 18 (St.ld u) o rfl (fun w hl=>e_move o rfl) fun a o=>dg 19 (St.ld u) o rfl (fun w hl=>e_nilp o rfl) fun a o=>dg 20 (St.ld u) o rfl (fun w hl=>e_fa o fa171_0 rfl) fun a o=>dg 21 (St.ld u) o rfl (fun w hl=>e_ld o isAgg120 rfl (hl.cellB t0 rfl)) fun a o=>dg 22 (St.ld u) o rfl (fun w hl=>e_move o rfl) fun a o=>dg 23 (St.ld u) o rfl (fun w hl=>e_nilp o rfl) fun a o=>dg 24 (St.ld u) o rfl (fun w hl=>e_fa o fa171_1 rfl) fun a o=>dg 25 (St.ld u) o rfl (fun w hl=>e_ld o isAgg3 rfl (hl.cellB t0 rfl)) fun a o=>dg 26 (St.ld u) o rfl (fun w hl=>e_iaI o runUnderlying120 sizeOf130 rfl rfl h15 (SR.oaI hr6 (by decide) h15)) fun a o=>dg 27 (St.ld u) o rfl (fun w hl=>e_fa o fa130_0 rfl) fun a o=>dg 28 (St.ld u) o rfl (fun w hl=>e_ld o isAgg3 rfl (PH.le.cell (Lds.le hl) (hl18 0 _ rfl))) fun a o=>dg 29 (St.ld u) o rfl (fun w hl=>e_eql o rfl rfl) fun a o=>?_
 refine dr 30 u o rfl (e_pickT o rfl rfl) fun a o=>dr 31 u o rfl (e_as (e_move o rfl) (congrArg Value.bool hb19)) fun a o=>dg 32 (St.ld u) o rfl (fun w hl=>e_move o rfl) fun a o=>dg 33 (St.ld u) o rfl (fun w hl=>e_nilp o rfl) fun a o=>dg 34 (St.ld u) o rfl (fun w hl=>e_fa o fa171_0 rfl) fun a o=>dg 35 (St.ld u) o rfl (fun w hl=>e_ld o isAgg120 rfl (hl.cellB t0 rfl)) fun a o=>dg 36 (St.ld u) o rfl (fun w hl=>e_move o rfl) fun a o=>dg 37 (St.ld u) o rfl (fun w hl=>e_nilp o rfl) fun a o=>dg 38 (St.ld u) o rfl (fun w hl=>e_fa o fa171_1 rfl) fun a o=>dg 39 (St.ld u) o rfl (fun w hl=>e_ld o isAgg3 rfl (hl.cellB t0 rfl)) fun a o=>dg 40 (St.ld u) o rfl (fun w hl=>e_iaI o runUnderlying120 sizeOf130 rfl rfl h15 (SR.oaI hr6 (by decide) h15)) fun a o=>dg 41 (St.ld u) o rfl (fun w hl=>e_fa o fa130_1 rfl) fun a o=>dg 42 (St.ld u) o rfl (fun w hl=>e_ld o isAgg9 rfl (PH.le.cell (Lds.le hl) (hl18 1 _ rfl))) fun a o=>da1 (i:=43) (by kernel_rfl) ?_
 refine di (i:=43) rfl<|gy o rfl rfl<|cq o call114 (Z1k_c (hp_le _) h21) ⟨rfl,trivial⟩ u fun w a u o=>⟨fun _=>(St.ld u),?_⟩
 refine dr 44 u o rfl (e_pickT o rfl rfl) fun a o=>de (by kernel_rfl)<|tn<|?_
 replace u:=u.pk [1,0] rfl
 exact ⟨r20,hm,o.has ⟨rfl,rfl,trivial⟩,u⟩
 replace hm:=itp_f hm hb19
 refine rxS 45 u wide (by kernel_rfl) fun w u=>xm u o rfl fun a o=>xr u o (e_nilp o rfl) fun a o=>xr u o (e_fa o fa171_2 rfl) fun a o=>xq (St.ld u) o (fun w hl=>e_ld o isAgg29 rfl (hl.cellB t0 rfl)) fun a o=>xr u o (e_eql o rfl rfl) fun a o=>xr u o (e_as (e_move o rfl) (congrArg Value.bool hb12)) fun a o=>xg (St.ld u) o (fun w hl=>e_move o rfl) fun a o=>xg (St.ld u) o (fun w hl=>e_nilp o rfl) fun a o=>xg (St.ld u) o (fun w hl=>e_fa o fa171_1 rfl) fun a o=>xg (St.ld u) o (fun w hl=>e_ld o isAgg3 rfl (hl.cellB t0 rfl)) fun a o=>xg (St.ld u) o (fun w hl=>e_move o rfl) fun a o=>xg (St.ld u) o (fun w hl=>e_nilp o rfl) fun a o=>xg (St.ld u) o (fun w hl=>e_fa o fa171_0 rfl) fun a o=>xg (St.ld u) o (fun w hl=>e_ld o isAgg120 rfl (hl.cellB t0 rfl)) fun a o=>xg (St.ld u) o (fun w hl=>e_lenL (α:=api_Token) (xs:=p1.L) o runUnderlying120 rfl) fun a o=>xg (St.ld u) o (fun w hl=>e_lss o rfl rfl) fun a o=>xr u o (e_pickT o rfl rfl) fun a o=>xr u o (e_as (e_move o rfl) (congrArg Value.bool hb13)) fun a o=>xg (St.ld u) o (fun w hl=>e_move o rfl) fun a o=>xg (St.ld u) o (fun w hl=>e_nilp o rfl) fun a o=>xg (St.ld u) o (fun w hl=>e_fa o fa171_0 rfl) fun a o=>xg (St.ld u) o (fun w hl=>e_ld o isAgg120 rfl (hl.cellB t0 rfl)) fun a o=>xg (St.ld u) o (fun w hl=>e_move o rfl) fun a o=>xg (St.ld u) o (fun w hl=>e_nilp o rfl) fun a o=>xg (St.ld u) o (fun w hl=>e_fa o fa171_1 rfl) fun a o=>xg (St.ld u) o (fun w hl=>e_ld o isAgg3 rfl (hl.cellB t0 rfl)) fun a o=>xg (St.ld u) o (fun w hl=>e_iaI o runUnderlying120 sizeOf130 rfl rfl h15 (SR.oaI hr6 (by decide) h15)) fun a o=>xg (St.ld u) o (fun w hl=>e_fa o fa130_0 rfl) fun a o=>xg (St.ld u) o (fun w hl=>e_ld o isAgg3 rfl (PH.le.cell (Lds.le hl) (hl18 0 _ rfl))) fun a o=>xg (St.ld u) o (fun w hl=>e_eql o rfl rfl) fun a o=>?_
 refine xr u o (e_pickT o rfl rfl) fun a o=>xr u o (e_as (e_move o rfl) (congrArg Value.bool hb19)) fun a o=>?_
 iterate 12 refine xn (St.ld u) o fun a o=>?_
 refine xr u o (e_pickF o rfl rfl) fun a o=>xe<|tn<|?_
 replace u:=u.pk [1,0] rfl
 exact ⟨false,hm,o.has ⟨rfl,rfl,trivial⟩,u⟩
 replace hm:=itp_f hm hb13
 refine rxS 45 u wide (by kernel_rfl) fun w u=>xm u o rfl fun a o=>xr u o (e_nilp o rfl) fun a o=>xr u o (e_fa o fa171_2 rfl) fun a o=>xq (St.ld u) o (fun w hl=>e_ld o isAgg29 rfl (hl.cellB t0 rfl)) fun a o=>xr u o (e_eql o rfl rfl) fun a o=>xr u o (e_as (e_move o rfl) (congrArg Value.bool hb12)) fun a o=>xg (St.ld u) o (fun w hl=>e_move o rfl) fun a o=>xg (St.ld u) o (fun w hl=>e_nilp o rfl) fun a o=>xg (St.ld u) o (fun w hl=>e_fa o fa171_1 rfl) fun a o=>xg (St.ld u) o (fun w hl=>e_ld o isAgg3 rfl (hl.cellB t0 rfl)) fun a o=>xg (St.ld u) o (fun w hl=>e_move o rfl) fun a o=>xg (St.ld u) o (fun w hl=>e_nilp o rfl) fun a o=>xg (St.ld u) o (fun w hl=>e_fa o fa171_0 rfl) fun a o=>xg (St.ld u) o (fun w hl=>e_ld o isAgg120 rfl (hl.cellB t0 rfl)) fun a o=>xg (St.ld u) o (fun w hl=>e_lenL (α:=api_Token) (xs:=p1.L) o runUnderlying120 rfl) fun a o=>xg (St.ld u) o (fun w hl=>e_lss o rfl rfl) fun a o=>xr u o (e_pickT o rfl rfl) fun a o=>xr u o (e_as (e_move o rfl) (congrArg Value.bool hb13)) fun a o=>?_
 iterate 12 refine xn (St.ld u) o fun a o=>?_
 refine xr u o (e_pickF o rfl rfl) fun a o=>xm u o rfl fun a o=>?_
 iterate 12 refine xn (St.ld u) o fun a o=>?_
 refine xr u o (e_pickF o rfl rfl) fun a o=>xe<|tn<|?_
 replace u:=u.pk [1,0] rfl
 exact ⟨false,hm,o.has ⟨rfl,rfl,trivial⟩,u⟩
 replace hm:=itp_f hm hb12
 refine rxS 45 u wide (by kernel_rfl) fun w u=>xm u o rfl fun a o=>xr u o (e_nilp o rfl) fun a o=>xr u o (e_fa o fa171_2 rfl) fun a o=>xq (St.ld u) o (fun w hl=>e_ld o isAgg29 rfl (hl.cellB t0 rfl)) fun a o=>xr u o (e_eql o rfl rfl) fun a o=>xr u o (e_as (e_move o rfl) (congrArg Value.bool hb12)) fun a o=>?_
 iterate 10 refine xn (St.ld u) o fun a o=>?_
 refine xr u o (e_pickF o rfl rfl) fun a o=>xm u o rfl fun a o=>?_
 iterate 12 refine xn (St.ld u) o fun a o=>?_
 refine xr u o (e_pickF o rfl rfl) fun a o=>xm u o rfl fun a o=>?_
 iterate 12 refine xn (St.ld u) o fun a o=>?_
 refine xr u o (e_pickF o rfl rfl) fun a o=>xe<|tn<|?_
 replace u:=u.pk [1,0] rfl
 exact ⟨false,hm,o.has ⟨rfl,rfl,trivial⟩,u⟩
 rintro a w ⟨vA1,hm,o,u⟩
 unfold Z3j at hm
 rcases bdich vA1 with hb22 | hb22
 replace hm:=ite_t hm hb22
 refine ctv o rfl hb22<|th<|rg<|qm o rfl fun a o=>qm o rfl fun a o=>qv o (e_nilp o rfl) fun a o=>qv o (e_fa o fa171_1 rfl) fun a o=>qv o (e_ld o isAgg3 rfl ((St.ld u).cellB t1 rfl)) fun a o=>qv o (e_add o rfl rfl) fun a o=>qv o (e_nilp o rfl) fun a o=>qv o (e_fa o fa171_1 rfl) fun a o=>ls<|s_blk o u sizeOf3 rfl rfl rfl rfl (.tail .head) (.succ .zero) fun w u=>re<|tn<|th<|?_
 obtain ⟨x23,h24,hm⟩:=bs hm
 obtain ⟨c25,g26,hl27⟩:=SR.get hr6 h24
 obtain rfl:=api_Token_open g26
 refine rxS 13 u wide (by kernel_rfl) fun w u=>xm u o rfl fun a o=>xr u o (e_nilp o rfl) fun a o=>xr u o (e_fa o fa171_0 rfl) fun a o=>xq (St.ld u) o (fun w hl=>e_ld o isAgg120 rfl (hl.cellB t1 rfl)) fun a o=>xm u o rfl fun a o=>xr u o (e_nilp o rfl) fun a o=>xr u o (e_fa o fa171_1 rfl) fun a o=>xq (St.ld u) o (fun w hl=>e_ld o isAgg3 rfl (hl.cellB t1 rfl)) fun a o=>xr u o (e_sub o rfl rfl) fun a o=>xr u o (e_iaI o runUnderlying120 sizeOf130 rfl rfl h24 (SR.oaI hr6 (by decide) h24)) fun a o=>xr u o (e_fa o fa130_1 rfl) fun a o=>xq (St.ld u) o (fun w hl=>e_ld o isAgg9 rfl (PH.le.cell (Lds.le hl) (hl27 1 _ rfl))) fun a o=>xr u o (e_asg o rfl) fun a o=>xe<|tn<|wr<|tr<|?_
 obtain rfl:=si hm
 exact r1 o results175 rfl ⟨H,oa3,cap4,oa7,cap8,vs9,rfl,hc5,hr6,hv10,(ExtM.refl _ _ _),(St.le u),(St.disL (u.pickL (.cons (.tail .head) (.cons .head .nil)))),(u.pickL (.cons (.tail .head) (.cons .head .nil))).endMut⟩
 replace hm:=ite_f hm hb22
 refine cfv o rfl hb22<|wk<|tn<|th<|?_
 obtain ⟨r28,h29,hm⟩:=bs hm
 refine rg<|qm o rfl fun a o=>?_
 replace u:=u.pk [1,0] rfl
 replace u:=St.sep [blk b2 (.cells [.slice oa3 p1.L.length cap4,i6 p1.At,i6 p1.E,i6 p1.Pos,.slice oa7 p1.Out.length cap8].toArray 171 (0,0)),sla 51 9 oa7 p1.Out.length cap8 vs9] u
 refine ls<|c1 o rfl call167 (Z37_c (St.le u) (p1:=(leadlineref04_P.mk p1.L p1.At p1.E p1.Pos p1.Out)) (b2:=b2) (oa3:=oa3) (cap4:=cap4) (oa7:=oa7) (cap8:=cap8) (vs9:=vs9) hc5 hr6 hv10 (St.sepOk u) (St.sepDis u) h29) ⟨rfl,rfl,trivial⟩ (fun v w a hR o=>?_)
 obtain ⟨H33,oa34,cap35,oa38,cap39,vs40,rfl,hc36,hr37,hv41,hx30,hl31,hd32,hk⟩:=hR
 obtain ⟨u,hx30⟩:=And.intro (St.mutH u hk hx30 hl31 hd32) (St.extcMM u hx30)
 replace u:=u.unsep
 refine re<|tn<|th<|rg<|qa o rfl fun a o=>re<|tn<|wr<|?_
 obtain rfl:=si hm
 exact r1 o results175 rfl ⟨H33,oa34,cap35,oa38,cap39,vs40,rfl,hc36,hr37,hv41,hx30,(St.le u),(St.disL (u.pickL (.cons .head (.cons .head .nil)))),(u.pickL (.cons .head (.cons .head .nil))).endMut⟩
theorem Z3g_c (hH:H.le w0) {b2:Nat} {p1:leadlineref04_P} {oa3:Option Addr} {cap4:Nat} (hc5:p1.L.length≤cap4) (hr6:SR H oa3 p1.L) {oa7:Option Addr} {cap8:Nat} {vs9:List Value} (hv10:Rows H vs9 p1.Out) {p12:Str} (hO:(sepA [blk b2 (.cells [.slice oa3 p1.L.length cap4,i6 p1.At,i6 p1.E,i6 p1.Pos,.slice oa7 p1.Out.length cap8].toArray 171 (0,0)),sla 51 9 oa7 p1.Out.length cap8 vs9]).ok (hp w0)) (hD:∀ b,(sepA [blk b2 (.cells [.slice oa3 p1.L.length cap4,i6 p1.At,i6 p1.E,i6 p1.Pos,.slice oa7 p1.Out.length cap8].toArray 171 (0,0)),sla 51 9 oa7 p1.Out.length cap8 vs9]).fp b→H b=none) {r:leadlineref04_P} (hm:Z3g N p1 p12=some r):Tot Tryz.prog 161 #[.pointer (some ⟨b2,0,none⟩),strv p12] w0 (fun v w'=>∃ (H':PH) (oa1m:Option Addr) (cap1m:Nat) (oa2m:Option Addr) (cap2m:Nat) (vs2m:List Value),v=.tuple #[]∧r.L.length≤cap1m∧SR H' oa1m r.L∧Rows H' vs2m r.Out∧ExtM w0 (sepA [blk b2 (.cells [.slice oa3 p1.L.length cap4,i6 p1.At,i6 p1.E,i6 p1.Pos,.slice oa7 p1.Out.length cap8].toArray 171 (0,0)),sla 51 9 oa7 p1.Out.length cap8 vs9]).fp H H'∧H'.le w'∧(∀ b,(sepA [blk b2 (.cells [.slice oa1m r.L.length cap1m,i6 r.At,i6 r.E,i6 r.Pos,.slice oa2m r.Out.length cap2m].toArray 171 (0,0)),sla 51 9 oa2m r.Out.length cap2m vs2m]).fp b→H' b=none)∧Mut w0 (sepA [blk b2 (.cells [.slice oa3 p1.L.length cap4,i6 p1.At,i6 p1.E,i6 p1.Pos,.slice oa7 p1.Out.length cap8].toArray 171 (0,0)),sla 51 9 oa7 p1.Out.length cap8 vs9]) (sepA [blk b2 (.cells [.slice oa1m r.L.length cap1m,i6 r.At,i6 r.E,i6 r.Pos,.slice oa2m r.Out.length cap2m].toArray 171 (0,0)),sla 51 9 oa2m r.Out.length cap2m vs2m]) w'):=by
 unfold Z3g at hm
 refine fn0 func161 rfl ntmps161 rfl rfl fun a o=>?_
 have u:=startM hH hO hD
 refine th<|midK (fun a w=>∃ (vA1:Bool),(Z3h N p1) vA1=some r∧Fr 31 [(0,.pointer (some ⟨b2,0,none⟩)),(20,.bool vA1)] a∧St w0 (sepA [blk b2 (.cells [.slice oa3 p1.L.length cap4,i6 p1.At,i6 p1.E,i6 p1.Pos,.slice oa7 p1.Out.length cap8].toArray 171 (0,0)),sla 51 9 oa7 p1.Out.length cap8 vs9]).fp [H] [sla 51 9 oa7 p1.Out.length cap8 vs9,blk b2 (.cells [.slice oa3 p1.L.length cap4,i6 p1.At,i6 p1.E,i6 p1.Pos,.slice oa7 p1.Out.length cap8].toArray 171 (0,0))] w) ?_ ?_
 rcases bdich (decide (p1.E=0)) with hb13 | hb13
 replace hm:=itp_t hm hb13
 obtain ⟨r14,h15,hm⟩:=bs hm
 refine rdS 17 u wide fun w u=>dr 0 u o rfl (e_move o rfl) fun a o=>dr 1 u o rfl (e_nilp o rfl) fun a o=>dr 2 u o rfl (e_fa o fa171_2 rfl) fun a o=>dq 3 (St.ld u) o rfl (fun w hl=>e_ld o isAgg29 rfl (hl.cellB t0 rfl)) fun a o=>dr 4 u o rfl (e_eql o rfl rfl) fun a o=>dr 5 u o rfl (e_as (e_move o rfl) (congrArg Value.bool hb13)) fun a o=>dg 6 (St.ld u) o rfl (fun w hl=>e_move o rfl) fun a o=>dg 7 (St.ld u) o rfl (fun w hl=>e_nilp o rfl) fun a o=>dg 8 (St.ld u) o rfl (fun w hl=>e_fa o fa171_0 rfl) fun a o=>dg 9 (St.ld u) o rfl (fun w hl=>e_ld o isAgg120 rfl (hl.cellB t0 rfl)) fun a o=>dg 10 (St.ld u) o rfl (fun w hl=>e_move o rfl) fun a o=>dg 11 (St.ld u) o rfl (fun w hl=>e_nilp o rfl) fun a o=>dg 12 (St.ld u) o rfl (fun w hl=>e_fa o fa171_1 rfl) fun a o=>dg 13 (St.ld u) o rfl (fun w hl=>e_ld o isAgg3 rfl (hl.cellB t0 rfl)) fun a o=>dg 14 (St.ld u) o rfl (fun w hl=>e_move o rfl) fun a o=>da1 (i:=15) (by kernel_rfl) ?_
 refine di (i:=15) rfl<|gy o rfl rfl<|cq o call139 (Z1g_c (hp_le _) hc5 (St.srH u hr6) h15) ⟨rfl,rfl,rfl,trivial⟩ u fun w a u o=>⟨fun _=>(St.ld u),?_⟩
 refine dr 16 u o rfl (e_pickT o rfl rfl) fun a o=>de (by kernel_rfl)<|tn<|?_
 replace u:=u.pk [1,0] rfl
 exact ⟨r14,hm,o.has ⟨rfl,rfl,trivial⟩,u⟩
 replace hm:=itp_f hm hb13
 refine rxS 17 u wide (by kernel_rfl) fun w u=>xm u o rfl fun a o=>xr u o (e_nilp o rfl) fun a o=>xr u o (e_fa o fa171_2 rfl) fun a o=>xq (St.ld u) o (fun w hl=>e_ld o isAgg29 rfl (hl.cellB t0 rfl)) fun a o=>xr u o (e_eql o rfl rfl) fun a o=>xr u o (e_as (e_move o rfl) (congrArg Value.bool hb13)) fun a o=>?_
 iterate 10 refine xn (St.ld u) o fun a o=>?_
 refine xr u o (e_pickF o rfl rfl) fun a o=>xe<|tn<|?_
 replace u:=u.pk [1,0] rfl
 exact ⟨false,hm,o.has ⟨rfl,rfl,trivial⟩,u⟩
 rintro a w ⟨vA1,hm,o,u⟩
 unfold Z3h at hm
 rcases bdich vA1 with hb16 | hb16
 replace hm:=ite_t hm hb16
 refine ctv o rfl hb16<|rg<|qm o rfl fun a o=>qm o rfl fun a o=>qv o (e_nilp o rfl) fun a o=>qv o (e_fa o fa171_1 rfl) fun a o=>qv o (e_ld o isAgg3 rfl ((St.ld u).cellB t1 rfl)) fun a o=>qv o (e_add o rfl rfl) fun a o=>qv o (e_nilp o rfl) fun a o=>qv o (e_fa o fa171_1 rfl) fun a o=>ls<|s_blk o u sizeOf3 rfl rfl rfl rfl (.tail .head) (.succ .zero) fun w u=>re<|?_
 obtain rfl:=si hm
 exact r0n o results161 ⟨H,oa3,cap4,oa7,cap8,vs9,rfl,hc5,hr6,hv10,(ExtM.refl _ _ _),(St.le u),(St.disL (u.pickL (.cons (.tail .head) (.cons .head .nil)))),(u.pickL (.cons (.tail .head) (.cons .head .nil))).endMut⟩
 replace hm:=ite_f hm hb16
 refine cfv o rfl hb16<|?_
 obtain ⟨r17,h18,hm⟩:=bs hm
 refine rg<|qm o rfl fun a o=>?_
 replace u:=u.pk [1,0] rfl
 replace u:=St.sep [blk b2 (.cells [.slice oa3 p1.L.length cap4,i6 p1.At,i6 p1.E,i6 p1.Pos,.slice oa7 p1.Out.length cap8].toArray 171 (0,0)),sla 51 9 oa7 p1.Out.length cap8 vs9] u
 refine ls<|c1 o rfl call167 (Z37_c (St.le u) (p1:=(leadlineref04_P.mk p1.L p1.At p1.E p1.Pos p1.Out)) (b2:=b2) (oa3:=oa3) (cap4:=cap4) (oa7:=oa7) (cap8:=cap8) (vs9:=vs9) hc5 hr6 hv10 (St.sepOk u) (St.sepDis u) h18) ⟨rfl,rfl,trivial⟩ (fun v w a hR o=>?_)
 obtain ⟨H22,oa23,cap24,oa27,cap28,vs29,rfl,hc25,hr26,hv30,hx19,hl20,hd21,hk⟩:=hR
 obtain ⟨u,hx19⟩:=And.intro (St.mutH u hk hx19 hl20 hd21) (St.extcMM u hx19)
 replace u:=u.unsep
 refine re<|?_
 obtain rfl:=si hm
 exact r0n o results161 ⟨H22,oa23,cap24,oa27,cap28,vs29,rfl,hc25,hr26,hv30,hx19,(St.le u),(St.disL (u.pickL (.cons .head (.cons .head .nil)))),(u.pickL (.cons .head (.cons .head .nil))).endMut⟩
theorem Z2v_c (hH:H.le w0) {oa2:Option Addr} {cap3:Nat} {p1:(List api_Token)} (hc4:p1.length≤cap3) (hr5:SR H oa2 p1) {p6:Int} {p7:Int} {r:leadlineref03_Read} (hm:Z2v N p1 p6 p7=some r):Tot Tryz.prog 178 #[.slice oa2 p1.length cap3,i6 p6,i6 p7] w0 (fun v w'=>∃ (H':PH) (cs0:List Value),v=.agg cs0.toArray∧Enc.rep H' cs0 r∧Ext w0 H H'∧H'.le w'∧Keep Nil w0 w'):=by
 unfold Z2v at hm
 refine fn0 func178 rfl ntmps178 rfl rfl fun a o=>?_
 have u:St w0 Nil [H] [] w0:=start1 hH
 refine th<|rg<|ls<|a_alloc (cs:=[.slice none 0 0,i6 0,i6 0,i6 0].toArray) o rfl u Tryz.zeroValue174 rfl fun b8 w a u o=>re<|tn<|th<|th<|rg<|qm o rfl fun a o=>qm o rfl fun a o=>qv o (e_lenL (α:=api_Token) (xs:=p1) o runUnderlying120 rfl) fun a o=>qv o (e_geq o rfl rfl) fun a o=>re<|tn<|midK (fun a w=>∃ (vA1:Int),(Z2w N p1 p6) vA1=some r∧Fr 16 [(0,.slice oa2 p1.length cap3),(1,i6 p6),(2,i6 vA1),(6,.pointer (some ⟨b8,0,none⟩))] a∧St w0 Nil [H] [blk b8 (.cells [.slice none 0 0,i6 0,i6 0,i6 0].toArray 174 (0,0))] w) ?_ ?_
 rcases bdich (decide ((p1.length:Int)≤p6)) with hb9 | hb9
 replace hm:=itp_t hm hb9
 refine ctv o rfl hb9<|rg<|qa o rfl fun a o=>re<|tn<|?_
 exact ⟨6,hm,o.hs,u⟩
 replace hm:=itp_f hm hb9
 refine cfv o rfl hb9<|wk<|tn<|?_
 exact ⟨p7,hm,o.hs,u⟩
 rintro a w ⟨vA1,hm,o,u⟩
 unfold Z2w at hm
 refine th<|?_
 obtain ⟨r10,h11,hm⟩:=bs hm
 refine rg<|qm o rfl fun a o=>?_
 iterate 2 refine qm o rfl fun a o=>?_
 refine ls<|cq o call143 (Z1p_c (hp_le _) hc4 (St.srH u hr5) h11) ⟨rfl,rfl,trivial⟩ u fun w a u o=>qv o (e_bldK [i6 vA1,i6 r10] [.slice none 0 0,i6 0,i6 vA1,i6 r10] o ⟨rfl,rfl,trivial⟩ (fun w=>by kernel_rfl)) fun a o=>ls<|s_blkA o u sizeOf174 rfl rfl rfl rfl (one_cells rfl) .head fun w u=>re<|tn<|wr<|?_
 obtain rfl:=si hm
 exact r1c (vs:=[.slice none 0 0,i6 0,i6 vA1,i6 r10]) (.inl rfl) o results178 rfl isAgg174 sizeOf174 rfl ((St.ld u).cellsB t0) ⟨H,_,rfl,(show Enc.rep (α:=leadlineref03_Read) H [.slice none 0 0,i6 0,i6 vA1,i6 r10] (leadlineref03_Read.mk [] 0 vA1 r10) from ⟨_,_,rfl,⟨none,0,rfl,Nat.le_refl _,SR.nil _ _⟩,⟨_,_,rfl,rfl,⟨_,_,rfl,rfl,rfl⟩⟩⟩),(Ext.refl _ _),(St.le u),u.keep⟩
theorem Z30_c (hH:H.le w0) {p1:Int} {r:(List Int)} (hm:Z30 N p1=some r):Tot Tryz.prog 171 #[i6 p1] w0 (fun v w'=>∃ (H':PH) (oa0:Option Addr) (cap0:Nat),v=.slice oa0 r.length cap0∧r.length≤cap0∧SR H' oa0 r∧Ext w0 H H'∧H'.le w'∧Keep Nil w0 w'):=by
 unfold Z30 at hm
 refine fn0 func171 rfl ntmps171 rfl rfl fun a o=>?_
 have u:St w0 Nil [H] [] w0:=start1 hH
 refine th<|rg<|qa o rfl fun a o=>re<|tn<|th<|?_
 obtain ⟨x40,h41,hm⟩:=bs hm
 refine rg<|ls<|a_bsl (e:=3) (sz:=1) [i6 15] o rfl u rfl rfl rfl (fun w=>by kernel_rfl) fun b3 w a u o=>?_
 have hv2:Rows (α:=Int) H [i6 15] ([15]:List Int):=(.cons (c:=[i6 15]) rfl .nil)
 refine ls<|a_bsl (e:=3) (sz:=1) [i6 14] o rfl u rfl rfl rfl (fun w=>by kernel_rfl) fun b6 w a u o=>?_
 have hv5:Rows (α:=Int) H [i6 14] ([14]:List Int):=(.cons (c:=[i6 14]) rfl .nil)
 refine ls<|a_bsl (e:=3) (sz:=1) [i6 10,i6 11,i6 12,i6 13] o rfl u rfl rfl rfl (fun w=>by kernel_rfl) fun b9 w a u o=>?_
 have hv8:Rows (α:=Int) H [i6 10,i6 11,i6 12,i6 13] ([10,11,12,13]:List Int):=(.cons (c:=[i6 10]) rfl (.cons (c:=[i6 11]) rfl (.cons (c:=[i6 12]) rfl (.cons (c:=[i6 13]) rfl .nil))))
 refine ls<|a_bsl (e:=3) (sz:=1) [i6 5,i6 6] o rfl u rfl rfl rfl (fun w=>by kernel_rfl) fun b12 w a u o=>?_
 have hv11:Rows (α:=Int) H [i6 5,i6 6] ([5,6]:List Int):=(.cons (c:=[i6 5]) rfl (.cons (c:=[i6 6]) rfl .nil))
 refine ls<|a_bsl (e:=3) (sz:=1) [i6 7,i6 8,i6 9] o rfl u rfl rfl rfl (fun w=>by kernel_rfl) fun b15 w a u o=>?_
 have hv14:Rows (α:=Int) H [i6 7,i6 8,i6 9] ([7,8,9]:List Int):=(.cons (c:=[i6 7]) rfl (.cons (c:=[i6 8]) rfl (.cons (c:=[i6 9]) rfl .nil)))
 obtain ⟨H20,hx17,hr18,hc19,u⟩:=St.frzS u (.tail (.tail (.tail (.tail .head)))) hv2
 obtain ⟨H24,hx21,hr22,hc23,u⟩:=St.frzS u (.tail (.tail (.tail .head))) (hv5.mono hx17.sub)
 obtain ⟨H28,hx25,hr26,hc27,u⟩:=St.frzS u (.tail (.tail .head)) (hv8.mono (cp hx21.sub hx17.sub))
 obtain ⟨H32,hx29,hr30,hc31,u⟩:=St.frzS u (.tail .head) (hv11.mono (cp (cp hx25.sub hx21.sub) hx17.sub))
 obtain ⟨H36,hx33,hr34,hc35,u⟩:=St.frzS u .head (hv14.mono (cp (cp (cp hx29.sub hx25.sub) hx21.sub) hx17.sub))
 refine ls<|a_bsl (e:=42) (sz:=1) [.slice (some ⟨b3,0,none⟩) ([15]:List Int).length 1,.slice (some ⟨b6,0,none⟩) ([14]:List Int).length 1,.slice (some ⟨b9,0,none⟩) ([10,11,12,13]:List Int).length 4,.slice (some ⟨b12,0,none⟩) ([5,6]:List Int).length 2,.slice (some ⟨b15,0,none⟩) ([7,8,9]:List Int).length 3] o rfl u rfl rfl rfl (fun w=>by kernel_rfl) fun b38 w a u o=>?_
 have hv37:Rows (α:=(List Int)) H36 [.slice (some ⟨b3,0,none⟩) ([15]:List Int).length 1,.slice (some ⟨b6,0,none⟩) ([14]:List Int).length 1,.slice (some ⟨b9,0,none⟩) ([10,11,12,13]:List Int).length 4,.slice (some ⟨b12,0,none⟩) ([5,6]:List Int).length 2,.slice (some ⟨b15,0,none⟩) ([7,8,9]:List Int).length 3] ([([15]:List Int),([14]:List Int),([10,11,12,13]:List Int),([5,6]:List Int),([7,8,9]:List Int)]:List (List Int)):=(.cons (c:=[.slice (some ⟨b3,0,none⟩) ([15]:List Int).length 1]) ⟨_,_,rfl,hc19,(hr18.mono (cp (cp (cp hx33.sub hx29.sub) hx25.sub) hx21.sub))⟩ (.cons (c:=[.slice (some ⟨b6,0,none⟩) ([14]:List Int).length 1]) ⟨_,_,rfl,hc23,(hr22.mono (cp (cp hx33.sub hx29.sub) hx25.sub))⟩ (.cons (c:=[.slice (some ⟨b9,0,none⟩) ([10,11,12,13]:List Int).length 4]) ⟨_,_,rfl,hc27,(hr26.mono (cp hx33.sub hx29.sub))⟩ (.cons (c:=[.slice (some ⟨b12,0,none⟩) ([5,6]:List Int).length 2]) ⟨_,_,rfl,hc31,(hr30.mono hx33.sub)⟩ (.cons (c:=[.slice (some ⟨b15,0,none⟩) ([7,8,9]:List Int).length 3]) ⟨_,_,rfl,hc35,hr34⟩ .nil)))))
 refine qm o rfl fun a o=>qv o (e_iaI o runUnderlying190 sizeOf42 rfl rfl h41 (Rd.oaI ((St.ld u).rdO t0) hv37 (by decide) h41)) fun a o=>?_
 obtain ⟨c42,g43,hl44⟩:=Rows.getI hv37 h41
 obtain ⟨oa45,cap46,rfl,hc47,hr48⟩:=g43
 refine qv o (e_ld o isAgg42 rfl ((St.ld u).elO t0 (hl44 0 _ rfl))) fun a o=>qa o rfl fun a o=>re<|tn<|wr<|?_
 obtain rfl:=si hm
 exact r1 o results171 rfl ⟨H36,_,_,rfl,hc47,hr48,(Ext.trans hx17 (Ext.trans hx21 (Ext.trans hx25 (Ext.trans hx29 hx33)))),(St.le u),u.keep⟩
theorem Z35_c (hH:H.le w0) {p1:Int} {r:Str} (hm:Z35 N p1=some r):Tot Tryz.prog 172 #[i6 p1] w0 (fun v w'=>v=strv r∧Keep Nil w0 w'):=by
 unfold Z35 at hm
 refine fn0 func172 rfl ntmps172 rfl rfl fun a o=>?_
 have u:St w0 Nil [H] [] w0:=start1 hH
 refine th<|rg<|qa o rfl fun a o=>re<|tn<|th<|?_
 obtain ⟨xz5,h6,hm⟩:=bs hm
 refine rg<|ls<|a_bsl (e:=9) (sz:=1) [strv [],strv [],strv [],strv [45],strv [33],strv [43],strv [45],strv [42],strv [47],strv [37],strv [61,61],strv [33,61],strv [60],strv [60,61],strv [38,38],strv [124,124]] o rfl u rfl rfl rfl (fun w=>by kernel_rfl) fun b3 w a u o=>?_
 have hv2:Rows (α:=Str) H [strv [],strv [],strv [],strv [45],strv [33],strv [43],strv [45],strv [42],strv [47],strv [37],strv [61,61],strv [33,61],strv [60],strv [60,61],strv [38,38],strv [124,124]] ([[],[],[],[45],[33],[43],[45],[42],[47],[37],[61,61],[33,61],[60],[60,61],[38,38],[124,124]]:List Str):=(.cons (c:=[strv []]) rfl (.cons (c:=[strv []]) rfl (.cons (c:=[strv []]) rfl (.cons (c:=[strv [45]]) rfl (.cons (c:=[strv [33]]) rfl (.cons (c:=[strv [43]]) rfl (.cons (c:=[strv [45]]) rfl (.cons (c:=[strv [42]]) rfl (.cons (c:=[strv [47]]) rfl (.cons (c:=[strv [37]]) rfl (.cons (c:=[strv [61,61]]) rfl (.cons (c:=[strv [33,61]]) rfl (.cons (c:=[strv [60]]) rfl (.cons (c:=[strv [60,61]]) rfl (.cons (c:=[strv [38,38]]) rfl (.cons (c:=[strv [124,124]]) rfl .nil))))))))))))))))
 refine qm o rfl fun a o=>qv o (e_iaI o runUnderlying36 sizeOf9 rfl rfl h6 (Rd.oaI ((St.ld u).rdO t0) hv2 (by decide) h6)) fun a o=>?_
 obtain ⟨cz7,g8,hl9⟩:=Rows.getI hv2 h6
 obtain rfl:cz7=[strv xz5]:=g8
 refine qv o (e_ld o isAgg9 rfl ((St.ld u).elO t0 (hl9 0 _ rfl))) fun a o=>qa o rfl fun a o=>re<|tn<|wr<|?_
 obtain rfl:=si hm
 exact r1 o results172 rfl ⟨rfl,u.keep⟩
end Go.LM.LB
