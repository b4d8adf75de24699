/- Walks, lifted by program. No condition beyond the theorems' own premises. -/
import Derived.Test.YtgdkaddhhpgeiaaGreatDoorLBQ4
namespace Go.LM.LB
open Go Go.LL Go.MD Go.LM Go.Proofs Go.MD.LB Go.Proofs.Tryz
set_option maxRecDepth 100000
variable {N:Nat} {w0:World} {H:PH}
set_option maxHeartbeats 4000000 in
theorem Z3k_c (hH:H.le w0) {b2:Nat} {p1:leadlineref04_P} {oa3:Option Addr} {cap4:Nat} (hc5:p1.L.length≤cap4) (hr6:SR H oa3 p1.L) {oa7:Option Addr} {cap8:Nat} {vs9:List Value} (hv10:Rows H vs9 p1.Out) (hO:(sepA [blk b2 (.cells [.slice oa3 p1.L.length cap4,i6 p1.At,i6 p1.E,i6 p1.Pos,.slice oa7 p1.Out.length cap8].toArray 171 (0,0)),sla 51 9 oa7 p1.Out.length cap8 vs9]).ok (hp w0)) (hD:∀ b,(sepA [blk b2 (.cells [.slice oa3 p1.L.length cap4,i6 p1.At,i6 p1.E,i6 p1.Pos,.slice oa7 p1.Out.length cap8].toArray 171 (0,0)),sla 51 9 oa7 p1.Out.length cap8 vs9]).fp b→H b=none) {r:(Str×leadlineref04_P)} (hm:Z3k N p1=some r):Tot Tryz.prog 175 #[.pointer (some ⟨b2,0,none⟩)] w0 (fun v w'=>∃ (H':PH) (oa1m:Option Addr) (cap1m:Nat) (oa2m:Option Addr) (cap2m:Nat) (vs2m:List Value),v=strv r.1∧r.2.L.length≤cap1m∧SR H' oa1m r.2.L∧Rows H' vs2m r.2.Out∧ExtM w0 (sepA [blk b2 (.cells [.slice oa3 p1.L.length cap4,i6 p1.At,i6 p1.E,i6 p1.Pos,.slice oa7 p1.Out.length cap8].toArray 171 (0,0)),sla 51 9 oa7 p1.Out.length cap8 vs9]).fp H H'∧H'.le w'∧(∀ b,(sepA [blk b2 (.cells [.slice oa1m r.2.L.length cap1m,i6 r.2.At,i6 r.2.E,i6 r.2.Pos,.slice oa2m r.2.Out.length cap2m].toArray 171 (0,0)),sla 51 9 oa2m r.2.Out.length cap2m vs2m]).fp b→H' b=none)∧Mut w0 (sepA [blk b2 (.cells [.slice oa3 p1.L.length cap4,i6 p1.At,i6 p1.E,i6 p1.Pos,.slice oa7 p1.Out.length cap8].toArray 171 (0,0)),sla 51 9 oa7 p1.Out.length cap8 vs9]) (sepA [blk b2 (.cells [.slice oa1m r.2.L.length cap1m,i6 r.2.At,i6 r.2.E,i6 r.2.Pos,.slice oa2m r.2.Out.length cap2m].toArray 171 (0,0)),sla 51 9 oa2m r.2.Out.length cap2m vs2m]) w'):=by
 unfold Z3k at hm
 refine fn0 func175 rfl ntmps175 rfl rfl fun a o=>?_
 have u:=startM hH hO hD
 refine th<|rg<|qa o rfl fun a o=>re<|tn<|th<|th<|midK (fun a w=>∃ (vA1:Bool),(Z3l N p1) vA1=some r∧Fr 70 [(0,.pointer (some ⟨b2,0,none⟩)),(47,.bool vA1)] a∧St w0 (sepA [blk b2 (.cells [.slice oa3 p1.L.length cap4,i6 p1.At,i6 p1.E,i6 p1.Pos,.slice oa7 p1.Out.length cap8].toArray 171 (0,0)),sla 51 9 oa7 p1.Out.length cap8 vs9]).fp [H] [sla 51 9 oa7 p1.Out.length cap8 vs9,blk b2 (.cells [.slice oa3 p1.L.length cap4,i6 p1.At,i6 p1.E,i6 p1.Pos,.slice oa7 p1.Out.length cap8].toArray 171 (0,0))] w) ?_ ?_
 rcases bdich (decide (p1.E=0)) with hb12 | hb12
 replace hm:=itp_t hm hb12
 rcases bdich (decide (p1.At < (p1.L.length:Int))) with hb13 | hb13
 replace hm:=itp_t hm hb13
 obtain ⟨x14,h15,hm⟩:=bs hm
 obtain ⟨c16,g17,hl18⟩:=SR.get hr6 h15
 obtain rfl:=api_Token_open g17
 rcases bdich (decide (x14.Kind=1)) with hb19 | hb19
 replace hm:=itp_t hm hb19
 obtain ⟨r20,h21,hm⟩:=bs hm
 refine rdS 45 u wide fun w u=>dr 0 u o rfl (e_move o rfl) fun a o=>dr 1 u o rfl (e_nilp o rfl) fun a o=>dr 2 u o rfl (e_fa o fa171_2 rfl) fun a o=>dq 3 (St.ld u) o rfl (fun w hl=>e_ld o isAgg29 rfl (hl.cellB t0 rfl)) fun a o=>dr 4 u o rfl (e_eql o rfl rfl) fun a o=>dr 5 u o rfl (e_as (e_move o rfl) (congrArg Value.bool hb12)) fun a o=>dg 6 (St.ld u) o rfl (fun w hl=>e_move o rfl) fun a o=>dg 7 (St.ld u) o rfl (fun w hl=>e_nilp o rfl) fun a o=>dg 8 (St.ld u) o rfl (fun w hl=>e_fa o fa171_1 rfl) fun a o=>dg 9 (St.ld u) o rfl (fun w hl=>e_ld o isAgg3 rfl (hl.cellB t0 rfl)) fun a o=>dg 10 (St.ld u) o rfl (fun w hl=>e_move o rfl) fun a o=>dg 11 (St.ld u) o rfl (fun w hl=>e_nilp o rfl) fun a o=>dg 12 (St.ld u) o rfl (fun w hl=>e_fa o fa171_0 rfl) fun a o=>dg 13 (St.ld u) o rfl (fun w hl=>e_ld o isAgg120 rfl (hl.cellB t0 rfl)) fun a o=>dg 14 (St.ld u) o rfl (fun w hl=>e_lenL (α:=api_Token) (xs:=p1.L) o runUnderlying120 rfl) fun a o=>dg 15 (St.ld u) o rfl (fun w hl=>e_lss o rfl rfl) fun a o=>dr 16 u o rfl (e_pickT o rfl rfl) fun a o=>dr 17 u o rfl (e_as (e_move o rfl) (congrArg Value.bool hb13)) fun a o=>dg 18 (St.ld u) o rfl (fun w hl=>e_move o rfl) fun a o=>dg 19 (St.ld u) o rfl (fun w hl=>e_nilp o rfl) fun a o=>dg 20 (St.ld u) o rfl (fun w hl=>e_fa o fa171_0 rfl) fun a o=>dg 21 (St.ld u) o rfl (fun w hl=>e_ld o isAgg120 rfl (hl.cellB t0 rfl)) fun a o=>dg 22 (St.ld u) o rfl (fun w hl=>e_move o rfl) fun a o=>dg 23 (St.ld u) o rfl (fun w hl=>e_nilp o rfl) fun a o=>dg 24 (St.ld u) o rfl (fun w hl=>e_fa o fa171_1 rfl) fun a o=>dg 25 (St.ld u) o rfl (fun w hl=>e_ld o isAgg3 rfl (hl.cellB t0 rfl)) fun a o=>dg 26 (St.ld u) o rfl (fun w hl=>e_iaI o runUnderlying120 sizeOf130 rfl rfl h15 (SR.oaI hr6 (by decide) h15)) fun a o=>dg 27 (St.ld u) o rfl (fun w hl=>e_fa o fa130_0 rfl) fun a o=>dg 28 (St.ld u) o rfl (fun w hl=>e_ld o isAgg3 rfl (PH.le.cell (Lds.le hl) (hl18 0 _ rfl))) fun a o=>dg 29 (St.ld u) o rfl (fun w hl=>e_eql o rfl rfl) fun a o=>?_
 refine dr 30 u o rfl (e_pickT o rfl rfl) fun a o=>dr 31 u o rfl (e_as (e_move o rfl) (congrArg Value.bool hb19)) fun a o=>dg 32 (St.ld u) o rfl (fun w hl=>e_move o rfl) fun a o=>dg 33 (St.ld u) o rfl (fun w hl=>e_nilp o rfl) fun a o=>dg 34 (St.ld u) o rfl (fun w hl=>e_fa o fa171_0 rfl) fun a o=>dg 35 (St.ld u) o rfl (fun w hl=>e_ld o isAgg120 rfl (hl.cellB t0 rfl)) fun a o=>dg 36 (St.ld u) o rfl (fun w hl=>e_move o rfl) fun a o=>dg 37 (St.ld u) o rfl (fun w hl=>e_nilp o rfl) fun a o=>dg 38 (St.ld u) o rfl (fun w hl=>e_fa o fa171_1 rfl) fun a o=>dg 39 (St.ld u) o rfl (fun w hl=>e_ld o isAgg3 rfl (hl.cellB t0 rfl)) fun a o=>dg 40 (St.ld u) o rfl (fun w hl=>e_iaI o runUnderlying120 sizeOf130 rfl rfl h15 (SR.oaI hr6 (by decide) h15)) fun a o=>dg 41 (St.ld u) o rfl (fun w hl=>e_fa o fa130_1 rfl) fun a o=>dg 42 (St.ld u) o rfl (fun w hl=>e_ld o isAgg9 rfl (PH.le.cell (Lds.le hl) (hl18 1 _ rfl))) fun a o=>da1 (i:=43) (by kernel_rfl) ?_
 refine di (i:=43) rfl<|gy o rfl rfl<|cq o call114 (Z1m_c (hp_le _) h21) ⟨rfl,trivial⟩ u fun w a u o=>⟨fun _=>(St.ld u),?_⟩
 refine dr 44 u o rfl (e_pickT o rfl rfl) fun a o=>de (by kernel_rfl)<|tn<|?_
 replace u:=u.pk [1,0] rfl
 exact ⟨r20,hm,o.has ⟨rfl,rfl,trivial⟩,u⟩
 replace hm:=itp_f hm hb19
 refine rxS 45 u wide (by kernel_rfl) fun w u=>xm u o rfl fun a o=>xr u o (e_nilp o rfl) fun a o=>xr u o (e_fa o fa171_2 rfl) fun a o=>xq (St.ld u) o (fun w hl=>e_ld o isAgg29 rfl (hl.cellB t0 rfl)) fun a o=>xr u o (e_eql o rfl rfl) fun a o=>xr u o (e_as (e_move o rfl) (congrArg Value.bool hb12)) fun a o=>xg (St.ld u) o (fun w hl=>e_move o rfl) fun a o=>xg (St.ld u) o (fun w hl=>e_nilp o rfl) fun a o=>xg (St.ld u) o (fun w hl=>e_fa o fa171_1 rfl) fun a o=>xg (St.ld u) o (fun w hl=>e_ld o isAgg3 rfl (hl.cellB t0 rfl)) fun a o=>xg (St.ld u) o (fun w hl=>e_move o rfl) fun a o=>xg (St.ld u) o (fun w hl=>e_nilp o rfl) fun a o=>xg (St.ld u) o (fun w hl=>e_fa o fa171_0 rfl) fun a o=>xg (St.ld u) o (fun w hl=>e_ld o isAgg120 rfl (hl.cellB t0 rfl)) fun a o=>xg (St.ld u) o (fun w hl=>e_lenL (α:=api_Token) (xs:=p1.L) o runUnderlying120 rfl) fun a o=>xg (St.ld u) o (fun w hl=>e_lss o rfl rfl) fun a o=>xr u o (e_pickT o rfl rfl) fun a o=>xr u o (e_as (e_move o rfl) (congrArg Value.bool hb13)) fun a o=>xg (St.ld u) o (fun w hl=>e_move o rfl) fun a o=>xg (St.ld u) o (fun w hl=>e_nilp o rfl) fun a o=>xg (St.ld u) o (fun w hl=>e_fa o fa171_0 rfl) fun a o=>xg (St.ld u) o (fun w hl=>e_ld o isAgg120 rfl (hl.cellB t0 rfl)) fun a o=>xg (St.ld u) o (fun w hl=>e_move o rfl) fun a o=>xg (St.ld u) o (fun w hl=>e_nilp o rfl) fun a o=>xg (St.ld u) o (fun w hl=>e_fa o fa171_1 rfl) fun a o=>xg (St.ld u) o (fun w hl=>e_ld o isAgg3 rfl (hl.cellB t0 rfl)) fun a o=>xg (St.ld u) o (fun w hl=>e_iaI o runUnderlying120 sizeOf130 rfl rfl h15 (SR.oaI hr6 (by decide) h15)) fun a o=>xg (St.ld u) o (fun w hl=>e_fa o fa130_0 rfl) fun a o=>xg (St.ld u) o (fun w hl=>e_ld o isAgg3 rfl (PH.le.cell (Lds.le hl) (hl18 0 _ rfl))) fun a o=>xg (St.ld u) o (fun w hl=>e_eql o rfl rfl) fun a o=>?_
 refine xr u o (e_pickT o rfl rfl) fun a o=>xr u o (e_as (e_move o rfl) (congrArg Value.bool hb19)) fun a o=>?_
 iterate 12 refine xn (St.ld u) o fun a o=>?_
 refine xr u o (e_pickF o rfl rfl) fun a o=>xe<|tn<|?_
 replace u:=u.pk [1,0] rfl
 exact ⟨false,hm,o.has ⟨rfl,rfl,trivial⟩,u⟩
 replace hm:=itp_f hm hb13
 refine rxS 45 u wide (by kernel_rfl) fun w u=>xm u o rfl fun a o=>xr u o (e_nilp o rfl) fun a o=>xr u o (e_fa o fa171_2 rfl) fun a o=>xq (St.ld u) o (fun w hl=>e_ld o isAgg29 rfl (hl.cellB t0 rfl)) fun a o=>xr u o (e_eql o rfl rfl) fun a o=>xr u o (e_as (e_move o rfl) (congrArg Value.bool hb12)) fun a o=>xg (St.ld u) o (fun w hl=>e_move o rfl) fun a o=>xg (St.ld u) o (fun w hl=>e_nilp o rfl) fun a o=>xg (St.ld u) o (fun w hl=>e_fa o fa171_1 rfl) fun a o=>xg (St.ld u) o (fun w hl=>e_ld o isAgg3 rfl (hl.cellB t0 rfl)) fun a o=>xg (St.ld u) o (fun w hl=>e_move o rfl) fun a o=>xg (St.ld u) o (fun w hl=>e_nilp o rfl) fun a o=>xg (St.ld u) o (fun w hl=>e_fa o fa171_0 rfl) fun a o=>xg (St.ld u) o (fun w hl=>e_ld o isAgg120 rfl (hl.cellB t0 rfl)) fun a o=>xg (St.ld u) o (fun w hl=>e_lenL (α:=api_Token) (xs:=p1.L) o runUnderlying120 rfl) fun a o=>xg (St.ld u) o (fun w hl=>e_lss o rfl rfl) fun a o=>xr u o (e_pickT o rfl rfl) fun a o=>xr u o (e_as (e_move o rfl) (congrArg Value.bool hb13)) fun a o=>?_
 iterate 12 refine xn (St.ld u) o fun a o=>?_
 refine xr u o (e_pickF o rfl rfl) fun a o=>xm u o rfl fun a o=>?_
 iterate 12 refine xn (St.ld u) o fun a o=>?_
 refine xr u o (e_pickF o rfl rfl) fun a o=>xe<|tn<|?_
 replace u:=u.pk [1,0] rfl
 exact ⟨false,hm,o.has ⟨rfl,rfl,trivial⟩,u⟩
 replace hm:=itp_f hm hb12
 refine rxS 45 u wide (by kernel_rfl) fun w u=>xm u o rfl fun a o=>xr u o (e_nilp o rfl) fun a o=>xr u o (e_fa o fa171_2 rfl) fun a o=>xq (St.ld u) o (fun w hl=>e_ld o isAgg29 rfl (hl.cellB t0 rfl)) fun a o=>xr u o (e_eql o rfl rfl) fun a o=>xr u o (e_as (e_move o rfl) (congrArg Value.bool hb12)) fun a o=>?_
 iterate 10 refine xn (St.ld u) o fun a o=>?_
 refine xr u o (e_pickF o rfl rfl) fun a o=>xm u o rfl fun a o=>?_
 iterate 12 refine xn (St.ld u) o fun a o=>?_
 refine xr u o (e_pickF o rfl rfl) fun a o=>xm u o rfl fun a o=>?_
 iterate 12 refine xn (St.ld u) o fun a o=>?_
 refine xr u o (e_pickF o rfl rfl) fun a o=>xe<|tn<|?_
 replace u:=u.pk [1,0] rfl
 exact ⟨false,hm,o.has ⟨rfl,rfl,trivial⟩,u⟩
 rintro a w ⟨vA1,hm,o,u⟩
 unfold Z3l at hm
 rcases bdich vA1 with hb22 | hb22
 replace hm:=ite_t hm hb22
 refine ctv o rfl hb22<|th<|rg<|qm o rfl fun a o=>qm o rfl fun a o=>qv o (e_nilp o rfl) fun a o=>qv o (e_fa o fa171_1 rfl) fun a o=>qv o (e_ld o isAgg3 rfl ((St.ld u).cellB t1 rfl)) fun a o=>qv o (e_add o rfl rfl) fun a o=>qv o (e_nilp o rfl) fun a o=>qv o (e_fa o fa171_1 rfl) fun a o=>ls<|s_blk o u sizeOf3 rfl rfl rfl rfl (.tail .head) (.succ .zero) fun w u=>re<|tn<|th<|?_
 obtain ⟨x23,h24,hm⟩:=bs hm
 obtain ⟨c25,g26,hl27⟩:=SR.get hr6 h24
 obtain rfl:=api_Token_open g26
 refine rxS 13 u wide (by kernel_rfl) fun w u=>xm u o rfl fun a o=>xr u o (e_nilp o rfl) fun a o=>xr u o (e_fa o fa171_0 rfl) fun a o=>xq (St.ld u) o (fun w hl=>e_ld o isAgg120 rfl (hl.cellB t1 rfl)) fun a o=>xm u o rfl fun a o=>xr u o (e_nilp o rfl) fun a o=>xr u o (e_fa o fa171_1 rfl) fun a o=>xq (St.ld u) o (fun w hl=>e_ld o isAgg3 rfl (hl.cellB t1 rfl)) fun a o=>xr u o (e_sub o rfl rfl) fun a o=>xr u o (e_iaI o runUnderlying120 sizeOf130 rfl rfl h24 (SR.oaI hr6 (by decide) h24)) fun a o=>xr u o (e_fa o fa130_1 rfl) fun a o=>xq (St.ld u) o (fun w hl=>e_ld o isAgg9 rfl (PH.le.cell (Lds.le hl) (hl27 1 _ rfl))) fun a o=>xr u o (e_asg o rfl) fun a o=>xe<|tn<|wr<|tr<|?_
 obtain rfl:=si hm
 exact r1 o results175 rfl ⟨H,oa3,cap4,oa7,cap8,vs9,rfl,hc5,hr6,hv10,(ExtM.refl _ _ _),(St.le u),(St.disL (u.pickL (.cons (.tail .head) (.cons .head .nil)))),(u.pickL (.cons (.tail .head) (.cons .head .nil))).endMut⟩
 replace hm:=ite_f hm hb22
 refine cfv o rfl hb22<|wk<|tn<|th<|?_
 obtain ⟨r28,h29,hm⟩:=bs hm
 refine rg<|qm o rfl fun a o=>?_
 replace u:=u.pk [1,0] rfl
 replace u:=St.sep [blk b2 (.cells [.slice oa3 p1.L.length cap4,i6 p1.At,i6 p1.E,i6 p1.Pos,.slice oa7 p1.Out.length cap8].toArray 171 (0,0)),sla 51 9 oa7 p1.Out.length cap8 vs9] u
 refine ls<|c1 o rfl call167 (Z39_c (St.le u) (p1:=(leadlineref04_P.mk p1.L p1.At p1.E p1.Pos p1.Out)) (b2:=b2) (oa3:=oa3) (cap4:=cap4) (oa7:=oa7) (cap8:=cap8) (vs9:=vs9) hc5 hr6 hv10 (St.sepOk u) (St.sepDis u) h29) ⟨rfl,rfl,trivial⟩ (fun v w a hR o=>?_)
 obtain ⟨H33,oa34,cap35,oa38,cap39,vs40,rfl,hc36,hr37,hv41,hx30,hl31,hd32,hk⟩:=hR
 obtain ⟨u,hx30⟩:=And.intro (St.mutH u hk hx30 hl31 hd32) (St.extcMM u hx30)
 replace u:=u.unsep
 refine re<|tn<|th<|rg<|qa o rfl fun a o=>re<|tn<|wr<|?_
 obtain rfl:=si hm
 exact r1 o results175 rfl ⟨H33,oa34,cap35,oa38,cap39,vs40,rfl,hc36,hr37,hv41,hx30,(St.le u),(St.disL (u.pickL (.cons .head (.cons .head .nil)))),(u.pickL (.cons .head (.cons .head .nil))).endMut⟩
theorem Z3i_c (hH:H.le w0) {b2:Nat} {p1:leadlineref04_P} {oa3:Option Addr} {cap4:Nat} (hc5:p1.L.length≤cap4) (hr6:SR H oa3 p1.L) {oa7:Option Addr} {cap8:Nat} {vs9:List Value} (hv10:Rows H vs9 p1.Out) {p12:Str} (hO:(sepA [blk b2 (.cells [.slice oa3 p1.L.length cap4,i6 p1.At,i6 p1.E,i6 p1.Pos,.slice oa7 p1.Out.length cap8].toArray 171 (0,0)),sla 51 9 oa7 p1.Out.length cap8 vs9]).ok (hp w0)) (hD:∀ b,(sepA [blk b2 (.cells [.slice oa3 p1.L.length cap4,i6 p1.At,i6 p1.E,i6 p1.Pos,.slice oa7 p1.Out.length cap8].toArray 171 (0,0)),sla 51 9 oa7 p1.Out.length cap8 vs9]).fp b→H b=none) {r:leadlineref04_P} (hm:Z3i N p1 p12=some r):Tot Tryz.prog 161 #[.pointer (some ⟨b2,0,none⟩),strv p12] w0 (fun v w'=>∃ (H':PH) (oa1m:Option Addr) (cap1m:Nat) (oa2m:Option Addr) (cap2m:Nat) (vs2m:List Value),v=.tuple #[]∧r.L.length≤cap1m∧SR H' oa1m r.L∧Rows H' vs2m r.Out∧ExtM w0 (sepA [blk b2 (.cells [.slice oa3 p1.L.length cap4,i6 p1.At,i6 p1.E,i6 p1.Pos,.slice oa7 p1.Out.length cap8].toArray 171 (0,0)),sla 51 9 oa7 p1.Out.length cap8 vs9]).fp H H'∧H'.le w'∧(∀ b,(sepA [blk b2 (.cells [.slice oa1m r.L.length cap1m,i6 r.At,i6 r.E,i6 r.Pos,.slice oa2m r.Out.length cap2m].toArray 171 (0,0)),sla 51 9 oa2m r.Out.length cap2m vs2m]).fp b→H' b=none)∧Mut w0 (sepA [blk b2 (.cells [.slice oa3 p1.L.length cap4,i6 p1.At,i6 p1.E,i6 p1.Pos,.slice oa7 p1.Out.length cap8].toArray 171 (0,0)),sla 51 9 oa7 p1.Out.length cap8 vs9]) (sepA [blk b2 (.cells [.slice oa1m r.L.length cap1m,i6 r.At,i6 r.E,i6 r.Pos,.slice oa2m r.Out.length cap2m].toArray 171 (0,0)),sla 51 9 oa2m r.Out.length cap2m vs2m]) w'):=by
 unfold Z3i at hm
 refine fn0 func161 rfl ntmps161 rfl rfl fun a o=>?_
 have u:=startM hH hO hD
 refine th<|midK (fun a w=>∃ (vA1:Bool),(Z3j N p1) vA1=some r∧Fr 31 [(0,.pointer (some ⟨b2,0,none⟩)),(20,.bool vA1)] a∧St w0 (sepA [blk b2 (.cells [.slice oa3 p1.L.length cap4,i6 p1.At,i6 p1.E,i6 p1.Pos,.slice oa7 p1.Out.length cap8].toArray 171 (0,0)),sla 51 9 oa7 p1.Out.length cap8 vs9]).fp [H] [sla 51 9 oa7 p1.Out.length cap8 vs9,blk b2 (.cells [.slice oa3 p1.L.length cap4,i6 p1.At,i6 p1.E,i6 p1.Pos,.slice oa7 p1.Out.length cap8].toArray 171 (0,0))] w) ?_ ?_
 rcases bdich (decide (p1.E=0)) with hb13 | hb13
 replace hm:=itp_t hm hb13
 obtain ⟨r14,h15,hm⟩:=bs hm
 refine rdS 17 u wide fun w u=>dr 0 u o rfl (e_move o rfl) fun a o=>dr 1 u o rfl (e_nilp o rfl) fun a o=>dr 2 u o rfl (e_fa o fa171_2 rfl) fun a o=>dq 3 (St.ld u) o rfl (fun w hl=>e_ld o isAgg29 rfl (hl.cellB t0 rfl)) fun a o=>dr 4 u o rfl (e_eql o rfl rfl) fun a o=>dr 5 u o rfl (e_as (e_move o rfl) (congrArg Value.bool hb13)) fun a o=>dg 6 (St.ld u) o rfl (fun w hl=>e_move o rfl) fun a o=>dg 7 (St.ld u) o rfl (fun w hl=>e_nilp o rfl) fun a o=>dg 8 (St.ld u) o rfl (fun w hl=>e_fa o fa171_0 rfl) fun a o=>dg 9 (St.ld u) o rfl (fun w hl=>e_ld o isAgg120 rfl (hl.cellB t0 rfl)) fun a o=>dg 10 (St.ld u) o rfl (fun w hl=>e_move o rfl) fun a o=>dg 11 (St.ld u) o rfl (fun w hl=>e_nilp o rfl) fun a o=>dg 12 (St.ld u) o rfl (fun w hl=>e_fa o fa171_1 rfl) fun a o=>dg 13 (St.ld u) o rfl (fun w hl=>e_ld o isAgg3 rfl (hl.cellB t0 rfl)) fun a o=>dg 14 (St.ld u) o rfl (fun w hl=>e_move o rfl) fun a o=>da1 (i:=15) (by kernel_rfl) ?_
 refine di (i:=15) rfl<|gy o rfl rfl<|cq o call139 (Z1i_c (hp_le _) hc5 (St.srH u hr6) h15) ⟨rfl,rfl,rfl,trivial⟩ u fun w a u o=>⟨fun _=>(St.ld u),?_⟩
 refine dr 16 u o rfl (e_pickT o rfl rfl) fun a o=>de (by kernel_rfl)<|tn<|?_
 replace u:=u.pk [1,0] rfl
 exact ⟨r14,hm,o.has ⟨rfl,rfl,trivial⟩,u⟩
 replace hm:=itp_f hm hb13
 refine rxS 17 u wide (by kernel_rfl) fun w u=>xm u o rfl fun a o=>xr u o (e_nilp o rfl) fun a o=>xr u o (e_fa o fa171_2 rfl) fun a o=>xq (St.ld u) o (fun w hl=>e_ld o isAgg29 rfl (hl.cellB t0 rfl)) fun a o=>xr u o (e_eql o rfl rfl) fun a o=>xr u o (e_as (e_move o rfl) (congrArg Value.bool hb13)) fun a o=>?_
 iterate 10 refine xn (St.ld u) o fun a o=>?_
 refine xr u o (e_pickF o rfl rfl) fun a o=>xe<|tn<|?_
 replace u:=u.pk [1,0] rfl
 exact ⟨false,hm,o.has ⟨rfl,rfl,trivial⟩,u⟩
 rintro a w ⟨vA1,hm,o,u⟩
 unfold Z3j at hm
 rcases bdich vA1 with hb16 | hb16
 replace hm:=ite_t hm hb16
 refine ctv o rfl hb16<|rg<|qm o rfl fun a o=>qm o rfl fun a o=>qv o (e_nilp o rfl) fun a o=>qv o (e_fa o fa171_1 rfl) fun a o=>qv o (e_ld o isAgg3 rfl ((St.ld u).cellB t1 rfl)) fun a o=>qv o (e_add o rfl rfl) fun a o=>qv o (e_nilp o rfl) fun a o=>qv o (e_fa o fa171_1 rfl) fun a o=>ls<|s_blk o u sizeOf3 rfl rfl rfl rfl (.tail .head) (.succ .zero) fun w u=>re<|?_
 obtain rfl:=si hm
 exact r0n o results161 ⟨H,oa3,cap4,oa7,cap8,vs9,rfl,hc5,hr6,hv10,(ExtM.refl _ _ _),(St.le u),(St.disL (u.pickL (.cons (.tail .head) (.cons .head .nil)))),(u.pickL (.cons (.tail .head) (.cons .head .nil))).endMut⟩
 replace hm:=ite_f hm hb16
 refine cfv o rfl hb16<|?_
 obtain ⟨r17,h18,hm⟩:=bs hm
 refine rg<|qm o rfl fun a o=>?_
 replace u:=u.pk [1,0] rfl
 replace u:=St.sep [blk b2 (.cells [.slice oa3 p1.L.length cap4,i6 p1.At,i6 p1.E,i6 p1.Pos,.slice oa7 p1.Out.length cap8].toArray 171 (0,0)),sla 51 9 oa7 p1.Out.length cap8 vs9] u
 refine ls<|c1 o rfl call167 (Z39_c (St.le u) (p1:=(leadlineref04_P.mk p1.L p1.At p1.E p1.Pos p1.Out)) (b2:=b2) (oa3:=oa3) (cap4:=cap4) (oa7:=oa7) (cap8:=cap8) (vs9:=vs9) hc5 hr6 hv10 (St.sepOk u) (St.sepDis u) h18) ⟨rfl,rfl,trivial⟩ (fun v w a hR o=>?_)
 obtain ⟨H22,oa23,cap24,oa27,cap28,vs29,rfl,hc25,hr26,hv30,hx19,hl20,hd21,hk⟩:=hR
 obtain ⟨u,hx19⟩:=And.intro (St.mutH u hk hx19 hl20 hd21) (St.extcMM u hx19)
 replace u:=u.unsep
 refine re<|?_
 obtain rfl:=si hm
 exact r0n o results161 ⟨H22,oa23,cap24,oa27,cap28,vs29,rfl,hc25,hr26,hv30,hx19,(St.le u),(St.disL (u.pickL (.cons .head (.cons .head .nil)))),(u.pickL (.cons .head (.cons .head .nil))).endMut⟩
theorem Z2x_c (hH:H.le w0) {oa2:Option Addr} {cap3:Nat} {p1:(List api_Token)} (hc4:p1.length≤cap3) (hr5:SR H oa2 p1) {p6:Int} {p7:Int} {r:leadlineref03_Read} (hm:Z2x N p1 p6 p7=some r):Tot Tryz.prog 178 #[.slice oa2 p1.length cap3,i6 p6,i6 p7] w0 (fun v w'=>∃ (H':PH) (cs0:List Value),v=.agg cs0.toArray∧Enc.rep H' cs0 r∧Ext w0 H H'∧H'.le w'∧Keep Nil w0 w'):=by
 unfold Z2x at hm
 refine fn0 func178 rfl ntmps178 rfl rfl fun a o=>?_
 have u:St w0 Nil [H] [] w0:=start1 hH
 refine th<|rg<|ls<|a_alloc (cs:=[.slice none 0 0,i6 0,i6 0,i6 0].toArray) o rfl u Tryz.zeroValue174 rfl fun b8 w a u o=>re<|tn<|th<|th<|rg<|qm o rfl fun a o=>qm o rfl fun a o=>qv o (e_lenL (α:=api_Token) (xs:=p1) o runUnderlying120 rfl) fun a o=>qv o (e_geq o rfl rfl) fun a o=>re<|tn<|midK (fun a w=>∃ (vA1:Int),(Z2y N p1 p6) vA1=some r∧Fr 16 [(0,.slice oa2 p1.length cap3),(1,i6 p6),(2,i6 vA1),(6,.pointer (some ⟨b8,0,none⟩))] a∧St w0 Nil [H] [blk b8 (.cells [.slice none 0 0,i6 0,i6 0,i6 0].toArray 174 (0,0))] w) ?_ ?_
 rcases bdich (decide ((p1.length:Int)≤p6)) with hb9 | hb9
 replace hm:=itp_t hm hb9
 refine ctv o rfl hb9<|rg<|qa o rfl fun a o=>re<|tn<|?_
 exact ⟨6,hm,o.hs,u⟩
 replace hm:=itp_f hm hb9
 refine cfv o rfl hb9<|wk<|tn<|?_
 exact ⟨p7,hm,o.hs,u⟩
 rintro a w ⟨vA1,hm,o,u⟩
 unfold Z2y at hm
 refine th<|?_
 obtain ⟨r10,h11,hm⟩:=bs hm
 refine rg<|qm o rfl fun a o=>?_
 iterate 2 refine qm o rfl fun a o=>?_
 refine ls<|cq o call143 (Z1r_c (hp_le _) hc4 (St.srH u hr5) h11) ⟨rfl,rfl,trivial⟩ u fun w a u o=>qv o (e_bldK [i6 vA1,i6 r10] [.slice none 0 0,i6 0,i6 vA1,i6 r10] o ⟨rfl,rfl,trivial⟩ (fun w=>by kernel_rfl)) fun a o=>ls<|s_blkA o u sizeOf174 rfl rfl rfl rfl (one_cells rfl) .head fun w u=>re<|tn<|wr<|?_
 obtain rfl:=si hm
 exact r1c (vs:=[.slice none 0 0,i6 0,i6 vA1,i6 r10]) (.inl rfl) o results178 rfl isAgg174 sizeOf174 rfl ((St.ld u).cellsB t0) ⟨H,_,rfl,(show Enc.rep (α:=leadlineref03_Read) H [.slice none 0 0,i6 0,i6 vA1,i6 r10] (leadlineref03_Read.mk [] 0 vA1 r10) from ⟨_,_,rfl,⟨none,0,rfl,Nat.le_refl _,SR.nil _ _⟩,⟨_,_,rfl,rfl,⟨_,_,rfl,rfl,rfl⟩⟩⟩),(Ext.refl _ _),(St.le u),u.keep⟩
theorem Z32_c (hH:H.le w0) {p1:Int} {r:(List Int)} (hm:Z32 N p1=some r):Tot Tryz.prog 171 #[i6 p1] w0 (fun v w'=>∃ (H':PH) (oa0:Option Addr) (cap0:Nat),v=.slice oa0 r.length cap0∧r.length≤cap0∧SR H' oa0 r∧Ext w0 H H'∧H'.le w'∧Keep Nil w0 w'):=by
 unfold Z32 at hm
 refine fn0 func171 rfl ntmps171 rfl rfl fun a o=>?_
 have u:St w0 Nil [H] [] w0:=start1 hH
 refine th<|rg<|qa o rfl fun a o=>re<|tn<|th<|?_
 obtain ⟨x40,h41,hm⟩:=bs hm
 refine rg<|ls<|a_bsl (e:=3) (sz:=1) [i6 15] o rfl u rfl rfl rfl (fun w=>by kernel_rfl) fun b3 w a u o=>?_
 have hv2:Rows (α:=Int) H [i6 15] ([15]:List Int):=(.cons (c:=[i6 15]) rfl .nil)
 refine ls<|a_bsl (e:=3) (sz:=1) [i6 14] o rfl u rfl rfl rfl (fun w=>by kernel_rfl) fun b6 w a u o=>?_
 have hv5:Rows (α:=Int) H [i6 14] ([14]:List Int):=(.cons (c:=[i6 14]) rfl .nil)
 refine ls<|a_bsl (e:=3) (sz:=1) [i6 10,i6 11,i6 12,i6 13] o rfl u rfl rfl rfl (fun w=>by kernel_rfl) fun b9 w a u o=>?_
 have hv8:Rows (α:=Int) H [i6 10,i6 11,i6 12,i6 13] ([10,11,12,13]:List Int):=(.cons (c:=[i6 10]) rfl (.cons (c:=[i6 11]) rfl (.cons (c:=[i6 12]) rfl (.cons (c:=[i6 13]) rfl .nil))))
 refine ls<|a_bsl (e:=3) (sz:=1) [i6 5,i6 6] o rfl u rfl rfl rfl (fun w=>by kernel_rfl) fun b12 w a u o=>?_
 have hv11:Rows (α:=Int) H [i6 5,i6 6] ([5,6]:List Int):=(.cons (c:=[i6 5]) rfl (.cons (c:=[i6 6]) rfl .nil))
 refine ls<|a_bsl (e:=3) (sz:=1) [i6 7,i6 8,i6 9] o rfl u rfl rfl rfl (fun w=>by kernel_rfl) fun b15 w a u o=>?_
 have hv14:Rows (α:=Int) H [i6 7,i6 8,i6 9] ([7,8,9]:List Int):=(.cons (c:=[i6 7]) rfl (.cons (c:=[i6 8]) rfl (.cons (c:=[i6 9]) rfl .nil)))
 obtain ⟨H20,hx17,hr18,hc19,u⟩:=St.frzS u (.tail (.tail (.tail (.tail .head)))) hv2
 obtain ⟨H24,hx21,hr22,hc23,u⟩:=St.frzS u (.tail (.tail (.tail .head))) (hv5.mono hx17.sub)
 obtain ⟨H28,hx25,hr26,hc27,u⟩:=St.frzS u (.tail (.tail .head)) (hv8.mono (cp hx21.sub hx17.sub))
 obtain ⟨H32,hx29,hr30,hc31,u⟩:=St.frzS u (.tail .head) (hv11.mono (cp (cp hx25.sub hx21.sub) hx17.sub))
 obtain ⟨H36,hx33,hr34,hc35,u⟩:=St.frzS u .head (hv14.mono (cp (cp (cp hx29.sub hx25.sub) hx21.sub) hx17.sub))
 refine ls<|a_bsl (e:=42) (sz:=1) [.slice (some ⟨b3,0,none⟩) ([15]:List Int).length 1,.slice (some ⟨b6,0,none⟩) ([14]:List Int).length 1,.slice (some ⟨b9,0,none⟩) ([10,11,12,13]:List Int).length 4,.slice (some ⟨b12,0,none⟩) ([5,6]:List Int).length 2,.slice (some ⟨b15,0,none⟩) ([7,8,9]:List Int).length 3] o rfl u rfl rfl rfl (fun w=>by kernel_rfl) fun b38 w a u o=>?_
 have hv37:Rows (α:=(List Int)) H36 [.slice (some ⟨b3,0,none⟩) ([15]:List Int).length 1,.slice (some ⟨b6,0,none⟩) ([14]:List Int).length 1,.slice (some ⟨b9,0,none⟩) ([10,11,12,13]:List Int).length 4,.slice (some ⟨b12,0,none⟩) ([5,6]:List Int).length 2,.slice (some ⟨b15,0,none⟩) ([7,8,9]:List Int).length 3] ([([15]:List Int),([14]:List Int),([10,11,12,13]:List Int),([5,6]:List Int),([7,8,9]:List Int)]:List (List Int)):=(.cons (c:=[.slice (some ⟨b3,0,none⟩) ([15]:List Int).length 1]) ⟨_,_,rfl,hc19,(hr18.mono (cp (cp (cp hx33.sub hx29.sub) hx25.sub) hx21.sub))⟩ (.cons (c:=[.slice (some ⟨b6,0,none⟩) ([14]:List Int).length 1]) ⟨_,_,rfl,hc23,(hr22.mono (cp (cp hx33.sub hx29.sub) hx25.sub))⟩ (.cons (c:=[.slice (some ⟨b9,0,none⟩) ([10,11,12,13]:List Int).length 4]) ⟨_,_,rfl,hc27,(hr26.mono (cp hx33.sub hx29.sub))⟩ (.cons (c:=[.slice (some ⟨b12,0,none⟩) ([5,6]:List Int).length 2]) ⟨_,_,rfl,hc31,(hr30.mono hx33.sub)⟩ (.cons (c:=[.slice (some ⟨b15,0,none⟩) ([7,8,9]:List Int).length 3]) ⟨_,_,rfl,hc35,hr34⟩ .nil)))))
 refine qm o rfl fun a o=>qv o (e_iaI o runUnderlying190 sizeOf42 rfl rfl h41 (Rd.oaI ((St.ld u).rdO t0) hv37 (by decide) h41)) fun a o=>?_
 obtain ⟨c42,g43,hl44⟩:=Rows.getI hv37 h41
 obtain ⟨oa45,cap46,rfl,hc47,hr48⟩:=g43
 refine qv o (e_ld o isAgg42 rfl ((St.ld u).elO t0 (hl44 0 _ rfl))) fun a o=>qa o rfl fun a o=>re<|tn<|wr<|?_
 obtain rfl:=si hm
 exact r1 o results171 rfl ⟨H36,_,_,rfl,hc47,hr48,(Ext.trans hx17 (Ext.trans hx21 (Ext.trans hx25 (Ext.trans hx29 hx33)))),(St.le u),u.keep⟩
theorem Z37_c (hH:H.le w0) {p1:Int} {r:Str} (hm:Z37 N p1=some r):Tot Tryz.prog 172 #[i6 p1] w0 (fun v w'=>v=strv r∧Keep Nil w0 w'):=by
 unfold Z37 at hm
 refine fn0 func172 rfl ntmps172 rfl rfl fun a o=>?_
 have u:St w0 Nil [H] [] w0:=start1 hH
 refine th<|rg<|qa o rfl fun a o=>re<|tn<|th<|?_
 obtain ⟨xz5,h6,hm⟩:=bs hm
 refine rg<|ls<|a_bsl (e:=9) (sz:=1) [strv [],strv [],strv [],strv [45],strv [33],strv [43],strv [45],strv [42],strv [47],strv [37],strv [61,61],strv [33,61],strv [60],strv [60,61],strv [38,38],strv [124,124]] o rfl u rfl rfl rfl (fun w=>by kernel_rfl) fun b3 w a u o=>?_
 have hv2:Rows (α:=Str) H [strv [],strv [],strv [],strv [45],strv [33],strv [43],strv [45],strv [42],strv [47],strv [37],strv [61,61],strv [33,61],strv [60],strv [60,61],strv [38,38],strv [124,124]] ([[],[],[],[45],[33],[43],[45],[42],[47],[37],[61,61],[33,61],[60],[60,61],[38,38],[124,124]]:List Str):=(.cons (c:=[strv []]) rfl (.cons (c:=[strv []]) rfl (.cons (c:=[strv []]) rfl (.cons (c:=[strv [45]]) rfl (.cons (c:=[strv [33]]) rfl (.cons (c:=[strv [43]]) rfl (.cons (c:=[strv [45]]) rfl (.cons (c:=[strv [42]]) rfl (.cons (c:=[strv [47]]) rfl (.cons (c:=[strv [37]]) rfl (.cons (c:=[strv [61,61]]) rfl (.cons (c:=[strv [33,61]]) rfl (.cons (c:=[strv [60]]) rfl (.cons (c:=[strv [60,61]]) rfl (.cons (c:=[strv [38,38]]) rfl (.cons (c:=[strv [124,124]]) rfl .nil))))))))))))))))
 refine qm o rfl fun a o=>qv o (e_iaI o runUnderlying36 sizeOf9 rfl rfl h6 (Rd.oaI ((St.ld u).rdO t0) hv2 (by decide) h6)) fun a o=>?_
 obtain ⟨cz7,g8,hl9⟩:=Rows.getI hv2 h6
 obtain rfl:cz7=[strv xz5]:=g8
 refine qv o (e_ld o isAgg9 rfl ((St.ld u).elO t0 (hl9 0 _ rfl))) fun a o=>qa o rfl fun a o=>re<|tn<|wr<|?_
 obtain rfl:=si hm
 exact r1 o results172 rfl ⟨rfl,u.keep⟩
set_option maxHeartbeats 4000000 in
theorem Z2k_g:∀ (N:Nat),(∀ {w0:World} {H:PH} (_:H.le w0) {oa2:Option Addr} {cap3:Nat} {p1:(List api_Token)} (_:p1.length≤cap3) (_:SR H oa2 p1) {p6:Int} {p7:Int} {r:leadlineref03_Read} (_:Z33 N p1 p6 p7=some r),Tot Tryz.prog 170 #[.slice oa2 p1.length cap3,i6 p6,i6 p7] w0 (fun v w'=>∃ (H':PH) (cs0:List Value),v=.agg cs0.toArray∧Enc.rep H' cs0 r∧Ext w0 H H'∧H'.le w'∧Keep Nil w0 w'))∧(∀ {w0:World} {H:PH} (_:H.le w0) {oa2:Option Addr} {cap3:Nat} {p1:(List api_Token)} (_:p1.length≤cap3) (_:SR H oa2 p1) {p6:Int} {p7:Int} {p8:Int} {r:leadlineref03_Read} (_:Z2k N p1 p6 p7 p8=some r),Tot Tryz.prog 162 #[.slice oa2 p1.length cap3,i6 p6,i6 p7,i6 p8] w0 (fun v w'=>∃ (H':PH) (cs0:List Value),v=.agg cs0.toArray∧Enc.rep H' cs0 r∧Ext w0 H H'∧H'.le w'∧Keep Nil w0 w')):=by
 intro N
 induction N with
  | zero=>exact ⟨(by intros;rename_i hm;simp [Z33] at hm),(by intros;rename_i hm;simp [Z2k] at hm)⟩
  | succ N ih=>
 obtain ⟨ih_Z33,ih_Z2k⟩:=ih
 refine ⟨?_,?_⟩
 intro w0 H hH oa2 cap3 p1 hc4 hr5 p6 p7 r hm
 rw [Z33] at hm
 refine fn0 func170 rfl ntmps170 rfl rfl fun a o=>?_
 have u:St w0 Nil [H] [] w0:=start1 hH
 refine th<|rg<|ls<|a_alloc (cs:=[.slice none 0 0,i6 0,i6 0,i6 0].toArray) o rfl u Tryz.zeroValue174 rfl fun b8 w a u o=>re<|tn<|th<|th<|rg<|qm o rfl fun a o=>qm o rfl fun a o=>qv o (e_lenL (α:=api_Token) (xs:=p1) o runUnderlying120 rfl) fun a o=>qv o (e_geq o rfl rfl) fun a o=>re<|?_
 rcases bdich (decide ((p1.length:Int)≤p6)) with hb9 | hb9
 replace hm:=itp_t hm hb9
 refine tn<|ctv o rfl hb9<|th<|?_
 obtain ⟨r10,h11,hm⟩:=bs hm
 refine rg<|qm o rfl fun a o=>qm o rfl fun a o=>ls<|c1 o rfl call178 (Z2x_c (St.le u) hc4 hr5 h11) ⟨rfl,rfl,rfl,trivial⟩ (fun v w a hR o=>?_)
 obtain ⟨H15,cs16,rfl,g17,hx12,hl13,hk⟩:=hR
 obtain ⟨u,hx12⟩:=And.intro (St.passH u hk hx12 hl13) (St.extc u hx12)
 obtain ⟨oa18,cap19,rfl,hc20,hr21⟩:=leadlineref03_Read_open g17
 refine ls<|s_blkA o u sizeOf174 rfl rfl rfl rfl (one_cells rfl) .head fun w u=>re<|tn<|wr<|tr<|?_
 obtain rfl:=si hm
 exact r1c (vs:=[.slice oa18 r10.L.length cap19,i6 r10.To,i6 r10.E,i6 r10.At]) (.inl rfl) o results170 rfl isAgg174 sizeOf174 rfl ((St.ld u).cellsB t0) ⟨H15,_,rfl,(show Enc.rep (α:=leadlineref03_Read) H15 [.slice oa18 r10.L.length cap19,i6 r10.To,i6 r10.E,i6 r10.At] r10 from ⟨_,_,rfl,⟨_,_,rfl,hc20,hr21⟩,⟨_,_,rfl,rfl,⟨_,_,rfl,rfl,rfl⟩⟩⟩),hx12,(St.le u),u.keep⟩
 replace hm:=itp_f hm hb9
 refine tn<|cfv o rfl hb9<|wk<|tn<|th<|midK (fun a w=>∃ (vA1:Bool),(Z34 (Z33 N) (Z2k N) N p1 p6 p7) vA1=some r∧Fr 152 [(0,.slice oa2 p1.length cap3),(1,i6 p6),(2,i6 p7),(6,.pointer (some ⟨b8,0,none⟩)),(7,.bool vA1)] a∧St w0 Nil [H] [blk b8 (.cells [.slice none 0 0,i6 0,i6 0,i6 0].toArray 174 (0,0))] w) ?_ ?_
 obtain ⟨r22,h23,hm⟩:=bs hm
 rcases bdich r22 with hb24 | hb24
 replace hm:=ite_t hm hb24
 refine rg<|qm o rfl fun a o=>qm o rfl fun a o=>ls<|cq o call139 (Z1i_c (hp_le _) hc4 (St.srH u hr5) h23) ⟨rfl,rfl,rfl,trivial⟩ u fun w a u o=>qv o (e_as (e_move o rfl) (congrArg Value.bool hb24)) fun a o=>?_
 iterate 3 refine qn o fun a o=>?_
 refine qv o (e_pickT o rfl rfl) fun a o=>qa o rfl fun a o=>re<|tn<|?_
 exact ⟨true,hm,o.hs,u⟩
 replace hm:=ite_f hm hb24
 obtain ⟨r25,h26,hm⟩:=bs hm
 refine rg<|qm o rfl fun a o=>qm o rfl fun a o=>ls<|cq o call139 (Z1i_c (hp_le _) hc4 (St.srH u hr5) h23) ⟨rfl,rfl,rfl,trivial⟩ u fun w a u o=>qv o (e_as (e_move o rfl) (congrArg Value.bool hb24)) fun a o=>?_
 iterate 2 refine qg o (e_move o rfl) fun a o=>?_
 refine ls<|gy o rfl rfl<|cq o call139 (Z1i_c (hp_le _) hc4 (St.srH u hr5) h26) ⟨rfl,rfl,rfl,trivial⟩ u fun w a u o=>qv o (e_pickF o rfl rfl) fun a o=>qa o rfl fun a o=>re<|tn<|?_
 exact ⟨r25,hm,o.hs,u⟩
 rintro a w ⟨vA1,hm,o,u⟩
 unfold Z34 at hm
 refine th<|?_
 obtain ⟨r27,h28,hm⟩:=bs hm
 refine rg<|qm o rfl fun a o=>qm o rfl fun a o=>ls<|cq o call139 (Z1i_c (hp_le _) hc4 (St.srH u hr5) h28) ⟨rfl,rfl,rfl,trivial⟩ u fun w a u o=>qa o rfl fun a o=>re<|tn<|th<|th<|rg<|qm o rfl fun a o=>qm o rfl fun a o=>grp (N:=152) (Fk:=[(0,.slice oa2 p1.length cap3),(1,i6 p6),(2,i6 p7),(6,.pointer (some ⟨b8,0,none⟩)),(7,.bool vA1),(8,.bool r27),(34,.bool (vA1 || r27))]) (b:=vA1) 2 u ?_ ?_ ?_
 intro hb key
 replace o:=Fr.as o (t:=32) rfl (congrArg Value.bool hb)
 refine qn o fun a o=>qv o (e_as (v':=.bool (vA1 || r27)) (e_pickT o rfl rfl) (by rw [hb];rfl)) fun a o=>?_
 exact key _ _ (o.hs) u
 intro hb key
 replace o:=Fr.as o (t:=32) rfl (congrArg Value.bool hb)
 refine qg o (e_move o rfl) fun a o=>qv o (e_as (v':=.bool (vA1 || r27)) (e_pickF o rfl rfl) (by rw [hb];rfl)) fun a o=>?_
 exact key _ _ (o.hs) u
 intro a w o u
 refine qm o rfl fun a o=>grp (N:=152) (Fk:=[(0,.slice oa2 p1.length cap3),(1,i6 p6),(2,i6 p7),(6,.pointer (some ⟨b8,0,none⟩)),(7,.bool vA1),(8,.bool r27),(38,.bool ((vA1 || r27) && (decide (p7=12))))]) (b:=(vA1 || r27)) 3 u ?_ ?_ ?_
 intro hb key
 replace o:=Fr.as o (t:=35) rfl (congrArg Value.bool hb)
 refine qg o (e_move o rfl) fun a o=>qg o (e_eql o rfl rfl) fun a o=>qv o (e_as (v':=.bool ((vA1 || r27) && (decide (p7=12)))) (e_pickT o rfl rfl) (by rw [hb];rfl)) fun a o=>?_
 exact key _ _ (o.hs) u
 intro hb key
 replace o:=Fr.as o (t:=35) rfl (congrArg Value.bool hb)
 iterate 2 refine qn o fun a o=>?_
 refine qv o (e_as (v':=.bool ((vA1 || r27) && (decide (p7=12)))) (e_pickF o rfl rfl) (by rw [hb];rfl)) fun a o=>?_
 exact key _ _ (o.hs) u
 intro a w o u
 refine re<|?_
 rcases bdich ((vA1 || r27) && (decide (p7=12))) with hb29 | hb29
 replace hm:=ite_t hm hb29
 refine tn<|ctv o rfl hb29<|th<|?_
 obtain ⟨r30,h31,hm⟩:=bs hm
 refine rg<|qm o rfl fun a o=>qm o rfl fun a o=>ls<|c1 o rfl call178 (Z2x_c (St.le u) hc4 hr5 h31) ⟨rfl,rfl,rfl,trivial⟩ (fun v w a hR o=>?_)
 obtain ⟨H35,cs36,rfl,g37,hx32,hl33,hk⟩:=hR
 obtain ⟨u,hx32⟩:=And.intro (St.passH u hk hx32 hl33) (St.extc u hx32)
 obtain ⟨oa38,cap39,rfl,hc40,hr41⟩:=leadlineref03_Read_open g37
 refine ls<|s_blkA o u sizeOf174 rfl rfl rfl rfl (one_cells rfl) .head fun w u=>re<|tn<|wr<|tr<|?_
 obtain rfl:=si hm
 exact r1c (vs:=[.slice oa38 r30.L.length cap39,i6 r30.To,i6 r30.E,i6 r30.At]) (.inl rfl) o results170 rfl isAgg174 sizeOf174 rfl ((St.ld u).cellsB t0) ⟨H35,_,rfl,(show Enc.rep (α:=leadlineref03_Read) H35 [.slice oa38 r30.L.length cap39,i6 r30.To,i6 r30.E,i6 r30.At] r30 from ⟨_,_,rfl,⟨_,_,rfl,hc40,hr41⟩,⟨_,_,rfl,rfl,⟨_,_,rfl,rfl,rfl⟩⟩⟩),hx32,(St.le u),u.keep⟩
 replace hm:=ite_f hm hb29
 refine tn<|cfv o rfl hb29<|wk<|tn<|th<|th<|rg<|qm o rfl fun a o=>re<|?_
 rcases bdich vA1 with hb42 | hb42
 replace hm:=ite_t hm hb42
 refine tn<|ctv o rfl hb42<|th<|?_
 obtain ⟨r43,h44,hm⟩:=bs hm
 refine rg<|qm o rfl fun a o=>qm o rfl fun a o=>qv o (e_add o rfl rfl) fun a o=>qm o rfl fun a o=>qv o (e_add o rfl rfl) fun a o=>ls<|c1 o rfl call170 (ih_Z33 (St.le u) hc4 hr5 h44) ⟨rfl,rfl,rfl,trivial⟩ (fun v w a hR o=>?_)
 obtain ⟨H48,cs49,rfl,g50,hx45,hl46,hk⟩:=hR
 obtain ⟨u,hx45⟩:=And.intro (St.passH u hk hx45 hl46) (St.extc u hx45)
 obtain ⟨oa51,cap52,rfl,hc53,hr54⟩:=leadlineref03_Read_open g50
 refine ls<|a_alloc (cs:=[.slice none 0 0,i6 0,i6 0,i6 0].toArray) o rfl u zeroValue174 rfl fun b55 w a u o=>ls<|s_blkA o u sizeOf174 rfl rfl rfl rfl (one_cells rfl) .head fun w u=>re<|tn<|th<|th<|rg<|qv o (e_fa o fa174_2 rfl) fun a o=>qv o (e_ld o isAgg29 rfl ((St.ld u).cellB t0 rfl)) fun a o=>qv o (e_neq o rfl rfl) fun a o=>re<|?_
 rcases bdich (decide (r43.E≠0)) with hb56 | hb56
 replace hm:=itp_t hm hb56
 refine tn<|ctv o rfl hb56<|th<|rg<|qv o (e_ldA o Tryz.isAgg174 Tryz.sizeOf174 rfl rfl ((St.ld u).cellsB t0)) fun a o=>ls<|s_blkA o u sizeOf174 rfl rfl rfl rfl (one_cells rfl) (.tail .head) fun w u=>re<|tn<|wr<|tr<|tr<|?_
 obtain rfl:=si hm
 exact r1c (vs:=[.slice oa51 r43.L.length cap52,i6 r43.To,i6 r43.E,i6 r43.At]) (.inl rfl) o results170 rfl isAgg174 sizeOf174 rfl ((St.ld u).cellsB t1) ⟨H48,_,rfl,(show Enc.rep (α:=leadlineref03_Read) H48 [.slice oa51 r43.L.length cap52,i6 r43.To,i6 r43.E,i6 r43.At] r43 from ⟨_,_,rfl,⟨_,_,rfl,hc53,hr54⟩,⟨_,_,rfl,rfl,⟨_,_,rfl,rfl,rfl⟩⟩⟩),hx45,(St.le u),u.keep⟩
 replace hm:=itp_f hm hb56
 refine tn<|cfv o rfl hb56<|wk<|tn<|th<|rg<|qa o rfl fun a o=>re<|tn<|th<|th<|?_
 obtain ⟨x57,h58,hm⟩:=bs hm
 obtain ⟨c59,g60,hl61⟩:=SR.get hr5 h58
 obtain rfl:=api_Token_open g60
 refine rg<|qm o rfl fun a o=>qm o rfl fun a o=>qv o (e_iaI o runUnderlying120 sizeOf130 rfl rfl h58 (SR.oaI hr5 (by decide) h58)) fun a o=>qv o (e_fa o fa130_1 rfl) fun a o=>qv o (e_ld o isAgg9 rfl (PH.le.cell (fun b o hx=>(Lds.le (St.ld u)) b o (hx45.sub b o hx)) (hl61 1 _ rfl))) fun a o=>qv o (e_eqlU (m:=x57.Text) (n:=[45]) o rfl rfl) fun a o=>re<|tn<|midK (fun a w=>∃ (vA2:Int),(Z35 r43 x57) vA2=some r∧Fr 152 [(0,.slice oa2 p1.length cap3),(1,i6 p6),(6,.pointer (some ⟨b8,0,none⟩)),(9,.pointer (some ⟨b55,0,none⟩)),(10,i6 vA2)] a∧St w0 Nil [H48] [blk b8 (.cells [.slice none 0 0,i6 0,i6 0,i6 0].toArray 174 (0,0)),blk b55 (.cells [.slice oa51 r43.L.length cap52,i6 r43.To,i6 r43.E,i6 r43.At].toArray 174 (0,0))] w) ?_ ?_
 rcases bdich (decide (x57.Text=[45])) with hb62 | hb62
 replace hm:=itp_t hm hb62
 refine ctv o rfl hb62<|rg<|qa o rfl fun a o=>re<|tn<|?_
 replace u:=u.pk [1,0] rfl
 exact ⟨3,hm,o.hs,u⟩
 replace hm:=itp_f hm hb62
 refine cfv o rfl hb62<|wk<|tn<|?_
 replace u:=u.pk [1,0] rfl
 exact ⟨4,hm,o.hs,u⟩
 rintro a w ⟨vA2,hm,o,u⟩
 unfold Z35 at hm
 refine th<|rg<|qm o rfl fun a o=>?_
 iterate 2 refine qm o rfl fun a o=>?_
 refine qv o (e_iaI o runUnderlying120 sizeOf130 rfl rfl h58 (SR.oaI hr5 (by decide) h58)) fun a o=>qv o (e_fa o fa130_3 rfl) fun a o=>qv o (e_ld o isAgg3 rfl (PH.le.cell (fun b o hx=>(Lds.le (St.ld u)) b o (hx45.sub b o hx)) (hl61 3 _ rfl))) fun a o=>qv o (e_bldK [i6 vA2,i6 x57.At] [i6 vA2,i6 0,strv [],i6 x57.At] o ⟨rfl,rfl,trivial⟩ (fun w=>by kernel_rfl)) fun a o=>ls<|a_bsl (e:=90) (sz:=4) [i6 vA2,i6 0,strv [],i6 x57.At] o rfl u rfl rfl rfl (fun w=>by kernel_rfl) fun b64 w a u o=>?_
 have hv63:Rows (α:=api_Node) H48 [i6 vA2,i6 0,strv [],i6 x57.At] ([(api_Node.mk vA2 0 [] x57.At)]:List api_Node):=(.cons (c:=[i6 vA2,i6 0,strv [],i6 x57.At]) ⟨_,_,rfl,rfl,⟨_,_,rfl,rfl,⟨_,_,rfl,rfl,rfl⟩⟩⟩ .nil)
 refine qa o rfl fun a o=>re<|tn<|th<|?_
 obtain ⟨l66,h67,hm⟩:=bs hm
 refine rg<|qm o rfl fun a o=>qv o (e_fa o fa174_0 rfl) fun a o=>qv o (e_ld o isAgg49 rfl ((St.ld u).cellB t2 rfl)) fun a o=>?_
 obtain ⟨us72,hd73,hu74⟩:=id hr54
 refine ls<|m_app (α:=api_Node) (xs:=([(api_Node.mk vA2 0 [] x57.At)]:List api_Node)) (ys:=r43.L) o rfl u underlying49 info90 rfl (by decide) rfl rfl rfl t0 hv63 (u.rdH t0 hd73) hu74 h67 fun oa68 cap69 vs70 w a hv71 hU o=>?_
 replace u:=hU _ .head
 refine qa o rfl fun a o=>re<|tn<|th<|rg<|qm o rfl fun a o=>qv o (e_fa o fa174_0 rfl) fun a o=>ls<|s_blk o u sizeOf49 rfl rfl rfl rfl (.tail (.tail .head)) .zero fun w u=>re<|tn<|th<|rg<|qv o (e_ldA o Tryz.isAgg174 Tryz.sizeOf174 rfl rfl ((St.ld u).cellsB t2)) fun a o=>ls<|s_blkA o u sizeOf174 rfl rfl rfl rfl (one_cells rfl) (.tail .head) fun w u=>re<|tn<|wr<|tr<|?_
 obtain ⟨H78,hx75,hr76,hc77,u⟩:=St.frzS u .head hv71
 obtain rfl:=si hm
 exact r1c (vs:=[.slice oa68 l66.length cap69,i6 r43.To,i6 r43.E,i6 r43.At]) (.inl rfl) o results170 rfl isAgg174 sizeOf174 rfl ((St.ld u).cellsB t0) ⟨H78,_,rfl,(show Enc.rep (α:=leadlineref03_Read) H78 [.slice oa68 l66.length cap69,i6 r43.To,i6 r43.E,i6 r43.At] (leadlineref03_Read.mk l66 r43.To r43.E r43.At) from ⟨_,_,rfl,⟨_,_,rfl,hc77,hr76⟩,⟨_,_,rfl,rfl,⟨_,_,rfl,rfl,rfl⟩⟩⟩),(Ext.trans hx45 hx75),(St.le u),u.keep⟩
 replace hm:=ite_f hm hb42
 refine tn<|cfv o rfl hb42<|wk<|tn<|th<|th<|rg<|qm o rfl fun a o=>re<|?_
 rcases bdich r27 with hb79 | hb79
 replace hm:=ite_t hm hb79
 refine tn<|ctv o rfl hb79<|th<|?_
 obtain ⟨r80,h81,hm⟩:=bs hm
 refine rg<|qm o rfl fun a o=>qm o rfl fun a o=>qv o (e_add o rfl rfl) fun a o=>qm o rfl fun a o=>qv o (e_add o rfl rfl) fun a o=>ls<|c1 o rfl call162 (ih_Z2k (St.le u) hc4 hr5 h81) ⟨rfl,rfl,rfl,rfl,trivial⟩ (fun v w a hR o=>?_)
 obtain ⟨H85,cs86,rfl,g87,hx82,hl83,hk⟩:=hR
 obtain ⟨u,hx82⟩:=And.intro (St.passH u hk hx82 hl83) (St.extc u hx82)
 obtain ⟨oa88,cap89,rfl,hc90,hr91⟩:=leadlineref03_Read_open g87
 refine ls<|a_alloc (cs:=[.slice none 0 0,i6 0,i6 0,i6 0].toArray) o rfl u zeroValue174 rfl fun b92 w a u o=>ls<|s_blkA o u sizeOf174 rfl rfl rfl rfl (one_cells rfl) .head fun w u=>re<|tn<|th<|th<|rg<|qv o (e_fa o fa174_2 rfl) fun a o=>qv o (e_ld o isAgg29 rfl ((St.ld u).cellB t0 rfl)) fun a o=>qv o (e_neq o rfl rfl) fun a o=>re<|?_
 rcases bdich (decide (r80.E≠0)) with hb93 | hb93
 replace hm:=itp_t hm hb93
 refine tn<|ctv o rfl hb93<|th<|rg<|qv o (e_ldA o Tryz.isAgg174 Tryz.sizeOf174 rfl rfl ((St.ld u).cellsB t0)) fun a o=>ls<|s_blkA o u sizeOf174 rfl rfl rfl rfl (one_cells rfl) (.tail .head) fun w u=>re<|tn<|wr<|tr<|tr<|?_
 obtain rfl:=si hm
 exact r1c (vs:=[.slice oa88 r80.L.length cap89,i6 r80.To,i6 r80.E,i6 r80.At]) (.inl rfl) o results170 rfl isAgg174 sizeOf174 rfl ((St.ld u).cellsB t1) ⟨H85,_,rfl,(show Enc.rep (α:=leadlineref03_Read) H85 [.slice oa88 r80.L.length cap89,i6 r80.To,i6 r80.E,i6 r80.At] r80 from ⟨_,_,rfl,⟨_,_,rfl,hc90,hr91⟩,⟨_,_,rfl,rfl,⟨_,_,rfl,rfl,rfl⟩⟩⟩),hx82,(St.le u),u.keep⟩
 replace hm:=itp_f hm hb93
 refine tn<|cfv o rfl hb93<|wk<|tn<|th<|th<|?_
 obtain ⟨r94,h95,hm⟩:=bs hm
 refine rg<|qm o rfl fun a o=>qv o (e_fa o fa174_1 rfl) fun a o=>qv o (e_ld o isAgg3 rfl ((St.ld u).cellB t0 rfl)) fun a o=>ls<|cq o call139 (Z1i_c (hp_le _) hc4 (St.srH u (hr5.mono hx82.sub)) h95) ⟨rfl,rfl,rfl,trivial⟩ u fun w a u o=>qv o (e_not o rfl) fun a o=>re<|?_
 rcases bdich r94 with hb96 | hb96
 replace hm:=ite_t hm hb96
 refine tn<|cfv o rfl (by rw [hb96];rfl)<|wk<|tn<|th<|rg<|qv o (e_fa o fa174_1 rfl) fun a o=>qv o (e_ld o isAgg3 rfl ((St.ld u).cellB t0 rfl)) fun a o=>qv o (e_add o rfl rfl) fun a o=>qv o (e_fa o fa174_1 rfl) fun a o=>ls<|s_blk o u sizeOf3 rfl rfl rfl rfl .head (.succ .zero) fun w u=>re<|tn<|th<|rg<|qv o (e_ldA o Tryz.isAgg174 Tryz.sizeOf174 rfl rfl ((St.ld u).cellsB t0)) fun a o=>ls<|s_blkA o u sizeOf174 rfl rfl rfl rfl (one_cells rfl) (.tail .head) fun w u=>re<|tn<|wr<|tr<|?_
 obtain rfl:=si hm
 exact r1c (vs:=[.slice oa88 r80.L.length cap89,i6 (IntKind.i64.wrap (r80.To+1)),i6 r80.E,i6 r80.At]) (.inl rfl) o results170 rfl isAgg174 sizeOf174 rfl ((St.ld u).cellsB t1) ⟨H85,_,rfl,(show Enc.rep (α:=leadlineref03_Read) H85 [.slice oa88 r80.L.length cap89,i6 (IntKind.i64.wrap (r80.To+1)),i6 r80.E,i6 r80.At] (leadlineref03_Read.mk r80.L (IntKind.i64.wrap (r80.To+1)) r80.E r80.At) from ⟨_,_,rfl,⟨_,_,rfl,hc90,hr91⟩,⟨_,_,rfl,rfl,⟨_,_,rfl,rfl,rfl⟩⟩⟩),hx82,(St.le u),u.keep⟩
 replace hm:=ite_f hm hb96
 refine tn<|ctv o rfl (by rw [hb96];rfl)<|th<|?_
 obtain ⟨r97,h98,hm⟩:=bs hm
 refine rg<|qm o rfl fun a o=>qv o (e_fa o fa174_1 rfl) fun a o=>qv o (e_ld o isAgg3 rfl ((St.ld u).cellB t0 rfl)) fun a o=>ls<|c1 o rfl call178 (Z2x_c (St.le u) hc4 (hr5.mono hx82.sub) h98) ⟨rfl,rfl,rfl,trivial⟩ (fun v w a hR o=>?_)
 obtain ⟨H102,cs103,rfl,g104,hx99,hl100,hk⟩:=hR
 obtain ⟨u,hx99⟩:=And.intro (St.passH u hk hx99 hl100) (St.extc u hx99)
 obtain ⟨oa105,cap106,rfl,hc107,hr108⟩:=leadlineref03_Read_open g104
 refine ls<|s_blkA o u sizeOf174 rfl rfl rfl rfl (one_cells rfl) (.tail .head) fun w u=>re<|tn<|wr<|tr<|tr<|?_
 obtain rfl:=si hm
 exact r1c (vs:=[.slice oa105 r97.L.length cap106,i6 r97.To,i6 r97.E,i6 r97.At]) (.inl rfl) o results170 rfl isAgg174 sizeOf174 rfl ((St.ld u).cellsB t1) ⟨H102,_,rfl,(show Enc.rep (α:=leadlineref03_Read) H102 [.slice oa105 r97.L.length cap106,i6 r97.To,i6 r97.E,i6 r97.At] r97 from ⟨_,_,rfl,⟨_,_,rfl,hc107,hr108⟩,⟨_,_,rfl,rfl,⟨_,_,rfl,rfl,rfl⟩⟩⟩),(Ext.trans hx82 hx99),(St.le u),u.keep⟩
 replace hm:=ite_f hm hb79
 refine tn<|cfv o rfl hb79<|wk<|tn<|th<|th<|?_
 obtain ⟨x109,h110,hm⟩:=bs hm
 obtain ⟨c111,g112,hl113⟩:=SR.get hr5 h110
 obtain rfl:=api_Token_open g112
 refine rg<|qm o rfl fun a o=>qm o rfl fun a o=>qv o (e_iaI o runUnderlying120 sizeOf130 rfl rfl h110 (SR.oaI hr5 (by decide) h110)) fun a o=>qv o (e_fa o fa130_0 rfl) fun a o=>qv o (e_ld o isAgg3 rfl (PH.le.cell (Lds.le (St.ld u)) (hl113 0 _ rfl))) fun a o=>qv o (e_eql o rfl rfl) fun a o=>re<|?_
 rcases bdich (decide (x109.Kind=2)) with hb114 | hb114
 replace hm:=itp_t hm hb114
 refine tn<|ctv o rfl hb114<|th<|rdS 15 u wide fun w u=>dr 0 u o rfl (e_move o rfl) fun a o=>dr 1 u o rfl (e_move o rfl) fun a o=>dr 2 u o rfl (e_iaI o runUnderlying120 sizeOf130 rfl rfl h110 (SR.oaI hr5 (by decide) h110)) fun a o=>dr 3 u o rfl (e_fa o fa130_2 rfl) fun a o=>dq 4 (St.ld u) o rfl (fun w hl=>e_ld o isAgg3 rfl (PH.le.cell (Lds.le hl) (hl113 2 _ rfl))) fun a o=>dr 5 u o rfl (e_move o rfl) fun a o=>dr 6 u o rfl (e_move o rfl) fun a o=>dr 7 u o rfl (e_iaI o runUnderlying120 sizeOf130 rfl rfl h110 (SR.oaI hr5 (by decide) h110)) fun a o=>dr 8 u o rfl (e_fa o fa130_3 rfl) fun a o=>dq 9 (St.ld u) o rfl (fun w hl=>e_ld o isAgg3 rfl (PH.le.cell (Lds.le hl) (hl113 3 _ rfl))) fun a o=>dq 10 (St.ld u) o rfl (fun w hl=>e_bldK [i6 1,i6 x109.N,i6 x109.At] [i6 1,i6 x109.N,strv [],i6 x109.At] o ⟨rfl,rfl,rfl,trivial⟩ (fun w=>by kernel_rfl)) fun a o=>dr 12 u o rfl (e_move o rfl) fun a o=>dr 13 u o rfl (e_add o rfl rfl) fun a o=>da1 (i:=11) (by kernel_rfl) ?_
 refine di (i:=11) rfl<|a_bsl (e:=90) (sz:=4) [i6 1,i6 x109.N,strv [],i6 x109.At] o rfl u rfl rfl rfl (fun w=>by kernel_rfl) fun b116 w a u o=>?_
 have hv115:Rows (α:=api_Node) H [i6 1,i6 x109.N,strv [],i6 x109.At] ([(api_Node.mk 1 x109.N [] x109.At)]:List api_Node):=(.cons (c:=[i6 1,i6 x109.N,strv [],i6 x109.At]) ⟨_,_,rfl,rfl,⟨_,_,rfl,rfl,⟨_,_,rfl,rfl,rfl⟩⟩⟩ .nil)
 refine ⟨fun _=>(St.ldsX u i2 ta1),?_⟩
 refine dq 14 (St.ldsX u i2 ta1) o rfl (fun w hl=>e_bldK [.slice (some ⟨b116,0,none⟩) ([(api_Node.mk 1 x109.N [] x109.At)]:List api_Node).length 1,i6 (IntKind.i64.wrap (p6+1))] [.slice (some ⟨b116,0,none⟩) ([(api_Node.mk 1 x109.N [] x109.At)]:List api_Node).length 1,i6 (IntKind.i64.wrap (p6+1)),i6 0,i6 0] o ⟨rfl,rfl,trivial⟩ (fun w=>by kernel_rfl)) fun a o=>da1 (i:=15) (by kernel_rfl) ?_
 refine di (i:=15) rfl<|s_blkA o u sizeOf174 rfl rfl rfl rfl (one_cells rfl) (.tail .head) fun w u=>⟨fun h=>absurd rfl h,?_⟩
 refine de (by kernel_rfl)<|tn<|wr<|tr<|?_
 obtain ⟨H121,hx118,hr119,hc120,u⟩:=St.frzS u .head hv115
 obtain rfl:=si hm
 exact r1c (vs:=[.slice (some ⟨b116,0,none⟩) ([(api_Node.mk 1 x109.N [] x109.At)]:List api_Node).length 1,i6 (IntKind.i64.wrap (p6+1)),i6 0,i6 0]) (.inl rfl) o results170 rfl isAgg174 sizeOf174 rfl ((St.ld u).cellsB t0) ⟨H121,_,rfl,(show Enc.rep (α:=leadlineref03_Read) H121 [.slice (some ⟨b116,0,none⟩) ([(api_Node.mk 1 x109.N [] x109.At)]:List api_Node).length 1,i6 (IntKind.i64.wrap (p6+1)),i6 0,i6 0] (leadlineref03_Read.mk ([(api_Node.mk 1 x109.N [] x109.At)]:List api_Node) (IntKind.i64.wrap (p6+1)) 0 0) from ⟨_,_,rfl,⟨_,_,rfl,hc120,hr119⟩,⟨_,_,rfl,rfl,⟨_,_,rfl,rfl,rfl⟩⟩⟩),hx118,(St.le u),u.keep⟩
 replace hm:=itp_f hm hb114
 refine tn<|cfv o rfl hb114<|wk<|tn<|th<|th<|midK (fun a w=>∃ (vA3:Bool),(Z36 N p1 p6 x109) vA3=some r∧Fr 152 [(0,.slice oa2 p1.length cap3),(1,i6 p6),(6,.pointer (some ⟨b8,0,none⟩)),(133,.bool vA3)] a∧St w0 Nil [H] [blk b8 (.cells [.slice none 0 0,i6 0,i6 0,i6 0].toArray 174 (0,0))] w) ?_ ?_
 rcases bdich (decide (x109.Kind=1)) with hb122 | hb122
 replace hm:=itp_t hm hb122
 obtain ⟨r123,h124,hm⟩:=bs hm
 refine rg<|qm o rfl fun a o=>qm o rfl fun a o=>qv o (e_iaI o runUnderlying120 sizeOf130 rfl rfl h110 (SR.oaI hr5 (by decide) h110)) fun a o=>qv o (e_fa o fa130_0 rfl) fun a o=>qv o (e_ld o isAgg3 rfl (PH.le.cell (Lds.le (St.ld u)) (hl113 0 _ rfl))) fun a o=>qv o (e_eql o rfl rfl) fun a o=>qv o (e_as (e_move o rfl) (congrArg Value.bool hb122)) fun a o=>?_
 iterate 2 refine qg o (e_move o rfl) fun a o=>?_
 refine qg o (e_iaI o runUnderlying120 sizeOf130 rfl rfl h110 (SR.oaI hr5 (by decide) h110)) fun a o=>qg o (e_fa o fa130_1 rfl) fun a o=>qg o (e_ld o isAgg9 rfl (PH.le.cell (Lds.le (St.ld u)) (hl113 1 _ rfl))) fun a o=>ls<|gy o rfl rfl<|cq o call114 (Z1m_c (hp_le _) h124) ⟨rfl,trivial⟩ u fun w a u o=>qv o (e_pickT o rfl rfl) fun a o=>re<|tn<|?_
 exact ⟨r123,hm,o.hs,u⟩
 replace hm:=itp_f hm hb122
 refine rg<|qm o rfl fun a o=>qm o rfl fun a o=>qv o (e_iaI o runUnderlying120 sizeOf130 rfl rfl h110 (SR.oaI hr5 (by decide) h110)) fun a o=>qv o (e_fa o fa130_0 rfl) fun a o=>qv o (e_ld o isAgg3 rfl (PH.le.cell (Lds.le (St.ld u)) (hl113 0 _ rfl))) fun a o=>qv o (e_eql o rfl rfl) fun a o=>qv o (e_as (e_move o rfl) (congrArg Value.bool hb122)) fun a o=>?_
 iterate 6 refine qn o fun a o=>?_
 refine qv o (e_pickF o rfl rfl) fun a o=>re<|tn<|?_
 exact ⟨false,hm,o.hs,u⟩
 rintro a w ⟨vA3,hm,o,u⟩
 unfold Z36 at hm
 rcases bdich vA3 with hb125 | hb125
 replace hm:=ite_t hm hb125
 refine ctv o rfl hb125<|th<|rdS 15 u wide fun w u=>dr 0 u o rfl (e_move o rfl) fun a o=>dr 1 u o rfl (e_move o rfl) fun a o=>dr 2 u o rfl (e_iaI o runUnderlying120 sizeOf130 rfl rfl h110 (SR.oaI hr5 (by decide) h110)) fun a o=>dr 3 u o rfl (e_fa o fa130_1 rfl) fun a o=>dq 4 (St.ld u) o rfl (fun w hl=>e_ld o isAgg9 rfl (PH.le.cell (Lds.le hl) (hl113 1 _ rfl))) fun a o=>dr 5 u o rfl (e_move o rfl) fun a o=>dr 6 u o rfl (e_move o rfl) fun a o=>dr 7 u o rfl (e_iaI o runUnderlying120 sizeOf130 rfl rfl h110 (SR.oaI hr5 (by decide) h110)) fun a o=>dr 8 u o rfl (e_fa o fa130_3 rfl) fun a o=>dq 9 (St.ld u) o rfl (fun w hl=>e_ld o isAgg3 rfl (PH.le.cell (Lds.le hl) (hl113 3 _ rfl))) fun a o=>dq 10 (St.ld u) o rfl (fun w hl=>e_bldK [i6 2,strv x109.Text,i6 x109.At] [i6 2,i6 0,strv x109.Text,i6 x109.At] o ⟨rfl,rfl,rfl,trivial⟩ (fun w=>by kernel_rfl)) fun a o=>dr 12 u o rfl (e_move o rfl) fun a o=>dr 13 u o rfl (e_add o rfl rfl) fun a o=>da1 (i:=11) (by kernel_rfl) ?_
 refine di (i:=11) rfl<|a_bsl (e:=90) (sz:=4) [i6 2,i6 0,strv x109.Text,i6 x109.At] o rfl u rfl rfl rfl (fun w=>by kernel_rfl) fun b127 w a u o=>?_
 have hv126:Rows (α:=api_Node) H [i6 2,i6 0,strv x109.Text,i6 x109.At] ([(api_Node.mk 2 0 x109.Text x109.At)]:List api_Node):=(.cons (c:=[i6 2,i6 0,strv x109.Text,i6 x109.At]) ⟨_,_,rfl,rfl,⟨_,_,rfl,rfl,⟨_,_,rfl,rfl,rfl⟩⟩⟩ .nil)
 refine ⟨fun _=>(St.ldsX u i2 ta1),?_⟩
 refine dq 14 (St.ldsX u i2 ta1) o rfl (fun w hl=>e_bldK [.slice (some ⟨b127,0,none⟩) ([(api_Node.mk 2 0 x109.Text x109.At)]:List api_Node).length 1,i6 (IntKind.i64.wrap (p6+1))] [.slice (some ⟨b127,0,none⟩) ([(api_Node.mk 2 0 x109.Text x109.At)]:List api_Node).length 1,i6 (IntKind.i64.wrap (p6+1)),i6 0,i6 0] o ⟨rfl,rfl,trivial⟩ (fun w=>by kernel_rfl)) fun a o=>da1 (i:=15) (by kernel_rfl) ?_
 refine di (i:=15) rfl<|s_blkA o u sizeOf174 rfl rfl rfl rfl (one_cells rfl) (.tail .head) fun w u=>⟨fun h=>absurd rfl h,?_⟩
 refine de (by kernel_rfl)<|tn<|wr<|tr<|?_
 obtain ⟨H132,hx129,hr130,hc131,u⟩:=St.frzS u .head hv126
 obtain rfl:=si hm
 exact r1c (vs:=[.slice (some ⟨b127,0,none⟩) ([(api_Node.mk 2 0 x109.Text x109.At)]:List api_Node).length 1,i6 (IntKind.i64.wrap (p6+1)),i6 0,i6 0]) (.inl rfl) o results170 rfl isAgg174 sizeOf174 rfl ((St.ld u).cellsB t0) ⟨H132,_,rfl,(show Enc.rep (α:=leadlineref03_Read) H132 [.slice (some ⟨b127,0,none⟩) ([(api_Node.mk 2 0 x109.Text x109.At)]:List api_Node).length 1,i6 (IntKind.i64.wrap (p6+1)),i6 0,i6 0] (leadlineref03_Read.mk ([(api_Node.mk 2 0 x109.Text x109.At)]:List api_Node) (IntKind.i64.wrap (p6+1)) 0 0) from ⟨_,_,rfl,⟨_,_,rfl,hc131,hr130⟩,⟨_,_,rfl,rfl,⟨_,_,rfl,rfl,rfl⟩⟩⟩),hx129,(St.le u),u.keep⟩
 replace hm:=ite_f hm hb125
 refine cfv o rfl hb125<|wk<|tn<|th<|?_
 obtain ⟨r133,h134,hm⟩:=bs hm
 refine rg<|qm o rfl fun a o=>qm o rfl fun a o=>ls<|c1 o rfl call178 (Z2x_c (St.le u) hc4 hr5 h134) ⟨rfl,rfl,rfl,trivial⟩ (fun v w a hR o=>?_)
 obtain ⟨H138,cs139,rfl,g140,hx135,hl136,hk⟩:=hR
 obtain ⟨u,hx135⟩:=And.intro (St.passH u hk hx135 hl136) (St.extc u hx135)
 obtain ⟨oa141,cap142,rfl,hc143,hr144⟩:=leadlineref03_Read_open g140
 refine ls<|s_blkA o u sizeOf174 rfl rfl rfl rfl (one_cells rfl) .head fun w u=>re<|tn<|wr<|?_
 obtain rfl:=si hm
 exact r1c (vs:=[.slice oa141 r133.L.length cap142,i6 r133.To,i6 r133.E,i6 r133.At]) (.inl rfl) o results170 rfl isAgg174 sizeOf174 rfl ((St.ld u).cellsB t0) ⟨H138,_,rfl,(show Enc.rep (α:=leadlineref03_Read) H138 [.slice oa141 r133.L.length cap142,i6 r133.To,i6 r133.E,i6 r133.At] r133 from ⟨_,_,rfl,⟨_,_,rfl,hc143,hr144⟩,⟨_,_,rfl,rfl,⟨_,_,rfl,rfl,rfl⟩⟩⟩),hx135,(St.le u),u.keep⟩
 intro w0 H hH oa2 cap3 p1 hc4 hr5 p6 p7 p8 r hm
 rw [Z2k] at hm
 refine fn0 func162 rfl ntmps162 rfl rfl fun a o=>?_
 have u:St w0 Nil [H] [] w0:=start1 hH
 refine th<|rg<|ls<|a_alloc (cs:=[.slice none 0 0,i6 0,i6 0,i6 0].toArray) o rfl u Tryz.zeroValue174 rfl fun b9 w a u o=>re<|tn<|th<|th<|rg<|qm o rfl fun a o=>qv o (e_eql o rfl rfl) fun a o=>re<|?_
 rcases bdich (decide (p8=5)) with hb10 | hb10
 replace hm:=itp_t hm hb10
 refine tn<|ctv o rfl hb10<|th<|?_
 obtain ⟨r11,h12,hm⟩:=bs hm
 refine rg<|qm o rfl fun a o=>?_
 iterate 2 refine qm o rfl fun a o=>?_
 refine ls<|c1 o rfl call170 (ih_Z33 (St.le u) hc4 hr5 h12) ⟨rfl,rfl,rfl,trivial⟩ (fun v w a hR o=>?_)
 obtain ⟨H16,cs17,rfl,g18,hx13,hl14,hk⟩:=hR
 obtain ⟨u,hx13⟩:=And.intro (St.passH u hk hx13 hl14) (St.extc u hx13)
 obtain ⟨oa19,cap20,rfl,hc21,hr22⟩:=leadlineref03_Read_open g18
 refine ls<|s_blkA o u sizeOf174 rfl rfl rfl rfl (one_cells rfl) .head fun w u=>re<|tn<|wr<|tr<|?_
 obtain rfl:=si hm
 exact r1c (vs:=[.slice oa19 r11.L.length cap20,i6 r11.To,i6 r11.E,i6 r11.At]) (.inl rfl) o results162 rfl isAgg174 sizeOf174 rfl ((St.ld u).cellsB t0) ⟨H16,_,rfl,(show Enc.rep (α:=leadlineref03_Read) H16 [.slice oa19 r11.L.length cap20,i6 r11.To,i6 r11.E,i6 r11.At] r11 from ⟨_,_,rfl,⟨_,_,rfl,hc21,hr22⟩,⟨_,_,rfl,rfl,⟨_,_,rfl,rfl,rfl⟩⟩⟩),hx13,(St.le u),u.keep⟩
 replace hm:=itp_f hm hb10
 refine tn<|cfv o rfl hb10<|wk<|tn<|th<|?_
 obtain ⟨r23,h24,hm⟩:=bs hm
 refine rg<|qm o rfl fun a o=>?_
 iterate 3 refine qm o rfl fun a o=>?_
 refine qv o (e_add o rfl rfl) fun a o=>ls<|c1 o rfl call162 (ih_Z2k (St.le u) hc4 hr5 h24) ⟨rfl,rfl,rfl,rfl,trivial⟩ (fun v w a hR o=>?_)
 obtain ⟨H28,cs29,rfl,g30,hx25,hl26,hk⟩:=hR
 obtain ⟨u,hx25⟩:=And.intro (St.passH u hk hx25 hl26) (St.extc u hx25)
 obtain ⟨oa31,cap32,rfl,hc33,hr34⟩:=leadlineref03_Read_open g30
 refine ls<|a_alloc (cs:=[.slice none 0 0,i6 0,i6 0,i6 0].toArray) o rfl u zeroValue174 rfl fun b35 w a u o=>ls<|s_blkA o u sizeOf174 rfl rfl rfl rfl (one_cells rfl) .head fun w u=>re<|tn<|th<|midK (fun a w=>∃ (vA2:(List api_Node)) (vA7:Int) (vA8:Int) (vA9:Int) (HA1:PH) (oaA3:Option Addr) (capA4:Nat),Z2l vA2 vA7 vA8 vA9=some r∧Ext w0 H28 HA1∧Fr 91 [(8,.pointer (some ⟨b9,0,none⟩)),(9,.pointer (some ⟨b35,0,none⟩))] a∧St w0 Nil [HA1] [blk b9 (.cells [.slice none 0 0,i6 0,i6 0,i6 0].toArray 174 (0,0)),blk b35 (.cells [.slice oaA3 vA2.length capA4,i6 vA7,i6 vA8,i6 vA9].toArray 174 (0,0))] w∧vA2.length≤capA4∧SR HA1 oaA3 vA2) ?_ ?_
 replace u:=u.pk [1,0] rfl
 refine wb<|lp (α:=Nat×(List api_Node)×Int×Int×Int) (fun gh a w=>match gh with | (nn2,vB10,vB15,vB16,vB17)=>∃ (HB9:PH) (oaB11:Option Addr) (capB12:Nat),(Z2o (Z2k N) N Z2l p1 p7 p8) nn2 vB10 vB15 vB16 vB17=some r∧Ext w0 H28 HB9∧Fr 91 [(0,.slice oa2 p1.length cap3),(2,i6 p7),(3,i6 p8),(8,.pointer (some ⟨b9,0,none⟩)),(9,.pointer (some ⟨b35,0,none⟩))] a∧St w0 Nil [HB9] [blk b9 (.cells [.slice none 0 0,i6 0,i6 0,i6 0].toArray 174 (0,0)),blk b35 (.cells [.slice oaB11 vB10.length capB12,i6 vB15,i6 vB16,i6 vB17].toArray 174 (0,0))] w∧vB10.length≤capB12∧SR HB9 oaB11 vB10) (fun gh=>gh.1) (N,r23.L,r23.To,r23.E,r23.At) ⟨H28,oa31,cap32,hm,(Ext.refl _ _),o.hs,u,hc33,hr34⟩ ?_
 rintro ⟨nn2,vB10,vB15,vB16,vB17⟩ a w ⟨HB9,oaB11,capB12,hm,hxHB9,o,u,hcB13,hrB14⟩
 obtain _ | nn2:=nn2
 simp [Z2o] at hm
 rw [Z2o] at hm
 refine th<|th<|rg<|qv o (e_fa o fa174_2 rfl) fun a o=>qv o (e_ld o isAgg29 rfl ((St.ld u).cellB t1 rfl)) fun a o=>qv o (e_eql o rfl rfl) fun a o=>re<|?_
 rcases bdich (decide (vB16=0)) with hb36 | hb36
 replace hm:=itp_t hm hb36
 refine tn<|ctv o rfl hb36<|wk<|tn<|wb<|th<|rg<|qa o rfl fun a o=>re<|tn<|th<|th<|rg<|qa o rfl fun a o=>re<|tn<|midK (fun a w=>∃ (vC2:Int) (HC1:PH),(Z2m (Z2k N) ((Z2o (Z2k N) N Z2l p1 p7 p8) nn2) p1 p7 p8 vB10 vB15 vB16 vB17) vC2=some r∧Ext w0 HB9 HC1∧Fr 91 [(0,.slice oa2 p1.length cap3),(2,i6 p7),(3,i6 p8),(8,.pointer (some ⟨b9,0,none⟩)),(9,.pointer (some ⟨b35,0,none⟩)),(10,i6 vC2)] a∧St w0 Nil [HC1] [blk b9 (.cells [.slice none 0 0,i6 0,i6 0,i6 0].toArray 174 (0,0)),blk b35 (.cells [.slice oaB11 vB10.length capB12,i6 vB15,i6 vB16,i6 vB17].toArray 174 (0,0))] w) ?_ ?_
 refine wb<|lp (α:=Nat×Int×Int) (fun gh a w=>match gh with | (nn4,vD2,vD3)=>∃ (HD1:PH),(Z2p N (Z2m (Z2k N) ((Z2o (Z2k N) N Z2l p1 p7 p8) nn2) p1 p7 p8 vB10 vB15 vB16 vB17) p1 p8 vB15) nn4 vD2 vD3=some r∧Ext w0 HB9 HD1∧Fr 91 [(0,.slice oa2 p1.length cap3),(2,i6 p7),(3,i6 p8),(8,.pointer (some ⟨b9,0,none⟩)),(9,.pointer (some ⟨b35,0,none⟩)),(10,i6 vD2),(11,i6 vD3)] a∧St w0 Nil [HD1] [blk b9 (.cells [.slice none 0 0,i6 0,i6 0,i6 0].toArray 174 (0,0)),blk b35 (.cells [.slice oaB11 vB10.length capB12,i6 vB15,i6 vB16,i6 vB17].toArray 174 (0,0))] w) (fun gh=>gh.1) (N,0,0) ⟨HB9,hm,(Ext.refl _ _),o.hs,u⟩ ?_
 rintro ⟨nn4,vD2,vD3⟩ a w ⟨HD1,hm,hxHD1,o,u⟩
 obtain _ | nn4:=nn4
 simp [Z2p] at hm
 rw [Z2p] at hm
 refine th<|th<|?_
 obtain ⟨r37,h38,hm⟩:=bs hm
 refine rg<|qm o rfl fun a o=>qm o rfl fun a o=>ls<|c1 o rfl call171 (Z32_c (St.le u) h38) ⟨rfl,trivial⟩ (fun v w a hR o=>?_)
 obtain ⟨H42,oa43,cap44,rfl,hc45,hr46,hx39,hl40,hk⟩:=hR
 obtain ⟨u,hx39⟩:=And.intro (St.passH u hk hx39 hl40) (St.extc u hx39)
 refine qv o (e_lenL (α:=Int) (xs:=r37) o runUnderlying42 rfl) fun a o=>qv o (e_lss o rfl rfl) fun a o=>re<|?_
 rcases bdich (decide (vD3 < (r37.length:Int))) with hb47 | hb47
 replace hm:=itp_t hm hb47
 refine tn<|ctv o rfl hb47<|wk<|tn<|th<|midK (fun a w=>∃ (vE2:Int) (HE1:PH),(Z2n (Z2p N (Z2m (Z2k N) ((Z2o (Z2k N) N Z2l p1 p7 p8) nn2) p1 p7 p8 vB10 vB15 vB16 vB17) p1 p8 vB15 nn4) vD3) vE2=some r∧Ext w0 H42 HE1∧Fr 91 [(0,.slice oa2 p1.length cap3),(2,i6 p7),(3,i6 p8),(8,.pointer (some ⟨b9,0,none⟩)),(9,.pointer (some ⟨b35,0,none⟩)),(10,i6 vE2),(11,i6 vD3)] a∧St w0 Nil [HE1] [blk b9 (.cells [.slice none 0 0,i6 0,i6 0,i6 0].toArray 174 (0,0)),blk b35 (.cells [.slice oaB11 vB10.length capB12,i6 vB15,i6 vB16,i6 vB17].toArray 174 (0,0))] w) ?_ ?_
 refine wb<|th<|?_
 obtain ⟨r48,h49,hm⟩:=bs hm
 obtain ⟨x58,h59,hm⟩:=bs hm
 obtain ⟨r63,h64,hm⟩:=bs hm
 obtain ⟨r65,h66,hm⟩:=bs hm
 refine rdS 10 u wide fun w u=>dr 0 u o rfl (e_move o rfl) fun a o=>dr 1 u o rfl (e_fa o fa174_1 rfl) fun a o=>dq 2 (St.ld u) o rfl (fun w hl=>e_ld o isAgg3 rfl (hl.cellB t1 rfl)) fun a o=>dr 3 u o rfl (e_move o rfl) fun a o=>dr 5 u o rfl (e_move o rfl) fun a o=>da1 (i:=4) (by kernel_rfl) ?_
 refine di (i:=4) rfl<|c1 o rfl call171 (Z32_c (St.le u) h49) ⟨rfl,trivial⟩ (fun v w a hR o=>?_)
 obtain ⟨H53,oa54,cap55,rfl,hc56,hr57,hx50,hl51,hk⟩:=hR
 obtain ⟨u,hx50⟩:=And.intro (St.passH u hk hx50 hl51) (St.extc u hx50)
 refine ⟨fun _=>(St.ldsX u hx50.sub i1),?_⟩
 refine ds 6 (St.ldsX u hx50.sub i1) o rfl (e_iaI o runUnderlying42 sizeOf3 rfl rfl h59 (SR.oaI hr57 (by decide) h59)) fun a o=>?_
 obtain ⟨c60,g61,hl62⟩:=SR.get hr57 h59
 obtain rfl:c60=[i6 x58]:=g61
 refine da1 (i:=7) (by kernel_rfl) ?_
 refine di (i:=7) rfl<|q1 o rfl (e_ld o isAgg3 rfl (PH.le.cell (Lds.le (St.ld u)) (hl62 0 _ rfl))) fun a o=>⟨fun _=>(St.ldsX u hx50.sub i1),?_⟩
 refine da1 (i:=8) (by kernel_rfl) ?_
 refine di (i:=8) rfl<|cq o call172 (Z37_c (hp_le _) h64) ⟨rfl,trivial⟩ u fun w a u o=>⟨fun _=>(St.ldsX u hx50.sub i1),?_⟩
 refine da1 (i:=9) (by kernel_rfl) ?_
 refine di (i:=9) rfl<|cq o call139 (Z1i_c (hp_le _) hc4 (St.srH u (hr5.mono (cp (cp (cp (cp hx50.sub hx39.sub) hxHD1.sub) hxHB9.sub) hx25.sub))) h66) ⟨rfl,rfl,rfl,trivial⟩ u fun w a u o=>⟨fun _=>(St.ldsX u hx50.sub i1),?_⟩
 refine de (by kernel_rfl)<|?_
 rcases bdich r65 with hb67 | hb67
 replace hm:=ite_t hm hb67
 refine tn<|ctv o rfl hb67<|?_
 obtain ⟨r68,h69,hm⟩:=bs hm
 obtain ⟨x78,h79,hm⟩:=bs hm
 refine rg<|qm o rfl fun a o=>ls<|c1 o rfl call171 (Z32_c (St.le u) h69) ⟨rfl,trivial⟩ (fun v w a hR o=>?_)
 obtain ⟨H73,oa74,cap75,rfl,hc76,hr77,hx70,hl71,hk⟩:=hR
 obtain ⟨u,hx70⟩:=And.intro (St.passH u hk hx70 hl71) (St.extc u hx70)
 refine qm o rfl fun a o=>qv o (e_iaI o runUnderlying42 sizeOf3 rfl rfl h79 (SR.oaI hr77 (by decide) h79)) fun a o=>?_
 obtain ⟨c80,g81,hl82⟩:=SR.get hr77 h79
 obtain rfl:c80=[i6 x78]:=g81
 refine qv o (e_ld o isAgg3 rfl (PH.le.cell (Lds.le (St.ld u)) (hl82 0 _ rfl))) fun a o=>qa o rfl fun a o=>re<|bn<|tn<|?_
 exact ⟨x78,H73,hm,(Ext.trans hx50 hx70),o.hs,u⟩
 replace hm:=ite_f hm hb67
 refine tn<|cfv o rfl hb67<|wk<|bn<|tn<|?_
 exact ⟨vD2,H53,hm,hx50,o.hs,u⟩
 rintro a w ⟨vE2,HE1,hm,hxHE1,o,u⟩
 unfold Z2n at hm
 refine rg<|qm o rfl fun a o=>qv o (e_add o rfl rfl) fun a o=>qa o rfl fun a o=>re<|tn<|?_
 exact ⟨(nn4,vE2,(IntKind.i64.wrap (vD3+1))),⟨HE1,hm,(Ext.trans hxHD1 (Ext.trans hx39 hxHE1)),o.hs,u⟩,Nat.lt_succ_self _⟩
 replace hm:=itp_f hm hb47
 refine tn<|cfv o rfl hb47<|we<|tx<|tx<|bx<|tn<|?_
 exact ⟨vD2,H42,hm,(Ext.trans hxHD1 hx39),o.hs,u⟩
 rintro a w ⟨vC2,HC1,hm,hxHC1,o,u⟩
 unfold Z2m at hm
 refine th<|th<|rg<|qm o rfl fun a o=>qv o (e_eql o rfl rfl) fun a o=>re<|?_
 rcases bdich (decide (vC2=0)) with hb83 | hb83
 replace hm:=itp_t hm hb83
 refine tn<|ctv o rfl hb83<|th<|rg<|qv o (e_ldA o Tryz.isAgg174 Tryz.sizeOf174 rfl rfl ((St.ld u).cellsB t1)) fun a o=>ls<|s_blkA o u sizeOf174 rfl rfl rfl rfl (one_cells rfl) .head fun w u=>re<|tn<|wr<|tr<|br<|tr<|br<|tr<|?_
 obtain rfl:=si hm
 exact r1c (vs:=[.slice oaB11 vB10.length capB12,i6 vB15,i6 vB16,i6 vB17]) (.inl rfl) o results162 rfl isAgg174 sizeOf174 rfl ((St.ld u).cellsB t0) ⟨HC1,_,rfl,(show Enc.rep (α:=leadlineref03_Read) HC1 [.slice oaB11 vB10.length capB12,i6 vB15,i6 vB16,i6 vB17] (leadlineref03_Read.mk vB10 vB15 vB16 vB17) from ⟨_,_,rfl,⟨_,_,rfl,hcB13,(hrB14.mono hxHC1.sub)⟩,⟨_,_,rfl,rfl,⟨_,_,rfl,rfl,rfl⟩⟩⟩),(Ext.trans hx25 (Ext.trans hxHB9 hxHC1)),(St.le u),u.keep⟩
 replace hm:=itp_f hm hb83
 refine tn<|cfv o rfl hb83<|wk<|tn<|th<|?_
 obtain ⟨r84,h85,hm⟩:=bs hm
 refine rg<|qm o rfl fun a o=>qv o (e_fa o fa174_1 rfl) fun a o=>qv o (e_ld o isAgg3 rfl ((St.ld u).cellB t1 rfl)) fun a o=>qv o (e_add o rfl rfl) fun a o=>?_
 iterate 2 refine qm o rfl fun a o=>?_
 refine qv o (e_add o rfl rfl) fun a o=>ls<|c1 o rfl call162 (ih_Z2k (St.le u) hc4 (hr5.mono (cp (cp hxHC1.sub hxHB9.sub) hx25.sub)) h85) ⟨rfl,rfl,rfl,rfl,trivial⟩ (fun v w a hR o=>?_)
 obtain ⟨H89,cs90,rfl,g91,hx86,hl87,hk⟩:=hR
 obtain ⟨u,hx86⟩:=And.intro (St.passH u hk hx86 hl87) (St.extc u hx86)
 obtain ⟨oa92,cap93,rfl,hc94,hr95⟩:=leadlineref03_Read_open g91
 refine ls<|a_alloc (cs:=[.slice none 0 0,i6 0,i6 0,i6 0].toArray) o rfl u zeroValue174 rfl fun b96 w a u o=>ls<|s_blkA o u sizeOf174 rfl rfl rfl rfl (one_cells rfl) .head fun w u=>re<|tn<|th<|th<|rg<|qv o (e_fa o fa174_2 rfl) fun a o=>qv o (e_ld o isAgg29 rfl ((St.ld u).cellB t0 rfl)) fun a o=>qv o (e_neq o rfl rfl) fun a o=>re<|?_
 rcases bdich (decide (r84.E≠0)) with hb97 | hb97
 replace hm:=itp_t hm hb97
 refine tn<|ctv o rfl hb97<|th<|rg<|qv o (e_ldA o Tryz.isAgg174 Tryz.sizeOf174 rfl rfl ((St.ld u).cellsB t0)) fun a o=>ls<|s_blkA o u sizeOf174 rfl rfl rfl rfl (one_cells rfl) (.tail .head) fun w u=>re<|tn<|wr<|tr<|br<|tr<|br<|tr<|?_
 obtain rfl:=si hm
 exact r1c (vs:=[.slice oa92 r84.L.length cap93,i6 r84.To,i6 r84.E,i6 r84.At]) (.inl rfl) o results162 rfl isAgg174 sizeOf174 rfl ((St.ld u).cellsB t1) ⟨H89,_,rfl,(show Enc.rep (α:=leadlineref03_Read) H89 [.slice oa92 r84.L.length cap93,i6 r84.To,i6 r84.E,i6 r84.At] r84 from ⟨_,_,rfl,⟨_,_,rfl,hc94,hr95⟩,⟨_,_,rfl,rfl,⟨_,_,rfl,rfl,rfl⟩⟩⟩),(Ext.trans hx25 (Ext.trans hxHB9 (Ext.trans hxHC1 hx86))),(St.le u),u.keep⟩
 replace hm:=itp_f hm hb97
 refine tn<|cfv o rfl hb97<|wk<|tn<|th<|?_
 obtain ⟨x98,h99,hm⟩:=bs hm
 obtain ⟨c100,g101,hl102⟩:=SR.get hr5 h99
 obtain rfl:=api_Token_open g101
 refine rg<|qm o rfl fun a o=>qm o rfl fun a o=>qv o (e_fa o fa174_1 rfl) fun a o=>qv o (e_ld o isAgg3 rfl ((St.ld u).cellB t2 rfl)) fun a o=>qv o (e_iaI o runUnderlying120 sizeOf130 rfl rfl h99 (SR.oaI hr5 (by decide) h99)) fun a o=>qv o (e_fa o fa130_3 rfl) fun a o=>qv o (e_ld o isAgg3 rfl (PH.le.cell (fun b o hx=>(Lds.le (St.ld u)) b o ((cp (cp (cp hx86.sub hxHC1.sub) hxHB9.sub) hx25.sub) b o hx)) (hl102 3 _ rfl))) fun a o=>qv o (e_bldK [i6 vC2,i6 x98.At] [i6 vC2,i6 0,strv [],i6 x98.At] o ⟨rfl,rfl,trivial⟩ (fun w=>by kernel_rfl)) fun a o=>ls<|a_bsl (e:=90) (sz:=4) [i6 vC2,i6 0,strv [],i6 x98.At] o rfl u rfl rfl rfl (fun w=>by kernel_rfl) fun b104 w a u o=>?_
 have hv103:Rows (α:=api_Node) H89 [i6 vC2,i6 0,strv [],i6 x98.At] ([(api_Node.mk vC2 0 [] x98.At)]:List api_Node):=(.cons (c:=[i6 vC2,i6 0,strv [],i6 x98.At]) ⟨_,_,rfl,rfl,⟨_,_,rfl,rfl,⟨_,_,rfl,rfl,rfl⟩⟩⟩ .nil)
 refine qa o rfl fun a o=>re<|tn<|th<|?_
 obtain ⟨l106,h107,hm⟩:=bs hm
 refine rg<|qm o rfl fun a o=>qv o (e_fa o fa174_0 rfl) fun a o=>qv o (e_ld o isAgg49 rfl ((St.ld u).cellB t3 rfl)) fun a o=>?_
 obtain ⟨us112,hd113,hu114⟩:=id (hrB14.mono (cp hx86.sub hxHC1.sub))
 refine ls<|m_app (α:=api_Node) (xs:=([(api_Node.mk vC2 0 [] x98.At)]:List api_Node)) (ys:=vB10) o rfl u underlying49 info90 rfl (by decide) rfl rfl rfl t0 hv103 (u.rdH t0 hd113) hu114 h107 fun oa108 cap109 vs110 w a hv111 hU o=>?_
 replace u:=hU _ .head
 refine qa o rfl fun a o=>re<|tn<|th<|?_
 obtain ⟨l115,h116,hm⟩:=bs hm
 refine rg<|qm o rfl fun a o=>qv o (e_fa o fa174_0 rfl) fun a o=>qv o (e_ld o isAgg49 rfl ((St.ld u).cellB t1 rfl)) fun a o=>?_
 obtain ⟨us121,hd122,hu123⟩:=id hr95
 refine ls<|m_app (α:=api_Node) (xs:=l106) (ys:=r84.L) o rfl u underlying49 info90 rfl (by decide) rfl rfl rfl t0 hv111 (u.rdH t0 hd122) hu123 h116 fun oa117 cap118 vs119 w a hv120 hU o=>?_
 replace u:=hU _ .head
 refine qa o rfl fun a o=>re<|tn<|th<|rg<|qm o rfl fun a o=>qv o (e_fa o fa174_1 rfl) fun a o=>qv o (e_ld o isAgg3 rfl ((St.ld u).cellB t1 rfl)) fun a o=>qv o (e_bldK [.slice oa117 l115.length cap118,i6 r84.To] [.slice oa117 l115.length cap118,i6 r84.To,i6 0,i6 0] o ⟨rfl,rfl,trivial⟩ (fun w=>by kernel_rfl)) fun a o=>ls<|s_blkA o u sizeOf174 rfl rfl rfl rfl (one_cells rfl) (.tail (.tail (.tail .head))) fun w u=>re<|tn<|th<|rg<|qm o rfl fun a o=>qv o (e_eql o rfl rfl) fun a o=>re<|?_
 rcases bdich (decide (p8=2)) with hb124 | hb124
 replace hm:=itp_t hm hb124
 refine tn<|ctv o rfl hb124<|th<|rg<|qv o (e_ldA o Tryz.isAgg174 Tryz.sizeOf174 rfl rfl ((St.ld u).cellsB t3)) fun a o=>ls<|s_blkA o u sizeOf174 rfl rfl rfl rfl (one_cells rfl) (.tail (.tail .head)) fun w u=>re<|tn<|wr<|br<|tr<|br<|tr<|?_
 obtain ⟨H128,hx125,hr126,hc127,u⟩:=St.frzS u .head hv120
 obtain rfl:=si hm
 exact r1c (vs:=[.slice oa117 l115.length cap118,i6 r84.To,i6 0,i6 0]) (.inl rfl) o results162 rfl isAgg174 sizeOf174 rfl ((St.ld u).cellsB t1) ⟨H128,_,rfl,(show Enc.rep (α:=leadlineref03_Read) H128 [.slice oa117 l115.length cap118,i6 r84.To,i6 0,i6 0] (leadlineref03_Read.mk l115 r84.To 0 0) from ⟨_,_,rfl,⟨_,_,rfl,hc127,hr126⟩,⟨_,_,rfl,rfl,⟨_,_,rfl,rfl,rfl⟩⟩⟩),(Ext.trans hx25 (Ext.trans hxHB9 (Ext.trans hxHC1 (Ext.trans hx86 hx125)))),(St.le u),u.keep⟩
 replace hm:=itp_f hm hb124
 refine tn<|cfv o rfl hb124<|wk<|bn<|tn<|?_
 obtain ⟨HB8,hxB5,hrB6,hcB7,u⟩:=St.frzS u .head hv120
 replace u:=u.pk [1,1] rfl
 exact ⟨(nn2,l115,r84.To,0,0),⟨HB8,oa117,cap118,hm,(Ext.trans hxHB9 (Ext.trans hxHC1 (Ext.trans hx86 hxB5))),o.hs,u,hcB7,hrB6⟩,Nat.lt_succ_self _⟩
 replace hm:=itp_f hm hb36
 refine tn<|cfv o rfl hb36<|we<|tx<|tx<|bx<|tn<|?_
 exact ⟨vB10,vB15,vB16,vB17,HB9,oaB11,capB12,hm,hxHB9,o.has ⟨rfl,rfl,trivial⟩,u,hcB13,hrB14⟩
 rintro a w ⟨vA2,vA7,vA8,vA9,HA1,oaA3,capA4,hm,hxHA1,o,u,hcA5,hrA6⟩
 unfold Z2l at hm
 refine th<|rg<|qv o (e_ldA o Tryz.isAgg174 Tryz.sizeOf174 rfl rfl ((St.ld u).cellsB t1)) fun a o=>ls<|s_blkA o u sizeOf174 rfl rfl rfl rfl (one_cells rfl) .head fun w u=>re<|tn<|wr<|?_
 obtain rfl:=si hm
 exact r1c (vs:=[.slice oaA3 vA2.length capA4,i6 vA7,i6 vA8,i6 vA9]) (.inl rfl) o results162 rfl isAgg174 sizeOf174 rfl ((St.ld u).cellsB t0) ⟨HA1,_,rfl,(show Enc.rep (α:=leadlineref03_Read) HA1 [.slice oaA3 vA2.length capA4,i6 vA7,i6 vA8,i6 vA9] (leadlineref03_Read.mk vA2 vA7 vA8 vA9) from ⟨_,_,rfl,⟨_,_,rfl,hcA5,hrA6⟩,⟨_,_,rfl,rfl,⟨_,_,rfl,rfl,rfl⟩⟩⟩),(Ext.trans hx25 hxHA1),(St.le u),u.keep⟩
theorem Z2k_c:∀ (N:Nat) {w0:World} {H:PH} (_:H.le w0) {oa2:Option Addr} {cap3:Nat} {p1:(List api_Token)} (_:p1.length≤cap3) (_:SR H oa2 p1) {p6:Int} {p7:Int} {p8:Int} {r:leadlineref03_Read} (_:Z2k N p1 p6 p7 p8=some r),Tot Tryz.prog 162 #[.slice oa2 p1.length cap3,i6 p6,i6 p7,i6 p8] w0 (fun v w'=>∃ (H':PH) (cs0:List Value),v=.agg cs0.toArray∧Enc.rep H' cs0 r∧Ext w0 H H'∧H'.le w'∧Keep Nil w0 w'):=fun N=>(Z2k_g N).2
theorem Z2r_c (hH:H.le w0) {oa2:Option Addr} {cap3:Nat} {p1:(List api_Token)} (hc4:p1.length≤cap3) (hr5:SR H oa2 p1) {p6:Int} {r:((List api_Node)×Int×Int×Int)} (hm:Z2r N p1 p6=some r):Tot Tryz.prog 142 #[.slice oa2 p1.length cap3,i6 p6] w0 (fun v w'=>∃ (H':PH) (oa0:Option Addr) (cap0:Nat),v=.tuple #[.slice oa0 r.1.length cap0,i6 r.2.1,i6 r.2.2.1,i6 r.2.2.2]∧r.1.length≤cap0∧SR H' oa0 r.1∧Ext w0 H H'∧H'.le w'∧Keep Nil w0 w'):=by
 unfold Z2r at hm
 refine fn0 func142 rfl ntmps142 rfl rfl fun a o=>?_
 have u:St w0 Nil [H] [] w0:=start1 hH
 refine th<|rg<|qa o rfl fun a o=>?_
 iterate 3 refine qa o rfl fun a o=>?_
 refine re<|tn<|th<|th<|rg<|qm o rfl fun a o=>qv o (e_lss o rfl rfl) fun a o=>re<|?_
 rcases bdich (decide (p6 < 0)) with hb7 | hb7
 replace hm:=itp_t hm hb7
 refine tn<|ctv o rfl hb7<|th<|rg<|qa o rfl fun a o=>?_
 iterate 3 refine qa o rfl fun a o=>?_
 refine re<|tn<|wr<|tr<|?_
 obtain rfl:=si hm
 exact Go.LM.r4 o results142 rfl rfl rfl rfl ⟨H,_,_,rfl,(Nat.le_refl 0),(SR.nil _ _),(Ext.refl _ _),(St.le u),u.keep⟩
 replace hm:=itp_f hm hb7
 refine tn<|cfv o rfl hb7<|wk<|tn<|th<|?_
 obtain ⟨rz8,h9,hm⟩:=bs hm
 refine rg<|qm o rfl fun a o=>qm o rfl fun a o=>ls<|c1 o rfl call162 (Z2k_c _ (St.le u) hc4 hr5 h9) ⟨rfl,rfl,rfl,rfl,trivial⟩ (fun v w a hR o=>?_)
 obtain ⟨H13,cs14,rfl,g15,hx10,hl11,hk⟩:=hR
 obtain ⟨u,hx10⟩:=And.intro (St.passH u hk hx10 hl11) (St.extc u hx10)
 obtain ⟨oa16,cap17,rfl,hc18,hr19⟩:=leadlineref03_Read_open g15
 refine ls<|a_alloc (cs:=[.slice none 0 0,i6 0,i6 0,i6 0].toArray) o rfl u zeroValue174 rfl fun b20 w a u o=>ls<|s_blkA o u sizeOf174 rfl rfl rfl rfl (one_cells rfl) .head fun w u=>re<|tn<|th<|th<|rg<|qv o (e_fa o fa174_2 rfl) fun a o=>qv o (e_ld o isAgg29 rfl ((St.ld u).cellB t0 rfl)) fun a o=>qv o (e_neq o rfl rfl) fun a o=>re<|?_
 rcases bdich (decide (rz8.E≠0)) with hb21 | hb21
 replace hm:=itp_t hm hb21
 refine tn<|ctv o rfl hb21<|th<|rxS 8 u wide (by kernel_rfl) fun w u=>xr u o (e_fa o fa174_2 rfl) fun a o=>xq (St.ld u) o (fun w hl=>e_ld o isAgg29 rfl (hl.cellB t0 rfl)) fun a o=>xr u o (e_fa o fa174_3 rfl) fun a o=>xq (St.ld u) o (fun w hl=>e_ld o isAgg3 rfl (hl.cellB t0 rfl)) fun a o=>?_
 iterate 4 refine xq (St.ld u) o (fun w hl=>e_asg o rfl) fun a o=>?_
 refine xe<|tn<|wr<|tr<|?_
 obtain rfl:=si hm
 exact Go.LM.r4 o results142 rfl rfl rfl rfl ⟨H13,_,_,rfl,(Nat.le_refl 0),(SR.nil _ _),hx10,(St.le u),u.keep⟩
 replace hm:=itp_f hm hb21
 refine tn<|cfv o rfl hb21<|wk<|tn<|th<|th<|?_
 obtain ⟨r22,h23,hm⟩:=bs hm
 refine rg<|qv o (e_fa o fa174_0 rfl) fun a o=>qv o (e_ld o isAgg49 rfl ((St.ld u).cellB t0 rfl)) fun a o=>ls<|cq o call134 (Z2z_c _ (hp_le _) hc18 (St.srH u hr19) h23) ⟨rfl,rfl,trivial⟩ u fun w a u o=>qv o (e_gtr o rfl rfl) fun a o=>re<|?_
 rcases bdich (decide (12 < r22)) with hb24 | hb24
 replace hm:=itp_t hm hb24
 refine tn<|ctv o rfl hb24<|th<|?_
 obtain ⟨x25,h26,hm⟩:=bs hm
 obtain ⟨c27,g28,hl29⟩:=SR.get hr5 h26
 obtain rfl:=api_Token_open g28
 refine rxS 9 u wide (by kernel_rfl) fun w u=>?_
 iterate 2 refine xq (St.ld u) o (fun w hl=>e_move o rfl) fun a o=>?_
 refine xr u o (e_iaI o runUnderlying120 sizeOf130 rfl rfl h26 (SR.oaI hr5 (by decide) h26)) fun a o=>xr u o (e_fa o fa130_3 rfl) fun a o=>xq (St.ld u) o (fun w hl=>e_ld o isAgg3 rfl (PH.le.cell (fun b o hx=>(Lds.le hl) b o (hx10.sub b o hx)) (hl29 3 _ rfl))) fun a o=>?_
 iterate 4 refine xq (St.ld u) o (fun w hl=>e_asg o rfl) fun a o=>?_
 refine xe<|tn<|wr<|tr<|?_
 obtain rfl:=si hm
 exact Go.LM.r4 o results142 rfl rfl rfl rfl ⟨H13,_,_,rfl,(Nat.le_refl 0),(SR.nil _ _),hx10,(St.le u),u.keep⟩
 replace hm:=itp_f hm hb24
 refine tn<|cfv o rfl hb24<|wk<|tn<|th<|th<|rg<|qv o (e_fa o fa174_0 rfl) fun a o=>qv o (e_ld o isAgg49 rfl ((St.ld u).cellB t0 rfl)) fun a o=>qv o (e_lenL (α:=api_Node) (xs:=rz8.L) o runUnderlying49 rfl) fun a o=>qv o (e_gtr o rfl rfl) fun a o=>re<|?_
 rcases bdich (decide (40 < (rz8.L.length:Int))) with hb30 | hb30
 replace hm:=itp_t hm hb30
 refine tn<|ctv o rfl hb30<|th<|?_
 obtain ⟨x31,h32,hm⟩:=bs hm
 obtain ⟨c33,g34,hl35⟩:=SR.get hr5 h32
 obtain rfl:=api_Token_open g34
 refine rxS 9 u wide (by kernel_rfl) fun w u=>?_
 iterate 2 refine xq (St.ld u) o (fun w hl=>e_move o rfl) fun a o=>?_
 refine xr u o (e_iaI o runUnderlying120 sizeOf130 rfl rfl h32 (SR.oaI hr5 (by decide) h32)) fun a o=>xr u o (e_fa o fa130_3 rfl) fun a o=>xq (St.ld u) o (fun w hl=>e_ld o isAgg3 rfl (PH.le.cell (fun b o hx=>(Lds.le hl) b o (hx10.sub b o hx)) (hl35 3 _ rfl))) fun a o=>?_
 iterate 4 refine xq (St.ld u) o (fun w hl=>e_asg o rfl) fun a o=>?_
 refine xe<|tn<|wr<|tr<|?_
 obtain rfl:=si hm
 exact Go.LM.r4 o results142 rfl rfl rfl rfl ⟨H13,_,_,rfl,(Nat.le_refl 0),(SR.nil _ _),hx10,(St.le u),u.keep⟩
 replace hm:=itp_f hm hb30
 refine tn<|cfv o rfl hb30<|wk<|tn<|th<|rxS 8 u wide (by kernel_rfl) fun w u=>xr u o (e_fa o fa174_0 rfl) fun a o=>xq (St.ld u) o (fun w hl=>e_ld o isAgg49 rfl (hl.cellB t0 rfl)) fun a o=>xr u o (e_fa o fa174_1 rfl) fun a o=>xq (St.ld u) o (fun w hl=>e_ld o isAgg3 rfl (hl.cellB t0 rfl)) fun a o=>?_
 iterate 4 refine xq (St.ld u) o (fun w hl=>e_asg o rfl) fun a o=>?_
 refine xe<|tn<|wr<|?_
 obtain rfl:=si hm
 exact Go.LM.r4 o results142 rfl rfl rfl rfl ⟨H13,_,_,rfl,hc18,hr19,hx10,(St.le u),u.keep⟩
theorem Z3h_c (hH:H.le w0) {b2:Nat} {p1:leadlineref04_P} {oa3:Option Addr} {cap4:Nat} (hc5:p1.L.length≤cap4) (hr6:SR H oa3 p1.L) {oa7:Option Addr} {cap8:Nat} {vs9:List Value} (hv10:Rows H vs9 p1.Out) (hO:(sepA [blk b2 (.cells [.slice oa3 p1.L.length cap4,i6 p1.At,i6 p1.E,i6 p1.Pos,.slice oa7 p1.Out.length cap8].toArray 171 (0,0)),sla 51 9 oa7 p1.Out.length cap8 vs9]).ok (hp w0)) (hD:∀ b,(sepA [blk b2 (.cells [.slice oa3 p1.L.length cap4,i6 p1.At,i6 p1.E,i6 p1.Pos,.slice oa7 p1.Out.length cap8].toArray 171 (0,0)),sla 51 9 oa7 p1.Out.length cap8 vs9]).fp b→H b=none) {r:((List api_Node)×leadlineref04_P)} (hm:Z3h N p1=some r):Tot Tryz.prog 176 #[.pointer (some ⟨b2,0,none⟩)] w0 (fun v w'=>∃ (H':PH) (oa0:Option Addr) (cap0:Nat) (oa1m:Option Addr) (cap1m:Nat) (oa2m:Option Addr) (cap2m:Nat) (vs2m:List Value),v=.slice oa0 r.1.length cap0∧r.1.length≤cap0∧SR H' oa0 r.1∧r.2.L.length≤cap1m∧SR H' oa1m r.2.L∧Rows H' vs2m r.2.Out∧ExtM w0 (sepA [blk b2 (.cells [.slice oa3 p1.L.length cap4,i6 p1.At,i6 p1.E,i6 p1.Pos,.slice oa7 p1.Out.length cap8].toArray 171 (0,0)),sla 51 9 oa7 p1.Out.length cap8 vs9]).fp H H'∧H'.le w'∧(∀ b,(sepA [blk b2 (.cells [.slice oa1m r.2.L.length cap1m,i6 r.2.At,i6 r.2.E,i6 r.2.Pos,.slice oa2m r.2.Out.length cap2m].toArray 171 (0,0)),sla 51 9 oa2m r.2.Out.length cap2m vs2m]).fp b→H' b=none)∧Mut w0 (sepA [blk b2 (.cells [.slice oa3 p1.L.length cap4,i6 p1.At,i6 p1.E,i6 p1.Pos,.slice oa7 p1.Out.length cap8].toArray 171 (0,0)),sla 51 9 oa7 p1.Out.length cap8 vs9]) (sepA [blk b2 (.cells [.slice oa1m r.2.L.length cap1m,i6 r.2.At,i6 r.2.E,i6 r.2.Pos,.slice oa2m r.2.Out.length cap2m].toArray 171 (0,0)),sla 51 9 oa2m r.2.Out.length cap2m vs2m]) w'):=by
 unfold Z3h at hm
 refine fn0 func176 rfl ntmps176 rfl rfl fun a o=>?_
 have u:=startM hH hO hD
 refine th<|rg<|qa o rfl fun a o=>re<|tn<|th<|th<|rg<|qm o rfl fun a o=>qv o (e_nilp o rfl) fun a o=>qv o (e_fa o fa171_2 rfl) fun a o=>qv o (e_ld o isAgg29 rfl ((St.ld u).cellB t0 rfl)) fun a o=>qv o (e_neq o rfl rfl) fun a o=>re<|?_
 rcases bdich (decide (p1.E≠0)) with hb12 | hb12
 replace hm:=itp_t hm hb12
 refine tn<|ctv o rfl hb12<|th<|rg<|qa o rfl fun a o=>re<|tn<|wr<|tr<|?_
 obtain rfl:=si hm
 exact r1 o results176 rfl ⟨H,_,_,oa3,cap4,oa7,cap8,vs9,rfl,(Nat.le_refl 0),(SR.nil _ _),hc5,hr6,hv10,(ExtM.refl _ _ _),(St.le u),(St.disL (u.pickL (.cons .head (.cons .head .nil)))),(u.pickL (.cons .head (.cons .head .nil))).endMut⟩
 replace hm:=itp_f hm hb12
 refine tn<|cfv o rfl hb12<|wk<|tn<|th<|?_
 obtain ⟨r13,h14,hm⟩:=bs hm
 refine rdS 18 u wide fun w u=>dr 0 u o rfl (e_move o rfl) fun a o=>dr 1 u o rfl (e_nilp o rfl) fun a o=>dr 2 u o rfl (e_fa o fa171_0 rfl) fun a o=>dq 3 (St.ld u) o rfl (fun w hl=>e_ld o isAgg120 rfl (hl.cellB t0 rfl)) fun a o=>dr 4 u o rfl (e_move o rfl) fun a o=>dr 5 u o rfl (e_nilp o rfl) fun a o=>dr 6 u o rfl (e_fa o fa171_1 rfl) fun a o=>dq 7 (St.ld u) o rfl (fun w hl=>e_ld o isAgg3 rfl (hl.cellB t0 rfl)) fun a o=>da1 (i:=8) (by kernel_rfl) ?_
 refine di (i:=8) rfl<|c1 o rfl call142 (Z2r_c (St.le u) hc5 hr6 h14) ⟨rfl,rfl,trivial⟩ (fun v w a hR o=>?_)
 obtain ⟨H18,oa19,cap20,rfl,hc21,hr22,hx15,hl16,hk⟩:=hR
 obtain ⟨u,hx15⟩:=And.intro (St.passH u hk hx15 hl16) (St.extcM u hx15)
 refine ⟨fun _=>(St.ldsX u hx15.sub i1),?_⟩
 refine ds 9 (St.ldsX u hx15.sub i1) o rfl (e_move o rfl) fun a o=>ds 10 (St.ldsX u hx15.sub i1) o rfl (e_ext o rfl rfl) fun a o=>ds 11 (St.ldsX u hx15.sub i1) o rfl (e_ext o rfl rfl) fun a o=>ds 12 (St.ldsX u hx15.sub i1) o rfl (e_ext o rfl rfl) fun a o=>ds 13 (St.ldsX u hx15.sub i1) o rfl (e_ext o rfl rfl) fun a o=>ds 14 (St.ldsX u hx15.sub i1) o rfl (e_asg o rfl) fun a o=>ds 15 (St.ldsX u hx15.sub i1) o rfl (e_asg o rfl) fun a o=>ds 16 (St.ldsX u hx15.sub i1) o rfl (e_asg o rfl) fun a o=>ds 17 (St.ldsX u hx15.sub i1) o rfl (e_asg o rfl) fun a o=>de (by kernel_rfl)<|tn<|th<|th<|rg<|qm o rfl fun a o=>qv o (e_neq o rfl rfl) fun a o=>re<|?_
 rcases bdich (decide (r13.2.2.1≠0)) with hb23 | hb23
 replace hm:=itp_t hm hb23
 refine tn<|ctv o rfl hb23<|th<|rg<|qm o rfl fun a o=>qm o rfl fun a o=>qv o (e_nilp o rfl) fun a o=>qv o (e_fa o fa171_2 rfl) fun a o=>ls<|s_blk o u sizeOf29 rfl rfl rfl rfl .head (.succ (.succ .zero)) fun w u=>re<|tn<|th<|rg<|qm o rfl fun a o=>qm o rfl fun a o=>qv o (e_nilp o rfl) fun a o=>qv o (e_fa o fa171_3 rfl) fun a o=>ls<|s_blk o u sizeOf3 rfl rfl rfl rfl .head (.succ (.succ (.succ .zero))) fun w u=>re<|tn<|th<|rg<|qa o rfl fun a o=>re<|tn<|wr<|tr<|?_
 obtain rfl:=si hm
 exact r1 o results176 rfl ⟨H18,_,_,oa3,cap4,oa7,cap8,vs9,rfl,(Nat.le_refl 0),(SR.nil _ _),hc5,(hr6.mono hx15.sub),(hv10.mono hx15.sub),hx15,(St.le u),(St.disL (u.pickL (.cons .head (.cons .head .nil)))),(u.pickL (.cons .head (.cons .head .nil))).endMut⟩
 replace hm:=itp_f hm hb23
 refine tn<|cfv o rfl hb23<|wk<|tn<|th<|rg<|qm o rfl fun a o=>qm o rfl fun a o=>qv o (e_nilp o rfl) fun a o=>qv o (e_fa o fa171_1 rfl) fun a o=>ls<|s_blk o u sizeOf3 rfl rfl rfl rfl .head (.succ .zero) fun w u=>re<|tn<|th<|rg<|qm o rfl fun a o=>qa o rfl fun a o=>re<|tn<|wr<|?_
 obtain rfl:=si hm
 exact r1 o results176 rfl ⟨H18,_,_,oa3,cap4,oa7,cap8,vs9,rfl,hc21,hr22,hc5,(hr6.mono hx15.sub),(hv10.mono hx15.sub),hx15,(St.le u),(St.disL (u.pickL (.cons .head (.cons .head .nil)))),(u.pickL (.cons .head (.cons .head .nil))).endMut⟩
set_option maxHeartbeats 4000000 in
theorem Z3z_c (hH:H.le w0) {b2:Nat} {p1:leadlineref04_P} {oa3:Option Addr} {cap4:Nat} (hc5:p1.L.length≤cap4) (hr6:SR H oa3 p1.L) {oa7:Option Addr} {cap8:Nat} {vs9:List Value} (hv10:Rows H vs9 p1.Out) (hO:(sepA [blk b2 (.cells [.slice oa3 p1.L.length cap4,i6 p1.At,i6 p1.E,i6 p1.Pos,.slice oa7 p1.Out.length cap8].toArray 171 (0,0)),sla 51 9 oa7 p1.Out.length cap8 vs9]).ok (hp w0)) (hD:∀ b,(sepA [blk b2 (.cells [.slice oa3 p1.L.length cap4,i6 p1.At,i6 p1.E,i6 p1.Pos,.slice oa7 p1.Out.length cap8].toArray 171 (0,0)),sla 51 9 oa7 p1.Out.length cap8 vs9]).fp b→H b=none) {r:(Int×leadlineref04_P)} (hm:Z3z N p1=some r):Tot Tryz.prog 177 #[.pointer (some ⟨b2,0,none⟩)] w0 (fun v w'=>∃ (H':PH) (oa1m:Option Addr) (cap1m:Nat) (oa2m:Option Addr) (cap2m:Nat) (vs2m:List Value),v=i6 r.1∧r.2.L.length≤cap1m∧SR H' oa1m r.2.L∧Rows H' vs2m r.2.Out∧ExtM w0 (sepA [blk b2 (.cells [.slice oa3 p1.L.length cap4,i6 p1.At,i6 p1.E,i6 p1.Pos,.slice oa7 p1.Out.length cap8].toArray 171 (0,0)),sla 51 9 oa7 p1.Out.length cap8 vs9]).fp H H'∧H'.le w'∧(∀ b,(sepA [blk b2 (.cells [.slice oa1m r.2.L.length cap1m,i6 r.2.At,i6 r.2.E,i6 r.2.Pos,.slice oa2m r.2.Out.length cap2m].toArray 171 (0,0)),sla 51 9 oa2m r.2.Out.length cap2m vs2m]).fp b→H' b=none)∧Mut w0 (sepA [blk b2 (.cells [.slice oa3 p1.L.length cap4,i6 p1.At,i6 p1.E,i6 p1.Pos,.slice oa7 p1.Out.length cap8].toArray 171 (0,0)),sla 51 9 oa7 p1.Out.length cap8 vs9]) (sepA [blk b2 (.cells [.slice oa1m r.2.L.length cap1m,i6 r.2.At,i6 r.2.E,i6 r.2.Pos,.slice oa2m r.2.Out.length cap2m].toArray 171 (0,0)),sla 51 9 oa2m r.2.Out.length cap2m vs2m]) w'):=by
 unfold Z3z at hm
 refine fn0 func177 rfl ntmps177 rfl rfl fun a o=>?_
 have u:=startM hH hO hD
 refine th<|rg<|qa o rfl fun a o=>re<|tn<|th<|th<|midK (fun a w=>∃ (vA1:Bool),(Z40 N p1) vA1=some r∧Fr 65 [(0,.pointer (some ⟨b2,0,none⟩)),(34,.bool vA1)] a∧St w0 (sepA [blk b2 (.cells [.slice oa3 p1.L.length cap4,i6 p1.At,i6 p1.E,i6 p1.Pos,.slice oa7 p1.Out.length cap8].toArray 171 (0,0)),sla 51 9 oa7 p1.Out.length cap8 vs9]).fp [H] [sla 51 9 oa7 p1.Out.length cap8 vs9,blk b2 (.cells [.slice oa3 p1.L.length cap4,i6 p1.At,i6 p1.E,i6 p1.Pos,.slice oa7 p1.Out.length cap8].toArray 171 (0,0))] w) ?_ ?_
 rcases bdich ((decide (p1.E=0)) && (decide (p1.At < (p1.L.length:Int)))) with hb12 | hb12
 replace hm:=ite_t hm hb12
 obtain ⟨x13,h14,hm⟩:=bs hm
 obtain ⟨c15,g16,hl17⟩:=SR.get hr6 h14
 obtain rfl:=api_Token_open g16
 refine rxS 31 u wide (by kernel_rfl) fun w u=>xm u o rfl fun a o=>xr u o (e_nilp o rfl) fun a o=>xr u o (e_fa o fa171_2 rfl) fun a o=>xq (St.ld u) o (fun w hl=>e_ld o isAgg29 rfl (hl.cellB t0 rfl)) fun a o=>xr u o (e_eql o rfl rfl) fun a o=>xm u o rfl fun a o=>grpX (N:=65) (Fk:=[(0,.pointer (some ⟨b2,0,none⟩)),(20,.bool ((decide (p1.E=0)) && (decide (p1.At < (p1.L.length:Int)))))]) (b:=(decide (p1.E=0))) 11 u ?_ ?_ ?_
 intro hb key
 replace o:=Fr.as o (t:=9) rfl (congrArg Value.bool hb)
 refine xg (St.ld u) o (fun w hl=>e_move o rfl) fun a o=>xg (St.ld u) o (fun w hl=>e_nilp o rfl) fun a o=>xg (St.ld u) o (fun w hl=>e_fa o fa171_1 rfl) fun a o=>xg (St.ld u) o (fun w hl=>e_ld o isAgg3 rfl (hl.cellB t0 rfl)) fun a o=>xg (St.ld u) o (fun w hl=>e_move o rfl) fun a o=>xg (St.ld u) o (fun w hl=>e_nilp o rfl) fun a o=>xg (St.ld u) o (fun w hl=>e_fa o fa171_0 rfl) fun a o=>xg (St.ld u) o (fun w hl=>e_ld o isAgg120 rfl (hl.cellB t0 rfl)) fun a o=>xg (St.ld u) o (fun w hl=>e_lenL (α:=api_Token) (xs:=p1.L) o runUnderlying120 rfl) fun a o=>xg (St.ld u) o (fun w hl=>e_lss o rfl rfl) fun a o=>xr u o (e_as (v':=.bool ((decide (p1.E=0)) && (decide (p1.At < (p1.L.length:Int))))) (e_pickT o rfl rfl) (by rw [hb];rfl)) fun a o=>?_
 exact key _ _ (o.has ⟨rfl,rfl,trivial⟩) u
 intro hb key
 replace o:=Fr.as o (t:=9) rfl (congrArg Value.bool hb)
 iterate 10 refine xn (St.ld u) o fun a o=>?_
 refine xr u o (e_as (v':=.bool ((decide (p1.E=0)) && (decide (p1.At < (p1.L.length:Int))))) (e_pickF o rfl rfl) (by rw [hb];rfl)) fun a o=>?_
 exact key _ _ (o.has ⟨rfl,rfl,trivial⟩) u
 intro a w o u
 refine xr u o (e_as (e_move o rfl) (congrArg Value.bool hb12)) fun a o=>xg (St.ld u) o (fun w hl=>e_move o rfl) fun a o=>xg (St.ld u) o (fun w hl=>e_nilp o rfl) fun a o=>xg (St.ld u) o (fun w hl=>e_fa o fa171_0 rfl) fun a o=>xg (St.ld u) o (fun w hl=>e_ld o isAgg120 rfl (hl.cellB t0 rfl)) fun a o=>xg (St.ld u) o (fun w hl=>e_move o rfl) fun a o=>xg (St.ld u) o (fun w hl=>e_nilp o rfl) fun a o=>xg (St.ld u) o (fun w hl=>e_fa o fa171_1 rfl) fun a o=>xg (St.ld u) o (fun w hl=>e_ld o isAgg3 rfl (hl.cellB t0 rfl)) fun a o=>xg (St.ld u) o (fun w hl=>e_iaI o runUnderlying120 sizeOf130 rfl rfl h14 (SR.oaI hr6 (by decide) h14)) fun a o=>xg (St.ld u) o (fun w hl=>e_fa o fa130_0 rfl) fun a o=>xg (St.ld u) o (fun w hl=>e_ld o isAgg3 rfl (PH.le.cell (Lds.le hl) (hl17 0 _ rfl))) fun a o=>xg (St.ld u) o (fun w hl=>e_eql o rfl rfl) fun a o=>xr u o (e_pickT o rfl rfl) fun a o=>xe<|tn<|?_
 replace u:=u.pk [1,0] rfl
 exact ⟨(decide (x13.Kind=2)),hm,o.has ⟨rfl,rfl,trivial⟩,u⟩
 replace hm:=ite_f hm hb12
 refine rxS 31 u wide (by kernel_rfl) fun w u=>xm u o rfl fun a o=>xr u o (e_nilp o rfl) fun a o=>xr u o (e_fa o fa171_2 rfl) fun a o=>xq (St.ld u) o (fun w hl=>e_ld o isAgg29 rfl (hl.cellB t0 rfl)) fun a o=>xr u o (e_eql o rfl rfl) fun a o=>xm u o rfl fun a o=>grpX (N:=65) (Fk:=[(0,.pointer (some ⟨b2,0,none⟩)),(20,.bool ((decide (p1.E=0)) && (decide (p1.At < (p1.L.length:Int)))))]) (b:=(decide (p1.E=0))) 11 u ?_ ?_ ?_
 intro hb key
 replace o:=Fr.as o (t:=9) rfl (congrArg Value.bool hb)
 refine xg (St.ld u) o (fun w hl=>e_move o rfl) fun a o=>xg (St.ld u) o (fun w hl=>e_nilp o rfl) fun a o=>xg (St.ld u) o (fun w hl=>e_fa o fa171_1 rfl) fun a o=>xg (St.ld u) o (fun w hl=>e_ld o isAgg3 rfl (hl.cellB t0 rfl)) fun a o=>xg (St.ld u) o (fun w hl=>e_move o rfl) fun a o=>xg (St.ld u) o (fun w hl=>e_nilp o rfl) fun a o=>xg (St.ld u) o (fun w hl=>e_fa o fa171_0 rfl) fun a o=>xg (St.ld u) o (fun w hl=>e_ld o isAgg120 rfl (hl.cellB t0 rfl)) fun a o=>xg (St.ld u) o (fun w hl=>e_lenL (α:=api_Token) (xs:=p1.L) o runUnderlying120 rfl) fun a o=>xg (St.ld u) o (fun w hl=>e_lss o rfl rfl) fun a o=>xr u o (e_as (v':=.bool ((decide (p1.E=0)) && (decide (p1.At < (p1.L.length:Int))))) (e_pickT o rfl rfl) (by rw [hb];rfl)) fun a o=>?_
 exact key _ _ (o.has ⟨rfl,rfl,trivial⟩) u
 intro hb key
 replace o:=Fr.as o (t:=9) rfl (congrArg Value.bool hb)
 iterate 10 refine xn (St.ld u) o fun a o=>?_
 refine xr u o (e_as (v':=.bool ((decide (p1.E=0)) && (decide (p1.At < (p1.L.length:Int))))) (e_pickF o rfl rfl) (by rw [hb];rfl)) fun a o=>?_
 exact key _ _ (o.has ⟨rfl,rfl,trivial⟩) u
 intro a w o u
 refine xr u o (e_as (e_move o rfl) (congrArg Value.bool hb12)) fun a o=>?_
 iterate 12 refine xn (St.ld u) o fun a o=>?_
 refine xr u o (e_pickF o rfl rfl) fun a o=>xe<|tn<|?_
 replace u:=u.pk [1,0] rfl
 exact ⟨false,hm,o.has ⟨rfl,rfl,trivial⟩,u⟩
 rintro a w ⟨vA1,hm,o,u⟩
 unfold Z40 at hm
 rcases bdich vA1 with hb18 | hb18
 replace hm:=ite_t hm hb18
 refine ctv o rfl hb18<|th<|?_
 obtain ⟨x19,h20,hm⟩:=bs hm
 obtain ⟨c21,g22,hl23⟩:=SR.get hr6 h20
 obtain rfl:=api_Token_open g22
 refine rxS 12 u wide (by kernel_rfl) fun w u=>xm u o rfl fun a o=>xr u o (e_nilp o rfl) fun a o=>xr u o (e_fa o fa171_0 rfl) fun a o=>xq (St.ld u) o (fun w hl=>e_ld o isAgg120 rfl (hl.cellB t1 rfl)) fun a o=>xm u o rfl fun a o=>xr u o (e_nilp o rfl) fun a o=>xr u o (e_fa o fa171_1 rfl) fun a o=>xq (St.ld u) o (fun w hl=>e_ld o isAgg3 rfl (hl.cellB t1 rfl)) fun a o=>xr u o (e_iaI o runUnderlying120 sizeOf130 rfl rfl h20 (SR.oaI hr6 (by decide) h20)) fun a o=>xr u o (e_fa o fa130_2 rfl) fun a o=>xq (St.ld u) o (fun w hl=>e_ld o isAgg3 rfl (PH.le.cell (Lds.le hl) (hl23 2 _ rfl))) fun a o=>xr u o (e_asg o rfl) fun a o=>xe<|tn<|th<|th<|rg<|qm o rfl fun a o=>qv o (e_geq o rfl rfl) fun a o=>qm o rfl fun a o=>grp (N:=65) (Fk:=[(0,.pointer (some ⟨b2,0,none⟩)),(3,i6 x19.N),(51,.bool ((decide (1≤x19.N)) && (decide (x19.N≤8))))]) (b:=(decide (1≤x19.N))) 3 u ?_ ?_ ?_
 intro hb key
 replace o:=Fr.as o (t:=48) rfl (congrArg Value.bool hb)
 refine qg o (e_move o rfl) fun a o=>qg o (e_leq o rfl rfl) fun a o=>qv o (e_as (v':=.bool ((decide (1≤x19.N)) && (decide (x19.N≤8)))) (e_pickT o rfl rfl) (by rw [hb];rfl)) fun a o=>?_
 exact key _ _ (o.hs) u
 intro hb key
 replace o:=Fr.as o (t:=48) rfl (congrArg Value.bool hb)
 iterate 2 refine qn o fun a o=>?_
 refine qv o (e_as (v':=.bool ((decide (1≤x19.N)) && (decide (x19.N≤8)))) (e_pickF o rfl rfl) (by rw [hb];rfl)) fun a o=>?_
 exact key _ _ (o.hs) u
 intro a w o u
 refine re<|?_
 rcases bdich ((decide (1≤x19.N)) && (decide (x19.N≤8))) with hb24 | hb24
 replace hm:=ite_t hm hb24
 refine tn<|ctv o rfl hb24<|th<|rg<|qm o rfl fun a o=>qm o rfl fun a o=>qv o (e_nilp o rfl) fun a o=>qv o (e_fa o fa171_1 rfl) fun a o=>qv o (e_ld o isAgg3 rfl ((St.ld u).cellB t1 rfl)) fun a o=>qv o (e_add o rfl rfl) fun a o=>qv o (e_nilp o rfl) fun a o=>qv o (e_fa o fa171_1 rfl) fun a o=>ls<|s_blk o u sizeOf3 rfl rfl rfl rfl (.tail .head) (.succ .zero) fun w u=>re<|tn<|th<|rg<|qm o rfl fun a o=>qa o rfl fun a o=>re<|tn<|wr<|tr<|tr<|?_
 obtain rfl:=si hm
 exact r1 o results177 rfl ⟨H,oa3,cap4,oa7,cap8,vs9,rfl,hc5,hr6,hv10,(ExtM.refl _ _ _),(St.le u),(St.disL (u.pickL (.cons (.tail .head) (.cons .head .nil)))),(u.pickL (.cons (.tail .head) (.cons .head .nil))).endMut⟩
 replace hm:=ite_f hm hb24
 refine tn<|cfv o rfl hb24<|wk<|tn<|th<|?_
 obtain ⟨r25,h26,hm⟩:=bs hm
 refine rg<|qm o rfl fun a o=>?_
 replace u:=u.pk [1,0] rfl
 replace u:=St.sep [blk b2 (.cells [.slice oa3 p1.L.length cap4,i6 p1.At,i6 p1.E,i6 p1.Pos,.slice oa7 p1.Out.length cap8].toArray 171 (0,0)),sla 51 9 oa7 p1.Out.length cap8 vs9] u
 refine ls<|c1 o rfl call167 (Z39_c (St.le u) (p1:=(leadlineref04_P.mk p1.L p1.At p1.E p1.Pos p1.Out)) (b2:=b2) (oa3:=oa3) (cap4:=cap4) (oa7:=oa7) (cap8:=cap8) (vs9:=vs9) hc5 hr6 hv10 (St.sepOk u) (St.sepDis u) h26) ⟨rfl,rfl,trivial⟩ (fun v w a hR o=>?_)
 obtain ⟨H30,oa31,cap32,oa35,cap36,vs37,rfl,hc33,hr34,hv38,hx27,hl28,hd29,hk⟩:=hR
 obtain ⟨u,hx27⟩:=And.intro (St.mutH u hk hx27 hl28 hd29) (St.extcMM u hx27)
 replace u:=u.unsep
 refine re<|tn<|th<|rg<|qa o rfl fun a o=>re<|tn<|wr<|tr<|?_
 obtain rfl:=si hm
 exact r1 o results177 rfl ⟨H30,oa31,cap32,oa35,cap36,vs37,rfl,hc33,hr34,hv38,hx27,(St.le u),(St.disL (u.pickL (.cons .head (.cons .head .nil)))),(u.pickL (.cons .head (.cons .head .nil))).endMut⟩
 replace hm:=ite_f hm hb18
 refine cfv o rfl hb18<|wk<|tn<|th<|?_
 obtain ⟨r40,h41,hm⟩:=bs hm
 refine rg<|qm o rfl fun a o=>?_
 replace u:=u.pk [1,0] rfl
 replace u:=St.sep [blk b2 (.cells [.slice oa3 p1.L.length cap4,i6 p1.At,i6 p1.E,i6 p1.Pos,.slice oa7 p1.Out.length cap8].toArray 171 (0,0)),sla 51 9 oa7 p1.Out.length cap8 vs9] u
 refine ls<|c1 o rfl call167 (Z39_c (St.le u) (p1:=(leadlineref04_P.mk p1.L p1.At p1.E p1.Pos p1.Out)) (b2:=b2) (oa3:=oa3) (cap4:=cap4) (oa7:=oa7) (cap8:=cap8) (vs9:=vs9) hc5 hr6 hv10 (St.sepOk u) (St.sepDis u) h41) ⟨rfl,rfl,trivial⟩ (fun v w a hR o=>?_)
 obtain ⟨H45,oa46,cap47,oa50,cap51,vs52,rfl,hc48,hr49,hv53,hx42,hl43,hd44,hk⟩:=hR
 obtain ⟨u,hx42⟩:=And.intro (St.mutH u hk hx42 hl43 hd44) (St.extcMM u hx42)
 replace u:=u.unsep
 refine re<|tn<|th<|rg<|qa o rfl fun a o=>re<|tn<|wr<|?_
 obtain rfl:=si hm
 exact r1 o results177 rfl ⟨H45,oa46,cap47,oa50,cap51,vs52,rfl,hc48,hr49,hv53,hx42,(St.le u),(St.disL (u.pickL (.cons .head (.cons .head .nil)))),(u.pickL (.cons .head (.cons .head .nil))).endMut⟩
set_option maxHeartbeats 4000000 in
theorem Z3v_c (hH:H.le w0) {b2:Nat} {p1:leadlineref04_P} {oa3:Option Addr} {cap4:Nat} (hc5:p1.L.length≤cap4) (hr6:SR H oa3 p1.L) {oa7:Option Addr} {cap8:Nat} {vs9:List Value} (hv10:Rows H vs9 p1.Out) {p12:Int} {p13:Int} (hO:(sepA [blk b2 (.cells [.slice oa3 p1.L.length cap4,i6 p1.At,i6 p1.E,i6 p1.Pos,.slice oa7 p1.Out.length cap8].toArray 171 (0,0)),sla 51 9 oa7 p1.Out.length cap8 vs9]).ok (hp w0)) (hD:∀ b,(sepA [blk b2 (.cells [.slice oa3 p1.L.length cap4,i6 p1.At,i6 p1.E,i6 p1.Pos,.slice oa7 p1.Out.length cap8].toArray 171 (0,0)),sla 51 9 oa7 p1.Out.length cap8 vs9]).fp b→H b=none) {r:(api_Stmt×leadlineref04_P)} (hm:Z3v N p1 p12 p13=some r):Tot Tryz.prog 168 #[.pointer (some ⟨b2,0,none⟩),i6 p12,i6 p13] w0 (fun v w'=>∃ (H':PH) (cs0:List Value) (oa1m:Option Addr) (cap1m:Nat) (oa2m:Option Addr) (cap2m:Nat) (vs2m:List Value),v=.agg cs0.toArray∧Enc.rep H' cs0 r.1∧r.2.L.length≤cap1m∧SR H' oa1m r.2.L∧Rows H' vs2m r.2.Out∧ExtM w0 (sepA [blk b2 (.cells [.slice oa3 p1.L.length cap4,i6 p1.At,i6 p1.E,i6 p1.Pos,.slice oa7 p1.Out.length cap8].toArray 171 (0,0)),sla 51 9 oa7 p1.Out.length cap8 vs9]).fp H H'∧H'.le w'∧(∀ b,(sepA [blk b2 (.cells [.slice oa1m r.2.L.length cap1m,i6 r.2.At,i6 r.2.E,i6 r.2.Pos,.slice oa2m r.2.Out.length cap2m].toArray 171 (0,0)),sla 51 9 oa2m r.2.Out.length cap2m vs2m]).fp b→H' b=none)∧Mut w0 (sepA [blk b2 (.cells [.slice oa3 p1.L.length cap4,i6 p1.At,i6 p1.E,i6 p1.Pos,.slice oa7 p1.Out.length cap8].toArray 171 (0,0)),sla 51 9 oa7 p1.Out.length cap8 vs9]) (sepA [blk b2 (.cells [.slice oa1m r.2.L.length cap1m,i6 r.2.At,i6 r.2.E,i6 r.2.Pos,.slice oa2m r.2.Out.length cap2m].toArray 171 (0,0)),sla 51 9 oa2m r.2.Out.length cap2m vs2m]) w'):=by
 unfold Z3v at hm
 refine fn0 func168 rfl ntmps168 rfl rfl fun a o=>?_
 have u:=startM hH hO hD
 refine th<|rg<|ls<|a_alloc (cs:=[i6 0,strv [],strv [],.slice none 0 0,.slice none 0 0,i6 0,i6 0,i6 0,i6 0].toArray) o rfl u Tryz.zeroValue51 rfl fun b14 w a u o=>re<|tn<|th<|rg<|qm o rfl fun a o=>qm o rfl fun a o=>qv o (e_bldK [i6 p12,i6 p13] [i6 p12,strv [],strv [],.slice none 0 0,.slice none 0 0,i6 0,i6 0,i6 0,i6 p13] o ⟨rfl,rfl,trivial⟩ (fun w=>by kernel_rfl)) fun a o=>ls<|a_alloc (cs:=[i6 0,strv [],strv [],.slice none 0 0,.slice none 0 0,i6 0,i6 0,i6 0,i6 0].toArray) o rfl u zeroValue51 rfl fun b15 w a u o=>ls<|s_blkA o u sizeOf51 rfl rfl rfl rfl (one_cells rfl) .head fun w u=>re<|tn<|th<|th<|rg<|qm o rfl fun a o=>re<|tn<|midK (fun a w=>∃ (vA2:(List api_Token)) (vA7:Int) (vA8:Int) (vA9:Int) (vA10:(List api_Stmt)) (vA16:Str) (vA17:Str) (vA18:(List api_Node)) (vA23:(List api_Node)) (vA28:Int) (HA1:PH) (oaA3:Option Addr) (capA4:Nat) (oaA11:Option Addr) (capA12:Nat) (vsA13:List Value) (oaA19:Option Addr) (capA20:Nat) (oaA24:Option Addr) (capA25:Nat),(Z3w p12 p13) vA2 vA7 vA8 vA9 vA10 vA16 vA17 vA18 vA23 vA28=some r∧ExtM w0 (sepA [blk b2 (.cells [.slice oa3 p1.L.length cap4,i6 p1.At,i6 p1.E,i6 p1.Pos,.slice oa7 p1.Out.length cap8].toArray 171 (0,0)),sla 51 9 oa7 p1.Out.length cap8 vs9]).fp H HA1∧Fr 82 [(0,.pointer (some ⟨b2,0,none⟩)),(6,.pointer (some ⟨b14,0,none⟩)),(7,.pointer (some ⟨b15,0,none⟩))] a∧St w0 (sepA [blk b2 (.cells [.slice oa3 p1.L.length cap4,i6 p1.At,i6 p1.E,i6 p1.Pos,.slice oa7 p1.Out.length cap8].toArray 171 (0,0)),sla 51 9 oa7 p1.Out.length cap8 vs9]).fp [HA1] [sla 51 9 oaA11 vA10.length capA12 vsA13,blk b2 (.cells [.slice oaA3 vA2.length capA4,i6 vA7,i6 vA8,i6 vA9,.slice oaA11 vA10.length capA12].toArray 171 (0,0)),blk b14 (.cells [i6 0,strv [],strv [],.slice none 0 0,.slice none 0 0,i6 0,i6 0,i6 0,i6 0].toArray 51 (0,0)),blk b15 (.cells [i6 p12,strv vA16,strv vA17,.slice oaA19 vA18.length capA20,.slice oaA24 vA23.length capA25,i6 vA28,i6 0,i6 0,i6 p13].toArray 51 (0,0))] w∧vA2.length≤capA4∧SR HA1 oaA3 vA2∧Rows HA1 vsA13 vA10∧vA18.length≤capA20∧SR HA1 oaA19 vA18∧vA23.length≤capA25∧SR HA1 oaA24 vA23) ?_ ?_
 refine wb<|th<|rg<|qv o (e_eql o rfl rfl) fun a o=>qa o rfl fun a o=>re<|?_
 rcases bdich (decide (p12=1)) with hb16 | hb16
 replace hm:=itp_t hm hb16
 refine tn<|ctv o rfl hb16<|th<|?_
 obtain ⟨r17,h18,hm⟩:=bs hm
 refine rg<|qm o rfl fun a o=>?_
 replace u:=u.pk [2,2,0,0] rfl
 replace u:=St.sep [blk b2 (.cells [.slice oa3 p1.L.length cap4,i6 p1.At,i6 p1.E,i6 p1.Pos,.slice oa7 p1.Out.length cap8].toArray 171 (0,0)),sla 51 9 oa7 p1.Out.length cap8 vs9] u
 refine ls<|c1 o rfl call175 (Z3k_c (St.le u) (p1:=p1) (b2:=b2) (oa3:=oa3) (cap4:=cap4) (oa7:=oa7) (cap8:=cap8) (vs9:=vs9) hc5 hr6 hv10 (St.sepOk u) (St.sepDis u) h18) ⟨rfl,trivial⟩ (fun v w a hR o=>?_)
 obtain ⟨H22,oa23,cap24,oa27,cap28,vs29,rfl,hc25,hr26,hv30,hx19,hl20,hd21,hk⟩:=hR
 obtain ⟨u,hx19⟩:=And.intro (St.mutH u hk hx19 hl20 hd21) (St.extcMM u hx19)
 replace u:=u.unsep
 refine qv o (e_fa o fa51_1 rfl) fun a o=>ls<|s_blk o u sizeOf9 rfl rfl rfl rfl (.tail (.tail .head)) (.succ .zero) fun w u=>re<|tn<|th<|?_
 obtain ⟨r32,h33,hm⟩:=bs hm
 refine rg<|qm o rfl fun a o=>?_
 replace u:=u.pk [0,0,0,0] rfl
 replace u:=St.sep [blk b2 (.cells [.slice oa23 r17.2.L.length cap24,i6 r17.2.At,i6 r17.2.E,i6 r17.2.Pos,.slice oa27 r17.2.Out.length cap28].toArray 171 (0,0)),sla 51 9 oa27 r17.2.Out.length cap28 vs29] u
 refine ls<|c1 o rfl call161 (Z3i_c (St.le u) (p1:=r17.2) (b2:=b2) (oa3:=oa23) (cap4:=cap24) (oa7:=oa27) (cap8:=cap28) (vs9:=vs29) hc25 hr26 hv30 (St.sepOk u) (St.sepDis u) h33) ⟨rfl,rfl,trivial⟩ (fun v w a hR o=>?_)
 obtain ⟨H37,oa38,cap39,oa42,cap43,vs44,rfl,hc40,hr41,hv45,hx34,hl35,hd36,hk⟩:=hR
 obtain ⟨u,hx34⟩:=And.intro (St.mutH u hk hx34 hl35 hd36) (St.extcMM u hx34)
 replace u:=u.unsep
 refine re<|tn<|?_
 obtain ⟨r47,h48,hm⟩:=bs hm
 refine rg<|qm o rfl fun a o=>?_
 replace u:=u.pk [0,0,0,0] rfl
 replace u:=St.sep [blk b2 (.cells [.slice oa38 r32.L.length cap39,i6 r32.At,i6 r32.E,i6 r32.Pos,.slice oa42 r32.Out.length cap43].toArray 171 (0,0)),sla 51 9 oa42 r32.Out.length cap43 vs44] u
 refine ls<|c1 o rfl call176 (Z3h_c (St.le u) (p1:=r32) (b2:=b2) (oa3:=oa38) (cap4:=cap39) (oa7:=oa42) (cap8:=cap43) (vs9:=vs44) hc40 hr41 hv45 (St.sepOk u) (St.sepDis u) h48) ⟨rfl,trivial⟩ (fun v w a hR o=>?_)
 obtain ⟨H52,oa53,cap54,oa57,cap58,oa61,cap62,vs63,rfl,hc55,hr56,hc59,hr60,hv64,hx49,hl50,hd51,hk⟩:=hR
 obtain ⟨u,hx49⟩:=And.intro (St.mutH u hk hx49 hl50 hd51) (St.extcMM u hx49)
 replace u:=u.unsep
 refine qv o (e_fa o fa51_3 rfl) fun a o=>ls<|s_blk o u sizeOf49 rfl rfl rfl rfl (.tail (.tail .head)) (.succ (.succ (.succ .zero))) fun w u=>re<|bn<|tn<|?_
 replace u:=u.pk [1,0,1,0] rfl
 exact ⟨r47.2.L,r47.2.At,r47.2.E,r47.2.Pos,r47.2.Out,r17.1,[],r47.1,[],0,H52,oa57,cap58,oa61,cap62,vs63,oa53,cap54,none,0,hm,(ExtM.trans hx19 (ExtM.trans hx34 hx49)),o.hs,u,hc59,hr60,hv64,hc55,hr56,(Nat.le_refl _),((SR.nil _ _).mono (cp (cp hx49.sub hx34.sub) hx19.sub))⟩
 replace hm:=itp_f hm hb16
 refine tn<|cfv o rfl hb16<|th<|rg<|qv o (e_eql o rfl rfl) fun a o=>qa o rfl fun a o=>re<|?_
 rcases bdich (decide (p12=2)) with hb66 | hb66
 replace hm:=itp_t hm hb66
 refine tn<|ctv o rfl hb66<|th<|?_
 obtain ⟨r67,h68,hm⟩:=bs hm
 refine rg<|qm o rfl fun a o=>?_
 replace u:=u.pk [2,2,0,0] rfl
 replace u:=St.sep [blk b2 (.cells [.slice oa3 p1.L.length cap4,i6 p1.At,i6 p1.E,i6 p1.Pos,.slice oa7 p1.Out.length cap8].toArray 171 (0,0)),sla 51 9 oa7 p1.Out.length cap8 vs9] u
 refine ls<|c1 o rfl call175 (Z3k_c (St.le u) (p1:=p1) (b2:=b2) (oa3:=oa3) (cap4:=cap4) (oa7:=oa7) (cap8:=cap8) (vs9:=vs9) hc5 hr6 hv10 (St.sepOk u) (St.sepDis u) h68) ⟨rfl,trivial⟩ (fun v w a hR o=>?_)
 obtain ⟨H72,oa73,cap74,oa77,cap78,vs79,rfl,hc75,hr76,hv80,hx69,hl70,hd71,hk⟩:=hR
 obtain ⟨u,hx69⟩:=And.intro (St.mutH u hk hx69 hl70 hd71) (St.extcMM u hx69)
 replace u:=u.unsep
 refine qv o (e_fa o fa51_1 rfl) fun a o=>ls<|s_blk o u sizeOf9 rfl rfl rfl rfl (.tail (.tail .head)) (.succ .zero) fun w u=>re<|tn<|th<|?_
 obtain ⟨r82,h83,hm⟩:=bs hm
 refine rg<|qm o rfl fun a o=>?_
 replace u:=u.pk [0,0,0,0] rfl
 replace u:=St.sep [blk b2 (.cells [.slice oa73 r67.2.L.length cap74,i6 r67.2.At,i6 r67.2.E,i6 r67.2.Pos,.slice oa77 r67.2.Out.length cap78].toArray 171 (0,0)),sla 51 9 oa77 r67.2.Out.length cap78 vs79] u
 refine ls<|c1 o rfl call161 (Z3i_c (St.le u) (p1:=r67.2) (b2:=b2) (oa3:=oa73) (cap4:=cap74) (oa7:=oa77) (cap8:=cap78) (vs9:=vs79) hc75 hr76 hv80 (St.sepOk u) (St.sepDis u) h83) ⟨rfl,rfl,trivial⟩ (fun v w a hR o=>?_)
 obtain ⟨H87,oa88,cap89,oa92,cap93,vs94,rfl,hc90,hr91,hv95,hx84,hl85,hd86,hk⟩:=hR
 obtain ⟨u,hx84⟩:=And.intro (St.mutH u hk hx84 hl85 hd86) (St.extcMM u hx84)
 replace u:=u.unsep
 refine re<|tn<|?_
 obtain ⟨r97,h98,hm⟩:=bs hm
 refine rg<|qm o rfl fun a o=>?_
 replace u:=u.pk [0,0,0,0] rfl
 replace u:=St.sep [blk b2 (.cells [.slice oa88 r82.L.length cap89,i6 r82.At,i6 r82.E,i6 r82.Pos,.slice oa92 r82.Out.length cap93].toArray 171 (0,0)),sla 51 9 oa92 r82.Out.length cap93 vs94] u
 refine ls<|c1 o rfl call175 (Z3k_c (St.le u) (p1:=r82) (b2:=b2) (oa3:=oa88) (cap4:=cap89) (oa7:=oa92) (cap8:=cap93) (vs9:=vs94) hc90 hr91 hv95 (St.sepOk u) (St.sepDis u) h98) ⟨rfl,trivial⟩ (fun v w a hR o=>?_)
 obtain ⟨H102,oa103,cap104,oa107,cap108,vs109,rfl,hc105,hr106,hv110,hx99,hl100,hd101,hk⟩:=hR
 obtain ⟨u,hx99⟩:=And.intro (St.mutH u hk hx99 hl100 hd101) (St.extcMM u hx99)
 replace u:=u.unsep
 refine qv o (e_fa o fa51_2 rfl) fun a o=>ls<|s_blk o u sizeOf9 rfl rfl rfl rfl (.tail (.tail .head)) (.succ (.succ .zero)) fun w u=>re<|bn<|tn<|?_
 replace u:=u.pk [1,0,1,0] rfl
 exact ⟨r97.2.L,r97.2.At,r97.2.E,r97.2.Pos,r97.2.Out,r67.1,r97.1,[],[],0,H102,oa103,cap104,oa107,cap108,vs109,none,0,none,0,hm,(ExtM.trans hx69 (ExtM.trans hx84 hx99)),o.hs,u,hc105,hr106,hv110,(Nat.le_refl _),((SR.nil _ _).mono (cp (cp hx99.sub hx84.sub) hx69.sub)),(Nat.le_refl _),((SR.nil _ _).mono (cp (cp hx99.sub hx84.sub) hx69.sub))⟩
 replace hm:=itp_f hm hb66
 refine tn<|cfv o rfl hb66<|th<|rg<|qv o (e_eql o rfl rfl) fun a o=>qa o rfl fun a o=>re<|?_
 rcases bdich (decide (p12=3)) with hb112 | hb112
 replace hm:=itp_t hm hb112
 refine tn<|ctv o rfl hb112<|th<|?_
 obtain ⟨r113,h114,hm⟩:=bs hm
 refine rg<|qm o rfl fun a o=>?_
 replace u:=u.pk [2,2,0,0] rfl
 replace u:=St.sep [blk b2 (.cells [.slice oa3 p1.L.length cap4,i6 p1.At,i6 p1.E,i6 p1.Pos,.slice oa7 p1.Out.length cap8].toArray 171 (0,0)),sla 51 9 oa7 p1.Out.length cap8 vs9] u
 refine ls<|c1 o rfl call175 (Z3k_c (St.le u) (p1:=p1) (b2:=b2) (oa3:=oa3) (cap4:=cap4) (oa7:=oa7) (cap8:=cap8) (vs9:=vs9) hc5 hr6 hv10 (St.sepOk u) (St.sepDis u) h114) ⟨rfl,trivial⟩ (fun v w a hR o=>?_)
 obtain ⟨H118,oa119,cap120,oa123,cap124,vs125,rfl,hc121,hr122,hv126,hx115,hl116,hd117,hk⟩:=hR
 obtain ⟨u,hx115⟩:=And.intro (St.mutH u hk hx115 hl116 hd117) (St.extcMM u hx115)
 replace u:=u.unsep
 refine qv o (e_fa o fa51_2 rfl) fun a o=>ls<|s_blk o u sizeOf9 rfl rfl rfl rfl (.tail (.tail .head)) (.succ (.succ .zero)) fun w u=>re<|tn<|th<|?_
 obtain ⟨r128,h129,hm⟩:=bs hm
 refine rg<|qm o rfl fun a o=>?_
 replace u:=u.pk [0,0,0,0] rfl
 replace u:=St.sep [blk b2 (.cells [.slice oa119 r113.2.L.length cap120,i6 r113.2.At,i6 r113.2.E,i6 r113.2.Pos,.slice oa123 r113.2.Out.length cap124].toArray 171 (0,0)),sla 51 9 oa123 r113.2.Out.length cap124 vs125] u
 refine ls<|c1 o rfl call161 (Z3i_c (St.le u) (p1:=r113.2) (b2:=b2) (oa3:=oa119) (cap4:=cap120) (oa7:=oa123) (cap8:=cap124) (vs9:=vs125) hc121 hr122 hv126 (St.sepOk u) (St.sepDis u) h129) ⟨rfl,rfl,trivial⟩ (fun v w a hR o=>?_)
 obtain ⟨H133,oa134,cap135,oa138,cap139,vs140,rfl,hc136,hr137,hv141,hx130,hl131,hd132,hk⟩:=hR
 obtain ⟨u,hx130⟩:=And.intro (St.mutH u hk hx130 hl131 hd132) (St.extcMM u hx130)
 replace u:=u.unsep
 refine re<|tn<|?_
 obtain ⟨r143,h144,hm⟩:=bs hm
 refine rg<|qm o rfl fun a o=>?_
 replace u:=u.pk [0,0,0,0] rfl
 replace u:=St.sep [blk b2 (.cells [.slice oa134 r128.L.length cap135,i6 r128.At,i6 r128.E,i6 r128.Pos,.slice oa138 r128.Out.length cap139].toArray 171 (0,0)),sla 51 9 oa138 r128.Out.length cap139 vs140] u
 refine ls<|c1 o rfl call176 (Z3h_c (St.le u) (p1:=r128) (b2:=b2) (oa3:=oa134) (cap4:=cap135) (oa7:=oa138) (cap8:=cap139) (vs9:=vs140) hc136 hr137 hv141 (St.sepOk u) (St.sepDis u) h144) ⟨rfl,trivial⟩ (fun v w a hR o=>?_)
 obtain ⟨H148,oa149,cap150,oa153,cap154,oa157,cap158,vs159,rfl,hc151,hr152,hc155,hr156,hv160,hx145,hl146,hd147,hk⟩:=hR
 obtain ⟨u,hx145⟩:=And.intro (St.mutH u hk hx145 hl146 hd147) (St.extcMM u hx145)
 replace u:=u.unsep
 refine qv o (e_fa o fa51_3 rfl) fun a o=>ls<|s_blk o u sizeOf49 rfl rfl rfl rfl (.tail (.tail .head)) (.succ (.succ (.succ .zero))) fun w u=>re<|bn<|tn<|?_
 replace u:=u.pk [1,0,1,0] rfl
 exact ⟨r143.2.L,r143.2.At,r143.2.E,r143.2.Pos,r143.2.Out,[],r113.1,r143.1,[],0,H148,oa153,cap154,oa157,cap158,vs159,oa149,cap150,none,0,hm,(ExtM.trans hx115 (ExtM.trans hx130 hx145)),o.hs,u,hc155,hr156,hv160,hc151,hr152,(Nat.le_refl _),((SR.nil _ _).mono (cp (cp hx145.sub hx130.sub) hx115.sub))⟩
 replace hm:=itp_f hm hb112
 refine tn<|cfv o rfl hb112<|th<|rg<|qv o (e_eql o rfl rfl) fun a o=>qa o rfl fun a o=>re<|?_
 rcases bdich (decide (p12=4)) with hb162 | hb162
 replace hm:=itp_t hm hb162
 refine tn<|ctv o rfl hb162<|th<|?_
 obtain ⟨r163,h164,hm⟩:=bs hm
 refine rg<|qm o rfl fun a o=>?_
 replace u:=u.pk [2,2,0,0] rfl
 replace u:=St.sep [blk b2 (.cells [.slice oa3 p1.L.length cap4,i6 p1.At,i6 p1.E,i6 p1.Pos,.slice oa7 p1.Out.length cap8].toArray 171 (0,0)),sla 51 9 oa7 p1.Out.length cap8 vs9] u
 refine ls<|c1 o rfl call175 (Z3k_c (St.le u) (p1:=p1) (b2:=b2) (oa3:=oa3) (cap4:=cap4) (oa7:=oa7) (cap8:=cap8) (vs9:=vs9) hc5 hr6 hv10 (St.sepOk u) (St.sepDis u) h164) ⟨rfl,trivial⟩ (fun v w a hR o=>?_)
 obtain ⟨H168,oa169,cap170,oa173,cap174,vs175,rfl,hc171,hr172,hv176,hx165,hl166,hd167,hk⟩:=hR
 obtain ⟨u,hx165⟩:=And.intro (St.mutH u hk hx165 hl166 hd167) (St.extcMM u hx165)
 replace u:=u.unsep
 refine qv o (e_fa o fa51_1 rfl) fun a o=>ls<|s_blk o u sizeOf9 rfl rfl rfl rfl (.tail (.tail .head)) (.succ .zero) fun w u=>re<|tn<|th<|?_
 obtain ⟨r178,h179,hm⟩:=bs hm
 refine rg<|qm o rfl fun a o=>?_
 replace u:=u.pk [0,0,0,0] rfl
 replace u:=St.sep [blk b2 (.cells [.slice oa169 r163.2.L.length cap170,i6 r163.2.At,i6 r163.2.E,i6 r163.2.Pos,.slice oa173 r163.2.Out.length cap174].toArray 171 (0,0)),sla 51 9 oa173 r163.2.Out.length cap174 vs175] u
 refine ls<|c1 o rfl call161 (Z3i_c (St.le u) (p1:=r163.2) (b2:=b2) (oa3:=oa169) (cap4:=cap170) (oa7:=oa173) (cap8:=cap174) (vs9:=vs175) hc171 hr172 hv176 (St.sepOk u) (St.sepDis u) h179) ⟨rfl,rfl,trivial⟩ (fun v w a hR o=>?_)
 obtain ⟨H183,oa184,cap185,oa188,cap189,vs190,rfl,hc186,hr187,hv191,hx180,hl181,hd182,hk⟩:=hR
 obtain ⟨u,hx180⟩:=And.intro (St.mutH u hk hx180 hl181 hd182) (St.extcMM u hx180)
 replace u:=u.unsep
 refine re<|tn<|th<|?_
 obtain ⟨r193,h194,hm⟩:=bs hm
 refine rg<|qm o rfl fun a o=>?_
 replace u:=u.pk [0,0,0,0] rfl
 replace u:=St.sep [blk b2 (.cells [.slice oa184 r178.L.length cap185,i6 r178.At,i6 r178.E,i6 r178.Pos,.slice oa188 r178.Out.length cap189].toArray 171 (0,0)),sla 51 9 oa188 r178.Out.length cap189 vs190] u
 refine ls<|c1 o rfl call175 (Z3k_c (St.le u) (p1:=r178) (b2:=b2) (oa3:=oa184) (cap4:=cap185) (oa7:=oa188) (cap8:=cap189) (vs9:=vs190) hc186 hr187 hv191 (St.sepOk u) (St.sepDis u) h194) ⟨rfl,trivial⟩ (fun v w a hR o=>?_)
 obtain ⟨H198,oa199,cap200,oa203,cap204,vs205,rfl,hc201,hr202,hv206,hx195,hl196,hd197,hk⟩:=hR
 obtain ⟨u,hx195⟩:=And.intro (St.mutH u hk hx195 hl196 hd197) (St.extcMM u hx195)
 replace u:=u.unsep
 refine qv o (e_fa o fa51_2 rfl) fun a o=>ls<|s_blk o u sizeOf9 rfl rfl rfl rfl (.tail (.tail .head)) (.succ (.succ .zero)) fun w u=>re<|tn<|th<|?_
 obtain ⟨r208,h209,hm⟩:=bs hm
 refine rg<|qm o rfl fun a o=>?_
 replace u:=u.pk [0,0,0,0] rfl
 replace u:=St.sep [blk b2 (.cells [.slice oa199 r193.2.L.length cap200,i6 r193.2.At,i6 r193.2.E,i6 r193.2.Pos,.slice oa203 r193.2.Out.length cap204].toArray 171 (0,0)),sla 51 9 oa203 r193.2.Out.length cap204 vs205] u
 refine ls<|c1 o rfl call161 (Z3i_c (St.le u) (p1:=r193.2) (b2:=b2) (oa3:=oa199) (cap4:=cap200) (oa7:=oa203) (cap8:=cap204) (vs9:=vs205) hc201 hr202 hv206 (St.sepOk u) (St.sepDis u) h209) ⟨rfl,rfl,trivial⟩ (fun v w a hR o=>?_)
 obtain ⟨H213,oa214,cap215,oa218,cap219,vs220,rfl,hc216,hr217,hv221,hx210,hl211,hd212,hk⟩:=hR
 obtain ⟨u,hx210⟩:=And.intro (St.mutH u hk hx210 hl211 hd212) (St.extcMM u hx210)
 replace u:=u.unsep
 refine re<|tn<|th<|?_
 obtain ⟨r223,h224,hm⟩:=bs hm
 refine rg<|qm o rfl fun a o=>?_
 replace u:=u.pk [0,0,0,0] rfl
 replace u:=St.sep [blk b2 (.cells [.slice oa214 r208.L.length cap215,i6 r208.At,i6 r208.E,i6 r208.Pos,.slice oa218 r208.Out.length cap219].toArray 171 (0,0)),sla 51 9 oa218 r208.Out.length cap219 vs220] u
 refine ls<|c1 o rfl call176 (Z3h_c (St.le u) (p1:=r208) (b2:=b2) (oa3:=oa214) (cap4:=cap215) (oa7:=oa218) (cap8:=cap219) (vs9:=vs220) hc216 hr217 hv221 (St.sepOk u) (St.sepDis u) h224) ⟨rfl,trivial⟩ (fun v w a hR o=>?_)
 obtain ⟨H228,oa229,cap230,oa233,cap234,oa237,cap238,vs239,rfl,hc231,hr232,hc235,hr236,hv240,hx225,hl226,hd227,hk⟩:=hR
 obtain ⟨u,hx225⟩:=And.intro (St.mutH u hk hx225 hl226 hd227) (St.extcMM u hx225)
 replace u:=u.unsep
 refine qv o (e_fa o fa51_3 rfl) fun a o=>ls<|s_blk o u sizeOf49 rfl rfl rfl rfl (.tail (.tail .head)) (.succ (.succ (.succ .zero))) fun w u=>re<|tn<|th<|?_
 obtain ⟨r242,h243,hm⟩:=bs hm
 refine rg<|qm o rfl fun a o=>?_
 replace u:=u.pk [0,0,0,0] rfl
 replace u:=St.sep [blk b2 (.cells [.slice oa233 r223.2.L.length cap234,i6 r223.2.At,i6 r223.2.E,i6 r223.2.Pos,.slice oa237 r223.2.Out.length cap238].toArray 171 (0,0)),sla 51 9 oa237 r223.2.Out.length cap238 vs239] u
 refine ls<|c1 o rfl call161 (Z3i_c (St.le u) (p1:=r223.2) (b2:=b2) (oa3:=oa233) (cap4:=cap234) (oa7:=oa237) (cap8:=cap238) (vs9:=vs239) hc235 hr236 hv240 (St.sepOk u) (St.sepDis u) h243) ⟨rfl,rfl,trivial⟩ (fun v w a hR o=>?_)
 obtain ⟨H247,oa248,cap249,oa252,cap253,vs254,rfl,hc250,hr251,hv255,hx244,hl245,hd246,hk⟩:=hR
 obtain ⟨u,hx244⟩:=And.intro (St.mutH u hk hx244 hl245 hd246) (St.extcMM u hx244)
 replace u:=u.unsep
 refine re<|tn<|?_
 obtain ⟨r257,h258,hm⟩:=bs hm
 refine rg<|qm o rfl fun a o=>?_
 replace u:=u.pk [0,0,0,0] rfl
 replace u:=St.sep [blk b2 (.cells [.slice oa248 r242.L.length cap249,i6 r242.At,i6 r242.E,i6 r242.Pos,.slice oa252 r242.Out.length cap253].toArray 171 (0,0)),sla 51 9 oa252 r242.Out.length cap253 vs254] u
 refine ls<|c1 o rfl call176 (Z3h_c (St.le u) (p1:=r242) (b2:=b2) (oa3:=oa248) (cap4:=cap249) (oa7:=oa252) (cap8:=cap253) (vs9:=vs254) hc250 hr251 hv255 (St.sepOk u) (St.sepDis u) h258) ⟨rfl,trivial⟩ (fun v w a hR o=>?_)
 obtain ⟨H262,oa263,cap264,oa267,cap268,oa271,cap272,vs273,rfl,hc265,hr266,hc269,hr270,hv274,hx259,hl260,hd261,hk⟩:=hR
 obtain ⟨u,hx259⟩:=And.intro (St.mutH u hk hx259 hl260 hd261) (St.extcMM u hx259)
 replace u:=u.unsep
 refine qv o (e_fa o fa51_4 rfl) fun a o=>ls<|s_blk o u sizeOf49 rfl rfl rfl rfl (.tail (.tail .head)) (.succ (.succ (.succ (.succ .zero)))) fun w u=>re<|bn<|tn<|?_
 replace u:=u.pk [1,0,1,0] rfl
 exact ⟨r257.2.L,r257.2.At,r257.2.E,r257.2.Pos,r257.2.Out,r163.1,r193.1,r223.1,r257.1,0,H262,oa267,cap268,oa271,cap272,vs273,oa229,cap230,oa263,cap264,hm,(ExtM.trans hx165 (ExtM.trans hx180 (ExtM.trans hx195 (ExtM.trans hx210 (ExtM.trans hx225 (ExtM.trans hx244 hx259)))))),o.hs,u,hc269,hr270,hv274,hc231,(hr232.mono (cp hx259.sub hx244.sub)),hc265,hr266⟩
 replace hm:=itp_f hm hb162
 refine tn<|cfv o rfl hb162<|th<|th<|rg<|qv o (e_eql o rfl rfl) fun a o=>qa o rfl fun a o=>re<|tn<|midK (fun a w=>∃ (vB1:Bool),(Z3x N (Z3w p12 p13) p1 p12) vB1=some r∧Fr 82 [(0,.pointer (some ⟨b2,0,none⟩)),(6,.pointer (some ⟨b14,0,none⟩)),(7,.pointer (some ⟨b15,0,none⟩)),(11,i6 p12),(62,.bool vB1)] a∧St w0 (sepA [blk b2 (.cells [.slice oa3 p1.L.length cap4,i6 p1.At,i6 p1.E,i6 p1.Pos,.slice oa7 p1.Out.length cap8].toArray 171 (0,0)),sla 51 9 oa7 p1.Out.length cap8 vs9]).fp [H] [sla 51 9 oa7 p1.Out.length cap8 vs9,blk b2 (.cells [.slice oa3 p1.L.length cap4,i6 p1.At,i6 p1.E,i6 p1.Pos,.slice oa7 p1.Out.length cap8].toArray 171 (0,0)),blk b14 (.cells [i6 0,strv [],strv [],.slice none 0 0,.slice none 0 0,i6 0,i6 0,i6 0,i6 0].toArray 51 (0,0)),blk b15 (.cells [i6 p12,strv [],strv [],.slice none 0 0,.slice none 0 0,i6 0,i6 0,i6 0,i6 p13].toArray 51 (0,0))] w) ?_ ?_
 rcases bdich (decide (p12=5)) with hb276 | hb276
 replace hm:=itp_t hm hb276
 refine ctv o rfl hb276<|wk<|tn<|?_
 replace u:=u.pk [3,2,1,0] rfl
 exact ⟨(decide (p12=5)),hm,o.hs,u⟩
 replace hm:=itp_f hm hb276
 refine cfv o rfl hb276<|th<|rg<|qv o (e_eql o rfl rfl) fun a o=>qa o rfl fun a o=>re<|?_
 rcases bdich (decide (p12=6)) with hb277 | hb277
 replace hm:=itp_t hm hb277
 refine tn<|ctv o rfl hb277<|wk<|tn<|?_
 replace u:=u.pk [3,2,1,0] rfl
 exact ⟨(decide (p12=6)),hm,o.hs,u⟩
 replace hm:=itp_f hm hb277
 refine tn<|cfv o rfl hb277<|th<|rg<|qv o (e_eql o rfl rfl) fun a o=>qa o rfl fun a o=>re<|?_
 rcases bdich (decide (p12=9)) with hb278 | hb278
 replace hm:=itp_t hm hb278
 refine tn<|ctv o rfl hb278<|wk<|tn<|?_
 replace u:=u.pk [3,2,1,0] rfl
 exact ⟨(decide (p12=9)),hm,o.hs,u⟩
 replace hm:=itp_f hm hb278
 refine tn<|cfv o rfl hb278<|rg<|qv o (e_eql o rfl rfl) fun a o=>qa o rfl fun a o=>re<|tn<|?_
 replace u:=u.pk [3,2,1,0] rfl
 exact ⟨(decide (p12=10)),hm,o.hs,u⟩
 rintro a w ⟨vB1,hm,o,u⟩
 unfold Z3x at hm
 rcases bdich vB1 with hb279 | hb279
 replace hm:=ite_t hm hb279
 refine ctv o rfl hb279<|?_
 obtain ⟨r280,h281,hm⟩:=bs hm
 refine rg<|qm o rfl fun a o=>?_
 replace u:=u.pk [1,0,0,0] rfl
 replace u:=St.sep [blk b2 (.cells [.slice oa3 p1.L.length cap4,i6 p1.At,i6 p1.E,i6 p1.Pos,.slice oa7 p1.Out.length cap8].toArray 171 (0,0)),sla 51 9 oa7 p1.Out.length cap8 vs9] u
 refine ls<|c1 o rfl call175 (Z3k_c (St.le u) (p1:=(leadlineref04_P.mk p1.L p1.At p1.E p1.Pos p1.Out)) (b2:=b2) (oa3:=oa3) (cap4:=cap4) (oa7:=oa7) (cap8:=cap8) (vs9:=vs9) hc5 hr6 hv10 (St.sepOk u) (St.sepDis u) h281) ⟨rfl,trivial⟩ (fun v w a hR o=>?_)
 obtain ⟨H285,oa286,cap287,oa290,cap291,vs292,rfl,hc288,hr289,hv293,hx282,hl283,hd284,hk⟩:=hR
 obtain ⟨u,hx282⟩:=And.intro (St.mutH u hk hx282 hl283 hd284) (St.extcMM u hx282)
 replace u:=u.unsep
 refine qv o (e_fa o fa51_2 rfl) fun a o=>ls<|s_blk o u sizeOf9 rfl rfl rfl rfl (.tail (.tail (.tail .head))) (.succ (.succ .zero)) fun w u=>re<|bn<|tn<|?_
 replace u:=u.pk [1,0,0,0] rfl
 exact ⟨r280.2.L,r280.2.At,r280.2.E,r280.2.Pos,r280.2.Out,[],r280.1,[],[],0,H285,oa286,cap287,oa290,cap291,vs292,none,0,none,0,hm,hx282,o.hs,u,hc288,hr289,hv293,(Nat.le_refl _),((SR.nil _ _).mono hx282.sub),(Nat.le_refl _),((SR.nil _ _).mono hx282.sub)⟩
 replace hm:=ite_f hm hb279
 refine cfv o rfl hb279<|th<|th<|rg<|qv o (e_eql o rfl rfl) fun a o=>qa o rfl fun a o=>re<|tn<|midK (fun a w=>∃ (vB2:Bool),(Z3y N (Z3w p12 p13) p1 p12) vB2=some r∧Fr 82 [(0,.pointer (some ⟨b2,0,none⟩)),(6,.pointer (some ⟨b14,0,none⟩)),(7,.pointer (some ⟨b15,0,none⟩)),(11,i6 p12),(70,.bool vB2)] a∧St w0 (sepA [blk b2 (.cells [.slice oa3 p1.L.length cap4,i6 p1.At,i6 p1.E,i6 p1.Pos,.slice oa7 p1.Out.length cap8].toArray 171 (0,0)),sla 51 9 oa7 p1.Out.length cap8 vs9]).fp [H] [sla 51 9 oa7 p1.Out.length cap8 vs9,blk b2 (.cells [.slice oa3 p1.L.length cap4,i6 p1.At,i6 p1.E,i6 p1.Pos,.slice oa7 p1.Out.length cap8].toArray 171 (0,0)),blk b14 (.cells [i6 0,strv [],strv [],.slice none 0 0,.slice none 0 0,i6 0,i6 0,i6 0,i6 0].toArray 51 (0,0)),blk b15 (.cells [i6 p12,strv [],strv [],.slice none 0 0,.slice none 0 0,i6 0,i6 0,i6 0,i6 p13].toArray 51 (0,0))] w) ?_ ?_
 rcases bdich (decide (p12=11)) with hb295 | hb295
 replace hm:=itp_t hm hb295
 refine ctv o rfl hb295<|wk<|tn<|?_
 exact ⟨(decide (p12=11)),hm,o.hs,u⟩
 replace hm:=itp_f hm hb295
 refine cfv o rfl hb295<|rg<|qv o (e_eql o rfl rfl) fun a o=>qa o rfl fun a o=>re<|tn<|?_
 exact ⟨(decide (p12=14)),hm,o.hs,u⟩
 rintro a w ⟨vB2,hm,o,u⟩
 unfold Z3y at hm
 rcases bdich vB2 with hb296 | hb296
 replace hm:=ite_t hm hb296
 refine ctv o rfl hb296<|?_
 obtain ⟨r297,h298,hm⟩:=bs hm
 refine rg<|qm o rfl fun a o=>?_
 replace u:=u.pk [1,0,0,0] rfl
 replace u:=St.sep [blk b2 (.cells [.slice oa3 p1.L.length cap4,i6 p1.At,i6 p1.E,i6 p1.Pos,.slice oa7 p1.Out.length cap8].toArray 171 (0,0)),sla 51 9 oa7 p1.Out.length cap8 vs9] u
 refine ls<|c1 o rfl call176 (Z3h_c (St.le u) (p1:=(leadlineref04_P.mk p1.L p1.At p1.E p1.Pos p1.Out)) (b2:=b2) (oa3:=oa3) (cap4:=cap4) (oa7:=oa7) (cap8:=cap8) (vs9:=vs9) hc5 hr6 hv10 (St.sepOk u) (St.sepDis u) h298) ⟨rfl,trivial⟩ (fun v w a hR o=>?_)
 obtain ⟨H302,oa303,cap304,oa307,cap308,oa311,cap312,vs313,rfl,hc305,hr306,hc309,hr310,hv314,hx299,hl300,hd301,hk⟩:=hR
 obtain ⟨u,hx299⟩:=And.intro (St.mutH u hk hx299 hl300 hd301) (St.extcMM u hx299)
 replace u:=u.unsep
 refine qv o (e_fa o fa51_3 rfl) fun a o=>ls<|s_blk o u sizeOf49 rfl rfl rfl rfl (.tail (.tail (.tail .head))) (.succ (.succ (.succ .zero))) fun w u=>re<|bn<|tn<|?_
 replace u:=u.pk [1,0,0,0] rfl
 exact ⟨r297.2.L,r297.2.At,r297.2.E,r297.2.Pos,r297.2.Out,[],[],r297.1,[],0,H302,oa307,cap308,oa311,cap312,vs313,oa303,cap304,none,0,hm,hx299,o.hs,u,hc309,hr310,hv314,hc305,hr306,(Nat.le_refl _),((SR.nil _ _).mono hx299.sub)⟩
 replace hm:=ite_f hm hb296
 refine cfv o rfl hb296<|th<|rg<|qv o (e_eql o rfl rfl) fun a o=>qa o rfl fun a o=>re<|?_
 rcases bdich (decide (p12=12)) with hb316 | hb316
 replace hm:=itp_t hm hb316
 refine tn<|ctv o rfl hb316<|?_
 obtain ⟨r317,h318,hm⟩:=bs hm
 refine rg<|qm o rfl fun a o=>?_
 replace u:=u.pk [1,0,0,0] rfl
 replace u:=St.sep [blk b2 (.cells [.slice oa3 p1.L.length cap4,i6 p1.At,i6 p1.E,i6 p1.Pos,.slice oa7 p1.Out.length cap8].toArray 171 (0,0)),sla 51 9 oa7 p1.Out.length cap8 vs9] u
 refine ls<|c1 o rfl call177 (Z3z_c (St.le u) (p1:=(leadlineref04_P.mk p1.L p1.At p1.E p1.Pos p1.Out)) (b2:=b2) (oa3:=oa3) (cap4:=cap4) (oa7:=oa7) (cap8:=cap8) (vs9:=vs9) hc5 hr6 hv10 (St.sepOk u) (St.sepDis u) h318) ⟨rfl,trivial⟩ (fun v w a hR o=>?_)
 obtain ⟨H322,oa323,cap324,oa327,cap328,vs329,rfl,hc325,hr326,hv330,hx319,hl320,hd321,hk⟩:=hR
 obtain ⟨u,hx319⟩:=And.intro (St.mutH u hk hx319 hl320 hd321) (St.extcMM u hx319)
 replace u:=u.unsep
 refine qv o (e_fa o fa51_5 rfl) fun a o=>ls<|s_blk o u sizeOf3 rfl rfl rfl rfl (.tail (.tail (.tail .head))) (.succ (.succ (.succ (.succ (.succ .zero))))) fun w u=>re<|bn<|tn<|?_
 replace u:=u.pk [1,0,0,0] rfl
 exact ⟨r317.2.L,r317.2.At,r317.2.E,r317.2.Pos,r317.2.Out,[],[],[],[],r317.1,H322,oa323,cap324,oa327,cap328,vs329,none,0,none,0,hm,hx319,o.hs,u,hc325,hr326,hv330,(Nat.le_refl _),((SR.nil _ _).mono hx319.sub),(Nat.le_refl _),((SR.nil _ _).mono hx319.sub)⟩
 replace hm:=itp_f hm hb316
 refine tn<|cfv o rfl hb316<|wk<|bn<|tn<|?_
 exact ⟨p1.L,p1.At,p1.E,p1.Pos,p1.Out,[],[],[],[],0,H,oa3,cap4,oa7,cap8,vs9,none,0,none,0,hm,(ExtM.refl _ _ _),o.hs,u,hc5,hr6,hv10,(Nat.le_refl _),(SR.nil _ _),(Nat.le_refl _),(SR.nil _ _)⟩
 rintro a w ⟨vA2,vA7,vA8,vA9,vA10,vA16,vA17,vA18,vA23,vA28,HA1,oaA3,capA4,oaA11,capA12,vsA13,oaA19,capA20,oaA24,capA25,hm,hxHA1,o,u,hcA5,hrA6,hvA14,hcA21,hrA22,hcA26,hrA27⟩
 unfold Z3w at hm
 refine th<|rg<|qv o (e_ldA o Tryz.isAgg51 Tryz.sizeOf51 rfl rfl ((St.ld u).cellsB t3)) fun a o=>ls<|s_blkA o u sizeOf51 rfl rfl rfl rfl (one_cells rfl) (.tail (.tail .head)) fun w u=>re<|tn<|wr<|?_
 obtain rfl:=si hm
 exact r1c (vs:=[i6 p12,strv vA16,strv vA17,.slice oaA19 vA18.length capA20,.slice oaA24 vA23.length capA25,i6 vA28,i6 0,i6 0,i6 p13]) (.inl rfl) o results168 rfl isAgg51 sizeOf51 rfl ((St.ld u).cellsB t2) ⟨HA1,_,oaA3,capA4,oaA11,capA12,vsA13,rfl,(show Enc.rep (α:=api_Stmt) HA1 [i6 p12,strv vA16,strv vA17,.slice oaA19 vA18.length capA20,.slice oaA24 vA23.length capA25,i6 vA28,i6 0,i6 0,i6 p13] (api_Stmt.mk p12 vA16 vA17 vA18 vA23 vA28 0 0 p13) from ⟨_,_,rfl,rfl,⟨_,_,rfl,rfl,⟨_,_,rfl,rfl,⟨_,_,rfl,⟨_,_,rfl,hcA21,hrA22⟩,⟨_,_,rfl,⟨_,_,rfl,hcA26,hrA27⟩,⟨_,_,rfl,rfl,⟨_,_,rfl,rfl,⟨_,_,rfl,rfl,rfl⟩⟩⟩⟩⟩⟩⟩⟩),hcA5,hrA6,hvA14,hxHA1,(St.le u),(St.disL (u.pickL (.cons (.tail .head) (.cons .head .nil)))),(u.pickL (.cons (.tail .head) (.cons .head .nil))).endMut⟩
end Go.LM.LB
