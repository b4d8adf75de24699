/- Walks, lifted by program. No condition beyond the theorems' own premises. -/
import Derived.Test.YtgdkaddhhpgeiaaGreatDoorLBQ6
namespace Go.LM.LB
open Go Go.LL Go.MD Go.LM Go.Proofs Go.MD.LB Go.Proofs.Tryz
set_option maxRecDepth 100000
variable {N:Nat} {w0:World} {H:PH}
set_option maxHeartbeats 4000000 in
theorem Z4v_c (hH:H.le w0) {p1:Str} {r:(api_Prog×Int×Int)} (hm:Z4v N p1=some r):Tot Tryz.prog 64 #[strv p1] w0 (fun v w'=>∃ (H':PH) (cs0:List Value),v=.tuple #[.agg cs0.toArray,i6 r.2.1,i6 r.2.2]∧Enc.rep H' cs0 r.1∧Ext w0 H H'∧H'.le w'∧Keep Nil w0 w'):=by
 unfold Z4v at hm
 refine fn0 func64 rfl ntmps64 rfl rfl fun a o=>?_
 have u:St w0 Nil [H] [] w0:=start1 hH
 refine th<|rg<|ls<|a_alloc (cs:=[.slice none 0 0,.slice none 0 0,.slice none 0 0,.slice none 0 0,.slice none 0 0,.slice none 0 0].toArray) o rfl u Tryz.zeroValue27 rfl fun b2 w a u o=>?_
 iterate 2 refine qa o rfl fun a o=>?_
 refine re<|tn<|th<|?_
 obtain ⟨rz3,h4,hm⟩:=bs hm
 refine rg<|qm o rfl fun a o=>ls<|c1 o rfl call101 (Z1l_c (hp_le _) h4) ⟨rfl,trivial⟩ (fun v w a hR o=>?_)
 obtain ⟨oa5,cap6,vs7,rfl,hv8,hk⟩:=hR
 replace u:=u.fresh hk
 replace hv8:=hv8 H
 refine qm o rfl fun a o=>?_
 iterate 3 refine qv o (e_ext o rfl rfl) fun a o=>?_
 iterate 3 refine qa o rfl fun a o=>?_
 refine re<|tn<|th<|th<|rg<|qm o rfl fun a o=>qv o (e_neq o rfl rfl) fun a o=>re<|?_
 rcases bdich (decide (rz3.2.1≠0)) with hb10 | hb10
 replace hm:=itp_t hm hb10
 refine tn<|ctv o rfl hb10<|th<|rg<|qv o (e_bldK [] [.slice none 0 0,.slice none 0 0,.slice none 0 0,.slice none 0 0,.slice none 0 0,.slice none 0 0] o trivial (fun w=>by kernel_rfl)) fun a o=>?_
 iterate 2 refine qm o rfl fun a o=>?_
 refine ls<|s_blkA o u sizeOf27 rfl rfl rfl rfl (one_cells rfl) (.tail .head) fun w u=>?_
 iterate 2 refine qa o rfl fun a o=>?_
 refine re<|tn<|wr<|tr<|?_
 obtain rfl:=si hm
 exact r3c (vs:=[.slice none 0 0,.slice none 0 0,.slice none 0 0,.slice none 0 0,.slice none 0 0,.slice none 0 0]) (.inl rfl) o results64 rfl rfl rfl isAgg27 sizeOf27 rfl ((St.ld u).cellsB t1) ⟨H,_,rfl,(show Enc.rep (α:=api_Prog) H [.slice none 0 0,.slice none 0 0,.slice none 0 0,.slice none 0 0,.slice none 0 0,.slice none 0 0] (api_Prog.mk [] [] [] [] [] []) from ⟨_,_,rfl,⟨none,0,rfl,Nat.le_refl _,SR.nil _ _⟩,⟨_,_,rfl,⟨none,0,rfl,Nat.le_refl _,SR.nil _ _⟩,⟨_,_,rfl,⟨none,0,rfl,Nat.le_refl _,SR.nil _ _⟩,⟨_,_,rfl,⟨none,0,rfl,Nat.le_refl _,SR.nil _ _⟩,⟨_,_,rfl,⟨none,0,rfl,Nat.le_refl _,SR.nil _ _⟩,⟨none,0,rfl,Nat.le_refl _,SR.nil _ _⟩⟩⟩⟩⟩⟩),(Ext.refl _ _),(St.le u),u.keep⟩
 replace hm:=itp_f hm hb10
 refine tn<|cfv o rfl hb10<|wk<|tn<|th<|?_
 obtain ⟨H14,hx11,hr12,hc13,u⟩:=St.frzS u .head hv8
 refine rg<|qm o rfl fun a o=>qv o (e_bldK [.slice oa5 rz3.1.length cap6] [.slice oa5 rz3.1.length cap6,i6 0,i6 0,i6 0] o ⟨rfl,trivial⟩ (fun w=>by kernel_rfl)) fun a o=>ls<|a_box (cs:=[.slice oa5 rz3.1.length cap6,i6 0,i6 0,i6 0].toArray) o rfl u rfl rfl fun b15 w a u o=>qv o (e_bldK [] [.slice none 0 0,.slice none 0 0,.slice none 0 0,.slice none 0 0,.slice none 0 0,.slice none 0 0] o trivial (fun w=>by kernel_rfl)) fun a o=>ls<|a_alloc (cs:=[.slice none 0 0,.slice none 0 0,.slice none 0 0,.slice none 0 0,.slice none 0 0,.slice none 0 0].toArray) o rfl u zeroValue27 rfl fun b16 w a u o=>qa o rfl fun a o=>ls<|s_blkA o u sizeOf27 rfl rfl rfl rfl (one_cells rfl) .head fun w u=>re<|tn<|th<|midK (fun a w=>∃ (vA2:(List api_Token)) (vA7:Int) (vA8:Int) (vA9:Int) (vA10:(List (List api_Cell))) (HA1:PH) (oaA3:Option Addr) (capA4:Nat) (oaA11:Option Addr) (capA12:Nat) (vsA13:List Value),(Z4w N rz3) vA2 vA7 vA8 vA9 vA10=some r∧Ext w0 H14 HA1∧Fr 128 [(2,.pointer (some ⟨b2,0,none⟩)),(5,.slice oa5 rz3.1.length cap6),(8,.pointer (some ⟨b15,0,none⟩)),(9,.pointer (some ⟨b16,0,none⟩))] a∧St w0 Nil [HA1] [blk b2 (.cells [.slice none 0 0,.slice none 0 0,.slice none 0 0,.slice none 0 0,.slice none 0 0,.slice none 0 0].toArray 27 (0,0)),blk b15 (.cells [.slice oaA3 vA2.length capA4,i6 vA7,i6 vA8,i6 vA9].toArray 125 (0,0)),sla 23 1 oaA11 vA10.length capA12 vsA13,blk b16 (.cells [.slice oaA11 vA10.length capA12,.slice none 0 0,.slice none 0 0,.slice none 0 0,.slice none 0 0,.slice none 0 0].toArray 27 (0,0))] w∧vA2.length≤capA4∧SR HA1 oaA3 vA2∧Rows HA1 vsA13 vA10) ?_ ?_
 replace u:=St.nilS u 23 1
 replace u:=u.pk [3,2,0,0] rfl
 refine wb<|lp (α:=Nat×(List api_Token)×Int×Int×Int×(List (List api_Cell))) (fun (gh:Nat×(List api_Token)×Int×Int×Int×(List (List api_Cell))) a w=>match gh with | (nn2,vB2,vB7,vB8,vB9,vB10)=>∃ (HB1:PH) (oaB3:Option Addr) (capB4:Nat) (oaB11:Option Addr) (capB12:Nat) (vsB13:List Value),(Z54 N (Z4w N rz3)) nn2 vB2 vB7 vB8 vB9 vB10=some r∧Ext w0 H14 HB1∧Fr 128 [(2,.pointer (some ⟨b2,0,none⟩)),(5,.slice oa5 rz3.1.length cap6),(8,.pointer (some ⟨b15,0,none⟩)),(9,.pointer (some ⟨b16,0,none⟩))] a∧St w0 Nil [HB1] [blk b2 (.cells [.slice none 0 0,.slice none 0 0,.slice none 0 0,.slice none 0 0,.slice none 0 0,.slice none 0 0].toArray 27 (0,0)),blk b15 (.cells [.slice oaB3 vB2.length capB4,i6 vB7,i6 vB8,i6 vB9].toArray 125 (0,0)),sla 23 1 oaB11 vB10.length capB12 vsB13,blk b16 (.cells [.slice oaB11 vB10.length capB12,.slice none 0 0,.slice none 0 0,.slice none 0 0,.slice none 0 0,.slice none 0 0].toArray 27 (0,0))] w∧vB2.length≤capB4∧SR HB1 oaB3 vB2∧Rows HB1 vsB13 vB10) (fun gh=>gh.1) (N,rz3.1,0,0,0,[]) ⟨H14,oa5,cap6,none,0,[],hm,(Ext.refl _ _),o.hs,u,hc13,hr12,.nil⟩ ?_
 rintro ⟨nn2,vB2,vB7,vB8,vB9,vB10⟩ a w ⟨HB1,oaB3,capB4,oaB11,capB12,vsB13,hm,hxHB1,o,u,hcB5,hrB6,hvB14⟩
 obtain _ | nn2:=nn2
 simp [Z54] at hm
 rw [Z54] at hm
 refine th<|th<|?_
 obtain ⟨r17,h18,hm⟩:=bs hm
 refine rg<|qm o rfl fun a o=>?_
 replace u:=u.pk [1,0,0,0] rfl
 replace u:=St.sep [blk b15 (.cells [.slice oaB3 vB2.length capB4,i6 vB7,i6 vB8,i6 vB9].toArray 125 (0,0))] u
 refine ls<|c1 o rfl call102 (Z4g_c (St.le u) (p1:=(leadlineref05_In.mk vB2 vB7 vB8 vB9)) (b2:=b15) (oa3:=oaB3) (cap4:=capB4) hcB5 hrB6 (St.sepOk u) (St.sepDis u) h18) ⟨rfl,rfl,trivial⟩ (fun v w a hR o=>?_)
 obtain ⟨oa19,cap20,rfl,hc21,hr22,hk⟩:=hR
 replace u:=(u.mut hk .head).unsep
 refine re<|?_
 rcases bdich r17.1 with hb23 | hb23
 replace hm:=ite_t hm hb23
 refine tn<|ctv o rfl hb23<|wk<|tn<|wb<|?_
 obtain ⟨r24,h25,hm⟩:=bs hm
 obtain ⟨l42,h43,hm⟩:=bs hm
 refine rdL (sub_cons t1 (sub_cons t3 sub_nil)) 7 u wide fun w u=>ds 0 (St.ldsX u i2 (sub_cons t1 (sub_cons t3 sub_nil))) o rfl (e_fa o fa27_0 rfl) fun a o=>dq 1 (St.ldsX u i2 (sub_cons t1 (sub_cons t3 sub_nil))) o rfl (fun w hl=>e_ld o isAgg22 rfl (hl.cellB t1 rfl)) fun a o=>ds 2 (St.ldsX u i2 (sub_cons t1 (sub_cons t3 sub_nil))) o rfl (e_move o rfl) fun a o=>da1 (i:=3) (by kernel_rfl) ?_
 replace u:=u.pk [0,0,0,0] rfl
 replace u:=St.sep [blk b15 (.cells [.slice oa19 r17.2.L.length cap20,i6 r17.2.At,i6 r17.2.E,i6 r17.2.Pos].toArray 125 (0,0))] u
 refine di (i:=3) rfl<|c1 o rfl call103 (Z4l_c (St.le u) (p1:=r17.2) (b2:=b15) (oa3:=oa19) (cap4:=cap20) hc21 hr22 (St.sepOk u) (St.sepDis u) h25) ⟨rfl,rfl,trivial⟩ (fun v w a hR o=>?_)
 obtain ⟨oa26,cap27,vs28,oa31,cap32,rfl,hv29,hc33,hr34,hk⟩:=hR
 replace u:=(u.mut hk .head).unsep
 replace hv29:=hv29 HB1
 refine ⟨fun _=>(St.ldsX u i2 (sub_cons t2 (sub_cons t4 sub_nil))),?_⟩
 refine da1 (i:=4) (by kernel_rfl) ?_
 obtain ⟨H38,hx35,hr36,hc37,u⟩:=St.frzS u (.tail .head) hv29
 refine di (i:=4) rfl<|a_bsl (e:=23) (sz:=1) [.slice oa26 r24.1.length cap27] o rfl u rfl rfl rfl (fun w=>by kernel_rfl) fun b40 w a u o=>?_
 have hv39:Rows (α:=(List api_Cell)) H38 [.slice oa26 r24.1.length cap27] ([r24.1]:List (List api_Cell)):=(.cons (c:=[.slice oa26 r24.1.length cap27]) ⟨_,_,rfl,hc37,hr36⟩ .nil)
 refine ⟨fun _=>(St.ldsX u hx35.sub (sub_cons t2 (sub_cons t4 sub_nil))),?_⟩
 refine da1 (i:=5) (by kernel_rfl) ?_
 refine di (i:=5) rfl<|m_app (α:=(List api_Cell)) (xs:=vB10) (ys:=([r24.1]:List (List api_Cell))) o rfl u underlying22 info23 rfl (by decide) rfl rfl rfl t3 (hvB14.mono hx35.sub) (u.rdO t0) hv39 h43 fun oa44 cap45 vs46 w a hv47 hU o=>?_
 replace u:=hU _ (.tail (.tail (.tail .head)))
 replace u:=u.drop .head
 refine ⟨fun _=>(St.ldsX u hx35.sub (sub_cons t1 (sub_cons t3 sub_nil))),?_⟩
 refine ds 6 (St.ldsX u hx35.sub (sub_cons t1 (sub_cons t3 sub_nil))) o rfl (e_fa o fa27_0 rfl) fun a o=>da1 (i:=7) (by kernel_rfl) ?_
 refine di (i:=7) rfl<|s_blk o u sizeOf22 rfl rfl rfl rfl (.tail (.tail (.tail .head))) .zero fun w u=>⟨fun h=>absurd rfl h,?_⟩
 refine de (by kernel_rfl)<|bn<|tn<|?_
 replace u:=u.pk [1,0,0,0] rfl
 exact ⟨(nn2,r24.2.L,r24.2.At,r24.2.E,r24.2.Pos,l42),⟨H38,oa31,cap32,oa44,cap45,vs46,hm,(Ext.trans hxHB1 hx35),o.hs,u,hc33,(hr34.mono hx35.sub),hv47⟩,Nat.lt_succ_self _⟩
 replace hm:=ite_f hm hb23
 refine tn<|cfv o rfl hb23<|we<|tx<|tx<|bx<|tn<|?_
 replace u:=u.pk [1,0,0,0] rfl
 exact ⟨r17.2.L,r17.2.At,r17.2.E,r17.2.Pos,vB10,HB1,oa19,cap20,oaB11,capB12,vsB13,hm,hxHB1,o.hs,u,hc21,hr22,hvB14⟩
 rintro a w ⟨vA2,vA7,vA8,vA9,vA10,HA1,oaA3,capA4,oaA11,capA12,vsA13,hm,hxHA1,o,u,hcA5,hrA6,hvA14⟩
 unfold Z4w at hm
 refine th<|midK (fun a w=>∃ (vA16:(List api_Token)) (vA21:Int) (vA22:Int) (vA23:Int) (vA24:(List api_Cell)) (oaA17:Option Addr) (capA18:Nat) (oaA25:Option Addr) (capA26:Nat) (vsA27:List Value),(Z4z N rz3 vA10) vA16 vA21 vA22 vA23 vA24=some r∧Fr 128 [(2,.pointer (some ⟨b2,0,none⟩)),(5,.slice oa5 rz3.1.length cap6),(8,.pointer (some ⟨b15,0,none⟩)),(9,.pointer (some ⟨b16,0,none⟩))] a∧St w0 Nil [HA1] [blk b2 (.cells [.slice none 0 0,.slice none 0 0,.slice none 0 0,.slice none 0 0,.slice none 0 0,.slice none 0 0].toArray 27 (0,0)),blk b15 (.cells [.slice oaA17 vA16.length capA18,i6 vA21,i6 vA22,i6 vA23].toArray 125 (0,0)),sla 23 1 oaA11 vA10.length capA12 vsA13,sla 53 3 oaA25 vA24.length capA26 vsA27,blk b16 (.cells [.slice oaA11 vA10.length capA12,.slice oaA25 vA24.length capA26,.slice none 0 0,.slice none 0 0,.slice none 0 0,.slice none 0 0].toArray 27 (0,0))] w∧vA16.length≤capA18∧SR HA1 oaA17 vA16∧Rows HA1 vsA27 vA24) ?_ ?_
 replace u:=St.nilS u 53 3
 replace u:=u.pk [1,1,1,0,0] rfl
 refine wb<|lp (α:=Nat×(List api_Token)×Int×Int×Int×(List api_Cell)) (fun gh a w=>match gh with | (nn4,vB16,vB21,vB22,vB23,vB24)=>∃ (oaB17:Option Addr) (capB18:Nat) (oaB25:Option Addr) (capB26:Nat) (vsB27:List Value),(Z55 N (Z4z N rz3 vA10)) nn4 vB16 vB21 vB22 vB23 vB24=some r∧Fr 128 [(2,.pointer (some ⟨b2,0,none⟩)),(5,.slice oa5 rz3.1.length cap6),(8,.pointer (some ⟨b15,0,none⟩)),(9,.pointer (some ⟨b16,0,none⟩))] a∧St w0 Nil [HA1] [blk b2 (.cells [.slice none 0 0,.slice none 0 0,.slice none 0 0,.slice none 0 0,.slice none 0 0,.slice none 0 0].toArray 27 (0,0)),blk b15 (.cells [.slice oaB17 vB16.length capB18,i6 vB21,i6 vB22,i6 vB23].toArray 125 (0,0)),sla 23 1 oaA11 vA10.length capA12 vsA13,sla 53 3 oaB25 vB24.length capB26 vsB27,blk b16 (.cells [.slice oaA11 vA10.length capA12,.slice oaB25 vB24.length capB26,.slice none 0 0,.slice none 0 0,.slice none 0 0,.slice none 0 0].toArray 27 (0,0))] w∧vB16.length≤capB18∧SR HA1 oaB17 vB16∧Rows HA1 vsB27 vB24) (fun gh=>gh.1) (N,vA2,vA7,vA8,vA9,[]) ⟨oaA3,capA4,none,0,[],hm,o.hs,u,hcA5,hrA6,.nil⟩ ?_
 rintro ⟨nn4,vB16,vB21,vB22,vB23,vB24⟩ a w ⟨oaB17,capB18,oaB25,capB26,vsB27,hm,o,u,hcB19,hrB20,hvB28⟩
 obtain _ | nn4:=nn4
 simp [Z55] at hm
 rw [Z55] at hm
 refine th<|th<|?_
 obtain ⟨r48,h49,hm⟩:=bs hm
 refine rg<|qm o rfl fun a o=>?_
 replace u:=u.pk [1,0,0,0,0] rfl
 replace u:=St.sep [blk b15 (.cells [.slice oaB17 vB16.length capB18,i6 vB21,i6 vB22,i6 vB23].toArray 125 (0,0))] u
 refine ls<|c1 o rfl call102 (Z4g_c (St.le u) (p1:=(leadlineref05_In.mk vB16 vB21 vB22 vB23)) (b2:=b15) (oa3:=oaB17) (cap4:=capB18) hcB19 hrB20 (St.sepOk u) (St.sepDis u) h49) ⟨rfl,rfl,trivial⟩ (fun v w a hR o=>?_)
 obtain ⟨oa50,cap51,rfl,hc52,hr53,hk⟩:=hR
 replace u:=(u.mut hk .head).unsep
 refine re<|?_
 rcases bdich r48.1 with hb54 | hb54
 replace hm:=ite_t hm hb54
 refine tn<|ctv o rfl hb54<|wk<|tn<|wb<|?_
 obtain ⟨r55,h56,hm⟩:=bs hm
 obtain ⟨l66,h67,hm⟩:=bs hm
 refine rdL (sub_cons t1 (sub_cons t2 (sub_cons t4 sub_nil))) 6 u wide fun w u=>ds 0 (St.ldsX u i2 (sub_cons t1 (sub_cons t2 (sub_cons t4 sub_nil)))) o rfl (e_fa o fa27_1 rfl) fun a o=>dq 1 (St.ldsX u i2 (sub_cons t1 (sub_cons t2 (sub_cons t4 sub_nil)))) o rfl (fun w hl=>e_ld o isAgg23 rfl (hl.cellB t2 rfl)) fun a o=>ds 2 (St.ldsX u i2 (sub_cons t1 (sub_cons t2 (sub_cons t4 sub_nil)))) o rfl (e_move o rfl) fun a o=>da1 (i:=3) (by kernel_rfl) ?_
 replace u:=u.pk [0,0,0,0,0] rfl
 replace u:=St.sep [blk b15 (.cells [.slice oa50 r48.2.L.length cap51,i6 r48.2.At,i6 r48.2.E,i6 r48.2.Pos].toArray 125 (0,0))] u
 refine di (i:=3) rfl<|c1 o rfl call103 (Z4l_c (St.le u) (p1:=r48.2) (b2:=b15) (oa3:=oa50) (cap4:=cap51) hc52 hr53 (St.sepOk u) (St.sepDis u) h56) ⟨rfl,rfl,trivial⟩ (fun v w a hR o=>?_)
 obtain ⟨oa57,cap58,vs59,oa62,cap63,rfl,hv60,hc64,hr65,hk⟩:=hR
 replace u:=(u.mut hk .head).unsep
 replace hv60:=hv60 HA1
 refine ⟨fun _=>(St.ldsX u i2 (sub_cons t2 (sub_cons t3 (sub_cons t5 sub_nil)))),?_⟩
 refine da1 (i:=4) (by kernel_rfl) ?_
 refine di (i:=4) rfl<|m_app (α:=api_Cell) (xs:=vB24) (ys:=r55.1) o rfl u underlying23 info53 rfl (by decide) rfl rfl rfl t4 hvB28 (u.rdO t1) hv60 h67 fun oa68 cap69 vs70 w a hv71 hU o=>?_
 replace u:=hU _ (.tail (.tail (.tail (.tail .head))))
 refine ⟨fun _=>(St.ldsX u i2 (sub_cons t2 (sub_cons t3 (sub_cons t5 sub_nil)))),?_⟩
 refine ds 5 (St.ldsX u i2 (sub_cons t2 (sub_cons t3 (sub_cons t5 sub_nil)))) o rfl (e_fa o fa27_1 rfl) fun a o=>da1 (i:=6) (by kernel_rfl) ?_
 refine di (i:=6) rfl<|s_blk o u sizeOf23 rfl rfl rfl rfl (.tail (.tail (.tail (.tail (.tail .head))))) (.succ .zero) fun w u=>⟨fun h=>absurd rfl h,?_⟩
 refine de (by kernel_rfl)<|bn<|tn<|?_
 replace u:=u.pk [2,0,1,1,1] rfl
 exact ⟨(nn4,r55.2.L,r55.2.At,r55.2.E,r55.2.Pos,l66),⟨oa62,cap63,oa68,cap69,vs70,hm,o.hs,u,hc64,hr65,hv71⟩,Nat.lt_succ_self _⟩
 replace hm:=ite_f hm hb54
 refine tn<|cfv o rfl hb54<|we<|tx<|tx<|bx<|tn<|?_
 replace u:=u.pk [1,0,0,0,0] rfl
 exact ⟨r48.2.L,r48.2.At,r48.2.E,r48.2.Pos,vB24,oa50,cap51,oaB25,capB26,vsB27,hm,o.hs,u,hc52,hr53,hvB28⟩
 rintro a w ⟨vA16,vA21,vA22,vA23,vA24,oaA17,capA18,oaA25,capA26,vsA27,hm,o,u,hcA19,hrA20,hvA28⟩
 unfold Z4z at hm
 refine th<|midK (fun a w=>∃ (vA30:(List api_Token)) (vA35:Int) (vA36:Int) (vA37:Int) (vA38:(List api_Cell)) (oaA31:Option Addr) (capA32:Nat) (oaA39:Option Addr) (capA40:Nat) (vsA41:List Value),(Z50 N rz3 vA10 vA24) vA30 vA35 vA36 vA37 vA38=some r∧Fr 128 [(2,.pointer (some ⟨b2,0,none⟩)),(5,.slice oa5 rz3.1.length cap6),(8,.pointer (some ⟨b15,0,none⟩)),(9,.pointer (some ⟨b16,0,none⟩))] a∧St w0 Nil [HA1] [blk b2 (.cells [.slice none 0 0,.slice none 0 0,.slice none 0 0,.slice none 0 0,.slice none 0 0,.slice none 0 0].toArray 27 (0,0)),blk b15 (.cells [.slice oaA31 vA30.length capA32,i6 vA35,i6 vA36,i6 vA37].toArray 125 (0,0)),sla 23 1 oaA11 vA10.length capA12 vsA13,sla 53 3 oaA25 vA24.length capA26 vsA27,sla 53 3 oaA39 vA38.length capA40 vsA41,blk b16 (.cells [.slice oaA11 vA10.length capA12,.slice oaA25 vA24.length capA26,.slice oaA39 vA38.length capA40,.slice none 0 0,.slice none 0 0,.slice none 0 0].toArray 27 (0,0))] w∧vA30.length≤capA32∧SR HA1 oaA31 vA30∧Rows HA1 vsA41 vA38) ?_ ?_
 replace u:=St.nilS u 53 3
 replace u:=u.pk [1,1,1,1,0,0] rfl
 refine wb<|lp (α:=Nat×(List api_Token)×Int×Int×Int×(List api_Cell)) (fun gh a w=>match gh with | (nn6,vB30,vB35,vB36,vB37,vB38)=>∃ (oaB31:Option Addr) (capB32:Nat) (oaB39:Option Addr) (capB40:Nat) (vsB41:List Value),(Z56 N (Z50 N rz3 vA10 vA24)) nn6 vB30 vB35 vB36 vB37 vB38=some r∧Fr 128 [(2,.pointer (some ⟨b2,0,none⟩)),(5,.slice oa5 rz3.1.length cap6),(8,.pointer (some ⟨b15,0,none⟩)),(9,.pointer (some ⟨b16,0,none⟩))] a∧St w0 Nil [HA1] [blk b2 (.cells [.slice none 0 0,.slice none 0 0,.slice none 0 0,.slice none 0 0,.slice none 0 0,.slice none 0 0].toArray 27 (0,0)),blk b15 (.cells [.slice oaB31 vB30.length capB32,i6 vB35,i6 vB36,i6 vB37].toArray 125 (0,0)),sla 23 1 oaA11 vA10.length capA12 vsA13,sla 53 3 oaA25 vA24.length capA26 vsA27,sla 53 3 oaB39 vB38.length capB40 vsB41,blk b16 (.cells [.slice oaA11 vA10.length capA12,.slice oaA25 vA24.length capA26,.slice oaB39 vB38.length capB40,.slice none 0 0,.slice none 0 0,.slice none 0 0].toArray 27 (0,0))] w∧vB30.length≤capB32∧SR HA1 oaB31 vB30∧Rows HA1 vsB41 vB38) (fun gh=>gh.1) (N,vA16,vA21,vA22,vA23,[]) ⟨oaA17,capA18,none,0,[],hm,o.hs,u,hcA19,hrA20,.nil⟩ ?_
 rintro ⟨nn6,vB30,vB35,vB36,vB37,vB38⟩ a w ⟨oaB31,capB32,oaB39,capB40,vsB41,hm,o,u,hcB33,hrB34,hvB42⟩
 obtain _ | nn6:=nn6
 simp [Z56] at hm
 rw [Z56] at hm
 refine th<|th<|?_
 obtain ⟨r72,h73,hm⟩:=bs hm
 refine rg<|qm o rfl fun a o=>?_
 replace u:=u.pk [1,0,0,0,0,0] rfl
 replace u:=St.sep [blk b15 (.cells [.slice oaB31 vB30.length capB32,i6 vB35,i6 vB36,i6 vB37].toArray 125 (0,0))] u
 refine ls<|c1 o rfl call102 (Z4g_c (St.le u) (p1:=(leadlineref05_In.mk vB30 vB35 vB36 vB37)) (b2:=b15) (oa3:=oaB31) (cap4:=capB32) hcB33 hrB34 (St.sepOk u) (St.sepDis u) h73) ⟨rfl,rfl,trivial⟩ (fun v w a hR o=>?_)
 obtain ⟨oa74,cap75,rfl,hc76,hr77,hk⟩:=hR
 replace u:=(u.mut hk .head).unsep
 refine re<|?_
 rcases bdich r72.1 with hb78 | hb78
 replace hm:=ite_t hm hb78
 refine tn<|ctv o rfl hb78<|wk<|tn<|wb<|?_
 obtain ⟨r79,h80,hm⟩:=bs hm
 obtain ⟨l90,h91,hm⟩:=bs hm
 refine rdL (sub_cons t1 (sub_cons t2 (sub_cons t3 (sub_cons t5 sub_nil)))) 6 u wide fun w u=>ds 0 (St.ldsX u i2 (sub_cons t1 (sub_cons t2 (sub_cons t3 (sub_cons t5 sub_nil))))) o rfl (e_fa o fa27_2 rfl) fun a o=>dq 1 (St.ldsX u i2 (sub_cons t1 (sub_cons t2 (sub_cons t3 (sub_cons t5 sub_nil))))) o rfl (fun w hl=>e_ld o isAgg23 rfl (hl.cellB t3 rfl)) fun a o=>ds 2 (St.ldsX u i2 (sub_cons t1 (sub_cons t2 (sub_cons t3 (sub_cons t5 sub_nil))))) o rfl (e_move o rfl) fun a o=>da1 (i:=3) (by kernel_rfl) ?_
 replace u:=u.pk [0,0,0,0,0,0] rfl
 replace u:=St.sep [blk b15 (.cells [.slice oa74 r72.2.L.length cap75,i6 r72.2.At,i6 r72.2.E,i6 r72.2.Pos].toArray 125 (0,0))] u
 refine di (i:=3) rfl<|c1 o rfl call103 (Z4l_c (St.le u) (p1:=r72.2) (b2:=b15) (oa3:=oa74) (cap4:=cap75) hc76 hr77 (St.sepOk u) (St.sepDis u) h80) ⟨rfl,rfl,trivial⟩ (fun v w a hR o=>?_)
 obtain ⟨oa81,cap82,vs83,oa86,cap87,rfl,hv84,hc88,hr89,hk⟩:=hR
 replace u:=(u.mut hk .head).unsep
 replace hv84:=hv84 HA1
 refine ⟨fun _=>(St.ldsX u i2 (sub_cons t2 (sub_cons t3 (sub_cons t4 (sub_cons t6 sub_nil))))),?_⟩
 refine da1 (i:=4) (by kernel_rfl) ?_
 refine di (i:=4) rfl<|m_app (α:=api_Cell) (xs:=vB38) (ys:=r79.1) o rfl u underlying23 info53 rfl (by decide) rfl rfl rfl t5 hvB42 (u.rdO t1) hv84 h91 fun oa92 cap93 vs94 w a hv95 hU o=>?_
 replace u:=hU _ (.tail (.tail (.tail (.tail (.tail .head)))))
 refine ⟨fun _=>(St.ldsX u i2 (sub_cons t2 (sub_cons t3 (sub_cons t4 (sub_cons t6 sub_nil))))),?_⟩
 refine ds 5 (St.ldsX u i2 (sub_cons t2 (sub_cons t3 (sub_cons t4 (sub_cons t6 sub_nil))))) o rfl (e_fa o fa27_2 rfl) fun a o=>da1 (i:=6) (by kernel_rfl) ?_
 refine di (i:=6) rfl<|s_blk o u sizeOf23 rfl rfl rfl rfl (.tail (.tail (.tail (.tail (.tail (.tail .head)))))) (.succ (.succ .zero)) fun w u=>⟨fun h=>absurd rfl h,?_⟩
 refine de (by kernel_rfl)<|bn<|tn<|?_
 replace u:=u.pk [2,0,1,1,1,1] rfl
 exact ⟨(nn6,r79.2.L,r79.2.At,r79.2.E,r79.2.Pos,l90),⟨oa86,cap87,oa92,cap93,vs94,hm,o.hs,u,hc88,hr89,hv95⟩,Nat.lt_succ_self _⟩
 replace hm:=ite_f hm hb78
 refine tn<|cfv o rfl hb78<|we<|tx<|tx<|bx<|tn<|?_
 replace u:=u.pk [1,0,0,0,0,0] rfl
 exact ⟨r72.2.L,r72.2.At,r72.2.E,r72.2.Pos,vB38,oa74,cap75,oaB39,capB40,vsB41,hm,o.hs,u,hc76,hr77,hvB42⟩
 rintro a w ⟨vA30,vA35,vA36,vA37,vA38,oaA31,capA32,oaA39,capA40,vsA41,hm,o,u,hcA33,hrA34,hvA42⟩
 unfold Z50 at hm
 refine th<|midK (fun a w=>∃ (vA45:(List api_Token)) (vA50:Int) (vA51:Int) (vA52:Int) (vA53:(List api_Thread)) (HA44:PH) (oaA46:Option Addr) (capA47:Nat) (oaA54:Option Addr) (capA55:Nat) (vsA56:List Value),(Z51 N rz3 vA10 vA24 vA38) vA45 vA50 vA51 vA52 vA53=some r∧Ext w0 HA1 HA44∧Fr 128 [(2,.pointer (some ⟨b2,0,none⟩)),(5,.slice oa5 rz3.1.length cap6),(8,.pointer (some ⟨b15,0,none⟩)),(9,.pointer (some ⟨b16,0,none⟩))] a∧St w0 Nil [HA44] [blk b2 (.cells [.slice none 0 0,.slice none 0 0,.slice none 0 0,.slice none 0 0,.slice none 0 0,.slice none 0 0].toArray 27 (0,0)),blk b15 (.cells [.slice oaA46 vA45.length capA47,i6 vA50,i6 vA51,i6 vA52].toArray 125 (0,0)),sla 23 1 oaA11 vA10.length capA12 vsA13,sla 53 3 oaA25 vA24.length capA26 vsA27,sla 53 3 oaA39 vA38.length capA40 vsA41,sla 48 4 oaA54 vA53.length capA55 vsA56,blk b16 (.cells [.slice oaA11 vA10.length capA12,.slice oaA25 vA24.length capA26,.slice oaA39 vA38.length capA40,.slice oaA54 vA53.length capA55,.slice none 0 0,.slice none 0 0].toArray 27 (0,0))] w∧vA45.length≤capA47∧SR HA44 oaA46 vA45∧Rows HA44 vsA56 vA53) ?_ ?_
 replace u:=St.nilS u 48 4
 replace u:=u.pk [1,1,1,1,1,0,0] rfl
 refine wb<|lp (α:=Nat×(List api_Token)×Int×Int×Int×(List api_Thread)) (fun gh a w=>match gh with | (nn8,vB45,vB50,vB51,vB52,vB53)=>∃ (HB44:PH) (oaB46:Option Addr) (capB47:Nat) (oaB54:Option Addr) (capB55:Nat) (vsB56:List Value),(Z57 N (Z51 N rz3 vA10 vA24 vA38)) nn8 vB45 vB50 vB51 vB52 vB53=some r∧Ext w0 HA1 HB44∧Fr 128 [(2,.pointer (some ⟨b2,0,none⟩)),(5,.slice oa5 rz3.1.length cap6),(8,.pointer (some ⟨b15,0,none⟩)),(9,.pointer (some ⟨b16,0,none⟩))] a∧St w0 Nil [HB44] [blk b2 (.cells [.slice none 0 0,.slice none 0 0,.slice none 0 0,.slice none 0 0,.slice none 0 0,.slice none 0 0].toArray 27 (0,0)),blk b15 (.cells [.slice oaB46 vB45.length capB47,i6 vB50,i6 vB51,i6 vB52].toArray 125 (0,0)),sla 23 1 oaA11 vA10.length capA12 vsA13,sla 53 3 oaA25 vA24.length capA26 vsA27,sla 53 3 oaA39 vA38.length capA40 vsA41,sla 48 4 oaB54 vB53.length capB55 vsB56,blk b16 (.cells [.slice oaA11 vA10.length capA12,.slice oaA25 vA24.length capA26,.slice oaA39 vA38.length capA40,.slice oaB54 vB53.length capB55,.slice none 0 0,.slice none 0 0].toArray 27 (0,0))] w∧vB45.length≤capB47∧SR HB44 oaB46 vB45∧Rows HB44 vsB56 vB53) (fun gh=>gh.1) (N,vA30,vA35,vA36,vA37,[]) ⟨HA1,oaA31,capA32,none,0,[],hm,(Ext.refl _ _),o.hs,u,hcA33,hrA34,.nil⟩ ?_
 rintro ⟨nn8,vB45,vB50,vB51,vB52,vB53⟩ a w ⟨HB44,oaB46,capB47,oaB54,capB55,vsB56,hm,hxHB44,o,u,hcB48,hrB49,hvB57⟩
 obtain _ | nn8:=nn8
 simp [Z57] at hm
 rw [Z57] at hm
 refine th<|th<|?_
 obtain ⟨r96,h97,hm⟩:=bs hm
 refine rg<|qm o rfl fun a o=>?_
 replace u:=u.pk [1,0,0,0,0,0,0] rfl
 replace u:=St.sep [blk b15 (.cells [.slice oaB46 vB45.length capB47,i6 vB50,i6 vB51,i6 vB52].toArray 125 (0,0))] u
 refine ls<|c1 o rfl call102 (Z4g_c (St.le u) (p1:=(leadlineref05_In.mk vB45 vB50 vB51 vB52)) (b2:=b15) (oa3:=oaB46) (cap4:=capB47) hcB48 hrB49 (St.sepOk u) (St.sepDis u) h97) ⟨rfl,rfl,trivial⟩ (fun v w a hR o=>?_)
 obtain ⟨oa98,cap99,rfl,hc100,hr101,hk⟩:=hR
 replace u:=(u.mut hk .head).unsep
 refine re<|?_
 rcases bdich r96.1 with hb102 | hb102
 replace hm:=ite_t hm hb102
 refine tn<|ctv o rfl hb102<|wk<|tn<|wb<|th<|?_
 obtain ⟨r103,h104,hm⟩:=bs hm
 refine rg<|qm o rfl fun a o=>?_
 replace u:=u.pk [0,0,0,0,0,0,0] rfl
 replace u:=St.sep [blk b15 (.cells [.slice oa98 r96.2.L.length cap99,i6 r96.2.At,i6 r96.2.E,i6 r96.2.Pos].toArray 125 (0,0))] u
 refine ls<|c1 o rfl call104 (Z4j_c (St.le u) (p1:=r96.2) (b2:=b15) (oa3:=oa98) (cap4:=cap99) hc100 hr101 (St.sepOk u) (St.sepDis u) h104) ⟨rfl,trivial⟩ (fun v w a hR o=>?_)
 obtain ⟨oa105,cap106,rfl,hc107,hr108,hk⟩:=hR
 replace u:=(u.mut hk .head).unsep
 refine ls<|a_alloc (cs:=[strv [],i6 0,i6 0].toArray) o rfl u zeroValue53 rfl fun b109 w a u o=>ls<|s_blkA o u sizeOf53 rfl rfl rfl rfl (one_cells rfl) .head fun w u=>re<|tn<|?_
 obtain ⟨r110,h111,hm⟩:=bs hm
 obtain ⟨l133,h134,hm⟩:=bs hm
 refine rdL (sub_cons t0 (sub_cons t2 (sub_cons t3 (sub_cons t4 (sub_cons t5 (sub_cons t7 sub_nil)))))) 12 u wide fun w u=>ds 0 (St.ldsX u i2 (sub_cons t0 (sub_cons t2 (sub_cons t3 (sub_cons t4 (sub_cons t5 (sub_cons t7 sub_nil))))))) o rfl (e_fa o fa27_3 rfl) fun a o=>dq 1 (St.ldsX u i2 (sub_cons t0 (sub_cons t2 (sub_cons t3 (sub_cons t4 (sub_cons t5 (sub_cons t7 sub_nil))))))) o rfl (fun w hl=>e_ld o isAgg24 rfl (hl.cellB t5 rfl)) fun a o=>ds 2 (St.ldsX u i2 (sub_cons t0 (sub_cons t2 (sub_cons t3 (sub_cons t4 (sub_cons t5 (sub_cons t7 sub_nil))))))) o rfl (e_move o rfl) fun a o=>ds 3 (St.ldsX u i2 (sub_cons t0 (sub_cons t2 (sub_cons t3 (sub_cons t4 (sub_cons t5 (sub_cons t7 sub_nil))))))) o rfl (e_fa o fa53_0 rfl) fun a o=>dq 4 (St.ldsX u i2 (sub_cons t0 (sub_cons t2 (sub_cons t3 (sub_cons t4 (sub_cons t5 (sub_cons t7 sub_nil))))))) o rfl (fun w hl=>e_ld o isAgg9 rfl (hl.cellB t0 rfl)) fun a o=>ds 5 (St.ldsX u i2 (sub_cons t0 (sub_cons t2 (sub_cons t3 (sub_cons t4 (sub_cons t5 (sub_cons t7 sub_nil))))))) o rfl (e_fa o fa53_2 rfl) fun a o=>dq 6 (St.ldsX u i2 (sub_cons t0 (sub_cons t2 (sub_cons t3 (sub_cons t4 (sub_cons t5 (sub_cons t7 sub_nil))))))) o rfl (fun w hl=>e_ld o isAgg3 rfl (hl.cellB t0 rfl)) fun a o=>dq 7 (St.ldsX u i2 (sub_cons t0 (sub_cons t2 (sub_cons t3 (sub_cons t4 (sub_cons t5 (sub_cons t7 sub_nil))))))) o rfl (fun w hl=>e_bldK [strv r103.1.Name,i6 r103.1.At] [strv r103.1.Name,.slice none 0 0,.slice none 0 0,i6 r103.1.At] o ⟨rfl,rfl,trivial⟩ (fun w=>by kernel_rfl)) fun a o=>da1 (i:=8) (by kernel_rfl) ?_
 replace u:=u.pk [1,0,0,0,0,0,0,0] rfl
 replace u:=St.sep [blk b15 (.cells [.slice oa105 r103.2.L.length cap106,i6 r103.2.At,i6 r103.2.E,i6 r103.2.Pos].toArray 125 (0,0))] u
 refine di (i:=8) rfl<|c1 o rfl call105 (Z4r_c (St.le u) (p1:=r103.2) (b2:=b15) (oa3:=oa105) (cap4:=cap106) hc107 hr108 (Nat.le_refl _) (SR.nil _ none) (St.sepOk u) (St.sepDis u) h111) ⟨rfl,rfl,trivial⟩ (fun v w a hR o=>?_)
 obtain ⟨H115,cs116,oa126,cap127,rfl,g117,hc128,hr129,hx112,hl113,hd114,hk⟩:=hR
 obtain ⟨u,hx112⟩:=And.intro (St.mutH u hk hx112 hl113 hd114) (St.extc0 u hx112)
 replace u:=u.unsep
 obtain ⟨oa118,cap119,oa122,cap123,rfl,hc120,hr121,hc124,hr125⟩:=api_Thread_open g117
 refine ⟨fun _=>(St.ldsX u hx112.sub (sub_cons t1 (sub_cons t2 (sub_cons t3 (sub_cons t4 (sub_cons t5 (sub_cons t7 sub_nil))))))),?_⟩
 refine da1 (i:=9) (by kernel_rfl) ?_
 refine di (i:=9) rfl<|a_bsl (e:=48) (sz:=4) [strv r110.1.Name,.slice oa118 r110.1.Regs.length cap119,.slice oa122 r110.1.Body.length cap123,i6 r110.1.At] o rfl u rfl rfl rfl (fun w=>by kernel_rfl) fun b131 w a u o=>?_
 have hv130:Rows (α:=api_Thread) H115 [strv r110.1.Name,.slice oa118 r110.1.Regs.length cap119,.slice oa122 r110.1.Body.length cap123,i6 r110.1.At] ([r110.1]:List api_Thread):=(.cons (c:=[strv r110.1.Name,.slice oa118 r110.1.Regs.length cap119,.slice oa122 r110.1.Body.length cap123,i6 r110.1.At]) ⟨_,_,rfl,rfl,⟨_,_,rfl,⟨_,_,rfl,hc120,hr121⟩,⟨_,_,rfl,⟨_,_,rfl,hc124,hr125⟩,rfl⟩⟩⟩ .nil)
 refine ⟨fun _=>(St.ldsX u hx112.sub (sub_cons t2 (sub_cons t3 (sub_cons t4 (sub_cons t5 (sub_cons t6 (sub_cons t8 sub_nil))))))),?_⟩
 refine da1 (i:=10) (by kernel_rfl) ?_
 refine di (i:=10) rfl<|m_app (α:=api_Thread) (xs:=vB53) (ys:=([r110.1]:List api_Thread)) o rfl u underlying24 info48 rfl (by decide) rfl rfl rfl t7 (hvB57.mono hx112.sub) (u.rdO t0) hv130 h134 fun oa135 cap136 vs137 w a hv138 hU o=>?_
 replace u:=hU _ (.tail (.tail (.tail (.tail (.tail (.tail (.tail .head)))))))
 replace u:=u.drop .head
 refine ⟨fun _=>(St.ldsX u hx112.sub (sub_cons t1 (sub_cons t2 (sub_cons t3 (sub_cons t4 (sub_cons t5 (sub_cons t7 sub_nil))))))),?_⟩
 refine ds 11 (St.ldsX u hx112.sub (sub_cons t1 (sub_cons t2 (sub_cons t3 (sub_cons t4 (sub_cons t5 (sub_cons t7 sub_nil))))))) o rfl (e_fa o fa27_3 rfl) fun a o=>da1 (i:=12) (by kernel_rfl) ?_
 refine di (i:=12) rfl<|s_blk o u sizeOf24 rfl rfl rfl rfl (.tail (.tail (.tail (.tail (.tail (.tail (.tail .head))))))) (.succ (.succ (.succ .zero))) fun w u=>⟨fun h=>absurd rfl h,?_⟩
 refine de (by kernel_rfl)<|bn<|tn<|?_
 replace u:=u.pk [2,0,1,1,1,1,1] rfl
 exact ⟨(nn8,r110.2.L,r110.2.At,r110.2.E,r110.2.Pos,l133),⟨H115,oa126,cap127,oa135,cap136,vs137,hm,(Ext.trans hxHB44 hx112),o.hs,u,hc128,hr129,hv138⟩,Nat.lt_succ_self _⟩
 replace hm:=ite_f hm hb102
 refine tn<|cfv o rfl hb102<|we<|tx<|tx<|bx<|tn<|?_
 replace u:=u.pk [1,0,0,0,0,0,0] rfl
 exact ⟨r96.2.L,r96.2.At,r96.2.E,r96.2.Pos,vB53,HB44,oa98,cap99,oaB54,capB55,vsB56,hm,hxHB44,o.hs,u,hc100,hr101,hvB57⟩
 rintro a w ⟨vA45,vA50,vA51,vA52,vA53,HA44,oaA46,capA47,oaA54,capA55,vsA56,hm,hxHA44,o,u,hcA48,hrA49,hvA57⟩
 unfold Z51 at hm
 refine th<|th<|?_
 obtain ⟨r139,h140,hm⟩:=bs hm
 refine rg<|qm o rfl fun a o=>?_
 replace u:=u.pk [1,0,0,0,0,0,0] rfl
 replace u:=St.sep [blk b15 (.cells [.slice oaA46 vA45.length capA47,i6 vA50,i6 vA51,i6 vA52].toArray 125 (0,0))] u
 refine ls<|c1 o rfl call102 (Z4g_c (St.le u) (p1:=(leadlineref05_In.mk vA45 vA50 vA51 vA52)) (b2:=b15) (oa3:=oaA46) (cap4:=capA47) hcA48 hrA49 (St.sepOk u) (St.sepDis u) h140) ⟨rfl,rfl,trivial⟩ (fun v w a hR o=>?_)
 obtain ⟨oa141,cap142,rfl,hc143,hr144,hk⟩:=hR
 replace u:=(u.mut hk .head).unsep
 refine re<|tn<|midK (fun a w=>∃ (vA60:(List api_Token)) (vA65:Int) (vA66:Int) (vA67:Int) (vA68:(List api_Thread)) (HA59:PH) (oaA61:Option Addr) (capA62:Nat) (oaA69:Option Addr) (capA70:Nat) (vsA71:List Value),(Z52 N rz3 vA10 vA24 vA38 vA53) vA60 vA65 vA66 vA67 vA68=some r∧Ext w0 HA44 HA59∧Fr 128 [(2,.pointer (some ⟨b2,0,none⟩)),(5,.slice oa5 rz3.1.length cap6),(8,.pointer (some ⟨b15,0,none⟩)),(9,.pointer (some ⟨b16,0,none⟩))] a∧St w0 Nil [HA59] [blk b2 (.cells [.slice none 0 0,.slice none 0 0,.slice none 0 0,.slice none 0 0,.slice none 0 0,.slice none 0 0].toArray 27 (0,0)),blk b15 (.cells [.slice oaA61 vA60.length capA62,i6 vA65,i6 vA66,i6 vA67].toArray 125 (0,0)),sla 23 1 oaA11 vA10.length capA12 vsA13,sla 53 3 oaA25 vA24.length capA26 vsA27,sla 53 3 oaA39 vA38.length capA40 vsA41,sla 48 4 oaA54 vA53.length capA55 vsA56,sla 48 4 oaA69 vA68.length capA70 vsA71,blk b16 (.cells [.slice oaA11 vA10.length capA12,.slice oaA25 vA24.length capA26,.slice oaA39 vA38.length capA40,.slice oaA54 vA53.length capA55,.slice oaA69 vA68.length capA70,.slice none 0 0].toArray 27 (0,0))] w∧vA60.length≤capA62∧SR HA59 oaA61 vA60∧Rows HA59 vsA71 vA68) ?_ ?_
 rcases bdich r139.1 with hb145 | hb145
 replace hm:=ite_t hm hb145
 refine ctv o rfl hb145<|?_
 obtain ⟨x146,h147,hm⟩:=bs hm
 obtain ⟨c148,g149,hl150⟩:=SR.get hr12 h147
 obtain rfl:=api_Token_open g149
 obtain ⟨r151,h152,hm⟩:=bs hm
 obtain ⟨l174,h175,hm⟩:=bs hm
 refine rdL (sub_cons t1 (sub_cons t2 (sub_cons t3 (sub_cons t4 (sub_cons t5 (sub_cons t6 sub_nil)))))) 17 u wide fun w u=>ds 0 (St.ldsX u i2 ta1) o rfl (e_fa o fa27_4 rfl) fun a o=>dq 1 (St.ldsX u i2 ta1) o rfl (fun w hl=>e_ld o isAgg24 rfl (hl.cellB t5 rfl)) fun a o=>ds 2 (St.ldsX u i2 ta1) o rfl (e_move o rfl) fun a o=>ds 3 (St.ldsX u i2 ta1) o rfl (e_move o rfl) fun a o=>ds 4 (St.ldsX u i2 ta1) o rfl (e_move o rfl) fun a o=>ds 5 (St.ldsX u i2 ta1) o rfl (e_nilp o rfl) fun a o=>ds 6 (St.ldsX u i2 ta1) o rfl (e_fa o fa125_1 rfl) fun a o=>da1 (i:=7) (by kernel_rfl) ?_
 refine di (i:=7) rfl<|q1 o rfl (e_ld o isAgg3 rfl ((St.ld u).cellB t0 rfl)) fun a o=>⟨fun _=>(St.ldsX u i2 ta1),?_⟩
 refine ds 8 (St.ldsX u i2 ta1) o rfl (e_sub o rfl rfl) fun a o=>ds 9 (St.ldsX u i2 ta1) o rfl (e_iaI o runUnderlying120 sizeOf130 rfl rfl h147 (SR.oaI hr12 (by decide) h147)) fun a o=>ds 10 (St.ldsX u i2 ta1) o rfl (e_fa o fa130_3 rfl) fun a o=>dq 11 (St.ldsX u i2 ta1) o rfl (fun w hl=>e_ld o isAgg3 rfl (PH.le.cell (fun b o hx=>(Lds.le hl) b o ((cp hxHA44.sub hxHA1.sub) b o hx)) (hl150 3 _ rfl))) fun a o=>dq 12 (St.ldsX u i2 ta1) o rfl (fun w hl=>e_bldK [i6 x146.At] [strv [],.slice none 0 0,.slice none 0 0,i6 x146.At] o ⟨rfl,trivial⟩ (fun w=>by kernel_rfl)) fun a o=>da1 (i:=13) (by kernel_rfl) ?_
 replace u:=u.pk [0,0,0,0,0,0,0] rfl
 replace u:=St.sep [blk b15 (.cells [.slice oa141 r139.2.L.length cap142,i6 r139.2.At,i6 r139.2.E,i6 r139.2.Pos].toArray 125 (0,0))] u
 refine di (i:=13) rfl<|c1 o rfl call105 (Z4r_c (St.le u) (p1:=r139.2) (b2:=b15) (oa3:=oa141) (cap4:=cap142) hc143 hr144 (Nat.le_refl _) (SR.nil _ none) (St.sepOk u) (St.sepDis u) h152) ⟨rfl,rfl,trivial⟩ (fun v w a hR o=>?_)
 obtain ⟨H156,cs157,oa167,cap168,rfl,g158,hc169,hr170,hx153,hl154,hd155,hk⟩:=hR
 obtain ⟨u,hx153⟩:=And.intro (St.mutH u hk hx153 hl154 hd155) (St.extc0 u hx153)
 replace u:=u.unsep
 obtain ⟨oa159,cap160,oa163,cap164,rfl,hc161,hr162,hc165,hr166⟩:=api_Thread_open g158
 refine ⟨fun _=>(St.ldsX u hx153.sub ta1),?_⟩
 refine da1 (i:=14) (by kernel_rfl) ?_
 refine di (i:=14) rfl<|a_bsl (e:=48) (sz:=4) [strv r151.1.Name,.slice oa159 r151.1.Regs.length cap160,.slice oa163 r151.1.Body.length cap164,i6 r151.1.At] o rfl u rfl rfl rfl (fun w=>by kernel_rfl) fun b172 w a u o=>?_
 have hv171:Rows (α:=api_Thread) H156 [strv r151.1.Name,.slice oa159 r151.1.Regs.length cap160,.slice oa163 r151.1.Body.length cap164,i6 r151.1.At] ([r151.1]:List api_Thread):=(.cons (c:=[strv r151.1.Name,.slice oa159 r151.1.Regs.length cap160,.slice oa163 r151.1.Body.length cap164,i6 r151.1.At]) ⟨_,_,rfl,rfl,⟨_,_,rfl,⟨_,_,rfl,hc161,hr162⟩,⟨_,_,rfl,⟨_,_,rfl,hc165,hr166⟩,rfl⟩⟩⟩ .nil)
 refine ⟨fun _=>(St.ldsX u hx153.sub ta2),?_⟩
 refine da1 (i:=15) (by kernel_rfl) ?_
 replace u:=St.nilS u 48 4
 refine di (i:=15) rfl<|m_app (α:=api_Thread) (xs:=[]) (ys:=([r151.1]:List api_Thread)) o rfl u underlying24 info48 rfl (by decide) rfl rfl rfl t0 .nil (u.rdO t1) hv171 h175 fun oa176 cap177 vs178 w a hv179 hU o=>?_
 replace u:=hU _ .head
 replace u:=u.drop (.tail .head)
 refine ⟨fun _=>(St.ldsX u hx153.sub ta2),?_⟩
 refine ds 16 (St.ldsX u hx153.sub ta2) o rfl (e_fa o fa27_4 rfl) fun a o=>da1 (i:=17) (by kernel_rfl) ?_
 refine di (i:=17) rfl<|s_blk o u sizeOf24 rfl rfl rfl rfl (.tail (.tail (.tail (.tail (.tail (.tail (.tail .head))))))) (.succ (.succ (.succ (.succ .zero)))) fun w u=>⟨fun h=>absurd rfl h,?_⟩
 refine de (by kernel_rfl)<|tn<|?_
 replace u:=u.pk [2,1,1,1,1,1,0,0] rfl
 exact ⟨r151.2.L,r151.2.At,r151.2.E,r151.2.Pos,l174,H156,oa167,cap168,oa176,cap177,vs178,hm,hx153,o.hs,u,hc169,hr170,hv179⟩
 replace hm:=ite_f hm hb145
 refine cfv o rfl hb145<|wk<|tn<|?_
 replace u:=St.nilS u 48 4
 replace u:=u.pk [2,1,1,1,1,1,0,0] rfl
 exact ⟨r139.2.L,r139.2.At,r139.2.E,r139.2.Pos,[],HA44,oa141,cap142,none,0,[],hm,(Ext.refl _ _),o.hs,u,hc143,hr144,.nil⟩
 rintro a w ⟨vA60,vA65,vA66,vA67,vA68,HA59,oaA61,capA62,oaA69,capA70,vsA71,hm,hxHA59,o,u,hcA63,hrA64,hvA72⟩
 unfold Z52 at hm
 refine th<|midK (fun a w=>∃ (vA75:(List api_Token)) (vA80:Int) (vA81:Int) (vA82:Int) (vA83:(List api_Claim)) (HA74:PH) (oaA76:Option Addr) (capA77:Nat) (oaA84:Option Addr) (capA85:Nat) (vsA86:List Value),(Z4x N rz3 vA10 vA24 vA38 vA53 vA68) vA75 vA80 vA81 vA82 vA83=some r∧Ext w0 HA59 HA74∧Fr 128 [(2,.pointer (some ⟨b2,0,none⟩)),(5,.slice oa5 rz3.1.length cap6),(8,.pointer (some ⟨b15,0,none⟩)),(9,.pointer (some ⟨b16,0,none⟩))] a∧St w0 Nil [HA74] [blk b2 (.cells [.slice none 0 0,.slice none 0 0,.slice none 0 0,.slice none 0 0,.slice none 0 0,.slice none 0 0].toArray 27 (0,0)),blk b15 (.cells [.slice oaA76 vA75.length capA77,i6 vA80,i6 vA81,i6 vA82].toArray 125 (0,0)),sla 23 1 oaA11 vA10.length capA12 vsA13,sla 53 3 oaA25 vA24.length capA26 vsA27,sla 53 3 oaA39 vA38.length capA40 vsA41,sla 48 4 oaA54 vA53.length capA55 vsA56,sla 48 4 oaA69 vA68.length capA70 vsA71,sla 74 2 oaA84 vA83.length capA85 vsA86,blk b16 (.cells [.slice oaA11 vA10.length capA12,.slice oaA25 vA24.length capA26,.slice oaA39 vA38.length capA40,.slice oaA54 vA53.length capA55,.slice oaA69 vA68.length capA70,.slice oaA84 vA83.length capA85].toArray 27 (0,0))] w∧vA75.length≤capA77∧SR HA74 oaA76 vA75∧Rows HA74 vsA86 vA83) ?_ ?_
 replace u:=St.nilS u 74 2
 replace u:=u.pk [1,1,1,1,1,1,1,0,0] rfl
 refine wb<|lp (α:=Nat×(List api_Token)×Int×Int×Int×(List api_Claim)) (fun gh a w=>match gh with | (nn11,vB60,vB65,vB66,vB67,vB68)=>∃ (HB59:PH) (oaB61:Option Addr) (capB62:Nat) (oaB69:Option Addr) (capB70:Nat) (vsB71:List Value),(Z53 N (Z4x N rz3 vA10 vA24 vA38 vA53 vA68) rz3) nn11 vB60 vB65 vB66 vB67 vB68=some r∧Ext w0 HA59 HB59∧Fr 128 [(2,.pointer (some ⟨b2,0,none⟩)),(5,.slice oa5 rz3.1.length cap6),(8,.pointer (some ⟨b15,0,none⟩)),(9,.pointer (some ⟨b16,0,none⟩))] a∧St w0 Nil [HB59] [blk b2 (.cells [.slice none 0 0,.slice none 0 0,.slice none 0 0,.slice none 0 0,.slice none 0 0,.slice none 0 0].toArray 27 (0,0)),blk b15 (.cells [.slice oaB61 vB60.length capB62,i6 vB65,i6 vB66,i6 vB67].toArray 125 (0,0)),sla 23 1 oaA11 vA10.length capA12 vsA13,sla 53 3 oaA25 vA24.length capA26 vsA27,sla 53 3 oaA39 vA38.length capA40 vsA41,sla 48 4 oaA54 vA53.length capA55 vsA56,sla 48 4 oaA69 vA68.length capA70 vsA71,sla 74 2 oaB69 vB68.length capB70 vsB71,blk b16 (.cells [.slice oaA11 vA10.length capA12,.slice oaA25 vA24.length capA26,.slice oaA39 vA38.length capA40,.slice oaA54 vA53.length capA55,.slice oaA69 vA68.length capA70,.slice oaB69 vB68.length capB70].toArray 27 (0,0))] w∧vB60.length≤capB62∧SR HB59 oaB61 vB60∧Rows HB59 vsB71 vB68) (fun gh=>gh.1) (N,vA60,vA65,vA66,vA67,[]) ⟨HA59,oaA61,capA62,none,0,[],hm,(Ext.refl _ _),o.hs,u,hcA63,hrA64,.nil⟩ ?_
 rintro ⟨nn11,vB60,vB65,vB66,vB67,vB68⟩ a w ⟨HB59,oaB61,capB62,oaB69,capB70,vsB71,hm,hxHB59,o,u,hcB63,hrB64,hvB72⟩
 obtain _ | nn11:=nn11
 simp [Z53] at hm
 rw [Z53] at hm
 refine th<|th<|?_
 obtain ⟨r181,h182,hm⟩:=bs hm
 refine rg<|qm o rfl fun a o=>?_
 replace u:=u.pk [1,0,0,0,0,0,0,0,0] rfl
 replace u:=St.sep [blk b15 (.cells [.slice oaB61 vB60.length capB62,i6 vB65,i6 vB66,i6 vB67].toArray 125 (0,0))] u
 refine ls<|c1 o rfl call102 (Z4g_c (St.le u) (p1:=(leadlineref05_In.mk vB60 vB65 vB66 vB67)) (b2:=b15) (oa3:=oaB61) (cap4:=capB62) hcB63 hrB64 (St.sepOk u) (St.sepDis u) h182) ⟨rfl,rfl,trivial⟩ (fun v w a hR o=>?_)
 obtain ⟨oa183,cap184,rfl,hc185,hr186,hk⟩:=hR
 replace u:=(u.mut hk .head).unsep
 refine re<|?_
 rcases bdich r181.1 with hb187 | hb187
 replace hm:=ite_t hm hb187
 refine tn<|ctv o rfl hb187<|wk<|tn<|wb<|?_
 obtain ⟨x188,h189,hm⟩:=bs hm
 obtain ⟨c190,g191,hl192⟩:=SR.get hr12 h189
 obtain rfl:=api_Token_open g191
 obtain ⟨r193,h194,hm⟩:=bs hm
 obtain ⟨l212,h213,hm⟩:=bs hm
 refine rdL (sub_cons t1 (sub_cons t2 (sub_cons t3 (sub_cons t4 (sub_cons t5 (sub_cons t6 (sub_cons t8 sub_nil))))))) 16 u wide fun w u=>ds 0 (St.ldsX u i2 (sub_cons t1 (sub_cons t2 (sub_cons t3 (sub_cons t4 (sub_cons t5 (sub_cons t6 (sub_cons t8 sub_nil)))))))) o rfl (e_fa o fa27_5 rfl) fun a o=>dq 1 (St.ldsX u i2 (sub_cons t1 (sub_cons t2 (sub_cons t3 (sub_cons t4 (sub_cons t5 (sub_cons t6 (sub_cons t8 sub_nil)))))))) o rfl (fun w hl=>e_ld o isAgg25 rfl (hl.cellB t6 rfl)) fun a o=>ds 2 (St.ldsX u i2 (sub_cons t1 (sub_cons t2 (sub_cons t3 (sub_cons t4 (sub_cons t5 (sub_cons t6 (sub_cons t8 sub_nil)))))))) o rfl (e_move o rfl) fun a o=>ds 3 (St.ldsX u i2 (sub_cons t1 (sub_cons t2 (sub_cons t3 (sub_cons t4 (sub_cons t5 (sub_cons t6 (sub_cons t8 sub_nil)))))))) o rfl (e_move o rfl) fun a o=>ds 4 (St.ldsX u i2 (sub_cons t1 (sub_cons t2 (sub_cons t3 (sub_cons t4 (sub_cons t5 (sub_cons t6 (sub_cons t8 sub_nil)))))))) o rfl (e_move o rfl) fun a o=>ds 5 (St.ldsX u i2 (sub_cons t1 (sub_cons t2 (sub_cons t3 (sub_cons t4 (sub_cons t5 (sub_cons t6 (sub_cons t8 sub_nil)))))))) o rfl (e_nilp o rfl) fun a o=>ds 6 (St.ldsX u i2 (sub_cons t1 (sub_cons t2 (sub_cons t3 (sub_cons t4 (sub_cons t5 (sub_cons t6 (sub_cons t8 sub_nil)))))))) o rfl (e_fa o fa125_1 rfl) fun a o=>da1 (i:=7) (by kernel_rfl) ?_
 refine di (i:=7) rfl<|q1 o rfl (e_ld o isAgg3 rfl ((St.ld u).cellB t0 rfl)) fun a o=>⟨fun _=>(St.ldsX u i2 (sub_cons t1 (sub_cons t2 (sub_cons t3 (sub_cons t4 (sub_cons t5 (sub_cons t6 (sub_cons t8 sub_nil)))))))),?_⟩
 refine ds 8 (St.ldsX u i2 (sub_cons t1 (sub_cons t2 (sub_cons t3 (sub_cons t4 (sub_cons t5 (sub_cons t6 (sub_cons t8 sub_nil)))))))) o rfl (e_sub o rfl rfl) fun a o=>ds 9 (St.ldsX u i2 (sub_cons t1 (sub_cons t2 (sub_cons t3 (sub_cons t4 (sub_cons t5 (sub_cons t6 (sub_cons t8 sub_nil)))))))) o rfl (e_iaI o runUnderlying120 sizeOf130 rfl rfl h189 (SR.oaI hr12 (by decide) h189)) fun a o=>ds 10 (St.ldsX u i2 (sub_cons t1 (sub_cons t2 (sub_cons t3 (sub_cons t4 (sub_cons t5 (sub_cons t6 (sub_cons t8 sub_nil)))))))) o rfl (e_fa o fa130_3 rfl) fun a o=>dq 11 (St.ldsX u i2 (sub_cons t1 (sub_cons t2 (sub_cons t3 (sub_cons t4 (sub_cons t5 (sub_cons t6 (sub_cons t8 sub_nil)))))))) o rfl (fun w hl=>e_ld o isAgg3 rfl (PH.le.cell (fun b o hx=>(Lds.le hl) b o ((cp (cp (cp hxHB59.sub hxHA59.sub) hxHA44.sub) hxHA1.sub) b o hx)) (hl192 3 _ rfl))) fun a o=>da1 (i:=12) (by kernel_rfl) ?_
 replace u:=u.pk [0,0,0,0,0,0,0,0,0] rfl
 replace u:=St.sep [blk b15 (.cells [.slice oa183 r181.2.L.length cap184,i6 r181.2.At,i6 r181.2.E,i6 r181.2.Pos].toArray 125 (0,0))] u
 refine di (i:=12) rfl<|c1 o rfl call106 (Z4f_c (St.le u) (p1:=r181.2) (b2:=b15) (oa3:=oa183) (cap4:=cap184) hc185 hr186 (St.sepOk u) (St.sepDis u) h194) ⟨rfl,rfl,trivial⟩ (fun v w a hR o=>?_)
 obtain ⟨H198,cs199,oa205,cap206,rfl,g200,hc207,hr208,hx195,hl196,hd197,hk⟩:=hR
 obtain ⟨u,hx195⟩:=And.intro (St.mutH u hk hx195 hl196 hd197) (St.extc0 u hx195)
 replace u:=u.unsep
 obtain ⟨oa201,cap202,rfl,hc203,hr204⟩:=api_Claim_open g200
 refine ⟨fun _=>(St.ldsX u hx195.sub (sub_cons t1 (sub_cons t2 (sub_cons t3 (sub_cons t4 (sub_cons t5 (sub_cons t6 (sub_cons t8 sub_nil)))))))),?_⟩
 refine da1 (i:=13) (by kernel_rfl) ?_
 refine di (i:=13) rfl<|a_bsl (e:=74) (sz:=2) [.slice oa201 r193.1.E.length cap202,i6 r193.1.At] o rfl u rfl rfl rfl (fun w=>by kernel_rfl) fun b210 w a u o=>?_
 have hv209:Rows (α:=api_Claim) H198 [.slice oa201 r193.1.E.length cap202,i6 r193.1.At] ([r193.1]:List api_Claim):=(.cons (c:=[.slice oa201 r193.1.E.length cap202,i6 r193.1.At]) ⟨_,_,rfl,⟨_,_,rfl,hc203,hr204⟩,rfl⟩ .nil)
 refine ⟨fun _=>(St.ldsX u hx195.sub (sub_cons t2 (sub_cons t3 (sub_cons t4 (sub_cons t5 (sub_cons t6 (sub_cons t7 (sub_cons t9 sub_nil)))))))),?_⟩
 refine da1 (i:=14) (by kernel_rfl) ?_
 refine di (i:=14) rfl<|m_app (α:=api_Claim) (xs:=vB68) (ys:=([r193.1]:List api_Claim)) o rfl u underlying25 info74 rfl (by decide) rfl rfl rfl t8 (hvB72.mono hx195.sub) (u.rdO t0) hv209 h213 fun oa214 cap215 vs216 w a hv217 hU o=>?_
 replace u:=hU _ (.tail (.tail (.tail (.tail (.tail (.tail (.tail (.tail .head))))))))
 replace u:=u.drop .head
 refine ⟨fun _=>(St.ldsX u hx195.sub (sub_cons t1 (sub_cons t2 (sub_cons t3 (sub_cons t4 (sub_cons t5 (sub_cons t6 (sub_cons t8 sub_nil)))))))),?_⟩
 refine ds 15 (St.ldsX u hx195.sub (sub_cons t1 (sub_cons t2 (sub_cons t3 (sub_cons t4 (sub_cons t5 (sub_cons t6 (sub_cons t8 sub_nil)))))))) o rfl (e_fa o fa27_5 rfl) fun a o=>da1 (i:=16) (by kernel_rfl) ?_
 refine di (i:=16) rfl<|s_blk o u sizeOf25 rfl rfl rfl rfl (.tail (.tail (.tail (.tail (.tail (.tail (.tail (.tail .head)))))))) (.succ (.succ (.succ (.succ (.succ .zero))))) fun w u=>⟨fun h=>absurd rfl h,?_⟩
 refine de (by kernel_rfl)<|bn<|tn<|?_
 replace u:=u.pk [1,0,0,0,0,0,0,0,0] rfl
 exact ⟨(nn11,r193.2.L,r193.2.At,r193.2.E,r193.2.Pos,l212),⟨H198,oa205,cap206,oa214,cap215,vs216,hm,(Ext.trans hxHB59 hx195),o.hs,u,hc207,hr208,hv217⟩,Nat.lt_succ_self _⟩
 replace hm:=ite_f hm hb187
 refine tn<|cfv o rfl hb187<|we<|tx<|tx<|bx<|tn<|?_
 replace u:=u.pk [1,0,0,0,0,0,0,0,0] rfl
 exact ⟨r181.2.L,r181.2.At,r181.2.E,r181.2.Pos,vB68,HB59,oa183,cap184,oaB69,capB70,vsB71,hm,hxHB59,o.hs,u,hc185,hr186,hvB72⟩
 rintro a w ⟨vA75,vA80,vA81,vA82,vA83,HA74,oaA76,capA77,oaA84,capA85,vsA86,hm,hxHA74,o,u,hcA78,hrA79,hvA87⟩
 unfold Z4x at hm
 refine th<|th<|rg<|qm o rfl fun a o=>qv o (e_nilp o rfl) fun a o=>qv o (e_fa o fa125_1 rfl) fun a o=>qv o (e_ld o isAgg3 rfl ((St.ld u).cellB t1 rfl)) fun a o=>qm o rfl fun a o=>qv o (e_lenL (α:=api_Token) (xs:=rz3.1) o runUnderlying120 rfl) fun a o=>qv o (e_lss o rfl rfl) fun a o=>re<|tn<|midK (fun a w=>∃ (vA89:(List api_Token)) (vA94:Int) (vA95:Int) (vA96:Int) (oaA90:Option Addr) (capA91:Nat),(Z4y vA10 vA24 vA38 vA53 vA68 vA83) vA89 vA94 vA95 vA96=some r∧Fr 128 [(2,.pointer (some ⟨b2,0,none⟩)),(8,.pointer (some ⟨b15,0,none⟩)),(9,.pointer (some ⟨b16,0,none⟩))] a∧St w0 Nil [HA74] [blk b2 (.cells [.slice none 0 0,.slice none 0 0,.slice none 0 0,.slice none 0 0,.slice none 0 0,.slice none 0 0].toArray 27 (0,0)),blk b15 (.cells [.slice oaA90 vA89.length capA91,i6 vA94,i6 vA95,i6 vA96].toArray 125 (0,0)),sla 23 1 oaA11 vA10.length capA12 vsA13,sla 53 3 oaA25 vA24.length capA26 vsA27,sla 53 3 oaA39 vA38.length capA40 vsA41,sla 48 4 oaA54 vA53.length capA55 vsA56,sla 48 4 oaA69 vA68.length capA70 vsA71,sla 74 2 oaA84 vA83.length capA85 vsA86,blk b16 (.cells [.slice oaA11 vA10.length capA12,.slice oaA25 vA24.length capA26,.slice oaA39 vA38.length capA40,.slice oaA54 vA53.length capA55,.slice oaA69 vA68.length capA70,.slice oaA84 vA83.length capA85].toArray 27 (0,0))] w∧vA89.length≤capA91∧SR HA74 oaA90 vA89) ?_ ?_
 rcases bdich (decide (vA80 < (rz3.1.length:Int))) with hb218 | hb218
 replace hm:=itp_t hm hb218
 refine ctv o rfl hb218<|?_
 obtain ⟨r219,h220,hm⟩:=bs hm
 refine rg<|qm o rfl fun a o=>?_
 replace u:=u.pk [1,0,0,0,0,0,0,0,0] rfl
 replace u:=St.sep [blk b15 (.cells [.slice oaA76 vA75.length capA77,i6 vA80,i6 vA81,i6 vA82].toArray 125 (0,0))] u
 refine ls<|c1 o rfl call107 (Z4d_c (St.le u) (p1:=(leadlineref05_In.mk vA75 vA80 vA81 vA82)) (b2:=b15) (oa3:=oaA76) (cap4:=capA77) hcA78 hrA79 (St.sepOk u) (St.sepDis u) h220) ⟨rfl,trivial⟩ (fun v w a hR o=>?_)
 obtain ⟨oa221,cap222,rfl,hc223,hr224,hk⟩:=hR
 replace u:=(u.mut hk .head).unsep
 refine re<|tn<|?_
 replace u:=u.pk [1,0,0,0,0,0,0,0,0] rfl
 exact ⟨r219.L,r219.At,r219.E,r219.Pos,oa221,cap222,hm,o.hs,u,hc223,hr224⟩
 replace hm:=itp_f hm hb218
 refine cfv o rfl hb218<|wk<|tn<|?_
 exact ⟨vA75,vA80,vA81,vA82,oaA76,capA77,hm,o.hs,u,hcA78,hrA79⟩
 rintro a w ⟨vA89,vA94,vA95,vA96,oaA90,capA91,hm,o,u,hcA92,hrA93⟩
 unfold Z4y at hm
 refine th<|th<|rg<|qm o rfl fun a o=>qv o (e_nilp o rfl) fun a o=>qv o (e_fa o fa125_2 rfl) fun a o=>qv o (e_ld o isAgg29 rfl ((St.ld u).cellB t1 rfl)) fun a o=>qv o (e_neq o rfl rfl) fun a o=>re<|?_
 rcases bdich (decide (vA95≠0)) with hb225 | hb225
 replace hm:=itp_t hm hb225
 refine tn<|ctv o rfl hb225<|th<|rdL (sub_cons t1 (sub_cons t2 (sub_cons t3 (sub_cons t4 (sub_cons t5 (sub_cons t6 (sub_cons t7 (sub_cons t8 sub_nil)))))))) 12 u wide fun w u=>dq 0 (St.ldsX u i2 ta1) o rfl (fun w hl=>e_bldK [] [.slice none 0 0,.slice none 0 0,.slice none 0 0,.slice none 0 0,.slice none 0 0,.slice none 0 0] o trivial (fun w=>by kernel_rfl)) fun a o=>ds 1 (St.ldsX u i2 ta1) o rfl (e_move o rfl) fun a o=>ds 2 (St.ldsX u i2 ta1) o rfl (e_nilp o rfl) fun a o=>ds 3 (St.ldsX u i2 ta1) o rfl (e_fa o fa125_2 rfl) fun a o=>dq 4 (St.ldsX u i2 ta1) o rfl (fun w hl=>e_ld o isAgg29 rfl (hl.cellB t0 rfl)) fun a o=>ds 5 (St.ldsX u i2 ta1) o rfl (e_move o rfl) fun a o=>ds 6 (St.ldsX u i2 ta1) o rfl (e_nilp o rfl) fun a o=>ds 7 (St.ldsX u i2 ta1) o rfl (e_fa o fa125_3 rfl) fun a o=>dq 8 (St.ldsX u i2 ta1) o rfl (fun w hl=>e_ld o isAgg3 rfl (hl.cellB t0 rfl)) fun a o=>da1 (i:=9) (by kernel_rfl) ?_
 refine di (i:=9) rfl<|s_blkA o u sizeOf27 rfl rfl rfl rfl (one_cells rfl) .head fun w u=>⟨fun _=>(St.ldsX u i2 ta1),?_⟩
 refine ds 10 (St.ldsX u i2 ta1) o rfl (e_asg o rfl) fun a o=>ds 11 (St.ldsX u i2 ta1) o rfl (e_asg o rfl) fun a o=>de (by kernel_rfl)<|tn<|wr<|tr<|?_
 obtain rfl:=si hm
 exact r3c (vs:=[.slice none 0 0,.slice none 0 0,.slice none 0 0,.slice none 0 0,.slice none 0 0,.slice none 0 0]) (.inl rfl) o results64 rfl rfl rfl isAgg27 sizeOf27 rfl ((St.ld u).cellsB t0) ⟨HA74,_,rfl,(show Enc.rep (α:=api_Prog) HA74 [.slice none 0 0,.slice none 0 0,.slice none 0 0,.slice none 0 0,.slice none 0 0,.slice none 0 0] (api_Prog.mk [] [] [] [] [] []) from ⟨_,_,rfl,⟨none,0,rfl,Nat.le_refl _,SR.nil _ _⟩,⟨_,_,rfl,⟨none,0,rfl,Nat.le_refl _,SR.nil _ _⟩,⟨_,_,rfl,⟨none,0,rfl,Nat.le_refl _,SR.nil _ _⟩,⟨_,_,rfl,⟨none,0,rfl,Nat.le_refl _,SR.nil _ _⟩,⟨_,_,rfl,⟨none,0,rfl,Nat.le_refl _,SR.nil _ _⟩,⟨none,0,rfl,Nat.le_refl _,SR.nil _ _⟩⟩⟩⟩⟩⟩),(Ext.trans hx11 (Ext.trans hxHA1 (Ext.trans hxHA44 (Ext.trans hxHA59 hxHA74)))),(St.le u),u.keep⟩
 replace hm:=itp_f hm hb225
 refine tn<|cfv o rfl hb225<|wk<|tn<|th<|rg<|qv o (e_ldA o Tryz.isAgg27 Tryz.sizeOf27 rfl rfl ((St.ld u).cellsB t8)) fun a o=>ls<|s_blkA o u sizeOf27 rfl rfl rfl rfl (one_cells rfl) .head fun w u=>?_
 iterate 2 refine qa o rfl fun a o=>?_
 refine re<|tn<|wr<|?_
 obtain ⟨H229,hx226,hr227,hc228,u⟩:=St.frzS u (.tail (.tail .head)) (hvA14.mono (cp (cp hxHA74.sub hxHA59.sub) hxHA44.sub))
 obtain ⟨H233,hx230,hr231,hc232,u⟩:=St.frzS u (.tail (.tail .head)) (hvA28.mono (cp (cp (cp hx226.sub hxHA74.sub) hxHA59.sub) hxHA44.sub))
 obtain ⟨H237,hx234,hr235,hc236,u⟩:=St.frzS u (.tail (.tail .head)) (hvA42.mono (cp (cp (cp (cp hx230.sub hx226.sub) hxHA74.sub) hxHA59.sub) hxHA44.sub))
 obtain ⟨H241,hx238,hr239,hc240,u⟩:=St.frzS u (.tail (.tail .head)) (hvA57.mono (cp (cp (cp (cp hx234.sub hx230.sub) hx226.sub) hxHA74.sub) hxHA59.sub))
 obtain ⟨H245,hx242,hr243,hc244,u⟩:=St.frzS u (.tail (.tail .head)) (hvA72.mono (cp (cp (cp (cp hx238.sub hx234.sub) hx230.sub) hx226.sub) hxHA74.sub))
 obtain ⟨H249,hx246,hr247,hc248,u⟩:=St.frzS u (.tail (.tail .head)) (hvA87.mono (cp (cp (cp (cp hx242.sub hx238.sub) hx234.sub) hx230.sub) hx226.sub))
 obtain rfl:=si hm
 exact r3c (vs:=[.slice oaA11 vA10.length capA12,.slice oaA25 vA24.length capA26,.slice oaA39 vA38.length capA40,.slice oaA54 vA53.length capA55,.slice oaA69 vA68.length capA70,.slice oaA84 vA83.length capA85]) (.inl rfl) o results64 rfl rfl rfl isAgg27 sizeOf27 rfl ((St.ld u).cellsB t0) ⟨H249,_,rfl,(show Enc.rep (α:=api_Prog) H249 [.slice oaA11 vA10.length capA12,.slice oaA25 vA24.length capA26,.slice oaA39 vA38.length capA40,.slice oaA54 vA53.length capA55,.slice oaA69 vA68.length capA70,.slice oaA84 vA83.length capA85] (api_Prog.mk vA10 vA24 vA38 vA53 vA68 vA83) from ⟨_,_,rfl,⟨_,_,rfl,hc228,(hr227.mono (cp (cp (cp (cp hx246.sub hx242.sub) hx238.sub) hx234.sub) hx230.sub))⟩,⟨_,_,rfl,⟨_,_,rfl,hc232,(hr231.mono (cp (cp (cp hx246.sub hx242.sub) hx238.sub) hx234.sub))⟩,⟨_,_,rfl,⟨_,_,rfl,hc236,(hr235.mono (cp (cp hx246.sub hx242.sub) hx238.sub))⟩,⟨_,_,rfl,⟨_,_,rfl,hc240,(hr239.mono (cp hx246.sub hx242.sub))⟩,⟨_,_,rfl,⟨_,_,rfl,hc244,(hr243.mono hx246.sub)⟩,⟨_,_,rfl,hc248,hr247⟩⟩⟩⟩⟩⟩),(Ext.trans hx11 (Ext.trans hxHA1 (Ext.trans hxHA44 (Ext.trans hxHA59 (Ext.trans hxHA74 (Ext.trans hx226 (Ext.trans hx230 (Ext.trans hx234 (Ext.trans hx238 (Ext.trans hx242 hx246)))))))))),(St.le u),u.keep⟩
theorem Z58_c (hH:H.le w0) {oa2:Option Addr} {cap3:Nat} {p1:(List Int)} (_:p1.length≤cap3) (hr5:SR H oa2 p1) {oa7:Option Addr} {cap8:Nat} {p6:(List Int)} (_:p6.length≤cap8) (hr10:SR H oa7 p6) {r:Bool} (hm:Z58 N p1 p6=some r):Tot Tryz.prog 29 #[.slice oa2 p1.length cap3,.slice oa7 p6.length cap8] w0 (fun v w'=>v=.bool r∧Keep Nil w0 w'):=by
 unfold Z58 at hm
 refine fn0 func29 rfl ntmps29 rfl rfl fun a o=>?_
 have u:St w0 Nil [H] [] w0:=start1 hH
 refine th<|rg<|qa o rfl fun a o=>re<|tn<|th<|th<|rg<|qm o rfl fun a o=>qv o (e_lenL (α:=Int) (xs:=p1) o runUnderlying42 rfl) fun a o=>qm o rfl fun a o=>qv o (e_lenL (α:=Int) (xs:=p6) o runUnderlying42 rfl) fun a o=>qv o (e_neq o rfl rfl) fun a o=>re<|?_
 rcases bdich (decide ((p1.length:Int)≠(p6.length:Int))) with hb11 | hb11
 replace hm:=itp_t hm hb11
 refine tn<|ctv o rfl hb11<|th<|rg<|qa o rfl fun a o=>re<|tn<|wr<|tr<|?_
 obtain rfl:=si hm
 exact r1 o results29 rfl ⟨rfl,u.keep⟩
 replace hm:=itp_f hm hb11
 refine tn<|cfv o rfl hb11<|wk<|tn<|th<|th<|rg<|qa o rfl fun a o=>re<|tn<|midK (fun a w=>Z59=some r∧Fr 26 [] a∧St w0 Nil [H] [] w) ?_ ?_
 refine wb<|lp (α:=Nat×Int) (fun gh a w=>match gh with | (nn2,vB1)=>(Z5a N Z59 p1 p6) nn2 vB1=some r∧Fr 26 [(0,.slice oa2 p1.length cap3),(1,.slice oa7 p6.length cap8),(5,i6 vB1)] a∧St w0 Nil [H] [] w) (fun gh=>gh.1) (N,0) ⟨hm,o.hs,u⟩ ?_
 rintro ⟨nn2,vB1⟩ a w ⟨hm,o,u⟩
 obtain _ | nn2:=nn2
 simp [Z5a] at hm
 rw [Z5a] at hm
 refine th<|th<|rg<|qm o rfl fun a o=>qm o rfl fun a o=>qv o (e_lenL (α:=Int) (xs:=p1) o runUnderlying42 rfl) fun a o=>qv o (e_lss o rfl rfl) fun a o=>re<|?_
 rcases bdich (decide (vB1 < (p1.length:Int))) with hb12 | hb12
 replace hm:=itp_t hm hb12
 refine tn<|ctv o rfl hb12<|wk<|tn<|th<|wb<|th<|?_
 obtain ⟨x13,h14,hm⟩:=bs hm
 obtain ⟨c15,g16,hl17⟩:=SR.get hr5 h14
 obtain rfl:c15=[i6 x13]:=g16
 obtain ⟨x18,h19,hm⟩:=bs hm
 obtain ⟨c20,g21,hl22⟩:=SR.get hr10 h19
 obtain rfl:c20=[i6 x18]:=g21
 refine rxS 9 u wide (by kernel_rfl) fun w u=>?_
 iterate 2 refine xq (St.ld u) o (fun w hl=>e_move o rfl) fun a o=>?_
 refine xr u o (e_iaI o runUnderlying42 sizeOf3 rfl rfl h14 (SR.oaI hr5 (by decide) h14)) fun a o=>xq (St.ld u) o (fun w hl=>e_ld o isAgg3 rfl (PH.le.cell (Lds.le hl) (hl17 0 _ rfl))) fun a o=>?_
 iterate 2 refine xq (St.ld u) o (fun w hl=>e_move o rfl) fun a o=>?_
 refine xr u o (e_iaI o runUnderlying42 sizeOf3 rfl rfl h19 (SR.oaI hr10 (by decide) h19)) fun a o=>xq (St.ld u) o (fun w hl=>e_ld o isAgg3 rfl (PH.le.cell (Lds.le hl) (hl22 0 _ rfl))) fun a o=>xr u o (e_neq o rfl rfl) fun a o=>xe<|?_
 rcases bdich (decide (x13≠x18)) with hb23 | hb23
 replace hm:=itp_t hm hb23
 refine tn<|ctv o rfl hb23<|th<|rg<|qa o rfl fun a o=>re<|tn<|wr<|br<|tr<|tr<|br<|tr<|?_
 obtain rfl:=si hm
 exact r1 o results29 rfl ⟨rfl,u.keep⟩
 replace hm:=itp_f hm hb23
 refine tn<|cfv o rfl hb23<|wk<|bn<|tn<|rg<|qm o rfl fun a o=>qv o (e_add o rfl rfl) fun a o=>qa o rfl fun a o=>re<|tn<|?_
 exact ⟨(nn2,(IntKind.i64.wrap (vB1+1))),⟨hm,o.hs,u⟩,Nat.lt_succ_self _⟩
 replace hm:=itp_f hm hb12
 refine tn<|cfv o rfl hb12<|we<|tx<|tx<|bx<|tn<|?_
 exact ⟨hm,o.has trivial,u⟩
 rintro a w ⟨hm,o,u⟩
 unfold Z59 at hm
 refine th<|rg<|qa o rfl fun a o=>re<|tn<|wr<|?_
 obtain rfl:=si hm
 exact r1 o results29 rfl ⟨rfl,u.keep⟩
theorem Zg_c (hH:H.le w0)  {r:(Arr 15 Int)} (hm:Zg N  = some r):Tot Tryz.prog 74 #[] w0 (fun v w'=>∃ (H':PH) (cs0:List Value),v=.agg cs0.toArray∧Enc.rep H' cs0 r∧Ext w0 H H'∧H'.le w'∧Keep Nil w0 w'):=by
 unfold Zg at hm
 refine fn0 func74 rfl ntmps74 rfl rfl fun a o=>?_
 have u:St w0 Nil [H] [] w0:=start1 hH
 refine th<|rg<|ls<|a_alloc (cs:=[i6 0,i6 0,i6 0,i6 0,i6 0,i6 0,i6 0,i6 0,i6 0,i6 0,i6 0,i6 0,i6 0,i6 0,i6 0].toArray) o rfl u Tryz.zeroValue102 rfl fun b1 w a u o=>re<|tn<|th<|rg<|qv o (e_bldK [i6 1,i6 2,i6 1,i6 2,i6 2,i6 2,i6 1,i6 1,i6 1,i6 0] [i6 0,i6 0,i6 1,i6 2,i6 1,i6 2,i6 2,i6 2,i6 1,i6 1,i6 1,i6 0,i6 0,i6 0,i6 0] o ⟨rfl,rfl,rfl,rfl,rfl,rfl,rfl,rfl,rfl,rfl,trivial⟩ (fun w=>by kernel_rfl)) fun a o=>ls<|s_blkA o u sizeOf102 rfl rfl rfl rfl (one_cells rfl) .head fun w u=>re<|tn<|wr<|?_
 obtain rfl:=si hm
 exact r1c (vs:=[i6 0,i6 0,i6 1,i6 2,i6 1,i6 2,i6 2,i6 2,i6 1,i6 1,i6 1,i6 0,i6 0,i6 0,i6 0]) (.inl rfl) o results74 rfl isAgg102 sizeOf102 rfl ((St.ld u).cellsB t0) ⟨H,_,rfl,(show Enc.rep (α:=(Arr 15 Int)) H [i6 0,i6 0,i6 1,i6 2,i6 1,i6 2,i6 2,i6 2,i6 1,i6 1,i6 1,i6 0,i6 0,i6 0,i6 0] (⟨[0,0,1,2,1,2,2,2,1,1,1,0,0,0,0],rfl⟩:(Arr 15 Int)) from (.cons (c:=[i6 0]) rfl (.cons (c:=[i6 0]) rfl (.cons (c:=[i6 1]) rfl (.cons (c:=[i6 2]) rfl (.cons (c:=[i6 1]) rfl (.cons (c:=[i6 2]) rfl (.cons (c:=[i6 2]) rfl (.cons (c:=[i6 2]) rfl (.cons (c:=[i6 1]) rfl (.cons (c:=[i6 1]) rfl (.cons (c:=[i6 1]) rfl (.cons (c:=[i6 0]) rfl (.cons (c:=[i6 0]) rfl (.cons (c:=[i6 0]) rfl (.cons (c:=[i6 0]) rfl .nil)))))))))))))))),(Ext.refl _ _),(St.le u),u.keep⟩
theorem Z0_c (hH:H.le w0) {p1:Int} {r:Int} (hm:Z0 N p1=some r):Tot Tryz.prog 40 #[i6 p1] w0 (fun v w'=>v=i6 r∧Keep Nil w0 w'):=by
 unfold Z0 at hm
 refine fn0 func40 rfl ntmps40 rfl rfl fun a o=>?_
 have u:St w0 Nil [H] [] w0:=start1 hH
 refine th<|rg<|qa o rfl fun a o=>re<|tn<|th<|th<|rg<|qm o rfl fun a o=>qv o (e_lss o rfl rfl) fun a o=>qm o rfl fun a o=>grp (N:=12) (Fk:=[(0,i6 p1),(8,.bool ((decide (p1 < 0)) || (decide (15≤p1))))]) (b:=(decide (p1 < 0))) 3 u ?_ ?_ ?_
 intro hb key
 replace o:=Fr.as o (t:=5) rfl (congrArg Value.bool hb)
 iterate 2 refine qn o fun a o=>?_
 refine qv o (e_as (v':=.bool ((decide (p1 < 0)) || (decide (15≤p1)))) (e_pickT o rfl rfl) (by rw [hb];rfl)) fun a o=>?_
 exact key _ _ (o.has ⟨rfl,rfl,trivial⟩) u
 intro hb key
 replace o:=Fr.as o (t:=5) rfl (congrArg Value.bool hb)
 refine qg o (e_move o rfl) fun a o=>qg o (e_geq o rfl rfl) fun a o=>qv o (e_as (v':=.bool ((decide (p1 < 0)) || (decide (15≤p1)))) (e_pickF o rfl rfl) (by rw [hb];rfl)) fun a o=>?_
 exact key _ _ (o.has ⟨rfl,rfl,trivial⟩) u
 intro a w o u
 refine re<|?_
 rcases bdich ((decide (p1 < 0)) || (decide (15≤p1))) with hb2 | hb2
 replace hm:=ite_t hm hb2
 refine tn<|ctv o rfl hb2<|th<|rg<|qa o rfl fun a o=>re<|tn<|wr<|tr<|?_
 obtain rfl:=si hm
 exact r1 o results40 rfl ⟨rfl,u.keep⟩
 replace hm:=ite_f hm hb2
 refine tn<|cfv o rfl hb2<|wk<|tn<|th<|?_
 obtain ⟨rz3,h4,hm⟩:=bs hm
 obtain ⟨x12,h13,hm⟩:=bs hm
 refine rg<|ls<|c1 o rfl Tryz.call74 (Zg_c (St.le u) h4) trivial (fun v w a hR o=>?_)
 obtain ⟨H8,cs9,rfl,g10,hx5,hl6,hk⟩:=hR
 obtain ⟨u,hx5⟩:=And.intro (St.passH u hk hx5 hl6) (St.extc u hx5)
 have hv11:Rows H8 cs9 rz3.l:=g10
 refine qm o rfl fun a o=>?_
 obtain ⟨c14,g15,hl16⟩:=Rows.getI hv11 h13
 obtain rfl:c14=[i6 x12]:=g15
 refine qv o (e_ix1 o runUnderlying102 sizeOf3 isAgg3 rfl rfl rz3.h h13 (hl16 0 _ rfl)) fun a o=>qa o rfl fun a o=>re<|tn<|wr<|?_
 obtain rfl:=si hm
 exact r1 o results40 rfl ⟨rfl,u.keep⟩
theorem Zh_c:∀ (N:Nat) {w0:World} {H:PH} (_:H.le w0) {oa2:Option Addr} {cap3:Nat} {p1:(List api_Stmt)} (_:p1.length≤cap3) (_:SR H oa2 p1) {r:Int} (_:Zh N p1=some r),Tot Tryz.prog 70 #[.slice oa2 p1.length cap3] w0 (fun v w'=>v=i6 r∧Keep Nil w0 w'):=by
 intro N
 induction N with
  | zero=>intros;rename_i hm;simp [Zh] at hm
  | succ N ih=>
 intro w0 H hH oa2 cap3 p1 hc4 hr5 r hm
 rw [Zh] at hm
 refine fn0 func70 rfl ntmps70 rfl rfl fun a o=>?_
 have u:St w0 Nil [H] [] w0:=start1 hH
 refine th<|rg<|qa o rfl fun a o=>re<|tn<|th<|rg<|qa o rfl fun a o=>re<|tn<|th<|th<|rg<|qa o rfl fun a o=>re<|tn<|midK (fun a w=>∃ (vA1:Int),Zi vA1=some r∧Fr 63 [(3,i6 vA1)] a∧St w0 Nil [H] [] w) ?_ ?_
 refine wb<|lp (α:=Nat×Int×Int) (fun gh a w=>match gh with | (nn2,vB1,vB2)=>(Zk (Zh N) N Zi p1) nn2 vB1 vB2=some r∧Fr 63 [(0,.slice oa2 p1.length cap3),(3,i6 vB1),(4,i6 vB2)] a∧St w0 Nil [H] [] w) (fun gh=>gh.1) (N,0,0) ⟨hm,o.hs,u⟩ ?_
 rintro ⟨nn2,vB1,vB2⟩ a w ⟨hm,o,u⟩
 obtain _ | nn2:=nn2
 simp [Zk] at hm
 rw [Zk] at hm
 refine th<|th<|rg<|qm o rfl fun a o=>qm o rfl fun a o=>qv o (e_lenL (α:=api_Stmt) (xs:=p1) o runUnderlying46 rfl) fun a o=>qv o (e_lss o rfl rfl) fun a o=>re<|?_
 rcases bdich (decide (vB2 < (p1.length:Int))) with hb6 | hb6
 replace hm:=itp_t hm hb6
 refine tn<|ctv o rfl hb6<|wk<|tn<|wb<|th<|?_
 obtain ⟨xz7,h8,hm⟩:=bs hm
 obtain ⟨cz9,g10,hl11⟩:=SR.get hr5 h8
 obtain ⟨oa12,cap13,oa16,cap17,rfl,hc14,hr15,hc18,hr19⟩:=api_Stmt_open g10
 refine rg<|qm o rfl fun a o=>qm o rfl fun a o=>qv o (e_iaI o runUnderlying46 sizeOf51 rfl rfl h8 (SR.oaI hr5 (by decide) h8)) fun a o=>qv o (e_ldA o isAgg51 sizeOf51 rfl rfl (fun j v hj=>PH.le.cell (Lds.le (St.ld u)) (hl11 j v hj))) fun a o=>ls<|a_alloc (cs:=[i6 0,strv [],strv [],.slice none 0 0,.slice none 0 0,i6 0,i6 0,i6 0,i6 0].toArray) o rfl u zeroValue51 rfl fun b20 w a u o=>ls<|s_blkA o u sizeOf51 rfl rfl rfl rfl (one_cells rfl) .head fun w u=>re<|tn<|th<|rg<|qm o rfl fun a o=>qv o (e_add o rfl rfl) fun a o=>qv o (e_fa o fa51_6 rfl) fun a o=>qv o (e_ld o isAgg3 rfl ((St.ld u).cellB t0 rfl)) fun a o=>qv o (e_add o rfl rfl) fun a o=>qa o rfl fun a o=>re<|tn<|th<|rg<|qm o rfl fun a o=>qv o (e_fa o fa51_7 rfl) fun a o=>qv o (e_ld o isAgg3 rfl ((St.ld u).cellB t0 rfl)) fun a o=>qv o (e_add o rfl rfl) fun a o=>qa o rfl fun a o=>re<|tn<|th<|th<|rg<|qv o (e_fa o fa51_0 rfl) fun a o=>qv o (e_ld o isAgg3 rfl ((St.ld u).cellB t0 rfl)) fun a o=>re<|tn<|midK (fun a w=>∃ (vC1:Int),(Zj ((Zk (Zh N) N Zi p1) nn2) xz7 vB2) vC1=some r∧Fr 63 [(0,.slice oa2 p1.length cap3),(3,i6 vC1),(7,i6 (IntKind.i64.wrap ((IntKind.i64.wrap ((IntKind.i64.wrap (vB2+1))+xz7.Body))+xz7.Else)))] a∧St w0 Nil [H] [] w) ?_ ?_
 refine wb<|th<|rg<|qv o (e_eql o rfl rfl) fun a o=>qa o rfl fun a o=>re<|?_
 rcases bdich (decide (xz7.Kind=11)) with hb21 | hb21
 replace hm:=itp_t hm hb21
 refine tn<|ctv o rfl hb21<|?_
 obtain ⟨l22,h23,hm⟩:=bs hm
 obtain ⟨oa24,cap25,e26,e27,hc28,hr29⟩:=SR.sub (sz:=9) hr5 hc4 rfl h23
 obtain ⟨r30,h31,hm⟩:=bs hm
 obtain ⟨l32,h33,hm⟩:=bs hm
 obtain ⟨oa34,cap35,e36,e37,hc38,hr39⟩:=SR.sub (sz:=9) hr5 hc4 rfl h33
 obtain ⟨r40,h41,hm⟩:=bs hm
 refine rdS 15 u wide fun w u=>dr 0 u o rfl (e_move o rfl) fun a o=>dr 1 u o rfl (e_move o rfl) fun a o=>dr 2 u o rfl (e_move o rfl) fun a o=>dr 3 u o rfl (e_add o rfl rfl) fun a o=>dr 4 u o rfl (e_move o rfl) fun a o=>dr 5 u o rfl (e_subL (xs:=p1) (vl:=(IntKind.i64.wrap (vB2+1))) (vh:=(IntKind.i64.wrap ((IntKind.i64.wrap (vB2+1))+xz7.Body))) o runUnderlying46 sizeOf51 rfl hc4 rfl rfl h23 e26 e27) fun a o=>dr 7 u o rfl (e_move o rfl) fun a o=>dr 8 u o rfl (e_move o rfl) fun a o=>dr 9 u o rfl (e_move o rfl) fun a o=>dr 10 u o rfl (e_subL (xs:=p1) (vl:=(IntKind.i64.wrap ((IntKind.i64.wrap (vB2+1))+xz7.Body))) (vh:=(IntKind.i64.wrap ((IntKind.i64.wrap ((IntKind.i64.wrap (vB2+1))+xz7.Body))+xz7.Else))) o runUnderlying46 sizeOf51 rfl hc4 rfl rfl h33 e36 e37) fun a o=>da1 (i:=6) (by kernel_rfl) ?_
 refine di (i:=6) rfl<|cq o call70 (ih (hp_le _) hc28 (St.srH u hr29) h31) ⟨rfl,trivial⟩ u fun w a u o=>⟨fun _=>(St.ld u),?_⟩
 refine da1 (i:=11) (by kernel_rfl) ?_
 refine di (i:=11) rfl<|cq o call70 (ih (hp_le _) hc38 (St.srH u hr39) h41) ⟨rfl,trivial⟩ u fun w a u o=>⟨fun _=>(St.ld u),?_⟩
 refine dr 12 u o rfl (e_max o rfl rfl) fun a o=>dr 13 u o rfl (e_add o rfl rfl) fun a o=>dr 14 u o rfl (e_asg o rfl) fun a o=>de (by kernel_rfl)<|bn<|tn<|?_
 replace u:=u.pickL .nil
 exact ⟨(IntKind.i64.wrap (vB1+(max r30 r40))),hm,o.hs,u⟩
 replace hm:=itp_f hm hb21
 refine tn<|cfv o rfl hb21<|th<|rg<|qv o (e_eql o rfl rfl) fun a o=>qa o rfl fun a o=>re<|?_
 rcases bdich (decide (xz7.Kind=12)) with hb42 | hb42
 replace hm:=itp_t hm hb42
 refine tn<|ctv o rfl hb42<|?_
 obtain ⟨l43,h44,hm⟩:=bs hm
 obtain ⟨oa45,cap46,e47,e48,hc49,hr50⟩:=SR.sub (sz:=9) hr5 hc4 rfl h44
 obtain ⟨r51,h52,hm⟩:=bs hm
 refine rdS 12 u wide fun w u=>dr 0 u o rfl (e_move o rfl) fun a o=>dr 1 u o rfl (e_fa o fa51_5 rfl) fun a o=>dq 2 (St.ld u) o rfl (fun w hl=>e_ld o isAgg3 rfl (hl.cellB t0 rfl)) fun a o=>dr 3 u o rfl (e_move o rfl) fun a o=>dr 4 u o rfl (e_move o rfl) fun a o=>dr 5 u o rfl (e_add o rfl rfl) fun a o=>dr 6 u o rfl (e_move o rfl) fun a o=>dr 7 u o rfl (e_subL (xs:=p1) (vl:=(IntKind.i64.wrap (vB2+1))) (vh:=(IntKind.i64.wrap ((IntKind.i64.wrap (vB2+1))+xz7.Body))) o runUnderlying46 sizeOf51 rfl hc4 rfl rfl h44 e47 e48) fun a o=>da1 (i:=8) (by kernel_rfl) ?_
 refine di (i:=8) rfl<|cq o call70 (ih (hp_le _) hc49 (St.srH u hr50) h52) ⟨rfl,trivial⟩ u fun w a u o=>⟨fun _=>(St.ld u),?_⟩
 refine dr 9 u o rfl (e_mul o rfl rfl) fun a o=>dr 10 u o rfl (e_add o rfl rfl) fun a o=>dr 11 u o rfl (e_asg o rfl) fun a o=>de (by kernel_rfl)<|bn<|tn<|?_
 replace u:=u.pickL .nil
 exact ⟨(IntKind.i64.wrap (vB1+(IntKind.i64.wrap (xz7.N * r51)))),hm,o.hs,u⟩
 replace hm:=itp_f hm hb42
 refine tn<|cfv o rfl hb42<|?_
 obtain ⟨r53,h54,hm⟩:=bs hm
 refine rg<|qm o rfl fun a o=>qv o (e_fa o fa51_0 rfl) fun a o=>qv o (e_ld o isAgg3 rfl ((St.ld u).cellB t0 rfl)) fun a o=>ls<|cq o call40 (Z0_c (hp_le _) h54) ⟨rfl,trivial⟩ u fun w a u o=>qv o (e_add o rfl rfl) fun a o=>qa o rfl fun a o=>re<|bn<|tn<|?_
 replace u:=u.pickL .nil
 exact ⟨(IntKind.i64.wrap (vB1+r53)),hm,o.hs,u⟩
 rintro a w ⟨vC1,hm,o,u⟩
 unfold Zj at hm
 refine rg<|qm o rfl fun a o=>qa o rfl fun a o=>re<|bn<|tn<|?_
 exact ⟨(nn2,vC1,(IntKind.i64.wrap ((IntKind.i64.wrap ((IntKind.i64.wrap (vB2+1))+xz7.Body))+xz7.Else))),⟨hm,o.hs,u⟩,Nat.lt_succ_self _⟩
 replace hm:=itp_f hm hb6
 refine tn<|cfv o rfl hb6<|we<|tx<|tx<|bx<|tn<|?_
 exact ⟨vB1,hm,o.has ⟨rfl,trivial⟩,u⟩
 rintro a w ⟨vA1,hm,o,u⟩
 unfold Zi at hm
 refine th<|rg<|qm o rfl fun a o=>qa o rfl fun a o=>re<|tn<|wr<|?_
 obtain rfl:=si hm
 exact r1 o results70 rfl ⟨rfl,u.keep⟩
theorem Z8_c (hH:H.le w0) (hT:Tab H) {oa2:Option Addr} {cap3:Nat} {p1:(List api_Stmt)} (hc4:p1.length≤cap3) (hr5:SR H oa2 p1) {r:Int} (hm:Z8 N p1=some r):Tot Tryz.prog 34 #[.slice oa2 p1.length cap3] w0 (fun v w'=>v=i6 r∧Keep Nil w0 w'):=by
 unfold Z8 at hm
 refine fn0 func34 rfl ntmps34 rfl rfl fun a o=>?_
 have u:St w0 Nil [H] [] w0:=start1 hH
 refine th<|rg<|qa o rfl fun a o=>re<|tn<|th<|th<|?_
 obtain ⟨rz6,h7,hm⟩:=bs hm
 refine rg<|qm o rfl fun a o=>ls<|cq o call69 (Z8t_c (hp_le _) (Tab.mono hT (St.up u)) hc4 (St.srH u hr5) h7) ⟨rfl,trivial⟩ u fun w a u o=>qv o (e_not o rfl) fun a o=>re<|?_
 rcases bdich rz6 with hb8 | hb8
 replace hm:=ite_t hm hb8
 refine tn<|cfv o rfl (by rw [hb8];rfl)<|wk<|tn<|th<|?_
 obtain ⟨rz9,h10,hm⟩:=bs hm
 refine rg<|qm o rfl fun a o=>ls<|cq o call70 (Zh_c _ (hp_le _) hc4 (St.srH u hr5) h10) ⟨rfl,trivial⟩ u fun w a u o=>qa o rfl fun a o=>re<|tn<|wr<|?_
 obtain rfl:=si hm
 exact r1 o results34 rfl ⟨rfl,u.keep⟩
 replace hm:=ite_f hm hb8
 refine tn<|ctv o rfl (by rw [hb8];rfl)<|th<|rg<|qa o rfl fun a o=>re<|tn<|wr<|tr<|?_
 obtain rfl:=si hm
 exact r1 o results34 rfl ⟨rfl,u.keep⟩
set_option maxHeartbeats 4000000 in
theorem Za_c:∀ (N:Nat) {w0:World} {H:PH} (_:H.le w0) {oa2:Option Addr} {cap3:Nat} {p1:(List api_Stmt)} (_:p1.length≤cap3) (_:SR H oa2 p1) {b7:Nat} {p6:(List Int)} {oa8:Option Addr} {cap9:Nat} {vs10:List Value} (_:Rows H vs10 p6) {y14:Int} {b13:Nat} (_:H b13=some (.cells [i6 y14].toArray 3 (0,0))) {b16:Nat} (_:H b16=some (.cells [.func (.func 72) #[] #[.pointer (some ⟨b7,0,none⟩),.pointer (some ⟨b13,0,none⟩),.pointer (some ⟨b16,0,none⟩)]].toArray 65 (0,0))) (_:(sepA [blk b7 (.cells [.slice oa8 p6.length cap9].toArray 42 (0,0)),sla 3 1 oa8 p6.length cap9 vs10]).ok (hp w0)) (_:∀ b,(sepA [blk b7 (.cells [.slice oa8 p6.length cap9].toArray 42 (0,0)),sla 3 1 oa8 p6.length cap9 vs10]).fp b→H b=none) {r:(List Int)} (_:Za N p1 p6 y14=some r),Tot Tryz.prog 72 #[.slice oa2 p1.length cap3,.pointer (some ⟨b7,0,none⟩),.pointer (some ⟨b13,0,none⟩),.pointer (some ⟨b16,0,none⟩)] w0 (fun v w'=>∃ (oa1m:Option Addr) (cap1m:Nat) (vs1m:List Value),v=.tuple #[]∧(∀ h,Rows h vs1m r)∧Mut w0 (sepA [blk b7 (.cells [.slice oa8 p6.length cap9].toArray 42 (0,0)),sla 3 1 oa8 p6.length cap9 vs10]) (sepA [blk b7 (.cells [.slice oa1m r.length cap1m].toArray 42 (0,0)),sla 3 1 oa1m r.length cap1m vs1m]) w'):=by
 intro N
 induction N with
  | zero=>intros;rename_i hm;simp [Za] at hm
  | succ N ih=>
 intro w0 H hH oa2 cap3 p1 hc4 hr5 b7 p6 oa8 cap9 vs10 hv11 y14 b13 hb15 b16 hb17 hO hD r hm
 rw [Za] at hm
 refine fn0 func72 rfl ntmps72 rfl rfl fun a o=>?_
 have u:=startM hH hO hD
 refine th<|rg<|qa o rfl fun a o=>re<|?_
 replace u:=u.pk [1,0] rfl
 refine tn<|wb<|lp (α:=Nat×(List Int)×Int) (fun gh a w=>match gh with | (nn1,vA1,vA7)=>∃ (oaA2:Option Addr) (capA3:Nat) (vsA4:List Value),(Ze (Za N) N p1 y14) nn1 vA1 vA7=some r∧Fr 92 [(0,.slice oa2 p1.length cap3),(1,.pointer (some ⟨b7,0,none⟩)),(2,.pointer (some ⟨b13,0,none⟩)),(3,.pointer (some ⟨b16,0,none⟩)),(5,i6 vA7)] a∧St w0 (sepA [blk b7 (.cells [.slice oa8 p6.length cap9].toArray 42 (0,0)),sla 3 1 oa8 p6.length cap9 vs10]).fp [H] [sla 3 1 oaA2 vA1.length capA3 vsA4,blk b7 (.cells [.slice oaA2 vA1.length capA3].toArray 42 (0,0))] w∧Rows H vsA4 vA1) (fun gh=>gh.1) (N,p6,0) ⟨oa8,cap9,vs10,hm,o.hs,u,hv11⟩ ?_
 rintro ⟨nn1,vA1,vA7⟩ a w ⟨oaA2,capA3,vsA4,hm,o,u,hvA5⟩
 obtain _ | nn1:=nn1
 simp [Ze] at hm
 rw [Ze] at hm
 refine th<|th<|rg<|qm o rfl fun a o=>qm o rfl fun a o=>qv o (e_lenL (α:=api_Stmt) (xs:=p1) o runUnderlying46 rfl) fun a o=>qv o (e_lss o rfl rfl) fun a o=>qm o rfl fun a o=>grp (N:=92) (Fk:=[(0,.slice oa2 p1.length cap3),(1,.pointer (some ⟨b7,0,none⟩)),(2,.pointer (some ⟨b13,0,none⟩)),(3,.pointer (some ⟨b16,0,none⟩)),(5,i6 vA7),(20,.bool ((decide (vA7 < (p1.length:Int))) && (decide ((vA1.length:Int) < y14))))]) (b:=(decide (vA7 < (p1.length:Int)))) 5 u ?_ ?_ ?_
 intro hb key
 replace o:=Fr.as o (t:=15) rfl (congrArg Value.bool hb)
 refine qg o (e_ld o isAgg42 rfl ((St.ld u).cellB t1 rfl)) fun a o=>qg o (e_lenL (α:=Int) (xs:=vA1) o runUnderlying42 rfl) fun a o=>qg o (e_ld o isAgg3 rfl (PH.le.cell (Lds.le (St.ld u)) (ph_cell hb15 rfl))) fun a o=>qg o (e_lss o rfl rfl) fun a o=>qv o (e_as (v':=.bool ((decide (vA7 < (p1.length:Int))) && (decide ((vA1.length:Int) < y14)))) (e_pickT o rfl rfl) (by rw [hb];rfl)) fun a o=>?_
 exact key _ _ (o.hs) u
 intro hb key
 replace o:=Fr.as o (t:=15) rfl (congrArg Value.bool hb)
 iterate 4 refine qn o fun a o=>?_
 refine qv o (e_as (v':=.bool ((decide (vA7 < (p1.length:Int))) && (decide ((vA1.length:Int) < y14)))) (e_pickF o rfl rfl) (by rw [hb];rfl)) fun a o=>?_
 exact key _ _ (o.hs) u
 intro a w o u
 refine re<|?_
 rcases bdich ((decide (vA7 < (p1.length:Int))) && (decide ((vA1.length:Int) < y14))) with hb18 | hb18
 replace hm:=ite_t hm hb18
 refine tn<|ctv o rfl hb18<|wk<|tn<|wb<|th<|?_
 obtain ⟨x19,h20,hm⟩:=bs hm
 obtain ⟨c21,g22,hl23⟩:=SR.get hr5 h20
 obtain ⟨oa24,cap25,oa28,cap29,rfl,hc26,hr27,hc30,hr31⟩:=api_Stmt_open g22
 refine rg<|qm o rfl fun a o=>qm o rfl fun a o=>qv o (e_iaI o runUnderlying46 sizeOf51 rfl rfl h20 (SR.oaI hr5 (by decide) h20)) fun a o=>qv o (e_ldA o isAgg51 sizeOf51 rfl rfl (fun j v hj=>PH.le.cell (Lds.le (St.ld u)) (hl23 j v hj))) fun a o=>ls<|a_alloc (cs:=[i6 0,strv [],strv [],.slice none 0 0,.slice none 0 0,i6 0,i6 0,i6 0,i6 0].toArray) o rfl u zeroValue51 rfl fun b32 w a u o=>ls<|s_blkA o u sizeOf51 rfl rfl rfl rfl (one_cells rfl) .head fun w u=>re<|tn<|th<|rg<|qm o rfl fun a o=>qv o (e_add o rfl rfl) fun a o=>qv o (e_fa o fa51_6 rfl) fun a o=>qv o (e_ld o isAgg3 rfl ((St.ld u).cellB t0 rfl)) fun a o=>qv o (e_add o rfl rfl) fun a o=>qa o rfl fun a o=>re<|tn<|th<|rg<|qm o rfl fun a o=>qv o (e_fa o fa51_7 rfl) fun a o=>qv o (e_ld o isAgg3 rfl ((St.ld u).cellB t0 rfl)) fun a o=>qv o (e_add o rfl rfl) fun a o=>qa o rfl fun a o=>re<|tn<|th<|?_
 obtain ⟨l33,h34,hm⟩:=bs hm
 obtain ⟨oa35,cap36,e37,e38,hc39,hr40⟩:=SR.sub (sz:=9) hr5 hc4 rfl h34
 obtain ⟨l41,h42,hm⟩:=bs hm
 obtain ⟨oa43,cap44,e45,e46,hc47,hr48⟩:=SR.sub (sz:=9) hr5 hc4 rfl h42
 refine rxS 11 u wide (by kernel_rfl) fun w u=>?_
 iterate 2 refine xq (St.ld u) o (fun w hl=>e_move o rfl) fun a o=>?_
 refine xr u o (e_add o rfl rfl) fun a o=>xm u o rfl fun a o=>xr u o (e_subL (xs:=p1) (vl:=(IntKind.i64.wrap (vA7+1))) (vh:=(IntKind.i64.wrap ((IntKind.i64.wrap (vA7+1))+x19.Body))) o runUnderlying46 sizeOf51 rfl hc4 rfl rfl h34 e37 e38) fun a o=>?_
 iterate 3 refine xq (St.ld u) o (fun w hl=>e_move o rfl) fun a o=>?_
 refine xr u o (e_subL (xs:=p1) (vl:=(IntKind.i64.wrap ((IntKind.i64.wrap (vA7+1))+x19.Body))) (vh:=(IntKind.i64.wrap ((IntKind.i64.wrap ((IntKind.i64.wrap (vA7+1))+x19.Body))+x19.Else))) o runUnderlying46 sizeOf51 rfl hc4 rfl rfl h42 e45 e46) fun a o=>?_
 iterate 2 refine xq (St.ld u) o (fun w hl=>e_asg o rfl) fun a o=>?_
 refine xe<|tn<|th<|midK (fun a w=>∃ (vB1:(List Int)) (oaB2:Option Addr) (capB3:Nat) (vsB4:List Value),(Zb ((Ze (Za N) N p1 y14) nn1) x19 vA7) vB1=some r∧Fr 92 [(0,.slice oa2 p1.length cap3),(1,.pointer (some ⟨b7,0,none⟩)),(2,.pointer (some ⟨b13,0,none⟩)),(3,.pointer (some ⟨b16,0,none⟩)),(8,i6 (IntKind.i64.wrap ((IntKind.i64.wrap ((IntKind.i64.wrap (vA7+1))+x19.Body))+x19.Else)))] a∧St w0 (sepA [blk b7 (.cells [.slice oa8 p6.length cap9].toArray 42 (0,0)),sla 3 1 oa8 p6.length cap9 vs10]).fp [H] [sla 3 1 oaB2 vB1.length capB3 vsB4,blk b7 (.cells [.slice oaB2 vB1.length capB3].toArray 42 (0,0))] w∧Rows H vsB4 vB1) ?_ ?_
 refine wb<|th<|midK (fun a w=>∃ (vC1:Bool),(Zc (Za N) N (Zb ((Ze (Za N) N p1 y14) nn1) x19 vA7) y14 x19 l33 l41 vA1) vC1=some r∧Fr 92 [(0,.slice oa2 p1.length cap3),(1,.pointer (some ⟨b7,0,none⟩)),(2,.pointer (some ⟨b13,0,none⟩)),(3,.pointer (some ⟨b16,0,none⟩)),(6,.pointer (some ⟨b32,0,none⟩)),(8,i6 (IntKind.i64.wrap ((IntKind.i64.wrap ((IntKind.i64.wrap (vA7+1))+x19.Body))+x19.Else))),(9,.slice oa35 l33.length cap36),(10,.slice oa43 l41.length cap44),(43,.bool vC1)] a∧St w0 (sepA [blk b7 (.cells [.slice oa8 p6.length cap9].toArray 42 (0,0)),sla 3 1 oa8 p6.length cap9 vs10]).fp [H] [sla 3 1 oaA2 vA1.length capA3 vsA4,blk b7 (.cells [.slice oaA2 vA1.length capA3].toArray 42 (0,0)),blk b32 (.cells [i6 x19.Kind,strv x19.Reg,strv x19.Name,.slice oa24 x19.E.length cap25,.slice oa28 x19.F.length cap29,i6 x19.N,i6 x19.Body,i6 x19.Else,i6 x19.At].toArray 51 (0,0))] w) ?_ ?_
 rcases bdich (decide (x19.Kind=11)) with hb49 | hb49
 replace hm:=itp_t hm hb49
 obtain ⟨r50,h51,hm⟩:=bs hm
 obtain ⟨r52,h53,hm⟩:=bs hm
 refine rg<|qv o (e_fa o fa51_0 rfl) fun a o=>qv o (e_ld o isAgg3 rfl ((St.ld u).cellB t0 rfl)) fun a o=>qv o (e_eql o rfl rfl) fun a o=>qv o (e_as (e_move o rfl) (congrArg Value.bool hb49)) fun a o=>qg o (e_move o rfl) fun a o=>ls<|gy o rfl rfl<|cq o call70 (Zh_c _ (hp_le _) hc47 (St.srH u hr48) h51) ⟨rfl,trivial⟩ u fun w a u o=>qg o (e_move o rfl) fun a o=>ls<|gy o rfl rfl<|cq o call70 (Zh_c _ (hp_le _) hc39 (St.srH u hr40) h53) ⟨rfl,trivial⟩ u fun w a u o=>qg o (e_gtr o rfl rfl) fun a o=>qv o (e_pickT o rfl rfl) fun a o=>qa o rfl fun a o=>re<|tn<|?_
 replace u:=u.pk [1,1,0] rfl
 exact ⟨(decide (r52 < r50)),hm,o.hs,u⟩
 replace hm:=itp_f hm hb49
 refine rg<|qv o (e_fa o fa51_0 rfl) fun a o=>qv o (e_ld o isAgg3 rfl ((St.ld u).cellB t0 rfl)) fun a o=>qv o (e_eql o rfl rfl) fun a o=>qv o (e_as (e_move o rfl) (congrArg Value.bool hb49)) fun a o=>?_
 iterate 5 refine qn o fun a o=>?_
 refine qv o (e_pickF o rfl rfl) fun a o=>qa o rfl fun a o=>re<|tn<|?_
 replace u:=u.pk [1,1,0] rfl
 exact ⟨false,hm,o.hs,u⟩
 rintro a w ⟨vC1,hm,o,u⟩
 unfold Zc at hm
 rcases bdich vC1 with hb54 | hb54
 replace hm:=ite_t hm hb54
 refine ctv o rfl hb54<|?_
 obtain ⟨r55,h56,hm⟩:=bs hm
 refine rg<|qv o (e_ld o Tryz.isAgg65 rfl (PH.le.cell (Lds.le (St.ld u)) (ph_cell hb17 rfl))) fun a o=>qm o rfl fun a o=>?_
 replace u:=u.pk [1,0,0] rfl
 replace u:=St.sep [blk b7 (.cells [.slice oaA2 vA1.length capA3].toArray 42 (0,0)),sla 3 1 oaA2 vA1.length capA3 vsA4] u
 refine ls<|k1 (vs:=[.slice oa43 l41.length cap44]) (caps:=[.pointer (some ⟨b7,0,none⟩),.pointer (some ⟨b13,0,none⟩),.pointer (some ⟨b16,0,none⟩)]) o rfl rfl call72 (ih (St.le u) (p6:=vA1) (b7:=b7) (oa8:=oaA2) (cap9:=capA3) (vs10:=vsA4) hc47 hr48 hvA5 hb15 hb17 (St.sepOk u) (St.sepDis u) h56) ⟨rfl,trivial⟩ rfl (fun v w a hR o=>?_)
 obtain ⟨oa57,cap58,vs59,rfl,hv60,hk⟩:=hR
 replace u:=(u.mut hk .head).unsep
 replace hv60:=hv60 H
 refine re<|bn<|tn<|?_
 replace u:=u.pk [1,0] rfl
 exact ⟨r55,oa57,cap58,vs59,hm,o.hs,u,hv60⟩
 replace hm:=ite_f hm hb54
 refine cfv o rfl hb54<|th<|rg<|qv o (e_fa o fa51_0 rfl) fun a o=>qv o (e_ld o isAgg3 rfl ((St.ld u).cellB t2 rfl)) fun a o=>qv o (e_eql o rfl rfl) fun a o=>qa o rfl fun a o=>re<|?_
 rcases bdich (decide (x19.Kind=11)) with hb62 | hb62
 replace hm:=itp_t hm hb62
 refine tn<|ctv o rfl hb62<|?_
 obtain ⟨r63,h64,hm⟩:=bs hm
 refine rg<|qv o (e_ld o Tryz.isAgg65 rfl (PH.le.cell (Lds.le (St.ld u)) (ph_cell hb17 rfl))) fun a o=>qm o rfl fun a o=>?_
 replace u:=u.pk [1,0,0] rfl
 replace u:=St.sep [blk b7 (.cells [.slice oaA2 vA1.length capA3].toArray 42 (0,0)),sla 3 1 oaA2 vA1.length capA3 vsA4] u
 refine ls<|k1 (vs:=[.slice oa35 l33.length cap36]) (caps:=[.pointer (some ⟨b7,0,none⟩),.pointer (some ⟨b13,0,none⟩),.pointer (some ⟨b16,0,none⟩)]) o rfl rfl call72 (ih (St.le u) (p6:=vA1) (b7:=b7) (oa8:=oaA2) (cap9:=capA3) (vs10:=vsA4) hc39 hr40 hvA5 hb15 hb17 (St.sepOk u) (St.sepDis u) h64) ⟨rfl,trivial⟩ rfl (fun v w a hR o=>?_)
 obtain ⟨oa65,cap66,vs67,rfl,hv68,hk⟩:=hR
 replace u:=(u.mut hk .head).unsep
 replace hv68:=hv68 H
 refine re<|bn<|tn<|?_
 replace u:=u.pk [1,0] rfl
 exact ⟨r63,oa65,cap66,vs67,hm,o.hs,u,hv68⟩
 replace hm:=itp_f hm hb62
 refine tn<|cfv o rfl hb62<|th<|midK (fun a w=>∃ (vC2:Bool),(Zd (Za N) N (Zb ((Ze (Za N) N p1 y14) nn1) x19 vA7) y14 x19 l33 vA1) vC2=some r∧Fr 92 [(0,.slice oa2 p1.length cap3),(1,.pointer (some ⟨b7,0,none⟩)),(2,.pointer (some ⟨b13,0,none⟩)),(3,.pointer (some ⟨b16,0,none⟩)),(6,.pointer (some ⟨b32,0,none⟩)),(8,i6 (IntKind.i64.wrap ((IntKind.i64.wrap ((IntKind.i64.wrap (vA7+1))+x19.Body))+x19.Else))),(9,.slice oa35 l33.length cap36),(64,.bool vC2)] a∧St w0 (sepA [blk b7 (.cells [.slice oa8 p6.length cap9].toArray 42 (0,0)),sla 3 1 oa8 p6.length cap9 vs10]).fp [H] [sla 3 1 oaA2 vA1.length capA3 vsA4,blk b7 (.cells [.slice oaA2 vA1.length capA3].toArray 42 (0,0)),blk b32 (.cells [i6 x19.Kind,strv x19.Reg,strv x19.Name,.slice oa24 x19.E.length cap25,.slice oa28 x19.F.length cap29,i6 x19.N,i6 x19.Body,i6 x19.Else,i6 x19.At].toArray 51 (0,0))] w) ?_ ?_
 rcases bdich (decide (x19.Kind=12)) with hb70 | hb70
 replace hm:=itp_t hm hb70
 obtain ⟨r71,h72,hm⟩:=bs hm
 refine rg<|qv o (e_fa o fa51_0 rfl) fun a o=>qv o (e_ld o isAgg3 rfl ((St.ld u).cellB t2 rfl)) fun a o=>qv o (e_eql o rfl rfl) fun a o=>qv o (e_as (e_move o rfl) (congrArg Value.bool hb70)) fun a o=>qg o (e_move o rfl) fun a o=>ls<|gy o rfl rfl<|cq o call70 (Zh_c _ (hp_le _) hc39 (St.srH u hr40) h72) ⟨rfl,trivial⟩ u fun w a u o=>qg o (e_gtr o rfl rfl) fun a o=>qv o (e_pickT o rfl rfl) fun a o=>qa o rfl fun a o=>re<|tn<|?_
 exact ⟨(decide (0 < r71)),hm,o.hs,u⟩
 replace hm:=itp_f hm hb70
 refine rg<|qv o (e_fa o fa51_0 rfl) fun a o=>qv o (e_ld o isAgg3 rfl ((St.ld u).cellB t2 rfl)) fun a o=>qv o (e_eql o rfl rfl) fun a o=>qv o (e_as (e_move o rfl) (congrArg Value.bool hb70)) fun a o=>?_
 iterate 3 refine qn o fun a o=>?_
 refine qv o (e_pickF o rfl rfl) fun a o=>qa o rfl fun a o=>re<|tn<|?_
 exact ⟨false,hm,o.hs,u⟩
 rintro a w ⟨vC2,hm,o,u⟩
 unfold Zd at hm
 rcases bdich vC2 with hb73 | hb73
 replace hm:=ite_t hm hb73
 refine ctv o rfl hb73<|th<|rg<|qv o (e_fa o fa51_5 rfl) fun a o=>qv o (e_ld o isAgg3 rfl ((St.ld u).cellB t2 rfl)) fun a o=>qm o rfl fun a o=>re<|?_
 replace u:=u.pk [0,0] rfl
 refine tn<|wb<|lp (α:=Nat×(List Int)×Int) (fun gh a w=>match gh with | (nn5,vC3,vC9)=>∃ (oaC4:Option Addr) (capC5:Nat) (vsC6:List Value),(Zf (Za N) N (Zb ((Ze (Za N) N p1 y14) nn1) x19 vA7) y14 x19 l33) nn5 vC3 vC9=some r∧Fr 92 [(0,.slice oa2 p1.length cap3),(1,.pointer (some ⟨b7,0,none⟩)),(2,.pointer (some ⟨b13,0,none⟩)),(3,.pointer (some ⟨b16,0,none⟩)),(8,i6 (IntKind.i64.wrap ((IntKind.i64.wrap ((IntKind.i64.wrap (vA7+1))+x19.Body))+x19.Else))),(9,.slice oa35 l33.length cap36),(74,i6 x19.N),(75,i6 vC9)] a∧St w0 (sepA [blk b7 (.cells [.slice oa8 p6.length cap9].toArray 42 (0,0)),sla 3 1 oa8 p6.length cap9 vs10]).fp [H] [sla 3 1 oaC4 vC3.length capC5 vsC6,blk b7 (.cells [.slice oaC4 vC3.length capC5].toArray 42 (0,0))] w∧Rows H vsC6 vC3) (fun gh=>gh.1) (N,vA1,0) ⟨oaA2,capA3,vsA4,hm,o.hs,u,hvA5⟩ ?_
 rintro ⟨nn5,vC3,vC9⟩ a w ⟨oaC4,capC5,vsC6,hm,o,u,hvC7⟩
 obtain _ | nn5:=nn5
 simp [Zf] at hm
 rw [Zf] at hm
 refine th<|rg<|qv o (e_lss o rfl rfl) fun a o=>re<|?_
 rcases bdich (decide (vC9 < x19.N)) with hb74 | hb74
 replace hm:=itp_t hm hb74
 refine tn<|th<|ctv o rfl hb74<|wk<|tn<|th<|wb<|?_
 obtain ⟨r75,h76,hm⟩:=bs hm
 refine rg<|qv o (e_ld o Tryz.isAgg65 rfl (PH.le.cell (Lds.le (St.ld u)) (ph_cell hb17 rfl))) fun a o=>qm o rfl fun a o=>?_
 replace u:=u.pk [1,0] rfl
 replace u:=St.sep [blk b7 (.cells [.slice oaC4 vC3.length capC5].toArray 42 (0,0)),sla 3 1 oaC4 vC3.length capC5 vsC6] u
 refine ls<|k1 (vs:=[.slice oa35 l33.length cap36]) (caps:=[.pointer (some ⟨b7,0,none⟩),.pointer (some ⟨b13,0,none⟩),.pointer (some ⟨b16,0,none⟩)]) o rfl rfl call72 (ih (St.le u) (p6:=vC3) (b7:=b7) (oa8:=oaC4) (cap9:=capC5) (vs10:=vsC6) hc39 hr40 hvC7 hb15 hb17 (St.sepOk u) (St.sepDis u) h76) ⟨rfl,trivial⟩ rfl (fun v w a hR o=>?_)
 obtain ⟨oa77,cap78,vs79,rfl,hv80,hk⟩:=hR
 replace u:=(u.mut hk .head).unsep
 replace hv80:=hv80 H
 refine re<|bn<|tn<|rg<|qv o (e_add o rfl rfl) fun a o=>qm o rfl fun a o=>re<|tn<|?_
 replace u:=u.pk [1,0] rfl
 exact ⟨(nn5,r75,(IntKind.i64.wrap (vC9+1))),⟨oa77,cap78,vs79,hm,o.hs,u,hv80⟩,Nat.lt_succ_self _⟩
 replace hm:=itp_f hm hb74
 refine tn<|th<|cfv o rfl hb74<|we<|tx<|tx<|bx<|bn<|tn<|?_
 exact ⟨vC3,oaC4,capC5,vsC6,hm,o.hs,u,hvC7⟩
 replace hm:=ite_f hm hb73
 refine cfv o rfl hb73<|th<|?_
 obtain ⟨r82,h83,hm⟩:=bs hm
 refine rg<|qv o (e_fa o fa51_0 rfl) fun a o=>qv o (e_ld o isAgg3 rfl ((St.ld u).cellB t2 rfl)) fun a o=>ls<|cq o call40 (Z0_c (hp_le _) h83) ⟨rfl,trivial⟩ u fun w a u o=>qv o (e_gtr o rfl rfl) fun a o=>qa o rfl fun a o=>re<|?_
 rcases bdich (decide (0 < r82)) with hb84 | hb84
 replace hm:=itp_t hm hb84
 refine tn<|ctv o rfl hb84<|?_
 obtain ⟨l88,h89,hm⟩:=bs hm
 refine rg<|qv o (e_ld o Tryz.isAgg42 rfl ((St.ld u).cellB t1 rfl)) fun a o=>qv o (e_fa o fa51_0 rfl) fun a o=>qv o (e_ld o isAgg3 rfl ((St.ld u).cellB t2 rfl)) fun a o=>ls<|a_bsl (e:=3) (sz:=1) [i6 x19.Kind] o rfl u rfl rfl rfl (fun w=>by kernel_rfl) fun b86 w a u o=>?_
 have hv85:Rows (α:=Int) H [i6 x19.Kind] ([x19.Kind]:List Int):=(.cons (c:=[i6 x19.Kind]) rfl .nil)
 refine ls<|m_app (α:=Int) (xs:=vA1) (ys:=([x19.Kind]:List Int)) o rfl u underlying42 info3 rfl (by decide) rfl rfl rfl t1 hvA5 (u.rdO t0) hv85 h89 fun oa90 cap91 vs92 w a hv93 hU o=>?_
 replace u:=hU _ (.tail .head)
 replace u:=u.drop .head
 refine ls<|s_blk o u sizeOf42 rfl rfl rfl rfl (.tail .head) .zero fun w u=>re<|bn<|tn<|?_
 replace u:=u.pk [0,0] rfl
 exact ⟨l88,oa90,cap91,vs92,hm,o.hs,u,hv93⟩
 replace hm:=itp_f hm hb84
 refine tn<|cfv o rfl hb84<|wk<|bn<|tn<|?_
 replace u:=u.pk [0,0] rfl
 exact ⟨vA1,oaA2,capA3,vsA4,hm,o.hs,u,hvA5⟩
 rintro a w ⟨vB1,oaB2,capB3,vsB4,hm,o,u,hvB5⟩
 unfold Zb at hm
 refine rg<|qm o rfl fun a o=>qa o rfl fun a o=>re<|bn<|tn<|?_
 exact ⟨(nn1,vB1,(IntKind.i64.wrap ((IntKind.i64.wrap ((IntKind.i64.wrap (vA7+1))+x19.Body))+x19.Else))),⟨oaB2,capB3,vsB4,hm,o.hs,u,hvB5⟩,Nat.lt_succ_self _⟩
 replace hm:=ite_f hm hb18
 refine tn<|cfv o rfl hb18<|we<|tx<|tx<|bx<|?_
 obtain rfl:=si hm
 exact r0n o results72 ⟨oaA2,capA3,vsA4,rfl,(fun _=>Rows.ind hvA5),(u.pickL (.cons (.tail .head) (.cons .head .nil))).endMut⟩
theorem Z9_c (hH:H.le w0) (hT:Tab H) {oa2:Option Addr} {cap3:Nat} {p1:(List api_Stmt)} (hc4:p1.length≤cap3) (hr5:SR H oa2 p1) {p6:Int} {r:(List Int)} (hm:Z9 N p1 p6=some r):Tot Tryz.prog 36 #[.slice oa2 p1.length cap3,i6 p6] w0 (fun v w'=>∃ (oa0:Option Addr) (cap0:Nat) (vs0:List Value),v=.slice oa0 r.length cap0∧(∀ h,Rows h vs0 r)∧Fresh w0 (sla 3 1 oa0 r.length cap0 vs0) w'):=by
 unfold Z9 at hm
 refine fn0 func36 rfl ntmps36 rfl rfl fun a o=>?_
 have u:St w0 Nil [H] [] w0:=start1 hH
 refine th<|rg<|ls<|a_box (cs:=[i6 p6].toArray) o rfl u rfl rfl fun b7 w a u o=>qa o rfl fun a o=>re<|tn<|th<|th<|?_
 obtain ⟨rz8,h9,hm⟩:=bs hm
 refine rg<|qm o rfl fun a o=>ls<|cq o call69 (Z8t_c (hp_le _) (Tab.mono hT (St.up u)) hc4 (St.srH u hr5) h9) ⟨rfl,trivial⟩ u fun w a u o=>qv o (e_not o rfl) fun a o=>re<|?_
 rcases bdich rz8 with hb10 | hb10
 replace hm:=ite_t hm hb10
 refine tn<|cfv o rfl (by rw [hb10];rfl)<|wk<|tn<|th<|rg<|ls<|a_alloc (cs:=[.slice none 0 0].toArray) o rfl u Tryz.zeroValue42 rfl fun b11 w a u o=>re<|tn<|th<|rg<|ls<|a_alloc (cs:=[.nilFunc].toArray) o rfl u Tryz.zeroValue65 rfl fun b12 w a u o=>re<|tn<|th<|rg<|qv o (e_mkf (vs:=[.pointer (some ⟨b11,0,none⟩),.pointer (some ⟨b7,0,none⟩),.pointer (some ⟨b12,0,none⟩)]) o ⟨rfl,rfl,rfl,trivial⟩) fun a o=>ls<|s_blk o u sizeOf65 rfl rfl rfl rfl .head .zero fun w u=>re<|tn<|th<|?_
 obtain ⟨H15,hx13,hb14,u⟩:=St.frzB u (.tail (.tail .head))
 obtain ⟨H18,hx16,hb17,u⟩:=St.frzB u .head
 obtain ⟨r20,h21,hm⟩:=bs hm
 refine rg<|qv o (e_ld o Tryz.isAgg65 rfl (PH.le.cell (Lds.le (St.ld u)) (ph_cell hb17 rfl))) fun a o=>qm o rfl fun a o=>?_
 replace u:=St.nilS u 3 1
 replace u:=u.pk [1,0] rfl
 replace u:=St.sep [blk b11 (.cells [.slice none 0 0].toArray 42 (0,0)),sla 3 1 none 0 0 []] u
 refine ls<|k1 (vs:=[.slice oa2 p1.length cap3]) (caps:=[.pointer (some ⟨b11,0,none⟩),.pointer (some ⟨b7,0,none⟩),.pointer (some ⟨b12,0,none⟩)]) o rfl rfl call72 (Za_c _ (St.le u) (p6:=[]) (b7:=b11) (oa8:=none) (cap9:=0) (vs10:=[]) hc4 (hr5.mono (cp hx16.sub hx13.sub)) .nil (hx16.sub _ _ hb14) hb17 (St.sepOk u) (St.sepDis u) h21) ⟨rfl,trivial⟩ rfl (fun v w a hR o=>?_)
 obtain ⟨oa22,cap23,vs24,rfl,hv25,hk⟩:=hR
 replace u:=(u.mut hk .head).unsep
 replace hv25:=hv25 H18
 refine re<|tn<|th<|rg<|qv o (e_ld o Tryz.isAgg42 rfl ((St.ld u).cellB t0 rfl)) fun a o=>qa o rfl fun a o=>re<|tn<|wr<|?_
 obtain rfl:=si hm
 exact r1 o results36 rfl ⟨_,_,_,rfl,(fun _=>Rows.ind hv25),u.endFresh t1⟩
 replace hm:=ite_f hm hb10
 refine tn<|ctv o rfl (by rw [hb10];rfl)<|th<|rg<|qa o rfl fun a o=>re<|tn<|wr<|tr<|?_
 replace u:=St.nilS u 3 1
 obtain rfl:=si hm
 exact r1 o results36 rfl ⟨_,_,_,rfl,(fun _=>.nil),u.endFresh t0⟩
theorem Z1_c (hH:H.le w0) (hT:Tab H) {cs2:List Value} {p1:api_Prog} (g3:Enc.rep H cs2 p1) {p4:Int} {r:Int} (hm:Z1 N p1 p4=some r):Tot Tryz.prog 38 #[.agg cs2.toArray,i6 p4] w0 (fun v w'=>v=i6 r∧Keep Nil w0 w'):=by
 unfold Z1 at hm
 refine fn0 func38 rfl ntmps38 rfl rfl fun a o=>?_
 have u:St w0 Nil [H] [] w0:=start1 hH
 obtain ⟨oa5,cap6,oa9,cap10,oa13,cap14,oa17,cap18,oa21,cap22,oa25,cap26,rfl,hc7,hr8,hc11,hr12,hc15,hr16,hc19,hr20,hc23,hr24,hc27,hr28⟩:=api_Prog_open g3
 refine th<|rg<|ls<|a_box (cs:=[.slice oa5 p1.Lines.length cap6,.slice oa9 p1.Vols.length cap10,.slice oa13 p1.Locks.length cap14,.slice oa17 p1.Threads.length cap18,.slice oa21 p1.Recover.length cap22,.slice oa25 p1.Claims.length cap26].toArray) o rfl u rfl rfl fun b29 w a u o=>qa o rfl fun a o=>re<|tn<|th<|th<|?_
 obtain ⟨r30,h31,hm⟩:=bs hm
 refine rg<|qv o (e_ldA o Tryz.isAgg27 Tryz.sizeOf27 rfl rfl ((St.ld u).cellsB t0)) fun a o=>ls<|cq o call16 (Z5b_c (hp_le _) (Tab.mono hT (St.up u)) (Enc.mono (St.up u) (show Enc.rep (α:=api_Prog) H [.slice oa5 p1.Lines.length cap6,.slice oa9 p1.Vols.length cap10,.slice oa13 p1.Locks.length cap14,.slice oa17 p1.Threads.length cap18,.slice oa21 p1.Recover.length cap22,.slice oa25 p1.Claims.length cap26] p1 from ⟨_,_,rfl,⟨_,_,rfl,hc7,hr8⟩,⟨_,_,rfl,⟨_,_,rfl,hc11,hr12⟩,⟨_,_,rfl,⟨_,_,rfl,hc15,hr16⟩,⟨_,_,rfl,⟨_,_,rfl,hc19,hr20⟩,⟨_,_,rfl,⟨_,_,rfl,hc23,hr24⟩,⟨_,_,rfl,hc27,hr28⟩⟩⟩⟩⟩⟩)) h31) ⟨rfl,trivial⟩ u fun w a u o=>qm o rfl fun a o=>?_
 iterate 2 refine qv o (e_ext o rfl rfl) fun a o=>?_
 iterate 2 refine qa o rfl fun a o=>?_
 refine re<|tn<|th<|rg<|qm o rfl fun a o=>qv o (e_neq o rfl rfl) fun a o=>qm o rfl fun a o=>grp (N:=60) (Fk:=[(1,i6 p4),(2,.pointer (some ⟨b29,0,none⟩)),(22,.bool ((decide (r30.1≠0)) || (decide (p4 < 0))))]) (b:=(decide (r30.1≠0))) 3 u ?_ ?_ ?_
 intro hb key
 replace o:=Fr.as o (t:=19) rfl (congrArg Value.bool hb)
 iterate 2 refine qn o fun a o=>?_
 refine qv o (e_as (v':=.bool ((decide (r30.1≠0)) || (decide (p4 < 0)))) (e_pickT o rfl rfl) (by rw [hb];rfl)) fun a o=>?_
 exact key _ _ (o.hs) u
 intro hb key
 replace o:=Fr.as o (t:=19) rfl (congrArg Value.bool hb)
 refine qg o (e_move o rfl) fun a o=>qg o (e_lss o rfl rfl) fun a o=>qv o (e_as (v':=.bool ((decide (r30.1≠0)) || (decide (p4 < 0)))) (e_pickF o rfl rfl) (by rw [hb];rfl)) fun a o=>?_
 exact key _ _ (o.hs) u
 intro a w o u
 refine qm o rfl fun a o=>grp (N:=60) (Fk:=[(1,i6 p4),(2,.pointer (some ⟨b29,0,none⟩)),(26,.bool (((decide (r30.1≠0)) || (decide (p4 < 0))) || (decide (8 < p4))))]) (b:=((decide (r30.1≠0)) || (decide (p4 < 0)))) 3 u ?_ ?_ ?_
 intro hb key
 replace o:=Fr.as o (t:=23) rfl (congrArg Value.bool hb)
 iterate 2 refine qn o fun a o=>?_
 refine qv o (e_as (v':=.bool (((decide (r30.1≠0)) || (decide (p4 < 0))) || (decide (8 < p4)))) (e_pickT o rfl rfl) (by rw [hb];rfl)) fun a o=>?_
 exact key _ _ (o.hs) u
 intro hb key
 replace o:=Fr.as o (t:=23) rfl (congrArg Value.bool hb)
 refine qg o (e_move o rfl) fun a o=>qg o (e_gtr o rfl rfl) fun a o=>qv o (e_as (v':=.bool (((decide (r30.1≠0)) || (decide (p4 < 0))) || (decide (8 < p4)))) (e_pickF o rfl rfl) (by rw [hb];rfl)) fun a o=>?_
 exact key _ _ (o.hs) u
 intro a w o u
 refine re<|?_
 rcases bdich (((decide (r30.1≠0)) || (decide (p4 < 0))) || (decide (8 < p4))) with hb32 | hb32
 replace hm:=ite_t hm hb32
 refine tn<|ctv o rfl hb32<|th<|rg<|qa o rfl fun a o=>re<|tn<|wr<|tr<|?_
 obtain rfl:=si hm
 exact r1 o results38 rfl ⟨rfl,u.keep⟩
 replace hm:=ite_f hm hb32
 refine tn<|cfv o rfl hb32<|wk<|tn<|th<|rg<|qa o rfl fun a o=>re<|tn<|th<|th<|rg<|qv o (e_fa o fa27_3 rfl) fun a o=>qv o (e_ld o isAgg24 rfl ((St.ld u).cellB t0 rfl)) fun a o=>qv o (e_lenL (α:=api_Thread) (xs:=p1.Threads) o runUnderlying24 rfl) fun a o=>qm o rfl fun a o=>re<|tn<|midK (fun a w=>∃ (vA1:Int),(Z2 N p1 p4) vA1=some r∧Fr 60 [(1,i6 p4),(2,.pointer (some ⟨b29,0,none⟩)),(7,i6 vA1)] a∧St w0 Nil [H] [blk b29 (.cells [.slice oa5 p1.Lines.length cap6,.slice oa9 p1.Vols.length cap10,.slice oa13 p1.Locks.length cap14,.slice oa17 p1.Threads.length cap18,.slice oa21 p1.Recover.length cap22,.slice oa25 p1.Claims.length cap26].toArray 27 (0,0))] w) ?_ ?_
 refine wb<|lp (α:=Nat×Int×Int) (fun gh a w=>match gh with | (nn2,vB1,vB2)=>(Z5 N (Z2 N p1 p4) p1) nn2 vB1 vB2=some r∧Fr 60 [(1,i6 p4),(2,.pointer (some ⟨b29,0,none⟩)),(7,i6 vB1),(28,.slice oa17 p1.Threads.length cap18),(29,i6 (p1.Threads.length:Int)),(30,i6 vB2)] a∧St w0 Nil [H] [blk b29 (.cells [.slice oa5 p1.Lines.length cap6,.slice oa9 p1.Vols.length cap10,.slice oa13 p1.Locks.length cap14,.slice oa17 p1.Threads.length cap18,.slice oa21 p1.Recover.length cap22,.slice oa25 p1.Claims.length cap26].toArray 27 (0,0))] w) (fun gh=>gh.1) (N,1,0) ⟨hm,o.hs,u⟩ ?_
 rintro ⟨nn2,vB1,vB2⟩ a w ⟨hm,o,u⟩
 obtain _ | nn2:=nn2
 simp [Z5] at hm
 rw [Z5] at hm
 refine th<|rg<|qv o (e_lss o rfl rfl) fun a o=>re<|?_
 rcases bdich (decide (vB2 < (p1.Threads.length:Int))) with hb33 | hb33
 replace hm:=itp_t hm hb33
 refine tn<|th<|ctv o rfl hb33<|wk<|tn<|th<|wb<|th<|?_
 obtain ⟨x34,h35,hm⟩:=bs hm
 obtain ⟨c36,g37,hl38⟩:=SR.get hr20 h35
 obtain ⟨oa39,cap40,oa43,cap44,rfl,hc41,hr42,hc45,hr46⟩:=api_Thread_open g37
 refine rg<|qv o (e_iaI o Tryz.runUnderlying24 Tryz.sizeOf48 rfl rfl h35 (SR.oaI hr20 (by decide) h35)) fun a o=>qv o (e_ldA o isAgg48 sizeOf48 rfl rfl (fun j v hj=>PH.le.cell (Lds.le (St.ld u)) (hl38 j v hj))) fun a o=>ls<|a_alloc (cs:=[strv [],.slice none 0 0,.slice none 0 0,i6 0].toArray) o rfl u zeroValue48 rfl fun b47 w a u o=>ls<|s_blkA o u sizeOf48 rfl rfl rfl rfl (one_cells rfl) .head fun w u=>re<|tn<|?_
 obtain ⟨r48,h49,hm⟩:=bs hm
 refine rg<|qm o rfl fun a o=>qv o (e_fa o fa48_2 rfl) fun a o=>qv o (e_ld o isAgg46 rfl ((St.ld u).cellB t0 rfl)) fun a o=>ls<|cq o call70 (Zh_c _ (hp_le _) hc45 (St.srH u hr46) h49) ⟨rfl,trivial⟩ u fun w a u o=>qv o (e_add o rfl rfl) fun a o=>qa o rfl fun a o=>re<|bn<|tn<|rg<|qv o (e_add o rfl rfl) fun a o=>qm o rfl fun a o=>re<|tn<|?_
 replace u:=u.pk [1] rfl
 exact ⟨(nn2,(IntKind.i64.wrap (vB1+r48)),(IntKind.i64.wrap (vB2+1))),⟨hm,o.hs,u⟩,Nat.lt_succ_self _⟩
 replace hm:=itp_f hm hb33
 refine tn<|th<|cfv o rfl hb33<|we<|tx<|tx<|bx<|tn<|?_
 exact ⟨vB1,hm,o.hs,u⟩
 rintro a w ⟨vA1,hm,o,u⟩
 unfold Z2 at hm
 refine th<|th<|rg<|qm o rfl fun a o=>qm o rfl fun a o=>re<|tn<|midK (fun a w=>∃ (vA2:Int),Z3 vA2=some r∧Fr 60 [(7,i6 vA2)] a∧St w0 Nil [H] [] w) ?_ ?_
 refine wb<|lp (α:=Nat×Int×Int) (fun gh a w=>match gh with | (nn4,vB3,vB4)=>(Z6 N Z3 p1 p4) nn4 vB3 vB4=some r∧Fr 60 [(2,.pointer (some ⟨b29,0,none⟩)),(7,i6 vB3),(40,i6 p4),(41,i6 vB4)] a∧St w0 Nil [H] [blk b29 (.cells [.slice oa5 p1.Lines.length cap6,.slice oa9 p1.Vols.length cap10,.slice oa13 p1.Locks.length cap14,.slice oa17 p1.Threads.length cap18,.slice oa21 p1.Recover.length cap22,.slice oa25 p1.Claims.length cap26].toArray 27 (0,0))] w) (fun gh=>gh.1) (N,vA1,0) ⟨hm,o.hs,u⟩ ?_
 rintro ⟨nn4,vB3,vB4⟩ a w ⟨hm,o,u⟩
 obtain _ | nn4:=nn4
 simp [Z6] at hm
 rw [Z6] at hm
 refine th<|rg<|qv o (e_lss o rfl rfl) fun a o=>re<|?_
 rcases bdich (decide (vB4 < p4)) with hb50 | hb50
 replace hm:=itp_t hm hb50
 refine tn<|th<|ctv o rfl hb50<|wk<|tn<|th<|midK (fun a w=>∃ (vC1:Int),(Z4 (Z6 N Z3 p1 p4 nn4) vB4) vC1=some r∧Fr 60 [(2,.pointer (some ⟨b29,0,none⟩)),(7,i6 vC1),(40,i6 p4),(41,i6 vB4)] a∧St w0 Nil [H] [blk b29 (.cells [.slice oa5 p1.Lines.length cap6,.slice oa9 p1.Vols.length cap10,.slice oa13 p1.Locks.length cap14,.slice oa17 p1.Threads.length cap18,.slice oa21 p1.Recover.length cap22,.slice oa25 p1.Claims.length cap26].toArray 27 (0,0))] w) ?_ ?_
 refine wb<|th<|rg<|qm o rfl fun a o=>qv o (e_add o rfl rfl) fun a o=>qa o rfl fun a o=>re<|tn<|th<|rg<|qv o (e_fa o fa27_4 rfl) fun a o=>qv o (e_ld o isAgg24 rfl ((St.ld u).cellB t0 rfl)) fun a o=>qv o (e_lenL (α:=api_Thread) (xs:=p1.Recover) o runUnderlying24 rfl) fun a o=>qm o rfl fun a o=>re<|tn<|wb<|lp (α:=Nat×Int×Int) (fun gh a w=>match gh with | (nn6,vD1,vD2)=>(Z7 N (Z4 (Z6 N Z3 p1 p4 nn4) vB4) p1) nn6 vD1 vD2=some r∧Fr 60 [(2,.pointer (some ⟨b29,0,none⟩)),(7,i6 vD1),(40,i6 p4),(41,i6 vB4),(46,.slice oa21 p1.Recover.length cap22),(47,i6 (p1.Recover.length:Int)),(48,i6 vD2)] a∧St w0 Nil [H] [blk b29 (.cells [.slice oa5 p1.Lines.length cap6,.slice oa9 p1.Vols.length cap10,.slice oa13 p1.Locks.length cap14,.slice oa17 p1.Threads.length cap18,.slice oa21 p1.Recover.length cap22,.slice oa25 p1.Claims.length cap26].toArray 27 (0,0))] w) (fun gh=>gh.1) (N,(IntKind.i64.wrap (vB3+1)),0) ⟨hm,o.hs,u⟩ ?_
 rintro ⟨nn6,vD1,vD2⟩ a w ⟨hm,o,u⟩
 obtain _ | nn6:=nn6
 simp [Z7] at hm
 rw [Z7] at hm
 refine th<|rg<|qv o (e_lss o rfl rfl) fun a o=>re<|?_
 rcases bdich (decide (vD2 < (p1.Recover.length:Int))) with hb51 | hb51
 replace hm:=itp_t hm hb51
 refine tn<|th<|ctv o rfl hb51<|wk<|tn<|th<|wb<|th<|?_
 obtain ⟨x52,h53,hm⟩:=bs hm
 obtain ⟨c54,g55,hl56⟩:=SR.get hr24 h53
 obtain ⟨oa57,cap58,oa61,cap62,rfl,hc59,hr60,hc63,hr64⟩:=api_Thread_open g55
 refine rg<|qv o (e_iaI o Tryz.runUnderlying24 Tryz.sizeOf48 rfl rfl h53 (SR.oaI hr24 (by decide) h53)) fun a o=>qv o (e_ldA o isAgg48 sizeOf48 rfl rfl (fun j v hj=>PH.le.cell (Lds.le (St.ld u)) (hl56 j v hj))) fun a o=>ls<|a_alloc (cs:=[strv [],.slice none 0 0,.slice none 0 0,i6 0].toArray) o rfl u zeroValue48 rfl fun b65 w a u o=>ls<|s_blkA o u sizeOf48 rfl rfl rfl rfl (one_cells rfl) .head fun w u=>re<|tn<|?_
 obtain ⟨r66,h67,hm⟩:=bs hm
 refine rg<|qm o rfl fun a o=>qv o (e_fa o fa48_2 rfl) fun a o=>qv o (e_ld o isAgg46 rfl ((St.ld u).cellB t0 rfl)) fun a o=>ls<|cq o call70 (Zh_c _ (hp_le _) hc63 (St.srH u hr64) h67) ⟨rfl,trivial⟩ u fun w a u o=>qv o (e_add o rfl rfl) fun a o=>qa o rfl fun a o=>re<|bn<|tn<|rg<|qv o (e_add o rfl rfl) fun a o=>qm o rfl fun a o=>re<|tn<|?_
 replace u:=u.pk [1] rfl
 exact ⟨(nn6,(IntKind.i64.wrap (vD1+r66)),(IntKind.i64.wrap (vD2+1))),⟨hm,o.hs,u⟩,Nat.lt_succ_self _⟩
 replace hm:=itp_f hm hb51
 refine tn<|th<|cfv o rfl hb51<|we<|tx<|tx<|bx<|bn<|tn<|?_
 exact ⟨vD1,hm,o.hs,u⟩
 rintro a w ⟨vC1,hm,o,u⟩
 unfold Z4 at hm
 refine rg<|qv o (e_add o rfl rfl) fun a o=>qm o rfl fun a o=>re<|tn<|?_
 exact ⟨(nn4,vC1,(IntKind.i64.wrap (vB4+1))),⟨hm,o.hs,u⟩,Nat.lt_succ_self _⟩
 replace hm:=itp_f hm hb50
 refine tn<|th<|cfv o rfl hb50<|we<|tx<|tx<|bx<|tn<|?_
 replace u:=u.pickL .nil
 exact ⟨vB3,hm,o.has ⟨rfl,trivial⟩,u⟩
 rintro a w ⟨vA2,hm,o,u⟩
 unfold Z3 at hm
 refine th<|rg<|qm o rfl fun a o=>qa o rfl fun a o=>re<|tn<|wr<|?_
 obtain rfl:=si hm
 exact r1 o results38 rfl ⟨rfl,u.keep⟩
theorem Z1a_c (hH:H.le w0) (hT:Tab H)  {r:Bool} (hm:Z1a N  = some r):Tot Tryz.prog 42 #[] w0 (fun v w'=>v=.bool r∧Keep Nil w0 w'):=by
 unfold Z1a at hm
 refine fn0 func42 rfl ntmps42 rfl rfl fun a o=>?_
 have u:St w0 Nil [H] [] w0:=start1 hH
 refine th<|rg<|qa o rfl fun a o=>re<|tn<|th<|?_
 obtain ⟨rz1,h2,hm⟩:=bs hm
 refine rg<|ls<|c1 o rfl Tryz.call64 (Z4v_c (St.le u) h2) ⟨rfl,trivial⟩ (fun v w a hR o=>?_)
 obtain ⟨H6,cs7,rfl,g8,hx3,hl4,hk⟩:=hR
 obtain ⟨u,hx3⟩:=And.intro (St.passH u hk hx3 hl4) (St.extc u hx3)
 obtain ⟨oa9,cap10,oa13,cap14,oa17,cap18,oa21,cap22,oa25,cap26,oa29,cap30,rfl,hc11,hr12,hc15,hr16,hc19,hr20,hc23,hr24,hc27,hr28,hc31,hr32⟩:=api_Prog_open g8
 refine qm o rfl fun a o=>?_
 iterate 3 refine qv o (e_ext o rfl rfl) fun a o=>?_
 refine ls<|a_alloc (cs:=[.slice none 0 0,.slice none 0 0,.slice none 0 0,.slice none 0 0,.slice none 0 0,.slice none 0 0].toArray) o rfl u zeroValue27 rfl fun b33 w a u o=>ls<|s_blkA o u sizeOf27 rfl rfl rfl rfl (one_cells rfl) .head fun w u=>?_
 iterate 2 refine qa o rfl fun a o=>?_
 refine re<|tn<|th<|th<|rg<|qv o (e_fa o fa27_3 rfl) fun a o=>qv o (e_ld o isAgg24 rfl ((St.ld u).cellB t0 rfl)) fun a o=>qv o (e_lenL (α:=api_Thread) (xs:=rz1.1.Threads) o runUnderlying24 rfl) fun a o=>qv o (e_neq o rfl rfl) fun a o=>re<|?_
 obtain ⟨_,hb34,hm⟩:=bs hm
 replace hb34:=bnt (sure_some hb34)
 refine tn<|cfv o rfl hb34<|wk<|tn<|th<|?_
 obtain ⟨x35,h36,hm⟩:=bs hm
 obtain ⟨c37,g38,hl39⟩:=SR.get hr24 h36
 obtain ⟨oa40,cap41,oa44,cap45,rfl,hc42,hr43,hc46,hr47⟩:=api_Thread_open g38
 refine rg<|qv o (e_fa o fa27_3 rfl) fun a o=>qv o (e_ld o isAgg24 rfl ((St.ld u).cellB t0 rfl)) fun a o=>qv o (e_iaI o runUnderlying24 sizeOf48 rfl rfl h36 (SR.oaI hr24 (by decide) h36)) fun a o=>qv o (e_fa o fa48_2 rfl) fun a o=>qv o (e_ld o isAgg46 rfl (PH.le.cell (Lds.le (St.ld u)) (hl39 2 _ rfl))) fun a o=>qa o rfl fun a o=>re<|tn<|th<|?_
 obtain ⟨r48,h49,hm⟩:=bs hm
 refine rg<|qm o rfl fun a o=>ls<|c1 o rfl call36 (Z9_c (hp_le _) (Tab.mono (Tab.mono hT hx3.sub) (St.up u)) hc46 (St.srH u hr47) h49) ⟨rfl,rfl,trivial⟩ (fun v w a hR o=>?_)
 obtain ⟨oa50,cap51,vs52,rfl,hv53,hk⟩:=hR
 replace u:=u.fresh hk
 replace hv53:=hv53 H6
 refine qa o rfl fun a o=>re<|tn<|th<|?_
 obtain ⟨r55,h56,hm⟩:=bs hm
 obtain ⟨_,hb57,hm⟩:=bs hm
 replace hb57:=sure_some hb57
 obtain ⟨r58,h59,hm⟩:=bs hm
 obtain ⟨_,hb60,hm⟩:=bs hm
 replace hb60:=sure_some hb60
 obtain ⟨r61,h62,hm⟩:=bs hm
 obtain ⟨_,hb63,hm⟩:=bs hm
 replace hb63:=sure_some hb63
 obtain ⟨r64,h65,hm⟩:=bs hm
 obtain ⟨_,hb66,hm⟩:=bs hm
 replace hb66:=sure_some hb66
 obtain ⟨r67,h68,hm⟩:=bs hm
 obtain ⟨_,hb69,hm⟩:=bs hm
 replace hb69:=sure_some hb69
 obtain ⟨r73,h74,hm⟩:=bs hm
 obtain ⟨_,hb75,hm⟩:=bs hm
 replace hb75:=sure_some hb75
 obtain ⟨r76,h77,hm⟩:=bs hm
 obtain ⟨_,hb78,hm⟩:=bs hm
 replace hb78:=sure_some hb78
 obtain ⟨r79,h80,hm⟩:=bs hm
 obtain ⟨_,hb81,hm⟩:=bs hm
 replace hb81:=sure_some hb81
 obtain ⟨r82,h83,hm⟩:=bs hm
 obtain ⟨_,hb84,hm⟩:=bs hm
 replace hb84:=sure_some hb84
 obtain ⟨r85,h86,hm⟩:=bs hm
 obtain ⟨_,hb87,hm⟩:=bs hm
 replace hb87:=sure_some hb87
 obtain ⟨l88,h89,hm⟩:=bs hm
 obtain ⟨oa90,cap91,e92,e93,hc94,hr95⟩:=SR.sub (sz:=9) hr47 hc46 rfl h89
 obtain ⟨r96,h97,hm⟩:=bs hm
 obtain ⟨_,hb98,hm⟩:=bs hm
 replace hb98:=sure_some hb98
 obtain ⟨l99,h100,hm⟩:=bs hm
 obtain ⟨oa101,cap102,e103,e104,hc105,hr106⟩:=SR.sub (sz:=9) hr47 hc46 rfl h100
 obtain ⟨r107,h108,hm⟩:=bs hm
 obtain ⟨_,hb109,hm⟩:=bs hm
 replace hb109:=sure_some hb109
 obtain ⟨r110,h111,hm⟩:=bs hm
 refine rg<|qm o rfl fun a o=>ls<|cq o call34 (Z8_c (hp_le _) (Tab.mono (Tab.mono hT hx3.sub) (St.up u)) hc46 (St.srH u hr47) h56) ⟨rfl,trivial⟩ u fun w a u o=>qv o (e_eql o rfl rfl) fun a o=>qv o (e_as (e_move o rfl) (congrArg Value.bool hb57)) fun a o=>qg o (e_ldA o isAgg27 sizeOf27 rfl rfl ((St.ld u).cellsB t1)) fun a o=>ls<|gy o rfl rfl<|cq o call38 (Z1_c (hp_le _) (Tab.mono (Tab.mono hT hx3.sub) (St.up u)) (Enc.mono (St.up u) (show Enc.rep (α:=api_Prog) H6 [.slice oa9 rz1.1.Lines.length cap10,.slice oa13 rz1.1.Vols.length cap14,.slice oa17 rz1.1.Locks.length cap18,.slice oa21 rz1.1.Threads.length cap22,.slice oa25 rz1.1.Recover.length cap26,.slice oa29 rz1.1.Claims.length cap30] rz1.1 from ⟨_,_,rfl,⟨_,_,rfl,hc11,hr12⟩,⟨_,_,rfl,⟨_,_,rfl,hc15,hr16⟩,⟨_,_,rfl,⟨_,_,rfl,hc19,hr20⟩,⟨_,_,rfl,⟨_,_,rfl,hc23,hr24⟩,⟨_,_,rfl,⟨_,_,rfl,hc27,hr28⟩,⟨_,_,rfl,hc31,hr32⟩⟩⟩⟩⟩⟩)) h59) ⟨rfl,rfl,trivial⟩ u fun w a u o=>qg o (e_eql o rfl rfl) fun a o=>qv o (e_pickT o rfl rfl) fun a o=>qv o (e_as (e_move o rfl) (congrArg Value.bool hb60)) fun a o=>qg o (e_ldA o isAgg27 sizeOf27 rfl rfl ((St.ld u).cellsB t1)) fun a o=>ls<|gy o rfl rfl<|cq o call38 (Z1_c (hp_le _) (Tab.mono (Tab.mono hT hx3.sub) (St.up u)) (Enc.mono (St.up u) (show Enc.rep (α:=api_Prog) H6 [.slice oa9 rz1.1.Lines.length cap10,.slice oa13 rz1.1.Vols.length cap14,.slice oa17 rz1.1.Locks.length cap18,.slice oa21 rz1.1.Threads.length cap22,.slice oa25 rz1.1.Recover.length cap26,.slice oa29 rz1.1.Claims.length cap30] rz1.1 from ⟨_,_,rfl,⟨_,_,rfl,hc11,hr12⟩,⟨_,_,rfl,⟨_,_,rfl,hc15,hr16⟩,⟨_,_,rfl,⟨_,_,rfl,hc19,hr20⟩,⟨_,_,rfl,⟨_,_,rfl,hc23,hr24⟩,⟨_,_,rfl,⟨_,_,rfl,hc27,hr28⟩,⟨_,_,rfl,hc31,hr32⟩⟩⟩⟩⟩⟩)) h62) ⟨rfl,rfl,trivial⟩ u fun w a u o=>qg o (e_eql o rfl rfl) fun a o=>qv o (e_pickT o rfl rfl) fun a o=>qv o (e_as (e_move o rfl) (congrArg Value.bool hb63)) fun a o=>qg o (e_ldA o isAgg27 sizeOf27 rfl rfl ((St.ld u).cellsB t1)) fun a o=>ls<|gy o rfl rfl<|cq o call38 (Z1_c (hp_le _) (Tab.mono (Tab.mono hT hx3.sub) (St.up u)) (Enc.mono (St.up u) (show Enc.rep (α:=api_Prog) H6 [.slice oa9 rz1.1.Lines.length cap10,.slice oa13 rz1.1.Vols.length cap14,.slice oa17 rz1.1.Locks.length cap18,.slice oa21 rz1.1.Threads.length cap22,.slice oa25 rz1.1.Recover.length cap26,.slice oa29 rz1.1.Claims.length cap30] rz1.1 from ⟨_,_,rfl,⟨_,_,rfl,hc11,hr12⟩,⟨_,_,rfl,⟨_,_,rfl,hc15,hr16⟩,⟨_,_,rfl,⟨_,_,rfl,hc19,hr20⟩,⟨_,_,rfl,⟨_,_,rfl,hc23,hr24⟩,⟨_,_,rfl,⟨_,_,rfl,hc27,hr28⟩,⟨_,_,rfl,hc31,hr32⟩⟩⟩⟩⟩⟩)) h65) ⟨rfl,rfl,trivial⟩ u fun w a u o=>qg o (e_eql o rfl rfl) fun a o=>qv o (e_pickT o rfl rfl) fun a o=>qv o (e_as (e_move o rfl) (congrArg Value.bool hb66)) fun a o=>qg o (e_bldK [] [.slice none 0 0,.slice none 0 0,.slice none 0 0,.slice none 0 0,.slice none 0 0,.slice none 0 0] o trivial (fun w=>by kernel_rfl)) fun a o=>ls<|gy o rfl rfl<|cq o call38 (Z1_c (hp_le _) (Tab.mono (Tab.mono hT hx3.sub) (St.up u)) (Enc.mono (St.up u) (show Enc.rep (α:=api_Prog) H6 [.slice none 0 0,.slice none 0 0,.slice none 0 0,.slice none 0 0,.slice none 0 0,.slice none 0 0] (api_Prog.mk [] [] [] [] [] []) from ⟨_,_,rfl,⟨none,0,rfl,Nat.le_refl _,SR.nil _ _⟩,⟨_,_,rfl,⟨none,0,rfl,Nat.le_refl _,SR.nil _ _⟩,⟨_,_,rfl,⟨none,0,rfl,Nat.le_refl _,SR.nil _ _⟩,⟨_,_,rfl,⟨none,0,rfl,Nat.le_refl _,SR.nil _ _⟩,⟨_,_,rfl,⟨none,0,rfl,Nat.le_refl _,SR.nil _ _⟩,⟨none,0,rfl,Nat.le_refl _,SR.nil _ _⟩⟩⟩⟩⟩⟩)) h68) ⟨rfl,rfl,trivial⟩ u fun w a u o=>qg o (e_eql o rfl rfl) fun a o=>qv o (e_pickT o rfl rfl) fun a o=>qv o (e_as (e_move o rfl) (congrArg Value.bool hb69)) fun a o=>qg o (e_move o rfl) fun a o=>ls<|gy o rfl rfl<|a_bsl (e:=3) (sz:=1) [i6 3,i6 3,i6 3,i6 8,i6 5] o rfl u rfl rfl rfl (fun w=>by kernel_rfl) fun b71 w a u o=>?_
 have hv70:Rows (α:=Int) H6 [i6 3,i6 3,i6 3,i6 8,i6 5] ([3,3,3,8,5]:List Int):=(.cons (c:=[i6 3]) rfl (.cons (c:=[i6 3]) rfl (.cons (c:=[i6 3]) rfl (.cons (c:=[i6 8]) rfl (.cons (c:=[i6 5]) rfl .nil)))))
 refine ls<|gy o rfl rfl<|cq o call29 (Z58_c (hp_le _) (St.capO u t1) (St.srO u t1 hv53) (St.capO u t0) (St.srO u t0 hv70) h74) ⟨rfl,rfl,trivial⟩ u fun w a u o=>qv o (e_pickT o rfl rfl) fun a o=>qv o (e_as (e_move o rfl) (congrArg Value.bool hb75)) fun a o=>ls<|gy o rfl rfl<|cq o call40 (Z0_c (hp_le _) h77) ⟨rfl,trivial⟩ u fun w a u o=>qg o (e_eql o rfl rfl) fun a o=>qv o (e_pickT o rfl rfl) fun a o=>qv o (e_as (e_move o rfl) (congrArg Value.bool hb78)) fun a o=>ls<|gy o rfl rfl<|cq o call40 (Z0_c (hp_le _) h80) ⟨rfl,trivial⟩ u fun w a u o=>qg o (e_eql o rfl rfl) fun a o=>qv o (e_pickT o rfl rfl) fun a o=>qv o (e_as (e_move o rfl) (congrArg Value.bool hb81)) fun a o=>ls<|gy o rfl rfl<|cq o call40 (Z0_c (hp_le _) h83) ⟨rfl,trivial⟩ u fun w a u o=>qg o (e_eql o rfl rfl) fun a o=>qv o (e_pickT o rfl rfl) fun a o=>qv o (e_as (e_move o rfl) (congrArg Value.bool hb84)) fun a o=>ls<|gy o rfl rfl<|cq o call40 (Z0_c (hp_le _) h86) ⟨rfl,trivial⟩ u fun w a u o=>qg o (e_eql o rfl rfl) fun a o=>qv o (e_pickT o rfl rfl) fun a o=>qv o (e_as (e_move o rfl) (congrArg Value.bool hb87)) fun a o=>qg o (e_move o rfl) fun a o=>qg o (e_subL (xs:=x35.Body) (vl:=1) (vh:=2) o runUnderlying46 sizeOf51 rfl hc46 rfl rfl h89 e92 e93) fun a o=>ls<|gy o rfl rfl<|cq o call34 (Z8_c (hp_le _) (Tab.mono (Tab.mono hT hx3.sub) (St.up u)) hc94 (St.srH u hr95) h97) ⟨rfl,trivial⟩ u fun w a u o=>qg o (e_eql o rfl rfl) fun a o=>qv o (e_pickT o rfl rfl) fun a o=>qv o (e_as (e_move o rfl) (congrArg Value.bool hb98)) fun a o=>qg o (e_move o rfl) fun a o=>qg o (e_subL (xs:=x35.Body) (vl:=2) (vh:=3) o runUnderlying46 sizeOf51 rfl hc46 rfl rfl h100 e103 e104) fun a o=>ls<|gy o rfl rfl<|cq o call34 (Z8_c (hp_le _) (Tab.mono (Tab.mono hT hx3.sub) (St.up u)) hc105 (St.srH u hr106) h108) ⟨rfl,trivial⟩ u fun w a u o=>qg o (e_eql o rfl rfl) fun a o=>qv o (e_pickT o rfl rfl) fun a o=>qv o (e_as (e_move o rfl) (congrArg Value.bool hb109)) fun a o=>?_
 refine qg o (e_move o rfl) fun a o=>ls<|gy o rfl rfl<|c1 o rfl call36 (Z9_c (hp_le _) (Tab.mono (Tab.mono hT hx3.sub) (St.up u)) hc46 (St.srH u hr47) h111) ⟨rfl,rfl,trivial⟩ (fun v w a hR o=>?_)
 obtain ⟨oa112,cap113,vs114,rfl,hv115,hk⟩:=hR
 replace u:=u.fresh hk
 replace hv115:=hv115 H6
 refine qg o (e_lenL (α:=Int) (xs:=r110) o runUnderlying42 rfl) fun a o=>qg o (e_eql o rfl rfl) fun a o=>qv o (e_pickT o rfl rfl) fun a o=>qa o rfl fun a o=>re<|tn<|wr<|?_
 obtain rfl:=si hm
 exact r1 o results42 rfl ⟨rfl,u.keep⟩
theorem Z17_c (hH:H.le w0) (hT:Tab H) {oa2:Option Addr} {cap3:Nat} {p1:(List api_Stmt)} (hc4:p1.length≤cap3) (hr5:SR H oa2 p1) {r:Bool} (hm:Z17 N p1=some r):Tot Tryz.prog 10 #[.slice oa2 p1.length cap3] w0 (fun v w'=>v=.bool r∧Keep Nil w0 w'):=by
 unfold Z17 at hm
 refine fn0 func10 rfl ntmps10 rfl rfl fun a o=>?_
 have u:St w0 Nil [H] [] w0:=start1 hH
 refine th<|rg<|qa o rfl fun a o=>re<|tn<|th<|?_
 obtain ⟨rz6,h7,hm⟩:=bs hm
 refine rg<|qm o rfl fun a o=>ls<|c1 o rfl call43 (Z14_c (St.le u) hc4 hr5 h7) ⟨rfl,trivial⟩ (fun v w a hR o=>?_)
 obtain ⟨H11,oa12,cap13,rfl,hc14,hr15,hx8,hl9,hk⟩:=hR
 obtain ⟨u,hx8⟩:=And.intro (St.passH u hk hx8 hl9) (St.extc u hx8)
 refine qa o rfl fun a o=>re<|tn<|th<|?_
 obtain ⟨r16,h17,hm⟩:=bs hm
 refine rg<|qm o rfl fun a o=>ls<|cq o call34 (Z8_c (hp_le _) (Tab.mono (Tab.mono hT hx8.sub) (St.up u)) hc14 (St.srH u hr15) h17) ⟨rfl,trivial⟩ u fun w a u o=>qa o rfl fun a o=>re<|tn<|th<|th<|rg<|qm o rfl fun a o=>qv o (e_lss o rfl rfl) fun a o=>qm o rfl fun a o=>grp (N:=62) (Fk:=[(0,.slice oa12 rz6.length cap13),(3,i6 r16),(17,.bool ((decide (r16 < 0)) || (decide (300 < r16))))]) (b:=(decide (r16 < 0))) 3 u ?_ ?_ ?_
 intro hb key
 replace o:=Fr.as o (t:=14) rfl (congrArg Value.bool hb)
 iterate 2 refine qn o fun a o=>?_
 refine qv o (e_as (v':=.bool ((decide (r16 < 0)) || (decide (300 < r16)))) (e_pickT o rfl rfl) (by rw [hb];rfl)) fun a o=>?_
 exact key _ _ (o.hs) u
 intro hb key
 replace o:=Fr.as o (t:=14) rfl (congrArg Value.bool hb)
 refine qg o (e_move o rfl) fun a o=>qg o (e_gtr o rfl rfl) fun a o=>qv o (e_as (v':=.bool ((decide (r16 < 0)) || (decide (300 < r16)))) (e_pickF o rfl rfl) (by rw [hb];rfl)) fun a o=>?_
 exact key _ _ (o.hs) u
 intro a w o u
 refine re<|?_
 rcases bdich ((decide (r16 < 0)) || (decide (300 < r16))) with hb18 | hb18
 replace hm:=ite_t hm hb18
 refine tn<|ctv o rfl hb18<|th<|?_
 rcases bdich (decide (300 < r16)) with hb19 | hb19
 replace hm:=itp_t hm hb19
 obtain ⟨r20,h21,hm⟩:=bs hm
 refine rg<|qm o rfl fun a o=>qv o (e_gtr o rfl rfl) fun a o=>qv o (e_as (e_move o rfl) (congrArg Value.bool hb19)) fun a o=>?_
 iterate 4 refine qn o fun a o=>?_
 iterate 4 refine ls<|gnu o rfl rfl rfl fun a o=>?_
 refine qn o fun a o=>qv o (e_pickT o rfl rfl) fun a o=>qm o rfl fun a o=>ls<|gy o rfl rfl<|c1 o rfl call42 (Z1a_c (hp_le _) (Tab.mono (Tab.mono hT hx8.sub) (St.up u)) h21) trivial (fun v w a hR o=>?_)
 obtain ⟨rfl,hk⟩:=hR
 replace u:=u.pass hk
 refine qv o (e_pickT o rfl rfl) fun a o=>qa o rfl fun a o=>re<|tn<|wr<|tr<|?_
 obtain rfl:=si hm
 exact r1 o results10 rfl ⟨rfl,u.keep⟩
 replace hm:=itp_f hm hb19
 obtain ⟨r22,h23,hm⟩:=bs hm
 rcases bdich r22 with hb24 | hb24
 replace hm:=ite_t hm hb24
 have hb24':(!r22)=false:=by rw [hb24];rfl
 refine rg<|qm o rfl fun a o=>qv o (e_gtr o rfl rfl) fun a o=>qv o (e_as (e_move o rfl) (congrArg Value.bool hb19)) fun a o=>qg o (e_move o rfl) fun a o=>ls<|gy o rfl rfl<|cq o call44 (Z3y_c (hp_le _) hc14 (St.srH u hr15) h23) ⟨rfl,trivial⟩ u fun w a u o=>qg o (e_not o rfl) fun a o=>qg o (e_as (e_move o rfl) (congrArg Value.bool hb24')) fun a o=>?_
 iterate 4 refine qn o fun a o=>?_
 refine qg o (e_pickF o rfl rfl) fun a o=>qv o (e_pickF o rfl rfl) fun a o=>qm o rfl fun a o=>qn o fun a o=>qv o (e_pickF o rfl rfl) fun a o=>qa o rfl fun a o=>re<|tn<|wr<|tr<|?_
 obtain rfl:=si hm
 exact r1 o results10 rfl ⟨rfl,u.keep⟩
 replace hm:=ite_f hm hb24
 have hb24':(!r22)=true:=by rw [hb24];rfl
 obtain ⟨r25,h26,hm⟩:=bs hm
 rcases bdich (decide ((r25.length:Int)=0)) with hb32 | hb32
 replace hm:=itp_t hm hb32
 obtain ⟨r33,h34,hm⟩:=bs hm
 refine rg<|qm o rfl fun a o=>qv o (e_gtr o rfl rfl) fun a o=>qv o (e_as (e_move o rfl) (congrArg Value.bool hb19)) fun a o=>qg o (e_move o rfl) fun a o=>ls<|gy o rfl rfl<|cq o call44 (Z3y_c (hp_le _) hc14 (St.srH u hr15) h23) ⟨rfl,trivial⟩ u fun w a u o=>qg o (e_not o rfl) fun a o=>qg o (e_as (e_move o rfl) (congrArg Value.bool hb24')) fun a o=>qg o (e_move o rfl) fun a o=>ls<|gy o rfl rfl<|c1 o rfl call36 (Z9_c (hp_le _) (Tab.mono (Tab.mono hT hx8.sub) (St.up u)) hc14 (St.srH u hr15) h26) ⟨rfl,rfl,trivial⟩ (fun v w a hR o=>?_)
 obtain ⟨oa27,cap28,vs29,rfl,hv30,hk⟩:=hR
 replace u:=u.fresh hk
 replace hv30:=hv30 H11
 refine qg o (e_lenL (α:=Int) (xs:=r25) o runUnderlying42 rfl) fun a o=>qg o (e_eql o rfl rfl) fun a o=>qg o (e_pickT o rfl rfl) fun a o=>qv o (e_pickF o rfl rfl) fun a o=>qv o (e_as (e_move o rfl) (congrArg Value.bool hb32)) fun a o=>ls<|gy o rfl rfl<|c1 o rfl call42 (Z1a_c (hp_le _) (Tab.mono (Tab.mono hT hx8.sub) (St.up u)) h34) trivial (fun v w a hR o=>?_)
 obtain ⟨rfl,hk⟩:=hR
 replace u:=u.pass hk
 refine qv o (e_pickT o rfl rfl) fun a o=>qa o rfl fun a o=>re<|tn<|wr<|tr<|?_
 obtain rfl:=si hm
 exact r1 o results10 rfl ⟨rfl,u.keep⟩
 replace hm:=itp_f hm hb32
 refine rg<|qm o rfl fun a o=>qv o (e_gtr o rfl rfl) fun a o=>qv o (e_as (e_move o rfl) (congrArg Value.bool hb19)) fun a o=>qg o (e_move o rfl) fun a o=>ls<|gy o rfl rfl<|cq o call44 (Z3y_c (hp_le _) hc14 (St.srH u hr15) h23) ⟨rfl,trivial⟩ u fun w a u o=>qg o (e_not o rfl) fun a o=>qg o (e_as (e_move o rfl) (congrArg Value.bool hb24')) fun a o=>qg o (e_move o rfl) fun a o=>ls<|gy o rfl rfl<|c1 o rfl call36 (Z9_c (hp_le _) (Tab.mono (Tab.mono hT hx8.sub) (St.up u)) hc14 (St.srH u hr15) h26) ⟨rfl,rfl,trivial⟩ (fun v w a hR o=>?_)
 obtain ⟨oa27,cap28,vs29,rfl,hv30,hk⟩:=hR
 replace u:=u.fresh hk
 replace hv30:=hv30 H11
 refine qg o (e_lenL (α:=Int) (xs:=r25) o runUnderlying42 rfl) fun a o=>qg o (e_eql o rfl rfl) fun a o=>qg o (e_pickT o rfl rfl) fun a o=>qv o (e_pickF o rfl rfl) fun a o=>qv o (e_as (e_move o rfl) (congrArg Value.bool hb32)) fun a o=>qn o fun a o=>qv o (e_pickF o rfl rfl) fun a o=>qa o rfl fun a o=>re<|tn<|wr<|tr<|?_
 obtain rfl:=si hm
 exact r1 o results10 rfl ⟨rfl,u.keep⟩
 replace hm:=ite_f hm hb18
 refine tn<|cfv o rfl hb18<|wk<|tn<|th<|?_
 obtain ⟨r35,h36,hm⟩:=bs hm
 refine rg<|qm o rfl fun a o=>ls<|c1 o rfl call36 (Z9_c (hp_le _) (Tab.mono (Tab.mono hT hx8.sub) (St.up u)) hc14 (St.srH u hr15) h36) ⟨rfl,rfl,trivial⟩ (fun v w a hR o=>?_)
 obtain ⟨oa37,cap38,vs39,rfl,hv40,hk⟩:=hR
 replace u:=u.fresh hk
 replace hv40:=hv40 H11
 iterate 2 refine qa o rfl fun a o=>?_
 refine re<|tn<|th<|th<|rg<|qa o rfl fun a o=>re<|tn<|midK (fun a w=>∃ (vA1:Int),(Z18 N r16) vA1=some r∧Fr 62 [(3,i6 r16),(5,i6 vA1)] a∧St w0 Nil [H11] [] w) ?_ ?_
 refine wb<|lp (α:=Nat×Int×Int) (fun gh a w=>match gh with | (nn2,vB1,vB2)=>(Z19 N (Z18 N r16) r35) nn2 vB1 vB2=some r∧Fr 62 [(3,i6 r16),(4,.slice oa37 r35.length cap38),(5,i6 vB1),(6,i6 vB2)] a∧St w0 Nil [H11] [sla 3 1 oa37 r35.length cap38 vs39] w) (fun gh=>gh.1) (N,0,0) ⟨hm,o.hs,u⟩ ?_
 rintro ⟨nn2,vB1,vB2⟩ a w ⟨hm,o,u⟩
 obtain _ | nn2:=nn2
 simp [Z19] at hm
 rw [Z19] at hm
 refine th<|th<|rg<|qm o rfl fun a o=>qm o rfl fun a o=>qv o (e_lenL (α:=Int) (xs:=r35) o runUnderlying42 rfl) fun a o=>qv o (e_lss o rfl rfl) fun a o=>re<|?_
 rcases bdich (decide (vB2 < (r35.length:Int))) with hb42 | hb42
 replace hm:=itp_t hm hb42
 refine tn<|ctv o rfl hb42<|wk<|tn<|th<|wb<|th<|?_
 obtain ⟨x43,h44,hm⟩:=bs hm
 have ho45:=Rd.oaI (u.rdO t0) hv40 (by decide) h44
 obtain ⟨c46,g47,hl48⟩:=Rows.getI hv40 h44
 obtain rfl:c46=[i6 x43]:=g47
 obtain ⟨r49,h50,hm⟩:=bs hm
 refine rg<|qm o rfl fun a o=>qm o rfl fun a o=>qv o (e_iaI o runUnderlying42 sizeOf3 rfl rfl h44 ho45) fun a o=>qv o (e_ld o isAgg3 rfl ((St.ld u).elO t0 (hl48 0 _ rfl))) fun a o=>ls<|cq o call40 (Z0_c (hp_le _) h50) ⟨rfl,trivial⟩ u fun w a u o=>qa o rfl fun a o=>re<|tn<|th<|th<|rg<|qm o rfl fun a o=>qv o (e_lss o rfl rfl) fun a o=>qm o rfl fun a o=>grp (N:=62) (Fk:=[(3,i6 r16),(4,.slice oa37 r35.length cap38),(5,i6 vB1),(6,i6 vB2),(7,i6 r49),(52,.bool ((decide (r49 < 1)) || (decide (2 < r49))))]) (b:=(decide (r49 < 1))) 3 u ?_ ?_ ?_
 intro hb key
 replace o:=Fr.as o (t:=49) rfl (congrArg Value.bool hb)
 iterate 2 refine qn o fun a o=>?_
 refine qv o (e_as (v':=.bool ((decide (r49 < 1)) || (decide (2 < r49)))) (e_pickT o rfl rfl) (by rw [hb];rfl)) fun a o=>?_
 exact key _ _ (o.hs) u
 intro hb key
 replace o:=Fr.as o (t:=49) rfl (congrArg Value.bool hb)
 refine qg o (e_move o rfl) fun a o=>qg o (e_gtr o rfl rfl) fun a o=>qv o (e_as (v':=.bool ((decide (r49 < 1)) || (decide (2 < r49)))) (e_pickF o rfl rfl) (by rw [hb];rfl)) fun a o=>?_
 exact key _ _ (o.hs) u
 intro a w o u
 refine re<|?_
 obtain ⟨_,hb51,hm⟩:=bs hm
 replace hb51:=bnt (sure_some hb51)
 refine tn<|cfv o rfl hb51<|wk<|tn<|rg<|qm o rfl fun a o=>qm o rfl fun a o=>qv o (e_add o rfl rfl) fun a o=>qa o rfl fun a o=>re<|bn<|tn<|rg<|qm o rfl fun a o=>qv o (e_add o rfl rfl) fun a o=>qa o rfl fun a o=>re<|tn<|?_
 exact ⟨(nn2,(IntKind.i64.wrap (vB1+r49)),(IntKind.i64.wrap (vB2+1))),⟨hm,o.hs,u⟩,Nat.lt_succ_self _⟩
 replace hm:=itp_f hm hb42
 refine tn<|cfv o rfl hb42<|we<|tx<|tx<|bx<|tn<|?_
 replace u:=u.pickL .nil
 exact ⟨vB1,hm,o.has ⟨rfl,rfl,trivial⟩,u⟩
 rintro a w ⟨vA1,hm,o,u⟩
 unfold Z18 at hm
 refine th<|?_
 rcases bdich (decide (vA1=r16)) with hb52 | hb52
 replace hm:=itp_t hm hb52
 obtain ⟨r53,h54,hm⟩:=bs hm
 refine rg<|qm o rfl fun a o=>qm o rfl fun a o=>qv o (e_eql o rfl rfl) fun a o=>qv o (e_as (e_move o rfl) (congrArg Value.bool hb52)) fun a o=>ls<|gy o rfl rfl<|c1 o rfl call42 (Z1a_c (hp_le _) (Tab.mono (Tab.mono hT hx8.sub) (St.up u)) h54) trivial (fun v w a hR o=>?_)
 obtain ⟨rfl,hk⟩:=hR
 replace u:=u.pass hk
 refine qv o (e_pickT o rfl rfl) fun a o=>qa o rfl fun a o=>re<|tn<|wr<|?_
 obtain rfl:=si hm
 exact r1 o results10 rfl ⟨rfl,u.keep⟩
 replace hm:=itp_f hm hb52
 refine rg<|qm o rfl fun a o=>qm o rfl fun a o=>qv o (e_eql o rfl rfl) fun a o=>qv o (e_as (e_move o rfl) (congrArg Value.bool hb52)) fun a o=>qn o fun a o=>qv o (e_pickF o rfl rfl) fun a o=>qa o rfl fun a o=>re<|tn<|wr<|?_
 obtain rfl:=si hm
 exact r1 o results10 rfl ⟨rfl,u.keep⟩
end Go.LM.LB
