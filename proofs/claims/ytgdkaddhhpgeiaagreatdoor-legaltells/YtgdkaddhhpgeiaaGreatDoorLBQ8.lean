/- Walks, lifted by program. No condition beyond the theorems' own premises. -/
import Derived.Test.YtgdkaddhhpgeiaaGreatDoorLBQ7
namespace Go.LM.LB
open Go Go.LL Go.MD Go.LM Go.Proofs Go.MD.LB Go.Proofs.Tryz
set_option maxRecDepth 100000
variable {N:Nat} {w0:World} {H:PH}
set_option maxHeartbeats 4000000 in
theorem Z12_c (hH:H.le w0) (hT:Tab H) {cs2:List Value} {p1:api_Prog} (g3:Enc.rep H cs2 p1) {p4:Int} {p5:Str} {r:Bool} (hm:Z12 N p1 p4 p5=some r):Tot Tryz.prog 5 #[.agg cs2.toArray,i6 p4,strv p5] w0 (fun v w'=>v=.bool r∧Keep Nil w0 w'):=by
 unfold Z12 at hm
 refine fn0 func5 rfl ntmps5 rfl rfl fun a o=>?_
 have u:St w0 Nil [H] [] w0:=start1 hH
 obtain ⟨oa6,cap7,oa10,cap11,oa14,cap15,oa18,cap19,oa22,cap23,oa26,cap27,rfl,hc8,hr9,hc12,hr13,hc16,hr17,hc20,hr21,hc24,hr25,hc28,hr29⟩:=api_Prog_open g3
 refine th<|rg<|ls<|a_box (cs:=[.slice oa6 p1.Lines.length cap7,.slice oa10 p1.Vols.length cap11,.slice oa14 p1.Locks.length cap15,.slice oa18 p1.Threads.length cap19,.slice oa22 p1.Recover.length cap23,.slice oa26 p1.Claims.length cap27].toArray) o rfl u rfl rfl fun b30 w a u o=>qa o rfl fun a o=>re<|tn<|th<|?_
 obtain ⟨r31,h32,hm⟩:=bs hm
 refine rg<|qv o (e_ldA o Tryz.isAgg27 Tryz.sizeOf27 rfl rfl ((St.ld u).cellsB t0)) fun a o=>ls<|c1 o rfl call15 (Zm_c (St.le u) (show Enc.rep (α:=api_Prog) H [.slice oa6 p1.Lines.length cap7,.slice oa10 p1.Vols.length cap11,.slice oa14 p1.Locks.length cap15,.slice oa18 p1.Threads.length cap19,.slice oa22 p1.Recover.length cap23,.slice oa26 p1.Claims.length cap27] p1 from ⟨_,_,rfl,⟨_,_,rfl,hc8,hr9⟩,⟨_,_,rfl,⟨_,_,rfl,hc12,hr13⟩,⟨_,_,rfl,⟨_,_,rfl,hc16,hr17⟩,⟨_,_,rfl,⟨_,_,rfl,hc20,hr21⟩,⟨_,_,rfl,⟨_,_,rfl,hc24,hr25⟩,⟨_,_,rfl,hc28,hr29⟩⟩⟩⟩⟩⟩) h32) ⟨rfl,trivial⟩ (fun v w a hR o=>?_)
 obtain ⟨H36,cs37,rfl,g38,hx33,hl34,hk⟩:=hR
 obtain ⟨u,hx33⟩:=And.intro (St.passH u hk hx33 hl34) (St.extc u hx33)
 obtain ⟨oa39,cap40,oa43,cap44,oa47,cap48,oa51,cap52,oa55,cap56,oa59,cap60,rfl,hc41,hr42,hc45,hr46,hc49,hr50,hc53,hr54,hc57,hr58,hc61,hr62⟩:=api_Prog_open g38
 refine ls<|s_blkA o u sizeOf27 rfl rfl rfl rfl (one_cells rfl) .head fun w u=>re<|tn<|th<|?_
 obtain ⟨s63,h64,hm⟩:=bs hm
 refine rg<|qm o rfl fun a o=>qm o rfl fun a o=>qv o (e_lenU (s:=p5) o runUnderlying9 rfl) fun a o=>qv o (e_min o rfl rfl) fun a o=>qv o (e_subU (s:=p5) (vl:=0) (vh:=(min (p5.length:Int) 40)) o runUnderlying9 rfl rfl rfl h64) fun a o=>qa o rfl fun a o=>re<|tn<|th<|?_
 obtain ⟨r65,h66,hm⟩:=bs hm
 refine rg<|qv o (e_ldA o Tryz.isAgg27 Tryz.sizeOf27 rfl rfl ((St.ld u).cellsB t0)) fun a o=>ls<|c1 o rfl call20 (Z57_c (hp_le _) (Enc.mono (St.up u) (show Enc.rep (α:=api_Prog) H36 [.slice oa39 r31.Lines.length cap40,.slice oa43 r31.Vols.length cap44,.slice oa47 r31.Locks.length cap48,.slice oa51 r31.Threads.length cap52,.slice oa55 r31.Recover.length cap56,.slice oa59 r31.Claims.length cap60] r31 from ⟨_,_,rfl,⟨_,_,rfl,hc41,hr42⟩,⟨_,_,rfl,⟨_,_,rfl,hc45,hr46⟩,⟨_,_,rfl,⟨_,_,rfl,hc49,hr50⟩,⟨_,_,rfl,⟨_,_,rfl,hc53,hr54⟩,⟨_,_,rfl,⟨_,_,rfl,hc57,hr58⟩,⟨_,_,rfl,hc61,hr62⟩⟩⟩⟩⟩⟩)) h66) ⟨rfl,trivial⟩ (fun v w a hR o=>?_)
 obtain ⟨oa67,cap68,vs69,rfl,hv70,hk⟩:=hR
 replace u:=u.fresh hk
 replace hv70:=hv70 H36
 refine qa o rfl fun a o=>re<|tn<|th<|?_
 obtain ⟨r72,h73,hm⟩:=bs hm
 obtain ⟨r79,h80,hm⟩:=bs hm
 rcases bdich r79 with hb81 | hb81
 replace hm:=ite_t hm hb81
 obtain ⟨r82,h83,hm⟩:=bs hm
 obtain ⟨r84,h85,hm⟩:=bs hm
 rcases bdich (decide (r82=r84)) with hb86 | hb86
 replace hm:=itp_t hm hb86
 obtain ⟨r87,h88,hm⟩:=bs hm
 obtain ⟨r89,h90,hm⟩:=bs hm
 rcases bdich (decide (r87=r89)) with hb91 | hb91
 replace hm:=itp_t hm hb91
 obtain ⟨r92,h93,hm⟩:=bs hm
 obtain ⟨r99,h100,hm⟩:=bs hm
 obtain ⟨r106,h107,hm⟩:=bs hm
 rcases bdich r106 with hb108 | hb108
 replace hm:=ite_t hm hb108
 obtain ⟨r109,h110,hm⟩:=bs hm
 obtain ⟨r116,h117,hm⟩:=bs hm
 obtain ⟨r123,h124,hm⟩:=bs hm
 rcases bdich r123 with hb125 | hb125
 replace hm:=ite_t hm hb125
 obtain ⟨r126,h127,hm⟩:=bs hm
 obtain ⟨r128,h129,hm⟩:=bs hm
 rcases bdich (decide (r126=r128)) with hb130 | hb130
 replace hm:=itp_t hm hb130
 obtain ⟨r131,h132,hm⟩:=bs hm
 refine rdS 47 u wide fun w u=>dr 0 u o rfl (e_move o rfl) fun a o=>dq 1 (St.ld u) o rfl (fun w hl=>e_ldA o isAgg27 sizeOf27 rfl rfl (hl.cellsB t1)) fun a o=>da1 (i:=2) (by kernel_rfl) ?_
 refine di (i:=2) rfl<|c1 o rfl call22 (Z4l_c (hp_le _) (Enc.mono (St.up u) (show Enc.rep (α:=api_Prog) H36 [.slice oa39 r31.Lines.length cap40,.slice oa43 r31.Vols.length cap44,.slice oa47 r31.Locks.length cap48,.slice oa51 r31.Threads.length cap52,.slice oa55 r31.Recover.length cap56,.slice oa59 r31.Claims.length cap60] r31 from ⟨_,_,rfl,⟨_,_,rfl,hc41,hr42⟩,⟨_,_,rfl,⟨_,_,rfl,hc45,hr46⟩,⟨_,_,rfl,⟨_,_,rfl,hc49,hr50⟩,⟨_,_,rfl,⟨_,_,rfl,hc53,hr54⟩,⟨_,_,rfl,⟨_,_,rfl,hc57,hr58⟩,⟨_,_,rfl,hc61,hr62⟩⟩⟩⟩⟩⟩)) h73) ⟨rfl,trivial⟩ (fun v w a hR o=>?_)
 obtain ⟨oa74,cap75,vs76,rfl,hv77,hk⟩:=hR
 replace u:=u.fresh hk
 replace hv77:=hv77 H36
 refine ⟨fun _=>(St.ldsX u i2 ta1),?_⟩
 refine da1 (i:=3) (by kernel_rfl) ?_
 refine di (i:=3) rfl<|cq o call21 (Z54_c (hp_le _) (St.capO u t1) (St.srO u t1 hv70) (St.capO u t0) (St.srO u t0 hv77) h80) ⟨rfl,rfl,trivial⟩ u fun w a u o=>⟨fun _=>(St.ldsX u i2 ta1),?_⟩
 refine ds 4 (St.ldsX u i2 ta1) o rfl (e_as (e_move o rfl) (congrArg Value.bool hb81)) fun a o=>dg 5 (St.ldsX u i2 ta1) o rfl (fun w hl=>e_ldA o isAgg27 sizeOf27 rfl rfl (hl.cellsB t1)) fun a o=>dg 7 (St.ldsX u i2 ta1) o rfl (fun w hl=>e_ldA o isAgg27 sizeOf27 rfl rfl (hl.cellsB t1)) fun a o=>da1 (i:=6) (by kernel_rfl) ?_
 refine di (i:=6) rfl<|gy o rfl rfl<|cq o call23 (Z5t_c (hp_le _) (Enc.mono (St.up u) (show Enc.rep (α:=api_Prog) H36 [.slice oa39 r31.Lines.length cap40,.slice oa43 r31.Vols.length cap44,.slice oa47 r31.Locks.length cap48,.slice oa51 r31.Threads.length cap52,.slice oa55 r31.Recover.length cap56,.slice oa59 r31.Claims.length cap60] r31 from ⟨_,_,rfl,⟨_,_,rfl,hc41,hr42⟩,⟨_,_,rfl,⟨_,_,rfl,hc45,hr46⟩,⟨_,_,rfl,⟨_,_,rfl,hc49,hr50⟩,⟨_,_,rfl,⟨_,_,rfl,hc53,hr54⟩,⟨_,_,rfl,⟨_,_,rfl,hc57,hr58⟩,⟨_,_,rfl,hc61,hr62⟩⟩⟩⟩⟩⟩)) h83) ⟨rfl,trivial⟩ u fun w a u o=>⟨fun _=>(St.ldsX u i2 ta1),?_⟩
 refine da1 (i:=8) (by kernel_rfl) ?_
 refine di (i:=8) rfl<|gy o rfl rfl<|cq o call24 (Z53_c (hp_le _) (Enc.mono (St.up u) (show Enc.rep (α:=api_Prog) H36 [.slice oa39 r31.Lines.length cap40,.slice oa43 r31.Vols.length cap44,.slice oa47 r31.Locks.length cap48,.slice oa51 r31.Threads.length cap52,.slice oa55 r31.Recover.length cap56,.slice oa59 r31.Claims.length cap60] r31 from ⟨_,_,rfl,⟨_,_,rfl,hc41,hr42⟩,⟨_,_,rfl,⟨_,_,rfl,hc45,hr46⟩,⟨_,_,rfl,⟨_,_,rfl,hc49,hr50⟩,⟨_,_,rfl,⟨_,_,rfl,hc53,hr54⟩,⟨_,_,rfl,⟨_,_,rfl,hc57,hr58⟩,⟨_,_,rfl,hc61,hr62⟩⟩⟩⟩⟩⟩)) h85) ⟨rfl,trivial⟩ u fun w a u o=>⟨fun _=>(St.ldsX u i2 ta1),?_⟩
 refine dg 9 (St.ldsX u i2 ta1) o rfl (fun w hl=>e_eql o rfl rfl) fun a o=>ds 10 (St.ldsX u i2 ta1) o rfl (e_pickT o rfl rfl) fun a o=>ds 11 (St.ldsX u i2 ta1) o rfl (e_as (e_move o rfl) (congrArg Value.bool hb86)) fun a o=>dg 12 (St.ldsX u i2 ta1) o rfl (fun w hl=>e_ldA o isAgg27 sizeOf27 rfl rfl (hl.cellsB t1)) fun a o=>dg 13 (St.ldsX u i2 ta1) o rfl (fun w hl=>e_move o rfl) fun a o=>dg 15 (St.ldsX u i2 ta1) o rfl (fun w hl=>e_ldA o isAgg27 sizeOf27 rfl rfl (hl.cellsB t1)) fun a o=>dg 16 (St.ldsX u i2 ta1) o rfl (fun w hl=>e_move o rfl) fun a o=>da1 (i:=14) (by kernel_rfl) ?_
 refine di (i:=14) rfl<|gy o rfl rfl<|cq o call25 (Z5n_c (hp_le _) (Enc.mono (St.up u) (show Enc.rep (α:=api_Prog) H36 [.slice oa39 r31.Lines.length cap40,.slice oa43 r31.Vols.length cap44,.slice oa47 r31.Locks.length cap48,.slice oa51 r31.Threads.length cap52,.slice oa55 r31.Recover.length cap56,.slice oa59 r31.Claims.length cap60] r31 from ⟨_,_,rfl,⟨_,_,rfl,hc41,hr42⟩,⟨_,_,rfl,⟨_,_,rfl,hc45,hr46⟩,⟨_,_,rfl,⟨_,_,rfl,hc49,hr50⟩,⟨_,_,rfl,⟨_,_,rfl,hc53,hr54⟩,⟨_,_,rfl,⟨_,_,rfl,hc57,hr58⟩,⟨_,_,rfl,hc61,hr62⟩⟩⟩⟩⟩⟩)) h88) ⟨rfl,rfl,trivial⟩ u fun w a u o=>⟨fun _=>(St.ldsX u i2 ta1),?_⟩
 refine da1 (i:=17) (by kernel_rfl) ?_
 refine di (i:=17) rfl<|gy o rfl rfl<|cq o call26 (Z4s_c (hp_le _) (Enc.mono (St.up u) (show Enc.rep (α:=api_Prog) H36 [.slice oa39 r31.Lines.length cap40,.slice oa43 r31.Vols.length cap44,.slice oa47 r31.Locks.length cap48,.slice oa51 r31.Threads.length cap52,.slice oa55 r31.Recover.length cap56,.slice oa59 r31.Claims.length cap60] r31 from ⟨_,_,rfl,⟨_,_,rfl,hc41,hr42⟩,⟨_,_,rfl,⟨_,_,rfl,hc45,hr46⟩,⟨_,_,rfl,⟨_,_,rfl,hc49,hr50⟩,⟨_,_,rfl,⟨_,_,rfl,hc53,hr54⟩,⟨_,_,rfl,⟨_,_,rfl,hc57,hr58⟩,⟨_,_,rfl,hc61,hr62⟩⟩⟩⟩⟩⟩)) h90) ⟨rfl,rfl,trivial⟩ u fun w a u o=>⟨fun _=>(St.ldsX u i2 ta1),?_⟩
 refine dg 18 (St.ldsX u i2 ta1) o rfl (fun w hl=>e_eql o rfl rfl) fun a o=>ds 19 (St.ldsX u i2 ta1) o rfl (e_pickT o rfl rfl) fun a o=>ds 20 (St.ldsX u i2 ta1) o rfl (e_as (e_move o rfl) (congrArg Value.bool hb91)) fun a o=>dg 21 (St.ldsX u i2 ta1) o rfl (fun w hl=>e_ldA o isAgg27 sizeOf27 rfl rfl (hl.cellsB t1)) fun a o=>dg 23 (St.ldsX u i2 ta1) o rfl (fun w hl=>e_ldA o isAgg27 sizeOf27 rfl rfl (hl.cellsB t1)) fun a o=>da1 (i:=22) (by kernel_rfl) ?_
 refine di (i:=22) rfl<|gy o rfl rfl<|c1 o rfl call27 (Z5p_c (hp_le _) (Enc.mono (St.up u) (show Enc.rep (α:=api_Prog) H36 [.slice oa39 r31.Lines.length cap40,.slice oa43 r31.Vols.length cap44,.slice oa47 r31.Locks.length cap48,.slice oa51 r31.Threads.length cap52,.slice oa55 r31.Recover.length cap56,.slice oa59 r31.Claims.length cap60] r31 from ⟨_,_,rfl,⟨_,_,rfl,hc41,hr42⟩,⟨_,_,rfl,⟨_,_,rfl,hc45,hr46⟩,⟨_,_,rfl,⟨_,_,rfl,hc49,hr50⟩,⟨_,_,rfl,⟨_,_,rfl,hc53,hr54⟩,⟨_,_,rfl,⟨_,_,rfl,hc57,hr58⟩,⟨_,_,rfl,hc61,hr62⟩⟩⟩⟩⟩⟩)) h93) ⟨rfl,trivial⟩ (fun v w a hR o=>?_)
 obtain ⟨oa94,cap95,vs96,rfl,hv97,hk⟩:=hR
 replace u:=u.fresh hk
 replace hv97:=hv97 H36
 refine ⟨fun _=>(St.ldsX u i2 ta2),?_⟩
 refine da1 (i:=24) (by kernel_rfl) ?_
 refine di (i:=24) rfl<|gy o rfl rfl<|c1 o rfl call28 (Z4w_c (hp_le _) (Enc.mono (St.up u) (show Enc.rep (α:=api_Prog) H36 [.slice oa39 r31.Lines.length cap40,.slice oa43 r31.Vols.length cap44,.slice oa47 r31.Locks.length cap48,.slice oa51 r31.Threads.length cap52,.slice oa55 r31.Recover.length cap56,.slice oa59 r31.Claims.length cap60] r31 from ⟨_,_,rfl,⟨_,_,rfl,hc41,hr42⟩,⟨_,_,rfl,⟨_,_,rfl,hc45,hr46⟩,⟨_,_,rfl,⟨_,_,rfl,hc49,hr50⟩,⟨_,_,rfl,⟨_,_,rfl,hc53,hr54⟩,⟨_,_,rfl,⟨_,_,rfl,hc57,hr58⟩,⟨_,_,rfl,hc61,hr62⟩⟩⟩⟩⟩⟩)) h100) ⟨rfl,trivial⟩ (fun v w a hR o=>?_)
 obtain ⟨oa101,cap102,vs103,rfl,hv104,hk⟩:=hR
 replace u:=u.fresh hk
 replace hv104:=hv104 H36
 refine ⟨fun _=>(St.ldsX u i2 ta3),?_⟩
 refine da1 (i:=25) (by kernel_rfl) ?_
 refine di (i:=25) rfl<|gy o rfl rfl<|cq o call21 (Z54_c (hp_le _) (St.capO u t1) (St.srO u t1 hv97) (St.capO u t0) (St.srO u t0 hv104) h107) ⟨rfl,rfl,trivial⟩ u fun w a u o=>⟨fun _=>(St.ldsX u i2 ta3),?_⟩
 refine ds 26 (St.ldsX u i2 ta3) o rfl (e_pickT o rfl rfl) fun a o=>ds 27 (St.ldsX u i2 ta3) o rfl (e_as (e_move o rfl) (congrArg Value.bool hb108)) fun a o=>dg 28 (St.ldsX u i2 ta3) o rfl (fun w hl=>e_ldA o isAgg27 sizeOf27 rfl rfl (hl.cellsB t1)) fun a o=>dg 30 (St.ldsX u i2 ta3) o rfl (fun w hl=>e_ldA o isAgg27 sizeOf27 rfl rfl (hl.cellsB t1)) fun a o=>da1 (i:=29) (by kernel_rfl) ?_
 refine di (i:=29) rfl<|gy o rfl rfl<|c1 o rfl call30 (Z5l_c (hp_le _) (Enc.mono (St.up u) (show Enc.rep (α:=api_Prog) H36 [.slice oa39 r31.Lines.length cap40,.slice oa43 r31.Vols.length cap44,.slice oa47 r31.Locks.length cap48,.slice oa51 r31.Threads.length cap52,.slice oa55 r31.Recover.length cap56,.slice oa59 r31.Claims.length cap60] r31 from ⟨_,_,rfl,⟨_,_,rfl,hc41,hr42⟩,⟨_,_,rfl,⟨_,_,rfl,hc45,hr46⟩,⟨_,_,rfl,⟨_,_,rfl,hc49,hr50⟩,⟨_,_,rfl,⟨_,_,rfl,hc53,hr54⟩,⟨_,_,rfl,⟨_,_,rfl,hc57,hr58⟩,⟨_,_,rfl,hc61,hr62⟩⟩⟩⟩⟩⟩)) h110) ⟨rfl,trivial⟩ (fun v w a hR o=>?_)
 obtain ⟨oa111,cap112,vs113,rfl,hv114,hk⟩:=hR
 replace u:=u.fresh hk
 replace hv114:=hv114 H36
 refine ⟨fun _=>(St.ldsX u i2 (fun _ h=>(.tail _ (.tail _ (.tail _ (.tail _ h)))))),?_⟩
 refine da1 (i:=31) (by kernel_rfl) ?_
 refine di (i:=31) rfl<|gy o rfl rfl<|c1 o rfl call31 (Z4m_c (hp_le _) (Enc.mono (St.up u) (show Enc.rep (α:=api_Prog) H36 [.slice oa39 r31.Lines.length cap40,.slice oa43 r31.Vols.length cap44,.slice oa47 r31.Locks.length cap48,.slice oa51 r31.Threads.length cap52,.slice oa55 r31.Recover.length cap56,.slice oa59 r31.Claims.length cap60] r31 from ⟨_,_,rfl,⟨_,_,rfl,hc41,hr42⟩,⟨_,_,rfl,⟨_,_,rfl,hc45,hr46⟩,⟨_,_,rfl,⟨_,_,rfl,hc49,hr50⟩,⟨_,_,rfl,⟨_,_,rfl,hc53,hr54⟩,⟨_,_,rfl,⟨_,_,rfl,hc57,hr58⟩,⟨_,_,rfl,hc61,hr62⟩⟩⟩⟩⟩⟩)) h117) ⟨rfl,trivial⟩ (fun v w a hR o=>?_)
 obtain ⟨oa118,cap119,vs120,rfl,hv121,hk⟩:=hR
 replace u:=u.fresh hk
 replace hv121:=hv121 H36
 refine ⟨fun _=>(St.ldsX u i2 (fun _ h=>(.tail _ (.tail _ (.tail _ (.tail _ (.tail _ h))))))),?_⟩
 refine da1 (i:=32) (by kernel_rfl) ?_
 refine di (i:=32) rfl<|gy o rfl rfl<|cq o call29 (Z4p_c (hp_le _) (St.capO u t1) (St.srO u t1 hv114) (St.capO u t0) (St.srO u t0 hv121) h124) ⟨rfl,rfl,trivial⟩ u fun w a u o=>⟨fun _=>(St.ldsX u i2 (fun _ h=>(.tail _ (.tail _ (.tail _ (.tail _ (.tail _ h))))))),?_⟩
 refine ds 33 (St.ldsX u i2 (fun _ h=>(.tail _ (.tail _ (.tail _ (.tail _ (.tail _ h))))))) o rfl (e_pickT o rfl rfl) fun a o=>ds 34 (St.ldsX u i2 (fun _ h=>(.tail _ (.tail _ (.tail _ (.tail _ (.tail _ h))))))) o rfl (e_as (e_move o rfl) (congrArg Value.bool hb125)) fun a o=>dg 35 (St.ldsX u i2 (fun _ h=>(.tail _ (.tail _ (.tail _ (.tail _ (.tail _ h))))))) o rfl (fun w hl=>e_move o rfl) fun a o=>dg 36 (St.ldsX u i2 (fun _ h=>(.tail _ (.tail _ (.tail _ (.tail _ (.tail _ h))))))) o rfl (fun w hl=>e_move o rfl) fun a o=>dg 38 (St.ldsX u i2 (fun _ h=>(.tail _ (.tail _ (.tail _ (.tail _ (.tail _ h))))))) o rfl (fun w hl=>e_move o rfl) fun a o=>dg 39 (St.ldsX u i2 (fun _ h=>(.tail _ (.tail _ (.tail _ (.tail _ (.tail _ h))))))) o rfl (fun w hl=>e_move o rfl) fun a o=>da1 (i:=37) (by kernel_rfl) ?_
 refine di (i:=37) rfl<|gy o rfl rfl<|cq o call32 (Z5s_c (hp_le _) (St.capO u t5) (St.srO u t5 hv70) h127) ⟨rfl,rfl,trivial⟩ u fun w a u o=>⟨fun _=>(St.ldsX u i2 (fun _ h=>(.tail _ (.tail _ (.tail _ (.tail _ (.tail _ h))))))),?_⟩
 refine da1 (i:=40) (by kernel_rfl) ?_
 refine di (i:=40) rfl<|gy o rfl rfl<|cq o call33 (Z50_c (hp_le _) (St.capO u t5) (St.srO u t5 hv70) h129) ⟨rfl,rfl,trivial⟩ u fun w a u o=>⟨fun _=>(St.ldsX u i2 (fun _ h=>(.tail _ (.tail _ (.tail _ (.tail _ (.tail _ h))))))),?_⟩
 refine dg 41 (St.ldsX u i2 (fun _ h=>(.tail _ (.tail _ (.tail _ (.tail _ (.tail _ h))))))) o rfl (fun w hl=>e_eql o rfl rfl) fun a o=>ds 42 (St.ldsX u i2 (fun _ h=>(.tail _ (.tail _ (.tail _ (.tail _ (.tail _ h))))))) o rfl (e_pickT o rfl rfl) fun a o=>ds 43 (St.ldsX u i2 (fun _ h=>(.tail _ (.tail _ (.tail _ (.tail _ (.tail _ h))))))) o rfl (e_as (e_move o rfl) (congrArg Value.bool hb130)) fun a o=>da1 (i:=44) (by kernel_rfl) ?_
 refine di (i:=44) rfl<|gy o rfl rfl<|c1 o rfl call18 (Z13_c (hp_le _) (Tab.mono (Tab.mono hT hx33.sub) (St.up u)) h132) trivial (fun v w a hR o=>?_)
 obtain ⟨rfl,hk⟩:=hR
 replace u:=u.pass hk
 refine ⟨fun _=>(St.ldsX u i2 (fun _ h=>(.tail _ (.tail _ (.tail _ (.tail _ (.tail _ h))))))),?_⟩
 refine ds 45 (St.ldsX u i2 (fun _ h=>(.tail _ (.tail _ (.tail _ (.tail _ (.tail _ h))))))) o rfl (e_pickT o rfl rfl) fun a o=>ds 46 (St.ldsX u i2 (fun _ h=>(.tail _ (.tail _ (.tail _ (.tail _ (.tail _ h))))))) o rfl (e_asg o rfl) fun a o=>de (by kernel_rfl)<|tn<|wr<|?_
 obtain rfl:=si hm
 exact r1 o results5 rfl ⟨rfl,u.keep⟩
 replace hm:=itp_f hm hb130
 refine rdS 47 u wide fun w u=>dr 0 u o rfl (e_move o rfl) fun a o=>dq 1 (St.ld u) o rfl (fun w hl=>e_ldA o isAgg27 sizeOf27 rfl rfl (hl.cellsB t1)) fun a o=>da1 (i:=2) (by kernel_rfl) ?_
 refine di (i:=2) rfl<|c1 o rfl call22 (Z4l_c (hp_le _) (Enc.mono (St.up u) (show Enc.rep (α:=api_Prog) H36 [.slice oa39 r31.Lines.length cap40,.slice oa43 r31.Vols.length cap44,.slice oa47 r31.Locks.length cap48,.slice oa51 r31.Threads.length cap52,.slice oa55 r31.Recover.length cap56,.slice oa59 r31.Claims.length cap60] r31 from ⟨_,_,rfl,⟨_,_,rfl,hc41,hr42⟩,⟨_,_,rfl,⟨_,_,rfl,hc45,hr46⟩,⟨_,_,rfl,⟨_,_,rfl,hc49,hr50⟩,⟨_,_,rfl,⟨_,_,rfl,hc53,hr54⟩,⟨_,_,rfl,⟨_,_,rfl,hc57,hr58⟩,⟨_,_,rfl,hc61,hr62⟩⟩⟩⟩⟩⟩)) h73) ⟨rfl,trivial⟩ (fun v w a hR o=>?_)
 obtain ⟨oa74,cap75,vs76,rfl,hv77,hk⟩:=hR
 replace u:=u.fresh hk
 replace hv77:=hv77 H36
 refine ⟨fun _=>(St.ldsX u i2 ta1),?_⟩
 refine da1 (i:=3) (by kernel_rfl) ?_
 refine di (i:=3) rfl<|cq o call21 (Z54_c (hp_le _) (St.capO u t1) (St.srO u t1 hv70) (St.capO u t0) (St.srO u t0 hv77) h80) ⟨rfl,rfl,trivial⟩ u fun w a u o=>⟨fun _=>(St.ldsX u i2 ta1),?_⟩
 refine ds 4 (St.ldsX u i2 ta1) o rfl (e_as (e_move o rfl) (congrArg Value.bool hb81)) fun a o=>dg 5 (St.ldsX u i2 ta1) o rfl (fun w hl=>e_ldA o isAgg27 sizeOf27 rfl rfl (hl.cellsB t1)) fun a o=>dg 7 (St.ldsX u i2 ta1) o rfl (fun w hl=>e_ldA o isAgg27 sizeOf27 rfl rfl (hl.cellsB t1)) fun a o=>da1 (i:=6) (by kernel_rfl) ?_
 refine di (i:=6) rfl<|gy o rfl rfl<|cq o call23 (Z5t_c (hp_le _) (Enc.mono (St.up u) (show Enc.rep (α:=api_Prog) H36 [.slice oa39 r31.Lines.length cap40,.slice oa43 r31.Vols.length cap44,.slice oa47 r31.Locks.length cap48,.slice oa51 r31.Threads.length cap52,.slice oa55 r31.Recover.length cap56,.slice oa59 r31.Claims.length cap60] r31 from ⟨_,_,rfl,⟨_,_,rfl,hc41,hr42⟩,⟨_,_,rfl,⟨_,_,rfl,hc45,hr46⟩,⟨_,_,rfl,⟨_,_,rfl,hc49,hr50⟩,⟨_,_,rfl,⟨_,_,rfl,hc53,hr54⟩,⟨_,_,rfl,⟨_,_,rfl,hc57,hr58⟩,⟨_,_,rfl,hc61,hr62⟩⟩⟩⟩⟩⟩)) h83) ⟨rfl,trivial⟩ u fun w a u o=>⟨fun _=>(St.ldsX u i2 ta1),?_⟩
 refine da1 (i:=8) (by kernel_rfl) ?_
 refine di (i:=8) rfl<|gy o rfl rfl<|cq o call24 (Z53_c (hp_le _) (Enc.mono (St.up u) (show Enc.rep (α:=api_Prog) H36 [.slice oa39 r31.Lines.length cap40,.slice oa43 r31.Vols.length cap44,.slice oa47 r31.Locks.length cap48,.slice oa51 r31.Threads.length cap52,.slice oa55 r31.Recover.length cap56,.slice oa59 r31.Claims.length cap60] r31 from ⟨_,_,rfl,⟨_,_,rfl,hc41,hr42⟩,⟨_,_,rfl,⟨_,_,rfl,hc45,hr46⟩,⟨_,_,rfl,⟨_,_,rfl,hc49,hr50⟩,⟨_,_,rfl,⟨_,_,rfl,hc53,hr54⟩,⟨_,_,rfl,⟨_,_,rfl,hc57,hr58⟩,⟨_,_,rfl,hc61,hr62⟩⟩⟩⟩⟩⟩)) h85) ⟨rfl,trivial⟩ u fun w a u o=>⟨fun _=>(St.ldsX u i2 ta1),?_⟩
 refine dg 9 (St.ldsX u i2 ta1) o rfl (fun w hl=>e_eql o rfl rfl) fun a o=>ds 10 (St.ldsX u i2 ta1) o rfl (e_pickT o rfl rfl) fun a o=>ds 11 (St.ldsX u i2 ta1) o rfl (e_as (e_move o rfl) (congrArg Value.bool hb86)) fun a o=>dg 12 (St.ldsX u i2 ta1) o rfl (fun w hl=>e_ldA o isAgg27 sizeOf27 rfl rfl (hl.cellsB t1)) fun a o=>dg 13 (St.ldsX u i2 ta1) o rfl (fun w hl=>e_move o rfl) fun a o=>dg 15 (St.ldsX u i2 ta1) o rfl (fun w hl=>e_ldA o isAgg27 sizeOf27 rfl rfl (hl.cellsB t1)) fun a o=>dg 16 (St.ldsX u i2 ta1) o rfl (fun w hl=>e_move o rfl) fun a o=>da1 (i:=14) (by kernel_rfl) ?_
 refine di (i:=14) rfl<|gy o rfl rfl<|cq o call25 (Z5n_c (hp_le _) (Enc.mono (St.up u) (show Enc.rep (α:=api_Prog) H36 [.slice oa39 r31.Lines.length cap40,.slice oa43 r31.Vols.length cap44,.slice oa47 r31.Locks.length cap48,.slice oa51 r31.Threads.length cap52,.slice oa55 r31.Recover.length cap56,.slice oa59 r31.Claims.length cap60] r31 from ⟨_,_,rfl,⟨_,_,rfl,hc41,hr42⟩,⟨_,_,rfl,⟨_,_,rfl,hc45,hr46⟩,⟨_,_,rfl,⟨_,_,rfl,hc49,hr50⟩,⟨_,_,rfl,⟨_,_,rfl,hc53,hr54⟩,⟨_,_,rfl,⟨_,_,rfl,hc57,hr58⟩,⟨_,_,rfl,hc61,hr62⟩⟩⟩⟩⟩⟩)) h88) ⟨rfl,rfl,trivial⟩ u fun w a u o=>⟨fun _=>(St.ldsX u i2 ta1),?_⟩
 refine da1 (i:=17) (by kernel_rfl) ?_
 refine di (i:=17) rfl<|gy o rfl rfl<|cq o call26 (Z4s_c (hp_le _) (Enc.mono (St.up u) (show Enc.rep (α:=api_Prog) H36 [.slice oa39 r31.Lines.length cap40,.slice oa43 r31.Vols.length cap44,.slice oa47 r31.Locks.length cap48,.slice oa51 r31.Threads.length cap52,.slice oa55 r31.Recover.length cap56,.slice oa59 r31.Claims.length cap60] r31 from ⟨_,_,rfl,⟨_,_,rfl,hc41,hr42⟩,⟨_,_,rfl,⟨_,_,rfl,hc45,hr46⟩,⟨_,_,rfl,⟨_,_,rfl,hc49,hr50⟩,⟨_,_,rfl,⟨_,_,rfl,hc53,hr54⟩,⟨_,_,rfl,⟨_,_,rfl,hc57,hr58⟩,⟨_,_,rfl,hc61,hr62⟩⟩⟩⟩⟩⟩)) h90) ⟨rfl,rfl,trivial⟩ u fun w a u o=>⟨fun _=>(St.ldsX u i2 ta1),?_⟩
 refine dg 18 (St.ldsX u i2 ta1) o rfl (fun w hl=>e_eql o rfl rfl) fun a o=>ds 19 (St.ldsX u i2 ta1) o rfl (e_pickT o rfl rfl) fun a o=>ds 20 (St.ldsX u i2 ta1) o rfl (e_as (e_move o rfl) (congrArg Value.bool hb91)) fun a o=>dg 21 (St.ldsX u i2 ta1) o rfl (fun w hl=>e_ldA o isAgg27 sizeOf27 rfl rfl (hl.cellsB t1)) fun a o=>dg 23 (St.ldsX u i2 ta1) o rfl (fun w hl=>e_ldA o isAgg27 sizeOf27 rfl rfl (hl.cellsB t1)) fun a o=>da1 (i:=22) (by kernel_rfl) ?_
 refine di (i:=22) rfl<|gy o rfl rfl<|c1 o rfl call27 (Z5p_c (hp_le _) (Enc.mono (St.up u) (show Enc.rep (α:=api_Prog) H36 [.slice oa39 r31.Lines.length cap40,.slice oa43 r31.Vols.length cap44,.slice oa47 r31.Locks.length cap48,.slice oa51 r31.Threads.length cap52,.slice oa55 r31.Recover.length cap56,.slice oa59 r31.Claims.length cap60] r31 from ⟨_,_,rfl,⟨_,_,rfl,hc41,hr42⟩,⟨_,_,rfl,⟨_,_,rfl,hc45,hr46⟩,⟨_,_,rfl,⟨_,_,rfl,hc49,hr50⟩,⟨_,_,rfl,⟨_,_,rfl,hc53,hr54⟩,⟨_,_,rfl,⟨_,_,rfl,hc57,hr58⟩,⟨_,_,rfl,hc61,hr62⟩⟩⟩⟩⟩⟩)) h93) ⟨rfl,trivial⟩ (fun v w a hR o=>?_)
 obtain ⟨oa94,cap95,vs96,rfl,hv97,hk⟩:=hR
 replace u:=u.fresh hk
 replace hv97:=hv97 H36
 refine ⟨fun _=>(St.ldsX u i2 ta2),?_⟩
 refine da1 (i:=24) (by kernel_rfl) ?_
 refine di (i:=24) rfl<|gy o rfl rfl<|c1 o rfl call28 (Z4w_c (hp_le _) (Enc.mono (St.up u) (show Enc.rep (α:=api_Prog) H36 [.slice oa39 r31.Lines.length cap40,.slice oa43 r31.Vols.length cap44,.slice oa47 r31.Locks.length cap48,.slice oa51 r31.Threads.length cap52,.slice oa55 r31.Recover.length cap56,.slice oa59 r31.Claims.length cap60] r31 from ⟨_,_,rfl,⟨_,_,rfl,hc41,hr42⟩,⟨_,_,rfl,⟨_,_,rfl,hc45,hr46⟩,⟨_,_,rfl,⟨_,_,rfl,hc49,hr50⟩,⟨_,_,rfl,⟨_,_,rfl,hc53,hr54⟩,⟨_,_,rfl,⟨_,_,rfl,hc57,hr58⟩,⟨_,_,rfl,hc61,hr62⟩⟩⟩⟩⟩⟩)) h100) ⟨rfl,trivial⟩ (fun v w a hR o=>?_)
 obtain ⟨oa101,cap102,vs103,rfl,hv104,hk⟩:=hR
 replace u:=u.fresh hk
 replace hv104:=hv104 H36
 refine ⟨fun _=>(St.ldsX u i2 ta3),?_⟩
 refine da1 (i:=25) (by kernel_rfl) ?_
 refine di (i:=25) rfl<|gy o rfl rfl<|cq o call21 (Z54_c (hp_le _) (St.capO u t1) (St.srO u t1 hv97) (St.capO u t0) (St.srO u t0 hv104) h107) ⟨rfl,rfl,trivial⟩ u fun w a u o=>⟨fun _=>(St.ldsX u i2 ta3),?_⟩
 refine ds 26 (St.ldsX u i2 ta3) o rfl (e_pickT o rfl rfl) fun a o=>ds 27 (St.ldsX u i2 ta3) o rfl (e_as (e_move o rfl) (congrArg Value.bool hb108)) fun a o=>dg 28 (St.ldsX u i2 ta3) o rfl (fun w hl=>e_ldA o isAgg27 sizeOf27 rfl rfl (hl.cellsB t1)) fun a o=>dg 30 (St.ldsX u i2 ta3) o rfl (fun w hl=>e_ldA o isAgg27 sizeOf27 rfl rfl (hl.cellsB t1)) fun a o=>da1 (i:=29) (by kernel_rfl) ?_
 refine di (i:=29) rfl<|gy o rfl rfl<|c1 o rfl call30 (Z5l_c (hp_le _) (Enc.mono (St.up u) (show Enc.rep (α:=api_Prog) H36 [.slice oa39 r31.Lines.length cap40,.slice oa43 r31.Vols.length cap44,.slice oa47 r31.Locks.length cap48,.slice oa51 r31.Threads.length cap52,.slice oa55 r31.Recover.length cap56,.slice oa59 r31.Claims.length cap60] r31 from ⟨_,_,rfl,⟨_,_,rfl,hc41,hr42⟩,⟨_,_,rfl,⟨_,_,rfl,hc45,hr46⟩,⟨_,_,rfl,⟨_,_,rfl,hc49,hr50⟩,⟨_,_,rfl,⟨_,_,rfl,hc53,hr54⟩,⟨_,_,rfl,⟨_,_,rfl,hc57,hr58⟩,⟨_,_,rfl,hc61,hr62⟩⟩⟩⟩⟩⟩)) h110) ⟨rfl,trivial⟩ (fun v w a hR o=>?_)
 obtain ⟨oa111,cap112,vs113,rfl,hv114,hk⟩:=hR
 replace u:=u.fresh hk
 replace hv114:=hv114 H36
 refine ⟨fun _=>(St.ldsX u i2 (fun _ h=>(.tail _ (.tail _ (.tail _ (.tail _ h)))))),?_⟩
 refine da1 (i:=31) (by kernel_rfl) ?_
 refine di (i:=31) rfl<|gy o rfl rfl<|c1 o rfl call31 (Z4m_c (hp_le _) (Enc.mono (St.up u) (show Enc.rep (α:=api_Prog) H36 [.slice oa39 r31.Lines.length cap40,.slice oa43 r31.Vols.length cap44,.slice oa47 r31.Locks.length cap48,.slice oa51 r31.Threads.length cap52,.slice oa55 r31.Recover.length cap56,.slice oa59 r31.Claims.length cap60] r31 from ⟨_,_,rfl,⟨_,_,rfl,hc41,hr42⟩,⟨_,_,rfl,⟨_,_,rfl,hc45,hr46⟩,⟨_,_,rfl,⟨_,_,rfl,hc49,hr50⟩,⟨_,_,rfl,⟨_,_,rfl,hc53,hr54⟩,⟨_,_,rfl,⟨_,_,rfl,hc57,hr58⟩,⟨_,_,rfl,hc61,hr62⟩⟩⟩⟩⟩⟩)) h117) ⟨rfl,trivial⟩ (fun v w a hR o=>?_)
 obtain ⟨oa118,cap119,vs120,rfl,hv121,hk⟩:=hR
 replace u:=u.fresh hk
 replace hv121:=hv121 H36
 refine ⟨fun _=>(St.ldsX u i2 (fun _ h=>(.tail _ (.tail _ (.tail _ (.tail _ (.tail _ h))))))),?_⟩
 refine da1 (i:=32) (by kernel_rfl) ?_
 refine di (i:=32) rfl<|gy o rfl rfl<|cq o call29 (Z4p_c (hp_le _) (St.capO u t1) (St.srO u t1 hv114) (St.capO u t0) (St.srO u t0 hv121) h124) ⟨rfl,rfl,trivial⟩ u fun w a u o=>⟨fun _=>(St.ldsX u i2 (fun _ h=>(.tail _ (.tail _ (.tail _ (.tail _ (.tail _ h))))))),?_⟩
 refine ds 33 (St.ldsX u i2 (fun _ h=>(.tail _ (.tail _ (.tail _ (.tail _ (.tail _ h))))))) o rfl (e_pickT o rfl rfl) fun a o=>ds 34 (St.ldsX u i2 (fun _ h=>(.tail _ (.tail _ (.tail _ (.tail _ (.tail _ h))))))) o rfl (e_as (e_move o rfl) (congrArg Value.bool hb125)) fun a o=>dg 35 (St.ldsX u i2 (fun _ h=>(.tail _ (.tail _ (.tail _ (.tail _ (.tail _ h))))))) o rfl (fun w hl=>e_move o rfl) fun a o=>dg 36 (St.ldsX u i2 (fun _ h=>(.tail _ (.tail _ (.tail _ (.tail _ (.tail _ h))))))) o rfl (fun w hl=>e_move o rfl) fun a o=>dg 38 (St.ldsX u i2 (fun _ h=>(.tail _ (.tail _ (.tail _ (.tail _ (.tail _ h))))))) o rfl (fun w hl=>e_move o rfl) fun a o=>dg 39 (St.ldsX u i2 (fun _ h=>(.tail _ (.tail _ (.tail _ (.tail _ (.tail _ h))))))) o rfl (fun w hl=>e_move o rfl) fun a o=>da1 (i:=37) (by kernel_rfl) ?_
 refine di (i:=37) rfl<|gy o rfl rfl<|cq o call32 (Z5s_c (hp_le _) (St.capO u t5) (St.srO u t5 hv70) h127) ⟨rfl,rfl,trivial⟩ u fun w a u o=>⟨fun _=>(St.ldsX u i2 (fun _ h=>(.tail _ (.tail _ (.tail _ (.tail _ (.tail _ h))))))),?_⟩
 refine da1 (i:=40) (by kernel_rfl) ?_
 refine di (i:=40) rfl<|gy o rfl rfl<|cq o call33 (Z50_c (hp_le _) (St.capO u t5) (St.srO u t5 hv70) h129) ⟨rfl,rfl,trivial⟩ u fun w a u o=>⟨fun _=>(St.ldsX u i2 (fun _ h=>(.tail _ (.tail _ (.tail _ (.tail _ (.tail _ h))))))),?_⟩
 refine dg 41 (St.ldsX u i2 (fun _ h=>(.tail _ (.tail _ (.tail _ (.tail _ (.tail _ h))))))) o rfl (fun w hl=>e_eql o rfl rfl) fun a o=>ds 42 (St.ldsX u i2 (fun _ h=>(.tail _ (.tail _ (.tail _ (.tail _ (.tail _ h))))))) o rfl (e_pickT o rfl rfl) fun a o=>ds 43 (St.ldsX u i2 (fun _ h=>(.tail _ (.tail _ (.tail _ (.tail _ (.tail _ h))))))) o rfl (e_as (e_move o rfl) (congrArg Value.bool hb130)) fun a o=>dn 44 (St.ldsX u i2 (fun _ h=>(.tail _ (.tail _ (.tail _ (.tail _ (.tail _ h))))))) o rfl fun a o=>ds 45 (St.ldsX u i2 (fun _ h=>(.tail _ (.tail _ (.tail _ (.tail _ (.tail _ h))))))) o rfl (e_pickF o rfl rfl) fun a o=>ds 46 (St.ldsX u i2 (fun _ h=>(.tail _ (.tail _ (.tail _ (.tail _ (.tail _ h))))))) o rfl (e_asg o rfl) fun a o=>de (by kernel_rfl)<|tn<|wr<|?_
 obtain rfl:=si hm
 exact r1 o results5 rfl ⟨rfl,u.keep⟩
 replace hm:=ite_f hm hb125
 refine rdS 47 u wide fun w u=>dr 0 u o rfl (e_move o rfl) fun a o=>dq 1 (St.ld u) o rfl (fun w hl=>e_ldA o isAgg27 sizeOf27 rfl rfl (hl.cellsB t1)) fun a o=>da1 (i:=2) (by kernel_rfl) ?_
 refine di (i:=2) rfl<|c1 o rfl call22 (Z4l_c (hp_le _) (Enc.mono (St.up u) (show Enc.rep (α:=api_Prog) H36 [.slice oa39 r31.Lines.length cap40,.slice oa43 r31.Vols.length cap44,.slice oa47 r31.Locks.length cap48,.slice oa51 r31.Threads.length cap52,.slice oa55 r31.Recover.length cap56,.slice oa59 r31.Claims.length cap60] r31 from ⟨_,_,rfl,⟨_,_,rfl,hc41,hr42⟩,⟨_,_,rfl,⟨_,_,rfl,hc45,hr46⟩,⟨_,_,rfl,⟨_,_,rfl,hc49,hr50⟩,⟨_,_,rfl,⟨_,_,rfl,hc53,hr54⟩,⟨_,_,rfl,⟨_,_,rfl,hc57,hr58⟩,⟨_,_,rfl,hc61,hr62⟩⟩⟩⟩⟩⟩)) h73) ⟨rfl,trivial⟩ (fun v w a hR o=>?_)
 obtain ⟨oa74,cap75,vs76,rfl,hv77,hk⟩:=hR
 replace u:=u.fresh hk
 replace hv77:=hv77 H36
 refine ⟨fun _=>(St.ldsX u i2 ta1),?_⟩
 refine da1 (i:=3) (by kernel_rfl) ?_
 refine di (i:=3) rfl<|cq o call21 (Z54_c (hp_le _) (St.capO u t1) (St.srO u t1 hv70) (St.capO u t0) (St.srO u t0 hv77) h80) ⟨rfl,rfl,trivial⟩ u fun w a u o=>⟨fun _=>(St.ldsX u i2 ta1),?_⟩
 refine ds 4 (St.ldsX u i2 ta1) o rfl (e_as (e_move o rfl) (congrArg Value.bool hb81)) fun a o=>dg 5 (St.ldsX u i2 ta1) o rfl (fun w hl=>e_ldA o isAgg27 sizeOf27 rfl rfl (hl.cellsB t1)) fun a o=>dg 7 (St.ldsX u i2 ta1) o rfl (fun w hl=>e_ldA o isAgg27 sizeOf27 rfl rfl (hl.cellsB t1)) fun a o=>da1 (i:=6) (by kernel_rfl) ?_
 refine di (i:=6) rfl<|gy o rfl rfl<|cq o call23 (Z5t_c (hp_le _) (Enc.mono (St.up u) (show Enc.rep (α:=api_Prog) H36 [.slice oa39 r31.Lines.length cap40,.slice oa43 r31.Vols.length cap44,.slice oa47 r31.Locks.length cap48,.slice oa51 r31.Threads.length cap52,.slice oa55 r31.Recover.length cap56,.slice oa59 r31.Claims.length cap60] r31 from ⟨_,_,rfl,⟨_,_,rfl,hc41,hr42⟩,⟨_,_,rfl,⟨_,_,rfl,hc45,hr46⟩,⟨_,_,rfl,⟨_,_,rfl,hc49,hr50⟩,⟨_,_,rfl,⟨_,_,rfl,hc53,hr54⟩,⟨_,_,rfl,⟨_,_,rfl,hc57,hr58⟩,⟨_,_,rfl,hc61,hr62⟩⟩⟩⟩⟩⟩)) h83) ⟨rfl,trivial⟩ u fun w a u o=>⟨fun _=>(St.ldsX u i2 ta1),?_⟩
 refine da1 (i:=8) (by kernel_rfl) ?_
 refine di (i:=8) rfl<|gy o rfl rfl<|cq o call24 (Z53_c (hp_le _) (Enc.mono (St.up u) (show Enc.rep (α:=api_Prog) H36 [.slice oa39 r31.Lines.length cap40,.slice oa43 r31.Vols.length cap44,.slice oa47 r31.Locks.length cap48,.slice oa51 r31.Threads.length cap52,.slice oa55 r31.Recover.length cap56,.slice oa59 r31.Claims.length cap60] r31 from ⟨_,_,rfl,⟨_,_,rfl,hc41,hr42⟩,⟨_,_,rfl,⟨_,_,rfl,hc45,hr46⟩,⟨_,_,rfl,⟨_,_,rfl,hc49,hr50⟩,⟨_,_,rfl,⟨_,_,rfl,hc53,hr54⟩,⟨_,_,rfl,⟨_,_,rfl,hc57,hr58⟩,⟨_,_,rfl,hc61,hr62⟩⟩⟩⟩⟩⟩)) h85) ⟨rfl,trivial⟩ u fun w a u o=>⟨fun _=>(St.ldsX u i2 ta1),?_⟩
 refine dg 9 (St.ldsX u i2 ta1) o rfl (fun w hl=>e_eql o rfl rfl) fun a o=>ds 10 (St.ldsX u i2 ta1) o rfl (e_pickT o rfl rfl) fun a o=>ds 11 (St.ldsX u i2 ta1) o rfl (e_as (e_move o rfl) (congrArg Value.bool hb86)) fun a o=>dg 12 (St.ldsX u i2 ta1) o rfl (fun w hl=>e_ldA o isAgg27 sizeOf27 rfl rfl (hl.cellsB t1)) fun a o=>dg 13 (St.ldsX u i2 ta1) o rfl (fun w hl=>e_move o rfl) fun a o=>dg 15 (St.ldsX u i2 ta1) o rfl (fun w hl=>e_ldA o isAgg27 sizeOf27 rfl rfl (hl.cellsB t1)) fun a o=>dg 16 (St.ldsX u i2 ta1) o rfl (fun w hl=>e_move o rfl) fun a o=>da1 (i:=14) (by kernel_rfl) ?_
 refine di (i:=14) rfl<|gy o rfl rfl<|cq o call25 (Z5n_c (hp_le _) (Enc.mono (St.up u) (show Enc.rep (α:=api_Prog) H36 [.slice oa39 r31.Lines.length cap40,.slice oa43 r31.Vols.length cap44,.slice oa47 r31.Locks.length cap48,.slice oa51 r31.Threads.length cap52,.slice oa55 r31.Recover.length cap56,.slice oa59 r31.Claims.length cap60] r31 from ⟨_,_,rfl,⟨_,_,rfl,hc41,hr42⟩,⟨_,_,rfl,⟨_,_,rfl,hc45,hr46⟩,⟨_,_,rfl,⟨_,_,rfl,hc49,hr50⟩,⟨_,_,rfl,⟨_,_,rfl,hc53,hr54⟩,⟨_,_,rfl,⟨_,_,rfl,hc57,hr58⟩,⟨_,_,rfl,hc61,hr62⟩⟩⟩⟩⟩⟩)) h88) ⟨rfl,rfl,trivial⟩ u fun w a u o=>⟨fun _=>(St.ldsX u i2 ta1),?_⟩
 refine da1 (i:=17) (by kernel_rfl) ?_
 refine di (i:=17) rfl<|gy o rfl rfl<|cq o call26 (Z4s_c (hp_le _) (Enc.mono (St.up u) (show Enc.rep (α:=api_Prog) H36 [.slice oa39 r31.Lines.length cap40,.slice oa43 r31.Vols.length cap44,.slice oa47 r31.Locks.length cap48,.slice oa51 r31.Threads.length cap52,.slice oa55 r31.Recover.length cap56,.slice oa59 r31.Claims.length cap60] r31 from ⟨_,_,rfl,⟨_,_,rfl,hc41,hr42⟩,⟨_,_,rfl,⟨_,_,rfl,hc45,hr46⟩,⟨_,_,rfl,⟨_,_,rfl,hc49,hr50⟩,⟨_,_,rfl,⟨_,_,rfl,hc53,hr54⟩,⟨_,_,rfl,⟨_,_,rfl,hc57,hr58⟩,⟨_,_,rfl,hc61,hr62⟩⟩⟩⟩⟩⟩)) h90) ⟨rfl,rfl,trivial⟩ u fun w a u o=>⟨fun _=>(St.ldsX u i2 ta1),?_⟩
 refine dg 18 (St.ldsX u i2 ta1) o rfl (fun w hl=>e_eql o rfl rfl) fun a o=>ds 19 (St.ldsX u i2 ta1) o rfl (e_pickT o rfl rfl) fun a o=>ds 20 (St.ldsX u i2 ta1) o rfl (e_as (e_move o rfl) (congrArg Value.bool hb91)) fun a o=>dg 21 (St.ldsX u i2 ta1) o rfl (fun w hl=>e_ldA o isAgg27 sizeOf27 rfl rfl (hl.cellsB t1)) fun a o=>dg 23 (St.ldsX u i2 ta1) o rfl (fun w hl=>e_ldA o isAgg27 sizeOf27 rfl rfl (hl.cellsB t1)) fun a o=>da1 (i:=22) (by kernel_rfl) ?_
 refine di (i:=22) rfl<|gy o rfl rfl<|c1 o rfl call27 (Z5p_c (hp_le _) (Enc.mono (St.up u) (show Enc.rep (α:=api_Prog) H36 [.slice oa39 r31.Lines.length cap40,.slice oa43 r31.Vols.length cap44,.slice oa47 r31.Locks.length cap48,.slice oa51 r31.Threads.length cap52,.slice oa55 r31.Recover.length cap56,.slice oa59 r31.Claims.length cap60] r31 from ⟨_,_,rfl,⟨_,_,rfl,hc41,hr42⟩,⟨_,_,rfl,⟨_,_,rfl,hc45,hr46⟩,⟨_,_,rfl,⟨_,_,rfl,hc49,hr50⟩,⟨_,_,rfl,⟨_,_,rfl,hc53,hr54⟩,⟨_,_,rfl,⟨_,_,rfl,hc57,hr58⟩,⟨_,_,rfl,hc61,hr62⟩⟩⟩⟩⟩⟩)) h93) ⟨rfl,trivial⟩ (fun v w a hR o=>?_)
 obtain ⟨oa94,cap95,vs96,rfl,hv97,hk⟩:=hR
 replace u:=u.fresh hk
 replace hv97:=hv97 H36
 refine ⟨fun _=>(St.ldsX u i2 ta2),?_⟩
 refine da1 (i:=24) (by kernel_rfl) ?_
 refine di (i:=24) rfl<|gy o rfl rfl<|c1 o rfl call28 (Z4w_c (hp_le _) (Enc.mono (St.up u) (show Enc.rep (α:=api_Prog) H36 [.slice oa39 r31.Lines.length cap40,.slice oa43 r31.Vols.length cap44,.slice oa47 r31.Locks.length cap48,.slice oa51 r31.Threads.length cap52,.slice oa55 r31.Recover.length cap56,.slice oa59 r31.Claims.length cap60] r31 from ⟨_,_,rfl,⟨_,_,rfl,hc41,hr42⟩,⟨_,_,rfl,⟨_,_,rfl,hc45,hr46⟩,⟨_,_,rfl,⟨_,_,rfl,hc49,hr50⟩,⟨_,_,rfl,⟨_,_,rfl,hc53,hr54⟩,⟨_,_,rfl,⟨_,_,rfl,hc57,hr58⟩,⟨_,_,rfl,hc61,hr62⟩⟩⟩⟩⟩⟩)) h100) ⟨rfl,trivial⟩ (fun v w a hR o=>?_)
 obtain ⟨oa101,cap102,vs103,rfl,hv104,hk⟩:=hR
 replace u:=u.fresh hk
 replace hv104:=hv104 H36
 refine ⟨fun _=>(St.ldsX u i2 ta3),?_⟩
 refine da1 (i:=25) (by kernel_rfl) ?_
 refine di (i:=25) rfl<|gy o rfl rfl<|cq o call21 (Z54_c (hp_le _) (St.capO u t1) (St.srO u t1 hv97) (St.capO u t0) (St.srO u t0 hv104) h107) ⟨rfl,rfl,trivial⟩ u fun w a u o=>⟨fun _=>(St.ldsX u i2 ta3),?_⟩
 refine ds 26 (St.ldsX u i2 ta3) o rfl (e_pickT o rfl rfl) fun a o=>ds 27 (St.ldsX u i2 ta3) o rfl (e_as (e_move o rfl) (congrArg Value.bool hb108)) fun a o=>dg 28 (St.ldsX u i2 ta3) o rfl (fun w hl=>e_ldA o isAgg27 sizeOf27 rfl rfl (hl.cellsB t1)) fun a o=>dg 30 (St.ldsX u i2 ta3) o rfl (fun w hl=>e_ldA o isAgg27 sizeOf27 rfl rfl (hl.cellsB t1)) fun a o=>da1 (i:=29) (by kernel_rfl) ?_
 refine di (i:=29) rfl<|gy o rfl rfl<|c1 o rfl call30 (Z5l_c (hp_le _) (Enc.mono (St.up u) (show Enc.rep (α:=api_Prog) H36 [.slice oa39 r31.Lines.length cap40,.slice oa43 r31.Vols.length cap44,.slice oa47 r31.Locks.length cap48,.slice oa51 r31.Threads.length cap52,.slice oa55 r31.Recover.length cap56,.slice oa59 r31.Claims.length cap60] r31 from ⟨_,_,rfl,⟨_,_,rfl,hc41,hr42⟩,⟨_,_,rfl,⟨_,_,rfl,hc45,hr46⟩,⟨_,_,rfl,⟨_,_,rfl,hc49,hr50⟩,⟨_,_,rfl,⟨_,_,rfl,hc53,hr54⟩,⟨_,_,rfl,⟨_,_,rfl,hc57,hr58⟩,⟨_,_,rfl,hc61,hr62⟩⟩⟩⟩⟩⟩)) h110) ⟨rfl,trivial⟩ (fun v w a hR o=>?_)
 obtain ⟨oa111,cap112,vs113,rfl,hv114,hk⟩:=hR
 replace u:=u.fresh hk
 replace hv114:=hv114 H36
 refine ⟨fun _=>(St.ldsX u i2 (fun _ h=>(.tail _ (.tail _ (.tail _ (.tail _ h)))))),?_⟩
 refine da1 (i:=31) (by kernel_rfl) ?_
 refine di (i:=31) rfl<|gy o rfl rfl<|c1 o rfl call31 (Z4m_c (hp_le _) (Enc.mono (St.up u) (show Enc.rep (α:=api_Prog) H36 [.slice oa39 r31.Lines.length cap40,.slice oa43 r31.Vols.length cap44,.slice oa47 r31.Locks.length cap48,.slice oa51 r31.Threads.length cap52,.slice oa55 r31.Recover.length cap56,.slice oa59 r31.Claims.length cap60] r31 from ⟨_,_,rfl,⟨_,_,rfl,hc41,hr42⟩,⟨_,_,rfl,⟨_,_,rfl,hc45,hr46⟩,⟨_,_,rfl,⟨_,_,rfl,hc49,hr50⟩,⟨_,_,rfl,⟨_,_,rfl,hc53,hr54⟩,⟨_,_,rfl,⟨_,_,rfl,hc57,hr58⟩,⟨_,_,rfl,hc61,hr62⟩⟩⟩⟩⟩⟩)) h117) ⟨rfl,trivial⟩ (fun v w a hR o=>?_)
 obtain ⟨oa118,cap119,vs120,rfl,hv121,hk⟩:=hR
 replace u:=u.fresh hk
 replace hv121:=hv121 H36
 refine ⟨fun _=>(St.ldsX u i2 (fun _ h=>(.tail _ (.tail _ (.tail _ (.tail _ (.tail _ h))))))),?_⟩
 refine da1 (i:=32) (by kernel_rfl) ?_
 refine di (i:=32) rfl<|gy o rfl rfl<|cq o call29 (Z4p_c (hp_le _) (St.capO u t1) (St.srO u t1 hv114) (St.capO u t0) (St.srO u t0 hv121) h124) ⟨rfl,rfl,trivial⟩ u fun w a u o=>⟨fun _=>(St.ldsX u i2 (fun _ h=>(.tail _ (.tail _ (.tail _ (.tail _ (.tail _ h))))))),?_⟩
 refine ds 33 (St.ldsX u i2 (fun _ h=>(.tail _ (.tail _ (.tail _ (.tail _ (.tail _ h))))))) o rfl (e_pickT o rfl rfl) fun a o=>ds 34 (St.ldsX u i2 (fun _ h=>(.tail _ (.tail _ (.tail _ (.tail _ (.tail _ h))))))) o rfl (e_as (e_move o rfl) (congrArg Value.bool hb125)) fun a o=>dn 35 (St.ldsX u i2 (fun _ h=>(.tail _ (.tail _ (.tail _ (.tail _ (.tail _ h))))))) o rfl fun a o=>dn 36 (St.ldsX u i2 (fun _ h=>(.tail _ (.tail _ (.tail _ (.tail _ (.tail _ h))))))) o rfl fun a o=>dn 37 (St.ldsX u i2 (fun _ h=>(.tail _ (.tail _ (.tail _ (.tail _ (.tail _ h))))))) o rfl fun a o=>dn 38 (St.ldsX u i2 (fun _ h=>(.tail _ (.tail _ (.tail _ (.tail _ (.tail _ h))))))) o rfl fun a o=>dn 39 (St.ldsX u i2 (fun _ h=>(.tail _ (.tail _ (.tail _ (.tail _ (.tail _ h))))))) o rfl fun a o=>dn 40 (St.ldsX u i2 (fun _ h=>(.tail _ (.tail _ (.tail _ (.tail _ (.tail _ h))))))) o rfl fun a o=>dn 41 (St.ldsX u i2 (fun _ h=>(.tail _ (.tail _ (.tail _ (.tail _ (.tail _ h))))))) o rfl fun a o=>ds 42 (St.ldsX u i2 (fun _ h=>(.tail _ (.tail _ (.tail _ (.tail _ (.tail _ h))))))) o rfl (e_pickF o rfl rfl) fun a o=>ds 43 (St.ldsX u i2 (fun _ h=>(.tail _ (.tail _ (.tail _ (.tail _ (.tail _ h))))))) o rfl (e_move o rfl) fun a o=>dn 44 (St.ldsX u i2 (fun _ h=>(.tail _ (.tail _ (.tail _ (.tail _ (.tail _ h))))))) o rfl fun a o=>ds 45 (St.ldsX u i2 (fun _ h=>(.tail _ (.tail _ (.tail _ (.tail _ (.tail _ h))))))) o rfl (e_pickF o rfl rfl) fun a o=>ds 46 (St.ldsX u i2 (fun _ h=>(.tail _ (.tail _ (.tail _ (.tail _ (.tail _ h))))))) o rfl (e_asg o rfl) fun a o=>de (by kernel_rfl)<|tn<|wr<|?_
 obtain rfl:=si hm
 exact r1 o results5 rfl ⟨rfl,u.keep⟩
 replace hm:=ite_f hm hb108
 refine rdS 47 u wide fun w u=>dr 0 u o rfl (e_move o rfl) fun a o=>dq 1 (St.ld u) o rfl (fun w hl=>e_ldA o isAgg27 sizeOf27 rfl rfl (hl.cellsB t1)) fun a o=>da1 (i:=2) (by kernel_rfl) ?_
 refine di (i:=2) rfl<|c1 o rfl call22 (Z4l_c (hp_le _) (Enc.mono (St.up u) (show Enc.rep (α:=api_Prog) H36 [.slice oa39 r31.Lines.length cap40,.slice oa43 r31.Vols.length cap44,.slice oa47 r31.Locks.length cap48,.slice oa51 r31.Threads.length cap52,.slice oa55 r31.Recover.length cap56,.slice oa59 r31.Claims.length cap60] r31 from ⟨_,_,rfl,⟨_,_,rfl,hc41,hr42⟩,⟨_,_,rfl,⟨_,_,rfl,hc45,hr46⟩,⟨_,_,rfl,⟨_,_,rfl,hc49,hr50⟩,⟨_,_,rfl,⟨_,_,rfl,hc53,hr54⟩,⟨_,_,rfl,⟨_,_,rfl,hc57,hr58⟩,⟨_,_,rfl,hc61,hr62⟩⟩⟩⟩⟩⟩)) h73) ⟨rfl,trivial⟩ (fun v w a hR o=>?_)
 obtain ⟨oa74,cap75,vs76,rfl,hv77,hk⟩:=hR
 replace u:=u.fresh hk
 replace hv77:=hv77 H36
 refine ⟨fun _=>(St.ldsX u i2 ta1),?_⟩
 refine da1 (i:=3) (by kernel_rfl) ?_
 refine di (i:=3) rfl<|cq o call21 (Z54_c (hp_le _) (St.capO u t1) (St.srO u t1 hv70) (St.capO u t0) (St.srO u t0 hv77) h80) ⟨rfl,rfl,trivial⟩ u fun w a u o=>⟨fun _=>(St.ldsX u i2 ta1),?_⟩
 refine ds 4 (St.ldsX u i2 ta1) o rfl (e_as (e_move o rfl) (congrArg Value.bool hb81)) fun a o=>dg 5 (St.ldsX u i2 ta1) o rfl (fun w hl=>e_ldA o isAgg27 sizeOf27 rfl rfl (hl.cellsB t1)) fun a o=>dg 7 (St.ldsX u i2 ta1) o rfl (fun w hl=>e_ldA o isAgg27 sizeOf27 rfl rfl (hl.cellsB t1)) fun a o=>da1 (i:=6) (by kernel_rfl) ?_
 refine di (i:=6) rfl<|gy o rfl rfl<|cq o call23 (Z5t_c (hp_le _) (Enc.mono (St.up u) (show Enc.rep (α:=api_Prog) H36 [.slice oa39 r31.Lines.length cap40,.slice oa43 r31.Vols.length cap44,.slice oa47 r31.Locks.length cap48,.slice oa51 r31.Threads.length cap52,.slice oa55 r31.Recover.length cap56,.slice oa59 r31.Claims.length cap60] r31 from ⟨_,_,rfl,⟨_,_,rfl,hc41,hr42⟩,⟨_,_,rfl,⟨_,_,rfl,hc45,hr46⟩,⟨_,_,rfl,⟨_,_,rfl,hc49,hr50⟩,⟨_,_,rfl,⟨_,_,rfl,hc53,hr54⟩,⟨_,_,rfl,⟨_,_,rfl,hc57,hr58⟩,⟨_,_,rfl,hc61,hr62⟩⟩⟩⟩⟩⟩)) h83) ⟨rfl,trivial⟩ u fun w a u o=>⟨fun _=>(St.ldsX u i2 ta1),?_⟩
 refine da1 (i:=8) (by kernel_rfl) ?_
 refine di (i:=8) rfl<|gy o rfl rfl<|cq o call24 (Z53_c (hp_le _) (Enc.mono (St.up u) (show Enc.rep (α:=api_Prog) H36 [.slice oa39 r31.Lines.length cap40,.slice oa43 r31.Vols.length cap44,.slice oa47 r31.Locks.length cap48,.slice oa51 r31.Threads.length cap52,.slice oa55 r31.Recover.length cap56,.slice oa59 r31.Claims.length cap60] r31 from ⟨_,_,rfl,⟨_,_,rfl,hc41,hr42⟩,⟨_,_,rfl,⟨_,_,rfl,hc45,hr46⟩,⟨_,_,rfl,⟨_,_,rfl,hc49,hr50⟩,⟨_,_,rfl,⟨_,_,rfl,hc53,hr54⟩,⟨_,_,rfl,⟨_,_,rfl,hc57,hr58⟩,⟨_,_,rfl,hc61,hr62⟩⟩⟩⟩⟩⟩)) h85) ⟨rfl,trivial⟩ u fun w a u o=>⟨fun _=>(St.ldsX u i2 ta1),?_⟩
 refine dg 9 (St.ldsX u i2 ta1) o rfl (fun w hl=>e_eql o rfl rfl) fun a o=>ds 10 (St.ldsX u i2 ta1) o rfl (e_pickT o rfl rfl) fun a o=>ds 11 (St.ldsX u i2 ta1) o rfl (e_as (e_move o rfl) (congrArg Value.bool hb86)) fun a o=>dg 12 (St.ldsX u i2 ta1) o rfl (fun w hl=>e_ldA o isAgg27 sizeOf27 rfl rfl (hl.cellsB t1)) fun a o=>dg 13 (St.ldsX u i2 ta1) o rfl (fun w hl=>e_move o rfl) fun a o=>dg 15 (St.ldsX u i2 ta1) o rfl (fun w hl=>e_ldA o isAgg27 sizeOf27 rfl rfl (hl.cellsB t1)) fun a o=>dg 16 (St.ldsX u i2 ta1) o rfl (fun w hl=>e_move o rfl) fun a o=>da1 (i:=14) (by kernel_rfl) ?_
 refine di (i:=14) rfl<|gy o rfl rfl<|cq o call25 (Z5n_c (hp_le _) (Enc.mono (St.up u) (show Enc.rep (α:=api_Prog) H36 [.slice oa39 r31.Lines.length cap40,.slice oa43 r31.Vols.length cap44,.slice oa47 r31.Locks.length cap48,.slice oa51 r31.Threads.length cap52,.slice oa55 r31.Recover.length cap56,.slice oa59 r31.Claims.length cap60] r31 from ⟨_,_,rfl,⟨_,_,rfl,hc41,hr42⟩,⟨_,_,rfl,⟨_,_,rfl,hc45,hr46⟩,⟨_,_,rfl,⟨_,_,rfl,hc49,hr50⟩,⟨_,_,rfl,⟨_,_,rfl,hc53,hr54⟩,⟨_,_,rfl,⟨_,_,rfl,hc57,hr58⟩,⟨_,_,rfl,hc61,hr62⟩⟩⟩⟩⟩⟩)) h88) ⟨rfl,rfl,trivial⟩ u fun w a u o=>⟨fun _=>(St.ldsX u i2 ta1),?_⟩
 refine da1 (i:=17) (by kernel_rfl) ?_
 refine di (i:=17) rfl<|gy o rfl rfl<|cq o call26 (Z4s_c (hp_le _) (Enc.mono (St.up u) (show Enc.rep (α:=api_Prog) H36 [.slice oa39 r31.Lines.length cap40,.slice oa43 r31.Vols.length cap44,.slice oa47 r31.Locks.length cap48,.slice oa51 r31.Threads.length cap52,.slice oa55 r31.Recover.length cap56,.slice oa59 r31.Claims.length cap60] r31 from ⟨_,_,rfl,⟨_,_,rfl,hc41,hr42⟩,⟨_,_,rfl,⟨_,_,rfl,hc45,hr46⟩,⟨_,_,rfl,⟨_,_,rfl,hc49,hr50⟩,⟨_,_,rfl,⟨_,_,rfl,hc53,hr54⟩,⟨_,_,rfl,⟨_,_,rfl,hc57,hr58⟩,⟨_,_,rfl,hc61,hr62⟩⟩⟩⟩⟩⟩)) h90) ⟨rfl,rfl,trivial⟩ u fun w a u o=>⟨fun _=>(St.ldsX u i2 ta1),?_⟩
 refine dg 18 (St.ldsX u i2 ta1) o rfl (fun w hl=>e_eql o rfl rfl) fun a o=>ds 19 (St.ldsX u i2 ta1) o rfl (e_pickT o rfl rfl) fun a o=>ds 20 (St.ldsX u i2 ta1) o rfl (e_as (e_move o rfl) (congrArg Value.bool hb91)) fun a o=>dg 21 (St.ldsX u i2 ta1) o rfl (fun w hl=>e_ldA o isAgg27 sizeOf27 rfl rfl (hl.cellsB t1)) fun a o=>dg 23 (St.ldsX u i2 ta1) o rfl (fun w hl=>e_ldA o isAgg27 sizeOf27 rfl rfl (hl.cellsB t1)) fun a o=>da1 (i:=22) (by kernel_rfl) ?_
 refine di (i:=22) rfl<|gy o rfl rfl<|c1 o rfl call27 (Z5p_c (hp_le _) (Enc.mono (St.up u) (show Enc.rep (α:=api_Prog) H36 [.slice oa39 r31.Lines.length cap40,.slice oa43 r31.Vols.length cap44,.slice oa47 r31.Locks.length cap48,.slice oa51 r31.Threads.length cap52,.slice oa55 r31.Recover.length cap56,.slice oa59 r31.Claims.length cap60] r31 from ⟨_,_,rfl,⟨_,_,rfl,hc41,hr42⟩,⟨_,_,rfl,⟨_,_,rfl,hc45,hr46⟩,⟨_,_,rfl,⟨_,_,rfl,hc49,hr50⟩,⟨_,_,rfl,⟨_,_,rfl,hc53,hr54⟩,⟨_,_,rfl,⟨_,_,rfl,hc57,hr58⟩,⟨_,_,rfl,hc61,hr62⟩⟩⟩⟩⟩⟩)) h93) ⟨rfl,trivial⟩ (fun v w a hR o=>?_)
 obtain ⟨oa94,cap95,vs96,rfl,hv97,hk⟩:=hR
 replace u:=u.fresh hk
 replace hv97:=hv97 H36
 refine ⟨fun _=>(St.ldsX u i2 ta2),?_⟩
 refine da1 (i:=24) (by kernel_rfl) ?_
 refine di (i:=24) rfl<|gy o rfl rfl<|c1 o rfl call28 (Z4w_c (hp_le _) (Enc.mono (St.up u) (show Enc.rep (α:=api_Prog) H36 [.slice oa39 r31.Lines.length cap40,.slice oa43 r31.Vols.length cap44,.slice oa47 r31.Locks.length cap48,.slice oa51 r31.Threads.length cap52,.slice oa55 r31.Recover.length cap56,.slice oa59 r31.Claims.length cap60] r31 from ⟨_,_,rfl,⟨_,_,rfl,hc41,hr42⟩,⟨_,_,rfl,⟨_,_,rfl,hc45,hr46⟩,⟨_,_,rfl,⟨_,_,rfl,hc49,hr50⟩,⟨_,_,rfl,⟨_,_,rfl,hc53,hr54⟩,⟨_,_,rfl,⟨_,_,rfl,hc57,hr58⟩,⟨_,_,rfl,hc61,hr62⟩⟩⟩⟩⟩⟩)) h100) ⟨rfl,trivial⟩ (fun v w a hR o=>?_)
 obtain ⟨oa101,cap102,vs103,rfl,hv104,hk⟩:=hR
 replace u:=u.fresh hk
 replace hv104:=hv104 H36
 refine ⟨fun _=>(St.ldsX u i2 ta3),?_⟩
 refine da1 (i:=25) (by kernel_rfl) ?_
 refine di (i:=25) rfl<|gy o rfl rfl<|cq o call21 (Z54_c (hp_le _) (St.capO u t1) (St.srO u t1 hv97) (St.capO u t0) (St.srO u t0 hv104) h107) ⟨rfl,rfl,trivial⟩ u fun w a u o=>⟨fun _=>(St.ldsX u i2 ta3),?_⟩
 refine ds 26 (St.ldsX u i2 ta3) o rfl (e_pickT o rfl rfl) fun a o=>ds 27 (St.ldsX u i2 ta3) o rfl (e_as (e_move o rfl) (congrArg Value.bool hb108)) fun a o=>dn 28 (St.ldsX u i2 ta3) o rfl fun a o=>dn 29 (St.ldsX u i2 ta3) o rfl fun a o=>dn 30 (St.ldsX u i2 ta3) o rfl fun a o=>dn 31 (St.ldsX u i2 ta3) o rfl fun a o=>dn 32 (St.ldsX u i2 ta3) o rfl fun a o=>ds 33 (St.ldsX u i2 ta3) o rfl (e_pickF o rfl rfl) fun a o=>ds 34 (St.ldsX u i2 ta3) o rfl (e_move o rfl) fun a o=>dn 35 (St.ldsX u i2 ta3) o rfl fun a o=>dn 36 (St.ldsX u i2 ta3) o rfl fun a o=>dn 37 (St.ldsX u i2 ta3) o rfl fun a o=>dn 38 (St.ldsX u i2 ta3) o rfl fun a o=>dn 39 (St.ldsX u i2 ta3) o rfl fun a o=>dn 40 (St.ldsX u i2 ta3) o rfl fun a o=>dn 41 (St.ldsX u i2 ta3) o rfl fun a o=>ds 42 (St.ldsX u i2 ta3) o rfl (e_pickF o rfl rfl) fun a o=>ds 43 (St.ldsX u i2 ta3) o rfl (e_move o rfl) fun a o=>dn 44 (St.ldsX u i2 ta3) o rfl fun a o=>ds 45 (St.ldsX u i2 ta3) o rfl (e_pickF o rfl rfl) fun a o=>ds 46 (St.ldsX u i2 ta3) o rfl (e_asg o rfl) fun a o=>de (by kernel_rfl)<|tn<|wr<|?_
 obtain rfl:=si hm
 exact r1 o results5 rfl ⟨rfl,u.keep⟩
 replace hm:=itp_f hm hb91
 refine rdS 47 u wide fun w u=>dr 0 u o rfl (e_move o rfl) fun a o=>dq 1 (St.ld u) o rfl (fun w hl=>e_ldA o isAgg27 sizeOf27 rfl rfl (hl.cellsB t1)) fun a o=>da1 (i:=2) (by kernel_rfl) ?_
 refine di (i:=2) rfl<|c1 o rfl call22 (Z4l_c (hp_le _) (Enc.mono (St.up u) (show Enc.rep (α:=api_Prog) H36 [.slice oa39 r31.Lines.length cap40,.slice oa43 r31.Vols.length cap44,.slice oa47 r31.Locks.length cap48,.slice oa51 r31.Threads.length cap52,.slice oa55 r31.Recover.length cap56,.slice oa59 r31.Claims.length cap60] r31 from ⟨_,_,rfl,⟨_,_,rfl,hc41,hr42⟩,⟨_,_,rfl,⟨_,_,rfl,hc45,hr46⟩,⟨_,_,rfl,⟨_,_,rfl,hc49,hr50⟩,⟨_,_,rfl,⟨_,_,rfl,hc53,hr54⟩,⟨_,_,rfl,⟨_,_,rfl,hc57,hr58⟩,⟨_,_,rfl,hc61,hr62⟩⟩⟩⟩⟩⟩)) h73) ⟨rfl,trivial⟩ (fun v w a hR o=>?_)
 obtain ⟨oa74,cap75,vs76,rfl,hv77,hk⟩:=hR
 replace u:=u.fresh hk
 replace hv77:=hv77 H36
 refine ⟨fun _=>(St.ldsX u i2 ta1),?_⟩
 refine da1 (i:=3) (by kernel_rfl) ?_
 refine di (i:=3) rfl<|cq o call21 (Z54_c (hp_le _) (St.capO u t1) (St.srO u t1 hv70) (St.capO u t0) (St.srO u t0 hv77) h80) ⟨rfl,rfl,trivial⟩ u fun w a u o=>⟨fun _=>(St.ldsX u i2 ta1),?_⟩
 refine ds 4 (St.ldsX u i2 ta1) o rfl (e_as (e_move o rfl) (congrArg Value.bool hb81)) fun a o=>dg 5 (St.ldsX u i2 ta1) o rfl (fun w hl=>e_ldA o isAgg27 sizeOf27 rfl rfl (hl.cellsB t1)) fun a o=>dg 7 (St.ldsX u i2 ta1) o rfl (fun w hl=>e_ldA o isAgg27 sizeOf27 rfl rfl (hl.cellsB t1)) fun a o=>da1 (i:=6) (by kernel_rfl) ?_
 refine di (i:=6) rfl<|gy o rfl rfl<|cq o call23 (Z5t_c (hp_le _) (Enc.mono (St.up u) (show Enc.rep (α:=api_Prog) H36 [.slice oa39 r31.Lines.length cap40,.slice oa43 r31.Vols.length cap44,.slice oa47 r31.Locks.length cap48,.slice oa51 r31.Threads.length cap52,.slice oa55 r31.Recover.length cap56,.slice oa59 r31.Claims.length cap60] r31 from ⟨_,_,rfl,⟨_,_,rfl,hc41,hr42⟩,⟨_,_,rfl,⟨_,_,rfl,hc45,hr46⟩,⟨_,_,rfl,⟨_,_,rfl,hc49,hr50⟩,⟨_,_,rfl,⟨_,_,rfl,hc53,hr54⟩,⟨_,_,rfl,⟨_,_,rfl,hc57,hr58⟩,⟨_,_,rfl,hc61,hr62⟩⟩⟩⟩⟩⟩)) h83) ⟨rfl,trivial⟩ u fun w a u o=>⟨fun _=>(St.ldsX u i2 ta1),?_⟩
 refine da1 (i:=8) (by kernel_rfl) ?_
 refine di (i:=8) rfl<|gy o rfl rfl<|cq o call24 (Z53_c (hp_le _) (Enc.mono (St.up u) (show Enc.rep (α:=api_Prog) H36 [.slice oa39 r31.Lines.length cap40,.slice oa43 r31.Vols.length cap44,.slice oa47 r31.Locks.length cap48,.slice oa51 r31.Threads.length cap52,.slice oa55 r31.Recover.length cap56,.slice oa59 r31.Claims.length cap60] r31 from ⟨_,_,rfl,⟨_,_,rfl,hc41,hr42⟩,⟨_,_,rfl,⟨_,_,rfl,hc45,hr46⟩,⟨_,_,rfl,⟨_,_,rfl,hc49,hr50⟩,⟨_,_,rfl,⟨_,_,rfl,hc53,hr54⟩,⟨_,_,rfl,⟨_,_,rfl,hc57,hr58⟩,⟨_,_,rfl,hc61,hr62⟩⟩⟩⟩⟩⟩)) h85) ⟨rfl,trivial⟩ u fun w a u o=>⟨fun _=>(St.ldsX u i2 ta1),?_⟩
 refine dg 9 (St.ldsX u i2 ta1) o rfl (fun w hl=>e_eql o rfl rfl) fun a o=>ds 10 (St.ldsX u i2 ta1) o rfl (e_pickT o rfl rfl) fun a o=>ds 11 (St.ldsX u i2 ta1) o rfl (e_as (e_move o rfl) (congrArg Value.bool hb86)) fun a o=>dg 12 (St.ldsX u i2 ta1) o rfl (fun w hl=>e_ldA o isAgg27 sizeOf27 rfl rfl (hl.cellsB t1)) fun a o=>dg 13 (St.ldsX u i2 ta1) o rfl (fun w hl=>e_move o rfl) fun a o=>dg 15 (St.ldsX u i2 ta1) o rfl (fun w hl=>e_ldA o isAgg27 sizeOf27 rfl rfl (hl.cellsB t1)) fun a o=>dg 16 (St.ldsX u i2 ta1) o rfl (fun w hl=>e_move o rfl) fun a o=>da1 (i:=14) (by kernel_rfl) ?_
 refine di (i:=14) rfl<|gy o rfl rfl<|cq o call25 (Z5n_c (hp_le _) (Enc.mono (St.up u) (show Enc.rep (α:=api_Prog) H36 [.slice oa39 r31.Lines.length cap40,.slice oa43 r31.Vols.length cap44,.slice oa47 r31.Locks.length cap48,.slice oa51 r31.Threads.length cap52,.slice oa55 r31.Recover.length cap56,.slice oa59 r31.Claims.length cap60] r31 from ⟨_,_,rfl,⟨_,_,rfl,hc41,hr42⟩,⟨_,_,rfl,⟨_,_,rfl,hc45,hr46⟩,⟨_,_,rfl,⟨_,_,rfl,hc49,hr50⟩,⟨_,_,rfl,⟨_,_,rfl,hc53,hr54⟩,⟨_,_,rfl,⟨_,_,rfl,hc57,hr58⟩,⟨_,_,rfl,hc61,hr62⟩⟩⟩⟩⟩⟩)) h88) ⟨rfl,rfl,trivial⟩ u fun w a u o=>⟨fun _=>(St.ldsX u i2 ta1),?_⟩
 refine da1 (i:=17) (by kernel_rfl) ?_
 refine di (i:=17) rfl<|gy o rfl rfl<|cq o call26 (Z4s_c (hp_le _) (Enc.mono (St.up u) (show Enc.rep (α:=api_Prog) H36 [.slice oa39 r31.Lines.length cap40,.slice oa43 r31.Vols.length cap44,.slice oa47 r31.Locks.length cap48,.slice oa51 r31.Threads.length cap52,.slice oa55 r31.Recover.length cap56,.slice oa59 r31.Claims.length cap60] r31 from ⟨_,_,rfl,⟨_,_,rfl,hc41,hr42⟩,⟨_,_,rfl,⟨_,_,rfl,hc45,hr46⟩,⟨_,_,rfl,⟨_,_,rfl,hc49,hr50⟩,⟨_,_,rfl,⟨_,_,rfl,hc53,hr54⟩,⟨_,_,rfl,⟨_,_,rfl,hc57,hr58⟩,⟨_,_,rfl,hc61,hr62⟩⟩⟩⟩⟩⟩)) h90) ⟨rfl,rfl,trivial⟩ u fun w a u o=>⟨fun _=>(St.ldsX u i2 ta1),?_⟩
 refine dg 18 (St.ldsX u i2 ta1) o rfl (fun w hl=>e_eql o rfl rfl) fun a o=>ds 19 (St.ldsX u i2 ta1) o rfl (e_pickT o rfl rfl) fun a o=>ds 20 (St.ldsX u i2 ta1) o rfl (e_as (e_move o rfl) (congrArg Value.bool hb91)) fun a o=>dn 21 (St.ldsX u i2 ta1) o rfl fun a o=>dn 22 (St.ldsX u i2 ta1) o rfl fun a o=>dn 23 (St.ldsX u i2 ta1) o rfl fun a o=>dn 24 (St.ldsX u i2 ta1) o rfl fun a o=>dn 25 (St.ldsX u i2 ta1) o rfl fun a o=>ds 26 (St.ldsX u i2 ta1) o rfl (e_pickF o rfl rfl) fun a o=>ds 27 (St.ldsX u i2 ta1) o rfl (e_move o rfl) fun a o=>dn 28 (St.ldsX u i2 ta1) o rfl fun a o=>dn 29 (St.ldsX u i2 ta1) o rfl fun a o=>dn 30 (St.ldsX u i2 ta1) o rfl fun a o=>dn 31 (St.ldsX u i2 ta1) o rfl fun a o=>dn 32 (St.ldsX u i2 ta1) o rfl fun a o=>ds 33 (St.ldsX u i2 ta1) o rfl (e_pickF o rfl rfl) fun a o=>ds 34 (St.ldsX u i2 ta1) o rfl (e_move o rfl) fun a o=>dn 35 (St.ldsX u i2 ta1) o rfl fun a o=>dn 36 (St.ldsX u i2 ta1) o rfl fun a o=>dn 37 (St.ldsX u i2 ta1) o rfl fun a o=>dn 38 (St.ldsX u i2 ta1) o rfl fun a o=>dn 39 (St.ldsX u i2 ta1) o rfl fun a o=>dn 40 (St.ldsX u i2 ta1) o rfl fun a o=>dn 41 (St.ldsX u i2 ta1) o rfl fun a o=>ds 42 (St.ldsX u i2 ta1) o rfl (e_pickF o rfl rfl) fun a o=>ds 43 (St.ldsX u i2 ta1) o rfl (e_move o rfl) fun a o=>dn 44 (St.ldsX u i2 ta1) o rfl fun a o=>ds 45 (St.ldsX u i2 ta1) o rfl (e_pickF o rfl rfl) fun a o=>ds 46 (St.ldsX u i2 ta1) o rfl (e_asg o rfl) fun a o=>de (by kernel_rfl)<|tn<|wr<|?_
 obtain rfl:=si hm
 exact r1 o results5 rfl ⟨rfl,u.keep⟩
 replace hm:=itp_f hm hb86
 refine rdS 47 u wide fun w u=>dr 0 u o rfl (e_move o rfl) fun a o=>dq 1 (St.ld u) o rfl (fun w hl=>e_ldA o isAgg27 sizeOf27 rfl rfl (hl.cellsB t1)) fun a o=>da1 (i:=2) (by kernel_rfl) ?_
 refine di (i:=2) rfl<|c1 o rfl call22 (Z4l_c (hp_le _) (Enc.mono (St.up u) (show Enc.rep (α:=api_Prog) H36 [.slice oa39 r31.Lines.length cap40,.slice oa43 r31.Vols.length cap44,.slice oa47 r31.Locks.length cap48,.slice oa51 r31.Threads.length cap52,.slice oa55 r31.Recover.length cap56,.slice oa59 r31.Claims.length cap60] r31 from ⟨_,_,rfl,⟨_,_,rfl,hc41,hr42⟩,⟨_,_,rfl,⟨_,_,rfl,hc45,hr46⟩,⟨_,_,rfl,⟨_,_,rfl,hc49,hr50⟩,⟨_,_,rfl,⟨_,_,rfl,hc53,hr54⟩,⟨_,_,rfl,⟨_,_,rfl,hc57,hr58⟩,⟨_,_,rfl,hc61,hr62⟩⟩⟩⟩⟩⟩)) h73) ⟨rfl,trivial⟩ (fun v w a hR o=>?_)
 obtain ⟨oa74,cap75,vs76,rfl,hv77,hk⟩:=hR
 replace u:=u.fresh hk
 replace hv77:=hv77 H36
 refine ⟨fun _=>(St.ldsX u i2 ta1),?_⟩
 refine da1 (i:=3) (by kernel_rfl) ?_
 refine di (i:=3) rfl<|cq o call21 (Z54_c (hp_le _) (St.capO u t1) (St.srO u t1 hv70) (St.capO u t0) (St.srO u t0 hv77) h80) ⟨rfl,rfl,trivial⟩ u fun w a u o=>⟨fun _=>(St.ldsX u i2 ta1),?_⟩
 refine ds 4 (St.ldsX u i2 ta1) o rfl (e_as (e_move o rfl) (congrArg Value.bool hb81)) fun a o=>dg 5 (St.ldsX u i2 ta1) o rfl (fun w hl=>e_ldA o isAgg27 sizeOf27 rfl rfl (hl.cellsB t1)) fun a o=>dg 7 (St.ldsX u i2 ta1) o rfl (fun w hl=>e_ldA o isAgg27 sizeOf27 rfl rfl (hl.cellsB t1)) fun a o=>da1 (i:=6) (by kernel_rfl) ?_
 refine di (i:=6) rfl<|gy o rfl rfl<|cq o call23 (Z5t_c (hp_le _) (Enc.mono (St.up u) (show Enc.rep (α:=api_Prog) H36 [.slice oa39 r31.Lines.length cap40,.slice oa43 r31.Vols.length cap44,.slice oa47 r31.Locks.length cap48,.slice oa51 r31.Threads.length cap52,.slice oa55 r31.Recover.length cap56,.slice oa59 r31.Claims.length cap60] r31 from ⟨_,_,rfl,⟨_,_,rfl,hc41,hr42⟩,⟨_,_,rfl,⟨_,_,rfl,hc45,hr46⟩,⟨_,_,rfl,⟨_,_,rfl,hc49,hr50⟩,⟨_,_,rfl,⟨_,_,rfl,hc53,hr54⟩,⟨_,_,rfl,⟨_,_,rfl,hc57,hr58⟩,⟨_,_,rfl,hc61,hr62⟩⟩⟩⟩⟩⟩)) h83) ⟨rfl,trivial⟩ u fun w a u o=>⟨fun _=>(St.ldsX u i2 ta1),?_⟩
 refine da1 (i:=8) (by kernel_rfl) ?_
 refine di (i:=8) rfl<|gy o rfl rfl<|cq o call24 (Z53_c (hp_le _) (Enc.mono (St.up u) (show Enc.rep (α:=api_Prog) H36 [.slice oa39 r31.Lines.length cap40,.slice oa43 r31.Vols.length cap44,.slice oa47 r31.Locks.length cap48,.slice oa51 r31.Threads.length cap52,.slice oa55 r31.Recover.length cap56,.slice oa59 r31.Claims.length cap60] r31 from ⟨_,_,rfl,⟨_,_,rfl,hc41,hr42⟩,⟨_,_,rfl,⟨_,_,rfl,hc45,hr46⟩,⟨_,_,rfl,⟨_,_,rfl,hc49,hr50⟩,⟨_,_,rfl,⟨_,_,rfl,hc53,hr54⟩,⟨_,_,rfl,⟨_,_,rfl,hc57,hr58⟩,⟨_,_,rfl,hc61,hr62⟩⟩⟩⟩⟩⟩)) h85) ⟨rfl,trivial⟩ u fun w a u o=>⟨fun _=>(St.ldsX u i2 ta1),?_⟩
 refine dg 9 (St.ldsX u i2 ta1) o rfl (fun w hl=>e_eql o rfl rfl) fun a o=>ds 10 (St.ldsX u i2 ta1) o rfl (e_pickT o rfl rfl) fun a o=>ds 11 (St.ldsX u i2 ta1) o rfl (e_as (e_move o rfl) (congrArg Value.bool hb86)) fun a o=>dn 12 (St.ldsX u i2 ta1) o rfl fun a o=>dn 13 (St.ldsX u i2 ta1) o rfl fun a o=>dn 14 (St.ldsX u i2 ta1) o rfl fun a o=>dn 15 (St.ldsX u i2 ta1) o rfl fun a o=>dn 16 (St.ldsX u i2 ta1) o rfl fun a o=>dn 17 (St.ldsX u i2 ta1) o rfl fun a o=>dn 18 (St.ldsX u i2 ta1) o rfl fun a o=>ds 19 (St.ldsX u i2 ta1) o rfl (e_pickF o rfl rfl) fun a o=>ds 20 (St.ldsX u i2 ta1) o rfl (e_move o rfl) fun a o=>dn 21 (St.ldsX u i2 ta1) o rfl fun a o=>dn 22 (St.ldsX u i2 ta1) o rfl fun a o=>dn 23 (St.ldsX u i2 ta1) o rfl fun a o=>dn 24 (St.ldsX u i2 ta1) o rfl fun a o=>dn 25 (St.ldsX u i2 ta1) o rfl fun a o=>ds 26 (St.ldsX u i2 ta1) o rfl (e_pickF o rfl rfl) fun a o=>ds 27 (St.ldsX u i2 ta1) o rfl (e_move o rfl) fun a o=>dn 28 (St.ldsX u i2 ta1) o rfl fun a o=>dn 29 (St.ldsX u i2 ta1) o rfl fun a o=>dn 30 (St.ldsX u i2 ta1) o rfl fun a o=>dn 31 (St.ldsX u i2 ta1) o rfl fun a o=>dn 32 (St.ldsX u i2 ta1) o rfl fun a o=>ds 33 (St.ldsX u i2 ta1) o rfl (e_pickF o rfl rfl) fun a o=>ds 34 (St.ldsX u i2 ta1) o rfl (e_move o rfl) fun a o=>dn 35 (St.ldsX u i2 ta1) o rfl fun a o=>dn 36 (St.ldsX u i2 ta1) o rfl fun a o=>dn 37 (St.ldsX u i2 ta1) o rfl fun a o=>dn 38 (St.ldsX u i2 ta1) o rfl fun a o=>dn 39 (St.ldsX u i2 ta1) o rfl fun a o=>?_
 refine dn 40 (St.ldsX u i2 ta1) o rfl fun a o=>dn 41 (St.ldsX u i2 ta1) o rfl fun a o=>ds 42 (St.ldsX u i2 ta1) o rfl (e_pickF o rfl rfl) fun a o=>ds 43 (St.ldsX u i2 ta1) o rfl (e_move o rfl) fun a o=>dn 44 (St.ldsX u i2 ta1) o rfl fun a o=>ds 45 (St.ldsX u i2 ta1) o rfl (e_pickF o rfl rfl) fun a o=>ds 46 (St.ldsX u i2 ta1) o rfl (e_asg o rfl) fun a o=>de (by kernel_rfl)<|tn<|wr<|?_
 obtain rfl:=si hm
 exact r1 o results5 rfl ⟨rfl,u.keep⟩
 replace hm:=ite_f hm hb81
 refine rdS 47 u wide fun w u=>dr 0 u o rfl (e_move o rfl) fun a o=>dq 1 (St.ld u) o rfl (fun w hl=>e_ldA o isAgg27 sizeOf27 rfl rfl (hl.cellsB t1)) fun a o=>da1 (i:=2) (by kernel_rfl) ?_
 refine di (i:=2) rfl<|c1 o rfl call22 (Z4l_c (hp_le _) (Enc.mono (St.up u) (show Enc.rep (α:=api_Prog) H36 [.slice oa39 r31.Lines.length cap40,.slice oa43 r31.Vols.length cap44,.slice oa47 r31.Locks.length cap48,.slice oa51 r31.Threads.length cap52,.slice oa55 r31.Recover.length cap56,.slice oa59 r31.Claims.length cap60] r31 from ⟨_,_,rfl,⟨_,_,rfl,hc41,hr42⟩,⟨_,_,rfl,⟨_,_,rfl,hc45,hr46⟩,⟨_,_,rfl,⟨_,_,rfl,hc49,hr50⟩,⟨_,_,rfl,⟨_,_,rfl,hc53,hr54⟩,⟨_,_,rfl,⟨_,_,rfl,hc57,hr58⟩,⟨_,_,rfl,hc61,hr62⟩⟩⟩⟩⟩⟩)) h73) ⟨rfl,trivial⟩ (fun v w a hR o=>?_)
 obtain ⟨oa74,cap75,vs76,rfl,hv77,hk⟩:=hR
 replace u:=u.fresh hk
 replace hv77:=hv77 H36
 refine ⟨fun _=>(St.ldsX u i2 ta1),?_⟩
 refine da1 (i:=3) (by kernel_rfl) ?_
 refine di (i:=3) rfl<|cq o call21 (Z54_c (hp_le _) (St.capO u t1) (St.srO u t1 hv70) (St.capO u t0) (St.srO u t0 hv77) h80) ⟨rfl,rfl,trivial⟩ u fun w a u o=>⟨fun _=>(St.ldsX u i2 ta1),?_⟩
 refine ds 4 (St.ldsX u i2 ta1) o rfl (e_as (e_move o rfl) (congrArg Value.bool hb81)) fun a o=>dn 5 (St.ldsX u i2 ta1) o rfl fun a o=>dn 6 (St.ldsX u i2 ta1) o rfl fun a o=>dn 7 (St.ldsX u i2 ta1) o rfl fun a o=>dn 8 (St.ldsX u i2 ta1) o rfl fun a o=>dn 9 (St.ldsX u i2 ta1) o rfl fun a o=>ds 10 (St.ldsX u i2 ta1) o rfl (e_pickF o rfl rfl) fun a o=>ds 11 (St.ldsX u i2 ta1) o rfl (e_move o rfl) fun a o=>dn 12 (St.ldsX u i2 ta1) o rfl fun a o=>dn 13 (St.ldsX u i2 ta1) o rfl fun a o=>dn 14 (St.ldsX u i2 ta1) o rfl fun a o=>dn 15 (St.ldsX u i2 ta1) o rfl fun a o=>dn 16 (St.ldsX u i2 ta1) o rfl fun a o=>dn 17 (St.ldsX u i2 ta1) o rfl fun a o=>dn 18 (St.ldsX u i2 ta1) o rfl fun a o=>ds 19 (St.ldsX u i2 ta1) o rfl (e_pickF o rfl rfl) fun a o=>ds 20 (St.ldsX u i2 ta1) o rfl (e_move o rfl) fun a o=>dn 21 (St.ldsX u i2 ta1) o rfl fun a o=>dn 22 (St.ldsX u i2 ta1) o rfl fun a o=>dn 23 (St.ldsX u i2 ta1) o rfl fun a o=>dn 24 (St.ldsX u i2 ta1) o rfl fun a o=>dn 25 (St.ldsX u i2 ta1) o rfl fun a o=>ds 26 (St.ldsX u i2 ta1) o rfl (e_pickF o rfl rfl) fun a o=>ds 27 (St.ldsX u i2 ta1) o rfl (e_move o rfl) fun a o=>dn 28 (St.ldsX u i2 ta1) o rfl fun a o=>dn 29 (St.ldsX u i2 ta1) o rfl fun a o=>dn 30 (St.ldsX u i2 ta1) o rfl fun a o=>dn 31 (St.ldsX u i2 ta1) o rfl fun a o=>dn 32 (St.ldsX u i2 ta1) o rfl fun a o=>ds 33 (St.ldsX u i2 ta1) o rfl (e_pickF o rfl rfl) fun a o=>ds 34 (St.ldsX u i2 ta1) o rfl (e_move o rfl) fun a o=>?_
 refine dn 35 (St.ldsX u i2 ta1) o rfl fun a o=>dn 36 (St.ldsX u i2 ta1) o rfl fun a o=>dn 37 (St.ldsX u i2 ta1) o rfl fun a o=>dn 38 (St.ldsX u i2 ta1) o rfl fun a o=>dn 39 (St.ldsX u i2 ta1) o rfl fun a o=>dn 40 (St.ldsX u i2 ta1) o rfl fun a o=>dn 41 (St.ldsX u i2 ta1) o rfl fun a o=>ds 42 (St.ldsX u i2 ta1) o rfl (e_pickF o rfl rfl) fun a o=>ds 43 (St.ldsX u i2 ta1) o rfl (e_move o rfl) fun a o=>dn 44 (St.ldsX u i2 ta1) o rfl fun a o=>ds 45 (St.ldsX u i2 ta1) o rfl (e_pickF o rfl rfl) fun a o=>ds 46 (St.ldsX u i2 ta1) o rfl (e_asg o rfl) fun a o=>de (by kernel_rfl)<|tn<|wr<|?_
 obtain rfl:=si hm
 exact r1 o results5 rfl ⟨rfl,u.keep⟩
end Go.LM.LB
