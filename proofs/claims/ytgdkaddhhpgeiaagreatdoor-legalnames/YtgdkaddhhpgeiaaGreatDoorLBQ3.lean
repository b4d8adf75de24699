/- Walks, lifted by program. No condition beyond the theorems' own premises. -/
import Derived.Test.YtgdkaddhhpgeiaaGreatDoorLBQ2
namespace Go.LM.LB
open Go Go.LL Go.MD Go.LM Go.Proofs Go.MD.LB Go.Proofs.Tryz
set_option maxRecDepth 100000
variable {N:Nat} {w0:World} {H:PH}
theorem Z7g_c (hH:H.le w0) (hT:Tab H) {cs2:List Value} {p1:api_Prog} (g3:Enc.rep H cs2 p1) {r:Bool} (hm:Z7g N p1=some r):Tot Tryz.prog 50 #[.agg cs2.toArray] w0 (fun v w'=>v=.bool r∧Keep Nil w0 w'):=by
 unfold Z7g at hm
 refine fn0 func50 rfl ntmps50 rfl rfl fun a o=>?_
 have u:St w0 Nil [H] [] w0:=start1 hH
 obtain ⟨oa4,cap5,oa8,cap9,oa12,cap13,oa16,cap17,oa20,cap21,oa24,cap25,rfl,hc6,hr7,hc10,hr11,hc14,hr15,hc18,hr19,hc22,hr23,hc26,hr27⟩:=api_Prog_open g3
 refine th<|rg<|ls<|a_box (cs:=[.slice oa4 p1.Lines.length cap5,.slice oa8 p1.Vols.length cap9,.slice oa12 p1.Locks.length cap13,.slice oa16 p1.Threads.length cap17,.slice oa20 p1.Recover.length cap21,.slice oa24 p1.Claims.length cap25].toArray) o rfl u rfl rfl fun b28 w a u o=>qa o rfl fun a o=>?_
 iterate 4 refine re<|tn<|th<|rg<|qa o rfl fun a o=>?_
 refine re<|tn<|th<|wb<|th<|th<|?_
 obtain ⟨r29,h30,hm⟩:=bs hm
 refine rg<|qv o (e_fa o fa27_0 rfl) fun a o=>qv o (e_ld o isAgg22 rfl ((St.ld u).cellB t0 rfl)) fun a o=>qm o rfl fun a o=>ls<|cq o call88 (Z89_c (hp_le _) (Tab.mono hT (St.up u)) hc6 (St.srH u hr7) h30) ⟨rfl,rfl,trivial⟩ u fun w a u o=>qa o rfl fun a o=>re<|tn<|midK (fun a w=>∃ (vA1:Bool),(Z7l N p1) vA1=some r∧Fr 43 [(1,.pointer (some ⟨b28,0,none⟩)),(4,.func (.func 81) #[] #[]),(5,.func (.func 84) #[] #[]),(6,.func (.func 85) #[] #[]),(7,.bool vA1)] a∧St w0 Nil [H] [blk b28 (.cells [.slice oa4 p1.Lines.length cap5,.slice oa8 p1.Vols.length cap9,.slice oa12 p1.Locks.length cap13,.slice oa16 p1.Threads.length cap17,.slice oa20 p1.Recover.length cap21,.slice oa24 p1.Claims.length cap25].toArray 27 (0,0))] w) ?_ ?_
 rcases bdich r29 with hb31 | hb31
 replace hm:=ite_t hm hb31
 refine ctv o rfl hb31<|wk<|tn<|?_
 exact ⟨r29,hm,o.hs,u⟩
 replace hm:=ite_f hm hb31
 refine cfv o rfl hb31<|th<|?_
 obtain ⟨r32,h33,hm⟩:=bs hm
 refine rg<|qv o (e_fa o fa27_1 rfl) fun a o=>qv o (e_ld o isAgg23 rfl ((St.ld u).cellB t0 rfl)) fun a o=>ls<|cq o call80 (Z7m_c (hp_le _) (Tab.mono hT (St.up u)) hc10 (St.srH u hr11) h33) ⟨rfl,rfl,trivial⟩ u fun w a u o=>qv o (e_not o rfl) fun a o=>qa o rfl fun a o=>re<|?_
 rcases bdich r32 with hb34 | hb34
 replace hm:=ite_t hm hb34
 refine tn<|cfv o rfl (by rw [hb34];rfl)<|th<|?_
 obtain ⟨r35,h36,hm⟩:=bs hm
 refine rg<|qv o (e_fa o fa27_2 rfl) fun a o=>qv o (e_ld o isAgg23 rfl ((St.ld u).cellB t0 rfl)) fun a o=>ls<|cq o call80 (Z7m_c (hp_le _) (Tab.mono hT (St.up u)) hc14 (St.srH u hr15) h36) ⟨rfl,rfl,trivial⟩ u fun w a u o=>qv o (e_not o rfl) fun a o=>qa o rfl fun a o=>re<|?_
 rcases bdich r35 with hb37 | hb37
 replace hm:=ite_t hm hb37
 refine tn<|cfv o rfl (by rw [hb37];rfl)<|rg<|qv o (e_fa o fa27_4 rfl) fun a o=>qv o (e_ld o isAgg24 rfl ((St.ld u).cellB t0 rfl)) fun a o=>qv o (e_lenL (α:=api_Thread) (xs:=p1.Recover) o runUnderlying24 rfl) fun a o=>qv o (e_gtr o rfl rfl) fun a o=>qa o rfl fun a o=>re<|tn<|?_
 exact ⟨(decide (1 < (p1.Recover.length:Int))),hm,o.hs,u⟩
 replace hm:=ite_f hm hb37
 refine tn<|ctv o rfl (by rw [hb37];rfl)<|wk<|tn<|?_
 exact ⟨(!r35),hm,o.hs,u⟩
 replace hm:=ite_f hm hb34
 refine tn<|ctv o rfl (by rw [hb34];rfl)<|wk<|tn<|?_
 exact ⟨(!r32),hm,o.hs,u⟩
 rintro a w ⟨vA1,hm,o,u⟩
 unfold Z7l at hm
 rcases bdich vA1 with hb38 | hb38
 replace hm:=ite_t hm hb38
 refine ctv o rfl hb38<|th<|rg<|qa o rfl fun a o=>re<|tn<|wr<|br<|tr<|?_
 obtain rfl:=si hm
 exact r1 o results50 rfl ⟨rfl,u.keep⟩
 replace hm:=ite_f hm hb38
 refine cfv o rfl hb38<|wk<|bn<|tn<|th<|?_
 obtain ⟨r39,h40,hm⟩:=bs hm
 rcases bdich r39 with hb41 | hb41
 replace hm:=ite_t hm hb41
 have hb41':(!r39)=false:=by rw [hb41];rfl
 refine rg<|qv o (e_fa o fa27_3 rfl) fun a o=>qv o (e_ld o isAgg24 rfl ((St.ld u).cellB t0 rfl)) fun a o=>qm o rfl fun a o=>ls<|cq o call89 (Z8f_c (hp_le _) (Tab.mono hT (St.up u)) hc18 (St.srH u hr19) h40) ⟨rfl,rfl,trivial⟩ u fun w a u o=>qv o (e_not o rfl) fun a o=>qv o (e_as (e_move o rfl) (congrArg Value.bool hb41')) fun a o=>?_
 iterate 5 refine qn o fun a o=>?_
 refine qv o (e_pickF o rfl rfl) fun a o=>qm o rfl fun a o=>?_
 iterate 5 refine qn o fun a o=>?_
 refine qv o (e_pickF o rfl rfl) fun a o=>qa o rfl fun a o=>re<|tn<|wr<|?_
 obtain rfl:=si hm
 exact r1 o results50 rfl ⟨rfl,u.keep⟩
 replace hm:=ite_f hm hb41
 have hb41':(!r39)=true:=by rw [hb41];rfl
 obtain ⟨r42,h43,hm⟩:=bs hm
 rcases bdich r42 with hb44 | hb44
 replace hm:=ite_t hm hb44
 have hb44':(!r42)=false:=by rw [hb44];rfl
 refine rg<|qv o (e_fa o fa27_3 rfl) fun a o=>qv o (e_ld o isAgg24 rfl ((St.ld u).cellB t0 rfl)) fun a o=>qm o rfl fun a o=>ls<|cq o call89 (Z8f_c (hp_le _) (Tab.mono hT (St.up u)) hc18 (St.srH u hr19) h40) ⟨rfl,rfl,trivial⟩ u fun w a u o=>qv o (e_not o rfl) fun a o=>qv o (e_as (e_move o rfl) (congrArg Value.bool hb41')) fun a o=>qg o (e_fa o fa27_4 rfl) fun a o=>qg o (e_ld o isAgg24 rfl ((St.ld u).cellB t0 rfl)) fun a o=>qg o (e_move o rfl) fun a o=>ls<|gy o rfl rfl<|cq o call89 (Z8g_c (hp_le _) (Tab.mono hT (St.up u)) hc22 (St.srH u hr23) h43) ⟨rfl,rfl,trivial⟩ u fun w a u o=>qg o (e_not o rfl) fun a o=>qv o (e_pickT o rfl rfl) fun a o=>qv o (e_as (e_move o rfl) (congrArg Value.bool hb44')) fun a o=>?_
 iterate 5 refine qn o fun a o=>?_
 refine qv o (e_pickF o rfl rfl) fun a o=>qa o rfl fun a o=>re<|tn<|wr<|?_
 obtain rfl:=si hm
 exact r1 o results50 rfl ⟨rfl,u.keep⟩
 replace hm:=ite_f hm hb44
 have hb44':(!r42)=true:=by rw [hb44];rfl
 obtain ⟨r45,h46,hm⟩:=bs hm
 refine rg<|qv o (e_fa o fa27_3 rfl) fun a o=>qv o (e_ld o isAgg24 rfl ((St.ld u).cellB t0 rfl)) fun a o=>qm o rfl fun a o=>ls<|cq o call89 (Z8f_c (hp_le _) (Tab.mono hT (St.up u)) hc18 (St.srH u hr19) h40) ⟨rfl,rfl,trivial⟩ u fun w a u o=>qv o (e_not o rfl) fun a o=>qv o (e_as (e_move o rfl) (congrArg Value.bool hb41')) fun a o=>qg o (e_fa o fa27_4 rfl) fun a o=>qg o (e_ld o isAgg24 rfl ((St.ld u).cellB t0 rfl)) fun a o=>qg o (e_move o rfl) fun a o=>ls<|gy o rfl rfl<|cq o call89 (Z8g_c (hp_le _) (Tab.mono hT (St.up u)) hc22 (St.srH u hr23) h43) ⟨rfl,rfl,trivial⟩ u fun w a u o=>qg o (e_not o rfl) fun a o=>qv o (e_pickT o rfl rfl) fun a o=>qv o (e_as (e_move o rfl) (congrArg Value.bool hb44')) fun a o=>qg o (e_fa o fa27_5 rfl) fun a o=>qg o (e_ld o isAgg25 rfl ((St.ld u).cellB t0 rfl)) fun a o=>qg o (e_move o rfl) fun a o=>ls<|gy o rfl rfl<|cq o call90 (Z8c_c (hp_le _) (Tab.mono hT (St.up u)) hc26 (St.srH u hr27) h46) ⟨rfl,rfl,trivial⟩ u fun w a u o=>qg o (e_not o rfl) fun a o=>qv o (e_pickT o rfl rfl) fun a o=>qa o rfl fun a o=>re<|tn<|wr<|?_
 obtain rfl:=si hm
 exact r1 o results50 rfl ⟨rfl,u.keep⟩
theorem Z6k_c (hH:H.le w0) {oa2:Option Addr} {cap3:Nat} {p1:(List api_Cell)} (_:p1.length≤cap3) (_:SR H oa2 p1) {r:Bool} (hm:Z6k N p1=some r):Tot Tryz.prog 91 #[.slice oa2 p1.length cap3] w0 (fun v w'=>v=.bool r∧Keep Nil w0 w'):=by
 unfold Z6k at hm
 refine fn0 func91 rfl ntmps91 rfl rfl fun a o=>?_
 have u:St w0 Nil [H] [] w0:=start1 hH
 refine th<|rg<|qa o rfl fun a o=>re<|tn<|th<|rg<|qm o rfl fun a o=>qv o (e_lenL (α:=api_Cell) (xs:=p1) o runUnderlying23 rfl) fun a o=>qv o (e_gtr o rfl rfl) fun a o=>qa o rfl fun a o=>re<|tn<|wr<|?_
 obtain rfl:=si hm
 exact r1 o results91 rfl ⟨rfl,u.keep⟩
theorem Z8n_c (hH:H.le w0) {oa2:Option Addr} {cap3:Nat} {p1:(List (List api_Cell))} (_:p1.length≤cap3) (hr5:SR H oa2 p1) {r:Int} (hm:Z8n N p1=some r):Tot Tryz.prog 129 #[.slice oa2 p1.length cap3,.func (.func 91) #[] #[]] w0 (fun v w'=>v=i6 r∧Keep Nil w0 w'):=by
 unfold Z8n at hm
 refine fn0 func129 rfl ntmps129 rfl rfl fun a o=>?_
 have u:St w0 Nil [H] [] w0:=start1 hH
 refine th<|rg<|qa o rfl fun a o=>re<|tn<|th<|th<|rg<|qm o rfl fun a o=>qv o (e_lenL (α:=(List api_Cell)) (xs:=p1) o runUnderlying22 rfl) fun a o=>qm o rfl fun a o=>re<|tn<|midK (fun a w=>Z8o=some r∧Fr 19 [] a∧St w0 Nil [H] [] w) ?_ ?_
 refine wb<|lp (α:=Nat×Int) (fun gh a w=>match gh with | (nn2,vB1)=>(Z8p N Z8o p1) nn2 vB1=some r∧Fr 19 [(0,.slice oa2 p1.length cap3),(1,.func (.func 91) #[] #[]),(7,i6 (p1.length:Int)),(8,i6 vB1)] a∧St w0 Nil [H] [] w) (fun gh=>gh.1) (N,0) ⟨hm,o.hs,u⟩ ?_
 rintro ⟨nn2,vB1⟩ a w ⟨hm,o,u⟩
 obtain _ | nn2:=nn2
 simp [Z8p] at hm
 rw [Z8p] at hm
 refine th<|rg<|qv o (e_lss o rfl rfl) fun a o=>re<|?_
 rcases bdich (decide (vB1 < (p1.length:Int))) with hb6 | hb6
 replace hm:=itp_t hm hb6
 refine tn<|th<|ctv o rfl hb6<|wk<|tn<|th<|wb<|th<|rg<|qm o rfl fun a o=>qa o rfl fun a o=>re<|tn<|th<|?_
 obtain ⟨xz7,h8,hm⟩:=bs hm
 obtain ⟨cz9,g10,hl11⟩:=SR.get hr5 h8
 obtain ⟨oa12,cap13,rfl,hc14,hr15⟩:=g10
 obtain ⟨r16,h17,hm⟩:=bs hm
 refine rg<|qm o rfl fun a o=>?_
 iterate 2 refine qm o rfl fun a o=>?_
 refine qv o (e_iaI o runUnderlying22 sizeOf23 rfl rfl h8 (SR.oaI hr5 (by decide) h8)) fun a o=>qv o (e_ld o isAgg23 rfl (PH.le.cell (Lds.le (St.ld u)) (hl11 0 _ rfl))) fun a o=>ls<|k1 (vs:=[.slice oa12 xz7.length cap13]) (caps:=[]) o rfl rfl call91 (Z6k_c (hp_le _) hc14 (St.srH u hr15) h17) ⟨rfl,trivial⟩ rfl (fun v w a hR o=>?_)
 obtain ⟨rfl,hk⟩:=hR
 replace u:=u.pass hk
 refine re<|?_
 rcases bdich r16 with hb18 | hb18
 replace hm:=ite_t hm hb18
 refine tn<|ctv o rfl hb18<|th<|rg<|qm o rfl fun a o=>qa o rfl fun a o=>re<|tn<|wr<|br<|tr<|tr<|br<|tr<|?_
 obtain rfl:=si hm
 exact r1 o results129 rfl ⟨rfl,u.keep⟩
 replace hm:=ite_f hm hb18
 refine tn<|cfv o rfl hb18<|wk<|bn<|tn<|rg<|qv o (e_add o rfl rfl) fun a o=>qm o rfl fun a o=>re<|tn<|?_
 exact ⟨(nn2,(IntKind.i64.wrap (vB1+1))),⟨hm,o.hs,u⟩,Nat.lt_succ_self _⟩
 replace hm:=itp_f hm hb6
 refine tn<|th<|cfv o rfl hb6<|we<|tx<|tx<|bx<|tn<|?_
 exact ⟨hm,o.has trivial,u⟩
 rintro a w ⟨hm,o,u⟩
 unfold Z8o at hm
 refine th<|rg<|qa o rfl fun a o=>re<|tn<|wr<|?_
 obtain rfl:=si hm
 exact r1 o results129 rfl ⟨rfl,u.keep⟩
theorem Z8a_c (hH:H.le w0) {oa2:Option Addr} {cap3:Nat} {p1:(List (List api_Cell))} (hc4:p1.length≤cap3) (hr5:SR H oa2 p1) {r:Bool} (hm:Z8a N p1=some r):Tot Tryz.prog 88 #[.slice oa2 p1.length cap3,.func (.func 91) #[] #[]] w0 (fun v w'=>v=.bool r∧Keep Nil w0 w'):=by
 unfold Z8a at hm
 refine fn0 func88 rfl ntmps88 rfl rfl fun a o=>?_
 have u:St w0 Nil [H] [] w0:=start1 hH
 refine th<|rg<|qa o rfl fun a o=>re<|tn<|th<|?_
 obtain ⟨rz6,h7,hm⟩:=bs hm
 refine rg<|qm o rfl fun a o=>qm o rfl fun a o=>ls<|cq o call129 (Z8n_c (hp_le _) hc4 (St.srH u hr5) h7) ⟨rfl,rfl,trivial⟩ u fun w a u o=>qv o (e_geq o rfl rfl) fun a o=>qa o rfl fun a o=>re<|tn<|wr<|?_
 obtain rfl:=si hm
 exact r1 o results88 rfl ⟨rfl,u.keep⟩
theorem Z84_c (hH:H.le w0) {oa2:Option Addr} {cap3:Nat} {p1:(List (List api_Thread))} (_:p1.length≤cap3) (hr5:SR H oa2 p1) {r:(List api_Thread)} (hm:Z84 N p1=some r):Tot Tryz.prog 93 #[.slice oa2 p1.length cap3] w0 (fun v w'=>∃ (H':PH) (oa0:Option Addr) (cap0:Nat),v=.slice oa0 r.length cap0∧r.length≤cap0∧SR H' oa0 r∧Ext w0 H H'∧H'.le w'∧Keep Nil w0 w'):=by
 unfold Z84 at hm
 refine fn0 func93 rfl ntmps93 rfl rfl fun a o=>?_
 have u:St w0 Nil [H] [] w0:=start1 hH
 refine th<|rg<|qa o rfl fun a o=>re<|tn<|th<|rg<|qa o rfl fun a o=>re<|tn<|th<|th<|rg<|qm o rfl fun a o=>qv o (e_lenL (α:=(List api_Thread)) (xs:=p1) o runUnderlying147 rfl) fun a o=>qm o rfl fun a o=>re<|tn<|midK (fun a w=>∃ (vA1:Int),(Z85 N p1) vA1=some r∧Fr 36 [(0,.slice oa2 p1.length cap3),(3,i6 vA1)] a∧St w0 Nil [H] [] w) ?_ ?_
 refine wb<|lp (α:=Nat×Int×Int) (fun gh a w=>match gh with | (nn2,vB1,vB2)=>(Z87 N (Z85 N p1) p1) nn2 vB1 vB2=some r∧Fr 36 [(0,.slice oa2 p1.length cap3),(3,i6 vB1),(9,.slice oa2 p1.length cap3),(10,i6 (p1.length:Int)),(11,i6 vB2)] a∧St w0 Nil [H] [] w) (fun gh=>gh.1) (N,0,0) ⟨hm,o.hs,u⟩ ?_
 rintro ⟨nn2,vB1,vB2⟩ a w ⟨hm,o,u⟩
 obtain _ | nn2:=nn2
 simp [Z87] at hm
 rw [Z87] at hm
 refine th<|rg<|qv o (e_lss o rfl rfl) fun a o=>re<|?_
 rcases bdich (decide (vB2 < (p1.length:Int))) with hb6 | hb6
 replace hm:=itp_t hm hb6
 refine tn<|th<|ctv o rfl hb6<|wk<|tn<|th<|wb<|th<|?_
 obtain ⟨xz7,h8,hm⟩:=bs hm
 obtain ⟨cz9,g10,hl11⟩:=SR.get hr5 h8
 obtain ⟨oa12,cap13,rfl,hc14,hr15⟩:=g10
 refine rg<|qv o (e_iaI o Tryz.runUnderlying147 Tryz.sizeOf24 rfl rfl h8 (SR.oaI hr5 (by decide) h8)) fun a o=>qv o (e_ld o isAgg24 rfl (PH.le.cell (Lds.le (St.ld u)) (hl11 0 _ rfl))) fun a o=>qa o rfl fun a o=>re<|tn<|th<|rg<|qm o rfl fun a o=>qm o rfl fun a o=>qv o (e_lenL (α:=api_Thread) (xs:=xz7) o runUnderlying24 rfl) fun a o=>qv o (e_add o rfl rfl) fun a o=>qa o rfl fun a o=>re<|tn<|th<|rg<|qm o rfl fun a o=>qv o (e_lss o rfl rfl) fun a o=>re<|?_
 rcases bdich (decide ((IntKind.i64.wrap (vB1+(xz7.length:Int))) < 0)) with hb16 | hb16
 replace hm:=itp_t hm hb16
 refine tn<|ctv o rfl hb16<|?_
 cases hm
 replace hm:=itp_f hm hb16
 refine tn<|cfv o rfl hb16<|wk<|bn<|tn<|rg<|qv o (e_add o rfl rfl) fun a o=>qm o rfl fun a o=>re<|tn<|?_
 exact ⟨(nn2,(IntKind.i64.wrap (vB1+(xz7.length:Int))),(IntKind.i64.wrap (vB2+1))),⟨hm,o.hs,u⟩,Nat.lt_succ_self _⟩
 replace hm:=itp_f hm hb6
 refine tn<|th<|cfv o rfl hb6<|we<|tx<|tx<|bx<|tn<|?_
 exact ⟨vB1,hm,o.has ⟨rfl,rfl,trivial⟩,u⟩
 rintro a w ⟨vA1,hm,o,u⟩
 unfold Z85 at hm
 refine th<|?_
 obtain ⟨x17,h18,hm⟩:=bs hm
 refine rg<|qm o rfl fun a o=>ls<|c1 o rfl call132 (grow_c grow132 rfl rfl info48 rfl (by decide) h18) ⟨rfl,rfl,trivial⟩ (fun v w a hR o=>?_)
 obtain ⟨oa19,cap20,rfl,hk⟩:=hR
 replace u:=u.fresh hk
 have hv21:Rows H [] ([]:List api_Thread):=.nil
 refine qa o rfl fun a o=>re<|tn<|th<|th<|rg<|qm o rfl fun a o=>qv o (e_lenL (α:=(List api_Thread)) (xs:=p1) o runUnderlying147 rfl) fun a o=>qm o rfl fun a o=>re<|tn<|midK (fun a w=>∃ (vA2:(List api_Thread)) (oaA3:Option Addr) (capA4:Nat) (vsA5:List Value),Z86 vA2=some r∧Fr 36 [(6,.slice oaA3 vA2.length capA4)] a∧St w0 Nil [H] [sla 48 4 oaA3 vA2.length capA4 vsA5] w∧Rows H vsA5 vA2) ?_ ?_
 refine wb<|lp (α:=Nat×(List api_Thread)×Int) (fun gh a w=>match gh with | (nn4,vB3,vB9)=>∃ (oaB4:Option Addr) (capB5:Nat) (vsB6:List Value),(Z88 N Z86 p1) nn4 vB3 vB9=some r∧Fr 36 [(6,.slice oaB4 vB3.length capB5),(25,.slice oa2 p1.length cap3),(26,i6 (p1.length:Int)),(27,i6 vB9)] a∧St w0 Nil [H] [sla 48 4 oaB4 vB3.length capB5 vsB6] w∧Rows H vsB6 vB3) (fun gh=>gh.1) (N,[],0) ⟨oa19,cap20,[],hm,o.hs,u,hv21⟩ ?_
 rintro ⟨nn4,vB3,vB9⟩ a w ⟨oaB4,capB5,vsB6,hm,o,u,hvB7⟩
 obtain _ | nn4:=nn4
 simp [Z88] at hm
 rw [Z88] at hm
 refine th<|rg<|qv o (e_lss o rfl rfl) fun a o=>re<|?_
 rcases bdich (decide (vB9 < (p1.length:Int))) with hb23 | hb23
 replace hm:=itp_t hm hb23
 refine tn<|th<|ctv o rfl hb23<|wk<|tn<|th<|wb<|th<|?_
 obtain ⟨x24,h25,hm⟩:=bs hm
 obtain ⟨c26,g27,hl28⟩:=SR.get hr5 h25
 obtain ⟨oa29,cap30,rfl,hc31,hr32⟩:=g27
 refine rg<|qv o (e_iaI o Tryz.runUnderlying147 Tryz.sizeOf24 rfl rfl h25 (SR.oaI hr5 (by decide) h25)) fun a o=>qv o (e_ld o isAgg24 rfl (PH.le.cell (Lds.le (St.ld u)) (hl28 0 _ rfl))) fun a o=>qa o rfl fun a o=>re<|tn<|?_
 obtain ⟨l33,h34,hm⟩:=bs hm
 refine rg<|qm o rfl fun a o=>qm o rfl fun a o=>?_
 obtain ⟨us39,hd40,hu41⟩:=id hr32
 refine ls<|m_app (α:=api_Thread) (xs:=vB3) (ys:=x24) o rfl u underlying24 info48 rfl (by decide) rfl rfl rfl t0 hvB7 (u.rdH t0 hd40) hu41 h34 fun oa35 cap36 vs37 w a hv38 hU o=>?_
 replace u:=hU _ .head
 refine qa o rfl fun a o=>re<|bn<|tn<|rg<|qv o (e_add o rfl rfl) fun a o=>qm o rfl fun a o=>re<|tn<|?_
 exact ⟨(nn4,l33,(IntKind.i64.wrap (vB9+1))),⟨oa35,cap36,vs37,hm,o.hs,u,hv38⟩,Nat.lt_succ_self _⟩
 replace hm:=itp_f hm hb23
 refine tn<|th<|cfv o rfl hb23<|we<|tx<|tx<|bx<|tn<|?_
 exact ⟨vB3,oaB4,capB5,vsB6,hm,o.has ⟨rfl,trivial⟩,u,hvB7⟩
 rintro a w ⟨vA2,oaA3,capA4,vsA5,hm,o,u,hvA6⟩
 unfold Z86 at hm
 refine th<|rg<|qm o rfl fun a o=>qa o rfl fun a o=>re<|tn<|wr<|?_
 obtain ⟨H45,hx42,hr43,hc44,u⟩:=St.frzS u .head hvA6
 obtain rfl:=si hm
 exact r1 o results93 rfl ⟨H45,_,_,rfl,hc44,hr43,hx42,(St.le u),u.keep⟩
theorem Z6y_c (hH:H.le w0) {cs2:List Value} {p1:api_Prog} (g3:Enc.rep H cs2 p1) {r:(List api_Thread)} (hm:Z6y N p1=some r):Tot Tryz.prog 52 #[.agg cs2.toArray] w0 (fun v w'=>∃ (H':PH) (oa0:Option Addr) (cap0:Nat),v=.slice oa0 r.length cap0∧r.length≤cap0∧SR H' oa0 r∧Ext w0 H H'∧H'.le w'∧Keep Nil w0 w'):=by
 unfold Z6y at hm
 refine fn0 func52 rfl ntmps52 rfl rfl fun a o=>?_
 have u:St w0 Nil [H] [] w0:=start1 hH
 obtain ⟨oa4,cap5,oa8,cap9,oa12,cap13,oa16,cap17,oa20,cap21,oa24,cap25,rfl,hc6,hr7,hc10,hr11,hc14,hr15,hc18,hr19,hc22,hr23,hc26,hr27⟩:=api_Prog_open g3
 refine th<|rg<|ls<|a_box (cs:=[.slice oa4 p1.Lines.length cap5,.slice oa8 p1.Vols.length cap9,.slice oa12 p1.Locks.length cap13,.slice oa16 p1.Threads.length cap17,.slice oa20 p1.Recover.length cap21,.slice oa24 p1.Claims.length cap25].toArray) o rfl u rfl rfl fun b28 w a u o=>qa o rfl fun a o=>re<|tn<|th<|?_
 obtain ⟨r36,h37,hm⟩:=bs hm
 refine rg<|qv o (e_fa o fa27_3 rfl) fun a o=>qv o (e_ld o isAgg24 rfl ((St.ld u).cellB t0 rfl)) fun a o=>qv o (e_fa o fa27_4 rfl) fun a o=>qv o (e_ld o isAgg24 rfl ((St.ld u).cellB t0 rfl)) fun a o=>ls<|a_bsl (e:=24) (sz:=1) [.slice oa16 p1.Threads.length cap17,.slice oa20 p1.Recover.length cap21] o rfl u rfl rfl rfl (fun w=>by kernel_rfl) fun b30 w a u o=>?_
 have hv29:Rows (α:=(List api_Thread)) H [.slice oa16 p1.Threads.length cap17,.slice oa20 p1.Recover.length cap21] ([p1.Threads,p1.Recover]:List (List api_Thread)):=(.cons (c:=[.slice oa16 p1.Threads.length cap17]) ⟨_,_,rfl,hc18,hr19⟩ (.cons (c:=[.slice oa20 p1.Recover.length cap21]) ⟨_,_,rfl,hc22,hr23⟩ .nil))
 obtain ⟨H35,hx32,hr33,hc34,u⟩:=St.frzS u .head hv29
 refine ls<|c1 o rfl call93 (Z84_c (St.le u) hc34 hr33 h37) ⟨rfl,trivial⟩ (fun v w a hR o=>?_)
 obtain ⟨H41,oa42,cap43,rfl,hc44,hr45,hx38,hl39,hk⟩:=hR
 obtain ⟨u,hx38⟩:=And.intro (St.passH u hk hx38 hl39) (St.extc u hx38)
 refine qa o rfl fun a o=>re<|tn<|wr<|?_
 obtain rfl:=si hm
 exact r1 o results52 rfl ⟨H41,_,_,rfl,hc44,hr45,(Ext.trans hx32 hx38),(St.le u),u.keep⟩
theorem Z6l_c (hH:H.le w0) {cs2:List Value} {p1:api_Thread} (g3:Enc.rep H cs2 p1) {r:Bool} (hm:Z6l N p1=some r):Tot Tryz.prog 92 #[.agg cs2.toArray] w0 (fun v w'=>v=.bool r∧Keep Nil w0 w'):=by
 unfold Z6l at hm
 refine fn0 func92 rfl ntmps92 rfl rfl fun a o=>?_
 have u:St w0 Nil [H] [] w0:=start1 hH
 obtain ⟨oa4,cap5,oa8,cap9,rfl,hc6,hr7,hc10,hr11⟩:=api_Thread_open g3
 refine th<|rg<|ls<|a_box (cs:=[strv p1.Name,.slice oa4 p1.Regs.length cap5,.slice oa8 p1.Body.length cap9,i6 p1.At].toArray) o rfl u rfl rfl fun b12 w a u o=>qa o rfl fun a o=>re<|tn<|th<|rg<|qv o (e_fa o fa48_1 rfl) fun a o=>qv o (e_ld o isAgg36 rfl ((St.ld u).cellB t0 rfl)) fun a o=>qv o (e_lenL (α:=Str) (xs:=p1.Regs) o runUnderlying36 rfl) fun a o=>qv o (e_gtr o rfl rfl) fun a o=>qa o rfl fun a o=>re<|tn<|wr<|?_
 obtain rfl:=si hm
 exact r1 o results92 rfl ⟨rfl,u.keep⟩
theorem Z98_c (hH:H.le w0) {oa2:Option Addr} {cap3:Nat} {p1:(List api_Thread)} (_:p1.length≤cap3) (hr5:SR H oa2 p1) {r:Int} (hm:Z98 N p1=some r):Tot Tryz.prog 130 #[.slice oa2 p1.length cap3,.func (.func 92) #[] #[]] w0 (fun v w'=>v=i6 r∧Keep Nil w0 w'):=by
 unfold Z98 at hm
 refine fn0 func130 rfl ntmps130 rfl rfl fun a o=>?_
 have u:St w0 Nil [H] [] w0:=start1 hH
 refine th<|rg<|qa o rfl fun a o=>re<|tn<|th<|th<|rg<|qm o rfl fun a o=>qv o (e_lenL (α:=api_Thread) (xs:=p1) o runUnderlying24 rfl) fun a o=>qm o rfl fun a o=>re<|tn<|midK (fun a w=>Z99=some r∧Fr 19 [] a∧St w0 Nil [H] [] w) ?_ ?_
 refine wb<|lp (α:=Nat×Int) (fun gh a w=>match gh with | (nn2,vB1)=>(Z9a N Z99 p1) nn2 vB1=some r∧Fr 19 [(0,.slice oa2 p1.length cap3),(1,.func (.func 92) #[] #[]),(7,i6 (p1.length:Int)),(8,i6 vB1)] a∧St w0 Nil [H] [] w) (fun gh=>gh.1) (N,0) ⟨hm,o.hs,u⟩ ?_
 rintro ⟨nn2,vB1⟩ a w ⟨hm,o,u⟩
 obtain _ | nn2:=nn2
 simp [Z9a] at hm
 rw [Z9a] at hm
 refine th<|rg<|qv o (e_lss o rfl rfl) fun a o=>re<|?_
 rcases bdich (decide (vB1 < (p1.length:Int))) with hb6 | hb6
 replace hm:=itp_t hm hb6
 refine tn<|th<|ctv o rfl hb6<|wk<|tn<|th<|wb<|th<|rg<|qm o rfl fun a o=>qa o rfl fun a o=>re<|tn<|th<|?_
 obtain ⟨xz7,h8,hm⟩:=bs hm
 obtain ⟨cz9,g10,hl11⟩:=SR.get hr5 h8
 obtain ⟨oa12,cap13,oa16,cap17,rfl,hc14,hr15,hc18,hr19⟩:=api_Thread_open g10
 obtain ⟨r20,h21,hm⟩:=bs hm
 refine rg<|qm o rfl fun a o=>?_
 iterate 2 refine qm o rfl fun a o=>?_
 refine qv o (e_iaI o runUnderlying24 sizeOf48 rfl rfl h8 (SR.oaI hr5 (by decide) h8)) fun a o=>qv o (e_ldA o isAgg48 sizeOf48 rfl rfl (fun j v hj=>PH.le.cell (Lds.le (St.ld u)) (hl11 j v hj))) fun a o=>ls<|k1 (vs:=[.agg #[strv xz7.Name,.slice oa12 xz7.Regs.length cap13,.slice oa16 xz7.Body.length cap17,i6 xz7.At]]) (caps:=[]) o rfl rfl call92 (Z6l_c (hp_le _) (Enc.mono (St.up u) (show Enc.rep (α:=api_Thread) H [strv xz7.Name,.slice oa12 xz7.Regs.length cap13,.slice oa16 xz7.Body.length cap17,i6 xz7.At] xz7 from ⟨_,_,rfl,rfl,⟨_,_,rfl,⟨_,_,rfl,hc14,hr15⟩,⟨_,_,rfl,⟨_,_,rfl,hc18,hr19⟩,rfl⟩⟩⟩)) h21) ⟨rfl,trivial⟩ rfl (fun v w a hR o=>?_)
 obtain ⟨rfl,hk⟩:=hR
 replace u:=u.pass hk
 refine re<|?_
 rcases bdich r20 with hb22 | hb22
 replace hm:=ite_t hm hb22
 refine tn<|ctv o rfl hb22<|th<|rg<|qm o rfl fun a o=>qa o rfl fun a o=>re<|tn<|wr<|br<|tr<|tr<|br<|tr<|?_
 obtain rfl:=si hm
 exact r1 o results130 rfl ⟨rfl,u.keep⟩
 replace hm:=ite_f hm hb22
 refine tn<|cfv o rfl hb22<|wk<|bn<|tn<|rg<|qv o (e_add o rfl rfl) fun a o=>qm o rfl fun a o=>re<|tn<|?_
 exact ⟨(nn2,(IntKind.i64.wrap (vB1+1))),⟨hm,o.hs,u⟩,Nat.lt_succ_self _⟩
 replace hm:=itp_f hm hb6
 refine tn<|th<|cfv o rfl hb6<|we<|tx<|tx<|bx<|tn<|?_
 exact ⟨hm,o.has trivial,u⟩
 rintro a w ⟨hm,o,u⟩
 unfold Z99 at hm
 refine th<|rg<|qa o rfl fun a o=>re<|tn<|wr<|?_
 obtain rfl:=si hm
 exact r1 o results130 rfl ⟨rfl,u.keep⟩
theorem Z8h_c (hH:H.le w0) {oa2:Option Addr} {cap3:Nat} {p1:(List api_Thread)} (hc4:p1.length≤cap3) (hr5:SR H oa2 p1) {r:Bool} (hm:Z8h N p1=some r):Tot Tryz.prog 89 #[.slice oa2 p1.length cap3,.func (.func 92) #[] #[]] w0 (fun v w'=>v=.bool r∧Keep Nil w0 w'):=by
 unfold Z8h at hm
 refine fn0 func89 rfl ntmps89 rfl rfl fun a o=>?_
 have u:St w0 Nil [H] [] w0:=start1 hH
 refine th<|rg<|qa o rfl fun a o=>re<|tn<|th<|?_
 obtain ⟨rz6,h7,hm⟩:=bs hm
 refine rg<|qm o rfl fun a o=>qm o rfl fun a o=>ls<|cq o call130 (Z98_c (hp_le _) hc4 (St.srH u hr5) h7) ⟨rfl,rfl,trivial⟩ u fun w a u o=>qv o (e_geq o rfl rfl) fun a o=>qa o rfl fun a o=>re<|tn<|wr<|?_
 obtain rfl:=si hm
 exact r1 o results89 rfl ⟨rfl,u.keep⟩
set_option maxHeartbeats 4000000 in
theorem Z6j_c (hH:H.le w0) {cs2:List Value} {p1:api_Prog} (g3:Enc.rep H cs2 p1) {r:Bool} (hm:Z6j N p1=some r):Tot Tryz.prog 51 #[.agg cs2.toArray] w0 (fun v w'=>v=.bool r∧Keep Nil w0 w'):=by
 unfold Z6j at hm
 refine fn0 func51 rfl ntmps51 rfl rfl fun a o=>?_
 have u:St w0 Nil [H] [] w0:=start1 hH
 obtain ⟨oa4,cap5,oa8,cap9,oa12,cap13,oa16,cap17,oa20,cap21,oa24,cap25,rfl,hc6,hr7,hc10,hr11,hc14,hr15,hc18,hr19,hc22,hr23,hc26,hr27⟩:=api_Prog_open g3
 refine th<|rg<|ls<|a_box (cs:=[.slice oa4 p1.Lines.length cap5,.slice oa8 p1.Vols.length cap9,.slice oa12 p1.Locks.length cap13,.slice oa16 p1.Threads.length cap17,.slice oa20 p1.Recover.length cap21,.slice oa24 p1.Claims.length cap25].toArray) o rfl u rfl rfl fun b28 w a u o=>qa o rfl fun a o=>?_
 iterate 2 refine re<|tn<|th<|rg<|qa o rfl fun a o=>?_
 refine re<|tn<|th<|rg<|qv o (e_fa o fa27_3 rfl) fun a o=>qv o (e_ld o isAgg24 rfl ((St.ld u).cellB t0 rfl)) fun a o=>qv o (e_lenL (α:=api_Thread) (xs:=p1.Threads) o runUnderlying24 rfl) fun a o=>qa o rfl fun a o=>re<|tn<|th<|?_
 rcases bdich (decide (4 < (p1.Lines.length:Int))) with hb29 | hb29
 replace hm:=itp_t hm hb29
 refine rg<|qv o (e_fa o fa27_0 rfl) fun a o=>qv o (e_ld o isAgg22 rfl ((St.ld u).cellB t0 rfl)) fun a o=>qv o (e_lenL (α:=(List api_Cell)) (xs:=p1.Lines) o runUnderlying22 rfl) fun a o=>qv o (e_gtr o rfl rfl) fun a o=>qv o (e_as (e_move o rfl) (congrArg Value.bool hb29)) fun a o=>?_
 iterate 4 refine qn o fun a o=>?_
 refine qv o (e_pickT o rfl rfl) fun a o=>qm o rfl fun a o=>?_
 iterate 4 refine qn o fun a o=>?_
 refine qv o (e_pickT o rfl rfl) fun a o=>qm o rfl fun a o=>?_
 iterate 4 refine qn o fun a o=>?_
 refine qv o (e_pickT o rfl rfl) fun a o=>qm o rfl fun a o=>?_
 iterate 2 refine qn o fun a o=>?_
 refine qv o (e_pickT o rfl rfl) fun a o=>qm o rfl fun a o=>?_
 iterate 2 refine qn o fun a o=>?_
 refine qv o (e_pickT o rfl rfl) fun a o=>qm o rfl fun a o=>?_
 iterate 4 refine qn o fun a o=>?_
 refine qv o (e_pickT o rfl rfl) fun a o=>qm o rfl fun a o=>?_
 iterate 4 refine qn o fun a o=>?_
 refine qv o (e_pickT o rfl rfl) fun a o=>qa o rfl fun a o=>re<|tn<|wr<|?_
 obtain rfl:=si hm
 exact r1 o results51 rfl ⟨rfl,u.keep⟩
 replace hm:=itp_f hm hb29
 obtain ⟨r30,h31,hm⟩:=bs hm
 rcases bdich ((((r30 || (decide (4 < (p1.Vols.length:Int)))) || (decide (2 < (p1.Locks.length:Int)))) || (decide ((p1.Threads.length:Int)=0))) || (decide (3 < (p1.Threads.length:Int)))) with hb32 | hb32
 replace hm:=ite_t hm hb32
 refine rg<|qv o (e_fa o fa27_0 rfl) fun a o=>qv o (e_ld o isAgg22 rfl ((St.ld u).cellB t0 rfl)) fun a o=>qv o (e_lenL (α:=(List api_Cell)) (xs:=p1.Lines) o runUnderlying22 rfl) fun a o=>qv o (e_gtr o rfl rfl) fun a o=>qv o (e_as (e_move o rfl) (congrArg Value.bool hb29)) fun a o=>qg o (e_fa o fa27_0 rfl) fun a o=>qg o (e_ld o isAgg22 rfl ((St.ld u).cellB t0 rfl)) fun a o=>qg o (e_move o rfl) fun a o=>ls<|gy o rfl rfl<|cq o call88 (Z8a_c (hp_le _) hc6 (St.srH u hr7) h31) ⟨rfl,rfl,trivial⟩ u fun w a u o=>qv o (e_pickF o rfl rfl) fun a o=>qm o rfl fun a o=>grp (N:=51) (Fk:=[(1,.pointer (some ⟨b28,0,none⟩)),(4,.func (.func 92) #[] #[]),(5,i6 (p1.Threads.length:Int)),(24,.bool (r30 || (decide (4 < (p1.Vols.length:Int)))))]) (b:=r30) 5 u ?_ ?_ ?_
 intro hb key
 replace o:=Fr.as o (t:=19) rfl (congrArg Value.bool hb)
 iterate 4 refine qn o fun a o=>?_
 refine qv o (e_as (v':=.bool (r30 || (decide (4 < (p1.Vols.length:Int))))) (e_pickT o rfl rfl) (by rw [hb];rfl)) fun a o=>?_
 exact key _ _ (o.hs) u
 intro hb key
 replace o:=Fr.as o (t:=19) rfl (congrArg Value.bool hb)
 refine qg o (e_fa o fa27_1 rfl) fun a o=>qg o (e_ld o isAgg23 rfl ((St.ld u).cellB t0 rfl)) fun a o=>qg o (e_lenL (α:=api_Cell) (xs:=p1.Vols) o runUnderlying23 rfl) fun a o=>qg o (e_gtr o rfl rfl) fun a o=>qv o (e_as (v':=.bool (r30 || (decide (4 < (p1.Vols.length:Int))))) (e_pickF o rfl rfl) (by rw [hb];rfl)) fun a o=>?_
 exact key _ _ (o.hs) u
 intro a w o u
 refine qm o rfl fun a o=>grp (N:=51) (Fk:=[(1,.pointer (some ⟨b28,0,none⟩)),(4,.func (.func 92) #[] #[]),(5,i6 (p1.Threads.length:Int)),(30,.bool ((r30 || (decide (4 < (p1.Vols.length:Int)))) || (decide (2 < (p1.Locks.length:Int)))))]) (b:=(r30 || (decide (4 < (p1.Vols.length:Int))))) 5 u ?_ ?_ ?_
 intro hb key
 replace o:=Fr.as o (t:=25) rfl (congrArg Value.bool hb)
 iterate 4 refine qn o fun a o=>?_
 refine qv o (e_as (v':=.bool ((r30 || (decide (4 < (p1.Vols.length:Int)))) || (decide (2 < (p1.Locks.length:Int))))) (e_pickT o rfl rfl) (by rw [hb];rfl)) fun a o=>?_
 exact key _ _ (o.hs) u
 intro hb key
 replace o:=Fr.as o (t:=25) rfl (congrArg Value.bool hb)
 refine qg o (e_fa o fa27_2 rfl) fun a o=>qg o (e_ld o isAgg23 rfl ((St.ld u).cellB t0 rfl)) fun a o=>qg o (e_lenL (α:=api_Cell) (xs:=p1.Locks) o runUnderlying23 rfl) fun a o=>qg o (e_gtr o rfl rfl) fun a o=>qv o (e_as (v':=.bool ((r30 || (decide (4 < (p1.Vols.length:Int)))) || (decide (2 < (p1.Locks.length:Int))))) (e_pickF o rfl rfl) (by rw [hb];rfl)) fun a o=>?_
 exact key _ _ (o.hs) u
 intro a w o u
 refine qm o rfl fun a o=>grp (N:=51) (Fk:=[(1,.pointer (some ⟨b28,0,none⟩)),(4,.func (.func 92) #[] #[]),(5,i6 (p1.Threads.length:Int)),(34,.bool (((r30 || (decide (4 < (p1.Vols.length:Int)))) || (decide (2 < (p1.Locks.length:Int)))) || (decide ((p1.Threads.length:Int)=0))))]) (b:=((r30 || (decide (4 < (p1.Vols.length:Int)))) || (decide (2 < (p1.Locks.length:Int))))) 3 u ?_ ?_ ?_
 intro hb key
 replace o:=Fr.as o (t:=31) rfl (congrArg Value.bool hb)
 iterate 2 refine qn o fun a o=>?_
 refine qv o (e_as (v':=.bool (((r30 || (decide (4 < (p1.Vols.length:Int)))) || (decide (2 < (p1.Locks.length:Int)))) || (decide ((p1.Threads.length:Int)=0)))) (e_pickT o rfl rfl) (by rw [hb];rfl)) fun a o=>?_
 exact key _ _ (o.hs) u
 intro hb key
 replace o:=Fr.as o (t:=31) rfl (congrArg Value.bool hb)
 refine qg o (e_move o rfl) fun a o=>qg o (e_eql o rfl rfl) fun a o=>qv o (e_as (v':=.bool (((r30 || (decide (4 < (p1.Vols.length:Int)))) || (decide (2 < (p1.Locks.length:Int)))) || (decide ((p1.Threads.length:Int)=0)))) (e_pickF o rfl rfl) (by rw [hb];rfl)) fun a o=>?_
 exact key _ _ (o.hs) u
 intro a w o u
 refine qm o rfl fun a o=>grp (N:=51) (Fk:=[(1,.pointer (some ⟨b28,0,none⟩)),(4,.func (.func 92) #[] #[]),(38,.bool ((((r30 || (decide (4 < (p1.Vols.length:Int)))) || (decide (2 < (p1.Locks.length:Int)))) || (decide ((p1.Threads.length:Int)=0))) || (decide (3 < (p1.Threads.length:Int)))))]) (b:=(((r30 || (decide (4 < (p1.Vols.length:Int)))) || (decide (2 < (p1.Locks.length:Int)))) || (decide ((p1.Threads.length:Int)=0)))) 3 u ?_ ?_ ?_
 intro hb key
 replace o:=Fr.as o (t:=35) rfl (congrArg Value.bool hb)
 iterate 2 refine qn o fun a o=>?_
 refine qv o (e_as (v':=.bool ((((r30 || (decide (4 < (p1.Vols.length:Int)))) || (decide (2 < (p1.Locks.length:Int)))) || (decide ((p1.Threads.length:Int)=0))) || (decide (3 < (p1.Threads.length:Int))))) (e_pickT o rfl rfl) (by rw [hb];rfl)) fun a o=>?_
 exact key _ _ (o.hs) u
 intro hb key
 replace o:=Fr.as o (t:=35) rfl (congrArg Value.bool hb)
 refine qg o (e_move o rfl) fun a o=>qg o (e_gtr o rfl rfl) fun a o=>qv o (e_as (v':=.bool ((((r30 || (decide (4 < (p1.Vols.length:Int)))) || (decide (2 < (p1.Locks.length:Int)))) || (decide ((p1.Threads.length:Int)=0))) || (decide (3 < (p1.Threads.length:Int))))) (e_pickF o rfl rfl) (by rw [hb];rfl)) fun a o=>?_
 exact key _ _ (o.hs) u
 intro a w o u
 refine qv o (e_as (e_move o rfl) (congrArg Value.bool hb32)) fun a o=>?_
 iterate 4 refine qn o fun a o=>?_
 refine qv o (e_pickT o rfl rfl) fun a o=>qm o rfl fun a o=>?_
 iterate 4 refine qn o fun a o=>?_
 refine qv o (e_pickT o rfl rfl) fun a o=>qa o rfl fun a o=>re<|tn<|wr<|?_
 obtain rfl:=si hm
 exact r1 o results51 rfl ⟨rfl,u.keep⟩
 replace hm:=ite_f hm hb32
 obtain ⟨r33,h34,hm⟩:=bs hm
 obtain ⟨r43,h44,hm⟩:=bs hm
 refine rg<|qv o (e_fa o fa27_0 rfl) fun a o=>qv o (e_ld o isAgg22 rfl ((St.ld u).cellB t0 rfl)) fun a o=>qv o (e_lenL (α:=(List api_Cell)) (xs:=p1.Lines) o runUnderlying22 rfl) fun a o=>qv o (e_gtr o rfl rfl) fun a o=>qv o (e_as (e_move o rfl) (congrArg Value.bool hb29)) fun a o=>qg o (e_fa o fa27_0 rfl) fun a o=>qg o (e_ld o isAgg22 rfl ((St.ld u).cellB t0 rfl)) fun a o=>qg o (e_move o rfl) fun a o=>ls<|gy o rfl rfl<|cq o call88 (Z8a_c (hp_le _) hc6 (St.srH u hr7) h31) ⟨rfl,rfl,trivial⟩ u fun w a u o=>qv o (e_pickF o rfl rfl) fun a o=>qm o rfl fun a o=>grp (N:=51) (Fk:=[(1,.pointer (some ⟨b28,0,none⟩)),(4,.func (.func 92) #[] #[]),(5,i6 (p1.Threads.length:Int)),(24,.bool (r30 || (decide (4 < (p1.Vols.length:Int)))))]) (b:=r30) 5 u ?_ ?_ ?_
 intro hb key
 replace o:=Fr.as o (t:=19) rfl (congrArg Value.bool hb)
 iterate 4 refine qn o fun a o=>?_
 refine qv o (e_as (v':=.bool (r30 || (decide (4 < (p1.Vols.length:Int))))) (e_pickT o rfl rfl) (by rw [hb];rfl)) fun a o=>?_
 exact key _ _ (o.hs) u
 intro hb key
 replace o:=Fr.as o (t:=19) rfl (congrArg Value.bool hb)
 refine qg o (e_fa o fa27_1 rfl) fun a o=>qg o (e_ld o isAgg23 rfl ((St.ld u).cellB t0 rfl)) fun a o=>qg o (e_lenL (α:=api_Cell) (xs:=p1.Vols) o runUnderlying23 rfl) fun a o=>qg o (e_gtr o rfl rfl) fun a o=>qv o (e_as (v':=.bool (r30 || (decide (4 < (p1.Vols.length:Int))))) (e_pickF o rfl rfl) (by rw [hb];rfl)) fun a o=>?_
 exact key _ _ (o.hs) u
 intro a w o u
 refine qm o rfl fun a o=>grp (N:=51) (Fk:=[(1,.pointer (some ⟨b28,0,none⟩)),(4,.func (.func 92) #[] #[]),(5,i6 (p1.Threads.length:Int)),(30,.bool ((r30 || (decide (4 < (p1.Vols.length:Int)))) || (decide (2 < (p1.Locks.length:Int)))))]) (b:=(r30 || (decide (4 < (p1.Vols.length:Int))))) 5 u ?_ ?_ ?_
 intro hb key
 replace o:=Fr.as o (t:=25) rfl (congrArg Value.bool hb)
 iterate 4 refine qn o fun a o=>?_
 refine qv o (e_as (v':=.bool ((r30 || (decide (4 < (p1.Vols.length:Int)))) || (decide (2 < (p1.Locks.length:Int))))) (e_pickT o rfl rfl) (by rw [hb];rfl)) fun a o=>?_
 exact key _ _ (o.hs) u
 intro hb key
 replace o:=Fr.as o (t:=25) rfl (congrArg Value.bool hb)
 refine qg o (e_fa o fa27_2 rfl) fun a o=>qg o (e_ld o isAgg23 rfl ((St.ld u).cellB t0 rfl)) fun a o=>qg o (e_lenL (α:=api_Cell) (xs:=p1.Locks) o runUnderlying23 rfl) fun a o=>qg o (e_gtr o rfl rfl) fun a o=>qv o (e_as (v':=.bool ((r30 || (decide (4 < (p1.Vols.length:Int)))) || (decide (2 < (p1.Locks.length:Int))))) (e_pickF o rfl rfl) (by rw [hb];rfl)) fun a o=>?_
 exact key _ _ (o.hs) u
 intro a w o u
 refine qm o rfl fun a o=>grp (N:=51) (Fk:=[(1,.pointer (some ⟨b28,0,none⟩)),(4,.func (.func 92) #[] #[]),(5,i6 (p1.Threads.length:Int)),(34,.bool (((r30 || (decide (4 < (p1.Vols.length:Int)))) || (decide (2 < (p1.Locks.length:Int)))) || (decide ((p1.Threads.length:Int)=0))))]) (b:=((r30 || (decide (4 < (p1.Vols.length:Int)))) || (decide (2 < (p1.Locks.length:Int))))) 3 u ?_ ?_ ?_
 intro hb key
 replace o:=Fr.as o (t:=31) rfl (congrArg Value.bool hb)
 iterate 2 refine qn o fun a o=>?_
 refine qv o (e_as (v':=.bool (((r30 || (decide (4 < (p1.Vols.length:Int)))) || (decide (2 < (p1.Locks.length:Int)))) || (decide ((p1.Threads.length:Int)=0)))) (e_pickT o rfl rfl) (by rw [hb];rfl)) fun a o=>?_
 exact key _ _ (o.hs) u
 intro hb key
 replace o:=Fr.as o (t:=31) rfl (congrArg Value.bool hb)
 refine qg o (e_move o rfl) fun a o=>qg o (e_eql o rfl rfl) fun a o=>qv o (e_as (v':=.bool (((r30 || (decide (4 < (p1.Vols.length:Int)))) || (decide (2 < (p1.Locks.length:Int)))) || (decide ((p1.Threads.length:Int)=0)))) (e_pickF o rfl rfl) (by rw [hb];rfl)) fun a o=>?_
 exact key _ _ (o.hs) u
 intro a w o u
 refine qm o rfl fun a o=>grp (N:=51) (Fk:=[(1,.pointer (some ⟨b28,0,none⟩)),(4,.func (.func 92) #[] #[]),(38,.bool ((((r30 || (decide (4 < (p1.Vols.length:Int)))) || (decide (2 < (p1.Locks.length:Int)))) || (decide ((p1.Threads.length:Int)=0))) || (decide (3 < (p1.Threads.length:Int)))))]) (b:=(((r30 || (decide (4 < (p1.Vols.length:Int)))) || (decide (2 < (p1.Locks.length:Int)))) || (decide ((p1.Threads.length:Int)=0)))) 3 u ?_ ?_ ?_
 intro hb key
 replace o:=Fr.as o (t:=35) rfl (congrArg Value.bool hb)
 iterate 2 refine qn o fun a o=>?_
 refine qv o (e_as (v':=.bool ((((r30 || (decide (4 < (p1.Vols.length:Int)))) || (decide (2 < (p1.Locks.length:Int)))) || (decide ((p1.Threads.length:Int)=0))) || (decide (3 < (p1.Threads.length:Int))))) (e_pickT o rfl rfl) (by rw [hb];rfl)) fun a o=>?_
 exact key _ _ (o.hs) u
 intro hb key
 replace o:=Fr.as o (t:=35) rfl (congrArg Value.bool hb)
 refine qg o (e_move o rfl) fun a o=>qg o (e_gtr o rfl rfl) fun a o=>qv o (e_as (v':=.bool ((((r30 || (decide (4 < (p1.Vols.length:Int)))) || (decide (2 < (p1.Locks.length:Int)))) || (decide ((p1.Threads.length:Int)=0))) || (decide (3 < (p1.Threads.length:Int))))) (e_pickF o rfl rfl) (by rw [hb];rfl)) fun a o=>?_
 exact key _ _ (o.hs) u
 intro a w o u
 refine qv o (e_as (e_move o rfl) (congrArg Value.bool hb32)) fun a o=>qg o (e_ldA o isAgg27 sizeOf27 rfl rfl ((St.ld u).cellsB t0)) fun a o=>ls<|gy o rfl rfl<|c1 o rfl call52 (Z6y_c (St.le u) (show Enc.rep (α:=api_Prog) H [.slice oa4 p1.Lines.length cap5,.slice oa8 p1.Vols.length cap9,.slice oa12 p1.Locks.length cap13,.slice oa16 p1.Threads.length cap17,.slice oa20 p1.Recover.length cap21,.slice oa24 p1.Claims.length cap25] p1 from ⟨_,_,rfl,⟨_,_,rfl,hc6,hr7⟩,⟨_,_,rfl,⟨_,_,rfl,hc10,hr11⟩,⟨_,_,rfl,⟨_,_,rfl,hc14,hr15⟩,⟨_,_,rfl,⟨_,_,rfl,hc18,hr19⟩,⟨_,_,rfl,⟨_,_,rfl,hc22,hr23⟩,⟨_,_,rfl,hc26,hr27⟩⟩⟩⟩⟩⟩) h34) ⟨rfl,trivial⟩ (fun v w a hR o=>?_)
 obtain ⟨H38,oa39,cap40,rfl,hc41,hr42,hx35,hl36,hk⟩:=hR
 obtain ⟨u,hx35⟩:=And.intro (St.passH u hk hx35 hl36) (St.extc u hx35)
 refine qg o (e_move o rfl) fun a o=>ls<|gy o rfl rfl<|cq o call89 (Z8h_c (hp_le _) hc41 (St.srH u hr42) h44) ⟨rfl,rfl,trivial⟩ u fun w a u o=>qv o (e_pickF o rfl rfl) fun a o=>qm o rfl fun a o=>grp (N:=51) (Fk:=[(50,.bool (r43 || (decide (4 < (p1.Claims.length:Int)))))]) (b:=r43) 5 u ?_ ?_ ?_
 intro hb key
 replace o:=Fr.as o (t:=45) rfl (congrArg Value.bool hb)
 iterate 4 refine qn o fun a o=>?_
 refine qv o (e_as (v':=.bool (r43 || (decide (4 < (p1.Claims.length:Int))))) (e_pickT o rfl rfl) (by rw [hb];rfl)) fun a o=>?_
 exact key _ _ (o.has ⟨rfl,trivial⟩) u
 intro hb key
 replace o:=Fr.as o (t:=45) rfl (congrArg Value.bool hb)
 refine qg o (e_fa o fa27_5 rfl) fun a o=>qg o (e_ld o isAgg25 rfl ((St.ld u).cellB t0 rfl)) fun a o=>qg o (e_lenL (α:=api_Claim) (xs:=p1.Claims) o runUnderlying25 rfl) fun a o=>qg o (e_gtr o rfl rfl) fun a o=>qv o (e_as (v':=.bool (r43 || (decide (4 < (p1.Claims.length:Int))))) (e_pickF o rfl rfl) (by rw [hb];rfl)) fun a o=>?_
 exact key _ _ (o.has ⟨rfl,trivial⟩) u
 intro a w o u
 refine qa o rfl fun a o=>re<|tn<|wr<|?_
 obtain rfl:=si hm
 exact r1 o results51 rfl ⟨rfl,u.keep⟩
theorem Z7c_c:∀ (N:Nat) {w0:World} {H:PH} (_:H.le w0) {oa2:Option Addr} {cap3:Nat} {p1:(List api_Stmt)} (_:p1.length≤cap3) (_:SR H oa2 p1) {p6:Int} {r:(Int×Bool)} (_:Z7c N p1 p6=some r),Tot Tryz.prog 53 #[.slice oa2 p1.length cap3,i6 p6] w0 (fun v w'=>v=.tuple #[i6 r.1,.bool r.2]∧Keep Nil w0 w'):=by
 intro N
 induction N with
  | zero=>intros;rename_i hm;simp [Z7c] at hm
  | succ N ih=>
 intro w0 H hH oa2 cap3 p1 hc4 hr5 p6 r hm
 rw [Z7c] at hm
 refine fn0 func53 rfl ntmps53 rfl rfl fun a o=>?_
 have u:St w0 Nil [H] [] w0:=start1 hH
 refine th<|rg<|qa o rfl fun a o=>qa o rfl fun a o=>re<|tn<|th<|th<|rg<|qa o rfl fun a o=>re<|tn<|midK (fun a w=>Z7d=some r∧Fr 53 [] a∧St w0 Nil [H] [] w) ?_ ?_
 refine wb<|lp (α:=Nat×Int) (fun gh a w=>match gh with | (nn2,vB1)=>(Z7f (Z7c N) N Z7d p1 p6) nn2 vB1=some r∧Fr 53 [(0,.slice oa2 p1.length cap3),(1,i6 p6),(6,i6 vB1)] a∧St w0 Nil [H] [] w) (fun gh=>gh.1) (N,0) ⟨hm,o.hs,u⟩ ?_
 rintro ⟨nn2,vB1⟩ a w ⟨hm,o,u⟩
 obtain _ | nn2:=nn2
 simp [Z7f] at hm
 rw [Z7f] at hm
 refine th<|th<|rg<|qm o rfl fun a o=>qm o rfl fun a o=>qv o (e_lenL (α:=api_Stmt) (xs:=p1) o runUnderlying46 rfl) fun a o=>qv o (e_lss o rfl rfl) fun a o=>re<|?_
 rcases bdich (decide (vB1 < (p1.length:Int))) with hb7 | hb7
 replace hm:=itp_t hm hb7
 refine tn<|ctv o rfl hb7<|wk<|tn<|wb<|th<|?_
 obtain ⟨xz8,h9,hm⟩:=bs hm
 obtain ⟨c10,g11,hl12⟩:=SR.get hr5 h9
 obtain ⟨oa13,cap14,oa17,cap18,rfl,hc15,hr16,hc19,hr20⟩:=api_Stmt_open g11
 refine rg<|qm o rfl fun a o=>qm o rfl fun a o=>qv o (e_iaI o runUnderlying46 sizeOf51 rfl rfl h9 (SR.oaI hr5 (by decide) h9)) fun a o=>qv o (e_ldA o isAgg51 sizeOf51 rfl rfl (fun j v hj=>PH.le.cell (Lds.le (St.ld u)) (hl12 j v hj))) fun a o=>ls<|a_alloc (cs:=[i6 0,strv [],strv [],.slice none 0 0,.slice none 0 0,i6 0,i6 0,i6 0,i6 0].toArray) o rfl u zeroValue51 rfl fun b21 w a u o=>ls<|s_blkA o u sizeOf51 rfl rfl rfl rfl (one_cells rfl) .head fun w u=>re<|tn<|th<|rg<|qm o rfl fun a o=>qv o (e_add o rfl rfl) fun a o=>qv o (e_fa o fa51_6 rfl) fun a o=>qv o (e_ld o isAgg3 rfl ((St.ld u).cellB t0 rfl)) fun a o=>qv o (e_add o rfl rfl) fun a o=>qv o (e_fa o fa51_7 rfl) fun a o=>qv o (e_ld o isAgg3 rfl ((St.ld u).cellB t0 rfl)) fun a o=>qv o (e_add o rfl rfl) fun a o=>qa o rfl fun a o=>re<|tn<|th<|rg<|qm o rfl fun a o=>qa o rfl fun a o=>re<|tn<|th<|th<|rg<|qv o (e_fa o fa51_0 rfl) fun a o=>qv o (e_ld o isAgg3 rfl ((St.ld u).cellB t0 rfl)) fun a o=>qv o (e_eql o rfl rfl) fun a o=>re<|tn<|midK (fun a w=>∃ (vC1:Int),(Z7e (Z7c N) ((Z7f (Z7c N) N Z7d p1 p6) nn2) p1 xz8 vB1) vC1=some r∧Fr 53 [(0,.slice oa2 p1.length cap3),(1,i6 p6),(6,i6 vB1),(7,.pointer (some ⟨b21,0,none⟩)),(8,i6 (IntKind.i64.wrap ((IntKind.i64.wrap ((IntKind.i64.wrap (vB1+1))+xz8.Body))+xz8.Else))),(9,i6 vC1)] a∧St w0 Nil [H] [blk b21 (.cells [i6 xz8.Kind,strv xz8.Reg,strv xz8.Name,.slice oa13 xz8.E.length cap14,.slice oa17 xz8.F.length cap18,i6 xz8.N,i6 xz8.Body,i6 xz8.Else,i6 xz8.At].toArray 51 (0,0))] w) ?_ ?_
 rcases bdich (decide (xz8.Kind=12)) with hb22 | hb22
 replace hm:=itp_t hm hb22
 refine ctv o rfl hb22<|rg<|qm o rfl fun a o=>qv o (e_fa o fa51_5 rfl) fun a o=>qv o (e_ld o isAgg3 rfl ((St.ld u).cellB t0 rfl)) fun a o=>qv o (e_mul o rfl rfl) fun a o=>qa o rfl fun a o=>re<|tn<|?_
 exact ⟨(IntKind.i64.wrap (p6 * xz8.N)),hm,o.hs,u⟩
 replace hm:=itp_f hm hb22
 refine cfv o rfl hb22<|wk<|tn<|?_
 exact ⟨p6,hm,o.hs,u⟩
 rintro a w ⟨vC1,hm,o,u⟩
 unfold Z7e at hm
 refine th<|th<|rg<|qm o rfl fun a o=>qv o (e_gtr o rfl rfl) fun a o=>re<|?_
 rcases bdich (decide (64 < vC1)) with hb23 | hb23
 replace hm:=itp_t hm hb23
 refine tn<|ctv o rfl hb23<|th<|rg<|qv o (e_fa o fa51_8 rfl) fun a o=>qv o (e_ld o isAgg3 rfl ((St.ld u).cellB t0 rfl)) fun a o=>?_
 iterate 2 refine qa o rfl fun a o=>?_
 refine re<|tn<|wr<|tr<|br<|tr<|br<|tr<|?_
 obtain rfl:=si hm
 exact r2 o results53 rfl rfl ⟨rfl,u.keep⟩
 replace hm:=itp_f hm hb23
 refine tn<|cfv o rfl hb23<|wk<|tn<|th<|th<|?_
 obtain ⟨l24,h25,hm⟩:=bs hm
 obtain ⟨oa26,cap27,e28,e29,hc30,hr31⟩:=SR.sub (sz:=9) hr5 hc4 rfl h25
 obtain ⟨r32,h33,hm⟩:=bs hm
 refine rg<|qm o rfl fun a o=>qm o rfl fun a o=>qv o (e_add o rfl rfl) fun a o=>qm o rfl fun a o=>qv o (e_subL (xs:=p1) (vl:=(IntKind.i64.wrap (vB1+1))) (vh:=(IntKind.i64.wrap ((IntKind.i64.wrap ((IntKind.i64.wrap (vB1+1))+xz8.Body))+xz8.Else))) o runUnderlying46 sizeOf51 rfl hc4 rfl rfl h25 e28 e29) fun a o=>qm o rfl fun a o=>ls<|cq o call53 (ih (hp_le _) hc30 (St.srH u hr31) h33) ⟨rfl,rfl,trivial⟩ u fun w a u o=>qm o rfl fun a o=>?_
 iterate 2 refine qv o (e_ext o rfl rfl) fun a o=>?_
 iterate 2 refine qa o rfl fun a o=>?_
 refine re<|tn<|th<|rg<|qm o rfl fun a o=>re<|?_
 rcases bdich r32.2 with hb34 | hb34
 replace hm:=ite_t hm hb34
 refine tn<|ctv o rfl hb34<|th<|rg<|qm o rfl fun a o=>?_
 iterate 2 refine qa o rfl fun a o=>?_
 refine re<|tn<|wr<|tr<|br<|tr<|br<|tr<|?_
 obtain rfl:=si hm
 exact r2 o results53 rfl rfl ⟨rfl,u.keep⟩
 replace hm:=ite_f hm hb34
 refine tn<|cfv o rfl hb34<|wk<|tn<|rg<|qm o rfl fun a o=>qa o rfl fun a o=>re<|bn<|tn<|?_
 replace u:=u.pickL .nil
 exact ⟨(nn2,(IntKind.i64.wrap ((IntKind.i64.wrap ((IntKind.i64.wrap (vB1+1))+xz8.Body))+xz8.Else))),⟨hm,o.hs,u⟩,Nat.lt_succ_self _⟩
 replace hm:=itp_f hm hb7
 refine tn<|cfv o rfl hb7<|we<|tx<|tx<|bx<|tn<|?_
 exact ⟨hm,o.has trivial,u⟩
 rintro a w ⟨hm,o,u⟩
 unfold Z7d at hm
 refine th<|rg<|qa o rfl fun a o=>qa o rfl fun a o=>re<|tn<|wr<|?_
 obtain rfl:=si hm
 exact r2 o results53 rfl rfl ⟨rfl,u.keep⟩
theorem Z6v_c (hH:H.le w0) {cs2:List Value} {p1:api_Thread} (g3:Enc.rep H cs2 p1) {mz5 cz7:Nat} {l6:List (Str×Value×Nat)} {p4:(List (Str×Int))} (hf9:H mz5=some (.map (l6.map (toE kS)).toArray cz7)) (hm8:MRel kI l6 p4) (hg10:MGood l6 cz7) {r:((List (Str×Int))×Bool)} (hm:Z6v N p1 p4=some r):Tot Tryz.prog 54 #[.agg cs2.toArray,.map (some mz5)] w0 (fun v w'=>∃ (vm0:Value) (A0:HA),v=.tuple #[vm0,.bool r.2]∧OMap kS kI vm0 A0 r.1∧Fresh w0 (A0) w'):=by
 unfold Z6v at hm
 refine fn0 func54 rfl ntmps54 rfl rfl fun a o=>?_
 have u:St w0 Nil [H] [] w0:=start1 hH
 obtain ⟨oa11,cap12,oa15,cap16,rfl,hc13,hr14,hc17,hr18⟩:=api_Thread_open g3
 refine th<|rg<|ls<|a_box (cs:=[strv p1.Name,.slice oa11 p1.Regs.length cap12,.slice oa15 p1.Body.length cap16,i6 p1.At].toArray) o rfl u rfl rfl fun b19 w a u o=>?_
 iterate 2 refine qa o rfl fun a o=>?_
 refine re<|tn<|th<|rg<|ls<|a_map o rfl u fun m20 w a u o=>?_
 replace u:=St.gmap0 (kv:=kS) u
 have hm21:MRel (κ:=Str) (β:=Int) kI [] []:=MRel.nil _
 refine qa o rfl fun a o=>re<|tn<|th<|th<|rg<|qm o rfl fun a o=>ls<|m_range o rfl u underlying75 rfl ((Lds.le (St.ld u)) _ _ hf9) fun r22 w a u o=>re<|tn<|wb<|lp (α:=Array Nat) (fun (seen:Array Nat) a w=>∃ (lq:List (Str×Value×Nat)) (cq:Nat),Fr 39 [(13,.pointer (some ⟨r22,0,none⟩)),(2,.pointer (some ⟨b19,0,none⟩)),(6,.map (some m20))] a∧St w0 Nil [H] [itr r22 mz5 cz7 seen cz7,gmap kS m20 lq cq,blk b19 (.cells [strv p1.Name,.slice oa11 p1.Regs.length cap12,.slice oa15 p1.Body.length cap16,i6 p1.At].toArray 48 (0,0))] w∧MFil (kI 4) seen l6 lq) (fun seen=>lft l6 seen) #[] ⟨[],0,o.hs,u,MFil.start⟩ ?_
 rintro seen a w ⟨l23,c24,o,u,hfil⟩
 refine th<|rg<|ls<|m_next o rfl u rfl ((Lds.le (St.ld u)) _ _ hf9) hg10 t0 ?_ ?_
 intro e he hs a w hU o
 replace u:=hU _ .head
 obtain ⟨y,hy⟩:=hm8.val he
 refine qv o (e_ext o rfl rfl) fun a o=>re<|tn<|th<|ct o rfl<|wk<|tn<|wb<|th<|rg<|qv o (e_as (v':=.tuple #[kS e.1,kI y]) (e_entry o rfl (St.blkO u t0) ((Lds.le (St.ld u)) _ _ hf9) hg10 he) (by rw [hy])) fun a o=>?_
 iterate 2 refine qv o (e_ext o rfl rfl) fun a o=>?_
 iterate 2 refine qa o rfl fun a o=>?_
 refine re<|tn<|th<|rg<|qm o rfl fun a o=>qv o (e_neq (m:=y) (n:=4) o rfl rfl) fun a o=>re<|tn<|?_
 rcases bdich (decide (y≠4)) with hb | hb
 refine ctv o rfl hb<|rg<|?_
 iterate 3 refine qm o rfl fun a o=>?_
 refine ls<|m_putR (kv:=kS) (k:=e.1) (v:=e.2.1) o u key9 runUnderlying75 rfl rfl (by rw [hy];rfl) (.tail .head) fun w u=>re<|bn<|tn<|?_
 exact ⟨seen.push e.2.2,⟨_,_,o.hs,u,hfil.keep hm8.dl hg10 he (by rw [hy];exact fun h=>of_decide_eq_true hb (by injection h))⟩,lft_lt he hs⟩
 refine cfv o rfl hb<|wk<|bn<|tn<|?_
 exact ⟨seen.push e.2.2,⟨_,_,o.hs,u,hfil.skip hg10 he (by rw [hy,show y=4 from Classical.byContradiction fun h=>of_decide_eq_false hb h])⟩,lft_lt he hs⟩
 intro hall a o
 refine qv o (e_ext o rfl rfl) fun a o=>?_
 have hm25:=MFil.done (x:=4) (fun _ _ h=>by injection h) hm8 hfil hall
 replace u:=u.drop .head
 refine re<|tn<|th<|cf o rfl<|we<|tx<|tx<|bx<|tn<|th<|th<|rg<|qv o (e_fa o fa48_1 rfl) fun a o=>qv o (e_ld o isAgg36 rfl ((St.ld u).cellB t1 rfl)) fun a o=>qv o (e_lenL (α:=Str) (xs:=p1.Regs) o runUnderlying36 rfl) fun a o=>qm o rfl fun a o=>re<|tn<|midK (fun a w=>∃ (vA1:(List (Str×Int))) (lA2:List (Str×Value×Nat)) (cA3:Nat),Z6w vA1=some r∧Fr 39 [(6,.map (some m20))] a∧St w0 Nil [H] [gmap kS m20 lA2 cA3] w∧MRel kI lA2 vA1) ?_ ?_
 replace u:=u.pk [0] rfl
 refine wb<|lp (α:=Nat×(List (Str×Int))×Int) (fun (gh:Nat×(List (Str×Int))×Int) a w=>match gh with | (nn2,vB1,vB5)=>∃ (lB2:List (Str×Value×Nat)) (cB3:Nat),(Z6x N Z6w p1) nn2 vB1 vB5=some r∧Fr 39 [(6,.map (some m20)),(25,.slice oa11 p1.Regs.length cap12),(26,i6 (p1.Regs.length:Int)),(27,i6 vB5)] a∧St w0 Nil [H] [gmap kS m20 lB2 cB3] w∧MRel kI lB2 vB1) (fun gh=>gh.1) (N,(p4.filter fun q=>decide (q.2≠4)),0) ⟨l23,c24,hm,o.hs,u,hm25⟩ ?_
 rintro ⟨nn2,vB1,vB5⟩ a w ⟨lB2,cB3,hm,o,u,hmB4⟩
 obtain _ | nn2:=nn2
 simp [Z6x] at hm
 rw [Z6x] at hm
 refine th<|rg<|qv o (e_lss o rfl rfl) fun a o=>re<|?_
 rcases bdich (decide (vB5 < (p1.Regs.length:Int))) with hb26 | hb26
 replace hm:=itp_t hm hb26
 refine tn<|th<|ctv o rfl hb26<|wk<|tn<|th<|wb<|th<|?_
 obtain ⟨x27,h28,hm⟩:=bs hm
 obtain ⟨c29,g30,hl31⟩:=SR.get hr14 h28
 obtain rfl:c29=[strv x27]:=g30
 refine rg<|qv o (e_iaI o Tryz.runUnderlying36 Tryz.sizeOf9 rfl rfl h28 (SR.oaI hr14 (by decide) h28)) fun a o=>qv o (e_ld o isAgg9 rfl (PH.le.cell (Lds.le (St.ld u)) (hl31 0 _ rfl))) fun a o=>qa o rfl fun a o=>re<|tn<|th<|th<|rg<|qm o rfl fun a o=>qm o rfl fun a o=>qv o (e_lookM (ev:=kI) (dv:=0) (m:=vB1) (k:=x27) o key9 runUnderlying75 zeroValue3 (Lds.mapO (St.ld u) t0) rfl rfl hmB4) fun a o=>qv o (e_neq o rfl rfl) fun a o=>re<|?_
 rcases bdich (decide (((plook x27 vB1).getD 0)≠0)) with hb32 | hb32
 replace hm:=itp_t hm hb32
 refine tn<|ctv o rfl hb32<|th<|rg<|qa o rfl fun a o=>qa o rfl fun a o=>re<|tn<|wr<|tr<|br<|tr<|tr<|br<|tr<|?_
 replace u:=St.ds0 u
 obtain rfl:=si hm
 exact r2 o results54 rfl rfl ⟨(.map none),(sepA []),rfl,(.inl ⟨rfl,rfl,rfl⟩),u.endFresh t0⟩
 replace hm:=itp_f hm hb32
 refine tn<|cfv o rfl hb32<|wk<|tn<|rg<|qm o rfl fun a o=>qm o rfl fun a o=>ls<|m_put (ev:=kI) (m:=vB1) (k:=x27) (v:=5) o u key9 runUnderlying75 rfl rfl rfl t0 hmB4 fun l33 c34 w hm35 hU=>?_
 replace u:=hU _ .head
 refine re<|bn<|tn<|rg<|qv o (e_add o rfl rfl) fun a o=>qm o rfl fun a o=>re<|tn<|?_
 exact ⟨(nn2,(pput x27 5 vB1),(IntKind.i64.wrap (vB5+1))),⟨l33,c34,hm,o.hs,u,hm35⟩,Nat.lt_succ_self _⟩
 replace hm:=itp_f hm hb26
 refine tn<|th<|cfv o rfl hb26<|we<|tx<|tx<|bx<|tn<|?_
 exact ⟨vB1,lB2,cB3,hm,o.has ⟨rfl,trivial⟩,u,hmB4⟩
 rintro a w ⟨vA1,lA2,cA3,hm,o,u,hmA4⟩
 unfold Z6w at hm
 refine th<|rg<|qm o rfl fun a o=>?_
 iterate 2 refine qa o rfl fun a o=>?_
 refine re<|tn<|wr<|?_
 obtain rfl:=si hm
 exact r2 o results54 rfl rfl ⟨(.map (some m20)),(gmap kS m20 lA2 cA3),rfl,(.inr ⟨_,_,_,rfl,rfl,hmA4⟩),u.endFresh t0⟩
theorem Z6z_c (hH:H.le w0) {oa2:Option Addr} {cap3:Nat} {p1:(List api_Stmt)} (hc4:p1.length≤cap3) (hr5:SR H oa2 p1) {r:(List api_Stmt)} (hm:Z6z N p1=some r):Tot Tryz.prog 55 #[.slice oa2 p1.length cap3] w0 (fun v w'=>∃ (H':PH) (b0:Nat) (oa0:Option Addr) (cap0:Nat),v=.func (.func 94) #[] #[.pointer (some ⟨b0,0,none⟩)]∧H' b0=some (.cells [.slice oa0 r.length cap0].toArray 46 (0,0))∧r.length≤cap0∧SR H' oa0 r∧Ext w0 H H'∧H'.le w'∧Keep Nil w0 w'):=by
 unfold Z6z at hm
 refine fn0 func55 rfl ntmps55 rfl rfl fun a o=>?_
 have u:St w0 Nil [H] [] w0:=start1 hH
 refine th<|rg<|ls<|a_box (cs:=[.slice oa2 p1.length cap3].toArray) o rfl u rfl rfl fun b6 w a u o=>qa o rfl fun a o=>re<|tn<|th<|rg<|qv o (e_mkf (vs:=[.pointer (some ⟨b6,0,none⟩)]) o ⟨rfl,trivial⟩) fun a o=>qa o rfl fun a o=>re<|tn<|wr<|?_
 obtain ⟨H9,hx7,hb8,u⟩:=St.frzB u .head
 obtain rfl:=si hm
 exact r1 o results55 rfl ⟨H9,b6,_,_,rfl,hb8,hc4,(hr5.mono hx7.sub),hx7,(St.le u),u.keep⟩
theorem Z78_c (hH:H.le w0) {oa2:Option Addr} {cap3:Nat} {p1:(List api_Node)} (_:p1.length≤cap3) (hr5:SR H oa2 p1) {p6:Int} {τ:Type} {y:τ→legal_use→Option (τ×Bool)} {C:τ→PH→List HA→Prop} {lyl:Nat} (hy:YC Tryz.prog lyl C (fun (H:PH) (args:List Value) (x:legal_use)=>∃ (cs0:List Value),args=[.agg cs0.toArray]∧Enc.rep H cs0 x) y) (hCm:∀ s H H' L,(∀ b o,H b=some o→H' b=some o)→C s H L→C s H' L) {s0:τ} {Lc:List HA} (hC:C s0 H Lc) (hO:(sepA [sepA Lc]).ok (hp w0)) (hD:∀ b,(sepA [sepA Lc]).fp b→H b=none) {r:(Bool×τ)} (hm:Z78 N p1 p6 y s0=some r):Tot Tryz.prog 95 #[.slice oa2 p1.length cap3,i6 p6,.func (.yield lyl) #[] #[]] w0 (fun v w'=>∃ (H':PH) (Lcq:List HA),v=.bool r.1∧C (r.2) H' Lcq∧ExtM w0 (sepA [sepA Lc]).fp H H'∧H'.le w'∧(∀ b,(sepA [sepA Lcq]).fp b→H' b=none)∧Mut w0 (sepA [sepA Lc]) (sepA [sepA Lcq]) w'):=by
 unfold Z78 at hm
 refine fn0 func95 rfl ntmps95 rfl rfl fun a o=>?_
 have u:=startM hH hO hD
 refine th<|rg<|qa o rfl fun a o=>re<|tn<|th<|th<|rg<|qm o rfl fun a o=>qv o (e_lenL (α:=api_Node) (xs:=p1) o runUnderlying49 rfl) fun a o=>qm o rfl fun a o=>re<|tn<|midK (fun a w=>∃ (vA2:τ) (HA1:PH) (LcA3:List HA),Z79 vA2=some r∧ExtM w0 (sepA [sepA Lc]).fp H HA1∧Fr 31 [] a∧St w0 (sepA [sepA Lc]).fp [HA1] [sepA LcA3] w∧C vA2 HA1 LcA3) ?_ ?_
 refine wb<|lp (α:=Nat×Int×τ) (fun gh a w=>match gh with | (nn2,vB2,vB3)=>∃ (HB1:PH) (LcB4:List HA),(Z7b N Z79 p1 p6 y) nn2 vB2 vB3=some r∧ExtM w0 (sepA [sepA Lc]).fp H HB1∧Fr 31 [(1,i6 p6),(2,.func (.yield lyl) #[] #[]),(9,.slice oa2 p1.length cap3),(10,i6 (p1.length:Int)),(11,i6 vB2)] a∧St w0 (sepA [sepA Lc]).fp [HB1] [sepA LcB4] w∧C vB3 HB1 LcB4) (fun gh=>gh.1) (N,0,s0) ⟨H,Lc,hm,(ExtM.refl _ _ _),o.hs,u,hC⟩ ?_
 rintro ⟨nn2,vB2,vB3⟩ a w ⟨HB1,LcB4,hm,hxHB1,o,u,hCB5⟩
 obtain _ | nn2:=nn2
 simp [Z7b] at hm
 rw [Z7b] at hm
 refine th<|rg<|qv o (e_lss o rfl rfl) fun a o=>re<|?_
 rcases bdich (decide (vB2 < (p1.length:Int))) with hb7 | hb7
 replace hm:=itp_t hm hb7
 refine tn<|th<|ctv o rfl hb7<|wk<|tn<|th<|wb<|th<|?_
 obtain ⟨xz8,h9,hm⟩:=bs hm
 obtain ⟨c10,g11,hl12⟩:=SR.get hr5 h9
 obtain rfl:=api_Node_open g11
 refine rg<|qv o (e_iaI o Tryz.runUnderlying49 Tryz.sizeOf90 rfl rfl h9 (SR.oaI hr5 (by decide) h9)) fun a o=>qv o (e_ldA o isAgg90 sizeOf90 rfl rfl (fun j v hj=>PH.le.cell (fun b o hx=>(Lds.le (St.ld u)) b o (hxHB1.sub b o hx)) (hl12 j v hj))) fun a o=>ls<|a_alloc (cs:=[i6 0,i6 0,strv [],i6 0].toArray) o rfl u zeroValue90 rfl fun b13 w a u o=>ls<|s_blkA o u sizeOf90 rfl rfl rfl rfl (one_cells rfl) .head fun w u=>re<|tn<|th<|midK (fun a w=>∃ (vC2:Bool) (vC3:τ) (HC1:PH) (LcC4:List HA),(Z7a (Z7b N Z79 p1 p6 y nn2) vB2) vC2 vC3=some r∧ExtM w0 (sepA [sepA Lc]).fp HB1 HC1∧Fr 31 [(1,i6 p6),(2,.func (.yield lyl) #[] #[]),(9,.slice oa2 p1.length cap3),(10,i6 (p1.length:Int)),(11,i6 vB2),(29,.bool vC2)] a∧St w0 (sepA [sepA Lc]).fp [HC1] [sepA LcC4] w∧C vC3 HC1 LcC4) ?_ ?_
 rcases bdich (decide (xz8.Op=2)) with hb14 | hb14
 replace hm:=itp_t hm hb14
 obtain ⟨r22,h23,hm⟩:=bs hm
 refine rg<|qv o (e_fa o fa90_0 rfl) fun a o=>qv o (e_ld o isAgg3 rfl ((St.ld u).cellB t0 rfl)) fun a o=>qv o (e_eql o rfl rfl) fun a o=>qv o (e_as (e_move o rfl) (congrArg Value.bool hb14)) fun a o=>qg o (e_move o rfl) fun a o=>qg o (e_fa o fa90_2 rfl) fun a o=>qg o (e_ld o isAgg9 rfl ((St.ld u).cellB t0 rfl)) fun a o=>qg o (e_fa o fa90_3 rfl) fun a o=>qg o (e_ld o isAgg3 rfl ((St.ld u).cellB t0 rfl)) fun a o=>qg o (e_move o rfl) fun a o=>ls<|gy o rfl rfl<|a_bsl (e:=3) (sz:=1) [i6 p6] o rfl u rfl rfl rfl (fun w=>by kernel_rfl) fun b16 w a u o=>?_
 have hv15:Rows (α:=Int) HB1 [i6 p6] ([p6]:List Int):=(.cons (c:=[i6 p6]) rfl .nil)
 refine qg o (e_bldK [strv xz8.Name,i6 xz8.At,.slice (some ⟨b16,0,none⟩) ([p6]:List Int).length 1] [strv xz8.Name,i6 xz8.At,.slice (some ⟨b16,0,none⟩) ([p6]:List Int).length 1] o ⟨rfl,rfl,rfl,trivial⟩ (fun w=>by kernel_rfl)) fun a o=>?_
 obtain ⟨H21,hx18,hr19,hc20,u⟩:=St.frzSM u .head hv15
 refine lsyw (gd_some o rfl rfl)<|ly (vs:=[.agg #[strv xz8.Name,i6 xz8.At,.slice (some ⟨b16,0,none⟩) ([p6]:List Int).length 1]]) o rfl rfl ⟨rfl,trivial⟩ hy u t1 (hCm _ _ _ _ hx18.sub hCB5) ⟨[strv xz8.Name,i6 xz8.At,.slice (some ⟨b16,0,none⟩) ([p6]:List Int).length 1],rfl,(show Enc.rep (α:=legal_use) H21 [strv xz8.Name,i6 xz8.At,.slice (some ⟨b16,0,none⟩) ([p6]:List Int).length 1] (legal_use.mk xz8.Name xz8.At ([p6]:List Int)) from ⟨_,_,rfl,rfl,⟨_,_,rfl,rfl,⟨_,_,rfl,hc20,hr19⟩⟩⟩)⟩ h23 (fun a w H27 Lc26 hC25 hx24 hU o=>?_)
 replace u:=hU _ (.tail .head)
 refine qg o (e_not o rfl) fun a o=>qv o (e_pickT o rfl rfl) fun a o=>re<|tn<|?_
 replace u:=u.pk [1] rfl
 exact ⟨(!r22.2),r22.1,H27,Lc26,hm,(ExtM.trans hx18 hx24),o.hs,u,hC25⟩
 replace hm:=itp_f hm hb14
 refine rg<|qv o (e_fa o fa90_0 rfl) fun a o=>qv o (e_ld o isAgg3 rfl ((St.ld u).cellB t0 rfl)) fun a o=>qv o (e_eql o rfl rfl) fun a o=>qv o (e_as (e_move o rfl) (congrArg Value.bool hb14)) fun a o=>?_
 iterate 10 refine qn o fun a o=>?_
 refine qv o (e_pickF o rfl rfl) fun a o=>re<|tn<|?_
 replace u:=u.pk [1] rfl
 exact ⟨false,vB3,HB1,LcB4,hm,(ExtM.refl _ _ _),o.hs,u,hCB5⟩
 rintro a w ⟨vC2,vC3,HC1,LcC4,hm,hxHC1,o,u,hCC5⟩
 unfold Z7a at hm
 rcases bdich vC2 with hb28 | hb28
 replace hm:=ite_t hm hb28
 refine ctv o rfl hb28<|th<|rg<|qa o rfl fun a o=>re<|tn<|wr<|br<|tr<|tr<|br<|tr<|?_
 obtain rfl:=si hm
 exact r1 o results95 rfl ⟨HC1,LcC4,rfl,hCC5,(ExtM.trans hxHB1 hxHC1),(St.le u),(St.disL (u.pickL (.cons .head .nil))),(u.pickL (.cons .head .nil)).endMut⟩
 replace hm:=ite_f hm hb28
 refine cfv o rfl hb28<|wk<|bn<|tn<|rg<|qv o (e_add o rfl rfl) fun a o=>qm o rfl fun a o=>re<|tn<|?_
 exact ⟨(nn2,(IntKind.i64.wrap (vB2+1)),vC3),⟨HC1,LcC4,hm,(ExtM.trans hxHB1 hxHC1),o.hs,u,hCC5⟩,Nat.lt_succ_self _⟩
 replace hm:=itp_f hm hb7
 refine tn<|th<|cfv o rfl hb7<|we<|tx<|tx<|bx<|tn<|?_
 exact ⟨vB3,HB1,LcB4,hm,hxHB1,o.has trivial,u,hCB5⟩
 rintro a w ⟨vA2,HA1,LcA3,hm,hxHA1,o,u,hCA4⟩
 unfold Z79 at hm
 refine th<|rg<|qa o rfl fun a o=>re<|tn<|wr<|?_
 obtain rfl:=si hm
 exact r1 o results95 rfl ⟨HA1,LcA3,rfl,hCA4,hxHA1,(St.le u),(St.disL (u.pickL (.cons .head .nil))),(u.pickL (.cons .head .nil)).endMut⟩
set_option maxHeartbeats 4000000 in
theorem Z70_c (hH:H.le w0) {τ:Type} {y:τ→legal_use→Option (τ×Bool)} {C:τ→PH→List HA→Prop} {lyl:Nat} (hy:YC Tryz.prog lyl C (fun (H:PH) (args:List Value) (x:legal_use)=>∃ (cs0:List Value),args=[.agg cs0.toArray]∧Enc.rep H cs0 x) y) (hCm:∀ s H H' L,(∀ b o,H b=some o→H' b=some o)→C s H L→C s H' L) {s0:τ} {Lc:List HA} (hC:C s0 H Lc) {oa3:Option Addr} {cap4:Nat} {y2:(List api_Stmt)} (_:y2.length≤cap4) (hr6:SR H oa3 y2) {b1:Nat} (hb7:H b1=some (.cells [.slice oa3 y2.length cap4].toArray 46 (0,0))) (hO:(sepA [sepA Lc]).ok (hp w0)) (hD:∀ b,(sepA [sepA Lc]).fp b→H b=none) {r:τ} (hm:Z70 N y s0 y2=some r):Tot Tryz.prog 94 #[.func (.yield lyl) #[] #[],.pointer (some ⟨b1,0,none⟩)] w0 (fun v w'=>∃ (H':PH) (Lcq:List HA),v=.tuple #[]∧C r H' Lcq∧ExtM w0 (sepA [sepA Lc]).fp H H'∧H'.le w'∧(∀ b,(sepA [sepA Lcq]).fp b→H' b=none)∧Mut w0 (sepA [sepA Lc]) (sepA [sepA Lcq]) w'):=by
 unfold Z70 at hm
 refine fn0 func94 rfl ntmps94 rfl rfl fun a o=>?_
 have u:=startM hH hO hD
 refine th<|rg<|qv o (e_ld o Tryz.isAgg46 rfl (PH.le.cell (Lds.le (St.ld u)) (ph_cell hb7 rfl))) fun a o=>qv o (e_lenL (α:=api_Stmt) (xs:=y2) o runUnderlying46 rfl) fun a o=>qm o rfl fun a o=>re<|tn<|wb<|lp (α:=Nat×Int×τ) (fun gh a w=>match gh with | (nn1,vA2,vA3)=>∃ (HA1:PH) (LcA4:List HA),(Z77 N y y2) nn1 vA2 vA3=some r∧ExtM w0 (sepA [sepA Lc]).fp H HA1∧Fr 64 [(0,.func (.yield lyl) #[] #[]),(6,.slice oa3 y2.length cap4),(7,i6 (y2.length:Int)),(8,i6 vA2)] a∧St w0 (sepA [sepA Lc]).fp [HA1] [sepA LcA4] w∧C vA3 HA1 LcA4) (fun gh=>gh.1) (N,0,s0) ⟨H,Lc,hm,(ExtM.refl _ _ _),o.hs,u,hC⟩ ?_
 rintro ⟨nn1,vA2,vA3⟩ a w ⟨HA1,LcA4,hm,hxHA1,o,u,hCA5⟩
 obtain _ | nn1:=nn1
 simp [Z77] at hm
 rw [Z77] at hm
 refine th<|rg<|qv o (e_lss o rfl rfl) fun a o=>re<|?_
 rcases bdich (decide (vA2 < (y2.length:Int))) with hb8 | hb8
 replace hm:=itp_t hm hb8
 refine tn<|th<|ctv o rfl hb8<|wk<|tn<|th<|wb<|th<|?_
 obtain ⟨xz9,h10,hm⟩:=bs hm
 obtain ⟨c11,g12,hl13⟩:=SR.get hr6 h10
 obtain ⟨oa14,cap15,oa18,cap19,rfl,hc16,hr17,hc20,hr21⟩:=api_Stmt_open g12
 refine rg<|qv o (e_iaI o Tryz.runUnderlying46 Tryz.sizeOf51 rfl rfl h10 (SR.oaI hr6 (by decide) h10)) fun a o=>qv o (e_ldA o isAgg51 sizeOf51 rfl rfl (fun j v hj=>PH.le.cell (fun b o hx=>(Lds.le (St.ld u)) b o (hxHA1.sub b o hx)) (hl13 j v hj))) fun a o=>ls<|a_alloc (cs:=[i6 0,strv [],strv [],.slice none 0 0,.slice none 0 0,i6 0,i6 0,i6 0,i6 0].toArray) o rfl u zeroValue51 rfl fun b22 w a u o=>ls<|s_blkA o u sizeOf51 rfl rfl rfl rfl (one_cells rfl) .head fun w u=>re<|tn<|th<|th<|midK (fun a w=>∃ (vB2:Bool) (vB3:τ) (HB1:PH) (LcB4:List HA),(Z71 N (Z77 N y y2 nn1) y xz9 vA2) vB2 vB3=some r∧ExtM w0 (sepA [sepA Lc]).fp HA1 HB1∧Fr 64 [(0,.func (.yield lyl) #[] #[]),(4,.pointer (some ⟨b22,0,none⟩)),(6,.slice oa3 y2.length cap4),(7,i6 (y2.length:Int)),(8,i6 vA2),(25,.bool vB2)] a∧St w0 (sepA [sepA Lc]).fp [HB1] [blk b22 (.cells [i6 xz9.Kind,strv xz9.Reg,strv xz9.Name,.slice oa14 xz9.E.length cap15,.slice oa18 xz9.F.length cap19,i6 xz9.N,i6 xz9.Body,i6 xz9.Else,i6 xz9.At].toArray 51 (0,0)),sepA LcB4] w∧C vB3 HB1 LcB4) ?_ ?_
 rcases bdich (decide (xz9.Reg≠[])) with hb23 | hb23
 replace hm:=itp_t hm hb23
 obtain ⟨r31,h32,hm⟩:=bs hm
 refine rg<|qv o (e_fa o fa51_1 rfl) fun a o=>qv o (e_ld o isAgg9 rfl ((St.ld u).cellB t0 rfl)) fun a o=>qv o (e_neqU (m:=xz9.Reg) (n:=[]) o rfl rfl) fun a o=>qv o (e_as (e_move o rfl) (congrArg Value.bool hb23)) fun a o=>qg o (e_move o rfl) fun a o=>qg o (e_fa o fa51_1 rfl) fun a o=>qg o (e_ld o isAgg9 rfl ((St.ld u).cellB t0 rfl)) fun a o=>qg o (e_fa o fa51_8 rfl) fun a o=>qg o (e_ld o isAgg3 rfl ((St.ld u).cellB t0 rfl)) fun a o=>ls<|gy o rfl rfl<|a_bsl (e:=3) (sz:=1) [i6 5] o rfl u rfl rfl rfl (fun w=>by kernel_rfl) fun b25 w a u o=>?_
 have hv24:Rows (α:=Int) HA1 [i6 5] ([5]:List Int):=(.cons (c:=[i6 5]) rfl .nil)
 refine qg o (e_bldK [strv xz9.Reg,i6 xz9.At,.slice (some ⟨b25,0,none⟩) ([5]:List Int).length 1] [strv xz9.Reg,i6 xz9.At,.slice (some ⟨b25,0,none⟩) ([5]:List Int).length 1] o ⟨rfl,rfl,rfl,trivial⟩ (fun w=>by kernel_rfl)) fun a o=>?_
 obtain ⟨H30,hx27,hr28,hc29,u⟩:=St.frzSM u .head hv24
 refine lsyw (gd_some o rfl rfl)<|ly (vs:=[.agg #[strv xz9.Reg,i6 xz9.At,.slice (some ⟨b25,0,none⟩) ([5]:List Int).length 1]]) o rfl rfl ⟨rfl,trivial⟩ hy u t1 (hCm _ _ _ _ hx27.sub hCA5) ⟨[strv xz9.Reg,i6 xz9.At,.slice (some ⟨b25,0,none⟩) ([5]:List Int).length 1],rfl,(show Enc.rep (α:=legal_use) H30 [strv xz9.Reg,i6 xz9.At,.slice (some ⟨b25,0,none⟩) ([5]:List Int).length 1] (legal_use.mk xz9.Reg xz9.At ([5]:List Int)) from ⟨_,_,rfl,rfl,⟨_,_,rfl,rfl,⟨_,_,rfl,hc29,hr28⟩⟩⟩)⟩ h32 (fun a w H36 Lc35 hC34 hx33 hU o=>?_)
 replace u:=hU _ (.tail .head)
 refine qg o (e_not o rfl) fun a o=>qv o (e_pickT o rfl rfl) fun a o=>re<|tn<|?_
 exact ⟨(!r31.2),r31.1,H36,Lc35,hm,(ExtM.trans hx27 hx33),o.hs,u,hC34⟩
 replace hm:=itp_f hm hb23
 refine rg<|qv o (e_fa o fa51_1 rfl) fun a o=>qv o (e_ld o isAgg9 rfl ((St.ld u).cellB t0 rfl)) fun a o=>qv o (e_neqU (m:=xz9.Reg) (n:=[]) o rfl rfl) fun a o=>qv o (e_as (e_move o rfl) (congrArg Value.bool hb23)) fun a o=>?_
 iterate 9 refine qn o fun a o=>?_
 refine qv o (e_pickF o rfl rfl) fun a o=>re<|tn<|?_
 exact ⟨false,vA3,HA1,LcA4,hm,(ExtM.refl _ _ _),o.hs,u,hCA5⟩
 rintro a w ⟨vB2,vB3,HB1,LcB4,hm,hxHB1,o,u,hCB5⟩
 unfold Z71 at hm
 rcases bdich vB2 with hb37 | hb37
 replace hm:=ite_t hm hb37
 refine ctv o rfl hb37<|wr<|tr<|br<|tr<|tr<|br<|?_
 obtain rfl:=si hm
 exact r0 o results94 ⟨HB1,LcB4,rfl,hCB5,(ExtM.trans hxHA1 hxHB1),(St.le u),(St.disL (u.pickL (.cons (.tail .head) .nil))),(u.pickL (.cons (.tail .head) .nil)).endMut⟩
 replace hm:=ite_f hm hb37
 refine cfv o rfl hb37<|wk<|tn<|th<|rg<|ls<|a_bsl (e:=3) (sz:=1) [i6 1,i6 2] o rfl u rfl rfl rfl (fun w=>by kernel_rfl) fun b39 w a u o=>?_
 have hv38:Rows (α:=Int) HB1 [i6 1,i6 2] ([1,2]:List Int):=(.cons (c:=[i6 1]) rfl (.cons (c:=[i6 2]) rfl .nil))
 refine qa o rfl fun a o=>re<|tn<|th<|th<|rg<|qv o (e_fa o fa51_0 rfl) fun a o=>qv o (e_ld o isAgg3 rfl ((St.ld u).cellB t1 rfl)) fun a o=>re<|tn<|midK (fun a w=>∃ (vB6:(List Int)) (vB12:τ) (oaB7:Option Addr) (capB8:Nat) (vsB9:List Value) (LcB13:List HA),(Z72 N (Z77 N y y2 nn1) y xz9 vA2) vB6 vB12=some r∧Fr 64 [(0,.func (.yield lyl) #[] #[]),(4,.pointer (some ⟨b22,0,none⟩)),(5,.slice oaB7 vB6.length capB8),(6,.slice oa3 y2.length cap4),(7,i6 (y2.length:Int)),(8,i6 vA2)] a∧St w0 (sepA [sepA Lc]).fp [HB1] [blk b22 (.cells [i6 xz9.Kind,strv xz9.Reg,strv xz9.Name,.slice oa14 xz9.E.length cap15,.slice oa18 xz9.F.length cap19,i6 xz9.N,i6 xz9.Body,i6 xz9.Else,i6 xz9.At].toArray 51 (0,0)),sla 3 1 oaB7 vB6.length capB8 vsB9,sepA LcB13] w∧Rows HB1 vsB9 vB6∧C vB12 HB1 LcB13) ?_ ?_
 refine wb<|th<|th<|rg<|qv o (e_eql o rfl rfl) fun a o=>qa o rfl fun a o=>re<|tn<|midK (fun a w=>∃ (vC1:Bool) (vC2:τ) (LcC3:List HA),(Z73 (Z72 N (Z77 N y y2 nn1) y xz9 vA2) xz9) vC1 vC2=some r∧Fr 64 [(0,.func (.yield lyl) #[] #[]),(4,.pointer (some ⟨b22,0,none⟩)),(5,.slice (some ⟨b39,0,none⟩) ([1,2]:List Int).length 2),(6,.slice oa3 y2.length cap4),(7,i6 (y2.length:Int)),(8,i6 vA2),(28,i6 xz9.Kind),(29,.bool vC1)] a∧St w0 (sepA [sepA Lc]).fp [HB1] [blk b22 (.cells [i6 xz9.Kind,strv xz9.Reg,strv xz9.Name,.slice oa14 xz9.E.length cap15,.slice oa18 xz9.F.length cap19,i6 xz9.N,i6 xz9.Body,i6 xz9.Else,i6 xz9.At].toArray 51 (0,0)),sla 3 1 (some ⟨b39,0,none⟩) ([1,2]:List Int).length 2 [i6 1,i6 2],sepA LcC3] w∧C vC2 HB1 LcC3) ?_ ?_
 rcases bdich (decide (xz9.Kind=5)) with hb41 | hb41
 replace hm:=itp_t hm hb41
 refine ctv o rfl hb41<|wk<|tn<|?_
 replace u:=u.pk [1,0,0] rfl
 exact ⟨(decide (xz9.Kind=5)),vB3,LcB4,hm,o.hs,u,hCB5⟩
 replace hm:=itp_f hm hb41
 refine cfv o rfl hb41<|rg<|qv o (e_eql o rfl rfl) fun a o=>qa o rfl fun a o=>re<|tn<|?_
 replace u:=u.pk [1,0,0] rfl
 exact ⟨(decide (xz9.Kind=6)),vB3,LcB4,hm,o.hs,u,hCB5⟩
 rintro a w ⟨vC1,vC2,LcC3,hm,o,u,hCC4⟩
 unfold Z73 at hm
 rcases bdich vC1 with hb42 | hb42
 replace hm:=ite_t hm hb42
 refine ctv o rfl hb42<|rg<|ls<|a_bsl (e:=3) (sz:=1) [i6 1] o rfl u rfl rfl rfl (fun w=>by kernel_rfl) fun b44 w a u o=>?_
 have hv43:Rows (α:=Int) HB1 [i6 1] ([1]:List Int):=(.cons (c:=[i6 1]) rfl .nil)
 refine qa o rfl fun a o=>re<|bn<|tn<|?_
 replace u:=u.pk [1,0,1] rfl
 exact ⟨([1]:List Int),vC2,(some ⟨b44,0,none⟩),1,[i6 1],LcC3,hm,o.hs,u,hv43,hCC4⟩
 replace hm:=ite_f hm hb42
 refine cfv o rfl hb42<|th<|th<|rg<|qv o (e_eql o rfl rfl) fun a o=>qa o rfl fun a o=>re<|tn<|midK (fun a w=>∃ (vC5:Bool) (vC6:τ) (LcC7:List HA),(Z74 (Z72 N (Z77 N y y2 nn1) y xz9 vA2)) vC5 vC6=some r∧Fr 64 [(0,.func (.yield lyl) #[] #[]),(4,.pointer (some ⟨b22,0,none⟩)),(5,.slice (some ⟨b39,0,none⟩) ([1,2]:List Int).length 2),(6,.slice oa3 y2.length cap4),(7,i6 (y2.length:Int)),(8,i6 vA2),(33,.bool vC5)] a∧St w0 (sepA [sepA Lc]).fp [HB1] [blk b22 (.cells [i6 xz9.Kind,strv xz9.Reg,strv xz9.Name,.slice oa14 xz9.E.length cap15,.slice oa18 xz9.F.length cap19,i6 xz9.N,i6 xz9.Body,i6 xz9.Else,i6 xz9.At].toArray 51 (0,0)),sla 3 1 (some ⟨b39,0,none⟩) ([1,2]:List Int).length 2 [i6 1,i6 2],sepA LcC7] w∧C vC6 HB1 LcC7) ?_ ?_
 rcases bdich (decide (xz9.Kind=9)) with hb46 | hb46
 replace hm:=itp_t hm hb46
 refine ctv o rfl hb46<|wk<|tn<|?_
 exact ⟨(decide (xz9.Kind=9)),vC2,LcC3,hm,o.hs,u,hCC4⟩
 replace hm:=itp_f hm hb46
 refine cfv o rfl hb46<|rg<|qv o (e_eql o rfl rfl) fun a o=>qa o rfl fun a o=>re<|tn<|?_
 exact ⟨(decide (xz9.Kind=10)),vC2,LcC3,hm,o.hs,u,hCC4⟩
 rintro a w ⟨vC5,vC6,LcC7,hm,o,u,hCC8⟩
 unfold Z74 at hm
 rcases bdich vC5 with hb47 | hb47
 replace hm:=ite_t hm hb47
 refine ctv o rfl hb47<|rg<|ls<|a_bsl (e:=3) (sz:=1) [i6 3] o rfl u rfl rfl rfl (fun w=>by kernel_rfl) fun b49 w a u o=>?_
 have hv48:Rows (α:=Int) HB1 [i6 3] ([3]:List Int):=(.cons (c:=[i6 3]) rfl .nil)
 refine qa o rfl fun a o=>re<|bn<|tn<|?_
 replace u:=u.pk [1,0,1] rfl
 exact ⟨([3]:List Int),vC6,(some ⟨b49,0,none⟩),1,[i6 3],LcC7,hm,o.hs,u,hv48,hCC8⟩
 replace hm:=ite_f hm hb47
 refine cfv o rfl hb47<|wk<|bn<|tn<|?_
 exact ⟨([1,2]:List Int),vC6,(some ⟨b39,0,none⟩),2,[i6 1,i6 2],LcC7,hm,o.hs,u,hv38,hCC8⟩
 rintro a w ⟨vB6,vB12,oaB7,capB8,vsB9,LcB13,hm,o,u,hvB10,hCB14⟩
 unfold Z72 at hm
 refine th<|th<|midK (fun a w=>∃ (vB16:Bool) (vB17:τ) (HB15:PH) (LcB18:List HA),(Z75 N (Z77 N y y2 nn1) y xz9 vA2) vB16 vB17=some r∧ExtM w0 (sepA [sepA Lc]).fp HB1 HB15∧Fr 64 [(0,.func (.yield lyl) #[] #[]),(4,.pointer (some ⟨b22,0,none⟩)),(6,.slice oa3 y2.length cap4),(7,i6 (y2.length:Int)),(8,i6 vA2),(50,.bool vB16)] a∧St w0 (sepA [sepA Lc]).fp [HB15] [blk b22 (.cells [i6 xz9.Kind,strv xz9.Reg,strv xz9.Name,.slice oa14 xz9.E.length cap15,.slice oa18 xz9.F.length cap19,i6 xz9.N,i6 xz9.Body,i6 xz9.Else,i6 xz9.At].toArray 51 (0,0)),sepA LcB18] w∧C vB17 HB15 LcB18) ?_ ?_
 rcases bdich (decide (xz9.Name≠[])) with hb51 | hb51
 replace hm:=itp_t hm hb51
 obtain ⟨r56,h57,hm⟩:=bs hm
 refine rg<|qv o (e_fa o fa51_2 rfl) fun a o=>qv o (e_ld o isAgg9 rfl ((St.ld u).cellB t0 rfl)) fun a o=>qv o (e_neqU (m:=xz9.Name) (n:=[]) o rfl rfl) fun a o=>qv o (e_as (e_move o rfl) (congrArg Value.bool hb51)) fun a o=>qg o (e_move o rfl) fun a o=>qg o (e_fa o fa51_2 rfl) fun a o=>qg o (e_ld o isAgg9 rfl ((St.ld u).cellB t0 rfl)) fun a o=>qg o (e_fa o fa51_8 rfl) fun a o=>qg o (e_ld o isAgg3 rfl ((St.ld u).cellB t0 rfl)) fun a o=>qg o (e_move o rfl) fun a o=>qg o (e_bldK [strv xz9.Name,i6 xz9.At,.slice oaB7 vB6.length capB8] [strv xz9.Name,i6 xz9.At,.slice oaB7 vB6.length capB8] o ⟨rfl,rfl,rfl,trivial⟩ (fun w=>by kernel_rfl)) fun a o=>?_
 obtain ⟨H55,hx52,hr53,hc54,u⟩:=St.frzSM u (.tail .head) hvB10
 refine lsyw (gd_some o rfl rfl)<|ly (vs:=[.agg #[strv xz9.Name,i6 xz9.At,.slice oaB7 vB6.length capB8]]) o rfl rfl ⟨rfl,trivial⟩ hy u t1 (hCm _ _ _ _ hx52.sub hCB14) ⟨[strv xz9.Name,i6 xz9.At,.slice oaB7 vB6.length capB8],rfl,(show Enc.rep (α:=legal_use) H55 [strv xz9.Name,i6 xz9.At,.slice oaB7 vB6.length capB8] (legal_use.mk xz9.Name xz9.At vB6) from ⟨_,_,rfl,rfl,⟨_,_,rfl,rfl,⟨_,_,rfl,hc54,hr53⟩⟩⟩)⟩ h57 (fun a w H61 Lc60 hC59 hx58 hU o=>?_)
 replace u:=hU _ (.tail .head)
 refine qg o (e_not o rfl) fun a o=>qv o (e_pickT o rfl rfl) fun a o=>re<|tn<|?_
 exact ⟨(!r56.2),r56.1,H61,Lc60,hm,(ExtM.trans hx52 hx58),o.hs,u,hC59⟩
 replace hm:=itp_f hm hb51
 refine rg<|qv o (e_fa o fa51_2 rfl) fun a o=>qv o (e_ld o isAgg9 rfl ((St.ld u).cellB t0 rfl)) fun a o=>qv o (e_neqU (m:=xz9.Name) (n:=[]) o rfl rfl) fun a o=>qv o (e_as (e_move o rfl) (congrArg Value.bool hb51)) fun a o=>?_
 iterate 9 refine qn o fun a o=>?_
 refine qv o (e_pickF o rfl rfl) fun a o=>re<|tn<|?_
 replace u:=u.pk [0,1] rfl
 exact ⟨false,vB12,HB1,LcB13,hm,(ExtM.refl _ _ _),o.hs,u,hCB14⟩
 rintro a w ⟨vB16,vB17,HB15,LcB18,hm,hxHB15,o,u,hCB19⟩
 unfold Z75 at hm
 rcases bdich vB16 with hb62 | hb62
 replace hm:=ite_t hm hb62
 refine ctv o rfl hb62<|wr<|tr<|br<|tr<|tr<|br<|?_
 obtain rfl:=si hm
 exact r0 o results94 ⟨HB15,LcB18,rfl,hCB19,(ExtM.trans hxHA1 (ExtM.trans hxHB1 hxHB15)),(St.le u),(St.disL (u.pickL (.cons (.tail .head) .nil))),(u.pickL (.cons (.tail .head) .nil)).endMut⟩
 replace hm:=ite_f hm hb62
 refine cfv o rfl hb62<|wk<|tn<|th<|midK (fun a w=>∃ (vB21:Bool) (vB22:τ) (HB20:PH) (LcB23:List HA),(Z76 (Z77 N y y2 nn1) vA2) vB21 vB22=some r∧ExtM w0 (sepA [sepA Lc]).fp HB15 HB20∧Fr 64 [(0,.func (.yield lyl) #[] #[]),(6,.slice oa3 y2.length cap4),(7,i6 (y2.length:Int)),(8,i6 vA2),(62,.bool vB21)] a∧St w0 (sepA [sepA Lc]).fp [HB20] [sepA LcB23] w∧C vB22 HB20 LcB23) ?_ ?_
 obtain ⟨r63,h64,hm⟩:=bs hm
 rcases bdich r63.1 with hb71 | hb71
 replace hm:=ite_t hm hb71
 have hb71':(!r63.1)=false:=by rw [hb71];rfl
 obtain ⟨r72,h73,hm⟩:=bs hm
 refine rg<|qv o (e_fa o fa51_3 rfl) fun a o=>qv o (e_ld o isAgg49 rfl ((St.ld u).cellB t0 rfl)) fun a o=>qm o rfl fun a o=>?_
 replace u:=u.pk [1,0] rfl
 replace u:=St.sep [sepA LcB18] u
 refine ls<|c1 o rfl call95 (Z78_c (St.le u) hc16 (hr17.mono (cp (cp hxHB15.sub hxHB1.sub) hxHA1.sub)) hy hCm hCB19 (St.sepOk u) (St.sepDis u) h64) ⟨rfl,rfl,rfl,trivial⟩ (fun v w a hR o=>?_)
 obtain ⟨H68,Lc69,rfl,hC70,hx65,hl66,hd67,hk⟩:=hR
 obtain ⟨u,hx65⟩:=And.intro (St.mutH u hk hx65 hl66 hd67) (St.extcMM u hx65)
 replace u:=u.unsep
 refine qv o (e_not o rfl) fun a o=>qv o (e_as (e_move o rfl) (congrArg Value.bool hb71')) fun a o=>qg o (e_fa o fa51_4 rfl) fun a o=>qg o (e_ld o isAgg49 rfl ((St.ld u).cellB t1 rfl)) fun a o=>qg o (e_move o rfl) fun a o=>?_
 replace u:=u.pk [0,0] rfl
 replace u:=St.sep [sepA Lc69] u
 refine ls<|gy o rfl rfl<|c1 o rfl call95 (Z78_c (St.le u) hc20 (hr21.mono (cp (cp (cp hx65.sub hxHB15.sub) hxHB1.sub) hxHA1.sub)) hy hCm hC70 (St.sepOk u) (St.sepDis u) h73) ⟨rfl,rfl,rfl,trivial⟩ (fun v w a hR o=>?_)
 obtain ⟨H77,Lc78,rfl,hC79,hx74,hl75,hd76,hk⟩:=hR
 obtain ⟨u,hx74⟩:=And.intro (St.mutH u hk hx74 hl75 hd76) (St.extcMM u hx74)
 replace u:=u.unsep
 refine qg o (e_not o rfl) fun a o=>qv o (e_pickF o rfl rfl) fun a o=>re<|tn<|?_
 replace u:=u.pk [0] rfl
 exact ⟨(!r72.1),r72.2,H77,Lc78,hm,(ExtM.trans hx65 hx74),o.hs,u,hC79⟩
 replace hm:=ite_f hm hb71
 have hb71':(!r63.1)=true:=by rw [hb71];rfl
 refine rg<|qv o (e_fa o fa51_3 rfl) fun a o=>qv o (e_ld o isAgg49 rfl ((St.ld u).cellB t0 rfl)) fun a o=>qm o rfl fun a o=>?_
 replace u:=u.pk [1,0] rfl
 replace u:=St.sep [sepA LcB18] u
 refine ls<|c1 o rfl call95 (Z78_c (St.le u) hc16 (hr17.mono (cp (cp hxHB15.sub hxHB1.sub) hxHA1.sub)) hy hCm hCB19 (St.sepOk u) (St.sepDis u) h64) ⟨rfl,rfl,rfl,trivial⟩ (fun v w a hR o=>?_)
 obtain ⟨H68,Lc69,rfl,hC70,hx65,hl66,hd67,hk⟩:=hR
 obtain ⟨u,hx65⟩:=And.intro (St.mutH u hk hx65 hl66 hd67) (St.extcMM u hx65)
 replace u:=u.unsep
 refine qv o (e_not o rfl) fun a o=>qv o (e_as (e_move o rfl) (congrArg Value.bool hb71')) fun a o=>?_
 iterate 5 refine qn o fun a o=>?_
 refine qv o (e_pickT o rfl rfl) fun a o=>re<|tn<|?_
 replace u:=u.pk [0] rfl
 exact ⟨true,r63.2,H68,Lc69,hm,hx65,o.hs,u,hC70⟩
 rintro a w ⟨vB21,vB22,HB20,LcB23,hm,hxHB20,o,u,hCB24⟩
 unfold Z76 at hm
 rcases bdich vB21 with hb80 | hb80
 replace hm:=ite_t hm hb80
 refine ctv o rfl hb80<|wr<|br<|tr<|tr<|br<|?_
 obtain rfl:=si hm
 exact r0 o results94 ⟨HB20,LcB23,rfl,hCB24,(ExtM.trans hxHA1 (ExtM.trans hxHB1 (ExtM.trans hxHB15 hxHB20))),(St.le u),(St.disL (u.pickL (.cons .head .nil))),(u.pickL (.cons .head .nil)).endMut⟩
 replace hm:=ite_f hm hb80
 refine cfv o rfl hb80<|wk<|bn<|tn<|rg<|qv o (e_add o rfl rfl) fun a o=>qm o rfl fun a o=>re<|tn<|?_
 exact ⟨(nn1,(IntKind.i64.wrap (vA2+1)),vB22),⟨HB20,LcB23,hm,(ExtM.trans hxHA1 (ExtM.trans hxHB1 (ExtM.trans hxHB15 hxHB20))),o.hs,u,hCB24⟩,Nat.lt_succ_self _⟩
 replace hm:=itp_f hm hb8
 refine tn<|th<|cfv o rfl hb8<|we<|tx<|tx<|bx<|?_
 obtain rfl:=si hm
 exact r0n o results94 ⟨HA1,LcA4,rfl,hCA5,hxHA1,(St.le u),(St.disL (u.pickL (.cons .head .nil))),(u.pickL (.cons .head .nil)).endMut⟩
theorem Z9e_c (hH:H.le w0) {oa2:Option Addr} {cap3:Nat} {p1:(List Int)} (_:p1.length≤cap3) (hr5:SR H oa2 p1) {p6:Int} {r:Int} (hm:Z9e N p1 p6=some r):Tot Tryz.prog 96 #[.slice oa2 p1.length cap3,i6 p6] w0 (fun v w'=>v=i6 r∧Keep Nil w0 w'):=by
 unfold Z9e at hm
 refine fn0 func96 rfl ntmps96 rfl rfl fun a o=>?_
 have u:St w0 Nil [H] [] w0:=start1 hH
 refine th<|rg<|qa o rfl fun a o=>re<|tn<|th<|th<|rg<|qm o rfl fun a o=>qv o (e_lenL (α:=Int) (xs:=p1) o runUnderlying42 rfl) fun a o=>qm o rfl fun a o=>re<|tn<|midK (fun a w=>Z9f=some r∧Fr 19 [] a∧St w0 Nil [H] [] w) ?_ ?_
 refine wb<|lp (α:=Nat×Int) (fun gh a w=>match gh with | (nn2,vB1)=>(Z9g N Z9f p1 p6) nn2 vB1=some r∧Fr 19 [(0,.slice oa2 p1.length cap3),(1,i6 p6),(7,i6 (p1.length:Int)),(8,i6 vB1)] a∧St w0 Nil [H] [] w) (fun gh=>gh.1) (N,0) ⟨hm,o.hs,u⟩ ?_
 rintro ⟨nn2,vB1⟩ a w ⟨hm,o,u⟩
 obtain _ | nn2:=nn2
 simp [Z9g] at hm
 rw [Z9g] at hm
 refine th<|rg<|qv o (e_lss o rfl rfl) fun a o=>re<|?_
 rcases bdich (decide (vB1 < (p1.length:Int))) with hb7 | hb7
 replace hm:=itp_t hm hb7
 refine tn<|th<|ctv o rfl hb7<|wk<|tn<|th<|wb<|th<|rg<|qm o rfl fun a o=>qa o rfl fun a o=>re<|tn<|th<|?_
 obtain ⟨xz8,h9,hm⟩:=bs hm
 obtain ⟨c10,g11,hl12⟩:=SR.get hr5 h9
 obtain rfl:c10=[i6 xz8]:=g11
 refine rg<|qm o rfl fun a o=>?_
 iterate 2 refine qm o rfl fun a o=>?_
 refine qv o (e_iaI o runUnderlying42 sizeOf3 rfl rfl h9 (SR.oaI hr5 (by decide) h9)) fun a o=>qv o (e_ld o isAgg3 rfl (PH.le.cell (Lds.le (St.ld u)) (hl12 0 _ rfl))) fun a o=>qv o (e_eql o rfl rfl) fun a o=>re<|?_
 rcases bdich (decide (p6=xz8)) with hb13 | hb13
 replace hm:=itp_t hm hb13
 refine tn<|ctv o rfl hb13<|th<|rg<|qm o rfl fun a o=>qa o rfl fun a o=>re<|tn<|wr<|br<|tr<|tr<|br<|tr<|?_
 obtain rfl:=si hm
 exact r1 o results96 rfl ⟨rfl,u.keep⟩
 replace hm:=itp_f hm hb13
 refine tn<|cfv o rfl hb13<|wk<|bn<|tn<|rg<|qv o (e_add o rfl rfl) fun a o=>qm o rfl fun a o=>re<|tn<|?_
 exact ⟨(nn2,(IntKind.i64.wrap (vB1+1))),⟨hm,o.hs,u⟩,Nat.lt_succ_self _⟩
 replace hm:=itp_f hm hb7
 refine tn<|th<|cfv o rfl hb7<|we<|tx<|tx<|bx<|tn<|?_
 exact ⟨hm,o.has trivial,u⟩
 rintro a w ⟨hm,o,u⟩
 unfold Z9f at hm
 refine th<|rg<|qa o rfl fun a o=>re<|tn<|wr<|?_
 obtain rfl:=si hm
 exact r1 o results96 rfl ⟨rfl,u.keep⟩
theorem Z8j_c (hH:H.le w0) {oa2:Option Addr} {cap3:Nat} {p1:(List Int)} (hc4:p1.length≤cap3) (hr5:SR H oa2 p1) {p6:Int} {r:Bool} (hm:Z8j N p1 p6=some r):Tot Tryz.prog 56 #[.slice oa2 p1.length cap3,i6 p6] w0 (fun v w'=>v=.bool r∧Keep Nil w0 w'):=by
 unfold Z8j at hm
 refine fn0 func56 rfl ntmps56 rfl rfl fun a o=>?_
 have u:St w0 Nil [H] [] w0:=start1 hH
 refine th<|rg<|qa o rfl fun a o=>re<|tn<|th<|?_
 obtain ⟨rz7,h8,hm⟩:=bs hm
 refine rg<|qm o rfl fun a o=>qm o rfl fun a o=>ls<|cq o call96 (Z9e_c (hp_le _) hc4 (St.srH u hr5) h8) ⟨rfl,rfl,trivial⟩ u fun w a u o=>qv o (e_geq o rfl rfl) fun a o=>qa o rfl fun a o=>re<|tn<|wr<|?_
 obtain rfl:=si hm
 exact r1 o results56 rfl ⟨rfl,u.keep⟩
set_option maxHeartbeats 4000000 in
theorem Z5p_c (hH:H.le w0) (hT:Tab H) {cs2:List Value} {p1:api_Prog} (g3:Enc.rep H cs2 p1) {r:(Int×Int)} (hm:Z5p N p1=some r):Tot Tryz.prog 16 #[.agg cs2.toArray] w0 (fun v w'=>v=.tuple #[i6 r.1,i6 r.2]∧Keep Nil w0 w'):=by
 unfold Z5p at hm
 refine fnM func16 rfl ntmps16 rfl rfl fun a o=>?_
 have u:St w0 Nil [H] [] w0:=start1 hH
 replace u:=St.ds0 u
 obtain ⟨oa4,cap5,oa8,cap9,oa12,cap13,oa16,cap17,oa20,cap21,oa24,cap25,rfl,hc6,hr7,hc10,hr11,hc14,hr15,hc18,hr19,hc22,hr23,hc26,hr27⟩:=api_Prog_open g3
 refine th<|rg<|ls<|a_box (cs:=[.slice oa4 p1.Lines.length cap5,.slice oa8 p1.Vols.length cap9,.slice oa12 p1.Locks.length cap13,.slice oa16 p1.Threads.length cap17,.slice oa20 p1.Recover.length cap21,.slice oa24 p1.Claims.length cap25].toArray) o rfl u rfl rfl fun b28 w a u o=>ls<|a_alloc (cs:=[i6 0].toArray) o rfl u zeroValue29 rfl fun b29 w a u o=>ls<|a_alloc (cs:=[i6 0].toArray) o rfl u zeroValue3 rfl fun b30 w a u o=>re<|tn<|th<|?_
 obtain ⟨r31,h32,hm⟩:=bs hm
 refine rg<|qv o (e_ldA o Tryz.isAgg27 Tryz.sizeOf27 rfl rfl ((St.ld u).cellsB t2)) fun a o=>ls<|c1 o rfl call49 (Z6m_c (hp_le _) (Enc.mono (St.up u) (show Enc.rep (α:=api_Prog) H [.slice oa4 p1.Lines.length cap5,.slice oa8 p1.Vols.length cap9,.slice oa12 p1.Locks.length cap13,.slice oa16 p1.Threads.length cap17,.slice oa20 p1.Recover.length cap21,.slice oa24 p1.Claims.length cap25] p1 from ⟨_,_,rfl,⟨_,_,rfl,hc6,hr7⟩,⟨_,_,rfl,⟨_,_,rfl,hc10,hr11⟩,⟨_,_,rfl,⟨_,_,rfl,hc14,hr15⟩,⟨_,_,rfl,⟨_,_,rfl,hc18,hr19⟩,⟨_,_,rfl,⟨_,_,rfl,hc22,hr23⟩,⟨_,_,rfl,hc26,hr27⟩⟩⟩⟩⟩⟩)) h32) ⟨rfl,trivial⟩ (fun v w a hR o=>?_)
 obtain ⟨m33,l34,c35,rfl,hm36,hk⟩:=hR
 replace u:=u.fresh hk
 refine qm o rfl fun a o=>?_
 iterate 3 refine qv o (e_ext o rfl rfl) fun a o=>?_
 iterate 3 refine qa o rfl fun a o=>?_
 refine re<|tn<|th<|wb<|th<|?_
 obtain ⟨r37,h38,hm⟩:=bs hm
 refine rg<|qv o (e_ldA o Tryz.isAgg27 Tryz.sizeOf27 rfl rfl ((St.ld u).cellsB t3)) fun a o=>ls<|cq o call50 (Z7g_c (hp_le _) (Tab.mono hT (St.up u)) (Enc.mono (St.up u) (show Enc.rep (α:=api_Prog) H [.slice oa4 p1.Lines.length cap5,.slice oa8 p1.Vols.length cap9,.slice oa12 p1.Locks.length cap13,.slice oa16 p1.Threads.length cap17,.slice oa20 p1.Recover.length cap21,.slice oa24 p1.Claims.length cap25] p1 from ⟨_,_,rfl,⟨_,_,rfl,hc6,hr7⟩,⟨_,_,rfl,⟨_,_,rfl,hc10,hr11⟩,⟨_,_,rfl,⟨_,_,rfl,hc14,hr15⟩,⟨_,_,rfl,⟨_,_,rfl,hc18,hr19⟩,⟨_,_,rfl,⟨_,_,rfl,hc22,hr23⟩,⟨_,_,rfl,hc26,hr27⟩⟩⟩⟩⟩⟩)) h38) ⟨rfl,trivial⟩ u fun w a u o=>qv o (e_not o rfl) fun a o=>qa o rfl fun a o=>re<|?_
 rcases bdich r37 with hb39 | hb39
 replace hm:=ite_t hm hb39
 refine tn<|cfv o rfl (by rw [hb39];rfl)<|th<|?_
 obtain ⟨r40,h41,hm⟩:=bs hm
 refine rg<|qv o (e_ldA o Tryz.isAgg27 Tryz.sizeOf27 rfl rfl ((St.ld u).cellsB t3)) fun a o=>ls<|cq o call51 (Z6j_c (hp_le _) (Enc.mono (St.up u) (show Enc.rep (α:=api_Prog) H [.slice oa4 p1.Lines.length cap5,.slice oa8 p1.Vols.length cap9,.slice oa12 p1.Locks.length cap13,.slice oa16 p1.Threads.length cap17,.slice oa20 p1.Recover.length cap21,.slice oa24 p1.Claims.length cap25] p1 from ⟨_,_,rfl,⟨_,_,rfl,hc6,hr7⟩,⟨_,_,rfl,⟨_,_,rfl,hc10,hr11⟩,⟨_,_,rfl,⟨_,_,rfl,hc14,hr15⟩,⟨_,_,rfl,⟨_,_,rfl,hc18,hr19⟩,⟨_,_,rfl,⟨_,_,rfl,hc22,hr23⟩,⟨_,_,rfl,hc26,hr27⟩⟩⟩⟩⟩⟩)) h41) ⟨rfl,trivial⟩ u fun w a u o=>qa o rfl fun a o=>re<|?_
 rcases bdich r40 with hb42 | hb42
 replace hm:=ite_t hm hb42
 refine tn<|ctv o rfl hb42<|th<|rg<|ls<|s_blk o u Tryz.sizeOf29 rfl rfl rfl rfl (.tail (.tail .head)) .zero fun w u=>ls<|s_blk o u sizeOf3 rfl rfl rfl rfl (.tail .head) .zero fun w u=>re<|tn<|wr<|br<|tr<|?_
 obtain rfl:=si hm
 replace u:=u.pk [4,0,0,0,0] rfl
 exact rM (.inl rfl) o u fun w u=>⟨_,res2k o rfl rfl rfl isAgg29 isAgg3 ((St.ld u).cellB t2 rfl) ((St.ld u).cellB t1 rfl),⟨rfl,u.keep⟩⟩
 replace hm:=ite_f hm hb42
 refine tn<|cfv o rfl hb42<|wk<|bn<|tn<|th<|th<|?_
 obtain ⟨r43,h44,hm⟩:=bs hm
 refine rg<|qv o (e_ldA o Tryz.isAgg27 Tryz.sizeOf27 rfl rfl ((St.ld u).cellsB t3)) fun a o=>ls<|c1 o rfl call52 (Z6y_c (St.le u) (show Enc.rep (α:=api_Prog) H [.slice oa4 p1.Lines.length cap5,.slice oa8 p1.Vols.length cap9,.slice oa12 p1.Locks.length cap13,.slice oa16 p1.Threads.length cap17,.slice oa20 p1.Recover.length cap21,.slice oa24 p1.Claims.length cap25] p1 from ⟨_,_,rfl,⟨_,_,rfl,hc6,hr7⟩,⟨_,_,rfl,⟨_,_,rfl,hc10,hr11⟩,⟨_,_,rfl,⟨_,_,rfl,hc14,hr15⟩,⟨_,_,rfl,⟨_,_,rfl,hc18,hr19⟩,⟨_,_,rfl,⟨_,_,rfl,hc22,hr23⟩,⟨_,_,rfl,hc26,hr27⟩⟩⟩⟩⟩⟩) h44) ⟨rfl,trivial⟩ (fun v w a hR o=>?_)
 obtain ⟨H48,oa49,cap50,rfl,hc51,hr52,hx45,hl46,hk⟩:=hR
 obtain ⟨u,hx45⟩:=And.intro (St.passH u hk hx45 hl46) (St.extc u hx45)
 refine qv o (e_lenL (α:=api_Thread) (xs:=r43) o runUnderlying24 rfl) fun a o=>qm o rfl fun a o=>re<|tn<|midK (fun a w=>(Z5r N p1 r31)=some r∧Fr 128 [(1,.pointer (some ⟨b28,0,none⟩)),(2,.pointer (some ⟨b29,0,none⟩)),(3,.pointer (some ⟨b30,0,none⟩)),(4,.map (some m33)),(5,i6 r31.2.1),(6,.bool r31.2.2)] a∧St w0 Nil [H48] [blk b28 (.cells [.slice oa4 p1.Lines.length cap5,.slice oa8 p1.Vols.length cap9,.slice oa12 p1.Locks.length cap13,.slice oa16 p1.Threads.length cap17,.slice oa20 p1.Recover.length cap21,.slice oa24 p1.Claims.length cap25].toArray 27 (0,0)),blk b29 (.cells [i6 0].toArray 29 (0,0)),blk b30 (.cells [i6 0].toArray 3 (0,0)),gmap kS m33 l34 c35,dsA []] w) ?_ ?_
 replace u:=u.pk [3,2,1,0,0] rfl
 refine wb<|lp (α:=Nat×Int) (fun gh a w=>match gh with | (nn2,vB1)=>(Z5x N (Z5r N p1 r31) r43) nn2 vB1=some r∧Fr 128 [(1,.pointer (some ⟨b28,0,none⟩)),(2,.pointer (some ⟨b29,0,none⟩)),(3,.pointer (some ⟨b30,0,none⟩)),(4,.map (some m33)),(5,i6 r31.2.1),(6,.bool r31.2.2),(38,.slice oa49 r43.length cap50),(39,i6 (r43.length:Int)),(40,i6 vB1)] a∧St w0 Nil [H48] [blk b28 (.cells [.slice oa4 p1.Lines.length cap5,.slice oa8 p1.Vols.length cap9,.slice oa12 p1.Locks.length cap13,.slice oa16 p1.Threads.length cap17,.slice oa20 p1.Recover.length cap21,.slice oa24 p1.Claims.length cap25].toArray 27 (0,0)),blk b29 (.cells [i6 0].toArray 29 (0,0)),blk b30 (.cells [i6 0].toArray 3 (0,0)),gmap kS m33 l34 c35,dsA []] w) (fun gh=>gh.1) (N,0) ⟨hm,o.hs,u⟩ ?_
 rintro ⟨nn2,vB1⟩ a w ⟨hm,o,u⟩
 obtain _ | nn2:=nn2
 simp [Z5x] at hm
 rw [Z5x] at hm
 refine th<|rg<|qv o (e_lss o rfl rfl) fun a o=>re<|?_
 rcases bdich (decide (vB1 < (r43.length:Int))) with hb53 | hb53
 replace hm:=itp_t hm hb53
 refine tn<|th<|ctv o rfl hb53<|wk<|tn<|th<|wb<|th<|?_
 obtain ⟨x54,h55,hm⟩:=bs hm
 obtain ⟨c56,g57,hl58⟩:=SR.get hr52 h55
 obtain ⟨oa59,cap60,oa63,cap64,rfl,hc61,hr62,hc65,hr66⟩:=api_Thread_open g57
 refine rg<|qv o (e_iaI o Tryz.runUnderlying24 Tryz.sizeOf48 rfl rfl h55 (SR.oaI hr52 (by decide) h55)) fun a o=>qv o (e_ldA o isAgg48 sizeOf48 rfl rfl (fun j v hj=>PH.le.cell (Lds.le (St.ld u)) (hl58 j v hj))) fun a o=>ls<|a_alloc (cs:=[strv [],.slice none 0 0,.slice none 0 0,i6 0].toArray) o rfl u zeroValue48 rfl fun b67 w a u o=>ls<|s_blkA o u sizeOf48 rfl rfl rfl rfl (one_cells rfl) .head fun w u=>re<|tn<|th<|?_
 obtain ⟨r68,h69,hm⟩:=bs hm
 refine rg<|qv o (e_fa o fa48_2 rfl) fun a o=>qv o (e_ld o isAgg46 rfl ((St.ld u).cellB t0 rfl)) fun a o=>ls<|cq o call53 (Z7c_c _ (hp_le _) hc65 (St.srH u hr66) h69) ⟨rfl,rfl,trivial⟩ u fun w a u o=>qm o rfl fun a o=>?_
 iterate 2 refine qv o (e_ext o rfl rfl) fun a o=>?_
 iterate 2 refine qa o rfl fun a o=>?_
 refine re<|tn<|th<|rg<|qm o rfl fun a o=>re<|?_
 rcases bdich r68.2 with hb70 | hb70
 replace hm:=ite_t hm hb70
 refine tn<|ctv o rfl hb70<|th<|rg<|qm o rfl fun a o=>ls<|s_blk o u sizeOf29 rfl rfl rfl rfl (.tail (.tail .head)) .zero fun w u=>ls<|s_blk o u sizeOf3 rfl rfl rfl rfl (.tail (.tail (.tail .head))) .zero fun w u=>re<|tn<|wr<|br<|tr<|tr<|br<|tr<|?_
 obtain rfl:=si hm
 replace u:=u.pk [5,0,0,0,0,0] rfl
 exact rM (.inl rfl) o u fun w u=>⟨_,res2k o rfl rfl rfl isAgg29 isAgg3 ((St.ld u).cellB t2 rfl) ((St.ld u).cellB t3 rfl),⟨rfl,u.keep⟩⟩
 replace hm:=ite_f hm hb70
 refine tn<|cfv o rfl hb70<|wk<|bn<|tn<|rg<|qv o (e_add o rfl rfl) fun a o=>qm o rfl fun a o=>re<|tn<|?_
 replace u:=u.pk [1,1,1,1,1] rfl
 exact ⟨(nn2,(IntKind.i64.wrap (vB1+1))),⟨hm,o.hs,u⟩,Nat.lt_succ_self _⟩
 replace hm:=itp_f hm hb53
 refine tn<|th<|cfv o rfl hb53<|we<|tx<|tx<|bx<|tn<|?_
 exact ⟨hm,o.hs,u⟩
 rintro a w ⟨hm,o,u⟩
 unfold Z5r at hm
 refine th<|th<|rg<|qm o rfl fun a o=>re<|?_
 rcases bdich r31.2.2 with hb71 | hb71
 replace hm:=ite_t hm hb71
 refine tn<|ctv o rfl hb71<|th<|rg<|qm o rfl fun a o=>ls<|s_blk o u sizeOf29 rfl rfl rfl rfl (.tail .head) .zero fun w u=>ls<|s_blk o u sizeOf3 rfl rfl rfl rfl (.tail (.tail .head)) .zero fun w u=>re<|tn<|wr<|tr<|?_
 obtain rfl:=si hm
 replace u:=u.pk [4,0,0,0,0] rfl
 exact rM (.inl rfl) o u fun w u=>⟨_,res2k o rfl rfl rfl isAgg29 isAgg3 ((St.ld u).cellB t1 rfl) ((St.ld u).cellB t2 rfl),⟨rfl,u.keep⟩⟩
 replace hm:=ite_f hm hb71
 refine tn<|cfv o rfl hb71<|wk<|tn<|th<|th<|?_
 obtain ⟨r72,h73,hm⟩:=bs hm
 refine rg<|qv o (e_ldA o Tryz.isAgg27 Tryz.sizeOf27 rfl rfl ((St.ld u).cellsB t0)) fun a o=>ls<|c1 o rfl call52 (Z6y_c (St.le u) (show Enc.rep (α:=api_Prog) H48 [.slice oa4 p1.Lines.length cap5,.slice oa8 p1.Vols.length cap9,.slice oa12 p1.Locks.length cap13,.slice oa16 p1.Threads.length cap17,.slice oa20 p1.Recover.length cap21,.slice oa24 p1.Claims.length cap25] p1 from ⟨_,_,rfl,⟨_,_,rfl,hc6,(hr7.mono hx45.sub)⟩,⟨_,_,rfl,⟨_,_,rfl,hc10,(hr11.mono hx45.sub)⟩,⟨_,_,rfl,⟨_,_,rfl,hc14,(hr15.mono hx45.sub)⟩,⟨_,_,rfl,⟨_,_,rfl,hc18,(hr19.mono hx45.sub)⟩,⟨_,_,rfl,⟨_,_,rfl,hc22,(hr23.mono hx45.sub)⟩,⟨_,_,rfl,hc26,(hr27.mono hx45.sub)⟩⟩⟩⟩⟩⟩) h73) ⟨rfl,trivial⟩ (fun v w a hR o=>?_)
 obtain ⟨H77,oa78,cap79,rfl,hc80,hr81,hx74,hl75,hk⟩:=hR
 obtain ⟨u,hx74⟩:=And.intro (St.passH u hk hx74 hl75) (St.extc u hx74)
 refine qv o (e_lenL (α:=api_Thread) (xs:=r72) o runUnderlying24 rfl) fun a o=>qm o rfl fun a o=>re<|tn<|midK (fun a w=>(Z5t N p1 r31)=some r∧Fr 128 [(1,.pointer (some ⟨b28,0,none⟩)),(2,.pointer (some ⟨b29,0,none⟩)),(3,.pointer (some ⟨b30,0,none⟩)),(4,.map (some m33))] a∧St w0 Nil [H77] [blk b28 (.cells [.slice oa4 p1.Lines.length cap5,.slice oa8 p1.Vols.length cap9,.slice oa12 p1.Locks.length cap13,.slice oa16 p1.Threads.length cap17,.slice oa20 p1.Recover.length cap21,.slice oa24 p1.Claims.length cap25].toArray 27 (0,0)),blk b29 (.cells [i6 0].toArray 29 (0,0)),blk b30 (.cells [i6 0].toArray 3 (0,0)),gmap kS m33 l34 c35,dsA []] w) ?_ ?_
 refine wb<|lp (α:=Nat×Int) (fun gh a w=>match gh with | (nn4,vB2)=>(Z5y N (Z5t N p1 r31) r31 r72) nn4 vB2=some r∧Fr 128 [(1,.pointer (some ⟨b28,0,none⟩)),(2,.pointer (some ⟨b29,0,none⟩)),(3,.pointer (some ⟨b30,0,none⟩)),(4,.map (some m33)),(56,.slice oa78 r72.length cap79),(57,i6 (r72.length:Int)),(58,i6 vB2)] a∧St w0 Nil [H77] [blk b28 (.cells [.slice oa4 p1.Lines.length cap5,.slice oa8 p1.Vols.length cap9,.slice oa12 p1.Locks.length cap13,.slice oa16 p1.Threads.length cap17,.slice oa20 p1.Recover.length cap21,.slice oa24 p1.Claims.length cap25].toArray 27 (0,0)),blk b29 (.cells [i6 0].toArray 29 (0,0)),blk b30 (.cells [i6 0].toArray 3 (0,0)),gmap kS m33 l34 c35,dsA []] w) (fun gh=>gh.1) (N,0) ⟨hm,o.hs,u⟩ ?_
 rintro ⟨nn4,vB2⟩ a w ⟨hm,o,u⟩
 obtain _ | nn4:=nn4
 simp [Z5y] at hm
 rw [Z5y] at hm
 refine th<|rg<|qv o (e_lss o rfl rfl) fun a o=>re<|?_
 rcases bdich (decide (vB2 < (r72.length:Int))) with hb82 | hb82
 replace hm:=itp_t hm hb82
 refine tn<|th<|ctv o rfl hb82<|wk<|tn<|th<|wb<|th<|?_
 obtain ⟨x83,h84,hm⟩:=bs hm
 obtain ⟨c85,g86,hl87⟩:=SR.get hr81 h84
 obtain ⟨oa88,cap89,oa92,cap93,rfl,hc90,hr91,hc94,hr95⟩:=api_Thread_open g86
 refine rg<|qv o (e_iaI o Tryz.runUnderlying24 Tryz.sizeOf48 rfl rfl h84 (SR.oaI hr81 (by decide) h84)) fun a o=>qv o (e_ldA o isAgg48 sizeOf48 rfl rfl (fun j v hj=>PH.le.cell (Lds.le (St.ld u)) (hl87 j v hj))) fun a o=>ls<|a_alloc (cs:=[strv [],.slice none 0 0,.slice none 0 0,i6 0].toArray) o rfl u zeroValue48 rfl fun b96 w a u o=>ls<|s_blkA o u sizeOf48 rfl rfl rfl rfl (one_cells rfl) .head fun w u=>re<|tn<|th<|?_
 obtain ⟨r97,h98,hm⟩:=bs hm
 refine rg<|qv o (e_ldA o Tryz.isAgg48 Tryz.sizeOf48 rfl rfl ((St.ld u).cellsB t0)) fun a o=>qm o rfl fun a o=>ls<|c1 o rfl call54 (Z6v_c (hp_le _) (Enc.mono (St.up u) (show Enc.rep (α:=api_Thread) H77 [strv x83.Name,.slice oa88 x83.Regs.length cap89,.slice oa92 x83.Body.length cap93,i6 x83.At] x83 from ⟨_,_,rfl,rfl,⟨_,_,rfl,⟨_,_,rfl,hc90,hr91⟩,⟨_,_,rfl,⟨_,_,rfl,hc94,hr95⟩,rfl⟩⟩⟩)) (St.mapO u t4) hm36 (St.mapG u t4) h98) ⟨rfl,rfl,trivial⟩ (fun v w a hR o=>?_)
 obtain ⟨vm100,A99,rfl,hm101,hk⟩:=hR
 replace u:=u.fresh hk
 refine qm o rfl fun a o=>?_
 iterate 2 refine qv o (e_ext o rfl rfl) fun a o=>?_
 iterate 2 refine qa o rfl fun a o=>?_
 refine re<|tn<|th<|rg<|qm o rfl fun a o=>re<|?_
 rcases bdich r97.2 with hb102 | hb102
 replace hm:=ite_t hm hb102
 refine tn<|ctv o rfl hb102<|th<|rdL (sub_cons t0 (sub_cons t1 (sub_cons t2 (sub_cons t4 (sub_cons t5 (sub_cons t6 sub_nil)))))) 3 u wide fun w u=>ds 0 (St.ldsX u i2 (sub_cons t0 (sub_cons t1 (sub_cons t2 (sub_cons t4 (sub_cons t5 (sub_cons t6 sub_nil))))))) o rfl (e_fa o fa48_3 rfl) fun a o=>dq 1 (St.ldsX u i2 (sub_cons t0 (sub_cons t1 (sub_cons t2 (sub_cons t4 (sub_cons t5 (sub_cons t6 sub_nil))))))) o rfl (fun w hl=>e_ld o isAgg3 rfl (hl.cellB t1 rfl)) fun a o=>da1 (i:=2) (by kernel_rfl) ?_
 refine di (i:=2) rfl<|s_blk o u sizeOf29 rfl rfl rfl rfl (.tail (.tail (.tail .head))) .zero fun w u=>⟨fun _=>(St.ldsX u i2 (sub_cons t0 (sub_cons t1 (sub_cons t2 (sub_cons t4 (sub_cons t5 (sub_cons t6 sub_nil))))))),?_⟩
 refine da1 (i:=3) (by kernel_rfl) ?_
 refine di (i:=3) rfl<|s_blk o u sizeOf3 rfl rfl rfl rfl (.tail (.tail (.tail (.tail .head)))) .zero fun w u=>⟨fun h=>absurd rfl h,?_⟩
 refine de (by kernel_rfl)<|tn<|wr<|br<|tr<|tr<|br<|tr<|?_
 obtain rfl:=si hm
 replace u:=u.pk [6,0,0,0,0,0,0] rfl
 exact rM (.inl rfl) o u fun w u=>⟨_,res2k o rfl rfl rfl isAgg29 isAgg3 ((St.ld u).cellB t3 rfl) ((St.ld u).cellB t4 rfl),⟨rfl,u.keep⟩⟩
 replace hm:=ite_f hm hb102
 refine tn<|cfv o rfl hb102<|wk<|bn<|tn<|rg<|qv o (e_add o rfl rfl) fun a o=>qm o rfl fun a o=>re<|tn<|?_
 replace u:=u.pk [2,2,2,2,2] rfl
 exact ⟨(nn4,(IntKind.i64.wrap (vB2+1))),⟨hm,o.hs,u⟩,Nat.lt_succ_self _⟩
 replace hm:=itp_f hm hb82
 refine tn<|th<|cfv o rfl hb82<|we<|tx<|tx<|bx<|tn<|?_
 exact ⟨hm,o.hs,u⟩
 rintro a w ⟨hm,o,u⟩
 unfold Z5t at hm
 refine th<|th<|?_
 obtain ⟨r103,h104,hm⟩:=bs hm
 refine rg<|qv o (e_ldA o Tryz.isAgg27 Tryz.sizeOf27 rfl rfl ((St.ld u).cellsB t0)) fun a o=>ls<|c1 o rfl call52 (Z6y_c (St.le u) (show Enc.rep (α:=api_Prog) H77 [.slice oa4 p1.Lines.length cap5,.slice oa8 p1.Vols.length cap9,.slice oa12 p1.Locks.length cap13,.slice oa16 p1.Threads.length cap17,.slice oa20 p1.Recover.length cap21,.slice oa24 p1.Claims.length cap25] p1 from ⟨_,_,rfl,⟨_,_,rfl,hc6,(hr7.mono (cp hx74.sub hx45.sub))⟩,⟨_,_,rfl,⟨_,_,rfl,hc10,(hr11.mono (cp hx74.sub hx45.sub))⟩,⟨_,_,rfl,⟨_,_,rfl,hc14,(hr15.mono (cp hx74.sub hx45.sub))⟩,⟨_,_,rfl,⟨_,_,rfl,hc18,(hr19.mono (cp hx74.sub hx45.sub))⟩,⟨_,_,rfl,⟨_,_,rfl,hc22,(hr23.mono (cp hx74.sub hx45.sub))⟩,⟨_,_,rfl,hc26,(hr27.mono (cp hx74.sub hx45.sub))⟩⟩⟩⟩⟩⟩) h104) ⟨rfl,trivial⟩ (fun v w a hR o=>?_)
 obtain ⟨H108,oa109,cap110,rfl,hc111,hr112,hx105,hl106,hk⟩:=hR
 obtain ⟨u,hx105⟩:=And.intro (St.passH u hk hx105 hl106) (St.extc u hx105)
 refine qv o (e_lenL (α:=api_Thread) (xs:=r103) o runUnderlying24 rfl) fun a o=>qm o rfl fun a o=>re<|tn<|midK (fun a w=>∃ (HA1:PH) (dsA2:List Nat),(Z5u N p1 r31)=some r∧Ext w0 H108 HA1∧Fr ⟨128,dsA2⟩ [(1,.pointer (some ⟨b28,0,none⟩)),(2,.pointer (some ⟨b29,0,none⟩)),(3,.pointer (some ⟨b30,0,none⟩)),(4,.map (some m33))] a∧St w0 Nil [HA1] [blk b28 (.cells [.slice oa4 p1.Lines.length cap5,.slice oa8 p1.Vols.length cap9,.slice oa12 p1.Locks.length cap13,.slice oa16 p1.Threads.length cap17,.slice oa20 p1.Recover.length cap21,.slice oa24 p1.Claims.length cap25].toArray 27 (0,0)),blk b29 (.cells [i6 0].toArray 29 (0,0)),blk b30 (.cells [i6 0].toArray 3 (0,0)),gmap kS m33 l34 c35,dsA dsA2] w) ?_ ?_
 refine wb<|lp (α:=Nat×Int) (fun gh a w=>match gh with | (nn6,vB4)=>∃ (HB3:PH) (dsB5:List Nat),(Z5z N (Z5u N p1 r31) r31 r103) nn6 vB4=some r∧Ext w0 H108 HB3∧Fr ⟨128,dsB5⟩ [(1,.pointer (some ⟨b28,0,none⟩)),(2,.pointer (some ⟨b29,0,none⟩)),(3,.pointer (some ⟨b30,0,none⟩)),(4,.map (some m33)),(73,.slice oa109 r103.length cap110),(74,i6 (r103.length:Int)),(75,i6 vB4)] a∧St w0 Nil [HB3] [blk b28 (.cells [.slice oa4 p1.Lines.length cap5,.slice oa8 p1.Vols.length cap9,.slice oa12 p1.Locks.length cap13,.slice oa16 p1.Threads.length cap17,.slice oa20 p1.Recover.length cap21,.slice oa24 p1.Claims.length cap25].toArray 27 (0,0)),blk b29 (.cells [i6 0].toArray 29 (0,0)),blk b30 (.cells [i6 0].toArray 3 (0,0)),gmap kS m33 l34 c35,dsA dsB5] w) (fun gh=>gh.1) (N,0) ⟨H108,[],hm,(Ext.refl _ _),o.hs,u⟩ ?_
 rintro ⟨nn6,vB4⟩ a w ⟨HB3,dsB5,hm,hxHB3,o,u⟩
 obtain _ | nn6:=nn6
 simp [Z5z] at hm
 rw [Z5z] at hm
 refine th<|rg<|qv o (e_lss o rfl rfl) fun a o=>re<|?_
 rcases bdich (decide (vB4 < (r103.length:Int))) with hb113 | hb113
 replace hm:=itp_t hm hb113
 refine tn<|th<|ctv o rfl hb113<|wk<|tn<|th<|wb<|th<|?_
 obtain ⟨x114,h115,hm⟩:=bs hm
 obtain ⟨c116,g117,hl118⟩:=SR.get hr112 h115
 obtain ⟨oa119,cap120,oa123,cap124,rfl,hc121,hr122,hc125,hr126⟩:=api_Thread_open g117
 refine rg<|qv o (e_iaI o Tryz.runUnderlying24 Tryz.sizeOf48 rfl rfl h115 (SR.oaI hr112 (by decide) h115)) fun a o=>qv o (e_ldA o isAgg48 sizeOf48 rfl rfl (fun j v hj=>PH.le.cell (fun b o hx=>(Lds.le (St.ld u)) b o (hxHB3.sub b o hx)) (hl118 j v hj))) fun a o=>ls<|a_alloc (cs:=[strv [],.slice none 0 0,.slice none 0 0,i6 0].toArray) o rfl u zeroValue48 rfl fun b127 w a u o=>ls<|s_blkA o u sizeOf48 rfl rfl rfl rfl (one_cells rfl) .head fun w u=>re<|tn<|th<|?_
 obtain ⟨r128,h129,hm⟩:=bs hm
 refine rg<|qv o (e_ldA o Tryz.isAgg48 Tryz.sizeOf48 rfl rfl ((St.ld u).cellsB t0)) fun a o=>qm o rfl fun a o=>ls<|c1 o rfl call54 (Z6v_c (hp_le _) (Enc.mono (St.up u) (show Enc.rep (α:=api_Thread) HB3 [strv x114.Name,.slice oa119 x114.Regs.length cap120,.slice oa123 x114.Body.length cap124,i6 x114.At] x114 from ⟨_,_,rfl,rfl,⟨_,_,rfl,⟨_,_,rfl,hc121,(hr122.mono hxHB3.sub)⟩,⟨_,_,rfl,⟨_,_,rfl,hc125,(hr126.mono hxHB3.sub)⟩,rfl⟩⟩⟩)) (St.mapO u t4) hm36 (St.mapG u t4) h129) ⟨rfl,rfl,trivial⟩ (fun v w a hR o=>?_)
 obtain ⟨vm131,A130,rfl,hm132,hk⟩:=hR
 replace u:=u.fresh hk
 refine qm o rfl fun a o=>?_
 iterate 2 refine qv o (e_ext o rfl rfl) fun a o=>?_
 refine ls<|a_alloc (cs:=[.map none].toArray) o rfl u zeroValue75 rfl fun b133 w a u o=>ls<|s_blk o u sizeOf75 rfl rfl (OMap.cells hm132) (OMap.one hm132) .head .zero fun w u=>qa o rfl fun a o=>re<|tn<|th<|?_
 obtain ⟨r134,h135,hm⟩:=bs hm
 refine rg<|qv o (e_fa o fa48_2 rfl) fun a o=>qv o (e_ld o isAgg46 rfl ((St.ld u).cellB t2 rfl)) fun a o=>ls<|c1 o rfl call55 (Z6z_c (St.le u) hc125 (hr126.mono hxHB3.sub) h135) ⟨rfl,trivial⟩ (fun v w a hR o=>?_)
 obtain ⟨H139,b140,oa142,cap143,rfl,hb141,hc144,hr145,hx136,hl137,hk⟩:=hR
 obtain ⟨u,hx136⟩:=And.intro (St.passH u hk hx136 hl137) (St.extc u hx136)
 refine re<|tn<|wb<|?_
 replace o:Fr ⟨128,dsB5⟩ [(1,.pointer (some ⟨b28,0,none⟩)),(2,.pointer (some ⟨b29,0,none⟩)),(3,.pointer (some ⟨b30,0,none⟩)),(4,.map (some m33)),(17,.pointer (some ⟨b133,0,none⟩)),(73,.slice oa109 r103.length cap110),(74,i6 (r103.length:Int)),(75,i6 vB4),(87,.func (.func 94) #[] #[.pointer (some ⟨b140,0,none⟩)])] _:=o.hs
 replace u:=u.pk [7,3,3,3,3,1,0] rfl
 obtain ⟨q146,h147,hm⟩:=bs hm
 refine rf (ŝ:=q146) (lb:=[.pointer (some ⟨b140,0,none⟩)]) (ps:=[88]) (I:=fun (_:Unit) (HC1:PH) (L:List HA)=>L=[blk b28 (.cells [.slice oa4 p1.Lines.length cap5,.slice oa8 p1.Vols.length cap9,.slice oa12 p1.Locks.length cap13,.slice oa16 p1.Threads.length cap17,.slice oa20 p1.Recover.length cap21,.slice oa24 p1.Claims.length cap25].toArray 27 (0,0)),blk b29 (.cells [i6 0].toArray 29 (0,0)),blk b30 (.cells [i6 0].toArray 3 (0,0)),gmap kS m33 l34 c35,A130,blk b133 (.cells [vm131].toArray 75 (0,0))]∧(∀ b o,H139 b=some o→HC1 b=some o)) (J:=fun (vC3:Int) (c:Code) (HC2:PH) (L:List HA)=>c=.ret∧L=[blk b29 (.cells [i6 9].toArray 29 (0,0)),blk b30 (.cells [i6 vC3].toArray 3 (0,0))]∧(∀ b o,H139 b=some o→HC2 b=some o)) (fun (s:Unit) (x:legal_use)=>(Z5q N r128) x) (fun (H:PH) (args:List Value) (x:legal_use)=>∃ (cs0:List Value),args=[.agg cs0.toArray]∧Enc.rep H cs0 x) o rfl call94 rfl (by rintro H args x ⟨_,rfl,_⟩;rfl) u ⟨rfl,i2⟩ (by rintro ⟨⟩ H Hn L hs ⟨rfl,hu⟩;exact ⟨rfl,(cp hs hu)⟩) (by rintro vC3 _ H Hn L hs ⟨rfl,rfl,hu⟩;exact ⟨rfl,rfl,(cp hs hu)⟩) (fun lq C Lc w1 hyc hcm hc hle hok hdis=>hit_of (Z70_c hle hyc hcm hc hc144 hr145 hb141 (sep1_ok hok) (sep1_dis hdis) h147)) ?_ ?_ ?_
 intro l X Y s xe206 r HC1 Lu args w0 a K Qr hI hex hm o u hK hN hR
 obtain ⟨rfl,hxHC1⟩:=hI
 replace hm:(Z5q N r128) xe206=some r:=hm
 unfold Z5q at hm
 obtain ⟨cs207,rfl,g208⟩:=hex
 replace o:Fr 128 [(88,.agg cs207.toArray),(1,.pointer (some ⟨b28,0,none⟩)),(2,.pointer (some ⟨b29,0,none⟩)),(3,.pointer (some ⟨b30,0,none⟩)),(4,.map (some m33)),(17,.pointer (some ⟨b133,0,none⟩)),(73,.slice oa109 r103.length cap110),(74,i6 (r103.length:Int)),(75,i6 vB4),(87,.func (.func 94) #[] #[.pointer (some ⟨b140,0,none⟩)])] a:=o
 obtain ⟨oa209,cap210,rfl,hc211,hr212⟩:=legal_use_open g208
 refine rg<|ls<|a_alloc (cs:=[strv [],i6 0,.slice none 0 0].toArray) o rfl u Tryz.zeroValue87 rfl fun b213 w a u o=>ls<|s_blkA o u sizeOf87 rfl rfl rfl rfl (one_cells rfl) .head fun w u=>re<|?_
 replace u:=u.pk [1,0,0,0,0,0,0,0] rfl
 refine tn<|hK _ _ _ _ u fun w u=>wb<|th<|?_
 obtain ⟨r214,h215,hm⟩:=bs hm
 refine rg<|qv o (e_fa o fa87_2 rfl) fun a o=>qv o (e_ld o isAgg42 rfl ((St.ld u).cellB t1 rfl)) fun a o=>qv o (e_ld o isAgg75 rfl ((St.ld u).cellB t7 rfl)) fun a o=>qv o (e_fa o fa87_0 rfl) fun a o=>qv o (e_ld o isAgg9 rfl ((St.ld u).cellB t1 rfl)) fun a o=>qv o (e_lookO (ev:=kI) (dv:=0) (m:=r128.1) (k:=xe206.name) o key9 runUnderlying75 zeroValue3 ((St.ld u).ok _ t6) rfl rfl hm132) fun a o=>ls<|cq o call56 (Z8j_c (hp_le _) hc211 (St.srH u hr212) h215) ⟨rfl,rfl,trivial⟩ u fun w a u o=>qv o (e_not o rfl) fun a o=>re<|?_
 rcases bdich r214 with hb216 | hb216
 replace hm:=ite_t hm hb216
 refine tn<|cfv o rfl (by rw [hb216];rfl)<|wk<|bn<|?_
 obtain rfl:=si hm
 replace u:=u.pk [0,1,1,1,1,1,1] rfl
 exact hN _ _ _ _ _ rfl (ExtM.refl _ _ _) ⟨rfl,hxHC1⟩ u
 replace hm:=ite_f hm hb216
 refine tn<|ctv o rfl (by rw [hb216];rfl)<|th<|rdL (sub_cons t0 (sub_cons t1 (sub_cons t2 (sub_cons t4 (sub_cons t5 (sub_cons t6 (sub_cons t7 sub_nil))))))) 3 u wide fun w u=>ds 0 (St.ldsX u i2 (sub_cons t0 (sub_cons t1 (sub_cons t2 (sub_cons t4 (sub_cons t5 (sub_cons t6 (sub_cons t7 sub_nil)))))))) o rfl (e_fa o fa87_1 rfl) fun a o=>dq 1 (St.ldsX u i2 (sub_cons t0 (sub_cons t1 (sub_cons t2 (sub_cons t4 (sub_cons t5 (sub_cons t6 (sub_cons t7 sub_nil)))))))) o rfl (fun w hl=>e_ld o isAgg3 rfl (hl.cellB t1 rfl)) fun a o=>da1 (i:=2) (by kernel_rfl) ?_
 refine di (i:=2) rfl<|s_blk o u sizeOf29 rfl rfl rfl rfl (.tail (.tail (.tail .head))) .zero fun w u=>⟨fun _=>(St.ldsX u i2 (sub_cons t0 (sub_cons t1 (sub_cons t2 (sub_cons t4 (sub_cons t5 (sub_cons t6 (sub_cons t7 sub_nil)))))))),?_⟩
 refine da1 (i:=3) (by kernel_rfl) ?_
 refine di (i:=3) rfl<|s_blk o u sizeOf3 rfl rfl rfl rfl (.tail (.tail (.tail (.tail .head)))) .zero fun w u=>⟨fun h=>absurd rfl h,?_⟩
 refine de (by kernel_rfl)<|tn<|wr<|br<|?_
 obtain rfl:=si hm
 replace u:=u.pk [0,2,2] rfl
 exact hR _ _ _ _ _ _ _ rfl rfl (ExtM.refl _ _ _) ⟨rfl,rfl,hxHC1⟩ u
 rintro ⟨⟩ D217 HC1 Lu a w rfl ⟨rfl,huHC1⟩ hx218 o u
 replace hx218:=ExtM.nil hx218
 try dsimp only at hm
 replace o:Fr ⟨128,(D217 :: dsB5)⟩ [(1,.pointer (some ⟨b28,0,none⟩)),(2,.pointer (some ⟨b29,0,none⟩)),(3,.pointer (some ⟨b30,0,none⟩)),(4,.map (some m33)),(17,.pointer (some ⟨b133,0,none⟩)),(73,.slice oa109 r103.length cap110),(74,i6 (r103.length:Int)),(75,i6 vB4),(87,.func (.func 94) #[] #[.pointer (some ⟨b140,0,none⟩)])] a:=o
 replace u:St w0 Nil [HC1] [dsA (D217 :: dsB5),blk b28 (.cells [.slice oa4 p1.Lines.length cap5,.slice oa8 p1.Vols.length cap9,.slice oa12 p1.Locks.length cap13,.slice oa16 p1.Threads.length cap17,.slice oa20 p1.Recover.length cap21,.slice oa24 p1.Claims.length cap25].toArray 27 (0,0)),blk b29 (.cells [i6 0].toArray 29 (0,0)),blk b30 (.cells [i6 0].toArray 3 (0,0)),gmap kS m33 l34 c35,A130,blk b133 (.cells [vm131].toArray 75 (0,0))] w:=u
 refine bn<|bn<|tn<|rg<|qv o (e_add o rfl rfl) fun a o=>qm o rfl fun a o=>re<|tn<|?_
 replace u:=u.pk [1,1,1,1,0] rfl
 exact ⟨(nn6,(IntKind.i64.wrap (vB4+1))),⟨HC1,(D217 :: dsB5),hm,(Ext.trans hxHB3 (Ext.trans hx136 hx218)),o.hs,u⟩,Nat.lt_succ_self _⟩
 rintro vC3 _ D219 HC2 Lu a w rfl ⟨rfl,rfl,huHC2⟩ hx220 o u
 replace hx220:=ExtM.nil hx220
 try dsimp only at hm
 replace o:Fr ⟨128,(D219 :: dsB5)⟩ [(1,.pointer (some ⟨b28,0,none⟩)),(2,.pointer (some ⟨b29,0,none⟩)),(3,.pointer (some ⟨b30,0,none⟩)),(4,.map (some m33)),(17,.pointer (some ⟨b133,0,none⟩)),(73,.slice oa109 r103.length cap110),(74,i6 (r103.length:Int)),(75,i6 vB4),(87,.func (.func 94) #[] #[.pointer (some ⟨b140,0,none⟩)])] a:=o
 replace u:St w0 Nil [HC2] [dsA (D219 :: dsB5),blk b29 (.cells [i6 9].toArray 29 (0,0)),blk b30 (.cells [i6 vC3].toArray 3 (0,0))] w:=u
 refine wr<|br<|br<|tr<|tr<|br<|tr<|?_
 obtain rfl:=si hm
 exact rM (.inl rfl) o u fun w u=>⟨_,res2k o rfl rfl rfl isAgg29 isAgg3 ((St.ld u).cellB t0 rfl) ((St.ld u).cellB t1 rfl),⟨rfl,u.keep⟩⟩
 replace hm:=itp_f hm hb113
 refine tn<|th<|cfv o rfl hb113<|we<|tx<|tx<|bx<|tn<|?_
 exact ⟨HB3,dsB5,hm,hxHB3,o.hs,u⟩
 rintro a w ⟨HA1,dsA2,hm,hxHA1,o,u⟩
 unfold Z5u at hm
 refine th<|th<|rg<|qv o (e_fa o fa27_5 rfl) fun a o=>qv o (e_ld o isAgg25 rfl ((St.ld u).cellB t0 rfl)) fun a o=>qv o (e_lenL (α:=api_Claim) (xs:=p1.Claims) o runUnderlying25 rfl) fun a o=>qm o rfl fun a o=>re<|tn<|midK (fun a w=>Z5v=some r∧Fr ⟨128,dsA2⟩ [(2,.pointer (some ⟨b29,0,none⟩)),(3,.pointer (some ⟨b30,0,none⟩))] a∧St w0 Nil [HA1] [blk b29 (.cells [i6 0].toArray 29 (0,0)),blk b30 (.cells [i6 0].toArray 3 (0,0)),dsA dsA2] w) ?_ ?_
 replace u:=u.pk [1,1,1,1] rfl
 refine wb<|lp (α:=Nat×Int) (fun gh a w=>match gh with | (nn9,vB6)=>(Z60 N Z5v p1 r31) nn9 vB6=some r∧Fr ⟨128,dsA2⟩ [(2,.pointer (some ⟨b29,0,none⟩)),(3,.pointer (some ⟨b30,0,none⟩)),(4,.map (some m33)),(101,.slice oa24 p1.Claims.length cap25),(102,i6 (p1.Claims.length:Int)),(103,i6 vB6)] a∧St w0 Nil [HA1] [blk b29 (.cells [i6 0].toArray 29 (0,0)),blk b30 (.cells [i6 0].toArray 3 (0,0)),gmap kS m33 l34 c35,dsA dsA2] w) (fun gh=>gh.1) (N,0) ⟨hm,o.hs,u⟩ ?_
 rintro ⟨nn9,vB6⟩ a w ⟨hm,o,u⟩
 obtain _ | nn9:=nn9
 simp [Z60] at hm
 rw [Z60] at hm
 refine th<|rg<|qv o (e_lss o rfl rfl) fun a o=>re<|?_
 rcases bdich (decide (vB6 < (p1.Claims.length:Int))) with hb221 | hb221
 replace hm:=itp_t hm hb221
 refine tn<|th<|ctv o rfl hb221<|wk<|tn<|th<|midK (fun a w=>(Z5s (Z60 N Z5v p1 r31 nn9) vB6)=some r∧Fr ⟨128,dsA2⟩ [(2,.pointer (some ⟨b29,0,none⟩)),(3,.pointer (some ⟨b30,0,none⟩)),(4,.map (some m33)),(101,.slice oa24 p1.Claims.length cap25),(102,i6 (p1.Claims.length:Int)),(103,i6 vB6)] a∧St w0 Nil [HA1] [blk b29 (.cells [i6 0].toArray 29 (0,0)),blk b30 (.cells [i6 0].toArray 3 (0,0)),gmap kS m33 l34 c35,dsA dsA2] w) ?_ ?_
 refine wb<|th<|?_
 obtain ⟨x222,h223,hm⟩:=bs hm
 obtain ⟨c224,g225,hl226⟩:=SR.get hr27 h223
 obtain ⟨oa227,cap228,rfl,hc229,hr230⟩:=api_Claim_open g225
 refine rg<|qv o (e_iaI o Tryz.runUnderlying25 Tryz.sizeOf74 rfl rfl h223 (SR.oaI hr27 (by decide) h223)) fun a o=>qv o (e_ldA o isAgg74 sizeOf74 rfl rfl (fun j v hj=>PH.le.cell (fun b o hx=>(Lds.le (St.ld u)) b o ((cp (cp (cp hxHA1.sub hx105.sub) hx74.sub) hx45.sub) b o hx)) (hl226 j v hj))) fun a o=>ls<|a_alloc (cs:=[.slice none 0 0,i6 0].toArray) o rfl u zeroValue74 rfl fun b231 w a u o=>ls<|s_blkA o u sizeOf74 rfl rfl rfl rfl (one_cells rfl) .head fun w u=>re<|tn<|th<|rg<|qv o (e_fa o fa74_0 rfl) fun a o=>qv o (e_ld o isAgg49 rfl ((St.ld u).cellB t0 rfl)) fun a o=>qv o (e_lenL (α:=api_Node) (xs:=x222.E) o runUnderlying49 rfl) fun a o=>qm o rfl fun a o=>re<|?_
 replace u:=u.pk [1,1,1,1] rfl
 refine tn<|wb<|lp (α:=Nat×Int) (fun gh a w=>match gh with | (nn11,vD1)=>(Z5w N (Z5s (Z60 N Z5v p1 r31 nn9) vB6) r31 x222) nn11 vD1=some r∧Fr ⟨128,dsA2⟩ [(2,.pointer (some ⟨b29,0,none⟩)),(3,.pointer (some ⟨b30,0,none⟩)),(4,.map (some m33)),(101,.slice oa24 p1.Claims.length cap25),(102,i6 (p1.Claims.length:Int)),(103,i6 vB6),(108,.slice oa227 x222.E.length cap228),(109,i6 (x222.E.length:Int)),(110,i6 vD1)] a∧St w0 Nil [HA1] [blk b29 (.cells [i6 0].toArray 29 (0,0)),blk b30 (.cells [i6 0].toArray 3 (0,0)),gmap kS m33 l34 c35,dsA dsA2] w) (fun gh=>gh.1) (N,0) ⟨hm,o.hs,u⟩ ?_
 rintro ⟨nn11,vD1⟩ a w ⟨hm,o,u⟩
 obtain _ | nn11:=nn11
 simp [Z5w] at hm
 rw [Z5w] at hm
 refine th<|rg<|qv o (e_lss o rfl rfl) fun a o=>re<|?_
 rcases bdich (decide (vD1 < (x222.E.length:Int))) with hb232 | hb232
 replace hm:=itp_t hm hb232
 refine tn<|th<|ctv o rfl hb232<|wk<|tn<|th<|wb<|th<|?_
 obtain ⟨x233,h234,hm⟩:=bs hm
 obtain ⟨c235,g236,hl237⟩:=SR.get hr230 h234
 obtain rfl:=api_Node_open g236
 refine rg<|qv o (e_iaI o Tryz.runUnderlying49 Tryz.sizeOf90 rfl rfl h234 (SR.oaI hr230 (by decide) h234)) fun a o=>qv o (e_ldA o isAgg90 sizeOf90 rfl rfl (fun j v hj=>PH.le.cell (fun b o hx=>(Lds.le (St.ld u)) b o ((cp (cp (cp hxHA1.sub hx105.sub) hx74.sub) hx45.sub) b o hx)) (hl237 j v hj))) fun a o=>ls<|a_alloc (cs:=[i6 0,i6 0,strv [],i6 0].toArray) o rfl u zeroValue90 rfl fun b238 w a u o=>ls<|s_blkA o u sizeOf90 rfl rfl rfl rfl (one_cells rfl) .head fun w u=>re<|tn<|th<|rg<|qv o (e_fa o fa90_0 rfl) fun a o=>qv o (e_ld o isAgg3 rfl ((St.ld u).cellB t0 rfl)) fun a o=>qv o (e_eql o rfl rfl) fun a o=>qm o rfl fun a o=>grp (N:=⟨128,dsA2⟩) (Fk:=[(2,.pointer (some ⟨b29,0,none⟩)),(3,.pointer (some ⟨b30,0,none⟩)),(4,.map (some m33)),(23,.pointer (some ⟨b238,0,none⟩)),(101,.slice oa24 p1.Claims.length cap25),(102,i6 (p1.Claims.length:Int)),(103,i6 vB6),(108,.slice oa227 x222.E.length cap228),(109,i6 (x222.E.length:Int)),(110,i6 vD1),(123,.bool ((decide (x233.Op=2)) && (decide (((plook x233.Name r31.1).getD 0)≠1))))]) (b:=(decide (x233.Op=2))) 6 u ?_ ?_ ?_
 intro hb key
 replace o:=Fr.as o (t:=117) rfl (congrArg Value.bool hb)
 refine qg o (e_move o rfl) fun a o=>qg o (e_fa o fa90_2 rfl) fun a o=>qg o (e_ld o isAgg9 rfl ((St.ld u).cellB t0 rfl)) fun a o=>qg o (e_lookM (ev:=kI) (dv:=0) (m:=r31.1) (k:=x233.Name) o key9 runUnderlying75 zeroValue3 (Lds.mapO (St.ld u) t3) rfl rfl hm36) fun a o=>qg o (e_neq o rfl rfl) fun a o=>qv o (e_as (v':=.bool ((decide (x233.Op=2)) && (decide (((plook x233.Name r31.1).getD 0)≠1)))) (e_pickT o rfl rfl) (by rw [hb];rfl)) fun a o=>?_
 exact key _ _ (o.hs) u
 intro hb key
 replace o:=Fr.as o (t:=117) rfl (congrArg Value.bool hb)
 iterate 5 refine qn o fun a o=>?_
 refine qv o (e_as (v':=.bool ((decide (x233.Op=2)) && (decide (((plook x233.Name r31.1).getD 0)≠1)))) (e_pickF o rfl rfl) (by rw [hb];rfl)) fun a o=>?_
 exact key _ _ (o.hs) u
 intro a w o u
 refine re<|?_
 rcases bdich ((decide (x233.Op=2)) && (decide (((plook x233.Name r31.1).getD 0)≠1))) with hb239 | hb239
 replace hm:=ite_t hm hb239
 refine tn<|ctv o rfl hb239<|th<|rdL (sub_cons t0 (sub_cons t2 (sub_cons t3 (sub_cons t4 sub_nil)))) 3 u wide fun w u=>ds 0 (St.ldsX u i2 (sub_cons t0 (sub_cons t2 (sub_cons t3 (sub_cons t4 sub_nil))))) o rfl (e_fa o fa90_3 rfl) fun a o=>dq 1 (St.ldsX u i2 (sub_cons t0 (sub_cons t2 (sub_cons t3 (sub_cons t4 sub_nil))))) o rfl (fun w hl=>e_ld o isAgg3 rfl (hl.cellB t0 rfl)) fun a o=>da1 (i:=2) (by kernel_rfl) ?_
 refine di (i:=2) rfl<|s_blk o u sizeOf29 rfl rfl rfl rfl (.tail .head) .zero fun w u=>⟨fun _=>(St.ldsX u i2 (sub_cons t0 (sub_cons t2 (sub_cons t3 (sub_cons t4 sub_nil))))),?_⟩
 refine da1 (i:=3) (by kernel_rfl) ?_
 refine di (i:=3) rfl<|s_blk o u sizeOf3 rfl rfl rfl rfl (.tail (.tail .head)) .zero fun w u=>⟨fun h=>absurd rfl h,?_⟩
 refine de (by kernel_rfl)<|tn<|wr<|br<|tr<|tr<|br<|br<|tr<|tr<|br<|tr<|?_
 obtain rfl:=si hm
 replace u:=u.pk [4,0,0,0,0] rfl
 exact rM (.inl rfl) o u fun w u=>⟨_,res2k o rfl rfl rfl isAgg29 isAgg3 ((St.ld u).cellB t1 rfl) ((St.ld u).cellB t2 rfl),⟨rfl,u.keep⟩⟩
 replace hm:=ite_f hm hb239
 refine tn<|cfv o rfl hb239<|wk<|bn<|tn<|rg<|qv o (e_add o rfl rfl) fun a o=>qm o rfl fun a o=>re<|tn<|?_
 replace u:=u.pk [1,1,1,1] rfl
 exact ⟨(nn11,(IntKind.i64.wrap (vD1+1))),⟨hm,o.hs,u⟩,Nat.lt_succ_self _⟩
 replace hm:=itp_f hm hb232
 refine tn<|th<|cfv o rfl hb232<|we<|tx<|tx<|bx<|bn<|tn<|?_
 exact ⟨hm,o.hs,u⟩
 rintro a w ⟨hm,o,u⟩
 unfold Z5s at hm
 refine rg<|qv o (e_add o rfl rfl) fun a o=>qm o rfl fun a o=>re<|tn<|?_
 exact ⟨(nn9,(IntKind.i64.wrap (vB6+1))),⟨hm,o.hs,u⟩,Nat.lt_succ_self _⟩
 replace hm:=itp_f hm hb221
 refine tn<|th<|cfv o rfl hb221<|we<|tx<|tx<|bx<|tn<|?_
 replace u:=u.pk [0,0,1] rfl
 exact ⟨hm,o.has ⟨rfl,rfl,trivial⟩,u⟩
 rintro a w ⟨hm,o,u⟩
 unfold Z5v at hm
 refine th<|rg<|ls<|s_blk o u Tryz.sizeOf29 rfl rfl rfl rfl .head .zero fun w u=>ls<|s_blk o u sizeOf3 rfl rfl rfl rfl (.tail .head) .zero fun w u=>re<|tn<|wr<|?_
 obtain rfl:=si hm
 replace u:=u.pk [2,0,0] rfl
 exact rM (.inl rfl) o u fun w u=>⟨_,res2k o rfl rfl rfl isAgg29 isAgg3 ((St.ld u).cellB t0 rfl) ((St.ld u).cellB t1 rfl),⟨rfl,u.keep⟩⟩
 replace hm:=ite_f hm hb39
 refine tn<|ctv o rfl (by rw [hb39];rfl)<|th<|rg<|ls<|s_blk o u Tryz.sizeOf29 rfl rfl rfl rfl (.tail (.tail .head)) .zero fun w u=>ls<|s_blk o u sizeOf3 rfl rfl rfl rfl (.tail .head) .zero fun w u=>re<|tn<|wr<|br<|tr<|?_
 obtain rfl:=si hm
 replace u:=u.pk [4,0,0,0,0] rfl
 exact rM (.inl rfl) o u fun w u=>⟨_,res2k o rfl rfl rfl isAgg29 isAgg3 ((St.ld u).cellB t2 rfl) ((St.ld u).cellB t1 rfl),⟨rfl,u.keep⟩⟩
theorem Z25_c (hH:H.le w0) {p1:Int} {r:Bool} (hm:Z25 N p1=some r):Tot Tryz.prog 136 #[.int .u8 p1] w0 (fun v w'=>v=.bool r∧Keep Nil w0 w'):=by
 unfold Z25 at hm
 refine fn0 func136 rfl ntmps136 rfl rfl fun a o=>?_
 have u:St w0 Nil [H] [] w0:=start1 hH
 refine th<|rg<|qa o rfl fun a o=>re<|tn<|th<|rg<|qm o rfl fun a o=>qv o (e_geq o rfl rfl) fun a o=>qm o rfl fun a o=>grp (N:=13) (Fk:=[(0,.int .u8 p1),(8,.bool ((decide (97≤p1)) && (decide (p1≤122))))]) (b:=(decide (97≤p1))) 3 u ?_ ?_ ?_
 intro hb key
 replace o:=Fr.as o (t:=5) rfl (congrArg Value.bool hb)
 refine qg o (e_move o rfl) fun a o=>qg o (e_leq o rfl rfl) fun a o=>qv o (e_as (v':=.bool ((decide (97≤p1)) && (decide (p1≤122)))) (e_pickT o rfl rfl) (by rw [hb];rfl)) fun a o=>?_
 exact key _ _ (o.has ⟨rfl,rfl,trivial⟩) u
 intro hb key
 replace o:=Fr.as o (t:=5) rfl (congrArg Value.bool hb)
 iterate 2 refine qn o fun a o=>?_
 refine qv o (e_as (v':=.bool ((decide (97≤p1)) && (decide (p1≤122)))) (e_pickF o rfl rfl) (by rw [hb];rfl)) fun a o=>?_
 exact key _ _ (o.has ⟨rfl,rfl,trivial⟩) u
 intro a w o u
 refine qm o rfl fun a o=>grp (N:=13) (Fk:=[(12,.bool (((decide (97≤p1)) && (decide (p1≤122))) || (decide (p1=95))))]) (b:=((decide (97≤p1)) && (decide (p1≤122)))) 3 u ?_ ?_ ?_
 intro hb key
 replace o:=Fr.as o (t:=9) rfl (congrArg Value.bool hb)
 iterate 2 refine qn o fun a o=>?_
 refine qv o (e_as (v':=.bool (((decide (97≤p1)) && (decide (p1≤122))) || (decide (p1=95)))) (e_pickT o rfl rfl) (by rw [hb];rfl)) fun a o=>?_
 exact key _ _ (o.has ⟨rfl,trivial⟩) u
 intro hb key
 replace o:=Fr.as o (t:=9) rfl (congrArg Value.bool hb)
 refine qg o (e_move o rfl) fun a o=>qg o (e_eql o rfl rfl) fun a o=>qv o (e_as (v':=.bool (((decide (97≤p1)) && (decide (p1≤122))) || (decide (p1=95)))) (e_pickF o rfl rfl) (by rw [hb];rfl)) fun a o=>?_
 exact key _ _ (o.has ⟨rfl,trivial⟩) u
 intro a w o u
 refine qa o rfl fun a o=>re<|tn<|wr<|?_
 obtain rfl:=si hm
 exact r1 o results136 rfl ⟨rfl,u.keep⟩
theorem Z1j_c (hH:H.le w0) {p1:Str} {r:Bool} (hm:Z1j N p1=some r):Tot Tryz.prog 151 #[strv p1] w0 (fun v w'=>v=.bool r∧Keep Nil w0 w'):=by
 unfold Z1j at hm
 refine fn0 func151 rfl ntmps151 rfl rfl fun a o=>?_
 have u:St w0 Nil [H] [] w0:=start1 hH
 refine th<|rg<|qa o rfl fun a o=>re<|tn<|th<|rg<|ls<|a_bsl (e:=9) (sz:=1) [strv [108,105,110,101],strv [118,111,108],strv [108,111,99,107],strv [116,104,114,101,97,100],strv [114,101,103],strv [108,111,97,100],strv [115,116,111,114,101],strv [99,97,115],strv [102,108,117,115,104],strv [111,112,116],strv [115,102,101,110,99,101],strv [109,102,101,110,99,101],strv [116,97,107,101],strv [103,105,118,101],strv [105,102],strv [101,108,115,101],strv [108,111,111,112],strv [98,114,101,97,107],strv [99,104,101,99,107],strv [114,101,99,111,118,101,114],strv [97,108,119,97,121,115]] o rfl u rfl rfl rfl (fun w=>by kernel_rfl) fun b3 w a u o=>?_
 have hv2:Rows (α:=Str) H [strv [108,105,110,101],strv [118,111,108],strv [108,111,99,107],strv [116,104,114,101,97,100],strv [114,101,103],strv [108,111,97,100],strv [115,116,111,114,101],strv [99,97,115],strv [102,108,117,115,104],strv [111,112,116],strv [115,102,101,110,99,101],strv [109,102,101,110,99,101],strv [116,97,107,101],strv [103,105,118,101],strv [105,102],strv [101,108,115,101],strv [108,111,111,112],strv [98,114,101,97,107],strv [99,104,101,99,107],strv [114,101,99,111,118,101,114],strv [97,108,119,97,121,115]] ([[108,105,110,101],[118,111,108],[108,111,99,107],[116,104,114,101,97,100],[114,101,103],[108,111,97,100],[115,116,111,114,101],[99,97,115],[102,108,117,115,104],[111,112,116],[115,102,101,110,99,101],[109,102,101,110,99,101],[116,97,107,101],[103,105,118,101],[105,102],[101,108,115,101],[108,111,111,112],[98,114,101,97,107],[99,104,101,99,107],[114,101,99,111,118,101,114],[97,108,119,97,121,115]]:List Str):=(.cons (c:=[strv [108,105,110,101]]) rfl (.cons (c:=[strv [118,111,108]]) rfl (.cons (c:=[strv [108,111,99,107]]) rfl (.cons (c:=[strv [116,104,114,101,97,100]]) rfl (.cons (c:=[strv [114,101,103]]) rfl (.cons (c:=[strv [108,111,97,100]]) rfl (.cons (c:=[strv [115,116,111,114,101]]) rfl (.cons (c:=[strv [99,97,115]]) rfl (.cons (c:=[strv [102,108,117,115,104]]) rfl (.cons (c:=[strv [111,112,116]]) rfl (.cons (c:=[strv [115,102,101,110,99,101]]) rfl (.cons (c:=[strv [109,102,101,110,99,101]]) rfl (.cons (c:=[strv [116,97,107,101]]) rfl (.cons (c:=[strv [103,105,118,101]]) rfl (.cons (c:=[strv [105,102]]) rfl (.cons (c:=[strv [101,108,115,101]]) rfl (.cons (c:=[strv [108,111,111,112]]) rfl (.cons (c:=[strv [98,114,101,97,107]]) rfl (.cons (c:=[strv [99,104,101,99,107]]) rfl (.cons (c:=[strv [114,101,99,111,118,101,114]]) rfl (.cons (c:=[strv [97,108,119,97,121,115]]) rfl .nil)))))))))))))))))))))
 refine qa o rfl fun a o=>re<|tn<|th<|th<|rg<|qa o rfl fun a o=>re<|tn<|midK (fun a w=>Z1k=some r∧Fr 18 [] a∧St w0 Nil [H] [] w) ?_ ?_
 refine wb<|lp (α:=Nat×Int) (fun gh a w=>match gh with | (nn2,vB1)=>(Z1l N Z1k p1) nn2 vB1=some r∧Fr 18 [(0,strv p1),(3,.slice (some ⟨b3,0,none⟩) ([[108,105,110,101],[118,111,108],[108,111,99,107],[116,104,114,101,97,100],[114,101,103],[108,111,97,100],[115,116,111,114,101],[99,97,115],[102,108,117,115,104],[111,112,116],[115,102,101,110,99,101],[109,102,101,110,99,101],[116,97,107,101],[103,105,118,101],[105,102],[101,108,115,101],[108,111,111,112],[98,114,101,97,107],[99,104,101,99,107],[114,101,99,111,118,101,114],[97,108,119,97,121,115]]:List Str).length 21),(4,i6 vB1)] a∧St w0 Nil [H] [sla 9 1 (some ⟨b3,0,none⟩) ([[108,105,110,101],[118,111,108],[108,111,99,107],[116,104,114,101,97,100],[114,101,103],[108,111,97,100],[115,116,111,114,101],[99,97,115],[102,108,117,115,104],[111,112,116],[115,102,101,110,99,101],[109,102,101,110,99,101],[116,97,107,101],[103,105,118,101],[105,102],[101,108,115,101],[108,111,111,112],[98,114,101,97,107],[99,104,101,99,107],[114,101,99,111,118,101,114],[97,108,119,97,121,115]]:List Str).length 21 [strv [108,105,110,101],strv [118,111,108],strv [108,111,99,107],strv [116,104,114,101,97,100],strv [114,101,103],strv [108,111,97,100],strv [115,116,111,114,101],strv [99,97,115],strv [102,108,117,115,104],strv [111,112,116],strv [115,102,101,110,99,101],strv [109,102,101,110,99,101],strv [116,97,107,101],strv [103,105,118,101],strv [105,102],strv [101,108,115,101],strv [108,111,111,112],strv [98,114,101,97,107],strv [99,104,101,99,107],strv [114,101,99,111,118,101,114],strv [97,108,119,97,121,115]]] w) (fun gh=>gh.1) (N,0) ⟨hm,o.hs,u⟩ ?_
 rintro ⟨nn2,vB1⟩ a w ⟨hm,o,u⟩
 obtain _ | nn2:=nn2
 simp [Z1l] at hm
 rw [Z1l] at hm
 refine th<|th<|rg<|qm o rfl fun a o=>qm o rfl fun a o=>qv o (e_lenL (α:=Str) (xs:=([[108,105,110,101],[118,111,108],[108,111,99,107],[116,104,114,101,97,100],[114,101,103],[108,111,97,100],[115,116,111,114,101],[99,97,115],[102,108,117,115,104],[111,112,116],[115,102,101,110,99,101],[109,102,101,110,99,101],[116,97,107,101],[103,105,118,101],[105,102],[101,108,115,101],[108,111,111,112],[98,114,101,97,107],[99,104,101,99,107],[114,101,99,111,118,101,114],[97,108,119,97,121,115]]:List Str)) o runUnderlying36 rfl) fun a o=>qv o (e_lss o rfl rfl) fun a o=>re<|?_
 rcases bdich (decide (vB1 < (([[108,105,110,101],[118,111,108],[108,111,99,107],[116,104,114,101,97,100],[114,101,103],[108,111,97,100],[115,116,111,114,101],[99,97,115],[102,108,117,115,104],[111,112,116],[115,102,101,110,99,101],[109,102,101,110,99,101],[116,97,107,101],[103,105,118,101],[105,102],[101,108,115,101],[108,111,111,112],[98,114,101,97,107],[99,104,101,99,107],[114,101,99,111,118,101,114],[97,108,119,97,121,115]]:List Str).length:Int))) with hb5 | hb5
 replace hm:=itp_t hm hb5
 refine tn<|ctv o rfl hb5<|wk<|tn<|th<|wb<|th<|?_
 obtain ⟨xz6,h7,hm⟩:=bs hm
 have ho8:=Rd.oaI (u.rdO t0) hv2 (by decide) h7
 obtain ⟨cz9,g10,hl11⟩:=Rows.getI hv2 h7
 obtain rfl:cz9=[strv xz6]:=g10
 refine rg<|qm o rfl fun a o=>qm o rfl fun a o=>qv o (e_iaI o runUnderlying36 sizeOf9 rfl rfl h7 ho8) fun a o=>qv o (e_ld o isAgg9 rfl ((St.ld u).elO t0 (hl11 0 _ rfl))) fun a o=>qm o rfl fun a o=>qv o (e_eqlU (m:=xz6) (n:=p1) o rfl rfl) fun a o=>re<|?_
 rcases bdich (decide (xz6=p1)) with hb12 | hb12
 replace hm:=itp_t hm hb12
 refine tn<|ctv o rfl hb12<|th<|rg<|qa o rfl fun a o=>re<|tn<|wr<|br<|tr<|tr<|br<|tr<|?_
 obtain rfl:=si hm
 exact r1 o results151 rfl ⟨rfl,u.keep⟩
 replace hm:=itp_f hm hb12
 refine tn<|cfv o rfl hb12<|wk<|bn<|tn<|rg<|qm o rfl fun a o=>qv o (e_add o rfl rfl) fun a o=>qa o rfl fun a o=>re<|tn<|?_
 exact ⟨(nn2,(IntKind.i64.wrap (vB1+1))),⟨hm,o.hs,u⟩,Nat.lt_succ_self _⟩
 replace hm:=itp_f hm hb5
 refine tn<|cfv o rfl hb5<|we<|tx<|tx<|bx<|tn<|?_
 replace u:=u.pickL .nil
 exact ⟨hm,o.has trivial,u⟩
 rintro a w ⟨hm,o,u⟩
 unfold Z1k at hm
 refine th<|rg<|qa o rfl fun a o=>re<|tn<|wr<|?_
 obtain rfl:=si hm
 exact r1 o results151 rfl ⟨rfl,u.keep⟩
theorem Z24_c (hH:H.le w0) {p1:Int} {r:Bool} (hm:Z24 N p1=some r):Tot Tryz.prog 137 #[.int .u8 p1] w0 (fun v w'=>v=.bool r∧Keep Nil w0 w'):=by
 unfold Z24 at hm
 refine fn0 func137 rfl ntmps137 rfl rfl fun a o=>?_
 have u:St w0 Nil [H] [] w0:=start1 hH
 refine th<|rg<|qa o rfl fun a o=>re<|tn<|th<|rg<|qm o rfl fun a o=>qv o (e_geq o rfl rfl) fun a o=>qm o rfl fun a o=>grp (N:=9) (Fk:=[(8,.bool ((decide (48≤p1)) && (decide (p1≤57))))]) (b:=(decide (48≤p1))) 3 u ?_ ?_ ?_
 intro hb key
 replace o:=Fr.as o (t:=5) rfl (congrArg Value.bool hb)
 refine qg o (e_move o rfl) fun a o=>qg o (e_leq o rfl rfl) fun a o=>qv o (e_as (v':=.bool ((decide (48≤p1)) && (decide (p1≤57)))) (e_pickT o rfl rfl) (by rw [hb];rfl)) fun a o=>?_
 exact key _ _ (o.has ⟨rfl,trivial⟩) u
 intro hb key
 replace o:=Fr.as o (t:=5) rfl (congrArg Value.bool hb)
 iterate 2 refine qn o fun a o=>?_
 refine qv o (e_as (v':=.bool ((decide (48≤p1)) && (decide (p1≤57)))) (e_pickF o rfl rfl) (by rw [hb];rfl)) fun a o=>?_
 exact key _ _ (o.has ⟨rfl,trivial⟩) u
 intro a w o u
 refine qa o rfl fun a o=>re<|tn<|wr<|?_
 obtain rfl:=si hm
 exact r1 o results137 rfl ⟨rfl,u.keep⟩
end Go.LM.LB
