/- Walks, lifted by program. No condition beyond the theorems' own premises. -/
import Derived.Test.YtgdkaddhhpgeiaaGreatDoorLBB
import Derived.Test.YtgdkaddhhpgeiaaGreatDoorLZ
namespace Go.LM.LB
open Go Go.LL Go.MD Go.LM Go.Proofs Go.MD.LB Go.Proofs.Tryz
set_option maxRecDepth 100000
variable {N:Nat} {w0:World} {H:PH}
theorem Z11_c (hH:H.le w0) {oa2:Option Addr} {cap3:Nat} {p1:(List api_Node)} (_:p1.length≤cap3) (hr5:SR H oa2 p1) {r:(List api_Node)} (hm:Z11 N p1=some r):Tot Tryz.prog 48 #[.slice oa2 p1.length cap3] w0 (fun v w'=>∃ (oa0:Option Addr) (cap0:Nat) (vs0:List Value),v=.slice oa0 r.length cap0∧(∀ h,Rows h vs0 r)∧Fresh w0 (sla 90 4 oa0 r.length cap0 vs0) w'):=by
 unfold Z11 at hm
 refine fn0 func48 rfl ntmps48 rfl rfl fun a o=>?_
 have u:St w0 Nil [H] [] w0:=start1 hH
 refine th<|rg<|qa o rfl fun a o=>re<|tn<|th<|rg<|ls<|a_bsl (e:=90) (sz:=4) [] o rfl u rfl rfl rfl (fun w=>by kernel_rfl) fun b7 w a u o=>?_
 have hv6:Rows (α:=api_Node) H [] []:=.nil
 refine qa o rfl fun a o=>re<|tn<|th<|th<|rg<|qa o rfl fun a o=>re<|tn<|midK (fun a w=>∃ (vA1:(List api_Node)) (oaA2:Option Addr) (capA3:Nat) (vsA4:List Value),Z12 vA1=some r∧Fr 34 [(3,.slice oaA2 vA1.length capA3)] a∧St w0 Nil [H] [sla 90 4 oaA2 vA1.length capA3 vsA4] w∧Rows H vsA4 vA1) ?_ ?_
 refine wb<|lp (α:=Nat×(List api_Node)×Int) (fun gh a w=>match gh with | (nn2,vB1,vB7)=>∃ (oaB2:Option Addr) (capB3:Nat) (vsB4:List Value),(Z13 N Z12 p1) nn2 vB1 vB7=some r∧Fr 34 [(0,.slice oa2 p1.length cap3),(3,.slice oaB2 vB1.length capB3),(4,i6 vB7)] a∧St w0 Nil [H] [sla 90 4 oaB2 vB1.length capB3 vsB4] w∧Rows H vsB4 vB1) (fun gh=>gh.1) (N,[],0) ⟨(some ⟨b7,0,none⟩),0,[],hm,o.hs,u,hv6⟩ ?_
 rintro ⟨nn2,vB1,vB7⟩ a w ⟨oaB2,capB3,vsB4,hm,o,u,hvB5⟩
 obtain _ | nn2:=nn2
 simp [Z13] at hm
 rw [Z13] at hm
 refine th<|th<|rg<|qm o rfl fun a o=>qm o rfl fun a o=>qv o (e_lenL (α:=api_Node) (xs:=p1) o runUnderlying49 rfl) fun a o=>qv o (e_lss o rfl rfl) fun a o=>qm o rfl fun a o=>grp (N:=34) (Fk:=[(0,.slice oa2 p1.length cap3),(3,.slice oaB2 vB1.length capB3),(4,i6 vB7),(14,.bool ((decide (vB7 < (p1.length:Int))) && (decide (vB7 < 60))))]) (b:=(decide (vB7 < (p1.length:Int)))) 3 u ?_ ?_ ?_
 intro hb key
 replace o:=Fr.as o (t:=11) rfl (congrArg Value.bool hb)
 refine qg o (e_move o rfl) fun a o=>qg o (e_lss o rfl rfl) fun a o=>qv o (e_as (v':=.bool ((decide (vB7 < (p1.length:Int))) && (decide (vB7 < 60)))) (e_pickT o rfl rfl) (by rw [hb];rfl)) fun a o=>?_
 exact key _ _ (o.hs) u
 intro hb key
 replace o:=Fr.as o (t:=11) rfl (congrArg Value.bool hb)
 iterate 2 refine qn o fun a o=>?_
 refine qv o (e_as (v':=.bool ((decide (vB7 < (p1.length:Int))) && (decide (vB7 < 60)))) (e_pickF o rfl rfl) (by rw [hb];rfl)) fun a o=>?_
 exact key _ _ (o.hs) u
 intro a w o u
 refine re<|?_
 rcases bdich ((decide (vB7 < (p1.length:Int))) && (decide (vB7 < 60))) with hb9 | hb9
 replace hm:=ite_t hm hb9
 refine tn<|ctv o rfl hb9<|wk<|tn<|th<|wb<|th<|?_
 obtain ⟨x10,h11,hm⟩:=bs hm
 obtain ⟨c12,g13,hl14⟩:=SR.get hr5 h11
 obtain rfl:=api_Node_open g13
 refine rg<|qm o rfl fun a o=>qm o rfl fun a o=>qv o (e_iaI o runUnderlying49 sizeOf90 rfl rfl h11 (SR.oaI hr5 (by decide) h11)) fun a o=>qv o (e_ldA o isAgg90 sizeOf90 rfl rfl (fun j v hj=>PH.le.cell (Lds.le (St.ld u)) (hl14 j v hj))) fun a o=>ls<|a_alloc (cs:=[i6 0,i6 0,strv [],i6 0].toArray) o rfl u zeroValue90 rfl fun b15 w a u o=>ls<|s_blkA o u sizeOf90 rfl rfl rfl rfl (one_cells rfl) .head fun w u=>re<|tn<|th<|?_
 obtain ⟨s16,h17,hm⟩:=bs hm
 refine rg<|qv o (e_fa o fa90_2 rfl) fun a o=>qv o (e_ld o isAgg9 rfl ((St.ld u).cellB t0 rfl)) fun a o=>qv o (e_fa o fa90_2 rfl) fun a o=>qv o (e_ld o isAgg9 rfl ((St.ld u).cellB t0 rfl)) fun a o=>qv o (e_lenU (s:=x10.Name) o runUnderlying9 rfl) fun a o=>qv o (e_min o rfl rfl) fun a o=>qv o (e_subU (s:=x10.Name) (vl:=0) (vh:=(min (x10.Name.length:Int) 40)) o runUnderlying9 rfl rfl rfl h17) fun a o=>qv o (e_fa o fa90_2 rfl) fun a o=>ls<|s_blk o u sizeOf9 rfl rfl rfl rfl .head (.succ (.succ .zero)) fun w u=>re<|tn<|?_
 obtain ⟨l21,h22,hm⟩:=bs hm
 refine rg<|qm o rfl fun a o=>qv o (e_ldA o isAgg90 sizeOf90 rfl rfl ((St.ld u).cellsB t0)) fun a o=>ls<|a_bsl (e:=90) (sz:=4) [i6 x10.Op,i6 x10.N,strv s16,i6 x10.At] o rfl u rfl rfl rfl (fun w=>by kernel_rfl) fun b19 w a u o=>?_
 have hv18:Rows (α:=api_Node) H [i6 x10.Op,i6 x10.N,strv s16,i6 x10.At] ([(api_Node.mk x10.Op x10.N s16 x10.At)]:List api_Node):=(.cons (c:=[i6 x10.Op,i6 x10.N,strv s16,i6 x10.At]) ⟨_,_,rfl,rfl,⟨_,_,rfl,rfl,⟨_,_,rfl,rfl,rfl⟩⟩⟩ .nil)
 refine ls<|m_app (α:=api_Node) (xs:=vB1) (ys:=([(api_Node.mk x10.Op x10.N s16 x10.At)]:List api_Node)) o rfl u underlying49 info90 rfl (by decide) rfl rfl rfl t2 hvB5 (u.rdO t0) hv18 h22 fun oa23 cap24 vs25 w a hv26 hU o=>?_
 replace u:=hU _ (.tail (.tail .head))
 replace u:=u.drop .head
 refine qa o rfl fun a o=>re<|bn<|tn<|rg<|qm o rfl fun a o=>qv o (e_add o rfl rfl) fun a o=>qa o rfl fun a o=>re<|tn<|?_
 replace u:=u.pk [1] rfl
 exact ⟨(nn2,l21,(IntKind.i64.wrap (vB7+1))),⟨oa23,cap24,vs25,hm,o.hs,u,hv26⟩,Nat.lt_succ_self _⟩
 replace hm:=ite_f hm hb9
 refine tn<|cfv o rfl hb9<|we<|tx<|tx<|bx<|tn<|?_
 exact ⟨vB1,oaB2,capB3,vsB4,hm,o.has ⟨rfl,trivial⟩,u,hvB5⟩
 rintro a w ⟨vA1,oaA2,capA3,vsA4,hm,o,u,hvA5⟩
 unfold Z12 at hm
 refine th<|rg<|qm o rfl fun a o=>qa o rfl fun a o=>re<|tn<|wr<|?_
 obtain rfl:=si hm
 exact r1 o results48 rfl ⟨_,_,_,rfl,(fun _=>Rows.ind hvA5),u.endFresh t0⟩
theorem Z14_c (hH:H.le w0) {oa2:Option Addr} {cap3:Nat} {p1:(List api_Stmt)} (_:p1.length≤cap3) (hr5:SR H oa2 p1) {r:(List api_Stmt)} (hm:Z14 N p1=some r):Tot Tryz.prog 43 #[.slice oa2 p1.length cap3] w0 (fun v w'=>∃ (H':PH) (oa0:Option Addr) (cap0:Nat),v=.slice oa0 r.length cap0∧r.length≤cap0∧SR H' oa0 r∧Ext w0 H H'∧H'.le w'∧Keep Nil w0 w'):=by
 unfold Z14 at hm
 refine fn0 func43 rfl ntmps43 rfl rfl fun a o=>?_
 have u:St w0 Nil [H] [] w0:=start1 hH
 refine th<|rg<|qa o rfl fun a o=>re<|tn<|th<|rg<|ls<|a_bsl (e:=51) (sz:=9) [] o rfl u rfl rfl rfl (fun w=>by kernel_rfl) fun b7 w a u o=>?_
 have hv6:Rows (α:=api_Stmt) H [] []:=.nil
 refine qa o rfl fun a o=>re<|tn<|th<|th<|rg<|qa o rfl fun a o=>re<|tn<|midK (fun a w=>∃ (vA2:(List api_Stmt)) (HA1:PH) (oaA3:Option Addr) (capA4:Nat) (vsA5:List Value),Z15 vA2=some r∧Ext w0 H HA1∧Fr 50 [(3,.slice oaA3 vA2.length capA4)] a∧St w0 Nil [HA1] [sla 51 9 oaA3 vA2.length capA4 vsA5] w∧Rows HA1 vsA5 vA2) ?_ ?_
 refine wb<|lp (α:=Nat×(List api_Stmt)×Int) (fun gh a w=>match gh with | (nn2,vB2,vB8)=>∃ (HB1:PH) (oaB3:Option Addr) (capB4:Nat) (vsB5:List Value),(Z16 N Z15 p1) nn2 vB2 vB8=some r∧Ext w0 H HB1∧Fr 50 [(0,.slice oa2 p1.length cap3),(3,.slice oaB3 vB2.length capB4),(4,i6 vB8)] a∧St w0 Nil [HB1] [sla 51 9 oaB3 vB2.length capB4 vsB5] w∧Rows HB1 vsB5 vB2) (fun gh=>gh.1) (N,[],0) ⟨H,(some ⟨b7,0,none⟩),0,[],hm,(Ext.refl _ _),o.hs,u,hv6⟩ ?_
 rintro ⟨nn2,vB2,vB8⟩ a w ⟨HB1,oaB3,capB4,vsB5,hm,hxHB1,o,u,hvB6⟩
 obtain _ | nn2:=nn2
 simp [Z16] at hm
 rw [Z16] at hm
 refine th<|th<|rg<|qm o rfl fun a o=>qm o rfl fun a o=>qv o (e_lenL (α:=api_Stmt) (xs:=p1) o runUnderlying46 rfl) fun a o=>qv o (e_lss o rfl rfl) fun a o=>qm o rfl fun a o=>grp (N:=50) (Fk:=[(0,.slice oa2 p1.length cap3),(3,.slice oaB3 vB2.length capB4),(4,i6 vB8),(14,.bool ((decide (vB8 < (p1.length:Int))) && (decide (vB8 < 50))))]) (b:=(decide (vB8 < (p1.length:Int)))) 3 u ?_ ?_ ?_
 intro hb key
 replace o:=Fr.as o (t:=11) rfl (congrArg Value.bool hb)
 refine qg o (e_move o rfl) fun a o=>qg o (e_lss o rfl rfl) fun a o=>qv o (e_as (v':=.bool ((decide (vB8 < (p1.length:Int))) && (decide (vB8 < 50)))) (e_pickT o rfl rfl) (by rw [hb];rfl)) fun a o=>?_
 exact key _ _ (o.hs) u
 intro hb key
 replace o:=Fr.as o (t:=11) rfl (congrArg Value.bool hb)
 iterate 2 refine qn o fun a o=>?_
 refine qv o (e_as (v':=.bool ((decide (vB8 < (p1.length:Int))) && (decide (vB8 < 50)))) (e_pickF o rfl rfl) (by rw [hb];rfl)) fun a o=>?_
 exact key _ _ (o.hs) u
 intro a w o u
 refine re<|?_
 rcases bdich ((decide (vB8 < (p1.length:Int))) && (decide (vB8 < 50))) with hb9 | hb9
 replace hm:=ite_t hm hb9
 refine tn<|ctv o rfl hb9<|wk<|tn<|th<|wb<|th<|?_
 obtain ⟨x10,h11,hm⟩:=bs hm
 obtain ⟨c12,g13,hl14⟩:=SR.get hr5 h11
 obtain ⟨oa15,cap16,oa19,cap20,rfl,hc17,hr18,hc21,hr22⟩:=api_Stmt_open g13
 refine rg<|qm o rfl fun a o=>qm o rfl fun a o=>qv o (e_iaI o runUnderlying46 sizeOf51 rfl rfl h11 (SR.oaI hr5 (by decide) h11)) fun a o=>qv o (e_ldA o isAgg51 sizeOf51 rfl rfl (fun j v hj=>PH.le.cell (fun b o hx=>(Lds.le (St.ld u)) b o (hxHB1.sub b o hx)) (hl14 j v hj))) fun a o=>ls<|a_alloc (cs:=[i6 0,strv [],strv [],.slice none 0 0,.slice none 0 0,i6 0,i6 0,i6 0,i6 0].toArray) o rfl u zeroValue51 rfl fun b23 w a u o=>ls<|s_blkA o u sizeOf51 rfl rfl rfl rfl (one_cells rfl) .head fun w u=>re<|tn<|th<|?_
 obtain ⟨s24,h25,hm⟩:=bs hm
 refine rg<|qv o (e_fa o fa51_1 rfl) fun a o=>qv o (e_ld o isAgg9 rfl ((St.ld u).cellB t0 rfl)) fun a o=>qv o (e_fa o fa51_1 rfl) fun a o=>qv o (e_ld o isAgg9 rfl ((St.ld u).cellB t0 rfl)) fun a o=>qv o (e_lenU (s:=x10.Reg) o runUnderlying9 rfl) fun a o=>qv o (e_min o rfl rfl) fun a o=>qv o (e_subU (s:=x10.Reg) (vl:=0) (vh:=(min (x10.Reg.length:Int) 40)) o runUnderlying9 rfl rfl rfl h25) fun a o=>qv o (e_fa o fa51_1 rfl) fun a o=>ls<|s_blk o u sizeOf9 rfl rfl rfl rfl .head (.succ .zero) fun w u=>re<|tn<|th<|?_
 obtain ⟨s26,h27,hm⟩:=bs hm
 refine rg<|qv o (e_fa o fa51_2 rfl) fun a o=>qv o (e_ld o isAgg9 rfl ((St.ld u).cellB t0 rfl)) fun a o=>qv o (e_fa o fa51_2 rfl) fun a o=>qv o (e_ld o isAgg9 rfl ((St.ld u).cellB t0 rfl)) fun a o=>qv o (e_lenU (s:=x10.Name) o runUnderlying9 rfl) fun a o=>qv o (e_min o rfl rfl) fun a o=>qv o (e_subU (s:=x10.Name) (vl:=0) (vh:=(min (x10.Name.length:Int) 40)) o runUnderlying9 rfl rfl rfl h27) fun a o=>qv o (e_fa o fa51_2 rfl) fun a o=>ls<|s_blk o u sizeOf9 rfl rfl rfl rfl .head (.succ (.succ .zero)) fun w u=>re<|tn<|th<|?_
 obtain ⟨r28,h29,hm⟩:=bs hm
 refine rg<|qv o (e_fa o fa51_3 rfl) fun a o=>qv o (e_ld o isAgg49 rfl ((St.ld u).cellB t0 rfl)) fun a o=>ls<|c1 o rfl call48 (Z11_c (hp_le _) hc17 (St.srH u (hr18.mono hxHB1.sub)) h29) ⟨rfl,trivial⟩ (fun v w a hR o=>?_)
 obtain ⟨oa30,cap31,vs32,rfl,hv33,hk⟩:=hR
 replace u:=u.fresh hk
 replace hv33:=hv33 HB1
 refine qv o (e_fa o fa51_3 rfl) fun a o=>ls<|s_blk o u sizeOf49 rfl rfl rfl rfl (.tail .head) (.succ (.succ (.succ .zero))) fun w u=>re<|tn<|th<|?_
 obtain ⟨r35,h36,hm⟩:=bs hm
 refine rg<|qv o (e_fa o fa51_4 rfl) fun a o=>qv o (e_ld o isAgg49 rfl ((St.ld u).cellB t1 rfl)) fun a o=>ls<|c1 o rfl call48 (Z11_c (hp_le _) hc21 (St.srH u (hr22.mono hxHB1.sub)) h36) ⟨rfl,trivial⟩ (fun v w a hR o=>?_)
 obtain ⟨oa37,cap38,vs39,rfl,hv40,hk⟩:=hR
 replace u:=u.fresh hk
 replace hv40:=hv40 HB1
 refine qv o (e_fa o fa51_4 rfl) fun a o=>ls<|s_blk o u sizeOf49 rfl rfl rfl rfl (.tail (.tail .head)) (.succ (.succ (.succ (.succ .zero)))) fun w u=>re<|tn<|?_
 obtain ⟨l53,h54,hm⟩:=bs hm
 refine rg<|qm o rfl fun a o=>qv o (e_ldA o isAgg51 sizeOf51 rfl rfl ((St.ld u).cellsB t2)) fun a o=>?_
 obtain ⟨H45,hx42,hr43,hc44,u⟩:=St.frzS u (.tail .head) hv33
 obtain ⟨H49,hx46,hr47,hc48,u⟩:=St.frzS u .head (hv40.mono hx42.sub)
 refine ls<|a_bsl (e:=51) (sz:=9) [i6 x10.Kind,strv s24,strv s26,.slice oa30 r28.length cap31,.slice oa37 r35.length cap38,i6 x10.N,i6 x10.Body,i6 x10.Else,i6 x10.At] o rfl u rfl rfl rfl (fun w=>by kernel_rfl) fun b51 w a u o=>?_
 have hv50:Rows (α:=api_Stmt) H49 [i6 x10.Kind,strv s24,strv s26,.slice oa30 r28.length cap31,.slice oa37 r35.length cap38,i6 x10.N,i6 x10.Body,i6 x10.Else,i6 x10.At] ([(api_Stmt.mk x10.Kind s24 s26 r28 r35 x10.N x10.Body x10.Else x10.At)]:List api_Stmt):=(.cons (c:=[i6 x10.Kind,strv s24,strv s26,.slice oa30 r28.length cap31,.slice oa37 r35.length cap38,i6 x10.N,i6 x10.Body,i6 x10.Else,i6 x10.At]) ⟨_,_,rfl,rfl,⟨_,_,rfl,rfl,⟨_,_,rfl,rfl,⟨_,_,rfl,⟨_,_,rfl,hc44,(hr43.mono hx46.sub)⟩,⟨_,_,rfl,⟨_,_,rfl,hc48,hr47⟩,⟨_,_,rfl,rfl,⟨_,_,rfl,rfl,⟨_,_,rfl,rfl,rfl⟩⟩⟩⟩⟩⟩⟩⟩ .nil)
 refine ls<|m_app (α:=api_Stmt) (xs:=vB2) (ys:=([(api_Stmt.mk x10.Kind s24 s26 r28 r35 x10.N x10.Body x10.Else x10.At)]:List api_Stmt)) o rfl u underlying46 info51 rfl (by decide) rfl rfl rfl t2 (hvB6.mono (cp hx46.sub hx42.sub)) (u.rdO t0) hv50 h54 fun oa55 cap56 vs57 w a hv58 hU o=>?_
 replace u:=hU _ (.tail (.tail .head))
 replace u:=u.drop .head
 refine qa o rfl fun a o=>re<|bn<|tn<|rg<|qm o rfl fun a o=>qv o (e_add o rfl rfl) fun a o=>qa o rfl fun a o=>re<|tn<|?_
 replace u:=u.pk [1] rfl
 exact ⟨(nn2,l53,(IntKind.i64.wrap (vB8+1))),⟨H49,oa55,cap56,vs57,hm,(Ext.trans hxHB1 (Ext.trans hx42 hx46)),o.hs,u,hv58⟩,Nat.lt_succ_self _⟩
 replace hm:=ite_f hm hb9
 refine tn<|cfv o rfl hb9<|we<|tx<|tx<|bx<|tn<|?_
 exact ⟨vB2,HB1,oaB3,capB4,vsB5,hm,hxHB1,o.has ⟨rfl,trivial⟩,u,hvB6⟩
 rintro a w ⟨vA2,HA1,oaA3,capA4,vsA5,hm,hxHA1,o,u,hvA6⟩
 unfold Z15 at hm
 refine th<|rg<|qm o rfl fun a o=>qa o rfl fun a o=>re<|tn<|wr<|?_
 obtain ⟨H62,hx59,hr60,hc61,u⟩:=St.frzS u .head hvA6
 obtain rfl:=si hm
 exact r1 o results43 rfl ⟨H62,_,_,rfl,hc61,hr60,(Ext.trans hxHA1 hx59),(St.le u),u.keep⟩
theorem Z5n_c (hH:H.le w0) {cs2:List Value} {p1:api_Prog} (g3:Enc.rep H cs2 p1) {r:api_Prog} (hm:Z5n N p1=some r):Tot Tryz.prog 65 #[.agg cs2.toArray] w0 (fun v w'=>∃ (H':PH) (b0:Nat) (cs0:List Value),v=.func (.func 108) #[] #[.pointer (some ⟨b0,0,none⟩)]∧H' b0=some (.cells cs0.toArray 27 (0,0))∧Enc.rep H' cs0 r∧Ext w0 H H'∧H'.le w'∧Keep Nil w0 w'):=by
 unfold Z5n at hm
 refine fn0 func65 rfl ntmps65 rfl rfl fun a o=>?_
 have u:St w0 Nil [H] [] w0:=start1 hH
 obtain ⟨oa4,cap5,oa8,cap9,oa12,cap13,oa16,cap17,oa20,cap21,oa24,cap25,rfl,hc6,hr7,hc10,hr11,hc14,hr15,hc18,hr19,hc22,hr23,hc26,hr27⟩:=api_Prog_open g3
 refine th<|rg<|ls<|a_box (cs:=[.slice oa4 p1.Lines.length cap5,.slice oa8 p1.Vols.length cap9,.slice oa12 p1.Locks.length cap13,.slice oa16 p1.Threads.length cap17,.slice oa20 p1.Recover.length cap21,.slice oa24 p1.Claims.length cap25].toArray) o rfl u rfl rfl fun b28 w a u o=>qa o rfl fun a o=>re<|tn<|th<|rg<|qv o (e_mkf (vs:=[.pointer (some ⟨b28,0,none⟩)]) o ⟨rfl,trivial⟩) fun a o=>qa o rfl fun a o=>re<|tn<|wr<|?_
 obtain ⟨H31,hx29,hb30,u⟩:=St.frzB u .head
 obtain rfl:=si hm
 exact r1 o results65 rfl ⟨H31,b28,_,rfl,hb30,(show Enc.rep (α:=api_Prog) H31 [.slice oa4 p1.Lines.length cap5,.slice oa8 p1.Vols.length cap9,.slice oa12 p1.Locks.length cap13,.slice oa16 p1.Threads.length cap17,.slice oa20 p1.Recover.length cap21,.slice oa24 p1.Claims.length cap25] p1 from ⟨_,_,rfl,⟨_,_,rfl,hc6,(hr7.mono hx29.sub)⟩,⟨_,_,rfl,⟨_,_,rfl,hc10,(hr11.mono hx29.sub)⟩,⟨_,_,rfl,⟨_,_,rfl,hc14,(hr15.mono hx29.sub)⟩,⟨_,_,rfl,⟨_,_,rfl,hc18,(hr19.mono hx29.sub)⟩,⟨_,_,rfl,⟨_,_,rfl,hc22,(hr23.mono hx29.sub)⟩,⟨_,_,rfl,hc26,(hr27.mono hx29.sub)⟩⟩⟩⟩⟩⟩),hx29,(St.le u),u.keep⟩
theorem Z5o_c (hH:H.le w0) {τ:Type} {y:τ→(api_Cell×Int)→Option (τ×Bool)} {C:τ→PH→List HA→Prop} {lyl:Nat} (hy:YC Tryz.prog lyl C (fun (H:PH) (args:List Value) (x:api_Cell×Int)=>∃ (cs0:List Value),args=[.agg cs0.toArray,i6 x.2]∧Enc.rep H cs0 x.1) y) (_:∀ s H H' L,(∀ b o,H b=some o→H' b=some o)→C s H L→C s H' L) {s0:τ} {Lc:List HA} (hC:C s0 H Lc) {cs3:List Value} {y2:api_Prog} (g4:Enc.rep H cs3 y2) {b1:Nat} (hb5:H b1=some (.cells cs3.toArray 27 (0,0))) (hO:(sepA [sepA Lc]).ok (hp w0)) (hD:∀ b,(sepA [sepA Lc]).fp b→H b=none) {r:τ} (hm:Z5o N y s0 y2=some r):Tot Tryz.prog 108 #[.func (.yield lyl) #[] #[],.pointer (some ⟨b1,0,none⟩)] w0 (fun v w'=>∃ (H':PH) (Lcq:List HA),v=.tuple #[]∧C r H' Lcq∧ExtM w0 (sepA [sepA Lc]).fp H H'∧H'.le w'∧(∀ b,(sepA [sepA Lcq]).fp b→H' b=none)∧Mut w0 (sepA [sepA Lc]) (sepA [sepA Lcq]) w'):=by
 unfold Z5o at hm
 refine fn0 func108 rfl ntmps108 rfl rfl fun a o=>?_
 have u:=startM hH hO hD
 obtain ⟨oa6,cap7,oa10,cap11,oa14,cap15,oa18,cap19,oa22,cap23,oa26,cap27,rfl,hc8,hr9,hc12,hr13,hc16,hr17,hc20,hr21,hc24,hr25,hc28,hr29⟩:=api_Prog_open g4
 refine th<|th<|rg<|qv o (e_fa o fa27_0 rfl) fun a o=>qv o (e_ld o isAgg22 rfl (PH.le.cell (Lds.le (St.ld u)) (ph_cell hb5 rfl))) fun a o=>qv o (e_lenL (α:=(List api_Cell)) (xs:=y2.Lines) o runUnderlying22 rfl) fun a o=>qm o rfl fun a o=>re<|tn<|midK (fun a w=>∃ (vA2:τ) (HA1:PH) (LcA3:List HA),(Z5p N y y2) vA2=some r∧ExtM w0 (sepA [sepA Lc]).fp H HA1∧Fr 48 [(0,.func (.yield lyl) #[] #[]),(1,.pointer (some ⟨b1,0,none⟩))] a∧St w0 (sepA [sepA Lc]).fp [HA1] [sepA LcA3] w∧C vA2 HA1 LcA3) ?_ ?_
 refine wb<|lp (α:=Nat×Int×τ) (fun gh a w=>match gh with | (nn2,vB2,vB3)=>∃ (HB1:PH) (LcB4:List HA),(Z5r N (Z5p N y y2) y y2) nn2 vB2 vB3=some r∧ExtM w0 (sepA [sepA Lc]).fp H HB1∧Fr 48 [(0,.func (.yield lyl) #[] #[]),(1,.pointer (some ⟨b1,0,none⟩)),(10,.slice oa6 y2.Lines.length cap7),(11,i6 (y2.Lines.length:Int)),(12,i6 vB2)] a∧St w0 (sepA [sepA Lc]).fp [HB1] [sepA LcB4] w∧C vB3 HB1 LcB4) (fun gh=>gh.1) (N,0,s0) ⟨H,Lc,hm,(ExtM.refl _ _ _),o.hs,u,hC⟩ ?_
 rintro ⟨nn2,vB2,vB3⟩ a w ⟨HB1,LcB4,hm,hxHB1,o,u,hCB5⟩
 obtain _ | nn2:=nn2
 simp [Z5r] at hm
 rw [Z5r] at hm
 refine th<|rg<|qv o (e_lss o rfl rfl) fun a o=>re<|?_
 rcases bdich (decide (vB2 < (y2.Lines.length:Int))) with hb30 | hb30
 replace hm:=itp_t hm hb30
 refine tn<|th<|ctv o rfl hb30<|wk<|tn<|th<|midK (fun a w=>∃ (vC2:τ) (HC1:PH) (LcC3:List HA),(Z5q (Z5r N (Z5p N y y2) y y2 nn2) vB2) vC2=some r∧ExtM w0 (sepA [sepA Lc]).fp HB1 HC1∧Fr 48 [(0,.func (.yield lyl) #[] #[]),(1,.pointer (some ⟨b1,0,none⟩)),(10,.slice oa6 y2.Lines.length cap7),(11,i6 (y2.Lines.length:Int)),(12,i6 vB2)] a∧St w0 (sepA [sepA Lc]).fp [HC1] [sepA LcC3] w∧C vC2 HC1 LcC3) ?_ ?_
 refine wb<|th<|?_
 obtain ⟨x31,h32,hm⟩:=bs hm
 obtain ⟨c33,g34,hl35⟩:=SR.get hr9 h32
 obtain ⟨oa36,cap37,rfl,hc38,hr39⟩:=g34
 refine rg<|qm o rfl fun a o=>qv o (e_iaI o runUnderlying22 sizeOf23 rfl rfl h32 (SR.oaI hr9 (by decide) h32)) fun a o=>qv o (e_ld o isAgg23 rfl (PH.le.cell (fun b o hx=>(Lds.le (St.ld u)) b o (hxHB1.sub b o hx)) (hl35 0 _ rfl))) fun a o=>?_
 iterate 2 refine qa o rfl fun a o=>?_
 refine re<|tn<|th<|rg<|qm o rfl fun a o=>qv o (e_lenL (α:=api_Cell) (xs:=x31) o runUnderlying23 rfl) fun a o=>qm o rfl fun a o=>re<|tn<|wb<|lp (α:=Nat×Int×τ) (fun gh a w=>match gh with | (nn4,vD2,vD3)=>∃ (HD1:PH) (LcD4:List HA),(Z5s N (Z5q (Z5r N (Z5p N y y2) y y2 nn2) vB2) y x31 vB2) nn4 vD2 vD3=some r∧ExtM w0 (sepA [sepA Lc]).fp HB1 HD1∧Fr 48 [(0,.func (.yield lyl) #[] #[]),(1,.pointer (some ⟨b1,0,none⟩)),(3,i6 vB2),(10,.slice oa6 y2.Lines.length cap7),(11,i6 (y2.Lines.length:Int)),(12,i6 vB2),(17,.slice oa36 x31.length cap37),(18,i6 (x31.length:Int)),(19,i6 vD2)] a∧St w0 (sepA [sepA Lc]).fp [HD1] [sepA LcD4] w∧C vD3 HD1 LcD4) (fun gh=>gh.1) (N,0,vB3) ⟨HB1,LcB4,hm,(ExtM.refl _ _ _),o.hs,u,hCB5⟩ ?_
 rintro ⟨nn4,vD2,vD3⟩ a w ⟨HD1,LcD4,hm,hxHD1,o,u,hCD5⟩
 obtain _ | nn4:=nn4
 simp [Z5s] at hm
 rw [Z5s] at hm
 refine th<|rg<|qv o (e_lss o rfl rfl) fun a o=>re<|?_
 rcases bdich (decide (vD2 < (x31.length:Int))) with hb40 | hb40
 replace hm:=itp_t hm hb40
 refine tn<|th<|ctv o rfl hb40<|wk<|tn<|th<|wb<|th<|?_
 obtain ⟨x41,h42,hm⟩:=bs hm
 obtain ⟨c43,g44,hl45⟩:=SR.get hr39 h42
 obtain rfl:=api_Cell_open g44
 refine rg<|qv o (e_iaI o Tryz.runUnderlying23 Tryz.sizeOf53 rfl rfl h42 (SR.oaI hr39 (by decide) h42)) fun a o=>qv o (e_ldA o isAgg53 sizeOf53 rfl rfl (fun j v hj=>PH.le.cell (fun b o hx=>(Lds.le (St.ld u)) b o ((cp hxHD1.sub hxHB1.sub) b o hx)) (hl45 j v hj))) fun a o=>ls<|a_alloc (cs:=[strv [],i6 0,i6 0].toArray) o rfl u zeroValue53 rfl fun b46 w a u o=>ls<|s_blkA o u sizeOf53 rfl rfl rfl rfl (one_cells rfl) .head fun w u=>re<|tn<|th<|?_
 obtain ⟨r47,h48,hm⟩:=bs hm
 refine rg<|qm o rfl fun a o=>qv o (e_ldA o isAgg53 sizeOf53 rfl rfl ((St.ld u).cellsB t0)) fun a o=>qm o rfl fun a o=>lsy rfl<|ly (vs:=[.agg #[strv x41.Name,i6 x41.N,i6 x41.At],i6 vB2]) o rfl rfl ⟨rfl,rfl,trivial⟩ hy u t1 hCD5 ⟨[strv x41.Name,i6 x41.N,i6 x41.At],rfl,(show Enc.rep (α:=api_Cell) HD1 [strv x41.Name,i6 x41.N,i6 x41.At] x41 from ⟨_,_,rfl,rfl,⟨_,_,rfl,rfl,rfl⟩⟩)⟩ h48 (fun a w H52 Lc51 hC50 hx49 hU o=>?_)
 replace u:=hU _ (.tail .head)
 refine qv o (e_not o rfl) fun a o=>re<|?_
 rcases bdich r47.2 with hb53 | hb53
 replace hm:=ite_t hm hb53
 refine tn<|cfv o rfl (by rw [hb53];rfl)<|wk<|bn<|tn<|rg<|qv o (e_add o rfl rfl) fun a o=>qm o rfl fun a o=>re<|tn<|?_
 replace u:=u.pk [1] rfl
 exact ⟨(nn4,(IntKind.i64.wrap (vD2+1)),r47.1),⟨H52,Lc51,hm,(ExtM.trans hxHD1 hx49),o.hs,u,hC50⟩,Nat.lt_succ_self _⟩
 replace hm:=ite_f hm hb53
 refine tn<|ctv o rfl (by rw [hb53];rfl)<|wr<|br<|tr<|tr<|br<|br<|tr<|tr<|br<|tr<|?_
 obtain rfl:=si hm
 exact r0 o results108 ⟨H52,Lc51,rfl,hC50,(ExtM.trans hxHB1 (ExtM.trans hxHD1 hx49)),(St.le u),(St.disL (u.pickL (.cons (.tail .head) .nil))),(u.pickL (.cons (.tail .head) .nil)).endMut⟩
 replace hm:=itp_f hm hb40
 refine tn<|th<|cfv o rfl hb40<|we<|tx<|tx<|bx<|bn<|tn<|?_
 exact ⟨vD3,HD1,LcD4,hm,hxHD1,o.hs,u,hCD5⟩
 rintro a w ⟨vC2,HC1,LcC3,hm,hxHC1,o,u,hCC4⟩
 unfold Z5q at hm
 refine rg<|qv o (e_add o rfl rfl) fun a o=>qm o rfl fun a o=>re<|tn<|?_
 exact ⟨(nn2,(IntKind.i64.wrap (vB2+1)),vC2),⟨HC1,LcC3,hm,(ExtM.trans hxHB1 hxHC1),o.hs,u,hCC4⟩,Nat.lt_succ_self _⟩
 replace hm:=itp_f hm hb30
 refine tn<|th<|cfv o rfl hb30<|we<|tx<|tx<|bx<|tn<|?_
 exact ⟨vB3,HB1,LcB4,hm,hxHB1,o.has ⟨rfl,rfl,trivial⟩,u,hCB5⟩
 rintro a w ⟨vA2,HA1,LcA3,hm,hxHA1,o,u,hCA4⟩
 unfold Z5p at hm
 refine th<|rg<|qv o (e_fa o fa27_1 rfl) fun a o=>qv o (e_ld o isAgg23 rfl (PH.le.cell (fun b o hx=>(Lds.le (St.ld u)) b o (hxHA1.sub b o hx)) (ph_cell hb5 rfl))) fun a o=>qv o (e_lenL (α:=api_Cell) (xs:=y2.Vols) o runUnderlying23 rfl) fun a o=>qm o rfl fun a o=>re<|tn<|wb<|lp (α:=Nat×Int×τ) (fun gh a w=>match gh with | (nn5,vA6,vA7)=>∃ (HA5:PH) (LcA8:List HA),(Z5t N y y2) nn5 vA6 vA7=some r∧ExtM w0 (sepA [sepA Lc]).fp HA1 HA5∧Fr 48 [(0,.func (.yield lyl) #[] #[]),(1,.pointer (some ⟨b1,0,none⟩)),(31,.slice oa10 y2.Vols.length cap11),(32,i6 (y2.Vols.length:Int)),(33,i6 vA6)] a∧St w0 (sepA [sepA Lc]).fp [HA5] [sepA LcA8] w∧C vA7 HA5 LcA8) (fun gh=>gh.1) (N,0,vA2) ⟨HA1,LcA3,hm,(ExtM.refl _ _ _),o.hs,u,hCA4⟩ ?_
 rintro ⟨nn5,vA6,vA7⟩ a w ⟨HA5,LcA8,hm,hxHA5,o,u,hCA9⟩
 obtain _ | nn5:=nn5
 simp [Z5t] at hm
 rw [Z5t] at hm
 refine th<|rg<|qv o (e_lss o rfl rfl) fun a o=>re<|?_
 rcases bdich (decide (vA6 < (y2.Vols.length:Int))) with hb54 | hb54
 replace hm:=itp_t hm hb54
 refine tn<|th<|ctv o rfl hb54<|wk<|tn<|th<|wb<|th<|?_
 obtain ⟨x55,h56,hm⟩:=bs hm
 obtain ⟨c57,g58,hl59⟩:=SR.get hr13 h56
 obtain rfl:=api_Cell_open g58
 refine rg<|qm o rfl fun a o=>qv o (e_iaI o runUnderlying23 sizeOf53 rfl rfl h56 (SR.oaI hr13 (by decide) h56)) fun a o=>qv o (e_ldA o isAgg53 sizeOf53 rfl rfl (fun j v hj=>PH.le.cell (fun b o hx=>(Lds.le (St.ld u)) b o ((cp hxHA5.sub hxHA1.sub) b o hx)) (hl59 j v hj))) fun a o=>ls<|a_alloc (cs:=[strv [],i6 0,i6 0].toArray) o rfl u zeroValue53 rfl fun b60 w a u o=>qa o rfl fun a o=>ls<|s_blkA o u sizeOf53 rfl rfl rfl rfl (one_cells rfl) .head fun w u=>re<|tn<|th<|?_
 obtain ⟨r61,h62,hm⟩:=bs hm
 refine rg<|qm o rfl fun a o=>qv o (e_ldA o isAgg53 sizeOf53 rfl rfl ((St.ld u).cellsB t0)) fun a o=>qv o (e_fa o fa27_0 rfl) fun a o=>qv o (e_ld o isAgg22 rfl (PH.le.cell (fun b o hx=>(Lds.le (St.ld u)) b o ((cp hxHA5.sub hxHA1.sub) b o hx)) (ph_cell hb5 rfl))) fun a o=>qv o (e_lenL (α:=(List api_Cell)) (xs:=y2.Lines) o runUnderlying22 rfl) fun a o=>qm o rfl fun a o=>qv o (e_add o rfl rfl) fun a o=>lsy rfl<|ly (vs:=[.agg #[strv x55.Name,i6 x55.N,i6 x55.At],i6 (IntKind.i64.wrap ((y2.Lines.length:Int)+vA6))]) o rfl rfl ⟨rfl,rfl,trivial⟩ hy u t1 hCA9 ⟨[strv x55.Name,i6 x55.N,i6 x55.At],rfl,(show Enc.rep (α:=api_Cell) HA5 [strv x55.Name,i6 x55.N,i6 x55.At] x55 from ⟨_,_,rfl,rfl,⟨_,_,rfl,rfl,rfl⟩⟩)⟩ h62 (fun a w H66 Lc65 hC64 hx63 hU o=>?_)
 replace u:=hU _ (.tail .head)
 refine qv o (e_not o rfl) fun a o=>re<|?_
 rcases bdich r61.2 with hb67 | hb67
 replace hm:=ite_t hm hb67
 refine tn<|cfv o rfl (by rw [hb67];rfl)<|wk<|bn<|tn<|rg<|qv o (e_add o rfl rfl) fun a o=>qm o rfl fun a o=>re<|tn<|?_
 replace u:=u.pk [1] rfl
 exact ⟨(nn5,(IntKind.i64.wrap (vA6+1)),r61.1),⟨H66,Lc65,hm,(ExtM.trans hxHA5 hx63),o.hs,u,hC64⟩,Nat.lt_succ_self _⟩
 replace hm:=ite_f hm hb67
 refine tn<|ctv o rfl (by rw [hb67];rfl)<|wr<|br<|tr<|tr<|br<|?_
 obtain rfl:=si hm
 exact r0 o results108 ⟨H66,Lc65,rfl,hC64,(ExtM.trans hxHA1 (ExtM.trans hxHA5 hx63)),(St.le u),(St.disL (u.pickL (.cons (.tail .head) .nil))),(u.pickL (.cons (.tail .head) .nil)).endMut⟩
 replace hm:=itp_f hm hb54
 refine tn<|th<|cfv o rfl hb54<|we<|tx<|tx<|bx<|?_
 obtain rfl:=si hm
 exact r0n o results108 ⟨HA5,LcA8,rfl,hCA9,(ExtM.trans hxHA1 hxHA5),(St.le u),(St.disL (u.pickL (.cons .head .nil))),(u.pickL (.cons .head .nil)).endMut⟩
theorem Z5y_c (hH:H.le w0) {p1:Str} {p2:Int} {p3:Int} {b5:Nat} {p4:(List (Str×Int))} {mz6 cz8:Nat} {l7:List (Str×Value×Nat)} (hm9:MRel kI l7 p4) {b11:Nat} {p10:Bool} {b13:Nat} {p12:Int} (hO:(sepA [blk b5 (.cells [.map (some mz6)].toArray 75 (0,0)),gmap kS mz6 l7 cz8,blk b11 (.cells [.bool p10].toArray 4 (0,0)),blk b13 (.cells [i6 p12].toArray 3 (0,0))]).ok (hp w0)) (hD:∀ b,(sepA [blk b5 (.cells [.map (some mz6)].toArray 75 (0,0)),gmap kS mz6 l7 cz8,blk b11 (.cells [.bool p10].toArray 4 (0,0)),blk b13 (.cells [i6 p12].toArray 3 (0,0))]).fp b→H b=none) {r:((List (Str×Int))×Bool×Int)} (hm:Z5y N p1 p2 p3 p4 p10 p12=some r):Tot Tryz.prog 78 #[strv p1,i6 p2,i6 p3,.pointer (some ⟨b5,0,none⟩),.pointer (some ⟨b11,0,none⟩),.pointer (some ⟨b13,0,none⟩)] w0 (fun v w'=>∃ (m1m:Nat) (l1m:List (Str×Value×Nat)) (c1m:Nat),v=.tuple #[]∧MRel kI l1m r.1∧Mut w0 (sepA [blk b5 (.cells [.map (some mz6)].toArray 75 (0,0)),gmap kS mz6 l7 cz8,blk b11 (.cells [.bool p10].toArray 4 (0,0)),blk b13 (.cells [i6 p12].toArray 3 (0,0))]) (sepA [blk b5 (.cells [.map (some m1m)].toArray 75 (0,0)),gmap kS m1m l1m c1m,blk b11 (.cells [.bool r.2.1].toArray 4 (0,0)),blk b13 (.cells [i6 r.2.2].toArray 3 (0,0))]) w'):=by
 unfold Z5y at hm
 refine fn0 func78 rfl ntmps78 rfl rfl fun a o=>?_
 have u:=startM hH hO hD
 refine th<|th<|rg<|qv o (e_ld o Tryz.isAgg75 rfl ((St.ld u).cellB t0 rfl)) fun a o=>qm o rfl fun a o=>qv o (e_lookM (ev:=kI) (dv:=0) (m:=p4) (k:=p1) o key9 runUnderlying75 zeroValue3 (Lds.mapO (St.ld u) t1) rfl rfl hm9) fun a o=>qv o (e_neq o rfl rfl) fun a o=>qm o rfl fun a o=>grp (N:=21) (Fk:=[(0,strv p1),(1,i6 p2),(2,i6 p3),(3,.pointer (some ⟨b5,0,none⟩)),(4,.pointer (some ⟨b11,0,none⟩)),(5,.pointer (some ⟨b13,0,none⟩)),(16,.bool ((decide (((plook p1 p4).getD 0)≠0)) && (!p10)))]) (b:=(decide (((plook p1 p4).getD 0)≠0))) 3 u ?_ ?_ ?_
 intro hb key
 replace o:=Fr.as o (t:=13) rfl (congrArg Value.bool hb)
 refine qg o (e_ld o isAgg4 rfl ((St.ld u).cellB t2 rfl)) fun a o=>qg o (e_not o rfl) fun a o=>qv o (e_as (v':=.bool ((decide (((plook p1 p4).getD 0)≠0)) && (!p10))) (e_pickT o rfl rfl) (by rw [hb];rfl)) fun a o=>?_
 exact key _ _ (o.hs) u
 intro hb key
 replace o:=Fr.as o (t:=13) rfl (congrArg Value.bool hb)
 iterate 2 refine qn o fun a o=>?_
 refine qv o (e_as (v':=.bool ((decide (((plook p1 p4).getD 0)≠0)) && (!p10))) (e_pickF o rfl rfl) (by rw [hb];rfl)) fun a o=>?_
 exact key _ _ (o.hs) u
 intro a w o u
 refine re<|tn<|midK (fun a w=>∃ (vA1:Bool) (vA2:Int),(Z5z p1 p2 p4) vA1 vA2=some r∧Fr 21 [(0,strv p1),(1,i6 p2),(3,.pointer (some ⟨b5,0,none⟩)),(4,.pointer (some ⟨b11,0,none⟩)),(5,.pointer (some ⟨b13,0,none⟩))] a∧St w0 (sepA [blk b5 (.cells [.map (some mz6)].toArray 75 (0,0)),gmap kS mz6 l7 cz8,blk b11 (.cells [.bool p10].toArray 4 (0,0)),blk b13 (.cells [i6 p12].toArray 3 (0,0))]).fp [H] [gmap kS mz6 l7 cz8,blk b5 (.cells [.map (some mz6)].toArray 75 (0,0)),blk b11 (.cells [.bool vA1].toArray 4 (0,0)),blk b13 (.cells [i6 vA2].toArray 3 (0,0))] w) ?_ ?_
 rcases bdich ((decide (((plook p1 p4).getD 0)≠0)) && (!p10)) with hb14 | hb14
 replace hm:=ite_t hm hb14
 refine ctv o rfl hb14<|rg<|qm o rfl fun a o=>ls<|s_blk o u sizeOf3 rfl rfl rfl rfl (.tail (.tail (.tail .head))) .zero fun w u=>ls<|s_blk o u sizeOf4 rfl rfl rfl rfl (.tail (.tail .head)) .zero fun w u=>re<|tn<|?_
 replace u:=u.pk [1,0,0,0] rfl
 exact ⟨true,p3,hm,o.hs,u⟩
 replace hm:=ite_f hm hb14
 refine cfv o rfl hb14<|wk<|tn<|?_
 replace u:=u.pk [1,0,0,0] rfl
 exact ⟨p10,p12,hm,o.hs,u⟩
 rintro a w ⟨vA1,vA2,hm,o,u⟩
 unfold Z5z at hm
 refine rg<|qv o (e_ld o Tryz.isAgg75 rfl ((St.ld u).cellB t1 rfl)) fun a o=>?_
 iterate 2 refine qm o rfl fun a o=>?_
 refine ls<|m_put (ev:=kI) (m:=p4) (k:=p1) (v:=p2) o u key9 runUnderlying75 rfl rfl rfl t0 hm9 fun l15 c16 w hm17 hU=>?_
 replace u:=hU _ .head
 refine re<|?_
 obtain rfl:=si hm
 exact r0n o results78 ⟨mz6,l15,c16,rfl,hm17,(u.pickL (.cons (.tail .head) (.cons .head (.cons .head (.cons .head .nil))))).endMut⟩
set_option maxHeartbeats 4000000 in
theorem Z5x_c (hH:H.le w0) {cs2:List Value} {p1:api_Prog} (g3:Enc.rep H cs2 p1) {r:((List (Str×Int))×Int×Bool)} (hm:Z5x N p1=some r):Tot Tryz.prog 49 #[.agg cs2.toArray] w0 (fun v w'=>∃ (m0:Nat) (l0:List (Str×Value×Nat)) (c0:Nat),v=.tuple #[.map (some m0),i6 r.2.1,.bool r.2.2]∧MRel kI l0 r.1∧Fresh w0 (gmap kS m0 l0 c0) w'):=by
 unfold Z5x at hm
 refine fnM func49 rfl ntmps49 rfl rfl fun a o=>?_
 have u:St w0 Nil [H] [] w0:=start1 hH
 replace u:=St.ds0 u
 obtain ⟨oa4,cap5,oa8,cap9,oa12,cap13,oa16,cap17,oa20,cap21,oa24,cap25,rfl,hc6,hr7,hc10,hr11,hc14,hr15,hc18,hr19,hc22,hr23,hc26,hr27⟩:=api_Prog_open g3
 refine th<|rg<|ls<|a_box (cs:=[.slice oa4 p1.Lines.length cap5,.slice oa8 p1.Vols.length cap9,.slice oa12 p1.Locks.length cap13,.slice oa16 p1.Threads.length cap17,.slice oa20 p1.Recover.length cap21,.slice oa24 p1.Claims.length cap25].toArray) o rfl u rfl rfl fun b28 w a u o=>?_
 iterate 3 refine qa o rfl fun a o=>?_
 refine re<|tn<|th<|rg<|ls<|a_map o rfl u fun m29 w a u o=>?_
 replace u:=St.gmap0 (kv:=kS) u
 have hm30:MRel (κ:=Str) (β:=Int) kI [] []:=MRel.nil _
 refine ls<|a_alloc (cs:=[.map none].toArray) o rfl u zeroValue75 rfl fun b31 w a u o=>ls<|s_blk o u sizeOf75 rfl rfl rfl rfl .head .zero fun w u=>re<|tn<|th<|rg<|ls<|a_alloc (cs:=[i6 0].toArray) o rfl u Tryz.zeroValue3 rfl fun b32 w a u o=>re<|tn<|th<|rg<|ls<|a_alloc (cs:=[.bool false].toArray) o rfl u Tryz.zeroValue4 rfl fun b33 w a u o=>ls<|s_blk o u sizeOf4 rfl rfl rfl rfl .head .zero fun w u=>re<|tn<|th<|rg<|qv o (e_mkf (vs:=[.pointer (some ⟨b31,0,none⟩),.pointer (some ⟨b33,0,none⟩),.pointer (some ⟨b32,0,none⟩)]) o ⟨rfl,rfl,rfl,trivial⟩) fun a o=>ls<|a_alloc (cs:=[.nilFunc].toArray) o rfl u zeroValue105 rfl fun b34 w a u o=>ls<|s_blk o u sizeOf105 rfl rfl rfl rfl .head .zero fun w u=>re<|tn<|th<|th<|?_
 obtain ⟨r35,h36,hm⟩:=bs hm
 refine rg<|qv o (e_ldA o Tryz.isAgg27 Tryz.sizeOf27 rfl rfl ((St.ld u).cellsB t5)) fun a o=>ls<|c1 o rfl call65 (Z5n_c (St.le u) (show Enc.rep (α:=api_Prog) H [.slice oa4 p1.Lines.length cap5,.slice oa8 p1.Vols.length cap9,.slice oa12 p1.Locks.length cap13,.slice oa16 p1.Threads.length cap17,.slice oa20 p1.Recover.length cap21,.slice oa24 p1.Claims.length cap25] p1 from ⟨_,_,rfl,⟨_,_,rfl,hc6,hr7⟩,⟨_,_,rfl,⟨_,_,rfl,hc10,hr11⟩,⟨_,_,rfl,⟨_,_,rfl,hc14,hr15⟩,⟨_,_,rfl,⟨_,_,rfl,hc18,hr19⟩,⟨_,_,rfl,⟨_,_,rfl,hc22,hr23⟩,⟨_,_,rfl,hc26,hr27⟩⟩⟩⟩⟩⟩) h36) ⟨rfl,trivial⟩ (fun v w a hR o=>?_)
 obtain ⟨H40,b41,cs43,rfl,hb42,g44,hx37,hl38,hk⟩:=hR
 obtain ⟨u,hx37⟩:=And.intro (St.passH u hk hx37 hl38) (St.extc u hx37)
 obtain ⟨oa45,cap46,oa49,cap50,oa53,cap54,oa57,cap58,oa61,cap62,oa65,cap66,rfl,hc47,hr48,hc51,hr52,hc55,hr56,hc59,hr60,hc63,hr64,hc67,hr68⟩:=api_Prog_open g44
 refine re<|tn<|wb<|?_
 replace o:Fr 65 [(1,.pointer (some ⟨b28,0,none⟩)),(5,.pointer (some ⟨b31,0,none⟩)),(6,.pointer (some ⟨b32,0,none⟩)),(7,.pointer (some ⟨b33,0,none⟩)),(8,.pointer (some ⟨b34,0,none⟩)),(19,.func (.func 108) #[] #[.pointer (some ⟨b41,0,none⟩)])] _:=o.hs
 replace u:=u.pk [6,5,4,3,2,1,0] rfl
 obtain ⟨q69,h70,hm⟩:=bs hm
 refine rf (ŝ:=q69) (lb:=[.pointer (some ⟨b41,0,none⟩)]) (ps:=[20,21]) (I:=fun (gh:((List (Str×Int))×Int×Bool)) (HA1:PH) (L:List HA)=>match gh with | (vA3,vA7,vA8)=>∃ (bA2:Nat) (lA4:List (Str×Value×Nat)) (cA5:Nat),L=[blk b28 (.cells [.slice oa4 p1.Lines.length cap5,.slice oa8 p1.Vols.length cap9,.slice oa12 p1.Locks.length cap13,.slice oa16 p1.Threads.length cap17,.slice oa20 p1.Recover.length cap21,.slice oa24 p1.Claims.length cap25].toArray 27 (0,0)),gmap kS bA2 lA4 cA5,blk b31 (.cells [.map (some bA2)].toArray 75 (0,0)),blk b32 (.cells [i6 vA7].toArray 3 (0,0)),blk b33 (.cells [.bool vA8].toArray 4 (0,0)),blk b34 (.cells [.func (.func 78) #[] #[.pointer (some ⟨b31,0,none⟩),.pointer (some ⟨b33,0,none⟩),.pointer (some ⟨b32,0,none⟩)]].toArray 105 (0,0))]∧(∀ b o,H40 b=some o→HA1 b=some o)∧MRel kI lA4 vA3) (J:=fun (_:Empty) (_:Code) (_:PH) (_:List HA)=>False) (fun (s:((List (Str×Int))×Int×Bool)) (x:(api_Cell×Int))=>(Z60 N p1) s.1 s.2.1 s.2.2 x) (fun (H:PH) (args:List Value) (x:api_Cell×Int)=>∃ (cs0:List Value),args=[.agg cs0.toArray,i6 x.2]∧Enc.rep H cs0 x.1) o rfl call108 rfl (by rintro H args x ⟨_,rfl,_⟩;rfl) u ⟨m29,[],0,rfl,i2,hm30⟩ (by rintro ⟨vA3,vA7,vA8⟩ H Hn L hs ⟨bA2,lA4,cA5,rfl,hu,hmA6⟩;exact ⟨_,_,_,rfl,(cp hs hu),hmA6⟩) (fun t=>t.elim) (fun lq C Lc w1 hyc hcm hc hle hok hdis=>hit_of (Z5o_c hle hyc hcm hc (show Enc.rep (α:=api_Prog) H40 [.slice oa45 r35.Lines.length cap46,.slice oa49 r35.Vols.length cap50,.slice oa53 r35.Locks.length cap54,.slice oa57 r35.Threads.length cap58,.slice oa61 r35.Recover.length cap62,.slice oa65 r35.Claims.length cap66] r35 from ⟨_,_,rfl,⟨_,_,rfl,hc47,hr48⟩,⟨_,_,rfl,⟨_,_,rfl,hc51,hr52⟩,⟨_,_,rfl,⟨_,_,rfl,hc55,hr56⟩,⟨_,_,rfl,⟨_,_,rfl,hc59,hr60⟩,⟨_,_,rfl,⟨_,_,rfl,hc63,hr64⟩,⟨_,_,rfl,hc67,hr68⟩⟩⟩⟩⟩⟩) hb42 (sep1_ok hok) (sep1_dis hdis) h70)) ?_ ?_ ?_
 intro l X Y s xe129 r HA1 Lu args w0 a K Qr hI hex hm o u hK hN hR
 obtain ⟨vA3,vA7,vA8⟩:=s
 obtain ⟨bA2,lA4,cA5,rfl,hxHA1,hmA6⟩:=hI
 replace hm:(Z60 N p1) vA3 vA7 vA8 xe129=some r:=hm
 unfold Z60 at hm
 obtain ⟨cs130,rfl,g131⟩:=hex
 replace o:Fr 65 [(21,i6 xe129.2),(20,.agg cs130.toArray),(1,.pointer (some ⟨b28,0,none⟩)),(5,.pointer (some ⟨b31,0,none⟩)),(6,.pointer (some ⟨b32,0,none⟩)),(7,.pointer (some ⟨b33,0,none⟩)),(8,.pointer (some ⟨b34,0,none⟩)),(19,.func (.func 108) #[] #[.pointer (some ⟨b41,0,none⟩)])] a:=o
 obtain rfl:=api_Cell_open g131
 refine th<|rg<|ls<|a_alloc (cs:=[strv [],i6 0,i6 0].toArray) o rfl u Tryz.zeroValue53 rfl fun b132 w a u o=>ls<|s_blkA o u sizeOf53 rfl rfl rfl rfl (one_cells rfl) .head fun w u=>re<|tn<|rg<|qa o rfl fun a o=>re<|?_
 replace u:=u.pk [1,0,0,0,0,0,0,0] rfl
 refine tn<|hK _ _ _ _ u fun w u=>wb<|th<|rg<|qa o rfl fun a o=>re<|tn<|th<|th<|rg<|qm o rfl fun a o=>qv o (e_fa o fa27_0 rfl) fun a o=>qv o (e_ld o isAgg22 rfl ((St.ld u).cellB t2 rfl)) fun a o=>qv o (e_lenL (α:=(List api_Cell)) (xs:=p1.Lines) o runUnderlying22 rfl) fun a o=>qv o (e_geq o rfl rfl) fun a o=>re<|tn<|midK (fun a w=>∃ (vB1:Int),(Z61 N xe129 vA3 vA7 vA8) vB1=some r∧Fr 65 [(1,.pointer (some ⟨b28,0,none⟩)),(5,.pointer (some ⟨b31,0,none⟩)),(6,.pointer (some ⟨b32,0,none⟩)),(7,.pointer (some ⟨b33,0,none⟩)),(8,.pointer (some ⟨b34,0,none⟩)),(9,.pointer (some ⟨b132,0,none⟩)),(11,i6 vB1),(19,.func (.func 108) #[] #[.pointer (some ⟨b41,0,none⟩)])] a∧St w0 (sepA (X :: [blk b28 (.cells [.slice oa4 p1.Lines.length cap5,.slice oa8 p1.Vols.length cap9,.slice oa12 p1.Locks.length cap13,.slice oa16 p1.Threads.length cap17,.slice oa20 p1.Recover.length cap21,.slice oa24 p1.Claims.length cap25].toArray 27 (0,0)),gmap kS bA2 lA4 cA5,blk b31 (.cells [.map (some bA2)].toArray 75 (0,0)),blk b32 (.cells [i6 vA7].toArray 3 (0,0)),blk b33 (.cells [.bool vA8].toArray 4 (0,0)),blk b34 (.cells [.func (.func 78) #[] #[.pointer (some ⟨b31,0,none⟩),.pointer (some ⟨b33,0,none⟩),.pointer (some ⟨b32,0,none⟩)]].toArray 105 (0,0))])).fp [HA1] [blk b28 (.cells [.slice oa4 p1.Lines.length cap5,.slice oa8 p1.Vols.length cap9,.slice oa12 p1.Locks.length cap13,.slice oa16 p1.Threads.length cap17,.slice oa20 p1.Recover.length cap21,.slice oa24 p1.Claims.length cap25].toArray 27 (0,0)),gmap kS bA2 lA4 cA5,blk b31 (.cells [.map (some bA2)].toArray 75 (0,0)),blk b32 (.cells [i6 vA7].toArray 3 (0,0)),blk b33 (.cells [.bool vA8].toArray 4 (0,0)),blk b34 (.cells [.func (.func 78) #[] #[.pointer (some ⟨b31,0,none⟩),.pointer (some ⟨b33,0,none⟩),.pointer (some ⟨b32,0,none⟩)]].toArray 105 (0,0)),blk b132 (.cells [strv xe129.1.Name,i6 xe129.1.N,i6 xe129.1.At].toArray 53 (0,0)),Y] w) ?_ ?_
 rcases bdich (decide ((p1.Lines.length:Int)≤xe129.2)) with hb133 | hb133
 replace hm:=itp_t hm hb133
 refine ctv o rfl hb133<|rg<|qa o rfl fun a o=>re<|tn<|?_
 replace u:=u.pk [2,2,2,2,2,2,1,0] rfl
 exact ⟨2,hm,o.hs,u⟩
 replace hm:=itp_f hm hb133
 refine cfv o rfl hb133<|wk<|tn<|?_
 replace u:=u.pk [2,2,2,2,2,2,1,0] rfl
 exact ⟨1,hm,o.hs,u⟩
 rintro a w ⟨vB1,hm,o,u⟩
 unfold Z61 at hm
 obtain ⟨r134,h135,hm⟩:=bs hm
 refine rg<|qv o (e_ld o Tryz.isAgg105 rfl ((St.ld u).cellB t5 rfl)) fun a o=>qv o (e_fa o fa53_0 rfl) fun a o=>qv o (e_ld o isAgg9 rfl ((St.ld u).cellB t6 rfl)) fun a o=>qm o rfl fun a o=>qv o (e_fa o fa53_2 rfl) fun a o=>qv o (e_ld o isAgg3 rfl ((St.ld u).cellB t6 rfl)) fun a o=>?_
 replace u:=u.pk [2,1,2,1,0,0,0,0] rfl
 replace u:=St.sep [blk b31 (.cells [.map (some bA2)].toArray 75 (0,0)),gmap kS bA2 lA4 cA5,blk b33 (.cells [.bool vA8].toArray 4 (0,0)),blk b32 (.cells [i6 vA7].toArray 3 (0,0))] u
 refine ls<|k1 (vs:=[strv xe129.1.Name,i6 vB1,i6 xe129.1.At]) (caps:=[.pointer (some ⟨b31,0,none⟩),.pointer (some ⟨b33,0,none⟩),.pointer (some ⟨b32,0,none⟩)]) o rfl rfl call78 (Z5y_c (St.le u) (p4:=vA3) (b5:=b31) (mz6:=bA2) (l7:=lA4) (cz8:=cA5) (p10:=vA8) (b11:=b33) (p12:=vA7) (b13:=b32) hmA6 (St.sepOk u) (St.sepDis u) h135) ⟨rfl,rfl,rfl,trivial⟩ rfl (fun v w a hR o=>?_)
 obtain ⟨m136,l137,c138,rfl,hm139,hk⟩:=hR
 replace u:=(u.mut hk .head).unsep
 refine re<|bn<|?_
 obtain rfl:=si hm
 replace u:=u.pk [7,4,1,0,1,0,0] rfl
 exact hN _ _ _ _ _ rfl (ExtM.refl _ _ _) ⟨m136,l137,c138,rfl,hxHA1,hm139⟩ u
 rintro ⟨vA3,vA7,vA8⟩ D140 HA1 Lu a w rfl ⟨bA2,lA4,cA5,rfl,huHA1,hmA6⟩ hx141 o u
 replace hx141:=ExtM.nil hx141
 try dsimp only at hm
 replace o:Fr ⟨65,(D140 :: [])⟩ [(1,.pointer (some ⟨b28,0,none⟩)),(5,.pointer (some ⟨b31,0,none⟩)),(6,.pointer (some ⟨b32,0,none⟩)),(7,.pointer (some ⟨b33,0,none⟩)),(8,.pointer (some ⟨b34,0,none⟩)),(19,.func (.func 108) #[] #[.pointer (some ⟨b41,0,none⟩)])] a:=o
 replace u:St w0 Nil [HA1] [dsA (D140 :: []),blk b28 (.cells [.slice oa4 p1.Lines.length cap5,.slice oa8 p1.Vols.length cap9,.slice oa12 p1.Locks.length cap13,.slice oa16 p1.Threads.length cap17,.slice oa20 p1.Recover.length cap21,.slice oa24 p1.Claims.length cap25].toArray 27 (0,0)),gmap kS bA2 lA4 cA5,blk b31 (.cells [.map (some bA2)].toArray 75 (0,0)),blk b32 (.cells [i6 vA7].toArray 3 (0,0)),blk b33 (.cells [.bool vA8].toArray 4 (0,0)),blk b34 (.cells [.func (.func 78) #[] #[.pointer (some ⟨b31,0,none⟩),.pointer (some ⟨b33,0,none⟩),.pointer (some ⟨b32,0,none⟩)]].toArray 105 (0,0))] w:=u
 refine bn<|tn<|th<|th<|rg<|qv o (e_fa o fa27_2 rfl) fun a o=>qv o (e_ld o isAgg23 rfl ((St.ld u).cellB t1 rfl)) fun a o=>qv o (e_lenL (α:=api_Cell) (xs:=p1.Locks) o runUnderlying23 rfl) fun a o=>qm o rfl fun a o=>re<|tn<|midK (fun a w=>∃ (vA10:(List (Str×Int))) (vA14:Int) (vA15:Bool) (bA9:Nat) (lA11:List (Str×Value×Nat)) (cA12:Nat),(Z62 N p1) vA10 vA14 vA15=some r∧Fr ⟨65,(D140 :: [])⟩ [(1,.pointer (some ⟨b28,0,none⟩)),(5,.pointer (some ⟨b31,0,none⟩)),(6,.pointer (some ⟨b32,0,none⟩)),(7,.pointer (some ⟨b33,0,none⟩)),(8,.pointer (some ⟨b34,0,none⟩))] a∧St w0 Nil [HA1] [blk b28 (.cells [.slice oa4 p1.Lines.length cap5,.slice oa8 p1.Vols.length cap9,.slice oa12 p1.Locks.length cap13,.slice oa16 p1.Threads.length cap17,.slice oa20 p1.Recover.length cap21,.slice oa24 p1.Claims.length cap25].toArray 27 (0,0)),gmap kS bA9 lA11 cA12,blk b31 (.cells [.map (some bA9)].toArray 75 (0,0)),blk b32 (.cells [i6 vA14].toArray 3 (0,0)),blk b33 (.cells [.bool vA15].toArray 4 (0,0)),blk b34 (.cells [.func (.func 78) #[] #[.pointer (some ⟨b31,0,none⟩),.pointer (some ⟨b33,0,none⟩),.pointer (some ⟨b32,0,none⟩)]].toArray 105 (0,0)),dsA (D140 :: [])] w∧MRel kI lA11 vA10) ?_ ?_
 replace u:=u.pk [1,1,1,1,1,1,0] rfl
 refine wb<|lp (α:=Nat×(List (Str×Int))×Int×Bool×Int) (fun (gh:Nat×(List (Str×Int))×Int×Bool×Int) a w=>match gh with | (nn4,vB3,vB7,vB8,vB9)=>∃ (bB2:Nat) (lB4:List (Str×Value×Nat)) (cB5:Nat),(Z64 N (Z62 N p1) p1) nn4 vB3 vB7 vB8 vB9=some r∧Fr ⟨65,(D140 :: [])⟩ [(1,.pointer (some ⟨b28,0,none⟩)),(5,.pointer (some ⟨b31,0,none⟩)),(6,.pointer (some ⟨b32,0,none⟩)),(7,.pointer (some ⟨b33,0,none⟩)),(8,.pointer (some ⟨b34,0,none⟩)),(35,.slice oa12 p1.Locks.length cap13),(36,i6 (p1.Locks.length:Int)),(37,i6 vB9)] a∧St w0 Nil [HA1] [blk b28 (.cells [.slice oa4 p1.Lines.length cap5,.slice oa8 p1.Vols.length cap9,.slice oa12 p1.Locks.length cap13,.slice oa16 p1.Threads.length cap17,.slice oa20 p1.Recover.length cap21,.slice oa24 p1.Claims.length cap25].toArray 27 (0,0)),gmap kS bB2 lB4 cB5,blk b31 (.cells [.map (some bB2)].toArray 75 (0,0)),blk b32 (.cells [i6 vB7].toArray 3 (0,0)),blk b33 (.cells [.bool vB8].toArray 4 (0,0)),blk b34 (.cells [.func (.func 78) #[] #[.pointer (some ⟨b31,0,none⟩),.pointer (some ⟨b33,0,none⟩),.pointer (some ⟨b32,0,none⟩)]].toArray 105 (0,0)),dsA (D140 :: [])] w∧MRel kI lB4 vB3) (fun gh=>gh.1) (N,vA3,vA7,vA8,0) ⟨bA2,lA4,cA5,hm,o.hs,u,hmA6⟩ ?_
 rintro ⟨nn4,vB3,vB7,vB8,vB9⟩ a w ⟨bB2,lB4,cB5,hm,o,u,hmB6⟩
 obtain _ | nn4:=nn4
 simp [Z64] at hm
 rw [Z64] at hm
 refine th<|rg<|qv o (e_lss o rfl rfl) fun a o=>re<|?_
 rcases bdich (decide (vB9 < (p1.Locks.length:Int))) with hb142 | hb142
 replace hm:=itp_t hm hb142
 refine tn<|th<|ctv o rfl hb142<|wk<|tn<|th<|wb<|th<|?_
 obtain ⟨x143,h144,hm⟩:=bs hm
 obtain ⟨c145,g146,hl147⟩:=SR.get hr15 h144
 obtain rfl:=api_Cell_open g146
 refine rg<|qv o (e_iaI o Tryz.runUnderlying23 Tryz.sizeOf53 rfl rfl h144 (SR.oaI hr15 (by decide) h144)) fun a o=>qv o (e_ldA o isAgg53 sizeOf53 rfl rfl (fun j v hj=>PH.le.cell (fun b o hx=>(Lds.le (St.ld u)) b o ((cp hx141.sub hx37.sub) b o hx)) (hl147 j v hj))) fun a o=>ls<|a_alloc (cs:=[strv [],i6 0,i6 0].toArray) o rfl u zeroValue53 rfl fun b148 w a u o=>ls<|s_blkA o u sizeOf53 rfl rfl rfl rfl (one_cells rfl) .head fun w u=>re<|tn<|?_
 obtain ⟨r149,h150,hm⟩:=bs hm
 refine rg<|qv o (e_ld o Tryz.isAgg105 rfl ((St.ld u).cellB t6 rfl)) fun a o=>qv o (e_fa o fa53_0 rfl) fun a o=>qv o (e_ld o isAgg9 rfl ((St.ld u).cellB t0 rfl)) fun a o=>qv o (e_fa o fa53_2 rfl) fun a o=>qv o (e_ld o isAgg3 rfl ((St.ld u).cellB t0 rfl)) fun a o=>?_
 replace u:=u.pk [3,2,3,2,0,0,0,0] rfl
 replace u:=St.sep [blk b31 (.cells [.map (some bB2)].toArray 75 (0,0)),gmap kS bB2 lB4 cB5,blk b33 (.cells [.bool vB8].toArray 4 (0,0)),blk b32 (.cells [i6 vB7].toArray 3 (0,0))] u
 refine ls<|k1 (vs:=[strv x143.Name,i6 3,i6 x143.At]) (caps:=[.pointer (some ⟨b31,0,none⟩),.pointer (some ⟨b33,0,none⟩),.pointer (some ⟨b32,0,none⟩)]) o rfl rfl call78 (Z5y_c (St.le u) (p4:=vB3) (b5:=b31) (mz6:=bB2) (l7:=lB4) (cz8:=cB5) (p10:=vB8) (b11:=b33) (p12:=vB7) (b13:=b32) hmB6 (St.sepOk u) (St.sepDis u) h150) ⟨rfl,rfl,rfl,trivial⟩ rfl (fun v w a hR o=>?_)
 obtain ⟨m151,l152,c153,rfl,hm154,hk⟩:=hR
 replace u:=(u.mut hk .head).unsep
 refine re<|bn<|tn<|rg<|qv o (e_add o rfl rfl) fun a o=>qm o rfl fun a o=>re<|tn<|?_
 replace u:=u.pk [5,1,0,1,0,1,1] rfl
 exact ⟨(nn4,r149.1,r149.2.2,r149.2.1,(IntKind.i64.wrap (vB9+1))),⟨m151,l152,c153,hm,o.hs,u,hm154⟩,Nat.lt_succ_self _⟩
 replace hm:=itp_f hm hb142
 refine tn<|th<|cfv o rfl hb142<|we<|tx<|tx<|bx<|tn<|?_
 exact ⟨vB3,vB7,vB8,bB2,lB4,cB5,hm,o.hs,u,hmB6⟩
 rintro a w ⟨vA10,vA14,vA15,bA9,lA11,cA12,hm,o,u,hmA13⟩
 unfold Z62 at hm
 refine th<|th<|rg<|qv o (e_fa o fa27_3 rfl) fun a o=>qv o (e_ld o isAgg24 rfl ((St.ld u).cellB t0 rfl)) fun a o=>qv o (e_lenL (α:=api_Thread) (xs:=p1.Threads) o runUnderlying24 rfl) fun a o=>qm o rfl fun a o=>re<|tn<|midK (fun a w=>∃ (vA17:(List (Str×Int))) (vA21:Int) (vA22:Bool) (bA16:Nat) (lA18:List (Str×Value×Nat)) (cA19:Nat),Z63 vA17 vA21 vA22=some r∧Fr ⟨65,(D140 :: [])⟩ [(5,.pointer (some ⟨b31,0,none⟩)),(6,.pointer (some ⟨b32,0,none⟩)),(7,.pointer (some ⟨b33,0,none⟩))] a∧St w0 Nil [HA1] [gmap kS bA16 lA18 cA19,blk b31 (.cells [.map (some bA16)].toArray 75 (0,0)),blk b32 (.cells [i6 vA21].toArray 3 (0,0)),blk b33 (.cells [.bool vA22].toArray 4 (0,0)),dsA (D140 :: [])] w∧MRel kI lA18 vA17) ?_ ?_
 replace u:=u.pk [1,1,1,1,1,1] rfl
 refine wb<|lp (α:=Nat×(List (Str×Int))×Int×Bool×Int) (fun (gh:Nat×(List (Str×Int))×Int×Bool×Int) a w=>match gh with | (nn6,vB11,vB15,vB16,vB17)=>∃ (bB10:Nat) (lB12:List (Str×Value×Nat)) (cB13:Nat),(Z65 N Z63 p1) nn6 vB11 vB15 vB16 vB17=some r∧Fr ⟨65,(D140 :: [])⟩ [(5,.pointer (some ⟨b31,0,none⟩)),(6,.pointer (some ⟨b32,0,none⟩)),(7,.pointer (some ⟨b33,0,none⟩)),(8,.pointer (some ⟨b34,0,none⟩)),(49,.slice oa16 p1.Threads.length cap17),(50,i6 (p1.Threads.length:Int)),(51,i6 vB17)] a∧St w0 Nil [HA1] [gmap kS bB10 lB12 cB13,blk b31 (.cells [.map (some bB10)].toArray 75 (0,0)),blk b32 (.cells [i6 vB15].toArray 3 (0,0)),blk b33 (.cells [.bool vB16].toArray 4 (0,0)),blk b34 (.cells [.func (.func 78) #[] #[.pointer (some ⟨b31,0,none⟩),.pointer (some ⟨b33,0,none⟩),.pointer (some ⟨b32,0,none⟩)]].toArray 105 (0,0)),dsA (D140 :: [])] w∧MRel kI lB12 vB11) (fun gh=>gh.1) (N,vA10,vA14,vA15,0) ⟨bA9,lA11,cA12,hm,o.hs,u,hmA13⟩ ?_
 rintro ⟨nn6,vB11,vB15,vB16,vB17⟩ a w ⟨bB10,lB12,cB13,hm,o,u,hmB14⟩
 obtain _ | nn6:=nn6
 simp [Z65] at hm
 rw [Z65] at hm
 refine th<|rg<|qv o (e_lss o rfl rfl) fun a o=>re<|?_
 rcases bdich (decide (vB17 < (p1.Threads.length:Int))) with hb155 | hb155
 replace hm:=itp_t hm hb155
 refine tn<|th<|ctv o rfl hb155<|wk<|tn<|th<|wb<|th<|?_
 obtain ⟨x156,h157,hm⟩:=bs hm
 obtain ⟨c158,g159,hl160⟩:=SR.get hr19 h157
 obtain ⟨oa161,cap162,oa165,cap166,rfl,hc163,hr164,hc167,hr168⟩:=api_Thread_open g159
 refine rg<|qv o (e_iaI o Tryz.runUnderlying24 Tryz.sizeOf48 rfl rfl h157 (SR.oaI hr19 (by decide) h157)) fun a o=>qv o (e_ldA o isAgg48 sizeOf48 rfl rfl (fun j v hj=>PH.le.cell (fun b o hx=>(Lds.le (St.ld u)) b o ((cp hx141.sub hx37.sub) b o hx)) (hl160 j v hj))) fun a o=>ls<|a_alloc (cs:=[strv [],.slice none 0 0,.slice none 0 0,i6 0].toArray) o rfl u zeroValue48 rfl fun b169 w a u o=>ls<|s_blkA o u sizeOf48 rfl rfl rfl rfl (one_cells rfl) .head fun w u=>re<|tn<|?_
 obtain ⟨r170,h171,hm⟩:=bs hm
 refine rg<|qv o (e_ld o Tryz.isAgg105 rfl ((St.ld u).cellB t5 rfl)) fun a o=>qv o (e_fa o fa48_0 rfl) fun a o=>qv o (e_ld o isAgg9 rfl ((St.ld u).cellB t0 rfl)) fun a o=>qv o (e_fa o fa48_3 rfl) fun a o=>qv o (e_ld o isAgg3 rfl ((St.ld u).cellB t0 rfl)) fun a o=>?_
 replace u:=u.pk [2,1,2,1,0,0,0] rfl
 replace u:=St.sep [blk b31 (.cells [.map (some bB10)].toArray 75 (0,0)),gmap kS bB10 lB12 cB13,blk b33 (.cells [.bool vB16].toArray 4 (0,0)),blk b32 (.cells [i6 vB15].toArray 3 (0,0))] u
 refine ls<|k1 (vs:=[strv x156.Name,i6 4,i6 x156.At]) (caps:=[.pointer (some ⟨b31,0,none⟩),.pointer (some ⟨b33,0,none⟩),.pointer (some ⟨b32,0,none⟩)]) o rfl rfl call78 (Z5y_c (St.le u) (p4:=vB11) (b5:=b31) (mz6:=bB10) (l7:=lB12) (cz8:=cB13) (p10:=vB16) (b11:=b33) (p12:=vB15) (b13:=b32) hmB14 (St.sepOk u) (St.sepDis u) h171) ⟨rfl,rfl,rfl,trivial⟩ rfl (fun v w a hR o=>?_)
 obtain ⟨m172,l173,c174,rfl,hm175,hk⟩:=hR
 replace u:=(u.mut hk .head).unsep
 refine re<|bn<|tn<|rg<|qv o (e_add o rfl rfl) fun a o=>qm o rfl fun a o=>re<|tn<|?_
 replace u:=u.pk [1,0,1,0,1,1] rfl
 exact ⟨(nn6,r170.1,r170.2.2,r170.2.1,(IntKind.i64.wrap (vB17+1))),⟨m172,l173,c174,hm,o.hs,u,hm175⟩,Nat.lt_succ_self _⟩
 replace hm:=itp_f hm hb155
 refine tn<|th<|cfv o rfl hb155<|we<|tx<|tx<|bx<|tn<|?_
 replace u:=u.pk [0,0,0,0,1] rfl
 exact ⟨vB11,vB15,vB16,bB10,lB12,cB13,hm,o.hs,u,hmB14⟩
 rintro a w ⟨vA17,vA21,vA22,bA16,lA18,cA19,hm,o,u,hmA20⟩
 unfold Z63 at hm
 refine th<|rxS 6 u wide (by kernel_rfl) fun w u=>xq (St.ld u) o (fun w hl=>e_ld o isAgg75 rfl (hl.cellB t1 rfl)) fun a o=>xq (St.ld u) o (fun w hl=>e_ld o isAgg3 rfl (hl.cellB t2 rfl)) fun a o=>xq (St.ld u) o (fun w hl=>e_ld o isAgg4 rfl (hl.cellB t3 rfl)) fun a o=>?_
 iterate 3 refine xq (St.ld u) o (fun w hl=>e_asg o rfl) fun a o=>?_
 refine xe<|tn<|wr<|?_
 obtain rfl:=si hm
 replace u:=u.pk [4,0,0,0,0] rfl
 exact rM (.inl rfl) o u fun w u=>⟨_,res3t o rfl rfl rfl rfl,⟨bA16,lA18,cA19,rfl,hmA20,u.endFresh t0⟩⟩
 exact fun t=>t.elim
theorem Z7a_c (hH:H.le w0) {p1:Int} {r:Bool} (hm:Z7a N p1=some r):Tot Tryz.prog 117 #[.int .u8 p1] w0 (fun v w'=>v=.bool r∧Keep Nil w0 w'):=by
 unfold Z7a at hm
 refine fn0 func117 rfl ntmps117 rfl rfl fun a o=>?_
 have u:St w0 Nil [H] [] w0:=start1 hH
 refine th<|rg<|qa o rfl fun a o=>re<|tn<|th<|rg<|qm o rfl fun a o=>qv o (e_geq o rfl rfl) fun a o=>qm o rfl fun a o=>grp (N:=13) (Fk:=[(0,.int .u8 p1),(8,.bool ((decide (97≤p1)) && (decide (p1≤122))))]) (b:=(decide (97≤p1))) 3 u ?_ ?_ ?_
 intro hb key
 replace o:=Fr.as o (t:=5) rfl (congrArg Value.bool hb)
 refine qg o (e_move o rfl) fun a o=>qg o (e_leq o rfl rfl) fun a o=>qv o (e_as (v':=.bool ((decide (97≤p1)) && (decide (p1≤122)))) (e_pickT o rfl rfl) (by rw [hb];rfl)) fun a o=>?_
 exact key _ _ (o.has ⟨rfl,rfl,trivial⟩) u
 intro hb key
 replace o:=Fr.as o (t:=5) rfl (congrArg Value.bool hb)
 iterate 2 refine qn o fun a o=>?_
 refine qv o (e_as (v':=.bool ((decide (97≤p1)) && (decide (p1≤122)))) (e_pickF o rfl rfl) (by rw [hb];rfl)) fun a o=>?_
 exact key _ _ (o.has ⟨rfl,rfl,trivial⟩) u
 intro a w o u
 refine qm o rfl fun a o=>grp (N:=13) (Fk:=[(12,.bool (((decide (97≤p1)) && (decide (p1≤122))) || (decide (p1=95))))]) (b:=((decide (97≤p1)) && (decide (p1≤122)))) 3 u ?_ ?_ ?_
 intro hb key
 replace o:=Fr.as o (t:=9) rfl (congrArg Value.bool hb)
 iterate 2 refine qn o fun a o=>?_
 refine qv o (e_as (v':=.bool (((decide (97≤p1)) && (decide (p1≤122))) || (decide (p1=95)))) (e_pickT o rfl rfl) (by rw [hb];rfl)) fun a o=>?_
 exact key _ _ (o.has ⟨rfl,trivial⟩) u
 intro hb key
 replace o:=Fr.as o (t:=9) rfl (congrArg Value.bool hb)
 refine qg o (e_move o rfl) fun a o=>qg o (e_eql o rfl rfl) fun a o=>qv o (e_as (v':=.bool (((decide (97≤p1)) && (decide (p1≤122))) || (decide (p1=95)))) (e_pickF o rfl rfl) (by rw [hb];rfl)) fun a o=>?_
 exact key _ _ (o.has ⟨rfl,trivial⟩) u
 intro a w o u
 refine qa o rfl fun a o=>re<|tn<|wr<|?_
 obtain rfl:=si hm
 exact r1 o results117 rfl ⟨rfl,u.keep⟩
theorem Z77_c (hH:H.le w0) (hT:Tab H)  {r:(List (Str×Bool))} (hm:Z77 N  = some r):Tot Tryz.prog 153 #[] w0 (fun v w'=>∃ (m0:Nat) (l0:List (Str×Value×Nat)) (c0:Nat),v=.map (some m0)∧MRel Value.bool l0 r∧Fresh w0 (gmap kS m0 l0 c0) w'):=by
 unfold Z77 at hm
 refine fn0 func153 rfl ntmps153 rfl rfl fun a o=>?_
 have u:St w0 Nil [H] [] w0:=start1 hH
 refine th<|rg<|qa o rfl fun a o=>re<|tn<|th<|rg<|ls<|a_map o rfl u fun mz1 w a u o=>?_
 replace u:=St.gmap0 (kv:=kS) u
 have hm2:MRel (κ:=Str) (β:=Bool) Value.bool [] []:=MRel.nil _
 refine qa o rfl fun a o=>re<|tn<|th<|th<|?_
 obtain ⟨rz3,h4,hm⟩:=bs hm
 refine rg<|ls<|c1 o rfl Tryz.call165 (splitM_c (hp_le _) (Tab.mono hT (St.up u)) h4) ⟨rfl,rfl,trivial⟩ (fun v w a hR o=>?_)
 obtain ⟨oa5,cap6,vs7,rfl,hv8,hk⟩:=hR
 replace u:=u.fresh hk
 replace hv8:=hv8 H
 refine qv o (e_lenL (α:=Str) (xs:=rz3) o runUnderlying36 rfl) fun a o=>qm o rfl fun a o=>re<|tn<|midK (fun a w=>∃ (vA1:(List (Str×Bool))) (lA2:List (Str×Value×Nat)) (cA3:Nat),Z78 vA1=some r∧Fr 15 [(1,.map (some mz1))] a∧St w0 Nil [H] [gmap kS mz1 lA2 cA3] w∧MRel Value.bool lA2 vA1) ?_ ?_
 replace u:=u.pk [1,0] rfl
 refine wb<|lp (α:=Nat×(List (Str×Bool))×Int) (fun (gh:Nat×(List (Str×Bool))×Int) a w=>match gh with | (nn2,vB1,vB5)=>∃ (lB2:List (Str×Value×Nat)) (cB3:Nat),(Z79 N Z78 rz3) nn2 vB1 vB5=some r∧Fr 15 [(1,.map (some mz1)),(5,.slice oa5 rz3.length cap6),(6,i6 (rz3.length:Int)),(7,i6 vB5)] a∧St w0 Nil [H] [gmap kS mz1 lB2 cB3,sla 9 1 oa5 rz3.length cap6 vs7] w∧MRel Value.bool lB2 vB1) (fun gh=>gh.1) (N,[],0) ⟨[],0,hm,o.hs,u,hm2⟩ ?_
 rintro ⟨nn2,vB1,vB5⟩ a w ⟨lB2,cB3,hm,o,u,hmB4⟩
 obtain _ | nn2:=nn2
 simp [Z79] at hm
 rw [Z79] at hm
 refine th<|rg<|qv o (e_lss o rfl rfl) fun a o=>re<|?_
 rcases bdich (decide (vB5 < (rz3.length:Int))) with hb10 | hb10
 replace hm:=itp_t hm hb10
 refine tn<|th<|ctv o rfl hb10<|wk<|tn<|th<|wb<|th<|?_
 obtain ⟨x11,h12,hm⟩:=bs hm
 have ho13:=Rd.oaI (u.rdO t1) hv8 (by decide) h12
 obtain ⟨c14,g15,hl16⟩:=Rows.getI hv8 h12
 obtain rfl:c14=[strv x11]:=g15
 refine rg<|qv o (e_iaI o Tryz.runUnderlying36 Tryz.sizeOf9 rfl rfl h12 ho13) fun a o=>qv o (e_ld o isAgg9 rfl ((St.ld u).elO t1 (hl16 0 _ rfl))) fun a o=>qa o rfl fun a o=>re<|tn<|rg<|qm o rfl fun a o=>qm o rfl fun a o=>ls<|m_put (ev:=Value.bool) (m:=vB1) (k:=x11) (v:=true) o u key9 runUnderlying163 rfl rfl rfl t0 hmB4 fun l17 c18 w hm19 hU=>?_
 replace u:=hU _ .head
 refine re<|bn<|tn<|rg<|qv o (e_add o rfl rfl) fun a o=>qm o rfl fun a o=>re<|tn<|?_
 exact ⟨(nn2,(pput x11 true vB1),(IntKind.i64.wrap (vB5+1))),⟨l17,c18,hm,o.hs,u,hm19⟩,Nat.lt_succ_self _⟩
 replace hm:=itp_f hm hb10
 refine tn<|th<|cfv o rfl hb10<|we<|tx<|tx<|bx<|tn<|?_
 replace u:=u.pk [0] rfl
 exact ⟨vB1,lB2,cB3,hm,o.has ⟨rfl,trivial⟩,u,hmB4⟩
 rintro a w ⟨vA1,lA2,cA3,hm,o,u,hmA4⟩
 unfold Z78 at hm
 refine th<|rg<|qm o rfl fun a o=>qa o rfl fun a o=>re<|tn<|wr<|?_
 obtain rfl:=si hm
 exact r1 o results153 rfl ⟨mz1,lA2,cA3,rfl,hmA4,u.endFresh t0⟩
theorem Z72_c (hH:H.le w0) (hT:Tab H) {p1:Str} {r:Bool} (hm:Z72 N p1=some r):Tot Tryz.prog 118 #[strv p1] w0 (fun v w'=>v=.bool r∧Keep Nil w0 w'):=by
 unfold Z72 at hm
 refine fn0 func118 rfl ntmps118 rfl rfl fun a o=>?_
 have u:St w0 Nil [H] [] w0:=start1 hH
 refine th<|rg<|qa o rfl fun a o=>re<|tn<|th<|?_
 obtain ⟨rz2,h3,hm⟩:=bs hm
 refine rg<|ls<|c1 o rfl Tryz.call153 (Z77_c (hp_le _) (Tab.mono hT (St.up u)) h3) trivial (fun v w a hR o=>?_)
 obtain ⟨mz4,l5,cz6,rfl,hm7,hk⟩:=hR
 replace u:=u.fresh hk
 refine qm o rfl fun a o=>qv o (e_lookM (ev:=Value.bool) (dv:=false) (m:=rz2) (k:=p1) o key9 runUnderlying163 zeroValue4 (Lds.mapO (St.ld u) t0) rfl rfl hm7) fun a o=>qa o rfl fun a o=>re<|tn<|wr<|?_
 obtain rfl:=si hm
 exact r1 o results118 rfl ⟨rfl,u.keep⟩
theorem Z76_c (hH:H.le w0) {p1:Int} {r:Bool} (hm:Z76 N p1=some r):Tot Tryz.prog 121 #[.int .u8 p1] w0 (fun v w'=>v=.bool r∧Keep Nil w0 w'):=by
 unfold Z76 at hm
 refine fn0 func121 rfl ntmps121 rfl rfl fun a o=>?_
 have u:St w0 Nil [H] [] w0:=start1 hH
 refine th<|rg<|qa o rfl fun a o=>re<|tn<|th<|rg<|qm o rfl fun a o=>qv o (e_geq o rfl rfl) fun a o=>qm o rfl fun a o=>grp (N:=9) (Fk:=[(8,.bool ((decide (48≤p1)) && (decide (p1≤57))))]) (b:=(decide (48≤p1))) 3 u ?_ ?_ ?_
 intro hb key
 replace o:=Fr.as o (t:=5) rfl (congrArg Value.bool hb)
 refine qg o (e_move o rfl) fun a o=>qg o (e_leq o rfl rfl) fun a o=>qv o (e_as (v':=.bool ((decide (48≤p1)) && (decide (p1≤57)))) (e_pickT o rfl rfl) (by rw [hb];rfl)) fun a o=>?_
 exact key _ _ (o.has ⟨rfl,trivial⟩) u
 intro hb key
 replace o:=Fr.as o (t:=5) rfl (congrArg Value.bool hb)
 iterate 2 refine qn o fun a o=>?_
 refine qv o (e_as (v':=.bool ((decide (48≤p1)) && (decide (p1≤57)))) (e_pickF o rfl rfl) (by rw [hb];rfl)) fun a o=>?_
 exact key _ _ (o.has ⟨rfl,trivial⟩) u
 intro a w o u
 refine qa o rfl fun a o=>re<|tn<|wr<|?_
 obtain rfl:=si hm
 exact r1 o results121 rfl ⟨rfl,u.keep⟩
theorem Z74_c (hH:H.le w0) {p1:Int} {r:Bool} (hm:Z74 N p1=some r):Tot Tryz.prog 120 #[.int .u8 p1] w0 (fun v w'=>v=.bool r∧Keep Nil w0 w'):=by
 unfold Z74 at hm
 refine fn0 func120 rfl ntmps120 rfl rfl fun a o=>?_
 have u:St w0 Nil [H] [] w0:=start1 hH
 refine th<|rg<|qa o rfl fun a o=>re<|tn<|th<|?_
 obtain ⟨rz2,h3,hm⟩:=bs hm
 rcases bdich rz2 with hb4 | hb4
 replace hm:=ite_t hm hb4
 refine rg<|qm o rfl fun a o=>ls<|cq o call117 (Z7a_c (hp_le _) h3) ⟨rfl,trivial⟩ u fun w a u o=>qv o (e_as (e_move o rfl) (congrArg Value.bool hb4)) fun a o=>?_
 iterate 2 refine qn o fun a o=>?_
 refine qv o (e_pickT o rfl rfl) fun a o=>qa o rfl fun a o=>re<|tn<|wr<|?_
 obtain rfl:=si hm
 exact r1 o results120 rfl ⟨rfl,u.keep⟩
 replace hm:=ite_f hm hb4
 obtain ⟨rz5,h6,hm⟩:=bs hm
 refine rg<|qm o rfl fun a o=>ls<|cq o call117 (Z7a_c (hp_le _) h3) ⟨rfl,trivial⟩ u fun w a u o=>qv o (e_as (e_move o rfl) (congrArg Value.bool hb4)) fun a o=>qg o (e_move o rfl) fun a o=>ls<|gy o rfl rfl<|cq o call121 (Z76_c (hp_le _) h6) ⟨rfl,trivial⟩ u fun w a u o=>qv o (e_pickF o rfl rfl) fun a o=>qa o rfl fun a o=>re<|tn<|wr<|?_
 obtain rfl:=si hm
 exact r1 o results120 rfl ⟨rfl,u.keep⟩
theorem Z7b_c (hH:H.le w0) {p1:Str} {r:Int} (hm:Z7b N p1=some r):Tot Tryz.prog 119 #[strv p1,.func (.func 120) #[] #[]] w0 (fun v w'=>v=i6 r∧Keep Nil w0 w'):=by
 unfold Z7b at hm
 refine fn0 func119 rfl ntmps119 rfl rfl fun a o=>?_
 have u:St w0 Nil [H] [] w0:=start1 hH
 refine th<|rg<|qa o rfl fun a o=>re<|tn<|th<|rg<|qa o rfl fun a o=>re<|tn<|th<|midK (fun a w=>∃ (vA1:Int),Z7c vA1=some r∧Fr 20 [(5,i6 vA1)] a∧St w0 Nil [H] [] w) ?_ ?_
 refine wb<|lp (α:=Nat×Int) (fun gh a w=>match gh with | (nn2,vB1)=>(Z7e N Z7c p1) nn2 vB1=some r∧Fr 20 [(0,strv p1),(1,.func (.func 120) #[] #[]),(5,i6 vB1)] a∧St w0 Nil [H] [] w) (fun gh=>gh.1) (N,0) ⟨hm,o.hs,u⟩ ?_
 rintro ⟨nn2,vB1⟩ a w ⟨hm,o,u⟩
 obtain _ | nn2:=nn2
 simp [Z7e] at hm
 rw [Z7e] at hm
 refine th<|th<|midK (fun a w=>∃ (vC1:Bool),(Z7d Z7c (Z7e N Z7c p1 nn2) vB1) vC1=some r∧Fr 20 [(0,strv p1),(1,.func (.func 120) #[] #[]),(5,i6 vB1),(16,.bool vC1)] a∧St w0 Nil [H] [] w) ?_ ?_
 rcases bdich (decide (vB1 < (p1.length:Int))) with hb2 | hb2
 replace hm:=itp_t hm hb2
 obtain ⟨xz3,h4,hm⟩:=bs hm
 obtain ⟨rz5,h6,hm⟩:=bs hm
 refine rg<|qm o rfl fun a o=>qm o rfl fun a o=>qv o (e_lenU (s:=p1) o runUnderlying9 rfl) fun a o=>qv o (e_lss o rfl rfl) fun a o=>qv o (e_as (e_move o rfl) (congrArg Value.bool hb2)) fun a o=>?_
 iterate 3 refine qg o (e_move o rfl) fun a o=>?_
 refine qg o (e_byte (s:=p1) o runUnderlying9 rfl rfl h4) fun a o=>ls<|gy o rfl rfl<|k1 (vs:=[.int .u8 xz3]) (caps:=[]) o rfl rfl call120 (Z74_c (hp_le _) h6) ⟨rfl,trivial⟩ rfl (fun v w a hR o=>?_)
 obtain ⟨rfl,hk⟩:=hR
 replace u:=u.pass hk
 refine qv o (e_pickT o rfl rfl) fun a o=>re<|tn<|?_
 exact ⟨rz5,hm,o.hs,u⟩
 replace hm:=itp_f hm hb2
 refine rg<|qm o rfl fun a o=>qm o rfl fun a o=>qv o (e_lenU (s:=p1) o runUnderlying9 rfl) fun a o=>qv o (e_lss o rfl rfl) fun a o=>qv o (e_as (e_move o rfl) (congrArg Value.bool hb2)) fun a o=>?_
 iterate 5 refine qn o fun a o=>?_
 refine qv o (e_pickF o rfl rfl) fun a o=>re<|tn<|?_
 exact ⟨false,hm,o.hs,u⟩
 rintro a w ⟨vC1,hm,o,u⟩
 unfold Z7d at hm
 rcases bdich vC1 with hb7 | hb7
 replace hm:=ite_t hm hb7
 refine ctv o rfl hb7<|wk<|tn<|wb<|rg<|qm o rfl fun a o=>qv o (e_add o rfl rfl) fun a o=>qa o rfl fun a o=>re<|bn<|tn<|?_
 exact ⟨(nn2,(IntKind.i64.wrap (vB1+1))),⟨hm,o.hs,u⟩,Nat.lt_succ_self _⟩
 replace hm:=ite_f hm hb7
 refine cfv o rfl hb7<|we<|tx<|tx<|bx<|tn<|?_
 exact ⟨vB1,hm,o.has ⟨rfl,trivial⟩,u⟩
 rintro a w ⟨vA1,hm,o,u⟩
 unfold Z7c at hm
 refine th<|rg<|qm o rfl fun a o=>qa o rfl fun a o=>re<|tn<|wr<|?_
 obtain rfl:=si hm
 exact r1 o results119 rfl ⟨rfl,u.keep⟩
theorem Z73_c (hH:H.le w0) (hT:Tab H) {p1:Str} {r:Bool} (hm:Z73 N p1=some r):Tot Tryz.prog 82 #[strv p1] w0 (fun v w'=>v=.bool r∧Keep Nil w0 w'):=by
 unfold Z73 at hm
 refine fn0 func82 rfl ntmps82 rfl rfl fun a o=>?_
 have u:St w0 Nil [H] [] w0:=start1 hH
 refine th<|rg<|qa o rfl fun a o=>re<|tn<|th<|th<|midK (fun a w=>∃ (vA1:Bool),(Z75 N p1) vA1=some r∧Fr 25 [(0,strv p1),(19,.bool vA1)] a∧St w0 Nil [H] [] w) ?_ ?_
 rcases bdich ((decide (p1=[])) || (decide (16 < (p1.length:Int)))) with hb2 | hb2
 replace hm:=ite_t hm hb2
 refine rg<|qm o rfl fun a o=>qv o (e_eqlU (m:=p1) (n:=[]) o rfl rfl) fun a o=>qm o rfl fun a o=>grp (N:=25) (Fk:=[(0,strv p1),(9,.bool ((decide (p1=[])) || (decide (16 < (p1.length:Int)))))]) (b:=(decide (p1=[]))) 4 u ?_ ?_ ?_
 intro hb key
 replace o:=Fr.as o (t:=5) rfl (congrArg Value.bool hb)
 iterate 3 refine qn o fun a o=>?_
 refine qv o (e_as (v':=.bool ((decide (p1=[])) || (decide (16 < (p1.length:Int))))) (e_pickT o rfl rfl) (by rw [hb];rfl)) fun a o=>?_
 exact key _ _ (o.has ⟨rfl,rfl,trivial⟩) u
 intro hb key
 replace o:=Fr.as o (t:=5) rfl (congrArg Value.bool hb)
 refine qg o (e_move o rfl) fun a o=>qg o (e_lenU (s:=p1) o runUnderlying9 rfl) fun a o=>qg o (e_gtr o rfl rfl) fun a o=>qv o (e_as (v':=.bool ((decide (p1=[])) || (decide (16 < (p1.length:Int))))) (e_pickF o rfl rfl) (by rw [hb];rfl)) fun a o=>?_
 exact key _ _ (o.has ⟨rfl,rfl,trivial⟩) u
 intro a w o u
 refine qv o (e_as (e_move o rfl) (congrArg Value.bool hb2)) fun a o=>?_
 iterate 4 refine qn o fun a o=>?_
 refine qv o (e_pickT o rfl rfl) fun a o=>qm o rfl fun a o=>?_
 iterate 2 refine qn o fun a o=>?_
 refine qv o (e_pickT o rfl rfl) fun a o=>re<|tn<|?_
 exact ⟨true,hm,o.has ⟨rfl,rfl,trivial⟩,u⟩
 replace hm:=ite_f hm hb2
 obtain ⟨xz3,h4,hm⟩:=bs hm
 obtain ⟨rz5,h6,hm⟩:=bs hm
 rcases bdich rz5 with hb7 | hb7
 replace hm:=ite_t hm hb7
 have hb7':(!rz5)=false:=by rw [hb7];rfl
 obtain ⟨rz8,h9,hm⟩:=bs hm
 refine rg<|qm o rfl fun a o=>qv o (e_eqlU (m:=p1) (n:=[]) o rfl rfl) fun a o=>qm o rfl fun a o=>grp (N:=25) (Fk:=[(0,strv p1),(9,.bool ((decide (p1=[])) || (decide (16 < (p1.length:Int)))))]) (b:=(decide (p1=[]))) 4 u ?_ ?_ ?_
 intro hb key
 replace o:=Fr.as o (t:=5) rfl (congrArg Value.bool hb)
 iterate 3 refine qn o fun a o=>?_
 refine qv o (e_as (v':=.bool ((decide (p1=[])) || (decide (16 < (p1.length:Int))))) (e_pickT o rfl rfl) (by rw [hb];rfl)) fun a o=>?_
 exact key _ _ (o.has ⟨rfl,rfl,trivial⟩) u
 intro hb key
 replace o:=Fr.as o (t:=5) rfl (congrArg Value.bool hb)
 refine qg o (e_move o rfl) fun a o=>qg o (e_lenU (s:=p1) o runUnderlying9 rfl) fun a o=>qg o (e_gtr o rfl rfl) fun a o=>qv o (e_as (v':=.bool ((decide (p1=[])) || (decide (16 < (p1.length:Int))))) (e_pickF o rfl rfl) (by rw [hb];rfl)) fun a o=>?_
 exact key _ _ (o.has ⟨rfl,rfl,trivial⟩) u
 intro a w o u
 refine qv o (e_as (e_move o rfl) (congrArg Value.bool hb2)) fun a o=>qg o (e_move o rfl) fun a o=>qg o (e_byte (s:=p1) o runUnderlying9 rfl rfl h4) fun a o=>ls<|gy o rfl rfl<|cq o call117 (Z7a_c (hp_le _) h6) ⟨rfl,trivial⟩ u fun w a u o=>qg o (e_not o rfl) fun a o=>qv o (e_pickF o rfl rfl) fun a o=>qv o (e_as (e_move o rfl) (congrArg Value.bool hb7')) fun a o=>qg o (e_move o rfl) fun a o=>ls<|gy o rfl rfl<|cq o call118 (Z72_c (hp_le _) (Tab.mono hT (St.up u)) h9) ⟨rfl,trivial⟩ u fun w a u o=>qv o (e_pickF o rfl rfl) fun a o=>re<|tn<|?_
 exact ⟨rz8,hm,o.has ⟨rfl,rfl,trivial⟩,u⟩
 replace hm:=ite_f hm hb7
 have hb7':(!rz5)=true:=by rw [hb7];rfl
 refine rg<|qm o rfl fun a o=>qv o (e_eqlU (m:=p1) (n:=[]) o rfl rfl) fun a o=>qm o rfl fun a o=>grp (N:=25) (Fk:=[(0,strv p1),(9,.bool ((decide (p1=[])) || (decide (16 < (p1.length:Int)))))]) (b:=(decide (p1=[]))) 4 u ?_ ?_ ?_
 intro hb key
 replace o:=Fr.as o (t:=5) rfl (congrArg Value.bool hb)
 iterate 3 refine qn o fun a o=>?_
 refine qv o (e_as (v':=.bool ((decide (p1=[])) || (decide (16 < (p1.length:Int))))) (e_pickT o rfl rfl) (by rw [hb];rfl)) fun a o=>?_
 exact key _ _ (o.has ⟨rfl,rfl,trivial⟩) u
 intro hb key
 replace o:=Fr.as o (t:=5) rfl (congrArg Value.bool hb)
 refine qg o (e_move o rfl) fun a o=>qg o (e_lenU (s:=p1) o runUnderlying9 rfl) fun a o=>qg o (e_gtr o rfl rfl) fun a o=>qv o (e_as (v':=.bool ((decide (p1=[])) || (decide (16 < (p1.length:Int))))) (e_pickF o rfl rfl) (by rw [hb];rfl)) fun a o=>?_
 exact key _ _ (o.has ⟨rfl,rfl,trivial⟩) u
 intro a w o u
 refine qv o (e_as (e_move o rfl) (congrArg Value.bool hb2)) fun a o=>qg o (e_move o rfl) fun a o=>qg o (e_byte (s:=p1) o runUnderlying9 rfl rfl h4) fun a o=>ls<|gy o rfl rfl<|cq o call117 (Z7a_c (hp_le _) h6) ⟨rfl,trivial⟩ u fun w a u o=>qg o (e_not o rfl) fun a o=>qv o (e_pickF o rfl rfl) fun a o=>qv o (e_as (e_move o rfl) (congrArg Value.bool hb7')) fun a o=>?_
 iterate 2 refine qn o fun a o=>?_
 refine qv o (e_pickT o rfl rfl) fun a o=>re<|tn<|?_
 exact ⟨true,hm,o.has ⟨rfl,rfl,trivial⟩,u⟩
 rintro a w ⟨vA1,hm,o,u⟩
 unfold Z75 at hm
 rcases bdich vA1 with hb10 | hb10
 replace hm:=ite_t hm hb10
 refine ctv o rfl hb10<|th<|rg<|qa o rfl fun a o=>re<|tn<|wr<|tr<|?_
 obtain rfl:=si hm
 exact r1 o results82 rfl ⟨rfl,u.keep⟩
 replace hm:=ite_f hm hb10
 refine cfv o rfl hb10<|wk<|tn<|th<|?_
 obtain ⟨r11,h12,hm⟩:=bs hm
 refine rg<|qm o rfl fun a o=>ls<|cq o call119 (Z7b_c (hp_le _) h12) ⟨rfl,rfl,trivial⟩ u fun w a u o=>qm o rfl fun a o=>qv o (e_lenU (s:=p1) o runUnderlying9 rfl) fun a o=>qv o (e_eql o rfl rfl) fun a o=>qa o rfl fun a o=>re<|tn<|wr<|?_
 obtain rfl:=si hm
 exact r1 o results82 rfl ⟨rfl,u.keep⟩
theorem Z6z_c (hH:H.le w0) {p1:Int} {r:Bool} (hm:Z6z N p1=some r):Tot Tryz.prog 86 #[i6 p1] w0 (fun v w'=>v=.bool r∧Keep Nil w0 w'):=by
 unfold Z6z at hm
 refine fn0 func86 rfl ntmps86 rfl rfl fun a o=>?_
 have u:St w0 Nil [H] [] w0:=start1 hH
 refine th<|rg<|qa o rfl fun a o=>re<|tn<|th<|rg<|qm o rfl fun a o=>qv o (e_geq o rfl rfl) fun a o=>qm o rfl fun a o=>grp (N:=9) (Fk:=[(8,.bool ((decide (0≤p1)) && (decide (p1≤4000))))]) (b:=(decide (0≤p1))) 3 u ?_ ?_ ?_
 intro hb key
 replace o:=Fr.as o (t:=5) rfl (congrArg Value.bool hb)
 refine qg o (e_move o rfl) fun a o=>qg o (e_leq o rfl rfl) fun a o=>qv o (e_as (v':=.bool ((decide (0≤p1)) && (decide (p1≤4000)))) (e_pickT o rfl rfl) (by rw [hb];rfl)) fun a o=>?_
 exact key _ _ (o.has ⟨rfl,trivial⟩) u
 intro hb key
 replace o:=Fr.as o (t:=5) rfl (congrArg Value.bool hb)
 iterate 2 refine qn o fun a o=>?_
 refine qv o (e_as (v':=.bool ((decide (0≤p1)) && (decide (p1≤4000)))) (e_pickF o rfl rfl) (by rw [hb];rfl)) fun a o=>?_
 exact key _ _ (o.has ⟨rfl,trivial⟩) u
 intro a w o u
 refine qa o rfl fun a o=>re<|tn<|wr<|?_
 obtain rfl:=si hm
 exact r1 o results86 rfl ⟨rfl,u.keep⟩
theorem Z6y_c (hH:H.le w0) (hT:Tab H) {p1:api_Cell} {y3:Int} {b2:Nat} (hb4:H b2=some (.cells [i6 y3].toArray 3 (0,0))) {r:Bool} (hm:Z6y N p1 y3=some r):Tot Tryz.prog 116 #[.agg #[strv p1.Name,i6 p1.N,i6 p1.At],.pointer (some ⟨b2,0,none⟩)] w0 (fun v w'=>v=.bool r∧Keep Nil w0 w'):=by
 unfold Z6y at hm
 refine fn0 func116 rfl ntmps116 rfl rfl fun a o=>?_
 have u:St w0 Nil [H] [] w0:=start1 hH
 refine th<|rg<|ls<|a_box (cs:=[strv p1.Name,i6 p1.N,i6 p1.At].toArray) o rfl u rfl rfl fun b5 w a u o=>qa o rfl fun a o=>re<|tn<|th<|?_
 obtain ⟨rz6,h7,hm⟩:=bs hm
 rcases bdich (((!rz6) || (decide (p1.N < 0))) || (decide (y3 < p1.N))) with hb8 | hb8
 replace hm:=ite_t hm hb8
 refine rg<|qv o (e_fa o fa53_0 rfl) fun a o=>qv o (e_ld o isAgg9 rfl ((St.ld u).cellB t0 rfl)) fun a o=>ls<|cq o call82 (Z73_c (hp_le _) (Tab.mono hT (St.up u)) h7) ⟨rfl,trivial⟩ u fun w a u o=>qv o (e_not o rfl) fun a o=>qm o rfl fun a o=>grp (N:=25) (Fk:=[(1,.pointer (some ⟨b2,0,none⟩)),(2,.pointer (some ⟨b5,0,none⟩)),(12,.bool ((!rz6) || (decide (p1.N < 0))))]) (b:=(!rz6)) 4 u ?_ ?_ ?_
 intro hb key
 replace o:=Fr.as o (t:=8) rfl (congrArg Value.bool hb)
 iterate 3 refine qn o fun a o=>?_
 refine qv o (e_as (v':=.bool ((!rz6) || (decide (p1.N < 0)))) (e_pickT o rfl rfl) (by rw [hb];rfl)) fun a o=>?_
 exact key _ _ (o.hs) u
 intro hb key
 replace o:=Fr.as o (t:=8) rfl (congrArg Value.bool hb)
 refine qg o (e_fa o fa53_1 rfl) fun a o=>qg o (e_ld o isAgg3 rfl ((St.ld u).cellB t0 rfl)) fun a o=>qg o (e_lss o rfl rfl) fun a o=>qv o (e_as (v':=.bool ((!rz6) || (decide (p1.N < 0)))) (e_pickF o rfl rfl) (by rw [hb];rfl)) fun a o=>?_
 exact key _ _ (o.hs) u
 intro a w o u
 refine qm o rfl fun a o=>grp (N:=25) (Fk:=[(2,.pointer (some ⟨b5,0,none⟩)),(18,.bool (((!rz6) || (decide (p1.N < 0))) || (decide (y3 < p1.N))))]) (b:=((!rz6) || (decide (p1.N < 0)))) 5 u ?_ ?_ ?_
 intro hb key
 replace o:=Fr.as o (t:=13) rfl (congrArg Value.bool hb)
 iterate 4 refine qn o fun a o=>?_
 refine qv o (e_as (v':=.bool (((!rz6) || (decide (p1.N < 0))) || (decide (y3 < p1.N)))) (e_pickT o rfl rfl) (by rw [hb];rfl)) fun a o=>?_
 exact key _ _ (o.has ⟨rfl,rfl,trivial⟩) u
 intro hb key
 replace o:=Fr.as o (t:=13) rfl (congrArg Value.bool hb)
 refine qg o (e_fa o fa53_1 rfl) fun a o=>qg o (e_ld o isAgg3 rfl ((St.ld u).cellB t0 rfl)) fun a o=>qg o (e_ld o isAgg3 rfl (PH.le.cell (Lds.le (St.ld u)) (ph_cell hb4 rfl))) fun a o=>qg o (e_gtr o rfl rfl) fun a o=>qv o (e_as (v':=.bool (((!rz6) || (decide (p1.N < 0))) || (decide (y3 < p1.N)))) (e_pickF o rfl rfl) (by rw [hb];rfl)) fun a o=>?_
 exact key _ _ (o.has ⟨rfl,rfl,trivial⟩) u
 intro a w o u
 refine qv o (e_as (e_move o rfl) (congrArg Value.bool hb8)) fun a o=>?_
 iterate 4 refine qn o fun a o=>?_
 refine qv o (e_pickT o rfl rfl) fun a o=>qa o rfl fun a o=>re<|tn<|wr<|?_
 obtain rfl:=si hm
 exact r1 o results116 rfl ⟨rfl,u.keep⟩
 replace hm:=ite_f hm hb8
 obtain ⟨rz9,h10,hm⟩:=bs hm
 refine rg<|qv o (e_fa o fa53_0 rfl) fun a o=>qv o (e_ld o isAgg9 rfl ((St.ld u).cellB t0 rfl)) fun a o=>ls<|cq o call82 (Z73_c (hp_le _) (Tab.mono hT (St.up u)) h7) ⟨rfl,trivial⟩ u fun w a u o=>qv o (e_not o rfl) fun a o=>qm o rfl fun a o=>grp (N:=25) (Fk:=[(1,.pointer (some ⟨b2,0,none⟩)),(2,.pointer (some ⟨b5,0,none⟩)),(12,.bool ((!rz6) || (decide (p1.N < 0))))]) (b:=(!rz6)) 4 u ?_ ?_ ?_
 intro hb key
 replace o:=Fr.as o (t:=8) rfl (congrArg Value.bool hb)
 iterate 3 refine qn o fun a o=>?_
 refine qv o (e_as (v':=.bool ((!rz6) || (decide (p1.N < 0)))) (e_pickT o rfl rfl) (by rw [hb];rfl)) fun a o=>?_
 exact key _ _ (o.hs) u
 intro hb key
 replace o:=Fr.as o (t:=8) rfl (congrArg Value.bool hb)
 refine qg o (e_fa o fa53_1 rfl) fun a o=>qg o (e_ld o isAgg3 rfl ((St.ld u).cellB t0 rfl)) fun a o=>qg o (e_lss o rfl rfl) fun a o=>qv o (e_as (v':=.bool ((!rz6) || (decide (p1.N < 0)))) (e_pickF o rfl rfl) (by rw [hb];rfl)) fun a o=>?_
 exact key _ _ (o.hs) u
 intro a w o u
 refine qm o rfl fun a o=>grp (N:=25) (Fk:=[(2,.pointer (some ⟨b5,0,none⟩)),(18,.bool (((!rz6) || (decide (p1.N < 0))) || (decide (y3 < p1.N))))]) (b:=((!rz6) || (decide (p1.N < 0)))) 5 u ?_ ?_ ?_
 intro hb key
 replace o:=Fr.as o (t:=13) rfl (congrArg Value.bool hb)
 iterate 4 refine qn o fun a o=>?_
 refine qv o (e_as (v':=.bool (((!rz6) || (decide (p1.N < 0))) || (decide (y3 < p1.N)))) (e_pickT o rfl rfl) (by rw [hb];rfl)) fun a o=>?_
 exact key _ _ (o.has ⟨rfl,rfl,trivial⟩) u
 intro hb key
 replace o:=Fr.as o (t:=13) rfl (congrArg Value.bool hb)
 refine qg o (e_fa o fa53_1 rfl) fun a o=>qg o (e_ld o isAgg3 rfl ((St.ld u).cellB t0 rfl)) fun a o=>qg o (e_ld o isAgg3 rfl (PH.le.cell (Lds.le (St.ld u)) (ph_cell hb4 rfl))) fun a o=>qg o (e_gtr o rfl rfl) fun a o=>qv o (e_as (v':=.bool (((!rz6) || (decide (p1.N < 0))) || (decide (y3 < p1.N)))) (e_pickF o rfl rfl) (by rw [hb];rfl)) fun a o=>?_
 exact key _ _ (o.has ⟨rfl,rfl,trivial⟩) u
 intro a w o u
 refine qv o (e_as (e_move o rfl) (congrArg Value.bool hb8)) fun a o=>qg o (e_fa o fa53_2 rfl) fun a o=>qg o (e_ld o isAgg3 rfl ((St.ld u).cellB t0 rfl)) fun a o=>ls<|gy o rfl rfl<|cq o call86 (Z6z_c (hp_le _) h10) ⟨rfl,trivial⟩ u fun w a u o=>qg o (e_not o rfl) fun a o=>qv o (e_pickF o rfl rfl) fun a o=>qa o rfl fun a o=>re<|tn<|wr<|?_
 obtain rfl:=si hm
 exact r1 o results116 rfl ⟨rfl,u.keep⟩
theorem Z81_c (hH:H.le w0) (hT:Tab H) {oa2:Option Addr} {cap3:Nat} {p1:(List api_Cell)} (_:p1.length≤cap3) (hr5:SR H oa2 p1) {y7:Int} {b6:Nat} (hb8:H b6=some (.cells [i6 y7].toArray 3 (0,0))) {r:Int} (hm:Z81 N p1 y7=some r):Tot Tryz.prog 152 #[.slice oa2 p1.length cap3,.func (.func 116) #[] #[.pointer (some ⟨b6,0,none⟩)]] w0 (fun v w'=>v=i6 r∧Keep Nil w0 w'):=by
 unfold Z81 at hm
 refine fn0 func152 rfl ntmps152 rfl rfl fun a o=>?_
 have u:St w0 Nil [H] [] w0:=start1 hH
 refine th<|rg<|qa o rfl fun a o=>re<|tn<|th<|th<|rg<|qm o rfl fun a o=>qv o (e_lenL (α:=api_Cell) (xs:=p1) o runUnderlying23 rfl) fun a o=>qm o rfl fun a o=>re<|tn<|midK (fun a w=>Z82=some r∧Fr 19 [] a∧St w0 Nil [H] [] w) ?_ ?_
 refine wb<|lp (α:=Nat×Int) (fun gh a w=>match gh with | (nn2,vB1)=>(Z83 N Z82 p1 y7) nn2 vB1=some r∧Fr 19 [(0,.slice oa2 p1.length cap3),(1,.func (.func 116) #[] #[.pointer (some ⟨b6,0,none⟩)]),(7,i6 (p1.length:Int)),(8,i6 vB1)] a∧St w0 Nil [H] [] w) (fun gh=>gh.1) (N,0) ⟨hm,o.hs,u⟩ ?_
 rintro ⟨nn2,vB1⟩ a w ⟨hm,o,u⟩
 obtain _ | nn2:=nn2
 simp [Z83] at hm
 rw [Z83] at hm
 refine th<|rg<|qv o (e_lss o rfl rfl) fun a o=>re<|?_
 rcases bdich (decide (vB1 < (p1.length:Int))) with hb9 | hb9
 replace hm:=itp_t hm hb9
 refine tn<|th<|ctv o rfl hb9<|wk<|tn<|th<|wb<|th<|rg<|qm o rfl fun a o=>qa o rfl fun a o=>re<|tn<|th<|?_
 obtain ⟨x10,h11,hm⟩:=bs hm
 obtain ⟨c12,g13,hl14⟩:=SR.get hr5 h11
 obtain rfl:=api_Cell_open g13
 obtain ⟨r15,h16,hm⟩:=bs hm
 refine rg<|qm o rfl fun a o=>?_
 iterate 2 refine qm o rfl fun a o=>?_
 refine qv o (e_iaI o runUnderlying23 sizeOf53 rfl rfl h11 (SR.oaI hr5 (by decide) h11)) fun a o=>qv o (e_ldA o isAgg53 sizeOf53 rfl rfl (fun j v hj=>PH.le.cell (Lds.le (St.ld u)) (hl14 j v hj))) fun a o=>ls<|k1 (vs:=[.agg #[strv x10.Name,i6 x10.N,i6 x10.At]]) (caps:=[.pointer (some ⟨b6,0,none⟩)]) o rfl rfl call116 (Z6y_c (hp_le _) (Tab.mono hT (St.up u)) (St.up u _ _ hb8) h16) ⟨rfl,trivial⟩ rfl (fun v w a hR o=>?_)
 obtain ⟨rfl,hk⟩:=hR
 replace u:=u.pass hk
 refine re<|?_
 rcases bdich r15 with hb17 | hb17
 replace hm:=ite_t hm hb17
 refine tn<|ctv o rfl hb17<|th<|rg<|qm o rfl fun a o=>qa o rfl fun a o=>re<|tn<|wr<|br<|tr<|tr<|br<|tr<|?_
 obtain rfl:=si hm
 exact r1 o results152 rfl ⟨rfl,u.keep⟩
 replace hm:=ite_f hm hb17
 refine tn<|cfv o rfl hb17<|wk<|bn<|tn<|rg<|qv o (e_add o rfl rfl) fun a o=>qm o rfl fun a o=>re<|tn<|?_
 exact ⟨(nn2,(IntKind.i64.wrap (vB1+1))),⟨hm,o.hs,u⟩,Nat.lt_succ_self _⟩
 replace hm:=itp_f hm hb9
 refine tn<|th<|cfv o rfl hb9<|we<|tx<|tx<|bx<|tn<|?_
 exact ⟨hm,o.has trivial,u⟩
 rintro a w ⟨hm,o,u⟩
 unfold Z82 at hm
 refine th<|rg<|qa o rfl fun a o=>re<|tn<|wr<|?_
 obtain rfl:=si hm
 exact r1 o results152 rfl ⟨rfl,u.keep⟩
theorem Z7m_c (hH:H.le w0) (hT:Tab H) {oa2:Option Addr} {cap3:Nat} {p1:(List api_Cell)} (hc4:p1.length≤cap3) (hr5:SR H oa2 p1) {y7:Int} {b6:Nat} (hb8:H b6=some (.cells [i6 y7].toArray 3 (0,0))) {r:Bool} (hm:Z7m N p1 y7=some r):Tot Tryz.prog 115 #[.slice oa2 p1.length cap3,.func (.func 116) #[] #[.pointer (some ⟨b6,0,none⟩)]] w0 (fun v w'=>v=.bool r∧Keep Nil w0 w'):=by
 unfold Z7m at hm
 refine fn0 func115 rfl ntmps115 rfl rfl fun a o=>?_
 have u:St w0 Nil [H] [] w0:=start1 hH
 refine th<|rg<|qa o rfl fun a o=>re<|tn<|th<|?_
 obtain ⟨rz9,h10,hm⟩:=bs hm
 refine rg<|qm o rfl fun a o=>qm o rfl fun a o=>ls<|cq o call152 (Z81_c (hp_le _) (Tab.mono hT (St.up u)) hc4 (St.srH u hr5) (St.up u _ _ hb8) h10) ⟨rfl,rfl,trivial⟩ u fun w a u o=>qv o (e_geq o rfl rfl) fun a o=>qa o rfl fun a o=>re<|tn<|wr<|?_
 obtain rfl:=si hm
 exact r1 o results115 rfl ⟨rfl,u.keep⟩
theorem Z6x_c (hH:H.le w0) (hT:Tab H) {oa2:Option Addr} {cap3:Nat} {p1:(List api_Cell)} (hc4:p1.length≤cap3) (hr5:SR H oa2 p1) {p6:Int} {r:Bool} (hm:Z6x N p1 p6=some r):Tot Tryz.prog 80 #[.slice oa2 p1.length cap3,i6 p6] w0 (fun v w'=>v=.bool r∧Keep Nil w0 w'):=by
 unfold Z6x at hm
 refine fn0 func80 rfl ntmps80 rfl rfl fun a o=>?_
 have u:St w0 Nil [H] [] w0:=start1 hH
 refine th<|rg<|ls<|a_box (cs:=[i6 p6].toArray) o rfl u rfl rfl fun b7 w a u o=>qa o rfl fun a o=>re<|tn<|th<|?_
 obtain ⟨rz8,h9,hm⟩:=bs hm
 refine rg<|qm o rfl fun a o=>qv o (e_mkf (vs:=[.pointer (some ⟨b7,0,none⟩)]) o ⟨rfl,trivial⟩) fun a o=>ls<|cq o call115 (Z7m_c (hp_le _) (Tab.mono hT (St.up u)) hc4 (St.srH u hr5) (St.blkO u t0) h9) ⟨rfl,rfl,trivial⟩ u fun w a u o=>qv o (e_not o rfl) fun a o=>qa o rfl fun a o=>re<|tn<|wr<|?_
 obtain rfl:=si hm
 exact r1 o results80 rfl ⟨rfl,u.keep⟩
theorem Z6s_c (hH:H.le w0) (hT:Tab H) {oa2:Option Addr} {cap3:Nat} {p1:(List api_Cell)} (hc4:p1.length≤cap3) (hr5:SR H oa2 p1) {r:Bool} (hm:Z6s N p1=some r):Tot Tryz.prog 79 #[.slice oa2 p1.length cap3] w0 (fun v w'=>v=.bool r∧Keep Nil w0 w'):=by
 unfold Z6s at hm
 refine fn0 func79 rfl ntmps79 rfl rfl fun a o=>?_
 have u:St w0 Nil [H] [] w0:=start1 hH
 refine th<|rg<|qa o rfl fun a o=>re<|tn<|th<|?_
 rcases bdich (decide ((p1.length:Int)=0)) with hb6 | hb6
 replace hm:=itp_t hm hb6
 refine rg<|qm o rfl fun a o=>qv o (e_lenL (α:=api_Cell) (xs:=p1) o runUnderlying23 rfl) fun a o=>qv o (e_eql o rfl rfl) fun a o=>qv o (e_as (e_move o rfl) (congrArg Value.bool hb6)) fun a o=>?_
 iterate 3 refine qn o fun a o=>?_
 refine qv o (e_pickT o rfl rfl) fun a o=>qa o rfl fun a o=>re<|tn<|wr<|?_
 obtain rfl:=si hm
 exact r1 o results79 rfl ⟨rfl,u.keep⟩
 replace hm:=itp_f hm hb6
 obtain ⟨rz7,h8,hm⟩:=bs hm
 refine rg<|qm o rfl fun a o=>qv o (e_lenL (α:=api_Cell) (xs:=p1) o runUnderlying23 rfl) fun a o=>qv o (e_eql o rfl rfl) fun a o=>qv o (e_as (e_move o rfl) (congrArg Value.bool hb6)) fun a o=>qg o (e_move o rfl) fun a o=>ls<|gy o rfl rfl<|cq o call80 (Z6x_c (hp_le _) (Tab.mono hT (St.up u)) hc4 (St.srH u hr5) h8) ⟨rfl,rfl,trivial⟩ u fun w a u o=>qg o (e_not o rfl) fun a o=>qv o (e_pickF o rfl rfl) fun a o=>qa o rfl fun a o=>re<|tn<|wr<|?_
 obtain rfl:=si hm
 exact r1 o results79 rfl ⟨rfl,u.keep⟩
theorem Z7v_c (hH:H.le w0) (hT:Tab H) {oa2:Option Addr} {cap3:Nat} {p1:(List (List api_Cell))} (_:p1.length≤cap3) (hr5:SR H oa2 p1) {r:Int} (hm:Z7v N p1=some r):Tot Tryz.prog 129 #[.slice oa2 p1.length cap3,.func (.func 79) #[] #[]] w0 (fun v w'=>v=i6 r∧Keep Nil w0 w'):=by
 unfold Z7v at hm
 refine fn0 func129 rfl ntmps129 rfl rfl fun a o=>?_
 have u:St w0 Nil [H] [] w0:=start1 hH
 refine th<|rg<|qa o rfl fun a o=>re<|tn<|th<|th<|rg<|qm o rfl fun a o=>qv o (e_lenL (α:=(List api_Cell)) (xs:=p1) o runUnderlying22 rfl) fun a o=>qm o rfl fun a o=>re<|tn<|midK (fun a w=>Z7w=some r∧Fr 19 [] a∧St w0 Nil [H] [] w) ?_ ?_
 refine wb<|lp (α:=Nat×Int) (fun gh a w=>match gh with | (nn2,vB1)=>(Z7x N Z7w p1) nn2 vB1=some r∧Fr 19 [(0,.slice oa2 p1.length cap3),(1,.func (.func 79) #[] #[]),(7,i6 (p1.length:Int)),(8,i6 vB1)] a∧St w0 Nil [H] [] w) (fun gh=>gh.1) (N,0) ⟨hm,o.hs,u⟩ ?_
 rintro ⟨nn2,vB1⟩ a w ⟨hm,o,u⟩
 obtain _ | nn2:=nn2
 simp [Z7x] at hm
 rw [Z7x] at hm
 refine th<|rg<|qv o (e_lss o rfl rfl) fun a o=>re<|?_
 rcases bdich (decide (vB1 < (p1.length:Int))) with hb6 | hb6
 replace hm:=itp_t hm hb6
 refine tn<|th<|ctv o rfl hb6<|wk<|tn<|th<|wb<|th<|rg<|qm o rfl fun a o=>qa o rfl fun a o=>re<|tn<|th<|?_
 obtain ⟨xz7,h8,hm⟩:=bs hm
 obtain ⟨cz9,g10,hl11⟩:=SR.get hr5 h8
 obtain ⟨oa12,cap13,rfl,hc14,hr15⟩:=g10
 obtain ⟨r16,h17,hm⟩:=bs hm
 refine rg<|qm o rfl fun a o=>?_
 iterate 2 refine qm o rfl fun a o=>?_
 refine qv o (e_iaI o runUnderlying22 sizeOf23 rfl rfl h8 (SR.oaI hr5 (by decide) h8)) fun a o=>qv o (e_ld o isAgg23 rfl (PH.le.cell (Lds.le (St.ld u)) (hl11 0 _ rfl))) fun a o=>ls<|k1 (vs:=[.slice oa12 xz7.length cap13]) (caps:=[]) o rfl rfl call79 (Z6s_c (hp_le _) (Tab.mono hT (St.up u)) hc14 (St.srH u hr15) h17) ⟨rfl,trivial⟩ rfl (fun v w a hR o=>?_)
 obtain ⟨rfl,hk⟩:=hR
 replace u:=u.pass hk
 refine re<|?_
 rcases bdich r16 with hb18 | hb18
 replace hm:=ite_t hm hb18
 refine tn<|ctv o rfl hb18<|th<|rg<|qm o rfl fun a o=>qa o rfl fun a o=>re<|tn<|wr<|br<|tr<|tr<|br<|tr<|?_
 obtain rfl:=si hm
 exact r1 o results129 rfl ⟨rfl,u.keep⟩
 replace hm:=ite_f hm hb18
 refine tn<|cfv o rfl hb18<|wk<|bn<|tn<|rg<|qv o (e_add o rfl rfl) fun a o=>qm o rfl fun a o=>re<|tn<|?_
 exact ⟨(nn2,(IntKind.i64.wrap (vB1+1))),⟨hm,o.hs,u⟩,Nat.lt_succ_self _⟩
 replace hm:=itp_f hm hb6
 refine tn<|th<|cfv o rfl hb6<|we<|tx<|tx<|bx<|tn<|?_
 exact ⟨hm,o.has trivial,u⟩
 rintro a w ⟨hm,o,u⟩
 unfold Z7w at hm
 refine th<|rg<|qa o rfl fun a o=>re<|tn<|wr<|?_
 obtain rfl:=si hm
 exact r1 o results129 rfl ⟨rfl,u.keep⟩
theorem Z7k_c (hH:H.le w0) (hT:Tab H) {oa2:Option Addr} {cap3:Nat} {p1:(List (List api_Cell))} (hc4:p1.length≤cap3) (hr5:SR H oa2 p1) {r:Bool} (hm:Z7k N p1=some r):Tot Tryz.prog 88 #[.slice oa2 p1.length cap3,.func (.func 79) #[] #[]] w0 (fun v w'=>v=.bool r∧Keep Nil w0 w'):=by
 unfold Z7k at hm
 refine fn0 func88 rfl ntmps88 rfl rfl fun a o=>?_
 have u:St w0 Nil [H] [] w0:=start1 hH
 refine th<|rg<|qa o rfl fun a o=>re<|tn<|th<|?_
 obtain ⟨rz6,h7,hm⟩:=bs hm
 refine rg<|qm o rfl fun a o=>qm o rfl fun a o=>ls<|cq o call129 (Z7v_c (hp_le _) (Tab.mono hT (St.up u)) hc4 (St.srH u hr5) h7) ⟨rfl,rfl,trivial⟩ u fun w a u o=>qv o (e_geq o rfl rfl) fun a o=>qa o rfl fun a o=>re<|tn<|wr<|?_
 obtain rfl:=si hm
 exact r1 o results88 rfl ⟨rfl,u.keep⟩
theorem Z71_c (hH:H.le w0) (hT:Tab H) {p1:Str} {r:Bool} (hm:Z71 N p1=some r):Tot Tryz.prog 122 #[strv p1] w0 (fun v w'=>v=.bool r∧Keep Nil w0 w'):=by
 unfold Z71 at hm
 refine fn0 func122 rfl ntmps122 rfl rfl fun a o=>?_
 have u:St w0 Nil [H] [] w0:=start1 hH
 refine th<|rg<|qa o rfl fun a o=>re<|tn<|th<|?_
 obtain ⟨rz2,h3,hm⟩:=bs hm
 refine rg<|qm o rfl fun a o=>ls<|cq o call82 (Z73_c (hp_le _) (Tab.mono hT (St.up u)) h3) ⟨rfl,trivial⟩ u fun w a u o=>qv o (e_not o rfl) fun a o=>qa o rfl fun a o=>re<|tn<|wr<|?_
 obtain rfl:=si hm
 exact r1 o results122 rfl ⟨rfl,u.keep⟩
theorem Z8m_c (hH:H.le w0) (hT:Tab H) {oa2:Option Addr} {cap3:Nat} {p1:(List Str)} (_:p1.length≤cap3) (hr5:SR H oa2 p1) {r:Int} (hm:Z8m N p1=some r):Tot Tryz.prog 154 #[.slice oa2 p1.length cap3,.func (.func 122) #[] #[]] w0 (fun v w'=>v=i6 r∧Keep Nil w0 w'):=by
 unfold Z8m at hm
 refine fn0 func154 rfl ntmps154 rfl rfl fun a o=>?_
 have u:St w0 Nil [H] [] w0:=start1 hH
 refine th<|rg<|qa o rfl fun a o=>re<|tn<|th<|th<|rg<|qm o rfl fun a o=>qv o (e_lenL (α:=Str) (xs:=p1) o runUnderlying36 rfl) fun a o=>qm o rfl fun a o=>re<|tn<|midK (fun a w=>Z8n=some r∧Fr 19 [] a∧St w0 Nil [H] [] w) ?_ ?_
 refine wb<|lp (α:=Nat×Int) (fun gh a w=>match gh with | (nn2,vB1)=>(Z8o N Z8n p1) nn2 vB1=some r∧Fr 19 [(0,.slice oa2 p1.length cap3),(1,.func (.func 122) #[] #[]),(7,i6 (p1.length:Int)),(8,i6 vB1)] a∧St w0 Nil [H] [] w) (fun gh=>gh.1) (N,0) ⟨hm,o.hs,u⟩ ?_
 rintro ⟨nn2,vB1⟩ a w ⟨hm,o,u⟩
 obtain _ | nn2:=nn2
 simp [Z8o] at hm
 rw [Z8o] at hm
 refine th<|rg<|qv o (e_lss o rfl rfl) fun a o=>re<|?_
 rcases bdich (decide (vB1 < (p1.length:Int))) with hb6 | hb6
 replace hm:=itp_t hm hb6
 refine tn<|th<|ctv o rfl hb6<|wk<|tn<|th<|wb<|th<|rg<|qm o rfl fun a o=>qa o rfl fun a o=>re<|tn<|th<|?_
 obtain ⟨xz7,h8,hm⟩:=bs hm
 obtain ⟨cz9,g10,hl11⟩:=SR.get hr5 h8
 obtain rfl:cz9=[strv xz7]:=g10
 obtain ⟨r12,h13,hm⟩:=bs hm
 refine rg<|qm o rfl fun a o=>?_
 iterate 2 refine qm o rfl fun a o=>?_
 refine qv o (e_iaI o runUnderlying36 sizeOf9 rfl rfl h8 (SR.oaI hr5 (by decide) h8)) fun a o=>qv o (e_ld o isAgg9 rfl (PH.le.cell (Lds.le (St.ld u)) (hl11 0 _ rfl))) fun a o=>ls<|k1 (vs:=[strv xz7]) (caps:=[]) o rfl rfl call122 (Z71_c (hp_le _) (Tab.mono hT (St.up u)) h13) ⟨rfl,trivial⟩ rfl (fun v w a hR o=>?_)
 obtain ⟨rfl,hk⟩:=hR
 replace u:=u.pass hk
 refine re<|?_
 rcases bdich r12 with hb14 | hb14
 replace hm:=ite_t hm hb14
 refine tn<|ctv o rfl hb14<|th<|rg<|qm o rfl fun a o=>qa o rfl fun a o=>re<|tn<|wr<|br<|tr<|tr<|br<|tr<|?_
 obtain rfl:=si hm
 exact r1 o results154 rfl ⟨rfl,u.keep⟩
 replace hm:=ite_f hm hb14
 refine tn<|cfv o rfl hb14<|wk<|bn<|tn<|rg<|qv o (e_add o rfl rfl) fun a o=>qm o rfl fun a o=>re<|tn<|?_
 exact ⟨(nn2,(IntKind.i64.wrap (vB1+1))),⟨hm,o.hs,u⟩,Nat.lt_succ_self _⟩
 replace hm:=itp_f hm hb6
 refine tn<|th<|cfv o rfl hb6<|we<|tx<|tx<|bx<|tn<|?_
 exact ⟨hm,o.has trivial,u⟩
 rintro a w ⟨hm,o,u⟩
 unfold Z8n at hm
 refine th<|rg<|qa o rfl fun a o=>re<|tn<|wr<|?_
 obtain rfl:=si hm
 exact r1 o results154 rfl ⟨rfl,u.keep⟩
theorem Z7t_c (hH:H.le w0) (hT:Tab H) {oa2:Option Addr} {cap3:Nat} {p1:(List Str)} (hc4:p1.length≤cap3) (hr5:SR H oa2 p1) {r:Bool} (hm:Z7t N p1=some r):Tot Tryz.prog 123 #[.slice oa2 p1.length cap3,.func (.func 122) #[] #[]] w0 (fun v w'=>v=.bool r∧Keep Nil w0 w'):=by
 unfold Z7t at hm
 refine fn0 func123 rfl ntmps123 rfl rfl fun a o=>?_
 have u:St w0 Nil [H] [] w0:=start1 hH
 refine th<|rg<|qa o rfl fun a o=>re<|tn<|th<|?_
 obtain ⟨rz6,h7,hm⟩:=bs hm
 refine rg<|qm o rfl fun a o=>qm o rfl fun a o=>ls<|cq o call154 (Z8m_c (hp_le _) (Tab.mono hT (St.up u)) hc4 (St.srH u hr5) h7) ⟨rfl,rfl,trivial⟩ u fun w a u o=>qv o (e_geq o rfl rfl) fun a o=>qa o rfl fun a o=>re<|tn<|wr<|?_
 obtain rfl:=si hm
 exact r1 o results123 rfl ⟨rfl,u.keep⟩
theorem Z90_c (hH:H.le w0)  {r:(Arr 15 Str)} (hm:Z90 N  = some r):Tot Tryz.prog 163 #[] w0 (fun v w'=>∃ (H':PH) (cs0:List Value),v=.agg cs0.toArray∧Enc.rep H' cs0 r∧Ext w0 H H'∧H'.le w'∧Keep Nil w0 w'):=by
 unfold Z90 at hm
 refine fn0 func163 rfl ntmps163 rfl rfl fun a o=>?_
 have u:St w0 Nil [H] [] w0:=start1 hH
 refine th<|rg<|ls<|a_alloc (cs:=[strv [],strv [],strv [],strv [],strv [],strv [],strv [],strv [],strv [],strv [],strv [],strv [],strv [],strv [],strv []].toArray) o rfl u Tryz.zeroValue176 rfl fun b1 w a u o=>re<|tn<|th<|rg<|qv o (e_bldK [strv [114,101],strv [114,110],strv [110,101],strv [114,110,101,102],strv [110],strv [110],strv [110],strv [110],strv [101,98],strv [107,98],strv [101]] [strv [],strv [114,101],strv [114,110],strv [110,101],strv [114,110,101,102],strv [110],strv [110],strv [],strv [],strv [110],strv [110],strv [101,98],strv [107,98],strv [],strv [101]] o ⟨rfl,rfl,rfl,rfl,rfl,rfl,rfl,rfl,rfl,rfl,rfl,trivial⟩ (fun w=>by kernel_rfl)) fun a o=>ls<|s_blkA o u sizeOf176 rfl rfl rfl rfl (one_cells rfl) .head fun w u=>re<|tn<|wr<|?_
 obtain rfl:=si hm
 exact r1c (vs:=[strv [],strv [114,101],strv [114,110],strv [110,101],strv [114,110,101,102],strv [110],strv [110],strv [],strv [],strv [110],strv [110],strv [101,98],strv [107,98],strv [],strv [101]]) (.inl rfl) o results163 rfl isAgg176 sizeOf176 rfl ((St.ld u).cellsB t0) ⟨H,_,rfl,(show Enc.rep (α:=(Arr 15 Str)) H [strv [],strv [114,101],strv [114,110],strv [110,101],strv [114,110,101,102],strv [110],strv [110],strv [],strv [],strv [110],strv [110],strv [101,98],strv [107,98],strv [],strv [101]] (⟨[[],[114,101],[114,110],[110,101],[114,110,101,102],[110],[110],[],[],[110],[110],[101,98],[107,98],[],[101]],rfl⟩:(Arr 15 Str)) from (.cons (c:=[strv []]) rfl (.cons (c:=[strv [114,101]]) rfl (.cons (c:=[strv [114,110]]) rfl (.cons (c:=[strv [110,101]]) rfl (.cons (c:=[strv [114,110,101,102]]) rfl (.cons (c:=[strv [110]]) rfl (.cons (c:=[strv [110]]) rfl (.cons (c:=[strv []]) rfl (.cons (c:=[strv []]) rfl (.cons (c:=[strv [110]]) rfl (.cons (c:=[strv [110]]) rfl (.cons (c:=[strv [101,98]]) rfl (.cons (c:=[strv [107,98]]) rfl (.cons (c:=[strv []]) rfl (.cons (c:=[strv [101]]) rfl .nil)))))))))))))))),(Ext.refl _ _),(St.le u),u.keep⟩
theorem Z8s_c (hH:H.le w0) {p1:Int} {r:Str} (hm:Z8s N p1=some r):Tot Tryz.prog 145 #[i6 p1] w0 (fun v w'=>v=strv r∧Keep Nil w0 w'):=by
 unfold Z8s at hm
 refine fn0 func145 rfl ntmps145 rfl rfl fun a o=>?_
 have u:St w0 Nil [H] [] w0:=start1 hH
 refine th<|rg<|qa o rfl fun a o=>re<|tn<|th<|th<|rg<|qm o rfl fun a o=>qv o (e_lss o rfl rfl) fun a o=>qm o rfl fun a o=>grp (N:=12) (Fk:=[(0,i6 p1),(8,.bool ((decide (p1 < 0)) || (decide (15≤p1))))]) (b:=(decide (p1 < 0))) 3 u ?_ ?_ ?_
 intro hb key
 replace o:=Fr.as o (t:=5) rfl (congrArg Value.bool hb)
 iterate 2 refine qn o fun a o=>?_
 refine qv o (e_as (v':=.bool ((decide (p1 < 0)) || (decide (15≤p1)))) (e_pickT o rfl rfl) (by rw [hb];rfl)) fun a o=>?_
 exact key _ _ (o.has ⟨rfl,rfl,trivial⟩) u
 intro hb key
 replace o:=Fr.as o (t:=5) rfl (congrArg Value.bool hb)
 refine qg o (e_move o rfl) fun a o=>qg o (e_geq o rfl rfl) fun a o=>qv o (e_as (v':=.bool ((decide (p1 < 0)) || (decide (15≤p1)))) (e_pickF o rfl rfl) (by rw [hb];rfl)) fun a o=>?_
 exact key _ _ (o.has ⟨rfl,rfl,trivial⟩) u
 intro a w o u
 refine re<|?_
 rcases bdich ((decide (p1 < 0)) || (decide (15≤p1))) with hb2 | hb2
 replace hm:=ite_t hm hb2
 refine tn<|ctv o rfl hb2<|th<|rg<|qa o rfl fun a o=>re<|tn<|wr<|tr<|?_
 obtain rfl:=si hm
 exact r1 o results145 rfl ⟨rfl,u.keep⟩
 replace hm:=ite_f hm hb2
 refine tn<|cfv o rfl hb2<|wk<|tn<|th<|?_
 obtain ⟨rz3,h4,hm⟩:=bs hm
 obtain ⟨x12,h13,hm⟩:=bs hm
 refine rg<|ls<|c1 o rfl Tryz.call163 (Z90_c (St.le u) h4) trivial (fun v w a hR o=>?_)
 obtain ⟨H8,cs9,rfl,g10,hx5,hl6,hk⟩:=hR
 obtain ⟨u,hx5⟩:=And.intro (St.passH u hk hx5 hl6) (St.extc u hx5)
 have hv11:Rows H8 cs9 rz3.l:=g10
 refine qm o rfl fun a o=>?_
 obtain ⟨c14,g15,hl16⟩:=Rows.getI hv11 h13
 obtain rfl:c14=[strv x12]:=g15
 refine qv o (e_ix1 o runUnderlying176 sizeOf9 isAgg9 rfl rfl rz3.h h13 (hl16 0 _ rfl)) fun a o=>qa o rfl fun a o=>re<|tn<|wr<|?_
 obtain rfl:=si hm
 exact r1 o results145 rfl ⟨rfl,u.keep⟩
theorem Z92_c (hH:H.le w0) (hT:Tab H) {p1:Str} {y3:Str} {b2:Nat} (hb4:H b2=some (.cells [strv y3].toArray 9 (0,0))) {r:Bool} (hm:Z92 N p1 y3=some r):Tot Tryz.prog 146 #[strv p1,.pointer (some ⟨b2,0,none⟩)] w0 (fun v w'=>v=.bool r∧Keep Nil w0 w'):=by
 unfold Z92 at hm
 refine fn0 func146 rfl ntmps146 rfl rfl fun a o=>?_
 have u:St w0 Nil [H] [] w0:=start1 hH
 refine th<|rg<|qa o rfl fun a o=>re<|tn<|th<|?_
 obtain ⟨rz5,h6,hm⟩:=bs hm
 refine rg<|qv o (e_ld o Tryz.isAgg9 rfl (PH.le.cell (Lds.le (St.ld u)) (ph_cell hb4 rfl))) fun a o=>qm o rfl fun a o=>ls<|cq o call147 (Zl_c (hp_le _) (Tab.mono hT (St.up u)) h6) ⟨rfl,rfl,trivial⟩ u fun w a u o=>qa o rfl fun a o=>re<|tn<|wr<|?_
 obtain rfl:=si hm
 exact r1 o results146 rfl ⟨rfl,u.keep⟩
theorem Z93_c (hH:H.le w0) (hT:Tab H) {p1:Bool} {p2:Str} {r:Bool} (hm:Z93 N p1 p2=some r):Tot Tryz.prog 148 #[.bool p1,strv p2] w0 (fun v w'=>v=.bool r∧Keep Nil w0 w'):=by
 unfold Z93 at hm
 refine fn0 func148 rfl ntmps148 rfl rfl fun a o=>?_
 have u:St w0 Nil [H] [] w0:=start1 hH
 refine th<|rg<|qa o rfl fun a o=>re<|tn<|th<|?_
 rcases bdich p1 with hb3 | hb3
 replace hm:=ite_t hm hb3
 obtain ⟨rz4,h5,hm⟩:=bs hm
 refine rg<|qm o rfl fun a o=>qv o (e_as (e_move o rfl) (congrArg Value.bool hb3)) fun a o=>qg o (e_move o rfl) fun a o=>ls<|gy o rfl rfl<|cq o call82 (Z73_c (hp_le _) (Tab.mono hT (St.up u)) h5) ⟨rfl,trivial⟩ u fun w a u o=>qv o (e_pickT o rfl rfl) fun a o=>qm o rfl fun a o=>grp (N:=18) (Fk:=[(17,.bool (rz4 || ((!p1) && (decide (p2=[])))))]) (b:=rz4) 7 u ?_ ?_ ?_
 intro hb key
 replace o:=Fr.as o (t:=10) rfl (congrArg Value.bool hb)
 iterate 3 refine qn o fun a o=>?_
 iterate 2 refine ls<|gnu o rfl rfl rfl fun a o=>?_
 refine qn o fun a o=>qv o (e_as (v':=.bool (rz4 || ((!p1) && (decide (p2=[]))))) (e_pickT o rfl rfl) (by rw [hb];rfl)) fun a o=>?_
 exact key _ _ (o.has ⟨rfl,trivial⟩) u
 intro hb key
 replace o:=Fr.as o (t:=10) rfl (congrArg Value.bool hb)
 refine qg o (e_move o rfl) fun a o=>qg o (e_not o rfl) fun a o=>qg o (e_move o rfl) fun a o=>grp (N:=18) (Fk:=[(10,.bool false),(16,.bool ((!p1) && (decide (p2=[]))))]) (b:=(!p1)) 3 u ?_ ?_ ?_
 intro hb key
 replace o:=Fr.as o (t:=13) rfl (congrArg Value.bool hb)
 refine qg o (e_move o rfl) fun a o=>qg o (e_eqlU (m:=p2) (n:=[]) o rfl rfl) fun a o=>qg o (e_as (v':=.bool ((!p1) && (decide (p2=[])))) (e_pickT o rfl rfl) (by rw [hb];rfl)) fun a o=>?_
 exact key _ _ (o.has ⟨rfl,rfl,trivial⟩) u
 intro hb key
 replace o:=Fr.as o (t:=13) rfl (congrArg Value.bool hb)
 iterate 2 refine qn o fun a o=>?_
 refine qg o (e_as (v':=.bool ((!p1) && (decide (p2=[])))) (e_pickF o rfl rfl) (by rw [hb];rfl)) fun a o=>?_
 exact key _ _ (o.has ⟨rfl,rfl,trivial⟩) u
 intro a w o u
 refine qv o (e_as (v':=.bool (rz4 || ((!p1) && (decide (p2=[]))))) (e_pickF o rfl rfl) (by rw [hb];rfl)) fun a o=>?_
 exact key _ _ (o.has ⟨rfl,trivial⟩) u
 intro a w o u
 refine qa o rfl fun a o=>re<|tn<|wr<|?_
 obtain rfl:=si hm
 exact r1 o results148 rfl ⟨rfl,u.keep⟩
 replace hm:=ite_f hm hb3
 refine rg<|qm o rfl fun a o=>qv o (e_as (e_move o rfl) (congrArg Value.bool hb3)) fun a o=>?_
 iterate 2 refine qn o fun a o=>?_
 refine qv o (e_pickF o rfl rfl) fun a o=>qm o rfl fun a o=>qg o (e_move o rfl) fun a o=>qg o (e_not o rfl) fun a o=>qg o (e_move o rfl) fun a o=>grp (N:=18) (Fk:=[(10,.bool false),(16,.bool ((!p1) && (decide (p2=[]))))]) (b:=(!p1)) 3 u ?_ ?_ ?_
 intro hb key
 replace o:=Fr.as o (t:=13) rfl (congrArg Value.bool hb)
 refine qg o (e_move o rfl) fun a o=>qg o (e_eqlU (m:=p2) (n:=[]) o rfl rfl) fun a o=>qg o (e_as (v':=.bool ((!p1) && (decide (p2=[])))) (e_pickT o rfl rfl) (by rw [hb];rfl)) fun a o=>?_
 exact key _ _ (o.has ⟨rfl,rfl,trivial⟩) u
 intro hb key
 replace o:=Fr.as o (t:=13) rfl (congrArg Value.bool hb)
 iterate 2 refine qn o fun a o=>?_
 refine qg o (e_as (v':=.bool ((!p1) && (decide (p2=[])))) (e_pickF o rfl rfl) (by rw [hb];rfl)) fun a o=>?_
 exact key _ _ (o.has ⟨rfl,rfl,trivial⟩) u
 intro a w o u
 refine qv o (e_pickF o rfl rfl) fun a o=>qa o rfl fun a o=>re<|tn<|wr<|?_
 obtain rfl:=si hm
 exact r1 o results148 rfl ⟨rfl,u.keep⟩
theorem Zx_c (hH:H.le w0) (hT:Tab H) {p1:api_Node} {r:Bool} (hm:Zx N p1=some r):Tot Tryz.prog 125 #[.agg #[i6 p1.Op,i6 p1.N,strv p1.Name,i6 p1.At]] w0 (fun v w'=>v=.bool r∧Keep Nil w0 w'):=by
 unfold Zx at hm
 refine fn0 func125 rfl ntmps125 rfl rfl fun a o=>?_
 have u:St w0 Nil [H] [] w0:=start1 hH
 refine th<|rg<|ls<|a_box (cs:=[i6 p1.Op,i6 p1.N,strv p1.Name,i6 p1.At].toArray) o rfl u rfl rfl fun b2 w a u o=>qa o rfl fun a o=>re<|tn<|th<|wb<|th<|rg<|qv o (e_fa o fa90_3 rfl) fun a o=>qv o (e_ld o isAgg3 rfl ((St.ld u).cellB t0 rfl)) fun a o=>qv o (e_lss o rfl rfl) fun a o=>qm o rfl fun a o=>grp (N:=49) (Fk:=[(1,.pointer (some ⟨b2,0,none⟩)),(11,.bool ((decide (p1.At < 0)) || (decide (4000 < p1.At))))]) (b:=(decide (p1.At < 0))) 4 u ?_ ?_ ?_
 intro hb key
 replace o:=Fr.as o (t:=7) rfl (congrArg Value.bool hb)
 iterate 3 refine qn o fun a o=>?_
 refine qv o (e_as (v':=.bool ((decide (p1.At < 0)) || (decide (4000 < p1.At)))) (e_pickT o rfl rfl) (by rw [hb];rfl)) fun a o=>?_
 exact key _ _ (o.has ⟨rfl,rfl,trivial⟩) u
 intro hb key
 replace o:=Fr.as o (t:=7) rfl (congrArg Value.bool hb)
 refine qg o (e_fa o fa90_3 rfl) fun a o=>qg o (e_ld o isAgg3 rfl ((St.ld u).cellB t0 rfl)) fun a o=>qg o (e_gtr o rfl rfl) fun a o=>qv o (e_as (v':=.bool ((decide (p1.At < 0)) || (decide (4000 < p1.At)))) (e_pickF o rfl rfl) (by rw [hb];rfl)) fun a o=>?_
 exact key _ _ (o.has ⟨rfl,rfl,trivial⟩) u
 intro a w o u
 refine qa o rfl fun a o=>re<|?_
 rcases bdich ((decide (p1.At < 0)) || (decide (4000 < p1.At))) with hb3 | hb3
 replace hm:=ite_t hm hb3
 refine tn<|ctv o rfl hb3<|th<|rg<|qa o rfl fun a o=>re<|tn<|wr<|br<|tr<|?_
 obtain rfl:=si hm
 exact r1 o results125 rfl ⟨rfl,u.keep⟩
 replace hm:=ite_f hm hb3
 refine tn<|cfv o rfl hb3<|th<|rg<|qv o (e_fa o fa90_0 rfl) fun a o=>qv o (e_ld o isAgg3 rfl ((St.ld u).cellB t0 rfl)) fun a o=>qv o (e_eql o rfl rfl) fun a o=>qa o rfl fun a o=>re<|?_
 rcases bdich (decide (p1.Op=1)) with hb4 | hb4
 replace hm:=itp_t hm hb4
 refine tn<|ctv o rfl hb4<|th<|rg<|qv o (e_fa o fa90_1 rfl) fun a o=>qv o (e_ld o isAgg3 rfl ((St.ld u).cellB t0 rfl)) fun a o=>qv o (e_geq o rfl rfl) fun a o=>qm o rfl fun a o=>grp (N:=49) (Fk:=[(1,.pointer (some ⟨b2,0,none⟩)),(23,.bool ((decide (0≤p1.N)) && (decide (p1.N≤4294967296))))]) (b:=(decide (0≤p1.N))) 4 u ?_ ?_ ?_
 intro hb key
 replace o:=Fr.as o (t:=19) rfl (congrArg Value.bool hb)
 refine qg o (e_fa o fa90_1 rfl) fun a o=>qg o (e_ld o isAgg3 rfl ((St.ld u).cellB t0 rfl)) fun a o=>qg o (e_leq o rfl rfl) fun a o=>qv o (e_as (v':=.bool ((decide (0≤p1.N)) && (decide (p1.N≤4294967296)))) (e_pickT o rfl rfl) (by rw [hb];rfl)) fun a o=>?_
 exact key _ _ (o.has ⟨rfl,rfl,trivial⟩) u
 intro hb key
 replace o:=Fr.as o (t:=19) rfl (congrArg Value.bool hb)
 iterate 3 refine qn o fun a o=>?_
 refine qv o (e_as (v':=.bool ((decide (0≤p1.N)) && (decide (p1.N≤4294967296)))) (e_pickF o rfl rfl) (by rw [hb];rfl)) fun a o=>?_
 exact key _ _ (o.has ⟨rfl,rfl,trivial⟩) u
 intro a w o u
 refine qm o rfl fun a o=>grp (N:=49) (Fk:=[(28,.bool (((decide (0≤p1.N)) && (decide (p1.N≤4294967296))) && (decide (p1.Name=[]))))]) (b:=((decide (0≤p1.N)) && (decide (p1.N≤4294967296)))) 4 u ?_ ?_ ?_
 intro hb key
 replace o:=Fr.as o (t:=24) rfl (congrArg Value.bool hb)
 refine qg o (e_fa o fa90_2 rfl) fun a o=>qg o (e_ld o isAgg9 rfl ((St.ld u).cellB t0 rfl)) fun a o=>qg o (e_eqlU (m:=p1.Name) (n:=[]) o rfl rfl) fun a o=>qv o (e_as (v':=.bool (((decide (0≤p1.N)) && (decide (p1.N≤4294967296))) && (decide (p1.Name=[])))) (e_pickT o rfl rfl) (by rw [hb];rfl)) fun a o=>?_
 exact key _ _ (o.has ⟨rfl,trivial⟩) u
 intro hb key
 replace o:=Fr.as o (t:=24) rfl (congrArg Value.bool hb)
 iterate 3 refine qn o fun a o=>?_
 refine qv o (e_as (v':=.bool (((decide (0≤p1.N)) && (decide (p1.N≤4294967296))) && (decide (p1.Name=[])))) (e_pickF o rfl rfl) (by rw [hb];rfl)) fun a o=>?_
 exact key _ _ (o.has ⟨rfl,trivial⟩) u
 intro a w o u
 refine qa o rfl fun a o=>re<|tn<|wr<|br<|tr<|?_
 obtain rfl:=si hm
 exact r1 o results125 rfl ⟨rfl,u.keep⟩
 replace hm:=itp_f hm hb4
 refine tn<|cfv o rfl hb4<|th<|rg<|qv o (e_fa o fa90_0 rfl) fun a o=>qv o (e_ld o isAgg3 rfl ((St.ld u).cellB t0 rfl)) fun a o=>qv o (e_eql o rfl rfl) fun a o=>qa o rfl fun a o=>re<|?_
 rcases bdich (decide (p1.Op=2)) with hb5 | hb5
 replace hm:=itp_t hm hb5
 refine tn<|ctv o rfl hb5<|th<|?_
 rcases bdich (decide (p1.N=0)) with hb6 | hb6
 replace hm:=itp_t hm hb6
 obtain ⟨rz7,h8,hm⟩:=bs hm
 refine rg<|qv o (e_fa o fa90_1 rfl) fun a o=>qv o (e_ld o isAgg3 rfl ((St.ld u).cellB t0 rfl)) fun a o=>qv o (e_eql o rfl rfl) fun a o=>qv o (e_as (e_move o rfl) (congrArg Value.bool hb6)) fun a o=>qg o (e_fa o fa90_2 rfl) fun a o=>qg o (e_ld o isAgg9 rfl ((St.ld u).cellB t0 rfl)) fun a o=>ls<|gy o rfl rfl<|cq o call82 (Z73_c (hp_le _) (Tab.mono hT (St.up u)) h8) ⟨rfl,trivial⟩ u fun w a u o=>qv o (e_pickT o rfl rfl) fun a o=>qa o rfl fun a o=>re<|tn<|wr<|br<|tr<|?_
 obtain rfl:=si hm
 exact r1 o results125 rfl ⟨rfl,u.keep⟩
 replace hm:=itp_f hm hb6
 refine rg<|qv o (e_fa o fa90_1 rfl) fun a o=>qv o (e_ld o isAgg3 rfl ((St.ld u).cellB t0 rfl)) fun a o=>qv o (e_eql o rfl rfl) fun a o=>qv o (e_as (e_move o rfl) (congrArg Value.bool hb6)) fun a o=>?_
 iterate 3 refine qn o fun a o=>?_
 refine qv o (e_pickF o rfl rfl) fun a o=>qa o rfl fun a o=>re<|tn<|wr<|br<|tr<|?_
 obtain rfl:=si hm
 exact r1 o results125 rfl ⟨rfl,u.keep⟩
 replace hm:=itp_f hm hb5
 refine tn<|cfv o rfl hb5<|wk<|bn<|tn<|th<|rg<|qv o (e_fa o fa90_1 rfl) fun a o=>qv o (e_ld o isAgg3 rfl ((St.ld u).cellB t0 rfl)) fun a o=>qv o (e_eql o rfl rfl) fun a o=>qm o rfl fun a o=>grp (N:=49) (Fk:=[(48,.bool ((decide (p1.N=0)) && (decide (p1.Name=[]))))]) (b:=(decide (p1.N=0))) 4 u ?_ ?_ ?_
 intro hb key
 replace o:=Fr.as o (t:=44) rfl (congrArg Value.bool hb)
 refine qg o (e_fa o fa90_2 rfl) fun a o=>qg o (e_ld o isAgg9 rfl ((St.ld u).cellB t0 rfl)) fun a o=>qg o (e_eqlU (m:=p1.Name) (n:=[]) o rfl rfl) fun a o=>qv o (e_as (v':=.bool ((decide (p1.N=0)) && (decide (p1.Name=[])))) (e_pickT o rfl rfl) (by rw [hb];rfl)) fun a o=>?_
 exact key _ _ (o.has ⟨rfl,trivial⟩) u
 intro hb key
 replace o:=Fr.as o (t:=44) rfl (congrArg Value.bool hb)
 iterate 3 refine qn o fun a o=>?_
 refine qv o (e_as (v':=.bool ((decide (p1.N=0)) && (decide (p1.Name=[])))) (e_pickF o rfl rfl) (by rw [hb];rfl)) fun a o=>?_
 exact key _ _ (o.has ⟨rfl,trivial⟩) u
 intro a w o u
 refine qa o rfl fun a o=>re<|tn<|wr<|?_
 obtain rfl:=si hm
 exact r1 o results125 rfl ⟨rfl,u.keep⟩
theorem Zr_c (hH:H.le w0) (hT:Tab H) {p1:api_Node} {r:Bool} (hm:Zr N p1=some r):Tot Tryz.prog 124 #[.agg #[i6 p1.Op,i6 p1.N,strv p1.Name,i6 p1.At]] w0 (fun v w'=>v=.bool r∧Keep Nil w0 w'):=by
 unfold Zr at hm
 refine fn0 func124 rfl ntmps124 rfl rfl fun a o=>?_
 have u:St w0 Nil [H] [] w0:=start1 hH
 refine th<|rg<|ls<|a_box (cs:=[i6 p1.Op,i6 p1.N,strv p1.Name,i6 p1.At].toArray) o rfl u rfl rfl fun b2 w a u o=>qa o rfl fun a o=>re<|tn<|th<|?_
 obtain ⟨rz3,h4,hm⟩:=bs hm
 refine rg<|qv o (e_ldA o Tryz.isAgg90 Tryz.sizeOf90 rfl rfl ((St.ld u).cellsB t0)) fun a o=>ls<|cq o call125 (Zx_c (hp_le _) (Tab.mono hT (St.up u)) h4) ⟨rfl,trivial⟩ u fun w a u o=>qv o (e_not o rfl) fun a o=>qa o rfl fun a o=>re<|tn<|wr<|?_
 obtain rfl:=si hm
 exact r1 o results124 rfl ⟨rfl,u.keep⟩
theorem Z87_c (hH:H.le w0) (hT:Tab H) {oa2:Option Addr} {cap3:Nat} {p1:(List api_Node)} (_:p1.length≤cap3) (hr5:SR H oa2 p1) {r:Int} (hm:Z87 N p1=some r):Tot Tryz.prog 155 #[.slice oa2 p1.length cap3,.func (.func 124) #[] #[]] w0 (fun v w'=>v=i6 r∧Keep Nil w0 w'):=by
 unfold Z87 at hm
 refine fn0 func155 rfl ntmps155 rfl rfl fun a o=>?_
 have u:St w0 Nil [H] [] w0:=start1 hH
 refine th<|rg<|qa o rfl fun a o=>re<|tn<|th<|th<|rg<|qm o rfl fun a o=>qv o (e_lenL (α:=api_Node) (xs:=p1) o runUnderlying49 rfl) fun a o=>qm o rfl fun a o=>re<|tn<|midK (fun a w=>Z88=some r∧Fr 19 [] a∧St w0 Nil [H] [] w) ?_ ?_
 refine wb<|lp (α:=Nat×Int) (fun gh a w=>match gh with | (nn2,vB1)=>(Z89 N Z88 p1) nn2 vB1=some r∧Fr 19 [(0,.slice oa2 p1.length cap3),(1,.func (.func 124) #[] #[]),(7,i6 (p1.length:Int)),(8,i6 vB1)] a∧St w0 Nil [H] [] w) (fun gh=>gh.1) (N,0) ⟨hm,o.hs,u⟩ ?_
 rintro ⟨nn2,vB1⟩ a w ⟨hm,o,u⟩
 obtain _ | nn2:=nn2
 simp [Z89] at hm
 rw [Z89] at hm
 refine th<|rg<|qv o (e_lss o rfl rfl) fun a o=>re<|?_
 rcases bdich (decide (vB1 < (p1.length:Int))) with hb6 | hb6
 replace hm:=itp_t hm hb6
 refine tn<|th<|ctv o rfl hb6<|wk<|tn<|th<|wb<|th<|rg<|qm o rfl fun a o=>qa o rfl fun a o=>re<|tn<|th<|?_
 obtain ⟨xz7,h8,hm⟩:=bs hm
 obtain ⟨cz9,g10,hl11⟩:=SR.get hr5 h8
 obtain rfl:=api_Node_open g10
 obtain ⟨r12,h13,hm⟩:=bs hm
 refine rg<|qm o rfl fun a o=>?_
 iterate 2 refine qm o rfl fun a o=>?_
 refine qv o (e_iaI o runUnderlying49 sizeOf90 rfl rfl h8 (SR.oaI hr5 (by decide) h8)) fun a o=>qv o (e_ldA o isAgg90 sizeOf90 rfl rfl (fun j v hj=>PH.le.cell (Lds.le (St.ld u)) (hl11 j v hj))) fun a o=>ls<|k1 (vs:=[.agg #[i6 xz7.Op,i6 xz7.N,strv xz7.Name,i6 xz7.At]]) (caps:=[]) o rfl rfl call124 (Zr_c (hp_le _) (Tab.mono hT (St.up u)) h13) ⟨rfl,trivial⟩ rfl (fun v w a hR o=>?_)
 obtain ⟨rfl,hk⟩:=hR
 replace u:=u.pass hk
 refine re<|?_
 rcases bdich r12 with hb14 | hb14
 replace hm:=ite_t hm hb14
 refine tn<|ctv o rfl hb14<|th<|rg<|qm o rfl fun a o=>qa o rfl fun a o=>re<|tn<|wr<|br<|tr<|tr<|br<|tr<|?_
 obtain rfl:=si hm
 exact r1 o results155 rfl ⟨rfl,u.keep⟩
 replace hm:=ite_f hm hb14
 refine tn<|cfv o rfl hb14<|wk<|bn<|tn<|rg<|qv o (e_add o rfl rfl) fun a o=>qm o rfl fun a o=>re<|tn<|?_
 exact ⟨(nn2,(IntKind.i64.wrap (vB1+1))),⟨hm,o.hs,u⟩,Nat.lt_succ_self _⟩
 replace hm:=itp_f hm hb6
 refine tn<|th<|cfv o rfl hb6<|we<|tx<|tx<|bx<|tn<|?_
 exact ⟨hm,o.has trivial,u⟩
 rintro a w ⟨hm,o,u⟩
 unfold Z88 at hm
 refine th<|rg<|qa o rfl fun a o=>re<|tn<|wr<|?_
 obtain rfl:=si hm
 exact r1 o results155 rfl ⟨rfl,u.keep⟩
theorem Z7o_c (hH:H.le w0) (hT:Tab H) {oa2:Option Addr} {cap3:Nat} {p1:(List api_Node)} (hc4:p1.length≤cap3) (hr5:SR H oa2 p1) {r:Bool} (hm:Z7o N p1=some r):Tot Tryz.prog 126 #[.slice oa2 p1.length cap3,.func (.func 124) #[] #[]] w0 (fun v w'=>v=.bool r∧Keep Nil w0 w'):=by
 unfold Z7o at hm
 refine fn0 func126 rfl ntmps126 rfl rfl fun a o=>?_
 have u:St w0 Nil [H] [] w0:=start1 hH
 refine th<|rg<|qa o rfl fun a o=>re<|tn<|th<|?_
 obtain ⟨rz6,h7,hm⟩:=bs hm
 refine rg<|qm o rfl fun a o=>qm o rfl fun a o=>ls<|cq o call155 (Z87_c (hp_le _) (Tab.mono hT (St.up u)) hc4 (St.srH u hr5) h7) ⟨rfl,rfl,trivial⟩ u fun w a u o=>qv o (e_geq o rfl rfl) fun a o=>qa o rfl fun a o=>re<|tn<|wr<|?_
 obtain rfl:=si hm
 exact r1 o results126 rfl ⟨rfl,u.keep⟩
theorem Zw_c (hH:H.le w0) {p1:Int} {r:Int} (hm:Zw N p1=some r):Tot Tryz.prog 156 #[i6 p1] w0 (fun v w'=>v=i6 r∧Keep Nil w0 w'):=by
 unfold Zw at hm
 refine fn0 func156 rfl ntmps156 rfl rfl fun a o=>?_
 have u:St w0 Nil [H] [] w0:=start1 hH
 refine th<|rg<|qa o rfl fun a o=>re<|tn<|th<|wb<|th<|rg<|qm o rfl fun a o=>qv o (e_eql o rfl rfl) fun a o=>qm o rfl fun a o=>grp (N:=24) (Fk:=[(0,i6 p1),(9,.bool ((decide (p1=1)) || (decide (p1=2))))]) (b:=(decide (p1=1))) 3 u ?_ ?_ ?_
 intro hb key
 replace o:=Fr.as o (t:=6) rfl (congrArg Value.bool hb)
 iterate 2 refine qn o fun a o=>?_
 refine qv o (e_as (v':=.bool ((decide (p1=1)) || (decide (p1=2)))) (e_pickT o rfl rfl) (by rw [hb];rfl)) fun a o=>?_
 exact key _ _ (o.has ⟨rfl,rfl,trivial⟩) u
 intro hb key
 replace o:=Fr.as o (t:=6) rfl (congrArg Value.bool hb)
 refine qg o (e_move o rfl) fun a o=>qg o (e_eql o rfl rfl) fun a o=>qv o (e_as (v':=.bool ((decide (p1=1)) || (decide (p1=2)))) (e_pickF o rfl rfl) (by rw [hb];rfl)) fun a o=>?_
 exact key _ _ (o.has ⟨rfl,rfl,trivial⟩) u
 intro a w o u
 refine qa o rfl fun a o=>re<|?_
 rcases bdich ((decide (p1=1)) || (decide (p1=2))) with hb2 | hb2
 replace hm:=ite_t hm hb2
 refine tn<|ctv o rfl hb2<|th<|rg<|qa o rfl fun a o=>re<|tn<|wr<|br<|tr<|?_
 obtain rfl:=si hm
 exact r1 o results156 rfl ⟨rfl,u.keep⟩
 replace hm:=ite_f hm hb2
 refine tn<|cfv o rfl hb2<|th<|rg<|qm o rfl fun a o=>qv o (e_eql o rfl rfl) fun a o=>qm o rfl fun a o=>grp (N:=24) (Fk:=[(0,i6 p1),(16,.bool ((decide (p1=3)) || (decide (p1=4))))]) (b:=(decide (p1=3))) 3 u ?_ ?_ ?_
 intro hb key
 replace o:=Fr.as o (t:=13) rfl (congrArg Value.bool hb)
 iterate 2 refine qn o fun a o=>?_
 refine qv o (e_as (v':=.bool ((decide (p1=3)) || (decide (p1=4)))) (e_pickT o rfl rfl) (by rw [hb];rfl)) fun a o=>?_
 exact key _ _ (o.has ⟨rfl,rfl,trivial⟩) u
 intro hb key
 replace o:=Fr.as o (t:=13) rfl (congrArg Value.bool hb)
 refine qg o (e_move o rfl) fun a o=>qg o (e_eql o rfl rfl) fun a o=>qv o (e_as (v':=.bool ((decide (p1=3)) || (decide (p1=4)))) (e_pickF o rfl rfl) (by rw [hb];rfl)) fun a o=>?_
 exact key _ _ (o.has ⟨rfl,rfl,trivial⟩) u
 intro a w o u
 refine qa o rfl fun a o=>re<|?_
 rcases bdich ((decide (p1=3)) || (decide (p1=4))) with hb3 | hb3
 replace hm:=ite_t hm hb3
 refine tn<|ctv o rfl hb3<|th<|rg<|qa o rfl fun a o=>re<|tn<|wr<|br<|tr<|?_
 obtain rfl:=si hm
 exact r1 o results156 rfl ⟨rfl,u.keep⟩
 replace hm:=ite_f hm hb3
 refine tn<|cfv o rfl hb3<|th<|rg<|qm o rfl fun a o=>qv o (e_geq o rfl rfl) fun a o=>qm o rfl fun a o=>grp (N:=24) (Fk:=[(23,.bool ((decide (5≤p1)) && (decide (p1≤15))))]) (b:=(decide (5≤p1))) 3 u ?_ ?_ ?_
 intro hb key
 replace o:=Fr.as o (t:=20) rfl (congrArg Value.bool hb)
 refine qg o (e_move o rfl) fun a o=>qg o (e_leq o rfl rfl) fun a o=>qv o (e_as (v':=.bool ((decide (5≤p1)) && (decide (p1≤15)))) (e_pickT o rfl rfl) (by rw [hb];rfl)) fun a o=>?_
 exact key _ _ (o.has ⟨rfl,trivial⟩) u
 intro hb key
 replace o:=Fr.as o (t:=20) rfl (congrArg Value.bool hb)
 iterate 2 refine qn o fun a o=>?_
 refine qv o (e_as (v':=.bool ((decide (5≤p1)) && (decide (p1≤15)))) (e_pickF o rfl rfl) (by rw [hb];rfl)) fun a o=>?_
 exact key _ _ (o.has ⟨rfl,trivial⟩) u
 intro a w o u
 refine qa o rfl fun a o=>re<|?_
 rcases bdich ((decide (5≤p1)) && (decide (p1≤15))) with hb4 | hb4
 replace hm:=ite_t hm hb4
 refine tn<|ctv o rfl hb4<|th<|rg<|qa o rfl fun a o=>re<|tn<|wr<|br<|tr<|?_
 obtain rfl:=si hm
 exact r1 o results156 rfl ⟨rfl,u.keep⟩
 replace hm:=ite_f hm hb4
 refine tn<|cfv o rfl hb4<|wk<|bn<|tn<|th<|rg<|qa o rfl fun a o=>re<|tn<|wr<|?_
 obtain rfl:=si hm
 exact r1 o results156 rfl ⟨rfl,u.keep⟩
theorem Zm_c (hH:H.le w0) {oa2:Option Addr} {cap3:Nat} {p1:(List api_Node)} (_:p1.length≤cap3) (hr5:SR H oa2 p1) {p6:Int} {r:Int} (hm:Zm N p1 p6=some r):Tot Tryz.prog 127 #[.slice oa2 p1.length cap3,i6 p6] w0 (fun v w'=>v=i6 r∧Keep Nil w0 w'):=by
 unfold Zm at hm
 refine fn0 func127 rfl ntmps127 rfl rfl fun a o=>?_
 have u:St w0 Nil [H] [] w0:=start1 hH
 refine th<|rg<|qa o rfl fun a o=>re<|tn<|th<|th<|rg<|qa o rfl fun a o=>re<|tn<|midK (fun a w=>∃ (vA1:Int),Zn vA1=some r∧Fr 38 [(1,i6 vA1)] a∧St w0 Nil [H] [] w) ?_ ?_
 refine wb<|lp (α:=Nat×Int×Int) (fun gh a w=>match gh with | (nn2,vB1,vB2)=>(Zp N Zn p1) nn2 vB1 vB2=some r∧Fr 38 [(0,.slice oa2 p1.length cap3),(1,i6 vB1),(5,i6 vB2)] a∧St w0 Nil [H] [] w) (fun gh=>gh.1) (N,p6,1) ⟨hm,o.hs,u⟩ ?_
 rintro ⟨nn2,vB1,vB2⟩ a w ⟨hm,o,u⟩
 obtain _ | nn2:=nn2
 simp [Zp] at hm
 rw [Zp] at hm
 refine th<|th<|rg<|qm o rfl fun a o=>qv o (e_gtr o rfl rfl) fun a o=>re<|?_
 rcases bdich (decide (0 < vB2)) with hb7 | hb7
 replace hm:=itp_t hm hb7
 refine tn<|ctv o rfl hb7<|wk<|tn<|th<|wb<|th<|th<|midK (fun a w=>∃ (vC1:Bool),(Zo N (Zp N Zn p1 nn2) p1 vB1 vB2) vC1=some r∧Fr 38 [(0,.slice oa2 p1.length cap3),(1,i6 vB1),(5,i6 vB2),(26,.bool vC1)] a∧St w0 Nil [H] [] w) ?_ ?_
 rcases bdich ((decide (vB1 < 0)) || (decide ((p1.length:Int)≤vB1))) with hb8 | hb8
 replace hm:=ite_t hm hb8
 refine rg<|qm o rfl fun a o=>qv o (e_lss o rfl rfl) fun a o=>qm o rfl fun a o=>grp (N:=38) (Fk:=[(0,.slice oa2 p1.length cap3),(1,i6 vB1),(5,i6 vB2),(17,.bool ((decide (vB1 < 0)) || (decide ((p1.length:Int)≤vB1))))]) (b:=(decide (vB1 < 0))) 5 u ?_ ?_ ?_
 intro hb key
 replace o:=Fr.as o (t:=12) rfl (congrArg Value.bool hb)
 iterate 4 refine qn o fun a o=>?_
 refine qv o (e_as (v':=.bool ((decide (vB1 < 0)) || (decide ((p1.length:Int)≤vB1)))) (e_pickT o rfl rfl) (by rw [hb];rfl)) fun a o=>?_
 exact key _ _ (o.hs) u
 intro hb key
 replace o:=Fr.as o (t:=12) rfl (congrArg Value.bool hb)
 iterate 2 refine qg o (e_move o rfl) fun a o=>?_
 refine qg o (e_lenL (α:=api_Node) (xs:=p1) o runUnderlying49 rfl) fun a o=>qg o (e_geq o rfl rfl) fun a o=>qv o (e_as (v':=.bool ((decide (vB1 < 0)) || (decide ((p1.length:Int)≤vB1)))) (e_pickF o rfl rfl) (by rw [hb];rfl)) fun a o=>?_
 exact key _ _ (o.hs) u
 intro a w o u
 refine qv o (e_as (e_move o rfl) (congrArg Value.bool hb8)) fun a o=>?_
 iterate 7 refine qn o fun a o=>?_
 refine qv o (e_pickT o rfl rfl) fun a o=>re<|tn<|?_
 exact ⟨true,hm,o.hs,u⟩
 replace hm:=ite_f hm hb8
 obtain ⟨xz9,h10,hm⟩:=bs hm
 obtain ⟨c11,g12,hl13⟩:=SR.get hr5 h10
 obtain rfl:=api_Node_open g12
 obtain ⟨r14,h15,hm⟩:=bs hm
 refine rg<|qm o rfl fun a o=>qv o (e_lss o rfl rfl) fun a o=>qm o rfl fun a o=>grp (N:=38) (Fk:=[(0,.slice oa2 p1.length cap3),(1,i6 vB1),(5,i6 vB2),(17,.bool ((decide (vB1 < 0)) || (decide ((p1.length:Int)≤vB1))))]) (b:=(decide (vB1 < 0))) 5 u ?_ ?_ ?_
 intro hb key
 replace o:=Fr.as o (t:=12) rfl (congrArg Value.bool hb)
 iterate 4 refine qn o fun a o=>?_
 refine qv o (e_as (v':=.bool ((decide (vB1 < 0)) || (decide ((p1.length:Int)≤vB1)))) (e_pickT o rfl rfl) (by rw [hb];rfl)) fun a o=>?_
 exact key _ _ (o.hs) u
 intro hb key
 replace o:=Fr.as o (t:=12) rfl (congrArg Value.bool hb)
 iterate 2 refine qg o (e_move o rfl) fun a o=>?_
 refine qg o (e_lenL (α:=api_Node) (xs:=p1) o runUnderlying49 rfl) fun a o=>qg o (e_geq o rfl rfl) fun a o=>qv o (e_as (v':=.bool ((decide (vB1 < 0)) || (decide ((p1.length:Int)≤vB1)))) (e_pickF o rfl rfl) (by rw [hb];rfl)) fun a o=>?_
 exact key _ _ (o.hs) u
 intro a w o u
 refine qv o (e_as (e_move o rfl) (congrArg Value.bool hb8)) fun a o=>?_
 iterate 2 refine qg o (e_move o rfl) fun a o=>?_
 refine qg o (e_iaI o runUnderlying49 sizeOf90 rfl rfl h10 (SR.oaI hr5 (by decide) h10)) fun a o=>qg o (e_fa o fa90_0 rfl) fun a o=>qg o (e_ld o isAgg3 rfl (PH.le.cell (Lds.le (St.ld u)) (hl13 0 _ rfl))) fun a o=>ls<|gy o rfl rfl<|cq o call156 (Zw_c (hp_le _) h15) ⟨rfl,trivial⟩ u fun w a u o=>qg o (e_eql o rfl rfl) fun a o=>qv o (e_pickF o rfl rfl) fun a o=>re<|tn<|?_
 exact ⟨(decide (r14=(-1))),hm,o.hs,u⟩
 rintro a w ⟨vC1,hm,o,u⟩
 unfold Zo at hm
 rcases bdich vC1 with hb16 | hb16
 replace hm:=ite_t hm hb16
 refine ctv o rfl hb16<|th<|rg<|qa o rfl fun a o=>re<|tn<|wr<|tr<|br<|tr<|tr<|br<|tr<|?_
 obtain rfl:=si hm
 exact r1 o results127 rfl ⟨rfl,u.keep⟩
 replace hm:=ite_f hm hb16
 refine cfv o rfl hb16<|wk<|tn<|th<|?_
 obtain ⟨x17,h18,hm⟩:=bs hm
 obtain ⟨c19,g20,hl21⟩:=SR.get hr5 h18
 obtain rfl:=api_Node_open g20
 obtain ⟨r22,h23,hm⟩:=bs hm
 refine rg<|qm o rfl fun a o=>?_
 iterate 2 refine qm o rfl fun a o=>?_
 refine qv o (e_iaI o runUnderlying49 sizeOf90 rfl rfl h18 (SR.oaI hr5 (by decide) h18)) fun a o=>qv o (e_fa o fa90_0 rfl) fun a o=>qv o (e_ld o isAgg3 rfl (PH.le.cell (Lds.le (St.ld u)) (hl21 0 _ rfl))) fun a o=>ls<|cq o call156 (Zw_c (hp_le _) h23) ⟨rfl,trivial⟩ u fun w a u o=>qv o (e_add o rfl rfl) fun a o=>qa o rfl fun a o=>re<|tn<|rg<|qm o rfl fun a o=>qv o (e_add o rfl rfl) fun a o=>qa o rfl fun a o=>re<|bn<|tn<|rg<|qm o rfl fun a o=>qv o (e_sub o rfl rfl) fun a o=>qa o rfl fun a o=>re<|tn<|?_
 exact ⟨(nn2,(IntKind.i64.wrap (vB1+1)),(IntKind.i64.wrap ((IntKind.i64.wrap (vB2+r22)) - 1))),⟨hm,o.hs,u⟩,Nat.lt_succ_self _⟩
 replace hm:=itp_f hm hb7
 refine tn<|cfv o rfl hb7<|we<|tx<|tx<|bx<|tn<|?_
 exact ⟨vB1,hm,o.has ⟨rfl,trivial⟩,u⟩
 rintro a w ⟨vA1,hm,o,u⟩
 unfold Zn at hm
 refine th<|rg<|qm o rfl fun a o=>qa o rfl fun a o=>re<|tn<|wr<|?_
 obtain rfl:=si hm
 exact r1 o results127 rfl ⟨rfl,u.keep⟩
theorem Zy_c (hH:H.le w0) {oa2:Option Addr} {cap3:Nat} {p1:(List api_Node)} (hc4:p1.length≤cap3) (hr5:SR H oa2 p1) {p6:Int} {r:(List Int)} (hm:Zy N p1 p6=some r):Tot Tryz.prog 157 #[.slice oa2 p1.length cap3,i6 p6] w0 (fun v w'=>∃ (oa0:Option Addr) (cap0:Nat) (vs0:List Value),v=.slice oa0 r.length cap0∧(∀ h,Rows h vs0 r)∧Fresh w0 (sla 3 1 oa0 r.length cap0 vs0) w'):=by
 unfold Zy at hm
 refine fn0 func157 rfl ntmps157 rfl rfl fun a o=>?_
 have u:St w0 Nil [H] [] w0:=start1 hH
 refine th<|rg<|qa o rfl fun a o=>re<|tn<|th<|rg<|qa o rfl fun a o=>re<|tn<|th<|rg<|qm o rfl fun a o=>qv o (e_add o rfl rfl) fun a o=>qa o rfl fun a o=>re<|tn<|th<|th<|?_
 obtain ⟨xz7,h8,hm⟩:=bs hm
 obtain ⟨cz9,g10,hl11⟩:=SR.get hr5 h8
 obtain rfl:=api_Node_open g10
 obtain ⟨r12,h13,hm⟩:=bs hm
 refine rg<|qm o rfl fun a o=>qm o rfl fun a o=>qv o (e_iaI o runUnderlying49 sizeOf90 rfl rfl h8 (SR.oaI hr5 (by decide) h8)) fun a o=>qv o (e_fa o fa90_0 rfl) fun a o=>qv o (e_ld o isAgg3 rfl (PH.le.cell (Lds.le (St.ld u)) (hl11 0 _ rfl))) fun a o=>ls<|cq o call156 (Zw_c (hp_le _) h13) ⟨rfl,trivial⟩ u fun w a u o=>qm o rfl fun a o=>re<|tn<|midK (fun a w=>∃ (vA1:(List Int)) (oaA2:Option Addr) (capA3:Nat) (vsA4:List Value),Zz vA1=some r∧Fr 26 [(5,.slice oaA2 vA1.length capA3)] a∧St w0 Nil [H] [sla 3 1 oaA2 vA1.length capA3 vsA4] w∧Rows H vsA4 vA1) ?_ ?_
 replace u:=St.nilS u 3 1
 refine wb<|lp (α:=Nat×(List Int)×Int×Int) (fun gh a w=>match gh with | (nn2,vB1,vB7,vB8)=>∃ (oaB2:Option Addr) (capB3:Nat) (vsB4:List Value),(Z10 N Zz p1 r12) nn2 vB1 vB7 vB8=some r∧Fr 26 [(0,.slice oa2 p1.length cap3),(5,.slice oaB2 vB1.length capB3),(6,i6 vB7),(14,i6 r12),(15,i6 vB8)] a∧St w0 Nil [H] [sla 3 1 oaB2 vB1.length capB3 vsB4] w∧Rows H vsB4 vB1) (fun gh=>gh.1) (N,[],(IntKind.i64.wrap (p6+1)),0) ⟨none,0,[],hm,o.hs,u,.nil⟩ ?_
 rintro ⟨nn2,vB1,vB7,vB8⟩ a w ⟨oaB2,capB3,vsB4,hm,o,u,hvB5⟩
 obtain _ | nn2:=nn2
 simp [Z10] at hm
 rw [Z10] at hm
 refine th<|rg<|qv o (e_lss o rfl rfl) fun a o=>re<|?_
 rcases bdich (decide (vB8 < r12)) with hb14 | hb14
 replace hm:=itp_t hm hb14
 refine tn<|th<|ctv o rfl hb14<|wk<|tn<|th<|wb<|th<|?_
 obtain ⟨l18,h19,hm⟩:=bs hm
 refine rg<|qm o rfl fun a o=>qm o rfl fun a o=>ls<|a_bsl (e:=3) (sz:=1) [i6 vB7] o rfl u rfl rfl rfl (fun w=>by kernel_rfl) fun b16 w a u o=>?_
 have hv15:Rows (α:=Int) H [i6 vB7] ([vB7]:List Int):=(.cons (c:=[i6 vB7]) rfl .nil)
 refine ls<|m_app (α:=Int) (xs:=vB1) (ys:=([vB7]:List Int)) o rfl u underlying42 info3 rfl (by decide) rfl rfl rfl t1 hvB5 (u.rdO t0) hv15 h19 fun oa20 cap21 vs22 w a hv23 hU o=>?_
 replace u:=hU _ (.tail .head)
 replace u:=u.drop .head
 refine qa o rfl fun a o=>re<|tn<|?_
 obtain ⟨r24,h25,hm⟩:=bs hm
 refine rg<|qm o rfl fun a o=>qm o rfl fun a o=>ls<|cq o call127 (Zm_c (hp_le _) hc4 (St.srH u hr5) h25) ⟨rfl,rfl,trivial⟩ u fun w a u o=>qa o rfl fun a o=>re<|bn<|tn<|rg<|qv o (e_add o rfl rfl) fun a o=>qm o rfl fun a o=>re<|tn<|?_
 exact ⟨(nn2,l18,r24,(IntKind.i64.wrap (vB8+1))),⟨oa20,cap21,vs22,hm,o.hs,u,hv23⟩,Nat.lt_succ_self _⟩
 replace hm:=itp_f hm hb14
 refine tn<|th<|cfv o rfl hb14<|we<|tx<|tx<|bx<|tn<|?_
 exact ⟨vB1,oaB2,capB3,vsB4,hm,o.has ⟨rfl,trivial⟩,u,hvB5⟩
 rintro a w ⟨vA1,oaA2,capA3,vsA4,hm,o,u,hvA5⟩
 unfold Zz at hm
 refine th<|rg<|qm o rfl fun a o=>qa o rfl fun a o=>re<|tn<|wr<|?_
 obtain rfl:=si hm
 exact r1 o results157 rfl ⟨_,_,_,rfl,(fun _=>Rows.ind hvA5),u.endFresh t0⟩
theorem Zt_c:∀ (N:Nat) {w0:World} {H:PH} (_:H.le w0) {oa2:Option Addr} {cap3:Nat} {p1:(List api_Node)} (_:p1.length≤cap3) (_:SR H oa2 p1) {p6:Int} {r:Int} (_:Zt N p1 p6=some r),Tot Tryz.prog 128 #[.slice oa2 p1.length cap3,i6 p6] w0 (fun v w'=>v=i6 r∧Keep Nil w0 w'):=by
 intro N
 induction N with
  | zero=>intros;rename_i hm;simp [Zt] at hm
  | succ N ih=>
 intro w0 H hH oa2 cap3 p1 hc4 hr5 p6 r hm
 rw [Zt] at hm
 refine fn0 func128 rfl ntmps128 rfl rfl fun a o=>?_
 have u:St w0 Nil [H] [] w0:=start1 hH
 refine th<|rg<|qa o rfl fun a o=>re<|tn<|th<|rg<|qa o rfl fun a o=>re<|tn<|th<|th<|?_
 obtain ⟨rz7,h8,hm⟩:=bs hm
 refine rg<|qm o rfl fun a o=>qm o rfl fun a o=>ls<|c1 o rfl call157 (Zy_c (hp_le _) hc4 (St.srH u hr5) h8) ⟨rfl,rfl,trivial⟩ (fun v w a hR o=>?_)
 obtain ⟨oa9,cap10,vs11,rfl,hv12,hk⟩:=hR
 replace u:=u.fresh hk
 replace hv12:=hv12 H
 refine qv o (e_lenL (α:=Int) (xs:=rz7) o runUnderlying42 rfl) fun a o=>qm o rfl fun a o=>re<|tn<|midK (fun a w=>∃ (vA1:Int),Zu vA1=some r∧Fr 24 [(5,i6 vA1)] a∧St w0 Nil [H] [] w) ?_ ?_
 refine wb<|lp (α:=Nat×Int×Int) (fun gh a w=>match gh with | (nn2,vB1,vB2)=>(Zv (Zt N) N Zu p1 rz7) nn2 vB1 vB2=some r∧Fr 24 [(0,.slice oa2 p1.length cap3),(5,i6 vB1),(10,.slice oa9 rz7.length cap10),(11,i6 (rz7.length:Int)),(12,i6 vB2)] a∧St w0 Nil [H] [sla 3 1 oa9 rz7.length cap10 vs11] w) (fun gh=>gh.1) (N,0,0) ⟨hm,o.hs,u⟩ ?_
 rintro ⟨nn2,vB1,vB2⟩ a w ⟨hm,o,u⟩
 obtain _ | nn2:=nn2
 simp [Zv] at hm
 rw [Zv] at hm
 refine th<|rg<|qv o (e_lss o rfl rfl) fun a o=>re<|?_
 rcases bdich (decide (vB2 < (rz7.length:Int))) with hb14 | hb14
 replace hm:=itp_t hm hb14
 refine tn<|th<|ctv o rfl hb14<|wk<|tn<|th<|wb<|th<|?_
 obtain ⟨x15,h16,hm⟩:=bs hm
 have ho17:=Rd.oaI (u.rdO t0) hv12 (by decide) h16
 obtain ⟨c18,g19,hl20⟩:=Rows.getI hv12 h16
 obtain rfl:c18=[i6 x15]:=g19
 refine rg<|qv o (e_iaI o Tryz.runUnderlying42 Tryz.sizeOf3 rfl rfl h16 ho17) fun a o=>qv o (e_ld o isAgg3 rfl ((St.ld u).elO t0 (hl20 0 _ rfl))) fun a o=>qa o rfl fun a o=>re<|tn<|?_
 obtain ⟨r21,h22,hm⟩:=bs hm
 refine rg<|qm o rfl fun a o=>?_
 iterate 2 refine qm o rfl fun a o=>?_
 refine ls<|cq o call128 (ih (hp_le _) hc4 (St.srH u hr5) h22) ⟨rfl,rfl,trivial⟩ u fun w a u o=>qv o (e_max o rfl rfl) fun a o=>qa o rfl fun a o=>re<|bn<|tn<|rg<|qv o (e_add o rfl rfl) fun a o=>qm o rfl fun a o=>re<|tn<|?_
 exact ⟨(nn2,(max vB1 r21),(IntKind.i64.wrap (vB2+1))),⟨hm,o.hs,u⟩,Nat.lt_succ_self _⟩
 replace hm:=itp_f hm hb14
 refine tn<|th<|cfv o rfl hb14<|we<|tx<|tx<|bx<|tn<|?_
 replace u:=u.pickL .nil
 exact ⟨vB1,hm,o.has ⟨rfl,trivial⟩,u⟩
 rintro a w ⟨vA1,hm,o,u⟩
 unfold Zu at hm
 refine th<|rg<|qm o rfl fun a o=>qv o (e_add o rfl rfl) fun a o=>qa o rfl fun a o=>re<|tn<|wr<|?_
 obtain rfl:=si hm
 exact r1 o results128 rfl ⟨rfl,u.keep⟩
theorem Zq_c (hH:H.le w0) (hT:Tab H) {oa2:Option Addr} {cap3:Nat} {p1:(List api_Node)} (hc4:p1.length≤cap3) (hr5:SR H oa2 p1) {r:Bool} (hm:Zq N p1=some r):Tot Tryz.prog 87 #[.slice oa2 p1.length cap3] w0 (fun v w'=>v=.bool r∧Keep Nil w0 w'):=by
 unfold Zq at hm
 refine fn0 func87 rfl ntmps87 rfl rfl fun a o=>?_
 have u:St w0 Nil [H] [] w0:=start1 hH
 refine th<|rg<|qa o rfl fun a o=>re<|tn<|th<|rg<|qa o rfl fun a o=>re<|tn<|th<|th<|midK (fun a w=>∃ (vA1:Bool),(Zs N p1) vA1=some r∧Fr 27 [(0,.slice oa2 p1.length cap3),(23,.bool vA1)] a∧St w0 Nil [H] [] w) ?_ ?_
 rcases bdich ((decide ((p1.length:Int)=0)) || (decide (40 < (p1.length:Int)))) with hb6 | hb6
 replace hm:=ite_t hm hb6
 refine rg<|qm o rfl fun a o=>qv o (e_lenL (α:=api_Node) (xs:=p1) o runUnderlying49 rfl) fun a o=>qv o (e_eql o rfl rfl) fun a o=>qm o rfl fun a o=>grp (N:=27) (Fk:=[(0,.slice oa2 p1.length cap3),(3,.func (.func 124) #[] #[]),(11,.bool ((decide ((p1.length:Int)=0)) || (decide (40 < (p1.length:Int)))))]) (b:=(decide ((p1.length:Int)=0))) 4 u ?_ ?_ ?_
 intro hb key
 replace o:=Fr.as o (t:=7) rfl (congrArg Value.bool hb)
 iterate 3 refine qn o fun a o=>?_
 refine qv o (e_as (v':=.bool ((decide ((p1.length:Int)=0)) || (decide (40 < (p1.length:Int))))) (e_pickT o rfl rfl) (by rw [hb];rfl)) fun a o=>?_
 exact key _ _ (o.hs) u
 intro hb key
 replace o:=Fr.as o (t:=7) rfl (congrArg Value.bool hb)
 refine qg o (e_move o rfl) fun a o=>qg o (e_lenL (α:=api_Node) (xs:=p1) o runUnderlying49 rfl) fun a o=>qg o (e_gtr o rfl rfl) fun a o=>qv o (e_as (v':=.bool ((decide ((p1.length:Int)=0)) || (decide (40 < (p1.length:Int))))) (e_pickF o rfl rfl) (by rw [hb];rfl)) fun a o=>?_
 exact key _ _ (o.hs) u
 intro a w o u
 refine qv o (e_as (e_move o rfl) (congrArg Value.bool hb6)) fun a o=>?_
 iterate 3 refine qn o fun a o=>?_
 refine qv o (e_pickT o rfl rfl) fun a o=>qm o rfl fun a o=>?_
 iterate 5 refine qn o fun a o=>?_
 refine qv o (e_pickT o rfl rfl) fun a o=>re<|tn<|?_
 exact ⟨true,hm,o.has ⟨rfl,rfl,trivial⟩,u⟩
 replace hm:=ite_f hm hb6
 obtain ⟨rz7,h8,hm⟩:=bs hm
 rcases bdich rz7 with hb9 | hb9
 replace hm:=ite_t hm hb9
 refine rg<|qm o rfl fun a o=>qv o (e_lenL (α:=api_Node) (xs:=p1) o runUnderlying49 rfl) fun a o=>qv o (e_eql o rfl rfl) fun a o=>qm o rfl fun a o=>grp (N:=27) (Fk:=[(0,.slice oa2 p1.length cap3),(3,.func (.func 124) #[] #[]),(11,.bool ((decide ((p1.length:Int)=0)) || (decide (40 < (p1.length:Int)))))]) (b:=(decide ((p1.length:Int)=0))) 4 u ?_ ?_ ?_
 intro hb key
 replace o:=Fr.as o (t:=7) rfl (congrArg Value.bool hb)
 iterate 3 refine qn o fun a o=>?_
 refine qv o (e_as (v':=.bool ((decide ((p1.length:Int)=0)) || (decide (40 < (p1.length:Int))))) (e_pickT o rfl rfl) (by rw [hb];rfl)) fun a o=>?_
 exact key _ _ (o.hs) u
 intro hb key
 replace o:=Fr.as o (t:=7) rfl (congrArg Value.bool hb)
 refine qg o (e_move o rfl) fun a o=>qg o (e_lenL (α:=api_Node) (xs:=p1) o runUnderlying49 rfl) fun a o=>qg o (e_gtr o rfl rfl) fun a o=>qv o (e_as (v':=.bool ((decide ((p1.length:Int)=0)) || (decide (40 < (p1.length:Int))))) (e_pickF o rfl rfl) (by rw [hb];rfl)) fun a o=>?_
 exact key _ _ (o.hs) u
 intro a w o u
 refine qv o (e_as (e_move o rfl) (congrArg Value.bool hb6)) fun a o=>?_
 iterate 2 refine qg o (e_move o rfl) fun a o=>?_
 refine ls<|gy o rfl rfl<|cq o call126 (Z7o_c (hp_le _) (Tab.mono hT (St.up u)) hc4 (St.srH u hr5) h8) ⟨rfl,rfl,trivial⟩ u fun w a u o=>qv o (e_pickF o rfl rfl) fun a o=>qv o (e_as (e_move o rfl) (congrArg Value.bool hb9)) fun a o=>?_
 iterate 5 refine qn o fun a o=>?_
 refine qv o (e_pickT o rfl rfl) fun a o=>re<|tn<|?_
 exact ⟨true,hm,o.has ⟨rfl,rfl,trivial⟩,u⟩
 replace hm:=ite_f hm hb9
 obtain ⟨r10,h11,hm⟩:=bs hm
 refine rg<|qm o rfl fun a o=>qv o (e_lenL (α:=api_Node) (xs:=p1) o runUnderlying49 rfl) fun a o=>qv o (e_eql o rfl rfl) fun a o=>qm o rfl fun a o=>grp (N:=27) (Fk:=[(0,.slice oa2 p1.length cap3),(3,.func (.func 124) #[] #[]),(11,.bool ((decide ((p1.length:Int)=0)) || (decide (40 < (p1.length:Int)))))]) (b:=(decide ((p1.length:Int)=0))) 4 u ?_ ?_ ?_
 intro hb key
 replace o:=Fr.as o (t:=7) rfl (congrArg Value.bool hb)
 iterate 3 refine qn o fun a o=>?_
 refine qv o (e_as (v':=.bool ((decide ((p1.length:Int)=0)) || (decide (40 < (p1.length:Int))))) (e_pickT o rfl rfl) (by rw [hb];rfl)) fun a o=>?_
 exact key _ _ (o.hs) u
 intro hb key
 replace o:=Fr.as o (t:=7) rfl (congrArg Value.bool hb)
 refine qg o (e_move o rfl) fun a o=>qg o (e_lenL (α:=api_Node) (xs:=p1) o runUnderlying49 rfl) fun a o=>qg o (e_gtr o rfl rfl) fun a o=>qv o (e_as (v':=.bool ((decide ((p1.length:Int)=0)) || (decide (40 < (p1.length:Int))))) (e_pickF o rfl rfl) (by rw [hb];rfl)) fun a o=>?_
 exact key _ _ (o.hs) u
 intro a w o u
 refine qv o (e_as (e_move o rfl) (congrArg Value.bool hb6)) fun a o=>?_
 iterate 2 refine qg o (e_move o rfl) fun a o=>?_
 refine ls<|gy o rfl rfl<|cq o call126 (Z7o_c (hp_le _) (Tab.mono hT (St.up u)) hc4 (St.srH u hr5) h8) ⟨rfl,rfl,trivial⟩ u fun w a u o=>qv o (e_pickF o rfl rfl) fun a o=>qv o (e_as (e_move o rfl) (congrArg Value.bool hb9)) fun a o=>qg o (e_move o rfl) fun a o=>ls<|gy o rfl rfl<|cq o call127 (Zm_c (hp_le _) hc4 (St.srH u hr5) h11) ⟨rfl,rfl,trivial⟩ u fun w a u o=>qg o (e_move o rfl) fun a o=>qg o (e_lenL (α:=api_Node) (xs:=p1) o runUnderlying49 rfl) fun a o=>qg o (e_neq o rfl rfl) fun a o=>qv o (e_pickF o rfl rfl) fun a o=>re<|tn<|?_
 exact ⟨(decide (r10≠(p1.length:Int))),hm,o.has ⟨rfl,rfl,trivial⟩,u⟩
 rintro a w ⟨vA1,hm,o,u⟩
 unfold Zs at hm
 rcases bdich vA1 with hb12 | hb12
 replace hm:=ite_t hm hb12
 refine ctv o rfl hb12<|th<|rg<|qa o rfl fun a o=>re<|tn<|wr<|tr<|?_
 obtain rfl:=si hm
 exact r1 o results87 rfl ⟨rfl,u.keep⟩
 replace hm:=ite_f hm hb12
 refine cfv o rfl hb12<|wk<|tn<|th<|?_
 obtain ⟨r13,h14,hm⟩:=bs hm
 refine rg<|qm o rfl fun a o=>ls<|cq o call128 (Zt_c _ (hp_le _) hc4 (St.srH u hr5) h14) ⟨rfl,rfl,trivial⟩ u fun w a u o=>qv o (e_leq o rfl rfl) fun a o=>qa o rfl fun a o=>re<|tn<|wr<|?_
 obtain rfl:=si hm
 exact r1 o results87 rfl ⟨rfl,u.keep⟩
end Go.LM.LB
