/- Walks, lifted by program. No condition beyond the theorems' own premises. -/
import Derived.Test.YtgdkaddhhpgeiaaGreatDoorLBB
import Derived.Test.YtgdkaddhhpgeiaaGreatDoorLZ
namespace Go.LM.LB
open Go Go.LL Go.MD Go.LM Go.Proofs Go.MD.LB Go.Proofs.Tryz
set_option maxRecDepth 100000
variable {N:Nat} {w0:World} {H:PH}
theorem Zs_c (hH:H.le w0) {oa2:Option Addr} {cap3:Nat} {p1:(List api_Cell)} (hc4:p1.length≤cap3) (hr5:SR H oa2 p1) {r:(List api_Cell)} (hm:Zs N p1=some r):Tot Tryz.prog 46 #[.slice oa2 p1.length cap3] w0 (fun v w'=>∃ (oa0:Option Addr) (cap0:Nat) (vs0:List Value),v=.slice oa0 r.length cap0∧(∀ h,Rows h vs0 r)∧Fresh w0 (sla 53 3 oa0 r.length cap0 vs0) w'):=by
 unfold Zs at hm
 refine fn0 func46 rfl ntmps46 rfl rfl fun a o=>?_
 have u:St w0 Nil [H] [] w0:=start1 hH
 refine th<|rg<|qa o rfl fun a o=>re<|tn<|th<|rg<|ls<|a_bsl (e:=53) (sz:=3) [] o rfl u rfl rfl rfl (fun w=>by kernel_rfl) fun b7 w a u o=>?_
 have hv6:Rows (α:=api_Cell) H [] []:=.nil
 refine qa o rfl fun a o=>re<|tn<|th<|th<|rg<|qa o rfl fun a o=>re<|tn<|midK (fun a w=>∃ (vA1:(List api_Cell)) (oaA2:Option Addr) (capA3:Nat) (vsA4:List Value),Zt vA1=some r∧Fr 34 [(3,.slice oaA2 vA1.length capA3)] a∧St w0 Nil [H] [sla 53 3 oaA2 vA1.length capA3 vsA4] w∧Rows H vsA4 vA1) ?_ ?_
 refine wb<|lp (α:=Nat×(List api_Cell)×Int) (fun gh a w=>match gh with | (nn2,vB1,vB7)=>∃ (oaB2:Option Addr) (capB3:Nat) (vsB4:List Value),(Zu N Zt p1) nn2 vB1 vB7=some r∧Fr 34 [(0,.slice oa2 p1.length cap3),(3,.slice oaB2 vB1.length capB3),(4,i6 vB7)] a∧St w0 Nil [H] [sla 53 3 oaB2 vB1.length capB3 vsB4] w∧Rows H vsB4 vB1) (fun gh=>gh.1) (N,[],0) ⟨(some ⟨b7,0,none⟩),0,[],hm,o.hs,u,hv6⟩ ?_
 rintro ⟨nn2,vB1,vB7⟩ a w ⟨oaB2,capB3,vsB4,hm,o,u,hvB5⟩
 obtain _ | nn2:=nn2
 simp [Zu] at hm
 rw [Zu] at hm
 refine th<|th<|rg<|qm o rfl fun a o=>qm o rfl fun a o=>qv o (e_lenL (α:=api_Cell) (xs:=p1) o runUnderlying23 rfl) fun a o=>qv o (e_lss o rfl rfl) fun a o=>qm o rfl fun a o=>grp (N:=34) (Fk:=[(0,.slice oa2 p1.length cap3),(3,.slice oaB2 vB1.length capB3),(4,i6 vB7),(14,.bool ((decide (vB7 < (p1.length:Int))) && (decide (vB7 < 8))))]) (b:=(decide (vB7 < (p1.length:Int)))) 3 u ?_ ?_ ?_
 intro hb key
 replace o:=Fr.as o (t:=11) rfl (congrArg Value.bool hb)
 refine qg o (e_move o rfl) fun a o=>qg o (e_lss o rfl rfl) fun a o=>qv o (e_as (v':=.bool ((decide (vB7 < (p1.length:Int))) && (decide (vB7 < 8)))) (e_pickT o rfl rfl) (by rw [hb];rfl)) fun a o=>?_
 exact key _ _ (o.hs) u
 intro hb key
 replace o:=Fr.as o (t:=11) rfl (congrArg Value.bool hb)
 iterate 2 refine qn o fun a o=>?_
 refine qv o (e_as (v':=.bool ((decide (vB7 < (p1.length:Int))) && (decide (vB7 < 8)))) (e_pickF o rfl rfl) (by rw [hb];rfl)) fun a o=>?_
 exact key _ _ (o.hs) u
 intro a w o u
 refine re<|?_
 rcases bdich ((decide (vB7 < (p1.length:Int))) && (decide (vB7 < 8))) with hb9 | hb9
 replace hm:=ite_t hm hb9
 refine tn<|ctv o rfl hb9<|wk<|tn<|th<|wb<|th<|?_
 obtain ⟨x10,h11,hm⟩:=bs hm
 obtain ⟨c12,g13,hl14⟩:=SR.get hr5 h11
 obtain rfl:=api_Cell_open g13
 refine rg<|qm o rfl fun a o=>qm o rfl fun a o=>qv o (e_iaI o runUnderlying23 sizeOf53 rfl rfl h11 (SR.oaI hr5 (by decide) h11)) fun a o=>qv o (e_ldA o isAgg53 sizeOf53 rfl rfl (fun j v hj=>PH.le.cell (Lds.le (St.ld u)) (hl14 j v hj))) fun a o=>ls<|a_alloc (cs:=[strv [],i6 0,i6 0].toArray) o rfl u zeroValue53 rfl fun b15 w a u o=>ls<|s_blkA o u sizeOf53 rfl rfl rfl rfl (one_cells rfl) .head fun w u=>re<|tn<|th<|?_
 obtain ⟨s16,h17,hm⟩:=bs hm
 refine rg<|qv o (e_fa o fa53_0 rfl) fun a o=>qv o (e_ld o isAgg9 rfl ((St.ld u).cellB t0 rfl)) fun a o=>qv o (e_fa o fa53_0 rfl) fun a o=>qv o (e_ld o isAgg9 rfl ((St.ld u).cellB t0 rfl)) fun a o=>qv o (e_lenU (s:=x10.Name) o runUnderlying9 rfl) fun a o=>qv o (e_min o rfl rfl) fun a o=>qv o (e_subU (s:=x10.Name) (vl:=0) (vh:=(min (x10.Name.length:Int) 40)) o runUnderlying9 rfl rfl rfl h17) fun a o=>qv o (e_fa o fa53_0 rfl) fun a o=>ls<|s_blk o u sizeOf9 rfl rfl rfl rfl .head .zero fun w u=>re<|tn<|?_
 obtain ⟨l21,h22,hm⟩:=bs hm
 refine rg<|qm o rfl fun a o=>qv o (e_ldA o isAgg53 sizeOf53 rfl rfl ((St.ld u).cellsB t0)) fun a o=>ls<|a_bsl (e:=53) (sz:=3) [strv s16,i6 x10.N,i6 x10.At] o rfl u rfl rfl rfl (fun w=>by kernel_rfl) fun b19 w a u o=>?_
 have hv18:Rows (α:=api_Cell) H [strv s16,i6 x10.N,i6 x10.At] ([(api_Cell.mk s16 x10.N x10.At)]:List api_Cell):=(.cons (c:=[strv s16,i6 x10.N,i6 x10.At]) ⟨_,_,rfl,rfl,⟨_,_,rfl,rfl,rfl⟩⟩ .nil)
 refine ls<|m_app (α:=api_Cell) (xs:=vB1) (ys:=([(api_Cell.mk s16 x10.N x10.At)]:List api_Cell)) o rfl u underlying23 info53 rfl (by decide) rfl rfl rfl t2 hvB5 (u.rdO t0) hv18 h22 fun oa23 cap24 vs25 w a hv26 hU o=>?_
 replace u:=hU _ (.tail (.tail .head))
 replace u:=u.drop .head
 refine qa o rfl fun a o=>re<|bn<|tn<|rg<|qm o rfl fun a o=>qv o (e_add o rfl rfl) fun a o=>qa o rfl fun a o=>re<|tn<|?_
 replace u:=u.pk [1] rfl
 exact ⟨(nn2,l21,(IntKind.i64.wrap (vB7+1))),⟨oa23,cap24,vs25,hm,o.hs,u,hv26⟩,Nat.lt_succ_self _⟩
 replace hm:=ite_f hm hb9
 refine tn<|cfv o rfl hb9<|we<|tx<|tx<|bx<|tn<|?_
 exact ⟨vB1,oaB2,capB3,vsB4,hm,o.has ⟨rfl,trivial⟩,u,hvB5⟩
 rintro a w ⟨vA1,oaA2,capA3,vsA4,hm,o,u,hvA5⟩
 unfold Zt at hm
 refine th<|rg<|qm o rfl fun a o=>qa o rfl fun a o=>re<|tn<|wr<|?_
 obtain rfl:=si hm
 exact r1 o results46 rfl ⟨_,_,_,rfl,(fun _=>Rows.ind hvA5),u.endFresh t0⟩
theorem Zg_c (hH:H.le w0) {oa2:Option Addr} {cap3:Nat} {p1:(List api_Node)} (_:p1.length≤cap3) (hr5:SR H oa2 p1) {r:(List api_Node)} (hm:Zg N p1=some r):Tot Tryz.prog 48 #[.slice oa2 p1.length cap3] w0 (fun v w'=>∃ (oa0:Option Addr) (cap0:Nat) (vs0:List Value),v=.slice oa0 r.length cap0∧(∀ h,Rows h vs0 r)∧Fresh w0 (sla 90 4 oa0 r.length cap0 vs0) w'):=by
 unfold Zg at hm
 refine fn0 func48 rfl ntmps48 rfl rfl fun a o=>?_
 have u:St w0 Nil [H] [] w0:=start1 hH
 refine th<|rg<|qa o rfl fun a o=>re<|tn<|th<|rg<|ls<|a_bsl (e:=90) (sz:=4) [] o rfl u rfl rfl rfl (fun w=>by kernel_rfl) fun b7 w a u o=>?_
 have hv6:Rows (α:=api_Node) H [] []:=.nil
 refine qa o rfl fun a o=>re<|tn<|th<|th<|rg<|qa o rfl fun a o=>re<|tn<|midK (fun a w=>∃ (vA1:(List api_Node)) (oaA2:Option Addr) (capA3:Nat) (vsA4:List Value),Zh vA1=some r∧Fr 34 [(3,.slice oaA2 vA1.length capA3)] a∧St w0 Nil [H] [sla 90 4 oaA2 vA1.length capA3 vsA4] w∧Rows H vsA4 vA1) ?_ ?_
 refine wb<|lp (α:=Nat×(List api_Node)×Int) (fun gh a w=>match gh with | (nn2,vB1,vB7)=>∃ (oaB2:Option Addr) (capB3:Nat) (vsB4:List Value),(Zi N Zh p1) nn2 vB1 vB7=some r∧Fr 34 [(0,.slice oa2 p1.length cap3),(3,.slice oaB2 vB1.length capB3),(4,i6 vB7)] a∧St w0 Nil [H] [sla 90 4 oaB2 vB1.length capB3 vsB4] w∧Rows H vsB4 vB1) (fun gh=>gh.1) (N,[],0) ⟨(some ⟨b7,0,none⟩),0,[],hm,o.hs,u,hv6⟩ ?_
 rintro ⟨nn2,vB1,vB7⟩ a w ⟨oaB2,capB3,vsB4,hm,o,u,hvB5⟩
 obtain _ | nn2:=nn2
 simp [Zi] at hm
 rw [Zi] at hm
 refine th<|th<|rg<|qm o rfl fun a o=>qm o rfl fun a o=>qv o (e_lenL (α:=api_Node) (xs:=p1) o runUnderlying49 rfl) fun a o=>qv o (e_lss o rfl rfl) fun a o=>qm o rfl fun a o=>grp (N:=34) (Fk:=[(0,.slice oa2 p1.length cap3),(3,.slice oaB2 vB1.length capB3),(4,i6 vB7),(14,.bool ((decide (vB7 < (p1.length:Int))) && (decide (vB7 < 60))))]) (b:=(decide (vB7 < (p1.length:Int)))) 3 u ?_ ?_ ?_
 intro hb key
 replace o:=Fr.as o (t:=11) rfl (congrArg Value.bool hb)
 refine qg o (e_move o rfl) fun a o=>qg o (e_lss o rfl rfl) fun a o=>qv o (e_as (v':=.bool ((decide (vB7 < (p1.length:Int))) && (decide (vB7 < 60)))) (e_pickT o rfl rfl) (by rw [hb];rfl)) fun a o=>?_
 exact key _ _ (o.hs) u
 intro hb key
 replace o:=Fr.as o (t:=11) rfl (congrArg Value.bool hb)
 iterate 2 refine qn o fun a o=>?_
 refine qv o (e_as (v':=.bool ((decide (vB7 < (p1.length:Int))) && (decide (vB7 < 60)))) (e_pickF o rfl rfl) (by rw [hb];rfl)) fun a o=>?_
 exact key _ _ (o.hs) u
 intro a w o u
 refine re<|?_
 rcases bdich ((decide (vB7 < (p1.length:Int))) && (decide (vB7 < 60))) with hb9 | hb9
 replace hm:=ite_t hm hb9
 refine tn<|ctv o rfl hb9<|wk<|tn<|th<|wb<|th<|?_
 obtain ⟨x10,h11,hm⟩:=bs hm
 obtain ⟨c12,g13,hl14⟩:=SR.get hr5 h11
 obtain rfl:=api_Node_open g13
 refine rg<|qm o rfl fun a o=>qm o rfl fun a o=>qv o (e_iaI o runUnderlying49 sizeOf90 rfl rfl h11 (SR.oaI hr5 (by decide) h11)) fun a o=>qv o (e_ldA o isAgg90 sizeOf90 rfl rfl (fun j v hj=>PH.le.cell (Lds.le (St.ld u)) (hl14 j v hj))) fun a o=>ls<|a_alloc (cs:=[i6 0,i6 0,strv [],i6 0].toArray) o rfl u zeroValue90 rfl fun b15 w a u o=>ls<|s_blkA o u sizeOf90 rfl rfl rfl rfl (one_cells rfl) .head fun w u=>re<|tn<|th<|?_
 obtain ⟨s16,h17,hm⟩:=bs hm
 refine rg<|qv o (e_fa o fa90_2 rfl) fun a o=>qv o (e_ld o isAgg9 rfl ((St.ld u).cellB t0 rfl)) fun a o=>qv o (e_fa o fa90_2 rfl) fun a o=>qv o (e_ld o isAgg9 rfl ((St.ld u).cellB t0 rfl)) fun a o=>qv o (e_lenU (s:=x10.Name) o runUnderlying9 rfl) fun a o=>qv o (e_min o rfl rfl) fun a o=>qv o (e_subU (s:=x10.Name) (vl:=0) (vh:=(min (x10.Name.length:Int) 40)) o runUnderlying9 rfl rfl rfl h17) fun a o=>qv o (e_fa o fa90_2 rfl) fun a o=>ls<|s_blk o u sizeOf9 rfl rfl rfl rfl .head (.succ (.succ .zero)) fun w u=>re<|tn<|?_
 obtain ⟨l21,h22,hm⟩:=bs hm
 refine rg<|qm o rfl fun a o=>qv o (e_ldA o isAgg90 sizeOf90 rfl rfl ((St.ld u).cellsB t0)) fun a o=>ls<|a_bsl (e:=90) (sz:=4) [i6 x10.Op,i6 x10.N,strv s16,i6 x10.At] o rfl u rfl rfl rfl (fun w=>by kernel_rfl) fun b19 w a u o=>?_
 have hv18:Rows (α:=api_Node) H [i6 x10.Op,i6 x10.N,strv s16,i6 x10.At] ([(api_Node.mk x10.Op x10.N s16 x10.At)]:List api_Node):=(.cons (c:=[i6 x10.Op,i6 x10.N,strv s16,i6 x10.At]) ⟨_,_,rfl,rfl,⟨_,_,rfl,rfl,⟨_,_,rfl,rfl,rfl⟩⟩⟩ .nil)
 refine ls<|m_app (α:=api_Node) (xs:=vB1) (ys:=([(api_Node.mk x10.Op x10.N s16 x10.At)]:List api_Node)) o rfl u underlying49 info90 rfl (by decide) rfl rfl rfl t2 hvB5 (u.rdO t0) hv18 h22 fun oa23 cap24 vs25 w a hv26 hU o=>?_
 replace u:=hU _ (.tail (.tail .head))
 replace u:=u.drop .head
 refine qa o rfl fun a o=>re<|bn<|tn<|rg<|qm o rfl fun a o=>qv o (e_add o rfl rfl) fun a o=>qa o rfl fun a o=>re<|tn<|?_
 replace u:=u.pk [1] rfl
 exact ⟨(nn2,l21,(IntKind.i64.wrap (vB7+1))),⟨oa23,cap24,vs25,hm,o.hs,u,hv26⟩,Nat.lt_succ_self _⟩
 replace hm:=ite_f hm hb9
 refine tn<|cfv o rfl hb9<|we<|tx<|tx<|bx<|tn<|?_
 exact ⟨vB1,oaB2,capB3,vsB4,hm,o.has ⟨rfl,trivial⟩,u,hvB5⟩
 rintro a w ⟨vA1,oaA2,capA3,vsA4,hm,o,u,hvA5⟩
 unfold Zh at hm
 refine th<|rg<|qm o rfl fun a o=>qa o rfl fun a o=>re<|tn<|wr<|?_
 obtain rfl:=si hm
 exact r1 o results48 rfl ⟨_,_,_,rfl,(fun _=>Rows.ind hvA5),u.endFresh t0⟩
theorem Zj_c (hH:H.le w0) {oa2:Option Addr} {cap3:Nat} {p1:(List api_Stmt)} (_:p1.length≤cap3) (hr5:SR H oa2 p1) {r:(List api_Stmt)} (hm:Zj N p1=some r):Tot Tryz.prog 43 #[.slice oa2 p1.length cap3] w0 (fun v w'=>∃ (H':PH) (oa0:Option Addr) (cap0:Nat),v=.slice oa0 r.length cap0∧r.length≤cap0∧SR H' oa0 r∧Ext w0 H H'∧H'.le w'∧Keep Nil w0 w'):=by
 unfold Zj at hm
 refine fn0 func43 rfl ntmps43 rfl rfl fun a o=>?_
 have u:St w0 Nil [H] [] w0:=start1 hH
 refine th<|rg<|qa o rfl fun a o=>re<|tn<|th<|rg<|ls<|a_bsl (e:=51) (sz:=9) [] o rfl u rfl rfl rfl (fun w=>by kernel_rfl) fun b7 w a u o=>?_
 have hv6:Rows (α:=api_Stmt) H [] []:=.nil
 refine qa o rfl fun a o=>re<|tn<|th<|th<|rg<|qa o rfl fun a o=>re<|tn<|midK (fun a w=>∃ (vA2:(List api_Stmt)) (HA1:PH) (oaA3:Option Addr) (capA4:Nat) (vsA5:List Value),Zk vA2=some r∧Ext w0 H HA1∧Fr 50 [(3,.slice oaA3 vA2.length capA4)] a∧St w0 Nil [HA1] [sla 51 9 oaA3 vA2.length capA4 vsA5] w∧Rows HA1 vsA5 vA2) ?_ ?_
 refine wb<|lp (α:=Nat×(List api_Stmt)×Int) (fun gh a w=>match gh with | (nn2,vB2,vB8)=>∃ (HB1:PH) (oaB3:Option Addr) (capB4:Nat) (vsB5:List Value),(Zl N Zk p1) nn2 vB2 vB8=some r∧Ext w0 H HB1∧Fr 50 [(0,.slice oa2 p1.length cap3),(3,.slice oaB3 vB2.length capB4),(4,i6 vB8)] a∧St w0 Nil [HB1] [sla 51 9 oaB3 vB2.length capB4 vsB5] w∧Rows HB1 vsB5 vB2) (fun gh=>gh.1) (N,[],0) ⟨H,(some ⟨b7,0,none⟩),0,[],hm,(Ext.refl _ _),o.hs,u,hv6⟩ ?_
 rintro ⟨nn2,vB2,vB8⟩ a w ⟨HB1,oaB3,capB4,vsB5,hm,hxHB1,o,u,hvB6⟩
 obtain _ | nn2:=nn2
 simp [Zl] at hm
 rw [Zl] at hm
 refine th<|th<|rg<|qm o rfl fun a o=>qm o rfl fun a o=>qv o (e_lenL (α:=api_Stmt) (xs:=p1) o runUnderlying46 rfl) fun a o=>qv o (e_lss o rfl rfl) fun a o=>qm o rfl fun a o=>grp (N:=50) (Fk:=[(0,.slice oa2 p1.length cap3),(3,.slice oaB3 vB2.length capB4),(4,i6 vB8),(14,.bool ((decide (vB8 < (p1.length:Int))) && (decide (vB8 < 50))))]) (b:=(decide (vB8 < (p1.length:Int)))) 3 u ?_ ?_ ?_
 intro hb key
 replace o:=Fr.as o (t:=11) rfl (congrArg Value.bool hb)
 refine qg o (e_move o rfl) fun a o=>qg o (e_lss o rfl rfl) fun a o=>qv o (e_as (v':=.bool ((decide (vB8 < (p1.length:Int))) && (decide (vB8 < 50)))) (e_pickT o rfl rfl) (by rw [hb];rfl)) fun a o=>?_
 exact key _ _ (o.hs) u
 intro hb key
 replace o:=Fr.as o (t:=11) rfl (congrArg Value.bool hb)
 iterate 2 refine qn o fun a o=>?_
 refine qv o (e_as (v':=.bool ((decide (vB8 < (p1.length:Int))) && (decide (vB8 < 50)))) (e_pickF o rfl rfl) (by rw [hb];rfl)) fun a o=>?_
 exact key _ _ (o.hs) u
 intro a w o u
 refine re<|?_
 rcases bdich ((decide (vB8 < (p1.length:Int))) && (decide (vB8 < 50))) with hb9 | hb9
 replace hm:=ite_t hm hb9
 refine tn<|ctv o rfl hb9<|wk<|tn<|th<|wb<|th<|?_
 obtain ⟨x10,h11,hm⟩:=bs hm
 obtain ⟨c12,g13,hl14⟩:=SR.get hr5 h11
 obtain ⟨oa15,cap16,oa19,cap20,rfl,hc17,hr18,hc21,hr22⟩:=api_Stmt_open g13
 refine rg<|qm o rfl fun a o=>qm o rfl fun a o=>qv o (e_iaI o runUnderlying46 sizeOf51 rfl rfl h11 (SR.oaI hr5 (by decide) h11)) fun a o=>qv o (e_ldA o isAgg51 sizeOf51 rfl rfl (fun j v hj=>PH.le.cell (fun b o hx=>(Lds.le (St.ld u)) b o (hxHB1.sub b o hx)) (hl14 j v hj))) fun a o=>ls<|a_alloc (cs:=[i6 0,strv [],strv [],.slice none 0 0,.slice none 0 0,i6 0,i6 0,i6 0,i6 0].toArray) o rfl u zeroValue51 rfl fun b23 w a u o=>ls<|s_blkA o u sizeOf51 rfl rfl rfl rfl (one_cells rfl) .head fun w u=>re<|tn<|th<|?_
 obtain ⟨s24,h25,hm⟩:=bs hm
 refine rg<|qv o (e_fa o fa51_1 rfl) fun a o=>qv o (e_ld o isAgg9 rfl ((St.ld u).cellB t0 rfl)) fun a o=>qv o (e_fa o fa51_1 rfl) fun a o=>qv o (e_ld o isAgg9 rfl ((St.ld u).cellB t0 rfl)) fun a o=>qv o (e_lenU (s:=x10.Reg) o runUnderlying9 rfl) fun a o=>qv o (e_min o rfl rfl) fun a o=>qv o (e_subU (s:=x10.Reg) (vl:=0) (vh:=(min (x10.Reg.length:Int) 40)) o runUnderlying9 rfl rfl rfl h25) fun a o=>qv o (e_fa o fa51_1 rfl) fun a o=>ls<|s_blk o u sizeOf9 rfl rfl rfl rfl .head (.succ .zero) fun w u=>re<|tn<|th<|?_
 obtain ⟨s26,h27,hm⟩:=bs hm
 refine rg<|qv o (e_fa o fa51_2 rfl) fun a o=>qv o (e_ld o isAgg9 rfl ((St.ld u).cellB t0 rfl)) fun a o=>qv o (e_fa o fa51_2 rfl) fun a o=>qv o (e_ld o isAgg9 rfl ((St.ld u).cellB t0 rfl)) fun a o=>qv o (e_lenU (s:=x10.Name) o runUnderlying9 rfl) fun a o=>qv o (e_min o rfl rfl) fun a o=>qv o (e_subU (s:=x10.Name) (vl:=0) (vh:=(min (x10.Name.length:Int) 40)) o runUnderlying9 rfl rfl rfl h27) fun a o=>qv o (e_fa o fa51_2 rfl) fun a o=>ls<|s_blk o u sizeOf9 rfl rfl rfl rfl .head (.succ (.succ .zero)) fun w u=>re<|tn<|th<|?_
 obtain ⟨r28,h29,hm⟩:=bs hm
 refine rg<|qv o (e_fa o fa51_3 rfl) fun a o=>qv o (e_ld o isAgg49 rfl ((St.ld u).cellB t0 rfl)) fun a o=>ls<|c1 o rfl call48 (Zg_c (hp_le _) hc17 (St.srH u (hr18.mono hxHB1.sub)) h29) ⟨rfl,trivial⟩ (fun v w a hR o=>?_)
 obtain ⟨oa30,cap31,vs32,rfl,hv33,hk⟩:=hR
 replace u:=u.fresh hk
 replace hv33:=hv33 HB1
 refine qv o (e_fa o fa51_3 rfl) fun a o=>ls<|s_blk o u sizeOf49 rfl rfl rfl rfl (.tail .head) (.succ (.succ (.succ .zero))) fun w u=>re<|tn<|th<|?_
 obtain ⟨r35,h36,hm⟩:=bs hm
 refine rg<|qv o (e_fa o fa51_4 rfl) fun a o=>qv o (e_ld o isAgg49 rfl ((St.ld u).cellB t1 rfl)) fun a o=>ls<|c1 o rfl call48 (Zg_c (hp_le _) hc21 (St.srH u (hr22.mono hxHB1.sub)) h36) ⟨rfl,trivial⟩ (fun v w a hR o=>?_)
 obtain ⟨oa37,cap38,vs39,rfl,hv40,hk⟩:=hR
 replace u:=u.fresh hk
 replace hv40:=hv40 HB1
 refine qv o (e_fa o fa51_4 rfl) fun a o=>ls<|s_blk o u sizeOf49 rfl rfl rfl rfl (.tail (.tail .head)) (.succ (.succ (.succ (.succ .zero)))) fun w u=>re<|tn<|?_
 obtain ⟨l53,h54,hm⟩:=bs hm
 refine rg<|qm o rfl fun a o=>qv o (e_ldA o isAgg51 sizeOf51 rfl rfl ((St.ld u).cellsB t2)) fun a o=>?_
 obtain ⟨H45,hx42,hr43,hc44,u⟩:=St.frzS u (.tail .head) hv33
 obtain ⟨H49,hx46,hr47,hc48,u⟩:=St.frzS u .head (hv40.mono hx42.sub)
 refine ls<|a_bsl (e:=51) (sz:=9) [i6 x10.Kind,strv s24,strv s26,.slice oa30 r28.length cap31,.slice oa37 r35.length cap38,i6 x10.N,i6 x10.Body,i6 x10.Else,i6 x10.At] o rfl u rfl rfl rfl (fun w=>by kernel_rfl) fun b51 w a u o=>?_
 have hv50:Rows (α:=api_Stmt) H49 [i6 x10.Kind,strv s24,strv s26,.slice oa30 r28.length cap31,.slice oa37 r35.length cap38,i6 x10.N,i6 x10.Body,i6 x10.Else,i6 x10.At] ([(api_Stmt.mk x10.Kind s24 s26 r28 r35 x10.N x10.Body x10.Else x10.At)]:List api_Stmt):=(.cons (c:=[i6 x10.Kind,strv s24,strv s26,.slice oa30 r28.length cap31,.slice oa37 r35.length cap38,i6 x10.N,i6 x10.Body,i6 x10.Else,i6 x10.At]) ⟨_,_,rfl,rfl,⟨_,_,rfl,rfl,⟨_,_,rfl,rfl,⟨_,_,rfl,⟨_,_,rfl,hc44,(hr43.mono hx46.sub)⟩,⟨_,_,rfl,⟨_,_,rfl,hc48,hr47⟩,⟨_,_,rfl,rfl,⟨_,_,rfl,rfl,⟨_,_,rfl,rfl,rfl⟩⟩⟩⟩⟩⟩⟩⟩ .nil)
 refine ls<|m_app (α:=api_Stmt) (xs:=vB2) (ys:=([(api_Stmt.mk x10.Kind s24 s26 r28 r35 x10.N x10.Body x10.Else x10.At)]:List api_Stmt)) o rfl u underlying46 info51 rfl (by decide) rfl rfl rfl t2 (hvB6.mono (cp hx46.sub hx42.sub)) (u.rdO t0) hv50 h54 fun oa55 cap56 vs57 w a hv58 hU o=>?_
 replace u:=hU _ (.tail (.tail .head))
 replace u:=u.drop .head
 refine qa o rfl fun a o=>re<|bn<|tn<|rg<|qm o rfl fun a o=>qv o (e_add o rfl rfl) fun a o=>qa o rfl fun a o=>re<|tn<|?_
 replace u:=u.pk [1] rfl
 exact ⟨(nn2,l53,(IntKind.i64.wrap (vB8+1))),⟨H49,oa55,cap56,vs57,hm,(Ext.trans hxHB1 (Ext.trans hx42 hx46)),o.hs,u,hv58⟩,Nat.lt_succ_self _⟩
 replace hm:=ite_f hm hb9
 refine tn<|cfv o rfl hb9<|we<|tx<|tx<|bx<|tn<|?_
 exact ⟨vB2,HB1,oaB3,capB4,vsB5,hm,hxHB1,o.has ⟨rfl,trivial⟩,u,hvB6⟩
 rintro a w ⟨vA2,HA1,oaA3,capA4,vsA5,hm,hxHA1,o,u,hvA6⟩
 unfold Zk at hm
 refine th<|rg<|qm o rfl fun a o=>qa o rfl fun a o=>re<|tn<|wr<|?_
 obtain ⟨H62,hx59,hr60,hc61,u⟩:=St.frzS u .head hvA6
 obtain rfl:=si hm
 exact r1 o results43 rfl ⟨H62,_,_,rfl,hc61,hr60,(Ext.trans hxHA1 hx59),(St.le u),u.keep⟩
set_option maxHeartbeats 4000000 in
theorem Zv_c (hH:H.le w0) {oa2:Option Addr} {cap3:Nat} {p1:(List api_Thread)} (hc4:p1.length≤cap3) (hr5:SR H oa2 p1) {r:(List api_Thread)} (hm:Zv N p1=some r):Tot Tryz.prog 47 #[.slice oa2 p1.length cap3] w0 (fun v w'=>∃ (H':PH) (oa0:Option Addr) (cap0:Nat),v=.slice oa0 r.length cap0∧r.length≤cap0∧SR H' oa0 r∧Ext w0 H H'∧H'.le w'∧Keep Nil w0 w'):=by
 unfold Zv at hm
 refine fn0 func47 rfl ntmps47 rfl rfl fun a o=>?_
 have u:St w0 Nil [H] [] w0:=start1 hH
 refine th<|rg<|qa o rfl fun a o=>re<|tn<|th<|rg<|ls<|a_bsl (e:=48) (sz:=4) [] o rfl u rfl rfl rfl (fun w=>by kernel_rfl) fun b7 w a u o=>?_
 have hv6:Rows (α:=api_Thread) H [] []:=.nil
 refine qa o rfl fun a o=>re<|tn<|th<|th<|rg<|qa o rfl fun a o=>re<|tn<|midK (fun a w=>∃ (vA2:(List api_Thread)) (HA1:PH) (oaA3:Option Addr) (capA4:Nat) (vsA5:List Value),Zw vA2=some r∧Ext w0 H HA1∧Fr 86 [(3,.slice oaA3 vA2.length capA4)] a∧St w0 Nil [HA1] [sla 48 4 oaA3 vA2.length capA4 vsA5] w∧Rows HA1 vsA5 vA2) ?_ ?_
 refine wb<|lp (α:=Nat×(List api_Thread)×Int) (fun gh a w=>match gh with | (nn2,vB2,vB8)=>∃ (HB1:PH) (oaB3:Option Addr) (capB4:Nat) (vsB5:List Value),(Z10 N Zw p1) nn2 vB2 vB8=some r∧Ext w0 H HB1∧Fr 86 [(0,.slice oa2 p1.length cap3),(3,.slice oaB3 vB2.length capB4),(4,i6 vB8)] a∧St w0 Nil [HB1] [sla 48 4 oaB3 vB2.length capB4 vsB5] w∧Rows HB1 vsB5 vB2) (fun gh=>gh.1) (N,[],0) ⟨H,(some ⟨b7,0,none⟩),0,[],hm,(Ext.refl _ _),o.hs,u,hv6⟩ ?_
 rintro ⟨nn2,vB2,vB8⟩ a w ⟨HB1,oaB3,capB4,vsB5,hm,hxHB1,o,u,hvB6⟩
 obtain _ | nn2:=nn2
 simp [Z10] at hm
 rw [Z10] at hm
 refine th<|th<|rg<|qm o rfl fun a o=>qm o rfl fun a o=>qv o (e_lenL (α:=api_Thread) (xs:=p1) o runUnderlying24 rfl) fun a o=>qv o (e_lss o rfl rfl) fun a o=>qm o rfl fun a o=>grp (N:=86) (Fk:=[(0,.slice oa2 p1.length cap3),(3,.slice oaB3 vB2.length capB4),(4,i6 vB8),(15,.bool ((decide (vB8 < (p1.length:Int))) && (decide (vB8 < 4))))]) (b:=(decide (vB8 < (p1.length:Int)))) 3 u ?_ ?_ ?_
 intro hb key
 replace o:=Fr.as o (t:=12) rfl (congrArg Value.bool hb)
 refine qg o (e_move o rfl) fun a o=>qg o (e_lss o rfl rfl) fun a o=>qv o (e_as (v':=.bool ((decide (vB8 < (p1.length:Int))) && (decide (vB8 < 4)))) (e_pickT o rfl rfl) (by rw [hb];rfl)) fun a o=>?_
 exact key _ _ (o.hs) u
 intro hb key
 replace o:=Fr.as o (t:=12) rfl (congrArg Value.bool hb)
 iterate 2 refine qn o fun a o=>?_
 refine qv o (e_as (v':=.bool ((decide (vB8 < (p1.length:Int))) && (decide (vB8 < 4)))) (e_pickF o rfl rfl) (by rw [hb];rfl)) fun a o=>?_
 exact key _ _ (o.hs) u
 intro a w o u
 refine re<|?_
 rcases bdich ((decide (vB8 < (p1.length:Int))) && (decide (vB8 < 4))) with hb9 | hb9
 replace hm:=ite_t hm hb9
 refine tn<|ctv o rfl hb9<|wk<|tn<|th<|midK (fun a w=>∃ (vC2:(List api_Thread)) (HC1:PH) (oaC3:Option Addr) (capC4:Nat) (vsC5:List Value),(Zx (Z10 N Zw p1 nn2) vB8) vC2=some r∧Ext w0 HB1 HC1∧Fr 86 [(0,.slice oa2 p1.length cap3),(3,.slice oaC3 vC2.length capC4),(4,i6 vB8)] a∧St w0 Nil [HC1] [sla 48 4 oaC3 vC2.length capC4 vsC5] w∧Rows HC1 vsC5 vC2) ?_ ?_
 refine wb<|th<|midK (fun a w=>∃ (vD3:Str) (vD4:(List api_Stmt)) (vD9:Int) (HD1:PH) (bD2:Nat) (oaD5:Option Addr) (capD6:Nat),(Zy N (Zx (Z10 N Zw p1 nn2) vB8) p1 vB2 vB8) vD3 vD4 vD9=some r∧Ext w0 HB1 HD1∧Fr 86 [(0,.slice oa2 p1.length cap3),(3,.slice oaB3 vB2.length capB4),(4,i6 vB8),(5,.pointer (some ⟨bD2,0,none⟩))] a∧St w0 Nil [HD1] [sla 48 4 oaB3 vB2.length capB4 vsB5,blk bD2 (.cells [strv vD3,.slice none 0 0,.slice oaD5 vD4.length capD6,i6 vD9].toArray 48 (0,0))] w∧vD4.length≤capD6∧SR HD1 oaD5 vD4) ?_ ?_
 obtain ⟨x10,h11,hm⟩:=bs hm
 obtain ⟨c12,g13,hl14⟩:=SR.get hr5 h11
 obtain ⟨oa15,cap16,oa19,cap20,rfl,hc17,hr18,hc21,hr22⟩:=api_Thread_open g13
 obtain ⟨s23,h24,hm⟩:=bs hm
 obtain ⟨r25,h26,hm⟩:=bs hm
 refine rdS 26 u wide fun w u=>dr 0 u o rfl (e_move o rfl) fun a o=>dr 1 u o rfl (e_move o rfl) fun a o=>dr 2 u o rfl (e_iaI o runUnderlying24 sizeOf48 rfl rfl h11 (SR.oaI hr5 (by decide) h11)) fun a o=>dr 3 u o rfl (e_fa o fa48_0 rfl) fun a o=>dq 4 (St.ld u) o rfl (fun w hl=>e_ld o isAgg9 rfl (PH.le.cell (fun b o hx=>(Lds.le hl) b o (hxHB1.sub b o hx)) (hl14 0 _ rfl))) fun a o=>dr 5 u o rfl (e_move o rfl) fun a o=>dr 6 u o rfl (e_move o rfl) fun a o=>dr 7 u o rfl (e_iaI o runUnderlying24 sizeOf48 rfl rfl h11 (SR.oaI hr5 (by decide) h11)) fun a o=>dr 8 u o rfl (e_fa o fa48_0 rfl) fun a o=>dq 9 (St.ld u) o rfl (fun w hl=>e_ld o isAgg9 rfl (PH.le.cell (fun b o hx=>(Lds.le hl) b o (hxHB1.sub b o hx)) (hl14 0 _ rfl))) fun a o=>dr 10 u o rfl (e_lenU (s:=x10.Name) o runUnderlying9 rfl) fun a o=>dr 11 u o rfl (e_min o rfl rfl) fun a o=>dr 12 u o rfl (e_subU (s:=x10.Name) (vl:=0) (vh:=(min (x10.Name.length:Int) 40)) o runUnderlying9 rfl rfl rfl h24) fun a o=>dr 13 u o rfl (e_move o rfl) fun a o=>dr 14 u o rfl (e_move o rfl) fun a o=>dr 15 u o rfl (e_iaI o runUnderlying24 sizeOf48 rfl rfl h11 (SR.oaI hr5 (by decide) h11)) fun a o=>dr 16 u o rfl (e_fa o fa48_3 rfl) fun a o=>dq 17 (St.ld u) o rfl (fun w hl=>e_ld o isAgg3 rfl (PH.le.cell (fun b o hx=>(Lds.le hl) b o (hxHB1.sub b o hx)) (hl14 3 _ rfl))) fun a o=>dr 18 u o rfl (e_move o rfl) fun a o=>dr 19 u o rfl (e_move o rfl) fun a o=>dr 20 u o rfl (e_iaI o runUnderlying24 sizeOf48 rfl rfl h11 (SR.oaI hr5 (by decide) h11)) fun a o=>dr 21 u o rfl (e_fa o fa48_2 rfl) fun a o=>dq 22 (St.ld u) o rfl (fun w hl=>e_ld o isAgg46 rfl (PH.le.cell (fun b o hx=>(Lds.le hl) b o (hxHB1.sub b o hx)) (hl14 2 _ rfl))) fun a o=>da2 (i:=23) (j:=25) (by kernel_rfl) ?_ ?_
 refine di (i:=23) rfl<|c1 o rfl call43 (Zj_c (St.le u) hc21 (hr22.mono hxHB1.sub) h26) ⟨rfl,trivial⟩ (fun v w a hR o=>?_)
 obtain ⟨H30,oa31,cap32,rfl,hc33,hr34,hx27,hl28,hk⟩:=hR
 obtain ⟨u,hx27⟩:=And.intro (St.passH u hk hx27 hl28) (St.extc u hx27)
 refine ⟨fun _=>(St.ldsX u hx27.sub i1),?_⟩
 refine dq 24 (St.ldsX u hx27.sub i1) o rfl (fun w hl=>e_bldK [strv s23,i6 x10.At,.slice oa31 r25.length cap32] [strv s23,.slice none 0 0,.slice oa31 r25.length cap32,i6 x10.At] o ⟨rfl,rfl,rfl,trivial⟩ (fun w=>by kernel_rfl)) fun a o=>da1 (i:=25) (by kernel_rfl) ?_
 refine di (i:=25) rfl<|a_alloc (cs:=[strv [],.slice none 0 0,.slice none 0 0,i6 0].toArray) o rfl u zeroValue48 rfl fun b35 w a u o=>⟨fun _=>(St.ldsX u hx27.sub ta1),?_⟩
 refine da1 (i:=26) (by kernel_rfl) ?_
 refine di (i:=26) rfl<|s_blkA o u sizeOf48 rfl rfl rfl rfl (one_cells rfl) .head fun w u=>⟨fun h=>absurd rfl h,?_⟩
 refine de (by kernel_rfl)<|tn<|?_
 replace u:=u.pk [1,0] rfl
 exact ⟨s23,r25,x10.At,H30,b35,oa31,cap32,hm,hx27,o.hs,u,hc33,hr34⟩
 refine di (i:=25) rfl<|a_alloc (cs:=[strv [],.slice none 0 0,.slice none 0 0,i6 0].toArray) o rfl u zeroValue48 rfl fun b35 w a u o=>⟨fun _=>(St.ldsX u i2 ta1),?_⟩
 refine da1 (i:=23) (by kernel_rfl) ?_
 refine di (i:=23) rfl<|c1 o rfl call43 (Zj_c (St.le u) hc21 (hr22.mono hxHB1.sub) h26) ⟨rfl,trivial⟩ (fun v w a hR o=>?_)
 obtain ⟨H30,oa31,cap32,rfl,hc33,hr34,hx27,hl28,hk⟩:=hR
 obtain ⟨u,hx27⟩:=And.intro (St.passH u hk hx27 hl28) (St.extc u hx27)
 refine ⟨fun _=>(St.ldsX u hx27.sub ta1),?_⟩
 refine dq 24 (St.ldsX u hx27.sub ta1) o rfl (fun w hl=>e_bldK [strv s23,i6 x10.At,.slice oa31 r25.length cap32] [strv s23,.slice none 0 0,.slice oa31 r25.length cap32,i6 x10.At] o ⟨rfl,rfl,rfl,trivial⟩ (fun w=>by kernel_rfl)) fun a o=>da1 (i:=26) (by kernel_rfl) ?_
 refine di (i:=26) rfl<|s_blkA o u sizeOf48 rfl rfl rfl rfl (one_cells rfl) .head fun w u=>⟨fun h=>absurd rfl h,?_⟩
 refine de (by kernel_rfl)<|tn<|?_
 replace u:=u.pk [1,0] rfl
 exact ⟨s23,r25,x10.At,H30,b35,oa31,cap32,hm,hx27,o.hs,u,hc33,hr34⟩
 rintro a w ⟨vD3,vD4,vD9,HD1,bD2,oaD5,capD6,hm,hxHD1,o,u,hcD7,hrD8⟩
 unfold Zy at hm
 refine th<|th<|rg<|qa o rfl fun a o=>re<|tn<|midK (fun a w=>∃ (vD10:(List Str)) (oaD11:Option Addr) (capD12:Nat) (vsD13:List Value),(Zz (Zx (Z10 N Zw p1 nn2) vB8) vD3 vD4 vD9 vB2) vD10=some r∧Fr 86 [(0,.slice oa2 p1.length cap3),(3,.slice oaB3 vB2.length capB4),(4,i6 vB8),(5,.pointer (some ⟨bD2,0,none⟩))] a∧St w0 Nil [HD1] [sla 48 4 oaB3 vB2.length capB4 vsB5,sla 9 1 oaD11 vD10.length capD12 vsD13,blk bD2 (.cells [strv vD3,.slice oaD11 vD10.length capD12,.slice oaD5 vD4.length capD6,i6 vD9].toArray 48 (0,0))] w∧Rows HD1 vsD13 vD10) ?_ ?_
 replace u:=St.nilS u 9 1
 replace u:=u.pk [1,0,0] rfl
 refine wb<|lp (α:=Nat×(List Str)×Int) (fun gh a w=>match gh with | (nn6,vE1,vE7)=>∃ (oaE2:Option Addr) (capE3:Nat) (vsE4:List Value),(Z11 N (Zz (Zx (Z10 N Zw p1 nn2) vB8) vD3 vD4 vD9 vB2) p1 vB8) nn6 vE1 vE7=some r∧Fr 86 [(0,.slice oa2 p1.length cap3),(3,.slice oaB3 vB2.length capB4),(4,i6 vB8),(5,.pointer (some ⟨bD2,0,none⟩)),(6,i6 vE7)] a∧St w0 Nil [HD1] [sla 48 4 oaB3 vB2.length capB4 vsB5,sla 9 1 oaE2 vE1.length capE3 vsE4,blk bD2 (.cells [strv vD3,.slice oaE2 vE1.length capE3,.slice oaD5 vD4.length capD6,i6 vD9].toArray 48 (0,0))] w∧Rows HD1 vsE4 vE1) (fun gh=>gh.1) (N,[],0) ⟨none,0,[],hm,o.hs,u,.nil⟩ ?_
 rintro ⟨nn6,vE1,vE7⟩ a w ⟨oaE2,capE3,vsE4,hm,o,u,hvE5⟩
 obtain _ | nn6:=nn6
 simp [Z11] at hm
 rw [Z11] at hm
 refine th<|th<|?_
 obtain ⟨x36,h37,hm⟩:=bs hm
 obtain ⟨c38,g39,hl40⟩:=SR.get hr5 h37
 obtain ⟨oa41,cap42,oa45,cap46,rfl,hc43,hr44,hc47,hr48⟩:=api_Thread_open g39
 refine rg<|qm o rfl fun a o=>?_
 iterate 2 refine qm o rfl fun a o=>?_
 refine qv o (e_iaI o runUnderlying24 sizeOf48 rfl rfl h37 (SR.oaI hr5 (by decide) h37)) fun a o=>qv o (e_fa o fa48_1 rfl) fun a o=>qv o (e_ld o isAgg36 rfl (PH.le.cell (fun b o hx=>(Lds.le (St.ld u)) b o ((cp hxHD1.sub hxHB1.sub) b o hx)) (hl40 1 _ rfl))) fun a o=>qv o (e_lenL (α:=Str) (xs:=x36.Regs) o runUnderlying36 rfl) fun a o=>qv o (e_lss o rfl rfl) fun a o=>qm o rfl fun a o=>grp (N:=86) (Fk:=[(0,.slice oa2 p1.length cap3),(3,.slice oaB3 vB2.length capB4),(4,i6 vB8),(5,.pointer (some ⟨bD2,0,none⟩)),(6,i6 vE7),(54,.bool ((decide (vE7 < (x36.Regs.length:Int))) && (decide (vE7 < 6))))]) (b:=(decide (vE7 < (x36.Regs.length:Int)))) 3 u ?_ ?_ ?_
 intro hb key
 replace o:=Fr.as o (t:=51) rfl (congrArg Value.bool hb)
 refine qg o (e_move o rfl) fun a o=>qg o (e_lss o rfl rfl) fun a o=>qv o (e_as (v':=.bool ((decide (vE7 < (x36.Regs.length:Int))) && (decide (vE7 < 6)))) (e_pickT o rfl rfl) (by rw [hb];rfl)) fun a o=>?_
 exact key _ _ (o.hs) u
 intro hb key
 replace o:=Fr.as o (t:=51) rfl (congrArg Value.bool hb)
 iterate 2 refine qn o fun a o=>?_
 refine qv o (e_as (v':=.bool ((decide (vE7 < (x36.Regs.length:Int))) && (decide (vE7 < 6)))) (e_pickF o rfl rfl) (by rw [hb];rfl)) fun a o=>?_
 exact key _ _ (o.hs) u
 intro a w o u
 refine re<|?_
 rcases bdich ((decide (vE7 < (x36.Regs.length:Int))) && (decide (vE7 < 6))) with hb49 | hb49
 replace hm:=ite_t hm hb49
 refine tn<|ctv o rfl hb49<|wk<|tn<|th<|wb<|?_
 obtain ⟨x50,h51,hm⟩:=bs hm
 obtain ⟨c52,g53,hl54⟩:=SR.get hr44 h51
 obtain rfl:c52=[strv x50]:=g53
 obtain ⟨s55,h56,hm⟩:=bs hm
 obtain ⟨l60,h61,hm⟩:=bs hm
 refine rdL (sub_cons t0 (sub_cons t2 sub_nil)) 24 u wide fun w u=>ds 0 (St.ldsX u i2 (sub_cons t0 (sub_cons t2 sub_nil))) o rfl (e_fa o fa48_1 rfl) fun a o=>dq 1 (St.ldsX u i2 (sub_cons t0 (sub_cons t2 sub_nil))) o rfl (fun w hl=>e_ld o isAgg36 rfl (hl.cellB t1 rfl)) fun a o=>ds 2 (St.ldsX u i2 (sub_cons t0 (sub_cons t2 sub_nil))) o rfl (e_move o rfl) fun a o=>ds 3 (St.ldsX u i2 (sub_cons t0 (sub_cons t2 sub_nil))) o rfl (e_move o rfl) fun a o=>ds 4 (St.ldsX u i2 (sub_cons t0 (sub_cons t2 sub_nil))) o rfl (e_iaI o runUnderlying24 sizeOf48 rfl rfl h37 (SR.oaI hr5 (by decide) h37)) fun a o=>ds 5 (St.ldsX u i2 (sub_cons t0 (sub_cons t2 sub_nil))) o rfl (e_fa o fa48_1 rfl) fun a o=>dq 6 (St.ldsX u i2 (sub_cons t0 (sub_cons t2 sub_nil))) o rfl (fun w hl=>e_ld o isAgg36 rfl (PH.le.cell (fun b o hx=>(Lds.le hl) b o ((cp hxHD1.sub hxHB1.sub) b o hx)) (hl40 1 _ rfl))) fun a o=>ds 7 (St.ldsX u i2 (sub_cons t0 (sub_cons t2 sub_nil))) o rfl (e_move o rfl) fun a o=>ds 8 (St.ldsX u i2 (sub_cons t0 (sub_cons t2 sub_nil))) o rfl (e_iaI o runUnderlying36 sizeOf9 rfl rfl h51 (SR.oaI hr44 (by decide) h51)) fun a o=>dq 9 (St.ldsX u i2 (sub_cons t0 (sub_cons t2 sub_nil))) o rfl (fun w hl=>e_ld o isAgg9 rfl (PH.le.cell (fun b o hx=>(Lds.le hl) b o ((cp hxHD1.sub hxHB1.sub) b o hx)) (hl54 0 _ rfl))) fun a o=>ds 10 (St.ldsX u i2 (sub_cons t0 (sub_cons t2 sub_nil))) o rfl (e_move o rfl) fun a o=>ds 11 (St.ldsX u i2 (sub_cons t0 (sub_cons t2 sub_nil))) o rfl (e_move o rfl) fun a o=>ds 12 (St.ldsX u i2 (sub_cons t0 (sub_cons t2 sub_nil))) o rfl (e_iaI o runUnderlying24 sizeOf48 rfl rfl h37 (SR.oaI hr5 (by decide) h37)) fun a o=>ds 13 (St.ldsX u i2 (sub_cons t0 (sub_cons t2 sub_nil))) o rfl (e_fa o fa48_1 rfl) fun a o=>dq 14 (St.ldsX u i2 (sub_cons t0 (sub_cons t2 sub_nil))) o rfl (fun w hl=>e_ld o isAgg36 rfl (PH.le.cell (fun b o hx=>(Lds.le hl) b o ((cp hxHD1.sub hxHB1.sub) b o hx)) (hl40 1 _ rfl))) fun a o=>ds 15 (St.ldsX u i2 (sub_cons t0 (sub_cons t2 sub_nil))) o rfl (e_move o rfl) fun a o=>ds 16 (St.ldsX u i2 (sub_cons t0 (sub_cons t2 sub_nil))) o rfl (e_iaI o runUnderlying36 sizeOf9 rfl rfl h51 (SR.oaI hr44 (by decide) h51)) fun a o=>dq 17 (St.ldsX u i2 (sub_cons t0 (sub_cons t2 sub_nil))) o rfl (fun w hl=>e_ld o isAgg9 rfl (PH.le.cell (fun b o hx=>(Lds.le hl) b o ((cp hxHD1.sub hxHB1.sub) b o hx)) (hl54 0 _ rfl))) fun a o=>ds 18 (St.ldsX u i2 (sub_cons t0 (sub_cons t2 sub_nil))) o rfl (e_lenU (s:=x50) o runUnderlying9 rfl) fun a o=>ds 19 (St.ldsX u i2 (sub_cons t0 (sub_cons t2 sub_nil))) o rfl (e_min o rfl rfl) fun a o=>ds 20 (St.ldsX u i2 (sub_cons t0 (sub_cons t2 sub_nil))) o rfl (e_subU (s:=x50) (vl:=0) (vh:=(min (x50.length:Int) 40)) o runUnderlying9 rfl rfl rfl h56) fun a o=>da1 (i:=21) (by kernel_rfl) ?_
 have hv57:Rows (α:=Str) HD1 [strv s55] ([s55]:List Str):=(.cons (c:=[strv s55]) rfl .nil)
 refine di (i:=21) rfl<|a_bsl (e:=9) (sz:=1) [strv s55] o rfl u rfl rfl rfl (fun w=>by kernel_rfl) fun b58 w a u o=>⟨fun _=>(St.ldsX u i2 (sub_cons t1 (sub_cons t3 sub_nil))),?_⟩
 refine da1 (i:=22) (by kernel_rfl) ?_
 refine di (i:=22) rfl<|m_app (α:=Str) (xs:=vE1) (ys:=([s55]:List Str)) o rfl u underlying36 info9 rfl (by decide) rfl rfl rfl t2 hvE5 (u.rdO t0) hv57 h61 fun oa62 cap63 vs64 w a hv65 hU o=>?_
 replace u:=hU _ (.tail (.tail .head))
 replace u:=u.drop .head
 refine ⟨fun _=>(St.ldsX u i2 (sub_cons t0 (sub_cons t2 sub_nil))),?_⟩
 refine ds 23 (St.ldsX u i2 (sub_cons t0 (sub_cons t2 sub_nil))) o rfl (e_fa o fa48_1 rfl) fun a o=>da1 (i:=24) (by kernel_rfl) ?_
 refine di (i:=24) rfl<|s_blk o u sizeOf36 rfl rfl rfl rfl (.tail (.tail .head)) (.succ .zero) fun w u=>⟨fun h=>absurd rfl h,?_⟩
 refine de (by kernel_rfl)<|bn<|tn<|rg<|qm o rfl fun a o=>qv o (e_add o rfl rfl) fun a o=>qa o rfl fun a o=>re<|tn<|?_
 exact ⟨(nn6,l60,(IntKind.i64.wrap (vE7+1))),⟨oa62,cap63,vs64,hm,o.hs,u,hv65⟩,Nat.lt_succ_self _⟩
 replace hm:=ite_f hm hb49
 refine tn<|cfv o rfl hb49<|we<|tx<|tx<|bx<|tn<|?_
 exact ⟨vE1,oaE2,capE3,vsE4,hm,o.hs,u,hvE5⟩
 rintro a w ⟨vD10,oaD11,capD12,vsD13,hm,o,u,hvD14⟩
 unfold Zz at hm
 obtain ⟨l73,h74,hm⟩:=bs hm
 refine rg<|qm o rfl fun a o=>qv o (e_ldA o isAgg48 sizeOf48 rfl rfl ((St.ld u).cellsB t2)) fun a o=>?_
 obtain ⟨H69,hx66,hr67,hc68,u⟩:=St.frzS u (.tail .head) hvD14
 refine ls<|a_bsl (e:=48) (sz:=4) [strv vD3,.slice oaD11 vD10.length capD12,.slice oaD5 vD4.length capD6,i6 vD9] o rfl u rfl rfl rfl (fun w=>by kernel_rfl) fun b71 w a u o=>?_
 have hv70:Rows (α:=api_Thread) H69 [strv vD3,.slice oaD11 vD10.length capD12,.slice oaD5 vD4.length capD6,i6 vD9] ([(api_Thread.mk vD3 vD10 vD4 vD9)]:List api_Thread):=(.cons (c:=[strv vD3,.slice oaD11 vD10.length capD12,.slice oaD5 vD4.length capD6,i6 vD9]) ⟨_,_,rfl,rfl,⟨_,_,rfl,⟨_,_,rfl,hc68,hr67⟩,⟨_,_,rfl,⟨_,_,rfl,hcD7,(hrD8.mono hx66.sub)⟩,rfl⟩⟩⟩ .nil)
 refine ls<|m_app (α:=api_Thread) (xs:=vB2) (ys:=([(api_Thread.mk vD3 vD10 vD4 vD9)]:List api_Thread)) o rfl u underlying24 info48 rfl (by decide) rfl rfl rfl t1 (hvB6.mono (cp hx66.sub hxHD1.sub)) (u.rdO t0) hv70 h74 fun oa75 cap76 vs77 w a hv78 hU o=>?_
 replace u:=hU _ (.tail .head)
 replace u:=u.drop .head
 refine qa o rfl fun a o=>re<|bn<|tn<|?_
 replace u:=u.pk [0] rfl
 exact ⟨l73,H69,oa75,cap76,vs77,hm,(Ext.trans hxHD1 hx66),o.hs,u,hv78⟩
 rintro a w ⟨vC2,HC1,oaC3,capC4,vsC5,hm,hxHC1,o,u,hvC6⟩
 unfold Zx at hm
 refine rg<|qm o rfl fun a o=>qv o (e_add o rfl rfl) fun a o=>qa o rfl fun a o=>re<|tn<|?_
 exact ⟨(nn2,vC2,(IntKind.i64.wrap (vB8+1))),⟨HC1,oaC3,capC4,vsC5,hm,(Ext.trans hxHB1 hxHC1),o.hs,u,hvC6⟩,Nat.lt_succ_self _⟩
 replace hm:=ite_f hm hb9
 refine tn<|cfv o rfl hb9<|we<|tx<|tx<|bx<|tn<|?_
 exact ⟨vB2,HB1,oaB3,capB4,vsB5,hm,hxHB1,o.has ⟨rfl,trivial⟩,u,hvB6⟩
 rintro a w ⟨vA2,HA1,oaA3,capA4,vsA5,hm,hxHA1,o,u,hvA6⟩
 unfold Zw at hm
 refine th<|rg<|qm o rfl fun a o=>qa o rfl fun a o=>re<|tn<|wr<|?_
 obtain ⟨H82,hx79,hr80,hc81,u⟩:=St.frzS u .head hvA6
 obtain rfl:=si hm
 exact r1 o results47 rfl ⟨H82,_,_,rfl,hc81,hr80,(Ext.trans hxHA1 hx79),(St.le u),u.keep⟩
set_option maxHeartbeats 4000000 in
theorem Zm_c (hH:H.le w0) {cs2:List Value} {p1:api_Prog} (g3:Enc.rep H cs2 p1) {r:api_Prog} (hm:Zm N p1=some r):Tot Tryz.prog 15 #[.agg cs2.toArray] w0 (fun v w'=>∃ (H':PH) (cs0:List Value),v=.agg cs0.toArray∧Enc.rep H' cs0 r∧Ext w0 H H'∧H'.le w'∧Keep Nil w0 w'):=by
 unfold Zm at hm
 refine fn0 func15 rfl ntmps15 rfl rfl fun a o=>?_
 have u:St w0 Nil [H] [] w0:=start1 hH
 obtain ⟨oa4,cap5,oa8,cap9,oa12,cap13,oa16,cap17,oa20,cap21,oa24,cap25,rfl,hc6,hr7,hc10,hr11,hc14,hr15,hc18,hr19,hc22,hr23,hc26,hr27⟩:=api_Prog_open g3
 refine th<|rg<|ls<|a_box (cs:=[.slice oa4 p1.Lines.length cap5,.slice oa8 p1.Vols.length cap9,.slice oa12 p1.Locks.length cap13,.slice oa16 p1.Threads.length cap17,.slice oa20 p1.Recover.length cap21,.slice oa24 p1.Claims.length cap25].toArray) o rfl u rfl rfl fun b28 w a u o=>ls<|a_alloc (cs:=[.slice none 0 0,.slice none 0 0,.slice none 0 0,.slice none 0 0,.slice none 0 0,.slice none 0 0].toArray) o rfl u zeroValue27 rfl fun b29 w a u o=>re<|tn<|th<|midK (fun a w=>∃ (vA3:(List api_Cell)) (vA9:(List api_Cell)) (vA15:(List api_Thread)) (vA20:(List api_Thread)) (HA1:PH) (bA2:Nat) (oaA4:Option Addr) (capA5:Nat) (vsA6:List Value) (oaA10:Option Addr) (capA11:Nat) (vsA12:List Value) (oaA16:Option Addr) (capA17:Nat) (oaA21:Option Addr) (capA22:Nat),(Zn N p1) vA3 vA9 vA15 vA20=some r∧Ext w0 H HA1∧Fr 72 [(1,.pointer (some ⟨b28,0,none⟩)),(2,.pointer (some ⟨b29,0,none⟩)),(3,.pointer (some ⟨bA2,0,none⟩))] a∧St w0 Nil [HA1] [blk b28 (.cells [.slice oa4 p1.Lines.length cap5,.slice oa8 p1.Vols.length cap9,.slice oa12 p1.Locks.length cap13,.slice oa16 p1.Threads.length cap17,.slice oa20 p1.Recover.length cap21,.slice oa24 p1.Claims.length cap25].toArray 27 (0,0)),blk b29 (.cells [.slice none 0 0,.slice none 0 0,.slice none 0 0,.slice none 0 0,.slice none 0 0,.slice none 0 0].toArray 27 (0,0)),sla 53 3 oaA4 vA3.length capA5 vsA6,sla 53 3 oaA10 vA9.length capA11 vsA12,blk bA2 (.cells [.slice none 0 0,.slice oaA4 vA3.length capA5,.slice oaA10 vA9.length capA11,.slice oaA16 vA15.length capA17,.slice oaA21 vA20.length capA22,.slice none 0 0].toArray 27 (0,0))] w∧Rows HA1 vsA6 vA3∧Rows HA1 vsA12 vA9∧vA15.length≤capA17∧SR HA1 oaA16 vA15∧vA20.length≤capA22∧SR HA1 oaA21 vA20) ?_ ?_
 obtain ⟨r30,h31,hm⟩:=bs hm
 obtain ⟨r37,h38,hm⟩:=bs hm
 obtain ⟨r44,h45,hm⟩:=bs hm
 obtain ⟨r54,h55,hm⟩:=bs hm
 refine rdS 14 u wide fun w u=>dr 0 u o rfl (e_fa o fa27_1 rfl) fun a o=>dq 1 (St.ld u) o rfl (fun w hl=>e_ld o isAgg23 rfl (hl.cellB t1 rfl)) fun a o=>dr 3 u o rfl (e_fa o fa27_2 rfl) fun a o=>dq 4 (St.ld u) o rfl (fun w hl=>e_ld o isAgg23 rfl (hl.cellB t1 rfl)) fun a o=>dr 6 u o rfl (e_fa o fa27_3 rfl) fun a o=>dq 7 (St.ld u) o rfl (fun w hl=>e_ld o isAgg24 rfl (hl.cellB t1 rfl)) fun a o=>dr 9 u o rfl (e_fa o fa27_4 rfl) fun a o=>dq 10 (St.ld u) o rfl (fun w hl=>e_ld o isAgg24 rfl (hl.cellB t1 rfl)) fun a o=>da2 (i:=2) (j:=13) (by kernel_rfl) ?_ ?_
 refine di (i:=2) rfl<|c1 o rfl call46 (Zs_c (hp_le _) hc10 (St.srH u hr11) h31) ⟨rfl,trivial⟩ (fun v w a hR o=>?_)
 obtain ⟨oa32,cap33,vs34,rfl,hv35,hk⟩:=hR
 replace u:=u.fresh hk
 replace hv35:=hv35 H
 refine ⟨fun _=>(St.ldsX u i2 ta1),?_⟩
 refine da2 (i:=5) (j:=13) (by kernel_rfl) ?_ ?_
 refine di (i:=5) rfl<|c1 o rfl call46 (Zs_c (hp_le _) hc14 (St.srH u hr15) h38) ⟨rfl,trivial⟩ (fun v w a hR o=>?_)
 obtain ⟨oa39,cap40,vs41,rfl,hv42,hk⟩:=hR
 replace u:=u.fresh hk
 replace hv42:=hv42 H
 refine ⟨fun _=>(St.ldsX u i2 ta2),?_⟩
 refine da2 (i:=8) (j:=13) (by kernel_rfl) ?_ ?_
 refine di (i:=8) rfl<|c1 o rfl call47 (Zv_c (St.le u) hc18 hr19 h45) ⟨rfl,trivial⟩ (fun v w a hR o=>?_)
 obtain ⟨H49,oa50,cap51,rfl,hc52,hr53,hx46,hl47,hk⟩:=hR
 obtain ⟨u,hx46⟩:=And.intro (St.passH u hk hx46 hl47) (St.extc u hx46)
 refine ⟨fun _=>(St.ldsX u hx46.sub ta2),?_⟩
 refine da2 (i:=11) (j:=13) (by kernel_rfl) ?_ ?_
 refine di (i:=11) rfl<|c1 o rfl call47 (Zv_c (St.le u) hc22 (hr23.mono hx46.sub) h55) ⟨rfl,trivial⟩ (fun v w a hR o=>?_)
 obtain ⟨H59,oa60,cap61,rfl,hc62,hr63,hx56,hl57,hk⟩:=hR
 obtain ⟨u,hx56⟩:=And.intro (St.passH u hk hx56 hl57) (St.extc u hx56)
 refine ⟨fun _=>(St.ldsX u (cp hx56.sub hx46.sub) ta2),?_⟩
 refine dq 12 (St.ldsX u (cp hx56.sub hx46.sub) ta2) o rfl (fun w hl=>e_bldK [.slice oa32 r30.length cap33,.slice oa39 r37.length cap40,.slice oa50 r44.length cap51,.slice oa60 r54.length cap61] [.slice none 0 0,.slice oa32 r30.length cap33,.slice oa39 r37.length cap40,.slice oa50 r44.length cap51,.slice oa60 r54.length cap61,.slice none 0 0] o ⟨rfl,rfl,rfl,rfl,trivial⟩ (fun w=>by kernel_rfl)) fun a o=>da1 (i:=13) (by kernel_rfl) ?_
 refine di (i:=13) rfl<|a_alloc (cs:=[.slice none 0 0,.slice none 0 0,.slice none 0 0,.slice none 0 0,.slice none 0 0,.slice none 0 0].toArray) o rfl u zeroValue27 rfl fun b64 w a u o=>⟨fun _=>(St.ldsX u (cp hx56.sub hx46.sub) ta3),?_⟩
 refine da1 (i:=14) (by kernel_rfl) ?_
 refine di (i:=14) rfl<|s_blkA o u sizeOf27 rfl rfl rfl rfl (one_cells rfl) .head fun w u=>⟨fun h=>absurd rfl h,?_⟩
 refine de (by kernel_rfl)<|tn<|?_
 replace u:=u.pk [4,3,2,1,0] rfl
 exact ⟨r30,r37,r44,r54,H59,b64,oa32,cap33,vs34,oa39,cap40,vs41,oa50,cap51,oa60,cap61,hm,(Ext.trans hx46 hx56),o.hs,u,(hv35.mono (cp hx56.sub hx46.sub)),(hv42.mono (cp hx56.sub hx46.sub)),hc52,(hr53.mono hx56.sub),hc62,hr63⟩
 refine di (i:=13) rfl<|a_alloc (cs:=[.slice none 0 0,.slice none 0 0,.slice none 0 0,.slice none 0 0,.slice none 0 0,.slice none 0 0].toArray) o rfl u zeroValue27 rfl fun b64 w a u o=>⟨fun _=>(St.ldsX u hx46.sub ta3),?_⟩
 refine da1 (i:=11) (by kernel_rfl) ?_
 refine di (i:=11) rfl<|c1 o rfl call47 (Zv_c (St.le u) hc22 (hr23.mono hx46.sub) h55) ⟨rfl,trivial⟩ (fun v w a hR o=>?_)
 obtain ⟨H59,oa60,cap61,rfl,hc62,hr63,hx56,hl57,hk⟩:=hR
 obtain ⟨u,hx56⟩:=And.intro (St.passH u hk hx56 hl57) (St.extc u hx56)
 refine ⟨fun _=>(St.ldsX u (cp hx56.sub hx46.sub) ta3),?_⟩
 refine dq 12 (St.ldsX u (cp hx56.sub hx46.sub) ta3) o rfl (fun w hl=>e_bldK [.slice oa32 r30.length cap33,.slice oa39 r37.length cap40,.slice oa50 r44.length cap51,.slice oa60 r54.length cap61] [.slice none 0 0,.slice oa32 r30.length cap33,.slice oa39 r37.length cap40,.slice oa50 r44.length cap51,.slice oa60 r54.length cap61,.slice none 0 0] o ⟨rfl,rfl,rfl,rfl,trivial⟩ (fun w=>by kernel_rfl)) fun a o=>da1 (i:=14) (by kernel_rfl) ?_
 refine di (i:=14) rfl<|s_blkA o u sizeOf27 rfl rfl rfl rfl (one_cells rfl) .head fun w u=>⟨fun h=>absurd rfl h,?_⟩
 refine de (by kernel_rfl)<|tn<|?_
 replace u:=u.pk [4,3,2,1,0] rfl
 exact ⟨r30,r37,r44,r54,H59,b64,oa32,cap33,vs34,oa39,cap40,vs41,oa50,cap51,oa60,cap61,hm,(Ext.trans hx46 hx56),o.hs,u,(hv35.mono (cp hx56.sub hx46.sub)),(hv42.mono (cp hx56.sub hx46.sub)),hc52,(hr53.mono hx56.sub),hc62,hr63⟩
 refine di (i:=13) rfl<|a_alloc (cs:=[.slice none 0 0,.slice none 0 0,.slice none 0 0,.slice none 0 0,.slice none 0 0,.slice none 0 0].toArray) o rfl u zeroValue27 rfl fun b64 w a u o=>⟨fun _=>(St.ldsX u i2 ta3),?_⟩
 refine da1 (i:=8) (by kernel_rfl) ?_
 refine di (i:=8) rfl<|c1 o rfl call47 (Zv_c (St.le u) hc18 hr19 h45) ⟨rfl,trivial⟩ (fun v w a hR o=>?_)
 obtain ⟨H49,oa50,cap51,rfl,hc52,hr53,hx46,hl47,hk⟩:=hR
 obtain ⟨u,hx46⟩:=And.intro (St.passH u hk hx46 hl47) (St.extc u hx46)
 refine ⟨fun _=>(St.ldsX u hx46.sub ta3),?_⟩
 refine da1 (i:=11) (by kernel_rfl) ?_
 refine di (i:=11) rfl<|c1 o rfl call47 (Zv_c (St.le u) hc22 (hr23.mono hx46.sub) h55) ⟨rfl,trivial⟩ (fun v w a hR o=>?_)
 obtain ⟨H59,oa60,cap61,rfl,hc62,hr63,hx56,hl57,hk⟩:=hR
 obtain ⟨u,hx56⟩:=And.intro (St.passH u hk hx56 hl57) (St.extc u hx56)
 refine ⟨fun _=>(St.ldsX u (cp hx56.sub hx46.sub) ta3),?_⟩
 refine dq 12 (St.ldsX u (cp hx56.sub hx46.sub) ta3) o rfl (fun w hl=>e_bldK [.slice oa32 r30.length cap33,.slice oa39 r37.length cap40,.slice oa50 r44.length cap51,.slice oa60 r54.length cap61] [.slice none 0 0,.slice oa32 r30.length cap33,.slice oa39 r37.length cap40,.slice oa50 r44.length cap51,.slice oa60 r54.length cap61,.slice none 0 0] o ⟨rfl,rfl,rfl,rfl,trivial⟩ (fun w=>by kernel_rfl)) fun a o=>da1 (i:=14) (by kernel_rfl) ?_
 refine di (i:=14) rfl<|s_blkA o u sizeOf27 rfl rfl rfl rfl (one_cells rfl) .head fun w u=>⟨fun h=>absurd rfl h,?_⟩
 refine de (by kernel_rfl)<|tn<|?_
 replace u:=u.pk [4,3,2,1,0] rfl
 exact ⟨r30,r37,r44,r54,H59,b64,oa32,cap33,vs34,oa39,cap40,vs41,oa50,cap51,oa60,cap61,hm,(Ext.trans hx46 hx56),o.hs,u,(hv35.mono (cp hx56.sub hx46.sub)),(hv42.mono (cp hx56.sub hx46.sub)),hc52,(hr53.mono hx56.sub),hc62,hr63⟩
 refine di (i:=13) rfl<|a_alloc (cs:=[.slice none 0 0,.slice none 0 0,.slice none 0 0,.slice none 0 0,.slice none 0 0,.slice none 0 0].toArray) o rfl u zeroValue27 rfl fun b64 w a u o=>⟨fun _=>(St.ldsX u i2 ta2),?_⟩
 refine da1 (i:=5) (by kernel_rfl) ?_
 refine di (i:=5) rfl<|c1 o rfl call46 (Zs_c (hp_le _) hc14 (St.srH u hr15) h38) ⟨rfl,trivial⟩ (fun v w a hR o=>?_)
 obtain ⟨oa39,cap40,vs41,rfl,hv42,hk⟩:=hR
 replace u:=u.fresh hk
 replace hv42:=hv42 H
 refine ⟨fun _=>(St.ldsX u i2 ta3),?_⟩
 refine da1 (i:=8) (by kernel_rfl) ?_
 refine di (i:=8) rfl<|c1 o rfl call47 (Zv_c (St.le u) hc18 hr19 h45) ⟨rfl,trivial⟩ (fun v w a hR o=>?_)
 obtain ⟨H49,oa50,cap51,rfl,hc52,hr53,hx46,hl47,hk⟩:=hR
 obtain ⟨u,hx46⟩:=And.intro (St.passH u hk hx46 hl47) (St.extc u hx46)
 refine ⟨fun _=>(St.ldsX u hx46.sub ta3),?_⟩
 refine da1 (i:=11) (by kernel_rfl) ?_
 refine di (i:=11) rfl<|c1 o rfl call47 (Zv_c (St.le u) hc22 (hr23.mono hx46.sub) h55) ⟨rfl,trivial⟩ (fun v w a hR o=>?_)
 obtain ⟨H59,oa60,cap61,rfl,hc62,hr63,hx56,hl57,hk⟩:=hR
 obtain ⟨u,hx56⟩:=And.intro (St.passH u hk hx56 hl57) (St.extc u hx56)
 refine ⟨fun _=>(St.ldsX u (cp hx56.sub hx46.sub) ta3),?_⟩
 refine dq 12 (St.ldsX u (cp hx56.sub hx46.sub) ta3) o rfl (fun w hl=>e_bldK [.slice oa32 r30.length cap33,.slice oa39 r37.length cap40,.slice oa50 r44.length cap51,.slice oa60 r54.length cap61] [.slice none 0 0,.slice oa32 r30.length cap33,.slice oa39 r37.length cap40,.slice oa50 r44.length cap51,.slice oa60 r54.length cap61,.slice none 0 0] o ⟨rfl,rfl,rfl,rfl,trivial⟩ (fun w=>by kernel_rfl)) fun a o=>da1 (i:=14) (by kernel_rfl) ?_
 refine di (i:=14) rfl<|s_blkA o u sizeOf27 rfl rfl rfl rfl (one_cells rfl) (.tail .head) fun w u=>⟨fun h=>absurd rfl h,?_⟩
 refine de (by kernel_rfl)<|tn<|?_
 replace u:=u.pk [4,3,2,0,0] rfl
 exact ⟨r30,r37,r44,r54,H59,b64,oa32,cap33,vs34,oa39,cap40,vs41,oa50,cap51,oa60,cap61,hm,(Ext.trans hx46 hx56),o.hs,u,(hv35.mono (cp hx56.sub hx46.sub)),(hv42.mono (cp hx56.sub hx46.sub)),hc52,(hr53.mono hx56.sub),hc62,hr63⟩
 refine di (i:=13) rfl<|a_alloc (cs:=[.slice none 0 0,.slice none 0 0,.slice none 0 0,.slice none 0 0,.slice none 0 0,.slice none 0 0].toArray) o rfl u zeroValue27 rfl fun b64 w a u o=>⟨fun _=>(St.ldsX u i2 ta1),?_⟩
 refine da1 (i:=2) (by kernel_rfl) ?_
 refine di (i:=2) rfl<|c1 o rfl call46 (Zs_c (hp_le _) hc10 (St.srH u hr11) h31) ⟨rfl,trivial⟩ (fun v w a hR o=>?_)
 obtain ⟨oa32,cap33,vs34,rfl,hv35,hk⟩:=hR
 replace u:=u.fresh hk
 replace hv35:=hv35 H
 refine ⟨fun _=>(St.ldsX u i2 ta2),?_⟩
 refine da1 (i:=5) (by kernel_rfl) ?_
 refine di (i:=5) rfl<|c1 o rfl call46 (Zs_c (hp_le _) hc14 (St.srH u hr15) h38) ⟨rfl,trivial⟩ (fun v w a hR o=>?_)
 obtain ⟨oa39,cap40,vs41,rfl,hv42,hk⟩:=hR
 replace u:=u.fresh hk
 replace hv42:=hv42 H
 refine ⟨fun _=>(St.ldsX u i2 ta3),?_⟩
 refine da1 (i:=8) (by kernel_rfl) ?_
 refine di (i:=8) rfl<|c1 o rfl call47 (Zv_c (St.le u) hc18 hr19 h45) ⟨rfl,trivial⟩ (fun v w a hR o=>?_)
 obtain ⟨H49,oa50,cap51,rfl,hc52,hr53,hx46,hl47,hk⟩:=hR
 obtain ⟨u,hx46⟩:=And.intro (St.passH u hk hx46 hl47) (St.extc u hx46)
 refine ⟨fun _=>(St.ldsX u hx46.sub ta3),?_⟩
 refine da1 (i:=11) (by kernel_rfl) ?_
 refine di (i:=11) rfl<|c1 o rfl call47 (Zv_c (St.le u) hc22 (hr23.mono hx46.sub) h55) ⟨rfl,trivial⟩ (fun v w a hR o=>?_)
 obtain ⟨H59,oa60,cap61,rfl,hc62,hr63,hx56,hl57,hk⟩:=hR
 obtain ⟨u,hx56⟩:=And.intro (St.passH u hk hx56 hl57) (St.extc u hx56)
 refine ⟨fun _=>(St.ldsX u (cp hx56.sub hx46.sub) ta3),?_⟩
 refine dq 12 (St.ldsX u (cp hx56.sub hx46.sub) ta3) o rfl (fun w hl=>e_bldK [.slice oa32 r30.length cap33,.slice oa39 r37.length cap40,.slice oa50 r44.length cap51,.slice oa60 r54.length cap61] [.slice none 0 0,.slice oa32 r30.length cap33,.slice oa39 r37.length cap40,.slice oa50 r44.length cap51,.slice oa60 r54.length cap61,.slice none 0 0] o ⟨rfl,rfl,rfl,rfl,trivial⟩ (fun w=>by kernel_rfl)) fun a o=>da1 (i:=14) (by kernel_rfl) ?_
 refine di (i:=14) rfl<|s_blkA o u sizeOf27 rfl rfl rfl rfl (one_cells rfl) (.tail (.tail .head)) fun w u=>⟨fun h=>absurd rfl h,?_⟩
 refine de (by kernel_rfl)<|tn<|?_
 replace u:=u.pk [4,3,1,0,0] rfl
 exact ⟨r30,r37,r44,r54,H59,b64,oa32,cap33,vs34,oa39,cap40,vs41,oa50,cap51,oa60,cap61,hm,(Ext.trans hx46 hx56),o.hs,u,(hv35.mono (cp hx56.sub hx46.sub)),(hv42.mono (cp hx56.sub hx46.sub)),hc52,(hr53.mono hx56.sub),hc62,hr63⟩
 rintro a w ⟨vA3,vA9,vA15,vA20,HA1,bA2,oaA4,capA5,vsA6,oaA10,capA11,vsA12,oaA16,capA17,oaA21,capA22,hm,hxHA1,o,u,hvA7,hvA13,hcA18,hrA19,hcA23,hrA24⟩
 unfold Zn at hm
 refine th<|th<|rg<|qa o rfl fun a o=>re<|tn<|midK (fun a w=>∃ (vA26:(List (List api_Cell))) (HA25:PH) (oaA27:Option Addr) (capA28:Nat) (vsA29:List Value),(Zo N p1 vA3 vA9 vA15 vA20) vA26=some r∧Ext w0 HA1 HA25∧Fr 72 [(1,.pointer (some ⟨b28,0,none⟩)),(2,.pointer (some ⟨b29,0,none⟩)),(3,.pointer (some ⟨bA2,0,none⟩))] a∧St w0 Nil [HA25] [blk b28 (.cells [.slice oa4 p1.Lines.length cap5,.slice oa8 p1.Vols.length cap9,.slice oa12 p1.Locks.length cap13,.slice oa16 p1.Threads.length cap17,.slice oa20 p1.Recover.length cap21,.slice oa24 p1.Claims.length cap25].toArray 27 (0,0)),blk b29 (.cells [.slice none 0 0,.slice none 0 0,.slice none 0 0,.slice none 0 0,.slice none 0 0,.slice none 0 0].toArray 27 (0,0)),sla 23 1 oaA27 vA26.length capA28 vsA29,sla 53 3 oaA4 vA3.length capA5 vsA6,sla 53 3 oaA10 vA9.length capA11 vsA12,blk bA2 (.cells [.slice oaA27 vA26.length capA28,.slice oaA4 vA3.length capA5,.slice oaA10 vA9.length capA11,.slice oaA16 vA15.length capA17,.slice oaA21 vA20.length capA22,.slice none 0 0].toArray 27 (0,0))] w∧Rows HA25 vsA29 vA26) ?_ ?_
 replace u:=St.nilS u 23 1
 replace u:=u.pk [1,1,0,0,0,0] rfl
 refine wb<|lp (α:=Nat×(List (List api_Cell))×Int) (fun (gh:Nat×(List (List api_Cell))×Int) a w=>match gh with | (nn3,vB2,vB8)=>∃ (HB1:PH) (oaB3:Option Addr) (capB4:Nat) (vsB5:List Value),(Zq N (Zo N p1 vA3 vA9 vA15 vA20) p1) nn3 vB2 vB8=some r∧Ext w0 HA1 HB1∧Fr 72 [(1,.pointer (some ⟨b28,0,none⟩)),(2,.pointer (some ⟨b29,0,none⟩)),(3,.pointer (some ⟨bA2,0,none⟩)),(4,i6 vB8)] a∧St w0 Nil [HB1] [blk b28 (.cells [.slice oa4 p1.Lines.length cap5,.slice oa8 p1.Vols.length cap9,.slice oa12 p1.Locks.length cap13,.slice oa16 p1.Threads.length cap17,.slice oa20 p1.Recover.length cap21,.slice oa24 p1.Claims.length cap25].toArray 27 (0,0)),blk b29 (.cells [.slice none 0 0,.slice none 0 0,.slice none 0 0,.slice none 0 0,.slice none 0 0,.slice none 0 0].toArray 27 (0,0)),sla 23 1 oaB3 vB2.length capB4 vsB5,sla 53 3 oaA4 vA3.length capA5 vsA6,sla 53 3 oaA10 vA9.length capA11 vsA12,blk bA2 (.cells [.slice oaB3 vB2.length capB4,.slice oaA4 vA3.length capA5,.slice oaA10 vA9.length capA11,.slice oaA16 vA15.length capA17,.slice oaA21 vA20.length capA22,.slice none 0 0].toArray 27 (0,0))] w∧Rows HB1 vsB5 vB2) (fun gh=>gh.1) (N,[],0) ⟨HA1,none,0,[],hm,(Ext.refl _ _),o.hs,u,.nil⟩ ?_
 rintro ⟨nn3,vB2,vB8⟩ a w ⟨HB1,oaB3,capB4,vsB5,hm,hxHB1,o,u,hvB6⟩
 obtain _ | nn3:=nn3
 simp [Zq] at hm
 rw [Zq] at hm
 refine th<|th<|rg<|qm o rfl fun a o=>qv o (e_fa o fa27_0 rfl) fun a o=>qv o (e_ld o isAgg22 rfl ((St.ld u).cellB t0 rfl)) fun a o=>qv o (e_lenL (α:=(List api_Cell)) (xs:=p1.Lines) o runUnderlying22 rfl) fun a o=>qv o (e_lss o rfl rfl) fun a o=>qm o rfl fun a o=>grp (N:=72) (Fk:=[(1,.pointer (some ⟨b28,0,none⟩)),(2,.pointer (some ⟨b29,0,none⟩)),(3,.pointer (some ⟨bA2,0,none⟩)),(4,i6 vB8),(27,.bool ((decide (vB8 < (p1.Lines.length:Int))) && (decide (vB8 < 6))))]) (b:=(decide (vB8 < (p1.Lines.length:Int)))) 3 u ?_ ?_ ?_
 intro hb key
 replace o:=Fr.as o (t:=24) rfl (congrArg Value.bool hb)
 refine qg o (e_move o rfl) fun a o=>qg o (e_lss o rfl rfl) fun a o=>qv o (e_as (v':=.bool ((decide (vB8 < (p1.Lines.length:Int))) && (decide (vB8 < 6)))) (e_pickT o rfl rfl) (by rw [hb];rfl)) fun a o=>?_
 exact key _ _ (o.hs) u
 intro hb key
 replace o:=Fr.as o (t:=24) rfl (congrArg Value.bool hb)
 iterate 2 refine qn o fun a o=>?_
 refine qv o (e_as (v':=.bool ((decide (vB8 < (p1.Lines.length:Int))) && (decide (vB8 < 6)))) (e_pickF o rfl rfl) (by rw [hb];rfl)) fun a o=>?_
 exact key _ _ (o.hs) u
 intro a w o u
 refine re<|?_
 rcases bdich ((decide (vB8 < (p1.Lines.length:Int))) && (decide (vB8 < 6))) with hb65 | hb65
 replace hm:=ite_t hm hb65
 refine tn<|ctv o rfl hb65<|wk<|tn<|th<|wb<|?_
 obtain ⟨x66,h67,hm⟩:=bs hm
 obtain ⟨c68,g69,hl70⟩:=SR.get hr7 h67
 obtain ⟨oa71,cap72,rfl,hc73,hr74⟩:=g69
 obtain ⟨r75,h76,hm⟩:=bs hm
 obtain ⟨l89,h90,hm⟩:=bs hm
 refine rdL (sub_cons t0 (sub_cons t1 (sub_cons t3 (sub_cons t4 (sub_cons t5 sub_nil))))) 11 u wide fun w u=>ds 0 (St.ldsX u i2 (sub_cons t0 (sub_cons t1 (sub_cons t3 (sub_cons t4 (sub_cons t5 sub_nil)))))) o rfl (e_fa o fa27_0 rfl) fun a o=>dq 1 (St.ldsX u i2 (sub_cons t0 (sub_cons t1 (sub_cons t3 (sub_cons t4 (sub_cons t5 sub_nil)))))) o rfl (fun w hl=>e_ld o isAgg22 rfl (hl.cellB t4 rfl)) fun a o=>ds 2 (St.ldsX u i2 (sub_cons t0 (sub_cons t1 (sub_cons t3 (sub_cons t4 (sub_cons t5 sub_nil)))))) o rfl (e_fa o fa27_0 rfl) fun a o=>dq 3 (St.ldsX u i2 (sub_cons t0 (sub_cons t1 (sub_cons t3 (sub_cons t4 (sub_cons t5 sub_nil)))))) o rfl (fun w hl=>e_ld o isAgg22 rfl (hl.cellB t0 rfl)) fun a o=>ds 4 (St.ldsX u i2 (sub_cons t0 (sub_cons t1 (sub_cons t3 (sub_cons t4 (sub_cons t5 sub_nil)))))) o rfl (e_move o rfl) fun a o=>ds 5 (St.ldsX u i2 (sub_cons t0 (sub_cons t1 (sub_cons t3 (sub_cons t4 (sub_cons t5 sub_nil)))))) o rfl (e_iaI o runUnderlying22 sizeOf23 rfl rfl h67 (SR.oaI hr7 (by decide) h67)) fun a o=>dq 6 (St.ldsX u i2 (sub_cons t0 (sub_cons t1 (sub_cons t3 (sub_cons t4 (sub_cons t5 sub_nil)))))) o rfl (fun w hl=>e_ld o isAgg23 rfl (PH.le.cell (fun b o hx=>(Lds.le hl) b o ((cp hxHB1.sub hxHA1.sub) b o hx)) (hl70 0 _ rfl))) fun a o=>da1 (i:=7) (by kernel_rfl) ?_
 refine di (i:=7) rfl<|c1 o rfl call46 (Zs_c (hp_le _) hc73 (St.srH u (hr74.mono (cp hxHB1.sub hxHA1.sub))) h76) ⟨rfl,trivial⟩ (fun v w a hR o=>?_)
 obtain ⟨oa77,cap78,vs79,rfl,hv80,hk⟩:=hR
 replace u:=u.fresh hk
 replace hv80:=hv80 HB1
 refine ⟨fun _=>(St.ldsX u i2 (sub_cons t1 (sub_cons t2 (sub_cons t4 (sub_cons t5 (sub_cons t6 sub_nil)))))),?_⟩
 refine da1 (i:=8) (by kernel_rfl) ?_
 obtain ⟨H85,hx82,hr83,hc84,u⟩:=St.frzS u .head hv80
 refine di (i:=8) rfl<|a_bsl (e:=23) (sz:=1) [.slice oa77 r75.length cap78] o rfl u rfl rfl rfl (fun w=>by kernel_rfl) fun b87 w a u o=>?_
 have hv86:Rows (α:=(List api_Cell)) H85 [.slice oa77 r75.length cap78] ([r75]:List (List api_Cell)):=(.cons (c:=[.slice oa77 r75.length cap78]) ⟨_,_,rfl,hc84,hr83⟩ .nil)
 refine ⟨fun _=>(St.ldsX u hx82.sub (sub_cons t1 (sub_cons t2 (sub_cons t4 (sub_cons t5 (sub_cons t6 sub_nil)))))),?_⟩
 refine da1 (i:=9) (by kernel_rfl) ?_
 refine di (i:=9) rfl<|m_app (α:=(List api_Cell)) (xs:=vB2) (ys:=([r75]:List (List api_Cell))) o rfl u underlying22 info23 rfl (by decide) rfl rfl rfl t3 (hvB6.mono hx82.sub) (u.rdO t0) hv86 h90 fun oa91 cap92 vs93 w a hv94 hU o=>?_
 replace u:=hU _ (.tail (.tail (.tail .head)))
 replace u:=u.drop .head
 refine ⟨fun _=>(St.ldsX u hx82.sub (sub_cons t0 (sub_cons t1 (sub_cons t3 (sub_cons t4 (sub_cons t5 sub_nil)))))),?_⟩
 refine ds 10 (St.ldsX u hx82.sub (sub_cons t0 (sub_cons t1 (sub_cons t3 (sub_cons t4 (sub_cons t5 sub_nil)))))) o rfl (e_fa o fa27_0 rfl) fun a o=>da1 (i:=11) (by kernel_rfl) ?_
 refine di (i:=11) rfl<|s_blk o u sizeOf22 rfl rfl rfl rfl (.tail (.tail (.tail (.tail (.tail .head))))) .zero fun w u=>⟨fun h=>absurd rfl h,?_⟩
 refine de (by kernel_rfl)<|bn<|tn<|rg<|qm o rfl fun a o=>qv o (e_add o rfl rfl) fun a o=>qa o rfl fun a o=>re<|tn<|?_
 exact ⟨(nn3,l89,(IntKind.i64.wrap (vB8+1))),⟨H85,oa91,cap92,vs93,hm,(Ext.trans hxHB1 hx82),o.hs,u,hv94⟩,Nat.lt_succ_self _⟩
 replace hm:=ite_f hm hb65
 refine tn<|cfv o rfl hb65<|we<|tx<|tx<|bx<|tn<|?_
 exact ⟨vB2,HB1,oaB3,capB4,vsB5,hm,hxHB1,o.hs,u,hvB6⟩
 rintro a w ⟨vA26,HA25,oaA27,capA28,vsA29,hm,hxHA25,o,u,hvA30⟩
 unfold Zo at hm
 refine th<|th<|rg<|qa o rfl fun a o=>re<|tn<|midK (fun a w=>∃ (vA33:(List api_Claim)) (HA32:PH) (oaA34:Option Addr) (capA35:Nat) (vsA36:List Value),(Zp vA3 vA9 vA15 vA20 vA26) vA33=some r∧Ext w0 HA25 HA32∧Fr 72 [(2,.pointer (some ⟨b29,0,none⟩)),(3,.pointer (some ⟨bA2,0,none⟩))] a∧St w0 Nil [HA32] [blk b29 (.cells [.slice none 0 0,.slice none 0 0,.slice none 0 0,.slice none 0 0,.slice none 0 0,.slice none 0 0].toArray 27 (0,0)),sla 23 1 oaA27 vA26.length capA28 vsA29,sla 53 3 oaA4 vA3.length capA5 vsA6,sla 53 3 oaA10 vA9.length capA11 vsA12,sla 74 2 oaA34 vA33.length capA35 vsA36,blk bA2 (.cells [.slice oaA27 vA26.length capA28,.slice oaA4 vA3.length capA5,.slice oaA10 vA9.length capA11,.slice oaA16 vA15.length capA17,.slice oaA21 vA20.length capA22,.slice oaA34 vA33.length capA35].toArray 27 (0,0))] w∧Rows HA32 vsA36 vA33) ?_ ?_
 replace u:=St.nilS u 74 2
 replace u:=u.pk [1,1,1,1,1,0,0] rfl
 refine wb<|lp (α:=Nat×(List api_Claim)×Int) (fun gh a w=>match gh with | (nn5,vB10,vB16)=>∃ (HB9:PH) (oaB11:Option Addr) (capB12:Nat) (vsB13:List Value),(Zr N (Zp vA3 vA9 vA15 vA20 vA26) p1) nn5 vB10 vB16=some r∧Ext w0 HA25 HB9∧Fr 72 [(1,.pointer (some ⟨b28,0,none⟩)),(2,.pointer (some ⟨b29,0,none⟩)),(3,.pointer (some ⟨bA2,0,none⟩)),(5,i6 vB16)] a∧St w0 Nil [HB9] [blk b28 (.cells [.slice oa4 p1.Lines.length cap5,.slice oa8 p1.Vols.length cap9,.slice oa12 p1.Locks.length cap13,.slice oa16 p1.Threads.length cap17,.slice oa20 p1.Recover.length cap21,.slice oa24 p1.Claims.length cap25].toArray 27 (0,0)),blk b29 (.cells [.slice none 0 0,.slice none 0 0,.slice none 0 0,.slice none 0 0,.slice none 0 0,.slice none 0 0].toArray 27 (0,0)),sla 23 1 oaA27 vA26.length capA28 vsA29,sla 53 3 oaA4 vA3.length capA5 vsA6,sla 53 3 oaA10 vA9.length capA11 vsA12,sla 74 2 oaB11 vB10.length capB12 vsB13,blk bA2 (.cells [.slice oaA27 vA26.length capA28,.slice oaA4 vA3.length capA5,.slice oaA10 vA9.length capA11,.slice oaA16 vA15.length capA17,.slice oaA21 vA20.length capA22,.slice oaB11 vB10.length capB12].toArray 27 (0,0))] w∧Rows HB9 vsB13 vB10) (fun gh=>gh.1) (N,[],0) ⟨HA25,none,0,[],hm,(Ext.refl _ _),o.hs,u,.nil⟩ ?_
 rintro ⟨nn5,vB10,vB16⟩ a w ⟨HB9,oaB11,capB12,vsB13,hm,hxHB9,o,u,hvB14⟩
 obtain _ | nn5:=nn5
 simp [Zr] at hm
 rw [Zr] at hm
 refine th<|th<|rg<|qm o rfl fun a o=>qv o (e_fa o fa27_5 rfl) fun a o=>qv o (e_ld o isAgg25 rfl ((St.ld u).cellB t0 rfl)) fun a o=>qv o (e_lenL (α:=api_Claim) (xs:=p1.Claims) o runUnderlying25 rfl) fun a o=>qv o (e_lss o rfl rfl) fun a o=>qm o rfl fun a o=>grp (N:=72) (Fk:=[(1,.pointer (some ⟨b28,0,none⟩)),(2,.pointer (some ⟨b29,0,none⟩)),(3,.pointer (some ⟨bA2,0,none⟩)),(5,i6 vB16),(49,.bool ((decide (vB16 < (p1.Claims.length:Int))) && (decide (vB16 < 6))))]) (b:=(decide (vB16 < (p1.Claims.length:Int)))) 3 u ?_ ?_ ?_
 intro hb key
 replace o:=Fr.as o (t:=46) rfl (congrArg Value.bool hb)
 refine qg o (e_move o rfl) fun a o=>qg o (e_lss o rfl rfl) fun a o=>qv o (e_as (v':=.bool ((decide (vB16 < (p1.Claims.length:Int))) && (decide (vB16 < 6)))) (e_pickT o rfl rfl) (by rw [hb];rfl)) fun a o=>?_
 exact key _ _ (o.hs) u
 intro hb key
 replace o:=Fr.as o (t:=46) rfl (congrArg Value.bool hb)
 iterate 2 refine qn o fun a o=>?_
 refine qv o (e_as (v':=.bool ((decide (vB16 < (p1.Claims.length:Int))) && (decide (vB16 < 6)))) (e_pickF o rfl rfl) (by rw [hb];rfl)) fun a o=>?_
 exact key _ _ (o.hs) u
 intro a w o u
 refine re<|?_
 rcases bdich ((decide (vB16 < (p1.Claims.length:Int))) && (decide (vB16 < 6))) with hb95 | hb95
 replace hm:=ite_t hm hb95
 refine tn<|ctv o rfl hb95<|wk<|tn<|th<|wb<|?_
 obtain ⟨x96,h97,hm⟩:=bs hm
 obtain ⟨c98,g99,hl100⟩:=SR.get hr27 h97
 obtain ⟨oa101,cap102,rfl,hc103,hr104⟩:=api_Claim_open g99
 obtain ⟨r105,h106,hm⟩:=bs hm
 obtain ⟨l119,h120,hm⟩:=bs hm
 refine rdL (sub_cons t0 (sub_cons t1 (sub_cons t2 (sub_cons t3 (sub_cons t4 (sub_cons t6 sub_nil)))))) 19 u wide fun w u=>ds 0 (St.ldsX u i2 (sub_cons t0 (sub_cons t1 (sub_cons t2 (sub_cons t3 (sub_cons t4 (sub_cons t6 sub_nil))))))) o rfl (e_fa o fa27_5 rfl) fun a o=>dq 1 (St.ldsX u i2 (sub_cons t0 (sub_cons t1 (sub_cons t2 (sub_cons t3 (sub_cons t4 (sub_cons t6 sub_nil))))))) o rfl (fun w hl=>e_ld o isAgg25 rfl (hl.cellB t5 rfl)) fun a o=>ds 2 (St.ldsX u i2 (sub_cons t0 (sub_cons t1 (sub_cons t2 (sub_cons t3 (sub_cons t4 (sub_cons t6 sub_nil))))))) o rfl (e_fa o fa27_5 rfl) fun a o=>dq 3 (St.ldsX u i2 (sub_cons t0 (sub_cons t1 (sub_cons t2 (sub_cons t3 (sub_cons t4 (sub_cons t6 sub_nil))))))) o rfl (fun w hl=>e_ld o isAgg25 rfl (hl.cellB t0 rfl)) fun a o=>ds 4 (St.ldsX u i2 (sub_cons t0 (sub_cons t1 (sub_cons t2 (sub_cons t3 (sub_cons t4 (sub_cons t6 sub_nil))))))) o rfl (e_move o rfl) fun a o=>ds 5 (St.ldsX u i2 (sub_cons t0 (sub_cons t1 (sub_cons t2 (sub_cons t3 (sub_cons t4 (sub_cons t6 sub_nil))))))) o rfl (e_iaI o runUnderlying25 sizeOf74 rfl rfl h97 (SR.oaI hr27 (by decide) h97)) fun a o=>ds 6 (St.ldsX u i2 (sub_cons t0 (sub_cons t1 (sub_cons t2 (sub_cons t3 (sub_cons t4 (sub_cons t6 sub_nil))))))) o rfl (e_fa o fa74_0 rfl) fun a o=>dq 7 (St.ldsX u i2 (sub_cons t0 (sub_cons t1 (sub_cons t2 (sub_cons t3 (sub_cons t4 (sub_cons t6 sub_nil))))))) o rfl (fun w hl=>e_ld o isAgg49 rfl (PH.le.cell (fun b o hx=>(Lds.le hl) b o ((cp (cp hxHB9.sub hxHA25.sub) hxHA1.sub) b o hx)) (hl100 0 _ rfl))) fun a o=>ds 9 (St.ldsX u i2 (sub_cons t0 (sub_cons t1 (sub_cons t2 (sub_cons t3 (sub_cons t4 (sub_cons t6 sub_nil))))))) o rfl (e_fa o fa27_5 rfl) fun a o=>dq 10 (St.ldsX u i2 (sub_cons t0 (sub_cons t1 (sub_cons t2 (sub_cons t3 (sub_cons t4 (sub_cons t6 sub_nil))))))) o rfl (fun w hl=>e_ld o isAgg25 rfl (hl.cellB t0 rfl)) fun a o=>ds 11 (St.ldsX u i2 (sub_cons t0 (sub_cons t1 (sub_cons t2 (sub_cons t3 (sub_cons t4 (sub_cons t6 sub_nil))))))) o rfl (e_move o rfl) fun a o=>ds 12 (St.ldsX u i2 (sub_cons t0 (sub_cons t1 (sub_cons t2 (sub_cons t3 (sub_cons t4 (sub_cons t6 sub_nil))))))) o rfl (e_iaI o runUnderlying25 sizeOf74 rfl rfl h97 (SR.oaI hr27 (by decide) h97)) fun a o=>ds 13 (St.ldsX u i2 (sub_cons t0 (sub_cons t1 (sub_cons t2 (sub_cons t3 (sub_cons t4 (sub_cons t6 sub_nil))))))) o rfl (e_fa o fa74_1 rfl) fun a o=>dq 14 (St.ldsX u i2 (sub_cons t0 (sub_cons t1 (sub_cons t2 (sub_cons t3 (sub_cons t4 (sub_cons t6 sub_nil))))))) o rfl (fun w hl=>e_ld o isAgg3 rfl (PH.le.cell (fun b o hx=>(Lds.le hl) b o ((cp (cp hxHB9.sub hxHA25.sub) hxHA1.sub) b o hx)) (hl100 1 _ rfl))) fun a o=>da1 (i:=8) (by kernel_rfl) ?_
 refine di (i:=8) rfl<|c1 o rfl call48 (Zg_c (hp_le _) hc103 (St.srH u (hr104.mono (cp (cp hxHB9.sub hxHA25.sub) hxHA1.sub))) h106) ⟨rfl,trivial⟩ (fun v w a hR o=>?_)
 obtain ⟨oa107,cap108,vs109,rfl,hv110,hk⟩:=hR
 replace u:=u.fresh hk
 replace hv110:=hv110 HB9
 refine ⟨fun _=>(St.ldsX u i2 (sub_cons t1 (sub_cons t2 (sub_cons t3 (sub_cons t4 (sub_cons t5 (sub_cons t7 sub_nil))))))),?_⟩
 refine dq 15 (St.ldsX u i2 (sub_cons t1 (sub_cons t2 (sub_cons t3 (sub_cons t4 (sub_cons t5 (sub_cons t7 sub_nil))))))) o rfl (fun w hl=>e_bldK [.slice oa107 r105.length cap108,i6 x96.At] [.slice oa107 r105.length cap108,i6 x96.At] o ⟨rfl,rfl,trivial⟩ (fun w=>by kernel_rfl)) fun a o=>da1 (i:=16) (by kernel_rfl) ?_
 obtain ⟨H115,hx112,hr113,hc114,u⟩:=St.frzS u .head hv110
 refine di (i:=16) rfl<|a_bsl (e:=74) (sz:=2) [.slice oa107 r105.length cap108,i6 x96.At] o rfl u rfl rfl rfl (fun w=>by kernel_rfl) fun b117 w a u o=>?_
 have hv116:Rows (α:=api_Claim) H115 [.slice oa107 r105.length cap108,i6 x96.At] ([(api_Claim.mk r105 x96.At)]:List api_Claim):=(.cons (c:=[.slice oa107 r105.length cap108,i6 x96.At]) ⟨_,_,rfl,⟨_,_,rfl,hc114,hr113⟩,rfl⟩ .nil)
 refine ⟨fun _=>(St.ldsX u hx112.sub (sub_cons t1 (sub_cons t2 (sub_cons t3 (sub_cons t4 (sub_cons t5 (sub_cons t7 sub_nil))))))),?_⟩
 refine da1 (i:=17) (by kernel_rfl) ?_
 refine di (i:=17) rfl<|m_app (α:=api_Claim) (xs:=vB10) (ys:=([(api_Claim.mk r105 x96.At)]:List api_Claim)) o rfl u underlying25 info74 rfl (by decide) rfl rfl rfl t6 (hvB14.mono hx112.sub) (u.rdO t0) hv116 h120 fun oa121 cap122 vs123 w a hv124 hU o=>?_
 replace u:=hU _ (.tail (.tail (.tail (.tail (.tail (.tail .head))))))
 replace u:=u.drop .head
 refine ⟨fun _=>(St.ldsX u hx112.sub (sub_cons t0 (sub_cons t1 (sub_cons t2 (sub_cons t3 (sub_cons t4 (sub_cons t6 sub_nil))))))),?_⟩
 refine ds 18 (St.ldsX u hx112.sub (sub_cons t0 (sub_cons t1 (sub_cons t2 (sub_cons t3 (sub_cons t4 (sub_cons t6 sub_nil))))))) o rfl (e_fa o fa27_5 rfl) fun a o=>da1 (i:=19) (by kernel_rfl) ?_
 refine di (i:=19) rfl<|s_blk o u sizeOf25 rfl rfl rfl rfl (.tail (.tail (.tail (.tail (.tail (.tail .head)))))) (.succ (.succ (.succ (.succ (.succ .zero))))) fun w u=>⟨fun h=>absurd rfl h,?_⟩
 refine de (by kernel_rfl)<|bn<|tn<|rg<|qm o rfl fun a o=>qv o (e_add o rfl rfl) fun a o=>qa o rfl fun a o=>re<|tn<|?_
 exact ⟨(nn5,l119,(IntKind.i64.wrap (vB16+1))),⟨H115,oa121,cap122,vs123,hm,(Ext.trans hxHB9 hx112),o.hs,u,hv124⟩,Nat.lt_succ_self _⟩
 replace hm:=ite_f hm hb95
 refine tn<|cfv o rfl hb95<|we<|tx<|tx<|bx<|tn<|?_
 replace u:=u.pk [1,1,1,1,1,1] rfl
 exact ⟨vB10,HB9,oaB11,capB12,vsB13,hm,hxHB9,o.has ⟨rfl,rfl,trivial⟩,u,hvB14⟩
 rintro a w ⟨vA33,HA32,oaA34,capA35,vsA36,hm,hxHA32,o,u,hvA37⟩
 unfold Zp at hm
 refine th<|rg<|qv o (e_ldA o Tryz.isAgg27 Tryz.sizeOf27 rfl rfl ((St.ld u).cellsB t5)) fun a o=>ls<|s_blkA o u sizeOf27 rfl rfl rfl rfl (one_cells rfl) .head fun w u=>re<|tn<|wr<|?_
 obtain ⟨H128,hx125,hr126,hc127,u⟩:=St.frzS u (.tail .head) (hvA30.mono hxHA32.sub)
 obtain ⟨H132,hx129,hr130,hc131,u⟩:=St.frzS u (.tail .head) (hvA7.mono (cp (cp hx125.sub hxHA32.sub) hxHA25.sub))
 obtain ⟨H136,hx133,hr134,hc135,u⟩:=St.frzS u (.tail .head) (hvA13.mono (cp (cp (cp hx129.sub hx125.sub) hxHA32.sub) hxHA25.sub))
 obtain ⟨H140,hx137,hr138,hc139,u⟩:=St.frzS u (.tail .head) (hvA37.mono (cp (cp hx133.sub hx129.sub) hx125.sub))
 obtain rfl:=si hm
 exact r1c (vs:=[.slice oaA27 vA26.length capA28,.slice oaA4 vA3.length capA5,.slice oaA10 vA9.length capA11,.slice oaA16 vA15.length capA17,.slice oaA21 vA20.length capA22,.slice oaA34 vA33.length capA35]) (.inl rfl) o results15 rfl isAgg27 sizeOf27 rfl ((St.ld u).cellsB t0) ⟨H140,_,rfl,(show Enc.rep (α:=api_Prog) H140 [.slice oaA27 vA26.length capA28,.slice oaA4 vA3.length capA5,.slice oaA10 vA9.length capA11,.slice oaA16 vA15.length capA17,.slice oaA21 vA20.length capA22,.slice oaA34 vA33.length capA35] (api_Prog.mk vA26 vA3 vA9 vA15 vA20 vA33) from ⟨_,_,rfl,⟨_,_,rfl,hc127,(hr126.mono (cp (cp hx137.sub hx133.sub) hx129.sub))⟩,⟨_,_,rfl,⟨_,_,rfl,hc131,(hr130.mono (cp hx137.sub hx133.sub))⟩,⟨_,_,rfl,⟨_,_,rfl,hc135,(hr134.mono hx137.sub)⟩,⟨_,_,rfl,⟨_,_,rfl,hcA18,(hrA19.mono (cp (cp (cp (cp (cp hx137.sub hx133.sub) hx129.sub) hx125.sub) hxHA32.sub) hxHA25.sub))⟩,⟨_,_,rfl,⟨_,_,rfl,hcA23,(hrA24.mono (cp (cp (cp (cp (cp hx137.sub hx133.sub) hx129.sub) hx125.sub) hxHA32.sub) hxHA25.sub))⟩,⟨_,_,rfl,hc139,hr138⟩⟩⟩⟩⟩⟩),(Ext.trans hxHA1 (Ext.trans hxHA25 (Ext.trans hxHA32 (Ext.trans hx125 (Ext.trans hx129 (Ext.trans hx133 hx137)))))),(St.le u),u.keep⟩
theorem Z6c_c (hH:H.le w0) {cs2:List Value} {p1:api_Prog} (g3:Enc.rep H cs2 p1) {r:api_Prog} (hm:Z6c N p1=some r):Tot Tryz.prog 65 #[.agg cs2.toArray] w0 (fun v w'=>∃ (H':PH) (b0:Nat) (cs0:List Value),v=.func (.func 108) #[] #[.pointer (some ⟨b0,0,none⟩)]∧H' b0=some (.cells cs0.toArray 27 (0,0))∧Enc.rep H' cs0 r∧Ext w0 H H'∧H'.le w'∧Keep Nil w0 w'):=by
 unfold Z6c at hm
 refine fn0 func65 rfl ntmps65 rfl rfl fun a o=>?_
 have u:St w0 Nil [H] [] w0:=start1 hH
 obtain ⟨oa4,cap5,oa8,cap9,oa12,cap13,oa16,cap17,oa20,cap21,oa24,cap25,rfl,hc6,hr7,hc10,hr11,hc14,hr15,hc18,hr19,hc22,hr23,hc26,hr27⟩:=api_Prog_open g3
 refine th<|rg<|ls<|a_box (cs:=[.slice oa4 p1.Lines.length cap5,.slice oa8 p1.Vols.length cap9,.slice oa12 p1.Locks.length cap13,.slice oa16 p1.Threads.length cap17,.slice oa20 p1.Recover.length cap21,.slice oa24 p1.Claims.length cap25].toArray) o rfl u rfl rfl fun b28 w a u o=>qa o rfl fun a o=>re<|tn<|th<|rg<|qv o (e_mkf (vs:=[.pointer (some ⟨b28,0,none⟩)]) o ⟨rfl,trivial⟩) fun a o=>qa o rfl fun a o=>re<|tn<|wr<|?_
 obtain ⟨H31,hx29,hb30,u⟩:=St.frzB u .head
 obtain rfl:=si hm
 exact r1 o results65 rfl ⟨H31,b28,_,rfl,hb30,(show Enc.rep (α:=api_Prog) H31 [.slice oa4 p1.Lines.length cap5,.slice oa8 p1.Vols.length cap9,.slice oa12 p1.Locks.length cap13,.slice oa16 p1.Threads.length cap17,.slice oa20 p1.Recover.length cap21,.slice oa24 p1.Claims.length cap25] p1 from ⟨_,_,rfl,⟨_,_,rfl,hc6,(hr7.mono hx29.sub)⟩,⟨_,_,rfl,⟨_,_,rfl,hc10,(hr11.mono hx29.sub)⟩,⟨_,_,rfl,⟨_,_,rfl,hc14,(hr15.mono hx29.sub)⟩,⟨_,_,rfl,⟨_,_,rfl,hc18,(hr19.mono hx29.sub)⟩,⟨_,_,rfl,⟨_,_,rfl,hc22,(hr23.mono hx29.sub)⟩,⟨_,_,rfl,hc26,(hr27.mono hx29.sub)⟩⟩⟩⟩⟩⟩),hx29,(St.le u),u.keep⟩
theorem Z6d_c (hH:H.le w0) {τ:Type} {y:τ→(api_Cell×Int)→Option (τ×Bool)} {C:τ→PH→List HA→Prop} {lyl:Nat} (hy:YC Tryz.prog lyl C (fun (H:PH) (args:List Value) (x:api_Cell×Int)=>∃ (cs0:List Value),args=[.agg cs0.toArray,i6 x.2]∧Enc.rep H cs0 x.1) y) (_:∀ s H H' L,(∀ b o,H b=some o→H' b=some o)→C s H L→C s H' L) {s0:τ} {Lc:List HA} (hC:C s0 H Lc) {cs3:List Value} {y2:api_Prog} (g4:Enc.rep H cs3 y2) {b1:Nat} (hb5:H b1=some (.cells cs3.toArray 27 (0,0))) (hO:(sepA [sepA Lc]).ok (hp w0)) (hD:∀ b,(sepA [sepA Lc]).fp b→H b=none) {r:τ} (hm:Z6d N y s0 y2=some r):Tot Tryz.prog 108 #[.func (.yield lyl) #[] #[],.pointer (some ⟨b1,0,none⟩)] w0 (fun v w'=>∃ (H':PH) (Lcq:List HA),v=.tuple #[]∧C r H' Lcq∧ExtM w0 (sepA [sepA Lc]).fp H H'∧H'.le w'∧(∀ b,(sepA [sepA Lcq]).fp b→H' b=none)∧Mut w0 (sepA [sepA Lc]) (sepA [sepA Lcq]) w'):=by
 unfold Z6d at hm
 refine fn0 func108 rfl ntmps108 rfl rfl fun a o=>?_
 have u:=startM hH hO hD
 obtain ⟨oa6,cap7,oa10,cap11,oa14,cap15,oa18,cap19,oa22,cap23,oa26,cap27,rfl,hc8,hr9,hc12,hr13,hc16,hr17,hc20,hr21,hc24,hr25,hc28,hr29⟩:=api_Prog_open g4
 refine th<|th<|rg<|qv o (e_fa o fa27_0 rfl) fun a o=>qv o (e_ld o isAgg22 rfl (PH.le.cell (Lds.le (St.ld u)) (ph_cell hb5 rfl))) fun a o=>qv o (e_lenL (α:=(List api_Cell)) (xs:=y2.Lines) o runUnderlying22 rfl) fun a o=>qm o rfl fun a o=>re<|tn<|midK (fun a w=>∃ (vA2:τ) (HA1:PH) (LcA3:List HA),(Z6e N y y2) vA2=some r∧ExtM w0 (sepA [sepA Lc]).fp H HA1∧Fr 48 [(0,.func (.yield lyl) #[] #[]),(1,.pointer (some ⟨b1,0,none⟩))] a∧St w0 (sepA [sepA Lc]).fp [HA1] [sepA LcA3] w∧C vA2 HA1 LcA3) ?_ ?_
 refine wb<|lp (α:=Nat×Int×τ) (fun gh a w=>match gh with | (nn2,vB2,vB3)=>∃ (HB1:PH) (LcB4:List HA),(Z6g N (Z6e N y y2) y y2) nn2 vB2 vB3=some r∧ExtM w0 (sepA [sepA Lc]).fp H HB1∧Fr 48 [(0,.func (.yield lyl) #[] #[]),(1,.pointer (some ⟨b1,0,none⟩)),(10,.slice oa6 y2.Lines.length cap7),(11,i6 (y2.Lines.length:Int)),(12,i6 vB2)] a∧St w0 (sepA [sepA Lc]).fp [HB1] [sepA LcB4] w∧C vB3 HB1 LcB4) (fun gh=>gh.1) (N,0,s0) ⟨H,Lc,hm,(ExtM.refl _ _ _),o.hs,u,hC⟩ ?_
 rintro ⟨nn2,vB2,vB3⟩ a w ⟨HB1,LcB4,hm,hxHB1,o,u,hCB5⟩
 obtain _ | nn2:=nn2
 simp [Z6g] at hm
 rw [Z6g] at hm
 refine th<|rg<|qv o (e_lss o rfl rfl) fun a o=>re<|?_
 rcases bdich (decide (vB2 < (y2.Lines.length:Int))) with hb30 | hb30
 replace hm:=itp_t hm hb30
 refine tn<|th<|ctv o rfl hb30<|wk<|tn<|th<|midK (fun a w=>∃ (vC2:τ) (HC1:PH) (LcC3:List HA),(Z6f (Z6g N (Z6e N y y2) y y2 nn2) vB2) vC2=some r∧ExtM w0 (sepA [sepA Lc]).fp HB1 HC1∧Fr 48 [(0,.func (.yield lyl) #[] #[]),(1,.pointer (some ⟨b1,0,none⟩)),(10,.slice oa6 y2.Lines.length cap7),(11,i6 (y2.Lines.length:Int)),(12,i6 vB2)] a∧St w0 (sepA [sepA Lc]).fp [HC1] [sepA LcC3] w∧C vC2 HC1 LcC3) ?_ ?_
 refine wb<|th<|?_
 obtain ⟨x31,h32,hm⟩:=bs hm
 obtain ⟨c33,g34,hl35⟩:=SR.get hr9 h32
 obtain ⟨oa36,cap37,rfl,hc38,hr39⟩:=g34
 refine rg<|qm o rfl fun a o=>qv o (e_iaI o runUnderlying22 sizeOf23 rfl rfl h32 (SR.oaI hr9 (by decide) h32)) fun a o=>qv o (e_ld o isAgg23 rfl (PH.le.cell (fun b o hx=>(Lds.le (St.ld u)) b o (hxHB1.sub b o hx)) (hl35 0 _ rfl))) fun a o=>?_
 iterate 2 refine qa o rfl fun a o=>?_
 refine re<|tn<|th<|rg<|qm o rfl fun a o=>qv o (e_lenL (α:=api_Cell) (xs:=x31) o runUnderlying23 rfl) fun a o=>qm o rfl fun a o=>re<|tn<|wb<|lp (α:=Nat×Int×τ) (fun gh a w=>match gh with | (nn4,vD2,vD3)=>∃ (HD1:PH) (LcD4:List HA),(Z6h N (Z6f (Z6g N (Z6e N y y2) y y2 nn2) vB2) y x31 vB2) nn4 vD2 vD3=some r∧ExtM w0 (sepA [sepA Lc]).fp HB1 HD1∧Fr 48 [(0,.func (.yield lyl) #[] #[]),(1,.pointer (some ⟨b1,0,none⟩)),(3,i6 vB2),(10,.slice oa6 y2.Lines.length cap7),(11,i6 (y2.Lines.length:Int)),(12,i6 vB2),(17,.slice oa36 x31.length cap37),(18,i6 (x31.length:Int)),(19,i6 vD2)] a∧St w0 (sepA [sepA Lc]).fp [HD1] [sepA LcD4] w∧C vD3 HD1 LcD4) (fun gh=>gh.1) (N,0,vB3) ⟨HB1,LcB4,hm,(ExtM.refl _ _ _),o.hs,u,hCB5⟩ ?_
 rintro ⟨nn4,vD2,vD3⟩ a w ⟨HD1,LcD4,hm,hxHD1,o,u,hCD5⟩
 obtain _ | nn4:=nn4
 simp [Z6h] at hm
 rw [Z6h] at hm
 refine th<|rg<|qv o (e_lss o rfl rfl) fun a o=>re<|?_
 rcases bdich (decide (vD2 < (x31.length:Int))) with hb40 | hb40
 replace hm:=itp_t hm hb40
 refine tn<|th<|ctv o rfl hb40<|wk<|tn<|th<|wb<|th<|?_
 obtain ⟨x41,h42,hm⟩:=bs hm
 obtain ⟨c43,g44,hl45⟩:=SR.get hr39 h42
 obtain rfl:=api_Cell_open g44
 refine rg<|qv o (e_iaI o Tryz.runUnderlying23 Tryz.sizeOf53 rfl rfl h42 (SR.oaI hr39 (by decide) h42)) fun a o=>qv o (e_ldA o isAgg53 sizeOf53 rfl rfl (fun j v hj=>PH.le.cell (fun b o hx=>(Lds.le (St.ld u)) b o ((cp hxHD1.sub hxHB1.sub) b o hx)) (hl45 j v hj))) fun a o=>ls<|a_alloc (cs:=[strv [],i6 0,i6 0].toArray) o rfl u zeroValue53 rfl fun b46 w a u o=>ls<|s_blkA o u sizeOf53 rfl rfl rfl rfl (one_cells rfl) .head fun w u=>re<|tn<|th<|?_
 obtain ⟨r47,h48,hm⟩:=bs hm
 refine rg<|qm o rfl fun a o=>qv o (e_ldA o isAgg53 sizeOf53 rfl rfl ((St.ld u).cellsB t0)) fun a o=>qm o rfl fun a o=>lsy rfl<|ly (vs:=[.agg #[strv x41.Name,i6 x41.N,i6 x41.At],i6 vB2]) o rfl rfl ⟨rfl,rfl,trivial⟩ hy u t1 hCD5 ⟨[strv x41.Name,i6 x41.N,i6 x41.At],rfl,(show Enc.rep (α:=api_Cell) HD1 [strv x41.Name,i6 x41.N,i6 x41.At] x41 from ⟨_,_,rfl,rfl,⟨_,_,rfl,rfl,rfl⟩⟩)⟩ h48 (fun a w H52 Lc51 hC50 hx49 hU o=>?_)
 replace u:=hU _ (.tail .head)
 refine qv o (e_not o rfl) fun a o=>re<|?_
 rcases bdich r47.2 with hb53 | hb53
 replace hm:=ite_t hm hb53
 refine tn<|cfv o rfl (by rw [hb53];rfl)<|wk<|bn<|tn<|rg<|qv o (e_add o rfl rfl) fun a o=>qm o rfl fun a o=>re<|tn<|?_
 replace u:=u.pk [1] rfl
 exact ⟨(nn4,(IntKind.i64.wrap (vD2+1)),r47.1),⟨H52,Lc51,hm,(ExtM.trans hxHD1 hx49),o.hs,u,hC50⟩,Nat.lt_succ_self _⟩
 replace hm:=ite_f hm hb53
 refine tn<|ctv o rfl (by rw [hb53];rfl)<|wr<|br<|tr<|tr<|br<|br<|tr<|tr<|br<|tr<|?_
 obtain rfl:=si hm
 exact r0 o results108 ⟨H52,Lc51,rfl,hC50,(ExtM.trans hxHB1 (ExtM.trans hxHD1 hx49)),(St.le u),(St.disL (u.pickL (.cons (.tail .head) .nil))),(u.pickL (.cons (.tail .head) .nil)).endMut⟩
 replace hm:=itp_f hm hb40
 refine tn<|th<|cfv o rfl hb40<|we<|tx<|tx<|bx<|bn<|tn<|?_
 exact ⟨vD3,HD1,LcD4,hm,hxHD1,o.hs,u,hCD5⟩
 rintro a w ⟨vC2,HC1,LcC3,hm,hxHC1,o,u,hCC4⟩
 unfold Z6f at hm
 refine rg<|qv o (e_add o rfl rfl) fun a o=>qm o rfl fun a o=>re<|tn<|?_
 exact ⟨(nn2,(IntKind.i64.wrap (vB2+1)),vC2),⟨HC1,LcC3,hm,(ExtM.trans hxHB1 hxHC1),o.hs,u,hCC4⟩,Nat.lt_succ_self _⟩
 replace hm:=itp_f hm hb30
 refine tn<|th<|cfv o rfl hb30<|we<|tx<|tx<|bx<|tn<|?_
 exact ⟨vB3,HB1,LcB4,hm,hxHB1,o.has ⟨rfl,rfl,trivial⟩,u,hCB5⟩
 rintro a w ⟨vA2,HA1,LcA3,hm,hxHA1,o,u,hCA4⟩
 unfold Z6e at hm
 refine th<|rg<|qv o (e_fa o fa27_1 rfl) fun a o=>qv o (e_ld o isAgg23 rfl (PH.le.cell (fun b o hx=>(Lds.le (St.ld u)) b o (hxHA1.sub b o hx)) (ph_cell hb5 rfl))) fun a o=>qv o (e_lenL (α:=api_Cell) (xs:=y2.Vols) o runUnderlying23 rfl) fun a o=>qm o rfl fun a o=>re<|tn<|wb<|lp (α:=Nat×Int×τ) (fun gh a w=>match gh with | (nn5,vA6,vA7)=>∃ (HA5:PH) (LcA8:List HA),(Z6i N y y2) nn5 vA6 vA7=some r∧ExtM w0 (sepA [sepA Lc]).fp HA1 HA5∧Fr 48 [(0,.func (.yield lyl) #[] #[]),(1,.pointer (some ⟨b1,0,none⟩)),(31,.slice oa10 y2.Vols.length cap11),(32,i6 (y2.Vols.length:Int)),(33,i6 vA6)] a∧St w0 (sepA [sepA Lc]).fp [HA5] [sepA LcA8] w∧C vA7 HA5 LcA8) (fun gh=>gh.1) (N,0,vA2) ⟨HA1,LcA3,hm,(ExtM.refl _ _ _),o.hs,u,hCA4⟩ ?_
 rintro ⟨nn5,vA6,vA7⟩ a w ⟨HA5,LcA8,hm,hxHA5,o,u,hCA9⟩
 obtain _ | nn5:=nn5
 simp [Z6i] at hm
 rw [Z6i] at hm
 refine th<|rg<|qv o (e_lss o rfl rfl) fun a o=>re<|?_
 rcases bdich (decide (vA6 < (y2.Vols.length:Int))) with hb54 | hb54
 replace hm:=itp_t hm hb54
 refine tn<|th<|ctv o rfl hb54<|wk<|tn<|th<|wb<|th<|?_
 obtain ⟨x55,h56,hm⟩:=bs hm
 obtain ⟨c57,g58,hl59⟩:=SR.get hr13 h56
 obtain rfl:=api_Cell_open g58
 refine rg<|qm o rfl fun a o=>qv o (e_iaI o runUnderlying23 sizeOf53 rfl rfl h56 (SR.oaI hr13 (by decide) h56)) fun a o=>qv o (e_ldA o isAgg53 sizeOf53 rfl rfl (fun j v hj=>PH.le.cell (fun b o hx=>(Lds.le (St.ld u)) b o ((cp hxHA5.sub hxHA1.sub) b o hx)) (hl59 j v hj))) fun a o=>ls<|a_alloc (cs:=[strv [],i6 0,i6 0].toArray) o rfl u zeroValue53 rfl fun b60 w a u o=>qa o rfl fun a o=>ls<|s_blkA o u sizeOf53 rfl rfl rfl rfl (one_cells rfl) .head fun w u=>re<|tn<|th<|?_
 obtain ⟨r61,h62,hm⟩:=bs hm
 refine rg<|qm o rfl fun a o=>qv o (e_ldA o isAgg53 sizeOf53 rfl rfl ((St.ld u).cellsB t0)) fun a o=>qv o (e_fa o fa27_0 rfl) fun a o=>qv o (e_ld o isAgg22 rfl (PH.le.cell (fun b o hx=>(Lds.le (St.ld u)) b o ((cp hxHA5.sub hxHA1.sub) b o hx)) (ph_cell hb5 rfl))) fun a o=>qv o (e_lenL (α:=(List api_Cell)) (xs:=y2.Lines) o runUnderlying22 rfl) fun a o=>qm o rfl fun a o=>qv o (e_add o rfl rfl) fun a o=>lsy rfl<|ly (vs:=[.agg #[strv x55.Name,i6 x55.N,i6 x55.At],i6 (IntKind.i64.wrap ((y2.Lines.length:Int)+vA6))]) o rfl rfl ⟨rfl,rfl,trivial⟩ hy u t1 hCA9 ⟨[strv x55.Name,i6 x55.N,i6 x55.At],rfl,(show Enc.rep (α:=api_Cell) HA5 [strv x55.Name,i6 x55.N,i6 x55.At] x55 from ⟨_,_,rfl,rfl,⟨_,_,rfl,rfl,rfl⟩⟩)⟩ h62 (fun a w H66 Lc65 hC64 hx63 hU o=>?_)
 replace u:=hU _ (.tail .head)
 refine qv o (e_not o rfl) fun a o=>re<|?_
 rcases bdich r61.2 with hb67 | hb67
 replace hm:=ite_t hm hb67
 refine tn<|cfv o rfl (by rw [hb67];rfl)<|wk<|bn<|tn<|rg<|qv o (e_add o rfl rfl) fun a o=>qm o rfl fun a o=>re<|tn<|?_
 replace u:=u.pk [1] rfl
 exact ⟨(nn5,(IntKind.i64.wrap (vA6+1)),r61.1),⟨H66,Lc65,hm,(ExtM.trans hxHA5 hx63),o.hs,u,hC64⟩,Nat.lt_succ_self _⟩
 replace hm:=ite_f hm hb67
 refine tn<|ctv o rfl (by rw [hb67];rfl)<|wr<|br<|tr<|tr<|br<|?_
 obtain rfl:=si hm
 exact r0 o results108 ⟨H66,Lc65,rfl,hC64,(ExtM.trans hxHA1 (ExtM.trans hxHA5 hx63)),(St.le u),(St.disL (u.pickL (.cons (.tail .head) .nil))),(u.pickL (.cons (.tail .head) .nil)).endMut⟩
 replace hm:=itp_f hm hb54
 refine tn<|th<|cfv o rfl hb54<|we<|tx<|tx<|bx<|?_
 obtain rfl:=si hm
 exact r0n o results108 ⟨HA5,LcA8,rfl,hCA9,(ExtM.trans hxHA1 hxHA5),(St.le u),(St.disL (u.pickL (.cons .head .nil))),(u.pickL (.cons .head .nil)).endMut⟩
theorem Z6n_c (hH:H.le w0) {p1:Str} {p2:Int} {p3:Int} {b5:Nat} {p4:(List (Str×Int))} {mz6 cz8:Nat} {l7:List (Str×Value×Nat)} (hm9:MRel kI l7 p4) {b11:Nat} {p10:Bool} {b13:Nat} {p12:Int} (hO:(sepA [blk b5 (.cells [.map (some mz6)].toArray 75 (0,0)),gmap kS mz6 l7 cz8,blk b11 (.cells [.bool p10].toArray 4 (0,0)),blk b13 (.cells [i6 p12].toArray 3 (0,0))]).ok (hp w0)) (hD:∀ b,(sepA [blk b5 (.cells [.map (some mz6)].toArray 75 (0,0)),gmap kS mz6 l7 cz8,blk b11 (.cells [.bool p10].toArray 4 (0,0)),blk b13 (.cells [i6 p12].toArray 3 (0,0))]).fp b→H b=none) {r:((List (Str×Int))×Bool×Int)} (hm:Z6n N p1 p2 p3 p4 p10 p12=some r):Tot Tryz.prog 78 #[strv p1,i6 p2,i6 p3,.pointer (some ⟨b5,0,none⟩),.pointer (some ⟨b11,0,none⟩),.pointer (some ⟨b13,0,none⟩)] w0 (fun v w'=>∃ (m1m:Nat) (l1m:List (Str×Value×Nat)) (c1m:Nat),v=.tuple #[]∧MRel kI l1m r.1∧Mut w0 (sepA [blk b5 (.cells [.map (some mz6)].toArray 75 (0,0)),gmap kS mz6 l7 cz8,blk b11 (.cells [.bool p10].toArray 4 (0,0)),blk b13 (.cells [i6 p12].toArray 3 (0,0))]) (sepA [blk b5 (.cells [.map (some m1m)].toArray 75 (0,0)),gmap kS m1m l1m c1m,blk b11 (.cells [.bool r.2.1].toArray 4 (0,0)),blk b13 (.cells [i6 r.2.2].toArray 3 (0,0))]) w'):=by
 unfold Z6n at hm
 refine fn0 func78 rfl ntmps78 rfl rfl fun a o=>?_
 have u:=startM hH hO hD
 refine th<|th<|rg<|qv o (e_ld o Tryz.isAgg75 rfl ((St.ld u).cellB t0 rfl)) fun a o=>qm o rfl fun a o=>qv o (e_lookM (ev:=kI) (dv:=0) (m:=p4) (k:=p1) o key9 runUnderlying75 zeroValue3 (Lds.mapO (St.ld u) t1) rfl rfl hm9) fun a o=>qv o (e_neq o rfl rfl) fun a o=>qm o rfl fun a o=>grp (N:=21) (Fk:=[(0,strv p1),(1,i6 p2),(2,i6 p3),(3,.pointer (some ⟨b5,0,none⟩)),(4,.pointer (some ⟨b11,0,none⟩)),(5,.pointer (some ⟨b13,0,none⟩)),(16,.bool ((decide (((plook p1 p4).getD 0)≠0)) && (!p10)))]) (b:=(decide (((plook p1 p4).getD 0)≠0))) 3 u ?_ ?_ ?_
 intro hb key
 replace o:=Fr.as o (t:=13) rfl (congrArg Value.bool hb)
 refine qg o (e_ld o isAgg4 rfl ((St.ld u).cellB t2 rfl)) fun a o=>qg o (e_not o rfl) fun a o=>qv o (e_as (v':=.bool ((decide (((plook p1 p4).getD 0)≠0)) && (!p10))) (e_pickT o rfl rfl) (by rw [hb];rfl)) fun a o=>?_
 exact key _ _ (o.hs) u
 intro hb key
 replace o:=Fr.as o (t:=13) rfl (congrArg Value.bool hb)
 iterate 2 refine qn o fun a o=>?_
 refine qv o (e_as (v':=.bool ((decide (((plook p1 p4).getD 0)≠0)) && (!p10))) (e_pickF o rfl rfl) (by rw [hb];rfl)) fun a o=>?_
 exact key _ _ (o.hs) u
 intro a w o u
 refine re<|tn<|midK (fun a w=>∃ (vA1:Bool) (vA2:Int),(Z6o p1 p2 p4) vA1 vA2=some r∧Fr 21 [(0,strv p1),(1,i6 p2),(3,.pointer (some ⟨b5,0,none⟩)),(4,.pointer (some ⟨b11,0,none⟩)),(5,.pointer (some ⟨b13,0,none⟩))] a∧St w0 (sepA [blk b5 (.cells [.map (some mz6)].toArray 75 (0,0)),gmap kS mz6 l7 cz8,blk b11 (.cells [.bool p10].toArray 4 (0,0)),blk b13 (.cells [i6 p12].toArray 3 (0,0))]).fp [H] [gmap kS mz6 l7 cz8,blk b5 (.cells [.map (some mz6)].toArray 75 (0,0)),blk b11 (.cells [.bool vA1].toArray 4 (0,0)),blk b13 (.cells [i6 vA2].toArray 3 (0,0))] w) ?_ ?_
 rcases bdich ((decide (((plook p1 p4).getD 0)≠0)) && (!p10)) with hb14 | hb14
 replace hm:=ite_t hm hb14
 refine ctv o rfl hb14<|rg<|qm o rfl fun a o=>ls<|s_blk o u sizeOf3 rfl rfl rfl rfl (.tail (.tail (.tail .head))) .zero fun w u=>ls<|s_blk o u sizeOf4 rfl rfl rfl rfl (.tail (.tail .head)) .zero fun w u=>re<|tn<|?_
 replace u:=u.pk [1,0,0,0] rfl
 exact ⟨true,p3,hm,o.hs,u⟩
 replace hm:=ite_f hm hb14
 refine cfv o rfl hb14<|wk<|tn<|?_
 replace u:=u.pk [1,0,0,0] rfl
 exact ⟨p10,p12,hm,o.hs,u⟩
 rintro a w ⟨vA1,vA2,hm,o,u⟩
 unfold Z6o at hm
 refine rg<|qv o (e_ld o Tryz.isAgg75 rfl ((St.ld u).cellB t1 rfl)) fun a o=>?_
 iterate 2 refine qm o rfl fun a o=>?_
 refine ls<|m_put (ev:=kI) (m:=p4) (k:=p1) (v:=p2) o u key9 runUnderlying75 rfl rfl rfl t0 hm9 fun l15 c16 w hm17 hU=>?_
 replace u:=hU _ .head
 refine re<|?_
 obtain rfl:=si hm
 exact r0n o results78 ⟨mz6,l15,c16,rfl,hm17,(u.pickL (.cons (.tail .head) (.cons .head (.cons .head (.cons .head .nil))))).endMut⟩
set_option maxHeartbeats 4000000 in
theorem Z6m_c (hH:H.le w0) {cs2:List Value} {p1:api_Prog} (g3:Enc.rep H cs2 p1) {r:((List (Str×Int))×Int×Bool)} (hm:Z6m N p1=some r):Tot Tryz.prog 49 #[.agg cs2.toArray] w0 (fun v w'=>∃ (m0:Nat) (l0:List (Str×Value×Nat)) (c0:Nat),v=.tuple #[.map (some m0),i6 r.2.1,.bool r.2.2]∧MRel kI l0 r.1∧Fresh w0 (gmap kS m0 l0 c0) w'):=by
 unfold Z6m at hm
 refine fnM func49 rfl ntmps49 rfl rfl fun a o=>?_
 have u:St w0 Nil [H] [] w0:=start1 hH
 replace u:=St.ds0 u
 obtain ⟨oa4,cap5,oa8,cap9,oa12,cap13,oa16,cap17,oa20,cap21,oa24,cap25,rfl,hc6,hr7,hc10,hr11,hc14,hr15,hc18,hr19,hc22,hr23,hc26,hr27⟩:=api_Prog_open g3
 refine th<|rg<|ls<|a_box (cs:=[.slice oa4 p1.Lines.length cap5,.slice oa8 p1.Vols.length cap9,.slice oa12 p1.Locks.length cap13,.slice oa16 p1.Threads.length cap17,.slice oa20 p1.Recover.length cap21,.slice oa24 p1.Claims.length cap25].toArray) o rfl u rfl rfl fun b28 w a u o=>?_
 iterate 3 refine qa o rfl fun a o=>?_
 refine re<|tn<|th<|rg<|ls<|a_map o rfl u fun m29 w a u o=>?_
 replace u:=St.gmap0 (kv:=kS) u
 have hm30:MRel (κ:=Str) (β:=Int) kI [] []:=MRel.nil _
 refine ls<|a_alloc (cs:=[.map none].toArray) o rfl u zeroValue75 rfl fun b31 w a u o=>ls<|s_blk o u sizeOf75 rfl rfl rfl rfl .head .zero fun w u=>re<|tn<|th<|rg<|ls<|a_alloc (cs:=[i6 0].toArray) o rfl u Tryz.zeroValue3 rfl fun b32 w a u o=>re<|tn<|th<|rg<|ls<|a_alloc (cs:=[.bool false].toArray) o rfl u Tryz.zeroValue4 rfl fun b33 w a u o=>ls<|s_blk o u sizeOf4 rfl rfl rfl rfl .head .zero fun w u=>re<|tn<|th<|rg<|qv o (e_mkf (vs:=[.pointer (some ⟨b31,0,none⟩),.pointer (some ⟨b33,0,none⟩),.pointer (some ⟨b32,0,none⟩)]) o ⟨rfl,rfl,rfl,trivial⟩) fun a o=>ls<|a_alloc (cs:=[.nilFunc].toArray) o rfl u zeroValue105 rfl fun b34 w a u o=>ls<|s_blk o u sizeOf105 rfl rfl rfl rfl .head .zero fun w u=>re<|tn<|th<|th<|?_
 obtain ⟨r35,h36,hm⟩:=bs hm
 refine rg<|qv o (e_ldA o Tryz.isAgg27 Tryz.sizeOf27 rfl rfl ((St.ld u).cellsB t5)) fun a o=>ls<|c1 o rfl call65 (Z6c_c (St.le u) (show Enc.rep (α:=api_Prog) H [.slice oa4 p1.Lines.length cap5,.slice oa8 p1.Vols.length cap9,.slice oa12 p1.Locks.length cap13,.slice oa16 p1.Threads.length cap17,.slice oa20 p1.Recover.length cap21,.slice oa24 p1.Claims.length cap25] p1 from ⟨_,_,rfl,⟨_,_,rfl,hc6,hr7⟩,⟨_,_,rfl,⟨_,_,rfl,hc10,hr11⟩,⟨_,_,rfl,⟨_,_,rfl,hc14,hr15⟩,⟨_,_,rfl,⟨_,_,rfl,hc18,hr19⟩,⟨_,_,rfl,⟨_,_,rfl,hc22,hr23⟩,⟨_,_,rfl,hc26,hr27⟩⟩⟩⟩⟩⟩) h36) ⟨rfl,trivial⟩ (fun v w a hR o=>?_)
 obtain ⟨H40,b41,cs43,rfl,hb42,g44,hx37,hl38,hk⟩:=hR
 obtain ⟨u,hx37⟩:=And.intro (St.passH u hk hx37 hl38) (St.extc u hx37)
 obtain ⟨oa45,cap46,oa49,cap50,oa53,cap54,oa57,cap58,oa61,cap62,oa65,cap66,rfl,hc47,hr48,hc51,hr52,hc55,hr56,hc59,hr60,hc63,hr64,hc67,hr68⟩:=api_Prog_open g44
 refine re<|tn<|wb<|?_
 replace o:Fr 65 [(1,.pointer (some ⟨b28,0,none⟩)),(5,.pointer (some ⟨b31,0,none⟩)),(6,.pointer (some ⟨b32,0,none⟩)),(7,.pointer (some ⟨b33,0,none⟩)),(8,.pointer (some ⟨b34,0,none⟩)),(19,.func (.func 108) #[] #[.pointer (some ⟨b41,0,none⟩)])] _:=o.hs
 replace u:=u.pk [6,5,4,3,2,1,0] rfl
 obtain ⟨q69,h70,hm⟩:=bs hm
 refine rf (ŝ:=q69) (lb:=[.pointer (some ⟨b41,0,none⟩)]) (ps:=[20,21]) (I:=fun (gh:((List (Str×Int))×Int×Bool)) (HA1:PH) (L:List HA)=>match gh with | (vA3,vA7,vA8)=>∃ (bA2:Nat) (lA4:List (Str×Value×Nat)) (cA5:Nat),L=[blk b28 (.cells [.slice oa4 p1.Lines.length cap5,.slice oa8 p1.Vols.length cap9,.slice oa12 p1.Locks.length cap13,.slice oa16 p1.Threads.length cap17,.slice oa20 p1.Recover.length cap21,.slice oa24 p1.Claims.length cap25].toArray 27 (0,0)),gmap kS bA2 lA4 cA5,blk b31 (.cells [.map (some bA2)].toArray 75 (0,0)),blk b32 (.cells [i6 vA7].toArray 3 (0,0)),blk b33 (.cells [.bool vA8].toArray 4 (0,0)),blk b34 (.cells [.func (.func 78) #[] #[.pointer (some ⟨b31,0,none⟩),.pointer (some ⟨b33,0,none⟩),.pointer (some ⟨b32,0,none⟩)]].toArray 105 (0,0))]∧(∀ b o,H40 b=some o→HA1 b=some o)∧MRel kI lA4 vA3) (J:=fun (_:Empty) (_:Code) (_:PH) (_:List HA)=>False) (fun (s:((List (Str×Int))×Int×Bool)) (x:(api_Cell×Int))=>(Z6p N p1) s.1 s.2.1 s.2.2 x) (fun (H:PH) (args:List Value) (x:api_Cell×Int)=>∃ (cs0:List Value),args=[.agg cs0.toArray,i6 x.2]∧Enc.rep H cs0 x.1) o rfl call108 rfl (by rintro H args x ⟨_,rfl,_⟩;rfl) u ⟨m29,[],0,rfl,i2,hm30⟩ (by rintro ⟨vA3,vA7,vA8⟩ H Hn L hs ⟨bA2,lA4,cA5,rfl,hu,hmA6⟩;exact ⟨_,_,_,rfl,(cp hs hu),hmA6⟩) (fun t=>t.elim) (fun lq C Lc w1 hyc hcm hc hle hok hdis=>hit_of (Z6d_c hle hyc hcm hc (show Enc.rep (α:=api_Prog) H40 [.slice oa45 r35.Lines.length cap46,.slice oa49 r35.Vols.length cap50,.slice oa53 r35.Locks.length cap54,.slice oa57 r35.Threads.length cap58,.slice oa61 r35.Recover.length cap62,.slice oa65 r35.Claims.length cap66] r35 from ⟨_,_,rfl,⟨_,_,rfl,hc47,hr48⟩,⟨_,_,rfl,⟨_,_,rfl,hc51,hr52⟩,⟨_,_,rfl,⟨_,_,rfl,hc55,hr56⟩,⟨_,_,rfl,⟨_,_,rfl,hc59,hr60⟩,⟨_,_,rfl,⟨_,_,rfl,hc63,hr64⟩,⟨_,_,rfl,hc67,hr68⟩⟩⟩⟩⟩⟩) hb42 (sep1_ok hok) (sep1_dis hdis) h70)) ?_ ?_ ?_
 intro l X Y s xe129 r HA1 Lu args w0 a K Qr hI hex hm o u hK hN hR
 obtain ⟨vA3,vA7,vA8⟩:=s
 obtain ⟨bA2,lA4,cA5,rfl,hxHA1,hmA6⟩:=hI
 replace hm:(Z6p N p1) vA3 vA7 vA8 xe129=some r:=hm
 unfold Z6p at hm
 obtain ⟨cs130,rfl,g131⟩:=hex
 replace o:Fr 65 [(21,i6 xe129.2),(20,.agg cs130.toArray),(1,.pointer (some ⟨b28,0,none⟩)),(5,.pointer (some ⟨b31,0,none⟩)),(6,.pointer (some ⟨b32,0,none⟩)),(7,.pointer (some ⟨b33,0,none⟩)),(8,.pointer (some ⟨b34,0,none⟩)),(19,.func (.func 108) #[] #[.pointer (some ⟨b41,0,none⟩)])] a:=o
 obtain rfl:=api_Cell_open g131
 refine th<|rg<|ls<|a_alloc (cs:=[strv [],i6 0,i6 0].toArray) o rfl u Tryz.zeroValue53 rfl fun b132 w a u o=>ls<|s_blkA o u sizeOf53 rfl rfl rfl rfl (one_cells rfl) .head fun w u=>re<|tn<|rg<|qa o rfl fun a o=>re<|?_
 replace u:=u.pk [1,0,0,0,0,0,0,0] rfl
 refine tn<|hK _ _ _ _ u fun w u=>wb<|th<|rg<|qa o rfl fun a o=>re<|tn<|th<|th<|rg<|qm o rfl fun a o=>qv o (e_fa o fa27_0 rfl) fun a o=>qv o (e_ld o isAgg22 rfl ((St.ld u).cellB t2 rfl)) fun a o=>qv o (e_lenL (α:=(List api_Cell)) (xs:=p1.Lines) o runUnderlying22 rfl) fun a o=>qv o (e_geq o rfl rfl) fun a o=>re<|tn<|midK (fun a w=>∃ (vB1:Int),(Z6q N xe129 vA3 vA7 vA8) vB1=some r∧Fr 65 [(1,.pointer (some ⟨b28,0,none⟩)),(5,.pointer (some ⟨b31,0,none⟩)),(6,.pointer (some ⟨b32,0,none⟩)),(7,.pointer (some ⟨b33,0,none⟩)),(8,.pointer (some ⟨b34,0,none⟩)),(9,.pointer (some ⟨b132,0,none⟩)),(11,i6 vB1),(19,.func (.func 108) #[] #[.pointer (some ⟨b41,0,none⟩)])] a∧St w0 (sepA (X :: [blk b28 (.cells [.slice oa4 p1.Lines.length cap5,.slice oa8 p1.Vols.length cap9,.slice oa12 p1.Locks.length cap13,.slice oa16 p1.Threads.length cap17,.slice oa20 p1.Recover.length cap21,.slice oa24 p1.Claims.length cap25].toArray 27 (0,0)),gmap kS bA2 lA4 cA5,blk b31 (.cells [.map (some bA2)].toArray 75 (0,0)),blk b32 (.cells [i6 vA7].toArray 3 (0,0)),blk b33 (.cells [.bool vA8].toArray 4 (0,0)),blk b34 (.cells [.func (.func 78) #[] #[.pointer (some ⟨b31,0,none⟩),.pointer (some ⟨b33,0,none⟩),.pointer (some ⟨b32,0,none⟩)]].toArray 105 (0,0))])).fp [HA1] [blk b28 (.cells [.slice oa4 p1.Lines.length cap5,.slice oa8 p1.Vols.length cap9,.slice oa12 p1.Locks.length cap13,.slice oa16 p1.Threads.length cap17,.slice oa20 p1.Recover.length cap21,.slice oa24 p1.Claims.length cap25].toArray 27 (0,0)),gmap kS bA2 lA4 cA5,blk b31 (.cells [.map (some bA2)].toArray 75 (0,0)),blk b32 (.cells [i6 vA7].toArray 3 (0,0)),blk b33 (.cells [.bool vA8].toArray 4 (0,0)),blk b34 (.cells [.func (.func 78) #[] #[.pointer (some ⟨b31,0,none⟩),.pointer (some ⟨b33,0,none⟩),.pointer (some ⟨b32,0,none⟩)]].toArray 105 (0,0)),blk b132 (.cells [strv xe129.1.Name,i6 xe129.1.N,i6 xe129.1.At].toArray 53 (0,0)),Y] w) ?_ ?_
 rcases bdich (decide ((p1.Lines.length:Int)≤xe129.2)) with hb133 | hb133
 replace hm:=itp_t hm hb133
 refine ctv o rfl hb133<|rg<|qa o rfl fun a o=>re<|tn<|?_
 replace u:=u.pk [2,2,2,2,2,2,1,0] rfl
 exact ⟨2,hm,o.hs,u⟩
 replace hm:=itp_f hm hb133
 refine cfv o rfl hb133<|wk<|tn<|?_
 replace u:=u.pk [2,2,2,2,2,2,1,0] rfl
 exact ⟨1,hm,o.hs,u⟩
 rintro a w ⟨vB1,hm,o,u⟩
 unfold Z6q at hm
 obtain ⟨r134,h135,hm⟩:=bs hm
 refine rg<|qv o (e_ld o Tryz.isAgg105 rfl ((St.ld u).cellB t5 rfl)) fun a o=>qv o (e_fa o fa53_0 rfl) fun a o=>qv o (e_ld o isAgg9 rfl ((St.ld u).cellB t6 rfl)) fun a o=>qm o rfl fun a o=>qv o (e_fa o fa53_2 rfl) fun a o=>qv o (e_ld o isAgg3 rfl ((St.ld u).cellB t6 rfl)) fun a o=>?_
 replace u:=u.pk [2,1,2,1,0,0,0,0] rfl
 replace u:=St.sep [blk b31 (.cells [.map (some bA2)].toArray 75 (0,0)),gmap kS bA2 lA4 cA5,blk b33 (.cells [.bool vA8].toArray 4 (0,0)),blk b32 (.cells [i6 vA7].toArray 3 (0,0))] u
 refine ls<|k1 (vs:=[strv xe129.1.Name,i6 vB1,i6 xe129.1.At]) (caps:=[.pointer (some ⟨b31,0,none⟩),.pointer (some ⟨b33,0,none⟩),.pointer (some ⟨b32,0,none⟩)]) o rfl rfl call78 (Z6n_c (St.le u) (p4:=vA3) (b5:=b31) (mz6:=bA2) (l7:=lA4) (cz8:=cA5) (p10:=vA8) (b11:=b33) (p12:=vA7) (b13:=b32) hmA6 (St.sepOk u) (St.sepDis u) h135) ⟨rfl,rfl,rfl,trivial⟩ rfl (fun v w a hR o=>?_)
 obtain ⟨m136,l137,c138,rfl,hm139,hk⟩:=hR
 replace u:=(u.mut hk .head).unsep
 refine re<|bn<|?_
 obtain rfl:=si hm
 replace u:=u.pk [7,4,1,0,1,0,0] rfl
 exact hN _ _ _ _ _ rfl (ExtM.refl _ _ _) ⟨m136,l137,c138,rfl,hxHA1,hm139⟩ u
 rintro ⟨vA3,vA7,vA8⟩ D140 HA1 Lu a w rfl ⟨bA2,lA4,cA5,rfl,huHA1,hmA6⟩ hx141 o u
 replace hx141:=ExtM.nil hx141
 try dsimp only at hm
 replace o:Fr ⟨65,(D140 :: [])⟩ [(1,.pointer (some ⟨b28,0,none⟩)),(5,.pointer (some ⟨b31,0,none⟩)),(6,.pointer (some ⟨b32,0,none⟩)),(7,.pointer (some ⟨b33,0,none⟩)),(8,.pointer (some ⟨b34,0,none⟩)),(19,.func (.func 108) #[] #[.pointer (some ⟨b41,0,none⟩)])] a:=o
 replace u:St w0 Nil [HA1] [dsA (D140 :: []),blk b28 (.cells [.slice oa4 p1.Lines.length cap5,.slice oa8 p1.Vols.length cap9,.slice oa12 p1.Locks.length cap13,.slice oa16 p1.Threads.length cap17,.slice oa20 p1.Recover.length cap21,.slice oa24 p1.Claims.length cap25].toArray 27 (0,0)),gmap kS bA2 lA4 cA5,blk b31 (.cells [.map (some bA2)].toArray 75 (0,0)),blk b32 (.cells [i6 vA7].toArray 3 (0,0)),blk b33 (.cells [.bool vA8].toArray 4 (0,0)),blk b34 (.cells [.func (.func 78) #[] #[.pointer (some ⟨b31,0,none⟩),.pointer (some ⟨b33,0,none⟩),.pointer (some ⟨b32,0,none⟩)]].toArray 105 (0,0))] w:=u
 refine bn<|tn<|th<|th<|rg<|qv o (e_fa o fa27_2 rfl) fun a o=>qv o (e_ld o isAgg23 rfl ((St.ld u).cellB t1 rfl)) fun a o=>qv o (e_lenL (α:=api_Cell) (xs:=p1.Locks) o runUnderlying23 rfl) fun a o=>qm o rfl fun a o=>re<|tn<|midK (fun a w=>∃ (vA10:(List (Str×Int))) (vA14:Int) (vA15:Bool) (bA9:Nat) (lA11:List (Str×Value×Nat)) (cA12:Nat),(Z6r N p1) vA10 vA14 vA15=some r∧Fr ⟨65,(D140 :: [])⟩ [(1,.pointer (some ⟨b28,0,none⟩)),(5,.pointer (some ⟨b31,0,none⟩)),(6,.pointer (some ⟨b32,0,none⟩)),(7,.pointer (some ⟨b33,0,none⟩)),(8,.pointer (some ⟨b34,0,none⟩))] a∧St w0 Nil [HA1] [blk b28 (.cells [.slice oa4 p1.Lines.length cap5,.slice oa8 p1.Vols.length cap9,.slice oa12 p1.Locks.length cap13,.slice oa16 p1.Threads.length cap17,.slice oa20 p1.Recover.length cap21,.slice oa24 p1.Claims.length cap25].toArray 27 (0,0)),gmap kS bA9 lA11 cA12,blk b31 (.cells [.map (some bA9)].toArray 75 (0,0)),blk b32 (.cells [i6 vA14].toArray 3 (0,0)),blk b33 (.cells [.bool vA15].toArray 4 (0,0)),blk b34 (.cells [.func (.func 78) #[] #[.pointer (some ⟨b31,0,none⟩),.pointer (some ⟨b33,0,none⟩),.pointer (some ⟨b32,0,none⟩)]].toArray 105 (0,0)),dsA (D140 :: [])] w∧MRel kI lA11 vA10) ?_ ?_
 replace u:=u.pk [1,1,1,1,1,1,0] rfl
 refine wb<|lp (α:=Nat×(List (Str×Int))×Int×Bool×Int) (fun (gh:Nat×(List (Str×Int))×Int×Bool×Int) a w=>match gh with | (nn4,vB3,vB7,vB8,vB9)=>∃ (bB2:Nat) (lB4:List (Str×Value×Nat)) (cB5:Nat),(Z6t N (Z6r N p1) p1) nn4 vB3 vB7 vB8 vB9=some r∧Fr ⟨65,(D140 :: [])⟩ [(1,.pointer (some ⟨b28,0,none⟩)),(5,.pointer (some ⟨b31,0,none⟩)),(6,.pointer (some ⟨b32,0,none⟩)),(7,.pointer (some ⟨b33,0,none⟩)),(8,.pointer (some ⟨b34,0,none⟩)),(35,.slice oa12 p1.Locks.length cap13),(36,i6 (p1.Locks.length:Int)),(37,i6 vB9)] a∧St w0 Nil [HA1] [blk b28 (.cells [.slice oa4 p1.Lines.length cap5,.slice oa8 p1.Vols.length cap9,.slice oa12 p1.Locks.length cap13,.slice oa16 p1.Threads.length cap17,.slice oa20 p1.Recover.length cap21,.slice oa24 p1.Claims.length cap25].toArray 27 (0,0)),gmap kS bB2 lB4 cB5,blk b31 (.cells [.map (some bB2)].toArray 75 (0,0)),blk b32 (.cells [i6 vB7].toArray 3 (0,0)),blk b33 (.cells [.bool vB8].toArray 4 (0,0)),blk b34 (.cells [.func (.func 78) #[] #[.pointer (some ⟨b31,0,none⟩),.pointer (some ⟨b33,0,none⟩),.pointer (some ⟨b32,0,none⟩)]].toArray 105 (0,0)),dsA (D140 :: [])] w∧MRel kI lB4 vB3) (fun gh=>gh.1) (N,vA3,vA7,vA8,0) ⟨bA2,lA4,cA5,hm,o.hs,u,hmA6⟩ ?_
 rintro ⟨nn4,vB3,vB7,vB8,vB9⟩ a w ⟨bB2,lB4,cB5,hm,o,u,hmB6⟩
 obtain _ | nn4:=nn4
 simp [Z6t] at hm
 rw [Z6t] at hm
 refine th<|rg<|qv o (e_lss o rfl rfl) fun a o=>re<|?_
 rcases bdich (decide (vB9 < (p1.Locks.length:Int))) with hb142 | hb142
 replace hm:=itp_t hm hb142
 refine tn<|th<|ctv o rfl hb142<|wk<|tn<|th<|wb<|th<|?_
 obtain ⟨x143,h144,hm⟩:=bs hm
 obtain ⟨c145,g146,hl147⟩:=SR.get hr15 h144
 obtain rfl:=api_Cell_open g146
 refine rg<|qv o (e_iaI o Tryz.runUnderlying23 Tryz.sizeOf53 rfl rfl h144 (SR.oaI hr15 (by decide) h144)) fun a o=>qv o (e_ldA o isAgg53 sizeOf53 rfl rfl (fun j v hj=>PH.le.cell (fun b o hx=>(Lds.le (St.ld u)) b o ((cp hx141.sub hx37.sub) b o hx)) (hl147 j v hj))) fun a o=>ls<|a_alloc (cs:=[strv [],i6 0,i6 0].toArray) o rfl u zeroValue53 rfl fun b148 w a u o=>ls<|s_blkA o u sizeOf53 rfl rfl rfl rfl (one_cells rfl) .head fun w u=>re<|tn<|?_
 obtain ⟨r149,h150,hm⟩:=bs hm
 refine rg<|qv o (e_ld o Tryz.isAgg105 rfl ((St.ld u).cellB t6 rfl)) fun a o=>qv o (e_fa o fa53_0 rfl) fun a o=>qv o (e_ld o isAgg9 rfl ((St.ld u).cellB t0 rfl)) fun a o=>qv o (e_fa o fa53_2 rfl) fun a o=>qv o (e_ld o isAgg3 rfl ((St.ld u).cellB t0 rfl)) fun a o=>?_
 replace u:=u.pk [3,2,3,2,0,0,0,0] rfl
 replace u:=St.sep [blk b31 (.cells [.map (some bB2)].toArray 75 (0,0)),gmap kS bB2 lB4 cB5,blk b33 (.cells [.bool vB8].toArray 4 (0,0)),blk b32 (.cells [i6 vB7].toArray 3 (0,0))] u
 refine ls<|k1 (vs:=[strv x143.Name,i6 3,i6 x143.At]) (caps:=[.pointer (some ⟨b31,0,none⟩),.pointer (some ⟨b33,0,none⟩),.pointer (some ⟨b32,0,none⟩)]) o rfl rfl call78 (Z6n_c (St.le u) (p4:=vB3) (b5:=b31) (mz6:=bB2) (l7:=lB4) (cz8:=cB5) (p10:=vB8) (b11:=b33) (p12:=vB7) (b13:=b32) hmB6 (St.sepOk u) (St.sepDis u) h150) ⟨rfl,rfl,rfl,trivial⟩ rfl (fun v w a hR o=>?_)
 obtain ⟨m151,l152,c153,rfl,hm154,hk⟩:=hR
 replace u:=(u.mut hk .head).unsep
 refine re<|bn<|tn<|rg<|qv o (e_add o rfl rfl) fun a o=>qm o rfl fun a o=>re<|tn<|?_
 replace u:=u.pk [5,1,0,1,0,1,1] rfl
 exact ⟨(nn4,r149.1,r149.2.2,r149.2.1,(IntKind.i64.wrap (vB9+1))),⟨m151,l152,c153,hm,o.hs,u,hm154⟩,Nat.lt_succ_self _⟩
 replace hm:=itp_f hm hb142
 refine tn<|th<|cfv o rfl hb142<|we<|tx<|tx<|bx<|tn<|?_
 exact ⟨vB3,vB7,vB8,bB2,lB4,cB5,hm,o.hs,u,hmB6⟩
 rintro a w ⟨vA10,vA14,vA15,bA9,lA11,cA12,hm,o,u,hmA13⟩
 unfold Z6r at hm
 refine th<|th<|rg<|qv o (e_fa o fa27_3 rfl) fun a o=>qv o (e_ld o isAgg24 rfl ((St.ld u).cellB t0 rfl)) fun a o=>qv o (e_lenL (α:=api_Thread) (xs:=p1.Threads) o runUnderlying24 rfl) fun a o=>qm o rfl fun a o=>re<|tn<|midK (fun a w=>∃ (vA17:(List (Str×Int))) (vA21:Int) (vA22:Bool) (bA16:Nat) (lA18:List (Str×Value×Nat)) (cA19:Nat),Z6s vA17 vA21 vA22=some r∧Fr ⟨65,(D140 :: [])⟩ [(5,.pointer (some ⟨b31,0,none⟩)),(6,.pointer (some ⟨b32,0,none⟩)),(7,.pointer (some ⟨b33,0,none⟩))] a∧St w0 Nil [HA1] [gmap kS bA16 lA18 cA19,blk b31 (.cells [.map (some bA16)].toArray 75 (0,0)),blk b32 (.cells [i6 vA21].toArray 3 (0,0)),blk b33 (.cells [.bool vA22].toArray 4 (0,0)),dsA (D140 :: [])] w∧MRel kI lA18 vA17) ?_ ?_
 replace u:=u.pk [1,1,1,1,1,1] rfl
 refine wb<|lp (α:=Nat×(List (Str×Int))×Int×Bool×Int) (fun (gh:Nat×(List (Str×Int))×Int×Bool×Int) a w=>match gh with | (nn6,vB11,vB15,vB16,vB17)=>∃ (bB10:Nat) (lB12:List (Str×Value×Nat)) (cB13:Nat),(Z6u N Z6s p1) nn6 vB11 vB15 vB16 vB17=some r∧Fr ⟨65,(D140 :: [])⟩ [(5,.pointer (some ⟨b31,0,none⟩)),(6,.pointer (some ⟨b32,0,none⟩)),(7,.pointer (some ⟨b33,0,none⟩)),(8,.pointer (some ⟨b34,0,none⟩)),(49,.slice oa16 p1.Threads.length cap17),(50,i6 (p1.Threads.length:Int)),(51,i6 vB17)] a∧St w0 Nil [HA1] [gmap kS bB10 lB12 cB13,blk b31 (.cells [.map (some bB10)].toArray 75 (0,0)),blk b32 (.cells [i6 vB15].toArray 3 (0,0)),blk b33 (.cells [.bool vB16].toArray 4 (0,0)),blk b34 (.cells [.func (.func 78) #[] #[.pointer (some ⟨b31,0,none⟩),.pointer (some ⟨b33,0,none⟩),.pointer (some ⟨b32,0,none⟩)]].toArray 105 (0,0)),dsA (D140 :: [])] w∧MRel kI lB12 vB11) (fun gh=>gh.1) (N,vA10,vA14,vA15,0) ⟨bA9,lA11,cA12,hm,o.hs,u,hmA13⟩ ?_
 rintro ⟨nn6,vB11,vB15,vB16,vB17⟩ a w ⟨bB10,lB12,cB13,hm,o,u,hmB14⟩
 obtain _ | nn6:=nn6
 simp [Z6u] at hm
 rw [Z6u] at hm
 refine th<|rg<|qv o (e_lss o rfl rfl) fun a o=>re<|?_
 rcases bdich (decide (vB17 < (p1.Threads.length:Int))) with hb155 | hb155
 replace hm:=itp_t hm hb155
 refine tn<|th<|ctv o rfl hb155<|wk<|tn<|th<|wb<|th<|?_
 obtain ⟨x156,h157,hm⟩:=bs hm
 obtain ⟨c158,g159,hl160⟩:=SR.get hr19 h157
 obtain ⟨oa161,cap162,oa165,cap166,rfl,hc163,hr164,hc167,hr168⟩:=api_Thread_open g159
 refine rg<|qv o (e_iaI o Tryz.runUnderlying24 Tryz.sizeOf48 rfl rfl h157 (SR.oaI hr19 (by decide) h157)) fun a o=>qv o (e_ldA o isAgg48 sizeOf48 rfl rfl (fun j v hj=>PH.le.cell (fun b o hx=>(Lds.le (St.ld u)) b o ((cp hx141.sub hx37.sub) b o hx)) (hl160 j v hj))) fun a o=>ls<|a_alloc (cs:=[strv [],.slice none 0 0,.slice none 0 0,i6 0].toArray) o rfl u zeroValue48 rfl fun b169 w a u o=>ls<|s_blkA o u sizeOf48 rfl rfl rfl rfl (one_cells rfl) .head fun w u=>re<|tn<|?_
 obtain ⟨r170,h171,hm⟩:=bs hm
 refine rg<|qv o (e_ld o Tryz.isAgg105 rfl ((St.ld u).cellB t5 rfl)) fun a o=>qv o (e_fa o fa48_0 rfl) fun a o=>qv o (e_ld o isAgg9 rfl ((St.ld u).cellB t0 rfl)) fun a o=>qv o (e_fa o fa48_3 rfl) fun a o=>qv o (e_ld o isAgg3 rfl ((St.ld u).cellB t0 rfl)) fun a o=>?_
 replace u:=u.pk [2,1,2,1,0,0,0] rfl
 replace u:=St.sep [blk b31 (.cells [.map (some bB10)].toArray 75 (0,0)),gmap kS bB10 lB12 cB13,blk b33 (.cells [.bool vB16].toArray 4 (0,0)),blk b32 (.cells [i6 vB15].toArray 3 (0,0))] u
 refine ls<|k1 (vs:=[strv x156.Name,i6 4,i6 x156.At]) (caps:=[.pointer (some ⟨b31,0,none⟩),.pointer (some ⟨b33,0,none⟩),.pointer (some ⟨b32,0,none⟩)]) o rfl rfl call78 (Z6n_c (St.le u) (p4:=vB11) (b5:=b31) (mz6:=bB10) (l7:=lB12) (cz8:=cB13) (p10:=vB16) (b11:=b33) (p12:=vB15) (b13:=b32) hmB14 (St.sepOk u) (St.sepDis u) h171) ⟨rfl,rfl,rfl,trivial⟩ rfl (fun v w a hR o=>?_)
 obtain ⟨m172,l173,c174,rfl,hm175,hk⟩:=hR
 replace u:=(u.mut hk .head).unsep
 refine re<|bn<|tn<|rg<|qv o (e_add o rfl rfl) fun a o=>qm o rfl fun a o=>re<|tn<|?_
 replace u:=u.pk [1,0,1,0,1,1] rfl
 exact ⟨(nn6,r170.1,r170.2.2,r170.2.1,(IntKind.i64.wrap (vB17+1))),⟨m172,l173,c174,hm,o.hs,u,hm175⟩,Nat.lt_succ_self _⟩
 replace hm:=itp_f hm hb155
 refine tn<|th<|cfv o rfl hb155<|we<|tx<|tx<|bx<|tn<|?_
 replace u:=u.pk [0,0,0,0,1] rfl
 exact ⟨vB11,vB15,vB16,bB10,lB12,cB13,hm,o.hs,u,hmB14⟩
 rintro a w ⟨vA17,vA21,vA22,bA16,lA18,cA19,hm,o,u,hmA20⟩
 unfold Z6s at hm
 refine th<|rxS 6 u wide (by kernel_rfl) fun w u=>xq (St.ld u) o (fun w hl=>e_ld o isAgg75 rfl (hl.cellB t1 rfl)) fun a o=>xq (St.ld u) o (fun w hl=>e_ld o isAgg3 rfl (hl.cellB t2 rfl)) fun a o=>xq (St.ld u) o (fun w hl=>e_ld o isAgg4 rfl (hl.cellB t3 rfl)) fun a o=>?_
 iterate 3 refine xq (St.ld u) o (fun w hl=>e_asg o rfl) fun a o=>?_
 refine xe<|tn<|wr<|?_
 obtain rfl:=si hm
 replace u:=u.pk [4,0,0,0,0] rfl
 exact rM (.inl rfl) o u fun w u=>⟨_,res3t o rfl rfl rfl rfl,⟨bA16,lA18,cA19,rfl,hmA20,u.endFresh t0⟩⟩
 exact fun t=>t.elim
theorem Z7z_c (hH:H.le w0) {p1:Int} {r:Bool} (hm:Z7z N p1=some r):Tot Tryz.prog 117 #[.int .u8 p1] w0 (fun v w'=>v=.bool r∧Keep Nil w0 w'):=by
 unfold Z7z at hm
 refine fn0 func117 rfl ntmps117 rfl rfl fun a o=>?_
 have u:St w0 Nil [H] [] w0:=start1 hH
 refine th<|rg<|qa o rfl fun a o=>re<|tn<|th<|rg<|qm o rfl fun a o=>qv o (e_geq o rfl rfl) fun a o=>qm o rfl fun a o=>grp (N:=13) (Fk:=[(0,.int .u8 p1),(8,.bool ((decide (97≤p1)) && (decide (p1≤122))))]) (b:=(decide (97≤p1))) 3 u ?_ ?_ ?_
 intro hb key
 replace o:=Fr.as o (t:=5) rfl (congrArg Value.bool hb)
 refine qg o (e_move o rfl) fun a o=>qg o (e_leq o rfl rfl) fun a o=>qv o (e_as (v':=.bool ((decide (97≤p1)) && (decide (p1≤122)))) (e_pickT o rfl rfl) (by rw [hb];rfl)) fun a o=>?_
 exact key _ _ (o.has ⟨rfl,rfl,trivial⟩) u
 intro hb key
 replace o:=Fr.as o (t:=5) rfl (congrArg Value.bool hb)
 iterate 2 refine qn o fun a o=>?_
 refine qv o (e_as (v':=.bool ((decide (97≤p1)) && (decide (p1≤122)))) (e_pickF o rfl rfl) (by rw [hb];rfl)) fun a o=>?_
 exact key _ _ (o.has ⟨rfl,rfl,trivial⟩) u
 intro a w o u
 refine qm o rfl fun a o=>grp (N:=13) (Fk:=[(12,.bool (((decide (97≤p1)) && (decide (p1≤122))) || (decide (p1=95))))]) (b:=((decide (97≤p1)) && (decide (p1≤122)))) 3 u ?_ ?_ ?_
 intro hb key
 replace o:=Fr.as o (t:=9) rfl (congrArg Value.bool hb)
 iterate 2 refine qn o fun a o=>?_
 refine qv o (e_as (v':=.bool (((decide (97≤p1)) && (decide (p1≤122))) || (decide (p1=95)))) (e_pickT o rfl rfl) (by rw [hb];rfl)) fun a o=>?_
 exact key _ _ (o.has ⟨rfl,trivial⟩) u
 intro hb key
 replace o:=Fr.as o (t:=9) rfl (congrArg Value.bool hb)
 refine qg o (e_move o rfl) fun a o=>qg o (e_eql o rfl rfl) fun a o=>qv o (e_as (v':=.bool (((decide (97≤p1)) && (decide (p1≤122))) || (decide (p1=95)))) (e_pickF o rfl rfl) (by rw [hb];rfl)) fun a o=>?_
 exact key _ _ (o.has ⟨rfl,trivial⟩) u
 intro a w o u
 refine qa o rfl fun a o=>re<|tn<|wr<|?_
 obtain rfl:=si hm
 exact r1 o results117 rfl ⟨rfl,u.keep⟩
theorem Z7w_c (hH:H.le w0) (hT:Tab H)  {r:(List (Str×Bool))} (hm:Z7w N  = some r):Tot Tryz.prog 153 #[] w0 (fun v w'=>∃ (m0:Nat) (l0:List (Str×Value×Nat)) (c0:Nat),v=.map (some m0)∧MRel Value.bool l0 r∧Fresh w0 (gmap kS m0 l0 c0) w'):=by
 unfold Z7w at hm
 refine fn0 func153 rfl ntmps153 rfl rfl fun a o=>?_
 have u:St w0 Nil [H] [] w0:=start1 hH
 refine th<|rg<|qa o rfl fun a o=>re<|tn<|th<|rg<|ls<|a_map o rfl u fun mz1 w a u o=>?_
 replace u:=St.gmap0 (kv:=kS) u
 have hm2:MRel (κ:=Str) (β:=Bool) Value.bool [] []:=MRel.nil _
 refine qa o rfl fun a o=>re<|tn<|th<|th<|?_
 obtain ⟨rz3,h4,hm⟩:=bs hm
 refine rg<|ls<|c1 o rfl Tryz.call165 (splitM_c (hp_le _) (Tab.mono hT (St.up u)) h4) ⟨rfl,rfl,trivial⟩ (fun v w a hR o=>?_)
 obtain ⟨oa5,cap6,vs7,rfl,hv8,hk⟩:=hR
 replace u:=u.fresh hk
 replace hv8:=hv8 H
 refine qv o (e_lenL (α:=Str) (xs:=rz3) o runUnderlying36 rfl) fun a o=>qm o rfl fun a o=>re<|tn<|midK (fun a w=>∃ (vA1:(List (Str×Bool))) (lA2:List (Str×Value×Nat)) (cA3:Nat),Z7x vA1=some r∧Fr 15 [(1,.map (some mz1))] a∧St w0 Nil [H] [gmap kS mz1 lA2 cA3] w∧MRel Value.bool lA2 vA1) ?_ ?_
 replace u:=u.pk [1,0] rfl
 refine wb<|lp (α:=Nat×(List (Str×Bool))×Int) (fun (gh:Nat×(List (Str×Bool))×Int) a w=>match gh with | (nn2,vB1,vB5)=>∃ (lB2:List (Str×Value×Nat)) (cB3:Nat),(Z7y N Z7x rz3) nn2 vB1 vB5=some r∧Fr 15 [(1,.map (some mz1)),(5,.slice oa5 rz3.length cap6),(6,i6 (rz3.length:Int)),(7,i6 vB5)] a∧St w0 Nil [H] [gmap kS mz1 lB2 cB3,sla 9 1 oa5 rz3.length cap6 vs7] w∧MRel Value.bool lB2 vB1) (fun gh=>gh.1) (N,[],0) ⟨[],0,hm,o.hs,u,hm2⟩ ?_
 rintro ⟨nn2,vB1,vB5⟩ a w ⟨lB2,cB3,hm,o,u,hmB4⟩
 obtain _ | nn2:=nn2
 simp [Z7y] at hm
 rw [Z7y] at hm
 refine th<|rg<|qv o (e_lss o rfl rfl) fun a o=>re<|?_
 rcases bdich (decide (vB5 < (rz3.length:Int))) with hb10 | hb10
 replace hm:=itp_t hm hb10
 refine tn<|th<|ctv o rfl hb10<|wk<|tn<|th<|wb<|th<|?_
 obtain ⟨x11,h12,hm⟩:=bs hm
 have ho13:=Rd.oaI (u.rdO t1) hv8 (by decide) h12
 obtain ⟨c14,g15,hl16⟩:=Rows.getI hv8 h12
 obtain rfl:c14=[strv x11]:=g15
 refine rg<|qv o (e_iaI o Tryz.runUnderlying36 Tryz.sizeOf9 rfl rfl h12 ho13) fun a o=>qv o (e_ld o isAgg9 rfl ((St.ld u).elO t1 (hl16 0 _ rfl))) fun a o=>qa o rfl fun a o=>re<|tn<|rg<|qm o rfl fun a o=>qm o rfl fun a o=>ls<|m_put (ev:=Value.bool) (m:=vB1) (k:=x11) (v:=true) o u key9 runUnderlying163 rfl rfl rfl t0 hmB4 fun l17 c18 w hm19 hU=>?_
 replace u:=hU _ .head
 refine re<|bn<|tn<|rg<|qv o (e_add o rfl rfl) fun a o=>qm o rfl fun a o=>re<|tn<|?_
 exact ⟨(nn2,(pput x11 true vB1),(IntKind.i64.wrap (vB5+1))),⟨l17,c18,hm,o.hs,u,hm19⟩,Nat.lt_succ_self _⟩
 replace hm:=itp_f hm hb10
 refine tn<|th<|cfv o rfl hb10<|we<|tx<|tx<|bx<|tn<|?_
 replace u:=u.pk [0] rfl
 exact ⟨vB1,lB2,cB3,hm,o.has ⟨rfl,trivial⟩,u,hmB4⟩
 rintro a w ⟨vA1,lA2,cA3,hm,o,u,hmA4⟩
 unfold Z7x at hm
 refine th<|rg<|qm o rfl fun a o=>qa o rfl fun a o=>re<|tn<|wr<|?_
 obtain rfl:=si hm
 exact r1 o results153 rfl ⟨mz1,lA2,cA3,rfl,hmA4,u.endFresh t0⟩
theorem Z7r_c (hH:H.le w0) (hT:Tab H) {p1:Str} {r:Bool} (hm:Z7r N p1=some r):Tot Tryz.prog 118 #[strv p1] w0 (fun v w'=>v=.bool r∧Keep Nil w0 w'):=by
 unfold Z7r at hm
 refine fn0 func118 rfl ntmps118 rfl rfl fun a o=>?_
 have u:St w0 Nil [H] [] w0:=start1 hH
 refine th<|rg<|qa o rfl fun a o=>re<|tn<|th<|?_
 obtain ⟨rz2,h3,hm⟩:=bs hm
 refine rg<|ls<|c1 o rfl Tryz.call153 (Z7w_c (hp_le _) (Tab.mono hT (St.up u)) h3) trivial (fun v w a hR o=>?_)
 obtain ⟨mz4,l5,cz6,rfl,hm7,hk⟩:=hR
 replace u:=u.fresh hk
 refine qm o rfl fun a o=>qv o (e_lookM (ev:=Value.bool) (dv:=false) (m:=rz2) (k:=p1) o key9 runUnderlying163 zeroValue4 (Lds.mapO (St.ld u) t0) rfl rfl hm7) fun a o=>qa o rfl fun a o=>re<|tn<|wr<|?_
 obtain rfl:=si hm
 exact r1 o results118 rfl ⟨rfl,u.keep⟩
theorem Z7v_c (hH:H.le w0) {p1:Int} {r:Bool} (hm:Z7v N p1=some r):Tot Tryz.prog 121 #[.int .u8 p1] w0 (fun v w'=>v=.bool r∧Keep Nil w0 w'):=by
 unfold Z7v at hm
 refine fn0 func121 rfl ntmps121 rfl rfl fun a o=>?_
 have u:St w0 Nil [H] [] w0:=start1 hH
 refine th<|rg<|qa o rfl fun a o=>re<|tn<|th<|rg<|qm o rfl fun a o=>qv o (e_geq o rfl rfl) fun a o=>qm o rfl fun a o=>grp (N:=9) (Fk:=[(8,.bool ((decide (48≤p1)) && (decide (p1≤57))))]) (b:=(decide (48≤p1))) 3 u ?_ ?_ ?_
 intro hb key
 replace o:=Fr.as o (t:=5) rfl (congrArg Value.bool hb)
 refine qg o (e_move o rfl) fun a o=>qg o (e_leq o rfl rfl) fun a o=>qv o (e_as (v':=.bool ((decide (48≤p1)) && (decide (p1≤57)))) (e_pickT o rfl rfl) (by rw [hb];rfl)) fun a o=>?_
 exact key _ _ (o.has ⟨rfl,trivial⟩) u
 intro hb key
 replace o:=Fr.as o (t:=5) rfl (congrArg Value.bool hb)
 iterate 2 refine qn o fun a o=>?_
 refine qv o (e_as (v':=.bool ((decide (48≤p1)) && (decide (p1≤57)))) (e_pickF o rfl rfl) (by rw [hb];rfl)) fun a o=>?_
 exact key _ _ (o.has ⟨rfl,trivial⟩) u
 intro a w o u
 refine qa o rfl fun a o=>re<|tn<|wr<|?_
 obtain rfl:=si hm
 exact r1 o results121 rfl ⟨rfl,u.keep⟩
theorem Z7t_c (hH:H.le w0) {p1:Int} {r:Bool} (hm:Z7t N p1=some r):Tot Tryz.prog 120 #[.int .u8 p1] w0 (fun v w'=>v=.bool r∧Keep Nil w0 w'):=by
 unfold Z7t at hm
 refine fn0 func120 rfl ntmps120 rfl rfl fun a o=>?_
 have u:St w0 Nil [H] [] w0:=start1 hH
 refine th<|rg<|qa o rfl fun a o=>re<|tn<|th<|?_
 obtain ⟨rz2,h3,hm⟩:=bs hm
 rcases bdich rz2 with hb4 | hb4
 replace hm:=ite_t hm hb4
 refine rg<|qm o rfl fun a o=>ls<|cq o call117 (Z7z_c (hp_le _) h3) ⟨rfl,trivial⟩ u fun w a u o=>qv o (e_as (e_move o rfl) (congrArg Value.bool hb4)) fun a o=>?_
 iterate 2 refine qn o fun a o=>?_
 refine qv o (e_pickT o rfl rfl) fun a o=>qa o rfl fun a o=>re<|tn<|wr<|?_
 obtain rfl:=si hm
 exact r1 o results120 rfl ⟨rfl,u.keep⟩
 replace hm:=ite_f hm hb4
 obtain ⟨rz5,h6,hm⟩:=bs hm
 refine rg<|qm o rfl fun a o=>ls<|cq o call117 (Z7z_c (hp_le _) h3) ⟨rfl,trivial⟩ u fun w a u o=>qv o (e_as (e_move o rfl) (congrArg Value.bool hb4)) fun a o=>qg o (e_move o rfl) fun a o=>ls<|gy o rfl rfl<|cq o call121 (Z7v_c (hp_le _) h6) ⟨rfl,trivial⟩ u fun w a u o=>qv o (e_pickF o rfl rfl) fun a o=>qa o rfl fun a o=>re<|tn<|wr<|?_
 obtain rfl:=si hm
 exact r1 o results120 rfl ⟨rfl,u.keep⟩
theorem Z80_c (hH:H.le w0) {p1:Str} {r:Int} (hm:Z80 N p1=some r):Tot Tryz.prog 119 #[strv p1,.func (.func 120) #[] #[]] w0 (fun v w'=>v=i6 r∧Keep Nil w0 w'):=by
 unfold Z80 at hm
 refine fn0 func119 rfl ntmps119 rfl rfl fun a o=>?_
 have u:St w0 Nil [H] [] w0:=start1 hH
 refine th<|rg<|qa o rfl fun a o=>re<|tn<|th<|rg<|qa o rfl fun a o=>re<|tn<|th<|midK (fun a w=>∃ (vA1:Int),Z81 vA1=some r∧Fr 20 [(5,i6 vA1)] a∧St w0 Nil [H] [] w) ?_ ?_
 refine wb<|lp (α:=Nat×Int) (fun gh a w=>match gh with | (nn2,vB1)=>(Z83 N Z81 p1) nn2 vB1=some r∧Fr 20 [(0,strv p1),(1,.func (.func 120) #[] #[]),(5,i6 vB1)] a∧St w0 Nil [H] [] w) (fun gh=>gh.1) (N,0) ⟨hm,o.hs,u⟩ ?_
 rintro ⟨nn2,vB1⟩ a w ⟨hm,o,u⟩
 obtain _ | nn2:=nn2
 simp [Z83] at hm
 rw [Z83] at hm
 refine th<|th<|midK (fun a w=>∃ (vC1:Bool),(Z82 Z81 (Z83 N Z81 p1 nn2) vB1) vC1=some r∧Fr 20 [(0,strv p1),(1,.func (.func 120) #[] #[]),(5,i6 vB1),(16,.bool vC1)] a∧St w0 Nil [H] [] w) ?_ ?_
 rcases bdich (decide (vB1 < (p1.length:Int))) with hb2 | hb2
 replace hm:=itp_t hm hb2
 obtain ⟨xz3,h4,hm⟩:=bs hm
 obtain ⟨rz5,h6,hm⟩:=bs hm
 refine rg<|qm o rfl fun a o=>qm o rfl fun a o=>qv o (e_lenU (s:=p1) o runUnderlying9 rfl) fun a o=>qv o (e_lss o rfl rfl) fun a o=>qv o (e_as (e_move o rfl) (congrArg Value.bool hb2)) fun a o=>?_
 iterate 3 refine qg o (e_move o rfl) fun a o=>?_
 refine qg o (e_byte (s:=p1) o runUnderlying9 rfl rfl h4) fun a o=>ls<|gy o rfl rfl<|k1 (vs:=[.int .u8 xz3]) (caps:=[]) o rfl rfl call120 (Z7t_c (hp_le _) h6) ⟨rfl,trivial⟩ rfl (fun v w a hR o=>?_)
 obtain ⟨rfl,hk⟩:=hR
 replace u:=u.pass hk
 refine qv o (e_pickT o rfl rfl) fun a o=>re<|tn<|?_
 exact ⟨rz5,hm,o.hs,u⟩
 replace hm:=itp_f hm hb2
 refine rg<|qm o rfl fun a o=>qm o rfl fun a o=>qv o (e_lenU (s:=p1) o runUnderlying9 rfl) fun a o=>qv o (e_lss o rfl rfl) fun a o=>qv o (e_as (e_move o rfl) (congrArg Value.bool hb2)) fun a o=>?_
 iterate 5 refine qn o fun a o=>?_
 refine qv o (e_pickF o rfl rfl) fun a o=>re<|tn<|?_
 exact ⟨false,hm,o.hs,u⟩
 rintro a w ⟨vC1,hm,o,u⟩
 unfold Z82 at hm
 rcases bdich vC1 with hb7 | hb7
 replace hm:=ite_t hm hb7
 refine ctv o rfl hb7<|wk<|tn<|wb<|rg<|qm o rfl fun a o=>qv o (e_add o rfl rfl) fun a o=>qa o rfl fun a o=>re<|bn<|tn<|?_
 exact ⟨(nn2,(IntKind.i64.wrap (vB1+1))),⟨hm,o.hs,u⟩,Nat.lt_succ_self _⟩
 replace hm:=ite_f hm hb7
 refine cfv o rfl hb7<|we<|tx<|tx<|bx<|tn<|?_
 exact ⟨vB1,hm,o.has ⟨rfl,trivial⟩,u⟩
 rintro a w ⟨vA1,hm,o,u⟩
 unfold Z81 at hm
 refine th<|rg<|qm o rfl fun a o=>qa o rfl fun a o=>re<|tn<|wr<|?_
 obtain rfl:=si hm
 exact r1 o results119 rfl ⟨rfl,u.keep⟩
theorem Z7s_c (hH:H.le w0) (hT:Tab H) {p1:Str} {r:Bool} (hm:Z7s N p1=some r):Tot Tryz.prog 82 #[strv p1] w0 (fun v w'=>v=.bool r∧Keep Nil w0 w'):=by
 unfold Z7s at hm
 refine fn0 func82 rfl ntmps82 rfl rfl fun a o=>?_
 have u:St w0 Nil [H] [] w0:=start1 hH
 refine th<|rg<|qa o rfl fun a o=>re<|tn<|th<|th<|midK (fun a w=>∃ (vA1:Bool),(Z7u N p1) vA1=some r∧Fr 25 [(0,strv p1),(19,.bool vA1)] a∧St w0 Nil [H] [] w) ?_ ?_
 rcases bdich ((decide (p1=[])) || (decide (16 < (p1.length:Int)))) with hb2 | hb2
 replace hm:=ite_t hm hb2
 refine rg<|qm o rfl fun a o=>qv o (e_eqlU (m:=p1) (n:=[]) o rfl rfl) fun a o=>qm o rfl fun a o=>grp (N:=25) (Fk:=[(0,strv p1),(9,.bool ((decide (p1=[])) || (decide (16 < (p1.length:Int)))))]) (b:=(decide (p1=[]))) 4 u ?_ ?_ ?_
 intro hb key
 replace o:=Fr.as o (t:=5) rfl (congrArg Value.bool hb)
 iterate 3 refine qn o fun a o=>?_
 refine qv o (e_as (v':=.bool ((decide (p1=[])) || (decide (16 < (p1.length:Int))))) (e_pickT o rfl rfl) (by rw [hb];rfl)) fun a o=>?_
 exact key _ _ (o.has ⟨rfl,rfl,trivial⟩) u
 intro hb key
 replace o:=Fr.as o (t:=5) rfl (congrArg Value.bool hb)
 refine qg o (e_move o rfl) fun a o=>qg o (e_lenU (s:=p1) o runUnderlying9 rfl) fun a o=>qg o (e_gtr o rfl rfl) fun a o=>qv o (e_as (v':=.bool ((decide (p1=[])) || (decide (16 < (p1.length:Int))))) (e_pickF o rfl rfl) (by rw [hb];rfl)) fun a o=>?_
 exact key _ _ (o.has ⟨rfl,rfl,trivial⟩) u
 intro a w o u
 refine qv o (e_as (e_move o rfl) (congrArg Value.bool hb2)) fun a o=>?_
 iterate 4 refine qn o fun a o=>?_
 refine qv o (e_pickT o rfl rfl) fun a o=>qm o rfl fun a o=>?_
 iterate 2 refine qn o fun a o=>?_
 refine qv o (e_pickT o rfl rfl) fun a o=>re<|tn<|?_
 exact ⟨true,hm,o.has ⟨rfl,rfl,trivial⟩,u⟩
 replace hm:=ite_f hm hb2
 obtain ⟨xz3,h4,hm⟩:=bs hm
 obtain ⟨rz5,h6,hm⟩:=bs hm
 rcases bdich rz5 with hb7 | hb7
 replace hm:=ite_t hm hb7
 have hb7':(!rz5)=false:=by rw [hb7];rfl
 obtain ⟨rz8,h9,hm⟩:=bs hm
 refine rg<|qm o rfl fun a o=>qv o (e_eqlU (m:=p1) (n:=[]) o rfl rfl) fun a o=>qm o rfl fun a o=>grp (N:=25) (Fk:=[(0,strv p1),(9,.bool ((decide (p1=[])) || (decide (16 < (p1.length:Int)))))]) (b:=(decide (p1=[]))) 4 u ?_ ?_ ?_
 intro hb key
 replace o:=Fr.as o (t:=5) rfl (congrArg Value.bool hb)
 iterate 3 refine qn o fun a o=>?_
 refine qv o (e_as (v':=.bool ((decide (p1=[])) || (decide (16 < (p1.length:Int))))) (e_pickT o rfl rfl) (by rw [hb];rfl)) fun a o=>?_
 exact key _ _ (o.has ⟨rfl,rfl,trivial⟩) u
 intro hb key
 replace o:=Fr.as o (t:=5) rfl (congrArg Value.bool hb)
 refine qg o (e_move o rfl) fun a o=>qg o (e_lenU (s:=p1) o runUnderlying9 rfl) fun a o=>qg o (e_gtr o rfl rfl) fun a o=>qv o (e_as (v':=.bool ((decide (p1=[])) || (decide (16 < (p1.length:Int))))) (e_pickF o rfl rfl) (by rw [hb];rfl)) fun a o=>?_
 exact key _ _ (o.has ⟨rfl,rfl,trivial⟩) u
 intro a w o u
 refine qv o (e_as (e_move o rfl) (congrArg Value.bool hb2)) fun a o=>qg o (e_move o rfl) fun a o=>qg o (e_byte (s:=p1) o runUnderlying9 rfl rfl h4) fun a o=>ls<|gy o rfl rfl<|cq o call117 (Z7z_c (hp_le _) h6) ⟨rfl,trivial⟩ u fun w a u o=>qg o (e_not o rfl) fun a o=>qv o (e_pickF o rfl rfl) fun a o=>qv o (e_as (e_move o rfl) (congrArg Value.bool hb7')) fun a o=>qg o (e_move o rfl) fun a o=>ls<|gy o rfl rfl<|cq o call118 (Z7r_c (hp_le _) (Tab.mono hT (St.up u)) h9) ⟨rfl,trivial⟩ u fun w a u o=>qv o (e_pickF o rfl rfl) fun a o=>re<|tn<|?_
 exact ⟨rz8,hm,o.has ⟨rfl,rfl,trivial⟩,u⟩
 replace hm:=ite_f hm hb7
 have hb7':(!rz5)=true:=by rw [hb7];rfl
 refine rg<|qm o rfl fun a o=>qv o (e_eqlU (m:=p1) (n:=[]) o rfl rfl) fun a o=>qm o rfl fun a o=>grp (N:=25) (Fk:=[(0,strv p1),(9,.bool ((decide (p1=[])) || (decide (16 < (p1.length:Int)))))]) (b:=(decide (p1=[]))) 4 u ?_ ?_ ?_
 intro hb key
 replace o:=Fr.as o (t:=5) rfl (congrArg Value.bool hb)
 iterate 3 refine qn o fun a o=>?_
 refine qv o (e_as (v':=.bool ((decide (p1=[])) || (decide (16 < (p1.length:Int))))) (e_pickT o rfl rfl) (by rw [hb];rfl)) fun a o=>?_
 exact key _ _ (o.has ⟨rfl,rfl,trivial⟩) u
 intro hb key
 replace o:=Fr.as o (t:=5) rfl (congrArg Value.bool hb)
 refine qg o (e_move o rfl) fun a o=>qg o (e_lenU (s:=p1) o runUnderlying9 rfl) fun a o=>qg o (e_gtr o rfl rfl) fun a o=>qv o (e_as (v':=.bool ((decide (p1=[])) || (decide (16 < (p1.length:Int))))) (e_pickF o rfl rfl) (by rw [hb];rfl)) fun a o=>?_
 exact key _ _ (o.has ⟨rfl,rfl,trivial⟩) u
 intro a w o u
 refine qv o (e_as (e_move o rfl) (congrArg Value.bool hb2)) fun a o=>qg o (e_move o rfl) fun a o=>qg o (e_byte (s:=p1) o runUnderlying9 rfl rfl h4) fun a o=>ls<|gy o rfl rfl<|cq o call117 (Z7z_c (hp_le _) h6) ⟨rfl,trivial⟩ u fun w a u o=>qg o (e_not o rfl) fun a o=>qv o (e_pickF o rfl rfl) fun a o=>qv o (e_as (e_move o rfl) (congrArg Value.bool hb7')) fun a o=>?_
 iterate 2 refine qn o fun a o=>?_
 refine qv o (e_pickT o rfl rfl) fun a o=>re<|tn<|?_
 exact ⟨true,hm,o.has ⟨rfl,rfl,trivial⟩,u⟩
 rintro a w ⟨vA1,hm,o,u⟩
 unfold Z7u at hm
 rcases bdich vA1 with hb10 | hb10
 replace hm:=ite_t hm hb10
 refine ctv o rfl hb10<|th<|rg<|qa o rfl fun a o=>re<|tn<|wr<|tr<|?_
 obtain rfl:=si hm
 exact r1 o results82 rfl ⟨rfl,u.keep⟩
 replace hm:=ite_f hm hb10
 refine cfv o rfl hb10<|wk<|tn<|th<|?_
 obtain ⟨r11,h12,hm⟩:=bs hm
 refine rg<|qm o rfl fun a o=>ls<|cq o call119 (Z80_c (hp_le _) h12) ⟨rfl,rfl,trivial⟩ u fun w a u o=>qm o rfl fun a o=>qv o (e_lenU (s:=p1) o runUnderlying9 rfl) fun a o=>qv o (e_eql o rfl rfl) fun a o=>qa o rfl fun a o=>re<|tn<|wr<|?_
 obtain rfl:=si hm
 exact r1 o results82 rfl ⟨rfl,u.keep⟩
theorem Z7o_c (hH:H.le w0) {p1:Int} {r:Bool} (hm:Z7o N p1=some r):Tot Tryz.prog 86 #[i6 p1] w0 (fun v w'=>v=.bool r∧Keep Nil w0 w'):=by
 unfold Z7o at hm
 refine fn0 func86 rfl ntmps86 rfl rfl fun a o=>?_
 have u:St w0 Nil [H] [] w0:=start1 hH
 refine th<|rg<|qa o rfl fun a o=>re<|tn<|th<|rg<|qm o rfl fun a o=>qv o (e_geq o rfl rfl) fun a o=>qm o rfl fun a o=>grp (N:=9) (Fk:=[(8,.bool ((decide (0≤p1)) && (decide (p1≤4000))))]) (b:=(decide (0≤p1))) 3 u ?_ ?_ ?_
 intro hb key
 replace o:=Fr.as o (t:=5) rfl (congrArg Value.bool hb)
 refine qg o (e_move o rfl) fun a o=>qg o (e_leq o rfl rfl) fun a o=>qv o (e_as (v':=.bool ((decide (0≤p1)) && (decide (p1≤4000)))) (e_pickT o rfl rfl) (by rw [hb];rfl)) fun a o=>?_
 exact key _ _ (o.has ⟨rfl,trivial⟩) u
 intro hb key
 replace o:=Fr.as o (t:=5) rfl (congrArg Value.bool hb)
 iterate 2 refine qn o fun a o=>?_
 refine qv o (e_as (v':=.bool ((decide (0≤p1)) && (decide (p1≤4000)))) (e_pickF o rfl rfl) (by rw [hb];rfl)) fun a o=>?_
 exact key _ _ (o.has ⟨rfl,trivial⟩) u
 intro a w o u
 refine qa o rfl fun a o=>re<|tn<|wr<|?_
 obtain rfl:=si hm
 exact r1 o results86 rfl ⟨rfl,u.keep⟩
theorem Z7n_c (hH:H.le w0) (hT:Tab H) {p1:api_Cell} {y3:Int} {b2:Nat} (hb4:H b2=some (.cells [i6 y3].toArray 3 (0,0))) {r:Bool} (hm:Z7n N p1 y3=some r):Tot Tryz.prog 116 #[.agg #[strv p1.Name,i6 p1.N,i6 p1.At],.pointer (some ⟨b2,0,none⟩)] w0 (fun v w'=>v=.bool r∧Keep Nil w0 w'):=by
 unfold Z7n at hm
 refine fn0 func116 rfl ntmps116 rfl rfl fun a o=>?_
 have u:St w0 Nil [H] [] w0:=start1 hH
 refine th<|rg<|ls<|a_box (cs:=[strv p1.Name,i6 p1.N,i6 p1.At].toArray) o rfl u rfl rfl fun b5 w a u o=>qa o rfl fun a o=>re<|tn<|th<|?_
 obtain ⟨rz6,h7,hm⟩:=bs hm
 rcases bdich (((!rz6) || (decide (p1.N < 0))) || (decide (y3 < p1.N))) with hb8 | hb8
 replace hm:=ite_t hm hb8
 refine rg<|qv o (e_fa o fa53_0 rfl) fun a o=>qv o (e_ld o isAgg9 rfl ((St.ld u).cellB t0 rfl)) fun a o=>ls<|cq o call82 (Z7s_c (hp_le _) (Tab.mono hT (St.up u)) h7) ⟨rfl,trivial⟩ u fun w a u o=>qv o (e_not o rfl) fun a o=>qm o rfl fun a o=>grp (N:=25) (Fk:=[(1,.pointer (some ⟨b2,0,none⟩)),(2,.pointer (some ⟨b5,0,none⟩)),(12,.bool ((!rz6) || (decide (p1.N < 0))))]) (b:=(!rz6)) 4 u ?_ ?_ ?_
 intro hb key
 replace o:=Fr.as o (t:=8) rfl (congrArg Value.bool hb)
 iterate 3 refine qn o fun a o=>?_
 refine qv o (e_as (v':=.bool ((!rz6) || (decide (p1.N < 0)))) (e_pickT o rfl rfl) (by rw [hb];rfl)) fun a o=>?_
 exact key _ _ (o.hs) u
 intro hb key
 replace o:=Fr.as o (t:=8) rfl (congrArg Value.bool hb)
 refine qg o (e_fa o fa53_1 rfl) fun a o=>qg o (e_ld o isAgg3 rfl ((St.ld u).cellB t0 rfl)) fun a o=>qg o (e_lss o rfl rfl) fun a o=>qv o (e_as (v':=.bool ((!rz6) || (decide (p1.N < 0)))) (e_pickF o rfl rfl) (by rw [hb];rfl)) fun a o=>?_
 exact key _ _ (o.hs) u
 intro a w o u
 refine qm o rfl fun a o=>grp (N:=25) (Fk:=[(2,.pointer (some ⟨b5,0,none⟩)),(18,.bool (((!rz6) || (decide (p1.N < 0))) || (decide (y3 < p1.N))))]) (b:=((!rz6) || (decide (p1.N < 0)))) 5 u ?_ ?_ ?_
 intro hb key
 replace o:=Fr.as o (t:=13) rfl (congrArg Value.bool hb)
 iterate 4 refine qn o fun a o=>?_
 refine qv o (e_as (v':=.bool (((!rz6) || (decide (p1.N < 0))) || (decide (y3 < p1.N)))) (e_pickT o rfl rfl) (by rw [hb];rfl)) fun a o=>?_
 exact key _ _ (o.has ⟨rfl,rfl,trivial⟩) u
 intro hb key
 replace o:=Fr.as o (t:=13) rfl (congrArg Value.bool hb)
 refine qg o (e_fa o fa53_1 rfl) fun a o=>qg o (e_ld o isAgg3 rfl ((St.ld u).cellB t0 rfl)) fun a o=>qg o (e_ld o isAgg3 rfl (PH.le.cell (Lds.le (St.ld u)) (ph_cell hb4 rfl))) fun a o=>qg o (e_gtr o rfl rfl) fun a o=>qv o (e_as (v':=.bool (((!rz6) || (decide (p1.N < 0))) || (decide (y3 < p1.N)))) (e_pickF o rfl rfl) (by rw [hb];rfl)) fun a o=>?_
 exact key _ _ (o.has ⟨rfl,rfl,trivial⟩) u
 intro a w o u
 refine qv o (e_as (e_move o rfl) (congrArg Value.bool hb8)) fun a o=>?_
 iterate 4 refine qn o fun a o=>?_
 refine qv o (e_pickT o rfl rfl) fun a o=>qa o rfl fun a o=>re<|tn<|wr<|?_
 obtain rfl:=si hm
 exact r1 o results116 rfl ⟨rfl,u.keep⟩
 replace hm:=ite_f hm hb8
 obtain ⟨rz9,h10,hm⟩:=bs hm
 refine rg<|qv o (e_fa o fa53_0 rfl) fun a o=>qv o (e_ld o isAgg9 rfl ((St.ld u).cellB t0 rfl)) fun a o=>ls<|cq o call82 (Z7s_c (hp_le _) (Tab.mono hT (St.up u)) h7) ⟨rfl,trivial⟩ u fun w a u o=>qv o (e_not o rfl) fun a o=>qm o rfl fun a o=>grp (N:=25) (Fk:=[(1,.pointer (some ⟨b2,0,none⟩)),(2,.pointer (some ⟨b5,0,none⟩)),(12,.bool ((!rz6) || (decide (p1.N < 0))))]) (b:=(!rz6)) 4 u ?_ ?_ ?_
 intro hb key
 replace o:=Fr.as o (t:=8) rfl (congrArg Value.bool hb)
 iterate 3 refine qn o fun a o=>?_
 refine qv o (e_as (v':=.bool ((!rz6) || (decide (p1.N < 0)))) (e_pickT o rfl rfl) (by rw [hb];rfl)) fun a o=>?_
 exact key _ _ (o.hs) u
 intro hb key
 replace o:=Fr.as o (t:=8) rfl (congrArg Value.bool hb)
 refine qg o (e_fa o fa53_1 rfl) fun a o=>qg o (e_ld o isAgg3 rfl ((St.ld u).cellB t0 rfl)) fun a o=>qg o (e_lss o rfl rfl) fun a o=>qv o (e_as (v':=.bool ((!rz6) || (decide (p1.N < 0)))) (e_pickF o rfl rfl) (by rw [hb];rfl)) fun a o=>?_
 exact key _ _ (o.hs) u
 intro a w o u
 refine qm o rfl fun a o=>grp (N:=25) (Fk:=[(2,.pointer (some ⟨b5,0,none⟩)),(18,.bool (((!rz6) || (decide (p1.N < 0))) || (decide (y3 < p1.N))))]) (b:=((!rz6) || (decide (p1.N < 0)))) 5 u ?_ ?_ ?_
 intro hb key
 replace o:=Fr.as o (t:=13) rfl (congrArg Value.bool hb)
 iterate 4 refine qn o fun a o=>?_
 refine qv o (e_as (v':=.bool (((!rz6) || (decide (p1.N < 0))) || (decide (y3 < p1.N)))) (e_pickT o rfl rfl) (by rw [hb];rfl)) fun a o=>?_
 exact key _ _ (o.has ⟨rfl,rfl,trivial⟩) u
 intro hb key
 replace o:=Fr.as o (t:=13) rfl (congrArg Value.bool hb)
 refine qg o (e_fa o fa53_1 rfl) fun a o=>qg o (e_ld o isAgg3 rfl ((St.ld u).cellB t0 rfl)) fun a o=>qg o (e_ld o isAgg3 rfl (PH.le.cell (Lds.le (St.ld u)) (ph_cell hb4 rfl))) fun a o=>qg o (e_gtr o rfl rfl) fun a o=>qv o (e_as (v':=.bool (((!rz6) || (decide (p1.N < 0))) || (decide (y3 < p1.N)))) (e_pickF o rfl rfl) (by rw [hb];rfl)) fun a o=>?_
 exact key _ _ (o.has ⟨rfl,rfl,trivial⟩) u
 intro a w o u
 refine qv o (e_as (e_move o rfl) (congrArg Value.bool hb8)) fun a o=>qg o (e_fa o fa53_2 rfl) fun a o=>qg o (e_ld o isAgg3 rfl ((St.ld u).cellB t0 rfl)) fun a o=>ls<|gy o rfl rfl<|cq o call86 (Z7o_c (hp_le _) h10) ⟨rfl,trivial⟩ u fun w a u o=>qg o (e_not o rfl) fun a o=>qv o (e_pickF o rfl rfl) fun a o=>qa o rfl fun a o=>re<|tn<|wr<|?_
 obtain rfl:=si hm
 exact r1 o results116 rfl ⟨rfl,u.keep⟩
theorem Z8q_c (hH:H.le w0) (hT:Tab H) {oa2:Option Addr} {cap3:Nat} {p1:(List api_Cell)} (_:p1.length≤cap3) (hr5:SR H oa2 p1) {y7:Int} {b6:Nat} (hb8:H b6=some (.cells [i6 y7].toArray 3 (0,0))) {r:Int} (hm:Z8q N p1 y7=some r):Tot Tryz.prog 152 #[.slice oa2 p1.length cap3,.func (.func 116) #[] #[.pointer (some ⟨b6,0,none⟩)]] w0 (fun v w'=>v=i6 r∧Keep Nil w0 w'):=by
 unfold Z8q at hm
 refine fn0 func152 rfl ntmps152 rfl rfl fun a o=>?_
 have u:St w0 Nil [H] [] w0:=start1 hH
 refine th<|rg<|qa o rfl fun a o=>re<|tn<|th<|th<|rg<|qm o rfl fun a o=>qv o (e_lenL (α:=api_Cell) (xs:=p1) o runUnderlying23 rfl) fun a o=>qm o rfl fun a o=>re<|tn<|midK (fun a w=>Z8r=some r∧Fr 19 [] a∧St w0 Nil [H] [] w) ?_ ?_
 refine wb<|lp (α:=Nat×Int) (fun gh a w=>match gh with | (nn2,vB1)=>(Z8s N Z8r p1 y7) nn2 vB1=some r∧Fr 19 [(0,.slice oa2 p1.length cap3),(1,.func (.func 116) #[] #[.pointer (some ⟨b6,0,none⟩)]),(7,i6 (p1.length:Int)),(8,i6 vB1)] a∧St w0 Nil [H] [] w) (fun gh=>gh.1) (N,0) ⟨hm,o.hs,u⟩ ?_
 rintro ⟨nn2,vB1⟩ a w ⟨hm,o,u⟩
 obtain _ | nn2:=nn2
 simp [Z8s] at hm
 rw [Z8s] at hm
 refine th<|rg<|qv o (e_lss o rfl rfl) fun a o=>re<|?_
 rcases bdich (decide (vB1 < (p1.length:Int))) with hb9 | hb9
 replace hm:=itp_t hm hb9
 refine tn<|th<|ctv o rfl hb9<|wk<|tn<|th<|wb<|th<|rg<|qm o rfl fun a o=>qa o rfl fun a o=>re<|tn<|th<|?_
 obtain ⟨x10,h11,hm⟩:=bs hm
 obtain ⟨c12,g13,hl14⟩:=SR.get hr5 h11
 obtain rfl:=api_Cell_open g13
 obtain ⟨r15,h16,hm⟩:=bs hm
 refine rg<|qm o rfl fun a o=>?_
 iterate 2 refine qm o rfl fun a o=>?_
 refine qv o (e_iaI o runUnderlying23 sizeOf53 rfl rfl h11 (SR.oaI hr5 (by decide) h11)) fun a o=>qv o (e_ldA o isAgg53 sizeOf53 rfl rfl (fun j v hj=>PH.le.cell (Lds.le (St.ld u)) (hl14 j v hj))) fun a o=>ls<|k1 (vs:=[.agg #[strv x10.Name,i6 x10.N,i6 x10.At]]) (caps:=[.pointer (some ⟨b6,0,none⟩)]) o rfl rfl call116 (Z7n_c (hp_le _) (Tab.mono hT (St.up u)) (St.up u _ _ hb8) h16) ⟨rfl,trivial⟩ rfl (fun v w a hR o=>?_)
 obtain ⟨rfl,hk⟩:=hR
 replace u:=u.pass hk
 refine re<|?_
 rcases bdich r15 with hb17 | hb17
 replace hm:=ite_t hm hb17
 refine tn<|ctv o rfl hb17<|th<|rg<|qm o rfl fun a o=>qa o rfl fun a o=>re<|tn<|wr<|br<|tr<|tr<|br<|tr<|?_
 obtain rfl:=si hm
 exact r1 o results152 rfl ⟨rfl,u.keep⟩
 replace hm:=ite_f hm hb17
 refine tn<|cfv o rfl hb17<|wk<|bn<|tn<|rg<|qv o (e_add o rfl rfl) fun a o=>qm o rfl fun a o=>re<|tn<|?_
 exact ⟨(nn2,(IntKind.i64.wrap (vB1+1))),⟨hm,o.hs,u⟩,Nat.lt_succ_self _⟩
 replace hm:=itp_f hm hb9
 refine tn<|th<|cfv o rfl hb9<|we<|tx<|tx<|bx<|tn<|?_
 exact ⟨hm,o.has trivial,u⟩
 rintro a w ⟨hm,o,u⟩
 unfold Z8r at hm
 refine th<|rg<|qa o rfl fun a o=>re<|tn<|wr<|?_
 obtain rfl:=si hm
 exact r1 o results152 rfl ⟨rfl,u.keep⟩
theorem Z8b_c (hH:H.le w0) (hT:Tab H) {oa2:Option Addr} {cap3:Nat} {p1:(List api_Cell)} (hc4:p1.length≤cap3) (hr5:SR H oa2 p1) {y7:Int} {b6:Nat} (hb8:H b6=some (.cells [i6 y7].toArray 3 (0,0))) {r:Bool} (hm:Z8b N p1 y7=some r):Tot Tryz.prog 115 #[.slice oa2 p1.length cap3,.func (.func 116) #[] #[.pointer (some ⟨b6,0,none⟩)]] w0 (fun v w'=>v=.bool r∧Keep Nil w0 w'):=by
 unfold Z8b at hm
 refine fn0 func115 rfl ntmps115 rfl rfl fun a o=>?_
 have u:St w0 Nil [H] [] w0:=start1 hH
 refine th<|rg<|qa o rfl fun a o=>re<|tn<|th<|?_
 obtain ⟨rz9,h10,hm⟩:=bs hm
 refine rg<|qm o rfl fun a o=>qm o rfl fun a o=>ls<|cq o call152 (Z8q_c (hp_le _) (Tab.mono hT (St.up u)) hc4 (St.srH u hr5) (St.up u _ _ hb8) h10) ⟨rfl,rfl,trivial⟩ u fun w a u o=>qv o (e_geq o rfl rfl) fun a o=>qa o rfl fun a o=>re<|tn<|wr<|?_
 obtain rfl:=si hm
 exact r1 o results115 rfl ⟨rfl,u.keep⟩
end Go.LM.LB
