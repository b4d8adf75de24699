/- Walks, lifted by program. No condition beyond the theorems' own premises. -/
import Derived.Test.YtgdkaddhhpgeiaaGreatDoorLBB
import Derived.Test.YtgdkaddhhpgeiaaGreatDoorLZ
namespace Go.LM.LB
open Go Go.LL Go.MD Go.LM Go.Proofs Go.MD.LB Go.Proofs.Tryz
set_option maxRecDepth 100000
variable {N:Nat} {w0:World} {H:PH}
theorem Sg (hH:H.le w0) {S0:Option Addr} {I0:Nat} {p1:(List api_Cell)} (P1:p1.length≤I0) (Y0:SR H S0 p1) {r:(List api_Cell)} (hm:Zs N p1=some r):Tot Tryz.prog 46 #[SL S0 p1 I0] w0 (λv w'=>∃ (j0:Option Addr) (T0:Nat) (n0:List Value),v=SL j0 r T0∧(∀ h,Rows h n0 r)∧Fresh w0 (sla 53 3 j0 r.length T0 n0) w'):=by
 unfold Zs at hm
 refine fn0 func46 rfl ntmps46 rfl rfl λa o=>?_
 have u:St w0 Nil [H] [] w0:=start1 hH
 refine th<|rg<|qa o rfl λo=>re<|tn<|th<|rg<|ls<|Bh (e:=53) (sz:=3) [] o rfl u rfl rfl rfl (λw=>by kernel_rfl) λb7 w a u o=>?_
 have G1:Rows (α:=api_Cell) H [] []:=.nil
 refine qa o rfl λo=>re<|tn<|th<|th<|rg<|qa o rfl λo=>re<|tn<|Ay (λa w=>∃ (M0:(List api_Cell)) (Q0:Option Addr) (J0:Nat) (R0:List Value),Zt M0=some r∧Fr 34 [(3,SL Q0 M0 J0)] a∧St w0 Nil [H] [sla 53 3 Q0 M0.length J0 R0] w∧Rows H R0 M0) ?_ ?_
 refine wb<|lp (α:=Nat×(List api_Cell)×Int) (λgh a w=>match gh with | (O0,E0,F0)=>∃ (G0:Option Addr) (D0:Nat) (K0:List Value),(Zu N Zt p1) O0 E0 F0=some r∧Fr 34 [(0,SL S0 p1 I0),(3,SL G0 E0 D0),(4,i6 F0)] a∧St w0 Nil [H] [sla 53 3 G0 E0.length D0 K0] w∧Rows H K0 E0) (λgh=>gh.1) (N,[],0) ⟨(some ⟨b7,0,none⟩),0,[],hm,o.hs,u,G1⟩ ?_
 rintro ⟨O0,E0,F0⟩ a w ⟨G0,D0,K0,hm,o,u,U0⟩
 obtain _ | O0:=O0
 simp [Zu] at hm
 rw [Zu] at hm
 refine th<|th<|rg<|qm o rfl λo=>qm o rfl λo=>qv o (Al (α:=api_Cell) (xs:=p1) o runUnderlying23 rfl) λo=>qv o (Au o rfl rfl) λo=>qm o rfl λo=>gr (Fk:=[(0,SL S0 p1 I0),(3,SL G0 E0 D0),(4,i6 F0),(14,.bool ((decide (F0 < (p1.length:Int))) && (decide (F0 < 8))))]) 11 3 o u ?_ ?_ ?_
 intro hb o key
 exact qg o (Ab o rfl) λo=>qg o (Au o rfl rfl) λo=>qk o (Ad o rfl rfl) key u hb
 intro hb o key
 iterate 2 refine qn o λo=>?_
 exact qk o (Ae o rfl rfl) key u hb
 intro a w o u
 refine re<|?_
 rcases bit hm with ⟨V0,hm⟩ | ⟨V0,hm⟩
 refine tn<|ctv o rfl V0<|wk<|tn<|th<|wb<|th<|?_
 obtain ⟨C0,W0,hm⟩:=bs hm
 obtain ⟨Q1,I1,p0⟩:=SR.get Y0 W0
 obtain rfl:=Bl I1
 refine rg<|qm o rfl λo=>qm o rfl λo=>qv o (Aq o runUnderlying23 sizeOf53 rfl rfl W0 (SR.oaI Y0 (by decide) W0)) λo=>qv o (Ar o isAgg53 sizeOf53 rfl rfl (λj v hj=>PH.le.cell (Lds.le u.ld) (p0 j v hj))) λo=>ls<|Ap (cs:=[Ac [],i6 0,i6 0].toArray) o rfl u zeroValue53 rfl λR1 w a u o=>ls<|Aw o u sizeOf53 rfl rfl rfl rfl (Ak rfl) .head λw u=>re<|tn<|th<|?_
 obtain ⟨P0,J1,hm⟩:=bs hm
 refine rg<|qv o (Ag o Ee rfl) λo=>qv o (Ah o isAgg9 rfl (u.ld.cellB t0 rfl)) λo=>qv o (Ag o Ee rfl) λo=>qv o (Ah o isAgg9 rfl (u.ld.cellB t0 rfl)) λo=>qv o (Bj (s:=C0.Name) o runUnderlying9 rfl) λo=>qv o (Mq o rfl rfl) λo=>qv o (Gi (s:=C0.Name) (vl:=0) (vh:=(min (C0.Name.length:Int) 40)) o runUnderlying9 rfl rfl rfl J1) λo=>qv o (Ag o Ee rfl) λo=>ls<|As o u sizeOf9 rfl rfl rfl rfl .head .zero λw u=>re<|tn<|?_
 obtain ⟨M1,O1,hm⟩:=bs hm
 refine rg<|qm o rfl λo=>qv o (Ar o isAgg53 sizeOf53 rfl rfl (u.ld.cellsB t0)) λo=>ls<|Bh (e:=53) (sz:=3) [Ac P0,i6 C0.N,i6 C0.At] o rfl u rfl rfl rfl (λw=>by kernel_rfl) λS1 w a u o=>?_
 have u0:Rows (α:=api_Cell) H [Ac P0,i6 C0.N,i6 C0.At] ([(api_Cell.mk P0 C0.N C0.At)]:List api_Cell):=(.cons (c:=[Ac P0,i6 C0.N,i6 C0.At]) ⟨_,_,rfl,rfl,⟨_,_,rfl,rfl,rfl⟩⟩ .nil)
 refine ls<|Cc (α:=api_Cell) (xs:=E0) (ys:=([(api_Cell.mk P0 C0.N C0.At)]:List api_Cell)) o rfl u underlying23 Jc rfl (by decide) rfl rfl rfl t2 U0 (u.rdO t0) u0 O1 λB1 X0 C1 w a E1 hU o=>?_
 replace u:=hU _ (.tail (.tail .head))
 replace u:=u.drop .head
 refine qa o rfl λo=>re<|bn<|tn<|rg<|qm o rfl λo=>qv o (Ao o rfl rfl) λo=>qa o rfl λo=>re<|tn<|?_
 replace u:=u.pk [1] rfl
 exact ⟨(O0,M1,(IntKind.i64.wrap (F0+1))),⟨B1,X0,C1,hm,o.hs,u,E1⟩,Nat.lt_succ_self _⟩
 refine tn<|cfv o rfl V0<|we<|tx<|tx<|bx<|tn<|?_
 exact ⟨E0,G0,D0,K0,hm,o.has ⟨rfl,trivial⟩,u,U0⟩
 rintro a w ⟨M0,Q0,J0,R0,hm,o,u,F1⟩
 unfold Zt at hm
 refine th<|rg<|qm o rfl λo=>qa o rfl λo=>re<|tn<|wr<|?_
 obtain rfl:=si hm
 exact r1 o results46 rfl ⟨_,_,_,rfl,(λ_=>Rows.ind F1),u.endFresh t0⟩
theorem Jae (hH:H.le w0) {S0:Option Addr} {I0:Nat} {p1:(List api_Node)} (_:p1.length≤I0) (Y0:SR H S0 p1) {r:(List api_Node)} (hm:Zg N p1=some r):Tot Tryz.prog 48 #[SL S0 p1 I0] w0 (λv w'=>∃ (j0:Option Addr) (T0:Nat) (n0:List Value),v=SL j0 r T0∧(∀ h,Rows h n0 r)∧Fresh w0 (sla 90 4 j0 r.length T0 n0) w'):=by
 unfold Zg at hm
 refine fn0 func48 rfl ntmps48 rfl rfl λa o=>?_
 have u:St w0 Nil [H] [] w0:=start1 hH
 refine th<|rg<|qa o rfl λo=>re<|tn<|th<|rg<|ls<|Bh (e:=90) (sz:=4) [] o rfl u rfl rfl rfl (λw=>by kernel_rfl) λb7 w a u o=>?_
 have G1:Rows (α:=api_Node) H [] []:=.nil
 refine qa o rfl λo=>re<|tn<|th<|th<|rg<|qa o rfl λo=>re<|tn<|Ay (λa w=>∃ (M0:(List api_Node)) (Q0:Option Addr) (J0:Nat) (R0:List Value),Zh M0=some r∧Fr 34 [(3,SL Q0 M0 J0)] a∧St w0 Nil [H] [sla 90 4 Q0 M0.length J0 R0] w∧Rows H R0 M0) ?_ ?_
 refine wb<|lp (α:=Nat×(List api_Node)×Int) (λgh a w=>match gh with | (O0,E0,F0)=>∃ (G0:Option Addr) (D0:Nat) (K0:List Value),(Zi N Zh p1) O0 E0 F0=some r∧Fr 34 [(0,SL S0 p1 I0),(3,SL G0 E0 D0),(4,i6 F0)] a∧St w0 Nil [H] [sla 90 4 G0 E0.length D0 K0] w∧Rows H K0 E0) (λgh=>gh.1) (N,[],0) ⟨(some ⟨b7,0,none⟩),0,[],hm,o.hs,u,G1⟩ ?_
 rintro ⟨O0,E0,F0⟩ a w ⟨G0,D0,K0,hm,o,u,U0⟩
 obtain _ | O0:=O0
 simp [Zi] at hm
 rw [Zi] at hm
 refine th<|th<|rg<|qm o rfl λo=>qm o rfl λo=>qv o (Al (α:=api_Node) (xs:=p1) o runUnderlying49 rfl) λo=>qv o (Au o rfl rfl) λo=>qm o rfl λo=>gr (Fk:=[(0,SL S0 p1 I0),(3,SL G0 E0 D0),(4,i6 F0),(14,.bool ((decide (F0 < (p1.length:Int))) && (decide (F0 < 60))))]) 11 3 o u ?_ ?_ ?_
 intro hb o key
 exact qg o (Ab o rfl) λo=>qg o (Au o rfl rfl) λo=>qk o (Ad o rfl rfl) key u hb
 intro hb o key
 iterate 2 refine qn o λo=>?_
 exact qk o (Ae o rfl rfl) key u hb
 intro a w o u
 refine re<|?_
 rcases bit hm with ⟨V0,hm⟩ | ⟨V0,hm⟩
 refine tn<|ctv o rfl V0<|wk<|tn<|th<|wb<|th<|?_
 obtain ⟨C0,W0,hm⟩:=bs hm
 obtain ⟨P1,I1,p0⟩:=SR.get Y0 W0
 obtain rfl:=Bq I1
 refine rg<|qm o rfl λo=>qm o rfl λo=>qv o (Aq o runUnderlying49 sizeOf90 rfl rfl W0 (SR.oaI Y0 (by decide) W0)) λo=>qv o (Ar o isAgg90 sizeOf90 rfl rfl (λj v hj=>PH.le.cell (Lds.le u.ld) (p0 j v hj))) λo=>ls<|Ap (cs:=[i6 0,i6 0,Ac [],i6 0].toArray) o rfl u zeroValue90 rfl λQ1 w a u o=>ls<|Aw o u sizeOf90 rfl rfl rfl rfl (Ak rfl) .head λw u=>re<|tn<|th<|?_
 obtain ⟨P0,J1,hm⟩:=bs hm
 refine rg<|qv o (Ag o Gn rfl) λo=>qv o (Ah o isAgg9 rfl (u.ld.cellB t0 rfl)) λo=>qv o (Ag o Gn rfl) λo=>qv o (Ah o isAgg9 rfl (u.ld.cellB t0 rfl)) λo=>qv o (Bj (s:=C0.Name) o runUnderlying9 rfl) λo=>qv o (Mq o rfl rfl) λo=>qv o (Gi (s:=C0.Name) (vl:=0) (vh:=(min (C0.Name.length:Int) 40)) o runUnderlying9 rfl rfl rfl J1) λo=>qv o (Ag o Gn rfl) λo=>ls<|As o u sizeOf9 rfl rfl rfl rfl .head (.succ (.succ .zero)) λw u=>re<|tn<|?_
 obtain ⟨M1,O1,hm⟩:=bs hm
 refine rg<|qm o rfl λo=>qv o (Ar o isAgg90 sizeOf90 rfl rfl (u.ld.cellsB t0)) λo=>ls<|Bh (e:=90) (sz:=4) [i6 C0.Op,i6 C0.N,Ac P0,i6 C0.At] o rfl u rfl rfl rfl (λw=>by kernel_rfl) λR1 w a u o=>?_
 have u0:Rows (α:=api_Node) H [i6 C0.Op,i6 C0.N,Ac P0,i6 C0.At] ([(api_Node.mk C0.Op C0.N P0 C0.At)]:List api_Node):=(.cons (c:=[i6 C0.Op,i6 C0.N,Ac P0,i6 C0.At]) ⟨_,_,rfl,rfl,⟨_,_,rfl,rfl,⟨_,_,rfl,rfl,rfl⟩⟩⟩ .nil)
 refine ls<|Cc (α:=api_Node) (xs:=E0) (ys:=([(api_Node.mk C0.Op C0.N P0 C0.At)]:List api_Node)) o rfl u underlying49 Nu rfl (by decide) rfl rfl rfl t2 U0 (u.rdO t0) u0 O1 λB1 X0 C1 w a E1 hU o=>?_
 replace u:=hU _ (.tail (.tail .head))
 replace u:=u.drop .head
 refine qa o rfl λo=>re<|bn<|tn<|rg<|qm o rfl λo=>qv o (Ao o rfl rfl) λo=>qa o rfl λo=>re<|tn<|?_
 replace u:=u.pk [1] rfl
 exact ⟨(O0,M1,(IntKind.i64.wrap (F0+1))),⟨B1,X0,C1,hm,o.hs,u,E1⟩,Nat.lt_succ_self _⟩
 refine tn<|cfv o rfl V0<|we<|tx<|tx<|bx<|tn<|?_
 exact ⟨E0,G0,D0,K0,hm,o.has ⟨rfl,trivial⟩,u,U0⟩
 rintro a w ⟨M0,Q0,J0,R0,hm,o,u,F1⟩
 unfold Zh at hm
 refine th<|rg<|qm o rfl λo=>qa o rfl λo=>re<|tn<|wr<|?_
 obtain rfl:=si hm
 exact r1 o results48 rfl ⟨_,_,_,rfl,(λ_=>Rows.ind F1),u.endFresh t0⟩
theorem Jbf (hH:H.le w0) {E1:Option Addr} {K0:Nat} {p1:(List api_Stmt)} (_:p1.length≤K0) (Q1:SR H E1 p1) {r:(List api_Stmt)} (hm:Zj N p1=some r):Tot Tryz.prog 43 #[SL E1 p1 K0] w0 (λv w'=>∃ (H':PH) (R1:Option Addr) (G1:Nat),v=SL R1 r G1∧r.length≤G1∧SR H' R1 r∧Ext w0 H H'∧H'.le w'∧Keep Nil w0 w'):=by
 unfold Zj at hm
 refine fn0 func43 rfl ntmps43 rfl rfl λa o=>?_
 have u:St w0 Nil [H] [] w0:=start1 hH
 refine th<|rg<|qa o rfl λo=>re<|tn<|th<|rg<|ls<|Bh (e:=51) (sz:=9) [] o rfl u rfl rfl rfl (λw=>by kernel_rfl) λb7 w a u o=>?_
 have Q2:Rows (α:=api_Stmt) H [] []:=.nil
 refine qa o rfl λo=>re<|tn<|th<|th<|rg<|qa o rfl λo=>re<|tn<|Ay (λa w=>∃ (R0:(List api_Stmt)) (F1:PH) (X0:Option Addr) (M0:Nat) (Y0:List Value),Zk R0=some r∧Ext w0 H F1∧Fr 50 [(3,SL X0 R0 M0)] a∧St w0 Nil [F1] [sla 51 9 X0 R0.length M0 Y0] w∧Rows F1 Y0 R0) ?_ ?_
 refine wb<|lp (α:=Nat×(List api_Stmt)×Int) (λgh a w=>match gh with | (S0,F0,G0)=>∃ (I0:PH) (J0:Option Addr) (D0:Nat) (O0:List Value),(Zl N Zk p1) S0 F0 G0=some r∧Ext w0 H I0∧Fr 50 [(0,SL E1 p1 K0),(3,SL J0 F0 D0),(4,i6 G0)] a∧St w0 Nil [I0] [sla 51 9 J0 F0.length D0 O0] w∧Rows I0 O0 F0) (λgh=>gh.1) (N,[],0) ⟨H,(some ⟨b7,0,none⟩),0,[],hm,(Ext.refl _ _),o.hs,u,Q2⟩ ?_
 rintro ⟨S0,F0,G0⟩ a w ⟨I0,J0,D0,O0,hm,E0,o,u,I1⟩
 obtain _ | S0:=S0
 simp [Zl] at hm
 rw [Zl] at hm
 refine th<|th<|rg<|qm o rfl λo=>qm o rfl λo=>qv o (Al (α:=api_Stmt) (xs:=p1) o runUnderlying46 rfl) λo=>qv o (Au o rfl rfl) λo=>qm o rfl λo=>gr (Fk:=[(0,SL E1 p1 K0),(3,SL J0 F0 D0),(4,i6 G0),(14,.bool ((decide (G0 < (p1.length:Int))) && (decide (G0 < 50))))]) 11 3 o u ?_ ?_ ?_
 intro hb o key
 exact qg o (Ab o rfl) λo=>qg o (Au o rfl rfl) λo=>qk o (Ad o rfl rfl) key u hb
 intro hb o key
 iterate 2 refine qn o λo=>?_
 exact qk o (Ae o rfl rfl) key u hb
 intro a w o u
 refine re<|?_
 rcases bit hm with ⟨J1,hm⟩ | ⟨J1,hm⟩
 refine tn<|ctv o rfl J1<|wk<|tn<|th<|wb<|th<|?_
 obtain ⟨C0,M1,hm⟩:=bs hm
 obtain ⟨G3,R2,S1⟩:=SR.get Q1 M1
 obtain ⟨C3,A3,D3,B3,rfl,T1,U1,V1,X1⟩:=Ce R2
 refine rg<|qm o rfl λo=>qm o rfl λo=>qv o (Aq o runUnderlying46 sizeOf51 rfl rfl M1 (SR.oaI Q1 (by decide) M1)) λo=>qv o (Ar o isAgg51 sizeOf51 rfl rfl (λj v hj=>PH.le.cell (λb o hx=>(Lds.le u.ld) b o (E0.sub b o hx)) (S1 j v hj))) λo=>ls<|Ap (cs:=[i6 0,Ac [],Ac [],.slice none 0 0,.slice none 0 0,i6 0,i6 0,i6 0,i6 0].toArray) o rfl u zeroValue51 rfl λI3 w a u o=>ls<|Aw o u sizeOf51 rfl rfl rfl rfl (Ak rfl) .head λw u=>re<|tn<|th<|?_
 obtain ⟨T0,T2,hm⟩:=bs hm
 refine rg<|qv o (Ag o Dn rfl) λo=>qv o (Ah o isAgg9 rfl (u.ld.cellB t0 rfl)) λo=>qv o (Ag o Dn rfl) λo=>qv o (Ah o isAgg9 rfl (u.ld.cellB t0 rfl)) λo=>qv o (Bj (s:=C0.Reg) o runUnderlying9 rfl) λo=>qv o (Mq o rfl rfl) λo=>qv o (Gi (s:=C0.Reg) (vl:=0) (vh:=(min (C0.Reg.length:Int) 40)) o runUnderlying9 rfl rfl rfl T2) λo=>qv o (Ag o Dn rfl) λo=>ls<|As o u sizeOf9 rfl rfl rfl rfl .head (.succ .zero) λw u=>re<|tn<|th<|?_
 obtain ⟨U0,U2,hm⟩:=bs hm
 refine rg<|qv o (Ag o Du rfl) λo=>qv o (Ah o isAgg9 rfl (u.ld.cellB t0 rfl)) λo=>qv o (Ag o Du rfl) λo=>qv o (Ah o isAgg9 rfl (u.ld.cellB t0 rfl)) λo=>qv o (Bj (s:=C0.Name) o runUnderlying9 rfl) λo=>qv o (Mq o rfl rfl) λo=>qv o (Gi (s:=C0.Name) (vl:=0) (vh:=(min (C0.Name.length:Int) 40)) o runUnderlying9 rfl rfl rfl U2) λo=>qv o (Ag o Du rfl) λo=>ls<|As o u sizeOf9 rfl rfl rfl rfl .head (.succ (.succ .zero)) λw u=>re<|tn<|th<|?_
 obtain ⟨V0,V2,hm⟩:=bs hm
 refine rg<|qv o (Ag o Ew rfl) λo=>qv o (Ah o isAgg49 rfl (u.ld.cellB t0 rfl)) λo=>ls<|c1 o rfl call48 (Jae (Ai _) T1 (St.srH u (U1.mono E0.sub)) V2) ⟨rfl,trivial⟩ (λv w a hR o=>?_)
 obtain ⟨j0,P0,E3,rfl,n0,hk⟩:=hR
 replace u:=u.fresh hk
 replace n0:=n0 I0
 refine qv o (Ag o Ew rfl) λo=>ls<|As o u sizeOf49 rfl rfl rfl rfl (.tail .head) (.succ (.succ (.succ .zero))) λw u=>re<|tn<|th<|?_
 obtain ⟨W0,W2,hm⟩:=bs hm
 refine rg<|qv o (Ag o Ll rfl) λo=>qv o (Ah o isAgg49 rfl (u.ld.cellB t1 rfl)) λo=>ls<|c1 o rfl call48 (Jae (Ai _) V1 (St.srH u (X1.mono E0.sub)) W2) ⟨rfl,trivial⟩ (λv w a hR o=>?_)
 obtain ⟨p0,Q0,F3,rfl,u0,hk⟩:=hR
 replace u:=u.fresh hk
 replace u0:=u0 I0
 refine qv o (Ag o Ll rfl) λo=>ls<|As o u sizeOf49 rfl rfl rfl rfl (.tail (.tail .head)) (.succ (.succ (.succ (.succ .zero)))) λw u=>re<|tn<|?_
 obtain ⟨X2,Y2,hm⟩:=bs hm
 refine rg<|qm o rfl λo=>qv o (Ar o isAgg51 sizeOf51 rfl rfl (u.ld.cellsB t2)) λo=>?_
 obtain ⟨H45,B1,Y1,B2,u⟩:=St.frzS u (.tail .head) n0
 obtain ⟨H49,C1,C2,E2,u⟩:=St.frzS u .head (u0.mono B1.sub)
 refine ls<|Bh (e:=51) (sz:=9) [i6 C0.Kind,Ac T0,Ac U0,SL j0 V0 P0,SL p0 W0 Q0,i6 C0.N,i6 C0.Body,i6 C0.Else,i6 C0.At] o rfl u rfl rfl rfl (λw=>by kernel_rfl) λJ3 w a u o=>?_
 have F2:Rows (α:=api_Stmt) H49 [i6 C0.Kind,Ac T0,Ac U0,SL j0 V0 P0,SL p0 W0 Q0,i6 C0.N,i6 C0.Body,i6 C0.Else,i6 C0.At] ([(api_Stmt.mk C0.Kind T0 U0 V0 W0 C0.N C0.Body C0.Else C0.At)]:List api_Stmt):=(.cons (c:=[i6 C0.Kind,Ac T0,Ac U0,SL j0 V0 P0,SL p0 W0 Q0,i6 C0.N,i6 C0.Body,i6 C0.Else,i6 C0.At]) ⟨_,_,rfl,rfl,⟨_,_,rfl,rfl,⟨_,_,rfl,rfl,⟨_,_,rfl,⟨_,_,rfl,B2,(Y1.mono C1.sub)⟩,⟨_,_,rfl,⟨_,_,rfl,E2,C2⟩,⟨_,_,rfl,rfl,⟨_,_,rfl,rfl,⟨_,_,rfl,rfl,rfl⟩⟩⟩⟩⟩⟩⟩⟩ .nil)
 refine ls<|Cc (α:=api_Stmt) (xs:=F0) (ys:=([(api_Stmt.mk C0.Kind T0 U0 V0 W0 C0.N C0.Body C0.Else C0.At)]:List api_Stmt)) o rfl u underlying46 Nn rfl (by decide) rfl rfl rfl t2 (I1.mono (cp C1.sub B1.sub)) (u.rdO t0) F2 Y2 λG2 O1 I2 w a J2 hU o=>?_
 replace u:=hU _ (.tail (.tail .head))
 replace u:=u.drop .head
 refine qa o rfl λo=>re<|bn<|tn<|rg<|qm o rfl λo=>qv o (Ao o rfl rfl) λo=>qa o rfl λo=>re<|tn<|?_
 replace u:=u.pk [1] rfl
 exact ⟨(S0,X2,(IntKind.i64.wrap (G0+1))),⟨H49,G2,O1,I2,hm,(Ext.trans E0 (Ext.trans B1 C1)),o.hs,u,J2⟩,Nat.lt_succ_self _⟩
 refine tn<|cfv o rfl J1<|we<|tx<|tx<|bx<|tn<|?_
 exact ⟨F0,I0,J0,D0,O0,hm,E0,o.has ⟨rfl,trivial⟩,u,I1⟩
 rintro a w ⟨R0,F1,X0,M0,Y0,hm,P1,o,u,K2⟩
 unfold Zk at hm
 refine th<|rg<|qm o rfl λo=>qa o rfl λo=>re<|tn<|wr<|?_
 obtain ⟨H62,M2,O2,P2,u⟩:=St.frzS u .head K2
 obtain rfl:=si hm
 exact r1 o results43 rfl ⟨H62,_,_,rfl,P2,O2,(Ext.trans P1 M2),(St.le u),u.keep⟩
set_option maxHeartbeats 4000000 in
theorem Nf (hH:H.le w0) {T0:Option Addr} {M0:Nat} {p1:(List api_Thread)} (Q4:p1.length≤M0) (U0:SR H T0 p1) {r:(List api_Thread)} (hm:Zv N p1=some r):Tot Tryz.prog 47 #[SL T0 p1 M0] w0 (λv w'=>∃ (H':PH) (V2:Option Addr) (I2:Nat),v=SL V2 r I2∧r.length≤I2∧SR H' V2 r∧Ext w0 H H'∧H'.le w'∧Keep Nil w0 w'):=by
 unfold Zv at hm
 refine fn0 func47 rfl ntmps47 rfl rfl λa o=>?_
 have u:St w0 Nil [H] [] w0:=start1 hH
 refine th<|rg<|qa o rfl λo=>re<|tn<|th<|rg<|ls<|Bh (e:=48) (sz:=4) [] o rfl u rfl rfl rfl (λw=>by kernel_rfl) λb7 w a u o=>?_
 have Q3:Rows (α:=api_Thread) H [] []:=.nil
 refine qa o rfl λo=>re<|tn<|th<|th<|rg<|qa o rfl λo=>re<|tn<|Ay (λa w=>∃ (M1:(List api_Thread)) (F2:PH) (S1:Option Addr) (F1:Nat) (T1:List Value),Zw M1=some r∧Ext w0 H F2∧Fr 86 [(3,SL S1 M1 F1)] a∧St w0 Nil [F2] [sla 48 4 S1 M1.length F1 T1] w∧Rows F2 T1 M1) ?_ ?_
 refine wb<|lp (α:=Nat×(List api_Thread)×Int) (λgh a w=>match gh with | (V0,F0,G0)=>∃ (j0:PH) (I0:Option Addr) (D0:Nat) (R0:List Value),(Z10 N Zw p1) V0 F0 G0=some r∧Ext w0 H j0∧Fr 86 [(0,SL T0 p1 M0),(3,SL I0 F0 D0),(4,i6 G0)] a∧St w0 Nil [j0] [sla 48 4 I0 F0.length D0 R0] w∧Rows j0 R0 F0) (λgh=>gh.1) (N,[],0) ⟨H,(some ⟨b7,0,none⟩),0,[],hm,(Ext.refl _ _),o.hs,u,Q3⟩ ?_
 rintro ⟨V0,F0,G0⟩ a w ⟨j0,I0,D0,R0,hm,C0,o,u,J2⟩
 obtain _ | V0:=V0
 simp [Z10] at hm
 rw [Z10] at hm
 refine th<|th<|rg<|qm o rfl λo=>qm o rfl λo=>qv o (Al (α:=api_Thread) (xs:=p1) o runUnderlying24 rfl) λo=>qv o (Au o rfl rfl) λo=>qm o rfl λo=>gr (Fk:=[(0,SL T0 p1 M0),(3,SL I0 F0 D0),(4,i6 G0),(15,.bool ((decide (G0 < (p1.length:Int))) && (decide (G0 < 4))))]) 12 3 o u ?_ ?_ ?_
 intro hb o key
 exact qg o (Ab o rfl) λo=>qg o (Au o rfl rfl) λo=>qk o (Ad o rfl rfl) key u hb
 intro hb o key
 iterate 2 refine qn o λo=>?_
 exact qk o (Ae o rfl rfl) key u hb
 intro a w o u
 refine re<|?_
 rcases bit hm with ⟨K2,hm⟩ | ⟨K2,hm⟩
 refine tn<|ctv o rfl K2<|wk<|tn<|th<|Ay (λa w=>∃ (B1:(List api_Thread)) (O1:PH) (G1:Option Addr) (Y0:Nat) (I1:List Value),(Zx (Z10 N Zw p1 V0) G0) B1=some r∧Ext w0 j0 O1∧Fr 86 [(0,SL T0 p1 M0),(3,SL G1 B1 Y0),(4,i6 G0)] a∧St w0 Nil [O1] [sla 48 4 G1 B1.length Y0 I1] w∧Rows O1 I1 B1) ?_ ?_
 refine wb<|th<|Ay (λa w=>∃ (P0:Str) (J0:(List api_Stmt)) (Q0:Int) (HD1:PH) (bD2:Nat) (oaD5:Option Addr) (capD6:Nat),(Zy N (Zx (Z10 N Zw p1 V0) G0) p1 F0 G0) P0 J0 Q0=some r∧Ext w0 j0 HD1∧Fr 86 [(0,SL T0 p1 M0),(3,SL I0 F0 D0),(4,i6 G0),(5,PT bD2)] a∧St w0 Nil [HD1] [sla 48 4 I0 F0.length D0 R0,bk bD2 [Ac P0,.slice none 0 0,SL oaD5 J0 capD6,i6 Q0] 48] w∧J0.length≤capD6∧SR HD1 oaD5 J0) ?_ ?_
 obtain ⟨W0,X0,hm⟩:=bs hm
 obtain ⟨R4,R3,J1⟩:=SR.get U0 X0
 obtain ⟨F4,B4,G4,C4,rfl,I4,J4,M2,O2⟩:=Az R3
 obtain ⟨C1,S3,hm⟩:=bs hm
 obtain ⟨E1,W2,hm⟩:=bs hm
 refine rdS 26 u wide λw u=>dr 0 u o rfl (Ab o rfl) λo=>dr 1 u o rfl (Ab o rfl) λo=>dr 2 u o rfl (Aq o runUnderlying24 sizeOf48 rfl rfl X0 (SR.oaI U0 (by decide) X0)) λo=>dr 3 u o rfl (Ag o Fo rfl) λo=>dq 4 u.ld o rfl (λw hl=>Ah o isAgg9 rfl (PH.le.cell (λb o hx=>(Lds.le hl) b o (C0.sub b o hx)) (J1 0 _ rfl))) λo=>dr 5 u o rfl (Ab o rfl) λo=>dr 6 u o rfl (Ab o rfl) λo=>dr 7 u o rfl (Aq o runUnderlying24 sizeOf48 rfl rfl X0 (SR.oaI U0 (by decide) X0)) λo=>dr 8 u o rfl (Ag o Fo rfl) λo=>dq 9 u.ld o rfl (λw hl=>Ah o isAgg9 rfl (PH.le.cell (λb o hx=>(Lds.le hl) b o (C0.sub b o hx)) (J1 0 _ rfl))) λo=>dr 10 u o rfl (Bj (s:=W0.Name) o runUnderlying9 rfl) λo=>dr 11 u o rfl (Mq o rfl rfl) λo=>dr 12 u o rfl (Gi (s:=W0.Name) (vl:=0) (vh:=(min (W0.Name.length:Int) 40)) o runUnderlying9 rfl rfl rfl S3) λo=>dr 13 u o rfl (Ab o rfl) λo=>dr 14 u o rfl (Ab o rfl) λo=>dr 15 u o rfl (Aq o runUnderlying24 sizeOf48 rfl rfl X0 (SR.oaI U0 (by decide) X0)) λo=>dr 16 u o rfl (Ag o Iu rfl) λo=>dq 17 u.ld o rfl (λw hl=>Ah o isAgg3 rfl (PH.le.cell (λb o hx=>(Lds.le hl) b o (C0.sub b o hx)) (J1 3 _ rfl))) λo=>dr 18 u o rfl (Ab o rfl) λo=>dr 19 u o rfl (Ab o rfl) λo=>dr 20 u o rfl (Aq o runUnderlying24 sizeOf48 rfl rfl X0 (SR.oaI U0 (by decide) X0)) λo=>dr 21 u o rfl (Ag o Lj rfl) λo=>dq 22 u.ld o rfl (λw hl=>Ah o isAgg46 rfl (PH.le.cell (λb o hx=>(Lds.le hl) b o (C0.sub b o hx)) (J1 2 _ rfl))) λo=>da2 (i:=23) (j:=25) (by kernel_rfl) ?_ ?_
 refine di (i:=23) rfl<|c1 o rfl call43 (Jbf (St.le u) M2 (O2.mono C0.sub) W2) ⟨rfl,trivial⟩ (λv w a hR o=>?_)
 obtain ⟨H30,S0,O0,rfl,U1,V1,E0,X1,hk⟩:=hR
 obtain ⟨u,E0⟩:=And.intro (St.passH u hk E0 X1) (St.extc u E0)
 refine ⟨λ_=>(St.ldsX u E0.sub i1),?_⟩
 refine dq 24 (St.ldsX u E0.sub i1) o rfl (λw hl=>Bi [Ac C1,i6 W0.At,SL S0 E1 O0] [Ac C1,.slice none 0 0,SL S0 E1 O0,i6 W0.At] o ⟨rfl,rfl,rfl,trivial⟩ (λw=>by kernel_rfl)) λo=>da1 (i:=25) (by kernel_rfl) ?_
 refine di (i:=25) rfl<|Ap (cs:=[Ac [],.slice none 0 0,.slice none 0 0,i6 0].toArray) o rfl u zeroValue48 rfl λP2 w a u o=>⟨λ_=>(St.ldsX u E0.sub ta1),?_⟩
 refine da1 (i:=26) (by kernel_rfl) ?_
 refine di (i:=26) rfl<|Aw o u sizeOf48 rfl rfl rfl rfl (Ak rfl) .head λw u=>⟨λh=>absurd rfl h,?_⟩
 refine de (by kernel_rfl)<|tn<|?_
 replace u:=u.pk [1,0] rfl
 exact ⟨C1,E1,W0.At,H30,P2,S0,O0,hm,E0,o.hs,u,U1,V1⟩
 refine di (i:=25) rfl<|Ap (cs:=[Ac [],.slice none 0 0,.slice none 0 0,i6 0].toArray) o rfl u zeroValue48 rfl λP2 w a u o=>⟨λ_=>(St.ldsX u i2 ta1),?_⟩
 refine da1 (i:=23) (by kernel_rfl) ?_
 refine di (i:=23) rfl<|c1 o rfl call43 (Jbf (St.le u) M2 (O2.mono C0.sub) W2) ⟨rfl,trivial⟩ (λv w a hR o=>?_)
 obtain ⟨H30,S0,O0,rfl,U1,V1,E0,X1,hk⟩:=hR
 obtain ⟨u,E0⟩:=And.intro (St.passH u hk E0 X1) (St.extc u E0)
 refine ⟨λ_=>(St.ldsX u E0.sub ta1),?_⟩
 refine dq 24 (St.ldsX u E0.sub ta1) o rfl (λw hl=>Bi [Ac C1,i6 W0.At,SL S0 E1 O0] [Ac C1,.slice none 0 0,SL S0 E1 O0,i6 W0.At] o ⟨rfl,rfl,rfl,trivial⟩ (λw=>by kernel_rfl)) λo=>da1 (i:=26) (by kernel_rfl) ?_
 refine di (i:=26) rfl<|Aw o u sizeOf48 rfl rfl rfl rfl (Ak rfl) .head λw u=>⟨λh=>absurd rfl h,?_⟩
 refine de (by kernel_rfl)<|tn<|?_
 replace u:=u.pk [1,0] rfl
 exact ⟨C1,E1,W0.At,H30,P2,S0,O0,hm,E0,o.hs,u,U1,V1⟩
 rintro a w ⟨P0,J0,Q0,HD1,bD2,oaD5,capD6,hm,hxHD1,o,u,hcD7,hrD8⟩
 unfold Zy at hm
 refine th<|th<|rg<|qa o rfl λo=>re<|tn<|Ay (λa w=>∃ (K0:(List Str)) (oaD11:Option Addr) (capD12:Nat) (vsD13:List Value),(Zz (Zx (Z10 N Zw p1 V0) G0) P0 J0 Q0 F0) K0=some r∧Fr 86 [(0,SL T0 p1 M0),(3,SL I0 F0 D0),(4,i6 G0),(5,PT bD2)] a∧St w0 Nil [HD1] [sla 48 4 I0 F0.length D0 R0,sla 9 1 oaD11 K0.length capD12 vsD13,bk bD2 [Ac P0,SL oaD11 K0 capD12,SL oaD5 J0 capD6,i6 Q0] 48] w∧Rows HD1 vsD13 K0) ?_ ?_
 replace u:=u.nilS 9 1
 replace u:=u.pk [1,0,0] rfl
 refine wb<|lp (α:=Nat×(List Str)×Int) (λgh a w=>match gh with | (P1,n0,p0)=>∃ (oaE2:Option Addr) (capE3:Nat) (vsE4:List Value),(Z11 N (Zz (Zx (Z10 N Zw p1 V0) G0) P0 J0 Q0 F0) p1 G0) P1 n0 p0=some r∧Fr 86 [(0,SL T0 p1 M0),(3,SL I0 F0 D0),(4,i6 G0),(5,PT bD2),(6,i6 p0)] a∧St w0 Nil [HD1] [sla 48 4 I0 F0.length D0 R0,sla 9 1 oaE2 n0.length capE3 vsE4,bk bD2 [Ac P0,SL oaE2 n0 capE3,SL oaD5 J0 capD6,i6 Q0] 48] w∧Rows HD1 vsE4 n0) (λgh=>gh.1) (N,[],0) ⟨none,0,[],hm,o.hs,u,.nil⟩ ?_
 rintro ⟨P1,n0,p0⟩ a w ⟨oaE2,capE3,vsE4,hm,o,u,hvE5⟩
 obtain _ | P1:=P1
 simp [Z11] at hm
 rw [Z11] at hm
 refine th<|th<|?_
 obtain ⟨X2,u0,hm⟩:=bs hm
 obtain ⟨S4,T3,Y1⟩:=SR.get U0 u0
 obtain ⟨K4,D4,L4,E4,rfl,M4,B2,O4,P4⟩:=Az T3
 refine rg<|qm o rfl λo=>?_
 iterate 2 refine qm o rfl λo=>?_
 refine qv o (Aq o runUnderlying24 sizeOf48 rfl rfl u0 (SR.oaI U0 (by decide) u0)) λo=>qv o (Ag o Dt rfl) λo=>qv o (Ah o isAgg36 rfl (PH.le.cell (λb o hx=>(Lds.le u.ld) b o ((cp hxHD1.sub C0.sub) b o hx)) (Y1 1 _ rfl))) λo=>qv o (Al (α:=Str) (xs:=X2.Regs) o runUnderlying36 rfl) λo=>qv o (Au o rfl rfl) λo=>qm o rfl λo=>gr (Fk:=[(0,SL T0 p1 M0),(3,SL I0 F0 D0),(4,i6 G0),(5,PT bD2),(6,i6 p0),(54,.bool ((decide (p0 < (X2.Regs.length:Int))) && (decide (p0 < 6))))]) 51 3 o u ?_ ?_ ?_
 intro hb o key
 exact qg o (Ab o rfl) λo=>qg o (Au o rfl rfl) λo=>qk o (Ad o rfl rfl) key u hb
 intro hb o key
 iterate 2 refine qn o λo=>?_
 exact qk o (Ae o rfl rfl) key u hb
 intro a w o u
 refine re<|?_
 rcases bit hm with ⟨C2,hm⟩ | ⟨C2,hm⟩
 refine tn<|ctv o rfl C2<|wk<|tn<|th<|wb<|?_
 obtain ⟨G2,Q1,hm⟩:=bs hm
 obtain ⟨U3,V3,Q2⟩:=SR.get B2 Q1
 obtain rfl:U3=[Ac G2]:=V3
 obtain ⟨R1,W3,hm⟩:=bs hm
 obtain ⟨X3,Y3,hm⟩:=bs hm
 refine rdL (Aa t0 (Aa t2 Af)) 24 u wide λw u=>ds 0 (St.ldsX u i2 (Aa t0 (Aa t2 Af))) o rfl (Ag o Dt rfl) λo=>dq 1 (St.ldsX u i2 (Aa t0 (Aa t2 Af))) o rfl (λw hl=>Ah o isAgg36 rfl (hl.cellB t1 rfl)) λo=>ds 2 (St.ldsX u i2 (Aa t0 (Aa t2 Af))) o rfl (Ab o rfl) λo=>ds 3 (St.ldsX u i2 (Aa t0 (Aa t2 Af))) o rfl (Ab o rfl) λo=>ds 4 (St.ldsX u i2 (Aa t0 (Aa t2 Af))) o rfl (Aq o runUnderlying24 sizeOf48 rfl rfl u0 (SR.oaI U0 (by decide) u0)) λo=>ds 5 (St.ldsX u i2 (Aa t0 (Aa t2 Af))) o rfl (Ag o Dt rfl) λo=>dq 6 (St.ldsX u i2 (Aa t0 (Aa t2 Af))) o rfl (λw hl=>Ah o isAgg36 rfl (PH.le.cell (λb o hx=>(Lds.le hl) b o ((cp hxHD1.sub C0.sub) b o hx)) (Y1 1 _ rfl))) λo=>ds 7 (St.ldsX u i2 (Aa t0 (Aa t2 Af))) o rfl (Ab o rfl) λo=>ds 8 (St.ldsX u i2 (Aa t0 (Aa t2 Af))) o rfl (Aq o runUnderlying36 sizeOf9 rfl rfl Q1 (SR.oaI B2 (by decide) Q1)) λo=>dq 9 (St.ldsX u i2 (Aa t0 (Aa t2 Af))) o rfl (λw hl=>Ah o isAgg9 rfl (PH.le.cell (λb o hx=>(Lds.le hl) b o ((cp hxHD1.sub C0.sub) b o hx)) (Q2 0 _ rfl))) λo=>ds 10 (St.ldsX u i2 (Aa t0 (Aa t2 Af))) o rfl (Ab o rfl) λo=>ds 11 (St.ldsX u i2 (Aa t0 (Aa t2 Af))) o rfl (Ab o rfl) λo=>ds 12 (St.ldsX u i2 (Aa t0 (Aa t2 Af))) o rfl (Aq o runUnderlying24 sizeOf48 rfl rfl u0 (SR.oaI U0 (by decide) u0)) λo=>ds 13 (St.ldsX u i2 (Aa t0 (Aa t2 Af))) o rfl (Ag o Dt rfl) λo=>dq 14 (St.ldsX u i2 (Aa t0 (Aa t2 Af))) o rfl (λw hl=>Ah o isAgg36 rfl (PH.le.cell (λb o hx=>(Lds.le hl) b o ((cp hxHD1.sub C0.sub) b o hx)) (Y1 1 _ rfl))) λo=>ds 15 (St.ldsX u i2 (Aa t0 (Aa t2 Af))) o rfl (Ab o rfl) λo=>ds 16 (St.ldsX u i2 (Aa t0 (Aa t2 Af))) o rfl (Aq o runUnderlying36 sizeOf9 rfl rfl Q1 (SR.oaI B2 (by decide) Q1)) λo=>dq 17 (St.ldsX u i2 (Aa t0 (Aa t2 Af))) o rfl (λw hl=>Ah o isAgg9 rfl (PH.le.cell (λb o hx=>(Lds.le hl) b o ((cp hxHD1.sub C0.sub) b o hx)) (Q2 0 _ rfl))) λo=>ds 18 (St.ldsX u i2 (Aa t0 (Aa t2 Af))) o rfl (Bj (s:=G2) o runUnderlying9 rfl) λo=>ds 19 (St.ldsX u i2 (Aa t0 (Aa t2 Af))) o rfl (Mq o rfl rfl) λo=>ds 20 (St.ldsX u i2 (Aa t0 (Aa t2 Af))) o rfl (Gi (s:=G2) (vl:=0) (vh:=(min (G2.length:Int) 40)) o runUnderlying9 rfl rfl rfl W3) λo=>da1 (i:=21) (by kernel_rfl) ?_
 have Y2:Rows (α:=Str) HD1 [Ac R1] ([R1]:List Str):=(.cons (c:=[Ac R1]) rfl .nil)
 refine di (i:=21) rfl<|Bh (e:=9) (sz:=1) [Ac R1] o rfl u rfl rfl rfl (λw=>by kernel_rfl) λT4 w a u o=>⟨λ_=>(St.ldsX u i2 (Aa t1 (Aa t3 Af))),?_⟩
 refine da1 (i:=22) (by kernel_rfl) ?_
 refine di (i:=22) rfl<|Cc (α:=Str) (xs:=n0) (ys:=([R1]:List Str)) o rfl u underlying36 Sf rfl (by decide) rfl rfl rfl t2 hvE5 (u.rdO t0) Y2 Y3 λA3 R2 B3 w a C3 hU o=>?_
 replace u:=hU _ (.tail (.tail .head))
 replace u:=u.drop .head
 refine ⟨λ_=>(St.ldsX u i2 (Aa t0 (Aa t2 Af))),?_⟩
 refine ds 23 (St.ldsX u i2 (Aa t0 (Aa t2 Af))) o rfl (Ag o Dt rfl) λo=>da1 (i:=24) (by kernel_rfl) ?_
 refine di (i:=24) rfl<|As o u sizeOf36 rfl rfl rfl rfl (.tail (.tail .head)) (.succ .zero) λw u=>⟨λh=>absurd rfl h,?_⟩
 refine de (by kernel_rfl)<|bn<|tn<|rg<|qm o rfl λo=>qv o (Ao o rfl rfl) λo=>qa o rfl λo=>re<|tn<|?_
 exact ⟨(P1,X3,(IntKind.i64.wrap (p0+1))),⟨A3,R2,B3,hm,o.hs,u,C3⟩,Nat.lt_succ_self _⟩
 refine tn<|cfv o rfl C2<|we<|tx<|tx<|bx<|tn<|?_
 exact ⟨n0,oaE2,capE3,vsE4,hm,o.hs,u,hvE5⟩
 rintro a w ⟨K0,oaD11,capD12,vsD13,hm,o,u,hvD14⟩
 unfold Zz at hm
 obtain ⟨l3,A4,hm⟩:=bs hm
 refine rg<|qm o rfl λo=>qv o (Ar o isAgg48 sizeOf48 rfl rfl (u.ld.cellsB t2)) λo=>?_
 obtain ⟨H69,E2,D3,E3,u⟩:=St.frzS u (.tail .head) hvD14
 refine ls<|Bh (e:=48) (sz:=4) [Ac P0,SL oaD11 K0 capD12,SL oaD5 J0 capD6,i6 Q0] o rfl u rfl rfl rfl (λw=>by kernel_rfl) λU4 w a u o=>?_
 have F3:Rows (α:=api_Thread) H69 [Ac P0,SL oaD11 K0 capD12,SL oaD5 J0 capD6,i6 Q0] ([(api_Thread.mk P0 K0 J0 Q0)]:List api_Thread):=(.cons (c:=[Ac P0,SL oaD11 K0 capD12,SL oaD5 J0 capD6,i6 Q0]) ⟨_,_,rfl,rfl,⟨_,_,rfl,⟨_,_,rfl,E3,D3⟩,⟨_,_,rfl,⟨_,_,rfl,hcD7,(hrD8.mono E2.sub)⟩,rfl⟩⟩⟩ .nil)
 refine ls<|Cc (α:=api_Thread) (xs:=F0) (ys:=([(api_Thread.mk P0 K0 J0 Q0)]:List api_Thread)) o rfl u underlying24 Ki rfl (by decide) rfl rfl rfl t1 (J2.mono (cp E2.sub hxHD1.sub)) (u.rdO t0) F3 A4 λG3 T2 I3 w a J3 hU o=>?_
 replace u:=hU _ (.tail .head)
 replace u:=u.drop .head
 refine qa o rfl λo=>re<|bn<|tn<|?_
 replace u:=u.pk [0] rfl
 exact ⟨l3,H69,G3,T2,I3,hm,(Ext.trans hxHD1 E2),o.hs,u,J3⟩
 rintro a w ⟨B1,O1,G1,Y0,I1,hm,hxHC1,o,u,K3⟩
 unfold Zx at hm
 refine rg<|qm o rfl λo=>qv o (Ao o rfl rfl) λo=>qa o rfl λo=>re<|tn<|?_
 exact ⟨(V0,B1,(IntKind.i64.wrap (G0+1))),⟨O1,G1,Y0,I1,hm,(Ext.trans C0 hxHC1),o.hs,u,K3⟩,Nat.lt_succ_self _⟩
 refine tn<|cfv o rfl K2<|we<|tx<|tx<|bx<|tn<|?_
 exact ⟨F0,j0,I0,D0,R0,hm,C0,o.has ⟨rfl,trivial⟩,u,J2⟩
 rintro a w ⟨M1,F2,S1,F1,T1,hm,U2,o,u,L3⟩
 unfold Zw at hm
 refine th<|rg<|qm o rfl λo=>qa o rfl λo=>re<|tn<|wr<|?_
 obtain ⟨H82,M3,O3,P3,u⟩:=St.frzS u .head L3
 obtain rfl:=si hm
 exact r1 o results47 rfl ⟨H82,_,_,rfl,P3,O3,(Ext.trans U2 M3),(St.le u),u.keep⟩
set_option maxHeartbeats 4000000 in
theorem JbB (hH:H.le w0) {cs2:List Value} {p1:api_Prog} (g3:Enc.rep H cs2 p1) {r:api_Prog} (hm:Zm N p1=some r):Tot Tryz.prog 15 #[.agg cs2.toArray] w0 (λv w'=>∃ (H':PH) (cs0:List Value),v=.agg cs0.toArray∧Enc.rep H' cs0 r∧Ext w0 H H'∧H'.le w'∧Keep Nil w0 w'):=by
 unfold Zm at hm
 refine fn0 func15 rfl ntmps15 rfl rfl λa o=>?_
 have u:St w0 Nil [H] [] w0:=start1 hH
 obtain ⟨M4,P3,O4,Q3,R3,W2,S3,X2,T3,Y2,U3,A3,rfl,u6,u5,B5,C5,U4,V4,D4,E4,V3,W3,d6,W4⟩:=Av g3
 refine th<|rg<|ls<|Bz (cs:=[SL M4 p1.Lines P3,SL O4 p1.Vols Q3,SL R3 p1.Locks W2,SL S3 p1.Threads X2,SL T3 p1.Recover Y2,SL U3 p1.Claims A3].toArray) o rfl u rfl rfl λK2 w a u o=>ls<|Ap (cs:=[.slice none 0 0,.slice none 0 0,.slice none 0 0,.slice none 0 0,.slice none 0 0,.slice none 0 0].toArray) o rfl u zeroValue27 rfl λU1 w a u o=>re<|tn<|th<|Ay (λa w=>∃ (U0:(List api_Cell)) (V0:(List api_Cell)) (R0:(List api_Thread)) (S0:(List api_Thread)) (M2:PH) (O1:Nat) (n0:Option Addr) (P0:Nat) (O2:List Value) (Q0:Option Addr) (J0:Nat) (Q1:List Value) (B1:Option Addr) (W0:Nat) (C1:Option Addr) (X0:Nat),(Zn N p1) U0 V0 R0 S0=some r∧Ext w0 H M2∧Fr 72 [(1,PT K2),(2,PT U1),(3,PT O1)] a∧St w0 Nil [M2] [bk K2 [SL M4 p1.Lines P3,SL O4 p1.Vols Q3,SL R3 p1.Locks W2,SL S3 p1.Threads X2,SL T3 p1.Recover Y2,SL U3 p1.Claims A3] 27,bk U1 [.slice none 0 0,.slice none 0 0,.slice none 0 0,.slice none 0 0,.slice none 0 0,.slice none 0 0] 27,sla 53 3 n0 U0.length P0 O2,sla 53 3 Q0 V0.length J0 Q1,bk O1 [.slice none 0 0,SL n0 U0 P0,SL Q0 V0 J0,SL B1 R0 W0,SL C1 S0 X0,.slice none 0 0] 27] w∧Rows M2 O2 U0∧Rows M2 Q1 V0∧R0.length≤W0∧SR M2 B1 R0∧S0.length≤X0∧SR M2 C1 S0) ?_ ?_
 obtain ⟨F1,A6,hm⟩:=bs hm
 obtain ⟨G1,D5,hm⟩:=bs hm
 obtain ⟨I1,k4,hm⟩:=bs hm
 obtain ⟨J1,P4,hm⟩:=bs hm
 refine rdS 14 u wide λw u=>dr 0 u o rfl (Ag o Df rfl) λo=>dq 1 u.ld o rfl (λw hl=>Ah o isAgg23 rfl (hl.cellB t1 rfl)) λo=>dr 3 u o rfl (Ag o Gq rfl) λo=>dq 4 u.ld o rfl (λw hl=>Ah o isAgg23 rfl (hl.cellB t1 rfl)) λo=>dr 6 u o rfl (Ag o Dr rfl) λo=>dq 7 u.ld o rfl (λw hl=>Ah o isAgg24 rfl (hl.cellB t1 rfl)) λo=>dr 9 u o rfl (Ag o Fl rfl) λo=>dq 10 u.ld o rfl (λw hl=>Ah o isAgg24 rfl (hl.cellB t1 rfl)) λo=>da2 (i:=2) (j:=13) (by kernel_rfl) ?_ ?_
 refine di (i:=2) rfl<|c1 o rfl call46 (Sg (Ai _) B5 (St.srH u C5) A6) ⟨rfl,trivial⟩ (λv w a hR o=>?_)
 obtain ⟨T0,I0,J3,rfl,M1,hk⟩:=hR
 replace u:=u.fresh hk
 replace M1:=M1 H
 refine ⟨λ_=>(St.ldsX u i2 ta1),?_⟩
 refine da2 (i:=5) (j:=13) (by kernel_rfl) ?_ ?_
 refine di (i:=5) rfl<|c1 o rfl call46 (Sg (Ai _) U4 (St.srH u V4) D5) ⟨rfl,trivial⟩ (λv w a hR o=>?_)
 obtain ⟨O0,G0,P2,rfl,p0,hk⟩:=hR
 replace u:=u.fresh hk
 replace p0:=p0 H
 refine ⟨λ_=>(St.ldsX u i2 ta2),?_⟩
 refine da2 (i:=8) (j:=13) (by kernel_rfl) ?_ ?_
 refine di (i:=8) rfl<|c1 o rfl call47 (Nf (St.le u) D4 E4 k4) ⟨rfl,trivial⟩ (λv w a hR o=>?_)
 obtain ⟨H49,M0,F0,rfl,V1,X1,C0,Q2,hk⟩:=hR
 obtain ⟨u,C0⟩:=And.intro (St.passH u hk C0 Q2) (St.extc u C0)
 refine ⟨λ_=>(St.ldsX u C0.sub ta2),?_⟩
 refine da2 (i:=11) (j:=13) (by kernel_rfl) ?_ ?_
 refine di (i:=11) rfl<|c1 o rfl call47 (Nf (St.le u) V3 (W3.mono C0.sub) P4) ⟨rfl,trivial⟩ (λv w a hR o=>?_)
 obtain ⟨H59,K0,E0,rfl,R1,S1,D0,T1,hk⟩:=hR
 obtain ⟨u,D0⟩:=And.intro (St.passH u hk D0 T1) (St.extc u D0)
 refine ⟨λ_=>(St.ldsX u (cp D0.sub C0.sub) ta2),?_⟩
 refine dq 12 (St.ldsX u (cp D0.sub C0.sub) ta2) o rfl (λw hl=>Bi [SL T0 F1 I0,SL O0 G1 G0,SL M0 I1 F0,SL K0 J1 E0] [.slice none 0 0,SL T0 F1 I0,SL O0 G1 G0,SL M0 I1 F0,SL K0 J1 E0,.slice none 0 0] o ⟨rfl,rfl,rfl,rfl,trivial⟩ (λw=>by kernel_rfl)) λo=>da1 (i:=13) (by kernel_rfl) ?_
 refine di (i:=13) rfl<|Ap (cs:=[.slice none 0 0,.slice none 0 0,.slice none 0 0,.slice none 0 0,.slice none 0 0,.slice none 0 0].toArray) o rfl u zeroValue27 rfl λB3 w a u o=>⟨λ_=>(St.ldsX u (cp D0.sub C0.sub) ta3),?_⟩
 refine da1 (i:=14) (by kernel_rfl) ?_
 refine di (i:=14) rfl<|Aw o u sizeOf27 rfl rfl rfl rfl (Ak rfl) .head λw u=>⟨λh=>absurd rfl h,?_⟩
 refine de (by kernel_rfl)<|tn<|?_
 replace u:=u.pk [4,3,2,1,0] rfl
 exact ⟨F1,G1,I1,J1,H59,B3,T0,I0,J3,O0,G0,P2,M0,F0,K0,E0,hm,(Ext.trans C0 D0),o.hs,u,(M1.mono (cp D0.sub C0.sub)),(p0.mono (cp D0.sub C0.sub)),V1,(X1.mono D0.sub),R1,S1⟩
 refine di (i:=13) rfl<|Ap (cs:=[.slice none 0 0,.slice none 0 0,.slice none 0 0,.slice none 0 0,.slice none 0 0,.slice none 0 0].toArray) o rfl u zeroValue27 rfl λB3 w a u o=>⟨λ_=>(St.ldsX u C0.sub ta3),?_⟩
 refine da1 (i:=11) (by kernel_rfl) ?_
 refine di (i:=11) rfl<|c1 o rfl call47 (Nf (St.le u) V3 (W3.mono C0.sub) P4) ⟨rfl,trivial⟩ (λv w a hR o=>?_)
 obtain ⟨H59,K0,E0,rfl,R1,S1,D0,T1,hk⟩:=hR
 obtain ⟨u,D0⟩:=And.intro (St.passH u hk D0 T1) (St.extc u D0)
 refine ⟨λ_=>(St.ldsX u (cp D0.sub C0.sub) ta3),?_⟩
 refine dq 12 (St.ldsX u (cp D0.sub C0.sub) ta3) o rfl (λw hl=>Bi [SL T0 F1 I0,SL O0 G1 G0,SL M0 I1 F0,SL K0 J1 E0] [.slice none 0 0,SL T0 F1 I0,SL O0 G1 G0,SL M0 I1 F0,SL K0 J1 E0,.slice none 0 0] o ⟨rfl,rfl,rfl,rfl,trivial⟩ (λw=>by kernel_rfl)) λo=>da1 (i:=14) (by kernel_rfl) ?_
 refine di (i:=14) rfl<|Aw o u sizeOf27 rfl rfl rfl rfl (Ak rfl) .head λw u=>⟨λh=>absurd rfl h,?_⟩
 refine de (by kernel_rfl)<|tn<|?_
 replace u:=u.pk [4,3,2,1,0] rfl
 exact ⟨F1,G1,I1,J1,H59,B3,T0,I0,J3,O0,G0,P2,M0,F0,K0,E0,hm,(Ext.trans C0 D0),o.hs,u,(M1.mono (cp D0.sub C0.sub)),(p0.mono (cp D0.sub C0.sub)),V1,(X1.mono D0.sub),R1,S1⟩
 refine di (i:=13) rfl<|Ap (cs:=[.slice none 0 0,.slice none 0 0,.slice none 0 0,.slice none 0 0,.slice none 0 0,.slice none 0 0].toArray) o rfl u zeroValue27 rfl λB3 w a u o=>⟨λ_=>(St.ldsX u i2 ta3),?_⟩
 refine da1 (i:=8) (by kernel_rfl) ?_
 refine di (i:=8) rfl<|c1 o rfl call47 (Nf (St.le u) D4 E4 k4) ⟨rfl,trivial⟩ (λv w a hR o=>?_)
 obtain ⟨H49,M0,F0,rfl,V1,X1,C0,Q2,hk⟩:=hR
 obtain ⟨u,C0⟩:=And.intro (St.passH u hk C0 Q2) (St.extc u C0)
 refine ⟨λ_=>(St.ldsX u C0.sub ta3),?_⟩
 refine da1 (i:=11) (by kernel_rfl) ?_
 refine di (i:=11) rfl<|c1 o rfl call47 (Nf (St.le u) V3 (W3.mono C0.sub) P4) ⟨rfl,trivial⟩ (λv w a hR o=>?_)
 obtain ⟨H59,K0,E0,rfl,R1,S1,D0,T1,hk⟩:=hR
 obtain ⟨u,D0⟩:=And.intro (St.passH u hk D0 T1) (St.extc u D0)
 refine ⟨λ_=>(St.ldsX u (cp D0.sub C0.sub) ta3),?_⟩
 refine dq 12 (St.ldsX u (cp D0.sub C0.sub) ta3) o rfl (λw hl=>Bi [SL T0 F1 I0,SL O0 G1 G0,SL M0 I1 F0,SL K0 J1 E0] [.slice none 0 0,SL T0 F1 I0,SL O0 G1 G0,SL M0 I1 F0,SL K0 J1 E0,.slice none 0 0] o ⟨rfl,rfl,rfl,rfl,trivial⟩ (λw=>by kernel_rfl)) λo=>da1 (i:=14) (by kernel_rfl) ?_
 refine di (i:=14) rfl<|Aw o u sizeOf27 rfl rfl rfl rfl (Ak rfl) .head λw u=>⟨λh=>absurd rfl h,?_⟩
 refine de (by kernel_rfl)<|tn<|?_
 replace u:=u.pk [4,3,2,1,0] rfl
 exact ⟨F1,G1,I1,J1,H59,B3,T0,I0,J3,O0,G0,P2,M0,F0,K0,E0,hm,(Ext.trans C0 D0),o.hs,u,(M1.mono (cp D0.sub C0.sub)),(p0.mono (cp D0.sub C0.sub)),V1,(X1.mono D0.sub),R1,S1⟩
 refine di (i:=13) rfl<|Ap (cs:=[.slice none 0 0,.slice none 0 0,.slice none 0 0,.slice none 0 0,.slice none 0 0,.slice none 0 0].toArray) o rfl u zeroValue27 rfl λB3 w a u o=>⟨λ_=>(St.ldsX u i2 ta2),?_⟩
 refine da1 (i:=5) (by kernel_rfl) ?_
 refine di (i:=5) rfl<|c1 o rfl call46 (Sg (Ai _) U4 (St.srH u V4) D5) ⟨rfl,trivial⟩ (λv w a hR o=>?_)
 obtain ⟨O0,G0,P2,rfl,p0,hk⟩:=hR
 replace u:=u.fresh hk
 replace p0:=p0 H
 refine ⟨λ_=>(St.ldsX u i2 ta3),?_⟩
 refine da1 (i:=8) (by kernel_rfl) ?_
 refine di (i:=8) rfl<|c1 o rfl call47 (Nf (St.le u) D4 E4 k4) ⟨rfl,trivial⟩ (λv w a hR o=>?_)
 obtain ⟨H49,M0,F0,rfl,V1,X1,C0,Q2,hk⟩:=hR
 obtain ⟨u,C0⟩:=And.intro (St.passH u hk C0 Q2) (St.extc u C0)
 refine ⟨λ_=>(St.ldsX u C0.sub ta3),?_⟩
 refine da1 (i:=11) (by kernel_rfl) ?_
 refine di (i:=11) rfl<|c1 o rfl call47 (Nf (St.le u) V3 (W3.mono C0.sub) P4) ⟨rfl,trivial⟩ (λv w a hR o=>?_)
 obtain ⟨H59,K0,E0,rfl,R1,S1,D0,T1,hk⟩:=hR
 obtain ⟨u,D0⟩:=And.intro (St.passH u hk D0 T1) (St.extc u D0)
 refine ⟨λ_=>(St.ldsX u (cp D0.sub C0.sub) ta3),?_⟩
 refine dq 12 (St.ldsX u (cp D0.sub C0.sub) ta3) o rfl (λw hl=>Bi [SL T0 F1 I0,SL O0 G1 G0,SL M0 I1 F0,SL K0 J1 E0] [.slice none 0 0,SL T0 F1 I0,SL O0 G1 G0,SL M0 I1 F0,SL K0 J1 E0,.slice none 0 0] o ⟨rfl,rfl,rfl,rfl,trivial⟩ (λw=>by kernel_rfl)) λo=>da1 (i:=14) (by kernel_rfl) ?_
 refine di (i:=14) rfl<|Aw o u sizeOf27 rfl rfl rfl rfl (Ak rfl) (.tail .head) λw u=>⟨λh=>absurd rfl h,?_⟩
 refine de (by kernel_rfl)<|tn<|?_
 replace u:=u.pk [4,3,2,0,0] rfl
 exact ⟨F1,G1,I1,J1,H59,B3,T0,I0,J3,O0,G0,P2,M0,F0,K0,E0,hm,(Ext.trans C0 D0),o.hs,u,(M1.mono (cp D0.sub C0.sub)),(p0.mono (cp D0.sub C0.sub)),V1,(X1.mono D0.sub),R1,S1⟩
 refine di (i:=13) rfl<|Ap (cs:=[.slice none 0 0,.slice none 0 0,.slice none 0 0,.slice none 0 0,.slice none 0 0,.slice none 0 0].toArray) o rfl u zeroValue27 rfl λB3 w a u o=>⟨λ_=>(St.ldsX u i2 ta1),?_⟩
 refine da1 (i:=2) (by kernel_rfl) ?_
 refine di (i:=2) rfl<|c1 o rfl call46 (Sg (Ai _) B5 (St.srH u C5) A6) ⟨rfl,trivial⟩ (λv w a hR o=>?_)
 obtain ⟨T0,I0,J3,rfl,M1,hk⟩:=hR
 replace u:=u.fresh hk
 replace M1:=M1 H
 refine ⟨λ_=>(St.ldsX u i2 ta2),?_⟩
 refine da1 (i:=5) (by kernel_rfl) ?_
 refine di (i:=5) rfl<|c1 o rfl call46 (Sg (Ai _) U4 (St.srH u V4) D5) ⟨rfl,trivial⟩ (λv w a hR o=>?_)
 obtain ⟨O0,G0,P2,rfl,p0,hk⟩:=hR
 replace u:=u.fresh hk
 replace p0:=p0 H
 refine ⟨λ_=>(St.ldsX u i2 ta3),?_⟩
 refine da1 (i:=8) (by kernel_rfl) ?_
 refine di (i:=8) rfl<|c1 o rfl call47 (Nf (St.le u) D4 E4 k4) ⟨rfl,trivial⟩ (λv w a hR o=>?_)
 obtain ⟨H49,M0,F0,rfl,V1,X1,C0,Q2,hk⟩:=hR
 obtain ⟨u,C0⟩:=And.intro (St.passH u hk C0 Q2) (St.extc u C0)
 refine ⟨λ_=>(St.ldsX u C0.sub ta3),?_⟩
 refine da1 (i:=11) (by kernel_rfl) ?_
 refine di (i:=11) rfl<|c1 o rfl call47 (Nf (St.le u) V3 (W3.mono C0.sub) P4) ⟨rfl,trivial⟩ (λv w a hR o=>?_)
 obtain ⟨H59,K0,E0,rfl,R1,S1,D0,T1,hk⟩:=hR
 obtain ⟨u,D0⟩:=And.intro (St.passH u hk D0 T1) (St.extc u D0)
 refine ⟨λ_=>(St.ldsX u (cp D0.sub C0.sub) ta3),?_⟩
 refine dq 12 (St.ldsX u (cp D0.sub C0.sub) ta3) o rfl (λw hl=>Bi [SL T0 F1 I0,SL O0 G1 G0,SL M0 I1 F0,SL K0 J1 E0] [.slice none 0 0,SL T0 F1 I0,SL O0 G1 G0,SL M0 I1 F0,SL K0 J1 E0,.slice none 0 0] o ⟨rfl,rfl,rfl,rfl,trivial⟩ (λw=>by kernel_rfl)) λo=>da1 (i:=14) (by kernel_rfl) ?_
 refine di (i:=14) rfl<|Aw o u sizeOf27 rfl rfl rfl rfl (Ak rfl) (.tail (.tail .head)) λw u=>⟨λh=>absurd rfl h,?_⟩
 refine de (by kernel_rfl)<|tn<|?_
 replace u:=u.pk [4,3,1,0,0] rfl
 exact ⟨F1,G1,I1,J1,H59,B3,T0,I0,J3,O0,G0,P2,M0,F0,K0,E0,hm,(Ext.trans C0 D0),o.hs,u,(M1.mono (cp D0.sub C0.sub)),(p0.mono (cp D0.sub C0.sub)),V1,(X1.mono D0.sub),R1,S1⟩
 rintro a w ⟨U0,V0,R0,S0,M2,O1,n0,P0,O2,Q0,J0,Q1,B1,W0,C1,X0,hm,E2,o,u,B6,I5,hcA18,hrA19,hcA23,hrA24⟩
 unfold Zn at hm
 refine th<|th<|rg<|qa o rfl λo=>re<|tn<|Ay (λa w=>∃ (Y0:(List (List api_Cell))) (R2:PH) (E1:Option Addr) (j0:Nat) (C3:List Value),(Zo N p1 U0 V0 R0 S0) Y0=some r∧Ext w0 M2 R2∧Fr 72 [(1,PT K2),(2,PT U1),(3,PT O1)] a∧St w0 Nil [R2] [bk K2 [SL M4 p1.Lines P3,SL O4 p1.Vols Q3,SL R3 p1.Locks W2,SL S3 p1.Threads X2,SL T3 p1.Recover Y2,SL U3 p1.Claims A3] 27,bk U1 [.slice none 0 0,.slice none 0 0,.slice none 0 0,.slice none 0 0,.slice none 0 0,.slice none 0 0] 27,sla 23 1 E1 Y0.length j0 C3,sla 53 3 n0 U0.length P0 O2,sla 53 3 Q0 V0.length J0 Q1,bk O1 [SL E1 Y0 j0,SL n0 U0 P0,SL Q0 V0 J0,SL B1 R0 W0,SL C1 S0 X0,.slice none 0 0] 27] w∧Rows R2 C3 Y0) ?_ ?_
 replace u:=u.nilS 23 1
 replace u:=u.pk [1,1,0,0,0,0] rfl
 refine wb<|lp (α:=Nat×(List (List api_Cell))×Int) (λ(gh:Nat×(List (List api_Cell))×Int) a w=>match gh with | (Q4,X3,Y3)=>∃ (B4:PH) (F4:Option Addr) (K3:Nat) (G4:List Value),(Zq N (Zo N p1 U0 V0 R0 S0) p1) Q4 X3 Y3=some r∧Ext w0 M2 B4∧Fr 72 [(1,PT K2),(2,PT U1),(3,PT O1),(4,i6 Y3)] a∧St w0 Nil [B4] [bk K2 [SL M4 p1.Lines P3,SL O4 p1.Vols Q3,SL R3 p1.Locks W2,SL S3 p1.Threads X2,SL T3 p1.Recover Y2,SL U3 p1.Claims A3] 27,bk U1 [.slice none 0 0,.slice none 0 0,.slice none 0 0,.slice none 0 0,.slice none 0 0,.slice none 0 0] 27,sla 23 1 F4 X3.length K3 G4,sla 53 3 n0 U0.length P0 O2,sla 53 3 Q0 V0.length J0 Q1,bk O1 [SL F4 X3 K3,SL n0 U0 P0,SL Q0 V0 J0,SL B1 R0 W0,SL C1 S0 X0,.slice none 0 0] 27] w∧Rows B4 G4 X3) (λgh=>gh.1) (N,[],0) ⟨M2,none,0,[],hm,(Ext.refl _ _),o.hs,u,.nil⟩ ?_
 rintro ⟨Q4,X3,Y3⟩ a w ⟨B4,F4,K3,G4,hm,L3,o,u,E5⟩
 obtain _ | Q4:=Q4
 simp [Zq] at hm
 rw [Zq] at hm
 refine th<|th<|rg<|qm o rfl λo=>qv o (Ag o Cm rfl) λo=>qv o (Ah o isAgg22 rfl (u.ld.cellB t0 rfl)) λo=>qv o (Al (α:=(List api_Cell)) (xs:=p1.Lines) o runUnderlying22 rfl) λo=>qv o (Au o rfl rfl) λo=>qm o rfl λo=>gr (Fk:=[(1,PT K2),(2,PT U1),(3,PT O1),(4,i6 Y3),(27,.bool ((decide (Y3 < (p1.Lines.length:Int))) && (decide (Y3 < 6))))]) 24 3 o u ?_ ?_ ?_
 intro hb o key
 exact qg o (Ab o rfl) λo=>qg o (Au o rfl rfl) λo=>qk o (Ad o rfl rfl) key u hb
 intro hb o key
 iterate 2 refine qn o λo=>?_
 exact qk o (Ae o rfl rfl) key u hb
 intro a w o u
 refine re<|?_
 rcases bit hm with ⟨X4,hm⟩ | ⟨X4,hm⟩
 refine tn<|ctv o rfl X4<|wk<|tn<|th<|wb<|?_
 obtain ⟨v6,F5,hm⟩:=bs hm
 obtain ⟨y6,Q6,C6⟩:=SR.get u5 F5
 obtain ⟨j6,W6,rfl,D6,E6⟩:=Q6
 obtain ⟨R4,R6,hm⟩:=bs hm
 obtain ⟨S6,T6,hm⟩:=bs hm
 refine rdL (Aa t0 (Aa t1 (Aa t3 (Aa t4 (Aa t5 Af))))) 11 u wide λw u=>ds 0 (St.ldsX u i2 (Aa t0 (Aa t1 (Aa t3 (Aa t4 (Aa t5 Af)))))) o rfl (Ag o Cm rfl) λo=>dq 1 (St.ldsX u i2 (Aa t0 (Aa t1 (Aa t3 (Aa t4 (Aa t5 Af)))))) o rfl (λw hl=>Ah o isAgg22 rfl (hl.cellB t4 rfl)) λo=>ds 2 (St.ldsX u i2 (Aa t0 (Aa t1 (Aa t3 (Aa t4 (Aa t5 Af)))))) o rfl (Ag o Cm rfl) λo=>dq 3 (St.ldsX u i2 (Aa t0 (Aa t1 (Aa t3 (Aa t4 (Aa t5 Af)))))) o rfl (λw hl=>Ah o isAgg22 rfl (hl.cellB t0 rfl)) λo=>ds 4 (St.ldsX u i2 (Aa t0 (Aa t1 (Aa t3 (Aa t4 (Aa t5 Af)))))) o rfl (Ab o rfl) λo=>ds 5 (St.ldsX u i2 (Aa t0 (Aa t1 (Aa t3 (Aa t4 (Aa t5 Af)))))) o rfl (Aq o runUnderlying22 sizeOf23 rfl rfl F5 (SR.oaI u5 (by decide) F5)) λo=>dq 6 (St.ldsX u i2 (Aa t0 (Aa t1 (Aa t3 (Aa t4 (Aa t5 Af)))))) o rfl (λw hl=>Ah o isAgg23 rfl (PH.le.cell (λb o hx=>(Lds.le hl) b o ((cp L3.sub E2.sub) b o hx)) (C6 0 _ rfl))) λo=>da1 (i:=7) (by kernel_rfl) ?_
 refine di (i:=7) rfl<|c1 o rfl call46 (Sg (Ai _) D6 (St.srH u (E6.mono (cp L3.sub E2.sub))) R6) ⟨rfl,trivial⟩ (λv w a hR o=>?_)
 obtain ⟨Y4,I4,k6,rfl,d4,hk⟩:=hR
 replace u:=u.fresh hk
 replace d4:=d4 B4
 refine ⟨λ_=>(St.ldsX u i2 (Aa t1 (Aa t2 (Aa t4 (Aa t5 (Aa t6 Af)))))),?_⟩
 refine da1 (i:=8) (by kernel_rfl) ?_
 obtain ⟨H85,l3,F6,G6,u⟩:=St.frzS u .head d4
 refine di (i:=8) rfl<|Bh (e:=23) (sz:=1) [SL Y4 R4 I4] o rfl u rfl rfl rfl (λw=>by kernel_rfl) λz6 w a u o=>?_
 have I6:Rows (α:=(List api_Cell)) H85 [SL Y4 R4 I4] ([R4]:List (List api_Cell)):=(.cons (c:=[SL Y4 R4 I4]) ⟨_,_,rfl,G6,F6⟩ .nil)
 refine ⟨λ_=>(St.ldsX u l3.sub (Aa t1 (Aa t2 (Aa t4 (Aa t5 (Aa t6 Af)))))),?_⟩
 refine da1 (i:=9) (by kernel_rfl) ?_
 refine di (i:=9) rfl<|Cc (α:=(List api_Cell)) (xs:=X3) (ys:=([R4]:List (List api_Cell))) o rfl u underlying22 Va rfl (by decide) rfl rfl rfl t3 (E5.mono l3.sub) (u.rdO t0) I6 T6 λJ6 J5 K6 w a L6 hU o=>?_
 replace u:=hU _ (.tail (.tail (.tail .head)))
 replace u:=u.drop .head
 refine ⟨λ_=>(St.ldsX u l3.sub (Aa t0 (Aa t1 (Aa t3 (Aa t4 (Aa t5 Af)))))),?_⟩
 refine ds 10 (St.ldsX u l3.sub (Aa t0 (Aa t1 (Aa t3 (Aa t4 (Aa t5 Af)))))) o rfl (Ag o Cm rfl) λo=>da1 (i:=11) (by kernel_rfl) ?_
 refine di (i:=11) rfl<|As o u sizeOf22 rfl rfl rfl rfl (.tail (.tail (.tail (.tail (.tail .head))))) .zero λw u=>⟨λh=>absurd rfl h,?_⟩
 refine de (by kernel_rfl)<|bn<|tn<|rg<|qm o rfl λo=>qv o (Ao o rfl rfl) λo=>qa o rfl λo=>re<|tn<|?_
 exact ⟨(Q4,S6,(IntKind.i64.wrap (Y3+1))),⟨H85,J6,J5,K6,hm,(Ext.trans L3 l3),o.hs,u,L6⟩,Nat.lt_succ_self _⟩
 refine tn<|cfv o rfl X4<|we<|tx<|tx<|bx<|tn<|?_
 exact ⟨X3,B4,F4,K3,G4,hm,L3,o.hs,u,E5⟩
 rintro a w ⟨Y0,R2,E1,j0,C3,hm,u0,o,u,K5⟩
 unfold Zo at hm
 refine th<|th<|rg<|qa o rfl λo=>re<|tn<|Ay (λa w=>∃ (Y1:(List api_Claim)) (J4:PH) (D3:Option Addr) (B2:Nat) (K4:List Value),(Zp U0 V0 R0 S0 Y0) Y1=some r∧Ext w0 R2 J4∧Fr 72 [(2,PT U1),(3,PT O1)] a∧St w0 Nil [J4] [bk U1 [.slice none 0 0,.slice none 0 0,.slice none 0 0,.slice none 0 0,.slice none 0 0,.slice none 0 0] 27,sla 23 1 E1 Y0.length j0 C3,sla 53 3 n0 U0.length P0 O2,sla 53 3 Q0 V0.length J0 Q1,sla 74 2 D3 Y1.length B2 K4,bk O1 [SL E1 Y0 j0,SL n0 U0 P0,SL Q0 V0 J0,SL B1 R0 W0,SL C1 S0 X0,SL D3 Y1 B2] 27] w∧Rows J4 K4 Y1) ?_ ?_
 replace u:=u.nilS 74 2
 replace u:=u.pk [1,1,1,1,1,0,0] rfl
 refine wb<|lp (α:=Nat×(List api_Claim)×Int) (λgh a w=>match gh with | (S4,T2,U2)=>∃ (C4:PH) (M3:Option Addr) (E3:Nat) (O3:List Value),(Zr N (Zp U0 V0 R0 S0 Y0) p1) S4 T2 U2=some r∧Ext w0 R2 C4∧Fr 72 [(1,PT K2),(2,PT U1),(3,PT O1),(5,i6 U2)] a∧St w0 Nil [C4] [bk K2 [SL M4 p1.Lines P3,SL O4 p1.Vols Q3,SL R3 p1.Locks W2,SL S3 p1.Threads X2,SL T3 p1.Recover Y2,SL U3 p1.Claims A3] 27,bk U1 [.slice none 0 0,.slice none 0 0,.slice none 0 0,.slice none 0 0,.slice none 0 0,.slice none 0 0] 27,sla 23 1 E1 Y0.length j0 C3,sla 53 3 n0 U0.length P0 O2,sla 53 3 Q0 V0.length J0 Q1,sla 74 2 M3 T2.length E3 O3,bk O1 [SL E1 Y0 j0,SL n0 U0 P0,SL Q0 V0 J0,SL B1 R0 W0,SL C1 S0 X0,SL M3 T2 E3] 27] w∧Rows C4 O3 T2) (λgh=>gh.1) (N,[],0) ⟨R2,none,0,[],hm,(Ext.refl _ _),o.hs,u,.nil⟩ ?_
 rintro ⟨S4,T2,U2⟩ a w ⟨C4,M3,E3,O3,hm,F3,o,u,l4⟩
 obtain _ | S4:=S4
 simp [Zr] at hm
 rw [Zr] at hm
 refine th<|th<|rg<|qm o rfl λo=>qv o (Ag o Ev rfl) λo=>qv o (Ah o isAgg25 rfl (u.ld.cellB t0 rfl)) λo=>qv o (Al (α:=api_Claim) (xs:=p1.Claims) o runUnderlying25 rfl) λo=>qv o (Au o rfl rfl) λo=>qm o rfl λo=>gr (Fk:=[(1,PT K2),(2,PT U1),(3,PT O1),(5,i6 U2),(49,.bool ((decide (U2 < (p1.Claims.length:Int))) && (decide (U2 < 6))))]) 46 3 o u ?_ ?_ ?_
 intro hb o key
 exact qg o (Ab o rfl) λo=>qg o (Au o rfl rfl) λo=>qk o (Ad o rfl rfl) key u hb
 intro hb o key
 iterate 2 refine qn o λo=>?_
 exact qk o (Ae o rfl rfl) key u hb
 intro a w o u
 refine re<|?_
 rcases bit hm with ⟨j4,hm⟩ | ⟨j4,hm⟩
 refine tn<|ctv o rfl j4<|wk<|tn<|th<|wb<|?_
 obtain ⟨A4,T4,hm⟩:=bs hm
 obtain ⟨A7,U6,A5⟩:=SR.get W4 T4
 obtain ⟨X6,V6,rfl,L5,M5⟩:=Cp U6
 obtain ⟨V2,M6,hm⟩:=bs hm
 obtain ⟨O6,P6,hm⟩:=bs hm
 refine rdL (Aa t0 (Aa t1 (Aa t2 (Aa t3 (Aa t4 (Aa t6 Af)))))) 19 u wide λw u=>ds 0 (St.ldsX u i2 (Aa t0 (Aa t1 (Aa t2 (Aa t3 (Aa t4 (Aa t6 Af))))))) o rfl (Ag o Ev rfl) λo=>dq 1 (St.ldsX u i2 (Aa t0 (Aa t1 (Aa t2 (Aa t3 (Aa t4 (Aa t6 Af))))))) o rfl (λw hl=>Ah o isAgg25 rfl (hl.cellB t5 rfl)) λo=>ds 2 (St.ldsX u i2 (Aa t0 (Aa t1 (Aa t2 (Aa t3 (Aa t4 (Aa t6 Af))))))) o rfl (Ag o Ev rfl) λo=>dq 3 (St.ldsX u i2 (Aa t0 (Aa t1 (Aa t2 (Aa t3 (Aa t4 (Aa t6 Af))))))) o rfl (λw hl=>Ah o isAgg25 rfl (hl.cellB t0 rfl)) λo=>ds 4 (St.ldsX u i2 (Aa t0 (Aa t1 (Aa t2 (Aa t3 (Aa t4 (Aa t6 Af))))))) o rfl (Ab o rfl) λo=>ds 5 (St.ldsX u i2 (Aa t0 (Aa t1 (Aa t2 (Aa t3 (Aa t4 (Aa t6 Af))))))) o rfl (Aq o runUnderlying25 sizeOf74 rfl rfl T4 (SR.oaI W4 (by decide) T4)) λo=>ds 6 (St.ldsX u i2 (Aa t0 (Aa t1 (Aa t2 (Aa t3 (Aa t4 (Aa t6 Af))))))) o rfl (Ag o Qn rfl) λo=>dq 7 (St.ldsX u i2 (Aa t0 (Aa t1 (Aa t2 (Aa t3 (Aa t4 (Aa t6 Af))))))) o rfl (λw hl=>Ah o isAgg49 rfl (PH.le.cell (λb o hx=>(Lds.le hl) b o ((cp (cp F3.sub u0.sub) E2.sub) b o hx)) (A5 0 _ rfl))) λo=>ds 9 (St.ldsX u i2 (Aa t0 (Aa t1 (Aa t2 (Aa t3 (Aa t4 (Aa t6 Af))))))) o rfl (Ag o Ev rfl) λo=>dq 10 (St.ldsX u i2 (Aa t0 (Aa t1 (Aa t2 (Aa t3 (Aa t4 (Aa t6 Af))))))) o rfl (λw hl=>Ah o isAgg25 rfl (hl.cellB t0 rfl)) λo=>ds 11 (St.ldsX u i2 (Aa t0 (Aa t1 (Aa t2 (Aa t3 (Aa t4 (Aa t6 Af))))))) o rfl (Ab o rfl) λo=>ds 12 (St.ldsX u i2 (Aa t0 (Aa t1 (Aa t2 (Aa t3 (Aa t4 (Aa t6 Af))))))) o rfl (Aq o runUnderlying25 sizeOf74 rfl rfl T4 (SR.oaI W4 (by decide) T4)) λo=>ds 13 (St.ldsX u i2 (Aa t0 (Aa t1 (Aa t2 (Aa t3 (Aa t4 (Aa t6 Af))))))) o rfl (Ag o Pt rfl) λo=>dq 14 (St.ldsX u i2 (Aa t0 (Aa t1 (Aa t2 (Aa t3 (Aa t4 (Aa t6 Af))))))) o rfl (λw hl=>Ah o isAgg3 rfl (PH.le.cell (λb o hx=>(Lds.le hl) b o ((cp (cp F3.sub u0.sub) E2.sub) b o hx)) (A5 1 _ rfl))) λo=>da1 (i:=8) (by kernel_rfl) ?_
 refine di (i:=8) rfl<|c1 o rfl call48 (Jae (Ai _) L5 (St.srH u (M5.mono (cp (cp F3.sub u0.sub) E2.sub))) M6) ⟨rfl,trivial⟩ (λv w a hR o=>?_)
 obtain ⟨G3,C2,Y6,rfl,L4,hk⟩:=hR
 replace u:=u.fresh hk
 replace L4:=L4 C4
 refine ⟨λ_=>(St.ldsX u i2 (Aa t1 (Aa t2 (Aa t3 (Aa t4 (Aa t5 (Aa t7 Af))))))),?_⟩
 refine dq 15 (St.ldsX u i2 (Aa t1 (Aa t2 (Aa t3 (Aa t4 (Aa t5 (Aa t7 Af))))))) o rfl (λw hl=>Bi [SL G3 V2 C2,i6 A4.At] [SL G3 V2 C2,i6 A4.At] o ⟨rfl,rfl,trivial⟩ (λw=>by kernel_rfl)) λo=>da1 (i:=16) (by kernel_rfl) ?_
 obtain ⟨H115,I3,O5,P5,u⟩:=St.frzS u .head L4
 refine di (i:=16) rfl<|Bh (e:=74) (sz:=2) [SL G3 V2 C2,i6 A4.At] o rfl u rfl rfl rfl (λw=>by kernel_rfl) λn6 w a u o=>?_
 have Q5:Rows (α:=api_Claim) H115 [SL G3 V2 C2,i6 A4.At] ([(api_Claim.mk V2 A4.At)]:List api_Claim):=(.cons (c:=[SL G3 V2 C2,i6 A4.At]) ⟨_,_,rfl,⟨_,_,rfl,P5,O5⟩,rfl⟩ .nil)
 refine ⟨λ_=>(St.ldsX u I3.sub (Aa t1 (Aa t2 (Aa t3 (Aa t4 (Aa t5 (Aa t7 Af))))))),?_⟩
 refine da1 (i:=17) (by kernel_rfl) ?_
 refine di (i:=17) rfl<|Cc (α:=api_Claim) (xs:=T2) (ys:=([(api_Claim.mk V2 A4.At)]:List api_Claim)) o rfl u underlying25 Tr rfl (by decide) rfl rfl rfl t6 (l4.mono I3.sub) (u.rdO t0) Q5 P6 λR5 G5 S5 w a T5 hU o=>?_
 replace u:=hU _ (.tail (.tail (.tail (.tail (.tail (.tail .head))))))
 replace u:=u.drop .head
 refine ⟨λ_=>(St.ldsX u I3.sub (Aa t0 (Aa t1 (Aa t2 (Aa t3 (Aa t4 (Aa t6 Af))))))),?_⟩
 refine ds 18 (St.ldsX u I3.sub (Aa t0 (Aa t1 (Aa t2 (Aa t3 (Aa t4 (Aa t6 Af))))))) o rfl (Ag o Ev rfl) λo=>da1 (i:=19) (by kernel_rfl) ?_
 refine di (i:=19) rfl<|As o u sizeOf25 rfl rfl rfl rfl (.tail (.tail (.tail (.tail (.tail (.tail .head)))))) (.succ (.succ (.succ (.succ (.succ .zero))))) λw u=>⟨λh=>absurd rfl h,?_⟩
 refine de (by kernel_rfl)<|bn<|tn<|rg<|qm o rfl λo=>qv o (Ao o rfl rfl) λo=>qa o rfl λo=>re<|tn<|?_
 exact ⟨(S4,O6,(IntKind.i64.wrap (U2+1))),⟨H115,R5,G5,S5,hm,(Ext.trans F3 I3),o.hs,u,T5⟩,Nat.lt_succ_self _⟩
 refine tn<|cfv o rfl j4<|we<|tx<|tx<|bx<|tn<|?_
 replace u:=u.pk [1,1,1,1,1,1] rfl
 exact ⟨T2,C4,M3,E3,O3,hm,F3,o.has ⟨rfl,rfl,trivial⟩,u,l4⟩
 rintro a w ⟨Y1,J4,D3,B2,K4,hm,P1,o,u,U5⟩
 unfold Zp at hm
 refine th<|rg<|qv o (Ar o Tryz.isAgg27 Tryz.sizeOf27 rfl rfl (u.ld.cellsB t5)) λo=>ls<|Aw o u sizeOf27 rfl rfl rfl rfl (Ak rfl) .head λw u=>re<|tn<|wr<|?_
 obtain ⟨H128,F2,V5,W5,u⟩:=St.frzS u (.tail .head) (K5.mono P1.sub)
 obtain ⟨H132,G2,X5,Y5,u⟩:=St.frzS u (.tail .head) (B6.mono (cp (cp F2.sub P1.sub) u0.sub))
 obtain ⟨H136,I2,d5,j5,u⟩:=St.frzS u (.tail .head) (I5.mono (cp (cp (cp G2.sub F2.sub) P1.sub) u0.sub))
 obtain ⟨H140,J2,k5,n5,u⟩:=St.frzS u (.tail .head) (U5.mono (cp (cp I2.sub G2.sub) F2.sub))
 obtain rfl:=si hm
 exact r1c (vs:=[SL E1 Y0 j0,SL n0 U0 P0,SL Q0 V0 J0,SL B1 R0 W0,SL C1 S0 X0,SL D3 Y1 B2]) (.inl rfl) o results15 rfl isAgg27 sizeOf27 rfl (u.ld.cellsB t0) ⟨H140,_,rfl,(show Enc.rep (α:=api_Prog) H140 [SL E1 Y0 j0,SL n0 U0 P0,SL Q0 V0 J0,SL B1 R0 W0,SL C1 S0 X0,SL D3 Y1 B2] (api_Prog.mk Y0 U0 V0 R0 S0 Y1) from ⟨_,_,rfl,⟨_,_,rfl,W5,(V5.mono (cp (cp J2.sub I2.sub) G2.sub))⟩,⟨_,_,rfl,⟨_,_,rfl,Y5,(X5.mono (cp J2.sub I2.sub))⟩,⟨_,_,rfl,⟨_,_,rfl,j5,(d5.mono J2.sub)⟩,⟨_,_,rfl,⟨_,_,rfl,hcA18,(hrA19.mono (cp (cp (cp (cp (cp J2.sub I2.sub) G2.sub) F2.sub) P1.sub) u0.sub))⟩,⟨_,_,rfl,⟨_,_,rfl,hcA23,(hrA24.mono (cp (cp (cp (cp (cp J2.sub I2.sub) G2.sub) F2.sub) P1.sub) u0.sub))⟩,⟨_,_,rfl,n5,k5⟩⟩⟩⟩⟩⟩),(Ext.trans E2 (Ext.trans u0 (Ext.trans P1 (Ext.trans F2 (Ext.trans G2 (Ext.trans I2 J2)))))),(St.le u),u.keep⟩
theorem Rp (hH:H.le w0) {cs2:List Value} {p1:api_Prog} (g3:Enc.rep H cs2 p1) {r:api_Prog} (hm:Z67 N p1=some r):Tot Tryz.prog 65 #[.agg cs2.toArray] w0 (λv w'=>∃ (H':PH) (b0:Nat) (cs0:List Value),v=.func (.func 108) #[] #[PT b0]∧H' b0=some (.cells cs0.toArray 27 (0,0))∧Enc.rep H' cs0 r∧Ext w0 H H'∧H'.le w'∧Keep Nil w0 w'):=by
 unfold Z67 at hm
 refine fn0 func65 rfl ntmps65 rfl rfl λa o=>?_
 have u:St w0 Nil [H] [] w0:=start1 hH
 obtain ⟨Q0,I0,R0,J0,K0,D0,M0,E0,O0,F0,P0,G0,rfl,C1,E1,T0,U0,V0,W0,X0,Y0,j0,n0,p0,u0⟩:=Av g3
 refine th<|rg<|ls<|Bz (cs:=[SL Q0 p1.Lines I0,SL R0 p1.Vols J0,SL K0 p1.Locks D0,SL M0 p1.Threads E0,SL O0 p1.Recover F0,SL P0 p1.Claims G0].toArray) o rfl u rfl rfl λS0 w a u o=>qa o rfl λo=>re<|tn<|th<|rg<|qv o (Pn (vs:=[PT S0]) o ⟨rfl,trivial⟩) λo=>qa o rfl λo=>re<|tn<|wr<|?_
 obtain ⟨H31,C0,B1,u⟩:=St.frzB u .head
 obtain rfl:=si hm
 exact r1 o results65 rfl ⟨H31,S0,_,rfl,B1,(show Enc.rep (α:=api_Prog) H31 [SL Q0 p1.Lines I0,SL R0 p1.Vols J0,SL K0 p1.Locks D0,SL M0 p1.Threads E0,SL O0 p1.Recover F0,SL P0 p1.Claims G0] p1 from ⟨_,_,rfl,⟨_,_,rfl,C1,(E1.mono C0.sub)⟩,⟨_,_,rfl,⟨_,_,rfl,T0,(U0.mono C0.sub)⟩,⟨_,_,rfl,⟨_,_,rfl,V0,(W0.mono C0.sub)⟩,⟨_,_,rfl,⟨_,_,rfl,X0,(Y0.mono C0.sub)⟩,⟨_,_,rfl,⟨_,_,rfl,j0,(n0.mono C0.sub)⟩,⟨_,_,rfl,p0,(u0.mono C0.sub)⟩⟩⟩⟩⟩⟩),C0,(St.le u),u.keep⟩
theorem Rv (hH:H.le w0) {τ:Type} {y:τ→(api_Cell×Int)→Option (τ×Bool)} {C:τ→PH→List HA→Prop} {lyl:Nat} (hy:YC Tryz.prog lyl C (λ(H:PH) (args:List Value) (x:api_Cell×Int)=>∃ (cs0:List Value),args=[.agg cs0.toArray,i6 x.2]∧Enc.rep H cs0 x.1) y) (_:∀ s H H' L,(∀ b o,H b=some o→H' b=some o)→C s H L→C s H' L) {s0:τ} {Lc:List HA} (hC:C s0 H Lc) {cs3:List Value} {y2:api_Prog} (g4:Enc.rep H cs3 y2) {b1:Nat} (E1:H b1=some (.cells cs3.toArray 27 (0,0))) (hO:(sepA [sepA Lc]).ok (hp w0)) (hD:∀ b,(sepA [sepA Lc]).fp b→H b=none) {r:τ} (hm:Z68 N y s0 y2=some r):Tot Tryz.prog 108 #[.func (.yield lyl) #[] #[],PT b1] w0 (λv w'=>∃ (H':PH) (Lcq:List HA),v=.tuple #[]∧C r H' Lcq∧ExtM w0 (sepA [sepA Lc]).fp H H'∧H'.le w'∧(∀ b,(sepA [sepA Lcq]).fp b→H' b=none)∧Mut w0 (sepA [sepA Lc]) (sepA [sepA Lcq]) w'):=by
 unfold Z68 at hm
 refine fn0 func108 rfl ntmps108 rfl rfl λa o=>?_
 have u:=Cg hH hO hD
 obtain ⟨F1,U0,V1,S1,T2,O2,U2,P2,V2,Q2,W2,R2,rfl,J3,U1,X2,G1,Y2,A3,B3,C3,D3,E3,F3,G3⟩:=Av g4
 refine th<|th<|rg<|qv o (Ag o Cm rfl) λo=>qv o (Ah o isAgg22 rfl (PH.le.cell (Lds.le u.ld) (Fs E1 rfl))) λo=>qv o (Al (α:=(List api_Cell)) (xs:=y2.Lines) o runUnderlying22 rfl) λo=>qm o rfl λo=>re<|tn<|Ay (λa w=>∃ (n0:τ) (M0:PH) (LcA3:List HA),(Z69 N y y2) n0=some r∧ExtM w0 (sepA [sepA Lc]).fp H M0∧Fr 48 [(0,.func (.yield lyl) #[] #[]),(1,PT b1)] a∧St w0 (sepA [sepA Lc]).fp [M0] [sepA LcA3] w∧C n0 M0 LcA3) ?_ ?_
 refine wb<|lp (α:=Nat×Int×τ) (λgh a w=>match gh with | (K0,C0,P0)=>∃ (J0:PH) (LcB4:List HA),(Z6b N (Z69 N y y2) y y2) K0 C0 P0=some r∧ExtM w0 (sepA [sepA Lc]).fp H J0∧Fr 48 [(0,.func (.yield lyl) #[] #[]),(1,PT b1),(10,SL F1 y2.Lines U0),(11,i6 (y2.Lines.length:Int)),(12,i6 C0)] a∧St w0 (sepA [sepA Lc]).fp [J0] [sepA LcB4] w∧C P0 J0 LcB4) (λgh=>gh.1) (N,0,s0) ⟨H,Lc,hm,(ExtM.refl _ _ _),o.hs,u,hC⟩ ?_
 rintro ⟨K0,C0,P0⟩ a w ⟨J0,LcB4,hm,F0,o,u,hCB5⟩
 obtain _ | K0:=K0
 simp [Z6b] at hm
 rw [Z6b] at hm
 refine th<|rg<|qv o (Au o rfl rfl) λo=>re<|?_
 rcases bip hm with ⟨V0,hm⟩ | ⟨V0,hm⟩
 refine tn<|th<|ctv o rfl V0<|wk<|tn<|th<|Ay (λa w=>∃ (p0:τ) (Q0:PH) (LcC3:List HA),(Z6a (Z6b N (Z69 N y y2) y y2 K0) C0) p0=some r∧ExtM w0 (sepA [sepA Lc]).fp J0 Q0∧Fr 48 [(0,.func (.yield lyl) #[] #[]),(1,PT b1),(10,SL F1 y2.Lines U0),(11,i6 (y2.Lines.length:Int)),(12,i6 C0)] a∧St w0 (sepA [sepA Lc]).fp [Q0] [sepA LcC3] w∧C p0 Q0 LcC3) ?_ ?_
 refine wb<|th<|?_
 obtain ⟨u0,I1,hm⟩:=bs hm
 obtain ⟨K3,E2,X1⟩:=SR.get U1 I1
 obtain ⟨Y1,T1,rfl,I3,J1⟩:=E2
 refine rg<|qm o rfl λo=>qv o (Aq o runUnderlying22 sizeOf23 rfl rfl I1 (SR.oaI U1 (by decide) I1)) λo=>qv o (Ah o isAgg23 rfl (PH.le.cell (λb o hx=>(Lds.le u.ld) b o (F0.sub b o hx)) (X1 0 _ rfl))) λo=>?_
 iterate 2 refine qa o rfl λo=>?_
 refine re<|tn<|th<|rg<|qm o rfl λo=>qv o (Al (α:=api_Cell) (xs:=u0) o runUnderlying23 rfl) λo=>qm o rfl λo=>re<|tn<|wb<|lp (α:=Nat×Int×τ) (λgh a w=>match gh with | (R0,B1,C1)=>∃ (HD1:PH) (LcD4:List HA),(Z6c N (Z6a (Z6b N (Z69 N y y2) y y2 K0) C0) y u0 C0) R0 B1 C1=some r∧ExtM w0 (sepA [sepA Lc]).fp J0 HD1∧Fr 48 [(0,.func (.yield lyl) #[] #[]),(1,PT b1),(3,i6 C0),(10,SL F1 y2.Lines U0),(11,i6 (y2.Lines.length:Int)),(12,i6 C0),(17,SL Y1 u0 T1),(18,i6 (u0.length:Int)),(19,i6 B1)] a∧St w0 (sepA [sepA Lc]).fp [HD1] [sepA LcD4] w∧C C1 HD1 LcD4) (λgh=>gh.1) (N,0,P0) ⟨J0,LcB4,hm,(ExtM.refl _ _ _),o.hs,u,hCB5⟩ ?_
 rintro ⟨R0,B1,C1⟩ a w ⟨HD1,LcD4,hm,hxHD1,o,u,hCD5⟩
 obtain _ | R0:=R0
 simp [Z6c] at hm
 rw [Z6c] at hm
 refine th<|rg<|qv o (Au o rfl rfl) λo=>re<|?_
 rcases bip hm with ⟨W0,hm⟩ | ⟨W0,hm⟩
 refine tn<|th<|ctv o rfl W0<|wk<|tn<|th<|wb<|th<|?_
 obtain ⟨D0,M1,hm⟩:=bs hm
 obtain ⟨L3,F2,B2⟩:=SR.get J1 M1
 obtain rfl:=Bl F2
 refine rg<|qv o (Aq o Tryz.runUnderlying23 Tryz.sizeOf53 rfl rfl M1 (SR.oaI J1 (by decide) M1)) λo=>qv o (Ar o isAgg53 sizeOf53 rfl rfl (λj v hj=>PH.le.cell (λb o hx=>(Lds.le u.ld) b o ((cp hxHD1.sub F0.sub) b o hx)) (B2 j v hj))) λo=>ls<|Ap (cs:=[Ac [],i6 0,i6 0].toArray) o rfl u zeroValue53 rfl λM3 w a u o=>ls<|Aw o u sizeOf53 rfl rfl rfl rfl (Ak rfl) .head λw u=>re<|tn<|th<|?_
 obtain ⟨G2,I2,hm⟩:=bs hm
 refine rg<|qm o rfl λo=>qv o (Ar o isAgg53 sizeOf53 rfl rfl (u.ld.cellsB t0)) λo=>qm o rfl λo=>lsy rfl<|ly (vs:=[.agg #[Ac D0.Name,i6 D0.N,i6 D0.At],i6 C0]) o rfl rfl ⟨rfl,rfl,trivial⟩ hy u t1 hCD5 ⟨[Ac D0.Name,i6 D0.N,i6 D0.At],rfl,(show Enc.rep (α:=api_Cell) HD1 [Ac D0.Name,i6 D0.N,i6 D0.At] D0 from ⟨_,_,rfl,rfl,⟨_,_,rfl,rfl,rfl⟩⟩)⟩ I2 (λa w H52 Lc51 hC50 O1 hU o=>?_)
 replace u:=hU _ (.tail .head)
 refine qv o (Bc o rfl) λo=>re<|?_
 rcases bit hm with ⟨X0,hm⟩ | ⟨X0,hm⟩
 refine tn<|cfv o rfl (by rw [X0];rfl)<|wk<|bn<|tn<|rg<|qv o (Ao o rfl rfl) λo=>qm o rfl λo=>re<|tn<|?_
 replace u:=u.pk [1] rfl
 exact ⟨(R0,(IntKind.i64.wrap (B1+1)),G2.1),⟨H52,Lc51,hm,(ExtM.trans hxHD1 O1),o.hs,u,hC50⟩,Nat.lt_succ_self _⟩
 refine tn<|ctv o rfl (by rw [X0];rfl)<|wr<|br<|tr<|tr<|br<|br<|tr<|tr<|br<|tr<|?_
 obtain rfl:=si hm
 exact r0 o results108 ⟨H52,Lc51,rfl,hC50,(ExtM.trans F0 (ExtM.trans hxHD1 O1)),(St.le u),(St.disL (u.pickL (.cons (.tail .head) .nil))),(u.pickL (.cons (.tail .head) .nil)).endMut⟩
 refine tn<|th<|cfv o rfl W0<|we<|tx<|tx<|bx<|bn<|tn<|?_
 exact ⟨C1,HD1,LcD4,hm,hxHD1,o.hs,u,hCD5⟩
 rintro a w ⟨p0,Q0,LcC3,hm,hxHC1,o,u,hCC4⟩
 unfold Z6a at hm
 refine rg<|qv o (Ao o rfl rfl) λo=>qm o rfl λo=>re<|tn<|?_
 exact ⟨(K0,(IntKind.i64.wrap (C0+1)),p0),⟨Q0,LcC3,hm,(ExtM.trans F0 hxHC1),o.hs,u,hCC4⟩,Nat.lt_succ_self _⟩
 refine tn<|th<|cfv o rfl V0<|we<|tx<|tx<|bx<|tn<|?_
 exact ⟨P0,J0,LcB4,hm,F0,o.has ⟨rfl,rfl,trivial⟩,u,hCB5⟩
 rintro a w ⟨n0,M0,LcA3,hm,G0,o,u,hCA4⟩
 unfold Z69 at hm
 refine th<|rg<|qv o (Ag o Df rfl) λo=>qv o (Ah o isAgg23 rfl (PH.le.cell (λb o hx=>(Lds.le u.ld) b o (G0.sub b o hx)) (Fs E1 rfl))) λo=>qv o (Al (α:=api_Cell) (xs:=y2.Vols) o runUnderlying23 rfl) λo=>qm o rfl λo=>re<|tn<|wb<|lp (α:=Nat×Int×τ) (λgh a w=>match gh with | (S0,T0,P1)=>∃ (O0:PH) (LcA8:List HA),(Z6d N y y2) S0 T0 P1=some r∧ExtM w0 (sepA [sepA Lc]).fp M0 O0∧Fr 48 [(0,.func (.yield lyl) #[] #[]),(1,PT b1),(31,SL V1 y2.Vols S1),(32,i6 (y2.Vols.length:Int)),(33,i6 T0)] a∧St w0 (sepA [sepA Lc]).fp [O0] [sepA LcA8] w∧C P1 O0 LcA8) (λgh=>gh.1) (N,0,n0) ⟨M0,LcA3,hm,(ExtM.refl _ _ _),o.hs,u,hCA4⟩ ?_
 rintro ⟨S0,T0,P1⟩ a w ⟨O0,LcA8,hm,I0,o,u,hCA9⟩
 obtain _ | S0:=S0
 simp [Z6d] at hm
 rw [Z6d] at hm
 refine th<|rg<|qv o (Au o rfl rfl) λo=>re<|?_
 rcases bip hm with ⟨Y0,hm⟩ | ⟨Y0,hm⟩
 refine tn<|th<|ctv o rfl Y0<|wk<|tn<|th<|wb<|th<|?_
 obtain ⟨E0,Q1,hm⟩:=bs hm
 obtain ⟨O3,J2,C2⟩:=SR.get G1 Q1
 obtain rfl:=Bl J2
 refine rg<|qm o rfl λo=>qv o (Aq o runUnderlying23 sizeOf53 rfl rfl Q1 (SR.oaI G1 (by decide) Q1)) λo=>qv o (Ar o isAgg53 sizeOf53 rfl rfl (λj v hj=>PH.le.cell (λb o hx=>(Lds.le u.ld) b o ((cp I0.sub G0.sub) b o hx)) (C2 j v hj))) λo=>ls<|Ap (cs:=[Ac [],i6 0,i6 0].toArray) o rfl u zeroValue53 rfl λP3 w a u o=>qa o rfl λo=>ls<|Aw o u sizeOf53 rfl rfl rfl rfl (Ak rfl) .head λw u=>re<|tn<|th<|?_
 obtain ⟨K2,M2,hm⟩:=bs hm
 refine rg<|qm o rfl λo=>qv o (Ar o isAgg53 sizeOf53 rfl rfl (u.ld.cellsB t0)) λo=>qv o (Ag o Cm rfl) λo=>qv o (Ah o isAgg22 rfl (PH.le.cell (λb o hx=>(Lds.le u.ld) b o ((cp I0.sub G0.sub) b o hx)) (Fs E1 rfl))) λo=>qv o (Al (α:=(List api_Cell)) (xs:=y2.Lines) o runUnderlying22 rfl) λo=>qm o rfl λo=>qv o (Ao o rfl rfl) λo=>lsy rfl<|ly (vs:=[.agg #[Ac E0.Name,i6 E0.N,i6 E0.At],i6 (IntKind.i64.wrap ((y2.Lines.length:Int)+T0))]) o rfl rfl ⟨rfl,rfl,trivial⟩ hy u t1 hCA9 ⟨[Ac E0.Name,i6 E0.N,i6 E0.At],rfl,(show Enc.rep (α:=api_Cell) O0 [Ac E0.Name,i6 E0.N,i6 E0.At] E0 from ⟨_,_,rfl,rfl,⟨_,_,rfl,rfl,rfl⟩⟩)⟩ M2 (λa w H66 Lc65 hC64 R1 hU o=>?_)
 replace u:=hU _ (.tail .head)
 refine qv o (Bc o rfl) λo=>re<|?_
 rcases bit hm with ⟨j0,hm⟩ | ⟨j0,hm⟩
 refine tn<|cfv o rfl (by rw [j0];rfl)<|wk<|bn<|tn<|rg<|qv o (Ao o rfl rfl) λo=>qm o rfl λo=>re<|tn<|?_
 replace u:=u.pk [1] rfl
 exact ⟨(S0,(IntKind.i64.wrap (T0+1)),K2.1),⟨H66,Lc65,hm,(ExtM.trans I0 R1),o.hs,u,hC64⟩,Nat.lt_succ_self _⟩
 refine tn<|ctv o rfl (by rw [j0];rfl)<|wr<|br<|tr<|tr<|br<|?_
 obtain rfl:=si hm
 exact r0 o results108 ⟨H66,Lc65,rfl,hC64,(ExtM.trans G0 (ExtM.trans I0 R1)),(St.le u),(St.disL (u.pickL (.cons (.tail .head) .nil))),(u.pickL (.cons (.tail .head) .nil)).endMut⟩
 refine tn<|th<|cfv o rfl Y0<|we<|tx<|tx<|bx<|?_
 obtain rfl:=si hm
 exact r0n o results108 ⟨O0,LcA8,rfl,hCA9,(ExtM.trans G0 I0),(St.le u),(St.disL (u.pickL (.cons .head .nil))),(u.pickL (.cons .head .nil)).endMut⟩
theorem Ty (hH:H.le w0) {p1:Str} {p2:Int} {p3:Int} {b5:Nat} {p4:(List (Str×Int))} {mz6 cz8:Nat} {l7:List (Str×Value×Nat)} (F0:MRel kI l7 p4) {b11:Nat} {p10:Bool} {b13:Nat} {p12:Int} (hO:(sepA [bk b5 [.map (some mz6)] 75,Bw kS mz6 l7 cz8,bk b11 [.bool p10] 4,bk b13 [i6 p12] 3]).ok (hp w0)) (hD:∀ b,(sepA [bk b5 [.map (some mz6)] 75,Bw kS mz6 l7 cz8,bk b11 [.bool p10] 4,bk b13 [i6 p12] 3]).fp b→H b=none) {r:((List (Str×Int))×Bool×Int)} (hm:Z6i N p1 p2 p3 p4 p10 p12=some r):Tot Tryz.prog 78 #[Ac p1,i6 p2,i6 p3,PT b5,PT b11,PT b13] w0 (λv w'=>∃ (m1m:Nat) (l1m:List (Str×Value×Nat)) (c1m:Nat),v=.tuple #[]∧MRel kI l1m r.1∧Mut w0 (sepA [bk b5 [.map (some mz6)] 75,Bw kS mz6 l7 cz8,bk b11 [.bool p10] 4,bk b13 [i6 p12] 3]) (sepA [bk b5 [.map (some m1m)] 75,Bw kS m1m l1m c1m,bk b11 [.bool r.2.1] 4,bk b13 [i6 r.2.2] 3]) w'):=by
 unfold Z6i at hm
 refine fn0 func78 rfl ntmps78 rfl rfl λa o=>?_
 have u:=Cg hH hO hD
 refine th<|th<|rg<|qv o (Ah o Tryz.isAgg75 rfl (u.ld.cellB t0 rfl)) λo=>qm o rfl λo=>qv o (Ih (ev:=kI) (dv:=0) (m:=p4) (k:=p1) o Np runUnderlying75 zeroValue3 (Lds.mapO u.ld t1) rfl rfl F0) λo=>qv o (Bu o rfl rfl) λo=>qm o rfl λo=>gr (Fk:=[(0,Ac p1),(1,i6 p2),(2,i6 p3),(3,PT b5),(4,PT b11),(5,PT b13),(16,.bool ((decide (((Bd p1 p4).getD 0)≠0)) && (!p10)))]) 13 3 o u ?_ ?_ ?_
 intro hb o key
 exact qg o (Ah o isAgg4 rfl (u.ld.cellB t2 rfl)) λo=>qg o (Bc o rfl) λo=>qk o (Ad o rfl rfl) key u hb
 intro hb o key
 iterate 2 refine qn o λo=>?_
 exact qk o (Ae o rfl rfl) key u hb
 intro a w o u
 refine re<|tn<|Ay (λa w=>∃ (D0:Bool) (E0:Int),(Z6j p1 p2 p4) D0 E0=some r∧Fr 21 [(0,Ac p1),(1,i6 p2),(3,PT b5),(4,PT b11),(5,PT b13)] a∧St w0 (sepA [bk b5 [.map (some mz6)] 75,Bw kS mz6 l7 cz8,bk b11 [.bool p10] 4,bk b13 [i6 p12] 3]).fp [H] [Bw kS mz6 l7 cz8,bk b5 [.map (some mz6)] 75,bk b11 [.bool D0] 4,bk b13 [i6 E0] 3] w) ?_ ?_
 rcases bit hm with ⟨C0,hm⟩ | ⟨C0,hm⟩
 refine ctv o rfl C0<|rg<|qm o rfl λo=>ls<|As o u sizeOf3 rfl rfl rfl rfl (.tail (.tail (.tail .head))) .zero λw u=>ls<|As o u sizeOf4 rfl rfl rfl rfl (.tail (.tail .head)) .zero λw u=>re<|tn<|?_
 replace u:=u.pk [1,0,0,0] rfl
 exact ⟨true,p3,hm,o.hs,u⟩
 refine cfv o rfl C0<|wk<|tn<|?_
 replace u:=u.pk [1,0,0,0] rfl
 exact ⟨p10,p12,hm,o.hs,u⟩
 rintro a w ⟨D0,E0,hm,o,u⟩
 unfold Z6j at hm
 refine rg<|qv o (Ah o Tryz.isAgg75 rfl (u.ld.cellB t1 rfl)) λo=>?_
 iterate 2 refine qm o rfl λo=>?_
 refine ls<|Vm (ev:=kI) (m:=p4) (k:=p1) (v:=p2) o u Np runUnderlying75 rfl rfl rfl t0 F0 λI0 J0 w G0 hU=>?_
 replace u:=hU _ .head
 refine re<|?_
 obtain rfl:=si hm
 exact r0n o results78 ⟨mz6,I0,J0,rfl,G0,(u.pickL (.cons (.tail .head) (.cons .head (.cons .head (.cons .head .nil))))).endMut⟩
set_option maxHeartbeats 4000000 in
theorem Jap (hH:H.le w0) {cs2:List Value} {p1:api_Prog} (g3:Enc.rep H cs2 p1) {r:((List (Str×Int))×Int×Bool)} (hm:Z6h N p1=some r):Tot Tryz.prog 49 #[.agg cs2.toArray] w0 (λv w'=>∃ (m0:Nat) (l0:List (Str×Value×Nat)) (c0:Nat),v=.tuple #[.map (some m0),i6 r.2.1,.bool r.2.2]∧MRel kI l0 r.1∧Fresh w0 (Bw kS m0 l0 c0) w'):=by
 unfold Z6h at hm
 refine fnM func49 rfl ntmps49 rfl rfl λa o=>?_
 have u:St w0 Nil [H] [] w0:=start1 hH
 replace u:=St.ds0 u
 obtain ⟨E1,U0,F1,V0,P0,F0,Q0,G0,W0,J0,X0,K0,rfl,M5,O5,X3,Y3,l3,Q2,A4,R2,B4,C4,D4,E4⟩:=Av g3
 refine th<|rg<|ls<|Bz (cs:=[SL E1 p1.Lines U0,SL F1 p1.Vols V0,SL P0 p1.Locks F0,SL Q0 p1.Threads G0,SL W0 p1.Recover J0,SL X0 p1.Claims K0].toArray) o rfl u rfl rfl λR0 w a u o=>?_
 iterate 3 refine qa o rfl λo=>?_
 refine re<|tn<|th<|rg<|ls<|Uf o rfl u λm29 w a u o=>?_
 replace u:=St.gmap0 (kv:=kS) u
 have F4:MRel (κ:=Str) (β:=Int) kI [] []:=MRel.nil _
 refine ls<|Ap (cs:=[.map none].toArray) o rfl u zeroValue75 rfl λC0 w a u o=>ls<|As o u sizeOf75 rfl rfl rfl rfl .head .zero λw u=>re<|tn<|th<|rg<|ls<|Ap (cs:=[i6 0].toArray) o rfl u Tryz.zeroValue3 rfl λD0 w a u o=>re<|tn<|th<|rg<|ls<|Ap (cs:=[.bool false].toArray) o rfl u Tryz.zeroValue4 rfl λE0 w a u o=>ls<|As o u sizeOf4 rfl rfl rfl rfl .head .zero λw u=>re<|tn<|th<|rg<|qv o (Pn (vs:=[PT C0,PT E0,PT D0]) o ⟨rfl,rfl,rfl,trivial⟩) λo=>ls<|Ap (cs:=[.nilFunc].toArray) o rfl u zeroValue105 rfl λM0 w a u o=>ls<|As o u sizeOf105 rfl rfl rfl rfl .head .zero λw u=>re<|tn<|th<|th<|?_
 obtain ⟨J1,P5,hm⟩:=bs hm
 refine rg<|qv o (Ar o Tryz.isAgg27 Tryz.sizeOf27 rfl rfl (u.ld.cellsB t5)) λo=>ls<|c1 o rfl call65 (Rp (St.le u) (show Enc.rep (α:=api_Prog) H [SL E1 p1.Lines U0,SL F1 p1.Vols V0,SL P0 p1.Locks F0,SL Q0 p1.Threads G0,SL W0 p1.Recover J0,SL X0 p1.Claims K0] p1 from ⟨_,_,rfl,⟨_,_,rfl,M5,O5⟩,⟨_,_,rfl,⟨_,_,rfl,X3,Y3⟩,⟨_,_,rfl,⟨_,_,rfl,l3,Q2⟩,⟨_,_,rfl,⟨_,_,rfl,A4,R2⟩,⟨_,_,rfl,⟨_,_,rfl,B4,C4⟩,⟨_,_,rfl,D4,E4⟩⟩⟩⟩⟩⟩) P5) ⟨rfl,trivial⟩ (λv w a hR o=>?_)
 obtain ⟨H40,J2,cs43,rfl,G4,Q5,M1,I4,hk⟩:=hR
 obtain ⟨u,M1⟩:=And.intro (St.passH u hk M1 I4) (St.extc u M1)
 obtain ⟨J4,K3,K4,L3,L4,M3,M4,O3,O4,P3,P4,Q3,rfl,Q4,R4,S4,T4,U4,V4,W4,X4,Y4,d4,j4,k4⟩:=Av Q5
 refine re<|tn<|wb<|?_
 replace o:Fr 65 [(1,PT R0),(5,PT C0),(6,PT D0),(7,PT E0),(8,PT M0),(19,.func (.func 108) #[] #[PT J2])] _:=o.hs
 replace u:=u.pk [6,5,4,3,2,1,0] rfl
 obtain ⟨q69,R5,hm⟩:=bs hm
 refine rf (ŝ:=q69) (lb:=[PT J2]) (ps:=[20,21]) (I:=λ(gh:((List (Str×Int))×Int×Bool)) (p0:PH) (L:List HA)=>match gh with | (G1,S0,T0)=>∃ (I0:Nat) (Y0:List (Str×Value×Nat)) (j0:Nat),L=[bk R0 [SL E1 p1.Lines U0,SL F1 p1.Vols V0,SL P0 p1.Locks F0,SL Q0 p1.Threads G0,SL W0 p1.Recover J0,SL X0 p1.Claims K0] 27,Bw kS I0 Y0 j0,bk C0 [.map (some I0)] 75,bk D0 [i6 S0] 3,bk E0 [.bool T0] 4,bk M0 [.func (.func 78) #[] #[PT C0,PT E0,PT D0]] 105]∧(∀ b o,H40 b=some o→p0 b=some o)∧MRel kI Y0 G1) (J:=λ(_:Empty) (_:Code) (_:PH) (_:List HA)=>False) (λ(s:((List (Str×Int))×Int×Bool)) (x:(api_Cell×Int))=>(Z6k N p1) s.1 s.2.1 s.2.2 x) (λ(H:PH) (args:List Value) (x:api_Cell×Int)=>∃ (cs0:List Value),args=[.agg cs0.toArray,i6 x.2]∧Enc.rep H cs0 x.1) o rfl call108 rfl (by rintro H args x ⟨_,rfl,_⟩;rfl) u ⟨m29,[],0,rfl,i2,F4⟩ (by rintro ⟨G1,S0,T0⟩ H Hn L hs ⟨I0,Y0,j0,rfl,hu,hmA6⟩;exact ⟨_,_,_,rfl,(cp hs hu),hmA6⟩) (λt=>t.elim) (λlq C Lc w1 hyc hcm hc hle hok hdis=>Lg (Rv hle hyc hcm hc (show Enc.rep (α:=api_Prog) H40 [SL J4 J1.Lines K3,SL K4 J1.Vols L3,SL L4 J1.Locks M3,SL M4 J1.Threads O3,SL O4 J1.Recover P3,SL P4 J1.Claims Q3] J1 from ⟨_,_,rfl,⟨_,_,rfl,Q4,R4⟩,⟨_,_,rfl,⟨_,_,rfl,S4,T4⟩,⟨_,_,rfl,⟨_,_,rfl,U4,V4⟩,⟨_,_,rfl,⟨_,_,rfl,W4,X4⟩,⟨_,_,rfl,⟨_,_,rfl,Y4,d4⟩,⟨_,_,rfl,j4,k4⟩⟩⟩⟩⟩⟩) G4 (Ie hok) (Fz hdis) R5)) ?_ ?_ ?_
 intro l X Y s O0 r p0 Lu args w0 a K Qr hI hex hm o u hK hN hR
 obtain ⟨G1,S0,T0⟩:=s
 obtain ⟨I0,Y0,j0,rfl,R3,hmA6⟩:=hI
 replace hm:(Z6k N p1) G1 S0 T0 O0=some r:=hm
 unfold Z6k at hm
 obtain ⟨cs130,rfl,l4⟩:=hex
 replace o:Fr 65 [(21,i6 O0.2),(20,.agg cs130.toArray),(1,PT R0),(5,PT C0),(6,PT D0),(7,PT E0),(8,PT M0),(19,.func (.func 108) #[] #[PT J2])] a:=o
 obtain rfl:=Bl l4
 refine th<|rg<|ls<|Ap (cs:=[Ac [],i6 0,i6 0].toArray) o rfl u Tryz.zeroValue53 rfl λG3 w a u o=>ls<|Aw o u sizeOf53 rfl rfl rfl rfl (Ak rfl) .head λw u=>re<|tn<|rg<|qa o rfl λo=>re<|?_
 replace u:=u.pk [1,0,0,0,0,0,0,0] rfl
 refine tn<|hK _ _ _ _ u λw u=>wb<|th<|rg<|qa o rfl λo=>re<|tn<|th<|th<|rg<|qm o rfl λo=>qv o (Ag o Cm rfl) λo=>qv o (Ah o isAgg22 rfl (u.ld.cellB t2 rfl)) λo=>qv o (Al (α:=(List api_Cell)) (xs:=p1.Lines) o runUnderlying22 rfl) λo=>qv o (Bm o rfl rfl) λo=>re<|tn<|Ay (λa w=>∃ (D3:Int),(Z6l N O0 G1 S0 T0) D3=some r∧Fr 65 [(1,PT R0),(5,PT C0),(6,PT D0),(7,PT E0),(8,PT M0),(9,PT G3),(11,i6 D3),(19,.func (.func 108) #[] #[PT J2])] a∧St w0 (sepA (X :: [bk R0 [SL E1 p1.Lines U0,SL F1 p1.Vols V0,SL P0 p1.Locks F0,SL Q0 p1.Threads G0,SL W0 p1.Recover J0,SL X0 p1.Claims K0] 27,Bw kS I0 Y0 j0,bk C0 [.map (some I0)] 75,bk D0 [i6 S0] 3,bk E0 [.bool T0] 4,bk M0 [.func (.func 78) #[] #[PT C0,PT E0,PT D0]] 105])).fp [p0] [bk R0 [SL E1 p1.Lines U0,SL F1 p1.Vols V0,SL P0 p1.Locks F0,SL Q0 p1.Threads G0,SL W0 p1.Recover J0,SL X0 p1.Claims K0] 27,Bw kS I0 Y0 j0,bk C0 [.map (some I0)] 75,bk D0 [i6 S0] 3,bk E0 [.bool T0] 4,bk M0 [.func (.func 78) #[] #[PT C0,PT E0,PT D0]] 105,bk G3 [Ac O0.1.Name,i6 O0.1.N,i6 O0.1.At] 53,Y] w) ?_ ?_
 rcases bip hm with ⟨U1,hm⟩ | ⟨U1,hm⟩
 refine ctv o rfl U1<|rg<|qa o rfl λo=>re<|tn<|?_
 replace u:=u.pk [2,2,2,2,2,2,1,0] rfl
 exact ⟨2,hm,o.hs,u⟩
 refine cfv o rfl U1<|wk<|tn<|?_
 replace u:=u.pk [2,2,2,2,2,2,1,0] rfl
 exact ⟨1,hm,o.hs,u⟩
 rintro a w ⟨D3,hm,o,u⟩
 unfold Z6l at hm
 obtain ⟨j5,A5,hm⟩:=bs hm
 refine rg<|qv o (Ah o Tryz.isAgg105 rfl (u.ld.cellB t5 rfl)) λo=>qv o (Ag o Ee rfl) λo=>qv o (Ah o isAgg9 rfl (u.ld.cellB t6 rfl)) λo=>qm o rfl λo=>qv o (Ag o Nt rfl) λo=>qv o (Ah o isAgg3 rfl (u.ld.cellB t6 rfl)) λo=>?_
 replace u:=u.pk [2,1,2,1,0,0,0,0] rfl
 replace u:=St.sep [bk C0 [.map (some I0)] 75,Bw kS I0 Y0 j0,bk E0 [.bool T0] 4,bk D0 [i6 S0] 3] u
 refine ls<|k1 (vs:=[Ac O0.1.Name,i6 D3,i6 O0.1.At]) (caps:=[PT C0,PT E0,PT D0]) o rfl rfl call78 (Ty (St.le u) (p4:=G1) (b5:=C0) (mz6:=I0) (l7:=Y0) (cz8:=j0) (p10:=T0) (b11:=E0) (p12:=S0) (b13:=D0) hmA6 (St.sepOk u) (St.sepDis u) A5) ⟨rfl,rfl,rfl,trivial⟩ rfl (λv w a hR o=>?_)
 obtain ⟨m136,B5,C5,rfl,S3,hk⟩:=hR
 replace u:=(u.mut hk .head).unsep
 refine re<|bn<|?_
 obtain rfl:=si hm
 replace u:=u.pk [7,4,1,0,1,0,0] rfl
 exact hN _ _ _ _ _ rfl (ExtM.refl _ _ _) ⟨m136,B5,C5,rfl,R3,S3⟩ u
 rintro ⟨G1,S0,T0⟩ D140 p0 Lu a w rfl ⟨I0,Y0,j0,rfl,huHA1,hmA6⟩ I1 o u
 replace I1:=ExtM.nil I1
 try dsimp only at hm
 replace o:Fr ⟨65,(D140 :: [])⟩ [(1,PT R0),(5,PT C0),(6,PT D0),(7,PT E0),(8,PT M0),(19,.func (.func 108) #[] #[PT J2])] a:=o
 replace u:St w0 Nil [p0] [dsA (D140 :: []),bk R0 [SL E1 p1.Lines U0,SL F1 p1.Vols V0,SL P0 p1.Locks F0,SL Q0 p1.Threads G0,SL W0 p1.Recover J0,SL X0 p1.Claims K0] 27,Bw kS I0 Y0 j0,bk C0 [.map (some I0)] 75,bk D0 [i6 S0] 3,bk E0 [.bool T0] 4,bk M0 [.func (.func 78) #[] #[PT C0,PT E0,PT D0]] 105] w:=u
 refine bn<|tn<|th<|th<|rg<|qv o (Ag o Gq rfl) λo=>qv o (Ah o isAgg23 rfl (u.ld.cellB t1 rfl)) λo=>qv o (Al (α:=api_Cell) (xs:=p1.Locks) o runUnderlying23 rfl) λo=>qm o rfl λo=>re<|tn<|Ay (λa w=>∃ (V1:(List (Str×Int))) (X1:Int) (Y1:Bool) (E3:Nat) (B2:List (Str×Value×Nat)) (T2:Nat),(Z6m N p1) V1 X1 Y1=some r∧Fr ⟨65,(D140 :: [])⟩ [(1,PT R0),(5,PT C0),(6,PT D0),(7,PT E0),(8,PT M0)] a∧St w0 Nil [p0] [bk R0 [SL E1 p1.Lines U0,SL F1 p1.Vols V0,SL P0 p1.Locks F0,SL Q0 p1.Threads G0,SL W0 p1.Recover J0,SL X0 p1.Claims K0] 27,Bw kS E3 B2 T2,bk C0 [.map (some E3)] 75,bk D0 [i6 X1] 3,bk E0 [.bool Y1] 4,bk M0 [.func (.func 78) #[] #[PT C0,PT E0,PT D0]] 105,dsA (D140 :: [])] w∧MRel kI B2 V1) ?_ ?_
 replace u:=u.pk [1,1,1,1,1,1,0] rfl
 refine wb<|lp (α:=Nat×(List (Str×Int))×Int×Bool×Int) (λ(gh:Nat×(List (Str×Int))×Int×Bool×Int) a w=>match gh with | (K2,M2,R1,S1,F3)=>∃ (O1:Nat) (T1:List (Str×Value×Nat)) (O2:Nat),(Z6o N (Z6m N p1) p1) K2 M2 R1 S1 F3=some r∧Fr ⟨65,(D140 :: [])⟩ [(1,PT R0),(5,PT C0),(6,PT D0),(7,PT E0),(8,PT M0),(35,SL P0 p1.Locks F0),(36,i6 (p1.Locks.length:Int)),(37,i6 F3)] a∧St w0 Nil [p0] [bk R0 [SL E1 p1.Lines U0,SL F1 p1.Vols V0,SL P0 p1.Locks F0,SL Q0 p1.Threads G0,SL W0 p1.Recover J0,SL X0 p1.Claims K0] 27,Bw kS O1 T1 O2,bk C0 [.map (some O1)] 75,bk D0 [i6 R1] 3,bk E0 [.bool S1] 4,bk M0 [.func (.func 78) #[] #[PT C0,PT E0,PT D0]] 105,dsA (D140 :: [])] w∧MRel kI T1 M2) (λgh=>gh.1) (N,G1,S0,T0,0) ⟨I0,Y0,j0,hm,o.hs,u,hmA6⟩ ?_
 rintro ⟨K2,M2,R1,S1,F3⟩ a w ⟨O1,T1,O2,hm,o,u,hmB6⟩
 obtain _ | K2:=K2
 simp [Z6o] at hm
 rw [Z6o] at hm
 refine th<|rg<|qv o (Au o rfl rfl) λo=>re<|?_
 rcases bip hm with ⟨C2,hm⟩ | ⟨C2,hm⟩
 refine tn<|th<|ctv o rfl C2<|wk<|tn<|th<|wb<|th<|?_
 obtain ⟨I3,U2,hm⟩:=bs hm
 obtain ⟨k5,D5,T3⟩:=SR.get Q2 U2
 obtain rfl:=Bl D5
 refine rg<|qv o (Aq o Tryz.runUnderlying23 Tryz.sizeOf53 rfl rfl U2 (SR.oaI Q2 (by decide) U2)) λo=>qv o (Ar o isAgg53 sizeOf53 rfl rfl (λj v hj=>PH.le.cell (λb o hx=>(Lds.le u.ld) b o ((cp I1.sub M1.sub) b o hx)) (T3 j v hj))) λo=>ls<|Ap (cs:=[Ac [],i6 0,i6 0].toArray) o rfl u zeroValue53 rfl λn5 w a u o=>ls<|Aw o u sizeOf53 rfl rfl rfl rfl (Ak rfl) .head λw u=>re<|tn<|?_
 obtain ⟨V2,E5,hm⟩:=bs hm
 refine rg<|qv o (Ah o Tryz.isAgg105 rfl (u.ld.cellB t6 rfl)) λo=>qv o (Ag o Ee rfl) λo=>qv o (Ah o isAgg9 rfl (u.ld.cellB t0 rfl)) λo=>qv o (Ag o Nt rfl) λo=>qv o (Ah o isAgg3 rfl (u.ld.cellB t0 rfl)) λo=>?_
 replace u:=u.pk [3,2,3,2,0,0,0,0] rfl
 replace u:=St.sep [bk C0 [.map (some O1)] 75,Bw kS O1 T1 O2,bk E0 [.bool S1] 4,bk D0 [i6 R1] 3] u
 refine ls<|k1 (vs:=[Ac I3.Name,i6 3,i6 I3.At]) (caps:=[PT C0,PT E0,PT D0]) o rfl rfl call78 (Ty (St.le u) (p4:=M2) (b5:=C0) (mz6:=O1) (l7:=T1) (cz8:=O2) (p10:=S1) (b11:=E0) (p12:=R1) (b13:=D0) hmB6 (St.sepOk u) (St.sepDis u) E5) ⟨rfl,rfl,rfl,trivial⟩ rfl (λv w a hR o=>?_)
 obtain ⟨m151,F5,G5,rfl,U3,hk⟩:=hR
 replace u:=(u.mut hk .head).unsep
 refine re<|bn<|tn<|rg<|qv o (Ao o rfl rfl) λo=>qm o rfl λo=>re<|tn<|?_
 replace u:=u.pk [5,1,0,1,0,1,1] rfl
 exact ⟨(K2,V2.1,V2.2.2,V2.2.1,(IntKind.i64.wrap (F3+1))),⟨m151,F5,G5,hm,o.hs,u,U3⟩,Nat.lt_succ_self _⟩
 refine tn<|th<|cfv o rfl C2<|we<|tx<|tx<|bx<|tn<|?_
 exact ⟨M2,R1,S1,O1,T1,O2,hm,o.hs,u,hmB6⟩
 rintro a w ⟨V1,X1,Y1,E3,B2,T2,hm,o,u,hmA13⟩
 unfold Z6m at hm
 refine th<|th<|rg<|qv o (Ag o Dr rfl) λo=>qv o (Ah o isAgg24 rfl (u.ld.cellB t0 rfl)) λo=>qv o (Al (α:=api_Thread) (xs:=p1.Threads) o runUnderlying24 rfl) λo=>qm o rfl λo=>re<|tn<|Ay (λa w=>∃ (W2:(List (Str×Int))) (X2:Int) (Y2:Bool) (E2:Nat) (F2:List (Str×Value×Nat)) (A3:Nat),Z6n W2 X2 Y2=some r∧Fr ⟨65,(D140 :: [])⟩ [(5,PT C0),(6,PT D0),(7,PT E0)] a∧St w0 Nil [p0] [Bw kS E2 F2 A3,bk C0 [.map (some E2)] 75,bk D0 [i6 X2] 3,bk E0 [.bool Y2] 4,dsA (D140 :: [])] w∧MRel kI F2 W2) ?_ ?_
 replace u:=u.pk [1,1,1,1,1,1] rfl
 refine wb<|lp (α:=Nat×(List (Str×Int))×Int×Bool×Int) (λ(gh:Nat×(List (Str×Int))×Int×Bool×Int) a w=>match gh with | (P2,P1,u0,B1,G2)=>∃ (n0:Nat) (C1:List (Str×Value×Nat)) (Q1:Nat),(Z6p N Z6n p1) P2 P1 u0 B1 G2=some r∧Fr ⟨65,(D140 :: [])⟩ [(5,PT C0),(6,PT D0),(7,PT E0),(8,PT M0),(49,SL Q0 p1.Threads G0),(50,i6 (p1.Threads.length:Int)),(51,i6 G2)] a∧St w0 Nil [p0] [Bw kS n0 C1 Q1,bk C0 [.map (some n0)] 75,bk D0 [i6 u0] 3,bk E0 [.bool B1] 4,bk M0 [.func (.func 78) #[] #[PT C0,PT E0,PT D0]] 105,dsA (D140 :: [])] w∧MRel kI C1 P1) (λgh=>gh.1) (N,V1,X1,Y1,0) ⟨E3,B2,T2,hm,o.hs,u,hmA13⟩ ?_
 rintro ⟨P2,P1,u0,B1,G2⟩ a w ⟨n0,C1,Q1,hm,o,u,hmB14⟩
 obtain _ | P2:=P2
 simp [Z6p] at hm
 rw [Z6p] at hm
 refine th<|rg<|qv o (Au o rfl rfl) λo=>re<|?_
 rcases bip hm with ⟨I2,hm⟩ | ⟨I2,hm⟩
 refine tn<|th<|ctv o rfl I2<|wk<|tn<|th<|wb<|th<|?_
 obtain ⟨J3,B3,hm⟩:=bs hm
 obtain ⟨u5,I5,V3⟩:=SR.get R2 B3
 obtain ⟨U5,S5,V5,T5,rfl,W5,X5,Y5,d5⟩:=Az I5
 refine rg<|qv o (Aq o Tryz.runUnderlying24 Tryz.sizeOf48 rfl rfl B3 (SR.oaI R2 (by decide) B3)) λo=>qv o (Ar o isAgg48 sizeOf48 rfl rfl (λj v hj=>PH.le.cell (λb o hx=>(Lds.le u.ld) b o ((cp I1.sub M1.sub) b o hx)) (V3 j v hj))) λo=>ls<|Ap (cs:=[Ac [],.slice none 0 0,.slice none 0 0,i6 0].toArray) o rfl u zeroValue48 rfl λA6 w a u o=>ls<|Aw o u sizeOf48 rfl rfl rfl rfl (Ak rfl) .head λw u=>re<|tn<|?_
 obtain ⟨C3,J5,hm⟩:=bs hm
 refine rg<|qv o (Ah o Tryz.isAgg105 rfl (u.ld.cellB t5 rfl)) λo=>qv o (Ag o Fo rfl) λo=>qv o (Ah o isAgg9 rfl (u.ld.cellB t0 rfl)) λo=>qv o (Ag o Iu rfl) λo=>qv o (Ah o isAgg3 rfl (u.ld.cellB t0 rfl)) λo=>?_
 replace u:=u.pk [2,1,2,1,0,0,0] rfl
 replace u:=St.sep [bk C0 [.map (some n0)] 75,Bw kS n0 C1 Q1,bk E0 [.bool B1] 4,bk D0 [i6 u0] 3] u
 refine ls<|k1 (vs:=[Ac J3.Name,i6 4,i6 J3.At]) (caps:=[PT C0,PT E0,PT D0]) o rfl rfl call78 (Ty (St.le u) (p4:=P1) (b5:=C0) (mz6:=n0) (l7:=C1) (cz8:=Q1) (p10:=B1) (b11:=E0) (p12:=u0) (b13:=D0) hmB14 (St.sepOk u) (St.sepDis u) J5) ⟨rfl,rfl,rfl,trivial⟩ rfl (λv w a hR o=>?_)
 obtain ⟨m172,K5,L5,rfl,W3,hk⟩:=hR
 replace u:=(u.mut hk .head).unsep
 refine re<|bn<|tn<|rg<|qv o (Ao o rfl rfl) λo=>qm o rfl λo=>re<|tn<|?_
 replace u:=u.pk [1,0,1,0,1,1] rfl
 exact ⟨(P2,C3.1,C3.2.2,C3.2.1,(IntKind.i64.wrap (G2+1))),⟨m172,K5,L5,hm,o.hs,u,W3⟩,Nat.lt_succ_self _⟩
 refine tn<|th<|cfv o rfl I2<|we<|tx<|tx<|bx<|tn<|?_
 replace u:=u.pk [0,0,0,0,1] rfl
 exact ⟨P1,u0,B1,n0,C1,Q1,hm,o.hs,u,hmB14⟩
 rintro a w ⟨W2,X2,Y2,E2,F2,A3,hm,o,u,hmA20⟩
 unfold Z6n at hm
 refine th<|rxS 6 u wide (by kernel_rfl) λw u=>xq u.ld o (λw hl=>Ah o isAgg75 rfl (hl.cellB t1 rfl)) λo=>xq u.ld o (λw hl=>Ah o isAgg3 rfl (hl.cellB t2 rfl)) λo=>xq u.ld o (λw hl=>Ah o isAgg4 rfl (hl.cellB t3 rfl)) λo=>?_
 iterate 3 refine xq u.ld o (λw hl=>Bo o rfl) λo=>?_
 refine xe<|tn<|wr<|?_
 obtain rfl:=si hm
 replace u:=u.pk [4,0,0,0,0] rfl
 exact rM (.inl rfl) o u λw u=>⟨_,JaW o rfl rfl rfl rfl,⟨E2,F2,A3,rfl,hmA20,u.endFresh t0⟩⟩
 exact λt=>t.elim
theorem Rj (hH:H.le w0) {p1:Int} {r:Bool} (hm:Z7u N p1=some r):Tot Tryz.prog 117 #[.int .u8 p1] w0 (λv w'=>v=.bool r∧Keep Nil w0 w'):=by
 unfold Z7u at hm
 refine fn0 func117 rfl ntmps117 rfl rfl λa o=>?_
 have u:St w0 Nil [H] [] w0:=start1 hH
 refine th<|rg<|qa o rfl λo=>re<|tn<|th<|rg<|qm o rfl λo=>qv o (Bm o rfl rfl) λo=>qm o rfl λo=>gr (Fk:=[(0,.int .u8 p1),(8,.bool ((decide (97≤p1)) && (decide (p1≤122))))]) 5 3 o u ?_ ?_ ?_
 intro hb o key
 exact qg o (Ab o rfl) λo=>qg o (Dk o rfl rfl) λo=>qk o (Ad o rfl rfl) key u hb
 intro hb o key
 iterate 2 refine qn o λo=>?_
 exact qk o (Ae o rfl rfl) key u hb
 intro a w o u
 refine qm o rfl λo=>gr (Fk:=[(12,.bool (((decide (97≤p1)) && (decide (p1≤122))) || (decide (p1=95))))]) 9 3 o u ?_ ?_ ?_
 intro hb o key
 iterate 2 refine qn o λo=>?_
 exact qk o (Ad o rfl rfl) key u hb
 intro hb o key
 exact qg o (Ab o rfl) λo=>qg o (Am o rfl rfl) λo=>qk o (Ae o rfl rfl) key u hb
 intro a w o u
 refine qa o rfl λo=>re<|tn<|wr<|?_
 obtain rfl:=si hm
 exact r1 o results117 rfl ⟨rfl,u.keep⟩
theorem Jb1 (hH:H.le w0) (hT:Tab H)  {r:(List (Str×Bool))} (hm:Z7r N  = some r):Tot Tryz.prog 153 #[] w0 (λv w'=>∃ (m0:Nat) (l0:List (Str×Value×Nat)) (c0:Nat),v=.map (some m0)∧MRel Value.bool l0 r∧Fresh w0 (Bw kS m0 l0 c0) w'):=by
 unfold Z7r at hm
 refine fn0 func153 rfl ntmps153 rfl rfl λa o=>?_
 have u:St w0 Nil [H] [] w0:=start1 hH
 refine th<|rg<|qa o rfl λo=>re<|tn<|th<|rg<|ls<|Uf o rfl u λmz1 w a u o=>?_
 replace u:=St.gmap0 (kv:=kS) u
 have X0:MRel (κ:=Str) (β:=Bool) Value.bool [] []:=MRel.nil _
 refine qa o rfl λo=>re<|tn<|th<|th<|?_
 obtain ⟨D0,h4,hm⟩:=bs hm
 refine rg<|ls<|c1 o rfl Tryz.call165 (Ue (Ai _) (Tab.mono hT (St.up u)) h4) ⟨rfl,rfl,trivial⟩ (λv w a hR o=>?_)
 obtain ⟨T0,M0,Y0,rfl,G0,hk⟩:=hR
 replace u:=u.fresh hk
 replace G0:=G0 H
 refine qv o (Al (α:=Str) (xs:=D0) o runUnderlying36 rfl) λo=>qm o rfl λo=>re<|tn<|Ay (λa w=>∃ (O0:(List (Str×Bool))) (I0:List (Str×Value×Nat)) (P0:Nat),Z7s O0=some r∧Fr 15 [(1,.map (some mz1))] a∧St w0 Nil [H] [Bw kS mz1 I0 P0] w∧MRel Value.bool I0 O0) ?_ ?_
 replace u:=u.pk [1,0] rfl
 refine wb<|lp (α:=Nat×(List (Str×Bool))×Int) (λ(gh:Nat×(List (Str×Bool))×Int) a w=>match gh with | (E0,C0,J0)=>∃ (K0:List (Str×Value×Nat)) (Q0:Nat),(Z7t N Z7s D0) E0 C0 J0=some r∧Fr 15 [(1,.map (some mz1)),(5,SL T0 D0 M0),(6,i6 (D0.length:Int)),(7,i6 J0)] a∧St w0 Nil [H] [Bw kS mz1 K0 Q0,sla 9 1 T0 D0.length M0 Y0] w∧MRel Value.bool K0 C0) (λgh=>gh.1) (N,[],0) ⟨[],0,hm,o.hs,u,X0⟩ ?_
 rintro ⟨E0,C0,J0⟩ a w ⟨K0,Q0,hm,o,u,hmB4⟩
 obtain _ | E0:=E0
 simp [Z7t] at hm
 rw [Z7t] at hm
 refine th<|rg<|qv o (Au o rfl rfl) λo=>re<|?_
 rcases bip hm with ⟨F0,hm⟩ | ⟨F0,hm⟩
 refine tn<|th<|ctv o rfl F0<|wk<|tn<|th<|wb<|th<|?_
 obtain ⟨R0,S0,hm⟩:=bs hm
 have U0:=Rd.oaI (u.rdO t1) G0 (by decide) S0
 obtain ⟨j0,n0,V0⟩:=Rows.getI G0 S0
 obtain rfl:j0=[Ac R0]:=n0
 refine rg<|qv o (Aq o Tryz.runUnderlying36 Tryz.sizeOf9 rfl rfl S0 U0) λo=>qv o (Ah o isAgg9 rfl (u.ld.elO t1 (V0 0 _ rfl))) λo=>qa o rfl λo=>re<|tn<|rg<|qm o rfl λo=>qm o rfl λo=>ls<|Vm (ev:=Value.bool) (m:=C0) (k:=R0) (v:=true) o u Np runUnderlying163 rfl rfl rfl t0 hmB4 λp0 u0 w W0 hU=>?_
 replace u:=hU _ .head
 refine re<|bn<|tn<|rg<|qv o (Ao o rfl rfl) λo=>qm o rfl λo=>re<|tn<|?_
 exact ⟨(E0,(H4 R0 true C0),(IntKind.i64.wrap (J0+1))),⟨p0,u0,hm,o.hs,u,W0⟩,Nat.lt_succ_self _⟩
 refine tn<|th<|cfv o rfl F0<|we<|tx<|tx<|bx<|tn<|?_
 replace u:=u.pk [0] rfl
 exact ⟨C0,K0,Q0,hm,o.has ⟨rfl,trivial⟩,u,hmB4⟩
 rintro a w ⟨O0,I0,P0,hm,o,u,hmA4⟩
 unfold Z7s at hm
 refine th<|rg<|qm o rfl λo=>qa o rfl λo=>re<|tn<|wr<|?_
 obtain rfl:=si hm
 exact r1 o results153 rfl ⟨mz1,I0,P0,rfl,hmA4,u.endFresh t0⟩
theorem JaL (hH:H.le w0) (hT:Tab H) {p1:Str} {r:Bool} (hm:Z7m N p1=some r):Tot Tryz.prog 118 #[Ac p1] w0 (λv w'=>v=.bool r∧Keep Nil w0 w'):=by
 unfold Z7m at hm
 refine fn0 func118 rfl ntmps118 rfl rfl λa o=>?_
 have u:St w0 Nil [H] [] w0:=start1 hH
 refine th<|rg<|qa o rfl λo=>re<|tn<|th<|?_
 obtain ⟨C0,h3,hm⟩:=bs hm
 refine rg<|ls<|c1 o rfl Tryz.call153 (Jb1 (Ai _) (Tab.mono hT (St.up u)) h3) trivial (λv w a hR o=>?_)
 obtain ⟨mz4,l5,cz6,rfl,D0,hk⟩:=hR
 replace u:=u.fresh hk
 refine qm o rfl λo=>qv o (Ih (ev:=Value.bool) (dv:=false) (m:=C0) (k:=p1) o Np runUnderlying163 zeroValue4 (Lds.mapO u.ld t0) rfl rfl D0) λo=>qa o rfl λo=>re<|tn<|wr<|?_
 obtain rfl:=si hm
 exact r1 o results118 rfl ⟨rfl,u.keep⟩
theorem Jbr (hH:H.le w0) {p1:Int} {r:Bool} (hm:Z7q N p1=some r):Tot Tryz.prog 121 #[.int .u8 p1] w0 (λv w'=>v=.bool r∧Keep Nil w0 w'):=by
 unfold Z7q at hm
 refine fn0 func121 rfl ntmps121 rfl rfl λa o=>?_
 have u:St w0 Nil [H] [] w0:=start1 hH
 refine th<|rg<|qa o rfl λo=>re<|tn<|th<|rg<|qm o rfl λo=>qv o (Bm o rfl rfl) λo=>qm o rfl λo=>gr (Fk:=[(8,.bool ((decide (48≤p1)) && (decide (p1≤57))))]) 5 3 o u ?_ ?_ ?_
 intro hb o key
 exact qg o (Ab o rfl) λo=>qg o (Dk o rfl rfl) λo=>qk o (Ad o rfl rfl) key u hb
 intro hb o key
 iterate 2 refine qn o λo=>?_
 exact qk o (Ae o rfl rfl) key u hb
 intro a w o u
 refine qa o rfl λo=>re<|tn<|wr<|?_
 obtain rfl:=si hm
 exact r1 o results121 rfl ⟨rfl,u.keep⟩
theorem Jb0 (hH:H.le w0) {p1:Int} {r:Bool} (hm:Z7o N p1=some r):Tot Tryz.prog 120 #[.int .u8 p1] w0 (λv w'=>v=.bool r∧Keep Nil w0 w'):=by
 unfold Z7o at hm
 refine fn0 func120 rfl ntmps120 rfl rfl λa o=>?_
 have u:St w0 Nil [H] [] w0:=start1 hH
 refine th<|rg<|qa o rfl λo=>re<|tn<|th<|?_
 obtain ⟨D0,h3,hm⟩:=bs hm
 rcases bit hm with ⟨C0,hm⟩ | ⟨C0,hm⟩
 refine rg<|qm o rfl λo=>ls<|cr o call117 (Rj (Ai _) h3) u λu o=>qv o (An (Ab o rfl) (congrArg Value.bool C0)) λo=>?_
 iterate 2 refine qn o λo=>?_
 refine qv o (Ad o rfl rfl) λo=>qa o rfl λo=>re<|tn<|wr<|?_
 obtain rfl:=si hm
 exact r1 o results120 rfl ⟨rfl,u.keep⟩
 obtain ⟨E0,h6,hm⟩:=bs hm
 refine rg<|qm o rfl λo=>ls<|cr o call117 (Rj (Ai _) h3) u λu o=>qv o (An (Ab o rfl) (congrArg Value.bool C0)) λo=>qg o (Ab o rfl) λo=>ls<|gy o rfl rfl<|cr o call121 (Jbr (Ai _) h6) u λu o=>qv o (Ae o rfl rfl) λo=>qa o rfl λo=>re<|tn<|wr<|?_
 obtain rfl:=si hm
 exact r1 o results120 rfl ⟨rfl,u.keep⟩
theorem Jbw (hH:H.le w0) {p1:Str} {r:Int} (hm:Z7v N p1=some r):Tot Tryz.prog 119 #[Ac p1,.func (.func 120) #[] #[]] w0 (λv w'=>v=i6 r∧Keep Nil w0 w'):=by
 unfold Z7v at hm
 refine fn0 func119 rfl ntmps119 rfl rfl λa o=>?_
 have u:St w0 Nil [H] [] w0:=start1 hH
 refine th<|rg<|qa o rfl λo=>re<|tn<|th<|rg<|qa o rfl λo=>re<|tn<|th<|Ay (λa w=>∃ (E0:Int),Z7w E0=some r∧Fr 20 [(5,i6 E0)] a∧St w0 Nil [H] [] w) ?_ ?_
 refine wb<|lp (α:=Nat×Int) (λgh a w=>match gh with | (D0,C0)=>(Z7y N Z7w p1) D0 C0=some r∧Fr 20 [(0,Ac p1),(1,.func (.func 120) #[] #[]),(5,i6 C0)] a∧St w0 Nil [H] [] w) (λgh=>gh.1) (N,0) ⟨hm,o.hs,u⟩ ?_
 rintro ⟨D0,C0⟩ a w ⟨hm,o,u⟩
 obtain _ | D0:=D0
 simp [Z7y] at hm
 rw [Z7y] at hm
 refine th<|th<|Ay (λa w=>∃ (F0:Bool),(Z7x Z7w (Z7y N Z7w p1 D0) C0) F0=some r∧Fr 20 [(0,Ac p1),(1,.func (.func 120) #[] #[]),(5,i6 C0),(16,.bool F0)] a∧St w0 Nil [H] [] w) ?_ ?_
 rcases bip hm with ⟨G0,hm⟩ | ⟨G0,hm⟩
 obtain ⟨J0,h4,hm⟩:=bs hm
 obtain ⟨K0,h6,hm⟩:=bs hm
 refine rg<|qm o rfl λo=>qm o rfl λo=>qv o (Bj (s:=p1) o runUnderlying9 rfl) λo=>qv o (Au o rfl rfl) λo=>qv o (An (Ab o rfl) (congrArg Value.bool G0)) λo=>?_
 iterate 3 refine qg o (Ab o rfl) λo=>?_
 refine qg o (Ci (s:=p1) o runUnderlying9 rfl rfl h4) λo=>ls<|gy o rfl rfl<|k1 (vs:=[.int .u8 J0]) (caps:=[]) o rfl rfl call120 (Jb0 (Ai _) h6) ⟨rfl,trivial⟩ rfl (λv w a hR o=>?_)
 obtain ⟨rfl,hk⟩:=hR
 replace u:=u.pass hk
 refine qv o (Ad o rfl rfl) λo=>re<|tn<|?_
 exact ⟨K0,hm,o.hs,u⟩
 refine rg<|qm o rfl λo=>qm o rfl λo=>qv o (Bj (s:=p1) o runUnderlying9 rfl) λo=>qv o (Au o rfl rfl) λo=>qv o (An (Ab o rfl) (congrArg Value.bool G0)) λo=>?_
 iterate 5 refine qn o λo=>?_
 refine qv o (Ae o rfl rfl) λo=>re<|tn<|?_
 exact ⟨false,hm,o.hs,u⟩
 rintro a w ⟨F0,hm,o,u⟩
 unfold Z7x at hm
 rcases bit hm with ⟨I0,hm⟩ | ⟨I0,hm⟩
 refine ctv o rfl I0<|wk<|tn<|wb<|rg<|qm o rfl λo=>qv o (Ao o rfl rfl) λo=>qa o rfl λo=>re<|bn<|tn<|?_
 exact ⟨(D0,(IntKind.i64.wrap (C0+1))),⟨hm,o.hs,u⟩,Nat.lt_succ_self _⟩
 refine cfv o rfl I0<|we<|tx<|tx<|bx<|tn<|?_
 exact ⟨C0,hm,o.has ⟨rfl,trivial⟩,u⟩
 rintro a w ⟨E0,hm,o,u⟩
 unfold Z7w at hm
 refine th<|rg<|qm o rfl λo=>qa o rfl λo=>re<|tn<|wr<|?_
 obtain rfl:=si hm
 exact r1 o results119 rfl ⟨rfl,u.keep⟩
theorem Lk (hH:H.le w0) (hT:Tab H) {p1:Str} {r:Bool} (hm:Z7n N p1=some r):Tot Tryz.prog 82 #[Ac p1] w0 (λv w'=>v=.bool r∧Keep Nil w0 w'):=by
 unfold Z7n at hm
 refine fn0 func82 rfl ntmps82 rfl rfl λa o=>?_
 have u:St w0 Nil [H] [] w0:=start1 hH
 refine th<|rg<|qa o rfl λo=>re<|tn<|th<|th<|Ay (λa w=>∃ (E0:Bool),(Z7p N p1) E0=some r∧Fr 25 [(0,Ac p1),(19,.bool E0)] a∧St w0 Nil [H] [] w) ?_ ?_
 rcases bit hm with ⟨D0,hm⟩ | ⟨D0,hm⟩
 refine rg<|qm o rfl λo=>qv o (Dh (m:=p1) (n:=[]) o rfl rfl) λo=>qm o rfl λo=>gr (Fk:=[(0,Ac p1),(9,.bool ((decide (p1=[])) || (decide (16 < (p1.length:Int)))))]) 5 4 o u ?_ ?_ ?_
 intro hb o key
 iterate 3 refine qn o λo=>?_
 exact qk o (Ad o rfl rfl) key u hb
 intro hb o key
 exact qg o (Ab o rfl) λo=>qg o (Bj (s:=p1) o runUnderlying9 rfl) λo=>qg o (Bn o rfl rfl) λo=>qk o (Ae o rfl rfl) key u hb
 intro a w o u
 refine qv o (An (Ab o rfl) (congrArg Value.bool D0)) λo=>?_
 iterate 4 refine qn o λo=>?_
 refine qv o (Ad o rfl rfl) λo=>qm o rfl λo=>?_
 iterate 2 refine qn o λo=>?_
 refine qv o (Ad o rfl rfl) λo=>re<|tn<|?_
 exact ⟨true,hm,o.has ⟨rfl,rfl,trivial⟩,u⟩
 obtain ⟨K0,h4,hm⟩:=bs hm
 obtain ⟨G0,h6,hm⟩:=bs hm
 rcases bit hm with ⟨F0,hm⟩ | ⟨F0,hm⟩
 have F0':(!G0)=false:=by rw [F0];rfl
 obtain ⟨I0,h9,hm⟩:=bs hm
 refine rg<|qm o rfl λo=>qv o (Dh (m:=p1) (n:=[]) o rfl rfl) λo=>qm o rfl λo=>gr (Fk:=[(0,Ac p1),(9,.bool ((decide (p1=[])) || (decide (16 < (p1.length:Int)))))]) 5 4 o u ?_ ?_ ?_
 intro hb o key
 iterate 3 refine qn o λo=>?_
 exact qk o (Ad o rfl rfl) key u hb
 intro hb o key
 exact qg o (Ab o rfl) λo=>qg o (Bj (s:=p1) o runUnderlying9 rfl) λo=>qg o (Bn o rfl rfl) λo=>qk o (Ae o rfl rfl) key u hb
 intro a w o u
 refine qv o (An (Ab o rfl) (congrArg Value.bool D0)) λo=>qg o (Ab o rfl) λo=>qg o (Ci (s:=p1) o runUnderlying9 rfl rfl h4) λo=>ls<|gy o rfl rfl<|cr o call117 (Rj (Ai _) h6) u λu o=>qg o (Bc o rfl) λo=>qv o (Ae o rfl rfl) λo=>qv o (An (Ab o rfl) (congrArg Value.bool F0')) λo=>qg o (Ab o rfl) λo=>ls<|gy o rfl rfl<|cr o call118 (JaL (Ai _) (Tab.mono hT (St.up u)) h9) u λu o=>qv o (Ae o rfl rfl) λo=>re<|tn<|?_
 exact ⟨I0,hm,o.has ⟨rfl,rfl,trivial⟩,u⟩
 have F0':(!G0)=true:=by rw [F0];rfl
 refine rg<|qm o rfl λo=>qv o (Dh (m:=p1) (n:=[]) o rfl rfl) λo=>qm o rfl λo=>gr (Fk:=[(0,Ac p1),(9,.bool ((decide (p1=[])) || (decide (16 < (p1.length:Int)))))]) 5 4 o u ?_ ?_ ?_
 intro hb o key
 iterate 3 refine qn o λo=>?_
 exact qk o (Ad o rfl rfl) key u hb
 intro hb o key
 exact qg o (Ab o rfl) λo=>qg o (Bj (s:=p1) o runUnderlying9 rfl) λo=>qg o (Bn o rfl rfl) λo=>qk o (Ae o rfl rfl) key u hb
 intro a w o u
 refine qv o (An (Ab o rfl) (congrArg Value.bool D0)) λo=>qg o (Ab o rfl) λo=>qg o (Ci (s:=p1) o runUnderlying9 rfl rfl h4) λo=>ls<|gy o rfl rfl<|cr o call117 (Rj (Ai _) h6) u λu o=>qg o (Bc o rfl) λo=>qv o (Ae o rfl rfl) λo=>qv o (An (Ab o rfl) (congrArg Value.bool F0')) λo=>?_
 iterate 2 refine qn o λo=>?_
 refine qv o (Ad o rfl rfl) λo=>re<|tn<|?_
 exact ⟨true,hm,o.has ⟨rfl,rfl,trivial⟩,u⟩
 rintro a w ⟨E0,hm,o,u⟩
 unfold Z7p at hm
 rcases bit hm with ⟨C0,hm⟩ | ⟨C0,hm⟩
 refine ctv o rfl C0<|th<|rg<|qa o rfl λo=>re<|tn<|wr<|tr<|?_
 obtain rfl:=si hm
 exact r1 o results82 rfl ⟨rfl,u.keep⟩
 refine cfv o rfl C0<|wk<|tn<|th<|?_
 obtain ⟨M0,J0,hm⟩:=bs hm
 refine rg<|qm o rfl λo=>ls<|cr o call119 (Jbw (Ai _) J0) u λu o=>qm o rfl λo=>qv o (Bj (s:=p1) o runUnderlying9 rfl) λo=>qv o (Am o rfl rfl) λo=>qa o rfl λo=>re<|tn<|wr<|?_
 obtain rfl:=si hm
 exact r1 o results82 rfl ⟨rfl,u.keep⟩
theorem My (hH:H.le w0) {p1:Int} {r:Bool} (hm:Z7j N p1=some r):Tot Tryz.prog 86 #[i6 p1] w0 (λv w'=>v=.bool r∧Keep Nil w0 w'):=by
 unfold Z7j at hm
 refine fn0 func86 rfl ntmps86 rfl rfl λa o=>?_
 have u:St w0 Nil [H] [] w0:=start1 hH
 refine th<|rg<|qa o rfl λo=>re<|tn<|th<|rg<|qm o rfl λo=>qv o (Bm o rfl rfl) λo=>qm o rfl λo=>gr (Fk:=[(8,.bool ((decide (0≤p1)) && (decide (p1≤4000))))]) 5 3 o u ?_ ?_ ?_
 intro hb o key
 exact qg o (Ab o rfl) λo=>qg o (Dk o rfl rfl) λo=>qk o (Ad o rfl rfl) key u hb
 intro hb o key
 iterate 2 refine qn o λo=>?_
 exact qk o (Ae o rfl rfl) key u hb
 intro a w o u
 refine qa o rfl λo=>re<|tn<|wr<|?_
 obtain rfl:=si hm
 exact r1 o results86 rfl ⟨rfl,u.keep⟩
theorem Jbe (hH:H.le w0) (hT:Tab H) {p1:api_Cell} {y3:Int} {b2:Nat} (E0:H b2=some (.cells [i6 y3].toArray 3 (0,0))) {r:Bool} (hm:Z7i N p1 y3=some r):Tot Tryz.prog 116 #[.agg #[Ac p1.Name,i6 p1.N,i6 p1.At],PT b2] w0 (λv w'=>v=.bool r∧Keep Nil w0 w'):=by
 unfold Z7i at hm
 refine fn0 func116 rfl ntmps116 rfl rfl λa o=>?_
 have u:St w0 Nil [H] [] w0:=start1 hH
 refine th<|rg<|ls<|Bz (cs:=[Ac p1.Name,i6 p1.N,i6 p1.At].toArray) o rfl u rfl rfl λb5 w a u o=>qa o rfl λo=>re<|tn<|th<|?_
 obtain ⟨C0,h7,hm⟩:=bs hm
 rcases bit hm with ⟨D0,hm⟩ | ⟨D0,hm⟩
 refine rg<|qv o (Ag o Ee rfl) λo=>qv o (Ah o isAgg9 rfl (u.ld.cellB t0 rfl)) λo=>ls<|cr o call82 (Lk (Ai _) (Tab.mono hT (St.up u)) h7) u λu o=>qv o (Bc o rfl) λo=>qm o rfl λo=>gr (Fk:=[(1,PT b2),(2,PT b5),(12,.bool ((!C0) || (decide (p1.N < 0))))]) 8 4 o u ?_ ?_ ?_
 intro hb o key
 iterate 3 refine qn o λo=>?_
 exact qk o (Ad o rfl rfl) key u hb
 intro hb o key
 exact qg o (Ag o Is rfl) λo=>qg o (Ah o isAgg3 rfl (u.ld.cellB t0 rfl)) λo=>qg o (Au o rfl rfl) λo=>qk o (Ae o rfl rfl) key u hb
 intro a w o u
 refine qm o rfl λo=>gr (Fk:=[(2,PT b5),(18,.bool (((!C0) || (decide (p1.N < 0))) || (decide (y3 < p1.N))))]) 13 5 o u ?_ ?_ ?_
 intro hb o key
 iterate 4 refine qn o λo=>?_
 exact qk o (Ad o rfl rfl) key u hb
 intro hb o key
 exact qg o (Ag o Is rfl) λo=>qg o (Ah o isAgg3 rfl (u.ld.cellB t0 rfl)) λo=>qg o (Ah o isAgg3 rfl (PH.le.cell (Lds.le u.ld) (Fs E0 rfl))) λo=>qg o (Bn o rfl rfl) λo=>qk o (Ae o rfl rfl) key u hb
 intro a w o u
 refine qv o (An (Ab o rfl) (congrArg Value.bool D0)) λo=>?_
 iterate 4 refine qn o λo=>?_
 refine qv o (Ad o rfl rfl) λo=>qa o rfl λo=>re<|tn<|wr<|?_
 obtain rfl:=si hm
 exact r1 o results116 rfl ⟨rfl,u.keep⟩
 obtain ⟨G0,F0,hm⟩:=bs hm
 refine rg<|qv o (Ag o Ee rfl) λo=>qv o (Ah o isAgg9 rfl (u.ld.cellB t0 rfl)) λo=>ls<|cr o call82 (Lk (Ai _) (Tab.mono hT (St.up u)) h7) u λu o=>qv o (Bc o rfl) λo=>qm o rfl λo=>gr (Fk:=[(1,PT b2),(2,PT b5),(12,.bool ((!C0) || (decide (p1.N < 0))))]) 8 4 o u ?_ ?_ ?_
 intro hb o key
 iterate 3 refine qn o λo=>?_
 exact qk o (Ad o rfl rfl) key u hb
 intro hb o key
 exact qg o (Ag o Is rfl) λo=>qg o (Ah o isAgg3 rfl (u.ld.cellB t0 rfl)) λo=>qg o (Au o rfl rfl) λo=>qk o (Ae o rfl rfl) key u hb
 intro a w o u
 refine qm o rfl λo=>gr (Fk:=[(2,PT b5),(18,.bool (((!C0) || (decide (p1.N < 0))) || (decide (y3 < p1.N))))]) 13 5 o u ?_ ?_ ?_
 intro hb o key
 iterate 4 refine qn o λo=>?_
 exact qk o (Ad o rfl rfl) key u hb
 intro hb o key
 exact qg o (Ag o Is rfl) λo=>qg o (Ah o isAgg3 rfl (u.ld.cellB t0 rfl)) λo=>qg o (Ah o isAgg3 rfl (PH.le.cell (Lds.le u.ld) (Fs E0 rfl))) λo=>qg o (Bn o rfl rfl) λo=>qk o (Ae o rfl rfl) key u hb
 intro a w o u
 refine qv o (An (Ab o rfl) (congrArg Value.bool D0)) λo=>qg o (Ag o Nt rfl) λo=>qg o (Ah o isAgg3 rfl (u.ld.cellB t0 rfl)) λo=>ls<|gy o rfl rfl<|cr o call86 (My (Ai _) F0) u λu o=>qg o (Bc o rfl) λo=>qv o (Ae o rfl rfl) λo=>qa o rfl λo=>re<|tn<|wr<|?_
 obtain rfl:=si hm
 exact r1 o results116 rfl ⟨rfl,u.keep⟩
theorem Jbk (hH:H.le w0) (hT:Tab H) {G0:Option Addr} {D0:Nat} {p1:(List api_Cell)} (_:p1.length≤D0) (M0:SR H G0 p1) {y7:Int} {b6:Nat} (P0:H b6=some (.cells [i6 y7].toArray 3 (0,0))) {r:Int} (hm:Z8l N p1 y7=some r):Tot Tryz.prog 152 #[SL G0 p1 D0,.func (.func 116) #[] #[PT b6]] w0 (λv w'=>v=i6 r∧Keep Nil w0 w'):=by
 unfold Z8l at hm
 refine fn0 func152 rfl ntmps152 rfl rfl λa o=>?_
 have u:St w0 Nil [H] [] w0:=start1 hH
 refine th<|rg<|qa o rfl λo=>re<|tn<|th<|th<|rg<|qm o rfl λo=>qv o (Al (α:=api_Cell) (xs:=p1) o runUnderlying23 rfl) λo=>qm o rfl λo=>re<|tn<|Ay (λa w=>Z8m=some r∧Fr 19 [] a∧St w0 Nil [H] [] w) ?_ ?_
 refine wb<|lp (α:=Nat×Int) (λgh a w=>match gh with | (C0,F0)=>(Z8n N Z8m p1 y7) C0 F0=some r∧Fr 19 [(0,SL G0 p1 D0),(1,.func (.func 116) #[] #[PT b6]),(7,i6 (p1.length:Int)),(8,i6 F0)] a∧St w0 Nil [H] [] w) (λgh=>gh.1) (N,0) ⟨hm,o.hs,u⟩ ?_
 rintro ⟨C0,F0⟩ a w ⟨hm,o,u⟩
 obtain _ | C0:=C0
 simp [Z8n] at hm
 rw [Z8n] at hm
 refine th<|rg<|qv o (Au o rfl rfl) λo=>re<|?_
 rcases bip hm with ⟨I0,hm⟩ | ⟨I0,hm⟩
 refine tn<|th<|ctv o rfl I0<|wk<|tn<|th<|wb<|th<|rg<|qm o rfl λo=>qa o rfl λo=>re<|tn<|th<|?_
 obtain ⟨J0,K0,hm⟩:=bs hm
 obtain ⟨S0,Q0,O0⟩:=SR.get M0 K0
 obtain rfl:=Bl Q0
 obtain ⟨T0,R0,hm⟩:=bs hm
 refine rg<|qm o rfl λo=>?_
 iterate 2 refine qm o rfl λo=>?_
 refine qv o (Aq o runUnderlying23 sizeOf53 rfl rfl K0 (SR.oaI M0 (by decide) K0)) λo=>qv o (Ar o isAgg53 sizeOf53 rfl rfl (λj v hj=>PH.le.cell (Lds.le u.ld) (O0 j v hj))) λo=>ls<|k1 (vs:=[.agg #[Ac J0.Name,i6 J0.N,i6 J0.At]]) (caps:=[PT b6]) o rfl rfl call116 (Jbe (Ai _) (Tab.mono hT (St.up u)) (St.up u _ _ P0) R0) ⟨rfl,trivial⟩ rfl (λv w a hR o=>?_)
 obtain ⟨rfl,hk⟩:=hR
 replace u:=u.pass hk
 refine re<|?_
 rcases bit hm with ⟨E0,hm⟩ | ⟨E0,hm⟩
 refine tn<|ctv o rfl E0<|th<|rg<|qm o rfl λo=>qa o rfl λo=>re<|tn<|wr<|br<|tr<|tr<|br<|tr<|?_
 obtain rfl:=si hm
 exact r1 o results152 rfl ⟨rfl,u.keep⟩
 refine tn<|cfv o rfl E0<|wk<|bn<|tn<|rg<|qv o (Ao o rfl rfl) λo=>qm o rfl λo=>re<|tn<|?_
 exact ⟨(C0,(IntKind.i64.wrap (F0+1))),⟨hm,o.hs,u⟩,Nat.lt_succ_self _⟩
 refine tn<|th<|cfv o rfl I0<|we<|tx<|tx<|bx<|tn<|?_
 exact ⟨hm,o.has trivial,u⟩
 rintro a w ⟨hm,o,u⟩
 unfold Z8m at hm
 refine th<|rg<|qa o rfl λo=>re<|tn<|wr<|?_
 obtain rfl:=si hm
 exact r1 o results152 rfl ⟨rfl,u.keep⟩
theorem JaB (hH:H.le w0) (hT:Tab H) {D0:Option Addr} {C0:Nat} {p1:(List api_Cell)} (E0:p1.length≤C0) (F0:SR H D0 p1) {y7:Int} {b6:Nat} (G0:H b6=some (.cells [i6 y7].toArray 3 (0,0))) {r:Bool} (hm:Z86 N p1 y7=some r):Tot Tryz.prog 115 #[SL D0 p1 C0,.func (.func 116) #[] #[PT b6]] w0 (λv w'=>v=.bool r∧Keep Nil w0 w'):=by
 unfold Z86 at hm
 refine fn0 func115 rfl ntmps115 rfl rfl λa o=>?_
 have u:St w0 Nil [H] [] w0:=start1 hH
 refine th<|rg<|qa o rfl λo=>re<|tn<|th<|?_
 obtain ⟨J0,I0,hm⟩:=bs hm
 refine rg<|qm o rfl λo=>qm o rfl λo=>ls<|cr o call152 (Jbk (Ai _) (Tab.mono hT (St.up u)) E0 (St.srH u F0) (St.up u _ _ G0) I0) u λu o=>qv o (Bm o rfl rfl) λo=>qa o rfl λo=>re<|tn<|wr<|?_
 obtain rfl:=si hm
 exact r1 o results115 rfl ⟨rfl,u.keep⟩
theorem Tt (hH:H.le w0) (hT:Tab H) {D0:Option Addr} {C0:Nat} {p1:(List api_Cell)} (E0:p1.length≤C0) (F0:SR H D0 p1) {p6:Int} {r:Bool} (hm:Z7h N p1 p6=some r):Tot Tryz.prog 80 #[SL D0 p1 C0,i6 p6] w0 (λv w'=>v=.bool r∧Keep Nil w0 w'):=by
 unfold Z7h at hm
 refine fn0 func80 rfl ntmps80 rfl rfl λa o=>?_
 have u:St w0 Nil [H] [] w0:=start1 hH
 refine th<|rg<|ls<|Bz (cs:=[i6 p6].toArray) o rfl u rfl rfl λb7 w a u o=>qa o rfl λo=>re<|tn<|th<|?_
 obtain ⟨G0,h9,hm⟩:=bs hm
 refine rg<|qm o rfl λo=>qv o (Pn (vs:=[PT b7]) o ⟨rfl,trivial⟩) λo=>ls<|cr o call115 (JaB (Ai _) (Tab.mono hT (St.up u)) E0 (St.srH u F0) (St.blkO u t0) h9) u λu o=>qv o (Bc o rfl) λo=>qa o rfl λo=>re<|tn<|wr<|?_
 obtain rfl:=si hm
 exact r1 o results80 rfl ⟨rfl,u.keep⟩
theorem Jbo (hH:H.le w0) (hT:Tab H) {E0:Option Addr} {C0:Nat} {p1:(List api_Cell)} (F0:p1.length≤C0) (G0:SR H E0 p1) {r:Bool} (hm:Z7c N p1=some r):Tot Tryz.prog 79 #[SL E0 p1 C0] w0 (λv w'=>v=.bool r∧Keep Nil w0 w'):=by
 unfold Z7c at hm
 refine fn0 func79 rfl ntmps79 rfl rfl λa o=>?_
 have u:St w0 Nil [H] [] w0:=start1 hH
 refine th<|rg<|qa o rfl λo=>re<|tn<|th<|?_
 rcases bip hm with ⟨D0,hm⟩ | ⟨D0,hm⟩
 refine rg<|qm o rfl λo=>qv o (Al (α:=api_Cell) (xs:=p1) o runUnderlying23 rfl) λo=>qv o (Am o rfl rfl) λo=>qv o (An (Ab o rfl) (congrArg Value.bool D0)) λo=>?_
 iterate 3 refine qn o λo=>?_
 refine qv o (Ad o rfl rfl) λo=>qa o rfl λo=>re<|tn<|wr<|?_
 obtain rfl:=si hm
 exact r1 o results79 rfl ⟨rfl,u.keep⟩
 obtain ⟨I0,h8,hm⟩:=bs hm
 refine rg<|qm o rfl λo=>qv o (Al (α:=api_Cell) (xs:=p1) o runUnderlying23 rfl) λo=>qv o (Am o rfl rfl) λo=>qv o (An (Ab o rfl) (congrArg Value.bool D0)) λo=>qg o (Ab o rfl) λo=>ls<|gy o rfl rfl<|cr o call80 (Tt (Ai _) (Tab.mono hT (St.up u)) F0 (St.srH u G0) h8) u λu o=>qg o (Bc o rfl) λo=>qv o (Ae o rfl rfl) λo=>qa o rfl λo=>re<|tn<|wr<|?_
 obtain rfl:=si hm
 exact r1 o results79 rfl ⟨rfl,u.keep⟩
theorem Ja5 (hH:H.le w0) (hT:Tab H) {G0:Option Addr} {D0:Nat} {p1:(List (List api_Cell))} (_:p1.length≤D0) (K0:SR H G0 p1) {r:Int} (hm:Z8f N p1=some r):Tot Tryz.prog 129 #[SL G0 p1 D0,.func (.func 79) #[] #[]] w0 (λv w'=>v=i6 r∧Keep Nil w0 w'):=by
 unfold Z8f at hm
 refine fn0 func129 rfl ntmps129 rfl rfl λa o=>?_
 have u:St w0 Nil [H] [] w0:=start1 hH
 refine th<|rg<|qa o rfl λo=>re<|tn<|th<|th<|rg<|qm o rfl λo=>qv o (Al (α:=(List api_Cell)) (xs:=p1) o runUnderlying22 rfl) λo=>qm o rfl λo=>re<|tn<|Ay (λa w=>Z8g=some r∧Fr 19 [] a∧St w0 Nil [H] [] w) ?_ ?_
 refine wb<|lp (α:=Nat×Int) (λgh a w=>match gh with | (C0,F0)=>(Z8h N Z8g p1) C0 F0=some r∧Fr 19 [(0,SL G0 p1 D0),(1,.func (.func 79) #[] #[]),(7,i6 (p1.length:Int)),(8,i6 F0)] a∧St w0 Nil [H] [] w) (λgh=>gh.1) (N,0) ⟨hm,o.hs,u⟩ ?_
 rintro ⟨C0,F0⟩ a w ⟨hm,o,u⟩
 obtain _ | C0:=C0
 simp [Z8h] at hm
 rw [Z8h] at hm
 refine th<|rg<|qv o (Au o rfl rfl) λo=>re<|?_
 rcases bip hm with ⟨I0,hm⟩ | ⟨I0,hm⟩
 refine tn<|th<|ctv o rfl I0<|wk<|tn<|th<|wb<|th<|rg<|qm o rfl λo=>qa o rfl λo=>re<|tn<|th<|?_
 obtain ⟨R0,h8,hm⟩:=bs hm
 obtain ⟨cz9,S0,M0⟩:=SR.get K0 h8
 obtain ⟨O0,J0,rfl,P0,Q0⟩:=S0
 obtain ⟨U0,T0,hm⟩:=bs hm
 refine rg<|qm o rfl λo=>?_
 iterate 2 refine qm o rfl λo=>?_
 refine qv o (Aq o runUnderlying22 sizeOf23 rfl rfl h8 (SR.oaI K0 (by decide) h8)) λo=>qv o (Ah o isAgg23 rfl (PH.le.cell (Lds.le u.ld) (M0 0 _ rfl))) λo=>ls<|k1 (vs:=[SL O0 R0 J0]) (caps:=[]) o rfl rfl call79 (Jbo (Ai _) (Tab.mono hT (St.up u)) P0 (St.srH u Q0) T0) ⟨rfl,trivial⟩ rfl (λv w a hR o=>?_)
 obtain ⟨rfl,hk⟩:=hR
 replace u:=u.pass hk
 refine re<|?_
 rcases bit hm with ⟨E0,hm⟩ | ⟨E0,hm⟩
 refine tn<|ctv o rfl E0<|th<|rg<|qm o rfl λo=>qa o rfl λo=>re<|tn<|wr<|br<|tr<|tr<|br<|tr<|?_
 obtain rfl:=si hm
 exact r1 o results129 rfl ⟨rfl,u.keep⟩
 refine tn<|cfv o rfl E0<|wk<|bn<|tn<|rg<|qv o (Ao o rfl rfl) λo=>qm o rfl λo=>re<|tn<|?_
 exact ⟨(C0,(IntKind.i64.wrap (F0+1))),⟨hm,o.hs,u⟩,Nat.lt_succ_self _⟩
 refine tn<|th<|cfv o rfl I0<|we<|tx<|tx<|bx<|tn<|?_
 exact ⟨hm,o.has trivial,u⟩
 rintro a w ⟨hm,o,u⟩
 unfold Z8g at hm
 refine th<|rg<|qa o rfl λo=>re<|tn<|wr<|?_
 obtain rfl:=si hm
 exact r1 o results129 rfl ⟨rfl,u.keep⟩
theorem JaF (hH:H.le w0) (hT:Tab H) {D0:Option Addr} {C0:Nat} {p1:(List (List api_Cell))} (E0:p1.length≤C0) (F0:SR H D0 p1) {r:Bool} (hm:Z84 N p1=some r):Tot Tryz.prog 88 #[SL D0 p1 C0,.func (.func 79) #[] #[]] w0 (λv w'=>v=.bool r∧Keep Nil w0 w'):=by
 unfold Z84 at hm
 refine fn0 func88 rfl ntmps88 rfl rfl λa o=>?_
 have u:St w0 Nil [H] [] w0:=start1 hH
 refine th<|rg<|qa o rfl λo=>re<|tn<|th<|?_
 obtain ⟨G0,h7,hm⟩:=bs hm
 refine rg<|qm o rfl λo=>qm o rfl λo=>ls<|cr o call129 (Ja5 (Ai _) (Tab.mono hT (St.up u)) E0 (St.srH u F0) h7) u λu o=>qv o (Bm o rfl rfl) λo=>qa o rfl λo=>re<|tn<|wr<|?_
 obtain rfl:=si hm
 exact r1 o results88 rfl ⟨rfl,u.keep⟩
theorem Ja3 (hH:H.le w0) (hT:Tab H) {p1:Str} {r:Bool} (hm:Z7l N p1=some r):Tot Tryz.prog 122 #[Ac p1] w0 (λv w'=>v=.bool r∧Keep Nil w0 w'):=by
 unfold Z7l at hm
 refine fn0 func122 rfl ntmps122 rfl rfl λa o=>?_
 have u:St w0 Nil [H] [] w0:=start1 hH
 refine th<|rg<|qa o rfl λo=>re<|tn<|th<|?_
 obtain ⟨C0,h3,hm⟩:=bs hm
 refine rg<|qm o rfl λo=>ls<|cr o call82 (Lk (Ai _) (Tab.mono hT (St.up u)) h3) u λu o=>qv o (Bc o rfl) λo=>qa o rfl λo=>re<|tn<|wr<|?_
 obtain rfl:=si hm
 exact r1 o results122 rfl ⟨rfl,u.keep⟩
theorem JaK (hH:H.le w0) (hT:Tab H) {G0:Option Addr} {D0:Nat} {p1:(List Str)} (_:p1.length≤D0) (J0:SR H G0 p1) {r:Int} (hm:Z96 N p1=some r):Tot Tryz.prog 154 #[SL G0 p1 D0,.func (.func 122) #[] #[]] w0 (λv w'=>v=i6 r∧Keep Nil w0 w'):=by
 unfold Z96 at hm
 refine fn0 func154 rfl ntmps154 rfl rfl λa o=>?_
 have u:St w0 Nil [H] [] w0:=start1 hH
 refine th<|rg<|qa o rfl λo=>re<|tn<|th<|th<|rg<|qm o rfl λo=>qv o (Al (α:=Str) (xs:=p1) o runUnderlying36 rfl) λo=>qm o rfl λo=>re<|tn<|Ay (λa w=>Z97=some r∧Fr 19 [] a∧St w0 Nil [H] [] w) ?_ ?_
 refine wb<|lp (α:=Nat×Int) (λgh a w=>match gh with | (C0,F0)=>(Z98 N Z97 p1) C0 F0=some r∧Fr 19 [(0,SL G0 p1 D0),(1,.func (.func 122) #[] #[]),(7,i6 (p1.length:Int)),(8,i6 F0)] a∧St w0 Nil [H] [] w) (λgh=>gh.1) (N,0) ⟨hm,o.hs,u⟩ ?_
 rintro ⟨C0,F0⟩ a w ⟨hm,o,u⟩
 obtain _ | C0:=C0
 simp [Z98] at hm
 rw [Z98] at hm
 refine th<|rg<|qv o (Au o rfl rfl) λo=>re<|?_
 rcases bip hm with ⟨I0,hm⟩ | ⟨I0,hm⟩
 refine tn<|th<|ctv o rfl I0<|wk<|tn<|th<|wb<|th<|rg<|qm o rfl λo=>qa o rfl λo=>re<|tn<|th<|?_
 obtain ⟨K0,h8,hm⟩:=bs hm
 obtain ⟨cz9,O0,M0⟩:=SR.get J0 h8
 obtain rfl:cz9=[Ac K0]:=O0
 obtain ⟨Q0,P0,hm⟩:=bs hm
 refine rg<|qm o rfl λo=>?_
 iterate 2 refine qm o rfl λo=>?_
 refine qv o (Aq o runUnderlying36 sizeOf9 rfl rfl h8 (SR.oaI J0 (by decide) h8)) λo=>qv o (Ah o isAgg9 rfl (PH.le.cell (Lds.le u.ld) (M0 0 _ rfl))) λo=>ls<|k1 (vs:=[Ac K0]) (caps:=[]) o rfl rfl call122 (Ja3 (Ai _) (Tab.mono hT (St.up u)) P0) ⟨rfl,trivial⟩ rfl (λv w a hR o=>?_)
 obtain ⟨rfl,hk⟩:=hR
 replace u:=u.pass hk
 refine re<|?_
 rcases bit hm with ⟨E0,hm⟩ | ⟨E0,hm⟩
 refine tn<|ctv o rfl E0<|th<|rg<|qm o rfl λo=>qa o rfl λo=>re<|tn<|wr<|br<|tr<|tr<|br<|tr<|?_
 obtain rfl:=si hm
 exact r1 o results154 rfl ⟨rfl,u.keep⟩
 refine tn<|cfv o rfl E0<|wk<|bn<|tn<|rg<|qv o (Ao o rfl rfl) λo=>qm o rfl λo=>re<|tn<|?_
 exact ⟨(C0,(IntKind.i64.wrap (F0+1))),⟨hm,o.hs,u⟩,Nat.lt_succ_self _⟩
 refine tn<|th<|cfv o rfl I0<|we<|tx<|tx<|bx<|tn<|?_
 exact ⟨hm,o.has trivial,u⟩
 rintro a w ⟨hm,o,u⟩
 unfold Z97 at hm
 refine th<|rg<|qa o rfl λo=>re<|tn<|wr<|?_
 obtain rfl:=si hm
 exact r1 o results154 rfl ⟨rfl,u.keep⟩
theorem Xz (hH:H.le w0) (hT:Tab H) {D0:Option Addr} {C0:Nat} {p1:(List Str)} (E0:p1.length≤C0) (F0:SR H D0 p1) {r:Bool} (hm:Z8d N p1=some r):Tot Tryz.prog 123 #[SL D0 p1 C0,.func (.func 122) #[] #[]] w0 (λv w'=>v=.bool r∧Keep Nil w0 w'):=by
 unfold Z8d at hm
 refine fn0 func123 rfl ntmps123 rfl rfl λa o=>?_
 have u:St w0 Nil [H] [] w0:=start1 hH
 refine th<|rg<|qa o rfl λo=>re<|tn<|th<|?_
 obtain ⟨G0,h7,hm⟩:=bs hm
 refine rg<|qm o rfl λo=>qm o rfl λo=>ls<|cr o call154 (JaK (Ai _) (Tab.mono hT (St.up u)) E0 (St.srH u F0) h7) u λu o=>qv o (Bm o rfl rfl) λo=>qa o rfl λo=>re<|tn<|wr<|?_
 obtain rfl:=si hm
 exact r1 o results123 rfl ⟨rfl,u.keep⟩
theorem Jbu (hH:H.le w0)  {r:(Arr 15 Str)} (hm:Z9n N  = some r):Tot Tryz.prog 163 #[] w0 (λv w'=>∃ (H':PH) (cs0:List Value),v=.agg cs0.toArray∧Enc.rep H' cs0 r∧Ext w0 H H'∧H'.le w'∧Keep Nil w0 w'):=by
 unfold Z9n at hm
 refine fn0 func163 rfl ntmps163 rfl rfl λa o=>?_
 have u:St w0 Nil [H] [] w0:=start1 hH
 refine th<|rg<|ls<|Ap (cs:=[Ac [],Ac [],Ac [],Ac [],Ac [],Ac [],Ac [],Ac [],Ac [],Ac [],Ac [],Ac [],Ac [],Ac [],Ac []].toArray) o rfl u Tryz.zeroValue176 rfl λb1 w a u o=>re<|tn<|th<|rg<|qv o (Bi [Ac [114,101],Ac [114,110],Ac [110,101],Ac [114,110,101,102],Ac [110],Ac [110],Ac [110],Ac [110],Ac [101,98],Ac [107,98],Ac [101]] [Ac [],Ac [114,101],Ac [114,110],Ac [110,101],Ac [114,110,101,102],Ac [110],Ac [110],Ac [],Ac [],Ac [110],Ac [110],Ac [101,98],Ac [107,98],Ac [],Ac [101]] o ⟨rfl,rfl,rfl,rfl,rfl,rfl,rfl,rfl,rfl,rfl,rfl,trivial⟩ (λw=>by kernel_rfl)) λo=>ls<|Aw o u sizeOf176 rfl rfl rfl rfl (Ak rfl) .head λw u=>re<|tn<|wr<|?_
 obtain rfl:=si hm
 exact r1c (vs:=[Ac [],Ac [114,101],Ac [114,110],Ac [110,101],Ac [114,110,101,102],Ac [110],Ac [110],Ac [],Ac [],Ac [110],Ac [110],Ac [101,98],Ac [107,98],Ac [],Ac [101]]) (.inl rfl) o results163 rfl isAgg176 sizeOf176 rfl (u.ld.cellsB t0) ⟨H,_,rfl,(show Enc.rep (α:=(Arr 15 Str)) H [Ac [],Ac [114,101],Ac [114,110],Ac [110,101],Ac [114,110,101,102],Ac [110],Ac [110],Ac [],Ac [],Ac [110],Ac [110],Ac [101,98],Ac [107,98],Ac [],Ac [101]] (⟨[[],[114,101],[114,110],[110,101],[114,110,101,102],[110],[110],[],[],[110],[110],[101,98],[107,98],[],[101]],rfl⟩:(Arr 15 Str)) from (.cons (c:=[Ac []]) rfl (.cons (c:=[Ac [114,101]]) rfl (.cons (c:=[Ac [114,110]]) rfl (.cons (c:=[Ac [110,101]]) rfl (.cons (c:=[Ac [114,110,101,102]]) rfl (.cons (c:=[Ac [110]]) rfl (.cons (c:=[Ac [110]]) rfl (.cons (c:=[Ac []]) rfl (.cons (c:=[Ac []]) rfl (.cons (c:=[Ac [110]]) rfl (.cons (c:=[Ac [110]]) rfl (.cons (c:=[Ac [101,98]]) rfl (.cons (c:=[Ac [107,98]]) rfl (.cons (c:=[Ac []]) rfl (.cons (c:=[Ac [101]]) rfl .nil)))))))))))))))),(Ext.refl _ _),(St.le u),u.keep⟩
theorem JaY (hH:H.le w0) {p1:Int} {r:Str} (hm:Z9f N p1=some r):Tot Tryz.prog 145 #[i6 p1] w0 (λv w'=>v=Ac r∧Keep Nil w0 w'):=by
 unfold Z9f at hm
 refine fn0 func145 rfl ntmps145 rfl rfl λa o=>?_
 have u:St w0 Nil [H] [] w0:=start1 hH
 refine th<|rg<|qa o rfl λo=>re<|tn<|th<|th<|rg<|qm o rfl λo=>qv o (Au o rfl rfl) λo=>qm o rfl λo=>gr (Fk:=[(0,i6 p1),(8,.bool ((decide (p1 < 0)) || (decide (15≤p1))))]) 5 3 o u ?_ ?_ ?_
 intro hb o key
 iterate 2 refine qn o λo=>?_
 exact qk o (Ad o rfl rfl) key u hb
 intro hb o key
 exact qg o (Ab o rfl) λo=>qg o (Bm o rfl rfl) λo=>qk o (Ae o rfl rfl) key u hb
 intro a w o u
 refine re<|?_
 rcases bit hm with ⟨C0,hm⟩ | ⟨C0,hm⟩
 refine tn<|ctv o rfl C0<|th<|rg<|qa o rfl λo=>re<|tn<|wr<|tr<|?_
 obtain rfl:=si hm
 exact r1 o results145 rfl ⟨rfl,u.keep⟩
 refine tn<|cfv o rfl C0<|wk<|tn<|th<|?_
 obtain ⟨E0,h4,hm⟩:=bs hm
 obtain ⟨J0,F0,hm⟩:=bs hm
 refine rg<|ls<|c1 o rfl Tryz.call163 (Jbu (St.le u) h4) trivial (λv w a hR o=>?_)
 obtain ⟨H8,cs9,rfl,K0,D0,M0,hk⟩:=hR
 obtain ⟨u,D0⟩:=And.intro (St.passH u hk D0 M0) (St.extc u D0)
 have G0:Rows H8 cs9 E0.l:=K0
 refine qm o rfl λo=>?_
 obtain ⟨O0,P0,I0⟩:=Rows.getI G0 F0
 obtain rfl:O0=[Ac J0]:=P0
 refine qv o (Jav o runUnderlying176 sizeOf9 isAgg9 rfl rfl E0.h F0 (I0 0 _ rfl)) λo=>qa o rfl λo=>re<|tn<|wr<|?_
 obtain rfl:=si hm
 exact r1 o results145 rfl ⟨rfl,u.keep⟩
theorem Fy (hH:H.le w0) (hT:Tab H) {p1:Str} {y3:Str} {b2:Nat} (C0:H b2=some (.cells [Ac y3].toArray 9 (0,0))) {r:Bool} (hm:Z9p N p1 y3=some r):Tot Tryz.prog 146 #[Ac p1,PT b2] w0 (λv w'=>v=.bool r∧Keep Nil w0 w'):=by
 unfold Z9p at hm
 refine fn0 func146 rfl ntmps146 rfl rfl λa o=>?_
 have u:St w0 Nil [H] [] w0:=start1 hH
 refine th<|rg<|qa o rfl λo=>re<|tn<|th<|?_
 obtain ⟨D0,h6,hm⟩:=bs hm
 refine rg<|qv o (Ah o Tryz.isAgg9 rfl (PH.le.cell (Lds.le u.ld) (Fs C0 rfl))) λo=>qm o rfl λo=>ls<|cr o call147 (Jb9 (Ai _) (Tab.mono hT (St.up u)) h6) u λu o=>qa o rfl λo=>re<|tn<|wr<|?_
 obtain rfl:=si hm
 exact r1 o results146 rfl ⟨rfl,u.keep⟩
theorem Lf (hH:H.le w0) (hT:Tab H) {p1:Bool} {p2:Str} {r:Bool} (hm:Z9q N p1 p2=some r):Tot Tryz.prog 148 #[.bool p1,Ac p2] w0 (λv w'=>v=.bool r∧Keep Nil w0 w'):=by
 unfold Z9q at hm
 refine fn0 func148 rfl ntmps148 rfl rfl λa o=>?_
 have u:St w0 Nil [H] [] w0:=start1 hH
 refine th<|rg<|qa o rfl λo=>re<|tn<|th<|?_
 rcases bit hm with ⟨C0,hm⟩ | ⟨C0,hm⟩
 obtain ⟨D0,h5,hm⟩:=bs hm
 refine rg<|qm o rfl λo=>qv o (An (Ab o rfl) (congrArg Value.bool C0)) λo=>qg o (Ab o rfl) λo=>ls<|gy o rfl rfl<|cr o call82 (Lk (Ai _) (Tab.mono hT (St.up u)) h5) u λu o=>qv o (Ad o rfl rfl) λo=>qm o rfl λo=>gr (Fk:=[(17,.bool (D0 || ((!p1) && (decide (p2=[])))))]) 10 7 o u ?_ ?_ ?_
 intro hb o key
 iterate 3 refine qn o λo=>?_
 iterate 2 refine ls<|gnu o rfl rfl rfl λa o=>?_
 exact qn o λo=>qk o (Ad o rfl rfl) key u hb
 intro hb o key
 refine qg o (Ab o rfl) λo=>qg o (Bc o rfl) λo=>qg o (Ab o rfl) λo=>gr (Fk:=[(10,.bool false),(16,.bool ((!p1) && (decide (p2=[]))))]) 13 3 o u ?_ ?_ ?_
 intro hb o key
 exact qg o (Ab o rfl) λo=>qg o (Dh (m:=p2) (n:=[]) o rfl rfl) λo=>ql o (Ad o rfl rfl) key u hb
 intro hb o key
 iterate 2 refine qn o λo=>?_
 exact ql o (Ae o rfl rfl) key u hb
 intro a w o u
 exact qk o (Ae o rfl rfl) key u hb
 intro a w o u
 refine qa o rfl λo=>re<|tn<|wr<|?_
 obtain rfl:=si hm
 exact r1 o results148 rfl ⟨rfl,u.keep⟩
 refine rg<|qm o rfl λo=>qv o (An (Ab o rfl) (congrArg Value.bool C0)) λo=>?_
 iterate 2 refine qn o λo=>?_
 refine qv o (Ae o rfl rfl) λo=>qm o rfl λo=>qg o (Ab o rfl) λo=>qg o (Bc o rfl) λo=>qg o (Ab o rfl) λo=>gr (Fk:=[(10,.bool false),(16,.bool ((!p1) && (decide (p2=[]))))]) 13 3 o u ?_ ?_ ?_
 intro hb o key
 exact qg o (Ab o rfl) λo=>qg o (Dh (m:=p2) (n:=[]) o rfl rfl) λo=>ql o (Ad o rfl rfl) key u hb
 intro hb o key
 iterate 2 refine qn o λo=>?_
 exact ql o (Ae o rfl rfl) key u hb
 intro a w o u
 refine qv o (Ae o rfl rfl) λo=>qa o rfl λo=>re<|tn<|wr<|?_
 obtain rfl:=si hm
 exact r1 o results148 rfl ⟨rfl,u.keep⟩
theorem JbA (hH:H.le w0) (hT:Tab H) {p1:api_Node} {r:Bool} (hm:Zc N p1=some r):Tot Tryz.prog 125 #[.agg #[i6 p1.Op,i6 p1.N,Ac p1.Name,i6 p1.At]] w0 (λv w'=>v=.bool r∧Keep Nil w0 w'):=by
 unfold Zc at hm
 refine fn0 func125 rfl ntmps125 rfl rfl λa o=>?_
 have u:St w0 Nil [H] [] w0:=start1 hH
 refine th<|rg<|ls<|Bz (cs:=[i6 p1.Op,i6 p1.N,Ac p1.Name,i6 p1.At].toArray) o rfl u rfl rfl λb2 w a u o=>qa o rfl λo=>re<|tn<|th<|wb<|th<|rg<|qv o (Ag o Nw rfl) λo=>qv o (Ah o isAgg3 rfl (u.ld.cellB t0 rfl)) λo=>qv o (Au o rfl rfl) λo=>qm o rfl λo=>gr (Fk:=[(1,PT b2),(11,.bool ((decide (p1.At < 0)) || (decide (4000 < p1.At))))]) 7 4 o u ?_ ?_ ?_
 intro hb o key
 iterate 3 refine qn o λo=>?_
 exact qk o (Ad o rfl rfl) key u hb
 intro hb o key
 exact qg o (Ag o Nw rfl) λo=>qg o (Ah o isAgg3 rfl (u.ld.cellB t0 rfl)) λo=>qg o (Bn o rfl rfl) λo=>qk o (Ae o rfl rfl) key u hb
 intro a w o u
 refine qa o rfl λo=>re<|?_
 rcases bit hm with ⟨C0,hm⟩ | ⟨C0,hm⟩
 refine tn<|ctv o rfl C0<|th<|rg<|qa o rfl λo=>re<|tn<|wr<|br<|tr<|?_
 obtain rfl:=si hm
 exact r1 o results125 rfl ⟨rfl,u.keep⟩
 refine tn<|cfv o rfl C0<|th<|rg<|qv o (Ag o Eh rfl) λo=>qv o (Ah o isAgg3 rfl (u.ld.cellB t0 rfl)) λo=>qv o (Am o rfl rfl) λo=>qa o rfl λo=>re<|?_
 rcases bip hm with ⟨D0,hm⟩ | ⟨D0,hm⟩
 refine tn<|ctv o rfl D0<|th<|rg<|qv o (Ag o Km rfl) λo=>qv o (Ah o isAgg3 rfl (u.ld.cellB t0 rfl)) λo=>qv o (Bm o rfl rfl) λo=>qm o rfl λo=>gr (Fk:=[(1,PT b2),(23,.bool ((decide (0≤p1.N)) && (decide (p1.N≤4294967296))))]) 19 4 o u ?_ ?_ ?_
 intro hb o key
 exact qg o (Ag o Km rfl) λo=>qg o (Ah o isAgg3 rfl (u.ld.cellB t0 rfl)) λo=>qg o (Dk o rfl rfl) λo=>qk o (Ad o rfl rfl) key u hb
 intro hb o key
 iterate 3 refine qn o λo=>?_
 exact qk o (Ae o rfl rfl) key u hb
 intro a w o u
 refine qm o rfl λo=>gr (Fk:=[(28,.bool (((decide (0≤p1.N)) && (decide (p1.N≤4294967296))) && (decide (p1.Name=[]))))]) 24 4 o u ?_ ?_ ?_
 intro hb o key
 exact qg o (Ag o Gn rfl) λo=>qg o (Ah o isAgg9 rfl (u.ld.cellB t0 rfl)) λo=>qg o (Dh (m:=p1.Name) (n:=[]) o rfl rfl) λo=>qk o (Ad o rfl rfl) key u hb
 intro hb o key
 iterate 3 refine qn o λo=>?_
 exact qk o (Ae o rfl rfl) key u hb
 intro a w o u
 refine qa o rfl λo=>re<|tn<|wr<|br<|tr<|?_
 obtain rfl:=si hm
 exact r1 o results125 rfl ⟨rfl,u.keep⟩
 refine tn<|cfv o rfl D0<|th<|rg<|qv o (Ag o Eh rfl) λo=>qv o (Ah o isAgg3 rfl (u.ld.cellB t0 rfl)) λo=>qv o (Am o rfl rfl) λo=>qa o rfl λo=>re<|?_
 rcases bip hm with ⟨E0,hm⟩ | ⟨E0,hm⟩
 refine tn<|ctv o rfl E0<|th<|?_
 rcases bip hm with ⟨F0,hm⟩ | ⟨F0,hm⟩
 obtain ⟨G0,h8,hm⟩:=bs hm
 refine rg<|qv o (Ag o Km rfl) λo=>qv o (Ah o isAgg3 rfl (u.ld.cellB t0 rfl)) λo=>qv o (Am o rfl rfl) λo=>qv o (An (Ab o rfl) (congrArg Value.bool F0)) λo=>qg o (Ag o Gn rfl) λo=>qg o (Ah o isAgg9 rfl (u.ld.cellB t0 rfl)) λo=>ls<|gy o rfl rfl<|cr o call82 (Lk (Ai _) (Tab.mono hT (St.up u)) h8) u λu o=>qv o (Ad o rfl rfl) λo=>qa o rfl λo=>re<|tn<|wr<|br<|tr<|?_
 obtain rfl:=si hm
 exact r1 o results125 rfl ⟨rfl,u.keep⟩
 refine rg<|qv o (Ag o Km rfl) λo=>qv o (Ah o isAgg3 rfl (u.ld.cellB t0 rfl)) λo=>qv o (Am o rfl rfl) λo=>qv o (An (Ab o rfl) (congrArg Value.bool F0)) λo=>?_
 iterate 3 refine qn o λo=>?_
 refine qv o (Ae o rfl rfl) λo=>qa o rfl λo=>re<|tn<|wr<|br<|tr<|?_
 obtain rfl:=si hm
 exact r1 o results125 rfl ⟨rfl,u.keep⟩
 refine tn<|cfv o rfl E0<|wk<|bn<|tn<|th<|rg<|qv o (Ag o Km rfl) λo=>qv o (Ah o isAgg3 rfl (u.ld.cellB t0 rfl)) λo=>qv o (Am o rfl rfl) λo=>qm o rfl λo=>gr (Fk:=[(48,.bool ((decide (p1.N=0)) && (decide (p1.Name=[]))))]) 44 4 o u ?_ ?_ ?_
 intro hb o key
 exact qg o (Ag o Gn rfl) λo=>qg o (Ah o isAgg9 rfl (u.ld.cellB t0 rfl)) λo=>qg o (Dh (m:=p1.Name) (n:=[]) o rfl rfl) λo=>qk o (Ad o rfl rfl) key u hb
 intro hb o key
 iterate 3 refine qn o λo=>?_
 exact qk o (Ae o rfl rfl) key u hb
 intro a w o u
 refine qa o rfl λo=>re<|tn<|wr<|?_
 obtain rfl:=si hm
 exact r1 o results125 rfl ⟨rfl,u.keep⟩
theorem Jb5 (hH:H.le w0) (hT:Tab H) {p1:api_Node} {r:Bool} (hm:Z6 N p1=some r):Tot Tryz.prog 124 #[.agg #[i6 p1.Op,i6 p1.N,Ac p1.Name,i6 p1.At]] w0 (λv w'=>v=.bool r∧Keep Nil w0 w'):=by
 unfold Z6 at hm
 refine fn0 func124 rfl ntmps124 rfl rfl λa o=>?_
 have u:St w0 Nil [H] [] w0:=start1 hH
 refine th<|rg<|ls<|Bz (cs:=[i6 p1.Op,i6 p1.N,Ac p1.Name,i6 p1.At].toArray) o rfl u rfl rfl λb2 w a u o=>qa o rfl λo=>re<|tn<|th<|?_
 obtain ⟨C0,h4,hm⟩:=bs hm
 refine rg<|qv o (Ar o Tryz.isAgg90 Tryz.sizeOf90 rfl rfl (u.ld.cellsB t0)) λo=>ls<|cr o call125 (JbA (Ai _) (Tab.mono hT (St.up u)) h4) u λu o=>qv o (Bc o rfl) λo=>qa o rfl λo=>re<|tn<|wr<|?_
 obtain rfl:=si hm
 exact r1 o results124 rfl ⟨rfl,u.keep⟩
theorem Ja2 (hH:H.le w0) (hT:Tab H) {I0:Option Addr} {D0:Nat} {p1:(List api_Node)} (_:p1.length≤D0) (K0:SR H I0 p1) {r:Int} (hm:Z8r N p1=some r):Tot Tryz.prog 155 #[SL I0 p1 D0,.func (.func 124) #[] #[]] w0 (λv w'=>v=i6 r∧Keep Nil w0 w'):=by
 unfold Z8r at hm
 refine fn0 func155 rfl ntmps155 rfl rfl λa o=>?_
 have u:St w0 Nil [H] [] w0:=start1 hH
 refine th<|rg<|qa o rfl λo=>re<|tn<|th<|th<|rg<|qm o rfl λo=>qv o (Al (α:=api_Node) (xs:=p1) o runUnderlying49 rfl) λo=>qm o rfl λo=>re<|tn<|Ay (λa w=>Z8s=some r∧Fr 19 [] a∧St w0 Nil [H] [] w) ?_ ?_
 refine wb<|lp (α:=Nat×Int) (λgh a w=>match gh with | (C0,F0)=>(Z8t N Z8s p1) C0 F0=some r∧Fr 19 [(0,SL I0 p1 D0),(1,.func (.func 124) #[] #[]),(7,i6 (p1.length:Int)),(8,i6 F0)] a∧St w0 Nil [H] [] w) (λgh=>gh.1) (N,0) ⟨hm,o.hs,u⟩ ?_
 rintro ⟨C0,F0⟩ a w ⟨hm,o,u⟩
 obtain _ | C0:=C0
 simp [Z8t] at hm
 rw [Z8t] at hm
 refine th<|rg<|qv o (Au o rfl rfl) λo=>re<|?_
 rcases bip hm with ⟨J0,hm⟩ | ⟨J0,hm⟩
 refine tn<|th<|ctv o rfl J0<|wk<|tn<|th<|wb<|th<|rg<|qm o rfl λo=>qa o rfl λo=>re<|tn<|th<|?_
 obtain ⟨G0,h8,hm⟩:=bs hm
 obtain ⟨cz9,O0,M0⟩:=SR.get K0 h8
 obtain rfl:=Bq O0
 obtain ⟨Q0,P0,hm⟩:=bs hm
 refine rg<|qm o rfl λo=>?_
 iterate 2 refine qm o rfl λo=>?_
 refine qv o (Aq o runUnderlying49 sizeOf90 rfl rfl h8 (SR.oaI K0 (by decide) h8)) λo=>qv o (Ar o isAgg90 sizeOf90 rfl rfl (λj v hj=>PH.le.cell (Lds.le u.ld) (M0 j v hj))) λo=>ls<|k1 (vs:=[.agg #[i6 G0.Op,i6 G0.N,Ac G0.Name,i6 G0.At]]) (caps:=[]) o rfl rfl call124 (Jb5 (Ai _) (Tab.mono hT (St.up u)) P0) ⟨rfl,trivial⟩ rfl (λv w a hR o=>?_)
 obtain ⟨rfl,hk⟩:=hR
 replace u:=u.pass hk
 refine re<|?_
 rcases bit hm with ⟨E0,hm⟩ | ⟨E0,hm⟩
 refine tn<|ctv o rfl E0<|th<|rg<|qm o rfl λo=>qa o rfl λo=>re<|tn<|wr<|br<|tr<|tr<|br<|tr<|?_
 obtain rfl:=si hm
 exact r1 o results155 rfl ⟨rfl,u.keep⟩
 refine tn<|cfv o rfl E0<|wk<|bn<|tn<|rg<|qv o (Ao o rfl rfl) λo=>qm o rfl λo=>re<|tn<|?_
 exact ⟨(C0,(IntKind.i64.wrap (F0+1))),⟨hm,o.hs,u⟩,Nat.lt_succ_self _⟩
 refine tn<|th<|cfv o rfl J0<|we<|tx<|tx<|bx<|tn<|?_
 exact ⟨hm,o.has trivial,u⟩
 rintro a w ⟨hm,o,u⟩
 unfold Z8s at hm
 refine th<|rg<|qa o rfl λo=>re<|tn<|wr<|?_
 obtain rfl:=si hm
 exact r1 o results155 rfl ⟨rfl,u.keep⟩
theorem Xr (hH:H.le w0) (hT:Tab H) {D0:Option Addr} {C0:Nat} {p1:(List api_Node)} (E0:p1.length≤C0) (F0:SR H D0 p1) {r:Bool} (hm:Z88 N p1=some r):Tot Tryz.prog 126 #[SL D0 p1 C0,.func (.func 124) #[] #[]] w0 (λv w'=>v=.bool r∧Keep Nil w0 w'):=by
 unfold Z88 at hm
 refine fn0 func126 rfl ntmps126 rfl rfl λa o=>?_
 have u:St w0 Nil [H] [] w0:=start1 hH
 refine th<|rg<|qa o rfl λo=>re<|tn<|th<|?_
 obtain ⟨G0,h7,hm⟩:=bs hm
 refine rg<|qm o rfl λo=>qm o rfl λo=>ls<|cr o call155 (Ja2 (Ai _) (Tab.mono hT (St.up u)) E0 (St.srH u F0) h7) u λu o=>qv o (Bm o rfl rfl) λo=>qa o rfl λo=>re<|tn<|wr<|?_
 obtain rfl:=si hm
 exact r1 o results126 rfl ⟨rfl,u.keep⟩
theorem Yq (hH:H.le w0) {p1:Int} {r:Int} (hm:Zb N p1=some r):Tot Tryz.prog 156 #[i6 p1] w0 (λv w'=>v=i6 r∧Keep Nil w0 w'):=by
 unfold Zb at hm
 refine fn0 func156 rfl ntmps156 rfl rfl λa o=>?_
 have u:St w0 Nil [H] [] w0:=start1 hH
 refine th<|rg<|qa o rfl λo=>re<|tn<|th<|wb<|th<|rg<|qm o rfl λo=>qv o (Am o rfl rfl) λo=>qm o rfl λo=>gr (Fk:=[(0,i6 p1),(9,.bool ((decide (p1=1)) || (decide (p1=2))))]) 6 3 o u ?_ ?_ ?_
 intro hb o key
 iterate 2 refine qn o λo=>?_
 exact qk o (Ad o rfl rfl) key u hb
 intro hb o key
 exact qg o (Ab o rfl) λo=>qg o (Am o rfl rfl) λo=>qk o (Ae o rfl rfl) key u hb
 intro a w o u
 refine qa o rfl λo=>re<|?_
 rcases bit hm with ⟨C0,hm⟩ | ⟨C0,hm⟩
 refine tn<|ctv o rfl C0<|th<|rg<|qa o rfl λo=>re<|tn<|wr<|br<|tr<|?_
 obtain rfl:=si hm
 exact r1 o results156 rfl ⟨rfl,u.keep⟩
 refine tn<|cfv o rfl C0<|th<|rg<|qm o rfl λo=>qv o (Am o rfl rfl) λo=>qm o rfl λo=>gr (Fk:=[(0,i6 p1),(16,.bool ((decide (p1=3)) || (decide (p1=4))))]) 13 3 o u ?_ ?_ ?_
 intro hb o key
 iterate 2 refine qn o λo=>?_
 exact qk o (Ad o rfl rfl) key u hb
 intro hb o key
 exact qg o (Ab o rfl) λo=>qg o (Am o rfl rfl) λo=>qk o (Ae o rfl rfl) key u hb
 intro a w o u
 refine qa o rfl λo=>re<|?_
 rcases bit hm with ⟨D0,hm⟩ | ⟨D0,hm⟩
 refine tn<|ctv o rfl D0<|th<|rg<|qa o rfl λo=>re<|tn<|wr<|br<|tr<|?_
 obtain rfl:=si hm
 exact r1 o results156 rfl ⟨rfl,u.keep⟩
 refine tn<|cfv o rfl D0<|th<|rg<|qm o rfl λo=>qv o (Bm o rfl rfl) λo=>qm o rfl λo=>gr (Fk:=[(23,.bool ((decide (5≤p1)) && (decide (p1≤15))))]) 20 3 o u ?_ ?_ ?_
 intro hb o key
 exact qg o (Ab o rfl) λo=>qg o (Dk o rfl rfl) λo=>qk o (Ad o rfl rfl) key u hb
 intro hb o key
 iterate 2 refine qn o λo=>?_
 exact qk o (Ae o rfl rfl) key u hb
 intro a w o u
 refine qa o rfl λo=>re<|?_
 rcases bit hm with ⟨E0,hm⟩ | ⟨E0,hm⟩
 refine tn<|ctv o rfl E0<|th<|rg<|qa o rfl λo=>re<|tn<|wr<|br<|tr<|?_
 obtain rfl:=si hm
 exact r1 o results156 rfl ⟨rfl,u.keep⟩
 refine tn<|cfv o rfl E0<|wk<|bn<|tn<|th<|rg<|qa o rfl λo=>re<|tn<|wr<|?_
 obtain rfl:=si hm
 exact r1 o results156 rfl ⟨rfl,u.keep⟩
end Go.LM.LB
