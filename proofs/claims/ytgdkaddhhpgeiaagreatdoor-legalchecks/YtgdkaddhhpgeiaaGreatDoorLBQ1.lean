/- Walks, lifted by program. No condition beyond the theorems' own premises. -/
import Derived.Test.YtgdkaddhhpgeiaaGreatDoorLBB
import Derived.Test.YtgdkaddhhpgeiaaGreatDoorLZ
namespace Go.LM.LB
open Go Go.LL Go.MD Go.LM Go.Proofs Go.MD.LB Go.Proofs.Tryz
set_option maxRecDepth 100000
variable {N:Nat} {w0:World} {H:PH}
theorem Tc (hH:H.le w0) {S0:Option Addr} {I0:Nat} {p1:(List api_Cell)} (P1:p1.length≤I0) (Y0:SR H S0 p1) {r:(List api_Cell)} (hm:Zs N p1=some r):Tot Tryz.prog 46 #[SL S0 p1 I0] w0 (λv w'=>∃ (j0:Option Addr) (T0:Nat) (n0:List Value),v=SL j0 r T0∧(∀ h,Rows h n0 r)∧Fresh w0 (sla 53 3 j0 r.length T0 n0) w'):=by
 unfold Zs at hm
 refine fn0 func46 rfl ntmps46 rfl rfl λa o=>?_
 have u:St w0 Nil [H] [] w0:=start1 hH
 refine th<|rg<|qa o rfl λo=>re<|tn<|th<|rg<|ls<|Bh (e:=53) (sz:=3) [] o rfl u rfl rfl rfl (λw=>by kernel_rfl) λb7 w a u o=>?_
 have G1:Rows (α:=api_Cell) H [] []:=.nil
 refine qa o rfl λo=>re<|tn<|th<|th<|rg<|qa o rfl λo=>re<|tn<|Av (λa w=>∃ (M0:(List api_Cell)) (Q0:Option Addr) (J0:Nat) (R0:List Value),Zt M0=some r∧Fr 34 [(3,SL Q0 M0 J0)] a∧St w0 Nil [H] [sla 53 3 Q0 M0.length J0 R0] w∧Rows H R0 M0) ?_ ?_
 refine wb<|lp (α:=Nat×(List api_Cell)×Int) (λgh a w=>match gh with | (O0,E0,F0)=>∃ (G0:Option Addr) (D0:Nat) (K0:List Value),(Zu N Zt p1) O0 E0 F0=some r∧Fr 34 [(0,SL S0 p1 I0),(3,SL G0 E0 D0),(4,i6 F0)] a∧St w0 Nil [H] [sla 53 3 G0 E0.length D0 K0] w∧Rows H K0 E0) (λgh=>gh.1) (N,[],0) ⟨(some ⟨b7,0,none⟩),0,[],hm,o.hs,u,G1⟩ ?_
 rintro ⟨O0,E0,F0⟩ a w ⟨G0,D0,K0,hm,o,u,U0⟩
 obtain _ | O0:=O0
 simp [Zu] at hm
 rw [Zu] at hm
 refine th<|th<|rg<|qm o rfl λo=>qm o rfl λo=>qv o (Ak (α:=api_Cell) (xs:=p1) o runUnderlying23 rfl) λo=>qv o (Ao o rfl rfl) λo=>qm o rfl λo=>gr (Fk:=[(0,SL S0 p1 I0),(3,SL G0 E0 D0),(4,i6 F0),(14,.bool ((decide (F0 < (p1.length:Int))) && (decide (F0 < 8))))]) 11 3 o u ?_ ?_ ?_
 intro hb o key
 exact qg o (Ab o rfl) λo=>qg o (Ao o rfl rfl) λo=>qk o (Ad o rfl rfl) key u hb
 intro hb o key
 iterate 2 refine qn o λo=>?_
 exact qk o (Ae o rfl rfl) key u hb
 intro a w o u
 refine re<|?_
 rcases bit hm with ⟨V0,hm⟩ | ⟨V0,hm⟩
 refine tn<|ctv o rfl V0<|wk<|tn<|th<|wb<|th<|?_
 obtain ⟨C0,W0,hm⟩:=bs hm
 obtain ⟨Q1,I1,p0⟩:=SR.get Y0 W0
 obtain rfl:=Bj I1
 refine rg<|qm o rfl λo=>qm o rfl λo=>qv o (Am o runUnderlying23 sizeOf53 rfl rfl W0 (SR.oaI Y0 (by decide) W0)) λo=>qv o (Ay o isAgg53 sizeOf53 rfl rfl (λj v hj=>PH.le.cell (Lds.le u.ld) (p0 j v hj))) λo=>ls<|Au (cs:=[Ac [],i6 0,i6 0].toArray) o rfl u zeroValue53 rfl λR1 w a u o=>ls<|Az o u sizeOf53 rfl rfl rfl rfl (Al rfl) .head λw u=>re<|tn<|th<|?_
 obtain ⟨P0,J1,hm⟩:=bs hm
 refine rg<|qv o (Af o Dq rfl) λo=>qv o (Ag o isAgg9 rfl (u.ld.cellB t0 rfl)) λo=>qv o (Af o Dq rfl) λo=>qv o (Ag o isAgg9 rfl (u.ld.cellB t0 rfl)) λo=>qv o (Bo (s:=C0.Name) o runUnderlying9 rfl) λo=>qv o (Nb o rfl rfl) λo=>qv o (Gw (s:=C0.Name) (vl:=0) (vh:=(min (C0.Name.length:Int) 40)) o runUnderlying9 rfl rfl rfl J1) λo=>qv o (Af o Dq rfl) λo=>ls<|Ax o u sizeOf9 rfl rfl rfl rfl .head .zero λw u=>re<|tn<|?_
 obtain ⟨M1,O1,hm⟩:=bs hm
 refine rg<|qm o rfl λo=>qv o (Ay o isAgg53 sizeOf53 rfl rfl (u.ld.cellsB t0)) λo=>ls<|Bh (e:=53) (sz:=3) [Ac P0,i6 C0.N,i6 C0.At] o rfl u rfl rfl rfl (λw=>by kernel_rfl) λS1 w a u o=>?_
 have u0:Rows (α:=api_Cell) H [Ac P0,i6 C0.N,i6 C0.At] ([(api_Cell.mk P0 C0.N C0.At)]:List api_Cell):=(.cons (c:=[Ac P0,i6 C0.N,i6 C0.At]) ⟨_,_,rfl,rfl,⟨_,_,rfl,rfl,rfl⟩⟩ .nil)
 refine ls<|Bw (α:=api_Cell) (xs:=E0) (ys:=([(api_Cell.mk P0 C0.N C0.At)]:List api_Cell)) o rfl u underlying23 Gq rfl (by decide) rfl rfl rfl t2 U0 (u.rdO t0) u0 O1 λB1 X0 C1 w a E1 hU o=>?_
 replace u:=hU _ (.tail (.tail .head))
 replace u:=u.drop .head
 refine qa o rfl λo=>re<|bn<|tn<|rg<|qm o rfl λo=>qv o (Ap o rfl rfl) λo=>qa o rfl λo=>re<|tn<|?_
 replace u:=u.pk [1] rfl
 exact ⟨(O0,M1,(IntKind.i64.wrap (F0+1))),⟨B1,X0,C1,hm,o.hs,u,E1⟩,Nat.lt_succ_self _⟩
 refine tn<|cfv o rfl V0<|we<|tx<|tx<|bx<|tn<|?_
 exact ⟨E0,G0,D0,K0,hm,o.has ⟨rfl,trivial⟩,u,U0⟩
 rintro a w ⟨M0,Q0,J0,R0,hm,o,u,F1⟩
 unfold Zt at hm
 refine th<|rg<|qm o rfl λo=>qa o rfl λo=>re<|tn<|wr<|?_
 obtain rfl:=si hm
 exact r1 o results46 rfl ⟨_,_,_,rfl,(λ_=>Rows.ind F1),u.endFresh t0⟩
theorem Yu (hH:H.le w0) {S0:Option Addr} {I0:Nat} {p1:(List api_Node)} (_:p1.length≤I0) (Y0:SR H S0 p1) {r:(List api_Node)} (hm:Zg N p1=some r):Tot Tryz.prog 48 #[SL S0 p1 I0] w0 (λv w'=>∃ (j0:Option Addr) (T0:Nat) (n0:List Value),v=SL j0 r T0∧(∀ h,Rows h n0 r)∧Fresh w0 (sla 90 4 j0 r.length T0 n0) w'):=by
 unfold Zg at hm
 refine fn0 func48 rfl ntmps48 rfl rfl λa o=>?_
 have u:St w0 Nil [H] [] w0:=start1 hH
 refine th<|rg<|qa o rfl λo=>re<|tn<|th<|rg<|ls<|Bh (e:=90) (sz:=4) [] o rfl u rfl rfl rfl (λw=>by kernel_rfl) λb7 w a u o=>?_
 have G1:Rows (α:=api_Node) H [] []:=.nil
 refine qa o rfl λo=>re<|tn<|th<|th<|rg<|qa o rfl λo=>re<|tn<|Av (λa w=>∃ (M0:(List api_Node)) (Q0:Option Addr) (J0:Nat) (R0:List Value),Zh M0=some r∧Fr 34 [(3,SL Q0 M0 J0)] a∧St w0 Nil [H] [sla 90 4 Q0 M0.length J0 R0] w∧Rows H R0 M0) ?_ ?_
 refine wb<|lp (α:=Nat×(List api_Node)×Int) (λgh a w=>match gh with | (O0,E0,F0)=>∃ (G0:Option Addr) (D0:Nat) (K0:List Value),(Zi N Zh p1) O0 E0 F0=some r∧Fr 34 [(0,SL S0 p1 I0),(3,SL G0 E0 D0),(4,i6 F0)] a∧St w0 Nil [H] [sla 90 4 G0 E0.length D0 K0] w∧Rows H K0 E0) (λgh=>gh.1) (N,[],0) ⟨(some ⟨b7,0,none⟩),0,[],hm,o.hs,u,G1⟩ ?_
 rintro ⟨O0,E0,F0⟩ a w ⟨G0,D0,K0,hm,o,u,U0⟩
 obtain _ | O0:=O0
 simp [Zi] at hm
 rw [Zi] at hm
 refine th<|th<|rg<|qm o rfl λo=>qm o rfl λo=>qv o (Ak (α:=api_Node) (xs:=p1) o runUnderlying49 rfl) λo=>qv o (Ao o rfl rfl) λo=>qm o rfl λo=>gr (Fk:=[(0,SL S0 p1 I0),(3,SL G0 E0 D0),(4,i6 F0),(14,.bool ((decide (F0 < (p1.length:Int))) && (decide (F0 < 60))))]) 11 3 o u ?_ ?_ ?_
 intro hb o key
 exact qg o (Ab o rfl) λo=>qg o (Ao o rfl rfl) λo=>qk o (Ad o rfl rfl) key u hb
 intro hb o key
 iterate 2 refine qn o λo=>?_
 exact qk o (Ae o rfl rfl) key u hb
 intro a w o u
 refine re<|?_
 rcases bit hm with ⟨V0,hm⟩ | ⟨V0,hm⟩
 refine tn<|ctv o rfl V0<|wk<|tn<|th<|wb<|th<|?_
 obtain ⟨C0,W0,hm⟩:=bs hm
 obtain ⟨P1,I1,p0⟩:=SR.get Y0 W0
 obtain rfl:=Bn I1
 refine rg<|qm o rfl λo=>qm o rfl λo=>qv o (Am o runUnderlying49 sizeOf90 rfl rfl W0 (SR.oaI Y0 (by decide) W0)) λo=>qv o (Ay o isAgg90 sizeOf90 rfl rfl (λj v hj=>PH.le.cell (Lds.le u.ld) (p0 j v hj))) λo=>ls<|Au (cs:=[i6 0,i6 0,Ac [],i6 0].toArray) o rfl u zeroValue90 rfl λQ1 w a u o=>ls<|Az o u sizeOf90 rfl rfl rfl rfl (Al rfl) .head λw u=>re<|tn<|th<|?_
 obtain ⟨P0,J1,hm⟩:=bs hm
 refine rg<|qv o (Af o Ek rfl) λo=>qv o (Ag o isAgg9 rfl (u.ld.cellB t0 rfl)) λo=>qv o (Af o Ek rfl) λo=>qv o (Ag o isAgg9 rfl (u.ld.cellB t0 rfl)) λo=>qv o (Bo (s:=C0.Name) o runUnderlying9 rfl) λo=>qv o (Nb o rfl rfl) λo=>qv o (Gw (s:=C0.Name) (vl:=0) (vh:=(min (C0.Name.length:Int) 40)) o runUnderlying9 rfl rfl rfl J1) λo=>qv o (Af o Ek rfl) λo=>ls<|Ax o u sizeOf9 rfl rfl rfl rfl .head (.succ (.succ .zero)) λw u=>re<|tn<|?_
 obtain ⟨M1,O1,hm⟩:=bs hm
 refine rg<|qm o rfl λo=>qv o (Ay o isAgg90 sizeOf90 rfl rfl (u.ld.cellsB t0)) λo=>ls<|Bh (e:=90) (sz:=4) [i6 C0.Op,i6 C0.N,Ac P0,i6 C0.At] o rfl u rfl rfl rfl (λw=>by kernel_rfl) λR1 w a u o=>?_
 have u0:Rows (α:=api_Node) H [i6 C0.Op,i6 C0.N,Ac P0,i6 C0.At] ([(api_Node.mk C0.Op C0.N P0 C0.At)]:List api_Node):=(.cons (c:=[i6 C0.Op,i6 C0.N,Ac P0,i6 C0.At]) ⟨_,_,rfl,rfl,⟨_,_,rfl,rfl,⟨_,_,rfl,rfl,rfl⟩⟩⟩ .nil)
 refine ls<|Bw (α:=api_Node) (xs:=E0) (ys:=([(api_Node.mk C0.Op C0.N P0 C0.At)]:List api_Node)) o rfl u underlying49 Ny rfl (by decide) rfl rfl rfl t2 U0 (u.rdO t0) u0 O1 λB1 X0 C1 w a E1 hU o=>?_
 replace u:=hU _ (.tail (.tail .head))
 replace u:=u.drop .head
 refine qa o rfl λo=>re<|bn<|tn<|rg<|qm o rfl λo=>qv o (Ap o rfl rfl) λo=>qa o rfl λo=>re<|tn<|?_
 replace u:=u.pk [1] rfl
 exact ⟨(O0,M1,(IntKind.i64.wrap (F0+1))),⟨B1,X0,C1,hm,o.hs,u,E1⟩,Nat.lt_succ_self _⟩
 refine tn<|cfv o rfl V0<|we<|tx<|tx<|bx<|tn<|?_
 exact ⟨E0,G0,D0,K0,hm,o.has ⟨rfl,trivial⟩,u,U0⟩
 rintro a w ⟨M0,Q0,J0,R0,hm,o,u,F1⟩
 unfold Zh at hm
 refine th<|rg<|qm o rfl λo=>qa o rfl λo=>re<|tn<|wr<|?_
 obtain rfl:=si hm
 exact r1 o results48 rfl ⟨_,_,_,rfl,(λ_=>Rows.ind F1),u.endFresh t0⟩
theorem JbU (hH:H.le w0) {E1:Option Addr} {K0:Nat} {p1:(List api_Stmt)} (_:p1.length≤K0) (Q1:SR H E1 p1) {r:(List api_Stmt)} (hm:Zj N p1=some r):Tot Tryz.prog 43 #[SL E1 p1 K0] w0 (λv w'=>∃ (H':PH) (R1:Option Addr) (G1:Nat),v=SL R1 r G1∧r.length≤G1∧SR H' R1 r∧Ext w0 H H'∧H'.le w'∧Keep Nil w0 w'):=by
 unfold Zj at hm
 refine fn0 func43 rfl ntmps43 rfl rfl λa o=>?_
 have u:St w0 Nil [H] [] w0:=start1 hH
 refine th<|rg<|qa o rfl λo=>re<|tn<|th<|rg<|ls<|Bh (e:=51) (sz:=9) [] o rfl u rfl rfl rfl (λw=>by kernel_rfl) λb7 w a u o=>?_
 have Q2:Rows (α:=api_Stmt) H [] []:=.nil
 refine qa o rfl λo=>re<|tn<|th<|th<|rg<|qa o rfl λo=>re<|tn<|Av (λa w=>∃ (R0:(List api_Stmt)) (F1:PH) (X0:Option Addr) (M0:Nat) (Y0:List Value),Zk R0=some r∧Ext w0 H F1∧Fr 50 [(3,SL X0 R0 M0)] a∧St w0 Nil [F1] [sla 51 9 X0 R0.length M0 Y0] w∧Rows F1 Y0 R0) ?_ ?_
 refine wb<|lp (α:=Nat×(List api_Stmt)×Int) (λgh a w=>match gh with | (S0,F0,G0)=>∃ (I0:PH) (J0:Option Addr) (D0:Nat) (O0:List Value),(Zl N Zk p1) S0 F0 G0=some r∧Ext w0 H I0∧Fr 50 [(0,SL E1 p1 K0),(3,SL J0 F0 D0),(4,i6 G0)] a∧St w0 Nil [I0] [sla 51 9 J0 F0.length D0 O0] w∧Rows I0 O0 F0) (λgh=>gh.1) (N,[],0) ⟨H,(some ⟨b7,0,none⟩),0,[],hm,(Ext.refl _ _),o.hs,u,Q2⟩ ?_
 rintro ⟨S0,F0,G0⟩ a w ⟨I0,J0,D0,O0,hm,E0,o,u,I1⟩
 obtain _ | S0:=S0
 simp [Zl] at hm
 rw [Zl] at hm
 refine th<|th<|rg<|qm o rfl λo=>qm o rfl λo=>qv o (Ak (α:=api_Stmt) (xs:=p1) o runUnderlying46 rfl) λo=>qv o (Ao o rfl rfl) λo=>qm o rfl λo=>gr (Fk:=[(0,SL E1 p1 K0),(3,SL J0 F0 D0),(4,i6 G0),(14,.bool ((decide (G0 < (p1.length:Int))) && (decide (G0 < 50))))]) 11 3 o u ?_ ?_ ?_
 intro hb o key
 exact qg o (Ab o rfl) λo=>qg o (Ao o rfl rfl) λo=>qk o (Ad o rfl rfl) key u hb
 intro hb o key
 iterate 2 refine qn o λo=>?_
 exact qk o (Ae o rfl rfl) key u hb
 intro a w o u
 refine re<|?_
 rcases bit hm with ⟨J1,hm⟩ | ⟨J1,hm⟩
 refine tn<|ctv o rfl J1<|wk<|tn<|th<|wb<|th<|?_
 obtain ⟨C0,M1,hm⟩:=bs hm
 obtain ⟨G3,R2,S1⟩:=SR.get Q1 M1
 obtain ⟨C3,A3,D3,B3,rfl,T1,U1,V1,X1⟩:=Bm R2
 refine rg<|qm o rfl λo=>qm o rfl λo=>qv o (Am o runUnderlying46 sizeOf51 rfl rfl M1 (SR.oaI Q1 (by decide) M1)) λo=>qv o (Ay o isAgg51 sizeOf51 rfl rfl (λj v hj=>PH.le.cell (λb o hx=>(Lds.le u.ld) b o (E0.sub b o hx)) (S1 j v hj))) λo=>ls<|Au (cs:=[i6 0,Ac [],Ac [],.slice none 0 0,.slice none 0 0,i6 0,i6 0,i6 0,i6 0].toArray) o rfl u zeroValue51 rfl λI3 w a u o=>ls<|Az o u sizeOf51 rfl rfl rfl rfl (Al rfl) .head λw u=>re<|tn<|th<|?_
 obtain ⟨T0,T2,hm⟩:=bs hm
 refine rg<|qv o (Af o Cn rfl) λo=>qv o (Ag o isAgg9 rfl (u.ld.cellB t0 rfl)) λo=>qv o (Af o Cn rfl) λo=>qv o (Ag o isAgg9 rfl (u.ld.cellB t0 rfl)) λo=>qv o (Bo (s:=C0.Reg) o runUnderlying9 rfl) λo=>qv o (Nb o rfl rfl) λo=>qv o (Gw (s:=C0.Reg) (vl:=0) (vh:=(min (C0.Reg.length:Int) 40)) o runUnderlying9 rfl rfl rfl T2) λo=>qv o (Af o Cn rfl) λo=>ls<|Ax o u sizeOf9 rfl rfl rfl rfl .head (.succ .zero) λw u=>re<|tn<|th<|?_
 obtain ⟨U0,U2,hm⟩:=bs hm
 refine rg<|qv o (Af o Db rfl) λo=>qv o (Ag o isAgg9 rfl (u.ld.cellB t0 rfl)) λo=>qv o (Af o Db rfl) λo=>qv o (Ag o isAgg9 rfl (u.ld.cellB t0 rfl)) λo=>qv o (Bo (s:=C0.Name) o runUnderlying9 rfl) λo=>qv o (Nb o rfl rfl) λo=>qv o (Gw (s:=C0.Name) (vl:=0) (vh:=(min (C0.Name.length:Int) 40)) o runUnderlying9 rfl rfl rfl U2) λo=>qv o (Af o Db rfl) λo=>ls<|Ax o u sizeOf9 rfl rfl rfl rfl .head (.succ (.succ .zero)) λw u=>re<|tn<|th<|?_
 obtain ⟨V0,V2,hm⟩:=bs hm
 refine rg<|qv o (Af o Dp rfl) λo=>qv o (Ag o isAgg49 rfl (u.ld.cellB t0 rfl)) λo=>ls<|c1 o rfl call48 (Yu (Ai _) T1 (St.srH u (U1.mono E0.sub)) V2) ⟨rfl,trivial⟩ (λv w a hR o=>?_)
 obtain ⟨j0,P0,E3,rfl,n0,hk⟩:=hR
 replace u:=u.fresh hk
 replace n0:=n0 I0
 refine qv o (Af o Dp rfl) λo=>ls<|Ax o u sizeOf49 rfl rfl rfl rfl (.tail .head) (.succ (.succ (.succ .zero))) λw u=>re<|tn<|th<|?_
 obtain ⟨W0,W2,hm⟩:=bs hm
 refine rg<|qv o (Af o Gy rfl) λo=>qv o (Ag o isAgg49 rfl (u.ld.cellB t1 rfl)) λo=>ls<|c1 o rfl call48 (Yu (Ai _) V1 (St.srH u (X1.mono E0.sub)) W2) ⟨rfl,trivial⟩ (λv w a hR o=>?_)
 obtain ⟨p0,Q0,F3,rfl,u0,hk⟩:=hR
 replace u:=u.fresh hk
 replace u0:=u0 I0
 refine qv o (Af o Gy rfl) λo=>ls<|Ax o u sizeOf49 rfl rfl rfl rfl (.tail (.tail .head)) (.succ (.succ (.succ (.succ .zero)))) λw u=>re<|tn<|?_
 obtain ⟨X2,Y2,hm⟩:=bs hm
 refine rg<|qm o rfl λo=>qv o (Ay o isAgg51 sizeOf51 rfl rfl (u.ld.cellsB t2)) λo=>?_
 obtain ⟨H45,B1,Y1,B2,u⟩:=St.frzS u (.tail .head) n0
 obtain ⟨H49,C1,C2,E2,u⟩:=St.frzS u .head (u0.mono B1.sub)
 refine ls<|Bh (e:=51) (sz:=9) [i6 C0.Kind,Ac T0,Ac U0,SL j0 V0 P0,SL p0 W0 Q0,i6 C0.N,i6 C0.Body,i6 C0.Else,i6 C0.At] o rfl u rfl rfl rfl (λw=>by kernel_rfl) λJ3 w a u o=>?_
 have F2:Rows (α:=api_Stmt) H49 [i6 C0.Kind,Ac T0,Ac U0,SL j0 V0 P0,SL p0 W0 Q0,i6 C0.N,i6 C0.Body,i6 C0.Else,i6 C0.At] ([(api_Stmt.mk C0.Kind T0 U0 V0 W0 C0.N C0.Body C0.Else C0.At)]:List api_Stmt):=(.cons (c:=[i6 C0.Kind,Ac T0,Ac U0,SL j0 V0 P0,SL p0 W0 Q0,i6 C0.N,i6 C0.Body,i6 C0.Else,i6 C0.At]) ⟨_,_,rfl,rfl,⟨_,_,rfl,rfl,⟨_,_,rfl,rfl,⟨_,_,rfl,⟨_,_,rfl,B2,(Y1.mono C1.sub)⟩,⟨_,_,rfl,⟨_,_,rfl,E2,C2⟩,⟨_,_,rfl,rfl,⟨_,_,rfl,rfl,⟨_,_,rfl,rfl,rfl⟩⟩⟩⟩⟩⟩⟩⟩ .nil)
 refine ls<|Bw (α:=api_Stmt) (xs:=F0) (ys:=([(api_Stmt.mk C0.Kind T0 U0 V0 W0 C0.N C0.Body C0.Else C0.At)]:List api_Stmt)) o rfl u underlying46 Nx rfl (by decide) rfl rfl rfl t2 (I1.mono (cp C1.sub B1.sub)) (u.rdO t0) F2 Y2 λG2 O1 I2 w a J2 hU o=>?_
 replace u:=hU _ (.tail (.tail .head))
 replace u:=u.drop .head
 refine qa o rfl λo=>re<|bn<|tn<|rg<|qm o rfl λo=>qv o (Ap o rfl rfl) λo=>qa o rfl λo=>re<|tn<|?_
 replace u:=u.pk [1] rfl
 exact ⟨(S0,X2,(IntKind.i64.wrap (G0+1))),⟨H49,G2,O1,I2,hm,(Ext.trans E0 (Ext.trans B1 C1)),o.hs,u,J2⟩,Nat.lt_succ_self _⟩
 refine tn<|cfv o rfl J1<|we<|tx<|tx<|bx<|tn<|?_
 exact ⟨F0,I0,J0,D0,O0,hm,E0,o.has ⟨rfl,trivial⟩,u,I1⟩
 rintro a w ⟨R0,F1,X0,M0,Y0,hm,P1,o,u,K2⟩
 unfold Zk at hm
 refine th<|rg<|qm o rfl λo=>qa o rfl λo=>re<|tn<|wr<|?_
 obtain ⟨H62,M2,O2,P2,u⟩:=St.frzS u .head K2
 obtain rfl:=si hm
 exact r1 o results43 rfl ⟨H62,_,_,rfl,P2,O2,(Ext.trans P1 M2),(St.le u),u.keep⟩
set_option maxHeartbeats 4000000 in
theorem Nw (hH:H.le w0) {T0:Option Addr} {M0:Nat} {p1:(List api_Thread)} (O4:p1.length≤M0) (U0:SR H T0 p1) {r:(List api_Thread)} (hm:Zv N p1=some r):Tot Tryz.prog 47 #[SL T0 p1 M0] w0 (λv w'=>∃ (H':PH) (V2:Option Addr) (I2:Nat),v=SL V2 r I2∧r.length≤I2∧SR H' V2 r∧Ext w0 H H'∧H'.le w'∧Keep Nil w0 w'):=by
 unfold Zv at hm
 refine fn0 func47 rfl ntmps47 rfl rfl λa o=>?_
 have u:St w0 Nil [H] [] w0:=start1 hH
 refine th<|rg<|qa o rfl λo=>re<|tn<|th<|rg<|ls<|Bh (e:=48) (sz:=4) [] o rfl u rfl rfl rfl (λw=>by kernel_rfl) λb7 w a u o=>?_
 have Q3:Rows (α:=api_Thread) H [] []:=.nil
 refine qa o rfl λo=>re<|tn<|th<|th<|rg<|qa o rfl λo=>re<|tn<|Av (λa w=>∃ (M1:(List api_Thread)) (F2:PH) (S1:Option Addr) (F1:Nat) (T1:List Value),Zw M1=some r∧Ext w0 H F2∧Fr 86 [(3,SL S1 M1 F1)] a∧St w0 Nil [F2] [sla 48 4 S1 M1.length F1 T1] w∧Rows F2 T1 M1) ?_ ?_
 refine wb<|lp (α:=Nat×(List api_Thread)×Int) (λgh a w=>match gh with | (V0,F0,G0)=>∃ (j0:PH) (I0:Option Addr) (D0:Nat) (R0:List Value),(Z10 N Zw p1) V0 F0 G0=some r∧Ext w0 H j0∧Fr 86 [(0,SL T0 p1 M0),(3,SL I0 F0 D0),(4,i6 G0)] a∧St w0 Nil [j0] [sla 48 4 I0 F0.length D0 R0] w∧Rows j0 R0 F0) (λgh=>gh.1) (N,[],0) ⟨H,(some ⟨b7,0,none⟩),0,[],hm,(Ext.refl _ _),o.hs,u,Q3⟩ ?_
 rintro ⟨V0,F0,G0⟩ a w ⟨j0,I0,D0,R0,hm,C0,o,u,J2⟩
 obtain _ | V0:=V0
 simp [Z10] at hm
 rw [Z10] at hm
 refine th<|th<|rg<|qm o rfl λo=>qm o rfl λo=>qv o (Ak (α:=api_Thread) (xs:=p1) o runUnderlying24 rfl) λo=>qv o (Ao o rfl rfl) λo=>qm o rfl λo=>gr (Fk:=[(0,SL T0 p1 M0),(3,SL I0 F0 D0),(4,i6 G0),(15,.bool ((decide (G0 < (p1.length:Int))) && (decide (G0 < 4))))]) 12 3 o u ?_ ?_ ?_
 intro hb o key
 exact qg o (Ab o rfl) λo=>qg o (Ao o rfl rfl) λo=>qk o (Ad o rfl rfl) key u hb
 intro hb o key
 iterate 2 refine qn o λo=>?_
 exact qk o (Ae o rfl rfl) key u hb
 intro a w o u
 refine re<|?_
 rcases bit hm with ⟨K2,hm⟩ | ⟨K2,hm⟩
 refine tn<|ctv o rfl K2<|wk<|tn<|th<|Av (λa w=>∃ (B1:(List api_Thread)) (O1:PH) (G1:Option Addr) (Y0:Nat) (I1:List Value),(Zx (Z10 N Zw p1 V0) G0) B1=some r∧Ext w0 j0 O1∧Fr 86 [(0,SL T0 p1 M0),(3,SL G1 B1 Y0),(4,i6 G0)] a∧St w0 Nil [O1] [sla 48 4 G1 B1.length Y0 I1] w∧Rows O1 I1 B1) ?_ ?_
 refine wb<|th<|Av (λa w=>∃ (P0:Str) (J0:(List api_Stmt)) (Q0:Int) (HD1:PH) (bD2:Nat) (oaD5:Option Addr) (capD6:Nat),(Zy N (Zx (Z10 N Zw p1 V0) G0) p1 F0 G0) P0 J0 Q0=some r∧Ext w0 j0 HD1∧Fr 86 [(0,SL T0 p1 M0),(3,SL I0 F0 D0),(4,i6 G0),(5,PT bD2)] a∧St w0 Nil [HD1] [sla 48 4 I0 F0.length D0 R0,bk bD2 [Ac P0,.slice none 0 0,SL oaD5 J0 capD6,i6 Q0] 48] w∧J0.length≤capD6∧SR HD1 oaD5 J0) ?_ ?_
 obtain ⟨W0,X0,hm⟩:=bs hm
 obtain ⟨P4,R3,J1⟩:=SR.get U0 X0
 obtain ⟨D4,u3,E4,A4,rfl,F4,G4,M2,O2⟩:=Aw R3
 obtain ⟨C1,S3,hm⟩:=bs hm
 obtain ⟨E1,W2,hm⟩:=bs hm
 refine rdS 26 u wide λw u=>dr 0 u o rfl (Ab o rfl) λo=>dr 1 u o rfl (Ab o rfl) λo=>dr 2 u o rfl (Am o runUnderlying24 sizeOf48 rfl rfl X0 (SR.oaI U0 (by decide) X0)) λo=>dr 3 u o rfl (Af o Dv rfl) λo=>dq 4 u.ld o rfl (λw hl=>Ag o isAgg9 rfl (PH.le.cell (λb o hx=>(Lds.le hl) b o (C0.sub b o hx)) (J1 0 _ rfl))) λo=>dr 5 u o rfl (Ab o rfl) λo=>dr 6 u o rfl (Ab o rfl) λo=>dr 7 u o rfl (Am o runUnderlying24 sizeOf48 rfl rfl X0 (SR.oaI U0 (by decide) X0)) λo=>dr 8 u o rfl (Af o Dv rfl) λo=>dq 9 u.ld o rfl (λw hl=>Ag o isAgg9 rfl (PH.le.cell (λb o hx=>(Lds.le hl) b o (C0.sub b o hx)) (J1 0 _ rfl))) λo=>dr 10 u o rfl (Bo (s:=W0.Name) o runUnderlying9 rfl) λo=>dr 11 u o rfl (Nb o rfl rfl) λo=>dr 12 u o rfl (Gw (s:=W0.Name) (vl:=0) (vh:=(min (W0.Name.length:Int) 40)) o runUnderlying9 rfl rfl rfl S3) λo=>dr 13 u o rfl (Ab o rfl) λo=>dr 14 u o rfl (Ab o rfl) λo=>dr 15 u o rfl (Am o runUnderlying24 sizeOf48 rfl rfl X0 (SR.oaI U0 (by decide) X0)) λo=>dr 16 u o rfl (Af o Ft rfl) λo=>dq 17 u.ld o rfl (λw hl=>Ag o isAgg3 rfl (PH.le.cell (λb o hx=>(Lds.le hl) b o (C0.sub b o hx)) (J1 3 _ rfl))) λo=>dr 18 u o rfl (Ab o rfl) λo=>dr 19 u o rfl (Ab o rfl) λo=>dr 20 u o rfl (Am o runUnderlying24 sizeOf48 rfl rfl X0 (SR.oaI U0 (by decide) X0)) λo=>dr 21 u o rfl (Af o Gm rfl) λo=>dq 22 u.ld o rfl (λw hl=>Ag o isAgg46 rfl (PH.le.cell (λb o hx=>(Lds.le hl) b o (C0.sub b o hx)) (J1 2 _ rfl))) λo=>da2 (i:=23) (j:=25) (by kernel_rfl) ?_ ?_
 refine di (i:=23) rfl<|c1 o rfl call43 (JbU (St.le u) M2 (O2.mono C0.sub) W2) ⟨rfl,trivial⟩ (λv w a hR o=>?_)
 obtain ⟨H30,S0,O0,rfl,U1,V1,E0,X1,hk⟩:=hR
 obtain ⟨u,E0⟩:=And.intro (St.passH u hk E0 X1) (St.extc u E0)
 refine ⟨λ_=>(St.ldsX u E0.sub i1),?_⟩
 refine dq 24 (St.ldsX u E0.sub i1) o rfl (λw hl=>Bp [Ac C1,i6 W0.At,SL S0 E1 O0] [Ac C1,.slice none 0 0,SL S0 E1 O0,i6 W0.At] o ⟨rfl,rfl,rfl,trivial⟩ (λw=>by kernel_rfl)) λo=>da1 (i:=25) (by kernel_rfl) ?_
 refine di (i:=25) rfl<|Au (cs:=[Ac [],.slice none 0 0,.slice none 0 0,i6 0].toArray) o rfl u zeroValue48 rfl λP2 w a u o=>⟨λ_=>(St.ldsX u E0.sub ta1),?_⟩
 refine da1 (i:=26) (by kernel_rfl) ?_
 refine di (i:=26) rfl<|Az o u sizeOf48 rfl rfl rfl rfl (Al rfl) .head λw u=>⟨λh=>absurd rfl h,?_⟩
 refine de (by kernel_rfl)<|tn<|?_
 replace u:=u.pk [1,0] rfl
 exact ⟨C1,E1,W0.At,H30,P2,S0,O0,hm,E0,o.hs,u,U1,V1⟩
 refine di (i:=25) rfl<|Au (cs:=[Ac [],.slice none 0 0,.slice none 0 0,i6 0].toArray) o rfl u zeroValue48 rfl λP2 w a u o=>⟨λ_=>(St.ldsX u i2 ta1),?_⟩
 refine da1 (i:=23) (by kernel_rfl) ?_
 refine di (i:=23) rfl<|c1 o rfl call43 (JbU (St.le u) M2 (O2.mono C0.sub) W2) ⟨rfl,trivial⟩ (λv w a hR o=>?_)
 obtain ⟨H30,S0,O0,rfl,U1,V1,E0,X1,hk⟩:=hR
 obtain ⟨u,E0⟩:=And.intro (St.passH u hk E0 X1) (St.extc u E0)
 refine ⟨λ_=>(St.ldsX u E0.sub ta1),?_⟩
 refine dq 24 (St.ldsX u E0.sub ta1) o rfl (λw hl=>Bp [Ac C1,i6 W0.At,SL S0 E1 O0] [Ac C1,.slice none 0 0,SL S0 E1 O0,i6 W0.At] o ⟨rfl,rfl,rfl,trivial⟩ (λw=>by kernel_rfl)) λo=>da1 (i:=26) (by kernel_rfl) ?_
 refine di (i:=26) rfl<|Az o u sizeOf48 rfl rfl rfl rfl (Al rfl) .head λw u=>⟨λh=>absurd rfl h,?_⟩
 refine de (by kernel_rfl)<|tn<|?_
 replace u:=u.pk [1,0] rfl
 exact ⟨C1,E1,W0.At,H30,P2,S0,O0,hm,E0,o.hs,u,U1,V1⟩
 rintro a w ⟨P0,J0,Q0,HD1,bD2,oaD5,capD6,hm,hxHD1,o,u,hcD7,hrD8⟩
 unfold Zy at hm
 refine th<|th<|rg<|qa o rfl λo=>re<|tn<|Av (λa w=>∃ (K0:(List Str)) (oaD11:Option Addr) (capD12:Nat) (vsD13:List Value),(Zz (Zx (Z10 N Zw p1 V0) G0) P0 J0 Q0 F0) K0=some r∧Fr 86 [(0,SL T0 p1 M0),(3,SL I0 F0 D0),(4,i6 G0),(5,PT bD2)] a∧St w0 Nil [HD1] [sla 48 4 I0 F0.length D0 R0,sla 9 1 oaD11 K0.length capD12 vsD13,bk bD2 [Ac P0,SL oaD11 K0 capD12,SL oaD5 J0 capD6,i6 Q0] 48] w∧Rows HD1 vsD13 K0) ?_ ?_
 replace u:=u.nilS 9 1
 replace u:=u.pk [1,0,0] rfl
 refine wb<|lp (α:=Nat×(List Str)×Int) (λgh a w=>match gh with | (P1,n0,p0)=>∃ (oaE2:Option Addr) (capE3:Nat) (vsE4:List Value),(Z11 N (Zz (Zx (Z10 N Zw p1 V0) G0) P0 J0 Q0 F0) p1 G0) P1 n0 p0=some r∧Fr 86 [(0,SL T0 p1 M0),(3,SL I0 F0 D0),(4,i6 G0),(5,PT bD2),(6,i6 p0)] a∧St w0 Nil [HD1] [sla 48 4 I0 F0.length D0 R0,sla 9 1 oaE2 n0.length capE3 vsE4,bk bD2 [Ac P0,SL oaE2 n0 capE3,SL oaD5 J0 capD6,i6 Q0] 48] w∧Rows HD1 vsE4 n0) (λgh=>gh.1) (N,[],0) ⟨none,0,[],hm,o.hs,u,.nil⟩ ?_
 rintro ⟨P1,n0,p0⟩ a w ⟨oaE2,capE3,vsE4,hm,o,u,hvE5⟩
 obtain _ | P1:=P1
 simp [Z11] at hm
 rw [Z11] at hm
 refine th<|th<|?_
 obtain ⟨X2,u0,hm⟩:=bs hm
 obtain ⟨Q4,T3,Y1⟩:=SR.get U0 u0
 obtain ⟨I4,B4,J4,C4,rfl,K4,B2,L4,M4⟩:=Aw T3
 refine rg<|qm o rfl λo=>?_
 iterate 2 refine qm o rfl λo=>?_
 refine qv o (Am o runUnderlying24 sizeOf48 rfl rfl u0 (SR.oaI U0 (by decide) u0)) λo=>qv o (Af o Ci rfl) λo=>qv o (Ag o isAgg36 rfl (PH.le.cell (λb o hx=>(Lds.le u.ld) b o ((cp hxHD1.sub C0.sub) b o hx)) (Y1 1 _ rfl))) λo=>qv o (Ak (α:=Str) (xs:=X2.Regs) o runUnderlying36 rfl) λo=>qv o (Ao o rfl rfl) λo=>qm o rfl λo=>gr (Fk:=[(0,SL T0 p1 M0),(3,SL I0 F0 D0),(4,i6 G0),(5,PT bD2),(6,i6 p0),(54,.bool ((decide (p0 < (X2.Regs.length:Int))) && (decide (p0 < 6))))]) 51 3 o u ?_ ?_ ?_
 intro hb o key
 exact qg o (Ab o rfl) λo=>qg o (Ao o rfl rfl) λo=>qk o (Ad o rfl rfl) key u hb
 intro hb o key
 iterate 2 refine qn o λo=>?_
 exact qk o (Ae o rfl rfl) key u hb
 intro a w o u
 refine re<|?_
 rcases bit hm with ⟨C2,hm⟩ | ⟨C2,hm⟩
 refine tn<|ctv o rfl C2<|wk<|tn<|th<|wb<|?_
 obtain ⟨G2,Q1,hm⟩:=bs hm
 obtain ⟨U3,V3,Q2⟩:=SR.get B2 Q1
 obtain rfl:U3=[Ac G2]:=V3
 obtain ⟨R1,W3,hm⟩:=bs hm
 obtain ⟨X3,Y3,hm⟩:=bs hm
 refine rdL (Aa t0 (Aa t2 Ah)) 24 u wide λw u=>ds 0 (St.ldsX u i2 (Aa t0 (Aa t2 Ah))) o rfl (Af o Ci rfl) λo=>dq 1 (St.ldsX u i2 (Aa t0 (Aa t2 Ah))) o rfl (λw hl=>Ag o isAgg36 rfl (hl.cellB t1 rfl)) λo=>ds 2 (St.ldsX u i2 (Aa t0 (Aa t2 Ah))) o rfl (Ab o rfl) λo=>ds 3 (St.ldsX u i2 (Aa t0 (Aa t2 Ah))) o rfl (Ab o rfl) λo=>ds 4 (St.ldsX u i2 (Aa t0 (Aa t2 Ah))) o rfl (Am o runUnderlying24 sizeOf48 rfl rfl u0 (SR.oaI U0 (by decide) u0)) λo=>ds 5 (St.ldsX u i2 (Aa t0 (Aa t2 Ah))) o rfl (Af o Ci rfl) λo=>dq 6 (St.ldsX u i2 (Aa t0 (Aa t2 Ah))) o rfl (λw hl=>Ag o isAgg36 rfl (PH.le.cell (λb o hx=>(Lds.le hl) b o ((cp hxHD1.sub C0.sub) b o hx)) (Y1 1 _ rfl))) λo=>ds 7 (St.ldsX u i2 (Aa t0 (Aa t2 Ah))) o rfl (Ab o rfl) λo=>ds 8 (St.ldsX u i2 (Aa t0 (Aa t2 Ah))) o rfl (Am o runUnderlying36 sizeOf9 rfl rfl Q1 (SR.oaI B2 (by decide) Q1)) λo=>dq 9 (St.ldsX u i2 (Aa t0 (Aa t2 Ah))) o rfl (λw hl=>Ag o isAgg9 rfl (PH.le.cell (λb o hx=>(Lds.le hl) b o ((cp hxHD1.sub C0.sub) b o hx)) (Q2 0 _ rfl))) λo=>ds 10 (St.ldsX u i2 (Aa t0 (Aa t2 Ah))) o rfl (Ab o rfl) λo=>ds 11 (St.ldsX u i2 (Aa t0 (Aa t2 Ah))) o rfl (Ab o rfl) λo=>ds 12 (St.ldsX u i2 (Aa t0 (Aa t2 Ah))) o rfl (Am o runUnderlying24 sizeOf48 rfl rfl u0 (SR.oaI U0 (by decide) u0)) λo=>ds 13 (St.ldsX u i2 (Aa t0 (Aa t2 Ah))) o rfl (Af o Ci rfl) λo=>dq 14 (St.ldsX u i2 (Aa t0 (Aa t2 Ah))) o rfl (λw hl=>Ag o isAgg36 rfl (PH.le.cell (λb o hx=>(Lds.le hl) b o ((cp hxHD1.sub C0.sub) b o hx)) (Y1 1 _ rfl))) λo=>ds 15 (St.ldsX u i2 (Aa t0 (Aa t2 Ah))) o rfl (Ab o rfl) λo=>ds 16 (St.ldsX u i2 (Aa t0 (Aa t2 Ah))) o rfl (Am o runUnderlying36 sizeOf9 rfl rfl Q1 (SR.oaI B2 (by decide) Q1)) λo=>dq 17 (St.ldsX u i2 (Aa t0 (Aa t2 Ah))) o rfl (λw hl=>Ag o isAgg9 rfl (PH.le.cell (λb o hx=>(Lds.le hl) b o ((cp hxHD1.sub C0.sub) b o hx)) (Q2 0 _ rfl))) λo=>ds 18 (St.ldsX u i2 (Aa t0 (Aa t2 Ah))) o rfl (Bo (s:=G2) o runUnderlying9 rfl) λo=>ds 19 (St.ldsX u i2 (Aa t0 (Aa t2 Ah))) o rfl (Nb o rfl rfl) λo=>ds 20 (St.ldsX u i2 (Aa t0 (Aa t2 Ah))) o rfl (Gw (s:=G2) (vl:=0) (vh:=(min (G2.length:Int) 40)) o runUnderlying9 rfl rfl rfl W3) λo=>da1 (i:=21) (by kernel_rfl) ?_
 have Y2:Rows (α:=Str) HD1 [Ac R1] ([R1]:List Str):=(.cons (c:=[Ac R1]) rfl .nil)
 refine di (i:=21) rfl<|Bh (e:=9) (sz:=1) [Ac R1] o rfl u rfl rfl rfl (λw=>by kernel_rfl) λR4 w a u o=>⟨λ_=>(St.ldsX u i2 (Aa t1 (Aa t3 Ah))),?_⟩
 refine da1 (i:=22) (by kernel_rfl) ?_
 refine di (i:=22) rfl<|Bw (α:=Str) (xs:=n0) (ys:=([R1]:List Str)) o rfl u underlying36 Pm rfl (by decide) rfl rfl rfl t2 hvE5 (u.rdO t0) Y2 Y3 λA3 R2 B3 w a C3 hU o=>?_
 replace u:=hU _ (.tail (.tail .head))
 replace u:=u.drop .head
 refine ⟨λ_=>(St.ldsX u i2 (Aa t0 (Aa t2 Ah))),?_⟩
 refine ds 23 (St.ldsX u i2 (Aa t0 (Aa t2 Ah))) o rfl (Af o Ci rfl) λo=>da1 (i:=24) (by kernel_rfl) ?_
 refine di (i:=24) rfl<|Ax o u sizeOf36 rfl rfl rfl rfl (.tail (.tail .head)) (.succ .zero) λw u=>⟨λh=>absurd rfl h,?_⟩
 refine de (by kernel_rfl)<|bn<|tn<|rg<|qm o rfl λo=>qv o (Ap o rfl rfl) λo=>qa o rfl λo=>re<|tn<|?_
 exact ⟨(P1,X3,(IntKind.i64.wrap (p0+1))),⟨A3,R2,B3,hm,o.hs,u,C3⟩,Nat.lt_succ_self _⟩
 refine tn<|cfv o rfl C2<|we<|tx<|tx<|bx<|tn<|?_
 exact ⟨n0,oaE2,capE3,vsE4,hm,o.hs,u,hvE5⟩
 rintro a w ⟨K0,oaD11,capD12,vsD13,hm,o,u,hvD14⟩
 unfold Zz at hm
 obtain ⟨l3,n3,hm⟩:=bs hm
 refine rg<|qm o rfl λo=>qv o (Ay o isAgg48 sizeOf48 rfl rfl (u.ld.cellsB t2)) λo=>?_
 obtain ⟨H69,E2,D3,E3,u⟩:=St.frzS u (.tail .head) hvD14
 refine ls<|Bh (e:=48) (sz:=4) [Ac P0,SL oaD11 K0 capD12,SL oaD5 J0 capD6,i6 Q0] o rfl u rfl rfl rfl (λw=>by kernel_rfl) λS4 w a u o=>?_
 have F3:Rows (α:=api_Thread) H69 [Ac P0,SL oaD11 K0 capD12,SL oaD5 J0 capD6,i6 Q0] ([(api_Thread.mk P0 K0 J0 Q0)]:List api_Thread):=(.cons (c:=[Ac P0,SL oaD11 K0 capD12,SL oaD5 J0 capD6,i6 Q0]) ⟨_,_,rfl,rfl,⟨_,_,rfl,⟨_,_,rfl,E3,D3⟩,⟨_,_,rfl,⟨_,_,rfl,hcD7,(hrD8.mono E2.sub)⟩,rfl⟩⟩⟩ .nil)
 refine ls<|Bw (α:=api_Thread) (xs:=F0) (ys:=([(api_Thread.mk P0 K0 J0 Q0)]:List api_Thread)) o rfl u underlying24 Ik rfl (by decide) rfl rfl rfl t1 (J2.mono (cp E2.sub hxHD1.sub)) (u.rdO t0) F3 n3 λG3 T2 I3 w a J3 hU o=>?_
 replace u:=hU _ (.tail .head)
 replace u:=u.drop .head
 refine qa o rfl λo=>re<|bn<|tn<|?_
 replace u:=u.pk [0] rfl
 exact ⟨l3,H69,G3,T2,I3,hm,(Ext.trans hxHD1 E2),o.hs,u,J3⟩
 rintro a w ⟨B1,O1,G1,Y0,I1,hm,hxHC1,o,u,K3⟩
 unfold Zx at hm
 refine rg<|qm o rfl λo=>qv o (Ap o rfl rfl) λo=>qa o rfl λo=>re<|tn<|?_
 exact ⟨(V0,B1,(IntKind.i64.wrap (G0+1))),⟨O1,G1,Y0,I1,hm,(Ext.trans C0 hxHC1),o.hs,u,K3⟩,Nat.lt_succ_self _⟩
 refine tn<|cfv o rfl K2<|we<|tx<|tx<|bx<|tn<|?_
 exact ⟨F0,j0,I0,D0,R0,hm,C0,o.has ⟨rfl,trivial⟩,u,J2⟩
 rintro a w ⟨M1,F2,S1,F1,T1,hm,U2,o,u,L3⟩
 unfold Zw at hm
 refine th<|rg<|qm o rfl λo=>qa o rfl λo=>re<|tn<|wr<|?_
 obtain ⟨H82,M3,O3,P3,u⟩:=St.frzS u .head L3
 obtain rfl:=si hm
 exact r1 o results47 rfl ⟨H82,_,_,rfl,P3,O3,(Ext.trans U2 M3),(St.le u),u.keep⟩
set_option maxHeartbeats 4000000 in
theorem Jce (hH:H.le w0) {cs2:List Value} {p1:api_Prog} (g3:Enc.rep H cs2 p1) {r:api_Prog} (hm:Zm N p1=some r):Tot Tryz.prog 15 #[.agg cs2.toArray] w0 (λv w'=>∃ (H':PH) (cs0:List Value),v=.agg cs0.toArray∧Enc.rep H' cs0 r∧Ext w0 H H'∧H'.le w'∧Keep Nil w0 w'):=by
 unfold Zm at hm
 refine fn0 func15 rfl ntmps15 rfl rfl λa o=>?_
 have u:St w0 Nil [H] [] w0:=start1 hH
 obtain ⟨K4,P3,L4,Q3,R3,W2,S3,X2,T3,Y2,U3,A3,rfl,j6,j5,l4,u4,S4,T4,B4,C4,V3,W3,W6,U4⟩:=Aq g3
 refine th<|rg<|ls<|Br (cs:=[SL K4 p1.Lines P3,SL L4 p1.Vols Q3,SL R3 p1.Locks W2,SL S3 p1.Threads X2,SL T3 p1.Recover Y2,SL U3 p1.Claims A3].toArray) o rfl u rfl rfl λK2 w a u o=>ls<|Au (cs:=[.slice none 0 0,.slice none 0 0,.slice none 0 0,.slice none 0 0,.slice none 0 0,.slice none 0 0].toArray) o rfl u zeroValue27 rfl λU1 w a u o=>re<|tn<|th<|Av (λa w=>∃ (U0:(List api_Cell)) (V0:(List api_Cell)) (R0:(List api_Thread)) (S0:(List api_Thread)) (M2:PH) (O1:Nat) (n0:Option Addr) (P0:Nat) (O2:List Value) (Q0:Option Addr) (J0:Nat) (Q1:List Value) (B1:Option Addr) (W0:Nat) (C1:Option Addr) (X0:Nat),(Zn N p1) U0 V0 R0 S0=some r∧Ext w0 H M2∧Fr 72 [(1,PT K2),(2,PT U1),(3,PT O1)] a∧St w0 Nil [M2] [bk K2 [SL K4 p1.Lines P3,SL L4 p1.Vols Q3,SL R3 p1.Locks W2,SL S3 p1.Threads X2,SL T3 p1.Recover Y2,SL U3 p1.Claims A3] 27,bk U1 [.slice none 0 0,.slice none 0 0,.slice none 0 0,.slice none 0 0,.slice none 0 0,.slice none 0 0] 27,sla 53 3 n0 U0.length P0 O2,sla 53 3 Q0 V0.length J0 Q1,bk O1 [.slice none 0 0,SL n0 U0 P0,SL Q0 V0 J0,SL B1 R0 W0,SL C1 S0 X0,.slice none 0 0] 27] w∧Rows M2 O2 U0∧Rows M2 Q1 V0∧R0.length≤W0∧SR M2 B1 R0∧S0.length≤X0∧SR M2 C1 S0) ?_ ?_
 obtain ⟨F1,k5,hm⟩:=bs hm
 obtain ⟨G1,A5,hm⟩:=bs hm
 obtain ⟨I1,d4,hm⟩:=bs hm
 obtain ⟨J1,M4,hm⟩:=bs hm
 refine rdS 14 u wide λw u=>dr 0 u o rfl (Af o Ea rfl) λo=>dq 1 u.ld o rfl (λw hl=>Ag o isAgg23 rfl (hl.cellB t1 rfl)) λo=>dr 3 u o rfl (Af o Ed rfl) λo=>dq 4 u.ld o rfl (λw hl=>Ag o isAgg23 rfl (hl.cellB t1 rfl)) λo=>dr 6 u o rfl (Af o Dd rfl) λo=>dq 7 u.ld o rfl (λw hl=>Ag o isAgg24 rfl (hl.cellB t1 rfl)) λo=>dr 9 u o rfl (Af o Fv rfl) λo=>dq 10 u.ld o rfl (λw hl=>Ag o isAgg24 rfl (hl.cellB t1 rfl)) λo=>da2 (i:=2) (j:=13) (by kernel_rfl) ?_ ?_
 refine di (i:=2) rfl<|c1 o rfl call46 (Tc (Ai _) l4 (St.srH u u4) k5) ⟨rfl,trivial⟩ (λv w a hR o=>?_)
 obtain ⟨T0,I0,J3,rfl,M1,hk⟩:=hR
 replace u:=u.fresh hk
 replace M1:=M1 H
 refine ⟨λ_=>(St.ldsX u i2 ta1),?_⟩
 refine da2 (i:=5) (j:=13) (by kernel_rfl) ?_ ?_
 refine di (i:=5) rfl<|c1 o rfl call46 (Tc (Ai _) S4 (St.srH u T4) A5) ⟨rfl,trivial⟩ (λv w a hR o=>?_)
 obtain ⟨O0,G0,P2,rfl,p0,hk⟩:=hR
 replace u:=u.fresh hk
 replace p0:=p0 H
 refine ⟨λ_=>(St.ldsX u i2 ta2),?_⟩
 refine da2 (i:=8) (j:=13) (by kernel_rfl) ?_ ?_
 refine di (i:=8) rfl<|c1 o rfl call47 (Nw (St.le u) B4 C4 d4) ⟨rfl,trivial⟩ (λv w a hR o=>?_)
 obtain ⟨H49,M0,F0,rfl,V1,X1,C0,Q2,hk⟩:=hR
 obtain ⟨u,C0⟩:=And.intro (St.passH u hk C0 Q2) (St.extc u C0)
 refine ⟨λ_=>(St.ldsX u C0.sub ta2),?_⟩
 refine da2 (i:=11) (j:=13) (by kernel_rfl) ?_ ?_
 refine di (i:=11) rfl<|c1 o rfl call47 (Nw (St.le u) V3 (W3.mono C0.sub) M4) ⟨rfl,trivial⟩ (λv w a hR o=>?_)
 obtain ⟨H59,K0,E0,rfl,R1,S1,D0,T1,hk⟩:=hR
 obtain ⟨u,D0⟩:=And.intro (St.passH u hk D0 T1) (St.extc u D0)
 refine ⟨λ_=>(St.ldsX u (cp D0.sub C0.sub) ta2),?_⟩
 refine dq 12 (St.ldsX u (cp D0.sub C0.sub) ta2) o rfl (λw hl=>Bp [SL T0 F1 I0,SL O0 G1 G0,SL M0 I1 F0,SL K0 J1 E0] [.slice none 0 0,SL T0 F1 I0,SL O0 G1 G0,SL M0 I1 F0,SL K0 J1 E0,.slice none 0 0] o ⟨rfl,rfl,rfl,rfl,trivial⟩ (λw=>by kernel_rfl)) λo=>da1 (i:=13) (by kernel_rfl) ?_
 refine di (i:=13) rfl<|Au (cs:=[.slice none 0 0,.slice none 0 0,.slice none 0 0,.slice none 0 0,.slice none 0 0,.slice none 0 0].toArray) o rfl u zeroValue27 rfl λB3 w a u o=>⟨λ_=>(St.ldsX u (cp D0.sub C0.sub) ta3),?_⟩
 refine da1 (i:=14) (by kernel_rfl) ?_
 refine di (i:=14) rfl<|Az o u sizeOf27 rfl rfl rfl rfl (Al rfl) .head λw u=>⟨λh=>absurd rfl h,?_⟩
 refine de (by kernel_rfl)<|tn<|?_
 replace u:=u.pk [4,3,2,1,0] rfl
 exact ⟨F1,G1,I1,J1,H59,B3,T0,I0,J3,O0,G0,P2,M0,F0,K0,E0,hm,(Ext.trans C0 D0),o.hs,u,(M1.mono (cp D0.sub C0.sub)),(p0.mono (cp D0.sub C0.sub)),V1,(X1.mono D0.sub),R1,S1⟩
 refine di (i:=13) rfl<|Au (cs:=[.slice none 0 0,.slice none 0 0,.slice none 0 0,.slice none 0 0,.slice none 0 0,.slice none 0 0].toArray) o rfl u zeroValue27 rfl λB3 w a u o=>⟨λ_=>(St.ldsX u C0.sub ta3),?_⟩
 refine da1 (i:=11) (by kernel_rfl) ?_
 refine di (i:=11) rfl<|c1 o rfl call47 (Nw (St.le u) V3 (W3.mono C0.sub) M4) ⟨rfl,trivial⟩ (λv w a hR o=>?_)
 obtain ⟨H59,K0,E0,rfl,R1,S1,D0,T1,hk⟩:=hR
 obtain ⟨u,D0⟩:=And.intro (St.passH u hk D0 T1) (St.extc u D0)
 refine ⟨λ_=>(St.ldsX u (cp D0.sub C0.sub) ta3),?_⟩
 refine dq 12 (St.ldsX u (cp D0.sub C0.sub) ta3) o rfl (λw hl=>Bp [SL T0 F1 I0,SL O0 G1 G0,SL M0 I1 F0,SL K0 J1 E0] [.slice none 0 0,SL T0 F1 I0,SL O0 G1 G0,SL M0 I1 F0,SL K0 J1 E0,.slice none 0 0] o ⟨rfl,rfl,rfl,rfl,trivial⟩ (λw=>by kernel_rfl)) λo=>da1 (i:=14) (by kernel_rfl) ?_
 refine di (i:=14) rfl<|Az o u sizeOf27 rfl rfl rfl rfl (Al rfl) .head λw u=>⟨λh=>absurd rfl h,?_⟩
 refine de (by kernel_rfl)<|tn<|?_
 replace u:=u.pk [4,3,2,1,0] rfl
 exact ⟨F1,G1,I1,J1,H59,B3,T0,I0,J3,O0,G0,P2,M0,F0,K0,E0,hm,(Ext.trans C0 D0),o.hs,u,(M1.mono (cp D0.sub C0.sub)),(p0.mono (cp D0.sub C0.sub)),V1,(X1.mono D0.sub),R1,S1⟩
 refine di (i:=13) rfl<|Au (cs:=[.slice none 0 0,.slice none 0 0,.slice none 0 0,.slice none 0 0,.slice none 0 0,.slice none 0 0].toArray) o rfl u zeroValue27 rfl λB3 w a u o=>⟨λ_=>(St.ldsX u i2 ta3),?_⟩
 refine da1 (i:=8) (by kernel_rfl) ?_
 refine di (i:=8) rfl<|c1 o rfl call47 (Nw (St.le u) B4 C4 d4) ⟨rfl,trivial⟩ (λv w a hR o=>?_)
 obtain ⟨H49,M0,F0,rfl,V1,X1,C0,Q2,hk⟩:=hR
 obtain ⟨u,C0⟩:=And.intro (St.passH u hk C0 Q2) (St.extc u C0)
 refine ⟨λ_=>(St.ldsX u C0.sub ta3),?_⟩
 refine da1 (i:=11) (by kernel_rfl) ?_
 refine di (i:=11) rfl<|c1 o rfl call47 (Nw (St.le u) V3 (W3.mono C0.sub) M4) ⟨rfl,trivial⟩ (λv w a hR o=>?_)
 obtain ⟨H59,K0,E0,rfl,R1,S1,D0,T1,hk⟩:=hR
 obtain ⟨u,D0⟩:=And.intro (St.passH u hk D0 T1) (St.extc u D0)
 refine ⟨λ_=>(St.ldsX u (cp D0.sub C0.sub) ta3),?_⟩
 refine dq 12 (St.ldsX u (cp D0.sub C0.sub) ta3) o rfl (λw hl=>Bp [SL T0 F1 I0,SL O0 G1 G0,SL M0 I1 F0,SL K0 J1 E0] [.slice none 0 0,SL T0 F1 I0,SL O0 G1 G0,SL M0 I1 F0,SL K0 J1 E0,.slice none 0 0] o ⟨rfl,rfl,rfl,rfl,trivial⟩ (λw=>by kernel_rfl)) λo=>da1 (i:=14) (by kernel_rfl) ?_
 refine di (i:=14) rfl<|Az o u sizeOf27 rfl rfl rfl rfl (Al rfl) .head λw u=>⟨λh=>absurd rfl h,?_⟩
 refine de (by kernel_rfl)<|tn<|?_
 replace u:=u.pk [4,3,2,1,0] rfl
 exact ⟨F1,G1,I1,J1,H59,B3,T0,I0,J3,O0,G0,P2,M0,F0,K0,E0,hm,(Ext.trans C0 D0),o.hs,u,(M1.mono (cp D0.sub C0.sub)),(p0.mono (cp D0.sub C0.sub)),V1,(X1.mono D0.sub),R1,S1⟩
 refine di (i:=13) rfl<|Au (cs:=[.slice none 0 0,.slice none 0 0,.slice none 0 0,.slice none 0 0,.slice none 0 0,.slice none 0 0].toArray) o rfl u zeroValue27 rfl λB3 w a u o=>⟨λ_=>(St.ldsX u i2 ta2),?_⟩
 refine da1 (i:=5) (by kernel_rfl) ?_
 refine di (i:=5) rfl<|c1 o rfl call46 (Tc (Ai _) S4 (St.srH u T4) A5) ⟨rfl,trivial⟩ (λv w a hR o=>?_)
 obtain ⟨O0,G0,P2,rfl,p0,hk⟩:=hR
 replace u:=u.fresh hk
 replace p0:=p0 H
 refine ⟨λ_=>(St.ldsX u i2 ta3),?_⟩
 refine da1 (i:=8) (by kernel_rfl) ?_
 refine di (i:=8) rfl<|c1 o rfl call47 (Nw (St.le u) B4 C4 d4) ⟨rfl,trivial⟩ (λv w a hR o=>?_)
 obtain ⟨H49,M0,F0,rfl,V1,X1,C0,Q2,hk⟩:=hR
 obtain ⟨u,C0⟩:=And.intro (St.passH u hk C0 Q2) (St.extc u C0)
 refine ⟨λ_=>(St.ldsX u C0.sub ta3),?_⟩
 refine da1 (i:=11) (by kernel_rfl) ?_
 refine di (i:=11) rfl<|c1 o rfl call47 (Nw (St.le u) V3 (W3.mono C0.sub) M4) ⟨rfl,trivial⟩ (λv w a hR o=>?_)
 obtain ⟨H59,K0,E0,rfl,R1,S1,D0,T1,hk⟩:=hR
 obtain ⟨u,D0⟩:=And.intro (St.passH u hk D0 T1) (St.extc u D0)
 refine ⟨λ_=>(St.ldsX u (cp D0.sub C0.sub) ta3),?_⟩
 refine dq 12 (St.ldsX u (cp D0.sub C0.sub) ta3) o rfl (λw hl=>Bp [SL T0 F1 I0,SL O0 G1 G0,SL M0 I1 F0,SL K0 J1 E0] [.slice none 0 0,SL T0 F1 I0,SL O0 G1 G0,SL M0 I1 F0,SL K0 J1 E0,.slice none 0 0] o ⟨rfl,rfl,rfl,rfl,trivial⟩ (λw=>by kernel_rfl)) λo=>da1 (i:=14) (by kernel_rfl) ?_
 refine di (i:=14) rfl<|Az o u sizeOf27 rfl rfl rfl rfl (Al rfl) (.tail .head) λw u=>⟨λh=>absurd rfl h,?_⟩
 refine de (by kernel_rfl)<|tn<|?_
 replace u:=u.pk [4,3,2,0,0] rfl
 exact ⟨F1,G1,I1,J1,H59,B3,T0,I0,J3,O0,G0,P2,M0,F0,K0,E0,hm,(Ext.trans C0 D0),o.hs,u,(M1.mono (cp D0.sub C0.sub)),(p0.mono (cp D0.sub C0.sub)),V1,(X1.mono D0.sub),R1,S1⟩
 refine di (i:=13) rfl<|Au (cs:=[.slice none 0 0,.slice none 0 0,.slice none 0 0,.slice none 0 0,.slice none 0 0,.slice none 0 0].toArray) o rfl u zeroValue27 rfl λB3 w a u o=>⟨λ_=>(St.ldsX u i2 ta1),?_⟩
 refine da1 (i:=2) (by kernel_rfl) ?_
 refine di (i:=2) rfl<|c1 o rfl call46 (Tc (Ai _) l4 (St.srH u u4) k5) ⟨rfl,trivial⟩ (λv w a hR o=>?_)
 obtain ⟨T0,I0,J3,rfl,M1,hk⟩:=hR
 replace u:=u.fresh hk
 replace M1:=M1 H
 refine ⟨λ_=>(St.ldsX u i2 ta2),?_⟩
 refine da1 (i:=5) (by kernel_rfl) ?_
 refine di (i:=5) rfl<|c1 o rfl call46 (Tc (Ai _) S4 (St.srH u T4) A5) ⟨rfl,trivial⟩ (λv w a hR o=>?_)
 obtain ⟨O0,G0,P2,rfl,p0,hk⟩:=hR
 replace u:=u.fresh hk
 replace p0:=p0 H
 refine ⟨λ_=>(St.ldsX u i2 ta3),?_⟩
 refine da1 (i:=8) (by kernel_rfl) ?_
 refine di (i:=8) rfl<|c1 o rfl call47 (Nw (St.le u) B4 C4 d4) ⟨rfl,trivial⟩ (λv w a hR o=>?_)
 obtain ⟨H49,M0,F0,rfl,V1,X1,C0,Q2,hk⟩:=hR
 obtain ⟨u,C0⟩:=And.intro (St.passH u hk C0 Q2) (St.extc u C0)
 refine ⟨λ_=>(St.ldsX u C0.sub ta3),?_⟩
 refine da1 (i:=11) (by kernel_rfl) ?_
 refine di (i:=11) rfl<|c1 o rfl call47 (Nw (St.le u) V3 (W3.mono C0.sub) M4) ⟨rfl,trivial⟩ (λv w a hR o=>?_)
 obtain ⟨H59,K0,E0,rfl,R1,S1,D0,T1,hk⟩:=hR
 obtain ⟨u,D0⟩:=And.intro (St.passH u hk D0 T1) (St.extc u D0)
 refine ⟨λ_=>(St.ldsX u (cp D0.sub C0.sub) ta3),?_⟩
 refine dq 12 (St.ldsX u (cp D0.sub C0.sub) ta3) o rfl (λw hl=>Bp [SL T0 F1 I0,SL O0 G1 G0,SL M0 I1 F0,SL K0 J1 E0] [.slice none 0 0,SL T0 F1 I0,SL O0 G1 G0,SL M0 I1 F0,SL K0 J1 E0,.slice none 0 0] o ⟨rfl,rfl,rfl,rfl,trivial⟩ (λw=>by kernel_rfl)) λo=>da1 (i:=14) (by kernel_rfl) ?_
 refine di (i:=14) rfl<|Az o u sizeOf27 rfl rfl rfl rfl (Al rfl) (.tail (.tail .head)) λw u=>⟨λh=>absurd rfl h,?_⟩
 refine de (by kernel_rfl)<|tn<|?_
 replace u:=u.pk [4,3,1,0,0] rfl
 exact ⟨F1,G1,I1,J1,H59,B3,T0,I0,J3,O0,G0,P2,M0,F0,K0,E0,hm,(Ext.trans C0 D0),o.hs,u,(M1.mono (cp D0.sub C0.sub)),(p0.mono (cp D0.sub C0.sub)),V1,(X1.mono D0.sub),R1,S1⟩
 rintro a w ⟨U0,V0,R0,S0,M2,O1,n0,P0,O2,Q0,J0,Q1,B1,W0,C1,X0,hm,E2,o,u,n5,E5,hcA18,hrA19,hcA23,hrA24⟩
 unfold Zn at hm
 refine th<|th<|rg<|qa o rfl λo=>re<|tn<|Av (λa w=>∃ (Y0:(List (List api_Cell))) (R2:PH) (E1:Option Addr) (j0:Nat) (C3:List Value),(Zo N p1 U0 V0 R0 S0) Y0=some r∧Ext w0 M2 R2∧Fr 72 [(1,PT K2),(2,PT U1),(3,PT O1)] a∧St w0 Nil [R2] [bk K2 [SL K4 p1.Lines P3,SL L4 p1.Vols Q3,SL R3 p1.Locks W2,SL S3 p1.Threads X2,SL T3 p1.Recover Y2,SL U3 p1.Claims A3] 27,bk U1 [.slice none 0 0,.slice none 0 0,.slice none 0 0,.slice none 0 0,.slice none 0 0,.slice none 0 0] 27,sla 23 1 E1 Y0.length j0 C3,sla 53 3 n0 U0.length P0 O2,sla 53 3 Q0 V0.length J0 Q1,bk O1 [SL E1 Y0 j0,SL n0 U0 P0,SL Q0 V0 J0,SL B1 R0 W0,SL C1 S0 X0,.slice none 0 0] 27] w∧Rows R2 C3 Y0) ?_ ?_
 replace u:=u.nilS 23 1
 replace u:=u.pk [1,1,0,0,0,0] rfl
 refine wb<|lp (α:=Nat×(List (List api_Cell))×Int) (λ(gh:Nat×(List (List api_Cell))×Int) a w=>match gh with | (O4,X3,Y3)=>∃ (u3:PH) (D4:Option Addr) (K3:Nat) (E4:List Value),(Zq N (Zo N p1 U0 V0 R0 S0) p1) O4 X3 Y3=some r∧Ext w0 M2 u3∧Fr 72 [(1,PT K2),(2,PT U1),(3,PT O1),(4,i6 Y3)] a∧St w0 Nil [u3] [bk K2 [SL K4 p1.Lines P3,SL L4 p1.Vols Q3,SL R3 p1.Locks W2,SL S3 p1.Threads X2,SL T3 p1.Recover Y2,SL U3 p1.Claims A3] 27,bk U1 [.slice none 0 0,.slice none 0 0,.slice none 0 0,.slice none 0 0,.slice none 0 0,.slice none 0 0] 27,sla 23 1 D4 X3.length K3 E4,sla 53 3 n0 U0.length P0 O2,sla 53 3 Q0 V0.length J0 Q1,bk O1 [SL D4 X3 K3,SL n0 U0 P0,SL Q0 V0 J0,SL B1 R0 W0,SL C1 S0 X0,.slice none 0 0] 27] w∧Rows u3 E4 X3) (λgh=>gh.1) (N,[],0) ⟨M2,none,0,[],hm,(Ext.refl _ _),o.hs,u,.nil⟩ ?_
 rintro ⟨O4,X3,Y3⟩ a w ⟨u3,D4,K3,E4,hm,L3,o,u,B5⟩
 obtain _ | O4:=O4
 simp [Zq] at hm
 rw [Zq] at hm
 refine th<|th<|rg<|qm o rfl λo=>qv o (Af o Ca rfl) λo=>qv o (Ag o isAgg22 rfl (u.ld.cellB t0 rfl)) λo=>qv o (Ak (α:=(List api_Cell)) (xs:=p1.Lines) o runUnderlying22 rfl) λo=>qv o (Ao o rfl rfl) λo=>qm o rfl λo=>gr (Fk:=[(1,PT K2),(2,PT U1),(3,PT O1),(4,i6 Y3),(27,.bool ((decide (Y3 < (p1.Lines.length:Int))) && (decide (Y3 < 6))))]) 24 3 o u ?_ ?_ ?_
 intro hb o key
 exact qg o (Ab o rfl) λo=>qg o (Ao o rfl rfl) λo=>qk o (Ad o rfl rfl) key u hb
 intro hb o key
 iterate 2 refine qn o λo=>?_
 exact qk o (Ae o rfl rfl) key u hb
 intro a w o u
 refine re<|?_
 rcases bit hm with ⟨V4,hm⟩ | ⟨V4,hm⟩
 refine tn<|ctv o rfl V4<|wk<|tn<|th<|wb<|?_
 obtain ⟨k6,C5,hm⟩:=bs hm
 obtain ⟨n6,M6,u5⟩:=SR.get j5 C5
 obtain ⟨X6,T6,rfl,A6,B6⟩:=M6
 obtain ⟨P4,O6,hm⟩:=bs hm
 obtain ⟨P6,Q6,hm⟩:=bs hm
 refine rdL (Aa t0 (Aa t1 (Aa t3 (Aa t4 (Aa t5 Ah))))) 11 u wide λw u=>ds 0 (St.ldsX u i2 (Aa t0 (Aa t1 (Aa t3 (Aa t4 (Aa t5 Ah)))))) o rfl (Af o Ca rfl) λo=>dq 1 (St.ldsX u i2 (Aa t0 (Aa t1 (Aa t3 (Aa t4 (Aa t5 Ah)))))) o rfl (λw hl=>Ag o isAgg22 rfl (hl.cellB t4 rfl)) λo=>ds 2 (St.ldsX u i2 (Aa t0 (Aa t1 (Aa t3 (Aa t4 (Aa t5 Ah)))))) o rfl (Af o Ca rfl) λo=>dq 3 (St.ldsX u i2 (Aa t0 (Aa t1 (Aa t3 (Aa t4 (Aa t5 Ah)))))) o rfl (λw hl=>Ag o isAgg22 rfl (hl.cellB t0 rfl)) λo=>ds 4 (St.ldsX u i2 (Aa t0 (Aa t1 (Aa t3 (Aa t4 (Aa t5 Ah)))))) o rfl (Ab o rfl) λo=>ds 5 (St.ldsX u i2 (Aa t0 (Aa t1 (Aa t3 (Aa t4 (Aa t5 Ah)))))) o rfl (Am o runUnderlying22 sizeOf23 rfl rfl C5 (SR.oaI j5 (by decide) C5)) λo=>dq 6 (St.ldsX u i2 (Aa t0 (Aa t1 (Aa t3 (Aa t4 (Aa t5 Ah)))))) o rfl (λw hl=>Ag o isAgg23 rfl (PH.le.cell (λb o hx=>(Lds.le hl) b o ((cp L3.sub E2.sub) b o hx)) (u5 0 _ rfl))) λo=>da1 (i:=7) (by kernel_rfl) ?_
 refine di (i:=7) rfl<|c1 o rfl call46 (Tc (Ai _) A6 (St.srH u (B6.mono (cp L3.sub E2.sub))) O6) ⟨rfl,trivial⟩ (λv w a hR o=>?_)
 obtain ⟨W4,F4,Y6,rfl,X4,hk⟩:=hR
 replace u:=u.fresh hk
 replace X4:=X4 u3
 refine ⟨λ_=>(St.ldsX u i2 (Aa t1 (Aa t2 (Aa t4 (Aa t5 (Aa t6 Ah)))))),?_⟩
 refine da1 (i:=8) (by kernel_rfl) ?_
 obtain ⟨H85,l3,C6,D6,u⟩:=St.frzS u .head X4
 refine di (i:=8) rfl<|Bh (e:=23) (sz:=1) [SL W4 P4 F4] o rfl u rfl rfl rfl (λw=>by kernel_rfl) λu6 w a u o=>?_
 have E6:Rows (α:=(List api_Cell)) H85 [SL W4 P4 F4] ([P4]:List (List api_Cell)):=(.cons (c:=[SL W4 P4 F4]) ⟨_,_,rfl,D6,C6⟩ .nil)
 refine ⟨λ_=>(St.ldsX u l3.sub (Aa t1 (Aa t2 (Aa t4 (Aa t5 (Aa t6 Ah)))))),?_⟩
 refine da1 (i:=9) (by kernel_rfl) ?_
 refine di (i:=9) rfl<|Bw (α:=(List api_Cell)) (xs:=X3) (ys:=([P4]:List (List api_Cell))) o rfl u underlying22 Tv rfl (by decide) rfl rfl rfl t3 (B5.mono l3.sub) (u.rdO t0) E6 Q6 λF6 F5 G6 w a I6 hU o=>?_
 replace u:=hU _ (.tail (.tail (.tail .head)))
 replace u:=u.drop .head
 refine ⟨λ_=>(St.ldsX u l3.sub (Aa t0 (Aa t1 (Aa t3 (Aa t4 (Aa t5 Ah)))))),?_⟩
 refine ds 10 (St.ldsX u l3.sub (Aa t0 (Aa t1 (Aa t3 (Aa t4 (Aa t5 Ah)))))) o rfl (Af o Ca rfl) λo=>da1 (i:=11) (by kernel_rfl) ?_
 refine di (i:=11) rfl<|Ax o u sizeOf22 rfl rfl rfl rfl (.tail (.tail (.tail (.tail (.tail .head))))) .zero λw u=>⟨λh=>absurd rfl h,?_⟩
 refine de (by kernel_rfl)<|bn<|tn<|rg<|qm o rfl λo=>qv o (Ap o rfl rfl) λo=>qa o rfl λo=>re<|tn<|?_
 exact ⟨(O4,P6,(IntKind.i64.wrap (Y3+1))),⟨H85,F6,F5,G6,hm,(Ext.trans L3 l3),o.hs,u,I6⟩,Nat.lt_succ_self _⟩
 refine tn<|cfv o rfl V4<|we<|tx<|tx<|bx<|tn<|?_
 exact ⟨X3,u3,D4,K3,E4,hm,L3,o.hs,u,B5⟩
 rintro a w ⟨Y0,R2,E1,j0,C3,hm,u0,o,u,G5⟩
 unfold Zo at hm
 refine th<|th<|rg<|qa o rfl λo=>re<|tn<|Av (λa w=>∃ (Y1:(List api_Claim)) (G4:PH) (D3:Option Addr) (B2:Nat) (I4:List Value),(Zp U0 V0 R0 S0 Y0) Y1=some r∧Ext w0 R2 G4∧Fr 72 [(2,PT U1),(3,PT O1)] a∧St w0 Nil [G4] [bk U1 [.slice none 0 0,.slice none 0 0,.slice none 0 0,.slice none 0 0,.slice none 0 0,.slice none 0 0] 27,sla 23 1 E1 Y0.length j0 C3,sla 53 3 n0 U0.length P0 O2,sla 53 3 Q0 V0.length J0 Q1,sla 74 2 D3 Y1.length B2 I4,bk O1 [SL E1 Y0 j0,SL n0 U0 P0,SL Q0 V0 J0,SL B1 R0 W0,SL C1 S0 X0,SL D3 Y1 B2] 27] w∧Rows G4 I4 Y1) ?_ ?_
 replace u:=u.nilS 74 2
 replace u:=u.pk [1,1,1,1,1,0,0] rfl
 refine wb<|lp (α:=Nat×(List api_Claim)×Int) (λgh a w=>match gh with | (Q4,T2,U2)=>∃ (A4:PH) (M3:Option Addr) (E3:Nat) (O3:List Value),(Zr N (Zp U0 V0 R0 S0 Y0) p1) Q4 T2 U2=some r∧Ext w0 R2 A4∧Fr 72 [(1,PT K2),(2,PT U1),(3,PT O1),(5,i6 U2)] a∧St w0 Nil [A4] [bk K2 [SL K4 p1.Lines P3,SL L4 p1.Vols Q3,SL R3 p1.Locks W2,SL S3 p1.Threads X2,SL T3 p1.Recover Y2,SL U3 p1.Claims A3] 27,bk U1 [.slice none 0 0,.slice none 0 0,.slice none 0 0,.slice none 0 0,.slice none 0 0,.slice none 0 0] 27,sla 23 1 E1 Y0.length j0 C3,sla 53 3 n0 U0.length P0 O2,sla 53 3 Q0 V0.length J0 Q1,sla 74 2 M3 T2.length E3 O3,bk O1 [SL E1 Y0 j0,SL n0 U0 P0,SL Q0 V0 J0,SL B1 R0 W0,SL C1 S0 X0,SL M3 T2 E3] 27] w∧Rows A4 O3 T2) (λgh=>gh.1) (N,[],0) ⟨R2,none,0,[],hm,(Ext.refl _ _),o.hs,u,.nil⟩ ?_
 rintro ⟨Q4,T2,U2⟩ a w ⟨A4,M3,E3,O3,hm,F3,o,u,j4⟩
 obtain _ | Q4:=Q4
 simp [Zr] at hm
 rw [Zr] at hm
 refine th<|th<|rg<|qm o rfl λo=>qv o (Af o Cz rfl) λo=>qv o (Ag o isAgg25 rfl (u.ld.cellB t0 rfl)) λo=>qv o (Ak (α:=api_Claim) (xs:=p1.Claims) o runUnderlying25 rfl) λo=>qv o (Ao o rfl rfl) λo=>qm o rfl λo=>gr (Fk:=[(1,PT K2),(2,PT U1),(3,PT O1),(5,i6 U2),(49,.bool ((decide (U2 < (p1.Claims.length:Int))) && (decide (U2 < 6))))]) 46 3 o u ?_ ?_ ?_
 intro hb o key
 exact qg o (Ab o rfl) λo=>qg o (Ao o rfl rfl) λo=>qk o (Ad o rfl rfl) key u hb
 intro hb o key
 iterate 2 refine qn o λo=>?_
 exact qk o (Ae o rfl rfl) key u hb
 intro a w o u
 refine re<|?_
 rcases bit hm with ⟨Y4,hm⟩ | ⟨Y4,hm⟩
 refine tn<|ctv o rfl Y4<|wk<|tn<|th<|wb<|?_
 obtain ⟨n3,R4,hm⟩:=bs hm
 obtain ⟨v6,R6,k4⟩:=SR.get U4 R4
 obtain ⟨U6,S6,rfl,I5,J5⟩:=Cf R6
 obtain ⟨V2,J6,hm⟩:=bs hm
 obtain ⟨K6,L6,hm⟩:=bs hm
 refine rdL (Aa t0 (Aa t1 (Aa t2 (Aa t3 (Aa t4 (Aa t6 Ah)))))) 19 u wide λw u=>ds 0 (St.ldsX u i2 (Aa t0 (Aa t1 (Aa t2 (Aa t3 (Aa t4 (Aa t6 Ah))))))) o rfl (Af o Cz rfl) λo=>dq 1 (St.ldsX u i2 (Aa t0 (Aa t1 (Aa t2 (Aa t3 (Aa t4 (Aa t6 Ah))))))) o rfl (λw hl=>Ag o isAgg25 rfl (hl.cellB t5 rfl)) λo=>ds 2 (St.ldsX u i2 (Aa t0 (Aa t1 (Aa t2 (Aa t3 (Aa t4 (Aa t6 Ah))))))) o rfl (Af o Cz rfl) λo=>dq 3 (St.ldsX u i2 (Aa t0 (Aa t1 (Aa t2 (Aa t3 (Aa t4 (Aa t6 Ah))))))) o rfl (λw hl=>Ag o isAgg25 rfl (hl.cellB t0 rfl)) λo=>ds 4 (St.ldsX u i2 (Aa t0 (Aa t1 (Aa t2 (Aa t3 (Aa t4 (Aa t6 Ah))))))) o rfl (Ab o rfl) λo=>ds 5 (St.ldsX u i2 (Aa t0 (Aa t1 (Aa t2 (Aa t3 (Aa t4 (Aa t6 Ah))))))) o rfl (Am o runUnderlying25 sizeOf74 rfl rfl R4 (SR.oaI U4 (by decide) R4)) λo=>ds 6 (St.ldsX u i2 (Aa t0 (Aa t1 (Aa t2 (Aa t3 (Aa t4 (Aa t6 Ah))))))) o rfl (Af o Ld rfl) λo=>dq 7 (St.ldsX u i2 (Aa t0 (Aa t1 (Aa t2 (Aa t3 (Aa t4 (Aa t6 Ah))))))) o rfl (λw hl=>Ag o isAgg49 rfl (PH.le.cell (λb o hx=>(Lds.le hl) b o ((cp (cp F3.sub u0.sub) E2.sub) b o hx)) (k4 0 _ rfl))) λo=>ds 9 (St.ldsX u i2 (Aa t0 (Aa t1 (Aa t2 (Aa t3 (Aa t4 (Aa t6 Ah))))))) o rfl (Af o Cz rfl) λo=>dq 10 (St.ldsX u i2 (Aa t0 (Aa t1 (Aa t2 (Aa t3 (Aa t4 (Aa t6 Ah))))))) o rfl (λw hl=>Ag o isAgg25 rfl (hl.cellB t0 rfl)) λo=>ds 11 (St.ldsX u i2 (Aa t0 (Aa t1 (Aa t2 (Aa t3 (Aa t4 (Aa t6 Ah))))))) o rfl (Ab o rfl) λo=>ds 12 (St.ldsX u i2 (Aa t0 (Aa t1 (Aa t2 (Aa t3 (Aa t4 (Aa t6 Ah))))))) o rfl (Am o runUnderlying25 sizeOf74 rfl rfl R4 (SR.oaI U4 (by decide) R4)) λo=>ds 13 (St.ldsX u i2 (Aa t0 (Aa t1 (Aa t2 (Aa t3 (Aa t4 (Aa t6 Ah))))))) o rfl (Af o Kp rfl) λo=>dq 14 (St.ldsX u i2 (Aa t0 (Aa t1 (Aa t2 (Aa t3 (Aa t4 (Aa t6 Ah))))))) o rfl (λw hl=>Ag o isAgg3 rfl (PH.le.cell (λb o hx=>(Lds.le hl) b o ((cp (cp F3.sub u0.sub) E2.sub) b o hx)) (k4 1 _ rfl))) λo=>da1 (i:=8) (by kernel_rfl) ?_
 refine di (i:=8) rfl<|c1 o rfl call48 (Yu (Ai _) I5 (St.srH u (J5.mono (cp (cp F3.sub u0.sub) E2.sub))) J6) ⟨rfl,trivial⟩ (λv w a hR o=>?_)
 obtain ⟨G3,C2,V6,rfl,J4,hk⟩:=hR
 replace u:=u.fresh hk
 replace J4:=J4 A4
 refine ⟨λ_=>(St.ldsX u i2 (Aa t1 (Aa t2 (Aa t3 (Aa t4 (Aa t5 (Aa t7 Ah))))))),?_⟩
 refine dq 15 (St.ldsX u i2 (Aa t1 (Aa t2 (Aa t3 (Aa t4 (Aa t5 (Aa t7 Ah))))))) o rfl (λw hl=>Bp [SL G3 V2 C2,i6 n3.At] [SL G3 V2 C2,i6 n3.At] o ⟨rfl,rfl,trivial⟩ (λw=>by kernel_rfl)) λo=>da1 (i:=16) (by kernel_rfl) ?_
 obtain ⟨H115,I3,K5,L5,u⟩:=St.frzS u .head J4
 refine di (i:=16) rfl<|Bh (e:=74) (sz:=2) [SL G3 V2 C2,i6 n3.At] o rfl u rfl rfl rfl (λw=>by kernel_rfl) λd6 w a u o=>?_
 have M5:Rows (α:=api_Claim) H115 [SL G3 V2 C2,i6 n3.At] ([(api_Claim.mk V2 n3.At)]:List api_Claim):=(.cons (c:=[SL G3 V2 C2,i6 n3.At]) ⟨_,_,rfl,⟨_,_,rfl,L5,K5⟩,rfl⟩ .nil)
 refine ⟨λ_=>(St.ldsX u I3.sub (Aa t1 (Aa t2 (Aa t3 (Aa t4 (Aa t5 (Aa t7 Ah))))))),?_⟩
 refine da1 (i:=17) (by kernel_rfl) ?_
 refine di (i:=17) rfl<|Bw (α:=api_Claim) (xs:=T2) (ys:=([(api_Claim.mk V2 n3.At)]:List api_Claim)) o rfl u underlying25 Uz rfl (by decide) rfl rfl rfl t6 (j4.mono I3.sub) (u.rdO t0) M5 L6 λO5 D5 P5 w a Q5 hU o=>?_
 replace u:=hU _ (.tail (.tail (.tail (.tail (.tail (.tail .head))))))
 replace u:=u.drop .head
 refine ⟨λ_=>(St.ldsX u I3.sub (Aa t0 (Aa t1 (Aa t2 (Aa t3 (Aa t4 (Aa t6 Ah))))))),?_⟩
 refine ds 18 (St.ldsX u I3.sub (Aa t0 (Aa t1 (Aa t2 (Aa t3 (Aa t4 (Aa t6 Ah))))))) o rfl (Af o Cz rfl) λo=>da1 (i:=19) (by kernel_rfl) ?_
 refine di (i:=19) rfl<|Ax o u sizeOf25 rfl rfl rfl rfl (.tail (.tail (.tail (.tail (.tail (.tail .head)))))) (.succ (.succ (.succ (.succ (.succ .zero))))) λw u=>⟨λh=>absurd rfl h,?_⟩
 refine de (by kernel_rfl)<|bn<|tn<|rg<|qm o rfl λo=>qv o (Ap o rfl rfl) λo=>qa o rfl λo=>re<|tn<|?_
 exact ⟨(Q4,K6,(IntKind.i64.wrap (U2+1))),⟨H115,O5,D5,P5,hm,(Ext.trans F3 I3),o.hs,u,Q5⟩,Nat.lt_succ_self _⟩
 refine tn<|cfv o rfl Y4<|we<|tx<|tx<|bx<|tn<|?_
 replace u:=u.pk [1,1,1,1,1,1] rfl
 exact ⟨T2,A4,M3,E3,O3,hm,F3,o.has ⟨rfl,rfl,trivial⟩,u,j4⟩
 rintro a w ⟨Y1,G4,D3,B2,I4,hm,P1,o,u,R5⟩
 unfold Zp at hm
 refine th<|rg<|qv o (Ay o Tryz.isAgg27 Tryz.sizeOf27 rfl rfl (u.ld.cellsB t5)) λo=>ls<|Az o u sizeOf27 rfl rfl rfl rfl (Al rfl) .head λw u=>re<|tn<|wr<|?_
 obtain ⟨H128,F2,S5,T5,u⟩:=St.frzS u (.tail .head) (G5.mono P1.sub)
 obtain ⟨H132,G2,U5,V5,u⟩:=St.frzS u (.tail .head) (n5.mono (cp (cp F2.sub P1.sub) u0.sub))
 obtain ⟨H136,I2,W5,X5,u⟩:=St.frzS u (.tail .head) (E5.mono (cp (cp (cp G2.sub F2.sub) P1.sub) u0.sub))
 obtain ⟨H140,J2,Y5,d5,u⟩:=St.frzS u (.tail .head) (R5.mono (cp (cp I2.sub G2.sub) F2.sub))
 obtain rfl:=si hm
 exact r1c (vs:=[SL E1 Y0 j0,SL n0 U0 P0,SL Q0 V0 J0,SL B1 R0 W0,SL C1 S0 X0,SL D3 Y1 B2]) (.inl rfl) o results15 rfl isAgg27 sizeOf27 rfl (u.ld.cellsB t0) ⟨H140,_,rfl,(show Enc.rep (α:=api_Prog) H140 [SL E1 Y0 j0,SL n0 U0 P0,SL Q0 V0 J0,SL B1 R0 W0,SL C1 S0 X0,SL D3 Y1 B2] (api_Prog.mk Y0 U0 V0 R0 S0 Y1) from ⟨_,_,rfl,⟨_,_,rfl,T5,(S5.mono (cp (cp J2.sub I2.sub) G2.sub))⟩,⟨_,_,rfl,⟨_,_,rfl,V5,(U5.mono (cp J2.sub I2.sub))⟩,⟨_,_,rfl,⟨_,_,rfl,X5,(W5.mono J2.sub)⟩,⟨_,_,rfl,⟨_,_,rfl,hcA18,(hrA19.mono (cp (cp (cp (cp (cp J2.sub I2.sub) G2.sub) F2.sub) P1.sub) u0.sub))⟩,⟨_,_,rfl,⟨_,_,rfl,hcA23,(hrA24.mono (cp (cp (cp (cp (cp J2.sub I2.sub) G2.sub) F2.sub) P1.sub) u0.sub))⟩,⟨_,_,rfl,d5,Y5⟩⟩⟩⟩⟩⟩),(Ext.trans E2 (Ext.trans u0 (Ext.trans P1 (Ext.trans F2 (Ext.trans G2 (Ext.trans I2 J2)))))),(St.le u),u.keep⟩
theorem Ry (hH:H.le w0) {cs2:List Value} {p1:api_Prog} (g3:Enc.rep H cs2 p1) {r:api_Prog} (hm:Z7t N p1=some r):Tot Tryz.prog 65 #[.agg cs2.toArray] w0 (λv w'=>∃ (H':PH) (b0:Nat) (cs0:List Value),v=.func (.func 108) #[] #[PT b0]∧H' b0=some (.cells cs0.toArray 27 (0,0))∧Enc.rep H' cs0 r∧Ext w0 H H'∧H'.le w'∧Keep Nil w0 w'):=by
 unfold Z7t at hm
 refine fn0 func65 rfl ntmps65 rfl rfl λa o=>?_
 have u:St w0 Nil [H] [] w0:=start1 hH
 obtain ⟨Q0,I0,R0,J0,K0,D0,M0,E0,O0,F0,P0,G0,rfl,C1,E1,T0,U0,V0,W0,X0,Y0,j0,n0,p0,u0⟩:=Aq g3
 refine th<|rg<|ls<|Br (cs:=[SL Q0 p1.Lines I0,SL R0 p1.Vols J0,SL K0 p1.Locks D0,SL M0 p1.Threads E0,SL O0 p1.Recover F0,SL P0 p1.Claims G0].toArray) o rfl u rfl rfl λS0 w a u o=>qa o rfl λo=>re<|tn<|th<|rg<|qv o (Ox (vs:=[PT S0]) o ⟨rfl,trivial⟩) λo=>qa o rfl λo=>re<|tn<|wr<|?_
 obtain ⟨H31,C0,B1,u⟩:=St.frzB u .head
 obtain rfl:=si hm
 exact r1 o results65 rfl ⟨H31,S0,_,rfl,B1,(show Enc.rep (α:=api_Prog) H31 [SL Q0 p1.Lines I0,SL R0 p1.Vols J0,SL K0 p1.Locks D0,SL M0 p1.Threads E0,SL O0 p1.Recover F0,SL P0 p1.Claims G0] p1 from ⟨_,_,rfl,⟨_,_,rfl,C1,(E1.mono C0.sub)⟩,⟨_,_,rfl,⟨_,_,rfl,T0,(U0.mono C0.sub)⟩,⟨_,_,rfl,⟨_,_,rfl,V0,(W0.mono C0.sub)⟩,⟨_,_,rfl,⟨_,_,rfl,X0,(Y0.mono C0.sub)⟩,⟨_,_,rfl,⟨_,_,rfl,j0,(n0.mono C0.sub)⟩,⟨_,_,rfl,p0,(u0.mono C0.sub)⟩⟩⟩⟩⟩⟩),C0,(St.le u),u.keep⟩
theorem Sa (hH:H.le w0) {τ:Type} {y:τ→(api_Cell×Int)→Option (τ×Bool)} {C:τ→PH→List HA→Prop} {lyl:Nat} (hy:YC Tryz.prog lyl C (λ(H:PH) (args:List Value) (x:api_Cell×Int)=>∃ (cs0:List Value),args=[.agg cs0.toArray,i6 x.2]∧Enc.rep H cs0 x.1) y) (_:∀ s H H' L,(∀ b o,H b=some o→H' b=some o)→C s H L→C s H' L) {s0:τ} {Lc:List HA} (hC:C s0 H Lc) {cs3:List Value} {y2:api_Prog} (g4:Enc.rep H cs3 y2) {b1:Nat} (E1:H b1=some (.cells cs3.toArray 27 (0,0))) (hO:(sepA [sepA Lc]).ok (hp w0)) (hD:∀ b,(sepA [sepA Lc]).fp b→H b=none) {r:τ} (hm:Z7u N y s0 y2=some r):Tot Tryz.prog 108 #[.func (.yield lyl) #[] #[],PT b1] w0 (λv w'=>∃ (H':PH) (Lcq:List HA),v=.tuple #[]∧C r H' Lcq∧ExtM w0 (sepA [sepA Lc]).fp H H'∧H'.le w'∧(∀ b,(sepA [sepA Lcq]).fp b→H' b=none)∧Mut w0 (sepA [sepA Lc]) (sepA [sepA Lcq]) w'):=by
 unfold Z7u at hm
 refine fn0 func108 rfl ntmps108 rfl rfl λa o=>?_
 have u:=Cp hH hO hD
 obtain ⟨F1,U0,V1,S1,T2,O2,U2,P2,V2,Q2,W2,R2,rfl,J3,U1,X2,G1,Y2,A3,B3,C3,D3,E3,F3,G3⟩:=Aq g4
 refine th<|th<|rg<|qv o (Af o Ca rfl) λo=>qv o (Ag o isAgg22 rfl (PH.le.cell (Lds.le u.ld) (Gi E1 rfl))) λo=>qv o (Ak (α:=(List api_Cell)) (xs:=y2.Lines) o runUnderlying22 rfl) λo=>qm o rfl λo=>re<|tn<|Av (λa w=>∃ (n0:τ) (M0:PH) (LcA3:List HA),(Z7v N y y2) n0=some r∧ExtM w0 (sepA [sepA Lc]).fp H M0∧Fr 48 [(0,.func (.yield lyl) #[] #[]),(1,PT b1)] a∧St w0 (sepA [sepA Lc]).fp [M0] [sepA LcA3] w∧C n0 M0 LcA3) ?_ ?_
 refine wb<|lp (α:=Nat×Int×τ) (λgh a w=>match gh with | (K0,C0,P0)=>∃ (J0:PH) (LcB4:List HA),(Z7x N (Z7v N y y2) y y2) K0 C0 P0=some r∧ExtM w0 (sepA [sepA Lc]).fp H J0∧Fr 48 [(0,.func (.yield lyl) #[] #[]),(1,PT b1),(10,SL F1 y2.Lines U0),(11,i6 (y2.Lines.length:Int)),(12,i6 C0)] a∧St w0 (sepA [sepA Lc]).fp [J0] [sepA LcB4] w∧C P0 J0 LcB4) (λgh=>gh.1) (N,0,s0) ⟨H,Lc,hm,(ExtM.refl _ _ _),o.hs,u,hC⟩ ?_
 rintro ⟨K0,C0,P0⟩ a w ⟨J0,LcB4,hm,F0,o,u,hCB5⟩
 obtain _ | K0:=K0
 simp [Z7x] at hm
 rw [Z7x] at hm
 refine th<|rg<|qv o (Ao o rfl rfl) λo=>re<|?_
 rcases bip hm with ⟨V0,hm⟩ | ⟨V0,hm⟩
 refine tn<|th<|ctv o rfl V0<|wk<|tn<|th<|Av (λa w=>∃ (p0:τ) (Q0:PH) (LcC3:List HA),(Z7w (Z7x N (Z7v N y y2) y y2 K0) C0) p0=some r∧ExtM w0 (sepA [sepA Lc]).fp J0 Q0∧Fr 48 [(0,.func (.yield lyl) #[] #[]),(1,PT b1),(10,SL F1 y2.Lines U0),(11,i6 (y2.Lines.length:Int)),(12,i6 C0)] a∧St w0 (sepA [sepA Lc]).fp [Q0] [sepA LcC3] w∧C p0 Q0 LcC3) ?_ ?_
 refine wb<|th<|?_
 obtain ⟨u0,I1,hm⟩:=bs hm
 obtain ⟨K3,E2,X1⟩:=SR.get U1 I1
 obtain ⟨Y1,T1,rfl,I3,J1⟩:=E2
 refine rg<|qm o rfl λo=>qv o (Am o runUnderlying22 sizeOf23 rfl rfl I1 (SR.oaI U1 (by decide) I1)) λo=>qv o (Ag o isAgg23 rfl (PH.le.cell (λb o hx=>(Lds.le u.ld) b o (F0.sub b o hx)) (X1 0 _ rfl))) λo=>?_
 iterate 2 refine qa o rfl λo=>?_
 refine re<|tn<|th<|rg<|qm o rfl λo=>qv o (Ak (α:=api_Cell) (xs:=u0) o runUnderlying23 rfl) λo=>qm o rfl λo=>re<|tn<|wb<|lp (α:=Nat×Int×τ) (λgh a w=>match gh with | (R0,B1,C1)=>∃ (HD1:PH) (LcD4:List HA),(Z7y N (Z7w (Z7x N (Z7v N y y2) y y2 K0) C0) y u0 C0) R0 B1 C1=some r∧ExtM w0 (sepA [sepA Lc]).fp J0 HD1∧Fr 48 [(0,.func (.yield lyl) #[] #[]),(1,PT b1),(3,i6 C0),(10,SL F1 y2.Lines U0),(11,i6 (y2.Lines.length:Int)),(12,i6 C0),(17,SL Y1 u0 T1),(18,i6 (u0.length:Int)),(19,i6 B1)] a∧St w0 (sepA [sepA Lc]).fp [HD1] [sepA LcD4] w∧C C1 HD1 LcD4) (λgh=>gh.1) (N,0,P0) ⟨J0,LcB4,hm,(ExtM.refl _ _ _),o.hs,u,hCB5⟩ ?_
 rintro ⟨R0,B1,C1⟩ a w ⟨HD1,LcD4,hm,hxHD1,o,u,hCD5⟩
 obtain _ | R0:=R0
 simp [Z7y] at hm
 rw [Z7y] at hm
 refine th<|rg<|qv o (Ao o rfl rfl) λo=>re<|?_
 rcases bip hm with ⟨W0,hm⟩ | ⟨W0,hm⟩
 refine tn<|th<|ctv o rfl W0<|wk<|tn<|th<|wb<|th<|?_
 obtain ⟨D0,M1,hm⟩:=bs hm
 obtain ⟨L3,F2,B2⟩:=SR.get J1 M1
 obtain rfl:=Bj F2
 refine rg<|qv o (Am o Tryz.runUnderlying23 Tryz.sizeOf53 rfl rfl M1 (SR.oaI J1 (by decide) M1)) λo=>qv o (Ay o isAgg53 sizeOf53 rfl rfl (λj v hj=>PH.le.cell (λb o hx=>(Lds.le u.ld) b o ((cp hxHD1.sub F0.sub) b o hx)) (B2 j v hj))) λo=>ls<|Au (cs:=[Ac [],i6 0,i6 0].toArray) o rfl u zeroValue53 rfl λM3 w a u o=>ls<|Az o u sizeOf53 rfl rfl rfl rfl (Al rfl) .head λw u=>re<|tn<|th<|?_
 obtain ⟨G2,I2,hm⟩:=bs hm
 refine rg<|qm o rfl λo=>qv o (Ay o isAgg53 sizeOf53 rfl rfl (u.ld.cellsB t0)) λo=>qm o rfl λo=>lsy rfl<|ly (vs:=[.agg #[Ac D0.Name,i6 D0.N,i6 D0.At],i6 C0]) o rfl rfl ⟨rfl,rfl,trivial⟩ hy u t1 hCD5 ⟨[Ac D0.Name,i6 D0.N,i6 D0.At],rfl,(show Enc.rep (α:=api_Cell) HD1 [Ac D0.Name,i6 D0.N,i6 D0.At] D0 from ⟨_,_,rfl,rfl,⟨_,_,rfl,rfl,rfl⟩⟩)⟩ I2 (λa w H52 Lc51 hC50 O1 hU o=>?_)
 replace u:=hU _ (.tail .head)
 refine qv o (Ba o rfl) λo=>re<|?_
 rcases bit hm with ⟨X0,hm⟩ | ⟨X0,hm⟩
 refine tn<|cfv o rfl (by rw [X0];rfl)<|wk<|bn<|tn<|rg<|qv o (Ap o rfl rfl) λo=>qm o rfl λo=>re<|tn<|?_
 replace u:=u.pk [1] rfl
 exact ⟨(R0,(IntKind.i64.wrap (B1+1)),G2.1),⟨H52,Lc51,hm,(ExtM.trans hxHD1 O1),o.hs,u,hC50⟩,Nat.lt_succ_self _⟩
 refine tn<|ctv o rfl (by rw [X0];rfl)<|wr<|br<|tr<|tr<|br<|br<|tr<|tr<|br<|tr<|?_
 obtain rfl:=si hm
 exact r0 o results108 ⟨H52,Lc51,rfl,hC50,(ExtM.trans F0 (ExtM.trans hxHD1 O1)),(St.le u),(St.disL (u.pickL (.cons (.tail .head) .nil))),(u.pickL (.cons (.tail .head) .nil)).endMut⟩
 refine tn<|th<|cfv o rfl W0<|we<|tx<|tx<|bx<|bn<|tn<|?_
 exact ⟨C1,HD1,LcD4,hm,hxHD1,o.hs,u,hCD5⟩
 rintro a w ⟨p0,Q0,LcC3,hm,hxHC1,o,u,hCC4⟩
 unfold Z7w at hm
 refine rg<|qv o (Ap o rfl rfl) λo=>qm o rfl λo=>re<|tn<|?_
 exact ⟨(K0,(IntKind.i64.wrap (C0+1)),p0),⟨Q0,LcC3,hm,(ExtM.trans F0 hxHC1),o.hs,u,hCC4⟩,Nat.lt_succ_self _⟩
 refine tn<|th<|cfv o rfl V0<|we<|tx<|tx<|bx<|tn<|?_
 exact ⟨P0,J0,LcB4,hm,F0,o.has ⟨rfl,rfl,trivial⟩,u,hCB5⟩
 rintro a w ⟨n0,M0,LcA3,hm,G0,o,u,hCA4⟩
 unfold Z7v at hm
 refine th<|rg<|qv o (Af o Ea rfl) λo=>qv o (Ag o isAgg23 rfl (PH.le.cell (λb o hx=>(Lds.le u.ld) b o (G0.sub b o hx)) (Gi E1 rfl))) λo=>qv o (Ak (α:=api_Cell) (xs:=y2.Vols) o runUnderlying23 rfl) λo=>qm o rfl λo=>re<|tn<|wb<|lp (α:=Nat×Int×τ) (λgh a w=>match gh with | (S0,T0,P1)=>∃ (O0:PH) (LcA8:List HA),(Z7z N y y2) S0 T0 P1=some r∧ExtM w0 (sepA [sepA Lc]).fp M0 O0∧Fr 48 [(0,.func (.yield lyl) #[] #[]),(1,PT b1),(31,SL V1 y2.Vols S1),(32,i6 (y2.Vols.length:Int)),(33,i6 T0)] a∧St w0 (sepA [sepA Lc]).fp [O0] [sepA LcA8] w∧C P1 O0 LcA8) (λgh=>gh.1) (N,0,n0) ⟨M0,LcA3,hm,(ExtM.refl _ _ _),o.hs,u,hCA4⟩ ?_
 rintro ⟨S0,T0,P1⟩ a w ⟨O0,LcA8,hm,I0,o,u,hCA9⟩
 obtain _ | S0:=S0
 simp [Z7z] at hm
 rw [Z7z] at hm
 refine th<|rg<|qv o (Ao o rfl rfl) λo=>re<|?_
 rcases bip hm with ⟨Y0,hm⟩ | ⟨Y0,hm⟩
 refine tn<|th<|ctv o rfl Y0<|wk<|tn<|th<|wb<|th<|?_
 obtain ⟨E0,Q1,hm⟩:=bs hm
 obtain ⟨O3,J2,C2⟩:=SR.get G1 Q1
 obtain rfl:=Bj J2
 refine rg<|qm o rfl λo=>qv o (Am o runUnderlying23 sizeOf53 rfl rfl Q1 (SR.oaI G1 (by decide) Q1)) λo=>qv o (Ay o isAgg53 sizeOf53 rfl rfl (λj v hj=>PH.le.cell (λb o hx=>(Lds.le u.ld) b o ((cp I0.sub G0.sub) b o hx)) (C2 j v hj))) λo=>ls<|Au (cs:=[Ac [],i6 0,i6 0].toArray) o rfl u zeroValue53 rfl λP3 w a u o=>qa o rfl λo=>ls<|Az o u sizeOf53 rfl rfl rfl rfl (Al rfl) .head λw u=>re<|tn<|th<|?_
 obtain ⟨K2,M2,hm⟩:=bs hm
 refine rg<|qm o rfl λo=>qv o (Ay o isAgg53 sizeOf53 rfl rfl (u.ld.cellsB t0)) λo=>qv o (Af o Ca rfl) λo=>qv o (Ag o isAgg22 rfl (PH.le.cell (λb o hx=>(Lds.le u.ld) b o ((cp I0.sub G0.sub) b o hx)) (Gi E1 rfl))) λo=>qv o (Ak (α:=(List api_Cell)) (xs:=y2.Lines) o runUnderlying22 rfl) λo=>qm o rfl λo=>qv o (Ap o rfl rfl) λo=>lsy rfl<|ly (vs:=[.agg #[Ac E0.Name,i6 E0.N,i6 E0.At],i6 (IntKind.i64.wrap ((y2.Lines.length:Int)+T0))]) o rfl rfl ⟨rfl,rfl,trivial⟩ hy u t1 hCA9 ⟨[Ac E0.Name,i6 E0.N,i6 E0.At],rfl,(show Enc.rep (α:=api_Cell) O0 [Ac E0.Name,i6 E0.N,i6 E0.At] E0 from ⟨_,_,rfl,rfl,⟨_,_,rfl,rfl,rfl⟩⟩)⟩ M2 (λa w H66 Lc65 hC64 R1 hU o=>?_)
 replace u:=hU _ (.tail .head)
 refine qv o (Ba o rfl) λo=>re<|?_
 rcases bit hm with ⟨j0,hm⟩ | ⟨j0,hm⟩
 refine tn<|cfv o rfl (by rw [j0];rfl)<|wk<|bn<|tn<|rg<|qv o (Ap o rfl rfl) λo=>qm o rfl λo=>re<|tn<|?_
 replace u:=u.pk [1] rfl
 exact ⟨(S0,(IntKind.i64.wrap (T0+1)),K2.1),⟨H66,Lc65,hm,(ExtM.trans I0 R1),o.hs,u,hC64⟩,Nat.lt_succ_self _⟩
 refine tn<|ctv o rfl (by rw [j0];rfl)<|wr<|br<|tr<|tr<|br<|?_
 obtain rfl:=si hm
 exact r0 o results108 ⟨H66,Lc65,rfl,hC64,(ExtM.trans G0 (ExtM.trans I0 R1)),(St.le u),(St.disL (u.pickL (.cons (.tail .head) .nil))),(u.pickL (.cons (.tail .head) .nil)).endMut⟩
 refine tn<|th<|cfv o rfl Y0<|we<|tx<|tx<|bx<|?_
 obtain rfl:=si hm
 exact r0n o results108 ⟨O0,LcA8,rfl,hCA9,(ExtM.trans G0 I0),(St.le u),(St.disL (u.pickL (.cons .head .nil))),(u.pickL (.cons .head .nil)).endMut⟩
theorem Vl (hH:H.le w0) {p1:Str} {p2:Int} {p3:Int} {b5:Nat} {p4:(List (Str×Int))} {mz6 cz8:Nat} {l7:List (Str×Value×Nat)} (F0:MRel kI l7 p4) {b11:Nat} {p10:Bool} {b13:Nat} {p12:Int} (hO:(sepA [bk b5 [.map (some mz6)] 75,Ch kS mz6 l7 cz8,bk b11 [.bool p10] 4,bk b13 [i6 p12] 3]).ok (hp w0)) (hD:∀ b,(sepA [bk b5 [.map (some mz6)] 75,Ch kS mz6 l7 cz8,bk b11 [.bool p10] 4,bk b13 [i6 p12] 3]).fp b→H b=none) {r:((List (Str×Int))×Bool×Int)} (hm:Z84 N p1 p2 p3 p4 p10 p12=some r):Tot Tryz.prog 78 #[Ac p1,i6 p2,i6 p3,PT b5,PT b11,PT b13] w0 (λv w'=>∃ (m1m:Nat) (l1m:List (Str×Value×Nat)) (c1m:Nat),v=.tuple #[]∧MRel kI l1m r.1∧Mut w0 (sepA [bk b5 [.map (some mz6)] 75,Ch kS mz6 l7 cz8,bk b11 [.bool p10] 4,bk b13 [i6 p12] 3]) (sepA [bk b5 [.map (some m1m)] 75,Ch kS m1m l1m c1m,bk b11 [.bool r.2.1] 4,bk b13 [i6 r.2.2] 3]) w'):=by
 unfold Z84 at hm
 refine fn0 func78 rfl ntmps78 rfl rfl λa o=>?_
 have u:=Cp hH hO hD
 refine th<|th<|rg<|qv o (Ag o Tryz.isAgg75 rfl (u.ld.cellB t0 rfl)) λo=>qm o rfl λo=>qv o (Iz (ev:=kI) (dv:=0) (m:=p4) (k:=p1) o Nq runUnderlying75 zeroValue3 (Lds.mapO u.ld t1) rfl rfl F0) λo=>qv o (Bt o rfl rfl) λo=>qm o rfl λo=>gr (Fk:=[(0,Ac p1),(1,i6 p2),(2,i6 p3),(3,PT b5),(4,PT b11),(5,PT b13),(16,.bool ((decide (((Be p1 p4).getD 0)≠0)) && (!p10)))]) 13 3 o u ?_ ?_ ?_
 intro hb o key
 exact qg o (Ag o isAgg4 rfl (u.ld.cellB t2 rfl)) λo=>qg o (Ba o rfl) λo=>qk o (Ad o rfl rfl) key u hb
 intro hb o key
 iterate 2 refine qn o λo=>?_
 exact qk o (Ae o rfl rfl) key u hb
 intro a w o u
 refine re<|tn<|Av (λa w=>∃ (D0:Bool) (E0:Int),(Z85 p1 p2 p4) D0 E0=some r∧Fr 21 [(0,Ac p1),(1,i6 p2),(3,PT b5),(4,PT b11),(5,PT b13)] a∧St w0 (sepA [bk b5 [.map (some mz6)] 75,Ch kS mz6 l7 cz8,bk b11 [.bool p10] 4,bk b13 [i6 p12] 3]).fp [H] [Ch kS mz6 l7 cz8,bk b5 [.map (some mz6)] 75,bk b11 [.bool D0] 4,bk b13 [i6 E0] 3] w) ?_ ?_
 rcases bit hm with ⟨C0,hm⟩ | ⟨C0,hm⟩
 refine ctv o rfl C0<|rg<|qm o rfl λo=>ls<|Ax o u sizeOf3 rfl rfl rfl rfl (.tail (.tail (.tail .head))) .zero λw u=>ls<|Ax o u sizeOf4 rfl rfl rfl rfl (.tail (.tail .head)) .zero λw u=>re<|tn<|?_
 replace u:=u.pk [1,0,0,0] rfl
 exact ⟨true,p3,hm,o.hs,u⟩
 refine cfv o rfl C0<|wk<|tn<|?_
 replace u:=u.pk [1,0,0,0] rfl
 exact ⟨p10,p12,hm,o.hs,u⟩
 rintro a w ⟨D0,E0,hm,o,u⟩
 unfold Z85 at hm
 refine rg<|qv o (Ag o Tryz.isAgg75 rfl (u.ld.cellB t1 rfl)) λo=>?_
 iterate 2 refine qm o rfl λo=>?_
 refine ls<|Ui (ev:=kI) (m:=p4) (k:=p1) (v:=p2) o u Nq runUnderlying75 rfl rfl rfl t0 F0 λI0 J0 w G0 hU=>?_
 replace u:=hU _ .head
 refine re<|?_
 obtain rfl:=si hm
 exact r0n o results78 ⟨mz6,I0,J0,rfl,G0,(u.pickL (.cons (.tail .head) (.cons .head (.cons .head (.cons .head .nil))))).endMut⟩
set_option maxHeartbeats 4000000 in
theorem Jbf (hH:H.le w0) {cs2:List Value} {p1:api_Prog} (g3:Enc.rep H cs2 p1) {r:((List (Str×Int))×Int×Bool)} (hm:Z83 N p1=some r):Tot Tryz.prog 49 #[.agg cs2.toArray] w0 (λv w'=>∃ (m0:Nat) (l0:List (Str×Value×Nat)) (c0:Nat),v=.tuple #[.map (some m0),i6 r.2.1,.bool r.2.2]∧MRel kI l0 r.1∧Fresh w0 (Ch kS m0 l0 c0) w'):=by
 unfold Z83 at hm
 refine fnM func49 rfl ntmps49 rfl rfl λa o=>?_
 have u:St w0 Nil [H] [] w0:=start1 hH
 replace u:=St.ds0 u
 obtain ⟨E1,U0,F1,V0,P0,F0,Q0,G0,W0,J0,X0,K0,rfl,J5,K5,X3,Y3,l3,Q2,n3,R2,u3,A4,B4,C4⟩:=Aq g3
 refine th<|rg<|ls<|Br (cs:=[SL E1 p1.Lines U0,SL F1 p1.Vols V0,SL P0 p1.Locks F0,SL Q0 p1.Threads G0,SL W0 p1.Recover J0,SL X0 p1.Claims K0].toArray) o rfl u rfl rfl λR0 w a u o=>?_
 iterate 3 refine qa o rfl λo=>?_
 refine re<|tn<|th<|rg<|ls<|Um o rfl u λm29 w a u o=>?_
 replace u:=St.gmap0 (kv:=kS) u
 have D4:MRel (κ:=Str) (β:=Int) kI [] []:=MRel.nil _
 refine ls<|Au (cs:=[.map none].toArray) o rfl u zeroValue75 rfl λC0 w a u o=>ls<|Ax o u sizeOf75 rfl rfl rfl rfl .head .zero λw u=>re<|tn<|th<|rg<|ls<|Au (cs:=[i6 0].toArray) o rfl u Tryz.zeroValue3 rfl λD0 w a u o=>re<|tn<|th<|rg<|ls<|Au (cs:=[.bool false].toArray) o rfl u Tryz.zeroValue4 rfl λE0 w a u o=>ls<|Ax o u sizeOf4 rfl rfl rfl rfl .head .zero λw u=>re<|tn<|th<|rg<|qv o (Ox (vs:=[PT C0,PT E0,PT D0]) o ⟨rfl,rfl,rfl,trivial⟩) λo=>ls<|Au (cs:=[.nilFunc].toArray) o rfl u zeroValue105 rfl λM0 w a u o=>ls<|Ax o u sizeOf105 rfl rfl rfl rfl .head .zero λw u=>re<|tn<|th<|th<|?_
 obtain ⟨J1,L5,hm⟩:=bs hm
 refine rg<|qv o (Ay o Tryz.isAgg27 Tryz.sizeOf27 rfl rfl (u.ld.cellsB t5)) λo=>ls<|c1 o rfl call65 (Ry (St.le u) (show Enc.rep (α:=api_Prog) H [SL E1 p1.Lines U0,SL F1 p1.Vols V0,SL P0 p1.Locks F0,SL Q0 p1.Threads G0,SL W0 p1.Recover J0,SL X0 p1.Claims K0] p1 from ⟨_,_,rfl,⟨_,_,rfl,J5,K5⟩,⟨_,_,rfl,⟨_,_,rfl,X3,Y3⟩,⟨_,_,rfl,⟨_,_,rfl,l3,Q2⟩,⟨_,_,rfl,⟨_,_,rfl,n3,R2⟩,⟨_,_,rfl,⟨_,_,rfl,u3,A4⟩,⟨_,_,rfl,B4,C4⟩⟩⟩⟩⟩⟩) L5) ⟨rfl,trivial⟩ (λv w a hR o=>?_)
 obtain ⟨H40,J2,cs43,rfl,E4,M5,M1,F4,hk⟩:=hR
 obtain ⟨u,M1⟩:=And.intro (St.passH u hk M1 F4) (St.extc u M1)
 obtain ⟨G4,K3,I4,L3,J4,M3,K4,O3,L4,P3,M4,Q3,rfl,O4,P4,Q4,R4,S4,T4,U4,V4,W4,X4,Y4,d4⟩:=Aq M5
 refine re<|tn<|wb<|?_
 replace o:Fr 65 [(1,PT R0),(5,PT C0),(6,PT D0),(7,PT E0),(8,PT M0),(19,.func (.func 108) #[] #[PT J2])] _:=o.hs
 replace u:=u.pk [6,5,4,3,2,1,0] rfl
 obtain ⟨q69,O5,hm⟩:=bs hm
 refine rf (ŝ:=q69) (lb:=[PT J2]) (ps:=[20,21]) (I:=λ(gh:((List (Str×Int))×Int×Bool)) (p0:PH) (L:List HA)=>match gh with | (G1,S0,T0)=>∃ (I0:Nat) (Y0:List (Str×Value×Nat)) (j0:Nat),L=[bk R0 [SL E1 p1.Lines U0,SL F1 p1.Vols V0,SL P0 p1.Locks F0,SL Q0 p1.Threads G0,SL W0 p1.Recover J0,SL X0 p1.Claims K0] 27,Ch kS I0 Y0 j0,bk C0 [.map (some I0)] 75,bk D0 [i6 S0] 3,bk E0 [.bool T0] 4,bk M0 [.func (.func 78) #[] #[PT C0,PT E0,PT D0]] 105]∧(∀ b o,H40 b=some o→p0 b=some o)∧MRel kI Y0 G1) (J:=λ(_:Empty) (_:Code) (_:PH) (_:List HA)=>False) (λ(s:((List (Str×Int))×Int×Bool)) (x:(api_Cell×Int))=>(Z86 N p1) s.1 s.2.1 s.2.2 x) (λ(H:PH) (args:List Value) (x:api_Cell×Int)=>∃ (cs0:List Value),args=[.agg cs0.toArray,i6 x.2]∧Enc.rep H cs0 x.1) o rfl call108 rfl (by rintro H args x ⟨_,rfl,_⟩;rfl) u ⟨m29,[],0,rfl,i2,D4⟩ (by rintro ⟨G1,S0,T0⟩ H Hn L hs ⟨I0,Y0,j0,rfl,hu,hmA6⟩;exact ⟨_,_,_,rfl,(cp hs hu),hmA6⟩) (λt=>t.elim) (λlq C Lc w1 hyc hcm hc hle hok hdis=>Kw (Sa hle hyc hcm hc (show Enc.rep (α:=api_Prog) H40 [SL G4 J1.Lines K3,SL I4 J1.Vols L3,SL J4 J1.Locks M3,SL K4 J1.Threads O3,SL L4 J1.Recover P3,SL M4 J1.Claims Q3] J1 from ⟨_,_,rfl,⟨_,_,rfl,O4,P4⟩,⟨_,_,rfl,⟨_,_,rfl,Q4,R4⟩,⟨_,_,rfl,⟨_,_,rfl,S4,T4⟩,⟨_,_,rfl,⟨_,_,rfl,U4,V4⟩,⟨_,_,rfl,⟨_,_,rfl,W4,X4⟩,⟨_,_,rfl,Y4,d4⟩⟩⟩⟩⟩⟩) E4 (Iq hok) (Hd hdis) O5)) ?_ ?_ ?_
 intro l X Y s O0 r p0 Lu args w0 a K Qr hI hex hm o u hK hN hR
 obtain ⟨G1,S0,T0⟩:=s
 obtain ⟨I0,Y0,j0,rfl,R3,hmA6⟩:=hI
 replace hm:(Z86 N p1) G1 S0 T0 O0=some r:=hm
 unfold Z86 at hm
 obtain ⟨cs130,rfl,j4⟩:=hex
 replace o:Fr 65 [(21,i6 O0.2),(20,.agg cs130.toArray),(1,PT R0),(5,PT C0),(6,PT D0),(7,PT E0),(8,PT M0),(19,.func (.func 108) #[] #[PT J2])] a:=o
 obtain rfl:=Bj j4
 refine th<|rg<|ls<|Au (cs:=[Ac [],i6 0,i6 0].toArray) o rfl u Tryz.zeroValue53 rfl λG3 w a u o=>ls<|Az o u sizeOf53 rfl rfl rfl rfl (Al rfl) .head λw u=>re<|tn<|rg<|qa o rfl λo=>re<|?_
 replace u:=u.pk [1,0,0,0,0,0,0,0] rfl
 refine tn<|hK _ _ _ _ u λw u=>wb<|th<|rg<|qa o rfl λo=>re<|tn<|th<|th<|rg<|qm o rfl λo=>qv o (Af o Ca rfl) λo=>qv o (Ag o isAgg22 rfl (u.ld.cellB t2 rfl)) λo=>qv o (Ak (α:=(List api_Cell)) (xs:=p1.Lines) o runUnderlying22 rfl) λo=>qv o (Bl o rfl rfl) λo=>re<|tn<|Av (λa w=>∃ (D3:Int),(Z87 N O0 G1 S0 T0) D3=some r∧Fr 65 [(1,PT R0),(5,PT C0),(6,PT D0),(7,PT E0),(8,PT M0),(9,PT G3),(11,i6 D3),(19,.func (.func 108) #[] #[PT J2])] a∧St w0 (sepA (X :: [bk R0 [SL E1 p1.Lines U0,SL F1 p1.Vols V0,SL P0 p1.Locks F0,SL Q0 p1.Threads G0,SL W0 p1.Recover J0,SL X0 p1.Claims K0] 27,Ch kS I0 Y0 j0,bk C0 [.map (some I0)] 75,bk D0 [i6 S0] 3,bk E0 [.bool T0] 4,bk M0 [.func (.func 78) #[] #[PT C0,PT E0,PT D0]] 105])).fp [p0] [bk R0 [SL E1 p1.Lines U0,SL F1 p1.Vols V0,SL P0 p1.Locks F0,SL Q0 p1.Threads G0,SL W0 p1.Recover J0,SL X0 p1.Claims K0] 27,Ch kS I0 Y0 j0,bk C0 [.map (some I0)] 75,bk D0 [i6 S0] 3,bk E0 [.bool T0] 4,bk M0 [.func (.func 78) #[] #[PT C0,PT E0,PT D0]] 105,bk G3 [Ac O0.1.Name,i6 O0.1.N,i6 O0.1.At] 53,Y] w) ?_ ?_
 rcases bip hm with ⟨U1,hm⟩ | ⟨U1,hm⟩
 refine ctv o rfl U1<|rg<|qa o rfl λo=>re<|tn<|?_
 replace u:=u.pk [2,2,2,2,2,2,1,0] rfl
 exact ⟨2,hm,o.hs,u⟩
 refine cfv o rfl U1<|wk<|tn<|?_
 replace u:=u.pk [2,2,2,2,2,2,1,0] rfl
 exact ⟨1,hm,o.hs,u⟩
 rintro a w ⟨D3,hm,o,u⟩
 unfold Z87 at hm
 obtain ⟨X5,k4,hm⟩:=bs hm
 refine rg<|qv o (Ag o Tryz.isAgg105 rfl (u.ld.cellB t5 rfl)) λo=>qv o (Af o Dq rfl) λo=>qv o (Ag o isAgg9 rfl (u.ld.cellB t6 rfl)) λo=>qm o rfl λo=>qv o (Af o Jm rfl) λo=>qv o (Ag o isAgg3 rfl (u.ld.cellB t6 rfl)) λo=>?_
 replace u:=u.pk [2,1,2,1,0,0,0,0] rfl
 replace u:=St.sep [bk C0 [.map (some I0)] 75,Ch kS I0 Y0 j0,bk E0 [.bool T0] 4,bk D0 [i6 S0] 3] u
 refine ls<|k1 (vs:=[Ac O0.1.Name,i6 D3,i6 O0.1.At]) (caps:=[PT C0,PT E0,PT D0]) o rfl rfl call78 (Vl (St.le u) (p4:=G1) (b5:=C0) (mz6:=I0) (l7:=Y0) (cz8:=j0) (p10:=T0) (b11:=E0) (p12:=S0) (b13:=D0) hmA6 (St.sepOk u) (St.sepDis u) k4) ⟨rfl,rfl,rfl,trivial⟩ rfl (λv w a hR o=>?_)
 obtain ⟨m136,l4,u4,rfl,S3,hk⟩:=hR
 replace u:=(u.mut hk .head).unsep
 refine re<|bn<|?_
 obtain rfl:=si hm
 replace u:=u.pk [7,4,1,0,1,0,0] rfl
 exact hN _ _ _ _ _ rfl (ExtM.refl _ _ _) ⟨m136,l4,u4,rfl,R3,S3⟩ u
 rintro ⟨G1,S0,T0⟩ D140 p0 Lu a w rfl ⟨I0,Y0,j0,rfl,huHA1,hmA6⟩ I1 o u
 replace I1:=ExtM.nil I1
 try dsimp only at hm
 replace o:Fr ⟨65,(D140 :: [])⟩ [(1,PT R0),(5,PT C0),(6,PT D0),(7,PT E0),(8,PT M0),(19,.func (.func 108) #[] #[PT J2])] a:=o
 replace u:St w0 Nil [p0] [dsA (D140 :: []),bk R0 [SL E1 p1.Lines U0,SL F1 p1.Vols V0,SL P0 p1.Locks F0,SL Q0 p1.Threads G0,SL W0 p1.Recover J0,SL X0 p1.Claims K0] 27,Ch kS I0 Y0 j0,bk C0 [.map (some I0)] 75,bk D0 [i6 S0] 3,bk E0 [.bool T0] 4,bk M0 [.func (.func 78) #[] #[PT C0,PT E0,PT D0]] 105] w:=u
 refine bn<|tn<|th<|th<|rg<|qv o (Af o Ed rfl) λo=>qv o (Ag o isAgg23 rfl (u.ld.cellB t1 rfl)) λo=>qv o (Ak (α:=api_Cell) (xs:=p1.Locks) o runUnderlying23 rfl) λo=>qm o rfl λo=>re<|tn<|Av (λa w=>∃ (V1:(List (Str×Int))) (X1:Int) (Y1:Bool) (E3:Nat) (B2:List (Str×Value×Nat)) (T2:Nat),(Z88 N p1) V1 X1 Y1=some r∧Fr ⟨65,(D140 :: [])⟩ [(1,PT R0),(5,PT C0),(6,PT D0),(7,PT E0),(8,PT M0)] a∧St w0 Nil [p0] [bk R0 [SL E1 p1.Lines U0,SL F1 p1.Vols V0,SL P0 p1.Locks F0,SL Q0 p1.Threads G0,SL W0 p1.Recover J0,SL X0 p1.Claims K0] 27,Ch kS E3 B2 T2,bk C0 [.map (some E3)] 75,bk D0 [i6 X1] 3,bk E0 [.bool Y1] 4,bk M0 [.func (.func 78) #[] #[PT C0,PT E0,PT D0]] 105,dsA (D140 :: [])] w∧MRel kI B2 V1) ?_ ?_
 replace u:=u.pk [1,1,1,1,1,1,0] rfl
 refine wb<|lp (α:=Nat×(List (Str×Int))×Int×Bool×Int) (λ(gh:Nat×(List (Str×Int))×Int×Bool×Int) a w=>match gh with | (K2,M2,R1,S1,F3)=>∃ (O1:Nat) (T1:List (Str×Value×Nat)) (O2:Nat),(Z8a N (Z88 N p1) p1) K2 M2 R1 S1 F3=some r∧Fr ⟨65,(D140 :: [])⟩ [(1,PT R0),(5,PT C0),(6,PT D0),(7,PT E0),(8,PT M0),(35,SL P0 p1.Locks F0),(36,i6 (p1.Locks.length:Int)),(37,i6 F3)] a∧St w0 Nil [p0] [bk R0 [SL E1 p1.Lines U0,SL F1 p1.Vols V0,SL P0 p1.Locks F0,SL Q0 p1.Threads G0,SL W0 p1.Recover J0,SL X0 p1.Claims K0] 27,Ch kS O1 T1 O2,bk C0 [.map (some O1)] 75,bk D0 [i6 R1] 3,bk E0 [.bool S1] 4,bk M0 [.func (.func 78) #[] #[PT C0,PT E0,PT D0]] 105,dsA (D140 :: [])] w∧MRel kI T1 M2) (λgh=>gh.1) (N,G1,S0,T0,0) ⟨I0,Y0,j0,hm,o.hs,u,hmA6⟩ ?_
 rintro ⟨K2,M2,R1,S1,F3⟩ a w ⟨O1,T1,O2,hm,o,u,hmB6⟩
 obtain _ | K2:=K2
 simp [Z8a] at hm
 rw [Z8a] at hm
 refine th<|rg<|qv o (Ao o rfl rfl) λo=>re<|?_
 rcases bip hm with ⟨C2,hm⟩ | ⟨C2,hm⟩
 refine tn<|th<|ctv o rfl C2<|wk<|tn<|th<|wb<|th<|?_
 obtain ⟨I3,U2,hm⟩:=bs hm
 obtain ⟨Y5,A5,T3⟩:=SR.get Q2 U2
 obtain rfl:=Bj A5
 refine rg<|qv o (Am o Tryz.runUnderlying23 Tryz.sizeOf53 rfl rfl U2 (SR.oaI Q2 (by decide) U2)) λo=>qv o (Ay o isAgg53 sizeOf53 rfl rfl (λj v hj=>PH.le.cell (λb o hx=>(Lds.le u.ld) b o ((cp I1.sub M1.sub) b o hx)) (T3 j v hj))) λo=>ls<|Au (cs:=[Ac [],i6 0,i6 0].toArray) o rfl u zeroValue53 rfl λd5 w a u o=>ls<|Az o u sizeOf53 rfl rfl rfl rfl (Al rfl) .head λw u=>re<|tn<|?_
 obtain ⟨V2,B5,hm⟩:=bs hm
 refine rg<|qv o (Ag o Tryz.isAgg105 rfl (u.ld.cellB t6 rfl)) λo=>qv o (Af o Dq rfl) λo=>qv o (Ag o isAgg9 rfl (u.ld.cellB t0 rfl)) λo=>qv o (Af o Jm rfl) λo=>qv o (Ag o isAgg3 rfl (u.ld.cellB t0 rfl)) λo=>?_
 replace u:=u.pk [3,2,3,2,0,0,0,0] rfl
 replace u:=St.sep [bk C0 [.map (some O1)] 75,Ch kS O1 T1 O2,bk E0 [.bool S1] 4,bk D0 [i6 R1] 3] u
 refine ls<|k1 (vs:=[Ac I3.Name,i6 3,i6 I3.At]) (caps:=[PT C0,PT E0,PT D0]) o rfl rfl call78 (Vl (St.le u) (p4:=M2) (b5:=C0) (mz6:=O1) (l7:=T1) (cz8:=O2) (p10:=S1) (b11:=E0) (p12:=R1) (b13:=D0) hmB6 (St.sepOk u) (St.sepDis u) B5) ⟨rfl,rfl,rfl,trivial⟩ rfl (λv w a hR o=>?_)
 obtain ⟨m151,C5,D5,rfl,U3,hk⟩:=hR
 replace u:=(u.mut hk .head).unsep
 refine re<|bn<|tn<|rg<|qv o (Ap o rfl rfl) λo=>qm o rfl λo=>re<|tn<|?_
 replace u:=u.pk [5,1,0,1,0,1,1] rfl
 exact ⟨(K2,V2.1,V2.2.2,V2.2.1,(IntKind.i64.wrap (F3+1))),⟨m151,C5,D5,hm,o.hs,u,U3⟩,Nat.lt_succ_self _⟩
 refine tn<|th<|cfv o rfl C2<|we<|tx<|tx<|bx<|tn<|?_
 exact ⟨M2,R1,S1,O1,T1,O2,hm,o.hs,u,hmB6⟩
 rintro a w ⟨V1,X1,Y1,E3,B2,T2,hm,o,u,hmA13⟩
 unfold Z88 at hm
 refine th<|th<|rg<|qv o (Af o Dd rfl) λo=>qv o (Ag o isAgg24 rfl (u.ld.cellB t0 rfl)) λo=>qv o (Ak (α:=api_Thread) (xs:=p1.Threads) o runUnderlying24 rfl) λo=>qm o rfl λo=>re<|tn<|Av (λa w=>∃ (W2:(List (Str×Int))) (X2:Int) (Y2:Bool) (E2:Nat) (F2:List (Str×Value×Nat)) (A3:Nat),Z89 W2 X2 Y2=some r∧Fr ⟨65,(D140 :: [])⟩ [(5,PT C0),(6,PT D0),(7,PT E0)] a∧St w0 Nil [p0] [Ch kS E2 F2 A3,bk C0 [.map (some E2)] 75,bk D0 [i6 X2] 3,bk E0 [.bool Y2] 4,dsA (D140 :: [])] w∧MRel kI F2 W2) ?_ ?_
 replace u:=u.pk [1,1,1,1,1,1] rfl
 refine wb<|lp (α:=Nat×(List (Str×Int))×Int×Bool×Int) (λ(gh:Nat×(List (Str×Int))×Int×Bool×Int) a w=>match gh with | (P2,P1,u0,B1,G2)=>∃ (n0:Nat) (C1:List (Str×Value×Nat)) (Q1:Nat),(Z8b N Z89 p1) P2 P1 u0 B1 G2=some r∧Fr ⟨65,(D140 :: [])⟩ [(5,PT C0),(6,PT D0),(7,PT E0),(8,PT M0),(49,SL Q0 p1.Threads G0),(50,i6 (p1.Threads.length:Int)),(51,i6 G2)] a∧St w0 Nil [p0] [Ch kS n0 C1 Q1,bk C0 [.map (some n0)] 75,bk D0 [i6 u0] 3,bk E0 [.bool B1] 4,bk M0 [.func (.func 78) #[] #[PT C0,PT E0,PT D0]] 105,dsA (D140 :: [])] w∧MRel kI C1 P1) (λgh=>gh.1) (N,V1,X1,Y1,0) ⟨E3,B2,T2,hm,o.hs,u,hmA13⟩ ?_
 rintro ⟨P2,P1,u0,B1,G2⟩ a w ⟨n0,C1,Q1,hm,o,u,hmB14⟩
 obtain _ | P2:=P2
 simp [Z8b] at hm
 rw [Z8b] at hm
 refine th<|rg<|qv o (Ao o rfl rfl) λo=>re<|?_
 rcases bip hm with ⟨I2,hm⟩ | ⟨I2,hm⟩
 refine tn<|th<|ctv o rfl I2<|wk<|tn<|th<|wb<|th<|?_
 obtain ⟨J3,B3,hm⟩:=bs hm
 obtain ⟨j5,E5,V3⟩:=SR.get R2 B3
 obtain ⟨R5,P5,S5,Q5,rfl,T5,U5,V5,W5⟩:=Aw E5
 refine rg<|qv o (Am o Tryz.runUnderlying24 Tryz.sizeOf48 rfl rfl B3 (SR.oaI R2 (by decide) B3)) λo=>qv o (Ay o isAgg48 sizeOf48 rfl rfl (λj v hj=>PH.le.cell (λb o hx=>(Lds.le u.ld) b o ((cp I1.sub M1.sub) b o hx)) (V3 j v hj))) λo=>ls<|Au (cs:=[Ac [],.slice none 0 0,.slice none 0 0,i6 0].toArray) o rfl u zeroValue48 rfl λk5 w a u o=>ls<|Az o u sizeOf48 rfl rfl rfl rfl (Al rfl) .head λw u=>re<|tn<|?_
 obtain ⟨C3,F5,hm⟩:=bs hm
 refine rg<|qv o (Ag o Tryz.isAgg105 rfl (u.ld.cellB t5 rfl)) λo=>qv o (Af o Dv rfl) λo=>qv o (Ag o isAgg9 rfl (u.ld.cellB t0 rfl)) λo=>qv o (Af o Ft rfl) λo=>qv o (Ag o isAgg3 rfl (u.ld.cellB t0 rfl)) λo=>?_
 replace u:=u.pk [2,1,2,1,0,0,0] rfl
 replace u:=St.sep [bk C0 [.map (some n0)] 75,Ch kS n0 C1 Q1,bk E0 [.bool B1] 4,bk D0 [i6 u0] 3] u
 refine ls<|k1 (vs:=[Ac J3.Name,i6 4,i6 J3.At]) (caps:=[PT C0,PT E0,PT D0]) o rfl rfl call78 (Vl (St.le u) (p4:=P1) (b5:=C0) (mz6:=n0) (l7:=C1) (cz8:=Q1) (p10:=B1) (b11:=E0) (p12:=u0) (b13:=D0) hmB14 (St.sepOk u) (St.sepDis u) F5) ⟨rfl,rfl,rfl,trivial⟩ rfl (λv w a hR o=>?_)
 obtain ⟨m172,G5,I5,rfl,W3,hk⟩:=hR
 replace u:=(u.mut hk .head).unsep
 refine re<|bn<|tn<|rg<|qv o (Ap o rfl rfl) λo=>qm o rfl λo=>re<|tn<|?_
 replace u:=u.pk [1,0,1,0,1,1] rfl
 exact ⟨(P2,C3.1,C3.2.2,C3.2.1,(IntKind.i64.wrap (G2+1))),⟨m172,G5,I5,hm,o.hs,u,W3⟩,Nat.lt_succ_self _⟩
 refine tn<|th<|cfv o rfl I2<|we<|tx<|tx<|bx<|tn<|?_
 replace u:=u.pk [0,0,0,0,1] rfl
 exact ⟨P1,u0,B1,n0,C1,Q1,hm,o.hs,u,hmB14⟩
 rintro a w ⟨W2,X2,Y2,E2,F2,A3,hm,o,u,hmA20⟩
 unfold Z89 at hm
 refine th<|rxS 6 u wide (by kernel_rfl) λw u=>xq u.ld o (λw hl=>Ag o isAgg75 rfl (hl.cellB t1 rfl)) λo=>xq u.ld o (λw hl=>Ag o isAgg3 rfl (hl.cellB t2 rfl)) λo=>xq u.ld o (λw hl=>Ag o isAgg4 rfl (hl.cellB t3 rfl)) λo=>?_
 iterate 3 refine xq u.ld o (λw hl=>Bq o rfl) λo=>?_
 refine xe<|tn<|wr<|?_
 obtain rfl:=si hm
 replace u:=u.pk [4,0,0,0,0] rfl
 exact rM (.inl rfl) o u λw u=>⟨_,JbD o rfl rfl rfl rfl,⟨E2,F2,A3,rfl,hmA20,u.endFresh t0⟩⟩
 exact λt=>t.elim
theorem Rt (hH:H.le w0) {p1:Int} {r:Bool} (hm:Z9g N p1=some r):Tot Tryz.prog 117 #[.int .u8 p1] w0 (λv w'=>v=.bool r∧Keep Nil w0 w'):=by
 unfold Z9g at hm
 refine fn0 func117 rfl ntmps117 rfl rfl λa o=>?_
 have u:St w0 Nil [H] [] w0:=start1 hH
 refine th<|rg<|qa o rfl λo=>re<|tn<|th<|rg<|qm o rfl λo=>qv o (Bl o rfl rfl) λo=>qm o rfl λo=>gr (Fk:=[(0,.int .u8 p1),(8,.bool ((decide (97≤p1)) && (decide (p1≤122))))]) 5 3 o u ?_ ?_ ?_
 intro hb o key
 exact qg o (Ab o rfl) λo=>qg o (Dc o rfl rfl) λo=>qk o (Ad o rfl rfl) key u hb
 intro hb o key
 iterate 2 refine qn o λo=>?_
 exact qk o (Ae o rfl rfl) key u hb
 intro a w o u
 refine qm o rfl λo=>gr (Fk:=[(12,.bool (((decide (97≤p1)) && (decide (p1≤122))) || (decide (p1=95))))]) 9 3 o u ?_ ?_ ?_
 intro hb o key
 iterate 2 refine qn o λo=>?_
 exact qk o (Ad o rfl rfl) key u hb
 intro hb o key
 exact qg o (Ab o rfl) λo=>qg o (An o rfl rfl) λo=>qk o (Ae o rfl rfl) key u hb
 intro a w o u
 refine qa o rfl λo=>re<|tn<|wr<|?_
 obtain rfl:=si hm
 exact r1 o results117 rfl ⟨rfl,u.keep⟩
theorem JbL (hH:H.le w0) (hT:Tab H)  {r:(List (Str×Bool))} (hm:Z9d N  = some r):Tot Tryz.prog 153 #[] w0 (λv w'=>∃ (m0:Nat) (l0:List (Str×Value×Nat)) (c0:Nat),v=.map (some m0)∧MRel Value.bool l0 r∧Fresh w0 (Ch kS m0 l0 c0) w'):=by
 unfold Z9d at hm
 refine fn0 func153 rfl ntmps153 rfl rfl λa o=>?_
 have u:St w0 Nil [H] [] w0:=start1 hH
 refine th<|rg<|qa o rfl λo=>re<|tn<|th<|rg<|ls<|Um o rfl u λmz1 w a u o=>?_
 replace u:=St.gmap0 (kv:=kS) u
 have X0:MRel (κ:=Str) (β:=Bool) Value.bool [] []:=MRel.nil _
 refine qa o rfl λo=>re<|tn<|th<|th<|?_
 obtain ⟨D0,h4,hm⟩:=bs hm
 refine rg<|ls<|c1 o rfl Tryz.call165 (Uk (Ai _) (Tab.mono hT (St.up u)) h4) ⟨rfl,rfl,trivial⟩ (λv w a hR o=>?_)
 obtain ⟨T0,M0,Y0,rfl,G0,hk⟩:=hR
 replace u:=u.fresh hk
 replace G0:=G0 H
 refine qv o (Ak (α:=Str) (xs:=D0) o runUnderlying36 rfl) λo=>qm o rfl λo=>re<|tn<|Av (λa w=>∃ (O0:(List (Str×Bool))) (I0:List (Str×Value×Nat)) (P0:Nat),Z9e O0=some r∧Fr 15 [(1,.map (some mz1))] a∧St w0 Nil [H] [Ch kS mz1 I0 P0] w∧MRel Value.bool I0 O0) ?_ ?_
 replace u:=u.pk [1,0] rfl
 refine wb<|lp (α:=Nat×(List (Str×Bool))×Int) (λ(gh:Nat×(List (Str×Bool))×Int) a w=>match gh with | (E0,C0,J0)=>∃ (K0:List (Str×Value×Nat)) (Q0:Nat),(Z9f N Z9e D0) E0 C0 J0=some r∧Fr 15 [(1,.map (some mz1)),(5,SL T0 D0 M0),(6,i6 (D0.length:Int)),(7,i6 J0)] a∧St w0 Nil [H] [Ch kS mz1 K0 Q0,sla 9 1 T0 D0.length M0 Y0] w∧MRel Value.bool K0 C0) (λgh=>gh.1) (N,[],0) ⟨[],0,hm,o.hs,u,X0⟩ ?_
 rintro ⟨E0,C0,J0⟩ a w ⟨K0,Q0,hm,o,u,hmB4⟩
 obtain _ | E0:=E0
 simp [Z9f] at hm
 rw [Z9f] at hm
 refine th<|rg<|qv o (Ao o rfl rfl) λo=>re<|?_
 rcases bip hm with ⟨F0,hm⟩ | ⟨F0,hm⟩
 refine tn<|th<|ctv o rfl F0<|wk<|tn<|th<|wb<|th<|?_
 obtain ⟨R0,S0,hm⟩:=bs hm
 have U0:=Rd.oaI (u.rdO t1) G0 (by decide) S0
 obtain ⟨j0,n0,V0⟩:=Rows.getI G0 S0
 obtain rfl:j0=[Ac R0]:=n0
 refine rg<|qv o (Am o Tryz.runUnderlying36 Tryz.sizeOf9 rfl rfl S0 U0) λo=>qv o (Ag o isAgg9 rfl (u.ld.elO t1 (V0 0 _ rfl))) λo=>qa o rfl λo=>re<|tn<|rg<|qm o rfl λo=>qm o rfl λo=>ls<|Ui (ev:=Value.bool) (m:=C0) (k:=R0) (v:=true) o u Nq runUnderlying163 rfl rfl rfl t0 hmB4 λp0 u0 w W0 hU=>?_
 replace u:=hU _ .head
 refine re<|bn<|tn<|rg<|qv o (Ap o rfl rfl) λo=>qm o rfl λo=>re<|tn<|?_
 exact ⟨(E0,(Ih R0 true C0),(IntKind.i64.wrap (J0+1))),⟨p0,u0,hm,o.hs,u,W0⟩,Nat.lt_succ_self _⟩
 refine tn<|th<|cfv o rfl F0<|we<|tx<|tx<|bx<|tn<|?_
 replace u:=u.pk [0] rfl
 exact ⟨C0,K0,Q0,hm,o.has ⟨rfl,trivial⟩,u,hmB4⟩
 rintro a w ⟨O0,I0,P0,hm,o,u,hmA4⟩
 unfold Z9e at hm
 refine th<|rg<|qm o rfl λo=>qa o rfl λo=>re<|tn<|wr<|?_
 obtain rfl:=si hm
 exact r1 o results153 rfl ⟨mz1,I0,P0,rfl,hmA4,u.endFresh t0⟩
theorem JbH (hH:H.le w0) (hT:Tab H) {p1:Str} {r:Bool} (hm:Z98 N p1=some r):Tot Tryz.prog 118 #[Ac p1] w0 (λv w'=>v=.bool r∧Keep Nil w0 w'):=by
 unfold Z98 at hm
 refine fn0 func118 rfl ntmps118 rfl rfl λa o=>?_
 have u:St w0 Nil [H] [] w0:=start1 hH
 refine th<|rg<|qa o rfl λo=>re<|tn<|th<|?_
 obtain ⟨C0,h3,hm⟩:=bs hm
 refine rg<|ls<|c1 o rfl Tryz.call153 (JbL (Ai _) (Tab.mono hT (St.up u)) h3) trivial (λv w a hR o=>?_)
 obtain ⟨mz4,l5,cz6,rfl,D0,hk⟩:=hR
 replace u:=u.fresh hk
 refine qm o rfl λo=>qv o (Iz (ev:=Value.bool) (dv:=false) (m:=C0) (k:=p1) o Nq runUnderlying163 zeroValue4 (Lds.mapO u.ld t0) rfl rfl D0) λo=>qa o rfl λo=>re<|tn<|wr<|?_
 obtain rfl:=si hm
 exact r1 o results118 rfl ⟨rfl,u.keep⟩
theorem Jbp (hH:H.le w0) {p1:Int} {r:Bool} (hm:Z9c N p1=some r):Tot Tryz.prog 121 #[.int .u8 p1] w0 (λv w'=>v=.bool r∧Keep Nil w0 w'):=by
 unfold Z9c at hm
 refine fn0 func121 rfl ntmps121 rfl rfl λa o=>?_
 have u:St w0 Nil [H] [] w0:=start1 hH
 refine th<|rg<|qa o rfl λo=>re<|tn<|th<|rg<|qm o rfl λo=>qv o (Bl o rfl rfl) λo=>qm o rfl λo=>gr (Fk:=[(8,.bool ((decide (48≤p1)) && (decide (p1≤57))))]) 5 3 o u ?_ ?_ ?_
 intro hb o key
 exact qg o (Ab o rfl) λo=>qg o (Dc o rfl rfl) λo=>qk o (Ad o rfl rfl) key u hb
 intro hb o key
 iterate 2 refine qn o λo=>?_
 exact qk o (Ae o rfl rfl) key u hb
 intro a w o u
 refine qa o rfl λo=>re<|tn<|wr<|?_
 obtain rfl:=si hm
 exact r1 o results121 rfl ⟨rfl,u.keep⟩
theorem JaH (hH:H.le w0) {p1:Int} {r:Bool} (hm:Z9a N p1=some r):Tot Tryz.prog 120 #[.int .u8 p1] w0 (λv w'=>v=.bool r∧Keep Nil w0 w'):=by
 unfold Z9a at hm
 refine fn0 func120 rfl ntmps120 rfl rfl λa o=>?_
 have u:St w0 Nil [H] [] w0:=start1 hH
 refine th<|rg<|qa o rfl λo=>re<|tn<|th<|?_
 obtain ⟨D0,h3,hm⟩:=bs hm
 rcases bit hm with ⟨C0,hm⟩ | ⟨C0,hm⟩
 refine rg<|qm o rfl λo=>ls<|cr o call117 (Rt (Ai _) h3) u λu o=>qv o (Ar (Ab o rfl) (congrArg Value.bool C0)) λo=>?_
 iterate 2 refine qn o λo=>?_
 refine qv o (Ad o rfl rfl) λo=>qa o rfl λo=>re<|tn<|wr<|?_
 obtain rfl:=si hm
 exact r1 o results120 rfl ⟨rfl,u.keep⟩
 obtain ⟨E0,h6,hm⟩:=bs hm
 refine rg<|qm o rfl λo=>ls<|cr o call117 (Rt (Ai _) h3) u λu o=>qv o (Ar (Ab o rfl) (congrArg Value.bool C0)) λo=>qg o (Ab o rfl) λo=>ls<|gy o rfl rfl<|cr o call121 (Jbp (Ai _) h6) u λu o=>qv o (Ae o rfl rfl) λo=>qa o rfl λo=>re<|tn<|wr<|?_
 obtain rfl:=si hm
 exact r1 o results120 rfl ⟨rfl,u.keep⟩
theorem Jb5 (hH:H.le w0) {p1:Str} {r:Int} (hm:Z9h N p1=some r):Tot Tryz.prog 119 #[Ac p1,.func (.func 120) #[] #[]] w0 (λv w'=>v=i6 r∧Keep Nil w0 w'):=by
 unfold Z9h at hm
 refine fn0 func119 rfl ntmps119 rfl rfl λa o=>?_
 have u:St w0 Nil [H] [] w0:=start1 hH
 refine th<|rg<|qa o rfl λo=>re<|tn<|th<|rg<|qa o rfl λo=>re<|tn<|th<|Av (λa w=>∃ (E0:Int),Z9i E0=some r∧Fr 20 [(5,i6 E0)] a∧St w0 Nil [H] [] w) ?_ ?_
 refine wb<|lp (α:=Nat×Int) (λgh a w=>match gh with | (D0,C0)=>(Z9k N Z9i p1) D0 C0=some r∧Fr 20 [(0,Ac p1),(1,.func (.func 120) #[] #[]),(5,i6 C0)] a∧St w0 Nil [H] [] w) (λgh=>gh.1) (N,0) ⟨hm,o.hs,u⟩ ?_
 rintro ⟨D0,C0⟩ a w ⟨hm,o,u⟩
 obtain _ | D0:=D0
 simp [Z9k] at hm
 rw [Z9k] at hm
 refine th<|th<|Av (λa w=>∃ (F0:Bool),(Z9j Z9i (Z9k N Z9i p1 D0) C0) F0=some r∧Fr 20 [(0,Ac p1),(1,.func (.func 120) #[] #[]),(5,i6 C0),(16,.bool F0)] a∧St w0 Nil [H] [] w) ?_ ?_
 rcases bip hm with ⟨G0,hm⟩ | ⟨G0,hm⟩
 obtain ⟨J0,h4,hm⟩:=bs hm
 obtain ⟨K0,h6,hm⟩:=bs hm
 refine rg<|qm o rfl λo=>qm o rfl λo=>qv o (Bo (s:=p1) o runUnderlying9 rfl) λo=>qv o (Ao o rfl rfl) λo=>qv o (Ar (Ab o rfl) (congrArg Value.bool G0)) λo=>?_
 iterate 3 refine qg o (Ab o rfl) λo=>?_
 refine qg o (Co (s:=p1) o runUnderlying9 rfl rfl h4) λo=>ls<|gy o rfl rfl<|k1 (vs:=[.int .u8 J0]) (caps:=[]) o rfl rfl call120 (JaH (Ai _) h6) ⟨rfl,trivial⟩ rfl (λv w a hR o=>?_)
 obtain ⟨rfl,hk⟩:=hR
 replace u:=u.pass hk
 refine qv o (Ad o rfl rfl) λo=>re<|tn<|?_
 exact ⟨K0,hm,o.hs,u⟩
 refine rg<|qm o rfl λo=>qm o rfl λo=>qv o (Bo (s:=p1) o runUnderlying9 rfl) λo=>qv o (Ao o rfl rfl) λo=>qv o (Ar (Ab o rfl) (congrArg Value.bool G0)) λo=>?_
 iterate 5 refine qn o λo=>?_
 refine qv o (Ae o rfl rfl) λo=>re<|tn<|?_
 exact ⟨false,hm,o.hs,u⟩
 rintro a w ⟨F0,hm,o,u⟩
 unfold Z9j at hm
 rcases bit hm with ⟨I0,hm⟩ | ⟨I0,hm⟩
 refine ctv o rfl I0<|wk<|tn<|wb<|rg<|qm o rfl λo=>qv o (Ap o rfl rfl) λo=>qa o rfl λo=>re<|bn<|tn<|?_
 exact ⟨(D0,(IntKind.i64.wrap (C0+1))),⟨hm,o.hs,u⟩,Nat.lt_succ_self _⟩
 refine cfv o rfl I0<|we<|tx<|tx<|bx<|tn<|?_
 exact ⟨C0,hm,o.has ⟨rfl,trivial⟩,u⟩
 rintro a w ⟨E0,hm,o,u⟩
 unfold Z9i at hm
 refine th<|rg<|qm o rfl λo=>qa o rfl λo=>re<|tn<|wr<|?_
 obtain rfl:=si hm
 exact r1 o results119 rfl ⟨rfl,u.keep⟩
theorem Lj (hH:H.le w0) (hT:Tab H) {p1:Str} {r:Bool} (hm:Z99 N p1=some r):Tot Tryz.prog 82 #[Ac p1] w0 (λv w'=>v=.bool r∧Keep Nil w0 w'):=by
 unfold Z99 at hm
 refine fn0 func82 rfl ntmps82 rfl rfl λa o=>?_
 have u:St w0 Nil [H] [] w0:=start1 hH
 refine th<|rg<|qa o rfl λo=>re<|tn<|th<|th<|Av (λa w=>∃ (E0:Bool),(Z9b N p1) E0=some r∧Fr 25 [(0,Ac p1),(19,.bool E0)] a∧St w0 Nil [H] [] w) ?_ ?_
 rcases bit hm with ⟨D0,hm⟩ | ⟨D0,hm⟩
 refine rg<|qm o rfl λo=>qv o (Eg (m:=p1) (n:=[]) o rfl rfl) λo=>qm o rfl λo=>gr (Fk:=[(0,Ac p1),(9,.bool ((decide (p1=[])) || (decide (16 < (p1.length:Int)))))]) 5 4 o u ?_ ?_ ?_
 intro hb o key
 iterate 3 refine qn o λo=>?_
 exact qk o (Ad o rfl rfl) key u hb
 intro hb o key
 exact qg o (Ab o rfl) λo=>qg o (Bo (s:=p1) o runUnderlying9 rfl) λo=>qg o (Bd o rfl rfl) λo=>qk o (Ae o rfl rfl) key u hb
 intro a w o u
 refine qv o (Ar (Ab o rfl) (congrArg Value.bool D0)) λo=>?_
 iterate 4 refine qn o λo=>?_
 refine qv o (Ad o rfl rfl) λo=>qm o rfl λo=>?_
 iterate 2 refine qn o λo=>?_
 refine qv o (Ad o rfl rfl) λo=>re<|tn<|?_
 exact ⟨true,hm,o.has ⟨rfl,rfl,trivial⟩,u⟩
 obtain ⟨K0,h4,hm⟩:=bs hm
 obtain ⟨G0,h6,hm⟩:=bs hm
 rcases bit hm with ⟨F0,hm⟩ | ⟨F0,hm⟩
 have F0':(!G0)=false:=by rw [F0];rfl
 obtain ⟨I0,h9,hm⟩:=bs hm
 refine rg<|qm o rfl λo=>qv o (Eg (m:=p1) (n:=[]) o rfl rfl) λo=>qm o rfl λo=>gr (Fk:=[(0,Ac p1),(9,.bool ((decide (p1=[])) || (decide (16 < (p1.length:Int)))))]) 5 4 o u ?_ ?_ ?_
 intro hb o key
 iterate 3 refine qn o λo=>?_
 exact qk o (Ad o rfl rfl) key u hb
 intro hb o key
 exact qg o (Ab o rfl) λo=>qg o (Bo (s:=p1) o runUnderlying9 rfl) λo=>qg o (Bd o rfl rfl) λo=>qk o (Ae o rfl rfl) key u hb
 intro a w o u
 refine qv o (Ar (Ab o rfl) (congrArg Value.bool D0)) λo=>qg o (Ab o rfl) λo=>qg o (Co (s:=p1) o runUnderlying9 rfl rfl h4) λo=>ls<|gy o rfl rfl<|cr o call117 (Rt (Ai _) h6) u λu o=>qg o (Ba o rfl) λo=>qv o (Ae o rfl rfl) λo=>qv o (Ar (Ab o rfl) (congrArg Value.bool F0')) λo=>qg o (Ab o rfl) λo=>ls<|gy o rfl rfl<|cr o call118 (JbH (Ai _) (Tab.mono hT (St.up u)) h9) u λu o=>qv o (Ae o rfl rfl) λo=>re<|tn<|?_
 exact ⟨I0,hm,o.has ⟨rfl,rfl,trivial⟩,u⟩
 have F0':(!G0)=true:=by rw [F0];rfl
 refine rg<|qm o rfl λo=>qv o (Eg (m:=p1) (n:=[]) o rfl rfl) λo=>qm o rfl λo=>gr (Fk:=[(0,Ac p1),(9,.bool ((decide (p1=[])) || (decide (16 < (p1.length:Int)))))]) 5 4 o u ?_ ?_ ?_
 intro hb o key
 iterate 3 refine qn o λo=>?_
 exact qk o (Ad o rfl rfl) key u hb
 intro hb o key
 exact qg o (Ab o rfl) λo=>qg o (Bo (s:=p1) o runUnderlying9 rfl) λo=>qg o (Bd o rfl rfl) λo=>qk o (Ae o rfl rfl) key u hb
 intro a w o u
 refine qv o (Ar (Ab o rfl) (congrArg Value.bool D0)) λo=>qg o (Ab o rfl) λo=>qg o (Co (s:=p1) o runUnderlying9 rfl rfl h4) λo=>ls<|gy o rfl rfl<|cr o call117 (Rt (Ai _) h6) u λu o=>qg o (Ba o rfl) λo=>qv o (Ae o rfl rfl) λo=>qv o (Ar (Ab o rfl) (congrArg Value.bool F0')) λo=>?_
 iterate 2 refine qn o λo=>?_
 refine qv o (Ad o rfl rfl) λo=>re<|tn<|?_
 exact ⟨true,hm,o.has ⟨rfl,rfl,trivial⟩,u⟩
 rintro a w ⟨E0,hm,o,u⟩
 unfold Z9b at hm
 rcases bit hm with ⟨C0,hm⟩ | ⟨C0,hm⟩
 refine ctv o rfl C0<|th<|rg<|qa o rfl λo=>re<|tn<|wr<|tr<|?_
 obtain rfl:=si hm
 exact r1 o results82 rfl ⟨rfl,u.keep⟩
 refine cfv o rfl C0<|wk<|tn<|th<|?_
 obtain ⟨M0,J0,hm⟩:=bs hm
 refine rg<|qm o rfl λo=>ls<|cr o call119 (Jb5 (Ai _) J0) u λu o=>qm o rfl λo=>qv o (Bo (s:=p1) o runUnderlying9 rfl) λo=>qv o (An o rfl rfl) λo=>qa o rfl λo=>re<|tn<|wr<|?_
 obtain rfl:=si hm
 exact r1 o results82 rfl ⟨rfl,u.keep⟩
theorem Mp (hH:H.le w0) {p1:Int} {r:Bool} (hm:Z95 N p1=some r):Tot Tryz.prog 86 #[i6 p1] w0 (λv w'=>v=.bool r∧Keep Nil w0 w'):=by
 unfold Z95 at hm
 refine fn0 func86 rfl ntmps86 rfl rfl λa o=>?_
 have u:St w0 Nil [H] [] w0:=start1 hH
 refine th<|rg<|qa o rfl λo=>re<|tn<|th<|rg<|qm o rfl λo=>qv o (Bl o rfl rfl) λo=>qm o rfl λo=>gr (Fk:=[(8,.bool ((decide (0≤p1)) && (decide (p1≤4000))))]) 5 3 o u ?_ ?_ ?_
 intro hb o key
 exact qg o (Ab o rfl) λo=>qg o (Dc o rfl rfl) λo=>qk o (Ad o rfl rfl) key u hb
 intro hb o key
 iterate 2 refine qn o λo=>?_
 exact qk o (Ae o rfl rfl) key u hb
 intro a w o u
 refine qa o rfl λo=>re<|tn<|wr<|?_
 obtain rfl:=si hm
 exact r1 o results86 rfl ⟨rfl,u.keep⟩
theorem Ja5 (hH:H.le w0) (hT:Tab H) {p1:api_Cell} {y3:Int} {b2:Nat} (E0:H b2=some (.cells [i6 y3].toArray 3 (0,0))) {r:Bool} (hm:Z94 N p1 y3=some r):Tot Tryz.prog 116 #[.agg #[Ac p1.Name,i6 p1.N,i6 p1.At],PT b2] w0 (λv w'=>v=.bool r∧Keep Nil w0 w'):=by
 unfold Z94 at hm
 refine fn0 func116 rfl ntmps116 rfl rfl λa o=>?_
 have u:St w0 Nil [H] [] w0:=start1 hH
 refine th<|rg<|ls<|Br (cs:=[Ac p1.Name,i6 p1.N,i6 p1.At].toArray) o rfl u rfl rfl λb5 w a u o=>qa o rfl λo=>re<|tn<|th<|?_
 obtain ⟨C0,h7,hm⟩:=bs hm
 rcases bit hm with ⟨D0,hm⟩ | ⟨D0,hm⟩
 refine rg<|qv o (Af o Dq rfl) λo=>qv o (Ag o isAgg9 rfl (u.ld.cellB t0 rfl)) λo=>ls<|cr o call82 (Lj (Ai _) (Tab.mono hT (St.up u)) h7) u λu o=>qv o (Ba o rfl) λo=>qm o rfl λo=>gr (Fk:=[(1,PT b2),(2,PT b5),(12,.bool ((!C0) || (decide (p1.N < 0))))]) 8 4 o u ?_ ?_ ?_
 intro hb o key
 iterate 3 refine qn o λo=>?_
 exact qk o (Ad o rfl rfl) key u hb
 intro hb o key
 exact qg o (Af o Fu rfl) λo=>qg o (Ag o isAgg3 rfl (u.ld.cellB t0 rfl)) λo=>qg o (Ao o rfl rfl) λo=>qk o (Ae o rfl rfl) key u hb
 intro a w o u
 refine qm o rfl λo=>gr (Fk:=[(2,PT b5),(18,.bool (((!C0) || (decide (p1.N < 0))) || (decide (y3 < p1.N))))]) 13 5 o u ?_ ?_ ?_
 intro hb o key
 iterate 4 refine qn o λo=>?_
 exact qk o (Ad o rfl rfl) key u hb
 intro hb o key
 exact qg o (Af o Fu rfl) λo=>qg o (Ag o isAgg3 rfl (u.ld.cellB t0 rfl)) λo=>qg o (Ag o isAgg3 rfl (PH.le.cell (Lds.le u.ld) (Gi E0 rfl))) λo=>qg o (Bd o rfl rfl) λo=>qk o (Ae o rfl rfl) key u hb
 intro a w o u
 refine qv o (Ar (Ab o rfl) (congrArg Value.bool D0)) λo=>?_
 iterate 4 refine qn o λo=>?_
 refine qv o (Ad o rfl rfl) λo=>qa o rfl λo=>re<|tn<|wr<|?_
 obtain rfl:=si hm
 exact r1 o results116 rfl ⟨rfl,u.keep⟩
 obtain ⟨G0,F0,hm⟩:=bs hm
 refine rg<|qv o (Af o Dq rfl) λo=>qv o (Ag o isAgg9 rfl (u.ld.cellB t0 rfl)) λo=>ls<|cr o call82 (Lj (Ai _) (Tab.mono hT (St.up u)) h7) u λu o=>qv o (Ba o rfl) λo=>qm o rfl λo=>gr (Fk:=[(1,PT b2),(2,PT b5),(12,.bool ((!C0) || (decide (p1.N < 0))))]) 8 4 o u ?_ ?_ ?_
 intro hb o key
 iterate 3 refine qn o λo=>?_
 exact qk o (Ad o rfl rfl) key u hb
 intro hb o key
 exact qg o (Af o Fu rfl) λo=>qg o (Ag o isAgg3 rfl (u.ld.cellB t0 rfl)) λo=>qg o (Ao o rfl rfl) λo=>qk o (Ae o rfl rfl) key u hb
 intro a w o u
 refine qm o rfl λo=>gr (Fk:=[(2,PT b5),(18,.bool (((!C0) || (decide (p1.N < 0))) || (decide (y3 < p1.N))))]) 13 5 o u ?_ ?_ ?_
 intro hb o key
 iterate 4 refine qn o λo=>?_
 exact qk o (Ad o rfl rfl) key u hb
 intro hb o key
 exact qg o (Af o Fu rfl) λo=>qg o (Ag o isAgg3 rfl (u.ld.cellB t0 rfl)) λo=>qg o (Ag o isAgg3 rfl (PH.le.cell (Lds.le u.ld) (Gi E0 rfl))) λo=>qg o (Bd o rfl rfl) λo=>qk o (Ae o rfl rfl) key u hb
 intro a w o u
 refine qv o (Ar (Ab o rfl) (congrArg Value.bool D0)) λo=>qg o (Af o Jm rfl) λo=>qg o (Ag o isAgg3 rfl (u.ld.cellB t0 rfl)) λo=>ls<|gy o rfl rfl<|cr o call86 (Mp (Ai _) F0) u λu o=>qg o (Ba o rfl) λo=>qv o (Ae o rfl rfl) λo=>qa o rfl λo=>re<|tn<|wr<|?_
 obtain rfl:=si hm
 exact r1 o results116 rfl ⟨rfl,u.keep⟩
theorem Jb8 (hH:H.le w0) (hT:Tab H) {G0:Option Addr} {D0:Nat} {p1:(List api_Cell)} (_:p1.length≤D0) (M0:SR H G0 p1) {y7:Int} {b6:Nat} (P0:H b6=some (.cells [i6 y7].toArray 3 (0,0))) {r:Int} (hm:Za7 N p1 y7=some r):Tot Tryz.prog 152 #[SL G0 p1 D0,.func (.func 116) #[] #[PT b6]] w0 (λv w'=>v=i6 r∧Keep Nil w0 w'):=by
 unfold Za7 at hm
 refine fn0 func152 rfl ntmps152 rfl rfl λa o=>?_
 have u:St w0 Nil [H] [] w0:=start1 hH
 refine th<|rg<|qa o rfl λo=>re<|tn<|th<|th<|rg<|qm o rfl λo=>qv o (Ak (α:=api_Cell) (xs:=p1) o runUnderlying23 rfl) λo=>qm o rfl λo=>re<|tn<|Av (λa w=>Za8=some r∧Fr 19 [] a∧St w0 Nil [H] [] w) ?_ ?_
 refine wb<|lp (α:=Nat×Int) (λgh a w=>match gh with | (C0,F0)=>(Za9 N Za8 p1 y7) C0 F0=some r∧Fr 19 [(0,SL G0 p1 D0),(1,.func (.func 116) #[] #[PT b6]),(7,i6 (p1.length:Int)),(8,i6 F0)] a∧St w0 Nil [H] [] w) (λgh=>gh.1) (N,0) ⟨hm,o.hs,u⟩ ?_
 rintro ⟨C0,F0⟩ a w ⟨hm,o,u⟩
 obtain _ | C0:=C0
 simp [Za9] at hm
 rw [Za9] at hm
 refine th<|rg<|qv o (Ao o rfl rfl) λo=>re<|?_
 rcases bip hm with ⟨I0,hm⟩ | ⟨I0,hm⟩
 refine tn<|th<|ctv o rfl I0<|wk<|tn<|th<|wb<|th<|rg<|qm o rfl λo=>qa o rfl λo=>re<|tn<|th<|?_
 obtain ⟨J0,K0,hm⟩:=bs hm
 obtain ⟨S0,Q0,O0⟩:=SR.get M0 K0
 obtain rfl:=Bj Q0
 obtain ⟨T0,R0,hm⟩:=bs hm
 refine rg<|qm o rfl λo=>?_
 iterate 2 refine qm o rfl λo=>?_
 refine qv o (Am o runUnderlying23 sizeOf53 rfl rfl K0 (SR.oaI M0 (by decide) K0)) λo=>qv o (Ay o isAgg53 sizeOf53 rfl rfl (λj v hj=>PH.le.cell (Lds.le u.ld) (O0 j v hj))) λo=>ls<|k1 (vs:=[.agg #[Ac J0.Name,i6 J0.N,i6 J0.At]]) (caps:=[PT b6]) o rfl rfl call116 (Ja5 (Ai _) (Tab.mono hT (St.up u)) (St.up u _ _ P0) R0) ⟨rfl,trivial⟩ rfl (λv w a hR o=>?_)
 obtain ⟨rfl,hk⟩:=hR
 replace u:=u.pass hk
 refine re<|?_
 rcases bit hm with ⟨E0,hm⟩ | ⟨E0,hm⟩
 refine tn<|ctv o rfl E0<|th<|rg<|qm o rfl λo=>qa o rfl λo=>re<|tn<|wr<|br<|tr<|tr<|br<|tr<|?_
 obtain rfl:=si hm
 exact r1 o results152 rfl ⟨rfl,u.keep⟩
 refine tn<|cfv o rfl E0<|wk<|bn<|tn<|rg<|qv o (Ap o rfl rfl) λo=>qm o rfl λo=>re<|tn<|?_
 exact ⟨(C0,(IntKind.i64.wrap (F0+1))),⟨hm,o.hs,u⟩,Nat.lt_succ_self _⟩
 refine tn<|th<|cfv o rfl I0<|we<|tx<|tx<|bx<|tn<|?_
 exact ⟨hm,o.has trivial,u⟩
 rintro a w ⟨hm,o,u⟩
 unfold Za8 at hm
 refine th<|rg<|qa o rfl λo=>re<|tn<|wr<|?_
 obtain rfl:=si hm
 exact r1 o results152 rfl ⟨rfl,u.keep⟩
theorem JaB (hH:H.le w0) (hT:Tab H) {D0:Option Addr} {C0:Nat} {p1:(List api_Cell)} (E0:p1.length≤C0) (F0:SR H D0 p1) {y7:Int} {b6:Nat} (G0:H b6=some (.cells [i6 y7].toArray 3 (0,0))) {r:Bool} (hm:Z9s N p1 y7=some r):Tot Tryz.prog 115 #[SL D0 p1 C0,.func (.func 116) #[] #[PT b6]] w0 (λv w'=>v=.bool r∧Keep Nil w0 w'):=by
 unfold Z9s at hm
 refine fn0 func115 rfl ntmps115 rfl rfl λa o=>?_
 have u:St w0 Nil [H] [] w0:=start1 hH
 refine th<|rg<|qa o rfl λo=>re<|tn<|th<|?_
 obtain ⟨J0,I0,hm⟩:=bs hm
 refine rg<|qm o rfl λo=>qm o rfl λo=>ls<|cr o call152 (Jb8 (Ai _) (Tab.mono hT (St.up u)) E0 (St.srH u F0) (St.up u _ _ G0) I0) u λu o=>qv o (Bl o rfl rfl) λo=>qa o rfl λo=>re<|tn<|wr<|?_
 obtain rfl:=si hm
 exact r1 o results115 rfl ⟨rfl,u.keep⟩
theorem Va (hH:H.le w0) (hT:Tab H) {D0:Option Addr} {C0:Nat} {p1:(List api_Cell)} (E0:p1.length≤C0) (F0:SR H D0 p1) {p6:Int} {r:Bool} (hm:Z93 N p1 p6=some r):Tot Tryz.prog 80 #[SL D0 p1 C0,i6 p6] w0 (λv w'=>v=.bool r∧Keep Nil w0 w'):=by
 unfold Z93 at hm
 refine fn0 func80 rfl ntmps80 rfl rfl λa o=>?_
 have u:St w0 Nil [H] [] w0:=start1 hH
 refine th<|rg<|ls<|Br (cs:=[i6 p6].toArray) o rfl u rfl rfl λb7 w a u o=>qa o rfl λo=>re<|tn<|th<|?_
 obtain ⟨G0,h9,hm⟩:=bs hm
 refine rg<|qm o rfl λo=>qv o (Ox (vs:=[PT b7]) o ⟨rfl,trivial⟩) λo=>ls<|cr o call115 (JaB (Ai _) (Tab.mono hT (St.up u)) E0 (St.srH u F0) (St.blkO u t0) h9) u λu o=>qv o (Ba o rfl) λo=>qa o rfl λo=>re<|tn<|wr<|?_
 obtain rfl:=si hm
 exact r1 o results80 rfl ⟨rfl,u.keep⟩
theorem JaT (hH:H.le w0) (hT:Tab H) {E0:Option Addr} {C0:Nat} {p1:(List api_Cell)} (F0:p1.length≤C0) (G0:SR H E0 p1) {r:Bool} (hm:Z8y N p1=some r):Tot Tryz.prog 79 #[SL E0 p1 C0] w0 (λv w'=>v=.bool r∧Keep Nil w0 w'):=by
 unfold Z8y at hm
 refine fn0 func79 rfl ntmps79 rfl rfl λa o=>?_
 have u:St w0 Nil [H] [] w0:=start1 hH
 refine th<|rg<|qa o rfl λo=>re<|tn<|th<|?_
 rcases bip hm with ⟨D0,hm⟩ | ⟨D0,hm⟩
 refine rg<|qm o rfl λo=>qv o (Ak (α:=api_Cell) (xs:=p1) o runUnderlying23 rfl) λo=>qv o (An o rfl rfl) λo=>qv o (Ar (Ab o rfl) (congrArg Value.bool D0)) λo=>?_
 iterate 3 refine qn o λo=>?_
 refine qv o (Ad o rfl rfl) λo=>qa o rfl λo=>re<|tn<|wr<|?_
 obtain rfl:=si hm
 exact r1 o results79 rfl ⟨rfl,u.keep⟩
 obtain ⟨I0,h8,hm⟩:=bs hm
 refine rg<|qm o rfl λo=>qv o (Ak (α:=api_Cell) (xs:=p1) o runUnderlying23 rfl) λo=>qv o (An o rfl rfl) λo=>qv o (Ar (Ab o rfl) (congrArg Value.bool D0)) λo=>qg o (Ab o rfl) λo=>ls<|gy o rfl rfl<|cr o call80 (Va (Ai _) (Tab.mono hT (St.up u)) F0 (St.srH u G0) h8) u λu o=>qg o (Ba o rfl) λo=>qv o (Ae o rfl rfl) λo=>qa o rfl λo=>re<|tn<|wr<|?_
 obtain rfl:=si hm
 exact r1 o results79 rfl ⟨rfl,u.keep⟩
theorem Jbn (hH:H.le w0) (hT:Tab H) {G0:Option Addr} {D0:Nat} {p1:(List (List api_Cell))} (_:p1.length≤D0) (K0:SR H G0 p1) {r:Int} (hm:Za1 N p1=some r):Tot Tryz.prog 129 #[SL G0 p1 D0,.func (.func 79) #[] #[]] w0 (λv w'=>v=i6 r∧Keep Nil w0 w'):=by
 unfold Za1 at hm
 refine fn0 func129 rfl ntmps129 rfl rfl λa o=>?_
 have u:St w0 Nil [H] [] w0:=start1 hH
 refine th<|rg<|qa o rfl λo=>re<|tn<|th<|th<|rg<|qm o rfl λo=>qv o (Ak (α:=(List api_Cell)) (xs:=p1) o runUnderlying22 rfl) λo=>qm o rfl λo=>re<|tn<|Av (λa w=>Za2=some r∧Fr 19 [] a∧St w0 Nil [H] [] w) ?_ ?_
 refine wb<|lp (α:=Nat×Int) (λgh a w=>match gh with | (C0,F0)=>(Za3 N Za2 p1) C0 F0=some r∧Fr 19 [(0,SL G0 p1 D0),(1,.func (.func 79) #[] #[]),(7,i6 (p1.length:Int)),(8,i6 F0)] a∧St w0 Nil [H] [] w) (λgh=>gh.1) (N,0) ⟨hm,o.hs,u⟩ ?_
 rintro ⟨C0,F0⟩ a w ⟨hm,o,u⟩
 obtain _ | C0:=C0
 simp [Za3] at hm
 rw [Za3] at hm
 refine th<|rg<|qv o (Ao o rfl rfl) λo=>re<|?_
 rcases bip hm with ⟨I0,hm⟩ | ⟨I0,hm⟩
 refine tn<|th<|ctv o rfl I0<|wk<|tn<|th<|wb<|th<|rg<|qm o rfl λo=>qa o rfl λo=>re<|tn<|th<|?_
 obtain ⟨R0,h8,hm⟩:=bs hm
 obtain ⟨cz9,S0,M0⟩:=SR.get K0 h8
 obtain ⟨O0,J0,rfl,P0,Q0⟩:=S0
 obtain ⟨U0,T0,hm⟩:=bs hm
 refine rg<|qm o rfl λo=>?_
 iterate 2 refine qm o rfl λo=>?_
 refine qv o (Am o runUnderlying22 sizeOf23 rfl rfl h8 (SR.oaI K0 (by decide) h8)) λo=>qv o (Ag o isAgg23 rfl (PH.le.cell (Lds.le u.ld) (M0 0 _ rfl))) λo=>ls<|k1 (vs:=[SL O0 R0 J0]) (caps:=[]) o rfl rfl call79 (JaT (Ai _) (Tab.mono hT (St.up u)) P0 (St.srH u Q0) T0) ⟨rfl,trivial⟩ rfl (λv w a hR o=>?_)
 obtain ⟨rfl,hk⟩:=hR
 replace u:=u.pass hk
 refine re<|?_
 rcases bit hm with ⟨E0,hm⟩ | ⟨E0,hm⟩
 refine tn<|ctv o rfl E0<|th<|rg<|qm o rfl λo=>qa o rfl λo=>re<|tn<|wr<|br<|tr<|tr<|br<|tr<|?_
 obtain rfl:=si hm
 exact r1 o results129 rfl ⟨rfl,u.keep⟩
 refine tn<|cfv o rfl E0<|wk<|bn<|tn<|rg<|qv o (Ap o rfl rfl) λo=>qm o rfl λo=>re<|tn<|?_
 exact ⟨(C0,(IntKind.i64.wrap (F0+1))),⟨hm,o.hs,u⟩,Nat.lt_succ_self _⟩
 refine tn<|th<|cfv o rfl I0<|we<|tx<|tx<|bx<|tn<|?_
 exact ⟨hm,o.has trivial,u⟩
 rintro a w ⟨hm,o,u⟩
 unfold Za2 at hm
 refine th<|rg<|qa o rfl λo=>re<|tn<|wr<|?_
 obtain rfl:=si hm
 exact r1 o results129 rfl ⟨rfl,u.keep⟩
theorem JaU (hH:H.le w0) (hT:Tab H) {D0:Option Addr} {C0:Nat} {p1:(List (List api_Cell))} (E0:p1.length≤C0) (F0:SR H D0 p1) {r:Bool} (hm:Z9q N p1=some r):Tot Tryz.prog 88 #[SL D0 p1 C0,.func (.func 79) #[] #[]] w0 (λv w'=>v=.bool r∧Keep Nil w0 w'):=by
 unfold Z9q at hm
 refine fn0 func88 rfl ntmps88 rfl rfl λa o=>?_
 have u:St w0 Nil [H] [] w0:=start1 hH
 refine th<|rg<|qa o rfl λo=>re<|tn<|th<|?_
 obtain ⟨G0,h7,hm⟩:=bs hm
 refine rg<|qm o rfl λo=>qm o rfl λo=>ls<|cr o call129 (Jbn (Ai _) (Tab.mono hT (St.up u)) E0 (St.srH u F0) h7) u λu o=>qv o (Bl o rfl rfl) λo=>qa o rfl λo=>re<|tn<|wr<|?_
 obtain rfl:=si hm
 exact r1 o results88 rfl ⟨rfl,u.keep⟩
theorem Ja7 (hH:H.le w0) (hT:Tab H) {p1:Str} {r:Bool} (hm:Z97 N p1=some r):Tot Tryz.prog 122 #[Ac p1] w0 (λv w'=>v=.bool r∧Keep Nil w0 w'):=by
 unfold Z97 at hm
 refine fn0 func122 rfl ntmps122 rfl rfl λa o=>?_
 have u:St w0 Nil [H] [] w0:=start1 hH
 refine th<|rg<|qa o rfl λo=>re<|tn<|th<|?_
 obtain ⟨C0,h3,hm⟩:=bs hm
 refine rg<|qm o rfl λo=>ls<|cr o call82 (Lj (Ai _) (Tab.mono hT (St.up u)) h3) u λu o=>qv o (Ba o rfl) λo=>qa o rfl λo=>re<|tn<|wr<|?_
 obtain rfl:=si hm
 exact r1 o results122 rfl ⟨rfl,u.keep⟩
theorem JaO (hH:H.le w0) (hT:Tab H) {G0:Option Addr} {D0:Nat} {p1:(List Str)} (_:p1.length≤D0) (J0:SR H G0 p1) {r:Int} (hm:Zas N p1=some r):Tot Tryz.prog 154 #[SL G0 p1 D0,.func (.func 122) #[] #[]] w0 (λv w'=>v=i6 r∧Keep Nil w0 w'):=by
 unfold Zas at hm
 refine fn0 func154 rfl ntmps154 rfl rfl λa o=>?_
 have u:St w0 Nil [H] [] w0:=start1 hH
 refine th<|rg<|qa o rfl λo=>re<|tn<|th<|th<|rg<|qm o rfl λo=>qv o (Ak (α:=Str) (xs:=p1) o runUnderlying36 rfl) λo=>qm o rfl λo=>re<|tn<|Av (λa w=>Zat=some r∧Fr 19 [] a∧St w0 Nil [H] [] w) ?_ ?_
 refine wb<|lp (α:=Nat×Int) (λgh a w=>match gh with | (C0,F0)=>(Zau N Zat p1) C0 F0=some r∧Fr 19 [(0,SL G0 p1 D0),(1,.func (.func 122) #[] #[]),(7,i6 (p1.length:Int)),(8,i6 F0)] a∧St w0 Nil [H] [] w) (λgh=>gh.1) (N,0) ⟨hm,o.hs,u⟩ ?_
 rintro ⟨C0,F0⟩ a w ⟨hm,o,u⟩
 obtain _ | C0:=C0
 simp [Zau] at hm
 rw [Zau] at hm
 refine th<|rg<|qv o (Ao o rfl rfl) λo=>re<|?_
 rcases bip hm with ⟨I0,hm⟩ | ⟨I0,hm⟩
 refine tn<|th<|ctv o rfl I0<|wk<|tn<|th<|wb<|th<|rg<|qm o rfl λo=>qa o rfl λo=>re<|tn<|th<|?_
 obtain ⟨K0,h8,hm⟩:=bs hm
 obtain ⟨cz9,O0,M0⟩:=SR.get J0 h8
 obtain rfl:cz9=[Ac K0]:=O0
 obtain ⟨Q0,P0,hm⟩:=bs hm
 refine rg<|qm o rfl λo=>?_
 iterate 2 refine qm o rfl λo=>?_
 refine qv o (Am o runUnderlying36 sizeOf9 rfl rfl h8 (SR.oaI J0 (by decide) h8)) λo=>qv o (Ag o isAgg9 rfl (PH.le.cell (Lds.le u.ld) (M0 0 _ rfl))) λo=>ls<|k1 (vs:=[Ac K0]) (caps:=[]) o rfl rfl call122 (Ja7 (Ai _) (Tab.mono hT (St.up u)) P0) ⟨rfl,trivial⟩ rfl (λv w a hR o=>?_)
 obtain ⟨rfl,hk⟩:=hR
 replace u:=u.pass hk
 refine re<|?_
 rcases bit hm with ⟨E0,hm⟩ | ⟨E0,hm⟩
 refine tn<|ctv o rfl E0<|th<|rg<|qm o rfl λo=>qa o rfl λo=>re<|tn<|wr<|br<|tr<|tr<|br<|tr<|?_
 obtain rfl:=si hm
 exact r1 o results154 rfl ⟨rfl,u.keep⟩
 refine tn<|cfv o rfl E0<|wk<|bn<|tn<|rg<|qv o (Ap o rfl rfl) λo=>qm o rfl λo=>re<|tn<|?_
 exact ⟨(C0,(IntKind.i64.wrap (F0+1))),⟨hm,o.hs,u⟩,Nat.lt_succ_self _⟩
 refine tn<|th<|cfv o rfl I0<|we<|tx<|tx<|bx<|tn<|?_
 exact ⟨hm,o.has trivial,u⟩
 rintro a w ⟨hm,o,u⟩
 unfold Zat at hm
 refine th<|rg<|qa o rfl λo=>re<|tn<|wr<|?_
 obtain rfl:=si hm
 exact r1 o results154 rfl ⟨rfl,u.keep⟩
theorem Xw (hH:H.le w0) (hT:Tab H) {D0:Option Addr} {C0:Nat} {p1:(List Str)} (E0:p1.length≤C0) (F0:SR H D0 p1) {r:Bool} (hm:Z9z N p1=some r):Tot Tryz.prog 123 #[SL D0 p1 C0,.func (.func 122) #[] #[]] w0 (λv w'=>v=.bool r∧Keep Nil w0 w'):=by
 unfold Z9z at hm
 refine fn0 func123 rfl ntmps123 rfl rfl λa o=>?_
 have u:St w0 Nil [H] [] w0:=start1 hH
 refine th<|rg<|qa o rfl λo=>re<|tn<|th<|?_
 obtain ⟨G0,h7,hm⟩:=bs hm
 refine rg<|qm o rfl λo=>qm o rfl λo=>ls<|cr o call154 (JaO (Ai _) (Tab.mono hT (St.up u)) E0 (St.srH u F0) h7) u λu o=>qv o (Bl o rfl rfl) λo=>qa o rfl λo=>re<|tn<|wr<|?_
 obtain rfl:=si hm
 exact r1 o results123 rfl ⟨rfl,u.keep⟩
theorem JaS (hH:H.le w0)  {r:(Arr 15 Str)} (hm:Zb9 N  = some r):Tot Tryz.prog 163 #[] w0 (λv w'=>∃ (H':PH) (cs0:List Value),v=.agg cs0.toArray∧Enc.rep H' cs0 r∧Ext w0 H H'∧H'.le w'∧Keep Nil w0 w'):=by
 unfold Zb9 at hm
 refine fn0 func163 rfl ntmps163 rfl rfl λa o=>?_
 have u:St w0 Nil [H] [] w0:=start1 hH
 refine th<|rg<|ls<|Au (cs:=[Ac [],Ac [],Ac [],Ac [],Ac [],Ac [],Ac [],Ac [],Ac [],Ac [],Ac [],Ac [],Ac [],Ac [],Ac []].toArray) o rfl u Tryz.zeroValue176 rfl λb1 w a u o=>re<|tn<|th<|rg<|qv o (Bp [Ac [114,101],Ac [114,110],Ac [110,101],Ac [114,110,101,102],Ac [110],Ac [110],Ac [110],Ac [110],Ac [101,98],Ac [107,98],Ac [101]] [Ac [],Ac [114,101],Ac [114,110],Ac [110,101],Ac [114,110,101,102],Ac [110],Ac [110],Ac [],Ac [],Ac [110],Ac [110],Ac [101,98],Ac [107,98],Ac [],Ac [101]] o ⟨rfl,rfl,rfl,rfl,rfl,rfl,rfl,rfl,rfl,rfl,rfl,trivial⟩ (λw=>by kernel_rfl)) λo=>ls<|Az o u sizeOf176 rfl rfl rfl rfl (Al rfl) .head λw u=>re<|tn<|wr<|?_
 obtain rfl:=si hm
 exact r1c (vs:=[Ac [],Ac [114,101],Ac [114,110],Ac [110,101],Ac [114,110,101,102],Ac [110],Ac [110],Ac [],Ac [],Ac [110],Ac [110],Ac [101,98],Ac [107,98],Ac [],Ac [101]]) (.inl rfl) o results163 rfl isAgg176 sizeOf176 rfl (u.ld.cellsB t0) ⟨H,_,rfl,(show Enc.rep (α:=(Arr 15 Str)) H [Ac [],Ac [114,101],Ac [114,110],Ac [110,101],Ac [114,110,101,102],Ac [110],Ac [110],Ac [],Ac [],Ac [110],Ac [110],Ac [101,98],Ac [107,98],Ac [],Ac [101]] (⟨[[],[114,101],[114,110],[110,101],[114,110,101,102],[110],[110],[],[],[110],[110],[101,98],[107,98],[],[101]],rfl⟩:(Arr 15 Str)) from (.cons (c:=[Ac []]) rfl (.cons (c:=[Ac [114,101]]) rfl (.cons (c:=[Ac [114,110]]) rfl (.cons (c:=[Ac [110,101]]) rfl (.cons (c:=[Ac [114,110,101,102]]) rfl (.cons (c:=[Ac [110]]) rfl (.cons (c:=[Ac [110]]) rfl (.cons (c:=[Ac []]) rfl (.cons (c:=[Ac []]) rfl (.cons (c:=[Ac [110]]) rfl (.cons (c:=[Ac [110]]) rfl (.cons (c:=[Ac [101,98]]) rfl (.cons (c:=[Ac [107,98]]) rfl (.cons (c:=[Ac []]) rfl (.cons (c:=[Ac [101]]) rfl .nil)))))))))))))))),(Ext.refl _ _),(St.le u),u.keep⟩
theorem Jb4 (hH:H.le w0) {p1:Int} {r:Str} (hm:Zb1 N p1=some r):Tot Tryz.prog 145 #[i6 p1] w0 (λv w'=>v=Ac r∧Keep Nil w0 w'):=by
 unfold Zb1 at hm
 refine fn0 func145 rfl ntmps145 rfl rfl λa o=>?_
 have u:St w0 Nil [H] [] w0:=start1 hH
 refine th<|rg<|qa o rfl λo=>re<|tn<|th<|th<|rg<|qm o rfl λo=>qv o (Ao o rfl rfl) λo=>qm o rfl λo=>gr (Fk:=[(0,i6 p1),(8,.bool ((decide (p1 < 0)) || (decide (15≤p1))))]) 5 3 o u ?_ ?_ ?_
 intro hb o key
 iterate 2 refine qn o λo=>?_
 exact qk o (Ad o rfl rfl) key u hb
 intro hb o key
 exact qg o (Ab o rfl) λo=>qg o (Bl o rfl rfl) λo=>qk o (Ae o rfl rfl) key u hb
 intro a w o u
 refine re<|?_
 rcases bit hm with ⟨C0,hm⟩ | ⟨C0,hm⟩
 refine tn<|ctv o rfl C0<|th<|rg<|qa o rfl λo=>re<|tn<|wr<|tr<|?_
 obtain rfl:=si hm
 exact r1 o results145 rfl ⟨rfl,u.keep⟩
 refine tn<|cfv o rfl C0<|wk<|tn<|th<|?_
 obtain ⟨E0,h4,hm⟩:=bs hm
 obtain ⟨J0,F0,hm⟩:=bs hm
 refine rg<|ls<|c1 o rfl Tryz.call163 (JaS (St.le u) h4) trivial (λv w a hR o=>?_)
 obtain ⟨H8,cs9,rfl,K0,D0,M0,hk⟩:=hR
 obtain ⟨u,D0⟩:=And.intro (St.passH u hk D0 M0) (St.extc u D0)
 have G0:Rows H8 cs9 E0.l:=K0
 refine qm o rfl λo=>?_
 obtain ⟨O0,P0,I0⟩:=Rows.getI G0 F0
 obtain rfl:O0=[Ac J0]:=P0
 refine qv o (Jbx o runUnderlying176 sizeOf9 isAgg9 rfl rfl E0.h F0 (I0 0 _ rfl)) λo=>qa o rfl λo=>re<|tn<|wr<|?_
 obtain rfl:=si hm
 exact r1 o results145 rfl ⟨rfl,u.keep⟩
theorem Gt (hH:H.le w0) (hT:Tab H) {p1:Str} {y3:Str} {b2:Nat} (C0:H b2=some (.cells [Ac y3].toArray 9 (0,0))) {r:Bool} (hm:Zbb N p1 y3=some r):Tot Tryz.prog 146 #[Ac p1,PT b2] w0 (λv w'=>v=.bool r∧Keep Nil w0 w'):=by
 unfold Zbb at hm
 refine fn0 func146 rfl ntmps146 rfl rfl λa o=>?_
 have u:St w0 Nil [H] [] w0:=start1 hH
 refine th<|rg<|qa o rfl λo=>re<|tn<|th<|?_
 obtain ⟨D0,h6,hm⟩:=bs hm
 refine rg<|qv o (Ag o Tryz.isAgg9 rfl (PH.le.cell (Lds.le u.ld) (Gi C0 rfl))) λo=>qm o rfl λo=>ls<|cr o call147 (Jcf (Ai _) (Tab.mono hT (St.up u)) h6) u λu o=>qa o rfl λo=>re<|tn<|wr<|?_
 obtain rfl:=si hm
 exact r1 o results146 rfl ⟨rfl,u.keep⟩
theorem Ln (hH:H.le w0) (hT:Tab H) {p1:Bool} {p2:Str} {r:Bool} (hm:Zbc N p1 p2=some r):Tot Tryz.prog 148 #[.bool p1,Ac p2] w0 (λv w'=>v=.bool r∧Keep Nil w0 w'):=by
 unfold Zbc at hm
 refine fn0 func148 rfl ntmps148 rfl rfl λa o=>?_
 have u:St w0 Nil [H] [] w0:=start1 hH
 refine th<|rg<|qa o rfl λo=>re<|tn<|th<|?_
 rcases bit hm with ⟨C0,hm⟩ | ⟨C0,hm⟩
 obtain ⟨D0,h5,hm⟩:=bs hm
 refine rg<|qm o rfl λo=>qv o (Ar (Ab o rfl) (congrArg Value.bool C0)) λo=>qg o (Ab o rfl) λo=>ls<|gy o rfl rfl<|cr o call82 (Lj (Ai _) (Tab.mono hT (St.up u)) h5) u λu o=>qv o (Ad o rfl rfl) λo=>qm o rfl λo=>gr (Fk:=[(17,.bool (D0 || ((!p1) && (decide (p2=[])))))]) 10 7 o u ?_ ?_ ?_
 intro hb o key
 iterate 3 refine qn o λo=>?_
 iterate 2 refine ls<|gnu o rfl rfl rfl λa o=>?_
 exact qn o λo=>qk o (Ad o rfl rfl) key u hb
 intro hb o key
 refine qg o (Ab o rfl) λo=>qg o (Ba o rfl) λo=>qg o (Ab o rfl) λo=>gr (Fk:=[(10,.bool false),(16,.bool ((!p1) && (decide (p2=[]))))]) 13 3 o u ?_ ?_ ?_
 intro hb o key
 exact qg o (Ab o rfl) λo=>qg o (Eg (m:=p2) (n:=[]) o rfl rfl) λo=>ql o (Ad o rfl rfl) key u hb
 intro hb o key
 iterate 2 refine qn o λo=>?_
 exact ql o (Ae o rfl rfl) key u hb
 intro a w o u
 exact qk o (Ae o rfl rfl) key u hb
 intro a w o u
 refine qa o rfl λo=>re<|tn<|wr<|?_
 obtain rfl:=si hm
 exact r1 o results148 rfl ⟨rfl,u.keep⟩
 refine rg<|qm o rfl λo=>qv o (Ar (Ab o rfl) (congrArg Value.bool C0)) λo=>?_
 iterate 2 refine qn o λo=>?_
 refine qv o (Ae o rfl rfl) λo=>qm o rfl λo=>qg o (Ab o rfl) λo=>qg o (Ba o rfl) λo=>qg o (Ab o rfl) λo=>gr (Fk:=[(10,.bool false),(16,.bool ((!p1) && (decide (p2=[]))))]) 13 3 o u ?_ ?_ ?_
 intro hb o key
 exact qg o (Ab o rfl) λo=>qg o (Eg (m:=p2) (n:=[]) o rfl rfl) λo=>ql o (Ad o rfl rfl) key u hb
 intro hb o key
 iterate 2 refine qn o λo=>?_
 exact ql o (Ae o rfl rfl) key u hb
 intro a w o u
 refine qv o (Ae o rfl rfl) λo=>qa o rfl λo=>re<|tn<|wr<|?_
 obtain rfl:=si hm
 exact r1 o results148 rfl ⟨rfl,u.keep⟩
theorem Jca (hH:H.le w0) (hT:Tab H) {p1:api_Node} {r:Bool} (hm:Zc N p1=some r):Tot Tryz.prog 125 #[.agg #[i6 p1.Op,i6 p1.N,Ac p1.Name,i6 p1.At]] w0 (λv w'=>v=.bool r∧Keep Nil w0 w'):=by
 unfold Zc at hm
 refine fn0 func125 rfl ntmps125 rfl rfl λa o=>?_
 have u:St w0 Nil [H] [] w0:=start1 hH
 refine th<|rg<|ls<|Br (cs:=[i6 p1.Op,i6 p1.N,Ac p1.Name,i6 p1.At].toArray) o rfl u rfl rfl λb2 w a u o=>qa o rfl λo=>re<|tn<|th<|wb<|th<|rg<|qv o (Af o Fg rfl) λo=>qv o (Ag o isAgg3 rfl (u.ld.cellB t0 rfl)) λo=>qv o (Ao o rfl rfl) λo=>qm o rfl λo=>gr (Fk:=[(1,PT b2),(11,.bool ((decide (p1.At < 0)) || (decide (4000 < p1.At))))]) 7 4 o u ?_ ?_ ?_
 intro hb o key
 iterate 3 refine qn o λo=>?_
 exact qk o (Ad o rfl rfl) key u hb
 intro hb o key
 exact qg o (Af o Fg rfl) λo=>qg o (Ag o isAgg3 rfl (u.ld.cellB t0 rfl)) λo=>qg o (Bd o rfl rfl) λo=>qk o (Ae o rfl rfl) key u hb
 intro a w o u
 refine qa o rfl λo=>re<|?_
 rcases bit hm with ⟨C0,hm⟩ | ⟨C0,hm⟩
 refine tn<|ctv o rfl C0<|th<|rg<|qa o rfl λo=>re<|tn<|wr<|br<|tr<|?_
 obtain rfl:=si hm
 exact r1 o results125 rfl ⟨rfl,u.keep⟩
 refine tn<|cfv o rfl C0<|th<|rg<|qv o (Af o Cm rfl) λo=>qv o (Ag o isAgg3 rfl (u.ld.cellB t0 rfl)) λo=>qv o (An o rfl rfl) λo=>qa o rfl λo=>re<|?_
 rcases bip hm with ⟨D0,hm⟩ | ⟨D0,hm⟩
 refine tn<|ctv o rfl D0<|th<|rg<|qv o (Af o Ec rfl) λo=>qv o (Ag o isAgg3 rfl (u.ld.cellB t0 rfl)) λo=>qv o (Bl o rfl rfl) λo=>qm o rfl λo=>gr (Fk:=[(1,PT b2),(23,.bool ((decide (0≤p1.N)) && (decide (p1.N≤4294967296))))]) 19 4 o u ?_ ?_ ?_
 intro hb o key
 exact qg o (Af o Ec rfl) λo=>qg o (Ag o isAgg3 rfl (u.ld.cellB t0 rfl)) λo=>qg o (Dc o rfl rfl) λo=>qk o (Ad o rfl rfl) key u hb
 intro hb o key
 iterate 3 refine qn o λo=>?_
 exact qk o (Ae o rfl rfl) key u hb
 intro a w o u
 refine qm o rfl λo=>gr (Fk:=[(28,.bool (((decide (0≤p1.N)) && (decide (p1.N≤4294967296))) && (decide (p1.Name=[]))))]) 24 4 o u ?_ ?_ ?_
 intro hb o key
 exact qg o (Af o Ek rfl) λo=>qg o (Ag o isAgg9 rfl (u.ld.cellB t0 rfl)) λo=>qg o (Eg (m:=p1.Name) (n:=[]) o rfl rfl) λo=>qk o (Ad o rfl rfl) key u hb
 intro hb o key
 iterate 3 refine qn o λo=>?_
 exact qk o (Ae o rfl rfl) key u hb
 intro a w o u
 refine qa o rfl λo=>re<|tn<|wr<|br<|tr<|?_
 obtain rfl:=si hm
 exact r1 o results125 rfl ⟨rfl,u.keep⟩
 refine tn<|cfv o rfl D0<|th<|rg<|qv o (Af o Cm rfl) λo=>qv o (Ag o isAgg3 rfl (u.ld.cellB t0 rfl)) λo=>qv o (An o rfl rfl) λo=>qa o rfl λo=>re<|?_
 rcases bip hm with ⟨E0,hm⟩ | ⟨E0,hm⟩
 refine tn<|ctv o rfl E0<|th<|?_
 rcases bip hm with ⟨F0,hm⟩ | ⟨F0,hm⟩
 obtain ⟨G0,h8,hm⟩:=bs hm
 refine rg<|qv o (Af o Ec rfl) λo=>qv o (Ag o isAgg3 rfl (u.ld.cellB t0 rfl)) λo=>qv o (An o rfl rfl) λo=>qv o (Ar (Ab o rfl) (congrArg Value.bool F0)) λo=>qg o (Af o Ek rfl) λo=>qg o (Ag o isAgg9 rfl (u.ld.cellB t0 rfl)) λo=>ls<|gy o rfl rfl<|cr o call82 (Lj (Ai _) (Tab.mono hT (St.up u)) h8) u λu o=>qv o (Ad o rfl rfl) λo=>qa o rfl λo=>re<|tn<|wr<|br<|tr<|?_
 obtain rfl:=si hm
 exact r1 o results125 rfl ⟨rfl,u.keep⟩
 refine rg<|qv o (Af o Ec rfl) λo=>qv o (Ag o isAgg3 rfl (u.ld.cellB t0 rfl)) λo=>qv o (An o rfl rfl) λo=>qv o (Ar (Ab o rfl) (congrArg Value.bool F0)) λo=>?_
 iterate 3 refine qn o λo=>?_
 refine qv o (Ae o rfl rfl) λo=>qa o rfl λo=>re<|tn<|wr<|br<|tr<|?_
 obtain rfl:=si hm
 exact r1 o results125 rfl ⟨rfl,u.keep⟩
 refine tn<|cfv o rfl E0<|wk<|bn<|tn<|th<|rg<|qv o (Af o Ec rfl) λo=>qv o (Ag o isAgg3 rfl (u.ld.cellB t0 rfl)) λo=>qv o (An o rfl rfl) λo=>qm o rfl λo=>gr (Fk:=[(48,.bool ((decide (p1.N=0)) && (decide (p1.Name=[]))))]) 44 4 o u ?_ ?_ ?_
 intro hb o key
 exact qg o (Af o Ek rfl) λo=>qg o (Ag o isAgg9 rfl (u.ld.cellB t0 rfl)) λo=>qg o (Eg (m:=p1.Name) (n:=[]) o rfl rfl) λo=>qk o (Ad o rfl rfl) key u hb
 intro hb o key
 iterate 3 refine qn o λo=>?_
 exact qk o (Ae o rfl rfl) key u hb
 intro a w o u
 refine qa o rfl λo=>re<|tn<|wr<|?_
 obtain rfl:=si hm
 exact r1 o results125 rfl ⟨rfl,u.keep⟩
theorem Jch (hH:H.le w0) (hT:Tab H) {p1:api_Node} {r:Bool} (hm:Z6 N p1=some r):Tot Tryz.prog 124 #[.agg #[i6 p1.Op,i6 p1.N,Ac p1.Name,i6 p1.At]] w0 (λv w'=>v=.bool r∧Keep Nil w0 w'):=by
 unfold Z6 at hm
 refine fn0 func124 rfl ntmps124 rfl rfl λa o=>?_
 have u:St w0 Nil [H] [] w0:=start1 hH
 refine th<|rg<|ls<|Br (cs:=[i6 p1.Op,i6 p1.N,Ac p1.Name,i6 p1.At].toArray) o rfl u rfl rfl λb2 w a u o=>qa o rfl λo=>re<|tn<|th<|?_
 obtain ⟨C0,h4,hm⟩:=bs hm
 refine rg<|qv o (Ay o Tryz.isAgg90 Tryz.sizeOf90 rfl rfl (u.ld.cellsB t0)) λo=>ls<|cr o call125 (Jca (Ai _) (Tab.mono hT (St.up u)) h4) u λu o=>qv o (Ba o rfl) λo=>qa o rfl λo=>re<|tn<|wr<|?_
 obtain rfl:=si hm
 exact r1 o results124 rfl ⟨rfl,u.keep⟩
theorem JbR (hH:H.le w0) (hT:Tab H) {I0:Option Addr} {D0:Nat} {p1:(List api_Node)} (_:p1.length≤D0) (K0:SR H I0 p1) {r:Int} (hm:Zad N p1=some r):Tot Tryz.prog 155 #[SL I0 p1 D0,.func (.func 124) #[] #[]] w0 (λv w'=>v=i6 r∧Keep Nil w0 w'):=by
 unfold Zad at hm
 refine fn0 func155 rfl ntmps155 rfl rfl λa o=>?_
 have u:St w0 Nil [H] [] w0:=start1 hH
 refine th<|rg<|qa o rfl λo=>re<|tn<|th<|th<|rg<|qm o rfl λo=>qv o (Ak (α:=api_Node) (xs:=p1) o runUnderlying49 rfl) λo=>qm o rfl λo=>re<|tn<|Av (λa w=>Zae=some r∧Fr 19 [] a∧St w0 Nil [H] [] w) ?_ ?_
 refine wb<|lp (α:=Nat×Int) (λgh a w=>match gh with | (C0,F0)=>(Zaf N Zae p1) C0 F0=some r∧Fr 19 [(0,SL I0 p1 D0),(1,.func (.func 124) #[] #[]),(7,i6 (p1.length:Int)),(8,i6 F0)] a∧St w0 Nil [H] [] w) (λgh=>gh.1) (N,0) ⟨hm,o.hs,u⟩ ?_
 rintro ⟨C0,F0⟩ a w ⟨hm,o,u⟩
 obtain _ | C0:=C0
 simp [Zaf] at hm
 rw [Zaf] at hm
 refine th<|rg<|qv o (Ao o rfl rfl) λo=>re<|?_
 rcases bip hm with ⟨J0,hm⟩ | ⟨J0,hm⟩
 refine tn<|th<|ctv o rfl J0<|wk<|tn<|th<|wb<|th<|rg<|qm o rfl λo=>qa o rfl λo=>re<|tn<|th<|?_
 obtain ⟨G0,h8,hm⟩:=bs hm
 obtain ⟨cz9,O0,M0⟩:=SR.get K0 h8
 obtain rfl:=Bn O0
 obtain ⟨Q0,P0,hm⟩:=bs hm
 refine rg<|qm o rfl λo=>?_
 iterate 2 refine qm o rfl λo=>?_
 refine qv o (Am o runUnderlying49 sizeOf90 rfl rfl h8 (SR.oaI K0 (by decide) h8)) λo=>qv o (Ay o isAgg90 sizeOf90 rfl rfl (λj v hj=>PH.le.cell (Lds.le u.ld) (M0 j v hj))) λo=>ls<|k1 (vs:=[.agg #[i6 G0.Op,i6 G0.N,Ac G0.Name,i6 G0.At]]) (caps:=[]) o rfl rfl call124 (Jch (Ai _) (Tab.mono hT (St.up u)) P0) ⟨rfl,trivial⟩ rfl (λv w a hR o=>?_)
 obtain ⟨rfl,hk⟩:=hR
 replace u:=u.pass hk
 refine re<|?_
 rcases bit hm with ⟨E0,hm⟩ | ⟨E0,hm⟩
 refine tn<|ctv o rfl E0<|th<|rg<|qm o rfl λo=>qa o rfl λo=>re<|tn<|wr<|br<|tr<|tr<|br<|tr<|?_
 obtain rfl:=si hm
 exact r1 o results155 rfl ⟨rfl,u.keep⟩
 refine tn<|cfv o rfl E0<|wk<|bn<|tn<|rg<|qv o (Ap o rfl rfl) λo=>qm o rfl λo=>re<|tn<|?_
 exact ⟨(C0,(IntKind.i64.wrap (F0+1))),⟨hm,o.hs,u⟩,Nat.lt_succ_self _⟩
 refine tn<|th<|cfv o rfl J0<|we<|tx<|tx<|bx<|tn<|?_
 exact ⟨hm,o.has trivial,u⟩
 rintro a w ⟨hm,o,u⟩
 unfold Zae at hm
 refine th<|rg<|qa o rfl λo=>re<|tn<|wr<|?_
 obtain rfl:=si hm
 exact r1 o results155 rfl ⟨rfl,u.keep⟩
theorem Xr (hH:H.le w0) (hT:Tab H) {D0:Option Addr} {C0:Nat} {p1:(List api_Node)} (E0:p1.length≤C0) (F0:SR H D0 p1) {r:Bool} (hm:Z9u N p1=some r):Tot Tryz.prog 126 #[SL D0 p1 C0,.func (.func 124) #[] #[]] w0 (λv w'=>v=.bool r∧Keep Nil w0 w'):=by
 unfold Z9u at hm
 refine fn0 func126 rfl ntmps126 rfl rfl λa o=>?_
 have u:St w0 Nil [H] [] w0:=start1 hH
 refine th<|rg<|qa o rfl λo=>re<|tn<|th<|?_
 obtain ⟨G0,h7,hm⟩:=bs hm
 refine rg<|qm o rfl λo=>qm o rfl λo=>ls<|cr o call155 (JbR (Ai _) (Tab.mono hT (St.up u)) E0 (St.srH u F0) h7) u λu o=>qv o (Bl o rfl rfl) λo=>qa o rfl λo=>re<|tn<|wr<|?_
 obtain rfl:=si hm
 exact r1 o results126 rfl ⟨rfl,u.keep⟩
theorem Yx (hH:H.le w0) {p1:Int} {r:Int} (hm:Zb N p1=some r):Tot Tryz.prog 156 #[i6 p1] w0 (λv w'=>v=i6 r∧Keep Nil w0 w'):=by
 unfold Zb at hm
 refine fn0 func156 rfl ntmps156 rfl rfl λa o=>?_
 have u:St w0 Nil [H] [] w0:=start1 hH
 refine th<|rg<|qa o rfl λo=>re<|tn<|th<|wb<|th<|rg<|qm o rfl λo=>qv o (An o rfl rfl) λo=>qm o rfl λo=>gr (Fk:=[(0,i6 p1),(9,.bool ((decide (p1=1)) || (decide (p1=2))))]) 6 3 o u ?_ ?_ ?_
 intro hb o key
 iterate 2 refine qn o λo=>?_
 exact qk o (Ad o rfl rfl) key u hb
 intro hb o key
 exact qg o (Ab o rfl) λo=>qg o (An o rfl rfl) λo=>qk o (Ae o rfl rfl) key u hb
 intro a w o u
 refine qa o rfl λo=>re<|?_
 rcases bit hm with ⟨C0,hm⟩ | ⟨C0,hm⟩
 refine tn<|ctv o rfl C0<|th<|rg<|qa o rfl λo=>re<|tn<|wr<|br<|tr<|?_
 obtain rfl:=si hm
 exact r1 o results156 rfl ⟨rfl,u.keep⟩
 refine tn<|cfv o rfl C0<|th<|rg<|qm o rfl λo=>qv o (An o rfl rfl) λo=>qm o rfl λo=>gr (Fk:=[(0,i6 p1),(16,.bool ((decide (p1=3)) || (decide (p1=4))))]) 13 3 o u ?_ ?_ ?_
 intro hb o key
 iterate 2 refine qn o λo=>?_
 exact qk o (Ad o rfl rfl) key u hb
 intro hb o key
 exact qg o (Ab o rfl) λo=>qg o (An o rfl rfl) λo=>qk o (Ae o rfl rfl) key u hb
 intro a w o u
 refine qa o rfl λo=>re<|?_
 rcases bit hm with ⟨D0,hm⟩ | ⟨D0,hm⟩
 refine tn<|ctv o rfl D0<|th<|rg<|qa o rfl λo=>re<|tn<|wr<|br<|tr<|?_
 obtain rfl:=si hm
 exact r1 o results156 rfl ⟨rfl,u.keep⟩
 refine tn<|cfv o rfl D0<|th<|rg<|qm o rfl λo=>qv o (Bl o rfl rfl) λo=>qm o rfl λo=>gr (Fk:=[(23,.bool ((decide (5≤p1)) && (decide (p1≤15))))]) 20 3 o u ?_ ?_ ?_
 intro hb o key
 exact qg o (Ab o rfl) λo=>qg o (Dc o rfl rfl) λo=>qk o (Ad o rfl rfl) key u hb
 intro hb o key
 iterate 2 refine qn o λo=>?_
 exact qk o (Ae o rfl rfl) key u hb
 intro a w o u
 refine qa o rfl λo=>re<|?_
 rcases bit hm with ⟨E0,hm⟩ | ⟨E0,hm⟩
 refine tn<|ctv o rfl E0<|th<|rg<|qa o rfl λo=>re<|tn<|wr<|br<|tr<|?_
 obtain rfl:=si hm
 exact r1 o results156 rfl ⟨rfl,u.keep⟩
 refine tn<|cfv o rfl E0<|wk<|bn<|tn<|th<|rg<|qa o rfl λo=>re<|tn<|wr<|?_
 obtain rfl:=si hm
 exact r1 o results156 rfl ⟨rfl,u.keep⟩
end Go.LM.LB
