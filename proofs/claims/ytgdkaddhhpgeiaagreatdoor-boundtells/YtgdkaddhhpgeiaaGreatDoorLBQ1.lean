/- Walks, lifted by program. No condition beyond the theorems' own premises. -/
import Derived.Test.YtgdkaddhhpgeiaaGreatDoorLBB
import Derived.Test.YtgdkaddhhpgeiaaGreatDoorLZ
namespace Go.LM.LB
open Go Go.LL Go.MD Go.LM Go.Proofs Go.MD.LB Go.Proofs.Tryz
set_option maxRecDepth 100000
variable {N:Nat} {w0:World} {H:PH}
theorem Mu (hH:H.le w0) {S0:Option Addr} {I0:Nat} {p1:(List api_Cell)} (Q1:p1.length≤I0) (Y0:SR H S0 p1) {r:(List api_Cell)} (hm:Z1d N p1=some r):Tot Tryz.prog 46 #[SL S0 p1 I0] w0 (λv w'=>∃ (j0:Option Addr) (T0:Nat) (n0:List Value),v=SL j0 r T0∧(∀ h,Rows h n0 r)∧Fresh w0 (sla 53 3 j0 r.length T0 n0) w'):=by
 unfold Z1d at hm
 refine fn0 func46 rfl ntmps46 rfl rfl λa o=>?_
 have u:St w0 Nil [H] [] w0:=start1 hH
 refine th<|rg<|qa o rfl λo=>re<|tn<|th<|rg<|ls<|Bi (e:=53) (sz:=3) [] o rfl u rfl rfl rfl (λw=>by kernel_rfl) λb7 w a u o=>?_
 have I1:Rows (α:=api_Cell) H [] []:=.nil
 refine qa o rfl λo=>re<|tn<|th<|th<|rg<|qa o rfl λo=>re<|tn<|Au (λa w=>∃ (M0:(List api_Cell)) (Q0:Option Addr) (J0:Nat) (R0:List Value),Z1e M0=some r∧Fr 34 [(3,SL Q0 M0 J0)] a∧St w0 Nil [H] [sla 53 3 Q0 M0.length J0 R0] w∧Rows H R0 M0) ?_ ?_
 refine wb<|lp (α:=Nat×(List api_Cell)×Int) (λgh a w=>match gh with | (O0,E0,F0)=>∃ (G0:Option Addr) (D0:Nat) (K0:List Value),(Z1f N Z1e p1) O0 E0 F0=some r∧Fr 34 [(0,SL S0 p1 I0),(3,SL G0 E0 D0),(4,i6 F0)] a∧St w0 Nil [H] [sla 53 3 G0 E0.length D0 K0] w∧Rows H K0 E0) (λgh=>gh.1) (N,[],0) ⟨(some ⟨b7,0,none⟩),0,[],hm,o.hs,u,I1⟩ ?_
 rintro ⟨O0,E0,F0⟩ a w ⟨G0,D0,K0,hm,o,u,U0⟩
 obtain _ | O0:=O0
 simp [Z1f] at hm
 rw [Z1f] at hm
 refine th<|th<|rg<|qm o rfl λo=>qm o rfl λo=>qv o (Ak (α:=api_Cell) (xs:=p1) o runUnderlying23 rfl) λo=>qv o (Ap o rfl rfl) λo=>qm o rfl λo=>gr (Fk:=[(0,SL S0 p1 I0),(3,SL G0 E0 D0),(4,i6 F0),(14,.bool ((decide (F0 < (p1.length:Int))) && (decide (F0 < 8))))]) 11 3 o u ?_ ?_ ?_
 intro hb o key
 exact qg o (Ab o rfl) λo=>qg o (Ap o rfl rfl) λo=>qk o (Ad o rfl rfl) key u hb
 intro hb o key
 iterate 2 refine qn o λo=>?_
 exact qk o (Ae o rfl rfl) key u hb
 intro a w o u
 refine re<|?_
 rcases bit hm with ⟨V0,hm⟩ | ⟨V0,hm⟩
 refine tn<|ctv o rfl V0<|wk<|tn<|th<|wb<|th<|?_
 obtain ⟨C0,W0,hm⟩:=bs hm
 obtain ⟨R1,J1,u0⟩:=SR.get Y0 W0
 obtain rfl:=Bu J1
 refine rg<|qm o rfl λo=>qm o rfl λo=>qv o (Ao o runUnderlying23 sizeOf53 rfl rfl W0 (SR.oaI Y0 (by decide) W0)) λo=>qv o (Ax o isAgg53 sizeOf53 rfl rfl (λj v hj=>PH.le.cell (Lds.le u.ld) (u0 j v hj))) λo=>ls<|Av (cs:=[Ac [],i6 0,i6 0].toArray) o rfl u zeroValue53 rfl λS1 w a u o=>ls<|Aw o u sizeOf53 rfl rfl rfl rfl (Al rfl) .head λw u=>re<|tn<|th<|?_
 obtain ⟨P0,M1,hm⟩:=bs hm
 refine rg<|qv o (Af o Er rfl) λo=>qv o (Ag o isAgg9 rfl (u.ld.cellB t0 rfl)) λo=>qv o (Af o Er rfl) λo=>qv o (Ag o isAgg9 rfl (u.ld.cellB t0 rfl)) λo=>qv o (Bp (s:=C0.Name) o runUnderlying9 rfl) λo=>qv o (Lk o rfl rfl) λo=>qv o (Hf (s:=C0.Name) (vl:=0) (vh:=(min (C0.Name.length:Int) 40)) o runUnderlying9 rfl rfl rfl M1) λo=>qv o (Af o Er rfl) λo=>ls<|Ay o u sizeOf9 rfl rfl rfl rfl .head .zero λw u=>re<|tn<|?_
 obtain ⟨O1,P1,hm⟩:=bs hm
 refine rg<|qm o rfl λo=>qv o (Ax o isAgg53 sizeOf53 rfl rfl (u.ld.cellsB t0)) λo=>ls<|Bi (e:=53) (sz:=3) [Ac P0,i6 C0.N,i6 C0.At] o rfl u rfl rfl rfl (λw=>by kernel_rfl) λT1 w a u o=>?_
 have B1:Rows (α:=api_Cell) H [Ac P0,i6 C0.N,i6 C0.At] ([(api_Cell.mk P0 C0.N C0.At)]:List api_Cell):=(.cons (c:=[Ac P0,i6 C0.N,i6 C0.At]) ⟨_,_,rfl,rfl,⟨_,_,rfl,rfl,rfl⟩⟩ .nil)
 refine ls<|Cc (α:=api_Cell) (xs:=E0) (ys:=([(api_Cell.mk P0 C0.N C0.At)]:List api_Cell)) o rfl u underlying23 Gr rfl (by decide) rfl rfl rfl t2 U0 (u.rdO t0) B1 P1 λC1 X0 E1 w a F1 hU o=>?_
 replace u:=hU _ (.tail (.tail .head))
 replace u:=u.drop .head
 refine qa o rfl λo=>re<|bn<|tn<|rg<|qm o rfl λo=>qv o (Am o rfl rfl) λo=>qa o rfl λo=>re<|tn<|?_
 replace u:=u.pk [1] rfl
 exact ⟨(O0,O1,(IntKind.i64.wrap (F0+1))),⟨C1,X0,E1,hm,o.hs,u,F1⟩,Nat.lt_succ_self _⟩
 refine tn<|cfv o rfl V0<|we<|tx<|tx<|bx<|tn<|?_
 exact ⟨E0,G0,D0,K0,hm,o.has ⟨rfl,trivial⟩,u,U0⟩
 rintro a w ⟨M0,Q0,J0,R0,hm,o,u,G1⟩
 unfold Z1e at hm
 refine th<|rg<|qm o rfl λo=>qa o rfl λo=>re<|tn<|wr<|?_
 obtain rfl:=si hm
 exact r1 o results46 rfl ⟨_,_,_,rfl,(λ_=>Rows.ind G1),u.endFresh t0⟩
theorem Up (hH:H.le w0) {S0:Option Addr} {I0:Nat} {p1:(List api_Node)} (_:p1.length≤I0) (Y0:SR H S0 p1) {r:(List api_Node)} (hm:Z11 N p1=some r):Tot Tryz.prog 48 #[SL S0 p1 I0] w0 (λv w'=>∃ (j0:Option Addr) (T0:Nat) (n0:List Value),v=SL j0 r T0∧(∀ h,Rows h n0 r)∧Fresh w0 (sla 90 4 j0 r.length T0 n0) w'):=by
 unfold Z11 at hm
 refine fn0 func48 rfl ntmps48 rfl rfl λa o=>?_
 have u:St w0 Nil [H] [] w0:=start1 hH
 refine th<|rg<|qa o rfl λo=>re<|tn<|th<|rg<|ls<|Bi (e:=90) (sz:=4) [] o rfl u rfl rfl rfl (λw=>by kernel_rfl) λb7 w a u o=>?_
 have I1:Rows (α:=api_Node) H [] []:=.nil
 refine qa o rfl λo=>re<|tn<|th<|th<|rg<|qa o rfl λo=>re<|tn<|Au (λa w=>∃ (M0:(List api_Node)) (Q0:Option Addr) (J0:Nat) (R0:List Value),Z12 M0=some r∧Fr 34 [(3,SL Q0 M0 J0)] a∧St w0 Nil [H] [sla 90 4 Q0 M0.length J0 R0] w∧Rows H R0 M0) ?_ ?_
 refine wb<|lp (α:=Nat×(List api_Node)×Int) (λgh a w=>match gh with | (O0,E0,F0)=>∃ (G0:Option Addr) (D0:Nat) (K0:List Value),(Z13 N Z12 p1) O0 E0 F0=some r∧Fr 34 [(0,SL S0 p1 I0),(3,SL G0 E0 D0),(4,i6 F0)] a∧St w0 Nil [H] [sla 90 4 G0 E0.length D0 K0] w∧Rows H K0 E0) (λgh=>gh.1) (N,[],0) ⟨(some ⟨b7,0,none⟩),0,[],hm,o.hs,u,I1⟩ ?_
 rintro ⟨O0,E0,F0⟩ a w ⟨G0,D0,K0,hm,o,u,U0⟩
 obtain _ | O0:=O0
 simp [Z13] at hm
 rw [Z13] at hm
 refine th<|th<|rg<|qm o rfl λo=>qm o rfl λo=>qv o (Ak (α:=api_Node) (xs:=p1) o runUnderlying49 rfl) λo=>qv o (Ap o rfl rfl) λo=>qm o rfl λo=>gr (Fk:=[(0,SL S0 p1 I0),(3,SL G0 E0 D0),(4,i6 F0),(14,.bool ((decide (F0 < (p1.length:Int))) && (decide (F0 < 60))))]) 11 3 o u ?_ ?_ ?_
 intro hb o key
 exact qg o (Ab o rfl) λo=>qg o (Ap o rfl rfl) λo=>qk o (Ad o rfl rfl) key u hb
 intro hb o key
 iterate 2 refine qn o λo=>?_
 exact qk o (Ae o rfl rfl) key u hb
 intro a w o u
 refine re<|?_
 rcases bit hm with ⟨V0,hm⟩ | ⟨V0,hm⟩
 refine tn<|ctv o rfl V0<|wk<|tn<|th<|wb<|th<|?_
 obtain ⟨C0,W0,hm⟩:=bs hm
 obtain ⟨Q1,J1,u0⟩:=SR.get Y0 W0
 obtain rfl:=Bo J1
 refine rg<|qm o rfl λo=>qm o rfl λo=>qv o (Ao o runUnderlying49 sizeOf90 rfl rfl W0 (SR.oaI Y0 (by decide) W0)) λo=>qv o (Ax o isAgg90 sizeOf90 rfl rfl (λj v hj=>PH.le.cell (Lds.le u.ld) (u0 j v hj))) λo=>ls<|Av (cs:=[i6 0,i6 0,Ac [],i6 0].toArray) o rfl u zeroValue90 rfl λR1 w a u o=>ls<|Aw o u sizeOf90 rfl rfl rfl rfl (Al rfl) .head λw u=>re<|tn<|th<|?_
 obtain ⟨P0,M1,hm⟩:=bs hm
 refine rg<|qv o (Af o Es rfl) λo=>qv o (Ag o isAgg9 rfl (u.ld.cellB t0 rfl)) λo=>qv o (Af o Es rfl) λo=>qv o (Ag o isAgg9 rfl (u.ld.cellB t0 rfl)) λo=>qv o (Bp (s:=C0.Name) o runUnderlying9 rfl) λo=>qv o (Lk o rfl rfl) λo=>qv o (Hf (s:=C0.Name) (vl:=0) (vh:=(min (C0.Name.length:Int) 40)) o runUnderlying9 rfl rfl rfl M1) λo=>qv o (Af o Es rfl) λo=>ls<|Ay o u sizeOf9 rfl rfl rfl rfl .head (.succ (.succ .zero)) λw u=>re<|tn<|?_
 obtain ⟨O1,P1,hm⟩:=bs hm
 refine rg<|qm o rfl λo=>qv o (Ax o isAgg90 sizeOf90 rfl rfl (u.ld.cellsB t0)) λo=>ls<|Bi (e:=90) (sz:=4) [i6 C0.Op,i6 C0.N,Ac P0,i6 C0.At] o rfl u rfl rfl rfl (λw=>by kernel_rfl) λS1 w a u o=>?_
 have B1:Rows (α:=api_Node) H [i6 C0.Op,i6 C0.N,Ac P0,i6 C0.At] ([(api_Node.mk C0.Op C0.N P0 C0.At)]:List api_Node):=(.cons (c:=[i6 C0.Op,i6 C0.N,Ac P0,i6 C0.At]) ⟨_,_,rfl,rfl,⟨_,_,rfl,rfl,⟨_,_,rfl,rfl,rfl⟩⟩⟩ .nil)
 refine ls<|Cc (α:=api_Node) (xs:=E0) (ys:=([(api_Node.mk C0.Op C0.N P0 C0.At)]:List api_Node)) o rfl u underlying49 N9 rfl (by decide) rfl rfl rfl t2 U0 (u.rdO t0) B1 P1 λC1 X0 E1 w a F1 hU o=>?_
 replace u:=hU _ (.tail (.tail .head))
 replace u:=u.drop .head
 refine qa o rfl λo=>re<|bn<|tn<|rg<|qm o rfl λo=>qv o (Am o rfl rfl) λo=>qa o rfl λo=>re<|tn<|?_
 replace u:=u.pk [1] rfl
 exact ⟨(O0,O1,(IntKind.i64.wrap (F0+1))),⟨C1,X0,E1,hm,o.hs,u,F1⟩,Nat.lt_succ_self _⟩
 refine tn<|cfv o rfl V0<|we<|tx<|tx<|bx<|tn<|?_
 exact ⟨E0,G0,D0,K0,hm,o.has ⟨rfl,trivial⟩,u,U0⟩
 rintro a w ⟨M0,Q0,J0,R0,hm,o,u,G1⟩
 unfold Z12 at hm
 refine th<|rg<|qm o rfl λo=>qa o rfl λo=>re<|tn<|wr<|?_
 obtain rfl:=si hm
 exact r1 o results48 rfl ⟨_,_,_,rfl,(λ_=>Rows.ind G1),u.endFresh t0⟩
theorem Jax (hH:H.le w0) {F1:Option Addr} {K0:Nat} {p1:(List api_Stmt)} (_:p1.length≤K0) (R1:SR H F1 p1) {r:(List api_Stmt)} (hm:Z14 N p1=some r):Tot Tryz.prog 43 #[SL F1 p1 K0] w0 (λv w'=>∃ (H':PH) (S1:Option Addr) (I1:Nat),v=SL S1 r I1∧r.length≤I1∧SR H' S1 r∧Ext w0 H H'∧H'.le w'∧Keep Nil w0 w'):=by
 unfold Z14 at hm
 refine fn0 func43 rfl ntmps43 rfl rfl λa o=>?_
 have u:St w0 Nil [H] [] w0:=start1 hH
 refine th<|rg<|qa o rfl λo=>re<|tn<|th<|rg<|ls<|Bi (e:=51) (sz:=9) [] o rfl u rfl rfl rfl (λw=>by kernel_rfl) λb7 w a u o=>?_
 have R2:Rows (α:=api_Stmt) H [] []:=.nil
 refine qa o rfl λo=>re<|tn<|th<|th<|rg<|qa o rfl λo=>re<|tn<|Au (λa w=>∃ (R0:(List api_Stmt)) (G1:PH) (X0:Option Addr) (M0:Nat) (Y0:List Value),Z15 R0=some r∧Ext w0 H G1∧Fr 50 [(3,SL X0 R0 M0)] a∧St w0 Nil [G1] [sla 51 9 X0 R0.length M0 Y0] w∧Rows G1 Y0 R0) ?_ ?_
 refine wb<|lp (α:=Nat×(List api_Stmt)×Int) (λgh a w=>match gh with | (S0,F0,G0)=>∃ (I0:PH) (J0:Option Addr) (D0:Nat) (O0:List Value),(Z16 N Z15 p1) S0 F0 G0=some r∧Ext w0 H I0∧Fr 50 [(0,SL F1 p1 K0),(3,SL J0 F0 D0),(4,i6 G0)] a∧St w0 Nil [I0] [sla 51 9 J0 F0.length D0 O0] w∧Rows I0 O0 F0) (λgh=>gh.1) (N,[],0) ⟨H,(some ⟨b7,0,none⟩),0,[],hm,(Ext.refl _ _),o.hs,u,R2⟩ ?_
 rintro ⟨S0,F0,G0⟩ a w ⟨I0,J0,D0,O0,hm,E0,o,u,J1⟩
 obtain _ | S0:=S0
 simp [Z16] at hm
 rw [Z16] at hm
 refine th<|th<|rg<|qm o rfl λo=>qm o rfl λo=>qv o (Ak (α:=api_Stmt) (xs:=p1) o runUnderlying46 rfl) λo=>qv o (Ap o rfl rfl) λo=>qm o rfl λo=>gr (Fk:=[(0,SL F1 p1 K0),(3,SL J0 F0 D0),(4,i6 G0),(14,.bool ((decide (G0 < (p1.length:Int))) && (decide (G0 < 50))))]) 11 3 o u ?_ ?_ ?_
 intro hb o key
 exact qg o (Ab o rfl) λo=>qg o (Ap o rfl rfl) λo=>qk o (Ad o rfl rfl) key u hb
 intro hb o key
 iterate 2 refine qn o λo=>?_
 exact qk o (Ae o rfl rfl) key u hb
 intro a w o u
 refine re<|?_
 rcases bit hm with ⟨M1,hm⟩ | ⟨M1,hm⟩
 refine tn<|ctv o rfl M1<|wk<|tn<|th<|wb<|th<|?_
 obtain ⟨C0,O1,hm⟩:=bs hm
 obtain ⟨I3,T2,T1⟩:=SR.get R1 O1
 obtain ⟨D3,B3,E3,C3,rfl,U1,V1,X1,Y1⟩:=Bg T2
 refine rg<|qm o rfl λo=>qm o rfl λo=>qv o (Ao o runUnderlying46 sizeOf51 rfl rfl O1 (SR.oaI R1 (by decide) O1)) λo=>qv o (Ax o isAgg51 sizeOf51 rfl rfl (λj v hj=>PH.le.cell (λb o hx=>(Lds.le u.ld) b o (E0.sub b o hx)) (T1 j v hj))) λo=>ls<|Av (cs:=[i6 0,Ac [],Ac [],.slice none 0 0,.slice none 0 0,i6 0,i6 0,i6 0,i6 0].toArray) o rfl u zeroValue51 rfl λJ3 w a u o=>ls<|Aw o u sizeOf51 rfl rfl rfl rfl (Al rfl) .head λw u=>re<|tn<|th<|?_
 obtain ⟨T0,U2,hm⟩:=bs hm
 refine rg<|qv o (Af o Cs rfl) λo=>qv o (Ag o isAgg9 rfl (u.ld.cellB t0 rfl)) λo=>qv o (Af o Cs rfl) λo=>qv o (Ag o isAgg9 rfl (u.ld.cellB t0 rfl)) λo=>qv o (Bp (s:=C0.Reg) o runUnderlying9 rfl) λo=>qv o (Lk o rfl rfl) λo=>qv o (Hf (s:=C0.Reg) (vl:=0) (vh:=(min (C0.Reg.length:Int) 40)) o runUnderlying9 rfl rfl rfl U2) λo=>qv o (Af o Cs rfl) λo=>ls<|Ay o u sizeOf9 rfl rfl rfl rfl .head (.succ .zero) λw u=>re<|tn<|th<|?_
 obtain ⟨U0,V2,hm⟩:=bs hm
 refine rg<|qv o (Af o Dc rfl) λo=>qv o (Ag o isAgg9 rfl (u.ld.cellB t0 rfl)) λo=>qv o (Af o Dc rfl) λo=>qv o (Ag o isAgg9 rfl (u.ld.cellB t0 rfl)) λo=>qv o (Bp (s:=C0.Name) o runUnderlying9 rfl) λo=>qv o (Lk o rfl rfl) λo=>qv o (Hf (s:=C0.Name) (vl:=0) (vh:=(min (C0.Name.length:Int) 40)) o runUnderlying9 rfl rfl rfl V2) λo=>qv o (Af o Dc rfl) λo=>ls<|Ay o u sizeOf9 rfl rfl rfl rfl .head (.succ (.succ .zero)) λw u=>re<|tn<|th<|?_
 obtain ⟨V0,W2,hm⟩:=bs hm
 refine rg<|qv o (Af o Dx rfl) λo=>qv o (Ag o isAgg49 rfl (u.ld.cellB t0 rfl)) λo=>ls<|c1 o rfl call48 (Up (Ai _) U1 (St.srH u (V1.mono E0.sub)) W2) ⟨rfl,trivial⟩ (λv w a hR o=>?_)
 obtain ⟨j0,P0,F3,rfl,n0,hk⟩:=hR
 replace u:=u.fresh hk
 replace n0:=n0 I0
 refine qv o (Af o Dx rfl) λo=>ls<|Ay o u sizeOf49 rfl rfl rfl rfl (.tail .head) (.succ (.succ (.succ .zero))) λw u=>re<|tn<|th<|?_
 obtain ⟨W0,X2,hm⟩:=bs hm
 refine rg<|qv o (Af o Hi rfl) λo=>qv o (Ag o isAgg49 rfl (u.ld.cellB t1 rfl)) λo=>ls<|c1 o rfl call48 (Up (Ai _) X1 (St.srH u (Y1.mono E0.sub)) X2) ⟨rfl,trivial⟩ (λv w a hR o=>?_)
 obtain ⟨u0,Q0,G3,rfl,B1,hk⟩:=hR
 replace u:=u.fresh hk
 replace B1:=B1 I0
 refine qv o (Af o Hi rfl) λo=>ls<|Ay o u sizeOf49 rfl rfl rfl rfl (.tail (.tail .head)) (.succ (.succ (.succ (.succ .zero)))) λw u=>re<|tn<|?_
 obtain ⟨Y2,A3,hm⟩:=bs hm
 refine rg<|qm o rfl λo=>qv o (Ax o isAgg51 sizeOf51 rfl rfl (u.ld.cellsB t2)) λo=>?_
 obtain ⟨H45,C1,B2,C2,u⟩:=St.frzS u (.tail .head) n0
 obtain ⟨H49,E1,E2,F2,u⟩:=St.frzS u .head (B1.mono C1.sub)
 refine ls<|Bi (e:=51) (sz:=9) [i6 C0.Kind,Ac T0,Ac U0,SL j0 V0 P0,SL u0 W0 Q0,i6 C0.N,i6 C0.Body,i6 C0.Else,i6 C0.At] o rfl u rfl rfl rfl (λw=>by kernel_rfl) λK3 w a u o=>?_
 have G2:Rows (α:=api_Stmt) H49 [i6 C0.Kind,Ac T0,Ac U0,SL j0 V0 P0,SL u0 W0 Q0,i6 C0.N,i6 C0.Body,i6 C0.Else,i6 C0.At] ([(api_Stmt.mk C0.Kind T0 U0 V0 W0 C0.N C0.Body C0.Else C0.At)]:List api_Stmt):=(.cons (c:=[i6 C0.Kind,Ac T0,Ac U0,SL j0 V0 P0,SL u0 W0 Q0,i6 C0.N,i6 C0.Body,i6 C0.Else,i6 C0.At]) ⟨_,_,rfl,rfl,⟨_,_,rfl,rfl,⟨_,_,rfl,rfl,⟨_,_,rfl,⟨_,_,rfl,C2,(B2.mono E1.sub)⟩,⟨_,_,rfl,⟨_,_,rfl,F2,E2⟩,⟨_,_,rfl,rfl,⟨_,_,rfl,rfl,⟨_,_,rfl,rfl,rfl⟩⟩⟩⟩⟩⟩⟩⟩ .nil)
 refine ls<|Cc (α:=api_Stmt) (xs:=F0) (ys:=([(api_Stmt.mk C0.Kind T0 U0 V0 W0 C0.N C0.Body C0.Else C0.At)]:List api_Stmt)) o rfl u underlying46 Oa rfl (by decide) rfl rfl rfl t2 (J1.mono (cp E1.sub C1.sub)) (u.rdO t0) G2 A3 λI2 P1 J2 w a K2 hU o=>?_
 replace u:=hU _ (.tail (.tail .head))
 replace u:=u.drop .head
 refine qa o rfl λo=>re<|bn<|tn<|rg<|qm o rfl λo=>qv o (Am o rfl rfl) λo=>qa o rfl λo=>re<|tn<|?_
 replace u:=u.pk [1] rfl
 exact ⟨(S0,Y2,(IntKind.i64.wrap (G0+1))),⟨H49,I2,P1,J2,hm,(Ext.trans E0 (Ext.trans C1 E1)),o.hs,u,K2⟩,Nat.lt_succ_self _⟩
 refine tn<|cfv o rfl M1<|we<|tx<|tx<|bx<|tn<|?_
 exact ⟨F0,I0,J0,D0,O0,hm,E0,o.has ⟨rfl,trivial⟩,u,J1⟩
 rintro a w ⟨R0,G1,X0,M0,Y0,hm,Q1,o,u,M2⟩
 unfold Z15 at hm
 refine th<|rg<|qm o rfl λo=>qa o rfl λo=>re<|tn<|wr<|?_
 obtain ⟨H62,O2,P2,Q2,u⟩:=St.frzS u .head M2
 obtain rfl:=si hm
 exact r1 o results43 rfl ⟨H62,_,_,rfl,Q2,P2,(Ext.trans Q1 O2),(St.le u),u.keep⟩
set_option maxHeartbeats 4000000 in
theorem Jk (hH:H.le w0) {T0:Option Addr} {M0:Nat} {p1:(List api_Thread)} (P4:p1.length≤M0) (U0:SR H T0 p1) {r:(List api_Thread)} (hm:Z1g N p1=some r):Tot Tryz.prog 47 #[SL T0 p1 M0] w0 (λv w'=>∃ (H':PH) (W2:Option Addr) (J2:Nat),v=SL W2 r J2∧r.length≤J2∧SR H' W2 r∧Ext w0 H H'∧H'.le w'∧Keep Nil w0 w'):=by
 unfold Z1g at hm
 refine fn0 func47 rfl ntmps47 rfl rfl λa o=>?_
 have u:St w0 Nil [H] [] w0:=start1 hH
 refine th<|rg<|qa o rfl λo=>re<|tn<|th<|rg<|ls<|Bi (e:=48) (sz:=4) [] o rfl u rfl rfl rfl (λw=>by kernel_rfl) λb7 w a u o=>?_
 have R3:Rows (α:=api_Thread) H [] []:=.nil
 refine qa o rfl λo=>re<|tn<|th<|th<|rg<|qa o rfl λo=>re<|tn<|Au (λa w=>∃ (O1:(List api_Thread)) (G2:PH) (T1:Option Addr) (G1:Nat) (U1:List Value),Z1h O1=some r∧Ext w0 H G2∧Fr 86 [(3,SL T1 O1 G1)] a∧St w0 Nil [G2] [sla 48 4 T1 O1.length G1 U1] w∧Rows G2 U1 O1) ?_ ?_
 refine wb<|lp (α:=Nat×(List api_Thread)×Int) (λgh a w=>match gh with | (V0,F0,G0)=>∃ (j0:PH) (I0:Option Addr) (D0:Nat) (R0:List Value),(Z1l N Z1h p1) V0 F0 G0=some r∧Ext w0 H j0∧Fr 86 [(0,SL T0 p1 M0),(3,SL I0 F0 D0),(4,i6 G0)] a∧St w0 Nil [j0] [sla 48 4 I0 F0.length D0 R0] w∧Rows j0 R0 F0) (λgh=>gh.1) (N,[],0) ⟨H,(some ⟨b7,0,none⟩),0,[],hm,(Ext.refl _ _),o.hs,u,R3⟩ ?_
 rintro ⟨V0,F0,G0⟩ a w ⟨j0,I0,D0,R0,hm,C0,o,u,K2⟩
 obtain _ | V0:=V0
 simp [Z1l] at hm
 rw [Z1l] at hm
 refine th<|th<|rg<|qm o rfl λo=>qm o rfl λo=>qv o (Ak (α:=api_Thread) (xs:=p1) o runUnderlying24 rfl) λo=>qv o (Ap o rfl rfl) λo=>qm o rfl λo=>gr (Fk:=[(0,SL T0 p1 M0),(3,SL I0 F0 D0),(4,i6 G0),(15,.bool ((decide (G0 < (p1.length:Int))) && (decide (G0 < 4))))]) 12 3 o u ?_ ?_ ?_
 intro hb o key
 exact qg o (Ab o rfl) λo=>qg o (Ap o rfl rfl) λo=>qk o (Ad o rfl rfl) key u hb
 intro hb o key
 iterate 2 refine qn o λo=>?_
 exact qk o (Ae o rfl rfl) key u hb
 intro a w o u
 refine re<|?_
 rcases bit hm with ⟨M2,hm⟩ | ⟨M2,hm⟩
 refine tn<|ctv o rfl M2<|wk<|tn<|th<|Au (λa w=>∃ (C1:(List api_Thread)) (P1:PH) (I1:Option Addr) (Y0:Nat) (J1:List Value),(Z1i (Z1l N Z1h p1 V0) G0) C1=some r∧Ext w0 j0 P1∧Fr 86 [(0,SL T0 p1 M0),(3,SL I1 C1 Y0),(4,i6 G0)] a∧St w0 Nil [P1] [sla 48 4 I1 C1.length Y0 J1] w∧Rows P1 J1 C1) ?_ ?_
 refine wb<|th<|Au (λa w=>∃ (P0:Str) (J0:(List api_Stmt)) (Q0:Int) (HD1:PH) (bD2:Nat) (oaD5:Option Addr) (capD6:Nat),(Z1j N (Z1i (Z1l N Z1h p1 V0) G0) p1 F0 G0) P0 J0 Q0=some r∧Ext w0 j0 HD1∧Fr 86 [(0,SL T0 p1 M0),(3,SL I0 F0 D0),(4,i6 G0),(5,PT bD2)] a∧St w0 Nil [HD1] [sla 48 4 I0 F0.length D0 R0,bk bD2 [Ac P0,.slice none 0 0,SL oaD5 J0 capD6,i6 Q0] 48] w∧J0.length≤capD6∧SR HD1 oaD5 J0) ?_ ?_
 obtain ⟨W0,X0,hm⟩:=bs hm
 obtain ⟨Q4,S3,M1⟩:=SR.get U0 X0
 obtain ⟨E4,A4,F4,B4,rfl,G4,I4,O2,P2⟩:=Ar S3
 obtain ⟨E1,T3,hm⟩:=bs hm
 obtain ⟨F1,X2,hm⟩:=bs hm
 refine rdS 26 u wide λw u=>dr 0 u o rfl (Ab o rfl) λo=>dr 1 u o rfl (Ab o rfl) λo=>dr 2 u o rfl (Ao o runUnderlying24 sizeOf48 rfl rfl X0 (SR.oaI U0 (by decide) X0)) λo=>dr 3 u o rfl (Af o Ed rfl) λo=>dq 4 u.ld o rfl (λw hl=>Ag o isAgg9 rfl (PH.le.cell (λb o hx=>(Lds.le hl) b o (C0.sub b o hx)) (M1 0 _ rfl))) λo=>dr 5 u o rfl (Ab o rfl) λo=>dr 6 u o rfl (Ab o rfl) λo=>dr 7 u o rfl (Ao o runUnderlying24 sizeOf48 rfl rfl X0 (SR.oaI U0 (by decide) X0)) λo=>dr 8 u o rfl (Af o Ed rfl) λo=>dq 9 u.ld o rfl (λw hl=>Ag o isAgg9 rfl (PH.le.cell (λb o hx=>(Lds.le hl) b o (C0.sub b o hx)) (M1 0 _ rfl))) λo=>dr 10 u o rfl (Bp (s:=W0.Name) o runUnderlying9 rfl) λo=>dr 11 u o rfl (Lk o rfl rfl) λo=>dr 12 u o rfl (Hf (s:=W0.Name) (vl:=0) (vh:=(min (W0.Name.length:Int) 40)) o runUnderlying9 rfl rfl rfl T3) λo=>dr 13 u o rfl (Ab o rfl) λo=>dr 14 u o rfl (Ab o rfl) λo=>dr 15 u o rfl (Ao o runUnderlying24 sizeOf48 rfl rfl X0 (SR.oaI U0 (by decide) X0)) λo=>dr 16 u o rfl (Af o Ga rfl) λo=>dq 17 u.ld o rfl (λw hl=>Ag o isAgg3 rfl (PH.le.cell (λb o hx=>(Lds.le hl) b o (C0.sub b o hx)) (M1 3 _ rfl))) λo=>dr 18 u o rfl (Ab o rfl) λo=>dr 19 u o rfl (Ab o rfl) λo=>dr 20 u o rfl (Ao o runUnderlying24 sizeOf48 rfl rfl X0 (SR.oaI U0 (by decide) X0)) λo=>dr 21 u o rfl (Af o Dy rfl) λo=>dq 22 u.ld o rfl (λw hl=>Ag o isAgg46 rfl (PH.le.cell (λb o hx=>(Lds.le hl) b o (C0.sub b o hx)) (M1 2 _ rfl))) λo=>da2 (i:=23) (j:=25) (by kernel_rfl) ?_ ?_
 refine di (i:=23) rfl<|c1 o rfl call43 (Jax (St.le u) O2 (P2.mono C0.sub) X2) ⟨rfl,trivial⟩ (λv w a hR o=>?_)
 obtain ⟨H30,S0,O0,rfl,V1,X1,E0,Y1,hk⟩:=hR
 obtain ⟨u,E0⟩:=And.intro (St.passH u hk E0 Y1) (St.extc u E0)
 refine ⟨λ_=>(St.ldsX u E0.sub i1),?_⟩
 refine dq 24 (St.ldsX u E0.sub i1) o rfl (λw hl=>Bq [Ac E1,i6 W0.At,SL S0 F1 O0] [Ac E1,.slice none 0 0,SL S0 F1 O0,i6 W0.At] o ⟨rfl,rfl,rfl,trivial⟩ (λw=>by kernel_rfl)) λo=>da1 (i:=25) (by kernel_rfl) ?_
 refine di (i:=25) rfl<|Av (cs:=[Ac [],.slice none 0 0,.slice none 0 0,i6 0].toArray) o rfl u zeroValue48 rfl λQ2 w a u o=>⟨λ_=>(St.ldsX u E0.sub ta1),?_⟩
 refine da1 (i:=26) (by kernel_rfl) ?_
 refine di (i:=26) rfl<|Aw o u sizeOf48 rfl rfl rfl rfl (Al rfl) .head λw u=>⟨λh=>absurd rfl h,?_⟩
 refine de (by kernel_rfl)<|tn<|?_
 replace u:=u.pk [1,0] rfl
 exact ⟨E1,F1,W0.At,H30,Q2,S0,O0,hm,E0,o.hs,u,V1,X1⟩
 refine di (i:=25) rfl<|Av (cs:=[Ac [],.slice none 0 0,.slice none 0 0,i6 0].toArray) o rfl u zeroValue48 rfl λQ2 w a u o=>⟨λ_=>(St.ldsX u i2 ta1),?_⟩
 refine da1 (i:=23) (by kernel_rfl) ?_
 refine di (i:=23) rfl<|c1 o rfl call43 (Jax (St.le u) O2 (P2.mono C0.sub) X2) ⟨rfl,trivial⟩ (λv w a hR o=>?_)
 obtain ⟨H30,S0,O0,rfl,V1,X1,E0,Y1,hk⟩:=hR
 obtain ⟨u,E0⟩:=And.intro (St.passH u hk E0 Y1) (St.extc u E0)
 refine ⟨λ_=>(St.ldsX u E0.sub ta1),?_⟩
 refine dq 24 (St.ldsX u E0.sub ta1) o rfl (λw hl=>Bq [Ac E1,i6 W0.At,SL S0 F1 O0] [Ac E1,.slice none 0 0,SL S0 F1 O0,i6 W0.At] o ⟨rfl,rfl,rfl,trivial⟩ (λw=>by kernel_rfl)) λo=>da1 (i:=26) (by kernel_rfl) ?_
 refine di (i:=26) rfl<|Aw o u sizeOf48 rfl rfl rfl rfl (Al rfl) .head λw u=>⟨λh=>absurd rfl h,?_⟩
 refine de (by kernel_rfl)<|tn<|?_
 replace u:=u.pk [1,0] rfl
 exact ⟨E1,F1,W0.At,H30,Q2,S0,O0,hm,E0,o.hs,u,V1,X1⟩
 rintro a w ⟨P0,J0,Q0,HD1,bD2,oaD5,capD6,hm,hxHD1,o,u,hcD7,hrD8⟩
 unfold Z1j at hm
 refine th<|th<|rg<|qa o rfl λo=>re<|tn<|Au (λa w=>∃ (K0:(List Str)) (oaD11:Option Addr) (capD12:Nat) (vsD13:List Value),(Z1k (Z1i (Z1l N Z1h p1 V0) G0) P0 J0 Q0 F0) K0=some r∧Fr 86 [(0,SL T0 p1 M0),(3,SL I0 F0 D0),(4,i6 G0),(5,PT bD2)] a∧St w0 Nil [HD1] [sla 48 4 I0 F0.length D0 R0,sla 9 1 oaD11 K0.length capD12 vsD13,bk bD2 [Ac P0,SL oaD11 K0 capD12,SL oaD5 J0 capD6,i6 Q0] 48] w∧Rows HD1 vsD13 K0) ?_ ?_
 replace u:=u.nilS 9 1
 replace u:=u.pk [1,0,0] rfl
 refine wb<|lp (α:=Nat×(List Str)×Int) (λgh a w=>match gh with | (Q1,n0,u0)=>∃ (oaE2:Option Addr) (capE3:Nat) (vsE4:List Value),(Z1m N (Z1k (Z1i (Z1l N Z1h p1 V0) G0) P0 J0 Q0 F0) p1 G0) Q1 n0 u0=some r∧Fr 86 [(0,SL T0 p1 M0),(3,SL I0 F0 D0),(4,i6 G0),(5,PT bD2),(6,i6 u0)] a∧St w0 Nil [HD1] [sla 48 4 I0 F0.length D0 R0,sla 9 1 oaE2 n0.length capE3 vsE4,bk bD2 [Ac P0,SL oaE2 n0 capE3,SL oaD5 J0 capD6,i6 Q0] 48] w∧Rows HD1 vsE4 n0) (λgh=>gh.1) (N,[],0) ⟨none,0,[],hm,o.hs,u,.nil⟩ ?_
 rintro ⟨Q1,n0,u0⟩ a w ⟨oaE2,capE3,vsE4,hm,o,u,hvE5⟩
 obtain _ | Q1:=Q1
 simp [Z1m] at hm
 rw [Z1m] at hm
 refine th<|th<|?_
 obtain ⟨Y2,B1,hm⟩:=bs hm
 obtain ⟨R4,U3,B2⟩:=SR.get U0 B1
 obtain ⟨J4,C4,K4,D4,rfl,L4,C2,M4,O4⟩:=Ar U3
 refine rg<|qm o rfl λo=>?_
 iterate 2 refine qm o rfl λo=>?_
 refine qv o (Ao o runUnderlying24 sizeOf48 rfl rfl B1 (SR.oaI U0 (by decide) B1)) λo=>qv o (Af o Cm rfl) λo=>qv o (Ag o isAgg36 rfl (PH.le.cell (λb o hx=>(Lds.le u.ld) b o ((cp hxHD1.sub C0.sub) b o hx)) (B2 1 _ rfl))) λo=>qv o (Ak (α:=Str) (xs:=Y2.Regs) o runUnderlying36 rfl) λo=>qv o (Ap o rfl rfl) λo=>qm o rfl λo=>gr (Fk:=[(0,SL T0 p1 M0),(3,SL I0 F0 D0),(4,i6 G0),(5,PT bD2),(6,i6 u0),(54,.bool ((decide (u0 < (Y2.Regs.length:Int))) && (decide (u0 < 6))))]) 51 3 o u ?_ ?_ ?_
 intro hb o key
 exact qg o (Ab o rfl) λo=>qg o (Ap o rfl rfl) λo=>qk o (Ad o rfl rfl) key u hb
 intro hb o key
 iterate 2 refine qn o λo=>?_
 exact qk o (Ae o rfl rfl) key u hb
 intro a w o u
 refine re<|?_
 rcases bit hm with ⟨E2,hm⟩ | ⟨E2,hm⟩
 refine tn<|ctv o rfl E2<|wk<|tn<|th<|wb<|?_
 obtain ⟨I2,R1,hm⟩:=bs hm
 obtain ⟨V3,W3,R2⟩:=SR.get C2 R1
 obtain rfl:V3=[Ac I2]:=W3
 obtain ⟨S1,X3,hm⟩:=bs hm
 obtain ⟨Y3,l3,hm⟩:=bs hm
 refine rdL (Aa t0 (Aa t2 Ah)) 24 u wide λw u=>ds 0 (St.ldsX u i2 (Aa t0 (Aa t2 Ah))) o rfl (Af o Cm rfl) λo=>dq 1 (St.ldsX u i2 (Aa t0 (Aa t2 Ah))) o rfl (λw hl=>Ag o isAgg36 rfl (hl.cellB t1 rfl)) λo=>ds 2 (St.ldsX u i2 (Aa t0 (Aa t2 Ah))) o rfl (Ab o rfl) λo=>ds 3 (St.ldsX u i2 (Aa t0 (Aa t2 Ah))) o rfl (Ab o rfl) λo=>ds 4 (St.ldsX u i2 (Aa t0 (Aa t2 Ah))) o rfl (Ao o runUnderlying24 sizeOf48 rfl rfl B1 (SR.oaI U0 (by decide) B1)) λo=>ds 5 (St.ldsX u i2 (Aa t0 (Aa t2 Ah))) o rfl (Af o Cm rfl) λo=>dq 6 (St.ldsX u i2 (Aa t0 (Aa t2 Ah))) o rfl (λw hl=>Ag o isAgg36 rfl (PH.le.cell (λb o hx=>(Lds.le hl) b o ((cp hxHD1.sub C0.sub) b o hx)) (B2 1 _ rfl))) λo=>ds 7 (St.ldsX u i2 (Aa t0 (Aa t2 Ah))) o rfl (Ab o rfl) λo=>ds 8 (St.ldsX u i2 (Aa t0 (Aa t2 Ah))) o rfl (Ao o runUnderlying36 sizeOf9 rfl rfl R1 (SR.oaI C2 (by decide) R1)) λo=>dq 9 (St.ldsX u i2 (Aa t0 (Aa t2 Ah))) o rfl (λw hl=>Ag o isAgg9 rfl (PH.le.cell (λb o hx=>(Lds.le hl) b o ((cp hxHD1.sub C0.sub) b o hx)) (R2 0 _ rfl))) λo=>ds 10 (St.ldsX u i2 (Aa t0 (Aa t2 Ah))) o rfl (Ab o rfl) λo=>ds 11 (St.ldsX u i2 (Aa t0 (Aa t2 Ah))) o rfl (Ab o rfl) λo=>ds 12 (St.ldsX u i2 (Aa t0 (Aa t2 Ah))) o rfl (Ao o runUnderlying24 sizeOf48 rfl rfl B1 (SR.oaI U0 (by decide) B1)) λo=>ds 13 (St.ldsX u i2 (Aa t0 (Aa t2 Ah))) o rfl (Af o Cm rfl) λo=>dq 14 (St.ldsX u i2 (Aa t0 (Aa t2 Ah))) o rfl (λw hl=>Ag o isAgg36 rfl (PH.le.cell (λb o hx=>(Lds.le hl) b o ((cp hxHD1.sub C0.sub) b o hx)) (B2 1 _ rfl))) λo=>ds 15 (St.ldsX u i2 (Aa t0 (Aa t2 Ah))) o rfl (Ab o rfl) λo=>ds 16 (St.ldsX u i2 (Aa t0 (Aa t2 Ah))) o rfl (Ao o runUnderlying36 sizeOf9 rfl rfl R1 (SR.oaI C2 (by decide) R1)) λo=>dq 17 (St.ldsX u i2 (Aa t0 (Aa t2 Ah))) o rfl (λw hl=>Ag o isAgg9 rfl (PH.le.cell (λb o hx=>(Lds.le hl) b o ((cp hxHD1.sub C0.sub) b o hx)) (R2 0 _ rfl))) λo=>ds 18 (St.ldsX u i2 (Aa t0 (Aa t2 Ah))) o rfl (Bp (s:=I2) o runUnderlying9 rfl) λo=>ds 19 (St.ldsX u i2 (Aa t0 (Aa t2 Ah))) o rfl (Lk o rfl rfl) λo=>ds 20 (St.ldsX u i2 (Aa t0 (Aa t2 Ah))) o rfl (Hf (s:=I2) (vl:=0) (vh:=(min (I2.length:Int) 40)) o runUnderlying9 rfl rfl rfl X3) λo=>da1 (i:=21) (by kernel_rfl) ?_
 have A3:Rows (α:=Str) HD1 [Ac S1] ([S1]:List Str):=(.cons (c:=[Ac S1]) rfl .nil)
 refine di (i:=21) rfl<|Bi (e:=9) (sz:=1) [Ac S1] o rfl u rfl rfl rfl (λw=>by kernel_rfl) λS4 w a u o=>⟨λ_=>(St.ldsX u i2 (Aa t1 (Aa t3 Ah))),?_⟩
 refine da1 (i:=22) (by kernel_rfl) ?_
 refine di (i:=22) rfl<|Cc (α:=Str) (xs:=n0) (ys:=([S1]:List Str)) o rfl u underlying36 Vm rfl (by decide) rfl rfl rfl t2 hvE5 (u.rdO t0) A3 l3 λB3 T2 C3 w a D3 hU o=>?_
 replace u:=hU _ (.tail (.tail .head))
 replace u:=u.drop .head
 refine ⟨λ_=>(St.ldsX u i2 (Aa t0 (Aa t2 Ah))),?_⟩
 refine ds 23 (St.ldsX u i2 (Aa t0 (Aa t2 Ah))) o rfl (Af o Cm rfl) λo=>da1 (i:=24) (by kernel_rfl) ?_
 refine di (i:=24) rfl<|Ay o u sizeOf36 rfl rfl rfl rfl (.tail (.tail .head)) (.succ .zero) λw u=>⟨λh=>absurd rfl h,?_⟩
 refine de (by kernel_rfl)<|bn<|tn<|rg<|qm o rfl λo=>qv o (Am o rfl rfl) λo=>qa o rfl λo=>re<|tn<|?_
 exact ⟨(Q1,Y3,(IntKind.i64.wrap (u0+1))),⟨B3,T2,C3,hm,o.hs,u,D3⟩,Nat.lt_succ_self _⟩
 refine tn<|cfv o rfl E2<|we<|tx<|tx<|bx<|tn<|?_
 exact ⟨n0,oaE2,capE3,vsE4,hm,o.hs,u,hvE5⟩
 rintro a w ⟨K0,oaD11,capD12,vsD13,hm,o,u,hvD14⟩
 unfold Z1k at hm
 obtain ⟨n3,u3,hm⟩:=bs hm
 refine rg<|qm o rfl λo=>qv o (Ax o isAgg48 sizeOf48 rfl rfl (u.ld.cellsB t2)) λo=>?_
 obtain ⟨H69,F2,E3,F3,u⟩:=St.frzS u (.tail .head) hvD14
 refine ls<|Bi (e:=48) (sz:=4) [Ac P0,SL oaD11 K0 capD12,SL oaD5 J0 capD6,i6 Q0] o rfl u rfl rfl rfl (λw=>by kernel_rfl) λT4 w a u o=>?_
 have G3:Rows (α:=api_Thread) H69 [Ac P0,SL oaD11 K0 capD12,SL oaD5 J0 capD6,i6 Q0] ([(api_Thread.mk P0 K0 J0 Q0)]:List api_Thread):=(.cons (c:=[Ac P0,SL oaD11 K0 capD12,SL oaD5 J0 capD6,i6 Q0]) ⟨_,_,rfl,rfl,⟨_,_,rfl,⟨_,_,rfl,F3,E3⟩,⟨_,_,rfl,⟨_,_,rfl,hcD7,(hrD8.mono F2.sub)⟩,rfl⟩⟩⟩ .nil)
 refine ls<|Cc (α:=api_Thread) (xs:=F0) (ys:=([(api_Thread.mk P0 K0 J0 Q0)]:List api_Thread)) o rfl u underlying24 Iv rfl (by decide) rfl rfl rfl t1 (K2.mono (cp F2.sub hxHD1.sub)) (u.rdO t0) G3 u3 λI3 U2 J3 w a K3 hU o=>?_
 replace u:=hU _ (.tail .head)
 replace u:=u.drop .head
 refine qa o rfl λo=>re<|bn<|tn<|?_
 replace u:=u.pk [0] rfl
 exact ⟨n3,H69,I3,U2,J3,hm,(Ext.trans hxHD1 F2),o.hs,u,K3⟩
 rintro a w ⟨C1,P1,I1,Y0,J1,hm,hxHC1,o,u,L3⟩
 unfold Z1i at hm
 refine rg<|qm o rfl λo=>qv o (Am o rfl rfl) λo=>qa o rfl λo=>re<|tn<|?_
 exact ⟨(V0,C1,(IntKind.i64.wrap (G0+1))),⟨P1,I1,Y0,J1,hm,(Ext.trans C0 hxHC1),o.hs,u,L3⟩,Nat.lt_succ_self _⟩
 refine tn<|cfv o rfl M2<|we<|tx<|tx<|bx<|tn<|?_
 exact ⟨F0,j0,I0,D0,R0,hm,C0,o.has ⟨rfl,trivial⟩,u,K2⟩
 rintro a w ⟨O1,G2,T1,G1,U1,hm,V2,o,u,M3⟩
 unfold Z1h at hm
 refine th<|rg<|qm o rfl λo=>qa o rfl λo=>re<|tn<|wr<|?_
 obtain ⟨H82,O3,P3,Q3,u⟩:=St.frzS u .head M3
 obtain rfl:=si hm
 exact r1 o results47 rfl ⟨H82,_,_,rfl,Q3,P3,(Ext.trans V2 O3),(St.le u),u.keep⟩
set_option maxHeartbeats 4000000 in
theorem Jcx (hH:H.le w0) {cs2:List Value} {p1:api_Prog} (g3:Enc.rep H cs2 p1) {r:api_Prog} (hm:Z17 N p1=some r):Tot Tryz.prog 15 #[.agg cs2.toArray] w0 (λv w'=>∃ (H':PH) (cs0:List Value),v=.agg cs0.toArray∧Enc.rep H' cs0 r∧Ext w0 H H'∧H'.le w'∧Keep Nil w0 w'):=by
 unfold Z17 at hm
 refine fn0 func15 rfl ntmps15 rfl rfl λa o=>?_
 have u:St w0 Nil [H] [] w0:=start1 hH
 obtain ⟨K4,Q3,oa8,cap9,R3,X2,S3,Y2,T3,A3,U3,B3,rfl,d6,d5,k4,l4,R4,S4,B4,C4,V3,W3,V6,T4⟩:=Ba g3
 refine th<|rg<|ls<|Bt (cs:=[SL K4 p1.Lines Q3,SL oa8 p1.Vols cap9,SL R3 p1.Locks X2,SL S3 p1.Threads Y2,SL T3 p1.Recover A3,SL U3 p1.Claims B3].toArray) o rfl u rfl rfl λM2 w a u o=>ls<|Av (cs:=[.slice none 0 0,.slice none 0 0,.slice none 0 0,.slice none 0 0,.slice none 0 0,.slice none 0 0].toArray) o rfl u zeroValue27 rfl λV1 w a u o=>re<|tn<|th<|Au (λa w=>∃ (U0:(List api_Cell)) (V0:(List api_Cell)) (R0:(List api_Thread)) (S0:(List api_Thread)) (O2:PH) (P1:Nat) (n0:Option Addr) (P0:Nat) (P2:List Value) (Q0:Option Addr) (J0:Nat) (R1:List Value) (C1:Option Addr) (W0:Nat) (E1:Option Addr) (X0:Nat),(Z18 N p1) U0 V0 R0 S0=some r∧Ext w0 H O2∧Fr 72 [(1,PT M2),(2,PT V1),(3,PT P1)] a∧St w0 Nil [O2] [bk M2 [SL K4 p1.Lines Q3,SL oa8 p1.Vols cap9,SL R3 p1.Locks X2,SL S3 p1.Threads Y2,SL T3 p1.Recover A3,SL U3 p1.Claims B3] 27,bk V1 [.slice none 0 0,.slice none 0 0,.slice none 0 0,.slice none 0 0,.slice none 0 0,.slice none 0 0] 27,sla 53 3 n0 U0.length P0 P2,sla 53 3 Q0 V0.length J0 R1,bk P1 [.slice none 0 0,SL n0 U0 P0,SL Q0 V0 J0,SL C1 R0 W0,SL E1 S0 X0,.slice none 0 0] 27] w∧Rows O2 P2 U0∧Rows O2 R1 V0∧R0.length≤W0∧SR O2 C1 R0∧S0.length≤X0∧SR O2 E1 S0) ?_ ?_
 obtain ⟨G1,j5,hm⟩:=bs hm
 obtain ⟨I1,u4,hm⟩:=bs hm
 obtain ⟨J1,Y4,hm⟩:=bs hm
 obtain ⟨M1,L4,hm⟩:=bs hm
 refine rdS 14 u wide λw u=>dr 0 u o rfl (Af o Ec rfl) λo=>dq 1 u.ld o rfl (λw hl=>Ag o isAgg23 rfl (hl.cellB t1 rfl)) λo=>dr 3 u o rfl (Af o Ek rfl) λo=>dq 4 u.ld o rfl (λw hl=>Ag o isAgg23 rfl (hl.cellB t1 rfl)) λo=>dr 6 u o rfl (Af o Cf rfl) λo=>dq 7 u.ld o rfl (λw hl=>Ag o isAgg24 rfl (hl.cellB t1 rfl)) λo=>dr 9 u o rfl (Af o Eo rfl) λo=>dq 10 u.ld o rfl (λw hl=>Ag o isAgg24 rfl (hl.cellB t1 rfl)) λo=>da2 (i:=2) (j:=13) (by kernel_rfl) ?_ ?_
 refine di (i:=2) rfl<|c1 o rfl call46 (Mu (Ai _) k4 (St.srH u l4) j5) ⟨rfl,trivial⟩ (λv w a hR o=>?_)
 obtain ⟨T0,I0,K3,rfl,O1,hk⟩:=hR
 replace u:=u.fresh hk
 replace O1:=O1 H
 refine ⟨λ_=>(St.ldsX u i2 ta1),?_⟩
 refine da2 (i:=5) (j:=13) (by kernel_rfl) ?_ ?_
 refine di (i:=5) rfl<|c1 o rfl call46 (Mu (Ai _) R4 (St.srH u S4) u4) ⟨rfl,trivial⟩ (λv w a hR o=>?_)
 obtain ⟨O0,G0,Q2,rfl,u0,hk⟩:=hR
 replace u:=u.fresh hk
 replace u0:=u0 H
 refine ⟨λ_=>(St.ldsX u i2 ta2),?_⟩
 refine da2 (i:=8) (j:=13) (by kernel_rfl) ?_ ?_
 refine di (i:=8) rfl<|c1 o rfl call47 (Jk (St.le u) B4 C4 Y4) ⟨rfl,trivial⟩ (λv w a hR o=>?_)
 obtain ⟨H49,M0,F0,rfl,X1,Y1,C0,R2,hk⟩:=hR
 obtain ⟨u,C0⟩:=And.intro (St.passH u hk C0 R2) (St.extc u C0)
 refine ⟨λ_=>(St.ldsX u C0.sub ta2),?_⟩
 refine da2 (i:=11) (j:=13) (by kernel_rfl) ?_ ?_
 refine di (i:=11) rfl<|c1 o rfl call47 (Jk (St.le u) V3 (W3.mono C0.sub) L4) ⟨rfl,trivial⟩ (λv w a hR o=>?_)
 obtain ⟨H59,K0,E0,rfl,S1,T1,D0,U1,hk⟩:=hR
 obtain ⟨u,D0⟩:=And.intro (St.passH u hk D0 U1) (St.extc u D0)
 refine ⟨λ_=>(St.ldsX u (cp D0.sub C0.sub) ta2),?_⟩
 refine dq 12 (St.ldsX u (cp D0.sub C0.sub) ta2) o rfl (λw hl=>Bq [SL T0 G1 I0,SL O0 I1 G0,SL M0 J1 F0,SL K0 M1 E0] [.slice none 0 0,SL T0 G1 I0,SL O0 I1 G0,SL M0 J1 F0,SL K0 M1 E0,.slice none 0 0] o ⟨rfl,rfl,rfl,rfl,trivial⟩ (λw=>by kernel_rfl)) λo=>da1 (i:=13) (by kernel_rfl) ?_
 refine di (i:=13) rfl<|Av (cs:=[.slice none 0 0,.slice none 0 0,.slice none 0 0,.slice none 0 0,.slice none 0 0,.slice none 0 0].toArray) o rfl u zeroValue27 rfl λC3 w a u o=>⟨λ_=>(St.ldsX u (cp D0.sub C0.sub) ta3),?_⟩
 refine da1 (i:=14) (by kernel_rfl) ?_
 refine di (i:=14) rfl<|Aw o u sizeOf27 rfl rfl rfl rfl (Al rfl) .head λw u=>⟨λh=>absurd rfl h,?_⟩
 refine de (by kernel_rfl)<|tn<|?_
 replace u:=u.pk [4,3,2,1,0] rfl
 exact ⟨G1,I1,J1,M1,H59,C3,T0,I0,K3,O0,G0,Q2,M0,F0,K0,E0,hm,(Ext.trans C0 D0),o.hs,u,(O1.mono (cp D0.sub C0.sub)),(u0.mono (cp D0.sub C0.sub)),X1,(Y1.mono D0.sub),S1,T1⟩
 refine di (i:=13) rfl<|Av (cs:=[.slice none 0 0,.slice none 0 0,.slice none 0 0,.slice none 0 0,.slice none 0 0,.slice none 0 0].toArray) o rfl u zeroValue27 rfl λC3 w a u o=>⟨λ_=>(St.ldsX u C0.sub ta3),?_⟩
 refine da1 (i:=11) (by kernel_rfl) ?_
 refine di (i:=11) rfl<|c1 o rfl call47 (Jk (St.le u) V3 (W3.mono C0.sub) L4) ⟨rfl,trivial⟩ (λv w a hR o=>?_)
 obtain ⟨H59,K0,E0,rfl,S1,T1,D0,U1,hk⟩:=hR
 obtain ⟨u,D0⟩:=And.intro (St.passH u hk D0 U1) (St.extc u D0)
 refine ⟨λ_=>(St.ldsX u (cp D0.sub C0.sub) ta3),?_⟩
 refine dq 12 (St.ldsX u (cp D0.sub C0.sub) ta3) o rfl (λw hl=>Bq [SL T0 G1 I0,SL O0 I1 G0,SL M0 J1 F0,SL K0 M1 E0] [.slice none 0 0,SL T0 G1 I0,SL O0 I1 G0,SL M0 J1 F0,SL K0 M1 E0,.slice none 0 0] o ⟨rfl,rfl,rfl,rfl,trivial⟩ (λw=>by kernel_rfl)) λo=>da1 (i:=14) (by kernel_rfl) ?_
 refine di (i:=14) rfl<|Aw o u sizeOf27 rfl rfl rfl rfl (Al rfl) .head λw u=>⟨λh=>absurd rfl h,?_⟩
 refine de (by kernel_rfl)<|tn<|?_
 replace u:=u.pk [4,3,2,1,0] rfl
 exact ⟨G1,I1,J1,M1,H59,C3,T0,I0,K3,O0,G0,Q2,M0,F0,K0,E0,hm,(Ext.trans C0 D0),o.hs,u,(O1.mono (cp D0.sub C0.sub)),(u0.mono (cp D0.sub C0.sub)),X1,(Y1.mono D0.sub),S1,T1⟩
 refine di (i:=13) rfl<|Av (cs:=[.slice none 0 0,.slice none 0 0,.slice none 0 0,.slice none 0 0,.slice none 0 0,.slice none 0 0].toArray) o rfl u zeroValue27 rfl λC3 w a u o=>⟨λ_=>(St.ldsX u i2 ta3),?_⟩
 refine da1 (i:=8) (by kernel_rfl) ?_
 refine di (i:=8) rfl<|c1 o rfl call47 (Jk (St.le u) B4 C4 Y4) ⟨rfl,trivial⟩ (λv w a hR o=>?_)
 obtain ⟨H49,M0,F0,rfl,X1,Y1,C0,R2,hk⟩:=hR
 obtain ⟨u,C0⟩:=And.intro (St.passH u hk C0 R2) (St.extc u C0)
 refine ⟨λ_=>(St.ldsX u C0.sub ta3),?_⟩
 refine da1 (i:=11) (by kernel_rfl) ?_
 refine di (i:=11) rfl<|c1 o rfl call47 (Jk (St.le u) V3 (W3.mono C0.sub) L4) ⟨rfl,trivial⟩ (λv w a hR o=>?_)
 obtain ⟨H59,K0,E0,rfl,S1,T1,D0,U1,hk⟩:=hR
 obtain ⟨u,D0⟩:=And.intro (St.passH u hk D0 U1) (St.extc u D0)
 refine ⟨λ_=>(St.ldsX u (cp D0.sub C0.sub) ta3),?_⟩
 refine dq 12 (St.ldsX u (cp D0.sub C0.sub) ta3) o rfl (λw hl=>Bq [SL T0 G1 I0,SL O0 I1 G0,SL M0 J1 F0,SL K0 M1 E0] [.slice none 0 0,SL T0 G1 I0,SL O0 I1 G0,SL M0 J1 F0,SL K0 M1 E0,.slice none 0 0] o ⟨rfl,rfl,rfl,rfl,trivial⟩ (λw=>by kernel_rfl)) λo=>da1 (i:=14) (by kernel_rfl) ?_
 refine di (i:=14) rfl<|Aw o u sizeOf27 rfl rfl rfl rfl (Al rfl) .head λw u=>⟨λh=>absurd rfl h,?_⟩
 refine de (by kernel_rfl)<|tn<|?_
 replace u:=u.pk [4,3,2,1,0] rfl
 exact ⟨G1,I1,J1,M1,H59,C3,T0,I0,K3,O0,G0,Q2,M0,F0,K0,E0,hm,(Ext.trans C0 D0),o.hs,u,(O1.mono (cp D0.sub C0.sub)),(u0.mono (cp D0.sub C0.sub)),X1,(Y1.mono D0.sub),S1,T1⟩
 refine di (i:=13) rfl<|Av (cs:=[.slice none 0 0,.slice none 0 0,.slice none 0 0,.slice none 0 0,.slice none 0 0,.slice none 0 0].toArray) o rfl u zeroValue27 rfl λC3 w a u o=>⟨λ_=>(St.ldsX u i2 ta2),?_⟩
 refine da1 (i:=5) (by kernel_rfl) ?_
 refine di (i:=5) rfl<|c1 o rfl call46 (Mu (Ai _) R4 (St.srH u S4) u4) ⟨rfl,trivial⟩ (λv w a hR o=>?_)
 obtain ⟨O0,G0,Q2,rfl,u0,hk⟩:=hR
 replace u:=u.fresh hk
 replace u0:=u0 H
 refine ⟨λ_=>(St.ldsX u i2 ta3),?_⟩
 refine da1 (i:=8) (by kernel_rfl) ?_
 refine di (i:=8) rfl<|c1 o rfl call47 (Jk (St.le u) B4 C4 Y4) ⟨rfl,trivial⟩ (λv w a hR o=>?_)
 obtain ⟨H49,M0,F0,rfl,X1,Y1,C0,R2,hk⟩:=hR
 obtain ⟨u,C0⟩:=And.intro (St.passH u hk C0 R2) (St.extc u C0)
 refine ⟨λ_=>(St.ldsX u C0.sub ta3),?_⟩
 refine da1 (i:=11) (by kernel_rfl) ?_
 refine di (i:=11) rfl<|c1 o rfl call47 (Jk (St.le u) V3 (W3.mono C0.sub) L4) ⟨rfl,trivial⟩ (λv w a hR o=>?_)
 obtain ⟨H59,K0,E0,rfl,S1,T1,D0,U1,hk⟩:=hR
 obtain ⟨u,D0⟩:=And.intro (St.passH u hk D0 U1) (St.extc u D0)
 refine ⟨λ_=>(St.ldsX u (cp D0.sub C0.sub) ta3),?_⟩
 refine dq 12 (St.ldsX u (cp D0.sub C0.sub) ta3) o rfl (λw hl=>Bq [SL T0 G1 I0,SL O0 I1 G0,SL M0 J1 F0,SL K0 M1 E0] [.slice none 0 0,SL T0 G1 I0,SL O0 I1 G0,SL M0 J1 F0,SL K0 M1 E0,.slice none 0 0] o ⟨rfl,rfl,rfl,rfl,trivial⟩ (λw=>by kernel_rfl)) λo=>da1 (i:=14) (by kernel_rfl) ?_
 refine di (i:=14) rfl<|Aw o u sizeOf27 rfl rfl rfl rfl (Al rfl) (.tail .head) λw u=>⟨λh=>absurd rfl h,?_⟩
 refine de (by kernel_rfl)<|tn<|?_
 replace u:=u.pk [4,3,2,0,0] rfl
 exact ⟨G1,I1,J1,M1,H59,C3,T0,I0,K3,O0,G0,Q2,M0,F0,K0,E0,hm,(Ext.trans C0 D0),o.hs,u,(O1.mono (cp D0.sub C0.sub)),(u0.mono (cp D0.sub C0.sub)),X1,(Y1.mono D0.sub),S1,T1⟩
 refine di (i:=13) rfl<|Av (cs:=[.slice none 0 0,.slice none 0 0,.slice none 0 0,.slice none 0 0,.slice none 0 0,.slice none 0 0].toArray) o rfl u zeroValue27 rfl λC3 w a u o=>⟨λ_=>(St.ldsX u i2 ta1),?_⟩
 refine da1 (i:=2) (by kernel_rfl) ?_
 refine di (i:=2) rfl<|c1 o rfl call46 (Mu (Ai _) k4 (St.srH u l4) j5) ⟨rfl,trivial⟩ (λv w a hR o=>?_)
 obtain ⟨T0,I0,K3,rfl,O1,hk⟩:=hR
 replace u:=u.fresh hk
 replace O1:=O1 H
 refine ⟨λ_=>(St.ldsX u i2 ta2),?_⟩
 refine da1 (i:=5) (by kernel_rfl) ?_
 refine di (i:=5) rfl<|c1 o rfl call46 (Mu (Ai _) R4 (St.srH u S4) u4) ⟨rfl,trivial⟩ (λv w a hR o=>?_)
 obtain ⟨O0,G0,Q2,rfl,u0,hk⟩:=hR
 replace u:=u.fresh hk
 replace u0:=u0 H
 refine ⟨λ_=>(St.ldsX u i2 ta3),?_⟩
 refine da1 (i:=8) (by kernel_rfl) ?_
 refine di (i:=8) rfl<|c1 o rfl call47 (Jk (St.le u) B4 C4 Y4) ⟨rfl,trivial⟩ (λv w a hR o=>?_)
 obtain ⟨H49,M0,F0,rfl,X1,Y1,C0,R2,hk⟩:=hR
 obtain ⟨u,C0⟩:=And.intro (St.passH u hk C0 R2) (St.extc u C0)
 refine ⟨λ_=>(St.ldsX u C0.sub ta3),?_⟩
 refine da1 (i:=11) (by kernel_rfl) ?_
 refine di (i:=11) rfl<|c1 o rfl call47 (Jk (St.le u) V3 (W3.mono C0.sub) L4) ⟨rfl,trivial⟩ (λv w a hR o=>?_)
 obtain ⟨H59,K0,E0,rfl,S1,T1,D0,U1,hk⟩:=hR
 obtain ⟨u,D0⟩:=And.intro (St.passH u hk D0 U1) (St.extc u D0)
 refine ⟨λ_=>(St.ldsX u (cp D0.sub C0.sub) ta3),?_⟩
 refine dq 12 (St.ldsX u (cp D0.sub C0.sub) ta3) o rfl (λw hl=>Bq [SL T0 G1 I0,SL O0 I1 G0,SL M0 J1 F0,SL K0 M1 E0] [.slice none 0 0,SL T0 G1 I0,SL O0 I1 G0,SL M0 J1 F0,SL K0 M1 E0,.slice none 0 0] o ⟨rfl,rfl,rfl,rfl,trivial⟩ (λw=>by kernel_rfl)) λo=>da1 (i:=14) (by kernel_rfl) ?_
 refine di (i:=14) rfl<|Aw o u sizeOf27 rfl rfl rfl rfl (Al rfl) (.tail (.tail .head)) λw u=>⟨λh=>absurd rfl h,?_⟩
 refine de (by kernel_rfl)<|tn<|?_
 replace u:=u.pk [4,3,1,0,0] rfl
 exact ⟨G1,I1,J1,M1,H59,C3,T0,I0,K3,O0,G0,Q2,M0,F0,K0,E0,hm,(Ext.trans C0 D0),o.hs,u,(O1.mono (cp D0.sub C0.sub)),(u0.mono (cp D0.sub C0.sub)),X1,(Y1.mono D0.sub),S1,T1⟩
 rintro a w ⟨U0,V0,R0,S0,O2,P1,n0,P0,P2,Q0,J0,R1,C1,W0,E1,X0,hm,F2,o,u,k5,D5,hcA18,hrA19,hcA23,hrA24⟩
 unfold Z18 at hm
 refine th<|th<|rg<|qa o rfl λo=>re<|tn<|Au (λa w=>∃ (Y0:(List (List api_Cell))) (T2:PH) (F1:Option Addr) (j0:Nat) (D3:List Value),(Z19 N p1 U0 V0 R0 S0) Y0=some r∧Ext w0 O2 T2∧Fr 72 [(1,PT M2),(2,PT V1),(3,PT P1)] a∧St w0 Nil [T2] [bk M2 [SL K4 p1.Lines Q3,SL oa8 p1.Vols cap9,SL R3 p1.Locks X2,SL S3 p1.Threads Y2,SL T3 p1.Recover A3,SL U3 p1.Claims B3] 27,bk V1 [.slice none 0 0,.slice none 0 0,.slice none 0 0,.slice none 0 0,.slice none 0 0,.slice none 0 0] 27,sla 23 1 F1 Y0.length j0 D3,sla 53 3 n0 U0.length P0 P2,sla 53 3 Q0 V0.length J0 R1,bk P1 [SL F1 Y0 j0,SL n0 U0 P0,SL Q0 V0 J0,SL C1 R0 W0,SL E1 S0 X0,.slice none 0 0] 27] w∧Rows T2 D3 Y0) ?_ ?_
 replace u:=u.nilS 23 1
 replace u:=u.pk [1,1,0,0,0,0] rfl
 refine wb<|lp (α:=Nat×(List (List api_Cell))×Int) (λ(gh:Nat×(List (List api_Cell))×Int) a w=>match gh with | (M4,X3,Y3)=>∃ (u3:PH) (D4:Option Addr) (L3:Nat) (E4:List Value),(Z1b N (Z19 N p1 U0 V0 R0 S0) p1) M4 X3 Y3=some r∧Ext w0 O2 u3∧Fr 72 [(1,PT M2),(2,PT V1),(3,PT P1),(4,i6 Y3)] a∧St w0 Nil [u3] [bk M2 [SL K4 p1.Lines Q3,SL oa8 p1.Vols cap9,SL R3 p1.Locks X2,SL S3 p1.Threads Y2,SL T3 p1.Recover A3,SL U3 p1.Claims B3] 27,bk V1 [.slice none 0 0,.slice none 0 0,.slice none 0 0,.slice none 0 0,.slice none 0 0,.slice none 0 0] 27,sla 23 1 D4 X3.length L3 E4,sla 53 3 n0 U0.length P0 P2,sla 53 3 Q0 V0.length J0 R1,bk P1 [SL D4 X3 L3,SL n0 U0 P0,SL Q0 V0 J0,SL C1 R0 W0,SL E1 S0 X0,.slice none 0 0] 27] w∧Rows u3 E4 X3) (λgh=>gh.1) (N,[],0) ⟨O2,none,0,[],hm,(Ext.refl _ _),o.hs,u,.nil⟩ ?_
 rintro ⟨M4,X3,Y3⟩ a w ⟨u3,D4,L3,E4,hm,M3,o,u,A5⟩
 obtain _ | M4:=M4
 simp [Z1b] at hm
 rw [Z1b] at hm
 refine th<|th<|rg<|qm o rfl λo=>qv o (Af o Ch rfl) λo=>qv o (Ag o isAgg22 rfl (u.ld.cellB t0 rfl)) λo=>qv o (Ak (α:=(List api_Cell)) (xs:=p1.Lines) o runUnderlying22 rfl) λo=>qv o (Ap o rfl rfl) λo=>qm o rfl λo=>gr (Fk:=[(1,PT M2),(2,PT V1),(3,PT P1),(4,i6 Y3),(27,.bool ((decide (Y3 < (p1.Lines.length:Int))) && (decide (Y3 < 6))))]) 24 3 o u ?_ ?_ ?_
 intro hb o key
 exact qg o (Ab o rfl) λo=>qg o (Ap o rfl rfl) λo=>qk o (Ad o rfl rfl) key u hb
 intro hb o key
 iterate 2 refine qn o λo=>?_
 exact qk o (Ae o rfl rfl) key u hb
 intro a w o u
 refine re<|?_
 rcases bit hm with ⟨U4,hm⟩ | ⟨U4,hm⟩
 refine tn<|ctv o rfl U4<|wk<|tn<|th<|wb<|?_
 obtain ⟨j6,B5,hm⟩:=bs hm
 obtain ⟨k6,L6,n5⟩:=SR.get d5 B5
 obtain ⟨W6,S6,rfl,u5,A6⟩:=L6
 obtain ⟨O4,M6,hm⟩:=bs hm
 obtain ⟨O6,P6,hm⟩:=bs hm
 refine rdL (Aa t0 (Aa t1 (Aa t3 (Aa t4 (Aa t5 Ah))))) 11 u wide λw u=>ds 0 (St.ldsX u i2 (Aa t0 (Aa t1 (Aa t3 (Aa t4 (Aa t5 Ah)))))) o rfl (Af o Ch rfl) λo=>dq 1 (St.ldsX u i2 (Aa t0 (Aa t1 (Aa t3 (Aa t4 (Aa t5 Ah)))))) o rfl (λw hl=>Ag o isAgg22 rfl (hl.cellB t4 rfl)) λo=>ds 2 (St.ldsX u i2 (Aa t0 (Aa t1 (Aa t3 (Aa t4 (Aa t5 Ah)))))) o rfl (Af o Ch rfl) λo=>dq 3 (St.ldsX u i2 (Aa t0 (Aa t1 (Aa t3 (Aa t4 (Aa t5 Ah)))))) o rfl (λw hl=>Ag o isAgg22 rfl (hl.cellB t0 rfl)) λo=>ds 4 (St.ldsX u i2 (Aa t0 (Aa t1 (Aa t3 (Aa t4 (Aa t5 Ah)))))) o rfl (Ab o rfl) λo=>ds 5 (St.ldsX u i2 (Aa t0 (Aa t1 (Aa t3 (Aa t4 (Aa t5 Ah)))))) o rfl (Ao o runUnderlying22 sizeOf23 rfl rfl B5 (SR.oaI d5 (by decide) B5)) λo=>dq 6 (St.ldsX u i2 (Aa t0 (Aa t1 (Aa t3 (Aa t4 (Aa t5 Ah)))))) o rfl (λw hl=>Ag o isAgg23 rfl (PH.le.cell (λb o hx=>(Lds.le hl) b o ((cp M3.sub F2.sub) b o hx)) (n5 0 _ rfl))) λo=>da1 (i:=7) (by kernel_rfl) ?_
 refine di (i:=7) rfl<|c1 o rfl call46 (Mu (Ai _) u5 (St.srH u (A6.mono (cp M3.sub F2.sub))) M6) ⟨rfl,trivial⟩ (λv w a hR o=>?_)
 obtain ⟨V4,F4,X6,rfl,W4,hk⟩:=hR
 replace u:=u.fresh hk
 replace W4:=W4 u3
 refine ⟨λ_=>(St.ldsX u i2 (Aa t1 (Aa t2 (Aa t4 (Aa t5 (Aa t6 Ah)))))),?_⟩
 refine da1 (i:=8) (by kernel_rfl) ?_
 obtain ⟨H85,l3,B6,C6,u⟩:=St.frzS u .head W4
 refine di (i:=8) rfl<|Bi (e:=23) (sz:=1) [SL V4 O4 F4] o rfl u rfl rfl rfl (λw=>by kernel_rfl) λn6 w a u o=>?_
 have D6:Rows (α:=(List api_Cell)) H85 [SL V4 O4 F4] ([O4]:List (List api_Cell)):=(.cons (c:=[SL V4 O4 F4]) ⟨_,_,rfl,C6,B6⟩ .nil)
 refine ⟨λ_=>(St.ldsX u l3.sub (Aa t1 (Aa t2 (Aa t4 (Aa t5 (Aa t6 Ah)))))),?_⟩
 refine da1 (i:=9) (by kernel_rfl) ?_
 refine di (i:=9) rfl<|Cc (α:=(List api_Cell)) (xs:=X3) (ys:=([O4]:List (List api_Cell))) o rfl u underlying22 Ut rfl (by decide) rfl rfl rfl t3 (A5.mono l3.sub) (u.rdO t0) D6 P6 λE6 E5 F6 w a G6 hU o=>?_
 replace u:=hU _ (.tail (.tail (.tail .head)))
 replace u:=u.drop .head
 refine ⟨λ_=>(St.ldsX u l3.sub (Aa t0 (Aa t1 (Aa t3 (Aa t4 (Aa t5 Ah)))))),?_⟩
 refine ds 10 (St.ldsX u l3.sub (Aa t0 (Aa t1 (Aa t3 (Aa t4 (Aa t5 Ah)))))) o rfl (Af o Ch rfl) λo=>da1 (i:=11) (by kernel_rfl) ?_
 refine di (i:=11) rfl<|Ay o u sizeOf22 rfl rfl rfl rfl (.tail (.tail (.tail (.tail (.tail .head))))) .zero λw u=>⟨λh=>absurd rfl h,?_⟩
 refine de (by kernel_rfl)<|bn<|tn<|rg<|qm o rfl λo=>qv o (Am o rfl rfl) λo=>qa o rfl λo=>re<|tn<|?_
 exact ⟨(M4,O6,(IntKind.i64.wrap (Y3+1))),⟨H85,E6,E5,F6,hm,(Ext.trans M3 l3),o.hs,u,G6⟩,Nat.lt_succ_self _⟩
 refine tn<|cfv o rfl U4<|we<|tx<|tx<|bx<|tn<|?_
 exact ⟨X3,u3,D4,L3,E4,hm,M3,o.hs,u,A5⟩
 rintro a w ⟨Y0,T2,F1,j0,D3,hm,B1,o,u,F5⟩
 unfold Z19 at hm
 refine th<|th<|rg<|qa o rfl λo=>re<|tn<|Au (λa w=>∃ (B2:(List api_Claim)) (G4:PH) (E3:Option Addr) (C2:Nat) (I4:List Value),(Z1a U0 V0 R0 S0 Y0) B2=some r∧Ext w0 T2 G4∧Fr 72 [(2,PT V1),(3,PT P1)] a∧St w0 Nil [G4] [bk V1 [.slice none 0 0,.slice none 0 0,.slice none 0 0,.slice none 0 0,.slice none 0 0,.slice none 0 0] 27,sla 23 1 F1 Y0.length j0 D3,sla 53 3 n0 U0.length P0 P2,sla 53 3 Q0 V0.length J0 R1,sla 74 2 E3 B2.length C2 I4,bk P1 [SL F1 Y0 j0,SL n0 U0 P0,SL Q0 V0 J0,SL C1 R0 W0,SL E1 S0 X0,SL E3 B2 C2] 27] w∧Rows G4 I4 B2) ?_ ?_
 replace u:=u.nilS 74 2
 replace u:=u.pk [1,1,1,1,1,0,0] rfl
 refine wb<|lp (α:=Nat×(List api_Claim)×Int) (λgh a w=>match gh with | (P4,U2,V2)=>∃ (A4:PH) (O3:Option Addr) (F3:Nat) (P3:List Value),(Z1c N (Z1a U0 V0 R0 S0 Y0) p1) P4 U2 V2=some r∧Ext w0 T2 A4∧Fr 72 [(1,PT M2),(2,PT V1),(3,PT P1),(5,i6 V2)] a∧St w0 Nil [A4] [bk M2 [SL K4 p1.Lines Q3,SL oa8 p1.Vols cap9,SL R3 p1.Locks X2,SL S3 p1.Threads Y2,SL T3 p1.Recover A3,SL U3 p1.Claims B3] 27,bk V1 [.slice none 0 0,.slice none 0 0,.slice none 0 0,.slice none 0 0,.slice none 0 0,.slice none 0 0] 27,sla 23 1 F1 Y0.length j0 D3,sla 53 3 n0 U0.length P0 P2,sla 53 3 Q0 V0.length J0 R1,sla 74 2 O3 U2.length F3 P3,bk P1 [SL F1 Y0 j0,SL n0 U0 P0,SL Q0 V0 J0,SL C1 R0 W0,SL E1 S0 X0,SL O3 U2 F3] 27] w∧Rows A4 P3 U2) (λgh=>gh.1) (N,[],0) ⟨T2,none,0,[],hm,(Ext.refl _ _),o.hs,u,.nil⟩ ?_
 rintro ⟨P4,U2,V2⟩ a w ⟨A4,O3,F3,P3,hm,G3,o,u,d4⟩
 obtain _ | P4:=P4
 simp [Z1c] at hm
 rw [Z1c] at hm
 refine th<|th<|rg<|qm o rfl λo=>qv o (Af o De rfl) λo=>qv o (Ag o isAgg25 rfl (u.ld.cellB t0 rfl)) λo=>qv o (Ak (α:=api_Claim) (xs:=p1.Claims) o runUnderlying25 rfl) λo=>qv o (Ap o rfl rfl) λo=>qm o rfl λo=>gr (Fk:=[(1,PT M2),(2,PT V1),(3,PT P1),(5,i6 V2),(49,.bool ((decide (V2 < (p1.Claims.length:Int))) && (decide (V2 < 6))))]) 46 3 o u ?_ ?_ ?_
 intro hb o key
 exact qg o (Ab o rfl) λo=>qg o (Ap o rfl rfl) λo=>qk o (Ad o rfl rfl) key u hb
 intro hb o key
 iterate 2 refine qn o λo=>?_
 exact qk o (Ae o rfl rfl) key u hb
 intro a w o u
 refine re<|?_
 rcases bit hm with ⟨X4,hm⟩ | ⟨X4,hm⟩
 refine tn<|ctv o rfl X4<|wk<|tn<|th<|wb<|?_
 obtain ⟨n3,Q4,hm⟩:=bs hm
 obtain ⟨u6,Q6,j4⟩:=SR.get T4 Q4
 obtain ⟨T6,R6,rfl,G5,I5⟩:=Ck Q6
 obtain ⟨W2,I6,hm⟩:=bs hm
 obtain ⟨J6,K6,hm⟩:=bs hm
 refine rdL (Aa t0 (Aa t1 (Aa t2 (Aa t3 (Aa t4 (Aa t6 Ah)))))) 19 u wide λw u=>ds 0 (St.ldsX u i2 (Aa t0 (Aa t1 (Aa t2 (Aa t3 (Aa t4 (Aa t6 Ah))))))) o rfl (Af o De rfl) λo=>dq 1 (St.ldsX u i2 (Aa t0 (Aa t1 (Aa t2 (Aa t3 (Aa t4 (Aa t6 Ah))))))) o rfl (λw hl=>Ag o isAgg25 rfl (hl.cellB t5 rfl)) λo=>ds 2 (St.ldsX u i2 (Aa t0 (Aa t1 (Aa t2 (Aa t3 (Aa t4 (Aa t6 Ah))))))) o rfl (Af o De rfl) λo=>dq 3 (St.ldsX u i2 (Aa t0 (Aa t1 (Aa t2 (Aa t3 (Aa t4 (Aa t6 Ah))))))) o rfl (λw hl=>Ag o isAgg25 rfl (hl.cellB t0 rfl)) λo=>ds 4 (St.ldsX u i2 (Aa t0 (Aa t1 (Aa t2 (Aa t3 (Aa t4 (Aa t6 Ah))))))) o rfl (Ab o rfl) λo=>ds 5 (St.ldsX u i2 (Aa t0 (Aa t1 (Aa t2 (Aa t3 (Aa t4 (Aa t6 Ah))))))) o rfl (Ao o runUnderlying25 sizeOf74 rfl rfl Q4 (SR.oaI T4 (by decide) Q4)) λo=>ds 6 (St.ldsX u i2 (Aa t0 (Aa t1 (Aa t2 (Aa t3 (Aa t4 (Aa t6 Ah))))))) o rfl (Af o Ks rfl) λo=>dq 7 (St.ldsX u i2 (Aa t0 (Aa t1 (Aa t2 (Aa t3 (Aa t4 (Aa t6 Ah))))))) o rfl (λw hl=>Ag o isAgg49 rfl (PH.le.cell (λb o hx=>(Lds.le hl) b o ((cp (cp G3.sub B1.sub) F2.sub) b o hx)) (j4 0 _ rfl))) λo=>ds 9 (St.ldsX u i2 (Aa t0 (Aa t1 (Aa t2 (Aa t3 (Aa t4 (Aa t6 Ah))))))) o rfl (Af o De rfl) λo=>dq 10 (St.ldsX u i2 (Aa t0 (Aa t1 (Aa t2 (Aa t3 (Aa t4 (Aa t6 Ah))))))) o rfl (λw hl=>Ag o isAgg25 rfl (hl.cellB t0 rfl)) λo=>ds 11 (St.ldsX u i2 (Aa t0 (Aa t1 (Aa t2 (Aa t3 (Aa t4 (Aa t6 Ah))))))) o rfl (Ab o rfl) λo=>ds 12 (St.ldsX u i2 (Aa t0 (Aa t1 (Aa t2 (Aa t3 (Aa t4 (Aa t6 Ah))))))) o rfl (Ao o runUnderlying25 sizeOf74 rfl rfl Q4 (SR.oaI T4 (by decide) Q4)) λo=>ds 13 (St.ldsX u i2 (Aa t0 (Aa t1 (Aa t2 (Aa t3 (Aa t4 (Aa t6 Ah))))))) o rfl (Af o La rfl) λo=>dq 14 (St.ldsX u i2 (Aa t0 (Aa t1 (Aa t2 (Aa t3 (Aa t4 (Aa t6 Ah))))))) o rfl (λw hl=>Ag o isAgg3 rfl (PH.le.cell (λb o hx=>(Lds.le hl) b o ((cp (cp G3.sub B1.sub) F2.sub) b o hx)) (j4 1 _ rfl))) λo=>da1 (i:=8) (by kernel_rfl) ?_
 refine di (i:=8) rfl<|c1 o rfl call48 (Up (Ai _) G5 (St.srH u (I5.mono (cp (cp G3.sub B1.sub) F2.sub))) I6) ⟨rfl,trivial⟩ (λv w a hR o=>?_)
 obtain ⟨I3,E2,U6,rfl,J4,hk⟩:=hR
 replace u:=u.fresh hk
 replace J4:=J4 A4
 refine ⟨λ_=>(St.ldsX u i2 (Aa t1 (Aa t2 (Aa t3 (Aa t4 (Aa t5 (Aa t7 Ah))))))),?_⟩
 refine dq 15 (St.ldsX u i2 (Aa t1 (Aa t2 (Aa t3 (Aa t4 (Aa t5 (Aa t7 Ah))))))) o rfl (λw hl=>Bq [SL I3 W2 E2,i6 n3.At] [SL I3 W2 E2,i6 n3.At] o ⟨rfl,rfl,trivial⟩ (λw=>by kernel_rfl)) λo=>da1 (i:=16) (by kernel_rfl) ?_
 obtain ⟨H115,J3,J5,K5,u⟩:=St.frzS u .head J4
 refine di (i:=16) rfl<|Bi (e:=74) (sz:=2) [SL I3 W2 E2,i6 n3.At] o rfl u rfl rfl rfl (λw=>by kernel_rfl) λY6 w a u o=>?_
 have L5:Rows (α:=api_Claim) H115 [SL I3 W2 E2,i6 n3.At] ([(api_Claim.mk W2 n3.At)]:List api_Claim):=(.cons (c:=[SL I3 W2 E2,i6 n3.At]) ⟨_,_,rfl,⟨_,_,rfl,K5,J5⟩,rfl⟩ .nil)
 refine ⟨λ_=>(St.ldsX u J3.sub (Aa t1 (Aa t2 (Aa t3 (Aa t4 (Aa t5 (Aa t7 Ah))))))),?_⟩
 refine da1 (i:=17) (by kernel_rfl) ?_
 refine di (i:=17) rfl<|Cc (α:=api_Claim) (xs:=U2) (ys:=([(api_Claim.mk W2 n3.At)]:List api_Claim)) o rfl u underlying25 Xg rfl (by decide) rfl rfl rfl t6 (d4.mono J3.sub) (u.rdO t0) L5 K6 λM5 C5 O5 w a P5 hU o=>?_
 replace u:=hU _ (.tail (.tail (.tail (.tail (.tail (.tail .head))))))
 replace u:=u.drop .head
 refine ⟨λ_=>(St.ldsX u J3.sub (Aa t0 (Aa t1 (Aa t2 (Aa t3 (Aa t4 (Aa t6 Ah))))))),?_⟩
 refine ds 18 (St.ldsX u J3.sub (Aa t0 (Aa t1 (Aa t2 (Aa t3 (Aa t4 (Aa t6 Ah))))))) o rfl (Af o De rfl) λo=>da1 (i:=19) (by kernel_rfl) ?_
 refine di (i:=19) rfl<|Ay o u sizeOf25 rfl rfl rfl rfl (.tail (.tail (.tail (.tail (.tail (.tail .head)))))) (.succ (.succ (.succ (.succ (.succ .zero))))) λw u=>⟨λh=>absurd rfl h,?_⟩
 refine de (by kernel_rfl)<|bn<|tn<|rg<|qm o rfl λo=>qv o (Am o rfl rfl) λo=>qa o rfl λo=>re<|tn<|?_
 exact ⟨(P4,J6,(IntKind.i64.wrap (V2+1))),⟨H115,M5,C5,O5,hm,(Ext.trans G3 J3),o.hs,u,P5⟩,Nat.lt_succ_self _⟩
 refine tn<|cfv o rfl X4<|we<|tx<|tx<|bx<|tn<|?_
 replace u:=u.pk [1,1,1,1,1,1] rfl
 exact ⟨U2,A4,O3,F3,P3,hm,G3,o.has ⟨rfl,rfl,trivial⟩,u,d4⟩
 rintro a w ⟨B2,G4,E3,C2,I4,hm,Q1,o,u,Q5⟩
 unfold Z1a at hm
 refine th<|rg<|qv o (Ax o Tryz.isAgg27 Tryz.sizeOf27 rfl rfl (u.ld.cellsB t5)) λo=>ls<|Aw o u sizeOf27 rfl rfl rfl rfl (Al rfl) .head λw u=>re<|tn<|wr<|?_
 obtain ⟨H128,G2,R5,S5,u⟩:=St.frzS u (.tail .head) (F5.mono Q1.sub)
 obtain ⟨H132,I2,T5,U5,u⟩:=St.frzS u (.tail .head) (k5.mono (cp (cp G2.sub Q1.sub) B1.sub))
 obtain ⟨H136,J2,V5,W5,u⟩:=St.frzS u (.tail .head) (D5.mono (cp (cp (cp I2.sub G2.sub) Q1.sub) B1.sub))
 obtain ⟨H140,K2,X5,Y5,u⟩:=St.frzS u (.tail .head) (Q5.mono (cp (cp J2.sub I2.sub) G2.sub))
 obtain rfl:=si hm
 exact r1c (vs:=[SL F1 Y0 j0,SL n0 U0 P0,SL Q0 V0 J0,SL C1 R0 W0,SL E1 S0 X0,SL E3 B2 C2]) (.inl rfl) o results15 rfl isAgg27 sizeOf27 rfl (u.ld.cellsB t0) ⟨H140,_,rfl,(show Enc.rep (α:=api_Prog) H140 [SL F1 Y0 j0,SL n0 U0 P0,SL Q0 V0 J0,SL C1 R0 W0,SL E1 S0 X0,SL E3 B2 C2] (api_Prog.mk Y0 U0 V0 R0 S0 B2) from ⟨_,_,rfl,⟨_,_,rfl,S5,(R5.mono (cp (cp K2.sub J2.sub) I2.sub))⟩,⟨_,_,rfl,⟨_,_,rfl,U5,(T5.mono (cp K2.sub J2.sub))⟩,⟨_,_,rfl,⟨_,_,rfl,W5,(V5.mono K2.sub)⟩,⟨_,_,rfl,⟨_,_,rfl,hcA18,(hrA19.mono (cp (cp (cp (cp (cp K2.sub J2.sub) I2.sub) G2.sub) Q1.sub) B1.sub))⟩,⟨_,_,rfl,⟨_,_,rfl,hcA23,(hrA24.mono (cp (cp (cp (cp (cp K2.sub J2.sub) I2.sub) G2.sub) Q1.sub) B1.sub))⟩,⟨_,_,rfl,Y5,X5⟩⟩⟩⟩⟩⟩),(Ext.trans F2 (Ext.trans B1 (Ext.trans Q1 (Ext.trans G2 (Ext.trans I2 (Ext.trans J2 K2)))))),(St.le u),u.keep⟩
theorem JbE (hH:H.le w0) {cs2:List Value} {p1:api_Prog} (g3:Enc.rep H cs2 p1) {r:api_Prog} (hm:Z8g N p1=some r):Tot Tryz.prog 65 #[.agg cs2.toArray] w0 (λv w'=>∃ (H':PH) (b0:Nat) (cs0:List Value),v=.func (.func 108) #[] #[PT b0]∧H' b0=some (.cells cs0.toArray 27 (0,0))∧Enc.rep H' cs0 r∧Ext w0 H H'∧H'.le w'∧Keep Nil w0 w'):=by
 unfold Z8g at hm
 refine fn0 func65 rfl ntmps65 rfl rfl λa o=>?_
 have u:St w0 Nil [H] [] w0:=start1 hH
 obtain ⟨P0,I0,oa8,cap9,J0,D0,K0,E0,M0,F0,O0,G0,rfl,B1,C1,R0,S0,T0,U0,V0,W0,X0,Y0,j0,n0⟩:=Ba g3
 refine th<|rg<|ls<|Bt (cs:=[SL P0 p1.Lines I0,SL oa8 p1.Vols cap9,SL J0 p1.Locks D0,SL K0 p1.Threads E0,SL M0 p1.Recover F0,SL O0 p1.Claims G0].toArray) o rfl u rfl rfl λQ0 w a u o=>qa o rfl λo=>re<|tn<|th<|rg<|qv o (Nb (vs:=[PT Q0]) o ⟨rfl,trivial⟩) λo=>qa o rfl λo=>re<|tn<|wr<|?_
 obtain ⟨H31,C0,u0,u⟩:=St.frzB u .head
 obtain rfl:=si hm
 exact r1 o results65 rfl ⟨H31,Q0,_,rfl,u0,(show Enc.rep (α:=api_Prog) H31 [SL P0 p1.Lines I0,SL oa8 p1.Vols cap9,SL J0 p1.Locks D0,SL K0 p1.Threads E0,SL M0 p1.Recover F0,SL O0 p1.Claims G0] p1 from ⟨_,_,rfl,⟨_,_,rfl,B1,(C1.mono C0.sub)⟩,⟨_,_,rfl,⟨_,_,rfl,R0,(S0.mono C0.sub)⟩,⟨_,_,rfl,⟨_,_,rfl,T0,(U0.mono C0.sub)⟩,⟨_,_,rfl,⟨_,_,rfl,V0,(W0.mono C0.sub)⟩,⟨_,_,rfl,⟨_,_,rfl,X0,(Y0.mono C0.sub)⟩,⟨_,_,rfl,j0,(n0.mono C0.sub)⟩⟩⟩⟩⟩⟩),C0,(St.le u),u.keep⟩
theorem Jcs (hH:H.le w0) {τ:Type} {y:τ→(api_Cell×Int)→Option (τ×Bool)} {C:τ→PH→List HA→Prop} {lyl:Nat} (hy:YC Tryz.prog lyl C (λ(H:PH) (args:List Value) (x:api_Cell×Int)=>∃ (cs0:List Value),args=[.agg cs0.toArray,i6 x.2]∧Enc.rep H cs0 x.1) y) (_:∀ s H H' L,(∀ b o,H b=some o→H' b=some o)→C s H L→C s H' L) {s0:τ} {Lc:List HA} (hC:C s0 H Lc) {cs3:List Value} {y2:api_Prog} (g4:Enc.rep H cs3 y2) {b1:Nat} (F1:H b1=some (.cells cs3.toArray 27 (0,0))) (hO:(sepA [sepA Lc]).ok (hp w0)) (hD:∀ b,(sepA [sepA Lc]).fp b→H b=none) {r:τ} (hm:Z8h N y s0 y2=some r):Tot Tryz.prog 108 #[.func (.yield lyl) #[] #[],PT b1] w0 (λv w'=>∃ (H':PH) (Lcq:List HA),v=.tuple #[]∧C r H' Lcq∧ExtM w0 (sepA [sepA Lc]).fp H H'∧H'.le w'∧(∀ b,(sepA [sepA Lcq]).fp b→H' b=none)∧Mut w0 (sepA [sepA Lc]) (sepA [sepA Lcq]) w'):=by
 unfold Z8h at hm
 refine fn0 func108 rfl ntmps108 rfl rfl λa o=>?_
 have u:=Cn hH hO hD
 obtain ⟨G1,U0,X1,T1,U2,P2,V2,Q2,W2,R2,X2,T2,rfl,K3,V1,Y2,I1,A3,B3,C3,D3,E3,F3,G3,I3⟩:=Ba g4
 refine th<|th<|rg<|qv o (Af o Ch rfl) λo=>qv o (Ag o isAgg22 rfl (PH.le.cell (Lds.le u.ld) (Dr F1 rfl))) λo=>qv o (Ak (α:=(List api_Cell)) (xs:=y2.Lines) o runUnderlying22 rfl) λo=>qm o rfl λo=>re<|tn<|Au (λa w=>∃ (n0:τ) (M0:PH) (LcA3:List HA),(Z8i N y y2) n0=some r∧ExtM w0 (sepA [sepA Lc]).fp H M0∧Fr 48 [(0,.func (.yield lyl) #[] #[]),(1,PT b1)] a∧St w0 (sepA [sepA Lc]).fp [M0] [sepA LcA3] w∧C n0 M0 LcA3) ?_ ?_
 refine wb<|lp (α:=Nat×Int×τ) (λgh a w=>match gh with | (K0,C0,P0)=>∃ (J0:PH) (LcB4:List HA),(Z8k N (Z8i N y y2) y y2) K0 C0 P0=some r∧ExtM w0 (sepA [sepA Lc]).fp H J0∧Fr 48 [(0,.func (.yield lyl) #[] #[]),(1,PT b1),(10,SL G1 y2.Lines U0),(11,i6 (y2.Lines.length:Int)),(12,i6 C0)] a∧St w0 (sepA [sepA Lc]).fp [J0] [sepA LcB4] w∧C P0 J0 LcB4) (λgh=>gh.1) (N,0,s0) ⟨H,Lc,hm,(ExtM.refl _ _ _),o.hs,u,hC⟩ ?_
 rintro ⟨K0,C0,P0⟩ a w ⟨J0,LcB4,hm,F0,o,u,hCB5⟩
 obtain _ | K0:=K0
 simp [Z8k] at hm
 rw [Z8k] at hm
 refine th<|rg<|qv o (Ap o rfl rfl) λo=>re<|?_
 rcases bip hm with ⟨V0,hm⟩ | ⟨V0,hm⟩
 refine tn<|th<|ctv o rfl V0<|wk<|tn<|th<|Au (λa w=>∃ (u0:τ) (Q0:PH) (LcC3:List HA),(Z8j (Z8k N (Z8i N y y2) y y2 K0) C0) u0=some r∧ExtM w0 (sepA [sepA Lc]).fp J0 Q0∧Fr 48 [(0,.func (.yield lyl) #[] #[]),(1,PT b1),(10,SL G1 y2.Lines U0),(11,i6 (y2.Lines.length:Int)),(12,i6 C0)] a∧St w0 (sepA [sepA Lc]).fp [Q0] [sepA LcC3] w∧C u0 Q0 LcC3) ?_ ?_
 refine wb<|th<|?_
 obtain ⟨B1,J1,hm⟩:=bs hm
 obtain ⟨L3,F2,Y1⟩:=SR.get V1 J1
 obtain ⟨B2,U1,rfl,J3,M1⟩:=F2
 refine rg<|qm o rfl λo=>qv o (Ao o runUnderlying22 sizeOf23 rfl rfl J1 (SR.oaI V1 (by decide) J1)) λo=>qv o (Ag o isAgg23 rfl (PH.le.cell (λb o hx=>(Lds.le u.ld) b o (F0.sub b o hx)) (Y1 0 _ rfl))) λo=>?_
 iterate 2 refine qa o rfl λo=>?_
 refine re<|tn<|th<|rg<|qm o rfl λo=>qv o (Ak (α:=api_Cell) (xs:=B1) o runUnderlying23 rfl) λo=>qm o rfl λo=>re<|tn<|wb<|lp (α:=Nat×Int×τ) (λgh a w=>match gh with | (R0,C1,E1)=>∃ (HD1:PH) (LcD4:List HA),(Z8l N (Z8j (Z8k N (Z8i N y y2) y y2 K0) C0) y B1 C0) R0 C1 E1=some r∧ExtM w0 (sepA [sepA Lc]).fp J0 HD1∧Fr 48 [(0,.func (.yield lyl) #[] #[]),(1,PT b1),(3,i6 C0),(10,SL G1 y2.Lines U0),(11,i6 (y2.Lines.length:Int)),(12,i6 C0),(17,SL B2 B1 U1),(18,i6 (B1.length:Int)),(19,i6 C1)] a∧St w0 (sepA [sepA Lc]).fp [HD1] [sepA LcD4] w∧C E1 HD1 LcD4) (λgh=>gh.1) (N,0,P0) ⟨J0,LcB4,hm,(ExtM.refl _ _ _),o.hs,u,hCB5⟩ ?_
 rintro ⟨R0,C1,E1⟩ a w ⟨HD1,LcD4,hm,hxHD1,o,u,hCD5⟩
 obtain _ | R0:=R0
 simp [Z8l] at hm
 rw [Z8l] at hm
 refine th<|rg<|qv o (Ap o rfl rfl) λo=>re<|?_
 rcases bip hm with ⟨W0,hm⟩ | ⟨W0,hm⟩
 refine tn<|th<|ctv o rfl W0<|wk<|tn<|th<|wb<|th<|?_
 obtain ⟨D0,O1,hm⟩:=bs hm
 obtain ⟨M3,G2,C2⟩:=SR.get M1 O1
 obtain rfl:=Bu G2
 refine rg<|qv o (Ao o Tryz.runUnderlying23 Tryz.sizeOf53 rfl rfl O1 (SR.oaI M1 (by decide) O1)) λo=>qv o (Ax o isAgg53 sizeOf53 rfl rfl (λj v hj=>PH.le.cell (λb o hx=>(Lds.le u.ld) b o ((cp hxHD1.sub F0.sub) b o hx)) (C2 j v hj))) λo=>ls<|Av (cs:=[Ac [],i6 0,i6 0].toArray) o rfl u zeroValue53 rfl λO3 w a u o=>ls<|Aw o u sizeOf53 rfl rfl rfl rfl (Al rfl) .head λw u=>re<|tn<|th<|?_
 obtain ⟨I2,J2,hm⟩:=bs hm
 refine rg<|qm o rfl λo=>qv o (Ax o isAgg53 sizeOf53 rfl rfl (u.ld.cellsB t0)) λo=>qm o rfl λo=>lsy rfl<|ly (vs:=[.agg #[Ac D0.Name,i6 D0.N,i6 D0.At],i6 C0]) o rfl rfl ⟨rfl,rfl,trivial⟩ hy u t1 hCD5 ⟨[Ac D0.Name,i6 D0.N,i6 D0.At],rfl,(show Enc.rep (α:=api_Cell) HD1 [Ac D0.Name,i6 D0.N,i6 D0.At] D0 from ⟨_,_,rfl,rfl,⟨_,_,rfl,rfl,rfl⟩⟩)⟩ J2 (λa w H52 Lc51 hC50 P1 hU o=>?_)
 replace u:=hU _ (.tail .head)
 refine qv o (Az o rfl) λo=>re<|?_
 rcases bit hm with ⟨X0,hm⟩ | ⟨X0,hm⟩
 refine tn<|cfv o rfl (by rw [X0];rfl)<|wk<|bn<|tn<|rg<|qv o (Am o rfl rfl) λo=>qm o rfl λo=>re<|tn<|?_
 replace u:=u.pk [1] rfl
 exact ⟨(R0,(IntKind.i64.wrap (C1+1)),I2.1),⟨H52,Lc51,hm,(ExtM.trans hxHD1 P1),o.hs,u,hC50⟩,Nat.lt_succ_self _⟩
 refine tn<|ctv o rfl (by rw [X0];rfl)<|wr<|br<|tr<|tr<|br<|br<|tr<|tr<|br<|tr<|?_
 obtain rfl:=si hm
 exact r0 o results108 ⟨H52,Lc51,rfl,hC50,(ExtM.trans F0 (ExtM.trans hxHD1 P1)),(St.le u),(St.disL (u.pickL (.cons (.tail .head) .nil))),(u.pickL (.cons (.tail .head) .nil)).endMut⟩
 refine tn<|th<|cfv o rfl W0<|we<|tx<|tx<|bx<|bn<|tn<|?_
 exact ⟨E1,HD1,LcD4,hm,hxHD1,o.hs,u,hCD5⟩
 rintro a w ⟨u0,Q0,LcC3,hm,hxHC1,o,u,hCC4⟩
 unfold Z8j at hm
 refine rg<|qv o (Am o rfl rfl) λo=>qm o rfl λo=>re<|tn<|?_
 exact ⟨(K0,(IntKind.i64.wrap (C0+1)),u0),⟨Q0,LcC3,hm,(ExtM.trans F0 hxHC1),o.hs,u,hCC4⟩,Nat.lt_succ_self _⟩
 refine tn<|th<|cfv o rfl V0<|we<|tx<|tx<|bx<|tn<|?_
 exact ⟨P0,J0,LcB4,hm,F0,o.has ⟨rfl,rfl,trivial⟩,u,hCB5⟩
 rintro a w ⟨n0,M0,LcA3,hm,G0,o,u,hCA4⟩
 unfold Z8i at hm
 refine th<|rg<|qv o (Af o Ec rfl) λo=>qv o (Ag o isAgg23 rfl (PH.le.cell (λb o hx=>(Lds.le u.ld) b o (G0.sub b o hx)) (Dr F1 rfl))) λo=>qv o (Ak (α:=api_Cell) (xs:=y2.Vols) o runUnderlying23 rfl) λo=>qm o rfl λo=>re<|tn<|wb<|lp (α:=Nat×Int×τ) (λgh a w=>match gh with | (S0,T0,Q1)=>∃ (O0:PH) (LcA8:List HA),(Z8m N y y2) S0 T0 Q1=some r∧ExtM w0 (sepA [sepA Lc]).fp M0 O0∧Fr 48 [(0,.func (.yield lyl) #[] #[]),(1,PT b1),(31,SL X1 y2.Vols T1),(32,i6 (y2.Vols.length:Int)),(33,i6 T0)] a∧St w0 (sepA [sepA Lc]).fp [O0] [sepA LcA8] w∧C Q1 O0 LcA8) (λgh=>gh.1) (N,0,n0) ⟨M0,LcA3,hm,(ExtM.refl _ _ _),o.hs,u,hCA4⟩ ?_
 rintro ⟨S0,T0,Q1⟩ a w ⟨O0,LcA8,hm,I0,o,u,hCA9⟩
 obtain _ | S0:=S0
 simp [Z8m] at hm
 rw [Z8m] at hm
 refine th<|rg<|qv o (Ap o rfl rfl) λo=>re<|?_
 rcases bip hm with ⟨Y0,hm⟩ | ⟨Y0,hm⟩
 refine tn<|th<|ctv o rfl Y0<|wk<|tn<|th<|wb<|th<|?_
 obtain ⟨E0,R1,hm⟩:=bs hm
 obtain ⟨P3,K2,E2⟩:=SR.get I1 R1
 obtain rfl:=Bu K2
 refine rg<|qm o rfl λo=>qv o (Ao o runUnderlying23 sizeOf53 rfl rfl R1 (SR.oaI I1 (by decide) R1)) λo=>qv o (Ax o isAgg53 sizeOf53 rfl rfl (λj v hj=>PH.le.cell (λb o hx=>(Lds.le u.ld) b o ((cp I0.sub G0.sub) b o hx)) (E2 j v hj))) λo=>ls<|Av (cs:=[Ac [],i6 0,i6 0].toArray) o rfl u zeroValue53 rfl λQ3 w a u o=>qa o rfl λo=>ls<|Aw o u sizeOf53 rfl rfl rfl rfl (Al rfl) .head λw u=>re<|tn<|th<|?_
 obtain ⟨M2,O2,hm⟩:=bs hm
 refine rg<|qm o rfl λo=>qv o (Ax o isAgg53 sizeOf53 rfl rfl (u.ld.cellsB t0)) λo=>qv o (Af o Ch rfl) λo=>qv o (Ag o isAgg22 rfl (PH.le.cell (λb o hx=>(Lds.le u.ld) b o ((cp I0.sub G0.sub) b o hx)) (Dr F1 rfl))) λo=>qv o (Ak (α:=(List api_Cell)) (xs:=y2.Lines) o runUnderlying22 rfl) λo=>qm o rfl λo=>qv o (Am o rfl rfl) λo=>lsy rfl<|ly (vs:=[.agg #[Ac E0.Name,i6 E0.N,i6 E0.At],i6 (IntKind.i64.wrap ((y2.Lines.length:Int)+T0))]) o rfl rfl ⟨rfl,rfl,trivial⟩ hy u t1 hCA9 ⟨[Ac E0.Name,i6 E0.N,i6 E0.At],rfl,(show Enc.rep (α:=api_Cell) O0 [Ac E0.Name,i6 E0.N,i6 E0.At] E0 from ⟨_,_,rfl,rfl,⟨_,_,rfl,rfl,rfl⟩⟩)⟩ O2 (λa w H66 Lc65 hC64 S1 hU o=>?_)
 replace u:=hU _ (.tail .head)
 refine qv o (Az o rfl) λo=>re<|?_
 rcases bit hm with ⟨j0,hm⟩ | ⟨j0,hm⟩
 refine tn<|cfv o rfl (by rw [j0];rfl)<|wk<|bn<|tn<|rg<|qv o (Am o rfl rfl) λo=>qm o rfl λo=>re<|tn<|?_
 replace u:=u.pk [1] rfl
 exact ⟨(S0,(IntKind.i64.wrap (T0+1)),M2.1),⟨H66,Lc65,hm,(ExtM.trans I0 S1),o.hs,u,hC64⟩,Nat.lt_succ_self _⟩
 refine tn<|ctv o rfl (by rw [j0];rfl)<|wr<|br<|tr<|tr<|br<|?_
 obtain rfl:=si hm
 exact r0 o results108 ⟨H66,Lc65,rfl,hC64,(ExtM.trans G0 (ExtM.trans I0 S1)),(St.le u),(St.disL (u.pickL (.cons (.tail .head) .nil))),(u.pickL (.cons (.tail .head) .nil)).endMut⟩
 refine tn<|th<|cfv o rfl Y0<|we<|tx<|tx<|bx<|?_
 obtain rfl:=si hm
 exact r0n o results108 ⟨O0,LcA8,rfl,hCA9,(ExtM.trans G0 I0),(St.le u),(St.disL (u.pickL (.cons .head .nil))),(u.pickL (.cons .head .nil)).endMut⟩
theorem Xb (hH:H.le w0) {p1:Str} {p2:Int} {p3:Int} {b5:Nat} {p4:(List (Str×Int))} {mz6 cz8:Nat} {l7:List (Str×Value×Nat)} (F0:MRel kI l7 p4) {b11:Nat} {p10:Bool} {b13:Nat} {p12:Int} (hO:(sepA [bk b5 [.map (some mz6)] 75,Cl kS mz6 l7 cz8,bk b11 [.bool p10] 4,bk b13 [i6 p12] 3]).ok (hp w0)) (hD:∀ b,(sepA [bk b5 [.map (some mz6)] 75,Cl kS mz6 l7 cz8,bk b11 [.bool p10] 4,bk b13 [i6 p12] 3]).fp b→H b=none) {r:((List (Str×Int))×Bool×Int)} (hm:Z8r N p1 p2 p3 p4 p10 p12=some r):Tot Tryz.prog 78 #[Ac p1,i6 p2,i6 p3,PT b5,PT b11,PT b13] w0 (λv w'=>∃ (m1m:Nat) (l1m:List (Str×Value×Nat)) (c1m:Nat),v=.tuple #[]∧MRel kI l1m r.1∧Mut w0 (sepA [bk b5 [.map (some mz6)] 75,Cl kS mz6 l7 cz8,bk b11 [.bool p10] 4,bk b13 [i6 p12] 3]) (sepA [bk b5 [.map (some m1m)] 75,Cl kS m1m l1m c1m,bk b11 [.bool r.2.1] 4,bk b13 [i6 r.2.2] 3]) w'):=by
 unfold Z8r at hm
 refine fn0 func78 rfl ntmps78 rfl rfl λa o=>?_
 have u:=Cn hH hO hD
 refine th<|th<|rg<|qv o (Ag o Tryz.isAgg75 rfl (u.ld.cellB t0 rfl)) λo=>qm o rfl λo=>qv o (Iy (ev:=kI) (dv:=0) (m:=p4) (k:=p1) o Ny runUnderlying75 zeroValue3 (Lds.mapO u.ld t1) rfl rfl F0) λo=>qv o (Br o rfl rfl) λo=>qm o rfl λo=>gr (Fk:=[(0,Ac p1),(1,i6 p2),(2,i6 p3),(3,PT b5),(4,PT b11),(5,PT b13),(16,.bool ((decide (((Bf p1 p4).getD 0)≠0)) && (!p10)))]) 13 3 o u ?_ ?_ ?_
 intro hb o key
 exact qg o (Ag o isAgg4 rfl (u.ld.cellB t2 rfl)) λo=>qg o (Az o rfl) λo=>qk o (Ad o rfl rfl) key u hb
 intro hb o key
 iterate 2 refine qn o λo=>?_
 exact qk o (Ae o rfl rfl) key u hb
 intro a w o u
 refine re<|tn<|Au (λa w=>∃ (D0:Bool) (E0:Int),(Z8s p1 p2 p4) D0 E0=some r∧Fr 21 [(0,Ac p1),(1,i6 p2),(3,PT b5),(4,PT b11),(5,PT b13)] a∧St w0 (sepA [bk b5 [.map (some mz6)] 75,Cl kS mz6 l7 cz8,bk b11 [.bool p10] 4,bk b13 [i6 p12] 3]).fp [H] [Cl kS mz6 l7 cz8,bk b5 [.map (some mz6)] 75,bk b11 [.bool D0] 4,bk b13 [i6 E0] 3] w) ?_ ?_
 rcases bit hm with ⟨C0,hm⟩ | ⟨C0,hm⟩
 refine ctv o rfl C0<|rg<|qm o rfl λo=>ls<|Ay o u sizeOf3 rfl rfl rfl rfl (.tail (.tail (.tail .head))) .zero λw u=>ls<|Ay o u sizeOf4 rfl rfl rfl rfl (.tail (.tail .head)) .zero λw u=>re<|tn<|?_
 replace u:=u.pk [1,0,0,0] rfl
 exact ⟨true,p3,hm,o.hs,u⟩
 refine cfv o rfl C0<|wk<|tn<|?_
 replace u:=u.pk [1,0,0,0] rfl
 exact ⟨p10,p12,hm,o.hs,u⟩
 rintro a w ⟨D0,E0,hm,o,u⟩
 unfold Z8s at hm
 refine rg<|qv o (Ag o Tryz.isAgg75 rfl (u.ld.cellB t1 rfl)) λo=>?_
 iterate 2 refine qm o rfl λo=>?_
 refine ls<|Vj (ev:=kI) (m:=p4) (k:=p1) (v:=p2) o u Ny runUnderlying75 rfl rfl rfl t0 F0 λI0 J0 w G0 hU=>?_
 replace u:=hU _ .head
 refine re<|?_
 obtain rfl:=si hm
 exact r0n o results78 ⟨mz6,I0,J0,rfl,G0,(u.pickL (.cons (.tail .head) (.cons .head (.cons .head (.cons .head .nil))))).endMut⟩
set_option maxHeartbeats 4000000 in
theorem JbN (hH:H.le w0) {cs2:List Value} {p1:api_Prog} (g3:Enc.rep H cs2 p1) {r:((List (Str×Int))×Int×Bool)} (hm:Z8q N p1=some r):Tot Tryz.prog 49 #[.agg cs2.toArray] w0 (λv w'=>∃ (m0:Nat) (l0:List (Str×Value×Nat)) (c0:Nat),v=.tuple #[.map (some m0),i6 r.2.1,.bool r.2.2]∧MRel kI l0 r.1∧Fresh w0 (Cl kS m0 l0 c0) w'):=by
 unfold Z8q at hm
 refine fnM func49 rfl ntmps49 rfl rfl λa o=>?_
 have u:St w0 Nil [H] [] w0:=start1 hH
 replace u:=St.ds0 u
 obtain ⟨E1,U0,oa8,cap9,P0,F0,Q0,G0,V0,J0,W0,K0,rfl,I5,J5,W3,X3,Y3,P2,l3,Q2,n3,u3,A4,B4⟩:=Ba g3
 refine th<|rg<|ls<|Bt (cs:=[SL E1 p1.Lines U0,SL oa8 p1.Vols cap9,SL P0 p1.Locks F0,SL Q0 p1.Threads G0,SL V0 p1.Recover J0,SL W0 p1.Claims K0].toArray) o rfl u rfl rfl λR0 w a u o=>?_
 iterate 3 refine qa o rfl λo=>?_
 refine re<|tn<|th<|rg<|ls<|Wn o rfl u λm29 w a u o=>?_
 replace u:=St.gmap0 (kv:=kS) u
 have C4:MRel (κ:=Str) (β:=Int) kI [] []:=MRel.nil _
 refine ls<|Av (cs:=[.map none].toArray) o rfl u zeroValue75 rfl λC0 w a u o=>ls<|Ay o u sizeOf75 rfl rfl rfl rfl .head .zero λw u=>re<|tn<|th<|rg<|ls<|Av (cs:=[i6 0].toArray) o rfl u Tryz.zeroValue3 rfl λD0 w a u o=>re<|tn<|th<|rg<|ls<|Av (cs:=[.bool false].toArray) o rfl u Tryz.zeroValue4 rfl λE0 w a u o=>ls<|Ay o u sizeOf4 rfl rfl rfl rfl .head .zero λw u=>re<|tn<|th<|rg<|qv o (Nb (vs:=[PT C0,PT E0,PT D0]) o ⟨rfl,rfl,rfl,trivial⟩) λo=>ls<|Av (cs:=[.nilFunc].toArray) o rfl u zeroValue105 rfl λM0 w a u o=>ls<|Ay o u sizeOf105 rfl rfl rfl rfl .head .zero λw u=>re<|tn<|th<|th<|?_
 obtain ⟨I1,K5,hm⟩:=bs hm
 refine rg<|qv o (Ax o Tryz.isAgg27 Tryz.sizeOf27 rfl rfl (u.ld.cellsB t5)) λo=>ls<|c1 o rfl call65 (JbE (St.le u) (show Enc.rep (α:=api_Prog) H [SL E1 p1.Lines U0,SL oa8 p1.Vols cap9,SL P0 p1.Locks F0,SL Q0 p1.Threads G0,SL V0 p1.Recover J0,SL W0 p1.Claims K0] p1 from ⟨_,_,rfl,⟨_,_,rfl,I5,J5⟩,⟨_,_,rfl,⟨_,_,rfl,W3,X3⟩,⟨_,_,rfl,⟨_,_,rfl,Y3,P2⟩,⟨_,_,rfl,⟨_,_,rfl,l3,Q2⟩,⟨_,_,rfl,⟨_,_,rfl,n3,u3⟩,⟨_,_,rfl,A4,B4⟩⟩⟩⟩⟩⟩) K5) ⟨rfl,trivial⟩ (λv w a hR o=>?_)
 obtain ⟨H40,I2,cs43,rfl,D4,L5,J1,E4,hk⟩:=hR
 obtain ⟨u,J1⟩:=And.intro (St.passH u hk J1 E4) (St.extc u J1)
 obtain ⟨F4,J3,G4,K3,I4,L3,J4,M3,K4,O3,L4,P3,rfl,M4,O4,P4,Q4,R4,S4,T4,U4,V4,W4,X4,Y4⟩:=Ba L5
 refine re<|tn<|wb<|?_
 replace o:Fr 65 [(1,PT R0),(5,PT C0),(6,PT D0),(7,PT E0),(8,PT M0),(19,.func (.func 108) #[] #[PT I2])] _:=o.hs
 replace u:=u.pk [6,5,4,3,2,1,0] rfl
 obtain ⟨q69,M5,hm⟩:=bs hm
 refine rf (ŝ:=q69) (lb:=[PT I2]) (ps:=[20,21]) (I:=λ(gh:((List (Str×Int))×Int×Bool)) (n0:PH) (L:List HA)=>match gh with | (F1,S0,T0)=>∃ (I0:Nat) (X0:List (Str×Value×Nat)) (Y0:Nat),L=[bk R0 [SL E1 p1.Lines U0,SL oa8 p1.Vols cap9,SL P0 p1.Locks F0,SL Q0 p1.Threads G0,SL V0 p1.Recover J0,SL W0 p1.Claims K0] 27,Cl kS I0 X0 Y0,bk C0 [.map (some I0)] 75,bk D0 [i6 S0] 3,bk E0 [.bool T0] 4,bk M0 [.func (.func 78) #[] #[PT C0,PT E0,PT D0]] 105]∧(∀ b o,H40 b=some o→n0 b=some o)∧MRel kI X0 F1) (J:=λ(_:Empty) (_:Code) (_:PH) (_:List HA)=>False) (λ(s:((List (Str×Int))×Int×Bool)) (x:(api_Cell×Int))=>(Z8t N p1) s.1 s.2.1 s.2.2 x) (λ(H:PH) (args:List Value) (x:api_Cell×Int)=>∃ (cs0:List Value),args=[.agg cs0.toArray,i6 x.2]∧Enc.rep H cs0 x.1) o rfl call108 rfl (by rintro H args x ⟨_,rfl,_⟩;rfl) u ⟨m29,[],0,rfl,i2,C4⟩ (by rintro ⟨F1,S0,T0⟩ H Hn L hs ⟨I0,X0,Y0,rfl,hu,hmA6⟩;exact ⟨_,_,_,rfl,(cp hs hu),hmA6⟩) (λt=>t.elim) (λlq C Lc w1 hyc hcm hc hle hok hdis=>Wp (Jcs hle hyc hcm hc (show Enc.rep (α:=api_Prog) H40 [SL F4 I1.Lines J3,SL G4 I1.Vols K3,SL I4 I1.Locks L3,SL J4 I1.Threads M3,SL K4 I1.Recover O3,SL L4 I1.Claims P3] I1 from ⟨_,_,rfl,⟨_,_,rfl,M4,O4⟩,⟨_,_,rfl,⟨_,_,rfl,P4,Q4⟩,⟨_,_,rfl,⟨_,_,rfl,R4,S4⟩,⟨_,_,rfl,⟨_,_,rfl,T4,U4⟩,⟨_,_,rfl,⟨_,_,rfl,V4,W4⟩,⟨_,_,rfl,X4,Y4⟩⟩⟩⟩⟩⟩) D4 (Sl hok) (Pg hdis) M5)) ?_ ?_ ?_
 intro l X Y s O0 r n0 Lu args w0 a K Qr hI hex hm o u hK hN hR
 obtain ⟨F1,S0,T0⟩:=s
 obtain ⟨I0,X0,Y0,rfl,Q3,hmA6⟩:=hI
 replace hm:(Z8t N p1) F1 S0 T0 O0=some r:=hm
 unfold Z8t at hm
 obtain ⟨cs130,rfl,d4⟩:=hex
 replace o:Fr 65 [(21,i6 O0.2),(20,.agg cs130.toArray),(1,PT R0),(5,PT C0),(6,PT D0),(7,PT E0),(8,PT M0),(19,.func (.func 108) #[] #[PT I2])] a:=o
 obtain rfl:=Bu d4
 refine th<|rg<|ls<|Av (cs:=[Ac [],i6 0,i6 0].toArray) o rfl u Tryz.zeroValue53 rfl λF3 w a u o=>ls<|Aw o u sizeOf53 rfl rfl rfl rfl (Al rfl) .head λw u=>re<|tn<|rg<|qa o rfl λo=>re<|?_
 replace u:=u.pk [1,0,0,0,0,0,0,0] rfl
 refine tn<|hK _ _ _ _ u λw u=>wb<|th<|rg<|qa o rfl λo=>re<|tn<|th<|th<|rg<|qm o rfl λo=>qv o (Af o Ch rfl) λo=>qv o (Ag o isAgg22 rfl (u.ld.cellB t2 rfl)) λo=>qv o (Ak (α:=(List api_Cell)) (xs:=p1.Lines) o runUnderlying22 rfl) λo=>qv o (Bl o rfl rfl) λo=>re<|tn<|Au (λa w=>∃ (C3:Int),(Z8u N O0 F1 S0 T0) C3=some r∧Fr 65 [(1,PT R0),(5,PT C0),(6,PT D0),(7,PT E0),(8,PT M0),(9,PT F3),(11,i6 C3),(19,.func (.func 108) #[] #[PT I2])] a∧St w0 (sepA (X :: [bk R0 [SL E1 p1.Lines U0,SL oa8 p1.Vols cap9,SL P0 p1.Locks F0,SL Q0 p1.Threads G0,SL V0 p1.Recover J0,SL W0 p1.Claims K0] 27,Cl kS I0 X0 Y0,bk C0 [.map (some I0)] 75,bk D0 [i6 S0] 3,bk E0 [.bool T0] 4,bk M0 [.func (.func 78) #[] #[PT C0,PT E0,PT D0]] 105])).fp [n0] [bk R0 [SL E1 p1.Lines U0,SL oa8 p1.Vols cap9,SL P0 p1.Locks F0,SL Q0 p1.Threads G0,SL V0 p1.Recover J0,SL W0 p1.Claims K0] 27,Cl kS I0 X0 Y0,bk C0 [.map (some I0)] 75,bk D0 [i6 S0] 3,bk E0 [.bool T0] 4,bk M0 [.func (.func 78) #[] #[PT C0,PT E0,PT D0]] 105,bk F3 [Ac O0.1.Name,i6 O0.1.N,i6 O0.1.At] 53,Y] w) ?_ ?_
 rcases bip hm with ⟨T1,hm⟩ | ⟨T1,hm⟩
 refine ctv o rfl T1<|rg<|qa o rfl λo=>re<|tn<|?_
 replace u:=u.pk [2,2,2,2,2,2,1,0] rfl
 exact ⟨2,hm,o.hs,u⟩
 refine cfv o rfl T1<|wk<|tn<|?_
 replace u:=u.pk [2,2,2,2,2,2,1,0] rfl
 exact ⟨1,hm,o.hs,u⟩
 rintro a w ⟨C3,hm,o,u⟩
 unfold Z8u at hm
 obtain ⟨W5,j4,hm⟩:=bs hm
 refine rg<|qv o (Ag o Tryz.isAgg105 rfl (u.ld.cellB t5 rfl)) λo=>qv o (Af o Er rfl) λo=>qv o (Ag o isAgg9 rfl (u.ld.cellB t6 rfl)) λo=>qm o rfl λo=>qv o (Af o Jq rfl) λo=>qv o (Ag o isAgg3 rfl (u.ld.cellB t6 rfl)) λo=>?_
 replace u:=u.pk [2,1,2,1,0,0,0,0] rfl
 replace u:=St.sep [bk C0 [.map (some I0)] 75,Cl kS I0 X0 Y0,bk E0 [.bool T0] 4,bk D0 [i6 S0] 3] u
 refine ls<|k1 (vs:=[Ac O0.1.Name,i6 C3,i6 O0.1.At]) (caps:=[PT C0,PT E0,PT D0]) o rfl rfl call78 (Xb (St.le u) (p4:=F1) (b5:=C0) (mz6:=I0) (l7:=X0) (cz8:=Y0) (p10:=T0) (b11:=E0) (p12:=S0) (b13:=D0) hmA6 (St.sepOk u) (St.sepDis u) j4) ⟨rfl,rfl,rfl,trivial⟩ rfl (λv w a hR o=>?_)
 obtain ⟨m136,k4,l4,rfl,R3,hk⟩:=hR
 replace u:=(u.mut hk .head).unsep
 refine re<|bn<|?_
 obtain rfl:=si hm
 replace u:=u.pk [7,4,1,0,1,0,0] rfl
 exact hN _ _ _ _ _ rfl (ExtM.refl _ _ _) ⟨m136,k4,l4,rfl,Q3,R3⟩ u
 rintro ⟨F1,S0,T0⟩ D140 n0 Lu a w rfl ⟨I0,X0,Y0,rfl,huHA1,hmA6⟩ G1 o u
 replace G1:=ExtM.nil G1
 try dsimp only at hm
 replace o:Fr ⟨65,(D140 :: [])⟩ [(1,PT R0),(5,PT C0),(6,PT D0),(7,PT E0),(8,PT M0),(19,.func (.func 108) #[] #[PT I2])] a:=o
 replace u:St w0 Nil [n0] [dsA (D140 :: []),bk R0 [SL E1 p1.Lines U0,SL oa8 p1.Vols cap9,SL P0 p1.Locks F0,SL Q0 p1.Threads G0,SL V0 p1.Recover J0,SL W0 p1.Claims K0] 27,Cl kS I0 X0 Y0,bk C0 [.map (some I0)] 75,bk D0 [i6 S0] 3,bk E0 [.bool T0] 4,bk M0 [.func (.func 78) #[] #[PT C0,PT E0,PT D0]] 105] w:=u
 refine bn<|tn<|th<|th<|rg<|qv o (Af o Ek rfl) λo=>qv o (Ag o isAgg23 rfl (u.ld.cellB t1 rfl)) λo=>qv o (Ak (α:=api_Cell) (xs:=p1.Locks) o runUnderlying23 rfl) λo=>qm o rfl λo=>re<|tn<|Au (λa w=>∃ (U1:(List (Str×Int))) (V1:Int) (X1:Bool) (D3:Nat) (Y1:List (Str×Value×Nat)) (R2:Nat),(Z8v N p1) U1 V1 X1=some r∧Fr ⟨65,(D140 :: [])⟩ [(1,PT R0),(5,PT C0),(6,PT D0),(7,PT E0),(8,PT M0)] a∧St w0 Nil [n0] [bk R0 [SL E1 p1.Lines U0,SL oa8 p1.Vols cap9,SL P0 p1.Locks F0,SL Q0 p1.Threads G0,SL V0 p1.Recover J0,SL W0 p1.Claims K0] 27,Cl kS D3 Y1 R2,bk C0 [.map (some D3)] 75,bk D0 [i6 V1] 3,bk E0 [.bool X1] 4,bk M0 [.func (.func 78) #[] #[PT C0,PT E0,PT D0]] 105,dsA (D140 :: [])] w∧MRel kI Y1 U1) ?_ ?_
 replace u:=u.pk [1,1,1,1,1,1,0] rfl
 refine wb<|lp (α:=Nat×(List (Str×Int))×Int×Bool×Int) (λ(gh:Nat×(List (Str×Int))×Int×Bool×Int) a w=>match gh with | (J2,K2,Q1,R1,E3)=>∃ (M1:Nat) (S1:List (Str×Value×Nat)) (M2:Nat),(Z8x N (Z8v N p1) p1) J2 K2 Q1 R1 E3=some r∧Fr ⟨65,(D140 :: [])⟩ [(1,PT R0),(5,PT C0),(6,PT D0),(7,PT E0),(8,PT M0),(35,SL P0 p1.Locks F0),(36,i6 (p1.Locks.length:Int)),(37,i6 E3)] a∧St w0 Nil [n0] [bk R0 [SL E1 p1.Lines U0,SL oa8 p1.Vols cap9,SL P0 p1.Locks F0,SL Q0 p1.Threads G0,SL V0 p1.Recover J0,SL W0 p1.Claims K0] 27,Cl kS M1 S1 M2,bk C0 [.map (some M1)] 75,bk D0 [i6 Q1] 3,bk E0 [.bool R1] 4,bk M0 [.func (.func 78) #[] #[PT C0,PT E0,PT D0]] 105,dsA (D140 :: [])] w∧MRel kI S1 K2) (λgh=>gh.1) (N,F1,S0,T0,0) ⟨I0,X0,Y0,hm,o.hs,u,hmA6⟩ ?_
 rintro ⟨J2,K2,Q1,R1,E3⟩ a w ⟨M1,S1,M2,hm,o,u,hmB6⟩
 obtain _ | J2:=J2
 simp [Z8x] at hm
 rw [Z8x] at hm
 refine th<|rg<|qv o (Ap o rfl rfl) λo=>re<|?_
 rcases bip hm with ⟨B2,hm⟩ | ⟨B2,hm⟩
 refine tn<|th<|ctv o rfl B2<|wk<|tn<|th<|wb<|th<|?_
 obtain ⟨G3,T2,hm⟩:=bs hm
 obtain ⟨X5,u4,S3⟩:=SR.get P2 T2
 obtain rfl:=Bu u4
 refine rg<|qv o (Ao o Tryz.runUnderlying23 Tryz.sizeOf53 rfl rfl T2 (SR.oaI P2 (by decide) T2)) λo=>qv o (Ax o isAgg53 sizeOf53 rfl rfl (λj v hj=>PH.le.cell (λb o hx=>(Lds.le u.ld) b o ((cp G1.sub J1.sub) b o hx)) (S3 j v hj))) λo=>ls<|Av (cs:=[Ac [],i6 0,i6 0].toArray) o rfl u zeroValue53 rfl λY5 w a u o=>ls<|Aw o u sizeOf53 rfl rfl rfl rfl (Al rfl) .head λw u=>re<|tn<|?_
 obtain ⟨U2,A5,hm⟩:=bs hm
 refine rg<|qv o (Ag o Tryz.isAgg105 rfl (u.ld.cellB t6 rfl)) λo=>qv o (Af o Er rfl) λo=>qv o (Ag o isAgg9 rfl (u.ld.cellB t0 rfl)) λo=>qv o (Af o Jq rfl) λo=>qv o (Ag o isAgg3 rfl (u.ld.cellB t0 rfl)) λo=>?_
 replace u:=u.pk [3,2,3,2,0,0,0,0] rfl
 replace u:=St.sep [bk C0 [.map (some M1)] 75,Cl kS M1 S1 M2,bk E0 [.bool R1] 4,bk D0 [i6 Q1] 3] u
 refine ls<|k1 (vs:=[Ac G3.Name,i6 3,i6 G3.At]) (caps:=[PT C0,PT E0,PT D0]) o rfl rfl call78 (Xb (St.le u) (p4:=K2) (b5:=C0) (mz6:=M1) (l7:=S1) (cz8:=M2) (p10:=R1) (b11:=E0) (p12:=Q1) (b13:=D0) hmB6 (St.sepOk u) (St.sepDis u) A5) ⟨rfl,rfl,rfl,trivial⟩ rfl (λv w a hR o=>?_)
 obtain ⟨m151,B5,C5,rfl,T3,hk⟩:=hR
 replace u:=(u.mut hk .head).unsep
 refine re<|bn<|tn<|rg<|qv o (Am o rfl rfl) λo=>qm o rfl λo=>re<|tn<|?_
 replace u:=u.pk [5,1,0,1,0,1,1] rfl
 exact ⟨(J2,U2.1,U2.2.2,U2.2.1,(IntKind.i64.wrap (E3+1))),⟨m151,B5,C5,hm,o.hs,u,T3⟩,Nat.lt_succ_self _⟩
 refine tn<|th<|cfv o rfl B2<|we<|tx<|tx<|bx<|tn<|?_
 exact ⟨K2,Q1,R1,M1,S1,M2,hm,o.hs,u,hmB6⟩
 rintro a w ⟨U1,V1,X1,D3,Y1,R2,hm,o,u,hmA13⟩
 unfold Z8v at hm
 refine th<|th<|rg<|qv o (Af o Cf rfl) λo=>qv o (Ag o isAgg24 rfl (u.ld.cellB t0 rfl)) λo=>qv o (Ak (α:=api_Thread) (xs:=p1.Threads) o runUnderlying24 rfl) λo=>qm o rfl λo=>re<|tn<|Au (λa w=>∃ (V2:(List (Str×Int))) (W2:Int) (X2:Bool) (C2:Nat) (E2:List (Str×Value×Nat)) (Y2:Nat),Z8w V2 W2 X2=some r∧Fr ⟨65,(D140 :: [])⟩ [(5,PT C0),(6,PT D0),(7,PT E0)] a∧St w0 Nil [n0] [Cl kS C2 E2 Y2,bk C0 [.map (some C2)] 75,bk D0 [i6 W2] 3,bk E0 [.bool X2] 4,dsA (D140 :: [])] w∧MRel kI E2 V2) ?_ ?_
 replace u:=u.pk [1,1,1,1,1,1] rfl
 refine wb<|lp (α:=Nat×(List (Str×Int))×Int×Bool×Int) (λ(gh:Nat×(List (Str×Int))×Int×Bool×Int) a w=>match gh with | (O2,O1,u0,B1,F2)=>∃ (j0:Nat) (C1:List (Str×Value×Nat)) (P1:Nat),(Z8y N Z8w p1) O2 O1 u0 B1 F2=some r∧Fr ⟨65,(D140 :: [])⟩ [(5,PT C0),(6,PT D0),(7,PT E0),(8,PT M0),(49,SL Q0 p1.Threads G0),(50,i6 (p1.Threads.length:Int)),(51,i6 F2)] a∧St w0 Nil [n0] [Cl kS j0 C1 P1,bk C0 [.map (some j0)] 75,bk D0 [i6 u0] 3,bk E0 [.bool B1] 4,bk M0 [.func (.func 78) #[] #[PT C0,PT E0,PT D0]] 105,dsA (D140 :: [])] w∧MRel kI C1 O1) (λgh=>gh.1) (N,U1,V1,X1,0) ⟨D3,Y1,R2,hm,o.hs,u,hmA13⟩ ?_
 rintro ⟨O2,O1,u0,B1,F2⟩ a w ⟨j0,C1,P1,hm,o,u,hmB14⟩
 obtain _ | O2:=O2
 simp [Z8y] at hm
 rw [Z8y] at hm
 refine th<|rg<|qv o (Ap o rfl rfl) λo=>re<|?_
 rcases bip hm with ⟨G2,hm⟩ | ⟨G2,hm⟩
 refine tn<|th<|ctv o rfl G2<|wk<|tn<|th<|wb<|th<|?_
 obtain ⟨I3,A3,hm⟩:=bs hm
 obtain ⟨d5,D5,U3⟩:=SR.get Q2 A3
 obtain ⟨Q5,O5,R5,P5,rfl,S5,T5,U5,V5⟩:=Ar D5
 refine rg<|qv o (Ao o Tryz.runUnderlying24 Tryz.sizeOf48 rfl rfl A3 (SR.oaI Q2 (by decide) A3)) λo=>qv o (Ax o isAgg48 sizeOf48 rfl rfl (λj v hj=>PH.le.cell (λb o hx=>(Lds.le u.ld) b o ((cp G1.sub J1.sub) b o hx)) (U3 j v hj))) λo=>ls<|Av (cs:=[Ac [],.slice none 0 0,.slice none 0 0,i6 0].toArray) o rfl u zeroValue48 rfl λj5 w a u o=>ls<|Aw o u sizeOf48 rfl rfl rfl rfl (Al rfl) .head λw u=>re<|tn<|?_
 obtain ⟨B3,E5,hm⟩:=bs hm
 refine rg<|qv o (Ag o Tryz.isAgg105 rfl (u.ld.cellB t5 rfl)) λo=>qv o (Af o Ed rfl) λo=>qv o (Ag o isAgg9 rfl (u.ld.cellB t0 rfl)) λo=>qv o (Af o Ga rfl) λo=>qv o (Ag o isAgg3 rfl (u.ld.cellB t0 rfl)) λo=>?_
 replace u:=u.pk [2,1,2,1,0,0,0] rfl
 replace u:=St.sep [bk C0 [.map (some j0)] 75,Cl kS j0 C1 P1,bk E0 [.bool B1] 4,bk D0 [i6 u0] 3] u
 refine ls<|k1 (vs:=[Ac I3.Name,i6 4,i6 I3.At]) (caps:=[PT C0,PT E0,PT D0]) o rfl rfl call78 (Xb (St.le u) (p4:=O1) (b5:=C0) (mz6:=j0) (l7:=C1) (cz8:=P1) (p10:=B1) (b11:=E0) (p12:=u0) (b13:=D0) hmB14 (St.sepOk u) (St.sepDis u) E5) ⟨rfl,rfl,rfl,trivial⟩ rfl (λv w a hR o=>?_)
 obtain ⟨m172,F5,G5,rfl,V3,hk⟩:=hR
 replace u:=(u.mut hk .head).unsep
 refine re<|bn<|tn<|rg<|qv o (Am o rfl rfl) λo=>qm o rfl λo=>re<|tn<|?_
 replace u:=u.pk [1,0,1,0,1,1] rfl
 exact ⟨(O2,B3.1,B3.2.2,B3.2.1,(IntKind.i64.wrap (F2+1))),⟨m172,F5,G5,hm,o.hs,u,V3⟩,Nat.lt_succ_self _⟩
 refine tn<|th<|cfv o rfl G2<|we<|tx<|tx<|bx<|tn<|?_
 replace u:=u.pk [0,0,0,0,1] rfl
 exact ⟨O1,u0,B1,j0,C1,P1,hm,o.hs,u,hmB14⟩
 rintro a w ⟨V2,W2,X2,C2,E2,Y2,hm,o,u,hmA20⟩
 unfold Z8w at hm
 refine th<|rxS 6 u wide (by kernel_rfl) λw u=>xq u.ld o (λw hl=>Ag o isAgg75 rfl (hl.cellB t1 rfl)) λo=>xq u.ld o (λw hl=>Ag o isAgg3 rfl (hl.cellB t2 rfl)) λo=>xq u.ld o (λw hl=>Ag o isAgg4 rfl (hl.cellB t3 rfl)) λo=>?_
 iterate 3 refine xq u.ld o (λw hl=>Bn o rfl) λo=>?_
 refine xe<|tn<|wr<|?_
 obtain rfl:=si hm
 replace u:=u.pk [4,0,0,0,0] rfl
 exact rM (.inl rfl) o u λw u=>⟨_,Jcn o rfl rfl rfl rfl,⟨C2,E2,Y2,rfl,hmA20,u.endFresh t0⟩⟩
 exact λt=>t.elim
theorem Se (hH:H.le w0) {p1:Int} {r:Bool} (hm:Za3 N p1=some r):Tot Tryz.prog 117 #[.int .u8 p1] w0 (λv w'=>v=.bool r∧Keep Nil w0 w'):=by
 unfold Za3 at hm
 refine fn0 func117 rfl ntmps117 rfl rfl λa o=>?_
 have u:St w0 Nil [H] [] w0:=start1 hH
 refine th<|rg<|qa o rfl λo=>re<|tn<|th<|rg<|qm o rfl λo=>qv o (Bl o rfl rfl) λo=>qm o rfl λo=>gr (Fk:=[(0,.int .u8 p1),(8,.bool ((decide (97≤p1)) && (decide (p1≤122))))]) 5 3 o u ?_ ?_ ?_
 intro hb o key
 exact qg o (Ab o rfl) λo=>qg o (Di o rfl rfl) λo=>qk o (Ad o rfl rfl) key u hb
 intro hb o key
 iterate 2 refine qn o λo=>?_
 exact qk o (Ae o rfl rfl) key u hb
 intro a w o u
 refine qm o rfl λo=>gr (Fk:=[(12,.bool (((decide (97≤p1)) && (decide (p1≤122))) || (decide (p1=95))))]) 9 3 o u ?_ ?_ ?_
 intro hb o key
 iterate 2 refine qn o λo=>?_
 exact qk o (Ad o rfl rfl) key u hb
 intro hb o key
 exact qg o (Ab o rfl) λo=>qg o (An o rfl rfl) λo=>qk o (Ae o rfl rfl) key u hb
 intro a w o u
 refine qa o rfl λo=>re<|tn<|wr<|?_
 obtain rfl:=si hm
 exact r1 o results117 rfl ⟨rfl,u.keep⟩
theorem Jbw (hH:H.le w0) (hT:Tab H)  {r:(List (Str×Bool))} (hm:Za0 N  = some r):Tot Tryz.prog 153 #[] w0 (λv w'=>∃ (m0:Nat) (l0:List (Str×Value×Nat)) (c0:Nat),v=.map (some m0)∧MRel Value.bool l0 r∧Fresh w0 (Cl kS m0 l0 c0) w'):=by
 unfold Za0 at hm
 refine fn0 func153 rfl ntmps153 rfl rfl λa o=>?_
 have u:St w0 Nil [H] [] w0:=start1 hH
 refine th<|rg<|qa o rfl λo=>re<|tn<|th<|rg<|ls<|Wn o rfl u λmz1 w a u o=>?_
 replace u:=St.gmap0 (kv:=kS) u
 have X0:MRel (κ:=Str) (β:=Bool) Value.bool [] []:=MRel.nil _
 refine qa o rfl λo=>re<|tn<|th<|th<|?_
 obtain ⟨D0,h4,hm⟩:=bs hm
 refine rg<|ls<|c1 o rfl Tryz.call165 (Xk (Ai _) (Tab.mono hT (St.up u)) h4) ⟨rfl,rfl,trivial⟩ (λv w a hR o=>?_)
 obtain ⟨T0,M0,Y0,rfl,G0,hk⟩:=hR
 replace u:=u.fresh hk
 replace G0:=G0 H
 refine qv o (Ak (α:=Str) (xs:=D0) o runUnderlying36 rfl) λo=>qm o rfl λo=>re<|tn<|Au (λa w=>∃ (O0:(List (Str×Bool))) (I0:List (Str×Value×Nat)) (P0:Nat),Za1 O0=some r∧Fr 15 [(1,.map (some mz1))] a∧St w0 Nil [H] [Cl kS mz1 I0 P0] w∧MRel Value.bool I0 O0) ?_ ?_
 replace u:=u.pk [1,0] rfl
 refine wb<|lp (α:=Nat×(List (Str×Bool))×Int) (λ(gh:Nat×(List (Str×Bool))×Int) a w=>match gh with | (E0,C0,J0)=>∃ (K0:List (Str×Value×Nat)) (Q0:Nat),(Za2 N Za1 D0) E0 C0 J0=some r∧Fr 15 [(1,.map (some mz1)),(5,SL T0 D0 M0),(6,i6 (D0.length:Int)),(7,i6 J0)] a∧St w0 Nil [H] [Cl kS mz1 K0 Q0,sla 9 1 T0 D0.length M0 Y0] w∧MRel Value.bool K0 C0) (λgh=>gh.1) (N,[],0) ⟨[],0,hm,o.hs,u,X0⟩ ?_
 rintro ⟨E0,C0,J0⟩ a w ⟨K0,Q0,hm,o,u,hmB4⟩
 obtain _ | E0:=E0
 simp [Za2] at hm
 rw [Za2] at hm
 refine th<|rg<|qv o (Ap o rfl rfl) λo=>re<|?_
 rcases bip hm with ⟨F0,hm⟩ | ⟨F0,hm⟩
 refine tn<|th<|ctv o rfl F0<|wk<|tn<|th<|wb<|th<|?_
 obtain ⟨R0,S0,hm⟩:=bs hm
 have U0:=Rd.oaI (u.rdO t1) G0 (by decide) S0
 obtain ⟨j0,n0,V0⟩:=Rows.getI G0 S0
 obtain rfl:j0=[Ac R0]:=n0
 refine rg<|qv o (Ao o Tryz.runUnderlying36 Tryz.sizeOf9 rfl rfl S0 U0) λo=>qv o (Ag o isAgg9 rfl (u.ld.elO t1 (V0 0 _ rfl))) λo=>qa o rfl λo=>re<|tn<|rg<|qm o rfl λo=>qm o rfl λo=>ls<|Vj (ev:=Value.bool) (m:=C0) (k:=R0) (v:=true) o u Ny runUnderlying163 rfl rfl rfl t0 hmB4 λu0 B1 w W0 hU=>?_
 replace u:=hU _ .head
 refine re<|bn<|tn<|rg<|qv o (Am o rfl rfl) λo=>qm o rfl λo=>re<|tn<|?_
 exact ⟨(E0,(Is R0 true C0),(IntKind.i64.wrap (J0+1))),⟨u0,B1,hm,o.hs,u,W0⟩,Nat.lt_succ_self _⟩
 refine tn<|th<|cfv o rfl F0<|we<|tx<|tx<|bx<|tn<|?_
 replace u:=u.pk [0] rfl
 exact ⟨C0,K0,Q0,hm,o.has ⟨rfl,trivial⟩,u,hmB4⟩
 rintro a w ⟨O0,I0,P0,hm,o,u,hmA4⟩
 unfold Za1 at hm
 refine th<|rg<|qm o rfl λo=>qa o rfl λo=>re<|tn<|wr<|?_
 obtain rfl:=si hm
 exact r1 o results153 rfl ⟨mz1,I0,P0,rfl,hmA4,u.endFresh t0⟩
theorem Jbq (hH:H.le w0) (hT:Tab H) {p1:Str} {r:Bool} (hm:Z9v N p1=some r):Tot Tryz.prog 118 #[Ac p1] w0 (λv w'=>v=.bool r∧Keep Nil w0 w'):=by
 unfold Z9v at hm
 refine fn0 func118 rfl ntmps118 rfl rfl λa o=>?_
 have u:St w0 Nil [H] [] w0:=start1 hH
 refine th<|rg<|qa o rfl λo=>re<|tn<|th<|?_
 obtain ⟨C0,h3,hm⟩:=bs hm
 refine rg<|ls<|c1 o rfl Tryz.call153 (Jbw (Ai _) (Tab.mono hT (St.up u)) h3) trivial (λv w a hR o=>?_)
 obtain ⟨mz4,l5,cz6,rfl,D0,hk⟩:=hR
 replace u:=u.fresh hk
 refine qm o rfl λo=>qv o (Iy (ev:=Value.bool) (dv:=false) (m:=C0) (k:=p1) o Ny runUnderlying163 zeroValue4 (Lds.mapO u.ld t0) rfl rfl D0) λo=>qa o rfl λo=>re<|tn<|wr<|?_
 obtain rfl:=si hm
 exact r1 o results118 rfl ⟨rfl,u.keep⟩
theorem Jb1 (hH:H.le w0) {p1:Int} {r:Bool} (hm:Z9z N p1=some r):Tot Tryz.prog 121 #[.int .u8 p1] w0 (λv w'=>v=.bool r∧Keep Nil w0 w'):=by
 unfold Z9z at hm
 refine fn0 func121 rfl ntmps121 rfl rfl λa o=>?_
 have u:St w0 Nil [H] [] w0:=start1 hH
 refine th<|rg<|qa o rfl λo=>re<|tn<|th<|rg<|qm o rfl λo=>qv o (Bl o rfl rfl) λo=>qm o rfl λo=>gr (Fk:=[(8,.bool ((decide (48≤p1)) && (decide (p1≤57))))]) 5 3 o u ?_ ?_ ?_
 intro hb o key
 exact qg o (Ab o rfl) λo=>qg o (Di o rfl rfl) λo=>qk o (Ad o rfl rfl) key u hb
 intro hb o key
 iterate 2 refine qn o λo=>?_
 exact qk o (Ae o rfl rfl) key u hb
 intro a w o u
 refine qa o rfl λo=>re<|tn<|wr<|?_
 obtain rfl:=si hm
 exact r1 o results121 rfl ⟨rfl,u.keep⟩
theorem Jc9 (hH:H.le w0) {p1:Int} {r:Bool} (hm:Z9x N p1=some r):Tot Tryz.prog 120 #[.int .u8 p1] w0 (λv w'=>v=.bool r∧Keep Nil w0 w'):=by
 unfold Z9x at hm
 refine fn0 func120 rfl ntmps120 rfl rfl λa o=>?_
 have u:St w0 Nil [H] [] w0:=start1 hH
 refine th<|rg<|qa o rfl λo=>re<|tn<|th<|?_
 obtain ⟨D0,h3,hm⟩:=bs hm
 rcases bit hm with ⟨C0,hm⟩ | ⟨C0,hm⟩
 refine rg<|qm o rfl λo=>ls<|cr o call117 (Se (Ai _) h3) u λu o=>qv o (Aq (Ab o rfl) (congrArg Value.bool C0)) λo=>?_
 iterate 2 refine qn o λo=>?_
 refine qv o (Ad o rfl rfl) λo=>qa o rfl λo=>re<|tn<|wr<|?_
 obtain rfl:=si hm
 exact r1 o results120 rfl ⟨rfl,u.keep⟩
 obtain ⟨E0,h6,hm⟩:=bs hm
 refine rg<|qm o rfl λo=>ls<|cr o call117 (Se (Ai _) h3) u λu o=>qv o (Aq (Ab o rfl) (congrArg Value.bool C0)) λo=>qg o (Ab o rfl) λo=>ls<|gy o rfl rfl<|cr o call121 (Jb1 (Ai _) h6) u λu o=>qv o (Ae o rfl rfl) λo=>qa o rfl λo=>re<|tn<|wr<|?_
 obtain rfl:=si hm
 exact r1 o results120 rfl ⟨rfl,u.keep⟩
theorem Jcd (hH:H.le w0) {p1:Str} {r:Int} (hm:Za4 N p1=some r):Tot Tryz.prog 119 #[Ac p1,.func (.func 120) #[] #[]] w0 (λv w'=>v=i6 r∧Keep Nil w0 w'):=by
 unfold Za4 at hm
 refine fn0 func119 rfl ntmps119 rfl rfl λa o=>?_
 have u:St w0 Nil [H] [] w0:=start1 hH
 refine th<|rg<|qa o rfl λo=>re<|tn<|th<|rg<|qa o rfl λo=>re<|tn<|th<|Au (λa w=>∃ (E0:Int),Za5 E0=some r∧Fr 20 [(5,i6 E0)] a∧St w0 Nil [H] [] w) ?_ ?_
 refine wb<|lp (α:=Nat×Int) (λgh a w=>match gh with | (D0,C0)=>(Za7 N Za5 p1) D0 C0=some r∧Fr 20 [(0,Ac p1),(1,.func (.func 120) #[] #[]),(5,i6 C0)] a∧St w0 Nil [H] [] w) (λgh=>gh.1) (N,0) ⟨hm,o.hs,u⟩ ?_
 rintro ⟨D0,C0⟩ a w ⟨hm,o,u⟩
 obtain _ | D0:=D0
 simp [Za7] at hm
 rw [Za7] at hm
 refine th<|th<|Au (λa w=>∃ (F0:Bool),(Za6 Za5 (Za7 N Za5 p1 D0) C0) F0=some r∧Fr 20 [(0,Ac p1),(1,.func (.func 120) #[] #[]),(5,i6 C0),(16,.bool F0)] a∧St w0 Nil [H] [] w) ?_ ?_
 rcases bip hm with ⟨G0,hm⟩ | ⟨G0,hm⟩
 obtain ⟨J0,h4,hm⟩:=bs hm
 obtain ⟨K0,h6,hm⟩:=bs hm
 refine rg<|qm o rfl λo=>qm o rfl λo=>qv o (Bp (s:=p1) o runUnderlying9 rfl) λo=>qv o (Ap o rfl rfl) λo=>qv o (Aq (Ab o rfl) (congrArg Value.bool G0)) λo=>?_
 iterate 3 refine qg o (Ab o rfl) λo=>?_
 refine qg o (Ct (s:=p1) o runUnderlying9 rfl rfl h4) λo=>ls<|gy o rfl rfl<|k1 (vs:=[.int .u8 J0]) (caps:=[]) o rfl rfl call120 (Jc9 (Ai _) h6) ⟨rfl,trivial⟩ rfl (λv w a hR o=>?_)
 obtain ⟨rfl,hk⟩:=hR
 replace u:=u.pass hk
 refine qv o (Ad o rfl rfl) λo=>re<|tn<|?_
 exact ⟨K0,hm,o.hs,u⟩
 refine rg<|qm o rfl λo=>qm o rfl λo=>qv o (Bp (s:=p1) o runUnderlying9 rfl) λo=>qv o (Ap o rfl rfl) λo=>qv o (Aq (Ab o rfl) (congrArg Value.bool G0)) λo=>?_
 iterate 5 refine qn o λo=>?_
 refine qv o (Ae o rfl rfl) λo=>re<|tn<|?_
 exact ⟨false,hm,o.hs,u⟩
 rintro a w ⟨F0,hm,o,u⟩
 unfold Za6 at hm
 rcases bit hm with ⟨I0,hm⟩ | ⟨I0,hm⟩
 refine ctv o rfl I0<|wk<|tn<|wb<|rg<|qm o rfl λo=>qv o (Am o rfl rfl) λo=>qa o rfl λo=>re<|bn<|tn<|?_
 exact ⟨(D0,(IntKind.i64.wrap (C0+1))),⟨hm,o.hs,u⟩,Nat.lt_succ_self _⟩
 refine cfv o rfl I0<|we<|tx<|tx<|bx<|tn<|?_
 exact ⟨C0,hm,o.has ⟨rfl,trivial⟩,u⟩
 rintro a w ⟨E0,hm,o,u⟩
 unfold Za5 at hm
 refine th<|rg<|qm o rfl λo=>qa o rfl λo=>re<|tn<|wr<|?_
 obtain rfl:=si hm
 exact r1 o results119 rfl ⟨rfl,u.keep⟩
theorem Mc (hH:H.le w0) (hT:Tab H) {p1:Str} {r:Bool} (hm:Z9w N p1=some r):Tot Tryz.prog 82 #[Ac p1] w0 (λv w'=>v=.bool r∧Keep Nil w0 w'):=by
 unfold Z9w at hm
 refine fn0 func82 rfl ntmps82 rfl rfl λa o=>?_
 have u:St w0 Nil [H] [] w0:=start1 hH
 refine th<|rg<|qa o rfl λo=>re<|tn<|th<|th<|Au (λa w=>∃ (E0:Bool),(Z9y N p1) E0=some r∧Fr 25 [(0,Ac p1),(19,.bool E0)] a∧St w0 Nil [H] [] w) ?_ ?_
 rcases bit hm with ⟨D0,hm⟩ | ⟨D0,hm⟩
 refine rg<|qm o rfl λo=>qv o (Ey (m:=p1) (n:=[]) o rfl rfl) λo=>qm o rfl λo=>gr (Fk:=[(0,Ac p1),(9,.bool ((decide (p1=[])) || (decide (16 < (p1.length:Int)))))]) 5 4 o u ?_ ?_ ?_
 intro hb o key
 iterate 3 refine qn o λo=>?_
 exact qk o (Ad o rfl rfl) key u hb
 intro hb o key
 exact qg o (Ab o rfl) λo=>qg o (Bp (s:=p1) o runUnderlying9 rfl) λo=>qg o (Bb o rfl rfl) λo=>qk o (Ae o rfl rfl) key u hb
 intro a w o u
 refine qv o (Aq (Ab o rfl) (congrArg Value.bool D0)) λo=>?_
 iterate 4 refine qn o λo=>?_
 refine qv o (Ad o rfl rfl) λo=>qm o rfl λo=>?_
 iterate 2 refine qn o λo=>?_
 refine qv o (Ad o rfl rfl) λo=>re<|tn<|?_
 exact ⟨true,hm,o.has ⟨rfl,rfl,trivial⟩,u⟩
 obtain ⟨K0,h4,hm⟩:=bs hm
 obtain ⟨G0,h6,hm⟩:=bs hm
 rcases bit hm with ⟨F0,hm⟩ | ⟨F0,hm⟩
 have F0':(!G0)=false:=by rw [F0];rfl
 obtain ⟨I0,h9,hm⟩:=bs hm
 refine rg<|qm o rfl λo=>qv o (Ey (m:=p1) (n:=[]) o rfl rfl) λo=>qm o rfl λo=>gr (Fk:=[(0,Ac p1),(9,.bool ((decide (p1=[])) || (decide (16 < (p1.length:Int)))))]) 5 4 o u ?_ ?_ ?_
 intro hb o key
 iterate 3 refine qn o λo=>?_
 exact qk o (Ad o rfl rfl) key u hb
 intro hb o key
 exact qg o (Ab o rfl) λo=>qg o (Bp (s:=p1) o runUnderlying9 rfl) λo=>qg o (Bb o rfl rfl) λo=>qk o (Ae o rfl rfl) key u hb
 intro a w o u
 refine qv o (Aq (Ab o rfl) (congrArg Value.bool D0)) λo=>qg o (Ab o rfl) λo=>qg o (Ct (s:=p1) o runUnderlying9 rfl rfl h4) λo=>ls<|gy o rfl rfl<|cr o call117 (Se (Ai _) h6) u λu o=>qg o (Az o rfl) λo=>qv o (Ae o rfl rfl) λo=>qv o (Aq (Ab o rfl) (congrArg Value.bool F0')) λo=>qg o (Ab o rfl) λo=>ls<|gy o rfl rfl<|cr o call118 (Jbq (Ai _) (Tab.mono hT (St.up u)) h9) u λu o=>qv o (Ae o rfl rfl) λo=>re<|tn<|?_
 exact ⟨I0,hm,o.has ⟨rfl,rfl,trivial⟩,u⟩
 have F0':(!G0)=true:=by rw [F0];rfl
 refine rg<|qm o rfl λo=>qv o (Ey (m:=p1) (n:=[]) o rfl rfl) λo=>qm o rfl λo=>gr (Fk:=[(0,Ac p1),(9,.bool ((decide (p1=[])) || (decide (16 < (p1.length:Int)))))]) 5 4 o u ?_ ?_ ?_
 intro hb o key
 iterate 3 refine qn o λo=>?_
 exact qk o (Ad o rfl rfl) key u hb
 intro hb o key
 exact qg o (Ab o rfl) λo=>qg o (Bp (s:=p1) o runUnderlying9 rfl) λo=>qg o (Bb o rfl rfl) λo=>qk o (Ae o rfl rfl) key u hb
 intro a w o u
 refine qv o (Aq (Ab o rfl) (congrArg Value.bool D0)) λo=>qg o (Ab o rfl) λo=>qg o (Ct (s:=p1) o runUnderlying9 rfl rfl h4) λo=>ls<|gy o rfl rfl<|cr o call117 (Se (Ai _) h6) u λu o=>qg o (Az o rfl) λo=>qv o (Ae o rfl rfl) λo=>qv o (Aq (Ab o rfl) (congrArg Value.bool F0')) λo=>?_
 iterate 2 refine qn o λo=>?_
 refine qv o (Ad o rfl rfl) λo=>re<|tn<|?_
 exact ⟨true,hm,o.has ⟨rfl,rfl,trivial⟩,u⟩
 rintro a w ⟨E0,hm,o,u⟩
 unfold Z9y at hm
 rcases bit hm with ⟨C0,hm⟩ | ⟨C0,hm⟩
 refine ctv o rfl C0<|th<|rg<|qa o rfl λo=>re<|tn<|wr<|tr<|?_
 obtain rfl:=si hm
 exact r1 o results82 rfl ⟨rfl,u.keep⟩
 refine cfv o rfl C0<|wk<|tn<|th<|?_
 obtain ⟨M0,J0,hm⟩:=bs hm
 refine rg<|qm o rfl λo=>ls<|cr o call119 (Jcd (Ai _) J0) u λu o=>qm o rfl λo=>qv o (Bp (s:=p1) o runUnderlying9 rfl) λo=>qv o (An o rfl rfl) λo=>qa o rfl λo=>re<|tn<|wr<|?_
 obtain rfl:=si hm
 exact r1 o results82 rfl ⟨rfl,u.keep⟩
theorem Mw (hH:H.le w0) {p1:Int} {r:Bool} (hm:Z9s N p1=some r):Tot Tryz.prog 86 #[i6 p1] w0 (λv w'=>v=.bool r∧Keep Nil w0 w'):=by
 unfold Z9s at hm
 refine fn0 func86 rfl ntmps86 rfl rfl λa o=>?_
 have u:St w0 Nil [H] [] w0:=start1 hH
 refine th<|rg<|qa o rfl λo=>re<|tn<|th<|rg<|qm o rfl λo=>qv o (Bl o rfl rfl) λo=>qm o rfl λo=>gr (Fk:=[(8,.bool ((decide (0≤p1)) && (decide (p1≤4000))))]) 5 3 o u ?_ ?_ ?_
 intro hb o key
 exact qg o (Ab o rfl) λo=>qg o (Di o rfl rfl) λo=>qk o (Ad o rfl rfl) key u hb
 intro hb o key
 iterate 2 refine qn o λo=>?_
 exact qk o (Ae o rfl rfl) key u hb
 intro a w o u
 refine qa o rfl λo=>re<|tn<|wr<|?_
 obtain rfl:=si hm
 exact r1 o results86 rfl ⟨rfl,u.keep⟩
theorem Jbv (hH:H.le w0) (hT:Tab H) {p1:api_Cell} {y3:Int} {b2:Nat} (E0:H b2=some (.cells [i6 y3].toArray 3 (0,0))) {r:Bool} (hm:Z9r N p1 y3=some r):Tot Tryz.prog 116 #[.agg #[Ac p1.Name,i6 p1.N,i6 p1.At],PT b2] w0 (λv w'=>v=.bool r∧Keep Nil w0 w'):=by
 unfold Z9r at hm
 refine fn0 func116 rfl ntmps116 rfl rfl λa o=>?_
 have u:St w0 Nil [H] [] w0:=start1 hH
 refine th<|rg<|ls<|Bt (cs:=[Ac p1.Name,i6 p1.N,i6 p1.At].toArray) o rfl u rfl rfl λb5 w a u o=>qa o rfl λo=>re<|tn<|th<|?_
 obtain ⟨C0,h7,hm⟩:=bs hm
 rcases bit hm with ⟨D0,hm⟩ | ⟨D0,hm⟩
 refine rg<|qv o (Af o Er rfl) λo=>qv o (Ag o isAgg9 rfl (u.ld.cellB t0 rfl)) λo=>ls<|cr o call82 (Mc (Ai _) (Tab.mono hT (St.up u)) h7) u λu o=>qv o (Az o rfl) λo=>qm o rfl λo=>gr (Fk:=[(1,PT b2),(2,PT b5),(12,.bool ((!C0) || (decide (p1.N < 0))))]) 8 4 o u ?_ ?_ ?_
 intro hb o key
 iterate 3 refine qn o λo=>?_
 exact qk o (Ad o rfl rfl) key u hb
 intro hb o key
 exact qg o (Af o Gs rfl) λo=>qg o (Ag o isAgg3 rfl (u.ld.cellB t0 rfl)) λo=>qg o (Ap o rfl rfl) λo=>qk o (Ae o rfl rfl) key u hb
 intro a w o u
 refine qm o rfl λo=>gr (Fk:=[(2,PT b5),(18,.bool (((!C0) || (decide (p1.N < 0))) || (decide (y3 < p1.N))))]) 13 5 o u ?_ ?_ ?_
 intro hb o key
 iterate 4 refine qn o λo=>?_
 exact qk o (Ad o rfl rfl) key u hb
 intro hb o key
 exact qg o (Af o Gs rfl) λo=>qg o (Ag o isAgg3 rfl (u.ld.cellB t0 rfl)) λo=>qg o (Ag o isAgg3 rfl (PH.le.cell (Lds.le u.ld) (Dr E0 rfl))) λo=>qg o (Bb o rfl rfl) λo=>qk o (Ae o rfl rfl) key u hb
 intro a w o u
 refine qv o (Aq (Ab o rfl) (congrArg Value.bool D0)) λo=>?_
 iterate 4 refine qn o λo=>?_
 refine qv o (Ad o rfl rfl) λo=>qa o rfl λo=>re<|tn<|wr<|?_
 obtain rfl:=si hm
 exact r1 o results116 rfl ⟨rfl,u.keep⟩
 obtain ⟨G0,F0,hm⟩:=bs hm
 refine rg<|qv o (Af o Er rfl) λo=>qv o (Ag o isAgg9 rfl (u.ld.cellB t0 rfl)) λo=>ls<|cr o call82 (Mc (Ai _) (Tab.mono hT (St.up u)) h7) u λu o=>qv o (Az o rfl) λo=>qm o rfl λo=>gr (Fk:=[(1,PT b2),(2,PT b5),(12,.bool ((!C0) || (decide (p1.N < 0))))]) 8 4 o u ?_ ?_ ?_
 intro hb o key
 iterate 3 refine qn o λo=>?_
 exact qk o (Ad o rfl rfl) key u hb
 intro hb o key
 exact qg o (Af o Gs rfl) λo=>qg o (Ag o isAgg3 rfl (u.ld.cellB t0 rfl)) λo=>qg o (Ap o rfl rfl) λo=>qk o (Ae o rfl rfl) key u hb
 intro a w o u
 refine qm o rfl λo=>gr (Fk:=[(2,PT b5),(18,.bool (((!C0) || (decide (p1.N < 0))) || (decide (y3 < p1.N))))]) 13 5 o u ?_ ?_ ?_
 intro hb o key
 iterate 4 refine qn o λo=>?_
 exact qk o (Ad o rfl rfl) key u hb
 intro hb o key
 exact qg o (Af o Gs rfl) λo=>qg o (Ag o isAgg3 rfl (u.ld.cellB t0 rfl)) λo=>qg o (Ag o isAgg3 rfl (PH.le.cell (Lds.le u.ld) (Dr E0 rfl))) λo=>qg o (Bb o rfl rfl) λo=>qk o (Ae o rfl rfl) key u hb
 intro a w o u
 refine qv o (Aq (Ab o rfl) (congrArg Value.bool D0)) λo=>qg o (Af o Jq rfl) λo=>qg o (Ag o isAgg3 rfl (u.ld.cellB t0 rfl)) λo=>ls<|gy o rfl rfl<|cr o call86 (Mw (Ai _) F0) u λu o=>qg o (Az o rfl) λo=>qv o (Ae o rfl rfl) λo=>qa o rfl λo=>re<|tn<|wr<|?_
 obtain rfl:=si hm
 exact r1 o results116 rfl ⟨rfl,u.keep⟩
theorem JbY (hH:H.le w0) (hT:Tab H) {G0:Option Addr} {D0:Nat} {p1:(List api_Cell)} (_:p1.length≤D0) (M0:SR H G0 p1) {y7:Int} {b6:Nat} (P0:H b6=some (.cells [i6 y7].toArray 3 (0,0))) {r:Int} (hm:Zau N p1 y7=some r):Tot Tryz.prog 152 #[SL G0 p1 D0,.func (.func 116) #[] #[PT b6]] w0 (λv w'=>v=i6 r∧Keep Nil w0 w'):=by
 unfold Zau at hm
 refine fn0 func152 rfl ntmps152 rfl rfl λa o=>?_
 have u:St w0 Nil [H] [] w0:=start1 hH
 refine th<|rg<|qa o rfl λo=>re<|tn<|th<|th<|rg<|qm o rfl λo=>qv o (Ak (α:=api_Cell) (xs:=p1) o runUnderlying23 rfl) λo=>qm o rfl λo=>re<|tn<|Au (λa w=>Zav=some r∧Fr 19 [] a∧St w0 Nil [H] [] w) ?_ ?_
 refine wb<|lp (α:=Nat×Int) (λgh a w=>match gh with | (C0,F0)=>(Zaw N Zav p1 y7) C0 F0=some r∧Fr 19 [(0,SL G0 p1 D0),(1,.func (.func 116) #[] #[PT b6]),(7,i6 (p1.length:Int)),(8,i6 F0)] a∧St w0 Nil [H] [] w) (λgh=>gh.1) (N,0) ⟨hm,o.hs,u⟩ ?_
 rintro ⟨C0,F0⟩ a w ⟨hm,o,u⟩
 obtain _ | C0:=C0
 simp [Zaw] at hm
 rw [Zaw] at hm
 refine th<|rg<|qv o (Ap o rfl rfl) λo=>re<|?_
 rcases bip hm with ⟨I0,hm⟩ | ⟨I0,hm⟩
 refine tn<|th<|ctv o rfl I0<|wk<|tn<|th<|wb<|th<|rg<|qm o rfl λo=>qa o rfl λo=>re<|tn<|th<|?_
 obtain ⟨J0,K0,hm⟩:=bs hm
 obtain ⟨S0,Q0,O0⟩:=SR.get M0 K0
 obtain rfl:=Bu Q0
 obtain ⟨T0,R0,hm⟩:=bs hm
 refine rg<|qm o rfl λo=>?_
 iterate 2 refine qm o rfl λo=>?_
 refine qv o (Ao o runUnderlying23 sizeOf53 rfl rfl K0 (SR.oaI M0 (by decide) K0)) λo=>qv o (Ax o isAgg53 sizeOf53 rfl rfl (λj v hj=>PH.le.cell (Lds.le u.ld) (O0 j v hj))) λo=>ls<|k1 (vs:=[.agg #[Ac J0.Name,i6 J0.N,i6 J0.At]]) (caps:=[PT b6]) o rfl rfl call116 (Jbv (Ai _) (Tab.mono hT (St.up u)) (St.up u _ _ P0) R0) ⟨rfl,trivial⟩ rfl (λv w a hR o=>?_)
 obtain ⟨rfl,hk⟩:=hR
 replace u:=u.pass hk
 refine re<|?_
 rcases bit hm with ⟨E0,hm⟩ | ⟨E0,hm⟩
 refine tn<|ctv o rfl E0<|th<|rg<|qm o rfl λo=>qa o rfl λo=>re<|tn<|wr<|br<|tr<|tr<|br<|tr<|?_
 obtain rfl:=si hm
 exact r1 o results152 rfl ⟨rfl,u.keep⟩
 refine tn<|cfv o rfl E0<|wk<|bn<|tn<|rg<|qv o (Am o rfl rfl) λo=>qm o rfl λo=>re<|tn<|?_
 exact ⟨(C0,(IntKind.i64.wrap (F0+1))),⟨hm,o.hs,u⟩,Nat.lt_succ_self _⟩
 refine tn<|th<|cfv o rfl I0<|we<|tx<|tx<|bx<|tn<|?_
 exact ⟨hm,o.has trivial,u⟩
 rintro a w ⟨hm,o,u⟩
 unfold Zav at hm
 refine th<|rg<|qa o rfl λo=>re<|tn<|wr<|?_
 obtain rfl:=si hm
 exact r1 o results152 rfl ⟨rfl,u.keep⟩
theorem JbG (hH:H.le w0) (hT:Tab H) {D0:Option Addr} {C0:Nat} {p1:(List api_Cell)} (E0:p1.length≤C0) (F0:SR H D0 p1) {y7:Int} {b6:Nat} (G0:H b6=some (.cells [i6 y7].toArray 3 (0,0))) {r:Bool} (hm:Zaf N p1 y7=some r):Tot Tryz.prog 115 #[SL D0 p1 C0,.func (.func 116) #[] #[PT b6]] w0 (λv w'=>v=.bool r∧Keep Nil w0 w'):=by
 unfold Zaf at hm
 refine fn0 func115 rfl ntmps115 rfl rfl λa o=>?_
 have u:St w0 Nil [H] [] w0:=start1 hH
 refine th<|rg<|qa o rfl λo=>re<|tn<|th<|?_
 obtain ⟨J0,I0,hm⟩:=bs hm
 refine rg<|qm o rfl λo=>qm o rfl λo=>ls<|cr o call152 (JbY (Ai _) (Tab.mono hT (St.up u)) E0 (St.srH u F0) (St.up u _ _ G0) I0) u λu o=>qv o (Bl o rfl rfl) λo=>qa o rfl λo=>re<|tn<|wr<|?_
 obtain rfl:=si hm
 exact r1 o results115 rfl ⟨rfl,u.keep⟩
theorem Wd (hH:H.le w0) (hT:Tab H) {D0:Option Addr} {C0:Nat} {p1:(List api_Cell)} (E0:p1.length≤C0) (F0:SR H D0 p1) {p6:Int} {r:Bool} (hm:Z9q N p1 p6=some r):Tot Tryz.prog 80 #[SL D0 p1 C0,i6 p6] w0 (λv w'=>v=.bool r∧Keep Nil w0 w'):=by
 unfold Z9q at hm
 refine fn0 func80 rfl ntmps80 rfl rfl λa o=>?_
 have u:St w0 Nil [H] [] w0:=start1 hH
 refine th<|rg<|ls<|Bt (cs:=[i6 p6].toArray) o rfl u rfl rfl λb7 w a u o=>qa o rfl λo=>re<|tn<|th<|?_
 obtain ⟨G0,h9,hm⟩:=bs hm
 refine rg<|qm o rfl λo=>qv o (Nb (vs:=[PT b7]) o ⟨rfl,trivial⟩) λo=>ls<|cr o call115 (JbG (Ai _) (Tab.mono hT (St.up u)) E0 (St.srH u F0) (St.blkO u t0) h9) u λu o=>qv o (Az o rfl) λo=>qa o rfl λo=>re<|tn<|wr<|?_
 obtain rfl:=si hm
 exact r1 o results80 rfl ⟨rfl,u.keep⟩
theorem Jcm (hH:H.le w0) (hT:Tab H) {E0:Option Addr} {C0:Nat} {p1:(List api_Cell)} (F0:p1.length≤C0) (G0:SR H E0 p1) {r:Bool} (hm:Z9l N p1=some r):Tot Tryz.prog 79 #[SL E0 p1 C0] w0 (λv w'=>v=.bool r∧Keep Nil w0 w'):=by
 unfold Z9l at hm
 refine fn0 func79 rfl ntmps79 rfl rfl λa o=>?_
 have u:St w0 Nil [H] [] w0:=start1 hH
 refine th<|rg<|qa o rfl λo=>re<|tn<|th<|?_
 rcases bip hm with ⟨D0,hm⟩ | ⟨D0,hm⟩
 refine rg<|qm o rfl λo=>qv o (Ak (α:=api_Cell) (xs:=p1) o runUnderlying23 rfl) λo=>qv o (An o rfl rfl) λo=>qv o (Aq (Ab o rfl) (congrArg Value.bool D0)) λo=>?_
 iterate 3 refine qn o λo=>?_
 refine qv o (Ad o rfl rfl) λo=>qa o rfl λo=>re<|tn<|wr<|?_
 obtain rfl:=si hm
 exact r1 o results79 rfl ⟨rfl,u.keep⟩
 obtain ⟨I0,h8,hm⟩:=bs hm
 refine rg<|qm o rfl λo=>qv o (Ak (α:=api_Cell) (xs:=p1) o runUnderlying23 rfl) λo=>qv o (An o rfl rfl) λo=>qv o (Aq (Ab o rfl) (congrArg Value.bool D0)) λo=>qg o (Ab o rfl) λo=>ls<|gy o rfl rfl<|cr o call80 (Wd (Ai _) (Tab.mono hT (St.up u)) F0 (St.srH u G0) h8) u λu o=>qg o (Az o rfl) λo=>qv o (Ae o rfl rfl) λo=>qa o rfl λo=>re<|tn<|wr<|?_
 obtain rfl:=si hm
 exact r1 o results79 rfl ⟨rfl,u.keep⟩
theorem Jb2 (hH:H.le w0) (hT:Tab H) {G0:Option Addr} {D0:Nat} {p1:(List (List api_Cell))} (_:p1.length≤D0) (K0:SR H G0 p1) {r:Int} (hm:Zao N p1=some r):Tot Tryz.prog 129 #[SL G0 p1 D0,.func (.func 79) #[] #[]] w0 (λv w'=>v=i6 r∧Keep Nil w0 w'):=by
 unfold Zao at hm
 refine fn0 func129 rfl ntmps129 rfl rfl λa o=>?_
 have u:St w0 Nil [H] [] w0:=start1 hH
 refine th<|rg<|qa o rfl λo=>re<|tn<|th<|th<|rg<|qm o rfl λo=>qv o (Ak (α:=(List api_Cell)) (xs:=p1) o runUnderlying22 rfl) λo=>qm o rfl λo=>re<|tn<|Au (λa w=>Zap=some r∧Fr 19 [] a∧St w0 Nil [H] [] w) ?_ ?_
 refine wb<|lp (α:=Nat×Int) (λgh a w=>match gh with | (C0,F0)=>(Zaq N Zap p1) C0 F0=some r∧Fr 19 [(0,SL G0 p1 D0),(1,.func (.func 79) #[] #[]),(7,i6 (p1.length:Int)),(8,i6 F0)] a∧St w0 Nil [H] [] w) (λgh=>gh.1) (N,0) ⟨hm,o.hs,u⟩ ?_
 rintro ⟨C0,F0⟩ a w ⟨hm,o,u⟩
 obtain _ | C0:=C0
 simp [Zaq] at hm
 rw [Zaq] at hm
 refine th<|rg<|qv o (Ap o rfl rfl) λo=>re<|?_
 rcases bip hm with ⟨I0,hm⟩ | ⟨I0,hm⟩
 refine tn<|th<|ctv o rfl I0<|wk<|tn<|th<|wb<|th<|rg<|qm o rfl λo=>qa o rfl λo=>re<|tn<|th<|?_
 obtain ⟨R0,h8,hm⟩:=bs hm
 obtain ⟨cz9,S0,M0⟩:=SR.get K0 h8
 obtain ⟨O0,J0,rfl,P0,Q0⟩:=S0
 obtain ⟨U0,T0,hm⟩:=bs hm
 refine rg<|qm o rfl λo=>?_
 iterate 2 refine qm o rfl λo=>?_
 refine qv o (Ao o runUnderlying22 sizeOf23 rfl rfl h8 (SR.oaI K0 (by decide) h8)) λo=>qv o (Ag o isAgg23 rfl (PH.le.cell (Lds.le u.ld) (M0 0 _ rfl))) λo=>ls<|k1 (vs:=[SL O0 R0 J0]) (caps:=[]) o rfl rfl call79 (Jcm (Ai _) (Tab.mono hT (St.up u)) P0 (St.srH u Q0) T0) ⟨rfl,trivial⟩ rfl (λv w a hR o=>?_)
 obtain ⟨rfl,hk⟩:=hR
 replace u:=u.pass hk
 refine re<|?_
 rcases bit hm with ⟨E0,hm⟩ | ⟨E0,hm⟩
 refine tn<|ctv o rfl E0<|th<|rg<|qm o rfl λo=>qa o rfl λo=>re<|tn<|wr<|br<|tr<|tr<|br<|tr<|?_
 obtain rfl:=si hm
 exact r1 o results129 rfl ⟨rfl,u.keep⟩
 refine tn<|cfv o rfl E0<|wk<|bn<|tn<|rg<|qv o (Am o rfl rfl) λo=>qm o rfl λo=>re<|tn<|?_
 exact ⟨(C0,(IntKind.i64.wrap (F0+1))),⟨hm,o.hs,u⟩,Nat.lt_succ_self _⟩
 refine tn<|th<|cfv o rfl I0<|we<|tx<|tx<|bx<|tn<|?_
 exact ⟨hm,o.has trivial,u⟩
 rintro a w ⟨hm,o,u⟩
 unfold Zap at hm
 refine th<|rg<|qa o rfl λo=>re<|tn<|wr<|?_
 obtain rfl:=si hm
 exact r1 o results129 rfl ⟨rfl,u.keep⟩
theorem Jc1 (hH:H.le w0) (hT:Tab H) {D0:Option Addr} {C0:Nat} {p1:(List (List api_Cell))} (E0:p1.length≤C0) (F0:SR H D0 p1) {r:Bool} (hm:Zad N p1=some r):Tot Tryz.prog 88 #[SL D0 p1 C0,.func (.func 79) #[] #[]] w0 (λv w'=>v=.bool r∧Keep Nil w0 w'):=by
 unfold Zad at hm
 refine fn0 func88 rfl ntmps88 rfl rfl λa o=>?_
 have u:St w0 Nil [H] [] w0:=start1 hH
 refine th<|rg<|qa o rfl λo=>re<|tn<|th<|?_
 obtain ⟨G0,h7,hm⟩:=bs hm
 refine rg<|qm o rfl λo=>qm o rfl λo=>ls<|cr o call129 (Jb2 (Ai _) (Tab.mono hT (St.up u)) E0 (St.srH u F0) h7) u λu o=>qv o (Bl o rfl rfl) λo=>qa o rfl λo=>re<|tn<|wr<|?_
 obtain rfl:=si hm
 exact r1 o results88 rfl ⟨rfl,u.keep⟩
theorem Jb3 (hH:H.le w0) (hT:Tab H) {p1:Str} {r:Bool} (hm:Z9u N p1=some r):Tot Tryz.prog 122 #[Ac p1] w0 (λv w'=>v=.bool r∧Keep Nil w0 w'):=by
 unfold Z9u at hm
 refine fn0 func122 rfl ntmps122 rfl rfl λa o=>?_
 have u:St w0 Nil [H] [] w0:=start1 hH
 refine th<|rg<|qa o rfl λo=>re<|tn<|th<|?_
 obtain ⟨C0,h3,hm⟩:=bs hm
 refine rg<|qm o rfl λo=>ls<|cr o call82 (Mc (Ai _) (Tab.mono hT (St.up u)) h3) u λu o=>qv o (Az o rfl) λo=>qa o rfl λo=>re<|tn<|wr<|?_
 obtain rfl:=si hm
 exact r1 o results122 rfl ⟨rfl,u.keep⟩
theorem Jb6 (hH:H.le w0) (hT:Tab H) {G0:Option Addr} {D0:Nat} {p1:(List Str)} (_:p1.length≤D0) (J0:SR H G0 p1) {r:Int} (hm:Zbf N p1=some r):Tot Tryz.prog 154 #[SL G0 p1 D0,.func (.func 122) #[] #[]] w0 (λv w'=>v=i6 r∧Keep Nil w0 w'):=by
 unfold Zbf at hm
 refine fn0 func154 rfl ntmps154 rfl rfl λa o=>?_
 have u:St w0 Nil [H] [] w0:=start1 hH
 refine th<|rg<|qa o rfl λo=>re<|tn<|th<|th<|rg<|qm o rfl λo=>qv o (Ak (α:=Str) (xs:=p1) o runUnderlying36 rfl) λo=>qm o rfl λo=>re<|tn<|Au (λa w=>Zbg=some r∧Fr 19 [] a∧St w0 Nil [H] [] w) ?_ ?_
 refine wb<|lp (α:=Nat×Int) (λgh a w=>match gh with | (C0,F0)=>(Zbh N Zbg p1) C0 F0=some r∧Fr 19 [(0,SL G0 p1 D0),(1,.func (.func 122) #[] #[]),(7,i6 (p1.length:Int)),(8,i6 F0)] a∧St w0 Nil [H] [] w) (λgh=>gh.1) (N,0) ⟨hm,o.hs,u⟩ ?_
 rintro ⟨C0,F0⟩ a w ⟨hm,o,u⟩
 obtain _ | C0:=C0
 simp [Zbh] at hm
 rw [Zbh] at hm
 refine th<|rg<|qv o (Ap o rfl rfl) λo=>re<|?_
 rcases bip hm with ⟨I0,hm⟩ | ⟨I0,hm⟩
 refine tn<|th<|ctv o rfl I0<|wk<|tn<|th<|wb<|th<|rg<|qm o rfl λo=>qa o rfl λo=>re<|tn<|th<|?_
 obtain ⟨K0,h8,hm⟩:=bs hm
 obtain ⟨cz9,O0,M0⟩:=SR.get J0 h8
 obtain rfl:cz9=[Ac K0]:=O0
 obtain ⟨Q0,P0,hm⟩:=bs hm
 refine rg<|qm o rfl λo=>?_
 iterate 2 refine qm o rfl λo=>?_
 refine qv o (Ao o runUnderlying36 sizeOf9 rfl rfl h8 (SR.oaI J0 (by decide) h8)) λo=>qv o (Ag o isAgg9 rfl (PH.le.cell (Lds.le u.ld) (M0 0 _ rfl))) λo=>ls<|k1 (vs:=[Ac K0]) (caps:=[]) o rfl rfl call122 (Jb3 (Ai _) (Tab.mono hT (St.up u)) P0) ⟨rfl,trivial⟩ rfl (λv w a hR o=>?_)
 obtain ⟨rfl,hk⟩:=hR
 replace u:=u.pass hk
 refine re<|?_
 rcases bit hm with ⟨E0,hm⟩ | ⟨E0,hm⟩
 refine tn<|ctv o rfl E0<|th<|rg<|qm o rfl λo=>qa o rfl λo=>re<|tn<|wr<|br<|tr<|tr<|br<|tr<|?_
 obtain rfl:=si hm
 exact r1 o results154 rfl ⟨rfl,u.keep⟩
 refine tn<|cfv o rfl E0<|wk<|bn<|tn<|rg<|qv o (Am o rfl rfl) λo=>qm o rfl λo=>re<|tn<|?_
 exact ⟨(C0,(IntKind.i64.wrap (F0+1))),⟨hm,o.hs,u⟩,Nat.lt_succ_self _⟩
 refine tn<|th<|cfv o rfl I0<|we<|tx<|tx<|bx<|tn<|?_
 exact ⟨hm,o.has trivial,u⟩
 rintro a w ⟨hm,o,u⟩
 unfold Zbg at hm
 refine th<|rg<|qa o rfl λo=>re<|tn<|wr<|?_
 obtain rfl:=si hm
 exact r1 o results154 rfl ⟨rfl,u.keep⟩
theorem Jak (hH:H.le w0) (hT:Tab H) {D0:Option Addr} {C0:Nat} {p1:(List Str)} (E0:p1.length≤C0) (F0:SR H D0 p1) {r:Bool} (hm:Zam N p1=some r):Tot Tryz.prog 123 #[SL D0 p1 C0,.func (.func 122) #[] #[]] w0 (λv w'=>v=.bool r∧Keep Nil w0 w'):=by
 unfold Zam at hm
 refine fn0 func123 rfl ntmps123 rfl rfl λa o=>?_
 have u:St w0 Nil [H] [] w0:=start1 hH
 refine th<|rg<|qa o rfl λo=>re<|tn<|th<|?_
 obtain ⟨G0,h7,hm⟩:=bs hm
 refine rg<|qm o rfl λo=>qm o rfl λo=>ls<|cr o call154 (Jb6 (Ai _) (Tab.mono hT (St.up u)) E0 (St.srH u F0) h7) u λu o=>qv o (Bl o rfl rfl) λo=>qa o rfl λo=>re<|tn<|wr<|?_
 obtain rfl:=si hm
 exact r1 o results123 rfl ⟨rfl,u.keep⟩
theorem JbM (hH:H.le w0)  {r:(Arr 15 Str)} (hm:Zbt N  = some r):Tot Tryz.prog 163 #[] w0 (λv w'=>∃ (H':PH) (cs0:List Value),v=.agg cs0.toArray∧Enc.rep H' cs0 r∧Ext w0 H H'∧H'.le w'∧Keep Nil w0 w'):=by
 unfold Zbt at hm
 refine fn0 func163 rfl ntmps163 rfl rfl λa o=>?_
 have u:St w0 Nil [H] [] w0:=start1 hH
 refine th<|rg<|ls<|Av (cs:=[Ac [],Ac [],Ac [],Ac [],Ac [],Ac [],Ac [],Ac [],Ac [],Ac [],Ac [],Ac [],Ac [],Ac [],Ac []].toArray) o rfl u Tryz.zeroValue176 rfl λb1 w a u o=>re<|tn<|th<|rg<|qv o (Bq [Ac [114,101],Ac [114,110],Ac [110,101],Ac [114,110,101,102],Ac [110],Ac [110],Ac [110],Ac [110],Ac [101,98],Ac [107,98],Ac [101]] [Ac [],Ac [114,101],Ac [114,110],Ac [110,101],Ac [114,110,101,102],Ac [110],Ac [110],Ac [],Ac [],Ac [110],Ac [110],Ac [101,98],Ac [107,98],Ac [],Ac [101]] o ⟨rfl,rfl,rfl,rfl,rfl,rfl,rfl,rfl,rfl,rfl,rfl,trivial⟩ (λw=>by kernel_rfl)) λo=>ls<|Aw o u sizeOf176 rfl rfl rfl rfl (Al rfl) .head λw u=>re<|tn<|wr<|?_
 obtain rfl:=si hm
 exact r1c (vs:=[Ac [],Ac [114,101],Ac [114,110],Ac [110,101],Ac [114,110,101,102],Ac [110],Ac [110],Ac [],Ac [],Ac [110],Ac [110],Ac [101,98],Ac [107,98],Ac [],Ac [101]]) (.inl rfl) o results163 rfl isAgg176 sizeOf176 rfl (u.ld.cellsB t0) ⟨H,_,rfl,(show Enc.rep (α:=(Arr 15 Str)) H [Ac [],Ac [114,101],Ac [114,110],Ac [110,101],Ac [114,110,101,102],Ac [110],Ac [110],Ac [],Ac [],Ac [110],Ac [110],Ac [101,98],Ac [107,98],Ac [],Ac [101]] (⟨[[],[114,101],[114,110],[110,101],[114,110,101,102],[110],[110],[],[],[110],[110],[101,98],[107,98],[],[101]],rfl⟩:(Arr 15 Str)) from (.cons (c:=[Ac []]) rfl (.cons (c:=[Ac [114,101]]) rfl (.cons (c:=[Ac [114,110]]) rfl (.cons (c:=[Ac [110,101]]) rfl (.cons (c:=[Ac [114,110,101,102]]) rfl (.cons (c:=[Ac [110]]) rfl (.cons (c:=[Ac [110]]) rfl (.cons (c:=[Ac []]) rfl (.cons (c:=[Ac []]) rfl (.cons (c:=[Ac [110]]) rfl (.cons (c:=[Ac [110]]) rfl (.cons (c:=[Ac [101,98]]) rfl (.cons (c:=[Ac [107,98]]) rfl (.cons (c:=[Ac []]) rfl (.cons (c:=[Ac [101]]) rfl .nil)))))))))))))))),(Ext.refl _ _),(St.le u),u.keep⟩
theorem JbA (hH:H.le w0) {p1:Int} {r:Str} (hm:Zbl N p1=some r):Tot Tryz.prog 145 #[i6 p1] w0 (λv w'=>v=Ac r∧Keep Nil w0 w'):=by
 unfold Zbl at hm
 refine fn0 func145 rfl ntmps145 rfl rfl λa o=>?_
 have u:St w0 Nil [H] [] w0:=start1 hH
 refine th<|rg<|qa o rfl λo=>re<|tn<|th<|th<|rg<|qm o rfl λo=>qv o (Ap o rfl rfl) λo=>qm o rfl λo=>gr (Fk:=[(0,i6 p1),(8,.bool ((decide (p1 < 0)) || (decide (15≤p1))))]) 5 3 o u ?_ ?_ ?_
 intro hb o key
 iterate 2 refine qn o λo=>?_
 exact qk o (Ad o rfl rfl) key u hb
 intro hb o key
 exact qg o (Ab o rfl) λo=>qg o (Bl o rfl rfl) λo=>qk o (Ae o rfl rfl) key u hb
 intro a w o u
 refine re<|?_
 rcases bit hm with ⟨C0,hm⟩ | ⟨C0,hm⟩
 refine tn<|ctv o rfl C0<|th<|rg<|qa o rfl λo=>re<|tn<|wr<|tr<|?_
 obtain rfl:=si hm
 exact r1 o results145 rfl ⟨rfl,u.keep⟩
 refine tn<|cfv o rfl C0<|wk<|tn<|th<|?_
 obtain ⟨E0,h4,hm⟩:=bs hm
 obtain ⟨J0,F0,hm⟩:=bs hm
 refine rg<|ls<|c1 o rfl Tryz.call163 (JbM (St.le u) h4) trivial (λv w a hR o=>?_)
 obtain ⟨H8,cs9,rfl,K0,D0,M0,hk⟩:=hR
 obtain ⟨u,D0⟩:=And.intro (St.passH u hk D0 M0) (St.extc u D0)
 have G0:Rows H8 cs9 E0.l:=K0
 refine qm o rfl λo=>?_
 obtain ⟨O0,P0,I0⟩:=Rows.getI G0 F0
 obtain rfl:O0=[Ac J0]:=P0
 refine qv o (Ja4 o runUnderlying176 sizeOf9 isAgg9 rfl rfl E0.h F0 (I0 0 _ rfl)) λo=>qa o rfl λo=>re<|tn<|wr<|?_
 obtain rfl:=si hm
 exact r1 o results145 rfl ⟨rfl,u.keep⟩
theorem Hg (hH:H.le w0) (hT:Tab H) {p1:Str} {y3:Str} {b2:Nat} (C0:H b2=some (.cells [Ac y3].toArray 9 (0,0))) {r:Bool} (hm:Zbv N p1 y3=some r):Tot Tryz.prog 146 #[Ac p1,PT b2] w0 (λv w'=>v=.bool r∧Keep Nil w0 w'):=by
 unfold Zbv at hm
 refine fn0 func146 rfl ntmps146 rfl rfl λa o=>?_
 have u:St w0 Nil [H] [] w0:=start1 hH
 refine th<|rg<|qa o rfl λo=>re<|tn<|th<|?_
 obtain ⟨D0,h6,hm⟩:=bs hm
 refine rg<|qv o (Ag o Tryz.isAgg9 rfl (PH.le.cell (Lds.le u.ld) (Dr C0 rfl))) λo=>qm o rfl λo=>ls<|cr o call147 (JcI (Ai _) (Tab.mono hT (St.up u)) h6) u λu o=>qa o rfl λo=>re<|tn<|wr<|?_
 obtain rfl:=si hm
 exact r1 o results146 rfl ⟨rfl,u.keep⟩
theorem Lp (hH:H.le w0) (hT:Tab H) {p1:Bool} {p2:Str} {r:Bool} (hm:Zbw N p1 p2=some r):Tot Tryz.prog 148 #[.bool p1,Ac p2] w0 (λv w'=>v=.bool r∧Keep Nil w0 w'):=by
 unfold Zbw at hm
 refine fn0 func148 rfl ntmps148 rfl rfl λa o=>?_
 have u:St w0 Nil [H] [] w0:=start1 hH
 refine th<|rg<|qa o rfl λo=>re<|tn<|th<|?_
 rcases bit hm with ⟨C0,hm⟩ | ⟨C0,hm⟩
 obtain ⟨D0,h5,hm⟩:=bs hm
 refine rg<|qm o rfl λo=>qv o (Aq (Ab o rfl) (congrArg Value.bool C0)) λo=>qg o (Ab o rfl) λo=>ls<|gy o rfl rfl<|cr o call82 (Mc (Ai _) (Tab.mono hT (St.up u)) h5) u λu o=>qv o (Ad o rfl rfl) λo=>qm o rfl λo=>gr (Fk:=[(17,.bool (D0 || ((!p1) && (decide (p2=[])))))]) 10 7 o u ?_ ?_ ?_
 intro hb o key
 iterate 3 refine qn o λo=>?_
 iterate 2 refine ls<|gnu o rfl rfl rfl λa o=>?_
 exact qn o λo=>qk o (Ad o rfl rfl) key u hb
 intro hb o key
 refine qg o (Ab o rfl) λo=>qg o (Az o rfl) λo=>qg o (Ab o rfl) λo=>gr (Fk:=[(10,.bool false),(16,.bool ((!p1) && (decide (p2=[]))))]) 13 3 o u ?_ ?_ ?_
 intro hb o key
 exact qg o (Ab o rfl) λo=>qg o (Ey (m:=p2) (n:=[]) o rfl rfl) λo=>ql o (Ad o rfl rfl) key u hb
 intro hb o key
 iterate 2 refine qn o λo=>?_
 exact ql o (Ae o rfl rfl) key u hb
 intro a w o u
 exact qk o (Ae o rfl rfl) key u hb
 intro a w o u
 refine qa o rfl λo=>re<|tn<|wr<|?_
 obtain rfl:=si hm
 exact r1 o results148 rfl ⟨rfl,u.keep⟩
 refine rg<|qm o rfl λo=>qv o (Aq (Ab o rfl) (congrArg Value.bool C0)) λo=>?_
 iterate 2 refine qn o λo=>?_
 refine qv o (Ae o rfl rfl) λo=>qm o rfl λo=>qg o (Ab o rfl) λo=>qg o (Az o rfl) λo=>qg o (Ab o rfl) λo=>gr (Fk:=[(10,.bool false),(16,.bool ((!p1) && (decide (p2=[]))))]) 13 3 o u ?_ ?_ ?_
 intro hb o key
 exact qg o (Ab o rfl) λo=>qg o (Ey (m:=p2) (n:=[]) o rfl rfl) λo=>ql o (Ad o rfl rfl) key u hb
 intro hb o key
 iterate 2 refine qn o λo=>?_
 exact ql o (Ae o rfl rfl) key u hb
 intro a w o u
 refine qv o (Ae o rfl rfl) λo=>qa o rfl λo=>re<|tn<|wr<|?_
 obtain rfl:=si hm
 exact r1 o results148 rfl ⟨rfl,u.keep⟩
theorem JcL (hH:H.le w0) (hT:Tab H) {p1:api_Node} {r:Bool} (hm:Zx N p1=some r):Tot Tryz.prog 125 #[.agg #[i6 p1.Op,i6 p1.N,Ac p1.Name,i6 p1.At]] w0 (λv w'=>v=.bool r∧Keep Nil w0 w'):=by
 unfold Zx at hm
 refine fn0 func125 rfl ntmps125 rfl rfl λa o=>?_
 have u:St w0 Nil [H] [] w0:=start1 hH
 refine th<|rg<|ls<|Bt (cs:=[i6 p1.Op,i6 p1.N,Ac p1.Name,i6 p1.At].toArray) o rfl u rfl rfl λb2 w a u o=>qa o rfl λo=>re<|tn<|th<|wb<|th<|rg<|qv o (Af o Fs rfl) λo=>qv o (Ag o isAgg3 rfl (u.ld.cellB t0 rfl)) λo=>qv o (Ap o rfl rfl) λo=>qm o rfl λo=>gr (Fk:=[(1,PT b2),(11,.bool ((decide (p1.At < 0)) || (decide (4000 < p1.At))))]) 7 4 o u ?_ ?_ ?_
 intro hb o key
 iterate 3 refine qn o λo=>?_
 exact qk o (Ad o rfl rfl) key u hb
 intro hb o key
 exact qg o (Af o Fs rfl) λo=>qg o (Ag o isAgg3 rfl (u.ld.cellB t0 rfl)) λo=>qg o (Bb o rfl rfl) λo=>qk o (Ae o rfl rfl) key u hb
 intro a w o u
 refine qa o rfl λo=>re<|?_
 rcases bit hm with ⟨C0,hm⟩ | ⟨C0,hm⟩
 refine tn<|ctv o rfl C0<|th<|rg<|qa o rfl λo=>re<|tn<|wr<|br<|tr<|?_
 obtain rfl:=si hm
 exact r1 o results125 rfl ⟨rfl,u.keep⟩
 refine tn<|cfv o rfl C0<|th<|rg<|qv o (Af o Cr rfl) λo=>qv o (Ag o isAgg3 rfl (u.ld.cellB t0 rfl)) λo=>qv o (An o rfl rfl) λo=>qa o rfl λo=>re<|?_
 rcases bip hm with ⟨D0,hm⟩ | ⟨D0,hm⟩
 refine tn<|ctv o rfl D0<|th<|rg<|qv o (Af o Ea rfl) λo=>qv o (Ag o isAgg3 rfl (u.ld.cellB t0 rfl)) λo=>qv o (Bl o rfl rfl) λo=>qm o rfl λo=>gr (Fk:=[(1,PT b2),(23,.bool ((decide (0≤p1.N)) && (decide (p1.N≤4294967296))))]) 19 4 o u ?_ ?_ ?_
 intro hb o key
 exact qg o (Af o Ea rfl) λo=>qg o (Ag o isAgg3 rfl (u.ld.cellB t0 rfl)) λo=>qg o (Di o rfl rfl) λo=>qk o (Ad o rfl rfl) key u hb
 intro hb o key
 iterate 3 refine qn o λo=>?_
 exact qk o (Ae o rfl rfl) key u hb
 intro a w o u
 refine qm o rfl λo=>gr (Fk:=[(28,.bool (((decide (0≤p1.N)) && (decide (p1.N≤4294967296))) && (decide (p1.Name=[]))))]) 24 4 o u ?_ ?_ ?_
 intro hb o key
 exact qg o (Af o Es rfl) λo=>qg o (Ag o isAgg9 rfl (u.ld.cellB t0 rfl)) λo=>qg o (Ey (m:=p1.Name) (n:=[]) o rfl rfl) λo=>qk o (Ad o rfl rfl) key u hb
 intro hb o key
 iterate 3 refine qn o λo=>?_
 exact qk o (Ae o rfl rfl) key u hb
 intro a w o u
 refine qa o rfl λo=>re<|tn<|wr<|br<|tr<|?_
 obtain rfl:=si hm
 exact r1 o results125 rfl ⟨rfl,u.keep⟩
 refine tn<|cfv o rfl D0<|th<|rg<|qv o (Af o Cr rfl) λo=>qv o (Ag o isAgg3 rfl (u.ld.cellB t0 rfl)) λo=>qv o (An o rfl rfl) λo=>qa o rfl λo=>re<|?_
 rcases bip hm with ⟨E0,hm⟩ | ⟨E0,hm⟩
 refine tn<|ctv o rfl E0<|th<|?_
 rcases bip hm with ⟨F0,hm⟩ | ⟨F0,hm⟩
 obtain ⟨G0,h8,hm⟩:=bs hm
 refine rg<|qv o (Af o Ea rfl) λo=>qv o (Ag o isAgg3 rfl (u.ld.cellB t0 rfl)) λo=>qv o (An o rfl rfl) λo=>qv o (Aq (Ab o rfl) (congrArg Value.bool F0)) λo=>qg o (Af o Es rfl) λo=>qg o (Ag o isAgg9 rfl (u.ld.cellB t0 rfl)) λo=>ls<|gy o rfl rfl<|cr o call82 (Mc (Ai _) (Tab.mono hT (St.up u)) h8) u λu o=>qv o (Ad o rfl rfl) λo=>qa o rfl λo=>re<|tn<|wr<|br<|tr<|?_
 obtain rfl:=si hm
 exact r1 o results125 rfl ⟨rfl,u.keep⟩
 refine rg<|qv o (Af o Ea rfl) λo=>qv o (Ag o isAgg3 rfl (u.ld.cellB t0 rfl)) λo=>qv o (An o rfl rfl) λo=>qv o (Aq (Ab o rfl) (congrArg Value.bool F0)) λo=>?_
 iterate 3 refine qn o λo=>?_
 refine qv o (Ae o rfl rfl) λo=>qa o rfl λo=>re<|tn<|wr<|br<|tr<|?_
 obtain rfl:=si hm
 exact r1 o results125 rfl ⟨rfl,u.keep⟩
 refine tn<|cfv o rfl E0<|wk<|bn<|tn<|th<|rg<|qv o (Af o Ea rfl) λo=>qv o (Ag o isAgg3 rfl (u.ld.cellB t0 rfl)) λo=>qv o (An o rfl rfl) λo=>qm o rfl λo=>gr (Fk:=[(48,.bool ((decide (p1.N=0)) && (decide (p1.Name=[]))))]) 44 4 o u ?_ ?_ ?_
 intro hb o key
 exact qg o (Af o Es rfl) λo=>qg o (Ag o isAgg9 rfl (u.ld.cellB t0 rfl)) λo=>qg o (Ey (m:=p1.Name) (n:=[]) o rfl rfl) λo=>qk o (Ad o rfl rfl) key u hb
 intro hb o key
 iterate 3 refine qn o λo=>?_
 exact qk o (Ae o rfl rfl) key u hb
 intro a w o u
 refine qa o rfl λo=>re<|tn<|wr<|?_
 obtain rfl:=si hm
 exact r1 o results125 rfl ⟨rfl,u.keep⟩
theorem JcP (hH:H.le w0) (hT:Tab H) {p1:api_Node} {r:Bool} (hm:Zr N p1=some r):Tot Tryz.prog 124 #[.agg #[i6 p1.Op,i6 p1.N,Ac p1.Name,i6 p1.At]] w0 (λv w'=>v=.bool r∧Keep Nil w0 w'):=by
 unfold Zr at hm
 refine fn0 func124 rfl ntmps124 rfl rfl λa o=>?_
 have u:St w0 Nil [H] [] w0:=start1 hH
 refine th<|rg<|ls<|Bt (cs:=[i6 p1.Op,i6 p1.N,Ac p1.Name,i6 p1.At].toArray) o rfl u rfl rfl λb2 w a u o=>qa o rfl λo=>re<|tn<|th<|?_
 obtain ⟨C0,h4,hm⟩:=bs hm
 refine rg<|qv o (Ax o Tryz.isAgg90 Tryz.sizeOf90 rfl rfl (u.ld.cellsB t0)) λo=>ls<|cr o call125 (JcL (Ai _) (Tab.mono hT (St.up u)) h4) u λu o=>qv o (Az o rfl) λo=>qa o rfl λo=>re<|tn<|wr<|?_
 obtain rfl:=si hm
 exact r1 o results124 rfl ⟨rfl,u.keep⟩
theorem JbV (hH:H.le w0) (hT:Tab H) {I0:Option Addr} {D0:Nat} {p1:(List api_Node)} (_:p1.length≤D0) (K0:SR H I0 p1) {r:Int} (hm:Zb0 N p1=some r):Tot Tryz.prog 155 #[SL I0 p1 D0,.func (.func 124) #[] #[]] w0 (λv w'=>v=i6 r∧Keep Nil w0 w'):=by
 unfold Zb0 at hm
 refine fn0 func155 rfl ntmps155 rfl rfl λa o=>?_
 have u:St w0 Nil [H] [] w0:=start1 hH
 refine th<|rg<|qa o rfl λo=>re<|tn<|th<|th<|rg<|qm o rfl λo=>qv o (Ak (α:=api_Node) (xs:=p1) o runUnderlying49 rfl) λo=>qm o rfl λo=>re<|tn<|Au (λa w=>Zb1=some r∧Fr 19 [] a∧St w0 Nil [H] [] w) ?_ ?_
 refine wb<|lp (α:=Nat×Int) (λgh a w=>match gh with | (C0,F0)=>(Zb2 N Zb1 p1) C0 F0=some r∧Fr 19 [(0,SL I0 p1 D0),(1,.func (.func 124) #[] #[]),(7,i6 (p1.length:Int)),(8,i6 F0)] a∧St w0 Nil [H] [] w) (λgh=>gh.1) (N,0) ⟨hm,o.hs,u⟩ ?_
 rintro ⟨C0,F0⟩ a w ⟨hm,o,u⟩
 obtain _ | C0:=C0
 simp [Zb2] at hm
 rw [Zb2] at hm
 refine th<|rg<|qv o (Ap o rfl rfl) λo=>re<|?_
 rcases bip hm with ⟨J0,hm⟩ | ⟨J0,hm⟩
 refine tn<|th<|ctv o rfl J0<|wk<|tn<|th<|wb<|th<|rg<|qm o rfl λo=>qa o rfl λo=>re<|tn<|th<|?_
 obtain ⟨G0,h8,hm⟩:=bs hm
 obtain ⟨cz9,O0,M0⟩:=SR.get K0 h8
 obtain rfl:=Bo O0
 obtain ⟨Q0,P0,hm⟩:=bs hm
 refine rg<|qm o rfl λo=>?_
 iterate 2 refine qm o rfl λo=>?_
 refine qv o (Ao o runUnderlying49 sizeOf90 rfl rfl h8 (SR.oaI K0 (by decide) h8)) λo=>qv o (Ax o isAgg90 sizeOf90 rfl rfl (λj v hj=>PH.le.cell (Lds.le u.ld) (M0 j v hj))) λo=>ls<|k1 (vs:=[.agg #[i6 G0.Op,i6 G0.N,Ac G0.Name,i6 G0.At]]) (caps:=[]) o rfl rfl call124 (JcP (Ai _) (Tab.mono hT (St.up u)) P0) ⟨rfl,trivial⟩ rfl (λv w a hR o=>?_)
 obtain ⟨rfl,hk⟩:=hR
 replace u:=u.pass hk
 refine re<|?_
 rcases bit hm with ⟨E0,hm⟩ | ⟨E0,hm⟩
 refine tn<|ctv o rfl E0<|th<|rg<|qm o rfl λo=>qa o rfl λo=>re<|tn<|wr<|br<|tr<|tr<|br<|tr<|?_
 obtain rfl:=si hm
 exact r1 o results155 rfl ⟨rfl,u.keep⟩
 refine tn<|cfv o rfl E0<|wk<|bn<|tn<|rg<|qv o (Am o rfl rfl) λo=>qm o rfl λo=>re<|tn<|?_
 exact ⟨(C0,(IntKind.i64.wrap (F0+1))),⟨hm,o.hs,u⟩,Nat.lt_succ_self _⟩
 refine tn<|th<|cfv o rfl J0<|we<|tx<|tx<|bx<|tn<|?_
 exact ⟨hm,o.has trivial,u⟩
 rintro a w ⟨hm,o,u⟩
 unfold Zb1 at hm
 refine th<|rg<|qa o rfl λo=>re<|tn<|wr<|?_
 obtain rfl:=si hm
 exact r1 o results155 rfl ⟨rfl,u.keep⟩
theorem Jat (hH:H.le w0) (hT:Tab H) {D0:Option Addr} {C0:Nat} {p1:(List api_Node)} (E0:p1.length≤C0) (F0:SR H D0 p1) {r:Bool} (hm:Zah N p1=some r):Tot Tryz.prog 126 #[SL D0 p1 C0,.func (.func 124) #[] #[]] w0 (λv w'=>v=.bool r∧Keep Nil w0 w'):=by
 unfold Zah at hm
 refine fn0 func126 rfl ntmps126 rfl rfl λa o=>?_
 have u:St w0 Nil [H] [] w0:=start1 hH
 refine th<|rg<|qa o rfl λo=>re<|tn<|th<|?_
 obtain ⟨G0,h7,hm⟩:=bs hm
 refine rg<|qm o rfl λo=>qm o rfl λo=>ls<|cr o call155 (JbV (Ai _) (Tab.mono hT (St.up u)) E0 (St.srH u F0) h7) u λu o=>qv o (Bl o rfl rfl) λo=>qa o rfl λo=>re<|tn<|wr<|?_
 obtain rfl:=si hm
 exact r1 o results126 rfl ⟨rfl,u.keep⟩
theorem Ja8 (hH:H.le w0) {p1:Int} {r:Int} (hm:Zw N p1=some r):Tot Tryz.prog 156 #[i6 p1] w0 (λv w'=>v=i6 r∧Keep Nil w0 w'):=by
 unfold Zw at hm
 refine fn0 func156 rfl ntmps156 rfl rfl λa o=>?_
 have u:St w0 Nil [H] [] w0:=start1 hH
 refine th<|rg<|qa o rfl λo=>re<|tn<|th<|wb<|th<|rg<|qm o rfl λo=>qv o (An o rfl rfl) λo=>qm o rfl λo=>gr (Fk:=[(0,i6 p1),(9,.bool ((decide (p1=1)) || (decide (p1=2))))]) 6 3 o u ?_ ?_ ?_
 intro hb o key
 iterate 2 refine qn o λo=>?_
 exact qk o (Ad o rfl rfl) key u hb
 intro hb o key
 exact qg o (Ab o rfl) λo=>qg o (An o rfl rfl) λo=>qk o (Ae o rfl rfl) key u hb
 intro a w o u
 refine qa o rfl λo=>re<|?_
 rcases bit hm with ⟨C0,hm⟩ | ⟨C0,hm⟩
 refine tn<|ctv o rfl C0<|th<|rg<|qa o rfl λo=>re<|tn<|wr<|br<|tr<|?_
 obtain rfl:=si hm
 exact r1 o results156 rfl ⟨rfl,u.keep⟩
 refine tn<|cfv o rfl C0<|th<|rg<|qm o rfl λo=>qv o (An o rfl rfl) λo=>qm o rfl λo=>gr (Fk:=[(0,i6 p1),(16,.bool ((decide (p1=3)) || (decide (p1=4))))]) 13 3 o u ?_ ?_ ?_
 intro hb o key
 iterate 2 refine qn o λo=>?_
 exact qk o (Ad o rfl rfl) key u hb
 intro hb o key
 exact qg o (Ab o rfl) λo=>qg o (An o rfl rfl) λo=>qk o (Ae o rfl rfl) key u hb
 intro a w o u
 refine qa o rfl λo=>re<|?_
 rcases bit hm with ⟨D0,hm⟩ | ⟨D0,hm⟩
 refine tn<|ctv o rfl D0<|th<|rg<|qa o rfl λo=>re<|tn<|wr<|br<|tr<|?_
 obtain rfl:=si hm
 exact r1 o results156 rfl ⟨rfl,u.keep⟩
 refine tn<|cfv o rfl D0<|th<|rg<|qm o rfl λo=>qv o (Bl o rfl rfl) λo=>qm o rfl λo=>gr (Fk:=[(23,.bool ((decide (5≤p1)) && (decide (p1≤15))))]) 20 3 o u ?_ ?_ ?_
 intro hb o key
 exact qg o (Ab o rfl) λo=>qg o (Di o rfl rfl) λo=>qk o (Ad o rfl rfl) key u hb
 intro hb o key
 iterate 2 refine qn o λo=>?_
 exact qk o (Ae o rfl rfl) key u hb
 intro a w o u
 refine qa o rfl λo=>re<|?_
 rcases bit hm with ⟨E0,hm⟩ | ⟨E0,hm⟩
 refine tn<|ctv o rfl E0<|th<|rg<|qa o rfl λo=>re<|tn<|wr<|br<|tr<|?_
 obtain rfl:=si hm
 exact r1 o results156 rfl ⟨rfl,u.keep⟩
 refine tn<|cfv o rfl E0<|wk<|bn<|tn<|th<|rg<|qa o rfl λo=>re<|tn<|wr<|?_
 obtain rfl:=si hm
 exact r1 o results156 rfl ⟨rfl,u.keep⟩
end Go.LM.LB
