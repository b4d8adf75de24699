/- Walks, lifted by program. No condition beyond the theorems' own premises. -/
import Derived.Test.YtbblmeecfimnkaaGreatDoorBMQ3
namespace Go.LM.BINZ
open Go Go.LL Go.MD Go.LM Go.Proofs Go.MD.BINZ Go.Proofs.Tryz
set_option maxRecDepth 100000
variable {N:Nat} {w0:World} {H:PH}
theorem Nx (hH:H.le w0) {R0:Option Addr} {G0:Nat} {p1:(List api_Cell)} (Q1:p1.length≤G0) (X0:SR H R0 p1) {r:(List api_Cell)} (hm:Z1t N p1=some r):Tot Tryz.prog 50 #[SL R0 p1 G0] w0 (λv w'=>∃ (Y0:Option Addr) (S0:Nat) (j0:List Value),v=SL Y0 r S0∧(∀ h,Rows h j0 r)∧Fresh w0 (sla 130 3 Y0 r.length S0 j0) w'):=by
 unfold Z1t at hm
 refine fn0 func50 rfl ntmps50 rfl rfl λa o=>?_
 have u:St w0 Nil [H] [] w0:=start1 hH
 refine th<|rg<|qa o rfl λo=>re<|tn<|th<|rg<|ls<|Bj (e:=130) (sz:=3) [] o rfl u rfl rfl rfl (λw=>by kernel_rfl) λb7 w a u o=>?_
 have F1:Rows (α:=api_Cell) H [] []:=.nil
 refine qa o rfl λo=>re<|tn<|th<|th<|rg<|qa o rfl λo=>re<|tn<|Av (λa w=>∃ (K0:(List api_Cell)) (P0:Option Addr) (I0:Nat) (Q0:List Value),Z1u K0=some r∧Fr 34 [(3,SL P0 K0 I0)] a∧St w0 Nil [H] [sla 130 3 P0 K0.length I0 Q0] w∧Rows H Q0 K0) ?_ ?_
 refine wb<|lp (α:=Nat×(List api_Cell)×Int) (λgh a w=>match gh with | (M0,D0,E0)=>∃ (F0:Option Addr) (C0:Nat) (J0:List Value),(Z1v N Z1u p1) M0 D0 E0=some r∧Fr 34 [(0,SL R0 p1 G0),(3,SL F0 D0 C0),(4,i6 E0)] a∧St w0 Nil [H] [sla 130 3 F0 D0.length C0 J0] w∧Rows H J0 D0) (λgh=>gh.1) (N,[],0) ⟨(some ⟨b7,0,none⟩),0,[],hm,o.hs,u,F1⟩ ?_
 rintro ⟨M0,D0,E0⟩ a w ⟨F0,C0,J0,hm,o,u,T0⟩
 obtain _ | M0:=M0
 simp [Z1v] at hm
 rw [Z1v] at hm
 refine th<|th<|rg<|qm o rfl λo=>qm o rfl λo=>qv o (Aj (α:=api_Cell) (xs:=p1) o runUnderlying44 rfl) λo=>qv o (Ak o rfl rfl) λo=>qm o rfl λo=>gr (Fk:=[(0,SL R0 p1 G0),(3,SL F0 D0 C0),(4,i6 E0),(14,.bool ((decide (E0 < (p1.length:Int))) && (decide (E0 < 8))))]) 11 3 o u ?_ ?_ ?_
 intro hb o key
 exact qg o (Ab o rfl) λo=>qg o (Ak o rfl rfl) λo=>qk o (Ac o rfl rfl) key u hb
 intro hb o key
 iterate 2 refine qn o λo=>?_
 exact qk o (Ad o rfl rfl) key u hb
 intro a w o u
 refine re<|?_
 rcases bit hm with ⟨U0,hm⟩ | ⟨U0,hm⟩
 refine tn<|ctv o rfl U0<|wk<|tn<|th<|wb<|th<|?_
 obtain ⟨A0,V0,hm⟩:=bs hm
 obtain ⟨R1,I1,n0⟩:=SR.get X0 V0
 obtain rfl:=Dx I1
 refine rg<|qm o rfl λo=>qm o rfl λo=>qv o (Al o runUnderlying44 sizeOf130 rfl rfl V0 (SR.oaI X0 (by decide) V0)) λo=>qv o (Ar o isAgg130 sizeOf130 rfl rfl (λj v hj=>PH.le.cell (Lds.le u.ld) (n0 j v hj))) λo=>ls<|As (cs:=[Ag [],i6 0,i6 0].toArray) o rfl u zeroValue130 rfl λS1 w a u o=>ls<|Bb o u sizeOf130 rfl rfl rfl rfl (Ao rfl) .head λw u=>re<|tn<|th<|?_
 obtain ⟨O0,J1,hm⟩:=bs hm
 refine rg<|qv o (Ae o Hl rfl) λo=>qv o (Af o isAgg9 rfl (u.ld.cellB t0 rfl)) λo=>qv o (Ae o Hl rfl) λo=>qv o (Af o isAgg9 rfl (u.ld.cellB t0 rfl)) λo=>qv o (Cu (s:=A0.Name) o runUnderlying9 rfl) λo=>qv o (N5 o rfl rfl) λo=>qv o (Jj (s:=A0.Name) (vl:=0) (vh:=(min (A0.Name.length:Int) 40)) o runUnderlying9 rfl rfl rfl J1) λo=>qv o (Ae o Hl rfl) λo=>ls<|Bz o u sizeOf9 rfl rfl rfl rfl .head .zero λw u=>re<|tn<|?_
 obtain ⟨O1,P1,hm⟩:=bs hm
 refine rg<|qm o rfl λo=>qv o (Ar o isAgg130 sizeOf130 rfl rfl (u.ld.cellsB t0)) λo=>ls<|Bj (e:=130) (sz:=3) [Ag O0,i6 A0.N,i6 A0.At] o rfl u rfl rfl rfl (λw=>by kernel_rfl) λT1 w a u o=>?_
 have u0:Rows (α:=api_Cell) H [Ag O0,i6 A0.N,i6 A0.At] ([(api_Cell.mk O0 A0.N A0.At)]:List api_Cell):=(.cons (c:=[Ag O0,i6 A0.N,i6 A0.At]) ⟨_,_,rfl,rfl,⟨_,_,rfl,rfl,rfl⟩⟩ .nil)
 refine ls<|Bv (α:=api_Cell) (xs:=D0) (ys:=([(api_Cell.mk O0 A0.N A0.At)]:List api_Cell)) o rfl u underlying44 Ip rfl (by decide) rfl rfl rfl t2 T0 (u.rdO t0) u0 P1 λB1 W0 C1 w a D1 hU o=>?_
 replace u:=hU _ (.tail (.tail .head))
 replace u:=u.drop .head
 refine qa o rfl λo=>re<|bn<|tn<|rg<|qm o rfl λo=>qv o (An o rfl rfl) λo=>qa o rfl λo=>re<|tn<|?_
 replace u:=u.pk [1] rfl
 exact ⟨(M0,O1,(IntKind.i64.wrap (E0+1))),⟨B1,W0,C1,hm,o.hs,u,D1⟩,Nat.lt_succ_self _⟩
 refine tn<|cfv o rfl U0<|we<|tx<|tx<|bx<|tn<|?_
 exact ⟨D0,F0,C0,J0,hm,o.has ⟨rfl,trivial⟩,u,T0⟩
 rintro a w ⟨K0,P0,I0,Q0,hm,o,u,E1⟩
 unfold Z1u at hm
 refine th<|rg<|qm o rfl λo=>qa o rfl λo=>re<|tn<|wr<|?_
 obtain rfl:=si hm
 exact r1 o results50 rfl ⟨_,_,_,rfl,(λ_=>Rows.ind E1),u.endFresh t0⟩
theorem Xz (hH:H.le w0) {R0:Option Addr} {G0:Nat} {p1:(List api_Node)} (Q1:p1.length≤G0) (X0:SR H R0 p1) {r:(List api_Node)} (hm:Z1h N p1=some r):Tot Tryz.prog 52 #[SL R0 p1 G0] w0 (λv w'=>∃ (Y0:Option Addr) (S0:Nat) (j0:List Value),v=SL Y0 r S0∧(∀ h,Rows h j0 r)∧Fresh w0 (sla 133 4 Y0 r.length S0 j0) w'):=by
 unfold Z1h at hm
 refine fn0 func52 rfl ntmps52 rfl rfl λa o=>?_
 have u:St w0 Nil [H] [] w0:=start1 hH
 refine th<|rg<|qa o rfl λo=>re<|tn<|th<|rg<|ls<|Bj (e:=133) (sz:=4) [] o rfl u rfl rfl rfl (λw=>by kernel_rfl) λb7 w a u o=>?_
 have F1:Rows (α:=api_Node) H [] []:=.nil
 refine qa o rfl λo=>re<|tn<|th<|th<|rg<|qa o rfl λo=>re<|tn<|Av (λa w=>∃ (K0:(List api_Node)) (P0:Option Addr) (I0:Nat) (Q0:List Value),Z1i K0=some r∧Fr 34 [(3,SL P0 K0 I0)] a∧St w0 Nil [H] [sla 133 4 P0 K0.length I0 Q0] w∧Rows H Q0 K0) ?_ ?_
 refine wb<|lp (α:=Nat×(List api_Node)×Int) (λgh a w=>match gh with | (M0,D0,E0)=>∃ (F0:Option Addr) (C0:Nat) (J0:List Value),(Z1j N Z1i p1) M0 D0 E0=some r∧Fr 34 [(0,SL R0 p1 G0),(3,SL F0 D0 C0),(4,i6 E0)] a∧St w0 Nil [H] [sla 133 4 F0 D0.length C0 J0] w∧Rows H J0 D0) (λgh=>gh.1) (N,[],0) ⟨(some ⟨b7,0,none⟩),0,[],hm,o.hs,u,F1⟩ ?_
 rintro ⟨M0,D0,E0⟩ a w ⟨F0,C0,J0,hm,o,u,T0⟩
 obtain _ | M0:=M0
 simp [Z1j] at hm
 rw [Z1j] at hm
 refine th<|th<|rg<|qm o rfl λo=>qm o rfl λo=>qv o (Aj (α:=api_Node) (xs:=p1) o runUnderlying96 rfl) λo=>qv o (Ak o rfl rfl) λo=>qm o rfl λo=>gr (Fk:=[(0,SL R0 p1 G0),(3,SL F0 D0 C0),(4,i6 E0),(14,.bool ((decide (E0 < (p1.length:Int))) && (decide (E0 < 60))))]) 11 3 o u ?_ ?_ ?_
 intro hb o key
 exact qg o (Ab o rfl) λo=>qg o (Ak o rfl rfl) λo=>qk o (Ac o rfl rfl) key u hb
 intro hb o key
 iterate 2 refine qn o λo=>?_
 exact qk o (Ad o rfl rfl) key u hb
 intro a w o u
 refine re<|?_
 rcases bit hm with ⟨U0,hm⟩ | ⟨U0,hm⟩
 refine tn<|ctv o rfl U0<|wk<|tn<|th<|wb<|th<|?_
 obtain ⟨A0,V0,hm⟩:=bs hm
 obtain ⟨R1,I1,n0⟩:=SR.get X0 V0
 obtain rfl:=Bw I1
 refine rg<|qm o rfl λo=>qm o rfl λo=>qv o (Al o runUnderlying96 sizeOf133 rfl rfl V0 (SR.oaI X0 (by decide) V0)) λo=>qv o (Ar o isAgg133 sizeOf133 rfl rfl (λj v hj=>PH.le.cell (Lds.le u.ld) (n0 j v hj))) λo=>ls<|As (cs:=[i6 0,i6 0,Ag [],i6 0].toArray) o rfl u zeroValue133 rfl λS1 w a u o=>ls<|Bb o u sizeOf133 rfl rfl rfl rfl (Ao rfl) .head λw u=>re<|tn<|th<|?_
 obtain ⟨O0,J1,hm⟩:=bs hm
 refine rg<|qv o (Ae o Eu rfl) λo=>qv o (Af o isAgg9 rfl (u.ld.cellB t0 rfl)) λo=>qv o (Ae o Eu rfl) λo=>qv o (Af o isAgg9 rfl (u.ld.cellB t0 rfl)) λo=>qv o (Cu (s:=A0.Name) o runUnderlying9 rfl) λo=>qv o (N5 o rfl rfl) λo=>qv o (Jj (s:=A0.Name) (vl:=0) (vh:=(min (A0.Name.length:Int) 40)) o runUnderlying9 rfl rfl rfl J1) λo=>qv o (Ae o Eu rfl) λo=>ls<|Bz o u sizeOf9 rfl rfl rfl rfl .head (.succ (.succ .zero)) λw u=>re<|tn<|?_
 obtain ⟨O1,P1,hm⟩:=bs hm
 refine rg<|qm o rfl λo=>qv o (Ar o isAgg133 sizeOf133 rfl rfl (u.ld.cellsB t0)) λo=>ls<|Bj (e:=133) (sz:=4) [i6 A0.Op,i6 A0.N,Ag O0,i6 A0.At] o rfl u rfl rfl rfl (λw=>by kernel_rfl) λT1 w a u o=>?_
 have u0:Rows (α:=api_Node) H [i6 A0.Op,i6 A0.N,Ag O0,i6 A0.At] ([(api_Node.mk A0.Op A0.N O0 A0.At)]:List api_Node):=(.cons (c:=[i6 A0.Op,i6 A0.N,Ag O0,i6 A0.At]) ⟨_,_,rfl,rfl,⟨_,_,rfl,rfl,⟨_,_,rfl,rfl,rfl⟩⟩⟩ .nil)
 refine ls<|Bv (α:=api_Node) (xs:=D0) (ys:=([(api_Node.mk A0.Op A0.N O0 A0.At)]:List api_Node)) o rfl u underlying96 JaX rfl (by decide) rfl rfl rfl t2 T0 (u.rdO t0) u0 P1 λB1 W0 C1 w a D1 hU o=>?_
 replace u:=hU _ (.tail (.tail .head))
 replace u:=u.drop .head
 refine qa o rfl λo=>re<|bn<|tn<|rg<|qm o rfl λo=>qv o (An o rfl rfl) λo=>qa o rfl λo=>re<|tn<|?_
 replace u:=u.pk [1] rfl
 exact ⟨(M0,O1,(IntKind.i64.wrap (E0+1))),⟨B1,W0,C1,hm,o.hs,u,D1⟩,Nat.lt_succ_self _⟩
 refine tn<|cfv o rfl U0<|we<|tx<|tx<|bx<|tn<|?_
 exact ⟨D0,F0,C0,J0,hm,o.has ⟨rfl,trivial⟩,u,T0⟩
 rintro a w ⟨K0,P0,I0,Q0,hm,o,u,E1⟩
 unfold Z1i at hm
 refine th<|rg<|qm o rfl λo=>qa o rfl λo=>re<|tn<|wr<|?_
 obtain rfl:=si hm
 exact r1 o results52 rfl ⟨_,_,_,rfl,(λ_=>Rows.ind E1),u.endFresh t0⟩
theorem Jbb (hH:H.le w0) {D1:Option Addr} {J0:Nat} {p1:(List api_Stmt)} (G3:p1.length≤J0) (R1:SR H D1 p1) {r:(List api_Stmt)} (hm:Z1k N p1=some r):Tot Tryz.prog 84 #[SL D1 p1 J0] w0 (λv w'=>∃ (H':PH) (S1:Option Addr) (F1:Nat),v=SL S1 r F1∧r.length≤F1∧SR H' S1 r∧Ext w0 H H'∧H'.le w'∧Keep Nil w0 w'):=by
 unfold Z1k at hm
 refine fn0 func84 rfl ntmps84 rfl rfl λa o=>?_
 have u:St w0 Nil [H] [] w0:=start1 hH
 refine th<|rg<|qa o rfl λo=>re<|tn<|th<|rg<|ls<|Bj (e:=140) (sz:=9) [] o rfl u rfl rfl rfl (λw=>by kernel_rfl) λb7 w a u o=>?_
 have R2:Rows (α:=api_Stmt) H [] []:=.nil
 refine qa o rfl λo=>re<|tn<|th<|th<|rg<|qa o rfl λo=>re<|tn<|Av (λa w=>∃ (Q0:(List api_Stmt)) (E1:PH) (W0:Option Addr) (K0:Nat) (X0:List Value),Z1l Q0=some r∧Ext w0 H E1∧Fr 50 [(3,SL W0 Q0 K0)] a∧St w0 Nil [E1] [sla 140 9 W0 Q0.length K0 X0] w∧Rows E1 X0 Q0) ?_ ?_
 refine wb<|lp (α:=Nat×(List api_Stmt)×Int) (λgh a w=>match gh with | (R0,E0,F0)=>∃ (G0:PH) (I0:Option Addr) (C0:Nat) (M0:List Value),(Z1m N Z1l p1) R0 E0 F0=some r∧Ext w0 H G0∧Fr 50 [(0,SL D1 p1 J0),(3,SL I0 E0 C0),(4,i6 F0)] a∧St w0 Nil [G0] [sla 140 9 I0 E0.length C0 M0] w∧Rows G0 M0 E0) (λgh=>gh.1) (N,[],0) ⟨H,(some ⟨b7,0,none⟩),0,[],hm,(Ext.refl _ _),o.hs,u,R2⟩ ?_
 rintro ⟨R0,E0,F0⟩ a w ⟨G0,I0,C0,M0,hm,D0,o,u,I1⟩
 obtain _ | R0:=R0
 simp [Z1m] at hm
 rw [Z1m] at hm
 refine th<|th<|rg<|qm o rfl λo=>qm o rfl λo=>qv o (Aj (α:=api_Stmt) (xs:=p1) o runUnderlying106 rfl) λo=>qv o (Ak o rfl rfl) λo=>qm o rfl λo=>gr (Fk:=[(0,SL D1 p1 J0),(3,SL I0 E0 C0),(4,i6 F0),(14,.bool ((decide (F0 < (p1.length:Int))) && (decide (F0 < 50))))]) 11 3 o u ?_ ?_ ?_
 intro hb o key
 exact qg o (Ab o rfl) λo=>qg o (Ak o rfl rfl) λo=>qk o (Ac o rfl rfl) key u hb
 intro hb o key
 iterate 2 refine qn o λo=>?_
 exact qk o (Ad o rfl rfl) key u hb
 intro a w o u
 refine re<|?_
 rcases bit hm with ⟨J1,hm⟩ | ⟨J1,hm⟩
 refine tn<|ctv o rfl J1<|wk<|tn<|th<|wb<|th<|?_
 obtain ⟨A0,O1,hm⟩:=bs hm
 obtain ⟨I3,T2,T1⟩:=SR.get R1 O1
 obtain ⟨C3,A3,D3,B3,rfl,U1,V1,X1,Y1⟩:=Bs T2
 refine rg<|qm o rfl λo=>qm o rfl λo=>qv o (Al o runUnderlying106 sizeOf140 rfl rfl O1 (SR.oaI R1 (by decide) O1)) λo=>qv o (Ar o isAgg140 sizeOf140 rfl rfl (λj v hj=>PH.le.cell (λb o hx=>(Lds.le u.ld) b o (D0.sub b o hx)) (T1 j v hj))) λo=>ls<|As (cs:=[i6 0,Ag [],Ag [],.slice none 0 0,.slice none 0 0,i6 0,i6 0,i6 0,i6 0].toArray) o rfl u zeroValue140 rfl λJ3 w a u o=>ls<|Bb o u sizeOf140 rfl rfl rfl rfl (Ao rfl) .head λw u=>re<|tn<|th<|?_
 obtain ⟨S0,U2,hm⟩:=bs hm
 refine rg<|qv o (Ae o Ek rfl) λo=>qv o (Af o isAgg9 rfl (u.ld.cellB t0 rfl)) λo=>qv o (Ae o Ek rfl) λo=>qv o (Af o isAgg9 rfl (u.ld.cellB t0 rfl)) λo=>qv o (Cu (s:=A0.Reg) o runUnderlying9 rfl) λo=>qv o (N5 o rfl rfl) λo=>qv o (Jj (s:=A0.Reg) (vl:=0) (vh:=(min (A0.Reg.length:Int) 40)) o runUnderlying9 rfl rfl rfl U2) λo=>qv o (Ae o Ek rfl) λo=>ls<|Bz o u sizeOf9 rfl rfl rfl rfl .head (.succ .zero) λw u=>re<|tn<|th<|?_
 obtain ⟨T0,V2,hm⟩:=bs hm
 refine rg<|qv o (Ae o Fj rfl) λo=>qv o (Af o isAgg9 rfl (u.ld.cellB t0 rfl)) λo=>qv o (Ae o Fj rfl) λo=>qv o (Af o isAgg9 rfl (u.ld.cellB t0 rfl)) λo=>qv o (Cu (s:=A0.Name) o runUnderlying9 rfl) λo=>qv o (N5 o rfl rfl) λo=>qv o (Jj (s:=A0.Name) (vl:=0) (vh:=(min (A0.Name.length:Int) 40)) o runUnderlying9 rfl rfl rfl V2) λo=>qv o (Ae o Fj rfl) λo=>ls<|Bz o u sizeOf9 rfl rfl rfl rfl .head (.succ (.succ .zero)) λw u=>re<|tn<|th<|?_
 obtain ⟨U0,W2,hm⟩:=bs hm
 refine rg<|qv o (Ae o Fs rfl) λo=>qv o (Af o isAgg96 rfl (u.ld.cellB t0 rfl)) λo=>ls<|c1 o rfl call52 (Xz (Ah _) U1 (St.srH u (V1.mono D0.sub)) W2) ⟨rfl,trivial⟩ (λv w a hR o=>?_)
 obtain ⟨Y0,O0,E3,rfl,j0,hk⟩:=hR
 replace u:=u.fresh hk
 replace j0:=j0 G0
 refine qv o (Ae o Fs rfl) λo=>ls<|Bz o u sizeOf96 rfl rfl rfl rfl (.tail .head) (.succ (.succ (.succ .zero))) λw u=>re<|tn<|th<|?_
 obtain ⟨V0,X2,hm⟩:=bs hm
 refine rg<|qv o (Ae o Im rfl) λo=>qv o (Af o isAgg96 rfl (u.ld.cellB t1 rfl)) λo=>ls<|c1 o rfl call52 (Xz (Ah _) X1 (St.srH u (Y1.mono D0.sub)) X2) ⟨rfl,trivial⟩ (λv w a hR o=>?_)
 obtain ⟨n0,P0,F3,rfl,u0,hk⟩:=hR
 replace u:=u.fresh hk
 replace u0:=u0 G0
 refine qv o (Ae o Im rfl) λo=>ls<|Bz o u sizeOf96 rfl rfl rfl rfl (.tail (.tail .head)) (.succ (.succ (.succ (.succ .zero)))) λw u=>re<|tn<|?_
 obtain ⟨Y2,u2,hm⟩:=bs hm
 refine rg<|qm o rfl λo=>qv o (Ar o isAgg140 sizeOf140 rfl rfl (u.ld.cellsB t2)) λo=>?_
 obtain ⟨H45,B1,u1,B2,u⟩:=St.frzS u (.tail .head) j0
 obtain ⟨H49,C1,C2,E2,u⟩:=St.frzS u .head (u0.mono B1.sub)
 refine ls<|Bj (e:=140) (sz:=9) [i6 A0.Kind,Ag S0,Ag T0,SL Y0 U0 O0,SL n0 V0 P0,i6 A0.N,i6 A0.Body,i6 A0.Else,i6 A0.At] o rfl u rfl rfl rfl (λw=>by kernel_rfl) λK3 w a u o=>?_
 have F2:Rows (α:=api_Stmt) H49 [i6 A0.Kind,Ag S0,Ag T0,SL Y0 U0 O0,SL n0 V0 P0,i6 A0.N,i6 A0.Body,i6 A0.Else,i6 A0.At] ([(api_Stmt.mk A0.Kind S0 T0 U0 V0 A0.N A0.Body A0.Else A0.At)]:List api_Stmt):=(.cons (c:=[i6 A0.Kind,Ag S0,Ag T0,SL Y0 U0 O0,SL n0 V0 P0,i6 A0.N,i6 A0.Body,i6 A0.Else,i6 A0.At]) ⟨_,_,rfl,rfl,⟨_,_,rfl,rfl,⟨_,_,rfl,rfl,⟨_,_,rfl,⟨_,_,rfl,B2,(u1.mono C1.sub)⟩,⟨_,_,rfl,⟨_,_,rfl,E2,C2⟩,⟨_,_,rfl,rfl,⟨_,_,rfl,rfl,⟨_,_,rfl,rfl,rfl⟩⟩⟩⟩⟩⟩⟩⟩ .nil)
 refine ls<|Bv (α:=api_Stmt) (xs:=E0) (ys:=([(api_Stmt.mk A0.Kind S0 T0 U0 V0 A0.N A0.Body A0.Else A0.At)]:List api_Stmt)) o rfl u underlying106 JaW rfl (by decide) rfl rfl rfl t2 (I1.mono (cp C1.sub B1.sub)) (u.rdO t0) F2 u2 λG2 P1 I2 w a J2 hU o=>?_
 replace u:=hU _ (.tail (.tail .head))
 replace u:=u.drop .head
 refine qa o rfl λo=>re<|bn<|tn<|rg<|qm o rfl λo=>qv o (An o rfl rfl) λo=>qa o rfl λo=>re<|tn<|?_
 replace u:=u.pk [1] rfl
 exact ⟨(R0,Y2,(IntKind.i64.wrap (F0+1))),⟨H49,G2,P1,I2,hm,(Ext.trans D0 (Ext.trans B1 C1)),o.hs,u,J2⟩,Nat.lt_succ_self _⟩
 refine tn<|cfv o rfl J1<|we<|tx<|tx<|bx<|tn<|?_
 exact ⟨E0,G0,I0,C0,M0,hm,D0,o.has ⟨rfl,trivial⟩,u,I1⟩
 rintro a w ⟨Q0,E1,W0,K0,X0,hm,Q1,o,u,K2⟩
 unfold Z1l at hm
 refine th<|rg<|qm o rfl λo=>qa o rfl λo=>re<|tn<|wr<|?_
 obtain ⟨H62,O2,P2,Q2,u⟩:=St.frzS u .head K2
 obtain rfl:=si hm
 exact r1 o results84 rfl ⟨H62,_,_,rfl,Q2,P2,(Ext.trans Q1 O2),(St.le u),u.keep⟩
set_option maxHeartbeats 4000000 in
theorem Jv (hH:H.le w0) {S0:Option Addr} {K0:Nat} {p1:(List api_Thread)} (O4:p1.length≤K0) (T0:SR H S0 p1) {r:(List api_Thread)} (hm:Z1w N p1=some r):Tot Tryz.prog 51 #[SL S0 p1 K0] w0 (λv w'=>∃ (H':PH) (W2:Option Addr) (I2:Nat),v=SL W2 r I2∧r.length≤I2∧SR H' W2 r∧Ext w0 H H'∧H'.le w'∧Keep Nil w0 w'):=by
 unfold Z1w at hm
 refine fn0 func51 rfl ntmps51 rfl rfl λa o=>?_
 have u:St w0 Nil [H] [] w0:=start1 hH
 refine th<|rg<|qa o rfl λo=>re<|tn<|th<|rg<|ls<|Bj (e:=108) (sz:=4) [] o rfl u rfl rfl rfl (λw=>by kernel_rfl) λb7 w a u o=>?_
 have Q3:Rows (α:=api_Thread) H [] []:=.nil
 refine qa o rfl λo=>re<|tn<|th<|th<|rg<|qa o rfl λo=>re<|tn<|Av (λa w=>∃ (O1:(List api_Thread)) (F2:PH) (T1:Option Addr) (E1:Nat) (U1:List Value),Z1x O1=some r∧Ext w0 H F2∧Fr 86 [(3,SL T1 O1 E1)] a∧St w0 Nil [F2] [sla 108 4 T1 O1.length E1 U1] w∧Rows F2 U1 O1) ?_ ?_
 refine wb<|lp (α:=Nat×(List api_Thread)×Int) (λgh a w=>match gh with | (U0,E0,F0)=>∃ (Y0:PH) (G0:Option Addr) (C0:Nat) (Q0:List Value),(Z21 N Z1x p1) U0 E0 F0=some r∧Ext w0 H Y0∧Fr 86 [(0,SL S0 p1 K0),(3,SL G0 E0 C0),(4,i6 F0)] a∧St w0 Nil [Y0] [sla 108 4 G0 E0.length C0 Q0] w∧Rows Y0 Q0 E0) (λgh=>gh.1) (N,[],0) ⟨H,(some ⟨b7,0,none⟩),0,[],hm,(Ext.refl _ _),o.hs,u,Q3⟩ ?_
 rintro ⟨U0,E0,F0⟩ a w ⟨Y0,G0,C0,Q0,hm,A0,o,u,J2⟩
 obtain _ | U0:=U0
 simp [Z21] at hm
 rw [Z21] at hm
 refine th<|th<|rg<|qm o rfl λo=>qm o rfl λo=>qv o (Aj (α:=api_Thread) (xs:=p1) o runUnderlying45 rfl) λo=>qv o (Ak o rfl rfl) λo=>qm o rfl λo=>gr (Fk:=[(0,SL S0 p1 K0),(3,SL G0 E0 C0),(4,i6 F0),(15,.bool ((decide (F0 < (p1.length:Int))) && (decide (F0 < 4))))]) 12 3 o u ?_ ?_ ?_
 intro hb o key
 exact qg o (Ab o rfl) λo=>qg o (Ak o rfl rfl) λo=>qk o (Ac o rfl rfl) key u hb
 intro hb o key
 iterate 2 refine qn o λo=>?_
 exact qk o (Ad o rfl rfl) key u hb
 intro a w o u
 refine re<|?_
 rcases bit hm with ⟨K2,hm⟩ | ⟨K2,hm⟩
 refine tn<|ctv o rfl K2<|wk<|tn<|th<|Av (λa w=>∃ (B1:(List api_Thread)) (P1:PH) (F1:Option Addr) (X0:Nat) (I1:List Value),(Z1y (Z21 N Z1x p1 U0) F0) B1=some r∧Ext w0 Y0 P1∧Fr 86 [(0,SL S0 p1 K0),(3,SL F1 B1 X0),(4,i6 F0)] a∧St w0 Nil [P1] [sla 108 4 F1 B1.length X0 I1] w∧Rows P1 I1 B1) ?_ ?_
 refine wb<|th<|Av (λa w=>∃ (O0:Str) (I0:(List api_Stmt)) (P0:Int) (HD1:PH) (bD2:Nat) (oaD5:Option Addr) (capD6:Nat),(Z1z N (Z1y (Z21 N Z1x p1 U0) F0) p1 E0 F0) O0 I0 P0=some r∧Ext w0 Y0 HD1∧Fr 86 [(0,SL S0 p1 K0),(3,SL G0 E0 C0),(4,i6 F0),(5,PT bD2)] a∧St w0 Nil [HD1] [sla 108 4 G0 E0.length C0 Q0,bk bD2 [Ag O0,.slice none 0 0,SL oaD5 I0 capD6,i6 P0] 108] w∧I0.length≤capD6∧SR HD1 oaD5 I0) ?_ ?_
 obtain ⟨V0,W0,hm⟩:=bs hm
 obtain ⟨P4,R3,J1⟩:=SR.get T0 W0
 obtain ⟨D4,u3,E4,A4,rfl,F4,G4,O2,P2⟩:=Bg R3
 obtain ⟨C1,S3,hm⟩:=bs hm
 obtain ⟨D1,X2,hm⟩:=bs hm
 refine rdS 26 u wide λw u=>dr 0 u o rfl (Ab o rfl) λo=>dr 1 u o rfl (Ab o rfl) λo=>dr 2 u o rfl (Al o runUnderlying45 sizeOf108 rfl rfl W0 (SR.oaI T0 (by decide) W0)) λo=>dr 3 u o rfl (Ae o Ft rfl) λo=>dq 4 u.ld o rfl (λw hl=>Af o isAgg9 rfl (PH.le.cell (λb o hx=>(Lds.le hl) b o (A0.sub b o hx)) (J1 0 _ rfl))) λo=>dr 5 u o rfl (Ab o rfl) λo=>dr 6 u o rfl (Ab o rfl) λo=>dr 7 u o rfl (Al o runUnderlying45 sizeOf108 rfl rfl W0 (SR.oaI T0 (by decide) W0)) λo=>dr 8 u o rfl (Ae o Ft rfl) λo=>dq 9 u.ld o rfl (λw hl=>Af o isAgg9 rfl (PH.le.cell (λb o hx=>(Lds.le hl) b o (A0.sub b o hx)) (J1 0 _ rfl))) λo=>dr 10 u o rfl (Cu (s:=V0.Name) o runUnderlying9 rfl) λo=>dr 11 u o rfl (N5 o rfl rfl) λo=>dr 12 u o rfl (Jj (s:=V0.Name) (vl:=0) (vh:=(min (V0.Name.length:Int) 40)) o runUnderlying9 rfl rfl rfl S3) λo=>dr 13 u o rfl (Ab o rfl) λo=>dr 14 u o rfl (Ab o rfl) λo=>dr 15 u o rfl (Al o runUnderlying45 sizeOf108 rfl rfl W0 (SR.oaI T0 (by decide) W0)) λo=>dr 16 u o rfl (Ae o Kg rfl) λo=>dq 17 u.ld o rfl (λw hl=>Af o isAgg3 rfl (PH.le.cell (λb o hx=>(Lds.le hl) b o (A0.sub b o hx)) (J1 3 _ rfl))) λo=>dr 18 u o rfl (Ab o rfl) λo=>dr 19 u o rfl (Ab o rfl) λo=>dr 20 u o rfl (Al o runUnderlying45 sizeOf108 rfl rfl W0 (SR.oaI T0 (by decide) W0)) λo=>dr 21 u o rfl (Ae o Hv rfl) λo=>dq 22 u.ld o rfl (λw hl=>Af o isAgg106 rfl (PH.le.cell (λb o hx=>(Lds.le hl) b o (A0.sub b o hx)) (J1 2 _ rfl))) λo=>da2 (i:=23) (j:=25) (by kernel_rfl) ?_ ?_
 refine di (i:=23) rfl<|c1 o rfl call84 (Jbb (St.le u) O2 (P2.mono A0.sub) X2) ⟨rfl,trivial⟩ (λv w a hR o=>?_)
 obtain ⟨H30,R0,M0,rfl,V1,X1,D0,Y1,hk⟩:=hR
 obtain ⟨u,D0⟩:=And.intro (St.passH u hk D0 Y1) (St.extc u D0)
 refine ⟨λ_=>(St.ldsX u D0.sub i1),?_⟩
 refine dq 24 (St.ldsX u D0.sub i1) o rfl (λw hl=>Bt [Ag C1,i6 V0.At,SL R0 D1 M0] [Ag C1,.slice none 0 0,SL R0 D1 M0,i6 V0.At] o ⟨rfl,rfl,rfl,trivial⟩ (λw=>by kernel_rfl)) λo=>da1 (i:=25) (by kernel_rfl) ?_
 refine di (i:=25) rfl<|As (cs:=[Ag [],.slice none 0 0,.slice none 0 0,i6 0].toArray) o rfl u zeroValue108 rfl λQ2 w a u o=>⟨λ_=>(St.ldsX u D0.sub ta1),?_⟩
 refine da1 (i:=26) (by kernel_rfl) ?_
 refine di (i:=26) rfl<|Bb o u sizeOf108 rfl rfl rfl rfl (Ao rfl) .head λw u=>⟨λh=>absurd rfl h,?_⟩
 refine de (by kernel_rfl)<|tn<|?_
 replace u:=u.pk [1,0] rfl
 exact ⟨C1,D1,V0.At,H30,Q2,R0,M0,hm,D0,o.hs,u,V1,X1⟩
 refine di (i:=25) rfl<|As (cs:=[Ag [],.slice none 0 0,.slice none 0 0,i6 0].toArray) o rfl u zeroValue108 rfl λQ2 w a u o=>⟨λ_=>(St.ldsX u i2 ta1),?_⟩
 refine da1 (i:=23) (by kernel_rfl) ?_
 refine di (i:=23) rfl<|c1 o rfl call84 (Jbb (St.le u) O2 (P2.mono A0.sub) X2) ⟨rfl,trivial⟩ (λv w a hR o=>?_)
 obtain ⟨H30,R0,M0,rfl,V1,X1,D0,Y1,hk⟩:=hR
 obtain ⟨u,D0⟩:=And.intro (St.passH u hk D0 Y1) (St.extc u D0)
 refine ⟨λ_=>(St.ldsX u D0.sub ta1),?_⟩
 refine dq 24 (St.ldsX u D0.sub ta1) o rfl (λw hl=>Bt [Ag C1,i6 V0.At,SL R0 D1 M0] [Ag C1,.slice none 0 0,SL R0 D1 M0,i6 V0.At] o ⟨rfl,rfl,rfl,trivial⟩ (λw=>by kernel_rfl)) λo=>da1 (i:=26) (by kernel_rfl) ?_
 refine di (i:=26) rfl<|Bb o u sizeOf108 rfl rfl rfl rfl (Ao rfl) .head λw u=>⟨λh=>absurd rfl h,?_⟩
 refine de (by kernel_rfl)<|tn<|?_
 replace u:=u.pk [1,0] rfl
 exact ⟨C1,D1,V0.At,H30,Q2,R0,M0,hm,D0,o.hs,u,V1,X1⟩
 rintro a w ⟨O0,I0,P0,HD1,bD2,oaD5,capD6,hm,hxHD1,o,u,hcD7,hrD8⟩
 unfold Z1z at hm
 refine th<|th<|rg<|qa o rfl λo=>re<|tn<|Av (λa w=>∃ (J0:(List Str)) (oaD11:Option Addr) (capD12:Nat) (vsD13:List Value),(Z20 (Z1y (Z21 N Z1x p1 U0) F0) O0 I0 P0 E0) J0=some r∧Fr 86 [(0,SL S0 p1 K0),(3,SL G0 E0 C0),(4,i6 F0),(5,PT bD2)] a∧St w0 Nil [HD1] [sla 108 4 G0 E0.length C0 Q0,sla 9 1 oaD11 J0.length capD12 vsD13,bk bD2 [Ag O0,SL oaD11 J0 capD12,SL oaD5 I0 capD6,i6 P0] 108] w∧Rows HD1 vsD13 J0) ?_ ?_
 replace u:=u.nilS 9 1
 replace u:=u.pk [1,0,0] rfl
 refine wb<|lp (α:=Nat×(List Str)×Int) (λgh a w=>match gh with | (Q1,j0,n0)=>∃ (oaE2:Option Addr) (capE3:Nat) (vsE4:List Value),(Z22 N (Z20 (Z1y (Z21 N Z1x p1 U0) F0) O0 I0 P0 E0) p1 F0) Q1 j0 n0=some r∧Fr 86 [(0,SL S0 p1 K0),(3,SL G0 E0 C0),(4,i6 F0),(5,PT bD2),(6,i6 n0)] a∧St w0 Nil [HD1] [sla 108 4 G0 E0.length C0 Q0,sla 9 1 oaE2 j0.length capE3 vsE4,bk bD2 [Ag O0,SL oaE2 j0 capE3,SL oaD5 I0 capD6,i6 P0] 108] w∧Rows HD1 vsE4 j0) (λgh=>gh.1) (N,[],0) ⟨none,0,[],hm,o.hs,u,.nil⟩ ?_
 rintro ⟨Q1,j0,n0⟩ a w ⟨oaE2,capE3,vsE4,hm,o,u,hvE5⟩
 obtain _ | Q1:=Q1
 simp [Z22] at hm
 rw [Z22] at hm
 refine th<|th<|?_
 obtain ⟨Y2,u0,hm⟩:=bs hm
 obtain ⟨Q4,T3,u1⟩:=SR.get T0 u0
 obtain ⟨I4,B4,J4,C4,rfl,K4,B2,L4,M4⟩:=Bg T3
 refine rg<|qm o rfl λo=>?_
 iterate 2 refine qm o rfl λo=>?_
 refine qv o (Al o runUnderlying45 sizeOf108 rfl rfl u0 (SR.oaI T0 (by decide) u0)) λo=>qv o (Ae o Cp rfl) λo=>qv o (Af o isAgg92 rfl (PH.le.cell (λb o hx=>(Lds.le u.ld) b o ((cp hxHD1.sub A0.sub) b o hx)) (u1 1 _ rfl))) λo=>qv o (Aj (α:=Str) (xs:=Y2.Regs) o runUnderlying92 rfl) λo=>qv o (Ak o rfl rfl) λo=>qm o rfl λo=>gr (Fk:=[(0,SL S0 p1 K0),(3,SL G0 E0 C0),(4,i6 F0),(5,PT bD2),(6,i6 n0),(54,.bool ((decide (n0 < (Y2.Regs.length:Int))) && (decide (n0 < 6))))]) 51 3 o u ?_ ?_ ?_
 intro hb o key
 exact qg o (Ab o rfl) λo=>qg o (Ak o rfl rfl) λo=>qk o (Ac o rfl rfl) key u hb
 intro hb o key
 iterate 2 refine qn o λo=>?_
 exact qk o (Ad o rfl rfl) key u hb
 intro a w o u
 refine re<|?_
 rcases bit hm with ⟨C2,hm⟩ | ⟨C2,hm⟩
 refine tn<|ctv o rfl C2<|wk<|tn<|th<|wb<|?_
 obtain ⟨G2,R1,hm⟩:=bs hm
 obtain ⟨U3,V3,R2⟩:=SR.get B2 R1
 obtain rfl:U3=[Ag G2]:=V3
 obtain ⟨S1,W3,hm⟩:=bs hm
 obtain ⟨X3,Y3,hm⟩:=bs hm
 refine rdL (Aa t0 (Aa t2 Ai)) 24 u wide λw u=>ds 0 (St.ldsX u i2 (Aa t0 (Aa t2 Ai))) o rfl (Ae o Cp rfl) λo=>dq 1 (St.ldsX u i2 (Aa t0 (Aa t2 Ai))) o rfl (λw hl=>Af o isAgg92 rfl (hl.cellB t1 rfl)) λo=>ds 2 (St.ldsX u i2 (Aa t0 (Aa t2 Ai))) o rfl (Ab o rfl) λo=>ds 3 (St.ldsX u i2 (Aa t0 (Aa t2 Ai))) o rfl (Ab o rfl) λo=>ds 4 (St.ldsX u i2 (Aa t0 (Aa t2 Ai))) o rfl (Al o runUnderlying45 sizeOf108 rfl rfl u0 (SR.oaI T0 (by decide) u0)) λo=>ds 5 (St.ldsX u i2 (Aa t0 (Aa t2 Ai))) o rfl (Ae o Cp rfl) λo=>dq 6 (St.ldsX u i2 (Aa t0 (Aa t2 Ai))) o rfl (λw hl=>Af o isAgg92 rfl (PH.le.cell (λb o hx=>(Lds.le hl) b o ((cp hxHD1.sub A0.sub) b o hx)) (u1 1 _ rfl))) λo=>ds 7 (St.ldsX u i2 (Aa t0 (Aa t2 Ai))) o rfl (Ab o rfl) λo=>ds 8 (St.ldsX u i2 (Aa t0 (Aa t2 Ai))) o rfl (Al o runUnderlying92 sizeOf9 rfl rfl R1 (SR.oaI B2 (by decide) R1)) λo=>dq 9 (St.ldsX u i2 (Aa t0 (Aa t2 Ai))) o rfl (λw hl=>Af o isAgg9 rfl (PH.le.cell (λb o hx=>(Lds.le hl) b o ((cp hxHD1.sub A0.sub) b o hx)) (R2 0 _ rfl))) λo=>ds 10 (St.ldsX u i2 (Aa t0 (Aa t2 Ai))) o rfl (Ab o rfl) λo=>ds 11 (St.ldsX u i2 (Aa t0 (Aa t2 Ai))) o rfl (Ab o rfl) λo=>ds 12 (St.ldsX u i2 (Aa t0 (Aa t2 Ai))) o rfl (Al o runUnderlying45 sizeOf108 rfl rfl u0 (SR.oaI T0 (by decide) u0)) λo=>ds 13 (St.ldsX u i2 (Aa t0 (Aa t2 Ai))) o rfl (Ae o Cp rfl) λo=>dq 14 (St.ldsX u i2 (Aa t0 (Aa t2 Ai))) o rfl (λw hl=>Af o isAgg92 rfl (PH.le.cell (λb o hx=>(Lds.le hl) b o ((cp hxHD1.sub A0.sub) b o hx)) (u1 1 _ rfl))) λo=>ds 15 (St.ldsX u i2 (Aa t0 (Aa t2 Ai))) o rfl (Ab o rfl) λo=>ds 16 (St.ldsX u i2 (Aa t0 (Aa t2 Ai))) o rfl (Al o runUnderlying92 sizeOf9 rfl rfl R1 (SR.oaI B2 (by decide) R1)) λo=>dq 17 (St.ldsX u i2 (Aa t0 (Aa t2 Ai))) o rfl (λw hl=>Af o isAgg9 rfl (PH.le.cell (λb o hx=>(Lds.le hl) b o ((cp hxHD1.sub A0.sub) b o hx)) (R2 0 _ rfl))) λo=>ds 18 (St.ldsX u i2 (Aa t0 (Aa t2 Ai))) o rfl (Cu (s:=G2) o runUnderlying9 rfl) λo=>ds 19 (St.ldsX u i2 (Aa t0 (Aa t2 Ai))) o rfl (N5 o rfl rfl) λo=>ds 20 (St.ldsX u i2 (Aa t0 (Aa t2 Ai))) o rfl (Jj (s:=G2) (vl:=0) (vh:=(min (G2.length:Int) 40)) o runUnderlying9 rfl rfl rfl W3) λo=>da1 (i:=21) (by kernel_rfl) ?_
 refine di (i:=21) rfl<|Bj (e:=9) (sz:=1) [Ag S1] o rfl u rfl rfl rfl (λw=>by kernel_rfl) λR4 w a u o=>?_
 have u2:Rows (α:=Str) HD1 [Ag S1] ([S1]:List Str):=(.cons (c:=[Ag S1]) rfl .nil)
 refine ⟨λ_=>(St.ldsX u i2 (Aa t1 (Aa t3 Ai))),?_⟩
 refine da1 (i:=22) (by kernel_rfl) ?_
 refine di (i:=22) rfl<|Bv (α:=Str) (xs:=j0) (ys:=([S1]:List Str)) o rfl u underlying92 Qh rfl (by decide) rfl rfl rfl t2 hvE5 (u.rdO t0) u2 Y3 λA3 T2 B3 w a C3 hU o=>?_
 replace u:=hU _ (.tail (.tail .head))
 replace u:=u.drop .head
 refine ⟨λ_=>(St.ldsX u i2 (Aa t0 (Aa t2 Ai))),?_⟩
 refine ds 23 (St.ldsX u i2 (Aa t0 (Aa t2 Ai))) o rfl (Ae o Cp rfl) λo=>da1 (i:=24) (by kernel_rfl) ?_
 refine di (i:=24) rfl<|Bz o u sizeOf92 rfl rfl rfl rfl (.tail (.tail .head)) (.succ .zero) λw u=>⟨λh=>absurd rfl h,?_⟩
 refine de (by kernel_rfl)<|bn<|tn<|rg<|qm o rfl λo=>qv o (An o rfl rfl) λo=>qa o rfl λo=>re<|tn<|?_
 exact ⟨(Q1,X3,(IntKind.i64.wrap (n0+1))),⟨A3,T2,B3,hm,o.hs,u,C3⟩,Nat.lt_succ_self _⟩
 refine tn<|cfv o rfl C2<|we<|tx<|tx<|bx<|tn<|?_
 exact ⟨j0,oaE2,capE3,vsE4,hm,o.hs,u,hvE5⟩
 rintro a w ⟨J0,oaD11,capD12,vsD13,hm,o,u,hvD14⟩
 unfold Z20 at hm
 obtain ⟨l3,n3,hm⟩:=bs hm
 refine rg<|qm o rfl λo=>qv o (Ar o isAgg108 sizeOf108 rfl rfl (u.ld.cellsB t2)) λo=>?_
 obtain ⟨H69,E2,D3,E3,u⟩:=St.frzS u (.tail .head) hvD14
 refine ls<|Bj (e:=108) (sz:=4) [Ag O0,SL oaD11 J0 capD12,SL oaD5 I0 capD6,i6 P0] o rfl u rfl rfl rfl (λw=>by kernel_rfl) λS4 w a u o=>?_
 have F3:Rows (α:=api_Thread) H69 [Ag O0,SL oaD11 J0 capD12,SL oaD5 I0 capD6,i6 P0] ([(api_Thread.mk O0 J0 I0 P0)]:List api_Thread):=(.cons (c:=[Ag O0,SL oaD11 J0 capD12,SL oaD5 I0 capD6,i6 P0]) ⟨_,_,rfl,rfl,⟨_,_,rfl,⟨_,_,rfl,E3,D3⟩,⟨_,_,rfl,⟨_,_,rfl,hcD7,(hrD8.mono E2.sub)⟩,rfl⟩⟩⟩ .nil)
 refine ls<|Bv (α:=api_Thread) (xs:=E0) (ys:=([(api_Thread.mk O0 J0 I0 P0)]:List api_Thread)) o rfl u underlying45 Oq rfl (by decide) rfl rfl rfl t1 (J2.mono (cp E2.sub hxHD1.sub)) (u.rdO t0) F3 n3 λG3 U2 I3 w a J3 hU o=>?_
 replace u:=hU _ (.tail .head)
 replace u:=u.drop .head
 refine qa o rfl λo=>re<|bn<|tn<|?_
 replace u:=u.pk [0] rfl
 exact ⟨l3,H69,G3,U2,I3,hm,(Ext.trans hxHD1 E2),o.hs,u,J3⟩
 rintro a w ⟨B1,P1,F1,X0,I1,hm,hxHC1,o,u,K3⟩
 unfold Z1y at hm
 refine rg<|qm o rfl λo=>qv o (An o rfl rfl) λo=>qa o rfl λo=>re<|tn<|?_
 exact ⟨(U0,B1,(IntKind.i64.wrap (F0+1))),⟨P1,F1,X0,I1,hm,(Ext.trans A0 hxHC1),o.hs,u,K3⟩,Nat.lt_succ_self _⟩
 refine tn<|cfv o rfl K2<|we<|tx<|tx<|bx<|tn<|?_
 exact ⟨E0,Y0,G0,C0,Q0,hm,A0,o.has ⟨rfl,trivial⟩,u,J2⟩
 rintro a w ⟨O1,F2,T1,E1,U1,hm,V2,o,u,L3⟩
 unfold Z1x at hm
 refine th<|rg<|qm o rfl λo=>qa o rfl λo=>re<|tn<|wr<|?_
 obtain ⟨H82,M3,O3,P3,u⟩:=St.frzS u .head L3
 obtain rfl:=si hm
 exact r1 o results51 rfl ⟨H82,_,_,rfl,P3,O3,(Ext.trans V2 M3),(St.le u),u.keep⟩
set_option maxHeartbeats 4000000 in
theorem Jd2 (hH:H.le w0) {cs2:List Value} {p1:api_Prog} (g3:Enc.rep H cs2 p1) {r:api_Prog} (hm:Z1n N p1=some r):Tot Tryz.prog 19 #[.agg cs2.toArray] w0 (λv w'=>∃ (H':PH) (cs0:List Value),v=.agg cs0.toArray∧Enc.rep H' cs0 r∧Ext w0 H H'∧H'.le w'∧Keep Nil w0 w'):=by
 unfold Z1n at hm
 refine fn0 func19 rfl ntmps19 rfl rfl λa o=>?_
 have u:St w0 Nil [H] [] w0:=start1 hH
 obtain ⟨K4,P3,L4,Q3,R3,X2,S3,Y2,T3,u2,U3,A3,rfl,l6,n5,A5,B5,S4,T4,B4,C4,V3,W3,Y6,U4⟩:=Bc g3
 refine th<|rg<|ls<|Br (cs:=[SL K4 p1.Lines P3,SL L4 p1.Vols Q3,SL R3 p1.Locks X2,SL S3 p1.Threads Y2,SL T3 p1.Recover u2,SL U3 p1.Claims A3].toArray) o rfl u rfl rfl λK2 w a u o=>ls<|As (cs:=[.slice none 0 0,.slice none 0 0,.slice none 0 0,.slice none 0 0,.slice none 0 0,.slice none 0 0].toArray) o rfl u zeroValue48 rfl λV1 w a u o=>re<|tn<|th<|Av (λa w=>∃ (T0:(List api_Cell)) (U0:(List api_Cell)) (Q0:(List api_Thread)) (R0:(List api_Thread)) (O2:PH) (P1:Nat) (j0:Option Addr) (O0:Nat) (P2:List Value) (P0:Option Addr) (I0:Nat) (R1:List Value) (B1:Option Addr) (V0:Nat) (C1:Option Addr) (W0:Nat),(Z1o N p1) T0 U0 Q0 R0=some r∧Ext w0 H O2∧Fr 72 [(1,PT K2),(2,PT V1),(3,PT P1)] a∧St w0 Nil [O2] [bk K2 [SL K4 p1.Lines P3,SL L4 p1.Vols Q3,SL R3 p1.Locks X2,SL S3 p1.Threads Y2,SL T3 p1.Recover u2,SL U3 p1.Claims A3] 48,bk V1 [.slice none 0 0,.slice none 0 0,.slice none 0 0,.slice none 0 0,.slice none 0 0,.slice none 0 0] 48,sla 130 3 j0 T0.length O0 P2,sla 130 3 P0 U0.length I0 R1,bk P1 [.slice none 0 0,SL j0 T0 O0,SL P0 U0 I0,SL B1 Q0 V0,SL C1 R0 W0,.slice none 0 0] 48] w∧Rows O2 P2 T0∧Rows O2 R1 U0∧Q0.length≤V0∧SR O2 B1 Q0∧R0.length≤W0∧SR O2 C1 R0) ?_ ?_
 obtain ⟨E1,u5,hm⟩:=bs hm
 obtain ⟨F1,C5,hm⟩:=bs hm
 obtain ⟨I1,d4,hm⟩:=bs hm
 obtain ⟨J1,M4,hm⟩:=bs hm
 refine rdS 14 u wide λw u=>dr 0 u o rfl (Ae o H5 rfl) λo=>dq 1 u.ld o rfl (λw hl=>Af o isAgg44 rfl (hl.cellB t1 rfl)) λo=>dr 3 u o rfl (Ae o Hz rfl) λo=>dq 4 u.ld o rfl (λw hl=>Af o isAgg44 rfl (hl.cellB t1 rfl)) λo=>dr 6 u o rfl (Ae o Fz rfl) λo=>dq 7 u.ld o rfl (λw hl=>Af o isAgg45 rfl (hl.cellB t1 rfl)) λo=>dr 9 u o rfl (Ae o Ks rfl) λo=>dq 10 u.ld o rfl (λw hl=>Af o isAgg45 rfl (hl.cellB t1 rfl)) λo=>da2 (i:=2) (j:=13) (by kernel_rfl) ?_ ?_
 refine di (i:=2) rfl<|c1 o rfl call50 (Nx (Ah _) A5 (St.srH u B5) u5) ⟨rfl,trivial⟩ (λv w a hR o=>?_)
 obtain ⟨S0,G0,J3,rfl,O1,hk⟩:=hR
 replace u:=u.fresh hk
 replace O1:=O1 H
 refine ⟨λ_=>(St.ldsX u i2 ta1),?_⟩
 refine da2 (i:=5) (j:=13) (by kernel_rfl) ?_ ?_
 refine di (i:=5) rfl<|c1 o rfl call50 (Nx (Ah _) S4 (St.srH u T4) C5) ⟨rfl,trivial⟩ (λv w a hR o=>?_)
 obtain ⟨M0,F0,Q2,rfl,n0,hk⟩:=hR
 replace u:=u.fresh hk
 replace n0:=n0 H
 refine ⟨λ_=>(St.ldsX u i2 ta2),?_⟩
 refine da2 (i:=8) (j:=13) (by kernel_rfl) ?_ ?_
 refine di (i:=8) rfl<|c1 o rfl call51 (Jv (St.le u) B4 C4 d4) ⟨rfl,trivial⟩ (λv w a hR o=>?_)
 obtain ⟨H49,K0,E0,rfl,X1,Y1,A0,R2,hk⟩:=hR
 obtain ⟨u,A0⟩:=And.intro (St.passH u hk A0 R2) (St.extc u A0)
 refine ⟨λ_=>(St.ldsX u A0.sub ta2),?_⟩
 refine da2 (i:=11) (j:=13) (by kernel_rfl) ?_ ?_
 refine di (i:=11) rfl<|c1 o rfl call51 (Jv (St.le u) V3 (W3.mono A0.sub) M4) ⟨rfl,trivial⟩ (λv w a hR o=>?_)
 obtain ⟨H59,J0,D0,rfl,S1,T1,C0,U1,hk⟩:=hR
 obtain ⟨u,C0⟩:=And.intro (St.passH u hk C0 U1) (St.extc u C0)
 refine ⟨λ_=>(St.ldsX u (cp C0.sub A0.sub) ta2),?_⟩
 refine dq 12 (St.ldsX u (cp C0.sub A0.sub) ta2) o rfl (λw hl=>Bt [SL S0 E1 G0,SL M0 F1 F0,SL K0 I1 E0,SL J0 J1 D0] [.slice none 0 0,SL S0 E1 G0,SL M0 F1 F0,SL K0 I1 E0,SL J0 J1 D0,.slice none 0 0] o ⟨rfl,rfl,rfl,rfl,trivial⟩ (λw=>by kernel_rfl)) λo=>da1 (i:=13) (by kernel_rfl) ?_
 refine di (i:=13) rfl<|As (cs:=[.slice none 0 0,.slice none 0 0,.slice none 0 0,.slice none 0 0,.slice none 0 0,.slice none 0 0].toArray) o rfl u zeroValue48 rfl λB3 w a u o=>⟨λ_=>(St.ldsX u (cp C0.sub A0.sub) ta3),?_⟩
 refine da1 (i:=14) (by kernel_rfl) ?_
 refine di (i:=14) rfl<|Bb o u sizeOf48 rfl rfl rfl rfl (Ao rfl) .head λw u=>⟨λh=>absurd rfl h,?_⟩
 refine de (by kernel_rfl)<|tn<|?_
 replace u:=u.pk [4,3,2,1,0] rfl
 exact ⟨E1,F1,I1,J1,H59,B3,S0,G0,J3,M0,F0,Q2,K0,E0,J0,D0,hm,(Ext.trans A0 C0),o.hs,u,(O1.mono (cp C0.sub A0.sub)),(n0.mono (cp C0.sub A0.sub)),X1,(Y1.mono C0.sub),S1,T1⟩
 refine di (i:=13) rfl<|As (cs:=[.slice none 0 0,.slice none 0 0,.slice none 0 0,.slice none 0 0,.slice none 0 0,.slice none 0 0].toArray) o rfl u zeroValue48 rfl λB3 w a u o=>⟨λ_=>(St.ldsX u A0.sub ta3),?_⟩
 refine da1 (i:=11) (by kernel_rfl) ?_
 refine di (i:=11) rfl<|c1 o rfl call51 (Jv (St.le u) V3 (W3.mono A0.sub) M4) ⟨rfl,trivial⟩ (λv w a hR o=>?_)
 obtain ⟨H59,J0,D0,rfl,S1,T1,C0,U1,hk⟩:=hR
 obtain ⟨u,C0⟩:=And.intro (St.passH u hk C0 U1) (St.extc u C0)
 refine ⟨λ_=>(St.ldsX u (cp C0.sub A0.sub) ta3),?_⟩
 refine dq 12 (St.ldsX u (cp C0.sub A0.sub) ta3) o rfl (λw hl=>Bt [SL S0 E1 G0,SL M0 F1 F0,SL K0 I1 E0,SL J0 J1 D0] [.slice none 0 0,SL S0 E1 G0,SL M0 F1 F0,SL K0 I1 E0,SL J0 J1 D0,.slice none 0 0] o ⟨rfl,rfl,rfl,rfl,trivial⟩ (λw=>by kernel_rfl)) λo=>da1 (i:=14) (by kernel_rfl) ?_
 refine di (i:=14) rfl<|Bb o u sizeOf48 rfl rfl rfl rfl (Ao rfl) .head λw u=>⟨λh=>absurd rfl h,?_⟩
 refine de (by kernel_rfl)<|tn<|?_
 replace u:=u.pk [4,3,2,1,0] rfl
 exact ⟨E1,F1,I1,J1,H59,B3,S0,G0,J3,M0,F0,Q2,K0,E0,J0,D0,hm,(Ext.trans A0 C0),o.hs,u,(O1.mono (cp C0.sub A0.sub)),(n0.mono (cp C0.sub A0.sub)),X1,(Y1.mono C0.sub),S1,T1⟩
 refine di (i:=13) rfl<|As (cs:=[.slice none 0 0,.slice none 0 0,.slice none 0 0,.slice none 0 0,.slice none 0 0,.slice none 0 0].toArray) o rfl u zeroValue48 rfl λB3 w a u o=>⟨λ_=>(St.ldsX u i2 ta3),?_⟩
 refine da1 (i:=8) (by kernel_rfl) ?_
 refine di (i:=8) rfl<|c1 o rfl call51 (Jv (St.le u) B4 C4 d4) ⟨rfl,trivial⟩ (λv w a hR o=>?_)
 obtain ⟨H49,K0,E0,rfl,X1,Y1,A0,R2,hk⟩:=hR
 obtain ⟨u,A0⟩:=And.intro (St.passH u hk A0 R2) (St.extc u A0)
 refine ⟨λ_=>(St.ldsX u A0.sub ta3),?_⟩
 refine da1 (i:=11) (by kernel_rfl) ?_
 refine di (i:=11) rfl<|c1 o rfl call51 (Jv (St.le u) V3 (W3.mono A0.sub) M4) ⟨rfl,trivial⟩ (λv w a hR o=>?_)
 obtain ⟨H59,J0,D0,rfl,S1,T1,C0,U1,hk⟩:=hR
 obtain ⟨u,C0⟩:=And.intro (St.passH u hk C0 U1) (St.extc u C0)
 refine ⟨λ_=>(St.ldsX u (cp C0.sub A0.sub) ta3),?_⟩
 refine dq 12 (St.ldsX u (cp C0.sub A0.sub) ta3) o rfl (λw hl=>Bt [SL S0 E1 G0,SL M0 F1 F0,SL K0 I1 E0,SL J0 J1 D0] [.slice none 0 0,SL S0 E1 G0,SL M0 F1 F0,SL K0 I1 E0,SL J0 J1 D0,.slice none 0 0] o ⟨rfl,rfl,rfl,rfl,trivial⟩ (λw=>by kernel_rfl)) λo=>da1 (i:=14) (by kernel_rfl) ?_
 refine di (i:=14) rfl<|Bb o u sizeOf48 rfl rfl rfl rfl (Ao rfl) .head λw u=>⟨λh=>absurd rfl h,?_⟩
 refine de (by kernel_rfl)<|tn<|?_
 replace u:=u.pk [4,3,2,1,0] rfl
 exact ⟨E1,F1,I1,J1,H59,B3,S0,G0,J3,M0,F0,Q2,K0,E0,J0,D0,hm,(Ext.trans A0 C0),o.hs,u,(O1.mono (cp C0.sub A0.sub)),(n0.mono (cp C0.sub A0.sub)),X1,(Y1.mono C0.sub),S1,T1⟩
 refine di (i:=13) rfl<|As (cs:=[.slice none 0 0,.slice none 0 0,.slice none 0 0,.slice none 0 0,.slice none 0 0,.slice none 0 0].toArray) o rfl u zeroValue48 rfl λB3 w a u o=>⟨λ_=>(St.ldsX u i2 ta2),?_⟩
 refine da1 (i:=5) (by kernel_rfl) ?_
 refine di (i:=5) rfl<|c1 o rfl call50 (Nx (Ah _) S4 (St.srH u T4) C5) ⟨rfl,trivial⟩ (λv w a hR o=>?_)
 obtain ⟨M0,F0,Q2,rfl,n0,hk⟩:=hR
 replace u:=u.fresh hk
 replace n0:=n0 H
 refine ⟨λ_=>(St.ldsX u i2 ta3),?_⟩
 refine da1 (i:=8) (by kernel_rfl) ?_
 refine di (i:=8) rfl<|c1 o rfl call51 (Jv (St.le u) B4 C4 d4) ⟨rfl,trivial⟩ (λv w a hR o=>?_)
 obtain ⟨H49,K0,E0,rfl,X1,Y1,A0,R2,hk⟩:=hR
 obtain ⟨u,A0⟩:=And.intro (St.passH u hk A0 R2) (St.extc u A0)
 refine ⟨λ_=>(St.ldsX u A0.sub ta3),?_⟩
 refine da1 (i:=11) (by kernel_rfl) ?_
 refine di (i:=11) rfl<|c1 o rfl call51 (Jv (St.le u) V3 (W3.mono A0.sub) M4) ⟨rfl,trivial⟩ (λv w a hR o=>?_)
 obtain ⟨H59,J0,D0,rfl,S1,T1,C0,U1,hk⟩:=hR
 obtain ⟨u,C0⟩:=And.intro (St.passH u hk C0 U1) (St.extc u C0)
 refine ⟨λ_=>(St.ldsX u (cp C0.sub A0.sub) ta3),?_⟩
 refine dq 12 (St.ldsX u (cp C0.sub A0.sub) ta3) o rfl (λw hl=>Bt [SL S0 E1 G0,SL M0 F1 F0,SL K0 I1 E0,SL J0 J1 D0] [.slice none 0 0,SL S0 E1 G0,SL M0 F1 F0,SL K0 I1 E0,SL J0 J1 D0,.slice none 0 0] o ⟨rfl,rfl,rfl,rfl,trivial⟩ (λw=>by kernel_rfl)) λo=>da1 (i:=14) (by kernel_rfl) ?_
 refine di (i:=14) rfl<|Bb o u sizeOf48 rfl rfl rfl rfl (Ao rfl) (.tail .head) λw u=>⟨λh=>absurd rfl h,?_⟩
 refine de (by kernel_rfl)<|tn<|?_
 replace u:=u.pk [4,3,2,0,0] rfl
 exact ⟨E1,F1,I1,J1,H59,B3,S0,G0,J3,M0,F0,Q2,K0,E0,J0,D0,hm,(Ext.trans A0 C0),o.hs,u,(O1.mono (cp C0.sub A0.sub)),(n0.mono (cp C0.sub A0.sub)),X1,(Y1.mono C0.sub),S1,T1⟩
 refine di (i:=13) rfl<|As (cs:=[.slice none 0 0,.slice none 0 0,.slice none 0 0,.slice none 0 0,.slice none 0 0,.slice none 0 0].toArray) o rfl u zeroValue48 rfl λB3 w a u o=>⟨λ_=>(St.ldsX u i2 ta1),?_⟩
 refine da1 (i:=2) (by kernel_rfl) ?_
 refine di (i:=2) rfl<|c1 o rfl call50 (Nx (Ah _) A5 (St.srH u B5) u5) ⟨rfl,trivial⟩ (λv w a hR o=>?_)
 obtain ⟨S0,G0,J3,rfl,O1,hk⟩:=hR
 replace u:=u.fresh hk
 replace O1:=O1 H
 refine ⟨λ_=>(St.ldsX u i2 ta2),?_⟩
 refine da1 (i:=5) (by kernel_rfl) ?_
 refine di (i:=5) rfl<|c1 o rfl call50 (Nx (Ah _) S4 (St.srH u T4) C5) ⟨rfl,trivial⟩ (λv w a hR o=>?_)
 obtain ⟨M0,F0,Q2,rfl,n0,hk⟩:=hR
 replace u:=u.fresh hk
 replace n0:=n0 H
 refine ⟨λ_=>(St.ldsX u i2 ta3),?_⟩
 refine da1 (i:=8) (by kernel_rfl) ?_
 refine di (i:=8) rfl<|c1 o rfl call51 (Jv (St.le u) B4 C4 d4) ⟨rfl,trivial⟩ (λv w a hR o=>?_)
 obtain ⟨H49,K0,E0,rfl,X1,Y1,A0,R2,hk⟩:=hR
 obtain ⟨u,A0⟩:=And.intro (St.passH u hk A0 R2) (St.extc u A0)
 refine ⟨λ_=>(St.ldsX u A0.sub ta3),?_⟩
 refine da1 (i:=11) (by kernel_rfl) ?_
 refine di (i:=11) rfl<|c1 o rfl call51 (Jv (St.le u) V3 (W3.mono A0.sub) M4) ⟨rfl,trivial⟩ (λv w a hR o=>?_)
 obtain ⟨H59,J0,D0,rfl,S1,T1,C0,U1,hk⟩:=hR
 obtain ⟨u,C0⟩:=And.intro (St.passH u hk C0 U1) (St.extc u C0)
 refine ⟨λ_=>(St.ldsX u (cp C0.sub A0.sub) ta3),?_⟩
 refine dq 12 (St.ldsX u (cp C0.sub A0.sub) ta3) o rfl (λw hl=>Bt [SL S0 E1 G0,SL M0 F1 F0,SL K0 I1 E0,SL J0 J1 D0] [.slice none 0 0,SL S0 E1 G0,SL M0 F1 F0,SL K0 I1 E0,SL J0 J1 D0,.slice none 0 0] o ⟨rfl,rfl,rfl,rfl,trivial⟩ (λw=>by kernel_rfl)) λo=>da1 (i:=14) (by kernel_rfl) ?_
 refine di (i:=14) rfl<|Bb o u sizeOf48 rfl rfl rfl rfl (Ao rfl) (.tail (.tail .head)) λw u=>⟨λh=>absurd rfl h,?_⟩
 refine de (by kernel_rfl)<|tn<|?_
 replace u:=u.pk [4,3,1,0,0] rfl
 exact ⟨E1,F1,I1,J1,H59,B3,S0,G0,J3,M0,F0,Q2,K0,E0,J0,D0,hm,(Ext.trans A0 C0),o.hs,u,(O1.mono (cp C0.sub A0.sub)),(n0.mono (cp C0.sub A0.sub)),X1,(Y1.mono C0.sub),S1,T1⟩
 rintro a w ⟨T0,U0,Q0,R0,O2,P1,j0,O0,P2,P0,I0,R1,B1,V0,C1,W0,hm,E2,o,u,A6,G5,hcA18,hrA19,hcA23,hrA24⟩
 unfold Z1o at hm
 refine th<|th<|rg<|qa o rfl λo=>re<|tn<|Av (λa w=>∃ (X0:(List (List api_Cell))) (T2:PH) (D1:Option Addr) (Y0:Nat) (C3:List Value),(Z1p N p1 T0 U0 Q0 R0) X0=some r∧Ext w0 O2 T2∧Fr 72 [(1,PT K2),(2,PT V1),(3,PT P1)] a∧St w0 Nil [T2] [bk K2 [SL K4 p1.Lines P3,SL L4 p1.Vols Q3,SL R3 p1.Locks X2,SL S3 p1.Threads Y2,SL T3 p1.Recover u2,SL U3 p1.Claims A3] 48,bk V1 [.slice none 0 0,.slice none 0 0,.slice none 0 0,.slice none 0 0,.slice none 0 0,.slice none 0 0] 48,sla 44 1 D1 X0.length Y0 C3,sla 130 3 j0 T0.length O0 P2,sla 130 3 P0 U0.length I0 R1,bk P1 [SL D1 X0 Y0,SL j0 T0 O0,SL P0 U0 I0,SL B1 Q0 V0,SL C1 R0 W0,.slice none 0 0] 48] w∧Rows T2 C3 X0) ?_ ?_
 replace u:=u.nilS 44 1
 replace u:=u.pk [1,1,0,0,0,0] rfl
 refine wb<|lp (α:=Nat×(List (List api_Cell))×Int) (λ(gh:Nat×(List (List api_Cell))×Int) a w=>match gh with | (O4,X3,Y3)=>∃ (u3:PH) (D4:Option Addr) (K3:Nat) (E4:List Value),(Z1r N (Z1p N p1 T0 U0 Q0 R0) p1) O4 X3 Y3=some r∧Ext w0 O2 u3∧Fr 72 [(1,PT K2),(2,PT V1),(3,PT P1),(4,i6 Y3)] a∧St w0 Nil [u3] [bk K2 [SL K4 p1.Lines P3,SL L4 p1.Vols Q3,SL R3 p1.Locks X2,SL S3 p1.Threads Y2,SL T3 p1.Recover u2,SL U3 p1.Claims A3] 48,bk V1 [.slice none 0 0,.slice none 0 0,.slice none 0 0,.slice none 0 0,.slice none 0 0,.slice none 0 0] 48,sla 44 1 D4 X3.length K3 E4,sla 130 3 j0 T0.length O0 P2,sla 130 3 P0 U0.length I0 R1,bk P1 [SL D4 X3 K3,SL j0 T0 O0,SL P0 U0 I0,SL B1 Q0 V0,SL C1 R0 W0,.slice none 0 0] 48] w∧Rows u3 E4 X3) (λgh=>gh.1) (N,[],0) ⟨O2,none,0,[],hm,(Ext.refl _ _),o.hs,u,.nil⟩ ?_
 rintro ⟨O4,X3,Y3⟩ a w ⟨u3,D4,K3,E4,hm,L3,o,u,D5⟩
 obtain _ | O4:=O4
 simp [Z1r] at hm
 rw [Z1r] at hm
 refine th<|th<|rg<|qm o rfl λo=>qv o (Ae o Dl rfl) λo=>qv o (Af o isAgg43 rfl (u.ld.cellB t0 rfl)) λo=>qv o (Aj (α:=(List api_Cell)) (xs:=p1.Lines) o runUnderlying43 rfl) λo=>qv o (Ak o rfl rfl) λo=>qm o rfl λo=>gr (Fk:=[(1,PT K2),(2,PT V1),(3,PT P1),(4,i6 Y3),(27,.bool ((decide (Y3 < (p1.Lines.length:Int))) && (decide (Y3 < 6))))]) 24 3 o u ?_ ?_ ?_
 intro hb o key
 exact qg o (Ab o rfl) λo=>qg o (Ak o rfl rfl) λo=>qk o (Ac o rfl rfl) key u hb
 intro hb o key
 iterate 2 refine qn o λo=>?_
 exact qk o (Ad o rfl rfl) key u hb
 intro a w o u
 refine re<|?_
 rcases bit hm with ⟨V4,hm⟩ | ⟨V4,hm⟩
 refine tn<|ctv o rfl V4<|wk<|tn<|th<|wb<|?_
 obtain ⟨n6,E5,hm⟩:=bs hm
 obtain ⟨u6,P6,B6⟩:=SR.get n5 E5
 obtain ⟨d6,V6,rfl,C6,D6⟩:=P6
 obtain ⟨P4,Q6,hm⟩:=bs hm
 obtain ⟨R6,S6,hm⟩:=bs hm
 refine rdL (Aa t0 (Aa t1 (Aa t3 (Aa t4 (Aa t5 Ai))))) 11 u wide λw u=>ds 0 (St.ldsX u i2 (Aa t0 (Aa t1 (Aa t3 (Aa t4 (Aa t5 Ai)))))) o rfl (Ae o Dl rfl) λo=>dq 1 (St.ldsX u i2 (Aa t0 (Aa t1 (Aa t3 (Aa t4 (Aa t5 Ai)))))) o rfl (λw hl=>Af o isAgg43 rfl (hl.cellB t4 rfl)) λo=>ds 2 (St.ldsX u i2 (Aa t0 (Aa t1 (Aa t3 (Aa t4 (Aa t5 Ai)))))) o rfl (Ae o Dl rfl) λo=>dq 3 (St.ldsX u i2 (Aa t0 (Aa t1 (Aa t3 (Aa t4 (Aa t5 Ai)))))) o rfl (λw hl=>Af o isAgg43 rfl (hl.cellB t0 rfl)) λo=>ds 4 (St.ldsX u i2 (Aa t0 (Aa t1 (Aa t3 (Aa t4 (Aa t5 Ai)))))) o rfl (Ab o rfl) λo=>ds 5 (St.ldsX u i2 (Aa t0 (Aa t1 (Aa t3 (Aa t4 (Aa t5 Ai)))))) o rfl (Al o runUnderlying43 sizeOf44 rfl rfl E5 (SR.oaI n5 (by decide) E5)) λo=>dq 6 (St.ldsX u i2 (Aa t0 (Aa t1 (Aa t3 (Aa t4 (Aa t5 Ai)))))) o rfl (λw hl=>Af o isAgg44 rfl (PH.le.cell (λb o hx=>(Lds.le hl) b o ((cp L3.sub E2.sub) b o hx)) (B6 0 _ rfl))) λo=>da1 (i:=7) (by kernel_rfl) ?_
 refine di (i:=7) rfl<|c1 o rfl call50 (Nx (Ah _) C6 (St.srH u (D6.mono (cp L3.sub E2.sub))) Q6) ⟨rfl,trivial⟩ (λv w a hR o=>?_)
 obtain ⟨W4,F4,j6,rfl,X4,hk⟩:=hR
 replace u:=u.fresh hk
 replace X4:=X4 u3
 refine ⟨λ_=>(St.ldsX u i2 (Aa t1 (Aa t2 (Aa t4 (Aa t5 (Aa t6 Ai)))))),?_⟩
 refine da1 (i:=8) (by kernel_rfl) ?_
 obtain ⟨H85,l3,E6,F6,u⟩:=St.frzS u .head X4
 refine di (i:=8) rfl<|Bj (e:=44) (sz:=1) [SL W4 P4 F4] o rfl u rfl rfl rfl (λw=>by kernel_rfl) λv6 w a u o=>?_
 have G6:Rows (α:=(List api_Cell)) H85 [SL W4 P4 F4] ([P4]:List (List api_Cell)):=(.cons (c:=[SL W4 P4 F4]) ⟨_,_,rfl,F6,E6⟩ .nil)
 refine ⟨λ_=>(St.ldsX u l3.sub (Aa t1 (Aa t2 (Aa t4 (Aa t5 (Aa t6 Ai)))))),?_⟩
 refine da1 (i:=9) (by kernel_rfl) ?_
 refine di (i:=9) rfl<|Bv (α:=(List api_Cell)) (xs:=X3) (ys:=([P4]:List (List api_Cell))) o rfl u underlying43 JbO rfl (by decide) rfl rfl rfl t3 (D5.mono l3.sub) (u.rdO t0) G6 S6 λI6 I5 J6 w a K6 hU o=>?_
 replace u:=hU _ (.tail (.tail (.tail .head)))
 replace u:=u.drop .head
 refine ⟨λ_=>(St.ldsX u l3.sub (Aa t0 (Aa t1 (Aa t3 (Aa t4 (Aa t5 Ai)))))),?_⟩
 refine ds 10 (St.ldsX u l3.sub (Aa t0 (Aa t1 (Aa t3 (Aa t4 (Aa t5 Ai)))))) o rfl (Ae o Dl rfl) λo=>da1 (i:=11) (by kernel_rfl) ?_
 refine di (i:=11) rfl<|Bz o u sizeOf43 rfl rfl rfl rfl (.tail (.tail (.tail (.tail (.tail .head))))) .zero λw u=>⟨λh=>absurd rfl h,?_⟩
 refine de (by kernel_rfl)<|bn<|tn<|rg<|qm o rfl λo=>qv o (An o rfl rfl) λo=>qa o rfl λo=>re<|tn<|?_
 exact ⟨(O4,R6,(IntKind.i64.wrap (Y3+1))),⟨H85,I6,I5,J6,hm,(Ext.trans L3 l3),o.hs,u,K6⟩,Nat.lt_succ_self _⟩
 refine tn<|cfv o rfl V4<|we<|tx<|tx<|bx<|tn<|?_
 exact ⟨X3,u3,D4,K3,E4,hm,L3,o.hs,u,D5⟩
 rintro a w ⟨X0,T2,D1,Y0,C3,hm,u0,o,u,J5⟩
 unfold Z1p at hm
 refine th<|th<|rg<|qa o rfl λo=>re<|tn<|Av (λa w=>∃ (u1:(List api_Claim)) (G4:PH) (D3:Option Addr) (B2:Nat) (I4:List Value),(Z1q T0 U0 Q0 R0 X0) u1=some r∧Ext w0 T2 G4∧Fr 72 [(2,PT V1),(3,PT P1)] a∧St w0 Nil [G4] [bk V1 [.slice none 0 0,.slice none 0 0,.slice none 0 0,.slice none 0 0,.slice none 0 0,.slice none 0 0] 48,sla 44 1 D1 X0.length Y0 C3,sla 130 3 j0 T0.length O0 P2,sla 130 3 P0 U0.length I0 R1,sla 99 2 D3 u1.length B2 I4,bk P1 [SL D1 X0 Y0,SL j0 T0 O0,SL P0 U0 I0,SL B1 Q0 V0,SL C1 R0 W0,SL D3 u1 B2] 48] w∧Rows G4 I4 u1) ?_ ?_
 replace u:=u.nilS 99 2
 replace u:=u.pk [1,1,1,1,1,0,0] rfl
 refine wb<|lp (α:=Nat×(List api_Claim)×Int) (λgh a w=>match gh with | (Q4,U2,V2)=>∃ (A4:PH) (M3:Option Addr) (E3:Nat) (O3:List Value),(Z1s N (Z1q T0 U0 Q0 R0 X0) p1) Q4 U2 V2=some r∧Ext w0 T2 A4∧Fr 72 [(1,PT K2),(2,PT V1),(3,PT P1),(5,i6 V2)] a∧St w0 Nil [A4] [bk K2 [SL K4 p1.Lines P3,SL L4 p1.Vols Q3,SL R3 p1.Locks X2,SL S3 p1.Threads Y2,SL T3 p1.Recover u2,SL U3 p1.Claims A3] 48,bk V1 [.slice none 0 0,.slice none 0 0,.slice none 0 0,.slice none 0 0,.slice none 0 0,.slice none 0 0] 48,sla 44 1 D1 X0.length Y0 C3,sla 130 3 j0 T0.length O0 P2,sla 130 3 P0 U0.length I0 R1,sla 99 2 M3 U2.length E3 O3,bk P1 [SL D1 X0 Y0,SL j0 T0 O0,SL P0 U0 I0,SL B1 Q0 V0,SL C1 R0 W0,SL M3 U2 E3] 48] w∧Rows A4 O3 U2) (λgh=>gh.1) (N,[],0) ⟨T2,none,0,[],hm,(Ext.refl _ _),o.hs,u,.nil⟩ ?_
 rintro ⟨Q4,U2,V2⟩ a w ⟨A4,M3,E3,O3,hm,F3,o,u,l4⟩
 obtain _ | Q4:=Q4
 simp [Z1s] at hm
 rw [Z1s] at hm
 refine th<|th<|rg<|qm o rfl λo=>qv o (Ae o Ef rfl) λo=>qv o (Af o isAgg46 rfl (u.ld.cellB t0 rfl)) λo=>qv o (Aj (α:=api_Claim) (xs:=p1.Claims) o runUnderlying46 rfl) λo=>qv o (Ak o rfl rfl) λo=>qm o rfl λo=>gr (Fk:=[(1,PT K2),(2,PT V1),(3,PT P1),(5,i6 V2),(49,.bool ((decide (V2 < (p1.Claims.length:Int))) && (decide (V2 < 6))))]) 46 3 o u ?_ ?_ ?_
 intro hb o key
 exact qg o (Ab o rfl) λo=>qg o (Ak o rfl rfl) λo=>qk o (Ac o rfl rfl) key u hb
 intro hb o key
 iterate 2 refine qn o λo=>?_
 exact qk o (Ad o rfl rfl) key u hb
 intro a w o u
 refine re<|?_
 rcases bit hm with ⟨Y4,hm⟩ | ⟨Y4,hm⟩
 refine tn<|ctv o rfl Y4<|wk<|tn<|th<|wb<|?_
 obtain ⟨n3,R4,hm⟩:=bs hm
 obtain ⟨y6,T6,u4⟩:=SR.get U4 R4
 obtain ⟨W6,U6,rfl,K5,L5⟩:=Eh T6
 obtain ⟨W2,L6,hm⟩:=bs hm
 obtain ⟨M6,O6,hm⟩:=bs hm
 refine rdL (Aa t0 (Aa t1 (Aa t2 (Aa t3 (Aa t4 (Aa t6 Ai)))))) 19 u wide λw u=>ds 0 (St.ldsX u i2 (Aa t0 (Aa t1 (Aa t2 (Aa t3 (Aa t4 (Aa t6 Ai))))))) o rfl (Ae o Ef rfl) λo=>dq 1 (St.ldsX u i2 (Aa t0 (Aa t1 (Aa t2 (Aa t3 (Aa t4 (Aa t6 Ai))))))) o rfl (λw hl=>Af o isAgg46 rfl (hl.cellB t5 rfl)) λo=>ds 2 (St.ldsX u i2 (Aa t0 (Aa t1 (Aa t2 (Aa t3 (Aa t4 (Aa t6 Ai))))))) o rfl (Ae o Ef rfl) λo=>dq 3 (St.ldsX u i2 (Aa t0 (Aa t1 (Aa t2 (Aa t3 (Aa t4 (Aa t6 Ai))))))) o rfl (λw hl=>Af o isAgg46 rfl (hl.cellB t0 rfl)) λo=>ds 4 (St.ldsX u i2 (Aa t0 (Aa t1 (Aa t2 (Aa t3 (Aa t4 (Aa t6 Ai))))))) o rfl (Ab o rfl) λo=>ds 5 (St.ldsX u i2 (Aa t0 (Aa t1 (Aa t2 (Aa t3 (Aa t4 (Aa t6 Ai))))))) o rfl (Al o runUnderlying46 sizeOf99 rfl rfl R4 (SR.oaI U4 (by decide) R4)) λo=>ds 6 (St.ldsX u i2 (Aa t0 (Aa t1 (Aa t2 (Aa t3 (Aa t4 (Aa t6 Ai))))))) o rfl (Ae o Ow rfl) λo=>dq 7 (St.ldsX u i2 (Aa t0 (Aa t1 (Aa t2 (Aa t3 (Aa t4 (Aa t6 Ai))))))) o rfl (λw hl=>Af o isAgg96 rfl (PH.le.cell (λb o hx=>(Lds.le hl) b o ((cp (cp F3.sub u0.sub) E2.sub) b o hx)) (u4 0 _ rfl))) λo=>ds 9 (St.ldsX u i2 (Aa t0 (Aa t1 (Aa t2 (Aa t3 (Aa t4 (Aa t6 Ai))))))) o rfl (Ae o Ef rfl) λo=>dq 10 (St.ldsX u i2 (Aa t0 (Aa t1 (Aa t2 (Aa t3 (Aa t4 (Aa t6 Ai))))))) o rfl (λw hl=>Af o isAgg46 rfl (hl.cellB t0 rfl)) λo=>ds 11 (St.ldsX u i2 (Aa t0 (Aa t1 (Aa t2 (Aa t3 (Aa t4 (Aa t6 Ai))))))) o rfl (Ab o rfl) λo=>ds 12 (St.ldsX u i2 (Aa t0 (Aa t1 (Aa t2 (Aa t3 (Aa t4 (Aa t6 Ai))))))) o rfl (Al o runUnderlying46 sizeOf99 rfl rfl R4 (SR.oaI U4 (by decide) R4)) λo=>ds 13 (St.ldsX u i2 (Aa t0 (Aa t1 (Aa t2 (Aa t3 (Aa t4 (Aa t6 Ai))))))) o rfl (Ae o Sg rfl) λo=>dq 14 (St.ldsX u i2 (Aa t0 (Aa t1 (Aa t2 (Aa t3 (Aa t4 (Aa t6 Ai))))))) o rfl (λw hl=>Af o isAgg3 rfl (PH.le.cell (λb o hx=>(Lds.le hl) b o ((cp (cp F3.sub u0.sub) E2.sub) b o hx)) (u4 1 _ rfl))) λo=>da1 (i:=8) (by kernel_rfl) ?_
 refine di (i:=8) rfl<|c1 o rfl call52 (Xz (Ah _) K5 (St.srH u (L5.mono (cp (cp F3.sub u0.sub) E2.sub))) L6) ⟨rfl,trivial⟩ (λv w a hR o=>?_)
 obtain ⟨G3,C2,X6,rfl,J4,hk⟩:=hR
 replace u:=u.fresh hk
 replace J4:=J4 A4
 refine ⟨λ_=>(St.ldsX u i2 (Aa t1 (Aa t2 (Aa t3 (Aa t4 (Aa t5 (Aa t7 Ai))))))),?_⟩
 refine dq 15 (St.ldsX u i2 (Aa t1 (Aa t2 (Aa t3 (Aa t4 (Aa t5 (Aa t7 Ai))))))) o rfl (λw hl=>Bt [SL G3 W2 C2,i6 n3.At] [SL G3 W2 C2,i6 n3.At] o ⟨rfl,rfl,trivial⟩ (λw=>by kernel_rfl)) λo=>da1 (i:=16) (by kernel_rfl) ?_
 obtain ⟨H115,I3,M5,O5,u⟩:=St.frzS u .head J4
 refine di (i:=16) rfl<|Bj (e:=99) (sz:=2) [SL G3 W2 C2,i6 n3.At] o rfl u rfl rfl rfl (λw=>by kernel_rfl) λk6 w a u o=>?_
 have P5:Rows (α:=api_Claim) H115 [SL G3 W2 C2,i6 n3.At] ([(api_Claim.mk W2 n3.At)]:List api_Claim):=(.cons (c:=[SL G3 W2 C2,i6 n3.At]) ⟨_,_,rfl,⟨_,_,rfl,O5,M5⟩,rfl⟩ .nil)
 refine ⟨λ_=>(St.ldsX u I3.sub (Aa t1 (Aa t2 (Aa t3 (Aa t4 (Aa t5 (Aa t7 Ai))))))),?_⟩
 refine da1 (i:=17) (by kernel_rfl) ?_
 refine di (i:=17) rfl<|Bv (α:=api_Claim) (xs:=U2) (ys:=([(api_Claim.mk W2 n3.At)]:List api_Claim)) o rfl u underlying46 JbM rfl (by decide) rfl rfl rfl t6 (l4.mono I3.sub) (u.rdO t0) P5 O6 λQ5 F5 R5 w a S5 hU o=>?_
 replace u:=hU _ (.tail (.tail (.tail (.tail (.tail (.tail .head))))))
 replace u:=u.drop .head
 refine ⟨λ_=>(St.ldsX u I3.sub (Aa t0 (Aa t1 (Aa t2 (Aa t3 (Aa t4 (Aa t6 Ai))))))),?_⟩
 refine ds 18 (St.ldsX u I3.sub (Aa t0 (Aa t1 (Aa t2 (Aa t3 (Aa t4 (Aa t6 Ai))))))) o rfl (Ae o Ef rfl) λo=>da1 (i:=19) (by kernel_rfl) ?_
 refine di (i:=19) rfl<|Bz o u sizeOf46 rfl rfl rfl rfl (.tail (.tail (.tail (.tail (.tail (.tail .head)))))) (.succ (.succ (.succ (.succ (.succ .zero))))) λw u=>⟨λh=>absurd rfl h,?_⟩
 refine de (by kernel_rfl)<|bn<|tn<|rg<|qm o rfl λo=>qv o (An o rfl rfl) λo=>qa o rfl λo=>re<|tn<|?_
 exact ⟨(Q4,M6,(IntKind.i64.wrap (V2+1))),⟨H115,Q5,F5,R5,hm,(Ext.trans F3 I3),o.hs,u,S5⟩,Nat.lt_succ_self _⟩
 refine tn<|cfv o rfl Y4<|we<|tx<|tx<|bx<|tn<|?_
 replace u:=u.pk [1,1,1,1,1,1] rfl
 exact ⟨U2,A4,M3,E3,O3,hm,F3,o.has ⟨rfl,rfl,trivial⟩,u,l4⟩
 rintro a w ⟨u1,G4,D3,B2,I4,hm,Q1,o,u,T5⟩
 unfold Z1q at hm
 refine th<|rg<|qv o (Ar o Tryz.isAgg48 Tryz.sizeOf48 rfl rfl (u.ld.cellsB t5)) λo=>ls<|Bb o u sizeOf48 rfl rfl rfl rfl (Ao rfl) .head λw u=>re<|tn<|wr<|?_
 obtain ⟨H128,F2,U5,V5,u⟩:=St.frzS u (.tail .head) (J5.mono Q1.sub)
 obtain ⟨H132,G2,W5,X5,u⟩:=St.frzS u (.tail .head) (A6.mono (cp (cp F2.sub Q1.sub) u0.sub))
 obtain ⟨H136,I2,Y5,d5,u⟩:=St.frzS u (.tail .head) (G5.mono (cp (cp (cp G2.sub F2.sub) Q1.sub) u0.sub))
 obtain ⟨H140,J2,j5,l5,u⟩:=St.frzS u (.tail .head) (T5.mono (cp (cp I2.sub G2.sub) F2.sub))
 obtain rfl:=si hm
 exact r1c (vs:=[SL D1 X0 Y0,SL j0 T0 O0,SL P0 U0 I0,SL B1 Q0 V0,SL C1 R0 W0,SL D3 u1 B2]) (.inl rfl) o results19 rfl isAgg48 sizeOf48 rfl (u.ld.cellsB t0) ⟨H140,_,rfl,(show Enc.rep (α:=api_Prog) H140 [SL D1 X0 Y0,SL j0 T0 O0,SL P0 U0 I0,SL B1 Q0 V0,SL C1 R0 W0,SL D3 u1 B2] (api_Prog.mk X0 T0 U0 Q0 R0 u1) from ⟨_,_,rfl,⟨_,_,rfl,V5,(U5.mono (cp (cp J2.sub I2.sub) G2.sub))⟩,⟨_,_,rfl,⟨_,_,rfl,X5,(W5.mono (cp J2.sub I2.sub))⟩,⟨_,_,rfl,⟨_,_,rfl,d5,(Y5.mono J2.sub)⟩,⟨_,_,rfl,⟨_,_,rfl,hcA18,(hrA19.mono (cp (cp (cp (cp (cp J2.sub I2.sub) G2.sub) F2.sub) Q1.sub) u0.sub))⟩,⟨_,_,rfl,⟨_,_,rfl,hcA23,(hrA24.mono (cp (cp (cp (cp (cp J2.sub I2.sub) G2.sub) F2.sub) Q1.sub) u0.sub))⟩,⟨_,_,rfl,l5,j5⟩⟩⟩⟩⟩⟩),(Ext.trans E2 (Ext.trans u0 (Ext.trans Q1 (Ext.trans F2 (Ext.trans G2 (Ext.trans I2 J2)))))),(St.le u),u.keep⟩
theorem Ty (hH:H.le w0) {p1:Int} {r:Bool} (hm:Z2e N p1=some r):Tot Tryz.prog 140 #[.int .u8 p1] w0 (λv w'=>v=.bool r∧Keep Nil w0 w'):=by
 unfold Z2e at hm
 refine fn0 func140 rfl ntmps140 rfl rfl λa o=>?_
 have u:St w0 Nil [H] [] w0:=start1 hH
 refine th<|rg<|qa o rfl λo=>re<|tn<|th<|rg<|qm o rfl λo=>qv o (Bo o rfl rfl) λo=>qm o rfl λo=>gr (Fk:=[(0,.int .u8 p1),(8,.bool ((decide (97≤p1)) && (decide (p1≤122))))]) 5 3 o u ?_ ?_ ?_
 intro hb o key
 exact qg o (Ab o rfl) λo=>qg o (Dt o rfl rfl) λo=>qk o (Ac o rfl rfl) key u hb
 intro hb o key
 iterate 2 refine qn o λo=>?_
 exact qk o (Ad o rfl rfl) key u hb
 intro a w o u
 refine qm o rfl λo=>gr (Fk:=[(12,.bool (((decide (97≤p1)) && (decide (p1≤122))) || (decide (p1=95))))]) 9 3 o u ?_ ?_ ?_
 intro hb o key
 iterate 2 refine qn o λo=>?_
 exact qk o (Ac o rfl rfl) key u hb
 intro hb o key
 exact qg o (Ab o rfl) λo=>qg o (Aq o rfl rfl) λo=>qk o (Ad o rfl rfl) key u hb
 intro a w o u
 refine qa o rfl λo=>re<|tn<|wr<|?_
 obtain rfl:=si hm
 exact r1 o results140 rfl ⟨rfl,u.keep⟩
theorem JcW (hH:H.le w0) {p1:Str} {r:Bool} (hm:Z25 N p1=some r):Tot Tryz.prog 141 #[Ag p1] w0 (λv w'=>v=.bool r∧Keep Nil w0 w'):=by
 unfold Z25 at hm
 refine fn0 func141 rfl ntmps141 rfl rfl λa o=>?_
 have u:St w0 Nil [H] [] w0:=start1 hH
 refine th<|rg<|qa o rfl λo=>re<|tn<|th<|rg<|ls<|Bj (e:=9) (sz:=1) [Ag [108,105,110,101],Ag [118,111,108],Ag [108,111,99,107],Ag [116,104,114,101,97,100],Ag [114,101,103],Ag [108,111,97,100],Ag [115,116,111,114,101],Ag [99,97,115],Ag [102,108,117,115,104],Ag [111,112,116],Ag [115,102,101,110,99,101],Ag [109,102,101,110,99,101],Ag [116,97,107,101],Ag [103,105,118,101],Ag [105,102],Ag [101,108,115,101],Ag [108,111,111,112],Ag [98,114,101,97,107],Ag [99,104,101,99,107],Ag [114,101,99,111,118,101,114],Ag [97,108,119,97,121,115]] o rfl u rfl rfl rfl (λw=>by kernel_rfl) λb3 w a u o=>?_
 have F0:Rows (α:=Str) H [Ag [108,105,110,101],Ag [118,111,108],Ag [108,111,99,107],Ag [116,104,114,101,97,100],Ag [114,101,103],Ag [108,111,97,100],Ag [115,116,111,114,101],Ag [99,97,115],Ag [102,108,117,115,104],Ag [111,112,116],Ag [115,102,101,110,99,101],Ag [109,102,101,110,99,101],Ag [116,97,107,101],Ag [103,105,118,101],Ag [105,102],Ag [101,108,115,101],Ag [108,111,111,112],Ag [98,114,101,97,107],Ag [99,104,101,99,107],Ag [114,101,99,111,118,101,114],Ag [97,108,119,97,121,115]] ([[108,105,110,101],[118,111,108],[108,111,99,107],[116,104,114,101,97,100],[114,101,103],[108,111,97,100],[115,116,111,114,101],[99,97,115],[102,108,117,115,104],[111,112,116],[115,102,101,110,99,101],[109,102,101,110,99,101],[116,97,107,101],[103,105,118,101],[105,102],[101,108,115,101],[108,111,111,112],[98,114,101,97,107],[99,104,101,99,107],[114,101,99,111,118,101,114],[97,108,119,97,121,115]]:List Str):=(.cons (c:=[Ag [108,105,110,101]]) rfl (.cons (c:=[Ag [118,111,108]]) rfl (.cons (c:=[Ag [108,111,99,107]]) rfl (.cons (c:=[Ag [116,104,114,101,97,100]]) rfl (.cons (c:=[Ag [114,101,103]]) rfl (.cons (c:=[Ag [108,111,97,100]]) rfl (.cons (c:=[Ag [115,116,111,114,101]]) rfl (.cons (c:=[Ag [99,97,115]]) rfl (.cons (c:=[Ag [102,108,117,115,104]]) rfl (.cons (c:=[Ag [111,112,116]]) rfl (.cons (c:=[Ag [115,102,101,110,99,101]]) rfl (.cons (c:=[Ag [109,102,101,110,99,101]]) rfl (.cons (c:=[Ag [116,97,107,101]]) rfl (.cons (c:=[Ag [103,105,118,101]]) rfl (.cons (c:=[Ag [105,102]]) rfl (.cons (c:=[Ag [101,108,115,101]]) rfl (.cons (c:=[Ag [108,111,111,112]]) rfl (.cons (c:=[Ag [98,114,101,97,107]]) rfl (.cons (c:=[Ag [99,104,101,99,107]]) rfl (.cons (c:=[Ag [114,101,99,111,118,101,114]]) rfl (.cons (c:=[Ag [97,108,119,97,121,115]]) rfl .nil)))))))))))))))))))))
 refine qa o rfl λo=>re<|tn<|th<|th<|rg<|qa o rfl λo=>re<|tn<|Av (λa w=>Z26=some r∧Fr 18 [] a∧St w0 Nil [H] [] w) ?_ ?_
 refine wb<|lp (α:=Nat×Int) (λgh a w=>match gh with | (A0,D0)=>(Z27 N Z26 p1) A0 D0=some r∧Fr 18 [(0,Ag p1),(3,.slice (some ⟨b3,0,none⟩) ([[108,105,110,101],[118,111,108],[108,111,99,107],[116,104,114,101,97,100],[114,101,103],[108,111,97,100],[115,116,111,114,101],[99,97,115],[102,108,117,115,104],[111,112,116],[115,102,101,110,99,101],[109,102,101,110,99,101],[116,97,107,101],[103,105,118,101],[105,102],[101,108,115,101],[108,111,111,112],[98,114,101,97,107],[99,104,101,99,107],[114,101,99,111,118,101,114],[97,108,119,97,121,115]]:List Str).length 21),(4,i6 D0)] a∧St w0 Nil [H] [sla 9 1 (some ⟨b3,0,none⟩) ([[108,105,110,101],[118,111,108],[108,111,99,107],[116,104,114,101,97,100],[114,101,103],[108,111,97,100],[115,116,111,114,101],[99,97,115],[102,108,117,115,104],[111,112,116],[115,102,101,110,99,101],[109,102,101,110,99,101],[116,97,107,101],[103,105,118,101],[105,102],[101,108,115,101],[108,111,111,112],[98,114,101,97,107],[99,104,101,99,107],[114,101,99,111,118,101,114],[97,108,119,97,121,115]]:List Str).length 21 [Ag [108,105,110,101],Ag [118,111,108],Ag [108,111,99,107],Ag [116,104,114,101,97,100],Ag [114,101,103],Ag [108,111,97,100],Ag [115,116,111,114,101],Ag [99,97,115],Ag [102,108,117,115,104],Ag [111,112,116],Ag [115,102,101,110,99,101],Ag [109,102,101,110,99,101],Ag [116,97,107,101],Ag [103,105,118,101],Ag [105,102],Ag [101,108,115,101],Ag [108,111,111,112],Ag [98,114,101,97,107],Ag [99,104,101,99,107],Ag [114,101,99,111,118,101,114],Ag [97,108,119,97,121,115]]] w) (λgh=>gh.1) (N,0) ⟨hm,o.hs,u⟩ ?_
 rintro ⟨A0,D0⟩ a w ⟨hm,o,u⟩
 obtain _ | A0:=A0
 simp [Z27] at hm
 rw [Z27] at hm
 refine th<|th<|rg<|qm o rfl λo=>qm o rfl λo=>qv o (Aj (α:=Str) (xs:=([[108,105,110,101],[118,111,108],[108,111,99,107],[116,104,114,101,97,100],[114,101,103],[108,111,97,100],[115,116,111,114,101],[99,97,115],[102,108,117,115,104],[111,112,116],[115,102,101,110,99,101],[109,102,101,110,99,101],[116,97,107,101],[103,105,118,101],[105,102],[101,108,115,101],[108,111,111,112],[98,114,101,97,107],[99,104,101,99,107],[114,101,99,111,118,101,114],[97,108,119,97,121,115]]:List Str)) o runUnderlying92 rfl) λo=>qv o (Ak o rfl rfl) λo=>re<|?_
 rcases bip hm with ⟨E0,hm⟩ | ⟨E0,hm⟩
 refine tn<|ctv o rfl E0<|wk<|tn<|th<|wb<|th<|?_
 obtain ⟨G0,h7,hm⟩:=bs hm
 have J0:=Rd.oaI (u.rdO t0) F0 (by decide) h7
 obtain ⟨cz9,K0,I0⟩:=Rows.getI F0 h7
 obtain rfl:cz9=[Ag G0]:=K0
 refine rg<|qm o rfl λo=>qm o rfl λo=>qv o (Al o runUnderlying92 sizeOf9 rfl rfl h7 J0) λo=>qv o (Af o isAgg9 rfl (u.ld.elO t0 (I0 0 _ rfl))) λo=>qm o rfl λo=>qv o (Je (m:=G0) (n:=p1) o rfl rfl) λo=>re<|?_
 rcases bip hm with ⟨C0,hm⟩ | ⟨C0,hm⟩
 refine tn<|ctv o rfl C0<|th<|rg<|qa o rfl λo=>re<|tn<|wr<|br<|tr<|tr<|br<|tr<|?_
 obtain rfl:=si hm
 exact r1 o results141 rfl ⟨rfl,u.keep⟩
 refine tn<|cfv o rfl C0<|wk<|bn<|tn<|rg<|qm o rfl λo=>qv o (An o rfl rfl) λo=>qa o rfl λo=>re<|tn<|?_
 exact ⟨(A0,(IntKind.i64.wrap (D0+1))),⟨hm,o.hs,u⟩,Nat.lt_succ_self _⟩
 refine tn<|cfv o rfl E0<|we<|tx<|tx<|bx<|tn<|?_
 replace u:=u.pickL .nil
 exact ⟨hm,o.has trivial,u⟩
 rintro a w ⟨hm,o,u⟩
 unfold Z26 at hm
 refine th<|rg<|qa o rfl λo=>re<|tn<|wr<|?_
 obtain rfl:=si hm
 exact r1 o results141 rfl ⟨rfl,u.keep⟩
theorem JcY (hH:H.le w0) {p1:Int} {r:Bool} (hm:Z2d N p1=some r):Tot Tryz.prog 142 #[.int .u8 p1] w0 (λv w'=>v=.bool r∧Keep Nil w0 w'):=by
 unfold Z2d at hm
 refine fn0 func142 rfl ntmps142 rfl rfl λa o=>?_
 have u:St w0 Nil [H] [] w0:=start1 hH
 refine th<|rg<|qa o rfl λo=>re<|tn<|th<|rg<|qm o rfl λo=>qv o (Bo o rfl rfl) λo=>qm o rfl λo=>gr (Fk:=[(8,.bool ((decide (48≤p1)) && (decide (p1≤57))))]) 5 3 o u ?_ ?_ ?_
 intro hb o key
 exact qg o (Ab o rfl) λo=>qg o (Dt o rfl rfl) λo=>qk o (Ac o rfl rfl) key u hb
 intro hb o key
 iterate 2 refine qn o λo=>?_
 exact qk o (Ad o rfl rfl) key u hb
 intro a w o u
 refine qa o rfl λo=>re<|tn<|wr<|?_
 obtain rfl:=si hm
 exact r1 o results142 rfl ⟨rfl,u.keep⟩
theorem Ja (hH:H.le w0) {p1:Str} {r:Bool} (hm:Z28 N p1=some r):Tot Tryz.prog 126 #[Ag p1] w0 (λv w'=>v=.bool r∧Keep Nil w0 w'):=by
 unfold Z28 at hm
 refine fn0 func126 rfl ntmps126 rfl rfl λa o=>?_
 have u:St w0 Nil [H] [] w0:=start1 hH
 refine th<|rg<|qa o rfl λo=>re<|tn<|th<|th<|Av (λa w=>∃ (J0:Bool),(Z29 N p1) J0=some r∧Fr 40 [(0,Ag p1),(21,.bool J0)] a∧St w0 Nil [H] [] w) ?_ ?_
 rcases bit hm with ⟨I0,hm⟩ | ⟨I0,hm⟩
 refine rg<|qm o rfl λo=>qv o (Cu (s:=p1) o runUnderlying9 rfl) λo=>qv o (Ak o rfl rfl) λo=>qm o rfl λo=>gr (Fk:=[(0,Ag p1),(11,.bool ((decide ((p1.length:Int) < 1)) || (decide (16 < (p1.length:Int)))))]) 7 4 o u ?_ ?_ ?_
 intro hb o key
 iterate 3 refine qn o λo=>?_
 exact qk o (Ac o rfl rfl) key u hb
 intro hb o key
 exact qg o (Ab o rfl) λo=>qg o (Cu (s:=p1) o runUnderlying9 rfl) λo=>qg o (Ba o rfl rfl) λo=>qk o (Ad o rfl rfl) key u hb
 intro a w o u
 refine qv o (Ax (Ab o rfl) (congrArg Value.bool I0)) λo=>?_
 iterate 4 refine qn o λo=>?_
 refine qv o (Ac o rfl rfl) λo=>qm o rfl λo=>?_
 iterate 2 refine qn o λo=>?_
 refine qv o (Ac o rfl rfl) λo=>re<|tn<|?_
 exact ⟨true,hm,o.has ⟨rfl,rfl,trivial⟩,u⟩
 obtain ⟨W0,h4,hm⟩:=bs hm
 obtain ⟨O0,h6,hm⟩:=bs hm
 rcases bit hm with ⟨K0,hm⟩ | ⟨K0,hm⟩
 have K0':(!O0)=false:=by rw [K0];rfl
 obtain ⟨S0,h9,hm⟩:=bs hm
 refine rg<|qm o rfl λo=>qv o (Cu (s:=p1) o runUnderlying9 rfl) λo=>qv o (Ak o rfl rfl) λo=>qm o rfl λo=>gr (Fk:=[(0,Ag p1),(11,.bool ((decide ((p1.length:Int) < 1)) || (decide (16 < (p1.length:Int)))))]) 7 4 o u ?_ ?_ ?_
 intro hb o key
 iterate 3 refine qn o λo=>?_
 exact qk o (Ac o rfl rfl) key u hb
 intro hb o key
 exact qg o (Ab o rfl) λo=>qg o (Cu (s:=p1) o runUnderlying9 rfl) λo=>qg o (Ba o rfl rfl) λo=>qk o (Ad o rfl rfl) key u hb
 intro a w o u
 refine qv o (Ax (Ab o rfl) (congrArg Value.bool I0)) λo=>qg o (Ab o rfl) λo=>qg o (Jk (s:=p1) o runUnderlying9 rfl rfl h4) λo=>ls<|gy o rfl rfl<|cr o call140 (Ty (Ah _) h6) u λu o=>qg o (A9 o rfl) λo=>qv o (Ad o rfl rfl) λo=>qv o (Ax (Ab o rfl) (congrArg Value.bool K0')) λo=>qg o (Ab o rfl) λo=>ls<|gy o rfl rfl<|cr o call141 (JcW (Ah _) h9) u λu o=>qv o (Ad o rfl rfl) λo=>re<|tn<|?_
 exact ⟨S0,hm,o.has ⟨rfl,rfl,trivial⟩,u⟩
 have K0':(!O0)=true:=by rw [K0];rfl
 refine rg<|qm o rfl λo=>qv o (Cu (s:=p1) o runUnderlying9 rfl) λo=>qv o (Ak o rfl rfl) λo=>qm o rfl λo=>gr (Fk:=[(0,Ag p1),(11,.bool ((decide ((p1.length:Int) < 1)) || (decide (16 < (p1.length:Int)))))]) 7 4 o u ?_ ?_ ?_
 intro hb o key
 iterate 3 refine qn o λo=>?_
 exact qk o (Ac o rfl rfl) key u hb
 intro hb o key
 exact qg o (Ab o rfl) λo=>qg o (Cu (s:=p1) o runUnderlying9 rfl) λo=>qg o (Ba o rfl rfl) λo=>qk o (Ad o rfl rfl) key u hb
 intro a w o u
 refine qv o (Ax (Ab o rfl) (congrArg Value.bool I0)) λo=>qg o (Ab o rfl) λo=>qg o (Jk (s:=p1) o runUnderlying9 rfl rfl h4) λo=>ls<|gy o rfl rfl<|cr o call140 (Ty (Ah _) h6) u λu o=>qg o (A9 o rfl) λo=>qv o (Ad o rfl rfl) λo=>qv o (Ax (Ab o rfl) (congrArg Value.bool K0')) λo=>?_
 iterate 2 refine qn o λo=>?_
 refine qv o (Ac o rfl rfl) λo=>re<|tn<|?_
 exact ⟨true,hm,o.has ⟨rfl,rfl,trivial⟩,u⟩
 rintro a w ⟨J0,hm,o,u⟩
 unfold Z29 at hm
 rcases bit hm with ⟨D0,hm⟩ | ⟨D0,hm⟩
 refine ctv o rfl D0<|th<|rg<|qa o rfl λo=>re<|tn<|wr<|tr<|?_
 obtain rfl:=si hm
 exact r1 o results126 rfl ⟨rfl,u.keep⟩
 refine cfv o rfl D0<|wk<|tn<|th<|th<|rg<|qa o rfl λo=>re<|tn<|Av (λa w=>Z2a=some r∧Fr 40 [] a∧St w0 Nil [H] [] w) ?_ ?_
 refine wb<|lp (α:=Nat×Int) (λgh a w=>match gh with | (A0,C0)=>(Z2c N Z2a p1) A0 C0=some r∧Fr 40 [(0,Ag p1),(3,i6 C0)] a∧St w0 Nil [H] [] w) (λgh=>gh.1) (N,0) ⟨hm,o.has ⟨rfl,rfl,trivial⟩,u⟩ ?_
 rintro ⟨A0,C0⟩ a w ⟨hm,o,u⟩
 obtain _ | A0:=A0
 simp [Z2c] at hm
 rw [Z2c] at hm
 refine th<|th<|rg<|qm o rfl λo=>qm o rfl λo=>qv o (Cu (s:=p1) o runUnderlying9 rfl) λo=>qv o (Ak o rfl rfl) λo=>re<|?_
 rcases bip hm with ⟨E0,hm⟩ | ⟨E0,hm⟩
 refine tn<|ctv o rfl E0<|wk<|tn<|th<|wb<|th<|Av (λa w=>∃ (M0:Bool),(Z2b (Z2c N Z2a p1 A0) C0) M0=some r∧Fr 40 [(0,Ag p1),(3,i6 C0),(39,.bool M0)] a∧St w0 Nil [H] [] w) ?_ ?_
 obtain ⟨X0,P0,hm⟩:=bs hm
 obtain ⟨Q0,R0,hm⟩:=bs hm
 rcases bit hm with ⟨F0,hm⟩ | ⟨F0,hm⟩
 have F0':(!Q0)=false:=by rw [F0];rfl
 refine rg<|qm o rfl λo=>qm o rfl λo=>qv o (Jk (s:=p1) o runUnderlying9 rfl rfl P0) λo=>ls<|cr o call140 (Ty (Ah _) R0) u λu o=>qv o (A9 o rfl) λo=>qv o (Ax (Ab o rfl) (congrArg Value.bool F0')) λo=>?_
 iterate 5 refine qn o λo=>?_
 refine qv o (Ad o rfl rfl) λo=>re<|tn<|?_
 exact ⟨false,hm,o.hs,u⟩
 have F0':(!Q0)=true:=by rw [F0];rfl
 obtain ⟨Y0,T0,hm⟩:=bs hm
 obtain ⟨U0,V0,hm⟩:=bs hm
 refine rg<|qm o rfl λo=>qm o rfl λo=>qv o (Jk (s:=p1) o runUnderlying9 rfl rfl P0) λo=>ls<|cr o call140 (Ty (Ah _) R0) u λu o=>qv o (A9 o rfl) λo=>qv o (Ax (Ab o rfl) (congrArg Value.bool F0')) λo=>?_
 iterate 2 refine qg o (Ab o rfl) λo=>?_
 refine qg o (Jk (s:=p1) o runUnderlying9 rfl rfl T0) λo=>ls<|gy o rfl rfl<|cr o call142 (JcY (Ah _) V0) u λu o=>qg o (A9 o rfl) λo=>qv o (Ac o rfl rfl) λo=>re<|tn<|?_
 exact ⟨(!U0),hm,o.hs,u⟩
 rintro a w ⟨M0,hm,o,u⟩
 unfold Z2b at hm
 rcases bit hm with ⟨G0,hm⟩ | ⟨G0,hm⟩
 refine ctv o rfl G0<|th<|rg<|qa o rfl λo=>re<|tn<|wr<|br<|tr<|tr<|br<|tr<|?_
 obtain rfl:=si hm
 exact r1 o results126 rfl ⟨rfl,u.keep⟩
 refine cfv o rfl G0<|wk<|bn<|tn<|rg<|qm o rfl λo=>qv o (An o rfl rfl) λo=>qa o rfl λo=>re<|tn<|?_
 exact ⟨(A0,(IntKind.i64.wrap (C0+1))),⟨hm,o.has ⟨rfl,rfl,trivial⟩,u⟩,Nat.lt_succ_self _⟩
 refine tn<|cfv o rfl E0<|we<|tx<|tx<|bx<|tn<|?_
 exact ⟨hm,o.has trivial,u⟩
 rintro a w ⟨hm,o,u⟩
 unfold Z2a at hm
 refine th<|rg<|qa o rfl λo=>re<|tn<|wr<|?_
 obtain rfl:=si hm
 exact r1 o results126 rfl ⟨rfl,u.keep⟩
theorem Qb (hH:H.le w0) {p1:Int} {r:Bool} (hm:Z3i N p1=some r):Tot Tryz.prog 121 #[i6 p1] w0 (λv w'=>v=.bool r∧Keep Nil w0 w'):=by
 unfold Z3i at hm
 refine fn0 func121 rfl ntmps121 rfl rfl λa o=>?_
 have u:St w0 Nil [H] [] w0:=start1 hH
 refine th<|rg<|qa o rfl λo=>re<|tn<|th<|rg<|qm o rfl λo=>qv o (Bo o rfl rfl) λo=>qm o rfl λo=>gr (Fk:=[(8,.bool ((decide (0≤p1)) && (decide (p1≤4000))))]) 5 3 o u ?_ ?_ ?_
 intro hb o key
 exact qg o (Ab o rfl) λo=>qg o (Dt o rfl rfl) λo=>qk o (Ac o rfl rfl) key u hb
 intro hb o key
 iterate 2 refine qn o λo=>?_
 exact qk o (Ad o rfl rfl) key u hb
 intro a w o u
 refine qa o rfl λo=>re<|tn<|wr<|?_
 obtain rfl:=si hm
 exact r1 o results121 rfl ⟨rfl,u.keep⟩
theorem Lf (hH:H.le w0) {E0:Option Addr} {A0:Nat} {p1:(List api_Cell)} (U0:p1.length≤A0) (F0:SR H E0 p1) {p6:Int} {r:Bool} (hm:Z3e N p1 p6=some r):Tot Tryz.prog 120 #[SL E0 p1 A0,i6 p6] w0 (λv w'=>v=.bool r∧Keep Nil w0 w'):=by
 unfold Z3e at hm
 refine fn0 func120 rfl ntmps120 rfl rfl λa o=>?_
 have u:St w0 Nil [H] [] w0:=start1 hH
 refine th<|rg<|qa o rfl λo=>re<|tn<|th<|th<|rg<|qa o rfl λo=>re<|tn<|Av (λa w=>Z3f=some r∧Fr 45 [] a∧St w0 Nil [H] [] w) ?_ ?_
 refine wb<|lp (α:=Nat×Int) (λgh a w=>match gh with | (G0,C0)=>(Z3h N Z3f p1 p6) G0 C0=some r∧Fr 45 [(0,SL E0 p1 A0),(1,i6 p6),(5,i6 C0)] a∧St w0 Nil [H] [] w) (λgh=>gh.1) (N,0) ⟨hm,o.hs,u⟩ ?_
 rintro ⟨G0,C0⟩ a w ⟨hm,o,u⟩
 obtain _ | G0:=G0
 simp [Z3h] at hm
 rw [Z3h] at hm
 refine th<|th<|rg<|qm o rfl λo=>qm o rfl λo=>qv o (Aj (α:=api_Cell) (xs:=p1) o runUnderlying44 rfl) λo=>qv o (Ak o rfl rfl) λo=>re<|?_
 rcases bip hm with ⟨O0,hm⟩ | ⟨O0,hm⟩
 refine tn<|ctv o rfl O0<|wk<|tn<|th<|wb<|th<|Av (λa w=>∃ (P0:Bool),(Z3g (Z3h N Z3f p1 p6 G0) C0) P0=some r∧Fr 45 [(0,SL E0 p1 A0),(1,i6 p6),(5,i6 C0),(44,.bool P0)] a∧St w0 Nil [H] [] w) ?_ ?_
 obtain ⟨I0,h9,hm⟩:=bs hm
 obtain ⟨V0,R0,D0⟩:=SR.get F0 h9
 obtain rfl:=Dx R0
 obtain ⟨M0,Q0,hm⟩:=bs hm
 rcases bit hm with ⟨J0,hm⟩ | ⟨J0,hm⟩
 refine rg<|qm o rfl λo=>qm o rfl λo=>qv o (Al o runUnderlying44 sizeOf130 rfl rfl h9 (SR.oaI F0 (by decide) h9)) λo=>qv o (Ae o Hl rfl) λo=>qv o (Af o isAgg9 rfl (PH.le.cell (Lds.le u.ld) (D0 0 _ rfl))) λo=>ls<|cr o call126 (Ja (Ah _) Q0) u λu o=>qv o (A9 o rfl) λo=>qm o rfl λo=>gr (Fk:=[(0,SL E0 p1 A0),(1,i6 p6),(5,i6 C0),(26,.bool ((!M0) || (decide (I0.N < 0))))]) 19 7 o u ?_ ?_ ?_
 intro hb o key
 iterate 6 refine qn o λo=>?_
 exact qk o (Ac o rfl rfl) key u hb
 intro hb o key
 iterate 2 refine qg o (Ab o rfl) λo=>?_
 exact qg o (Al o runUnderlying44 sizeOf130 rfl rfl h9 (SR.oaI F0 (by decide) h9)) λo=>qg o (Ae o Kf rfl) λo=>qg o (Af o isAgg3 rfl (PH.le.cell (Lds.le u.ld) (D0 1 _ rfl))) λo=>qg o (Ak o rfl rfl) λo=>qk o (Ad o rfl rfl) key u hb
 intro a w o u
 refine qm o rfl λo=>gr (Fk:=[(0,SL E0 p1 A0),(1,i6 p6),(5,i6 C0),(35,.bool (((!M0) || (decide (I0.N < 0))) || (decide (p6 < I0.N))))]) 27 8 o u ?_ ?_ ?_
 intro hb o key
 iterate 7 refine qn o λo=>?_
 exact qk o (Ac o rfl rfl) key u hb
 intro hb o key
 iterate 2 refine qg o (Ab o rfl) λo=>?_
 exact qg o (Al o runUnderlying44 sizeOf130 rfl rfl h9 (SR.oaI F0 (by decide) h9)) λo=>qg o (Ae o Kf rfl) λo=>qg o (Af o isAgg3 rfl (PH.le.cell (Lds.le u.ld) (D0 1 _ rfl))) λo=>qg o (Ab o rfl) λo=>qg o (Ba o rfl rfl) λo=>qk o (Ad o rfl rfl) key u hb
 intro a w o u
 refine qv o (Ax (Ab o rfl) (congrArg Value.bool J0)) λo=>?_
 iterate 7 refine qn o λo=>?_
 refine qv o (Ac o rfl rfl) λo=>re<|tn<|?_
 exact ⟨true,hm,o.hs,u⟩
 obtain ⟨S0,T0,hm⟩:=bs hm
 refine rg<|qm o rfl λo=>qm o rfl λo=>qv o (Al o runUnderlying44 sizeOf130 rfl rfl h9 (SR.oaI F0 (by decide) h9)) λo=>qv o (Ae o Hl rfl) λo=>qv o (Af o isAgg9 rfl (PH.le.cell (Lds.le u.ld) (D0 0 _ rfl))) λo=>ls<|cr o call126 (Ja (Ah _) Q0) u λu o=>qv o (A9 o rfl) λo=>qm o rfl λo=>gr (Fk:=[(0,SL E0 p1 A0),(1,i6 p6),(5,i6 C0),(26,.bool ((!M0) || (decide (I0.N < 0))))]) 19 7 o u ?_ ?_ ?_
 intro hb o key
 iterate 6 refine qn o λo=>?_
 exact qk o (Ac o rfl rfl) key u hb
 intro hb o key
 iterate 2 refine qg o (Ab o rfl) λo=>?_
 exact qg o (Al o runUnderlying44 sizeOf130 rfl rfl h9 (SR.oaI F0 (by decide) h9)) λo=>qg o (Ae o Kf rfl) λo=>qg o (Af o isAgg3 rfl (PH.le.cell (Lds.le u.ld) (D0 1 _ rfl))) λo=>qg o (Ak o rfl rfl) λo=>qk o (Ad o rfl rfl) key u hb
 intro a w o u
 refine qm o rfl λo=>gr (Fk:=[(0,SL E0 p1 A0),(1,i6 p6),(5,i6 C0),(35,.bool (((!M0) || (decide (I0.N < 0))) || (decide (p6 < I0.N))))]) 27 8 o u ?_ ?_ ?_
 intro hb o key
 iterate 7 refine qn o λo=>?_
 exact qk o (Ac o rfl rfl) key u hb
 intro hb o key
 iterate 2 refine qg o (Ab o rfl) λo=>?_
 exact qg o (Al o runUnderlying44 sizeOf130 rfl rfl h9 (SR.oaI F0 (by decide) h9)) λo=>qg o (Ae o Kf rfl) λo=>qg o (Af o isAgg3 rfl (PH.le.cell (Lds.le u.ld) (D0 1 _ rfl))) λo=>qg o (Ab o rfl) λo=>qg o (Ba o rfl rfl) λo=>qk o (Ad o rfl rfl) key u hb
 intro a w o u
 refine qv o (Ax (Ab o rfl) (congrArg Value.bool J0)) λo=>?_
 iterate 2 refine qg o (Ab o rfl) λo=>?_
 refine qg o (Al o runUnderlying44 sizeOf130 rfl rfl h9 (SR.oaI F0 (by decide) h9)) λo=>qg o (Ae o Ts rfl) λo=>qg o (Af o isAgg3 rfl (PH.le.cell (Lds.le u.ld) (D0 2 _ rfl))) λo=>ls<|gy o rfl rfl<|cr o call121 (Qb (Ah _) T0) u λu o=>qg o (A9 o rfl) λo=>qv o (Ad o rfl rfl) λo=>re<|tn<|?_
 exact ⟨(!S0),hm,o.hs,u⟩
 rintro a w ⟨P0,hm,o,u⟩
 unfold Z3g at hm
 rcases bit hm with ⟨K0,hm⟩ | ⟨K0,hm⟩
 refine ctv o rfl K0<|th<|rg<|qa o rfl λo=>re<|tn<|wr<|br<|tr<|tr<|br<|tr<|?_
 obtain rfl:=si hm
 exact r1 o results120 rfl ⟨rfl,u.keep⟩
 refine cfv o rfl K0<|wk<|bn<|tn<|rg<|qm o rfl λo=>qv o (An o rfl rfl) λo=>qa o rfl λo=>re<|tn<|?_
 exact ⟨(G0,(IntKind.i64.wrap (C0+1))),⟨hm,o.hs,u⟩,Nat.lt_succ_self _⟩
 refine tn<|cfv o rfl O0<|we<|tx<|tx<|bx<|tn<|?_
 exact ⟨hm,o.has trivial,u⟩
 rintro a w ⟨hm,o,u⟩
 unfold Z3f at hm
 refine th<|rg<|qa o rfl λo=>re<|tn<|wr<|?_
 obtain rfl:=si hm
 exact r1 o results120 rfl ⟨rfl,u.keep⟩
theorem Uk (hH:H.le w0) {p1:Int} {r:Int} (hm:Z2j N p1=some r):Tot Tryz.prog 128 #[i6 p1] w0 (λv w'=>v=i6 r∧Keep Nil w0 w'):=by
 unfold Z2j at hm
 refine fn0 func128 rfl ntmps128 rfl rfl λa o=>?_
 have u:St w0 Nil [H] [] w0:=start1 hH
 refine th<|rg<|qa o rfl λo=>re<|tn<|th<|th<|rg<|qm o rfl λo=>qv o (Aq o rfl rfl) λo=>qm o rfl λo=>gr (Fk:=[(0,i6 p1),(8,.bool ((decide (p1=1)) || (decide (p1=2))))]) 5 3 o u ?_ ?_ ?_
 intro hb o key
 iterate 2 refine qn o λo=>?_
 exact qk o (Ac o rfl rfl) key u hb
 intro hb o key
 exact qg o (Ab o rfl) λo=>qg o (Aq o rfl rfl) λo=>qk o (Ad o rfl rfl) key u hb
 intro a w o u
 refine re<|?_
 rcases bit hm with ⟨A0,hm⟩ | ⟨A0,hm⟩
 refine tn<|ctv o rfl A0<|th<|rg<|qa o rfl λo=>re<|tn<|wr<|tr<|?_
 obtain rfl:=si hm
 exact r1 o results128 rfl ⟨rfl,u.keep⟩
 refine tn<|cfv o rfl A0<|wk<|tn<|th<|th<|rg<|qm o rfl λo=>qv o (Aq o rfl rfl) λo=>qm o rfl λo=>gr (Fk:=[(0,i6 p1),(14,.bool ((decide (p1=3)) || (decide (p1=4))))]) 11 3 o u ?_ ?_ ?_
 intro hb o key
 iterate 2 refine qn o λo=>?_
 exact qk o (Ac o rfl rfl) key u hb
 intro hb o key
 exact qg o (Ab o rfl) λo=>qg o (Aq o rfl rfl) λo=>qk o (Ad o rfl rfl) key u hb
 intro a w o u
 refine re<|?_
 rcases bit hm with ⟨C0,hm⟩ | ⟨C0,hm⟩
 refine tn<|ctv o rfl C0<|th<|rg<|qa o rfl λo=>re<|tn<|wr<|tr<|?_
 obtain rfl:=si hm
 exact r1 o results128 rfl ⟨rfl,u.keep⟩
 refine tn<|cfv o rfl C0<|wk<|tn<|th<|th<|rg<|qm o rfl λo=>qv o (Bo o rfl rfl) λo=>qm o rfl λo=>gr (Fk:=[(20,.bool ((decide (5≤p1)) && (decide (p1≤15))))]) 17 3 o u ?_ ?_ ?_
 intro hb o key
 exact qg o (Ab o rfl) λo=>qg o (Dt o rfl rfl) λo=>qk o (Ac o rfl rfl) key u hb
 intro hb o key
 iterate 2 refine qn o λo=>?_
 exact qk o (Ad o rfl rfl) key u hb
 intro a w o u
 refine re<|?_
 rcases bit hm with ⟨D0,hm⟩ | ⟨D0,hm⟩
 refine tn<|ctv o rfl D0<|th<|rg<|qa o rfl λo=>re<|tn<|wr<|tr<|?_
 obtain rfl:=si hm
 exact r1 o results128 rfl ⟨rfl,u.keep⟩
 refine tn<|cfv o rfl D0<|wk<|tn<|th<|rg<|qa o rfl λo=>re<|tn<|wr<|?_
 obtain rfl:=si hm
 exact r1 o results128 rfl ⟨rfl,u.keep⟩
theorem Ye:∀ (N:Nat) {w0:World} {H:PH} (hH:H.le w0) {C0:Option Addr} {A0:Nat} {p1:(List api_Node)} (Q0:p1.length≤A0) (D0:SR H C0 p1) {p6:Int} {r:Int} (hm:Z2f N p1 p6=some r),Tot Tryz.prog 125 #[SL C0 p1 A0,i6 p6] w0 (λv w'=>v=i6 r∧Keep Nil w0 w'):=by
 intro N
 induction N with
  | zero=>intros;rename_i hm;simp [Z2f] at hm
  | succ N ih=>
 intro w0 H hH C0 A0 p1 Q0 D0 p6 r hm
 rw [Z2f] at hm
 refine fn0 func125 rfl ntmps125 rfl rfl λa o=>?_
 have u:St w0 Nil [H] [] w0:=start1 hH
 refine th<|rg<|qa o rfl λo=>re<|tn<|th<|th<|Av (λa w=>∃ (K0:Bool),(Z2g (Z2f N) N p1 p6) K0=some r∧Fr 44 [(0,SL C0 p1 A0),(1,i6 p6),(23,.bool K0)] a∧St w0 Nil [H] [] w) ?_ ?_
 rcases bit hm with ⟨M0,hm⟩ | ⟨M0,hm⟩
 refine rg<|qm o rfl λo=>qv o (Ak o rfl rfl) λo=>qm o rfl λo=>gr (Fk:=[(0,SL C0 p1 A0),(1,i6 p6),(14,.bool ((decide (p6 < 0)) || (decide ((p1.length:Int)≤p6))))]) 9 5 o u ?_ ?_ ?_
 intro hb o key
 iterate 4 refine qn o λo=>?_
 exact qk o (Ac o rfl rfl) key u hb
 intro hb o key
 iterate 2 refine qg o (Ab o rfl) λo=>?_
 exact qg o (Aj (α:=api_Node) (xs:=p1) o runUnderlying96 rfl) λo=>qg o (Bo o rfl rfl) λo=>qk o (Ad o rfl rfl) key u hb
 intro a w o u
 refine qv o (Ax (Ab o rfl) (congrArg Value.bool M0)) λo=>?_
 iterate 7 refine qn o λo=>?_
 refine qv o (Ac o rfl rfl) λo=>re<|tn<|?_
 exact ⟨true,hm,o.hs,u⟩
 obtain ⟨u0,h9,hm⟩:=bs hm
 obtain ⟨B1,T0,R0⟩:=SR.get D0 h9
 obtain rfl:=Bw T0
 obtain ⟨U0,V0,hm⟩:=bs hm
 refine rg<|qm o rfl λo=>qv o (Ak o rfl rfl) λo=>qm o rfl λo=>gr (Fk:=[(0,SL C0 p1 A0),(1,i6 p6),(14,.bool ((decide (p6 < 0)) || (decide ((p1.length:Int)≤p6))))]) 9 5 o u ?_ ?_ ?_
 intro hb o key
 iterate 4 refine qn o λo=>?_
 exact qk o (Ac o rfl rfl) key u hb
 intro hb o key
 iterate 2 refine qg o (Ab o rfl) λo=>?_
 exact qg o (Aj (α:=api_Node) (xs:=p1) o runUnderlying96 rfl) λo=>qg o (Bo o rfl rfl) λo=>qk o (Ad o rfl rfl) key u hb
 intro a w o u
 refine qv o (Ax (Ab o rfl) (congrArg Value.bool M0)) λo=>?_
 iterate 2 refine qg o (Ab o rfl) λo=>?_
 refine qg o (Al o runUnderlying96 sizeOf133 rfl rfl h9 (SR.oaI D0 (by decide) h9)) λo=>qg o (Ae o Co rfl) λo=>qg o (Af o isAgg3 rfl (PH.le.cell (Lds.le u.ld) (R0 0 _ rfl))) λo=>ls<|gy o rfl rfl<|cr o call128 (Uk (Ah _) V0) u λu o=>qg o (Ak o rfl rfl) λo=>qv o (Ad o rfl rfl) λo=>re<|tn<|?_
 exact ⟨(decide (U0 < 0)),hm,o.hs,u⟩
 rintro a w ⟨K0,hm,o,u⟩
 unfold Z2g at hm
 rcases bit hm with ⟨I0,hm⟩ | ⟨I0,hm⟩
 refine ctv o rfl I0<|th<|rg<|qa o rfl λo=>re<|tn<|wr<|tr<|?_
 obtain rfl:=si hm
 exact r1 o results125 rfl ⟨rfl,u.keep⟩
 refine cfv o rfl I0<|wk<|tn<|th<|rg<|qm o rfl λo=>qv o (An o rfl rfl) λo=>qa o rfl λo=>re<|tn<|th<|th<|rg<|qa o rfl λo=>re<|tn<|Av (λa w=>∃ (O0:Int),Z2h O0=some r∧Fr 44 [(5,i6 O0)] a∧St w0 Nil [H] [] w) ?_ ?_
 refine wb<|lp (α:=Nat×Int×Int) (λgh a w=>match gh with | (G0,E0,F0)=>(Z2i (Z2f N) N Z2h p1 p6) G0 E0 F0=some r∧Fr 44 [(0,SL C0 p1 A0),(1,i6 p6),(5,i6 E0),(6,i6 F0)] a∧St w0 Nil [H] [] w) (λgh=>gh.1) (N,(IntKind.i64.wrap (p6+1)),0) ⟨hm,o.hs,u⟩ ?_
 rintro ⟨G0,E0,F0⟩ a w ⟨hm,o,u⟩
 obtain _ | G0:=G0
 simp [Z2i] at hm
 rw [Z2i] at hm
 refine th<|th<|?_
 obtain ⟨C1,P0,hm⟩:=bs hm
 obtain ⟨D1,W0,S0⟩:=SR.get D0 P0
 obtain rfl:=Bw W0
 obtain ⟨X0,Y0,hm⟩:=bs hm
 refine rg<|qm o rfl λo=>?_
 iterate 2 refine qm o rfl λo=>?_
 refine qv o (Al o runUnderlying96 sizeOf133 rfl rfl P0 (SR.oaI D0 (by decide) P0)) λo=>qv o (Ae o Co rfl) λo=>qv o (Af o isAgg3 rfl (PH.le.cell (Lds.le u.ld) (S0 0 _ rfl))) λo=>ls<|cr o call128 (Uk (Ah _) Y0) u λu o=>qv o (Ak o rfl rfl) λo=>qm o rfl λo=>gr (Fk:=[(0,SL C0 p1 A0),(1,i6 p6),(5,i6 E0),(6,i6 F0),(37,.bool ((decide (F0 < X0)) && (decide (0≤E0))))]) 34 3 o u ?_ ?_ ?_
 intro hb o key
 exact qg o (Ab o rfl) λo=>qg o (Bo o rfl rfl) λo=>qk o (Ac o rfl rfl) key u hb
 intro hb o key
 iterate 2 refine qn o λo=>?_
 exact qk o (Ad o rfl rfl) key u hb
 intro a w o u
 refine re<|?_
 rcases bit hm with ⟨J0,hm⟩ | ⟨J0,hm⟩
 refine tn<|ctv o rfl J0<|wk<|tn<|th<|wb<|?_
 obtain ⟨j0,n0,hm⟩:=bs hm
 refine rg<|qm o rfl λo=>qm o rfl λo=>ls<|cr o call125 (ih (Ah _) Q0 (St.srH u D0) n0) u λu o=>qa o rfl λo=>re<|bn<|tn<|rg<|qm o rfl λo=>qv o (An o rfl rfl) λo=>qa o rfl λo=>re<|tn<|?_
 exact ⟨(G0,j0,(IntKind.i64.wrap (F0+1))),⟨hm,o.hs,u⟩,Nat.lt_succ_self _⟩
 refine tn<|cfv o rfl J0<|we<|tx<|tx<|bx<|tn<|?_
 exact ⟨E0,hm,o.has ⟨rfl,trivial⟩,u⟩
 rintro a w ⟨O0,hm,o,u⟩
 unfold Z2h at hm
 refine th<|rg<|qm o rfl λo=>qa o rfl λo=>re<|tn<|wr<|?_
 obtain rfl:=si hm
 exact r1 o results125 rfl ⟨rfl,u.keep⟩
theorem JcS:∀ (N:Nat) {w0:World} {H:PH} (hH:H.le w0) {G0:Option Addr} {A0:Nat} {p1:(List api_Node)} (J0:p1.length≤A0) (C0:SR H G0 p1) {p6:Int} {r:Int} (hm:Z2p N p1 p6=some r),Tot Tryz.prog 127 #[SL G0 p1 A0,i6 p6] w0 (λv w'=>v=i6 r∧Keep Nil w0 w'):=by
 intro N
 induction N with
  | zero=>intros;rename_i hm;simp [Z2p] at hm
  | succ N ih=>
 intro w0 H hH G0 A0 p1 J0 C0 p6 r hm
 rw [Z2p] at hm
 refine fn0 func127 rfl ntmps127 rfl rfl λa o=>?_
 have u:St w0 Nil [H] [] w0:=start1 hH
 refine th<|rg<|qa o rfl λo=>re<|tn<|th<|rg<|qm o rfl λo=>qv o (An o rfl rfl) λo=>?_
 iterate 2 refine qa o rfl λo=>?_
 refine re<|tn<|th<|th<|rg<|qa o rfl λo=>re<|tn<|Av (λa w=>∃ (K0:Int),Z2q K0=some r∧Fr 30 [(5,i6 K0)] a∧St w0 Nil [H] [] w) ?_ ?_
 refine wb<|lp (α:=Nat×Int×Int×Int) (λgh a w=>match gh with | (D0,E0,M0,I0)=>(Z2r (Z2p N) N Z2q p1 p6) D0 E0 M0 I0=some r∧Fr 30 [(0,SL G0 p1 A0),(1,i6 p6),(5,i6 E0),(6,i6 M0),(7,i6 I0)] a∧St w0 Nil [H] [] w) (λgh=>gh.1) (N,0,(IntKind.i64.wrap (p6+1)),0) ⟨hm,o.hs,u⟩ ?_
 rintro ⟨D0,E0,M0,I0⟩ a w ⟨hm,o,u⟩
 obtain _ | D0:=D0
 simp [Z2r] at hm
 rw [Z2r] at hm
 refine th<|th<|?_
 obtain ⟨V0,h8,hm⟩:=bs hm
 obtain ⟨cz9,P0,O0⟩:=SR.get C0 h8
 obtain rfl:=Bw P0
 obtain ⟨W0,Q0,hm⟩:=bs hm
 refine rg<|qm o rfl λo=>?_
 iterate 2 refine qm o rfl λo=>?_
 refine qv o (Al o runUnderlying96 sizeOf133 rfl rfl h8 (SR.oaI C0 (by decide) h8)) λo=>qv o (Ae o Co rfl) λo=>qv o (Af o isAgg3 rfl (PH.le.cell (Lds.le u.ld) (O0 0 _ rfl))) λo=>ls<|cr o call128 (Uk (Ah _) Q0) u λu o=>qv o (Ak o rfl rfl) λo=>re<|?_
 rcases bip hm with ⟨F0,hm⟩ | ⟨F0,hm⟩
 refine tn<|ctv o rfl F0<|wk<|tn<|th<|wb<|th<|?_
 obtain ⟨R0,S0,hm⟩:=bs hm
 refine rg<|qm o rfl λo=>?_
 iterate 2 refine qm o rfl λo=>?_
 refine ls<|cr o call127 (ih (Ah _) J0 (St.srH u C0) S0) u λu o=>qv o (Pu o rfl rfl) λo=>qa o rfl λo=>re<|tn<|?_
 obtain ⟨T0,U0,hm⟩:=bs hm
 refine rg<|qm o rfl λo=>qm o rfl λo=>ls<|cr o call125 (Ye _ (Ah _) J0 (St.srH u C0) U0) u λu o=>qa o rfl λo=>re<|bn<|tn<|rg<|qm o rfl λo=>qv o (An o rfl rfl) λo=>qa o rfl λo=>re<|tn<|?_
 exact ⟨(D0,(max E0 R0),T0,(IntKind.i64.wrap (I0+1))),⟨hm,o.hs,u⟩,Nat.lt_succ_self _⟩
 refine tn<|cfv o rfl F0<|we<|tx<|tx<|bx<|tn<|?_
 exact ⟨E0,hm,o.has ⟨rfl,trivial⟩,u⟩
 rintro a w ⟨K0,hm,o,u⟩
 unfold Z2q at hm
 refine th<|rg<|qm o rfl λo=>qv o (An o rfl rfl) λo=>qa o rfl λo=>re<|tn<|wr<|?_
 obtain rfl:=si hm
 exact r1 o results127 rfl ⟨rfl,u.keep⟩
set_option maxHeartbeats 4000000 in
theorem Qq (hH:H.le w0) {D0:Option Addr} {C0:Nat} {p1:(List api_Node)} (U0:p1.length≤C0) (O0:SR H D0 p1) {r:Bool} (hm:Z2k N p1=some r):Tot Tryz.prog 97 #[SL D0 p1 C0] w0 (λv w'=>v=.bool r∧Keep Nil w0 w'):=by
 unfold Z2k at hm
 refine fn0 func97 rfl ntmps97 rfl rfl λa o=>?_
 have u:St w0 Nil [H] [] w0:=start1 hH
 refine th<|rg<|qa o rfl λo=>re<|tn<|th<|th<|Av (λa w=>∃ (P0:Bool),(Z2l N p1) P0=some r∧Fr 77 [(0,SL D0 p1 C0),(14,.bool P0)] a∧St w0 Nil [H] [] w) ?_ ?_
 rcases bip hm with ⟨Q0,hm⟩ | ⟨Q0,hm⟩
 refine rg<|qm o rfl λo=>qv o (Aj (α:=api_Node) (xs:=p1) o runUnderlying96 rfl) λo=>qv o (Ba o rfl rfl) λo=>qv o (Ax (Ab o rfl) (congrArg Value.bool Q0)) λo=>?_
 iterate 5 refine qn o λo=>?_
 refine qv o (Ac o rfl rfl) λo=>re<|tn<|?_
 exact ⟨true,hm,o.has ⟨rfl,rfl,trivial⟩,u⟩
 obtain ⟨W0,h8,hm⟩:=bs hm
 refine rg<|qm o rfl λo=>qv o (Aj (α:=api_Node) (xs:=p1) o runUnderlying96 rfl) λo=>qv o (Ba o rfl rfl) λo=>qv o (Ax (Ab o rfl) (congrArg Value.bool Q0)) λo=>qg o (Ab o rfl) λo=>ls<|gy o rfl rfl<|cr o call125 (Ye _ (Ah _) U0 (St.srH u O0) h8) u λu o=>qg o (Ab o rfl) λo=>qg o (Aj (α:=api_Node) (xs:=p1) o runUnderlying96 rfl) λo=>qg o (Bh o rfl rfl) λo=>qv o (Ad o rfl rfl) λo=>re<|tn<|?_
 exact ⟨(decide (W0≠(p1.length:Int))),hm,o.has ⟨rfl,rfl,trivial⟩,u⟩
 rintro a w ⟨P0,hm,o,u⟩
 unfold Z2l at hm
 rcases bit hm with ⟨R0,hm⟩ | ⟨R0,hm⟩
 refine ctv o rfl R0<|th<|rg<|qa o rfl λo=>re<|tn<|wr<|tr<|?_
 obtain rfl:=si hm
 exact r1 o results97 rfl ⟨rfl,u.keep⟩
 refine cfv o rfl R0<|wk<|tn<|th<|th<|rg<|qa o rfl λo=>re<|tn<|Av (λa w=>(Z2m N p1)=some r∧Fr 77 [(0,SL D0 p1 C0)] a∧St w0 Nil [H] [] w) ?_ ?_
 refine wb<|lp (α:=Nat×Int) (λgh a w=>match gh with | (G0,E0)=>(Z2o N (Z2m N p1) p1) G0 E0=some r∧Fr 77 [(0,SL D0 p1 C0),(3,i6 E0)] a∧St w0 Nil [H] [] w) (λgh=>gh.1) (N,0) ⟨hm,o.has ⟨rfl,rfl,trivial⟩,u⟩ ?_
 rintro ⟨G0,E0⟩ a w ⟨hm,o,u⟩
 obtain _ | G0:=G0
 simp [Z2o] at hm
 rw [Z2o] at hm
 refine th<|th<|rg<|qm o rfl λo=>qm o rfl λo=>qv o (Aj (α:=api_Node) (xs:=p1) o runUnderlying96 rfl) λo=>qv o (Ak o rfl rfl) λo=>re<|?_
 rcases bip hm with ⟨J0,hm⟩ | ⟨J0,hm⟩
 refine tn<|ctv o rfl J0<|wk<|tn<|th<|wb<|th<|?_
 obtain ⟨A0,S0,hm⟩:=bs hm
 obtain ⟨u0,X0,V0⟩:=SR.get O0 S0
 obtain rfl:=Bw X0
 refine rg<|qm o rfl λo=>qm o rfl λo=>qv o (Al o runUnderlying96 sizeOf133 rfl rfl S0 (SR.oaI O0 (by decide) S0)) λo=>qv o (Ar o isAgg133 sizeOf133 rfl rfl (λj v hj=>PH.le.cell (Lds.le u.ld) (V0 j v hj))) λo=>ls<|As (cs:=[i6 0,i6 0,Ag [],i6 0].toArray) o rfl u zeroValue133 rfl λF0 w a u o=>ls<|Bb o u sizeOf133 rfl rfl rfl rfl (Ao rfl) .head λw u=>re<|tn<|th<|Av (λa w=>∃ (T0:Bool),(Z2n (Z2o N (Z2m N p1) p1 G0) E0) T0=some r∧Fr 77 [(0,SL D0 p1 C0),(3,i6 E0),(73,.bool T0)] a∧St w0 Nil [H] [] w) ?_ ?_
 rcases bit hm with ⟨I0,hm⟩ | ⟨I0,hm⟩
 refine rg<|qv o (Ae o Ht rfl) λo=>qv o (Af o isAgg3 rfl (u.ld.cellB t0 rfl)) λo=>qv o (Ak o rfl rfl) λo=>qm o rfl λo=>gr (Fk:=[(0,SL D0 p1 C0),(3,i6 E0),(4,PT F0),(32,.bool ((decide (A0.At < 0)) || (decide (4000 < A0.At))))]) 28 4 o u ?_ ?_ ?_
 intro hb o key
 iterate 3 refine qn o λo=>?_
 exact qk o (Ac o rfl rfl) key u hb
 intro hb o key
 exact qg o (Ae o Ht rfl) λo=>qg o (Af o isAgg3 rfl (u.ld.cellB t0 rfl)) λo=>qg o (Ba o rfl rfl) λo=>qk o (Ad o rfl rfl) key u hb
 intro a w o u
 refine qm o rfl λo=>gr (Fk:=[(0,SL D0 p1 C0),(3,i6 E0),(4,PT F0),(42,.bool (((decide (A0.At < 0)) || (decide (4000 < A0.At))) || ((decide (A0.Op≠1)) && (decide (A0.N≠0)))))]) 33 9 o u ?_ ?_ ?_
 intro hb o key
 iterate 4 refine qn o λo=>?_
 iterate 3 refine ls<|gnu o rfl rfl rfl λa o=>?_
 exact qn o λo=>qk o (Ac o rfl rfl) key u hb
 intro hb o key
 refine qg o (Ae o Co rfl) λo=>qg o (Af o isAgg3 rfl (u.ld.cellB t0 rfl)) λo=>qg o (Bh o rfl rfl) λo=>qg o (Ab o rfl) λo=>gr (Fk:=[(0,SL D0 p1 C0),(3,i6 E0),(4,PT F0),(33,.bool false),(41,.bool ((decide (A0.Op≠1)) && (decide (A0.N≠0))))]) 37 4 o u ?_ ?_ ?_
 intro hb o key
 exact qg o (Ae o Et rfl) λo=>qg o (Af o isAgg3 rfl (u.ld.cellB t0 rfl)) λo=>qg o (Bh o rfl rfl) λo=>ql o (Ac o rfl rfl) key u hb
 intro hb o key
 iterate 3 refine qn o λo=>?_
 exact ql o (Ad o rfl rfl) key u hb
 intro a w o u
 exact qk o (Ad o rfl rfl) key u hb
 intro a w o u
 refine qm o rfl λo=>gr (Fk:=[(0,SL D0 p1 C0),(3,i6 E0),(4,PT F0),(52,.bool ((((decide (A0.At < 0)) || (decide (4000 < A0.At))) || ((decide (A0.Op≠1)) && (decide (A0.N≠0)))) || ((decide (A0.Op≠2)) && (decide (A0.Name≠[])))))]) 43 9 o u ?_ ?_ ?_
 intro hb o key
 iterate 4 refine qn o λo=>?_
 iterate 3 refine ls<|gnu o rfl rfl rfl λa o=>?_
 exact qn o λo=>qk o (Ac o rfl rfl) key u hb
 intro hb o key
 refine qg o (Ae o Co rfl) λo=>qg o (Af o isAgg3 rfl (u.ld.cellB t0 rfl)) λo=>qg o (Bh o rfl rfl) λo=>qg o (Ab o rfl) λo=>gr (Fk:=[(0,SL D0 p1 C0),(3,i6 E0),(4,PT F0),(43,.bool false),(51,.bool ((decide (A0.Op≠2)) && (decide (A0.Name≠[]))))]) 47 4 o u ?_ ?_ ?_
 intro hb o key
 exact qg o (Ae o Eu rfl) λo=>qg o (Af o isAgg9 rfl (u.ld.cellB t0 rfl)) λo=>qg o (E9 (m:=A0.Name) (n:=[]) o rfl rfl) λo=>ql o (Ac o rfl rfl) key u hb
 intro hb o key
 iterate 3 refine qn o λo=>?_
 exact ql o (Ad o rfl rfl) key u hb
 intro a w o u
 exact qk o (Ad o rfl rfl) key u hb
 intro a w o u
 refine qm o rfl λo=>gr (Fk:=[(0,SL D0 p1 C0),(3,i6 E0),(4,PT F0),(57,.bool (((((decide (A0.At < 0)) || (decide (4000 < A0.At))) || ((decide (A0.Op≠1)) && (decide (A0.N≠0)))) || ((decide (A0.Op≠2)) && (decide (A0.Name≠[])))) || (decide (A0.N < 0))))]) 53 4 o u ?_ ?_ ?_
 intro hb o key
 iterate 3 refine qn o λo=>?_
 exact qk o (Ac o rfl rfl) key u hb
 intro hb o key
 exact qg o (Ae o Et rfl) λo=>qg o (Af o isAgg3 rfl (u.ld.cellB t0 rfl)) λo=>qg o (Ak o rfl rfl) λo=>qk o (Ad o rfl rfl) key u hb
 intro a w o u
 refine qm o rfl λo=>gr (Fk:=[(0,SL D0 p1 C0),(3,i6 E0),(4,PT F0),(62,.bool ((((((decide (A0.At < 0)) || (decide (4000 < A0.At))) || ((decide (A0.Op≠1)) && (decide (A0.N≠0)))) || ((decide (A0.Op≠2)) && (decide (A0.Name≠[])))) || (decide (A0.N < 0))) || (decide (4294967296 < A0.N))))]) 58 4 o u ?_ ?_ ?_
 intro hb o key
 iterate 3 refine qn o λo=>?_
 exact qk o (Ac o rfl rfl) key u hb
 intro hb o key
 exact qg o (Ae o Et rfl) λo=>qg o (Af o isAgg3 rfl (u.ld.cellB t0 rfl)) λo=>qg o (Ba o rfl rfl) λo=>qk o (Ad o rfl rfl) key u hb
 intro a w o u
 refine qv o (Ax (Ab o rfl) (congrArg Value.bool I0)) λo=>?_
 iterate 4 refine qn o λo=>?_
 iterate 4 refine ls<|gnu o rfl rfl rfl λa o=>?_
 refine qn o λo=>qv o (Ac o rfl rfl) λo=>re<|tn<|?_
 replace u:=u.pickL .nil
 exact ⟨true,hm,o.hs,u⟩
 rcases bip hm with ⟨K0,hm⟩ | ⟨K0,hm⟩
 obtain ⟨Y0,j0,hm⟩:=bs hm
 refine rg<|qv o (Ae o Ht rfl) λo=>qv o (Af o isAgg3 rfl (u.ld.cellB t0 rfl)) λo=>qv o (Ak o rfl rfl) λo=>qm o rfl λo=>gr (Fk:=[(0,SL D0 p1 C0),(3,i6 E0),(4,PT F0),(32,.bool ((decide (A0.At < 0)) || (decide (4000 < A0.At))))]) 28 4 o u ?_ ?_ ?_
 intro hb o key
 iterate 3 refine qn o λo=>?_
 exact qk o (Ac o rfl rfl) key u hb
 intro hb o key
 exact qg o (Ae o Ht rfl) λo=>qg o (Af o isAgg3 rfl (u.ld.cellB t0 rfl)) λo=>qg o (Ba o rfl rfl) λo=>qk o (Ad o rfl rfl) key u hb
 intro a w o u
 refine qm o rfl λo=>gr (Fk:=[(0,SL D0 p1 C0),(3,i6 E0),(4,PT F0),(42,.bool (((decide (A0.At < 0)) || (decide (4000 < A0.At))) || ((decide (A0.Op≠1)) && (decide (A0.N≠0)))))]) 33 9 o u ?_ ?_ ?_
 intro hb o key
 iterate 4 refine qn o λo=>?_
 iterate 3 refine ls<|gnu o rfl rfl rfl λa o=>?_
 exact qn o λo=>qk o (Ac o rfl rfl) key u hb
 intro hb o key
 refine qg o (Ae o Co rfl) λo=>qg o (Af o isAgg3 rfl (u.ld.cellB t0 rfl)) λo=>qg o (Bh o rfl rfl) λo=>qg o (Ab o rfl) λo=>gr (Fk:=[(0,SL D0 p1 C0),(3,i6 E0),(4,PT F0),(33,.bool false),(41,.bool ((decide (A0.Op≠1)) && (decide (A0.N≠0))))]) 37 4 o u ?_ ?_ ?_
 intro hb o key
 exact qg o (Ae o Et rfl) λo=>qg o (Af o isAgg3 rfl (u.ld.cellB t0 rfl)) λo=>qg o (Bh o rfl rfl) λo=>ql o (Ac o rfl rfl) key u hb
 intro hb o key
 iterate 3 refine qn o λo=>?_
 exact ql o (Ad o rfl rfl) key u hb
 intro a w o u
 exact qk o (Ad o rfl rfl) key u hb
 intro a w o u
 refine qm o rfl λo=>gr (Fk:=[(0,SL D0 p1 C0),(3,i6 E0),(4,PT F0),(52,.bool ((((decide (A0.At < 0)) || (decide (4000 < A0.At))) || ((decide (A0.Op≠1)) && (decide (A0.N≠0)))) || ((decide (A0.Op≠2)) && (decide (A0.Name≠[])))))]) 43 9 o u ?_ ?_ ?_
 intro hb o key
 iterate 4 refine qn o λo=>?_
 iterate 3 refine ls<|gnu o rfl rfl rfl λa o=>?_
 exact qn o λo=>qk o (Ac o rfl rfl) key u hb
 intro hb o key
 refine qg o (Ae o Co rfl) λo=>qg o (Af o isAgg3 rfl (u.ld.cellB t0 rfl)) λo=>qg o (Bh o rfl rfl) λo=>qg o (Ab o rfl) λo=>gr (Fk:=[(0,SL D0 p1 C0),(3,i6 E0),(4,PT F0),(43,.bool false),(51,.bool ((decide (A0.Op≠2)) && (decide (A0.Name≠[]))))]) 47 4 o u ?_ ?_ ?_
 intro hb o key
 exact qg o (Ae o Eu rfl) λo=>qg o (Af o isAgg9 rfl (u.ld.cellB t0 rfl)) λo=>qg o (E9 (m:=A0.Name) (n:=[]) o rfl rfl) λo=>ql o (Ac o rfl rfl) key u hb
 intro hb o key
 iterate 3 refine qn o λo=>?_
 exact ql o (Ad o rfl rfl) key u hb
 intro a w o u
 exact qk o (Ad o rfl rfl) key u hb
 intro a w o u
 refine qm o rfl λo=>gr (Fk:=[(0,SL D0 p1 C0),(3,i6 E0),(4,PT F0),(57,.bool (((((decide (A0.At < 0)) || (decide (4000 < A0.At))) || ((decide (A0.Op≠1)) && (decide (A0.N≠0)))) || ((decide (A0.Op≠2)) && (decide (A0.Name≠[])))) || (decide (A0.N < 0))))]) 53 4 o u ?_ ?_ ?_
 intro hb o key
 iterate 3 refine qn o λo=>?_
 exact qk o (Ac o rfl rfl) key u hb
 intro hb o key
 exact qg o (Ae o Et rfl) λo=>qg o (Af o isAgg3 rfl (u.ld.cellB t0 rfl)) λo=>qg o (Ak o rfl rfl) λo=>qk o (Ad o rfl rfl) key u hb
 intro a w o u
 refine qm o rfl λo=>gr (Fk:=[(0,SL D0 p1 C0),(3,i6 E0),(4,PT F0),(62,.bool ((((((decide (A0.At < 0)) || (decide (4000 < A0.At))) || ((decide (A0.Op≠1)) && (decide (A0.N≠0)))) || ((decide (A0.Op≠2)) && (decide (A0.Name≠[])))) || (decide (A0.N < 0))) || (decide (4294967296 < A0.N))))]) 58 4 o u ?_ ?_ ?_
 intro hb o key
 iterate 3 refine qn o λo=>?_
 exact qk o (Ac o rfl rfl) key u hb
 intro hb o key
 exact qg o (Ae o Et rfl) λo=>qg o (Af o isAgg3 rfl (u.ld.cellB t0 rfl)) λo=>qg o (Ba o rfl rfl) λo=>qk o (Ad o rfl rfl) key u hb
 intro a w o u
 refine qv o (Ax (Ab o rfl) (congrArg Value.bool I0)) λo=>qg o (Ae o Co rfl) λo=>qg o (Af o isAgg3 rfl (u.ld.cellB t0 rfl)) λo=>qg o (Aq o rfl rfl) λo=>qg o (Ax (Ab o rfl) (congrArg Value.bool K0)) λo=>qg o (Ae o Eu rfl) λo=>qg o (Af o isAgg9 rfl (u.ld.cellB t0 rfl)) λo=>ls<|gy o rfl rfl<|cr o call126 (Ja (Ah _) j0) u λu o=>qg o (A9 o rfl) λo=>qg o (Ac o rfl rfl) λo=>qv o (Ad o rfl rfl) λo=>re<|tn<|?_
 replace u:=u.pickL .nil
 exact ⟨(!Y0),hm,o.hs,u⟩
 refine rg<|qv o (Ae o Ht rfl) λo=>qv o (Af o isAgg3 rfl (u.ld.cellB t0 rfl)) λo=>qv o (Ak o rfl rfl) λo=>qm o rfl λo=>gr (Fk:=[(0,SL D0 p1 C0),(3,i6 E0),(4,PT F0),(32,.bool ((decide (A0.At < 0)) || (decide (4000 < A0.At))))]) 28 4 o u ?_ ?_ ?_
 intro hb o key
 iterate 3 refine qn o λo=>?_
 exact qk o (Ac o rfl rfl) key u hb
 intro hb o key
 exact qg o (Ae o Ht rfl) λo=>qg o (Af o isAgg3 rfl (u.ld.cellB t0 rfl)) λo=>qg o (Ba o rfl rfl) λo=>qk o (Ad o rfl rfl) key u hb
 intro a w o u
 refine qm o rfl λo=>gr (Fk:=[(0,SL D0 p1 C0),(3,i6 E0),(4,PT F0),(42,.bool (((decide (A0.At < 0)) || (decide (4000 < A0.At))) || ((decide (A0.Op≠1)) && (decide (A0.N≠0)))))]) 33 9 o u ?_ ?_ ?_
 intro hb o key
 iterate 4 refine qn o λo=>?_
 iterate 3 refine ls<|gnu o rfl rfl rfl λa o=>?_
 exact qn o λo=>qk o (Ac o rfl rfl) key u hb
 intro hb o key
 refine qg o (Ae o Co rfl) λo=>qg o (Af o isAgg3 rfl (u.ld.cellB t0 rfl)) λo=>qg o (Bh o rfl rfl) λo=>qg o (Ab o rfl) λo=>gr (Fk:=[(0,SL D0 p1 C0),(3,i6 E0),(4,PT F0),(33,.bool false),(41,.bool ((decide (A0.Op≠1)) && (decide (A0.N≠0))))]) 37 4 o u ?_ ?_ ?_
 intro hb o key
 exact qg o (Ae o Et rfl) λo=>qg o (Af o isAgg3 rfl (u.ld.cellB t0 rfl)) λo=>qg o (Bh o rfl rfl) λo=>ql o (Ac o rfl rfl) key u hb
 intro hb o key
 iterate 3 refine qn o λo=>?_
 exact ql o (Ad o rfl rfl) key u hb
 intro a w o u
 exact qk o (Ad o rfl rfl) key u hb
 intro a w o u
 refine qm o rfl λo=>gr (Fk:=[(0,SL D0 p1 C0),(3,i6 E0),(4,PT F0),(52,.bool ((((decide (A0.At < 0)) || (decide (4000 < A0.At))) || ((decide (A0.Op≠1)) && (decide (A0.N≠0)))) || ((decide (A0.Op≠2)) && (decide (A0.Name≠[])))))]) 43 9 o u ?_ ?_ ?_
 intro hb o key
 iterate 4 refine qn o λo=>?_
 iterate 3 refine ls<|gnu o rfl rfl rfl λa o=>?_
 exact qn o λo=>qk o (Ac o rfl rfl) key u hb
 intro hb o key
 refine qg o (Ae o Co rfl) λo=>qg o (Af o isAgg3 rfl (u.ld.cellB t0 rfl)) λo=>qg o (Bh o rfl rfl) λo=>qg o (Ab o rfl) λo=>gr (Fk:=[(0,SL D0 p1 C0),(3,i6 E0),(4,PT F0),(43,.bool false),(51,.bool ((decide (A0.Op≠2)) && (decide (A0.Name≠[]))))]) 47 4 o u ?_ ?_ ?_
 intro hb o key
 exact qg o (Ae o Eu rfl) λo=>qg o (Af o isAgg9 rfl (u.ld.cellB t0 rfl)) λo=>qg o (E9 (m:=A0.Name) (n:=[]) o rfl rfl) λo=>ql o (Ac o rfl rfl) key u hb
 intro hb o key
 iterate 3 refine qn o λo=>?_
 exact ql o (Ad o rfl rfl) key u hb
 intro a w o u
 exact qk o (Ad o rfl rfl) key u hb
 intro a w o u
 refine qm o rfl λo=>gr (Fk:=[(0,SL D0 p1 C0),(3,i6 E0),(4,PT F0),(57,.bool (((((decide (A0.At < 0)) || (decide (4000 < A0.At))) || ((decide (A0.Op≠1)) && (decide (A0.N≠0)))) || ((decide (A0.Op≠2)) && (decide (A0.Name≠[])))) || (decide (A0.N < 0))))]) 53 4 o u ?_ ?_ ?_
 intro hb o key
 iterate 3 refine qn o λo=>?_
 exact qk o (Ac o rfl rfl) key u hb
 intro hb o key
 exact qg o (Ae o Et rfl) λo=>qg o (Af o isAgg3 rfl (u.ld.cellB t0 rfl)) λo=>qg o (Ak o rfl rfl) λo=>qk o (Ad o rfl rfl) key u hb
 intro a w o u
 refine qm o rfl λo=>gr (Fk:=[(0,SL D0 p1 C0),(3,i6 E0),(4,PT F0),(62,.bool ((((((decide (A0.At < 0)) || (decide (4000 < A0.At))) || ((decide (A0.Op≠1)) && (decide (A0.N≠0)))) || ((decide (A0.Op≠2)) && (decide (A0.Name≠[])))) || (decide (A0.N < 0))) || (decide (4294967296 < A0.N))))]) 58 4 o u ?_ ?_ ?_
 intro hb o key
 iterate 3 refine qn o λo=>?_
 exact qk o (Ac o rfl rfl) key u hb
 intro hb o key
 exact qg o (Ae o Et rfl) λo=>qg o (Af o isAgg3 rfl (u.ld.cellB t0 rfl)) λo=>qg o (Ba o rfl rfl) λo=>qk o (Ad o rfl rfl) key u hb
 intro a w o u
 refine qv o (Ax (Ab o rfl) (congrArg Value.bool I0)) λo=>qg o (Ae o Co rfl) λo=>qg o (Af o isAgg3 rfl (u.ld.cellB t0 rfl)) λo=>qg o (Aq o rfl rfl) λo=>qg o (Ax (Ab o rfl) (congrArg Value.bool K0)) λo=>?_
 iterate 4 refine qn o λo=>?_
 refine qg o (Ad o rfl rfl) λo=>qv o (Ad o rfl rfl) λo=>re<|tn<|?_
 replace u:=u.pickL .nil
 exact ⟨false,hm,o.hs,u⟩
 rintro a w ⟨T0,hm,o,u⟩
 unfold Z2n at hm
 rcases bit hm with ⟨M0,hm⟩ | ⟨M0,hm⟩
 refine ctv o rfl M0<|th<|rg<|qa o rfl λo=>re<|tn<|wr<|br<|tr<|tr<|br<|tr<|?_
 obtain rfl:=si hm
 exact r1 o results97 rfl ⟨rfl,u.keep⟩
 refine cfv o rfl M0<|wk<|bn<|tn<|rg<|qm o rfl λo=>qv o (An o rfl rfl) λo=>qa o rfl λo=>re<|tn<|?_
 exact ⟨(G0,(IntKind.i64.wrap (E0+1))),⟨hm,o.has ⟨rfl,rfl,trivial⟩,u⟩,Nat.lt_succ_self _⟩
 refine tn<|cfv o rfl J0<|we<|tx<|tx<|bx<|tn<|?_
 exact ⟨hm,o.has ⟨rfl,trivial⟩,u⟩
 rintro a w ⟨hm,o,u⟩
 unfold Z2m at hm
 refine th<|?_
 obtain ⟨B1,n0,hm⟩:=bs hm
 refine rg<|qm o rfl λo=>ls<|cr o call127 (JcS _ (Ah _) U0 (St.srH u O0) n0) u λu o=>qv o (Dt o rfl rfl) λo=>qa o rfl λo=>re<|tn<|wr<|?_
 obtain rfl:=si hm
 exact r1 o results97 rfl ⟨rfl,u.keep⟩
theorem Jcq (hH:H.le w0) {p1:Int} {r:Str} (hm:Z2s N p1=some r):Tot Tryz.prog 156 #[i6 p1] w0 (λv w'=>v=Ag r∧Keep Nil w0 w'):=by
 unfold Z2s at hm
 refine fn0 func156 rfl ntmps156 rfl rfl λa o=>?_
 have u:St w0 Nil [H] [] w0:=start1 hH
 refine th<|rg<|qa o rfl λo=>re<|tn<|th<|th<|rg<|qm o rfl λo=>qv o (Ak o rfl rfl) λo=>qm o rfl λo=>gr (Fk:=[(0,i6 p1),(8,.bool ((decide (p1 < 1)) || (decide (14 < p1))))]) 5 3 o u ?_ ?_ ?_
 intro hb o key
 iterate 2 refine qn o λo=>?_
 exact qk o (Ac o rfl rfl) key u hb
 intro hb o key
 exact qg o (Ab o rfl) λo=>qg o (Ba o rfl rfl) λo=>qk o (Ad o rfl rfl) key u hb
 intro a w o u
 refine re<|?_
 rcases bit hm with ⟨A0,hm⟩ | ⟨A0,hm⟩
 refine tn<|ctv o rfl A0<|th<|rg<|qa o rfl λo=>re<|tn<|wr<|tr<|?_
 obtain rfl:=si hm
 exact r1 o results156 rfl ⟨rfl,u.keep⟩
 refine tn<|cfv o rfl A0<|wk<|tn<|th<|?_
 obtain ⟨E0,h7,hm⟩:=bs hm
 refine rg<|ls<|Bj (e:=9) (sz:=1) [Ag [],Ag [114,101],Ag [114,110],Ag [110,101],Ag [114,110,101,102],Ag [110],Ag [110],Ag [],Ag [],Ag [110],Ag [110],Ag [101,98],Ag [107,98],Ag [],Ag [101]] o rfl u rfl rfl rfl (λw=>by kernel_rfl) λb4 w a u o=>?_
 have C0:Rows (α:=Str) H [Ag [],Ag [114,101],Ag [114,110],Ag [110,101],Ag [114,110,101,102],Ag [110],Ag [110],Ag [],Ag [],Ag [110],Ag [110],Ag [101,98],Ag [107,98],Ag [],Ag [101]] ([[],[114,101],[114,110],[110,101],[114,110,101,102],[110],[110],[],[],[110],[110],[101,98],[107,98],[],[101]]:List Str):=(.cons (c:=[Ag []]) rfl (.cons (c:=[Ag [114,101]]) rfl (.cons (c:=[Ag [114,110]]) rfl (.cons (c:=[Ag [110,101]]) rfl (.cons (c:=[Ag [114,110,101,102]]) rfl (.cons (c:=[Ag [110]]) rfl (.cons (c:=[Ag [110]]) rfl (.cons (c:=[Ag []]) rfl (.cons (c:=[Ag []]) rfl (.cons (c:=[Ag [110]]) rfl (.cons (c:=[Ag [110]]) rfl (.cons (c:=[Ag [101,98]]) rfl (.cons (c:=[Ag [107,98]]) rfl (.cons (c:=[Ag []]) rfl (.cons (c:=[Ag [101]]) rfl .nil)))))))))))))))
 refine qm o rfl λo=>qv o (Al o runUnderlying92 sizeOf9 rfl rfl h7 (Rd.oaI (u.ld.rdO t0) C0 (by decide) h7)) λo=>?_
 obtain ⟨cz8,g9,D0⟩:=Rows.getI C0 h7
 obtain rfl:cz8=[Ag E0]:=g9
 refine qv o (Af o isAgg9 rfl (u.ld.elO t0 (D0 0 _ rfl))) λo=>qa o rfl λo=>re<|tn<|wr<|?_
 obtain rfl:=si hm
 exact r1 o results156 rfl ⟨rfl,u.keep⟩
theorem Q8 (hH:H.le w0) {p1:Str} {p2:Int} {r:Bool} (hm:Z2w N p1 p2=some r):Tot Tryz.prog 157 #[Ag p1,.int .u8 p2] w0 (λv w'=>v=.bool r∧Keep Nil w0 w'):=by
 unfold Z2w at hm
 refine fn0 func157 rfl ntmps157 rfl rfl λa o=>?_
 have u:St w0 Nil [H] [] w0:=start1 hH
 refine th<|rg<|qa o rfl λo=>re<|tn<|th<|th<|rg<|qa o rfl λo=>re<|tn<|Av (λa w=>Z2x=some r∧Fr 17 [] a∧St w0 Nil [H] [] w) ?_ ?_
 refine wb<|lp (α:=Nat×Int) (λgh a w=>match gh with | (A0,C0)=>(Z2y N Z2x p1 p2) A0 C0=some r∧Fr 17 [(0,Ag p1),(1,.int .u8 p2),(5,i6 C0)] a∧St w0 Nil [H] [] w) (λgh=>gh.1) (N,0) ⟨hm,o.hs,u⟩ ?_
 rintro ⟨A0,C0⟩ a w ⟨hm,o,u⟩
 obtain _ | A0:=A0
 simp [Z2y] at hm
 rw [Z2y] at hm
 refine th<|th<|rg<|qm o rfl λo=>qm o rfl λo=>qv o (Cu (s:=p1) o runUnderlying9 rfl) λo=>qv o (Ak o rfl rfl) λo=>re<|?_
 rcases bip hm with ⟨D0,hm⟩ | ⟨D0,hm⟩
 refine tn<|ctv o rfl D0<|wk<|tn<|th<|wb<|th<|?_
 obtain ⟨F0,h5,hm⟩:=bs hm
 refine rg<|qm o rfl λo=>qm o rfl λo=>qv o (Jk (s:=p1) o runUnderlying9 rfl rfl h5) λo=>qm o rfl λo=>qv o (Aq o rfl rfl) λo=>re<|?_
 rcases bip hm with ⟨E0,hm⟩ | ⟨E0,hm⟩
 refine tn<|ctv o rfl E0<|th<|rg<|qa o rfl λo=>re<|tn<|wr<|br<|tr<|tr<|br<|tr<|?_
 obtain rfl:=si hm
 exact r1 o results157 rfl ⟨rfl,u.keep⟩
 refine tn<|cfv o rfl E0<|wk<|bn<|tn<|rg<|qm o rfl λo=>qv o (An o rfl rfl) λo=>qa o rfl λo=>re<|tn<|?_
 exact ⟨(A0,(IntKind.i64.wrap (C0+1))),⟨hm,o.hs,u⟩,Nat.lt_succ_self _⟩
 refine tn<|cfv o rfl D0<|we<|tx<|tx<|bx<|tn<|?_
 exact ⟨hm,o.has trivial,u⟩
 rintro a w ⟨hm,o,u⟩
 unfold Z2x at hm
 refine th<|rg<|qa o rfl λo=>re<|tn<|wr<|?_
 obtain rfl:=si hm
 exact r1 o results157 rfl ⟨rfl,u.keep⟩
set_option maxHeartbeats 4000000 in
theorem Jcj (hH:H.le w0) {cs2:List Value} {p1:api_Stmt} (g3:Enc.rep H cs2 p1) {r:Bool} (hm:Z34 N p1=some r):Tot Tryz.prog 149 #[.agg cs2.toArray] w0 (λv w'=>v=.bool r∧Keep Nil w0 w'):=by
 unfold Z34 at hm
 refine fn0 func149 rfl ntmps149 rfl rfl λa o=>?_
 have u:St w0 Nil [H] [] w0:=start1 hH
 obtain ⟨S0,I0,T0,J0,rfl,W0,X0,D1,E1⟩:=Bs g3
 refine th<|rg<|ls<|Br (cs:=[i6 p1.Kind,Ag p1.Reg,Ag p1.Name,SL S0 p1.E I0,SL T0 p1.F J0,i6 p1.N,i6 p1.Body,i6 p1.Else,i6 p1.At].toArray) o rfl u rfl rfl λA0 w a u o=>qa o rfl λo=>re<|tn<|th<|th<|rg<|qv o (Ae o Cm rfl) λo=>qv o (Af o isAgg3 rfl (u.ld.cellB t0 rfl)) λo=>qv o (Ak o rfl rfl) λo=>qm o rfl λo=>gr (Fk:=[(1,PT A0),(15,.bool ((decide (p1.Kind < 1)) || (decide (14 < p1.Kind))))]) 11 4 o u ?_ ?_ ?_
 intro hb o key
 iterate 3 refine qn o λo=>?_
 exact qk o (Ac o rfl rfl) key u hb
 intro hb o key
 exact qg o (Ae o Cm rfl) λo=>qg o (Af o isAgg3 rfl (u.ld.cellB t0 rfl)) λo=>qg o (Ba o rfl rfl) λo=>qk o (Ad o rfl rfl) key u hb
 intro a w o u
 refine qm o rfl λo=>gr (Fk:=[(1,PT A0),(20,.bool (((decide (p1.Kind < 1)) || (decide (14 < p1.Kind))) || (decide (p1.At < 0))))]) 16 4 o u ?_ ?_ ?_
 intro hb o key
 iterate 3 refine qn o λo=>?_
 exact qk o (Ac o rfl rfl) key u hb
 intro hb o key
 exact qg o (Ae o Hp rfl) λo=>qg o (Af o isAgg3 rfl (u.ld.cellB t0 rfl)) λo=>qg o (Ak o rfl rfl) λo=>qk o (Ad o rfl rfl) key u hb
 intro a w o u
 refine qm o rfl λo=>gr (Fk:=[(1,PT A0),(25,.bool ((((decide (p1.Kind < 1)) || (decide (14 < p1.Kind))) || (decide (p1.At < 0))) || (decide (4000 < p1.At))))]) 21 4 o u ?_ ?_ ?_
 intro hb o key
 iterate 3 refine qn o λo=>?_
 exact qk o (Ac o rfl rfl) key u hb
 intro hb o key
 exact qg o (Ae o Hp rfl) λo=>qg o (Af o isAgg3 rfl (u.ld.cellB t0 rfl)) λo=>qg o (Ba o rfl rfl) λo=>qk o (Ad o rfl rfl) key u hb
 intro a w o u
 refine re<|?_
 rcases bit hm with ⟨K0,hm⟩ | ⟨K0,hm⟩
 refine tn<|ctv o rfl K0<|th<|rg<|qa o rfl λo=>re<|tn<|wr<|tr<|?_
 obtain rfl:=si hm
 exact r1 o results149 rfl ⟨rfl,u.keep⟩
 refine tn<|cfv o rfl K0<|wk<|tn<|th<|?_
 obtain ⟨D0,F1,hm⟩:=bs hm
 refine rg<|qv o (Ae o Cm rfl) λo=>qv o (Af o isAgg3 rfl (u.ld.cellB t0 rfl)) λo=>ls<|cr o call156 (Jcq (Ah _) F1) u λu o=>qa o rfl λo=>re<|tn<|th<|?_
 obtain ⟨G0,I1,hm⟩:=bs hm
 obtain ⟨F0,J1,hm⟩:=bs hm
 obtain ⟨E0,O1,hm⟩:=bs hm
 obtain ⟨C0,P1,hm⟩:=bs hm
 refine rg<|qm o rfl λo=>ls<|cr o call157 (Q8 (Ah _) I1) u λu o=>qm o rfl λo=>ls<|cr o call157 (Q8 (Ah _) J1) u λu o=>qm o rfl λo=>ls<|cr o call157 (Q8 (Ah _) O1) u λu o=>qm o rfl λo=>ls<|cr o call157 (Q8 (Ah _) P1) u λu o=>?_
 iterate 4 refine qa o rfl λo=>?_
 refine re<|tn<|th<|th<|Av (λa w=>∃ (U0:Bool),(Z35 N p1 D0 E0 C0) U0=some r∧Fr 112 [(1,PT A0),(3,Ag D0),(6,.bool E0),(7,.bool C0),(66,.bool U0)] a∧St w0 Nil [H] [bk A0 [i6 p1.Kind,Ag p1.Reg,Ag p1.Name,SL S0 p1.E I0,SL T0 p1.F J0,i6 p1.N,i6 p1.Body,i6 p1.Else,i6 p1.At] 140] w) ?_ ?_
 obtain ⟨Y0,j0,hm⟩:=bs hm
 rcases bit hm with ⟨M0,hm⟩ | ⟨M0,hm⟩
 refine rg<|qm o rfl λo=>qv o (Ae o Ek rfl) λo=>qv o (Af o isAgg9 rfl (u.ld.cellB t0 rfl)) λo=>ls<|cr o call126 (Ja (Ah _) j0) u λu o=>qv o (Hi o runUnderlying4 rfl rfl) λo=>qm o rfl λo=>gr (Fk:=[(1,PT A0),(3,Ag D0),(5,.bool F0),(6,.bool E0),(7,.bool C0),(50,.bool ((G0 != Y0) || ((!G0) && (decide (p1.Reg≠[])))))]) 42 8 o u ?_ ?_ ?_
 intro hb o key
 iterate 3 refine qn o λo=>?_
 iterate 3 refine ls<|gnu o rfl rfl rfl λa o=>?_
 exact qn o λo=>qk o (Ac o rfl rfl) key u hb
 intro hb o key
 refine qg o (Ab o rfl) λo=>qg o (A9 o rfl) λo=>qg o (Ab o rfl) λo=>gr (Fk:=[(1,PT A0),(3,Ag D0),(5,.bool F0),(6,.bool E0),(7,.bool C0),(42,.bool false),(49,.bool ((!G0) && (decide (p1.Reg≠[]))))]) 45 4 o u ?_ ?_ ?_
 intro hb o key
 exact qg o (Ae o Ek rfl) λo=>qg o (Af o isAgg9 rfl (u.ld.cellB t0 rfl)) λo=>qg o (E9 (m:=p1.Reg) (n:=[]) o rfl rfl) λo=>ql o (Ac o rfl rfl) key u hb
 intro hb o key
 iterate 3 refine qn o λo=>?_
 exact ql o (Ad o rfl rfl) key u hb
 intro a w o u
 exact qk o (Ad o rfl rfl) key u hb
 intro a w o u
 refine qv o (Ax (Ab o rfl) (congrArg Value.bool M0)) λo=>?_
 iterate 5 refine qn o λo=>?_
 refine qv o (Ac o rfl rfl) λo=>qm o rfl λo=>?_
 iterate 3 refine qn o λo=>?_
 iterate 3 refine ls<|gnu o rfl rfl rfl λa o=>?_
 refine qn o λo=>qv o (Ac o rfl rfl) λo=>re<|tn<|?_
 exact ⟨true,hm,o.hs,u⟩
 obtain ⟨n0,Q1,hm⟩:=bs hm
 refine rg<|qm o rfl λo=>qv o (Ae o Ek rfl) λo=>qv o (Af o isAgg9 rfl (u.ld.cellB t0 rfl)) λo=>ls<|cr o call126 (Ja (Ah _) j0) u λu o=>qv o (Hi o runUnderlying4 rfl rfl) λo=>qm o rfl λo=>gr (Fk:=[(1,PT A0),(3,Ag D0),(5,.bool F0),(6,.bool E0),(7,.bool C0),(50,.bool ((G0 != Y0) || ((!G0) && (decide (p1.Reg≠[])))))]) 42 8 o u ?_ ?_ ?_
 intro hb o key
 iterate 3 refine qn o λo=>?_
 iterate 3 refine ls<|gnu o rfl rfl rfl λa o=>?_
 exact qn o λo=>qk o (Ac o rfl rfl) key u hb
 intro hb o key
 refine qg o (Ab o rfl) λo=>qg o (A9 o rfl) λo=>qg o (Ab o rfl) λo=>gr (Fk:=[(1,PT A0),(3,Ag D0),(5,.bool F0),(6,.bool E0),(7,.bool C0),(42,.bool false),(49,.bool ((!G0) && (decide (p1.Reg≠[]))))]) 45 4 o u ?_ ?_ ?_
 intro hb o key
 exact qg o (Ae o Ek rfl) λo=>qg o (Af o isAgg9 rfl (u.ld.cellB t0 rfl)) λo=>qg o (E9 (m:=p1.Reg) (n:=[]) o rfl rfl) λo=>ql o (Ac o rfl rfl) key u hb
 intro hb o key
 iterate 3 refine qn o λo=>?_
 exact ql o (Ad o rfl rfl) key u hb
 intro a w o u
 exact qk o (Ad o rfl rfl) key u hb
 intro a w o u
 refine qv o (Ax (Ab o rfl) (congrArg Value.bool M0)) λo=>qg o (Ab o rfl) λo=>qg o (Ae o Fj rfl) λo=>qg o (Af o isAgg9 rfl (u.ld.cellB t0 rfl)) λo=>ls<|gy o rfl rfl<|cr o call126 (Ja (Ah _) Q1) u λu o=>qg o (Hi o runUnderlying4 rfl rfl) λo=>qv o (Ad o rfl rfl) λo=>qm o rfl λo=>gr (Fk:=[(1,PT A0),(3,Ag D0),(6,.bool E0),(7,.bool C0),(66,.bool ((F0 != n0) || ((!F0) && (decide (p1.Name≠[])))))]) 58 8 o u ?_ ?_ ?_
 intro hb o key
 iterate 3 refine qn o λo=>?_
 iterate 3 refine ls<|gnu o rfl rfl rfl λa o=>?_
 exact qn o λo=>qk o (Ac o rfl rfl) key u hb
 intro hb o key
 refine qg o (Ab o rfl) λo=>qg o (A9 o rfl) λo=>qg o (Ab o rfl) λo=>gr (Fk:=[(1,PT A0),(3,Ag D0),(6,.bool E0),(7,.bool C0),(58,.bool false),(65,.bool ((!F0) && (decide (p1.Name≠[]))))]) 61 4 o u ?_ ?_ ?_
 intro hb o key
 exact qg o (Ae o Fj rfl) λo=>qg o (Af o isAgg9 rfl (u.ld.cellB t0 rfl)) λo=>qg o (E9 (m:=p1.Name) (n:=[]) o rfl rfl) λo=>ql o (Ac o rfl rfl) key u hb
 intro hb o key
 iterate 3 refine qn o λo=>?_
 exact ql o (Ad o rfl rfl) key u hb
 intro a w o u
 exact qk o (Ad o rfl rfl) key u hb
 intro a w o u
 refine re<|tn<|?_
 exact ⟨((F0 != n0) || ((!F0) && (decide (p1.Name≠[])))),hm,o.hs,u⟩
 rintro a w ⟨U0,hm,o,u⟩
 unfold Z35 at hm
 rcases bit hm with ⟨O0,hm⟩ | ⟨O0,hm⟩
 refine ctv o rfl O0<|th<|rg<|qa o rfl λo=>re<|tn<|wr<|tr<|?_
 obtain rfl:=si hm
 exact r1 o results149 rfl ⟨rfl,u.keep⟩
 refine cfv o rfl O0<|wk<|tn<|th<|th<|Av (λa w=>∃ (V0:Bool),(Z36 N p1 D0) V0=some r∧Fr 112 [(1,PT A0),(3,Ag D0),(98,.bool V0)] a∧St w0 Nil [H] [bk A0 [i6 p1.Kind,Ag p1.Reg,Ag p1.Name,SL S0 p1.E I0,SL T0 p1.F J0,i6 p1.N,i6 p1.Body,i6 p1.Else,i6 p1.At] 140] w) ?_ ?_
 obtain ⟨u0,B1,hm⟩:=bs hm
 rcases bit hm with ⟨P0,hm⟩ | ⟨P0,hm⟩
 refine rg<|qm o rfl λo=>qv o (Ae o Fs rfl) λo=>qv o (Af o isAgg96 rfl (u.ld.cellB t0 rfl)) λo=>ls<|cr o call97 (Qq (Ah _) W0 (St.srH u X0) B1) u λu o=>qv o (Hi o runUnderlying4 rfl rfl) λo=>qm o rfl λo=>gr (Fk:=[(1,PT A0),(3,Ag D0),(7,.bool C0),(81,.bool ((E0 != u0) || ((!E0) && (decide (0 < (p1.E.length:Int))))))]) 72 9 o u ?_ ?_ ?_
 intro hb o key
 iterate 3 refine qn o λo=>?_
 iterate 4 refine ls<|gnu o rfl rfl rfl λa o=>?_
 exact qn o λo=>qk o (Ac o rfl rfl) key u hb
 intro hb o key
 refine qg o (Ab o rfl) λo=>qg o (A9 o rfl) λo=>qg o (Ab o rfl) λo=>gr (Fk:=[(1,PT A0),(3,Ag D0),(7,.bool C0),(72,.bool false),(80,.bool ((!E0) && (decide (0 < (p1.E.length:Int)))))]) 75 5 o u ?_ ?_ ?_
 intro hb o key
 exact qg o (Ae o Fs rfl) λo=>qg o (Af o isAgg96 rfl (u.ld.cellB t0 rfl)) λo=>qg o (Aj (α:=api_Node) (xs:=p1.E) o runUnderlying96 rfl) λo=>qg o (Ba o rfl rfl) λo=>ql o (Ac o rfl rfl) key u hb
 intro hb o key
 iterate 4 refine qn o λo=>?_
 exact ql o (Ad o rfl rfl) key u hb
 intro a w o u
 exact qk o (Ad o rfl rfl) key u hb
 intro a w o u
 refine qv o (Ax (Ab o rfl) (congrArg Value.bool P0)) λo=>?_
 iterate 5 refine qn o λo=>?_
 refine qv o (Ac o rfl rfl) λo=>qm o rfl λo=>?_
 iterate 3 refine qn o λo=>?_
 iterate 4 refine ls<|gnu o rfl rfl rfl λa o=>?_
 refine qn o λo=>qv o (Ac o rfl rfl) λo=>re<|tn<|?_
 exact ⟨true,hm,o.hs,u⟩
 obtain ⟨C1,R1,hm⟩:=bs hm
 refine rg<|qm o rfl λo=>qv o (Ae o Fs rfl) λo=>qv o (Af o isAgg96 rfl (u.ld.cellB t0 rfl)) λo=>ls<|cr o call97 (Qq (Ah _) W0 (St.srH u X0) B1) u λu o=>qv o (Hi o runUnderlying4 rfl rfl) λo=>qm o rfl λo=>gr (Fk:=[(1,PT A0),(3,Ag D0),(7,.bool C0),(81,.bool ((E0 != u0) || ((!E0) && (decide (0 < (p1.E.length:Int))))))]) 72 9 o u ?_ ?_ ?_
 intro hb o key
 iterate 3 refine qn o λo=>?_
 iterate 4 refine ls<|gnu o rfl rfl rfl λa o=>?_
 exact qn o λo=>qk o (Ac o rfl rfl) key u hb
 intro hb o key
 refine qg o (Ab o rfl) λo=>qg o (A9 o rfl) λo=>qg o (Ab o rfl) λo=>gr (Fk:=[(1,PT A0),(3,Ag D0),(7,.bool C0),(72,.bool false),(80,.bool ((!E0) && (decide (0 < (p1.E.length:Int)))))]) 75 5 o u ?_ ?_ ?_
 intro hb o key
 exact qg o (Ae o Fs rfl) λo=>qg o (Af o isAgg96 rfl (u.ld.cellB t0 rfl)) λo=>qg o (Aj (α:=api_Node) (xs:=p1.E) o runUnderlying96 rfl) λo=>qg o (Ba o rfl rfl) λo=>ql o (Ac o rfl rfl) key u hb
 intro hb o key
 iterate 4 refine qn o λo=>?_
 exact ql o (Ad o rfl rfl) key u hb
 intro a w o u
 exact qk o (Ad o rfl rfl) key u hb
 intro a w o u
 refine qv o (Ax (Ab o rfl) (congrArg Value.bool P0)) λo=>qg o (Ab o rfl) λo=>qg o (Ae o Im rfl) λo=>qg o (Af o isAgg96 rfl (u.ld.cellB t0 rfl)) λo=>ls<|gy o rfl rfl<|cr o call97 (Qq (Ah _) D1 (St.srH u E1) R1) u λu o=>qg o (Hi o runUnderlying4 rfl rfl) λo=>qv o (Ad o rfl rfl) λo=>qm o rfl λo=>gr (Fk:=[(1,PT A0),(3,Ag D0),(98,.bool ((C0 != C1) || ((!C0) && (decide (0 < (p1.F.length:Int))))))]) 89 9 o u ?_ ?_ ?_
 intro hb o key
 iterate 3 refine qn o λo=>?_
 iterate 4 refine ls<|gnu o rfl rfl rfl λa o=>?_
 exact qn o λo=>qk o (Ac o rfl rfl) key u hb
 intro hb o key
 refine qg o (Ab o rfl) λo=>qg o (A9 o rfl) λo=>qg o (Ab o rfl) λo=>gr (Fk:=[(1,PT A0),(3,Ag D0),(89,.bool false),(97,.bool ((!C0) && (decide (0 < (p1.F.length:Int)))))]) 92 5 o u ?_ ?_ ?_
 intro hb o key
 exact qg o (Ae o Im rfl) λo=>qg o (Af o isAgg96 rfl (u.ld.cellB t0 rfl)) λo=>qg o (Aj (α:=api_Node) (xs:=p1.F) o runUnderlying96 rfl) λo=>qg o (Ba o rfl rfl) λo=>ql o (Ac o rfl rfl) key u hb
 intro hb o key
 iterate 4 refine qn o λo=>?_
 exact ql o (Ad o rfl rfl) key u hb
 intro a w o u
 exact qk o (Ad o rfl rfl) key u hb
 intro a w o u
 refine re<|tn<|?_
 exact ⟨((C0 != C1) || ((!C0) && (decide (0 < (p1.F.length:Int))))),hm,o.hs,u⟩
 rintro a w ⟨V0,hm,o,u⟩
 unfold Z36 at hm
 rcases bit hm with ⟨Q0,hm⟩ | ⟨Q0,hm⟩
 refine ctv o rfl Q0<|th<|rg<|qa o rfl λo=>re<|tn<|wr<|tr<|?_
 obtain rfl:=si hm
 exact r1 o results149 rfl ⟨rfl,u.keep⟩
 refine cfv o rfl Q0<|wk<|tn<|th<|th<|?_
 obtain ⟨T1,S1,hm⟩:=bs hm
 refine rg<|qm o rfl λo=>ls<|cr o call157 (Q8 (Ah _) S1) u λu o=>re<|?_
 rcases bit hm with ⟨R0,hm⟩ | ⟨R0,hm⟩
 refine tn<|ctv o rfl R0<|th<|rg<|qv o (Ae o Kc rfl) λo=>qv o (Af o isAgg3 rfl (u.ld.cellB t0 rfl)) λo=>qv o (Bo o rfl rfl) λo=>qm o rfl λo=>gr (Fk:=[(108,.bool ((decide (1≤p1.N)) && (decide (p1.N≤8))))]) 104 4 o u ?_ ?_ ?_
 intro hb o key
 exact qg o (Ae o Kc rfl) λo=>qg o (Af o isAgg3 rfl (u.ld.cellB t0 rfl)) λo=>qg o (Dt o rfl rfl) λo=>qk o (Ac o rfl rfl) key u hb
 intro hb o key
 iterate 3 refine qn o λo=>?_
 exact qk o (Ad o rfl rfl) key u hb
 intro a w o u
 refine qa o rfl λo=>re<|tn<|wr<|tr<|?_
 obtain rfl:=si hm
 exact r1 o results149 rfl ⟨rfl,u.keep⟩
 refine tn<|cfv o rfl R0<|wk<|tn<|th<|rg<|qv o (Ae o Kc rfl) λo=>qv o (Af o isAgg3 rfl (u.ld.cellB t0 rfl)) λo=>qv o (Aq o rfl rfl) λo=>qa o rfl λo=>re<|tn<|wr<|?_
 obtain rfl:=si hm
 exact r1 o results149 rfl ⟨rfl,u.keep⟩
set_option maxHeartbeats 4000000 in
theorem Jdy:∀ (N:Nat) {w0:World} {H:PH} (hH:H.le w0) {F0:Option Addr} {D0:Nat} {p1:(List api_Stmt)} (J0:p1.length≤D0) (K0:SR H F0 p1) {p6:Int} {r:Int} (hm:Z2z N p1 p6=some r),Tot Tryz.prog 150 #[SL F0 p1 D0,i6 p6] w0 (λv w'=>v=i6 r∧Keep Nil w0 w'):=by
 intro N
 induction N with
  | zero=>intros;rename_i hm;simp [Z2z] at hm
  | succ N ih=>
 intro w0 H hH F0 D0 p1 J0 K0 p6 r hm
 rw [Z2z] at hm
 refine fn0 func150 rfl ntmps150 rfl rfl λa o=>?_
 have u:St w0 Nil [H] [] w0:=start1 hH
 refine th<|rg<|qa o rfl λo=>re<|tn<|th<|rg<|qa o rfl λo=>qa o rfl λo=>re<|tn<|th<|Av (λa w=>∃ (W0:Int),Z30 W0=some r∧Fr 135 [(5,i6 W0)] a∧St w0 Nil [H] [] w) ?_ ?_
 refine wb<|lp (α:=Nat×Int×Int) (λgh a w=>match gh with | (I0,E0,C0)=>(Z33 (Z2z N) N Z30 p1 p6) I0 E0 C0=some r∧Fr 135 [(0,SL F0 p1 D0),(1,i6 p6),(5,i6 E0),(6,i6 C0)] a∧St w0 Nil [H] [] w) (λgh=>gh.1) (N,0,0) ⟨hm,o.hs,u⟩ ?_
 rintro ⟨I0,E0,C0⟩ a w ⟨hm,o,u⟩
 obtain _ | I0:=I0
 simp [Z33] at hm
 rw [Z33] at hm
 refine th<|th<|rg<|qm o rfl λo=>qm o rfl λo=>qv o (Aj (α:=api_Stmt) (xs:=p1) o runUnderlying106 rfl) λo=>qv o (Ak o rfl rfl) λo=>re<|?_
 rcases bip hm with ⟨X0,hm⟩ | ⟨X0,hm⟩
 refine tn<|ctv o rfl X0<|wk<|tn<|wb<|th<|?_
 obtain ⟨A0,h9,hm⟩:=bs hm
 obtain ⟨B2,O1,D1⟩:=SR.get K0 h9
 obtain ⟨Y0,S0,j0,T0,rfl,T1,U1,V1,X1⟩:=Bs O1
 refine rg<|qm o rfl λo=>qm o rfl λo=>qv o (Al o runUnderlying106 sizeOf140 rfl rfl h9 (SR.oaI K0 (by decide) h9)) λo=>qv o (Ar o isAgg140 sizeOf140 rfl rfl (λj v hj=>PH.le.cell (Lds.le u.ld) (D1 j v hj))) λo=>ls<|As (cs:=[i6 0,Ag [],Ag [],.slice none 0 0,.slice none 0 0,i6 0,i6 0,i6 0,i6 0].toArray) o rfl u zeroValue140 rfl λG0 w a u o=>ls<|Bb o u sizeOf140 rfl rfl rfl rfl (Ao rfl) .head λw u=>re<|tn<|th<|th<|rg<|qv o (Ae o Fo rfl) λo=>qv o (Af o isAgg3 rfl (u.ld.cellB t0 rfl)) λo=>qv o (Ak o rfl rfl) λo=>qm o rfl λo=>gr (Fk:=[(0,SL F0 p1 D0),(1,i6 p6),(5,i6 E0),(6,i6 C0),(7,PT G0),(27,.bool ((decide (A0.Body < 0)) || (decide (A0.Else < 0))))]) 23 4 o u ?_ ?_ ?_
 intro hb o key
 iterate 3 refine qn o λo=>?_
 exact qk o (Ac o rfl rfl) key u hb
 intro hb o key
 exact qg o (Ae o Dq rfl) λo=>qg o (Af o isAgg3 rfl (u.ld.cellB t0 rfl)) λo=>qg o (Ak o rfl rfl) λo=>qk o (Ad o rfl rfl) key u hb
 intro a w o u
 refine qm o rfl λo=>gr (Fk:=[(0,SL F0 p1 D0),(1,i6 p6),(5,i6 E0),(6,i6 C0),(7,PT G0),(32,.bool (((decide (A0.Body < 0)) || (decide (A0.Else < 0))) || (decide (40 < A0.Body))))]) 28 4 o u ?_ ?_ ?_
 intro hb o key
 iterate 3 refine qn o λo=>?_
 exact qk o (Ac o rfl rfl) key u hb
 intro hb o key
 exact qg o (Ae o Fo rfl) λo=>qg o (Af o isAgg3 rfl (u.ld.cellB t0 rfl)) λo=>qg o (Ba o rfl rfl) λo=>qk o (Ad o rfl rfl) key u hb
 intro a w o u
 refine qm o rfl λo=>gr (Fk:=[(0,SL F0 p1 D0),(1,i6 p6),(5,i6 E0),(6,i6 C0),(7,PT G0),(37,.bool ((((decide (A0.Body < 0)) || (decide (A0.Else < 0))) || (decide (40 < A0.Body))) || (decide (40 < A0.Else))))]) 33 4 o u ?_ ?_ ?_
 intro hb o key
 iterate 3 refine qn o λo=>?_
 exact qk o (Ac o rfl rfl) key u hb
 intro hb o key
 exact qg o (Ae o Dq rfl) λo=>qg o (Af o isAgg3 rfl (u.ld.cellB t0 rfl)) λo=>qg o (Ba o rfl rfl) λo=>qk o (Ad o rfl rfl) key u hb
 intro a w o u
 refine qm o rfl λo=>gr (Fk:=[(0,SL F0 p1 D0),(1,i6 p6),(5,i6 E0),(6,i6 C0),(7,PT G0),(50,.bool (((((decide (A0.Body < 0)) || (decide (A0.Else < 0))) || (decide (40 < A0.Body))) || (decide (40 < A0.Else))) || (decide ((p1.length:Int) < (IntKind.i64.wrap ((IntKind.i64.wrap ((IntKind.i64.wrap (C0+1))+A0.Body))+A0.Else))))))]) 38 12 o u ?_ ?_ ?_
 intro hb o key
 iterate 11 refine qn o λo=>?_
 exact qk o (Ac o rfl rfl) key u hb
 intro hb o key
 exact qg o (Ab o rfl) λo=>qg o (An o rfl rfl) λo=>qg o (Ae o Fo rfl) λo=>qg o (Af o isAgg3 rfl (u.ld.cellB t0 rfl)) λo=>qg o (An o rfl rfl) λo=>qg o (Ae o Dq rfl) λo=>qg o (Af o isAgg3 rfl (u.ld.cellB t0 rfl)) λo=>qg o (An o rfl rfl) λo=>qg o (Ab o rfl) λo=>qg o (Aj (α:=api_Stmt) (xs:=p1) o runUnderlying106 rfl) λo=>qg o (Ba o rfl rfl) λo=>qk o (Ad o rfl rfl) key u hb
 intro a w o u
 refine re<|?_
 rcases bit hm with ⟨M0,hm⟩ | ⟨M0,hm⟩
 refine tn<|ctv o rfl M0<|th<|rg<|qa o rfl λo=>re<|tn<|wr<|tr<|br<|tr<|br<|tr<|?_
 obtain rfl:=si hm
 exact r1 o results150 rfl ⟨rfl,u.keep⟩
 refine tn<|cfv o rfl M0<|wk<|tn<|th<|th<|rg<|qv o (Ae o Fo rfl) λo=>qv o (Af o isAgg3 rfl (u.ld.cellB t0 rfl)) λo=>qv o (Ba o rfl rfl) λo=>qm o rfl λo=>gr (Fk:=[(0,SL F0 p1 D0),(1,i6 p6),(5,i6 E0),(6,i6 C0),(7,PT G0),(58,.bool ((decide (0 < A0.Body)) && (decide (A0.Kind≠11))))]) 54 4 o u ?_ ?_ ?_
 intro hb o key
 exact qg o (Ae o Cm rfl) λo=>qg o (Af o isAgg3 rfl (u.ld.cellB t0 rfl)) λo=>qg o (Bh o rfl rfl) λo=>qk o (Ac o rfl rfl) key u hb
 intro hb o key
 iterate 3 refine qn o λo=>?_
 exact qk o (Ad o rfl rfl) key u hb
 intro a w o u
 refine qm o rfl λo=>gr (Fk:=[(0,SL F0 p1 D0),(1,i6 p6),(5,i6 E0),(6,i6 C0),(7,PT G0),(63,.bool (((decide (0 < A0.Body)) && (decide (A0.Kind≠11))) && (decide (A0.Kind≠12))))]) 59 4 o u ?_ ?_ ?_
 intro hb o key
 exact qg o (Ae o Cm rfl) λo=>qg o (Af o isAgg3 rfl (u.ld.cellB t0 rfl)) λo=>qg o (Bh o rfl rfl) λo=>qk o (Ac o rfl rfl) key u hb
 intro hb o key
 iterate 3 refine qn o λo=>?_
 exact qk o (Ad o rfl rfl) key u hb
 intro a w o u
 refine qm o rfl λo=>gr (Fk:=[(0,SL F0 p1 D0),(1,i6 p6),(5,i6 E0),(6,i6 C0),(7,PT G0),(73,.bool ((((decide (0 < A0.Body)) && (decide (A0.Kind≠11))) && (decide (A0.Kind≠12))) || ((decide (0 < A0.Else)) && (decide (A0.Kind≠11)))))]) 64 9 o u ?_ ?_ ?_
 intro hb o key
 iterate 4 refine qn o λo=>?_
 iterate 3 refine ls<|gnu o rfl rfl rfl λa o=>?_
 exact qn o λo=>qk o (Ac o rfl rfl) key u hb
 intro hb o key
 refine qg o (Ae o Dq rfl) λo=>qg o (Af o isAgg3 rfl (u.ld.cellB t0 rfl)) λo=>qg o (Ba o rfl rfl) λo=>qg o (Ab o rfl) λo=>gr (Fk:=[(0,SL F0 p1 D0),(1,i6 p6),(5,i6 E0),(6,i6 C0),(7,PT G0),(64,.bool false),(72,.bool ((decide (0 < A0.Else)) && (decide (A0.Kind≠11))))]) 68 4 o u ?_ ?_ ?_
 intro hb o key
 exact qg o (Ae o Cm rfl) λo=>qg o (Af o isAgg3 rfl (u.ld.cellB t0 rfl)) λo=>qg o (Bh o rfl rfl) λo=>ql o (Ac o rfl rfl) key u hb
 intro hb o key
 iterate 3 refine qn o λo=>?_
 exact ql o (Ad o rfl rfl) key u hb
 intro a w o u
 exact qk o (Ad o rfl rfl) key u hb
 intro a w o u
 refine qm o rfl λo=>gr (Fk:=[(0,SL F0 p1 D0),(1,i6 p6),(5,i6 E0),(6,i6 C0),(7,PT G0),(82,.bool (((((decide (0 < A0.Body)) && (decide (A0.Kind≠11))) && (decide (A0.Kind≠12))) || ((decide (0 < A0.Else)) && (decide (A0.Kind≠11)))) || ((decide (A0.Kind=13)) && (decide (p6=0)))))]) 74 8 o u ?_ ?_ ?_
 intro hb o key
 iterate 4 refine qn o λo=>?_
 iterate 2 refine ls<|gnu o rfl rfl rfl λa o=>?_
 exact qn o λo=>qk o (Ac o rfl rfl) key u hb
 intro hb o key
 refine qg o (Ae o Cm rfl) λo=>qg o (Af o isAgg3 rfl (u.ld.cellB t0 rfl)) λo=>qg o (Aq o rfl rfl) λo=>qg o (Ab o rfl) λo=>gr (Fk:=[(0,SL F0 p1 D0),(1,i6 p6),(5,i6 E0),(6,i6 C0),(7,PT G0),(74,.bool false),(81,.bool ((decide (A0.Kind=13)) && (decide (p6=0))))]) 78 3 o u ?_ ?_ ?_
 intro hb o key
 exact qg o (Ab o rfl) λo=>qg o (Aq o rfl rfl) λo=>ql o (Ac o rfl rfl) key u hb
 intro hb o key
 iterate 2 refine qn o λo=>?_
 exact ql o (Ad o rfl rfl) key u hb
 intro a w o u
 exact qk o (Ad o rfl rfl) key u hb
 intro a w o u
 refine re<|?_
 rcases bit hm with ⟨O0,hm⟩ | ⟨O0,hm⟩
 refine tn<|ctv o rfl O0<|th<|rg<|qa o rfl λo=>re<|tn<|wr<|tr<|br<|tr<|br<|tr<|?_
 obtain rfl:=si hm
 exact r1 o results150 rfl ⟨rfl,u.keep⟩
 refine tn<|cfv o rfl O0<|wk<|tn<|th<|rxS 8 u wide (by kernel_rfl) λw u=>?_
 iterate 2 refine xq u.ld o (λw hl=>Ab o rfl) λo=>?_
 refine xr u o (An o rfl rfl) λo=>xr u o (Ae o Fo rfl) λo=>xq u.ld o (λw hl=>Af o isAgg3 rfl (hl.cellB t0 rfl)) λo=>xr u o (An o rfl rfl) λo=>?_
 iterate 2 refine xq u.ld o (λw hl=>Bp o rfl) λo=>?_
 refine xe<|tn<|th<|th<|rg<|qv o (Ae o Cm rfl) λo=>qv o (Af o isAgg3 rfl (u.ld.cellB t0 rfl)) λo=>qv o (Aq o rfl rfl) λo=>re<|tn<|Av (λa w=>∃ (U0:Int),(Z31 (Z2z N) ((Z33 (Z2z N) N Z30 p1 p6) I0) p1 A0 E0 C0) U0=some r∧Fr 135 [(0,SL F0 p1 D0),(1,i6 p6),(5,i6 E0),(6,i6 C0),(7,PT G0),(8,i6 U0),(9,i6 (IntKind.i64.wrap ((IntKind.i64.wrap (C0+1))+A0.Body)))] a∧St w0 Nil [H] [bk G0 [i6 A0.Kind,Ag A0.Reg,Ag A0.Name,SL Y0 A0.E S0,SL j0 A0.F T0,i6 A0.N,i6 A0.Body,i6 A0.Else,i6 A0.At] 140] w) ?_ ?_
 rcases bip hm with ⟨P0,hm⟩ | ⟨P0,hm⟩
 refine ctv o rfl P0<|rg<|qm o rfl λo=>qv o (An o rfl rfl) λo=>qa o rfl λo=>re<|tn<|?_
 exact ⟨(IntKind.i64.wrap (p6+1)),hm,o.hs,u⟩
 refine cfv o rfl P0<|wk<|tn<|?_
 exact ⟨p6,hm,o.hs,u⟩
 rintro a w ⟨U0,hm,o,u⟩
 unfold Z31 at hm
 refine th<|th<|rg<|qv o (Ae o Cm rfl) λo=>qv o (Af o isAgg3 rfl (u.ld.cellB t0 rfl)) λo=>qv o (Aq o rfl rfl) λo=>qm o rfl λo=>gr (Fk:=[(0,SL F0 p1 D0),(1,i6 p6),(5,i6 E0),(6,i6 C0),(7,PT G0),(8,i6 U0),(9,i6 (IntKind.i64.wrap ((IntKind.i64.wrap (C0+1))+A0.Body))),(101,.bool ((decide (A0.Kind=11)) || (decide (A0.Kind=12))))]) 97 4 o u ?_ ?_ ?_
 intro hb o key
 iterate 3 refine qn o λo=>?_
 exact qk o (Ac o rfl rfl) key u hb
 intro hb o key
 exact qg o (Ae o Cm rfl) λo=>qg o (Af o isAgg3 rfl (u.ld.cellB t0 rfl)) λo=>qg o (Aq o rfl rfl) λo=>qk o (Ad o rfl rfl) key u hb
 intro a w o u
 refine re<|tn<|Av (λa w=>∃ (V0:Int),(Z32 ((Z33 (Z2z N) N Z30 p1 p6) I0) A0 C0) V0=some r∧Fr 135 [(0,SL F0 p1 D0),(1,i6 p6),(5,i6 V0),(7,PT G0),(9,i6 (IntKind.i64.wrap ((IntKind.i64.wrap (C0+1))+A0.Body)))] a∧St w0 Nil [H] [bk G0 [i6 A0.Kind,Ag A0.Reg,Ag A0.Name,SL Y0 A0.E S0,SL j0 A0.F T0,i6 A0.N,i6 A0.Body,i6 A0.Else,i6 A0.At] 140] w) ?_ ?_
 rcases bit hm with ⟨Q0,hm⟩ | ⟨Q0,hm⟩
 refine ctv o rfl Q0<|th<|?_
 obtain ⟨C2,B1,hm⟩:=bs hm
 obtain ⟨Y1,R1,e30,e31,E1,F1⟩:=SR.sub (sz:=9) K0 J0 rfl B1
 obtain ⟨n0,P1,hm⟩:=bs hm
 obtain ⟨E2,C1,hm⟩:=bs hm
 obtain ⟨u1,S1,e40,e41,I1,J1⟩:=SR.sub (sz:=9) K0 J0 rfl C1
 obtain ⟨u0,Q1,hm⟩:=bs hm
 refine rdS 18 u wide λw u=>dr 0 u o rfl (Ab o rfl) λo=>dr 1 u o rfl (Ab o rfl) λo=>dr 2 u o rfl (An o rfl rfl) λo=>dr 3 u o rfl (Ab o rfl) λo=>dr 4 u o rfl (Dn (xs:=p1) (vl:=(IntKind.i64.wrap (C0+1))) (vh:=(IntKind.i64.wrap ((IntKind.i64.wrap (C0+1))+A0.Body))) o runUnderlying106 sizeOf140 rfl J0 rfl rfl B1 e30 e31) λo=>dr 5 u o rfl (Ab o rfl) λo=>dr 7 u o rfl (Ab o rfl) λo=>dr 8 u o rfl (Ab o rfl) λo=>dr 9 u o rfl (Ab o rfl) λo=>dr 10 u o rfl (Ae o Dq rfl) λo=>dq 11 u.ld o rfl (λw hl=>Af o isAgg3 rfl (hl.cellB t0 rfl)) λo=>dr 12 u o rfl (An o rfl rfl) λo=>dr 13 u o rfl (Dn (xs:=p1) (vl:=(IntKind.i64.wrap ((IntKind.i64.wrap (C0+1))+A0.Body))) (vh:=(IntKind.i64.wrap ((IntKind.i64.wrap ((IntKind.i64.wrap (C0+1))+A0.Body))+A0.Else))) o runUnderlying106 sizeOf140 rfl J0 rfl rfl C1 e40 e41) λo=>dr 14 u o rfl (Ab o rfl) λo=>da1 (i:=6) (by kernel_rfl) ?_
 refine di (i:=6) rfl<|cr o call150 (ih (Ah _) E1 (St.srH u F1) P1) u λu o=>⟨λ_=>u.ld,?_⟩
 refine da1 (i:=15) (by kernel_rfl) ?_
 refine di (i:=15) rfl<|cr o call150 (ih (Ah _) I1 (St.srH u J1) Q1) u λu o=>⟨λ_=>u.ld,?_⟩
 refine dr 16 u o rfl (Bp o rfl) λo=>dr 17 u o rfl (Bp o rfl) λo=>de (by kernel_rfl)<|tn<|th<|th<|rg<|qm o rfl λo=>qv o (Ak o rfl rfl) λo=>qm o rfl λo=>gr (Fk:=[(0,SL F0 p1 D0),(1,i6 p6),(5,i6 E0),(7,PT G0),(9,i6 (IntKind.i64.wrap ((IntKind.i64.wrap (C0+1))+A0.Body))),(10,i6 n0),(11,i6 u0),(123,.bool ((decide (n0 < 0)) || (decide (u0 < 0))))]) 120 3 o u ?_ ?_ ?_
 intro hb o key
 iterate 2 refine qn o λo=>?_
 exact qk o (Ac o rfl rfl) key u hb
 intro hb o key
 exact qg o (Ab o rfl) λo=>qg o (Ak o rfl rfl) λo=>qk o (Ad o rfl rfl) key u hb
 intro a w o u
 refine re<|?_
 rcases bit hm with ⟨R0,hm⟩ | ⟨R0,hm⟩
 refine tn<|ctv o rfl R0<|th<|rg<|qa o rfl λo=>re<|tn<|wr<|tr<|tr<|br<|tr<|br<|tr<|?_
 obtain rfl:=si hm
 exact r1 o results150 rfl ⟨rfl,u.keep⟩
 refine tn<|cfv o rfl R0<|wk<|tn<|rg<|qm o rfl λo=>qm o rfl λo=>qv o (An o rfl rfl) λo=>qm o rfl λo=>qv o (An o rfl rfl) λo=>qv o (JbC o rfl rfl rfl) λo=>qa o rfl λo=>re<|tn<|?_
 exact ⟨(max (max E0 (IntKind.i64.wrap (1+n0))) (IntKind.i64.wrap (1+u0))),hm,o.hs,u⟩
 refine cfv o rfl Q0<|wk<|tn<|?_
 exact ⟨E0,hm,o.hs,u⟩
 rintro a w ⟨V0,hm,o,u⟩
 unfold Z32 at hm
 refine rg<|qm o rfl λo=>qv o (Ae o Dq rfl) λo=>qv o (Af o isAgg3 rfl (u.ld.cellB t0 rfl)) λo=>qv o (An o rfl rfl) λo=>qa o rfl λo=>re<|bn<|tn<|?_
 replace u:=u.pickL .nil
 exact ⟨(I0,V0,(IntKind.i64.wrap ((IntKind.i64.wrap ((IntKind.i64.wrap (C0+1))+A0.Body))+A0.Else))),⟨hm,o.hs,u⟩,Nat.lt_succ_self _⟩
 refine tn<|cfv o rfl X0<|we<|tx<|tx<|bx<|tn<|?_
 exact ⟨E0,hm,o.has ⟨rfl,trivial⟩,u⟩
 rintro a w ⟨W0,hm,o,u⟩
 unfold Z30 at hm
 refine th<|rg<|qm o rfl λo=>qa o rfl λo=>re<|tn<|wr<|?_
 obtain rfl:=si hm
 exact r1 o results150 rfl ⟨rfl,u.keep⟩
end Go.LM.BINZ
