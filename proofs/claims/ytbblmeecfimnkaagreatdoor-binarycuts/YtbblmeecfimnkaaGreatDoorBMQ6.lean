/- Walks, lifted by program. No condition beyond the theorems' own premises. -/
import Derived.Test.YtbblmeecfimnkaaGreatDoorBMQ5
namespace Go.LM.BINZ
open Go Go.LL Go.MD Go.LM Go.Proofs Go.MD.BINZ Go.Proofs.Tryz
set_option maxRecDepth 100000
variable {N:Nat} {w0:World} {H:PH}
theorem Jaf:∀ (N:Nat) {w0:World} {H:PH} (hH:H.le w0) {F0:Option Addr} {D0:Nat} {p1:(List api_Stmt)} (C0:p1.length≤D0) (E0:SR H F0 p1) {r:Int} (hm:Z7k N p1=some r),Tot Tryz.prog 123 #[SL F0 p1 D0] w0 (λv w'=>v=i6 r∧Keep Nil w0 w'):=by
 intro N
 induction N with
  | zero=>intros;rename_i hm;simp [Z7k] at hm
  | succ N ih=>
 intro w0 H hH F0 D0 p1 C0 E0 r hm
 rw [Z7k] at hm
 refine fn0 func123 rfl ntmps123 rfl rfl λa o=>?_
 have u:St w0 Nil [H] [] w0:=start1 hH
 refine th<|rg<|qa o rfl λo=>re<|tn<|th<|th<|rg<|qm o rfl λo=>qv o (Aj (α:=api_Stmt) (xs:=p1) o runUnderlying106 rfl) λo=>qv o (Aq o rfl rfl) λo=>re<|?_
 rcases bip hm with ⟨M0,hm⟩ | ⟨M0,hm⟩
 refine tn<|ctv o rfl M0<|th<|rg<|qa o rfl λo=>re<|tn<|wr<|tr<|?_
 obtain rfl:=si hm
 exact r1 o results123 rfl ⟨rfl,u.keep⟩
 refine tn<|cfv o rfl M0<|wk<|tn<|th<|?_
 obtain ⟨A0,h8,hm⟩:=bs hm
 obtain ⟨cz9,O1,Y0⟩:=SR.get E0 h8
 obtain ⟨j0,P0,n0,Q0,rfl,u1,B2,C2,E2⟩:=Bs O1
 refine rg<|qm o rfl λo=>qv o (Al o runUnderlying106 sizeOf140 rfl rfl h8 (SR.oaI E0 (by decide) h8)) λo=>qv o (Ar o isAgg140 sizeOf140 rfl rfl (λj v hj=>PH.le.cell (Lds.le u.ld) (Y0 j v hj))) λo=>ls<|As (cs:=[i6 0,Ag [],Ag [],.slice none 0 0,.slice none 0 0,i6 0,i6 0,i6 0,i6 0].toArray) o rfl u zeroValue140 rfl λR0 w a u o=>ls<|Bb o u sizeOf140 rfl rfl rfl rfl (Ao rfl) .head λw u=>re<|tn<|th<|rxS 5 u wide (by kernel_rfl) λw u=>xr u o (Ae o Fo rfl) λo=>xq u.ld o (λw hl=>Af o isAgg3 rfl (hl.cellB t0 rfl)) λo=>xr u o (An o rfl rfl) λo=>?_
 iterate 2 refine xq u.ld o (λw hl=>Bp o rfl) λo=>?_
 refine xe<|tn<|th<|rg<|qm o rfl λo=>qv o (Ae o Dq rfl) λo=>qv o (Af o isAgg3 rfl (u.ld.cellB t0 rfl)) λo=>qv o (An o rfl rfl) λo=>qa o rfl λo=>re<|tn<|th<|th<|rg<|qv o (Ae o Cm rfl) λo=>qv o (Af o isAgg3 rfl (u.ld.cellB t0 rfl)) λo=>qv o (Aq o rfl rfl) λo=>re<|tn<|Av (λa w=>∃ (K0:Int),(Z7l (Z7k N) p1 A0) K0=some r∧Fr 53 [(0,SL F0 p1 D0),(3,PT R0),(4,i6 K0),(5,i6 (IntKind.i64.wrap (1+A0.Body))),(6,i6 (IntKind.i64.wrap ((IntKind.i64.wrap (1+A0.Body))+A0.Else)))] a∧St w0 Nil [H] [bk R0 [i6 A0.Kind,Ag A0.Reg,Ag A0.Name,SL j0 A0.E P0,SL n0 A0.F Q0,i6 A0.N,i6 A0.Body,i6 A0.Else,i6 A0.At] 140] w) ?_ ?_
 rcases bip hm with ⟨G0,hm⟩ | ⟨G0,hm⟩
 refine ctv o rfl G0<|th<|?_
 obtain ⟨K2,S0,hm⟩:=bs hm
 obtain ⟨F2,U1,e26,e27,u0,B1⟩:=SR.sub (sz:=9) E0 C0 rfl S0
 obtain ⟨T0,P1,hm⟩:=bs hm
 obtain ⟨O2,U0,hm⟩:=bs hm
 obtain ⟨G2,V1,e36,e37,C1,D1⟩:=SR.sub (sz:=9) E0 C0 rfl U0
 obtain ⟨V0,Q1,hm⟩:=bs hm
 refine rdS 12 u wide λw u=>dr 0 u o rfl (Ab o rfl) λo=>dr 1 u o rfl (Ab o rfl) λo=>dr 2 u o rfl (Dn (xs:=p1) (vl:=1) (vh:=(IntKind.i64.wrap (1+A0.Body))) o runUnderlying106 sizeOf140 rfl C0 rfl rfl S0 e26 e27) λo=>dr 5 u o rfl (Ab o rfl) λo=>dr 6 u o rfl (Ab o rfl) λo=>dr 7 u o rfl (Ab o rfl) λo=>dr 8 u o rfl (Dn (xs:=p1) (vl:=(IntKind.i64.wrap (1+A0.Body))) (vh:=(IntKind.i64.wrap ((IntKind.i64.wrap (1+A0.Body))+A0.Else))) o runUnderlying106 sizeOf140 rfl C0 rfl rfl U0 e36 e37) λo=>da1 (i:=3) (by kernel_rfl) ?_
 refine di (i:=3) rfl<|cr o call123 (ih (Ah _) u0 (St.srH u B1) P1) u λu o=>⟨λ_=>u.ld,?_⟩
 refine dr 4 u o rfl (An o rfl rfl) λo=>da1 (i:=9) (by kernel_rfl) ?_
 refine di (i:=9) rfl<|cr o call123 (ih (Ah _) C1 (St.srH u D1) Q1) u λu o=>⟨λ_=>u.ld,?_⟩
 refine dr 10 u o rfl (An o rfl rfl) λo=>dr 11 u o rfl (Bp o rfl) λo=>de (by kernel_rfl)<|tn<|th<|rg<|qv o (Ae o Dq rfl) λo=>qv o (Af o isAgg3 rfl (u.ld.cellB t0 rfl)) λo=>qv o (Ba o rfl rfl) λo=>re<|?_
 rcases bip hm with ⟨I0,hm⟩ | ⟨I0,hm⟩
 refine tn<|ctv o rfl I0<|rg<|qm o rfl λo=>qv o (An o rfl rfl) λo=>qa o rfl λo=>re<|tn<|?_
 exact ⟨(IntKind.i64.wrap ((IntKind.i64.wrap ((IntKind.i64.wrap (1+T0))+V0))+1)),hm,o.hs,u⟩
 refine tn<|cfv o rfl I0<|wk<|tn<|?_
 exact ⟨(IntKind.i64.wrap ((IntKind.i64.wrap (1+T0))+V0)),hm,o.hs,u⟩
 refine cfv o rfl G0<|wk<|tn<|?_
 exact ⟨1,hm,o.hs,u⟩
 rintro a w ⟨K0,hm,o,u⟩
 unfold Z7l at hm
 refine th<|th<|rg<|qv o (Ae o Cm rfl) λo=>qv o (Af o isAgg3 rfl (u.ld.cellB t0 rfl)) λo=>qv o (Aq o rfl rfl) λo=>re<|tn<|Av (λa w=>∃ (O0:Int),(Z7m (Z7k N) p1 A0) O0=some r∧Fr 53 [(0,SL F0 p1 D0),(4,i6 O0),(6,i6 (IntKind.i64.wrap ((IntKind.i64.wrap (1+A0.Body))+A0.Else)))] a∧St w0 Nil [H] [] w) ?_ ?_
 rcases bip hm with ⟨J0,hm⟩ | ⟨J0,hm⟩
 refine ctv o rfl J0<|?_
 obtain ⟨P2,W0,hm⟩:=bs hm
 obtain ⟨I2,X1,e48,e49,E1,F1⟩:=SR.sub (sz:=9) E0 C0 rfl W0
 obtain ⟨R1,S1,hm⟩:=bs hm
 refine rg<|qm o rfl λo=>qm o rfl λo=>qv o (Dn (xs:=p1) (vl:=1) (vh:=(IntKind.i64.wrap (1+A0.Body))) o runUnderlying106 sizeOf140 rfl C0 rfl rfl W0 e48 e49) λo=>ls<|cr o call123 (ih (Ah _) E1 (St.srH u F1) S1) u λu o=>qv o (An o rfl rfl) λo=>qa o rfl λo=>re<|tn<|?_
 replace u:=u.pickL .nil
 exact ⟨(IntKind.i64.wrap (2+R1)),hm,o.hs,u⟩
 refine cfv o rfl J0<|wk<|tn<|?_
 replace u:=u.pickL .nil
 exact ⟨K0,hm,o.hs,u⟩
 rintro a w ⟨O0,hm,o,u⟩
 unfold Z7m at hm
 refine th<|?_
 obtain ⟨Q2,X0,hm⟩:=bs hm
 obtain ⟨J2,Y1,e58,e59,I1,J1⟩:=SR.sub (sz:=9) E0 C0 rfl X0
 obtain ⟨R2,T1,hm⟩:=bs hm
 refine rg<|qm o rfl λo=>?_
 iterate 2 refine qm o rfl λo=>?_
 refine qv o (Dn (xs:=p1) (vl:=(IntKind.i64.wrap ((IntKind.i64.wrap (1+A0.Body))+A0.Else))) (vh:=(p1.length:Int)) o runUnderlying106 sizeOf140 rfl C0 rfl rfl X0 e58 e59) λo=>ls<|cr o call123 (ih (Ah _) I1 (St.srH u J1) T1) u λu o=>qv o (An o rfl rfl) λo=>qa o rfl λo=>re<|tn<|wr<|?_
 obtain rfl:=si hm
 exact r1 o results123 rfl ⟨rfl,u.keep⟩
set_option maxHeartbeats 4000000 in
theorem JcO (hH:H.le w0) {cs2:List Value} {p1:leadlineref09_Env} (g3:Enc.rep H cs2 p1) {cs5:List Value} {p4:api_Stmt} (g6:Enc.rep H cs5 p4) {r:api_Instr} (hm:Z6a N p1 p4=some r):Tot Tryz.prog 124 #[.agg cs2.toArray,.agg cs5.toArray] w0 (λv w'=>∃ (H':PH) (cs0:List Value),v=.agg cs0.toArray∧Enc.rep H' cs0 r∧Ext w0 H H'∧H'.le w'∧Keep Nil w0 w'):=by
 unfold Z6a at hm
 refine fn0 func124 rfl ntmps124 rfl rfl λa o=>?_
 have u:St w0 Nil [H] [] w0:=start1 hH
 have g7:Enc.rep (α:=api_Prog×(List Str)) H cs2 (p1.P,p1.Regs):=g3
 obtain ⟨qz8,qz9,rfl,O3,P3⟩:=g7
 obtain ⟨Q0,D0,R0,E0,S0,F0,T0,G0,U0,I0,V0,J0,rfl,R1,S1,T1,U1,V1,X1,Y1,u1,B2,C2,E2,F2⟩:=Bc O3
 obtain ⟨Y0,X0,rfl,G2,I2⟩:=P3
 obtain ⟨I1,u0,J1,B1,rfl,G3,I3,J3,K3⟩:=Bs g6
 refine th<|rg<|ls<|Br (cs:=[SL Q0 p1.P.Lines D0,SL R0 p1.P.Vols E0,SL S0 p1.P.Locks F0,SL T0 p1.P.Threads G0,SL U0 p1.P.Recover I0,SL V0 p1.P.Claims J0,SL Y0 p1.Regs X0].toArray) o rfl u rfl rfl λC1 w a u o=>ls<|Br (cs:=[i6 p4.Kind,Ag p4.Reg,Ag p4.Name,SL I1 p4.E u0,SL J1 p4.F B1,i6 p4.N,i6 p4.Body,i6 p4.Else,i6 p4.At].toArray) o rfl u rfl rfl λD1 w a u o=>ls<|As (cs:=[i6 0,i6 0,i6 0,.slice none 0 0,.slice none 0 0,i6 0].toArray) o rfl u zeroValue85 rfl λj0 w a u o=>re<|tn<|th<|?_
 obtain ⟨W0,Q3,hm⟩:=bs hm
 obtain ⟨E4,R3,hm⟩:=bs hm
 obtain ⟨Q1,S3,hm⟩:=bs hm
 refine rdS 14 u wide λw u=>dr 0 u o rfl (Ae o Lr rfl) λo=>dq 1 u.ld o rfl (λw hl=>Af o isAgg92 rfl (hl.cellB t2 rfl)) λo=>dr 2 u o rfl (Ae o Ek rfl) λo=>dq 3 u.ld o rfl (λw hl=>Af o isAgg9 rfl (hl.cellB t1 rfl)) λo=>dr 6 u o rfl (Ae o Ol rfl) λo=>dq 7 u.ld o rfl (λw hl=>Ar o isAgg48 sizeOf48 rfl rfl (Lds.cellsP (pre:=[]) (vs:=[SL Q0 p1.P.Lines D0,SL R0 p1.P.Vols E0,SL S0 p1.P.Locks F0,SL T0 p1.P.Threads G0,SL U0 p1.P.Recover I0,SL V0 p1.P.Claims J0]) (post:=[SL Y0 p1.Regs X0]) hl t2)) λo=>dr 9 u o rfl (Ae o Fj rfl) λo=>dq 10 u.ld o rfl (λw hl=>Af o isAgg9 rfl (hl.cellB t1 rfl)) λo=>da1 (i:=4) (by kernel_rfl) ?_
 refine di (i:=4) rfl<|cr o call90 (Fh (Ah _) G2 (St.srH u I2) Q3) u λu o=>⟨λ_=>u.ld,?_⟩
 refine dr 5 u o rfl (Pu o rfl rfl) λo=>da1 (i:=8) (by kernel_rfl) ?_
 refine di (i:=8) rfl<|c1 o rfl call59 (Oa (Ah _) (Enc.mono (St.up u) (show Enc.rep (α:=api_Prog) H [SL Q0 p1.P.Lines D0,SL R0 p1.P.Vols E0,SL S0 p1.P.Locks F0,SL T0 p1.P.Threads G0,SL U0 p1.P.Recover I0,SL V0 p1.P.Claims J0] p1.P from ⟨_,_,rfl,⟨_,_,rfl,R1,S1⟩,⟨_,_,rfl,⟨_,_,rfl,T1,U1⟩,⟨_,_,rfl,⟨_,_,rfl,V1,X1⟩,⟨_,_,rfl,⟨_,_,rfl,Y1,u1⟩,⟨_,_,rfl,⟨_,_,rfl,B2,C2⟩,⟨_,_,rfl,E2,F2⟩⟩⟩⟩⟩⟩)) R3) ⟨rfl,trivial⟩ (λv w a hR o=>?_)
 obtain ⟨A4,n3,B4,rfl,J2,hk⟩:=hR
 replace u:=u.fresh hk
 replace J2:=J2 H
 refine ⟨λ_=>(St.ldsX u i2 ta1),?_⟩
 refine da1 (i:=11) (by kernel_rfl) ?_
 refine di (i:=11) rfl<|cr o call90 (Fh (Ah _) (St.capO u t0) (St.srO u t0 J2) S3) u λu o=>⟨λ_=>(St.ldsX u i2 ta1),?_⟩
 refine ds 12 (St.ldsX u i2 ta1) o rfl (Bp o rfl) λo=>ds 13 (St.ldsX u i2 ta1) o rfl (Bp o rfl) λo=>de (by kernel_rfl)<|tn<|th<|?_
 obtain ⟨K0,T3,hm⟩:=bs hm
 refine rg<|qv o (Ae o Fs rfl) λo=>qv o (Af o isAgg96 rfl (u.ld.cellB t2 rfl)) λo=>qv o (Ae o Lr rfl) λo=>qv o (Af o isAgg92 rfl (u.ld.cellB t3 rfl)) λo=>ls<|c1 o rfl call58 (Uo (Ah _) G3 (St.srH u I3) G2 (St.srH u I2) T3) ⟨rfl,rfl,trivial⟩ (λv w a hR o=>?_)
 obtain ⟨O0,A0,O1,rfl,K2,hk⟩:=hR
 replace u:=u.fresh hk
 replace K2:=K2 H
 refine qm o rfl λo=>?_
 iterate 2 refine qv o (Dd o rfl rfl) λo=>?_
 iterate 2 refine qa o rfl λo=>?_
 refine re<|tn<|th<|?_
 obtain ⟨M0,U3,hm⟩:=bs hm
 refine rg<|qv o (Ae o Im rfl) λo=>qv o (Af o isAgg96 rfl (u.ld.cellB t3 rfl)) λo=>qv o (Ae o Lr rfl) λo=>qv o (Af o isAgg92 rfl (u.ld.cellB t4 rfl)) λo=>ls<|c1 o rfl call58 (Uo (Ah _) J3 (St.srH u K3) G2 (St.srH u I2) U3) ⟨rfl,rfl,trivial⟩ (λv w a hR o=>?_)
 obtain ⟨P0,C0,P1,rfl,O2,hk⟩:=hR
 replace u:=u.fresh hk
 replace O2:=O2 H
 refine qm o rfl λo=>?_
 iterate 2 refine qv o (Dd o rfl rfl) λo=>?_
 iterate 2 refine qa o rfl λo=>?_
 refine re<|tn<|th<|rg<|qv o (Ae o Cm rfl) λo=>qv o (Af o isAgg3 rfl (u.ld.cellB t4 rfl)) λo=>?_
 iterate 3 refine qm o rfl λo=>?_
 refine qv o (Bt [i6 p4.Kind,i6 (max 0 W0),SL O0 K0.1 A0,SL P0 M0.1 C0] [i6 p4.Kind,i6 (max 0 W0),i6 0,SL O0 K0.1 A0,SL P0 M0.1 C0,i6 0] o ⟨rfl,rfl,rfl,rfl,trivial⟩ (λw=>by kernel_rfl)) λo=>ls<|As (cs:=[i6 0,i6 0,i6 0,.slice none 0 0,.slice none 0 0,i6 0].toArray) o rfl u zeroValue85 rfl λn0 w a u o=>ls<|Bb o u sizeOf85 rfl rfl rfl rfl (Ao rfl) .head λw u=>re<|tn<|th<|th<|rg<|qv o (Ae o Cm rfl) λo=>qv o (Af o isAgg3 rfl (u.ld.cellB t5 rfl)) λo=>re<|tn<|Av (λa w=>∃ (E1:Int) (F1:Int),(Z6b W0 K0 M0) E1 F1=some r∧Fr 76 [(4,PT j0),(11,PT n0)] a∧St w0 Nil [H] [bk j0 [i6 0,i6 0,i6 0,.slice none 0 0,.slice none 0 0,i6 0] 85,sla 83 2 O0 K0.1.length A0 O1,sla 83 2 P0 M0.1.length C0 P1,bk n0 [i6 E1,i6 (max 0 W0),i6 F1,SL O0 K0.1 A0,SL P0 M0.1 C0,i6 0] 85] w) ?_ ?_
 refine wb<|th<|th<|rg<|qv o (Aq o rfl rfl) λo=>qa o rfl λo=>re<|tn<|Av (λa w=>∃ (A3:Bool),(Z6c N (Z6b W0 K0 M0) p1 p4 Q1) A3=some r∧Fr 76 [(2,PT C1),(3,PT D1),(4,PT j0),(6,i6 Q1),(11,PT n0),(47,i6 p4.Kind),(48,.bool A3)] a∧St w0 Nil [H] [bk C1 [SL Q0 p1.P.Lines D0,SL R0 p1.P.Vols E0,SL S0 p1.P.Locks F0,SL T0 p1.P.Threads G0,SL U0 p1.P.Recover I0,SL V0 p1.P.Claims J0,SL Y0 p1.Regs X0] 144,bk D1 [i6 p4.Kind,Ag p4.Reg,Ag p4.Name,SL I1 p4.E u0,SL J1 p4.F B1,i6 p4.N,i6 p4.Body,i6 p4.Else,i6 p4.At] 140,bk j0 [i6 0,i6 0,i6 0,.slice none 0 0,.slice none 0 0,i6 0] 85,sla 83 2 O0 K0.1.length A0 O1,sla 83 2 P0 M0.1.length C0 P1,bk n0 [i6 p4.Kind,i6 (max 0 W0),i6 0,SL O0 K0.1 A0,SL P0 M0.1 C0,i6 0] 85] w) ?_ ?_
 rcases bip hm with ⟨P2,hm⟩ | ⟨P2,hm⟩
 refine ctv o rfl P2<|wk<|tn<|?_
 replace u:=u.pk [6,5,4,2,1,0] rfl
 exact ⟨(decide (p4.Kind=2)),hm,o.hs,u⟩
 refine cfv o rfl P2<|th<|rg<|qv o (Aq o rfl rfl) λo=>qa o rfl λo=>re<|?_
 rcases bip hm with ⟨Q2,hm⟩ | ⟨Q2,hm⟩
 refine tn<|ctv o rfl Q2<|wk<|tn<|?_
 replace u:=u.pk [6,5,4,2,1,0] rfl
 exact ⟨(decide (p4.Kind=3)),hm,o.hs,u⟩
 refine tn<|cfv o rfl Q2<|rg<|qv o (Aq o rfl rfl) λo=>qa o rfl λo=>re<|tn<|?_
 replace u:=u.pk [6,5,4,2,1,0] rfl
 exact ⟨(decide (p4.Kind=4)),hm,o.hs,u⟩
 rintro a w ⟨A3,hm,o,u⟩
 unfold Z6c at hm
 rcases bit hm with ⟨R2,hm⟩ | ⟨R2,hm⟩
 refine ctv o rfl R2<|rg<|qm o rfl λo=>qv o (Ae o Ce rfl) λo=>ls<|Bz o u sizeOf3 rfl rfl rfl rfl (.tail (.tail (.tail (.tail (.tail .head))))) (.succ (.succ .zero)) λw u=>re<|bn<|tn<|?_
 replace u:=u.pk [2,2,2,2] rfl
 exact ⟨p4.Kind,Q1,hm,o.has ⟨rfl,rfl,trivial⟩,u⟩
 refine cfv o rfl R2<|th<|th<|rg<|qv o (Aq o rfl rfl) λo=>qa o rfl λo=>re<|tn<|Av (λa w=>∃ (B3:Bool),(Z6d N (Z6b W0 K0 M0) p1 p4 Q1) B3=some r∧Fr 76 [(2,PT C1),(3,PT D1),(4,PT j0),(6,i6 Q1),(11,PT n0),(47,i6 p4.Kind),(54,.bool B3)] a∧St w0 Nil [H] [bk C1 [SL Q0 p1.P.Lines D0,SL R0 p1.P.Vols E0,SL S0 p1.P.Locks F0,SL T0 p1.P.Threads G0,SL U0 p1.P.Recover I0,SL V0 p1.P.Claims J0,SL Y0 p1.Regs X0] 144,bk D1 [i6 p4.Kind,Ag p4.Reg,Ag p4.Name,SL I1 p4.E u0,SL J1 p4.F B1,i6 p4.N,i6 p4.Body,i6 p4.Else,i6 p4.At] 140,bk j0 [i6 0,i6 0,i6 0,.slice none 0 0,.slice none 0 0,i6 0] 85,sla 83 2 O0 K0.1.length A0 O1,sla 83 2 P0 M0.1.length C0 P1,bk n0 [i6 p4.Kind,i6 (max 0 W0),i6 0,SL O0 K0.1 A0,SL P0 M0.1 C0,i6 0] 85] w) ?_ ?_
 rcases bip hm with ⟨T2,hm⟩ | ⟨T2,hm⟩
 refine ctv o rfl T2<|wk<|tn<|?_
 exact ⟨(decide (p4.Kind=5)),hm,o.hs,u⟩
 refine cfv o rfl T2<|rg<|qv o (Aq o rfl rfl) λo=>qa o rfl λo=>re<|tn<|?_
 exact ⟨(decide (p4.Kind=6)),hm,o.hs,u⟩
 rintro a w ⟨B3,hm,o,u⟩
 unfold Z6d at hm
 rcases bit hm with ⟨U2,hm⟩ | ⟨U2,hm⟩
 refine ctv o rfl U2<|?_
 obtain ⟨V3,W3,hm⟩:=bs hm
 refine rg<|qv o (Ae o Ol rfl) λo=>qv o (Ar o isAgg48 sizeOf48 rfl rfl (Lds.cellsP (pre:=[]) (vs:=[SL Q0 p1.P.Lines D0,SL R0 p1.P.Vols E0,SL S0 p1.P.Locks F0,SL T0 p1.P.Threads G0,SL U0 p1.P.Recover I0,SL V0 p1.P.Claims J0]) (post:=[SL Y0 p1.Regs X0]) u.ld t0)) λo=>qm o rfl λo=>ls<|cr o call56 (Jbt (Ah _) (Enc.mono (St.up u) (show Enc.rep (α:=api_Prog) H [SL Q0 p1.P.Lines D0,SL R0 p1.P.Vols E0,SL S0 p1.P.Locks F0,SL T0 p1.P.Threads G0,SL U0 p1.P.Recover I0,SL V0 p1.P.Claims J0] p1.P from ⟨_,_,rfl,⟨_,_,rfl,R1,S1⟩,⟨_,_,rfl,⟨_,_,rfl,T1,U1⟩,⟨_,_,rfl,⟨_,_,rfl,V1,X1⟩,⟨_,_,rfl,⟨_,_,rfl,Y1,u1⟩,⟨_,_,rfl,⟨_,_,rfl,B2,C2⟩,⟨_,_,rfl,E2,F2⟩⟩⟩⟩⟩⟩)) W3) u λu o=>qv o (Ae o Ce rfl) λo=>ls<|Bz o u sizeOf3 rfl rfl rfl rfl (.tail (.tail (.tail (.tail (.tail .head))))) (.succ (.succ .zero)) λw u=>re<|bn<|tn<|?_
 replace u:=u.pk [2,2,2,2] rfl
 exact ⟨p4.Kind,V3,hm,o.has ⟨rfl,rfl,trivial⟩,u⟩
 refine cfv o rfl U2<|th<|th<|rg<|qv o (Aq o rfl rfl) λo=>qa o rfl λo=>re<|tn<|Av (λa w=>∃ (C3:Bool),(Z6e N (Z6b W0 K0 M0) p1 p4) C3=some r∧Fr 76 [(2,PT C1),(3,PT D1),(4,PT j0),(11,PT n0),(47,i6 p4.Kind),(62,.bool C3)] a∧St w0 Nil [H] [bk C1 [SL Q0 p1.P.Lines D0,SL R0 p1.P.Vols E0,SL S0 p1.P.Locks F0,SL T0 p1.P.Threads G0,SL U0 p1.P.Recover I0,SL V0 p1.P.Claims J0,SL Y0 p1.Regs X0] 144,bk D1 [i6 p4.Kind,Ag p4.Reg,Ag p4.Name,SL I1 p4.E u0,SL J1 p4.F B1,i6 p4.N,i6 p4.Body,i6 p4.Else,i6 p4.At] 140,bk j0 [i6 0,i6 0,i6 0,.slice none 0 0,.slice none 0 0,i6 0] 85,sla 83 2 O0 K0.1.length A0 O1,sla 83 2 P0 M0.1.length C0 P1,bk n0 [i6 p4.Kind,i6 (max 0 W0),i6 0,SL O0 K0.1 A0,SL P0 M0.1 C0,i6 0] 85] w) ?_ ?_
 rcases bip hm with ⟨V2,hm⟩ | ⟨V2,hm⟩
 refine ctv o rfl V2<|wk<|tn<|?_
 exact ⟨(decide (p4.Kind=9)),hm,o.hs,u⟩
 refine cfv o rfl V2<|rg<|qv o (Aq o rfl rfl) λo=>qa o rfl λo=>re<|tn<|?_
 exact ⟨(decide (p4.Kind=10)),hm,o.hs,u⟩
 rintro a w ⟨C3,hm,o,u⟩
 unfold Z6e at hm
 rcases bit hm with ⟨W2,hm⟩ | ⟨W2,hm⟩
 refine ctv o rfl W2<|?_
 obtain ⟨F4,X3,hm⟩:=bs hm
 obtain ⟨Y3,l3,hm⟩:=bs hm
 refine rdS 7 u wide λw u=>dr 0 u o rfl (Ae o Ol rfl) λo=>dq 1 u.ld o rfl (λw hl=>Ar o isAgg48 sizeOf48 rfl rfl (Lds.cellsP (pre:=[]) (vs:=[SL Q0 p1.P.Lines D0,SL R0 p1.P.Vols E0,SL S0 p1.P.Locks F0,SL T0 p1.P.Threads G0,SL U0 p1.P.Recover I0,SL V0 p1.P.Claims J0]) (post:=[SL Y0 p1.Regs X0]) hl t0)) λo=>dr 3 u o rfl (Ae o Fj rfl) λo=>dq 4 u.ld o rfl (λw hl=>Af o isAgg9 rfl (hl.cellB t1 rfl)) λo=>da1 (i:=2) (by kernel_rfl) ?_
 refine di (i:=2) rfl<|c1 o rfl call91 (Wp (Ah _) (Enc.mono (St.up u) (show Enc.rep (α:=api_Prog) H [SL Q0 p1.P.Lines D0,SL R0 p1.P.Vols E0,SL S0 p1.P.Locks F0,SL T0 p1.P.Threads G0,SL U0 p1.P.Recover I0,SL V0 p1.P.Claims J0] p1.P from ⟨_,_,rfl,⟨_,_,rfl,R1,S1⟩,⟨_,_,rfl,⟨_,_,rfl,T1,U1⟩,⟨_,_,rfl,⟨_,_,rfl,V1,X1⟩,⟨_,_,rfl,⟨_,_,rfl,Y1,u1⟩,⟨_,_,rfl,⟨_,_,rfl,B2,C2⟩,⟨_,_,rfl,E2,F2⟩⟩⟩⟩⟩⟩)) X3) ⟨rfl,trivial⟩ (λv w a hR o=>?_)
 obtain ⟨C4,u3,D4,rfl,X2,hk⟩:=hR
 replace u:=u.fresh hk
 replace X2:=X2 H
 refine ⟨λ_=>(St.ldsX u i2 ta1),?_⟩
 refine da1 (i:=5) (by kernel_rfl) ?_
 refine di (i:=5) rfl<|cr o call90 (Fh (Ah _) (St.capO u t0) (St.srO u t0 X2) l3) u λu o=>⟨λ_=>(St.ldsX u i2 ta1),?_⟩
 refine ds 6 (St.ldsX u i2 ta1) o rfl (Ae o Ce rfl) λo=>da1 (i:=7) (by kernel_rfl) ?_
 refine di (i:=7) rfl<|Bz o u sizeOf3 rfl rfl rfl rfl (.tail (.tail (.tail (.tail (.tail (.tail .head)))))) (.succ (.succ .zero)) λw u=>⟨λh=>absurd rfl h,?_⟩
 refine de (by kernel_rfl)<|bn<|tn<|?_
 replace u:=u.pk [3,3,3,3] rfl
 exact ⟨p4.Kind,Y3,hm,o.has ⟨rfl,rfl,trivial⟩,u⟩
 refine cfv o rfl W2<|th<|rg<|qv o (Aq o rfl rfl) λo=>qa o rfl λo=>re<|?_
 rcases bip hm with ⟨Y2,hm⟩ | ⟨Y2,hm⟩
 refine tn<|ctv o rfl Y2<|rg<|qv o (Ae o Ca rfl) λo=>ls<|Bz o u sizeOf3 rfl rfl rfl rfl (.tail (.tail (.tail (.tail (.tail .head))))) .zero λw u=>re<|bn<|tn<|?_
 replace u:=u.pk [2,2,2,2] rfl
 exact ⟨15,0,hm,o.has ⟨rfl,rfl,trivial⟩,u⟩
 refine tn<|cfv o rfl Y2<|wk<|bn<|tn<|?_
 replace u:=u.pk [2,2,2,2] rfl
 exact ⟨p4.Kind,0,hm,o.has ⟨rfl,rfl,trivial⟩,u⟩
 rintro a w ⟨E1,F1,hm,o,u⟩
 unfold Z6b at hm
 refine th<|rg<|qv o (Ar o Tryz.isAgg85 Tryz.sizeOf85 rfl rfl (u.ld.cellsB t3)) λo=>ls<|Bb o u sizeOf85 rfl rfl rfl rfl (Ao rfl) .head λw u=>re<|tn<|wr<|?_
 obtain ⟨H99,D3,L3,M3,u⟩:=St.frzS u (.tail .head) K2
 obtain ⟨H103,u2,E3,F3,u⟩:=St.frzS u (.tail .head) (O2.mono D3.sub)
 obtain rfl:=si hm
 exact r1c (vs:=[i6 E1,i6 (max 0 W0),i6 F1,SL O0 K0.1 A0,SL P0 M0.1 C0,i6 0]) (.inl rfl) o results124 rfl isAgg85 sizeOf85 rfl (u.ld.cellsB t0) ⟨H103,_,rfl,(show Enc.rep (α:=api_Instr) H103 [i6 E1,i6 (max 0 W0),i6 F1,SL O0 K0.1 A0,SL P0 M0.1 C0,i6 0] (api_Instr.mk E1 (max 0 W0) F1 K0.1 M0.1 0) from ⟨_,_,rfl,rfl,⟨_,_,rfl,rfl,⟨_,_,rfl,rfl,⟨_,_,rfl,⟨_,_,rfl,M3,(L3.mono u2.sub)⟩,⟨_,_,rfl,⟨_,_,rfl,F3,E3⟩,rfl⟩⟩⟩⟩⟩),(Ext.trans D3 u2),(St.le u),u.keep⟩
set_option maxHeartbeats 4000000 in
theorem Jdn:∀ (N:Nat) {w0:World} {H:PH} (hH:H.le w0) {cs2:List Value} {p1:leadlineref09_Env} (g3:Enc.rep H cs2 p1) {I2:Option Addr} {F1:Nat} {p4:(List api_Stmt)} (O1:p4.length≤F1) (J2:SR H I2 p4) {p9:Int} {p10:Int} {p11:Int} {r:(List api_Instr)} (hm:Z66 N p1 p4 p9 p10 p11=some r),Tot Tryz.prog 96 #[.agg cs2.toArray,SL I2 p4 F1,i6 p9,i6 p10,i6 p11] w0 (λv w'=>∃ (H':PH) (j5:Option Addr) (Q3:Nat),v=SL j5 r Q3∧r.length≤Q3∧SR H' j5 r∧Ext w0 H H'∧H'.le w'∧Keep Nil w0 w'):=by
 intro N
 induction N with
  | zero=>intros;rename_i hm;simp [Z66] at hm
  | succ N ih=>
 intro w0 H hH cs2 p1 g3 I2 F1 p4 O1 J2 p9 p10 p11 r hm
 rw [Z66] at hm
 refine fn0 func96 rfl ntmps96 rfl rfl λa o=>?_
 have u:St w0 Nil [H] [] w0:=start1 hH
 have K7:Enc.rep (α:=api_Prog×(List Str)) H cs2 (p1.P,p1.Regs):=g3
 obtain ⟨q13,q14,rfl,L7,M7⟩:=K7
 obtain ⟨S0,G0,T0,I0,U0,J0,V0,K0,W0,M0,X0,O0,rfl,P1,Q1,R1,S1,T1,U1,V1,X1,Y1,u1,B2,C2⟩:=Bc L7
 obtain ⟨Y0,P0,rfl,I1,J1⟩:=M7
 refine th<|rg<|ls<|Br (cs:=[SL S0 p1.P.Lines G0,SL T0 p1.P.Vols I0,SL U0 p1.P.Locks J0,SL V0 p1.P.Threads K0,SL W0 p1.P.Recover M0,SL X0 p1.P.Claims O0,SL Y0 p1.Regs P0].toArray) o rfl u rfl rfl λK2 w a u o=>qa o rfl λo=>re<|tn<|th<|th<|rg<|qm o rfl λo=>qv o (Aj (α:=api_Stmt) (xs:=p4) o runUnderlying106 rfl) λo=>qv o (Aq o rfl rfl) λo=>re<|?_
 rcases bip hm with ⟨B3,hm⟩ | ⟨B3,hm⟩
 refine tn<|ctv o rfl B3<|th<|rg<|qa o rfl λo=>re<|tn<|wr<|tr<|?_
 obtain rfl:=si hm
 exact r1 o results96 rfl ⟨H,_,_,rfl,(Nat.le_refl 0),(SR.nil _ _),(Ext.refl _ _),(St.le u),u.keep⟩
 refine tn<|cfv o rfl B3<|wk<|tn<|th<|?_
 obtain ⟨A0,R3,hm⟩:=bs hm
 obtain ⟨W8,O7,D6⟩:=SR.get J2 R3
 obtain ⟨S3,K3,T3,L3,rfl,U3,V3,E6,F6⟩:=Bs O7
 refine rg<|qm o rfl λo=>qv o (Al o runUnderlying106 sizeOf140 rfl rfl R3 (SR.oaI J2 (by decide) R3)) λo=>qv o (Ar o isAgg140 sizeOf140 rfl rfl (λj v hj=>PH.le.cell (Lds.le u.ld) (D6 j v hj))) λo=>ls<|As (cs:=[i6 0,Ag [],Ag [],.slice none 0 0,.slice none 0 0,i6 0,i6 0,i6 0,i6 0].toArray) o rfl u zeroValue140 rfl λl5 w a u o=>ls<|Bb o u sizeOf140 rfl rfl rfl rfl (Ao rfl) .head λw u=>re<|tn<|th<|rg<|qv o (Ae o Fo rfl) λo=>qv o (Af o isAgg3 rfl (u.ld.cellB t0 rfl)) λo=>qv o (An o rfl rfl) λo=>qa o rfl λo=>re<|tn<|th<|rg<|qm o rfl λo=>qv o (Ae o Dq rfl) λo=>qv o (Af o isAgg3 rfl (u.ld.cellB t0 rfl)) λo=>qv o (An o rfl rfl) λo=>qa o rfl λo=>re<|tn<|th<|?_
 obtain ⟨n5,u5,hm⟩:=bs hm
 obtain ⟨G6,F4,e65,e66,P2,Q2⟩:=SR.sub (sz:=9) J2 O1 rfl u5
 obtain ⟨M3,A6,hm⟩:=bs hm
 obtain ⟨W3,O3,e73,e74,X3,Y3⟩:=SR.sub (sz:=9) J2 O1 rfl A6
 refine rxS 9 u wide (by kernel_rfl) λw u=>?_
 iterate 2 refine xq u.ld o (λw hl=>Ab o rfl) λo=>?_
 refine xr u o (Dn (xs:=p4) (vl:=1) (vh:=(IntKind.i64.wrap (1+A0.Body))) o runUnderlying106 sizeOf140 rfl O1 rfl rfl u5 e65 e66) λo=>?_
 iterate 3 refine xq u.ld o (λw hl=>Ab o rfl) λo=>?_
 refine xr u o (Dn (xs:=p4) (vl:=(IntKind.i64.wrap (1+A0.Body))) (vh:=(IntKind.i64.wrap ((IntKind.i64.wrap (1+A0.Body))+A0.Else))) o runUnderlying106 sizeOf140 rfl O1 rfl rfl A6 e73 e74) λo=>?_
 iterate 2 refine xq u.ld o (λw hl=>Bp o rfl) λo=>?_
 refine xe<|tn<|th<|rg<|ls<|Bj (e:=85) (sz:=6) [] o rfl u rfl rfl rfl (λw=>by kernel_rfl) λB6 w a u o=>?_
 have R2:Rows (α:=api_Instr) H [] []:=.nil
 refine qa o rfl λo=>re<|tn<|th<|th<|rg<|qv o (Ae o Cm rfl) λo=>qv o (Af o isAgg3 rfl (u.ld.cellB t1 rfl)) λo=>re<|tn<|Av (λa w=>∃ (E2:(List api_Instr)) (A3:PH) (C3:Option Addr) (T2:Nat) (D3:List Value),(Z67 (Z66 N) p1 p4 p9 p10 p11 A0) E2=some r∧Ext w0 H A3∧Fr 156 [(1,SL I2 p4 F1),(2,i6 p9),(3,i6 p10),(4,i6 p11),(5,PT K2),(13,i6 (IntKind.i64.wrap ((IntKind.i64.wrap (1+A0.Body))+A0.Else))),(16,SL C3 E2 T2)] a∧St w0 Nil [A3] [bk K2 [SL S0 p1.P.Lines G0,SL T0 p1.P.Vols I0,SL U0 p1.P.Locks J0,SL V0 p1.P.Threads K0,SL W0 p1.P.Recover M0,SL X0 p1.P.Claims O0,SL Y0 p1.Regs P0] 144,sla 85 6 C3 E2.length T2 D3] w∧Rows A3 D3 E2) ?_ ?_
 refine wb<|th<|rg<|qv o (Aq o rfl rfl) λo=>qa o rfl λo=>re<|?_
 rcases bip hm with ⟨E3,hm⟩ | ⟨E3,hm⟩
 refine tn<|ctv o rfl E3<|th<|?_
 obtain ⟨n0,P7,hm⟩:=bs hm
 refine rg<|qv o (Ae o Fs rfl) λo=>qv o (Af o isAgg96 rfl (u.ld.cellB t1 rfl)) λo=>qv o (Ae o Lr rfl) λo=>qv o (Af o isAgg92 rfl (u.ld.cellB t2 rfl)) λo=>ls<|c1 o rfl call58 (Uo (Ah _) U3 (St.srH u V3) I1 (St.srH u J1) P7) ⟨rfl,rfl,trivial⟩ (λv w a hR o=>?_)
 obtain ⟨u0,j0,I6,rfl,F3,hk⟩:=hR
 replace u:=u.fresh hk
 replace F3:=F3 H
 refine qm o rfl λo=>?_
 iterate 2 refine qv o (Dd o rfl rfl) λo=>?_
 iterate 2 refine qa o rfl λo=>?_
 refine re<|tn<|th<|?_
 obtain ⟨C6,Q7,hm⟩:=bs hm
 refine rg<|qm o rfl λo=>qv o (An o rfl rfl) λo=>qm o rfl λo=>ls<|cr o call123 (Jaf _ (Ah _) P2 (St.srH u Q2) Q7) u λu o=>qv o (An o rfl rfl) λo=>qa o rfl λo=>re<|tn<|th<|th<|rg<|qv o (Ae o Dq rfl) λo=>qv o (Af o isAgg3 rfl (u.ld.cellB t2 rfl)) λo=>qv o (Ba o rfl rfl) λo=>re<|tn<|Av (λa w=>∃ (F0:Int),(Z68 (Z66 N) N (Z67 (Z66 N) p1 p4 p9 p10 p11 A0) p1 p9 p10 p11 A0 n5 M3 n0) F0=some r∧Fr 156 [(1,SL I2 p4 F1),(2,i6 p9),(3,i6 p10),(4,i6 p11),(5,PT K2),(11,PT l5),(13,i6 (IntKind.i64.wrap ((IntKind.i64.wrap (1+A0.Body))+A0.Else))),(14,SL G6 n5 F4),(15,SL W3 M3 O3),(16,.slice (some ⟨B6,0,none⟩) 0 0),(17,SL u0 n0.1 j0),(19,i6 F0)] a∧St w0 Nil [H] [bk K2 [SL S0 p1.P.Lines G0,SL T0 p1.P.Vols I0,SL U0 p1.P.Locks J0,SL V0 p1.P.Threads K0,SL W0 p1.P.Recover M0,SL X0 p1.P.Claims O0,SL Y0 p1.Regs P0] 144,bk l5 [i6 A0.Kind,Ag A0.Reg,Ag A0.Name,SL S3 A0.E K3,SL T3 A0.F L3,i6 A0.N,i6 A0.Body,i6 A0.Else,i6 A0.At] 140,sla 85 6 (some ⟨B6,0,none⟩) 0 0 [],sla 83 2 u0 n0.1.length j0 I6] w) ?_ ?_
 rcases bip hm with ⟨G3,hm⟩ | ⟨G3,hm⟩
 refine ctv o rfl G3<|rg<|qm o rfl λo=>qv o (An o rfl rfl) λo=>qa o rfl λo=>re<|tn<|?_
 replace u:=u.pk [3,2,1,0] rfl
 exact ⟨(IntKind.i64.wrap ((IntKind.i64.wrap ((IntKind.i64.wrap (p9+1))+C6))+1)),hm,o.hs,u⟩
 refine cfv o rfl G3<|wk<|tn<|?_
 replace u:=u.pk [3,2,1,0] rfl
 exact ⟨(IntKind.i64.wrap ((IntKind.i64.wrap (p9+1))+C6)),hm,o.hs,u⟩
 rintro a w ⟨F0,hm,o,u⟩
 unfold Z68 at hm
 refine th<|?_
 obtain ⟨R7,S7,hm⟩:=bs hm
 refine rg<|qm o rfl λo=>?_
 iterate 2 refine qm o rfl λo=>?_
 refine qv o (Bt [i6 12,SL u0 n0.1 j0,i6 F0] [i6 12,i6 0,i6 0,SL u0 n0.1 j0,.slice none 0 0,i6 F0] o ⟨rfl,rfl,rfl,trivial⟩ (λw=>by kernel_rfl)) λo=>?_
 obtain ⟨H94,D0,J6,K6,u⟩:=St.frzS u (.tail (.tail (.tail .head))) F3
 refine ls<|Bj (e:=85) (sz:=6) [i6 12,i6 0,i6 0,SL u0 n0.1 j0,.slice none 0 0,i6 F0] o rfl u rfl rfl rfl (λw=>by kernel_rfl) λX8 w a u o=>?_
 have L6:Rows (α:=api_Instr) H94 [i6 12,i6 0,i6 0,SL u0 n0.1 j0,.slice none 0 0,i6 F0] ([(api_Instr.mk 12 0 0 n0.1 [] F0)]:List api_Instr):=(.cons (c:=[i6 12,i6 0,i6 0,SL u0 n0.1 j0,.slice none 0 0,i6 F0]) ⟨_,_,rfl,rfl,⟨_,_,rfl,rfl,⟨_,_,rfl,rfl,⟨_,_,rfl,⟨_,_,rfl,K6,J6⟩,⟨_,_,rfl,⟨none,0,rfl,Nat.le_refl _,SR.nil _ _⟩,rfl⟩⟩⟩⟩⟩ .nil)
 refine ls<|Bv (α:=api_Instr) (xs:=[]) (ys:=([(api_Instr.mk 12 0 0 n0.1 [] F0)]:List api_Instr)) o rfl u underlying24 Ge rfl (by decide) rfl rfl rfl t3 (R2.mono D0.sub) (u.rdO t0) L6 S7 λl7 T7 n7 w a G4 hU o=>?_
 replace u:=hU _ (.tail (.tail (.tail .head)))
 replace u:=u.drop .head
 refine qa o rfl λo=>re<|tn<|th<|?_
 obtain ⟨M6,O6,hm⟩:=bs hm
 obtain ⟨l3,P6,hm⟩:=bs hm
 refine rg<|qm o rfl λo=>qv o (Ar o isAgg144 sizeOf144 rfl rfl (u.ld.cellsB t0)) λo=>?_
 iterate 2 refine qm o rfl λo=>?_
 refine qv o (An o rfl rfl) λo=>?_
 iterate 2 refine qm o rfl λo=>?_
 refine ls<|c1 o rfl call96 (ih (St.le u) (show Enc.rep (α:=leadlineref09_Env) H94 [SL S0 p1.P.Lines G0,SL T0 p1.P.Vols I0,SL U0 p1.P.Locks J0,SL V0 p1.P.Threads K0,SL W0 p1.P.Recover M0,SL X0 p1.P.Claims O0,SL Y0 p1.Regs P0] p1 from ⟨_,_,rfl,⟨_,_,rfl,⟨_,_,rfl,P1,(Q1.mono D0.sub)⟩,⟨_,_,rfl,⟨_,_,rfl,R1,(S1.mono D0.sub)⟩,⟨_,_,rfl,⟨_,_,rfl,T1,(U1.mono D0.sub)⟩,⟨_,_,rfl,⟨_,_,rfl,V1,(X1.mono D0.sub)⟩,⟨_,_,rfl,⟨_,_,rfl,Y1,(u1.mono D0.sub)⟩,⟨_,_,rfl,B2,(C2.mono D0.sub)⟩⟩⟩⟩⟩⟩,⟨_,_,rfl,I1,(J1.mono D0.sub)⟩⟩) P2 (Q2.mono D0.sub) O6) ⟨rfl,rfl,rfl,rfl,rfl,trivial⟩ (λv w a hR o=>?_)
 obtain ⟨H109,u7,U7,rfl,v7,I4,E0,J4,hk⟩:=hR
 obtain ⟨u,E0⟩:=And.intro (St.passH u hk E0 J4) (St.extc u E0)
 obtain ⟨us120,hd121,hu122⟩:=id I4
 refine ls<|Bv (α:=api_Instr) (xs:=R7) (ys:=M6) o rfl u underlying24 Ge rfl (by decide) rfl rfl rfl t2 (G4.mono E0.sub) (u.rdH t0 hd121) hu122 P6 λK4 n3 L4 w a P3 hU o=>?_
 replace u:=hU _ (.tail (.tail .head))
 refine qa o rfl λo=>re<|tn<|th<|th<|rg<|qv o (Ae o Dq rfl) λo=>qv o (Af o isAgg3 rfl (u.ld.cellB t1 rfl)) λo=>qv o (Ba o rfl rfl) λo=>re<|tn<|Av (λa w=>∃ (O2:(List api_Instr)) (I3:Option Addr) (U2:Nat) (J3:List Value),(Z69 (Z66 N) (Z67 (Z66 N) p1 p4 p9 p10 p11 A0) p1 p10 p11 M3 F0) O2=some r∧Fr 156 [(1,SL I2 p4 F1),(2,i6 p9),(3,i6 p10),(4,i6 p11),(5,PT K2),(13,i6 (IntKind.i64.wrap ((IntKind.i64.wrap (1+A0.Body))+A0.Else))),(15,SL W3 M3 O3),(16,SL I3 O2 U2),(19,i6 F0)] a∧St w0 Nil [H109] [bk K2 [SL S0 p1.P.Lines G0,SL T0 p1.P.Vols I0,SL U0 p1.P.Locks J0,SL V0 p1.P.Threads K0,SL W0 p1.P.Recover M0,SL X0 p1.P.Claims O0,SL Y0 p1.Regs P0] 144,sla 85 6 I3 O2.length U2 J3] w∧Rows H109 J3 O2) ?_ ?_
 rcases bip hm with ⟨V2,hm⟩ | ⟨V2,hm⟩
 refine ctv o rfl V2<|?_
 obtain ⟨B1,Q6,hm⟩:=bs hm
 obtain ⟨R6,S6,hm⟩:=bs hm
 refine rg<|qm o rfl λo=>?_
 iterate 2 refine qm o rfl λo=>?_
 refine ls<|cr o call123 (Jaf _ (Ah _) X3 (St.srH u (Y3.mono (cp E0.sub D0.sub))) Q6) u λu o=>qv o (An o rfl rfl) λo=>qv o (Bt [i6 11,i6 (IntKind.i64.wrap (F0+B1))] [i6 11,i6 0,i6 0,.slice none 0 0,.slice none 0 0,i6 (IntKind.i64.wrap (F0+B1))] o ⟨rfl,rfl,trivial⟩ (λw=>by kernel_rfl)) λo=>ls<|Bj (e:=85) (sz:=6) [i6 11,i6 0,i6 0,.slice none 0 0,.slice none 0 0,i6 (IntKind.i64.wrap (F0+B1))] o rfl u rfl rfl rfl (λw=>by kernel_rfl) λO8 w a u o=>?_
 have M4:Rows (α:=api_Instr) H109 [i6 11,i6 0,i6 0,.slice none 0 0,.slice none 0 0,i6 (IntKind.i64.wrap (F0+B1))] ([(api_Instr.mk 11 0 0 [] [] (IntKind.i64.wrap (F0+B1)))]:List api_Instr):=(.cons (c:=[i6 11,i6 0,i6 0,.slice none 0 0,.slice none 0 0,i6 (IntKind.i64.wrap (F0+B1))]) ⟨_,_,rfl,rfl,⟨_,_,rfl,rfl,⟨_,_,rfl,rfl,⟨_,_,rfl,⟨none,0,rfl,Nat.le_refl _,SR.nil _ _⟩,⟨_,_,rfl,⟨none,0,rfl,Nat.le_refl _,SR.nil _ _⟩,rfl⟩⟩⟩⟩⟩ .nil)
 refine ls<|Bv (α:=api_Instr) (xs:=l3) (ys:=([(api_Instr.mk 11 0 0 [] [] (IntKind.i64.wrap (F0+B1)))]:List api_Instr)) o rfl u underlying24 Ge rfl (by decide) rfl rfl rfl t3 P3 (u.rdO t0) M4 S6 λO4 u3 P4 w a Q4 hU o=>?_
 replace u:=hU _ (.tail (.tail (.tail .head)))
 replace u:=u.drop .head
 refine qa o rfl λo=>re<|tn<|?_
 replace u:=u.pk [0,1] rfl
 exact ⟨R6,O4,u3,P4,hm,o.hs,u,Q4⟩
 refine cfv o rfl V2<|wk<|tn<|?_
 replace u:=u.pk [0,1] rfl
 exact ⟨l3,K4,n3,L4,hm,o.hs,u,P3⟩
 rintro a w ⟨O2,I3,U2,J3,hm,o,u,T6⟩
 unfold Z69 at hm
 obtain ⟨U6,V6,hm⟩:=bs hm
 obtain ⟨W6,X6,hm⟩:=bs hm
 refine rg<|qm o rfl λo=>qv o (Ar o isAgg144 sizeOf144 rfl rfl (u.ld.cellsB t0)) λo=>?_
 iterate 4 refine qm o rfl λo=>?_
 refine ls<|c1 o rfl call96 (ih (St.le u) (show Enc.rep (α:=leadlineref09_Env) H109 [SL S0 p1.P.Lines G0,SL T0 p1.P.Vols I0,SL U0 p1.P.Locks J0,SL V0 p1.P.Threads K0,SL W0 p1.P.Recover M0,SL X0 p1.P.Claims O0,SL Y0 p1.Regs P0] p1 from ⟨_,_,rfl,⟨_,_,rfl,⟨_,_,rfl,P1,(Q1.mono (cp E0.sub D0.sub))⟩,⟨_,_,rfl,⟨_,_,rfl,R1,(S1.mono (cp E0.sub D0.sub))⟩,⟨_,_,rfl,⟨_,_,rfl,T1,(U1.mono (cp E0.sub D0.sub))⟩,⟨_,_,rfl,⟨_,_,rfl,V1,(X1.mono (cp E0.sub D0.sub))⟩,⟨_,_,rfl,⟨_,_,rfl,Y1,(u1.mono (cp E0.sub D0.sub))⟩,⟨_,_,rfl,B2,(C2.mono (cp E0.sub D0.sub))⟩⟩⟩⟩⟩⟩,⟨_,_,rfl,I1,(J1.mono (cp E0.sub D0.sub))⟩⟩) X3 (Y3.mono (cp E0.sub D0.sub)) V6) ⟨rfl,rfl,rfl,rfl,rfl,trivial⟩ (λv w a hR o=>?_)
 obtain ⟨H140,z7,V7,rfl,A8,R4,C1,S4,hk⟩:=hR
 obtain ⟨u,C1⟩:=And.intro (St.passH u hk C1 S4) (St.extc u C1)
 obtain ⟨us151,hd152,hu153⟩:=id R4
 refine ls<|Bv (α:=api_Instr) (xs:=O2) (ys:=U6) o rfl u underlying24 Ge rfl (by decide) rfl rfl rfl t1 (T6.mono C1.sub) (u.rdH t0 hd152) hu153 X6 λT4 A4 U4 w a V4 hU o=>?_
 replace u:=hU _ (.tail .head)
 refine qa o rfl λo=>re<|bn<|tn<|?_
 exact ⟨W6,H140,T4,A4,U4,hm,(Ext.trans D0 (Ext.trans E0 C1)),o.hs,u,V4⟩
 refine tn<|cfv o rfl E3<|th<|rg<|qv o (Aq o rfl rfl) λo=>qa o rfl λo=>re<|?_
 rcases bip hm with ⟨W2,hm⟩ | ⟨W2,hm⟩
 refine tn<|ctv o rfl W2<|th<|?_
 obtain ⟨P8,Y6,hm⟩:=bs hm
 refine rg<|qm o rfl λo=>qv o (An o rfl rfl) λo=>qm o rfl λo=>ls<|cr o call123 (Jaf _ (Ah _) P2 (St.srH u Q2) Y6) u λu o=>qv o (An o rfl rfl) λo=>qa o rfl λo=>re<|tn<|th<|?_
 obtain ⟨d6,j6,hm⟩:=bs hm
 refine rg<|qm o rfl λo=>qm o rfl λo=>qv o (Ae o Kc rfl) λo=>qv o (Af o isAgg3 rfl (u.ld.cellB t1 rfl)) λo=>qv o (Bt [i6 13,i6 p10,i6 A0.N] [i6 13,i6 p10,i6 A0.N,.slice none 0 0,.slice none 0 0,i6 0] o ⟨rfl,rfl,rfl,trivial⟩ (λw=>by kernel_rfl)) λo=>ls<|Bj (e:=85) (sz:=6) [i6 13,i6 p10,i6 A0.N,.slice none 0 0,.slice none 0 0,i6 0] o rfl u rfl rfl rfl (λw=>by kernel_rfl) λQ8 w a u o=>?_
 have W4:Rows (α:=api_Instr) H [i6 13,i6 p10,i6 A0.N,.slice none 0 0,.slice none 0 0,i6 0] ([(api_Instr.mk 13 p10 A0.N [] [] 0)]:List api_Instr):=(.cons (c:=[i6 13,i6 p10,i6 A0.N,.slice none 0 0,.slice none 0 0,i6 0]) ⟨_,_,rfl,rfl,⟨_,_,rfl,rfl,⟨_,_,rfl,rfl,⟨_,_,rfl,⟨none,0,rfl,Nat.le_refl _,SR.nil _ _⟩,⟨_,_,rfl,⟨none,0,rfl,Nat.le_refl _,SR.nil _ _⟩,rfl⟩⟩⟩⟩⟩ .nil)
 refine ls<|Bv (α:=api_Instr) (xs:=[]) (ys:=([(api_Instr.mk 13 p10 A0.N [] [] 0)]:List api_Instr)) o rfl u underlying24 Ge rfl (by decide) rfl rfl rfl t1 R2 (u.rdO t0) W4 j6 λB8 W7 C8 w a X4 hU o=>?_
 replace u:=hU _ (.tail .head)
 replace u:=u.drop .head
 refine qa o rfl λo=>re<|tn<|th<|?_
 obtain ⟨k6,l6,hm⟩:=bs hm
 obtain ⟨n6,u6,hm⟩:=bs hm
 refine rg<|qm o rfl λo=>qv o (Ar o isAgg144 sizeOf144 rfl rfl (u.ld.cellsB t2)) λo=>?_
 iterate 2 refine qm o rfl λo=>?_
 refine qv o (An o rfl rfl) λo=>qm o rfl λo=>qv o (An o rfl rfl) λo=>qm o rfl λo=>ls<|c1 o rfl call96 (ih (St.le u) (show Enc.rep (α:=leadlineref09_Env) H [SL S0 p1.P.Lines G0,SL T0 p1.P.Vols I0,SL U0 p1.P.Locks J0,SL V0 p1.P.Threads K0,SL W0 p1.P.Recover M0,SL X0 p1.P.Claims O0,SL Y0 p1.Regs P0] p1 from ⟨_,_,rfl,⟨_,_,rfl,⟨_,_,rfl,P1,Q1⟩,⟨_,_,rfl,⟨_,_,rfl,R1,S1⟩,⟨_,_,rfl,⟨_,_,rfl,T1,U1⟩,⟨_,_,rfl,⟨_,_,rfl,V1,X1⟩,⟨_,_,rfl,⟨_,_,rfl,Y1,u1⟩,⟨_,_,rfl,B2,C2⟩⟩⟩⟩⟩⟩,⟨_,_,rfl,I1,J1⟩⟩) P2 Q2 l6) ⟨rfl,rfl,rfl,rfl,rfl,trivial⟩ (λv w a hR o=>?_)
 obtain ⟨H171,D8,X7,rfl,E8,Y4,D1,d4,hk⟩:=hR
 obtain ⟨u,D1⟩:=And.intro (St.passH u hk D1 d4) (St.extc u D1)
 obtain ⟨us182,hd183,hu184⟩:=id Y4
 refine ls<|Bv (α:=api_Instr) (xs:=d6) (ys:=k6) o rfl u underlying24 Ge rfl (by decide) rfl rfl rfl t0 (X4.mono D1.sub) (u.rdH t0 hd183) hu184 u6 λF8 Y7 G8 w a l4 hU o=>?_
 replace u:=hU _ .head
 refine qa o rfl λo=>re<|tn<|?_
 obtain ⟨v6,y6,hm⟩:=bs hm
 refine rg<|qm o rfl λo=>?_
 iterate 2 refine qm o rfl λo=>?_
 refine qv o (An o rfl rfl) λo=>qv o (Bt [i6 14,i6 p10,i6 (IntKind.i64.wrap (p9+1))] [i6 14,i6 p10,i6 0,.slice none 0 0,.slice none 0 0,i6 (IntKind.i64.wrap (p9+1))] o ⟨rfl,rfl,rfl,trivial⟩ (λw=>by kernel_rfl)) λo=>ls<|Bj (e:=85) (sz:=6) [i6 14,i6 p10,i6 0,.slice none 0 0,.slice none 0 0,i6 (IntKind.i64.wrap (p9+1))] o rfl u rfl rfl rfl (λw=>by kernel_rfl) λR8 w a u o=>?_
 have u4:Rows (α:=api_Instr) H171 [i6 14,i6 p10,i6 0,.slice none 0 0,.slice none 0 0,i6 (IntKind.i64.wrap (p9+1))] ([(api_Instr.mk 14 p10 0 [] [] (IntKind.i64.wrap (p9+1)))]:List api_Instr):=(.cons (c:=[i6 14,i6 p10,i6 0,.slice none 0 0,.slice none 0 0,i6 (IntKind.i64.wrap (p9+1))]) ⟨_,_,rfl,rfl,⟨_,_,rfl,rfl,⟨_,_,rfl,rfl,⟨_,_,rfl,⟨none,0,rfl,Nat.le_refl _,SR.nil _ _⟩,⟨_,_,rfl,⟨none,0,rfl,Nat.le_refl _,SR.nil _ _⟩,rfl⟩⟩⟩⟩⟩ .nil)
 refine ls<|Bv (α:=api_Instr) (xs:=n6) (ys:=([(api_Instr.mk 14 p10 0 [] [] (IntKind.i64.wrap (p9+1)))]:List api_Instr)) o rfl u underlying24 Ge rfl (by decide) rfl rfl rfl t1 l4 (u.rdO t0) u4 y6 λA5 B4 B5 w a C5 hU o=>?_
 replace u:=hU _ (.tail .head)
 replace u:=u.drop .head
 refine qa o rfl λo=>re<|bn<|tn<|?_
 replace u:=u.pk [2,0] rfl
 exact ⟨v6,H171,A5,B4,B5,hm,D1,o.hs,u,C5⟩
 refine tn<|cfv o rfl W2<|th<|rg<|qv o (Aq o rfl rfl) λo=>qa o rfl λo=>re<|?_
 rcases bip hm with ⟨X2,hm⟩ | ⟨X2,hm⟩
 refine tn<|ctv o rfl X2<|?_
 obtain ⟨z6,A7,hm⟩:=bs hm
 refine rg<|qm o rfl λo=>qm o rfl λo=>qv o (Bt [i6 11,i6 p11] [i6 11,i6 0,i6 0,.slice none 0 0,.slice none 0 0,i6 p11] o ⟨rfl,rfl,trivial⟩ (λw=>by kernel_rfl)) λo=>ls<|Bj (e:=85) (sz:=6) [i6 11,i6 0,i6 0,.slice none 0 0,.slice none 0 0,i6 p11] o rfl u rfl rfl rfl (λw=>by kernel_rfl) λS8 w a u o=>?_
 have D5:Rows (α:=api_Instr) H [i6 11,i6 0,i6 0,.slice none 0 0,.slice none 0 0,i6 p11] ([(api_Instr.mk 11 0 0 [] [] p11)]:List api_Instr):=(.cons (c:=[i6 11,i6 0,i6 0,.slice none 0 0,.slice none 0 0,i6 p11]) ⟨_,_,rfl,rfl,⟨_,_,rfl,rfl,⟨_,_,rfl,rfl,⟨_,_,rfl,⟨none,0,rfl,Nat.le_refl _,SR.nil _ _⟩,⟨_,_,rfl,⟨none,0,rfl,Nat.le_refl _,SR.nil _ _⟩,rfl⟩⟩⟩⟩⟩ .nil)
 refine ls<|Bv (α:=api_Instr) (xs:=[]) (ys:=([(api_Instr.mk 11 0 0 [] [] p11)]:List api_Instr)) o rfl u underlying24 Ge rfl (by decide) rfl rfl rfl t1 R2 (u.rdO t0) D5 A7 λE5 C4 F5 w a G5 hU o=>?_
 replace u:=hU _ (.tail .head)
 replace u:=u.drop .head
 refine qa o rfl λo=>re<|bn<|tn<|?_
 replace u:=u.pk [2,0] rfl
 exact ⟨z6,H,E5,C4,F5,hm,(Ext.refl _ _),o.hs,u,G5⟩
 refine tn<|cfv o rfl X2<|?_
 obtain ⟨C0,B7,hm⟩:=bs hm
 obtain ⟨C7,D7,hm⟩:=bs hm
 refine rg<|qm o rfl λo=>qv o (Ar o isAgg144 sizeOf144 rfl rfl (u.ld.cellsB t2)) λo=>qv o (Ar o isAgg140 sizeOf140 rfl rfl (u.ld.cellsB t1)) λo=>ls<|c1 o rfl call124 (JcO (St.le u) (show Enc.rep (α:=leadlineref09_Env) H [SL S0 p1.P.Lines G0,SL T0 p1.P.Vols I0,SL U0 p1.P.Locks J0,SL V0 p1.P.Threads K0,SL W0 p1.P.Recover M0,SL X0 p1.P.Claims O0,SL Y0 p1.Regs P0] p1 from ⟨_,_,rfl,⟨_,_,rfl,⟨_,_,rfl,P1,Q1⟩,⟨_,_,rfl,⟨_,_,rfl,R1,S1⟩,⟨_,_,rfl,⟨_,_,rfl,T1,U1⟩,⟨_,_,rfl,⟨_,_,rfl,V1,X1⟩,⟨_,_,rfl,⟨_,_,rfl,Y1,u1⟩,⟨_,_,rfl,B2,C2⟩⟩⟩⟩⟩⟩,⟨_,_,rfl,I1,J1⟩⟩) (show Enc.rep (α:=api_Stmt) H [i6 A0.Kind,Ag A0.Reg,Ag A0.Name,SL S3 A0.E K3,SL T3 A0.F L3,i6 A0.N,i6 A0.Body,i6 A0.Else,i6 A0.At] A0 from ⟨_,_,rfl,rfl,⟨_,_,rfl,rfl,⟨_,_,rfl,rfl,⟨_,_,rfl,⟨_,_,rfl,U3,V3⟩,⟨_,_,rfl,⟨_,_,rfl,E6,F6⟩,⟨_,_,rfl,rfl,⟨_,_,rfl,rfl,⟨_,_,rfl,rfl,rfl⟩⟩⟩⟩⟩⟩⟩⟩) B7) ⟨rfl,rfl,trivial⟩ (λv w a hR o=>?_)
 obtain ⟨H209,cs210,rfl,E7,E1,I5,hk⟩:=hR
 obtain ⟨u,E1⟩:=And.intro (St.passH u hk E1 I5) (St.extc u E1)
 obtain ⟨Y2,F2,u2,G2,rfl,J5,K5,L5,M5⟩:=Au E7
 refine ls<|Bj (e:=85) (sz:=6) [i6 C0.Kind,i6 C0.A,i6 C0.B,SL Y2 C0.E F2,SL u2 C0.F G2,i6 C0.To] o rfl u rfl rfl rfl (λw=>by kernel_rfl) λT8 w a u o=>?_
 have O5:Rows (α:=api_Instr) H209 [i6 C0.Kind,i6 C0.A,i6 C0.B,SL Y2 C0.E F2,SL u2 C0.F G2,i6 C0.To] ([C0]:List api_Instr):=(.cons (c:=[i6 C0.Kind,i6 C0.A,i6 C0.B,SL Y2 C0.E F2,SL u2 C0.F G2,i6 C0.To]) ⟨_,_,rfl,rfl,⟨_,_,rfl,rfl,⟨_,_,rfl,rfl,⟨_,_,rfl,⟨_,_,rfl,J5,K5⟩,⟨_,_,rfl,⟨_,_,rfl,L5,M5⟩,rfl⟩⟩⟩⟩⟩ .nil)
 refine ls<|Bv (α:=api_Instr) (xs:=[]) (ys:=([C0]:List api_Instr)) o rfl u underlying24 Ge rfl (by decide) rfl rfl rfl t1 (R2.mono E1.sub) (u.rdO t0) O5 D7 λP5 D4 Q5 w a R5 hU o=>?_
 replace u:=hU _ (.tail .head)
 replace u:=u.drop .head
 refine qa o rfl λo=>re<|bn<|tn<|?_
 replace u:=u.pk [2,0] rfl
 exact ⟨C7,H209,P5,D4,Q5,hm,E1,o.hs,u,R5⟩
 rintro a w ⟨E2,A3,C3,T2,D3,hm,Q0,o,u,F7⟩
 unfold Z67 at hm
 refine th<|?_
 obtain ⟨U8,E4,hm⟩:=bs hm
 obtain ⟨I8,d7,e233,e234,S5,T5⟩:=SR.sub (sz:=9) J2 O1 rfl E4
 obtain ⟨G7,I7,hm⟩:=bs hm
 obtain ⟨V8,J7,hm⟩:=bs hm
 refine rdL (Aa t0 Ai) 14 u wide λw u=>ds 0 (St.ldsX u i2 (Aa t0 Ai)) o rfl (Ab o rfl) λo=>dq 1 (St.ldsX u i2 (Aa t0 Ai)) o rfl (λw hl=>Ar o isAgg144 sizeOf144 rfl rfl (hl.cellsB t0)) λo=>ds 2 (St.ldsX u i2 (Aa t0 Ai)) o rfl (Ab o rfl) λo=>ds 3 (St.ldsX u i2 (Aa t0 Ai)) o rfl (Ab o rfl) λo=>ds 4 (St.ldsX u i2 (Aa t0 Ai)) o rfl (Dn (xs:=p4) (vl:=(IntKind.i64.wrap ((IntKind.i64.wrap (1+A0.Body))+A0.Else))) (vh:=(p4.length:Int)) o runUnderlying106 sizeOf140 rfl O1 rfl rfl E4 e233 e234) λo=>ds 5 (St.ldsX u i2 (Aa t0 Ai)) o rfl (Ab o rfl) λo=>ds 6 (St.ldsX u i2 (Aa t0 Ai)) o rfl (Ab o rfl) λo=>ds 7 (St.ldsX u i2 (Aa t0 Ai)) o rfl (Aj (α:=api_Instr) (xs:=E2) o runUnderlying24 rfl) λo=>ds 8 (St.ldsX u i2 (Aa t0 Ai)) o rfl (An o rfl rfl) λo=>ds 9 (St.ldsX u i2 (Aa t0 Ai)) o rfl (Ab o rfl) λo=>ds 10 (St.ldsX u i2 (Aa t0 Ai)) o rfl (Ab o rfl) λo=>da1 (i:=11) (by kernel_rfl) ?_
 refine di (i:=11) rfl<|c1 o rfl call96 (ih (St.le u) (show Enc.rep (α:=leadlineref09_Env) A3 [SL S0 p1.P.Lines G0,SL T0 p1.P.Vols I0,SL U0 p1.P.Locks J0,SL V0 p1.P.Threads K0,SL W0 p1.P.Recover M0,SL X0 p1.P.Claims O0,SL Y0 p1.Regs P0] p1 from ⟨_,_,rfl,⟨_,_,rfl,⟨_,_,rfl,P1,(Q1.mono Q0.sub)⟩,⟨_,_,rfl,⟨_,_,rfl,R1,(S1.mono Q0.sub)⟩,⟨_,_,rfl,⟨_,_,rfl,T1,(U1.mono Q0.sub)⟩,⟨_,_,rfl,⟨_,_,rfl,V1,(X1.mono Q0.sub)⟩,⟨_,_,rfl,⟨_,_,rfl,Y1,(u1.mono Q0.sub)⟩,⟨_,_,rfl,B2,(C2.mono Q0.sub)⟩⟩⟩⟩⟩⟩,⟨_,_,rfl,I1,(J1.mono Q0.sub)⟩⟩) S5 (T5.mono Q0.sub) I7) ⟨rfl,rfl,rfl,rfl,rfl,trivial⟩ (λv w a hR o=>?_)
 obtain ⟨H242,J8,j7,rfl,K8,U5,R0,V5,hk⟩:=hR
 obtain ⟨u,R0⟩:=And.intro (St.passH u hk R0 V5) (St.extc u R0)
 refine ⟨λ_=>(St.ldsX u R0.sub (Aa t0 Ai)),?_⟩
 refine da1 (i:=12) (by kernel_rfl) ?_
 obtain ⟨us253,hd254,hu255⟩:=id U5
 refine di (i:=12) rfl<|Bv (α:=api_Instr) (xs:=E2) (ys:=G7) o rfl u underlying24 Ge rfl (by decide) rfl rfl rfl t1 (F7.mono R0.sub) (u.rdH t0 hd254) hu255 J7 λL8 k7 M8 w a W5 hU o=>?_
 replace u:=hU _ (.tail .head)
 refine ⟨λ_=>(St.ldsX u R0.sub (Aa t0 Ai)),?_⟩
 refine ds 13 (St.ldsX u R0.sub (Aa t0 Ai)) o rfl (Bp o rfl) λo=>de (by kernel_rfl)<|tn<|th<|rg<|qm o rfl λo=>qa o rfl λo=>re<|tn<|wr<|?_
 obtain ⟨H259,X5,Y5,d5,u⟩:=St.frzS u (.tail .head) W5
 obtain rfl:=si hm
 exact r1 o results96 rfl ⟨H259,_,_,rfl,d5,Y5,(Ext.trans Q0 (Ext.trans R0 X5)),(St.le u),u.keep⟩
theorem Jba (hH:H.le w0) {cs2:List Value} {p1:api_Prog} (g3:Enc.rep H cs2 p1) {cs5:List Value} {p4:api_Thread} (g6:Enc.rep H cs5 p4) {r:api_Code} (hm:Z7n N p1 p4=some r):Tot Tryz.prog 57 #[.agg cs2.toArray,.agg cs5.toArray] w0 (λv w'=>∃ (H':PH) (cs0:List Value),v=.agg cs0.toArray∧Enc.rep H' cs0 r∧Ext w0 H H'∧H'.le w'∧Keep Nil w0 w'):=by
 unfold Z7n at hm
 refine fn0 func57 rfl ntmps57 rfl rfl λa o=>?_
 have u:St w0 Nil [H] [] w0:=start1 hH
 obtain ⟨W0,K0,M0,C0,O0,D0,P0,E0,Q0,F0,R0,G0,rfl,X1,n0,u0,B1,C1,D1,E1,F1,I1,J1,O1,P1⟩:=Bc g3
 obtain ⟨S0,I0,Q1,j0,rfl,R1,S1,X0,Y0⟩:=Bg g6
 refine th<|rg<|ls<|Br (cs:=[SL W0 p1.Lines K0,SL M0 p1.Vols C0,SL O0 p1.Locks D0,SL P0 p1.Threads E0,SL Q0 p1.Recover F0,SL R0 p1.Claims G0].toArray) o rfl u rfl rfl λB2 w a u o=>ls<|Br (cs:=[Ag p4.Name,SL S0 p4.Regs I0,SL Q1 p4.Body j0,i6 p4.At].toArray) o rfl u rfl rfl λC2 w a u o=>ls<|As (cs:=[i6 0,i6 0,.slice none 0 0].toArray) o rfl u zeroValue26 rfl λE2 w a u o=>re<|tn<|th<|rg<|qv o (Ar o Tryz.isAgg48 Tryz.sizeOf48 rfl rfl (u.ld.cellsB t2)) λo=>qv o (Ae o Cp rfl) λo=>qv o (Af o isAgg92 rfl (u.ld.cellB t1 rfl)) λo=>qv o (Bt [.agg #[SL W0 p1.Lines K0,SL M0 p1.Vols C0,SL O0 p1.Locks D0,SL P0 p1.Threads E0,SL Q0 p1.Recover F0,SL R0 p1.Claims G0],SL S0 p4.Regs I0] [SL W0 p1.Lines K0,SL M0 p1.Vols C0,SL O0 p1.Locks D0,SL P0 p1.Threads E0,SL Q0 p1.Recover F0,SL R0 p1.Claims G0,SL S0 p4.Regs I0] o ⟨rfl,rfl,trivial⟩ (λw=>by kernel_rfl)) λo=>ls<|As (cs:=[.slice none 0 0,.slice none 0 0,.slice none 0 0,.slice none 0 0,.slice none 0 0,.slice none 0 0,.slice none 0 0].toArray) o rfl u zeroValue144 rfl λF2 w a u o=>ls<|Bb o u sizeOf144 rfl rfl rfl rfl (Ao rfl) .head λw u=>re<|tn<|th<|?_
 obtain ⟨U0,Y1,hm⟩:=bs hm
 obtain ⟨V0,u1,hm⟩:=bs hm
 refine rdS 11 u wide λw u=>dr 0 u o rfl (Ae o Cp rfl) λo=>dq 1 u.ld o rfl (λw hl=>Af o isAgg92 rfl (hl.cellB t2 rfl)) λo=>dr 2 u o rfl (Aj (α:=Str) (xs:=p4.Regs) o runUnderlying92 rfl) λo=>dr 3 u o rfl (Ae o Hv rfl) λo=>dq 4 u.ld o rfl (λw hl=>Af o isAgg106 rfl (hl.cellB t2 rfl)) λo=>dq 6 u.ld o rfl (λw hl=>Ar o isAgg144 sizeOf144 rfl rfl (hl.cellsB t0)) λo=>dr 7 u o rfl (Ae o Hv rfl) λo=>dq 8 u.ld o rfl (λw hl=>Af o isAgg106 rfl (hl.cellB t2 rfl)) λo=>da1 (i:=5) (by kernel_rfl) ?_
 refine di (i:=5) rfl<|cr o call95 (JcM _ (Ah _) X0 (St.srH u Y0) Y1) u λu o=>⟨λ_=>u.ld,?_⟩
 refine da1 (i:=9) (by kernel_rfl) ?_
 refine di (i:=9) rfl<|c1 o rfl call96 (Jdn _ (St.le u) (show Enc.rep (α:=leadlineref09_Env) H [SL W0 p1.Lines K0,SL M0 p1.Vols C0,SL O0 p1.Locks D0,SL P0 p1.Threads E0,SL Q0 p1.Recover F0,SL R0 p1.Claims G0,SL S0 p4.Regs I0] (leadlineref09_Env.mk p1 p4.Regs) from ⟨_,_,rfl,⟨_,_,rfl,⟨_,_,rfl,X1,n0⟩,⟨_,_,rfl,⟨_,_,rfl,u0,B1⟩,⟨_,_,rfl,⟨_,_,rfl,C1,D1⟩,⟨_,_,rfl,⟨_,_,rfl,E1,F1⟩,⟨_,_,rfl,⟨_,_,rfl,I1,J1⟩,⟨_,_,rfl,O1,P1⟩⟩⟩⟩⟩⟩,⟨_,_,rfl,R1,S1⟩⟩) X0 Y0 u1) ⟨rfl,rfl,rfl,rfl,rfl,trivial⟩ (λv w a hR o=>?_)
 obtain ⟨H50,T0,J0,rfl,T1,U1,A0,V1,hk⟩:=hR
 obtain ⟨u,A0⟩:=And.intro (St.passH u hk A0 V1) (St.extc u A0)
 refine ⟨λ_=>(St.ldsX u A0.sub i1),?_⟩
 refine dq 10 (St.ldsX u A0.sub i1) o rfl (λw hl=>Bt [i6 (p4.Regs.length:Int),i6 U0,SL T0 V0 J0] [i6 (p4.Regs.length:Int),i6 U0,SL T0 V0 J0] o ⟨rfl,rfl,rfl,trivial⟩ (λw=>by kernel_rfl)) λo=>da1 (i:=11) (by kernel_rfl) ?_
 refine di (i:=11) rfl<|Bb o u sizeOf26 rfl rfl rfl rfl (Ao rfl) (.tail .head) λw u=>⟨λh=>absurd rfl h,?_⟩
 refine de (by kernel_rfl)<|tn<|wr<|?_
 obtain rfl:=si hm
 exact r1c (vs:=[i6 (p4.Regs.length:Int),i6 U0,SL T0 V0 J0]) (.inl rfl) o results57 rfl isAgg26 sizeOf26 rfl (u.ld.cellsB t1) ⟨H50,_,rfl,(show Enc.rep (α:=api_Code) H50 [i6 (p4.Regs.length:Int),i6 U0,SL T0 V0 J0] (api_Code.mk (p4.Regs.length:Int) U0 V0) from ⟨_,_,rfl,rfl,⟨_,_,rfl,rfl,⟨_,_,rfl,T1,U1⟩⟩⟩),A0,(St.le u),u.keep⟩
set_option maxHeartbeats 4000000 in
theorem Jc3 (hH:H.le w0) {cs2:List Value} {p1:api_Prog} (g3:Enc.rep H cs2 p1) {r:(api_Unit×Int)} (hm:Z6u N p1=some r):Tot Tryz.prog 20 #[.agg cs2.toArray] w0 (λv w'=>∃ (H':PH) (cs0:List Value),v=.tuple #[.agg cs0.toArray,i6 r.2]∧Enc.rep H' cs0 r.1∧Ext w0 H H'∧H'.le w'∧Keep Nil w0 w'):=by
 unfold Z6u at hm
 refine fn0 func20 rfl ntmps20 rfl rfl λa o=>?_
 have u:St w0 Nil [H] [] w0:=start1 hH
 obtain ⟨D1,T0,E1,U0,V0,F0,W0,G0,X0,I0,Y0,J0,rfl,Y2,u2,X1,Y1,u1,B2,C2,I1,E2,J1,F2,O1⟩:=Bc g3
 refine th<|rg<|ls<|Br (cs:=[SL D1 p1.Lines T0,SL E1 p1.Vols U0,SL V0 p1.Locks F0,SL W0 p1.Threads G0,SL X0 p1.Recover I0,SL Y0 p1.Claims J0].toArray) o rfl u rfl rfl λU1 w a u o=>ls<|As (cs:=[.slice none 0 0,i6 0,.slice none 0 0,i6 0,.slice none 0 0,i6 0,i6 0,.slice none 0 0,.slice none 0 0].toArray) o rfl u zeroValue29 rfl λQ1 w a u o=>qa o rfl λo=>re<|tn<|th<|?_
 obtain ⟨G8,R7,hm⟩:=bs hm
 refine rg<|qv o (Ar o Tryz.isAgg48 Tryz.sizeOf48 rfl rfl (u.ld.cellsB t1)) λo=>ls<|cr o call53 (Jdv (Ah _) (Enc.mono (St.up u) (show Enc.rep (α:=api_Prog) H [SL D1 p1.Lines T0,SL E1 p1.Vols U0,SL V0 p1.Locks F0,SL W0 p1.Threads G0,SL X0 p1.Recover I0,SL Y0 p1.Claims J0] p1 from ⟨_,_,rfl,⟨_,_,rfl,Y2,u2⟩,⟨_,_,rfl,⟨_,_,rfl,X1,Y1⟩,⟨_,_,rfl,⟨_,_,rfl,u1,B2⟩,⟨_,_,rfl,⟨_,_,rfl,C2,I1⟩,⟨_,_,rfl,⟨_,_,rfl,E2,J1⟩,⟨_,_,rfl,F2,O1⟩⟩⟩⟩⟩⟩)) R7) u λu o=>qm o rfl λo=>?_
 iterate 2 refine qv o (Dd o rfl rfl) λo=>?_
 iterate 2 refine qa o rfl λo=>?_
 refine re<|tn<|th<|th<|rg<|qm o rfl λo=>qv o (Bh o rfl rfl) λo=>re<|?_
 rcases bip hm with ⟨T4,hm⟩ | ⟨T4,hm⟩
 refine tn<|ctv o rfl T4<|th<|rg<|qv o (Bt [] [.slice none 0 0,i6 0,.slice none 0 0,i6 0,.slice none 0 0,i6 0,i6 0,.slice none 0 0,.slice none 0 0] o trivial (λw=>by kernel_rfl)) λo=>qm o rfl λo=>ls<|Bb o u sizeOf29 rfl rfl rfl rfl (Ao rfl) .head λw u=>qa o rfl λo=>re<|tn<|wr<|tr<|?_
 obtain rfl:=si hm
 exact r2c (vs:=[.slice none 0 0,i6 0,.slice none 0 0,i6 0,.slice none 0 0,i6 0,i6 0,.slice none 0 0,.slice none 0 0]) (.inl rfl) o results20 rfl rfl isAgg29 sizeOf29 rfl (u.ld.cellsB t0) ⟨H,_,rfl,(show Enc.rep (α:=api_Unit) H [.slice none 0 0,i6 0,.slice none 0 0,i6 0,.slice none 0 0,i6 0,i6 0,.slice none 0 0,.slice none 0 0] (api_Unit.mk [] 0 [] 0 [] (api_Code.mk 0 0 []) []) from ⟨_,_,rfl,⟨none,0,rfl,Nat.le_refl _,SR.nil _ _⟩,⟨_,_,rfl,rfl,⟨_,_,rfl,⟨none,0,rfl,Nat.le_refl _,SR.nil _ _⟩,⟨_,_,rfl,rfl,⟨_,_,rfl,⟨none,0,rfl,Nat.le_refl _,SR.nil _ _⟩,⟨_,_,rfl,⟨_,_,rfl,rfl,⟨_,_,rfl,rfl,⟨none,0,rfl,Nat.le_refl _,SR.nil _ _⟩⟩⟩,⟨none,0,rfl,Nat.le_refl _,SR.nil _ _⟩⟩⟩⟩⟩⟩⟩),(Ext.refl _ _),(St.le u),u.keep⟩
 refine tn<|cfv o rfl T4<|wk<|tn<|th<|Av (λa w=>∃ (R0:Int) (E0:(List Int)) (F1:Nat) (M0:Option Addr) (C0:Nat) (G2:List Value),(Z6v N p1) R0 E0=some r∧Fr 103 [(1,PT U1),(2,PT Q1),(6,PT F1)] a∧St w0 Nil [H] [bk U1 [SL D1 p1.Lines T0,SL E1 p1.Vols U0,SL V0 p1.Locks F0,SL W0 p1.Threads G0,SL X0 p1.Recover I0,SL Y0 p1.Claims J0] 48,bk Q1 [.slice none 0 0,i6 0,.slice none 0 0,i6 0,.slice none 0 0,i6 0,i6 0,.slice none 0 0,.slice none 0 0] 29,sla 3 1 M0 E0.length C0 G2,bk F1 [.slice none 0 0,i6 R0,SL M0 E0 C0,i6 (p1.Locks.length:Int),.slice none 0 0,i6 0,i6 0,.slice none 0 0,.slice none 0 0] 29] w∧Rows H G2 E0) ?_ ?_
 obtain ⟨D3,R6,hm⟩:=bs hm
 obtain ⟨E3,C5,hm⟩:=bs hm
 refine rdS 9 u wide λw u=>dq 0 u.ld o rfl (λw hl=>Ar o isAgg48 sizeOf48 rfl rfl (hl.cellsB t1)) λo=>dq 2 u.ld o rfl (λw hl=>Ar o isAgg48 sizeOf48 rfl rfl (hl.cellsB t1)) λo=>dr 4 u o rfl (Ae o Hz rfl) λo=>dq 5 u.ld o rfl (λw hl=>Af o isAgg44 rfl (hl.cellB t1 rfl)) λo=>dr 6 u o rfl (Aj (α:=api_Cell) (xs:=p1.Locks) o runUnderlying44 rfl) λo=>da2 (i:=1) (j:=8) (by kernel_rfl) ?_ ?_
 refine di (i:=1) rfl<|cr o call54 (Uf (Ah _) (Enc.mono (St.up u) (show Enc.rep (α:=api_Prog) H [SL D1 p1.Lines T0,SL E1 p1.Vols U0,SL V0 p1.Locks F0,SL W0 p1.Threads G0,SL X0 p1.Recover I0,SL Y0 p1.Claims J0] p1 from ⟨_,_,rfl,⟨_,_,rfl,Y2,u2⟩,⟨_,_,rfl,⟨_,_,rfl,X1,Y1⟩,⟨_,_,rfl,⟨_,_,rfl,u1,B2⟩,⟨_,_,rfl,⟨_,_,rfl,C2,I1⟩,⟨_,_,rfl,⟨_,_,rfl,E2,J1⟩,⟨_,_,rfl,F2,O1⟩⟩⟩⟩⟩⟩)) R6) u λu o=>⟨λ_=>u.ld,?_⟩
 refine da2 (i:=3) (j:=8) (by kernel_rfl) ?_ ?_
 refine di (i:=3) rfl<|c1 o rfl call55 (Xm (Ah _) (Enc.mono (St.up u) (show Enc.rep (α:=api_Prog) H [SL D1 p1.Lines T0,SL E1 p1.Vols U0,SL V0 p1.Locks F0,SL W0 p1.Threads G0,SL X0 p1.Recover I0,SL Y0 p1.Claims J0] p1 from ⟨_,_,rfl,⟨_,_,rfl,Y2,u2⟩,⟨_,_,rfl,⟨_,_,rfl,X1,Y1⟩,⟨_,_,rfl,⟨_,_,rfl,u1,B2⟩,⟨_,_,rfl,⟨_,_,rfl,C2,I1⟩,⟨_,_,rfl,⟨_,_,rfl,E2,J1⟩,⟨_,_,rfl,F2,O1⟩⟩⟩⟩⟩⟩)) C5) ⟨rfl,trivial⟩ (λv w a hR o=>?_)
 obtain ⟨R1,u0,T3,rfl,S1,hk⟩:=hR
 replace u:=u.fresh hk
 replace S1:=S1 H
 refine ⟨λ_=>(St.ldsX u i2 ta1),?_⟩
 refine dq 7 (St.ldsX u i2 ta1) o rfl (λw hl=>Bt [i6 D3,SL R1 E3 u0,i6 (p1.Locks.length:Int)] [.slice none 0 0,i6 D3,SL R1 E3 u0,i6 (p1.Locks.length:Int),.slice none 0 0,i6 0,i6 0,.slice none 0 0,.slice none 0 0] o ⟨rfl,rfl,rfl,trivial⟩ (λw=>by kernel_rfl)) λo=>da1 (i:=8) (by kernel_rfl) ?_
 refine di (i:=8) rfl<|As (cs:=[.slice none 0 0,i6 0,.slice none 0 0,i6 0,.slice none 0 0,i6 0,i6 0,.slice none 0 0,.slice none 0 0].toArray) o rfl u zeroValue29 rfl λL4 w a u o=>⟨λ_=>(St.ldsX u i2 ta2),?_⟩
 refine da1 (i:=9) (by kernel_rfl) ?_
 refine di (i:=9) rfl<|Bb o u sizeOf29 rfl rfl rfl rfl (Ao rfl) .head λw u=>⟨λh=>absurd rfl h,?_⟩
 refine de (by kernel_rfl)<|tn<|?_
 replace u:=u.pk [3,2,1,0] rfl
 exact ⟨D3,E3,L4,R1,u0,T3,hm,o.hs,u,S1⟩
 refine di (i:=8) rfl<|As (cs:=[.slice none 0 0,i6 0,.slice none 0 0,i6 0,.slice none 0 0,i6 0,i6 0,.slice none 0 0,.slice none 0 0].toArray) o rfl u zeroValue29 rfl λL4 w a u o=>⟨λ_=>(St.ldsX u i2 ta1),?_⟩
 refine da1 (i:=3) (by kernel_rfl) ?_
 refine di (i:=3) rfl<|c1 o rfl call55 (Xm (Ah _) (Enc.mono (St.up u) (show Enc.rep (α:=api_Prog) H [SL D1 p1.Lines T0,SL E1 p1.Vols U0,SL V0 p1.Locks F0,SL W0 p1.Threads G0,SL X0 p1.Recover I0,SL Y0 p1.Claims J0] p1 from ⟨_,_,rfl,⟨_,_,rfl,Y2,u2⟩,⟨_,_,rfl,⟨_,_,rfl,X1,Y1⟩,⟨_,_,rfl,⟨_,_,rfl,u1,B2⟩,⟨_,_,rfl,⟨_,_,rfl,C2,I1⟩,⟨_,_,rfl,⟨_,_,rfl,E2,J1⟩,⟨_,_,rfl,F2,O1⟩⟩⟩⟩⟩⟩)) C5) ⟨rfl,trivial⟩ (λv w a hR o=>?_)
 obtain ⟨R1,u0,T3,rfl,S1,hk⟩:=hR
 replace u:=u.fresh hk
 replace S1:=S1 H
 refine ⟨λ_=>(St.ldsX u i2 ta2),?_⟩
 refine dq 7 (St.ldsX u i2 ta2) o rfl (λw hl=>Bt [i6 D3,SL R1 E3 u0,i6 (p1.Locks.length:Int)] [.slice none 0 0,i6 D3,SL R1 E3 u0,i6 (p1.Locks.length:Int),.slice none 0 0,i6 0,i6 0,.slice none 0 0,.slice none 0 0] o ⟨rfl,rfl,rfl,trivial⟩ (λw=>by kernel_rfl)) λo=>da1 (i:=9) (by kernel_rfl) ?_
 refine di (i:=9) rfl<|Bb o u sizeOf29 rfl rfl rfl rfl (Ao rfl) (.tail .head) λw u=>⟨λh=>absurd rfl h,?_⟩
 refine de (by kernel_rfl)<|tn<|?_
 replace u:=u.pk [3,2,0,0] rfl
 exact ⟨D3,E3,L4,R1,u0,T3,hm,o.hs,u,S1⟩
 refine di (i:=8) rfl<|As (cs:=[.slice none 0 0,i6 0,.slice none 0 0,i6 0,.slice none 0 0,i6 0,i6 0,.slice none 0 0,.slice none 0 0].toArray) o rfl u zeroValue29 rfl λL4 w a u o=>⟨λ_=>(St.ldsX u i2 ta1),?_⟩
 refine da1 (i:=1) (by kernel_rfl) ?_
 refine di (i:=1) rfl<|cr o call54 (Uf (Ah _) (Enc.mono (St.up u) (show Enc.rep (α:=api_Prog) H [SL D1 p1.Lines T0,SL E1 p1.Vols U0,SL V0 p1.Locks F0,SL W0 p1.Threads G0,SL X0 p1.Recover I0,SL Y0 p1.Claims J0] p1 from ⟨_,_,rfl,⟨_,_,rfl,Y2,u2⟩,⟨_,_,rfl,⟨_,_,rfl,X1,Y1⟩,⟨_,_,rfl,⟨_,_,rfl,u1,B2⟩,⟨_,_,rfl,⟨_,_,rfl,C2,I1⟩,⟨_,_,rfl,⟨_,_,rfl,E2,J1⟩,⟨_,_,rfl,F2,O1⟩⟩⟩⟩⟩⟩)) R6) u λu o=>⟨λ_=>(St.ldsX u i2 ta1),?_⟩
 refine da1 (i:=3) (by kernel_rfl) ?_
 refine di (i:=3) rfl<|c1 o rfl call55 (Xm (Ah _) (Enc.mono (St.up u) (show Enc.rep (α:=api_Prog) H [SL D1 p1.Lines T0,SL E1 p1.Vols U0,SL V0 p1.Locks F0,SL W0 p1.Threads G0,SL X0 p1.Recover I0,SL Y0 p1.Claims J0] p1 from ⟨_,_,rfl,⟨_,_,rfl,Y2,u2⟩,⟨_,_,rfl,⟨_,_,rfl,X1,Y1⟩,⟨_,_,rfl,⟨_,_,rfl,u1,B2⟩,⟨_,_,rfl,⟨_,_,rfl,C2,I1⟩,⟨_,_,rfl,⟨_,_,rfl,E2,J1⟩,⟨_,_,rfl,F2,O1⟩⟩⟩⟩⟩⟩)) C5) ⟨rfl,trivial⟩ (λv w a hR o=>?_)
 obtain ⟨R1,u0,T3,rfl,S1,hk⟩:=hR
 replace u:=u.fresh hk
 replace S1:=S1 H
 refine ⟨λ_=>(St.ldsX u i2 ta2),?_⟩
 refine dq 7 (St.ldsX u i2 ta2) o rfl (λw hl=>Bt [i6 D3,SL R1 E3 u0,i6 (p1.Locks.length:Int)] [.slice none 0 0,i6 D3,SL R1 E3 u0,i6 (p1.Locks.length:Int),.slice none 0 0,i6 0,i6 0,.slice none 0 0,.slice none 0 0] o ⟨rfl,rfl,rfl,trivial⟩ (λw=>by kernel_rfl)) λo=>da1 (i:=9) (by kernel_rfl) ?_
 refine di (i:=9) rfl<|Bb o u sizeOf29 rfl rfl rfl rfl (Ao rfl) (.tail .head) λw u=>⟨λh=>absurd rfl h,?_⟩
 refine de (by kernel_rfl)<|tn<|?_
 replace u:=u.pk [3,2,0,0] rfl
 exact ⟨D3,E3,L4,R1,u0,T3,hm,o.hs,u,S1⟩
 rintro a w ⟨R0,E0,F1,M0,C0,G2,hm,o,u,S6⟩
 unfold Z6v at hm
 refine th<|th<|rg<|qa o rfl λo=>re<|tn<|Av (λa w=>∃ (Q0:(List Int)) (K0:Option Addr) (D0:Nat) (V1:List Value),(Z6w N p1 R0 E0) Q0=some r∧Fr 103 [(1,PT U1),(2,PT Q1),(6,PT F1)] a∧St w0 Nil [H] [bk U1 [SL D1 p1.Lines T0,SL E1 p1.Vols U0,SL V0 p1.Locks F0,SL W0 p1.Threads G0,SL X0 p1.Recover I0,SL Y0 p1.Claims J0] 48,bk Q1 [.slice none 0 0,i6 0,.slice none 0 0,i6 0,.slice none 0 0,i6 0,i6 0,.slice none 0 0,.slice none 0 0] 29,sla 3 1 K0 Q0.length D0 V1,sla 3 1 M0 E0.length C0 G2,bk F1 [SL K0 Q0 D0,i6 R0,SL M0 E0 C0,i6 (p1.Locks.length:Int),.slice none 0 0,i6 0,i6 0,.slice none 0 0,.slice none 0 0] 29] w∧Rows H V1 Q0) ?_ ?_
 replace u:=u.nilS 3 1
 replace u:=u.pk [1,1,0,0,0] rfl
 refine wb<|lp (α:=Nat×(List Int)×Int) (λgh a w=>match gh with | (M4,U3,d4)=>∃ (n3:Option Addr) (O3:Nat) (u3:List Value),(Z70 N (Z6w N p1 R0 E0) p1 E0) M4 U3 d4=some r∧Fr 103 [(1,PT U1),(2,PT Q1),(6,PT F1),(7,i6 d4)] a∧St w0 Nil [H] [bk U1 [SL D1 p1.Lines T0,SL E1 p1.Vols U0,SL V0 p1.Locks F0,SL W0 p1.Threads G0,SL X0 p1.Recover I0,SL Y0 p1.Claims J0] 48,bk Q1 [.slice none 0 0,i6 0,.slice none 0 0,i6 0,.slice none 0 0,i6 0,i6 0,.slice none 0 0,.slice none 0 0] 29,sla 3 1 n3 U3.length O3 u3,sla 3 1 M0 E0.length C0 G2,bk F1 [SL n3 U3 O3,i6 R0,SL M0 E0 C0,i6 (p1.Locks.length:Int),.slice none 0 0,i6 0,i6 0,.slice none 0 0,.slice none 0 0] 29] w∧Rows H u3 U3) (λgh=>gh.1) (N,[],0) ⟨none,0,[],hm,o.hs,u,.nil⟩ ?_
 rintro ⟨M4,U3,d4⟩ a w ⟨n3,O3,u3,hm,o,u,D5⟩
 obtain _ | M4:=M4
 simp [Z70] at hm
 rw [Z70] at hm
 refine th<|th<|rg<|qm o rfl λo=>qv o (Ae o Ei rfl) λo=>qv o (Af o isAgg22 rfl (u.ld.cellB t4 rfl)) λo=>qv o (Aj (α:=Int) (xs:=E0) o runUnderlying22 rfl) λo=>qv o (Ak o rfl rfl) λo=>re<|?_
 rcases bip hm with ⟨U4,hm⟩ | ⟨U4,hm⟩
 refine tn<|ctv o rfl U4<|wk<|tn<|th<|wb<|?_
 obtain ⟨O4,S7,hm⟩:=bs hm
 obtain ⟨T7,U7,hm⟩:=bs hm
 refine rdL (Aa t0 (Aa t1 (Aa t3 (Aa t4 Ai)))) 8 u wide λw u=>ds 0 (St.ldsX u i2 (Aa t0 (Aa t1 (Aa t3 (Aa t4 Ai))))) o rfl (Ae o Cc rfl) λo=>dq 1 (St.ldsX u i2 (Aa t0 (Aa t1 (Aa t3 (Aa t4 Ai))))) o rfl (λw hl=>Af o isAgg22 rfl (hl.cellB t3 rfl)) λo=>dq 2 (St.ldsX u i2 (Aa t0 (Aa t1 (Aa t3 (Aa t4 Ai))))) o rfl (λw hl=>Ar o isAgg48 sizeOf48 rfl rfl (hl.cellsB t0)) λo=>ds 3 (St.ldsX u i2 (Aa t0 (Aa t1 (Aa t3 (Aa t4 Ai))))) o rfl (Ab o rfl) λo=>da1 (i:=4) (by kernel_rfl) ?_
 refine di (i:=4) rfl<|cr o call56 (Jbt (Ah _) (Enc.mono (St.up u) (show Enc.rep (α:=api_Prog) H [SL D1 p1.Lines T0,SL E1 p1.Vols U0,SL V0 p1.Locks F0,SL W0 p1.Threads G0,SL X0 p1.Recover I0,SL Y0 p1.Claims J0] p1 from ⟨_,_,rfl,⟨_,_,rfl,Y2,u2⟩,⟨_,_,rfl,⟨_,_,rfl,X1,Y1⟩,⟨_,_,rfl,⟨_,_,rfl,u1,B2⟩,⟨_,_,rfl,⟨_,_,rfl,C2,I1⟩,⟨_,_,rfl,⟨_,_,rfl,E2,J1⟩,⟨_,_,rfl,F2,O1⟩⟩⟩⟩⟩⟩)) S7) u λu o=>⟨λ_=>(St.ldsX u i2 (Aa t0 (Aa t1 (Aa t3 (Aa t4 Ai))))),?_⟩
 refine da1 (i:=5) (by kernel_rfl) ?_
 refine di (i:=5) rfl<|Bj (e:=3) (sz:=1) [i6 O4] o rfl u rfl rfl rfl (λw=>by kernel_rfl) λI8 w a u o=>?_
 have T6:Rows (α:=Int) H [i6 O4] ([O4]:List Int):=(.cons (c:=[i6 O4]) rfl .nil)
 refine ⟨λ_=>(St.ldsX u i2 (Aa t1 (Aa t2 (Aa t4 (Aa t5 Ai))))),?_⟩
 refine da1 (i:=6) (by kernel_rfl) ?_
 refine di (i:=6) rfl<|Bv (α:=Int) (xs:=U3) (ys:=([O4]:List Int)) o rfl u underlying22 Tw rfl (by decide) rfl rfl rfl t3 D5 (u.rdO t0) T6 U7 λU6 K5 V6 w a W6 hU o=>?_
 replace u:=hU _ (.tail (.tail (.tail .head)))
 replace u:=u.drop .head
 refine ⟨λ_=>(St.ldsX u i2 (Aa t0 (Aa t1 (Aa t3 (Aa t4 Ai))))),?_⟩
 refine ds 7 (St.ldsX u i2 (Aa t0 (Aa t1 (Aa t3 (Aa t4 Ai))))) o rfl (Ae o Cc rfl) λo=>da1 (i:=8) (by kernel_rfl) ?_
 refine di (i:=8) rfl<|Bz o u sizeOf22 rfl rfl rfl rfl (.tail (.tail (.tail (.tail .head)))) .zero λw u=>⟨λh=>absurd rfl h,?_⟩
 refine de (by kernel_rfl)<|bn<|tn<|rg<|qm o rfl λo=>qv o (An o rfl rfl) λo=>qa o rfl λo=>re<|tn<|?_
 exact ⟨(M4,T7,(IntKind.i64.wrap (d4+1))),⟨U6,K5,V6,hm,o.hs,u,W6⟩,Nat.lt_succ_self _⟩
 refine tn<|cfv o rfl U4<|we<|tx<|tx<|bx<|tn<|?_
 exact ⟨U3,n3,O3,u3,hm,o.hs,u,D5⟩
 rintro a w ⟨Q0,K0,D0,V1,hm,o,u,L5⟩
 unfold Z6w at hm
 refine th<|th<|rg<|qa o rfl λo=>re<|tn<|Av (λa w=>∃ (P0:(List api_Code)) (Q2:PH) (j0:Option Addr) (O0:Nat) (W2:List Value),(Z6x N p1 R0 E0 Q0) P0=some r∧Ext w0 H Q2∧Fr 103 [(1,PT U1),(2,PT Q1),(6,PT F1)] a∧St w0 Nil [Q2] [bk U1 [SL D1 p1.Lines T0,SL E1 p1.Vols U0,SL V0 p1.Locks F0,SL W0 p1.Threads G0,SL X0 p1.Recover I0,SL Y0 p1.Claims J0] 48,bk Q1 [.slice none 0 0,i6 0,.slice none 0 0,i6 0,.slice none 0 0,i6 0,i6 0,.slice none 0 0,.slice none 0 0] 29,sla 3 1 K0 Q0.length D0 V1,sla 3 1 M0 E0.length C0 G2,sla 26 3 j0 P0.length O0 W2,bk F1 [SL K0 Q0 D0,i6 R0,SL M0 E0 C0,i6 (p1.Locks.length:Int),SL j0 P0 O0,i6 0,i6 0,.slice none 0 0,.slice none 0 0] 29] w∧Rows Q2 W2 P0) ?_ ?_
 replace u:=u.nilS 26 3
 replace u:=u.pk [1,1,1,1,0,0] rfl
 refine wb<|lp (α:=Nat×(List api_Code)×Int) (λgh a w=>match gh with | (P4,V3,A4)=>∃ (W3:PH) (P3:Option Addr) (F3:Nat) (Q3:List Value),(Z71 N (Z6x N p1 R0 E0 Q0) p1) P4 V3 A4=some r∧Ext w0 H W3∧Fr 103 [(1,PT U1),(2,PT Q1),(6,PT F1),(8,i6 A4)] a∧St w0 Nil [W3] [bk U1 [SL D1 p1.Lines T0,SL E1 p1.Vols U0,SL V0 p1.Locks F0,SL W0 p1.Threads G0,SL X0 p1.Recover I0,SL Y0 p1.Claims J0] 48,bk Q1 [.slice none 0 0,i6 0,.slice none 0 0,i6 0,.slice none 0 0,i6 0,i6 0,.slice none 0 0,.slice none 0 0] 29,sla 3 1 K0 Q0.length D0 V1,sla 3 1 M0 E0.length C0 G2,sla 26 3 P3 V3.length F3 Q3,bk F1 [SL K0 Q0 D0,i6 R0,SL M0 E0 C0,i6 (p1.Locks.length:Int),SL P3 V3 F3,i6 0,i6 0,.slice none 0 0,.slice none 0 0] 29] w∧Rows W3 Q3 V3) (λgh=>gh.1) (N,[],0) ⟨H,none,0,[],hm,(Ext.refl _ _),o.hs,u,.nil⟩ ?_
 rintro ⟨P4,V3,A4⟩ a w ⟨W3,P3,F3,Q3,hm,B1,o,u,l4⟩
 obtain _ | P4:=P4
 simp [Z71] at hm
 rw [Z71] at hm
 refine th<|th<|rg<|qm o rfl λo=>qv o (Ae o Fz rfl) λo=>qv o (Af o isAgg45 rfl (u.ld.cellB t0 rfl)) λo=>qv o (Aj (α:=api_Thread) (xs:=p1.Threads) o runUnderlying45 rfl) λo=>qv o (Ak o rfl rfl) λo=>re<|?_
 rcases bip hm with ⟨V4,hm⟩ | ⟨V4,hm⟩
 refine tn<|ctv o rfl V4<|wk<|tn<|th<|wb<|?_
 obtain ⟨Q4,E5,hm⟩:=bs hm
 obtain ⟨J8,V7,X6⟩:=SR.get I1 E5
 obtain ⟨Y6,M5,d6,O5,rfl,j6,k6,l6,n6⟩:=Bg V7
 obtain ⟨R2,W7,hm⟩:=bs hm
 obtain ⟨X7,Y7,hm⟩:=bs hm
 refine rdL (Aa t0 (Aa t1 (Aa t2 (Aa t3 (Aa t5 Ai))))) 12 u wide λw u=>ds 0 (St.ldsX u i2 (Aa t0 (Aa t1 (Aa t2 (Aa t3 (Aa t5 Ai)))))) o rfl (Ae o Cg rfl) λo=>dq 1 (St.ldsX u i2 (Aa t0 (Aa t1 (Aa t2 (Aa t3 (Aa t5 Ai)))))) o rfl (λw hl=>Af o isAgg23 rfl (hl.cellB t4 rfl)) λo=>dq 2 (St.ldsX u i2 (Aa t0 (Aa t1 (Aa t2 (Aa t3 (Aa t5 Ai)))))) o rfl (λw hl=>Ar o isAgg48 sizeOf48 rfl rfl (hl.cellsB t0)) λo=>ds 3 (St.ldsX u i2 (Aa t0 (Aa t1 (Aa t2 (Aa t3 (Aa t5 Ai)))))) o rfl (Ae o Fz rfl) λo=>dq 4 (St.ldsX u i2 (Aa t0 (Aa t1 (Aa t2 (Aa t3 (Aa t5 Ai)))))) o rfl (λw hl=>Af o isAgg45 rfl (hl.cellB t0 rfl)) λo=>ds 5 (St.ldsX u i2 (Aa t0 (Aa t1 (Aa t2 (Aa t3 (Aa t5 Ai)))))) o rfl (Ab o rfl) λo=>ds 6 (St.ldsX u i2 (Aa t0 (Aa t1 (Aa t2 (Aa t3 (Aa t5 Ai)))))) o rfl (Al o runUnderlying45 sizeOf108 rfl rfl E5 (SR.oaI I1 (by decide) E5)) λo=>dq 7 (St.ldsX u i2 (Aa t0 (Aa t1 (Aa t2 (Aa t3 (Aa t5 Ai)))))) o rfl (λw hl=>Ar o isAgg108 sizeOf108 rfl rfl (λj v hj=>PH.le.cell (λb o hx=>(Lds.le hl) b o (B1.sub b o hx)) (X6 j v hj))) λo=>da1 (i:=8) (by kernel_rfl) ?_
 refine di (i:=8) rfl<|c1 o rfl call57 (Jba (St.le u) (show Enc.rep (α:=api_Prog) W3 [SL D1 p1.Lines T0,SL E1 p1.Vols U0,SL V0 p1.Locks F0,SL W0 p1.Threads G0,SL X0 p1.Recover I0,SL Y0 p1.Claims J0] p1 from ⟨_,_,rfl,⟨_,_,rfl,Y2,(u2.mono B1.sub)⟩,⟨_,_,rfl,⟨_,_,rfl,X1,(Y1.mono B1.sub)⟩,⟨_,_,rfl,⟨_,_,rfl,u1,(B2.mono B1.sub)⟩,⟨_,_,rfl,⟨_,_,rfl,C2,(I1.mono B1.sub)⟩,⟨_,_,rfl,⟨_,_,rfl,E2,(J1.mono B1.sub)⟩,⟨_,_,rfl,F2,(O1.mono B1.sub)⟩⟩⟩⟩⟩⟩) (show Enc.rep (α:=api_Thread) W3 [Ag Q4.Name,SL Y6 Q4.Regs M5,SL d6 Q4.Body O5,i6 Q4.At] Q4 from ⟨_,_,rfl,rfl,⟨_,_,rfl,⟨_,_,rfl,j6,(k6.mono B1.sub)⟩,⟨_,_,rfl,⟨_,_,rfl,l6,(n6.mono B1.sub)⟩,rfl⟩⟩⟩) W7) ⟨rfl,rfl,trivial⟩ (λv w a hR o=>?_)
 obtain ⟨H74,cs75,rfl,d7,K2,u6,hk⟩:=hR
 obtain ⟨u,K2⟩:=And.intro (St.passH u hk K2 u6) (St.extc u K2)
 obtain ⟨W4,B4,rfl,v6,y6⟩:=Am d7
 refine ⟨λ_=>(St.ldsX u K2.sub (Aa t0 (Aa t1 (Aa t2 (Aa t3 (Aa t5 Ai)))))),?_⟩
 refine da1 (i:=9) (by kernel_rfl) ?_
 refine di (i:=9) rfl<|Bj (e:=26) (sz:=3) [i6 R2.Regs,i6 R2.Counts,SL W4 R2.L B4] o rfl u rfl rfl rfl (λw=>by kernel_rfl) λK8 w a u o=>?_
 have z6:Rows (α:=api_Code) H74 [i6 R2.Regs,i6 R2.Counts,SL W4 R2.L B4] ([R2]:List api_Code):=(.cons (c:=[i6 R2.Regs,i6 R2.Counts,SL W4 R2.L B4]) ⟨_,_,rfl,rfl,⟨_,_,rfl,rfl,⟨_,_,rfl,v6,y6⟩⟩⟩ .nil)
 refine ⟨λ_=>(St.ldsX u K2.sub (Aa t1 (Aa t2 (Aa t3 (Aa t4 (Aa t6 Ai)))))),?_⟩
 refine da1 (i:=10) (by kernel_rfl) ?_
 refine di (i:=10) rfl<|Bv (α:=api_Code) (xs:=V3) (ys:=([R2]:List api_Code)) o rfl u underlying23 Jab rfl (by decide) rfl rfl rfl t5 (l4.mono K2.sub) (u.rdO t0) z6 Y7 λA7 P5 B7 w a C7 hU o=>?_
 replace u:=hU _ (.tail (.tail (.tail (.tail (.tail .head)))))
 replace u:=u.drop .head
 refine ⟨λ_=>(St.ldsX u K2.sub (Aa t0 (Aa t1 (Aa t2 (Aa t3 (Aa t5 Ai)))))),?_⟩
 refine ds 11 (St.ldsX u K2.sub (Aa t0 (Aa t1 (Aa t2 (Aa t3 (Aa t5 Ai)))))) o rfl (Ae o Cg rfl) λo=>da1 (i:=12) (by kernel_rfl) ?_
 refine di (i:=12) rfl<|Bz o u sizeOf23 rfl rfl rfl rfl (.tail (.tail (.tail (.tail (.tail .head))))) (.succ (.succ (.succ (.succ .zero)))) λw u=>⟨λh=>absurd rfl h,?_⟩
 refine de (by kernel_rfl)<|bn<|tn<|rg<|qm o rfl λo=>qv o (An o rfl rfl) λo=>qa o rfl λo=>re<|tn<|?_
 exact ⟨(P4,X7,(IntKind.i64.wrap (A4+1))),⟨H74,A7,P5,B7,hm,(Ext.trans B1 K2),o.hs,u,C7⟩,Nat.lt_succ_self _⟩
 refine tn<|cfv o rfl V4<|we<|tx<|tx<|bx<|tn<|?_
 exact ⟨V3,W3,P3,F3,Q3,hm,B1,o.hs,u,l4⟩
 rintro a w ⟨P0,Q2,j0,O0,W2,hm,A0,o,u,Q5⟩
 unfold Z6x at hm
 refine th<|th<|rg<|qv o (Ae o Ks rfl) λo=>qv o (Af o isAgg45 rfl (u.ld.cellB t0 rfl)) λo=>qv o (Aj (α:=api_Thread) (xs:=p1.Recover) o runUnderlying45 rfl) λo=>qv o (Ba o rfl rfl) λo=>re<|tn<|Av (λa w=>∃ (I2:Int) (J2:Int) (P1:(List api_Instr)) (A3:PH) (O2:Option Addr) (T1:Nat),(Z6y N p1 R0 E0 Q0 P0) I2 J2 P1=some r∧Ext w0 Q2 A3∧Fr 103 [(1,PT U1),(2,PT Q1),(6,PT F1)] a∧St w0 Nil [A3] [bk U1 [SL D1 p1.Lines T0,SL E1 p1.Vols U0,SL V0 p1.Locks F0,SL W0 p1.Threads G0,SL X0 p1.Recover I0,SL Y0 p1.Claims J0] 48,bk Q1 [.slice none 0 0,i6 0,.slice none 0 0,i6 0,.slice none 0 0,i6 0,i6 0,.slice none 0 0,.slice none 0 0] 29,sla 3 1 K0 Q0.length D0 V1,sla 3 1 M0 E0.length C0 G2,sla 26 3 j0 P0.length O0 W2,bk F1 [SL K0 Q0 D0,i6 R0,SL M0 E0 C0,i6 (p1.Locks.length:Int),SL j0 P0 O0,i6 I2,i6 J2,SL O2 P1 T1,.slice none 0 0] 29] w∧P1.length≤T1∧SR A3 O2 P1) ?_ ?_
 rcases bip hm with ⟨X4,hm⟩ | ⟨X4,hm⟩
 refine ctv o rfl X4<|?_
 obtain ⟨R4,F5,hm⟩:=bs hm
 obtain ⟨L8,j7,D7⟩:=SR.get J1 F5
 obtain ⟨E7,R5,S5,G5,rfl,F7,G7,T5,U5⟩:=Bg j7
 obtain ⟨P2,I7,hm⟩:=bs hm
 refine rdS 7 u wide λw u=>dq 0 u.ld o rfl (λw hl=>Ar o isAgg48 sizeOf48 rfl rfl (hl.cellsB t0)) λo=>dr 1 u o rfl (Ae o Ks rfl) λo=>dq 2 u.ld o rfl (λw hl=>Af o isAgg45 rfl (hl.cellB t0 rfl)) λo=>dr 3 u o rfl (Al o runUnderlying45 sizeOf108 rfl rfl F5 (SR.oaI J1 (by decide) F5)) λo=>dq 4 u.ld o rfl (λw hl=>Ar o isAgg108 sizeOf108 rfl rfl (λj v hj=>PH.le.cell (λb o hx=>(Lds.le hl) b o (A0.sub b o hx)) (D7 j v hj))) λo=>da1 (i:=5) (by kernel_rfl) ?_
 refine di (i:=5) rfl<|c1 o rfl call57 (Jba (St.le u) (show Enc.rep (α:=api_Prog) Q2 [SL D1 p1.Lines T0,SL E1 p1.Vols U0,SL V0 p1.Locks F0,SL W0 p1.Threads G0,SL X0 p1.Recover I0,SL Y0 p1.Claims J0] p1 from ⟨_,_,rfl,⟨_,_,rfl,Y2,(u2.mono A0.sub)⟩,⟨_,_,rfl,⟨_,_,rfl,X1,(Y1.mono A0.sub)⟩,⟨_,_,rfl,⟨_,_,rfl,u1,(B2.mono A0.sub)⟩,⟨_,_,rfl,⟨_,_,rfl,C2,(I1.mono A0.sub)⟩,⟨_,_,rfl,⟨_,_,rfl,E2,(J1.mono A0.sub)⟩,⟨_,_,rfl,F2,(O1.mono A0.sub)⟩⟩⟩⟩⟩⟩) (show Enc.rep (α:=api_Thread) Q2 [Ag R4.Name,SL E7 R4.Regs R5,SL S5 R4.Body G5,i6 R4.At] R4 from ⟨_,_,rfl,rfl,⟨_,_,rfl,⟨_,_,rfl,F7,(G7.mono A0.sub)⟩,⟨_,_,rfl,⟨_,_,rfl,T5,(U5.mono A0.sub)⟩,rfl⟩⟩⟩) I7) ⟨rfl,rfl,trivial⟩ (λv w a hR o=>?_)
 obtain ⟨H109,cs110,rfl,J7,X2,V5,hk⟩:=hR
 obtain ⟨u,X2⟩:=And.intro (St.passH u hk X2 V5) (St.extc u X2)
 obtain ⟨C4,X3,rfl,W5,X5⟩:=Am J7
 refine ⟨λ_=>(St.ldsX u X2.sub i1),?_⟩
 refine ds 6 (St.ldsX u X2.sub i1) o rfl (Ae o Hk rfl) λo=>da1 (i:=7) (by kernel_rfl) ?_
 refine di (i:=7) rfl<|Yf [SL K0 Q0 D0,i6 R0,SL M0 E0 C0,i6 (p1.Locks.length:Int),SL j0 P0 O0] [i6 0,i6 0,.slice none 0 0] [i6 P2.Regs,i6 P2.Counts,SL C4 P2.L X3] [.slice none 0 0] (c:=[SL K0 Q0 D0,i6 R0,SL M0 E0 C0,i6 (p1.Locks.length:Int),SL j0 P0 O0,i6 0,i6 0,.slice none 0 0,.slice none 0 0]) (c':=[SL K0 Q0 D0,i6 R0,SL M0 E0 C0,i6 (p1.Locks.length:Int),SL j0 P0 O0,i6 P2.Regs,i6 P2.Counts,SL C4 P2.L X3,.slice none 0 0]) o u sizeOf26 rfl rfl rfl rfl rfl (Ao rfl) rfl rfl (.tail (.tail (.tail (.tail (.tail .head))))) λw u=>⟨λh=>absurd rfl h,?_⟩
 refine de (by kernel_rfl)<|tn<|?_
 exact ⟨P2.Regs,P2.Counts,P2.L,H109,C4,X3,hm,X2,o.hs,u,W5,X5⟩
 refine cfv o rfl X4<|wk<|tn<|?_
 exact ⟨0,0,[],Q2,none,0,hm,(Ext.refl _ _),o.hs,u,(Nat.le_refl _),((SR.nil _ _).mono A0.sub)⟩
 rintro a w ⟨I2,J2,P1,A3,O2,T1,hm,S0,o,u,hcA28,hrA29⟩
 unfold Z6y at hm
 refine th<|th<|rg<|qa o rfl λo=>re<|tn<|Av (λa w=>∃ (T2:(List (List api_Op))) (D4:PH) (G3:Option Addr) (U2:Nat) (E4:List Value),(Z6z p1 R0 E0 Q0 P0 I2 J2 P1) T2=some r∧Ext w0 A3 D4∧Fr 103 [(2,PT Q1),(6,PT F1)] a∧St w0 Nil [D4] [bk Q1 [.slice none 0 0,i6 0,.slice none 0 0,i6 0,.slice none 0 0,i6 0,i6 0,.slice none 0 0,.slice none 0 0] 29,sla 3 1 K0 Q0.length D0 V1,sla 3 1 M0 E0.length C0 G2,sla 26 3 j0 P0.length O0 W2,sla 54 1 G3 T2.length U2 E4,bk F1 [SL K0 Q0 D0,i6 R0,SL M0 E0 C0,i6 (p1.Locks.length:Int),SL j0 P0 O0,i6 I2,i6 J2,SL O2 P1 T1,SL G3 T2 U2] 29] w∧Rows D4 E4 T2) ?_ ?_
 replace u:=u.nilS 54 1
 replace u:=u.pk [1,1,1,1,1,0,0] rfl
 refine wb<|lp (α:=Nat×(List (List api_Op))×Int) (λ(gh:Nat×(List (List api_Op))×Int) a w=>match gh with | (S4,B3,F4)=>∃ (C3:PH) (R3:Option Addr) (I3:Nat) (S3:List Value),(Z72 N (Z6z p1 R0 E0 Q0 P0 I2 J2 P1) p1 R0) S4 B3 F4=some r∧Ext w0 A3 C3∧Fr 103 [(1,PT U1),(2,PT Q1),(6,PT F1),(9,i6 F4)] a∧St w0 Nil [C3] [bk U1 [SL D1 p1.Lines T0,SL E1 p1.Vols U0,SL V0 p1.Locks F0,SL W0 p1.Threads G0,SL X0 p1.Recover I0,SL Y0 p1.Claims J0] 48,bk Q1 [.slice none 0 0,i6 0,.slice none 0 0,i6 0,.slice none 0 0,i6 0,i6 0,.slice none 0 0,.slice none 0 0] 29,sla 3 1 K0 Q0.length D0 V1,sla 3 1 M0 E0.length C0 G2,sla 26 3 j0 P0.length O0 W2,sla 54 1 R3 B3.length I3 S3,bk F1 [SL K0 Q0 D0,i6 R0,SL M0 E0 C0,i6 (p1.Locks.length:Int),SL j0 P0 O0,i6 I2,i6 J2,SL O2 P1 T1,SL R3 B3 I3] 29] w∧Rows C3 S3 B3) (λgh=>gh.1) (N,[],0) ⟨A3,none,0,[],hm,(Ext.refl _ _),o.hs,u,.nil⟩ ?_
 rintro ⟨S4,B3,F4⟩ a w ⟨C3,R3,I3,S3,hm,n0,o,u,u4⟩
 obtain _ | S4:=S4
 simp [Z72] at hm
 rw [Z72] at hm
 refine th<|th<|rg<|qm o rfl λo=>qv o (Ae o Ef rfl) λo=>qv o (Af o isAgg46 rfl (u.ld.cellB t0 rfl)) λo=>qv o (Aj (α:=api_Claim) (xs:=p1.Claims) o runUnderlying46 rfl) λo=>qv o (Ak o rfl rfl) λo=>re<|?_
 rcases bip hm with ⟨G4,hm⟩ | ⟨G4,hm⟩
 refine tn<|ctv o rfl G4<|wk<|tn<|th<|wb<|th<|?_
 obtain ⟨C8,Y4,hm⟩:=bs hm
 obtain ⟨D8,K7,Y5⟩:=SR.get O1 Y4
 obtain ⟨u7,k7,rfl,d5,j5⟩:=Eh K7
 obtain ⟨L7,M7,hm⟩:=bs hm
 obtain ⟨E8,I5,hm⟩:=bs hm
 obtain ⟨Y3,O7,hm⟩:=bs hm
 refine rdS 17 u wide λw u=>dr 0 u o rfl (Ae o Ef rfl) λo=>dq 1 u.ld o rfl (λw hl=>Af o isAgg46 rfl (hl.cellB t0 rfl)) λo=>dr 2 u o rfl (Ab o rfl) λo=>dr 3 u o rfl (Al o runUnderlying46 sizeOf99 rfl rfl Y4 (SR.oaI O1 (by decide) Y4)) λo=>dr 4 u o rfl (Ae o Ow rfl) λo=>dq 5 u.ld o rfl (λw hl=>Af o isAgg96 rfl (PH.le.cell (λb o hx=>(Lds.le hl) b o ((cp (cp n0.sub S0.sub) A0.sub) b o hx)) (Y5 0 _ rfl))) λo=>dq 6 u.ld o rfl (λw hl=>Ar o isAgg48 sizeOf48 rfl rfl (hl.cellsB t0)) λo=>dr 8 u o rfl (Ae o Cr rfl) λo=>dq 9 u.ld o rfl (λw hl=>Af o isAgg3 rfl (hl.cellB t6 rfl)) λo=>da1 (i:=7) (by kernel_rfl) ?_
 refine di (i:=7) rfl<|c1 o rfl call59 (Oa (Ah _) (Enc.mono (St.up u) (show Enc.rep (α:=api_Prog) C3 [SL D1 p1.Lines T0,SL E1 p1.Vols U0,SL V0 p1.Locks F0,SL W0 p1.Threads G0,SL X0 p1.Recover I0,SL Y0 p1.Claims J0] p1 from ⟨_,_,rfl,⟨_,_,rfl,Y2,(u2.mono (cp (cp n0.sub S0.sub) A0.sub))⟩,⟨_,_,rfl,⟨_,_,rfl,X1,(Y1.mono (cp (cp n0.sub S0.sub) A0.sub))⟩,⟨_,_,rfl,⟨_,_,rfl,u1,(B2.mono (cp (cp n0.sub S0.sub) A0.sub))⟩,⟨_,_,rfl,⟨_,_,rfl,C2,(I1.mono (cp (cp n0.sub S0.sub) A0.sub))⟩,⟨_,_,rfl,⟨_,_,rfl,E2,(J1.mono (cp (cp n0.sub S0.sub) A0.sub))⟩,⟨_,_,rfl,F2,(O1.mono (cp (cp n0.sub S0.sub) A0.sub))⟩⟩⟩⟩⟩⟩)) M7) ⟨rfl,trivial⟩ (λv w a hR o=>?_)
 obtain ⟨v7,l7,z7,rfl,I4,hk⟩:=hR
 replace u:=u.fresh hk
 replace I4:=I4 C3
 obtain ⟨H135,C1,l5,A5,u⟩:=St.frzS u .head I4
 refine ⟨λ_=>(St.ldsX u C1.sub i1),?_⟩
 obtain ⟨A8,n7,e140,e141,n5,u5⟩:=SR.sub (sz:=1) l5 A5 rfl I5
 refine ds 10 (St.ldsX u C1.sub i1) o rfl (Dn (xs:=L7) (vl:=0) (vh:=R0) o runUnderlying92 sizeOf9 rfl A5 rfl rfl I5 e140 e141) λo=>da1 (i:=11) (by kernel_rfl) ?_
 refine di (i:=11) rfl<|c1 o rfl call58 (Uo (Ah _) d5 (St.srH u (j5.mono (cp (cp (cp C1.sub n0.sub) S0.sub) A0.sub))) n5 (St.srH u u5) O7) ⟨rfl,rfl,trivial⟩ (λv w a hR o=>?_)
 obtain ⟨J4,l3,B8,rfl,K4,hk⟩:=hR
 replace u:=u.fresh hk
 replace K4:=K4 H135
 refine ⟨λ_=>(St.ldsX u C1.sub ta1),?_⟩
 refine ds 12 (St.ldsX u C1.sub ta1) o rfl (Ab o rfl) λo=>ds 13 (St.ldsX u C1.sub ta1) o rfl (Dd o rfl rfl) λo=>ds 14 (St.ldsX u C1.sub ta1) o rfl (Dd o rfl rfl) λo=>ds 15 (St.ldsX u C1.sub ta1) o rfl (Bp o rfl) λo=>ds 16 (St.ldsX u C1.sub ta1) o rfl (Bp o rfl) λo=>de (by kernel_rfl)<|tn<|?_
 obtain ⟨P7,Q7,hm⟩:=bs hm
 refine rg<|qv o (Ae o Dm rfl) λo=>qv o (Af o isAgg27 rfl (u.ld.cellB t7 rfl)) λo=>qm o rfl λo=>?_
 obtain ⟨H154,B5,A6,B6,u⟩:=St.frzS u .head K4
 refine ls<|Bj (e:=54) (sz:=1) [SL J4 Y3.1 l3] o rfl u rfl rfl rfl (λw=>by kernel_rfl) λF8 w a u o=>?_
 have C6:Rows (α:=(List api_Op)) H154 [SL J4 Y3.1 l3] ([Y3.1]:List (List api_Op)):=(.cons (c:=[SL J4 Y3.1 l3]) ⟨_,_,rfl,B6,A6⟩ .nil)
 refine ls<|Bv (α:=(List api_Op)) (xs:=B3) (ys:=([Y3.1]:List (List api_Op))) o rfl u underlying27 Ys rfl (by decide) rfl rfl rfl t6 (u4.mono (cp B5.sub C1.sub)) (u.rdO t0) C6 Q7 λD6 J5 E6 w a F6 hU o=>?_
 replace u:=hU _ (.tail (.tail (.tail (.tail (.tail (.tail .head))))))
 replace u:=u.drop .head
 refine qv o (Ae o Dm rfl) λo=>ls<|Bz o u sizeOf27 rfl rfl rfl rfl (.tail (.tail (.tail (.tail (.tail (.tail .head)))))) (.succ (.succ (.succ (.succ (.succ (.succ (.succ (.succ .zero)))))))) λw u=>re<|bn<|tn<|rg<|qm o rfl λo=>qv o (An o rfl rfl) λo=>qa o rfl λo=>re<|tn<|?_
 exact ⟨(S4,P7,(IntKind.i64.wrap (F4+1))),⟨H154,D6,J5,E6,hm,(Ext.trans n0 (Ext.trans C1 B5)),o.hs,u,F6⟩,Nat.lt_succ_self _⟩
 refine tn<|cfv o rfl G4<|we<|tx<|tx<|bx<|tn<|?_
 replace u:=u.pk [1,1,1,1,1,1] rfl
 exact ⟨B3,C3,R3,I3,S3,hm,n0,o.has ⟨rfl,rfl,trivial⟩,u,u4⟩
 rintro a w ⟨T2,D4,G3,U2,E4,hm,V2,o,u,G6⟩
 unfold Z6z at hm
 refine th<|rg<|qv o (Ar o Tryz.isAgg29 Tryz.sizeOf29 rfl rfl (u.ld.cellsB t5)) λo=>ls<|Bb o u sizeOf29 rfl rfl rfl rfl (Ao rfl) .head λw u=>qa o rfl λo=>re<|tn<|wr<|?_
 obtain ⟨H167,J3,I6,J6,u⟩:=St.frzS u (.tail .head) (L5.mono (cp (cp V2.sub S0.sub) A0.sub))
 obtain ⟨H171,K3,K6,L6,u⟩:=St.frzS u (.tail .head) (S6.mono (cp (cp (cp J3.sub V2.sub) S0.sub) A0.sub))
 obtain ⟨H175,L3,M6,O6,u⟩:=St.frzS u (.tail .head) (Q5.mono (cp (cp (cp K3.sub J3.sub) V2.sub) S0.sub))
 obtain ⟨H179,M3,P6,Q6,u⟩:=St.frzS u (.tail .head) (G6.mono (cp (cp L3.sub K3.sub) J3.sub))
 obtain rfl:=si hm
 exact r2c (vs:=[SL K0 Q0 D0,i6 R0,SL M0 E0 C0,i6 (p1.Locks.length:Int),SL j0 P0 O0,i6 I2,i6 J2,SL O2 P1 T1,SL G3 T2 U2]) (.inl rfl) o results20 rfl rfl isAgg29 sizeOf29 rfl (u.ld.cellsB t0) ⟨H179,_,rfl,(show Enc.rep (α:=api_Unit) H179 [SL K0 Q0 D0,i6 R0,SL M0 E0 C0,i6 (p1.Locks.length:Int),SL j0 P0 O0,i6 I2,i6 J2,SL O2 P1 T1,SL G3 T2 U2] (api_Unit.mk Q0 R0 E0 (p1.Locks.length:Int) P0 (api_Code.mk I2 J2 P1) T2) from ⟨_,_,rfl,⟨_,_,rfl,J6,(I6.mono (cp (cp M3.sub L3.sub) K3.sub))⟩,⟨_,_,rfl,rfl,⟨_,_,rfl,⟨_,_,rfl,L6,(K6.mono (cp M3.sub L3.sub))⟩,⟨_,_,rfl,rfl,⟨_,_,rfl,⟨_,_,rfl,O6,(M6.mono M3.sub)⟩,⟨_,_,rfl,⟨_,_,rfl,rfl,⟨_,_,rfl,rfl,⟨_,_,rfl,hcA28,(hrA29.mono (cp (cp (cp (cp M3.sub L3.sub) K3.sub) J3.sub) V2.sub))⟩⟩⟩,⟨_,_,rfl,Q6,P6⟩⟩⟩⟩⟩⟩⟩),(Ext.trans A0 (Ext.trans S0 (Ext.trans V2 (Ext.trans J3 (Ext.trans K3 (Ext.trans L3 M3)))))),(St.le u),u.keep⟩
theorem Jck (hH:H.le w0) (hT:Tab H) {cs2:List Value} {p1:api_Prog} (g3:Enc.rep H cs2 p1) {p4:Int} {r:Bool} (hm:Z23 N p1 p4=some r):Tot Tryz.prog 6 #[.agg cs2.toArray,i6 p4] w0 (λv w'=>v=.bool r∧Keep Nil w0 w'):=by
 unfold Z23 at hm
 refine fn0 func6 rfl ntmps6 rfl rfl λa o=>?_
 have u:St w0 Nil [H] [] w0:=start1 hH
 obtain ⟨E2,V0,F2,Q0,W0,R0,X0,S0,Y0,T0,j0,U0,rfl,K5,L5,G2,I2,J2,K2,O2,P2,Q2,R2,T2,U2⟩:=Bc g3
 refine th<|rg<|ls<|Br (cs:=[SL E2 p1.Lines V0,SL F2 p1.Vols Q0,SL W0 p1.Locks R0,SL X0 p1.Threads S0,SL Y0 p1.Recover T0,SL j0 p1.Claims U0].toArray) o rfl u rfl rfl λQ7 w a u o=>qa o rfl λo=>re<|tn<|th<|?_
 obtain ⟨I0,M5,hm⟩:=bs hm
 obtain ⟨A0,O5,hm⟩:=bs hm
 refine rg<|qv o (Ar o Tryz.isAgg48 Tryz.sizeOf48 rfl rfl (u.ld.cellsB t0)) λo=>ls<|c1 o rfl call19 (Jd2 (St.le u) (show Enc.rep (α:=api_Prog) H [SL E2 p1.Lines V0,SL F2 p1.Vols Q0,SL W0 p1.Locks R0,SL X0 p1.Threads S0,SL Y0 p1.Recover T0,SL j0 p1.Claims U0] p1 from ⟨_,_,rfl,⟨_,_,rfl,K5,L5⟩,⟨_,_,rfl,⟨_,_,rfl,G2,I2⟩,⟨_,_,rfl,⟨_,_,rfl,J2,K2⟩,⟨_,_,rfl,⟨_,_,rfl,O2,P2⟩,⟨_,_,rfl,⟨_,_,rfl,Q2,R2⟩,⟨_,_,rfl,T2,U2⟩⟩⟩⟩⟩⟩) M5) ⟨rfl,trivial⟩ (λv w a hR o=>?_)
 obtain ⟨H35,cs36,rfl,P5,J0,V2,hk⟩:=hR
 obtain ⟨u,J0⟩:=And.intro (St.passH u hk J0 V2) (St.extc u J0)
 obtain ⟨W2,C1,X2,D1,Y2,E1,u2,F1,A3,I1,B3,J1,rfl,C3,D3,E3,F3,G3,I3,J3,K3,L3,M3,O3,P3⟩:=Bc P5
 refine ls<|c1 o rfl call20 (Jc3 (St.le u) (show Enc.rep (α:=api_Prog) H35 [SL W2 I0.Lines C1,SL X2 I0.Vols D1,SL Y2 I0.Locks E1,SL u2 I0.Threads F1,SL A3 I0.Recover I1,SL B3 I0.Claims J1] I0 from ⟨_,_,rfl,⟨_,_,rfl,C3,D3⟩,⟨_,_,rfl,⟨_,_,rfl,E3,F3⟩,⟨_,_,rfl,⟨_,_,rfl,G3,I3⟩,⟨_,_,rfl,⟨_,_,rfl,J3,K3⟩,⟨_,_,rfl,⟨_,_,rfl,L3,M3⟩,⟨_,_,rfl,O3,P3⟩⟩⟩⟩⟩⟩) O5) ⟨rfl,trivial⟩ (λv w a hR o=>?_)
 obtain ⟨H67,cs68,rfl,Q5,K0,Q3,hk⟩:=hR
 obtain ⟨u,K0⟩:=And.intro (St.passH u hk K0 Q3) (St.extc u K0)
 have R5:Enc.rep (α:=(List Int)×Int×(List Int)×Int×(List api_Code)×api_Code×(List (List api_Op))) H67 cs68 (A0.1.Lines,A0.1.Stays,A0.1.Firsts,A0.1.Locks,A0.1.Threads,A0.1.Recover,A0.1.Claims):=Q5
 obtain ⟨q71,q72,rfl,S5,T5⟩:=R5
 obtain ⟨R3,O1,rfl,S3,T3⟩:=S5
 obtain ⟨q79,q80,rfl,U5,V5⟩:=T5
 obtain rfl:q79=[i6 A0.1.Stays]:=U5
 obtain ⟨q83,q84,rfl,W5,X5⟩:=V5
 obtain ⟨U3,P1,rfl,V3,W3⟩:=W5
 obtain ⟨q91,q92,rfl,Y5,d5⟩:=X5
 obtain rfl:q91=[i6 A0.1.Locks]:=Y5
 obtain ⟨q95,q96,rfl,j5,l5⟩:=d5
 obtain ⟨X3,n0,rfl,Q1,R1⟩:=j5
 obtain ⟨q103,q104,rfl,Y3,l3⟩:=l5
 obtain ⟨S1,u0,rfl,T1,U1⟩:=Am Y3
 obtain ⟨V1,B1,rfl,X1,Y1⟩:=l3
 refine qm o rfl λo=>?_
 iterate 2 refine qv o (Dd o rfl rfl) λo=>?_
 refine ls<|As (cs:=[.slice none 0 0,i6 0,.slice none 0 0,i6 0,.slice none 0 0,i6 0,i6 0,.slice none 0 0,.slice none 0 0].toArray) o rfl u zeroValue29 rfl λG7 w a u o=>ls<|Bb o u sizeOf29 rfl rfl rfl rfl (Ao rfl) .head λw u=>qa o rfl λo=>re<|tn<|th<|th<|rg<|qm o rfl λo=>qv o (Bh o rfl rfl) λo=>re<|?_
 rcases bip hm with ⟨M0,hm⟩ | ⟨M0,hm⟩
 refine tn<|ctv o rfl M0<|th<|?_
 obtain ⟨I7,n3,hm⟩:=bs hm
 refine rg<|ls<|c1 o rfl Tryz.call13 (Jbp (Ah _) (Tab.mono (Tab.mono hT (cp K0.sub J0.sub)) (St.up u)) n3) trivial (λv w a hR o=>?_)
 obtain ⟨rfl,hk⟩:=hR
 replace u:=u.pass hk
 refine qa o rfl λo=>re<|tn<|wr<|tr<|?_
 obtain rfl:=si hm
 exact r1 o results6 rfl ⟨rfl,u.keep⟩
 refine tn<|cfv o rfl M0<|wk<|tn<|th<|?_
 obtain ⟨E0,u3,hm⟩:=bs hm
 refine rg<|qv o (Ar o Tryz.isAgg29 Tryz.sizeOf29 rfl rfl (u.ld.cellsB t0)) λo=>ls<|cr o call8 (JaN (Ah _) (Enc.mono (St.up u) (show Enc.rep (α:=api_Unit) H67 [SL R3 A0.1.Lines O1,i6 A0.1.Stays,SL U3 A0.1.Firsts P1,i6 A0.1.Locks,SL X3 A0.1.Threads n0,i6 A0.1.Recover.Regs,i6 A0.1.Recover.Counts,SL S1 A0.1.Recover.L u0,SL V1 A0.1.Claims B1] A0.1 from ⟨_,_,rfl,⟨_,_,rfl,S3,T3⟩,⟨_,_,rfl,rfl,⟨_,_,rfl,⟨_,_,rfl,V3,W3⟩,⟨_,_,rfl,rfl,⟨_,_,rfl,⟨_,_,rfl,Q1,R1⟩,⟨_,_,rfl,⟨_,_,rfl,rfl,⟨_,_,rfl,rfl,⟨_,_,rfl,T1,U1⟩⟩⟩,⟨_,_,rfl,X1,Y1⟩⟩⟩⟩⟩⟩⟩)) u3) u λu o=>qm o rfl λo=>?_
 iterate 2 refine qv o (Dd o rfl rfl) λo=>?_
 iterate 2 refine qa o rfl λo=>?_
 refine re<|tn<|th<|th<|rg<|qm o rfl λo=>qv o (Bh o rfl rfl) λo=>qm o rfl λo=>gr (Fk:=[(1,i6 p4),(7,Ag E0.1),(33,.bool ((decide (E0.2≠0)) || (decide ((E0.1.length:Int)=0))))]) 29 4 o u ?_ ?_ ?_
 intro hb o key
 iterate 3 refine qn o λo=>?_
 exact qk o (Ac o rfl rfl) key u hb
 intro hb o key
 exact qg o (Ab o rfl) λo=>qg o (Cu (s:=E0.1) o runUnderlying9 rfl) λo=>qg o (Aq o rfl rfl) λo=>qk o (Ad o rfl rfl) key u hb
 intro a w o u
 refine re<|?_
 obtain ⟨_,O0,hm⟩:=bs hm
 replace O0:=bnt (Fv O0)
 refine tn<|cfv o rfl O0<|wk<|tn<|th<|?_
 obtain ⟨A4,B4,hm⟩:=bs hm
 obtain ⟨J7,C4,hm⟩:=bs hm
 obtain ⟨C0,D4,hm⟩:=bs hm
 refine rg<|qm o rfl λo=>qm o rfl λo=>qv o (JbL o rfl rfl) λo=>qm o rfl λo=>qv o (Cu (s:=E0.1) o runUnderlying9 rfl) λo=>qv o (Jcc o rfl rfl B4) λo=>qv o (Jj (s:=E0.1) (vl:=0) (vh:=A4) o runUnderlying9 rfl rfl rfl C4) λo=>ls<|c1 o rfl call10 (JaP (St.le u) D4) ⟨rfl,trivial⟩ (λv w a hR o=>?_)
 obtain ⟨H131,cs132,rfl,E4,F0,u1,hk⟩:=hR
 obtain ⟨u,F0⟩:=And.intro (St.passH u hk F0 u1) (St.extc u F0)
 have F4:Enc.rep (α:=(List Int)×Int×(List Int)×Int×(List api_Code)×api_Code×(List (List api_Op))) H131 cs132 (C0.1.Lines,C0.1.Stays,C0.1.Firsts,C0.1.Locks,C0.1.Threads,C0.1.Recover,C0.1.Claims):=E4
 obtain ⟨q135,q136,rfl,G4,I4⟩:=F4
 obtain ⟨J6,n5,rfl,K6,L6⟩:=G4
 obtain ⟨q143,q144,rfl,J4,K4⟩:=I4
 obtain rfl:q143=[i6 C0.1.Stays]:=J4
 obtain ⟨q147,q148,rfl,L4,M4⟩:=K4
 obtain ⟨M6,u5,rfl,O6,P6⟩:=L4
 obtain ⟨q155,q156,rfl,O4,P4⟩:=M4
 obtain rfl:q155=[i6 C0.1.Locks]:=O4
 obtain ⟨q159,q160,rfl,Q4,R4⟩:=P4
 obtain ⟨Q6,A6,rfl,R6,S6⟩:=Q4
 obtain ⟨q167,q168,rfl,S4,T4⟩:=R4
 obtain ⟨T6,B6,rfl,U6,V6⟩:=Am S4
 obtain ⟨W6,C6,rfl,X6,Y6⟩:=T4
 refine qm o rfl λo=>?_
 iterate 2 refine qv o (Dd o rfl rfl) λo=>?_
 refine ls<|As (cs:=[.slice none 0 0,i6 0,.slice none 0 0,i6 0,.slice none 0 0,i6 0,i6 0,.slice none 0 0,.slice none 0 0].toArray) o rfl u zeroValue29 rfl λK7 w a u o=>ls<|Bb o u sizeOf29 rfl rfl rfl rfl (Ao rfl) .head λw u=>qa o rfl λo=>re<|tn<|th<|?_
 obtain ⟨L7,U4,hm⟩:=bs hm
 obtain ⟨D0,V4,hm⟩:=bs hm
 refine rg<|qm o rfl λo=>qm o rfl λo=>qv o (Nv o runUnderlying3 runUnderlying5 rfl) λo=>ls<|Bj (e:=5) (sz:=1) [.int .u8 (IntKind.u8.wrap p4)] o rfl u rfl rfl rfl (λw=>by kernel_rfl) λM7 w a u o=>?_
 have B2:Rows (α:=(IntK .u8)) H131 [.int .u8 (IntKind.u8.wrap p4)] ([(IntK.mk (IntKind.u8.wrap p4))]:List (IntK .u8)):=(.cons (c:=[.int .u8 (IntKind.u8.wrap p4)]) rfl .nil)
 refine qv o (Pz (xs:=([(IntK.mk (IntKind.u8.wrap p4))]:List (IntK .u8))) o underlying52 underlying5 underlying9 rfl (u.ld.rdO t0) B2) λo=>qv o (Bi o rfl rfl U4) λo=>ls<|c1 o rfl call10 (JaP (St.le u) V4) ⟨rfl,trivial⟩ (λv w a hR o=>?_)
 obtain ⟨H190,cs191,rfl,W4,G0,C2,hk⟩:=hR
 obtain ⟨u,G0⟩:=And.intro (St.passH u hk G0 C2) (St.extc u G0)
 have X4:Enc.rep (α:=(List Int)×Int×(List Int)×Int×(List api_Code)×api_Code×(List (List api_Op))) H190 cs191 (D0.1.Lines,D0.1.Stays,D0.1.Firsts,D0.1.Locks,D0.1.Threads,D0.1.Recover,D0.1.Claims):=W4
 obtain ⟨q194,q195,rfl,Y4,d4⟩:=X4
 obtain ⟨d6,D6,rfl,j6,k6⟩:=Y4
 obtain ⟨q202,q203,rfl,l4,u4⟩:=d4
 obtain rfl:q202=[i6 D0.1.Stays]:=l4
 obtain ⟨q206,q207,rfl,A5,B5⟩:=u4
 obtain ⟨l6,E6,rfl,n6,u6⟩:=A5
 obtain ⟨q214,q215,rfl,C5,D5⟩:=B5
 obtain rfl:q214=[i6 D0.1.Locks]:=C5
 obtain ⟨q218,q219,rfl,E5,F5⟩:=D5
 obtain ⟨v6,F6,rfl,y6,z6⟩:=E5
 obtain ⟨q226,q227,rfl,G5,I5⟩:=F5
 obtain ⟨A7,G6,rfl,B7,C7⟩:=Am G5
 obtain ⟨D7,I6,rfl,E7,F7⟩:=I5
 refine qm o rfl λo=>?_
 iterate 2 refine qv o (Dd o rfl rfl) λo=>?_
 refine ls<|As (cs:=[.slice none 0 0,i6 0,.slice none 0 0,i6 0,.slice none 0 0,i6 0,i6 0,.slice none 0 0,.slice none 0 0].toArray) o rfl u zeroValue29 rfl λO7 w a u o=>ls<|Bb o u sizeOf29 rfl rfl rfl rfl (Ao rfl) .head λw u=>qa o rfl λo=>re<|tn<|th<|?_
 rcases bit hm with ⟨P0,hm⟩ | ⟨P0,hm⟩
 obtain ⟨P7,J5,hm⟩:=bs hm
 refine rg<|qm o rfl λo=>qv o (Aq o rfl rfl) λo=>qm o rfl λo=>gr (Fk:=[(60,.bool ((decide (C0.2=8)) && (decide (D0.2=8))))]) 57 3 o u ?_ ?_ ?_
 intro hb o key
 exact qg o (Ab o rfl) λo=>qg o (Aq o rfl rfl) λo=>qk o (Ac o rfl rfl) key u hb
 intro hb o key
 iterate 2 refine qn o λo=>?_
 exact qk o (Ad o rfl rfl) key u hb
 intro a w o u
 refine qv o (Ax (Ab o rfl) (congrArg Value.bool P0)) λo=>ls<|gy o rfl rfl<|c1 o rfl call13 (Jbp (Ah _) (Tab.mono (Tab.mono hT (cp (cp (cp G0.sub F0.sub) K0.sub) J0.sub)) (St.up u)) J5) trivial (λv w a hR o=>?_)
 obtain ⟨rfl,hk⟩:=hR
 replace u:=u.pass hk
 refine qv o (Ac o rfl rfl) λo=>qa o rfl λo=>re<|tn<|wr<|?_
 obtain rfl:=si hm
 exact r1 o results6 rfl ⟨rfl,u.keep⟩
 refine rg<|qm o rfl λo=>qv o (Aq o rfl rfl) λo=>qm o rfl λo=>gr (Fk:=[(60,.bool ((decide (C0.2=8)) && (decide (D0.2=8))))]) 57 3 o u ?_ ?_ ?_
 intro hb o key
 exact qg o (Ab o rfl) λo=>qg o (Aq o rfl rfl) λo=>qk o (Ac o rfl rfl) key u hb
 intro hb o key
 iterate 2 refine qn o λo=>?_
 exact qk o (Ad o rfl rfl) key u hb
 intro a w o u
 refine qv o (Ax (Ab o rfl) (congrArg Value.bool P0)) λo=>qn o λo=>qv o (Ad o rfl rfl) λo=>qa o rfl λo=>re<|tn<|wr<|?_
 obtain rfl:=si hm
 exact r1 o results6 rfl ⟨rfl,u.keep⟩
end Go.LM.BINZ
