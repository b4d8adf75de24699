/- Walks, lifted by program. No condition beyond the theorems' own premises. -/
import Derived.Test.YtchhelkhllkpkaaGreatDoorSWQ2
namespace Go.LM.SWAPS
open Go Go.LL Go.MD Go.LM Go.Proofs Go.MD.SWAPS Go.Proofs.Tryz
open Go.IntKind (i64)
set_option maxRecDepth 100000
set_option maxHeartbeats 4000000
variable {N:Nat} {w0:World} {H:PH}
theorem JgA:∀ (N:Nat) {w0:World} {H:PH} (hH:H.le w0) {cs2:List Value} {p1:leadlineref09_Env} (g3:Enc.rep H cs2 p1) {T1:Option Addr} {n0:Nat} {p4:(List api_Stmt)} (O1:p4.length≤n0) (U1:SR H T1 p4) {p9:Int} {p10:Int} {p11:Int} {r:(List api_Instr)} (hm:Z5f N p1 p4 p9 p10 p11=some r),Tot Tryz.prog 60 #[.agg cs2.toArray,SL T1 p4 n0,i6 p9,i6 p10,i6 p11] w0 (λv w'=>∃ (H':PH) (R6:Option Addr) (L3:Nat),v=SL R6 r L3∧r.length≤L3∧SR H' R6 r∧Ext w0 H H'∧H'.le w'∧Keep Nil w0 w'):=by
 intro N
 induction N with
  | zero=>intros;rename_i hm;simp [Z5f] at hm
  | succ N ih=>
 intro w0 H hH cs2 p1 g3 T1 n0 p4 O1 U1 p9 p10 p11 r hm
 rw [Z5f] at hm
 refine fn0 func60 rfl ntmps60 rfl rfl λa o=>?_
 have u:St w0 Nil [H] [] w0:=start1 hH
 have D8:Enc.rep (α:=api_Prog×(List Str)) H cs2 (p1.P,p1.Regs):=g3
 obtain ⟨q13,q14,rfl,E8,F8⟩:=D8
 obtain ⟨C1,M0,oa21,cap22,D1,O0,E1,P0,F1,Q0,I1,R0,rfl,M3,O3,P3,Q3,R3,S3,T3,U3,V3,W3,X3,Y3⟩:=Bc E8
 obtain ⟨J1,S0,rfl,T2,U2⟩:=F8
 refine th<|rg<|ls<|Bo (cs:=(enC C1 M0 oa21 cap22 D1 O0 E1 P0 F1 Q0 I1 R0 J1 S0 p1).toArray) o rfl u rfl rfl λV1 w a u o=>qa o rfl λo=>re<|tn<|th<|th<|rg<|qm o rfl λo=>qv o (Aj (α:=api_Stmt) (xs:=p4) o Ew rfl) λo=>qv o (Ah o rfl rfl) λo=>re<|?_
 rcases bip hm with ⟨V2,hm⟩ | ⟨V2,hm⟩
 refine tn<|ctv o rfl V2<|th<|rg<|qa o rfl λo=>re<|tn<|wr<|tr<|?_
 obtain rfl:=si hm
 exact r1 o results60 rfl ⟨H,_,_,rfl,(kxb 0),(SR.nil _ _),(Ext.refl _ _),(St.le u),u.keep⟩
 refine tn<|cfv o rfl V2<|wk<|tn<|th<|?_
 obtain ⟨C0,S6,hm⟩:=bs hm
 obtain ⟨T9,I8,j6⟩:=SR.get U1 S6
 obtain ⟨A4,E3,B4,F3,rfl,C4,D4,n6,u6⟩:=Cb I8
 refine rg<|qm o rfl λo=>qv o (eI o Ew sizeOf130 rfl rfl S6 U1) λo=>qv o (eC o isAgg130 sizeOf130 rfl u.ld j6) λo=>ls<|Aq (cs:=[i6 0,Ae [],Ae [],.slice none 0 0,.slice none 0 0,i6 0,i6 0,i6 0,i6 0].toArray) o rfl u zeroValue130 rfl λT6 w a u o=>ls<|Ar o u sizeOf130 rfl rfl rfl rfl (Ak rfl) .head λw u=>re<|tn<|th<|rg<|qf o Ho rfl λo=>qB o isAgg3 rfl u t0 rfl λo=>qv o (Ao o rfl rfl) λo=>qa o rfl λo=>re<|tn<|th<|rg<|qm o rfl λo=>qf o El rfl λo=>qB o isAgg3 rfl u t0 rfl λo=>qv o (Ao o rfl rfl) λo=>qa o rfl λo=>re<|tn<|th<|?_
 obtain ⟨U6,V6,hm⟩:=bs hm
 obtain ⟨v6,S4,e65,e66,Y1,u1⟩:=SR.sub (sz:=9) U1 O1 rfl V6
 obtain ⟨I3,W6,hm⟩:=bs hm
 obtain ⟨E4,J3,e73,e74,F4,I4⟩:=SR.sub (sz:=9) U1 O1 rfl W6
 refine rxS 9 u wide (by kernel_rfl) λw u=>?_
 iterate 2 refine xq u.ld o (λw hl=>Aa o rfl) λo=>?_
 refine xr u o (Dc (xs:=p4) (vl:=1) (vh:=(i64.wrap (1+C0.Body))) o Ew sizeOf130 rfl O1 rfl rfl V6 e65 e66) λo=>?_
 iterate 3 refine xq u.ld o (λw hl=>Aa o rfl) λo=>?_
 refine xr u o (Dc (xs:=p4) (vl:=(i64.wrap (1+C0.Body))) (vh:=(i64.wrap ((i64.wrap (1+C0.Body))+C0.Else))) o Ew sizeOf130 rfl O1 rfl rfl W6 e73 e74) λo=>?_
 iterate 2 refine xq u.ld o (λw hl=>Ca o rfl) λo=>?_
 refine xe<|tn<|th<|rg<|ls<|bz (e:=157) (sz:=6) [] o u λX6 u o=>?_
 have C2:Rows (α:=api_Instr) H [] []:=.nil
 refine qa o rfl λo=>re<|tn<|th<|th<|rg<|qf o Cz rfl λo=>qB o isAgg3 rfl u t1 rfl λo=>re<|tn<|Av (λa w=>∃ (P1:(List api_Instr)) (R2:PH) (W2:Option Addr) (E2:Nat) (X2:List Value),(Z5g (Z5f N) p1 p4 p9 p10 p11 C0) P1=some r∧Ext w0 H R2∧Fr 156 [(1,SL T1 p4 n0),(2,i6 p9),(3,i6 p10),(4,i6 p11),(5,PT V1),(13,i6 (i64.wrap ((i64.wrap (1+C0.Body))+C0.Else))),(16,SL W2 P1 E2)] a∧St w0 Nil [R2] [bk V1 (enC C1 M0 oa21 cap22 D1 O0 E1 P0 F1 Q0 I1 R0 J1 S0 p1) 136,sla 157 6 W2 P1.length E2 X2] w∧Rows R2 X2 P1) ?_ ?_
 refine wb<|th<|rg<|qv o (Ah o rfl rfl) λo=>qa o rfl λo=>re<|?_
 rcases bip hm with ⟨Y2,hm⟩ | ⟨Y2,hm⟩
 refine tn<|ctv o rfl Y2<|th<|?_
 obtain ⟨T0,J8,hm⟩:=bs hm
 refine rg<|qf o Hr rfl λo=>qB o isAgg82 rfl u t1 rfl λo=>qf o Pr rfl λo=>qB o isAgg75 rfl u t2 rfl λo=>ls<|c1 o rfl call21 (Ja3 (Ag _) C4 (St.srH u D4) T2 (St.srH u U2) J8) ⟨rfl,rfl,trivial⟩ (λv w a hR o=>?_)
 obtain ⟨U0,K0,y6,rfl,A3,hk⟩:=hR
 replace u:=u.fresh hk
 replace A3:=A3 H
 refine qm o rfl λo=>?_
 iterate 2 refine qv o (Dt o rfl rfl) λo=>?_
 iterate 2 refine qa o rfl λo=>?_
 refine re<|tn<|th<|?_
 obtain ⟨Y6,K8,hm⟩:=bs hm
 refine rg<|qm o rfl λo=>qv o (Ao o rfl rfl) λo=>qm o rfl λo=>ls<|cr o call84 (Jcm _ (Ag _) Y1 (St.srH u u1) K8) u λu o=>qv o (Ao o rfl rfl) λo=>qa o rfl λo=>re<|tn<|th<|th<|rg<|qf o El rfl λo=>qB o isAgg3 rfl u t2 rfl λo=>qv o (Ba o rfl rfl) λo=>re<|tn<|Av (λa w=>∃ (D0:Int),(Z5h (Z5f N) N (Z5g (Z5f N) p1 p4 p9 p10 p11 C0) p1 p9 p10 p11 C0 U6 I3 T0) D0=some r∧Fr 156 [(1,SL T1 p4 n0),(2,i6 p9),(3,i6 p10),(4,i6 p11),(5,PT V1),(11,PT T6),(13,i6 (i64.wrap ((i64.wrap (1+C0.Body))+C0.Else))),(14,SL v6 U6 S4),(15,SL E4 I3 J3),(16,.slice (some ⟨X6,0,none⟩) 0 0),(17,SL U0 T0.1 K0),(19,i6 D0)] a∧St w0 Nil [H] [bk V1 (enC C1 M0 oa21 cap22 D1 O0 E1 P0 F1 Q0 I1 R0 J1 S0 p1) 136,bk T6 (stC A4 E3 B4 F3 C0) 130,sla 157 6 (some ⟨X6,0,none⟩) 0 0 [],sla 176 2 U0 T0.1.length K0 y6] w) ?_ ?_
 rcases bip hm with ⟨B3,hm⟩ | ⟨B3,hm⟩
 refine ctv o rfl B3<|rg<|qm o rfl λo=>qv o (Ao o rfl rfl) λo=>qa o rfl λo=>re<|tn<|?_
 replace u:=u.pk [3,2,1,0] rfl
 exact ⟨(i64.wrap ((i64.wrap ((i64.wrap (p9+1))+Y6))+1)),hm,o.hs,u⟩
 refine cfv o rfl B3<|wk<|tn<|?_
 replace u:=u.pk [3,2,1,0] rfl
 exact ⟨(i64.wrap ((i64.wrap (p9+1))+Y6)),hm,o.hs,u⟩
 rintro a w ⟨D0,hm,o,u⟩
 unfold Z5h at hm
 refine th<|?_
 obtain ⟨L8,M8,hm⟩:=bs hm
 refine rg<|qm o rfl λo=>?_
 iterate 2 refine qm o rfl λo=>?_
 refine qv o (bL [i6 12,SL U0 T0.1 K0,i6 D0] [i6 12,i6 0,i6 0,SL U0 T0.1 K0,.slice none 0 0,i6 D0] o) λo=>?_
 obtain ⟨H94,E0,z6,A7,u⟩:=St.frzS u (.tail (.tail (.tail .head))) A3
 refine ls<|bz (e:=157) (sz:=6) [i6 12,i6 0,i6 0,SL U0 T0.1 K0,.slice none 0 0,i6 D0] o u λU9 u o=>?_
 have B7:Rows (α:=api_Instr) H94 [i6 12,i6 0,i6 0,SL U0 T0.1 K0,.slice none 0 0,i6 D0] ([(api_Instr.mk 12 0 0 T0.1 [] D0)]:List api_Instr):=(.cons (c:=[i6 12,i6 0,i6 0,SL U0 T0.1 K0,.slice none 0 0,i6 D0]) ⟨_,_,rfl,rfl,⟨_,_,rfl,rfl,⟨_,_,rfl,rfl,⟨_,_,rfl,⟨_,_,rfl,A7,z6⟩,⟨_,_,rfl,⟨none,0,rfl,kxb _,SR.nil _ _⟩,rfl⟩⟩⟩⟩⟩ .nil)
 refine ls<|Ay (α:=api_Instr) (xs:=[]) (ys:=([(api_Instr.mk 12 0 0 T0.1 [] D0)]:List api_Instr)) o rfl u underlying31 Gm rfl (by decide) rfl rfl rfl t3 (C2.mono E0.sub) (u.rdO t0) B7 M8 λX8 O8 Y8 w a T4 hU o=>?_
 replace u:=hU _ (.tail (.tail (.tail .head)))
 replace u:=u.drop .head
 refine qa o rfl λo=>re<|tn<|th<|?_
 obtain ⟨C7,D7,hm⟩:=bs hm
 obtain ⟨J4,E7,hm⟩:=bs hm
 refine rg<|qm o rfl λo=>qv o (An o isAgg136 sizeOf136 rfl rfl (u.ld.cellsB t0)) λo=>?_
 iterate 2 refine qm o rfl λo=>?_
 refine qv o (Ao o rfl rfl) λo=>?_
 iterate 2 refine qm o rfl λo=>?_
 refine ls<|c1 o rfl call60 (ih (St.le u) (show Enc.rep (α:=leadlineref09_Env) H94 (enC C1 M0 oa21 cap22 D1 O0 E1 P0 F1 Q0 I1 R0 J1 S0 p1) p1 from ⟨_,_,rfl,⟨_,_,rfl,⟨_,_,rfl,M3,(O3.mono E0.sub)⟩,⟨_,_,rfl,⟨_,_,rfl,P3,(Q3.mono E0.sub)⟩,⟨_,_,rfl,⟨_,_,rfl,R3,(S3.mono E0.sub)⟩,⟨_,_,rfl,⟨_,_,rfl,T3,(U3.mono E0.sub)⟩,⟨_,_,rfl,⟨_,_,rfl,V3,(W3.mono E0.sub)⟩,⟨_,_,rfl,X3,(Y3.mono E0.sub)⟩⟩⟩⟩⟩⟩,⟨_,_,rfl,T2,(U2.mono E0.sub)⟩⟩) Y1 (u1.mono E0.sub) D7) ⟨rfl,rfl,rfl,rfl,rfl,trivial⟩ (λv w a hR o=>?_)
 obtain ⟨H109,d8,P8,rfl,j8,U4,I0,V4,hk⟩:=hR
 obtain ⟨u,I0⟩:=And.intro (St.passH u hk I0 V4) (St.extc u I0)
 obtain ⟨us120,hd121,hu122⟩:=id U4
 refine ls<|Ay (α:=api_Instr) (xs:=L8) (ys:=C7) o rfl u underlying31 Gm rfl (by decide) rfl rfl rfl t2 (T4.mono I0.sub) (u.rdH t0 hd121) hu122 E7 λW4 K4 X4 w a K3 hU o=>?_
 replace u:=hU _ (.tail (.tail .head))
 refine qa o rfl λo=>re<|tn<|th<|th<|rg<|qf o El rfl λo=>qB o isAgg3 rfl u t1 rfl λo=>qv o (Ba o rfl rfl) λo=>re<|tn<|Av (λa w=>∃ (X1:(List api_Instr)) (C3:Option Addr) (F2:Nat) (D3:List Value),(Z5i (Z5f N) (Z5g (Z5f N) p1 p4 p9 p10 p11 C0) p1 p10 p11 I3 D0) X1=some r∧Fr 156 [(1,SL T1 p4 n0),(2,i6 p9),(3,i6 p10),(4,i6 p11),(5,PT V1),(13,i6 (i64.wrap ((i64.wrap (1+C0.Body))+C0.Else))),(15,SL E4 I3 J3),(16,SL C3 X1 F2),(19,i6 D0)] a∧St w0 Nil [H109] [bk V1 (enC C1 M0 oa21 cap22 D1 O0 E1 P0 F1 Q0 I1 R0 J1 S0 p1) 136,sla 157 6 C3 X1.length F2 D3] w∧Rows H109 D3 X1) ?_ ?_
 rcases bip hm with ⟨I2,hm⟩ | ⟨I2,hm⟩
 refine ctv o rfl I2<|?_
 obtain ⟨V0,F7,hm⟩:=bs hm
 obtain ⟨I7,J7,hm⟩:=bs hm
 refine rg<|qm o rfl λo=>?_
 iterate 2 refine qm o rfl λo=>?_
 refine ls<|cr o call84 (Jcm _ (Ag _) F4 (St.srH u (I4.mono (cp I0.sub E0.sub))) F7) u λu o=>qv o (Ao o rfl rfl) λo=>qv o (bL [i6 11,i6 (i64.wrap (D0+V0))] [i6 11,i6 0,i6 0,.slice none 0 0,.slice none 0 0,i6 (i64.wrap (D0+V0))] o) λo=>ls<|bz (e:=157) (sz:=6) [i6 11,i6 0,i6 0,.slice none 0 0,.slice none 0 0,i6 (i64.wrap (D0+V0))] o u λK9 u o=>?_
 have Y4:Rows (α:=api_Instr) H109 [i6 11,i6 0,i6 0,.slice none 0 0,.slice none 0 0,i6 (i64.wrap (D0+V0))] ([(api_Instr.mk 11 0 0 [] [] (i64.wrap (D0+V0)))]:List api_Instr):=(.cons (c:=[i6 11,i6 0,i6 0,.slice none 0 0,.slice none 0 0,i6 (i64.wrap (D0+V0))]) ⟨_,_,rfl,rfl,⟨_,_,rfl,rfl,⟨_,_,rfl,rfl,⟨_,_,rfl,⟨none,0,rfl,kxb _,SR.nil _ _⟩,⟨_,_,rfl,⟨none,0,rfl,kxb _,SR.nil _ _⟩,rfl⟩⟩⟩⟩⟩ .nil)
 refine ls<|Ay (α:=api_Instr) (xs:=J4) (ys:=([(api_Instr.mk 11 0 0 [] [] (i64.wrap (D0+V0)))]:List api_Instr)) o rfl u underlying31 Gm rfl (by decide) rfl rfl rfl t3 K3 (u.rdO t0) Y4 J7 λA5 L4 B5 w a C5 hU o=>?_
 replace u:=hU _ (.tail (.tail (.tail .head)))
 replace u:=u.drop .head
 refine qa o rfl λo=>re<|tn<|?_
 replace u:=u.pk [0,1] rfl
 exact ⟨I7,A5,L4,B5,hm,o.hs,u,C5⟩
 refine cfv o rfl I2<|wk<|tn<|?_
 replace u:=u.pk [0,1] rfl
 exact ⟨J4,W4,K4,X4,hm,o.hs,u,K3⟩
 rintro a w ⟨X1,C3,F2,D3,hm,o,u,K7⟩
 unfold Z5i at hm
 obtain ⟨L7,M7,hm⟩:=bs hm
 obtain ⟨O7,P7,hm⟩:=bs hm
 refine rg<|qm o rfl λo=>qv o (An o isAgg136 sizeOf136 rfl rfl (u.ld.cellsB t0)) λo=>?_
 iterate 4 refine qm o rfl λo=>?_
 refine ls<|c1 o rfl call60 (ih (St.le u) (Enc.mono (cp I0.sub E0.sub) g3) F4 (I4.mono (cp I0.sub E0.sub)) M7) ⟨rfl,rfl,rfl,rfl,rfl,trivial⟩ (λv w a hR o=>?_)
 obtain ⟨H140,n8,Q8,rfl,o8,D5,W0,E5,hk⟩:=hR
 obtain ⟨u,W0⟩:=And.intro (St.passH u hk W0 E5) (St.extc u W0)
 obtain ⟨us151,hd152,hu153⟩:=id D5
 refine ls<|Ay (α:=api_Instr) (xs:=X1) (ys:=L7) o rfl u underlying31 Gm rfl (by decide) rfl rfl rfl t1 (K7.mono W0.sub) (u.rdH t0 hd152) hu153 P7 λF5 M4 I5 w a J5 hU o=>?_
 replace u:=hU _ (.tail .head)
 refine qa o rfl λo=>re<|bn<|tn<|?_
 exact ⟨O7,H140,F5,M4,I5,hm,(Ext.trans E0 (Ext.trans I0 W0)),o.hs,u,J5⟩
 refine tn<|cfv o rfl Y2<|th<|rg<|qv o (Ah o rfl rfl) λo=>qa o rfl λo=>re<|?_
 rcases bip hm with ⟨J2,hm⟩ | ⟨J2,hm⟩
 refine tn<|ctv o rfl J2<|th<|?_
 obtain ⟨L9,Q7,hm⟩:=bs hm
 refine rg<|qm o rfl λo=>qv o (Ao o rfl rfl) λo=>qm o rfl λo=>ls<|cr o call84 (Jcm _ (Ag _) Y1 (St.srH u u1) Q7) u λu o=>qv o (Ao o rfl rfl) λo=>qa o rfl λo=>re<|tn<|th<|?_
 obtain ⟨R7,S7,hm⟩:=bs hm
 refine rg<|qm o rfl λo=>qm o rfl λo=>qf o N3 rfl λo=>qB o isAgg3 rfl u t1 rfl λo=>qv o (bL [i6 13,i6 p10,i6 C0.N] [i6 13,i6 p10,i6 C0.N,.slice none 0 0,.slice none 0 0,i6 0] o) λo=>ls<|bz (e:=157) (sz:=6) [i6 13,i6 p10,i6 C0.N,.slice none 0 0,.slice none 0 0,i6 0] o u λM9 u o=>?_
 have K5:Rows (α:=api_Instr) H [i6 13,i6 p10,i6 C0.N,.slice none 0 0,.slice none 0 0,i6 0] ([(api_Instr.mk 13 p10 C0.N [] [] 0)]:List api_Instr):=(.cons (c:=[i6 13,i6 p10,i6 C0.N,.slice none 0 0,.slice none 0 0,i6 0]) ⟨_,_,rfl,rfl,⟨_,_,rfl,rfl,⟨_,_,rfl,rfl,⟨_,_,rfl,⟨none,0,rfl,kxb _,SR.nil _ _⟩,⟨_,_,rfl,⟨none,0,rfl,kxb _,SR.nil _ _⟩,rfl⟩⟩⟩⟩⟩ .nil)
 refine ls<|Ay (α:=api_Instr) (xs:=[]) (ys:=([(api_Instr.mk 13 p10 C0.N [] [] 0)]:List api_Instr)) o rfl u underlying31 Gm rfl (by decide) rfl rfl rfl t1 C2 (u.rdO t0) K5 S7 λv8 R8 y8 w a L5 hU o=>?_
 replace u:=hU _ (.tail .head)
 replace u:=u.drop .head
 refine qa o rfl λo=>re<|tn<|th<|?_
 obtain ⟨T7,U7,hm⟩:=bs hm
 obtain ⟨V7,W7,hm⟩:=bs hm
 refine rg<|qm o rfl λo=>qv o (An o isAgg136 sizeOf136 rfl rfl (u.ld.cellsB t2)) λo=>?_
 iterate 2 refine qm o rfl λo=>?_
 refine qv o (Ao o rfl rfl) λo=>qm o rfl λo=>qv o (Ao o rfl rfl) λo=>qm o rfl λo=>ls<|c1 o rfl call60 (ih (St.le u) g3 Y1 u1 U7) ⟨rfl,rfl,rfl,rfl,rfl,trivial⟩ (λv w a hR o=>?_)
 obtain ⟨H171,z8,S8,rfl,A9,M5,Y0,O5,hk⟩:=hR
 obtain ⟨u,Y0⟩:=And.intro (St.passH u hk Y0 O5) (St.extc u Y0)
 obtain ⟨us182,hd183,hu184⟩:=id M5
 refine ls<|Ay (α:=api_Instr) (xs:=R7) (ys:=T7) o rfl u underlying31 Gm rfl (by decide) rfl rfl rfl t0 (L5.mono Y0.sub) (u.rdH t0 hd183) hu184 W7 λB9 T8 C9 w a P5 hU o=>?_
 replace u:=hU _ .head
 refine qa o rfl λo=>re<|tn<|?_
 obtain ⟨X7,Y7,hm⟩:=bs hm
 refine rg<|qm o rfl λo=>?_
 iterate 2 refine qm o rfl λo=>?_
 refine qv o (Ao o rfl rfl) λo=>qv o (bL [i6 14,i6 p10,i6 (i64.wrap (p9+1))] [i6 14,i6 p10,i6 0,.slice none 0 0,.slice none 0 0,i6 (i64.wrap (p9+1))] o) λo=>ls<|bz (e:=157) (sz:=6) [i6 14,i6 p10,i6 0,.slice none 0 0,.slice none 0 0,i6 (i64.wrap (p9+1))] o u λO9 u o=>?_
 have Q5:Rows (α:=api_Instr) H171 [i6 14,i6 p10,i6 0,.slice none 0 0,.slice none 0 0,i6 (i64.wrap (p9+1))] ([(api_Instr.mk 14 p10 0 [] [] (i64.wrap (p9+1)))]:List api_Instr):=(.cons (c:=[i6 14,i6 p10,i6 0,.slice none 0 0,.slice none 0 0,i6 (i64.wrap (p9+1))]) ⟨_,_,rfl,rfl,⟨_,_,rfl,rfl,⟨_,_,rfl,rfl,⟨_,_,rfl,⟨none,0,rfl,kxb _,SR.nil _ _⟩,⟨_,_,rfl,⟨none,0,rfl,kxb _,SR.nil _ _⟩,rfl⟩⟩⟩⟩⟩ .nil)
 refine ls<|Ay (α:=api_Instr) (xs:=V7) (ys:=([(api_Instr.mk 14 p10 0 [] [] (i64.wrap (p9+1)))]:List api_Instr)) o rfl u underlying31 Gm rfl (by decide) rfl rfl rfl t1 P5 (u.rdO t0) Q5 Y7 λR5 O4 S5 w a T5 hU o=>?_
 replace u:=hU _ (.tail .head)
 replace u:=u.drop .head
 refine qa o rfl λo=>re<|bn<|tn<|?_
 replace u:=u.pk [2,0] rfl
 exact ⟨X7,H171,R5,O4,S5,hm,Y0,o.hs,u,T5⟩
 refine tn<|cfv o rfl J2<|th<|rg<|qv o (Ah o rfl rfl) λo=>qa o rfl λo=>re<|?_
 rcases bip hm with ⟨K2,hm⟩ | ⟨K2,hm⟩
 refine tn<|ctv o rfl K2<|?_
 obtain ⟨d7,j7,hm⟩:=bs hm
 refine rg<|qm o rfl λo=>qm o rfl λo=>qv o (bL [i6 11,i6 p11] [i6 11,i6 0,i6 0,.slice none 0 0,.slice none 0 0,i6 p11] o) λo=>ls<|bz (e:=157) (sz:=6) [i6 11,i6 0,i6 0,.slice none 0 0,.slice none 0 0,i6 p11] o u λP9 u o=>?_
 have U5:Rows (α:=api_Instr) H [i6 11,i6 0,i6 0,.slice none 0 0,.slice none 0 0,i6 p11] ([(api_Instr.mk 11 0 0 [] [] p11)]:List api_Instr):=(.cons (c:=[i6 11,i6 0,i6 0,.slice none 0 0,.slice none 0 0,i6 p11]) ⟨_,_,rfl,rfl,⟨_,_,rfl,rfl,⟨_,_,rfl,rfl,⟨_,_,rfl,⟨none,0,rfl,kxb _,SR.nil _ _⟩,⟨_,_,rfl,⟨none,0,rfl,kxb _,SR.nil _ _⟩,rfl⟩⟩⟩⟩⟩ .nil)
 refine ls<|Ay (α:=api_Instr) (xs:=[]) (ys:=([(api_Instr.mk 11 0 0 [] [] p11)]:List api_Instr)) o rfl u underlying31 Gm rfl (by decide) rfl rfl rfl t1 C2 (u.rdO t0) U5 j7 λV5 P4 W5 w a X5 hU o=>?_
 replace u:=hU _ (.tail .head)
 replace u:=u.drop .head
 refine qa o rfl λo=>re<|bn<|tn<|?_
 replace u:=u.pk [2,0] rfl
 exact ⟨d7,H,V5,P4,W5,hm,(Ext.refl _ _),o.hs,u,X5⟩
 refine tn<|cfv o rfl K2<|?_
 obtain ⟨Q1,n7,hm⟩:=bs hm
 obtain ⟨o7,u7,hm⟩:=bs hm
 refine rg<|qm o rfl λo=>qv o (An o isAgg136 sizeOf136 rfl rfl (u.ld.cellsB t2)) λo=>qv o (An o isAgg130 sizeOf130 rfl rfl (u.ld.cellsB t1)) λo=>ls<|c1 o rfl call85 (Jgp (St.le u) g3 (show Enc.rep (α:=api_Stmt) H (stC A4 E3 B4 F3 C0) C0 from ⟨_,_,rfl,rfl,⟨_,_,rfl,rfl,⟨_,_,rfl,rfl,⟨_,_,rfl,⟨_,_,rfl,C4,D4⟩,⟨_,_,rfl,⟨_,_,rfl,n6,u6⟩,⟨_,_,rfl,rfl,⟨_,_,rfl,rfl,⟨_,_,rfl,rfl,rfl⟩⟩⟩⟩⟩⟩⟩⟩) n7) ⟨rfl,rfl,trivial⟩ (λv w a hR o=>?_)
 obtain ⟨H209,cs210,rfl,v7,j0,Y5,hk⟩:=hR
 obtain ⟨u,j0⟩:=And.intro (St.passH u hk j0 Y5) (St.extc u j0)
 obtain ⟨O2,R1,P2,S1,rfl,j5,u5,A6,B6⟩:=Bv v7
 refine ls<|bz (e:=157) (sz:=6) (inC O2 R1 P2 S1 Q1) o u λQ9 u o=>?_
 have C6:Rows (α:=api_Instr) H209 (inC O2 R1 P2 S1 Q1) ([Q1]:List api_Instr):=(.cons (c:=(inC O2 R1 P2 S1 Q1)) ⟨_,_,rfl,rfl,⟨_,_,rfl,rfl,⟨_,_,rfl,rfl,⟨_,_,rfl,⟨_,_,rfl,j5,u5⟩,⟨_,_,rfl,⟨_,_,rfl,A6,B6⟩,rfl⟩⟩⟩⟩⟩ .nil)
 refine ls<|Ay (α:=api_Instr) (xs:=[]) (ys:=([Q1]:List api_Instr)) o rfl u underlying31 Gm rfl (by decide) rfl rfl rfl t1 (C2.mono j0.sub) (u.rdO t0) C6 u7 λD6 Q4 E6 w a F6 hU o=>?_
 replace u:=hU _ (.tail .head)
 replace u:=u.drop .head
 refine qa o rfl λo=>re<|bn<|tn<|?_
 replace u:=u.pk [2,0] rfl
 exact ⟨o7,H209,D6,Q4,E6,hm,j0,o.hs,u,F6⟩
 rintro a w ⟨P1,R2,W2,E2,X2,hm,F0,o,u,z7⟩
 unfold Z5g at hm
 refine th<|?_
 obtain ⟨R9,R4,hm⟩:=bs hm
 obtain ⟨D9,U8,e233,e234,I6,J6⟩:=SR.sub (sz:=9) U1 O1 rfl R4
 obtain ⟨A8,B8,hm⟩:=bs hm
 obtain ⟨S9,C8,hm⟩:=bs hm
 refine rdL (Bh t0 Ey) 14 u wide λw u=>ds 0 (u.lx i2 [0] rfl) o rfl (Aa o rfl) λo=>dq 1 (u.lx i2 [0] rfl) o rfl (λw hl=>An o isAgg136 sizeOf136 rfl rfl (hl.cellsB t0)) λo=>ds 2 (u.lx i2 [0] rfl) o rfl (Aa o rfl) λo=>ds 3 (u.lx i2 [0] rfl) o rfl (Aa o rfl) λo=>ds 4 (u.lx i2 [0] rfl) o rfl (Dc (xs:=p4) (vl:=(i64.wrap ((i64.wrap (1+C0.Body))+C0.Else))) (vh:=(p4.length:Int)) o Ew sizeOf130 rfl O1 rfl rfl R4 e233 e234) λo=>ds 5 (u.lx i2 [0] rfl) o rfl (Aa o rfl) λo=>ds 6 (u.lx i2 [0] rfl) o rfl (Aa o rfl) λo=>ds 7 (u.lx i2 [0] rfl) o rfl (Aj (α:=api_Instr) (xs:=P1) o Jl rfl) λo=>ds 8 (u.lx i2 [0] rfl) o rfl (Ao o rfl rfl) λo=>ds 9 (u.lx i2 [0] rfl) o rfl (Aa o rfl) λo=>ds 10 (u.lx i2 [0] rfl) o rfl (Aa o rfl) λo=>dz 11 rfl<|c1 o rfl call60 (ih (St.le u) (show Enc.rep (α:=leadlineref09_Env) R2 (enC C1 M0 oa21 cap22 D1 O0 E1 P0 F1 Q0 I1 R0 J1 S0 p1) p1 from ⟨_,_,rfl,⟨_,_,rfl,⟨_,_,rfl,M3,(O3.mono F0.sub)⟩,⟨_,_,rfl,⟨_,_,rfl,P3,(Q3.mono F0.sub)⟩,⟨_,_,rfl,⟨_,_,rfl,R3,(S3.mono F0.sub)⟩,⟨_,_,rfl,⟨_,_,rfl,T3,(U3.mono F0.sub)⟩,⟨_,_,rfl,⟨_,_,rfl,V3,(W3.mono F0.sub)⟩,⟨_,_,rfl,X3,(Y3.mono F0.sub)⟩⟩⟩⟩⟩⟩,⟨_,_,rfl,T2,(U2.mono F0.sub)⟩⟩) I6 (J6.mono F0.sub) B8) ⟨rfl,rfl,rfl,rfl,rfl,trivial⟩ (λv w a hR o=>?_)
 obtain ⟨H242,E9,V8,rfl,F9,K6,J0,L6,hk⟩:=hR
 obtain ⟨u,J0⟩:=And.intro (St.passH u hk J0 L6) (St.extc u J0)
 refine ⟨λ_=>(u.lx J0.sub [0] rfl),?_⟩
 refine dW 12 ?_
 obtain ⟨us253,hd254,hu255⟩:=id K6
 refine dI 12 rfl<|Ay (α:=api_Instr) (xs:=P1) (ys:=A8) o rfl u underlying31 Gm rfl (by decide) rfl rfl rfl t1 (z7.mono J0.sub) (u.rdH t0 hd254) hu255 C8 λI9 W8 J9 w a M6 hU o=>?_
 replace u:=hU _ (.tail .head)
 refine ⟨λ_=>(u.lx J0.sub [0] rfl),?_⟩
 refine ds 13 (u.lx J0.sub [0] rfl) o rfl (Ca o rfl) λo=>dE<|tn<|th<|rg<|qm o rfl λo=>qa o rfl λo=>re<|tn<|wr<|?_
 obtain ⟨H259,O6,P6,Q6,u⟩:=St.frzS u (.tail .head) M6
 obtain rfl:=si hm
 exact r1 o results60 rfl ⟨H259,_,_,rfl,Q6,P6,(Ext.trans F0 (Ext.trans J0 O6)),(St.le u),u.keep⟩
theorem JeA (hH:H.le w0) {cs2:List Value} {p1:api_Prog} (g3:Enc.rep H cs2 p1) {cs5:List Value} {p4:api_Thread} (g6:Enc.rep H cs5 p4) {r:api_Code} (hm:Z6l N p1 p4=some r):Tot Tryz.prog 20 #[.agg cs2.toArray,.agg cs5.toArray] w0 (λv w'=>∃ (H':PH) (cs0:List Value),v=.agg cs0.toArray∧Enc.rep H' cs0 r∧Ext w0 H H'∧H'.le w'∧Keep Nil w0 w'):=by
 unfold Z6l at hm
 refine fn0 func20 rfl ntmps20 rfl rfl λa o=>?_
 have u:St w0 Nil [H] [] w0:=start1 hH
 obtain ⟨oa7,cap8,oa11,cap12,M0,D0,O0,E0,P0,F0,Q0,I0,rfl,Y1,j0,n0,C1,D1,E1,F1,I1,J1,O1,P1,Q1⟩:=Bc g3
 obtain ⟨R0,J0,R1,Y0,rfl,S1,T1,V0,W0⟩:=Bm g6
 refine th<|rg<|ls<|Bo (cs:=(pgC oa7 cap8 oa11 cap12 M0 D0 O0 E0 P0 F0 Q0 I0 p1).toArray) o rfl u rfl rfl λE2 w a u o=>ls<|Bo (cs:=[Ae p4.Name,SL R0 p4.Regs J0,SL R1 p4.Body Y0,i6 p4.At].toArray) o rfl u rfl rfl λF2 w a u o=>ls<|Aq (cs:=[i6 0,i6 0,.slice none 0 0].toArray) o rfl u zeroValue33 rfl λI2 w a u o=>re<|tn<|th<|rg<|qv o (An o Tryz.isAgg27 Tryz.sizeOf27 rfl rfl (u.ld.cellsB t2)) λo=>qf o Ec rfl λo=>qB o isAgg75 rfl u t1 rfl λo=>qv o (bL [.agg #[SL oa7 p1.Lines cap8,SL oa11 p1.Vols cap12,SL M0 p1.Locks D0,SL O0 p1.Threads E0,SL P0 p1.Recover F0,SL Q0 p1.Claims I0],SL R0 p4.Regs J0] [SL oa7 p1.Lines cap8,SL oa11 p1.Vols cap12,SL M0 p1.Locks D0,SL O0 p1.Threads E0,SL P0 p1.Recover F0,SL Q0 p1.Claims I0,SL R0 p4.Regs J0] o) λo=>ls<|Aq (cs:=[.slice none 0 0,.slice none 0 0,.slice none 0 0,.slice none 0 0,.slice none 0 0,.slice none 0 0,.slice none 0 0].toArray) o rfl u zeroValue136 rfl λJ2 w a u o=>ls<|Ar o u sizeOf136 rfl rfl rfl rfl (Ak rfl) .head λw u=>re<|tn<|th<|?_
 obtain ⟨T0,u1,hm⟩:=bs hm
 obtain ⟨U0,C2,hm⟩:=bs hm
 refine rdS 11 u wide λw u=>dr 0 u o rfl (Ad o Ec rfl) λo=>dq 1 u.ld o rfl (λw hl=>eB o isAgg75 rfl hl t2 rfl) λo=>dr 2 u o rfl (Aj (α:=Str) (xs:=p4.Regs) o Ly rfl) λo=>dr 3 u o rfl (Ad o Mt rfl) λo=>dq 4 u.ld o rfl (λw hl=>eB o isAgg76 rfl hl t2 rfl) λo=>dq 6 u.ld o rfl (λw hl=>An o isAgg136 sizeOf136 rfl rfl (hl.cellsB t0)) λo=>dr 7 u o rfl (Ad o Mt rfl) λo=>dq 8 u.ld o rfl (λw hl=>eB o isAgg76 rfl hl t2 rfl) λo=>dz 5 rfl<|cr o call59 (JgW _ (Ag _) V0 (St.srH u W0) u1) u λu o=>⟨λ_=>u.ld,?_⟩
 refine dz 9 rfl<|c1 o rfl call60 (JgA _ (St.le u) (show Enc.rep (α:=leadlineref09_Env) H [SL oa7 p1.Lines cap8,SL oa11 p1.Vols cap12,SL M0 p1.Locks D0,SL O0 p1.Threads E0,SL P0 p1.Recover F0,SL Q0 p1.Claims I0,SL R0 p4.Regs J0] (leadlineref09_Env.mk p1 p4.Regs) from ⟨_,_,rfl,⟨_,_,rfl,⟨_,_,rfl,Y1,j0⟩,⟨_,_,rfl,⟨_,_,rfl,n0,C1⟩,⟨_,_,rfl,⟨_,_,rfl,D1,E1⟩,⟨_,_,rfl,⟨_,_,rfl,F1,I1⟩,⟨_,_,rfl,⟨_,_,rfl,J1,O1⟩,⟨_,_,rfl,P1,Q1⟩⟩⟩⟩⟩⟩,⟨_,_,rfl,S1,T1⟩⟩) V0 W0 C2) ⟨rfl,rfl,rfl,rfl,rfl,trivial⟩ (λv w a hR o=>?_)
 obtain ⟨H50,S0,K0,rfl,U1,V1,C0,X1,hk⟩:=hR
 obtain ⟨u,C0⟩:=And.intro (St.passH u hk C0 X1) (St.extc u C0)
 refine ⟨λ_=>(St.ldsX u C0.sub i1),?_⟩
 refine dq 10 (St.ldsX u C0.sub i1) o rfl (λw hl=>bL [i6 (p4.Regs.length:Int),i6 T0,SL S0 U0 K0] [i6 (p4.Regs.length:Int),i6 T0,SL S0 U0 K0] o) λo=>dz 11 rfl<|Ar o u sizeOf33 rfl rfl rfl rfl (Ak rfl) (.tail .head) λw u=>⟨λh=>absurd rfl h,?_⟩
 refine dE<|tn<|wr<|?_
 obtain rfl:=si hm
 exact r1c (vs:=[i6 (p4.Regs.length:Int),i6 T0,SL S0 U0 K0]) (.inl rfl) o results20 rfl isAgg33 sizeOf33 rfl (u.ld.cellsB t1) ⟨H50,_,rfl,(show Enc.rep (α:=api_Code) H50 [i6 (p4.Regs.length:Int),i6 T0,SL S0 U0 K0] (api_Code.mk (p4.Regs.length:Int) T0 U0) from ⟨_,_,rfl,rfl,⟨_,_,rfl,rfl,⟨_,_,rfl,U1,V1⟩⟩⟩),C0,(St.le u),u.keep⟩
theorem Jhb (hH:H.le w0) {cs2:List Value} {p1:api_Prog} (g3:Enc.rep H cs2 p1) {r:(api_Unit×Int)} (hm:Z5x N p1=some r):Tot Tryz.prog 4 #[.agg cs2.toArray] w0 (λv w'=>∃ (H':PH) (cs0:List Value),v=.tuple #[.agg cs0.toArray,i6 r.2]∧Enc.rep H' cs0 r.1∧Ext w0 H H'∧H'.le w'∧Keep Nil w0 w'):=by
 unfold Z5x at hm
 refine fn0 func4 rfl ntmps4 rfl rfl λa o=>?_
 have u:St w0 Nil [H] [] w0:=start1 hH
 obtain ⟨O2,J1,P2,O1,oa12,cap13,oa16,cap17,P1,U0,Q1,V0,rfl,A7,B7,F5,I5,J5,K5,L5,U3,M5,V3,O5,W3⟩:=Bc g3
 refine th<|rg<|ls<|Bo (cs:=(pgC O2 J1 P2 O1 oa12 cap13 oa16 cap17 P1 U0 Q1 V0 p1).toArray) o rfl u rfl rfl λF1 w a u o=>ls<|Aq (cs:=[.slice none 0 0,i6 0,.slice none 0 0,i6 0,.slice none 0 0,i6 0,i6 0,.slice none 0 0,.slice none 0 0].toArray) o rfl u zeroValue36 rfl λj0 w a u o=>qa o rfl λo=>re<|tn<|th<|?_
 obtain ⟨A9,J8,hm⟩:=bs hm
 refine rg<|qv o (An o Tryz.isAgg27 Tryz.sizeOf27 rfl rfl (u.ld.cellsB t1)) λo=>ls<|cr o call16 (Jhm (Ag _) (Enc.mono (St.up u) g3) J8) u λu o=>qm o rfl λo=>?_
 iterate 2 refine qv o (Dt o rfl rfl) λo=>?_
 iterate 2 refine qa o rfl λo=>?_
 refine re<|tn<|th<|th<|rg<|qm o rfl λo=>qv o (Bg o rfl rfl) λo=>re<|?_
 rcases bip hm with ⟨U4,hm⟩ | ⟨U4,hm⟩
 refine tn<|ctv o rfl U4<|th<|rg<|qv o (bL [] [.slice none 0 0,i6 0,.slice none 0 0,i6 0,.slice none 0 0,i6 0,i6 0,.slice none 0 0,.slice none 0 0] o) λo=>qm o rfl λo=>ls<|Ar o u sizeOf36 rfl rfl rfl rfl (Ak rfl) .head λw u=>qa o rfl λo=>re<|tn<|wr<|tr<|?_
 obtain rfl:=si hm
 exact r2c (vs:=[.slice none 0 0,i6 0,.slice none 0 0,i6 0,.slice none 0 0,i6 0,i6 0,.slice none 0 0,.slice none 0 0]) (.inl rfl) o results4 rfl rfl isAgg36 sizeOf36 rfl (u.ld.cellsB t0) ⟨H,_,rfl,(show Enc.rep (α:=api_Unit) H [.slice none 0 0,i6 0,.slice none 0 0,i6 0,.slice none 0 0,i6 0,i6 0,.slice none 0 0,.slice none 0 0] (api_Unit.mk [] 0 [] 0 [] (api_Code.mk 0 0 []) []) from ⟨_,_,rfl,⟨none,0,rfl,kxb _,SR.nil _ _⟩,⟨_,_,rfl,rfl,⟨_,_,rfl,⟨none,0,rfl,kxb _,SR.nil _ _⟩,⟨_,_,rfl,rfl,⟨_,_,rfl,⟨none,0,rfl,kxb _,SR.nil _ _⟩,⟨_,_,rfl,⟨_,_,rfl,rfl,⟨_,_,rfl,rfl,⟨none,0,rfl,kxb _,SR.nil _ _⟩⟩⟩,⟨none,0,rfl,kxb _,SR.nil _ _⟩⟩⟩⟩⟩⟩⟩),(Ext.refl _ _),(St.le u),u.keep⟩
 refine tn<|cfv o rfl U4<|wk<|tn<|th<|Av (λa w=>∃ (P0:Int) (E0:(List Int)) (W0:Nat) (J0:Option Addr) (C0:Nat) (R1:List Value),(Z5y N p1) P0 E0=some r∧Fr 103 [(1,PT F1),(2,PT j0),(6,PT W0)] a∧St w0 Nil [H] [bk F1 (pgC O2 J1 P2 O1 oa12 cap13 oa16 cap17 P1 U0 Q1 V0 p1) 27,bk j0 [.slice none 0 0,i6 0,.slice none 0 0,i6 0,.slice none 0 0,i6 0,i6 0,.slice none 0 0,.slice none 0 0] 36,sla 3 1 J0 E0.length C0 R1,bk W0 [.slice none 0 0,i6 P0,SL J0 E0 C0,i6 (p1.Locks.length:Int),.slice none 0 0,i6 0,i6 0,.slice none 0 0,.slice none 0 0] 36] w∧Rows H R1 E0) ?_ ?_
 obtain ⟨U2,C7,hm⟩:=bs hm
 obtain ⟨V2,P5,hm⟩:=bs hm
 refine rdS 9 u wide λw u=>dq 0 u.ld o rfl (λw hl=>An o isAgg27 sizeOf27 rfl rfl (hl.cellsB t1)) λo=>dq 2 u.ld o rfl (λw hl=>An o isAgg27 sizeOf27 rfl rfl (hl.cellsB t1)) λo=>dr 4 u o rfl (Ad o Kw rfl) λo=>dq 5 u.ld o rfl (λw hl=>eB o isAgg23 rfl hl t1 rfl) λo=>dr 6 u o rfl (Aj (α:=api_Cell) (xs:=p1.Locks) o Fz rfl) λo=>da2 (i:=1) (j:=8) (by kernel_rfl) ?_ ?_
 refine dI 1 rfl<|cr o call17 (JaC (Ag _) (Enc.mono (St.up u) g3) C7) u λu o=>⟨λ_=>u.ld,?_⟩
 refine da2 (i:=3) (j:=8) (by kernel_rfl) ?_ ?_
 refine dI 3 rfl<|c1 o rfl call18 (Jcr (Ag _) (Enc.mono (St.up u) g3) P5) ⟨rfl,trivial⟩ (λv w a hR o=>?_)
 obtain ⟨n0,R0,M3,rfl,C1,hk⟩:=hR
 replace u:=u.fresh hk
 replace C1:=C1 H
 refine ⟨λ_=>(St.ldsX u i2 ta1),?_⟩
 refine dq 7 (St.ldsX u i2 ta1) o rfl (λw hl=>bL [i6 U2,SL n0 V2 R0,i6 (p1.Locks.length:Int)] [.slice none 0 0,i6 U2,SL n0 V2 R0,i6 (p1.Locks.length:Int),.slice none 0 0,i6 0,i6 0,.slice none 0 0,.slice none 0 0] o) λo=>dz 8 rfl<|Aq (cs:=[.slice none 0 0,i6 0,.slice none 0 0,i6 0,.slice none 0 0,i6 0,i6 0,.slice none 0 0,.slice none 0 0].toArray) o rfl u zeroValue36 rfl λM4 w a u o=>⟨λ_=>(St.ldsX u i2 ta2),?_⟩
 refine dz 9 rfl<|Ar o u sizeOf36 rfl rfl rfl rfl (Ak rfl) .head λw u=>⟨λh=>absurd rfl h,?_⟩
 refine dE<|tn<|?_
 replace u:=u.pk [3,2,1,0] rfl
 exact ⟨U2,V2,M4,n0,R0,M3,hm,o.hs,u,C1⟩
 refine dI 8 rfl<|Aq (cs:=[.slice none 0 0,i6 0,.slice none 0 0,i6 0,.slice none 0 0,i6 0,i6 0,.slice none 0 0,.slice none 0 0].toArray) o rfl u zeroValue36 rfl λM4 w a u o=>⟨λ_=>(St.ldsX u i2 ta1),?_⟩
 refine dz 3 rfl<|c1 o rfl call18 (Jcr (Ag _) (Enc.mono (St.up u) g3) P5) ⟨rfl,trivial⟩ (λv w a hR o=>?_)
 obtain ⟨n0,R0,M3,rfl,C1,hk⟩:=hR
 replace u:=u.fresh hk
 replace C1:=C1 H
 refine ⟨λ_=>(St.ldsX u i2 ta2),?_⟩
 refine dq 7 (St.ldsX u i2 ta2) o rfl (λw hl=>bL [i6 U2,SL n0 V2 R0,i6 (p1.Locks.length:Int)] [.slice none 0 0,i6 U2,SL n0 V2 R0,i6 (p1.Locks.length:Int),.slice none 0 0,i6 0,i6 0,.slice none 0 0,.slice none 0 0] o) λo=>dz 9 rfl<|Ar o u sizeOf36 rfl rfl rfl rfl (Ak rfl) (.tail .head) λw u=>⟨λh=>absurd rfl h,?_⟩
 refine dE<|tn<|?_
 replace u:=u.pk [3,2,0,0] rfl
 exact ⟨U2,V2,M4,n0,R0,M3,hm,o.hs,u,C1⟩
 refine dI 8 rfl<|Aq (cs:=[.slice none 0 0,i6 0,.slice none 0 0,i6 0,.slice none 0 0,i6 0,i6 0,.slice none 0 0,.slice none 0 0].toArray) o rfl u zeroValue36 rfl λM4 w a u o=>⟨λ_=>(St.ldsX u i2 ta1),?_⟩
 refine dz 1 rfl<|cr o call17 (JaC (Ag _) (Enc.mono (St.up u) g3) C7) u λu o=>⟨λ_=>(St.ldsX u i2 ta1),?_⟩
 refine dz 3 rfl<|c1 o rfl call18 (Jcr (Ag _) (Enc.mono (St.up u) g3) P5) ⟨rfl,trivial⟩ (λv w a hR o=>?_)
 obtain ⟨n0,R0,M3,rfl,C1,hk⟩:=hR
 replace u:=u.fresh hk
 replace C1:=C1 H
 refine ⟨λ_=>(St.ldsX u i2 ta2),?_⟩
 refine dq 7 (St.ldsX u i2 ta2) o rfl (λw hl=>bL [i6 U2,SL n0 V2 R0,i6 (p1.Locks.length:Int)] [.slice none 0 0,i6 U2,SL n0 V2 R0,i6 (p1.Locks.length:Int),.slice none 0 0,i6 0,i6 0,.slice none 0 0,.slice none 0 0] o) λo=>dz 9 rfl<|Ar o u sizeOf36 rfl rfl rfl rfl (Ak rfl) (.tail .head) λw u=>⟨λh=>absurd rfl h,?_⟩
 refine dE<|tn<|?_
 replace u:=u.pk [3,2,0,0] rfl
 exact ⟨U2,V2,M4,n0,R0,M3,hm,o.hs,u,C1⟩
 rintro a w ⟨P0,E0,W0,J0,C0,R1,hm,o,u,F7⟩
 unfold Z5y at hm
 refine th<|th<|rg<|qa o rfl λo=>re<|tn<|Av (λa w=>∃ (O0:(List Int)) (I0:Option Addr) (D0:Nat) (I1:List Value),(Z5z N p1 P0 E0) O0=some r∧Fr 103 [(1,PT F1),(2,PT j0),(6,PT W0)] a∧St w0 Nil [H] [bk F1 (pgC O2 J1 P2 O1 oa12 cap13 oa16 cap17 P1 U0 Q1 V0 p1) 27,bk j0 [.slice none 0 0,i6 0,.slice none 0 0,i6 0,.slice none 0 0,i6 0,i6 0,.slice none 0 0,.slice none 0 0] 36,sla 3 1 I0 O0.length D0 I1,sla 3 1 J0 E0.length C0 R1,bk W0 [SL I0 O0 D0,i6 P0,SL J0 E0 C0,i6 (p1.Locks.length:Int),.slice none 0 0,i6 0,i6 0,.slice none 0 0,.slice none 0 0] 36] w∧Rows H I1 O0) ?_ ?_
 replace u:=u.nilS 3 1
 replace u:=u.pk [1,1,0,0,0] rfl
 refine wb<|lp (α:=Nat×(List Int)×Int) (λgh a w=>match gh with | (O4,O3,A5)=>∃ (X3:Option Addr) (F3:Nat) (Y3:List Value),(Z63 N (Z5z N p1 P0 E0) p1 E0) O4 O3 A5=some r∧Fr 103 [(1,PT F1),(2,PT j0),(6,PT W0),(7,i6 A5)] a∧St w0 Nil [H] [bk F1 (pgC O2 J1 P2 O1 oa12 cap13 oa16 cap17 P1 U0 Q1 V0 p1) 27,bk j0 [.slice none 0 0,i6 0,.slice none 0 0,i6 0,.slice none 0 0,i6 0,i6 0,.slice none 0 0,.slice none 0 0] 36,sla 3 1 X3 O3.length F3 Y3,sla 3 1 J0 E0.length C0 R1,bk W0 [SL X3 O3 F3,i6 P0,SL J0 E0 C0,i6 (p1.Locks.length:Int),.slice none 0 0,i6 0,i6 0,.slice none 0 0,.slice none 0 0] 36] w∧Rows H Y3 O3) (λgh=>gh.1) (N,[],0) ⟨none,0,[],hm,o.hs,u,.nil⟩ ?_
 rintro ⟨O4,O3,A5⟩ a w ⟨X3,F3,Y3,hm,o,u,Q5⟩
 obtain _ | O4:=O4
 simp [Z63] at hm
 rw [Z63] at hm
 refine th<|th<|rg<|qm o rfl λo=>qf o Rf rfl λo=>qB o isAgg28 rfl u t4 rfl λo=>qv o (Aj (α:=Int) (xs:=E0) o Bn rfl) λo=>qv o (Am o rfl rfl) λo=>re<|?_
 rcases bip hm with ⟨V4,hm⟩ | ⟨V4,hm⟩
 refine tn<|ctv o rfl V4<|wk<|tn<|th<|wb<|?_
 obtain ⟨P4,K8,hm⟩:=bs hm
 obtain ⟨L8,M8,hm⟩:=bs hm
 refine rdL (Bh t0 (Bh t1 (Bh t3 (Bh t4 Ey)))) 8 u wide λw u=>ds 0 (u.lx i2 [0,1,3,4] rfl) o rfl (Ad o Et rfl) λo=>dq 1 (u.lx i2 [0,1,3,4] rfl) o rfl (λw hl=>eB o isAgg28 rfl hl t3 rfl) λo=>dq 2 (u.lx i2 [0,1,3,4] rfl) o rfl (λw hl=>An o isAgg27 sizeOf27 rfl rfl (hl.cellsB t0)) λo=>ds 3 (u.lx i2 [0,1,3,4] rfl) o rfl (Aa o rfl) λo=>dz 4 rfl<|cr o call19 (Je6 (Ag _) (Enc.mono (St.up u) g3) K8) u λu o=>⟨λ_=>(u.lx i2 [0,1,3,4] rfl),?_⟩
 refine dz 5 rfl<|bz (e:=3) (sz:=1) [i6 P4] o u λB9 u o=>?_
 have I7:Rows (α:=Int) H [i6 P4] ([P4]:List Int):=(.cons (c:=[i6 P4]) rfl .nil)
 refine ⟨λ_=>(u.lx i2 [1,2,4,5] rfl),?_⟩
 refine dz 6 rfl<|Ay (α:=Int) (xs:=O3) (ys:=([P4]:List Int)) o rfl u underlying28 Bs rfl (by decide) rfl rfl rfl t3 Q5 (u.rdO t0) I7 M8 λJ7 V5 K7 w a L7 hU o=>?_
 replace u:=hU _ (.tail (.tail (.tail .head)))
 replace u:=u.drop .head
 refine ⟨λ_=>(u.lx i2 [0,1,3,4] rfl),?_⟩
 refine ds 7 (u.lx i2 [0,1,3,4] rfl) o rfl (Ad o Et rfl) λo=>dz 8 rfl<|Bl o u sizeOf28 rfl rfl rfl rfl (.tail (.tail (.tail (.tail .head)))) .zero λw u=>⟨λh=>absurd rfl h,?_⟩
 refine dE<|bn<|tn<|rg<|qm o rfl λo=>qv o (Ao o rfl rfl) λo=>qa o rfl λo=>re<|tn<|?_
 exact ⟨(O4,L8,(i64.wrap (A5+1))),⟨J7,V5,K7,hm,o.hs,u,L7⟩,kxd _⟩
 refine tn<|cfv o rfl V4<|we<|tx<|tx<|bx<|tn<|?_
 exact ⟨O3,X3,F3,Y3,hm,o.hs,u,Q5⟩
 rintro a w ⟨O0,I0,D0,I1,hm,o,u,W5⟩
 unfold Z5z at hm
 refine th<|th<|rg<|qa o rfl λo=>re<|tn<|Av (λa w=>∃ (M0:(List api_Code)) (Y1:PH) (Q0:Option Addr) (K0:Nat) (J2:List Value),(Z60 N p1 P0 E0 O0) M0=some r∧Ext w0 H Y1∧Fr 103 [(1,PT F1),(2,PT j0),(6,PT W0)] a∧St w0 Nil [Y1] [bk F1 (pgC O2 J1 P2 O1 oa12 cap13 oa16 cap17 P1 U0 Q1 V0 p1) 27,bk j0 [.slice none 0 0,i6 0,.slice none 0 0,i6 0,.slice none 0 0,i6 0,i6 0,.slice none 0 0,.slice none 0 0] 36,sla 3 1 I0 O0.length D0 I1,sla 3 1 J0 E0.length C0 R1,sla 33 3 Q0 M0.length K0 J2,bk W0 [SL I0 O0 D0,i6 P0,SL J0 E0 C0,i6 (p1.Locks.length:Int),SL Q0 M0 K0,i6 0,i6 0,.slice none 0 0,.slice none 0 0] 36] w∧Rows Y1 J2 M0) ?_ ?_
 replace u:=u.nilS 33 3
 replace u:=u.pk [1,1,1,1,0,0] rfl
 refine wb<|lp (α:=Nat×(List api_Code)×Int) (λgh a w=>match gh with | (Q4,P3,A4)=>∃ (Q3:PH) (I3:Option Addr) (W2:Nat) (J3:List Value),(Z64 N (Z60 N p1 P0 E0 O0) p1) Q4 P3 A4=some r∧Ext w0 H Q3∧Fr 103 [(1,PT F1),(2,PT j0),(6,PT W0),(8,i6 A4)] a∧St w0 Nil [Q3] [bk F1 (pgC O2 J1 P2 O1 oa12 cap13 oa16 cap17 P1 U0 Q1 V0 p1) 27,bk j0 [.slice none 0 0,i6 0,.slice none 0 0,i6 0,.slice none 0 0,i6 0,i6 0,.slice none 0 0,.slice none 0 0] 36,sla 3 1 I0 O0.length D0 I1,sla 3 1 J0 E0.length C0 R1,sla 33 3 I3 P3.length W2 J3,bk W0 [SL I0 O0 D0,i6 P0,SL J0 E0 C0,i6 (p1.Locks.length:Int),SL I3 P3 W2,i6 0,i6 0,.slice none 0 0,.slice none 0 0] 36] w∧Rows Q3 J3 P3) (λgh=>gh.1) (N,[],0) ⟨H,none,0,[],hm,(Ext.refl _ _),o.hs,u,.nil⟩ ?_
 rintro ⟨Q4,P3,A4⟩ a w ⟨Q3,I3,W2,J3,hm,S0,o,u,B5⟩
 obtain _ | Q4:=Q4
 simp [Z64] at hm
 rw [Z64] at hm
 refine th<|th<|rg<|qm o rfl λo=>qf o Ia rfl λo=>qB o isAgg24 rfl u t0 rfl λo=>qv o (Aj (α:=api_Thread) (xs:=p1.Threads) o Da rfl) λo=>qv o (Am o rfl rfl) λo=>re<|?_
 rcases bip hm with ⟨W4,hm⟩ | ⟨W4,hm⟩
 refine tn<|ctv o rfl W4<|wk<|tn<|th<|wb<|?_
 obtain ⟨R4,D7,hm⟩:=bs hm
 obtain ⟨C9,O8,M7⟩:=SR.get U3 D7
 obtain ⟨O7,X5,P7,Y5,rfl,Q7,R7,S7,T7⟩:=Bm O8
 obtain ⟨u1,P8,hm⟩:=bs hm
 obtain ⟨Q8,R8,hm⟩:=bs hm
 refine rdL (Bh t0 (Bh t1 (Bh t2 (Bh t3 (Bh t5 Ey))))) 12 u wide λw u=>ds 0 (u.lx i2 [0,1,2,3,5] rfl) o rfl (Ad o Mx rfl) λo=>dq 1 (u.lx i2 [0,1,2,3,5] rfl) o rfl (λw hl=>eB o isAgg30 rfl hl t4 rfl) λo=>dq 2 (u.lx i2 [0,1,2,3,5] rfl) o rfl (λw hl=>An o isAgg27 sizeOf27 rfl rfl (hl.cellsB t0)) λo=>ds 3 (u.lx i2 [0,1,2,3,5] rfl) o rfl (Ad o Ia rfl) λo=>dq 4 (u.lx i2 [0,1,2,3,5] rfl) o rfl (λw hl=>eB o isAgg24 rfl hl t0 rfl) λo=>ds 5 (u.lx i2 [0,1,2,3,5] rfl) o rfl (Aa o rfl) λo=>ds 6 (u.lx i2 [0,1,2,3,5] rfl) o rfl (eI o Da sizeOf78 rfl rfl D7 U3) λo=>dq 7 (u.lx i2 [0,1,2,3,5] rfl) o rfl (λw hl=>An o isAgg78 sizeOf78 rfl rfl (λj v hj=>PH.le.cell (λb o hx=>(Lds.le hl) b o (S0.sub b o hx)) (M7 j v hj))) λo=>dz 8 rfl<|c1 o rfl call20 (JeA (St.le u) (show Enc.rep (α:=api_Prog) Q3 (pgC O2 J1 P2 O1 oa12 cap13 oa16 cap17 P1 U0 Q1 V0 p1) p1 from ⟨_,_,rfl,⟨_,_,rfl,A7,(B7.mono S0.sub)⟩,⟨_,_,rfl,⟨_,_,rfl,F5,(I5.mono S0.sub)⟩,⟨_,_,rfl,⟨_,_,rfl,J5,(K5.mono S0.sub)⟩,⟨_,_,rfl,⟨_,_,rfl,L5,(U3.mono S0.sub)⟩,⟨_,_,rfl,⟨_,_,rfl,M5,(V3.mono S0.sub)⟩,⟨_,_,rfl,O5,(W3.mono S0.sub)⟩⟩⟩⟩⟩⟩) (show Enc.rep (α:=api_Thread) Q3 [Ae R4.Name,SL O7 R4.Regs X5,SL P7 R4.Body Y5,i6 R4.At] R4 from ⟨_,_,rfl,rfl,⟨_,_,rfl,⟨_,_,rfl,Q7,(R7.mono S0.sub)⟩,⟨_,_,rfl,⟨_,_,rfl,S7,(T7.mono S0.sub)⟩,rfl⟩⟩⟩) P8) ⟨rfl,rfl,trivial⟩ (λv w a hR o=>?_)
 obtain ⟨H74,cs75,rfl,S8,U1,U7,hk⟩:=hR
 obtain ⟨u,U1⟩:=And.intro (St.passH u hk U1 U7) (St.extc u U1)
 obtain ⟨X4,B4,rfl,V7,W7⟩:=Cp S8
 refine ⟨λ_=>(u.lx U1.sub [0,1,2,3,5] rfl),?_⟩
 refine dz 9 rfl<|bz (e:=33) (sz:=3) [i6 u1.Regs,i6 u1.Counts,SL X4 u1.L B4] o u λD9 u o=>?_
 have X7:Rows (α:=api_Code) H74 [i6 u1.Regs,i6 u1.Counts,SL X4 u1.L B4] ([u1]:List api_Code):=(.cons (c:=[i6 u1.Regs,i6 u1.Counts,SL X4 u1.L B4]) ⟨_,_,rfl,rfl,⟨_,_,rfl,rfl,⟨_,_,rfl,V7,W7⟩⟩⟩ .nil)
 refine ⟨λ_=>(u.lx U1.sub [1,2,3,4,6] rfl),?_⟩
 refine dz 10 rfl<|Ay (α:=api_Code) (xs:=P3) (ys:=([u1]:List api_Code)) o rfl u underlying30 JeY rfl (by decide) rfl rfl rfl t5 (B5.mono U1.sub) (u.rdO t0) X7 R8 λY7 j5 d7 w a j7 hU o=>?_
 replace u:=hU _ (.tail (.tail (.tail (.tail (.tail .head)))))
 replace u:=u.drop .head
 refine ⟨λ_=>(u.lx U1.sub [0,1,2,3,5] rfl),?_⟩
 refine ds 11 (u.lx U1.sub [0,1,2,3,5] rfl) o rfl (Ad o Mx rfl) λo=>dz 12 rfl<|Bl o u sizeOf30 rfl rfl rfl rfl (.tail (.tail (.tail (.tail (.tail .head))))) (.succ (.succ (.succ (.succ .zero)))) λw u=>⟨λh=>absurd rfl h,?_⟩
 refine dE<|bn<|tn<|rg<|qm o rfl λo=>qv o (Ao o rfl rfl) λo=>qa o rfl λo=>re<|tn<|?_
 exact ⟨(Q4,Q8,(i64.wrap (A4+1))),⟨H74,Y7,j5,d7,hm,(Ext.trans S0 U1),o.hs,u,j7⟩,kxd _⟩
 refine tn<|cfv o rfl W4<|we<|tx<|tx<|bx<|tn<|?_
 exact ⟨P3,Q3,I3,W2,J3,hm,S0,o.hs,u,B5⟩
 rintro a w ⟨M0,Y1,Q0,K0,J2,hm,F0,o,u,u5⟩
 unfold Z60 at hm
 refine th<|th<|rg<|qf o Oe rfl λo=>qB o isAgg24 rfl u t0 rfl λo=>qv o (Aj (α:=api_Thread) (xs:=p1.Recover) o Da rfl) λo=>qv o (Ba o rfl rfl) λo=>re<|tn<|Av (λa w=>∃ (S1:Int) (T1:Int) (Y0:(List api_Instr)) (R2:PH) (V1:Option Addr) (D1:Nat),(Z61 N p1 P0 E0 O0 M0) S1 T1 Y0=some r∧Ext w0 Y1 R2∧Fr 103 [(1,PT F1),(2,PT j0),(6,PT W0)] a∧St w0 Nil [R2] [bk F1 (pgC O2 J1 P2 O1 oa12 cap13 oa16 cap17 P1 U0 Q1 V0 p1) 27,bk j0 [.slice none 0 0,i6 0,.slice none 0 0,i6 0,.slice none 0 0,i6 0,i6 0,.slice none 0 0,.slice none 0 0] 36,sla 3 1 I0 O0.length D0 I1,sla 3 1 J0 E0.length C0 R1,sla 33 3 Q0 M0.length K0 J2,bk W0 [SL I0 O0 D0,i6 P0,SL J0 E0 C0,i6 (p1.Locks.length:Int),SL Q0 M0 K0,i6 S1,i6 T1,SL V1 Y0 D1,.slice none 0 0] 36] w∧Y0.length≤D1∧SR R2 V1 Y0) ?_ ?_
 rcases bip hm with ⟨Y4,hm⟩ | ⟨Y4,hm⟩
 refine ctv o rfl Y4<|?_
 obtain ⟨S4,E7,hm⟩:=bs hm
 obtain ⟨E9,T8,n7⟩:=SR.get V3 E7
 obtain ⟨o7,A6,B6,R5,rfl,u7,v7,C6,D6⟩:=Bm T8
 obtain ⟨X1,z7,hm⟩:=bs hm
 refine rdS 7 u wide λw u=>dq 0 u.ld o rfl (λw hl=>An o isAgg27 sizeOf27 rfl rfl (hl.cellsB t0)) λo=>dr 1 u o rfl (Ad o Oe rfl) λo=>dq 2 u.ld o rfl (λw hl=>eB o isAgg24 rfl hl t0 rfl) λo=>dr 3 u o rfl (eI o Da sizeOf78 rfl rfl E7 V3) λo=>dq 4 u.ld o rfl (λw hl=>An o isAgg78 sizeOf78 rfl rfl (λj v hj=>PH.le.cell (λb o hx=>(Lds.le hl) b o (F0.sub b o hx)) (n7 j v hj))) λo=>dz 5 rfl<|c1 o rfl call20 (JeA (St.le u) (show Enc.rep (α:=api_Prog) Y1 (pgC O2 J1 P2 O1 oa12 cap13 oa16 cap17 P1 U0 Q1 V0 p1) p1 from ⟨_,_,rfl,⟨_,_,rfl,A7,(B7.mono F0.sub)⟩,⟨_,_,rfl,⟨_,_,rfl,F5,(I5.mono F0.sub)⟩,⟨_,_,rfl,⟨_,_,rfl,J5,(K5.mono F0.sub)⟩,⟨_,_,rfl,⟨_,_,rfl,L5,(U3.mono F0.sub)⟩,⟨_,_,rfl,⟨_,_,rfl,M5,(V3.mono F0.sub)⟩,⟨_,_,rfl,O5,(W3.mono F0.sub)⟩⟩⟩⟩⟩⟩) (show Enc.rep (α:=api_Thread) Y1 [Ae S4.Name,SL o7 S4.Regs A6,SL B6 S4.Body R5,i6 S4.At] S4 from ⟨_,_,rfl,rfl,⟨_,_,rfl,⟨_,_,rfl,u7,(v7.mono F0.sub)⟩,⟨_,_,rfl,⟨_,_,rfl,C6,(D6.mono F0.sub)⟩,rfl⟩⟩⟩) z7) ⟨rfl,rfl,trivial⟩ (λv w a hR o=>?_)
 obtain ⟨H109,cs110,rfl,A8,K2,E6,hk⟩:=hR
 obtain ⟨u,K2⟩:=And.intro (St.passH u hk K2 E6) (St.extc u K2)
 obtain ⟨C4,R3,rfl,F6,I6⟩:=Cp A8
 refine ⟨λ_=>(St.ldsX u K2.sub i1),?_⟩
 refine ds 6 (St.ldsX u K2.sub i1) o rfl (Ad o JbY rfl) λo=>dz 7 rfl<|Jfw [SL I0 O0 D0,i6 P0,SL J0 E0 C0,i6 (p1.Locks.length:Int),SL Q0 M0 K0] [i6 0,i6 0,.slice none 0 0] [i6 X1.Regs,i6 X1.Counts,SL C4 X1.L R3] [.slice none 0 0] (c:=[SL I0 O0 D0,i6 P0,SL J0 E0 C0,i6 (p1.Locks.length:Int),SL Q0 M0 K0,i6 0,i6 0,.slice none 0 0,.slice none 0 0]) (c':=[SL I0 O0 D0,i6 P0,SL J0 E0 C0,i6 (p1.Locks.length:Int),SL Q0 M0 K0,i6 X1.Regs,i6 X1.Counts,SL C4 X1.L R3,.slice none 0 0]) o u sizeOf33 rfl rfl rfl rfl rfl (Ak rfl) rfl rfl (.tail (.tail (.tail (.tail (.tail .head))))) λw u=>⟨λh=>absurd rfl h,?_⟩
 refine dE<|tn<|?_
 exact ⟨X1.Regs,X1.Counts,X1.L,H109,C4,R3,hm,K2,o.hs,u,F6,I6⟩
 refine cfv o rfl Y4<|wk<|tn<|?_
 exact ⟨0,0,[],Y1,none,0,hm,(Ext.refl _ _),o.hs,u,(kxb _),((SR.nil _ _).mono F0.sub)⟩
 rintro a w ⟨S1,T1,Y0,R2,V1,D1,hm,E1,o,u,hcA28,hrA29⟩
 unfold Z61 at hm
 refine th<|th<|rg<|qa o rfl λo=>re<|tn<|Av (λa w=>∃ (C2:(List (List api_Op))) (D4:PH) (X2:Option Addr) (E2:Nat) (E4:List Value),(Z62 p1 P0 E0 O0 M0 S1 T1 Y0) C2=some r∧Ext w0 R2 D4∧Fr 103 [(2,PT j0),(6,PT W0)] a∧St w0 Nil [D4] [bk j0 [.slice none 0 0,i6 0,.slice none 0 0,i6 0,.slice none 0 0,i6 0,i6 0,.slice none 0 0,.slice none 0 0] 36,sla 3 1 I0 O0.length D0 I1,sla 3 1 J0 E0.length C0 R1,sla 33 3 Q0 M0.length K0 J2,sla 79 1 X2 C2.length E2 E4,bk W0 [SL I0 O0 D0,i6 P0,SL J0 E0 C0,i6 (p1.Locks.length:Int),SL Q0 M0 K0,i6 S1,i6 T1,SL V1 Y0 D1,SL X2 C2 E2] 36] w∧Rows D4 E4 C2) ?_ ?_
 replace u:=u.nilS 79 1
 replace u:=u.pk [1,1,1,1,1,0,0] rfl
 refine wb<|lp (α:=Nat×(List (List api_Op))×Int) (λ(gh:Nat×(List (List api_Op))×Int) a w=>match gh with | (T4,T2,F4)=>∃ (E3:PH) (K3:Option Addr) (Y2:Nat) (L3:List Value),(Z65 N (Z62 p1 P0 E0 O0 M0 S1 T1 Y0) p1 P0) T4 T2 F4=some r∧Ext w0 R2 E3∧Fr 103 [(1,PT F1),(2,PT j0),(6,PT W0),(9,i6 F4)] a∧St w0 Nil [E3] [bk F1 (pgC O2 J1 P2 O1 oa12 cap13 oa16 cap17 P1 U0 Q1 V0 p1) 27,bk j0 [.slice none 0 0,i6 0,.slice none 0 0,i6 0,.slice none 0 0,i6 0,i6 0,.slice none 0 0,.slice none 0 0] 36,sla 3 1 I0 O0.length D0 I1,sla 3 1 J0 E0.length C0 R1,sla 33 3 Q0 M0.length K0 J2,sla 79 1 K3 T2.length Y2 L3,bk W0 [SL I0 O0 D0,i6 P0,SL J0 E0 C0,i6 (p1.Locks.length:Int),SL Q0 M0 K0,i6 S1,i6 T1,SL V1 Y0 D1,SL K3 T2 Y2] 36] w∧Rows E3 L3 T2) (λgh=>gh.1) (N,[],0) ⟨R2,none,0,[],hm,(Ext.refl _ _),o.hs,u,.nil⟩ ?_
 rintro ⟨T4,T2,F4⟩ a w ⟨E3,K3,Y2,L3,hm,F2,o,u,C5⟩
 obtain _ | T4:=T4
 simp [Z65] at hm
 rw [Z65] at hm
 refine th<|th<|rg<|qm o rfl λo=>qf o Fw rfl λo=>qB o isAgg25 rfl u t0 rfl λo=>qv o (Aj (α:=api_Claim) (xs:=p1.Claims) o Pp rfl) λo=>qv o (Am o rfl rfl) λo=>re<|?_
 rcases bip hm with ⟨I4,hm⟩ | ⟨I4,hm⟩
 refine tn<|ctv o rfl I4<|wk<|tn<|th<|wb<|th<|?_
 obtain ⟨o8,S5,hm⟩:=bs hm
 obtain ⟨v8,B8,J6⟩:=SR.get W3 S5
 obtain ⟨X8,U8,rfl,K6,L6⟩:=Fj B8
 obtain ⟨C8,D8,hm⟩:=bs hm
 obtain ⟨y8,T5,hm⟩:=bs hm
 obtain ⟨S3,E8,hm⟩:=bs hm
 refine rdS 17 u wide λw u=>dr 0 u o rfl (Ad o Fw rfl) λo=>dq 1 u.ld o rfl (λw hl=>eB o isAgg25 rfl hl t0 rfl) λo=>dr 2 u o rfl (Aa o rfl) λo=>dr 3 u o rfl (eI o Pp sizeOf84 rfl rfl S5 W3) λo=>dr 4 u o rfl (Ad o Ub rfl) λo=>dq 5 u.ld o rfl (λw hl=>Ap o isAgg82 rfl (PH.le.cell (λb o hx=>(Lds.le hl) b o ((cp (cp F2.sub E1.sub) F0.sub) b o hx)) (J6 0 _ rfl))) λo=>dq 6 u.ld o rfl (λw hl=>An o isAgg27 sizeOf27 rfl rfl (hl.cellsB t0)) λo=>dr 8 u o rfl (Ad o Iq rfl) λo=>dq 9 u.ld o rfl (λw hl=>eB o isAgg3 rfl hl t6 rfl) λo=>dz 7 rfl<|c1 o rfl call22 (Td (Ag _) (Enc.mono (St.up u) (Enc.mono (cp (cp F2.sub E1.sub) F0.sub) g3)) D8) ⟨rfl,trivial⟩ (λv w a hR o=>?_)
 obtain ⟨Y8,V8,d8,rfl,J4,hk⟩:=hR
 replace u:=u.fresh hk
 replace J4:=J4 E3
 obtain ⟨H135,T0,M6,D5,u⟩:=St.frzS u .head J4
 refine ⟨λ_=>(St.ldsX u T0.sub i1),?_⟩
 obtain ⟨j8,W8,e140,e141,O6,P6⟩:=SR.sub (sz:=1) M6 D5 rfl T5
 refine ds 10 (St.ldsX u T0.sub i1) o rfl (Dc (xs:=C8) (vl:=0) (vh:=P0) o Ly sizeOf9 rfl D5 rfl rfl T5 e140 e141) λo=>dz 11 rfl<|c1 o rfl call21 (Ja3 (Ag _) K6 (St.srH u (L6.mono (cp (cp (cp T0.sub F2.sub) E1.sub) F0.sub))) O6 (St.srH u P6) E8) ⟨rfl,rfl,trivial⟩ (λv w a hR o=>?_)
 obtain ⟨K4,T3,n8,rfl,L4,hk⟩:=hR
 replace u:=u.fresh hk
 replace L4:=L4 H135
 refine ⟨λ_=>(St.ldsX u T0.sub ta1),?_⟩
 refine ds 12 (St.ldsX u T0.sub ta1) o rfl (Aa o rfl) λo=>ds 13 (St.ldsX u T0.sub ta1) o rfl (Dt o rfl rfl) λo=>ds 14 (St.ldsX u T0.sub ta1) o rfl (Dt o rfl rfl) λo=>ds 15 (St.ldsX u T0.sub ta1) o rfl (Ca o rfl) λo=>ds 16 (St.ldsX u T0.sub ta1) o rfl (Ca o rfl) λo=>dE<|tn<|?_
 obtain ⟨F8,I8,hm⟩:=bs hm
 refine rg<|qf o Vi rfl λo=>qB o isAgg34 rfl u t7 rfl λo=>qm o rfl λo=>?_
 obtain ⟨H154,E5,Q6,R6,u⟩:=St.frzS u .head L4
 refine ls<|bz (e:=79) (sz:=1) [SL K4 S3.1 T3] o u λz8 u o=>?_
 have S6:Rows (α:=(List api_Op)) H154 [SL K4 S3.1 T3] ([S3.1]:List (List api_Op)):=(.cons (c:=[SL K4 S3.1 T3]) ⟨_,_,rfl,R6,Q6⟩ .nil)
 refine ls<|Ay (α:=(List api_Op)) (xs:=T2) (ys:=([S3.1]:List (List api_Op))) o rfl u underlying34 JeM rfl (by decide) rfl rfl rfl t6 (C5.mono (cp E5.sub T0.sub)) (u.rdO t0) S6 I8 λT6 U5 U6 w a V6 hU o=>?_
 replace u:=hU _ (.tail (.tail (.tail (.tail (.tail (.tail .head))))))
 replace u:=u.drop .head
 refine qf o Vi rfl λo=>ls<|Bl o u sizeOf34 rfl rfl rfl rfl (.tail (.tail (.tail (.tail (.tail (.tail .head)))))) (.succ (.succ (.succ (.succ (.succ (.succ (.succ (.succ .zero)))))))) λw u=>re<|bn<|tn<|rg<|qm o rfl λo=>qv o (Ao o rfl rfl) λo=>qa o rfl λo=>re<|tn<|?_
 exact ⟨(T4,F8,(i64.wrap (F4+1))),⟨H154,T6,U5,U6,hm,(Ext.trans F2 (Ext.trans T0 E5)),o.hs,u,V6⟩,kxd _⟩
 refine tn<|cfv o rfl I4<|we<|tx<|tx<|bx<|tn<|?_
 replace u:=u.pk [1,1,1,1,1,1] rfl
 exact ⟨T2,E3,K3,Y2,L3,hm,F2,o.hs,u,C5⟩
 rintro a w ⟨C2,D4,X2,E2,E4,hm,I2,o,u,W6⟩
 unfold Z62 at hm
 refine th<|rg<|qv o (An o Tryz.isAgg36 Tryz.sizeOf36 rfl rfl (u.ld.cellsB t5)) λo=>ls<|Ar o u sizeOf36 rfl rfl rfl rfl (Ak rfl) .head λw u=>qa o rfl λo=>re<|tn<|wr<|?_
 obtain ⟨H167,A3,X6,Y6,u⟩:=St.frzS u (.tail .head) (W5.mono (cp (cp I2.sub E1.sub) F0.sub))
 obtain ⟨H171,B3,j6,n6,u⟩:=St.frzS u (.tail .head) (F7.mono (cp (cp (cp A3.sub I2.sub) E1.sub) F0.sub))
 obtain ⟨H175,C3,u6,v6,u⟩:=St.frzS u (.tail .head) (u5.mono (cp (cp (cp B3.sub A3.sub) I2.sub) E1.sub))
 obtain ⟨H179,D3,y6,z6,u⟩:=St.frzS u (.tail .head) (W6.mono (cp (cp C3.sub B3.sub) A3.sub))
 obtain rfl:=si hm
 exact r2c (vs:=[SL I0 O0 D0,i6 P0,SL J0 E0 C0,i6 (p1.Locks.length:Int),SL Q0 M0 K0,i6 S1,i6 T1,SL V1 Y0 D1,SL X2 C2 E2]) (.inl rfl) o results4 rfl rfl isAgg36 sizeOf36 rfl (u.ld.cellsB t0) ⟨H179,_,rfl,(show Enc.rep (α:=api_Unit) H179 [SL I0 O0 D0,i6 P0,SL J0 E0 C0,i6 (p1.Locks.length:Int),SL Q0 M0 K0,i6 S1,i6 T1,SL V1 Y0 D1,SL X2 C2 E2] (api_Unit.mk O0 P0 E0 (p1.Locks.length:Int) M0 (api_Code.mk S1 T1 Y0) C2) from ⟨_,_,rfl,⟨_,_,rfl,Y6,(X6.mono (cp (cp D3.sub C3.sub) B3.sub))⟩,⟨_,_,rfl,rfl,⟨_,_,rfl,⟨_,_,rfl,n6,(j6.mono (cp D3.sub C3.sub))⟩,⟨_,_,rfl,rfl,⟨_,_,rfl,⟨_,_,rfl,v6,(u6.mono D3.sub)⟩,⟨_,_,rfl,⟨_,_,rfl,rfl,⟨_,_,rfl,rfl,⟨_,_,rfl,hcA28,(hrA29.mono (cp (cp (cp (cp D3.sub C3.sub) B3.sub) A3.sub) I2.sub))⟩⟩⟩,⟨_,_,rfl,z6,y6⟩⟩⟩⟩⟩⟩⟩),(Ext.trans F0 (Ext.trans E1 (Ext.trans I2 (Ext.trans A3 (Ext.trans B3 (Ext.trans C3 D3)))))),(St.le u),u.keep⟩
theorem Jep (hH:H.le w0) {cs2:List Value} {p1:api_Unit} (g3:Enc.rep H cs2 p1) {r:Int} (hm:Z5o N p1=some r):Tot Tryz.prog 69 #[.agg cs2.toArray] w0 (λv w'=>v=i6 r∧Keep Nil w0 w'):=by
 unfold Z5o at hm
 refine fn0 func69 rfl ntmps69 rfl rfl λa o=>?_
 have u:St w0 Nil [H] [] w0:=start1 hH
 have g4:Enc.rep (α:=(List Int)×Int×(List Int)×Int×(List api_Code)×api_Code×(List (List api_Op))) H cs2 (p1.Lines,p1.Stays,p1.Firsts,p1.Locks,p1.Threads,p1.Recover,p1.Claims):=g3
 obtain ⟨qz5,qz6,rfl,g7,g8⟩:=g4
 obtain ⟨R0,E0,rfl,O1,D0⟩:=g7
 obtain ⟨q13,q14,rfl,S0,T0⟩:=g8
 obtain rfl:q13=[i6 p1.Stays]:=S0
 obtain ⟨q17,q18,rfl,U0,V0⟩:=T0
 obtain ⟨oa21,cap22,rfl,P1,Q1⟩:=U0
 obtain ⟨q25,q26,rfl,W0,Y0⟩:=V0
 obtain rfl:q25=[i6 p1.Locks]:=W0
 obtain ⟨q29,q30,rfl,j0,n0⟩:=Y0
 obtain ⟨M0,F0,rfl,R1,S1⟩:=j0
 obtain ⟨q37,q38,rfl,C1,D1⟩:=n0
 obtain ⟨O0,I0,rfl,T1,U1⟩:=Cp C1
 obtain ⟨P0,J0,rfl,V1,X1⟩:=D1
 refine th<|rg<|ls<|Bo (cs:=(unC R0 E0 oa21 cap22 M0 F0 O0 I0 P0 J0 p1).toArray) o rfl u rfl rfl λE1 w a u o=>qa o rfl λo=>re<|tn<|th<|th<|rg<|qf o Iq rfl λo=>qB o isAgg3 rfl u t0 rfl λo=>qv o (Bw o rfl rfl) λo=>qm o rfl λo=>gr (Fk:=[(1,PT E1),(13,.bool ((decide (1≤p1.Stays)) && (decide (p1.Stays≤(p1.Lines.length:Int)))))]) 6 7 o u ?_ ?_ ?_
 intro hb o key
 exact qg o (Ad o Iq rfl) λo=>qg o (eB o isAgg3 rfl u.ld t0 rfl) λo=>qg o (Ad o Et rfl) λo=>qg o (eB o isAgg28 rfl u.ld t0 rfl) λo=>qg o (Aj (α:=Int) (xs:=p1.Lines) o Bn rfl) λo=>qg o (Gd o rfl rfl) λo=>qk o (Ab o rfl rfl) key u hb
 intro hb o key
 iterate 6 refine qn o λo=>?_
 exact qk o (Ac o rfl rfl) key u hb
 intro a w o u
 refine re<|?_
 rcases bit hm with ⟨C0,hm⟩ | ⟨C0,hm⟩
 refine tn<|ctv o rfl C0<|th<|?_
 obtain ⟨F1,K0,hm⟩:=bs hm
 obtain ⟨I1,J1,Q0⟩:=SR.get D0 K0
 obtain rfl:I1=[i6 F1]:=J1
 refine rg<|qf o Et rfl λo=>qB o isAgg28 rfl u t0 rfl λo=>qf o Iq rfl λo=>qB o isAgg3 rfl u t0 rfl λo=>qv o (Dr o rfl rfl) λo=>qv o (eI o Bn sizeOf3 rfl rfl K0 D0) λo=>qv o (eD o isAgg3 rfl u.ld (Q0 0 _ rfl)) λo=>qv o (Ao o rfl rfl) λo=>qa o rfl λo=>re<|tn<|wr<|tr<|?_
 obtain rfl:=si hm
 exact r1 o results69 rfl ⟨rfl,u.keep⟩
 refine tn<|cfv o rfl C0<|wk<|tn<|th<|rg<|qa o rfl λo=>re<|tn<|wr<|?_
 obtain rfl:=si hm
 exact r1 o results69 rfl ⟨rfl,u.keep⟩
theorem Wg (hH:H.le w0) {p1:Int} {p2:Int} {r:Bool} (hm:Z6h N p1 p2=some r):Tot Tryz.prog 103 #[i6 p1,i6 p2] w0 (λv w'=>v=.bool r∧Keep Nil w0 w'):=by
 unfold Z6h at hm
 refine fn0 func103 rfl ntmps103 rfl rfl λa o=>?_
 have u:St w0 Nil [H] [] w0:=start1 hH
 refine th<|rg<|qa o rfl λo=>re<|tn<|th<|rg<|qm o rfl λo=>qv o (Bw o rfl rfl) λo=>qm o rfl λo=>gr (Fk:=[(11,.bool ((decide (0≤p1)) && (decide (p1 < p2))))]) 7 4 o u ?_ ?_ ?_
 intro hb o key
 iterate 2 refine qg o (Aa o rfl) λo=>?_
 exact qg o (Am o rfl rfl) λo=>qk o (Ab o rfl rfl) key u hb
 intro hb o key
 iterate 3 refine qn o λo=>?_
 exact qk o (Ac o rfl rfl) key u hb
 intro a w o u
 refine qa o rfl λo=>re<|tn<|wr<|?_
 obtain rfl:=si hm
 exact r1 o results103 rfl ⟨rfl,u.keep⟩
theorem JgY (hH:H.le w0) {E0:Option Addr} {D0:Nat} {p1:(List api_Op)} (W0:p1.length≤D0) (M0:SR H E0 p1) {p6:Int} {r:Int} (hm:Z4w N p1 p6=some r):Tot Tryz.prog 94 #[SL E0 p1 D0,i6 p6] w0 (λv w'=>v=i6 r∧Keep Nil w0 w'):=by
 unfold Z4w at hm
 refine fn0 func94 rfl ntmps94 rfl rfl λa o=>?_
 have u:St w0 Nil [H] [] w0:=start1 hH
 refine th<|rg<|qa o rfl λo=>re<|tn<|th<|rg<|qa o rfl λo=>re<|tn<|th<|th<|rg<|qa o rfl λo=>re<|tn<|Av (λa w=>∃ (T0:Int),Z4x T0=some r∧Fr 49 [(5,i6 T0)] a∧St w0 Nil [H] [] w) ?_ ?_
 refine wb<|lp (α:=Nat×Int×Int) (λgh a w=>match gh with | (F0,I0,C0)=>(Z50 N Z4x p1 p6) F0 I0 C0=some r∧Fr 49 [(0,SL E0 p1 D0),(1,i6 p6),(5,i6 I0),(6,i6 C0)] a∧St w0 Nil [H] [] w) (λgh=>gh.1) (N,0,0) ⟨hm,o.hs,u⟩ ?_
 rintro ⟨F0,I0,C0⟩ a w ⟨hm,o,u⟩
 obtain _ | F0:=F0
 simp [Z50] at hm
 rw [Z50] at hm
 refine th<|th<|rg<|qm o rfl λo=>qm o rfl λo=>qv o (Am o rfl rfl) λo=>re<|?_
 rcases bip hm with ⟨U0,hm⟩ | ⟨U0,hm⟩
 refine tn<|ctv o rfl U0<|wk<|tn<|th<|wb<|th<|th<|?_
 obtain ⟨O0,h9,hm⟩:=bs hm
 obtain ⟨Y0,V0,K0⟩:=SR.get M0 h9
 obtain rfl:=Kf V0
 refine rg<|qm o rfl λo=>qm o rfl λo=>qv o (eI o Gf sizeOf176 rfl rfl h9 M0) λo=>qf o Lf rfl λo=>qv o (eD o isAgg3 rfl u.ld (K0 0 _ rfl)) λo=>qv o (Ah o rfl rfl) λo=>qm o rfl λo=>gr (Fk:=[(0,SL E0 p1 D0),(1,i6 p6),(5,i6 I0),(6,i6 C0),(25,.bool ((decide (O0.Kind=3)) || (decide (O0.Kind=4))))]) 18 7 o u ?_ ?_ ?_
 intro hb o key
 iterate 6 refine qn o λo=>?_
 exact qk o (Ab o rfl rfl) key u hb
 intro hb o key
 iterate 2 refine qg o (Aa o rfl) λo=>?_
 exact qg o (eI o Gf sizeOf176 rfl rfl h9 M0) λo=>qg o (Ad o Lf rfl) λo=>qg o (eD o isAgg3 rfl u.ld (K0 0 _ rfl)) λo=>qg o (Ah o rfl rfl) λo=>qk o (Ac o rfl rfl) key u hb
 intro a w o u
 refine re<|tn<|Av (λa w=>∃ (J0:Int),(Z4y (Z50 N Z4x p1 p6 F0) O0 C0) J0=some r∧Fr 49 [(0,SL E0 p1 D0),(1,i6 p6),(5,i6 J0),(6,i6 C0)] a∧St w0 Nil [H] [] w) ?_ ?_
 rcases bit hm with ⟨P0,hm⟩ | ⟨P0,hm⟩
 refine ctv o rfl P0<|rg<|qm o rfl λo=>qv o (Dr o rfl rfl) λo=>qa o rfl λo=>re<|tn<|?_
 exact ⟨(i64.wrap (I0 - 1)),hm,o.hs,u⟩
 refine cfv o rfl P0<|wk<|tn<|?_
 exact ⟨I0,hm,o.hs,u⟩
 rintro a w ⟨J0,hm,o,u⟩
 unfold Z4y at hm
 refine th<|th<|rg<|qm o rfl λo=>qm o rfl λo=>qv o (eI o Gf sizeOf176 rfl rfl h9 M0) λo=>qf o Lf rfl λo=>qv o (eD o isAgg3 rfl u.ld (K0 0 _ rfl)) λo=>qv o (Bw o rfl rfl) λo=>qm o rfl λo=>gr (Fk:=[(0,SL E0 p1 D0),(1,i6 p6),(5,i6 J0),(6,i6 C0),(41,.bool ((decide (5≤O0.Kind)) && (decide (O0.Kind≤15))))]) 34 7 o u ?_ ?_ ?_
 intro hb o key
 iterate 2 refine qg o (Aa o rfl) λo=>?_
 exact qg o (eI o Gf sizeOf176 rfl rfl h9 M0) λo=>qg o (Ad o Lf rfl) λo=>qg o (eD o isAgg3 rfl u.ld (K0 0 _ rfl)) λo=>qg o (Gd o rfl rfl) λo=>qk o (Ab o rfl rfl) key u hb
 intro hb o key
 iterate 6 refine qn o λo=>?_
 exact qk o (Ac o rfl rfl) key u hb
 intro a w o u
 refine re<|tn<|Av (λa w=>∃ (S0:Int),(Z4z (Z50 N Z4x p1 p6 F0) C0) S0=some r∧Fr 49 [(0,SL E0 p1 D0),(1,i6 p6),(5,i6 S0),(6,i6 C0)] a∧St w0 Nil [H] [] w) ?_ ?_
 rcases bit hm with ⟨Q0,hm⟩ | ⟨Q0,hm⟩
 refine ctv o rfl Q0<|rg<|qm o rfl λo=>qv o (Dr o rfl rfl) λo=>qa o rfl λo=>re<|tn<|?_
 exact ⟨(i64.wrap (J0 - 2)),hm,o.hs,u⟩
 refine cfv o rfl Q0<|wk<|tn<|?_
 exact ⟨J0,hm,o.hs,u⟩
 rintro a w ⟨S0,hm,o,u⟩
 unfold Z4z at hm
 refine th<|th<|rg<|qm o rfl λo=>qv o (Am o rfl rfl) λo=>re<|?_
 rcases bip hm with ⟨R0,hm⟩ | ⟨R0,hm⟩
 refine tn<|ctv o rfl R0<|th<|rg<|qa o rfl λo=>re<|tn<|wr<|tr<|br<|tr<|tr<|br<|tr<|?_
 obtain rfl:=si hm
 exact r1 o results94 rfl ⟨rfl,u.keep⟩
 refine tn<|cfv o rfl R0<|wk<|tn<|rg<|qm o rfl λo=>qv o (Ao o rfl rfl) λo=>qa o rfl λo=>re<|bn<|tn<|rg<|qm o rfl λo=>qv o (Ao o rfl rfl) λo=>qa o rfl λo=>re<|tn<|?_
 exact ⟨(F0,(i64.wrap (S0+1)),(i64.wrap (C0+1))),⟨hm,o.hs,u⟩,kxd _⟩
 refine tn<|cfv o rfl U0<|we<|tx<|tx<|bx<|tn<|?_
 exact ⟨I0,hm,o.hs,u⟩
 rintro a w ⟨T0,hm,o,u⟩
 unfold Z4x at hm
 refine th<|rg<|qm o rfl λo=>qa o rfl λo=>re<|tn<|wr<|?_
 obtain rfl:=si hm
 exact r1 o results94 rfl ⟨rfl,u.keep⟩
theorem Qm (hH:H.le w0) {E0:Option Addr} {D0:Nat} {p1:(List api_Op)} (Q0:p1.length≤D0) (M0:SR H E0 p1) {p6:Int} {r:Bool} (hm:Z4p N p1 p6=some r):Tot Tryz.prog 70 #[SL E0 p1 D0,i6 p6] w0 (λv w'=>v=.bool r∧Keep Nil w0 w'):=by
 unfold Z4p at hm
 refine fn0 func70 rfl ntmps70 rfl rfl λa o=>?_
 have u:St w0 Nil [H] [] w0:=start1 hH
 refine th<|rg<|qa o rfl λo=>re<|tn<|th<|th<|rg<|qa o rfl λo=>re<|tn<|Av (λa w=>(Z4q N p1)=some r∧Fr 78 [(0,SL E0 p1 D0)] a∧St w0 Nil [H] [] w) ?_ ?_
 refine wb<|lp (α:=Nat×Int) (λgh a w=>match gh with | (I0,F0)=>(Z4r N (Z4q N p1) p1 p6) I0 F0=some r∧Fr 78 [(0,SL E0 p1 D0),(1,i6 p6),(5,i6 F0)] a∧St w0 Nil [H] [] w) (λgh=>gh.1) (N,0) ⟨hm,o.hs,u⟩ ?_
 rintro ⟨I0,F0⟩ a w ⟨hm,o,u⟩
 obtain _ | I0:=I0
 simp [Z4r] at hm
 rw [Z4r] at hm
 refine th<|th<|rg<|qm o rfl λo=>qm o rfl λo=>qv o (Aj (α:=api_Op) (xs:=p1) o Gf rfl) λo=>qv o (Am o rfl rfl) λo=>re<|?_
 rcases bip hm with ⟨O0,hm⟩ | ⟨O0,hm⟩
 refine tn<|ctv o rfl O0<|wk<|tn<|th<|wb<|th<|?_
 obtain ⟨C0,h9,hm⟩:=bs hm
 obtain ⟨T0,R0,P0⟩:=SR.get M0 h9
 obtain rfl:=Kf R0
 refine rxS 12 u wide (by kernel_rfl) λw u=>?_
 iterate 2 refine xq u.ld o (λw hl=>Aa o rfl) λo=>?_
 refine xr u o (eI o Gf sizeOf176 rfl rfl h9 M0) λo=>xr u o (Ad o Lf rfl) λo=>xq u.ld o (λw hl=>eD o isAgg3 rfl hl (P0 0 _ rfl)) λo=>?_
 iterate 2 refine xq u.ld o (λw hl=>Aa o rfl) λo=>?_
 refine xr u o (eI o Gf sizeOf176 rfl rfl h9 M0) λo=>xr u o (Ad o Vd rfl) λo=>xq u.ld o (λw hl=>eD o isAgg3 rfl hl (P0 1 _ rfl)) λo=>?_
 iterate 2 refine xq u.ld o (λw hl=>Ca o rfl) λo=>?_
 refine xe<|tn<|th<|rg<|qm o rfl λo=>qv o (Am o rfl rfl) λo=>qm o rfl λo=>gr (Fk:=[(0,SL E0 p1 D0),(1,i6 p6),(5,i6 F0),(6,i6 C0.Kind),(7,i6 C0.N),(29,.bool ((decide (C0.Kind < 1)) || (decide (15 < C0.Kind))))]) 26 3 o u ?_ ?_ ?_
 intro hb o key
 iterate 2 refine qn o λo=>?_
 exact qk o (Ab o rfl rfl) key u hb
 intro hb o key
 exact qg o (Aa o rfl) λo=>qg o (Ba o rfl rfl) λo=>qk o (Ac o rfl rfl) key u hb
 intro a w o u
 refine qm o rfl λo=>gr (Fk:=[(0,SL E0 p1 D0),(1,i6 p6),(5,i6 F0),(6,i6 C0.Kind),(7,i6 C0.N),(41,.bool (((decide (C0.Kind < 1)) || (decide (15 < C0.Kind))) || ((decide (C0.Kind=1)) && ((decide (C0.N < 0)) || (decide (4294967296 < C0.N))))))]) 30 11 o u ?_ ?_ ?_
 intro hb o key
 iterate 3 refine qn o λo=>?_
 iterate 6 refine ls<|gnu o rfl rfl rfl λa o=>?_
 exact qn o λo=>qk o (Ab o rfl rfl) key u hb
 intro hb o key
 refine qg o (Aa o rfl) λo=>qg o (Ah o rfl rfl) λo=>qg o (Aa o rfl) λo=>gr (Fk:=[(0,SL E0 p1 D0),(1,i6 p6),(5,i6 F0),(6,i6 C0.Kind),(7,i6 C0.N),(30,.bool false),(40,.bool ((decide (C0.Kind=1)) && ((decide (C0.N < 0)) || (decide (4294967296 < C0.N)))))]) 33 7 o u ?_ ?_ ?_
 intro hb o key
 refine qg o (Aa o rfl) λo=>qg o (Am o rfl rfl) λo=>qg o (Aa o rfl) λo=>gr (Fk:=[(0,SL E0 p1 D0),(1,i6 p6),(5,i6 F0),(6,i6 C0.Kind),(7,i6 C0.N),(30,.bool false),(33,.bool true),(39,.bool ((decide (C0.N < 0)) || (decide (4294967296 < C0.N))))]) 36 3 o u ?_ ?_ ?_
 intro hb o key
 iterate 2 refine qn o λo=>?_
 exact ql o (Ab o rfl rfl) key u hb
 intro hb o key
 exact qg o (Aa o rfl) λo=>qg o (Ba o rfl rfl) λo=>ql o (Ac o rfl rfl) key u hb
 intro a w o u
 exact ql o (Ab o rfl rfl) key u hb
 intro hb o key
 iterate 3 refine qn o λo=>?_
 iterate 2 refine ls<|gnu o rfl rfl rfl λa o=>?_
 exact qn o λo=>ql o (Ac o rfl rfl) key u hb
 intro a w o u
 exact qk o (Ac o rfl rfl) key u hb
 intro a w o u
 refine qm o rfl λo=>gr (Fk:=[(0,SL E0 p1 D0),(1,i6 p6),(5,i6 F0),(6,i6 C0.Kind),(7,i6 C0.N),(54,.bool ((((decide (C0.Kind < 1)) || (decide (15 < C0.Kind))) || ((decide (C0.Kind=1)) && ((decide (C0.N < 0)) || (decide (4294967296 < C0.N))))) || ((decide (C0.Kind=2)) && ((decide (C0.N < 0)) || (decide (p6≤C0.N))))))]) 42 12 o u ?_ ?_ ?_
 intro hb o key
 iterate 3 refine qn o λo=>?_
 iterate 7 refine ls<|gnu o rfl rfl rfl λa o=>?_
 exact qn o λo=>qk o (Ab o rfl rfl) key u hb
 intro hb o key
 refine qg o (Aa o rfl) λo=>qg o (Ah o rfl rfl) λo=>qg o (Aa o rfl) λo=>gr (Fk:=[(0,SL E0 p1 D0),(1,i6 p6),(5,i6 F0),(6,i6 C0.Kind),(7,i6 C0.N),(42,.bool false),(53,.bool ((decide (C0.Kind=2)) && ((decide (C0.N < 0)) || (decide (p6≤C0.N)))))]) 45 8 o u ?_ ?_ ?_
 intro hb o key
 refine qg o (Aa o rfl) λo=>qg o (Am o rfl rfl) λo=>qg o (Aa o rfl) λo=>gr (Fk:=[(0,SL E0 p1 D0),(1,i6 p6),(5,i6 F0),(6,i6 C0.Kind),(7,i6 C0.N),(42,.bool false),(45,.bool true),(52,.bool ((decide (C0.N < 0)) || (decide (p6≤C0.N))))]) 48 4 o u ?_ ?_ ?_
 intro hb o key
 iterate 3 refine qn o λo=>?_
 exact ql o (Ab o rfl rfl) key u hb
 intro hb o key
 iterate 2 refine qg o (Aa o rfl) λo=>?_
 exact qg o (Bw o rfl rfl) λo=>ql o (Ac o rfl rfl) key u hb
 intro a w o u
 exact ql o (Ab o rfl rfl) key u hb
 intro hb o key
 iterate 3 refine qn o λo=>?_
 iterate 3 refine ls<|gnu o rfl rfl rfl λa o=>?_
 exact qn o λo=>ql o (Ac o rfl rfl) key u hb
 intro a w o u
 exact qk o (Ac o rfl rfl) key u hb
 intro a w o u
 refine qm o rfl λo=>gr (Fk:=[(0,SL E0 p1 D0),(1,i6 p6),(5,i6 F0),(62,.bool (((((decide (C0.Kind < 1)) || (decide (15 < C0.Kind))) || ((decide (C0.Kind=1)) && ((decide (C0.N < 0)) || (decide (4294967296 < C0.N))))) || ((decide (C0.Kind=2)) && ((decide (C0.N < 0)) || (decide (p6≤C0.N))))) || ((decide (2 < C0.Kind)) && (decide (C0.N≠0)))))]) 55 7 o u ?_ ?_ ?_
 intro hb o key
 iterate 3 refine qn o λo=>?_
 iterate 2 refine ls<|gnu o rfl rfl rfl λa o=>?_
 exact qn o λo=>qk o (Ab o rfl rfl) key u hb
 intro hb o key
 refine qg o (Aa o rfl) λo=>qg o (Ba o rfl rfl) λo=>qg o (Aa o rfl) λo=>gr (Fk:=[(0,SL E0 p1 D0),(1,i6 p6),(5,i6 F0),(55,.bool false),(61,.bool ((decide (2 < C0.Kind)) && (decide (C0.N≠0))))]) 58 3 o u ?_ ?_ ?_
 intro hb o key
 exact qg o (Aa o rfl) λo=>qg o (Bg o rfl rfl) λo=>ql o (Ab o rfl rfl) key u hb
 intro hb o key
 iterate 2 refine qn o λo=>?_
 exact ql o (Ac o rfl rfl) key u hb
 intro a w o u
 exact qk o (Ac o rfl rfl) key u hb
 intro a w o u
 refine re<|?_
 rcases bit hm with ⟨J0,hm⟩ | ⟨J0,hm⟩
 refine tn<|ctv o rfl J0<|th<|rg<|qa o rfl λo=>re<|tn<|wr<|br<|tr<|tr<|br<|tr<|?_
 obtain rfl:=si hm
 exact r1 o results70 rfl ⟨rfl,u.keep⟩
 refine tn<|cfv o rfl J0<|wk<|bn<|tn<|rg<|qm o rfl λo=>qv o (Ao o rfl rfl) λo=>qa o rfl λo=>re<|tn<|?_
 exact ⟨(I0,(i64.wrap (F0+1))),⟨hm,o.hs,u⟩,kxd _⟩
 refine tn<|cfv o rfl O0<|we<|tx<|tx<|bx<|tn<|?_
 exact ⟨hm,o.hs,u⟩
 rintro a w ⟨hm,o,u⟩
 unfold Z4q at hm
 refine th<|?_
 rcases bit hm with ⟨K0,hm⟩ | ⟨K0,hm⟩
 obtain ⟨U0,S0,hm⟩:=bs hm
 refine rg<|qm o rfl λo=>qv o (Aj (α:=api_Op) (xs:=p1) o Gf rfl) λo=>qv o (Bw o rfl rfl) λo=>qm o rfl λo=>gr (Fk:=[(0,SL E0 p1 D0),(70,.bool ((decide (1≤(p1.length:Int))) && (decide ((p1.length:Int)≤40))))]) 66 4 o u ?_ ?_ ?_
 intro hb o key
 exact qg o (Aa o rfl) λo=>qg o (Aj (α:=api_Op) (xs:=p1) o Gf rfl) λo=>qg o (Gd o rfl rfl) λo=>qk o (Ab o rfl rfl) key u hb
 intro hb o key
 iterate 3 refine qn o λo=>?_
 exact qk o (Ac o rfl rfl) key u hb
 intro a w o u
 refine qv o (As (Aa o rfl) (congrArg Value.bool K0)) λo=>?_
 iterate 2 refine qg o (Aa o rfl) λo=>?_
 refine qg o (Aj (α:=api_Op) (xs:=p1) o Gf rfl) λo=>ls<|gy o rfl rfl<|cr o call94 (JgY (Ag _) Q0 (St.srH u M0) S0) u λu o=>qg o (Ah o rfl rfl) λo=>qv o (Ab o rfl rfl) λo=>qa o rfl λo=>re<|tn<|wr<|?_
 obtain rfl:=si hm
 exact r1 o results70 rfl ⟨rfl,u.keep⟩
 refine rg<|qm o rfl λo=>qv o (Aj (α:=api_Op) (xs:=p1) o Gf rfl) λo=>qv o (Bw o rfl rfl) λo=>qm o rfl λo=>gr (Fk:=[(0,SL E0 p1 D0),(70,.bool ((decide (1≤(p1.length:Int))) && (decide ((p1.length:Int)≤40))))]) 66 4 o u ?_ ?_ ?_
 intro hb o key
 exact qg o (Aa o rfl) λo=>qg o (Aj (α:=api_Op) (xs:=p1) o Gf rfl) λo=>qg o (Gd o rfl rfl) λo=>qk o (Ab o rfl rfl) key u hb
 intro hb o key
 iterate 3 refine qn o λo=>?_
 exact qk o (Ac o rfl rfl) key u hb
 intro a w o u
 refine qv o (As (Aa o rfl) (congrArg Value.bool K0)) λo=>?_
 iterate 5 refine qn o λo=>?_
 refine qv o (Ac o rfl rfl) λo=>qa o rfl λo=>re<|tn<|wr<|?_
 obtain rfl:=si hm
 exact r1 o results70 rfl ⟨rfl,u.keep⟩
theorem Je9 (hH:H.le w0) {cs2:List Value} {p1:api_Instr} (g3:Enc.rep H cs2 p1) {cs5:List Value} {p4:api_Code} (g6:Enc.rep H cs5 p4) {p7:Int} {p8:Int} {p9:Int} {r:Bool} (hm:Z69 N p1 p4 p7 p8 p9=some r):Tot Tryz.prog 91 #[.agg cs2.toArray,.agg cs5.toArray,i6 p7,i6 p8,i6 p9] w0 (λv w'=>v=.bool r∧Keep Nil w0 w'):=by
 unfold Z69 at hm
 refine fn0 func91 rfl ntmps91 rfl rfl λa o=>?_
 have u:St w0 Nil [H] [] w0:=start1 hH
 obtain ⟨M0,I0,O0,J0,rfl,U0,V0,R1,S1⟩:=Bv g3
 obtain ⟨P0,K0,rfl,Y2,A3⟩:=Cp g6
 refine th<|rg<|ls<|Bo (cs:=(inC M0 I0 O0 J0 p1).toArray) o rfl u rfl rfl λD0 w a u o=>ls<|Bo (cs:=[i6 p4.Regs,i6 p4.Counts,SL P0 p4.L K0].toArray) o rfl u rfl rfl λE0 w a u o=>qa o rfl λo=>re<|tn<|th<|rg<|qf o Bq rfl λo=>qB o isAgg3 rfl u t1 rfl λo=>qa o rfl λo=>re<|tn<|th<|rxS 8 u wide (by kernel_rfl) λw u=>xr u o (Ad o Dw rfl) λo=>xq u.ld o (λw hl=>eB o isAgg3 rfl hl t1 rfl) λo=>xr u o (Ah o rfl rfl) λo=>xr u o (Ad o Ch rfl) λo=>xq u.ld o (λw hl=>eB o isAgg3 rfl hl t1 rfl) λo=>xr u o (Ah o rfl rfl) λo=>?_
 iterate 2 refine xq u.ld o (λw hl=>Ca o rfl) λo=>?_
 refine xe<|tn<|th<|rg<|qm o rfl λo=>qv o (Ah o rfl rfl) λo=>qm o rfl λo=>gr (Fk:=[(2,i6 p7),(3,i6 p8),(4,i6 p9),(5,PT D0),(6,PT E0),(11,i6 p1.Kind),(12,.bool (decide (p1.A=0))),(13,.bool (decide (p1.B=0))),(28,.bool ((decide (p1.Kind=1)) || (decide (p1.Kind=3))))]) 25 3 o u ?_ ?_ ?_
 intro hb o key
 iterate 2 refine qn o λo=>?_
 exact qk o (Ab o rfl rfl) key u hb
 intro hb o key
 exact qg o (Aa o rfl) λo=>qg o (Ah o rfl rfl) λo=>qk o (Ac o rfl rfl) key u hb
 intro a w o u
 refine qm o rfl λo=>gr (Fk:=[(2,i6 p7),(3,i6 p8),(4,i6 p9),(5,PT D0),(6,PT E0),(11,i6 p1.Kind),(12,.bool (decide (p1.A=0))),(13,.bool (decide (p1.B=0))),(32,.bool (((decide (p1.Kind=1)) || (decide (p1.Kind=3))) || (decide (p1.Kind=4))))]) 29 3 o u ?_ ?_ ?_
 intro hb o key
 iterate 2 refine qn o λo=>?_
 exact qk o (Ab o rfl rfl) key u hb
 intro hb o key
 exact qg o (Aa o rfl) λo=>qg o (Ah o rfl rfl) λo=>qk o (Ac o rfl rfl) key u hb
 intro a w o u
 refine qm o rfl λo=>gr (Fk:=[(2,i6 p7),(3,i6 p8),(4,i6 p9),(5,PT D0),(6,PT E0),(11,i6 p1.Kind),(12,.bool (decide (p1.A=0))),(13,.bool (decide (p1.B=0))),(36,.bool ((((decide (p1.Kind=1)) || (decide (p1.Kind=3))) || (decide (p1.Kind=4))) || (decide (p1.Kind=12))))]) 33 3 o u ?_ ?_ ?_
 intro hb o key
 iterate 2 refine qn o λo=>?_
 exact qk o (Ab o rfl rfl) key u hb
 intro hb o key
 exact qg o (Aa o rfl) λo=>qg o (Ah o rfl rfl) λo=>qk o (Ac o rfl rfl) key u hb
 intro a w o u
 refine qm o rfl λo=>gr (Fk:=[(2,i6 p7),(3,i6 p8),(4,i6 p9),(5,PT D0),(6,PT E0),(11,i6 p1.Kind),(12,.bool (decide (p1.A=0))),(13,.bool (decide (p1.B=0))),(40,.bool (((((decide (p1.Kind=1)) || (decide (p1.Kind=3))) || (decide (p1.Kind=4))) || (decide (p1.Kind=12))) || (decide (p1.Kind=15))))]) 37 3 o u ?_ ?_ ?_
 intro hb o key
 iterate 2 refine qn o λo=>?_
 exact qk o (Ab o rfl rfl) key u hb
 intro hb o key
 exact qg o (Aa o rfl) λo=>qg o (Ah o rfl rfl) λo=>qk o (Ac o rfl rfl) key u hb
 intro a w o u
 refine qa o rfl λo=>re<|tn<|th<|th<|rg<|qm o rfl λo=>qv o (Ah o rfl rfl) λo=>qm o rfl λo=>gr (Fk:=[(2,i6 p7),(3,i6 p8),(4,i6 p9),(5,PT D0),(6,PT E0),(11,i6 p1.Kind),(12,.bool (decide (p1.A=0))),(13,.bool (decide (p1.B=0))),(14,.bool (((((decide (p1.Kind=1)) || (decide (p1.Kind=3))) || (decide (p1.Kind=4))) || (decide (p1.Kind=12))) || (decide (p1.Kind=15)))),(46,.bool ((decide (p1.Kind=1)) || (decide (p1.Kind=2))))]) 43 3 o u ?_ ?_ ?_
 intro hb o key
 iterate 2 refine qn o λo=>?_
 exact qk o (Ab o rfl rfl) key u hb
 intro hb o key
 exact qg o (Aa o rfl) λo=>qg o (Ah o rfl rfl) λo=>qk o (Ac o rfl rfl) key u hb
 intro a w o u
 refine qm o rfl λo=>gr (Fk:=[(2,i6 p7),(3,i6 p8),(4,i6 p9),(5,PT D0),(6,PT E0),(11,i6 p1.Kind),(12,.bool (decide (p1.A=0))),(13,.bool (decide (p1.B=0))),(14,.bool (((((decide (p1.Kind=1)) || (decide (p1.Kind=3))) || (decide (p1.Kind=4))) || (decide (p1.Kind=12))) || (decide (p1.Kind=15)))),(50,.bool (((decide (p1.Kind=1)) || (decide (p1.Kind=2))) || (decide (p1.Kind=4))))]) 47 3 o u ?_ ?_ ?_
 intro hb o key
 iterate 2 refine qn o λo=>?_
 exact qk o (Ab o rfl rfl) key u hb
 intro hb o key
 exact qg o (Aa o rfl) λo=>qg o (Ah o rfl rfl) λo=>qk o (Ac o rfl rfl) key u hb
 intro a w o u
 refine re<|tn<|Av (λa w=>∃ (T0:Bool),(Z6a N p1 p4 p7 p8 p9) T0=some r∧Fr 153 [(2,i6 p7),(3,i6 p8),(4,i6 p9),(5,PT D0),(6,PT E0),(11,i6 p1.Kind),(12,.bool T0),(13,.bool (decide (p1.B=0))),(14,.bool (((((decide (p1.Kind=1)) || (decide (p1.Kind=3))) || (decide (p1.Kind=4))) || (decide (p1.Kind=12))) || (decide (p1.Kind=15))))] a∧St w0 Nil [H] [bk D0 (inC M0 I0 O0 J0 p1) 157,bk E0 [i6 p4.Regs,i6 p4.Counts,SL P0 p4.L K0] 33] w) ?_ ?_
 rcases bit hm with ⟨W0,hm⟩ | ⟨W0,hm⟩
 refine ctv o rfl W0<|?_
 obtain ⟨F2,I2,hm⟩:=bs hm
 refine rg<|qf o Dw rfl λo=>qB o isAgg3 rfl u t1 rfl λo=>qf o Jn rfl λo=>qB o isAgg3 rfl u t0 rfl λo=>ls<|cr o call103 (Wg (Ag _) I2) u λu o=>qa o rfl λo=>re<|tn<|?_
 replace u:=u.pk [1,0] rfl
 exact ⟨F2,hm,o.hs,u⟩
 refine cfv o rfl W0<|wk<|tn<|?_
 replace u:=u.pk [1,0] rfl
 exact ⟨(decide (p1.A=0)),hm,o.hs,u⟩
 rintro a w ⟨T0,hm,o,u⟩
 unfold Z6a at hm
 refine th<|th<|rg<|qm o rfl λo=>qv o (Ah o rfl rfl) λo=>qm o rfl λo=>gr (Fk:=[(2,i6 p7),(3,i6 p8),(4,i6 p9),(5,PT D0),(6,PT E0),(11,i6 p1.Kind),(12,.bool T0),(13,.bool (decide (p1.B=0))),(14,.bool (((((decide (p1.Kind=1)) || (decide (p1.Kind=3))) || (decide (p1.Kind=4))) || (decide (p1.Kind=12))) || (decide (p1.Kind=15)))),(61,.bool ((decide (p1.Kind=13)) || (decide (p1.Kind=14))))]) 58 3 o u ?_ ?_ ?_
 intro hb o key
 iterate 2 refine qn o λo=>?_
 exact qk o (Ab o rfl rfl) key u hb
 intro hb o key
 exact qg o (Aa o rfl) λo=>qg o (Ah o rfl rfl) λo=>qk o (Ac o rfl rfl) key u hb
 intro a w o u
 refine re<|tn<|Av (λa w=>∃ (C0:Bool),(Z6b N p1 p4 p7 p8 p9) C0=some r∧Fr 153 [(2,i6 p7),(3,i6 p8),(4,i6 p9),(5,PT D0),(6,PT E0),(11,i6 p1.Kind),(12,.bool C0),(13,.bool (decide (p1.B=0))),(14,.bool (((((decide (p1.Kind=1)) || (decide (p1.Kind=3))) || (decide (p1.Kind=4))) || (decide (p1.Kind=12))) || (decide (p1.Kind=15))))] a∧St w0 Nil [H] [bk D0 (inC M0 I0 O0 J0 p1) 157,bk E0 [i6 p4.Regs,i6 p4.Counts,SL P0 p4.L K0] 33] w) ?_ ?_
 rcases bit hm with ⟨Y0,hm⟩ | ⟨Y0,hm⟩
 refine ctv o rfl Y0<|?_
 obtain ⟨J2,K2,hm⟩:=bs hm
 refine rg<|qf o Dw rfl λo=>qB o isAgg3 rfl u t0 rfl λo=>qf o Uf rfl λo=>qB o isAgg3 rfl u t1 rfl λo=>ls<|cr o call103 (Wg (Ag _) K2) u λu o=>qa o rfl λo=>re<|tn<|?_
 exact ⟨J2,hm,o.hs,u⟩
 refine cfv o rfl Y0<|wk<|tn<|?_
 exact ⟨T0,hm,o.hs,u⟩
 rintro a w ⟨C0,hm,o,u⟩
 unfold Z6b at hm
 refine th<|th<|rg<|qm o rfl λo=>re<|tn<|Av (λa w=>∃ (F0:Bool),(Z6c N p1 p4 C0) F0=some r∧Fr 153 [(5,PT D0),(6,PT E0),(11,i6 p1.Kind),(12,.bool C0),(13,.bool F0),(14,.bool (((((decide (p1.Kind=1)) || (decide (p1.Kind=3))) || (decide (p1.Kind=4))) || (decide (p1.Kind=12))) || (decide (p1.Kind=15))))] a∧St w0 Nil [H] [bk D0 (inC M0 I0 O0 J0 p1) 157,bk E0 [i6 p4.Regs,i6 p4.Counts,SL P0 p4.L K0] 33] w) ?_ ?_
 refine wb<|th<|th<|rg<|qv o (Ah o rfl rfl) λo=>qa o rfl λo=>re<|tn<|Av (λa w=>∃ (T1:Bool),(Z6d N (Z6c N p1 p4 C0) p1 p7 p8 p9) T1=some r∧Fr 153 [(2,i6 p7),(3,i6 p8),(4,i6 p9),(5,PT D0),(6,PT E0),(11,i6 p1.Kind),(12,.bool C0),(13,.bool (decide (p1.B=0))),(14,.bool (((((decide (p1.Kind=1)) || (decide (p1.Kind=3))) || (decide (p1.Kind=4))) || (decide (p1.Kind=12))) || (decide (p1.Kind=15)))),(67,i6 p1.Kind),(68,.bool T1)] a∧St w0 Nil [H] [bk D0 (inC M0 I0 O0 J0 p1) 157,bk E0 [i6 p4.Regs,i6 p4.Counts,SL P0 p4.L K0] 33] w) ?_ ?_
 rcases bip hm with ⟨j0,hm⟩ | ⟨j0,hm⟩
 refine ctv o rfl j0<|wk<|tn<|?_
 exact ⟨(decide (p1.Kind=2)),hm,o.hs,u⟩
 refine cfv o rfl j0<|th<|rg<|qv o (Ah o rfl rfl) λo=>qa o rfl λo=>re<|?_
 rcases bip hm with ⟨n0,hm⟩ | ⟨n0,hm⟩
 refine tn<|ctv o rfl n0<|wk<|tn<|?_
 exact ⟨(decide (p1.Kind=3)),hm,o.hs,u⟩
 refine tn<|cfv o rfl n0<|rg<|qv o (Ah o rfl rfl) λo=>qa o rfl λo=>re<|tn<|?_
 exact ⟨(decide (p1.Kind=4)),hm,o.hs,u⟩
 rintro a w ⟨T1,hm,o,u⟩
 unfold Z6d at hm
 rcases bit hm with ⟨C1,hm⟩ | ⟨C1,hm⟩
 refine ctv o rfl C1<|?_
 obtain ⟨O2,P2,hm⟩:=bs hm
 refine rg<|qf o Ch rfl λo=>qB o isAgg3 rfl u t0 rfl λo=>qm o rfl λo=>ls<|cr o call103 (Wg (Ag _) P2) u λu o=>qa o rfl λo=>re<|bn<|tn<|?_
 exact ⟨O2,hm,o.hs,u⟩
 refine cfv o rfl C1<|th<|th<|rg<|qv o (Ah o rfl rfl) λo=>qa o rfl λo=>re<|tn<|Av (λa w=>∃ (U1:Bool),(Z6e N (Z6c N p1 p4 C0) p1 p8 p9) U1=some r∧Fr 153 [(3,i6 p8),(4,i6 p9),(5,PT D0),(6,PT E0),(11,i6 p1.Kind),(12,.bool C0),(13,.bool (decide (p1.B=0))),(14,.bool (((((decide (p1.Kind=1)) || (decide (p1.Kind=3))) || (decide (p1.Kind=4))) || (decide (p1.Kind=12))) || (decide (p1.Kind=15)))),(67,i6 p1.Kind),(76,.bool U1)] a∧St w0 Nil [H] [bk D0 (inC M0 I0 O0 J0 p1) 157,bk E0 [i6 p4.Regs,i6 p4.Counts,SL P0 p4.L K0] 33] w) ?_ ?_
 rcases bip hm with ⟨D1,hm⟩ | ⟨D1,hm⟩
 refine ctv o rfl D1<|wk<|tn<|?_
 exact ⟨(decide (p1.Kind=5)),hm,o.hs,u⟩
 refine cfv o rfl D1<|rg<|qv o (Ah o rfl rfl) λo=>qa o rfl λo=>re<|tn<|?_
 exact ⟨(decide (p1.Kind=6)),hm,o.hs,u⟩
 rintro a w ⟨U1,hm,o,u⟩
 unfold Z6e at hm
 rcases bit hm with ⟨E1,hm⟩ | ⟨E1,hm⟩
 refine ctv o rfl E1<|?_
 obtain ⟨R2,T2,hm⟩:=bs hm
 refine rg<|qf o Ch rfl λo=>qB o isAgg3 rfl u t0 rfl λo=>qm o rfl λo=>ls<|cr o call103 (Wg (Ag _) T2) u λu o=>qa o rfl λo=>re<|bn<|tn<|?_
 exact ⟨R2,hm,o.hs,u⟩
 refine cfv o rfl E1<|th<|th<|rg<|qv o (Ah o rfl rfl) λo=>qa o rfl λo=>re<|tn<|Av (λa w=>∃ (V1:Bool),(Z6f N (Z6c N p1 p4 C0) p1 p9) V1=some r∧Fr 153 [(4,i6 p9),(5,PT D0),(6,PT E0),(11,i6 p1.Kind),(12,.bool C0),(13,.bool (decide (p1.B=0))),(14,.bool (((((decide (p1.Kind=1)) || (decide (p1.Kind=3))) || (decide (p1.Kind=4))) || (decide (p1.Kind=12))) || (decide (p1.Kind=15)))),(67,i6 p1.Kind),(83,.bool V1)] a∧St w0 Nil [H] [bk D0 (inC M0 I0 O0 J0 p1) 157,bk E0 [i6 p4.Regs,i6 p4.Counts,SL P0 p4.L K0] 33] w) ?_ ?_
 rcases bip hm with ⟨F1,hm⟩ | ⟨F1,hm⟩
 refine ctv o rfl F1<|wk<|tn<|?_
 exact ⟨(decide (p1.Kind=9)),hm,o.hs,u⟩
 refine cfv o rfl F1<|rg<|qv o (Ah o rfl rfl) λo=>qa o rfl λo=>re<|tn<|?_
 exact ⟨(decide (p1.Kind=10)),hm,o.hs,u⟩
 rintro a w ⟨V1,hm,o,u⟩
 unfold Z6f at hm
 rcases bit hm with ⟨I1,hm⟩ | ⟨I1,hm⟩
 refine ctv o rfl I1<|?_
 obtain ⟨U2,V2,hm⟩:=bs hm
 refine rg<|qf o Ch rfl λo=>qB o isAgg3 rfl u t0 rfl λo=>qm o rfl λo=>ls<|cr o call103 (Wg (Ag _) V2) u λu o=>qa o rfl λo=>re<|bn<|tn<|?_
 exact ⟨U2,hm,o.hs,u⟩
 refine cfv o rfl I1<|th<|rg<|qv o (Ah o rfl rfl) λo=>qa o rfl λo=>re<|?_
 rcases bip hm with ⟨J1,hm⟩ | ⟨J1,hm⟩
 refine tn<|ctv o rfl J1<|rg<|qf o Ch rfl λo=>qB o isAgg3 rfl u t0 rfl λo=>qv o (Bw o rfl rfl) λo=>qm o rfl λo=>gr (Fk:=[(5,PT D0),(6,PT E0),(11,i6 p1.Kind),(12,.bool C0),(14,.bool (((((decide (p1.Kind=1)) || (decide (p1.Kind=3))) || (decide (p1.Kind=4))) || (decide (p1.Kind=12))) || (decide (p1.Kind=15)))),(99,.bool ((decide (1≤p1.B)) && (decide (p1.B≤8))))]) 95 4 o u ?_ ?_ ?_
 intro hb o key
 exact qg o (Ad o Ch rfl) λo=>qg o (eB o isAgg3 rfl u.ld t0 rfl) λo=>qg o (Gd o rfl rfl) λo=>qk o (Ab o rfl rfl) key u hb
 intro hb o key
 iterate 3 refine qn o λo=>?_
 exact qk o (Ac o rfl rfl) key u hb
 intro a w o u
 refine qa o rfl λo=>re<|bn<|tn<|?_
 exact ⟨((decide (1≤p1.B)) && (decide (p1.B≤8))),hm,o.hs,u⟩
 refine tn<|cfv o rfl J1<|wk<|bn<|tn<|?_
 exact ⟨(decide (p1.B=0)),hm,o.hs,u⟩
 rintro a w ⟨F0,hm,o,u⟩
 unfold Z6c at hm
 refine th<|th<|Av (λa w=>∃ (X1:Bool),(Z6g p1 C0 F0) X1=some r∧Fr 153 [(11,i6 p1.Kind),(12,.bool C0),(13,.bool F0),(140,.bool X1)] a∧St w0 Nil [H] [] w) ?_ ?_
 rcases bit hm with ⟨Q0,hm⟩ | ⟨Q0,hm⟩
 obtain ⟨Y1,u1,hm⟩:=bs hm
 rcases bit hm with ⟨R0,hm⟩ | ⟨R0,hm⟩
 refine rg<|qm o rfl λo=>qv o (As (Aa o rfl) (congrArg Value.bool Q0)) λo=>qg o (Ad o Fp rfl) λo=>qg o (eB o isAgg79 rfl u.ld t0 rfl) λo=>qg o (Ad o Jn rfl) λo=>qg o (eB o isAgg3 rfl u.ld t1 rfl) λo=>ls<|gy o rfl rfl<|cr o call70 (Qm (Ag _) U0 (St.srH u V0) u1) u λu o=>qg o (Bi o rfl) λo=>qv o (Ab o rfl rfl) λo=>qm o rfl λo=>gr (Fk:=[(5,PT D0),(6,PT E0),(11,i6 p1.Kind),(12,.bool C0),(13,.bool F0),(118,.bool ((!Y1) || ((!(((((decide (p1.Kind=1)) || (decide (p1.Kind=3))) || (decide (p1.Kind=4))) || (decide (p1.Kind=12))) || (decide (p1.Kind=15)))) && (decide (0 < (p1.E.length:Int))))))]) 109 9 o u ?_ ?_ ?_
 intro hb o key
 iterate 3 refine qn o λo=>?_
 iterate 4 refine ls<|gnu o rfl rfl rfl λa o=>?_
 exact qn o λo=>qk o (Ab o rfl rfl) key u hb
 intro hb o key
 refine qg o (Aa o rfl) λo=>qg o (Bi o rfl) λo=>qg o (Aa o rfl) λo=>gr (Fk:=[(5,PT D0),(6,PT E0),(11,i6 p1.Kind),(12,.bool C0),(13,.bool F0),(109,.bool false),(117,.bool ((!(((((decide (p1.Kind=1)) || (decide (p1.Kind=3))) || (decide (p1.Kind=4))) || (decide (p1.Kind=12))) || (decide (p1.Kind=15)))) && (decide (0 < (p1.E.length:Int)))))]) 112 5 o u ?_ ?_ ?_
 intro hb o key
 exact qg o (Ad o Fp rfl) λo=>qg o (eB o isAgg79 rfl u.ld t0 rfl) λo=>qg o (Aj (α:=api_Op) (xs:=p1.E) o Gf rfl) λo=>qg o (Ba o rfl rfl) λo=>ql o (Ab o rfl rfl) key u hb
 intro hb o key
 iterate 4 refine qn o λo=>?_
 exact ql o (Ac o rfl rfl) key u hb
 intro a w o u
 exact qk o (Ac o rfl rfl) key u hb
 intro a w o u
 refine qv o (As (Aa o rfl) (congrArg Value.bool R0)) λo=>?_
 iterate 3 refine qn o λo=>?_
 iterate 6 refine ls<|gnu o rfl rfl rfl λa o=>?_
 refine qn o λo=>qv o (Ab o rfl rfl) λo=>qm o rfl λo=>?_
 iterate 3 refine qn o λo=>?_
 iterate 4 refine ls<|gnu o rfl rfl rfl λa o=>?_
 refine qn o λo=>qv o (Ab o rfl rfl) λo=>re<|tn<|?_
 replace u:=u.pickL .nil
 exact ⟨true,hm,o.hs,u⟩
 rcases bip hm with ⟨O1,hm⟩ | ⟨O1,hm⟩
 obtain ⟨C2,W2,hm⟩:=bs hm
 refine rg<|qm o rfl λo=>qv o (As (Aa o rfl) (congrArg Value.bool Q0)) λo=>qg o (Ad o Fp rfl) λo=>qg o (eB o isAgg79 rfl u.ld t0 rfl) λo=>qg o (Ad o Jn rfl) λo=>qg o (eB o isAgg3 rfl u.ld t1 rfl) λo=>ls<|gy o rfl rfl<|cr o call70 (Qm (Ag _) U0 (St.srH u V0) u1) u λu o=>qg o (Bi o rfl) λo=>qv o (Ab o rfl rfl) λo=>qm o rfl λo=>gr (Fk:=[(5,PT D0),(6,PT E0),(11,i6 p1.Kind),(12,.bool C0),(13,.bool F0),(118,.bool ((!Y1) || ((!(((((decide (p1.Kind=1)) || (decide (p1.Kind=3))) || (decide (p1.Kind=4))) || (decide (p1.Kind=12))) || (decide (p1.Kind=15)))) && (decide (0 < (p1.E.length:Int))))))]) 109 9 o u ?_ ?_ ?_
 intro hb o key
 iterate 3 refine qn o λo=>?_
 iterate 4 refine ls<|gnu o rfl rfl rfl λa o=>?_
 exact qn o λo=>qk o (Ab o rfl rfl) key u hb
 intro hb o key
 refine qg o (Aa o rfl) λo=>qg o (Bi o rfl) λo=>qg o (Aa o rfl) λo=>gr (Fk:=[(5,PT D0),(6,PT E0),(11,i6 p1.Kind),(12,.bool C0),(13,.bool F0),(109,.bool false),(117,.bool ((!(((((decide (p1.Kind=1)) || (decide (p1.Kind=3))) || (decide (p1.Kind=4))) || (decide (p1.Kind=12))) || (decide (p1.Kind=15)))) && (decide (0 < (p1.E.length:Int)))))]) 112 5 o u ?_ ?_ ?_
 intro hb o key
 exact qg o (Ad o Fp rfl) λo=>qg o (eB o isAgg79 rfl u.ld t0 rfl) λo=>qg o (Aj (α:=api_Op) (xs:=p1.E) o Gf rfl) λo=>qg o (Ba o rfl rfl) λo=>ql o (Ab o rfl rfl) key u hb
 intro hb o key
 iterate 4 refine qn o λo=>?_
 exact ql o (Ac o rfl rfl) key u hb
 intro a w o u
 exact qk o (Ac o rfl rfl) key u hb
 intro a w o u
 refine qv o (As (Aa o rfl) (congrArg Value.bool R0)) λo=>qg o (Aa o rfl) λo=>qg o (Ah o rfl rfl) λo=>qg o (As (Aa o rfl) (congrArg Value.bool O1)) λo=>qg o (Ad o Ij rfl) λo=>qg o (eB o isAgg79 rfl u.ld t0 rfl) λo=>qg o (Ad o Jn rfl) λo=>qg o (eB o isAgg3 rfl u.ld t1 rfl) λo=>ls<|gy o rfl rfl<|cr o call70 (Qm (Ag _) R1 (St.srH u S1) W2) u λu o=>qg o (Bi o rfl) λo=>qg o (Ab o rfl rfl) λo=>qv o (Ac o rfl rfl) λo=>qm o rfl λo=>gr (Fk:=[(11,i6 p1.Kind),(12,.bool C0),(13,.bool F0),(140,.bool ((!C2) || ((decide (p1.Kind≠4)) && (decide (0 < (p1.F.length:Int))))))]) 131 9 o u ?_ ?_ ?_
 intro hb o key
 iterate 3 refine qn o λo=>?_
 iterate 4 refine ls<|gnu o rfl rfl rfl λa o=>?_
 exact qn o λo=>qk o (Ab o rfl rfl) key u hb
 intro hb o key
 refine qg o (Aa o rfl) λo=>qg o (Bg o rfl rfl) λo=>qg o (Aa o rfl) λo=>gr (Fk:=[(11,i6 p1.Kind),(12,.bool C0),(13,.bool F0),(131,.bool false),(139,.bool ((decide (p1.Kind≠4)) && (decide (0 < (p1.F.length:Int)))))]) 134 5 o u ?_ ?_ ?_
 intro hb o key
 exact qg o (Ad o Ij rfl) λo=>qg o (eB o isAgg79 rfl u.ld t0 rfl) λo=>qg o (Aj (α:=api_Op) (xs:=p1.F) o Gf rfl) λo=>qg o (Ba o rfl rfl) λo=>ql o (Ab o rfl rfl) key u hb
 intro hb o key
 iterate 4 refine qn o λo=>?_
 exact ql o (Ac o rfl rfl) key u hb
 intro a w o u
 exact qk o (Ac o rfl rfl) key u hb
 intro a w o u
 refine re<|tn<|?_
 replace u:=u.pickL .nil
 exact ⟨((!C2) || ((decide (p1.Kind≠4)) && (decide (0 < (p1.F.length:Int))))),hm,o.hs,u⟩
 refine rg<|qm o rfl λo=>qv o (As (Aa o rfl) (congrArg Value.bool Q0)) λo=>qg o (Ad o Fp rfl) λo=>qg o (eB o isAgg79 rfl u.ld t0 rfl) λo=>qg o (Ad o Jn rfl) λo=>qg o (eB o isAgg3 rfl u.ld t1 rfl) λo=>ls<|gy o rfl rfl<|cr o call70 (Qm (Ag _) U0 (St.srH u V0) u1) u λu o=>qg o (Bi o rfl) λo=>qv o (Ab o rfl rfl) λo=>qm o rfl λo=>gr (Fk:=[(5,PT D0),(6,PT E0),(11,i6 p1.Kind),(12,.bool C0),(13,.bool F0),(118,.bool ((!Y1) || ((!(((((decide (p1.Kind=1)) || (decide (p1.Kind=3))) || (decide (p1.Kind=4))) || (decide (p1.Kind=12))) || (decide (p1.Kind=15)))) && (decide (0 < (p1.E.length:Int))))))]) 109 9 o u ?_ ?_ ?_
 intro hb o key
 iterate 3 refine qn o λo=>?_
 iterate 4 refine ls<|gnu o rfl rfl rfl λa o=>?_
 exact qn o λo=>qk o (Ab o rfl rfl) key u hb
 intro hb o key
 refine qg o (Aa o rfl) λo=>qg o (Bi o rfl) λo=>qg o (Aa o rfl) λo=>gr (Fk:=[(5,PT D0),(6,PT E0),(11,i6 p1.Kind),(12,.bool C0),(13,.bool F0),(109,.bool false),(117,.bool ((!(((((decide (p1.Kind=1)) || (decide (p1.Kind=3))) || (decide (p1.Kind=4))) || (decide (p1.Kind=12))) || (decide (p1.Kind=15)))) && (decide (0 < (p1.E.length:Int)))))]) 112 5 o u ?_ ?_ ?_
 intro hb o key
 exact qg o (Ad o Fp rfl) λo=>qg o (eB o isAgg79 rfl u.ld t0 rfl) λo=>qg o (Aj (α:=api_Op) (xs:=p1.E) o Gf rfl) λo=>qg o (Ba o rfl rfl) λo=>ql o (Ab o rfl rfl) key u hb
 intro hb o key
 iterate 4 refine qn o λo=>?_
 exact ql o (Ac o rfl rfl) key u hb
 intro a w o u
 exact qk o (Ac o rfl rfl) key u hb
 intro a w o u
 refine qv o (As (Aa o rfl) (congrArg Value.bool R0)) λo=>qg o (Aa o rfl) λo=>qg o (Ah o rfl rfl) λo=>qg o (As (Aa o rfl) (congrArg Value.bool O1)) λo=>?_
 iterate 6 refine qn o λo=>?_
 refine qg o (Ac o rfl rfl) λo=>qv o (Ac o rfl rfl) λo=>qm o rfl λo=>qg o (Aa o rfl) λo=>qg o (Bg o rfl rfl) λo=>qg o (Aa o rfl) λo=>gr (Fk:=[(11,i6 p1.Kind),(12,.bool C0),(13,.bool F0),(131,.bool false),(139,.bool ((decide (p1.Kind≠4)) && (decide (0 < (p1.F.length:Int)))))]) 134 5 o u ?_ ?_ ?_
 intro hb o key
 exact qg o (Ad o Ij rfl) λo=>qg o (eB o isAgg79 rfl u.ld t0 rfl) λo=>qg o (Aj (α:=api_Op) (xs:=p1.F) o Gf rfl) λo=>qg o (Ba o rfl rfl) λo=>ql o (Ab o rfl rfl) key u hb
 intro hb o key
 iterate 4 refine qn o λo=>?_
 exact ql o (Ac o rfl rfl) key u hb
 intro a w o u
 refine qv o (Ac o rfl rfl) λo=>re<|tn<|?_
 replace u:=u.pickL .nil
 exact ⟨((decide (p1.Kind≠4)) && (decide (0 < (p1.F.length:Int)))),hm,o.hs,u⟩
 rcases bit hm with ⟨S0,hm⟩ | ⟨S0,hm⟩
 refine rg<|qm o rfl λo=>qv o (As (Aa o rfl) (congrArg Value.bool Q0)) λo=>?_
 iterate 6 refine qn o λo=>?_
 refine qv o (Ac o rfl rfl) λo=>qm o rfl λo=>qg o (Aa o rfl) λo=>qg o (Bi o rfl) λo=>qg o (Aa o rfl) λo=>gr (Fk:=[(5,PT D0),(6,PT E0),(11,i6 p1.Kind),(12,.bool C0),(13,.bool F0),(109,.bool false),(117,.bool ((!(((((decide (p1.Kind=1)) || (decide (p1.Kind=3))) || (decide (p1.Kind=4))) || (decide (p1.Kind=12))) || (decide (p1.Kind=15)))) && (decide (0 < (p1.E.length:Int)))))]) 112 5 o u ?_ ?_ ?_
 intro hb o key
 exact qg o (Ad o Fp rfl) λo=>qg o (eB o isAgg79 rfl u.ld t0 rfl) λo=>qg o (Aj (α:=api_Op) (xs:=p1.E) o Gf rfl) λo=>qg o (Ba o rfl rfl) λo=>ql o (Ab o rfl rfl) key u hb
 intro hb o key
 iterate 4 refine qn o λo=>?_
 exact ql o (Ac o rfl rfl) key u hb
 intro a w o u
 refine qv o (Ac o rfl rfl) λo=>qv o (As (Aa o rfl) (congrArg Value.bool S0)) λo=>?_
 iterate 3 refine qn o λo=>?_
 iterate 6 refine ls<|gnu o rfl rfl rfl λa o=>?_
 refine qn o λo=>qv o (Ab o rfl rfl) λo=>qm o rfl λo=>?_
 iterate 3 refine qn o λo=>?_
 iterate 4 refine ls<|gnu o rfl rfl rfl λa o=>?_
 refine qn o λo=>qv o (Ab o rfl rfl) λo=>re<|tn<|?_
 replace u:=u.pickL .nil
 exact ⟨true,hm,o.hs,u⟩
 rcases bip hm with ⟨P1,hm⟩ | ⟨P1,hm⟩
 obtain ⟨E2,X2,hm⟩:=bs hm
 refine rg<|qm o rfl λo=>qv o (As (Aa o rfl) (congrArg Value.bool Q0)) λo=>?_
 iterate 6 refine qn o λo=>?_
 refine qv o (Ac o rfl rfl) λo=>qm o rfl λo=>qg o (Aa o rfl) λo=>qg o (Bi o rfl) λo=>qg o (Aa o rfl) λo=>gr (Fk:=[(5,PT D0),(6,PT E0),(11,i6 p1.Kind),(12,.bool C0),(13,.bool F0),(109,.bool false),(117,.bool ((!(((((decide (p1.Kind=1)) || (decide (p1.Kind=3))) || (decide (p1.Kind=4))) || (decide (p1.Kind=12))) || (decide (p1.Kind=15)))) && (decide (0 < (p1.E.length:Int)))))]) 112 5 o u ?_ ?_ ?_
 intro hb o key
 exact qg o (Ad o Fp rfl) λo=>qg o (eB o isAgg79 rfl u.ld t0 rfl) λo=>qg o (Aj (α:=api_Op) (xs:=p1.E) o Gf rfl) λo=>qg o (Ba o rfl rfl) λo=>ql o (Ab o rfl rfl) key u hb
 intro hb o key
 iterate 4 refine qn o λo=>?_
 exact ql o (Ac o rfl rfl) key u hb
 intro a w o u
 refine qv o (Ac o rfl rfl) λo=>qv o (As (Aa o rfl) (congrArg Value.bool S0)) λo=>qg o (Aa o rfl) λo=>qg o (Ah o rfl rfl) λo=>qg o (As (Aa o rfl) (congrArg Value.bool P1)) λo=>qg o (Ad o Ij rfl) λo=>qg o (eB o isAgg79 rfl u.ld t0 rfl) λo=>qg o (Ad o Jn rfl) λo=>qg o (eB o isAgg3 rfl u.ld t1 rfl) λo=>ls<|gy o rfl rfl<|cr o call70 (Qm (Ag _) R1 (St.srH u S1) X2) u λu o=>qg o (Bi o rfl) λo=>qg o (Ab o rfl rfl) λo=>qv o (Ac o rfl rfl) λo=>qm o rfl λo=>gr (Fk:=[(11,i6 p1.Kind),(12,.bool C0),(13,.bool F0),(140,.bool ((!E2) || ((decide (p1.Kind≠4)) && (decide (0 < (p1.F.length:Int))))))]) 131 9 o u ?_ ?_ ?_
 intro hb o key
 iterate 3 refine qn o λo=>?_
 iterate 4 refine ls<|gnu o rfl rfl rfl λa o=>?_
 exact qn o λo=>qk o (Ab o rfl rfl) key u hb
 intro hb o key
 refine qg o (Aa o rfl) λo=>qg o (Bg o rfl rfl) λo=>qg o (Aa o rfl) λo=>gr (Fk:=[(11,i6 p1.Kind),(12,.bool C0),(13,.bool F0),(131,.bool false),(139,.bool ((decide (p1.Kind≠4)) && (decide (0 < (p1.F.length:Int)))))]) 134 5 o u ?_ ?_ ?_
 intro hb o key
 exact qg o (Ad o Ij rfl) λo=>qg o (eB o isAgg79 rfl u.ld t0 rfl) λo=>qg o (Aj (α:=api_Op) (xs:=p1.F) o Gf rfl) λo=>qg o (Ba o rfl rfl) λo=>ql o (Ab o rfl rfl) key u hb
 intro hb o key
 iterate 4 refine qn o λo=>?_
 exact ql o (Ac o rfl rfl) key u hb
 intro a w o u
 exact qk o (Ac o rfl rfl) key u hb
 intro a w o u
 refine re<|tn<|?_
 replace u:=u.pickL .nil
 exact ⟨((!E2) || ((decide (p1.Kind≠4)) && (decide (0 < (p1.F.length:Int))))),hm,o.hs,u⟩
 refine rg<|qm o rfl λo=>qv o (As (Aa o rfl) (congrArg Value.bool Q0)) λo=>?_
 iterate 6 refine qn o λo=>?_
 refine qv o (Ac o rfl rfl) λo=>qm o rfl λo=>qg o (Aa o rfl) λo=>qg o (Bi o rfl) λo=>qg o (Aa o rfl) λo=>gr (Fk:=[(5,PT D0),(6,PT E0),(11,i6 p1.Kind),(12,.bool C0),(13,.bool F0),(109,.bool false),(117,.bool ((!(((((decide (p1.Kind=1)) || (decide (p1.Kind=3))) || (decide (p1.Kind=4))) || (decide (p1.Kind=12))) || (decide (p1.Kind=15)))) && (decide (0 < (p1.E.length:Int)))))]) 112 5 o u ?_ ?_ ?_
 intro hb o key
 exact qg o (Ad o Fp rfl) λo=>qg o (eB o isAgg79 rfl u.ld t0 rfl) λo=>qg o (Aj (α:=api_Op) (xs:=p1.E) o Gf rfl) λo=>qg o (Ba o rfl rfl) λo=>ql o (Ab o rfl rfl) key u hb
 intro hb o key
 iterate 4 refine qn o λo=>?_
 exact ql o (Ac o rfl rfl) key u hb
 intro a w o u
 refine qv o (Ac o rfl rfl) λo=>qv o (As (Aa o rfl) (congrArg Value.bool S0)) λo=>qg o (Aa o rfl) λo=>qg o (Ah o rfl rfl) λo=>qg o (As (Aa o rfl) (congrArg Value.bool P1)) λo=>?_
 iterate 6 refine qn o λo=>?_
 refine qg o (Ac o rfl rfl) λo=>qv o (Ac o rfl rfl) λo=>qm o rfl λo=>qg o (Aa o rfl) λo=>qg o (Bg o rfl rfl) λo=>qg o (Aa o rfl) λo=>gr (Fk:=[(11,i6 p1.Kind),(12,.bool C0),(13,.bool F0),(131,.bool false),(139,.bool ((decide (p1.Kind≠4)) && (decide (0 < (p1.F.length:Int)))))]) 134 5 o u ?_ ?_ ?_
 intro hb o key
 exact qg o (Ad o Ij rfl) λo=>qg o (eB o isAgg79 rfl u.ld t0 rfl) λo=>qg o (Aj (α:=api_Op) (xs:=p1.F) o Gf rfl) λo=>qg o (Ba o rfl rfl) λo=>ql o (Ab o rfl rfl) key u hb
 intro hb o key
 iterate 4 refine qn o λo=>?_
 exact ql o (Ac o rfl rfl) key u hb
 intro a w o u
 refine qv o (Ac o rfl rfl) λo=>re<|tn<|?_
 replace u:=u.pickL .nil
 exact ⟨((decide (p1.Kind≠4)) && (decide (0 < (p1.F.length:Int)))),hm,o.hs,u⟩
 rintro a w ⟨X1,hm,o,u⟩
 unfold Z6g at hm
 rcases bit hm with ⟨Q1,hm⟩ | ⟨Q1,hm⟩
 refine ctv o rfl Q1<|th<|rg<|qa o rfl λo=>re<|tn<|wr<|tr<|?_
 obtain rfl:=si hm
 exact r1 o results91 rfl ⟨rfl,u.keep⟩
 refine cfv o rfl Q1<|wk<|tn<|th<|rg<|qm o rfl λo=>qv o (Bw o rfl rfl) λo=>qm o rfl λo=>gr (Fk:=[(12,.bool C0),(13,.bool F0),(146,.bool ((decide (1≤p1.Kind)) && (decide (p1.Kind≤15))))]) 143 3 o u ?_ ?_ ?_
 intro hb o key
 exact qg o (Aa o rfl) λo=>qg o (Gd o rfl rfl) λo=>qk o (Ab o rfl rfl) key u hb
 intro hb o key
 iterate 2 refine qn o λo=>?_
 exact qk o (Ac o rfl rfl) key u hb
 intro a w o u
 refine qm o rfl λo=>gr (Fk:=[(13,.bool F0),(149,.bool (((decide (1≤p1.Kind)) && (decide (p1.Kind≤15))) && C0))]) 147 2 o u ?_ ?_ ?_
 intro hb o key
 exact qg o (Aa o rfl) λo=>qk o (Ab o rfl rfl) key u hb
 intro hb o key
 exact qn o λo=>qk o (Ac o rfl rfl) key u hb
 intro a w o u
 refine qm o rfl λo=>gr (Fk:=[(152,.bool ((((decide (1≤p1.Kind)) && (decide (p1.Kind≤15))) && C0) && F0))]) 150 2 o u ?_ ?_ ?_
 intro hb o key
 exact qg o (Aa o rfl) λo=>qk o (Ab o rfl rfl) key u hb
 intro hb o key
 exact qn o λo=>qk o (Ac o rfl rfl) key u hb
 intro a w o u
 refine qa o rfl λo=>re<|tn<|wr<|?_
 obtain rfl:=si hm
 exact r1 o results91 rfl ⟨rfl,u.keep⟩
theorem JgV (hH:H.le w0) {E0:Option Addr} {D0:Nat} {p1:(List api_Instr)} (P2:p1.length≤D0) (J0:SR H E0 p1) {p6:Int} {r:Bool} (hm:Z6m N p1 p6=some r):Tot Tryz.prog 92 #[SL E0 p1 D0,i6 p6] w0 (λv w'=>v=.bool r∧Keep Nil w0 w'):=by
 unfold Z6m at hm
 refine fn0 func92 rfl ntmps92 rfl rfl λa o=>?_
 have u:St w0 Nil [H] [] w0:=start1 hH
 refine th<|rg<|qa o rfl λo=>re<|tn<|th<|?_
 obtain ⟨C0,h8,hm⟩:=bs hm
 obtain ⟨cz9,D1,C1⟩:=SR.get J0 h8
 obtain ⟨oa12,cap13,oa16,cap17,rfl,Q1,R1,S1,T1⟩:=Bv D1
 refine rg<|qm o rfl λo=>qm o rfl λo=>qv o (eI o Jl sizeOf157 rfl rfl h8 J0) λo=>qv o (eC o isAgg157 sizeOf157 rfl u.ld C1) λo=>ls<|Aq (cs:=[i6 0,i6 0,i6 0,.slice none 0 0,.slice none 0 0,i6 0].toArray) o rfl u zeroValue157 rfl λF0 w a u o=>ls<|Ar o u sizeOf157 rfl rfl rfl rfl (Ak rfl) .head λw u=>re<|tn<|th<|th<|rg<|qf o Bq rfl λo=>qB o isAgg3 rfl u t0 rfl λo=>qv o (Ah o rfl rfl) λo=>qm o rfl λo=>gr (Fk:=[(0,SL E0 p1 D0),(1,i6 p6),(5,PT F0),(18,.bool ((decide (C0.Kind=11)) || (decide (C0.Kind=12))))]) 14 4 o u ?_ ?_ ?_
 intro hb o key
 iterate 3 refine qn o λo=>?_
 exact qk o (Ab o rfl rfl) key u hb
 intro hb o key
 exact qg o (Ad o Bq rfl) λo=>qg o (eB o isAgg3 rfl u.ld t0 rfl) λo=>qg o (Ah o rfl rfl) λo=>qk o (Ac o rfl rfl) key u hb
 intro a w o u
 refine re<|?_
 rcases bit hm with ⟨P0,hm⟩ | ⟨P0,hm⟩
 refine tn<|ctv o rfl P0<|th<|rg<|qf o Ee rfl λo=>qB o isAgg3 rfl u t0 rfl λo=>qm o rfl λo=>qv o (Ba o rfl rfl) λo=>qm o rfl λo=>gr (Fk:=[(29,.bool ((decide (p6 < C0.To)) && (decide (C0.To≤(p1.length:Int)))))]) 23 6 o u ?_ ?_ ?_
 intro hb o key
 exact qg o (Ad o Ee rfl) λo=>qg o (eB o isAgg3 rfl u.ld t0 rfl) λo=>qg o (Aa o rfl) λo=>qg o (Aj (α:=api_Instr) (xs:=p1) o Jl rfl) λo=>qg o (Gd o rfl rfl) λo=>qk o (Ab o rfl rfl) key u hb
 intro hb o key
 iterate 5 refine qn o λo=>?_
 exact qk o (Ac o rfl rfl) key u hb
 intro a w o u
 refine qa o rfl λo=>re<|tn<|wr<|tr<|?_
 obtain rfl:=si hm
 exact r1 o results92 rfl ⟨rfl,u.keep⟩
 refine tn<|cfv o rfl P0<|wk<|tn<|th<|th<|rg<|qf o Bq rfl λo=>qB o isAgg3 rfl u t0 rfl λo=>qv o (Bg o rfl rfl) λo=>re<|?_
 rcases bip hm with ⟨Q0,hm⟩ | ⟨Q0,hm⟩
 refine tn<|ctv o rfl Q0<|th<|rg<|qf o Ee rfl λo=>qB o isAgg3 rfl u t0 rfl λo=>qv o (Ah o rfl rfl) λo=>qa o rfl λo=>re<|tn<|wr<|tr<|?_
 obtain rfl:=si hm
 exact r1 o results92 rfl ⟨rfl,u.keep⟩
 refine tn<|cfv o rfl Q0<|wk<|tn<|th<|th<|Av (λa w=>∃ (V0:Bool),(Z6n N p1 p6 C0) V0=some r∧Fr 90 [(0,SL E0 p1 D0),(1,i6 p6),(5,PT F0),(66,.bool V0)] a∧St w0 Nil [H] [bk F0 (inC oa12 cap13 oa16 cap17 C0) 157] w) ?_ ?_
 rcases bit hm with ⟨R0,hm⟩ | ⟨R0,hm⟩
 refine rxS 31 u wide (by kernel_rfl) λw u=>xr u o (Ad o Ee rfl) λo=>xq u.ld o (λw hl=>eB o isAgg3 rfl hl t0 rfl) λo=>xr u o (Am o rfl rfl) λo=>xm u o rfl λo=>JbH (N:=90) (Fk:=[(0,SL E0 p1 D0),(1,i6 p6),(5,PT F0),(44,.bool ((decide (C0.To < 1)) || (decide (p6 < C0.To))))]) (b:=(decide (C0.To < 1))) 5 u ?_ ?_ ?_
 intro hb key
 replace o:=Fr.as o (t:=39) rfl (congrArg Value.bool hb)
 iterate 4 refine xn u.ld o λo=>?_
 refine xr u o (As (v':=.bool ((decide (C0.To < 1)) || (decide (p6 < C0.To)))) (Ab o rfl rfl) (by rw [hb];rfl)) λo=>?_
 exact key _ _ (o.hs) u
 intro hb key
 replace o:=Fr.as o (t:=39) rfl (congrArg Value.bool hb)
 refine xg u.ld o (λw hl=>Ad o Ee rfl) λo=>xg u.ld o (λw hl=>eB o isAgg3 rfl hl t0 rfl) λo=>xg u.ld o (λw hl=>Aa o rfl) λo=>xg u.ld o (λw hl=>Ba o rfl rfl) λo=>xr u o (As (v':=.bool ((decide (C0.To < 1)) || (decide (p6 < C0.To)))) (Ac o rfl rfl) (by rw [hb];rfl)) λo=>?_
 exact key _ _ (o.hs) u
 intro a w o u
 refine xr u o (As (Aa o rfl) (congrArg Value.bool R0)) λo=>?_
 iterate 8 refine xn u.ld o λo=>?_
 refine xr u o (Ab o rfl rfl) λo=>xm u o rfl λo=>?_
 iterate 10 refine xn u.ld o λo=>?_
 refine xr u o (Ab o rfl rfl) λo=>xe<|tn<|?_
 exact ⟨true,hm,o.hs,u⟩
 obtain ⟨I0,W0,hm⟩:=bs hm
 obtain ⟨R2,E1,Y0⟩:=SR.get J0 W0
 obtain ⟨U1,I1,V1,J1,rfl,X1,Y1,u1,C2⟩:=Bv E1
 refine rxS 31 u wide (by kernel_rfl) λw u=>xr u o (Ad o Ee rfl) λo=>xq u.ld o (λw hl=>eB o isAgg3 rfl hl t0 rfl) λo=>xr u o (Am o rfl rfl) λo=>xm u o rfl λo=>JbH (N:=90) (Fk:=[(0,SL E0 p1 D0),(1,i6 p6),(5,PT F0),(44,.bool ((decide (C0.To < 1)) || (decide (p6 < C0.To))))]) (b:=(decide (C0.To < 1))) 5 u ?_ ?_ ?_
 intro hb key
 replace o:=Fr.as o (t:=39) rfl (congrArg Value.bool hb)
 iterate 4 refine xn u.ld o λo=>?_
 refine xr u o (As (v':=.bool ((decide (C0.To < 1)) || (decide (p6 < C0.To)))) (Ab o rfl rfl) (by rw [hb];rfl)) λo=>?_
 exact key _ _ (o.hs) u
 intro hb key
 replace o:=Fr.as o (t:=39) rfl (congrArg Value.bool hb)
 refine xg u.ld o (λw hl=>Ad o Ee rfl) λo=>xg u.ld o (λw hl=>eB o isAgg3 rfl hl t0 rfl) λo=>xg u.ld o (λw hl=>Aa o rfl) λo=>xg u.ld o (λw hl=>Ba o rfl rfl) λo=>xr u o (As (v':=.bool ((decide (C0.To < 1)) || (decide (p6 < C0.To)))) (Ac o rfl rfl) (by rw [hb];rfl)) λo=>?_
 exact key _ _ (o.hs) u
 intro a w o u
 refine xr u o (As (Aa o rfl) (congrArg Value.bool R0)) λo=>xg u.ld o (λw hl=>Aa o rfl) λo=>xg u.ld o (λw hl=>Ad o Ee rfl) λo=>xg u.ld o (λw hl=>eB o isAgg3 rfl hl t0 rfl) λo=>xg u.ld o (λw hl=>Dr o rfl rfl) λo=>xg u.ld o (λw hl=>eI o Jl sizeOf157 rfl rfl W0 J0) λo=>xg u.ld o (λw hl=>Ad o Bq rfl) λo=>xg u.ld o (λw hl=>eD o isAgg3 rfl hl (Y0 0 _ rfl)) λo=>xg u.ld o (λw hl=>Bg o rfl rfl) λo=>xr u o (Ac o rfl rfl) λo=>xm u o rfl λo=>JbH (N:=90) (Fk:=[(0,SL E0 p1 D0),(1,i6 p6),(5,PT F0),(66,.bool ((decide (I0.Kind≠13)) || (decide (I0.A≠C0.A))))]) (b:=(decide (I0.Kind≠13))) 11 u ?_ ?_ ?_
 intro hb key
 replace o:=Fr.as o (t:=55) rfl (congrArg Value.bool hb)
 iterate 10 refine xn u.ld o λo=>?_
 refine xr u o (As (v':=.bool ((decide (I0.Kind≠13)) || (decide (I0.A≠C0.A)))) (Ab o rfl rfl) (by rw [hb];rfl)) λo=>?_
 exact key _ _ (o.hs) u
 intro hb key
 replace o:=Fr.as o (t:=55) rfl (congrArg Value.bool hb)
 refine xg u.ld o (λw hl=>Aa o rfl) λo=>xg u.ld o (λw hl=>Ad o Ee rfl) λo=>xg u.ld o (λw hl=>eB o isAgg3 rfl hl t0 rfl) λo=>xg u.ld o (λw hl=>Dr o rfl rfl) λo=>xg u.ld o (λw hl=>eI o Jl sizeOf157 rfl rfl W0 J0) λo=>xg u.ld o (λw hl=>Ad o Dw rfl) λo=>xg u.ld o (λw hl=>eD o isAgg3 rfl hl (Y0 1 _ rfl)) λo=>xg u.ld o (λw hl=>Ad o Dw rfl) λo=>xg u.ld o (λw hl=>eB o isAgg3 rfl hl t0 rfl) λo=>xg u.ld o (λw hl=>Bg o rfl rfl) λo=>xr u o (As (v':=.bool ((decide (I0.Kind≠13)) || (decide (I0.A≠C0.A)))) (Ac o rfl rfl) (by rw [hb];rfl)) λo=>?_
 exact key _ _ (o.hs) u
 intro a w o u
 refine xe<|tn<|?_
 exact ⟨((decide (I0.Kind≠13)) || (decide (I0.A≠C0.A))),hm,o.hs,u⟩
 rintro a w ⟨V0,hm,o,u⟩
 unfold Z6n at hm
 rcases bit hm with ⟨S0,hm⟩ | ⟨S0,hm⟩
 refine ctv o rfl S0<|th<|rg<|qa o rfl λo=>re<|tn<|wr<|tr<|?_
 obtain rfl:=si hm
 exact r1 o results92 rfl ⟨rfl,u.keep⟩
 refine cfv o rfl S0<|wk<|tn<|th<|th<|rg<|qf o Ee rfl λo=>qB o isAgg3 rfl u t0 rfl λo=>qa o rfl λo=>re<|tn<|Av (λa w=>Z6o=some r∧Fr 90 [] a∧St w0 Nil [H] [] w) ?_ ?_
 refine wb<|lp (α:=Nat×Int) (λgh a w=>match gh with | (M0,O0)=>(Z6p N Z6o p1 p6 C0) M0 O0=some r∧Fr 90 [(0,SL E0 p1 D0),(1,i6 p6),(5,PT F0),(6,i6 O0)] a∧St w0 Nil [H] [bk F0 (inC oa12 cap13 oa16 cap17 C0) 157] w) (λgh=>gh.1) (N,C0.To) ⟨hm,o.hs,u⟩ ?_
 rintro ⟨M0,O0⟩ a w ⟨hm,o,u⟩
 obtain _ | M0:=M0
 simp [Z6p] at hm
 rw [Z6p] at hm
 refine th<|th<|rg<|qm o rfl λo=>qm o rfl λo=>qv o (Am o rfl rfl) λo=>re<|?_
 rcases bip hm with ⟨T0,hm⟩ | ⟨T0,hm⟩
 refine tn<|ctv o rfl T0<|wk<|tn<|th<|wb<|th<|?_
 obtain ⟨K0,j0,hm⟩:=bs hm
 obtain ⟨T2,F1,n0⟩:=SR.get J0 j0
 obtain ⟨E2,O1,F2,P1,rfl,I2,J2,K2,O2⟩:=Bv F1
 refine rxS 16 u wide (by kernel_rfl) λw u=>?_
 iterate 2 refine xq u.ld o (λw hl=>Aa o rfl) λo=>?_
 refine xr u o (eI o Jl sizeOf157 rfl rfl j0 J0) λo=>xr u o (Ad o Bq rfl) λo=>xq u.ld o (λw hl=>eD o isAgg3 rfl hl (n0 0 _ rfl)) λo=>xr u o (Ah o rfl rfl) λo=>xm u o rfl λo=>JbH (N:=90) (Fk:=[(0,SL E0 p1 D0),(1,i6 p6),(5,PT F0),(6,i6 O0),(89,.bool ((decide (K0.Kind=13)) && (decide (K0.A=C0.A))))]) (b:=(decide (K0.Kind=13))) 9 u ?_ ?_ ?_
 intro hb key
 replace o:=Fr.as o (t:=80) rfl (congrArg Value.bool hb)
 iterate 2 refine xg u.ld o (λw hl=>Aa o rfl) λo=>?_
 refine xg u.ld o (λw hl=>eI o Jl sizeOf157 rfl rfl j0 J0) λo=>xg u.ld o (λw hl=>Ad o Dw rfl) λo=>xg u.ld o (λw hl=>eD o isAgg3 rfl hl (n0 1 _ rfl)) λo=>xg u.ld o (λw hl=>Ad o Dw rfl) λo=>xg u.ld o (λw hl=>eB o isAgg3 rfl hl t0 rfl) λo=>xg u.ld o (λw hl=>Ah o rfl rfl) λo=>xr u o (As (v':=.bool ((decide (K0.Kind=13)) && (decide (K0.A=C0.A)))) (Ab o rfl rfl) (by rw [hb];rfl)) λo=>?_
 exact key _ _ (o.hs) u
 intro hb key
 replace o:=Fr.as o (t:=80) rfl (congrArg Value.bool hb)
 iterate 8 refine xn u.ld o λo=>?_
 refine xr u o (As (v':=.bool ((decide (K0.Kind=13)) && (decide (K0.A=C0.A)))) (Ac o rfl rfl) (by rw [hb];rfl)) λo=>?_
 exact key _ _ (o.hs) u
 intro a w o u
 refine xe<|?_
 rcases bit hm with ⟨U0,hm⟩ | ⟨U0,hm⟩
 refine tn<|ctv o rfl U0<|th<|rg<|qa o rfl λo=>re<|tn<|wr<|br<|tr<|tr<|br<|tr<|?_
 obtain rfl:=si hm
 exact r1 o results92 rfl ⟨rfl,u.keep⟩
 refine tn<|cfv o rfl U0<|wk<|bn<|tn<|rg<|qm o rfl λo=>qv o (Ao o rfl rfl) λo=>qa o rfl λo=>re<|tn<|?_
 exact ⟨(M0,(i64.wrap (O0+1))),⟨hm,o.hs,u⟩,kxd _⟩
 refine tn<|cfv o rfl T0<|we<|tx<|tx<|bx<|tn<|?_
 replace u:=u.pickL .nil
 exact ⟨hm,o.has trivial,u⟩
 rintro a w ⟨hm,o,u⟩
 unfold Z6o at hm
 refine th<|rg<|qa o rfl λo=>re<|tn<|wr<|?_
 obtain rfl:=si hm
 exact r1 o results92 rfl ⟨rfl,u.keep⟩
theorem Jgm (hH:H.le w0) {p1:Int} {p2:Int} {p3:Int} {p4:Int} {r:Bool} (hm:Z66 N p1 p2 p3 p4=some r):Tot Tryz.prog 93 #[i6 p1,i6 p2,i6 p3,i6 p4] w0 (λv w'=>v=.bool r∧Keep Nil w0 w'):=by
 unfold Z66 at hm
 refine fn0 func93 rfl ntmps93 rfl rfl λa o=>?_
 have u:St w0 Nil [H] [] w0:=start1 hH
 refine th<|rg<|qa o rfl λo=>re<|tn<|th<|rg<|qm o rfl λo=>qm o rfl λo=>qv o (Bw o rfl rfl) λo=>qm o rfl λo=>gr (Fk:=[(0,i6 p1),(1,i6 p2),(2,i6 p3),(3,i6 p4),(16,.bool ((decide (p3≤p1)) && (decide (p2≤p4))))]) 12 4 o u ?_ ?_ ?_
 intro hb o key
 iterate 2 refine qg o (Aa o rfl) λo=>?_
 exact qg o (Gd o rfl rfl) λo=>qk o (Ab o rfl rfl) key u hb
 intro hb o key
 iterate 3 refine qn o λo=>?_
 exact qk o (Ac o rfl rfl) key u hb
 intro a w o u
 refine qm o rfl λo=>gr (Fk:=[(0,i6 p1),(1,i6 p2),(2,i6 p3),(3,i6 p4),(26,.bool (((decide (p3≤p1)) && (decide (p2≤p4))) || ((decide (p1≤p3)) && (decide (p4≤p2)))))]) 17 9 o u ?_ ?_ ?_
 intro hb o key
 iterate 4 refine qn o λo=>?_
 iterate 3 refine ls<|gnu o rfl rfl rfl λa o=>?_
 exact qn o λo=>qk o (Ab o rfl rfl) key u hb
 intro hb o key
 iterate 2 refine qg o (Aa o rfl) λo=>?_
 refine qg o (Bw o rfl rfl) λo=>qg o (Aa o rfl) λo=>gr (Fk:=[(0,i6 p1),(1,i6 p2),(2,i6 p3),(3,i6 p4),(17,.bool false),(25,.bool ((decide (p1≤p3)) && (decide (p4≤p2))))]) 21 4 o u ?_ ?_ ?_
 intro hb o key
 iterate 2 refine qg o (Aa o rfl) λo=>?_
 exact qg o (Gd o rfl rfl) λo=>ql o (Ab o rfl rfl) key u hb
 intro hb o key
 iterate 3 refine qn o λo=>?_
 exact ql o (Ac o rfl rfl) key u hb
 intro a w o u
 exact qk o (Ac o rfl rfl) key u hb
 intro a w o u
 refine qm o rfl λo=>gr (Fk:=[(0,i6 p1),(3,i6 p4),(31,.bool ((((decide (p3≤p1)) && (decide (p2≤p4))) || ((decide (p1≤p3)) && (decide (p4≤p2)))) || (decide (p2 < p3))))]) 27 4 o u ?_ ?_ ?_
 intro hb o key
 iterate 3 refine qn o λo=>?_
 exact qk o (Ab o rfl rfl) key u hb
 intro hb o key
 iterate 2 refine qg o (Aa o rfl) λo=>?_
 exact qg o (Am o rfl rfl) λo=>qk o (Ac o rfl rfl) key u hb
 intro a w o u
 refine qm o rfl λo=>gr (Fk:=[(36,.bool (((((decide (p3≤p1)) && (decide (p2≤p4))) || ((decide (p1≤p3)) && (decide (p4≤p2)))) || (decide (p2 < p3))) || (decide (p4 < p1))))]) 32 4 o u ?_ ?_ ?_
 intro hb o key
 iterate 3 refine qn o λo=>?_
 exact qk o (Ab o rfl rfl) key u hb
 intro hb o key
 iterate 2 refine qg o (Aa o rfl) λo=>?_
 exact qg o (Am o rfl rfl) λo=>qk o (Ac o rfl rfl) key u hb
 intro a w o u
 refine qa o rfl λo=>re<|tn<|wr<|?_
 obtain rfl:=si hm
 exact r1 o results93 rfl ⟨rfl,u.keep⟩
theorem Jeu (hH:H.le w0) {cs2:List Value} {p1:api_Code} (g3:Enc.rep H cs2 p1) {p4:Int} {p5:Int} {p6:Int} {r:Bool} (hm:Z55 N p1 p4 p5 p6=some r):Tot Tryz.prog 68 #[.agg cs2.toArray,i6 p4,i6 p5,i6 p6] w0 (λv w'=>v=.bool r∧Keep Nil w0 w'):=by
 unfold Z55 at hm
 refine fn0 func68 rfl ntmps68 rfl rfl λa o=>?_
 have u:St w0 Nil [H] [] w0:=start1 hH
 obtain ⟨oa7,cap8,rfl,S3,I0⟩:=Cp g3
 refine th<|rg<|ls<|Bo (cs:=[i6 p1.Regs,i6 p1.Counts,SL oa7 p1.L cap8].toArray) o rfl u rfl rfl λC0 w a u o=>qa o rfl λo=>re<|tn<|th<|th<|rg<|qf o Jn rfl λo=>qB o isAgg3 rfl u t0 rfl λo=>qv o (Am o rfl rfl) λo=>qm o rfl λo=>gr (Fk:=[(1,i6 p4),(2,i6 p5),(3,i6 p6),(4,PT C0),(21,.bool ((decide (p1.Regs < 0)) || (decide (4 < p1.Regs))))]) 17 4 o u ?_ ?_ ?_
 intro hb o key
 iterate 3 refine qn o λo=>?_
 exact qk o (Ab o rfl rfl) key u hb
 intro hb o key
 exact qg o (Ad o Jn rfl) λo=>qg o (eB o isAgg3 rfl u.ld t0 rfl) λo=>qg o (Ba o rfl rfl) λo=>qk o (Ac o rfl rfl) key u hb
 intro a w o u
 refine qm o rfl λo=>gr (Fk:=[(1,i6 p4),(2,i6 p5),(3,i6 p6),(4,PT C0),(26,.bool (((decide (p1.Regs < 0)) || (decide (4 < p1.Regs))) || (decide (p1.Counts < 0))))]) 22 4 o u ?_ ?_ ?_
 intro hb o key
 iterate 3 refine qn o λo=>?_
 exact qk o (Ab o rfl rfl) key u hb
 intro hb o key
 exact qg o (Ad o Uf rfl) λo=>qg o (eB o isAgg3 rfl u.ld t0 rfl) λo=>qg o (Am o rfl rfl) λo=>qk o (Ac o rfl rfl) key u hb
 intro a w o u
 refine qm o rfl λo=>gr (Fk:=[(1,i6 p4),(2,i6 p5),(3,i6 p6),(4,PT C0),(31,.bool ((((decide (p1.Regs < 0)) || (decide (4 < p1.Regs))) || (decide (p1.Counts < 0))) || (decide (12 < p1.Counts))))]) 27 4 o u ?_ ?_ ?_
 intro hb o key
 iterate 3 refine qn o λo=>?_
 exact qk o (Ab o rfl rfl) key u hb
 intro hb o key
 exact qg o (Ad o Uf rfl) λo=>qg o (eB o isAgg3 rfl u.ld t0 rfl) λo=>qg o (Ba o rfl rfl) λo=>qk o (Ac o rfl rfl) key u hb
 intro a w o u
 refine re<|?_
 rcases bit hm with ⟨W0,hm⟩ | ⟨W0,hm⟩
 refine tn<|ctv o rfl W0<|th<|rg<|qa o rfl λo=>re<|tn<|wr<|tr<|?_
 obtain rfl:=si hm
 exact r1 o results68 rfl ⟨rfl,u.keep⟩
 refine tn<|cfv o rfl W0<|wk<|tn<|th<|th<|rg<|qa o rfl λo=>re<|tn<|Av (λa w=>(Z56 N p1)=some r∧Fr 99 [(4,PT C0)] a∧St w0 Nil [H] [bk C0 [i6 p1.Regs,i6 p1.Counts,SL oa7 p1.L cap8] 33] w) ?_ ?_
 refine wb<|lp (α:=Nat×Int) (λgh a w=>match gh with | (S0,T0)=>(Z5c N (Z56 N p1) p1 p4 p5 p6) S0 T0=some r∧Fr 99 [(1,i6 p4),(2,i6 p5),(3,i6 p6),(4,PT C0),(9,i6 T0)] a∧St w0 Nil [H] [bk C0 [i6 p1.Regs,i6 p1.Counts,SL oa7 p1.L cap8] 33] w) (λgh=>gh.1) (N,0) ⟨hm,o.hs,u⟩ ?_
 rintro ⟨S0,T0⟩ a w ⟨hm,o,u⟩
 obtain _ | S0:=S0
 simp [Z5c] at hm
 rw [Z5c] at hm
 refine th<|th<|rg<|qm o rfl λo=>qf o Ge rfl λo=>qB o isAgg31 rfl u t0 rfl λo=>qv o (Aj (α:=api_Instr) (xs:=p1.L) o Jl rfl) λo=>qv o (Am o rfl rfl) λo=>re<|?_
 rcases bip hm with ⟨Y0,hm⟩ | ⟨Y0,hm⟩
 refine tn<|ctv o rfl Y0<|wk<|tn<|th<|wb<|th<|Av (λa w=>∃ (u1:Bool),(Z57 (Z5c N (Z56 N p1) p1 p4 p5 p6 S0) T0) u1=some r∧Fr 99 [(1,i6 p4),(2,i6 p5),(3,i6 p6),(4,PT C0),(9,i6 T0),(56,.bool u1)] a∧St w0 Nil [H] [bk C0 [i6 p1.Regs,i6 p1.Counts,SL oa7 p1.L cap8] 33] w) ?_ ?_
 obtain ⟨R1,C2,hm⟩:=bs hm
 obtain ⟨B4,T3,E2⟩:=SR.get I0 C2
 obtain ⟨F2,S1,I2,T1,rfl,J2,K2,O2,P2⟩:=Bv T3
 obtain ⟨L3,M3,hm⟩:=bs hm
 rcases bit hm with ⟨j0,hm⟩ | ⟨j0,hm⟩
 have j0':(!L3)=false:=by rw [j0];rfl
 obtain ⟨U3,V3,hm⟩:=bs hm
 refine rdS 18 u wide λw u=>dr 0 u o rfl (Ad o Ge rfl) λo=>dq 1 u.ld o rfl (λw hl=>eB o isAgg31 rfl hl t0 rfl) λo=>dr 2 u o rfl (Aa o rfl) λo=>dr 3 u o rfl (eI o Jl sizeOf157 rfl rfl C2 I0) λo=>dq 4 u.ld o rfl (λw hl=>eC o isAgg157 sizeOf157 rfl hl E2) λo=>dq 5 u.ld o rfl (λw hl=>An o isAgg33 sizeOf33 rfl rfl (hl.cellsB t0)) λo=>dr 6 u o rfl (Aa o rfl) λo=>dr 7 u o rfl (Aa o rfl) λo=>dr 8 u o rfl (Aa o rfl) λo=>dz 9 rfl<|cr o call91 (Je9 (Ag _) (Enc.mono (St.up u) (show Enc.rep (α:=api_Instr) H (inC F2 S1 I2 T1 R1) R1 from ⟨_,_,rfl,rfl,⟨_,_,rfl,rfl,⟨_,_,rfl,rfl,⟨_,_,rfl,⟨_,_,rfl,J2,K2⟩,⟨_,_,rfl,⟨_,_,rfl,O2,P2⟩,rfl⟩⟩⟩⟩⟩)) (Enc.mono (St.up u) g3) M3) u λu o=>⟨λ_=>u.ld,?_⟩
 refine dr 10 u o rfl (Bi o rfl) λo=>dr 11 u o rfl (As (Aa o rfl) (congrArg Value.bool j0')) λo=>dg 12 u.ld o rfl (λw hl=>Ad o Ge rfl) λo=>dg 13 u.ld o rfl (λw hl=>eB o isAgg31 rfl hl t0 rfl) λo=>dg 14 u.ld o rfl (λw hl=>Aa o rfl) λo=>dz 15 rfl<|gy o rfl rfl<|cr o call92 (JgV (Ag _) S3 (St.srH u I0) V3) u λu o=>⟨λ_=>u.ld,?_⟩
 refine dg 16 u.ld o rfl (λw hl=>Bi o rfl) λo=>dr 17 u o rfl (Ac o rfl rfl) λo=>dE<|tn<|?_
 exact ⟨(!U3),hm,o.hs,u⟩
 have j0':(!L3)=true:=by rw [j0];rfl
 refine rdS 18 u wide λw u=>dr 0 u o rfl (Ad o Ge rfl) λo=>dq 1 u.ld o rfl (λw hl=>eB o isAgg31 rfl hl t0 rfl) λo=>dr 2 u o rfl (Aa o rfl) λo=>dr 3 u o rfl (eI o Jl sizeOf157 rfl rfl C2 I0) λo=>dq 4 u.ld o rfl (λw hl=>eC o isAgg157 sizeOf157 rfl hl E2) λo=>dq 5 u.ld o rfl (λw hl=>An o isAgg33 sizeOf33 rfl rfl (hl.cellsB t0)) λo=>dr 6 u o rfl (Aa o rfl) λo=>dr 7 u o rfl (Aa o rfl) λo=>dr 8 u o rfl (Aa o rfl) λo=>dz 9 rfl<|cr o call91 (Je9 (Ag _) (Enc.mono (St.up u) (show Enc.rep (α:=api_Instr) H (inC F2 S1 I2 T1 R1) R1 from ⟨_,_,rfl,rfl,⟨_,_,rfl,rfl,⟨_,_,rfl,rfl,⟨_,_,rfl,⟨_,_,rfl,J2,K2⟩,⟨_,_,rfl,⟨_,_,rfl,O2,P2⟩,rfl⟩⟩⟩⟩⟩)) (Enc.mono (St.up u) g3) M3) u λu o=>⟨λ_=>u.ld,?_⟩
 refine dr 10 u o rfl (Bi o rfl) λo=>dr 11 u o rfl (As (Aa o rfl) (congrArg Value.bool j0')) λo=>dn 12 u.ld o rfl λo=>dn 13 u.ld o rfl λo=>dn 14 u.ld o rfl λo=>dn 15 u.ld o rfl λo=>dn 16 u.ld o rfl λo=>dr 17 u o rfl (Ab o rfl rfl) λo=>dE<|tn<|?_
 exact ⟨true,hm,o.hs,u⟩
 rintro a w ⟨u1,hm,o,u⟩
 unfold Z57 at hm
 rcases bit hm with ⟨n0,hm⟩ | ⟨n0,hm⟩
 refine ctv o rfl n0<|th<|rg<|qa o rfl λo=>re<|tn<|wr<|br<|tr<|tr<|br<|tr<|?_
 obtain rfl:=si hm
 exact r1 o results68 rfl ⟨rfl,u.keep⟩
 refine cfv o rfl n0<|wk<|bn<|tn<|rg<|qm o rfl λo=>qv o (Ao o rfl rfl) λo=>qa o rfl λo=>re<|tn<|?_
 exact ⟨(S0,(i64.wrap (T0+1))),⟨hm,o.hs,u⟩,kxd _⟩
 refine tn<|cfv o rfl Y0<|we<|tx<|tx<|bx<|tn<|?_
 exact ⟨hm,o.hs,u⟩
 rintro a w ⟨hm,o,u⟩
 unfold Z56 at hm
 refine th<|th<|rg<|qa o rfl λo=>re<|tn<|Av (λa w=>Z58=some r∧Fr 99 [] a∧St w0 Nil [H] [] w) ?_ ?_
 refine wb<|lp (α:=Nat×Int) (λgh a w=>match gh with | (K0,D0)=>(Z5d N Z58 p1) K0 D0=some r∧Fr 99 [(4,PT C0),(10,i6 D0)] a∧St w0 Nil [H] [bk C0 [i6 p1.Regs,i6 p1.Counts,SL oa7 p1.L cap8] 33] w) (λgh=>gh.1) (N,0) ⟨hm,o.hs,u⟩ ?_
 rintro ⟨K0,D0⟩ a w ⟨hm,o,u⟩
 obtain _ | K0:=K0
 simp [Z5d] at hm
 rw [Z5d] at hm
 refine th<|th<|rg<|qm o rfl λo=>qf o Ge rfl λo=>qB o isAgg31 rfl u t0 rfl λo=>qv o (Aj (α:=api_Instr) (xs:=p1.L) o Jl rfl) λo=>qv o (Am o rfl rfl) λo=>re<|?_
 rcases bip hm with ⟨C1,hm⟩ | ⟨C1,hm⟩
 refine tn<|ctv o rfl C1<|wk<|tn<|th<|Av (λa w=>(Z59 (Z5d N Z58 p1 K0) D0)=some r∧Fr 99 [(4,PT C0),(10,i6 D0)] a∧St w0 Nil [H] [bk C0 [i6 p1.Regs,i6 p1.Counts,SL oa7 p1.L cap8] 33] w) ?_ ?_
 refine wb<|th<|rg<|qa o rfl λo=>re<|tn<|wb<|lp (α:=Nat×Int) (λgh a w=>match gh with | (M0,J0)=>(Z5e N (Z59 (Z5d N Z58 p1 K0) D0) p1 D0) M0 J0=some r∧Fr 99 [(4,PT C0),(10,i6 D0),(11,i6 J0)] a∧St w0 Nil [H] [bk C0 [i6 p1.Regs,i6 p1.Counts,SL oa7 p1.L cap8] 33] w) (λgh=>gh.1) (N,0) ⟨hm,o.hs,u⟩ ?_
 rintro ⟨M0,J0⟩ a w ⟨hm,o,u⟩
 obtain _ | M0:=M0
 simp [Z5e] at hm
 rw [Z5e] at hm
 refine th<|th<|rg<|qm o rfl λo=>qm o rfl λo=>qv o (Am o rfl rfl) λo=>re<|?_
 rcases bip hm with ⟨D1,hm⟩ | ⟨D1,hm⟩
 refine tn<|ctv o rfl D1<|wk<|tn<|th<|wb<|th<|Av (λa w=>∃ (U0:Int) (R2:Int) (T2:Int) (V0:(List api_Op)) (O0:(List api_Op)) (E1:Int) (P0:Int) (F1:Int) (I1:Int) (Q0:(List api_Op)) (R0:(List api_Op)) (J1:Int) (bE1:Nat) (oaE6:Option Addr) (capE7:Nat) (oaE11:Option Addr) (capE12:Nat) (bE16:Nat) (oaE21:Option Addr) (capE22:Nat) (oaE26:Option Addr) (capE27:Nat),(Z5a N (Z5e N (Z59 (Z5d N Z58 p1 K0) D0) p1 D0 M0) J0 D0) U0 R2 T2 V0 O0 E1 P0 F1 I1 Q0 R0 J1=some r∧Fr 99 [(4,PT C0),(10,i6 D0),(11,i6 J0),(12,PT bE1),(13,PT bE16)] a∧St w0 Nil [H] [bk C0 [i6 p1.Regs,i6 p1.Counts,SL oa7 p1.L cap8] 33,bk bE1 [i6 U0,i6 R2,i6 T2,SL oaE6 V0 capE7,SL oaE11 O0 capE12,i6 E1] 157,bk bE16 [i6 P0,i6 F1,i6 I1,SL oaE21 Q0 capE22,SL oaE26 R0 capE27,i6 J1] 157] w∧V0.length≤capE7∧SR H oaE6 V0∧O0.length≤capE12∧SR H oaE11 O0∧Q0.length≤capE22∧SR H oaE21 Q0∧R0.length≤capE27∧SR H oaE26 R0) ?_ ?_
 obtain ⟨E0,O3,hm⟩:=bs hm
 obtain ⟨C4,W3,Q3⟩:=SR.get I0 O3
 obtain ⟨U2,U1,V2,V1,rfl,W2,X2,Y2,A3⟩:=Bv W3
 obtain ⟨F0,P3,hm⟩:=bs hm
 obtain ⟨D4,X3,R3⟩:=SR.get I0 P3
 obtain ⟨B3,X1,C3,Y1,rfl,D3,E3,F3,I3⟩:=Bv X3
 refine rdS 13 u wide λw u=>dr 0 u o rfl (Ad o Ge rfl) λo=>dq 1 u.ld o rfl (λw hl=>eB o isAgg31 rfl hl t0 rfl) λo=>dr 2 u o rfl (Aa o rfl) λo=>dr 3 u o rfl (eI o Jl sizeOf157 rfl rfl O3 I0) λo=>dq 4 u.ld o rfl (λw hl=>eC o isAgg157 sizeOf157 rfl hl Q3) λo=>dr 5 u o rfl (Ad o Ge rfl) λo=>dq 6 u.ld o rfl (λw hl=>eB o isAgg31 rfl hl t0 rfl) λo=>dr 7 u o rfl (Aa o rfl) λo=>dr 8 u o rfl (eI o Jl sizeOf157 rfl rfl P3 I0) λo=>dq 9 u.ld o rfl (λw hl=>eC o isAgg157 sizeOf157 rfl hl R3) λo=>da2 (i:=10) (j:=11) (by kernel_rfl) ?_ ?_
 refine dI 10 rfl<|Aq (cs:=[i6 0,i6 0,i6 0,.slice none 0 0,.slice none 0 0,i6 0].toArray) o rfl u zeroValue157 rfl λJ3 w a u o=>⟨λ_=>(St.ldsX u i2 ta1),?_⟩
 refine dz 11 rfl<|Aq (cs:=[i6 0,i6 0,i6 0,.slice none 0 0,.slice none 0 0,i6 0].toArray) o rfl u zeroValue157 rfl λK3 w a u o=>⟨λ_=>(St.ldsX u i2 ta2),?_⟩
 refine dz 12 rfl<|Ar o u sizeOf157 rfl rfl rfl rfl (Ak rfl) (.tail .head) λw u=>⟨λ_=>(St.ldsX u i2 ta2),?_⟩
 refine dz 13 rfl<|Ar o u sizeOf157 rfl rfl rfl rfl (Ak rfl) .head λw u=>⟨λh=>absurd rfl h,?_⟩
 refine dE<|tn<|?_
 replace u:=u.pk [2,1,0] rfl
 exact ⟨E0.Kind,E0.A,E0.B,E0.E,E0.F,E0.To,F0.Kind,F0.A,F0.B,F0.E,F0.F,F0.To,J3,U2,U1,V2,V1,K3,B3,X1,C3,Y1,hm,o.hs,u,W2,X2,Y2,A3,D3,E3,F3,I3⟩
 refine dI 11 rfl<|Aq (cs:=[i6 0,i6 0,i6 0,.slice none 0 0,.slice none 0 0,i6 0].toArray) o rfl u zeroValue157 rfl λK3 w a u o=>⟨λ_=>(St.ldsX u i2 ta1),?_⟩
 refine dz 10 rfl<|Aq (cs:=[i6 0,i6 0,i6 0,.slice none 0 0,.slice none 0 0,i6 0].toArray) o rfl u zeroValue157 rfl λJ3 w a u o=>⟨λ_=>(St.ldsX u i2 ta2),?_⟩
 refine dz 12 rfl<|Ar o u sizeOf157 rfl rfl rfl rfl (Ak rfl) .head λw u=>⟨λ_=>(St.ldsX u i2 ta2),?_⟩
 refine dz 13 rfl<|Ar o u sizeOf157 rfl rfl rfl rfl (Ak rfl) (.tail .head) λw u=>⟨λh=>absurd rfl h,?_⟩
 refine dE<|tn<|?_
 replace u:=u.pk [2,0,0] rfl
 exact ⟨E0.Kind,E0.A,E0.B,E0.E,E0.F,E0.To,F0.Kind,F0.A,F0.B,F0.E,F0.F,F0.To,J3,U2,U1,V2,V1,K3,B3,X1,C3,Y1,hm,o.hs,u,W2,X2,Y2,A3,D3,E3,F3,I3⟩
 rintro a w ⟨U0,R2,T2,V0,O0,E1,P0,F1,I1,Q0,R0,J1,bE1,oaE6,capE7,oaE11,capE12,bE16,oaE21,capE22,oaE26,capE27,hm,o,u,hcE8,hrE9,hcE13,hrE14,hcE23,hrE24,hcE28,hrE29⟩
 unfold Z5a at hm
 refine th<|Av (λa w=>∃ (O1:Bool),(Z5b (Z5e N (Z59 (Z5d N Z58 p1 K0) D0) p1 D0 M0) J0) O1=some r∧Fr 99 [(4,PT C0),(10,i6 D0),(11,i6 J0),(98,.bool O1)] a∧St w0 Nil [H] [bk C0 [i6 p1.Regs,i6 p1.Counts,SL oa7 p1.L cap8] 33] w) ?_ ?_
 rcases bit hm with ⟨P1,hm⟩ | ⟨P1,hm⟩
 obtain ⟨Y3,A4,hm⟩:=bs hm
 refine rg<|qf o Bq rfl λo=>qB o isAgg3 rfl u t1 rfl λo=>qv o (Ah o rfl rfl) λo=>qm o rfl λo=>gr (Fk:=[(4,PT C0),(10,i6 D0),(11,i6 J0),(12,PT bE1),(13,PT bE16),(86,.bool ((decide (U0=14)) && (decide (P0=14))))]) 82 4 o u ?_ ?_ ?_
 intro hb o key
 exact qg o (Ad o Bq rfl) λo=>qg o (eB o isAgg3 rfl u.ld t2 rfl) λo=>qg o (Ah o rfl rfl) λo=>qk o (Ab o rfl rfl) key u hb
 intro hb o key
 iterate 3 refine qn o λo=>?_
 exact qk o (Ac o rfl rfl) key u hb
 intro a w o u
 refine qv o (As (Aa o rfl) (congrArg Value.bool P1)) λo=>qg o (Ad o Ee rfl) λo=>qg o (eB o isAgg3 rfl u.ld t1 rfl) λo=>qg o (Dr o rfl rfl) λo=>qg o (Aa o rfl) λo=>qg o (Ad o Ee rfl) λo=>qg o (eB o isAgg3 rfl u.ld t2 rfl) λo=>qg o (Dr o rfl rfl) λo=>qg o (Aa o rfl) λo=>ls<|gy o rfl rfl<|cr o call93 (Jgm (Ag _) A4) u λu o=>qg o (Bi o rfl) λo=>qv o (Ab o rfl rfl) λo=>re<|tn<|?_
 replace u:=u.pk [0] rfl
 exact ⟨(!Y3),hm,o.hs,u⟩
 refine rg<|qf o Bq rfl λo=>qB o isAgg3 rfl u t1 rfl λo=>qv o (Ah o rfl rfl) λo=>qm o rfl λo=>gr (Fk:=[(4,PT C0),(10,i6 D0),(11,i6 J0),(12,PT bE1),(13,PT bE16),(86,.bool ((decide (U0=14)) && (decide (P0=14))))]) 82 4 o u ?_ ?_ ?_
 intro hb o key
 exact qg o (Ad o Bq rfl) λo=>qg o (eB o isAgg3 rfl u.ld t2 rfl) λo=>qg o (Ah o rfl rfl) λo=>qk o (Ab o rfl rfl) key u hb
 intro hb o key
 iterate 3 refine qn o λo=>?_
 exact qk o (Ac o rfl rfl) key u hb
 intro a w o u
 refine qv o (As (Aa o rfl) (congrArg Value.bool P1)) λo=>?_
 iterate 10 refine qn o λo=>?_
 refine qv o (Ac o rfl rfl) λo=>re<|tn<|?_
 replace u:=u.pk [0] rfl
 exact ⟨false,hm,o.hs,u⟩
 rintro a w ⟨O1,hm,o,u⟩
 unfold Z5b at hm
 rcases bit hm with ⟨Q1,hm⟩ | ⟨Q1,hm⟩
 refine ctv o rfl Q1<|th<|rg<|qa o rfl λo=>re<|tn<|wr<|br<|tr<|tr<|br<|br<|tr<|tr<|br<|tr<|?_
 obtain rfl:=si hm
 exact r1 o results68 rfl ⟨rfl,u.keep⟩
 refine cfv o rfl Q1<|wk<|bn<|tn<|rg<|qm o rfl λo=>qv o (Ao o rfl rfl) λo=>qa o rfl λo=>re<|tn<|?_
 exact ⟨(M0,(i64.wrap (J0+1))),⟨hm,o.hs,u⟩,kxd _⟩
 refine tn<|cfv o rfl D1<|we<|tx<|tx<|bx<|bn<|tn<|?_
 exact ⟨hm,o.hs,u⟩
 rintro a w ⟨hm,o,u⟩
 unfold Z59 at hm
 refine rg<|qm o rfl λo=>qv o (Ao o rfl rfl) λo=>qa o rfl λo=>re<|tn<|?_
 exact ⟨(K0,(i64.wrap (D0+1))),⟨hm,o.hs,u⟩,kxd _⟩
 refine tn<|cfv o rfl C1<|we<|tx<|tx<|bx<|tn<|?_
 replace u:=u.pickL .nil
 exact ⟨hm,o.has trivial,u⟩
 rintro a w ⟨hm,o,u⟩
 unfold Z58 at hm
 refine th<|rg<|qa o rfl λo=>re<|tn<|wr<|?_
 obtain rfl:=si hm
 exact r1 o results68 rfl ⟨rfl,u.keep⟩
end Go.LM.SWAPS
