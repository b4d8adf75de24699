/- Walks, lifted by program. No condition beyond the theorems' own premises. -/
import Derived.Test.YtbblmeecfimnkaaGreatDoorBMQ1
namespace Go.LM.BINZ
open Go Go.LL Go.MD Go.LM Go.Proofs Go.MD.BINZ Go.Proofs.Tryz
set_option maxRecDepth 100000
variable {N:Nat} {w0:World} {H:PH}
theorem JaN (hH:H.le w0) {cs2:List Value} {p1:api_Unit} (g3:Enc.rep H cs2 p1) {r:(Str×Int)} (hm:Z2 N p1=some r):Tot Tryz.prog 8 #[.agg cs2.toArray] w0 (λv w'=>v=.tuple #[Ag r.1,i6 r.2]∧Keep Nil w0 w'):=by
 unfold Z2 at hm
 refine fn0 func8 rfl ntmps8 rfl rfl λa o=>?_
 have u:St w0 Nil [H] [] w0:=start1 hH
 have g4:Enc.rep (α:=(List Int)×Int×(List Int)×Int×(List api_Code)×api_Code×(List (List api_Op))) H cs2 (p1.Lines,p1.Stays,p1.Firsts,p1.Locks,p1.Threads,p1.Recover,p1.Claims):=g3
 obtain ⟨qz5,qz6,rfl,g7,g8⟩:=g4
 obtain ⟨Y0,F0,rfl,X1,Y1⟩:=g7
 obtain ⟨q13,q14,rfl,E4,F4⟩:=g8
 obtain rfl:q13=[i6 p1.Stays]:=E4
 obtain ⟨q17,q18,rfl,G4,I4⟩:=F4
 obtain ⟨Q0,G0,rfl,u1,B2⟩:=G4
 obtain ⟨q25,q26,rfl,J4,K4⟩:=I4
 obtain rfl:q25=[i6 p1.Locks]:=J4
 obtain ⟨q29,q30,rfl,L4,M4⟩:=K4
 obtain ⟨K0,C0,rfl,L3,C1⟩:=L4
 obtain ⟨q37,q38,rfl,O4,P4⟩:=M4
 obtain ⟨M0,D0,rfl,C2,E2⟩:=Am O4
 obtain ⟨O0,E0,rfl,M3,D1⟩:=P4
 refine th<|rg<|ls<|Br (cs:=[SL Y0 p1.Lines F0,i6 p1.Stays,SL Q0 p1.Firsts G0,i6 p1.Locks,SL K0 p1.Threads C0,i6 p1.Recover.Regs,i6 p1.Recover.Counts,SL M0 p1.Recover.L D0,SL O0 p1.Claims E0].toArray) o rfl u rfl rfl λJ1 w a u o=>?_
 iterate 2 refine qa o rfl λo=>?_
 refine re<|tn<|th<|th<|?_
 obtain ⟨D5,Q4,hm⟩:=bs hm
 refine rg<|qv o (Ar o Tryz.isAgg29 Tryz.sizeOf29 rfl rfl (u.ld.cellsB t0)) λo=>ls<|cr o call21 (JcZ (Ah _) (Enc.mono (St.up u) (show Enc.rep (α:=api_Unit) H [SL Y0 p1.Lines F0,i6 p1.Stays,SL Q0 p1.Firsts G0,i6 p1.Locks,SL K0 p1.Threads C0,i6 p1.Recover.Regs,i6 p1.Recover.Counts,SL M0 p1.Recover.L D0,SL O0 p1.Claims E0] p1 from ⟨_,_,rfl,⟨_,_,rfl,X1,Y1⟩,⟨_,_,rfl,rfl,⟨_,_,rfl,⟨_,_,rfl,u1,B2⟩,⟨_,_,rfl,rfl,⟨_,_,rfl,⟨_,_,rfl,L3,C1⟩,⟨_,_,rfl,⟨_,_,rfl,rfl,⟨_,_,rfl,rfl,⟨_,_,rfl,C2,E2⟩⟩⟩,⟨_,_,rfl,M3,D1⟩⟩⟩⟩⟩⟩⟩)) Q4) u λu o=>qv o (A9 o rfl) λo=>re<|?_
 rcases bit hm with ⟨E1,hm⟩ | ⟨E1,hm⟩
 refine tn<|cfv o rfl (by rw [E1];rfl)<|wk<|tn<|th<|rg<|ls<|As (cs:=[.pointer none,.slice none 0 0].toArray) o rfl u Tryz.zeroValue60 rfl λA0 w a u o=>?_
 replace u:=u.bld0 (e:=5)
 refine re<|tn<|th<|?_
 obtain ⟨G3,R4,hm⟩:=bs hm
 refine rg<|qv o (Ae o Cc rfl) λo=>qv o (Af o isAgg22 rfl (u.ld.cellB t1 rfl)) λo=>?_
 replace u:=u.pk [0,0] rfl
 replace u:=St.sep [bldA 60 5 A0 (.pointer none) none 0 []] u
 refine ls<|c1 o rfl call22 (Jbg (St.le u) (p1:=([]:Str)) (b2:=A0) (oa3:=none) (cap4:=0) (vp5:=(.pointer none)) (.inl rfl) X1 Y1 (St.sepOk u) (St.sepDis u) R4) ⟨rfl,rfl,trivial⟩ (λv w a hR o=>?_)
 obtain ⟨vp58,F2,O1,rfl,O3,hk⟩:=hR
 replace u:=(u.mut hk .head).unsep
 refine re<|tn<|th<|?_
 obtain ⟨I3,S4,hm⟩:=bs hm
 refine rg<|qv o (Ae o Cr rfl) λo=>qv o (Af o isAgg3 rfl (u.ld.cellB t1 rfl)) λo=>?_
 replace u:=u.pk [0,0] rfl
 replace u:=St.sep [bldA 60 5 A0 vp58 F2 O1 G3] u
 refine ls<|c1 o rfl call23 (Ff (St.le u) (p1:=G3) (b2:=A0) (oa3:=F2) (cap4:=O1) (vp5:=vp58) O3 (St.sepOk u) (St.sepDis u) S4) ⟨rfl,rfl,trivial⟩ (λv w a hR o=>?_)
 obtain ⟨vp64,G2,P1,rfl,P3,hk⟩:=hR
 replace u:=(u.mut hk .head).unsep
 refine re<|tn<|th<|?_
 obtain ⟨J3,T4,hm⟩:=bs hm
 refine rg<|qv o (Ae o Ei rfl) λo=>qv o (Af o isAgg22 rfl (u.ld.cellB t1 rfl)) λo=>?_
 replace u:=u.pk [0,0] rfl
 replace u:=St.sep [bldA 60 5 A0 vp64 G2 P1 I3] u
 refine ls<|c1 o rfl call22 (Jbg (St.le u) (p1:=I3) (b2:=A0) (oa3:=G2) (cap4:=P1) (vp5:=vp64) P3 u1 B2 (St.sepOk u) (St.sepDis u) T4) ⟨rfl,rfl,trivial⟩ (λv w a hR o=>?_)
 obtain ⟨vp70,I2,Q1,rfl,Q3,hk⟩:=hR
 replace u:=(u.mut hk .head).unsep
 refine re<|tn<|th<|?_
 obtain ⟨K3,U4,hm⟩:=bs hm
 refine rg<|qv o (Ae o Fa rfl) λo=>qv o (Af o isAgg3 rfl (u.ld.cellB t1 rfl)) λo=>?_
 replace u:=u.pk [0,0] rfl
 replace u:=St.sep [bldA 60 5 A0 vp70 I2 Q1 J3] u
 refine ls<|c1 o rfl call23 (Ff (St.le u) (p1:=J3) (b2:=A0) (oa3:=I2) (cap4:=Q1) (vp5:=vp70) Q3 (St.sepOk u) (St.sepDis u) U4) ⟨rfl,rfl,trivial⟩ (λv w a hR o=>?_)
 obtain ⟨vp76,J2,R1,rfl,R3,hk⟩:=hR
 replace u:=(u.mut hk .head).unsep
 refine re<|tn<|th<|?_
 obtain ⟨V4,W4,hm⟩:=bs hm
 refine rg<|qv o (Ae o Cg rfl) λo=>qv o (Af o isAgg23 rfl (u.ld.cellB t1 rfl)) λo=>qv o (Aj (α:=api_Code) (xs:=p1.Threads) o runUnderlying23 rfl) λo=>?_
 replace u:=u.pk [0,0] rfl
 replace u:=St.sep [bldA 60 5 A0 vp76 J2 R1 K3] u
 refine ls<|c1 o rfl call23 (Ff (St.le u) (p1:=K3) (b2:=A0) (oa3:=J2) (cap4:=R1) (vp5:=vp76) R3 (St.sepOk u) (St.sepDis u) W4) ⟨rfl,rfl,trivial⟩ (λv w a hR o=>?_)
 obtain ⟨vp82,S3,U2,rfl,T3,hk⟩:=hR
 replace u:=(u.mut hk .head).unsep
 refine re<|tn<|th<|th<|rg<|qv o (Ae o Cg rfl) λo=>qv o (Af o isAgg23 rfl (u.ld.cellB t1 rfl)) λo=>qv o (Aj (α:=api_Code) (xs:=p1.Threads) o runUnderlying23 rfl) λo=>qm o rfl λo=>re<|tn<|Av (λa w=>∃ (j0:Str) (V0:Option Addr) (P0:Nat) (vpA4:Value),(Z3 N p1) j0=some r∧Fr 57 [(1,PT J1),(4,PT A0)] a∧St w0 Nil [H] [bk J1 [SL Y0 p1.Lines F0,i6 p1.Stays,SL Q0 p1.Firsts G0,i6 p1.Locks,SL K0 p1.Threads C0,i6 p1.Recover.Regs,i6 p1.Recover.Counts,SL M0 p1.Recover.L D0,SL O0 p1.Claims E0] 29,bldA 60 5 A0 vpA4 V0 P0 j0] w∧BP A0 vpA4) ?_ ?_
 replace u:=u.pk [1,0] rfl
 refine wb<|lp (α:=Nat×Str×Int) (λgh a w=>match gh with | (n0,T0,S1)=>∃ (R0:Option Addr) (I0:Nat) (vpB4:Value),(Z5 N (Z3 N p1) p1) n0 T0 S1=some r∧Fr 57 [(1,PT J1),(4,PT A0),(29,SL K0 p1.Threads C0),(30,i6 (p1.Threads.length:Int)),(31,i6 S1)] a∧St w0 Nil [H] [bk J1 [SL Y0 p1.Lines F0,i6 p1.Stays,SL Q0 p1.Firsts G0,i6 p1.Locks,SL K0 p1.Threads C0,i6 p1.Recover.Regs,i6 p1.Recover.Counts,SL M0 p1.Recover.L D0,SL O0 p1.Claims E0] 29,bldA 60 5 A0 vpB4 R0 I0 T0] w∧BP A0 vpB4) (λgh=>gh.1) (N,V4,0) ⟨S3,U2,vp82,hm,o.hs,u,T3⟩ ?_
 rintro ⟨n0,T0,S1⟩ a w ⟨R0,I0,vpB4,hm,o,u,hbB5⟩
 obtain _ | n0:=n0
 simp [Z5] at hm
 rw [Z5] at hm
 refine th<|rg<|qv o (Ak o rfl rfl) λo=>re<|?_
 rcases bip hm with ⟨F1,hm⟩ | ⟨F1,hm⟩
 refine tn<|th<|ctv o rfl F1<|wk<|tn<|th<|wb<|th<|?_
 obtain ⟨T1,K2,hm⟩:=bs hm
 obtain ⟨E5,X4,U3⟩:=SR.get C1 K2
 obtain ⟨V3,V2,rfl,W3,X3⟩:=Am X4
 refine rg<|qv o (Al o Tryz.runUnderlying23 Tryz.sizeOf26 rfl rfl K2 (SR.oaI C1 (by decide) K2)) λo=>qv o (Ar o isAgg26 sizeOf26 rfl rfl (λj v hj=>PH.le.cell (Lds.le u.ld) (U3 j v hj))) λo=>ls<|As (cs:=[i6 0,i6 0,.slice none 0 0].toArray) o rfl u zeroValue26 rfl λF5 w a u o=>ls<|Bb o u sizeOf26 rfl rfl rfl rfl (Ao rfl) .head λw u=>re<|tn<|?_
 obtain ⟨Y4,d4,hm⟩:=bs hm
 refine rg<|qv o (Ar o Tryz.isAgg26 Tryz.sizeOf26 rfl rfl (u.ld.cellsB t0)) λo=>?_
 replace u:=u.pk [2,0,0] rfl
 replace u:=St.sep [bldA 60 5 A0 vpB4 R0 I0 T0] u
 refine ls<|c1 o rfl call24 (Jbm (St.le u) (p1:=T0) (b2:=A0) (oa3:=R0) (cap4:=I0) (vp5:=vpB4) hbB5 (show Enc.rep (α:=api_Code) H [i6 T1.Regs,i6 T1.Counts,SL V3 T1.L V2] T1 from ⟨_,_,rfl,rfl,⟨_,_,rfl,rfl,⟨_,_,rfl,W3,X3⟩⟩⟩) (St.sepOk u) (St.sepDis u) d4) ⟨rfl,rfl,trivial⟩ (λv w a hR o=>?_)
 obtain ⟨vp99,Y3,W2,rfl,X2,hk⟩:=hR
 replace u:=(u.mut hk .head).unsep
 refine re<|bn<|tn<|rg<|qv o (An o rfl rfl) λo=>qm o rfl λo=>re<|tn<|?_
 replace u:=u.pk [2,0] rfl
 exact ⟨(n0,Y4,(IntKind.i64.wrap (S1+1))),⟨Y3,W2,vp99,hm,o.hs,u,X2⟩,Nat.lt_succ_self _⟩
 refine tn<|th<|cfv o rfl F1<|we<|tx<|tx<|bx<|tn<|?_
 exact ⟨T0,R0,I0,vpB4,hm,o.has ⟨rfl,rfl,trivial⟩,u,hbB5⟩
 rintro a w ⟨j0,V0,P0,vpA4,hm,o,u,hbA5⟩
 unfold Z3 at hm
 refine th<|?_
 obtain ⟨O2,l3,hm⟩:=bs hm
 refine rg<|qv o (Ae o Hk rfl) λo=>qv o (Ar o isAgg26 sizeOf26 rfl rfl (Lds.cellsP (pre:=[SL Y0 p1.Lines F0,i6 p1.Stays,SL Q0 p1.Firsts G0,i6 p1.Locks,SL K0 p1.Threads C0]) (vs:=[i6 p1.Recover.Regs,i6 p1.Recover.Counts,SL M0 p1.Recover.L D0]) (post:=[SL O0 p1.Claims E0]) u.ld t0)) λo=>?_
 replace u:=u.pk [1,0] rfl
 replace u:=St.sep [bldA 60 5 A0 vpA4 V0 P0 j0] u
 refine ls<|c1 o rfl call24 (Jbm (St.le u) (p1:=j0) (b2:=A0) (oa3:=V0) (cap4:=P0) (vp5:=vpA4) hbA5 (show Enc.rep (α:=api_Code) H [i6 p1.Recover.Regs,i6 p1.Recover.Counts,SL M0 p1.Recover.L D0] p1.Recover from ⟨_,_,rfl,rfl,⟨_,_,rfl,rfl,⟨_,_,rfl,C2,E2⟩⟩⟩) (St.sepOk u) (St.sepDis u) l3) ⟨rfl,rfl,trivial⟩ (λv w a hR o=>?_)
 obtain ⟨vp105,U1,u0,rfl,Y2,hk⟩:=hR
 replace u:=(u.mut hk .head).unsep
 refine re<|tn<|th<|?_
 obtain ⟨n3,u3,hm⟩:=bs hm
 refine rg<|qv o (Ae o Dm rfl) λo=>qv o (Af o isAgg27 rfl (u.ld.cellB t1 rfl)) λo=>qv o (Aj (α:=(List api_Op)) (xs:=p1.Claims) o runUnderlying27 rfl) λo=>?_
 replace u:=u.pk [0,0] rfl
 replace u:=St.sep [bldA 60 5 A0 vp105 U1 u0 O2] u
 refine ls<|c1 o rfl call23 (Ff (St.le u) (p1:=O2) (b2:=A0) (oa3:=U1) (cap4:=u0) (vp5:=vp105) Y2 (St.sepOk u) (St.sepDis u) u3) ⟨rfl,rfl,trivial⟩ (λv w a hR o=>?_)
 obtain ⟨vp111,u2,P2,rfl,A3,hk⟩:=hR
 replace u:=(u.mut hk .head).unsep
 refine re<|tn<|th<|th<|rg<|qv o (Ae o Dm rfl) λo=>qv o (Af o isAgg27 rfl (u.ld.cellB t1 rfl)) λo=>qv o (Aj (α:=(List api_Op)) (xs:=p1.Claims) o runUnderlying27 rfl) λo=>qm o rfl λo=>re<|tn<|Av (λa w=>∃ (Q2:Str) (R2:Option Addr) (V1:Nat) (vpA9:Value),Z4 Q2=some r∧Fr 57 [(4,PT A0)] a∧St w0 Nil [H] [bldA 60 5 A0 vpA9 R2 V1 Q2] w∧BP A0 vpA9) ?_ ?_
 replace u:=u.pk [0] rfl
 refine wb<|lp (α:=Nat×Str×Int) (λgh a w=>match gh with | (B1,U0,W0)=>∃ (S0:Option Addr) (J0:Nat) (vpB10:Value),(Z6 N Z4 p1) B1 U0 W0=some r∧Fr 57 [(4,PT A0),(46,SL O0 p1.Claims E0),(47,i6 (p1.Claims.length:Int)),(48,i6 W0)] a∧St w0 Nil [H] [bldA 60 5 A0 vpB10 S0 J0 U0] w∧BP A0 vpB10) (λgh=>gh.1) (N,n3,0) ⟨u2,P2,vp111,hm,o.hs,u,A3⟩ ?_
 rintro ⟨B1,U0,W0⟩ a w ⟨S0,J0,vpB10,hm,o,u,hbB11⟩
 obtain _ | B1:=B1
 simp [Z6] at hm
 rw [Z6] at hm
 refine th<|rg<|qv o (Ak o rfl rfl) λo=>re<|?_
 rcases bip hm with ⟨X0,hm⟩ | ⟨X0,hm⟩
 refine tn<|th<|ctv o rfl X0<|wk<|tn<|th<|wb<|th<|?_
 obtain ⟨A5,I1,hm⟩:=bs hm
 obtain ⟨B5,A4,B3⟩:=SR.get D1 I1
 obtain ⟨u4,l4,rfl,C3,D3⟩:=A4
 refine rg<|qv o (Al o Tryz.runUnderlying27 Tryz.sizeOf54 rfl rfl I1 (SR.oaI D1 (by decide) I1)) λo=>qv o (Af o isAgg54 rfl (PH.le.cell (Lds.le u.ld) (B3 0 _ rfl))) λo=>qa o rfl λo=>re<|tn<|?_
 obtain ⟨B4,C4,hm⟩:=bs hm
 refine rg<|qm o rfl λo=>?_
 replace u:=u.pk [0] rfl
 replace u:=St.sep [bldA 60 5 A0 vpB10 S0 J0 U0] u
 refine ls<|c1 o rfl call25 (Yq (St.le u) (p1:=U0) (b2:=A0) (oa3:=S0) (cap4:=J0) (vp5:=vpB10) hbB11 C3 D3 (St.sepOk u) (St.sepDis u) C4) ⟨rfl,rfl,trivial⟩ (λv w a hR o=>?_)
 obtain ⟨vp127,E3,T2,rfl,F3,hk⟩:=hR
 replace u:=(u.mut hk .head).unsep
 refine re<|bn<|tn<|rg<|qv o (An o rfl rfl) λo=>qm o rfl λo=>re<|tn<|?_
 exact ⟨(B1,B4,(IntKind.i64.wrap (W0+1))),⟨E3,T2,vp127,hm,o.hs,u,F3⟩,Nat.lt_succ_self _⟩
 refine tn<|th<|cfv o rfl X0<|we<|tx<|tx<|bx<|tn<|?_
 exact ⟨U0,S0,J0,vpB10,hm,o.has ⟨rfl,trivial⟩,u,hbB11⟩
 rintro a w ⟨Q2,R2,V1,vpA9,hm,o,u,hbA10⟩
 unfold Z4 at hm
 refine th<|?_
 obtain ⟨C5,D4,hm⟩:=bs hm
 refine rg<|qv o (Ae o Jal rfl) λo=>ls<|c1 o rfl call26 (Jae u D4) ⟨rfl,trivial⟩ (λv w a hR o=>?_)
 obtain ⟨rfl,hk⟩:=hR
 replace u:=(start1 hH).pass hk
 iterate 2 refine qa o rfl λo=>?_
 refine re<|tn<|wr<|?_
 obtain rfl:=si hm
 exact r2 o results8 rfl rfl ⟨rfl,u.keep⟩
 refine tn<|ctv o rfl (by rw [E1];rfl)<|th<|rg<|qa o rfl λo=>qa o rfl λo=>re<|tn<|wr<|tr<|?_
 obtain rfl:=si hm
 exact r2 o results8 rfl rfl ⟨rfl,u.keep⟩
theorem Jbe (hH:H.le w0) {cs2:List Value} {p1:api_Unit} (g3:Enc.rep H cs2 p1) {r:Int} (hm:Z6f N p1=some r):Tot Tryz.prog 70 #[.agg cs2.toArray] w0 (λv w'=>v=i6 r∧Keep Nil w0 w'):=by
 unfold Z6f at hm
 refine fn0 func70 rfl ntmps70 rfl rfl λa o=>?_
 have u:St w0 Nil [H] [] w0:=start1 hH
 have g4:Enc.rep (α:=(List Int)×Int×(List Int)×Int×(List api_Code)×api_Code×(List (List api_Op))) H cs2 (p1.Lines,p1.Stays,p1.Firsts,p1.Locks,p1.Threads,p1.Recover,p1.Claims):=g3
 obtain ⟨qz5,qz6,rfl,g7,g8⟩:=g4
 obtain ⟨R0,E0,rfl,F1,C0⟩:=g7
 obtain ⟨q13,q14,rfl,S0,T0⟩:=g8
 obtain rfl:q13=[i6 p1.Stays]:=S0
 obtain ⟨q17,q18,rfl,U0,V0⟩:=T0
 obtain ⟨K0,F0,rfl,I1,J1⟩:=U0
 obtain ⟨q25,q26,rfl,W0,X0⟩:=V0
 obtain rfl:q25=[i6 p1.Locks]:=W0
 obtain ⟨q29,q30,rfl,Y0,j0⟩:=X0
 obtain ⟨M0,G0,rfl,O1,P1⟩:=Y0
 obtain ⟨q37,q38,rfl,n0,u0⟩:=j0
 obtain ⟨O0,I0,rfl,Q1,R1⟩:=Am n0
 obtain ⟨P0,J0,rfl,S1,T1⟩:=u0
 refine th<|rg<|ls<|Br (cs:=[SL R0 p1.Lines E0,i6 p1.Stays,SL K0 p1.Firsts F0,i6 p1.Locks,SL M0 p1.Threads G0,i6 p1.Recover.Regs,i6 p1.Recover.Counts,SL O0 p1.Recover.L I0,SL P0 p1.Claims J0].toArray) o rfl u rfl rfl λB1 w a u o=>qa o rfl λo=>re<|tn<|th<|th<|rg<|qv o (Ae o Cr rfl) λo=>qv o (Af o isAgg3 rfl (u.ld.cellB t0 rfl)) λo=>qv o (Bo o rfl rfl) λo=>qm o rfl λo=>gr (Fk:=[(1,PT B1),(13,.bool ((decide (1≤p1.Stays)) && (decide (p1.Stays≤(p1.Lines.length:Int)))))]) 6 7 o u ?_ ?_ ?_
 intro hb o key
 exact qg o (Ae o Cr rfl) λo=>qg o (Af o isAgg3 rfl (u.ld.cellB t0 rfl)) λo=>qg o (Ae o Cc rfl) λo=>qg o (Af o isAgg22 rfl (u.ld.cellB t0 rfl)) λo=>qg o (Aj (α:=Int) (xs:=p1.Lines) o runUnderlying22 rfl) λo=>qg o (Dt o rfl rfl) λo=>qk o (Ac o rfl rfl) key u hb
 intro hb o key
 iterate 6 refine qn o λo=>?_
 exact qk o (Ad o rfl rfl) key u hb
 intro a w o u
 refine re<|?_
 rcases bit hm with ⟨A0,hm⟩ | ⟨A0,hm⟩
 refine tn<|ctv o rfl A0<|th<|?_
 obtain ⟨C1,D0,hm⟩:=bs hm
 obtain ⟨D1,E1,Q0⟩:=SR.get C0 D0
 obtain rfl:D1=[i6 C1]:=E1
 refine rg<|qv o (Ae o Cc rfl) λo=>qv o (Af o isAgg22 rfl (u.ld.cellB t0 rfl)) λo=>qv o (Ae o Cr rfl) λo=>qv o (Af o isAgg3 rfl (u.ld.cellB t0 rfl)) λo=>qv o (En o rfl rfl) λo=>qv o (Al o runUnderlying22 sizeOf3 rfl rfl D0 (SR.oaI C0 (by decide) D0)) λo=>qv o (Af o isAgg3 rfl (PH.le.cell (Lds.le u.ld) (Q0 0 _ rfl))) λo=>qv o (An o rfl rfl) λo=>qa o rfl λo=>re<|tn<|wr<|tr<|?_
 obtain rfl:=si hm
 exact r1 o results70 rfl ⟨rfl,u.keep⟩
 refine tn<|cfv o rfl A0<|wk<|tn<|th<|rg<|qa o rfl λo=>re<|tn<|wr<|?_
 obtain rfl:=si hm
 exact r1 o results70 rfl ⟨rfl,u.keep⟩
theorem Py (hH:H.le w0) {p1:Int} {p2:Int} {r:Bool} (hm:Z7e N p1 p2=some r):Tot Tryz.prog 134 #[i6 p1,i6 p2] w0 (λv w'=>v=.bool r∧Keep Nil w0 w'):=by
 unfold Z7e at hm
 refine fn0 func134 rfl ntmps134 rfl rfl λa o=>?_
 have u:St w0 Nil [H] [] w0:=start1 hH
 refine th<|rg<|qa o rfl λo=>re<|tn<|th<|rg<|qm o rfl λo=>qv o (Bo o rfl rfl) λo=>qm o rfl λo=>gr (Fk:=[(11,.bool ((decide (0≤p1)) && (decide (p1 < p2))))]) 7 4 o u ?_ ?_ ?_
 intro hb o key
 iterate 2 refine qg o (Ab o rfl) λo=>?_
 exact qg o (Ak o rfl rfl) λo=>qk o (Ac o rfl rfl) key u hb
 intro hb o key
 iterate 3 refine qn o λo=>?_
 exact qk o (Ad o rfl rfl) key u hb
 intro a w o u
 refine qa o rfl λo=>re<|tn<|wr<|?_
 obtain rfl:=si hm
 exact r1 o results134 rfl ⟨rfl,u.keep⟩
theorem Jci (hH:H.le w0) {D0:Option Addr} {C0:Nat} {p1:(List api_Op)} (U0:p1.length≤C0) (J0:SR H D0 p1) {p6:Int} {r:Int} (hm:Z5n N p1 p6=some r):Tot Tryz.prog 115 #[SL D0 p1 C0,i6 p6] w0 (λv w'=>v=i6 r∧Keep Nil w0 w'):=by
 unfold Z5n at hm
 refine fn0 func115 rfl ntmps115 rfl rfl λa o=>?_
 have u:St w0 Nil [H] [] w0:=start1 hH
 refine th<|rg<|qa o rfl λo=>re<|tn<|th<|rg<|qa o rfl λo=>re<|tn<|th<|th<|rg<|qa o rfl λo=>re<|tn<|Av (λa w=>∃ (R0:Int),Z5o R0=some r∧Fr 49 [(5,i6 R0)] a∧St w0 Nil [H] [] w) ?_ ?_
 refine wb<|lp (α:=Nat×Int×Int) (λgh a w=>match gh with | (E0,F0,A0)=>(Z5r N Z5o p1 p6) E0 F0 A0=some r∧Fr 49 [(0,SL D0 p1 C0),(1,i6 p6),(5,i6 F0),(6,i6 A0)] a∧St w0 Nil [H] [] w) (λgh=>gh.1) (N,0,0) ⟨hm,o.hs,u⟩ ?_
 rintro ⟨E0,F0,A0⟩ a w ⟨hm,o,u⟩
 obtain _ | E0:=E0
 simp [Z5r] at hm
 rw [Z5r] at hm
 refine th<|th<|rg<|qm o rfl λo=>qm o rfl λo=>qv o (Ak o rfl rfl) λo=>re<|?_
 rcases bip hm with ⟨S0,hm⟩ | ⟨S0,hm⟩
 refine tn<|ctv o rfl S0<|wk<|tn<|th<|wb<|th<|th<|?_
 obtain ⟨K0,h9,hm⟩:=bs hm
 obtain ⟨V0,T0,I0⟩:=SR.get J0 h9
 obtain rfl:=Cs T0
 refine rg<|qm o rfl λo=>qm o rfl λo=>qv o (Al o runUnderlying54 sizeOf83 rfl rfl h9 (SR.oaI J0 (by decide) h9)) λo=>qv o (Ae o Eb rfl) λo=>qv o (Af o isAgg3 rfl (PH.le.cell (Lds.le u.ld) (I0 0 _ rfl))) λo=>qv o (Aq o rfl rfl) λo=>qm o rfl λo=>gr (Fk:=[(0,SL D0 p1 C0),(1,i6 p6),(5,i6 F0),(6,i6 A0),(25,.bool ((decide (K0.Kind=3)) || (decide (K0.Kind=4))))]) 18 7 o u ?_ ?_ ?_
 intro hb o key
 iterate 6 refine qn o λo=>?_
 exact qk o (Ac o rfl rfl) key u hb
 intro hb o key
 iterate 2 refine qg o (Ab o rfl) λo=>?_
 exact qg o (Al o runUnderlying54 sizeOf83 rfl rfl h9 (SR.oaI J0 (by decide) h9)) λo=>qg o (Ae o Eb rfl) λo=>qg o (Af o isAgg3 rfl (PH.le.cell (Lds.le u.ld) (I0 0 _ rfl))) λo=>qg o (Aq o rfl rfl) λo=>qk o (Ad o rfl rfl) key u hb
 intro a w o u
 refine re<|tn<|Av (λa w=>∃ (G0:Int),(Z5p (Z5r N Z5o p1 p6 E0) K0 A0) G0=some r∧Fr 49 [(0,SL D0 p1 C0),(1,i6 p6),(5,i6 G0),(6,i6 A0)] a∧St w0 Nil [H] [] w) ?_ ?_
 rcases bit hm with ⟨M0,hm⟩ | ⟨M0,hm⟩
 refine ctv o rfl M0<|rg<|qm o rfl λo=>qv o (En o rfl rfl) λo=>qa o rfl λo=>re<|tn<|?_
 exact ⟨(IntKind.i64.wrap (F0 - 1)),hm,o.hs,u⟩
 refine cfv o rfl M0<|wk<|tn<|?_
 exact ⟨F0,hm,o.hs,u⟩
 rintro a w ⟨G0,hm,o,u⟩
 unfold Z5p at hm
 refine th<|th<|rg<|qm o rfl λo=>qm o rfl λo=>qv o (Al o runUnderlying54 sizeOf83 rfl rfl h9 (SR.oaI J0 (by decide) h9)) λo=>qv o (Ae o Eb rfl) λo=>qv o (Af o isAgg3 rfl (PH.le.cell (Lds.le u.ld) (I0 0 _ rfl))) λo=>qv o (Bo o rfl rfl) λo=>qm o rfl λo=>gr (Fk:=[(0,SL D0 p1 C0),(1,i6 p6),(5,i6 G0),(6,i6 A0),(41,.bool ((decide (5≤K0.Kind)) && (decide (K0.Kind≤15))))]) 34 7 o u ?_ ?_ ?_
 intro hb o key
 iterate 2 refine qg o (Ab o rfl) λo=>?_
 exact qg o (Al o runUnderlying54 sizeOf83 rfl rfl h9 (SR.oaI J0 (by decide) h9)) λo=>qg o (Ae o Eb rfl) λo=>qg o (Af o isAgg3 rfl (PH.le.cell (Lds.le u.ld) (I0 0 _ rfl))) λo=>qg o (Dt o rfl rfl) λo=>qk o (Ac o rfl rfl) key u hb
 intro hb o key
 iterate 6 refine qn o λo=>?_
 exact qk o (Ad o rfl rfl) key u hb
 intro a w o u
 refine re<|tn<|Av (λa w=>∃ (Q0:Int),(Z5q (Z5r N Z5o p1 p6 E0) A0) Q0=some r∧Fr 49 [(0,SL D0 p1 C0),(1,i6 p6),(5,i6 Q0),(6,i6 A0)] a∧St w0 Nil [H] [] w) ?_ ?_
 rcases bit hm with ⟨O0,hm⟩ | ⟨O0,hm⟩
 refine ctv o rfl O0<|rg<|qm o rfl λo=>qv o (En o rfl rfl) λo=>qa o rfl λo=>re<|tn<|?_
 exact ⟨(IntKind.i64.wrap (G0 - 2)),hm,o.hs,u⟩
 refine cfv o rfl O0<|wk<|tn<|?_
 exact ⟨G0,hm,o.hs,u⟩
 rintro a w ⟨Q0,hm,o,u⟩
 unfold Z5q at hm
 refine th<|th<|rg<|qm o rfl λo=>qv o (Ak o rfl rfl) λo=>re<|?_
 rcases bip hm with ⟨P0,hm⟩ | ⟨P0,hm⟩
 refine tn<|ctv o rfl P0<|th<|rg<|qa o rfl λo=>re<|tn<|wr<|tr<|br<|tr<|tr<|br<|tr<|?_
 obtain rfl:=si hm
 exact r1 o results115 rfl ⟨rfl,u.keep⟩
 refine tn<|cfv o rfl P0<|wk<|tn<|rg<|qm o rfl λo=>qv o (An o rfl rfl) λo=>qa o rfl λo=>re<|bn<|tn<|rg<|qm o rfl λo=>qv o (An o rfl rfl) λo=>qa o rfl λo=>re<|tn<|?_
 exact ⟨(E0,(IntKind.i64.wrap (Q0+1)),(IntKind.i64.wrap (A0+1))),⟨hm,o.hs,u⟩,Nat.lt_succ_self _⟩
 refine tn<|cfv o rfl S0<|we<|tx<|tx<|bx<|tn<|?_
 exact ⟨F0,hm,o.has ⟨rfl,trivial⟩,u⟩
 rintro a w ⟨R0,hm,o,u⟩
 unfold Z5o at hm
 refine th<|rg<|qm o rfl λo=>qa o rfl λo=>re<|tn<|wr<|?_
 obtain rfl:=si hm
 exact r1 o results115 rfl ⟨rfl,u.keep⟩
set_option maxHeartbeats 4000000 in
theorem Nt (hH:H.le w0) {D0:Option Addr} {C0:Nat} {p1:(List api_Op)} (O0:p1.length≤C0) (J0:SR H D0 p1) {p6:Int} {r:Bool} (hm:Z5h N p1 p6=some r):Tot Tryz.prog 71 #[SL D0 p1 C0,i6 p6] w0 (λv w'=>v=.bool r∧Keep Nil w0 w'):=by
 unfold Z5h at hm
 refine fn0 func71 rfl ntmps71 rfl rfl λa o=>?_
 have u:St w0 Nil [H] [] w0:=start1 hH
 refine th<|rg<|qa o rfl λo=>re<|tn<|th<|th<|rg<|qa o rfl λo=>re<|tn<|Av (λa w=>(Z5i N p1)=some r∧Fr 78 [(0,SL D0 p1 C0)] a∧St w0 Nil [H] [] w) ?_ ?_
 refine wb<|lp (α:=Nat×Int) (λgh a w=>match gh with | (F0,E0)=>(Z5j N (Z5i N p1) p1 p6) F0 E0=some r∧Fr 78 [(0,SL D0 p1 C0),(1,i6 p6),(5,i6 E0)] a∧St w0 Nil [H] [] w) (λgh=>gh.1) (N,0) ⟨hm,o.hs,u⟩ ?_
 rintro ⟨F0,E0⟩ a w ⟨hm,o,u⟩
 obtain _ | F0:=F0
 simp [Z5j] at hm
 rw [Z5j] at hm
 refine th<|th<|rg<|qm o rfl λo=>qm o rfl λo=>qv o (Aj (α:=api_Op) (xs:=p1) o runUnderlying54 rfl) λo=>qv o (Ak o rfl rfl) λo=>re<|?_
 rcases bip hm with ⟨K0,hm⟩ | ⟨K0,hm⟩
 refine tn<|ctv o rfl K0<|wk<|tn<|th<|wb<|th<|?_
 obtain ⟨A0,h9,hm⟩:=bs hm
 obtain ⟨R0,P0,M0⟩:=SR.get J0 h9
 obtain rfl:=Cs P0
 refine rxS 12 u wide (by kernel_rfl) λw u=>?_
 iterate 2 refine xq u.ld o (λw hl=>Ab o rfl) λo=>?_
 refine xr u o (Al o runUnderlying54 sizeOf83 rfl rfl h9 (SR.oaI J0 (by decide) h9)) λo=>xr u o (Ae o Eb rfl) λo=>xq u.ld o (λw hl=>Af o isAgg3 rfl (PH.le.cell (Lds.le hl) (M0 0 _ rfl))) λo=>?_
 iterate 2 refine xq u.ld o (λw hl=>Ab o rfl) λo=>?_
 refine xr u o (Al o runUnderlying54 sizeOf83 rfl rfl h9 (SR.oaI J0 (by decide) h9)) λo=>xr u o (Ae o F8 rfl) λo=>xq u.ld o (λw hl=>Af o isAgg3 rfl (PH.le.cell (Lds.le hl) (M0 1 _ rfl))) λo=>?_
 iterate 2 refine xq u.ld o (λw hl=>Bp o rfl) λo=>?_
 refine xe<|tn<|th<|rg<|qm o rfl λo=>qv o (Ak o rfl rfl) λo=>qm o rfl λo=>gr (Fk:=[(0,SL D0 p1 C0),(1,i6 p6),(5,i6 E0),(6,i6 A0.Kind),(7,i6 A0.N),(29,.bool ((decide (A0.Kind < 1)) || (decide (15 < A0.Kind))))]) 26 3 o u ?_ ?_ ?_
 intro hb o key
 iterate 2 refine qn o λo=>?_
 exact qk o (Ac o rfl rfl) key u hb
 intro hb o key
 exact qg o (Ab o rfl) λo=>qg o (Ba o rfl rfl) λo=>qk o (Ad o rfl rfl) key u hb
 intro a w o u
 refine qm o rfl λo=>gr (Fk:=[(0,SL D0 p1 C0),(1,i6 p6),(5,i6 E0),(6,i6 A0.Kind),(7,i6 A0.N),(41,.bool (((decide (A0.Kind < 1)) || (decide (15 < A0.Kind))) || ((decide (A0.Kind=1)) && ((decide (A0.N < 0)) || (decide (4294967296 < A0.N))))))]) 30 11 o u ?_ ?_ ?_
 intro hb o key
 iterate 3 refine qn o λo=>?_
 iterate 6 refine ls<|gnu o rfl rfl rfl λa o=>?_
 exact qn o λo=>qk o (Ac o rfl rfl) key u hb
 intro hb o key
 refine qg o (Ab o rfl) λo=>qg o (Aq o rfl rfl) λo=>qg o (Ab o rfl) λo=>gr (Fk:=[(0,SL D0 p1 C0),(1,i6 p6),(5,i6 E0),(6,i6 A0.Kind),(7,i6 A0.N),(30,.bool false),(40,.bool ((decide (A0.Kind=1)) && ((decide (A0.N < 0)) || (decide (4294967296 < A0.N)))))]) 33 7 o u ?_ ?_ ?_
 intro hb o key
 refine qg o (Ab o rfl) λo=>qg o (Ak o rfl rfl) λo=>qg o (Ab o rfl) λo=>gr (Fk:=[(0,SL D0 p1 C0),(1,i6 p6),(5,i6 E0),(6,i6 A0.Kind),(7,i6 A0.N),(30,.bool false),(33,.bool true),(39,.bool ((decide (A0.N < 0)) || (decide (4294967296 < A0.N))))]) 36 3 o u ?_ ?_ ?_
 intro hb o key
 iterate 2 refine qn o λo=>?_
 exact ql o (Ac o rfl rfl) key u hb
 intro hb o key
 exact qg o (Ab o rfl) λo=>qg o (Ba o rfl rfl) λo=>ql o (Ad o rfl rfl) key u hb
 intro a w o u
 exact ql o (Ac o rfl rfl) key u hb
 intro hb o key
 iterate 3 refine qn o λo=>?_
 iterate 2 refine ls<|gnu o rfl rfl rfl λa o=>?_
 exact qn o λo=>ql o (Ad o rfl rfl) key u hb
 intro a w o u
 exact qk o (Ad o rfl rfl) key u hb
 intro a w o u
 refine qm o rfl λo=>gr (Fk:=[(0,SL D0 p1 C0),(1,i6 p6),(5,i6 E0),(6,i6 A0.Kind),(7,i6 A0.N),(54,.bool ((((decide (A0.Kind < 1)) || (decide (15 < A0.Kind))) || ((decide (A0.Kind=1)) && ((decide (A0.N < 0)) || (decide (4294967296 < A0.N))))) || ((decide (A0.Kind=2)) && ((decide (A0.N < 0)) || (decide (p6≤A0.N))))))]) 42 12 o u ?_ ?_ ?_
 intro hb o key
 iterate 3 refine qn o λo=>?_
 iterate 7 refine ls<|gnu o rfl rfl rfl λa o=>?_
 exact qn o λo=>qk o (Ac o rfl rfl) key u hb
 intro hb o key
 refine qg o (Ab o rfl) λo=>qg o (Aq o rfl rfl) λo=>qg o (Ab o rfl) λo=>gr (Fk:=[(0,SL D0 p1 C0),(1,i6 p6),(5,i6 E0),(6,i6 A0.Kind),(7,i6 A0.N),(42,.bool false),(53,.bool ((decide (A0.Kind=2)) && ((decide (A0.N < 0)) || (decide (p6≤A0.N)))))]) 45 8 o u ?_ ?_ ?_
 intro hb o key
 refine qg o (Ab o rfl) λo=>qg o (Ak o rfl rfl) λo=>qg o (Ab o rfl) λo=>gr (Fk:=[(0,SL D0 p1 C0),(1,i6 p6),(5,i6 E0),(6,i6 A0.Kind),(7,i6 A0.N),(42,.bool false),(45,.bool true),(52,.bool ((decide (A0.N < 0)) || (decide (p6≤A0.N))))]) 48 4 o u ?_ ?_ ?_
 intro hb o key
 iterate 3 refine qn o λo=>?_
 exact ql o (Ac o rfl rfl) key u hb
 intro hb o key
 iterate 2 refine qg o (Ab o rfl) λo=>?_
 exact qg o (Bo o rfl rfl) λo=>ql o (Ad o rfl rfl) key u hb
 intro a w o u
 exact ql o (Ac o rfl rfl) key u hb
 intro hb o key
 iterate 3 refine qn o λo=>?_
 iterate 3 refine ls<|gnu o rfl rfl rfl λa o=>?_
 exact qn o λo=>ql o (Ad o rfl rfl) key u hb
 intro a w o u
 exact qk o (Ad o rfl rfl) key u hb
 intro a w o u
 refine qm o rfl λo=>gr (Fk:=[(0,SL D0 p1 C0),(1,i6 p6),(5,i6 E0),(62,.bool (((((decide (A0.Kind < 1)) || (decide (15 < A0.Kind))) || ((decide (A0.Kind=1)) && ((decide (A0.N < 0)) || (decide (4294967296 < A0.N))))) || ((decide (A0.Kind=2)) && ((decide (A0.N < 0)) || (decide (p6≤A0.N))))) || ((decide (2 < A0.Kind)) && (decide (A0.N≠0)))))]) 55 7 o u ?_ ?_ ?_
 intro hb o key
 iterate 3 refine qn o λo=>?_
 iterate 2 refine ls<|gnu o rfl rfl rfl λa o=>?_
 exact qn o λo=>qk o (Ac o rfl rfl) key u hb
 intro hb o key
 refine qg o (Ab o rfl) λo=>qg o (Ba o rfl rfl) λo=>qg o (Ab o rfl) λo=>gr (Fk:=[(0,SL D0 p1 C0),(1,i6 p6),(5,i6 E0),(55,.bool false),(61,.bool ((decide (2 < A0.Kind)) && (decide (A0.N≠0))))]) 58 3 o u ?_ ?_ ?_
 intro hb o key
 exact qg o (Ab o rfl) λo=>qg o (Bh o rfl rfl) λo=>ql o (Ac o rfl rfl) key u hb
 intro hb o key
 iterate 2 refine qn o λo=>?_
 exact ql o (Ad o rfl rfl) key u hb
 intro a w o u
 exact qk o (Ad o rfl rfl) key u hb
 intro a w o u
 refine re<|?_
 rcases bit hm with ⟨G0,hm⟩ | ⟨G0,hm⟩
 refine tn<|ctv o rfl G0<|th<|rg<|qa o rfl λo=>re<|tn<|wr<|br<|tr<|tr<|br<|tr<|?_
 obtain rfl:=si hm
 exact r1 o results71 rfl ⟨rfl,u.keep⟩
 refine tn<|cfv o rfl G0<|wk<|bn<|tn<|rg<|qm o rfl λo=>qv o (An o rfl rfl) λo=>qa o rfl λo=>re<|tn<|?_
 exact ⟨(F0,(IntKind.i64.wrap (E0+1))),⟨hm,o.hs,u⟩,Nat.lt_succ_self _⟩
 refine tn<|cfv o rfl K0<|we<|tx<|tx<|bx<|tn<|?_
 exact ⟨hm,o.has ⟨rfl,trivial⟩,u⟩
 rintro a w ⟨hm,o,u⟩
 unfold Z5i at hm
 refine th<|?_
 rcases bit hm with ⟨I0,hm⟩ | ⟨I0,hm⟩
 obtain ⟨S0,Q0,hm⟩:=bs hm
 refine rg<|qm o rfl λo=>qv o (Aj (α:=api_Op) (xs:=p1) o runUnderlying54 rfl) λo=>qv o (Bo o rfl rfl) λo=>qm o rfl λo=>gr (Fk:=[(0,SL D0 p1 C0),(70,.bool ((decide (1≤(p1.length:Int))) && (decide ((p1.length:Int)≤40))))]) 66 4 o u ?_ ?_ ?_
 intro hb o key
 exact qg o (Ab o rfl) λo=>qg o (Aj (α:=api_Op) (xs:=p1) o runUnderlying54 rfl) λo=>qg o (Dt o rfl rfl) λo=>qk o (Ac o rfl rfl) key u hb
 intro hb o key
 iterate 3 refine qn o λo=>?_
 exact qk o (Ad o rfl rfl) key u hb
 intro a w o u
 refine qv o (Ax (Ab o rfl) (congrArg Value.bool I0)) λo=>?_
 iterate 2 refine qg o (Ab o rfl) λo=>?_
 refine qg o (Aj (α:=api_Op) (xs:=p1) o runUnderlying54 rfl) λo=>ls<|gy o rfl rfl<|cr o call115 (Jci (Ah _) O0 (St.srH u J0) Q0) u λu o=>qg o (Aq o rfl rfl) λo=>qv o (Ac o rfl rfl) λo=>qa o rfl λo=>re<|tn<|wr<|?_
 obtain rfl:=si hm
 exact r1 o results71 rfl ⟨rfl,u.keep⟩
 refine rg<|qm o rfl λo=>qv o (Aj (α:=api_Op) (xs:=p1) o runUnderlying54 rfl) λo=>qv o (Bo o rfl rfl) λo=>qm o rfl λo=>gr (Fk:=[(0,SL D0 p1 C0),(70,.bool ((decide (1≤(p1.length:Int))) && (decide ((p1.length:Int)≤40))))]) 66 4 o u ?_ ?_ ?_
 intro hb o key
 exact qg o (Ab o rfl) λo=>qg o (Aj (α:=api_Op) (xs:=p1) o runUnderlying54 rfl) λo=>qg o (Dt o rfl rfl) λo=>qk o (Ac o rfl rfl) key u hb
 intro hb o key
 iterate 3 refine qn o λo=>?_
 exact qk o (Ad o rfl rfl) key u hb
 intro a w o u
 refine qv o (Ax (Ab o rfl) (congrArg Value.bool I0)) λo=>?_
 iterate 5 refine qn o λo=>?_
 refine qv o (Ad o rfl rfl) λo=>qa o rfl λo=>re<|tn<|wr<|?_
 obtain rfl:=si hm
 exact r1 o results71 rfl ⟨rfl,u.keep⟩
set_option maxHeartbeats 4000000 in
theorem Jby (hH:H.le w0) {cs2:List Value} {p1:api_Instr} (g3:Enc.rep H cs2 p1) {cs5:List Value} {p4:api_Code} (g6:Enc.rep H cs5 p4) {p7:Int} {p8:Int} {p9:Int} {r:Bool} (hm:Z76 N p1 p4 p7 p8 p9=some r):Tot Tryz.prog 112 #[.agg cs2.toArray,.agg cs5.toArray,i6 p7,i6 p8,i6 p9] w0 (λv w'=>v=.bool r∧Keep Nil w0 w'):=by
 unfold Z76 at hm
 refine fn0 func112 rfl ntmps112 rfl rfl λa o=>?_
 have u:St w0 Nil [H] [] w0:=start1 hH
 obtain ⟨J0,F0,K0,G0,rfl,S0,T0,I1,J1⟩:=Au g3
 obtain ⟨M0,I0,rfl,P2,Q2⟩:=Am g6
 refine th<|rg<|ls<|Br (cs:=[i6 p1.Kind,i6 p1.A,i6 p1.B,SL J0 p1.E F0,SL K0 p1.F G0,i6 p1.To].toArray) o rfl u rfl rfl λC0 w a u o=>ls<|Br (cs:=[i6 p4.Regs,i6 p4.Counts,SL M0 p4.L I0].toArray) o rfl u rfl rfl λD0 w a u o=>qa o rfl λo=>re<|tn<|th<|rg<|qv o (Ae o Ca rfl) λo=>qv o (Af o isAgg3 rfl (u.ld.cellB t1 rfl)) λo=>qa o rfl λo=>re<|tn<|th<|rxS 8 u wide (by kernel_rfl) λw u=>xr u o (Ae o Ck rfl) λo=>xq u.ld o (λw hl=>Af o isAgg3 rfl (hl.cellB t1 rfl)) λo=>xr u o (Aq o rfl rfl) λo=>xr u o (Ae o Ce rfl) λo=>xq u.ld o (λw hl=>Af o isAgg3 rfl (hl.cellB t1 rfl)) λo=>xr u o (Aq o rfl rfl) λo=>?_
 iterate 2 refine xq u.ld o (λw hl=>Bp o rfl) λo=>?_
 refine xe<|tn<|th<|rg<|qm o rfl λo=>qv o (Aq o rfl rfl) λo=>qm o rfl λo=>gr (Fk:=[(2,i6 p7),(3,i6 p8),(4,i6 p9),(5,PT C0),(6,PT D0),(11,i6 p1.Kind),(12,.bool (decide (p1.A=0))),(13,.bool (decide (p1.B=0))),(28,.bool ((decide (p1.Kind=1)) || (decide (p1.Kind=3))))]) 25 3 o u ?_ ?_ ?_
 intro hb o key
 iterate 2 refine qn o λo=>?_
 exact qk o (Ac o rfl rfl) key u hb
 intro hb o key
 exact qg o (Ab o rfl) λo=>qg o (Aq o rfl rfl) λo=>qk o (Ad o rfl rfl) key u hb
 intro a w o u
 refine qm o rfl λo=>gr (Fk:=[(2,i6 p7),(3,i6 p8),(4,i6 p9),(5,PT C0),(6,PT D0),(11,i6 p1.Kind),(12,.bool (decide (p1.A=0))),(13,.bool (decide (p1.B=0))),(32,.bool (((decide (p1.Kind=1)) || (decide (p1.Kind=3))) || (decide (p1.Kind=4))))]) 29 3 o u ?_ ?_ ?_
 intro hb o key
 iterate 2 refine qn o λo=>?_
 exact qk o (Ac o rfl rfl) key u hb
 intro hb o key
 exact qg o (Ab o rfl) λo=>qg o (Aq o rfl rfl) λo=>qk o (Ad o rfl rfl) key u hb
 intro a w o u
 refine qm o rfl λo=>gr (Fk:=[(2,i6 p7),(3,i6 p8),(4,i6 p9),(5,PT C0),(6,PT D0),(11,i6 p1.Kind),(12,.bool (decide (p1.A=0))),(13,.bool (decide (p1.B=0))),(36,.bool ((((decide (p1.Kind=1)) || (decide (p1.Kind=3))) || (decide (p1.Kind=4))) || (decide (p1.Kind=12))))]) 33 3 o u ?_ ?_ ?_
 intro hb o key
 iterate 2 refine qn o λo=>?_
 exact qk o (Ac o rfl rfl) key u hb
 intro hb o key
 exact qg o (Ab o rfl) λo=>qg o (Aq o rfl rfl) λo=>qk o (Ad o rfl rfl) key u hb
 intro a w o u
 refine qm o rfl λo=>gr (Fk:=[(2,i6 p7),(3,i6 p8),(4,i6 p9),(5,PT C0),(6,PT D0),(11,i6 p1.Kind),(12,.bool (decide (p1.A=0))),(13,.bool (decide (p1.B=0))),(40,.bool (((((decide (p1.Kind=1)) || (decide (p1.Kind=3))) || (decide (p1.Kind=4))) || (decide (p1.Kind=12))) || (decide (p1.Kind=15))))]) 37 3 o u ?_ ?_ ?_
 intro hb o key
 iterate 2 refine qn o λo=>?_
 exact qk o (Ac o rfl rfl) key u hb
 intro hb o key
 exact qg o (Ab o rfl) λo=>qg o (Aq o rfl rfl) λo=>qk o (Ad o rfl rfl) key u hb
 intro a w o u
 refine qa o rfl λo=>re<|tn<|th<|th<|rg<|qm o rfl λo=>qv o (Aq o rfl rfl) λo=>qm o rfl λo=>gr (Fk:=[(2,i6 p7),(3,i6 p8),(4,i6 p9),(5,PT C0),(6,PT D0),(11,i6 p1.Kind),(12,.bool (decide (p1.A=0))),(13,.bool (decide (p1.B=0))),(14,.bool (((((decide (p1.Kind=1)) || (decide (p1.Kind=3))) || (decide (p1.Kind=4))) || (decide (p1.Kind=12))) || (decide (p1.Kind=15)))),(46,.bool ((decide (p1.Kind=1)) || (decide (p1.Kind=2))))]) 43 3 o u ?_ ?_ ?_
 intro hb o key
 iterate 2 refine qn o λo=>?_
 exact qk o (Ac o rfl rfl) key u hb
 intro hb o key
 exact qg o (Ab o rfl) λo=>qg o (Aq o rfl rfl) λo=>qk o (Ad o rfl rfl) key u hb
 intro a w o u
 refine qm o rfl λo=>gr (Fk:=[(2,i6 p7),(3,i6 p8),(4,i6 p9),(5,PT C0),(6,PT D0),(11,i6 p1.Kind),(12,.bool (decide (p1.A=0))),(13,.bool (decide (p1.B=0))),(14,.bool (((((decide (p1.Kind=1)) || (decide (p1.Kind=3))) || (decide (p1.Kind=4))) || (decide (p1.Kind=12))) || (decide (p1.Kind=15)))),(50,.bool (((decide (p1.Kind=1)) || (decide (p1.Kind=2))) || (decide (p1.Kind=4))))]) 47 3 o u ?_ ?_ ?_
 intro hb o key
 iterate 2 refine qn o λo=>?_
 exact qk o (Ac o rfl rfl) key u hb
 intro hb o key
 exact qg o (Ab o rfl) λo=>qg o (Aq o rfl rfl) λo=>qk o (Ad o rfl rfl) key u hb
 intro a w o u
 refine re<|tn<|Av (λa w=>∃ (R0:Bool),(Z77 N p1 p4 p7 p8 p9) R0=some r∧Fr 153 [(2,i6 p7),(3,i6 p8),(4,i6 p9),(5,PT C0),(6,PT D0),(11,i6 p1.Kind),(12,.bool R0),(13,.bool (decide (p1.B=0))),(14,.bool (((((decide (p1.Kind=1)) || (decide (p1.Kind=3))) || (decide (p1.Kind=4))) || (decide (p1.Kind=12))) || (decide (p1.Kind=15))))] a∧St w0 Nil [H] [bk C0 [i6 p1.Kind,i6 p1.A,i6 p1.B,SL J0 p1.E F0,SL K0 p1.F G0,i6 p1.To] 85,bk D0 [i6 p4.Regs,i6 p4.Counts,SL M0 p4.L I0] 26] w) ?_ ?_
 rcases bit hm with ⟨U0,hm⟩ | ⟨U0,hm⟩
 refine ctv o rfl U0<|?_
 obtain ⟨X1,Y1,hm⟩:=bs hm
 refine rg<|qv o (Ae o Ck rfl) λo=>qv o (Af o isAgg3 rfl (u.ld.cellB t1 rfl)) λo=>qv o (Ae o Cz rfl) λo=>qv o (Af o isAgg3 rfl (u.ld.cellB t0 rfl)) λo=>ls<|cr o call134 (Py (Ah _) Y1) u λu o=>qa o rfl λo=>re<|tn<|?_
 replace u:=u.pk [1,0] rfl
 exact ⟨X1,hm,o.hs,u⟩
 refine cfv o rfl U0<|wk<|tn<|?_
 replace u:=u.pk [1,0] rfl
 exact ⟨(decide (p1.A=0)),hm,o.hs,u⟩
 rintro a w ⟨R0,hm,o,u⟩
 unfold Z77 at hm
 refine th<|th<|rg<|qm o rfl λo=>qv o (Aq o rfl rfl) λo=>qm o rfl λo=>gr (Fk:=[(2,i6 p7),(3,i6 p8),(4,i6 p9),(5,PT C0),(6,PT D0),(11,i6 p1.Kind),(12,.bool R0),(13,.bool (decide (p1.B=0))),(14,.bool (((((decide (p1.Kind=1)) || (decide (p1.Kind=3))) || (decide (p1.Kind=4))) || (decide (p1.Kind=12))) || (decide (p1.Kind=15)))),(61,.bool ((decide (p1.Kind=13)) || (decide (p1.Kind=14))))]) 58 3 o u ?_ ?_ ?_
 intro hb o key
 iterate 2 refine qn o λo=>?_
 exact qk o (Ac o rfl rfl) key u hb
 intro hb o key
 exact qg o (Ab o rfl) λo=>qg o (Aq o rfl rfl) λo=>qk o (Ad o rfl rfl) key u hb
 intro a w o u
 refine re<|tn<|Av (λa w=>∃ (A0:Bool),(Z78 N p1 p4 p7 p8 p9) A0=some r∧Fr 153 [(2,i6 p7),(3,i6 p8),(4,i6 p9),(5,PT C0),(6,PT D0),(11,i6 p1.Kind),(12,.bool A0),(13,.bool (decide (p1.B=0))),(14,.bool (((((decide (p1.Kind=1)) || (decide (p1.Kind=3))) || (decide (p1.Kind=4))) || (decide (p1.Kind=12))) || (decide (p1.Kind=15))))] a∧St w0 Nil [H] [bk C0 [i6 p1.Kind,i6 p1.A,i6 p1.B,SL J0 p1.E F0,SL K0 p1.F G0,i6 p1.To] 85,bk D0 [i6 p4.Regs,i6 p4.Counts,SL M0 p4.L I0] 26] w) ?_ ?_
 rcases bit hm with ⟨V0,hm⟩ | ⟨V0,hm⟩
 refine ctv o rfl V0<|?_
 obtain ⟨u1,B2,hm⟩:=bs hm
 refine rg<|qv o (Ae o Ck rfl) λo=>qv o (Af o isAgg3 rfl (u.ld.cellB t0 rfl)) λo=>qv o (Ae o Gg rfl) λo=>qv o (Af o isAgg3 rfl (u.ld.cellB t1 rfl)) λo=>ls<|cr o call134 (Py (Ah _) B2) u λu o=>qa o rfl λo=>re<|tn<|?_
 exact ⟨u1,hm,o.hs,u⟩
 refine cfv o rfl V0<|wk<|tn<|?_
 exact ⟨R0,hm,o.hs,u⟩
 rintro a w ⟨A0,hm,o,u⟩
 unfold Z78 at hm
 refine th<|th<|rg<|qm o rfl λo=>re<|tn<|Av (λa w=>∃ (E0:Bool),(Z79 N p1 p4 A0) E0=some r∧Fr 153 [(5,PT C0),(6,PT D0),(11,i6 p1.Kind),(12,.bool A0),(13,.bool E0),(14,.bool (((((decide (p1.Kind=1)) || (decide (p1.Kind=3))) || (decide (p1.Kind=4))) || (decide (p1.Kind=12))) || (decide (p1.Kind=15))))] a∧St w0 Nil [H] [bk C0 [i6 p1.Kind,i6 p1.A,i6 p1.B,SL J0 p1.E F0,SL K0 p1.F G0,i6 p1.To] 85,bk D0 [i6 p4.Regs,i6 p4.Counts,SL M0 p4.L I0] 26] w) ?_ ?_
 refine wb<|th<|th<|rg<|qv o (Aq o rfl rfl) λo=>qa o rfl λo=>re<|tn<|Av (λa w=>∃ (O1:Bool),(Z7a N (Z79 N p1 p4 A0) p1 p7 p8 p9) O1=some r∧Fr 153 [(2,i6 p7),(3,i6 p8),(4,i6 p9),(5,PT C0),(6,PT D0),(11,i6 p1.Kind),(12,.bool A0),(13,.bool (decide (p1.B=0))),(14,.bool (((((decide (p1.Kind=1)) || (decide (p1.Kind=3))) || (decide (p1.Kind=4))) || (decide (p1.Kind=12))) || (decide (p1.Kind=15)))),(67,i6 p1.Kind),(68,.bool O1)] a∧St w0 Nil [H] [bk C0 [i6 p1.Kind,i6 p1.A,i6 p1.B,SL J0 p1.E F0,SL K0 p1.F G0,i6 p1.To] 85,bk D0 [i6 p4.Regs,i6 p4.Counts,SL M0 p4.L I0] 26] w) ?_ ?_
 rcases bip hm with ⟨W0,hm⟩ | ⟨W0,hm⟩
 refine ctv o rfl W0<|wk<|tn<|?_
 exact ⟨(decide (p1.Kind=2)),hm,o.hs,u⟩
 refine cfv o rfl W0<|th<|rg<|qv o (Aq o rfl rfl) λo=>qa o rfl λo=>re<|?_
 rcases bip hm with ⟨X0,hm⟩ | ⟨X0,hm⟩
 refine tn<|ctv o rfl X0<|wk<|tn<|?_
 exact ⟨(decide (p1.Kind=3)),hm,o.hs,u⟩
 refine tn<|cfv o rfl X0<|rg<|qv o (Aq o rfl rfl) λo=>qa o rfl λo=>re<|tn<|?_
 exact ⟨(decide (p1.Kind=4)),hm,o.hs,u⟩
 rintro a w ⟨O1,hm,o,u⟩
 unfold Z7a at hm
 rcases bit hm with ⟨Y0,hm⟩ | ⟨Y0,hm⟩
 refine ctv o rfl Y0<|?_
 obtain ⟨C2,E2,hm⟩:=bs hm
 refine rg<|qv o (Ae o Ce rfl) λo=>qv o (Af o isAgg3 rfl (u.ld.cellB t0 rfl)) λo=>qm o rfl λo=>ls<|cr o call134 (Py (Ah _) E2) u λu o=>qa o rfl λo=>re<|bn<|tn<|?_
 exact ⟨C2,hm,o.hs,u⟩
 refine cfv o rfl Y0<|th<|th<|rg<|qv o (Aq o rfl rfl) λo=>qa o rfl λo=>re<|tn<|Av (λa w=>∃ (P1:Bool),(Z7b N (Z79 N p1 p4 A0) p1 p8 p9) P1=some r∧Fr 153 [(3,i6 p8),(4,i6 p9),(5,PT C0),(6,PT D0),(11,i6 p1.Kind),(12,.bool A0),(13,.bool (decide (p1.B=0))),(14,.bool (((((decide (p1.Kind=1)) || (decide (p1.Kind=3))) || (decide (p1.Kind=4))) || (decide (p1.Kind=12))) || (decide (p1.Kind=15)))),(67,i6 p1.Kind),(76,.bool P1)] a∧St w0 Nil [H] [bk C0 [i6 p1.Kind,i6 p1.A,i6 p1.B,SL J0 p1.E F0,SL K0 p1.F G0,i6 p1.To] 85,bk D0 [i6 p4.Regs,i6 p4.Counts,SL M0 p4.L I0] 26] w) ?_ ?_
 rcases bip hm with ⟨j0,hm⟩ | ⟨j0,hm⟩
 refine ctv o rfl j0<|wk<|tn<|?_
 exact ⟨(decide (p1.Kind=5)),hm,o.hs,u⟩
 refine cfv o rfl j0<|rg<|qv o (Aq o rfl rfl) λo=>qa o rfl λo=>re<|tn<|?_
 exact ⟨(decide (p1.Kind=6)),hm,o.hs,u⟩
 rintro a w ⟨P1,hm,o,u⟩
 unfold Z7b at hm
 rcases bit hm with ⟨n0,hm⟩ | ⟨n0,hm⟩
 refine ctv o rfl n0<|?_
 obtain ⟨F2,G2,hm⟩:=bs hm
 refine rg<|qv o (Ae o Ce rfl) λo=>qv o (Af o isAgg3 rfl (u.ld.cellB t0 rfl)) λo=>qm o rfl λo=>ls<|cr o call134 (Py (Ah _) G2) u λu o=>qa o rfl λo=>re<|bn<|tn<|?_
 exact ⟨F2,hm,o.hs,u⟩
 refine cfv o rfl n0<|th<|th<|rg<|qv o (Aq o rfl rfl) λo=>qa o rfl λo=>re<|tn<|Av (λa w=>∃ (Q1:Bool),(Z7c N (Z79 N p1 p4 A0) p1 p9) Q1=some r∧Fr 153 [(4,i6 p9),(5,PT C0),(6,PT D0),(11,i6 p1.Kind),(12,.bool A0),(13,.bool (decide (p1.B=0))),(14,.bool (((((decide (p1.Kind=1)) || (decide (p1.Kind=3))) || (decide (p1.Kind=4))) || (decide (p1.Kind=12))) || (decide (p1.Kind=15)))),(67,i6 p1.Kind),(83,.bool Q1)] a∧St w0 Nil [H] [bk C0 [i6 p1.Kind,i6 p1.A,i6 p1.B,SL J0 p1.E F0,SL K0 p1.F G0,i6 p1.To] 85,bk D0 [i6 p4.Regs,i6 p4.Counts,SL M0 p4.L I0] 26] w) ?_ ?_
 rcases bip hm with ⟨u0,hm⟩ | ⟨u0,hm⟩
 refine ctv o rfl u0<|wk<|tn<|?_
 exact ⟨(decide (p1.Kind=9)),hm,o.hs,u⟩
 refine cfv o rfl u0<|rg<|qv o (Aq o rfl rfl) λo=>qa o rfl λo=>re<|tn<|?_
 exact ⟨(decide (p1.Kind=10)),hm,o.hs,u⟩
 rintro a w ⟨Q1,hm,o,u⟩
 unfold Z7c at hm
 rcases bit hm with ⟨B1,hm⟩ | ⟨B1,hm⟩
 refine ctv o rfl B1<|?_
 obtain ⟨I2,J2,hm⟩:=bs hm
 refine rg<|qv o (Ae o Ce rfl) λo=>qv o (Af o isAgg3 rfl (u.ld.cellB t0 rfl)) λo=>qm o rfl λo=>ls<|cr o call134 (Py (Ah _) J2) u λu o=>qa o rfl λo=>re<|bn<|tn<|?_
 exact ⟨I2,hm,o.hs,u⟩
 refine cfv o rfl B1<|th<|rg<|qv o (Aq o rfl rfl) λo=>qa o rfl λo=>re<|?_
 rcases bip hm with ⟨C1,hm⟩ | ⟨C1,hm⟩
 refine tn<|ctv o rfl C1<|rg<|qv o (Ae o Ce rfl) λo=>qv o (Af o isAgg3 rfl (u.ld.cellB t0 rfl)) λo=>qv o (Bo o rfl rfl) λo=>qm o rfl λo=>gr (Fk:=[(5,PT C0),(6,PT D0),(11,i6 p1.Kind),(12,.bool A0),(14,.bool (((((decide (p1.Kind=1)) || (decide (p1.Kind=3))) || (decide (p1.Kind=4))) || (decide (p1.Kind=12))) || (decide (p1.Kind=15)))),(99,.bool ((decide (1≤p1.B)) && (decide (p1.B≤8))))]) 95 4 o u ?_ ?_ ?_
 intro hb o key
 exact qg o (Ae o Ce rfl) λo=>qg o (Af o isAgg3 rfl (u.ld.cellB t0 rfl)) λo=>qg o (Dt o rfl rfl) λo=>qk o (Ac o rfl rfl) key u hb
 intro hb o key
 iterate 3 refine qn o λo=>?_
 exact qk o (Ad o rfl rfl) key u hb
 intro a w o u
 refine qa o rfl λo=>re<|bn<|tn<|?_
 exact ⟨((decide (1≤p1.B)) && (decide (p1.B≤8))),hm,o.hs,u⟩
 refine tn<|cfv o rfl C1<|wk<|bn<|tn<|?_
 exact ⟨(decide (p1.B=0)),hm,o.hs,u⟩
 rintro a w ⟨E0,hm,o,u⟩
 unfold Z79 at hm
 refine th<|th<|Av (λa w=>∃ (R1:Bool),(Z7d p1 A0 E0) R1=some r∧Fr 153 [(11,i6 p1.Kind),(12,.bool A0),(13,.bool E0),(140,.bool R1)] a∧St w0 Nil [H] [] w) ?_ ?_
 rcases bit hm with ⟨O0,hm⟩ | ⟨O0,hm⟩
 obtain ⟨S1,T1,hm⟩:=bs hm
 rcases bit hm with ⟨P0,hm⟩ | ⟨P0,hm⟩
 refine rg<|qm o rfl λo=>qv o (Ax (Ab o rfl) (congrArg Value.bool O0)) λo=>qg o (Ae o Cv rfl) λo=>qg o (Af o isAgg54 rfl (u.ld.cellB t0 rfl)) λo=>qg o (Ae o Cz rfl) λo=>qg o (Af o isAgg3 rfl (u.ld.cellB t1 rfl)) λo=>ls<|gy o rfl rfl<|cr o call71 (Nt (Ah _) S0 (St.srH u T0) T1) u λu o=>qg o (A9 o rfl) λo=>qv o (Ac o rfl rfl) λo=>qm o rfl λo=>gr (Fk:=[(5,PT C0),(6,PT D0),(11,i6 p1.Kind),(12,.bool A0),(13,.bool E0),(118,.bool ((!S1) || ((!(((((decide (p1.Kind=1)) || (decide (p1.Kind=3))) || (decide (p1.Kind=4))) || (decide (p1.Kind=12))) || (decide (p1.Kind=15)))) && (decide (0 < (p1.E.length:Int))))))]) 109 9 o u ?_ ?_ ?_
 intro hb o key
 iterate 3 refine qn o λo=>?_
 iterate 4 refine ls<|gnu o rfl rfl rfl λa o=>?_
 exact qn o λo=>qk o (Ac o rfl rfl) key u hb
 intro hb o key
 refine qg o (Ab o rfl) λo=>qg o (A9 o rfl) λo=>qg o (Ab o rfl) λo=>gr (Fk:=[(5,PT C0),(6,PT D0),(11,i6 p1.Kind),(12,.bool A0),(13,.bool E0),(109,.bool false),(117,.bool ((!(((((decide (p1.Kind=1)) || (decide (p1.Kind=3))) || (decide (p1.Kind=4))) || (decide (p1.Kind=12))) || (decide (p1.Kind=15)))) && (decide (0 < (p1.E.length:Int)))))]) 112 5 o u ?_ ?_ ?_
 intro hb o key
 exact qg o (Ae o Cv rfl) λo=>qg o (Af o isAgg54 rfl (u.ld.cellB t0 rfl)) λo=>qg o (Aj (α:=api_Op) (xs:=p1.E) o runUnderlying54 rfl) λo=>qg o (Ba o rfl rfl) λo=>ql o (Ac o rfl rfl) key u hb
 intro hb o key
 iterate 4 refine qn o λo=>?_
 exact ql o (Ad o rfl rfl) key u hb
 intro a w o u
 exact qk o (Ad o rfl rfl) key u hb
 intro a w o u
 refine qv o (Ax (Ab o rfl) (congrArg Value.bool P0)) λo=>?_
 iterate 3 refine qn o λo=>?_
 iterate 6 refine ls<|gnu o rfl rfl rfl λa o=>?_
 refine qn o λo=>qv o (Ac o rfl rfl) λo=>qm o rfl λo=>?_
 iterate 3 refine qn o λo=>?_
 iterate 4 refine ls<|gnu o rfl rfl rfl λa o=>?_
 refine qn o λo=>qv o (Ac o rfl rfl) λo=>re<|tn<|?_
 replace u:=u.pickL .nil
 exact ⟨true,hm,o.hs,u⟩
 rcases bip hm with ⟨D1,hm⟩ | ⟨D1,hm⟩
 obtain ⟨U1,K2,hm⟩:=bs hm
 refine rg<|qm o rfl λo=>qv o (Ax (Ab o rfl) (congrArg Value.bool O0)) λo=>qg o (Ae o Cv rfl) λo=>qg o (Af o isAgg54 rfl (u.ld.cellB t0 rfl)) λo=>qg o (Ae o Cz rfl) λo=>qg o (Af o isAgg3 rfl (u.ld.cellB t1 rfl)) λo=>ls<|gy o rfl rfl<|cr o call71 (Nt (Ah _) S0 (St.srH u T0) T1) u λu o=>qg o (A9 o rfl) λo=>qv o (Ac o rfl rfl) λo=>qm o rfl λo=>gr (Fk:=[(5,PT C0),(6,PT D0),(11,i6 p1.Kind),(12,.bool A0),(13,.bool E0),(118,.bool ((!S1) || ((!(((((decide (p1.Kind=1)) || (decide (p1.Kind=3))) || (decide (p1.Kind=4))) || (decide (p1.Kind=12))) || (decide (p1.Kind=15)))) && (decide (0 < (p1.E.length:Int))))))]) 109 9 o u ?_ ?_ ?_
 intro hb o key
 iterate 3 refine qn o λo=>?_
 iterate 4 refine ls<|gnu o rfl rfl rfl λa o=>?_
 exact qn o λo=>qk o (Ac o rfl rfl) key u hb
 intro hb o key
 refine qg o (Ab o rfl) λo=>qg o (A9 o rfl) λo=>qg o (Ab o rfl) λo=>gr (Fk:=[(5,PT C0),(6,PT D0),(11,i6 p1.Kind),(12,.bool A0),(13,.bool E0),(109,.bool false),(117,.bool ((!(((((decide (p1.Kind=1)) || (decide (p1.Kind=3))) || (decide (p1.Kind=4))) || (decide (p1.Kind=12))) || (decide (p1.Kind=15)))) && (decide (0 < (p1.E.length:Int)))))]) 112 5 o u ?_ ?_ ?_
 intro hb o key
 exact qg o (Ae o Cv rfl) λo=>qg o (Af o isAgg54 rfl (u.ld.cellB t0 rfl)) λo=>qg o (Aj (α:=api_Op) (xs:=p1.E) o runUnderlying54 rfl) λo=>qg o (Ba o rfl rfl) λo=>ql o (Ac o rfl rfl) key u hb
 intro hb o key
 iterate 4 refine qn o λo=>?_
 exact ql o (Ad o rfl rfl) key u hb
 intro a w o u
 exact qk o (Ad o rfl rfl) key u hb
 intro a w o u
 refine qv o (Ax (Ab o rfl) (congrArg Value.bool P0)) λo=>qg o (Ab o rfl) λo=>qg o (Aq o rfl rfl) λo=>qg o (Ax (Ab o rfl) (congrArg Value.bool D1)) λo=>qg o (Ae o Dv rfl) λo=>qg o (Af o isAgg54 rfl (u.ld.cellB t0 rfl)) λo=>qg o (Ae o Cz rfl) λo=>qg o (Af o isAgg3 rfl (u.ld.cellB t1 rfl)) λo=>ls<|gy o rfl rfl<|cr o call71 (Nt (Ah _) I1 (St.srH u J1) K2) u λu o=>qg o (A9 o rfl) λo=>qg o (Ac o rfl rfl) λo=>qv o (Ad o rfl rfl) λo=>qm o rfl λo=>gr (Fk:=[(11,i6 p1.Kind),(12,.bool A0),(13,.bool E0),(140,.bool ((!U1) || ((decide (p1.Kind≠4)) && (decide (0 < (p1.F.length:Int))))))]) 131 9 o u ?_ ?_ ?_
 intro hb o key
 iterate 3 refine qn o λo=>?_
 iterate 4 refine ls<|gnu o rfl rfl rfl λa o=>?_
 exact qn o λo=>qk o (Ac o rfl rfl) key u hb
 intro hb o key
 refine qg o (Ab o rfl) λo=>qg o (Bh o rfl rfl) λo=>qg o (Ab o rfl) λo=>gr (Fk:=[(11,i6 p1.Kind),(12,.bool A0),(13,.bool E0),(131,.bool false),(139,.bool ((decide (p1.Kind≠4)) && (decide (0 < (p1.F.length:Int)))))]) 134 5 o u ?_ ?_ ?_
 intro hb o key
 exact qg o (Ae o Dv rfl) λo=>qg o (Af o isAgg54 rfl (u.ld.cellB t0 rfl)) λo=>qg o (Aj (α:=api_Op) (xs:=p1.F) o runUnderlying54 rfl) λo=>qg o (Ba o rfl rfl) λo=>ql o (Ac o rfl rfl) key u hb
 intro hb o key
 iterate 4 refine qn o λo=>?_
 exact ql o (Ad o rfl rfl) key u hb
 intro a w o u
 exact qk o (Ad o rfl rfl) key u hb
 intro a w o u
 refine re<|tn<|?_
 replace u:=u.pickL .nil
 exact ⟨((!U1) || ((decide (p1.Kind≠4)) && (decide (0 < (p1.F.length:Int))))),hm,o.hs,u⟩
 refine rg<|qm o rfl λo=>qv o (Ax (Ab o rfl) (congrArg Value.bool O0)) λo=>qg o (Ae o Cv rfl) λo=>qg o (Af o isAgg54 rfl (u.ld.cellB t0 rfl)) λo=>qg o (Ae o Cz rfl) λo=>qg o (Af o isAgg3 rfl (u.ld.cellB t1 rfl)) λo=>ls<|gy o rfl rfl<|cr o call71 (Nt (Ah _) S0 (St.srH u T0) T1) u λu o=>qg o (A9 o rfl) λo=>qv o (Ac o rfl rfl) λo=>qm o rfl λo=>gr (Fk:=[(5,PT C0),(6,PT D0),(11,i6 p1.Kind),(12,.bool A0),(13,.bool E0),(118,.bool ((!S1) || ((!(((((decide (p1.Kind=1)) || (decide (p1.Kind=3))) || (decide (p1.Kind=4))) || (decide (p1.Kind=12))) || (decide (p1.Kind=15)))) && (decide (0 < (p1.E.length:Int))))))]) 109 9 o u ?_ ?_ ?_
 intro hb o key
 iterate 3 refine qn o λo=>?_
 iterate 4 refine ls<|gnu o rfl rfl rfl λa o=>?_
 exact qn o λo=>qk o (Ac o rfl rfl) key u hb
 intro hb o key
 refine qg o (Ab o rfl) λo=>qg o (A9 o rfl) λo=>qg o (Ab o rfl) λo=>gr (Fk:=[(5,PT C0),(6,PT D0),(11,i6 p1.Kind),(12,.bool A0),(13,.bool E0),(109,.bool false),(117,.bool ((!(((((decide (p1.Kind=1)) || (decide (p1.Kind=3))) || (decide (p1.Kind=4))) || (decide (p1.Kind=12))) || (decide (p1.Kind=15)))) && (decide (0 < (p1.E.length:Int)))))]) 112 5 o u ?_ ?_ ?_
 intro hb o key
 exact qg o (Ae o Cv rfl) λo=>qg o (Af o isAgg54 rfl (u.ld.cellB t0 rfl)) λo=>qg o (Aj (α:=api_Op) (xs:=p1.E) o runUnderlying54 rfl) λo=>qg o (Ba o rfl rfl) λo=>ql o (Ac o rfl rfl) key u hb
 intro hb o key
 iterate 4 refine qn o λo=>?_
 exact ql o (Ad o rfl rfl) key u hb
 intro a w o u
 exact qk o (Ad o rfl rfl) key u hb
 intro a w o u
 refine qv o (Ax (Ab o rfl) (congrArg Value.bool P0)) λo=>qg o (Ab o rfl) λo=>qg o (Aq o rfl rfl) λo=>qg o (Ax (Ab o rfl) (congrArg Value.bool D1)) λo=>?_
 iterate 6 refine qn o λo=>?_
 refine qg o (Ad o rfl rfl) λo=>qv o (Ad o rfl rfl) λo=>qm o rfl λo=>qg o (Ab o rfl) λo=>qg o (Bh o rfl rfl) λo=>qg o (Ab o rfl) λo=>gr (Fk:=[(11,i6 p1.Kind),(12,.bool A0),(13,.bool E0),(131,.bool false),(139,.bool ((decide (p1.Kind≠4)) && (decide (0 < (p1.F.length:Int)))))]) 134 5 o u ?_ ?_ ?_
 intro hb o key
 exact qg o (Ae o Dv rfl) λo=>qg o (Af o isAgg54 rfl (u.ld.cellB t0 rfl)) λo=>qg o (Aj (α:=api_Op) (xs:=p1.F) o runUnderlying54 rfl) λo=>qg o (Ba o rfl rfl) λo=>ql o (Ac o rfl rfl) key u hb
 intro hb o key
 iterate 4 refine qn o λo=>?_
 exact ql o (Ad o rfl rfl) key u hb
 intro a w o u
 refine qv o (Ad o rfl rfl) λo=>re<|tn<|?_
 replace u:=u.pickL .nil
 exact ⟨((decide (p1.Kind≠4)) && (decide (0 < (p1.F.length:Int)))),hm,o.hs,u⟩
 rcases bit hm with ⟨Q0,hm⟩ | ⟨Q0,hm⟩
 refine rg<|qm o rfl λo=>qv o (Ax (Ab o rfl) (congrArg Value.bool O0)) λo=>?_
 iterate 6 refine qn o λo=>?_
 refine qv o (Ad o rfl rfl) λo=>qm o rfl λo=>qg o (Ab o rfl) λo=>qg o (A9 o rfl) λo=>qg o (Ab o rfl) λo=>gr (Fk:=[(5,PT C0),(6,PT D0),(11,i6 p1.Kind),(12,.bool A0),(13,.bool E0),(109,.bool false),(117,.bool ((!(((((decide (p1.Kind=1)) || (decide (p1.Kind=3))) || (decide (p1.Kind=4))) || (decide (p1.Kind=12))) || (decide (p1.Kind=15)))) && (decide (0 < (p1.E.length:Int)))))]) 112 5 o u ?_ ?_ ?_
 intro hb o key
 exact qg o (Ae o Cv rfl) λo=>qg o (Af o isAgg54 rfl (u.ld.cellB t0 rfl)) λo=>qg o (Aj (α:=api_Op) (xs:=p1.E) o runUnderlying54 rfl) λo=>qg o (Ba o rfl rfl) λo=>ql o (Ac o rfl rfl) key u hb
 intro hb o key
 iterate 4 refine qn o λo=>?_
 exact ql o (Ad o rfl rfl) key u hb
 intro a w o u
 refine qv o (Ad o rfl rfl) λo=>qv o (Ax (Ab o rfl) (congrArg Value.bool Q0)) λo=>?_
 iterate 3 refine qn o λo=>?_
 iterate 6 refine ls<|gnu o rfl rfl rfl λa o=>?_
 refine qn o λo=>qv o (Ac o rfl rfl) λo=>qm o rfl λo=>?_
 iterate 3 refine qn o λo=>?_
 iterate 4 refine ls<|gnu o rfl rfl rfl λa o=>?_
 refine qn o λo=>qv o (Ac o rfl rfl) λo=>re<|tn<|?_
 replace u:=u.pickL .nil
 exact ⟨true,hm,o.hs,u⟩
 rcases bip hm with ⟨E1,hm⟩ | ⟨E1,hm⟩
 obtain ⟨V1,O2,hm⟩:=bs hm
 refine rg<|qm o rfl λo=>qv o (Ax (Ab o rfl) (congrArg Value.bool O0)) λo=>?_
 iterate 6 refine qn o λo=>?_
 refine qv o (Ad o rfl rfl) λo=>qm o rfl λo=>qg o (Ab o rfl) λo=>qg o (A9 o rfl) λo=>qg o (Ab o rfl) λo=>gr (Fk:=[(5,PT C0),(6,PT D0),(11,i6 p1.Kind),(12,.bool A0),(13,.bool E0),(109,.bool false),(117,.bool ((!(((((decide (p1.Kind=1)) || (decide (p1.Kind=3))) || (decide (p1.Kind=4))) || (decide (p1.Kind=12))) || (decide (p1.Kind=15)))) && (decide (0 < (p1.E.length:Int)))))]) 112 5 o u ?_ ?_ ?_
 intro hb o key
 exact qg o (Ae o Cv rfl) λo=>qg o (Af o isAgg54 rfl (u.ld.cellB t0 rfl)) λo=>qg o (Aj (α:=api_Op) (xs:=p1.E) o runUnderlying54 rfl) λo=>qg o (Ba o rfl rfl) λo=>ql o (Ac o rfl rfl) key u hb
 intro hb o key
 iterate 4 refine qn o λo=>?_
 exact ql o (Ad o rfl rfl) key u hb
 intro a w o u
 refine qv o (Ad o rfl rfl) λo=>qv o (Ax (Ab o rfl) (congrArg Value.bool Q0)) λo=>qg o (Ab o rfl) λo=>qg o (Aq o rfl rfl) λo=>qg o (Ax (Ab o rfl) (congrArg Value.bool E1)) λo=>qg o (Ae o Dv rfl) λo=>qg o (Af o isAgg54 rfl (u.ld.cellB t0 rfl)) λo=>qg o (Ae o Cz rfl) λo=>qg o (Af o isAgg3 rfl (u.ld.cellB t1 rfl)) λo=>ls<|gy o rfl rfl<|cr o call71 (Nt (Ah _) I1 (St.srH u J1) O2) u λu o=>qg o (A9 o rfl) λo=>qg o (Ac o rfl rfl) λo=>qv o (Ad o rfl rfl) λo=>qm o rfl λo=>gr (Fk:=[(11,i6 p1.Kind),(12,.bool A0),(13,.bool E0),(140,.bool ((!V1) || ((decide (p1.Kind≠4)) && (decide (0 < (p1.F.length:Int))))))]) 131 9 o u ?_ ?_ ?_
 intro hb o key
 iterate 3 refine qn o λo=>?_
 iterate 4 refine ls<|gnu o rfl rfl rfl λa o=>?_
 exact qn o λo=>qk o (Ac o rfl rfl) key u hb
 intro hb o key
 refine qg o (Ab o rfl) λo=>qg o (Bh o rfl rfl) λo=>qg o (Ab o rfl) λo=>gr (Fk:=[(11,i6 p1.Kind),(12,.bool A0),(13,.bool E0),(131,.bool false),(139,.bool ((decide (p1.Kind≠4)) && (decide (0 < (p1.F.length:Int)))))]) 134 5 o u ?_ ?_ ?_
 intro hb o key
 exact qg o (Ae o Dv rfl) λo=>qg o (Af o isAgg54 rfl (u.ld.cellB t0 rfl)) λo=>qg o (Aj (α:=api_Op) (xs:=p1.F) o runUnderlying54 rfl) λo=>qg o (Ba o rfl rfl) λo=>ql o (Ac o rfl rfl) key u hb
 intro hb o key
 iterate 4 refine qn o λo=>?_
 exact ql o (Ad o rfl rfl) key u hb
 intro a w o u
 exact qk o (Ad o rfl rfl) key u hb
 intro a w o u
 refine re<|tn<|?_
 replace u:=u.pickL .nil
 exact ⟨((!V1) || ((decide (p1.Kind≠4)) && (decide (0 < (p1.F.length:Int))))),hm,o.hs,u⟩
 refine rg<|qm o rfl λo=>qv o (Ax (Ab o rfl) (congrArg Value.bool O0)) λo=>?_
 iterate 6 refine qn o λo=>?_
 refine qv o (Ad o rfl rfl) λo=>qm o rfl λo=>qg o (Ab o rfl) λo=>qg o (A9 o rfl) λo=>qg o (Ab o rfl) λo=>gr (Fk:=[(5,PT C0),(6,PT D0),(11,i6 p1.Kind),(12,.bool A0),(13,.bool E0),(109,.bool false),(117,.bool ((!(((((decide (p1.Kind=1)) || (decide (p1.Kind=3))) || (decide (p1.Kind=4))) || (decide (p1.Kind=12))) || (decide (p1.Kind=15)))) && (decide (0 < (p1.E.length:Int)))))]) 112 5 o u ?_ ?_ ?_
 intro hb o key
 exact qg o (Ae o Cv rfl) λo=>qg o (Af o isAgg54 rfl (u.ld.cellB t0 rfl)) λo=>qg o (Aj (α:=api_Op) (xs:=p1.E) o runUnderlying54 rfl) λo=>qg o (Ba o rfl rfl) λo=>ql o (Ac o rfl rfl) key u hb
 intro hb o key
 iterate 4 refine qn o λo=>?_
 exact ql o (Ad o rfl rfl) key u hb
 intro a w o u
 refine qv o (Ad o rfl rfl) λo=>qv o (Ax (Ab o rfl) (congrArg Value.bool Q0)) λo=>qg o (Ab o rfl) λo=>qg o (Aq o rfl rfl) λo=>qg o (Ax (Ab o rfl) (congrArg Value.bool E1)) λo=>?_
 iterate 6 refine qn o λo=>?_
 refine qg o (Ad o rfl rfl) λo=>qv o (Ad o rfl rfl) λo=>qm o rfl λo=>qg o (Ab o rfl) λo=>qg o (Bh o rfl rfl) λo=>qg o (Ab o rfl) λo=>gr (Fk:=[(11,i6 p1.Kind),(12,.bool A0),(13,.bool E0),(131,.bool false),(139,.bool ((decide (p1.Kind≠4)) && (decide (0 < (p1.F.length:Int)))))]) 134 5 o u ?_ ?_ ?_
 intro hb o key
 exact qg o (Ae o Dv rfl) λo=>qg o (Af o isAgg54 rfl (u.ld.cellB t0 rfl)) λo=>qg o (Aj (α:=api_Op) (xs:=p1.F) o runUnderlying54 rfl) λo=>qg o (Ba o rfl rfl) λo=>ql o (Ac o rfl rfl) key u hb
 intro hb o key
 iterate 4 refine qn o λo=>?_
 exact ql o (Ad o rfl rfl) key u hb
 intro a w o u
 refine qv o (Ad o rfl rfl) λo=>re<|tn<|?_
 replace u:=u.pickL .nil
 exact ⟨((decide (p1.Kind≠4)) && (decide (0 < (p1.F.length:Int)))),hm,o.hs,u⟩
 rintro a w ⟨R1,hm,o,u⟩
 unfold Z7d at hm
 rcases bit hm with ⟨F1,hm⟩ | ⟨F1,hm⟩
 refine ctv o rfl F1<|th<|rg<|qa o rfl λo=>re<|tn<|wr<|tr<|?_
 obtain rfl:=si hm
 exact r1 o results112 rfl ⟨rfl,u.keep⟩
 refine cfv o rfl F1<|wk<|tn<|th<|rg<|qm o rfl λo=>qv o (Bo o rfl rfl) λo=>qm o rfl λo=>gr (Fk:=[(12,.bool A0),(13,.bool E0),(146,.bool ((decide (1≤p1.Kind)) && (decide (p1.Kind≤15))))]) 143 3 o u ?_ ?_ ?_
 intro hb o key
 exact qg o (Ab o rfl) λo=>qg o (Dt o rfl rfl) λo=>qk o (Ac o rfl rfl) key u hb
 intro hb o key
 iterate 2 refine qn o λo=>?_
 exact qk o (Ad o rfl rfl) key u hb
 intro a w o u
 refine qm o rfl λo=>gr (Fk:=[(13,.bool E0),(149,.bool (((decide (1≤p1.Kind)) && (decide (p1.Kind≤15))) && A0))]) 147 2 o u ?_ ?_ ?_
 intro hb o key
 exact qg o (Ab o rfl) λo=>qk o (Ac o rfl rfl) key u hb
 intro hb o key
 exact qn o λo=>qk o (Ad o rfl rfl) key u hb
 intro a w o u
 refine qm o rfl λo=>gr (Fk:=[(152,.bool ((((decide (1≤p1.Kind)) && (decide (p1.Kind≤15))) && A0) && E0))]) 150 2 o u ?_ ?_ ?_
 intro hb o key
 exact qg o (Ab o rfl) λo=>qk o (Ac o rfl rfl) key u hb
 intro hb o key
 exact qn o λo=>qk o (Ad o rfl rfl) key u hb
 intro a w o u
 refine qa o rfl λo=>re<|tn<|wr<|?_
 obtain rfl:=si hm
 exact r1 o results112 rfl ⟨rfl,u.keep⟩
set_option maxHeartbeats 4000000 in
theorem Jcp (hH:H.le w0) {D0:Option Addr} {C0:Nat} {p1:(List api_Instr)} (J2:p1.length≤C0) (G0:SR H D0 p1) {p6:Int} {r:Bool} (hm:Z7o N p1 p6=some r):Tot Tryz.prog 113 #[SL D0 p1 C0,i6 p6] w0 (λv w'=>v=.bool r∧Keep Nil w0 w'):=by
 unfold Z7o at hm
 refine fn0 func113 rfl ntmps113 rfl rfl λa o=>?_
 have u:St w0 Nil [H] [] w0:=start1 hH
 refine th<|rg<|qa o rfl λo=>re<|tn<|th<|?_
 obtain ⟨A0,h8,hm⟩:=bs hm
 obtain ⟨cz9,C1,B1⟩:=SR.get G0 h8
 obtain ⟨X0,V0,Y0,W0,rfl,P1,Q1,R1,S1⟩:=Au C1
 refine rg<|qm o rfl λo=>qm o rfl λo=>qv o (Al o runUnderlying24 sizeOf85 rfl rfl h8 (SR.oaI G0 (by decide) h8)) λo=>qv o (Ar o isAgg85 sizeOf85 rfl rfl (λj v hj=>PH.le.cell (Lds.le u.ld) (B1 j v hj))) λo=>ls<|As (cs:=[i6 0,i6 0,i6 0,.slice none 0 0,.slice none 0 0,i6 0].toArray) o rfl u zeroValue85 rfl λE0 w a u o=>ls<|Bb o u sizeOf85 rfl rfl rfl rfl (Ao rfl) .head λw u=>re<|tn<|th<|th<|rg<|qv o (Ae o Ca rfl) λo=>qv o (Af o isAgg3 rfl (u.ld.cellB t0 rfl)) λo=>qv o (Aq o rfl rfl) λo=>qm o rfl λo=>gr (Fk:=[(0,SL D0 p1 C0),(1,i6 p6),(5,PT E0),(18,.bool ((decide (A0.Kind=11)) || (decide (A0.Kind=12))))]) 14 4 o u ?_ ?_ ?_
 intro hb o key
 iterate 3 refine qn o λo=>?_
 exact qk o (Ac o rfl rfl) key u hb
 intro hb o key
 exact qg o (Ae o Ca rfl) λo=>qg o (Af o isAgg3 rfl (u.ld.cellB t0 rfl)) λo=>qg o (Aq o rfl rfl) λo=>qk o (Ad o rfl rfl) key u hb
 intro a w o u
 refine re<|?_
 rcases bit hm with ⟨P0,hm⟩ | ⟨P0,hm⟩
 refine tn<|ctv o rfl P0<|th<|rg<|qv o (Ae o Bq rfl) λo=>qv o (Af o isAgg3 rfl (u.ld.cellB t0 rfl)) λo=>qm o rfl λo=>qv o (Ba o rfl rfl) λo=>qm o rfl λo=>gr (Fk:=[(29,.bool ((decide (p6 < A0.To)) && (decide (A0.To≤(p1.length:Int)))))]) 23 6 o u ?_ ?_ ?_
 intro hb o key
 exact qg o (Ae o Bq rfl) λo=>qg o (Af o isAgg3 rfl (u.ld.cellB t0 rfl)) λo=>qg o (Ab o rfl) λo=>qg o (Aj (α:=api_Instr) (xs:=p1) o runUnderlying24 rfl) λo=>qg o (Dt o rfl rfl) λo=>qk o (Ac o rfl rfl) key u hb
 intro hb o key
 iterate 5 refine qn o λo=>?_
 exact qk o (Ad o rfl rfl) key u hb
 intro a w o u
 refine qa o rfl λo=>re<|tn<|wr<|tr<|?_
 obtain rfl:=si hm
 exact r1 o results113 rfl ⟨rfl,u.keep⟩
 refine tn<|cfv o rfl P0<|wk<|tn<|th<|th<|rg<|qv o (Ae o Ca rfl) λo=>qv o (Af o isAgg3 rfl (u.ld.cellB t0 rfl)) λo=>qv o (Bh o rfl rfl) λo=>re<|?_
 rcases bip hm with ⟨Q0,hm⟩ | ⟨Q0,hm⟩
 refine tn<|ctv o rfl Q0<|th<|rg<|qv o (Ae o Bq rfl) λo=>qv o (Af o isAgg3 rfl (u.ld.cellB t0 rfl)) λo=>qv o (Aq o rfl rfl) λo=>qa o rfl λo=>re<|tn<|wr<|tr<|?_
 obtain rfl:=si hm
 exact r1 o results113 rfl ⟨rfl,u.keep⟩
 refine tn<|cfv o rfl Q0<|wk<|tn<|th<|th<|Av (λa w=>∃ (j0:Bool),(Z7p N p1 p6 A0) j0=some r∧Fr 90 [(0,SL D0 p1 C0),(1,i6 p6),(5,PT E0),(66,.bool j0)] a∧St w0 Nil [H] [bk E0 [i6 A0.Kind,i6 A0.A,i6 A0.B,SL X0 A0.E V0,SL Y0 A0.F W0,i6 A0.To] 85] w) ?_ ?_
 rcases bit hm with ⟨R0,hm⟩ | ⟨R0,hm⟩
 refine rxS 31 u wide (by kernel_rfl) λw u=>xr u o (Ae o Bq rfl) λo=>xq u.ld o (λw hl=>Af o isAgg3 rfl (hl.cellB t0 rfl)) λo=>xr u o (Ak o rfl rfl) λo=>xm u o rfl λo=>Tf (N:=90) (Fk:=[(0,SL D0 p1 C0),(1,i6 p6),(5,PT E0),(44,.bool ((decide (A0.To < 1)) || (decide (p6 < A0.To))))]) (b:=(decide (A0.To < 1))) 5 u ?_ ?_ ?_
 intro hb key
 replace o:=Fr.as o (t:=39) rfl (congrArg Value.bool hb)
 iterate 4 refine xn u.ld o λo=>?_
 refine xr u o (Ax (v':=.bool ((decide (A0.To < 1)) || (decide (p6 < A0.To)))) (Ac o rfl rfl) (by rw [hb];rfl)) λo=>?_
 exact key _ _ (o.hs) u
 intro hb key
 replace o:=Fr.as o (t:=39) rfl (congrArg Value.bool hb)
 refine xg u.ld o (λw hl=>Ae o Bq rfl) λo=>xg u.ld o (λw hl=>Af o isAgg3 rfl (hl.cellB t0 rfl)) λo=>xg u.ld o (λw hl=>Ab o rfl) λo=>xg u.ld o (λw hl=>Ba o rfl rfl) λo=>xr u o (Ax (v':=.bool ((decide (A0.To < 1)) || (decide (p6 < A0.To)))) (Ad o rfl rfl) (by rw [hb];rfl)) λo=>?_
 exact key _ _ (o.hs) u
 intro a w o u
 refine xr u o (Ax (Ab o rfl) (congrArg Value.bool R0)) λo=>?_
 iterate 8 refine xn u.ld o λo=>?_
 refine xr u o (Ac o rfl rfl) λo=>xm u o rfl λo=>?_
 iterate 10 refine xn u.ld o λo=>?_
 refine xr u o (Ac o rfl rfl) λo=>xe<|tn<|?_
 exact ⟨true,hm,o.hs,u⟩
 obtain ⟨F0,J0,hm⟩:=bs hm
 obtain ⟨K2,D1,n0⟩:=SR.get G0 J0
 obtain ⟨T1,F1,U1,I1,rfl,V1,X1,Y1,u1⟩:=Au D1
 refine rxS 31 u wide (by kernel_rfl) λw u=>xr u o (Ae o Bq rfl) λo=>xq u.ld o (λw hl=>Af o isAgg3 rfl (hl.cellB t0 rfl)) λo=>xr u o (Ak o rfl rfl) λo=>xm u o rfl λo=>Tf (N:=90) (Fk:=[(0,SL D0 p1 C0),(1,i6 p6),(5,PT E0),(44,.bool ((decide (A0.To < 1)) || (decide (p6 < A0.To))))]) (b:=(decide (A0.To < 1))) 5 u ?_ ?_ ?_
 intro hb key
 replace o:=Fr.as o (t:=39) rfl (congrArg Value.bool hb)
 iterate 4 refine xn u.ld o λo=>?_
 refine xr u o (Ax (v':=.bool ((decide (A0.To < 1)) || (decide (p6 < A0.To)))) (Ac o rfl rfl) (by rw [hb];rfl)) λo=>?_
 exact key _ _ (o.hs) u
 intro hb key
 replace o:=Fr.as o (t:=39) rfl (congrArg Value.bool hb)
 refine xg u.ld o (λw hl=>Ae o Bq rfl) λo=>xg u.ld o (λw hl=>Af o isAgg3 rfl (hl.cellB t0 rfl)) λo=>xg u.ld o (λw hl=>Ab o rfl) λo=>xg u.ld o (λw hl=>Ba o rfl rfl) λo=>xr u o (Ax (v':=.bool ((decide (A0.To < 1)) || (decide (p6 < A0.To)))) (Ad o rfl rfl) (by rw [hb];rfl)) λo=>?_
 exact key _ _ (o.hs) u
 intro a w o u
 refine xr u o (Ax (Ab o rfl) (congrArg Value.bool R0)) λo=>xg u.ld o (λw hl=>Ab o rfl) λo=>xg u.ld o (λw hl=>Ae o Bq rfl) λo=>xg u.ld o (λw hl=>Af o isAgg3 rfl (hl.cellB t0 rfl)) λo=>xg u.ld o (λw hl=>En o rfl rfl) λo=>xg u.ld o (λw hl=>Al o runUnderlying24 sizeOf85 rfl rfl J0 (SR.oaI G0 (by decide) J0)) λo=>xg u.ld o (λw hl=>Ae o Ca rfl) λo=>xg u.ld o (λw hl=>Af o isAgg3 rfl (PH.le.cell (Lds.le hl) (n0 0 _ rfl))) λo=>xg u.ld o (λw hl=>Bh o rfl rfl) λo=>xr u o (Ad o rfl rfl) λo=>xm u o rfl λo=>Tf (N:=90) (Fk:=[(0,SL D0 p1 C0),(1,i6 p6),(5,PT E0),(66,.bool ((decide (F0.Kind≠13)) || (decide (F0.A≠A0.A))))]) (b:=(decide (F0.Kind≠13))) 11 u ?_ ?_ ?_
 intro hb key
 replace o:=Fr.as o (t:=55) rfl (congrArg Value.bool hb)
 iterate 10 refine xn u.ld o λo=>?_
 refine xr u o (Ax (v':=.bool ((decide (F0.Kind≠13)) || (decide (F0.A≠A0.A)))) (Ac o rfl rfl) (by rw [hb];rfl)) λo=>?_
 exact key _ _ (o.hs) u
 intro hb key
 replace o:=Fr.as o (t:=55) rfl (congrArg Value.bool hb)
 refine xg u.ld o (λw hl=>Ab o rfl) λo=>xg u.ld o (λw hl=>Ae o Bq rfl) λo=>xg u.ld o (λw hl=>Af o isAgg3 rfl (hl.cellB t0 rfl)) λo=>xg u.ld o (λw hl=>En o rfl rfl) λo=>xg u.ld o (λw hl=>Al o runUnderlying24 sizeOf85 rfl rfl J0 (SR.oaI G0 (by decide) J0)) λo=>xg u.ld o (λw hl=>Ae o Ck rfl) λo=>xg u.ld o (λw hl=>Af o isAgg3 rfl (PH.le.cell (Lds.le hl) (n0 1 _ rfl))) λo=>xg u.ld o (λw hl=>Ae o Ck rfl) λo=>xg u.ld o (λw hl=>Af o isAgg3 rfl (hl.cellB t0 rfl)) λo=>xg u.ld o (λw hl=>Bh o rfl rfl) λo=>xr u o (Ax (v':=.bool ((decide (F0.Kind≠13)) || (decide (F0.A≠A0.A)))) (Ad o rfl rfl) (by rw [hb];rfl)) λo=>?_
 exact key _ _ (o.hs) u
 intro a w o u
 refine xe<|tn<|?_
 exact ⟨((decide (F0.Kind≠13)) || (decide (F0.A≠A0.A))),hm,o.hs,u⟩
 rintro a w ⟨j0,hm,o,u⟩
 unfold Z7p at hm
 rcases bit hm with ⟨S0,hm⟩ | ⟨S0,hm⟩
 refine ctv o rfl S0<|th<|rg<|qa o rfl λo=>re<|tn<|wr<|tr<|?_
 obtain rfl:=si hm
 exact r1 o results113 rfl ⟨rfl,u.keep⟩
 refine cfv o rfl S0<|wk<|tn<|th<|th<|rg<|qv o (Ae o Bq rfl) λo=>qv o (Af o isAgg3 rfl (u.ld.cellB t0 rfl)) λo=>qa o rfl λo=>re<|tn<|Av (λa w=>Z7q=some r∧Fr 90 [] a∧St w0 Nil [H] [] w) ?_ ?_
 refine wb<|lp (α:=Nat×Int) (λgh a w=>match gh with | (K0,M0)=>(Z7r N Z7q p1 p6 A0) K0 M0=some r∧Fr 90 [(0,SL D0 p1 C0),(1,i6 p6),(5,PT E0),(6,i6 M0)] a∧St w0 Nil [H] [bk E0 [i6 A0.Kind,i6 A0.A,i6 A0.B,SL X0 A0.E V0,SL Y0 A0.F W0,i6 A0.To] 85] w) (λgh=>gh.1) (N,A0.To) ⟨hm,o.hs,u⟩ ?_
 rintro ⟨K0,M0⟩ a w ⟨hm,o,u⟩
 obtain _ | K0:=K0
 simp [Z7r] at hm
 rw [Z7r] at hm
 refine th<|th<|rg<|qm o rfl λo=>qm o rfl λo=>qv o (Ak o rfl rfl) λo=>re<|?_
 rcases bip hm with ⟨T0,hm⟩ | ⟨T0,hm⟩
 refine tn<|ctv o rfl T0<|wk<|tn<|th<|wb<|th<|?_
 obtain ⟨I0,O0,hm⟩:=bs hm
 obtain ⟨O2,E1,u0⟩:=SR.get G0 O0
 obtain ⟨B2,J1,C2,O1,rfl,E2,F2,G2,I2⟩:=Au E1
 refine rxS 16 u wide (by kernel_rfl) λw u=>?_
 iterate 2 refine xq u.ld o (λw hl=>Ab o rfl) λo=>?_
 refine xr u o (Al o runUnderlying24 sizeOf85 rfl rfl O0 (SR.oaI G0 (by decide) O0)) λo=>xr u o (Ae o Ca rfl) λo=>xq u.ld o (λw hl=>Af o isAgg3 rfl (PH.le.cell (Lds.le hl) (u0 0 _ rfl))) λo=>xr u o (Aq o rfl rfl) λo=>xm u o rfl λo=>Tf (N:=90) (Fk:=[(0,SL D0 p1 C0),(1,i6 p6),(5,PT E0),(6,i6 M0),(89,.bool ((decide (I0.Kind=13)) && (decide (I0.A=A0.A))))]) (b:=(decide (I0.Kind=13))) 9 u ?_ ?_ ?_
 intro hb key
 replace o:=Fr.as o (t:=80) rfl (congrArg Value.bool hb)
 iterate 2 refine xg u.ld o (λw hl=>Ab o rfl) λo=>?_
 refine xg u.ld o (λw hl=>Al o runUnderlying24 sizeOf85 rfl rfl O0 (SR.oaI G0 (by decide) O0)) λo=>xg u.ld o (λw hl=>Ae o Ck rfl) λo=>xg u.ld o (λw hl=>Af o isAgg3 rfl (PH.le.cell (Lds.le hl) (u0 1 _ rfl))) λo=>xg u.ld o (λw hl=>Ae o Ck rfl) λo=>xg u.ld o (λw hl=>Af o isAgg3 rfl (hl.cellB t0 rfl)) λo=>xg u.ld o (λw hl=>Aq o rfl rfl) λo=>xr u o (Ax (v':=.bool ((decide (I0.Kind=13)) && (decide (I0.A=A0.A)))) (Ac o rfl rfl) (by rw [hb];rfl)) λo=>?_
 exact key _ _ (o.hs) u
 intro hb key
 replace o:=Fr.as o (t:=80) rfl (congrArg Value.bool hb)
 iterate 8 refine xn u.ld o λo=>?_
 refine xr u o (Ax (v':=.bool ((decide (I0.Kind=13)) && (decide (I0.A=A0.A)))) (Ad o rfl rfl) (by rw [hb];rfl)) λo=>?_
 exact key _ _ (o.hs) u
 intro a w o u
 refine xe<|?_
 rcases bit hm with ⟨U0,hm⟩ | ⟨U0,hm⟩
 refine tn<|ctv o rfl U0<|th<|rg<|qa o rfl λo=>re<|tn<|wr<|br<|tr<|tr<|br<|tr<|?_
 obtain rfl:=si hm
 exact r1 o results113 rfl ⟨rfl,u.keep⟩
 refine tn<|cfv o rfl U0<|wk<|bn<|tn<|rg<|qm o rfl λo=>qv o (An o rfl rfl) λo=>qa o rfl λo=>re<|tn<|?_
 exact ⟨(K0,(IntKind.i64.wrap (M0+1))),⟨hm,o.hs,u⟩,Nat.lt_succ_self _⟩
 refine tn<|cfv o rfl T0<|we<|tx<|tx<|bx<|tn<|?_
 replace u:=u.pickL .nil
 exact ⟨hm,o.has trivial,u⟩
 rintro a w ⟨hm,o,u⟩
 unfold Z7q at hm
 refine th<|rg<|qa o rfl λo=>re<|tn<|wr<|?_
 obtain rfl:=si hm
 exact r1 o results113 rfl ⟨rfl,u.keep⟩
theorem Jd0 (hH:H.le w0) {p1:Int} {p2:Int} {p3:Int} {p4:Int} {r:Bool} (hm:Z73 N p1 p2 p3 p4=some r):Tot Tryz.prog 114 #[i6 p1,i6 p2,i6 p3,i6 p4] w0 (λv w'=>v=.bool r∧Keep Nil w0 w'):=by
 unfold Z73 at hm
 refine fn0 func114 rfl ntmps114 rfl rfl λa o=>?_
 have u:St w0 Nil [H] [] w0:=start1 hH
 refine th<|rg<|qa o rfl λo=>re<|tn<|th<|rg<|qm o rfl λo=>qm o rfl λo=>qv o (Bo o rfl rfl) λo=>qm o rfl λo=>gr (Fk:=[(0,i6 p1),(1,i6 p2),(2,i6 p3),(3,i6 p4),(16,.bool ((decide (p3≤p1)) && (decide (p2≤p4))))]) 12 4 o u ?_ ?_ ?_
 intro hb o key
 iterate 2 refine qg o (Ab o rfl) λo=>?_
 exact qg o (Dt o rfl rfl) λo=>qk o (Ac o rfl rfl) key u hb
 intro hb o key
 iterate 3 refine qn o λo=>?_
 exact qk o (Ad o rfl rfl) key u hb
 intro a w o u
 refine qm o rfl λo=>gr (Fk:=[(0,i6 p1),(1,i6 p2),(2,i6 p3),(3,i6 p4),(26,.bool (((decide (p3≤p1)) && (decide (p2≤p4))) || ((decide (p1≤p3)) && (decide (p4≤p2)))))]) 17 9 o u ?_ ?_ ?_
 intro hb o key
 iterate 4 refine qn o λo=>?_
 iterate 3 refine ls<|gnu o rfl rfl rfl λa o=>?_
 exact qn o λo=>qk o (Ac o rfl rfl) key u hb
 intro hb o key
 iterate 2 refine qg o (Ab o rfl) λo=>?_
 refine qg o (Bo o rfl rfl) λo=>qg o (Ab o rfl) λo=>gr (Fk:=[(0,i6 p1),(1,i6 p2),(2,i6 p3),(3,i6 p4),(17,.bool false),(25,.bool ((decide (p1≤p3)) && (decide (p4≤p2))))]) 21 4 o u ?_ ?_ ?_
 intro hb o key
 iterate 2 refine qg o (Ab o rfl) λo=>?_
 exact qg o (Dt o rfl rfl) λo=>ql o (Ac o rfl rfl) key u hb
 intro hb o key
 iterate 3 refine qn o λo=>?_
 exact ql o (Ad o rfl rfl) key u hb
 intro a w o u
 exact qk o (Ad o rfl rfl) key u hb
 intro a w o u
 refine qm o rfl λo=>gr (Fk:=[(0,i6 p1),(3,i6 p4),(31,.bool ((((decide (p3≤p1)) && (decide (p2≤p4))) || ((decide (p1≤p3)) && (decide (p4≤p2)))) || (decide (p2 < p3))))]) 27 4 o u ?_ ?_ ?_
 intro hb o key
 iterate 3 refine qn o λo=>?_
 exact qk o (Ac o rfl rfl) key u hb
 intro hb o key
 iterate 2 refine qg o (Ab o rfl) λo=>?_
 exact qg o (Ak o rfl rfl) λo=>qk o (Ad o rfl rfl) key u hb
 intro a w o u
 refine qm o rfl λo=>gr (Fk:=[(36,.bool (((((decide (p3≤p1)) && (decide (p2≤p4))) || ((decide (p1≤p3)) && (decide (p4≤p2)))) || (decide (p2 < p3))) || (decide (p4 < p1))))]) 32 4 o u ?_ ?_ ?_
 intro hb o key
 iterate 3 refine qn o λo=>?_
 exact qk o (Ac o rfl rfl) key u hb
 intro hb o key
 iterate 2 refine qg o (Ab o rfl) λo=>?_
 exact qg o (Ak o rfl rfl) λo=>qk o (Ad o rfl rfl) key u hb
 intro a w o u
 refine qa o rfl λo=>re<|tn<|wr<|?_
 obtain rfl:=si hm
 exact r1 o results114 rfl ⟨rfl,u.keep⟩
set_option maxHeartbeats 4000000 in
theorem Jbh (hH:H.le w0) {cs2:List Value} {p1:api_Code} (g3:Enc.rep H cs2 p1) {p4:Int} {p5:Int} {p6:Int} {r:Bool} (hm:Z5w N p1 p4 p5 p6=some r):Tot Tryz.prog 69 #[.agg cs2.toArray,i6 p4,i6 p5,i6 p6] w0 (λv w'=>v=.bool r∧Keep Nil w0 w'):=by
 unfold Z5w at hm
 refine fn0 func69 rfl ntmps69 rfl rfl λa o=>?_
 have u:St w0 Nil [H] [] w0:=start1 hH
 obtain ⟨J0,D0,rfl,X1,F0⟩:=Am g3
 refine th<|rg<|ls<|Br (cs:=[i6 p1.Regs,i6 p1.Counts,SL J0 p1.L D0].toArray) o rfl u rfl rfl λA0 w a u o=>qa o rfl λo=>re<|tn<|th<|th<|rg<|qv o (Ae o Cz rfl) λo=>qv o (Af o isAgg3 rfl (u.ld.cellB t0 rfl)) λo=>qv o (Ak o rfl rfl) λo=>qm o rfl λo=>gr (Fk:=[(1,i6 p4),(2,i6 p5),(3,i6 p6),(4,PT A0),(21,.bool ((decide (p1.Regs < 0)) || (decide (4 < p1.Regs))))]) 17 4 o u ?_ ?_ ?_
 intro hb o key
 iterate 3 refine qn o λo=>?_
 exact qk o (Ac o rfl rfl) key u hb
 intro hb o key
 exact qg o (Ae o Cz rfl) λo=>qg o (Af o isAgg3 rfl (u.ld.cellB t0 rfl)) λo=>qg o (Ba o rfl rfl) λo=>qk o (Ad o rfl rfl) key u hb
 intro a w o u
 refine qm o rfl λo=>gr (Fk:=[(1,i6 p4),(2,i6 p5),(3,i6 p6),(4,PT A0),(26,.bool (((decide (p1.Regs < 0)) || (decide (4 < p1.Regs))) || (decide (p1.Counts < 0))))]) 22 4 o u ?_ ?_ ?_
 intro hb o key
 iterate 3 refine qn o λo=>?_
 exact qk o (Ac o rfl rfl) key u hb
 intro hb o key
 exact qg o (Ae o Gg rfl) λo=>qg o (Af o isAgg3 rfl (u.ld.cellB t0 rfl)) λo=>qg o (Ak o rfl rfl) λo=>qk o (Ad o rfl rfl) key u hb
 intro a w o u
 refine qm o rfl λo=>gr (Fk:=[(1,i6 p4),(2,i6 p5),(3,i6 p6),(4,PT A0),(31,.bool ((((decide (p1.Regs < 0)) || (decide (4 < p1.Regs))) || (decide (p1.Counts < 0))) || (decide (12 < p1.Counts))))]) 27 4 o u ?_ ?_ ?_
 intro hb o key
 iterate 3 refine qn o λo=>?_
 exact qk o (Ac o rfl rfl) key u hb
 intro hb o key
 exact qg o (Ae o Gg rfl) λo=>qg o (Af o isAgg3 rfl (u.ld.cellB t0 rfl)) λo=>qg o (Ba o rfl rfl) λo=>qk o (Ad o rfl rfl) key u hb
 intro a w o u
 refine re<|?_
 rcases bit hm with ⟨Y0,hm⟩ | ⟨Y0,hm⟩
 refine tn<|ctv o rfl Y0<|th<|rg<|qa o rfl λo=>re<|tn<|wr<|tr<|?_
 obtain rfl:=si hm
 exact r1 o results69 rfl ⟨rfl,u.keep⟩
 refine tn<|cfv o rfl Y0<|wk<|tn<|th<|th<|rg<|qa o rfl λo=>re<|tn<|Av (λa w=>(Z5x N p1)=some r∧Fr 99 [(4,PT A0)] a∧St w0 Nil [H] [bk A0 [i6 p1.Regs,i6 p1.Counts,SL J0 p1.L D0] 26] w) ?_ ?_
 refine wb<|lp (α:=Nat×Int) (λgh a w=>match gh with | (T0,U0)=>(Z63 N (Z5x N p1) p1 p4 p5 p6) T0 U0=some r∧Fr 99 [(1,i6 p4),(2,i6 p5),(3,i6 p6),(4,PT A0),(9,i6 U0)] a∧St w0 Nil [H] [bk A0 [i6 p1.Regs,i6 p1.Counts,SL J0 p1.L D0] 26] w) (λgh=>gh.1) (N,0) ⟨hm,o.hs,u⟩ ?_
 rintro ⟨T0,U0⟩ a w ⟨hm,o,u⟩
 obtain _ | T0:=T0
 simp [Z63] at hm
 rw [Z63] at hm
 refine th<|th<|rg<|qm o rfl λo=>qv o (Ae o Ch rfl) λo=>qv o (Af o isAgg24 rfl (u.ld.cellB t0 rfl)) λo=>qv o (Aj (α:=api_Instr) (xs:=p1.L) o runUnderlying24 rfl) λo=>qv o (Ak o rfl rfl) λo=>re<|?_
 rcases bip hm with ⟨j0,hm⟩ | ⟨j0,hm⟩
 refine tn<|ctv o rfl j0<|wk<|tn<|th<|wb<|th<|Av (λa w=>∃ (Y1:Bool),(Z5y (Z63 N (Z5x N p1) p1 p4 p5 p6 T0) U0) Y1=some r∧Fr 99 [(1,i6 p4),(2,i6 p5),(3,i6 p6),(4,PT A0),(9,i6 U0),(56,.bool Y1)] a∧St w0 Nil [H] [bk A0 [i6 p1.Regs,i6 p1.Counts,SL J0 p1.L D0] 26] w) ?_ ?_
 obtain ⟨E0,V0,hm⟩:=bs hm
 obtain ⟨S3,K3,u1⟩:=SR.get F0 V0
 obtain ⟨B2,Q1,C2,R1,rfl,E2,F2,G2,I2⟩:=Au K3
 obtain ⟨F3,G3,hm⟩:=bs hm
 rcases bit hm with ⟨n0,hm⟩ | ⟨n0,hm⟩
 have n0':(!F3)=false:=by rw [n0];rfl
 obtain ⟨L3,M3,hm⟩:=bs hm
 refine rdS 18 u wide λw u=>dr 0 u o rfl (Ae o Ch rfl) λo=>dq 1 u.ld o rfl (λw hl=>Af o isAgg24 rfl (hl.cellB t0 rfl)) λo=>dr 2 u o rfl (Ab o rfl) λo=>dr 3 u o rfl (Al o runUnderlying24 sizeOf85 rfl rfl V0 (SR.oaI F0 (by decide) V0)) λo=>dq 4 u.ld o rfl (λw hl=>Ar o isAgg85 sizeOf85 rfl rfl (λj v hj=>PH.le.cell (Lds.le hl) (u1 j v hj))) λo=>dq 5 u.ld o rfl (λw hl=>Ar o isAgg26 sizeOf26 rfl rfl (hl.cellsB t0)) λo=>dr 6 u o rfl (Ab o rfl) λo=>dr 7 u o rfl (Ab o rfl) λo=>dr 8 u o rfl (Ab o rfl) λo=>da1 (i:=9) (by kernel_rfl) ?_
 refine di (i:=9) rfl<|cr o call112 (Jby (Ah _) (Enc.mono (St.up u) (show Enc.rep (α:=api_Instr) H [i6 E0.Kind,i6 E0.A,i6 E0.B,SL B2 E0.E Q1,SL C2 E0.F R1,i6 E0.To] E0 from ⟨_,_,rfl,rfl,⟨_,_,rfl,rfl,⟨_,_,rfl,rfl,⟨_,_,rfl,⟨_,_,rfl,E2,F2⟩,⟨_,_,rfl,⟨_,_,rfl,G2,I2⟩,rfl⟩⟩⟩⟩⟩)) (Enc.mono (St.up u) (show Enc.rep (α:=api_Code) H [i6 p1.Regs,i6 p1.Counts,SL J0 p1.L D0] p1 from ⟨_,_,rfl,rfl,⟨_,_,rfl,rfl,⟨_,_,rfl,X1,F0⟩⟩⟩)) G3) u λu o=>⟨λ_=>u.ld,?_⟩
 refine dr 10 u o rfl (A9 o rfl) λo=>dr 11 u o rfl (Ax (Ab o rfl) (congrArg Value.bool n0')) λo=>dg 12 u.ld o rfl (λw hl=>Ae o Ch rfl) λo=>dg 13 u.ld o rfl (λw hl=>Af o isAgg24 rfl (hl.cellB t0 rfl)) λo=>dg 14 u.ld o rfl (λw hl=>Ab o rfl) λo=>da1 (i:=15) (by kernel_rfl) ?_
 refine di (i:=15) rfl<|gy o rfl rfl<|cr o call113 (Jcp (Ah _) X1 (St.srH u F0) M3) u λu o=>⟨λ_=>u.ld,?_⟩
 refine dg 16 u.ld o rfl (λw hl=>A9 o rfl) λo=>dr 17 u o rfl (Ad o rfl rfl) λo=>de (by kernel_rfl)<|tn<|?_
 exact ⟨(!L3),hm,o.hs,u⟩
 have n0':(!F3)=true:=by rw [n0];rfl
 refine rdS 18 u wide λw u=>dr 0 u o rfl (Ae o Ch rfl) λo=>dq 1 u.ld o rfl (λw hl=>Af o isAgg24 rfl (hl.cellB t0 rfl)) λo=>dr 2 u o rfl (Ab o rfl) λo=>dr 3 u o rfl (Al o runUnderlying24 sizeOf85 rfl rfl V0 (SR.oaI F0 (by decide) V0)) λo=>dq 4 u.ld o rfl (λw hl=>Ar o isAgg85 sizeOf85 rfl rfl (λj v hj=>PH.le.cell (Lds.le hl) (u1 j v hj))) λo=>dq 5 u.ld o rfl (λw hl=>Ar o isAgg26 sizeOf26 rfl rfl (hl.cellsB t0)) λo=>dr 6 u o rfl (Ab o rfl) λo=>dr 7 u o rfl (Ab o rfl) λo=>dr 8 u o rfl (Ab o rfl) λo=>da1 (i:=9) (by kernel_rfl) ?_
 refine di (i:=9) rfl<|cr o call112 (Jby (Ah _) (Enc.mono (St.up u) (show Enc.rep (α:=api_Instr) H [i6 E0.Kind,i6 E0.A,i6 E0.B,SL B2 E0.E Q1,SL C2 E0.F R1,i6 E0.To] E0 from ⟨_,_,rfl,rfl,⟨_,_,rfl,rfl,⟨_,_,rfl,rfl,⟨_,_,rfl,⟨_,_,rfl,E2,F2⟩,⟨_,_,rfl,⟨_,_,rfl,G2,I2⟩,rfl⟩⟩⟩⟩⟩)) (Enc.mono (St.up u) (show Enc.rep (α:=api_Code) H [i6 p1.Regs,i6 p1.Counts,SL J0 p1.L D0] p1 from ⟨_,_,rfl,rfl,⟨_,_,rfl,rfl,⟨_,_,rfl,X1,F0⟩⟩⟩)) G3) u λu o=>⟨λ_=>u.ld,?_⟩
 refine dr 10 u o rfl (A9 o rfl) λo=>dr 11 u o rfl (Ax (Ab o rfl) (congrArg Value.bool n0')) λo=>dn 12 u.ld o rfl λo=>dn 13 u.ld o rfl λo=>dn 14 u.ld o rfl λo=>dn 15 u.ld o rfl λo=>dn 16 u.ld o rfl λo=>dr 17 u o rfl (Ac o rfl rfl) λo=>de (by kernel_rfl)<|tn<|?_
 exact ⟨true,hm,o.hs,u⟩
 rintro a w ⟨Y1,hm,o,u⟩
 unfold Z5y at hm
 rcases bit hm with ⟨u0,hm⟩ | ⟨u0,hm⟩
 refine ctv o rfl u0<|th<|rg<|qa o rfl λo=>re<|tn<|wr<|br<|tr<|tr<|br<|tr<|?_
 obtain rfl:=si hm
 exact r1 o results69 rfl ⟨rfl,u.keep⟩
 refine cfv o rfl u0<|wk<|bn<|tn<|rg<|qm o rfl λo=>qv o (An o rfl rfl) λo=>qa o rfl λo=>re<|tn<|?_
 exact ⟨(T0,(IntKind.i64.wrap (U0+1))),⟨hm,o.hs,u⟩,Nat.lt_succ_self _⟩
 refine tn<|cfv o rfl j0<|we<|tx<|tx<|bx<|tn<|?_
 exact ⟨hm,o.has ⟨rfl,trivial⟩,u⟩
 rintro a w ⟨hm,o,u⟩
 unfold Z5x at hm
 refine th<|th<|rg<|qa o rfl λo=>re<|tn<|Av (λa w=>Z5z=some r∧Fr 99 [] a∧St w0 Nil [H] [] w) ?_ ?_
 refine wb<|lp (α:=Nat×Int) (λgh a w=>match gh with | (M0,C0)=>(Z64 N Z5z p1) M0 C0=some r∧Fr 99 [(4,PT A0),(10,i6 C0)] a∧St w0 Nil [H] [bk A0 [i6 p1.Regs,i6 p1.Counts,SL J0 p1.L D0] 26] w) (λgh=>gh.1) (N,0) ⟨hm,o.has ⟨rfl,rfl,trivial⟩,u⟩ ?_
 rintro ⟨M0,C0⟩ a w ⟨hm,o,u⟩
 obtain _ | M0:=M0
 simp [Z64] at hm
 rw [Z64] at hm
 refine th<|th<|rg<|qm o rfl λo=>qv o (Ae o Ch rfl) λo=>qv o (Af o isAgg24 rfl (u.ld.cellB t0 rfl)) λo=>qv o (Aj (α:=api_Instr) (xs:=p1.L) o runUnderlying24 rfl) λo=>qv o (Ak o rfl rfl) λo=>re<|?_
 rcases bip hm with ⟨B1,hm⟩ | ⟨B1,hm⟩
 refine tn<|ctv o rfl B1<|wk<|tn<|th<|Av (λa w=>(Z60 (Z64 N Z5z p1 M0) C0)=some r∧Fr 99 [(4,PT A0),(10,i6 C0)] a∧St w0 Nil [H] [bk A0 [i6 p1.Regs,i6 p1.Counts,SL J0 p1.L D0] 26] w) ?_ ?_
 refine wb<|th<|rg<|qa o rfl λo=>re<|tn<|wb<|lp (α:=Nat×Int) (λgh a w=>match gh with | (O0,K0)=>(Z65 N (Z60 (Z64 N Z5z p1 M0) C0) p1 C0) O0 K0=some r∧Fr 99 [(4,PT A0),(10,i6 C0),(11,i6 K0)] a∧St w0 Nil [H] [bk A0 [i6 p1.Regs,i6 p1.Counts,SL J0 p1.L D0] 26] w) (λgh=>gh.1) (N,0) ⟨hm,o.hs,u⟩ ?_
 rintro ⟨O0,K0⟩ a w ⟨hm,o,u⟩
 obtain _ | O0:=O0
 simp [Z65] at hm
 rw [Z65] at hm
 refine th<|th<|rg<|qm o rfl λo=>qm o rfl λo=>qv o (Ak o rfl rfl) λo=>re<|?_
 rcases bip hm with ⟨C1,hm⟩ | ⟨C1,hm⟩
 refine tn<|ctv o rfl C1<|wk<|tn<|th<|wb<|th<|Av (λa w=>∃ (W0:Int) (J2:Int) (K2:Int) (X0:(List api_Op)) (P0:(List api_Op)) (D1:Int) (Q0:Int) (E1:Int) (F1:Int) (R0:(List api_Op)) (S0:(List api_Op)) (I1:Int) (bE1:Nat) (oaE6:Option Addr) (capE7:Nat) (oaE11:Option Addr) (capE12:Nat) (bE16:Nat) (oaE21:Option Addr) (capE22:Nat) (oaE26:Option Addr) (capE27:Nat),(Z61 N (Z65 N (Z60 (Z64 N Z5z p1 M0) C0) p1 C0 O0) K0 C0) W0 J2 K2 X0 P0 D1 Q0 E1 F1 R0 S0 I1=some r∧Fr 99 [(4,PT A0),(10,i6 C0),(11,i6 K0),(12,PT bE1),(13,PT bE16)] a∧St w0 Nil [H] [bk A0 [i6 p1.Regs,i6 p1.Counts,SL J0 p1.L D0] 26,bk bE1 [i6 W0,i6 J2,i6 K2,SL oaE6 X0 capE7,SL oaE11 P0 capE12,i6 D1] 85,bk bE16 [i6 Q0,i6 E1,i6 F1,SL oaE21 R0 capE22,SL oaE26 S0 capE27,i6 I1] 85] w∧X0.length≤capE7∧SR H oaE6 X0∧P0.length≤capE12∧SR H oaE11 P0∧R0.length≤capE22∧SR H oaE21 R0∧S0.length≤capE27∧SR H oaE26 S0) ?_ ?_
 obtain ⟨G0,O2,hm⟩:=bs hm
 obtain ⟨T3,O3,I3⟩:=SR.get F0 O2
 obtain ⟨P2,S1,Q2,T1,rfl,R2,T2,U2,V2⟩:=Au O3
 obtain ⟨I0,W2,hm⟩:=bs hm
 obtain ⟨U3,P3,J3⟩:=SR.get F0 W2
 obtain ⟨X2,U1,Y2,V1,rfl,u2,A3,B3,C3⟩:=Au P3
 refine rdS 13 u wide λw u=>dr 0 u o rfl (Ae o Ch rfl) λo=>dq 1 u.ld o rfl (λw hl=>Af o isAgg24 rfl (hl.cellB t0 rfl)) λo=>dr 2 u o rfl (Ab o rfl) λo=>dr 3 u o rfl (Al o runUnderlying24 sizeOf85 rfl rfl O2 (SR.oaI F0 (by decide) O2)) λo=>dq 4 u.ld o rfl (λw hl=>Ar o isAgg85 sizeOf85 rfl rfl (λj v hj=>PH.le.cell (Lds.le hl) (I3 j v hj))) λo=>dr 5 u o rfl (Ae o Ch rfl) λo=>dq 6 u.ld o rfl (λw hl=>Af o isAgg24 rfl (hl.cellB t0 rfl)) λo=>dr 7 u o rfl (Ab o rfl) λo=>dr 8 u o rfl (Al o runUnderlying24 sizeOf85 rfl rfl W2 (SR.oaI F0 (by decide) W2)) λo=>dq 9 u.ld o rfl (λw hl=>Ar o isAgg85 sizeOf85 rfl rfl (λj v hj=>PH.le.cell (Lds.le hl) (J3 j v hj))) λo=>da2 (i:=10) (j:=11) (by kernel_rfl) ?_ ?_
 refine di (i:=10) rfl<|As (cs:=[i6 0,i6 0,i6 0,.slice none 0 0,.slice none 0 0,i6 0].toArray) o rfl u zeroValue85 rfl λD3 w a u o=>⟨λ_=>(St.ldsX u i2 ta1),?_⟩
 refine da1 (i:=11) (by kernel_rfl) ?_
 refine di (i:=11) rfl<|As (cs:=[i6 0,i6 0,i6 0,.slice none 0 0,.slice none 0 0,i6 0].toArray) o rfl u zeroValue85 rfl λE3 w a u o=>⟨λ_=>(St.ldsX u i2 ta2),?_⟩
 refine da1 (i:=12) (by kernel_rfl) ?_
 refine di (i:=12) rfl<|Bb o u sizeOf85 rfl rfl rfl rfl (Ao rfl) (.tail .head) λw u=>⟨λ_=>(St.ldsX u i2 ta2),?_⟩
 refine da1 (i:=13) (by kernel_rfl) ?_
 refine di (i:=13) rfl<|Bb o u sizeOf85 rfl rfl rfl rfl (Ao rfl) .head λw u=>⟨λh=>absurd rfl h,?_⟩
 refine de (by kernel_rfl)<|tn<|?_
 replace u:=u.pk [2,1,0] rfl
 exact ⟨G0.Kind,G0.A,G0.B,G0.E,G0.F,G0.To,I0.Kind,I0.A,I0.B,I0.E,I0.F,I0.To,D3,P2,S1,Q2,T1,E3,X2,U1,Y2,V1,hm,o.hs,u,R2,T2,U2,V2,u2,A3,B3,C3⟩
 refine di (i:=11) rfl<|As (cs:=[i6 0,i6 0,i6 0,.slice none 0 0,.slice none 0 0,i6 0].toArray) o rfl u zeroValue85 rfl λE3 w a u o=>⟨λ_=>(St.ldsX u i2 ta1),?_⟩
 refine da1 (i:=10) (by kernel_rfl) ?_
 refine di (i:=10) rfl<|As (cs:=[i6 0,i6 0,i6 0,.slice none 0 0,.slice none 0 0,i6 0].toArray) o rfl u zeroValue85 rfl λD3 w a u o=>⟨λ_=>(St.ldsX u i2 ta2),?_⟩
 refine da1 (i:=12) (by kernel_rfl) ?_
 refine di (i:=12) rfl<|Bb o u sizeOf85 rfl rfl rfl rfl (Ao rfl) .head λw u=>⟨λ_=>(St.ldsX u i2 ta2),?_⟩
 refine da1 (i:=13) (by kernel_rfl) ?_
 refine di (i:=13) rfl<|Bb o u sizeOf85 rfl rfl rfl rfl (Ao rfl) (.tail .head) λw u=>⟨λh=>absurd rfl h,?_⟩
 refine de (by kernel_rfl)<|tn<|?_
 replace u:=u.pk [2,0,0] rfl
 exact ⟨G0.Kind,G0.A,G0.B,G0.E,G0.F,G0.To,I0.Kind,I0.A,I0.B,I0.E,I0.F,I0.To,D3,P2,S1,Q2,T1,E3,X2,U1,Y2,V1,hm,o.hs,u,R2,T2,U2,V2,u2,A3,B3,C3⟩
 rintro a w ⟨W0,J2,K2,X0,P0,D1,Q0,E1,F1,R0,S0,I1,bE1,oaE6,capE7,oaE11,capE12,bE16,oaE21,capE22,oaE26,capE27,hm,o,u,hcE8,hrE9,hcE13,hrE14,hcE23,hrE24,hcE28,hrE29⟩
 unfold Z61 at hm
 refine th<|Av (λa w=>∃ (J1:Bool),(Z62 (Z65 N (Z60 (Z64 N Z5z p1 M0) C0) p1 C0 O0) K0) J1=some r∧Fr 99 [(4,PT A0),(10,i6 C0),(11,i6 K0),(98,.bool J1)] a∧St w0 Nil [H] [bk A0 [i6 p1.Regs,i6 p1.Counts,SL J0 p1.L D0] 26] w) ?_ ?_
 rcases bit hm with ⟨O1,hm⟩ | ⟨O1,hm⟩
 obtain ⟨Q3,R3,hm⟩:=bs hm
 refine rg<|qv o (Ae o Ca rfl) λo=>qv o (Af o isAgg3 rfl (u.ld.cellB t1 rfl)) λo=>qv o (Aq o rfl rfl) λo=>qm o rfl λo=>gr (Fk:=[(4,PT A0),(10,i6 C0),(11,i6 K0),(12,PT bE1),(13,PT bE16),(86,.bool ((decide (W0=14)) && (decide (Q0=14))))]) 82 4 o u ?_ ?_ ?_
 intro hb o key
 exact qg o (Ae o Ca rfl) λo=>qg o (Af o isAgg3 rfl (u.ld.cellB t2 rfl)) λo=>qg o (Aq o rfl rfl) λo=>qk o (Ac o rfl rfl) key u hb
 intro hb o key
 iterate 3 refine qn o λo=>?_
 exact qk o (Ad o rfl rfl) key u hb
 intro a w o u
 refine qv o (Ax (Ab o rfl) (congrArg Value.bool O1)) λo=>qg o (Ae o Bq rfl) λo=>qg o (Af o isAgg3 rfl (u.ld.cellB t1 rfl)) λo=>qg o (En o rfl rfl) λo=>qg o (Ab o rfl) λo=>qg o (Ae o Bq rfl) λo=>qg o (Af o isAgg3 rfl (u.ld.cellB t2 rfl)) λo=>qg o (En o rfl rfl) λo=>qg o (Ab o rfl) λo=>ls<|gy o rfl rfl<|cr o call114 (Jd0 (Ah _) R3) u λu o=>qg o (A9 o rfl) λo=>qv o (Ac o rfl rfl) λo=>re<|tn<|?_
 replace u:=u.pk [0] rfl
 exact ⟨(!Q3),hm,o.hs,u⟩
 refine rg<|qv o (Ae o Ca rfl) λo=>qv o (Af o isAgg3 rfl (u.ld.cellB t1 rfl)) λo=>qv o (Aq o rfl rfl) λo=>qm o rfl λo=>gr (Fk:=[(4,PT A0),(10,i6 C0),(11,i6 K0),(12,PT bE1),(13,PT bE16),(86,.bool ((decide (W0=14)) && (decide (Q0=14))))]) 82 4 o u ?_ ?_ ?_
 intro hb o key
 exact qg o (Ae o Ca rfl) λo=>qg o (Af o isAgg3 rfl (u.ld.cellB t2 rfl)) λo=>qg o (Aq o rfl rfl) λo=>qk o (Ac o rfl rfl) key u hb
 intro hb o key
 iterate 3 refine qn o λo=>?_
 exact qk o (Ad o rfl rfl) key u hb
 intro a w o u
 refine qv o (Ax (Ab o rfl) (congrArg Value.bool O1)) λo=>?_
 iterate 10 refine qn o λo=>?_
 refine qv o (Ad o rfl rfl) λo=>re<|tn<|?_
 replace u:=u.pk [0] rfl
 exact ⟨false,hm,o.hs,u⟩
 rintro a w ⟨J1,hm,o,u⟩
 unfold Z62 at hm
 rcases bit hm with ⟨P1,hm⟩ | ⟨P1,hm⟩
 refine ctv o rfl P1<|th<|rg<|qa o rfl λo=>re<|tn<|wr<|br<|tr<|tr<|br<|br<|tr<|tr<|br<|tr<|?_
 obtain rfl:=si hm
 exact r1 o results69 rfl ⟨rfl,u.keep⟩
 refine cfv o rfl P1<|wk<|bn<|tn<|rg<|qm o rfl λo=>qv o (An o rfl rfl) λo=>qa o rfl λo=>re<|tn<|?_
 exact ⟨(O0,(IntKind.i64.wrap (K0+1))),⟨hm,o.hs,u⟩,Nat.lt_succ_self _⟩
 refine tn<|cfv o rfl C1<|we<|tx<|tx<|bx<|bn<|tn<|?_
 exact ⟨hm,o.has ⟨rfl,rfl,trivial⟩,u⟩
 rintro a w ⟨hm,o,u⟩
 unfold Z60 at hm
 refine rg<|qm o rfl λo=>qv o (An o rfl rfl) λo=>qa o rfl λo=>re<|tn<|?_
 exact ⟨(M0,(IntKind.i64.wrap (C0+1))),⟨hm,o.has ⟨rfl,rfl,trivial⟩,u⟩,Nat.lt_succ_self _⟩
 refine tn<|cfv o rfl B1<|we<|tx<|tx<|bx<|tn<|?_
 replace u:=u.pickL .nil
 exact ⟨hm,o.has trivial,u⟩
 rintro a w ⟨hm,o,u⟩
 unfold Z5z at hm
 refine th<|rg<|qa o rfl λo=>re<|tn<|wr<|?_
 obtain rfl:=si hm
 exact r1 o results69 rfl ⟨rfl,u.keep⟩
set_option maxHeartbeats 4000000 in
theorem JcT (hH:H.le w0) {cs2:List Value} {p1:api_Unit} (g3:Enc.rep H cs2 p1) {r:Bool} (hm:Z6g N p1=some r):Tot Tryz.prog 27 #[.agg cs2.toArray] w0 (λv w'=>v=.bool r∧Keep Nil w0 w'):=by
 unfold Z6g at hm
 refine fn0 func27 rfl ntmps27 rfl rfl λa o=>?_
 have u:St w0 Nil [H] [] w0:=start1 hH
 have g4:Enc.rep (α:=(List Int)×Int×(List Int)×Int×(List api_Code)×api_Code×(List (List api_Op))) H cs2 (p1.Lines,p1.Stays,p1.Firsts,p1.Locks,p1.Threads,p1.Recover,p1.Claims):=g3
 obtain ⟨qz5,qz6,rfl,g7,g8⟩:=g4
 obtain ⟨P0,D0,rfl,U1,Q0⟩:=g7
 obtain ⟨q13,q14,rfl,X2,Y2⟩:=g8
 obtain rfl:q13=[i6 p1.Stays]:=X2
 obtain ⟨q17,q18,rfl,u2,A3⟩:=Y2
 obtain ⟨K0,E0,rfl,V1,R0⟩:=u2
 obtain ⟨q25,q26,rfl,B3,C3⟩:=A3
 obtain rfl:q25=[i6 p1.Locks]:=B3
 obtain ⟨q29,q30,rfl,D3,E3⟩:=C3
 obtain ⟨M0,F0,rfl,X1,U0⟩:=D3
 obtain ⟨q37,q38,rfl,F3,G3⟩:=E3
 obtain ⟨I0,C0,rfl,n0,u0⟩:=Am F3
 obtain ⟨O0,G0,rfl,Y1,V0⟩:=G3
 refine th<|rg<|ls<|Br (cs:=[SL P0 p1.Lines D0,i6 p1.Stays,SL K0 p1.Firsts E0,i6 p1.Locks,SL M0 p1.Threads F0,i6 p1.Recover.Regs,i6 p1.Recover.Counts,SL I0 p1.Recover.L C0,SL O0 p1.Claims G0].toArray) o rfl u rfl rfl λA0 w a u o=>qa o rfl λo=>re<|tn<|th<|th<|rg<|qv o (Ae o Cc rfl) λo=>qv o (Af o isAgg22 rfl (u.ld.cellB t0 rfl)) λo=>qv o (Aj (α:=Int) (xs:=p1.Lines) o runUnderlying22 rfl) λo=>qv o (Ba o rfl rfl) λo=>qm o rfl λo=>gr (Fk:=[(1,PT A0),(15,.bool ((decide (20 < (p1.Lines.length:Int))) || (decide (p1.Stays < 0))))]) 11 4 o u ?_ ?_ ?_
 intro hb o key
 iterate 3 refine qn o λo=>?_
 exact qk o (Ac o rfl rfl) key u hb
 intro hb o key
 exact qg o (Ae o Cr rfl) λo=>qg o (Af o isAgg3 rfl (u.ld.cellB t0 rfl)) λo=>qg o (Ak o rfl rfl) λo=>qk o (Ad o rfl rfl) key u hb
 intro a w o u
 refine qm o rfl λo=>gr (Fk:=[(1,PT A0),(23,.bool (((decide (20 < (p1.Lines.length:Int))) || (decide (p1.Stays < 0))) || (decide ((p1.Lines.length:Int) < p1.Stays))))]) 16 7 o u ?_ ?_ ?_
 intro hb o key
 iterate 6 refine qn o λo=>?_
 exact qk o (Ac o rfl rfl) key u hb
 intro hb o key
 exact qg o (Ae o Cr rfl) λo=>qg o (Af o isAgg3 rfl (u.ld.cellB t0 rfl)) λo=>qg o (Ae o Cc rfl) λo=>qg o (Af o isAgg22 rfl (u.ld.cellB t0 rfl)) λo=>qg o (Aj (α:=Int) (xs:=p1.Lines) o runUnderlying22 rfl) λo=>qg o (Ba o rfl rfl) λo=>qk o (Ad o rfl rfl) key u hb
 intro a w o u
 refine qm o rfl λo=>gr (Fk:=[(1,PT A0),(32,.bool ((((decide (20 < (p1.Lines.length:Int))) || (decide (p1.Stays < 0))) || (decide ((p1.Lines.length:Int) < p1.Stays))) || (decide ((p1.Firsts.length:Int)≠(p1.Lines.length:Int)))))]) 24 8 o u ?_ ?_ ?_
 intro hb o key
 iterate 7 refine qn o λo=>?_
 exact qk o (Ac o rfl rfl) key u hb
 intro hb o key
 exact qg o (Ae o Ei rfl) λo=>qg o (Af o isAgg22 rfl (u.ld.cellB t0 rfl)) λo=>qg o (Aj (α:=Int) (xs:=p1.Firsts) o runUnderlying22 rfl) λo=>qg o (Ae o Cc rfl) λo=>qg o (Af o isAgg22 rfl (u.ld.cellB t0 rfl)) λo=>qg o (Aj (α:=Int) (xs:=p1.Lines) o runUnderlying22 rfl) λo=>qg o (Bh o rfl rfl) λo=>qk o (Ad o rfl rfl) key u hb
 intro a w o u
 refine qm o rfl λo=>gr (Fk:=[(1,PT A0),(37,.bool (((((decide (20 < (p1.Lines.length:Int))) || (decide (p1.Stays < 0))) || (decide ((p1.Lines.length:Int) < p1.Stays))) || (decide ((p1.Firsts.length:Int)≠(p1.Lines.length:Int)))) || (decide (p1.Locks < 0))))]) 33 4 o u ?_ ?_ ?_
 intro hb o key
 iterate 3 refine qn o λo=>?_
 exact qk o (Ac o rfl rfl) key u hb
 intro hb o key
 exact qg o (Ae o Fa rfl) λo=>qg o (Af o isAgg3 rfl (u.ld.cellB t0 rfl)) λo=>qg o (Ak o rfl rfl) λo=>qk o (Ad o rfl rfl) key u hb
 intro a w o u
 refine qm o rfl λo=>gr (Fk:=[(1,PT A0),(42,.bool ((((((decide (20 < (p1.Lines.length:Int))) || (decide (p1.Stays < 0))) || (decide ((p1.Lines.length:Int) < p1.Stays))) || (decide ((p1.Firsts.length:Int)≠(p1.Lines.length:Int)))) || (decide (p1.Locks < 0))) || (decide (2 < p1.Locks))))]) 38 4 o u ?_ ?_ ?_
 intro hb o key
 iterate 3 refine qn o λo=>?_
 exact qk o (Ac o rfl rfl) key u hb
 intro hb o key
 exact qg o (Ae o Fa rfl) λo=>qg o (Af o isAgg3 rfl (u.ld.cellB t0 rfl)) λo=>qg o (Ba o rfl rfl) λo=>qk o (Ad o rfl rfl) key u hb
 intro a w o u
 refine qm o rfl λo=>gr (Fk:=[(1,PT A0),(48,.bool (((((((decide (20 < (p1.Lines.length:Int))) || (decide (p1.Stays < 0))) || (decide ((p1.Lines.length:Int) < p1.Stays))) || (decide ((p1.Firsts.length:Int)≠(p1.Lines.length:Int)))) || (decide (p1.Locks < 0))) || (decide (2 < p1.Locks))) || (decide ((p1.Threads.length:Int) < 1))))]) 43 5 o u ?_ ?_ ?_
 intro hb o key
 iterate 4 refine qn o λo=>?_
 exact qk o (Ac o rfl rfl) key u hb
 intro hb o key
 exact qg o (Ae o Cg rfl) λo=>qg o (Af o isAgg23 rfl (u.ld.cellB t0 rfl)) λo=>qg o (Aj (α:=api_Code) (xs:=p1.Threads) o runUnderlying23 rfl) λo=>qg o (Ak o rfl rfl) λo=>qk o (Ad o rfl rfl) key u hb
 intro a w o u
 refine qm o rfl λo=>gr (Fk:=[(1,PT A0),(54,.bool ((((((((decide (20 < (p1.Lines.length:Int))) || (decide (p1.Stays < 0))) || (decide ((p1.Lines.length:Int) < p1.Stays))) || (decide ((p1.Firsts.length:Int)≠(p1.Lines.length:Int)))) || (decide (p1.Locks < 0))) || (decide (2 < p1.Locks))) || (decide ((p1.Threads.length:Int) < 1))) || (decide (3 < (p1.Threads.length:Int)))))]) 49 5 o u ?_ ?_ ?_
 intro hb o key
 iterate 4 refine qn o λo=>?_
 exact qk o (Ac o rfl rfl) key u hb
 intro hb o key
 exact qg o (Ae o Cg rfl) λo=>qg o (Af o isAgg23 rfl (u.ld.cellB t0 rfl)) λo=>qg o (Aj (α:=api_Code) (xs:=p1.Threads) o runUnderlying23 rfl) λo=>qg o (Ba o rfl rfl) λo=>qk o (Ad o rfl rfl) key u hb
 intro a w o u
 refine re<|?_
 rcases bit hm with ⟨B1,hm⟩ | ⟨B1,hm⟩
 refine tn<|ctv o rfl B1<|th<|rg<|qa o rfl λo=>re<|tn<|wr<|tr<|?_
 obtain rfl:=si hm
 exact r1 o results27 rfl ⟨rfl,u.keep⟩
 refine tn<|cfv o rfl B1<|wk<|tn<|th<|th<|rg<|qa o rfl λo=>re<|tn<|Av (λa w=>(Z6h N p1)=some r∧Fr 159 [(1,PT A0)] a∧St w0 Nil [H] [bk A0 [SL P0 p1.Lines D0,i6 p1.Stays,SL K0 p1.Firsts E0,i6 p1.Locks,SL M0 p1.Threads F0,i6 p1.Recover.Regs,i6 p1.Recover.Counts,SL I0 p1.Recover.L C0,SL O0 p1.Claims G0] 29] w) ?_ ?_
 refine wb<|lp (α:=Nat×Int) (λgh a w=>match gh with | (T0,J0)=>(Z6l N (Z6h N p1) p1) T0 J0=some r∧Fr 159 [(1,PT A0),(3,i6 J0)] a∧St w0 Nil [H] [bk A0 [SL P0 p1.Lines D0,i6 p1.Stays,SL K0 p1.Firsts E0,i6 p1.Locks,SL M0 p1.Threads F0,i6 p1.Recover.Regs,i6 p1.Recover.Counts,SL I0 p1.Recover.L C0,SL O0 p1.Claims G0] 29] w) (λgh=>gh.1) (N,0) ⟨hm,o.has ⟨rfl,rfl,trivial⟩,u⟩ ?_
 rintro ⟨T0,J0⟩ a w ⟨hm,o,u⟩
 obtain _ | T0:=T0
 simp [Z6l] at hm
 rw [Z6l] at hm
 refine th<|th<|rg<|qm o rfl λo=>qv o (Ae o Cc rfl) λo=>qv o (Af o isAgg22 rfl (u.ld.cellB t0 rfl)) λo=>qv o (Aj (α:=Int) (xs:=p1.Lines) o runUnderlying22 rfl) λo=>qv o (Ak o rfl rfl) λo=>re<|?_
 rcases bip hm with ⟨C1,hm⟩ | ⟨C1,hm⟩
 refine tn<|ctv o rfl C1<|wk<|tn<|th<|wb<|th<|th<|?_
 obtain ⟨u1,W0,hm⟩:=bs hm
 obtain ⟨I3,J3,B2⟩:=SR.get R0 W0
 obtain rfl:I3=[i6 u1]:=J3
 refine rg<|qv o (Ae o Ei rfl) λo=>qv o (Af o isAgg22 rfl (u.ld.cellB t0 rfl)) λo=>qm o rfl λo=>qv o (Al o runUnderlying22 sizeOf3 rfl rfl W0 (SR.oaI R0 (by decide) W0)) λo=>qv o (Af o isAgg3 rfl (PH.le.cell (Lds.le u.ld) (B2 0 _ rfl))) λo=>qv o (Ak o rfl rfl) λo=>qm o rfl λo=>gr (Fk:=[(1,PT A0),(3,i6 J0),(75,.bool ((decide (u1 < 0)) || (decide (4294967296 < u1))))]) 68 7 o u ?_ ?_ ?_
 intro hb o key
 iterate 6 refine qn o λo=>?_
 exact qk o (Ac o rfl rfl) key u hb
 intro hb o key
 exact qg o (Ae o Ei rfl) λo=>qg o (Af o isAgg22 rfl (u.ld.cellB t0 rfl)) λo=>qg o (Ab o rfl) λo=>qg o (Al o runUnderlying22 sizeOf3 rfl rfl W0 (SR.oaI R0 (by decide) W0)) λo=>qg o (Af o isAgg3 rfl (PH.le.cell (Lds.le u.ld) (B2 0 _ rfl))) λo=>qg o (Ba o rfl rfl) λo=>qk o (Ad o rfl rfl) key u hb
 intro a w o u
 refine re<|?_
 rcases bit hm with ⟨D1,hm⟩ | ⟨D1,hm⟩
 refine tn<|ctv o rfl D1<|th<|rg<|qa o rfl λo=>re<|tn<|wr<|tr<|br<|tr<|tr<|br<|tr<|?_
 obtain rfl:=si hm
 exact r1 o results27 rfl ⟨rfl,u.keep⟩
 refine tn<|cfv o rfl D1<|wk<|tn<|th<|rg<|qa o rfl λo=>re<|tn<|th<|th<|rg<|qm o rfl λo=>qv o (Ba o rfl rfl) λo=>re<|tn<|Av (λa w=>∃ (S0:Int),(Z6i (Z6l N (Z6h N p1) p1 T0) p1 J0) S0=some r∧Fr 159 [(1,PT A0),(3,i6 J0),(4,i6 S0)] a∧St w0 Nil [H] [bk A0 [SL P0 p1.Lines D0,i6 p1.Stays,SL K0 p1.Firsts E0,i6 p1.Locks,SL M0 p1.Threads F0,i6 p1.Recover.Regs,i6 p1.Recover.Counts,SL I0 p1.Recover.L C0,SL O0 p1.Claims G0] 29] w) ?_ ?_
 rcases bip hm with ⟨E1,hm⟩ | ⟨E1,hm⟩
 refine ctv o rfl E1<|?_
 obtain ⟨J2,C2,hm⟩:=bs hm
 obtain ⟨K3,L3,K2⟩:=SR.get Q0 C2
 obtain rfl:K3=[i6 J2]:=L3
 refine rg<|qv o (Ae o Cc rfl) λo=>qv o (Af o isAgg22 rfl (u.ld.cellB t0 rfl)) λo=>qm o rfl λo=>qv o (En o rfl rfl) λo=>qv o (Al o runUnderlying22 sizeOf3 rfl rfl C2 (SR.oaI Q0 (by decide) C2)) λo=>qv o (Af o isAgg3 rfl (PH.le.cell (Lds.le u.ld) (K2 0 _ rfl))) λo=>qv o (An o rfl rfl) λo=>qa o rfl λo=>re<|tn<|?_
 exact ⟨(IntKind.i64.wrap (J2+1)),hm,o.hs,u⟩
 refine cfv o rfl E1<|wk<|tn<|?_
 exact ⟨0,hm,o.hs,u⟩
 rintro a w ⟨S0,hm,o,u⟩
 unfold Z6i at hm
 refine th<|?_
 obtain ⟨Q1,X0,hm⟩:=bs hm
 obtain ⟨M3,O3,E2⟩:=SR.get Q0 X0
 obtain rfl:M3=[i6 Q1]:=O3
 refine rg<|qv o (Ae o Cc rfl) λo=>qv o (Af o isAgg22 rfl (u.ld.cellB t0 rfl)) λo=>qm o rfl λo=>qv o (Al o runUnderlying22 sizeOf3 rfl rfl X0 (SR.oaI Q0 (by decide) X0)) λo=>qv o (Af o isAgg3 rfl (PH.le.cell (Lds.le u.ld) (E2 0 _ rfl))) λo=>qm o rfl λo=>qv o (Bh o rfl rfl) λo=>qm o rfl λo=>gr (Fk:=[(1,PT A0),(3,i6 J0),(111,.bool ((decide (Q1≠S0)) && (((decide (J0=0)) || (decide (p1.Stays≤J0))) || (decide (Q1≠(IntKind.i64.wrap (S0 - 1)))))))]) 92 19 o u ?_ ?_ ?_
 intro hb o key
 refine qg o (Ab o rfl) λo=>qg o (Aq o rfl rfl) λo=>qg o (Ab o rfl) λo=>gr (Fk:=[(1,PT A0),(3,i6 J0),(4,i6 S0),(92,.bool true),(100,.bool ((decide (J0=0)) || (decide (p1.Stays≤J0))))]) 95 5 o u ?_ ?_ ?_
 intro hb o key
 iterate 4 refine qn o λo=>?_
 exact ql o (Ac o rfl rfl) key u hb
 intro hb o key
 exact qg o (Ab o rfl) λo=>qg o (Ae o Cr rfl) λo=>qg o (Af o isAgg3 rfl (u.ld.cellB t0 rfl)) λo=>qg o (Bo o rfl rfl) λo=>ql o (Ad o rfl rfl) key u hb
 intro a w o u
 refine qg o (Ab o rfl) λo=>gr (Fk:=[(1,PT A0),(3,i6 J0),(92,.bool true),(110,.bool (((decide (J0=0)) || (decide (p1.Stays≤J0))) || (decide (Q1≠(IntKind.i64.wrap (S0 - 1))))))]) 101 9 o u ?_ ?_ ?_
 intro hb o key
 iterate 8 refine qn o λo=>?_
 exact ql o (Ac o rfl rfl) key u hb
 intro hb o key
 exact qg o (Ae o Cc rfl) λo=>qg o (Af o isAgg22 rfl (u.ld.cellB t0 rfl)) λo=>qg o (Ab o rfl) λo=>qg o (Al o runUnderlying22 sizeOf3 rfl rfl X0 (SR.oaI Q0 (by decide) X0)) λo=>qg o (Af o isAgg3 rfl (PH.le.cell (Lds.le u.ld) (E2 0 _ rfl))) λo=>qg o (Ab o rfl) λo=>qg o (En o rfl rfl) λo=>qg o (Bh o rfl rfl) λo=>ql o (Ad o rfl rfl) key u hb
 intro a w o u
 exact qk o (Ac o rfl rfl) key u hb
 intro hb o key
 iterate 3 refine qn o λo=>?_
 iterate 4 refine ls<|gnu o rfl rfl rfl λa o=>?_
 iterate 2 refine qn o λo=>?_
 iterate 8 refine ls<|gnu o rfl rfl rfl λa o=>?_
 exact qn o λo=>qk o (Ad o rfl rfl) key u hb
 intro a w o u
 refine re<|?_
 rcases bit hm with ⟨F1,hm⟩ | ⟨F1,hm⟩
 refine tn<|ctv o rfl F1<|th<|rg<|qa o rfl λo=>re<|tn<|wr<|br<|tr<|tr<|br<|tr<|?_
 obtain rfl:=si hm
 exact r1 o results27 rfl ⟨rfl,u.keep⟩
 refine tn<|cfv o rfl F1<|wk<|bn<|tn<|rg<|qm o rfl λo=>qv o (An o rfl rfl) λo=>qa o rfl λo=>re<|tn<|?_
 exact ⟨(T0,(IntKind.i64.wrap (J0+1))),⟨hm,o.has ⟨rfl,rfl,trivial⟩,u⟩,Nat.lt_succ_self _⟩
 refine tn<|cfv o rfl C1<|we<|tx<|tx<|bx<|tn<|?_
 exact ⟨hm,o.has ⟨rfl,trivial⟩,u⟩
 rintro a w ⟨hm,o,u⟩
 unfold Z6h at hm
 refine th<|th<|rg<|qa o rfl λo=>re<|tn<|Av (λa w=>(Z6j N p1)=some r∧Fr 159 [(1,PT A0)] a∧St w0 Nil [H] [bk A0 [SL P0 p1.Lines D0,i6 p1.Stays,SL K0 p1.Firsts E0,i6 p1.Locks,SL M0 p1.Threads F0,i6 p1.Recover.Regs,i6 p1.Recover.Counts,SL I0 p1.Recover.L C0,SL O0 p1.Claims G0] 29] w) ?_ ?_
 refine wb<|lp (α:=Nat×Int) (λgh a w=>match gh with | (Y0,R1)=>(Z6m N (Z6j N p1) p1) Y0 R1=some r∧Fr 159 [(1,PT A0),(5,i6 R1)] a∧St w0 Nil [H] [bk A0 [SL P0 p1.Lines D0,i6 p1.Stays,SL K0 p1.Firsts E0,i6 p1.Locks,SL M0 p1.Threads F0,i6 p1.Recover.Regs,i6 p1.Recover.Counts,SL I0 p1.Recover.L C0,SL O0 p1.Claims G0] 29] w) (λgh=>gh.1) (N,0) ⟨hm,o.has ⟨rfl,rfl,trivial⟩,u⟩ ?_
 rintro ⟨Y0,R1⟩ a w ⟨hm,o,u⟩
 obtain _ | Y0:=Y0
 simp [Z6m] at hm
 rw [Z6m] at hm
 refine th<|th<|rg<|qm o rfl λo=>qv o (Ae o Cg rfl) λo=>qv o (Af o isAgg23 rfl (u.ld.cellB t0 rfl)) λo=>qv o (Aj (α:=api_Code) (xs:=p1.Threads) o runUnderlying23 rfl) λo=>qv o (Ak o rfl rfl) λo=>re<|?_
 rcases bip hm with ⟨I1,hm⟩ | ⟨I1,hm⟩
 refine tn<|ctv o rfl I1<|wk<|tn<|th<|wb<|th<|?_
 obtain ⟨S1,F2,hm⟩:=bs hm
 obtain ⟨Y3,P3,O2⟩:=SR.get U0 F2
 obtain ⟨P2,I2,rfl,Q2,R2⟩:=Am P3
 obtain ⟨l3,Q3,hm⟩:=bs hm
 obtain ⟨n3,R3,hm⟩:=bs hm
 refine rdS 14 u wide λw u=>dr 0 u o rfl (Ae o Cg rfl) λo=>dq 1 u.ld o rfl (λw hl=>Af o isAgg23 rfl (hl.cellB t0 rfl)) λo=>dr 2 u o rfl (Ab o rfl) λo=>dr 3 u o rfl (Al o runUnderlying23 sizeOf26 rfl rfl F2 (SR.oaI U0 (by decide) F2)) λo=>dq 4 u.ld o rfl (λw hl=>Ar o isAgg26 sizeOf26 rfl rfl (λj v hj=>PH.le.cell (Lds.le hl) (O2 j v hj))) λo=>dr 5 u o rfl (Ae o Cc rfl) λo=>dq 6 u.ld o rfl (λw hl=>Af o isAgg22 rfl (hl.cellB t0 rfl)) λo=>dr 7 u o rfl (Aj (α:=Int) (xs:=p1.Lines) o runUnderlying22 rfl) λo=>dq 8 u.ld o rfl (λw hl=>Ar o isAgg29 sizeOf29 rfl rfl (hl.cellsB t0)) λo=>dr 10 u o rfl (Ae o Fa rfl) λo=>dq 11 u.ld o rfl (λw hl=>Af o isAgg3 rfl (hl.cellB t0 rfl)) λo=>da1 (i:=9) (by kernel_rfl) ?_
 refine di (i:=9) rfl<|cr o call70 (Jbe (Ah _) (Enc.mono (St.up u) (show Enc.rep (α:=api_Unit) H [SL P0 p1.Lines D0,i6 p1.Stays,SL K0 p1.Firsts E0,i6 p1.Locks,SL M0 p1.Threads F0,i6 p1.Recover.Regs,i6 p1.Recover.Counts,SL I0 p1.Recover.L C0,SL O0 p1.Claims G0] p1 from ⟨_,_,rfl,⟨_,_,rfl,U1,Q0⟩,⟨_,_,rfl,rfl,⟨_,_,rfl,⟨_,_,rfl,V1,R0⟩,⟨_,_,rfl,rfl,⟨_,_,rfl,⟨_,_,rfl,X1,U0⟩,⟨_,_,rfl,⟨_,_,rfl,rfl,⟨_,_,rfl,rfl,⟨_,_,rfl,n0,u0⟩⟩⟩,⟨_,_,rfl,Y1,V0⟩⟩⟩⟩⟩⟩⟩)) Q3) u λu o=>⟨λ_=>u.ld,?_⟩
 refine da1 (i:=12) (by kernel_rfl) ?_
 refine di (i:=12) rfl<|cr o call69 (Jbh (Ah _) (Enc.mono (St.up u) (show Enc.rep (α:=api_Code) H [i6 S1.Regs,i6 S1.Counts,SL P2 S1.L I2] S1 from ⟨_,_,rfl,rfl,⟨_,_,rfl,rfl,⟨_,_,rfl,Q2,R2⟩⟩⟩)) R3) u λu o=>⟨λ_=>u.ld,?_⟩
 refine dr 13 u o rfl (A9 o rfl) λo=>de (by kernel_rfl)<|?_
 rcases bit hm with ⟨J1,hm⟩ | ⟨J1,hm⟩
 refine tn<|cfv o rfl (by rw [J1];rfl)<|wk<|bn<|tn<|rg<|qm o rfl λo=>qv o (An o rfl rfl) λo=>qa o rfl λo=>re<|tn<|?_
 exact ⟨(Y0,(IntKind.i64.wrap (R1+1))),⟨hm,o.has ⟨rfl,rfl,trivial⟩,u⟩,Nat.lt_succ_self _⟩
 refine tn<|ctv o rfl (by rw [J1];rfl)<|th<|rg<|qa o rfl λo=>re<|tn<|wr<|br<|tr<|tr<|br<|tr<|?_
 obtain rfl:=si hm
 exact r1 o results27 rfl ⟨rfl,u.keep⟩
 refine tn<|cfv o rfl I1<|we<|tx<|tx<|bx<|tn<|?_
 exact ⟨hm,o.has ⟨rfl,trivial⟩,u⟩
 rintro a w ⟨hm,o,u⟩
 unfold Z6j at hm
 refine th<|th<|rg<|qa o rfl λo=>re<|tn<|Av (λa w=>(Z6k N p1)=some r∧Fr 159 [(1,PT A0)] a∧St w0 Nil [H] [bk A0 [SL P0 p1.Lines D0,i6 p1.Stays,SL K0 p1.Firsts E0,i6 p1.Locks,SL M0 p1.Threads F0,i6 p1.Recover.Regs,i6 p1.Recover.Counts,SL I0 p1.Recover.L C0,SL O0 p1.Claims G0] 29] w) ?_ ?_
 refine wb<|lp (α:=Nat×Int) (λgh a w=>match gh with | (j0,T1)=>(Z6n N (Z6k N p1) p1) j0 T1=some r∧Fr 159 [(1,PT A0),(6,i6 T1)] a∧St w0 Nil [H] [bk A0 [SL P0 p1.Lines D0,i6 p1.Stays,SL K0 p1.Firsts E0,i6 p1.Locks,SL M0 p1.Threads F0,i6 p1.Recover.Regs,i6 p1.Recover.Counts,SL I0 p1.Recover.L C0,SL O0 p1.Claims G0] 29] w) (λgh=>gh.1) (N,0) ⟨hm,o.has ⟨rfl,rfl,trivial⟩,u⟩ ?_
 rintro ⟨j0,T1⟩ a w ⟨hm,o,u⟩
 obtain _ | j0:=j0
 simp [Z6n] at hm
 rw [Z6n] at hm
 refine th<|th<|rg<|qm o rfl λo=>qv o (Ae o Dm rfl) λo=>qv o (Af o isAgg27 rfl (u.ld.cellB t0 rfl)) λo=>qv o (Aj (α:=(List api_Op)) (xs:=p1.Claims) o runUnderlying27 rfl) λo=>qv o (Ak o rfl rfl) λo=>re<|?_
 rcases bip hm with ⟨O1,hm⟩ | ⟨O1,hm⟩
 refine tn<|ctv o rfl O1<|wk<|tn<|th<|wb<|th<|?_
 obtain ⟨u3,G2,hm⟩:=bs hm
 obtain ⟨A4,S3,T2⟩:=SR.get V0 G2
 obtain ⟨W3,V3,rfl,U2,V2⟩:=S3
 obtain ⟨B4,T3,hm⟩:=bs hm
 refine rdS 9 u wide λw u=>dr 0 u o rfl (Ae o Dm rfl) λo=>dq 1 u.ld o rfl (λw hl=>Af o isAgg27 rfl (hl.cellB t0 rfl)) λo=>dr 2 u o rfl (Ab o rfl) λo=>dr 3 u o rfl (Al o runUnderlying27 sizeOf54 rfl rfl G2 (SR.oaI V0 (by decide) G2)) λo=>dq 4 u.ld o rfl (λw hl=>Af o isAgg54 rfl (PH.le.cell (Lds.le hl) (T2 0 _ rfl))) λo=>dr 5 u o rfl (Ae o Cr rfl) λo=>dq 6 u.ld o rfl (λw hl=>Af o isAgg3 rfl (hl.cellB t0 rfl)) λo=>da1 (i:=7) (by kernel_rfl) ?_
 refine di (i:=7) rfl<|cr o call71 (Nt (Ah _) U2 (St.srH u V2) T3) u λu o=>⟨λ_=>u.ld,?_⟩
 refine dr 8 u o rfl (A9 o rfl) λo=>de (by kernel_rfl)<|?_
 rcases bit hm with ⟨P1,hm⟩ | ⟨P1,hm⟩
 refine tn<|cfv o rfl (by rw [P1];rfl)<|wk<|bn<|tn<|rg<|qm o rfl λo=>qv o (An o rfl rfl) λo=>qa o rfl λo=>re<|tn<|?_
 exact ⟨(j0,(IntKind.i64.wrap (T1+1))),⟨hm,o.has ⟨rfl,rfl,trivial⟩,u⟩,Nat.lt_succ_self _⟩
 refine tn<|ctv o rfl (by rw [P1];rfl)<|th<|rg<|qa o rfl λo=>re<|tn<|wr<|br<|tr<|tr<|br<|tr<|?_
 obtain rfl:=si hm
 exact r1 o results27 rfl ⟨rfl,u.keep⟩
 refine tn<|cfv o rfl O1<|we<|tx<|tx<|bx<|tn<|?_
 exact ⟨hm,o.has ⟨rfl,trivial⟩,u⟩
 rintro a w ⟨hm,o,u⟩
 unfold Z6k at hm
 refine th<|?_
 obtain ⟨C4,U3,hm⟩:=bs hm
 obtain ⟨X3,W2,hm⟩:=bs hm
 refine rdS 11 u wide λw u=>dr 0 u o rfl (Ae o Hk rfl) λo=>dq 1 u.ld o rfl (λw hl=>Ar o isAgg26 sizeOf26 rfl rfl (Lds.cellsP (pre:=[SL P0 p1.Lines D0,i6 p1.Stays,SL K0 p1.Firsts E0,i6 p1.Locks,SL M0 p1.Threads F0]) (vs:=[i6 p1.Recover.Regs,i6 p1.Recover.Counts,SL I0 p1.Recover.L C0]) (post:=[SL O0 p1.Claims G0]) hl t0)) λo=>dr 2 u o rfl (Ae o Cc rfl) λo=>dq 3 u.ld o rfl (λw hl=>Af o isAgg22 rfl (hl.cellB t0 rfl)) λo=>dr 4 u o rfl (Aj (α:=Int) (xs:=p1.Lines) o runUnderlying22 rfl) λo=>dq 5 u.ld o rfl (λw hl=>Ar o isAgg29 sizeOf29 rfl rfl (hl.cellsB t0)) λo=>dr 7 u o rfl (Ae o Fa rfl) λo=>dq 8 u.ld o rfl (λw hl=>Af o isAgg3 rfl (hl.cellB t0 rfl)) λo=>da1 (i:=6) (by kernel_rfl) ?_
 refine di (i:=6) rfl<|cr o call70 (Jbe (Ah _) (Enc.mono (St.up u) (show Enc.rep (α:=api_Unit) H [SL P0 p1.Lines D0,i6 p1.Stays,SL K0 p1.Firsts E0,i6 p1.Locks,SL M0 p1.Threads F0,i6 p1.Recover.Regs,i6 p1.Recover.Counts,SL I0 p1.Recover.L C0,SL O0 p1.Claims G0] p1 from ⟨_,_,rfl,⟨_,_,rfl,U1,Q0⟩,⟨_,_,rfl,rfl,⟨_,_,rfl,⟨_,_,rfl,V1,R0⟩,⟨_,_,rfl,rfl,⟨_,_,rfl,⟨_,_,rfl,X1,U0⟩,⟨_,_,rfl,⟨_,_,rfl,rfl,⟨_,_,rfl,rfl,⟨_,_,rfl,n0,u0⟩⟩⟩,⟨_,_,rfl,Y1,V0⟩⟩⟩⟩⟩⟩⟩)) U3) u λu o=>⟨λ_=>u.ld,?_⟩
 refine da1 (i:=9) (by kernel_rfl) ?_
 refine di (i:=9) rfl<|cr o call69 (Jbh (Ah _) (Enc.mono (St.up u) (show Enc.rep (α:=api_Code) H [i6 p1.Recover.Regs,i6 p1.Recover.Counts,SL I0 p1.Recover.L C0] p1.Recover from ⟨_,_,rfl,rfl,⟨_,_,rfl,rfl,⟨_,_,rfl,n0,u0⟩⟩⟩)) W2) u λu o=>⟨λ_=>u.ld,?_⟩
 refine dr 10 u o rfl (Bp o rfl) λo=>de (by kernel_rfl)<|tn<|wr<|?_
 obtain rfl:=si hm
 exact r1 o results27 rfl ⟨rfl,u.keep⟩
theorem Fg:∀ (N:Nat) {w0:World} {H:PH} (hH:H.le w0) {p1:Int} {r:Str} (hm:Z8g N p1=some r),Tot Tryz.prog 29 #[i6 p1] w0 (λv w'=>v=Ag r∧Keep Nil w0 w'):=by
 intro N
 induction N with
  | zero=>intros;rename_i hm;simp [Z8g] at hm
  | succ N ih=>
 intro w0 H hH p1 r hm
 rw [Z8g] at hm
 refine fn0 func29 rfl ntmps29 rfl rfl λa o=>?_
 have u:St w0 Nil [H] [] w0:=start1 hH
 refine th<|rg<|qa o rfl λo=>re<|tn<|th<|th<|rg<|qm o rfl λo=>qv o (Ak o rfl rfl) λo=>qm o rfl λo=>gr (Fk:=[(0,i6 p1),(8,.bool ((decide (p1 < 0)) || (decide (1099511627776 < p1))))]) 5 3 o u ?_ ?_ ?_
 intro hb o key
 iterate 2 refine qn o λo=>?_
 exact qk o (Ac o rfl rfl) key u hb
 intro hb o key
 exact qg o (Ab o rfl) λo=>qg o (Ba o rfl rfl) λo=>qk o (Ad o rfl rfl) key u hb
 intro a w o u
 refine re<|?_
 rcases bit hm with ⟨C0,hm⟩ | ⟨C0,hm⟩
 refine tn<|ctv o rfl C0<|th<|rg<|qa o rfl λo=>re<|tn<|wr<|tr<|?_
 obtain rfl:=si hm
 exact r1 o results29 rfl ⟨rfl,u.keep⟩
 refine tn<|cfv o rfl C0<|wk<|tn<|th<|th<|rg<|qm o rfl λo=>qv o (Ak o rfl rfl) λo=>re<|?_
 rcases bip hm with ⟨D0,hm⟩ | ⟨D0,hm⟩
 refine tn<|ctv o rfl D0<|th<|rg<|qm o rfl λo=>qv o (Nv o runUnderlying3 runUnderlying5 rfl) λo=>ls<|Bj (e:=5) (sz:=1) [.int .u8 (IntKind.u8.wrap p1)] o rfl u rfl rfl rfl (λw=>by kernel_rfl) λb5 w a u o=>?_
 have G0:Rows (α:=(IntK .u8)) H [.int .u8 (IntKind.u8.wrap p1)] ([(IntK.mk (IntKind.u8.wrap p1))]:List (IntK .u8)):=(.cons (c:=[.int .u8 (IntKind.u8.wrap p1)]) rfl .nil)
 refine qv o (Pz (xs:=([(IntK.mk (IntKind.u8.wrap p1))]:List (IntK .u8))) o underlying52 underlying5 underlying9 rfl (u.ld.rdO t0) G0) λo=>qa o rfl λo=>re<|tn<|wr<|tr<|?_
 obtain rfl:=si hm
 exact r1 o results29 rfl ⟨rfl,u.keep⟩
 refine tn<|cfv o rfl D0<|wk<|tn<|th<|?_
 obtain ⟨I0,E0,hm⟩:=bs hm
 obtain ⟨J0,F0,hm⟩:=bs hm
 refine rdS 11 u wide λw u=>dr 0 u o rfl (Ab o rfl) λo=>dr 1 u o rfl (Uc o rfl rfl (by decide)) λo=>dr 2 u o rfl (An o rfl rfl) λo=>dr 3 u o rfl (Nv o runUnderlying3 runUnderlying5 rfl) λo=>dr 6 u o rfl (Ab o rfl) λo=>dr 7 u o rfl (JcR o rfl rfl (by decide)) λo=>da2 (i:=4) (j:=8) (by kernel_rfl) ?_ ?_
 refine di (i:=4) rfl<|Bj (e:=5) (sz:=1) [.int .u8 (IntKind.u8.wrap (IntKind.i64.wrap (128+(p1.tmod 128))))] o rfl u rfl rfl rfl (λw=>by kernel_rfl) λb8 w a u o=>?_
 have A0:Rows (α:=(IntK .u8)) H [.int .u8 (IntKind.u8.wrap (IntKind.i64.wrap (128+(p1.tmod 128))))] ([(IntK.mk (IntKind.u8.wrap (IntKind.i64.wrap (128+(p1.tmod 128)))))]:List (IntK .u8)):=(.cons (c:=[.int .u8 (IntKind.u8.wrap (IntKind.i64.wrap (128+(p1.tmod 128))))]) rfl .nil)
 refine ⟨λ_=>(St.ldsX u i2 ta1),?_⟩
 refine da2 (i:=5) (j:=8) (by kernel_rfl) ?_ ?_
 refine di (i:=5) rfl<|q1 o rfl (Pz (xs:=([(IntK.mk (IntKind.u8.wrap (IntKind.i64.wrap (128+(p1.tmod 128)))))]:List (IntK .u8))) o underlying52 underlying5 underlying9 rfl (u.ld.rdO t0) A0) λa o=>⟨λ_=>(St.ldsX u i2 ta1),?_⟩
 refine da1 (i:=8) (by kernel_rfl) ?_
 refine di (i:=8) rfl<|cr o call29 (ih (Ah _) E0) u λu o=>⟨λ_=>(St.ldsX u i2 ta1),?_⟩
 refine ds 9 (St.ldsX u i2 ta1) o rfl (Bi o rfl rfl F0) λo=>ds 10 (St.ldsX u i2 ta1) o rfl (Bp o rfl) λo=>de (by kernel_rfl)<|tn<|wr<|?_
 obtain rfl:=si hm
 exact r1 o results29 rfl ⟨rfl,u.keep⟩
 refine di (i:=8) rfl<|cr o call29 (ih (Ah _) E0) u λu o=>⟨λ_=>(St.ldsX u i2 ta1),?_⟩
 refine da1 (i:=5) (by kernel_rfl) ?_
 refine di (i:=5) rfl<|q1 o rfl (Pz (xs:=([(IntK.mk (IntKind.u8.wrap (IntKind.i64.wrap (128+(p1.tmod 128)))))]:List (IntK .u8))) o underlying52 underlying5 underlying9 rfl (u.ld.rdO t0) A0) λa o=>⟨λ_=>(St.ldsX u i2 ta1),?_⟩
 refine ds 9 (St.ldsX u i2 ta1) o rfl (Bi o rfl rfl F0) λo=>ds 10 (St.ldsX u i2 ta1) o rfl (Bp o rfl) λo=>de (by kernel_rfl)<|tn<|wr<|?_
 obtain rfl:=si hm
 exact r1 o results29 rfl ⟨rfl,u.keep⟩
 refine di (i:=8) rfl<|cr o call29 (ih (Ah _) E0) u λu o=>⟨λ_=>u.ld,?_⟩
 refine da1 (i:=4) (by kernel_rfl) ?_
 refine di (i:=4) rfl<|Bj (e:=5) (sz:=1) [.int .u8 (IntKind.u8.wrap (IntKind.i64.wrap (128+(p1.tmod 128))))] o rfl u rfl rfl rfl (λw=>by kernel_rfl) λb8 w a u o=>?_
 have A0:Rows (α:=(IntK .u8)) H [.int .u8 (IntKind.u8.wrap (IntKind.i64.wrap (128+(p1.tmod 128))))] ([(IntK.mk (IntKind.u8.wrap (IntKind.i64.wrap (128+(p1.tmod 128)))))]:List (IntK .u8)):=(.cons (c:=[.int .u8 (IntKind.u8.wrap (IntKind.i64.wrap (128+(p1.tmod 128))))]) rfl .nil)
 refine ⟨λ_=>(St.ldsX u i2 ta1),?_⟩
 refine da1 (i:=5) (by kernel_rfl) ?_
 refine di (i:=5) rfl<|q1 o rfl (Pz (xs:=([(IntK.mk (IntKind.u8.wrap (IntKind.i64.wrap (128+(p1.tmod 128)))))]:List (IntK .u8))) o underlying52 underlying5 underlying9 rfl (u.ld.rdO t0) A0) λa o=>⟨λ_=>(St.ldsX u i2 ta1),?_⟩
 refine ds 9 (St.ldsX u i2 ta1) o rfl (Bi o rfl rfl F0) λo=>ds 10 (St.ldsX u i2 ta1) o rfl (Bp o rfl) λo=>de (by kernel_rfl)<|tn<|wr<|?_
 obtain rfl:=si hm
 exact r1 o results29 rfl ⟨rfl,u.keep⟩
theorem Jbs (hH:H.le w0) {F0:Option Addr} {C0:Nat} {p1:(List Int)} (V0:p1.length≤C0) (K0:SR H F0 p1) {r:Str} (hm:Z8k N p1=some r):Tot Tryz.prog 28 #[SL F0 p1 C0] w0 (λv w'=>v=Ag r∧Keep Nil w0 w'):=by
 unfold Z8k at hm
 refine fn0 func28 rfl ntmps28 rfl rfl λa o=>?_
 have u:St w0 Nil [H] [] w0:=start1 hH
 refine th<|rg<|qa o rfl λo=>re<|tn<|th<|?_
 obtain ⟨O0,h7,hm⟩:=bs hm
 refine rg<|qm o rfl λo=>qv o (Aj (α:=Int) (xs:=p1) o runUnderlying22 rfl) λo=>ls<|cr o call29 (Fg _ (Ah _) h7) u λu o=>qa o rfl λo=>re<|tn<|th<|th<|rg<|qa o rfl λo=>re<|tn<|Av (λa w=>∃ (G0:Str),Z8l G0=some r∧Fr 22 [(3,Ag G0)] a∧St w0 Nil [H] [] w) ?_ ?_
 refine wb<|lp (α:=Nat×Str×Int) (λgh a w=>match gh with | (A0,D0,E0)=>(Z8m N Z8l p1) A0 D0 E0=some r∧Fr 22 [(0,SL F0 p1 C0),(3,Ag D0),(4,i6 E0)] a∧St w0 Nil [H] [] w) (λgh=>gh.1) (N,O0,0) ⟨hm,o.hs,u⟩ ?_
 rintro ⟨A0,D0,E0⟩ a w ⟨hm,o,u⟩
 obtain _ | A0:=A0
 simp [Z8m] at hm
 rw [Z8m] at hm
 refine th<|th<|rg<|qm o rfl λo=>qm o rfl λo=>qv o (Aj (α:=Int) (xs:=p1) o runUnderlying22 rfl) λo=>qv o (Ak o rfl rfl) λo=>re<|?_
 rcases bip hm with ⟨I0,hm⟩ | ⟨I0,hm⟩
 refine tn<|ctv o rfl I0<|wk<|tn<|th<|wb<|?_
 obtain ⟨P0,J0,hm⟩:=bs hm
 obtain ⟨Q0,R0,M0⟩:=SR.get K0 J0
 obtain rfl:Q0=[i6 P0]:=R0
 obtain ⟨W0,S0,hm⟩:=bs hm
 obtain ⟨T0,U0,hm⟩:=bs hm
 refine rg<|qm o rfl λo=>?_
 iterate 2 refine qm o rfl λo=>?_
 refine qv o (Al o runUnderlying22 sizeOf3 rfl rfl J0 (SR.oaI K0 (by decide) J0)) λo=>qv o (Af o isAgg3 rfl (PH.le.cell (Lds.le u.ld) (M0 0 _ rfl))) λo=>ls<|cr o call29 (Fg _ (Ah _) S0) u λu o=>qv o (Bi o rfl rfl U0) λo=>qa o rfl λo=>re<|bn<|tn<|rg<|qm o rfl λo=>qv o (An o rfl rfl) λo=>qa o rfl λo=>re<|tn<|?_
 exact ⟨(A0,T0,(IntKind.i64.wrap (E0+1))),⟨hm,o.hs,u⟩,Nat.lt_succ_self _⟩
 refine tn<|cfv o rfl I0<|we<|tx<|tx<|bx<|tn<|?_
 exact ⟨D0,hm,o.has ⟨rfl,trivial⟩,u⟩
 rintro a w ⟨G0,hm,o,u⟩
 unfold Z8l at hm
 refine th<|rg<|qm o rfl λo=>qa o rfl λo=>re<|tn<|wr<|?_
 obtain rfl:=si hm
 exact r1 o results28 rfl ⟨rfl,u.keep⟩
theorem Xh (hH:H.le w0) {G0:Option Addr} {D0:Nat} {p1:(List api_Op)} (V0:p1.length≤D0) (I0:SR H G0 p1) {r:Str} (hm:Z8n N p1=some r):Tot Tryz.prog 31 #[SL G0 p1 D0] w0 (λv w'=>v=Ag r∧Keep Nil w0 w'):=by
 unfold Z8n at hm
 refine fn0 func31 rfl ntmps31 rfl rfl λa o=>?_
 have u:St w0 Nil [H] [] w0:=start1 hH
 refine th<|rg<|qa o rfl λo=>re<|tn<|th<|?_
 obtain ⟨O0,h7,hm⟩:=bs hm
 refine rg<|qm o rfl λo=>qv o (Aj (α:=api_Op) (xs:=p1) o runUnderlying54 rfl) λo=>ls<|cr o call29 (Fg _ (Ah _) h7) u λu o=>qa o rfl λo=>re<|tn<|th<|th<|rg<|qa o rfl λo=>re<|tn<|Av (λa w=>∃ (J0:Str),Z8o J0=some r∧Fr 30 [(3,Ag J0)] a∧St w0 Nil [H] [] w) ?_ ?_
 refine wb<|lp (α:=Nat×Str×Int) (λgh a w=>match gh with | (A0,E0,F0)=>(Z8p N Z8o p1) A0 E0 F0=some r∧Fr 30 [(0,SL G0 p1 D0),(3,Ag E0),(4,i6 F0)] a∧St w0 Nil [H] [] w) (λgh=>gh.1) (N,O0,0) ⟨hm,o.hs,u⟩ ?_
 rintro ⟨A0,E0,F0⟩ a w ⟨hm,o,u⟩
 obtain _ | A0:=A0
 simp [Z8p] at hm
 rw [Z8p] at hm
 refine th<|th<|rg<|qm o rfl λo=>qm o rfl λo=>qv o (Aj (α:=api_Op) (xs:=p1) o runUnderlying54 rfl) λo=>qv o (Ak o rfl rfl) λo=>re<|?_
 rcases bip hm with ⟨K0,hm⟩ | ⟨K0,hm⟩
 refine tn<|ctv o rfl K0<|wk<|tn<|th<|wb<|?_
 obtain ⟨W0,C0,hm⟩:=bs hm
 obtain ⟨X0,P0,M0⟩:=SR.get I0 C0
 obtain rfl:=Cs P0
 obtain ⟨Y0,Q0,hm⟩:=bs hm
 obtain ⟨j0,R0,hm⟩:=bs hm
 obtain ⟨n0,S0,hm⟩:=bs hm
 obtain ⟨T0,U0,hm⟩:=bs hm
 refine rdS 16 u wide λw u=>dr 0 u o rfl (Ab o rfl) λo=>dr 1 u o rfl (Ab o rfl) λo=>dr 2 u o rfl (Ab o rfl) λo=>dr 3 u o rfl (Al o runUnderlying54 sizeOf83 rfl rfl C0 (SR.oaI I0 (by decide) C0)) λo=>dr 4 u o rfl (Ae o Eb rfl) λo=>dq 5 u.ld o rfl (λw hl=>Af o isAgg3 rfl (PH.le.cell (Lds.le hl) (M0 0 _ rfl))) λo=>dr 7 u o rfl (Ab o rfl) λo=>dr 8 u o rfl (Ab o rfl) λo=>dr 9 u o rfl (Al o runUnderlying54 sizeOf83 rfl rfl C0 (SR.oaI I0 (by decide) C0)) λo=>dr 10 u o rfl (Ae o F8 rfl) λo=>dq 11 u.ld o rfl (λw hl=>Af o isAgg3 rfl (PH.le.cell (Lds.le hl) (M0 1 _ rfl))) λo=>da1 (i:=6) (by kernel_rfl) ?_
 refine di (i:=6) rfl<|cr o call29 (Fg _ (Ah _) Q0) u λu o=>⟨λ_=>u.ld,?_⟩
 refine da1 (i:=12) (by kernel_rfl) ?_
 refine di (i:=12) rfl<|cr o call29 (Fg _ (Ah _) R0) u λu o=>⟨λ_=>u.ld,?_⟩
 refine dr 13 u o rfl (Bi o rfl rfl S0) λo=>dr 14 u o rfl (Bi o rfl rfl U0) λo=>dr 15 u o rfl (Bp o rfl) λo=>de (by kernel_rfl)<|bn<|tn<|rg<|qm o rfl λo=>qv o (An o rfl rfl) λo=>qa o rfl λo=>re<|tn<|?_
 exact ⟨(A0,T0,(IntKind.i64.wrap (F0+1))),⟨hm,o.hs,u⟩,Nat.lt_succ_self _⟩
 refine tn<|cfv o rfl K0<|we<|tx<|tx<|bx<|tn<|?_
 exact ⟨E0,hm,o.has ⟨rfl,trivial⟩,u⟩
 rintro a w ⟨J0,hm,o,u⟩
 unfold Z8o at hm
 refine th<|rg<|qm o rfl λo=>qa o rfl λo=>re<|tn<|wr<|?_
 obtain rfl:=si hm
 exact r1 o results31 rfl ⟨rfl,u.keep⟩
theorem Jbl (hH:H.le w0) {cs2:List Value} {p1:api_Code} (g3:Enc.rep H cs2 p1) {r:Str} (hm:Z8h N p1=some r):Tot Tryz.prog 30 #[.agg cs2.toArray] w0 (λv w'=>v=Ag r∧Keep Nil w0 w'):=by
 unfold Z8h at hm
 refine fn0 func30 rfl ntmps30 rfl rfl λa o=>?_
 have u:St w0 Nil [H] [] w0:=start1 hH
 obtain ⟨J0,F0,rfl,V1,K0⟩:=Am g3
 refine th<|rg<|ls<|Br (cs:=[i6 p1.Regs,i6 p1.Counts,SL J0 p1.L F0].toArray) o rfl u rfl rfl λb8 w a u o=>qa o rfl λo=>re<|tn<|th<|?_
 obtain ⟨X1,S0,hm⟩:=bs hm
 obtain ⟨Y1,T0,hm⟩:=bs hm
 obtain ⟨u1,U0,hm⟩:=bs hm
 obtain ⟨B2,V0,hm⟩:=bs hm
 obtain ⟨W0,X0,hm⟩:=bs hm
 refine rdS 13 u wide λw u=>dr 0 u o rfl (Ae o Cz rfl) λo=>dq 1 u.ld o rfl (λw hl=>Af o isAgg3 rfl (hl.cellB t0 rfl)) λo=>dr 3 u o rfl (Ae o Gg rfl) λo=>dq 4 u.ld o rfl (λw hl=>Af o isAgg3 rfl (hl.cellB t0 rfl)) λo=>dr 7 u o rfl (Ae o Ch rfl) λo=>dq 8 u.ld o rfl (λw hl=>Af o isAgg24 rfl (hl.cellB t0 rfl)) λo=>dr 9 u o rfl (Aj (α:=api_Instr) (xs:=p1.L) o runUnderlying24 rfl) λo=>da1 (i:=2) (by kernel_rfl) ?_
 refine di (i:=2) rfl<|cr o call29 (Fg _ (Ah _) S0) u λu o=>⟨λ_=>u.ld,?_⟩
 refine da1 (i:=5) (by kernel_rfl) ?_
 refine di (i:=5) rfl<|cr o call29 (Fg _ (Ah _) T0) u λu o=>⟨λ_=>u.ld,?_⟩
 refine dr 6 u o rfl (Bi o rfl rfl U0) λo=>da1 (i:=10) (by kernel_rfl) ?_
 refine di (i:=10) rfl<|cr o call29 (Fg _ (Ah _) V0) u λu o=>⟨λ_=>u.ld,?_⟩
 refine dr 11 u o rfl (Bi o rfl rfl X0) λo=>dr 12 u o rfl (Bp o rfl) λo=>de (by kernel_rfl)<|tn<|th<|th<|rg<|qa o rfl λo=>re<|tn<|Av (λa w=>∃ (G0:Str),Z8i G0=some r∧Fr 56 [(3,Ag G0)] a∧St w0 Nil [H] [] w) ?_ ?_
 refine wb<|lp (α:=Nat×Str×Int) (λgh a w=>match gh with | (A0,D0,E0)=>(Z8j N Z8i p1) A0 D0 E0=some r∧Fr 56 [(1,PT b8),(3,Ag D0),(4,i6 E0)] a∧St w0 Nil [H] [bk b8 [i6 p1.Regs,i6 p1.Counts,SL J0 p1.L F0] 26] w) (λgh=>gh.1) (N,W0,0) ⟨hm,o.hs,u⟩ ?_
 rintro ⟨A0,D0,E0⟩ a w ⟨hm,o,u⟩
 obtain _ | A0:=A0
 simp [Z8j] at hm
 rw [Z8j] at hm
 refine th<|th<|rg<|qm o rfl λo=>qv o (Ae o Ch rfl) λo=>qv o (Af o isAgg24 rfl (u.ld.cellB t0 rfl)) λo=>qv o (Aj (α:=api_Instr) (xs:=p1.L) o runUnderlying24 rfl) λo=>qv o (Ak o rfl rfl) λo=>re<|?_
 rcases bip hm with ⟨C0,hm⟩ | ⟨C0,hm⟩
 refine tn<|ctv o rfl C0<|wk<|tn<|th<|wb<|th<|?_
 obtain ⟨C2,I0,hm⟩:=bs hm
 obtain ⟨E2,Y0,M0⟩:=SR.get K0 I0
 obtain ⟨T1,R1,U1,S1,rfl,O0,P0,Q0,R0⟩:=Au Y0
 refine rg<|qv o (Ae o Ch rfl) λo=>qv o (Af o isAgg24 rfl (u.ld.cellB t0 rfl)) λo=>qm o rfl λo=>qv o (Al o runUnderlying24 sizeOf85 rfl rfl I0 (SR.oaI K0 (by decide) I0)) λo=>qv o (Ar o isAgg85 sizeOf85 rfl rfl (λj v hj=>PH.le.cell (Lds.le u.ld) (M0 j v hj))) λo=>ls<|As (cs:=[i6 0,i6 0,i6 0,.slice none 0 0,.slice none 0 0,i6 0].toArray) o rfl u zeroValue85 rfl λF2 w a u o=>ls<|Bb o u sizeOf85 rfl rfl rfl rfl (Ao rfl) .head λw u=>re<|tn<|?_
 obtain ⟨G2,j0,hm⟩:=bs hm
 obtain ⟨I2,n0,hm⟩:=bs hm
 obtain ⟨J2,u0,hm⟩:=bs hm
 obtain ⟨K2,B1,hm⟩:=bs hm
 obtain ⟨O2,C1,hm⟩:=bs hm
 obtain ⟨P2,D1,hm⟩:=bs hm
 obtain ⟨Q2,E1,hm⟩:=bs hm
 obtain ⟨R2,F1,hm⟩:=bs hm
 obtain ⟨T2,I1,hm⟩:=bs hm
 obtain ⟨U2,J1,hm⟩:=bs hm
 obtain ⟨V2,O1,hm⟩:=bs hm
 obtain ⟨P1,Q1,hm⟩:=bs hm
 refine rdS 26 u wide λw u=>dr 0 u o rfl (Ab o rfl) λo=>dr 1 u o rfl (Ae o Ca rfl) λo=>dq 2 u.ld o rfl (λw hl=>Af o isAgg3 rfl (hl.cellB t0 rfl)) λo=>dr 4 u o rfl (Ae o Ck rfl) λo=>dq 5 u.ld o rfl (λw hl=>Af o isAgg3 rfl (hl.cellB t0 rfl)) λo=>dr 8 u o rfl (Ae o Ce rfl) λo=>dq 9 u.ld o rfl (λw hl=>Af o isAgg3 rfl (hl.cellB t0 rfl)) λo=>dr 12 u o rfl (Ae o Bq rfl) λo=>dq 13 u.ld o rfl (λw hl=>Af o isAgg3 rfl (hl.cellB t0 rfl)) λo=>dr 16 u o rfl (Ae o Cv rfl) λo=>dq 17 u.ld o rfl (λw hl=>Af o isAgg54 rfl (hl.cellB t0 rfl)) λo=>dr 20 u o rfl (Ae o Dv rfl) λo=>dq 21 u.ld o rfl (λw hl=>Af o isAgg54 rfl (hl.cellB t0 rfl)) λo=>da1 (i:=3) (by kernel_rfl) ?_
 refine di (i:=3) rfl<|cr o call29 (Fg _ (Ah _) j0) u λu o=>⟨λ_=>u.ld,?_⟩
 refine da1 (i:=6) (by kernel_rfl) ?_
 refine di (i:=6) rfl<|cr o call29 (Fg _ (Ah _) n0) u λu o=>⟨λ_=>u.ld,?_⟩
 refine dr 7 u o rfl (Bi o rfl rfl u0) λo=>da1 (i:=10) (by kernel_rfl) ?_
 refine di (i:=10) rfl<|cr o call29 (Fg _ (Ah _) B1) u λu o=>⟨λ_=>u.ld,?_⟩
 refine dr 11 u o rfl (Bi o rfl rfl C1) λo=>da1 (i:=14) (by kernel_rfl) ?_
 refine di (i:=14) rfl<|cr o call29 (Fg _ (Ah _) D1) u λu o=>⟨λ_=>u.ld,?_⟩
 refine dr 15 u o rfl (Bi o rfl rfl E1) λo=>da1 (i:=18) (by kernel_rfl) ?_
 refine di (i:=18) rfl<|cr o call31 (Xh (Ah _) O0 (St.srH u P0) F1) u λu o=>⟨λ_=>u.ld,?_⟩
 refine dr 19 u o rfl (Bi o rfl rfl I1) λo=>da1 (i:=22) (by kernel_rfl) ?_
 refine di (i:=22) rfl<|cr o call31 (Xh (Ah _) Q0 (St.srH u R0) J1) u λu o=>⟨λ_=>u.ld,?_⟩
 refine dr 23 u o rfl (Bi o rfl rfl O1) λo=>dr 24 u o rfl (Bi o rfl rfl Q1) λo=>dr 25 u o rfl (Bp o rfl) λo=>de (by kernel_rfl)<|bn<|tn<|rg<|qm o rfl λo=>qv o (An o rfl rfl) λo=>qa o rfl λo=>re<|tn<|?_
 replace u:=u.pk [1] rfl
 exact ⟨(A0,P1,(IntKind.i64.wrap (E0+1))),⟨hm,o.hs,u⟩,Nat.lt_succ_self _⟩
 refine tn<|cfv o rfl C0<|we<|tx<|tx<|bx<|tn<|?_
 replace u:=u.pickL .nil
 exact ⟨D0,hm,o.has ⟨rfl,trivial⟩,u⟩
 rintro a w ⟨G0,hm,o,u⟩
 unfold Z8i at hm
 refine th<|rg<|qm o rfl λo=>qa o rfl λo=>re<|tn<|wr<|?_
 obtain rfl:=si hm
 exact r1 o results30 rfl ⟨rfl,u.keep⟩
theorem JcU (hH:H.le w0) {cs2:List Value} {p1:api_Unit} (g3:Enc.rep H cs2 p1) {r:(Str×Int)} (hm:Z7x N p1=some r):Tot Tryz.prog 9 #[.agg cs2.toArray] w0 (λv w'=>v=.tuple #[Ag r.1,i6 r.2]∧Keep Nil w0 w'):=by
 unfold Z7x at hm
 refine fn0 func9 rfl ntmps9 rfl rfl λa o=>?_
 have u:St w0 Nil [H] [] w0:=start1 hH
 have g4:Enc.rep (α:=(List Int)×Int×(List Int)×Int×(List api_Code)×api_Code×(List (List api_Op))) H cs2 (p1.Lines,p1.Stays,p1.Firsts,p1.Locks,p1.Threads,p1.Recover,p1.Claims):=g3
 obtain ⟨qz5,qz6,rfl,g7,g8⟩:=g4
 obtain ⟨M0,C0,rfl,u0,B1⟩:=g7
 obtain ⟨q13,q14,rfl,G2,I2⟩:=g8
 obtain rfl:q13=[i6 p1.Stays]:=G2
 obtain ⟨q17,q18,rfl,J2,K2⟩:=I2
 obtain ⟨I0,D0,rfl,C1,D1⟩:=J2
 obtain ⟨q25,q26,rfl,O2,P2⟩:=K2
 obtain rfl:q25=[i6 p1.Locks]:=O2
 obtain ⟨q29,q30,rfl,Q2,R2⟩:=P2
 obtain ⟨J0,E0,rfl,T1,R0⟩:=Q2
 obtain ⟨q37,q38,rfl,T2,U2⟩:=R2
 obtain ⟨G0,A0,rfl,E1,F1⟩:=Am T2
 obtain ⟨K0,F0,rfl,U1,S0⟩:=U2
 refine th<|rg<|ls<|Br (cs:=[SL M0 p1.Lines C0,i6 p1.Stays,SL I0 p1.Firsts D0,i6 p1.Locks,SL J0 p1.Threads E0,i6 p1.Recover.Regs,i6 p1.Recover.Counts,SL G0 p1.Recover.L A0,SL K0 p1.Claims F0].toArray) o rfl u rfl rfl λO0 w a u o=>?_
 iterate 2 refine qa o rfl λo=>?_
 refine re<|tn<|th<|th<|?_
 obtain ⟨V3,V2,hm⟩:=bs hm
 refine rg<|qv o (Ar o Tryz.isAgg29 Tryz.sizeOf29 rfl rfl (u.ld.cellsB t0)) λo=>ls<|cr o call27 (JcT (Ah _) (Enc.mono (St.up u) (show Enc.rep (α:=api_Unit) H [SL M0 p1.Lines C0,i6 p1.Stays,SL I0 p1.Firsts D0,i6 p1.Locks,SL J0 p1.Threads E0,i6 p1.Recover.Regs,i6 p1.Recover.Counts,SL G0 p1.Recover.L A0,SL K0 p1.Claims F0] p1 from ⟨_,_,rfl,⟨_,_,rfl,u0,B1⟩,⟨_,_,rfl,rfl,⟨_,_,rfl,⟨_,_,rfl,C1,D1⟩,⟨_,_,rfl,rfl,⟨_,_,rfl,⟨_,_,rfl,T1,R0⟩,⟨_,_,rfl,⟨_,_,rfl,rfl,⟨_,_,rfl,rfl,⟨_,_,rfl,E1,F1⟩⟩⟩,⟨_,_,rfl,U1,S0⟩⟩⟩⟩⟩⟩⟩)) V2) u λu o=>qv o (A9 o rfl) λo=>re<|?_
 rcases bit hm with ⟨T0,hm⟩ | ⟨T0,hm⟩
 refine tn<|cfv o rfl (by rw [T0];rfl)<|wk<|tn<|th<|?_
 obtain ⟨W3,W2,hm⟩:=bs hm
 obtain ⟨X3,X2,hm⟩:=bs hm
 obtain ⟨Y3,Y2,hm⟩:=bs hm
 obtain ⟨l3,u2,hm⟩:=bs hm
 obtain ⟨n3,A3,hm⟩:=bs hm
 obtain ⟨u3,B3,hm⟩:=bs hm
 obtain ⟨A4,C3,hm⟩:=bs hm
 obtain ⟨B4,D3,hm⟩:=bs hm
 obtain ⟨E3,F3,hm⟩:=bs hm
 refine rdS 21 u wide λw u=>dr 0 u o rfl (Ae o Cc rfl) λo=>dq 1 u.ld o rfl (λw hl=>Af o isAgg22 rfl (hl.cellB t0 rfl)) λo=>dr 3 u o rfl (Ae o Cr rfl) λo=>dq 4 u.ld o rfl (λw hl=>Af o isAgg3 rfl (hl.cellB t0 rfl)) λo=>dr 7 u o rfl (Ae o Ei rfl) λo=>dq 8 u.ld o rfl (λw hl=>Af o isAgg22 rfl (hl.cellB t0 rfl)) λo=>dr 11 u o rfl (Ae o Fa rfl) λo=>dq 12 u.ld o rfl (λw hl=>Af o isAgg3 rfl (hl.cellB t0 rfl)) λo=>dr 15 u o rfl (Ae o Cg rfl) λo=>dq 16 u.ld o rfl (λw hl=>Af o isAgg23 rfl (hl.cellB t0 rfl)) λo=>dr 17 u o rfl (Aj (α:=api_Code) (xs:=p1.Threads) o runUnderlying23 rfl) λo=>da1 (i:=2) (by kernel_rfl) ?_
 refine di (i:=2) rfl<|cr o call28 (Jbs (Ah _) u0 (St.srH u B1) W2) u λu o=>⟨λ_=>u.ld,?_⟩
 refine da1 (i:=5) (by kernel_rfl) ?_
 refine di (i:=5) rfl<|cr o call29 (Fg _ (Ah _) X2) u λu o=>⟨λ_=>u.ld,?_⟩
 refine dr 6 u o rfl (Bi o rfl rfl Y2) λo=>da1 (i:=9) (by kernel_rfl) ?_
 refine di (i:=9) rfl<|cr o call28 (Jbs (Ah _) C1 (St.srH u D1) u2) u λu o=>⟨λ_=>u.ld,?_⟩
 refine dr 10 u o rfl (Bi o rfl rfl A3) λo=>da1 (i:=13) (by kernel_rfl) ?_
 refine di (i:=13) rfl<|cr o call29 (Fg _ (Ah _) B3) u λu o=>⟨λ_=>u.ld,?_⟩
 refine dr 14 u o rfl (Bi o rfl rfl C3) λo=>da1 (i:=18) (by kernel_rfl) ?_
 refine di (i:=18) rfl<|cr o call29 (Fg _ (Ah _) D3) u λu o=>⟨λ_=>u.ld,?_⟩
 refine dr 19 u o rfl (Bi o rfl rfl F3) λo=>dr 20 u o rfl (Bp o rfl) λo=>de (by kernel_rfl)<|tn<|th<|th<|rg<|qa o rfl λo=>re<|tn<|Av (λa w=>∃ (I1:Str),(Z7y N p1) I1=some r∧Fr 71 [(1,PT O0),(4,Ag I1)] a∧St w0 Nil [H] [bk O0 [SL M0 p1.Lines C0,i6 p1.Stays,SL I0 p1.Firsts D0,i6 p1.Locks,SL J0 p1.Threads E0,i6 p1.Recover.Regs,i6 p1.Recover.Counts,SL G0 p1.Recover.L A0,SL K0 p1.Claims F0] 29] w) ?_ ?_
 refine wb<|lp (α:=Nat×Str×Int) (λgh a w=>match gh with | (P0,W0,X0)=>(Z80 N (Z7y N p1) p1) P0 W0 X0=some r∧Fr 71 [(1,PT O0),(4,Ag W0),(5,i6 X0)] a∧St w0 Nil [H] [bk O0 [SL M0 p1.Lines C0,i6 p1.Stays,SL I0 p1.Firsts D0,i6 p1.Locks,SL J0 p1.Threads E0,i6 p1.Recover.Regs,i6 p1.Recover.Counts,SL G0 p1.Recover.L A0,SL K0 p1.Claims F0] 29] w) (λgh=>gh.1) (N,E3,0) ⟨hm,o.hs,u⟩ ?_
 rintro ⟨P0,W0,X0⟩ a w ⟨hm,o,u⟩
 obtain _ | P0:=P0
 simp [Z80] at hm
 rw [Z80] at hm
 refine th<|th<|rg<|qm o rfl λo=>qv o (Ae o Cg rfl) λo=>qv o (Af o isAgg23 rfl (u.ld.cellB t0 rfl)) λo=>qv o (Aj (α:=api_Code) (xs:=p1.Threads) o runUnderlying23 rfl) λo=>qv o (Ak o rfl rfl) λo=>re<|?_
 rcases bip hm with ⟨U0,hm⟩ | ⟨U0,hm⟩
 refine tn<|ctv o rfl U0<|wk<|tn<|th<|wb<|?_
 obtain ⟨Y0,J1,hm⟩:=bs hm
 obtain ⟨C4,G3,V1⟩:=SR.get R0 J1
 obtain ⟨X1,Q1,rfl,Y1,u1⟩:=Am G3
 obtain ⟨D4,I3,hm⟩:=bs hm
 obtain ⟨J3,K3,hm⟩:=bs hm
 refine rg<|qm o rfl λo=>qv o (Ae o Cg rfl) λo=>qv o (Af o isAgg23 rfl (u.ld.cellB t0 rfl)) λo=>qm o rfl λo=>qv o (Al o runUnderlying23 sizeOf26 rfl rfl J1 (SR.oaI R0 (by decide) J1)) λo=>qv o (Ar o isAgg26 sizeOf26 rfl rfl (λj v hj=>PH.le.cell (Lds.le u.ld) (V1 j v hj))) λo=>ls<|cr o call30 (Jbl (Ah _) (Enc.mono (St.up u) (show Enc.rep (α:=api_Code) H [i6 Y0.Regs,i6 Y0.Counts,SL X1 Y0.L Q1] Y0 from ⟨_,_,rfl,rfl,⟨_,_,rfl,rfl,⟨_,_,rfl,Y1,u1⟩⟩⟩)) I3) u λu o=>qv o (Bi o rfl rfl K3) λo=>qa o rfl λo=>re<|bn<|tn<|rg<|qm o rfl λo=>qv o (An o rfl rfl) λo=>qa o rfl λo=>re<|tn<|?_
 exact ⟨(P0,J3,(IntKind.i64.wrap (X0+1))),⟨hm,o.hs,u⟩,Nat.lt_succ_self _⟩
 refine tn<|cfv o rfl U0<|we<|tx<|tx<|bx<|tn<|?_
 exact ⟨W0,hm,o.has ⟨rfl,rfl,trivial⟩,u⟩
 rintro a w ⟨I1,hm,o,u⟩
 unfold Z7y at hm
 refine th<|?_
 obtain ⟨E4,L3,hm⟩:=bs hm
 obtain ⟨F4,M3,hm⟩:=bs hm
 obtain ⟨G4,O3,hm⟩:=bs hm
 obtain ⟨P3,Q3,hm⟩:=bs hm
 refine rdS 11 u wide λw u=>dr 0 u o rfl (Ab o rfl) λo=>dr 1 u o rfl (Ae o Hk rfl) λo=>dq 2 u.ld o rfl (λw hl=>Ar o isAgg26 sizeOf26 rfl rfl (Lds.cellsP (pre:=[SL M0 p1.Lines C0,i6 p1.Stays,SL I0 p1.Firsts D0,i6 p1.Locks,SL J0 p1.Threads E0]) (vs:=[i6 p1.Recover.Regs,i6 p1.Recover.Counts,SL G0 p1.Recover.L A0]) (post:=[SL K0 p1.Claims F0]) hl t0)) λo=>dr 4 u o rfl (Ae o Dm rfl) λo=>dq 5 u.ld o rfl (λw hl=>Af o isAgg27 rfl (hl.cellB t0 rfl)) λo=>dr 6 u o rfl (Aj (α:=(List api_Op)) (xs:=p1.Claims) o runUnderlying27 rfl) λo=>da1 (i:=3) (by kernel_rfl) ?_
 refine di (i:=3) rfl<|cr o call30 (Jbl (Ah _) (Enc.mono (St.up u) (show Enc.rep (α:=api_Code) H [i6 p1.Recover.Regs,i6 p1.Recover.Counts,SL G0 p1.Recover.L A0] p1.Recover from ⟨_,_,rfl,rfl,⟨_,_,rfl,rfl,⟨_,_,rfl,E1,F1⟩⟩⟩)) L3) u λu o=>⟨λ_=>u.ld,?_⟩
 refine da1 (i:=7) (by kernel_rfl) ?_
 refine di (i:=7) rfl<|cr o call29 (Fg _ (Ah _) M3) u λu o=>⟨λ_=>u.ld,?_⟩
 refine dr 8 u o rfl (Bi o rfl rfl O3) λo=>dr 9 u o rfl (Bi o rfl rfl Q3) λo=>dr 10 u o rfl (Bp o rfl) λo=>de (by kernel_rfl)<|tn<|th<|th<|rg<|qa o rfl λo=>re<|tn<|Av (λa w=>∃ (O1:Str),Z7z O1=some r∧Fr 71 [(4,Ag O1)] a∧St w0 Nil [H] [] w) ?_ ?_
 refine wb<|lp (α:=Nat×Str×Int) (λgh a w=>match gh with | (Q0,j0,n0)=>(Z81 N Z7z p1) Q0 j0 n0=some r∧Fr 71 [(1,PT O0),(4,Ag j0),(6,i6 n0)] a∧St w0 Nil [H] [bk O0 [SL M0 p1.Lines C0,i6 p1.Stays,SL I0 p1.Firsts D0,i6 p1.Locks,SL J0 p1.Threads E0,i6 p1.Recover.Regs,i6 p1.Recover.Counts,SL G0 p1.Recover.L A0,SL K0 p1.Claims F0] 29] w) (λgh=>gh.1) (N,P3,0) ⟨hm,o.hs,u⟩ ?_
 rintro ⟨Q0,j0,n0⟩ a w ⟨hm,o,u⟩
 obtain _ | Q0:=Q0
 simp [Z81] at hm
 rw [Z81] at hm
 refine th<|th<|rg<|qm o rfl λo=>qv o (Ae o Dm rfl) λo=>qv o (Af o isAgg27 rfl (u.ld.cellB t0 rfl)) λo=>qv o (Aj (α:=(List api_Op)) (xs:=p1.Claims) o runUnderlying27 rfl) λo=>qv o (Ak o rfl rfl) λo=>re<|?_
 rcases bip hm with ⟨V0,hm⟩ | ⟨V0,hm⟩
 refine tn<|ctv o rfl V0<|wk<|tn<|th<|wb<|?_
 obtain ⟨I4,P1,hm⟩:=bs hm
 obtain ⟨J4,R3,B2⟩:=SR.get S0 P1
 obtain ⟨T3,S3,rfl,R1,S1⟩:=R3
 obtain ⟨U3,C2,hm⟩:=bs hm
 obtain ⟨E2,F2,hm⟩:=bs hm
 refine rg<|qm o rfl λo=>qv o (Ae o Dm rfl) λo=>qv o (Af o isAgg27 rfl (u.ld.cellB t0 rfl)) λo=>qm o rfl λo=>qv o (Al o runUnderlying27 sizeOf54 rfl rfl P1 (SR.oaI S0 (by decide) P1)) λo=>qv o (Af o isAgg54 rfl (PH.le.cell (Lds.le u.ld) (B2 0 _ rfl))) λo=>ls<|cr o call31 (Xh (Ah _) R1 (St.srH u S1) C2) u λu o=>qv o (Bi o rfl rfl F2) λo=>qa o rfl λo=>re<|bn<|tn<|rg<|qm o rfl λo=>qv o (An o rfl rfl) λo=>qa o rfl λo=>re<|tn<|?_
 exact ⟨(Q0,E2,(IntKind.i64.wrap (n0+1))),⟨hm,o.hs,u⟩,Nat.lt_succ_self _⟩
 refine tn<|cfv o rfl V0<|we<|tx<|tx<|bx<|tn<|?_
 replace u:=u.pickL .nil
 exact ⟨j0,hm,o.has ⟨rfl,trivial⟩,u⟩
 rintro a w ⟨O1,hm,o,u⟩
 unfold Z7z at hm
 refine th<|rg<|qm o rfl λo=>?_
 iterate 2 refine qa o rfl λo=>?_
 refine re<|tn<|wr<|?_
 obtain rfl:=si hm
 exact r2 o results9 rfl rfl ⟨rfl,u.keep⟩
 refine tn<|ctv o rfl (by rw [T0];rfl)<|th<|rg<|qa o rfl λo=>qa o rfl λo=>re<|tn<|wr<|tr<|?_
 obtain rfl:=si hm
 exact r2 o results9 rfl rfl ⟨rfl,u.keep⟩
end Go.LM.BINZ
