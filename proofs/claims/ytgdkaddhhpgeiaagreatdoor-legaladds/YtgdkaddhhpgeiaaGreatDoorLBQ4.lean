/- Walks, lifted by program. No condition beyond the theorems' own premises. -/
import Derived.Test.YtgdkaddhhpgeiaaGreatDoorLBQ3
namespace Go.LM.LB
open Go Go.LL Go.MD Go.LM Go.Proofs Go.MD.LB Go.Proofs.Tryz
set_option maxRecDepth 100000
variable {N:Nat} {w0:World} {H:PH}
set_option maxHeartbeats 4000000 in
theorem Sb (hH:H.le w0) {b2:Nat} {p1:leadlineref05_In} {oa3:Option Addr} {cap4:Nat} (W3:p1.L.length≤cap4) (X3:SR H oa3 p1.L) {p7:Bool} (hO:(sepA [bk b2 [SL oa3 p1.L cap4,i6 p1.At,i6 p1.E,i6 p1.Pos] 125]).ok (hp w0)) (hD:∀ b,(sepA [bk b2 [SL oa3 p1.L cap4,i6 p1.At,i6 p1.E,i6 p1.Pos] 125]).fp b→H b=none) {r:((List api_Cell)×leadlineref05_In)} (hm:Z4n N p1 p7=some r):Tot Tryz.prog 103 #[PT b2,.bool p7] w0 (λv w'=>∃ (A3:Option Addr) (J2:Nat) (B3:List Value) (oa1m:Option Addr) (cap1m:Nat),v=SL A3 r.1 J2∧(∀ h,Rows h B3 r.1)∧r.2.L.length≤cap1m∧SR H oa1m r.2.L∧Mut w0 (sepA [bk b2 [SL oa3 p1.L cap4,i6 p1.At,i6 p1.E,i6 p1.Pos] 125]) (sepA [bk b2 [SL oa1m r.2.L cap1m,i6 r.2.At,i6 r.2.E,i6 r.2.Pos] 125,sla 53 3 A3 r.1.length J2 B3]) w'):=by
 unfold Z4n at hm
 refine fn0 func103 rfl ntmps103 rfl rfl λa o=>?_
 have u:=Cg hH hO hD
 refine th<|rg<|qa o rfl λo=>re<|tn<|th<|rg<|ls<|Bh (e:=53) (sz:=3) [] o rfl u rfl rfl rfl (λw=>by kernel_rfl) λb9 w a u o=>?_
 have Y3:Rows (α:=api_Cell) H [] []:=.nil
 refine qa o rfl λo=>re<|tn<|th<|th<|rg<|qa o rfl λo=>re<|tn<|Ay (λa w=>∃ (j0:(List api_Token)) (Q1:Int) (R1:Int) (S1:Int) (T1:(List api_Cell)) (n0:Option Addr) (R0:Nat) (J1:Option Addr) (p0:Nat) (M1:List Value),(Z4o N) j0 Q1 R1 S1 T1=some r∧Fr 79 [(0,PT b2),(5,SL J1 T1 p0)] a∧St w0 (sepA [bk b2 [SL oa3 p1.L cap4,i6 p1.At,i6 p1.E,i6 p1.Pos] 125]).fp [H] [bk b2 [SL n0 j0 R0,i6 Q1,i6 R1,i6 S1] 125,sla 53 3 J1 T1.length p0 M1] w∧j0.length≤R0∧SR H n0 j0∧Rows H M1 T1) ?_ ?_
 replace u:=u.pk [1,0] rfl
 refine wb<|lp (α:=Nat×(List api_Token)×Int×Int×Int×(List api_Cell)×Bool) (λgh a w=>match gh with | (X0,Y0,F1,u0,G1,G0,O1)=>∃ (W0:Option Addr) (P0:Nat) (F0:Option Addr) (C0:Nat) (K0:List Value),(Z4s N (Z4o N) p7) X0 Y0 F1 u0 G1 G0 O1=some r∧Fr 79 [(0,PT b2),(1,.bool p7),(5,SL F0 G0 C0),(6,.bool O1)] a∧St w0 (sepA [bk b2 [SL oa3 p1.L cap4,i6 p1.At,i6 p1.E,i6 p1.Pos] 125]).fp [H] [bk b2 [SL W0 Y0 P0,i6 F1,i6 u0,i6 G1] 125,sla 53 3 F0 G0.length C0 K0] w∧Y0.length≤P0∧SR H W0 Y0∧Rows H K0 G0) (λgh=>gh.1) (N,p1.L,p1.At,p1.E,p1.Pos,[],true) ⟨oa3,cap4,(some ⟨b9,0,none⟩),0,[],hm,o.hs,u,W3,X3,Y3⟩ ?_
 rintro ⟨X0,Y0,F1,u0,G1,G0,O1⟩ a w ⟨W0,P0,F0,C0,K0,hm,o,u,hcB4,hrB5,G2⟩
 obtain _ | X0:=X0
 simp [Z4s] at hm
 rw [Z4s] at hm
 refine th<|th<|rg<|qm o rfl λo=>qm o rfl λo=>gr (Fk:=[(0,PT b2),(1,.bool p7),(5,SL F0 G0 C0),(16,.bool (O1 && (decide (u0=0))))]) 10 6 o u ?_ ?_ ?_
 intro hb o key
 exact qg o (Ab o rfl) λo=>qg o (Aj o rfl) λo=>qg o (Ag o Cj rfl) λo=>qg o (Ah o isAgg29 rfl (u.ld.cellB t0 rfl)) λo=>qg o (Am o rfl rfl) λo=>qk o (Ad o rfl rfl) key u hb
 intro hb o key
 iterate 5 refine qn o λo=>?_
 exact qk o (Ae o rfl rfl) key u hb
 intro a w o u
 refine re<|?_
 rcases bit hm with ⟨X1,hm⟩ | ⟨X1,hm⟩
 refine tn<|ctv o rfl X1<|wk<|tn<|th<|wb<|th<|?_
 obtain ⟨E0,l3,hm⟩:=bs hm
 refine rg<|qm o rfl λo=>?_
 replace u:=u.pk [0,0] rfl
 replace u:=St.sep [bk b2 [SL W0 Y0 P0,i6 F1,i6 u0,i6 G1] 125] u
 refine ls<|c1 o rfl call104 (Xm (St.le u) (p1:=(leadlineref05_In.mk Y0 F1 u0 G1)) (b2:=b2) (oa3:=W0) (cap4:=P0) hcB4 hrB5 (St.sepOk u) (St.sepDis u) l3) ⟨rfl,trivial⟩ (λv w a hR o=>?_)
 obtain ⟨Y1,P1,rfl,K2,M2,hk⟩:=hR
 replace u:=(u.mut hk .head).unsep
 refine ls<|Ap (cs:=[Ac [],i6 0,i6 0].toArray) o rfl u zeroValue53 rfl λI1 w a u o=>ls<|Aw o u sizeOf53 rfl rfl rfl rfl (Ak rfl) .head λw u=>re<|tn<|th<|th<|Ay (λa w=>∃ (J0:(List api_Token)) (S0:Int) (T0:Int) (U0:Int) (O2:Bool) (M0:Option Addr) (I0:Nat),(Z4p N (Z4s N (Z4o N) p7 X0) E0 G0) J0 S0 T0 U0 O2=some r∧Fr 79 [(0,PT b2),(1,.bool p7),(5,SL F0 G0 C0),(7,PT I1),(25,.bool O2)] a∧St w0 (sepA [bk b2 [SL oa3 p1.L cap4,i6 p1.At,i6 p1.E,i6 p1.Pos] 125]).fp [H] [bk b2 [SL M0 J0 I0,i6 S0,i6 T0,i6 U0] 125,sla 53 3 F0 G0.length C0 K0,bk I1 [Ac E0.1.Name,i6 E0.1.N,i6 E0.1.At] 53] w∧J0.length≤I0∧SR H M0 J0) ?_ ?_
 rcases bit hm with ⟨B2,hm⟩ | ⟨B2,hm⟩
 obtain ⟨U1,A4,hm⟩:=bs hm
 refine rg<|qm o rfl λo=>qv o (An (Ab o rfl) (congrArg Value.bool B2)) λo=>qg o (Ab o rfl) λo=>?_
 replace u:=u.pk [1,0,0] rfl
 replace u:=St.sep [bk b2 [SL Y1 E0.2.L P1,i6 E0.2.At,i6 E0.2.E,i6 E0.2.Pos] 125] u
 refine ls<|gy o rfl rfl<|c1 o rfl call102 (Hm (St.le u) (p1:=E0.2) (b2:=b2) (oa3:=Y1) (cap4:=P1) K2 M2 (St.sepOk u) (St.sepDis u) A4) ⟨rfl,rfl,trivial⟩ (λv w a hR o=>?_)
 obtain ⟨C3,T2,rfl,D3,E3,hk⟩:=hR
 replace u:=(u.mut hk .head).unsep
 refine qv o (Ad o rfl rfl) λo=>re<|tn<|?_
 replace u:=u.pk [0,1,0] rfl
 exact ⟨U1.2.L,U1.2.At,U1.2.E,U1.2.Pos,U1.1,C3,T2,hm,o.hs,u,D3,E3⟩
 refine rg<|qm o rfl λo=>qv o (An (Ab o rfl) (congrArg Value.bool B2)) λo=>?_
 iterate 2 refine qn o λo=>?_
 refine qv o (Ae o rfl rfl) λo=>re<|tn<|?_
 replace u:=u.pk [1,1,0] rfl
 exact ⟨E0.2.L,E0.2.At,E0.2.E,E0.2.Pos,false,Y1,P1,hm,o.hs,u,K2,M2⟩
 rintro a w ⟨J0,S0,T0,U0,O2,M0,I0,hm,o,u,hcC4,hrC5⟩
 unfold Z4p at hm
 refine Ay (λa w=>∃ (Q0:(List api_Token)) (B1:Int) (C1:Int) (E1:Int) (D0:api_Cell) (V0:Option Addr) (O0:Nat),(Z4q N (Z4s N (Z4o N) p7 X0) G0) Q0 B1 C1 E1 D0=some r∧Fr 79 [(0,PT b2),(1,.bool p7),(5,SL F0 G0 C0),(7,PT I1)] a∧St w0 (sepA [bk b2 [SL oa3 p1.L cap4,i6 p1.At,i6 p1.E,i6 p1.Pos] 125]).fp [H] [bk b2 [SL V0 Q0 O0,i6 B1,i6 C1,i6 E1] 125,sla 53 3 F0 G0.length C0 K0,bk I1 [Ac D0.Name,i6 D0.N,i6 D0.At] 53] w∧Q0.length≤O0∧SR H V0 Q0) ?_ ?_
 rcases bit hm with ⟨C2,hm⟩ | ⟨C2,hm⟩
 refine ctv o rfl C2<|th<|Ay (λa w=>∃ (P2:Bool),(Z4r N (Z4q N (Z4s N (Z4o N) p7 X0) G0) E0 J0 S0 T0 U0) P2=some r∧Fr 79 [(0,PT b2),(1,.bool p7),(5,SL F0 G0 C0),(7,PT I1),(49,.bool P2)] a∧St w0 (sepA [bk b2 [SL oa3 p1.L cap4,i6 p1.At,i6 p1.E,i6 p1.Pos] 125]).fp [H] [bk b2 [SL M0 J0 I0,i6 S0,i6 T0,i6 U0] 125,sla 53 3 F0 G0.length C0 K0,bk I1 [Ac E0.1.Name,i6 E0.1.N,i6 E0.1.At] 53] w) ?_ ?_
 rcases bip hm with ⟨E2,hm⟩ | ⟨E2,hm⟩
 obtain ⟨B4,Q2,hm⟩:=bs hm
 obtain ⟨L4,C4,F3⟩:=SR.get hrC5 Q2
 obtain rfl:=Ba C4
 refine rxS 24 u wide (by kernel_rfl) λw u=>xm u o rfl λo=>xr u o (Aj o rfl) λo=>xr u o (Ag o Bg rfl) λo=>xq u.ld o (λw hl=>Ah o isAgg3 rfl (hl.cellB t0 rfl)) λo=>xm u o rfl λo=>xr u o (Aj o rfl) λo=>xr u o (Ag o Ca rfl) λo=>xq u.ld o (λw hl=>Ah o isAgg120 rfl (hl.cellB t0 rfl)) λo=>xr u o (Al (α:=api_Token) (xs:=J0) o runUnderlying120 rfl) λo=>xr u o (Au o rfl rfl) λo=>xr u o (An (Ab o rfl) (congrArg Value.bool E2)) λo=>xg u.ld o (λw hl=>Ab o rfl) λo=>xg u.ld o (λw hl=>Aj o rfl) λo=>xg u.ld o (λw hl=>Ag o Ca rfl) λo=>xg u.ld o (λw hl=>Ah o isAgg120 rfl (hl.cellB t0 rfl)) λo=>xg u.ld o (λw hl=>Ab o rfl) λo=>xg u.ld o (λw hl=>Aj o rfl) λo=>xg u.ld o (λw hl=>Ag o Bg rfl) λo=>xg u.ld o (λw hl=>Ah o isAgg3 rfl (hl.cellB t0 rfl)) λo=>xg u.ld o (λw hl=>Aq o runUnderlying120 sizeOf130 rfl rfl Q2 (SR.oaI hrC5 (by decide) Q2)) λo=>xg u.ld o (λw hl=>Ag o Ck rfl) λo=>xg u.ld o (λw hl=>Ah o isAgg3 rfl (PH.le.cell (Lds.le hl) (F3 0 _ rfl))) λo=>xg u.ld o (λw hl=>Am o rfl rfl) λo=>xr u o (Ad o rfl rfl) λo=>xe<|tn<|?_
 exact ⟨(decide (B4.Kind=2)),hm,o.hs,u⟩
 refine rxS 24 u wide (by kernel_rfl) λw u=>xm u o rfl λo=>xr u o (Aj o rfl) λo=>xr u o (Ag o Bg rfl) λo=>xq u.ld o (λw hl=>Ah o isAgg3 rfl (hl.cellB t0 rfl)) λo=>xm u o rfl λo=>xr u o (Aj o rfl) λo=>xr u o (Ag o Ca rfl) λo=>xq u.ld o (λw hl=>Ah o isAgg120 rfl (hl.cellB t0 rfl)) λo=>xr u o (Al (α:=api_Token) (xs:=J0) o runUnderlying120 rfl) λo=>xr u o (Au o rfl rfl) λo=>xr u o (An (Ab o rfl) (congrArg Value.bool E2)) λo=>?_
 iterate 12 refine xn u.ld o λo=>?_
 refine xr u o (Ae o rfl rfl) λo=>xe<|tn<|?_
 exact ⟨false,hm,o.hs,u⟩
 rintro a w ⟨P2,hm,o,u⟩
 unfold Z4r at hm
 rcases bit hm with ⟨F2,hm⟩ | ⟨F2,hm⟩
 refine ctv o rfl F2<|th<|?_
 obtain ⟨D4,R2,hm⟩:=bs hm
 obtain ⟨M4,E4,G3⟩:=SR.get hrC5 R2
 obtain rfl:=Ba E4
 refine rxS 12 u wide (by kernel_rfl) λw u=>xm u o rfl λo=>xr u o (Aj o rfl) λo=>xr u o (Ag o Ca rfl) λo=>xq u.ld o (λw hl=>Ah o isAgg120 rfl (hl.cellB t0 rfl)) λo=>xm u o rfl λo=>xr u o (Aj o rfl) λo=>xr u o (Ag o Bg rfl) λo=>xq u.ld o (λw hl=>Ah o isAgg3 rfl (hl.cellB t0 rfl)) λo=>xr u o (Aq o runUnderlying120 sizeOf130 rfl rfl R2 (SR.oaI hrC5 (by decide) R2)) λo=>xr u o (Ag o Fq rfl) λo=>xq u.ld o (λw hl=>Ah o isAgg3 rfl (PH.le.cell (Lds.le hl) (G3 2 _ rfl))) λo=>xr u o (Ag o Is rfl) λo=>xz rfl<|As o u sizeOf3 rfl rfl rfl rfl (.tail (.tail .head)) (.succ .zero) λw u=>tn<|rg<|qm o rfl λo=>qm o rfl λo=>qv o (Aj o rfl) λo=>qv o (Ag o Bg rfl) λo=>qv o (Ah o isAgg3 rfl (u.ld.cellB t0 rfl)) λo=>qv o (Ao o rfl rfl) λo=>qv o (Aj o rfl) λo=>qv o (Ag o Bg rfl) λo=>ls<|As o u sizeOf3 rfl rfl rfl rfl .head (.succ .zero) λw u=>re<|tn<|?_
 exact ⟨J0,(IntKind.i64.wrap (S0+1)),T0,U0,(api_Cell.mk E0.1.Name D4.N E0.1.At),M0,I0,hm,o.hs,u,hcC4,hrC5⟩
 refine cfv o rfl F2<|?_
 obtain ⟨I2,F4,hm⟩:=bs hm
 refine rg<|qm o rfl λo=>?_
 replace u:=u.pk [0,0,0] rfl
 replace u:=St.sep [bk b2 [SL M0 J0 I0,i6 S0,i6 T0,i6 U0] 125] u
 refine ls<|c1 o rfl call107 (Rc (St.le u) (p1:=(leadlineref05_In.mk J0 S0 T0 U0)) (b2:=b2) (oa3:=M0) (cap4:=I0) hcC4 hrC5 (St.sepOk u) (St.sepDis u) F4) ⟨rfl,trivial⟩ (λv w a hR o=>?_)
 obtain ⟨I3,U2,rfl,J3,K3,hk⟩:=hR
 replace u:=(u.mut hk .head).unsep
 refine re<|tn<|?_
 exact ⟨I2.L,I2.At,I2.E,I2.Pos,E0.1,I3,U2,hm,o.hs,u,J3,K3⟩
 refine cfv o rfl C2<|wk<|tn<|?_
 exact ⟨J0,S0,T0,U0,E0.1,M0,I0,hm,o.hs,u,hcC4,hrC5⟩
 rintro a w ⟨Q0,B1,C1,E1,D0,V0,O0,hm,o,u,hcC13,hrC14⟩
 unfold Z4q at hm
 obtain ⟨G4,I4,hm⟩:=bs hm
 refine rg<|qm o rfl λo=>qv o (Ar o isAgg53 sizeOf53 rfl rfl (u.ld.cellsB t2)) λo=>ls<|Bh (e:=53) (sz:=3) [Ac D0.Name,i6 D0.N,i6 D0.At] o rfl u rfl rfl rfl (λw=>by kernel_rfl) λO4 w a u o=>?_
 have L3:Rows (α:=api_Cell) H [Ac D0.Name,i6 D0.N,i6 D0.At] ([D0]:List api_Cell):=(.cons (c:=[Ac D0.Name,i6 D0.N,i6 D0.At]) ⟨_,_,rfl,rfl,⟨_,_,rfl,rfl,rfl⟩⟩ .nil)
 refine ls<|Cc (α:=api_Cell) (xs:=G0) (ys:=([D0]:List api_Cell)) o rfl u underlying23 Jc rfl (by decide) rfl rfl rfl t2 G2 (u.rdO t0) L3 I4 λM3 V2 O3 w a P3 hU o=>?_
 replace u:=hU _ (.tail (.tail .head))
 replace u:=u.drop .head
 refine qa o rfl λo=>re<|bn<|tn<|?_
 obtain ⟨V1,J4,hm⟩:=bs hm
 refine rg<|qm o rfl λo=>?_
 replace u:=u.pk [0,0,0] rfl
 replace u:=St.sep [bk b2 [SL V0 Q0 O0,i6 B1,i6 C1,i6 E1] 125] u
 refine ls<|c1 o rfl call102 (Hm (St.le u) (p1:=(leadlineref05_In.mk Q0 B1 C1 E1)) (b2:=b2) (oa3:=V0) (cap4:=O0) hcC13 hrC14 (St.sepOk u) (St.sepDis u) J4) ⟨rfl,rfl,trivial⟩ (λv w a hR o=>?_)
 obtain ⟨Q3,W2,rfl,R3,S3,hk⟩:=hR
 replace u:=(u.mut hk .head).unsep
 refine qa o rfl λo=>re<|tn<|?_
 replace u:=u.pk [0,0] rfl
 exact ⟨(X0,V1.2.L,V1.2.At,V1.2.E,V1.2.Pos,G4,V1.1),⟨Q3,W2,M3,V2,O3,hm,o.hs,u,R3,S3,P3⟩,Nat.lt_succ_self _⟩
 refine tn<|cfv o rfl X1<|we<|tx<|tx<|bx<|tn<|?_
 exact ⟨Y0,F1,u0,G1,G0,W0,P0,F0,C0,K0,hm,o.has ⟨rfl,rfl,trivial⟩,u,hcB4,hrB5,G2⟩
 rintro a w ⟨j0,Q1,R1,S1,T1,n0,R0,J1,p0,M1,hm,o,u,hcA4,hrA5,X2⟩
 unfold Z4o at hm
 refine th<|?_
 obtain ⟨P4,K4,hm⟩:=bs hm
 refine rg<|qm o rfl λo=>?_
 replace u:=u.pk [0,0] rfl
 replace u:=St.sep [bk b2 [SL n0 j0 R0,i6 Q1,i6 R1,i6 S1] 125] u
 refine ls<|c1 o rfl call140 (Vg (St.le u) (p1:=(leadlineref05_In.mk j0 Q1 R1 S1)) (b2:=b2) (oa3:=n0) (cap4:=R0) hcA4 hrA5 (St.sepOk u) (St.sepDis u) K4) ⟨rfl,rfl,trivial⟩ (λv w a hR o=>?_)
 obtain ⟨T3,Y2,rfl,U3,V3,hk⟩:=hR
 replace u:=(u.mut hk .head).unsep
 refine re<|tn<|th<|rg<|qm o rfl λo=>qa o rfl λo=>re<|tn<|wr<|?_
 obtain rfl:=si hm
 exact r1 o results103 rfl ⟨_,_,_,T3,Y2,rfl,(λ_=>Rows.ind X2),U3,V3,(u.pickL (.cons .head (.cons .head .nil))).endMut⟩
theorem JaN (hH:H.le w0) {p1:Int} {r:Str} (hm:Z43 N p1=some r):Tot Tryz.prog 166 #[i6 p1] w0 (λv w'=>v=Ac r∧Keep Nil w0 w'):=by
 unfold Z43 at hm
 refine fn0 func166 rfl ntmps166 rfl rfl λa o=>?_
 have u:St w0 Nil [H] [] w0:=start1 hH
 refine th<|rg<|qa o rfl λo=>re<|tn<|th<|?_
 obtain ⟨D0,h6,hm⟩:=bs hm
 refine rg<|ls<|Bh (e:=9) (sz:=1) [Ac [],Ac [],Ac [108,111,97,100],Ac [115,116,111,114,101],Ac [99,97,115],Ac [102,108,117,115,104],Ac [111,112,116],Ac [115,102,101,110,99,101],Ac [109,102,101,110,99,101],Ac [116,97,107,101],Ac [103,105,118,101],Ac [105,102],Ac [108,111,111,112],Ac [98,114,101,97,107],Ac [99,104,101,99,107]] o rfl u rfl rfl rfl (λw=>by kernel_rfl) λb3 w a u o=>?_
 have C0:Rows (α:=Str) H [Ac [],Ac [],Ac [108,111,97,100],Ac [115,116,111,114,101],Ac [99,97,115],Ac [102,108,117,115,104],Ac [111,112,116],Ac [115,102,101,110,99,101],Ac [109,102,101,110,99,101],Ac [116,97,107,101],Ac [103,105,118,101],Ac [105,102],Ac [108,111,111,112],Ac [98,114,101,97,107],Ac [99,104,101,99,107]] ([[],[],[108,111,97,100],[115,116,111,114,101],[99,97,115],[102,108,117,115,104],[111,112,116],[115,102,101,110,99,101],[109,102,101,110,99,101],[116,97,107,101],[103,105,118,101],[105,102],[108,111,111,112],[98,114,101,97,107],[99,104,101,99,107]]:List Str):=(.cons (c:=[Ac []]) rfl (.cons (c:=[Ac []]) rfl (.cons (c:=[Ac [108,111,97,100]]) rfl (.cons (c:=[Ac [115,116,111,114,101]]) rfl (.cons (c:=[Ac [99,97,115]]) rfl (.cons (c:=[Ac [102,108,117,115,104]]) rfl (.cons (c:=[Ac [111,112,116]]) rfl (.cons (c:=[Ac [115,102,101,110,99,101]]) rfl (.cons (c:=[Ac [109,102,101,110,99,101]]) rfl (.cons (c:=[Ac [116,97,107,101]]) rfl (.cons (c:=[Ac [103,105,118,101]]) rfl (.cons (c:=[Ac [105,102]]) rfl (.cons (c:=[Ac [108,111,111,112]]) rfl (.cons (c:=[Ac [98,114,101,97,107]]) rfl (.cons (c:=[Ac [99,104,101,99,107]]) rfl .nil)))))))))))))))
 refine qm o rfl λo=>qv o (Aq o runUnderlying36 sizeOf9 rfl rfl h6 (Rd.oaI (u.ld.rdO t0) C0 (by decide) h6)) λo=>?_
 obtain ⟨cz7,g8,E0⟩:=Rows.getI C0 h6
 obtain rfl:cz7=[Ac D0]:=g8
 refine qv o (Ah o isAgg9 rfl (u.ld.elO t0 (E0 0 _ rfl))) λo=>qa o rfl λo=>re<|tn<|wr<|?_
 obtain rfl:=si hm
 exact r1 o results166 rfl ⟨rfl,u.keep⟩
theorem Mh (hH:H.le w0) {b2:Nat} {p1:leadlineref04_P} {oa3:Option Addr} {cap4:Nat} (C0:p1.L.length≤cap4) (D0:SR H oa3 p1.L) {oa7:Option Addr} {cap8:Nat} {vs9:List Value} (E0:Rows H vs9 p1.Out) {p12:Int} (hO:(sepA [bk b2 [SL oa3 p1.L cap4,i6 p1.At,i6 p1.E,i6 p1.Pos,SL oa7 p1.Out cap8] 171,sla 51 9 oa7 p1.Out.length cap8 vs9]).ok (hp w0)) (hD:∀ b,(sepA [bk b2 [SL oa3 p1.L cap4,i6 p1.At,i6 p1.E,i6 p1.Pos,SL oa7 p1.Out cap8] 171,sla 51 9 oa7 p1.Out.length cap8 vs9]).fp b→H b=none) {r:leadlineref04_P} (hm:Z34 N p1 p12=some r):Tot Tryz.prog 167 #[PT b2,i6 p12] w0 (λv w'=>∃ (H':PH) (oa1m:Option Addr) (cap1m:Nat) (oa2m:Option Addr) (cap2m:Nat) (vs2m:List Value),v=.tuple #[]∧r.L.length≤cap1m∧SR H' oa1m r.L∧Rows H' vs2m r.Out∧ExtM w0 (sepA [bk b2 [SL oa3 p1.L cap4,i6 p1.At,i6 p1.E,i6 p1.Pos,SL oa7 p1.Out cap8] 171,sla 51 9 oa7 p1.Out.length cap8 vs9]).fp H H'∧H'.le w'∧(∀ b,(sepA [bk b2 [SL oa1m r.L cap1m,i6 r.At,i6 r.E,i6 r.Pos,SL oa2m r.Out cap2m] 171,sla 51 9 oa2m r.Out.length cap2m vs2m]).fp b→H' b=none)∧Mut w0 (sepA [bk b2 [SL oa3 p1.L cap4,i6 p1.At,i6 p1.E,i6 p1.Pos,SL oa7 p1.Out cap8] 171,sla 51 9 oa7 p1.Out.length cap8 vs9]) (sepA [bk b2 [SL oa1m r.L cap1m,i6 r.At,i6 r.E,i6 r.Pos,SL oa2m r.Out cap2m] 171,sla 51 9 oa2m r.Out.length cap2m vs2m]) w'):=by
 unfold Z34 at hm
 refine fn0 func167 rfl ntmps167 rfl rfl λa o=>?_
 have u:=Cg hH hO hD
 refine th<|rg<|qm o rfl λo=>qv o (Aj o rfl) λo=>qv o (Ag o Bs rfl) λo=>qv o (Ah o isAgg29 rfl (u.ld.cellB t0 rfl)) λo=>qv o (Am o rfl rfl) λo=>re<|?_
 rcases bip hm with ⟨G0,hm⟩ | ⟨G0,hm⟩
 refine tn<|ctv o rfl G0<|th<|rg<|qm o rfl λo=>qm o rfl λo=>qv o (Aj o rfl) λo=>qv o (Ag o Bs rfl) λo=>ls<|As o u sizeOf29 rfl rfl rfl rfl .head (.succ (.succ .zero)) λw u=>re<|tn<|th<|th<|rxS 10 u wide (by kernel_rfl) λw u=>xm u o rfl λo=>xr u o (Aj o rfl) λo=>xr u o (Ag o Be rfl) λo=>xq u.ld o (λw hl=>Ah o isAgg3 rfl (hl.cellB t0 rfl)) λo=>xm u o rfl λo=>xr u o (Aj o rfl) λo=>xr u o (Ag o Br rfl) λo=>xq u.ld o (λw hl=>Ah o isAgg120 rfl (hl.cellB t0 rfl)) λo=>xr u o (Al (α:=api_Token) (xs:=p1.L) o runUnderlying120 rfl) λo=>xr u o (Bm o rfl rfl) λo=>xe<|tn<|Ay (λa w=>∃ (J0:Int),(Z35 N p1) J0=some r∧Fr 38 [(0,PT b2)] a∧St w0 (sepA [bk b2 [SL oa3 p1.L cap4,i6 p1.At,i6 p1.E,i6 p1.Pos,SL oa7 p1.Out cap8] 171,sla 51 9 oa7 p1.Out.length cap8 vs9]).fp [H] [sla 51 9 oa7 p1.Out.length cap8 vs9,bk b2 [SL oa3 p1.L cap4,i6 p1.At,i6 J0,i6 p1.Pos,SL oa7 p1.Out cap8] 171] w) ?_ ?_
 rcases bip hm with ⟨I0,hm⟩ | ⟨I0,hm⟩
 refine ctv o rfl I0<|rg<|qm o rfl λo=>qv o (Aj o rfl) λo=>qv o (Ag o Bs rfl) λo=>ls<|As o u sizeOf29 rfl rfl rfl rfl .head (.succ (.succ .zero)) λw u=>re<|tn<|?_
 replace u:=u.pk [1,0] rfl
 exact ⟨6,hm,o.has ⟨rfl,trivial⟩,u⟩
 refine cfv o rfl I0<|wk<|tn<|?_
 replace u:=u.pk [1,0] rfl
 exact ⟨p12,hm,o.has ⟨rfl,trivial⟩,u⟩
 rintro a w ⟨J0,hm,o,u⟩
 unfold Z35 at hm
 obtain ⟨K0,F0,hm⟩:=bs hm
 refine rdL (Aa t0 Af) 13 u wide λw u=>ds 0 (St.ldsX u i2 (Aa t0 Af)) o rfl (Ab o rfl) λo=>ds 1 (St.ldsX u i2 (Aa t0 Af)) o rfl (Ab o rfl) λo=>ds 2 (St.ldsX u i2 (Aa t0 Af)) o rfl (Aj o rfl) λo=>ds 3 (St.ldsX u i2 (Aa t0 Af)) o rfl (Ag o Br rfl) λo=>da2 (i:=4) (j:=5) (by kernel_rfl) ?_ ?_
 refine di (i:=4) rfl<|q1 o rfl (Ah o isAgg120 rfl (u.ld.cellB t1 rfl)) λa o=>⟨λ_=>(St.ldsX u i2 (Aa t0 Af)),?_⟩
 refine ds 5 (St.ldsX u i2 (Aa t0 Af)) o rfl (Ab o rfl) λo=>ds 6 (St.ldsX u i2 (Aa t0 Af)) o rfl (Aj o rfl) λo=>ds 7 (St.ldsX u i2 (Aa t0 Af)) o rfl (Ag o Be rfl) λo=>da1 (i:=8) (by kernel_rfl) ?_
 refine di (i:=8) rfl<|q1 o rfl (Ah o isAgg3 rfl (u.ld.cellB t1 rfl)) λa o=>⟨λ_=>(St.ldsX u i2 (Aa t0 Af)),?_⟩
 refine da1 (i:=9) (by kernel_rfl) ?_
 refine di (i:=9) rfl<|cr o call143 (Ft (Ai _) C0 (St.srH u D0) F0) u λu o=>⟨λ_=>(St.ldsX u i2 (Aa t0 Af)),?_⟩
 refine ds 10 (St.ldsX u i2 (Aa t0 Af)) o rfl (Aj o rfl) λo=>ds 11 (St.ldsX u i2 (Aa t0 Af)) o rfl (Ag o Fj rfl) λo=>da1 (i:=12) (by kernel_rfl) ?_
 refine di (i:=12) rfl<|As o u sizeOf3 rfl rfl rfl rfl (.tail .head) (.succ (.succ (.succ .zero))) λw u=>⟨λ_=>(St.ldsX u i2 (Aa t0 Af)),?_⟩
 refine de (by kernel_rfl)<|?_
 obtain rfl:=si hm
 exact r0n o results167 ⟨H,oa3,cap4,oa7,cap8,vs9,rfl,C0,D0,E0,(ExtM.refl _ _ _),(St.le u),(St.disL (u.pickL (.cons (.tail .head) (.cons .head .nil)))),(u.pickL (.cons (.tail .head) (.cons .head .nil))).endMut⟩
 refine di (i:=5) rfl<|q1 o rfl (Ab o rfl) λa o=>⟨λ_=>(St.ldsX u i2 (Aa t0 Af)),?_⟩
 refine da2 (i:=4) (j:=6) (by kernel_rfl) ?_ ?_
 refine di (i:=4) rfl<|q1 o rfl (Ah o isAgg120 rfl (u.ld.cellB t1 rfl)) λa o=>⟨λ_=>(St.ldsX u i2 (Aa t0 Af)),?_⟩
 refine ds 6 (St.ldsX u i2 (Aa t0 Af)) o rfl (Aj o rfl) λo=>ds 7 (St.ldsX u i2 (Aa t0 Af)) o rfl (Ag o Be rfl) λo=>da1 (i:=8) (by kernel_rfl) ?_
 refine di (i:=8) rfl<|q1 o rfl (Ah o isAgg3 rfl (u.ld.cellB t1 rfl)) λa o=>⟨λ_=>(St.ldsX u i2 (Aa t0 Af)),?_⟩
 refine da1 (i:=9) (by kernel_rfl) ?_
 refine di (i:=9) rfl<|cr o call143 (Ft (Ai _) C0 (St.srH u D0) F0) u λu o=>⟨λ_=>(St.ldsX u i2 (Aa t0 Af)),?_⟩
 refine ds 10 (St.ldsX u i2 (Aa t0 Af)) o rfl (Aj o rfl) λo=>ds 11 (St.ldsX u i2 (Aa t0 Af)) o rfl (Ag o Fj rfl) λo=>da1 (i:=12) (by kernel_rfl) ?_
 refine di (i:=12) rfl<|As o u sizeOf3 rfl rfl rfl rfl (.tail .head) (.succ (.succ (.succ .zero))) λw u=>⟨λ_=>(St.ldsX u i2 (Aa t0 Af)),?_⟩
 refine de (by kernel_rfl)<|?_
 obtain rfl:=si hm
 exact r0n o results167 ⟨H,oa3,cap4,oa7,cap8,vs9,rfl,C0,D0,E0,(ExtM.refl _ _ _),(St.le u),(St.disL (u.pickL (.cons (.tail .head) (.cons .head .nil)))),(u.pickL (.cons (.tail .head) (.cons .head .nil))).endMut⟩
 refine di (i:=6) rfl<|q1 o rfl (Aj o rfl) λa o=>⟨λ_=>(St.ldsX u i2 (Aa t0 Af)),?_⟩
 refine da2 (i:=4) (j:=7) (by kernel_rfl) ?_ ?_
 refine di (i:=4) rfl<|q1 o rfl (Ah o isAgg120 rfl (u.ld.cellB t1 rfl)) λa o=>⟨λ_=>(St.ldsX u i2 (Aa t0 Af)),?_⟩
 refine ds 7 (St.ldsX u i2 (Aa t0 Af)) o rfl (Ag o Be rfl) λo=>da1 (i:=8) (by kernel_rfl) ?_
 refine di (i:=8) rfl<|q1 o rfl (Ah o isAgg3 rfl (u.ld.cellB t1 rfl)) λa o=>⟨λ_=>(St.ldsX u i2 (Aa t0 Af)),?_⟩
 refine da1 (i:=9) (by kernel_rfl) ?_
 refine di (i:=9) rfl<|cr o call143 (Ft (Ai _) C0 (St.srH u D0) F0) u λu o=>⟨λ_=>(St.ldsX u i2 (Aa t0 Af)),?_⟩
 refine ds 10 (St.ldsX u i2 (Aa t0 Af)) o rfl (Aj o rfl) λo=>ds 11 (St.ldsX u i2 (Aa t0 Af)) o rfl (Ag o Fj rfl) λo=>da1 (i:=12) (by kernel_rfl) ?_
 refine di (i:=12) rfl<|As o u sizeOf3 rfl rfl rfl rfl (.tail .head) (.succ (.succ (.succ .zero))) λw u=>⟨λ_=>(St.ldsX u i2 (Aa t0 Af)),?_⟩
 refine de (by kernel_rfl)<|?_
 obtain rfl:=si hm
 exact r0n o results167 ⟨H,oa3,cap4,oa7,cap8,vs9,rfl,C0,D0,E0,(ExtM.refl _ _ _),(St.le u),(St.disL (u.pickL (.cons (.tail .head) (.cons .head .nil)))),(u.pickL (.cons (.tail .head) (.cons .head .nil))).endMut⟩
 refine di (i:=7) rfl<|q1 o rfl (Ag o Be rfl) λa o=>⟨λ_=>(St.ldsX u i2 (Aa t0 Af)),?_⟩
 refine da2 (i:=4) (j:=8) (by kernel_rfl) ?_ ?_
 refine di (i:=4) rfl<|q1 o rfl (Ah o isAgg120 rfl (u.ld.cellB t1 rfl)) λa o=>⟨λ_=>(St.ldsX u i2 (Aa t0 Af)),?_⟩
 refine da1 (i:=8) (by kernel_rfl) ?_
 refine di (i:=8) rfl<|q1 o rfl (Ah o isAgg3 rfl (u.ld.cellB t1 rfl)) λa o=>⟨λ_=>(St.ldsX u i2 (Aa t0 Af)),?_⟩
 refine da1 (i:=9) (by kernel_rfl) ?_
 refine di (i:=9) rfl<|cr o call143 (Ft (Ai _) C0 (St.srH u D0) F0) u λu o=>⟨λ_=>(St.ldsX u i2 (Aa t0 Af)),?_⟩
 refine ds 10 (St.ldsX u i2 (Aa t0 Af)) o rfl (Aj o rfl) λo=>ds 11 (St.ldsX u i2 (Aa t0 Af)) o rfl (Ag o Fj rfl) λo=>da1 (i:=12) (by kernel_rfl) ?_
 refine di (i:=12) rfl<|As o u sizeOf3 rfl rfl rfl rfl (.tail .head) (.succ (.succ (.succ .zero))) λw u=>⟨λ_=>(St.ldsX u i2 (Aa t0 Af)),?_⟩
 refine de (by kernel_rfl)<|?_
 obtain rfl:=si hm
 exact r0n o results167 ⟨H,oa3,cap4,oa7,cap8,vs9,rfl,C0,D0,E0,(ExtM.refl _ _ _),(St.le u),(St.disL (u.pickL (.cons (.tail .head) (.cons .head .nil)))),(u.pickL (.cons (.tail .head) (.cons .head .nil))).endMut⟩
 refine di (i:=8) rfl<|q1 o rfl (Ah o isAgg3 rfl (u.ld.cellB t1 rfl)) λa o=>⟨λ_=>(St.ldsX u i2 (Aa t0 Af)),?_⟩
 refine da1 (i:=4) (by kernel_rfl) ?_
 refine di (i:=4) rfl<|q1 o rfl (Ah o isAgg120 rfl (u.ld.cellB t1 rfl)) λa o=>⟨λ_=>(St.ldsX u i2 (Aa t0 Af)),?_⟩
 refine da1 (i:=9) (by kernel_rfl) ?_
 refine di (i:=9) rfl<|cr o call143 (Ft (Ai _) C0 (St.srH u D0) F0) u λu o=>⟨λ_=>(St.ldsX u i2 (Aa t0 Af)),?_⟩
 refine ds 10 (St.ldsX u i2 (Aa t0 Af)) o rfl (Aj o rfl) λo=>ds 11 (St.ldsX u i2 (Aa t0 Af)) o rfl (Ag o Fj rfl) λo=>da1 (i:=12) (by kernel_rfl) ?_
 refine di (i:=12) rfl<|As o u sizeOf3 rfl rfl rfl rfl (.tail .head) (.succ (.succ (.succ .zero))) λw u=>⟨λ_=>(St.ldsX u i2 (Aa t0 Af)),?_⟩
 refine de (by kernel_rfl)<|?_
 obtain rfl:=si hm
 exact r0n o results167 ⟨H,oa3,cap4,oa7,cap8,vs9,rfl,C0,D0,E0,(ExtM.refl _ _ _),(St.le u),(St.disL (u.pickL (.cons (.tail .head) (.cons .head .nil)))),(u.pickL (.cons (.tail .head) (.cons .head .nil))).endMut⟩
 refine tn<|cfv o rfl G0<|wk<|?_
 obtain rfl:=si hm
 exact r0n o results167 ⟨H,oa3,cap4,oa7,cap8,vs9,rfl,C0,D0,E0,(ExtM.refl _ _ _),(St.le u),(St.disL (u.pickL (.cons .head (.cons .head .nil)))),(u.pickL (.cons .head (.cons .head .nil))).endMut⟩
set_option maxHeartbeats 4000000 in
theorem Ko (hH:H.le w0) {b2:Nat} {p1:leadlineref04_P} {oa3:Option Addr} {cap4:Nat} (S0:p1.L.length≤cap4) (C0:SR H oa3 p1.L) {oa7:Option Addr} {cap8:Nat} {vs9:List Value} (M0:Rows H vs9 p1.Out) (hO:(sepA [bk b2 [SL oa3 p1.L cap4,i6 p1.At,i6 p1.E,i6 p1.Pos,SL oa7 p1.Out cap8] 171,sla 51 9 oa7 p1.Out.length cap8 vs9]).ok (hp w0)) (hD:∀ b,(sepA [bk b2 [SL oa3 p1.L cap4,i6 p1.At,i6 p1.E,i6 p1.Pos,SL oa7 p1.Out cap8] 171,sla 51 9 oa7 p1.Out.length cap8 vs9]).fp b→H b=none) {r:(Str×leadlineref04_P)} (hm:Z3f N p1=some r):Tot Tryz.prog 175 #[PT b2] w0 (λv w'=>∃ (H':PH) (oa1m:Option Addr) (cap1m:Nat) (oa2m:Option Addr) (cap2m:Nat) (vs2m:List Value),v=Ac r.1∧r.2.L.length≤cap1m∧SR H' oa1m r.2.L∧Rows H' vs2m r.2.Out∧ExtM w0 (sepA [bk b2 [SL oa3 p1.L cap4,i6 p1.At,i6 p1.E,i6 p1.Pos,SL oa7 p1.Out cap8] 171,sla 51 9 oa7 p1.Out.length cap8 vs9]).fp H H'∧H'.le w'∧(∀ b,(sepA [bk b2 [SL oa1m r.2.L cap1m,i6 r.2.At,i6 r.2.E,i6 r.2.Pos,SL oa2m r.2.Out cap2m] 171,sla 51 9 oa2m r.2.Out.length cap2m vs2m]).fp b→H' b=none)∧Mut w0 (sepA [bk b2 [SL oa3 p1.L cap4,i6 p1.At,i6 p1.E,i6 p1.Pos,SL oa7 p1.Out cap8] 171,sla 51 9 oa7 p1.Out.length cap8 vs9]) (sepA [bk b2 [SL oa1m r.2.L cap1m,i6 r.2.At,i6 r.2.E,i6 r.2.Pos,SL oa2m r.2.Out cap2m] 171,sla 51 9 oa2m r.2.Out.length cap2m vs2m]) w'):=by
 unfold Z3f at hm
 refine fn0 func175 rfl ntmps175 rfl rfl λa o=>?_
 have u:=Cg hH hO hD
 refine th<|rg<|qa o rfl λo=>re<|tn<|th<|th<|Ay (λa w=>∃ (O0:Bool),(Z3g N p1) O0=some r∧Fr 70 [(0,PT b2),(47,.bool O0)] a∧St w0 (sepA [bk b2 [SL oa3 p1.L cap4,i6 p1.At,i6 p1.E,i6 p1.Pos,SL oa7 p1.Out cap8] 171,sla 51 9 oa7 p1.Out.length cap8 vs9]).fp [H] [sla 51 9 oa7 p1.Out.length cap8 vs9,bk b2 [SL oa3 p1.L cap4,i6 p1.At,i6 p1.E,i6 p1.Pos,SL oa7 p1.Out cap8] 171] w) ?_ ?_
 rcases bip hm with ⟨D0,hm⟩ | ⟨D0,hm⟩
 rcases bip hm with ⟨F0,hm⟩ | ⟨F0,hm⟩
 obtain ⟨F1,E0,hm⟩:=bs hm
 obtain ⟨G1,p0,I0⟩:=SR.get C0 E0
 obtain rfl:=Ba p0
 rcases bip hm with ⟨J0,hm⟩ | ⟨J0,hm⟩
 obtain ⟨u0,B1,hm⟩:=bs hm
 refine rdS 45 u wide λw u=>dr 0 u o rfl (Ab o rfl) λo=>dr 1 u o rfl (Aj o rfl) λo=>dr 2 u o rfl (Ag o Bs rfl) λo=>dq 3 u.ld o rfl (λw hl=>Ah o isAgg29 rfl (hl.cellB t0 rfl)) λo=>dr 4 u o rfl (Am o rfl rfl) λo=>dr 5 u o rfl (An (Ab o rfl) (congrArg Value.bool D0)) λo=>dg 6 u.ld o rfl (λw hl=>Ab o rfl) λo=>dg 7 u.ld o rfl (λw hl=>Aj o rfl) λo=>dg 8 u.ld o rfl (λw hl=>Ag o Be rfl) λo=>dg 9 u.ld o rfl (λw hl=>Ah o isAgg3 rfl (hl.cellB t0 rfl)) λo=>dg 10 u.ld o rfl (λw hl=>Ab o rfl) λo=>dg 11 u.ld o rfl (λw hl=>Aj o rfl) λo=>dg 12 u.ld o rfl (λw hl=>Ag o Br rfl) λo=>dg 13 u.ld o rfl (λw hl=>Ah o isAgg120 rfl (hl.cellB t0 rfl)) λo=>dg 14 u.ld o rfl (λw hl=>Al (α:=api_Token) (xs:=p1.L) o runUnderlying120 rfl) λo=>dg 15 u.ld o rfl (λw hl=>Au o rfl rfl) λo=>dr 16 u o rfl (Ad o rfl rfl) λo=>dr 17 u o rfl (An (Ab o rfl) (congrArg Value.bool F0)) λo=>dg 18 u.ld o rfl (λw hl=>Ab o rfl) λo=>dg 19 u.ld o rfl (λw hl=>Aj o rfl) λo=>dg 20 u.ld o rfl (λw hl=>Ag o Br rfl) λo=>dg 21 u.ld o rfl (λw hl=>Ah o isAgg120 rfl (hl.cellB t0 rfl)) λo=>dg 22 u.ld o rfl (λw hl=>Ab o rfl) λo=>dg 23 u.ld o rfl (λw hl=>Aj o rfl) λo=>dg 24 u.ld o rfl (λw hl=>Ag o Be rfl) λo=>dg 25 u.ld o rfl (λw hl=>Ah o isAgg3 rfl (hl.cellB t0 rfl)) λo=>dg 26 u.ld o rfl (λw hl=>Aq o runUnderlying120 sizeOf130 rfl rfl E0 (SR.oaI C0 (by decide) E0)) λo=>dg 27 u.ld o rfl (λw hl=>Ag o Ck rfl) λo=>dg 28 u.ld o rfl (λw hl=>Ah o isAgg3 rfl (PH.le.cell (Lds.le hl) (I0 0 _ rfl))) λo=>dg 29 u.ld o rfl (λw hl=>Am o rfl rfl) λo=>?_
 refine dr 30 u o rfl (Ad o rfl rfl) λo=>dr 31 u o rfl (An (Ab o rfl) (congrArg Value.bool J0)) λo=>dg 32 u.ld o rfl (λw hl=>Ab o rfl) λo=>dg 33 u.ld o rfl (λw hl=>Aj o rfl) λo=>dg 34 u.ld o rfl (λw hl=>Ag o Br rfl) λo=>dg 35 u.ld o rfl (λw hl=>Ah o isAgg120 rfl (hl.cellB t0 rfl)) λo=>dg 36 u.ld o rfl (λw hl=>Ab o rfl) λo=>dg 37 u.ld o rfl (λw hl=>Aj o rfl) λo=>dg 38 u.ld o rfl (λw hl=>Ag o Be rfl) λo=>dg 39 u.ld o rfl (λw hl=>Ah o isAgg3 rfl (hl.cellB t0 rfl)) λo=>dg 40 u.ld o rfl (λw hl=>Aq o runUnderlying120 sizeOf130 rfl rfl E0 (SR.oaI C0 (by decide) E0)) λo=>dg 41 u.ld o rfl (λw hl=>Ag o Dw rfl) λo=>dg 42 u.ld o rfl (λw hl=>Ah o isAgg9 rfl (PH.le.cell (Lds.le hl) (I0 1 _ rfl))) λo=>da1 (i:=43) (by kernel_rfl) ?_
 refine di (i:=43) rfl<|gy o rfl rfl<|cr o call114 (Tz (Ai _) B1) u λu o=>⟨λ_=>u.ld,?_⟩
 refine dr 44 u o rfl (Ad o rfl rfl) λo=>de (by kernel_rfl)<|tn<|?_
 replace u:=u.pk [1,0] rfl
 exact ⟨u0,hm,o.has ⟨rfl,rfl,trivial⟩,u⟩
 refine rxS 45 u wide (by kernel_rfl) λw u=>xm u o rfl λo=>xr u o (Aj o rfl) λo=>xr u o (Ag o Bs rfl) λo=>xq u.ld o (λw hl=>Ah o isAgg29 rfl (hl.cellB t0 rfl)) λo=>xr u o (Am o rfl rfl) λo=>xr u o (An (Ab o rfl) (congrArg Value.bool D0)) λo=>xg u.ld o (λw hl=>Ab o rfl) λo=>xg u.ld o (λw hl=>Aj o rfl) λo=>xg u.ld o (λw hl=>Ag o Be rfl) λo=>xg u.ld o (λw hl=>Ah o isAgg3 rfl (hl.cellB t0 rfl)) λo=>xg u.ld o (λw hl=>Ab o rfl) λo=>xg u.ld o (λw hl=>Aj o rfl) λo=>xg u.ld o (λw hl=>Ag o Br rfl) λo=>xg u.ld o (λw hl=>Ah o isAgg120 rfl (hl.cellB t0 rfl)) λo=>xg u.ld o (λw hl=>Al (α:=api_Token) (xs:=p1.L) o runUnderlying120 rfl) λo=>xg u.ld o (λw hl=>Au o rfl rfl) λo=>xr u o (Ad o rfl rfl) λo=>xr u o (An (Ab o rfl) (congrArg Value.bool F0)) λo=>xg u.ld o (λw hl=>Ab o rfl) λo=>xg u.ld o (λw hl=>Aj o rfl) λo=>xg u.ld o (λw hl=>Ag o Br rfl) λo=>xg u.ld o (λw hl=>Ah o isAgg120 rfl (hl.cellB t0 rfl)) λo=>xg u.ld o (λw hl=>Ab o rfl) λo=>xg u.ld o (λw hl=>Aj o rfl) λo=>xg u.ld o (λw hl=>Ag o Be rfl) λo=>xg u.ld o (λw hl=>Ah o isAgg3 rfl (hl.cellB t0 rfl)) λo=>xg u.ld o (λw hl=>Aq o runUnderlying120 sizeOf130 rfl rfl E0 (SR.oaI C0 (by decide) E0)) λo=>xg u.ld o (λw hl=>Ag o Ck rfl) λo=>xg u.ld o (λw hl=>Ah o isAgg3 rfl (PH.le.cell (Lds.le hl) (I0 0 _ rfl))) λo=>xg u.ld o (λw hl=>Am o rfl rfl) λo=>?_
 refine xr u o (Ad o rfl rfl) λo=>xr u o (An (Ab o rfl) (congrArg Value.bool J0)) λo=>?_
 iterate 12 refine xn u.ld o λo=>?_
 refine xr u o (Ae o rfl rfl) λo=>xe<|tn<|?_
 replace u:=u.pk [1,0] rfl
 exact ⟨false,hm,o.has ⟨rfl,rfl,trivial⟩,u⟩
 refine rxS 45 u wide (by kernel_rfl) λw u=>xm u o rfl λo=>xr u o (Aj o rfl) λo=>xr u o (Ag o Bs rfl) λo=>xq u.ld o (λw hl=>Ah o isAgg29 rfl (hl.cellB t0 rfl)) λo=>xr u o (Am o rfl rfl) λo=>xr u o (An (Ab o rfl) (congrArg Value.bool D0)) λo=>xg u.ld o (λw hl=>Ab o rfl) λo=>xg u.ld o (λw hl=>Aj o rfl) λo=>xg u.ld o (λw hl=>Ag o Be rfl) λo=>xg u.ld o (λw hl=>Ah o isAgg3 rfl (hl.cellB t0 rfl)) λo=>xg u.ld o (λw hl=>Ab o rfl) λo=>xg u.ld o (λw hl=>Aj o rfl) λo=>xg u.ld o (λw hl=>Ag o Br rfl) λo=>xg u.ld o (λw hl=>Ah o isAgg120 rfl (hl.cellB t0 rfl)) λo=>xg u.ld o (λw hl=>Al (α:=api_Token) (xs:=p1.L) o runUnderlying120 rfl) λo=>xg u.ld o (λw hl=>Au o rfl rfl) λo=>xr u o (Ad o rfl rfl) λo=>xr u o (An (Ab o rfl) (congrArg Value.bool F0)) λo=>?_
 iterate 12 refine xn u.ld o λo=>?_
 refine xr u o (Ae o rfl rfl) λo=>xm u o rfl λo=>?_
 iterate 12 refine xn u.ld o λo=>?_
 refine xr u o (Ae o rfl rfl) λo=>xe<|tn<|?_
 replace u:=u.pk [1,0] rfl
 exact ⟨false,hm,o.has ⟨rfl,rfl,trivial⟩,u⟩
 refine rxS 45 u wide (by kernel_rfl) λw u=>xm u o rfl λo=>xr u o (Aj o rfl) λo=>xr u o (Ag o Bs rfl) λo=>xq u.ld o (λw hl=>Ah o isAgg29 rfl (hl.cellB t0 rfl)) λo=>xr u o (Am o rfl rfl) λo=>xr u o (An (Ab o rfl) (congrArg Value.bool D0)) λo=>?_
 iterate 10 refine xn u.ld o λo=>?_
 refine xr u o (Ae o rfl rfl) λo=>xm u o rfl λo=>?_
 iterate 12 refine xn u.ld o λo=>?_
 refine xr u o (Ae o rfl rfl) λo=>xm u o rfl λo=>?_
 iterate 12 refine xn u.ld o λo=>?_
 refine xr u o (Ae o rfl rfl) λo=>xe<|tn<|?_
 replace u:=u.pk [1,0] rfl
 exact ⟨false,hm,o.has ⟨rfl,rfl,trivial⟩,u⟩
 rintro a w ⟨O0,hm,o,u⟩
 unfold Z3g at hm
 rcases bit hm with ⟨K0,hm⟩ | ⟨K0,hm⟩
 refine ctv o rfl K0<|th<|rg<|qm o rfl λo=>qm o rfl λo=>qv o (Aj o rfl) λo=>qv o (Ag o Be rfl) λo=>qv o (Ah o isAgg3 rfl (u.ld.cellB t1 rfl)) λo=>qv o (Ao o rfl rfl) λo=>qv o (Aj o rfl) λo=>qv o (Ag o Be rfl) λo=>ls<|As o u sizeOf3 rfl rfl rfl rfl (.tail .head) (.succ .zero) λw u=>re<|tn<|th<|?_
 obtain ⟨I1,P0,hm⟩:=bs hm
 obtain ⟨J1,C1,T0⟩:=SR.get C0 P0
 obtain rfl:=Ba C1
 refine rxS 13 u wide (by kernel_rfl) λw u=>xm u o rfl λo=>xr u o (Aj o rfl) λo=>xr u o (Ag o Br rfl) λo=>xq u.ld o (λw hl=>Ah o isAgg120 rfl (hl.cellB t1 rfl)) λo=>xm u o rfl λo=>xr u o (Aj o rfl) λo=>xr u o (Ag o Be rfl) λo=>xq u.ld o (λw hl=>Ah o isAgg3 rfl (hl.cellB t1 rfl)) λo=>xr u o (Gp o rfl rfl) λo=>xr u o (Aq o runUnderlying120 sizeOf130 rfl rfl P0 (SR.oaI C0 (by decide) P0)) λo=>xr u o (Ag o Dw rfl) λo=>xq u.ld o (λw hl=>Ah o isAgg9 rfl (PH.le.cell (Lds.le hl) (T0 1 _ rfl))) λo=>xr u o (Bo o rfl) λo=>xe<|tn<|wr<|tr<|?_
 obtain rfl:=si hm
 exact r1 o results175 rfl ⟨H,oa3,cap4,oa7,cap8,vs9,rfl,S0,C0,M0,(ExtM.refl _ _ _),(St.le u),(St.disL (u.pickL (.cons (.tail .head) (.cons .head .nil)))),(u.pickL (.cons (.tail .head) (.cons .head .nil))).endMut⟩
 refine cfv o rfl K0<|wk<|tn<|th<|?_
 obtain ⟨M1,E1,hm⟩:=bs hm
 refine rg<|qm o rfl λo=>?_
 replace u:=u.pk [1,0] rfl
 replace u:=St.sep [bk b2 [SL oa3 p1.L cap4,i6 p1.At,i6 p1.E,i6 p1.Pos,SL oa7 p1.Out cap8] 171,sla 51 9 oa7 p1.Out.length cap8 vs9] u
 refine ls<|c1 o rfl call167 (Mh (St.le u) (p1:=(leadlineref04_P.mk p1.L p1.At p1.E p1.Pos p1.Out)) (b2:=b2) (oa3:=oa3) (cap4:=cap4) (oa7:=oa7) (cap8:=cap8) (vs9:=vs9) S0 C0 M0 (St.sepOk u) (St.sepDis u) E1) ⟨rfl,rfl,trivial⟩ (λv w a hR o=>?_)
 obtain ⟨H33,U0,Q0,V0,R0,W0,rfl,X0,Y0,j0,G0,n0,hd32,hk⟩:=hR
 obtain ⟨u,G0⟩:=And.intro (St.mutH u hk G0 n0 hd32) (St.extcMM u G0)
 replace u:=u.unsep
 refine re<|tn<|th<|rg<|qa o rfl λo=>re<|tn<|wr<|?_
 obtain rfl:=si hm
 exact r1 o results175 rfl ⟨H33,U0,Q0,V0,R0,W0,rfl,X0,Y0,j0,G0,(St.le u),(St.disL (u.pickL (.cons .head (.cons .head .nil)))),(u.pickL (.cons .head (.cons .head .nil))).endMut⟩
theorem Hj (hH:H.le w0) {b2:Nat} {p1:leadlineref04_P} {oa3:Option Addr} {cap4:Nat} (F0:p1.L.length≤cap4) (G0:SR H oa3 p1.L) {oa7:Option Addr} {cap8:Nat} {vs9:List Value} (I0:Rows H vs9 p1.Out) {p12:Str} (hO:(sepA [bk b2 [SL oa3 p1.L cap4,i6 p1.At,i6 p1.E,i6 p1.Pos,SL oa7 p1.Out cap8] 171,sla 51 9 oa7 p1.Out.length cap8 vs9]).ok (hp w0)) (hD:∀ b,(sepA [bk b2 [SL oa3 p1.L cap4,i6 p1.At,i6 p1.E,i6 p1.Pos,SL oa7 p1.Out cap8] 171,sla 51 9 oa7 p1.Out.length cap8 vs9]).fp b→H b=none) {r:leadlineref04_P} (hm:Z3d N p1 p12=some r):Tot Tryz.prog 161 #[PT b2,Ac p12] w0 (λv w'=>∃ (H':PH) (oa1m:Option Addr) (cap1m:Nat) (oa2m:Option Addr) (cap2m:Nat) (vs2m:List Value),v=.tuple #[]∧r.L.length≤cap1m∧SR H' oa1m r.L∧Rows H' vs2m r.Out∧ExtM w0 (sepA [bk b2 [SL oa3 p1.L cap4,i6 p1.At,i6 p1.E,i6 p1.Pos,SL oa7 p1.Out cap8] 171,sla 51 9 oa7 p1.Out.length cap8 vs9]).fp H H'∧H'.le w'∧(∀ b,(sepA [bk b2 [SL oa1m r.L cap1m,i6 r.At,i6 r.E,i6 r.Pos,SL oa2m r.Out cap2m] 171,sla 51 9 oa2m r.Out.length cap2m vs2m]).fp b→H' b=none)∧Mut w0 (sepA [bk b2 [SL oa3 p1.L cap4,i6 p1.At,i6 p1.E,i6 p1.Pos,SL oa7 p1.Out cap8] 171,sla 51 9 oa7 p1.Out.length cap8 vs9]) (sepA [bk b2 [SL oa1m r.L cap1m,i6 r.At,i6 r.E,i6 r.Pos,SL oa2m r.Out cap2m] 171,sla 51 9 oa2m r.Out.length cap2m vs2m]) w'):=by
 unfold Z3d at hm
 refine fn0 func161 rfl ntmps161 rfl rfl λa o=>?_
 have u:=Cg hH hO hD
 refine th<|Ay (λa w=>∃ (J0:Bool),(Z3e N p1) J0=some r∧Fr 31 [(0,PT b2),(20,.bool J0)] a∧St w0 (sepA [bk b2 [SL oa3 p1.L cap4,i6 p1.At,i6 p1.E,i6 p1.Pos,SL oa7 p1.Out cap8] 171,sla 51 9 oa7 p1.Out.length cap8 vs9]).fp [H] [sla 51 9 oa7 p1.Out.length cap8 vs9,bk b2 [SL oa3 p1.L cap4,i6 p1.At,i6 p1.E,i6 p1.Pos,SL oa7 p1.Out cap8] 171] w) ?_ ?_
 rcases bip hm with ⟨D0,hm⟩ | ⟨D0,hm⟩
 obtain ⟨V0,W0,hm⟩:=bs hm
 refine rdS 17 u wide λw u=>dr 0 u o rfl (Ab o rfl) λo=>dr 1 u o rfl (Aj o rfl) λo=>dr 2 u o rfl (Ag o Bs rfl) λo=>dq 3 u.ld o rfl (λw hl=>Ah o isAgg29 rfl (hl.cellB t0 rfl)) λo=>dr 4 u o rfl (Am o rfl rfl) λo=>dr 5 u o rfl (An (Ab o rfl) (congrArg Value.bool D0)) λo=>dg 6 u.ld o rfl (λw hl=>Ab o rfl) λo=>dg 7 u.ld o rfl (λw hl=>Aj o rfl) λo=>dg 8 u.ld o rfl (λw hl=>Ag o Br rfl) λo=>dg 9 u.ld o rfl (λw hl=>Ah o isAgg120 rfl (hl.cellB t0 rfl)) λo=>dg 10 u.ld o rfl (λw hl=>Ab o rfl) λo=>dg 11 u.ld o rfl (λw hl=>Aj o rfl) λo=>dg 12 u.ld o rfl (λw hl=>Ag o Be rfl) λo=>dg 13 u.ld o rfl (λw hl=>Ah o isAgg3 rfl (hl.cellB t0 rfl)) λo=>dg 14 u.ld o rfl (λw hl=>Ab o rfl) λo=>da1 (i:=15) (by kernel_rfl) ?_
 refine di (i:=15) rfl<|gy o rfl rfl<|cr o call139 (Fe (Ai _) F0 (St.srH u G0) W0) u λu o=>⟨λ_=>u.ld,?_⟩
 refine dr 16 u o rfl (Ad o rfl rfl) λo=>de (by kernel_rfl)<|tn<|?_
 replace u:=u.pk [1,0] rfl
 exact ⟨V0,hm,o.has ⟨rfl,rfl,trivial⟩,u⟩
 refine rxS 17 u wide (by kernel_rfl) λw u=>xm u o rfl λo=>xr u o (Aj o rfl) λo=>xr u o (Ag o Bs rfl) λo=>xq u.ld o (λw hl=>Ah o isAgg29 rfl (hl.cellB t0 rfl)) λo=>xr u o (Am o rfl rfl) λo=>xr u o (An (Ab o rfl) (congrArg Value.bool D0)) λo=>?_
 iterate 10 refine xn u.ld o λo=>?_
 refine xr u o (Ae o rfl rfl) λo=>xe<|tn<|?_
 replace u:=u.pk [1,0] rfl
 exact ⟨false,hm,o.has ⟨rfl,rfl,trivial⟩,u⟩
 rintro a w ⟨J0,hm,o,u⟩
 unfold Z3e at hm
 rcases bit hm with ⟨E0,hm⟩ | ⟨E0,hm⟩
 refine ctv o rfl E0<|rg<|qm o rfl λo=>qm o rfl λo=>qv o (Aj o rfl) λo=>qv o (Ag o Be rfl) λo=>qv o (Ah o isAgg3 rfl (u.ld.cellB t1 rfl)) λo=>qv o (Ao o rfl rfl) λo=>qv o (Aj o rfl) λo=>qv o (Ag o Be rfl) λo=>ls<|As o u sizeOf3 rfl rfl rfl rfl (.tail .head) (.succ .zero) λw u=>re<|?_
 obtain rfl:=si hm
 exact r0n o results161 ⟨H,oa3,cap4,oa7,cap8,vs9,rfl,F0,G0,I0,(ExtM.refl _ _ _),(St.le u),(St.disL (u.pickL (.cons (.tail .head) (.cons .head .nil)))),(u.pickL (.cons (.tail .head) (.cons .head .nil))).endMut⟩
 refine cfv o rfl E0<|?_
 obtain ⟨Y0,X0,hm⟩:=bs hm
 refine rg<|qm o rfl λo=>?_
 replace u:=u.pk [1,0] rfl
 replace u:=St.sep [bk b2 [SL oa3 p1.L cap4,i6 p1.At,i6 p1.E,i6 p1.Pos,SL oa7 p1.Out cap8] 171,sla 51 9 oa7 p1.Out.length cap8 vs9] u
 refine ls<|c1 o rfl call167 (Mh (St.le u) (p1:=(leadlineref04_P.mk p1.L p1.At p1.E p1.Pos p1.Out)) (b2:=b2) (oa3:=oa3) (cap4:=cap4) (oa7:=oa7) (cap8:=cap8) (vs9:=vs9) F0 G0 I0 (St.sepOk u) (St.sepDis u) X0) ⟨rfl,rfl,trivial⟩ (λv w a hR o=>?_)
 obtain ⟨H22,O0,K0,P0,M0,Q0,rfl,R0,S0,T0,C0,U0,hd21,hk⟩:=hR
 obtain ⟨u,C0⟩:=And.intro (St.mutH u hk C0 U0 hd21) (St.extcMM u C0)
 replace u:=u.unsep
 refine re<|?_
 obtain rfl:=si hm
 exact r0n o results161 ⟨H22,O0,K0,P0,M0,Q0,rfl,R0,S0,T0,C0,(St.le u),(St.disL (u.pickL (.cons .head (.cons .head .nil)))),(u.pickL (.cons .head (.cons .head .nil))).endMut⟩
theorem Rw (hH:H.le w0) {F0:Option Addr} {E0:Nat} {p1:(List api_Token)} (I0:p1.length≤E0) (J0:SR H F0 p1) {p6:Int} {p7:Int} {r:leadlineref03_Read} (hm:Z2s N p1 p6 p7=some r):Tot Tryz.prog 178 #[SL F0 p1 E0,i6 p6,i6 p7] w0 (λv w'=>∃ (H':PH) (cs0:List Value),v=.agg cs0.toArray∧Enc.rep H' cs0 r∧Ext w0 H H'∧H'.le w'∧Keep Nil w0 w'):=by
 unfold Z2s at hm
 refine fn0 func178 rfl ntmps178 rfl rfl λa o=>?_
 have u:St w0 Nil [H] [] w0:=start1 hH
 refine th<|rg<|ls<|Ap (cs:=[.slice none 0 0,i6 0,i6 0,i6 0].toArray) o rfl u Tryz.zeroValue174 rfl λb8 w a u o=>re<|tn<|th<|th<|rg<|qm o rfl λo=>qm o rfl λo=>qv o (Al (α:=api_Token) (xs:=p1) o runUnderlying120 rfl) λo=>qv o (Bm o rfl rfl) λo=>re<|tn<|Ay (λa w=>∃ (C0:Int),(Z2t N p1 p6) C0=some r∧Fr 16 [(0,SL F0 p1 E0),(1,i6 p6),(2,i6 C0),(6,PT b8)] a∧St w0 Nil [H] [bk b8 [.slice none 0 0,i6 0,i6 0,i6 0] 174] w) ?_ ?_
 rcases bip hm with ⟨G0,hm⟩ | ⟨G0,hm⟩
 refine ctv o rfl G0<|rg<|qa o rfl λo=>re<|tn<|?_
 exact ⟨6,hm,o.hs,u⟩
 refine cfv o rfl G0<|wk<|tn<|?_
 exact ⟨p7,hm,o.hs,u⟩
 rintro a w ⟨C0,hm,o,u⟩
 unfold Z2t at hm
 refine th<|?_
 obtain ⟨D0,K0,hm⟩:=bs hm
 refine rg<|qm o rfl λo=>?_
 iterate 2 refine qm o rfl λo=>?_
 refine ls<|cr o call143 (Ft (Ai _) I0 (St.srH u J0) K0) u λu o=>qv o (Bi [i6 C0,i6 D0] [.slice none 0 0,i6 0,i6 C0,i6 D0] o ⟨rfl,rfl,trivial⟩ (λw=>by kernel_rfl)) λo=>ls<|Aw o u sizeOf174 rfl rfl rfl rfl (Ak rfl) .head λw u=>re<|tn<|wr<|?_
 obtain rfl:=si hm
 exact r1c (vs:=[.slice none 0 0,i6 0,i6 C0,i6 D0]) (.inl rfl) o results178 rfl isAgg174 sizeOf174 rfl (u.ld.cellsB t0) ⟨H,_,rfl,(show Enc.rep (α:=leadlineref03_Read) H [.slice none 0 0,i6 0,i6 C0,i6 D0] (leadlineref03_Read.mk [] 0 C0 D0) from ⟨_,_,rfl,⟨none,0,rfl,Nat.le_refl _,SR.nil _ _⟩,⟨_,_,rfl,rfl,⟨_,_,rfl,rfl,rfl⟩⟩⟩),(Ext.refl _ _),(St.le u),u.keep⟩
theorem Tw (hH:H.le w0) {p1:Int} {r:(List Int)} (hm:Z2x N p1=some r):Tot Tryz.prog 171 #[i6 p1] w0 (λv w'=>∃ (H':PH) (P0:Option Addr) (I0:Nat),v=SL P0 r I0∧r.length≤I0∧SR H' P0 r∧Ext w0 H H'∧H'.le w'∧Keep Nil w0 w'):=by
 unfold Z2x at hm
 refine fn0 func171 rfl ntmps171 rfl rfl λa o=>?_
 have u:St w0 Nil [H] [] w0:=start1 hH
 refine th<|rg<|qa o rfl λo=>re<|tn<|th<|?_
 obtain ⟨O1,J0,hm⟩:=bs hm
 refine rg<|ls<|Bh (e:=3) (sz:=1) [i6 15] o rfl u rfl rfl rfl (λw=>by kernel_rfl) λb3 w a u o=>?_
 have E1:Rows (α:=Int) H [i6 15] ([15]:List Int):=(.cons (c:=[i6 15]) rfl .nil)
 refine ls<|Bh (e:=3) (sz:=1) [i6 14] o rfl u rfl rfl rfl (λw=>by kernel_rfl) λb6 w a u o=>?_
 have F1:Rows (α:=Int) H [i6 14] ([14]:List Int):=(.cons (c:=[i6 14]) rfl .nil)
 refine ls<|Bh (e:=3) (sz:=1) [i6 10,i6 11,i6 12,i6 13] o rfl u rfl rfl rfl (λw=>by kernel_rfl) λb9 w a u o=>?_
 have G1:Rows (α:=Int) H [i6 10,i6 11,i6 12,i6 13] ([10,11,12,13]:List Int):=(.cons (c:=[i6 10]) rfl (.cons (c:=[i6 11]) rfl (.cons (c:=[i6 12]) rfl (.cons (c:=[i6 13]) rfl .nil))))
 refine ls<|Bh (e:=3) (sz:=1) [i6 5,i6 6] o rfl u rfl rfl rfl (λw=>by kernel_rfl) λK0 w a u o=>?_
 have Q0:Rows (α:=Int) H [i6 5,i6 6] ([5,6]:List Int):=(.cons (c:=[i6 5]) rfl (.cons (c:=[i6 6]) rfl .nil))
 refine ls<|Bh (e:=3) (sz:=1) [i6 7,i6 8,i6 9] o rfl u rfl rfl rfl (λw=>by kernel_rfl) λM0 w a u o=>?_
 have R0:Rows (α:=Int) H [i6 7,i6 8,i6 9] ([7,8,9]:List Int):=(.cons (c:=[i6 7]) rfl (.cons (c:=[i6 8]) rfl (.cons (c:=[i6 9]) rfl .nil)))
 obtain ⟨H20,C0,S0,T0,u⟩:=St.frzS u (.tail (.tail (.tail (.tail .head)))) E1
 obtain ⟨H24,D0,U0,V0,u⟩:=St.frzS u (.tail (.tail (.tail .head))) (F1.mono C0.sub)
 obtain ⟨H28,E0,W0,X0,u⟩:=St.frzS u (.tail (.tail .head)) (G1.mono (cp D0.sub C0.sub))
 obtain ⟨H32,F0,Y0,j0,u⟩:=St.frzS u (.tail .head) (Q0.mono (cp (cp E0.sub D0.sub) C0.sub))
 obtain ⟨H36,G0,n0,p0,u⟩:=St.frzS u .head (R0.mono (cp (cp (cp F0.sub E0.sub) D0.sub) C0.sub))
 refine ls<|Bh (e:=42) (sz:=1) [.slice (some ⟨b3,0,none⟩) ([15]:List Int).length 1,.slice (some ⟨b6,0,none⟩) ([14]:List Int).length 1,.slice (some ⟨b9,0,none⟩) ([10,11,12,13]:List Int).length 4,.slice (some ⟨K0,0,none⟩) ([5,6]:List Int).length 2,.slice (some ⟨M0,0,none⟩) ([7,8,9]:List Int).length 3] o rfl u rfl rfl rfl (λw=>by kernel_rfl) λP1 w a u o=>?_
 have O0:Rows (α:=(List Int)) H36 [.slice (some ⟨b3,0,none⟩) ([15]:List Int).length 1,.slice (some ⟨b6,0,none⟩) ([14]:List Int).length 1,.slice (some ⟨b9,0,none⟩) ([10,11,12,13]:List Int).length 4,.slice (some ⟨K0,0,none⟩) ([5,6]:List Int).length 2,.slice (some ⟨M0,0,none⟩) ([7,8,9]:List Int).length 3] ([([15]:List Int),([14]:List Int),([10,11,12,13]:List Int),([5,6]:List Int),([7,8,9]:List Int)]:List (List Int)):=(.cons (c:=[.slice (some ⟨b3,0,none⟩) ([15]:List Int).length 1]) ⟨_,_,rfl,T0,(S0.mono (cp (cp (cp G0.sub F0.sub) E0.sub) D0.sub))⟩ (.cons (c:=[.slice (some ⟨b6,0,none⟩) ([14]:List Int).length 1]) ⟨_,_,rfl,V0,(U0.mono (cp (cp G0.sub F0.sub) E0.sub))⟩ (.cons (c:=[.slice (some ⟨b9,0,none⟩) ([10,11,12,13]:List Int).length 4]) ⟨_,_,rfl,X0,(W0.mono (cp G0.sub F0.sub))⟩ (.cons (c:=[.slice (some ⟨K0,0,none⟩) ([5,6]:List Int).length 2]) ⟨_,_,rfl,j0,(Y0.mono G0.sub)⟩ (.cons (c:=[.slice (some ⟨M0,0,none⟩) ([7,8,9]:List Int).length 3]) ⟨_,_,rfl,p0,n0⟩ .nil)))))
 refine qm o rfl λo=>qv o (Aq o runUnderlying190 sizeOf42 rfl rfl J0 (Rd.oaI (u.ld.rdO t0) O0 (by decide) J0)) λo=>?_
 obtain ⟨Q1,I1,u0⟩:=Rows.getI O0 J0
 obtain ⟨M1,J1,rfl,B1,C1⟩:=I1
 refine qv o (Ah o isAgg42 rfl (u.ld.elO t0 (u0 0 _ rfl))) λo=>qa o rfl λo=>re<|tn<|wr<|?_
 obtain rfl:=si hm
 exact r1 o results171 rfl ⟨H36,_,_,rfl,B1,C1,(Ext.trans C0 (Ext.trans D0 (Ext.trans E0 (Ext.trans F0 G0)))),(St.le u),u.keep⟩
theorem JaU (hH:H.le w0) {p1:Int} {r:Str} (hm:Z32 N p1=some r):Tot Tryz.prog 172 #[i6 p1] w0 (λv w'=>v=Ac r∧Keep Nil w0 w'):=by
 unfold Z32 at hm
 refine fn0 func172 rfl ntmps172 rfl rfl λa o=>?_
 have u:St w0 Nil [H] [] w0:=start1 hH
 refine th<|rg<|qa o rfl λo=>re<|tn<|th<|?_
 obtain ⟨D0,h6,hm⟩:=bs hm
 refine rg<|ls<|Bh (e:=9) (sz:=1) [Ac [],Ac [],Ac [],Ac [45],Ac [33],Ac [43],Ac [45],Ac [42],Ac [47],Ac [37],Ac [61,61],Ac [33,61],Ac [60],Ac [60,61],Ac [38,38],Ac [124,124]] o rfl u rfl rfl rfl (λw=>by kernel_rfl) λb3 w a u o=>?_
 have C0:Rows (α:=Str) H [Ac [],Ac [],Ac [],Ac [45],Ac [33],Ac [43],Ac [45],Ac [42],Ac [47],Ac [37],Ac [61,61],Ac [33,61],Ac [60],Ac [60,61],Ac [38,38],Ac [124,124]] ([[],[],[],[45],[33],[43],[45],[42],[47],[37],[61,61],[33,61],[60],[60,61],[38,38],[124,124]]:List Str):=(.cons (c:=[Ac []]) rfl (.cons (c:=[Ac []]) rfl (.cons (c:=[Ac []]) rfl (.cons (c:=[Ac [45]]) rfl (.cons (c:=[Ac [33]]) rfl (.cons (c:=[Ac [43]]) rfl (.cons (c:=[Ac [45]]) rfl (.cons (c:=[Ac [42]]) rfl (.cons (c:=[Ac [47]]) rfl (.cons (c:=[Ac [37]]) rfl (.cons (c:=[Ac [61,61]]) rfl (.cons (c:=[Ac [33,61]]) rfl (.cons (c:=[Ac [60]]) rfl (.cons (c:=[Ac [60,61]]) rfl (.cons (c:=[Ac [38,38]]) rfl (.cons (c:=[Ac [124,124]]) rfl .nil))))))))))))))))
 refine qm o rfl λo=>qv o (Aq o runUnderlying36 sizeOf9 rfl rfl h6 (Rd.oaI (u.ld.rdO t0) C0 (by decide) h6)) λo=>?_
 obtain ⟨cz7,g8,E0⟩:=Rows.getI C0 h6
 obtain rfl:cz7=[Ac D0]:=g8
 refine qv o (Ah o isAgg9 rfl (u.ld.elO t0 (E0 0 _ rfl))) λo=>qa o rfl λo=>re<|tn<|wr<|?_
 obtain rfl:=si hm
 exact r1 o results172 rfl ⟨rfl,u.keep⟩
set_option maxHeartbeats 4000000 in
theorem JaP:∀ (N:Nat),(∀ {w0:World} {H:PH} (_:H.le w0) {R0:Option Addr} {G0:Nat} {p1:(List api_Token)} (_:p1.length≤G0) (_:SR H R0 p1) {p6:Int} {p7:Int} {r:leadlineref03_Read} (_:Z2y N p1 p6 p7=some r),Tot Tryz.prog 170 #[SL R0 p1 G0,i6 p6,i6 p7] w0 (λv w'=>∃ (H':PH) (cs0:List Value),v=.agg cs0.toArray∧Enc.rep H' cs0 r∧Ext w0 H H'∧H'.le w'∧Keep Nil w0 w'))∧(∀ {w0:World} {H:PH} (_:H.le w0) {R0:Option Addr} {G0:Nat} {p1:(List api_Token)} (_:p1.length≤G0) (_:SR H R0 p1) {p6:Int} {p7:Int} {p8:Int} {r:leadlineref03_Read} (_:Z2f N p1 p6 p7 p8=some r),Tot Tryz.prog 162 #[SL R0 p1 G0,i6 p6,i6 p7,i6 p8] w0 (λv w'=>∃ (H':PH) (cs0:List Value),v=.agg cs0.toArray∧Enc.rep H' cs0 r∧Ext w0 H H'∧H'.le w'∧Keep Nil w0 w')):=by
 intro N
 induction N with
  | zero=>exact ⟨(by intros;rename_i hm;simp [Z2y] at hm),(by intros;rename_i hm;simp [Z2f] at hm)⟩
  | succ N ih=>
 obtain ⟨ih_Z2y,ih_Z2f⟩:=ih
 refine ⟨?_,?_⟩
 intro w0 H hH R0 G0 p1 S0 D0 p6 p7 r hm
 rw [Z2y] at hm
 refine fn0 func170 rfl ntmps170 rfl rfl λa o=>?_
 have u:St w0 Nil [H] [] w0:=start1 hH
 refine th<|rg<|ls<|Ap (cs:=[.slice none 0 0,i6 0,i6 0,i6 0].toArray) o rfl u Tryz.zeroValue174 rfl λb8 w a u o=>re<|tn<|th<|th<|rg<|qm o rfl λo=>qm o rfl λo=>qv o (Al (α:=api_Token) (xs:=p1) o runUnderlying120 rfl) λo=>qv o (Bm o rfl rfl) λo=>re<|?_
 rcases bip hm with ⟨J4,hm⟩ | ⟨J4,hm⟩
 refine tn<|ctv o rfl J4<|th<|?_
 obtain ⟨F1,D7,hm⟩:=bs hm
 refine rg<|qm o rfl λo=>qm o rfl λo=>ls<|c1 o rfl call178 (Rw (St.le u) S0 D0 D7) ⟨rfl,rfl,rfl,trivial⟩ (λv w a hR o=>?_)
 obtain ⟨H15,cs16,rfl,E7,K2,j5,hk⟩:=hR
 obtain ⟨u,K2⟩:=And.intro (St.passH u hk K2 j5) (St.extc u K2)
 obtain ⟨K4,X3,rfl,k5,n5⟩:=Bb E7
 refine ls<|Aw o u sizeOf174 rfl rfl rfl rfl (Ak rfl) .head λw u=>re<|tn<|wr<|tr<|?_
 obtain rfl:=si hm
 exact r1c (vs:=[SL K4 F1.L X3,i6 F1.To,i6 F1.E,i6 F1.At]) (.inl rfl) o results170 rfl isAgg174 sizeOf174 rfl (u.ld.cellsB t0) ⟨H15,_,rfl,(show Enc.rep (α:=leadlineref03_Read) H15 [SL K4 F1.L X3,i6 F1.To,i6 F1.E,i6 F1.At] F1 from ⟨_,_,rfl,⟨_,_,rfl,k5,n5⟩,⟨_,_,rfl,rfl,⟨_,_,rfl,rfl,rfl⟩⟩⟩),K2,(St.le u),u.keep⟩
 refine tn<|cfv o rfl J4<|wk<|tn<|th<|Ay (λa w=>∃ (X1:Bool),(Z2z (Z2y N) (Z2f N) N p1 p6 p7) X1=some r∧Fr 152 [(0,SL R0 p1 G0),(1,i6 p6),(2,i6 p7),(6,PT b8),(7,.bool X1)] a∧St w0 Nil [H] [bk b8 [.slice none 0 0,i6 0,i6 0,i6 0] 174] w) ?_ ?_
 obtain ⟨e8,X5,hm⟩:=bs hm
 rcases bit hm with ⟨G3,hm⟩ | ⟨G3,hm⟩
 refine rg<|qm o rfl λo=>qm o rfl λo=>ls<|cr o call139 (Fe (Ai _) S0 (St.srH u D0) X5) u λu o=>qv o (An (Ab o rfl) (congrArg Value.bool G3)) λo=>?_
 iterate 3 refine qn o λo=>?_
 refine qv o (Ad o rfl rfl) λo=>qa o rfl λo=>re<|tn<|?_
 exact ⟨true,hm,o.hs,u⟩
 obtain ⟨F7,G7,hm⟩:=bs hm
 refine rg<|qm o rfl λo=>qm o rfl λo=>ls<|cr o call139 (Fe (Ai _) S0 (St.srH u D0) X5) u λu o=>qv o (An (Ab o rfl) (congrArg Value.bool G3)) λo=>?_
 iterate 2 refine qg o (Ab o rfl) λo=>?_
 refine ls<|gy o rfl rfl<|cr o call139 (Fe (Ai _) S0 (St.srH u D0) G7) u λu o=>qv o (Ae o rfl rfl) λo=>qa o rfl λo=>re<|tn<|?_
 exact ⟨F7,hm,o.hs,u⟩
 rintro a w ⟨X1,hm,o,u⟩
 unfold Z2z at hm
 refine th<|?_
 obtain ⟨Y3,I7,hm⟩:=bs hm
 refine rg<|qm o rfl λo=>qm o rfl λo=>ls<|cr o call139 (Fe (Ai _) S0 (St.srH u D0) I7) u λu o=>qa o rfl λo=>re<|tn<|th<|th<|rg<|qm o rfl λo=>qm o rfl λo=>gr (Fk:=[(0,SL R0 p1 G0),(1,i6 p6),(2,i6 p7),(6,PT b8),(7,.bool X1),(8,.bool Y3),(34,.bool (X1 || Y3))]) 32 2 o u ?_ ?_ ?_
 intro hb o key
 exact qn o λo=>qk o (Ad o rfl rfl) key u hb
 intro hb o key
 exact qg o (Ab o rfl) λo=>qk o (Ae o rfl rfl) key u hb
 intro a w o u
 refine qm o rfl λo=>gr (Fk:=[(0,SL R0 p1 G0),(1,i6 p6),(2,i6 p7),(6,PT b8),(7,.bool X1),(8,.bool Y3),(38,.bool ((X1 || Y3) && (decide (p7=12))))]) 35 3 o u ?_ ?_ ?_
 intro hb o key
 exact qg o (Ab o rfl) λo=>qg o (Am o rfl rfl) λo=>qk o (Ad o rfl rfl) key u hb
 intro hb o key
 iterate 2 refine qn o λo=>?_
 exact qk o (Ae o rfl rfl) key u hb
 intro a w o u
 refine re<|?_
 rcases bit hm with ⟨I3,hm⟩ | ⟨I3,hm⟩
 refine tn<|ctv o rfl I3<|th<|?_
 obtain ⟨G1,J7,hm⟩:=bs hm
 refine rg<|qm o rfl λo=>qm o rfl λo=>ls<|c1 o rfl call178 (Rw (St.le u) S0 D0 J7) ⟨rfl,rfl,rfl,trivial⟩ (λv w a hR o=>?_)
 obtain ⟨H35,cs36,rfl,K7,M2,u5,hk⟩:=hR
 obtain ⟨u,M2⟩:=And.intro (St.passH u hk M2 u5) (St.extc u M2)
 obtain ⟨L4,l3,rfl,A6,B6⟩:=Bb K7
 refine ls<|Aw o u sizeOf174 rfl rfl rfl rfl (Ak rfl) .head λw u=>re<|tn<|wr<|tr<|?_
 obtain rfl:=si hm
 exact r1c (vs:=[SL L4 G1.L l3,i6 G1.To,i6 G1.E,i6 G1.At]) (.inl rfl) o results170 rfl isAgg174 sizeOf174 rfl (u.ld.cellsB t0) ⟨H35,_,rfl,(show Enc.rep (α:=leadlineref03_Read) H35 [SL L4 G1.L l3,i6 G1.To,i6 G1.E,i6 G1.At] G1 from ⟨_,_,rfl,⟨_,_,rfl,A6,B6⟩,⟨_,_,rfl,rfl,⟨_,_,rfl,rfl,rfl⟩⟩⟩),M2,(St.le u),u.keep⟩
 refine tn<|cfv o rfl I3<|wk<|tn<|th<|th<|rg<|qm o rfl λo=>re<|?_
 rcases bit hm with ⟨J3,hm⟩ | ⟨J3,hm⟩
 refine tn<|ctv o rfl J3<|th<|?_
 obtain ⟨E0,L7,hm⟩:=bs hm
 refine rg<|qm o rfl λo=>qm o rfl λo=>qv o (Ao o rfl rfl) λo=>qm o rfl λo=>qv o (Ao o rfl rfl) λo=>ls<|c1 o rfl call170 (ih_Z2y (St.le u) S0 D0 L7) ⟨rfl,rfl,rfl,trivial⟩ (λv w a hR o=>?_)
 obtain ⟨H48,cs49,rfl,M7,E1,C6,hk⟩:=hR
 obtain ⟨u,E1⟩:=And.intro (St.passH u hk E1 C6) (St.extc u E1)
 obtain ⟨K3,O2,rfl,D6,M4⟩:=Bb M7
 refine ls<|Ap (cs:=[.slice none 0 0,i6 0,i6 0,i6 0].toArray) o rfl u zeroValue174 rfl λY5 w a u o=>ls<|Aw o u sizeOf174 rfl rfl rfl rfl (Ak rfl) .head λw u=>re<|tn<|th<|th<|rg<|qv o (Ag o Gz rfl) λo=>qv o (Ah o isAgg29 rfl (u.ld.cellB t0 rfl)) λo=>qv o (Bu o rfl rfl) λo=>re<|?_
 rcases bip hm with ⟨L3,hm⟩ | ⟨L3,hm⟩
 refine tn<|ctv o rfl L3<|th<|rg<|qv o (Ar o Tryz.isAgg174 Tryz.sizeOf174 rfl rfl (u.ld.cellsB t0)) λo=>ls<|Aw o u sizeOf174 rfl rfl rfl rfl (Ak rfl) (.tail .head) λw u=>re<|tn<|wr<|tr<|tr<|?_
 obtain rfl:=si hm
 exact r1c (vs:=[SL K3 E0.L O2,i6 E0.To,i6 E0.E,i6 E0.At]) (.inl rfl) o results170 rfl isAgg174 sizeOf174 rfl (u.ld.cellsB t1) ⟨H48,_,rfl,(show Enc.rep (α:=leadlineref03_Read) H48 [SL K3 E0.L O2,i6 E0.To,i6 E0.E,i6 E0.At] E0 from ⟨_,_,rfl,⟨_,_,rfl,D6,M4⟩,⟨_,_,rfl,rfl,⟨_,_,rfl,rfl,rfl⟩⟩⟩),E1,(St.le u),u.keep⟩
 refine tn<|cfv o rfl L3<|wk<|tn<|th<|rg<|qa o rfl λo=>re<|tn<|th<|th<|?_
 obtain ⟨I1,B3,hm⟩:=bs hm
 obtain ⟨j8,O7,O4⟩:=SR.get D0 B3
 obtain rfl:=Ba O7
 refine rg<|qm o rfl λo=>qm o rfl λo=>qv o (Aq o runUnderlying120 sizeOf130 rfl rfl B3 (SR.oaI D0 (by decide) B3)) λo=>qv o (Ag o Dw rfl) λo=>qv o (Ah o isAgg9 rfl (PH.le.cell (λb o hx=>(Lds.le u.ld) b o (E1.sub b o hx)) (O4 1 _ rfl))) λo=>qv o (Dh (m:=I1.Text) (n:=[45]) o rfl rfl) λo=>re<|tn<|Ay (λa w=>∃ (M0:Int),(Z30 E0 I1) M0=some r∧Fr 152 [(0,SL R0 p1 G0),(1,i6 p6),(6,PT b8),(9,PT Y5),(10,i6 M0)] a∧St w0 Nil [H48] [bk b8 [.slice none 0 0,i6 0,i6 0,i6 0] 174,bk Y5 [SL K3 E0.L O2,i6 E0.To,i6 E0.E,i6 E0.At] 174] w) ?_ ?_
 rcases bip hm with ⟨M3,hm⟩ | ⟨M3,hm⟩
 refine ctv o rfl M3<|rg<|qa o rfl λo=>re<|tn<|?_
 replace u:=u.pk [1,0] rfl
 exact ⟨3,hm,o.hs,u⟩
 refine cfv o rfl M3<|wk<|tn<|?_
 replace u:=u.pk [1,0] rfl
 exact ⟨4,hm,o.hs,u⟩
 rintro a w ⟨M0,hm,o,u⟩
 unfold Z30 at hm
 refine th<|rg<|qm o rfl λo=>?_
 iterate 2 refine qm o rfl λo=>?_
 refine qv o (Aq o runUnderlying120 sizeOf130 rfl rfl B3 (SR.oaI D0 (by decide) B3)) λo=>qv o (Ag o Da rfl) λo=>qv o (Ah o isAgg3 rfl (PH.le.cell (λb o hx=>(Lds.le u.ld) b o (E1.sub b o hx)) (O4 3 _ rfl))) λo=>qv o (Bi [i6 M0,i6 I1.At] [i6 M0,i6 0,Ac [],i6 I1.At] o ⟨rfl,rfl,trivial⟩ (λw=>by kernel_rfl)) λo=>ls<|Bh (e:=90) (sz:=4) [i6 M0,i6 0,Ac [],i6 I1.At] o rfl u rfl rfl rfl (λw=>by kernel_rfl) λl8 w a u o=>?_
 have E6:Rows (α:=api_Node) H48 [i6 M0,i6 0,Ac [],i6 I1.At] ([(api_Node.mk M0 0 [] I1.At)]:List api_Node):=(.cons (c:=[i6 M0,i6 0,Ac [],i6 I1.At]) ⟨_,_,rfl,rfl,⟨_,_,rfl,rfl,⟨_,_,rfl,rfl,rfl⟩⟩⟩ .nil)
 refine qa o rfl λo=>re<|tn<|th<|?_
 obtain ⟨P4,P7,hm⟩:=bs hm
 refine rg<|qm o rfl λo=>qv o (Ag o Fi rfl) λo=>qv o (Ah o isAgg49 rfl (u.ld.cellB t2 rfl)) λo=>?_
 obtain ⟨us72,hd73,hu74⟩:=id M4
 refine ls<|Cc (α:=api_Node) (xs:=([(api_Node.mk M0 0 [] I1.At)]:List api_Node)) (ys:=E0.L) o rfl u underlying49 Nu rfl (by decide) rfl rfl rfl t0 E6 (u.rdH t0 hd73) hu74 P7 λQ4 A4 P8 w a F6 hU o=>?_
 replace u:=hU _ .head
 refine qa o rfl λo=>re<|tn<|th<|rg<|qm o rfl λo=>qv o (Ag o Fi rfl) λo=>ls<|As o u sizeOf49 rfl rfl rfl rfl (.tail (.tail .head)) .zero λw u=>re<|tn<|th<|rg<|qv o (Ar o Tryz.isAgg174 Tryz.sizeOf174 rfl rfl (u.ld.cellsB t2)) λo=>ls<|Aw o u sizeOf174 rfl rfl rfl rfl (Ak rfl) (.tail .head) λw u=>re<|tn<|wr<|tr<|?_
 obtain ⟨H78,G6,I6,J6,u⟩:=St.frzS u .head F6
 obtain rfl:=si hm
 exact r1c (vs:=[SL Q4 P4 A4,i6 E0.To,i6 E0.E,i6 E0.At]) (.inl rfl) o results170 rfl isAgg174 sizeOf174 rfl (u.ld.cellsB t0) ⟨H78,_,rfl,(show Enc.rep (α:=leadlineref03_Read) H78 [SL Q4 P4 A4,i6 E0.To,i6 E0.E,i6 E0.At] (leadlineref03_Read.mk P4 E0.To E0.E E0.At) from ⟨_,_,rfl,⟨_,_,rfl,J6,I6⟩,⟨_,_,rfl,rfl,⟨_,_,rfl,rfl,rfl⟩⟩⟩),(Ext.trans E1 G6),(St.le u),u.keep⟩
 refine tn<|cfv o rfl J3<|wk<|tn<|th<|th<|rg<|qm o rfl λo=>re<|?_
 rcases bit hm with ⟨O3,hm⟩ | ⟨O3,hm⟩
 refine tn<|ctv o rfl O3<|th<|?_
 obtain ⟨J0,Q7,hm⟩:=bs hm
 refine rg<|qm o rfl λo=>qm o rfl λo=>qv o (Ao o rfl rfl) λo=>qm o rfl λo=>qv o (Ao o rfl rfl) λo=>ls<|c1 o rfl call162 (ih_Z2f (St.le u) S0 D0 Q7) ⟨rfl,rfl,rfl,rfl,trivial⟩ (λv w a hR o=>?_)
 obtain ⟨H85,cs86,rfl,R7,n0,K6,hk⟩:=hR
 obtain ⟨u,n0⟩:=And.intro (St.passH u hk n0 K6) (St.extc u n0)
 obtain ⟨P2,U1,rfl,R4,S4⟩:=Bb R7
 refine ls<|Ap (cs:=[.slice none 0 0,i6 0,i6 0,i6 0].toArray) o rfl u zeroValue174 rfl λn8 w a u o=>ls<|Aw o u sizeOf174 rfl rfl rfl rfl (Ak rfl) .head λw u=>re<|tn<|th<|th<|rg<|qv o (Ag o Gz rfl) λo=>qv o (Ah o isAgg29 rfl (u.ld.cellB t0 rfl)) λo=>qv o (Bu o rfl rfl) λo=>re<|?_
 rcases bip hm with ⟨P3,hm⟩ | ⟨P3,hm⟩
 refine tn<|ctv o rfl P3<|th<|rg<|qv o (Ar o Tryz.isAgg174 Tryz.sizeOf174 rfl rfl (u.ld.cellsB t0)) λo=>ls<|Aw o u sizeOf174 rfl rfl rfl rfl (Ak rfl) (.tail .head) λw u=>re<|tn<|wr<|tr<|tr<|?_
 obtain rfl:=si hm
 exact r1c (vs:=[SL P2 J0.L U1,i6 J0.To,i6 J0.E,i6 J0.At]) (.inl rfl) o results170 rfl isAgg174 sizeOf174 rfl (u.ld.cellsB t1) ⟨H85,_,rfl,(show Enc.rep (α:=leadlineref03_Read) H85 [SL P2 J0.L U1,i6 J0.To,i6 J0.E,i6 J0.At] J0 from ⟨_,_,rfl,⟨_,_,rfl,R4,S4⟩,⟨_,_,rfl,rfl,⟨_,_,rfl,rfl,rfl⟩⟩⟩),n0,(St.le u),u.keep⟩
 refine tn<|cfv o rfl P3<|wk<|tn<|th<|th<|?_
 obtain ⟨v8,S7,hm⟩:=bs hm
 refine rg<|qm o rfl λo=>qv o (Ag o Ec rfl) λo=>qv o (Ah o isAgg3 rfl (u.ld.cellB t0 rfl)) λo=>ls<|cr o call139 (Fe (Ai _) S0 (St.srH u (D0.mono n0.sub)) S7) u λu o=>qv o (Bc o rfl) λo=>re<|?_
 rcases bit hm with ⟨Q3,hm⟩ | ⟨Q3,hm⟩
 refine tn<|cfv o rfl (by rw [Q3];rfl)<|wk<|tn<|th<|rg<|qv o (Ag o Ec rfl) λo=>qv o (Ah o isAgg3 rfl (u.ld.cellB t0 rfl)) λo=>qv o (Ao o rfl rfl) λo=>qv o (Ag o Ec rfl) λo=>ls<|As o u sizeOf3 rfl rfl rfl rfl .head (.succ .zero) λw u=>re<|tn<|th<|rg<|qv o (Ar o Tryz.isAgg174 Tryz.sizeOf174 rfl rfl (u.ld.cellsB t0)) λo=>ls<|Aw o u sizeOf174 rfl rfl rfl rfl (Ak rfl) (.tail .head) λw u=>re<|tn<|wr<|tr<|?_
 obtain rfl:=si hm
 exact r1c (vs:=[SL P2 J0.L U1,i6 (IntKind.i64.wrap (J0.To+1)),i6 J0.E,i6 J0.At]) (.inl rfl) o results170 rfl isAgg174 sizeOf174 rfl (u.ld.cellsB t1) ⟨H85,_,rfl,(show Enc.rep (α:=leadlineref03_Read) H85 [SL P2 J0.L U1,i6 (IntKind.i64.wrap (J0.To+1)),i6 J0.E,i6 J0.At] (leadlineref03_Read.mk J0.L (IntKind.i64.wrap (J0.To+1)) J0.E J0.At) from ⟨_,_,rfl,⟨_,_,rfl,R4,S4⟩,⟨_,_,rfl,rfl,⟨_,_,rfl,rfl,rfl⟩⟩⟩),n0,(St.le u),u.keep⟩
 refine tn<|ctv o rfl (by rw [Q3];rfl)<|th<|?_
 obtain ⟨J1,T7,hm⟩:=bs hm
 refine rg<|qm o rfl λo=>qv o (Ag o Ec rfl) λo=>qv o (Ah o isAgg3 rfl (u.ld.cellB t0 rfl)) λo=>ls<|c1 o rfl call178 (Rw (St.le u) S0 (D0.mono n0.sub) T7) ⟨rfl,rfl,rfl,trivial⟩ (λv w a hR o=>?_)
 obtain ⟨H102,cs103,rfl,L6,Q2,l4,hk⟩:=hR
 obtain ⟨u,Q2⟩:=And.intro (St.passH u hk Q2 l4) (St.extc u Q2)
 obtain ⟨B4,C3,rfl,A5,B5⟩:=Bb L6
 refine ls<|Aw o u sizeOf174 rfl rfl rfl rfl (Ak rfl) (.tail .head) λw u=>re<|tn<|wr<|tr<|tr<|?_
 obtain rfl:=si hm
 exact r1c (vs:=[SL B4 J1.L C3,i6 J1.To,i6 J1.E,i6 J1.At]) (.inl rfl) o results170 rfl isAgg174 sizeOf174 rfl (u.ld.cellsB t1) ⟨H102,_,rfl,(show Enc.rep (α:=leadlineref03_Read) H102 [SL B4 J1.L C3,i6 J1.To,i6 J1.E,i6 J1.At] J1 from ⟨_,_,rfl,⟨_,_,rfl,A5,B5⟩,⟨_,_,rfl,rfl,⟨_,_,rfl,rfl,rfl⟩⟩⟩),(Ext.trans n0 Q2),(St.le u),u.keep⟩
 refine tn<|cfv o rfl O3<|wk<|tn<|th<|th<|?_
 obtain ⟨C0,F0,hm⟩:=bs hm
 obtain ⟨Q8,M6,W0⟩:=SR.get D0 F0
 obtain rfl:=Ba M6
 refine rg<|qm o rfl λo=>qm o rfl λo=>qv o (Aq o runUnderlying120 sizeOf130 rfl rfl F0 (SR.oaI D0 (by decide) F0)) λo=>qv o (Ag o Ck rfl) λo=>qv o (Ah o isAgg3 rfl (PH.le.cell (Lds.le u.ld) (W0 0 _ rfl))) λo=>qv o (Am o rfl rfl) λo=>re<|?_
 rcases bip hm with ⟨R2,hm⟩ | ⟨R2,hm⟩
 refine tn<|ctv o rfl R2<|th<|rdS 15 u wide λw u=>dr 0 u o rfl (Ab o rfl) λo=>dr 1 u o rfl (Ab o rfl) λo=>dr 2 u o rfl (Aq o runUnderlying120 sizeOf130 rfl rfl F0 (SR.oaI D0 (by decide) F0)) λo=>dr 3 u o rfl (Ag o Fq rfl) λo=>dq 4 u.ld o rfl (λw hl=>Ah o isAgg3 rfl (PH.le.cell (Lds.le hl) (W0 2 _ rfl))) λo=>dr 5 u o rfl (Ab o rfl) λo=>dr 6 u o rfl (Ab o rfl) λo=>dr 7 u o rfl (Aq o runUnderlying120 sizeOf130 rfl rfl F0 (SR.oaI D0 (by decide) F0)) λo=>dr 8 u o rfl (Ag o Da rfl) λo=>dq 9 u.ld o rfl (λw hl=>Ah o isAgg3 rfl (PH.le.cell (Lds.le hl) (W0 3 _ rfl))) λo=>dq 10 u.ld o rfl (λw hl=>Bi [i6 1,i6 C0.N,i6 C0.At] [i6 1,i6 C0.N,Ac [],i6 C0.At] o ⟨rfl,rfl,rfl,trivial⟩ (λw=>by kernel_rfl)) λo=>dr 12 u o rfl (Ab o rfl) λo=>dr 13 u o rfl (Ao o rfl rfl) λo=>da1 (i:=11) (by kernel_rfl) ?_
 refine di (i:=11) rfl<|Bh (e:=90) (sz:=4) [i6 1,i6 C0.N,Ac [],i6 C0.At] o rfl u rfl rfl rfl (λw=>by kernel_rfl) λT2 w a u o=>?_
 have C5:Rows (α:=api_Node) H [i6 1,i6 C0.N,Ac [],i6 C0.At] ([(api_Node.mk 1 C0.N [] C0.At)]:List api_Node):=(.cons (c:=[i6 1,i6 C0.N,Ac [],i6 C0.At]) ⟨_,_,rfl,rfl,⟨_,_,rfl,rfl,⟨_,_,rfl,rfl,rfl⟩⟩⟩ .nil)
 refine ⟨λ_=>(St.ldsX u i2 ta1),?_⟩
 refine dq 14 (St.ldsX u i2 ta1) o rfl (λw hl=>Bi [.slice (some ⟨T2,0,none⟩) ([(api_Node.mk 1 C0.N [] C0.At)]:List api_Node).length 1,i6 (IntKind.i64.wrap (p6+1))] [.slice (some ⟨T2,0,none⟩) ([(api_Node.mk 1 C0.N [] C0.At)]:List api_Node).length 1,i6 (IntKind.i64.wrap (p6+1)),i6 0,i6 0] o ⟨rfl,rfl,trivial⟩ (λw=>by kernel_rfl)) λo=>da1 (i:=15) (by kernel_rfl) ?_
 refine di (i:=15) rfl<|Aw o u sizeOf174 rfl rfl rfl rfl (Ak rfl) (.tail .head) λw u=>⟨λh=>absurd rfl h,?_⟩
 refine de (by kernel_rfl)<|tn<|wr<|tr<|?_
 obtain ⟨H121,D5,E5,F5,u⟩:=St.frzS u .head C5
 obtain rfl:=si hm
 exact r1c (vs:=[.slice (some ⟨T2,0,none⟩) ([(api_Node.mk 1 C0.N [] C0.At)]:List api_Node).length 1,i6 (IntKind.i64.wrap (p6+1)),i6 0,i6 0]) (.inl rfl) o results170 rfl isAgg174 sizeOf174 rfl (u.ld.cellsB t0) ⟨H121,_,rfl,(show Enc.rep (α:=leadlineref03_Read) H121 [.slice (some ⟨T2,0,none⟩) ([(api_Node.mk 1 C0.N [] C0.At)]:List api_Node).length 1,i6 (IntKind.i64.wrap (p6+1)),i6 0,i6 0] (leadlineref03_Read.mk ([(api_Node.mk 1 C0.N [] C0.At)]:List api_Node) (IntKind.i64.wrap (p6+1)) 0 0) from ⟨_,_,rfl,⟨_,_,rfl,F5,E5⟩,⟨_,_,rfl,rfl,⟨_,_,rfl,rfl,rfl⟩⟩⟩),D5,(St.le u),u.keep⟩
 refine tn<|cfv o rfl R2<|wk<|tn<|th<|th<|Ay (λa w=>∃ (T4:Bool),(Z31 N p1 p6 C0) T4=some r∧Fr 152 [(0,SL R0 p1 G0),(1,i6 p6),(6,PT b8),(133,.bool T4)] a∧St w0 Nil [H] [bk b8 [.slice none 0 0,i6 0,i6 0,i6 0] 174] w) ?_ ?_
 rcases bip hm with ⟨U2,hm⟩ | ⟨U2,hm⟩
 obtain ⟨O6,P6,hm⟩:=bs hm
 refine rg<|qm o rfl λo=>qm o rfl λo=>qv o (Aq o runUnderlying120 sizeOf130 rfl rfl F0 (SR.oaI D0 (by decide) F0)) λo=>qv o (Ag o Ck rfl) λo=>qv o (Ah o isAgg3 rfl (PH.le.cell (Lds.le u.ld) (W0 0 _ rfl))) λo=>qv o (Am o rfl rfl) λo=>qv o (An (Ab o rfl) (congrArg Value.bool U2)) λo=>?_
 iterate 2 refine qg o (Ab o rfl) λo=>?_
 refine qg o (Aq o runUnderlying120 sizeOf130 rfl rfl F0 (SR.oaI D0 (by decide) F0)) λo=>qg o (Ag o Dw rfl) λo=>qg o (Ah o isAgg9 rfl (PH.le.cell (Lds.le u.ld) (W0 1 _ rfl))) λo=>ls<|gy o rfl rfl<|cr o call114 (Tz (Ai _) P6) u λu o=>qv o (Ad o rfl rfl) λo=>re<|tn<|?_
 exact ⟨O6,hm,o.hs,u⟩
 refine rg<|qm o rfl λo=>qm o rfl λo=>qv o (Aq o runUnderlying120 sizeOf130 rfl rfl F0 (SR.oaI D0 (by decide) F0)) λo=>qv o (Ag o Ck rfl) λo=>qv o (Ah o isAgg3 rfl (PH.le.cell (Lds.le u.ld) (W0 0 _ rfl))) λo=>qv o (Am o rfl rfl) λo=>qv o (An (Ab o rfl) (congrArg Value.bool U2)) λo=>?_
 iterate 6 refine qn o λo=>?_
 refine qv o (Ae o rfl rfl) λo=>re<|tn<|?_
 exact ⟨false,hm,o.hs,u⟩
 rintro a w ⟨T4,hm,o,u⟩
 unfold Z31 at hm
 rcases bit hm with ⟨V2,hm⟩ | ⟨V2,hm⟩
 refine ctv o rfl V2<|th<|rdS 15 u wide λw u=>dr 0 u o rfl (Ab o rfl) λo=>dr 1 u o rfl (Ab o rfl) λo=>dr 2 u o rfl (Aq o runUnderlying120 sizeOf130 rfl rfl F0 (SR.oaI D0 (by decide) F0)) λo=>dr 3 u o rfl (Ag o Dw rfl) λo=>dq 4 u.ld o rfl (λw hl=>Ah o isAgg9 rfl (PH.le.cell (Lds.le hl) (W0 1 _ rfl))) λo=>dr 5 u o rfl (Ab o rfl) λo=>dr 6 u o rfl (Ab o rfl) λo=>dr 7 u o rfl (Aq o runUnderlying120 sizeOf130 rfl rfl F0 (SR.oaI D0 (by decide) F0)) λo=>dr 8 u o rfl (Ag o Da rfl) λo=>dq 9 u.ld o rfl (λw hl=>Ah o isAgg3 rfl (PH.le.cell (Lds.le hl) (W0 3 _ rfl))) λo=>dq 10 u.ld o rfl (λw hl=>Bi [i6 2,Ac C0.Text,i6 C0.At] [i6 2,i6 0,Ac C0.Text,i6 C0.At] o ⟨rfl,rfl,rfl,trivial⟩ (λw=>by kernel_rfl)) λo=>dr 12 u o rfl (Ab o rfl) λo=>dr 13 u o rfl (Ao o rfl rfl) λo=>da1 (i:=11) (by kernel_rfl) ?_
 refine di (i:=11) rfl<|Bh (e:=90) (sz:=4) [i6 2,i6 0,Ac C0.Text,i6 C0.At] o rfl u rfl rfl rfl (λw=>by kernel_rfl) λW2 w a u o=>?_
 have G5:Rows (α:=api_Node) H [i6 2,i6 0,Ac C0.Text,i6 C0.At] ([(api_Node.mk 2 0 C0.Text C0.At)]:List api_Node):=(.cons (c:=[i6 2,i6 0,Ac C0.Text,i6 C0.At]) ⟨_,_,rfl,rfl,⟨_,_,rfl,rfl,⟨_,_,rfl,rfl,rfl⟩⟩⟩ .nil)
 refine ⟨λ_=>(St.ldsX u i2 ta1),?_⟩
 refine dq 14 (St.ldsX u i2 ta1) o rfl (λw hl=>Bi [.slice (some ⟨W2,0,none⟩) ([(api_Node.mk 2 0 C0.Text C0.At)]:List api_Node).length 1,i6 (IntKind.i64.wrap (p6+1))] [.slice (some ⟨W2,0,none⟩) ([(api_Node.mk 2 0 C0.Text C0.At)]:List api_Node).length 1,i6 (IntKind.i64.wrap (p6+1)),i6 0,i6 0] o ⟨rfl,rfl,trivial⟩ (λw=>by kernel_rfl)) λo=>da1 (i:=15) (by kernel_rfl) ?_
 refine di (i:=15) rfl<|Aw o u sizeOf174 rfl rfl rfl rfl (Ak rfl) (.tail .head) λw u=>⟨λh=>absurd rfl h,?_⟩
 refine de (by kernel_rfl)<|tn<|wr<|tr<|?_
 obtain ⟨H132,I5,J5,K5,u⟩:=St.frzS u .head G5
 obtain rfl:=si hm
 exact r1c (vs:=[.slice (some ⟨W2,0,none⟩) ([(api_Node.mk 2 0 C0.Text C0.At)]:List api_Node).length 1,i6 (IntKind.i64.wrap (p6+1)),i6 0,i6 0]) (.inl rfl) o results170 rfl isAgg174 sizeOf174 rfl (u.ld.cellsB t0) ⟨H132,_,rfl,(show Enc.rep (α:=leadlineref03_Read) H132 [.slice (some ⟨W2,0,none⟩) ([(api_Node.mk 2 0 C0.Text C0.At)]:List api_Node).length 1,i6 (IntKind.i64.wrap (p6+1)),i6 0,i6 0] (leadlineref03_Read.mk ([(api_Node.mk 2 0 C0.Text C0.At)]:List api_Node) (IntKind.i64.wrap (p6+1)) 0 0) from ⟨_,_,rfl,⟨_,_,rfl,K5,J5⟩,⟨_,_,rfl,rfl,⟨_,_,rfl,rfl,rfl⟩⟩⟩),I5,(St.le u),u.keep⟩
 refine cfv o rfl V2<|wk<|tn<|th<|?_
 obtain ⟨j0,Q6,hm⟩:=bs hm
 refine rg<|qm o rfl λo=>qm o rfl λo=>ls<|c1 o rfl call178 (Rw (St.le u) S0 D0 Q6) ⟨rfl,rfl,rfl,trivial⟩ (λv w a hR o=>?_)
 obtain ⟨H138,cs139,rfl,R6,V1,L5,hk⟩:=hR
 obtain ⟨u,V1⟩:=And.intro (St.passH u hk V1 L5) (St.extc u V1)
 obtain ⟨C4,D3,rfl,M5,O5⟩:=Bb R6
 refine ls<|Aw o u sizeOf174 rfl rfl rfl rfl (Ak rfl) .head λw u=>re<|tn<|wr<|?_
 obtain rfl:=si hm
 exact r1c (vs:=[SL C4 j0.L D3,i6 j0.To,i6 j0.E,i6 j0.At]) (.inl rfl) o results170 rfl isAgg174 sizeOf174 rfl (u.ld.cellsB t0) ⟨H138,_,rfl,(show Enc.rep (α:=leadlineref03_Read) H138 [SL C4 j0.L D3,i6 j0.To,i6 j0.E,i6 j0.At] j0 from ⟨_,_,rfl,⟨_,_,rfl,M5,O5⟩,⟨_,_,rfl,rfl,⟨_,_,rfl,rfl,rfl⟩⟩⟩),V1,(St.le u),u.keep⟩
 intro w0 H hH R0 G0 p1 S0 D0 p6 p7 p8 r hm
 rw [Z2f] at hm
 refine fn0 func162 rfl ntmps162 rfl rfl λa o=>?_
 have u:St w0 Nil [H] [] w0:=start1 hH
 refine th<|rg<|ls<|Ap (cs:=[.slice none 0 0,i6 0,i6 0,i6 0].toArray) o rfl u Tryz.zeroValue174 rfl λb9 w a u o=>re<|tn<|th<|th<|rg<|qm o rfl λo=>qv o (Am o rfl rfl) λo=>re<|?_
 rcases bip hm with ⟨R3,hm⟩ | ⟨R3,hm⟩
 refine tn<|ctv o rfl R3<|th<|?_
 obtain ⟨M1,U7,hm⟩:=bs hm
 refine rg<|qm o rfl λo=>?_
 iterate 2 refine qm o rfl λo=>?_
 refine ls<|c1 o rfl call170 (ih_Z2y (St.le u) S0 D0 U7) ⟨rfl,rfl,rfl,trivial⟩ (λv w a hR o=>?_)
 obtain ⟨H16,cs17,rfl,V7,X2,S6,hk⟩:=hR
 obtain ⟨u,X2⟩:=And.intro (St.passH u hk X2 S6) (St.extc u X2)
 obtain ⟨U4,D4,rfl,T6,U6⟩:=Bb V7
 refine ls<|Aw o u sizeOf174 rfl rfl rfl rfl (Ak rfl) .head λw u=>re<|tn<|wr<|tr<|?_
 obtain rfl:=si hm
 exact r1c (vs:=[SL U4 M1.L D4,i6 M1.To,i6 M1.E,i6 M1.At]) (.inl rfl) o results162 rfl isAgg174 sizeOf174 rfl (u.ld.cellsB t0) ⟨H16,_,rfl,(show Enc.rep (α:=leadlineref03_Read) H16 [SL U4 M1.L D4,i6 M1.To,i6 M1.E,i6 M1.At] M1 from ⟨_,_,rfl,⟨_,_,rfl,T6,U6⟩,⟨_,_,rfl,rfl,⟨_,_,rfl,rfl,rfl⟩⟩⟩),X2,(St.le u),u.keep⟩
 refine tn<|cfv o rfl R3<|wk<|tn<|th<|?_
 obtain ⟨E4,W7,hm⟩:=bs hm
 refine rg<|qm o rfl λo=>?_
 iterate 3 refine qm o rfl λo=>?_
 refine qv o (Ao o rfl rfl) λo=>ls<|c1 o rfl call162 (ih_Z2f (St.le u) S0 D0 W7) ⟨rfl,rfl,rfl,rfl,trivial⟩ (λv w a hR o=>?_)
 obtain ⟨H28,cs29,rfl,X7,Y0,V6,hk⟩:=hR
 obtain ⟨u,Y0⟩:=And.intro (St.passH u hk Y0 V6) (St.extc u Y0)
 obtain ⟨W6,P5,rfl,X6,Y6⟩:=Bb X7
 refine ls<|Ap (cs:=[.slice none 0 0,i6 0,i6 0,i6 0].toArray) o rfl u zeroValue174 rfl λB1 w a u o=>ls<|Aw o u sizeOf174 rfl rfl rfl rfl (Ak rfl) .head λw u=>re<|tn<|th<|Ay (λa w=>∃ (M0:(List api_Node)) (C2:Int) (E2:Int) (F2:Int) (G2:PH) (Y1:Option Addr) (O1:Nat),Z2g M0 C2 E2 F2=some r∧Ext w0 H28 G2∧Fr 91 [(8,PT b9),(9,PT B1)] a∧St w0 Nil [G2] [bk b9 [.slice none 0 0,i6 0,i6 0,i6 0] 174,bk B1 [SL Y1 M0 O1,i6 C2,i6 E2,i6 F2] 174] w∧M0.length≤O1∧SR G2 Y1 M0) ?_ ?_
 replace u:=u.pk [1,0] rfl
 refine wb<|lp (α:=Nat×(List api_Node)×Int×Int×Int) (λgh a w=>match gh with | (S1,I0,K0,P0,Q0)=>∃ (T1:PH) (U0:Option Addr) (O0:Nat),(Z2j (Z2f N) N Z2g p1 p7 p8) S1 I0 K0 P0 Q0=some r∧Ext w0 H28 T1∧Fr 91 [(0,SL R0 p1 G0),(2,i6 p7),(3,i6 p8),(8,PT b9),(9,PT B1)] a∧St w0 Nil [T1] [bk b9 [.slice none 0 0,i6 0,i6 0,i6 0] 174,bk B1 [SL U0 I0 O0,i6 K0,i6 P0,i6 Q0] 174] w∧I0.length≤O0∧SR T1 U0 I0) (λgh=>gh.1) (N,E4.L,E4.To,E4.E,E4.At) ⟨H28,W6,P5,hm,(Ext.refl _ _),o.hs,u,X6,Y6⟩ ?_
 rintro ⟨S1,I0,K0,P0,Q0⟩ a w ⟨T1,U0,O0,hm,X0,o,u,hcB13,hrB14⟩
 obtain _ | S1:=S1
 simp [Z2j] at hm
 rw [Z2j] at hm
 refine th<|th<|rg<|qv o (Ag o Gz rfl) λo=>qv o (Ah o isAgg29 rfl (u.ld.cellB t1 rfl)) λo=>qv o (Am o rfl rfl) λo=>re<|?_
 rcases bip hm with ⟨S3,hm⟩ | ⟨S3,hm⟩
 refine tn<|ctv o rfl S3<|wk<|tn<|wb<|th<|rg<|qa o rfl λo=>re<|tn<|th<|th<|rg<|qa o rfl λo=>re<|tn<|Ay (λa w=>∃ (C1:Int) (E3:PH),(Z2h (Z2f N) ((Z2j (Z2f N) N Z2g p1 p7 p8) S1) p1 p7 p8 I0 K0 P0 Q0) C1=some r∧Ext w0 T1 E3∧Fr 91 [(0,SL R0 p1 G0),(2,i6 p7),(3,i6 p8),(8,PT b9),(9,PT B1),(10,i6 C1)] a∧St w0 Nil [E3] [bk b9 [.slice none 0 0,i6 0,i6 0,i6 0] 174,bk B1 [SL U0 I0 O0,i6 K0,i6 P0,i6 Q0] 174] w) ?_ ?_
 refine wb<|lp (α:=Nat×Int×Int) (λgh a w=>match gh with | (I2,F3,J2)=>∃ (HD1:PH),(Z2k N (Z2h (Z2f N) ((Z2j (Z2f N) N Z2g p1 p7 p8) S1) p1 p7 p8 I0 K0 P0 Q0) p1 p8 K0) I2 F3 J2=some r∧Ext w0 T1 HD1∧Fr 91 [(0,SL R0 p1 G0),(2,i6 p7),(3,i6 p8),(8,PT b9),(9,PT B1),(10,i6 F3),(11,i6 J2)] a∧St w0 Nil [HD1] [bk b9 [.slice none 0 0,i6 0,i6 0,i6 0] 174,bk B1 [SL U0 I0 O0,i6 K0,i6 P0,i6 Q0] 174] w) (λgh=>gh.1) (N,0,0) ⟨T1,hm,(Ext.refl _ _),o.hs,u⟩ ?_
 rintro ⟨I2,F3,J2⟩ a w ⟨HD1,hm,hxHD1,o,u⟩
 obtain _ | I2:=I2
 simp [Z2k] at hm
 rw [Z2k] at hm
 refine th<|th<|?_
 obtain ⟨Y7,d7,hm⟩:=bs hm
 refine rg<|qm o rfl λo=>qm o rfl λo=>ls<|c1 o rfl call171 (Tw (St.le u) d7) ⟨rfl,trivial⟩ (λv w a hR o=>?_)
 obtain ⟨H42,R8,I8,rfl,S8,T8,Q1,d6,hk⟩:=hR
 obtain ⟨u,Q1⟩:=And.intro (St.passH u hk Q1 d6) (St.extc u Q1)
 refine qv o (Al (α:=Int) (xs:=Y7) o runUnderlying42 rfl) λo=>qv o (Au o rfl rfl) λo=>re<|?_
 rcases bip hm with ⟨T3,hm⟩ | ⟨T3,hm⟩
 refine tn<|ctv o rfl T3<|wk<|tn<|th<|Ay (λa w=>∃ (F4:Int) (HE1:PH),(Z2i (Z2k N (Z2h (Z2f N) ((Z2j (Z2f N) N Z2g p1 p7 p8) S1) p1 p7 p8 I0 K0 P0 Q0) p1 p8 K0 I2) J2) F4=some r∧Ext w0 H42 HE1∧Fr 91 [(0,SL R0 p1 G0),(2,i6 p7),(3,i6 p8),(8,PT b9),(9,PT B1),(10,i6 F4),(11,i6 J2)] a∧St w0 Nil [HE1] [bk b9 [.slice none 0 0,i6 0,i6 0,i6 0] 174,bk B1 [SL U0 I0 O0,i6 K0,i6 P0,i6 Q0] 174] w) ?_ ?_
 refine wb<|th<|?_
 obtain ⟨y8,j7,hm⟩:=bs hm
 obtain ⟨k7,V4,hm⟩:=bs hm
 obtain ⟨z8,n7,hm⟩:=bs hm
 obtain ⟨A9,u7,hm⟩:=bs hm
 refine rdS 10 u wide λw u=>dr 0 u o rfl (Ab o rfl) λo=>dr 1 u o rfl (Ag o Ec rfl) λo=>dq 2 u.ld o rfl (λw hl=>Ah o isAgg3 rfl (hl.cellB t1 rfl)) λo=>dr 3 u o rfl (Ab o rfl) λo=>dr 5 u o rfl (Ab o rfl) λo=>da1 (i:=4) (by kernel_rfl) ?_
 refine di (i:=4) rfl<|c1 o rfl call171 (Tw (St.le u) j7) ⟨rfl,trivial⟩ (λv w a hR o=>?_)
 obtain ⟨H53,U8,J8,rfl,V8,W4,V0,j6,hk⟩:=hR
 obtain ⟨u,V0⟩:=And.intro (St.passH u hk V0 j6) (St.extc u V0)
 refine ⟨λ_=>(St.ldsX u V0.sub i1),?_⟩
 refine ds 6 (St.ldsX u V0.sub i1) o rfl (Aq o runUnderlying42 sizeOf3 rfl rfl V4 (SR.oaI W4 (by decide) V4)) λo=>?_
 obtain ⟨v7,z7,k6⟩:=SR.get W4 V4
 obtain rfl:v7=[i6 k7]:=z7
 refine da1 (i:=7) (by kernel_rfl) ?_
 refine di (i:=7) rfl<|q1 o rfl (Ah o isAgg3 rfl (PH.le.cell (Lds.le u.ld) (k6 0 _ rfl))) λa o=>⟨λ_=>(St.ldsX u V0.sub i1),?_⟩
 refine da1 (i:=8) (by kernel_rfl) ?_
 refine di (i:=8) rfl<|cr o call172 (JaU (Ai _) n7) u λu o=>⟨λ_=>(St.ldsX u V0.sub i1),?_⟩
 refine da1 (i:=9) (by kernel_rfl) ?_
 refine di (i:=9) rfl<|cr o call139 (Fe (Ai _) S0 (St.srH u (D0.mono (cp (cp (cp (cp V0.sub Q1.sub) hxHD1.sub) X0.sub) Y0.sub))) u7) u λu o=>⟨λ_=>(St.ldsX u V0.sub i1),?_⟩
 refine de (by kernel_rfl)<|?_
 rcases bit hm with ⟨U3,hm⟩ | ⟨U3,hm⟩
 refine tn<|ctv o rfl U3<|?_
 obtain ⟨B9,A8,hm⟩:=bs hm
 obtain ⟨d5,X4,hm⟩:=bs hm
 refine rg<|qm o rfl λo=>ls<|c1 o rfl call171 (Tw (St.le u) A8) ⟨rfl,trivial⟩ (λv w a hR o=>?_)
 obtain ⟨H73,W8,K8,rfl,X8,Y4,Y2,n6,hk⟩:=hR
 obtain ⟨u,Y2⟩:=And.intro (St.passH u hk Y2 n6) (St.extc u Y2)
 refine qm o rfl λo=>qv o (Aq o runUnderlying42 sizeOf3 rfl rfl X4 (SR.oaI Y4 (by decide) X4)) λo=>?_
 obtain ⟨B8,C8,u6⟩:=SR.get Y4 X4
 obtain rfl:B8=[i6 d5]:=C8
 refine qv o (Ah o isAgg3 rfl (PH.le.cell (Lds.le u.ld) (u6 0 _ rfl))) λo=>qa o rfl λo=>re<|bn<|tn<|?_
 exact ⟨d5,H73,hm,(Ext.trans V0 Y2),o.hs,u⟩
 refine tn<|cfv o rfl U3<|wk<|bn<|tn<|?_
 exact ⟨F3,H53,hm,V0,o.hs,u⟩
 rintro a w ⟨F4,HE1,hm,hxHE1,o,u⟩
 unfold Z2i at hm
 refine rg<|qm o rfl λo=>qv o (Ao o rfl rfl) λo=>qa o rfl λo=>re<|tn<|?_
 exact ⟨(I2,F4,(IntKind.i64.wrap (J2+1))),⟨HE1,hm,(Ext.trans hxHD1 (Ext.trans Q1 hxHE1)),o.hs,u⟩,Nat.lt_succ_self _⟩
 refine tn<|cfv o rfl T3<|we<|tx<|tx<|bx<|tn<|?_
 exact ⟨F3,H42,hm,(Ext.trans hxHD1 Q1),o.hs,u⟩
 rintro a w ⟨C1,E3,hm,hxHC1,o,u⟩
 unfold Z2h at hm
 refine th<|th<|rg<|qm o rfl λo=>qv o (Am o rfl rfl) λo=>re<|?_
 rcases bip hm with ⟨V3,hm⟩ | ⟨V3,hm⟩
 refine tn<|ctv o rfl V3<|th<|rg<|qv o (Ar o Tryz.isAgg174 Tryz.sizeOf174 rfl rfl (u.ld.cellsB t1)) λo=>ls<|Aw o u sizeOf174 rfl rfl rfl rfl (Ak rfl) .head λw u=>re<|tn<|wr<|tr<|br<|tr<|br<|tr<|?_
 obtain rfl:=si hm
 exact r1c (vs:=[SL U0 I0 O0,i6 K0,i6 P0,i6 Q0]) (.inl rfl) o results162 rfl isAgg174 sizeOf174 rfl (u.ld.cellsB t0) ⟨E3,_,rfl,(show Enc.rep (α:=leadlineref03_Read) E3 [SL U0 I0 O0,i6 K0,i6 P0,i6 Q0] (leadlineref03_Read.mk I0 K0 P0 Q0) from ⟨_,_,rfl,⟨_,_,rfl,hcB13,(hrB14.mono hxHC1.sub)⟩,⟨_,_,rfl,rfl,⟨_,_,rfl,rfl,rfl⟩⟩⟩),(Ext.trans Y0 (Ext.trans X0 hxHC1)),(St.le u),u.keep⟩
 refine tn<|cfv o rfl V3<|wk<|tn<|th<|?_
 obtain ⟨T0,D8,hm⟩:=bs hm
 refine rg<|qm o rfl λo=>qv o (Ag o Ec rfl) λo=>qv o (Ah o isAgg3 rfl (u.ld.cellB t1 rfl)) λo=>qv o (Ao o rfl rfl) λo=>?_
 iterate 2 refine qm o rfl λo=>?_
 refine qv o (Ao o rfl rfl) λo=>ls<|c1 o rfl call162 (ih_Z2f (St.le u) S0 (D0.mono (cp (cp hxHC1.sub X0.sub) Y0.sub)) D8) ⟨rfl,rfl,rfl,rfl,trivial⟩ (λv w a hR o=>?_)
 obtain ⟨H89,cs90,rfl,E8,p0,v6,hk⟩:=hR
 obtain ⟨u,p0⟩:=And.intro (St.passH u hk p0 v6) (St.extc u p0)
 obtain ⟨d4,G4,rfl,y6,j4⟩:=Bb E8
 refine ls<|Ap (cs:=[.slice none 0 0,i6 0,i6 0,i6 0].toArray) o rfl u zeroValue174 rfl λC9 w a u o=>ls<|Aw o u sizeOf174 rfl rfl rfl rfl (Ak rfl) .head λw u=>re<|tn<|th<|th<|rg<|qv o (Ag o Gz rfl) λo=>qv o (Ah o isAgg29 rfl (u.ld.cellB t0 rfl)) λo=>qv o (Bu o rfl rfl) λo=>re<|?_
 rcases bip hm with ⟨W3,hm⟩ | ⟨W3,hm⟩
 refine tn<|ctv o rfl W3<|th<|rg<|qv o (Ar o Tryz.isAgg174 Tryz.sizeOf174 rfl rfl (u.ld.cellsB t0)) λo=>ls<|Aw o u sizeOf174 rfl rfl rfl rfl (Ak rfl) (.tail .head) λw u=>re<|tn<|wr<|tr<|br<|tr<|br<|tr<|?_
 obtain rfl:=si hm
 exact r1c (vs:=[SL d4 T0.L G4,i6 T0.To,i6 T0.E,i6 T0.At]) (.inl rfl) o results162 rfl isAgg174 sizeOf174 rfl (u.ld.cellsB t1) ⟨H89,_,rfl,(show Enc.rep (α:=leadlineref03_Read) H89 [SL d4 T0.L G4,i6 T0.To,i6 T0.E,i6 T0.At] T0 from ⟨_,_,rfl,⟨_,_,rfl,y6,j4⟩,⟨_,_,rfl,rfl,⟨_,_,rfl,rfl,rfl⟩⟩⟩),(Ext.trans Y0 (Ext.trans X0 (Ext.trans hxHC1 p0))),(St.le u),u.keep⟩
 refine tn<|cfv o rfl W3<|wk<|tn<|th<|?_
 obtain ⟨B2,k4,hm⟩:=bs hm
 obtain ⟨Y8,z6,Q5⟩:=SR.get D0 k4
 obtain rfl:=Ba z6
 refine rg<|qm o rfl λo=>qm o rfl λo=>qv o (Ag o Ec rfl) λo=>qv o (Ah o isAgg3 rfl (u.ld.cellB t2 rfl)) λo=>qv o (Aq o runUnderlying120 sizeOf130 rfl rfl k4 (SR.oaI D0 (by decide) k4)) λo=>qv o (Ag o Da rfl) λo=>qv o (Ah o isAgg3 rfl (PH.le.cell (λb o hx=>(Lds.le u.ld) b o ((cp (cp (cp p0.sub hxHC1.sub) X0.sub) Y0.sub) b o hx)) (Q5 3 _ rfl))) λo=>qv o (Bi [i6 C1,i6 B2.At] [i6 C1,i6 0,Ac [],i6 B2.At] o ⟨rfl,rfl,trivial⟩ (λw=>by kernel_rfl)) λo=>ls<|Bh (e:=90) (sz:=4) [i6 C1,i6 0,Ac [],i6 B2.At] o rfl u rfl rfl rfl (λw=>by kernel_rfl) λd8 w a u o=>?_
 have R5:Rows (α:=api_Node) H89 [i6 C1,i6 0,Ac [],i6 B2.At] ([(api_Node.mk C1 0 [] B2.At)]:List api_Node):=(.cons (c:=[i6 C1,i6 0,Ac [],i6 B2.At]) ⟨_,_,rfl,rfl,⟨_,_,rfl,rfl,⟨_,_,rfl,rfl,rfl⟩⟩⟩ .nil)
 refine qa o rfl λo=>re<|tn<|th<|?_
 obtain ⟨A7,B7,hm⟩:=bs hm
 refine rg<|qm o rfl λo=>qv o (Ag o Fi rfl) λo=>qv o (Ah o isAgg49 rfl (u.ld.cellB t3 rfl)) λo=>?_
 obtain ⟨us112,hd113,hu114⟩:=id (hrB14.mono (cp p0.sub hxHC1.sub))
 refine ls<|Cc (α:=api_Node) (xs:=([(api_Node.mk C1 0 [] B2.At)]:List api_Node)) (ys:=I0) o rfl u underlying49 Nu rfl (by decide) rfl rfl rfl t0 R5 (u.rdH t0 hd113) hu114 B7 λL8 F8 M8 w a S5 hU o=>?_
 replace u:=hU _ .head
 refine qa o rfl λo=>re<|tn<|th<|?_
 obtain ⟨R1,C7,hm⟩:=bs hm
 refine rg<|qm o rfl λo=>qv o (Ag o Fi rfl) λo=>qv o (Ah o isAgg49 rfl (u.ld.cellB t1 rfl)) λo=>?_
 obtain ⟨us121,hd122,hu123⟩:=id j4
 refine ls<|Cc (α:=api_Node) (xs:=A7) (ys:=T0.L) o rfl u underlying49 Nu rfl (by decide) rfl rfl rfl t0 S5 (u.rdH t0 hd122) hu123 C7 λP1 u0 O8 w a I4 hU o=>?_
 replace u:=hU _ .head
 refine qa o rfl λo=>re<|tn<|th<|rg<|qm o rfl λo=>qv o (Ag o Ec rfl) λo=>qv o (Ah o isAgg3 rfl (u.ld.cellB t1 rfl)) λo=>qv o (Bi [SL P1 R1 u0,i6 T0.To] [SL P1 R1 u0,i6 T0.To,i6 0,i6 0] o ⟨rfl,rfl,trivial⟩ (λw=>by kernel_rfl)) λo=>ls<|Aw o u sizeOf174 rfl rfl rfl rfl (Ak rfl) (.tail (.tail (.tail .head))) λw u=>re<|tn<|th<|rg<|qm o rfl λo=>qv o (Am o rfl rfl) λo=>re<|?_
 rcases bip hm with ⟨A3,hm⟩ | ⟨A3,hm⟩
 refine tn<|ctv o rfl A3<|th<|rg<|qv o (Ar o Tryz.isAgg174 Tryz.sizeOf174 rfl rfl (u.ld.cellsB t3)) λo=>ls<|Aw o u sizeOf174 rfl rfl rfl rfl (Ak rfl) (.tail (.tail .head)) λw u=>re<|tn<|wr<|br<|tr<|br<|tr<|?_
 obtain ⟨H128,T5,U5,V5,u⟩:=St.frzS u .head I4
 obtain rfl:=si hm
 exact r1c (vs:=[SL P1 R1 u0,i6 T0.To,i6 0,i6 0]) (.inl rfl) o results162 rfl isAgg174 sizeOf174 rfl (u.ld.cellsB t1) ⟨H128,_,rfl,(show Enc.rep (α:=leadlineref03_Read) H128 [SL P1 R1 u0,i6 T0.To,i6 0,i6 0] (leadlineref03_Read.mk R1 T0.To 0 0) from ⟨_,_,rfl,⟨_,_,rfl,V5,U5⟩,⟨_,_,rfl,rfl,⟨_,_,rfl,rfl,rfl⟩⟩⟩),(Ext.trans Y0 (Ext.trans X0 (Ext.trans hxHC1 (Ext.trans p0 T5)))),(St.le u),u.keep⟩
 refine tn<|cfv o rfl A3<|wk<|bn<|tn<|?_
 obtain ⟨G8,hxB5,hrB6,hcB7,u⟩:=St.frzS u .head I4
 replace u:=u.pk [1,1] rfl
 exact ⟨(S1,R1,T0.To,0,0),⟨G8,P1,u0,hm,(Ext.trans X0 (Ext.trans hxHC1 (Ext.trans p0 hxB5))),o.hs,u,hcB7,hrB6⟩,Nat.lt_succ_self _⟩
 refine tn<|cfv o rfl S3<|we<|tx<|tx<|bx<|tn<|?_
 exact ⟨I0,K0,P0,Q0,T1,U0,O0,hm,X0,o.has ⟨rfl,rfl,trivial⟩,u,hcB13,hrB14⟩
 rintro a w ⟨M0,C2,E2,F2,G2,Y1,O1,hm,W5,o,u,hcA5,hrA6⟩
 unfold Z2g at hm
 refine th<|rg<|qv o (Ar o Tryz.isAgg174 Tryz.sizeOf174 rfl rfl (u.ld.cellsB t1)) λo=>ls<|Aw o u sizeOf174 rfl rfl rfl rfl (Ak rfl) .head λw u=>re<|tn<|wr<|?_
 obtain rfl:=si hm
 exact r1c (vs:=[SL Y1 M0 O1,i6 C2,i6 E2,i6 F2]) (.inl rfl) o results162 rfl isAgg174 sizeOf174 rfl (u.ld.cellsB t0) ⟨G2,_,rfl,(show Enc.rep (α:=leadlineref03_Read) G2 [SL Y1 M0 O1,i6 C2,i6 E2,i6 F2] (leadlineref03_Read.mk M0 C2 E2 F2) from ⟨_,_,rfl,⟨_,_,rfl,hcA5,hrA6⟩,⟨_,_,rfl,rfl,⟨_,_,rfl,rfl,rfl⟩⟩⟩),(Ext.trans Y0 W5),(St.le u),u.keep⟩
theorem Jaz:∀ (N:Nat) {w0:World} {H:PH} (_:H.le w0) {D0:Option Addr} {C0:Nat} {p1:(List api_Token)} (_:p1.length≤C0) (_:SR H D0 p1) {p6:Int} {p7:Int} {p8:Int} {r:leadlineref03_Read} (_:Z2f N p1 p6 p7 p8=some r),Tot Tryz.prog 162 #[SL D0 p1 C0,i6 p6,i6 p7,i6 p8] w0 (λv w'=>∃ (H':PH) (cs0:List Value),v=.agg cs0.toArray∧Enc.rep H' cs0 r∧Ext w0 H H'∧H'.le w'∧Keep Nil w0 w'):=λN=>(JaP N).2
theorem Xf (hH:H.le w0) {R0:Option Addr} {I0:Nat} {p1:(List api_Token)} (W0:p1.length≤I0) (D0:SR H R0 p1) {p6:Int} {r:((List api_Node)×Int×Int×Int)} (hm:Z2m N p1 p6=some r):Tot Tryz.prog 142 #[SL R0 p1 I0,i6 p6] w0 (λv w'=>∃ (H':PH) (S0:Option Addr) (J0:Nat),v=.tuple #[SL S0 r.1 J0,i6 r.2.1,i6 r.2.2.1,i6 r.2.2.2]∧r.1.length≤J0∧SR H' S0 r.1∧Ext w0 H H'∧H'.le w'∧Keep Nil w0 w'):=by
 unfold Z2m at hm
 refine fn0 func142 rfl ntmps142 rfl rfl λa o=>?_
 have u:St w0 Nil [H] [] w0:=start1 hH
 refine th<|rg<|qa o rfl λo=>?_
 iterate 3 refine qa o rfl λo=>?_
 refine re<|tn<|th<|th<|rg<|qm o rfl λo=>qv o (Au o rfl rfl) λo=>re<|?_
 rcases bip hm with ⟨K0,hm⟩ | ⟨K0,hm⟩
 refine tn<|ctv o rfl K0<|th<|rg<|qa o rfl λo=>?_
 iterate 3 refine qa o rfl λo=>?_
 refine re<|tn<|wr<|tr<|?_
 obtain rfl:=si hm
 exact Go.LM.r4 o results142 rfl rfl rfl rfl ⟨H,_,_,rfl,(Nat.le_refl 0),(SR.nil _ _),(Ext.refl _ _),(St.le u),u.keep⟩
 refine tn<|cfv o rfl K0<|wk<|tn<|th<|?_
 obtain ⟨X0,h9,hm⟩:=bs hm
 refine rg<|qm o rfl λo=>qm o rfl λo=>ls<|c1 o rfl call162 (Jaz _ (St.le u) W0 D0 h9) ⟨rfl,rfl,rfl,rfl,trivial⟩ (λv w a hR o=>?_)
 obtain ⟨H13,cs14,rfl,Y0,C0,T0,hk⟩:=hR
 obtain ⟨u,C0⟩:=And.intro (St.passH u hk C0 T0) (St.extc u C0)
 obtain ⟨B1,u0,rfl,M0,O0⟩:=Bb Y0
 refine ls<|Ap (cs:=[.slice none 0 0,i6 0,i6 0,i6 0].toArray) o rfl u zeroValue174 rfl λC1 w a u o=>ls<|Aw o u sizeOf174 rfl rfl rfl rfl (Ak rfl) .head λw u=>re<|tn<|th<|th<|rg<|qv o (Ag o Gz rfl) λo=>qv o (Ah o isAgg29 rfl (u.ld.cellB t0 rfl)) λo=>qv o (Bu o rfl rfl) λo=>re<|?_
 rcases bip hm with ⟨E0,hm⟩ | ⟨E0,hm⟩
 refine tn<|ctv o rfl E0<|th<|rxS 8 u wide (by kernel_rfl) λw u=>xr u o (Ag o Gz rfl) λo=>xq u.ld o (λw hl=>Ah o isAgg29 rfl (hl.cellB t0 rfl)) λo=>xr u o (Ag o Vx rfl) λo=>xq u.ld o (λw hl=>Ah o isAgg3 rfl (hl.cellB t0 rfl)) λo=>?_
 iterate 4 refine xq u.ld o (λw hl=>Bo o rfl) λo=>?_
 refine xe<|tn<|wr<|tr<|?_
 obtain rfl:=si hm
 exact Go.LM.r4 o results142 rfl rfl rfl rfl ⟨H13,_,_,rfl,(Nat.le_refl 0),(SR.nil _ _),C0,(St.le u),u.keep⟩
 refine tn<|cfv o rfl E0<|wk<|tn<|th<|th<|?_
 obtain ⟨E1,j0,hm⟩:=bs hm
 refine rg<|qv o (Ag o Fi rfl) λo=>qv o (Ah o isAgg49 rfl (u.ld.cellB t0 rfl)) λo=>ls<|cr o call134 (Jau _ (Ai _) M0 (St.srH u O0) j0) u λu o=>qv o (Bn o rfl rfl) λo=>re<|?_
 rcases bip hm with ⟨F0,hm⟩ | ⟨F0,hm⟩
 refine tn<|ctv o rfl F0<|th<|?_
 obtain ⟨F1,P0,hm⟩:=bs hm
 obtain ⟨G1,n0,U0⟩:=SR.get D0 P0
 obtain rfl:=Ba n0
 refine rxS 9 u wide (by kernel_rfl) λw u=>?_
 iterate 2 refine xq u.ld o (λw hl=>Ab o rfl) λo=>?_
 refine xr u o (Aq o runUnderlying120 sizeOf130 rfl rfl P0 (SR.oaI D0 (by decide) P0)) λo=>xr u o (Ag o Da rfl) λo=>xq u.ld o (λw hl=>Ah o isAgg3 rfl (PH.le.cell (λb o hx=>(Lds.le hl) b o (C0.sub b o hx)) (U0 3 _ rfl))) λo=>?_
 iterate 4 refine xq u.ld o (λw hl=>Bo o rfl) λo=>?_
 refine xe<|tn<|wr<|tr<|?_
 obtain rfl:=si hm
 exact Go.LM.r4 o results142 rfl rfl rfl rfl ⟨H13,_,_,rfl,(Nat.le_refl 0),(SR.nil _ _),C0,(St.le u),u.keep⟩
 refine tn<|cfv o rfl F0<|wk<|tn<|th<|th<|rg<|qv o (Ag o Fi rfl) λo=>qv o (Ah o isAgg49 rfl (u.ld.cellB t0 rfl)) λo=>qv o (Al (α:=api_Node) (xs:=X0.L) o runUnderlying49 rfl) λo=>qv o (Bn o rfl rfl) λo=>re<|?_
 rcases bip hm with ⟨G0,hm⟩ | ⟨G0,hm⟩
 refine tn<|ctv o rfl G0<|th<|?_
 obtain ⟨I1,Q0,hm⟩:=bs hm
 obtain ⟨J1,p0,V0⟩:=SR.get D0 Q0
 obtain rfl:=Ba p0
 refine rxS 9 u wide (by kernel_rfl) λw u=>?_
 iterate 2 refine xq u.ld o (λw hl=>Ab o rfl) λo=>?_
 refine xr u o (Aq o runUnderlying120 sizeOf130 rfl rfl Q0 (SR.oaI D0 (by decide) Q0)) λo=>xr u o (Ag o Da rfl) λo=>xq u.ld o (λw hl=>Ah o isAgg3 rfl (PH.le.cell (λb o hx=>(Lds.le hl) b o (C0.sub b o hx)) (V0 3 _ rfl))) λo=>?_
 iterate 4 refine xq u.ld o (λw hl=>Bo o rfl) λo=>?_
 refine xe<|tn<|wr<|tr<|?_
 obtain rfl:=si hm
 exact Go.LM.r4 o results142 rfl rfl rfl rfl ⟨H13,_,_,rfl,(Nat.le_refl 0),(SR.nil _ _),C0,(St.le u),u.keep⟩
 refine tn<|cfv o rfl G0<|wk<|tn<|th<|rxS 8 u wide (by kernel_rfl) λw u=>xr u o (Ag o Fi rfl) λo=>xq u.ld o (λw hl=>Ah o isAgg49 rfl (hl.cellB t0 rfl)) λo=>xr u o (Ag o Ec rfl) λo=>xq u.ld o (λw hl=>Ah o isAgg3 rfl (hl.cellB t0 rfl)) λo=>?_
 iterate 4 refine xq u.ld o (λw hl=>Bo o rfl) λo=>?_
 refine xe<|tn<|wr<|?_
 obtain rfl:=si hm
 exact Go.LM.r4 o results142 rfl rfl rfl rfl ⟨H13,_,_,rfl,M0,O0,C0,(St.le u),u.keep⟩
theorem On (hH:H.le w0) {b2:Nat} {p1:leadlineref04_P} {oa3:Option Addr} {cap4:Nat} (G0:p1.L.length≤cap4) (I0:SR H oa3 p1.L) {oa7:Option Addr} {cap8:Nat} {vs9:List Value} (D0:Rows H vs9 p1.Out) (hO:(sepA [bk b2 [SL oa3 p1.L cap4,i6 p1.At,i6 p1.E,i6 p1.Pos,SL oa7 p1.Out cap8] 171,sla 51 9 oa7 p1.Out.length cap8 vs9]).ok (hp w0)) (hD:∀ b,(sepA [bk b2 [SL oa3 p1.L cap4,i6 p1.At,i6 p1.E,i6 p1.Pos,SL oa7 p1.Out cap8] 171,sla 51 9 oa7 p1.Out.length cap8 vs9]).fp b→H b=none) {r:((List api_Node)×leadlineref04_P)} (hm:Z3c N p1=some r):Tot Tryz.prog 176 #[PT b2] w0 (λv w'=>∃ (H':PH) (K0:Option Addr) (J0:Nat) (oa1m:Option Addr) (cap1m:Nat) (oa2m:Option Addr) (cap2m:Nat) (vs2m:List Value),v=SL K0 r.1 J0∧r.1.length≤J0∧SR H' K0 r.1∧r.2.L.length≤cap1m∧SR H' oa1m r.2.L∧Rows H' vs2m r.2.Out∧ExtM w0 (sepA [bk b2 [SL oa3 p1.L cap4,i6 p1.At,i6 p1.E,i6 p1.Pos,SL oa7 p1.Out cap8] 171,sla 51 9 oa7 p1.Out.length cap8 vs9]).fp H H'∧H'.le w'∧(∀ b,(sepA [bk b2 [SL oa1m r.2.L cap1m,i6 r.2.At,i6 r.2.E,i6 r.2.Pos,SL oa2m r.2.Out cap2m] 171,sla 51 9 oa2m r.2.Out.length cap2m vs2m]).fp b→H' b=none)∧Mut w0 (sepA [bk b2 [SL oa3 p1.L cap4,i6 p1.At,i6 p1.E,i6 p1.Pos,SL oa7 p1.Out cap8] 171,sla 51 9 oa7 p1.Out.length cap8 vs9]) (sepA [bk b2 [SL oa1m r.2.L cap1m,i6 r.2.At,i6 r.2.E,i6 r.2.Pos,SL oa2m r.2.Out cap2m] 171,sla 51 9 oa2m r.2.Out.length cap2m vs2m]) w'):=by
 unfold Z3c at hm
 refine fn0 func176 rfl ntmps176 rfl rfl λa o=>?_
 have u:=Cg hH hO hD
 refine th<|rg<|qa o rfl λo=>re<|tn<|th<|th<|rg<|qm o rfl λo=>qv o (Aj o rfl) λo=>qv o (Ag o Bs rfl) λo=>qv o (Ah o isAgg29 rfl (u.ld.cellB t0 rfl)) λo=>qv o (Bu o rfl rfl) λo=>re<|?_
 rcases bip hm with ⟨E0,hm⟩ | ⟨E0,hm⟩
 refine tn<|ctv o rfl E0<|th<|rg<|qa o rfl λo=>re<|tn<|wr<|tr<|?_
 obtain rfl:=si hm
 exact r1 o results176 rfl ⟨H,_,_,oa3,cap4,oa7,cap8,vs9,rfl,(Nat.le_refl 0),(SR.nil _ _),G0,I0,D0,(ExtM.refl _ _ _),(St.le u),(St.disL (u.pickL (.cons .head (.cons .head .nil)))),(u.pickL (.cons .head (.cons .head .nil))).endMut⟩
 refine tn<|cfv o rfl E0<|wk<|tn<|th<|?_
 obtain ⟨T0,Q0,hm⟩:=bs hm
 refine rdS 18 u wide λw u=>dr 0 u o rfl (Ab o rfl) λo=>dr 1 u o rfl (Aj o rfl) λo=>dr 2 u o rfl (Ag o Br rfl) λo=>dq 3 u.ld o rfl (λw hl=>Ah o isAgg120 rfl (hl.cellB t0 rfl)) λo=>dr 4 u o rfl (Ab o rfl) λo=>dr 5 u o rfl (Aj o rfl) λo=>dr 6 u o rfl (Ag o Be rfl) λo=>dq 7 u.ld o rfl (λw hl=>Ah o isAgg3 rfl (hl.cellB t0 rfl)) λo=>da1 (i:=8) (by kernel_rfl) ?_
 refine di (i:=8) rfl<|c1 o rfl call142 (Xf (St.le u) G0 I0 Q0) ⟨rfl,rfl,trivial⟩ (λv w a hR o=>?_)
 obtain ⟨H18,S0,R0,rfl,M0,O0,C0,P0,hk⟩:=hR
 obtain ⟨u,C0⟩:=And.intro (St.passH u hk C0 P0) (St.extcM u C0)
 refine ⟨λ_=>(St.ldsX u C0.sub i1),?_⟩
 refine ds 9 (St.ldsX u C0.sub i1) o rfl (Ab o rfl) λo=>ds 10 (St.ldsX u C0.sub i1) o rfl (Bv o rfl rfl) λo=>ds 11 (St.ldsX u C0.sub i1) o rfl (Bv o rfl rfl) λo=>ds 12 (St.ldsX u C0.sub i1) o rfl (Bv o rfl rfl) λo=>ds 13 (St.ldsX u C0.sub i1) o rfl (Bv o rfl rfl) λo=>ds 14 (St.ldsX u C0.sub i1) o rfl (Bo o rfl) λo=>ds 15 (St.ldsX u C0.sub i1) o rfl (Bo o rfl) λo=>ds 16 (St.ldsX u C0.sub i1) o rfl (Bo o rfl) λo=>ds 17 (St.ldsX u C0.sub i1) o rfl (Bo o rfl) λo=>de (by kernel_rfl)<|tn<|th<|th<|rg<|qm o rfl λo=>qv o (Bu o rfl rfl) λo=>re<|?_
 rcases bip hm with ⟨F0,hm⟩ | ⟨F0,hm⟩
 refine tn<|ctv o rfl F0<|th<|rg<|qm o rfl λo=>qm o rfl λo=>qv o (Aj o rfl) λo=>qv o (Ag o Bs rfl) λo=>ls<|As o u sizeOf29 rfl rfl rfl rfl .head (.succ (.succ .zero)) λw u=>re<|tn<|th<|rg<|qm o rfl λo=>qm o rfl λo=>qv o (Aj o rfl) λo=>qv o (Ag o Fj rfl) λo=>ls<|As o u sizeOf3 rfl rfl rfl rfl .head (.succ (.succ (.succ .zero))) λw u=>re<|tn<|th<|rg<|qa o rfl λo=>re<|tn<|wr<|tr<|?_
 obtain rfl:=si hm
 exact r1 o results176 rfl ⟨H18,_,_,oa3,cap4,oa7,cap8,vs9,rfl,(Nat.le_refl 0),(SR.nil _ _),G0,(I0.mono C0.sub),(D0.mono C0.sub),C0,(St.le u),(St.disL (u.pickL (.cons .head (.cons .head .nil)))),(u.pickL (.cons .head (.cons .head .nil))).endMut⟩
 refine tn<|cfv o rfl F0<|wk<|tn<|th<|rg<|qm o rfl λo=>qm o rfl λo=>qv o (Aj o rfl) λo=>qv o (Ag o Be rfl) λo=>ls<|As o u sizeOf3 rfl rfl rfl rfl .head (.succ .zero) λw u=>re<|tn<|th<|rg<|qm o rfl λo=>qa o rfl λo=>re<|tn<|wr<|?_
 obtain rfl:=si hm
 exact r1 o results176 rfl ⟨H18,_,_,oa3,cap4,oa7,cap8,vs9,rfl,M0,O0,G0,(I0.mono C0.sub),(D0.mono C0.sub),C0,(St.le u),(St.disL (u.pickL (.cons .head (.cons .head .nil)))),(u.pickL (.cons .head (.cons .head .nil))).endMut⟩
set_option maxHeartbeats 4000000 in
theorem JaE (hH:H.le w0) {b2:Nat} {p1:leadlineref04_P} {oa3:Option Addr} {cap4:Nat} (K0:p1.L.length≤cap4) (C0:SR H oa3 p1.L) {oa7:Option Addr} {cap8:Nat} {vs9:List Value} (F0:Rows H vs9 p1.Out) (hO:(sepA [bk b2 [SL oa3 p1.L cap4,i6 p1.At,i6 p1.E,i6 p1.Pos,SL oa7 p1.Out cap8] 171,sla 51 9 oa7 p1.Out.length cap8 vs9]).ok (hp w0)) (hD:∀ b,(sepA [bk b2 [SL oa3 p1.L cap4,i6 p1.At,i6 p1.E,i6 p1.Pos,SL oa7 p1.Out cap8] 171,sla 51 9 oa7 p1.Out.length cap8 vs9]).fp b→H b=none) {r:(Int×leadlineref04_P)} (hm:Z3u N p1=some r):Tot Tryz.prog 177 #[PT b2] w0 (λv w'=>∃ (H':PH) (oa1m:Option Addr) (cap1m:Nat) (oa2m:Option Addr) (cap2m:Nat) (vs2m:List Value),v=i6 r.1∧r.2.L.length≤cap1m∧SR H' oa1m r.2.L∧Rows H' vs2m r.2.Out∧ExtM w0 (sepA [bk b2 [SL oa3 p1.L cap4,i6 p1.At,i6 p1.E,i6 p1.Pos,SL oa7 p1.Out cap8] 171,sla 51 9 oa7 p1.Out.length cap8 vs9]).fp H H'∧H'.le w'∧(∀ b,(sepA [bk b2 [SL oa1m r.2.L cap1m,i6 r.2.At,i6 r.2.E,i6 r.2.Pos,SL oa2m r.2.Out cap2m] 171,sla 51 9 oa2m r.2.Out.length cap2m vs2m]).fp b→H' b=none)∧Mut w0 (sepA [bk b2 [SL oa3 p1.L cap4,i6 p1.At,i6 p1.E,i6 p1.Pos,SL oa7 p1.Out cap8] 171,sla 51 9 oa7 p1.Out.length cap8 vs9]) (sepA [bk b2 [SL oa1m r.2.L cap1m,i6 r.2.At,i6 r.2.E,i6 r.2.Pos,SL oa2m r.2.Out cap2m] 171,sla 51 9 oa2m r.2.Out.length cap2m vs2m]) w'):=by
 unfold Z3u at hm
 refine fn0 func177 rfl ntmps177 rfl rfl λa o=>?_
 have u:=Cg hH hO hD
 refine th<|rg<|qa o rfl λo=>re<|tn<|th<|th<|Ay (λa w=>∃ (M0:Bool),(Z3v N p1) M0=some r∧Fr 65 [(0,PT b2),(34,.bool M0)] a∧St w0 (sepA [bk b2 [SL oa3 p1.L cap4,i6 p1.At,i6 p1.E,i6 p1.Pos,SL oa7 p1.Out cap8] 171,sla 51 9 oa7 p1.Out.length cap8 vs9]).fp [H] [sla 51 9 oa7 p1.Out.length cap8 vs9,bk b2 [SL oa3 p1.L cap4,i6 p1.At,i6 p1.E,i6 p1.Pos,SL oa7 p1.Out cap8] 171] w) ?_ ?_
 rcases bit hm with ⟨G0,hm⟩ | ⟨G0,hm⟩
 obtain ⟨O1,O0,hm⟩:=bs hm
 obtain ⟨T1,P1,V0⟩:=SR.get C0 O0
 obtain rfl:=Ba P1
 refine rxS 31 u wide (by kernel_rfl) λw u=>xm u o rfl λo=>xr u o (Aj o rfl) λo=>xr u o (Ag o Bs rfl) λo=>xq u.ld o (λw hl=>Ah o isAgg29 rfl (hl.cellB t0 rfl)) λo=>xr u o (Am o rfl rfl) λo=>xm u o rfl λo=>JaO (N:=65) (Fk:=[(0,PT b2),(20,.bool ((decide (p1.E=0)) && (decide (p1.At < (p1.L.length:Int)))))]) (b:=(decide (p1.E=0))) 11 u ?_ ?_ ?_
 intro hb key
 replace o:=Fr.as o (t:=9) rfl (congrArg Value.bool hb)
 refine xg u.ld o (λw hl=>Ab o rfl) λo=>xg u.ld o (λw hl=>Aj o rfl) λo=>xg u.ld o (λw hl=>Ag o Be rfl) λo=>xg u.ld o (λw hl=>Ah o isAgg3 rfl (hl.cellB t0 rfl)) λo=>xg u.ld o (λw hl=>Ab o rfl) λo=>xg u.ld o (λw hl=>Aj o rfl) λo=>xg u.ld o (λw hl=>Ag o Br rfl) λo=>xg u.ld o (λw hl=>Ah o isAgg120 rfl (hl.cellB t0 rfl)) λo=>xg u.ld o (λw hl=>Al (α:=api_Token) (xs:=p1.L) o runUnderlying120 rfl) λo=>xg u.ld o (λw hl=>Au o rfl rfl) λo=>xr u o (An (v':=.bool ((decide (p1.E=0)) && (decide (p1.At < (p1.L.length:Int))))) (Ad o rfl rfl) (by rw [hb];rfl)) λo=>?_
 exact key _ _ (o.has ⟨rfl,rfl,trivial⟩) u
 intro hb key
 replace o:=Fr.as o (t:=9) rfl (congrArg Value.bool hb)
 iterate 10 refine xn u.ld o λo=>?_
 refine xr u o (An (v':=.bool ((decide (p1.E=0)) && (decide (p1.At < (p1.L.length:Int))))) (Ae o rfl rfl) (by rw [hb];rfl)) λo=>?_
 exact key _ _ (o.has ⟨rfl,rfl,trivial⟩) u
 intro a w o u
 refine xr u o (An (Ab o rfl) (congrArg Value.bool G0)) λo=>xg u.ld o (λw hl=>Ab o rfl) λo=>xg u.ld o (λw hl=>Aj o rfl) λo=>xg u.ld o (λw hl=>Ag o Br rfl) λo=>xg u.ld o (λw hl=>Ah o isAgg120 rfl (hl.cellB t0 rfl)) λo=>xg u.ld o (λw hl=>Ab o rfl) λo=>xg u.ld o (λw hl=>Aj o rfl) λo=>xg u.ld o (λw hl=>Ag o Be rfl) λo=>xg u.ld o (λw hl=>Ah o isAgg3 rfl (hl.cellB t0 rfl)) λo=>xg u.ld o (λw hl=>Aq o runUnderlying120 sizeOf130 rfl rfl O0 (SR.oaI C0 (by decide) O0)) λo=>xg u.ld o (λw hl=>Ag o Ck rfl) λo=>xg u.ld o (λw hl=>Ah o isAgg3 rfl (PH.le.cell (Lds.le hl) (V0 0 _ rfl))) λo=>xg u.ld o (λw hl=>Am o rfl rfl) λo=>xr u o (Ad o rfl rfl) λo=>xe<|tn<|?_
 replace u:=u.pk [1,0] rfl
 exact ⟨(decide (O1.Kind=2)),hm,o.has ⟨rfl,rfl,trivial⟩,u⟩
 refine rxS 31 u wide (by kernel_rfl) λw u=>xm u o rfl λo=>xr u o (Aj o rfl) λo=>xr u o (Ag o Bs rfl) λo=>xq u.ld o (λw hl=>Ah o isAgg29 rfl (hl.cellB t0 rfl)) λo=>xr u o (Am o rfl rfl) λo=>xm u o rfl λo=>JaO (N:=65) (Fk:=[(0,PT b2),(20,.bool ((decide (p1.E=0)) && (decide (p1.At < (p1.L.length:Int)))))]) (b:=(decide (p1.E=0))) 11 u ?_ ?_ ?_
 intro hb key
 replace o:=Fr.as o (t:=9) rfl (congrArg Value.bool hb)
 refine xg u.ld o (λw hl=>Ab o rfl) λo=>xg u.ld o (λw hl=>Aj o rfl) λo=>xg u.ld o (λw hl=>Ag o Be rfl) λo=>xg u.ld o (λw hl=>Ah o isAgg3 rfl (hl.cellB t0 rfl)) λo=>xg u.ld o (λw hl=>Ab o rfl) λo=>xg u.ld o (λw hl=>Aj o rfl) λo=>xg u.ld o (λw hl=>Ag o Br rfl) λo=>xg u.ld o (λw hl=>Ah o isAgg120 rfl (hl.cellB t0 rfl)) λo=>xg u.ld o (λw hl=>Al (α:=api_Token) (xs:=p1.L) o runUnderlying120 rfl) λo=>xg u.ld o (λw hl=>Au o rfl rfl) λo=>xr u o (An (v':=.bool ((decide (p1.E=0)) && (decide (p1.At < (p1.L.length:Int))))) (Ad o rfl rfl) (by rw [hb];rfl)) λo=>?_
 exact key _ _ (o.has ⟨rfl,rfl,trivial⟩) u
 intro hb key
 replace o:=Fr.as o (t:=9) rfl (congrArg Value.bool hb)
 iterate 10 refine xn u.ld o λo=>?_
 refine xr u o (An (v':=.bool ((decide (p1.E=0)) && (decide (p1.At < (p1.L.length:Int))))) (Ae o rfl rfl) (by rw [hb];rfl)) λo=>?_
 exact key _ _ (o.has ⟨rfl,rfl,trivial⟩) u
 intro a w o u
 refine xr u o (An (Ab o rfl) (congrArg Value.bool G0)) λo=>?_
 iterate 12 refine xn u.ld o λo=>?_
 refine xr u o (Ae o rfl rfl) λo=>xe<|tn<|?_
 replace u:=u.pk [1,0] rfl
 exact ⟨false,hm,o.has ⟨rfl,rfl,trivial⟩,u⟩
 rintro a w ⟨M0,hm,o,u⟩
 unfold Z3v at hm
 rcases bit hm with ⟨I0,hm⟩ | ⟨I0,hm⟩
 refine ctv o rfl I0<|th<|?_
 obtain ⟨P0,Q0,hm⟩:=bs hm
 obtain ⟨U1,Q1,W0⟩:=SR.get C0 Q0
 obtain rfl:=Ba Q1
 refine rxS 12 u wide (by kernel_rfl) λw u=>xm u o rfl λo=>xr u o (Aj o rfl) λo=>xr u o (Ag o Br rfl) λo=>xq u.ld o (λw hl=>Ah o isAgg120 rfl (hl.cellB t1 rfl)) λo=>xm u o rfl λo=>xr u o (Aj o rfl) λo=>xr u o (Ag o Be rfl) λo=>xq u.ld o (λw hl=>Ah o isAgg3 rfl (hl.cellB t1 rfl)) λo=>xr u o (Aq o runUnderlying120 sizeOf130 rfl rfl Q0 (SR.oaI C0 (by decide) Q0)) λo=>xr u o (Ag o Fq rfl) λo=>xq u.ld o (λw hl=>Ah o isAgg3 rfl (PH.le.cell (Lds.le hl) (W0 2 _ rfl))) λo=>xr u o (Bo o rfl) λo=>xe<|tn<|th<|th<|rg<|qm o rfl λo=>qv o (Bm o rfl rfl) λo=>qm o rfl λo=>gr (Fk:=[(0,PT b2),(3,i6 P0.N),(51,.bool ((decide (1≤P0.N)) && (decide (P0.N≤8))))]) 48 3 o u ?_ ?_ ?_
 intro hb o key
 exact qg o (Ab o rfl) λo=>qg o (Dk o rfl rfl) λo=>qk o (Ad o rfl rfl) key u hb
 intro hb o key
 iterate 2 refine qn o λo=>?_
 exact qk o (Ae o rfl rfl) key u hb
 intro a w o u
 refine re<|?_
 rcases bit hm with ⟨J0,hm⟩ | ⟨J0,hm⟩
 refine tn<|ctv o rfl J0<|th<|rg<|qm o rfl λo=>qm o rfl λo=>qv o (Aj o rfl) λo=>qv o (Ag o Be rfl) λo=>qv o (Ah o isAgg3 rfl (u.ld.cellB t1 rfl)) λo=>qv o (Ao o rfl rfl) λo=>qv o (Aj o rfl) λo=>qv o (Ag o Be rfl) λo=>ls<|As o u sizeOf3 rfl rfl rfl rfl (.tail .head) (.succ .zero) λw u=>re<|tn<|th<|rg<|qm o rfl λo=>qa o rfl λo=>re<|tn<|wr<|tr<|tr<|?_
 obtain rfl:=si hm
 exact r1 o results177 rfl ⟨H,oa3,cap4,oa7,cap8,vs9,rfl,K0,C0,F0,(ExtM.refl _ _ _),(St.le u),(St.disL (u.pickL (.cons (.tail .head) (.cons .head .nil)))),(u.pickL (.cons (.tail .head) (.cons .head .nil))).endMut⟩
 refine tn<|cfv o rfl J0<|wk<|tn<|th<|?_
 obtain ⟨V1,R1,hm⟩:=bs hm
 refine rg<|qm o rfl λo=>?_
 replace u:=u.pk [1,0] rfl
 replace u:=St.sep [bk b2 [SL oa3 p1.L cap4,i6 p1.At,i6 p1.E,i6 p1.Pos,SL oa7 p1.Out cap8] 171,sla 51 9 oa7 p1.Out.length cap8 vs9] u
 refine ls<|c1 o rfl call167 (Mh (St.le u) (p1:=(leadlineref04_P.mk p1.L p1.At p1.E p1.Pos p1.Out)) (b2:=b2) (oa3:=oa3) (cap4:=cap4) (oa7:=oa7) (cap8:=cap8) (vs9:=vs9) K0 C0 F0 (St.sepOk u) (St.sepDis u) R1) ⟨rfl,rfl,trivial⟩ (λv w a hR o=>?_)
 obtain ⟨H30,X0,R0,Y0,S0,j0,rfl,n0,p0,u0,D0,B1,hd29,hk⟩:=hR
 obtain ⟨u,D0⟩:=And.intro (St.mutH u hk D0 B1 hd29) (St.extcMM u D0)
 replace u:=u.unsep
 refine re<|tn<|th<|rg<|qa o rfl λo=>re<|tn<|wr<|tr<|?_
 obtain rfl:=si hm
 exact r1 o results177 rfl ⟨H30,X0,R0,Y0,S0,j0,rfl,n0,p0,u0,D0,(St.le u),(St.disL (u.pickL (.cons .head (.cons .head .nil)))),(u.pickL (.cons .head (.cons .head .nil))).endMut⟩
 refine cfv o rfl I0<|wk<|tn<|th<|?_
 obtain ⟨X1,S1,hm⟩:=bs hm
 refine rg<|qm o rfl λo=>?_
 replace u:=u.pk [1,0] rfl
 replace u:=St.sep [bk b2 [SL oa3 p1.L cap4,i6 p1.At,i6 p1.E,i6 p1.Pos,SL oa7 p1.Out cap8] 171,sla 51 9 oa7 p1.Out.length cap8 vs9] u
 refine ls<|c1 o rfl call167 (Mh (St.le u) (p1:=(leadlineref04_P.mk p1.L p1.At p1.E p1.Pos p1.Out)) (b2:=b2) (oa3:=oa3) (cap4:=cap4) (oa7:=oa7) (cap8:=cap8) (vs9:=vs9) K0 C0 F0 (St.sepOk u) (St.sepDis u) S1) ⟨rfl,rfl,trivial⟩ (λv w a hR o=>?_)
 obtain ⟨H45,C1,T0,E1,U0,F1,rfl,G1,I1,J1,E0,M1,hd44,hk⟩:=hR
 obtain ⟨u,E0⟩:=And.intro (St.mutH u hk E0 M1 hd44) (St.extcMM u E0)
 replace u:=u.unsep
 refine re<|tn<|th<|rg<|qa o rfl λo=>re<|tn<|wr<|?_
 obtain rfl:=si hm
 exact r1 o results177 rfl ⟨H45,C1,T0,E1,U0,F1,rfl,G1,I1,J1,E0,(St.le u),(St.disL (u.pickL (.cons .head (.cons .head .nil)))),(u.pickL (.cons .head (.cons .head .nil))).endMut⟩
set_option maxHeartbeats 4000000 in
theorem Ja7 (hH:H.le w0) {b2:Nat} {p1:leadlineref04_P} {oa3:Option Addr} {cap4:Nat} (S1:p1.L.length≤cap4) (T1:SR H oa3 p1.L) {oa7:Option Addr} {cap8:Nat} {vs9:List Value} (C0:Rows H vs9 p1.Out) {p12:Int} {p13:Int} (hO:(sepA [bk b2 [SL oa3 p1.L cap4,i6 p1.At,i6 p1.E,i6 p1.Pos,SL oa7 p1.Out cap8] 171,sla 51 9 oa7 p1.Out.length cap8 vs9]).ok (hp w0)) (hD:∀ b,(sepA [bk b2 [SL oa3 p1.L cap4,i6 p1.At,i6 p1.E,i6 p1.Pos,SL oa7 p1.Out cap8] 171,sla 51 9 oa7 p1.Out.length cap8 vs9]).fp b→H b=none) {r:(api_Stmt×leadlineref04_P)} (hm:Z3q N p1 p12 p13=some r):Tot Tryz.prog 168 #[PT b2,i6 p12,i6 p13] w0 (λv w'=>∃ (H':PH) (cs0:List Value) (oa1m:Option Addr) (cap1m:Nat) (oa2m:Option Addr) (cap2m:Nat) (vs2m:List Value),v=.agg cs0.toArray∧Enc.rep H' cs0 r.1∧r.2.L.length≤cap1m∧SR H' oa1m r.2.L∧Rows H' vs2m r.2.Out∧ExtM w0 (sepA [bk b2 [SL oa3 p1.L cap4,i6 p1.At,i6 p1.E,i6 p1.Pos,SL oa7 p1.Out cap8] 171,sla 51 9 oa7 p1.Out.length cap8 vs9]).fp H H'∧H'.le w'∧(∀ b,(sepA [bk b2 [SL oa1m r.2.L cap1m,i6 r.2.At,i6 r.2.E,i6 r.2.Pos,SL oa2m r.2.Out cap2m] 171,sla 51 9 oa2m r.2.Out.length cap2m vs2m]).fp b→H' b=none)∧Mut w0 (sepA [bk b2 [SL oa3 p1.L cap4,i6 p1.At,i6 p1.E,i6 p1.Pos,SL oa7 p1.Out cap8] 171,sla 51 9 oa7 p1.Out.length cap8 vs9]) (sepA [bk b2 [SL oa1m r.2.L cap1m,i6 r.2.At,i6 r.2.E,i6 r.2.Pos,SL oa2m r.2.Out cap2m] 171,sla 51 9 oa2m r.2.Out.length cap2m vs2m]) w'):=by
 unfold Z3q at hm
 refine fn0 func168 rfl ntmps168 rfl rfl λa o=>?_
 have u:=Cg hH hO hD
 refine th<|rg<|ls<|Ap (cs:=[i6 0,Ac [],Ac [],.slice none 0 0,.slice none 0 0,i6 0,i6 0,i6 0,i6 0].toArray) o rfl u Tryz.zeroValue51 rfl λB3 w a u o=>re<|tn<|th<|rg<|qm o rfl λo=>qm o rfl λo=>qv o (Bi [i6 p12,i6 p13] [i6 p12,Ac [],Ac [],.slice none 0 0,.slice none 0 0,i6 0,i6 0,i6 0,i6 p13] o ⟨rfl,rfl,trivial⟩ (λw=>by kernel_rfl)) λo=>ls<|Ap (cs:=[i6 0,Ac [],Ac [],.slice none 0 0,.slice none 0 0,i6 0,i6 0,i6 0,i6 0].toArray) o rfl u zeroValue51 rfl λC3 w a u o=>ls<|Aw o u sizeOf51 rfl rfl rfl rfl (Ak rfl) .head λw u=>re<|tn<|th<|th<|rg<|qm o rfl λo=>re<|tn<|Ay (λa w=>∃ (D4:(List api_Token)) (M5:Int) (O5:Int) (P5:Int) (J2:(List api_Stmt)) (C1:Str) (E1:Str) (D0:(List api_Node)) (E0:(List api_Node)) (F1:Int) (U0:PH) (F3:Option Addr) (X1:Nat) (Y1:Option Addr) (V0:Nat) (B2:List Value) (W0:Option Addr) (F0:Nat) (X0:Option Addr) (G0:Nat),(Z3r p12 p13) D4 M5 O5 P5 J2 C1 E1 D0 E0 F1=some r∧ExtM w0 (sepA [bk b2 [SL oa3 p1.L cap4,i6 p1.At,i6 p1.E,i6 p1.Pos,SL oa7 p1.Out cap8] 171,sla 51 9 oa7 p1.Out.length cap8 vs9]).fp H U0∧Fr 82 [(0,PT b2),(6,PT B3),(7,PT C3)] a∧St w0 (sepA [bk b2 [SL oa3 p1.L cap4,i6 p1.At,i6 p1.E,i6 p1.Pos,SL oa7 p1.Out cap8] 171,sla 51 9 oa7 p1.Out.length cap8 vs9]).fp [U0] [sla 51 9 Y1 J2.length V0 B2,bk b2 [SL F3 D4 X1,i6 M5,i6 O5,i6 P5,SL Y1 J2 V0] 171,bk B3 [i6 0,Ac [],Ac [],.slice none 0 0,.slice none 0 0,i6 0,i6 0,i6 0,i6 0] 51,bk C3 [i6 p12,Ac C1,Ac E1,SL W0 D0 F0,SL X0 E0 G0,i6 F1,i6 0,i6 0,i6 p13] 51] w∧D4.length≤X1∧SR U0 F3 D4∧Rows U0 B2 J2∧D0.length≤F0∧SR U0 W0 D0∧E0.length≤G0∧SR U0 X0 E0) ?_ ?_
 refine wb<|th<|rg<|qv o (Am o rfl rfl) λo=>qa o rfl λo=>re<|?_
 rcases bip hm with ⟨O4,hm⟩ | ⟨O4,hm⟩
 refine tn<|ctv o rfl O4<|th<|?_
 obtain ⟨U1,h18,hm⟩:=bs hm
 refine rg<|qm o rfl λo=>?_
 replace u:=u.pk [2,2,0,0] rfl
 replace u:=St.sep [bk b2 [SL oa3 p1.L cap4,i6 p1.At,i6 p1.E,i6 p1.Pos,SL oa7 p1.Out cap8] 171,sla 51 9 oa7 p1.Out.length cap8 vs9] u
 refine ls<|c1 o rfl call175 (Ko (St.le u) (p1:=p1) (b2:=b2) (oa3:=oa3) (cap4:=cap4) (oa7:=oa7) (cap8:=cap8) (vs9:=vs9) S1 T1 C0 (St.sepOk u) (St.sepDis u) h18) ⟨rfl,trivial⟩ (λv w a hR o=>?_)
 obtain ⟨H22,Q5,U4,P4,G3,R5,rfl,M9,O9,P9,K2,Q9,hd21,hk⟩:=hR
 obtain ⟨u,K2⟩:=And.intro (St.mutH u hk K2 Q9 hd21) (St.extcMM u K2)
 replace u:=u.unsep
 refine qv o (Ag o Dn rfl) λo=>ls<|As o u sizeOf9 rfl rfl rfl rfl (.tail (.tail .head)) (.succ .zero) λw u=>re<|tn<|th<|?_
 obtain ⟨M2,h33,hm⟩:=bs hm
 refine rg<|qm o rfl λo=>?_
 replace u:=u.pk [0,0,0,0] rfl
 replace u:=St.sep [bk b2 [SL Q5 U1.2.L U4,i6 U1.2.At,i6 U1.2.E,i6 U1.2.Pos,SL P4 U1.2.Out G3] 171,sla 51 9 P4 U1.2.Out.length G3 R5] u
 refine ls<|c1 o rfl call161 (Hj (St.le u) (p1:=U1.2) (b2:=b2) (oa3:=Q5) (cap4:=U4) (oa7:=P4) (cap8:=G3) (vs9:=R5) M9 O9 P9 (St.sepOk u) (St.sepDis u) h33) ⟨rfl,rfl,trivial⟩ (λv w a hR o=>?_)
 obtain ⟨H37,S5,V4,Q4,I3,T5,rfl,R9,S9,T9,O2,U9,hd36,hk⟩:=hR
 obtain ⟨u,O2⟩:=And.intro (St.mutH u hk O2 U9 hd36) (St.extcMM u O2)
 replace u:=u.unsep
 refine re<|tn<|?_
 obtain ⟨D3,h48,hm⟩:=bs hm
 refine rg<|qm o rfl λo=>?_
 replace u:=u.pk [0,0,0,0] rfl
 replace u:=St.sep [bk b2 [SL S5 M2.L V4,i6 M2.At,i6 M2.E,i6 M2.Pos,SL Q4 M2.Out I3] 171,sla 51 9 Q4 M2.Out.length I3 T5] u
 refine ls<|c1 o rfl call176 (On (St.le u) (p1:=M2) (b2:=b2) (oa3:=S5) (cap4:=V4) (oa7:=Q4) (cap8:=I3) (vs9:=T5) R9 S9 T9 (St.sepOk u) (St.sepDis u) h48) ⟨rfl,trivial⟩ (λv w a hR o=>?_)
 obtain ⟨H52,V9,O6,W9,P6,X9,Q6,Y9,rfl,d9,e9,j9,k9,l9,P2,n9,hd51,hk⟩:=hR
 obtain ⟨u,P2⟩:=And.intro (St.mutH u hk P2 n9 hd51) (St.extcMM u P2)
 replace u:=u.unsep
 refine qv o (Ag o Ew rfl) λo=>ls<|As o u sizeOf49 rfl rfl rfl rfl (.tail (.tail .head)) (.succ (.succ (.succ .zero))) λw u=>re<|bn<|tn<|?_
 replace u:=u.pk [1,0,1,0] rfl
 exact ⟨D3.2.L,D3.2.At,D3.2.E,D3.2.Pos,D3.2.Out,U1.1,[],D3.1,[],0,H52,W9,P6,X9,Q6,Y9,V9,O6,none,0,hm,(ExtM.trans K2 (ExtM.trans O2 P2)),o.hs,u,j9,k9,l9,d9,e9,(Nat.le_refl _),((SR.nil _ _).mono (cp (cp P2.sub O2.sub) K2.sub))⟩
 refine tn<|cfv o rfl O4<|th<|rg<|qv o (Am o rfl rfl) λo=>qa o rfl λo=>re<|?_
 rcases bip hm with ⟨R4,hm⟩ | ⟨R4,hm⟩
 refine tn<|ctv o rfl R4<|th<|?_
 obtain ⟨V1,h68,hm⟩:=bs hm
 refine rg<|qm o rfl λo=>?_
 replace u:=u.pk [2,2,0,0] rfl
 replace u:=St.sep [bk b2 [SL oa3 p1.L cap4,i6 p1.At,i6 p1.E,i6 p1.Pos,SL oa7 p1.Out cap8] 171,sla 51 9 oa7 p1.Out.length cap8 vs9] u
 refine ls<|c1 o rfl call175 (Ko (St.le u) (p1:=p1) (b2:=b2) (oa3:=oa3) (cap4:=cap4) (oa7:=oa7) (cap8:=cap8) (vs9:=vs9) S1 T1 C0 (St.sepOk u) (St.sepDis u) h68) ⟨rfl,trivial⟩ (λv w a hR o=>?_)
 obtain ⟨H72,U5,W4,S4,J3,V5,rfl,o9,p9,u9,G1,y9,hd71,hk⟩:=hR
 obtain ⟨u,G1⟩:=And.intro (St.mutH u hk G1 y9 hd71) (St.extcMM u G1)
 replace u:=u.unsep
 refine qv o (Ag o Dn rfl) λo=>ls<|As o u sizeOf9 rfl rfl rfl rfl (.tail (.tail .head)) (.succ .zero) λw u=>re<|tn<|th<|?_
 obtain ⟨Q2,h83,hm⟩:=bs hm
 refine rg<|qm o rfl λo=>?_
 replace u:=u.pk [0,0,0,0] rfl
 replace u:=St.sep [bk b2 [SL U5 V1.2.L W4,i6 V1.2.At,i6 V1.2.E,i6 V1.2.Pos,SL S4 V1.2.Out J3] 171,sla 51 9 S4 V1.2.Out.length J3 V5] u
 refine ls<|c1 o rfl call161 (Hj (St.le u) (p1:=V1.2) (b2:=b2) (oa3:=U5) (cap4:=W4) (oa7:=S4) (cap8:=J3) (vs9:=V5) o9 p9 u9 (St.sepOk u) (St.sepDis u) h83) ⟨rfl,rfl,trivial⟩ (λv w a hR o=>?_)
 obtain ⟨H87,W5,X4,T4,K3,X5,rfl,hc90,hr91,hv95,I1,hl85,hd86,hk⟩:=hR
 obtain ⟨u,I1⟩:=And.intro (St.mutH u hk I1 hl85 hd86) (St.extcMM u I1)
 replace u:=u.unsep
 refine re<|tn<|?_
 obtain ⟨E3,h98,hm⟩:=bs hm
 refine rg<|qm o rfl λo=>?_
 replace u:=u.pk [0,0,0,0] rfl
 replace u:=St.sep [bk b2 [SL W5 Q2.L X4,i6 Q2.At,i6 Q2.E,i6 Q2.Pos,SL T4 Q2.Out K3] 171,sla 51 9 T4 Q2.Out.length K3 X5] u
 refine ls<|c1 o rfl call175 (Ko (St.le u) (p1:=Q2) (b2:=b2) (oa3:=W5) (cap4:=X4) (oa7:=T4) (cap8:=K3) (vs9:=X5) hc90 hr91 hv95 (St.sepOk u) (St.sepDis u) h98) ⟨rfl,trivial⟩ (λv w a hR o=>?_)
 obtain ⟨H102,R6,Y5,S6,d5,T6,rfl,U6,V6,W6,J1,X6,hd101,hk⟩:=hR
 obtain ⟨u,J1⟩:=And.intro (St.mutH u hk J1 X6 hd101) (St.extcMM u J1)
 replace u:=u.unsep
 refine qv o (Ag o Du rfl) λo=>ls<|As o u sizeOf9 rfl rfl rfl rfl (.tail (.tail .head)) (.succ (.succ .zero)) λw u=>re<|bn<|tn<|?_
 replace u:=u.pk [1,0,1,0] rfl
 exact ⟨E3.2.L,E3.2.At,E3.2.E,E3.2.Pos,E3.2.Out,V1.1,E3.1,[],[],0,H102,R6,Y5,S6,d5,T6,none,0,none,0,hm,(ExtM.trans G1 (ExtM.trans I1 J1)),o.hs,u,U6,V6,W6,(Nat.le_refl _),((SR.nil _ _).mono (cp (cp J1.sub I1.sub) G1.sub)),(Nat.le_refl _),((SR.nil _ _).mono (cp (cp J1.sub I1.sub) G1.sub))⟩
 refine tn<|cfv o rfl R4<|th<|rg<|qv o (Am o rfl rfl) λo=>qa o rfl λo=>re<|?_
 rcases bip hm with ⟨L3,hm⟩ | ⟨L3,hm⟩
 refine tn<|ctv o rfl L3<|th<|?_
 obtain ⟨I0,h114,hm⟩:=bs hm
 refine rg<|qm o rfl λo=>?_
 replace u:=u.pk [2,2,0,0] rfl
 replace u:=St.sep [bk b2 [SL oa3 p1.L cap4,i6 p1.At,i6 p1.E,i6 p1.Pos,SL oa7 p1.Out cap8] 171,sla 51 9 oa7 p1.Out.length cap8 vs9] u
 refine ls<|c1 o rfl call175 (Ko (St.le u) (p1:=p1) (b2:=b2) (oa3:=oa3) (cap4:=cap4) (oa7:=oa7) (cap8:=cap8) (vs9:=vs9) S1 T1 C0 (St.sepOk u) (St.sepDis u) h114) ⟨rfl,trivial⟩ (λv w a hR o=>?_)
 obtain ⟨H118,Y4,E4,M3,R2,d4,rfl,Y6,d6,j6,Y0,k6,hd117,hk⟩:=hR
 obtain ⟨u,Y0⟩:=And.intro (St.mutH u hk Y0 k6 hd117) (St.extcMM u Y0)
 replace u:=u.unsep
 refine qv o (Ag o Du rfl) λo=>ls<|As o u sizeOf9 rfl rfl rfl rfl (.tail (.tail .head)) (.succ (.succ .zero)) λw u=>re<|tn<|th<|?_
 obtain ⟨Q0,h129,hm⟩:=bs hm
 refine rg<|qm o rfl λo=>?_
 replace u:=u.pk [0,0,0,0] rfl
 replace u:=St.sep [bk b2 [SL Y4 I0.2.L E4,i6 I0.2.At,i6 I0.2.E,i6 I0.2.Pos,SL M3 I0.2.Out R2] 171,sla 51 9 M3 I0.2.Out.length R2 d4] u
 refine ls<|c1 o rfl call161 (Hj (St.le u) (p1:=I0.2) (b2:=b2) (oa3:=Y4) (cap4:=E4) (oa7:=M3) (cap8:=R2) (vs9:=d4) Y6 d6 j6 (St.sepOk u) (St.sepDis u) h129) ⟨rfl,rfl,trivial⟩ (λv w a hR o=>?_)
 obtain ⟨H133,j4,F4,O3,T2,k4,rfl,n6,u6,v6,j0,y6,hd132,hk⟩:=hR
 obtain ⟨u,j0⟩:=And.intro (St.mutH u hk j0 y6 hd132) (St.extcMM u j0)
 replace u:=u.unsep
 refine re<|tn<|?_
 obtain ⟨M1,h144,hm⟩:=bs hm
 refine rg<|qm o rfl λo=>?_
 replace u:=u.pk [0,0,0,0] rfl
 replace u:=St.sep [bk b2 [SL j4 Q0.L F4,i6 Q0.At,i6 Q0.E,i6 Q0.Pos,SL O3 Q0.Out T2] 171,sla 51 9 O3 Q0.Out.length T2 k4] u
 refine ls<|c1 o rfl call176 (On (St.le u) (p1:=Q0) (b2:=b2) (oa3:=j4) (cap4:=F4) (oa7:=O3) (cap8:=T2) (vs9:=k4) n6 u6 v6 (St.sepOk u) (St.sepDis u) h144) ⟨rfl,trivial⟩ (λv w a hR o=>?_)
 obtain ⟨H148,z6,j5,A7,k5,B7,n5,C7,rfl,D7,E7,F7,G7,I7,n0,J7,hd147,hk⟩:=hR
 obtain ⟨u,n0⟩:=And.intro (St.mutH u hk n0 J7 hd147) (St.extcMM u n0)
 replace u:=u.unsep
 refine qv o (Ag o Ew rfl) λo=>ls<|As o u sizeOf49 rfl rfl rfl rfl (.tail (.tail .head)) (.succ (.succ (.succ .zero))) λw u=>re<|bn<|tn<|?_
 replace u:=u.pk [1,0,1,0] rfl
 exact ⟨M1.2.L,M1.2.At,M1.2.E,M1.2.Pos,M1.2.Out,[],I0.1,M1.1,[],0,H148,A7,k5,B7,n5,C7,z6,j5,none,0,hm,(ExtM.trans Y0 (ExtM.trans j0 n0)),o.hs,u,F7,G7,I7,D7,E7,(Nat.le_refl _),((SR.nil _ _).mono (cp (cp n0.sub j0.sub) Y0.sub))⟩
 refine tn<|cfv o rfl L3<|th<|rg<|qv o (Am o rfl rfl) λo=>qa o rfl λo=>re<|?_
 rcases bip hm with ⟨P3,hm⟩ | ⟨P3,hm⟩
 refine tn<|ctv o rfl P3<|th<|?_
 obtain ⟨J0,h164,hm⟩:=bs hm
 refine rg<|qm o rfl λo=>?_
 replace u:=u.pk [2,2,0,0] rfl
 replace u:=St.sep [bk b2 [SL oa3 p1.L cap4,i6 p1.At,i6 p1.E,i6 p1.Pos,SL oa7 p1.Out cap8] 171,sla 51 9 oa7 p1.Out.length cap8 vs9] u
 refine ls<|c1 o rfl call175 (Ko (St.le u) (p1:=p1) (b2:=b2) (oa3:=oa3) (cap4:=cap4) (oa7:=oa7) (cap8:=cap8) (vs9:=vs9) S1 T1 C0 (St.sepOk u) (St.sepDis u) h164) ⟨rfl,trivial⟩ (λv w a hR o=>?_)
 obtain ⟨H168,l4,G4,Q3,U2,A5,rfl,K7,L7,M7,C2,O7,hd167,hk⟩:=hR
 obtain ⟨u,C2⟩:=And.intro (St.mutH u hk C2 O7 hd167) (St.extcMM u C2)
 replace u:=u.unsep
 refine qv o (Ag o Dn rfl) λo=>ls<|As o u sizeOf9 rfl rfl rfl rfl (.tail (.tail .head)) (.succ .zero) λw u=>re<|tn<|th<|?_
 obtain ⟨R0,h179,hm⟩:=bs hm
 refine rg<|qm o rfl λo=>?_
 replace u:=u.pk [0,0,0,0] rfl
 replace u:=St.sep [bk b2 [SL l4 J0.2.L G4,i6 J0.2.At,i6 J0.2.E,i6 J0.2.Pos,SL Q3 J0.2.Out U2] 171,sla 51 9 Q3 J0.2.Out.length U2 A5] u
 refine ls<|c1 o rfl call161 (Hj (St.le u) (p1:=J0.2) (b2:=b2) (oa3:=l4) (cap4:=G4) (oa7:=Q3) (cap8:=U2) (vs9:=A5) K7 L7 M7 (St.sepOk u) (St.sepDis u) h179) ⟨rfl,rfl,trivial⟩ (λv w a hR o=>?_)
 obtain ⟨H183,B5,I4,R3,V2,C5,rfl,P7,Q7,R7,E2,S7,hd182,hk⟩:=hR
 obtain ⟨u,E2⟩:=And.intro (St.mutH u hk E2 S7 hd182) (St.extcMM u E2)
 replace u:=u.unsep
 refine re<|tn<|th<|?_
 obtain ⟨K0,h194,hm⟩:=bs hm
 refine rg<|qm o rfl λo=>?_
 replace u:=u.pk [0,0,0,0] rfl
 replace u:=St.sep [bk b2 [SL B5 R0.L I4,i6 R0.At,i6 R0.E,i6 R0.Pos,SL R3 R0.Out V2] 171,sla 51 9 R3 R0.Out.length V2 C5] u
 refine ls<|c1 o rfl call175 (Ko (St.le u) (p1:=R0) (b2:=b2) (oa3:=B5) (cap4:=I4) (oa7:=R3) (cap8:=V2) (vs9:=C5) P7 Q7 R7 (St.sepOk u) (St.sepDis u) h194) ⟨rfl,trivial⟩ (λv w a hR o=>?_)
 obtain ⟨H198,D5,J4,S3,W2,E5,rfl,T7,U7,V7,F2,W7,hd197,hk⟩:=hR
 obtain ⟨u,F2⟩:=And.intro (St.mutH u hk F2 W7 hd197) (St.extcMM u F2)
 replace u:=u.unsep
 refine qv o (Ag o Du rfl) λo=>ls<|As o u sizeOf9 rfl rfl rfl rfl (.tail (.tail .head)) (.succ (.succ .zero)) λw u=>re<|tn<|th<|?_
 obtain ⟨S0,h209,hm⟩:=bs hm
 refine rg<|qm o rfl λo=>?_
 replace u:=u.pk [0,0,0,0] rfl
 replace u:=St.sep [bk b2 [SL D5 K0.2.L J4,i6 K0.2.At,i6 K0.2.E,i6 K0.2.Pos,SL S3 K0.2.Out W2] 171,sla 51 9 S3 K0.2.Out.length W2 E5] u
 refine ls<|c1 o rfl call161 (Hj (St.le u) (p1:=K0.2) (b2:=b2) (oa3:=D5) (cap4:=J4) (oa7:=S3) (cap8:=W2) (vs9:=E5) T7 U7 V7 (St.sepOk u) (St.sepDis u) h209) ⟨rfl,rfl,trivial⟩ (λv w a hR o=>?_)
 obtain ⟨H213,F5,K4,T3,X2,G5,rfl,X7,Y7,d7,G2,j7,hd212,hk⟩:=hR
 obtain ⟨u,G2⟩:=And.intro (St.mutH u hk G2 j7 hd212) (St.extcMM u G2)
 replace u:=u.unsep
 refine re<|tn<|th<|?_
 obtain ⟨M0,h224,hm⟩:=bs hm
 refine rg<|qm o rfl λo=>?_
 replace u:=u.pk [0,0,0,0] rfl
 replace u:=St.sep [bk b2 [SL F5 S0.L K4,i6 S0.At,i6 S0.E,i6 S0.Pos,SL T3 S0.Out X2] 171,sla 51 9 T3 S0.Out.length X2 G5] u
 refine ls<|c1 o rfl call176 (On (St.le u) (p1:=S0) (b2:=b2) (oa3:=F5) (cap4:=K4) (oa7:=T3) (cap8:=X2) (vs9:=G5) X7 Y7 d7 (St.sepOk u) (St.sepDis u) h224) ⟨rfl,trivial⟩ (λv w a hR o=>?_)
 obtain ⟨H228,k7,u5,I5,L4,U3,Y2,J5,rfl,n7,u7,v7,z7,A8,I2,B8,hd227,hk⟩:=hR
 obtain ⟨u,I2⟩:=And.intro (St.mutH u hk I2 B8 hd227) (St.extcMM u I2)
 replace u:=u.unsep
 refine qv o (Ag o Ew rfl) λo=>ls<|As o u sizeOf49 rfl rfl rfl rfl (.tail (.tail .head)) (.succ (.succ (.succ .zero))) λw u=>re<|tn<|th<|?_
 obtain ⟨T0,h243,hm⟩:=bs hm
 refine rg<|qm o rfl λo=>?_
 replace u:=u.pk [0,0,0,0] rfl
 replace u:=St.sep [bk b2 [SL I5 M0.2.L L4,i6 M0.2.At,i6 M0.2.E,i6 M0.2.Pos,SL U3 M0.2.Out Y2] 171,sla 51 9 U3 M0.2.Out.length Y2 J5] u
 refine ls<|c1 o rfl call161 (Hj (St.le u) (p1:=M0.2) (b2:=b2) (oa3:=I5) (cap4:=L4) (oa7:=U3) (cap8:=Y2) (vs9:=J5) v7 z7 A8 (St.sepOk u) (St.sepDis u) h243) ⟨rfl,rfl,trivial⟩ (λv w a hR o=>?_)
 obtain ⟨H247,K5,M4,V3,A3,L5,rfl,C8,D8,E8,p0,F8,hd246,hk⟩:=hR
 obtain ⟨u,p0⟩:=And.intro (St.mutH u hk p0 F8 hd246) (St.extcMM u p0)
 replace u:=u.unsep
 refine re<|tn<|?_
 obtain ⟨O1,h258,hm⟩:=bs hm
 refine rg<|qm o rfl λo=>?_
 replace u:=u.pk [0,0,0,0] rfl
 replace u:=St.sep [bk b2 [SL K5 T0.L M4,i6 T0.At,i6 T0.E,i6 T0.Pos,SL V3 T0.Out A3] 171,sla 51 9 V3 T0.Out.length A3 L5] u
 refine ls<|c1 o rfl call176 (On (St.le u) (p1:=T0) (b2:=b2) (oa3:=K5) (cap4:=M4) (oa7:=V3) (cap8:=A3) (vs9:=L5) C8 D8 E8 (St.sepOk u) (St.sepDis u) h258) ⟨rfl,trivial⟩ (λv w a hR o=>?_)
 obtain ⟨H262,G8,A6,I8,B6,J8,C6,K8,rfl,L8,M8,O8,P8,Q8,u0,R8,hd261,hk⟩:=hR
 obtain ⟨u,u0⟩:=And.intro (St.mutH u hk u0 R8 hd261) (St.extcMM u u0)
 replace u:=u.unsep
 refine qv o (Ag o Ll rfl) λo=>ls<|As o u sizeOf49 rfl rfl rfl rfl (.tail (.tail .head)) (.succ (.succ (.succ (.succ .zero)))) λw u=>re<|bn<|tn<|?_
 replace u:=u.pk [1,0,1,0] rfl
 exact ⟨O1.2.L,O1.2.At,O1.2.E,O1.2.Pos,O1.2.Out,J0.1,K0.1,M0.1,O1.1,0,H262,I8,B6,J8,C6,K8,k7,u5,G8,A6,hm,(ExtM.trans C2 (ExtM.trans E2 (ExtM.trans F2 (ExtM.trans G2 (ExtM.trans I2 (ExtM.trans p0 u0)))))),o.hs,u,O8,P8,Q8,n7,(u7.mono (cp u0.sub p0.sub)),L8,M8⟩
 refine tn<|cfv o rfl P3<|th<|th<|rg<|qv o (Am o rfl rfl) λo=>qa o rfl λo=>re<|tn<|Ay (λa w=>∃ (D6:Bool),(Z3s N (Z3r p12 p13) p1 p12) D6=some r∧Fr 82 [(0,PT b2),(6,PT B3),(7,PT C3),(11,i6 p12),(62,.bool D6)] a∧St w0 (sepA [bk b2 [SL oa3 p1.L cap4,i6 p1.At,i6 p1.E,i6 p1.Pos,SL oa7 p1.Out cap8] 171,sla 51 9 oa7 p1.Out.length cap8 vs9]).fp [H] [sla 51 9 oa7 p1.Out.length cap8 vs9,bk b2 [SL oa3 p1.L cap4,i6 p1.At,i6 p1.E,i6 p1.Pos,SL oa7 p1.Out cap8] 171,bk B3 [i6 0,Ac [],Ac [],.slice none 0 0,.slice none 0 0,i6 0,i6 0,i6 0,i6 0] 51,bk C3 [i6 p12,Ac [],Ac [],.slice none 0 0,.slice none 0 0,i6 0,i6 0,i6 0,i6 p13] 51] w) ?_ ?_
 rcases bip hm with ⟨W3,hm⟩ | ⟨W3,hm⟩
 refine ctv o rfl W3<|wk<|tn<|?_
 replace u:=u.pk [3,2,1,0] rfl
 exact ⟨(decide (p12=5)),hm,o.hs,u⟩
 refine cfv o rfl W3<|th<|rg<|qv o (Am o rfl rfl) λo=>qa o rfl λo=>re<|?_
 rcases bip hm with ⟨X3,hm⟩ | ⟨X3,hm⟩
 refine tn<|ctv o rfl X3<|wk<|tn<|?_
 replace u:=u.pk [3,2,1,0] rfl
 exact ⟨(decide (p12=6)),hm,o.hs,u⟩
 refine tn<|cfv o rfl X3<|th<|rg<|qv o (Am o rfl rfl) λo=>qa o rfl λo=>re<|?_
 rcases bip hm with ⟨Y3,hm⟩ | ⟨Y3,hm⟩
 refine tn<|ctv o rfl Y3<|wk<|tn<|?_
 replace u:=u.pk [3,2,1,0] rfl
 exact ⟨(decide (p12=9)),hm,o.hs,u⟩
 refine tn<|cfv o rfl Y3<|rg<|qv o (Am o rfl rfl) λo=>qa o rfl λo=>re<|tn<|?_
 replace u:=u.pk [3,2,1,0] rfl
 exact ⟨(decide (p12=10)),hm,o.hs,u⟩
 rintro a w ⟨D6,hm,o,u⟩
 unfold Z3s at hm
 rcases bit hm with ⟨l3,hm⟩ | ⟨l3,hm⟩
 refine ctv o rfl l3<|?_
 obtain ⟨P1,h281,hm⟩:=bs hm
 refine rg<|qm o rfl λo=>?_
 replace u:=u.pk [1,0,0,0] rfl
 replace u:=St.sep [bk b2 [SL oa3 p1.L cap4,i6 p1.At,i6 p1.E,i6 p1.Pos,SL oa7 p1.Out cap8] 171,sla 51 9 oa7 p1.Out.length cap8 vs9] u
 refine ls<|c1 o rfl call175 (Ko (St.le u) (p1:=(leadlineref04_P.mk p1.L p1.At p1.E p1.Pos p1.Out)) (b2:=b2) (oa3:=oa3) (cap4:=cap4) (oa7:=oa7) (cap8:=cap8) (vs9:=vs9) S1 T1 C0 (St.sepOk u) (St.sepDis u) h281) ⟨rfl,trivial⟩ (λv w a hR o=>?_)
 obtain ⟨H285,S8,E6,T8,F6,U8,rfl,V8,W8,X8,O0,Y8,hd284,hk⟩:=hR
 obtain ⟨u,O0⟩:=And.intro (St.mutH u hk O0 Y8 hd284) (St.extcMM u O0)
 replace u:=u.unsep
 refine qv o (Ag o Du rfl) λo=>ls<|As o u sizeOf9 rfl rfl rfl rfl (.tail (.tail (.tail .head))) (.succ (.succ .zero)) λw u=>re<|bn<|tn<|?_
 replace u:=u.pk [1,0,0,0] rfl
 exact ⟨P1.2.L,P1.2.At,P1.2.E,P1.2.Pos,P1.2.Out,[],P1.1,[],[],0,H285,S8,E6,T8,F6,U8,none,0,none,0,hm,O0,o.hs,u,V8,W8,X8,(Nat.le_refl _),((SR.nil _ _).mono O0.sub),(Nat.le_refl _),((SR.nil _ _).mono O0.sub)⟩
 refine cfv o rfl l3<|th<|th<|rg<|qv o (Am o rfl rfl) λo=>qa o rfl λo=>re<|tn<|Ay (λa w=>∃ (G6:Bool),(Z3t N (Z3r p12 p13) p1 p12) G6=some r∧Fr 82 [(0,PT b2),(6,PT B3),(7,PT C3),(11,i6 p12),(70,.bool G6)] a∧St w0 (sepA [bk b2 [SL oa3 p1.L cap4,i6 p1.At,i6 p1.E,i6 p1.Pos,SL oa7 p1.Out cap8] 171,sla 51 9 oa7 p1.Out.length cap8 vs9]).fp [H] [sla 51 9 oa7 p1.Out.length cap8 vs9,bk b2 [SL oa3 p1.L cap4,i6 p1.At,i6 p1.E,i6 p1.Pos,SL oa7 p1.Out cap8] 171,bk B3 [i6 0,Ac [],Ac [],.slice none 0 0,.slice none 0 0,i6 0,i6 0,i6 0,i6 0] 51,bk C3 [i6 p12,Ac [],Ac [],.slice none 0 0,.slice none 0 0,i6 0,i6 0,i6 0,i6 p13] 51] w) ?_ ?_
 rcases bip hm with ⟨A4,hm⟩ | ⟨A4,hm⟩
 refine ctv o rfl A4<|wk<|tn<|?_
 exact ⟨(decide (p12=11)),hm,o.hs,u⟩
 refine cfv o rfl A4<|rg<|qv o (Am o rfl rfl) λo=>qa o rfl λo=>re<|tn<|?_
 exact ⟨(decide (p12=14)),hm,o.hs,u⟩
 rintro a w ⟨G6,hm,o,u⟩
 unfold Z3t at hm
 rcases bit hm with ⟨B4,hm⟩ | ⟨B4,hm⟩
 refine ctv o rfl B4<|?_
 obtain ⟨Q1,h298,hm⟩:=bs hm
 refine rg<|qm o rfl λo=>?_
 replace u:=u.pk [1,0,0,0] rfl
 replace u:=St.sep [bk b2 [SL oa3 p1.L cap4,i6 p1.At,i6 p1.E,i6 p1.Pos,SL oa7 p1.Out cap8] 171,sla 51 9 oa7 p1.Out.length cap8 vs9] u
 refine ls<|c1 o rfl call176 (On (St.le u) (p1:=(leadlineref04_P.mk p1.L p1.At p1.E p1.Pos p1.Out)) (b2:=b2) (oa3:=oa3) (cap4:=cap4) (oa7:=oa7) (cap8:=cap8) (vs9:=vs9) S1 T1 C0 (St.sepOk u) (St.sepDis u) h298) ⟨rfl,trivial⟩ (λv w a hR o=>?_)
 obtain ⟨H302,d8,I6,e8,J6,j8,K6,l8,rfl,n8,v8,y8,z8,A9,B1,B9,hd301,hk⟩:=hR
 obtain ⟨u,B1⟩:=And.intro (St.mutH u hk B1 B9 hd301) (St.extcMM u B1)
 replace u:=u.unsep
 refine qv o (Ag o Ew rfl) λo=>ls<|As o u sizeOf49 rfl rfl rfl rfl (.tail (.tail (.tail .head))) (.succ (.succ (.succ .zero))) λw u=>re<|bn<|tn<|?_
 replace u:=u.pk [1,0,0,0] rfl
 exact ⟨Q1.2.L,Q1.2.At,Q1.2.E,Q1.2.Pos,Q1.2.Out,[],[],Q1.1,[],0,H302,e8,J6,j8,K6,l8,d8,I6,none,0,hm,B1,o.hs,u,y8,z8,A9,n8,v8,(Nat.le_refl _),((SR.nil _ _).mono B1.sub)⟩
 refine cfv o rfl B4<|th<|rg<|qv o (Am o rfl rfl) λo=>qa o rfl λo=>re<|?_
 rcases bip hm with ⟨C4,hm⟩ | ⟨C4,hm⟩
 refine tn<|ctv o rfl C4<|?_
 obtain ⟨R1,h318,hm⟩:=bs hm
 refine rg<|qm o rfl λo=>?_
 replace u:=u.pk [1,0,0,0] rfl
 replace u:=St.sep [bk b2 [SL oa3 p1.L cap4,i6 p1.At,i6 p1.E,i6 p1.Pos,SL oa7 p1.Out cap8] 171,sla 51 9 oa7 p1.Out.length cap8 vs9] u
 refine ls<|c1 o rfl call177 (JaE (St.le u) (p1:=(leadlineref04_P.mk p1.L p1.At p1.E p1.Pos p1.Out)) (b2:=b2) (oa3:=oa3) (cap4:=cap4) (oa7:=oa7) (cap8:=cap8) (vs9:=vs9) S1 T1 C0 (St.sepOk u) (St.sepDis u) h318) ⟨rfl,trivial⟩ (λv w a hR o=>?_)
 obtain ⟨H322,C9,L6,D9,M6,E9,rfl,F9,G9,I9,P0,J9,hd321,hk⟩:=hR
 obtain ⟨u,P0⟩:=And.intro (St.mutH u hk P0 J9 hd321) (St.extcMM u P0)
 replace u:=u.unsep
 refine qv o (Ag o Ka rfl) λo=>ls<|As o u sizeOf3 rfl rfl rfl rfl (.tail (.tail (.tail .head))) (.succ (.succ (.succ (.succ (.succ .zero))))) λw u=>re<|bn<|tn<|?_
 replace u:=u.pk [1,0,0,0] rfl
 exact ⟨R1.2.L,R1.2.At,R1.2.E,R1.2.Pos,R1.2.Out,[],[],[],[],R1.1,H322,C9,L6,D9,M6,E9,none,0,none,0,hm,P0,o.hs,u,F9,G9,I9,(Nat.le_refl _),((SR.nil _ _).mono P0.sub),(Nat.le_refl _),((SR.nil _ _).mono P0.sub)⟩
 refine tn<|cfv o rfl C4<|wk<|bn<|tn<|?_
 exact ⟨p1.L,p1.At,p1.E,p1.Pos,p1.Out,[],[],[],[],0,H,oa3,cap4,oa7,cap8,vs9,none,0,none,0,hm,(ExtM.refl _ _ _),o.hs,u,S1,T1,C0,(Nat.le_refl _),(SR.nil _ _),(Nat.le_refl _),(SR.nil _ _)⟩
 rintro a w ⟨D4,M5,O5,P5,J2,C1,E1,D0,E0,F1,U0,F3,X1,Y1,V0,B2,W0,F0,X0,G0,hm,K9,o,u,hcA5,hrA6,L9,hcA21,hrA22,hcA26,hrA27⟩
 unfold Z3r at hm
 refine th<|rg<|qv o (Ar o Tryz.isAgg51 Tryz.sizeOf51 rfl rfl (u.ld.cellsB t3)) λo=>ls<|Aw o u sizeOf51 rfl rfl rfl rfl (Ak rfl) (.tail (.tail .head)) λw u=>re<|tn<|wr<|?_
 obtain rfl:=si hm
 exact r1c (vs:=[i6 p12,Ac C1,Ac E1,SL W0 D0 F0,SL X0 E0 G0,i6 F1,i6 0,i6 0,i6 p13]) (.inl rfl) o results168 rfl isAgg51 sizeOf51 rfl (u.ld.cellsB t2) ⟨U0,_,F3,X1,Y1,V0,B2,rfl,(show Enc.rep (α:=api_Stmt) U0 [i6 p12,Ac C1,Ac E1,SL W0 D0 F0,SL X0 E0 G0,i6 F1,i6 0,i6 0,i6 p13] (api_Stmt.mk p12 C1 E1 D0 E0 F1 0 0 p13) from ⟨_,_,rfl,rfl,⟨_,_,rfl,rfl,⟨_,_,rfl,rfl,⟨_,_,rfl,⟨_,_,rfl,hcA21,hrA22⟩,⟨_,_,rfl,⟨_,_,rfl,hcA26,hrA27⟩,⟨_,_,rfl,rfl,⟨_,_,rfl,rfl,⟨_,_,rfl,rfl,rfl⟩⟩⟩⟩⟩⟩⟩⟩),hcA5,hrA6,L9,K9,(St.le u),(St.disL (u.pickL (.cons (.tail .head) (.cons .head .nil)))),(u.pickL (.cons (.tail .head) (.cons .head .nil))).endMut⟩
end Go.LM.LB
