/- Walks, lifted by program. No condition beyond the theorems' own premises. -/
import Derived.Test.YtgdkaddhhpgeiaaGreatDoorLBQ4
namespace Go.LM.LB
open Go Go.LL Go.MD Go.LM Go.Proofs Go.MD.LB Go.Proofs.Tryz
set_option maxRecDepth 100000
variable {N:Nat} {w0:World} {H:PH}
set_option maxHeartbeats 4000000 in
theorem Jaw:∀ (N:Nat),(∀ {w0:World} {H:PH} (_:H.le w0) {b2:Nat} {p1:leadlineref04_P} {oa3:Option Addr} {cap4:Nat} (_:p1.L.length≤cap4) (_:SR H oa3 p1.L) {oa7:Option Addr} {cap8:Nat} {vs9:List Value} (_:Rows H vs9 p1.Out) {p12:Int} {p13:Int} (_:(sepA [bk b2 [SL oa3 p1.L cap4,i6 p1.At,i6 p1.E,i6 p1.Pos,SL oa7 p1.Out cap8] 171,sla 51 9 oa7 p1.Out.length cap8 vs9]).ok (hp w0)) (_:∀ b,(sepA [bk b2 [SL oa3 p1.L cap4,i6 p1.At,i6 p1.E,i6 p1.Pos,SL oa7 p1.Out cap8] 171,sla 51 9 oa7 p1.Out.length cap8 vs9]).fp b→H b=none) {r:(Int×leadlineref04_P)} (_:Z36 N p1 p12 p13=some r),Tot Tryz.prog 169 #[PT b2,i6 p12,i6 p13] w0 (λv w'=>∃ (H':PH) (oa1m:Option Addr) (cap1m:Nat) (oa2m:Option Addr) (cap2m:Nat) (vs2m:List Value),v=i6 r.1∧r.2.L.length≤cap1m∧SR H' oa1m r.2.L∧Rows H' vs2m r.2.Out∧ExtM w0 (sepA [bk b2 [SL oa3 p1.L cap4,i6 p1.At,i6 p1.E,i6 p1.Pos,SL oa7 p1.Out cap8] 171,sla 51 9 oa7 p1.Out.length cap8 vs9]).fp H H'∧H'.le w'∧(∀ b,(sepA [bk b2 [SL oa1m r.2.L cap1m,i6 r.2.At,i6 r.2.E,i6 r.2.Pos,SL oa2m r.2.Out cap2m] 171,sla 51 9 oa2m r.2.Out.length cap2m vs2m]).fp b→H' b=none)∧Mut w0 (sepA [bk b2 [SL oa3 p1.L cap4,i6 p1.At,i6 p1.E,i6 p1.Pos,SL oa7 p1.Out cap8] 171,sla 51 9 oa7 p1.Out.length cap8 vs9]) (sepA [bk b2 [SL oa1m r.2.L cap1m,i6 r.2.At,i6 r.2.E,i6 r.2.Pos,SL oa2m r.2.Out cap2m] 171,sla 51 9 oa2m r.2.Out.length cap2m vs2m]) w'))∧(∀ {w0:World} {H:PH} (_:H.le w0) {b2:Nat} {p1:leadlineref04_P} {oa3:Option Addr} {cap4:Nat} (_:p1.L.length≤cap4) (_:SR H oa3 p1.L) {oa7:Option Addr} {cap8:Nat} {vs9:List Value} (_:Rows H vs9 p1.Out) {p12:Int} {p13:Int} (_:(sepA [bk b2 [SL oa3 p1.L cap4,i6 p1.At,i6 p1.E,i6 p1.Pos,SL oa7 p1.Out cap8] 171,sla 51 9 oa7 p1.Out.length cap8 vs9]).ok (hp w0)) (_:∀ b,(sepA [bk b2 [SL oa3 p1.L cap4,i6 p1.At,i6 p1.E,i6 p1.Pos,SL oa7 p1.Out cap8] 171,sla 51 9 oa7 p1.Out.length cap8 vs9]).fp b→H b=none) {r:leadlineref04_P} (_:Z3h N p1 p12 p13=some r),Tot Tryz.prog 160 #[PT b2,i6 p12,i6 p13] w0 (λv w'=>∃ (H':PH) (oa1m:Option Addr) (cap1m:Nat) (oa2m:Option Addr) (cap2m:Nat) (vs2m:List Value),v=.tuple #[]∧r.L.length≤cap1m∧SR H' oa1m r.L∧Rows H' vs2m r.Out∧ExtM w0 (sepA [bk b2 [SL oa3 p1.L cap4,i6 p1.At,i6 p1.E,i6 p1.Pos,SL oa7 p1.Out cap8] 171,sla 51 9 oa7 p1.Out.length cap8 vs9]).fp H H'∧H'.le w'∧(∀ b,(sepA [bk b2 [SL oa1m r.L cap1m,i6 r.At,i6 r.E,i6 r.Pos,SL oa2m r.Out cap2m] 171,sla 51 9 oa2m r.Out.length cap2m vs2m]).fp b→H' b=none)∧Mut w0 (sepA [bk b2 [SL oa3 p1.L cap4,i6 p1.At,i6 p1.E,i6 p1.Pos,SL oa7 p1.Out cap8] 171,sla 51 9 oa7 p1.Out.length cap8 vs9]) (sepA [bk b2 [SL oa1m r.L cap1m,i6 r.At,i6 r.E,i6 r.Pos,SL oa2m r.Out cap2m] 171,sla 51 9 oa2m r.Out.length cap2m vs2m]) w')):=by
 intro N
 induction N with
  | zero=>exact ⟨(by intros;rename_i hm;simp [Z36] at hm),(by intros;rename_i hm;simp [Z3h] at hm)⟩
  | succ N ih=>
 obtain ⟨ih_Z36,ih_Z3h⟩:=ih
 refine ⟨?_,?_⟩
 intro w0 H hH b2 p1 oa3 cap4 I2 J2 oa7 cap8 vs9 V2 p12 p13 hO hD r hm
 rw [Z36] at hm
 refine fn0 func169 rfl ntmps169 rfl rfl λa o=>?_
 have u:=Cg hH hO hD
 refine th<|rg<|qa o rfl λo=>re<|tn<|th<|rg<|qm o rfl λo=>qv o (Aj o rfl) λo=>qv o (Ag o Dv rfl) λo=>qv o (Ah o isAgg46 rfl (u.ld.cellB t0 rfl)) λo=>qv o (Al (α:=api_Stmt) (xs:=p1.Out) o runUnderlying46 rfl) λo=>qa o rfl λo=>re<|tn<|th<|th<|Ay (λa w=>∃ (Q0:Bool),(Z37 (Z3h N) N p1 p12 p13) Q0=some r∧Fr 60 [(0,PT b2),(1,i6 p12),(2,i6 p13),(7,i6 (p1.Out.length:Int)),(25,.bool Q0)] a∧St w0 (sepA [bk b2 [SL oa3 p1.L cap4,i6 p1.At,i6 p1.E,i6 p1.Pos,SL oa7 p1.Out cap8] 171,sla 51 9 oa7 p1.Out.length cap8 vs9]).fp [H] [sla 51 9 oa7 p1.Out.length cap8 vs9,bk b2 [SL oa3 p1.L cap4,i6 p1.At,i6 p1.E,i6 p1.Pos,SL oa7 p1.Out cap8] 171] w) ?_ ?_
 rcases bip hm with ⟨L4,hm⟩ | ⟨L4,hm⟩
 obtain ⟨d7,j7,hm⟩:=bs hm
 refine rdS 13 u wide λw u=>dr 0 u o rfl (Ab o rfl) λo=>dr 1 u o rfl (Bn o rfl rfl) λo=>dr 2 u o rfl (An (Ab o rfl) (congrArg Value.bool L4)) λo=>dg 3 u.ld o rfl (λw hl=>Ab o rfl) λo=>dg 4 u.ld o rfl (λw hl=>Aj o rfl) λo=>dg 5 u.ld o rfl (λw hl=>Ag o Br rfl) λo=>dg 6 u.ld o rfl (λw hl=>Ah o isAgg120 rfl (hl.cellB t0 rfl)) λo=>dg 7 u.ld o rfl (λw hl=>Ab o rfl) λo=>dg 8 u.ld o rfl (λw hl=>Aj o rfl) λo=>dg 9 u.ld o rfl (λw hl=>Ag o Be rfl) λo=>dg 10 u.ld o rfl (λw hl=>Ah o isAgg3 rfl (hl.cellB t0 rfl)) λo=>da1 (i:=11) (by kernel_rfl) ?_
 refine di (i:=11) rfl<|gy o rfl rfl<|cr o call139 (Fe (Ai _) I2 (St.srH u J2) j7) u λu o=>⟨λ_=>u.ld,?_⟩
 refine dr 12 u o rfl (Ad o rfl rfl) λo=>de (by kernel_rfl)<|tn<|?_
 replace u:=u.pk [1,0] rfl
 exact ⟨d7,hm,o.hs,u⟩
 refine rxS 13 u wide (by kernel_rfl) λw u=>xm u o rfl λo=>xr u o (Bn o rfl rfl) λo=>xr u o (An (Ab o rfl) (congrArg Value.bool L4)) λo=>?_
 iterate 9 refine xn u.ld o λo=>?_
 refine xr u o (Ae o rfl rfl) λo=>xe<|tn<|?_
 replace u:=u.pk [1,0] rfl
 exact ⟨false,hm,o.hs,u⟩
 rintro a w ⟨Q0,hm,o,u⟩
 unfold Z37 at hm
 refine Ay (λa w=>∃ (J0:(List api_Token)) (D4:Int) (p0:Int) (Y0:Int) (u0:(List api_Stmt)) (E4:PH) (I0:Option Addr) (D0:Nat) (G1:Option Addr) (V0:Nat) (R1:List Value),(Z38 (Z3h N) N p1 p12 p13) J0 D4 p0 Y0 u0=some r∧ExtM w0 (sepA [bk b2 [SL oa3 p1.L cap4,i6 p1.At,i6 p1.E,i6 p1.Pos,SL oa7 p1.Out cap8] 171,sla 51 9 oa7 p1.Out.length cap8 vs9]).fp H E4∧Fr 60 [(0,PT b2),(1,i6 p12),(2,i6 p13),(7,i6 (p1.Out.length:Int))] a∧St w0 (sepA [bk b2 [SL oa3 p1.L cap4,i6 p1.At,i6 p1.E,i6 p1.Pos,SL oa7 p1.Out cap8] 171,sla 51 9 oa7 p1.Out.length cap8 vs9]).fp [E4] [sla 51 9 G1 u0.length V0 R1,bk b2 [SL I0 J0 D0,i6 D4,i6 p0,i6 Y0,SL G1 u0 V0] 171] w∧J0.length≤D0∧SR E4 I0 J0∧Rows E4 R1 u0) ?_ ?_
 rcases bit hm with ⟨M4,hm⟩ | ⟨M4,hm⟩
 refine ctv o rfl M4<|?_
 obtain ⟨F4,k7,hm⟩:=bs hm
 refine rg<|qm o rfl λo=>?_
 replace u:=u.pk [1,0] rfl
 replace u:=St.sep [bk b2 [SL oa3 p1.L cap4,i6 p1.At,i6 p1.E,i6 p1.Pos,SL oa7 p1.Out cap8] 171,sla 51 9 oa7 p1.Out.length cap8 vs9] u
 refine ls<|c1 o rfl call167 (Mh (St.le u) (p1:=(leadlineref04_P.mk p1.L p1.At p1.E p1.Pos p1.Out)) (b2:=b2) (oa3:=oa3) (cap4:=cap4) (oa7:=oa7) (cap8:=cap8) (vs9:=vs9) I2 J2 V2 (St.sepOk u) (St.sepDis u) k7) ⟨rfl,rfl,trivial⟩ (λv w a hR o=>?_)
 obtain ⟨H23,I6,K5,J6,L5,K6,rfl,L6,M6,O6,L3,P6,hd22,hk⟩:=hR
 obtain ⟨u,L3⟩:=And.intro (St.mutH u hk L3 P6 hd22) (St.extcMM u L3)
 replace u:=u.unsep
 refine re<|tn<|?_
 replace u:=u.pk [1,0] rfl
 exact ⟨F4.L,F4.At,F4.E,F4.Pos,F4.Out,H23,I6,K5,J6,L5,K6,hm,L3,o.hs,u,L6,M6,O6⟩
 refine cfv o rfl M4<|wk<|tn<|?_
 exact ⟨p1.L,p1.At,p1.E,p1.Pos,p1.Out,H,oa3,cap4,oa7,cap8,vs9,hm,(ExtM.refl _ _ _),o.hs,u,I2,J2,V2⟩
 rintro a w ⟨J0,D4,p0,Y0,u0,E4,I0,D0,G1,V0,R1,hm,M5,o,u,hcA6,hrA7,O5⟩
 unfold Z38 at hm
 refine th<|?_
 obtain ⟨G4,n7,hm⟩:=bs hm
 refine rg<|qm o rfl λo=>?_
 replace u:=u.pk [1,0] rfl
 replace u:=St.sep [bk b2 [SL I0 J0 D0,i6 D4,i6 p0,i6 Y0,SL G1 u0 V0] 171,sla 51 9 G1 u0.length V0 R1] u
 refine ls<|c1 o rfl call161 (Hj (St.le u) (p1:=(leadlineref04_P.mk J0 D4 p0 Y0 u0)) (b2:=b2) (oa3:=I0) (cap4:=D0) (oa7:=G1) (cap8:=V0) (vs9:=R1) hcA6 hrA7 O5 (St.sepOk u) (St.sepDis u) n7) ⟨rfl,rfl,trivial⟩ (λv w a hR o=>?_)
 obtain ⟨H38,Q6,P5,R6,Q5,S6,rfl,T6,U6,V6,M3,W6,hd37,hk⟩:=hR
 obtain ⟨u,M3⟩:=And.intro (St.mutH u hk M3 W6 hd37) (St.extcMM u M3)
 replace u:=u.unsep
 refine re<|tn<|th<|Ay (λa w=>∃ (S0:(List api_Token)) (W2:Int) (X2:Int) (Y2:Int) (K0:(List api_Stmt)) (A3:PH) (S1:Option Addr) (B1:Nat) (I1:Option Addr) (W0:Nat) (T1:List Value),(Z39 N p1) S0 W2 X2 Y2 K0=some r∧ExtM w0 (sepA [bk b2 [SL oa3 p1.L cap4,i6 p1.At,i6 p1.E,i6 p1.Pos,SL oa7 p1.Out cap8] 171,sla 51 9 oa7 p1.Out.length cap8 vs9]).fp H38 A3∧Fr 60 [(0,PT b2),(7,i6 (p1.Out.length:Int))] a∧St w0 (sepA [bk b2 [SL oa3 p1.L cap4,i6 p1.At,i6 p1.E,i6 p1.Pos,SL oa7 p1.Out cap8] 171,sla 51 9 oa7 p1.Out.length cap8 vs9]).fp [A3] [sla 51 9 I1 K0.length W0 T1,bk b2 [SL S1 S0 B1,i6 W2,i6 X2,i6 Y2,SL I1 K0 W0] 171] w∧S0.length≤B1∧SR A3 S1 S0∧Rows A3 T1 K0) ?_ ?_
 replace u:=u.pk [1,0] rfl
 refine wb<|lp (α:=Nat×(List api_Token)×Int×Int×Int×(List api_Stmt)) (λgh a w=>match gh with | (J3,R0,K2,M2,O2,T0)=>∃ (B3:PH) (O1:Option Addr) (j0:Nat) (U0:Option Addr) (M0:Nat) (n0:List Value),(Z3b (Z3h N) N (Z39 N p1) p12 p13) J3 R0 K2 M2 O2 T0=some r∧ExtM w0 (sepA [bk b2 [SL oa3 p1.L cap4,i6 p1.At,i6 p1.E,i6 p1.Pos,SL oa7 p1.Out cap8] 171,sla 51 9 oa7 p1.Out.length cap8 vs9]).fp H38 B3∧Fr 60 [(0,PT b2),(1,i6 p12),(2,i6 p13),(7,i6 (p1.Out.length:Int))] a∧St w0 (sepA [bk b2 [SL oa3 p1.L cap4,i6 p1.At,i6 p1.E,i6 p1.Pos,SL oa7 p1.Out cap8] 171,sla 51 9 oa7 p1.Out.length cap8 vs9]).fp [B3] [sla 51 9 U0 T0.length M0 n0,bk b2 [SL O1 R0 j0,i6 K2,i6 M2,i6 O2,SL U0 T0 M0] 171] w∧R0.length≤j0∧SR B3 O1 R0∧Rows B3 n0 T0) (λgh=>gh.1) (N,G4.L,G4.At,G4.E,G4.Pos,G4.Out) ⟨H38,Q6,P5,R6,Q5,S6,hm,(ExtM.refl _ _ _),o.hs,u,T6,U6,V6⟩ ?_
 rintro ⟨J3,R0,K2,M2,O2,T0⟩ a w ⟨B3,O1,j0,U0,M0,n0,hm,Y4,o,u,hcB5,hrB6,d4⟩
 obtain _ | J3:=J3
 simp [Z3b] at hm
 rw [Z3b] at hm
 refine th<|th<|Ay (λa w=>∃ (P2:Bool),(Z3a (Z3h N) (Z39 N p1) ((Z3b (Z3h N) N (Z39 N p1) p12 p13) J3) p12 p13 R0 K2 M2 O2 T0) P2=some r∧Fr 60 [(0,PT b2),(1,i6 p12),(2,i6 p13),(7,i6 (p1.Out.length:Int)),(46,.bool P2)] a∧St w0 (sepA [bk b2 [SL oa3 p1.L cap4,i6 p1.At,i6 p1.E,i6 p1.Pos,SL oa7 p1.Out cap8] 171,sla 51 9 oa7 p1.Out.length cap8 vs9]).fp [B3] [sla 51 9 U0 T0.length M0 n0,bk b2 [SL O1 R0 j0,i6 K2,i6 M2,i6 O2,SL U0 T0 M0] 171] w) ?_ ?_
 rcases bip hm with ⟨O4,hm⟩ | ⟨O4,hm⟩
 obtain ⟨u7,v7,hm⟩:=bs hm
 refine rdS 17 u wide λw u=>dr 0 u o rfl (Ab o rfl) λo=>dr 1 u o rfl (Aj o rfl) λo=>dr 2 u o rfl (Ag o Bs rfl) λo=>dq 3 u.ld o rfl (λw hl=>Ah o isAgg29 rfl (hl.cellB t1 rfl)) λo=>dr 4 u o rfl (Am o rfl rfl) λo=>dr 5 u o rfl (An (Ab o rfl) (congrArg Value.bool O4)) λo=>dg 6 u.ld o rfl (λw hl=>Ab o rfl) λo=>dg 7 u.ld o rfl (λw hl=>Aj o rfl) λo=>dg 8 u.ld o rfl (λw hl=>Ag o Br rfl) λo=>dg 9 u.ld o rfl (λw hl=>Ah o isAgg120 rfl (hl.cellB t1 rfl)) λo=>dg 10 u.ld o rfl (λw hl=>Ab o rfl) λo=>dg 11 u.ld o rfl (λw hl=>Aj o rfl) λo=>dg 12 u.ld o rfl (λw hl=>Ag o Be rfl) λo=>dg 13 u.ld o rfl (λw hl=>Ah o isAgg3 rfl (hl.cellB t1 rfl)) λo=>da1 (i:=14) (by kernel_rfl) ?_
 refine di (i:=14) rfl<|gy o rfl rfl<|cr o call139 (Fe (Ai _) hcB5 (St.srH u hrB6) v7) u λu o=>⟨λ_=>u.ld,?_⟩
 refine dg 15 u.ld o rfl (λw hl=>Bc o rfl) λo=>dr 16 u o rfl (Ad o rfl rfl) λo=>de (by kernel_rfl)<|tn<|?_
 exact ⟨(!u7),hm,o.hs,u⟩
 refine rxS 17 u wide (by kernel_rfl) λw u=>xm u o rfl λo=>xr u o (Aj o rfl) λo=>xr u o (Ag o Bs rfl) λo=>xq u.ld o (λw hl=>Ah o isAgg29 rfl (hl.cellB t1 rfl)) λo=>xr u o (Am o rfl rfl) λo=>xr u o (An (Ab o rfl) (congrArg Value.bool O4)) λo=>?_
 iterate 10 refine xn u.ld o λo=>?_
 refine xr u o (Ae o rfl rfl) λo=>xe<|tn<|?_
 exact ⟨false,hm,o.hs,u⟩
 rintro a w ⟨P2,hm,o,u⟩
 unfold Z3a at hm
 rcases bit hm with ⟨P4,hm⟩ | ⟨P4,hm⟩
 refine ctv o rfl P4<|wk<|tn<|wb<|?_
 obtain ⟨I4,z7,hm⟩:=bs hm
 refine rg<|qm o rfl λo=>?_
 iterate 2 refine qm o rfl λo=>?_
 replace u:=u.pk [1,0] rfl
 replace u:=St.sep [bk b2 [SL O1 R0 j0,i6 K2,i6 M2,i6 O2,SL U0 T0 M0] 171,sla 51 9 U0 T0.length M0 n0] u
 refine ls<|c1 o rfl call160 (ih_Z3h (St.le u) (p1:=(leadlineref04_P.mk R0 K2 M2 O2 T0)) (b2:=b2) (oa3:=O1) (cap4:=j0) (oa7:=U0) (cap8:=M0) (vs9:=n0) hcB5 hrB6 d4 (St.sepOk u) (St.sepDis u) z7) ⟨rfl,rfl,rfl,trivial⟩ (λv w a hR o=>?_)
 obtain ⟨H57,X6,R5,Y6,S5,d6,rfl,j6,k6,P1,O3,n6,hd56,hk⟩:=hR
 obtain ⟨u,O3⟩:=And.intro (St.mutH u hk O3 n6 hd56) (St.extcMM u O3)
 replace u:=u.unsep
 refine re<|bn<|tn<|?_
 replace u:=u.pk [1,0] rfl
 exact ⟨(J3,I4.L,I4.At,I4.E,I4.Pos,I4.Out),⟨H57,X6,R5,Y6,S5,d6,hm,(ExtM.trans Y4 O3),o.hs,u,j6,k6,P1⟩,Nat.lt_succ_self _⟩
 refine cfv o rfl P4<|we<|tx<|tx<|bx<|tn<|?_
 exact ⟨R0,K2,M2,O2,T0,B3,O1,j0,U0,M0,n0,hm,Y4,o.has ⟨rfl,rfl,trivial⟩,u,hcB5,hrB6,d4⟩
 rintro a w ⟨S0,W2,X2,Y2,K0,A3,S1,B1,I1,W0,T1,hm,l4,o,u,hcA21,hrA22,T5⟩
 unfold Z39 at hm
 refine th<|?_
 obtain ⟨A8,B8,hm⟩:=bs hm
 refine rg<|qm o rfl λo=>?_
 replace u:=u.pk [1,0] rfl
 replace u:=St.sep [bk b2 [SL S1 S0 B1,i6 W2,i6 X2,i6 Y2,SL I1 K0 W0] 171,sla 51 9 I1 K0.length W0 T1] u
 refine ls<|c1 o rfl call161 (Hj (St.le u) (p1:=(leadlineref04_P.mk S0 W2 X2 Y2 K0)) (b2:=b2) (oa3:=S1) (cap4:=B1) (oa7:=I1) (cap8:=W0) (vs9:=T1) hcA21 hrA22 T5 (St.sepOk u) (St.sepDis u) B8) ⟨rfl,rfl,trivial⟩ (λv w a hR o=>?_)
 obtain ⟨H72,u6,U5,v6,V5,y6,rfl,z6,A7,B7,P3,C7,hd71,hk⟩:=hR
 obtain ⟨u,P3⟩:=And.intro (St.mutH u hk P3 C7 hd71) (St.extcMM u P3)
 replace u:=u.unsep
 refine re<|tn<|th<|rg<|qm o rfl λo=>qv o (Aj o rfl) λo=>qv o (Ag o Dv rfl) λo=>qv o (Ah o isAgg46 rfl (u.ld.cellB t0 rfl)) λo=>qv o (Al (α:=api_Stmt) (xs:=A8.Out) o runUnderlying46 rfl) λo=>qm o rfl λo=>qv o (Gp o rfl rfl) λo=>qa o rfl λo=>re<|tn<|wr<|?_
 obtain rfl:=si hm
 exact r1 o results169 rfl ⟨H72,u6,U5,v6,V5,y6,rfl,z6,A7,B7,(ExtM.trans M5 (ExtM.trans M3 (ExtM.trans l4 P3))),(St.le u),(St.disL (u.pickL (.cons .head (.cons .head .nil)))),(u.pickL (.cons .head (.cons .head .nil))).endMut⟩
 intro w0 H hH b2 p1 oa3 cap4 I2 J2 oa7 cap8 vs9 V2 p12 p13 hO hD r hm
 rw [Z3h] at hm
 refine fn0 func160 rfl ntmps160 rfl rfl λa o=>?_
 have u:=Cg hH hO hD
 refine th<|?_
 obtain ⟨U1,C8,hm⟩:=bs hm
 refine rdS 11 u wide λw u=>dr 0 u o rfl (Ab o rfl) λo=>dr 1 u o rfl (Aj o rfl) λo=>dr 2 u o rfl (Ag o Br rfl) λo=>dq 3 u.ld o rfl (λw hl=>Ah o isAgg120 rfl (hl.cellB t0 rfl)) λo=>dr 4 u o rfl (Ab o rfl) λo=>dr 5 u o rfl (Aj o rfl) λo=>dr 6 u o rfl (Ag o Be rfl) λo=>dq 7 u.ld o rfl (λw hl=>Ah o isAgg3 rfl (hl.cellB t0 rfl)) λo=>da1 (i:=8) (by kernel_rfl) ?_
 refine di (i:=8) rfl<|cr o call143 (Ft (Ai _) I2 (St.srH u J2) C8) u λu o=>⟨λ_=>u.ld,?_⟩
 refine dr 9 u o rfl (Bo o rfl) λo=>dr 10 u o rfl (Bo o rfl) λo=>de (by kernel_rfl)<|tn<|th<|th<|rg<|qa o rfl λo=>re<|tn<|Ay (λa w=>∃ (Q0:Int),(Z3i (Z36 N) N p1 p12 p13 U1) Q0=some r∧Fr 134 [(0,PT b2),(1,i6 p12),(2,i6 p13),(6,i6 Q0),(7,i6 U1)] a∧St w0 (sepA [bk b2 [SL oa3 p1.L cap4,i6 p1.At,i6 p1.E,i6 p1.Pos,SL oa7 p1.Out cap8] 171,sla 51 9 oa7 p1.Out.length cap8 vs9]).fp [H] [sla 51 9 oa7 p1.Out.length cap8 vs9,bk b2 [SL oa3 p1.L cap4,i6 p1.At,i6 p1.E,i6 p1.Pos,SL oa7 p1.Out cap8] 171] w) ?_ ?_
 replace u:=u.pk [1,0] rfl
 refine wb<|lp (α:=Nat×Int×Int) (λgh a w=>match gh with | (K3,J4,R0)=>(Z3p N (Z3i (Z36 N) N p1 p12 p13 U1) p1) K3 J4 R0=some r∧Fr 134 [(0,PT b2),(1,i6 p12),(2,i6 p13),(6,i6 J4),(7,i6 U1),(8,i6 R0)] a∧St w0 (sepA [bk b2 [SL oa3 p1.L cap4,i6 p1.At,i6 p1.E,i6 p1.Pos,SL oa7 p1.Out cap8] 171,sla 51 9 oa7 p1.Out.length cap8 vs9]).fp [H] [sla 51 9 oa7 p1.Out.length cap8 vs9,bk b2 [SL oa3 p1.L cap4,i6 p1.At,i6 p1.E,i6 p1.Pos,SL oa7 p1.Out cap8] 171] w) (λgh=>gh.1) (N,1,2) ⟨hm,o.hs,u⟩ ?_
 rintro ⟨K3,J4,R0⟩ a w ⟨hm,o,u⟩
 obtain _ | K3:=K3
 simp [Z3p] at hm
 rw [Z3p] at hm
 refine th<|th<|rg<|qm o rfl λo=>qv o (Dk o rfl rfl) λo=>re<|?_
 rcases bip hm with ⟨Q4,hm⟩ | ⟨Q4,hm⟩
 refine tn<|ctv o rfl Q4<|wk<|tn<|th<|Ay (λa w=>∃ (P2:Int),(Z3j (Z3p N (Z3i (Z36 N) N p1 p12 p13 U1) p1 K3) R0) P2=some r∧Fr 134 [(0,PT b2),(1,i6 p12),(2,i6 p13),(6,i6 P2),(7,i6 U1),(8,i6 R0)] a∧St w0 (sepA [bk b2 [SL oa3 p1.L cap4,i6 p1.At,i6 p1.E,i6 p1.Pos,SL oa7 p1.Out cap8] 171,sla 51 9 oa7 p1.Out.length cap8 vs9]).fp [H] [sla 51 9 oa7 p1.Out.length cap8 vs9,bk b2 [SL oa3 p1.L cap4,i6 p1.At,i6 p1.E,i6 p1.Pos,SL oa7 p1.Out cap8] 171] w) ?_ ?_
 refine wb<|th<|?_
 obtain ⟨Q8,D8,hm⟩:=bs hm
 obtain ⟨R8,E8,hm⟩:=bs hm
 refine rdS 11 u wide λw u=>dr 0 u o rfl (Ab o rfl) λo=>dr 1 u o rfl (Aj o rfl) λo=>dr 2 u o rfl (Ag o Br rfl) λo=>dq 3 u.ld o rfl (λw hl=>Ah o isAgg120 rfl (hl.cellB t1 rfl)) λo=>dr 4 u o rfl (Ab o rfl) λo=>dr 5 u o rfl (Aj o rfl) λo=>dr 6 u o rfl (Ag o Be rfl) λo=>dq 7 u.ld o rfl (λw hl=>Ah o isAgg3 rfl (hl.cellB t1 rfl)) λo=>dr 8 u o rfl (Ab o rfl) λo=>da1 (i:=9) (by kernel_rfl) ?_
 refine di (i:=9) rfl<|cr o call166 (JaN (Ai _) D8) u λu o=>⟨λ_=>u.ld,?_⟩
 refine da1 (i:=10) (by kernel_rfl) ?_
 refine di (i:=10) rfl<|cr o call139 (Fe (Ai _) I2 (St.srH u J2) E8) u λu o=>⟨λ_=>u.ld,?_⟩
 refine de (by kernel_rfl)<|?_
 rcases bit hm with ⟨R4,hm⟩ | ⟨R4,hm⟩
 refine tn<|ctv o rfl R4<|rg<|qm o rfl λo=>qa o rfl λo=>re<|bn<|tn<|?_
 exact ⟨R0,hm,o.hs,u⟩
 refine tn<|cfv o rfl R4<|wk<|bn<|tn<|?_
 exact ⟨J4,hm,o.hs,u⟩
 rintro a w ⟨P2,hm,o,u⟩
 unfold Z3j at hm
 refine rg<|qm o rfl λo=>qv o (Ao o rfl rfl) λo=>qa o rfl λo=>re<|tn<|?_
 exact ⟨(K3,P2,(IntKind.i64.wrap (R0+1))),⟨hm,o.hs,u⟩,Nat.lt_succ_self _⟩
 refine tn<|cfv o rfl Q4<|we<|tx<|tx<|bx<|tn<|?_
 exact ⟨J4,hm,o.hs,u⟩
 rintro a w ⟨Q0,hm,o,u⟩
 unfold Z3i at hm
 refine th<|th<|rg<|qm o rfl λo=>qv o (Am o rfl rfl) λo=>qm o rfl λo=>gr (Fk:=[(0,PT b2),(1,i6 p12),(2,i6 p13),(6,i6 Q0),(7,i6 U1),(42,.bool ((decide (Q0=13)) && (decide (p13=0))))]) 39 3 o u ?_ ?_ ?_
 intro hb o key
 exact qg o (Ab o rfl) λo=>qg o (Am o rfl rfl) λo=>qk o (Ad o rfl rfl) key u hb
 intro hb o key
 iterate 2 refine qn o λo=>?_
 exact qk o (Ae o rfl rfl) key u hb
 intro a w o u
 refine re<|?_
 rcases bit hm with ⟨S4,hm⟩ | ⟨S4,hm⟩
 refine tn<|ctv o rfl S4<|th<|?_
 obtain ⟨S8,F8,hm⟩:=bs hm
 refine rg<|qm o rfl λo=>?_
 replace u:=u.pk [1,0] rfl
 replace u:=St.sep [bk b2 [SL oa3 p1.L cap4,i6 p1.At,i6 p1.E,i6 p1.Pos,SL oa7 p1.Out cap8] 171,sla 51 9 oa7 p1.Out.length cap8 vs9] u
 refine ls<|c1 o rfl call167 (Mh (St.le u) (p1:=(leadlineref04_P.mk p1.L p1.At p1.E p1.Pos p1.Out)) (b2:=b2) (oa3:=oa3) (cap4:=cap4) (oa7:=oa7) (cap8:=cap8) (vs9:=vs9) I2 J2 V2 (St.sepOk u) (St.sepDis u) F8) ⟨rfl,rfl,trivial⟩ (λv w a hR o=>?_)
 obtain ⟨H28,D7,W5,E7,X5,F7,rfl,G7,I7,J7,Q3,K7,hd27,hk⟩:=hR
 obtain ⟨u,Q3⟩:=And.intro (St.mutH u hk Q3 K7 hd27) (St.extcMM u Q3)
 replace u:=u.unsep
 refine re<|tn<|wr<|tr<|?_
 obtain rfl:=si hm
 exact r0 o results160 ⟨H28,D7,W5,E7,X5,F7,rfl,G7,I7,J7,Q3,(St.le u),(St.disL (u.pickL (.cons .head (.cons .head .nil)))),(u.pickL (.cons .head (.cons .head .nil))).endMut⟩
 refine tn<|cfv o rfl S4<|wk<|tn<|th<|th<|rg<|qm o rfl λo=>qv o (Bu o rfl rfl) λo=>re<|tn<|Ay (λa w=>∃ (K4:Int),(Z3k (Z36 N) N p1 p12 p13 U1 Q0) K4=some r∧Fr 134 [(0,PT b2),(1,i6 p12),(2,i6 p13),(6,i6 Q0),(7,i6 U1)] a∧St w0 (sepA [bk b2 [SL oa3 p1.L cap4,i6 p1.At,i6 p1.E,i6 p1.Pos,SL oa7 p1.Out cap8] 171,sla 51 9 oa7 p1.Out.length cap8 vs9]).fp [H] [sla 51 9 oa7 p1.Out.length cap8 vs9,bk b2 [SL oa3 p1.L cap4,i6 K4,i6 p1.E,i6 p1.Pos,SL oa7 p1.Out cap8] 171] w) ?_ ?_
 rcases bip hm with ⟨T4,hm⟩ | ⟨T4,hm⟩
 refine ctv o rfl T4<|rg<|qm o rfl λo=>qm o rfl λo=>qv o (Aj o rfl) λo=>qv o (Ag o Be rfl) λo=>qv o (Ah o isAgg3 rfl (u.ld.cellB t1 rfl)) λo=>qv o (Ao o rfl rfl) λo=>qv o (Aj o rfl) λo=>qv o (Ag o Be rfl) λo=>ls<|As o u sizeOf3 rfl rfl rfl rfl (.tail .head) (.succ .zero) λw u=>re<|tn<|?_
 exact ⟨(IntKind.i64.wrap (p1.At+1)),hm,o.hs,u⟩
 refine cfv o rfl T4<|wk<|tn<|?_
 exact ⟨p1.At,hm,o.hs,u⟩
 rintro a w ⟨K4,hm,o,u⟩
 unfold Z3k at hm
 refine th<|?_
 obtain ⟨C0,G8,hm⟩:=bs hm
 refine rg<|qm o rfl λo=>?_
 iterate 2 refine qm o rfl λo=>?_
 replace u:=u.pk [1,0] rfl
 replace u:=St.sep [bk b2 [SL oa3 p1.L cap4,i6 K4,i6 p1.E,i6 p1.Pos,SL oa7 p1.Out cap8] 171,sla 51 9 oa7 p1.Out.length cap8 vs9] u
 refine ls<|c1 o rfl call168 (Ja7 (St.le u) (p1:=(leadlineref04_P.mk p1.L K4 p1.E p1.Pos p1.Out)) (b2:=b2) (oa3:=oa3) (cap4:=cap4) (oa7:=oa7) (cap8:=cap8) (vs9:=vs9) I2 J2 V2 (St.sepOk u) (St.sepDis u) G8) ⟨rfl,rfl,rfl,trivial⟩ (λv w a hR o=>?_)
 obtain ⟨H44,cs45,C2,J1,M8,L8,O8,rfl,I8,A5,B5,U4,C3,L7,hd43,hk⟩:=hR
 obtain ⟨u,C3⟩:=And.intro (St.mutH u hk C3 L7 hd43) (St.extcMM u C3)
 replace u:=u.unsep
 obtain ⟨O0,F0,P0,G0,rfl,R3,S3,T3,U3⟩:=Ce I8
 refine ls<|Ap (cs:=[i6 0,Ac [],Ac [],.slice none 0 0,.slice none 0 0,i6 0,i6 0,i6 0,i6 0].toArray) o rfl u zeroValue51 rfl λV1 w a u o=>ls<|Aw o u sizeOf51 rfl rfl rfl rfl (Ak rfl) .head λw u=>re<|tn<|th<|rg<|qm o rfl λo=>qv o (Aj o rfl) λo=>qv o (Ag o Dv rfl) λo=>qv o (Ah o isAgg46 rfl (u.ld.cellB t1 rfl)) λo=>qv o (Al (α:=api_Stmt) (xs:=C0.2.Out) o runUnderlying46 rfl) λo=>qa o rfl λo=>re<|tn<|th<|Ay (λa w=>∃ (J0:(List api_Stmt)) (I0:Option Addr) (D0:Nat) (C1:List Value),(Z3l (Z36 N) N p12 p13 Q0 C0) J0=some r∧Fr 134 [(0,PT b2),(1,i6 p12),(2,i6 p13),(6,i6 Q0),(9,PT V1),(10,i6 (C0.2.Out.length:Int))] a∧St w0 (sepA [bk b2 [SL oa3 p1.L cap4,i6 p1.At,i6 p1.E,i6 p1.Pos,SL oa7 p1.Out cap8] 171,sla 51 9 oa7 p1.Out.length cap8 vs9]).fp [H44] [sla 51 9 I0 J0.length D0 C1,bk b2 [SL C2 C0.2.L J1,i6 C0.2.At,i6 C0.2.E,i6 C0.2.Pos,SL I0 J0 D0] 171,bk V1 [i6 C0.1.Kind,Ac C0.1.Reg,Ac C0.1.Name,SL O0 C0.1.E F0,SL P0 C0.1.F G0,i6 C0.1.N,i6 C0.1.Body,i6 C0.1.Else,i6 C0.1.At] 51] w∧Rows H44 C1 J0) ?_ ?_
 obtain ⟨C5,D5,hm⟩:=bs hm
 refine rdL (Aa t0 Af) 11 u wide λw u=>ds 0 (St.ldsX u i2 (Aa t0 Af)) o rfl (Ab o rfl) λo=>ds 1 (St.ldsX u i2 (Aa t0 Af)) o rfl (Ab o rfl) λo=>ds 2 (St.ldsX u i2 (Aa t0 Af)) o rfl (Aj o rfl) λo=>ds 3 (St.ldsX u i2 (Aa t0 Af)) o rfl (Ag o Dv rfl) λo=>da2 (i:=4) (j:=5) (by kernel_rfl) ?_ ?_
 refine di (i:=4) rfl<|q1 o rfl (Ah o isAgg46 rfl (u.ld.cellB t1 rfl)) λa o=>⟨λ_=>(St.ldsX u i2 (Aa t0 Af)),?_⟩
 refine dq 5 (St.ldsX u i2 (Aa t0 Af)) o rfl (λw hl=>Ar o isAgg51 sizeOf51 rfl rfl (hl.cellsB t0)) λo=>da1 (i:=6) (by kernel_rfl) ?_
 refine di (i:=6) rfl<|Bh (e:=51) (sz:=9) [i6 C0.1.Kind,Ac C0.1.Reg,Ac C0.1.Name,SL O0 C0.1.E F0,SL P0 C0.1.F G0,i6 C0.1.N,i6 C0.1.Body,i6 C0.1.Else,i6 C0.1.At] o rfl u rfl rfl rfl (λw=>by kernel_rfl) λG6 w a u o=>?_
 have P1:Rows (α:=api_Stmt) H44 [i6 C0.1.Kind,Ac C0.1.Reg,Ac C0.1.Name,SL O0 C0.1.E F0,SL P0 C0.1.F G0,i6 C0.1.N,i6 C0.1.Body,i6 C0.1.Else,i6 C0.1.At] ([C0.1]:List api_Stmt):=(.cons (c:=[i6 C0.1.Kind,Ac C0.1.Reg,Ac C0.1.Name,SL O0 C0.1.E F0,SL P0 C0.1.F G0,i6 C0.1.N,i6 C0.1.Body,i6 C0.1.Else,i6 C0.1.At]) ⟨_,_,rfl,rfl,⟨_,_,rfl,rfl,⟨_,_,rfl,rfl,⟨_,_,rfl,⟨_,_,rfl,R3,S3⟩,⟨_,_,rfl,⟨_,_,rfl,T3,U3⟩,⟨_,_,rfl,rfl,⟨_,_,rfl,rfl,⟨_,_,rfl,rfl,rfl⟩⟩⟩⟩⟩⟩⟩⟩ .nil)
 refine ⟨λ_=>(St.ldsX u i2 (Aa t1 Af)),?_⟩
 refine da1 (i:=7) (by kernel_rfl) ?_
 refine di (i:=7) rfl<|Cc (α:=api_Stmt) (xs:=C0.2.Out) (ys:=([C0.1]:List api_Stmt)) o rfl u underlying46 Nn rfl (by decide) rfl rfl rfl t3 U4 (u.rdO t0) P1 D5 λD3 X1 E3 w a F3 hU o=>?_
 replace u:=hU _ (.tail (.tail (.tail .head)))
 replace u:=u.drop .head
 refine ⟨λ_=>(St.ldsX u i2 (Aa t0 Af)),?_⟩
 refine ds 8 (St.ldsX u i2 (Aa t0 Af)) o rfl (Aj o rfl) λo=>ds 9 (St.ldsX u i2 (Aa t0 Af)) o rfl (Ag o Dv rfl) λo=>da1 (i:=10) (by kernel_rfl) ?_
 refine di (i:=10) rfl<|As o u sizeOf46 rfl rfl rfl rfl (.tail .head) (.succ (.succ (.succ (.succ .zero)))) λw u=>⟨λ_=>(St.ldsX u i2 (Aa t0 Af)),?_⟩
 refine de (by kernel_rfl)<|tn<|?_
 replace u:=u.pk [2,1,0] rfl
 exact ⟨C5,D3,X1,E3,hm,o.hs,u,F3⟩
 refine di (i:=5) rfl<|q1 o rfl (Ar o isAgg51 sizeOf51 rfl rfl (u.ld.cellsB t0)) λa o=>⟨λ_=>(St.ldsX u i2 (Aa t0 Af)),?_⟩
 refine da2 (i:=4) (j:=6) (by kernel_rfl) ?_ ?_
 refine di (i:=4) rfl<|q1 o rfl (Ah o isAgg46 rfl (u.ld.cellB t1 rfl)) λa o=>⟨λ_=>(St.ldsX u i2 (Aa t0 Af)),?_⟩
 refine da1 (i:=6) (by kernel_rfl) ?_
 refine di (i:=6) rfl<|Bh (e:=51) (sz:=9) [i6 C0.1.Kind,Ac C0.1.Reg,Ac C0.1.Name,SL O0 C0.1.E F0,SL P0 C0.1.F G0,i6 C0.1.N,i6 C0.1.Body,i6 C0.1.Else,i6 C0.1.At] o rfl u rfl rfl rfl (λw=>by kernel_rfl) λG6 w a u o=>?_
 have P1:Rows (α:=api_Stmt) H44 [i6 C0.1.Kind,Ac C0.1.Reg,Ac C0.1.Name,SL O0 C0.1.E F0,SL P0 C0.1.F G0,i6 C0.1.N,i6 C0.1.Body,i6 C0.1.Else,i6 C0.1.At] ([C0.1]:List api_Stmt):=(.cons (c:=[i6 C0.1.Kind,Ac C0.1.Reg,Ac C0.1.Name,SL O0 C0.1.E F0,SL P0 C0.1.F G0,i6 C0.1.N,i6 C0.1.Body,i6 C0.1.Else,i6 C0.1.At]) ⟨_,_,rfl,rfl,⟨_,_,rfl,rfl,⟨_,_,rfl,rfl,⟨_,_,rfl,⟨_,_,rfl,R3,S3⟩,⟨_,_,rfl,⟨_,_,rfl,T3,U3⟩,⟨_,_,rfl,rfl,⟨_,_,rfl,rfl,⟨_,_,rfl,rfl,rfl⟩⟩⟩⟩⟩⟩⟩⟩ .nil)
 refine ⟨λ_=>(St.ldsX u i2 (Aa t1 Af)),?_⟩
 refine da1 (i:=7) (by kernel_rfl) ?_
 refine di (i:=7) rfl<|Cc (α:=api_Stmt) (xs:=C0.2.Out) (ys:=([C0.1]:List api_Stmt)) o rfl u underlying46 Nn rfl (by decide) rfl rfl rfl t3 U4 (u.rdO t0) P1 D5 λD3 X1 E3 w a F3 hU o=>?_
 replace u:=hU _ (.tail (.tail (.tail .head)))
 replace u:=u.drop .head
 refine ⟨λ_=>(St.ldsX u i2 (Aa t0 Af)),?_⟩
 refine ds 8 (St.ldsX u i2 (Aa t0 Af)) o rfl (Aj o rfl) λo=>ds 9 (St.ldsX u i2 (Aa t0 Af)) o rfl (Ag o Dv rfl) λo=>da1 (i:=10) (by kernel_rfl) ?_
 refine di (i:=10) rfl<|As o u sizeOf46 rfl rfl rfl rfl (.tail .head) (.succ (.succ (.succ (.succ .zero)))) λw u=>⟨λ_=>(St.ldsX u i2 (Aa t0 Af)),?_⟩
 refine de (by kernel_rfl)<|tn<|?_
 replace u:=u.pk [2,1,0] rfl
 exact ⟨C5,D3,X1,E3,hm,o.hs,u,F3⟩
 refine di (i:=6) rfl<|Bh (e:=51) (sz:=9) [i6 C0.1.Kind,Ac C0.1.Reg,Ac C0.1.Name,SL O0 C0.1.E F0,SL P0 C0.1.F G0,i6 C0.1.N,i6 C0.1.Body,i6 C0.1.Else,i6 C0.1.At] o rfl u rfl rfl rfl (λw=>by kernel_rfl) λG6 w a u o=>?_
 have P1:Rows (α:=api_Stmt) H44 [i6 C0.1.Kind,Ac C0.1.Reg,Ac C0.1.Name,SL O0 C0.1.E F0,SL P0 C0.1.F G0,i6 C0.1.N,i6 C0.1.Body,i6 C0.1.Else,i6 C0.1.At] ([C0.1]:List api_Stmt):=(.cons (c:=[i6 C0.1.Kind,Ac C0.1.Reg,Ac C0.1.Name,SL O0 C0.1.E F0,SL P0 C0.1.F G0,i6 C0.1.N,i6 C0.1.Body,i6 C0.1.Else,i6 C0.1.At]) ⟨_,_,rfl,rfl,⟨_,_,rfl,rfl,⟨_,_,rfl,rfl,⟨_,_,rfl,⟨_,_,rfl,R3,S3⟩,⟨_,_,rfl,⟨_,_,rfl,T3,U3⟩,⟨_,_,rfl,rfl,⟨_,_,rfl,rfl,⟨_,_,rfl,rfl,rfl⟩⟩⟩⟩⟩⟩⟩⟩ .nil)
 refine ⟨λ_=>(St.ldsX u i2 (Aa t1 Af)),?_⟩
 refine da1 (i:=4) (by kernel_rfl) ?_
 refine di (i:=4) rfl<|q1 o rfl (Ah o isAgg46 rfl (u.ld.cellB t2 rfl)) λa o=>⟨λ_=>(St.ldsX u i2 (Aa t1 Af)),?_⟩
 refine da1 (i:=7) (by kernel_rfl) ?_
 refine di (i:=7) rfl<|Cc (α:=api_Stmt) (xs:=C0.2.Out) (ys:=([C0.1]:List api_Stmt)) o rfl u underlying46 Nn rfl (by decide) rfl rfl rfl t3 U4 (u.rdO t0) P1 D5 λD3 X1 E3 w a F3 hU o=>?_
 replace u:=hU _ (.tail (.tail (.tail .head)))
 replace u:=u.drop .head
 refine ⟨λ_=>(St.ldsX u i2 (Aa t0 Af)),?_⟩
 refine ds 8 (St.ldsX u i2 (Aa t0 Af)) o rfl (Aj o rfl) λo=>ds 9 (St.ldsX u i2 (Aa t0 Af)) o rfl (Ag o Dv rfl) λo=>da1 (i:=10) (by kernel_rfl) ?_
 refine di (i:=10) rfl<|As o u sizeOf46 rfl rfl rfl rfl (.tail .head) (.succ (.succ (.succ (.succ .zero)))) λw u=>⟨λ_=>(St.ldsX u i2 (Aa t0 Af)),?_⟩
 refine de (by kernel_rfl)<|tn<|?_
 replace u:=u.pk [2,1,0] rfl
 exact ⟨C5,D3,X1,E3,hm,o.hs,u,F3⟩
 rintro a w ⟨J0,I0,D0,C1,hm,o,u,E5⟩
 unfold Z3l at hm
 refine th<|th<|rg<|qm o rfl λo=>qv o (Bu o rfl rfl) λo=>qm o rfl λo=>gr (Fk:=[(0,PT b2),(1,i6 p12),(2,i6 p13),(6,i6 Q0),(9,PT V1),(10,i6 (C0.2.Out.length:Int)),(79,.bool ((decide (Q0≠11)) && (decide (Q0≠12))))]) 76 3 o u ?_ ?_ ?_
 intro hb o key
 exact qg o (Ab o rfl) λo=>qg o (Bu o rfl rfl) λo=>qk o (Ad o rfl rfl) key u hb
 intro hb o key
 iterate 2 refine qn o λo=>?_
 exact qk o (Ae o rfl rfl) key u hb
 intro a w o u
 refine re<|?_
 rcases bit hm with ⟨V4,hm⟩ | ⟨V4,hm⟩
 refine tn<|ctv o rfl V4<|th<|?_
 obtain ⟨T8,J8,hm⟩:=bs hm
 refine rg<|qm o rfl λo=>?_
 replace u:=u.pk [1,0,0] rfl
 replace u:=St.sep [bk b2 [SL C2 C0.2.L J1,i6 C0.2.At,i6 C0.2.E,i6 C0.2.Pos,SL I0 J0 D0] 171,sla 51 9 I0 J0.length D0 C1] u
 refine ls<|c1 o rfl call161 (Hj (St.le u) (p1:=(leadlineref04_P.mk C0.2.L C0.2.At C0.2.E C0.2.Pos J0)) (b2:=b2) (oa3:=C2) (cap4:=J1) (oa7:=I0) (cap8:=D0) (vs9:=C1) A5 B5 E5 (St.sepOk u) (St.sepDis u) J8) ⟨rfl,rfl,trivial⟩ (λv w a hR o=>?_)
 obtain ⟨H80,M7,Y5,O7,d5,P7,rfl,Q7,R7,S7,V3,T7,hd79,hk⟩:=hR
 obtain ⟨u,V3⟩:=And.intro (St.mutH u hk V3 T7 hd79) (St.extcMM u V3)
 replace u:=u.unsep
 refine re<|tn<|wr<|tr<|?_
 obtain rfl:=si hm
 exact r0 o results160 ⟨H80,M7,Y5,O7,d5,P7,rfl,Q7,R7,S7,(ExtM.trans C3 V3),(St.le u),(St.disL (u.pickL (.cons .head (.cons .head .nil)))),(u.pickL (.cons .head (.cons .head .nil))).endMut⟩
 refine tn<|cfv o rfl V4<|wk<|tn<|th<|rg<|qm o rfl λo=>qa o rfl λo=>re<|tn<|th<|th<|rg<|qm o rfl λo=>qv o (Am o rfl rfl) λo=>re<|tn<|Ay (λa w=>∃ (p0:Int),(Z3m (Z36 N) N p12 Q0 C0 J0) p0=some r∧Fr 134 [(0,PT b2),(1,i6 p12),(6,i6 Q0),(9,PT V1),(10,i6 (C0.2.Out.length:Int)),(11,i6 p0)] a∧St w0 (sepA [bk b2 [SL oa3 p1.L cap4,i6 p1.At,i6 p1.E,i6 p1.Pos,SL oa7 p1.Out cap8] 171,sla 51 9 oa7 p1.Out.length cap8 vs9]).fp [H44] [sla 51 9 I0 J0.length D0 C1,bk b2 [SL C2 C0.2.L J1,i6 C0.2.At,i6 C0.2.E,i6 C0.2.Pos,SL I0 J0 D0] 171,bk V1 [i6 C0.1.Kind,Ac C0.1.Reg,Ac C0.1.Name,SL O0 C0.1.E F0,SL P0 C0.1.F G0,i6 C0.1.N,i6 C0.1.Body,i6 C0.1.Else,i6 C0.1.At] 51] w) ?_ ?_
 rcases bip hm with ⟨W4,hm⟩ | ⟨W4,hm⟩
 refine ctv o rfl W4<|rg<|qm o rfl λo=>qv o (Ao o rfl rfl) λo=>qa o rfl λo=>re<|tn<|?_
 exact ⟨(IntKind.i64.wrap (p13+1)),hm,o.hs,u⟩
 refine cfv o rfl W4<|wk<|tn<|?_
 exact ⟨p13,hm,o.hs,u⟩
 rintro a w ⟨p0,hm,o,u⟩
 unfold Z3m at hm
 refine th<|?_
 obtain ⟨E0,K8,hm⟩:=bs hm
 refine rg<|qm o rfl λo=>qm o rfl λo=>qv o (Ao o rfl rfl) λo=>qm o rfl λo=>?_
 replace u:=u.pk [1,0,0] rfl
 replace u:=St.sep [bk b2 [SL C2 C0.2.L J1,i6 C0.2.At,i6 C0.2.E,i6 C0.2.Pos,SL I0 J0 D0] 171,sla 51 9 I0 J0.length D0 C1] u
 refine ls<|c1 o rfl call169 (ih_Z36 (St.le u) (p1:=(leadlineref04_P.mk C0.2.L C0.2.At C0.2.E C0.2.Pos J0)) (b2:=b2) (oa3:=C2) (cap4:=J1) (oa7:=I0) (cap8:=D0) (vs9:=C1) A5 B5 E5 (St.sepOk u) (St.sepDis u) K8) ⟨rfl,rfl,rfl,trivial⟩ (λv w a hR o=>?_)
 obtain ⟨H96,W3,Q2,M1,X0,R2,rfl,X4,X3,j4,E2,U7,hd95,hk⟩:=hR
 obtain ⟨u,E2⟩:=And.intro (St.mutH u hk E2 U7 hd95) (St.extcMM u E2)
 replace u:=u.unsep
 refine qv o (Ag o Fx rfl) λo=>ls<|As o u sizeOf3 rfl rfl rfl rfl (.tail (.tail .head)) (.succ (.succ (.succ (.succ (.succ (.succ .zero)))))) λw u=>re<|tn<|th<|th<|Ay (λa w=>∃ (Y0:Bool),(Z3n (Z36 N) N p12 C0 p0 E0) Y0=some r∧Fr 134 [(0,PT b2),(1,i6 p12),(9,PT V1),(10,i6 (C0.2.Out.length:Int)),(11,i6 p0),(112,.bool Y0)] a∧St w0 (sepA [bk b2 [SL oa3 p1.L cap4,i6 p1.At,i6 p1.E,i6 p1.Pos,SL oa7 p1.Out cap8] 171,sla 51 9 oa7 p1.Out.length cap8 vs9]).fp [H96] [sla 51 9 M1 E0.2.Out.length X0 R2,bk b2 [SL W3 E0.2.L Q2,i6 E0.2.At,i6 E0.2.E,i6 E0.2.Pos,SL M1 E0.2.Out X0] 171,bk V1 [i6 C0.1.Kind,Ac C0.1.Reg,Ac C0.1.Name,SL O0 C0.1.E F0,SL P0 C0.1.F G0,i6 C0.1.N,i6 E0.1,i6 C0.1.Else,i6 C0.1.At] 51] w) ?_ ?_
 rcases bip hm with ⟨T2,hm⟩ | ⟨T2,hm⟩
 rcases bip hm with ⟨Y3,hm⟩ | ⟨Y3,hm⟩
 obtain ⟨V7,W7,hm⟩:=bs hm
 refine rdS 20 u wide λw u=>dr 0 u o rfl (Ab o rfl) λo=>dr 1 u o rfl (Am o rfl rfl) λo=>dr 2 u o rfl (An (Ab o rfl) (congrArg Value.bool T2)) λo=>dg 3 u.ld o rfl (λw hl=>Ab o rfl) λo=>dg 4 u.ld o rfl (λw hl=>Aj o rfl) λo=>dg 5 u.ld o rfl (λw hl=>Ag o Bs rfl) λo=>dg 6 u.ld o rfl (λw hl=>Ah o isAgg29 rfl (hl.cellB t0 rfl)) λo=>dg 7 u.ld o rfl (λw hl=>Am o rfl rfl) λo=>dr 8 u o rfl (Ad o rfl rfl) λo=>dr 9 u o rfl (An (Ab o rfl) (congrArg Value.bool Y3)) λo=>dg 10 u.ld o rfl (λw hl=>Ab o rfl) λo=>dg 11 u.ld o rfl (λw hl=>Aj o rfl) λo=>dg 12 u.ld o rfl (λw hl=>Ag o Br rfl) λo=>dg 13 u.ld o rfl (λw hl=>Ah o isAgg120 rfl (hl.cellB t0 rfl)) λo=>dg 14 u.ld o rfl (λw hl=>Ab o rfl) λo=>dg 15 u.ld o rfl (λw hl=>Aj o rfl) λo=>dg 16 u.ld o rfl (λw hl=>Ag o Be rfl) λo=>dg 17 u.ld o rfl (λw hl=>Ah o isAgg3 rfl (hl.cellB t0 rfl)) λo=>da1 (i:=18) (by kernel_rfl) ?_
 refine di (i:=18) rfl<|gy o rfl rfl<|cr o call139 (Fe (Ai _) X4 (St.srH u X3) W7) u λu o=>⟨λ_=>u.ld,?_⟩
 refine dr 19 u o rfl (Ad o rfl rfl) λo=>de (by kernel_rfl)<|tn<|?_
 replace u:=u.pk [1,0,0] rfl
 exact ⟨V7,hm,o.hs,u⟩
 refine rxS 20 u wide (by kernel_rfl) λw u=>xm u o rfl λo=>xr u o (Am o rfl rfl) λo=>xr u o (An (Ab o rfl) (congrArg Value.bool T2)) λo=>xg u.ld o (λw hl=>Ab o rfl) λo=>xg u.ld o (λw hl=>Aj o rfl) λo=>xg u.ld o (λw hl=>Ag o Bs rfl) λo=>xg u.ld o (λw hl=>Ah o isAgg29 rfl (hl.cellB t0 rfl)) λo=>xg u.ld o (λw hl=>Am o rfl rfl) λo=>xr u o (Ad o rfl rfl) λo=>xr u o (An (Ab o rfl) (congrArg Value.bool Y3)) λo=>?_
 iterate 9 refine xn u.ld o λo=>?_
 refine xr u o (Ae o rfl rfl) λo=>xe<|tn<|?_
 replace u:=u.pk [1,0,0] rfl
 exact ⟨false,hm,o.hs,u⟩
 refine rxS 20 u wide (by kernel_rfl) λw u=>xm u o rfl λo=>xr u o (Am o rfl rfl) λo=>xr u o (An (Ab o rfl) (congrArg Value.bool T2)) λo=>?_
 iterate 5 refine xn u.ld o λo=>?_
 refine xr u o (Ae o rfl rfl) λo=>xm u o rfl λo=>?_
 iterate 9 refine xn u.ld o λo=>?_
 refine xr u o (Ae o rfl rfl) λo=>xe<|tn<|?_
 replace u:=u.pk [1,0,0] rfl
 exact ⟨false,hm,o.hs,u⟩
 rintro a w ⟨Y0,hm,o,u⟩
 unfold Z3n at hm
 refine Ay (λa w=>∃ (F2:(List api_Token)) (l3:Int) (S0:Int) (A4:Int) (G3:(List api_Stmt)) (K0:Int) (Q1:PH) (Y1:Option Addr) (E1:Nat) (B2:Option Addr) (F1:Nat) (B4:List Value),(Z3o N C0 E0) F2 l3 S0 A4 G3 K0=some r∧ExtM w0 (sepA [bk b2 [SL oa3 p1.L cap4,i6 p1.At,i6 p1.E,i6 p1.Pos,SL oa7 p1.Out cap8] 171,sla 51 9 oa7 p1.Out.length cap8 vs9]).fp H96 Q1∧Fr 134 [(0,PT b2),(9,PT V1),(10,i6 (C0.2.Out.length:Int))] a∧St w0 (sepA [bk b2 [SL oa3 p1.L cap4,i6 p1.At,i6 p1.E,i6 p1.Pos,SL oa7 p1.Out cap8] 171,sla 51 9 oa7 p1.Out.length cap8 vs9]).fp [Q1] [sla 51 9 B2 G3.length F1 B4,bk b2 [SL Y1 F2 E1,i6 l3,i6 S0,i6 A4,SL B2 G3 F1] 171,bk V1 [i6 C0.1.Kind,Ac C0.1.Reg,Ac C0.1.Name,SL O0 C0.1.E F0,SL P0 C0.1.F G0,i6 C0.1.N,i6 E0.1,i6 K0,i6 C0.1.At] 51] w∧F2.length≤E1∧SR Q1 Y1 F2∧Rows Q1 B4 G3) ?_ ?_
 rcases bit hm with ⟨C4,hm⟩ | ⟨C4,hm⟩
 refine ctv o rfl C4<|th<|rg<|qm o rfl λo=>qm o rfl λo=>qv o (Aj o rfl) λo=>qv o (Ag o Be rfl) λo=>qv o (Ah o isAgg3 rfl (u.ld.cellB t1 rfl)) λo=>qv o (Ao o rfl rfl) λo=>qv o (Aj o rfl) λo=>qv o (Ag o Be rfl) λo=>ls<|As o u sizeOf3 rfl rfl rfl rfl (.tail .head) (.succ .zero) λw u=>re<|tn<|?_
 obtain ⟨G2,X7,hm⟩:=bs hm
 refine rg<|qm o rfl λo=>qm o rfl λo=>qv o (Ao o rfl rfl) λo=>qm o rfl λo=>?_
 replace u:=u.pk [1,0,0] rfl
 replace u:=St.sep [bk b2 [SL W3 E0.2.L Q2,i6 (IntKind.i64.wrap (E0.2.At+1)),i6 E0.2.E,i6 E0.2.Pos,SL M1 E0.2.Out X0] 171,sla 51 9 M1 E0.2.Out.length X0 R2] u
 refine ls<|c1 o rfl call169 (ih_Z36 (St.le u) (p1:=(leadlineref04_P.mk E0.2.L (IntKind.i64.wrap (E0.2.At+1)) E0.2.E E0.2.Pos E0.2.Out)) (b2:=b2) (oa3:=W3) (cap4:=Q2) (oa7:=M1) (cap8:=X0) (vs9:=R2) X4 X3 j4 (St.sepOk u) (St.sepDis u) X7) ⟨rfl,rfl,rfl,trivial⟩ (λv w a hR o=>?_)
 obtain ⟨H116,j5,F5,k5,G5,n5,rfl,u5,A6,B6,U2,C6,hd115,hk⟩:=hR
 obtain ⟨u,U2⟩:=And.intro (St.mutH u hk U2 C6 hd115) (St.extcMM u U2)
 replace u:=u.unsep
 refine qv o (Ag o Iq rfl) λo=>ls<|As o u sizeOf3 rfl rfl rfl rfl (.tail (.tail .head)) (.succ (.succ (.succ (.succ (.succ (.succ (.succ .zero))))))) λw u=>re<|tn<|?_
 replace u:=u.pk [1,0,0] rfl
 exact ⟨G2.2.L,G2.2.At,G2.2.E,G2.2.Pos,G2.2.Out,G2.1,H116,j5,F5,k5,G5,n5,hm,U2,o.hs,u,u5,A6,B6⟩
 refine cfv o rfl C4<|wk<|tn<|?_
 exact ⟨E0.2.L,E0.2.At,E0.2.E,E0.2.Pos,E0.2.Out,C0.1.Else,H96,W3,Q2,M1,X0,R2,hm,(ExtM.refl _ _ _),o.hs,u,X4,X3,j4⟩
 rintro a w ⟨F2,l3,S0,A4,G3,K0,Q1,Y1,E1,B2,F1,B4,hm,I3,o,u,hcA15,hrA16,k4⟩
 unfold Z3o at hm
 obtain ⟨P8,I5,hm⟩:=bs hm
 have D6:=Rd.oaI (u.rdO t0) k4 (by decide) I5
 obtain ⟨Y7,J5,hm⟩:=bs hm
 refine rxS 7 u wide (by kernel_rfl) λw u=>xm u o rfl λo=>xr u o (Aj o rfl) λo=>xr u o (Ag o Dv rfl) λo=>xq u.ld o (λw hl=>Ah o isAgg46 rfl (hl.cellB t1 rfl)) λo=>xm u o rfl λo=>xq u.ld o (λw hl=>Ar o isAgg51 sizeOf51 rfl rfl (hl.cellsB t2)) λo=>xr u o (Aq o runUnderlying46 sizeOf51 rfl rfl I5 D6) λo=>?_
 have hn133:=Vf J5
 refine xz rfl<|Ja4 (α:=api_Stmt) o u sizeOf51 rfl rfl rfl k4 (show Enc.rep (α:=api_Stmt) Q1 [i6 C0.1.Kind,Ac C0.1.Reg,Ac C0.1.Name,SL O0 C0.1.E F0,SL P0 C0.1.F G0,i6 C0.1.N,i6 E0.1,i6 K0,i6 C0.1.At] (api_Stmt.mk C0.1.Kind C0.1.Reg C0.1.Name C0.1.E C0.1.F C0.1.N E0.1 K0 C0.1.At) from ⟨_,_,rfl,rfl,⟨_,_,rfl,rfl,⟨_,_,rfl,rfl,⟨_,_,rfl,⟨_,_,rfl,R3,(S3.mono (cp I3.sub E2.sub))⟩,⟨_,_,rfl,⟨_,_,rfl,T3,(U3.mono (cp I3.sub E2.sub))⟩,⟨_,_,rfl,rfl,⟨_,_,rfl,rfl,⟨_,_,rfl,rfl,rfl⟩⟩⟩⟩⟩⟩⟩⟩) J5 t0 λE6 w F6 hU=>?_
 replace u:=hU _ .head
 replace u:=St.eqL u (A':=bk b2 [SL Y1 F2 E1,i6 l3,i6 S0,i6 A4,SL B2 Y7 F1] 171) (.tail .head) (by simp only [SL,hn133])
 obtain rfl:=si hm
 exact r0n o results160 ⟨Q1,Y1,E1,B2,F1,E6,rfl,hcA15,hrA16,F6,(ExtM.trans C3 (ExtM.trans E2 I3)),(St.le u),(St.disL (u.pickL (.cons (.tail .head) (.cons .head .nil)))),(u.pickL (.cons (.tail .head) (.cons .head .nil))).endMut⟩
theorem Jbh:∀ (N:Nat) {w0:World} {H:PH} (_:H.le w0) {b2:Nat} {p1:leadlineref04_P} {oa3:Option Addr} {cap4:Nat} (_:p1.L.length≤cap4) (_:SR H oa3 p1.L) {oa7:Option Addr} {cap8:Nat} {vs9:List Value} (_:Rows H vs9 p1.Out) {p12:Int} {p13:Int} (_:(sepA [bk b2 [SL oa3 p1.L cap4,i6 p1.At,i6 p1.E,i6 p1.Pos,SL oa7 p1.Out cap8] 171,sla 51 9 oa7 p1.Out.length cap8 vs9]).ok (hp w0)) (_:∀ b,(sepA [bk b2 [SL oa3 p1.L cap4,i6 p1.At,i6 p1.E,i6 p1.Pos,SL oa7 p1.Out cap8] 171,sla 51 9 oa7 p1.Out.length cap8 vs9]).fp b→H b=none) {r:leadlineref04_P} (_:Z3h N p1 p12 p13=some r),Tot Tryz.prog 160 #[PT b2,i6 p12,i6 p13] w0 (λv w'=>∃ (H':PH) (oa1m:Option Addr) (cap1m:Nat) (oa2m:Option Addr) (cap2m:Nat) (vs2m:List Value),v=.tuple #[]∧r.L.length≤cap1m∧SR H' oa1m r.L∧Rows H' vs2m r.Out∧ExtM w0 (sepA [bk b2 [SL oa3 p1.L cap4,i6 p1.At,i6 p1.E,i6 p1.Pos,SL oa7 p1.Out cap8] 171,sla 51 9 oa7 p1.Out.length cap8 vs9]).fp H H'∧H'.le w'∧(∀ b,(sepA [bk b2 [SL oa1m r.L cap1m,i6 r.At,i6 r.E,i6 r.Pos,SL oa2m r.Out cap2m] 171,sla 51 9 oa2m r.Out.length cap2m vs2m]).fp b→H' b=none)∧Mut w0 (sepA [bk b2 [SL oa3 p1.L cap4,i6 p1.At,i6 p1.E,i6 p1.Pos,SL oa7 p1.Out cap8] 171,sla 51 9 oa7 p1.Out.length cap8 vs9]) (sepA [bk b2 [SL oa1m r.L cap1m,i6 r.At,i6 r.E,i6 r.Pos,SL oa2m r.Out cap2m] 171,sla 51 9 oa2m r.Out.length cap2m vs2m]) w'):=λN=>(Jaw N).2
theorem JaG (hH:H.le w0) {R0:Option Addr} {G0:Nat} {p1:(List api_Token)} (U2:p1.length≤G0) (Q1:SR H R0 p1) {p6:Int} {p7:Int} {r:((List api_Stmt)×Int×Int×Int)} (hm:Z3w N p1 p6 p7=some r):Tot Tryz.prog 141 #[SL R0 p1 G0,i6 p6,i6 p7] w0 (λv w'=>∃ (H':PH) (B2:Option Addr) (R1:Nat),v=.tuple #[SL B2 r.1 R1,i6 r.2.1,i6 r.2.2.1,i6 r.2.2.2]∧r.1.length≤R1∧SR H' B2 r.1∧Ext w0 H H'∧H'.le w'∧Keep Nil w0 w'):=by
 unfold Z3w at hm
 refine fn0 func141 rfl ntmps141 rfl rfl λa o=>?_
 have u:St w0 Nil [H] [] w0:=start1 hH
 refine th<|rg<|qa o rfl λo=>?_
 iterate 3 refine qa o rfl λo=>?_
 refine re<|tn<|th<|rg<|qm o rfl λo=>qm o rfl λo=>qv o (Bi [SL R0 p1 G0,i6 p6] [SL R0 p1 G0,i6 p6,i6 0,i6 0,.slice none 0 0] o ⟨rfl,rfl,trivial⟩ (λw=>by kernel_rfl)) λo=>ls<|Bz (cs:=[SL R0 p1 G0,i6 p6,i6 0,i6 0,.slice none 0 0].toArray) o rfl u rfl rfl λb8 w a u o=>qa o rfl λo=>re<|tn<|th<|Ay (λa w=>∃ (Y0:(List api_Token)) (B1:Int) (C1:Int) (E1:Int) (K0:(List api_Stmt)) (F1:PH) (j0:Option Addr) (S0:Nat) (M0:Option Addr) (F0:Nat) (T0:List Value),(Z3x N p1 p7) Y0 B1 C1 E1 K0=some r∧Ext w0 H F1∧Fr 68 [(0,SL R0 p1 G0),(2,i6 p7),(10,PT b8)] a∧St w0 Nil [F1] [sla 51 9 M0 K0.length F0 T0,bk b8 [SL j0 Y0 S0,i6 B1,i6 C1,i6 E1,SL M0 K0 F0] 171] w∧Y0.length≤S0∧SR F1 j0 Y0∧Rows F1 T0 K0) ?_ ?_
 replace u:=u.nilS 51 9
 refine wb<|lp (α:=Nat×(List api_Token)×Int×Int×Int×(List api_Stmt)) (λgh a w=>match gh with | (p0,O0,U0,V0,W0,D0)=>∃ (n0:PH) (P0:Option Addr) (I0:Nat) (E0:Option Addr) (C0:Nat) (J0:List Value),(Z3z N (Z3x N p1 p7)) p0 O0 U0 V0 W0 D0=some r∧Ext w0 H n0∧Fr 68 [(0,SL R0 p1 G0),(2,i6 p7),(10,PT b8)] a∧St w0 Nil [n0] [sla 51 9 E0 D0.length C0 J0,bk b8 [SL P0 O0 I0,i6 U0,i6 V0,i6 W0,SL E0 D0 C0] 171] w∧O0.length≤I0∧SR n0 P0 O0∧Rows n0 J0 D0) (λgh=>gh.1) (N,p1,p6,0,0,[]) ⟨H,R0,G0,none,0,[],hm,(Ext.refl _ _),o.hs,u,U2,Q1,.nil⟩ ?_
 rintro ⟨p0,O0,U0,V0,W0,D0⟩ a w ⟨n0,P0,I0,E0,C0,J0,hm,O1,o,u,hcB5,hrB6,P1⟩
 obtain _ | p0:=p0
 simp [Z3z] at hm
 rw [Z3z] at hm
 refine th<|th<|Ay (λa w=>∃ (S1:Bool),(Z3y N (Z3x N p1 p7) (Z3z N (Z3x N p1 p7) p0) O0 U0 V0 W0 D0) S1=some r∧Fr 68 [(0,SL R0 p1 G0),(2,i6 p7),(10,PT b8),(31,.bool S1)] a∧St w0 Nil [n0] [sla 51 9 E0 D0.length C0 J0,bk b8 [SL P0 O0 I0,i6 U0,i6 V0,i6 W0,SL E0 D0 C0] 171] w) ?_ ?_
 rcases bip hm with ⟨T1,hm⟩ | ⟨T1,hm⟩
 obtain ⟨V2,W2,hm⟩:=bs hm
 refine rdS 17 u wide λw u=>dr 0 u o rfl (Ab o rfl) λo=>dr 1 u o rfl (Aj o rfl) λo=>dr 2 u o rfl (Ag o Bs rfl) λo=>dq 3 u.ld o rfl (λw hl=>Ah o isAgg29 rfl (hl.cellB t1 rfl)) λo=>dr 4 u o rfl (Am o rfl rfl) λo=>dr 5 u o rfl (An (Ab o rfl) (congrArg Value.bool T1)) λo=>dg 6 u.ld o rfl (λw hl=>Ab o rfl) λo=>dg 7 u.ld o rfl (λw hl=>Aj o rfl) λo=>dg 8 u.ld o rfl (λw hl=>Ag o Br rfl) λo=>dg 9 u.ld o rfl (λw hl=>Ah o isAgg120 rfl (hl.cellB t1 rfl)) λo=>dg 10 u.ld o rfl (λw hl=>Ab o rfl) λo=>dg 11 u.ld o rfl (λw hl=>Aj o rfl) λo=>dg 12 u.ld o rfl (λw hl=>Ag o Be rfl) λo=>dg 13 u.ld o rfl (λw hl=>Ah o isAgg3 rfl (hl.cellB t1 rfl)) λo=>da1 (i:=14) (by kernel_rfl) ?_
 refine di (i:=14) rfl<|gy o rfl rfl<|cr o call139 (Fe (Ai _) hcB5 (St.srH u hrB6) W2) u λu o=>⟨λ_=>u.ld,?_⟩
 refine dg 15 u.ld o rfl (λw hl=>Bc o rfl) λo=>dr 16 u o rfl (Ad o rfl rfl) λo=>de (by kernel_rfl)<|tn<|?_
 exact ⟨(!V2),hm,o.hs,u⟩
 refine rxS 17 u wide (by kernel_rfl) λw u=>xm u o rfl λo=>xr u o (Aj o rfl) λo=>xr u o (Ag o Bs rfl) λo=>xq u.ld o (λw hl=>Ah o isAgg29 rfl (hl.cellB t1 rfl)) λo=>xr u o (Am o rfl rfl) λo=>xr u o (An (Ab o rfl) (congrArg Value.bool T1)) λo=>?_
 iterate 10 refine xn u.ld o λo=>?_
 refine xr u o (Ae o rfl rfl) λo=>xe<|tn<|?_
 exact ⟨false,hm,o.hs,u⟩
 rintro a w ⟨S1,hm,o,u⟩
 unfold Z3y at hm
 rcases bit hm with ⟨I1,hm⟩ | ⟨I1,hm⟩
 refine ctv o rfl I1<|wk<|tn<|wb<|?_
 obtain ⟨G1,X2,hm⟩:=bs hm
 refine rg<|qm o rfl λo=>?_
 replace u:=u.pk [1,0] rfl
 replace u:=St.sep [bk b8 [SL P0 O0 I0,i6 U0,i6 V0,i6 W0,SL E0 D0 C0] 171,sla 51 9 E0 D0.length C0 J0] u
 refine ls<|c1 o rfl call160 (Jbh _ (St.le u) (p1:=(leadlineref04_P.mk O0 U0 V0 W0 D0)) (b2:=b8) (oa3:=P0) (cap4:=I0) (oa7:=E0) (cap8:=C0) (vs9:=J0) hcB5 hrB6 P1 (St.sepOk u) (St.sepDis u) X2) ⟨rfl,rfl,rfl,trivial⟩ (λv w a hR o=>?_)
 obtain ⟨H18,C2,V1,E2,X1,F2,rfl,G2,I2,J2,u0,K2,hd17,hk⟩:=hR
 obtain ⟨u,u0⟩:=And.intro (St.mutH u hk u0 K2 hd17) (St.extc0 u u0)
 replace u:=u.unsep
 refine re<|bn<|tn<|?_
 replace u:=u.pk [1,0] rfl
 exact ⟨(p0,G1.L,G1.At,G1.E,G1.Pos,G1.Out),⟨H18,C2,V1,E2,X1,F2,hm,(Ext.trans O1 u0),o.hs,u,G2,I2,J2⟩,Nat.lt_succ_self _⟩
 refine cfv o rfl I1<|we<|tx<|tx<|bx<|tn<|?_
 exact ⟨O0,U0,V0,W0,D0,n0,P0,I0,E0,C0,J0,hm,O1,o.hs,u,hcB5,hrB6,P1⟩
 rintro a w ⟨Y0,B1,C1,E1,K0,F1,j0,S0,M0,F0,T0,hm,X0,o,u,hcA5,hrA6,Y1⟩
 unfold Z3x at hm
 refine th<|?_
 obtain ⟨Y2,A3,hm⟩:=bs hm
 refine rg<|qm o rfl λo=>?_
 replace u:=u.pk [1,0] rfl
 replace u:=St.sep [bk b8 [SL j0 Y0 S0,i6 B1,i6 C1,i6 E1,SL M0 K0 F0] 171,sla 51 9 M0 K0.length F0 T0] u
 refine ls<|c1 o rfl call161 (Hj (St.le u) (p1:=(leadlineref04_P.mk Y0 B1 C1 E1 K0)) (b2:=b8) (oa3:=j0) (cap4:=S0) (oa7:=M0) (cap8:=F0) (vs9:=T0) hcA5 hrA6 Y1 (St.sepOk u) (St.sepDis u) A3) ⟨rfl,rfl,trivial⟩ (λv w a hR o=>?_)
 obtain ⟨H33,E3,C3,F3,D3,G3,rfl,I3,J3,M2,Q0,O2,hd32,hk⟩:=hR
 obtain ⟨u,Q0⟩:=And.intro (St.mutH u hk Q0 O2 hd32) (St.extc0 u Q0)
 replace u:=u.unsep
 refine re<|tn<|th<|th<|rg<|qm o rfl λo=>qv o (Aj o rfl) λo=>qv o (Ag o Bs rfl) λo=>qv o (Ah o isAgg29 rfl (u.ld.cellB t0 rfl)) λo=>qv o (Bu o rfl rfl) λo=>re<|?_
 rcases bip hm with ⟨J1,hm⟩ | ⟨J1,hm⟩
 refine tn<|ctv o rfl J1<|th<|rxS 12 u wide (by kernel_rfl) λw u=>xm u o rfl λo=>xr u o (Aj o rfl) λo=>xr u o (Ag o Bs rfl) λo=>xq u.ld o (λw hl=>Ah o isAgg29 rfl (hl.cellB t0 rfl)) λo=>xm u o rfl λo=>xr u o (Aj o rfl) λo=>xr u o (Ag o Fj rfl) λo=>xq u.ld o (λw hl=>Ah o isAgg3 rfl (hl.cellB t0 rfl)) λo=>?_
 iterate 4 refine xq u.ld o (λw hl=>Bo o rfl) λo=>?_
 refine xe<|tn<|wr<|tr<|?_
 obtain rfl:=si hm
 exact Go.LM.r4 o results141 rfl rfl rfl rfl ⟨H33,_,_,rfl,(Nat.le_refl 0),(SR.nil _ _),(Ext.trans X0 Q0),(St.le u),u.keep⟩
 refine tn<|cfv o rfl J1<|wk<|tn<|th<|th<|rg<|qm o rfl λo=>qv o (Aj o rfl) λo=>qv o (Ag o Dv rfl) λo=>qv o (Ah o isAgg46 rfl (u.ld.cellB t0 rfl)) λo=>qv o (Al (α:=api_Stmt) (xs:=Y2.Out) o runUnderlying46 rfl) λo=>qv o (Bn o rfl rfl) λo=>re<|?_
 rcases bip hm with ⟨M1,hm⟩ | ⟨M1,hm⟩
 refine tn<|ctv o rfl M1<|th<|?_
 obtain ⟨K3,U1,hm⟩:=bs hm
 obtain ⟨L3,B3,P2⟩:=SR.get Q1 U1
 obtain rfl:=Ba B3
 refine rxS 9 u wide (by kernel_rfl) λw u=>?_
 iterate 2 refine xq u.ld o (λw hl=>Ab o rfl) λo=>?_
 refine xr u o (Aq o runUnderlying120 sizeOf130 rfl rfl U1 (SR.oaI Q1 (by decide) U1)) λo=>xr u o (Ag o Da rfl) λo=>xq u.ld o (λw hl=>Ah o isAgg3 rfl (PH.le.cell (λb o hx=>(Lds.le hl) b o ((cp Q0.sub X0.sub) b o hx)) (P2 3 _ rfl))) λo=>?_
 iterate 4 refine xq u.ld o (λw hl=>Bo o rfl) λo=>?_
 refine xe<|tn<|wr<|tr<|?_
 obtain rfl:=si hm
 exact Go.LM.r4 o results141 rfl rfl rfl rfl ⟨H33,_,_,rfl,(Nat.le_refl 0),(SR.nil _ _),(Ext.trans X0 Q0),(St.le u),u.keep⟩
 refine tn<|cfv o rfl M1<|wk<|tn<|th<|rxS 12 u wide (by kernel_rfl) λw u=>xm u o rfl λo=>xr u o (Aj o rfl) λo=>xr u o (Ag o Dv rfl) λo=>xq u.ld o (λw hl=>Ah o isAgg46 rfl (hl.cellB t0 rfl)) λo=>xm u o rfl λo=>xr u o (Aj o rfl) λo=>xr u o (Ag o Be rfl) λo=>xq u.ld o (λw hl=>Ah o isAgg3 rfl (hl.cellB t0 rfl)) λo=>?_
 iterate 4 refine xq u.ld o (λw hl=>Bo o rfl) λo=>?_
 refine xe<|tn<|wr<|?_
 obtain ⟨H53,Q2,R2,T2,u⟩:=St.frzS u (.tail .head) M2
 obtain rfl:=si hm
 exact Go.LM.r4 o results141 rfl rfl rfl rfl ⟨H53,_,_,rfl,T2,R2,(Ext.trans X0 (Ext.trans Q0 Q2)),(St.le u),u.keep⟩
set_option maxHeartbeats 4000000 in
theorem Xp (hH:H.le w0) {b2:Nat} {p1:leadlineref05_In} {oa3:Option Addr} {cap4:Nat} (O3:p1.L.length≤cap4) (P3:SR H oa3 p1.L) {p7:Str} {W0:Option Addr} {K0:Nat} {p8:(List api_Stmt)} (R2:p8.length≤K0) (T2:SR H W0 p8) {p13:Int} (hO:(sepA [bk b2 [SL oa3 p1.L cap4,i6 p1.At,i6 p1.E,i6 p1.Pos] 125]).ok (hp w0)) (hD:∀ b,(sepA [bk b2 [SL oa3 p1.L cap4,i6 p1.At,i6 p1.E,i6 p1.Pos] 125]).fp b→H b=none) {r:(api_Thread×leadlineref05_In)} (hm:Z4t N p1 p7 p8 p13=some r):Tot Tryz.prog 105 #[PT b2,.agg #[Ac p7,.slice none 0 0,SL W0 p8 K0,i6 p13]] w0 (λv w'=>∃ (H':PH) (cs0:List Value) (oa1m:Option Addr) (cap1m:Nat),v=.agg cs0.toArray∧Enc.rep H' cs0 r.1∧r.2.L.length≤cap1m∧SR H' oa1m r.2.L∧ExtM w0 (sepA [bk b2 [SL oa3 p1.L cap4,i6 p1.At,i6 p1.E,i6 p1.Pos] 125]).fp H H'∧H'.le w'∧(∀ b,(sepA [bk b2 [SL oa1m r.2.L cap1m,i6 r.2.At,i6 r.2.E,i6 r.2.Pos] 125]).fp b→H' b=none)∧Mut w0 (sepA [bk b2 [SL oa3 p1.L cap4,i6 p1.At,i6 p1.E,i6 p1.Pos] 125]) (sepA [bk b2 [SL oa1m r.2.L cap1m,i6 r.2.At,i6 r.2.E,i6 r.2.Pos] 125]) w'):=by
 unfold Z4t at hm
 refine fn0 func105 rfl ntmps105 rfl rfl λa o=>?_
 have u:=Cg hH hO hD
 refine th<|rg<|ls<|Bz (cs:=[Ac p7,.slice none 0 0,SL W0 p8 K0,i6 p13].toArray) o rfl u rfl rfl λX0 w a u o=>ls<|Ap (cs:=[Ac [],.slice none 0 0,.slice none 0 0,i6 0].toArray) o rfl u zeroValue48 rfl λY0 w a u o=>re<|tn<|th<|rg<|qm o rfl λo=>qv o (Aj o rfl) λo=>qv o (Ag o Bg rfl) λo=>qv o (Ah o isAgg3 rfl (u.ld.cellB t2 rfl)) λo=>qa o rfl λo=>re<|tn<|th<|?_
 obtain ⟨C1,Q3,hm⟩:=bs hm
 refine rg<|qm o rfl λo=>?_
 replace u:=u.pk [2,0,0] rfl
 replace u:=St.sep [bk b2 [SL oa3 p1.L cap4,i6 p1.At,i6 p1.E,i6 p1.Pos] 125] u
 refine ls<|c1 o rfl call140 (Vg (St.le u) (p1:=p1) (b2:=b2) (oa3:=oa3) (cap4:=cap4) O3 P3 (St.sepOk u) (St.sepDis u) Q3) ⟨rfl,rfl,trivial⟩ (λv w a hR o=>?_)
 obtain ⟨E2,S1,rfl,U2,V2,hk⟩:=hR
 replace u:=(u.mut hk .head).unsep
 refine re<|tn<|th<|th<|?_
 obtain ⟨M0,R3,hm⟩:=bs hm
 refine rg<|qm o rfl λo=>?_
 replace u:=u.pk [0,0,0] rfl
 replace u:=St.sep [bk b2 [SL E2 C1.L S1,i6 C1.At,i6 C1.E,i6 C1.Pos] 125] u
 refine ls<|c1 o rfl call102 (Hm (St.le u) (p1:=C1) (b2:=b2) (oa3:=E2) (cap4:=S1) U2 V2 (St.sepOk u) (St.sepDis u) R3) ⟨rfl,rfl,trivial⟩ (λv w a hR o=>?_)
 obtain ⟨G1,j0,rfl,F2,G2,hk⟩:=hR
 replace u:=(u.mut hk .head).unsep
 refine re<|tn<|Ay (λa w=>∃ (S0:(List api_Token)) (T1:Int) (U1:Int) (V1:Int) (G0:(List Str)) (T0:Option Addr) (O0:Nat) (E0:Option Addr) (D0:Nat) (Q0:List Value),(Z4u N p1 p7 p8 p13) S0 T1 U1 V1 G0=some r∧Fr 73 [(0,PT b2),(3,PT X0),(4,PT Y0),(5,i6 p1.At)] a∧St w0 (sepA [bk b2 [SL oa3 p1.L cap4,i6 p1.At,i6 p1.E,i6 p1.Pos] 125]).fp [H] [bk b2 [SL T0 S0 O0,i6 T1,i6 U1,i6 V1] 125,sla 9 1 E0 G0.length D0 Q0,bk X0 [Ac p7,SL E0 G0 D0,SL W0 p8 K0,i6 p13] 48,bk Y0 [Ac [],.slice none 0 0,.slice none 0 0,i6 0] 48] w∧S0.length≤O0∧SR H T0 S0∧Rows H Q0 G0) ?_ ?_
 rcases bit hm with ⟨I1,hm⟩ | ⟨I1,hm⟩
 refine ctv o rfl I1<|th<|?_
 obtain ⟨F0,S3,hm⟩:=bs hm
 refine rg<|qm o rfl λo=>?_
 replace u:=u.pk [0,0,0] rfl
 replace u:=St.sep [bk b2 [SL G1 M0.2.L j0,i6 M0.2.At,i6 M0.2.E,i6 M0.2.Pos] 125] u
 refine ls<|c1 o rfl call103 (Sb (St.le u) (p1:=M0.2) (b2:=b2) (oa3:=G1) (cap4:=j0) F2 G2 (St.sepOk u) (St.sepDis u) S3) ⟨rfl,rfl,trivial⟩ (λv w a hR o=>?_)
 obtain ⟨I2,X1,W2,J2,Y1,rfl,n0,X2,Y2,hk⟩:=hR
 replace u:=(u.mut hk .head).unsep
 replace n0:=n0 H
 refine qa o rfl λo=>re<|tn<|th<|rg<|qa o rfl λo=>re<|?_
 replace u:=u.nilS 9 1
 replace u:=u.pk [1,0,2,1,0] rfl
 refine tn<|wb<|lp (α:=Nat×(List Str)×Int) (λgh a w=>match gh with | (E1,U0,B2)=>∃ (p0:Option Addr) (R0:Nat) (u0:List Value),(Z4w N (Z4u N p1 p7 p8 p13) F0) E1 U0 B2=some r∧Fr 73 [(0,PT b2),(3,PT X0),(4,PT Y0),(5,i6 p1.At),(6,SL I2 F0.1 X1),(7,i6 B2)] a∧St w0 (sepA [bk b2 [SL oa3 p1.L cap4,i6 p1.At,i6 p1.E,i6 p1.Pos] 125]).fp [H] [bk b2 [SL J2 F0.2.L Y1,i6 F0.2.At,i6 F0.2.E,i6 F0.2.Pos] 125,sla 9 1 p0 U0.length R0 u0,bk X0 [Ac p7,SL p0 U0 R0,SL W0 p8 K0,i6 p13] 48,bk Y0 [Ac [],.slice none 0 0,.slice none 0 0,i6 0] 48,sla 53 3 I2 F0.1.length X1 W2] w∧Rows H u0 U0) (λgh=>gh.1) (N,[],0) ⟨none,0,[],hm,o.hs,u,.nil⟩ ?_
 rintro ⟨E1,U0,B2⟩ a w ⟨p0,R0,u0,hm,o,u,K2⟩
 obtain _ | E1:=E1
 simp [Z4w] at hm
 rw [Z4w] at hm
 refine th<|th<|rg<|qm o rfl λo=>qm o rfl λo=>qv o (Al (α:=api_Cell) (xs:=F0.1) o runUnderlying23 rfl) λo=>qv o (Au o rfl rfl) λo=>re<|?_
 rcases bip hm with ⟨J1,hm⟩ | ⟨J1,hm⟩
 refine tn<|ctv o rfl J1<|wk<|tn<|th<|wb<|?_
 obtain ⟨F1,M2,hm⟩:=bs hm
 have A3:=Rd.oaI (u.rdO t4) n0 (by decide) M2
 obtain ⟨X3,T3,B3⟩:=Rows.getI n0 M2
 obtain rfl:=Bl T3
 obtain ⟨U3,V3,hm⟩:=bs hm
 refine rdL (Aa t0 (Aa t2 (Aa t3 (Aa t4 Af)))) 10 u wide λw u=>ds 0 (St.ldsX u i2 (Aa t0 (Aa t2 (Aa t3 (Aa t4 Af))))) o rfl (Ag o Dt rfl) λo=>dq 1 (St.ldsX u i2 (Aa t0 (Aa t2 (Aa t3 (Aa t4 Af))))) o rfl (λw hl=>Ah o isAgg36 rfl (hl.cellB t1 rfl)) λo=>ds 2 (St.ldsX u i2 (Aa t0 (Aa t2 (Aa t3 (Aa t4 Af))))) o rfl (Ab o rfl) λo=>ds 3 (St.ldsX u i2 (Aa t0 (Aa t2 (Aa t3 (Aa t4 Af))))) o rfl (Ab o rfl) λo=>ds 4 (St.ldsX u i2 (Aa t0 (Aa t2 (Aa t3 (Aa t4 Af))))) o rfl (Aq o runUnderlying23 sizeOf53 rfl rfl M2 A3) λo=>ds 5 (St.ldsX u i2 (Aa t0 (Aa t2 (Aa t3 (Aa t4 Af))))) o rfl (Ag o Ee rfl) λo=>dq 6 (St.ldsX u i2 (Aa t0 (Aa t2 (Aa t3 (Aa t4 Af))))) o rfl (λw hl=>Ah o isAgg9 rfl (hl.elO2 t3 (B3 0 _ rfl))) λo=>da1 (i:=7) (by kernel_rfl) ?_
 refine di (i:=7) rfl<|Bh (e:=9) (sz:=1) [Ac F1.Name] o rfl u rfl rfl rfl (λw=>by kernel_rfl) λY3 w a u o=>?_
 have C3:Rows (α:=Str) H [Ac F1.Name] ([F1.Name]:List Str):=(.cons (c:=[Ac F1.Name]) rfl .nil)
 refine ⟨λ_=>(St.ldsX u i2 (Aa t1 (Aa t3 (Aa t4 (Aa t5 Af))))),?_⟩
 refine da1 (i:=8) (by kernel_rfl) ?_
 refine di (i:=8) rfl<|Cc (α:=Str) (xs:=U0) (ys:=([F1.Name]:List Str)) o rfl u underlying36 Sf rfl (by decide) rfl rfl rfl t2 K2 (u.rdO t0) C3 V3 λD3 O2 E3 w a F3 hU o=>?_
 replace u:=hU _ (.tail (.tail .head))
 replace u:=u.drop .head
 refine ⟨λ_=>(St.ldsX u i2 (Aa t0 (Aa t2 (Aa t3 (Aa t4 Af))))),?_⟩
 refine ds 9 (St.ldsX u i2 (Aa t0 (Aa t2 (Aa t3 (Aa t4 Af))))) o rfl (Ag o Dt rfl) λo=>da1 (i:=10) (by kernel_rfl) ?_
 refine di (i:=10) rfl<|As o u sizeOf36 rfl rfl rfl rfl (.tail (.tail .head)) (.succ .zero) λw u=>⟨λh=>absurd rfl h,?_⟩
 refine de (by kernel_rfl)<|bn<|tn<|rg<|qm o rfl λo=>qv o (Ao o rfl rfl) λo=>qa o rfl λo=>re<|tn<|?_
 exact ⟨(E1,U3,(IntKind.i64.wrap (B2+1))),⟨D3,O2,E3,hm,o.hs,u,F3⟩,Nat.lt_succ_self _⟩
 refine tn<|cfv o rfl J1<|we<|tx<|tx<|bx<|tn<|?_
 replace u:=u.pk [0,0,0,0] rfl
 exact ⟨F0.2.L,F0.2.At,F0.2.E,F0.2.Pos,U0,J2,Y1,p0,R0,u0,hm,o.hs,u,X2,Y2,K2⟩
 refine cfv o rfl I1<|wk<|tn<|?_
 replace u:=u.nilS 9 1
 replace u:=u.pk [1,0,1,0] rfl
 exact ⟨M0.2.L,M0.2.At,M0.2.E,M0.2.Pos,[],G1,j0,none,0,[],hm,o.hs,u,F2,G2,.nil⟩
 rintro a w ⟨S0,T1,U1,V1,G0,T0,O0,E0,D0,Q0,hm,o,u,hcA4,hrA5,P2⟩
 unfold Z4u at hm
 refine th<|th<|rg<|qm o rfl λo=>qv o (Aj o rfl) λo=>qv o (Ag o Cj rfl) λo=>qv o (Ah o isAgg29 rfl (u.ld.cellB t0 rfl)) λo=>qv o (Am o rfl rfl) λo=>re<|tn<|Ay (λa w=>∃ (M1:Int) (O1:Int) (P1:Int) (I0:(List api_Stmt)) (B1:PH) (P0:Option Addr) (J0:Nat),(Z4v p7 p13 S0 G0) M1 O1 P1 I0=some r∧ExtM w0 (sepA [bk b2 [SL oa3 p1.L cap4,i6 p1.At,i6 p1.E,i6 p1.Pos] 125]).fp H B1∧Fr 73 [(0,PT b2),(3,PT X0),(4,PT Y0)] a∧St w0 (sepA [bk b2 [SL oa3 p1.L cap4,i6 p1.At,i6 p1.E,i6 p1.Pos] 125]).fp [B1] [bk b2 [SL T0 S0 O0,i6 M1,i6 O1,i6 P1] 125,sla 9 1 E0 G0.length D0 Q0,bk X0 [Ac p7,SL E0 G0 D0,SL P0 I0 J0,i6 p13] 48,bk Y0 [Ac [],.slice none 0 0,.slice none 0 0,i6 0] 48] w∧I0.length≤J0∧SR B1 P0 I0) ?_ ?_
 rcases bip hm with ⟨Q1,hm⟩ | ⟨Q1,hm⟩
 refine ctv o rfl Q1<|th<|?_
 obtain ⟨C2,W3,hm⟩:=bs hm
 refine rdS 19 u wide λw u=>dr 0 u o rfl (Ab o rfl) λo=>dr 1 u o rfl (Aj o rfl) λo=>dr 2 u o rfl (Ag o Ca rfl) λo=>dq 3 u.ld o rfl (λw hl=>Ah o isAgg120 rfl (hl.cellB t0 rfl)) λo=>dr 4 u o rfl (Ab o rfl) λo=>dr 5 u o rfl (Aj o rfl) λo=>dr 6 u o rfl (Ag o Bg rfl) λo=>dq 7 u.ld o rfl (λw hl=>Ah o isAgg3 rfl (hl.cellB t0 rfl)) λo=>dr 8 u o rfl (Ab o rfl) λo=>da1 (i:=9) (by kernel_rfl) ?_
 refine di (i:=9) rfl<|c1 o rfl call141 (JaG (St.le u) hcA4 hrA5 W3) ⟨rfl,rfl,rfl,trivial⟩ (λv w a hR o=>?_)
 obtain ⟨H62,G3,Q2,rfl,I3,J3,C0,K3,hk⟩:=hR
 obtain ⟨u,C0⟩:=And.intro (St.passH u hk C0 K3) (St.extcM u C0)
 refine ⟨λ_=>(St.ldsX u C0.sub i1),?_⟩
 refine ds 10 (St.ldsX u C0.sub i1) o rfl (Ab o rfl) λo=>ds 11 (St.ldsX u C0.sub i1) o rfl (Bv o rfl rfl) λo=>ds 12 (St.ldsX u C0.sub i1) o rfl (Bv o rfl rfl) λo=>ds 13 (St.ldsX u C0.sub i1) o rfl (Bv o rfl rfl) λo=>ds 14 (St.ldsX u C0.sub i1) o rfl (Bv o rfl rfl) λo=>ds 15 (St.ldsX u C0.sub i1) o rfl (Bo o rfl) λo=>ds 16 (St.ldsX u C0.sub i1) o rfl (Bo o rfl) λo=>ds 17 (St.ldsX u C0.sub i1) o rfl (Bo o rfl) λo=>ds 18 (St.ldsX u C0.sub i1) o rfl (Bo o rfl) λo=>de (by kernel_rfl)<|tn<|th<|rg<|qm o rfl λo=>qv o (Ag o Lj rfl) λo=>ls<|As o u sizeOf46 rfl rfl rfl rfl (.tail (.tail .head)) (.succ (.succ .zero)) λw u=>re<|tn<|th<|rg<|qm o rfl λo=>qm o rfl λo=>qv o (Aj o rfl) λo=>qv o (Ag o Bg rfl) λo=>ls<|As o u sizeOf3 rfl rfl rfl rfl .head (.succ .zero) λw u=>re<|tn<|th<|rg<|qm o rfl λo=>qm o rfl λo=>qv o (Aj o rfl) λo=>qv o (Ag o Cj rfl) λo=>ls<|As o u sizeOf29 rfl rfl rfl rfl .head (.succ (.succ .zero)) λw u=>re<|tn<|rg<|qm o rfl λo=>qm o rfl λo=>qv o (Aj o rfl) λo=>qv o (Ag o Ep rfl) λo=>ls<|As o u sizeOf3 rfl rfl rfl rfl .head (.succ (.succ (.succ .zero))) λw u=>re<|tn<|?_
 exact ⟨C2.2.1,C2.2.2.1,C2.2.2.2,C2.1,H62,G3,Q2,hm,C0,o.hs,u,I3,J3⟩
 refine cfv o rfl Q1<|wk<|tn<|?_
 exact ⟨T1,U1,V1,p8,H,W0,K0,hm,(ExtM.refl _ _ _),o.hs,u,R2,T2⟩
 rintro a w ⟨M1,O1,P1,I0,B1,P0,J0,hm,V0,o,u,hcA22,hrA23⟩
 unfold Z4v at hm
 refine th<|rg<|qv o (Ar o Tryz.isAgg48 Tryz.sizeOf48 rfl rfl (u.ld.cellsB t2)) λo=>ls<|Aw o u sizeOf48 rfl rfl rfl rfl (Ak rfl) (.tail (.tail (.tail .head))) λw u=>re<|tn<|wr<|?_
 obtain ⟨H70,R1,L3,M3,u⟩:=St.frzSM u (.tail .head) (P2.mono V0.sub)
 obtain rfl:=si hm
 exact r1c (vs:=[Ac p7,SL E0 G0 D0,SL P0 I0 J0,i6 p13]) (.inl rfl) o results105 rfl isAgg48 sizeOf48 rfl (u.ld.cellsB t2) ⟨H70,_,T0,O0,rfl,(show Enc.rep (α:=api_Thread) H70 [Ac p7,SL E0 G0 D0,SL P0 I0 J0,i6 p13] (api_Thread.mk p7 G0 I0 p13) from ⟨_,_,rfl,rfl,⟨_,_,rfl,⟨_,_,rfl,M3,L3⟩,⟨_,_,rfl,⟨_,_,rfl,hcA22,(hrA23.mono R1.sub)⟩,rfl⟩⟩⟩),hcA4,(hrA5.mono (cp R1.sub V0.sub)),(ExtM.trans V0 R1),(St.le u),(St.disL (u.pickL (.cons .head .nil))),(u.pickL (.cons .head .nil)).endMut⟩
theorem Jby (hH:H.le w0) {b2:Nat} {p1:leadlineref05_In} {oa3:Option Addr} {cap4:Nat} (I0:p1.L.length≤cap4) (J0:SR H oa3 p1.L) {p7:Int} (hO:(sepA [bk b2 [SL oa3 p1.L cap4,i6 p1.At,i6 p1.E,i6 p1.Pos] 125]).ok (hp w0)) (hD:∀ b,(sepA [bk b2 [SL oa3 p1.L cap4,i6 p1.At,i6 p1.E,i6 p1.Pos] 125]).fp b→H b=none) {r:(api_Claim×leadlineref05_In)} (hm:Z4h N p1 p7=some r):Tot Tryz.prog 106 #[PT b2,i6 p7] w0 (λv w'=>∃ (H':PH) (cs0:List Value) (oa1m:Option Addr) (cap1m:Nat),v=.agg cs0.toArray∧Enc.rep H' cs0 r.1∧r.2.L.length≤cap1m∧SR H' oa1m r.2.L∧ExtM w0 (sepA [bk b2 [SL oa3 p1.L cap4,i6 p1.At,i6 p1.E,i6 p1.Pos] 125]).fp H H'∧H'.le w'∧(∀ b,(sepA [bk b2 [SL oa1m r.2.L cap1m,i6 r.2.At,i6 r.2.E,i6 r.2.Pos] 125]).fp b→H' b=none)∧Mut w0 (sepA [bk b2 [SL oa3 p1.L cap4,i6 p1.At,i6 p1.E,i6 p1.Pos] 125]) (sepA [bk b2 [SL oa1m r.2.L cap1m,i6 r.2.At,i6 r.2.E,i6 r.2.Pos] 125]) w'):=by
 unfold Z4h at hm
 refine fn0 func106 rfl ntmps106 rfl rfl λa o=>?_
 have u:=Cg hH hO hD
 refine th<|rg<|ls<|Ap (cs:=[.slice none 0 0,i6 0].toArray) o rfl u Tryz.zeroValue74 rfl λb8 w a u o=>re<|tn<|th<|?_
 obtain ⟨E0,T0,hm⟩:=bs hm
 refine rdS 18 u wide λw u=>dr 0 u o rfl (Ab o rfl) λo=>dr 1 u o rfl (Aj o rfl) λo=>dr 2 u o rfl (Ag o Ca rfl) λo=>dq 3 u.ld o rfl (λw hl=>Ah o isAgg120 rfl (hl.cellB t1 rfl)) λo=>dr 4 u o rfl (Ab o rfl) λo=>dr 5 u o rfl (Aj o rfl) λo=>dr 6 u o rfl (Ag o Bg rfl) λo=>dq 7 u.ld o rfl (λw hl=>Ah o isAgg3 rfl (hl.cellB t1 rfl)) λo=>da1 (i:=8) (by kernel_rfl) ?_
 refine di (i:=8) rfl<|c1 o rfl call142 (Xf (St.le u) I0 J0 T0) ⟨rfl,rfl,trivial⟩ (λv w a hR o=>?_)
 obtain ⟨H14,F0,D0,rfl,M0,O0,C0,P0,hk⟩:=hR
 obtain ⟨u,C0⟩:=And.intro (St.passH u hk C0 P0) (St.extcM u C0)
 refine ⟨λ_=>(St.ldsX u C0.sub i1),?_⟩
 refine ds 9 (St.ldsX u C0.sub i1) o rfl (Ab o rfl) λo=>ds 10 (St.ldsX u C0.sub i1) o rfl (Bv o rfl rfl) λo=>ds 11 (St.ldsX u C0.sub i1) o rfl (Bv o rfl rfl) λo=>ds 12 (St.ldsX u C0.sub i1) o rfl (Bv o rfl rfl) λo=>ds 13 (St.ldsX u C0.sub i1) o rfl (Bv o rfl rfl) λo=>ds 14 (St.ldsX u C0.sub i1) o rfl (Bo o rfl) λo=>ds 15 (St.ldsX u C0.sub i1) o rfl (Bo o rfl) λo=>ds 16 (St.ldsX u C0.sub i1) o rfl (Bo o rfl) λo=>ds 17 (St.ldsX u C0.sub i1) o rfl (Bo o rfl) λo=>de (by kernel_rfl)<|tn<|th<|th<|rg<|qm o rfl λo=>qv o (Bu o rfl rfl) λo=>re<|?_
 rcases bip hm with ⟨G0,hm⟩ | ⟨G0,hm⟩
 refine tn<|ctv o rfl G0<|th<|rg<|qm o rfl λo=>qm o rfl λo=>qv o (Aj o rfl) λo=>qv o (Ag o Cj rfl) λo=>ls<|As o u sizeOf29 rfl rfl rfl rfl (.tail .head) (.succ (.succ .zero)) λw u=>re<|tn<|th<|rg<|qm o rfl λo=>qm o rfl λo=>qv o (Aj o rfl) λo=>qv o (Ag o Ep rfl) λo=>ls<|As o u sizeOf3 rfl rfl rfl rfl (.tail .head) (.succ (.succ (.succ .zero))) λw u=>re<|tn<|th<|rg<|qv o (Bi [] [.slice none 0 0,i6 0] o trivial (λw=>by kernel_rfl)) λo=>ls<|Aw o u sizeOf74 rfl rfl rfl rfl (Ak rfl) .head λw u=>re<|tn<|wr<|tr<|?_
 obtain rfl:=si hm
 exact r1c (vs:=[.slice none 0 0,i6 0]) (.inl rfl) o results106 rfl isAgg74 sizeOf74 rfl (u.ld.cellsB t0) ⟨H14,_,oa3,cap4,rfl,(show Enc.rep (α:=api_Claim) H14 [.slice none 0 0,i6 0] (api_Claim.mk [] 0) from ⟨_,_,rfl,⟨none,0,rfl,Nat.le_refl _,SR.nil _ _⟩,rfl⟩),I0,(J0.mono C0.sub),C0,(St.le u),(St.disL (u.pickL (.cons (.tail .head) .nil))),(u.pickL (.cons (.tail .head) .nil)).endMut⟩
 refine tn<|cfv o rfl G0<|wk<|tn<|th<|rg<|qm o rfl λo=>qm o rfl λo=>qv o (Aj o rfl) λo=>qv o (Ag o Bg rfl) λo=>ls<|As o u sizeOf3 rfl rfl rfl rfl (.tail .head) (.succ .zero) λw u=>re<|tn<|th<|?_
 obtain ⟨V0,U0,hm⟩:=bs hm
 refine rg<|qm o rfl λo=>?_
 replace u:=u.pk [1,0] rfl
 replace u:=St.sep [bk b2 [SL oa3 p1.L cap4,i6 E0.2.1,i6 p1.E,i6 p1.Pos] 125] u
 refine ls<|c1 o rfl call140 (Vg (St.le u) (p1:=(leadlineref05_In.mk p1.L E0.2.1 p1.E p1.Pos)) (b2:=b2) (oa3:=oa3) (cap4:=cap4) I0 (J0.mono C0.sub) (St.sepOk u) (St.sepDis u) U0) ⟨rfl,rfl,trivial⟩ (λv w a hR o=>?_)
 obtain ⟨Q0,K0,rfl,R0,S0,hk⟩:=hR
 replace u:=(u.mut hk .head).unsep
 refine re<|tn<|th<|rg<|qm o rfl λo=>qm o rfl λo=>qv o (Bi [SL F0 E0.1 D0,i6 p7] [SL F0 E0.1 D0,i6 p7] o ⟨rfl,rfl,trivial⟩ (λw=>by kernel_rfl)) λo=>ls<|Aw o u sizeOf74 rfl rfl rfl rfl (Ak rfl) (.tail .head) λw u=>re<|tn<|wr<|?_
 obtain rfl:=si hm
 exact r1c (vs:=[SL F0 E0.1 D0,i6 p7]) (.inl rfl) o results106 rfl isAgg74 sizeOf74 rfl (u.ld.cellsB t1) ⟨H14,_,Q0,K0,rfl,(show Enc.rep (α:=api_Claim) H14 [SL F0 E0.1 D0,i6 p7] (api_Claim.mk E0.1 p7) from ⟨_,_,rfl,⟨_,_,rfl,M0,O0⟩,rfl⟩),R0,S0,C0,(St.le u),(St.disL (u.pickL (.cons .head .nil))),(u.pickL (.cons .head .nil)).endMut⟩
set_option maxHeartbeats 4000000 in
theorem Jbg (hH:H.le w0) {p1:Str} {r:(api_Prog×Int×Int)} (hm:Z4x N p1=some r):Tot Tryz.prog 64 #[Ac p1] w0 (λv w'=>∃ (H':PH) (cs0:List Value),v=.tuple #[.agg cs0.toArray,i6 r.2.1,i6 r.2.2]∧Enc.rep H' cs0 r.1∧Ext w0 H H'∧H'.le w'∧Keep Nil w0 w'):=by
 unfold Z4x at hm
 refine fn0 func64 rfl ntmps64 rfl rfl λa o=>?_
 have u:St w0 Nil [H] [] w0:=start1 hH
 refine th<|rg<|ls<|Ap (cs:=[.slice none 0 0,.slice none 0 0,.slice none 0 0,.slice none 0 0,.slice none 0 0,.slice none 0 0].toArray) o rfl u Tryz.zeroValue27 rfl λb2 w a u o=>?_
 iterate 2 refine qa o rfl λo=>?_
 refine re<|tn<|th<|?_
 obtain ⟨P0,h4,hm⟩:=bs hm
 refine rg<|qm o rfl λo=>ls<|c1 o rfl call101 (Ja6 (Ai _) h4) ⟨rfl,trivial⟩ (λv w a hR o=>?_)
 obtain ⟨G1,n0,vs7,rfl,R8,hk⟩:=hR
 replace u:=u.fresh hk
 replace R8:=R8 H
 refine qm o rfl λo=>?_
 iterate 3 refine qv o (Bv o rfl rfl) λo=>?_
 iterate 3 refine qa o rfl λo=>?_
 refine re<|tn<|th<|th<|rg<|qm o rfl λo=>qv o (Bu o rfl rfl) λo=>re<|?_
 rcases bip hm with ⟨O7,hm⟩ | ⟨O7,hm⟩
 refine tn<|ctv o rfl O7<|th<|rg<|qv o (Bi [] [.slice none 0 0,.slice none 0 0,.slice none 0 0,.slice none 0 0,.slice none 0 0,.slice none 0 0] o trivial (λw=>by kernel_rfl)) λo=>?_
 iterate 2 refine qm o rfl λo=>?_
 refine ls<|Aw o u sizeOf27 rfl rfl rfl rfl (Ak rfl) (.tail .head) λw u=>?_
 iterate 2 refine qa o rfl λo=>?_
 refine re<|tn<|wr<|tr<|?_
 obtain rfl:=si hm
 exact r3c (vs:=[.slice none 0 0,.slice none 0 0,.slice none 0 0,.slice none 0 0,.slice none 0 0,.slice none 0 0]) (.inl rfl) o results64 rfl rfl rfl isAgg27 sizeOf27 rfl (u.ld.cellsB t1) ⟨H,_,rfl,(show Enc.rep (α:=api_Prog) H [.slice none 0 0,.slice none 0 0,.slice none 0 0,.slice none 0 0,.slice none 0 0,.slice none 0 0] (api_Prog.mk [] [] [] [] [] []) from ⟨_,_,rfl,⟨none,0,rfl,Nat.le_refl _,SR.nil _ _⟩,⟨_,_,rfl,⟨none,0,rfl,Nat.le_refl _,SR.nil _ _⟩,⟨_,_,rfl,⟨none,0,rfl,Nat.le_refl _,SR.nil _ _⟩,⟨_,_,rfl,⟨none,0,rfl,Nat.le_refl _,SR.nil _ _⟩,⟨_,_,rfl,⟨none,0,rfl,Nat.le_refl _,SR.nil _ _⟩,⟨none,0,rfl,Nat.le_refl _,SR.nil _ _⟩⟩⟩⟩⟩⟩),(Ext.refl _ _),(St.le u),u.keep⟩
 refine tn<|cfv o rfl O7<|wk<|tn<|th<|?_
 obtain ⟨H14,S8,A5,hc13,u⟩:=St.frzS u .head R8
 refine rg<|qm o rfl λo=>qv o (Bi [SL G1 P0.1 n0] [SL G1 P0.1 n0,i6 0,i6 0,i6 0] o ⟨rfl,trivial⟩ (λw=>by kernel_rfl)) λo=>ls<|Bz (cs:=[SL G1 P0.1 n0,i6 0,i6 0,i6 0].toArray) o rfl u rfl rfl λC0 w a u o=>qv o (Bi [] [.slice none 0 0,.slice none 0 0,.slice none 0 0,.slice none 0 0,.slice none 0 0,.slice none 0 0] o trivial (λw=>by kernel_rfl)) λo=>ls<|Ap (cs:=[.slice none 0 0,.slice none 0 0,.slice none 0 0,.slice none 0 0,.slice none 0 0,.slice none 0 0].toArray) o rfl u zeroValue27 rfl λU0 w a u o=>qa o rfl λo=>ls<|Aw o u sizeOf27 rfl rfl rfl rfl (Ak rfl) .head λw u=>re<|tn<|th<|Ay (λa w=>∃ (C6:(List api_Token)) (z7:Int) (A8:Int) (B8:Int) (D0:(List (List api_Cell))) (j0:PH) (D6:Option Addr) (M4:Nat) (I0:Option Addr) (E0:Nat) (X0:List Value),(Z4y N P0) C6 z7 A8 B8 D0=some r∧Ext w0 H14 j0∧Fr 128 [(2,PT b2),(5,SL G1 P0.1 n0),(8,PT C0),(9,PT U0)] a∧St w0 Nil [j0] [bk b2 [.slice none 0 0,.slice none 0 0,.slice none 0 0,.slice none 0 0,.slice none 0 0,.slice none 0 0] 27,bk C0 [SL D6 C6 M4,i6 z7,i6 A8,i6 B8] 125,sla 23 1 I0 D0.length E0 X0,bk U0 [SL I0 D0 E0,.slice none 0 0,.slice none 0 0,.slice none 0 0,.slice none 0 0,.slice none 0 0] 27] w∧C6.length≤M4∧SR j0 D6 C6∧Rows j0 X0 D0) ?_ ?_
 replace u:=u.nilS 23 1
 replace u:=u.pk [3,2,0,0] rfl
 refine wb<|lp (α:=Nat×(List api_Token)×Int×Int×Int×(List (List api_Cell))) (λ(gh:Nat×(List api_Token)×Int×Int×Int×(List (List api_Cell))) a w=>match gh with | (B7,B5,C7,D7,E7,V2)=>∃ (C5:PH) (D5:Option Addr) (I3:Nat) (O4:Option Addr) (J3:Nat) (P4:List Value),(Z56 N (Z4y N P0)) B7 B5 C7 D7 E7 V2=some r∧Ext w0 H14 C5∧Fr 128 [(2,PT b2),(5,SL G1 P0.1 n0),(8,PT C0),(9,PT U0)] a∧St w0 Nil [C5] [bk b2 [.slice none 0 0,.slice none 0 0,.slice none 0 0,.slice none 0 0,.slice none 0 0,.slice none 0 0] 27,bk C0 [SL D5 B5 I3,i6 C7,i6 D7,i6 E7] 125,sla 23 1 O4 V2.length J3 P4,bk U0 [SL O4 V2 J3,.slice none 0 0,.slice none 0 0,.slice none 0 0,.slice none 0 0,.slice none 0 0] 27] w∧B5.length≤I3∧SR C5 D5 B5∧Rows C5 P4 V2) (λgh=>gh.1) (N,P0.1,0,0,0,[]) ⟨H14,G1,n0,none,0,[],hm,(Ext.refl _ _),o.hs,u,hc13,A5,.nil⟩ ?_
 rintro ⟨B7,B5,C7,D7,E7,V2⟩ a w ⟨C5,D5,I3,O4,J3,P4,hm,C8,o,u,hcB5,hrB6,D8⟩
 obtain _ | B7:=B7
 simp [Z56] at hm
 rw [Z56] at hm
 refine th<|th<|?_
 obtain ⟨K3,h18,hm⟩:=bs hm
 refine rg<|qm o rfl λo=>?_
 replace u:=u.pk [1,0,0,0] rfl
 replace u:=St.sep [bk C0 [SL D5 B5 I3,i6 C7,i6 D7,i6 E7] 125] u
 refine ls<|c1 o rfl call102 (Hm (St.le u) (p1:=(leadlineref05_In.mk B5 C7 D7 E7)) (b2:=C0) (oa3:=D5) (cap4:=I3) hcB5 hrB6 (St.sepOk u) (St.sepDis u) h18) ⟨rfl,rfl,trivial⟩ (λv w a hR o=>?_)
 obtain ⟨P7,E6,rfl,T8,U8,hk⟩:=hR
 replace u:=(u.mut hk .head).unsep
 refine re<|?_
 rcases bit hm with ⟨Q7,hm⟩ | ⟨Q7,hm⟩
 refine tn<|ctv o rfl Q7<|wk<|tn<|wb<|?_
 obtain ⟨L3,h25,hm⟩:=bs hm
 obtain ⟨l42,h43,hm⟩:=bs hm
 refine rdL (Aa t1 (Aa t3 Af)) 7 u wide λw u=>ds 0 (St.ldsX u i2 (Aa t1 (Aa t3 Af))) o rfl (Ag o Cm rfl) λo=>dq 1 (St.ldsX u i2 (Aa t1 (Aa t3 Af))) o rfl (λw hl=>Ah o isAgg22 rfl (hl.cellB t1 rfl)) λo=>ds 2 (St.ldsX u i2 (Aa t1 (Aa t3 Af))) o rfl (Ab o rfl) λo=>da1 (i:=3) (by kernel_rfl) ?_
 replace u:=u.pk [0,0,0,0] rfl
 replace u:=St.sep [bk C0 [SL P7 K3.2.L E6,i6 K3.2.At,i6 K3.2.E,i6 K3.2.Pos] 125] u
 refine di (i:=3) rfl<|c1 o rfl call103 (Sb (St.le u) (p1:=K3.2) (b2:=C0) (oa3:=P7) (cap4:=E6) T8 U8 (St.sepOk u) (St.sepDis u) h25) ⟨rfl,rfl,trivial⟩ (λv w a hR o=>?_)
 obtain ⟨R7,F6,vs28,oa31,A9,rfl,S7,hc33,hr34,hk⟩:=hR
 replace u:=(u.mut hk .head).unsep
 replace S7:=S7 C5
 refine ⟨λ_=>(St.ldsX u i2 (Aa t2 (Aa t4 Af))),?_⟩
 refine da1 (i:=4) (by kernel_rfl) ?_
 obtain ⟨H38,C4,hr36,hc37,u⟩:=St.frzS u (.tail .head) S7
 refine di (i:=4) rfl<|Bh (e:=23) (sz:=1) [SL R7 L3.1 F6] o rfl u rfl rfl rfl (λw=>by kernel_rfl) λb40 w a u o=>?_
 have hv39:Rows (α:=(List api_Cell)) H38 [SL R7 L3.1 F6] ([L3.1]:List (List api_Cell)):=(.cons (c:=[SL R7 L3.1 F6]) ⟨_,_,rfl,hc37,hr36⟩ .nil)
 refine ⟨λ_=>(St.ldsX u C4.sub (Aa t2 (Aa t4 Af))),?_⟩
 refine da1 (i:=5) (by kernel_rfl) ?_
 refine di (i:=5) rfl<|Cc (α:=(List api_Cell)) (xs:=V2) (ys:=([L3.1]:List (List api_Cell))) o rfl u underlying22 Va rfl (by decide) rfl rfl rfl t3 (D8.mono C4.sub) (u.rdO t0) hv39 h43 λoa44 B9 vs46 w a hv47 hU o=>?_
 replace u:=hU _ (.tail (.tail (.tail .head)))
 replace u:=u.drop .head
 refine ⟨λ_=>(St.ldsX u C4.sub (Aa t1 (Aa t3 Af))),?_⟩
 refine ds 6 (St.ldsX u C4.sub (Aa t1 (Aa t3 Af))) o rfl (Ag o Cm rfl) λo=>da1 (i:=7) (by kernel_rfl) ?_
 refine di (i:=7) rfl<|As o u sizeOf22 rfl rfl rfl rfl (.tail (.tail (.tail .head))) .zero λw u=>⟨λh=>absurd rfl h,?_⟩
 refine de (by kernel_rfl)<|bn<|tn<|?_
 replace u:=u.pk [1,0,0,0] rfl
 exact ⟨(B7,L3.2.L,L3.2.At,L3.2.E,L3.2.Pos,l42),⟨H38,oa31,A9,oa44,B9,vs46,hm,(Ext.trans C8 C4),o.hs,u,hc33,(hr34.mono C4.sub),hv47⟩,Nat.lt_succ_self _⟩
 refine tn<|cfv o rfl Q7<|we<|tx<|tx<|bx<|tn<|?_
 replace u:=u.pk [1,0,0,0] rfl
 exact ⟨K3.2.L,K3.2.At,K3.2.E,K3.2.Pos,V2,C5,P7,E6,O4,J3,P4,hm,C8,o.hs,u,T8,U8,D8⟩
 rintro a w ⟨C6,z7,A8,B8,D0,j0,D6,M4,I0,E0,X0,hm,Q4,o,u,hcA5,hrA6,C9⟩
 unfold Z4y at hm
 refine th<|Ay (λa w=>∃ (D4:(List api_Token)) (G6:Int) (I6:Int) (J6:Int) (F0:(List api_Cell)) (R4:Option Addr) (M3:Nat) (J0:Option Addr) (G0:Nat) (p0:List Value),(Z51 N P0 D0) D4 G6 I6 J6 F0=some r∧Fr 128 [(2,PT b2),(5,SL G1 P0.1 n0),(8,PT C0),(9,PT U0)] a∧St w0 Nil [j0] [bk b2 [.slice none 0 0,.slice none 0 0,.slice none 0 0,.slice none 0 0,.slice none 0 0,.slice none 0 0] 27,bk C0 [SL R4 D4 M3,i6 G6,i6 I6,i6 J6] 125,sla 23 1 I0 D0.length E0 X0,sla 53 3 J0 F0.length G0 p0,bk U0 [SL I0 D0 E0,SL J0 F0 G0,.slice none 0 0,.slice none 0 0,.slice none 0 0,.slice none 0 0] 27] w∧D4.length≤M3∧SR j0 R4 D4∧Rows j0 p0 F0) ?_ ?_
 replace u:=u.nilS 53 3
 replace u:=u.pk [1,1,1,0,0] rfl
 refine wb<|lp (α:=Nat×(List api_Token)×Int×Int×Int×(List api_Cell)) (λgh a w=>match gh with | (F7,W2,E5,F5,G5,X2)=>∃ (O3:Option Addr) (B2:Nat) (S4:Option Addr) (P3:Nat) (T4:List Value),(Z57 N (Z51 N P0 D0)) F7 W2 E5 F5 G5 X2=some r∧Fr 128 [(2,PT b2),(5,SL G1 P0.1 n0),(8,PT C0),(9,PT U0)] a∧St w0 Nil [j0] [bk b2 [.slice none 0 0,.slice none 0 0,.slice none 0 0,.slice none 0 0,.slice none 0 0,.slice none 0 0] 27,bk C0 [SL O3 W2 B2,i6 E5,i6 F5,i6 G5] 125,sla 23 1 I0 D0.length E0 X0,sla 53 3 S4 X2.length P3 T4,bk U0 [SL I0 D0 E0,SL S4 X2 P3,.slice none 0 0,.slice none 0 0,.slice none 0 0,.slice none 0 0] 27] w∧W2.length≤B2∧SR j0 O3 W2∧Rows j0 T4 X2) (λgh=>gh.1) (N,C6,z7,A8,B8,[]) ⟨D6,M4,none,0,[],hm,o.hs,u,hcA5,hrA6,.nil⟩ ?_
 rintro ⟨F7,W2,E5,F5,G5,X2⟩ a w ⟨O3,B2,S4,P3,T4,hm,o,u,hcB19,hrB20,E8⟩
 obtain _ | F7:=F7
 simp [Z57] at hm
 rw [Z57] at hm
 refine th<|th<|?_
 obtain ⟨Q3,h49,hm⟩:=bs hm
 refine rg<|qm o rfl λo=>?_
 replace u:=u.pk [1,0,0,0,0] rfl
 replace u:=St.sep [bk C0 [SL O3 W2 B2,i6 E5,i6 F5,i6 G5] 125] u
 refine ls<|c1 o rfl call102 (Hm (St.le u) (p1:=(leadlineref05_In.mk W2 E5 F5 G5)) (b2:=C0) (oa3:=O3) (cap4:=B2) hcB19 hrB20 (St.sepOk u) (St.sepDis u) h49) ⟨rfl,rfl,trivial⟩ (λv w a hR o=>?_)
 obtain ⟨T7,K6,rfl,V8,W8,hk⟩:=hR
 replace u:=(u.mut hk .head).unsep
 refine re<|?_
 rcases bit hm with ⟨U7,hm⟩ | ⟨U7,hm⟩
 refine tn<|ctv o rfl U7<|wk<|tn<|wb<|?_
 obtain ⟨G7,h56,hm⟩:=bs hm
 obtain ⟨l66,h67,hm⟩:=bs hm
 refine rdL (Aa t1 (Aa t2 (Aa t4 Af))) 6 u wide λw u=>ds 0 (St.ldsX u i2 (Aa t1 (Aa t2 (Aa t4 Af)))) o rfl (Ag o Df rfl) λo=>dq 1 (St.ldsX u i2 (Aa t1 (Aa t2 (Aa t4 Af)))) o rfl (λw hl=>Ah o isAgg23 rfl (hl.cellB t2 rfl)) λo=>ds 2 (St.ldsX u i2 (Aa t1 (Aa t2 (Aa t4 Af)))) o rfl (Ab o rfl) λo=>da1 (i:=3) (by kernel_rfl) ?_
 replace u:=u.pk [0,0,0,0,0] rfl
 replace u:=St.sep [bk C0 [SL T7 Q3.2.L K6,i6 Q3.2.At,i6 Q3.2.E,i6 Q3.2.Pos] 125] u
 refine di (i:=3) rfl<|c1 o rfl call103 (Sb (St.le u) (p1:=Q3.2) (b2:=C0) (oa3:=T7) (cap4:=K6) V8 W8 (St.sepOk u) (St.sepDis u) h56) ⟨rfl,rfl,trivial⟩ (λv w a hR o=>?_)
 obtain ⟨oa57,cap58,vs59,oa62,D9,rfl,V7,hc64,hr65,hk⟩:=hR
 replace u:=(u.mut hk .head).unsep
 replace V7:=V7 j0
 refine ⟨λ_=>(St.ldsX u i2 (Aa t2 (Aa t3 (Aa t5 Af)))),?_⟩
 refine da1 (i:=4) (by kernel_rfl) ?_
 refine di (i:=4) rfl<|Cc (α:=api_Cell) (xs:=X2) (ys:=G7.1) o rfl u underlying23 Jc rfl (by decide) rfl rfl rfl t4 E8 (u.rdO t1) V7 h67 λoa68 E9 vs70 w a hv71 hU o=>?_
 replace u:=hU _ (.tail (.tail (.tail (.tail .head))))
 refine ⟨λ_=>(St.ldsX u i2 (Aa t2 (Aa t3 (Aa t5 Af)))),?_⟩
 refine ds 5 (St.ldsX u i2 (Aa t2 (Aa t3 (Aa t5 Af)))) o rfl (Ag o Df rfl) λo=>da1 (i:=6) (by kernel_rfl) ?_
 refine di (i:=6) rfl<|As o u sizeOf23 rfl rfl rfl rfl (.tail (.tail (.tail (.tail (.tail .head))))) (.succ .zero) λw u=>⟨λh=>absurd rfl h,?_⟩
 refine de (by kernel_rfl)<|bn<|tn<|?_
 replace u:=u.pk [2,0,1,1,1] rfl
 exact ⟨(F7,G7.2.L,G7.2.At,G7.2.E,G7.2.Pos,l66),⟨oa62,D9,oa68,E9,vs70,hm,o.hs,u,hc64,hr65,hv71⟩,Nat.lt_succ_self _⟩
 refine tn<|cfv o rfl U7<|we<|tx<|tx<|bx<|tn<|?_
 replace u:=u.pk [1,0,0,0,0] rfl
 exact ⟨Q3.2.L,Q3.2.At,Q3.2.E,Q3.2.Pos,X2,T7,K6,S4,P3,T4,hm,o.hs,u,V8,W8,E8⟩
 rintro a w ⟨D4,G6,I6,J6,F0,R4,M3,J0,G0,p0,hm,o,u,hcA19,hrA20,F9⟩
 unfold Z51 at hm
 refine th<|Ay (λa w=>∃ (E4:(List api_Token)) (L6:Int) (M6:Int) (O6:Int) (K0:(List api_Cell)) (U4:Option Addr) (R3:Nat) (O0:Option Addr) (M0:Nat) (C1:List Value),(Z52 N P0 D0 F0) E4 L6 M6 O6 K0=some r∧Fr 128 [(2,PT b2),(5,SL G1 P0.1 n0),(8,PT C0),(9,PT U0)] a∧St w0 Nil [j0] [bk b2 [.slice none 0 0,.slice none 0 0,.slice none 0 0,.slice none 0 0,.slice none 0 0,.slice none 0 0] 27,bk C0 [SL U4 E4 R3,i6 L6,i6 M6,i6 O6] 125,sla 23 1 I0 D0.length E0 X0,sla 53 3 J0 F0.length G0 p0,sla 53 3 O0 K0.length M0 C1,bk U0 [SL I0 D0 E0,SL J0 F0 G0,SL O0 K0 M0,.slice none 0 0,.slice none 0 0,.slice none 0 0] 27] w∧E4.length≤R3∧SR j0 U4 E4∧Rows j0 C1 K0) ?_ ?_
 replace u:=u.nilS 53 3
 replace u:=u.pk [1,1,1,1,0,0] rfl
 refine wb<|lp (α:=Nat×(List api_Token)×Int×Int×Int×(List api_Cell)) (λgh a w=>match gh with | (I7,Y2,I5,J5,K5,A3)=>∃ (S3:Option Addr) (C2:Nat) (V4:Option Addr) (T3:Nat) (W4:List Value),(Z58 N (Z52 N P0 D0 F0)) I7 Y2 I5 J5 K5 A3=some r∧Fr 128 [(2,PT b2),(5,SL G1 P0.1 n0),(8,PT C0),(9,PT U0)] a∧St w0 Nil [j0] [bk b2 [.slice none 0 0,.slice none 0 0,.slice none 0 0,.slice none 0 0,.slice none 0 0,.slice none 0 0] 27,bk C0 [SL S3 Y2 C2,i6 I5,i6 J5,i6 K5] 125,sla 23 1 I0 D0.length E0 X0,sla 53 3 J0 F0.length G0 p0,sla 53 3 V4 A3.length T3 W4,bk U0 [SL I0 D0 E0,SL J0 F0 G0,SL V4 A3 T3,.slice none 0 0,.slice none 0 0,.slice none 0 0] 27] w∧Y2.length≤C2∧SR j0 S3 Y2∧Rows j0 W4 A3) (λgh=>gh.1) (N,D4,G6,I6,J6,[]) ⟨R4,M3,none,0,[],hm,o.hs,u,hcA19,hrA20,.nil⟩ ?_
 rintro ⟨I7,Y2,I5,J5,K5,A3⟩ a w ⟨S3,C2,V4,T3,W4,hm,o,u,hcB33,hrB34,F8⟩
 obtain _ | I7:=I7
 simp [Z58] at hm
 rw [Z58] at hm
 refine th<|th<|?_
 obtain ⟨U3,h73,hm⟩:=bs hm
 refine rg<|qm o rfl λo=>?_
 replace u:=u.pk [1,0,0,0,0,0] rfl
 replace u:=St.sep [bk C0 [SL S3 Y2 C2,i6 I5,i6 J5,i6 K5] 125] u
 refine ls<|c1 o rfl call102 (Hm (St.le u) (p1:=(leadlineref05_In.mk Y2 I5 J5 K5)) (b2:=C0) (oa3:=S3) (cap4:=C2) hcB33 hrB34 (St.sepOk u) (St.sepDis u) h73) ⟨rfl,rfl,trivial⟩ (λv w a hR o=>?_)
 obtain ⟨W7,P6,rfl,X8,Y8,hk⟩:=hR
 replace u:=(u.mut hk .head).unsep
 refine re<|?_
 rcases bit hm with ⟨X7,hm⟩ | ⟨X7,hm⟩
 refine tn<|ctv o rfl X7<|wk<|tn<|wb<|?_
 obtain ⟨J7,h80,hm⟩:=bs hm
 obtain ⟨l90,h91,hm⟩:=bs hm
 refine rdL (Aa t1 (Aa t2 (Aa t3 (Aa t5 Af)))) 6 u wide λw u=>ds 0 (St.ldsX u i2 (Aa t1 (Aa t2 (Aa t3 (Aa t5 Af))))) o rfl (Ag o Gq rfl) λo=>dq 1 (St.ldsX u i2 (Aa t1 (Aa t2 (Aa t3 (Aa t5 Af))))) o rfl (λw hl=>Ah o isAgg23 rfl (hl.cellB t3 rfl)) λo=>ds 2 (St.ldsX u i2 (Aa t1 (Aa t2 (Aa t3 (Aa t5 Af))))) o rfl (Ab o rfl) λo=>da1 (i:=3) (by kernel_rfl) ?_
 replace u:=u.pk [0,0,0,0,0,0] rfl
 replace u:=St.sep [bk C0 [SL W7 U3.2.L P6,i6 U3.2.At,i6 U3.2.E,i6 U3.2.Pos] 125] u
 refine di (i:=3) rfl<|c1 o rfl call103 (Sb (St.le u) (p1:=U3.2) (b2:=C0) (oa3:=W7) (cap4:=P6) X8 Y8 (St.sepOk u) (St.sepDis u) h80) ⟨rfl,rfl,trivial⟩ (λv w a hR o=>?_)
 obtain ⟨oa81,cap82,vs83,oa86,G9,rfl,Y7,hc88,hr89,hk⟩:=hR
 replace u:=(u.mut hk .head).unsep
 replace Y7:=Y7 j0
 refine ⟨λ_=>(St.ldsX u i2 (Aa t2 (Aa t3 (Aa t4 (Aa t6 Af))))),?_⟩
 refine da1 (i:=4) (by kernel_rfl) ?_
 refine di (i:=4) rfl<|Cc (α:=api_Cell) (xs:=A3) (ys:=J7.1) o rfl u underlying23 Jc rfl (by decide) rfl rfl rfl t5 F8 (u.rdO t1) Y7 h91 λoa92 I9 vs94 w a hv95 hU o=>?_
 replace u:=hU _ (.tail (.tail (.tail (.tail (.tail .head)))))
 refine ⟨λ_=>(St.ldsX u i2 (Aa t2 (Aa t3 (Aa t4 (Aa t6 Af))))),?_⟩
 refine ds 5 (St.ldsX u i2 (Aa t2 (Aa t3 (Aa t4 (Aa t6 Af))))) o rfl (Ag o Gq rfl) λo=>da1 (i:=6) (by kernel_rfl) ?_
 refine di (i:=6) rfl<|As o u sizeOf23 rfl rfl rfl rfl (.tail (.tail (.tail (.tail (.tail (.tail .head)))))) (.succ (.succ .zero)) λw u=>⟨λh=>absurd rfl h,?_⟩
 refine de (by kernel_rfl)<|bn<|tn<|?_
 replace u:=u.pk [2,0,1,1,1,1] rfl
 exact ⟨(I7,J7.2.L,J7.2.At,J7.2.E,J7.2.Pos,l90),⟨oa86,G9,oa92,I9,vs94,hm,o.hs,u,hc88,hr89,hv95⟩,Nat.lt_succ_self _⟩
 refine tn<|cfv o rfl X7<|we<|tx<|tx<|bx<|tn<|?_
 replace u:=u.pk [1,0,0,0,0,0] rfl
 exact ⟨U3.2.L,U3.2.At,U3.2.E,U3.2.Pos,A3,W7,P6,V4,T3,W4,hm,o.hs,u,X8,Y8,F8⟩
 rintro a w ⟨E4,L6,M6,O6,K0,U4,R3,O0,M0,C1,hm,o,u,hcA33,hrA34,J9⟩
 unfold Z52 at hm
 refine th<|Ay (λa w=>∃ (B3:(List api_Token)) (L5:Int) (M5:Int) (O5:Int) (Q0:(List api_Thread)) (C3:PH) (V3:Option Addr) (E2:Nat) (Y0:Option Addr) (R0:Nat) (S1:List Value),(Z53 N P0 D0 F0 K0) B3 L5 M5 O5 Q0=some r∧Ext w0 j0 C3∧Fr 128 [(2,PT b2),(5,SL G1 P0.1 n0),(8,PT C0),(9,PT U0)] a∧St w0 Nil [C3] [bk b2 [.slice none 0 0,.slice none 0 0,.slice none 0 0,.slice none 0 0,.slice none 0 0,.slice none 0 0] 27,bk C0 [SL V3 B3 E2,i6 L5,i6 M5,i6 O5] 125,sla 23 1 I0 D0.length E0 X0,sla 53 3 J0 F0.length G0 p0,sla 53 3 O0 K0.length M0 C1,sla 48 4 Y0 Q0.length R0 S1,bk U0 [SL I0 D0 E0,SL J0 F0 G0,SL O0 K0 M0,SL Y0 Q0 R0,.slice none 0 0,.slice none 0 0] 27] w∧B3.length≤E2∧SR C3 V3 B3∧Rows C3 S1 Q0) ?_ ?_
 replace u:=u.nilS 48 4
 replace u:=u.pk [1,1,1,1,1,0,0] rfl
 refine wb<|lp (α:=Nat×(List api_Token)×Int×Int×Int×(List api_Thread)) (λgh a w=>match gh with | (K7,D3,P5,Q5,R5,E3)=>∃ (F4:PH) (W3:Option Addr) (F2:Nat) (X4:Option Addr) (X3:Nat) (Y4:List Value),(Z59 N (Z53 N P0 D0 F0 K0)) K7 D3 P5 Q5 R5 E3=some r∧Ext w0 j0 F4∧Fr 128 [(2,PT b2),(5,SL G1 P0.1 n0),(8,PT C0),(9,PT U0)] a∧St w0 Nil [F4] [bk b2 [.slice none 0 0,.slice none 0 0,.slice none 0 0,.slice none 0 0,.slice none 0 0,.slice none 0 0] 27,bk C0 [SL W3 D3 F2,i6 P5,i6 Q5,i6 R5] 125,sla 23 1 I0 D0.length E0 X0,sla 53 3 J0 F0.length G0 p0,sla 53 3 O0 K0.length M0 C1,sla 48 4 X4 E3.length X3 Y4,bk U0 [SL I0 D0 E0,SL J0 F0 G0,SL O0 K0 M0,SL X4 E3 X3,.slice none 0 0,.slice none 0 0] 27] w∧D3.length≤F2∧SR F4 W3 D3∧Rows F4 Y4 E3) (λgh=>gh.1) (N,E4,L6,M6,O6,[]) ⟨j0,U4,R3,none,0,[],hm,(Ext.refl _ _),o.hs,u,hcA33,hrA34,.nil⟩ ?_
 rintro ⟨K7,D3,P5,Q5,R5,E3⟩ a w ⟨F4,W3,F2,X4,X3,Y4,hm,L7,o,u,hcB48,hrB49,G8⟩
 obtain _ | K7:=K7
 simp [Z59] at hm
 rw [Z59] at hm
 refine th<|th<|?_
 obtain ⟨Y3,h97,hm⟩:=bs hm
 refine rg<|qm o rfl λo=>?_
 replace u:=u.pk [1,0,0,0,0,0,0] rfl
 replace u:=St.sep [bk C0 [SL W3 D3 F2,i6 P5,i6 Q5,i6 R5] 125] u
 refine ls<|c1 o rfl call102 (Hm (St.le u) (p1:=(leadlineref05_In.mk D3 P5 Q5 R5)) (b2:=C0) (oa3:=W3) (cap4:=F2) hcB48 hrB49 (St.sepOk u) (St.sepDis u) h97) ⟨rfl,rfl,trivial⟩ (λv w a hR o=>?_)
 obtain ⟨d7,Q6,rfl,I8,J8,hk⟩:=hR
 replace u:=(u.mut hk .head).unsep
 refine re<|?_
 rcases bit hm with ⟨R6,hm⟩ | ⟨R6,hm⟩
 refine tn<|ctv o rfl R6<|wk<|tn<|wb<|th<|?_
 obtain ⟨T1,h104,hm⟩:=bs hm
 refine rg<|qm o rfl λo=>?_
 replace u:=u.pk [0,0,0,0,0,0,0] rfl
 replace u:=St.sep [bk C0 [SL d7 Y3.2.L Q6,i6 Y3.2.At,i6 Y3.2.E,i6 Y3.2.Pos] 125] u
 refine ls<|c1 o rfl call104 (Xm (St.le u) (p1:=Y3.2) (b2:=C0) (oa3:=d7) (cap4:=Q6) I8 J8 (St.sepOk u) (St.sepDis u) h104) ⟨rfl,trivial⟩ (λv w a hR o=>?_)
 obtain ⟨K8,M7,rfl,K9,L9,hk⟩:=hR
 replace u:=(u.mut hk .head).unsep
 refine ls<|Ap (cs:=[Ac [],i6 0,i6 0].toArray) o rfl u zeroValue53 rfl λb109 w a u o=>ls<|Aw o u sizeOf53 rfl rfl rfl rfl (Ak rfl) .head λw u=>re<|tn<|?_
 obtain ⟨S0,h111,hm⟩:=bs hm
 obtain ⟨l133,h134,hm⟩:=bs hm
 refine rdL (Aa t0 (Aa t2 (Aa t3 (Aa t4 (Aa t5 (Aa t7 Af)))))) 12 u wide λw u=>ds 0 (St.ldsX u i2 (Aa t0 (Aa t2 (Aa t3 (Aa t4 (Aa t5 (Aa t7 Af))))))) o rfl (Ag o Dr rfl) λo=>dq 1 (St.ldsX u i2 (Aa t0 (Aa t2 (Aa t3 (Aa t4 (Aa t5 (Aa t7 Af))))))) o rfl (λw hl=>Ah o isAgg24 rfl (hl.cellB t5 rfl)) λo=>ds 2 (St.ldsX u i2 (Aa t0 (Aa t2 (Aa t3 (Aa t4 (Aa t5 (Aa t7 Af))))))) o rfl (Ab o rfl) λo=>ds 3 (St.ldsX u i2 (Aa t0 (Aa t2 (Aa t3 (Aa t4 (Aa t5 (Aa t7 Af))))))) o rfl (Ag o Ee rfl) λo=>dq 4 (St.ldsX u i2 (Aa t0 (Aa t2 (Aa t3 (Aa t4 (Aa t5 (Aa t7 Af))))))) o rfl (λw hl=>Ah o isAgg9 rfl (hl.cellB t0 rfl)) λo=>ds 5 (St.ldsX u i2 (Aa t0 (Aa t2 (Aa t3 (Aa t4 (Aa t5 (Aa t7 Af))))))) o rfl (Ag o Nt rfl) λo=>dq 6 (St.ldsX u i2 (Aa t0 (Aa t2 (Aa t3 (Aa t4 (Aa t5 (Aa t7 Af))))))) o rfl (λw hl=>Ah o isAgg3 rfl (hl.cellB t0 rfl)) λo=>dq 7 (St.ldsX u i2 (Aa t0 (Aa t2 (Aa t3 (Aa t4 (Aa t5 (Aa t7 Af))))))) o rfl (λw hl=>Bi [Ac T1.1.Name,i6 T1.1.At] [Ac T1.1.Name,.slice none 0 0,.slice none 0 0,i6 T1.1.At] o ⟨rfl,rfl,trivial⟩ (λw=>by kernel_rfl)) λo=>da1 (i:=8) (by kernel_rfl) ?_
 replace u:=u.pk [1,0,0,0,0,0,0,0] rfl
 replace u:=St.sep [bk C0 [SL K8 T1.2.L M7,i6 T1.2.At,i6 T1.2.E,i6 T1.2.Pos] 125] u
 refine di (i:=8) rfl<|c1 o rfl call105 (Xp (St.le u) (p1:=T1.2) (b2:=C0) (oa3:=K8) (cap4:=M7) K9 L9 (Nat.le_refl _) (SR.nil _ none) (St.sepOk u) (St.sepDis u) h111) ⟨rfl,rfl,trivial⟩ (λv w a hR o=>?_)
 obtain ⟨H115,cs116,M9,d8,rfl,g117,O9,P9,E1,Q9,hd114,hk⟩:=hR
 obtain ⟨u,E1⟩:=And.intro (St.mutH u hk E1 Q9 hd114) (St.extc0 u E1)
 replace u:=u.unsep
 obtain ⟨S6,S5,T6,T5,rfl,R9,S9,T9,U9⟩:=Az g117
 refine ⟨λ_=>(St.ldsX u E1.sub (Aa t1 (Aa t2 (Aa t3 (Aa t4 (Aa t5 (Aa t7 Af))))))),?_⟩
 refine da1 (i:=9) (by kernel_rfl) ?_
 refine di (i:=9) rfl<|Bh (e:=48) (sz:=4) [Ac S0.1.Name,SL S6 S0.1.Regs S5,SL T6 S0.1.Body T5,i6 S0.1.At] o rfl u rfl rfl rfl (λw=>by kernel_rfl) λb131 w a u o=>?_
 have V9:Rows (α:=api_Thread) H115 [Ac S0.1.Name,SL S6 S0.1.Regs S5,SL T6 S0.1.Body T5,i6 S0.1.At] ([S0.1]:List api_Thread):=(.cons (c:=[Ac S0.1.Name,SL S6 S0.1.Regs S5,SL T6 S0.1.Body T5,i6 S0.1.At]) ⟨_,_,rfl,rfl,⟨_,_,rfl,⟨_,_,rfl,R9,S9⟩,⟨_,_,rfl,⟨_,_,rfl,T9,U9⟩,rfl⟩⟩⟩ .nil)
 refine ⟨λ_=>(St.ldsX u E1.sub (Aa t2 (Aa t3 (Aa t4 (Aa t5 (Aa t6 (Aa t8 Af))))))),?_⟩
 refine da1 (i:=10) (by kernel_rfl) ?_
 refine di (i:=10) rfl<|Cc (α:=api_Thread) (xs:=E3) (ys:=([S0.1]:List api_Thread)) o rfl u underlying24 Ki rfl (by decide) rfl rfl rfl t7 (G8.mono E1.sub) (u.rdO t0) V9 h134 λW9 e8 X9 w a Y9 hU o=>?_
 replace u:=hU _ (.tail (.tail (.tail (.tail (.tail (.tail (.tail .head)))))))
 replace u:=u.drop .head
 refine ⟨λ_=>(St.ldsX u E1.sub (Aa t1 (Aa t2 (Aa t3 (Aa t4 (Aa t5 (Aa t7 Af))))))),?_⟩
 refine ds 11 (St.ldsX u E1.sub (Aa t1 (Aa t2 (Aa t3 (Aa t4 (Aa t5 (Aa t7 Af))))))) o rfl (Ag o Dr rfl) λo=>da1 (i:=12) (by kernel_rfl) ?_
 refine di (i:=12) rfl<|As o u sizeOf24 rfl rfl rfl rfl (.tail (.tail (.tail (.tail (.tail (.tail (.tail .head))))))) (.succ (.succ (.succ .zero))) λw u=>⟨λh=>absurd rfl h,?_⟩
 refine de (by kernel_rfl)<|bn<|tn<|?_
 replace u:=u.pk [2,0,1,1,1,1,1] rfl
 exact ⟨(K7,S0.2.L,S0.2.At,S0.2.E,S0.2.Pos,l133),⟨H115,M9,d8,W9,e8,X9,hm,(Ext.trans L7 E1),o.hs,u,O9,P9,Y9⟩,Nat.lt_succ_self _⟩
 refine tn<|cfv o rfl R6<|we<|tx<|tx<|bx<|tn<|?_
 replace u:=u.pk [1,0,0,0,0,0,0] rfl
 exact ⟨Y3.2.L,Y3.2.At,Y3.2.E,Y3.2.Pos,E3,F4,d7,Q6,X4,X3,Y4,hm,L7,o.hs,u,I8,J8,G8⟩
 rintro a w ⟨B3,L5,M5,O5,Q0,C3,V3,E2,Y0,R0,S1,hm,I1,o,u,hcA48,hrA49,d9⟩
 unfold Z53 at hm
 refine th<|th<|?_
 obtain ⟨U1,h140,hm⟩:=bs hm
 refine rg<|qm o rfl λo=>?_
 replace u:=u.pk [1,0,0,0,0,0,0] rfl
 replace u:=St.sep [bk C0 [SL V3 B3 E2,i6 L5,i6 M5,i6 O5] 125] u
 refine ls<|c1 o rfl call102 (Hm (St.le u) (p1:=(leadlineref05_In.mk B3 L5 M5 O5)) (b2:=C0) (oa3:=V3) (cap4:=E2) hcA48 hrA49 (St.sepOk u) (St.sepDis u) h140) ⟨rfl,rfl,trivial⟩ (λv w a hR o=>?_)
 obtain ⟨U6,U5,rfl,L8,M8,hk⟩:=hR
 replace u:=(u.mut hk .head).unsep
 refine re<|tn<|Ay (λa w=>∃ (G4:(List api_Token)) (V6:Int) (W6:Int) (X6:Int) (V0:(List api_Thread)) (G2:PH) (d4:Option Addr) (l3:Nat) (u0:Option Addr) (W0:Nat) (K2:List Value),(Z54 N P0 D0 F0 K0 Q0) G4 V6 W6 X6 V0=some r∧Ext w0 C3 G2∧Fr 128 [(2,PT b2),(5,SL G1 P0.1 n0),(8,PT C0),(9,PT U0)] a∧St w0 Nil [G2] [bk b2 [.slice none 0 0,.slice none 0 0,.slice none 0 0,.slice none 0 0,.slice none 0 0,.slice none 0 0] 27,bk C0 [SL d4 G4 l3,i6 V6,i6 W6,i6 X6] 125,sla 23 1 I0 D0.length E0 X0,sla 53 3 J0 F0.length G0 p0,sla 53 3 O0 K0.length M0 C1,sla 48 4 Y0 Q0.length R0 S1,sla 48 4 u0 V0.length W0 K2,bk U0 [SL I0 D0 E0,SL J0 F0 G0,SL O0 K0 M0,SL Y0 Q0 R0,SL u0 V0 W0,.slice none 0 0] 27] w∧G4.length≤l3∧SR G2 d4 G4∧Rows G2 K2 V0) ?_ ?_
 rcases bit hm with ⟨Y6,hm⟩ | ⟨Y6,hm⟩
 refine ctv o rfl Y6<|?_
 obtain ⟨j8,j7,hm⟩:=bs hm
 obtain ⟨c148,g149,e9⟩:=SR.get A5 j7
 obtain rfl:=Ba g149
 obtain ⟨T0,h152,hm⟩:=bs hm
 obtain ⟨l174,h175,hm⟩:=bs hm
 refine rdL (Aa t1 (Aa t2 (Aa t3 (Aa t4 (Aa t5 (Aa t6 Af)))))) 17 u wide λw u=>ds 0 (St.ldsX u i2 ta1) o rfl (Ag o Fl rfl) λo=>dq 1 (St.ldsX u i2 ta1) o rfl (λw hl=>Ah o isAgg24 rfl (hl.cellB t5 rfl)) λo=>ds 2 (St.ldsX u i2 ta1) o rfl (Ab o rfl) λo=>ds 3 (St.ldsX u i2 ta1) o rfl (Ab o rfl) λo=>ds 4 (St.ldsX u i2 ta1) o rfl (Ab o rfl) λo=>ds 5 (St.ldsX u i2 ta1) o rfl (Aj o rfl) λo=>ds 6 (St.ldsX u i2 ta1) o rfl (Ag o Bg rfl) λo=>da1 (i:=7) (by kernel_rfl) ?_
 refine di (i:=7) rfl<|q1 o rfl (Ah o isAgg3 rfl (u.ld.cellB t0 rfl)) λa o=>⟨λ_=>(St.ldsX u i2 ta1),?_⟩
 refine ds 8 (St.ldsX u i2 ta1) o rfl (Gp o rfl rfl) λo=>ds 9 (St.ldsX u i2 ta1) o rfl (Aq o runUnderlying120 sizeOf130 rfl rfl j7 (SR.oaI A5 (by decide) j7)) λo=>ds 10 (St.ldsX u i2 ta1) o rfl (Ag o Da rfl) λo=>dq 11 (St.ldsX u i2 ta1) o rfl (λw hl=>Ah o isAgg3 rfl (PH.le.cell (λb o hx=>(Lds.le hl) b o ((cp I1.sub Q4.sub) b o hx)) (e9 3 _ rfl))) λo=>dq 12 (St.ldsX u i2 ta1) o rfl (λw hl=>Bi [i6 j8.At] [Ac [],.slice none 0 0,.slice none 0 0,i6 j8.At] o ⟨rfl,trivial⟩ (λw=>by kernel_rfl)) λo=>da1 (i:=13) (by kernel_rfl) ?_
 replace u:=u.pk [0,0,0,0,0,0,0] rfl
 replace u:=St.sep [bk C0 [SL U6 U1.2.L U5,i6 U1.2.At,i6 U1.2.E,i6 U1.2.Pos] 125] u
 refine di (i:=13) rfl<|c1 o rfl call105 (Xp (St.le u) (p1:=U1.2) (b2:=C0) (oa3:=U6) (cap4:=U5) L8 M8 (Nat.le_refl _) (SR.nil _ none) (St.sepOk u) (St.sepDis u) h152) ⟨rfl,rfl,trivial⟩ (λv w a hR o=>?_)
 obtain ⟨H156,cs157,j9,l8,rfl,g158,k9,l9,Q1,n9,hd155,hk⟩:=hR
 obtain ⟨u,Q1⟩:=And.intro (St.mutH u hk Q1 n9 hd155) (St.extc0 u Q1)
 replace u:=u.unsep
 obtain ⟨d6,V5,j6,W5,rfl,o9,p9,u9,y9⟩:=Az g158
 refine ⟨λ_=>(St.ldsX u Q1.sub ta1),?_⟩
 refine da1 (i:=14) (by kernel_rfl) ?_
 refine di (i:=14) rfl<|Bh (e:=48) (sz:=4) [Ac T0.1.Name,SL d6 T0.1.Regs V5,SL j6 T0.1.Body W5,i6 T0.1.At] o rfl u rfl rfl rfl (λw=>by kernel_rfl) λb172 w a u o=>?_
 have hv171:Rows (α:=api_Thread) H156 [Ac T0.1.Name,SL d6 T0.1.Regs V5,SL j6 T0.1.Body W5,i6 T0.1.At] ([T0.1]:List api_Thread):=(.cons (c:=[Ac T0.1.Name,SL d6 T0.1.Regs V5,SL j6 T0.1.Body W5,i6 T0.1.At]) ⟨_,_,rfl,rfl,⟨_,_,rfl,⟨_,_,rfl,o9,p9⟩,⟨_,_,rfl,⟨_,_,rfl,u9,y9⟩,rfl⟩⟩⟩ .nil)
 refine ⟨λ_=>(St.ldsX u Q1.sub ta2),?_⟩
 refine da1 (i:=15) (by kernel_rfl) ?_
 replace u:=u.nilS 48 4
 refine di (i:=15) rfl<|Cc (α:=api_Thread) (xs:=[]) (ys:=([T0.1]:List api_Thread)) o rfl u underlying24 Ki rfl (by decide) rfl rfl rfl t0 .nil (u.rdO t1) hv171 h175 λoa176 n8 vs178 w a hv179 hU o=>?_
 replace u:=hU _ .head
 replace u:=u.drop (.tail .head)
 refine ⟨λ_=>(St.ldsX u Q1.sub ta2),?_⟩
 refine ds 16 (St.ldsX u Q1.sub ta2) o rfl (Ag o Fl rfl) λo=>da1 (i:=17) (by kernel_rfl) ?_
 refine di (i:=17) rfl<|As o u sizeOf24 rfl rfl rfl rfl (.tail (.tail (.tail (.tail (.tail (.tail (.tail .head))))))) (.succ (.succ (.succ (.succ .zero)))) λw u=>⟨λh=>absurd rfl h,?_⟩
 refine de (by kernel_rfl)<|tn<|?_
 replace u:=u.pk [2,1,1,1,1,1,0,0] rfl
 exact ⟨T0.2.L,T0.2.At,T0.2.E,T0.2.Pos,l174,H156,j9,l8,oa176,n8,vs178,hm,Q1,o.hs,u,k9,l9,hv179⟩
 refine cfv o rfl Y6<|wk<|tn<|?_
 replace u:=u.nilS 48 4
 replace u:=u.pk [2,1,1,1,1,1,0,0] rfl
 exact ⟨U1.2.L,U1.2.At,U1.2.E,U1.2.Pos,[],C3,U6,U5,none,0,[],hm,(Ext.refl _ _),o.hs,u,L8,M8,.nil⟩
 rintro a w ⟨G4,V6,W6,X6,V0,G2,d4,l3,u0,W0,K2,hm,J1,o,u,hcA63,hrA64,hvA72⟩
 unfold Z54 at hm
 refine th<|Ay (λa w=>∃ (I2:(List api_Token)) (I4:Int) (J4:Int) (K4:Int) (M1:(List api_Claim)) (V1:PH) (M2:Option Addr) (R1:Nat) (X1:Option Addr) (O1:Nat) (j4:List Value),(Z4z N P0 D0 F0 K0 Q0 V0) I2 I4 J4 K4 M1=some r∧Ext w0 G2 V1∧Fr 128 [(2,PT b2),(5,SL G1 P0.1 n0),(8,PT C0),(9,PT U0)] a∧St w0 Nil [V1] [bk b2 [.slice none 0 0,.slice none 0 0,.slice none 0 0,.slice none 0 0,.slice none 0 0,.slice none 0 0] 27,bk C0 [SL M2 I2 R1,i6 I4,i6 J4,i6 K4] 125,sla 23 1 I0 D0.length E0 X0,sla 53 3 J0 F0.length G0 p0,sla 53 3 O0 K0.length M0 C1,sla 48 4 Y0 Q0.length R0 S1,sla 48 4 u0 V0.length W0 K2,sla 74 2 X1 M1.length O1 j4,bk U0 [SL I0 D0 E0,SL J0 F0 G0,SL O0 K0 M0,SL Y0 Q0 R0,SL u0 V0 W0,SL X1 M1 O1] 27] w∧I2.length≤R1∧SR V1 M2 I2∧Rows V1 j4 M1) ?_ ?_
 replace u:=u.nilS 74 2
 replace u:=u.pk [1,1,1,1,1,1,1,0,0] rfl
 refine wb<|lp (α:=Nat×(List api_Token)×Int×Int×Int×(List api_Claim)) (λgh a w=>match gh with | (X5,F3,Y5,d5,j5,G3)=>∃ (L4:PH) (A4:Option Addr) (J2:Nat) (k4:Option Addr) (B4:Nat) (l4:List Value),(Z55 N (Z4z N P0 D0 F0 K0 Q0 V0) P0) X5 F3 Y5 d5 j5 G3=some r∧Ext w0 G2 L4∧Fr 128 [(2,PT b2),(5,SL G1 P0.1 n0),(8,PT C0),(9,PT U0)] a∧St w0 Nil [L4] [bk b2 [.slice none 0 0,.slice none 0 0,.slice none 0 0,.slice none 0 0,.slice none 0 0,.slice none 0 0] 27,bk C0 [SL A4 F3 J2,i6 Y5,i6 d5,i6 j5] 125,sla 23 1 I0 D0.length E0 X0,sla 53 3 J0 F0.length G0 p0,sla 53 3 O0 K0.length M0 C1,sla 48 4 Y0 Q0.length R0 S1,sla 48 4 u0 V0.length W0 K2,sla 74 2 k4 G3.length B4 l4,bk U0 [SL I0 D0 E0,SL J0 F0 G0,SL O0 K0 M0,SL Y0 Q0 R0,SL u0 V0 W0,SL k4 G3 B4] 27] w∧F3.length≤J2∧SR L4 A4 F3∧Rows L4 l4 G3) (λgh=>gh.1) (N,G4,V6,W6,X6,[]) ⟨G2,d4,l3,none,0,[],hm,(Ext.refl _ _),o.hs,u,hcA63,hrA64,.nil⟩ ?_
 rintro ⟨X5,F3,Y5,d5,j5,G3⟩ a w ⟨L4,A4,J2,k4,B4,l4,hm,k5,o,u,hcB63,hrB64,O8⟩
 obtain _ | X5:=X5
 simp [Z55] at hm
 rw [Z55] at hm
 refine th<|th<|?_
 obtain ⟨Y1,h182,hm⟩:=bs hm
 refine rg<|qm o rfl λo=>?_
 replace u:=u.pk [1,0,0,0,0,0,0,0,0] rfl
 replace u:=St.sep [bk C0 [SL A4 F3 J2,i6 Y5,i6 d5,i6 j5] 125] u
 refine ls<|c1 o rfl call102 (Hm (St.le u) (p1:=(leadlineref05_In.mk F3 Y5 d5 j5)) (b2:=C0) (oa3:=A4) (cap4:=J2) hcB63 hrB64 (St.sepOk u) (St.sepDis u) h182) ⟨rfl,rfl,trivial⟩ (λv w a hR o=>?_)
 obtain ⟨k6,n5,rfl,P8,Q8,hk⟩:=hR
 replace u:=(u.mut hk .head).unsep
 refine re<|?_
 rcases bit hm with ⟨n6,hm⟩ | ⟨n6,hm⟩
 refine tn<|ctv o rfl n6<|wk<|tn<|wb<|?_
 obtain ⟨x188,k7,hm⟩:=bs hm
 obtain ⟨c190,g191,hl192⟩:=SR.get A5 k7
 obtain rfl:=Ba g191
 obtain ⟨B1,h194,hm⟩:=bs hm
 obtain ⟨l212,h213,hm⟩:=bs hm
 refine rdL (Aa t1 (Aa t2 (Aa t3 (Aa t4 (Aa t5 (Aa t6 (Aa t8 Af))))))) 16 u wide λw u=>ds 0 (St.ldsX u i2 (Aa t1 (Aa t2 (Aa t3 (Aa t4 (Aa t5 (Aa t6 (Aa t8 Af)))))))) o rfl (Ag o Ev rfl) λo=>dq 1 (St.ldsX u i2 (Aa t1 (Aa t2 (Aa t3 (Aa t4 (Aa t5 (Aa t6 (Aa t8 Af)))))))) o rfl (λw hl=>Ah o isAgg25 rfl (hl.cellB t6 rfl)) λo=>ds 2 (St.ldsX u i2 (Aa t1 (Aa t2 (Aa t3 (Aa t4 (Aa t5 (Aa t6 (Aa t8 Af)))))))) o rfl (Ab o rfl) λo=>ds 3 (St.ldsX u i2 (Aa t1 (Aa t2 (Aa t3 (Aa t4 (Aa t5 (Aa t6 (Aa t8 Af)))))))) o rfl (Ab o rfl) λo=>ds 4 (St.ldsX u i2 (Aa t1 (Aa t2 (Aa t3 (Aa t4 (Aa t5 (Aa t6 (Aa t8 Af)))))))) o rfl (Ab o rfl) λo=>ds 5 (St.ldsX u i2 (Aa t1 (Aa t2 (Aa t3 (Aa t4 (Aa t5 (Aa t6 (Aa t8 Af)))))))) o rfl (Aj o rfl) λo=>ds 6 (St.ldsX u i2 (Aa t1 (Aa t2 (Aa t3 (Aa t4 (Aa t5 (Aa t6 (Aa t8 Af)))))))) o rfl (Ag o Bg rfl) λo=>da1 (i:=7) (by kernel_rfl) ?_
 refine di (i:=7) rfl<|q1 o rfl (Ah o isAgg3 rfl (u.ld.cellB t0 rfl)) λa o=>⟨λ_=>(St.ldsX u i2 (Aa t1 (Aa t2 (Aa t3 (Aa t4 (Aa t5 (Aa t6 (Aa t8 Af)))))))),?_⟩
 refine ds 8 (St.ldsX u i2 (Aa t1 (Aa t2 (Aa t3 (Aa t4 (Aa t5 (Aa t6 (Aa t8 Af)))))))) o rfl (Gp o rfl rfl) λo=>ds 9 (St.ldsX u i2 (Aa t1 (Aa t2 (Aa t3 (Aa t4 (Aa t5 (Aa t6 (Aa t8 Af)))))))) o rfl (Aq o runUnderlying120 sizeOf130 rfl rfl k7 (SR.oaI A5 (by decide) k7)) λo=>ds 10 (St.ldsX u i2 (Aa t1 (Aa t2 (Aa t3 (Aa t4 (Aa t5 (Aa t6 (Aa t8 Af)))))))) o rfl (Ag o Da rfl) λo=>dq 11 (St.ldsX u i2 (Aa t1 (Aa t2 (Aa t3 (Aa t4 (Aa t5 (Aa t6 (Aa t8 Af)))))))) o rfl (λw hl=>Ah o isAgg3 rfl (PH.le.cell (λb o hx=>(Lds.le hl) b o ((cp (cp (cp k5.sub J1.sub) I1.sub) Q4.sub) b o hx)) (hl192 3 _ rfl))) λo=>da1 (i:=12) (by kernel_rfl) ?_
 replace u:=u.pk [0,0,0,0,0,0,0,0,0] rfl
 replace u:=St.sep [bk C0 [SL k6 Y1.2.L n5,i6 Y1.2.At,i6 Y1.2.E,i6 Y1.2.Pos] 125] u
 refine di (i:=12) rfl<|c1 o rfl call106 (Jby (St.le u) (p1:=Y1.2) (b2:=C0) (oa3:=k6) (cap4:=n5) P8 Q8 (St.sepOk u) (St.sepDis u) h194) ⟨rfl,rfl,trivial⟩ (λv w a hR o=>?_)
 obtain ⟨H198,cs199,oa205,v8,rfl,g200,hc207,hr208,F1,hl196,hd197,hk⟩:=hR
 obtain ⟨u,F1⟩:=And.intro (St.mutH u hk F1 hl196 hd197) (St.extc0 u F1)
 replace u:=u.unsep
 obtain ⟨u6,u5,rfl,hc203,hr204⟩:=Cp g200
 refine ⟨λ_=>(St.ldsX u F1.sub (Aa t1 (Aa t2 (Aa t3 (Aa t4 (Aa t5 (Aa t6 (Aa t8 Af)))))))),?_⟩
 refine da1 (i:=13) (by kernel_rfl) ?_
 refine di (i:=13) rfl<|Bh (e:=74) (sz:=2) [SL u6 B1.1.E u5,i6 B1.1.At] o rfl u rfl rfl rfl (λw=>by kernel_rfl) λb210 w a u o=>?_
 have hv209:Rows (α:=api_Claim) H198 [SL u6 B1.1.E u5,i6 B1.1.At] ([B1.1]:List api_Claim):=(.cons (c:=[SL u6 B1.1.E u5,i6 B1.1.At]) ⟨_,_,rfl,⟨_,_,rfl,hc203,hr204⟩,rfl⟩ .nil)
 refine ⟨λ_=>(St.ldsX u F1.sub (Aa t2 (Aa t3 (Aa t4 (Aa t5 (Aa t6 (Aa t7 (Aa t9 Af)))))))),?_⟩
 refine da1 (i:=14) (by kernel_rfl) ?_
 refine di (i:=14) rfl<|Cc (α:=api_Claim) (xs:=G3) (ys:=([B1.1]:List api_Claim)) o rfl u underlying25 Tr rfl (by decide) rfl rfl rfl t8 (O8.mono F1.sub) (u.rdO t0) hv209 h213 λoa214 y8 vs216 w a hv217 hU o=>?_
 replace u:=hU _ (.tail (.tail (.tail (.tail (.tail (.tail (.tail (.tail .head))))))))
 replace u:=u.drop .head
 refine ⟨λ_=>(St.ldsX u F1.sub (Aa t1 (Aa t2 (Aa t3 (Aa t4 (Aa t5 (Aa t6 (Aa t8 Af)))))))),?_⟩
 refine ds 15 (St.ldsX u F1.sub (Aa t1 (Aa t2 (Aa t3 (Aa t4 (Aa t5 (Aa t6 (Aa t8 Af)))))))) o rfl (Ag o Ev rfl) λo=>da1 (i:=16) (by kernel_rfl) ?_
 refine di (i:=16) rfl<|As o u sizeOf25 rfl rfl rfl rfl (.tail (.tail (.tail (.tail (.tail (.tail (.tail (.tail .head)))))))) (.succ (.succ (.succ (.succ (.succ .zero))))) λw u=>⟨λh=>absurd rfl h,?_⟩
 refine de (by kernel_rfl)<|bn<|tn<|?_
 replace u:=u.pk [1,0,0,0,0,0,0,0,0] rfl
 exact ⟨(X5,B1.2.L,B1.2.At,B1.2.E,B1.2.Pos,l212),⟨H198,oa205,v8,oa214,y8,vs216,hm,(Ext.trans k5 F1),o.hs,u,hc207,hr208,hv217⟩,Nat.lt_succ_self _⟩
 refine tn<|cfv o rfl n6<|we<|tx<|tx<|bx<|tn<|?_
 replace u:=u.pk [1,0,0,0,0,0,0,0,0] rfl
 exact ⟨Y1.2.L,Y1.2.At,Y1.2.E,Y1.2.Pos,G3,L4,k6,n5,k4,B4,l4,hm,k5,o.hs,u,P8,Q8,O8⟩
 rintro a w ⟨I2,I4,J4,K4,M1,V1,M2,R1,X1,O1,j4,hm,P1,o,u,hcA78,hrA79,hvA87⟩
 unfold Z4z at hm
 refine th<|th<|rg<|qm o rfl λo=>qv o (Aj o rfl) λo=>qv o (Ag o Bg rfl) λo=>qv o (Ah o isAgg3 rfl (u.ld.cellB t1 rfl)) λo=>qm o rfl λo=>qv o (Al (α:=api_Token) (xs:=P0.1) o runUnderlying120 rfl) λo=>qv o (Au o rfl rfl) λo=>re<|tn<|Ay (λa w=>∃ (A6:(List api_Token)) (n7:Int) (u7:Int) (v7:Int) (v6:Option Addr) (B6:Nat),(Z50 D0 F0 K0 Q0 V0 M1) A6 n7 u7 v7=some r∧Fr 128 [(2,PT b2),(8,PT C0),(9,PT U0)] a∧St w0 Nil [V1] [bk b2 [.slice none 0 0,.slice none 0 0,.slice none 0 0,.slice none 0 0,.slice none 0 0,.slice none 0 0] 27,bk C0 [SL v6 A6 B6,i6 n7,i6 u7,i6 v7] 125,sla 23 1 I0 D0.length E0 X0,sla 53 3 J0 F0.length G0 p0,sla 53 3 O0 K0.length M0 C1,sla 48 4 Y0 Q0.length R0 S1,sla 48 4 u0 V0.length W0 K2,sla 74 2 X1 M1.length O1 j4,bk U0 [SL I0 D0 E0,SL J0 F0 G0,SL O0 K0 M0,SL Y0 Q0 R0,SL u0 V0 W0,SL X1 M1 O1] 27] w∧A6.length≤B6∧SR V1 v6 A6) ?_ ?_
 rcases bip hm with ⟨y6,hm⟩ | ⟨y6,hm⟩
 refine ctv o rfl y6<|?_
 obtain ⟨z6,h220,hm⟩:=bs hm
 refine rg<|qm o rfl λo=>?_
 replace u:=u.pk [1,0,0,0,0,0,0,0,0] rfl
 replace u:=St.sep [bk C0 [SL M2 I2 R1,i6 I4,i6 J4,i6 K4] 125] u
 refine ls<|c1 o rfl call107 (Rc (St.le u) (p1:=(leadlineref05_In.mk I2 I4 J4 K4)) (b2:=C0) (oa3:=M2) (cap4:=R1) hcA78 hrA79 (St.sepOk u) (St.sepDis u) h220) ⟨rfl,trivial⟩ (λv w a hR o=>?_)
 obtain ⟨oa221,z8,rfl,hc223,hr224,hk⟩:=hR
 replace u:=(u.mut hk .head).unsep
 refine re<|tn<|?_
 replace u:=u.pk [1,0,0,0,0,0,0,0,0] rfl
 exact ⟨z6.L,z6.At,z6.E,z6.Pos,oa221,z8,hm,o.hs,u,hc223,hr224⟩
 refine cfv o rfl y6<|wk<|tn<|?_
 exact ⟨I2,I4,J4,K4,M2,R1,hm,o.hs,u,hcA78,hrA79⟩
 rintro a w ⟨A6,n7,u7,v7,v6,B6,hm,o,u,hcA92,hrA93⟩
 unfold Z50 at hm
 refine th<|th<|rg<|qm o rfl λo=>qv o (Aj o rfl) λo=>qv o (Ag o Cj rfl) λo=>qv o (Ah o isAgg29 rfl (u.ld.cellB t1 rfl)) λo=>qv o (Bu o rfl rfl) λo=>re<|?_
 rcases bip hm with ⟨A7,hm⟩ | ⟨A7,hm⟩
 refine tn<|ctv o rfl A7<|th<|rdL (Aa t1 (Aa t2 (Aa t3 (Aa t4 (Aa t5 (Aa t6 (Aa t7 (Aa t8 Af)))))))) 12 u wide λw u=>dq 0 (St.ldsX u i2 ta1) o rfl (λw hl=>Bi [] [.slice none 0 0,.slice none 0 0,.slice none 0 0,.slice none 0 0,.slice none 0 0,.slice none 0 0] o trivial (λw=>by kernel_rfl)) λo=>ds 1 (St.ldsX u i2 ta1) o rfl (Ab o rfl) λo=>ds 2 (St.ldsX u i2 ta1) o rfl (Aj o rfl) λo=>ds 3 (St.ldsX u i2 ta1) o rfl (Ag o Cj rfl) λo=>dq 4 (St.ldsX u i2 ta1) o rfl (λw hl=>Ah o isAgg29 rfl (hl.cellB t0 rfl)) λo=>ds 5 (St.ldsX u i2 ta1) o rfl (Ab o rfl) λo=>ds 6 (St.ldsX u i2 ta1) o rfl (Aj o rfl) λo=>ds 7 (St.ldsX u i2 ta1) o rfl (Ag o Ep rfl) λo=>dq 8 (St.ldsX u i2 ta1) o rfl (λw hl=>Ah o isAgg3 rfl (hl.cellB t0 rfl)) λo=>da1 (i:=9) (by kernel_rfl) ?_
 refine di (i:=9) rfl<|Aw o u sizeOf27 rfl rfl rfl rfl (Ak rfl) .head λw u=>⟨λ_=>(St.ldsX u i2 ta1),?_⟩
 refine ds 10 (St.ldsX u i2 ta1) o rfl (Bo o rfl) λo=>ds 11 (St.ldsX u i2 ta1) o rfl (Bo o rfl) λo=>de (by kernel_rfl)<|tn<|wr<|tr<|?_
 obtain rfl:=si hm
 exact r3c (vs:=[.slice none 0 0,.slice none 0 0,.slice none 0 0,.slice none 0 0,.slice none 0 0,.slice none 0 0]) (.inl rfl) o results64 rfl rfl rfl isAgg27 sizeOf27 rfl (u.ld.cellsB t0) ⟨V1,_,rfl,(show Enc.rep (α:=api_Prog) V1 [.slice none 0 0,.slice none 0 0,.slice none 0 0,.slice none 0 0,.slice none 0 0,.slice none 0 0] (api_Prog.mk [] [] [] [] [] []) from ⟨_,_,rfl,⟨none,0,rfl,Nat.le_refl _,SR.nil _ _⟩,⟨_,_,rfl,⟨none,0,rfl,Nat.le_refl _,SR.nil _ _⟩,⟨_,_,rfl,⟨none,0,rfl,Nat.le_refl _,SR.nil _ _⟩,⟨_,_,rfl,⟨none,0,rfl,Nat.le_refl _,SR.nil _ _⟩,⟨_,_,rfl,⟨none,0,rfl,Nat.le_refl _,SR.nil _ _⟩,⟨none,0,rfl,Nat.le_refl _,SR.nil _ _⟩⟩⟩⟩⟩⟩),(Ext.trans S8 (Ext.trans Q4 (Ext.trans I1 (Ext.trans J1 P1)))),(St.le u),u.keep⟩
 refine tn<|cfv o rfl A7<|wk<|tn<|th<|rg<|qv o (Ar o Tryz.isAgg27 Tryz.sizeOf27 rfl rfl (u.ld.cellsB t8)) λo=>ls<|Aw o u sizeOf27 rfl rfl rfl rfl (Ak rfl) .head λw u=>?_
 iterate 2 refine qa o rfl λo=>?_
 refine re<|tn<|wr<|?_
 obtain ⟨H229,O2,hr227,hc228,u⟩:=St.frzS u (.tail (.tail .head)) (C9.mono (cp (cp P1.sub J1.sub) I1.sub))
 obtain ⟨H233,P2,hr231,hc232,u⟩:=St.frzS u (.tail (.tail .head)) (F9.mono (cp (cp (cp O2.sub P1.sub) J1.sub) I1.sub))
 obtain ⟨H237,Q2,hr235,hc236,u⟩:=St.frzS u (.tail (.tail .head)) (J9.mono (cp (cp (cp (cp P2.sub O2.sub) P1.sub) J1.sub) I1.sub))
 obtain ⟨H241,R2,hr239,hc240,u⟩:=St.frzS u (.tail (.tail .head)) (d9.mono (cp (cp (cp (cp Q2.sub P2.sub) O2.sub) P1.sub) J1.sub))
 obtain ⟨H245,T2,hr243,hc244,u⟩:=St.frzS u (.tail (.tail .head)) (hvA72.mono (cp (cp (cp (cp R2.sub Q2.sub) P2.sub) O2.sub) P1.sub))
 obtain ⟨H249,U2,hr247,hc248,u⟩:=St.frzS u (.tail (.tail .head)) (hvA87.mono (cp (cp (cp (cp T2.sub R2.sub) Q2.sub) P2.sub) O2.sub))
 obtain rfl:=si hm
 exact r3c (vs:=[SL I0 D0 E0,SL J0 F0 G0,SL O0 K0 M0,SL Y0 Q0 R0,SL u0 V0 W0,SL X1 M1 O1]) (.inl rfl) o results64 rfl rfl rfl isAgg27 sizeOf27 rfl (u.ld.cellsB t0) ⟨H249,_,rfl,(show Enc.rep (α:=api_Prog) H249 [SL I0 D0 E0,SL J0 F0 G0,SL O0 K0 M0,SL Y0 Q0 R0,SL u0 V0 W0,SL X1 M1 O1] (api_Prog.mk D0 F0 K0 Q0 V0 M1) from ⟨_,_,rfl,⟨_,_,rfl,hc228,(hr227.mono (cp (cp (cp (cp U2.sub T2.sub) R2.sub) Q2.sub) P2.sub))⟩,⟨_,_,rfl,⟨_,_,rfl,hc232,(hr231.mono (cp (cp (cp U2.sub T2.sub) R2.sub) Q2.sub))⟩,⟨_,_,rfl,⟨_,_,rfl,hc236,(hr235.mono (cp (cp U2.sub T2.sub) R2.sub))⟩,⟨_,_,rfl,⟨_,_,rfl,hc240,(hr239.mono (cp U2.sub T2.sub))⟩,⟨_,_,rfl,⟨_,_,rfl,hc244,(hr243.mono U2.sub)⟩,⟨_,_,rfl,hc248,hr247⟩⟩⟩⟩⟩⟩),(Ext.trans S8 (Ext.trans Q4 (Ext.trans I1 (Ext.trans J1 (Ext.trans P1 (Ext.trans O2 (Ext.trans P2 (Ext.trans Q2 (Ext.trans R2 (Ext.trans T2 U2)))))))))),(St.le u),u.keep⟩
theorem Kl (hH:H.le w0) {p1:Str} {r:api_Prog} (hm:Z1c N p1=some r):Tot Tryz.prog 19 #[Ac p1] w0 (λv w'=>∃ (H':PH) (cs0:List Value),v=.agg cs0.toArray∧Enc.rep H' cs0 r∧Ext w0 H H'∧H'.le w'∧Keep Nil w0 w'):=by
 unfold Z1c at hm
 refine fn0 func19 rfl ntmps19 rfl rfl λa o=>?_
 have u:St w0 Nil [H] [] w0:=start1 hH
 refine th<|rg<|ls<|Ap (cs:=[.slice none 0 0,.slice none 0 0,.slice none 0 0,.slice none 0 0,.slice none 0 0,.slice none 0 0].toArray) o rfl u Tryz.zeroValue27 rfl λb2 w a u o=>re<|tn<|th<|?_
 obtain ⟨C0,h4,hm⟩:=bs hm
 refine rg<|qm o rfl λo=>ls<|c1 o rfl call64 (Jbg (St.le u) h4) ⟨rfl,trivial⟩ (λv w a hR o=>?_)
 obtain ⟨H8,cs9,rfl,E1,D0,F1,hk⟩:=hR
 obtain ⟨u,D0⟩:=And.intro (St.passH u hk D0 F1) (St.extc u D0)
 obtain ⟨M0,E0,O0,F0,P0,G0,Q0,I0,R0,J0,S0,K0,rfl,T0,U0,V0,W0,X0,Y0,j0,n0,p0,u0,B1,C1⟩:=Av E1
 refine qm o rfl λo=>?_
 iterate 3 refine qv o (Bv o rfl rfl) λo=>?_
 refine ls<|Ap (cs:=[.slice none 0 0,.slice none 0 0,.slice none 0 0,.slice none 0 0,.slice none 0 0,.slice none 0 0].toArray) o rfl u zeroValue27 rfl λG1 w a u o=>ls<|Aw o u sizeOf27 rfl rfl rfl rfl (Ak rfl) .head λw u=>?_
 iterate 2 refine qa o rfl λo=>?_
 refine re<|tn<|th<|rg<|qv o (Ar o Tryz.isAgg27 Tryz.sizeOf27 rfl rfl (u.ld.cellsB t0)) λo=>ls<|Aw o u sizeOf27 rfl rfl rfl rfl (Ak rfl) (.tail .head) λw u=>re<|tn<|wr<|?_
 obtain rfl:=si hm
 exact r1c (vs:=[SL M0 C0.1.Lines E0,SL O0 C0.1.Vols F0,SL P0 C0.1.Locks G0,SL Q0 C0.1.Threads I0,SL R0 C0.1.Recover J0,SL S0 C0.1.Claims K0]) (.inl rfl) o results19 rfl isAgg27 sizeOf27 rfl (u.ld.cellsB t1) ⟨H8,_,rfl,(show Enc.rep (α:=api_Prog) H8 [SL M0 C0.1.Lines E0,SL O0 C0.1.Vols F0,SL P0 C0.1.Locks G0,SL Q0 C0.1.Threads I0,SL R0 C0.1.Recover J0,SL S0 C0.1.Claims K0] C0.1 from ⟨_,_,rfl,⟨_,_,rfl,T0,U0⟩,⟨_,_,rfl,⟨_,_,rfl,V0,W0⟩,⟨_,_,rfl,⟨_,_,rfl,X0,Y0⟩,⟨_,_,rfl,⟨_,_,rfl,j0,n0⟩,⟨_,_,rfl,⟨_,_,rfl,p0,u0⟩,⟨_,_,rfl,B1,C1⟩⟩⟩⟩⟩⟩),D0,(St.le u),u.keep⟩
theorem Di (hH:H.le w0) {cs2:List Value} {p1:api_Prog} (g3:Enc.rep H cs2 p1) {r:(List Str)} (hm:Z5i N p1=some r):Tot Tryz.prog 20 #[.agg cs2.toArray] w0 (λv w'=>∃ (R1:Option Addr) (V0:Nat) (S1:List Value),v=SL R1 r V0∧(∀ h,Rows h S1 r)∧Fresh w0 (sla 9 1 R1 r.length V0 S1) w'):=by
 unfold Z5i at hm
 refine fnM func20 rfl ntmps20 rfl rfl λa o=>?_
 have u:St w0 Nil [H] [] w0:=start1 hH
 replace u:=St.ds0 u
 obtain ⟨T1,W0,U1,X0,Y0,P0,j0,Q0,n0,R0,p0,S0,rfl,L3,M3,V1,X1,Y1,B2,C2,E2,F2,G2,I2,J2⟩:=Av g3
 refine th<|rg<|ls<|Bz (cs:=[SL T1 p1.Lines W0,SL U1 p1.Vols X0,SL Y0 p1.Locks P0,SL j0 p1.Threads Q0,SL n0 p1.Recover R0,SL p0 p1.Claims S0].toArray) o rfl u rfl rfl λU3 w a u o=>qa o rfl λo=>re<|tn<|th<|rg<|ls<|Ap (cs:=[.slice none 0 0].toArray) o rfl u Tryz.zeroValue36 rfl λM0 w a u o=>re<|tn<|th<|th<|?_
 obtain ⟨I0,O3,hm⟩:=bs hm
 refine rg<|qv o (Ar o Tryz.isAgg27 Tryz.sizeOf27 rfl rfl (u.ld.cellsB t1)) λo=>ls<|c1 o rfl call65 (Rp (St.le u) (show Enc.rep (α:=api_Prog) H [SL T1 p1.Lines W0,SL U1 p1.Vols X0,SL Y0 p1.Locks P0,SL j0 p1.Threads Q0,SL n0 p1.Recover R0,SL p0 p1.Claims S0] p1 from ⟨_,_,rfl,⟨_,_,rfl,L3,M3⟩,⟨_,_,rfl,⟨_,_,rfl,V1,X1⟩,⟨_,_,rfl,⟨_,_,rfl,Y1,B2⟩,⟨_,_,rfl,⟨_,_,rfl,C2,E2⟩,⟨_,_,rfl,⟨_,_,rfl,F2,G2⟩,⟨_,_,rfl,I2,J2⟩⟩⟩⟩⟩⟩) O3) ⟨rfl,trivial⟩ (λv w a hR o=>?_)
 obtain ⟨H35,T0,cs38,rfl,K2,P3,O0,M2,hk⟩:=hR
 obtain ⟨u,O0⟩:=And.intro (St.passH u hk O0 M2) (St.extc u O0)
 obtain ⟨O2,B1,P2,C1,Q2,E1,R2,F1,T2,G1,U2,I1,rfl,V2,W2,X2,Y2,A3,B3,C3,D3,E3,F3,G3,I3⟩:=Av P3
 refine re<|tn<|wb<|?_
 replace o:Fr 15 [(3,PT M0),(6,.func (.func 108) #[] #[PT T0])] _:=o.has ⟨rfl,rfl,trivial⟩
 replace u:=u.nilS 9 1
 replace u:=u.pk [3,0,0] rfl
 obtain ⟨q64,Q3,hm⟩:=bs hm
 refine rf (ŝ:=q64) (lb:=[PT T0]) (ps:=[7,8]) (I:=λ(E0:(List Str)) (K0:PH) (L:List HA)=>∃ (F0:Option Addr) (C0:Nat) (G0:List Value),L=[sla 9 1 F0 E0.length C0 G0,bk M0 [SL F0 E0 C0] 36]∧(∀ b o,H35 b=some o→K0 b=some o)∧Rows K0 G0 E0) (J:=λ(_:Empty) (_:Code) (_:PH) (_:List HA)=>False) (λ(s:(List Str)) (x:(api_Cell×Int))=>Z5j s x) (λ(H:PH) (args:List Value) (x:api_Cell×Int)=>∃ (cs0:List Value),args=[.agg cs0.toArray,i6 x.2]∧Enc.rep H cs0 x.1) o rfl call108 rfl (by rintro H args x ⟨_,rfl,_⟩;rfl) u ⟨none,0,[],rfl,i2,.nil⟩ (by rintro E0 H Hn L hs ⟨F0,C0,G0,rfl,hu,J0⟩;exact ⟨_,_,_,rfl,(cp hs hu),(J0.mono hs)⟩) (λt=>t.elim) (λlq C Lc w1 hyc hcm hc hle hok hdis=>Lg (Rv hle hyc hcm hc (show Enc.rep (α:=api_Prog) H35 [SL O2 I0.Lines B1,SL P2 I0.Vols C1,SL Q2 I0.Locks E1,SL R2 I0.Threads F1,SL T2 I0.Recover G1,SL U2 I0.Claims I1] I0 from ⟨_,_,rfl,⟨_,_,rfl,V2,W2⟩,⟨_,_,rfl,⟨_,_,rfl,X2,Y2⟩,⟨_,_,rfl,⟨_,_,rfl,A3,B3⟩,⟨_,_,rfl,⟨_,_,rfl,C3,D3⟩,⟨_,_,rfl,⟨_,_,rfl,E3,F3⟩,⟨_,_,rfl,G3,I3⟩⟩⟩⟩⟩⟩) K2 (Ie hok) (Fz hdis) Q3)) ?_ ?_ ?_
 intro l X Y s D0 r K0 Lu args w0 a K Qr hI hex hm o u hK hN hR
 obtain ⟨E0,hsq⟩:∃ v,v=s:=⟨_,rfl⟩
 subst hsq
 obtain ⟨F0,C0,G0,rfl,J1,J0⟩:=hI
 replace hm:Z5j E0 D0=some r:=hm
 unfold Z5j at hm
 obtain ⟨cs125,rfl,J3⟩:=hex
 replace o:Fr 15 [(8,i6 D0.2),(7,.agg cs125.toArray),(3,PT M0),(6,.func (.func 108) #[] #[PT T0])] a:=o
 obtain rfl:=Bl J3
 refine rg<|ls<|Ap (cs:=[Ac [],i6 0,i6 0].toArray) o rfl u Tryz.zeroValue53 rfl λR3 w a u o=>ls<|Aw o u sizeOf53 rfl rfl rfl rfl (Ak rfl) .head λw u=>re<|?_
 replace u:=u.pk [1,0,0,0] rfl
 refine tn<|hK _ _ _ _ u λw u=>wb<|?_
 obtain ⟨S3,K3,hm⟩:=bs hm
 refine rg<|qv o (Ah o Tryz.isAgg36 rfl (u.ld.cellB t3 rfl)) λo=>qv o (Ag o Ee rfl) λo=>qv o (Ah o isAgg9 rfl (u.ld.cellB t1 rfl)) λo=>ls<|Bh (e:=9) (sz:=1) [Ac D0.1.Name] o rfl u rfl rfl rfl (λw=>by kernel_rfl) λT3 w a u o=>?_
 have M1:Rows (α:=Str) K0 [Ac D0.1.Name] ([D0.1.Name]:List Str):=(.cons (c:=[Ac D0.1.Name]) rfl .nil)
 refine ls<|Cc (α:=Str) (xs:=E0) (ys:=([D0.1.Name]:List Str)) o rfl u underlying36 Sf rfl (by decide) rfl rfl rfl t3 J0 (u.rdO t0) M1 K3 λO1 u0 P1 w a Q1 hU o=>?_
 replace u:=hU _ (.tail (.tail (.tail .head)))
 replace u:=u.drop .head
 refine ls<|As o u sizeOf36 rfl rfl rfl rfl (.tail (.tail (.tail .head))) .zero λw u=>re<|bn<|?_
 obtain rfl:=si hm
 replace u:=u.pk [0,1,1] rfl
 exact hN _ _ _ _ _ rfl (ExtM.refl _ _ _) ⟨O1,u0,P1,rfl,J1,Q1⟩ u
 rintro E0 D137 K0 Lu a w rfl ⟨F0,C0,G0,rfl,huHA1,J0⟩ U0 o u
 replace U0:=ExtM.nil U0
 try dsimp only at hm
 replace o:Fr ⟨15,(D137 :: [])⟩ [(3,PT M0),(6,.func (.func 108) #[] #[PT T0])] a:=o
 replace u:St w0 Nil [K0] [dsA (D137 :: []),sla 9 1 F0 E0.length C0 G0,bk M0 [SL F0 E0 C0] 36] w:=u
 refine bn<|tn<|th<|rg<|qv o (Ah o Tryz.isAgg36 rfl (u.ld.cellB t2 rfl)) λo=>qa o rfl λo=>re<|tn<|wr<|?_
 obtain rfl:=si hm
 exact rM (.inl rfl) o u λw u=>⟨_,Xi o rfl rfl,⟨_,_,_,rfl,(λ_=>Rows.ind J0),u.endFresh t0⟩⟩
 exact λt=>t.elim
theorem Le (hH:H.le w0) {J0:Option Addr} {D0:Nat} {p1:(List Str)} (Y0:p1.length≤D0) (P0:SR H J0 p1) {oa7:Option Addr} {cap8:Nat} {p6:(List Str)} (j0:p6.length≤cap8) (K0:SR H oa7 p6) {r:Bool} (hm:Z5d N p1 p6=some r):Tot Tryz.prog 21 #[SL J0 p1 D0,SL oa7 p6 cap8] w0 (λv w'=>v=.bool r∧Keep Nil w0 w'):=by
 unfold Z5d at hm
 refine fn0 func21 rfl ntmps21 rfl rfl λa o=>?_
 have u:St w0 Nil [H] [] w0:=start1 hH
 refine th<|rg<|qa o rfl λo=>re<|tn<|th<|th<|rg<|qm o rfl λo=>qv o (Al (α:=Str) (xs:=p1) o runUnderlying36 rfl) λo=>qm o rfl λo=>qv o (Al (α:=Str) (xs:=p6) o runUnderlying36 rfl) λo=>qv o (Bu o rfl rfl) λo=>re<|?_
 rcases bip hm with ⟨E0,hm⟩ | ⟨E0,hm⟩
 refine tn<|ctv o rfl E0<|th<|rg<|qa o rfl λo=>re<|tn<|wr<|tr<|?_
 obtain rfl:=si hm
 exact r1 o results21 rfl ⟨rfl,u.keep⟩
 refine tn<|cfv o rfl E0<|wk<|tn<|th<|th<|rg<|qa o rfl λo=>re<|tn<|Ay (λa w=>Z5e=some r∧Fr 26 [] a∧St w0 Nil [H] [] w) ?_ ?_
 refine wb<|lp (α:=Nat×Int) (λgh a w=>match gh with | (C0,I0)=>(Z5f N Z5e p1 p6) C0 I0=some r∧Fr 26 [(0,SL J0 p1 D0),(1,SL oa7 p6 cap8),(5,i6 I0)] a∧St w0 Nil [H] [] w) (λgh=>gh.1) (N,0) ⟨hm,o.hs,u⟩ ?_
 rintro ⟨C0,I0⟩ a w ⟨hm,o,u⟩
 obtain _ | C0:=C0
 simp [Z5f] at hm
 rw [Z5f] at hm
 refine th<|th<|rg<|qm o rfl λo=>qm o rfl λo=>qv o (Al (α:=Str) (xs:=p1) o runUnderlying36 rfl) λo=>qv o (Au o rfl rfl) λo=>re<|?_
 rcases bip hm with ⟨F0,hm⟩ | ⟨F0,hm⟩
 refine tn<|ctv o rfl F0<|wk<|tn<|th<|wb<|th<|?_
 obtain ⟨Q0,M0,hm⟩:=bs hm
 obtain ⟨U0,V0,S0⟩:=SR.get P0 M0
 obtain rfl:U0=[Ac Q0]:=V0
 obtain ⟨R0,O0,hm⟩:=bs hm
 obtain ⟨W0,X0,T0⟩:=SR.get K0 O0
 obtain rfl:W0=[Ac R0]:=X0
 refine rxS 9 u wide (by kernel_rfl) λw u=>?_
 iterate 2 refine xq u.ld o (λw hl=>Ab o rfl) λo=>?_
 refine xr u o (Aq o runUnderlying36 sizeOf9 rfl rfl M0 (SR.oaI P0 (by decide) M0)) λo=>xq u.ld o (λw hl=>Ah o isAgg9 rfl (PH.le.cell (Lds.le hl) (S0 0 _ rfl))) λo=>?_
 iterate 2 refine xq u.ld o (λw hl=>Ab o rfl) λo=>?_
 refine xr u o (Aq o runUnderlying36 sizeOf9 rfl rfl O0 (SR.oaI K0 (by decide) O0)) λo=>xq u.ld o (λw hl=>Ah o isAgg9 rfl (PH.le.cell (Lds.le hl) (T0 0 _ rfl))) λo=>xr u o (Hu (m:=Q0) (n:=R0) o rfl rfl) λo=>xe<|?_
 rcases bip hm with ⟨G0,hm⟩ | ⟨G0,hm⟩
 refine tn<|ctv o rfl G0<|th<|rg<|qa o rfl λo=>re<|tn<|wr<|br<|tr<|tr<|br<|tr<|?_
 obtain rfl:=si hm
 exact r1 o results21 rfl ⟨rfl,u.keep⟩
 refine tn<|cfv o rfl G0<|wk<|bn<|tn<|rg<|qm o rfl λo=>qv o (Ao o rfl rfl) λo=>qa o rfl λo=>re<|tn<|?_
 exact ⟨(C0,(IntKind.i64.wrap (I0+1))),⟨hm,o.hs,u⟩,Nat.lt_succ_self _⟩
 refine tn<|cfv o rfl F0<|we<|tx<|tx<|bx<|tn<|?_
 exact ⟨hm,o.has trivial,u⟩
 rintro a w ⟨hm,o,u⟩
 unfold Z5e at hm
 refine th<|rg<|qa o rfl λo=>re<|tn<|wr<|?_
 obtain rfl:=si hm
 exact r1 o results21 rfl ⟨rfl,u.keep⟩
theorem Kd (hH:H.le w0) {cs2:List Value} {p1:api_Prog} (g3:Enc.rep H cs2 p1) {r:Int} (hm:Z64 N p1=some r):Tot Tryz.prog 23 #[.agg cs2.toArray] w0 (λv w'=>v=i6 r∧Keep Nil w0 w'):=by
 unfold Z64 at hm
 refine fn0 func23 rfl ntmps23 rfl rfl λa o=>?_
 have u:St w0 Nil [H] [] w0:=start1 hH
 obtain ⟨Q0,G0,j0,T0,U0,K0,V0,M0,W0,O0,X0,P0,rfl,S1,R0,u0,B1,C1,E1,F1,G1,I1,J1,M1,O1⟩:=Av g3
 refine th<|rg<|ls<|Bz (cs:=[SL Q0 p1.Lines G0,SL j0 p1.Vols T0,SL U0 p1.Locks K0,SL V0 p1.Threads M0,SL W0 p1.Recover O0,SL X0 p1.Claims P0].toArray) o rfl u rfl rfl λT1 w a u o=>qa o rfl λo=>re<|tn<|th<|rg<|qa o rfl λo=>re<|tn<|th<|th<|rg<|qv o (Ag o Cm rfl) λo=>qv o (Ah o isAgg22 rfl (u.ld.cellB t0 rfl)) λo=>qv o (Al (α:=(List api_Cell)) (xs:=p1.Lines) o runUnderlying22 rfl) λo=>qm o rfl λo=>re<|tn<|Ay (λa w=>∃ (I0:Int),Z65 I0=some r∧Fr 19 [(3,i6 I0)] a∧St w0 Nil [H] [] w) ?_ ?_
 replace u:=u.pickL .nil
 refine wb<|lp (α:=Nat×Int×Int) (λgh a w=>match gh with | (C0,D0,F0)=>(Z66 N Z65 p1) C0 D0 F0=some r∧Fr 19 [(3,i6 D0),(7,SL Q0 p1.Lines G0),(8,i6 (p1.Lines.length:Int)),(9,i6 F0)] a∧St w0 Nil [H] [] w) (λgh=>gh.1) (N,0,0) ⟨hm,o.hs,u⟩ ?_
 rintro ⟨C0,D0,F0⟩ a w ⟨hm,o,u⟩
 obtain _ | C0:=C0
 simp [Z66] at hm
 rw [Z66] at hm
 refine th<|rg<|qv o (Au o rfl rfl) λo=>re<|?_
 rcases bip hm with ⟨E0,hm⟩ | ⟨E0,hm⟩
 refine tn<|th<|ctv o rfl E0<|wk<|tn<|th<|wb<|th<|?_
 obtain ⟨S0,J0,hm⟩:=bs hm
 obtain ⟨U1,n0,Y0⟩:=SR.get R0 J0
 obtain ⟨P1,p0,rfl,Q1,R1⟩:=n0
 refine rg<|qv o (Aq o Tryz.runUnderlying22 Tryz.sizeOf23 rfl rfl J0 (SR.oaI R0 (by decide) J0)) λo=>qv o (Ah o isAgg23 rfl (PH.le.cell (Lds.le u.ld) (Y0 0 _ rfl))) λo=>qa o rfl λo=>re<|tn<|rg<|qm o rfl λo=>qm o rfl λo=>qv o (Al (α:=api_Cell) (xs:=S0) o runUnderlying23 rfl) λo=>qv o (Ao o rfl rfl) λo=>qa o rfl λo=>re<|bn<|tn<|rg<|qv o (Ao o rfl rfl) λo=>qm o rfl λo=>re<|tn<|?_
 exact ⟨(C0,(IntKind.i64.wrap (D0+(S0.length:Int))),(IntKind.i64.wrap (F0+1))),⟨hm,o.hs,u⟩,Nat.lt_succ_self _⟩
 refine tn<|th<|cfv o rfl E0<|we<|tx<|tx<|bx<|tn<|?_
 exact ⟨D0,hm,o.has ⟨rfl,trivial⟩,u⟩
 rintro a w ⟨I0,hm,o,u⟩
 unfold Z65 at hm
 refine th<|rg<|qm o rfl λo=>qa o rfl λo=>re<|tn<|wr<|?_
 obtain rfl:=si hm
 exact r1 o results23 rfl ⟨rfl,u.keep⟩
theorem Jl (hH:H.le w0) {cs2:List Value} {p1:api_Prog} (g3:Enc.rep H cs2 p1) {p4:Int} {r:Int} (hm:Z5y N p1 p4=some r):Tot Tryz.prog 25 #[.agg cs2.toArray,i6 p4] w0 (λv w'=>v=i6 r∧Keep Nil w0 w'):=by
 unfold Z5y at hm
 refine fnM func25 rfl ntmps25 rfl rfl λa o=>?_
 have u:St w0 Nil [H] [] w0:=start1 hH
 replace u:=St.ds0 u
 obtain ⟨M1,Y0,O1,M0,j0,O0,n0,P0,p0,Q0,u0,R0,rfl,D3,E3,P1,Q1,R1,S1,T1,U1,V1,X1,Y1,B2⟩:=Av g3
 refine th<|rg<|ls<|Bz (cs:=[SL M1 p1.Lines Y0,SL O1 p1.Vols M0,SL j0 p1.Locks O0,SL n0 p1.Threads P0,SL p0 p1.Recover Q0,SL u0 p1.Claims R0].toArray) o rfl u rfl rfl λJ3 w a u o=>ls<|Bz (cs:=[i6 p4].toArray) o rfl u rfl rfl λE0 w a u o=>ls<|Ap (cs:=[i6 0].toArray) o rfl u zeroValue3 rfl λC0 w a u o=>re<|tn<|th<|rg<|ls<|Ap (cs:=[i6 0].toArray) o rfl u Tryz.zeroValue3 rfl λF0 w a u o=>ls<|As o u sizeOf3 rfl rfl rfl rfl .head .zero λw u=>re<|tn<|th<|th<|?_
 obtain ⟨D0,F3,hm⟩:=bs hm
 refine rg<|qv o (Ar o Tryz.isAgg27 Tryz.sizeOf27 rfl rfl (u.ld.cellsB t3)) λo=>ls<|c1 o rfl call65 (Rp (St.le u) (show Enc.rep (α:=api_Prog) H [SL M1 p1.Lines Y0,SL O1 p1.Vols M0,SL j0 p1.Locks O0,SL n0 p1.Threads P0,SL p0 p1.Recover Q0,SL u0 p1.Claims R0] p1 from ⟨_,_,rfl,⟨_,_,rfl,D3,E3⟩,⟨_,_,rfl,⟨_,_,rfl,P1,Q1⟩,⟨_,_,rfl,⟨_,_,rfl,R1,S1⟩,⟨_,_,rfl,⟨_,_,rfl,T1,U1⟩,⟨_,_,rfl,⟨_,_,rfl,V1,X1⟩,⟨_,_,rfl,Y1,B2⟩⟩⟩⟩⟩⟩) F3) ⟨rfl,trivial⟩ (λv w a hR o=>?_)
 obtain ⟨H38,J0,cs41,rfl,C2,G3,K0,E2,hk⟩:=hR
 obtain ⟨u,K0⟩:=And.intro (St.passH u hk K0 E2) (St.extc u K0)
 obtain ⟨F2,C1,G2,E1,I2,F1,J2,G1,K2,I1,M2,J1,rfl,O2,P2,Q2,R2,T2,U2,V2,W2,X2,Y2,A3,B3⟩:=Av G3
 refine re<|tn<|wb<|?_
 replace o:Fr 18 [(3,PT E0),(4,PT C0),(5,PT F0),(9,.func (.func 108) #[] #[PT J0])] _:=o.hs
 replace u:=u.pk [4,2,1,0] rfl
 obtain ⟨q67,I3,hm⟩:=bs hm
 refine rf (ŝ:=q67) (lb:=[PT J0]) (ps:=[10,11]) (I:=λ(G0:Int) (S0:PH) (L:List HA)=>L=[bk E0 [i6 p4] 3,bk C0 [i6 0] 3,bk F0 [i6 G0] 3]∧(∀ b o,H38 b=some o→S0 b=some o)) (J:=λ(T0:Int) (c:Code) (B1:PH) (L:List HA)=>c=.ret∧L=[bk C0 [i6 T0] 3]∧(∀ b o,H38 b=some o→B1 b=some o)) (λ(s:Int) (x:(api_Cell×Int))=>(Z5z p4) s x) (λ(H:PH) (args:List Value) (x:api_Cell×Int)=>∃ (cs0:List Value),args=[.agg cs0.toArray,i6 x.2]∧Enc.rep H cs0 x.1) o rfl call108 rfl (by rintro H args x ⟨_,rfl,_⟩;rfl) u ⟨rfl,i2⟩ (by rintro G0 H Hn L hs ⟨rfl,hu⟩;exact ⟨rfl,(cp hs hu)⟩) (by rintro T0 _ H Hn L hs ⟨rfl,rfl,hu⟩;exact ⟨rfl,rfl,(cp hs hu)⟩) (λlq C Lc w1 hyc hcm hc hle hok hdis=>Lg (Rv hle hyc hcm hc (show Enc.rep (α:=api_Prog) H38 [SL F2 D0.Lines C1,SL G2 D0.Vols E1,SL I2 D0.Locks F1,SL J2 D0.Threads G1,SL K2 D0.Recover I1,SL M2 D0.Claims J1] D0 from ⟨_,_,rfl,⟨_,_,rfl,O2,P2⟩,⟨_,_,rfl,⟨_,_,rfl,Q2,R2⟩,⟨_,_,rfl,⟨_,_,rfl,T2,U2⟩,⟨_,_,rfl,⟨_,_,rfl,V2,W2⟩,⟨_,_,rfl,⟨_,_,rfl,X2,Y2⟩,⟨_,_,rfl,A3,B3⟩⟩⟩⟩⟩⟩) C2 (Ie hok) (Fz hdis) I3)) ?_ ?_ ?_
 intro l X Y s U0 r S0 Lu args w0 a K Qr hI hex hm o u hK hN hR
 obtain ⟨G0,hsq⟩:∃ v,v=s:=⟨_,rfl⟩
 subst hsq
 obtain ⟨rfl,V0⟩:=hI
 replace hm:(Z5z p4) G0 U0=some r:=hm
 unfold Z5z at hm
 obtain ⟨cs128,rfl,C3⟩:=hex
 replace o:Fr 18 [(11,i6 U0.2),(10,.agg cs128.toArray),(3,PT E0),(4,PT C0),(5,PT F0),(9,.func (.func 108) #[] #[PT J0])] a:=o
 obtain rfl:=Bl C3
 refine rg<|qa o rfl λo=>re<|tn<|hK _ _ _ _ u λw u=>wb<|th<|th<|rg<|qv o (Ah o Tryz.isAgg3 rfl (u.ld.cellB t3 rfl)) λo=>qv o (Ah o isAgg3 rfl (u.ld.cellB t1 rfl)) λo=>qv o (Am o rfl rfl) λo=>re<|?_
 rcases bip hm with ⟨I0,hm⟩ | ⟨I0,hm⟩
 refine tn<|ctv o rfl I0<|th<|rg<|qm o rfl λo=>ls<|As o u sizeOf3 rfl rfl rfl rfl (.tail (.tail .head)) .zero λw u=>re<|tn<|wr<|tr<|br<|?_
 obtain rfl:=si hm
 replace u:=u.pk [0,1] rfl
 exact hR _ _ _ _ _ _ _ rfl rfl (ExtM.refl _ _ _) ⟨rfl,rfl,V0⟩ u
 refine tn<|cfv o rfl I0<|wk<|tn<|rg<|qv o (Ah o Tryz.isAgg3 rfl (u.ld.cellB t3 rfl)) λo=>qv o (Ao o rfl rfl) λo=>ls<|As o u sizeOf3 rfl rfl rfl rfl (.tail (.tail (.tail .head))) .zero λw u=>re<|bn<|?_
 obtain rfl:=si hm
 exact hN _ _ _ _ _ rfl (ExtM.refl _ _ _) ⟨rfl,V0⟩ u
 rintro G0 D131 S0 Lu a w rfl ⟨rfl,huHA1⟩ W0 o u
 replace W0:=ExtM.nil W0
 try dsimp only at hm
 replace o:Fr ⟨18,(D131 :: [])⟩ [(3,PT E0),(4,PT C0),(5,PT F0),(9,.func (.func 108) #[] #[PT J0])] a:=o
 replace u:St w0 Nil [S0] [dsA (D131 :: []),bk E0 [i6 p4] 3,bk C0 [i6 0] 3,bk F0 [i6 G0] 3] w:=u
 refine bn<|tn<|th<|rg<|ls<|As o u Tryz.sizeOf3 rfl rfl rfl rfl (.tail (.tail .head)) .zero λw u=>re<|tn<|wr<|?_
 obtain rfl:=si hm
 exact rM (.inl rfl) o u λw u=>⟨_,Xu o rfl rfl isAgg3 (u.ld.cellB t1 rfl),⟨rfl,u.keep⟩⟩
 rintro T0 _ D133 B1 Lu a w rfl ⟨rfl,rfl,huHA3⟩ X0 o u
 replace X0:=ExtM.nil X0
 try dsimp only at hm
 replace o:Fr ⟨18,(D133 :: [])⟩ [(3,PT E0),(4,PT C0),(5,PT F0),(9,.func (.func 108) #[] #[PT J0])] a:=o
 replace u:St w0 Nil [B1] [dsA (D133 :: []),bk C0 [i6 T0] 3] w:=u
 refine wr<|br<|tr<|?_
 obtain rfl:=si hm
 exact rM (.inl rfl) o u λw u=>⟨_,Xu o rfl rfl isAgg3 (u.ld.cellB t0 rfl),⟨rfl,u.keep⟩⟩
theorem Xq (hH:H.le w0) {cs2:List Value} {p1:api_Prog} (g3:Enc.rep H cs2 p1) {r:(List Str)} (hm:Z60 N p1=some r):Tot Tryz.prog 27 #[.agg cs2.toArray] w0 (λv w'=>∃ (p0:Option Addr) (S0:Nat) (u0:List Value),v=SL p0 r S0∧(∀ h,Rows h u0 r)∧Fresh w0 (sla 9 1 p0 r.length S0 u0) w'):=by
 unfold Z60 at hm
 refine fn0 func27 rfl ntmps27 rfl rfl λa o=>?_
 have u:St w0 Nil [H] [] w0:=start1 hH
 obtain ⟨R1,B1,S1,C1,T0,Q0,E1,X0,F1,Y0,G1,j0,rfl,K2,M2,X1,Y1,B2,U0,C2,E2,F2,G2,I2,J2⟩:=Av g3
 refine th<|rg<|ls<|Bz (cs:=[SL R1 p1.Lines B1,SL S1 p1.Vols C1,SL T0 p1.Locks Q0,SL E1 p1.Threads X0,SL F1 p1.Recover Y0,SL G1 p1.Claims j0].toArray) o rfl u rfl rfl λO2 w a u o=>qa o rfl λo=>re<|tn<|th<|rg<|qa o rfl λo=>re<|tn<|th<|th<|rg<|qv o (Ag o Gq rfl) λo=>qv o (Ah o isAgg23 rfl (u.ld.cellB t0 rfl)) λo=>qv o (Al (α:=api_Cell) (xs:=p1.Locks) o runUnderlying23 rfl) λo=>qm o rfl λo=>re<|tn<|Ay (λa w=>∃ (I0:(List Str)) (M0:Option Addr) (E0:Nat) (O0:List Value),Z61 I0=some r∧Fr 20 [(3,SL M0 I0 E0)] a∧St w0 Nil [H] [sla 9 1 M0 I0.length E0 O0] w∧Rows H O0 I0) ?_ ?_
 replace u:=u.nilS 9 1
 replace u:=u.pk [0] rfl
 refine wb<|lp (α:=Nat×(List Str)×Int) (λgh a w=>match gh with | (J0,D0,R0)=>∃ (F0:Option Addr) (C0:Nat) (G0:List Value),(Z62 N Z61 p1) J0 D0 R0=some r∧Fr 20 [(3,SL F0 D0 C0),(7,SL T0 p1.Locks Q0),(8,i6 (p1.Locks.length:Int)),(9,i6 R0)] a∧St w0 Nil [H] [sla 9 1 F0 D0.length C0 G0] w∧Rows H G0 D0) (λgh=>gh.1) (N,[],0) ⟨none,0,[],hm,o.hs,u,.nil⟩ ?_
 rintro ⟨J0,D0,R0⟩ a w ⟨F0,C0,G0,hm,o,u,V0⟩
 obtain _ | J0:=J0
 simp [Z62] at hm
 rw [Z62] at hm
 refine th<|rg<|qv o (Au o rfl rfl) λo=>re<|?_
 rcases bip hm with ⟨P0,hm⟩ | ⟨P0,hm⟩
 refine tn<|th<|ctv o rfl P0<|wk<|tn<|th<|wb<|th<|?_
 obtain ⟨K0,W0,hm⟩:=bs hm
 obtain ⟨P2,T1,I1⟩:=SR.get U0 W0
 obtain rfl:=Bl T1
 refine rg<|qv o (Aq o Tryz.runUnderlying23 Tryz.sizeOf53 rfl rfl W0 (SR.oaI U0 (by decide) W0)) λo=>qv o (Ar o isAgg53 sizeOf53 rfl rfl (λj v hj=>PH.le.cell (Lds.le u.ld) (I1 j v hj))) λo=>ls<|Ap (cs:=[Ac [],i6 0,i6 0].toArray) o rfl u zeroValue53 rfl λQ2 w a u o=>ls<|Aw o u sizeOf53 rfl rfl rfl rfl (Ak rfl) .head λw u=>re<|tn<|?_
 obtain ⟨U1,V1,hm⟩:=bs hm
 refine rg<|qm o rfl λo=>qv o (Ag o Ee rfl) λo=>qv o (Ah o isAgg9 rfl (u.ld.cellB t0 rfl)) λo=>ls<|Bh (e:=9) (sz:=1) [Ac K0.Name] o rfl u rfl rfl rfl (λw=>by kernel_rfl) λR2 w a u o=>?_
 have J1:Rows (α:=Str) H [Ac K0.Name] ([K0.Name]:List Str):=(.cons (c:=[Ac K0.Name]) rfl .nil)
 refine ls<|Cc (α:=Str) (xs:=D0) (ys:=([K0.Name]:List Str)) o rfl u underlying36 Sf rfl (by decide) rfl rfl rfl t2 V0 (u.rdO t0) J1 V1 λM1 n0 O1 w a P1 hU o=>?_
 replace u:=hU _ (.tail (.tail .head))
 replace u:=u.drop .head
 refine qa o rfl λo=>re<|bn<|tn<|rg<|qv o (Ao o rfl rfl) λo=>qm o rfl λo=>re<|tn<|?_
 replace u:=u.pk [1] rfl
 exact ⟨(J0,U1,(IntKind.i64.wrap (R0+1))),⟨M1,n0,O1,hm,o.hs,u,P1⟩,Nat.lt_succ_self _⟩
 refine tn<|th<|cfv o rfl P0<|we<|tx<|tx<|bx<|tn<|?_
 exact ⟨D0,F0,C0,G0,hm,o.has ⟨rfl,trivial⟩,u,V0⟩
 rintro a w ⟨I0,M0,E0,O0,hm,o,u,Q1⟩
 unfold Z61 at hm
 refine th<|rg<|qm o rfl λo=>qa o rfl λo=>re<|tn<|wr<|?_
 obtain rfl:=si hm
 exact r1 o results27 rfl ⟨_,_,_,rfl,(λ_=>Rows.ind Q1),u.endFresh t0⟩
end Go.LM.LB
