/- Walks, lifted by program. No condition beyond the theorems' own premises. -/
import Derived.Test.YtgdkaddhhpgeiaaGreatDoorLBQ5
namespace Go.LM.LB
open Go Go.LL Go.MD Go.LM Go.Proofs Go.MD.LB Go.Proofs.Tryz
set_option maxRecDepth 100000
variable {N:Nat} {w0:World} {H:PH}
set_option maxHeartbeats 4000000 in
theorem Ys (hH:H.le w0) {b2:Nat} {p1:leadlineref05_In} {oa3:Option Addr} {cap4:Nat} (Q3:p1.L.length≤cap4) (R3:SR H oa3 p1.L) {p7:Str} {W0:Option Addr} {K0:Nat} {p8:(List api_Stmt)} (U2:p8.length≤K0) (V2:SR H W0 p8) {p13:Int} (hO:(sepA [bk b2 [SL oa3 p1.L cap4,i6 p1.At,i6 p1.E,i6 p1.Pos] 125]).ok (hp w0)) (hD:∀ b,(sepA [bk b2 [SL oa3 p1.L cap4,i6 p1.At,i6 p1.E,i6 p1.Pos] 125]).fp b→H b=none) {r:(api_Thread×leadlineref05_In)} (hm:Z3z N p1 p7 p8 p13=some r):Tot Tryz.prog 105 #[PT b2,.agg #[Ac p7,.slice none 0 0,SL W0 p8 K0,i6 p13]] w0 (λv w'=>∃ (H':PH) (cs0:List Value) (oa1m:Option Addr) (cap1m:Nat),v=.agg cs0.toArray∧Enc.rep H' cs0 r.1∧r.2.L.length≤cap1m∧SR H' oa1m r.2.L∧ExtM w0 (sepA [bk b2 [SL oa3 p1.L cap4,i6 p1.At,i6 p1.E,i6 p1.Pos] 125]).fp H H'∧H'.le w'∧(∀ b,(sepA [bk b2 [SL oa1m r.2.L cap1m,i6 r.2.At,i6 r.2.E,i6 r.2.Pos] 125]).fp b→H' b=none)∧Mut w0 (sepA [bk b2 [SL oa3 p1.L cap4,i6 p1.At,i6 p1.E,i6 p1.Pos] 125]) (sepA [bk b2 [SL oa1m r.2.L cap1m,i6 r.2.At,i6 r.2.E,i6 r.2.Pos] 125]) w'):=by
 unfold Z3z at hm
 refine fn0 func105 rfl ntmps105 rfl rfl λa o=>?_
 have u:=Cm hH hO hD
 refine th<|rg<|ls<|Bs (cs:=[Ac p7,.slice none 0 0,SL W0 p8 K0,i6 p13].toArray) o rfl u rfl rfl λX0 w a u o=>ls<|Aw (cs:=[Ac [],.slice none 0 0,.slice none 0 0,i6 0].toArray) o rfl u zeroValue48 rfl λY0 w a u o=>re<|tn<|th<|rg<|qm o rfl λo=>qv o (Aj o rfl) λo=>qv o (Af o Bh rfl) λo=>qv o (Ag o isAgg3 rfl (u.ld.cellB t2 rfl)) λo=>qa o rfl λo=>re<|tn<|th<|?_
 obtain ⟨E1,S3,hm⟩:=bs hm
 refine rg<|qm o rfl λo=>?_
 replace u:=u.pk [2,0,0] rfl
 replace u:=St.sep [bk b2 [SL oa3 p1.L cap4,i6 p1.At,i6 p1.E,i6 p1.Pos] 125] u
 refine ls<|c1 o rfl call140 (Vs (St.le u) (p1:=p1) (b2:=b2) (oa3:=oa3) (cap4:=cap4) Q3 R3 (St.sepOk u) (St.sepDis u) S3) ⟨rfl,rfl,trivial⟩ (λv w a hR o=>?_)
 obtain ⟨F2,T1,rfl,W2,X2,hk⟩:=hR
 replace u:=(u.mut hk .head).unsep
 refine re<|tn<|th<|th<|?_
 obtain ⟨M0,T3,hm⟩:=bs hm
 refine rg<|qm o rfl λo=>?_
 replace u:=u.pk [0,0,0] rfl
 replace u:=St.sep [bk b2 [SL F2 E1.L T1,i6 E1.At,i6 E1.E,i6 E1.Pos] 125] u
 refine ls<|c1 o rfl call102 (H7 (St.le u) (p1:=E1) (b2:=b2) (oa3:=F2) (cap4:=T1) W2 X2 (St.sepOk u) (St.sepDis u) T3) ⟨rfl,rfl,trivial⟩ (λv w a hR o=>?_)
 obtain ⟨I1,j0,rfl,G2,I2,hk⟩:=hR
 replace u:=(u.mut hk .head).unsep
 refine re<|tn<|Au (λa w=>∃ (S0:(List api_Token)) (U1:Int) (V1:Int) (X1:Int) (G0:(List Str)) (T0:Option Addr) (O0:Nat) (E0:Option Addr) (D0:Nat) (Q0:List Value),(Z40 N p1 p7 p8 p13) S0 U1 V1 X1 G0=some r∧Fr 73 [(0,PT b2),(3,PT X0),(4,PT Y0),(5,i6 p1.At)] a∧St w0 (sepA [bk b2 [SL oa3 p1.L cap4,i6 p1.At,i6 p1.E,i6 p1.Pos] 125]).fp [H] [bk b2 [SL T0 S0 O0,i6 U1,i6 V1,i6 X1] 125,sla 9 1 E0 G0.length D0 Q0,bk X0 [Ac p7,SL E0 G0 D0,SL W0 p8 K0,i6 p13] 48,bk Y0 [Ac [],.slice none 0 0,.slice none 0 0,i6 0] 48] w∧S0.length≤O0∧SR H T0 S0∧Rows H Q0 G0) ?_ ?_
 rcases bit hm with ⟨J1,hm⟩ | ⟨J1,hm⟩
 refine ctv o rfl J1<|th<|?_
 obtain ⟨F0,U3,hm⟩:=bs hm
 refine rg<|qm o rfl λo=>?_
 replace u:=u.pk [0,0,0] rfl
 replace u:=St.sep [bk b2 [SL I1 M0.2.L j0,i6 M0.2.At,i6 M0.2.E,i6 M0.2.Pos] 125] u
 refine ls<|c1 o rfl call103 (Rk (St.le u) (p1:=M0.2) (b2:=b2) (oa3:=I1) (cap4:=j0) G2 I2 (St.sepOk u) (St.sepDis u) U3) ⟨rfl,rfl,trivial⟩ (λv w a hR o=>?_)
 obtain ⟨J2,Y1,Y2,K2,B2,rfl,n0,A3,B3,hk⟩:=hR
 replace u:=(u.mut hk .head).unsep
 replace n0:=n0 H
 refine qa o rfl λo=>re<|tn<|th<|rg<|qa o rfl λo=>re<|?_
 replace u:=u.nilS 9 1
 replace u:=u.pk [1,0,2,1,0] rfl
 refine tn<|wb<|lp (α:=Nat×(List Str)×Int) (λgh a w=>match gh with | (F1,U0,C2)=>∃ (u0:Option Addr) (R0:Nat) (B1:List Value),(Z42 N (Z40 N p1 p7 p8 p13) F0) F1 U0 C2=some r∧Fr 73 [(0,PT b2),(3,PT X0),(4,PT Y0),(5,i6 p1.At),(6,SL J2 F0.1 Y1),(7,i6 C2)] a∧St w0 (sepA [bk b2 [SL oa3 p1.L cap4,i6 p1.At,i6 p1.E,i6 p1.Pos] 125]).fp [H] [bk b2 [SL K2 F0.2.L B2,i6 F0.2.At,i6 F0.2.E,i6 F0.2.Pos] 125,sla 9 1 u0 U0.length R0 B1,bk X0 [Ac p7,SL u0 U0 R0,SL W0 p8 K0,i6 p13] 48,bk Y0 [Ac [],.slice none 0 0,.slice none 0 0,i6 0] 48,sla 53 3 J2 F0.1.length Y1 Y2] w∧Rows H B1 U0) (λgh=>gh.1) (N,[],0) ⟨none,0,[],hm,o.hs,u,.nil⟩ ?_
 rintro ⟨F1,U0,C2⟩ a w ⟨u0,R0,B1,hm,o,u,M2⟩
 obtain _ | F1:=F1
 simp [Z42] at hm
 rw [Z42] at hm
 refine th<|th<|rg<|qm o rfl λo=>qm o rfl λo=>qv o (Ak (α:=api_Cell) (xs:=F0.1) o runUnderlying23 rfl) λo=>qv o (Aq o rfl rfl) λo=>re<|?_
 rcases bip hm with ⟨M1,hm⟩ | ⟨M1,hm⟩
 refine tn<|ctv o rfl M1<|wk<|tn<|th<|wb<|?_
 obtain ⟨G1,O2,hm⟩:=bs hm
 have C3:=Rd.oaI (u.rdO t4) n0 (by decide) O2
 obtain ⟨l3,V3,D3⟩:=Rows.getI n0 O2
 obtain rfl:=Bj V3
 obtain ⟨W3,X3,hm⟩:=bs hm
 refine rdL (Aa t0 (Aa t2 (Aa t3 (Aa t4 Ah)))) 10 u wide λw u=>ds 0 (St.ldsX u i2 (Aa t0 (Aa t2 (Aa t3 (Aa t4 Ah))))) o rfl (Af o Da rfl) λo=>dq 1 (St.ldsX u i2 (Aa t0 (Aa t2 (Aa t3 (Aa t4 Ah))))) o rfl (λw hl=>Ag o isAgg36 rfl (hl.cellB t1 rfl)) λo=>ds 2 (St.ldsX u i2 (Aa t0 (Aa t2 (Aa t3 (Aa t4 Ah))))) o rfl (Ab o rfl) λo=>ds 3 (St.ldsX u i2 (Aa t0 (Aa t2 (Aa t3 (Aa t4 Ah))))) o rfl (Ab o rfl) λo=>ds 4 (St.ldsX u i2 (Aa t0 (Aa t2 (Aa t3 (Aa t4 Ah))))) o rfl (An o runUnderlying23 sizeOf53 rfl rfl O2 C3) λo=>ds 5 (St.ldsX u i2 (Aa t0 (Aa t2 (Aa t3 (Aa t4 Ah))))) o rfl (Af o Ep rfl) λo=>dq 6 (St.ldsX u i2 (Aa t0 (Aa t2 (Aa t3 (Aa t4 Ah))))) o rfl (λw hl=>Ag o isAgg9 rfl (hl.elO2 t3 (D3 0 _ rfl))) λo=>da1 (i:=7) (by kernel_rfl) ?_
 refine di (i:=7) rfl<|Bl (e:=9) (sz:=1) [Ac G1.Name] o rfl u rfl rfl rfl (λw=>by kernel_rfl) λu3 w a u o=>?_
 have E3:Rows (α:=Str) H [Ac G1.Name] ([G1.Name]:List Str):=(.cons (c:=[Ac G1.Name]) rfl .nil)
 refine ⟨λ_=>(St.ldsX u i2 (Aa t1 (Aa t3 (Aa t4 (Aa t5 Ah))))),?_⟩
 refine da1 (i:=8) (by kernel_rfl) ?_
 refine di (i:=8) rfl<|Cl (α:=Str) (xs:=U0) (ys:=([G1.Name]:List Str)) o rfl u underlying36 Rs rfl (by decide) rfl rfl rfl t2 M2 (u.rdO t0) E3 X3 λF3 P2 G3 w a I3 hU o=>?_
 replace u:=hU _ (.tail (.tail .head))
 replace u:=u.drop .head
 refine ⟨λ_=>(St.ldsX u i2 (Aa t0 (Aa t2 (Aa t3 (Aa t4 Ah))))),?_⟩
 refine ds 9 (St.ldsX u i2 (Aa t0 (Aa t2 (Aa t3 (Aa t4 Ah))))) o rfl (Af o Da rfl) λo=>da1 (i:=10) (by kernel_rfl) ?_
 refine di (i:=10) rfl<|Ax o u sizeOf36 rfl rfl rfl rfl (.tail (.tail .head)) (.succ .zero) λw u=>⟨λh=>absurd rfl h,?_⟩
 refine de (by kernel_rfl)<|bn<|tn<|rg<|qm o rfl λo=>qv o (Ap o rfl rfl) λo=>qa o rfl λo=>re<|tn<|?_
 exact ⟨(F1,W3,(IntKind.i64.wrap (C2+1))),⟨F3,P2,G3,hm,o.hs,u,I3⟩,Nat.lt_succ_self _⟩
 refine tn<|cfv o rfl M1<|we<|tx<|tx<|bx<|tn<|?_
 replace u:=u.pk [0,0,0,0] rfl
 exact ⟨F0.2.L,F0.2.At,F0.2.E,F0.2.Pos,U0,K2,B2,u0,R0,B1,hm,o.hs,u,A3,B3,M2⟩
 refine cfv o rfl J1<|wk<|tn<|?_
 replace u:=u.nilS 9 1
 replace u:=u.pk [1,0,1,0] rfl
 exact ⟨M0.2.L,M0.2.At,M0.2.E,M0.2.Pos,[],I1,j0,none,0,[],hm,o.hs,u,G2,I2,.nil⟩
 rintro a w ⟨S0,U1,V1,X1,G0,T0,O0,E0,D0,Q0,hm,o,u,hcA4,hrA5,Q2⟩
 unfold Z40 at hm
 refine th<|th<|rg<|qm o rfl λo=>qv o (Aj o rfl) λo=>qv o (Af o Cq rfl) λo=>qv o (Ag o isAgg29 rfl (u.ld.cellB t0 rfl)) λo=>qv o (Al o rfl rfl) λo=>re<|tn<|Au (λa w=>∃ (O1:Int) (P1:Int) (Q1:Int) (I0:(List api_Stmt)) (C1:PH) (P0:Option Addr) (J0:Nat),(Z41 p7 p13 S0 G0) O1 P1 Q1 I0=some r∧ExtM w0 (sepA [bk b2 [SL oa3 p1.L cap4,i6 p1.At,i6 p1.E,i6 p1.Pos] 125]).fp H C1∧Fr 73 [(0,PT b2),(3,PT X0),(4,PT Y0)] a∧St w0 (sepA [bk b2 [SL oa3 p1.L cap4,i6 p1.At,i6 p1.E,i6 p1.Pos] 125]).fp [C1] [bk b2 [SL T0 S0 O0,i6 O1,i6 P1,i6 Q1] 125,sla 9 1 E0 G0.length D0 Q0,bk X0 [Ac p7,SL E0 G0 D0,SL P0 I0 J0,i6 p13] 48,bk Y0 [Ac [],.slice none 0 0,.slice none 0 0,i6 0] 48] w∧I0.length≤J0∧SR C1 P0 I0) ?_ ?_
 rcases bip hm with ⟨R1,hm⟩ | ⟨R1,hm⟩
 refine ctv o rfl R1<|th<|?_
 obtain ⟨E2,Y3,hm⟩:=bs hm
 refine rdS 19 u wide λw u=>dr 0 u o rfl (Ab o rfl) λo=>dr 1 u o rfl (Aj o rfl) λo=>dr 2 u o rfl (Af o Ch rfl) λo=>dq 3 u.ld o rfl (λw hl=>Ag o isAgg120 rfl (hl.cellB t0 rfl)) λo=>dr 4 u o rfl (Ab o rfl) λo=>dr 5 u o rfl (Aj o rfl) λo=>dr 6 u o rfl (Af o Bh rfl) λo=>dq 7 u.ld o rfl (λw hl=>Ag o isAgg3 rfl (hl.cellB t0 rfl)) λo=>dr 8 u o rfl (Ab o rfl) λo=>da1 (i:=9) (by kernel_rfl) ?_
 refine di (i:=9) rfl<|c1 o rfl call141 (Jba (St.le u) hcA4 hrA5 Y3) ⟨rfl,rfl,rfl,trivial⟩ (λv w a hR o=>?_)
 obtain ⟨H62,J3,R2,rfl,K3,L3,C0,M3,hk⟩:=hR
 obtain ⟨u,C0⟩:=And.intro (St.passH u hk C0 M3) (St.extcM u C0)
 refine ⟨λ_=>(St.ldsX u C0.sub i1),?_⟩
 refine ds 10 (St.ldsX u C0.sub i1) o rfl (Ab o rfl) λo=>ds 11 (St.ldsX u C0.sub i1) o rfl (Cd o rfl rfl) λo=>ds 12 (St.ldsX u C0.sub i1) o rfl (Cd o rfl rfl) λo=>ds 13 (St.ldsX u C0.sub i1) o rfl (Cd o rfl rfl) λo=>ds 14 (St.ldsX u C0.sub i1) o rfl (Cd o rfl rfl) λo=>ds 15 (St.ldsX u C0.sub i1) o rfl (Bo o rfl) λo=>ds 16 (St.ldsX u C0.sub i1) o rfl (Bo o rfl) λo=>ds 17 (St.ldsX u C0.sub i1) o rfl (Bo o rfl) λo=>ds 18 (St.ldsX u C0.sub i1) o rfl (Bo o rfl) λo=>de (by kernel_rfl)<|tn<|th<|rg<|qm o rfl λo=>qv o (Af o Hf rfl) λo=>ls<|Ax o u sizeOf46 rfl rfl rfl rfl (.tail (.tail .head)) (.succ (.succ .zero)) λw u=>re<|tn<|th<|rg<|qm o rfl λo=>qm o rfl λo=>qv o (Aj o rfl) λo=>qv o (Af o Bh rfl) λo=>ls<|Ax o u sizeOf3 rfl rfl rfl rfl .head (.succ .zero) λw u=>re<|tn<|th<|rg<|qm o rfl λo=>qm o rfl λo=>qv o (Aj o rfl) λo=>qv o (Af o Cq rfl) λo=>ls<|Ax o u sizeOf29 rfl rfl rfl rfl .head (.succ (.succ .zero)) λw u=>re<|tn<|rg<|qm o rfl λo=>qm o rfl λo=>qv o (Aj o rfl) λo=>qv o (Af o Fq rfl) λo=>ls<|Ax o u sizeOf3 rfl rfl rfl rfl .head (.succ (.succ (.succ .zero))) λw u=>re<|tn<|?_
 exact ⟨E2.2.1,E2.2.2.1,E2.2.2.2,E2.1,H62,J3,R2,hm,C0,o.hs,u,K3,L3⟩
 refine cfv o rfl R1<|wk<|tn<|?_
 exact ⟨U1,V1,X1,p8,H,W0,K0,hm,(ExtM.refl _ _ _),o.hs,u,U2,V2⟩
 rintro a w ⟨O1,P1,Q1,I0,C1,P0,J0,hm,V0,o,u,hcA22,hrA23⟩
 unfold Z41 at hm
 refine th<|rg<|qv o (Ay o Tryz.isAgg48 Tryz.sizeOf48 rfl rfl (u.ld.cellsB t2)) λo=>ls<|Ba o u sizeOf48 rfl rfl rfl rfl (Am rfl) (.tail (.tail (.tail .head))) λw u=>re<|tn<|wr<|?_
 obtain ⟨H70,S1,O3,P3,u⟩:=St.frzSM u (.tail .head) (Q2.mono V0.sub)
 obtain rfl:=si hm
 exact r1c (vs:=[Ac p7,SL E0 G0 D0,SL P0 I0 J0,i6 p13]) (.inl rfl) o results105 rfl isAgg48 sizeOf48 rfl (u.ld.cellsB t2) ⟨H70,_,T0,O0,rfl,(show Enc.rep (α:=api_Thread) H70 [Ac p7,SL E0 G0 D0,SL P0 I0 J0,i6 p13] (api_Thread.mk p7 G0 I0 p13) from ⟨_,_,rfl,rfl,⟨_,_,rfl,⟨_,_,rfl,P3,O3⟩,⟨_,_,rfl,⟨_,_,rfl,hcA22,(hrA23.mono S1.sub)⟩,rfl⟩⟩⟩),hcA4,(hrA5.mono (cp S1.sub V0.sub)),(ExtM.trans V0 S1),(St.le u),(St.disL (u.pickL (.cons .head .nil))),(u.pickL (.cons .head .nil)).endMut⟩
theorem Jb4 (hH:H.le w0) {b2:Nat} {p1:leadlineref05_In} {oa3:Option Addr} {cap4:Nat} (I0:p1.L.length≤cap4) (J0:SR H oa3 p1.L) {p7:Int} (hO:(sepA [bk b2 [SL oa3 p1.L cap4,i6 p1.At,i6 p1.E,i6 p1.Pos] 125]).ok (hp w0)) (hD:∀ b,(sepA [bk b2 [SL oa3 p1.L cap4,i6 p1.At,i6 p1.E,i6 p1.Pos] 125]).fp b→H b=none) {r:(api_Claim×leadlineref05_In)} (hm:Z3n N p1 p7=some r):Tot Tryz.prog 106 #[PT b2,i6 p7] w0 (λv w'=>∃ (H':PH) (cs0:List Value) (oa1m:Option Addr) (cap1m:Nat),v=.agg cs0.toArray∧Enc.rep H' cs0 r.1∧r.2.L.length≤cap1m∧SR H' oa1m r.2.L∧ExtM w0 (sepA [bk b2 [SL oa3 p1.L cap4,i6 p1.At,i6 p1.E,i6 p1.Pos] 125]).fp H H'∧H'.le w'∧(∀ b,(sepA [bk b2 [SL oa1m r.2.L cap1m,i6 r.2.At,i6 r.2.E,i6 r.2.Pos] 125]).fp b→H' b=none)∧Mut w0 (sepA [bk b2 [SL oa3 p1.L cap4,i6 p1.At,i6 p1.E,i6 p1.Pos] 125]) (sepA [bk b2 [SL oa1m r.2.L cap1m,i6 r.2.At,i6 r.2.E,i6 r.2.Pos] 125]) w'):=by
 unfold Z3n at hm
 refine fn0 func106 rfl ntmps106 rfl rfl λa o=>?_
 have u:=Cm hH hO hD
 refine th<|rg<|ls<|Aw (cs:=[.slice none 0 0,i6 0].toArray) o rfl u Tryz.zeroValue74 rfl λb8 w a u o=>re<|tn<|th<|?_
 obtain ⟨E0,T0,hm⟩:=bs hm
 refine rdS 18 u wide λw u=>dr 0 u o rfl (Ab o rfl) λo=>dr 1 u o rfl (Aj o rfl) λo=>dr 2 u o rfl (Af o Ch rfl) λo=>dq 3 u.ld o rfl (λw hl=>Ag o isAgg120 rfl (hl.cellB t1 rfl)) λo=>dr 4 u o rfl (Ab o rfl) λo=>dr 5 u o rfl (Aj o rfl) λo=>dr 6 u o rfl (Af o Bh rfl) λo=>dq 7 u.ld o rfl (λw hl=>Ag o isAgg3 rfl (hl.cellB t1 rfl)) λo=>da1 (i:=8) (by kernel_rfl) ?_
 refine di (i:=8) rfl<|c1 o rfl call142 (Ym (St.le u) I0 J0 T0) ⟨rfl,rfl,trivial⟩ (λv w a hR o=>?_)
 obtain ⟨H14,F0,D0,rfl,M0,O0,C0,P0,hk⟩:=hR
 obtain ⟨u,C0⟩:=And.intro (St.passH u hk C0 P0) (St.extcM u C0)
 refine ⟨λ_=>(St.ldsX u C0.sub i1),?_⟩
 refine ds 9 (St.ldsX u C0.sub i1) o rfl (Ab o rfl) λo=>ds 10 (St.ldsX u C0.sub i1) o rfl (Cd o rfl rfl) λo=>ds 11 (St.ldsX u C0.sub i1) o rfl (Cd o rfl rfl) λo=>ds 12 (St.ldsX u C0.sub i1) o rfl (Cd o rfl rfl) λo=>ds 13 (St.ldsX u C0.sub i1) o rfl (Cd o rfl rfl) λo=>ds 14 (St.ldsX u C0.sub i1) o rfl (Bo o rfl) λo=>ds 15 (St.ldsX u C0.sub i1) o rfl (Bo o rfl) λo=>ds 16 (St.ldsX u C0.sub i1) o rfl (Bo o rfl) λo=>ds 17 (St.ldsX u C0.sub i1) o rfl (Bo o rfl) λo=>de (by kernel_rfl)<|tn<|th<|th<|rg<|qm o rfl λo=>qv o (Bt o rfl rfl) λo=>re<|?_
 rcases bip hm with ⟨G0,hm⟩ | ⟨G0,hm⟩
 refine tn<|ctv o rfl G0<|th<|rg<|qm o rfl λo=>qm o rfl λo=>qv o (Aj o rfl) λo=>qv o (Af o Cq rfl) λo=>ls<|Ax o u sizeOf29 rfl rfl rfl rfl (.tail .head) (.succ (.succ .zero)) λw u=>re<|tn<|th<|rg<|qm o rfl λo=>qm o rfl λo=>qv o (Aj o rfl) λo=>qv o (Af o Fq rfl) λo=>ls<|Ax o u sizeOf3 rfl rfl rfl rfl (.tail .head) (.succ (.succ (.succ .zero))) λw u=>re<|tn<|th<|rg<|qv o (Bu [] [.slice none 0 0,i6 0] o trivial (λw=>by kernel_rfl)) λo=>ls<|Ba o u sizeOf74 rfl rfl rfl rfl (Am rfl) .head λw u=>re<|tn<|wr<|tr<|?_
 obtain rfl:=si hm
 exact r1c (vs:=[.slice none 0 0,i6 0]) (.inl rfl) o results106 rfl isAgg74 sizeOf74 rfl (u.ld.cellsB t0) ⟨H14,_,oa3,cap4,rfl,(show Enc.rep (α:=api_Claim) H14 [.slice none 0 0,i6 0] (api_Claim.mk [] 0) from ⟨_,_,rfl,⟨none,0,rfl,Nat.le_refl _,SR.nil _ _⟩,rfl⟩),I0,(J0.mono C0.sub),C0,(St.le u),(St.disL (u.pickL (.cons (.tail .head) .nil))),(u.pickL (.cons (.tail .head) .nil)).endMut⟩
 refine tn<|cfv o rfl G0<|wk<|tn<|th<|rg<|qm o rfl λo=>qm o rfl λo=>qv o (Aj o rfl) λo=>qv o (Af o Bh rfl) λo=>ls<|Ax o u sizeOf3 rfl rfl rfl rfl (.tail .head) (.succ .zero) λw u=>re<|tn<|th<|?_
 obtain ⟨V0,U0,hm⟩:=bs hm
 refine rg<|qm o rfl λo=>?_
 replace u:=u.pk [1,0] rfl
 replace u:=St.sep [bk b2 [SL oa3 p1.L cap4,i6 E0.2.1,i6 p1.E,i6 p1.Pos] 125] u
 refine ls<|c1 o rfl call140 (Vs (St.le u) (p1:=(leadlineref05_In.mk p1.L E0.2.1 p1.E p1.Pos)) (b2:=b2) (oa3:=oa3) (cap4:=cap4) I0 (J0.mono C0.sub) (St.sepOk u) (St.sepDis u) U0) ⟨rfl,rfl,trivial⟩ (λv w a hR o=>?_)
 obtain ⟨Q0,K0,rfl,R0,S0,hk⟩:=hR
 replace u:=(u.mut hk .head).unsep
 refine re<|tn<|th<|rg<|qm o rfl λo=>qm o rfl λo=>qv o (Bu [SL F0 E0.1 D0,i6 p7] [SL F0 E0.1 D0,i6 p7] o ⟨rfl,rfl,trivial⟩ (λw=>by kernel_rfl)) λo=>ls<|Ba o u sizeOf74 rfl rfl rfl rfl (Am rfl) (.tail .head) λw u=>re<|tn<|wr<|?_
 obtain rfl:=si hm
 exact r1c (vs:=[SL F0 E0.1 D0,i6 p7]) (.inl rfl) o results106 rfl isAgg74 sizeOf74 rfl (u.ld.cellsB t1) ⟨H14,_,Q0,K0,rfl,(show Enc.rep (α:=api_Claim) H14 [SL F0 E0.1 D0,i6 p7] (api_Claim.mk E0.1 p7) from ⟨_,_,rfl,⟨_,_,rfl,M0,O0⟩,rfl⟩),R0,S0,C0,(St.le u),(St.disL (u.pickL (.cons .head .nil))),(u.pickL (.cons .head .nil)).endMut⟩
set_option maxHeartbeats 4000000 in
theorem Jbf (hH:H.le w0) {p1:Str} {r:(api_Prog×Int×Int)} (hm:Z43 N p1=some r):Tot Tryz.prog 64 #[Ac p1] w0 (λv w'=>∃ (H':PH) (cs0:List Value),v=.tuple #[.agg cs0.toArray,i6 r.2.1,i6 r.2.2]∧Enc.rep H' cs0 r.1∧Ext w0 H H'∧H'.le w'∧Keep Nil w0 w'):=by
 unfold Z43 at hm
 refine fn0 func64 rfl ntmps64 rfl rfl λa o=>?_
 have u:St w0 Nil [H] [] w0:=start1 hH
 refine th<|rg<|ls<|Aw (cs:=[.slice none 0 0,.slice none 0 0,.slice none 0 0,.slice none 0 0,.slice none 0 0,.slice none 0 0].toArray) o rfl u Tryz.zeroValue27 rfl λb2 w a u o=>?_
 iterate 2 refine qa o rfl λo=>?_
 refine re<|tn<|th<|?_
 obtain ⟨P0,h4,hm⟩:=bs hm
 refine rg<|qm o rfl λo=>ls<|c1 o rfl call101 (Jc0 (Ai _) h4) ⟨rfl,trivial⟩ (λv w a hR o=>?_)
 obtain ⟨I1,n0,vs7,rfl,X8,hk⟩:=hR
 replace u:=u.fresh hk
 replace X8:=X8 H
 refine qm o rfl λo=>?_
 iterate 3 refine qv o (Cd o rfl rfl) λo=>?_
 iterate 3 refine qa o rfl λo=>?_
 refine re<|tn<|th<|th<|rg<|qm o rfl λo=>qv o (Bt o rfl rfl) λo=>re<|?_
 rcases bip hm with ⟨S7,hm⟩ | ⟨S7,hm⟩
 refine tn<|ctv o rfl S7<|th<|rg<|qv o (Bu [] [.slice none 0 0,.slice none 0 0,.slice none 0 0,.slice none 0 0,.slice none 0 0,.slice none 0 0] o trivial (λw=>by kernel_rfl)) λo=>?_
 iterate 2 refine qm o rfl λo=>?_
 refine ls<|Ba o u sizeOf27 rfl rfl rfl rfl (Am rfl) (.tail .head) λw u=>?_
 iterate 2 refine qa o rfl λo=>?_
 refine re<|tn<|wr<|tr<|?_
 obtain rfl:=si hm
 exact r3c (vs:=[.slice none 0 0,.slice none 0 0,.slice none 0 0,.slice none 0 0,.slice none 0 0,.slice none 0 0]) (.inl rfl) o results64 rfl rfl rfl isAgg27 sizeOf27 rfl (u.ld.cellsB t1) ⟨H,_,rfl,(show Enc.rep (α:=api_Prog) H [.slice none 0 0,.slice none 0 0,.slice none 0 0,.slice none 0 0,.slice none 0 0,.slice none 0 0] (api_Prog.mk [] [] [] [] [] []) from ⟨_,_,rfl,⟨none,0,rfl,Nat.le_refl _,SR.nil _ _⟩,⟨_,_,rfl,⟨none,0,rfl,Nat.le_refl _,SR.nil _ _⟩,⟨_,_,rfl,⟨none,0,rfl,Nat.le_refl _,SR.nil _ _⟩,⟨_,_,rfl,⟨none,0,rfl,Nat.le_refl _,SR.nil _ _⟩,⟨_,_,rfl,⟨none,0,rfl,Nat.le_refl _,SR.nil _ _⟩,⟨none,0,rfl,Nat.le_refl _,SR.nil _ _⟩⟩⟩⟩⟩⟩),(Ext.refl _ _),(St.le u),u.keep⟩
 refine tn<|cfv o rfl S7<|wk<|tn<|th<|?_
 obtain ⟨H14,Y8,B5,hc13,u⟩:=St.frzS u .head X8
 refine rg<|qm o rfl λo=>qv o (Bu [SL I1 P0.1 n0] [SL I1 P0.1 n0,i6 0,i6 0,i6 0] o ⟨rfl,trivial⟩ (λw=>by kernel_rfl)) λo=>ls<|Bs (cs:=[SL I1 P0.1 n0,i6 0,i6 0,i6 0].toArray) o rfl u rfl rfl λC0 w a u o=>qv o (Bu [] [.slice none 0 0,.slice none 0 0,.slice none 0 0,.slice none 0 0,.slice none 0 0,.slice none 0 0] o trivial (λw=>by kernel_rfl)) λo=>ls<|Aw (cs:=[.slice none 0 0,.slice none 0 0,.slice none 0 0,.slice none 0 0,.slice none 0 0,.slice none 0 0].toArray) o rfl u zeroValue27 rfl λU0 w a u o=>qa o rfl λo=>ls<|Ba o u sizeOf27 rfl rfl rfl rfl (Am rfl) .head λw u=>re<|tn<|th<|Au (λa w=>∃ (F6:(List api_Token)) (F8:Int) (G8:Int) (I8:Int) (D0:(List (List api_Cell))) (j0:PH) (G6:Option Addr) (O4:Nat) (I0:Option Addr) (E0:Nat) (X0:List Value),(Z44 N P0) F6 F8 G8 I8 D0=some r∧Ext w0 H14 j0∧Fr 128 [(2,PT b2),(5,SL I1 P0.1 n0),(8,PT C0),(9,PT U0)] a∧St w0 Nil [j0] [bk b2 [.slice none 0 0,.slice none 0 0,.slice none 0 0,.slice none 0 0,.slice none 0 0,.slice none 0 0] 27,bk C0 [SL G6 F6 O4,i6 F8,i6 G8,i6 I8] 125,sla 23 1 I0 D0.length E0 X0,bk U0 [SL I0 D0 E0,.slice none 0 0,.slice none 0 0,.slice none 0 0,.slice none 0 0,.slice none 0 0] 27] w∧F6.length≤O4∧SR j0 G6 F6∧Rows j0 X0 D0) ?_ ?_
 replace u:=u.nilS 23 1
 replace u:=u.pk [3,2,0,0] rfl
 refine wb<|lp (α:=Nat×(List api_Token)×Int×Int×Int×(List (List api_Cell))) (λ(gh:Nat×(List api_Token)×Int×Int×Int×(List (List api_Cell))) a w=>match gh with | (F7,C5,G7,I7,J7,X2)=>∃ (D5:PH) (E5:Option Addr) (K3:Nat) (P4:Option Addr) (L3:Nat) (Q4:List Value),(Z4c N (Z44 N P0)) F7 C5 G7 I7 J7 X2=some r∧Ext w0 H14 D5∧Fr 128 [(2,PT b2),(5,SL I1 P0.1 n0),(8,PT C0),(9,PT U0)] a∧St w0 Nil [D5] [bk b2 [.slice none 0 0,.slice none 0 0,.slice none 0 0,.slice none 0 0,.slice none 0 0,.slice none 0 0] 27,bk C0 [SL E5 C5 K3,i6 G7,i6 I7,i6 J7] 125,sla 23 1 P4 X2.length L3 Q4,bk U0 [SL P4 X2 L3,.slice none 0 0,.slice none 0 0,.slice none 0 0,.slice none 0 0,.slice none 0 0] 27] w∧C5.length≤K3∧SR D5 E5 C5∧Rows D5 Q4 X2) (λgh=>gh.1) (N,P0.1,0,0,0,[]) ⟨H14,I1,n0,none,0,[],hm,(Ext.refl _ _),o.hs,u,hc13,B5,.nil⟩ ?_
 rintro ⟨F7,C5,G7,I7,J7,X2⟩ a w ⟨D5,E5,K3,P4,L3,Q4,hm,J8,o,u,hcB5,hrB6,K8⟩
 obtain _ | F7:=F7
 simp [Z4c] at hm
 rw [Z4c] at hm
 refine th<|th<|?_
 obtain ⟨M3,h18,hm⟩:=bs hm
 refine rg<|qm o rfl λo=>?_
 replace u:=u.pk [1,0,0,0] rfl
 replace u:=St.sep [bk C0 [SL E5 C5 K3,i6 G7,i6 I7,i6 J7] 125] u
 refine ls<|c1 o rfl call102 (H7 (St.le u) (p1:=(leadlineref05_In.mk C5 G7 I7 J7)) (b2:=C0) (oa3:=E5) (cap4:=K3) hcB5 hrB6 (St.sepOk u) (St.sepDis u) h18) ⟨rfl,rfl,trivial⟩ (λv w a hR o=>?_)
 obtain ⟨T7,I6,rfl,d8,e8,hk⟩:=hR
 replace u:=(u.mut hk .head).unsep
 refine re<|?_
 rcases bit hm with ⟨U7,hm⟩ | ⟨U7,hm⟩
 refine tn<|ctv o rfl U7<|wk<|tn<|wb<|?_
 obtain ⟨O3,h25,hm⟩:=bs hm
 obtain ⟨l42,h43,hm⟩:=bs hm
 refine rdL (Aa t1 (Aa t3 Ah)) 7 u wide λw u=>ds 0 (St.ldsX u i2 (Aa t1 (Aa t3 Ah))) o rfl (Af o Cj rfl) λo=>dq 1 (St.ldsX u i2 (Aa t1 (Aa t3 Ah))) o rfl (λw hl=>Ag o isAgg22 rfl (hl.cellB t1 rfl)) λo=>ds 2 (St.ldsX u i2 (Aa t1 (Aa t3 Ah))) o rfl (Ab o rfl) λo=>da1 (i:=3) (by kernel_rfl) ?_
 replace u:=u.pk [0,0,0,0] rfl
 replace u:=St.sep [bk C0 [SL T7 M3.2.L I6,i6 M3.2.At,i6 M3.2.E,i6 M3.2.Pos] 125] u
 refine di (i:=3) rfl<|c1 o rfl call103 (Rk (St.le u) (p1:=M3.2) (b2:=C0) (oa3:=T7) (cap4:=I6) d8 e8 (St.sepOk u) (St.sepDis u) h25) ⟨rfl,rfl,trivial⟩ (λv w a hR o=>?_)
 obtain ⟨V7,J6,vs28,oa31,G9,rfl,W7,hc33,hr34,hk⟩:=hR
 replace u:=(u.mut hk .head).unsep
 replace W7:=W7 D5
 refine ⟨λ_=>(St.ldsX u i2 (Aa t2 (Aa t4 Ah))),?_⟩
 refine da1 (i:=4) (by kernel_rfl) ?_
 obtain ⟨H38,D4,hr36,hc37,u⟩:=St.frzS u (.tail .head) W7
 refine di (i:=4) rfl<|Bl (e:=23) (sz:=1) [SL V7 O3.1 J6] o rfl u rfl rfl rfl (λw=>by kernel_rfl) λb40 w a u o=>?_
 have hv39:Rows (α:=(List api_Cell)) H38 [SL V7 O3.1 J6] ([O3.1]:List (List api_Cell)):=(.cons (c:=[SL V7 O3.1 J6]) ⟨_,_,rfl,hc37,hr36⟩ .nil)
 refine ⟨λ_=>(St.ldsX u D4.sub (Aa t2 (Aa t4 Ah))),?_⟩
 refine da1 (i:=5) (by kernel_rfl) ?_
 refine di (i:=5) rfl<|Cl (α:=(List api_Cell)) (xs:=X2) (ys:=([O3.1]:List (List api_Cell))) o rfl u underlying22 Ja5 rfl (by decide) rfl rfl rfl t3 (K8.mono D4.sub) (u.rdO t0) hv39 h43 λoa44 I9 vs46 w a hv47 hU o=>?_
 replace u:=hU _ (.tail (.tail (.tail .head)))
 replace u:=u.drop .head
 refine ⟨λ_=>(St.ldsX u D4.sub (Aa t1 (Aa t3 Ah))),?_⟩
 refine ds 6 (St.ldsX u D4.sub (Aa t1 (Aa t3 Ah))) o rfl (Af o Cj rfl) λo=>da1 (i:=7) (by kernel_rfl) ?_
 refine di (i:=7) rfl<|Ax o u sizeOf22 rfl rfl rfl rfl (.tail (.tail (.tail .head))) .zero λw u=>⟨λh=>absurd rfl h,?_⟩
 refine de (by kernel_rfl)<|bn<|tn<|?_
 replace u:=u.pk [1,0,0,0] rfl
 exact ⟨(F7,O3.2.L,O3.2.At,O3.2.E,O3.2.Pos,l42),⟨H38,oa31,G9,oa44,I9,vs46,hm,(Ext.trans J8 D4),o.hs,u,hc33,(hr34.mono D4.sub),hv47⟩,Nat.lt_succ_self _⟩
 refine tn<|cfv o rfl U7<|we<|tx<|tx<|bx<|tn<|?_
 replace u:=u.pk [1,0,0,0] rfl
 exact ⟨M3.2.L,M3.2.At,M3.2.E,M3.2.Pos,X2,D5,T7,I6,P4,L3,Q4,hm,J8,o.hs,u,d8,e8,K8⟩
 rintro a w ⟨F6,F8,G8,I8,D0,j0,G6,O4,I0,E0,X0,hm,R4,o,u,hcA5,hrA6,J9⟩
 unfold Z44 at hm
 refine th<|Au (λa w=>∃ (E4:(List api_Token)) (K6:Int) (L6:Int) (M6:Int) (F0:(List api_Cell)) (S4:Option Addr) (P3:Nat) (J0:Option Addr) (G0:Nat) (u0:List Value),(Z47 N P0 D0) E4 K6 L6 M6 F0=some r∧Fr 128 [(2,PT b2),(5,SL I1 P0.1 n0),(8,PT C0),(9,PT U0)] a∧St w0 Nil [j0] [bk b2 [.slice none 0 0,.slice none 0 0,.slice none 0 0,.slice none 0 0,.slice none 0 0,.slice none 0 0] 27,bk C0 [SL S4 E4 P3,i6 K6,i6 L6,i6 M6] 125,sla 23 1 I0 D0.length E0 X0,sla 53 3 J0 F0.length G0 u0,bk U0 [SL I0 D0 E0,SL J0 F0 G0,.slice none 0 0,.slice none 0 0,.slice none 0 0,.slice none 0 0] 27] w∧E4.length≤P3∧SR j0 S4 E4∧Rows j0 u0 F0) ?_ ?_
 replace u:=u.nilS 53 3
 replace u:=u.pk [1,1,1,0,0] rfl
 refine wb<|lp (α:=Nat×(List api_Token)×Int×Int×Int×(List api_Cell)) (λgh a w=>match gh with | (K7,Y2,F5,G5,I5,A3)=>∃ (Q3:Option Addr) (C2:Nat) (T4:Option Addr) (R3:Nat) (U4:List Value),(Z4d N (Z47 N P0 D0)) K7 Y2 F5 G5 I5 A3=some r∧Fr 128 [(2,PT b2),(5,SL I1 P0.1 n0),(8,PT C0),(9,PT U0)] a∧St w0 Nil [j0] [bk b2 [.slice none 0 0,.slice none 0 0,.slice none 0 0,.slice none 0 0,.slice none 0 0,.slice none 0 0] 27,bk C0 [SL Q3 Y2 C2,i6 F5,i6 G5,i6 I5] 125,sla 23 1 I0 D0.length E0 X0,sla 53 3 T4 A3.length R3 U4,bk U0 [SL I0 D0 E0,SL T4 A3 R3,.slice none 0 0,.slice none 0 0,.slice none 0 0,.slice none 0 0] 27] w∧Y2.length≤C2∧SR j0 Q3 Y2∧Rows j0 U4 A3) (λgh=>gh.1) (N,F6,F8,G8,I8,[]) ⟨G6,O4,none,0,[],hm,o.hs,u,hcA5,hrA6,.nil⟩ ?_
 rintro ⟨K7,Y2,F5,G5,I5,A3⟩ a w ⟨Q3,C2,T4,R3,U4,hm,o,u,hcB19,hrB20,L8⟩
 obtain _ | K7:=K7
 simp [Z4d] at hm
 rw [Z4d] at hm
 refine th<|th<|?_
 obtain ⟨S3,h49,hm⟩:=bs hm
 refine rg<|qm o rfl λo=>?_
 replace u:=u.pk [1,0,0,0,0] rfl
 replace u:=St.sep [bk C0 [SL Q3 Y2 C2,i6 F5,i6 G5,i6 I5] 125] u
 refine ls<|c1 o rfl call102 (H7 (St.le u) (p1:=(leadlineref05_In.mk Y2 F5 G5 I5)) (b2:=C0) (oa3:=Q3) (cap4:=C2) hcB19 hrB20 (St.sepOk u) (St.sepDis u) h49) ⟨rfl,rfl,trivial⟩ (λv w a hR o=>?_)
 obtain ⟨X7,O6,rfl,k8,l8,hk⟩:=hR
 replace u:=(u.mut hk .head).unsep
 refine re<|?_
 rcases bit hm with ⟨Y7,hm⟩ | ⟨Y7,hm⟩
 refine tn<|ctv o rfl Y7<|wk<|tn<|wb<|?_
 obtain ⟨L7,h56,hm⟩:=bs hm
 obtain ⟨l66,h67,hm⟩:=bs hm
 refine rdL (Aa t1 (Aa t2 (Aa t4 Ah))) 6 u wide λw u=>ds 0 (St.ldsX u i2 (Aa t1 (Aa t2 (Aa t4 Ah)))) o rfl (Af o Ed rfl) λo=>dq 1 (St.ldsX u i2 (Aa t1 (Aa t2 (Aa t4 Ah)))) o rfl (λw hl=>Ag o isAgg23 rfl (hl.cellB t2 rfl)) λo=>ds 2 (St.ldsX u i2 (Aa t1 (Aa t2 (Aa t4 Ah)))) o rfl (Ab o rfl) λo=>da1 (i:=3) (by kernel_rfl) ?_
 replace u:=u.pk [0,0,0,0,0] rfl
 replace u:=St.sep [bk C0 [SL X7 S3.2.L O6,i6 S3.2.At,i6 S3.2.E,i6 S3.2.Pos] 125] u
 refine di (i:=3) rfl<|c1 o rfl call103 (Rk (St.le u) (p1:=S3.2) (b2:=C0) (oa3:=X7) (cap4:=O6) k8 l8 (St.sepOk u) (St.sepDis u) h56) ⟨rfl,rfl,trivial⟩ (λv w a hR o=>?_)
 obtain ⟨oa57,cap58,vs59,oa62,K9,rfl,k7,hc64,hr65,hk⟩:=hR
 replace u:=(u.mut hk .head).unsep
 replace k7:=k7 j0
 refine ⟨λ_=>(St.ldsX u i2 (Aa t2 (Aa t3 (Aa t5 Ah)))),?_⟩
 refine da1 (i:=4) (by kernel_rfl) ?_
 refine di (i:=4) rfl<|Cl (α:=api_Cell) (xs:=A3) (ys:=L7.1) o rfl u underlying23 Hb rfl (by decide) rfl rfl rfl t4 L8 (u.rdO t1) k7 h67 λoa68 L9 vs70 w a hv71 hU o=>?_
 replace u:=hU _ (.tail (.tail (.tail (.tail .head))))
 refine ⟨λ_=>(St.ldsX u i2 (Aa t2 (Aa t3 (Aa t5 Ah)))),?_⟩
 refine ds 5 (St.ldsX u i2 (Aa t2 (Aa t3 (Aa t5 Ah)))) o rfl (Af o Ed rfl) λo=>da1 (i:=6) (by kernel_rfl) ?_
 refine di (i:=6) rfl<|Ax o u sizeOf23 rfl rfl rfl rfl (.tail (.tail (.tail (.tail (.tail .head))))) (.succ .zero) λw u=>⟨λh=>absurd rfl h,?_⟩
 refine de (by kernel_rfl)<|bn<|tn<|?_
 replace u:=u.pk [2,0,1,1,1] rfl
 exact ⟨(K7,L7.2.L,L7.2.At,L7.2.E,L7.2.Pos,l66),⟨oa62,K9,oa68,L9,vs70,hm,o.hs,u,hc64,hr65,hv71⟩,Nat.lt_succ_self _⟩
 refine tn<|cfv o rfl Y7<|we<|tx<|tx<|bx<|tn<|?_
 replace u:=u.pk [1,0,0,0,0] rfl
 exact ⟨S3.2.L,S3.2.At,S3.2.E,S3.2.Pos,A3,X7,O6,T4,R3,U4,hm,o.hs,u,k8,l8,L8⟩
 rintro a w ⟨E4,K6,L6,M6,F0,S4,P3,J0,G0,u0,hm,o,u,hcA19,hrA20,M9⟩
 unfold Z47 at hm
 refine th<|Au (λa w=>∃ (F4:(List api_Token)) (P6:Int) (Q6:Int) (R6:Int) (K0:(List api_Cell)) (V4:Option Addr) (T3:Nat) (O0:Option Addr) (M0:Nat) (E1:List Value),(Z48 N P0 D0 F0) F4 P6 Q6 R6 K0=some r∧Fr 128 [(2,PT b2),(5,SL I1 P0.1 n0),(8,PT C0),(9,PT U0)] a∧St w0 Nil [j0] [bk b2 [.slice none 0 0,.slice none 0 0,.slice none 0 0,.slice none 0 0,.slice none 0 0,.slice none 0 0] 27,bk C0 [SL V4 F4 T3,i6 P6,i6 Q6,i6 R6] 125,sla 23 1 I0 D0.length E0 X0,sla 53 3 J0 F0.length G0 u0,sla 53 3 O0 K0.length M0 E1,bk U0 [SL I0 D0 E0,SL J0 F0 G0,SL O0 K0 M0,.slice none 0 0,.slice none 0 0,.slice none 0 0] 27] w∧F4.length≤T3∧SR j0 V4 F4∧Rows j0 E1 K0) ?_ ?_
 replace u:=u.nilS 53 3
 replace u:=u.pk [1,1,1,1,0,0] rfl
 refine wb<|lp (α:=Nat×(List api_Token)×Int×Int×Int×(List api_Cell)) (λgh a w=>match gh with | (M7,B3,J5,K5,L5,C3)=>∃ (U3:Option Addr) (E2:Nat) (W4:Option Addr) (V3:Nat) (X4:List Value),(Z4e N (Z48 N P0 D0 F0)) M7 B3 J5 K5 L5 C3=some r∧Fr 128 [(2,PT b2),(5,SL I1 P0.1 n0),(8,PT C0),(9,PT U0)] a∧St w0 Nil [j0] [bk b2 [.slice none 0 0,.slice none 0 0,.slice none 0 0,.slice none 0 0,.slice none 0 0,.slice none 0 0] 27,bk C0 [SL U3 B3 E2,i6 J5,i6 K5,i6 L5] 125,sla 23 1 I0 D0.length E0 X0,sla 53 3 J0 F0.length G0 u0,sla 53 3 W4 C3.length V3 X4,bk U0 [SL I0 D0 E0,SL J0 F0 G0,SL W4 C3 V3,.slice none 0 0,.slice none 0 0,.slice none 0 0] 27] w∧B3.length≤E2∧SR j0 U3 B3∧Rows j0 X4 C3) (λgh=>gh.1) (N,E4,K6,L6,M6,[]) ⟨S4,P3,none,0,[],hm,o.hs,u,hcA19,hrA20,.nil⟩ ?_
 rintro ⟨M7,B3,J5,K5,L5,C3⟩ a w ⟨U3,E2,W4,V3,X4,hm,o,u,hcB33,hrB34,M8⟩
 obtain _ | M7:=M7
 simp [Z4e] at hm
 rw [Z4e] at hm
 refine th<|th<|?_
 obtain ⟨W3,h73,hm⟩:=bs hm
 refine rg<|qm o rfl λo=>?_
 replace u:=u.pk [1,0,0,0,0,0] rfl
 replace u:=St.sep [bk C0 [SL U3 B3 E2,i6 J5,i6 K5,i6 L5] 125] u
 refine ls<|c1 o rfl call102 (H7 (St.le u) (p1:=(leadlineref05_In.mk B3 J5 K5 L5)) (b2:=C0) (oa3:=U3) (cap4:=E2) hcB33 hrB34 (St.sepOk u) (St.sepDis u) h73) ⟨rfl,rfl,trivial⟩ (λv w a hR o=>?_)
 obtain ⟨n7,S6,rfl,n8,v8,hk⟩:=hR
 replace u:=(u.mut hk .head).unsep
 refine re<|?_
 rcases bit hm with ⟨u7,hm⟩ | ⟨u7,hm⟩
 refine tn<|ctv o rfl u7<|wk<|tn<|wb<|?_
 obtain ⟨O7,h80,hm⟩:=bs hm
 obtain ⟨l90,h91,hm⟩:=bs hm
 refine rdL (Aa t1 (Aa t2 (Aa t3 (Aa t5 Ah)))) 6 u wide λw u=>ds 0 (St.ldsX u i2 (Aa t1 (Aa t2 (Aa t3 (Aa t5 Ah))))) o rfl (Af o Ec rfl) λo=>dq 1 (St.ldsX u i2 (Aa t1 (Aa t2 (Aa t3 (Aa t5 Ah))))) o rfl (λw hl=>Ag o isAgg23 rfl (hl.cellB t3 rfl)) λo=>ds 2 (St.ldsX u i2 (Aa t1 (Aa t2 (Aa t3 (Aa t5 Ah))))) o rfl (Ab o rfl) λo=>da1 (i:=3) (by kernel_rfl) ?_
 replace u:=u.pk [0,0,0,0,0,0] rfl
 replace u:=St.sep [bk C0 [SL n7 W3.2.L S6,i6 W3.2.At,i6 W3.2.E,i6 W3.2.Pos] 125] u
 refine di (i:=3) rfl<|c1 o rfl call103 (Rk (St.le u) (p1:=W3.2) (b2:=C0) (oa3:=n7) (cap4:=S6) n8 v8 (St.sepOk u) (St.sepDis u) h80) ⟨rfl,rfl,trivial⟩ (λv w a hR o=>?_)
 obtain ⟨oa81,cap82,vs83,oa86,O9,rfl,v7,hc88,hr89,hk⟩:=hR
 replace u:=(u.mut hk .head).unsep
 replace v7:=v7 j0
 refine ⟨λ_=>(St.ldsX u i2 (Aa t2 (Aa t3 (Aa t4 (Aa t6 Ah))))),?_⟩
 refine da1 (i:=4) (by kernel_rfl) ?_
 refine di (i:=4) rfl<|Cl (α:=api_Cell) (xs:=C3) (ys:=O7.1) o rfl u underlying23 Hb rfl (by decide) rfl rfl rfl t5 M8 (u.rdO t1) v7 h91 λoa92 P9 vs94 w a hv95 hU o=>?_
 replace u:=hU _ (.tail (.tail (.tail (.tail (.tail .head)))))
 refine ⟨λ_=>(St.ldsX u i2 (Aa t2 (Aa t3 (Aa t4 (Aa t6 Ah))))),?_⟩
 refine ds 5 (St.ldsX u i2 (Aa t2 (Aa t3 (Aa t4 (Aa t6 Ah))))) o rfl (Af o Ec rfl) λo=>da1 (i:=6) (by kernel_rfl) ?_
 refine di (i:=6) rfl<|Ax o u sizeOf23 rfl rfl rfl rfl (.tail (.tail (.tail (.tail (.tail (.tail .head)))))) (.succ (.succ .zero)) λw u=>⟨λh=>absurd rfl h,?_⟩
 refine de (by kernel_rfl)<|bn<|tn<|?_
 replace u:=u.pk [2,0,1,1,1,1] rfl
 exact ⟨(M7,O7.2.L,O7.2.At,O7.2.E,O7.2.Pos,l90),⟨oa86,O9,oa92,P9,vs94,hm,o.hs,u,hc88,hr89,hv95⟩,Nat.lt_succ_self _⟩
 refine tn<|cfv o rfl u7<|we<|tx<|tx<|bx<|tn<|?_
 replace u:=u.pk [1,0,0,0,0,0] rfl
 exact ⟨W3.2.L,W3.2.At,W3.2.E,W3.2.Pos,C3,n7,S6,W4,V3,X4,hm,o.hs,u,n8,v8,M8⟩
 rintro a w ⟨F4,P6,Q6,R6,K0,V4,T3,O0,M0,E1,hm,o,u,hcA33,hrA34,Q9⟩
 unfold Z48 at hm
 refine th<|Au (λa w=>∃ (D3:(List api_Token)) (M5:Int) (O5:Int) (P5:Int) (Q0:(List api_Thread)) (E3:PH) (X3:Option Addr) (F2:Nat) (Y0:Option Addr) (R0:Nat) (T1:List Value),(Z49 N P0 D0 F0 K0) D3 M5 O5 P5 Q0=some r∧Ext w0 j0 E3∧Fr 128 [(2,PT b2),(5,SL I1 P0.1 n0),(8,PT C0),(9,PT U0)] a∧St w0 Nil [E3] [bk b2 [.slice none 0 0,.slice none 0 0,.slice none 0 0,.slice none 0 0,.slice none 0 0,.slice none 0 0] 27,bk C0 [SL X3 D3 F2,i6 M5,i6 O5,i6 P5] 125,sla 23 1 I0 D0.length E0 X0,sla 53 3 J0 F0.length G0 u0,sla 53 3 O0 K0.length M0 E1,sla 48 4 Y0 Q0.length R0 T1,bk U0 [SL I0 D0 E0,SL J0 F0 G0,SL O0 K0 M0,SL Y0 Q0 R0,.slice none 0 0,.slice none 0 0] 27] w∧D3.length≤F2∧SR E3 X3 D3∧Rows E3 T1 Q0) ?_ ?_
 replace u:=u.nilS 48 4
 replace u:=u.pk [1,1,1,1,1,0,0] rfl
 refine wb<|lp (α:=Nat×(List api_Token)×Int×Int×Int×(List api_Thread)) (λgh a w=>match gh with | (P7,F3,Q5,R5,S5,G3)=>∃ (G4:PH) (Y3:Option Addr) (G2:Nat) (Y4:Option Addr) (l3:Nat) (d4:List Value),(Z4f N (Z49 N P0 D0 F0 K0)) P7 F3 Q5 R5 S5 G3=some r∧Ext w0 j0 G4∧Fr 128 [(2,PT b2),(5,SL I1 P0.1 n0),(8,PT C0),(9,PT U0)] a∧St w0 Nil [G4] [bk b2 [.slice none 0 0,.slice none 0 0,.slice none 0 0,.slice none 0 0,.slice none 0 0,.slice none 0 0] 27,bk C0 [SL Y3 F3 G2,i6 Q5,i6 R5,i6 S5] 125,sla 23 1 I0 D0.length E0 X0,sla 53 3 J0 F0.length G0 u0,sla 53 3 O0 K0.length M0 E1,sla 48 4 Y4 G3.length l3 d4,bk U0 [SL I0 D0 E0,SL J0 F0 G0,SL O0 K0 M0,SL Y4 G3 l3,.slice none 0 0,.slice none 0 0] 27] w∧F3.length≤G2∧SR G4 Y3 F3∧Rows G4 d4 G3) (λgh=>gh.1) (N,F4,P6,Q6,R6,[]) ⟨j0,V4,T3,none,0,[],hm,(Ext.refl _ _),o.hs,u,hcA33,hrA34,.nil⟩ ?_
 rintro ⟨P7,F3,Q5,R5,S5,G3⟩ a w ⟨G4,Y3,G2,Y4,l3,d4,hm,Q7,o,u,hcB48,hrB49,O8⟩
 obtain _ | P7:=P7
 simp [Z4f] at hm
 rw [Z4f] at hm
 refine th<|th<|?_
 obtain ⟨u3,h97,hm⟩:=bs hm
 refine rg<|qm o rfl λo=>?_
 replace u:=u.pk [1,0,0,0,0,0,0] rfl
 replace u:=St.sep [bk C0 [SL Y3 F3 G2,i6 Q5,i6 R5,i6 S5] 125] u
 refine ls<|c1 o rfl call102 (H7 (St.le u) (p1:=(leadlineref05_In.mk F3 Q5 R5 S5)) (b2:=C0) (oa3:=Y3) (cap4:=G2) hcB48 hrB49 (St.sepOk u) (St.sepDis u) h97) ⟨rfl,rfl,trivial⟩ (λv w a hR o=>?_)
 obtain ⟨z7,T6,rfl,P8,Q8,hk⟩:=hR
 replace u:=(u.mut hk .head).unsep
 refine re<|?_
 rcases bit hm with ⟨U6,hm⟩ | ⟨U6,hm⟩
 refine tn<|ctv o rfl U6<|wk<|tn<|wb<|th<|?_
 obtain ⟨U1,h104,hm⟩:=bs hm
 refine rg<|qm o rfl λo=>?_
 replace u:=u.pk [0,0,0,0,0,0,0] rfl
 replace u:=St.sep [bk C0 [SL z7 u3.2.L T6,i6 u3.2.At,i6 u3.2.E,i6 u3.2.Pos] 125] u
 refine ls<|c1 o rfl call104 (Yb (St.le u) (p1:=u3.2) (b2:=C0) (oa3:=z7) (cap4:=T6) P8 Q8 (St.sepOk u) (St.sepDis u) h104) ⟨rfl,trivial⟩ (λv w a hR o=>?_)
 obtain ⟨R8,R7,rfl,R9,S9,hk⟩:=hR
 replace u:=(u.mut hk .head).unsep
 refine ls<|Aw (cs:=[Ac [],i6 0,i6 0].toArray) o rfl u zeroValue53 rfl λb109 w a u o=>ls<|Ba o u sizeOf53 rfl rfl rfl rfl (Am rfl) .head λw u=>re<|tn<|?_
 obtain ⟨S0,h111,hm⟩:=bs hm
 obtain ⟨l133,h134,hm⟩:=bs hm
 refine rdL (Aa t0 (Aa t2 (Aa t3 (Aa t4 (Aa t5 (Aa t7 Ah)))))) 12 u wide λw u=>ds 0 (St.ldsX u i2 (Aa t0 (Aa t2 (Aa t3 (Aa t4 (Aa t5 (Aa t7 Ah))))))) o rfl (Af o De rfl) λo=>dq 1 (St.ldsX u i2 (Aa t0 (Aa t2 (Aa t3 (Aa t4 (Aa t5 (Aa t7 Ah))))))) o rfl (λw hl=>Ag o isAgg24 rfl (hl.cellB t5 rfl)) λo=>ds 2 (St.ldsX u i2 (Aa t0 (Aa t2 (Aa t3 (Aa t4 (Aa t5 (Aa t7 Ah))))))) o rfl (Ab o rfl) λo=>ds 3 (St.ldsX u i2 (Aa t0 (Aa t2 (Aa t3 (Aa t4 (Aa t5 (Aa t7 Ah))))))) o rfl (Af o Ep rfl) λo=>dq 4 (St.ldsX u i2 (Aa t0 (Aa t2 (Aa t3 (Aa t4 (Aa t5 (Aa t7 Ah))))))) o rfl (λw hl=>Ag o isAgg9 rfl (hl.cellB t0 rfl)) λo=>ds 5 (St.ldsX u i2 (Aa t0 (Aa t2 (Aa t3 (Aa t4 (Aa t5 (Aa t7 Ah))))))) o rfl (Af o Jm rfl) λo=>dq 6 (St.ldsX u i2 (Aa t0 (Aa t2 (Aa t3 (Aa t4 (Aa t5 (Aa t7 Ah))))))) o rfl (λw hl=>Ag o isAgg3 rfl (hl.cellB t0 rfl)) λo=>dq 7 (St.ldsX u i2 (Aa t0 (Aa t2 (Aa t3 (Aa t4 (Aa t5 (Aa t7 Ah))))))) o rfl (λw hl=>Bu [Ac U1.1.Name,i6 U1.1.At] [Ac U1.1.Name,.slice none 0 0,.slice none 0 0,i6 U1.1.At] o ⟨rfl,rfl,trivial⟩ (λw=>by kernel_rfl)) λo=>da1 (i:=8) (by kernel_rfl) ?_
 replace u:=u.pk [1,0,0,0,0,0,0,0] rfl
 replace u:=St.sep [bk C0 [SL R8 U1.2.L R7,i6 U1.2.At,i6 U1.2.E,i6 U1.2.Pos] 125] u
 refine di (i:=8) rfl<|c1 o rfl call105 (Ys (St.le u) (p1:=U1.2) (b2:=C0) (oa3:=R8) (cap4:=R7) R9 S9 (Nat.le_refl _) (SR.nil _ none) (St.sepOk u) (St.sepDis u) h111) ⟨rfl,rfl,trivial⟩ (λv w a hR o=>?_)
 obtain ⟨H115,cs116,T9,y8,rfl,g117,U9,V9,F1,W9,hd114,hk⟩:=hR
 obtain ⟨u,F1⟩:=And.intro (St.mutH u hk F1 W9 hd114) (St.extc0 u F1)
 replace u:=u.unsep
 obtain ⟨V6,T5,W6,U5,rfl,X9,Y9,d9,e9⟩:=Av g117
 refine ⟨λ_=>(St.ldsX u F1.sub (Aa t1 (Aa t2 (Aa t3 (Aa t4 (Aa t5 (Aa t7 Ah))))))),?_⟩
 refine da1 (i:=9) (by kernel_rfl) ?_
 refine di (i:=9) rfl<|Bl (e:=48) (sz:=4) [Ac S0.1.Name,SL V6 S0.1.Regs T5,SL W6 S0.1.Body U5,i6 S0.1.At] o rfl u rfl rfl rfl (λw=>by kernel_rfl) λb131 w a u o=>?_
 have k9:Rows (α:=api_Thread) H115 [Ac S0.1.Name,SL V6 S0.1.Regs T5,SL W6 S0.1.Body U5,i6 S0.1.At] ([S0.1]:List api_Thread):=(.cons (c:=[Ac S0.1.Name,SL V6 S0.1.Regs T5,SL W6 S0.1.Body U5,i6 S0.1.At]) ⟨_,_,rfl,rfl,⟨_,_,rfl,⟨_,_,rfl,X9,Y9⟩,⟨_,_,rfl,⟨_,_,rfl,d9,e9⟩,rfl⟩⟩⟩ .nil)
 refine ⟨λ_=>(St.ldsX u F1.sub (Aa t2 (Aa t3 (Aa t4 (Aa t5 (Aa t6 (Aa t8 Ah))))))),?_⟩
 refine da1 (i:=10) (by kernel_rfl) ?_
 refine di (i:=10) rfl<|Cl (α:=api_Thread) (xs:=G3) (ys:=([S0.1]:List api_Thread)) o rfl u underlying24 Jh rfl (by decide) rfl rfl rfl t7 (O8.mono F1.sub) (u.rdO t0) k9 h134 λl9 z8 n9 w a o9 hU o=>?_
 replace u:=hU _ (.tail (.tail (.tail (.tail (.tail (.tail (.tail .head)))))))
 replace u:=u.drop .head
 refine ⟨λ_=>(St.ldsX u F1.sub (Aa t1 (Aa t2 (Aa t3 (Aa t4 (Aa t5 (Aa t7 Ah))))))),?_⟩
 refine ds 11 (St.ldsX u F1.sub (Aa t1 (Aa t2 (Aa t3 (Aa t4 (Aa t5 (Aa t7 Ah))))))) o rfl (Af o De rfl) λo=>da1 (i:=12) (by kernel_rfl) ?_
 refine di (i:=12) rfl<|Ax o u sizeOf24 rfl rfl rfl rfl (.tail (.tail (.tail (.tail (.tail (.tail (.tail .head))))))) (.succ (.succ (.succ .zero))) λw u=>⟨λh=>absurd rfl h,?_⟩
 refine de (by kernel_rfl)<|bn<|tn<|?_
 replace u:=u.pk [2,0,1,1,1,1,1] rfl
 exact ⟨(P7,S0.2.L,S0.2.At,S0.2.E,S0.2.Pos,l133),⟨H115,T9,y8,l9,z8,n9,hm,(Ext.trans Q7 F1),o.hs,u,U9,V9,o9⟩,Nat.lt_succ_self _⟩
 refine tn<|cfv o rfl U6<|we<|tx<|tx<|bx<|tn<|?_
 replace u:=u.pk [1,0,0,0,0,0,0] rfl
 exact ⟨u3.2.L,u3.2.At,u3.2.E,u3.2.Pos,G3,G4,z7,T6,Y4,l3,d4,hm,Q7,o.hs,u,P8,Q8,O8⟩
 rintro a w ⟨D3,M5,O5,P5,Q0,E3,X3,F2,Y0,R0,T1,hm,J1,o,u,hcA48,hrA49,p9⟩
 unfold Z49 at hm
 refine th<|th<|?_
 obtain ⟨V1,h140,hm⟩:=bs hm
 refine rg<|qm o rfl λo=>?_
 replace u:=u.pk [1,0,0,0,0,0,0] rfl
 replace u:=St.sep [bk C0 [SL X3 D3 F2,i6 M5,i6 O5,i6 P5] 125] u
 refine ls<|c1 o rfl call102 (H7 (St.le u) (p1:=(leadlineref05_In.mk D3 M5 O5 P5)) (b2:=C0) (oa3:=X3) (cap4:=F2) hcA48 hrA49 (St.sepOk u) (St.sepDis u) h140) ⟨rfl,rfl,trivial⟩ (λv w a hR o=>?_)
 obtain ⟨X6,V5,rfl,S8,T8,hk⟩:=hR
 replace u:=(u.mut hk .head).unsep
 refine re<|tn<|Au (λa w=>∃ (I4:(List api_Token)) (Y6:Int) (d6:Int) (k6:Int) (V0:(List api_Thread)) (I2:PH) (k4:Option Addr) (A4:Nat) (B1:Option Addr) (W0:Nat) (M2:List Value),(Z4a N P0 D0 F0 K0 Q0) I4 Y6 d6 k6 V0=some r∧Ext w0 E3 I2∧Fr 128 [(2,PT b2),(5,SL I1 P0.1 n0),(8,PT C0),(9,PT U0)] a∧St w0 Nil [I2] [bk b2 [.slice none 0 0,.slice none 0 0,.slice none 0 0,.slice none 0 0,.slice none 0 0,.slice none 0 0] 27,bk C0 [SL k4 I4 A4,i6 Y6,i6 d6,i6 k6] 125,sla 23 1 I0 D0.length E0 X0,sla 53 3 J0 F0.length G0 u0,sla 53 3 O0 K0.length M0 E1,sla 48 4 Y0 Q0.length R0 T1,sla 48 4 B1 V0.length W0 M2,bk U0 [SL I0 D0 E0,SL J0 F0 G0,SL O0 K0 M0,SL Y0 Q0 R0,SL B1 V0 W0,.slice none 0 0] 27] w∧I4.length≤A4∧SR I2 k4 I4∧Rows I2 M2 V0) ?_ ?_
 rcases bit hm with ⟨n6,hm⟩ | ⟨n6,hm⟩
 refine ctv o rfl n6<|?_
 obtain ⟨A9,A8,hm⟩:=bs hm
 obtain ⟨c148,g149,u9⟩:=SR.get B5 A8
 obtain rfl:=Bb g149
 obtain ⟨T0,h152,hm⟩:=bs hm
 obtain ⟨l174,h175,hm⟩:=bs hm
 refine rdL (Aa t1 (Aa t2 (Aa t3 (Aa t4 (Aa t5 (Aa t6 Ah)))))) 17 u wide λw u=>ds 0 (St.ldsX u i2 ta1) o rfl (Af o Gj rfl) λo=>dq 1 (St.ldsX u i2 ta1) o rfl (λw hl=>Ag o isAgg24 rfl (hl.cellB t5 rfl)) λo=>ds 2 (St.ldsX u i2 ta1) o rfl (Ab o rfl) λo=>ds 3 (St.ldsX u i2 ta1) o rfl (Ab o rfl) λo=>ds 4 (St.ldsX u i2 ta1) o rfl (Ab o rfl) λo=>ds 5 (St.ldsX u i2 ta1) o rfl (Aj o rfl) λo=>ds 6 (St.ldsX u i2 ta1) o rfl (Af o Bh rfl) λo=>da1 (i:=7) (by kernel_rfl) ?_
 refine di (i:=7) rfl<|q1 o rfl (Ag o isAgg3 rfl (u.ld.cellB t0 rfl)) λa o=>⟨λ_=>(St.ldsX u i2 ta1),?_⟩
 refine ds 8 (St.ldsX u i2 ta1) o rfl (Gp o rfl rfl) λo=>ds 9 (St.ldsX u i2 ta1) o rfl (An o runUnderlying120 sizeOf130 rfl rfl A8 (SR.oaI B5 (by decide) A8)) λo=>ds 10 (St.ldsX u i2 ta1) o rfl (Af o Dh rfl) λo=>dq 11 (St.ldsX u i2 ta1) o rfl (λw hl=>Ag o isAgg3 rfl (PH.le.cell (λb o hx=>(Lds.le hl) b o ((cp J1.sub R4.sub) b o hx)) (u9 3 _ rfl))) λo=>dq 12 (St.ldsX u i2 ta1) o rfl (λw hl=>Bu [i6 A9.At] [Ac [],.slice none 0 0,.slice none 0 0,i6 A9.At] o ⟨rfl,trivial⟩ (λw=>by kernel_rfl)) λo=>da1 (i:=13) (by kernel_rfl) ?_
 replace u:=u.pk [0,0,0,0,0,0,0] rfl
 replace u:=St.sep [bk C0 [SL X6 V1.2.L V5,i6 V1.2.At,i6 V1.2.E,i6 V1.2.Pos] 125] u
 refine di (i:=13) rfl<|c1 o rfl call105 (Ys (St.le u) (p1:=V1.2) (b2:=C0) (oa3:=X6) (cap4:=V5) S8 T8 (Nat.le_refl _) (SR.nil _ none) (St.sepOk u) (St.sepDis u) h152) ⟨rfl,rfl,trivial⟩ (λv w a hR o=>?_)
 obtain ⟨H156,cs157,y9,B9,rfl,g158,hc169,hr170,R1,hl154,hd155,hk⟩:=hR
 obtain ⟨u,R1⟩:=And.intro (St.mutH u hk R1 hl154 hd155) (St.extc0 u R1)
 replace u:=u.unsep
 obtain ⟨u6,W5,v6,X5,rfl,hc161,hr162,hc165,hr166⟩:=Av g158
 refine ⟨λ_=>(St.ldsX u R1.sub ta1),?_⟩
 refine da1 (i:=14) (by kernel_rfl) ?_
 refine di (i:=14) rfl<|Bl (e:=48) (sz:=4) [Ac T0.1.Name,SL u6 T0.1.Regs W5,SL v6 T0.1.Body X5,i6 T0.1.At] o rfl u rfl rfl rfl (λw=>by kernel_rfl) λb172 w a u o=>?_
 have hv171:Rows (α:=api_Thread) H156 [Ac T0.1.Name,SL u6 T0.1.Regs W5,SL v6 T0.1.Body X5,i6 T0.1.At] ([T0.1]:List api_Thread):=(.cons (c:=[Ac T0.1.Name,SL u6 T0.1.Regs W5,SL v6 T0.1.Body X5,i6 T0.1.At]) ⟨_,_,rfl,rfl,⟨_,_,rfl,⟨_,_,rfl,hc161,hr162⟩,⟨_,_,rfl,⟨_,_,rfl,hc165,hr166⟩,rfl⟩⟩⟩ .nil)
 refine ⟨λ_=>(St.ldsX u R1.sub ta2),?_⟩
 refine da1 (i:=15) (by kernel_rfl) ?_
 replace u:=u.nilS 48 4
 refine di (i:=15) rfl<|Cl (α:=api_Thread) (xs:=[]) (ys:=([T0.1]:List api_Thread)) o rfl u underlying24 Jh rfl (by decide) rfl rfl rfl t0 .nil (u.rdO t1) hv171 h175 λoa176 C9 vs178 w a hv179 hU o=>?_
 replace u:=hU _ .head
 replace u:=u.drop (.tail .head)
 refine ⟨λ_=>(St.ldsX u R1.sub ta2),?_⟩
 refine ds 16 (St.ldsX u R1.sub ta2) o rfl (Af o Gj rfl) λo=>da1 (i:=17) (by kernel_rfl) ?_
 refine di (i:=17) rfl<|Ax o u sizeOf24 rfl rfl rfl rfl (.tail (.tail (.tail (.tail (.tail (.tail (.tail .head))))))) (.succ (.succ (.succ (.succ .zero)))) λw u=>⟨λh=>absurd rfl h,?_⟩
 refine de (by kernel_rfl)<|tn<|?_
 replace u:=u.pk [2,1,1,1,1,1,0,0] rfl
 exact ⟨T0.2.L,T0.2.At,T0.2.E,T0.2.Pos,l174,H156,y9,B9,oa176,C9,vs178,hm,R1,o.hs,u,hc169,hr170,hv179⟩
 refine cfv o rfl n6<|wk<|tn<|?_
 replace u:=u.nilS 48 4
 replace u:=u.pk [2,1,1,1,1,1,0,0] rfl
 exact ⟨V1.2.L,V1.2.At,V1.2.E,V1.2.Pos,[],E3,X6,V5,none,0,[],hm,(Ext.refl _ _),o.hs,u,S8,T8,.nil⟩
 rintro a w ⟨I4,Y6,d6,k6,V0,I2,k4,A4,B1,W0,M2,hm,M1,o,u,hcA63,hrA64,hvA72⟩
 unfold Z4a at hm
 refine th<|Au (λa w=>∃ (J2:(List api_Token)) (J4:Int) (K4:Int) (L4:Int) (O1:(List api_Claim)) (X1:PH) (O2:Option Addr) (S1:Nat) (Y1:Option Addr) (P1:Nat) (l4:List Value),(Z45 N P0 D0 F0 K0 Q0 V0) J2 J4 K4 L4 O1=some r∧Ext w0 I2 X1∧Fr 128 [(2,PT b2),(5,SL I1 P0.1 n0),(8,PT C0),(9,PT U0)] a∧St w0 Nil [X1] [bk b2 [.slice none 0 0,.slice none 0 0,.slice none 0 0,.slice none 0 0,.slice none 0 0,.slice none 0 0] 27,bk C0 [SL O2 J2 S1,i6 J4,i6 K4,i6 L4] 125,sla 23 1 I0 D0.length E0 X0,sla 53 3 J0 F0.length G0 u0,sla 53 3 O0 K0.length M0 E1,sla 48 4 Y0 Q0.length R0 T1,sla 48 4 B1 V0.length W0 M2,sla 74 2 Y1 O1.length P1 l4,bk U0 [SL I0 D0 E0,SL J0 F0 G0,SL O0 K0 M0,SL Y0 Q0 R0,SL B1 V0 W0,SL Y1 O1 P1] 27] w∧J2.length≤S1∧SR X1 O2 J2∧Rows X1 l4 O1) ?_ ?_
 replace u:=u.nilS 74 2
 replace u:=u.pk [1,1,1,1,1,1,1,0,0] rfl
 refine wb<|lp (α:=Nat×(List api_Token)×Int×Int×Int×(List api_Claim)) (λgh a w=>match gh with | (Y5,I3,k5,n5,u5,J3)=>∃ (M4:PH) (B4:Option Addr) (K2:Nat) (u4:Option Addr) (C4:Nat) (A5:List Value),(Z4b N (Z45 N P0 D0 F0 K0 Q0 V0) P0) Y5 I3 k5 n5 u5 J3=some r∧Ext w0 I2 M4∧Fr 128 [(2,PT b2),(5,SL I1 P0.1 n0),(8,PT C0),(9,PT U0)] a∧St w0 Nil [M4] [bk b2 [.slice none 0 0,.slice none 0 0,.slice none 0 0,.slice none 0 0,.slice none 0 0,.slice none 0 0] 27,bk C0 [SL B4 I3 K2,i6 k5,i6 n5,i6 u5] 125,sla 23 1 I0 D0.length E0 X0,sla 53 3 J0 F0.length G0 u0,sla 53 3 O0 K0.length M0 E1,sla 48 4 Y0 Q0.length R0 T1,sla 48 4 B1 V0.length W0 M2,sla 74 2 u4 J3.length C4 A5,bk U0 [SL I0 D0 E0,SL J0 F0 G0,SL O0 K0 M0,SL Y0 Q0 R0,SL B1 V0 W0,SL u4 J3 C4] 27] w∧I3.length≤K2∧SR M4 B4 I3∧Rows M4 A5 J3) (λgh=>gh.1) (N,I4,Y6,d6,k6,[]) ⟨I2,k4,A4,none,0,[],hm,(Ext.refl _ _),o.hs,u,hcA63,hrA64,.nil⟩ ?_
 rintro ⟨Y5,I3,k5,n5,u5,J3⟩ a w ⟨M4,B4,K2,u4,C4,A5,hm,A6,o,u,hcB63,hrB64,U8⟩
 obtain _ | Y5:=Y5
 simp [Z4b] at hm
 rw [Z4b] at hm
 refine th<|th<|?_
 obtain ⟨B2,h182,hm⟩:=bs hm
 refine rg<|qm o rfl λo=>?_
 replace u:=u.pk [1,0,0,0,0,0,0,0,0] rfl
 replace u:=St.sep [bk C0 [SL B4 I3 K2,i6 k5,i6 n5,i6 u5] 125] u
 refine ls<|c1 o rfl call102 (H7 (St.le u) (p1:=(leadlineref05_In.mk I3 k5 n5 u5)) (b2:=C0) (oa3:=B4) (cap4:=K2) hcB63 hrB64 (St.sepOk u) (St.sepDis u) h182) ⟨rfl,rfl,trivial⟩ (λv w a hR o=>?_)
 obtain ⟨y6,B6,rfl,V8,W8,hk⟩:=hR
 replace u:=(u.mut hk .head).unsep
 refine re<|?_
 rcases bit hm with ⟨z6,hm⟩ | ⟨z6,hm⟩
 refine tn<|ctv o rfl z6<|wk<|tn<|wb<|?_
 obtain ⟨x188,B8,hm⟩:=bs hm
 obtain ⟨c190,g191,hl192⟩:=SR.get B5 B8
 obtain rfl:=Bb g191
 obtain ⟨C1,h194,hm⟩:=bs hm
 obtain ⟨l212,h213,hm⟩:=bs hm
 refine rdL (Aa t1 (Aa t2 (Aa t3 (Aa t4 (Aa t5 (Aa t6 (Aa t8 Ah))))))) 16 u wide λw u=>ds 0 (St.ldsX u i2 (Aa t1 (Aa t2 (Aa t3 (Aa t4 (Aa t5 (Aa t6 (Aa t8 Ah)))))))) o rfl (Af o Em rfl) λo=>dq 1 (St.ldsX u i2 (Aa t1 (Aa t2 (Aa t3 (Aa t4 (Aa t5 (Aa t6 (Aa t8 Ah)))))))) o rfl (λw hl=>Ag o isAgg25 rfl (hl.cellB t6 rfl)) λo=>ds 2 (St.ldsX u i2 (Aa t1 (Aa t2 (Aa t3 (Aa t4 (Aa t5 (Aa t6 (Aa t8 Ah)))))))) o rfl (Ab o rfl) λo=>ds 3 (St.ldsX u i2 (Aa t1 (Aa t2 (Aa t3 (Aa t4 (Aa t5 (Aa t6 (Aa t8 Ah)))))))) o rfl (Ab o rfl) λo=>ds 4 (St.ldsX u i2 (Aa t1 (Aa t2 (Aa t3 (Aa t4 (Aa t5 (Aa t6 (Aa t8 Ah)))))))) o rfl (Ab o rfl) λo=>ds 5 (St.ldsX u i2 (Aa t1 (Aa t2 (Aa t3 (Aa t4 (Aa t5 (Aa t6 (Aa t8 Ah)))))))) o rfl (Aj o rfl) λo=>ds 6 (St.ldsX u i2 (Aa t1 (Aa t2 (Aa t3 (Aa t4 (Aa t5 (Aa t6 (Aa t8 Ah)))))))) o rfl (Af o Bh rfl) λo=>da1 (i:=7) (by kernel_rfl) ?_
 refine di (i:=7) rfl<|q1 o rfl (Ag o isAgg3 rfl (u.ld.cellB t0 rfl)) λa o=>⟨λ_=>(St.ldsX u i2 (Aa t1 (Aa t2 (Aa t3 (Aa t4 (Aa t5 (Aa t6 (Aa t8 Ah)))))))),?_⟩
 refine ds 8 (St.ldsX u i2 (Aa t1 (Aa t2 (Aa t3 (Aa t4 (Aa t5 (Aa t6 (Aa t8 Ah)))))))) o rfl (Gp o rfl rfl) λo=>ds 9 (St.ldsX u i2 (Aa t1 (Aa t2 (Aa t3 (Aa t4 (Aa t5 (Aa t6 (Aa t8 Ah)))))))) o rfl (An o runUnderlying120 sizeOf130 rfl rfl B8 (SR.oaI B5 (by decide) B8)) λo=>ds 10 (St.ldsX u i2 (Aa t1 (Aa t2 (Aa t3 (Aa t4 (Aa t5 (Aa t6 (Aa t8 Ah)))))))) o rfl (Af o Dh rfl) λo=>dq 11 (St.ldsX u i2 (Aa t1 (Aa t2 (Aa t3 (Aa t4 (Aa t5 (Aa t6 (Aa t8 Ah)))))))) o rfl (λw hl=>Ag o isAgg3 rfl (PH.le.cell (λb o hx=>(Lds.le hl) b o ((cp (cp (cp A6.sub M1.sub) J1.sub) R4.sub) b o hx)) (hl192 3 _ rfl))) λo=>da1 (i:=12) (by kernel_rfl) ?_
 replace u:=u.pk [0,0,0,0,0,0,0,0,0] rfl
 replace u:=St.sep [bk C0 [SL y6 B2.2.L B6,i6 B2.2.At,i6 B2.2.E,i6 B2.2.Pos] 125] u
 refine di (i:=12) rfl<|c1 o rfl call106 (Jb4 (St.le u) (p1:=B2.2) (b2:=C0) (oa3:=y6) (cap4:=B6) V8 W8 (St.sepOk u) (St.sepDis u) h194) ⟨rfl,rfl,trivial⟩ (λv w a hR o=>?_)
 obtain ⟨H198,cs199,oa205,D9,rfl,g200,hc207,hr208,G1,hl196,hd197,hk⟩:=hR
 obtain ⟨u,G1⟩:=And.intro (St.mutH u hk G1 hl196 hd197) (St.extc0 u G1)
 replace u:=u.unsep
 obtain ⟨A7,C6,rfl,hc203,hr204⟩:=Cn g200
 refine ⟨λ_=>(St.ldsX u G1.sub (Aa t1 (Aa t2 (Aa t3 (Aa t4 (Aa t5 (Aa t6 (Aa t8 Ah)))))))),?_⟩
 refine da1 (i:=13) (by kernel_rfl) ?_
 refine di (i:=13) rfl<|Bl (e:=74) (sz:=2) [SL A7 C1.1.E C6,i6 C1.1.At] o rfl u rfl rfl rfl (λw=>by kernel_rfl) λb210 w a u o=>?_
 have hv209:Rows (α:=api_Claim) H198 [SL A7 C1.1.E C6,i6 C1.1.At] ([C1.1]:List api_Claim):=(.cons (c:=[SL A7 C1.1.E C6,i6 C1.1.At]) ⟨_,_,rfl,⟨_,_,rfl,hc203,hr204⟩,rfl⟩ .nil)
 refine ⟨λ_=>(St.ldsX u G1.sub (Aa t2 (Aa t3 (Aa t4 (Aa t5 (Aa t6 (Aa t7 (Aa t9 Ah)))))))),?_⟩
 refine da1 (i:=14) (by kernel_rfl) ?_
 refine di (i:=14) rfl<|Cl (α:=api_Claim) (xs:=J3) (ys:=([C1.1]:List api_Claim)) o rfl u underlying25 Jan rfl (by decide) rfl rfl rfl t8 (U8.mono G1.sub) (u.rdO t0) hv209 h213 λoa214 E9 vs216 w a hv217 hU o=>?_
 replace u:=hU _ (.tail (.tail (.tail (.tail (.tail (.tail (.tail (.tail .head))))))))
 replace u:=u.drop .head
 refine ⟨λ_=>(St.ldsX u G1.sub (Aa t1 (Aa t2 (Aa t3 (Aa t4 (Aa t5 (Aa t6 (Aa t8 Ah)))))))),?_⟩
 refine ds 15 (St.ldsX u G1.sub (Aa t1 (Aa t2 (Aa t3 (Aa t4 (Aa t5 (Aa t6 (Aa t8 Ah)))))))) o rfl (Af o Em rfl) λo=>da1 (i:=16) (by kernel_rfl) ?_
 refine di (i:=16) rfl<|Ax o u sizeOf25 rfl rfl rfl rfl (.tail (.tail (.tail (.tail (.tail (.tail (.tail (.tail .head)))))))) (.succ (.succ (.succ (.succ (.succ .zero))))) λw u=>⟨λh=>absurd rfl h,?_⟩
 refine de (by kernel_rfl)<|bn<|tn<|?_
 replace u:=u.pk [1,0,0,0,0,0,0,0,0] rfl
 exact ⟨(Y5,C1.2.L,C1.2.At,C1.2.E,C1.2.Pos,l212),⟨H198,oa205,D9,oa214,E9,vs216,hm,(Ext.trans A6 G1),o.hs,u,hc207,hr208,hv217⟩,Nat.lt_succ_self _⟩
 refine tn<|cfv o rfl z6<|we<|tx<|tx<|bx<|tn<|?_
 replace u:=u.pk [1,0,0,0,0,0,0,0,0] rfl
 exact ⟨B2.2.L,B2.2.At,B2.2.E,B2.2.Pos,J3,M4,y6,B6,u4,C4,A5,hm,A6,o.hs,u,V8,W8,U8⟩
 rintro a w ⟨J2,J4,K4,L4,O1,X1,O2,S1,Y1,P1,l4,hm,Q1,o,u,hcA78,hrA79,hvA87⟩
 unfold Z45 at hm
 refine th<|th<|rg<|qm o rfl λo=>qv o (Aj o rfl) λo=>qv o (Af o Bh rfl) λo=>qv o (Ag o isAgg3 rfl (u.ld.cellB t1 rfl)) λo=>qm o rfl λo=>qv o (Ak (α:=api_Token) (xs:=P0.1) o runUnderlying120 rfl) λo=>qv o (Aq o rfl rfl) λo=>re<|tn<|Au (λa w=>∃ (D6:(List api_Token)) (C8:Int) (D8:Int) (E8:Int) (B7:Option Addr) (E6:Nat),(Z46 D0 F0 K0 Q0 V0 O1) D6 C8 D8 E8=some r∧Fr 128 [(2,PT b2),(8,PT C0),(9,PT U0)] a∧St w0 Nil [X1] [bk b2 [.slice none 0 0,.slice none 0 0,.slice none 0 0,.slice none 0 0,.slice none 0 0,.slice none 0 0] 27,bk C0 [SL B7 D6 E6,i6 C8,i6 D8,i6 E8] 125,sla 23 1 I0 D0.length E0 X0,sla 53 3 J0 F0.length G0 u0,sla 53 3 O0 K0.length M0 E1,sla 48 4 Y0 Q0.length R0 T1,sla 48 4 B1 V0.length W0 M2,sla 74 2 Y1 O1.length P1 l4,bk U0 [SL I0 D0 E0,SL J0 F0 G0,SL O0 K0 M0,SL Y0 Q0 R0,SL B1 V0 W0,SL Y1 O1 P1] 27] w∧D6.length≤E6∧SR X1 B7 D6) ?_ ?_
 rcases bip hm with ⟨C7,hm⟩ | ⟨C7,hm⟩
 refine ctv o rfl C7<|?_
 obtain ⟨D7,h220,hm⟩:=bs hm
 refine rg<|qm o rfl λo=>?_
 replace u:=u.pk [1,0,0,0,0,0,0,0,0] rfl
 replace u:=St.sep [bk C0 [SL O2 J2 S1,i6 J4,i6 K4,i6 L4] 125] u
 refine ls<|c1 o rfl call107 (Rl (St.le u) (p1:=(leadlineref05_In.mk J2 J4 K4 L4)) (b2:=C0) (oa3:=O2) (cap4:=S1) hcA78 hrA79 (St.sepOk u) (St.sepDis u) h220) ⟨rfl,trivial⟩ (λv w a hR o=>?_)
 obtain ⟨oa221,F9,rfl,hc223,hr224,hk⟩:=hR
 replace u:=(u.mut hk .head).unsep
 refine re<|tn<|?_
 replace u:=u.pk [1,0,0,0,0,0,0,0,0] rfl
 exact ⟨D7.L,D7.At,D7.E,D7.Pos,oa221,F9,hm,o.hs,u,hc223,hr224⟩
 refine cfv o rfl C7<|wk<|tn<|?_
 exact ⟨J2,J4,K4,L4,O2,S1,hm,o.hs,u,hcA78,hrA79⟩
 rintro a w ⟨D6,C8,D8,E8,B7,E6,hm,o,u,hcA92,hrA93⟩
 unfold Z46 at hm
 refine th<|th<|rg<|qm o rfl λo=>qv o (Aj o rfl) λo=>qv o (Af o Cq rfl) λo=>qv o (Ag o isAgg29 rfl (u.ld.cellB t1 rfl)) λo=>qv o (Bt o rfl rfl) λo=>re<|?_
 rcases bip hm with ⟨E7,hm⟩ | ⟨E7,hm⟩
 refine tn<|ctv o rfl E7<|th<|rdL (Aa t1 (Aa t2 (Aa t3 (Aa t4 (Aa t5 (Aa t6 (Aa t7 (Aa t8 Ah)))))))) 12 u wide λw u=>dq 0 (St.ldsX u i2 ta1) o rfl (λw hl=>Bu [] [.slice none 0 0,.slice none 0 0,.slice none 0 0,.slice none 0 0,.slice none 0 0,.slice none 0 0] o trivial (λw=>by kernel_rfl)) λo=>ds 1 (St.ldsX u i2 ta1) o rfl (Ab o rfl) λo=>ds 2 (St.ldsX u i2 ta1) o rfl (Aj o rfl) λo=>ds 3 (St.ldsX u i2 ta1) o rfl (Af o Cq rfl) λo=>dq 4 (St.ldsX u i2 ta1) o rfl (λw hl=>Ag o isAgg29 rfl (hl.cellB t0 rfl)) λo=>ds 5 (St.ldsX u i2 ta1) o rfl (Ab o rfl) λo=>ds 6 (St.ldsX u i2 ta1) o rfl (Aj o rfl) λo=>ds 7 (St.ldsX u i2 ta1) o rfl (Af o Fq rfl) λo=>dq 8 (St.ldsX u i2 ta1) o rfl (λw hl=>Ag o isAgg3 rfl (hl.cellB t0 rfl)) λo=>da1 (i:=9) (by kernel_rfl) ?_
 refine di (i:=9) rfl<|Ba o u sizeOf27 rfl rfl rfl rfl (Am rfl) .head λw u=>⟨λ_=>(St.ldsX u i2 ta1),?_⟩
 refine ds 10 (St.ldsX u i2 ta1) o rfl (Bo o rfl) λo=>ds 11 (St.ldsX u i2 ta1) o rfl (Bo o rfl) λo=>de (by kernel_rfl)<|tn<|wr<|tr<|?_
 obtain rfl:=si hm
 exact r3c (vs:=[.slice none 0 0,.slice none 0 0,.slice none 0 0,.slice none 0 0,.slice none 0 0,.slice none 0 0]) (.inl rfl) o results64 rfl rfl rfl isAgg27 sizeOf27 rfl (u.ld.cellsB t0) ⟨X1,_,rfl,(show Enc.rep (α:=api_Prog) X1 [.slice none 0 0,.slice none 0 0,.slice none 0 0,.slice none 0 0,.slice none 0 0,.slice none 0 0] (api_Prog.mk [] [] [] [] [] []) from ⟨_,_,rfl,⟨none,0,rfl,Nat.le_refl _,SR.nil _ _⟩,⟨_,_,rfl,⟨none,0,rfl,Nat.le_refl _,SR.nil _ _⟩,⟨_,_,rfl,⟨none,0,rfl,Nat.le_refl _,SR.nil _ _⟩,⟨_,_,rfl,⟨none,0,rfl,Nat.le_refl _,SR.nil _ _⟩,⟨_,_,rfl,⟨none,0,rfl,Nat.le_refl _,SR.nil _ _⟩,⟨none,0,rfl,Nat.le_refl _,SR.nil _ _⟩⟩⟩⟩⟩⟩),(Ext.trans Y8 (Ext.trans R4 (Ext.trans J1 (Ext.trans M1 Q1)))),(St.le u),u.keep⟩
 refine tn<|cfv o rfl E7<|wk<|tn<|th<|rg<|qv o (Ay o Tryz.isAgg27 Tryz.sizeOf27 rfl rfl (u.ld.cellsB t8)) λo=>ls<|Ba o u sizeOf27 rfl rfl rfl rfl (Am rfl) .head λw u=>?_
 iterate 2 refine qa o rfl λo=>?_
 refine re<|tn<|wr<|?_
 obtain ⟨H229,P2,hr227,hc228,u⟩:=St.frzS u (.tail (.tail .head)) (J9.mono (cp (cp Q1.sub M1.sub) J1.sub))
 obtain ⟨H233,Q2,hr231,hc232,u⟩:=St.frzS u (.tail (.tail .head)) (M9.mono (cp (cp (cp P2.sub Q1.sub) M1.sub) J1.sub))
 obtain ⟨H237,R2,hr235,hc236,u⟩:=St.frzS u (.tail (.tail .head)) (Q9.mono (cp (cp (cp (cp Q2.sub P2.sub) Q1.sub) M1.sub) J1.sub))
 obtain ⟨H241,U2,hr239,hc240,u⟩:=St.frzS u (.tail (.tail .head)) (p9.mono (cp (cp (cp (cp R2.sub Q2.sub) P2.sub) Q1.sub) M1.sub))
 obtain ⟨H245,V2,hr243,hc244,u⟩:=St.frzS u (.tail (.tail .head)) (hvA72.mono (cp (cp (cp (cp U2.sub R2.sub) Q2.sub) P2.sub) Q1.sub))
 obtain ⟨H249,W2,hr247,hc248,u⟩:=St.frzS u (.tail (.tail .head)) (hvA87.mono (cp (cp (cp (cp V2.sub U2.sub) R2.sub) Q2.sub) P2.sub))
 obtain rfl:=si hm
 exact r3c (vs:=[SL I0 D0 E0,SL J0 F0 G0,SL O0 K0 M0,SL Y0 Q0 R0,SL B1 V0 W0,SL Y1 O1 P1]) (.inl rfl) o results64 rfl rfl rfl isAgg27 sizeOf27 rfl (u.ld.cellsB t0) ⟨H249,_,rfl,(show Enc.rep (α:=api_Prog) H249 [SL I0 D0 E0,SL J0 F0 G0,SL O0 K0 M0,SL Y0 Q0 R0,SL B1 V0 W0,SL Y1 O1 P1] (api_Prog.mk D0 F0 K0 Q0 V0 O1) from ⟨_,_,rfl,⟨_,_,rfl,hc228,(hr227.mono (cp (cp (cp (cp W2.sub V2.sub) U2.sub) R2.sub) Q2.sub))⟩,⟨_,_,rfl,⟨_,_,rfl,hc232,(hr231.mono (cp (cp (cp W2.sub V2.sub) U2.sub) R2.sub))⟩,⟨_,_,rfl,⟨_,_,rfl,hc236,(hr235.mono (cp (cp W2.sub V2.sub) U2.sub))⟩,⟨_,_,rfl,⟨_,_,rfl,hc240,(hr239.mono (cp W2.sub V2.sub))⟩,⟨_,_,rfl,⟨_,_,rfl,hc244,(hr243.mono W2.sub)⟩,⟨_,_,rfl,hc248,hr247⟩⟩⟩⟩⟩⟩),(Ext.trans Y8 (Ext.trans R4 (Ext.trans J1 (Ext.trans M1 (Ext.trans Q1 (Ext.trans P2 (Ext.trans Q2 (Ext.trans R2 (Ext.trans U2 (Ext.trans V2 W2)))))))))),(St.le u),u.keep⟩
theorem Pg (hH:H.le w0) {p1:Str} {r:api_Prog} (hm:Zi N p1=some r):Tot Tryz.prog 19 #[Ac p1] w0 (λv w'=>∃ (H':PH) (cs0:List Value),v=.agg cs0.toArray∧Enc.rep H' cs0 r∧Ext w0 H H'∧H'.le w'∧Keep Nil w0 w'):=by
 unfold Zi at hm
 refine fn0 func19 rfl ntmps19 rfl rfl λa o=>?_
 have u:St w0 Nil [H] [] w0:=start1 hH
 refine th<|rg<|ls<|Aw (cs:=[.slice none 0 0,.slice none 0 0,.slice none 0 0,.slice none 0 0,.slice none 0 0,.slice none 0 0].toArray) o rfl u Tryz.zeroValue27 rfl λb2 w a u o=>re<|tn<|th<|?_
 obtain ⟨C0,h4,hm⟩:=bs hm
 refine rg<|qm o rfl λo=>ls<|c1 o rfl call64 (Jbf (St.le u) h4) ⟨rfl,trivial⟩ (λv w a hR o=>?_)
 obtain ⟨H8,cs9,rfl,F1,D0,G1,hk⟩:=hR
 obtain ⟨u,D0⟩:=And.intro (St.passH u hk D0 G1) (St.extc u D0)
 obtain ⟨M0,E0,O0,F0,P0,G0,Q0,I0,R0,J0,S0,K0,rfl,T0,U0,V0,W0,X0,Y0,j0,n0,u0,B1,C1,E1⟩:=Ar F1
 refine qm o rfl λo=>?_
 iterate 3 refine qv o (Cd o rfl rfl) λo=>?_
 refine ls<|Aw (cs:=[.slice none 0 0,.slice none 0 0,.slice none 0 0,.slice none 0 0,.slice none 0 0,.slice none 0 0].toArray) o rfl u zeroValue27 rfl λI1 w a u o=>ls<|Ba o u sizeOf27 rfl rfl rfl rfl (Am rfl) .head λw u=>?_
 iterate 2 refine qa o rfl λo=>?_
 refine re<|tn<|th<|rg<|qv o (Ay o Tryz.isAgg27 Tryz.sizeOf27 rfl rfl (u.ld.cellsB t0)) λo=>ls<|Ba o u sizeOf27 rfl rfl rfl rfl (Am rfl) (.tail .head) λw u=>re<|tn<|wr<|?_
 obtain rfl:=si hm
 exact r1c (vs:=[SL M0 C0.1.Lines E0,SL O0 C0.1.Vols F0,SL P0 C0.1.Locks G0,SL Q0 C0.1.Threads I0,SL R0 C0.1.Recover J0,SL S0 C0.1.Claims K0]) (.inl rfl) o results19 rfl isAgg27 sizeOf27 rfl (u.ld.cellsB t1) ⟨H8,_,rfl,(show Enc.rep (α:=api_Prog) H8 [SL M0 C0.1.Lines E0,SL O0 C0.1.Vols F0,SL P0 C0.1.Locks G0,SL Q0 C0.1.Threads I0,SL R0 C0.1.Recover J0,SL S0 C0.1.Claims K0] C0.1 from ⟨_,_,rfl,⟨_,_,rfl,T0,U0⟩,⟨_,_,rfl,⟨_,_,rfl,V0,W0⟩,⟨_,_,rfl,⟨_,_,rfl,X0,Y0⟩,⟨_,_,rfl,⟨_,_,rfl,j0,n0⟩,⟨_,_,rfl,⟨_,_,rfl,u0,B1⟩,⟨_,_,rfl,C1,E1⟩⟩⟩⟩⟩⟩),D0,(St.le u),u.keep⟩
theorem Yf (hH:H.le w0) {cs2:List Value} {p1:api_Prog} (g3:Enc.rep H cs2 p1) {r:(List Str)} (hm:Z6i N p1=some r):Tot Tryz.prog 20 #[.agg cs2.toArray] w0 (λv w'=>∃ (S1:Option Addr) (V0:Nat) (T1:List Value),v=SL S1 r V0∧(∀ h,Rows h T1 r)∧Fresh w0 (sla 9 1 S1 r.length V0 T1) w'):=by
 unfold Z6i at hm
 refine fnM func20 rfl ntmps20 rfl rfl λa o=>?_
 have u:St w0 Nil [H] [] w0:=start1 hH
 replace u:=St.ds0 u
 obtain ⟨U1,W0,V1,X0,Y0,P0,j0,Q0,n0,R0,u0,S0,rfl,O3,P3,X1,Y1,B2,C2,E2,F2,G2,I2,J2,K2⟩:=Ar g3
 refine th<|rg<|ls<|Bs (cs:=[SL U1 p1.Lines W0,SL V1 p1.Vols X0,SL Y0 p1.Locks P0,SL j0 p1.Threads Q0,SL n0 p1.Recover R0,SL u0 p1.Claims S0].toArray) o rfl u rfl rfl λW3 w a u o=>qa o rfl λo=>re<|tn<|th<|rg<|ls<|Aw (cs:=[.slice none 0 0].toArray) o rfl u Tryz.zeroValue36 rfl λM0 w a u o=>re<|tn<|th<|th<|?_
 obtain ⟨I0,Q3,hm⟩:=bs hm
 refine rg<|qv o (Ay o Tryz.isAgg27 Tryz.sizeOf27 rfl rfl (u.ld.cellsB t1)) λo=>ls<|c1 o rfl call65 (Sk (St.le u) (show Enc.rep (α:=api_Prog) H [SL U1 p1.Lines W0,SL V1 p1.Vols X0,SL Y0 p1.Locks P0,SL j0 p1.Threads Q0,SL n0 p1.Recover R0,SL u0 p1.Claims S0] p1 from ⟨_,_,rfl,⟨_,_,rfl,O3,P3⟩,⟨_,_,rfl,⟨_,_,rfl,X1,Y1⟩,⟨_,_,rfl,⟨_,_,rfl,B2,C2⟩,⟨_,_,rfl,⟨_,_,rfl,E2,F2⟩,⟨_,_,rfl,⟨_,_,rfl,G2,I2⟩,⟨_,_,rfl,J2,K2⟩⟩⟩⟩⟩⟩) Q3) ⟨rfl,trivial⟩ (λv w a hR o=>?_)
 obtain ⟨H35,T0,cs38,rfl,M2,R3,O0,O2,hk⟩:=hR
 obtain ⟨u,O0⟩:=And.intro (St.passH u hk O0 O2) (St.extc u O0)
 obtain ⟨P2,C1,Q2,E1,R2,F1,U2,G1,V2,I1,W2,J1,rfl,X2,Y2,A3,B3,C3,D3,E3,F3,G3,I3,J3,K3⟩:=Ar R3
 refine re<|tn<|wb<|?_
 replace o:Fr 15 [(3,PT M0),(6,.func (.func 108) #[] #[PT T0])] _:=o.has ⟨rfl,rfl,trivial⟩
 replace u:=u.nilS 9 1
 replace u:=u.pk [3,0,0] rfl
 obtain ⟨q64,S3,hm⟩:=bs hm
 refine rf (ŝ:=q64) (lb:=[PT T0]) (ps:=[7,8]) (I:=λ(E0:(List Str)) (K0:PH) (L:List HA)=>∃ (F0:Option Addr) (C0:Nat) (G0:List Value),L=[sla 9 1 F0 E0.length C0 G0,bk M0 [SL F0 E0 C0] 36]∧(∀ b o,H35 b=some o→K0 b=some o)∧Rows K0 G0 E0) (J:=λ(_:Empty) (_:Code) (_:PH) (_:List HA)=>False) (λ(s:(List Str)) (x:(api_Cell×Int))=>Z6j s x) (λ(H:PH) (args:List Value) (x:api_Cell×Int)=>∃ (cs0:List Value),args=[.agg cs0.toArray,i6 x.2]∧Enc.rep H cs0 x.1) o rfl call108 rfl (by rintro H args x ⟨_,rfl,_⟩;rfl) u ⟨none,0,[],rfl,i2,.nil⟩ (by rintro E0 H Hn L hs ⟨F0,C0,G0,rfl,hu,J0⟩;exact ⟨_,_,_,rfl,(cp hs hu),(J0.mono hs)⟩) (λt=>t.elim) (λlq C Lc w1 hyc hcm hc hle hok hdis=>Lm (Sg hle hyc hcm hc (show Enc.rep (α:=api_Prog) H35 [SL P2 I0.Lines C1,SL Q2 I0.Vols E1,SL R2 I0.Locks F1,SL U2 I0.Threads G1,SL V2 I0.Recover I1,SL W2 I0.Claims J1] I0 from ⟨_,_,rfl,⟨_,_,rfl,X2,Y2⟩,⟨_,_,rfl,⟨_,_,rfl,A3,B3⟩,⟨_,_,rfl,⟨_,_,rfl,C3,D3⟩,⟨_,_,rfl,⟨_,_,rfl,E3,F3⟩,⟨_,_,rfl,⟨_,_,rfl,G3,I3⟩,⟨_,_,rfl,J3,K3⟩⟩⟩⟩⟩⟩) M2 (Im hok) (Hg hdis) S3)) ?_ ?_ ?_
 intro l X Y s D0 r K0 Lu args w0 a K Qr hI hex hm o u hK hN hR
 obtain ⟨E0,hsq⟩:∃ v,v=s:=⟨_,rfl⟩
 subst hsq
 obtain ⟨F0,C0,G0,rfl,M1,J0⟩:=hI
 replace hm:Z6j E0 D0=some r:=hm
 unfold Z6j at hm
 obtain ⟨cs125,rfl,L3⟩:=hex
 replace o:Fr 15 [(8,i6 D0.2),(7,.agg cs125.toArray),(3,PT M0),(6,.func (.func 108) #[] #[PT T0])] a:=o
 obtain rfl:=Bj L3
 refine rg<|ls<|Aw (cs:=[Ac [],i6 0,i6 0].toArray) o rfl u Tryz.zeroValue53 rfl λT3 w a u o=>ls<|Ba o u sizeOf53 rfl rfl rfl rfl (Am rfl) .head λw u=>re<|?_
 replace u:=u.pk [1,0,0,0] rfl
 refine tn<|hK _ _ _ _ u λw u=>wb<|?_
 obtain ⟨U3,M3,hm⟩:=bs hm
 refine rg<|qv o (Ag o Tryz.isAgg36 rfl (u.ld.cellB t3 rfl)) λo=>qv o (Af o Ep rfl) λo=>qv o (Ag o isAgg9 rfl (u.ld.cellB t1 rfl)) λo=>ls<|Bl (e:=9) (sz:=1) [Ac D0.1.Name] o rfl u rfl rfl rfl (λw=>by kernel_rfl) λV3 w a u o=>?_
 have O1:Rows (α:=Str) K0 [Ac D0.1.Name] ([D0.1.Name]:List Str):=(.cons (c:=[Ac D0.1.Name]) rfl .nil)
 refine ls<|Cl (α:=Str) (xs:=E0) (ys:=([D0.1.Name]:List Str)) o rfl u underlying36 Rs rfl (by decide) rfl rfl rfl t3 J0 (u.rdO t0) O1 M3 λP1 B1 Q1 w a R1 hU o=>?_
 replace u:=hU _ (.tail (.tail (.tail .head)))
 replace u:=u.drop .head
 refine ls<|Ax o u sizeOf36 rfl rfl rfl rfl (.tail (.tail (.tail .head))) .zero λw u=>re<|bn<|?_
 obtain rfl:=si hm
 replace u:=u.pk [0,1,1] rfl
 exact hN _ _ _ _ _ rfl (ExtM.refl _ _ _) ⟨P1,B1,Q1,rfl,M1,R1⟩ u
 rintro E0 D137 K0 Lu a w rfl ⟨F0,C0,G0,rfl,huHA1,J0⟩ U0 o u
 replace U0:=ExtM.nil U0
 try dsimp only at hm
 replace o:Fr ⟨15,(D137 :: [])⟩ [(3,PT M0),(6,.func (.func 108) #[] #[PT T0])] a:=o
 replace u:St w0 Nil [K0] [dsA (D137 :: []),sla 9 1 F0 E0.length C0 G0,bk M0 [SL F0 E0 C0] 36] w:=u
 refine bn<|tn<|th<|rg<|qv o (Ag o Tryz.isAgg36 rfl (u.ld.cellB t2 rfl)) λo=>qa o rfl λo=>re<|tn<|wr<|?_
 obtain rfl:=si hm
 exact rM (.inl rfl) o u λw u=>⟨_,Yg o rfl rfl,⟨_,_,_,rfl,(λ_=>Rows.ind J0),u.endFresh t0⟩⟩
 exact λt=>t.elim
theorem Yx (hH:H.le w0) {J0:Option Addr} {D0:Nat} {p1:(List Str)} (Y0:p1.length≤D0) (P0:SR H J0 p1) {oa7:Option Addr} {cap8:Nat} {p6:(List Str)} (j0:p6.length≤cap8) (K0:SR H oa7 p6) {r:Bool} (hm:Z5r N p1 p6=some r):Tot Tryz.prog 21 #[SL J0 p1 D0,SL oa7 p6 cap8] w0 (λv w'=>v=.bool r∧Keep Nil w0 w'):=by
 unfold Z5r at hm
 refine fn0 func21 rfl ntmps21 rfl rfl λa o=>?_
 have u:St w0 Nil [H] [] w0:=start1 hH
 refine th<|rg<|qa o rfl λo=>re<|tn<|th<|th<|rg<|qm o rfl λo=>qv o (Ak (α:=Str) (xs:=p1) o runUnderlying36 rfl) λo=>qm o rfl λo=>qv o (Ak (α:=Str) (xs:=p6) o runUnderlying36 rfl) λo=>qv o (Bt o rfl rfl) λo=>re<|?_
 rcases bip hm with ⟨E0,hm⟩ | ⟨E0,hm⟩
 refine tn<|ctv o rfl E0<|th<|rg<|qa o rfl λo=>re<|tn<|wr<|tr<|?_
 obtain rfl:=si hm
 exact r1 o results21 rfl ⟨rfl,u.keep⟩
 refine tn<|cfv o rfl E0<|wk<|tn<|th<|th<|rg<|qa o rfl λo=>re<|tn<|Au (λa w=>Z5s=some r∧Fr 26 [] a∧St w0 Nil [H] [] w) ?_ ?_
 refine wb<|lp (α:=Nat×Int) (λgh a w=>match gh with | (C0,I0)=>(Z5t N Z5s p1 p6) C0 I0=some r∧Fr 26 [(0,SL J0 p1 D0),(1,SL oa7 p6 cap8),(5,i6 I0)] a∧St w0 Nil [H] [] w) (λgh=>gh.1) (N,0) ⟨hm,o.hs,u⟩ ?_
 rintro ⟨C0,I0⟩ a w ⟨hm,o,u⟩
 obtain _ | C0:=C0
 simp [Z5t] at hm
 rw [Z5t] at hm
 refine th<|th<|rg<|qm o rfl λo=>qm o rfl λo=>qv o (Ak (α:=Str) (xs:=p1) o runUnderlying36 rfl) λo=>qv o (Aq o rfl rfl) λo=>re<|?_
 rcases bip hm with ⟨F0,hm⟩ | ⟨F0,hm⟩
 refine tn<|ctv o rfl F0<|wk<|tn<|th<|wb<|th<|?_
 obtain ⟨Q0,M0,hm⟩:=bs hm
 obtain ⟨U0,V0,S0⟩:=SR.get P0 M0
 obtain rfl:U0=[Ac Q0]:=V0
 obtain ⟨R0,O0,hm⟩:=bs hm
 obtain ⟨W0,X0,T0⟩:=SR.get K0 O0
 obtain rfl:W0=[Ac R0]:=X0
 refine rxS 9 u wide (by kernel_rfl) λw u=>?_
 iterate 2 refine xq u.ld o (λw hl=>Ab o rfl) λo=>?_
 refine xr u o (An o runUnderlying36 sizeOf9 rfl rfl M0 (SR.oaI P0 (by decide) M0)) λo=>xq u.ld o (λw hl=>Ag o isAgg9 rfl (PH.le.cell (Lds.le hl) (S0 0 _ rfl))) λo=>?_
 iterate 2 refine xq u.ld o (λw hl=>Ab o rfl) λo=>?_
 refine xr u o (An o runUnderlying36 sizeOf9 rfl rfl O0 (SR.oaI K0 (by decide) O0)) λo=>xq u.ld o (λw hl=>Ag o isAgg9 rfl (PH.le.cell (Lds.le hl) (T0 0 _ rfl))) λo=>xr u o (Cu (m:=Q0) (n:=R0) o rfl rfl) λo=>xe<|?_
 rcases bip hm with ⟨G0,hm⟩ | ⟨G0,hm⟩
 refine tn<|ctv o rfl G0<|th<|rg<|qa o rfl λo=>re<|tn<|wr<|br<|tr<|tr<|br<|tr<|?_
 obtain rfl:=si hm
 exact r1 o results21 rfl ⟨rfl,u.keep⟩
 refine tn<|cfv o rfl G0<|wk<|bn<|tn<|rg<|qm o rfl λo=>qv o (Ap o rfl rfl) λo=>qa o rfl λo=>re<|tn<|?_
 exact ⟨(C0,(IntKind.i64.wrap (I0+1))),⟨hm,o.hs,u⟩,Nat.lt_succ_self _⟩
 refine tn<|cfv o rfl F0<|we<|tx<|tx<|bx<|tn<|?_
 exact ⟨hm,o.has trivial,u⟩
 rintro a w ⟨hm,o,u⟩
 unfold Z5s at hm
 refine th<|rg<|qa o rfl λo=>re<|tn<|wr<|?_
 obtain rfl:=si hm
 exact r1 o results21 rfl ⟨rfl,u.keep⟩
theorem JaU (hH:H.le w0) {cs2:List Value} {p1:api_Prog} (g3:Enc.rep H cs2 p1) {r:Int} (hm:Z74 N p1=some r):Tot Tryz.prog 23 #[.agg cs2.toArray] w0 (λv w'=>v=i6 r∧Keep Nil w0 w'):=by
 unfold Z74 at hm
 refine fn0 func23 rfl ntmps23 rfl rfl λa o=>?_
 have u:St w0 Nil [H] [] w0:=start1 hH
 obtain ⟨Q0,G0,j0,T0,U0,K0,V0,M0,W0,O0,X0,P0,rfl,T1,R0,B1,C1,E1,F1,G1,I1,J1,M1,O1,P1⟩:=Ar g3
 refine th<|rg<|ls<|Bs (cs:=[SL Q0 p1.Lines G0,SL j0 p1.Vols T0,SL U0 p1.Locks K0,SL V0 p1.Threads M0,SL W0 p1.Recover O0,SL X0 p1.Claims P0].toArray) o rfl u rfl rfl λU1 w a u o=>qa o rfl λo=>re<|tn<|th<|rg<|qa o rfl λo=>re<|tn<|th<|th<|rg<|qv o (Af o Cj rfl) λo=>qv o (Ag o isAgg22 rfl (u.ld.cellB t0 rfl)) λo=>qv o (Ak (α:=(List api_Cell)) (xs:=p1.Lines) o runUnderlying22 rfl) λo=>qm o rfl λo=>re<|tn<|Au (λa w=>∃ (I0:Int),Z75 I0=some r∧Fr 19 [(3,i6 I0)] a∧St w0 Nil [H] [] w) ?_ ?_
 replace u:=u.pickL .nil
 refine wb<|lp (α:=Nat×Int×Int) (λgh a w=>match gh with | (C0,D0,F0)=>(Z76 N Z75 p1) C0 D0 F0=some r∧Fr 19 [(3,i6 D0),(7,SL Q0 p1.Lines G0),(8,i6 (p1.Lines.length:Int)),(9,i6 F0)] a∧St w0 Nil [H] [] w) (λgh=>gh.1) (N,0,0) ⟨hm,o.hs,u⟩ ?_
 rintro ⟨C0,D0,F0⟩ a w ⟨hm,o,u⟩
 obtain _ | C0:=C0
 simp [Z76] at hm
 rw [Z76] at hm
 refine th<|rg<|qv o (Aq o rfl rfl) λo=>re<|?_
 rcases bip hm with ⟨E0,hm⟩ | ⟨E0,hm⟩
 refine tn<|th<|ctv o rfl E0<|wk<|tn<|th<|wb<|th<|?_
 obtain ⟨S0,J0,hm⟩:=bs hm
 obtain ⟨V1,n0,Y0⟩:=SR.get R0 J0
 obtain ⟨Q1,u0,rfl,R1,S1⟩:=n0
 refine rg<|qv o (An o Tryz.runUnderlying22 Tryz.sizeOf23 rfl rfl J0 (SR.oaI R0 (by decide) J0)) λo=>qv o (Ag o isAgg23 rfl (PH.le.cell (Lds.le u.ld) (Y0 0 _ rfl))) λo=>qa o rfl λo=>re<|tn<|rg<|qm o rfl λo=>qm o rfl λo=>qv o (Ak (α:=api_Cell) (xs:=S0) o runUnderlying23 rfl) λo=>qv o (Ap o rfl rfl) λo=>qa o rfl λo=>re<|bn<|tn<|rg<|qv o (Ap o rfl rfl) λo=>qm o rfl λo=>re<|tn<|?_
 exact ⟨(C0,(IntKind.i64.wrap (D0+(S0.length:Int))),(IntKind.i64.wrap (F0+1))),⟨hm,o.hs,u⟩,Nat.lt_succ_self _⟩
 refine tn<|th<|cfv o rfl E0<|we<|tx<|tx<|bx<|tn<|?_
 exact ⟨D0,hm,o.has ⟨rfl,trivial⟩,u⟩
 rintro a w ⟨I0,hm,o,u⟩
 unfold Z75 at hm
 refine th<|rg<|qm o rfl λo=>qa o rfl λo=>re<|tn<|wr<|?_
 obtain rfl:=si hm
 exact r1 o results23 rfl ⟨rfl,u.keep⟩
theorem Rh (hH:H.le w0) {cs2:List Value} {p1:api_Prog} (g3:Enc.rep H cs2 p1) {p4:Int} {r:Int} (hm:Z6y N p1 p4=some r):Tot Tryz.prog 25 #[.agg cs2.toArray,i6 p4] w0 (λv w'=>v=i6 r∧Keep Nil w0 w'):=by
 unfold Z6y at hm
 refine fnM func25 rfl ntmps25 rfl rfl λa o=>?_
 have u:St w0 Nil [H] [] w0:=start1 hH
 replace u:=St.ds0 u
 obtain ⟨O1,Y0,P1,M0,j0,O0,n0,P0,u0,Q0,B1,R0,rfl,F3,G3,Q1,R1,S1,T1,U1,V1,X1,Y1,B2,C2⟩:=Ar g3
 refine th<|rg<|ls<|Bs (cs:=[SL O1 p1.Lines Y0,SL P1 p1.Vols M0,SL j0 p1.Locks O0,SL n0 p1.Threads P0,SL u0 p1.Recover Q0,SL B1 p1.Claims R0].toArray) o rfl u rfl rfl λL3 w a u o=>ls<|Bs (cs:=[i6 p4].toArray) o rfl u rfl rfl λE0 w a u o=>ls<|Aw (cs:=[i6 0].toArray) o rfl u zeroValue3 rfl λC0 w a u o=>re<|tn<|th<|rg<|ls<|Aw (cs:=[i6 0].toArray) o rfl u Tryz.zeroValue3 rfl λF0 w a u o=>ls<|Ax o u sizeOf3 rfl rfl rfl rfl .head .zero λw u=>re<|tn<|th<|th<|?_
 obtain ⟨D0,I3,hm⟩:=bs hm
 refine rg<|qv o (Ay o Tryz.isAgg27 Tryz.sizeOf27 rfl rfl (u.ld.cellsB t3)) λo=>ls<|c1 o rfl call65 (Sk (St.le u) (show Enc.rep (α:=api_Prog) H [SL O1 p1.Lines Y0,SL P1 p1.Vols M0,SL j0 p1.Locks O0,SL n0 p1.Threads P0,SL u0 p1.Recover Q0,SL B1 p1.Claims R0] p1 from ⟨_,_,rfl,⟨_,_,rfl,F3,G3⟩,⟨_,_,rfl,⟨_,_,rfl,Q1,R1⟩,⟨_,_,rfl,⟨_,_,rfl,S1,T1⟩,⟨_,_,rfl,⟨_,_,rfl,U1,V1⟩,⟨_,_,rfl,⟨_,_,rfl,X1,Y1⟩,⟨_,_,rfl,B2,C2⟩⟩⟩⟩⟩⟩) I3) ⟨rfl,trivial⟩ (λv w a hR o=>?_)
 obtain ⟨H38,J0,cs41,rfl,E2,J3,K0,F2,hk⟩:=hR
 obtain ⟨u,K0⟩:=And.intro (St.passH u hk K0 F2) (St.extc u K0)
 obtain ⟨G2,E1,I2,F1,J2,G1,K2,I1,M2,J1,O2,M1,rfl,P2,Q2,R2,U2,V2,W2,X2,Y2,A3,B3,C3,D3⟩:=Ar J3
 refine re<|tn<|wb<|?_
 replace o:Fr 18 [(3,PT E0),(4,PT C0),(5,PT F0),(9,.func (.func 108) #[] #[PT J0])] _:=o.hs
 replace u:=u.pk [4,2,1,0] rfl
 obtain ⟨q67,K3,hm⟩:=bs hm
 refine rf (ŝ:=q67) (lb:=[PT J0]) (ps:=[10,11]) (I:=λ(G0:Int) (S0:PH) (L:List HA)=>L=[bk E0 [i6 p4] 3,bk C0 [i6 0] 3,bk F0 [i6 G0] 3]∧(∀ b o,H38 b=some o→S0 b=some o)) (J:=λ(T0:Int) (c:Code) (C1:PH) (L:List HA)=>c=.ret∧L=[bk C0 [i6 T0] 3]∧(∀ b o,H38 b=some o→C1 b=some o)) (λ(s:Int) (x:(api_Cell×Int))=>(Z6z p4) s x) (λ(H:PH) (args:List Value) (x:api_Cell×Int)=>∃ (cs0:List Value),args=[.agg cs0.toArray,i6 x.2]∧Enc.rep H cs0 x.1) o rfl call108 rfl (by rintro H args x ⟨_,rfl,_⟩;rfl) u ⟨rfl,i2⟩ (by rintro G0 H Hn L hs ⟨rfl,hu⟩;exact ⟨rfl,(cp hs hu)⟩) (by rintro T0 _ H Hn L hs ⟨rfl,rfl,hu⟩;exact ⟨rfl,rfl,(cp hs hu)⟩) (λlq C Lc w1 hyc hcm hc hle hok hdis=>Lm (Sg hle hyc hcm hc (show Enc.rep (α:=api_Prog) H38 [SL G2 D0.Lines E1,SL I2 D0.Vols F1,SL J2 D0.Locks G1,SL K2 D0.Threads I1,SL M2 D0.Recover J1,SL O2 D0.Claims M1] D0 from ⟨_,_,rfl,⟨_,_,rfl,P2,Q2⟩,⟨_,_,rfl,⟨_,_,rfl,R2,U2⟩,⟨_,_,rfl,⟨_,_,rfl,V2,W2⟩,⟨_,_,rfl,⟨_,_,rfl,X2,Y2⟩,⟨_,_,rfl,⟨_,_,rfl,A3,B3⟩,⟨_,_,rfl,C3,D3⟩⟩⟩⟩⟩⟩) E2 (Im hok) (Hg hdis) K3)) ?_ ?_ ?_
 intro l X Y s U0 r S0 Lu args w0 a K Qr hI hex hm o u hK hN hR
 obtain ⟨G0,hsq⟩:∃ v,v=s:=⟨_,rfl⟩
 subst hsq
 obtain ⟨rfl,V0⟩:=hI
 replace hm:(Z6z p4) G0 U0=some r:=hm
 unfold Z6z at hm
 obtain ⟨cs128,rfl,E3⟩:=hex
 replace o:Fr 18 [(11,i6 U0.2),(10,.agg cs128.toArray),(3,PT E0),(4,PT C0),(5,PT F0),(9,.func (.func 108) #[] #[PT J0])] a:=o
 obtain rfl:=Bj E3
 refine rg<|qa o rfl λo=>re<|tn<|hK _ _ _ _ u λw u=>wb<|th<|th<|rg<|qv o (Ag o Tryz.isAgg3 rfl (u.ld.cellB t3 rfl)) λo=>qv o (Ag o isAgg3 rfl (u.ld.cellB t1 rfl)) λo=>qv o (Al o rfl rfl) λo=>re<|?_
 rcases bip hm with ⟨I0,hm⟩ | ⟨I0,hm⟩
 refine tn<|ctv o rfl I0<|th<|rg<|qm o rfl λo=>ls<|Ax o u sizeOf3 rfl rfl rfl rfl (.tail (.tail .head)) .zero λw u=>re<|tn<|wr<|tr<|br<|?_
 obtain rfl:=si hm
 replace u:=u.pk [0,1] rfl
 exact hR _ _ _ _ _ _ _ rfl rfl (ExtM.refl _ _ _) ⟨rfl,rfl,V0⟩ u
 refine tn<|cfv o rfl I0<|wk<|tn<|rg<|qv o (Ag o Tryz.isAgg3 rfl (u.ld.cellB t3 rfl)) λo=>qv o (Ap o rfl rfl) λo=>ls<|Ax o u sizeOf3 rfl rfl rfl rfl (.tail (.tail (.tail .head))) .zero λw u=>re<|bn<|?_
 obtain rfl:=si hm
 exact hN _ _ _ _ _ rfl (ExtM.refl _ _ _) ⟨rfl,V0⟩ u
 rintro G0 D131 S0 Lu a w rfl ⟨rfl,huHA1⟩ W0 o u
 replace W0:=ExtM.nil W0
 try dsimp only at hm
 replace o:Fr ⟨18,(D131 :: [])⟩ [(3,PT E0),(4,PT C0),(5,PT F0),(9,.func (.func 108) #[] #[PT J0])] a:=o
 replace u:St w0 Nil [S0] [dsA (D131 :: []),bk E0 [i6 p4] 3,bk C0 [i6 0] 3,bk F0 [i6 G0] 3] w:=u
 refine bn<|tn<|th<|rg<|ls<|Ax o u Tryz.sizeOf3 rfl rfl rfl rfl (.tail (.tail .head)) .zero λw u=>re<|tn<|wr<|?_
 obtain rfl:=si hm
 exact rM (.inl rfl) o u λw u=>⟨_,Yp o rfl rfl isAgg3 (u.ld.cellB t1 rfl),⟨rfl,u.keep⟩⟩
 rintro T0 _ D133 C1 Lu a w rfl ⟨rfl,rfl,huHA3⟩ X0 o u
 replace X0:=ExtM.nil X0
 try dsimp only at hm
 replace o:Fr ⟨18,(D133 :: [])⟩ [(3,PT E0),(4,PT C0),(5,PT F0),(9,.func (.func 108) #[] #[PT J0])] a:=o
 replace u:St w0 Nil [C1] [dsA (D133 :: []),bk C0 [i6 T0] 3] w:=u
 refine wr<|br<|tr<|?_
 obtain rfl:=si hm
 exact rM (.inl rfl) o u λw u=>⟨_,Yp o rfl rfl isAgg3 (u.ld.cellB t0 rfl),⟨rfl,u.keep⟩⟩
theorem Jcv (hH:H.le w0) {cs2:List Value} {p1:api_Prog} (g3:Enc.rep H cs2 p1) {r:(List Str)} (hm:Z70 N p1=some r):Tot Tryz.prog 27 #[.agg cs2.toArray] w0 (λv w'=>∃ (u0:Option Addr) (S0:Nat) (B1:List Value),v=SL u0 r S0∧(∀ h,Rows h B1 r)∧Fresh w0 (sla 9 1 u0 r.length S0 B1) w'):=by
 unfold Z70 at hm
 refine fn0 func27 rfl ntmps27 rfl rfl λa o=>?_
 have u:St w0 Nil [H] [] w0:=start1 hH
 obtain ⟨S1,C1,T1,E1,T0,Q0,F1,X0,G1,Y0,I1,j0,rfl,M2,O2,Y1,B2,C2,U0,E2,F2,G2,I2,J2,K2⟩:=Ar g3
 refine th<|rg<|ls<|Bs (cs:=[SL S1 p1.Lines C1,SL T1 p1.Vols E1,SL T0 p1.Locks Q0,SL F1 p1.Threads X0,SL G1 p1.Recover Y0,SL I1 p1.Claims j0].toArray) o rfl u rfl rfl λP2 w a u o=>qa o rfl λo=>re<|tn<|th<|rg<|qa o rfl λo=>re<|tn<|th<|th<|rg<|qv o (Af o Ec rfl) λo=>qv o (Ag o isAgg23 rfl (u.ld.cellB t0 rfl)) λo=>qv o (Ak (α:=api_Cell) (xs:=p1.Locks) o runUnderlying23 rfl) λo=>qm o rfl λo=>re<|tn<|Au (λa w=>∃ (I0:(List Str)) (M0:Option Addr) (E0:Nat) (O0:List Value),Z71 I0=some r∧Fr 20 [(3,SL M0 I0 E0)] a∧St w0 Nil [H] [sla 9 1 M0 I0.length E0 O0] w∧Rows H O0 I0) ?_ ?_
 replace u:=u.nilS 9 1
 replace u:=u.pk [0] rfl
 refine wb<|lp (α:=Nat×(List Str)×Int) (λgh a w=>match gh with | (J0,D0,R0)=>∃ (F0:Option Addr) (C0:Nat) (G0:List Value),(Z72 N Z71 p1) J0 D0 R0=some r∧Fr 20 [(3,SL F0 D0 C0),(7,SL T0 p1.Locks Q0),(8,i6 (p1.Locks.length:Int)),(9,i6 R0)] a∧St w0 Nil [H] [sla 9 1 F0 D0.length C0 G0] w∧Rows H G0 D0) (λgh=>gh.1) (N,[],0) ⟨none,0,[],hm,o.hs,u,.nil⟩ ?_
 rintro ⟨J0,D0,R0⟩ a w ⟨F0,C0,G0,hm,o,u,V0⟩
 obtain _ | J0:=J0
 simp [Z72] at hm
 rw [Z72] at hm
 refine th<|rg<|qv o (Aq o rfl rfl) λo=>re<|?_
 rcases bip hm with ⟨P0,hm⟩ | ⟨P0,hm⟩
 refine tn<|th<|ctv o rfl P0<|wk<|tn<|th<|wb<|th<|?_
 obtain ⟨K0,W0,hm⟩:=bs hm
 obtain ⟨Q2,U1,J1⟩:=SR.get U0 W0
 obtain rfl:=Bj U1
 refine rg<|qv o (An o Tryz.runUnderlying23 Tryz.sizeOf53 rfl rfl W0 (SR.oaI U0 (by decide) W0)) λo=>qv o (Ay o isAgg53 sizeOf53 rfl rfl (λj v hj=>PH.le.cell (Lds.le u.ld) (J1 j v hj))) λo=>ls<|Aw (cs:=[Ac [],i6 0,i6 0].toArray) o rfl u zeroValue53 rfl λR2 w a u o=>ls<|Ba o u sizeOf53 rfl rfl rfl rfl (Am rfl) .head λw u=>re<|tn<|?_
 obtain ⟨V1,X1,hm⟩:=bs hm
 refine rg<|qm o rfl λo=>qv o (Af o Ep rfl) λo=>qv o (Ag o isAgg9 rfl (u.ld.cellB t0 rfl)) λo=>ls<|Bl (e:=9) (sz:=1) [Ac K0.Name] o rfl u rfl rfl rfl (λw=>by kernel_rfl) λU2 w a u o=>?_
 have M1:Rows (α:=Str) H [Ac K0.Name] ([K0.Name]:List Str):=(.cons (c:=[Ac K0.Name]) rfl .nil)
 refine ls<|Cl (α:=Str) (xs:=D0) (ys:=([K0.Name]:List Str)) o rfl u underlying36 Rs rfl (by decide) rfl rfl rfl t2 V0 (u.rdO t0) M1 X1 λO1 n0 P1 w a Q1 hU o=>?_
 replace u:=hU _ (.tail (.tail .head))
 replace u:=u.drop .head
 refine qa o rfl λo=>re<|bn<|tn<|rg<|qv o (Ap o rfl rfl) λo=>qm o rfl λo=>re<|tn<|?_
 replace u:=u.pk [1] rfl
 exact ⟨(J0,V1,(IntKind.i64.wrap (R0+1))),⟨O1,n0,P1,hm,o.hs,u,Q1⟩,Nat.lt_succ_self _⟩
 refine tn<|th<|cfv o rfl P0<|we<|tx<|tx<|bx<|tn<|?_
 exact ⟨D0,F0,C0,G0,hm,o.has ⟨rfl,trivial⟩,u,V0⟩
 rintro a w ⟨I0,M0,E0,O0,hm,o,u,R1⟩
 unfold Z71 at hm
 refine th<|rg<|qm o rfl λo=>qa o rfl λo=>re<|tn<|wr<|?_
 obtain rfl:=si hm
 exact r1 o results27 rfl ⟨_,_,_,rfl,(λ_=>Rows.ind R1),u.endFresh t0⟩
theorem Jbp (hH:H.le w0) {cs2:List Value} {p1:api_Prog} (g3:Enc.rep H cs2 p1) {r:(List Int)} (hm:Z6w N p1=some r):Tot Tryz.prog 30 #[.agg cs2.toArray] w0 (λv w'=>∃ (S1:Option Addr) (V0:Nat) (T1:List Value),v=SL S1 r V0∧(∀ h,Rows h T1 r)∧Fresh w0 (sla 3 1 S1 r.length V0 T1) w'):=by
 unfold Z6w at hm
 refine fnM func30 rfl ntmps30 rfl rfl λa o=>?_
 have u:St w0 Nil [H] [] w0:=start1 hH
 replace u:=St.ds0 u
 obtain ⟨U1,W0,V1,X0,Y0,P0,j0,Q0,n0,R0,u0,S0,rfl,O3,P3,X1,Y1,B2,C2,E2,F2,G2,I2,J2,K2⟩:=Ar g3
 refine th<|rg<|ls<|Bs (cs:=[SL U1 p1.Lines W0,SL V1 p1.Vols X0,SL Y0 p1.Locks P0,SL j0 p1.Threads Q0,SL n0 p1.Recover R0,SL u0 p1.Claims S0].toArray) o rfl u rfl rfl λW3 w a u o=>qa o rfl λo=>re<|tn<|th<|rg<|ls<|Aw (cs:=[.slice none 0 0].toArray) o rfl u Tryz.zeroValue42 rfl λM0 w a u o=>re<|tn<|th<|th<|?_
 obtain ⟨I0,Q3,hm⟩:=bs hm
 refine rg<|qv o (Ay o Tryz.isAgg27 Tryz.sizeOf27 rfl rfl (u.ld.cellsB t1)) λo=>ls<|c1 o rfl call65 (Sk (St.le u) (show Enc.rep (α:=api_Prog) H [SL U1 p1.Lines W0,SL V1 p1.Vols X0,SL Y0 p1.Locks P0,SL j0 p1.Threads Q0,SL n0 p1.Recover R0,SL u0 p1.Claims S0] p1 from ⟨_,_,rfl,⟨_,_,rfl,O3,P3⟩,⟨_,_,rfl,⟨_,_,rfl,X1,Y1⟩,⟨_,_,rfl,⟨_,_,rfl,B2,C2⟩,⟨_,_,rfl,⟨_,_,rfl,E2,F2⟩,⟨_,_,rfl,⟨_,_,rfl,G2,I2⟩,⟨_,_,rfl,J2,K2⟩⟩⟩⟩⟩⟩) Q3) ⟨rfl,trivial⟩ (λv w a hR o=>?_)
 obtain ⟨H35,T0,cs38,rfl,M2,R3,O0,O2,hk⟩:=hR
 obtain ⟨u,O0⟩:=And.intro (St.passH u hk O0 O2) (St.extc u O0)
 obtain ⟨P2,C1,Q2,E1,R2,F1,U2,G1,V2,I1,W2,J1,rfl,X2,Y2,A3,B3,C3,D3,E3,F3,G3,I3,J3,K3⟩:=Ar R3
 refine re<|tn<|wb<|?_
 replace o:Fr 15 [(3,PT M0),(6,.func (.func 108) #[] #[PT T0])] _:=o.has ⟨rfl,rfl,trivial⟩
 replace u:=u.nilS 3 1
 replace u:=u.pk [3,0,0] rfl
 obtain ⟨q64,S3,hm⟩:=bs hm
 refine rf (ŝ:=q64) (lb:=[PT T0]) (ps:=[7,8]) (I:=λ(E0:(List Int)) (K0:PH) (L:List HA)=>∃ (F0:Option Addr) (C0:Nat) (G0:List Value),L=[sla 3 1 F0 E0.length C0 G0,bk M0 [SL F0 E0 C0] 42]∧(∀ b o,H35 b=some o→K0 b=some o)∧Rows K0 G0 E0) (J:=λ(_:Empty) (_:Code) (_:PH) (_:List HA)=>False) (λ(s:(List Int)) (x:(api_Cell×Int))=>(Z6x N) s x) (λ(H:PH) (args:List Value) (x:api_Cell×Int)=>∃ (cs0:List Value),args=[.agg cs0.toArray,i6 x.2]∧Enc.rep H cs0 x.1) o rfl call108 rfl (by rintro H args x ⟨_,rfl,_⟩;rfl) u ⟨none,0,[],rfl,i2,.nil⟩ (by rintro E0 H Hn L hs ⟨F0,C0,G0,rfl,hu,J0⟩;exact ⟨_,_,_,rfl,(cp hs hu),(J0.mono hs)⟩) (λt=>t.elim) (λlq C Lc w1 hyc hcm hc hle hok hdis=>Lm (Sg hle hyc hcm hc (show Enc.rep (α:=api_Prog) H35 [SL P2 I0.Lines C1,SL Q2 I0.Vols E1,SL R2 I0.Locks F1,SL U2 I0.Threads G1,SL V2 I0.Recover I1,SL W2 I0.Claims J1] I0 from ⟨_,_,rfl,⟨_,_,rfl,X2,Y2⟩,⟨_,_,rfl,⟨_,_,rfl,A3,B3⟩,⟨_,_,rfl,⟨_,_,rfl,C3,D3⟩,⟨_,_,rfl,⟨_,_,rfl,E3,F3⟩,⟨_,_,rfl,⟨_,_,rfl,G3,I3⟩,⟨_,_,rfl,J3,K3⟩⟩⟩⟩⟩⟩) M2 (Im hok) (Hg hdis) S3)) ?_ ?_ ?_
 intro l X Y s D0 r K0 Lu args w0 a K Qr hI hex hm o u hK hN hR
 obtain ⟨E0,hsq⟩:∃ v,v=s:=⟨_,rfl⟩
 subst hsq
 obtain ⟨F0,C0,G0,rfl,M1,J0⟩:=hI
 replace hm:(Z6x N) E0 D0=some r:=hm
 unfold Z6x at hm
 obtain ⟨cs125,rfl,L3⟩:=hex
 replace o:Fr 15 [(8,i6 D0.2),(7,.agg cs125.toArray),(3,PT M0),(6,.func (.func 108) #[] #[PT T0])] a:=o
 obtain rfl:=Bj L3
 refine rg<|ls<|Aw (cs:=[Ac [],i6 0,i6 0].toArray) o rfl u Tryz.zeroValue53 rfl λT3 w a u o=>ls<|Ba o u sizeOf53 rfl rfl rfl rfl (Am rfl) .head λw u=>re<|?_
 replace u:=u.pk [1,0,0,0] rfl
 refine tn<|hK _ _ _ _ u λw u=>wb<|?_
 obtain ⟨U3,M3,hm⟩:=bs hm
 refine rg<|qv o (Ag o Tryz.isAgg42 rfl (u.ld.cellB t3 rfl)) λo=>qv o (Af o Ft rfl) λo=>qv o (Ag o isAgg3 rfl (u.ld.cellB t1 rfl)) λo=>ls<|Bl (e:=3) (sz:=1) [i6 D0.1.N] o rfl u rfl rfl rfl (λw=>by kernel_rfl) λV3 w a u o=>?_
 have O1:Rows (α:=Int) K0 [i6 D0.1.N] ([D0.1.N]:List Int):=(.cons (c:=[i6 D0.1.N]) rfl .nil)
 refine ls<|Cl (α:=Int) (xs:=E0) (ys:=([D0.1.N]:List Int)) o rfl u underlying42 Yd rfl (by decide) rfl rfl rfl t3 J0 (u.rdO t0) O1 M3 λP1 B1 Q1 w a R1 hU o=>?_
 replace u:=hU _ (.tail (.tail (.tail .head)))
 replace u:=u.drop .head
 refine ls<|Ax o u sizeOf42 rfl rfl rfl rfl (.tail (.tail (.tail .head))) .zero λw u=>re<|bn<|?_
 obtain rfl:=si hm
 replace u:=u.pk [0,1,1] rfl
 exact hN _ _ _ _ _ rfl (ExtM.refl _ _ _) ⟨P1,B1,Q1,rfl,M1,R1⟩ u
 rintro E0 D137 K0 Lu a w rfl ⟨F0,C0,G0,rfl,huHA1,J0⟩ U0 o u
 replace U0:=ExtM.nil U0
 try dsimp only at hm
 replace o:Fr ⟨15,(D137 :: [])⟩ [(3,PT M0),(6,.func (.func 108) #[] #[PT T0])] a:=o
 replace u:St w0 Nil [K0] [dsA (D137 :: []),sla 3 1 F0 E0.length C0 G0,bk M0 [SL F0 E0 C0] 42] w:=u
 refine bn<|tn<|th<|rg<|qv o (Ag o Tryz.isAgg42 rfl (u.ld.cellB t2 rfl)) λo=>qa o rfl λo=>re<|tn<|wr<|?_
 obtain rfl:=si hm
 exact rM (.inl rfl) o u λw u=>⟨_,Yg o rfl rfl,⟨_,_,_,rfl,(λ_=>Rows.ind J0),u.endFresh t0⟩⟩
 exact λt=>t.elim
theorem Jb3 (hH:H.le w0) {J0:Option Addr} {D0:Nat} {p1:(List Int)} (_:p1.length≤D0) (P0:SR H J0 p1) {oa7:Option Addr} {cap8:Nat} {p6:(List Int)} (_:p6.length≤cap8) (K0:SR H oa7 p6) {r:Bool} (hm:Z5g N p1 p6=some r):Tot Tryz.prog 29 #[SL J0 p1 D0,SL oa7 p6 cap8] w0 (λv w'=>v=.bool r∧Keep Nil w0 w'):=by
 unfold Z5g at hm
 refine fn0 func29 rfl ntmps29 rfl rfl λa o=>?_
 have u:St w0 Nil [H] [] w0:=start1 hH
 refine th<|rg<|qa o rfl λo=>re<|tn<|th<|th<|rg<|qm o rfl λo=>qv o (Ak (α:=Int) (xs:=p1) o runUnderlying42 rfl) λo=>qm o rfl λo=>qv o (Ak (α:=Int) (xs:=p6) o runUnderlying42 rfl) λo=>qv o (Bt o rfl rfl) λo=>re<|?_
 rcases bip hm with ⟨E0,hm⟩ | ⟨E0,hm⟩
 refine tn<|ctv o rfl E0<|th<|rg<|qa o rfl λo=>re<|tn<|wr<|tr<|?_
 obtain rfl:=si hm
 exact r1 o results29 rfl ⟨rfl,u.keep⟩
 refine tn<|cfv o rfl E0<|wk<|tn<|th<|th<|rg<|qa o rfl λo=>re<|tn<|Au (λa w=>Z5h=some r∧Fr 26 [] a∧St w0 Nil [H] [] w) ?_ ?_
 refine wb<|lp (α:=Nat×Int) (λgh a w=>match gh with | (C0,I0)=>(Z5i N Z5h p1 p6) C0 I0=some r∧Fr 26 [(0,SL J0 p1 D0),(1,SL oa7 p6 cap8),(5,i6 I0)] a∧St w0 Nil [H] [] w) (λgh=>gh.1) (N,0) ⟨hm,o.hs,u⟩ ?_
 rintro ⟨C0,I0⟩ a w ⟨hm,o,u⟩
 obtain _ | C0:=C0
 simp [Z5i] at hm
 rw [Z5i] at hm
 refine th<|th<|rg<|qm o rfl λo=>qm o rfl λo=>qv o (Ak (α:=Int) (xs:=p1) o runUnderlying42 rfl) λo=>qv o (Aq o rfl rfl) λo=>re<|?_
 rcases bip hm with ⟨F0,hm⟩ | ⟨F0,hm⟩
 refine tn<|ctv o rfl F0<|wk<|tn<|th<|wb<|th<|?_
 obtain ⟨S0,M0,hm⟩:=bs hm
 obtain ⟨T0,U0,Q0⟩:=SR.get P0 M0
 obtain rfl:T0=[i6 S0]:=U0
 obtain ⟨V0,O0,hm⟩:=bs hm
 obtain ⟨W0,X0,R0⟩:=SR.get K0 O0
 obtain rfl:W0=[i6 V0]:=X0
 refine rxS 9 u wide (by kernel_rfl) λw u=>?_
 iterate 2 refine xq u.ld o (λw hl=>Ab o rfl) λo=>?_
 refine xr u o (An o runUnderlying42 sizeOf3 rfl rfl M0 (SR.oaI P0 (by decide) M0)) λo=>xq u.ld o (λw hl=>Ag o isAgg3 rfl (PH.le.cell (Lds.le hl) (Q0 0 _ rfl))) λo=>?_
 iterate 2 refine xq u.ld o (λw hl=>Ab o rfl) λo=>?_
 refine xr u o (An o runUnderlying42 sizeOf3 rfl rfl O0 (SR.oaI K0 (by decide) O0)) λo=>xq u.ld o (λw hl=>Ag o isAgg3 rfl (PH.le.cell (Lds.le hl) (R0 0 _ rfl))) λo=>xr u o (Bt o rfl rfl) λo=>xe<|?_
 rcases bip hm with ⟨G0,hm⟩ | ⟨G0,hm⟩
 refine tn<|ctv o rfl G0<|th<|rg<|qa o rfl λo=>re<|tn<|wr<|br<|tr<|tr<|br<|tr<|?_
 obtain rfl:=si hm
 exact r1 o results29 rfl ⟨rfl,u.keep⟩
 refine tn<|cfv o rfl G0<|wk<|bn<|tn<|rg<|qm o rfl λo=>qv o (Ap o rfl rfl) λo=>qa o rfl λo=>re<|tn<|?_
 exact ⟨(C0,(IntKind.i64.wrap (I0+1))),⟨hm,o.hs,u⟩,Nat.lt_succ_self _⟩
 refine tn<|cfv o rfl F0<|we<|tx<|tx<|bx<|tn<|?_
 exact ⟨hm,o.has trivial,u⟩
 rintro a w ⟨hm,o,u⟩
 unfold Z5h at hm
 refine th<|rg<|qa o rfl λo=>re<|tn<|wr<|?_
 obtain rfl:=si hm
 exact r1 o results29 rfl ⟨rfl,u.keep⟩
theorem Jcg (hH:H.le w0) {G0:Option Addr} {D0:Nat} {p1:(List Str)} (Q0:p1.length≤D0) (J0:SR H G0 p1) {p6:Str} {r:Int} (hm:Zac N p1 p6=some r):Tot Tryz.prog 68 #[SL G0 p1 D0,Ac p6] w0 (λv w'=>v=i6 r∧Keep Nil w0 w'):=by
 unfold Zac at hm
 refine fn0 func68 rfl ntmps68 rfl rfl λa o=>?_
 have u:St w0 Nil [H] [] w0:=start1 hH
 refine th<|rg<|qa o rfl λo=>re<|tn<|th<|th<|rg<|qm o rfl λo=>qv o (Ak (α:=Str) (xs:=p1) o runUnderlying36 rfl) λo=>qm o rfl λo=>re<|tn<|Au (λa w=>Zad=some r∧Fr 19 [] a∧St w0 Nil [H] [] w) ?_ ?_
 refine wb<|lp (α:=Nat×Int) (λgh a w=>match gh with | (C0,F0)=>(Zae N Zad p1 p6) C0 F0=some r∧Fr 19 [(0,SL G0 p1 D0),(1,Ac p6),(7,i6 (p1.length:Int)),(8,i6 F0)] a∧St w0 Nil [H] [] w) (λgh=>gh.1) (N,0) ⟨hm,o.hs,u⟩ ?_
 rintro ⟨C0,F0⟩ a w ⟨hm,o,u⟩
 obtain _ | C0:=C0
 simp [Zae] at hm
 rw [Zae] at hm
 refine th<|rg<|qv o (Aq o rfl rfl) λo=>re<|?_
 rcases bip hm with ⟨I0,hm⟩ | ⟨I0,hm⟩
 refine tn<|th<|ctv o rfl I0<|wk<|tn<|th<|wb<|th<|rg<|qm o rfl λo=>qa o rfl λo=>re<|tn<|th<|?_
 obtain ⟨K0,h9,hm⟩:=bs hm
 obtain ⟨O0,P0,M0⟩:=SR.get J0 h9
 obtain rfl:O0=[Ac K0]:=P0
 refine rg<|qm o rfl λo=>?_
 iterate 2 refine qm o rfl λo=>?_
 refine qv o (An o runUnderlying36 sizeOf9 rfl rfl h9 (SR.oaI J0 (by decide) h9)) λo=>qv o (Ag o isAgg9 rfl (PH.le.cell (Lds.le u.ld) (M0 0 _ rfl))) λo=>qv o (Dz (m:=p6) (n:=K0) o rfl rfl) λo=>re<|?_
 rcases bip hm with ⟨E0,hm⟩ | ⟨E0,hm⟩
 refine tn<|ctv o rfl E0<|th<|rg<|qm o rfl λo=>qa o rfl λo=>re<|tn<|wr<|br<|tr<|tr<|br<|tr<|?_
 obtain rfl:=si hm
 exact r1 o results68 rfl ⟨rfl,u.keep⟩
 refine tn<|cfv o rfl E0<|wk<|bn<|tn<|rg<|qv o (Ap o rfl rfl) λo=>qm o rfl λo=>re<|tn<|?_
 exact ⟨(C0,(IntKind.i64.wrap (F0+1))),⟨hm,o.hs,u⟩,Nat.lt_succ_self _⟩
 refine tn<|th<|cfv o rfl I0<|we<|tx<|tx<|bx<|tn<|?_
 exact ⟨hm,o.has trivial,u⟩
 rintro a w ⟨hm,o,u⟩
 unfold Zad at hm
 refine th<|rg<|qa o rfl λo=>re<|tn<|wr<|?_
 obtain rfl:=si hm
 exact r1 o results68 rfl ⟨rfl,u.keep⟩
theorem Yq (hH:H.le w0) {D0:Option Addr} {C0:Nat} {p1:(List Str)} (E0:p1.length≤C0) (F0:SR H D0 p1) {p6:Str} {r:Int} (hm:Z73 N p1 p6=some r):Tot Tryz.prog 32 #[SL D0 p1 C0,Ac p6] w0 (λv w'=>v=i6 r∧Keep Nil w0 w'):=by
 unfold Z73 at hm
 refine fn0 func32 rfl ntmps32 rfl rfl λa o=>?_
 have u:St w0 Nil [H] [] w0:=start1 hH
 refine th<|rg<|qa o rfl λo=>re<|tn<|th<|?_
 obtain ⟨G0,h8,hm⟩:=bs hm
 refine rg<|qm o rfl λo=>qm o rfl λo=>ls<|cr o call68 (Jcg (Ai _) E0 (St.srH u F0) h8) u λu o=>qa o rfl λo=>re<|tn<|wr<|?_
 obtain rfl:=si hm
 exact r1 o results32 rfl ⟨rfl,u.keep⟩
set_option maxHeartbeats 4000000 in
theorem Jc4 (hH:H.le w0) (hT:Tab H)  {r:Bool} (hm:Zh N  = some r):Tot Tryz.prog 18 #[] w0 (λv w'=>v=.bool r∧Keep Nil w0 w'):=by
 unfold Zh at hm
 refine fn0 func18 rfl ntmps18 rfl rfl λa o=>?_
 have u:St w0 Nil [H] [] w0:=start1 hH
 refine th<|rg<|qa o rfl λo=>re<|tn<|th<|?_
 obtain ⟨K0,h2,hm⟩:=bs hm
 refine rg<|ls<|c1 o rfl Tryz.call19 (Pg (St.le u) h2) ⟨rfl,trivial⟩ (λv w a hR o=>?_)
 obtain ⟨H6,cs7,rfl,g8,Y1,X9,hk⟩:=hR
 obtain ⟨u,Y1⟩:=And.intro (St.passH u hk Y1 X9) (St.extc u Y1)
 obtain ⟨B2,S0,n0,T0,u0,U0,B1,V0,C1,W0,E1,X0,rfl,F1,G1,I1,J1,M1,O1,P1,Q1,R1,S1,T1,U1⟩:=Ar g8
 refine ls<|Aw (cs:=[.slice none 0 0,.slice none 0 0,.slice none 0 0,.slice none 0 0,.slice none 0 0,.slice none 0 0].toArray) o rfl u zeroValue27 rfl λV1 w a u o=>ls<|Ba o u sizeOf27 rfl rfl rfl rfl (Am rfl) .head λw u=>re<|tn<|th<|?_
 obtain ⟨X1,Y9,hm⟩:=bs hm
 refine rg<|qv o (Ay o Tryz.isAgg27 Tryz.sizeOf27 rfl rfl (u.ld.cellsB t0)) λo=>ls<|cr o call16 (Iy (Ai _) (Tab.mono (Tab.mono hT Y1.sub) (St.up u)) (Enc.mono (St.up u) (show Enc.rep (α:=api_Prog) H6 [SL B2 K0.Lines S0,SL n0 K0.Vols T0,SL u0 K0.Locks U0,SL B1 K0.Threads V0,SL C1 K0.Recover W0,SL E1 K0.Claims X0] K0 from ⟨_,_,rfl,⟨_,_,rfl,F1,G1⟩,⟨_,_,rfl,⟨_,_,rfl,I1,J1⟩,⟨_,_,rfl,⟨_,_,rfl,M1,O1⟩,⟨_,_,rfl,⟨_,_,rfl,P1,Q1⟩,⟨_,_,rfl,⟨_,_,rfl,R1,S1⟩,⟨_,_,rfl,T1,U1⟩⟩⟩⟩⟩⟩)) Y9) u λu o=>qm o rfl λo=>?_
 iterate 2 refine qv o (Cd o rfl rfl) λo=>?_
 iterate 2 refine qa o rfl λo=>?_
 refine re<|tn<|th<|?_
 obtain ⟨I2,d9,hm⟩:=bs hm
 obtain ⟨R0,e9,hm⟩:=bs hm
 refine rg<|ls<|c1 o rfl Tryz.call19 (Pg (St.le u) d9) ⟨rfl,trivial⟩ (λv w a hR o=>?_)
 obtain ⟨H41,cs42,rfl,k9,I0,S7,hk⟩:=hR
 obtain ⟨u,I0⟩:=And.intro (St.passH u hk I0 S7) (St.extc u I0)
 obtain ⟨T7,D4,U7,E4,V7,F4,W7,G4,X7,I4,Y7,J4,rfl,k7,n7,u7,v7,z7,A8,B8,C8,D8,E8,F8,G8⟩:=Ar k9
 refine ls<|cr o call16 (Iy (Ai _) (Tab.mono (Tab.mono hT (cp I0.sub Y1.sub)) (St.up u)) (Enc.mono (St.up u) (show Enc.rep (α:=api_Prog) H41 [SL T7 I2.Lines D4,SL U7 I2.Vols E4,SL V7 I2.Locks F4,SL W7 I2.Threads G4,SL X7 I2.Recover I4,SL Y7 I2.Claims J4] I2 from ⟨_,_,rfl,⟨_,_,rfl,k7,n7⟩,⟨_,_,rfl,⟨_,_,rfl,u7,v7⟩,⟨_,_,rfl,⟨_,_,rfl,z7,A8⟩,⟨_,_,rfl,⟨_,_,rfl,B8,C8⟩,⟨_,_,rfl,⟨_,_,rfl,D8,E8⟩,⟨_,_,rfl,F8,G8⟩⟩⟩⟩⟩⟩)) e9) u λu o=>qm o rfl λo=>?_
 iterate 2 refine qv o (Cd o rfl rfl) λo=>?_
 iterate 2 refine qa o rfl λo=>?_
 refine re<|tn<|th<|?_
 obtain ⟨J2,l9,hm⟩:=bs hm
 obtain ⟨M0,I8,hm⟩:=bs hm
 refine rg<|ls<|c1 o rfl Tryz.call19 (Pg (St.le u) l9) ⟨rfl,trivial⟩ (λv w a hR o=>?_)
 obtain ⟨H75,cs76,rfl,n9,J0,J8,hk⟩:=hR
 obtain ⟨u,J0⟩:=And.intro (St.passH u hk J0 J8) (St.extc u J0)
 obtain ⟨K8,K4,L8,L4,M8,M4,O8,O4,P8,P4,Q8,Q4,rfl,R8,S8,T8,U8,V8,W8,X8,Y8,d8,e8,R4,S4⟩:=Ar n9
 refine ls<|cr o call16 (Iy (Ai _) (Tab.mono (Tab.mono hT (cp (cp J0.sub I0.sub) Y1.sub)) (St.up u)) (Enc.mono (St.up u) (show Enc.rep (α:=api_Prog) H75 [SL K8 J2.Lines K4,SL L8 J2.Vols L4,SL M8 J2.Locks M4,SL O8 J2.Threads O4,SL P8 J2.Recover P4,SL Q8 J2.Claims Q4] J2 from ⟨_,_,rfl,⟨_,_,rfl,R8,S8⟩,⟨_,_,rfl,⟨_,_,rfl,T8,U8⟩,⟨_,_,rfl,⟨_,_,rfl,V8,W8⟩,⟨_,_,rfl,⟨_,_,rfl,X8,Y8⟩,⟨_,_,rfl,⟨_,_,rfl,d8,e8⟩,⟨_,_,rfl,R4,S4⟩⟩⟩⟩⟩⟩)) I8) u λu o=>qm o rfl λo=>?_
 iterate 2 refine qv o (Cd o rfl rfl) λo=>?_
 iterate 2 refine qa o rfl λo=>?_
 refine re<|tn<|th<|?_
 obtain ⟨C2,k8,hm⟩:=bs hm
 obtain ⟨O0,l8,hm⟩:=bs hm
 refine rg<|ls<|c1 o rfl Tryz.call19 (Pg (St.le u) k8) ⟨rfl,trivial⟩ (λv w a hR o=>?_)
 obtain ⟨H109,cs110,rfl,n8,C0,T4,hk⟩:=hR
 obtain ⟨u,C0⟩:=And.intro (St.passH u hk C0 T4) (St.extc u C0)
 obtain ⟨U4,E3,V4,F3,W4,G3,X4,I3,Y4,J3,d4,K3,rfl,k4,l4,u4,A5,B5,C5,D5,E5,F5,G5,I5,J5⟩:=Ar n8
 refine ls<|cr o call16 (Iy (Ai _) (Tab.mono (Tab.mono hT (cp (cp (cp C0.sub J0.sub) I0.sub) Y1.sub)) (St.up u)) (Enc.mono (St.up u) (show Enc.rep (α:=api_Prog) H109 [SL U4 C2.Lines E3,SL V4 C2.Vols F3,SL W4 C2.Locks G3,SL X4 C2.Threads I3,SL Y4 C2.Recover J3,SL d4 C2.Claims K3] C2 from ⟨_,_,rfl,⟨_,_,rfl,k4,l4⟩,⟨_,_,rfl,⟨_,_,rfl,u4,A5⟩,⟨_,_,rfl,⟨_,_,rfl,B5,C5⟩,⟨_,_,rfl,⟨_,_,rfl,D5,E5⟩,⟨_,_,rfl,⟨_,_,rfl,F5,G5⟩,⟨_,_,rfl,I5,J5⟩⟩⟩⟩⟩⟩)) l8) u λu o=>qm o rfl λo=>?_
 iterate 2 refine qv o (Cd o rfl rfl) λo=>?_
 iterate 2 refine qa o rfl λo=>?_
 refine re<|tn<|th<|?_
 obtain ⟨E2,v8,hm⟩:=bs hm
 obtain ⟨Y0,y8,hm⟩:=bs hm
 refine rg<|ls<|c1 o rfl Tryz.call19 (Pg (St.le u) v8) ⟨rfl,trivial⟩ (λv w a hR o=>?_)
 obtain ⟨H143,cs144,rfl,z8,D0,K5,hk⟩:=hR
 obtain ⟨u,D0⟩:=And.intro (St.passH u hk D0 K5) (St.extc u D0)
 obtain ⟨L5,L3,M5,M3,O5,O3,P5,P3,Q5,Q3,R5,R3,rfl,S5,T5,U5,V5,W5,X5,Y5,k5,n5,u5,A6,B6⟩:=Ar z8
 refine ls<|cr o call16 (Iy (Ai _) (Tab.mono (Tab.mono hT (cp (cp (cp (cp D0.sub C0.sub) J0.sub) I0.sub) Y1.sub)) (St.up u)) (Enc.mono (St.up u) (show Enc.rep (α:=api_Prog) H143 [SL L5 E2.Lines L3,SL M5 E2.Vols M3,SL O5 E2.Locks O3,SL P5 E2.Threads P3,SL Q5 E2.Recover Q3,SL R5 E2.Claims R3] E2 from ⟨_,_,rfl,⟨_,_,rfl,S5,T5⟩,⟨_,_,rfl,⟨_,_,rfl,U5,V5⟩,⟨_,_,rfl,⟨_,_,rfl,W5,X5⟩,⟨_,_,rfl,⟨_,_,rfl,Y5,k5⟩,⟨_,_,rfl,⟨_,_,rfl,n5,u5⟩,⟨_,_,rfl,A6,B6⟩⟩⟩⟩⟩⟩)) y8) u λu o=>qm o rfl λo=>?_
 iterate 2 refine qv o (Cd o rfl rfl) λo=>?_
 iterate 2 refine qa o rfl λo=>?_
 refine re<|tn<|th<|?_
 obtain ⟨F2,A9,hm⟩:=bs hm
 obtain ⟨P0,B9,hm⟩:=bs hm
 refine rg<|ls<|c1 o rfl Tryz.call19 (Pg (St.le u) A9) ⟨rfl,trivial⟩ (λv w a hR o=>?_)
 obtain ⟨H177,cs178,rfl,C9,E0,C6,hk⟩:=hR
 obtain ⟨u,E0⟩:=And.intro (St.passH u hk E0 C6) (St.extc u E0)
 obtain ⟨D6,S3,E6,T3,F6,U3,G6,V3,I6,W3,J6,X3,rfl,K6,L6,M6,O6,P6,Q6,R6,S6,T6,U6,V6,W6⟩:=Ar C9
 refine ls<|cr o call16 (Iy (Ai _) (Tab.mono (Tab.mono hT (cp (cp (cp (cp (cp E0.sub D0.sub) C0.sub) J0.sub) I0.sub) Y1.sub)) (St.up u)) (Enc.mono (St.up u) (show Enc.rep (α:=api_Prog) H177 [SL D6 F2.Lines S3,SL E6 F2.Vols T3,SL F6 F2.Locks U3,SL G6 F2.Threads V3,SL I6 F2.Recover W3,SL J6 F2.Claims X3] F2 from ⟨_,_,rfl,⟨_,_,rfl,K6,L6⟩,⟨_,_,rfl,⟨_,_,rfl,M6,O6⟩,⟨_,_,rfl,⟨_,_,rfl,P6,Q6⟩,⟨_,_,rfl,⟨_,_,rfl,R6,S6⟩,⟨_,_,rfl,⟨_,_,rfl,T6,U6⟩,⟨_,_,rfl,V6,W6⟩⟩⟩⟩⟩⟩)) B9) u λu o=>qm o rfl λo=>?_
 iterate 2 refine qv o (Cd o rfl rfl) λo=>?_
 iterate 2 refine qa o rfl λo=>?_
 refine re<|tn<|th<|?_
 obtain ⟨G2,D9,hm⟩:=bs hm
 obtain ⟨Q0,E9,hm⟩:=bs hm
 refine rg<|ls<|c1 o rfl Tryz.call19 (Pg (St.le u) D9) ⟨rfl,trivial⟩ (λv w a hR o=>?_)
 obtain ⟨H211,cs212,rfl,F9,F0,X6,hk⟩:=hR
 obtain ⟨u,F0⟩:=And.intro (St.passH u hk F0 X6) (St.extc u F0)
 obtain ⟨Y6,Y3,d6,l3,k6,u3,n6,A4,u6,B4,v6,C4,rfl,y6,z6,A7,B7,C7,D7,E7,F7,G7,I7,J7,K7⟩:=Ar F9
 refine ls<|cr o call16 (Iy (Ai _) (Tab.mono (Tab.mono hT (cp (cp (cp (cp (cp (cp F0.sub E0.sub) D0.sub) C0.sub) J0.sub) I0.sub) Y1.sub)) (St.up u)) (Enc.mono (St.up u) (show Enc.rep (α:=api_Prog) H211 [SL Y6 G2.Lines Y3,SL d6 G2.Vols l3,SL k6 G2.Locks u3,SL n6 G2.Threads A4,SL u6 G2.Recover B4,SL v6 G2.Claims C4] G2 from ⟨_,_,rfl,⟨_,_,rfl,y6,z6⟩,⟨_,_,rfl,⟨_,_,rfl,A7,B7⟩,⟨_,_,rfl,⟨_,_,rfl,C7,D7⟩,⟨_,_,rfl,⟨_,_,rfl,E7,F7⟩,⟨_,_,rfl,⟨_,_,rfl,G7,I7⟩,⟨_,_,rfl,J7,K7⟩⟩⟩⟩⟩⟩)) E9) u λu o=>qm o rfl λo=>?_
 iterate 2 refine qv o (Cd o rfl rfl) λo=>?_
 iterate 2 refine qa o rfl λo=>?_
 refine re<|tn<|th<|?_
 obtain ⟨j0,G9,hm⟩:=bs hm
 refine rg<|qv o (Bu [] [Ac [],i6 0,i6 0] o trivial (λw=>by kernel_rfl)) λo=>ls<|Bl (e:=53) (sz:=3) [Ac [],i6 0,i6 0] o rfl u rfl rfl rfl (λw=>by kernel_rfl) λD3 w a u o=>?_
 have L7:Rows (α:=api_Cell) H211 [Ac [],i6 0,i6 0] ([(api_Cell.mk [] 0 0)]:List api_Cell):=(.cons (c:=[Ac [],i6 0,i6 0]) ⟨_,_,rfl,rfl,⟨_,_,rfl,rfl,rfl⟩⟩ .nil)
 refine qv o (Bu [.slice (some ⟨D3,0,none⟩) ([(api_Cell.mk [] 0 0)]:List api_Cell).length 1] [.slice none 0 0,.slice none 0 0,.slice (some ⟨D3,0,none⟩) ([(api_Cell.mk [] 0 0)]:List api_Cell).length 1,.slice none 0 0,.slice none 0 0,.slice none 0 0] o ⟨rfl,trivial⟩ (λw=>by kernel_rfl)) λo=>?_
 obtain ⟨H246,G0,M7,O7,u⟩:=St.frzS u .head L7
 refine ls<|cr o call16 (Iy (Ai _) (Tab.mono (Tab.mono hT (cp (cp (cp (cp (cp (cp (cp G0.sub F0.sub) E0.sub) D0.sub) C0.sub) J0.sub) I0.sub) Y1.sub)) (St.up u)) (Enc.mono (St.up u) (show Enc.rep (α:=api_Prog) H246 [.slice none 0 0,.slice none 0 0,.slice (some ⟨D3,0,none⟩) ([(api_Cell.mk [] 0 0)]:List api_Cell).length 1,.slice none 0 0,.slice none 0 0,.slice none 0 0] (api_Prog.mk [] [] ([(api_Cell.mk [] 0 0)]:List api_Cell) [] [] []) from ⟨_,_,rfl,⟨none,0,rfl,Nat.le_refl _,SR.nil _ _⟩,⟨_,_,rfl,⟨none,0,rfl,Nat.le_refl _,SR.nil _ _⟩,⟨_,_,rfl,⟨_,_,rfl,O7,M7⟩,⟨_,_,rfl,⟨none,0,rfl,Nat.le_refl _,SR.nil _ _⟩,⟨_,_,rfl,⟨none,0,rfl,Nat.le_refl _,SR.nil _ _⟩,⟨none,0,rfl,Nat.le_refl _,SR.nil _ _⟩⟩⟩⟩⟩⟩)) G9) u λu o=>qm o rfl λo=>?_
 iterate 2 refine qv o (Cd o rfl rfl) λo=>?_
 iterate 2 refine qa o rfl λo=>?_
 refine re<|tn<|th<|?_
 obtain ⟨_,K2,hm⟩:=bs hm
 replace K2:=Ct K2
 obtain ⟨r250,I9,hm⟩:=bs hm
 obtain ⟨r260,J9,hm⟩:=bs hm
 obtain ⟨_,M2,hm⟩:=bs hm
 replace M2:=Ct M2
 obtain ⟨r263,K9,hm⟩:=bs hm
 obtain ⟨_,O2,hm⟩:=bs hm
 replace O2:=Ct O2
 obtain ⟨r266,L9,hm⟩:=bs hm
 obtain ⟨_,P2,hm⟩:=bs hm
 replace P2:=Ct P2
 obtain ⟨r269,M9,hm⟩:=bs hm
 obtain ⟨_,Q2,hm⟩:=bs hm
 replace Q2:=Ct Q2
 obtain ⟨r272,O9,hm⟩:=bs hm
 obtain ⟨_,R2,hm⟩:=bs hm
 replace R2:=Ct R2
 obtain ⟨r275,P9,hm⟩:=bs hm
 obtain ⟨_,U2,hm⟩:=bs hm
 replace U2:=Ct U2
 obtain ⟨r278,Q9,hm⟩:=bs hm
 obtain ⟨r288,R9,hm⟩:=bs hm
 obtain ⟨_,V2,hm⟩:=bs hm
 replace V2:=Ct V2
 obtain ⟨r291,S9,hm⟩:=bs hm
 obtain ⟨r301,T9,hm⟩:=bs hm
 obtain ⟨_,W2,hm⟩:=bs hm
 replace W2:=Ct W2
 obtain ⟨r304,U9,hm⟩:=bs hm
 obtain ⟨r311,V9,hm⟩:=bs hm
 obtain ⟨_,X2,hm⟩:=bs hm
 replace X2:=Ct X2
 obtain ⟨r314,W9,hm⟩:=bs hm
 refine rg<|qm o rfl λo=>qv o (Al o rfl rfl) λo=>qm o rfl λo=>gr (Fk:=[(1,PT V1),(5,i6 R0.2),(6,i6 M0.1),(7,i6 M0.2),(8,i6 O0.1),(9,i6 O0.2),(10,i6 Y0.1),(12,i6 P0.1),(13,i6 P0.2),(14,i6 Q0.1),(15,i6 Q0.2),(16,i6 j0.1),(66,.bool ((decide (X1.1=0)) && (decide (R0.1=9))))]) 63 3 o u ?_ ?_ ?_
 intro hb o key
 exact qg o (Ab o rfl) λo=>qg o (Al o rfl rfl) λo=>qk o (Ad o rfl rfl) key u hb
 intro hb o key
 iterate 2 refine qn o λo=>?_
 exact qk o (Ae o rfl rfl) key u hb
 intro a w o u
 refine qm o rfl λo=>gr (Fk:=[(1,PT V1),(6,i6 M0.1),(7,i6 M0.2),(8,i6 O0.1),(9,i6 O0.2),(10,i6 Y0.1),(12,i6 P0.1),(13,i6 P0.2),(14,i6 Q0.1),(15,i6 Q0.2),(16,i6 j0.1),(70,.bool (((decide (X1.1=0)) && (decide (R0.1=9))) && (decide (R0.2=28))))]) 67 3 o u ?_ ?_ ?_
 intro hb o key
 exact qg o (Ab o rfl) λo=>qg o (Al o rfl rfl) λo=>qk o (Ad o rfl rfl) key u hb
 intro hb o key
 iterate 2 refine qn o λo=>?_
 exact qk o (Ae o rfl rfl) key u hb
 intro a w o u
 refine qm o rfl λo=>gr (Fk:=[(1,PT V1),(7,i6 M0.2),(8,i6 O0.1),(9,i6 O0.2),(10,i6 Y0.1),(12,i6 P0.1),(13,i6 P0.2),(14,i6 Q0.1),(15,i6 Q0.2),(16,i6 j0.1),(74,.bool ((((decide (X1.1=0)) && (decide (R0.1=9))) && (decide (R0.2=28))) && (decide (M0.1=10))))]) 71 3 o u ?_ ?_ ?_
 intro hb o key
 exact qg o (Ab o rfl) λo=>qg o (Al o rfl rfl) λo=>qk o (Ad o rfl rfl) key u hb
 intro hb o key
 iterate 2 refine qn o λo=>?_
 exact qk o (Ae o rfl rfl) key u hb
 intro a w o u
 refine qm o rfl λo=>gr (Fk:=[(1,PT V1),(8,i6 O0.1),(9,i6 O0.2),(10,i6 Y0.1),(12,i6 P0.1),(13,i6 P0.2),(14,i6 Q0.1),(15,i6 Q0.2),(16,i6 j0.1),(78,.bool (((((decide (X1.1=0)) && (decide (R0.1=9))) && (decide (R0.2=28))) && (decide (M0.1=10))) && (decide (M0.2=12))))]) 75 3 o u ?_ ?_ ?_
 intro hb o key
 exact qg o (Ab o rfl) λo=>qg o (Al o rfl rfl) λo=>qk o (Ad o rfl rfl) key u hb
 intro hb o key
 iterate 2 refine qn o λo=>?_
 exact qk o (Ae o rfl rfl) key u hb
 intro a w o u
 refine qm o rfl λo=>gr (Fk:=[(1,PT V1),(9,i6 O0.2),(10,i6 Y0.1),(12,i6 P0.1),(13,i6 P0.2),(14,i6 Q0.1),(15,i6 Q0.2),(16,i6 j0.1),(82,.bool ((((((decide (X1.1=0)) && (decide (R0.1=9))) && (decide (R0.2=28))) && (decide (M0.1=10))) && (decide (M0.2=12))) && (decide (O0.1=10))))]) 79 3 o u ?_ ?_ ?_
 intro hb o key
 exact qg o (Ab o rfl) λo=>qg o (Al o rfl rfl) λo=>qk o (Ad o rfl rfl) key u hb
 intro hb o key
 iterate 2 refine qn o λo=>?_
 exact qk o (Ae o rfl rfl) key u hb
 intro a w o u
 refine qm o rfl λo=>gr (Fk:=[(1,PT V1),(10,i6 Y0.1),(12,i6 P0.1),(13,i6 P0.2),(14,i6 Q0.1),(15,i6 Q0.2),(16,i6 j0.1),(86,.bool (((((((decide (X1.1=0)) && (decide (R0.1=9))) && (decide (R0.2=28))) && (decide (M0.1=10))) && (decide (M0.2=12))) && (decide (O0.1=10))) && (decide (O0.2=15))))]) 83 3 o u ?_ ?_ ?_
 intro hb o key
 exact qg o (Ab o rfl) λo=>qg o (Al o rfl rfl) λo=>qk o (Ad o rfl rfl) key u hb
 intro hb o key
 iterate 2 refine qn o λo=>?_
 exact qk o (Ae o rfl rfl) key u hb
 intro a w o u
 refine qm o rfl λo=>gr (Fk:=[(1,PT V1),(12,i6 P0.1),(13,i6 P0.2),(14,i6 Q0.1),(15,i6 Q0.2),(16,i6 j0.1),(90,.bool ((((((((decide (X1.1=0)) && (decide (R0.1=9))) && (decide (R0.2=28))) && (decide (M0.1=10))) && (decide (M0.2=12))) && (decide (O0.1=10))) && (decide (O0.2=15))) && (decide (Y0.1=2))))]) 87 3 o u ?_ ?_ ?_
 intro hb o key
 exact qg o (Ab o rfl) λo=>qg o (Al o rfl rfl) λo=>qk o (Ad o rfl rfl) key u hb
 intro hb o key
 iterate 2 refine qn o λo=>?_
 exact qk o (Ae o rfl rfl) key u hb
 intro a w o u
 refine qm o rfl λo=>gr (Fk:=[(1,PT V1),(13,i6 P0.2),(14,i6 Q0.1),(15,i6 Q0.2),(16,i6 j0.1),(94,.bool (((((((((decide (X1.1=0)) && (decide (R0.1=9))) && (decide (R0.2=28))) && (decide (M0.1=10))) && (decide (M0.2=12))) && (decide (O0.1=10))) && (decide (O0.2=15))) && (decide (Y0.1=2))) && (decide (P0.1=9))))]) 91 3 o u ?_ ?_ ?_
 intro hb o key
 exact qg o (Ab o rfl) λo=>qg o (Al o rfl rfl) λo=>qk o (Ad o rfl rfl) key u hb
 intro hb o key
 iterate 2 refine qn o λo=>?_
 exact qk o (Ae o rfl rfl) key u hb
 intro a w o u
 refine qm o rfl λo=>gr (Fk:=[(1,PT V1),(14,i6 Q0.1),(15,i6 Q0.2),(16,i6 j0.1),(98,.bool ((((((((((decide (X1.1=0)) && (decide (R0.1=9))) && (decide (R0.2=28))) && (decide (M0.1=10))) && (decide (M0.2=12))) && (decide (O0.1=10))) && (decide (O0.2=15))) && (decide (Y0.1=2))) && (decide (P0.1=9))) && (decide (P0.2=18))))]) 95 3 o u ?_ ?_ ?_
 intro hb o key
 exact qg o (Ab o rfl) λo=>qg o (Al o rfl rfl) λo=>qk o (Ad o rfl rfl) key u hb
 intro hb o key
 iterate 2 refine qn o λo=>?_
 exact qk o (Ae o rfl rfl) key u hb
 intro a w o u
 refine qm o rfl λo=>gr (Fk:=[(1,PT V1),(15,i6 Q0.2),(16,i6 j0.1),(102,.bool (((((((((((decide (X1.1=0)) && (decide (R0.1=9))) && (decide (R0.2=28))) && (decide (M0.1=10))) && (decide (M0.2=12))) && (decide (O0.1=10))) && (decide (O0.2=15))) && (decide (Y0.1=2))) && (decide (P0.1=9))) && (decide (P0.2=18))) && (decide (Q0.1=9))))]) 99 3 o u ?_ ?_ ?_
 intro hb o key
 exact qg o (Ab o rfl) λo=>qg o (Al o rfl rfl) λo=>qk o (Ad o rfl rfl) key u hb
 intro hb o key
 iterate 2 refine qn o λo=>?_
 exact qk o (Ae o rfl rfl) key u hb
 intro a w o u
 refine qm o rfl λo=>gr (Fk:=[(1,PT V1),(16,i6 j0.1),(106,.bool ((((((((((((decide (X1.1=0)) && (decide (R0.1=9))) && (decide (R0.2=28))) && (decide (M0.1=10))) && (decide (M0.2=12))) && (decide (O0.1=10))) && (decide (O0.2=15))) && (decide (Y0.1=2))) && (decide (P0.1=9))) && (decide (P0.2=18))) && (decide (Q0.1=9))) && (decide (Q0.2=27))))]) 103 3 o u ?_ ?_ ?_
 intro hb o key
 exact qg o (Ab o rfl) λo=>qg o (Al o rfl rfl) λo=>qk o (Ad o rfl rfl) key u hb
 intro hb o key
 iterate 2 refine qn o λo=>?_
 exact qk o (Ae o rfl rfl) key u hb
 intro a w o u
 refine qm o rfl λo=>gr (Fk:=[(1,PT V1),(110,.bool (((((((((((((decide (X1.1=0)) && (decide (R0.1=9))) && (decide (R0.2=28))) && (decide (M0.1=10))) && (decide (M0.2=12))) && (decide (O0.1=10))) && (decide (O0.2=15))) && (decide (Y0.1=2))) && (decide (P0.1=9))) && (decide (P0.2=18))) && (decide (Q0.1=9))) && (decide (Q0.2=27))) && (decide (j0.1=8))))]) 107 3 o u ?_ ?_ ?_
 intro hb o key
 exact qg o (Ab o rfl) λo=>qg o (Al o rfl rfl) λo=>qk o (Ad o rfl rfl) key u hb
 intro hb o key
 iterate 2 refine qn o λo=>?_
 exact qk o (Ae o rfl rfl) key u hb
 intro a w o u
 refine qv o (As (Ab o rfl) (congrArg Value.bool K2)) λo=>qg o (Ay o isAgg27 sizeOf27 rfl rfl (u.ld.cellsB t0)) λo=>ls<|gy o rfl rfl<|c1 o rfl call20 (Yf (Ai _) (Enc.mono (St.up u) (show Enc.rep (α:=api_Prog) H246 [SL B2 K0.Lines S0,SL n0 K0.Vols T0,SL u0 K0.Locks U0,SL B1 K0.Threads V0,SL C1 K0.Recover W0,SL E1 K0.Claims X0] K0 from ⟨_,_,rfl,⟨_,_,rfl,F1,(G1.mono (cp (cp (cp (cp (cp (cp G0.sub F0.sub) E0.sub) D0.sub) C0.sub) J0.sub) I0.sub))⟩,⟨_,_,rfl,⟨_,_,rfl,I1,(J1.mono (cp (cp (cp (cp (cp (cp G0.sub F0.sub) E0.sub) D0.sub) C0.sub) J0.sub) I0.sub))⟩,⟨_,_,rfl,⟨_,_,rfl,M1,(O1.mono (cp (cp (cp (cp (cp (cp G0.sub F0.sub) E0.sub) D0.sub) C0.sub) J0.sub) I0.sub))⟩,⟨_,_,rfl,⟨_,_,rfl,P1,(Q1.mono (cp (cp (cp (cp (cp (cp G0.sub F0.sub) E0.sub) D0.sub) C0.sub) J0.sub) I0.sub))⟩,⟨_,_,rfl,⟨_,_,rfl,R1,(S1.mono (cp (cp (cp (cp (cp (cp G0.sub F0.sub) E0.sub) D0.sub) C0.sub) J0.sub) I0.sub))⟩,⟨_,_,rfl,T1,(U1.mono (cp (cp (cp (cp (cp (cp G0.sub F0.sub) E0.sub) D0.sub) C0.sub) J0.sub) I0.sub))⟩⟩⟩⟩⟩⟩)) I9) ⟨rfl,trivial⟩ (λv w a hR o=>?_)
 obtain ⟨oa252,o9,vs254,rfl,Y2,hk⟩:=hR
 replace u:=u.fresh hk
 replace Y2:=Y2 H246
 refine ls<|gy o rfl rfl<|Bl (e:=9) (sz:=1) [Ac [97],Ac [98],Ac [99],Ac [120]] o rfl u rfl rfl rfl (λw=>by kernel_rfl) λb258 w a u o=>?_
 have P7:Rows (α:=Str) H246 [Ac [97],Ac [98],Ac [99],Ac [120]] ([[97],[98],[99],[120]]:List Str):=(.cons (c:=[Ac [97]]) rfl (.cons (c:=[Ac [98]]) rfl (.cons (c:=[Ac [99]]) rfl (.cons (c:=[Ac [120]]) rfl .nil))))
 refine ls<|gy o rfl rfl<|cr o call21 (Yx (Ai _) (St.capO u t1) (St.srO u t1 Y2) (St.capO u t0) (St.srO u t0 P7) J9) u λu o=>qv o (Ad o rfl rfl) λo=>qv o (As (Ab o rfl) (congrArg Value.bool M2)) λo=>qg o (Ay o isAgg27 sizeOf27 rfl rfl (u.ld.cellsB t2)) λo=>ls<|gy o rfl rfl<|cr o call23 (JaU (Ai _) (Enc.mono (St.up u) (show Enc.rep (α:=api_Prog) H246 [SL B2 K0.Lines S0,SL n0 K0.Vols T0,SL u0 K0.Locks U0,SL B1 K0.Threads V0,SL C1 K0.Recover W0,SL E1 K0.Claims X0] K0 from ⟨_,_,rfl,⟨_,_,rfl,F1,(G1.mono (cp (cp (cp (cp (cp (cp G0.sub F0.sub) E0.sub) D0.sub) C0.sub) J0.sub) I0.sub))⟩,⟨_,_,rfl,⟨_,_,rfl,I1,(J1.mono (cp (cp (cp (cp (cp (cp G0.sub F0.sub) E0.sub) D0.sub) C0.sub) J0.sub) I0.sub))⟩,⟨_,_,rfl,⟨_,_,rfl,M1,(O1.mono (cp (cp (cp (cp (cp (cp G0.sub F0.sub) E0.sub) D0.sub) C0.sub) J0.sub) I0.sub))⟩,⟨_,_,rfl,⟨_,_,rfl,P1,(Q1.mono (cp (cp (cp (cp (cp (cp G0.sub F0.sub) E0.sub) D0.sub) C0.sub) J0.sub) I0.sub))⟩,⟨_,_,rfl,⟨_,_,rfl,R1,(S1.mono (cp (cp (cp (cp (cp (cp G0.sub F0.sub) E0.sub) D0.sub) C0.sub) J0.sub) I0.sub))⟩,⟨_,_,rfl,T1,(U1.mono (cp (cp (cp (cp (cp (cp G0.sub F0.sub) E0.sub) D0.sub) C0.sub) J0.sub) I0.sub))⟩⟩⟩⟩⟩⟩)) K9) u λu o=>qg o (Al o rfl rfl) λo=>qv o (Ad o rfl rfl) λo=>qv o (As (Ab o rfl) (congrArg Value.bool O2)) λo=>qg o (Ay o isAgg27 sizeOf27 rfl rfl (u.ld.cellsB t2)) λo=>ls<|gy o rfl rfl<|cr o call25 (Rh (Ai _) (Enc.mono (St.up u) (show Enc.rep (α:=api_Prog) H246 [SL B2 K0.Lines S0,SL n0 K0.Vols T0,SL u0 K0.Locks U0,SL B1 K0.Threads V0,SL C1 K0.Recover W0,SL E1 K0.Claims X0] K0 from ⟨_,_,rfl,⟨_,_,rfl,F1,(G1.mono (cp (cp (cp (cp (cp (cp G0.sub F0.sub) E0.sub) D0.sub) C0.sub) J0.sub) I0.sub))⟩,⟨_,_,rfl,⟨_,_,rfl,I1,(J1.mono (cp (cp (cp (cp (cp (cp G0.sub F0.sub) E0.sub) D0.sub) C0.sub) J0.sub) I0.sub))⟩,⟨_,_,rfl,⟨_,_,rfl,M1,(O1.mono (cp (cp (cp (cp (cp (cp G0.sub F0.sub) E0.sub) D0.sub) C0.sub) J0.sub) I0.sub))⟩,⟨_,_,rfl,⟨_,_,rfl,P1,(Q1.mono (cp (cp (cp (cp (cp (cp G0.sub F0.sub) E0.sub) D0.sub) C0.sub) J0.sub) I0.sub))⟩,⟨_,_,rfl,⟨_,_,rfl,R1,(S1.mono (cp (cp (cp (cp (cp (cp G0.sub F0.sub) E0.sub) D0.sub) C0.sub) J0.sub) I0.sub))⟩,⟨_,_,rfl,T1,(U1.mono (cp (cp (cp (cp (cp (cp G0.sub F0.sub) E0.sub) D0.sub) C0.sub) J0.sub) I0.sub))⟩⟩⟩⟩⟩⟩)) L9) u λu o=>qg o (Al o rfl rfl) λo=>qv o (Ad o rfl rfl) λo=>qv o (As (Ab o rfl) (congrArg Value.bool P2)) λo=>qg o (Ay o isAgg27 sizeOf27 rfl rfl (u.ld.cellsB t2)) λo=>ls<|gy o rfl rfl<|cr o call25 (Rh (Ai _) (Enc.mono (St.up u) (show Enc.rep (α:=api_Prog) H246 [SL B2 K0.Lines S0,SL n0 K0.Vols T0,SL u0 K0.Locks U0,SL B1 K0.Threads V0,SL C1 K0.Recover W0,SL E1 K0.Claims X0] K0 from ⟨_,_,rfl,⟨_,_,rfl,F1,(G1.mono (cp (cp (cp (cp (cp (cp G0.sub F0.sub) E0.sub) D0.sub) C0.sub) J0.sub) I0.sub))⟩,⟨_,_,rfl,⟨_,_,rfl,I1,(J1.mono (cp (cp (cp (cp (cp (cp G0.sub F0.sub) E0.sub) D0.sub) C0.sub) J0.sub) I0.sub))⟩,⟨_,_,rfl,⟨_,_,rfl,M1,(O1.mono (cp (cp (cp (cp (cp (cp G0.sub F0.sub) E0.sub) D0.sub) C0.sub) J0.sub) I0.sub))⟩,⟨_,_,rfl,⟨_,_,rfl,P1,(Q1.mono (cp (cp (cp (cp (cp (cp G0.sub F0.sub) E0.sub) D0.sub) C0.sub) J0.sub) I0.sub))⟩,⟨_,_,rfl,⟨_,_,rfl,R1,(S1.mono (cp (cp (cp (cp (cp (cp G0.sub F0.sub) E0.sub) D0.sub) C0.sub) J0.sub) I0.sub))⟩,⟨_,_,rfl,T1,(U1.mono (cp (cp (cp (cp (cp (cp G0.sub F0.sub) E0.sub) D0.sub) C0.sub) J0.sub) I0.sub))⟩⟩⟩⟩⟩⟩)) M9) u λu o=>qg o (Al o rfl rfl) λo=>qv o (Ad o rfl rfl) λo=>qv o (As (Ab o rfl) (congrArg Value.bool Q2)) λo=>qg o (Ay o isAgg27 sizeOf27 rfl rfl (u.ld.cellsB t2)) λo=>ls<|gy o rfl rfl<|cr o call25 (Rh (Ai _) (Enc.mono (St.up u) (show Enc.rep (α:=api_Prog) H246 [SL B2 K0.Lines S0,SL n0 K0.Vols T0,SL u0 K0.Locks U0,SL B1 K0.Threads V0,SL C1 K0.Recover W0,SL E1 K0.Claims X0] K0 from ⟨_,_,rfl,⟨_,_,rfl,F1,(G1.mono (cp (cp (cp (cp (cp (cp G0.sub F0.sub) E0.sub) D0.sub) C0.sub) J0.sub) I0.sub))⟩,⟨_,_,rfl,⟨_,_,rfl,I1,(J1.mono (cp (cp (cp (cp (cp (cp G0.sub F0.sub) E0.sub) D0.sub) C0.sub) J0.sub) I0.sub))⟩,⟨_,_,rfl,⟨_,_,rfl,M1,(O1.mono (cp (cp (cp (cp (cp (cp G0.sub F0.sub) E0.sub) D0.sub) C0.sub) J0.sub) I0.sub))⟩,⟨_,_,rfl,⟨_,_,rfl,P1,(Q1.mono (cp (cp (cp (cp (cp (cp G0.sub F0.sub) E0.sub) D0.sub) C0.sub) J0.sub) I0.sub))⟩,⟨_,_,rfl,⟨_,_,rfl,R1,(S1.mono (cp (cp (cp (cp (cp (cp G0.sub F0.sub) E0.sub) D0.sub) C0.sub) J0.sub) I0.sub))⟩,⟨_,_,rfl,T1,(U1.mono (cp (cp (cp (cp (cp (cp G0.sub F0.sub) E0.sub) D0.sub) C0.sub) J0.sub) I0.sub))⟩⟩⟩⟩⟩⟩)) O9) u λu o=>qg o (Al o rfl rfl) λo=>qv o (Ad o rfl rfl) λo=>qv o (As (Ab o rfl) (congrArg Value.bool R2)) λo=>qg o (Ay o isAgg27 sizeOf27 rfl rfl (u.ld.cellsB t2)) λo=>ls<|gy o rfl rfl<|cr o call25 (Rh (Ai _) (Enc.mono (St.up u) (show Enc.rep (α:=api_Prog) H246 [SL B2 K0.Lines S0,SL n0 K0.Vols T0,SL u0 K0.Locks U0,SL B1 K0.Threads V0,SL C1 K0.Recover W0,SL E1 K0.Claims X0] K0 from ⟨_,_,rfl,⟨_,_,rfl,F1,(G1.mono (cp (cp (cp (cp (cp (cp G0.sub F0.sub) E0.sub) D0.sub) C0.sub) J0.sub) I0.sub))⟩,⟨_,_,rfl,⟨_,_,rfl,I1,(J1.mono (cp (cp (cp (cp (cp (cp G0.sub F0.sub) E0.sub) D0.sub) C0.sub) J0.sub) I0.sub))⟩,⟨_,_,rfl,⟨_,_,rfl,M1,(O1.mono (cp (cp (cp (cp (cp (cp G0.sub F0.sub) E0.sub) D0.sub) C0.sub) J0.sub) I0.sub))⟩,⟨_,_,rfl,⟨_,_,rfl,P1,(Q1.mono (cp (cp (cp (cp (cp (cp G0.sub F0.sub) E0.sub) D0.sub) C0.sub) J0.sub) I0.sub))⟩,⟨_,_,rfl,⟨_,_,rfl,R1,(S1.mono (cp (cp (cp (cp (cp (cp G0.sub F0.sub) E0.sub) D0.sub) C0.sub) J0.sub) I0.sub))⟩,⟨_,_,rfl,T1,(U1.mono (cp (cp (cp (cp (cp (cp G0.sub F0.sub) E0.sub) D0.sub) C0.sub) J0.sub) I0.sub))⟩⟩⟩⟩⟩⟩)) P9) u λu o=>qg o (Al o rfl rfl) λo=>qv o (Ad o rfl rfl) λo=>qv o (As (Ab o rfl) (congrArg Value.bool U2)) λo=>qg o (Ay o isAgg27 sizeOf27 rfl rfl (u.ld.cellsB t2)) λo=>ls<|gy o rfl rfl<|c1 o rfl call27 (Jcv (Ai _) (Enc.mono (St.up u) (show Enc.rep (α:=api_Prog) H246 [SL B2 K0.Lines S0,SL n0 K0.Vols T0,SL u0 K0.Locks U0,SL B1 K0.Threads V0,SL C1 K0.Recover W0,SL E1 K0.Claims X0] K0 from ⟨_,_,rfl,⟨_,_,rfl,F1,(G1.mono (cp (cp (cp (cp (cp (cp G0.sub F0.sub) E0.sub) D0.sub) C0.sub) J0.sub) I0.sub))⟩,⟨_,_,rfl,⟨_,_,rfl,I1,(J1.mono (cp (cp (cp (cp (cp (cp G0.sub F0.sub) E0.sub) D0.sub) C0.sub) J0.sub) I0.sub))⟩,⟨_,_,rfl,⟨_,_,rfl,M1,(O1.mono (cp (cp (cp (cp (cp (cp G0.sub F0.sub) E0.sub) D0.sub) C0.sub) J0.sub) I0.sub))⟩,⟨_,_,rfl,⟨_,_,rfl,P1,(Q1.mono (cp (cp (cp (cp (cp (cp G0.sub F0.sub) E0.sub) D0.sub) C0.sub) J0.sub) I0.sub))⟩,⟨_,_,rfl,⟨_,_,rfl,R1,(S1.mono (cp (cp (cp (cp (cp (cp G0.sub F0.sub) E0.sub) D0.sub) C0.sub) J0.sub) I0.sub))⟩,⟨_,_,rfl,T1,(U1.mono (cp (cp (cp (cp (cp (cp G0.sub F0.sub) E0.sub) D0.sub) C0.sub) J0.sub) I0.sub))⟩⟩⟩⟩⟩⟩)) Q9) ⟨rfl,trivial⟩ (λv w a hR o=>?_)
 obtain ⟨oa280,p9,vs282,rfl,A3,hk⟩:=hR
 replace u:=u.fresh hk
 replace A3:=A3 H246
 refine ls<|gy o rfl rfl<|Bl (e:=9) (sz:=1) [Ac [109]] o rfl u rfl rfl rfl (λw=>by kernel_rfl) λb286 w a u o=>?_
 have Q7:Rows (α:=Str) H246 [Ac [109]] ([[109]]:List Str):=(.cons (c:=[Ac [109]]) rfl .nil)
 refine ls<|gy o rfl rfl<|cr o call21 (Yx (Ai _) (St.capO u t1) (St.srO u t1 A3) (St.capO u t0) (St.srO u t0 Q7) R9) u λu o=>qv o (Ad o rfl rfl) λo=>qv o (As (Ab o rfl) (congrArg Value.bool V2)) λo=>qg o (Ay o isAgg27 sizeOf27 rfl rfl (u.ld.cellsB t4)) λo=>ls<|gy o rfl rfl<|c1 o rfl call30 (Jbp (Ai _) (Enc.mono (St.up u) (show Enc.rep (α:=api_Prog) H246 [SL B2 K0.Lines S0,SL n0 K0.Vols T0,SL u0 K0.Locks U0,SL B1 K0.Threads V0,SL C1 K0.Recover W0,SL E1 K0.Claims X0] K0 from ⟨_,_,rfl,⟨_,_,rfl,F1,(G1.mono (cp (cp (cp (cp (cp (cp G0.sub F0.sub) E0.sub) D0.sub) C0.sub) J0.sub) I0.sub))⟩,⟨_,_,rfl,⟨_,_,rfl,I1,(J1.mono (cp (cp (cp (cp (cp (cp G0.sub F0.sub) E0.sub) D0.sub) C0.sub) J0.sub) I0.sub))⟩,⟨_,_,rfl,⟨_,_,rfl,M1,(O1.mono (cp (cp (cp (cp (cp (cp G0.sub F0.sub) E0.sub) D0.sub) C0.sub) J0.sub) I0.sub))⟩,⟨_,_,rfl,⟨_,_,rfl,P1,(Q1.mono (cp (cp (cp (cp (cp (cp G0.sub F0.sub) E0.sub) D0.sub) C0.sub) J0.sub) I0.sub))⟩,⟨_,_,rfl,⟨_,_,rfl,R1,(S1.mono (cp (cp (cp (cp (cp (cp G0.sub F0.sub) E0.sub) D0.sub) C0.sub) J0.sub) I0.sub))⟩,⟨_,_,rfl,T1,(U1.mono (cp (cp (cp (cp (cp (cp G0.sub F0.sub) E0.sub) D0.sub) C0.sub) J0.sub) I0.sub))⟩⟩⟩⟩⟩⟩)) S9) ⟨rfl,trivial⟩ (λv w a hR o=>?_)
 obtain ⟨oa293,u9,vs295,rfl,B3,hk⟩:=hR
 replace u:=u.fresh hk
 replace B3:=B3 H246
 refine ls<|gy o rfl rfl<|Bl (e:=3) (sz:=1) [i6 1,i6 0,i6 0,i6 7] o rfl u rfl rfl rfl (λw=>by kernel_rfl) λb299 w a u o=>?_
 have R7:Rows (α:=Int) H246 [i6 1,i6 0,i6 0,i6 7] ([1,0,0,7]:List Int):=(.cons (c:=[i6 1]) rfl (.cons (c:=[i6 0]) rfl (.cons (c:=[i6 0]) rfl (.cons (c:=[i6 7]) rfl .nil))))
 refine ls<|gy o rfl rfl<|cr o call29 (Jb3 (Ai _) (St.capO u t1) (St.srO u t1 B3) (St.capO u t0) (St.srO u t0 R7) T9) u λu o=>qv o (Ad o rfl rfl) λo=>qv o (As (Ab o rfl) (congrArg Value.bool W2)) λo=>qg o (Ay o isAgg27 sizeOf27 rfl rfl (u.ld.cellsB t6)) λo=>ls<|gy o rfl rfl<|c1 o rfl call20 (Yf (Ai _) (Enc.mono (St.up u) (show Enc.rep (α:=api_Prog) H246 [SL B2 K0.Lines S0,SL n0 K0.Vols T0,SL u0 K0.Locks U0,SL B1 K0.Threads V0,SL C1 K0.Recover W0,SL E1 K0.Claims X0] K0 from ⟨_,_,rfl,⟨_,_,rfl,F1,(G1.mono (cp (cp (cp (cp (cp (cp G0.sub F0.sub) E0.sub) D0.sub) C0.sub) J0.sub) I0.sub))⟩,⟨_,_,rfl,⟨_,_,rfl,I1,(J1.mono (cp (cp (cp (cp (cp (cp G0.sub F0.sub) E0.sub) D0.sub) C0.sub) J0.sub) I0.sub))⟩,⟨_,_,rfl,⟨_,_,rfl,M1,(O1.mono (cp (cp (cp (cp (cp (cp G0.sub F0.sub) E0.sub) D0.sub) C0.sub) J0.sub) I0.sub))⟩,⟨_,_,rfl,⟨_,_,rfl,P1,(Q1.mono (cp (cp (cp (cp (cp (cp G0.sub F0.sub) E0.sub) D0.sub) C0.sub) J0.sub) I0.sub))⟩,⟨_,_,rfl,⟨_,_,rfl,R1,(S1.mono (cp (cp (cp (cp (cp (cp G0.sub F0.sub) E0.sub) D0.sub) C0.sub) J0.sub) I0.sub))⟩,⟨_,_,rfl,T1,(U1.mono (cp (cp (cp (cp (cp (cp G0.sub F0.sub) E0.sub) D0.sub) C0.sub) J0.sub) I0.sub))⟩⟩⟩⟩⟩⟩)) U9) ⟨rfl,trivial⟩ (λv w a hR o=>?_)
 obtain ⟨oa306,y9,vs308,rfl,C3,hk⟩:=hR
 replace u:=u.fresh hk
 replace C3:=C3 H246
 refine ls<|gy o rfl rfl<|cr o call32 (Yq (Ai _) (St.capO u t0) (St.srO u t0 C3) V9) u λu o=>qg o (Al o rfl rfl) λo=>qv o (Ad o rfl rfl) λo=>qv o (As (Ab o rfl) (congrArg Value.bool X2)) λo=>ls<|gy o rfl rfl<|cr o call32 (Yq (Ai _) (Nat.le_refl _) (SR.nil _ none) W9) u λu o=>qg o (Al o rfl rfl) λo=>qv o (Ad o rfl rfl) λo=>qa o rfl λo=>re<|tn<|wr<|?_
 obtain rfl:=si hm
 exact r1 o results18 rfl ⟨rfl,u.keep⟩
theorem Jc6 (hH:H.le w0) (hT:Tab H) {p1:Str} {r:Bool} (hm:Zg N p1=some r):Tot Tryz.prog 4 #[Ac p1] w0 (λv w'=>v=.bool r∧Keep Nil w0 w'):=by
 unfold Zg at hm
 refine fn0 func4 rfl ntmps4 rfl rfl λa o=>?_
 have u:St w0 Nil [H] [] w0:=start1 hH
 refine th<|rg<|qa o rfl λo=>re<|tn<|th<|?_
 obtain ⟨s2,h3,hm⟩:=bs hm
 obtain ⟨D0,h5,hm⟩:=bs hm
 refine rg<|qm o rfl λo=>qm o rfl λo=>qv o (Bp (s:=p1) o runUnderlying9 rfl) λo=>qv o (JbR o rfl rfl) λo=>qv o (Qf (s:=p1) (vl:=0) (vh:=(min (p1.length:Int) 2000)) o runUnderlying9 rfl rfl rfl h3) λo=>ls<|c1 o rfl call19 (Pg (St.le u) h5) ⟨rfl,trivial⟩ (λv w a hR o=>?_)
 obtain ⟨H9,cs10,rfl,J1,F0,M1,hk⟩:=hR
 obtain ⟨u,F0⟩:=And.intro (St.passH u hk F0 M1) (St.extc u F0)
 obtain ⟨Q0,I0,R0,J0,S0,K0,T0,M0,U0,O0,V0,P0,rfl,W0,X0,Y0,j0,n0,u0,B1,C1,E1,F1,G1,I1⟩:=Ar J1
 refine ls<|Aw (cs:=[.slice none 0 0,.slice none 0 0,.slice none 0 0,.slice none 0 0,.slice none 0 0,.slice none 0 0].toArray) o rfl u zeroValue27 rfl λR1 w a u o=>ls<|Ba o u sizeOf27 rfl rfl rfl rfl (Am rfl) .head λw u=>re<|tn<|th<|?_
 obtain ⟨C0,O1,hm⟩:=bs hm
 refine rg<|qv o (Ay o Tryz.isAgg27 Tryz.sizeOf27 rfl rfl (u.ld.cellsB t0)) λo=>ls<|cr o call16 (Iy (Ai _) (Tab.mono (Tab.mono hT F0.sub) (St.up u)) (Enc.mono (St.up u) (show Enc.rep (α:=api_Prog) H9 [SL Q0 D0.Lines I0,SL R0 D0.Vols J0,SL S0 D0.Locks K0,SL T0 D0.Threads M0,SL U0 D0.Recover O0,SL V0 D0.Claims P0] D0 from ⟨_,_,rfl,⟨_,_,rfl,W0,X0⟩,⟨_,_,rfl,⟨_,_,rfl,Y0,j0⟩,⟨_,_,rfl,⟨_,_,rfl,n0,u0⟩,⟨_,_,rfl,⟨_,_,rfl,B1,C1⟩,⟨_,_,rfl,⟨_,_,rfl,E1,F1⟩,⟨_,_,rfl,G1,I1⟩⟩⟩⟩⟩⟩)) O1) u λu o=>qm o rfl λo=>?_
 iterate 2 refine qv o (Cd o rfl rfl) λo=>?_
 iterate 2 refine qa o rfl λo=>?_
 refine re<|tn<|th<|?_
 obtain ⟨E0,P1,hm⟩:=bs hm
 refine rg<|qv o (Ay o Tryz.isAgg27 Tryz.sizeOf27 rfl rfl (u.ld.cellsB t0)) λo=>ls<|cr o call17 (Jbc (Ai _) (Enc.mono (St.up u) (show Enc.rep (α:=api_Prog) H9 [SL Q0 D0.Lines I0,SL R0 D0.Vols J0,SL S0 D0.Locks K0,SL T0 D0.Threads M0,SL U0 D0.Recover O0,SL V0 D0.Claims P0] D0 from ⟨_,_,rfl,⟨_,_,rfl,W0,X0⟩,⟨_,_,rfl,⟨_,_,rfl,Y0,j0⟩,⟨_,_,rfl,⟨_,_,rfl,n0,u0⟩,⟨_,_,rfl,⟨_,_,rfl,B1,C1⟩,⟨_,_,rfl,⟨_,_,rfl,E1,F1⟩,⟨_,_,rfl,G1,I1⟩⟩⟩⟩⟩⟩)) P1) u λu o=>qm o rfl λo=>?_
 iterate 2 refine qv o (Cd o rfl rfl) λo=>?_
 iterate 2 refine qa o rfl λo=>?_
 refine re<|tn<|th<|?_
 rcases bit hm with ⟨G0,hm⟩ | ⟨G0,hm⟩
 obtain ⟨S1,Q1,hm⟩:=bs hm
 refine rg<|qm o rfl λo=>qm o rfl λo=>qv o (Al o rfl rfl) λo=>qm o rfl λo=>gr (Fk:=[(5,i6 C0.2),(31,.bool ((decide (C0.1=E0.1)) && (decide (C0.2=E0.2))))]) 27 4 o u ?_ ?_ ?_
 intro hb o key
 iterate 2 refine qg o (Ab o rfl) λo=>?_
 exact qg o (Al o rfl rfl) λo=>qk o (Ad o rfl rfl) key u hb
 intro hb o key
 iterate 3 refine qn o λo=>?_
 exact qk o (Ae o rfl rfl) key u hb
 intro a w o u
 refine qm o rfl λo=>gr (Fk:=[(5,i6 C0.2),(35,.bool (((decide (C0.1=E0.1)) && (decide (C0.2=E0.2))) && (decide (0≤C0.2))))]) 32 3 o u ?_ ?_ ?_
 intro hb o key
 exact qg o (Ab o rfl) λo=>qg o (Bi o rfl rfl) λo=>qk o (Ad o rfl rfl) key u hb
 intro hb o key
 iterate 2 refine qn o λo=>?_
 exact qk o (Ae o rfl rfl) key u hb
 intro a w o u
 refine qm o rfl λo=>gr (Fk:=[(39,.bool ((((decide (C0.1=E0.1)) && (decide (C0.2=E0.2))) && (decide (0≤C0.2))) && (decide (C0.2≤2000))))]) 36 3 o u ?_ ?_ ?_
 intro hb o key
 exact qg o (Ab o rfl) λo=>qg o (Cs o rfl rfl) λo=>qk o (Ad o rfl rfl) key u hb
 intro hb o key
 iterate 2 refine qn o λo=>?_
 exact qk o (Ae o rfl rfl) key u hb
 intro a w o u
 refine qv o (As (Ab o rfl) (congrArg Value.bool G0)) λo=>ls<|gy o rfl rfl<|c1 o rfl call18 (Jc4 (Ai _) (Tab.mono (Tab.mono hT F0.sub) (St.up u)) Q1) trivial (λv w a hR o=>?_)
 obtain ⟨rfl,hk⟩:=hR
 replace u:=u.pass hk
 refine qv o (Ad o rfl rfl) λo=>qa o rfl λo=>re<|tn<|wr<|?_
 obtain rfl:=si hm
 exact r1 o results4 rfl ⟨rfl,u.keep⟩
 refine rg<|qm o rfl λo=>qm o rfl λo=>qv o (Al o rfl rfl) λo=>qm o rfl λo=>gr (Fk:=[(5,i6 C0.2),(31,.bool ((decide (C0.1=E0.1)) && (decide (C0.2=E0.2))))]) 27 4 o u ?_ ?_ ?_
 intro hb o key
 iterate 2 refine qg o (Ab o rfl) λo=>?_
 exact qg o (Al o rfl rfl) λo=>qk o (Ad o rfl rfl) key u hb
 intro hb o key
 iterate 3 refine qn o λo=>?_
 exact qk o (Ae o rfl rfl) key u hb
 intro a w o u
 refine qm o rfl λo=>gr (Fk:=[(5,i6 C0.2),(35,.bool (((decide (C0.1=E0.1)) && (decide (C0.2=E0.2))) && (decide (0≤C0.2))))]) 32 3 o u ?_ ?_ ?_
 intro hb o key
 exact qg o (Ab o rfl) λo=>qg o (Bi o rfl rfl) λo=>qk o (Ad o rfl rfl) key u hb
 intro hb o key
 iterate 2 refine qn o λo=>?_
 exact qk o (Ae o rfl rfl) key u hb
 intro a w o u
 refine qm o rfl λo=>gr (Fk:=[(39,.bool ((((decide (C0.1=E0.1)) && (decide (C0.2=E0.2))) && (decide (0≤C0.2))) && (decide (C0.2≤2000))))]) 36 3 o u ?_ ?_ ?_
 intro hb o key
 exact qg o (Ab o rfl) λo=>qg o (Cs o rfl rfl) λo=>qk o (Ad o rfl rfl) key u hb
 intro hb o key
 iterate 2 refine qn o λo=>?_
 exact qk o (Ae o rfl rfl) key u hb
 intro a w o u
 refine qv o (As (Ab o rfl) (congrArg Value.bool G0)) λo=>qn o λo=>qv o (Ae o rfl rfl) λo=>qa o rfl λo=>re<|tn<|wr<|?_
 obtain rfl:=si hm
 exact r1 o results4 rfl ⟨rfl,u.keep⟩
end Go.LM.LB
