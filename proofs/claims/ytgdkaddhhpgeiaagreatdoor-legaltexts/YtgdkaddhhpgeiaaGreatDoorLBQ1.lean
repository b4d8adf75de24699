/- Walks, lifted by program. No condition beyond the theorems' own premises. -/
import Derived.Test.YtgdkaddhhpgeiaaGreatDoorLBB
import Derived.Test.YtgdkaddhhpgeiaaGreatDoorLZ
namespace Go.LM.LB
open Go Go.LL Go.MD Go.LM Go.Proofs Go.MD.LB Go.Proofs.Tryz
set_option maxRecDepth 100000
variable {N:Nat} {w0:World} {H:PH}
theorem Sk (hH:H.le w0) {cs2:List Value} {p1:api_Prog} (g3:Enc.rep H cs2 p1) {r:api_Prog} (hm:Z77 N p1=some r):Tot Tryz.prog 65 #[.agg cs2.toArray] w0 (λv w'=>∃ (H':PH) (b0:Nat) (cs0:List Value),v=.func (.func 108) #[] #[PT b0]∧H' b0=some (.cells cs0.toArray 27 (0,0))∧Enc.rep H' cs0 r∧Ext w0 H H'∧H'.le w'∧Keep Nil w0 w'):=by
 unfold Z77 at hm
 refine fn0 func65 rfl ntmps65 rfl rfl λa o=>?_
 have u:St w0 Nil [H] [] w0:=start1 hH
 obtain ⟨Q0,I0,R0,J0,K0,D0,M0,E0,O0,F0,P0,G0,rfl,E1,F1,T0,U0,V0,W0,X0,Y0,j0,n0,u0,B1⟩:=Ar g3
 refine th<|rg<|ls<|Bs (cs:=[SL Q0 p1.Lines I0,SL R0 p1.Vols J0,SL K0 p1.Locks D0,SL M0 p1.Threads E0,SL O0 p1.Recover F0,SL P0 p1.Claims G0].toArray) o rfl u rfl rfl λS0 w a u o=>qa o rfl λo=>re<|tn<|th<|rg<|qv o (Pf (vs:=[PT S0]) o ⟨rfl,trivial⟩) λo=>qa o rfl λo=>re<|tn<|wr<|?_
 obtain ⟨H31,C0,C1,u⟩:=St.frzB u .head
 obtain rfl:=si hm
 exact r1 o results65 rfl ⟨H31,S0,_,rfl,C1,(show Enc.rep (α:=api_Prog) H31 [SL Q0 p1.Lines I0,SL R0 p1.Vols J0,SL K0 p1.Locks D0,SL M0 p1.Threads E0,SL O0 p1.Recover F0,SL P0 p1.Claims G0] p1 from ⟨_,_,rfl,⟨_,_,rfl,E1,(F1.mono C0.sub)⟩,⟨_,_,rfl,⟨_,_,rfl,T0,(U0.mono C0.sub)⟩,⟨_,_,rfl,⟨_,_,rfl,V0,(W0.mono C0.sub)⟩,⟨_,_,rfl,⟨_,_,rfl,X0,(Y0.mono C0.sub)⟩,⟨_,_,rfl,⟨_,_,rfl,j0,(n0.mono C0.sub)⟩,⟨_,_,rfl,u0,(B1.mono C0.sub)⟩⟩⟩⟩⟩⟩),C0,(St.le u),u.keep⟩
theorem Sg (hH:H.le w0) {τ:Type} {y:τ→(api_Cell×Int)→Option (τ×Bool)} {C:τ→PH→List HA→Prop} {lyl:Nat} (hy:YC Tryz.prog lyl C (λ(H:PH) (args:List Value) (x:api_Cell×Int)=>∃ (cs0:List Value),args=[.agg cs0.toArray,i6 x.2]∧Enc.rep H cs0 x.1) y) (_:∀ s H H' L,(∀ b o,H b=some o→H' b=some o)→C s H L→C s H' L) {s0:τ} {Lc:List HA} (hC:C s0 H Lc) {cs3:List Value} {y2:api_Prog} (g4:Enc.rep H cs3 y2) {b1:Nat} (F1:H b1=some (.cells cs3.toArray 27 (0,0))) (hO:(sepA [sepA Lc]).ok (hp w0)) (hD:∀ b,(sepA [sepA Lc]).fp b→H b=none) {r:τ} (hm:Z78 N y s0 y2=some r):Tot Tryz.prog 108 #[.func (.yield lyl) #[] #[],PT b1] w0 (λv w'=>∃ (H':PH) (Lcq:List HA),v=.tuple #[]∧C r H' Lcq∧ExtM w0 (sepA [sepA Lc]).fp H H'∧H'.le w'∧(∀ b,(sepA [sepA Lcq]).fp b→H' b=none)∧Mut w0 (sepA [sepA Lc]) (sepA [sepA Lcq]) w'):=by
 unfold Z78 at hm
 refine fn0 func108 rfl ntmps108 rfl rfl λa o=>?_
 have u:=Cm hH hO hD
 obtain ⟨G1,U0,X1,T1,V2,P2,W2,Q2,X2,R2,Y2,U2,rfl,L3,V1,A3,I1,B3,C3,D3,E3,F3,G3,I3,J3⟩:=Ar g4
 refine th<|th<|rg<|qv o (Af o Cj rfl) λo=>qv o (Ag o isAgg22 rfl (PH.le.cell (Lds.le u.ld) (Gm F1 rfl))) λo=>qv o (Ak (α:=(List api_Cell)) (xs:=y2.Lines) o runUnderlying22 rfl) λo=>qm o rfl λo=>re<|tn<|Au (λa w=>∃ (n0:τ) (M0:PH) (LcA3:List HA),(Z79 N y y2) n0=some r∧ExtM w0 (sepA [sepA Lc]).fp H M0∧Fr 48 [(0,.func (.yield lyl) #[] #[]),(1,PT b1)] a∧St w0 (sepA [sepA Lc]).fp [M0] [sepA LcA3] w∧C n0 M0 LcA3) ?_ ?_
 refine wb<|lp (α:=Nat×Int×τ) (λgh a w=>match gh with | (K0,C0,P0)=>∃ (J0:PH) (LcB4:List HA),(Z7b N (Z79 N y y2) y y2) K0 C0 P0=some r∧ExtM w0 (sepA [sepA Lc]).fp H J0∧Fr 48 [(0,.func (.yield lyl) #[] #[]),(1,PT b1),(10,SL G1 y2.Lines U0),(11,i6 (y2.Lines.length:Int)),(12,i6 C0)] a∧St w0 (sepA [sepA Lc]).fp [J0] [sepA LcB4] w∧C P0 J0 LcB4) (λgh=>gh.1) (N,0,s0) ⟨H,Lc,hm,(ExtM.refl _ _ _),o.hs,u,hC⟩ ?_
 rintro ⟨K0,C0,P0⟩ a w ⟨J0,LcB4,hm,F0,o,u,hCB5⟩
 obtain _ | K0:=K0
 simp [Z7b] at hm
 rw [Z7b] at hm
 refine th<|rg<|qv o (Aq o rfl rfl) λo=>re<|?_
 rcases bip hm with ⟨V0,hm⟩ | ⟨V0,hm⟩
 refine tn<|th<|ctv o rfl V0<|wk<|tn<|th<|Au (λa w=>∃ (u0:τ) (Q0:PH) (LcC3:List HA),(Z7a (Z7b N (Z79 N y y2) y y2 K0) C0) u0=some r∧ExtM w0 (sepA [sepA Lc]).fp J0 Q0∧Fr 48 [(0,.func (.yield lyl) #[] #[]),(1,PT b1),(10,SL G1 y2.Lines U0),(11,i6 (y2.Lines.length:Int)),(12,i6 C0)] a∧St w0 (sepA [sepA Lc]).fp [Q0] [sepA LcC3] w∧C u0 Q0 LcC3) ?_ ?_
 refine wb<|th<|?_
 obtain ⟨B1,J1,hm⟩:=bs hm
 obtain ⟨M3,F2,Y1⟩:=SR.get V1 J1
 obtain ⟨B2,U1,rfl,K3,M1⟩:=F2
 refine rg<|qm o rfl λo=>qv o (An o runUnderlying22 sizeOf23 rfl rfl J1 (SR.oaI V1 (by decide) J1)) λo=>qv o (Ag o isAgg23 rfl (PH.le.cell (λb o hx=>(Lds.le u.ld) b o (F0.sub b o hx)) (Y1 0 _ rfl))) λo=>?_
 iterate 2 refine qa o rfl λo=>?_
 refine re<|tn<|th<|rg<|qm o rfl λo=>qv o (Ak (α:=api_Cell) (xs:=B1) o runUnderlying23 rfl) λo=>qm o rfl λo=>re<|tn<|wb<|lp (α:=Nat×Int×τ) (λgh a w=>match gh with | (R0,C1,E1)=>∃ (HD1:PH) (LcD4:List HA),(Z7c N (Z7a (Z7b N (Z79 N y y2) y y2 K0) C0) y B1 C0) R0 C1 E1=some r∧ExtM w0 (sepA [sepA Lc]).fp J0 HD1∧Fr 48 [(0,.func (.yield lyl) #[] #[]),(1,PT b1),(3,i6 C0),(10,SL G1 y2.Lines U0),(11,i6 (y2.Lines.length:Int)),(12,i6 C0),(17,SL B2 B1 U1),(18,i6 (B1.length:Int)),(19,i6 C1)] a∧St w0 (sepA [sepA Lc]).fp [HD1] [sepA LcD4] w∧C E1 HD1 LcD4) (λgh=>gh.1) (N,0,P0) ⟨J0,LcB4,hm,(ExtM.refl _ _ _),o.hs,u,hCB5⟩ ?_
 rintro ⟨R0,C1,E1⟩ a w ⟨HD1,LcD4,hm,hxHD1,o,u,hCD5⟩
 obtain _ | R0:=R0
 simp [Z7c] at hm
 rw [Z7c] at hm
 refine th<|rg<|qv o (Aq o rfl rfl) λo=>re<|?_
 rcases bip hm with ⟨W0,hm⟩ | ⟨W0,hm⟩
 refine tn<|th<|ctv o rfl W0<|wk<|tn<|th<|wb<|th<|?_
 obtain ⟨D0,O1,hm⟩:=bs hm
 obtain ⟨O3,G2,C2⟩:=SR.get M1 O1
 obtain rfl:=Bj G2
 refine rg<|qv o (An o Tryz.runUnderlying23 Tryz.sizeOf53 rfl rfl O1 (SR.oaI M1 (by decide) O1)) λo=>qv o (Ay o isAgg53 sizeOf53 rfl rfl (λj v hj=>PH.le.cell (λb o hx=>(Lds.le u.ld) b o ((cp hxHD1.sub F0.sub) b o hx)) (C2 j v hj))) λo=>ls<|Aw (cs:=[Ac [],i6 0,i6 0].toArray) o rfl u zeroValue53 rfl λP3 w a u o=>ls<|Ba o u sizeOf53 rfl rfl rfl rfl (Am rfl) .head λw u=>re<|tn<|th<|?_
 obtain ⟨I2,J2,hm⟩:=bs hm
 refine rg<|qm o rfl λo=>qv o (Ay o isAgg53 sizeOf53 rfl rfl (u.ld.cellsB t0)) λo=>qm o rfl λo=>lsy rfl<|ly (vs:=[.agg #[Ac D0.Name,i6 D0.N,i6 D0.At],i6 C0]) o rfl rfl ⟨rfl,rfl,trivial⟩ hy u t1 hCD5 ⟨[Ac D0.Name,i6 D0.N,i6 D0.At],rfl,(show Enc.rep (α:=api_Cell) HD1 [Ac D0.Name,i6 D0.N,i6 D0.At] D0 from ⟨_,_,rfl,rfl,⟨_,_,rfl,rfl,rfl⟩⟩)⟩ J2 (λa w H52 Lc51 hC50 P1 hU o=>?_)
 replace u:=hU _ (.tail .head)
 refine qv o (Az o rfl) λo=>re<|?_
 rcases bit hm with ⟨X0,hm⟩ | ⟨X0,hm⟩
 refine tn<|cfv o rfl (by rw [X0];rfl)<|wk<|bn<|tn<|rg<|qv o (Ap o rfl rfl) λo=>qm o rfl λo=>re<|tn<|?_
 replace u:=u.pk [1] rfl
 exact ⟨(R0,(IntKind.i64.wrap (C1+1)),I2.1),⟨H52,Lc51,hm,(ExtM.trans hxHD1 P1),o.hs,u,hC50⟩,Nat.lt_succ_self _⟩
 refine tn<|ctv o rfl (by rw [X0];rfl)<|wr<|br<|tr<|tr<|br<|br<|tr<|tr<|br<|tr<|?_
 obtain rfl:=si hm
 exact r0 o results108 ⟨H52,Lc51,rfl,hC50,(ExtM.trans F0 (ExtM.trans hxHD1 P1)),(St.le u),(St.disL (u.pickL (.cons (.tail .head) .nil))),(u.pickL (.cons (.tail .head) .nil)).endMut⟩
 refine tn<|th<|cfv o rfl W0<|we<|tx<|tx<|bx<|bn<|tn<|?_
 exact ⟨E1,HD1,LcD4,hm,hxHD1,o.hs,u,hCD5⟩
 rintro a w ⟨u0,Q0,LcC3,hm,hxHC1,o,u,hCC4⟩
 unfold Z7a at hm
 refine rg<|qv o (Ap o rfl rfl) λo=>qm o rfl λo=>re<|tn<|?_
 exact ⟨(K0,(IntKind.i64.wrap (C0+1)),u0),⟨Q0,LcC3,hm,(ExtM.trans F0 hxHC1),o.hs,u,hCC4⟩,Nat.lt_succ_self _⟩
 refine tn<|th<|cfv o rfl V0<|we<|tx<|tx<|bx<|tn<|?_
 exact ⟨P0,J0,LcB4,hm,F0,o.has ⟨rfl,rfl,trivial⟩,u,hCB5⟩
 rintro a w ⟨n0,M0,LcA3,hm,G0,o,u,hCA4⟩
 unfold Z79 at hm
 refine th<|rg<|qv o (Af o Ed rfl) λo=>qv o (Ag o isAgg23 rfl (PH.le.cell (λb o hx=>(Lds.le u.ld) b o (G0.sub b o hx)) (Gm F1 rfl))) λo=>qv o (Ak (α:=api_Cell) (xs:=y2.Vols) o runUnderlying23 rfl) λo=>qm o rfl λo=>re<|tn<|wb<|lp (α:=Nat×Int×τ) (λgh a w=>match gh with | (S0,T0,Q1)=>∃ (O0:PH) (LcA8:List HA),(Z7d N y y2) S0 T0 Q1=some r∧ExtM w0 (sepA [sepA Lc]).fp M0 O0∧Fr 48 [(0,.func (.yield lyl) #[] #[]),(1,PT b1),(31,SL X1 y2.Vols T1),(32,i6 (y2.Vols.length:Int)),(33,i6 T0)] a∧St w0 (sepA [sepA Lc]).fp [O0] [sepA LcA8] w∧C Q1 O0 LcA8) (λgh=>gh.1) (N,0,n0) ⟨M0,LcA3,hm,(ExtM.refl _ _ _),o.hs,u,hCA4⟩ ?_
 rintro ⟨S0,T0,Q1⟩ a w ⟨O0,LcA8,hm,I0,o,u,hCA9⟩
 obtain _ | S0:=S0
 simp [Z7d] at hm
 rw [Z7d] at hm
 refine th<|rg<|qv o (Aq o rfl rfl) λo=>re<|?_
 rcases bip hm with ⟨Y0,hm⟩ | ⟨Y0,hm⟩
 refine tn<|th<|ctv o rfl Y0<|wk<|tn<|th<|wb<|th<|?_
 obtain ⟨E0,R1,hm⟩:=bs hm
 obtain ⟨Q3,K2,E2⟩:=SR.get I1 R1
 obtain rfl:=Bj K2
 refine rg<|qm o rfl λo=>qv o (An o runUnderlying23 sizeOf53 rfl rfl R1 (SR.oaI I1 (by decide) R1)) λo=>qv o (Ay o isAgg53 sizeOf53 rfl rfl (λj v hj=>PH.le.cell (λb o hx=>(Lds.le u.ld) b o ((cp I0.sub G0.sub) b o hx)) (E2 j v hj))) λo=>ls<|Aw (cs:=[Ac [],i6 0,i6 0].toArray) o rfl u zeroValue53 rfl λR3 w a u o=>qa o rfl λo=>ls<|Ba o u sizeOf53 rfl rfl rfl rfl (Am rfl) .head λw u=>re<|tn<|th<|?_
 obtain ⟨M2,O2,hm⟩:=bs hm
 refine rg<|qm o rfl λo=>qv o (Ay o isAgg53 sizeOf53 rfl rfl (u.ld.cellsB t0)) λo=>qv o (Af o Cj rfl) λo=>qv o (Ag o isAgg22 rfl (PH.le.cell (λb o hx=>(Lds.le u.ld) b o ((cp I0.sub G0.sub) b o hx)) (Gm F1 rfl))) λo=>qv o (Ak (α:=(List api_Cell)) (xs:=y2.Lines) o runUnderlying22 rfl) λo=>qm o rfl λo=>qv o (Ap o rfl rfl) λo=>lsy rfl<|ly (vs:=[.agg #[Ac E0.Name,i6 E0.N,i6 E0.At],i6 (IntKind.i64.wrap ((y2.Lines.length:Int)+T0))]) o rfl rfl ⟨rfl,rfl,trivial⟩ hy u t1 hCA9 ⟨[Ac E0.Name,i6 E0.N,i6 E0.At],rfl,(show Enc.rep (α:=api_Cell) O0 [Ac E0.Name,i6 E0.N,i6 E0.At] E0 from ⟨_,_,rfl,rfl,⟨_,_,rfl,rfl,rfl⟩⟩)⟩ O2 (λa w H66 Lc65 hC64 S1 hU o=>?_)
 replace u:=hU _ (.tail .head)
 refine qv o (Az o rfl) λo=>re<|?_
 rcases bit hm with ⟨j0,hm⟩ | ⟨j0,hm⟩
 refine tn<|cfv o rfl (by rw [j0];rfl)<|wk<|bn<|tn<|rg<|qv o (Ap o rfl rfl) λo=>qm o rfl λo=>re<|tn<|?_
 replace u:=u.pk [1] rfl
 exact ⟨(S0,(IntKind.i64.wrap (T0+1)),M2.1),⟨H66,Lc65,hm,(ExtM.trans I0 S1),o.hs,u,hC64⟩,Nat.lt_succ_self _⟩
 refine tn<|ctv o rfl (by rw [j0];rfl)<|wr<|br<|tr<|tr<|br<|?_
 obtain rfl:=si hm
 exact r0 o results108 ⟨H66,Lc65,rfl,hC64,(ExtM.trans G0 (ExtM.trans I0 S1)),(St.le u),(St.disL (u.pickL (.cons (.tail .head) .nil))),(u.pickL (.cons (.tail .head) .nil)).endMut⟩
 refine tn<|th<|cfv o rfl Y0<|we<|tx<|tx<|bx<|?_
 obtain rfl:=si hm
 exact r0n o results108 ⟨O0,LcA8,rfl,hCA9,(ExtM.trans G0 I0),(St.le u),(St.disL (u.pickL (.cons .head .nil))),(u.pickL (.cons .head .nil)).endMut⟩
theorem Vl (hH:H.le w0) {p1:Str} {p2:Int} {p3:Int} {b5:Nat} {p4:(List (Str×Int))} {mz6 cz8:Nat} {l7:List (Str×Value×Nat)} (F0:MRel kI l7 p4) {b11:Nat} {p10:Bool} {b13:Nat} {p12:Int} (hO:(sepA [bk b5 [.map (some mz6)] 75,Cf kS mz6 l7 cz8,bk b11 [.bool p10] 4,bk b13 [i6 p12] 3]).ok (hp w0)) (hD:∀ b,(sepA [bk b5 [.map (some mz6)] 75,Cf kS mz6 l7 cz8,bk b11 [.bool p10] 4,bk b13 [i6 p12] 3]).fp b→H b=none) {r:((List (Str×Int))×Bool×Int)} (hm:Z7i N p1 p2 p3 p4 p10 p12=some r):Tot Tryz.prog 78 #[Ac p1,i6 p2,i6 p3,PT b5,PT b11,PT b13] w0 (λv w'=>∃ (m1m:Nat) (l1m:List (Str×Value×Nat)) (c1m:Nat),v=.tuple #[]∧MRel kI l1m r.1∧Mut w0 (sepA [bk b5 [.map (some mz6)] 75,Cf kS mz6 l7 cz8,bk b11 [.bool p10] 4,bk b13 [i6 p12] 3]) (sepA [bk b5 [.map (some m1m)] 75,Cf kS m1m l1m c1m,bk b11 [.bool r.2.1] 4,bk b13 [i6 r.2.2] 3]) w'):=by
 unfold Z7i at hm
 refine fn0 func78 rfl ntmps78 rfl rfl λa o=>?_
 have u:=Cm hH hO hD
 refine th<|th<|rg<|qv o (Ag o Tryz.isAgg75 rfl (u.ld.cellB t0 rfl)) λo=>qm o rfl λo=>qv o (Ip (ev:=kI) (dv:=0) (m:=p4) (k:=p1) o Nh runUnderlying75 zeroValue3 (Lds.mapO u.ld t1) rfl rfl F0) λo=>qv o (Bt o rfl rfl) λo=>qm o rfl λo=>gr (Fk:=[(0,Ac p1),(1,i6 p2),(2,i6 p3),(3,PT b5),(4,PT b11),(5,PT b13),(16,.bool ((decide (((Bf p1 p4).getD 0)≠0)) && (!p10)))]) 13 3 o u ?_ ?_ ?_
 intro hb o key
 exact qg o (Ag o isAgg4 rfl (u.ld.cellB t2 rfl)) λo=>qg o (Az o rfl) λo=>qk o (Ad o rfl rfl) key u hb
 intro hb o key
 iterate 2 refine qn o λo=>?_
 exact qk o (Ae o rfl rfl) key u hb
 intro a w o u
 refine re<|tn<|Au (λa w=>∃ (D0:Bool) (E0:Int),(Z7j p1 p2 p4) D0 E0=some r∧Fr 21 [(0,Ac p1),(1,i6 p2),(3,PT b5),(4,PT b11),(5,PT b13)] a∧St w0 (sepA [bk b5 [.map (some mz6)] 75,Cf kS mz6 l7 cz8,bk b11 [.bool p10] 4,bk b13 [i6 p12] 3]).fp [H] [Cf kS mz6 l7 cz8,bk b5 [.map (some mz6)] 75,bk b11 [.bool D0] 4,bk b13 [i6 E0] 3] w) ?_ ?_
 rcases bit hm with ⟨C0,hm⟩ | ⟨C0,hm⟩
 refine ctv o rfl C0<|rg<|qm o rfl λo=>ls<|Ax o u sizeOf3 rfl rfl rfl rfl (.tail (.tail (.tail .head))) .zero λw u=>ls<|Ax o u sizeOf4 rfl rfl rfl rfl (.tail (.tail .head)) .zero λw u=>re<|tn<|?_
 replace u:=u.pk [1,0,0,0] rfl
 exact ⟨true,p3,hm,o.hs,u⟩
 refine cfv o rfl C0<|wk<|tn<|?_
 replace u:=u.pk [1,0,0,0] rfl
 exact ⟨p10,p12,hm,o.hs,u⟩
 rintro a w ⟨D0,E0,hm,o,u⟩
 unfold Z7j at hm
 refine rg<|qv o (Ag o Tryz.isAgg75 rfl (u.ld.cellB t1 rfl)) λo=>?_
 iterate 2 refine qm o rfl λo=>?_
 refine ls<|Wl (ev:=kI) (m:=p4) (k:=p1) (v:=p2) o u Nh runUnderlying75 rfl rfl rfl t0 F0 λI0 J0 w G0 hU=>?_
 replace u:=hU _ .head
 refine re<|?_
 obtain rfl:=si hm
 exact r0n o results78 ⟨mz6,I0,J0,rfl,G0,(u.pickL (.cons (.tail .head) (.cons .head (.cons .head (.cons .head .nil))))).endMut⟩
set_option maxHeartbeats 4000000 in
theorem JbF (hH:H.le w0) {cs2:List Value} {p1:api_Prog} (g3:Enc.rep H cs2 p1) {r:((List (Str×Int))×Int×Bool)} (hm:Z7h N p1=some r):Tot Tryz.prog 49 #[.agg cs2.toArray] w0 (λv w'=>∃ (m0:Nat) (l0:List (Str×Value×Nat)) (c0:Nat),v=.tuple #[.map (some m0),i6 r.2.1,.bool r.2.2]∧MRel kI l0 r.1∧Fresh w0 (Cf kS m0 l0 c0) w'):=by
 unfold Z7h at hm
 refine fnM func49 rfl ntmps49 rfl rfl λa o=>?_
 have u:St w0 Nil [H] [] w0:=start1 hH
 replace u:=St.ds0 u
 obtain ⟨F1,U0,G1,V0,P0,F0,Q0,G0,W0,J0,X0,K0,rfl,O5,P5,l3,u3,A4,R2,B4,U2,C4,D4,E4,F4⟩:=Ar g3
 refine th<|rg<|ls<|Bs (cs:=[SL F1 p1.Lines U0,SL G1 p1.Vols V0,SL P0 p1.Locks F0,SL Q0 p1.Threads G0,SL W0 p1.Recover J0,SL X0 p1.Claims K0].toArray) o rfl u rfl rfl λR0 w a u o=>?_
 iterate 3 refine qa o rfl λo=>?_
 refine re<|tn<|th<|rg<|ls<|Ux o rfl u λm29 w a u o=>?_
 replace u:=St.gmap0 (kv:=kS) u
 have G4:MRel (κ:=Str) (β:=Int) kI [] []:=MRel.nil _
 refine ls<|Aw (cs:=[.map none].toArray) o rfl u zeroValue75 rfl λC0 w a u o=>ls<|Ax o u sizeOf75 rfl rfl rfl rfl .head .zero λw u=>re<|tn<|th<|rg<|ls<|Aw (cs:=[i6 0].toArray) o rfl u Tryz.zeroValue3 rfl λD0 w a u o=>re<|tn<|th<|rg<|ls<|Aw (cs:=[.bool false].toArray) o rfl u Tryz.zeroValue4 rfl λE0 w a u o=>ls<|Ax o u sizeOf4 rfl rfl rfl rfl .head .zero λw u=>re<|tn<|th<|rg<|qv o (Pf (vs:=[PT C0,PT E0,PT D0]) o ⟨rfl,rfl,rfl,trivial⟩) λo=>ls<|Aw (cs:=[.nilFunc].toArray) o rfl u zeroValue105 rfl λM0 w a u o=>ls<|Ax o u sizeOf105 rfl rfl rfl rfl .head .zero λw u=>re<|tn<|th<|th<|?_
 obtain ⟨M1,Q5,hm⟩:=bs hm
 refine rg<|qv o (Ay o Tryz.isAgg27 Tryz.sizeOf27 rfl rfl (u.ld.cellsB t5)) λo=>ls<|c1 o rfl call65 (Sk (St.le u) (show Enc.rep (α:=api_Prog) H [SL F1 p1.Lines U0,SL G1 p1.Vols V0,SL P0 p1.Locks F0,SL Q0 p1.Threads G0,SL W0 p1.Recover J0,SL X0 p1.Claims K0] p1 from ⟨_,_,rfl,⟨_,_,rfl,O5,P5⟩,⟨_,_,rfl,⟨_,_,rfl,l3,u3⟩,⟨_,_,rfl,⟨_,_,rfl,A4,R2⟩,⟨_,_,rfl,⟨_,_,rfl,B4,U2⟩,⟨_,_,rfl,⟨_,_,rfl,C4,D4⟩,⟨_,_,rfl,E4,F4⟩⟩⟩⟩⟩⟩) Q5) ⟨rfl,trivial⟩ (λv w a hR o=>?_)
 obtain ⟨H40,K2,cs43,rfl,I4,R5,O1,J4,hk⟩:=hR
 obtain ⟨u,O1⟩:=And.intro (St.passH u hk O1 J4) (St.extc u O1)
 obtain ⟨K4,M3,L4,O3,M4,P3,O4,Q3,P4,R3,Q4,S3,rfl,R4,S4,T4,U4,V4,W4,X4,Y4,d4,k4,l4,u4⟩:=Ar R5
 refine re<|tn<|wb<|?_
 replace o:Fr 65 [(1,PT R0),(5,PT C0),(6,PT D0),(7,PT E0),(8,PT M0),(19,.func (.func 108) #[] #[PT K2])] _:=o.hs
 replace u:=u.pk [6,5,4,3,2,1,0] rfl
 obtain ⟨q69,S5,hm⟩:=bs hm
 refine rf (ŝ:=q69) (lb:=[PT K2]) (ps:=[20,21]) (I:=λ(gh:((List (Str×Int))×Int×Bool)) (u0:PH) (L:List HA)=>match gh with | (I1,S0,T0)=>∃ (I0:Nat) (Y0:List (Str×Value×Nat)) (j0:Nat),L=[bk R0 [SL F1 p1.Lines U0,SL G1 p1.Vols V0,SL P0 p1.Locks F0,SL Q0 p1.Threads G0,SL W0 p1.Recover J0,SL X0 p1.Claims K0] 27,Cf kS I0 Y0 j0,bk C0 [.map (some I0)] 75,bk D0 [i6 S0] 3,bk E0 [.bool T0] 4,bk M0 [.func (.func 78) #[] #[PT C0,PT E0,PT D0]] 105]∧(∀ b o,H40 b=some o→u0 b=some o)∧MRel kI Y0 I1) (J:=λ(_:Empty) (_:Code) (_:PH) (_:List HA)=>False) (λ(s:((List (Str×Int))×Int×Bool)) (x:(api_Cell×Int))=>(Z7k N p1) s.1 s.2.1 s.2.2 x) (λ(H:PH) (args:List Value) (x:api_Cell×Int)=>∃ (cs0:List Value),args=[.agg cs0.toArray,i6 x.2]∧Enc.rep H cs0 x.1) o rfl call108 rfl (by rintro H args x ⟨_,rfl,_⟩;rfl) u ⟨m29,[],0,rfl,i2,G4⟩ (by rintro ⟨I1,S0,T0⟩ H Hn L hs ⟨I0,Y0,j0,rfl,hu,hmA6⟩;exact ⟨_,_,_,rfl,(cp hs hu),hmA6⟩) (λt=>t.elim) (λlq C Lc w1 hyc hcm hc hle hok hdis=>Lm (Sg hle hyc hcm hc (show Enc.rep (α:=api_Prog) H40 [SL K4 M1.Lines M3,SL L4 M1.Vols O3,SL M4 M1.Locks P3,SL O4 M1.Threads Q3,SL P4 M1.Recover R3,SL Q4 M1.Claims S3] M1 from ⟨_,_,rfl,⟨_,_,rfl,R4,S4⟩,⟨_,_,rfl,⟨_,_,rfl,T4,U4⟩,⟨_,_,rfl,⟨_,_,rfl,V4,W4⟩,⟨_,_,rfl,⟨_,_,rfl,X4,Y4⟩,⟨_,_,rfl,⟨_,_,rfl,d4,k4⟩,⟨_,_,rfl,l4,u4⟩⟩⟩⟩⟩⟩) I4 (Im hok) (Hg hdis) S5)) ?_ ?_ ?_
 intro l X Y s O0 r u0 Lu args w0 a K Qr hI hex hm o u hK hN hR
 obtain ⟨I1,S0,T0⟩:=s
 obtain ⟨I0,Y0,j0,rfl,T3,hmA6⟩:=hI
 replace hm:(Z7k N p1) I1 S0 T0 O0=some r:=hm
 unfold Z7k at hm
 obtain ⟨cs130,rfl,A5⟩:=hex
 replace o:Fr 65 [(21,i6 O0.2),(20,.agg cs130.toArray),(1,PT R0),(5,PT C0),(6,PT D0),(7,PT E0),(8,PT M0),(19,.func (.func 108) #[] #[PT K2])] a:=o
 obtain rfl:=Bj A5
 refine th<|rg<|ls<|Aw (cs:=[Ac [],i6 0,i6 0].toArray) o rfl u Tryz.zeroValue53 rfl λJ3 w a u o=>ls<|Ba o u sizeOf53 rfl rfl rfl rfl (Am rfl) .head λw u=>re<|tn<|rg<|qa o rfl λo=>re<|?_
 replace u:=u.pk [1,0,0,0,0,0,0,0] rfl
 refine tn<|hK _ _ _ _ u λw u=>wb<|th<|rg<|qa o rfl λo=>re<|tn<|th<|th<|rg<|qm o rfl λo=>qv o (Af o Cj rfl) λo=>qv o (Ag o isAgg22 rfl (u.ld.cellB t2 rfl)) λo=>qv o (Ak (α:=(List api_Cell)) (xs:=p1.Lines) o runUnderlying22 rfl) λo=>qv o (Bi o rfl rfl) λo=>re<|tn<|Au (λa w=>∃ (F3:Int),(Z7l N O0 I1 S0 T0) F3=some r∧Fr 65 [(1,PT R0),(5,PT C0),(6,PT D0),(7,PT E0),(8,PT M0),(9,PT J3),(11,i6 F3),(19,.func (.func 108) #[] #[PT K2])] a∧St w0 (sepA (X :: [bk R0 [SL F1 p1.Lines U0,SL G1 p1.Vols V0,SL P0 p1.Locks F0,SL Q0 p1.Threads G0,SL W0 p1.Recover J0,SL X0 p1.Claims K0] 27,Cf kS I0 Y0 j0,bk C0 [.map (some I0)] 75,bk D0 [i6 S0] 3,bk E0 [.bool T0] 4,bk M0 [.func (.func 78) #[] #[PT C0,PT E0,PT D0]] 105])).fp [u0] [bk R0 [SL F1 p1.Lines U0,SL G1 p1.Vols V0,SL P0 p1.Locks F0,SL Q0 p1.Threads G0,SL W0 p1.Recover J0,SL X0 p1.Claims K0] 27,Cf kS I0 Y0 j0,bk C0 [.map (some I0)] 75,bk D0 [i6 S0] 3,bk E0 [.bool T0] 4,bk M0 [.func (.func 78) #[] #[PT C0,PT E0,PT D0]] 105,bk J3 [Ac O0.1.Name,i6 O0.1.N,i6 O0.1.At] 53,Y] w) ?_ ?_
 rcases bip hm with ⟨V1,hm⟩ | ⟨V1,hm⟩
 refine ctv o rfl V1<|rg<|qa o rfl λo=>re<|tn<|?_
 replace u:=u.pk [2,2,2,2,2,2,1,0] rfl
 exact ⟨2,hm,o.hs,u⟩
 refine cfv o rfl V1<|wk<|tn<|?_
 replace u:=u.pk [2,2,2,2,2,2,1,0] rfl
 exact ⟨1,hm,o.hs,u⟩
 rintro a w ⟨F3,hm,o,u⟩
 unfold Z7l at hm
 obtain ⟨u5,B5,hm⟩:=bs hm
 refine rg<|qv o (Ag o Tryz.isAgg105 rfl (u.ld.cellB t5 rfl)) λo=>qv o (Af o Ep rfl) λo=>qv o (Ag o isAgg9 rfl (u.ld.cellB t6 rfl)) λo=>qm o rfl λo=>qv o (Af o Jm rfl) λo=>qv o (Ag o isAgg3 rfl (u.ld.cellB t6 rfl)) λo=>?_
 replace u:=u.pk [2,1,2,1,0,0,0,0] rfl
 replace u:=St.sep [bk C0 [.map (some I0)] 75,Cf kS I0 Y0 j0,bk E0 [.bool T0] 4,bk D0 [i6 S0] 3] u
 refine ls<|k1 (vs:=[Ac O0.1.Name,i6 F3,i6 O0.1.At]) (caps:=[PT C0,PT E0,PT D0]) o rfl rfl call78 (Vl (St.le u) (p4:=I1) (b5:=C0) (mz6:=I0) (l7:=Y0) (cz8:=j0) (p10:=T0) (b11:=E0) (p12:=S0) (b13:=D0) hmA6 (St.sepOk u) (St.sepDis u) B5) ⟨rfl,rfl,rfl,trivial⟩ rfl (λv w a hR o=>?_)
 obtain ⟨m136,C5,D5,rfl,U3,hk⟩:=hR
 replace u:=(u.mut hk .head).unsep
 refine re<|bn<|?_
 obtain rfl:=si hm
 replace u:=u.pk [7,4,1,0,1,0,0] rfl
 exact hN _ _ _ _ _ rfl (ExtM.refl _ _ _) ⟨m136,C5,D5,rfl,T3,U3⟩ u
 rintro ⟨I1,S0,T0⟩ D140 u0 Lu a w rfl ⟨I0,Y0,j0,rfl,huHA1,hmA6⟩ J1 o u
 replace J1:=ExtM.nil J1
 try dsimp only at hm
 replace o:Fr ⟨65,(D140 :: [])⟩ [(1,PT R0),(5,PT C0),(6,PT D0),(7,PT E0),(8,PT M0),(19,.func (.func 108) #[] #[PT K2])] a:=o
 replace u:St w0 Nil [u0] [dsA (D140 :: []),bk R0 [SL F1 p1.Lines U0,SL G1 p1.Vols V0,SL P0 p1.Locks F0,SL Q0 p1.Threads G0,SL W0 p1.Recover J0,SL X0 p1.Claims K0] 27,Cf kS I0 Y0 j0,bk C0 [.map (some I0)] 75,bk D0 [i6 S0] 3,bk E0 [.bool T0] 4,bk M0 [.func (.func 78) #[] #[PT C0,PT E0,PT D0]] 105] w:=u
 refine bn<|tn<|th<|th<|rg<|qv o (Af o Ec rfl) λo=>qv o (Ag o isAgg23 rfl (u.ld.cellB t1 rfl)) λo=>qv o (Ak (α:=api_Cell) (xs:=p1.Locks) o runUnderlying23 rfl) λo=>qm o rfl λo=>re<|tn<|Au (λa w=>∃ (X1:(List (Str×Int))) (Y1:Int) (B2:Bool) (G3:Nat) (C2:List (Str×Value×Nat)) (V2:Nat),(Z7m N p1) X1 Y1 B2=some r∧Fr ⟨65,(D140 :: [])⟩ [(1,PT R0),(5,PT C0),(6,PT D0),(7,PT E0),(8,PT M0)] a∧St w0 Nil [u0] [bk R0 [SL F1 p1.Lines U0,SL G1 p1.Vols V0,SL P0 p1.Locks F0,SL Q0 p1.Threads G0,SL W0 p1.Recover J0,SL X0 p1.Claims K0] 27,Cf kS G3 C2 V2,bk C0 [.map (some G3)] 75,bk D0 [i6 Y1] 3,bk E0 [.bool B2] 4,bk M0 [.func (.func 78) #[] #[PT C0,PT E0,PT D0]] 105,dsA (D140 :: [])] w∧MRel kI C2 X1) ?_ ?_
 replace u:=u.pk [1,1,1,1,1,1,0] rfl
 refine wb<|lp (α:=Nat×(List (Str×Int))×Int×Bool×Int) (λ(gh:Nat×(List (Str×Int))×Int×Bool×Int) a w=>match gh with | (M2,O2,S1,T1,I3)=>∃ (P1:Nat) (U1:List (Str×Value×Nat)) (P2:Nat),(Z7o N (Z7m N p1) p1) M2 O2 S1 T1 I3=some r∧Fr ⟨65,(D140 :: [])⟩ [(1,PT R0),(5,PT C0),(6,PT D0),(7,PT E0),(8,PT M0),(35,SL P0 p1.Locks F0),(36,i6 (p1.Locks.length:Int)),(37,i6 I3)] a∧St w0 Nil [u0] [bk R0 [SL F1 p1.Lines U0,SL G1 p1.Vols V0,SL P0 p1.Locks F0,SL Q0 p1.Threads G0,SL W0 p1.Recover J0,SL X0 p1.Claims K0] 27,Cf kS P1 U1 P2,bk C0 [.map (some P1)] 75,bk D0 [i6 S1] 3,bk E0 [.bool T1] 4,bk M0 [.func (.func 78) #[] #[PT C0,PT E0,PT D0]] 105,dsA (D140 :: [])] w∧MRel kI U1 O2) (λgh=>gh.1) (N,I1,S0,T0,0) ⟨I0,Y0,j0,hm,o.hs,u,hmA6⟩ ?_
 rintro ⟨M2,O2,S1,T1,I3⟩ a w ⟨P1,U1,P2,hm,o,u,hmB6⟩
 obtain _ | M2:=M2
 simp [Z7o] at hm
 rw [Z7o] at hm
 refine th<|rg<|qv o (Aq o rfl rfl) λo=>re<|?_
 rcases bip hm with ⟨E2,hm⟩ | ⟨E2,hm⟩
 refine tn<|th<|ctv o rfl E2<|wk<|tn<|th<|wb<|th<|?_
 obtain ⟨K3,W2,hm⟩:=bs hm
 obtain ⟨A6,E5,V3⟩:=SR.get R2 W2
 obtain rfl:=Bj E5
 refine rg<|qv o (An o Tryz.runUnderlying23 Tryz.sizeOf53 rfl rfl W2 (SR.oaI R2 (by decide) W2)) λo=>qv o (Ay o isAgg53 sizeOf53 rfl rfl (λj v hj=>PH.le.cell (λb o hx=>(Lds.le u.ld) b o ((cp J1.sub O1.sub) b o hx)) (V3 j v hj))) λo=>ls<|Aw (cs:=[Ac [],i6 0,i6 0].toArray) o rfl u zeroValue53 rfl λB6 w a u o=>ls<|Ba o u sizeOf53 rfl rfl rfl rfl (Am rfl) .head λw u=>re<|tn<|?_
 obtain ⟨X2,F5,hm⟩:=bs hm
 refine rg<|qv o (Ag o Tryz.isAgg105 rfl (u.ld.cellB t6 rfl)) λo=>qv o (Af o Ep rfl) λo=>qv o (Ag o isAgg9 rfl (u.ld.cellB t0 rfl)) λo=>qv o (Af o Jm rfl) λo=>qv o (Ag o isAgg3 rfl (u.ld.cellB t0 rfl)) λo=>?_
 replace u:=u.pk [3,2,3,2,0,0,0,0] rfl
 replace u:=St.sep [bk C0 [.map (some P1)] 75,Cf kS P1 U1 P2,bk E0 [.bool T1] 4,bk D0 [i6 S1] 3] u
 refine ls<|k1 (vs:=[Ac K3.Name,i6 3,i6 K3.At]) (caps:=[PT C0,PT E0,PT D0]) o rfl rfl call78 (Vl (St.le u) (p4:=O2) (b5:=C0) (mz6:=P1) (l7:=U1) (cz8:=P2) (p10:=T1) (b11:=E0) (p12:=S1) (b13:=D0) hmB6 (St.sepOk u) (St.sepDis u) F5) ⟨rfl,rfl,rfl,trivial⟩ rfl (λv w a hR o=>?_)
 obtain ⟨m151,G5,I5,rfl,W3,hk⟩:=hR
 replace u:=(u.mut hk .head).unsep
 refine re<|bn<|tn<|rg<|qv o (Ap o rfl rfl) λo=>qm o rfl λo=>re<|tn<|?_
 replace u:=u.pk [5,1,0,1,0,1,1] rfl
 exact ⟨(M2,X2.1,X2.2.2,X2.2.1,(IntKind.i64.wrap (I3+1))),⟨m151,G5,I5,hm,o.hs,u,W3⟩,Nat.lt_succ_self _⟩
 refine tn<|th<|cfv o rfl E2<|we<|tx<|tx<|bx<|tn<|?_
 exact ⟨O2,S1,T1,P1,U1,P2,hm,o.hs,u,hmB6⟩
 rintro a w ⟨X1,Y1,B2,G3,C2,V2,hm,o,u,hmA13⟩
 unfold Z7m at hm
 refine th<|th<|rg<|qv o (Af o De rfl) λo=>qv o (Ag o isAgg24 rfl (u.ld.cellB t0 rfl)) λo=>qv o (Ak (α:=api_Thread) (xs:=p1.Threads) o runUnderlying24 rfl) λo=>qm o rfl λo=>re<|tn<|Au (λa w=>∃ (Y2:(List (Str×Int))) (A3:Int) (B3:Bool) (F2:Nat) (G2:List (Str×Value×Nat)) (C3:Nat),Z7n Y2 A3 B3=some r∧Fr ⟨65,(D140 :: [])⟩ [(5,PT C0),(6,PT D0),(7,PT E0)] a∧St w0 Nil [u0] [Cf kS F2 G2 C3,bk C0 [.map (some F2)] 75,bk D0 [i6 A3] 3,bk E0 [.bool B3] 4,dsA (D140 :: [])] w∧MRel kI G2 Y2) ?_ ?_
 replace u:=u.pk [1,1,1,1,1,1] rfl
 refine wb<|lp (α:=Nat×(List (Str×Int))×Int×Bool×Int) (λ(gh:Nat×(List (Str×Int))×Int×Bool×Int) a w=>match gh with | (Q2,Q1,B1,C1,I2)=>∃ (n0:Nat) (E1:List (Str×Value×Nat)) (R1:Nat),(Z7p N Z7n p1) Q2 Q1 B1 C1 I2=some r∧Fr ⟨65,(D140 :: [])⟩ [(5,PT C0),(6,PT D0),(7,PT E0),(8,PT M0),(49,SL Q0 p1.Threads G0),(50,i6 (p1.Threads.length:Int)),(51,i6 I2)] a∧St w0 Nil [u0] [Cf kS n0 E1 R1,bk C0 [.map (some n0)] 75,bk D0 [i6 B1] 3,bk E0 [.bool C1] 4,bk M0 [.func (.func 78) #[] #[PT C0,PT E0,PT D0]] 105,dsA (D140 :: [])] w∧MRel kI E1 Q1) (λgh=>gh.1) (N,X1,Y1,B2,0) ⟨G3,C2,V2,hm,o.hs,u,hmA13⟩ ?_
 rintro ⟨Q2,Q1,B1,C1,I2⟩ a w ⟨n0,E1,R1,hm,o,u,hmB14⟩
 obtain _ | Q2:=Q2
 simp [Z7p] at hm
 rw [Z7p] at hm
 refine th<|rg<|qv o (Aq o rfl rfl) λo=>re<|?_
 rcases bip hm with ⟨J2,hm⟩ | ⟨J2,hm⟩
 refine tn<|th<|ctv o rfl J2<|wk<|tn<|th<|wb<|th<|?_
 obtain ⟨L3,D3,hm⟩:=bs hm
 obtain ⟨C6,J5,X3⟩:=SR.get U2 D3
 obtain ⟨V5,T5,W5,U5,rfl,X5,Y5,k5,n5⟩:=Av J5
 refine rg<|qv o (An o Tryz.runUnderlying24 Tryz.sizeOf48 rfl rfl D3 (SR.oaI U2 (by decide) D3)) λo=>qv o (Ay o isAgg48 sizeOf48 rfl rfl (λj v hj=>PH.le.cell (λb o hx=>(Lds.le u.ld) b o ((cp J1.sub O1.sub) b o hx)) (X3 j v hj))) λo=>ls<|Aw (cs:=[Ac [],.slice none 0 0,.slice none 0 0,i6 0].toArray) o rfl u zeroValue48 rfl λD6 w a u o=>ls<|Ba o u sizeOf48 rfl rfl rfl rfl (Am rfl) .head λw u=>re<|tn<|?_
 obtain ⟨E3,K5,hm⟩:=bs hm
 refine rg<|qv o (Ag o Tryz.isAgg105 rfl (u.ld.cellB t5 rfl)) λo=>qv o (Af o Er rfl) λo=>qv o (Ag o isAgg9 rfl (u.ld.cellB t0 rfl)) λo=>qv o (Af o Ge rfl) λo=>qv o (Ag o isAgg3 rfl (u.ld.cellB t0 rfl)) λo=>?_
 replace u:=u.pk [2,1,2,1,0,0,0] rfl
 replace u:=St.sep [bk C0 [.map (some n0)] 75,Cf kS n0 E1 R1,bk E0 [.bool C1] 4,bk D0 [i6 B1] 3] u
 refine ls<|k1 (vs:=[Ac L3.Name,i6 4,i6 L3.At]) (caps:=[PT C0,PT E0,PT D0]) o rfl rfl call78 (Vl (St.le u) (p4:=Q1) (b5:=C0) (mz6:=n0) (l7:=E1) (cz8:=R1) (p10:=C1) (b11:=E0) (p12:=B1) (b13:=D0) hmB14 (St.sepOk u) (St.sepDis u) K5) ⟨rfl,rfl,rfl,trivial⟩ rfl (λv w a hR o=>?_)
 obtain ⟨m172,L5,M5,rfl,Y3,hk⟩:=hR
 replace u:=(u.mut hk .head).unsep
 refine re<|bn<|tn<|rg<|qv o (Ap o rfl rfl) λo=>qm o rfl λo=>re<|tn<|?_
 replace u:=u.pk [1,0,1,0,1,1] rfl
 exact ⟨(Q2,E3.1,E3.2.2,E3.2.1,(IntKind.i64.wrap (I2+1))),⟨m172,L5,M5,hm,o.hs,u,Y3⟩,Nat.lt_succ_self _⟩
 refine tn<|th<|cfv o rfl J2<|we<|tx<|tx<|bx<|tn<|?_
 replace u:=u.pk [0,0,0,0,1] rfl
 exact ⟨Q1,B1,C1,n0,E1,R1,hm,o.hs,u,hmB14⟩
 rintro a w ⟨Y2,A3,B3,F2,G2,C3,hm,o,u,hmA20⟩
 unfold Z7n at hm
 refine th<|rxS 6 u wide (by kernel_rfl) λw u=>xq u.ld o (λw hl=>Ag o isAgg75 rfl (hl.cellB t1 rfl)) λo=>xq u.ld o (λw hl=>Ag o isAgg3 rfl (hl.cellB t2 rfl)) λo=>xq u.ld o (λw hl=>Ag o isAgg4 rfl (hl.cellB t3 rfl)) λo=>?_
 iterate 3 refine xq u.ld o (λw hl=>Bo o rfl) λo=>?_
 refine xe<|tn<|wr<|?_
 obtain rfl:=si hm
 replace u:=u.pk [4,0,0,0,0] rfl
 exact rM (.inl rfl) o u λw u=>⟨_,Jcf o rfl rfl rfl rfl,⟨F2,G2,C3,rfl,hmA20,u.endFresh t0⟩⟩
 exact λt=>t.elim
theorem Rc (hH:H.le w0) {p1:Int} {r:Bool} (hm:Z8u N p1=some r):Tot Tryz.prog 117 #[.int .u8 p1] w0 (λv w'=>v=.bool r∧Keep Nil w0 w'):=by
 unfold Z8u at hm
 refine fn0 func117 rfl ntmps117 rfl rfl λa o=>?_
 have u:St w0 Nil [H] [] w0:=start1 hH
 refine th<|rg<|qa o rfl λo=>re<|tn<|th<|rg<|qm o rfl λo=>qv o (Bi o rfl rfl) λo=>qm o rfl λo=>gr (Fk:=[(0,.int .u8 p1),(8,.bool ((decide (97≤p1)) && (decide (p1≤122))))]) 5 3 o u ?_ ?_ ?_
 intro hb o key
 exact qg o (Ab o rfl) λo=>qg o (Cs o rfl rfl) λo=>qk o (Ad o rfl rfl) key u hb
 intro hb o key
 iterate 2 refine qn o λo=>?_
 exact qk o (Ae o rfl rfl) key u hb
 intro a w o u
 refine qm o rfl λo=>gr (Fk:=[(12,.bool (((decide (97≤p1)) && (decide (p1≤122))) || (decide (p1=95))))]) 9 3 o u ?_ ?_ ?_
 intro hb o key
 iterate 2 refine qn o λo=>?_
 exact qk o (Ad o rfl rfl) key u hb
 intro hb o key
 exact qg o (Ab o rfl) λo=>qg o (Al o rfl rfl) λo=>qk o (Ae o rfl rfl) key u hb
 intro a w o u
 refine qa o rfl λo=>re<|tn<|wr<|?_
 obtain rfl:=si hm
 exact r1 o results117 rfl ⟨rfl,u.keep⟩
theorem JaW (hH:H.le w0) (hT:Tab H)  {r:(List (Str×Bool))} (hm:Z8r N  = some r):Tot Tryz.prog 153 #[] w0 (λv w'=>∃ (m0:Nat) (l0:List (Str×Value×Nat)) (c0:Nat),v=.map (some m0)∧MRel Value.bool l0 r∧Fresh w0 (Cf kS m0 l0 c0) w'):=by
 unfold Z8r at hm
 refine fn0 func153 rfl ntmps153 rfl rfl λa o=>?_
 have u:St w0 Nil [H] [] w0:=start1 hH
 refine th<|rg<|qa o rfl λo=>re<|tn<|th<|rg<|ls<|Ux o rfl u λmz1 w a u o=>?_
 replace u:=St.gmap0 (kv:=kS) u
 have X0:MRel (κ:=Str) (β:=Bool) Value.bool [] []:=MRel.nil _
 refine qa o rfl λo=>re<|tn<|th<|th<|?_
 obtain ⟨D0,h4,hm⟩:=bs hm
 refine rg<|ls<|c1 o rfl Tryz.call165 (Vi (Ai _) (Tab.mono hT (St.up u)) h4) ⟨rfl,rfl,trivial⟩ (λv w a hR o=>?_)
 obtain ⟨T0,M0,Y0,rfl,G0,hk⟩:=hR
 replace u:=u.fresh hk
 replace G0:=G0 H
 refine qv o (Ak (α:=Str) (xs:=D0) o runUnderlying36 rfl) λo=>qm o rfl λo=>re<|tn<|Au (λa w=>∃ (O0:(List (Str×Bool))) (I0:List (Str×Value×Nat)) (P0:Nat),Z8s O0=some r∧Fr 15 [(1,.map (some mz1))] a∧St w0 Nil [H] [Cf kS mz1 I0 P0] w∧MRel Value.bool I0 O0) ?_ ?_
 replace u:=u.pk [1,0] rfl
 refine wb<|lp (α:=Nat×(List (Str×Bool))×Int) (λ(gh:Nat×(List (Str×Bool))×Int) a w=>match gh with | (E0,C0,J0)=>∃ (K0:List (Str×Value×Nat)) (Q0:Nat),(Z8t N Z8s D0) E0 C0 J0=some r∧Fr 15 [(1,.map (some mz1)),(5,SL T0 D0 M0),(6,i6 (D0.length:Int)),(7,i6 J0)] a∧St w0 Nil [H] [Cf kS mz1 K0 Q0,sla 9 1 T0 D0.length M0 Y0] w∧MRel Value.bool K0 C0) (λgh=>gh.1) (N,[],0) ⟨[],0,hm,o.hs,u,X0⟩ ?_
 rintro ⟨E0,C0,J0⟩ a w ⟨K0,Q0,hm,o,u,hmB4⟩
 obtain _ | E0:=E0
 simp [Z8t] at hm
 rw [Z8t] at hm
 refine th<|rg<|qv o (Aq o rfl rfl) λo=>re<|?_
 rcases bip hm with ⟨F0,hm⟩ | ⟨F0,hm⟩
 refine tn<|th<|ctv o rfl F0<|wk<|tn<|th<|wb<|th<|?_
 obtain ⟨R0,S0,hm⟩:=bs hm
 have U0:=Rd.oaI (u.rdO t1) G0 (by decide) S0
 obtain ⟨j0,n0,V0⟩:=Rows.getI G0 S0
 obtain rfl:j0=[Ac R0]:=n0
 refine rg<|qv o (An o Tryz.runUnderlying36 Tryz.sizeOf9 rfl rfl S0 U0) λo=>qv o (Ag o isAgg9 rfl (u.ld.elO t1 (V0 0 _ rfl))) λo=>qa o rfl λo=>re<|tn<|rg<|qm o rfl λo=>qm o rfl λo=>ls<|Wl (ev:=Value.bool) (m:=C0) (k:=R0) (v:=true) o u Nh runUnderlying163 rfl rfl rfl t0 hmB4 λu0 B1 w W0 hU=>?_
 replace u:=hU _ .head
 refine re<|bn<|tn<|rg<|qv o (Ap o rfl rfl) λo=>qm o rfl λo=>re<|tn<|?_
 exact ⟨(E0,(Ih R0 true C0),(IntKind.i64.wrap (J0+1))),⟨u0,B1,hm,o.hs,u,W0⟩,Nat.lt_succ_self _⟩
 refine tn<|th<|cfv o rfl F0<|we<|tx<|tx<|bx<|tn<|?_
 replace u:=u.pk [0] rfl
 exact ⟨C0,K0,Q0,hm,o.has ⟨rfl,trivial⟩,u,hmB4⟩
 rintro a w ⟨O0,I0,P0,hm,o,u,hmA4⟩
 unfold Z8s at hm
 refine th<|rg<|qm o rfl λo=>qa o rfl λo=>re<|tn<|wr<|?_
 obtain rfl:=si hm
 exact r1 o results153 rfl ⟨mz1,I0,P0,rfl,hmA4,u.endFresh t0⟩
theorem JbQ (hH:H.le w0) (hT:Tab H) {p1:Str} {r:Bool} (hm:Z8m N p1=some r):Tot Tryz.prog 118 #[Ac p1] w0 (λv w'=>v=.bool r∧Keep Nil w0 w'):=by
 unfold Z8m at hm
 refine fn0 func118 rfl ntmps118 rfl rfl λa o=>?_
 have u:St w0 Nil [H] [] w0:=start1 hH
 refine th<|rg<|qa o rfl λo=>re<|tn<|th<|?_
 obtain ⟨C0,h3,hm⟩:=bs hm
 refine rg<|ls<|c1 o rfl Tryz.call153 (JaW (Ai _) (Tab.mono hT (St.up u)) h3) trivial (λv w a hR o=>?_)
 obtain ⟨mz4,l5,cz6,rfl,D0,hk⟩:=hR
 replace u:=u.fresh hk
 refine qm o rfl λo=>qv o (Ip (ev:=Value.bool) (dv:=false) (m:=C0) (k:=p1) o Nh runUnderlying163 zeroValue4 (Lds.mapO u.ld t0) rfl rfl D0) λo=>qa o rfl λo=>re<|tn<|wr<|?_
 obtain rfl:=si hm
 exact r1 o results118 rfl ⟨rfl,u.keep⟩
theorem Jcc (hH:H.le w0) {p1:Int} {r:Bool} (hm:Z8q N p1=some r):Tot Tryz.prog 121 #[.int .u8 p1] w0 (λv w'=>v=.bool r∧Keep Nil w0 w'):=by
 unfold Z8q at hm
 refine fn0 func121 rfl ntmps121 rfl rfl λa o=>?_
 have u:St w0 Nil [H] [] w0:=start1 hH
 refine th<|rg<|qa o rfl λo=>re<|tn<|th<|rg<|qm o rfl λo=>qv o (Bi o rfl rfl) λo=>qm o rfl λo=>gr (Fk:=[(8,.bool ((decide (48≤p1)) && (decide (p1≤57))))]) 5 3 o u ?_ ?_ ?_
 intro hb o key
 exact qg o (Ab o rfl) λo=>qg o (Cs o rfl rfl) λo=>qk o (Ad o rfl rfl) key u hb
 intro hb o key
 iterate 2 refine qn o λo=>?_
 exact qk o (Ae o rfl rfl) key u hb
 intro a w o u
 refine qa o rfl λo=>re<|tn<|wr<|?_
 obtain rfl:=si hm
 exact r1 o results121 rfl ⟨rfl,u.keep⟩
theorem JaX (hH:H.le w0) {p1:Int} {r:Bool} (hm:Z8o N p1=some r):Tot Tryz.prog 120 #[.int .u8 p1] w0 (λv w'=>v=.bool r∧Keep Nil w0 w'):=by
 unfold Z8o at hm
 refine fn0 func120 rfl ntmps120 rfl rfl λa o=>?_
 have u:St w0 Nil [H] [] w0:=start1 hH
 refine th<|rg<|qa o rfl λo=>re<|tn<|th<|?_
 obtain ⟨D0,h3,hm⟩:=bs hm
 rcases bit hm with ⟨C0,hm⟩ | ⟨C0,hm⟩
 refine rg<|qm o rfl λo=>ls<|cr o call117 (Rc (Ai _) h3) u λu o=>qv o (As (Ab o rfl) (congrArg Value.bool C0)) λo=>?_
 iterate 2 refine qn o λo=>?_
 refine qv o (Ad o rfl rfl) λo=>qa o rfl λo=>re<|tn<|wr<|?_
 obtain rfl:=si hm
 exact r1 o results120 rfl ⟨rfl,u.keep⟩
 obtain ⟨E0,h6,hm⟩:=bs hm
 refine rg<|qm o rfl λo=>ls<|cr o call117 (Rc (Ai _) h3) u λu o=>qv o (As (Ab o rfl) (congrArg Value.bool C0)) λo=>qg o (Ab o rfl) λo=>ls<|gy o rfl rfl<|cr o call121 (Jcc (Ai _) h6) u λu o=>qv o (Ae o rfl rfl) λo=>qa o rfl λo=>re<|tn<|wr<|?_
 obtain rfl:=si hm
 exact r1 o results120 rfl ⟨rfl,u.keep⟩
theorem Jb0 (hH:H.le w0) {p1:Str} {r:Int} (hm:Z8v N p1=some r):Tot Tryz.prog 119 #[Ac p1,.func (.func 120) #[] #[]] w0 (λv w'=>v=i6 r∧Keep Nil w0 w'):=by
 unfold Z8v at hm
 refine fn0 func119 rfl ntmps119 rfl rfl λa o=>?_
 have u:St w0 Nil [H] [] w0:=start1 hH
 refine th<|rg<|qa o rfl λo=>re<|tn<|th<|rg<|qa o rfl λo=>re<|tn<|th<|Au (λa w=>∃ (E0:Int),Z8w E0=some r∧Fr 20 [(5,i6 E0)] a∧St w0 Nil [H] [] w) ?_ ?_
 refine wb<|lp (α:=Nat×Int) (λgh a w=>match gh with | (D0,C0)=>(Z8y N Z8w p1) D0 C0=some r∧Fr 20 [(0,Ac p1),(1,.func (.func 120) #[] #[]),(5,i6 C0)] a∧St w0 Nil [H] [] w) (λgh=>gh.1) (N,0) ⟨hm,o.hs,u⟩ ?_
 rintro ⟨D0,C0⟩ a w ⟨hm,o,u⟩
 obtain _ | D0:=D0
 simp [Z8y] at hm
 rw [Z8y] at hm
 refine th<|th<|Au (λa w=>∃ (F0:Bool),(Z8x Z8w (Z8y N Z8w p1 D0) C0) F0=some r∧Fr 20 [(0,Ac p1),(1,.func (.func 120) #[] #[]),(5,i6 C0),(16,.bool F0)] a∧St w0 Nil [H] [] w) ?_ ?_
 rcases bip hm with ⟨G0,hm⟩ | ⟨G0,hm⟩
 obtain ⟨J0,h4,hm⟩:=bs hm
 obtain ⟨K0,h6,hm⟩:=bs hm
 refine rg<|qm o rfl λo=>qm o rfl λo=>qv o (Bp (s:=p1) o runUnderlying9 rfl) λo=>qv o (Aq o rfl rfl) λo=>qv o (As (Ab o rfl) (congrArg Value.bool G0)) λo=>?_
 iterate 3 refine qg o (Ab o rfl) λo=>?_
 refine qg o (Co (s:=p1) o runUnderlying9 rfl rfl h4) λo=>ls<|gy o rfl rfl<|k1 (vs:=[.int .u8 J0]) (caps:=[]) o rfl rfl call120 (JaX (Ai _) h6) ⟨rfl,trivial⟩ rfl (λv w a hR o=>?_)
 obtain ⟨rfl,hk⟩:=hR
 replace u:=u.pass hk
 refine qv o (Ad o rfl rfl) λo=>re<|tn<|?_
 exact ⟨K0,hm,o.hs,u⟩
 refine rg<|qm o rfl λo=>qm o rfl λo=>qv o (Bp (s:=p1) o runUnderlying9 rfl) λo=>qv o (Aq o rfl rfl) λo=>qv o (As (Ab o rfl) (congrArg Value.bool G0)) λo=>?_
 iterate 5 refine qn o λo=>?_
 refine qv o (Ae o rfl rfl) λo=>re<|tn<|?_
 exact ⟨false,hm,o.hs,u⟩
 rintro a w ⟨F0,hm,o,u⟩
 unfold Z8x at hm
 rcases bit hm with ⟨I0,hm⟩ | ⟨I0,hm⟩
 refine ctv o rfl I0<|wk<|tn<|wb<|rg<|qm o rfl λo=>qv o (Ap o rfl rfl) λo=>qa o rfl λo=>re<|bn<|tn<|?_
 exact ⟨(D0,(IntKind.i64.wrap (C0+1))),⟨hm,o.hs,u⟩,Nat.lt_succ_self _⟩
 refine cfv o rfl I0<|we<|tx<|tx<|bx<|tn<|?_
 exact ⟨C0,hm,o.has ⟨rfl,trivial⟩,u⟩
 rintro a w ⟨E0,hm,o,u⟩
 unfold Z8w at hm
 refine th<|rg<|qm o rfl λo=>qa o rfl λo=>re<|tn<|wr<|?_
 obtain rfl:=si hm
 exact r1 o results119 rfl ⟨rfl,u.keep⟩
theorem Kl (hH:H.le w0) (hT:Tab H) {p1:Str} {r:Bool} (hm:Z8n N p1=some r):Tot Tryz.prog 82 #[Ac p1] w0 (λv w'=>v=.bool r∧Keep Nil w0 w'):=by
 unfold Z8n at hm
 refine fn0 func82 rfl ntmps82 rfl rfl λa o=>?_
 have u:St w0 Nil [H] [] w0:=start1 hH
 refine th<|rg<|qa o rfl λo=>re<|tn<|th<|th<|Au (λa w=>∃ (E0:Bool),(Z8p N p1) E0=some r∧Fr 25 [(0,Ac p1),(19,.bool E0)] a∧St w0 Nil [H] [] w) ?_ ?_
 rcases bit hm with ⟨D0,hm⟩ | ⟨D0,hm⟩
 refine rg<|qm o rfl λo=>qv o (Dz (m:=p1) (n:=[]) o rfl rfl) λo=>qm o rfl λo=>gr (Fk:=[(0,Ac p1),(9,.bool ((decide (p1=[])) || (decide (16 < (p1.length:Int)))))]) 5 4 o u ?_ ?_ ?_
 intro hb o key
 iterate 3 refine qn o λo=>?_
 exact qk o (Ad o rfl rfl) key u hb
 intro hb o key
 exact qg o (Ab o rfl) λo=>qg o (Bp (s:=p1) o runUnderlying9 rfl) λo=>qg o (Be o rfl rfl) λo=>qk o (Ae o rfl rfl) key u hb
 intro a w o u
 refine qv o (As (Ab o rfl) (congrArg Value.bool D0)) λo=>?_
 iterate 4 refine qn o λo=>?_
 refine qv o (Ad o rfl rfl) λo=>qm o rfl λo=>?_
 iterate 2 refine qn o λo=>?_
 refine qv o (Ad o rfl rfl) λo=>re<|tn<|?_
 exact ⟨true,hm,o.has ⟨rfl,rfl,trivial⟩,u⟩
 obtain ⟨K0,h4,hm⟩:=bs hm
 obtain ⟨G0,h6,hm⟩:=bs hm
 rcases bit hm with ⟨F0,hm⟩ | ⟨F0,hm⟩
 have F0':(!G0)=false:=by rw [F0];rfl
 obtain ⟨I0,h9,hm⟩:=bs hm
 refine rg<|qm o rfl λo=>qv o (Dz (m:=p1) (n:=[]) o rfl rfl) λo=>qm o rfl λo=>gr (Fk:=[(0,Ac p1),(9,.bool ((decide (p1=[])) || (decide (16 < (p1.length:Int)))))]) 5 4 o u ?_ ?_ ?_
 intro hb o key
 iterate 3 refine qn o λo=>?_
 exact qk o (Ad o rfl rfl) key u hb
 intro hb o key
 exact qg o (Ab o rfl) λo=>qg o (Bp (s:=p1) o runUnderlying9 rfl) λo=>qg o (Be o rfl rfl) λo=>qk o (Ae o rfl rfl) key u hb
 intro a w o u
 refine qv o (As (Ab o rfl) (congrArg Value.bool D0)) λo=>qg o (Ab o rfl) λo=>qg o (Co (s:=p1) o runUnderlying9 rfl rfl h4) λo=>ls<|gy o rfl rfl<|cr o call117 (Rc (Ai _) h6) u λu o=>qg o (Az o rfl) λo=>qv o (Ae o rfl rfl) λo=>qv o (As (Ab o rfl) (congrArg Value.bool F0')) λo=>qg o (Ab o rfl) λo=>ls<|gy o rfl rfl<|cr o call118 (JbQ (Ai _) (Tab.mono hT (St.up u)) h9) u λu o=>qv o (Ae o rfl rfl) λo=>re<|tn<|?_
 exact ⟨I0,hm,o.has ⟨rfl,rfl,trivial⟩,u⟩
 have F0':(!G0)=true:=by rw [F0];rfl
 refine rg<|qm o rfl λo=>qv o (Dz (m:=p1) (n:=[]) o rfl rfl) λo=>qm o rfl λo=>gr (Fk:=[(0,Ac p1),(9,.bool ((decide (p1=[])) || (decide (16 < (p1.length:Int)))))]) 5 4 o u ?_ ?_ ?_
 intro hb o key
 iterate 3 refine qn o λo=>?_
 exact qk o (Ad o rfl rfl) key u hb
 intro hb o key
 exact qg o (Ab o rfl) λo=>qg o (Bp (s:=p1) o runUnderlying9 rfl) λo=>qg o (Be o rfl rfl) λo=>qk o (Ae o rfl rfl) key u hb
 intro a w o u
 refine qv o (As (Ab o rfl) (congrArg Value.bool D0)) λo=>qg o (Ab o rfl) λo=>qg o (Co (s:=p1) o runUnderlying9 rfl rfl h4) λo=>ls<|gy o rfl rfl<|cr o call117 (Rc (Ai _) h6) u λu o=>qg o (Az o rfl) λo=>qv o (Ae o rfl rfl) λo=>qv o (As (Ab o rfl) (congrArg Value.bool F0')) λo=>?_
 iterate 2 refine qn o λo=>?_
 refine qv o (Ad o rfl rfl) λo=>re<|tn<|?_
 exact ⟨true,hm,o.has ⟨rfl,rfl,trivial⟩,u⟩
 rintro a w ⟨E0,hm,o,u⟩
 unfold Z8p at hm
 rcases bit hm with ⟨C0,hm⟩ | ⟨C0,hm⟩
 refine ctv o rfl C0<|th<|rg<|qa o rfl λo=>re<|tn<|wr<|tr<|?_
 obtain rfl:=si hm
 exact r1 o results82 rfl ⟨rfl,u.keep⟩
 refine cfv o rfl C0<|wk<|tn<|th<|?_
 obtain ⟨M0,J0,hm⟩:=bs hm
 refine rg<|qm o rfl λo=>ls<|cr o call119 (Jb0 (Ai _) J0) u λu o=>qm o rfl λo=>qv o (Bp (s:=p1) o runUnderlying9 rfl) λo=>qv o (Al o rfl rfl) λo=>qa o rfl λo=>re<|tn<|wr<|?_
 obtain rfl:=si hm
 exact r1 o results82 rfl ⟨rfl,u.keep⟩
theorem Mv (hH:H.le w0) {p1:Int} {r:Bool} (hm:Z8j N p1=some r):Tot Tryz.prog 86 #[i6 p1] w0 (λv w'=>v=.bool r∧Keep Nil w0 w'):=by
 unfold Z8j at hm
 refine fn0 func86 rfl ntmps86 rfl rfl λa o=>?_
 have u:St w0 Nil [H] [] w0:=start1 hH
 refine th<|rg<|qa o rfl λo=>re<|tn<|th<|rg<|qm o rfl λo=>qv o (Bi o rfl rfl) λo=>qm o rfl λo=>gr (Fk:=[(8,.bool ((decide (0≤p1)) && (decide (p1≤4000))))]) 5 3 o u ?_ ?_ ?_
 intro hb o key
 exact qg o (Ab o rfl) λo=>qg o (Cs o rfl rfl) λo=>qk o (Ad o rfl rfl) key u hb
 intro hb o key
 iterate 2 refine qn o λo=>?_
 exact qk o (Ae o rfl rfl) key u hb
 intro a w o u
 refine qa o rfl λo=>re<|tn<|wr<|?_
 obtain rfl:=si hm
 exact r1 o results86 rfl ⟨rfl,u.keep⟩
theorem Jcm (hH:H.le w0) (hT:Tab H) {p1:api_Cell} {y3:Int} {b2:Nat} (E0:H b2=some (.cells [i6 y3].toArray 3 (0,0))) {r:Bool} (hm:Z8i N p1 y3=some r):Tot Tryz.prog 116 #[.agg #[Ac p1.Name,i6 p1.N,i6 p1.At],PT b2] w0 (λv w'=>v=.bool r∧Keep Nil w0 w'):=by
 unfold Z8i at hm
 refine fn0 func116 rfl ntmps116 rfl rfl λa o=>?_
 have u:St w0 Nil [H] [] w0:=start1 hH
 refine th<|rg<|ls<|Bs (cs:=[Ac p1.Name,i6 p1.N,i6 p1.At].toArray) o rfl u rfl rfl λb5 w a u o=>qa o rfl λo=>re<|tn<|th<|?_
 obtain ⟨C0,h7,hm⟩:=bs hm
 rcases bit hm with ⟨D0,hm⟩ | ⟨D0,hm⟩
 refine rg<|qv o (Af o Ep rfl) λo=>qv o (Ag o isAgg9 rfl (u.ld.cellB t0 rfl)) λo=>ls<|cr o call82 (Kl (Ai _) (Tab.mono hT (St.up u)) h7) u λu o=>qv o (Az o rfl) λo=>qm o rfl λo=>gr (Fk:=[(1,PT b2),(2,PT b5),(12,.bool ((!C0) || (decide (p1.N < 0))))]) 8 4 o u ?_ ?_ ?_
 intro hb o key
 iterate 3 refine qn o λo=>?_
 exact qk o (Ad o rfl rfl) key u hb
 intro hb o key
 exact qg o (Af o Ft rfl) λo=>qg o (Ag o isAgg3 rfl (u.ld.cellB t0 rfl)) λo=>qg o (Aq o rfl rfl) λo=>qk o (Ae o rfl rfl) key u hb
 intro a w o u
 refine qm o rfl λo=>gr (Fk:=[(2,PT b5),(18,.bool (((!C0) || (decide (p1.N < 0))) || (decide (y3 < p1.N))))]) 13 5 o u ?_ ?_ ?_
 intro hb o key
 iterate 4 refine qn o λo=>?_
 exact qk o (Ad o rfl rfl) key u hb
 intro hb o key
 exact qg o (Af o Ft rfl) λo=>qg o (Ag o isAgg3 rfl (u.ld.cellB t0 rfl)) λo=>qg o (Ag o isAgg3 rfl (PH.le.cell (Lds.le u.ld) (Gm E0 rfl))) λo=>qg o (Be o rfl rfl) λo=>qk o (Ae o rfl rfl) key u hb
 intro a w o u
 refine qv o (As (Ab o rfl) (congrArg Value.bool D0)) λo=>?_
 iterate 4 refine qn o λo=>?_
 refine qv o (Ad o rfl rfl) λo=>qa o rfl λo=>re<|tn<|wr<|?_
 obtain rfl:=si hm
 exact r1 o results116 rfl ⟨rfl,u.keep⟩
 obtain ⟨G0,F0,hm⟩:=bs hm
 refine rg<|qv o (Af o Ep rfl) λo=>qv o (Ag o isAgg9 rfl (u.ld.cellB t0 rfl)) λo=>ls<|cr o call82 (Kl (Ai _) (Tab.mono hT (St.up u)) h7) u λu o=>qv o (Az o rfl) λo=>qm o rfl λo=>gr (Fk:=[(1,PT b2),(2,PT b5),(12,.bool ((!C0) || (decide (p1.N < 0))))]) 8 4 o u ?_ ?_ ?_
 intro hb o key
 iterate 3 refine qn o λo=>?_
 exact qk o (Ad o rfl rfl) key u hb
 intro hb o key
 exact qg o (Af o Ft rfl) λo=>qg o (Ag o isAgg3 rfl (u.ld.cellB t0 rfl)) λo=>qg o (Aq o rfl rfl) λo=>qk o (Ae o rfl rfl) key u hb
 intro a w o u
 refine qm o rfl λo=>gr (Fk:=[(2,PT b5),(18,.bool (((!C0) || (decide (p1.N < 0))) || (decide (y3 < p1.N))))]) 13 5 o u ?_ ?_ ?_
 intro hb o key
 iterate 4 refine qn o λo=>?_
 exact qk o (Ad o rfl rfl) key u hb
 intro hb o key
 exact qg o (Af o Ft rfl) λo=>qg o (Ag o isAgg3 rfl (u.ld.cellB t0 rfl)) λo=>qg o (Ag o isAgg3 rfl (PH.le.cell (Lds.le u.ld) (Gm E0 rfl))) λo=>qg o (Be o rfl rfl) λo=>qk o (Ae o rfl rfl) key u hb
 intro a w o u
 refine qv o (As (Ab o rfl) (congrArg Value.bool D0)) λo=>qg o (Af o Jm rfl) λo=>qg o (Ag o isAgg3 rfl (u.ld.cellB t0 rfl)) λo=>ls<|gy o rfl rfl<|cr o call86 (Mv (Ai _) F0) u λu o=>qg o (Az o rfl) λo=>qv o (Ae o rfl rfl) λo=>qa o rfl λo=>re<|tn<|wr<|?_
 obtain rfl:=si hm
 exact r1 o results116 rfl ⟨rfl,u.keep⟩
theorem JbL (hH:H.le w0) (hT:Tab H) {G0:Option Addr} {D0:Nat} {p1:(List api_Cell)} (_:p1.length≤D0) (M0:SR H G0 p1) {y7:Int} {b6:Nat} (P0:H b6=some (.cells [i6 y7].toArray 3 (0,0))) {r:Int} (hm:Z9l N p1 y7=some r):Tot Tryz.prog 152 #[SL G0 p1 D0,.func (.func 116) #[] #[PT b6]] w0 (λv w'=>v=i6 r∧Keep Nil w0 w'):=by
 unfold Z9l at hm
 refine fn0 func152 rfl ntmps152 rfl rfl λa o=>?_
 have u:St w0 Nil [H] [] w0:=start1 hH
 refine th<|rg<|qa o rfl λo=>re<|tn<|th<|th<|rg<|qm o rfl λo=>qv o (Ak (α:=api_Cell) (xs:=p1) o runUnderlying23 rfl) λo=>qm o rfl λo=>re<|tn<|Au (λa w=>Z9m=some r∧Fr 19 [] a∧St w0 Nil [H] [] w) ?_ ?_
 refine wb<|lp (α:=Nat×Int) (λgh a w=>match gh with | (C0,F0)=>(Z9n N Z9m p1 y7) C0 F0=some r∧Fr 19 [(0,SL G0 p1 D0),(1,.func (.func 116) #[] #[PT b6]),(7,i6 (p1.length:Int)),(8,i6 F0)] a∧St w0 Nil [H] [] w) (λgh=>gh.1) (N,0) ⟨hm,o.hs,u⟩ ?_
 rintro ⟨C0,F0⟩ a w ⟨hm,o,u⟩
 obtain _ | C0:=C0
 simp [Z9n] at hm
 rw [Z9n] at hm
 refine th<|rg<|qv o (Aq o rfl rfl) λo=>re<|?_
 rcases bip hm with ⟨I0,hm⟩ | ⟨I0,hm⟩
 refine tn<|th<|ctv o rfl I0<|wk<|tn<|th<|wb<|th<|rg<|qm o rfl λo=>qa o rfl λo=>re<|tn<|th<|?_
 obtain ⟨J0,K0,hm⟩:=bs hm
 obtain ⟨S0,Q0,O0⟩:=SR.get M0 K0
 obtain rfl:=Bj Q0
 obtain ⟨T0,R0,hm⟩:=bs hm
 refine rg<|qm o rfl λo=>?_
 iterate 2 refine qm o rfl λo=>?_
 refine qv o (An o runUnderlying23 sizeOf53 rfl rfl K0 (SR.oaI M0 (by decide) K0)) λo=>qv o (Ay o isAgg53 sizeOf53 rfl rfl (λj v hj=>PH.le.cell (Lds.le u.ld) (O0 j v hj))) λo=>ls<|k1 (vs:=[.agg #[Ac J0.Name,i6 J0.N,i6 J0.At]]) (caps:=[PT b6]) o rfl rfl call116 (Jcm (Ai _) (Tab.mono hT (St.up u)) (St.up u _ _ P0) R0) ⟨rfl,trivial⟩ rfl (λv w a hR o=>?_)
 obtain ⟨rfl,hk⟩:=hR
 replace u:=u.pass hk
 refine re<|?_
 rcases bit hm with ⟨E0,hm⟩ | ⟨E0,hm⟩
 refine tn<|ctv o rfl E0<|th<|rg<|qm o rfl λo=>qa o rfl λo=>re<|tn<|wr<|br<|tr<|tr<|br<|tr<|?_
 obtain rfl:=si hm
 exact r1 o results152 rfl ⟨rfl,u.keep⟩
 refine tn<|cfv o rfl E0<|wk<|bn<|tn<|rg<|qv o (Ap o rfl rfl) λo=>qm o rfl λo=>re<|tn<|?_
 exact ⟨(C0,(IntKind.i64.wrap (F0+1))),⟨hm,o.hs,u⟩,Nat.lt_succ_self _⟩
 refine tn<|th<|cfv o rfl I0<|we<|tx<|tx<|bx<|tn<|?_
 exact ⟨hm,o.has trivial,u⟩
 rintro a w ⟨hm,o,u⟩
 unfold Z9m at hm
 refine th<|rg<|qa o rfl λo=>re<|tn<|wr<|?_
 obtain rfl:=si hm
 exact r1 o results152 rfl ⟨rfl,u.keep⟩
theorem Jca (hH:H.le w0) (hT:Tab H) {D0:Option Addr} {C0:Nat} {p1:(List api_Cell)} (E0:p1.length≤C0) (F0:SR H D0 p1) {y7:Int} {b6:Nat} (G0:H b6=some (.cells [i6 y7].toArray 3 (0,0))) {r:Bool} (hm:Z96 N p1 y7=some r):Tot Tryz.prog 115 #[SL D0 p1 C0,.func (.func 116) #[] #[PT b6]] w0 (λv w'=>v=.bool r∧Keep Nil w0 w'):=by
 unfold Z96 at hm
 refine fn0 func115 rfl ntmps115 rfl rfl λa o=>?_
 have u:St w0 Nil [H] [] w0:=start1 hH
 refine th<|rg<|qa o rfl λo=>re<|tn<|th<|?_
 obtain ⟨J0,I0,hm⟩:=bs hm
 refine rg<|qm o rfl λo=>qm o rfl λo=>ls<|cr o call152 (JbL (Ai _) (Tab.mono hT (St.up u)) E0 (St.srH u F0) (St.up u _ _ G0) I0) u λu o=>qv o (Bi o rfl rfl) λo=>qa o rfl λo=>re<|tn<|wr<|?_
 obtain rfl:=si hm
 exact r1 o results115 rfl ⟨rfl,u.keep⟩
theorem Uv (hH:H.le w0) (hT:Tab H) {D0:Option Addr} {C0:Nat} {p1:(List api_Cell)} (E0:p1.length≤C0) (F0:SR H D0 p1) {p6:Int} {r:Bool} (hm:Z8h N p1 p6=some r):Tot Tryz.prog 80 #[SL D0 p1 C0,i6 p6] w0 (λv w'=>v=.bool r∧Keep Nil w0 w'):=by
 unfold Z8h at hm
 refine fn0 func80 rfl ntmps80 rfl rfl λa o=>?_
 have u:St w0 Nil [H] [] w0:=start1 hH
 refine th<|rg<|ls<|Bs (cs:=[i6 p6].toArray) o rfl u rfl rfl λb7 w a u o=>qa o rfl λo=>re<|tn<|th<|?_
 obtain ⟨G0,h9,hm⟩:=bs hm
 refine rg<|qm o rfl λo=>qv o (Pf (vs:=[PT b7]) o ⟨rfl,trivial⟩) λo=>ls<|cr o call115 (Jca (Ai _) (Tab.mono hT (St.up u)) E0 (St.srH u F0) (St.blkO u t0) h9) u λu o=>qv o (Az o rfl) λo=>qa o rfl λo=>re<|tn<|wr<|?_
 obtain rfl:=si hm
 exact r1 o results80 rfl ⟨rfl,u.keep⟩
theorem Jb5 (hH:H.le w0) (hT:Tab H) {E0:Option Addr} {C0:Nat} {p1:(List api_Cell)} (F0:p1.length≤C0) (G0:SR H E0 p1) {r:Bool} (hm:Z8c N p1=some r):Tot Tryz.prog 79 #[SL E0 p1 C0] w0 (λv w'=>v=.bool r∧Keep Nil w0 w'):=by
 unfold Z8c at hm
 refine fn0 func79 rfl ntmps79 rfl rfl λa o=>?_
 have u:St w0 Nil [H] [] w0:=start1 hH
 refine th<|rg<|qa o rfl λo=>re<|tn<|th<|?_
 rcases bip hm with ⟨D0,hm⟩ | ⟨D0,hm⟩
 refine rg<|qm o rfl λo=>qv o (Ak (α:=api_Cell) (xs:=p1) o runUnderlying23 rfl) λo=>qv o (Al o rfl rfl) λo=>qv o (As (Ab o rfl) (congrArg Value.bool D0)) λo=>?_
 iterate 3 refine qn o λo=>?_
 refine qv o (Ad o rfl rfl) λo=>qa o rfl λo=>re<|tn<|wr<|?_
 obtain rfl:=si hm
 exact r1 o results79 rfl ⟨rfl,u.keep⟩
 obtain ⟨I0,h8,hm⟩:=bs hm
 refine rg<|qm o rfl λo=>qv o (Ak (α:=api_Cell) (xs:=p1) o runUnderlying23 rfl) λo=>qv o (Al o rfl rfl) λo=>qv o (As (Ab o rfl) (congrArg Value.bool D0)) λo=>qg o (Ab o rfl) λo=>ls<|gy o rfl rfl<|cr o call80 (Uv (Ai _) (Tab.mono hT (St.up u)) F0 (St.srH u G0) h8) u λu o=>qg o (Az o rfl) λo=>qv o (Ae o rfl rfl) λo=>qa o rfl λo=>re<|tn<|wr<|?_
 obtain rfl:=si hm
 exact r1 o results79 rfl ⟨rfl,u.keep⟩
theorem Jcn (hH:H.le w0) (hT:Tab H) {G0:Option Addr} {D0:Nat} {p1:(List (List api_Cell))} (_:p1.length≤D0) (K0:SR H G0 p1) {r:Int} (hm:Z9f N p1=some r):Tot Tryz.prog 129 #[SL G0 p1 D0,.func (.func 79) #[] #[]] w0 (λv w'=>v=i6 r∧Keep Nil w0 w'):=by
 unfold Z9f at hm
 refine fn0 func129 rfl ntmps129 rfl rfl λa o=>?_
 have u:St w0 Nil [H] [] w0:=start1 hH
 refine th<|rg<|qa o rfl λo=>re<|tn<|th<|th<|rg<|qm o rfl λo=>qv o (Ak (α:=(List api_Cell)) (xs:=p1) o runUnderlying22 rfl) λo=>qm o rfl λo=>re<|tn<|Au (λa w=>Z9g=some r∧Fr 19 [] a∧St w0 Nil [H] [] w) ?_ ?_
 refine wb<|lp (α:=Nat×Int) (λgh a w=>match gh with | (C0,F0)=>(Z9h N Z9g p1) C0 F0=some r∧Fr 19 [(0,SL G0 p1 D0),(1,.func (.func 79) #[] #[]),(7,i6 (p1.length:Int)),(8,i6 F0)] a∧St w0 Nil [H] [] w) (λgh=>gh.1) (N,0) ⟨hm,o.hs,u⟩ ?_
 rintro ⟨C0,F0⟩ a w ⟨hm,o,u⟩
 obtain _ | C0:=C0
 simp [Z9h] at hm
 rw [Z9h] at hm
 refine th<|rg<|qv o (Aq o rfl rfl) λo=>re<|?_
 rcases bip hm with ⟨I0,hm⟩ | ⟨I0,hm⟩
 refine tn<|th<|ctv o rfl I0<|wk<|tn<|th<|wb<|th<|rg<|qm o rfl λo=>qa o rfl λo=>re<|tn<|th<|?_
 obtain ⟨R0,h8,hm⟩:=bs hm
 obtain ⟨cz9,S0,M0⟩:=SR.get K0 h8
 obtain ⟨O0,J0,rfl,P0,Q0⟩:=S0
 obtain ⟨U0,T0,hm⟩:=bs hm
 refine rg<|qm o rfl λo=>?_
 iterate 2 refine qm o rfl λo=>?_
 refine qv o (An o runUnderlying22 sizeOf23 rfl rfl h8 (SR.oaI K0 (by decide) h8)) λo=>qv o (Ag o isAgg23 rfl (PH.le.cell (Lds.le u.ld) (M0 0 _ rfl))) λo=>ls<|k1 (vs:=[SL O0 R0 J0]) (caps:=[]) o rfl rfl call79 (Jb5 (Ai _) (Tab.mono hT (St.up u)) P0 (St.srH u Q0) T0) ⟨rfl,trivial⟩ rfl (λv w a hR o=>?_)
 obtain ⟨rfl,hk⟩:=hR
 replace u:=u.pass hk
 refine re<|?_
 rcases bit hm with ⟨E0,hm⟩ | ⟨E0,hm⟩
 refine tn<|ctv o rfl E0<|th<|rg<|qm o rfl λo=>qa o rfl λo=>re<|tn<|wr<|br<|tr<|tr<|br<|tr<|?_
 obtain rfl:=si hm
 exact r1 o results129 rfl ⟨rfl,u.keep⟩
 refine tn<|cfv o rfl E0<|wk<|bn<|tn<|rg<|qv o (Ap o rfl rfl) λo=>qm o rfl λo=>re<|tn<|?_
 exact ⟨(C0,(IntKind.i64.wrap (F0+1))),⟨hm,o.hs,u⟩,Nat.lt_succ_self _⟩
 refine tn<|th<|cfv o rfl I0<|we<|tx<|tx<|bx<|tn<|?_
 exact ⟨hm,o.has trivial,u⟩
 rintro a w ⟨hm,o,u⟩
 unfold Z9g at hm
 refine th<|rg<|qa o rfl λo=>re<|tn<|wr<|?_
 obtain rfl:=si hm
 exact r1 o results129 rfl ⟨rfl,u.keep⟩
theorem Jbr (hH:H.le w0) (hT:Tab H) {D0:Option Addr} {C0:Nat} {p1:(List (List api_Cell))} (E0:p1.length≤C0) (F0:SR H D0 p1) {r:Bool} (hm:Z94 N p1=some r):Tot Tryz.prog 88 #[SL D0 p1 C0,.func (.func 79) #[] #[]] w0 (λv w'=>v=.bool r∧Keep Nil w0 w'):=by
 unfold Z94 at hm
 refine fn0 func88 rfl ntmps88 rfl rfl λa o=>?_
 have u:St w0 Nil [H] [] w0:=start1 hH
 refine th<|rg<|qa o rfl λo=>re<|tn<|th<|?_
 obtain ⟨G0,h7,hm⟩:=bs hm
 refine rg<|qm o rfl λo=>qm o rfl λo=>ls<|cr o call129 (Jcn (Ai _) (Tab.mono hT (St.up u)) E0 (St.srH u F0) h7) u λu o=>qv o (Bi o rfl rfl) λo=>qa o rfl λo=>re<|tn<|wr<|?_
 obtain rfl:=si hm
 exact r1 o results88 rfl ⟨rfl,u.keep⟩
theorem Jbe (hH:H.le w0) (hT:Tab H) {p1:Str} {r:Bool} (hm:Z8l N p1=some r):Tot Tryz.prog 122 #[Ac p1] w0 (λv w'=>v=.bool r∧Keep Nil w0 w'):=by
 unfold Z8l at hm
 refine fn0 func122 rfl ntmps122 rfl rfl λa o=>?_
 have u:St w0 Nil [H] [] w0:=start1 hH
 refine th<|rg<|qa o rfl λo=>re<|tn<|th<|?_
 obtain ⟨C0,h3,hm⟩:=bs hm
 refine rg<|qm o rfl λo=>ls<|cr o call82 (Kl (Ai _) (Tab.mono hT (St.up u)) h3) u λu o=>qv o (Az o rfl) λo=>qa o rfl λo=>re<|tn<|wr<|?_
 obtain rfl:=si hm
 exact r1 o results122 rfl ⟨rfl,u.keep⟩
theorem Jbs (hH:H.le w0) (hT:Tab H) {G0:Option Addr} {D0:Nat} {p1:(List Str)} (_:p1.length≤D0) (J0:SR H G0 p1) {r:Int} (hm:Za6 N p1=some r):Tot Tryz.prog 154 #[SL G0 p1 D0,.func (.func 122) #[] #[]] w0 (λv w'=>v=i6 r∧Keep Nil w0 w'):=by
 unfold Za6 at hm
 refine fn0 func154 rfl ntmps154 rfl rfl λa o=>?_
 have u:St w0 Nil [H] [] w0:=start1 hH
 refine th<|rg<|qa o rfl λo=>re<|tn<|th<|th<|rg<|qm o rfl λo=>qv o (Ak (α:=Str) (xs:=p1) o runUnderlying36 rfl) λo=>qm o rfl λo=>re<|tn<|Au (λa w=>Za7=some r∧Fr 19 [] a∧St w0 Nil [H] [] w) ?_ ?_
 refine wb<|lp (α:=Nat×Int) (λgh a w=>match gh with | (C0,F0)=>(Za8 N Za7 p1) C0 F0=some r∧Fr 19 [(0,SL G0 p1 D0),(1,.func (.func 122) #[] #[]),(7,i6 (p1.length:Int)),(8,i6 F0)] a∧St w0 Nil [H] [] w) (λgh=>gh.1) (N,0) ⟨hm,o.hs,u⟩ ?_
 rintro ⟨C0,F0⟩ a w ⟨hm,o,u⟩
 obtain _ | C0:=C0
 simp [Za8] at hm
 rw [Za8] at hm
 refine th<|rg<|qv o (Aq o rfl rfl) λo=>re<|?_
 rcases bip hm with ⟨I0,hm⟩ | ⟨I0,hm⟩
 refine tn<|th<|ctv o rfl I0<|wk<|tn<|th<|wb<|th<|rg<|qm o rfl λo=>qa o rfl λo=>re<|tn<|th<|?_
 obtain ⟨K0,h8,hm⟩:=bs hm
 obtain ⟨cz9,O0,M0⟩:=SR.get J0 h8
 obtain rfl:cz9=[Ac K0]:=O0
 obtain ⟨Q0,P0,hm⟩:=bs hm
 refine rg<|qm o rfl λo=>?_
 iterate 2 refine qm o rfl λo=>?_
 refine qv o (An o runUnderlying36 sizeOf9 rfl rfl h8 (SR.oaI J0 (by decide) h8)) λo=>qv o (Ag o isAgg9 rfl (PH.le.cell (Lds.le u.ld) (M0 0 _ rfl))) λo=>ls<|k1 (vs:=[Ac K0]) (caps:=[]) o rfl rfl call122 (Jbe (Ai _) (Tab.mono hT (St.up u)) P0) ⟨rfl,trivial⟩ rfl (λv w a hR o=>?_)
 obtain ⟨rfl,hk⟩:=hR
 replace u:=u.pass hk
 refine re<|?_
 rcases bit hm with ⟨E0,hm⟩ | ⟨E0,hm⟩
 refine tn<|ctv o rfl E0<|th<|rg<|qm o rfl λo=>qa o rfl λo=>re<|tn<|wr<|br<|tr<|tr<|br<|tr<|?_
 obtain rfl:=si hm
 exact r1 o results154 rfl ⟨rfl,u.keep⟩
 refine tn<|cfv o rfl E0<|wk<|bn<|tn<|rg<|qv o (Ap o rfl rfl) λo=>qm o rfl λo=>re<|tn<|?_
 exact ⟨(C0,(IntKind.i64.wrap (F0+1))),⟨hm,o.hs,u⟩,Nat.lt_succ_self _⟩
 refine tn<|th<|cfv o rfl I0<|we<|tx<|tx<|bx<|tn<|?_
 exact ⟨hm,o.has trivial,u⟩
 rintro a w ⟨hm,o,u⟩
 unfold Za7 at hm
 refine th<|rg<|qa o rfl λo=>re<|tn<|wr<|?_
 obtain rfl:=si hm
 exact r1 o results154 rfl ⟨rfl,u.keep⟩
theorem Yc (hH:H.le w0) (hT:Tab H) {D0:Option Addr} {C0:Nat} {p1:(List Str)} (E0:p1.length≤C0) (F0:SR H D0 p1) {r:Bool} (hm:Z9d N p1=some r):Tot Tryz.prog 123 #[SL D0 p1 C0,.func (.func 122) #[] #[]] w0 (λv w'=>v=.bool r∧Keep Nil w0 w'):=by
 unfold Z9d at hm
 refine fn0 func123 rfl ntmps123 rfl rfl λa o=>?_
 have u:St w0 Nil [H] [] w0:=start1 hH
 refine th<|rg<|qa o rfl λo=>re<|tn<|th<|?_
 obtain ⟨G0,h7,hm⟩:=bs hm
 refine rg<|qm o rfl λo=>qm o rfl λo=>ls<|cr o call154 (Jbs (Ai _) (Tab.mono hT (St.up u)) E0 (St.srH u F0) h7) u λu o=>qv o (Bi o rfl rfl) λo=>qa o rfl λo=>re<|tn<|wr<|?_
 obtain rfl:=si hm
 exact r1 o results123 rfl ⟨rfl,u.keep⟩
theorem Jcp (hH:H.le w0)  {r:(Arr 15 Str)} (hm:Zan N  = some r):Tot Tryz.prog 163 #[] w0 (λv w'=>∃ (H':PH) (cs0:List Value),v=.agg cs0.toArray∧Enc.rep H' cs0 r∧Ext w0 H H'∧H'.le w'∧Keep Nil w0 w'):=by
 unfold Zan at hm
 refine fn0 func163 rfl ntmps163 rfl rfl λa o=>?_
 have u:St w0 Nil [H] [] w0:=start1 hH
 refine th<|rg<|ls<|Aw (cs:=[Ac [],Ac [],Ac [],Ac [],Ac [],Ac [],Ac [],Ac [],Ac [],Ac [],Ac [],Ac [],Ac [],Ac [],Ac []].toArray) o rfl u Tryz.zeroValue176 rfl λb1 w a u o=>re<|tn<|th<|rg<|qv o (Bu [Ac [114,101],Ac [114,110],Ac [110,101],Ac [114,110,101,102],Ac [110],Ac [110],Ac [110],Ac [110],Ac [101,98],Ac [107,98],Ac [101]] [Ac [],Ac [114,101],Ac [114,110],Ac [110,101],Ac [114,110,101,102],Ac [110],Ac [110],Ac [],Ac [],Ac [110],Ac [110],Ac [101,98],Ac [107,98],Ac [],Ac [101]] o ⟨rfl,rfl,rfl,rfl,rfl,rfl,rfl,rfl,rfl,rfl,rfl,trivial⟩ (λw=>by kernel_rfl)) λo=>ls<|Ba o u sizeOf176 rfl rfl rfl rfl (Am rfl) .head λw u=>re<|tn<|wr<|?_
 obtain rfl:=si hm
 exact r1c (vs:=[Ac [],Ac [114,101],Ac [114,110],Ac [110,101],Ac [114,110,101,102],Ac [110],Ac [110],Ac [],Ac [],Ac [110],Ac [110],Ac [101,98],Ac [107,98],Ac [],Ac [101]]) (.inl rfl) o results163 rfl isAgg176 sizeOf176 rfl (u.ld.cellsB t0) ⟨H,_,rfl,(show Enc.rep (α:=(Arr 15 Str)) H [Ac [],Ac [114,101],Ac [114,110],Ac [110,101],Ac [114,110,101,102],Ac [110],Ac [110],Ac [],Ac [],Ac [110],Ac [110],Ac [101,98],Ac [107,98],Ac [],Ac [101]] (⟨[[],[114,101],[114,110],[110,101],[114,110,101,102],[110],[110],[],[],[110],[110],[101,98],[107,98],[],[101]],rfl⟩:(Arr 15 Str)) from (.cons (c:=[Ac []]) rfl (.cons (c:=[Ac [114,101]]) rfl (.cons (c:=[Ac [114,110]]) rfl (.cons (c:=[Ac [110,101]]) rfl (.cons (c:=[Ac [114,110,101,102]]) rfl (.cons (c:=[Ac [110]]) rfl (.cons (c:=[Ac [110]]) rfl (.cons (c:=[Ac []]) rfl (.cons (c:=[Ac []]) rfl (.cons (c:=[Ac [110]]) rfl (.cons (c:=[Ac [110]]) rfl (.cons (c:=[Ac [101,98]]) rfl (.cons (c:=[Ac [107,98]]) rfl (.cons (c:=[Ac []]) rfl (.cons (c:=[Ac [101]]) rfl .nil)))))))))))))))),(Ext.refl _ _),(St.le u),u.keep⟩
theorem JbZ (hH:H.le w0) {p1:Int} {r:Str} (hm:Zaf N p1=some r):Tot Tryz.prog 145 #[i6 p1] w0 (λv w'=>v=Ac r∧Keep Nil w0 w'):=by
 unfold Zaf at hm
 refine fn0 func145 rfl ntmps145 rfl rfl λa o=>?_
 have u:St w0 Nil [H] [] w0:=start1 hH
 refine th<|rg<|qa o rfl λo=>re<|tn<|th<|th<|rg<|qm o rfl λo=>qv o (Aq o rfl rfl) λo=>qm o rfl λo=>gr (Fk:=[(0,i6 p1),(8,.bool ((decide (p1 < 0)) || (decide (15≤p1))))]) 5 3 o u ?_ ?_ ?_
 intro hb o key
 iterate 2 refine qn o λo=>?_
 exact qk o (Ad o rfl rfl) key u hb
 intro hb o key
 exact qg o (Ab o rfl) λo=>qg o (Bi o rfl rfl) λo=>qk o (Ae o rfl rfl) key u hb
 intro a w o u
 refine re<|?_
 rcases bit hm with ⟨C0,hm⟩ | ⟨C0,hm⟩
 refine tn<|ctv o rfl C0<|th<|rg<|qa o rfl λo=>re<|tn<|wr<|tr<|?_
 obtain rfl:=si hm
 exact r1 o results145 rfl ⟨rfl,u.keep⟩
 refine tn<|cfv o rfl C0<|wk<|tn<|th<|?_
 obtain ⟨E0,h4,hm⟩:=bs hm
 obtain ⟨J0,F0,hm⟩:=bs hm
 refine rg<|ls<|c1 o rfl Tryz.call163 (Jcp (St.le u) h4) trivial (λv w a hR o=>?_)
 obtain ⟨H8,cs9,rfl,K0,D0,M0,hk⟩:=hR
 obtain ⟨u,D0⟩:=And.intro (St.passH u hk D0 M0) (St.extc u D0)
 have G0:Rows H8 cs9 E0.l:=K0
 refine qm o rfl λo=>?_
 obtain ⟨O0,P0,I0⟩:=Rows.getI G0 F0
 obtain rfl:O0=[Ac J0]:=P0
 refine qv o (JbS o runUnderlying176 sizeOf9 isAgg9 rfl rfl E0.h F0 (I0 0 _ rfl)) λo=>qa o rfl λo=>re<|tn<|wr<|?_
 obtain rfl:=si hm
 exact r1 o results145 rfl ⟨rfl,u.keep⟩
theorem Gv (hH:H.le w0) (hT:Tab H) {p1:Str} {y3:Str} {b2:Nat} (C0:H b2=some (.cells [Ac y3].toArray 9 (0,0))) {r:Bool} (hm:Zap N p1 y3=some r):Tot Tryz.prog 146 #[Ac p1,PT b2] w0 (λv w'=>v=.bool r∧Keep Nil w0 w'):=by
 unfold Zap at hm
 refine fn0 func146 rfl ntmps146 rfl rfl λa o=>?_
 have u:St w0 Nil [H] [] w0:=start1 hH
 refine th<|rg<|qa o rfl λo=>re<|tn<|th<|?_
 obtain ⟨D0,h6,hm⟩:=bs hm
 refine rg<|qv o (Ag o Tryz.isAgg9 rfl (PH.le.cell (Lds.le u.ld) (Gm C0 rfl))) λo=>qm o rfl λo=>ls<|cr o call147 (Jc7 (Ai _) (Tab.mono hT (St.up u)) h6) u λu o=>qa o rfl λo=>re<|tn<|wr<|?_
 obtain rfl:=si hm
 exact r1 o results146 rfl ⟨rfl,u.keep⟩
theorem Lw (hH:H.le w0) (hT:Tab H) {p1:Bool} {p2:Str} {r:Bool} (hm:Zaq N p1 p2=some r):Tot Tryz.prog 148 #[.bool p1,Ac p2] w0 (λv w'=>v=.bool r∧Keep Nil w0 w'):=by
 unfold Zaq at hm
 refine fn0 func148 rfl ntmps148 rfl rfl λa o=>?_
 have u:St w0 Nil [H] [] w0:=start1 hH
 refine th<|rg<|qa o rfl λo=>re<|tn<|th<|?_
 rcases bit hm with ⟨C0,hm⟩ | ⟨C0,hm⟩
 obtain ⟨D0,h5,hm⟩:=bs hm
 refine rg<|qm o rfl λo=>qv o (As (Ab o rfl) (congrArg Value.bool C0)) λo=>qg o (Ab o rfl) λo=>ls<|gy o rfl rfl<|cr o call82 (Kl (Ai _) (Tab.mono hT (St.up u)) h5) u λu o=>qv o (Ad o rfl rfl) λo=>qm o rfl λo=>gr (Fk:=[(17,.bool (D0 || ((!p1) && (decide (p2=[])))))]) 10 7 o u ?_ ?_ ?_
 intro hb o key
 iterate 3 refine qn o λo=>?_
 iterate 2 refine ls<|gnu o rfl rfl rfl λa o=>?_
 exact qn o λo=>qk o (Ad o rfl rfl) key u hb
 intro hb o key
 refine qg o (Ab o rfl) λo=>qg o (Az o rfl) λo=>qg o (Ab o rfl) λo=>gr (Fk:=[(10,.bool false),(16,.bool ((!p1) && (decide (p2=[]))))]) 13 3 o u ?_ ?_ ?_
 intro hb o key
 exact qg o (Ab o rfl) λo=>qg o (Dz (m:=p2) (n:=[]) o rfl rfl) λo=>ql o (Ad o rfl rfl) key u hb
 intro hb o key
 iterate 2 refine qn o λo=>?_
 exact ql o (Ae o rfl rfl) key u hb
 intro a w o u
 exact qk o (Ae o rfl rfl) key u hb
 intro a w o u
 refine qa o rfl λo=>re<|tn<|wr<|?_
 obtain rfl:=si hm
 exact r1 o results148 rfl ⟨rfl,u.keep⟩
 refine rg<|qm o rfl λo=>qv o (As (Ab o rfl) (congrArg Value.bool C0)) λo=>?_
 iterate 2 refine qn o λo=>?_
 refine qv o (Ae o rfl rfl) λo=>qm o rfl λo=>qg o (Ab o rfl) λo=>qg o (Az o rfl) λo=>qg o (Ab o rfl) λo=>gr (Fk:=[(10,.bool false),(16,.bool ((!p1) && (decide (p2=[]))))]) 13 3 o u ?_ ?_ ?_
 intro hb o key
 exact qg o (Ab o rfl) λo=>qg o (Dz (m:=p2) (n:=[]) o rfl rfl) λo=>ql o (Ad o rfl rfl) key u hb
 intro hb o key
 iterate 2 refine qn o λo=>?_
 exact ql o (Ae o rfl rfl) key u hb
 intro a w o u
 refine qv o (Ae o rfl rfl) λo=>qa o rfl λo=>re<|tn<|wr<|?_
 obtain rfl:=si hm
 exact r1 o results148 rfl ⟨rfl,u.keep⟩
theorem Jc1 (hH:H.le w0) (hT:Tab H) {p1:api_Node} {r:Bool} (hm:Zc N p1=some r):Tot Tryz.prog 125 #[.agg #[i6 p1.Op,i6 p1.N,Ac p1.Name,i6 p1.At]] w0 (λv w'=>v=.bool r∧Keep Nil w0 w'):=by
 unfold Zc at hm
 refine fn0 func125 rfl ntmps125 rfl rfl λa o=>?_
 have u:St w0 Nil [H] [] w0:=start1 hH
 refine th<|rg<|ls<|Bs (cs:=[i6 p1.Op,i6 p1.N,Ac p1.Name,i6 p1.At].toArray) o rfl u rfl rfl λb2 w a u o=>qa o rfl λo=>re<|tn<|th<|wb<|th<|rg<|qv o (Af o Fc rfl) λo=>qv o (Ag o isAgg3 rfl (u.ld.cellB t0 rfl)) λo=>qv o (Aq o rfl rfl) λo=>qm o rfl λo=>gr (Fk:=[(1,PT b2),(11,.bool ((decide (p1.At < 0)) || (decide (4000 < p1.At))))]) 7 4 o u ?_ ?_ ?_
 intro hb o key
 iterate 3 refine qn o λo=>?_
 exact qk o (Ad o rfl rfl) key u hb
 intro hb o key
 exact qg o (Af o Fc rfl) λo=>qg o (Ag o isAgg3 rfl (u.ld.cellB t0 rfl)) λo=>qg o (Be o rfl rfl) λo=>qk o (Ae o rfl rfl) key u hb
 intro a w o u
 refine qa o rfl λo=>re<|?_
 rcases bit hm with ⟨C0,hm⟩ | ⟨C0,hm⟩
 refine tn<|ctv o rfl C0<|th<|rg<|qa o rfl λo=>re<|tn<|wr<|br<|tr<|?_
 obtain rfl:=si hm
 exact r1 o results125 rfl ⟨rfl,u.keep⟩
 refine tn<|cfv o rfl C0<|th<|rg<|qv o (Af o Ck rfl) λo=>qv o (Ag o isAgg3 rfl (u.ld.cellB t0 rfl)) λo=>qv o (Al o rfl rfl) λo=>qa o rfl λo=>re<|?_
 rcases bip hm with ⟨D0,hm⟩ | ⟨D0,hm⟩
 refine tn<|ctv o rfl D0<|th<|rg<|qv o (Af o Dt rfl) λo=>qv o (Ag o isAgg3 rfl (u.ld.cellB t0 rfl)) λo=>qv o (Bi o rfl rfl) λo=>qm o rfl λo=>gr (Fk:=[(1,PT b2),(23,.bool ((decide (0≤p1.N)) && (decide (p1.N≤4294967296))))]) 19 4 o u ?_ ?_ ?_
 intro hb o key
 exact qg o (Af o Dt rfl) λo=>qg o (Ag o isAgg3 rfl (u.ld.cellB t0 rfl)) λo=>qg o (Cs o rfl rfl) λo=>qk o (Ad o rfl rfl) key u hb
 intro hb o key
 iterate 3 refine qn o λo=>?_
 exact qk o (Ae o rfl rfl) key u hb
 intro a w o u
 refine qm o rfl λo=>gr (Fk:=[(28,.bool (((decide (0≤p1.N)) && (decide (p1.N≤4294967296))) && (decide (p1.Name=[]))))]) 24 4 o u ?_ ?_ ?_
 intro hb o key
 exact qg o (Af o Fv rfl) λo=>qg o (Ag o isAgg9 rfl (u.ld.cellB t0 rfl)) λo=>qg o (Dz (m:=p1.Name) (n:=[]) o rfl rfl) λo=>qk o (Ad o rfl rfl) key u hb
 intro hb o key
 iterate 3 refine qn o λo=>?_
 exact qk o (Ae o rfl rfl) key u hb
 intro a w o u
 refine qa o rfl λo=>re<|tn<|wr<|br<|tr<|?_
 obtain rfl:=si hm
 exact r1 o results125 rfl ⟨rfl,u.keep⟩
 refine tn<|cfv o rfl D0<|th<|rg<|qv o (Af o Ck rfl) λo=>qv o (Ag o isAgg3 rfl (u.ld.cellB t0 rfl)) λo=>qv o (Al o rfl rfl) λo=>qa o rfl λo=>re<|?_
 rcases bip hm with ⟨E0,hm⟩ | ⟨E0,hm⟩
 refine tn<|ctv o rfl E0<|th<|?_
 rcases bip hm with ⟨F0,hm⟩ | ⟨F0,hm⟩
 obtain ⟨G0,h8,hm⟩:=bs hm
 refine rg<|qv o (Af o Dt rfl) λo=>qv o (Ag o isAgg3 rfl (u.ld.cellB t0 rfl)) λo=>qv o (Al o rfl rfl) λo=>qv o (As (Ab o rfl) (congrArg Value.bool F0)) λo=>qg o (Af o Fv rfl) λo=>qg o (Ag o isAgg9 rfl (u.ld.cellB t0 rfl)) λo=>ls<|gy o rfl rfl<|cr o call82 (Kl (Ai _) (Tab.mono hT (St.up u)) h8) u λu o=>qv o (Ad o rfl rfl) λo=>qa o rfl λo=>re<|tn<|wr<|br<|tr<|?_
 obtain rfl:=si hm
 exact r1 o results125 rfl ⟨rfl,u.keep⟩
 refine rg<|qv o (Af o Dt rfl) λo=>qv o (Ag o isAgg3 rfl (u.ld.cellB t0 rfl)) λo=>qv o (Al o rfl rfl) λo=>qv o (As (Ab o rfl) (congrArg Value.bool F0)) λo=>?_
 iterate 3 refine qn o λo=>?_
 refine qv o (Ae o rfl rfl) λo=>qa o rfl λo=>re<|tn<|wr<|br<|tr<|?_
 obtain rfl:=si hm
 exact r1 o results125 rfl ⟨rfl,u.keep⟩
 refine tn<|cfv o rfl E0<|wk<|bn<|tn<|th<|rg<|qv o (Af o Dt rfl) λo=>qv o (Ag o isAgg3 rfl (u.ld.cellB t0 rfl)) λo=>qv o (Al o rfl rfl) λo=>qm o rfl λo=>gr (Fk:=[(48,.bool ((decide (p1.N=0)) && (decide (p1.Name=[]))))]) 44 4 o u ?_ ?_ ?_
 intro hb o key
 exact qg o (Af o Fv rfl) λo=>qg o (Ag o isAgg9 rfl (u.ld.cellB t0 rfl)) λo=>qg o (Dz (m:=p1.Name) (n:=[]) o rfl rfl) λo=>qk o (Ad o rfl rfl) key u hb
 intro hb o key
 iterate 3 refine qn o λo=>?_
 exact qk o (Ae o rfl rfl) key u hb
 intro a w o u
 refine qa o rfl λo=>re<|tn<|wr<|?_
 obtain rfl:=si hm
 exact r1 o results125 rfl ⟨rfl,u.keep⟩
theorem Jcy (hH:H.le w0) (hT:Tab H) {p1:api_Node} {r:Bool} (hm:Z6 N p1=some r):Tot Tryz.prog 124 #[.agg #[i6 p1.Op,i6 p1.N,Ac p1.Name,i6 p1.At]] w0 (λv w'=>v=.bool r∧Keep Nil w0 w'):=by
 unfold Z6 at hm
 refine fn0 func124 rfl ntmps124 rfl rfl λa o=>?_
 have u:St w0 Nil [H] [] w0:=start1 hH
 refine th<|rg<|ls<|Bs (cs:=[i6 p1.Op,i6 p1.N,Ac p1.Name,i6 p1.At].toArray) o rfl u rfl rfl λb2 w a u o=>qa o rfl λo=>re<|tn<|th<|?_
 obtain ⟨C0,h4,hm⟩:=bs hm
 refine rg<|qv o (Ay o Tryz.isAgg90 Tryz.sizeOf90 rfl rfl (u.ld.cellsB t0)) λo=>ls<|cr o call125 (Jc1 (Ai _) (Tab.mono hT (St.up u)) h4) u λu o=>qv o (Az o rfl) λo=>qa o rfl λo=>re<|tn<|wr<|?_
 obtain rfl:=si hm
 exact r1 o results124 rfl ⟨rfl,u.keep⟩
theorem Jci (hH:H.le w0) (hT:Tab H) {I0:Option Addr} {D0:Nat} {p1:(List api_Node)} (_:p1.length≤D0) (K0:SR H I0 p1) {r:Int} (hm:Z9r N p1=some r):Tot Tryz.prog 155 #[SL I0 p1 D0,.func (.func 124) #[] #[]] w0 (λv w'=>v=i6 r∧Keep Nil w0 w'):=by
 unfold Z9r at hm
 refine fn0 func155 rfl ntmps155 rfl rfl λa o=>?_
 have u:St w0 Nil [H] [] w0:=start1 hH
 refine th<|rg<|qa o rfl λo=>re<|tn<|th<|th<|rg<|qm o rfl λo=>qv o (Ak (α:=api_Node) (xs:=p1) o runUnderlying49 rfl) λo=>qm o rfl λo=>re<|tn<|Au (λa w=>Z9s=some r∧Fr 19 [] a∧St w0 Nil [H] [] w) ?_ ?_
 refine wb<|lp (α:=Nat×Int) (λgh a w=>match gh with | (C0,F0)=>(Z9t N Z9s p1) C0 F0=some r∧Fr 19 [(0,SL I0 p1 D0),(1,.func (.func 124) #[] #[]),(7,i6 (p1.length:Int)),(8,i6 F0)] a∧St w0 Nil [H] [] w) (λgh=>gh.1) (N,0) ⟨hm,o.hs,u⟩ ?_
 rintro ⟨C0,F0⟩ a w ⟨hm,o,u⟩
 obtain _ | C0:=C0
 simp [Z9t] at hm
 rw [Z9t] at hm
 refine th<|rg<|qv o (Aq o rfl rfl) λo=>re<|?_
 rcases bip hm with ⟨J0,hm⟩ | ⟨J0,hm⟩
 refine tn<|th<|ctv o rfl J0<|wk<|tn<|th<|wb<|th<|rg<|qm o rfl λo=>qa o rfl λo=>re<|tn<|th<|?_
 obtain ⟨G0,h8,hm⟩:=bs hm
 obtain ⟨cz9,O0,M0⟩:=SR.get K0 h8
 obtain rfl:=Bm O0
 obtain ⟨Q0,P0,hm⟩:=bs hm
 refine rg<|qm o rfl λo=>?_
 iterate 2 refine qm o rfl λo=>?_
 refine qv o (An o runUnderlying49 sizeOf90 rfl rfl h8 (SR.oaI K0 (by decide) h8)) λo=>qv o (Ay o isAgg90 sizeOf90 rfl rfl (λj v hj=>PH.le.cell (Lds.le u.ld) (M0 j v hj))) λo=>ls<|k1 (vs:=[.agg #[i6 G0.Op,i6 G0.N,Ac G0.Name,i6 G0.At]]) (caps:=[]) o rfl rfl call124 (Jcy (Ai _) (Tab.mono hT (St.up u)) P0) ⟨rfl,trivial⟩ rfl (λv w a hR o=>?_)
 obtain ⟨rfl,hk⟩:=hR
 replace u:=u.pass hk
 refine re<|?_
 rcases bit hm with ⟨E0,hm⟩ | ⟨E0,hm⟩
 refine tn<|ctv o rfl E0<|th<|rg<|qm o rfl λo=>qa o rfl λo=>re<|tn<|wr<|br<|tr<|tr<|br<|tr<|?_
 obtain rfl:=si hm
 exact r1 o results155 rfl ⟨rfl,u.keep⟩
 refine tn<|cfv o rfl E0<|wk<|bn<|tn<|rg<|qv o (Ap o rfl rfl) λo=>qm o rfl λo=>re<|tn<|?_
 exact ⟨(C0,(IntKind.i64.wrap (F0+1))),⟨hm,o.hs,u⟩,Nat.lt_succ_self _⟩
 refine tn<|th<|cfv o rfl J0<|we<|tx<|tx<|bx<|tn<|?_
 exact ⟨hm,o.has trivial,u⟩
 rintro a w ⟨hm,o,u⟩
 unfold Z9s at hm
 refine th<|rg<|qa o rfl λo=>re<|tn<|wr<|?_
 obtain rfl:=si hm
 exact r1 o results155 rfl ⟨rfl,u.keep⟩
theorem Yz (hH:H.le w0) (hT:Tab H) {D0:Option Addr} {C0:Nat} {p1:(List api_Node)} (E0:p1.length≤C0) (F0:SR H D0 p1) {r:Bool} (hm:Z98 N p1=some r):Tot Tryz.prog 126 #[SL D0 p1 C0,.func (.func 124) #[] #[]] w0 (λv w'=>v=.bool r∧Keep Nil w0 w'):=by
 unfold Z98 at hm
 refine fn0 func126 rfl ntmps126 rfl rfl λa o=>?_
 have u:St w0 Nil [H] [] w0:=start1 hH
 refine th<|rg<|qa o rfl λo=>re<|tn<|th<|?_
 obtain ⟨G0,h7,hm⟩:=bs hm
 refine rg<|qm o rfl λo=>qm o rfl λo=>ls<|cr o call155 (Jci (Ai _) (Tab.mono hT (St.up u)) E0 (St.srH u F0) h7) u λu o=>qv o (Bi o rfl rfl) λo=>qa o rfl λo=>re<|tn<|wr<|?_
 obtain rfl:=si hm
 exact r1 o results126 rfl ⟨rfl,u.keep⟩
theorem Jac (hH:H.le w0) {p1:Int} {r:Int} (hm:Zb N p1=some r):Tot Tryz.prog 156 #[i6 p1] w0 (λv w'=>v=i6 r∧Keep Nil w0 w'):=by
 unfold Zb at hm
 refine fn0 func156 rfl ntmps156 rfl rfl λa o=>?_
 have u:St w0 Nil [H] [] w0:=start1 hH
 refine th<|rg<|qa o rfl λo=>re<|tn<|th<|wb<|th<|rg<|qm o rfl λo=>qv o (Al o rfl rfl) λo=>qm o rfl λo=>gr (Fk:=[(0,i6 p1),(9,.bool ((decide (p1=1)) || (decide (p1=2))))]) 6 3 o u ?_ ?_ ?_
 intro hb o key
 iterate 2 refine qn o λo=>?_
 exact qk o (Ad o rfl rfl) key u hb
 intro hb o key
 exact qg o (Ab o rfl) λo=>qg o (Al o rfl rfl) λo=>qk o (Ae o rfl rfl) key u hb
 intro a w o u
 refine qa o rfl λo=>re<|?_
 rcases bit hm with ⟨C0,hm⟩ | ⟨C0,hm⟩
 refine tn<|ctv o rfl C0<|th<|rg<|qa o rfl λo=>re<|tn<|wr<|br<|tr<|?_
 obtain rfl:=si hm
 exact r1 o results156 rfl ⟨rfl,u.keep⟩
 refine tn<|cfv o rfl C0<|th<|rg<|qm o rfl λo=>qv o (Al o rfl rfl) λo=>qm o rfl λo=>gr (Fk:=[(0,i6 p1),(16,.bool ((decide (p1=3)) || (decide (p1=4))))]) 13 3 o u ?_ ?_ ?_
 intro hb o key
 iterate 2 refine qn o λo=>?_
 exact qk o (Ad o rfl rfl) key u hb
 intro hb o key
 exact qg o (Ab o rfl) λo=>qg o (Al o rfl rfl) λo=>qk o (Ae o rfl rfl) key u hb
 intro a w o u
 refine qa o rfl λo=>re<|?_
 rcases bit hm with ⟨D0,hm⟩ | ⟨D0,hm⟩
 refine tn<|ctv o rfl D0<|th<|rg<|qa o rfl λo=>re<|tn<|wr<|br<|tr<|?_
 obtain rfl:=si hm
 exact r1 o results156 rfl ⟨rfl,u.keep⟩
 refine tn<|cfv o rfl D0<|th<|rg<|qm o rfl λo=>qv o (Bi o rfl rfl) λo=>qm o rfl λo=>gr (Fk:=[(23,.bool ((decide (5≤p1)) && (decide (p1≤15))))]) 20 3 o u ?_ ?_ ?_
 intro hb o key
 exact qg o (Ab o rfl) λo=>qg o (Cs o rfl rfl) λo=>qk o (Ad o rfl rfl) key u hb
 intro hb o key
 iterate 2 refine qn o λo=>?_
 exact qk o (Ae o rfl rfl) key u hb
 intro a w o u
 refine qa o rfl λo=>re<|?_
 rcases bit hm with ⟨E0,hm⟩ | ⟨E0,hm⟩
 refine tn<|ctv o rfl E0<|th<|rg<|qa o rfl λo=>re<|tn<|wr<|br<|tr<|?_
 obtain rfl:=si hm
 exact r1 o results156 rfl ⟨rfl,u.keep⟩
 refine tn<|cfv o rfl E0<|wk<|bn<|tn<|th<|rg<|qa o rfl λo=>re<|tn<|wr<|?_
 obtain rfl:=si hm
 exact r1 o results156 rfl ⟨rfl,u.keep⟩
theorem JbP (hH:H.le w0) {F0:Option Addr} {D0:Nat} {p1:(List api_Node)} (_:p1.length≤D0) (J0:SR H F0 p1) {p6:Int} {r:Int} (hm:Z1 N p1 p6=some r):Tot Tryz.prog 127 #[SL F0 p1 D0,i6 p6] w0 (λv w'=>v=i6 r∧Keep Nil w0 w'):=by
 unfold Z1 at hm
 refine fn0 func127 rfl ntmps127 rfl rfl λa o=>?_
 have u:St w0 Nil [H] [] w0:=start1 hH
 refine th<|rg<|qa o rfl λo=>re<|tn<|th<|th<|rg<|qa o rfl λo=>re<|tn<|Au (λa w=>∃ (K0:Int),Z2 K0=some r∧Fr 38 [(1,i6 K0)] a∧St w0 Nil [H] [] w) ?_ ?_
 refine wb<|lp (α:=Nat×Int×Int) (λgh a w=>match gh with | (G0,C0,E0)=>(Z4 N Z2 p1) G0 C0 E0=some r∧Fr 38 [(0,SL F0 p1 D0),(1,i6 C0),(5,i6 E0)] a∧St w0 Nil [H] [] w) (λgh=>gh.1) (N,p6,1) ⟨hm,o.hs,u⟩ ?_
 rintro ⟨G0,C0,E0⟩ a w ⟨hm,o,u⟩
 obtain _ | G0:=G0
 simp [Z4] at hm
 rw [Z4] at hm
 refine th<|th<|rg<|qm o rfl λo=>qv o (Be o rfl rfl) λo=>re<|?_
 rcases bip hm with ⟨M0,hm⟩ | ⟨M0,hm⟩
 refine tn<|ctv o rfl M0<|wk<|tn<|th<|wb<|th<|th<|Au (λa w=>∃ (O0:Bool),(Z3 N (Z4 N Z2 p1 G0) p1 C0 E0) O0=some r∧Fr 38 [(0,SL F0 p1 D0),(1,i6 C0),(5,i6 E0),(26,.bool O0)] a∧St w0 Nil [H] [] w) ?_ ?_
 rcases bit hm with ⟨P0,hm⟩ | ⟨P0,hm⟩
 refine rg<|qm o rfl λo=>qv o (Aq o rfl rfl) λo=>qm o rfl λo=>gr (Fk:=[(0,SL F0 p1 D0),(1,i6 C0),(5,i6 E0),(17,.bool ((decide (C0 < 0)) || (decide ((p1.length:Int)≤C0))))]) 12 5 o u ?_ ?_ ?_
 intro hb o key
 iterate 4 refine qn o λo=>?_
 exact qk o (Ad o rfl rfl) key u hb
 intro hb o key
 iterate 2 refine qg o (Ab o rfl) λo=>?_
 exact qg o (Ak (α:=api_Node) (xs:=p1) o runUnderlying49 rfl) λo=>qg o (Bi o rfl rfl) λo=>qk o (Ae o rfl rfl) key u hb
 intro a w o u
 refine qv o (As (Ab o rfl) (congrArg Value.bool P0)) λo=>?_
 iterate 7 refine qn o λo=>?_
 refine qv o (Ad o rfl rfl) λo=>re<|tn<|?_
 exact ⟨true,hm,o.hs,u⟩
 obtain ⟨n0,Q0,hm⟩:=bs hm
 obtain ⟨u0,U0,S0⟩:=SR.get J0 Q0
 obtain rfl:=Bm U0
 obtain ⟨V0,W0,hm⟩:=bs hm
 refine rg<|qm o rfl λo=>qv o (Aq o rfl rfl) λo=>qm o rfl λo=>gr (Fk:=[(0,SL F0 p1 D0),(1,i6 C0),(5,i6 E0),(17,.bool ((decide (C0 < 0)) || (decide ((p1.length:Int)≤C0))))]) 12 5 o u ?_ ?_ ?_
 intro hb o key
 iterate 4 refine qn o λo=>?_
 exact qk o (Ad o rfl rfl) key u hb
 intro hb o key
 iterate 2 refine qg o (Ab o rfl) λo=>?_
 exact qg o (Ak (α:=api_Node) (xs:=p1) o runUnderlying49 rfl) λo=>qg o (Bi o rfl rfl) λo=>qk o (Ae o rfl rfl) key u hb
 intro a w o u
 refine qv o (As (Ab o rfl) (congrArg Value.bool P0)) λo=>?_
 iterate 2 refine qg o (Ab o rfl) λo=>?_
 refine qg o (An o runUnderlying49 sizeOf90 rfl rfl Q0 (SR.oaI J0 (by decide) Q0)) λo=>qg o (Af o Ck rfl) λo=>qg o (Ag o isAgg3 rfl (PH.le.cell (Lds.le u.ld) (S0 0 _ rfl))) λo=>ls<|gy o rfl rfl<|cr o call156 (Jac (Ai _) W0) u λu o=>qg o (Al o rfl rfl) λo=>qv o (Ae o rfl rfl) λo=>re<|tn<|?_
 exact ⟨(decide (V0=(-1))),hm,o.hs,u⟩
 rintro a w ⟨O0,hm,o,u⟩
 unfold Z3 at hm
 rcases bit hm with ⟨I0,hm⟩ | ⟨I0,hm⟩
 refine ctv o rfl I0<|th<|rg<|qa o rfl λo=>re<|tn<|wr<|tr<|br<|tr<|tr<|br<|tr<|?_
 obtain rfl:=si hm
 exact r1 o results127 rfl ⟨rfl,u.keep⟩
 refine cfv o rfl I0<|wk<|tn<|th<|?_
 obtain ⟨B1,R0,hm⟩:=bs hm
 obtain ⟨C1,X0,T0⟩:=SR.get J0 R0
 obtain rfl:=Bm X0
 obtain ⟨Y0,j0,hm⟩:=bs hm
 refine rg<|qm o rfl λo=>?_
 iterate 2 refine qm o rfl λo=>?_
 refine qv o (An o runUnderlying49 sizeOf90 rfl rfl R0 (SR.oaI J0 (by decide) R0)) λo=>qv o (Af o Ck rfl) λo=>qv o (Ag o isAgg3 rfl (PH.le.cell (Lds.le u.ld) (T0 0 _ rfl))) λo=>ls<|cr o call156 (Jac (Ai _) j0) u λu o=>qv o (Ap o rfl rfl) λo=>qa o rfl λo=>re<|tn<|rg<|qm o rfl λo=>qv o (Ap o rfl rfl) λo=>qa o rfl λo=>re<|bn<|tn<|rg<|qm o rfl λo=>qv o (Gp o rfl rfl) λo=>qa o rfl λo=>re<|tn<|?_
 exact ⟨(G0,(IntKind.i64.wrap (C0+1)),(IntKind.i64.wrap ((IntKind.i64.wrap (E0+Y0)) - 1))),⟨hm,o.hs,u⟩,Nat.lt_succ_self _⟩
 refine tn<|cfv o rfl M0<|we<|tx<|tx<|bx<|tn<|?_
 exact ⟨C0,hm,o.has ⟨rfl,trivial⟩,u⟩
 rintro a w ⟨K0,hm,o,u⟩
 unfold Z2 at hm
 refine th<|rg<|qm o rfl λo=>qa o rfl λo=>re<|tn<|wr<|?_
 obtain rfl:=si hm
 exact r1 o results127 rfl ⟨rfl,u.keep⟩
theorem Jc5 (hH:H.le w0) {S0:Option Addr} {M0:Nat} {p1:(List api_Node)} (G1:p1.length≤M0) (T0:SR H S0 p1) {p6:Int} {r:(List Int)} (hm:Zd N p1 p6=some r):Tot Tryz.prog 157 #[SL S0 p1 M0,i6 p6] w0 (λv w'=>∃ (X0:Option Addr) (U0:Nat) (Y0:List Value),v=SL X0 r U0∧(∀ h,Rows h Y0 r)∧Fresh w0 (sla 3 1 X0 r.length U0 Y0) w'):=by
 unfold Zd at hm
 refine fn0 func157 rfl ntmps157 rfl rfl λa o=>?_
 have u:St w0 Nil [H] [] w0:=start1 hH
 refine th<|rg<|qa o rfl λo=>re<|tn<|th<|rg<|qa o rfl λo=>re<|tn<|th<|rg<|qm o rfl λo=>qv o (Ap o rfl rfl) λo=>qa o rfl λo=>re<|tn<|th<|th<|?_
 obtain ⟨R1,h8,hm⟩:=bs hm
 obtain ⟨cz9,I1,n0⟩:=SR.get T0 h8
 obtain rfl:=Bm I1
 obtain ⟨j0,J1,hm⟩:=bs hm
 refine rg<|qm o rfl λo=>qm o rfl λo=>qv o (An o runUnderlying49 sizeOf90 rfl rfl h8 (SR.oaI T0 (by decide) h8)) λo=>qv o (Af o Ck rfl) λo=>qv o (Ag o isAgg3 rfl (PH.le.cell (Lds.le u.ld) (n0 0 _ rfl))) λo=>ls<|cr o call156 (Jac (Ai _) J1) u λu o=>qm o rfl λo=>re<|tn<|Au (λa w=>∃ (J0:(List Int)) (O0:Option Addr) (F0:Nat) (P0:List Value),Ze J0=some r∧Fr 26 [(5,SL O0 J0 F0)] a∧St w0 Nil [H] [sla 3 1 O0 J0.length F0 P0] w∧Rows H P0 J0) ?_ ?_
 replace u:=u.nilS 3 1
 refine wb<|lp (α:=Nat×(List Int)×Int×Int) (λgh a w=>match gh with | (K0,E0,C0,R0)=>∃ (G0:Option Addr) (D0:Nat) (I0:List Value),(Zf N Ze p1 j0) K0 E0 C0 R0=some r∧Fr 26 [(0,SL S0 p1 M0),(5,SL G0 E0 D0),(6,i6 C0),(14,i6 j0),(15,i6 R0)] a∧St w0 Nil [H] [sla 3 1 G0 E0.length D0 I0] w∧Rows H I0 E0) (λgh=>gh.1) (N,[],(IntKind.i64.wrap (p6+1)),0) ⟨none,0,[],hm,o.hs,u,.nil⟩ ?_
 rintro ⟨K0,E0,C0,R0⟩ a w ⟨G0,D0,I0,hm,o,u,V0⟩
 obtain _ | K0:=K0
 simp [Zf] at hm
 rw [Zf] at hm
 refine th<|rg<|qv o (Aq o rfl rfl) λo=>re<|?_
 rcases bip hm with ⟨Q0,hm⟩ | ⟨Q0,hm⟩
 refine tn<|th<|ctv o rfl Q0<|wk<|tn<|th<|wb<|th<|?_
 obtain ⟨M1,O1,hm⟩:=bs hm
 refine rg<|qm o rfl λo=>qm o rfl λo=>ls<|Bl (e:=3) (sz:=1) [i6 C0] o rfl u rfl rfl rfl (λw=>by kernel_rfl) λS1 w a u o=>?_
 have u0:Rows (α:=Int) H [i6 C0] ([C0]:List Int):=(.cons (c:=[i6 C0]) rfl .nil)
 refine ls<|Cl (α:=Int) (xs:=E0) (ys:=([C0]:List Int)) o rfl u underlying42 Yd rfl (by decide) rfl rfl rfl t1 V0 (u.rdO t0) u0 O1 λB1 W0 C1 w a E1 hU o=>?_
 replace u:=hU _ (.tail .head)
 replace u:=u.drop .head
 refine qa o rfl λo=>re<|tn<|?_
 obtain ⟨P1,Q1,hm⟩:=bs hm
 refine rg<|qm o rfl λo=>qm o rfl λo=>ls<|cr o call127 (JbP (Ai _) G1 (St.srH u T0) Q1) u λu o=>qa o rfl λo=>re<|bn<|tn<|rg<|qv o (Ap o rfl rfl) λo=>qm o rfl λo=>re<|tn<|?_
 exact ⟨(K0,M1,P1,(IntKind.i64.wrap (R0+1))),⟨B1,W0,C1,hm,o.hs,u,E1⟩,Nat.lt_succ_self _⟩
 refine tn<|th<|cfv o rfl Q0<|we<|tx<|tx<|bx<|tn<|?_
 exact ⟨E0,G0,D0,I0,hm,o.has ⟨rfl,trivial⟩,u,V0⟩
 rintro a w ⟨J0,O0,F0,P0,hm,o,u,F1⟩
 unfold Ze at hm
 refine th<|rg<|qm o rfl λo=>qa o rfl λo=>re<|tn<|wr<|?_
 obtain rfl:=si hm
 exact r1 o results157 rfl ⟨_,_,_,rfl,(λ_=>Rows.ind F1),u.endFresh t0⟩
theorem Jc8:∀ (N:Nat) {w0:World} {H:PH} (_:H.le w0) {J0:Option Addr} {C0:Nat} {p1:(List api_Node)} (_:p1.length≤C0) (_:SR H J0 p1) {p6:Int} {r:Int} (_:Z8 N p1 p6=some r),Tot Tryz.prog 128 #[SL J0 p1 C0,i6 p6] w0 (λv w'=>v=i6 r∧Keep Nil w0 w'):=by
 intro N
 induction N with
  | zero=>intros;rename_i hm;simp [Z8] at hm
  | succ N ih=>
 intro w0 H hH J0 C0 p1 Q0 R0 p6 r hm
 rw [Z8] at hm
 refine fn0 func128 rfl ntmps128 rfl rfl λa o=>?_
 have u:St w0 Nil [H] [] w0:=start1 hH
 refine th<|rg<|qa o rfl λo=>re<|tn<|th<|rg<|qa o rfl λo=>re<|tn<|th<|th<|?_
 obtain ⟨E0,h8,hm⟩:=bs hm
 refine rg<|qm o rfl λo=>qm o rfl λo=>ls<|c1 o rfl call157 (Jc5 (Ai _) Q0 (St.srH u R0) h8) ⟨rfl,rfl,trivial⟩ (λv w a hR o=>?_)
 obtain ⟨S0,K0,T0,rfl,D0,hk⟩:=hR
 replace u:=u.fresh hk
 replace D0:=D0 H
 refine qv o (Ak (α:=Int) (xs:=E0) o runUnderlying42 rfl) λo=>qm o rfl λo=>re<|tn<|Au (λa w=>∃ (O0:Int),Z9 O0=some r∧Fr 24 [(5,i6 O0)] a∧St w0 Nil [H] [] w) ?_ ?_
 refine wb<|lp (α:=Nat×Int×Int) (λgh a w=>match gh with | (F0,G0,M0)=>(Za (Z8 N) N Z9 p1 E0) F0 G0 M0=some r∧Fr 24 [(0,SL J0 p1 C0),(5,i6 G0),(10,SL S0 E0 K0),(11,i6 (E0.length:Int)),(12,i6 M0)] a∧St w0 Nil [H] [sla 3 1 S0 E0.length K0 T0] w) (λgh=>gh.1) (N,0,0) ⟨hm,o.hs,u⟩ ?_
 rintro ⟨F0,G0,M0⟩ a w ⟨hm,o,u⟩
 obtain _ | F0:=F0
 simp [Za] at hm
 rw [Za] at hm
 refine th<|rg<|qv o (Aq o rfl rfl) λo=>re<|?_
 rcases bip hm with ⟨I0,hm⟩ | ⟨I0,hm⟩
 refine tn<|th<|ctv o rfl I0<|wk<|tn<|th<|wb<|th<|?_
 obtain ⟨W0,P0,hm⟩:=bs hm
 have U0:=Rd.oaI (u.rdO t0) D0 (by decide) P0
 obtain ⟨X0,Y0,V0⟩:=Rows.getI D0 P0
 obtain rfl:X0=[i6 W0]:=Y0
 refine rg<|qv o (An o Tryz.runUnderlying42 Tryz.sizeOf3 rfl rfl P0 U0) λo=>qv o (Ag o isAgg3 rfl (u.ld.elO t0 (V0 0 _ rfl))) λo=>qa o rfl λo=>re<|tn<|?_
 obtain ⟨j0,n0,hm⟩:=bs hm
 refine rg<|qm o rfl λo=>?_
 iterate 2 refine qm o rfl λo=>?_
 refine ls<|cr o call128 (ih (Ai _) Q0 (St.srH u R0) n0) u λu o=>qv o (Yr o rfl rfl) λo=>qa o rfl λo=>re<|bn<|tn<|rg<|qv o (Ap o rfl rfl) λo=>qm o rfl λo=>re<|tn<|?_
 exact ⟨(F0,(max G0 j0),(IntKind.i64.wrap (M0+1))),⟨hm,o.hs,u⟩,Nat.lt_succ_self _⟩
 refine tn<|th<|cfv o rfl I0<|we<|tx<|tx<|bx<|tn<|?_
 replace u:=u.pickL .nil
 exact ⟨G0,hm,o.has ⟨rfl,trivial⟩,u⟩
 rintro a w ⟨O0,hm,o,u⟩
 unfold Z9 at hm
 refine th<|rg<|qm o rfl λo=>qv o (Ap o rfl rfl) λo=>qa o rfl λo=>re<|tn<|wr<|?_
 obtain rfl:=si hm
 exact r1 o results128 rfl ⟨rfl,u.keep⟩
theorem JbH (hH:H.le w0) (hT:Tab H) {D0:Option Addr} {C0:Nat} {p1:(List api_Node)} (F0:p1.length≤C0) (G0:SR H D0 p1) {r:Bool} (hm:Z5 N p1=some r):Tot Tryz.prog 87 #[SL D0 p1 C0] w0 (λv w'=>v=.bool r∧Keep Nil w0 w'):=by
 unfold Z5 at hm
 refine fn0 func87 rfl ntmps87 rfl rfl λa o=>?_
 have u:St w0 Nil [H] [] w0:=start1 hH
 refine th<|rg<|qa o rfl λo=>re<|tn<|th<|rg<|qa o rfl λo=>re<|tn<|th<|th<|Au (λa w=>∃ (J0:Bool),(Z7 N p1) J0=some r∧Fr 27 [(0,SL D0 p1 C0),(23,.bool J0)] a∧St w0 Nil [H] [] w) ?_ ?_
 rcases bit hm with ⟨I0,hm⟩ | ⟨I0,hm⟩
 refine rg<|qm o rfl λo=>qv o (Ak (α:=api_Node) (xs:=p1) o runUnderlying49 rfl) λo=>qv o (Al o rfl rfl) λo=>qm o rfl λo=>gr (Fk:=[(0,SL D0 p1 C0),(3,.func (.func 124) #[] #[]),(11,.bool ((decide ((p1.length:Int)=0)) || (decide (40 < (p1.length:Int)))))]) 7 4 o u ?_ ?_ ?_
 intro hb o key
 iterate 3 refine qn o λo=>?_
 exact qk o (Ad o rfl rfl) key u hb
 intro hb o key
 exact qg o (Ab o rfl) λo=>qg o (Ak (α:=api_Node) (xs:=p1) o runUnderlying49 rfl) λo=>qg o (Be o rfl rfl) λo=>qk o (Ae o rfl rfl) key u hb
 intro a w o u
 refine qv o (As (Ab o rfl) (congrArg Value.bool I0)) λo=>?_
 iterate 3 refine qn o λo=>?_
 refine qv o (Ad o rfl rfl) λo=>qm o rfl λo=>?_
 iterate 5 refine qn o λo=>?_
 refine qv o (Ad o rfl rfl) λo=>re<|tn<|?_
 exact ⟨true,hm,o.has ⟨rfl,rfl,trivial⟩,u⟩
 obtain ⟨Q0,h8,hm⟩:=bs hm
 rcases bit hm with ⟨K0,hm⟩ | ⟨K0,hm⟩
 refine rg<|qm o rfl λo=>qv o (Ak (α:=api_Node) (xs:=p1) o runUnderlying49 rfl) λo=>qv o (Al o rfl rfl) λo=>qm o rfl λo=>gr (Fk:=[(0,SL D0 p1 C0),(3,.func (.func 124) #[] #[]),(11,.bool ((decide ((p1.length:Int)=0)) || (decide (40 < (p1.length:Int)))))]) 7 4 o u ?_ ?_ ?_
 intro hb o key
 iterate 3 refine qn o λo=>?_
 exact qk o (Ad o rfl rfl) key u hb
 intro hb o key
 exact qg o (Ab o rfl) λo=>qg o (Ak (α:=api_Node) (xs:=p1) o runUnderlying49 rfl) λo=>qg o (Be o rfl rfl) λo=>qk o (Ae o rfl rfl) key u hb
 intro a w o u
 refine qv o (As (Ab o rfl) (congrArg Value.bool I0)) λo=>?_
 iterate 2 refine qg o (Ab o rfl) λo=>?_
 refine ls<|gy o rfl rfl<|cr o call126 (Yz (Ai _) (Tab.mono hT (St.up u)) F0 (St.srH u G0) h8) u λu o=>qv o (Ae o rfl rfl) λo=>qv o (As (Ab o rfl) (congrArg Value.bool K0)) λo=>?_
 iterate 5 refine qn o λo=>?_
 refine qv o (Ad o rfl rfl) λo=>re<|tn<|?_
 exact ⟨true,hm,o.has ⟨rfl,rfl,trivial⟩,u⟩
 obtain ⟨M0,O0,hm⟩:=bs hm
 refine rg<|qm o rfl λo=>qv o (Ak (α:=api_Node) (xs:=p1) o runUnderlying49 rfl) λo=>qv o (Al o rfl rfl) λo=>qm o rfl λo=>gr (Fk:=[(0,SL D0 p1 C0),(3,.func (.func 124) #[] #[]),(11,.bool ((decide ((p1.length:Int)=0)) || (decide (40 < (p1.length:Int)))))]) 7 4 o u ?_ ?_ ?_
 intro hb o key
 iterate 3 refine qn o λo=>?_
 exact qk o (Ad o rfl rfl) key u hb
 intro hb o key
 exact qg o (Ab o rfl) λo=>qg o (Ak (α:=api_Node) (xs:=p1) o runUnderlying49 rfl) λo=>qg o (Be o rfl rfl) λo=>qk o (Ae o rfl rfl) key u hb
 intro a w o u
 refine qv o (As (Ab o rfl) (congrArg Value.bool I0)) λo=>?_
 iterate 2 refine qg o (Ab o rfl) λo=>?_
 refine ls<|gy o rfl rfl<|cr o call126 (Yz (Ai _) (Tab.mono hT (St.up u)) F0 (St.srH u G0) h8) u λu o=>qv o (Ae o rfl rfl) λo=>qv o (As (Ab o rfl) (congrArg Value.bool K0)) λo=>qg o (Ab o rfl) λo=>ls<|gy o rfl rfl<|cr o call127 (JbP (Ai _) F0 (St.srH u G0) O0) u λu o=>qg o (Ab o rfl) λo=>qg o (Ak (α:=api_Node) (xs:=p1) o runUnderlying49 rfl) λo=>qg o (Bt o rfl rfl) λo=>qv o (Ae o rfl rfl) λo=>re<|tn<|?_
 exact ⟨(decide (M0≠(p1.length:Int))),hm,o.has ⟨rfl,rfl,trivial⟩,u⟩
 rintro a w ⟨J0,hm,o,u⟩
 unfold Z7 at hm
 rcases bit hm with ⟨E0,hm⟩ | ⟨E0,hm⟩
 refine ctv o rfl E0<|th<|rg<|qa o rfl λo=>re<|tn<|wr<|tr<|?_
 obtain rfl:=si hm
 exact r1 o results87 rfl ⟨rfl,u.keep⟩
 refine cfv o rfl E0<|wk<|tn<|th<|?_
 obtain ⟨R0,P0,hm⟩:=bs hm
 refine rg<|qm o rfl λo=>ls<|cr o call128 (Jc8 _ (Ai _) F0 (St.srH u G0) P0) u λu o=>qv o (Cs o rfl rfl) λo=>qa o rfl λo=>re<|tn<|wr<|?_
 obtain rfl:=si hm
 exact r1 o results87 rfl ⟨rfl,u.keep⟩
theorem Tx (hH:H.le w0) (hT:Tab H) {p1:Bool} {oa3:Option Addr} {cap4:Nat} {p2:(List api_Node)} (D0:p2.length≤cap4) (E0:SR H oa3 p2) {r:Bool} (hm:Zar N p1 p2=some r):Tot Tryz.prog 149 #[.bool p1,SL oa3 p2 cap4] w0 (λv w'=>v=.bool r∧Keep Nil w0 w'):=by
 unfold Zar at hm
 refine fn0 func149 rfl ntmps149 rfl rfl λa o=>?_
 have u:St w0 Nil [H] [] w0:=start1 hH
 refine th<|rg<|qa o rfl λo=>re<|tn<|th<|?_
 rcases bit hm with ⟨C0,hm⟩ | ⟨C0,hm⟩
 obtain ⟨F0,h9,hm⟩:=bs hm
 refine rg<|qm o rfl λo=>qv o (As (Ab o rfl) (congrArg Value.bool C0)) λo=>qg o (Ab o rfl) λo=>ls<|gy o rfl rfl<|cr o call87 (JbH (Ai _) (Tab.mono hT (St.up u)) D0 (St.srH u E0) h9) u λu o=>qv o (Ad o rfl rfl) λo=>qm o rfl λo=>gr (Fk:=[(18,.bool (F0 || ((!p1) && (decide ((p2.length:Int)=0)))))]) 10 8 o u ?_ ?_ ?_
 intro hb o key
 iterate 3 refine qn o λo=>?_
 iterate 3 refine ls<|gnu o rfl rfl rfl λa o=>?_
 exact qn o λo=>qk o (Ad o rfl rfl) key u hb
 intro hb o key
 refine qg o (Ab o rfl) λo=>qg o (Az o rfl) λo=>qg o (Ab o rfl) λo=>gr (Fk:=[(10,.bool false),(17,.bool ((!p1) && (decide ((p2.length:Int)=0))))]) 13 4 o u ?_ ?_ ?_
 intro hb o key
 exact qg o (Ab o rfl) λo=>qg o (Ak (α:=api_Node) (xs:=p2) o runUnderlying49 rfl) λo=>qg o (Al o rfl rfl) λo=>ql o (Ad o rfl rfl) key u hb
 intro hb o key
 iterate 3 refine qn o λo=>?_
 exact ql o (Ae o rfl rfl) key u hb
 intro a w o u
 exact qk o (Ae o rfl rfl) key u hb
 intro a w o u
 refine qa o rfl λo=>re<|tn<|wr<|?_
 obtain rfl:=si hm
 exact r1 o results149 rfl ⟨rfl,u.keep⟩
 refine rg<|qm o rfl λo=>qv o (As (Ab o rfl) (congrArg Value.bool C0)) λo=>?_
 iterate 2 refine qn o λo=>?_
 refine qv o (Ae o rfl rfl) λo=>qm o rfl λo=>qg o (Ab o rfl) λo=>qg o (Az o rfl) λo=>qg o (Ab o rfl) λo=>gr (Fk:=[(10,.bool false),(17,.bool ((!p1) && (decide ((p2.length:Int)=0))))]) 13 4 o u ?_ ?_ ?_
 intro hb o key
 exact qg o (Ab o rfl) λo=>qg o (Ak (α:=api_Node) (xs:=p2) o runUnderlying49 rfl) λo=>qg o (Al o rfl rfl) λo=>ql o (Ad o rfl rfl) key u hb
 intro hb o key
 iterate 3 refine qn o λo=>?_
 exact ql o (Ae o rfl rfl) key u hb
 intro a w o u
 refine qv o (Ae o rfl rfl) λo=>qa o rfl λo=>re<|tn<|wr<|?_
 obtain rfl:=si hm
 exact r1 o results149 rfl ⟨rfl,u.keep⟩
set_option maxHeartbeats 4000000 in
theorem Jcj (hH:H.le w0) (hT:Tab H) {cs2:List Value} {p1:api_Stmt} (g3:Enc.rep H cs2 p1) {r:Bool} (hm:Zao N p1=some r):Tot Tryz.prog 110 #[.agg cs2.toArray] w0 (λv w'=>v=.bool r∧Keep Nil w0 w'):=by
 unfold Zao at hm
 refine fn0 func110 rfl ntmps110 rfl rfl λa o=>?_
 have u:St w0 Nil [H] [] w0:=start1 hH
 obtain ⟨P0,F0,T0,G0,rfl,X0,Y0,G1,I1⟩:=Bn g3
 refine th<|rg<|ls<|Bs (cs:=[i6 p1.Kind,Ac p1.Reg,Ac p1.Name,SL P0 p1.E F0,SL T0 p1.F G0,i6 p1.N,i6 p1.Body,i6 p1.Else,i6 p1.At].toArray) o rfl u rfl rfl λE0 w a u o=>qa o rfl λo=>re<|tn<|th<|?_
 obtain ⟨j0,J1,hm⟩:=bs hm
 refine rg<|qv o (Af o Cg rfl) λo=>qv o (Ag o isAgg3 rfl (u.ld.cellB t0 rfl)) λo=>ls<|cr o call145 (JbZ (Ai _) J1) u λu o=>ls<|Aw (cs:=[Ac []].toArray) o rfl u zeroValue9 rfl λC0 w a u o=>ls<|Ax o u sizeOf9 rfl rfl rfl rfl .head .zero λw u=>re<|tn<|th<|rg<|qv o (Pf (vs:=[PT C0]) o ⟨rfl,trivial⟩) λo=>qa o rfl λo=>?_
 iterate 2 refine re<|tn<|th<|rg<|qa o rfl λo=>?_
 refine re<|tn<|th<|rg<|qv o (Af o Gk rfl) λo=>qv o (Ag o isAgg3 rfl (u.ld.cellB t1 rfl)) λo=>qv o (Al o rfl rfl) λo=>qa o rfl λo=>re<|tn<|th<|th<|?_
 obtain ⟨R1,M1,hm⟩:=bs hm
 refine rg<|qm o rfl λo=>ls<|k1 (vs:=[Ac [107]]) (caps:=[PT C0]) o rfl rfl call146 (Gv (Ai _) (Tab.mono hT (St.up u)) (St.blkO u t0) M1) ⟨rfl,trivial⟩ rfl (λv w a hR o=>?_)
 obtain ⟨rfl,hk⟩:=hR
 replace u:=u.pass hk
 refine re<|tn<|Au (λa w=>∃ (D0:Bool),(Zas N p1 j0) D0=some r∧Fr 85 [(1,PT E0),(4,.func (.func 146) #[] #[PT C0]),(5,.func (.func 148) #[] #[]),(6,.func (.func 149) #[] #[]),(7,.bool D0)] a∧St w0 Nil [H] [bk E0 [i6 p1.Kind,Ac p1.Reg,Ac p1.Name,SL P0 p1.E F0,SL T0 p1.F G0,i6 p1.N,i6 p1.Body,i6 p1.Else,i6 p1.At] 51,bk C0 [Ac j0] 9] w) ?_ ?_
 rcases bit hm with ⟨I0,hm⟩ | ⟨I0,hm⟩
 refine ctv o rfl I0<|rg<|qv o (Af o Gk rfl) λo=>qv o (Ag o isAgg3 rfl (u.ld.cellB t1 rfl)) λo=>qv o (Bi o rfl rfl) λo=>qm o rfl λo=>gr (Fk:=[(1,PT E0),(4,.func (.func 146) #[] #[PT C0]),(5,.func (.func 148) #[] #[]),(6,.func (.func 149) #[] #[]),(25,.bool ((decide (1≤p1.N)) && (decide (p1.N≤8))))]) 21 4 o u ?_ ?_ ?_
 intro hb o key
 exact qg o (Af o Gk rfl) λo=>qg o (Ag o isAgg3 rfl (u.ld.cellB t1 rfl)) λo=>qg o (Cs o rfl rfl) λo=>qk o (Ad o rfl rfl) key u hb
 intro hb o key
 iterate 3 refine qn o λo=>?_
 exact qk o (Ae o rfl rfl) key u hb
 intro a w o u
 refine qa o rfl λo=>re<|tn<|?_
 replace u:=u.pk [1,0] rfl
 exact ⟨((decide (1≤p1.N)) && (decide (p1.N≤8))),hm,o.hs,u⟩
 refine cfv o rfl I0<|wk<|tn<|?_
 replace u:=u.pk [1,0] rfl
 exact ⟨(decide (p1.N=0)),hm,o.hs,u⟩
 rintro a w ⟨D0,hm,o,u⟩
 unfold Zas at hm
 refine th<|rg<|qv o (Af o Cg rfl) λo=>qv o (Ag o isAgg3 rfl (u.ld.cellB t0 rfl)) λo=>qv o (Bi o rfl rfl) λo=>qm o rfl λo=>gr (Fk:=[(1,PT E0),(4,.func (.func 146) #[] #[PT C0]),(5,.func (.func 148) #[] #[]),(6,.func (.func 149) #[] #[]),(7,.bool D0),(33,.bool ((decide (1≤p1.Kind)) && (decide (p1.Kind < 15))))]) 29 4 o u ?_ ?_ ?_
 intro hb o key
 exact qg o (Af o Cg rfl) λo=>qg o (Ag o isAgg3 rfl (u.ld.cellB t0 rfl)) λo=>qg o (Aq o rfl rfl) λo=>qk o (Ad o rfl rfl) key u hb
 intro hb o key
 iterate 3 refine qn o λo=>?_
 exact qk o (Ae o rfl rfl) key u hb
 intro a w o u
 refine qm o rfl λo=>gr (Fk:=[(1,PT E0),(4,.func (.func 146) #[] #[PT C0]),(5,.func (.func 148) #[] #[]),(6,.func (.func 149) #[] #[]),(7,.bool D0),(38,.bool (((decide (1≤p1.Kind)) && (decide (p1.Kind < 15))) && (decide (0≤p1.At))))]) 34 4 o u ?_ ?_ ?_
 intro hb o key
 exact qg o (Af o En rfl) λo=>qg o (Ag o isAgg3 rfl (u.ld.cellB t0 rfl)) λo=>qg o (Bi o rfl rfl) λo=>qk o (Ad o rfl rfl) key u hb
 intro hb o key
 iterate 3 refine qn o λo=>?_
 exact qk o (Ae o rfl rfl) key u hb
 intro a w o u
 refine qm o rfl λo=>gr (Fk:=[(1,PT E0),(4,.func (.func 146) #[] #[PT C0]),(5,.func (.func 148) #[] #[]),(6,.func (.func 149) #[] #[]),(7,.bool D0),(43,.bool ((((decide (1≤p1.Kind)) && (decide (p1.Kind < 15))) && (decide (0≤p1.At))) && (decide (p1.At≤4000))))]) 39 4 o u ?_ ?_ ?_
 intro hb o key
 exact qg o (Af o En rfl) λo=>qg o (Ag o isAgg3 rfl (u.ld.cellB t0 rfl)) λo=>qg o (Cs o rfl rfl) λo=>qk o (Ad o rfl rfl) key u hb
 intro hb o key
 iterate 3 refine qn o λo=>?_
 exact qk o (Ae o rfl rfl) key u hb
 intro a w o u
 refine qm o rfl λo=>gr (Fk:=[(1,PT E0),(4,.func (.func 146) #[] #[PT C0]),(5,.func (.func 148) #[] #[]),(6,.func (.func 149) #[] #[]),(46,.bool (((((decide (1≤p1.Kind)) && (decide (p1.Kind < 15))) && (decide (0≤p1.At))) && (decide (p1.At≤4000))) && D0))]) 44 2 o u ?_ ?_ ?_
 intro hb o key
 exact qg o (Ab o rfl) λo=>qk o (Ad o rfl rfl) key u hb
 intro hb o key
 exact qn o λo=>qk o (Ae o rfl rfl) key u hb
 intro a w o u
 refine qa o rfl λo=>re<|tn<|th<|?_
 rcases bit hm with ⟨J0,hm⟩ | ⟨J0,hm⟩
 have J0':(!(((((decide (1≤p1.Kind)) && (decide (p1.Kind < 15))) && (decide (0≤p1.At))) && (decide (p1.At≤4000))) && D0))=false:=by rw [J0];rfl
 obtain ⟨Q0,R0,hm⟩:=bs hm
 obtain ⟨n0,S0,hm⟩:=bs hm
 rcases bit hm with ⟨K0,hm⟩ | ⟨K0,hm⟩
 have K0':(!n0)=false:=by rw [K0];rfl
 obtain ⟨U0,V0,hm⟩:=bs hm
 obtain ⟨u0,W0,hm⟩:=bs hm
 rcases bit hm with ⟨M0,hm⟩ | ⟨M0,hm⟩
 have M0':(!u0)=false:=by rw [M0];rfl
 obtain ⟨B1,C1,hm⟩:=bs hm
 obtain ⟨E1,F1,hm⟩:=bs hm
 rcases bit hm with ⟨O0,hm⟩ | ⟨O0,hm⟩
 have O0':(!E1)=false:=by rw [O0];rfl
 obtain ⟨O1,P1,hm⟩:=bs hm
 obtain ⟨S1,Q1,hm⟩:=bs hm
 refine rdS 39 u wide λw u=>dr 0 u o rfl (Ab o rfl) λo=>dr 1 u o rfl (Az o rfl) λo=>dr 2 u o rfl (As (Ab o rfl) (congrArg Value.bool J0')) λo=>dg 3 u.ld o rfl (λw hl=>Ab o rfl) λo=>dg 4 u.ld o rfl (λw hl=>Ab o rfl) λo=>dg 6 u.ld o rfl (λw hl=>Af o Cx rfl) λo=>dg 7 u.ld o rfl (λw hl=>Ag o isAgg9 rfl (hl.cellB t0 rfl)) λo=>da1 (i:=5) (by kernel_rfl) ?_
 refine di (i:=5) rfl<|gy o rfl rfl<|k1 (vs:=[Ac [114]]) (caps:=[PT C0]) o rfl rfl call146 (Gv (Ai _) (Tab.mono hT (St.up u)) (St.blkO u t1) R0) ⟨rfl,trivial⟩ rfl (λv w a hR o=>?_)
 obtain ⟨rfl,hk⟩:=hR
 replace u:=u.pass hk
 refine ⟨λ_=>u.ld,?_⟩
 refine da1 (i:=8) (by kernel_rfl) ?_
 refine di (i:=8) rfl<|gy o rfl rfl<|k1 (vs:=[.bool Q0,Ac p1.Reg]) (caps:=[]) o rfl rfl call148 (Lw (Ai _) (Tab.mono hT (St.up u)) S0) ⟨rfl,rfl,trivial⟩ rfl (λv w a hR o=>?_)
 obtain ⟨rfl,hk⟩:=hR
 replace u:=u.pass hk
 refine ⟨λ_=>u.ld,?_⟩
 refine dg 9 u.ld o rfl (λw hl=>Az o rfl) λo=>dr 10 u o rfl (Ae o rfl rfl) λo=>dr 11 u o rfl (As (Ab o rfl) (congrArg Value.bool K0')) λo=>dg 12 u.ld o rfl (λw hl=>Ab o rfl) λo=>dg 13 u.ld o rfl (λw hl=>Ab o rfl) λo=>dg 15 u.ld o rfl (λw hl=>Af o Du rfl) λo=>dg 16 u.ld o rfl (λw hl=>Ag o isAgg9 rfl (hl.cellB t0 rfl)) λo=>da1 (i:=14) (by kernel_rfl) ?_
 refine di (i:=14) rfl<|gy o rfl rfl<|k1 (vs:=[Ac [110]]) (caps:=[PT C0]) o rfl rfl call146 (Gv (Ai _) (Tab.mono hT (St.up u)) (St.blkO u t1) V0) ⟨rfl,trivial⟩ rfl (λv w a hR o=>?_)
 obtain ⟨rfl,hk⟩:=hR
 replace u:=u.pass hk
 refine ⟨λ_=>u.ld,?_⟩
 refine da1 (i:=17) (by kernel_rfl) ?_
 refine di (i:=17) rfl<|gy o rfl rfl<|k1 (vs:=[.bool U0,Ac p1.Name]) (caps:=[]) o rfl rfl call148 (Lw (Ai _) (Tab.mono hT (St.up u)) W0) ⟨rfl,rfl,trivial⟩ rfl (λv w a hR o=>?_)
 obtain ⟨rfl,hk⟩:=hR
 replace u:=u.pass hk
 refine ⟨λ_=>u.ld,?_⟩
 refine dg 18 u.ld o rfl (λw hl=>Az o rfl) λo=>dr 19 u o rfl (Ae o rfl rfl) λo=>dr 20 u o rfl (As (Ab o rfl) (congrArg Value.bool M0')) λo=>dg 21 u.ld o rfl (λw hl=>Ab o rfl) λo=>dg 22 u.ld o rfl (λw hl=>Ab o rfl) λo=>dg 24 u.ld o rfl (λw hl=>Af o Dx rfl) λo=>dg 25 u.ld o rfl (λw hl=>Ag o isAgg49 rfl (hl.cellB t0 rfl)) λo=>da1 (i:=23) (by kernel_rfl) ?_
 refine di (i:=23) rfl<|gy o rfl rfl<|k1 (vs:=[Ac [101]]) (caps:=[PT C0]) o rfl rfl call146 (Gv (Ai _) (Tab.mono hT (St.up u)) (St.blkO u t1) C1) ⟨rfl,trivial⟩ rfl (λv w a hR o=>?_)
 obtain ⟨rfl,hk⟩:=hR
 replace u:=u.pass hk
 refine ⟨λ_=>u.ld,?_⟩
 refine da1 (i:=26) (by kernel_rfl) ?_
 refine di (i:=26) rfl<|gy o rfl rfl<|k1 (vs:=[.bool B1,SL P0 p1.E F0]) (caps:=[]) o rfl rfl call149 (Tx (Ai _) (Tab.mono hT (St.up u)) X0 (St.srH u Y0) F1) ⟨rfl,rfl,trivial⟩ rfl (λv w a hR o=>?_)
 obtain ⟨rfl,hk⟩:=hR
 replace u:=u.pass hk
 refine ⟨λ_=>u.ld,?_⟩
 refine dg 27 u.ld o rfl (λw hl=>Az o rfl) λo=>dr 28 u o rfl (Ae o rfl rfl) λo=>dr 29 u o rfl (As (Ab o rfl) (congrArg Value.bool O0')) λo=>dg 30 u.ld o rfl (λw hl=>Ab o rfl) λo=>dg 31 u.ld o rfl (λw hl=>Ab o rfl) λo=>dg 33 u.ld o rfl (λw hl=>Af o Jo rfl) λo=>dg 34 u.ld o rfl (λw hl=>Ag o isAgg49 rfl (hl.cellB t0 rfl)) λo=>da1 (i:=32) (by kernel_rfl) ?_
 refine di (i:=32) rfl<|gy o rfl rfl<|k1 (vs:=[Ac [102]]) (caps:=[PT C0]) o rfl rfl call146 (Gv (Ai _) (Tab.mono hT (St.up u)) (St.blkO u t1) P1) ⟨rfl,trivial⟩ rfl (λv w a hR o=>?_)
 obtain ⟨rfl,hk⟩:=hR
 replace u:=u.pass hk
 refine ⟨λ_=>u.ld,?_⟩
 refine da1 (i:=35) (by kernel_rfl) ?_
 refine di (i:=35) rfl<|gy o rfl rfl<|k1 (vs:=[.bool O1,SL T0 p1.F G0]) (caps:=[]) o rfl rfl call149 (Tx (Ai _) (Tab.mono hT (St.up u)) G1 (St.srH u I1) Q1) ⟨rfl,rfl,trivial⟩ rfl (λv w a hR o=>?_)
 obtain ⟨rfl,hk⟩:=hR
 replace u:=u.pass hk
 refine ⟨λ_=>u.ld,?_⟩
 refine dg 36 u.ld o rfl (λw hl=>Az o rfl) λo=>dr 37 u o rfl (Ae o rfl rfl) λo=>dr 38 u o rfl (Bo o rfl) λo=>de (by kernel_rfl)<|tn<|wr<|?_
 obtain rfl:=si hm
 exact r1 o results110 rfl ⟨rfl,u.keep⟩
 have O0':(!E1)=true:=by rw [O0];rfl
 refine rdS 39 u wide λw u=>dr 0 u o rfl (Ab o rfl) λo=>dr 1 u o rfl (Az o rfl) λo=>dr 2 u o rfl (As (Ab o rfl) (congrArg Value.bool J0')) λo=>dg 3 u.ld o rfl (λw hl=>Ab o rfl) λo=>dg 4 u.ld o rfl (λw hl=>Ab o rfl) λo=>dg 6 u.ld o rfl (λw hl=>Af o Cx rfl) λo=>dg 7 u.ld o rfl (λw hl=>Ag o isAgg9 rfl (hl.cellB t0 rfl)) λo=>da1 (i:=5) (by kernel_rfl) ?_
 refine di (i:=5) rfl<|gy o rfl rfl<|k1 (vs:=[Ac [114]]) (caps:=[PT C0]) o rfl rfl call146 (Gv (Ai _) (Tab.mono hT (St.up u)) (St.blkO u t1) R0) ⟨rfl,trivial⟩ rfl (λv w a hR o=>?_)
 obtain ⟨rfl,hk⟩:=hR
 replace u:=u.pass hk
 refine ⟨λ_=>u.ld,?_⟩
 refine da1 (i:=8) (by kernel_rfl) ?_
 refine di (i:=8) rfl<|gy o rfl rfl<|k1 (vs:=[.bool Q0,Ac p1.Reg]) (caps:=[]) o rfl rfl call148 (Lw (Ai _) (Tab.mono hT (St.up u)) S0) ⟨rfl,rfl,trivial⟩ rfl (λv w a hR o=>?_)
 obtain ⟨rfl,hk⟩:=hR
 replace u:=u.pass hk
 refine ⟨λ_=>u.ld,?_⟩
 refine dg 9 u.ld o rfl (λw hl=>Az o rfl) λo=>dr 10 u o rfl (Ae o rfl rfl) λo=>dr 11 u o rfl (As (Ab o rfl) (congrArg Value.bool K0')) λo=>dg 12 u.ld o rfl (λw hl=>Ab o rfl) λo=>dg 13 u.ld o rfl (λw hl=>Ab o rfl) λo=>dg 15 u.ld o rfl (λw hl=>Af o Du rfl) λo=>dg 16 u.ld o rfl (λw hl=>Ag o isAgg9 rfl (hl.cellB t0 rfl)) λo=>da1 (i:=14) (by kernel_rfl) ?_
 refine di (i:=14) rfl<|gy o rfl rfl<|k1 (vs:=[Ac [110]]) (caps:=[PT C0]) o rfl rfl call146 (Gv (Ai _) (Tab.mono hT (St.up u)) (St.blkO u t1) V0) ⟨rfl,trivial⟩ rfl (λv w a hR o=>?_)
 obtain ⟨rfl,hk⟩:=hR
 replace u:=u.pass hk
 refine ⟨λ_=>u.ld,?_⟩
 refine da1 (i:=17) (by kernel_rfl) ?_
 refine di (i:=17) rfl<|gy o rfl rfl<|k1 (vs:=[.bool U0,Ac p1.Name]) (caps:=[]) o rfl rfl call148 (Lw (Ai _) (Tab.mono hT (St.up u)) W0) ⟨rfl,rfl,trivial⟩ rfl (λv w a hR o=>?_)
 obtain ⟨rfl,hk⟩:=hR
 replace u:=u.pass hk
 refine ⟨λ_=>u.ld,?_⟩
 refine dg 18 u.ld o rfl (λw hl=>Az o rfl) λo=>dr 19 u o rfl (Ae o rfl rfl) λo=>dr 20 u o rfl (As (Ab o rfl) (congrArg Value.bool M0')) λo=>dg 21 u.ld o rfl (λw hl=>Ab o rfl) λo=>dg 22 u.ld o rfl (λw hl=>Ab o rfl) λo=>dg 24 u.ld o rfl (λw hl=>Af o Dx rfl) λo=>dg 25 u.ld o rfl (λw hl=>Ag o isAgg49 rfl (hl.cellB t0 rfl)) λo=>da1 (i:=23) (by kernel_rfl) ?_
 refine di (i:=23) rfl<|gy o rfl rfl<|k1 (vs:=[Ac [101]]) (caps:=[PT C0]) o rfl rfl call146 (Gv (Ai _) (Tab.mono hT (St.up u)) (St.blkO u t1) C1) ⟨rfl,trivial⟩ rfl (λv w a hR o=>?_)
 obtain ⟨rfl,hk⟩:=hR
 replace u:=u.pass hk
 refine ⟨λ_=>u.ld,?_⟩
 refine da1 (i:=26) (by kernel_rfl) ?_
 refine di (i:=26) rfl<|gy o rfl rfl<|k1 (vs:=[.bool B1,SL P0 p1.E F0]) (caps:=[]) o rfl rfl call149 (Tx (Ai _) (Tab.mono hT (St.up u)) X0 (St.srH u Y0) F1) ⟨rfl,rfl,trivial⟩ rfl (λv w a hR o=>?_)
 obtain ⟨rfl,hk⟩:=hR
 replace u:=u.pass hk
 refine ⟨λ_=>u.ld,?_⟩
 refine dg 27 u.ld o rfl (λw hl=>Az o rfl) λo=>dr 28 u o rfl (Ae o rfl rfl) λo=>dr 29 u o rfl (As (Ab o rfl) (congrArg Value.bool O0')) λo=>dn 30 u.ld o rfl λo=>dn 31 u.ld o rfl λo=>dn 32 u.ld o rfl λo=>dn 33 u.ld o rfl λo=>dn 34 u.ld o rfl λo=>dn 35 u.ld o rfl λo=>dn 36 u.ld o rfl λo=>dr 37 u o rfl (Ad o rfl rfl) λo=>dr 38 u o rfl (Bo o rfl) λo=>de (by kernel_rfl)<|tn<|wr<|?_
 obtain rfl:=si hm
 exact r1 o results110 rfl ⟨rfl,u.keep⟩
 have M0':(!u0)=true:=by rw [M0];rfl
 refine rdS 39 u wide λw u=>dr 0 u o rfl (Ab o rfl) λo=>dr 1 u o rfl (Az o rfl) λo=>dr 2 u o rfl (As (Ab o rfl) (congrArg Value.bool J0')) λo=>dg 3 u.ld o rfl (λw hl=>Ab o rfl) λo=>dg 4 u.ld o rfl (λw hl=>Ab o rfl) λo=>dg 6 u.ld o rfl (λw hl=>Af o Cx rfl) λo=>dg 7 u.ld o rfl (λw hl=>Ag o isAgg9 rfl (hl.cellB t0 rfl)) λo=>da1 (i:=5) (by kernel_rfl) ?_
 refine di (i:=5) rfl<|gy o rfl rfl<|k1 (vs:=[Ac [114]]) (caps:=[PT C0]) o rfl rfl call146 (Gv (Ai _) (Tab.mono hT (St.up u)) (St.blkO u t1) R0) ⟨rfl,trivial⟩ rfl (λv w a hR o=>?_)
 obtain ⟨rfl,hk⟩:=hR
 replace u:=u.pass hk
 refine ⟨λ_=>u.ld,?_⟩
 refine da1 (i:=8) (by kernel_rfl) ?_
 refine di (i:=8) rfl<|gy o rfl rfl<|k1 (vs:=[.bool Q0,Ac p1.Reg]) (caps:=[]) o rfl rfl call148 (Lw (Ai _) (Tab.mono hT (St.up u)) S0) ⟨rfl,rfl,trivial⟩ rfl (λv w a hR o=>?_)
 obtain ⟨rfl,hk⟩:=hR
 replace u:=u.pass hk
 refine ⟨λ_=>u.ld,?_⟩
 refine dg 9 u.ld o rfl (λw hl=>Az o rfl) λo=>dr 10 u o rfl (Ae o rfl rfl) λo=>dr 11 u o rfl (As (Ab o rfl) (congrArg Value.bool K0')) λo=>dg 12 u.ld o rfl (λw hl=>Ab o rfl) λo=>dg 13 u.ld o rfl (λw hl=>Ab o rfl) λo=>dg 15 u.ld o rfl (λw hl=>Af o Du rfl) λo=>dg 16 u.ld o rfl (λw hl=>Ag o isAgg9 rfl (hl.cellB t0 rfl)) λo=>da1 (i:=14) (by kernel_rfl) ?_
 refine di (i:=14) rfl<|gy o rfl rfl<|k1 (vs:=[Ac [110]]) (caps:=[PT C0]) o rfl rfl call146 (Gv (Ai _) (Tab.mono hT (St.up u)) (St.blkO u t1) V0) ⟨rfl,trivial⟩ rfl (λv w a hR o=>?_)
 obtain ⟨rfl,hk⟩:=hR
 replace u:=u.pass hk
 refine ⟨λ_=>u.ld,?_⟩
 refine da1 (i:=17) (by kernel_rfl) ?_
 refine di (i:=17) rfl<|gy o rfl rfl<|k1 (vs:=[.bool U0,Ac p1.Name]) (caps:=[]) o rfl rfl call148 (Lw (Ai _) (Tab.mono hT (St.up u)) W0) ⟨rfl,rfl,trivial⟩ rfl (λv w a hR o=>?_)
 obtain ⟨rfl,hk⟩:=hR
 replace u:=u.pass hk
 refine ⟨λ_=>u.ld,?_⟩
 refine dg 18 u.ld o rfl (λw hl=>Az o rfl) λo=>dr 19 u o rfl (Ae o rfl rfl) λo=>dr 20 u o rfl (As (Ab o rfl) (congrArg Value.bool M0')) λo=>dn 21 u.ld o rfl λo=>dn 22 u.ld o rfl λo=>dn 23 u.ld o rfl λo=>dn 24 u.ld o rfl λo=>dn 25 u.ld o rfl λo=>dn 26 u.ld o rfl λo=>dn 27 u.ld o rfl λo=>dr 28 u o rfl (Ad o rfl rfl) λo=>dr 29 u o rfl (Ab o rfl) λo=>dn 30 u.ld o rfl λo=>dn 31 u.ld o rfl λo=>dn 32 u.ld o rfl λo=>dn 33 u.ld o rfl λo=>dn 34 u.ld o rfl λo=>dn 35 u.ld o rfl λo=>dn 36 u.ld o rfl λo=>dr 37 u o rfl (Ad o rfl rfl) λo=>dr 38 u o rfl (Bo o rfl) λo=>de (by kernel_rfl)<|tn<|wr<|?_
 obtain rfl:=si hm
 exact r1 o results110 rfl ⟨rfl,u.keep⟩
 have K0':(!n0)=true:=by rw [K0];rfl
 refine rdS 39 u wide λw u=>dr 0 u o rfl (Ab o rfl) λo=>dr 1 u o rfl (Az o rfl) λo=>dr 2 u o rfl (As (Ab o rfl) (congrArg Value.bool J0')) λo=>dg 3 u.ld o rfl (λw hl=>Ab o rfl) λo=>dg 4 u.ld o rfl (λw hl=>Ab o rfl) λo=>dg 6 u.ld o rfl (λw hl=>Af o Cx rfl) λo=>dg 7 u.ld o rfl (λw hl=>Ag o isAgg9 rfl (hl.cellB t0 rfl)) λo=>da1 (i:=5) (by kernel_rfl) ?_
 refine di (i:=5) rfl<|gy o rfl rfl<|k1 (vs:=[Ac [114]]) (caps:=[PT C0]) o rfl rfl call146 (Gv (Ai _) (Tab.mono hT (St.up u)) (St.blkO u t1) R0) ⟨rfl,trivial⟩ rfl (λv w a hR o=>?_)
 obtain ⟨rfl,hk⟩:=hR
 replace u:=u.pass hk
 refine ⟨λ_=>u.ld,?_⟩
 refine da1 (i:=8) (by kernel_rfl) ?_
 refine di (i:=8) rfl<|gy o rfl rfl<|k1 (vs:=[.bool Q0,Ac p1.Reg]) (caps:=[]) o rfl rfl call148 (Lw (Ai _) (Tab.mono hT (St.up u)) S0) ⟨rfl,rfl,trivial⟩ rfl (λv w a hR o=>?_)
 obtain ⟨rfl,hk⟩:=hR
 replace u:=u.pass hk
 refine ⟨λ_=>u.ld,?_⟩
 refine dg 9 u.ld o rfl (λw hl=>Az o rfl) λo=>dr 10 u o rfl (Ae o rfl rfl) λo=>dr 11 u o rfl (As (Ab o rfl) (congrArg Value.bool K0')) λo=>dn 12 u.ld o rfl λo=>dn 13 u.ld o rfl λo=>dn 14 u.ld o rfl λo=>dn 15 u.ld o rfl λo=>dn 16 u.ld o rfl λo=>dn 17 u.ld o rfl λo=>dn 18 u.ld o rfl λo=>dr 19 u o rfl (Ad o rfl rfl) λo=>dr 20 u o rfl (Ab o rfl) λo=>dn 21 u.ld o rfl λo=>dn 22 u.ld o rfl λo=>dn 23 u.ld o rfl λo=>dn 24 u.ld o rfl λo=>dn 25 u.ld o rfl λo=>dn 26 u.ld o rfl λo=>dn 27 u.ld o rfl λo=>dr 28 u o rfl (Ad o rfl rfl) λo=>dr 29 u o rfl (Ab o rfl) λo=>dn 30 u.ld o rfl λo=>dn 31 u.ld o rfl λo=>dn 32 u.ld o rfl λo=>dn 33 u.ld o rfl λo=>dn 34 u.ld o rfl λo=>dn 35 u.ld o rfl λo=>dn 36 u.ld o rfl λo=>dr 37 u o rfl (Ad o rfl rfl) λo=>dr 38 u o rfl (Bo o rfl) λo=>de (by kernel_rfl)<|?_
 refine tn<|wr<|?_
 obtain rfl:=si hm
 exact r1 o results110 rfl ⟨rfl,u.keep⟩
 have J0':(!(((((decide (1≤p1.Kind)) && (decide (p1.Kind < 15))) && (decide (0≤p1.At))) && (decide (p1.At≤4000))) && D0))=true:=by rw [J0];rfl
 refine rxS 39 u wide (by kernel_rfl) λw u=>xm u o rfl λo=>xr u o (Az o rfl) λo=>xr u o (As (Ab o rfl) (congrArg Value.bool J0')) λo=>?_
 iterate 7 refine xn u.ld o λo=>?_
 refine xr u o (Ad o rfl rfl) λo=>xm u o rfl λo=>?_
 iterate 7 refine xn u.ld o λo=>?_
 refine xr u o (Ad o rfl rfl) λo=>xm u o rfl λo=>?_
 iterate 7 refine xn u.ld o λo=>?_
 refine xr u o (Ad o rfl rfl) λo=>xm u o rfl λo=>?_
 iterate 7 refine xn u.ld o λo=>?_
 refine xr u o (Ad o rfl rfl) λo=>xr u o (Bo o rfl) λo=>xe<|tn<|wr<|?_
 obtain rfl:=si hm
 exact r1 o results110 rfl ⟨rfl,u.keep⟩
theorem Jbo (hH:H.le w0) (hT:Tab H) {K0:Option Addr} {E0:Nat} {p1:(List api_Stmt)} (_:p1.length≤E0) (Q0:SR H K0 p1) {r:Int} (hm:Z9u N p1=some r):Tot Tryz.prog 144 #[SL K0 p1 E0,.func (.func 110) #[] #[]] w0 (λv w'=>v=i6 r∧Keep Nil w0 w'):=by
 unfold Z9u at hm
 refine fn0 func144 rfl ntmps144 rfl rfl λa o=>?_
 have u:St w0 Nil [H] [] w0:=start1 hH
 refine th<|rg<|qa o rfl λo=>re<|tn<|th<|th<|rg<|qm o rfl λo=>qv o (Ak (α:=api_Stmt) (xs:=p1) o runUnderlying46 rfl) λo=>qm o rfl λo=>re<|tn<|Au (λa w=>Z9v=some r∧Fr 19 [] a∧St w0 Nil [H] [] w) ?_ ?_
 refine wb<|lp (α:=Nat×Int) (λgh a w=>match gh with | (D0,G0)=>(Z9w N Z9v p1) D0 G0=some r∧Fr 19 [(0,SL K0 p1 E0),(1,.func (.func 110) #[] #[]),(7,i6 (p1.length:Int)),(8,i6 G0)] a∧St w0 Nil [H] [] w) (λgh=>gh.1) (N,0) ⟨hm,o.hs,u⟩ ?_
 rintro ⟨D0,G0⟩ a w ⟨hm,o,u⟩
 obtain _ | D0:=D0
 simp [Z9w] at hm
 rw [Z9w] at hm
 refine th<|rg<|qv o (Aq o rfl rfl) λo=>re<|?_
 rcases bip hm with ⟨M0,hm⟩ | ⟨M0,hm⟩
 refine tn<|th<|ctv o rfl M0<|wk<|tn<|th<|wb<|th<|rg<|qm o rfl λo=>qa o rfl λo=>re<|tn<|th<|?_
 obtain ⟨C0,h8,hm⟩:=bs hm
 obtain ⟨cz9,W0,R0⟩:=SR.get Q0 h8
 obtain ⟨O0,I0,P0,J0,rfl,S0,T0,U0,V0⟩:=Bn W0
 obtain ⟨Y0,X0,hm⟩:=bs hm
 refine rg<|qm o rfl λo=>?_
 iterate 2 refine qm o rfl λo=>?_
 refine qv o (An o runUnderlying46 sizeOf51 rfl rfl h8 (SR.oaI Q0 (by decide) h8)) λo=>qv o (Ay o isAgg51 sizeOf51 rfl rfl (λj v hj=>PH.le.cell (Lds.le u.ld) (R0 j v hj))) λo=>ls<|k1 (vs:=[.agg #[i6 C0.Kind,Ac C0.Reg,Ac C0.Name,SL O0 C0.E I0,SL P0 C0.F J0,i6 C0.N,i6 C0.Body,i6 C0.Else,i6 C0.At]]) (caps:=[]) o rfl rfl call110 (Jcj (Ai _) (Tab.mono hT (St.up u)) (Enc.mono (St.up u) (show Enc.rep (α:=api_Stmt) H [i6 C0.Kind,Ac C0.Reg,Ac C0.Name,SL O0 C0.E I0,SL P0 C0.F J0,i6 C0.N,i6 C0.Body,i6 C0.Else,i6 C0.At] C0 from ⟨_,_,rfl,rfl,⟨_,_,rfl,rfl,⟨_,_,rfl,rfl,⟨_,_,rfl,⟨_,_,rfl,S0,T0⟩,⟨_,_,rfl,⟨_,_,rfl,U0,V0⟩,⟨_,_,rfl,rfl,⟨_,_,rfl,rfl,⟨_,_,rfl,rfl,rfl⟩⟩⟩⟩⟩⟩⟩⟩)) X0) ⟨rfl,trivial⟩ rfl (λv w a hR o=>?_)
 obtain ⟨rfl,hk⟩:=hR
 replace u:=u.pass hk
 refine re<|?_
 rcases bit hm with ⟨F0,hm⟩ | ⟨F0,hm⟩
 refine tn<|ctv o rfl F0<|th<|rg<|qm o rfl λo=>qa o rfl λo=>re<|tn<|wr<|br<|tr<|tr<|br<|tr<|?_
 obtain rfl:=si hm
 exact r1 o results144 rfl ⟨rfl,u.keep⟩
 refine tn<|cfv o rfl F0<|wk<|bn<|tn<|rg<|qv o (Ap o rfl rfl) λo=>qm o rfl λo=>re<|tn<|?_
 exact ⟨(D0,(IntKind.i64.wrap (G0+1))),⟨hm,o.hs,u⟩,Nat.lt_succ_self _⟩
 refine tn<|th<|cfv o rfl M0<|we<|tx<|tx<|bx<|tn<|?_
 exact ⟨hm,o.has trivial,u⟩
 rintro a w ⟨hm,o,u⟩
 unfold Z9v at hm
 refine th<|rg<|qa o rfl λo=>re<|tn<|wr<|?_
 obtain rfl:=si hm
 exact r1 o results144 rfl ⟨rfl,u.keep⟩
theorem Jbl (hH:H.le w0) (hT:Tab H) {D0:Option Addr} {C0:Nat} {p1:(List api_Stmt)} (E0:p1.length≤C0) (F0:SR H D0 p1) {r:Bool} (hm:Z99 N p1=some r):Tot Tryz.prog 109 #[SL D0 p1 C0,.func (.func 110) #[] #[]] w0 (λv w'=>v=.bool r∧Keep Nil w0 w'):=by
 unfold Z99 at hm
 refine fn0 func109 rfl ntmps109 rfl rfl λa o=>?_
 have u:St w0 Nil [H] [] w0:=start1 hH
 refine th<|rg<|qa o rfl λo=>re<|tn<|th<|?_
 obtain ⟨G0,h7,hm⟩:=bs hm
 refine rg<|qm o rfl λo=>qm o rfl λo=>ls<|cr o call144 (Jbo (Ai _) (Tab.mono hT (St.up u)) E0 (St.srH u F0) h7) u λu o=>qv o (Bi o rfl rfl) λo=>qa o rfl λo=>re<|tn<|wr<|?_
 obtain rfl:=si hm
 exact r1 o results109 rfl ⟨rfl,u.keep⟩
theorem Jbh (hH:H.le w0) {p1:Bool} {r:Int} (hm:Zat N p1=some r):Tot Tryz.prog 150 #[.bool p1] w0 (λv w'=>v=i6 r∧Keep Nil w0 w'):=by
 unfold Zat at hm
 refine fn0 func150 rfl ntmps150 rfl rfl λa o=>?_
 have u:St w0 Nil [H] [] w0:=start1 hH
 refine th<|rg<|qa o rfl λo=>re<|tn<|th<|th<|rg<|qm o rfl λo=>re<|?_
 rcases bit hm with ⟨C0,hm⟩ | ⟨C0,hm⟩
 refine tn<|ctv o rfl C0<|th<|rg<|qa o rfl λo=>re<|tn<|wr<|tr<|?_
 obtain rfl:=si hm
 exact r1 o results150 rfl ⟨rfl,u.keep⟩
 refine tn<|cfv o rfl C0<|wk<|tn<|th<|rg<|qa o rfl λo=>re<|tn<|wr<|?_
 obtain rfl:=si hm
 exact r1 o results150 rfl ⟨rfl,u.keep⟩
set_option maxHeartbeats 4000000 in
theorem Jbq:∀ (N:Nat) {w0:World} {H:PH} (_:H.le w0) {G0:Option Addr} {E0:Nat} {p1:(List api_Stmt)} (_:p1.length≤E0) (_:SR H G0 p1) {p6:Int} {r:Int} (_:Zai N p1 p6=some r),Tot Tryz.prog 111 #[SL G0 p1 E0,i6 p6] w0 (λv w'=>v=i6 r∧Keep Nil w0 w'):=by
 intro N
 induction N with
  | zero=>intros;rename_i hm;simp [Zai] at hm
  | succ N ih=>
 intro w0 H hH G0 E0 p1 S0 T0 p6 r hm
 rw [Zai] at hm
 refine fn0 func111 rfl ntmps111 rfl rfl λa o=>?_
 have u:St w0 Nil [H] [] w0:=start1 hH
 refine th<|rg<|qa o rfl λo=>re<|tn<|th<|rg<|qa o rfl λo=>re<|tn<|th<|th<|rg<|qa o rfl λo=>re<|tn<|Au (λa w=>∃ (V0:Int),Zaj V0=some r∧Fr 131 [(5,i6 V0)] a∧St w0 Nil [H] [] w) ?_ ?_
 refine wb<|lp (α:=Nat×Int×Int) (λgh a w=>match gh with | (J0,F0,D0)=>(Zam (Zai N) N Zaj p1 p6) J0 F0 D0=some r∧Fr 131 [(0,SL G0 p1 E0),(1,i6 p6),(5,i6 F0),(6,i6 D0)] a∧St w0 Nil [H] [] w) (λgh=>gh.1) (N,0,0) ⟨hm,o.hs,u⟩ ?_
 rintro ⟨J0,F0,D0⟩ a w ⟨hm,o,u⟩
 obtain _ | J0:=J0
 simp [Zam] at hm
 rw [Zam] at hm
 refine th<|th<|rg<|qm o rfl λo=>qm o rfl λo=>qv o (Ak (α:=api_Stmt) (xs:=p1) o runUnderlying46 rfl) λo=>qv o (Aq o rfl rfl) λo=>re<|?_
 rcases bip hm with ⟨W0,hm⟩ | ⟨W0,hm⟩
 refine tn<|ctv o rfl W0<|wk<|tn<|wb<|th<|?_
 obtain ⟨C0,h9,hm⟩:=bs hm
 obtain ⟨F2,P1,E1⟩:=SR.get T0 h9
 obtain ⟨F1,n0,G1,u0,rfl,V1,X1,Y1,B2⟩:=Bn P1
 refine rg<|qm o rfl λo=>qm o rfl λo=>qv o (An o runUnderlying46 sizeOf51 rfl rfl h9 (SR.oaI T0 (by decide) h9)) λo=>qv o (Ay o isAgg51 sizeOf51 rfl rfl (λj v hj=>PH.le.cell (Lds.le u.ld) (E1 j v hj))) λo=>ls<|Aw (cs:=[i6 0,Ac [],Ac [],.slice none 0 0,.slice none 0 0,i6 0,i6 0,i6 0,i6 0].toArray) o rfl u zeroValue51 rfl λI0 w a u o=>ls<|Ba o u sizeOf51 rfl rfl rfl rfl (Am rfl) .head λw u=>re<|tn<|th<|rg<|qm o rfl λo=>qv o (Ap o rfl rfl) λo=>qv o (Af o Do rfl) λo=>qv o (Ag o isAgg3 rfl (u.ld.cellB t0 rfl)) λo=>qv o (Ap o rfl rfl) λo=>qv o (Af o Dw rfl) λo=>qv o (Ag o isAgg3 rfl (u.ld.cellB t0 rfl)) λo=>qv o (Ap o rfl rfl) λo=>qa o rfl λo=>re<|tn<|th<|rg<|qv o (Af o Cg rfl) λo=>qv o (Ag o isAgg3 rfl (u.ld.cellB t0 rfl)) λo=>qv o (Al o rfl rfl) λo=>qm o rfl λo=>gr (Fk:=[(0,SL G0 p1 E0),(1,i6 p6),(5,i6 F0),(6,i6 D0),(7,PT I0),(8,i6 (IntKind.i64.wrap ((IntKind.i64.wrap ((IntKind.i64.wrap (D0+1))+C0.Body))+C0.Else))),(36,.bool ((decide (C0.Kind=11)) || (decide (C0.Kind=12))))]) 32 4 o u ?_ ?_ ?_
 intro hb o key
 iterate 3 refine qn o λo=>?_
 exact qk o (Ad o rfl rfl) key u hb
 intro hb o key
 exact qg o (Af o Cg rfl) λo=>qg o (Ag o isAgg3 rfl (u.ld.cellB t0 rfl)) λo=>qg o (Al o rfl rfl) λo=>qk o (Ae o rfl rfl) key u hb
 intro a w o u
 refine qa o rfl λo=>re<|tn<|th<|wb<|th<|rg<|qv o (Af o Do rfl) λo=>qv o (Ag o isAgg3 rfl (u.ld.cellB t0 rfl)) λo=>qv o (Aq o rfl rfl) λo=>qm o rfl λo=>gr (Fk:=[(0,SL G0 p1 E0),(1,i6 p6),(5,i6 F0),(6,i6 D0),(7,PT I0),(8,i6 (IntKind.i64.wrap ((IntKind.i64.wrap ((IntKind.i64.wrap (D0+1))+C0.Body))+C0.Else))),(9,.bool ((decide (C0.Kind=11)) || (decide (C0.Kind=12)))),(45,.bool ((decide (C0.Body < 0)) || (decide (C0.Else < 0))))]) 41 4 o u ?_ ?_ ?_
 intro hb o key
 iterate 3 refine qn o λo=>?_
 exact qk o (Ad o rfl rfl) key u hb
 intro hb o key
 exact qg o (Af o Dw rfl) λo=>qg o (Ag o isAgg3 rfl (u.ld.cellB t0 rfl)) λo=>qg o (Aq o rfl rfl) λo=>qk o (Ae o rfl rfl) key u hb
 intro a w o u
 refine qm o rfl λo=>gr (Fk:=[(0,SL G0 p1 E0),(1,i6 p6),(5,i6 F0),(6,i6 D0),(7,PT I0),(8,i6 (IntKind.i64.wrap ((IntKind.i64.wrap ((IntKind.i64.wrap (D0+1))+C0.Body))+C0.Else))),(9,.bool ((decide (C0.Kind=11)) || (decide (C0.Kind=12)))),(52,.bool (((decide (C0.Body < 0)) || (decide (C0.Else < 0))) || (decide ((p1.length:Int) < C0.Body))))]) 46 6 o u ?_ ?_ ?_
 intro hb o key
 iterate 5 refine qn o λo=>?_
 exact qk o (Ad o rfl rfl) key u hb
 intro hb o key
 exact qg o (Af o Do rfl) λo=>qg o (Ag o isAgg3 rfl (u.ld.cellB t0 rfl)) λo=>qg o (Ab o rfl) λo=>qg o (Ak (α:=api_Stmt) (xs:=p1) o runUnderlying46 rfl) λo=>qg o (Be o rfl rfl) λo=>qk o (Ae o rfl rfl) key u hb
 intro a w o u
 refine qm o rfl λo=>gr (Fk:=[(0,SL G0 p1 E0),(1,i6 p6),(5,i6 F0),(6,i6 D0),(7,PT I0),(8,i6 (IntKind.i64.wrap ((IntKind.i64.wrap ((IntKind.i64.wrap (D0+1))+C0.Body))+C0.Else))),(9,.bool ((decide (C0.Kind=11)) || (decide (C0.Kind=12)))),(59,.bool ((((decide (C0.Body < 0)) || (decide (C0.Else < 0))) || (decide ((p1.length:Int) < C0.Body))) || (decide ((p1.length:Int) < C0.Else))))]) 53 6 o u ?_ ?_ ?_
 intro hb o key
 iterate 5 refine qn o λo=>?_
 exact qk o (Ad o rfl rfl) key u hb
 intro hb o key
 exact qg o (Af o Dw rfl) λo=>qg o (Ag o isAgg3 rfl (u.ld.cellB t0 rfl)) λo=>qg o (Ab o rfl) λo=>qg o (Ak (α:=api_Stmt) (xs:=p1) o runUnderlying46 rfl) λo=>qg o (Be o rfl rfl) λo=>qk o (Ae o rfl rfl) key u hb
 intro a w o u
 refine qm o rfl λo=>gr (Fk:=[(0,SL G0 p1 E0),(1,i6 p6),(5,i6 F0),(6,i6 D0),(7,PT I0),(8,i6 (IntKind.i64.wrap ((IntKind.i64.wrap ((IntKind.i64.wrap (D0+1))+C0.Body))+C0.Else))),(9,.bool ((decide (C0.Kind=11)) || (decide (C0.Kind=12)))),(65,.bool (((((decide (C0.Body < 0)) || (decide (C0.Else < 0))) || (decide ((p1.length:Int) < C0.Body))) || (decide ((p1.length:Int) < C0.Else))) || (decide ((p1.length:Int) < (IntKind.i64.wrap ((IntKind.i64.wrap ((IntKind.i64.wrap (D0+1))+C0.Body))+C0.Else))))))]) 60 5 o u ?_ ?_ ?_
 intro hb o key
 iterate 4 refine qn o λo=>?_
 exact qk o (Ad o rfl rfl) key u hb
 intro hb o key
 iterate 2 refine qg o (Ab o rfl) λo=>?_
 exact qg o (Ak (α:=api_Stmt) (xs:=p1) o runUnderlying46 rfl) λo=>qg o (Be o rfl rfl) λo=>qk o (Ae o rfl rfl) key u hb
 intro a w o u
 refine qa o rfl λo=>re<|?_
 rcases bit hm with ⟨K0,hm⟩ | ⟨K0,hm⟩
 refine tn<|ctv o rfl K0<|th<|rg<|qa o rfl λo=>re<|tn<|wr<|br<|tr<|br<|tr<|br<|tr<|?_
 obtain rfl:=si hm
 exact r1 o results111 rfl ⟨rfl,u.keep⟩
 refine tn<|cfv o rfl K0<|th<|th<|rg<|qm o rfl λo=>qv o (Az o rfl) λo=>qm o rfl λo=>gr (Fk:=[(0,SL G0 p1 E0),(1,i6 p6),(5,i6 F0),(6,i6 D0),(7,PT I0),(8,i6 (IntKind.i64.wrap ((IntKind.i64.wrap ((IntKind.i64.wrap (D0+1))+C0.Body))+C0.Else))),(9,.bool ((decide (C0.Kind=11)) || (decide (C0.Kind=12)))),(73,.bool ((!((decide (C0.Kind=11)) || (decide (C0.Kind=12)))) && (decide (0 < C0.Body))))]) 69 4 o u ?_ ?_ ?_
 intro hb o key
 exact qg o (Af o Do rfl) λo=>qg o (Ag o isAgg3 rfl (u.ld.cellB t0 rfl)) λo=>qg o (Be o rfl rfl) λo=>qk o (Ad o rfl rfl) key u hb
 intro hb o key
 iterate 3 refine qn o λo=>?_
 exact qk o (Ae o rfl rfl) key u hb
 intro a w o u
 refine qa o rfl λo=>re<|tn<|Au (λa w=>∃ (X0:Bool),(Zak (Zai N) N ((Zam (Zai N) N Zaj p1 p6) J0) p1 p6 C0 F0 D0) X0=some r∧Fr 131 [(0,SL G0 p1 E0),(1,i6 p6),(5,i6 F0),(6,i6 D0),(7,PT I0),(8,i6 (IntKind.i64.wrap ((IntKind.i64.wrap ((IntKind.i64.wrap (D0+1))+C0.Body))+C0.Else))),(9,.bool ((decide (C0.Kind=11)) || (decide (C0.Kind=12)))),(66,.bool X0)] a∧St w0 Nil [H] [bk I0 [i6 C0.Kind,Ac C0.Reg,Ac C0.Name,SL F1 C0.E n0,SL G1 C0.F u0,i6 C0.N,i6 C0.Body,i6 C0.Else,i6 C0.At] 51] w) ?_ ?_
 rcases bit hm with ⟨M0,hm⟩ | ⟨M0,hm⟩
 refine ctv o rfl M0<|wk<|tn<|?_
 exact ⟨((!((decide (C0.Kind=11)) || (decide (C0.Kind=12)))) && (decide (0 < C0.Body))),hm,o.hs,u⟩
 refine cfv o rfl M0<|th<|rg<|qv o (Af o Cg rfl) λo=>qv o (Ag o isAgg3 rfl (u.ld.cellB t0 rfl)) λo=>qv o (Bt o rfl rfl) λo=>qm o rfl λo=>gr (Fk:=[(0,SL G0 p1 E0),(1,i6 p6),(5,i6 F0),(6,i6 D0),(7,PT I0),(8,i6 (IntKind.i64.wrap ((IntKind.i64.wrap ((IntKind.i64.wrap (D0+1))+C0.Body))+C0.Else))),(9,.bool ((decide (C0.Kind=11)) || (decide (C0.Kind=12)))),(81,.bool ((decide (C0.Kind≠11)) && (decide (0 < C0.Else))))]) 77 4 o u ?_ ?_ ?_
 intro hb o key
 exact qg o (Af o Dw rfl) λo=>qg o (Ag o isAgg3 rfl (u.ld.cellB t0 rfl)) λo=>qg o (Be o rfl rfl) λo=>qk o (Ad o rfl rfl) key u hb
 intro hb o key
 iterate 3 refine qn o λo=>?_
 exact qk o (Ae o rfl rfl) key u hb
 intro a w o u
 refine qa o rfl λo=>re<|?_
 rcases bit hm with ⟨O0,hm⟩ | ⟨O0,hm⟩
 refine tn<|ctv o rfl O0<|wk<|tn<|?_
 exact ⟨((decide (C0.Kind≠11)) && (decide (0 < C0.Else))),hm,o.hs,u⟩
 refine tn<|cfv o rfl O0<|rg<|qv o (Af o Cg rfl) λo=>qv o (Ag o isAgg3 rfl (u.ld.cellB t0 rfl)) λo=>qv o (Al o rfl rfl) λo=>qm o rfl λo=>gr (Fk:=[(0,SL G0 p1 E0),(1,i6 p6),(5,i6 F0),(6,i6 D0),(7,PT I0),(8,i6 (IntKind.i64.wrap ((IntKind.i64.wrap ((IntKind.i64.wrap (D0+1))+C0.Body))+C0.Else))),(9,.bool ((decide (C0.Kind=11)) || (decide (C0.Kind=12)))),(88,.bool ((decide (C0.Kind=13)) && (decide (p6=0))))]) 85 3 o u ?_ ?_ ?_
 intro hb o key
 exact qg o (Ab o rfl) λo=>qg o (Al o rfl rfl) λo=>qk o (Ad o rfl rfl) key u hb
 intro hb o key
 iterate 2 refine qn o λo=>?_
 exact qk o (Ae o rfl rfl) key u hb
 intro a w o u
 refine qa o rfl λo=>re<|tn<|?_
 exact ⟨((decide (C0.Kind=13)) && (decide (p6=0))),hm,o.hs,u⟩
 rintro a w ⟨X0,hm,o,u⟩
 unfold Zak at hm
 rcases bit hm with ⟨P0,hm⟩ | ⟨P0,hm⟩
 refine ctv o rfl P0<|th<|rg<|qa o rfl λo=>re<|tn<|wr<|br<|tr<|br<|tr<|br<|tr<|?_
 obtain rfl:=si hm
 exact r1 o results111 rfl ⟨rfl,u.keep⟩
 refine cfv o rfl P0<|wk<|bn<|tn<|th<|th<|rg<|qm o rfl λo=>re<|tn<|Au (λa w=>∃ (U0:Int),(Zal ((Zam (Zai N) N Zaj p1 p6) J0) C0 D0) U0=some r∧Fr 131 [(0,SL G0 p1 E0),(1,i6 p6),(5,i6 U0),(8,i6 (IntKind.i64.wrap ((IntKind.i64.wrap ((IntKind.i64.wrap (D0+1))+C0.Body))+C0.Else)))] a∧St w0 Nil [H] [] w) ?_ ?_
 rcases bit hm with ⟨Q0,hm⟩ | ⟨Q0,hm⟩
 refine ctv o rfl Q0<|th<|?_
 obtain ⟨G2,Q1,hm⟩:=bs hm
 refine rg<|qm o rfl λo=>qv o (Af o Cg rfl) λo=>qv o (Ag o isAgg3 rfl (u.ld.cellB t0 rfl)) λo=>qv o (Al o rfl rfl) λo=>ls<|cr o call150 (Jbh (Ai _) Q1) u λu o=>qv o (Ap o rfl rfl) λo=>qa o rfl λo=>re<|tn<|th<|?_
 obtain ⟨I2,B1,hm⟩:=bs hm
 obtain ⟨C2,T1,e33,e34,I1,J1⟩:=SR.sub (sz:=9) T0 S0 rfl B1
 obtain ⟨Y0,R1,hm⟩:=bs hm
 obtain ⟨J2,C1,hm⟩:=bs hm
 obtain ⟨E2,U1,e43,e44,M1,O1⟩:=SR.sub (sz:=9) T0 S0 rfl C1
 obtain ⟨j0,S1,hm⟩:=bs hm
 refine rdS 23 u wide λw u=>dr 0 u o rfl (Ab o rfl) λo=>dr 1 u o rfl (Ab o rfl) λo=>dr 2 u o rfl (Ap o rfl rfl) λo=>dr 3 u o rfl (Ab o rfl) λo=>dr 4 u o rfl (Ap o rfl rfl) λo=>dr 5 u o rfl (Af o Do rfl) λo=>dq 6 u.ld o rfl (λw hl=>Ag o isAgg3 rfl (hl.cellB t0 rfl)) λo=>dr 7 u o rfl (Ap o rfl rfl) λo=>dr 8 u o rfl (Hd (xs:=p1) (vl:=(IntKind.i64.wrap (D0+1))) (vh:=(IntKind.i64.wrap ((IntKind.i64.wrap (D0+1))+C0.Body))) o runUnderlying46 sizeOf51 rfl S0 rfl rfl B1 e33 e34) λo=>dr 9 u o rfl (Ab o rfl) λo=>dr 11 u o rfl (Ab o rfl) λo=>dr 12 u o rfl (Ab o rfl) λo=>dr 13 u o rfl (Ap o rfl rfl) λo=>dr 14 u o rfl (Af o Do rfl) λo=>dq 15 u.ld o rfl (λw hl=>Ag o isAgg3 rfl (hl.cellB t0 rfl)) λo=>dr 16 u o rfl (Ap o rfl rfl) λo=>dr 17 u o rfl (Ab o rfl) λo=>dr 18 u o rfl (Hd (xs:=p1) (vl:=(IntKind.i64.wrap ((IntKind.i64.wrap (D0+1))+C0.Body))) (vh:=(IntKind.i64.wrap ((IntKind.i64.wrap ((IntKind.i64.wrap (D0+1))+C0.Body))+C0.Else))) o runUnderlying46 sizeOf51 rfl S0 rfl rfl C1 e43 e44) λo=>dr 19 u o rfl (Ab o rfl) λo=>da1 (i:=10) (by kernel_rfl) ?_
 refine di (i:=10) rfl<|cr o call111 (ih (Ai _) I1 (St.srH u J1) R1) u λu o=>⟨λ_=>u.ld,?_⟩
 refine da1 (i:=20) (by kernel_rfl) ?_
 refine di (i:=20) rfl<|cr o call111 (ih (Ai _) M1 (St.srH u O1) S1) u λu o=>⟨λ_=>u.ld,?_⟩
 refine dr 21 u o rfl (Bo o rfl) λo=>dr 22 u o rfl (Bo o rfl) λo=>de (by kernel_rfl)<|tn<|th<|th<|rg<|qm o rfl λo=>qv o (Al o rfl rfl) λo=>qm o rfl λo=>gr (Fk:=[(0,SL G0 p1 E0),(1,i6 p6),(5,i6 F0),(8,i6 (IntKind.i64.wrap ((IntKind.i64.wrap ((IntKind.i64.wrap (D0+1))+C0.Body))+C0.Else))),(11,i6 Y0),(12,i6 j0),(122,.bool ((decide (Y0=(-1))) || (decide (j0=(-1)))))]) 119 3 o u ?_ ?_ ?_
 intro hb o key
 iterate 2 refine qn o λo=>?_
 exact qk o (Ad o rfl rfl) key u hb
 intro hb o key
 exact qg o (Ab o rfl) λo=>qg o (Al o rfl rfl) λo=>qk o (Ae o rfl rfl) key u hb
 intro a w o u
 refine re<|?_
 rcases bit hm with ⟨R0,hm⟩ | ⟨R0,hm⟩
 refine tn<|ctv o rfl R0<|th<|rg<|qa o rfl λo=>re<|tn<|wr<|tr<|tr<|br<|tr<|br<|tr<|?_
 obtain rfl:=si hm
 exact r1 o results111 rfl ⟨rfl,u.keep⟩
 refine tn<|cfv o rfl R0<|wk<|tn<|rg<|qm o rfl λo=>qm o rfl λo=>qv o (Ap o rfl rfl) λo=>qm o rfl λo=>qv o (Ap o rfl rfl) λo=>qv o (Uq o rfl rfl rfl) λo=>qa o rfl λo=>re<|tn<|?_
 replace u:=u.pickL .nil
 exact ⟨(max (max F0 (IntKind.i64.wrap (Y0+1))) (IntKind.i64.wrap (j0+1))),hm,o.hs,u⟩
 refine cfv o rfl Q0<|wk<|tn<|?_
 replace u:=u.pickL .nil
 exact ⟨F0,hm,o.hs,u⟩
 rintro a w ⟨U0,hm,o,u⟩
 unfold Zal at hm
 refine rg<|qm o rfl λo=>qa o rfl λo=>re<|bn<|tn<|?_
 exact ⟨(J0,U0,(IntKind.i64.wrap ((IntKind.i64.wrap ((IntKind.i64.wrap (D0+1))+C0.Body))+C0.Else))),⟨hm,o.hs,u⟩,Nat.lt_succ_self _⟩
 refine tn<|cfv o rfl W0<|we<|tx<|tx<|bx<|tn<|?_
 exact ⟨F0,hm,o.has ⟨rfl,trivial⟩,u⟩
 rintro a w ⟨V0,hm,o,u⟩
 unfold Zaj at hm
 refine th<|rg<|qm o rfl λo=>qa o rfl λo=>re<|tn<|wr<|?_
 obtain rfl:=si hm
 exact r1 o results111 rfl ⟨rfl,u.keep⟩
theorem Jb7 (hH:H.le w0) (hT:Tab H) {D0:Option Addr} {C0:Nat} {p1:(List api_Stmt)} (I0:p1.length≤C0) (J0:SR H D0 p1) {r:Bool} (hm:Zag N p1=some r):Tot Tryz.prog 69 #[SL D0 p1 C0] w0 (λv w'=>v=.bool r∧Keep Nil w0 w'):=by
 unfold Zag at hm
 refine fn0 func69 rfl ntmps69 rfl rfl λa o=>?_
 have u:St w0 Nil [H] [] w0:=start1 hH
 refine th<|rg<|qa o rfl λo=>re<|tn<|th<|th<|Au (λa w=>∃ (E0:Bool),(Zah N p1) E0=some r∧Fr 19 [(0,SL D0 p1 C0),(10,.bool E0)] a∧St w0 Nil [H] [] w) ?_ ?_
 rcases bip hm with ⟨F0,hm⟩ | ⟨F0,hm⟩
 refine rg<|qm o rfl λo=>qv o (Ak (α:=api_Stmt) (xs:=p1) o runUnderlying46 rfl) λo=>qv o (Be o rfl rfl) λo=>qv o (As (Ab o rfl) (congrArg Value.bool F0)) λo=>?_
 iterate 2 refine qn o λo=>?_
 refine qv o (Ad o rfl rfl) λo=>re<|tn<|?_
 exact ⟨true,hm,o.has ⟨rfl,rfl,trivial⟩,u⟩
 obtain ⟨M0,h8,hm⟩:=bs hm
 refine rg<|qm o rfl λo=>qv o (Ak (α:=api_Stmt) (xs:=p1) o runUnderlying46 rfl) λo=>qv o (Be o rfl rfl) λo=>qv o (As (Ab o rfl) (congrArg Value.bool F0)) λo=>qg o (Ab o rfl) λo=>ls<|gy o rfl rfl<|cr o call109 (Jbl (Ai _) (Tab.mono hT (St.up u)) I0 (St.srH u J0) h8) u λu o=>qv o (Ae o rfl rfl) λo=>re<|tn<|?_
 exact ⟨M0,hm,o.has ⟨rfl,rfl,trivial⟩,u⟩
 rintro a w ⟨E0,hm,o,u⟩
 unfold Zah at hm
 rcases bit hm with ⟨G0,hm⟩ | ⟨G0,hm⟩
 refine ctv o rfl G0<|th<|rg<|qa o rfl λo=>re<|tn<|wr<|tr<|?_
 obtain rfl:=si hm
 exact r1 o results69 rfl ⟨rfl,u.keep⟩
 refine cfv o rfl G0<|wk<|tn<|th<|?_
 obtain ⟨K0,O0,hm⟩:=bs hm
 refine rg<|qm o rfl λo=>ls<|cr o call111 (Jbq _ (Ai _) I0 (St.srH u J0) O0) u λu o=>qa o rfl λo=>re<|tn<|th<|rg<|qm o rfl λo=>qv o (Bt o rfl rfl) λo=>qm o rfl λo=>gr (Fk:=[(18,.bool ((decide (K0≠(-1))) && (decide (K0≤12))))]) 15 3 o u ?_ ?_ ?_
 intro hb o key
 exact qg o (Ab o rfl) λo=>qg o (Cs o rfl rfl) λo=>qk o (Ad o rfl rfl) key u hb
 intro hb o key
 iterate 2 refine qn o λo=>?_
 exact qk o (Ae o rfl rfl) key u hb
 intro a w o u
 refine qa o rfl λo=>re<|tn<|wr<|?_
 obtain rfl:=si hm
 exact r1 o results69 rfl ⟨rfl,u.keep⟩
theorem Ye (hH:H.le w0) (hT:Tab H) {cs2:List Value} {p1:api_Thread} (g3:Enc.rep H cs2 p1) {r:Bool} (hm:Z8k N p1=some r):Tot Tryz.prog 83 #[.agg cs2.toArray] w0 (λv w'=>v=.bool r∧Keep Nil w0 w'):=by
 unfold Z8k at hm
 refine fn0 func83 rfl ntmps83 rfl rfl λa o=>?_
 have u:St w0 Nil [H] [] w0:=start1 hH
 obtain ⟨Q0,K0,R0,M0,rfl,F0,G0,O0,P0⟩:=Av g3
 refine th<|rg<|ls<|Bs (cs:=[Ac p1.Name,SL Q0 p1.Regs K0,SL R0 p1.Body M0,i6 p1.At].toArray) o rfl u rfl rfl λT0 w a u o=>qa o rfl λo=>re<|tn<|th<|rg<|qa o rfl λo=>re<|tn<|th<|?_
 obtain ⟨U0,E0,hm⟩:=bs hm
 rcases bit hm with ⟨C0,hm⟩ | ⟨C0,hm⟩
 obtain ⟨I0,J0,hm⟩:=bs hm
 rcases bit hm with ⟨D0,hm⟩ | ⟨D0,hm⟩
 have D0':(!I0)=false:=by rw [D0];rfl
 refine rg<|qv o (Af o Ge rfl) λo=>qv o (Ag o isAgg3 rfl (u.ld.cellB t0 rfl)) λo=>ls<|cr o call86 (Mv (Ai _) E0) u λu o=>qv o (As (Ab o rfl) (congrArg Value.bool C0)) λo=>qg o (Af o Da rfl) λo=>qg o (Ag o isAgg36 rfl (u.ld.cellB t0 rfl)) λo=>qg o (Ab o rfl) λo=>ls<|gy o rfl rfl<|cr o call123 (Yc (Ai _) (Tab.mono hT (St.up u)) F0 (St.srH u G0) J0) u λu o=>qg o (Az o rfl) λo=>qv o (Ad o rfl rfl) λo=>qv o (As (Ab o rfl) (congrArg Value.bool D0')) λo=>?_
 iterate 3 refine qn o λo=>?_
 refine qv o (Ae o rfl rfl) λo=>qa o rfl λo=>re<|tn<|wr<|?_
 obtain rfl:=si hm
 exact r1 o results83 rfl ⟨rfl,u.keep⟩
 have D0':(!I0)=true:=by rw [D0];rfl
 obtain ⟨V0,S0,hm⟩:=bs hm
 refine rg<|qv o (Af o Ge rfl) λo=>qv o (Ag o isAgg3 rfl (u.ld.cellB t0 rfl)) λo=>ls<|cr o call86 (Mv (Ai _) E0) u λu o=>qv o (As (Ab o rfl) (congrArg Value.bool C0)) λo=>qg o (Af o Da rfl) λo=>qg o (Ag o isAgg36 rfl (u.ld.cellB t0 rfl)) λo=>qg o (Ab o rfl) λo=>ls<|gy o rfl rfl<|cr o call123 (Yc (Ai _) (Tab.mono hT (St.up u)) F0 (St.srH u G0) J0) u λu o=>qg o (Az o rfl) λo=>qv o (Ad o rfl rfl) λo=>qv o (As (Ab o rfl) (congrArg Value.bool D0')) λo=>qg o (Af o Hf rfl) λo=>qg o (Ag o isAgg46 rfl (u.ld.cellB t0 rfl)) λo=>ls<|gy o rfl rfl<|cr o call69 (Jb7 (Ai _) (Tab.mono hT (St.up u)) O0 (St.srH u P0) S0) u λu o=>qv o (Ad o rfl rfl) λo=>qa o rfl λo=>re<|tn<|wr<|?_
 obtain rfl:=si hm
 exact r1 o results83 rfl ⟨rfl,u.keep⟩
 refine rg<|qv o (Af o Ge rfl) λo=>qv o (Ag o isAgg3 rfl (u.ld.cellB t0 rfl)) λo=>ls<|cr o call86 (Mv (Ai _) E0) u λu o=>qv o (As (Ab o rfl) (congrArg Value.bool C0)) λo=>?_
 iterate 5 refine qn o λo=>?_
 refine qv o (Ae o rfl rfl) λo=>qm o rfl λo=>?_
 iterate 3 refine qn o λo=>?_
 refine qv o (Ae o rfl rfl) λo=>qa o rfl λo=>re<|tn<|wr<|?_
 obtain rfl:=si hm
 exact r1 o results83 rfl ⟨rfl,u.keep⟩
end Go.LM.LB
