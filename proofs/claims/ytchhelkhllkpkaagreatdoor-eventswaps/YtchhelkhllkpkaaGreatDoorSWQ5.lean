/- Walks, lifted by program. No condition beyond the theorems' own premises. -/
import Derived.Test.YtchhelkhllkpkaaGreatDoorSWQ4
namespace Go.LM.SWAPS
open Go Go.LL Go.MD Go.LM Go.Proofs Go.MD.SWAPS Go.Proofs.Tryz
open Go.IntKind (i64)
set_option maxRecDepth 100000
set_option maxHeartbeats 4000000
variable {N:Nat} {w0:World} {H:PH}
theorem Jgl (hH:H.le w0) {b2:Nat} {p1:leadlineref11_Mem} {oa3:Option Addr} {cap4:Nat} (A4:p1.Of.length≤cap4) (B4:SR H oa3 p1.Of) {oa7:Option Addr} {cap8:Nat} (C4:p1.Firsts.length≤cap8) (L3:SR H oa7 p1.Firsts) {oa11:Option Addr} {cap12:Nat} {vs13:List Value} (M3:Rows H vs13 p1.L) {oa16:Option Addr} {cap17:Nat} {vs18:List Value} (O3:Rows H vs18 p1.K) {oa21:Option Addr} {cap22:Nat} {vs23:List Value} (P3:Rows H vs23 p1.W) {p26:Int} (hO:(sepA [bk b2 (mmC oa3 cap4 oa7 cap8 oa11 cap12 oa16 cap17 oa21 cap22 p1) 62,sla 3 1 oa11 p1.L.length cap12 vs13,sla 3 1 oa16 p1.K.length cap17 vs18,sla 123 3 oa21 p1.W.length cap22 vs23]).ok (hp w0)) (hD:∀ b,(sepA [bk b2 (mmC oa3 cap4 oa7 cap8 oa11 cap12 oa16 cap17 oa21 cap22 p1) 62,sla 3 1 oa11 p1.L.length cap12 vs13,sla 3 1 oa16 p1.K.length cap17 vs18,sla 123 3 oa21 p1.W.length cap22 vs23]).fp b→H b=none) {r:(Int×leadlineref11_Mem)} (hm:Z6s N p1 p26=some r):Tot Tryz.prog 75 #[PT b2,i6 p26] w0 (λv w'=>∃ (oa1m:Option Addr) (cap1m:Nat) (oa2m:Option Addr) (cap2m:Nat) (oa3m:Option Addr) (cap3m:Nat) (vs3m:List Value) (oa4m:Option Addr) (cap4m:Nat) (vs4m:List Value) (oa5m:Option Addr) (cap5m:Nat) (vs5m:List Value),v=i6 r.1∧r.2.Of.length≤cap1m∧SR H oa1m r.2.Of∧r.2.Firsts.length≤cap2m∧SR H oa2m r.2.Firsts∧(∀ h,Rows h vs3m r.2.L)∧(∀ h,Rows h vs4m r.2.K)∧(∀ h,Rows h vs5m r.2.W)∧Mut w0 (sepA [bk b2 (mmC oa3 cap4 oa7 cap8 oa11 cap12 oa16 cap17 oa21 cap22 p1) 62,sla 3 1 oa11 p1.L.length cap12 vs13,sla 3 1 oa16 p1.K.length cap17 vs18,sla 123 3 oa21 p1.W.length cap22 vs23]) (sepA [bk b2 (mmC oa1m cap1m oa2m cap2m oa3m cap3m oa4m cap4m oa5m cap5m r.2) 62,sla 3 1 oa3m r.2.L.length cap3m vs3m,sla 3 1 oa4m r.2.K.length cap4m vs4m,sla 123 3 oa5m r.2.W.length cap5m vs5m]) w'):=by
 unfold Z6s at hm
 refine fn0 func75 rfl ntmps75 rfl rfl λa o=>?_
 have u:=Gg hH hO hD
 refine th<|rg<|qa o rfl λo=>re<|tn<|th<|th<|Av (λa w=>∃ (T0:(List Int)) (U0:(List Int)) (F0:(List Int)) (O1:(List Int)) (I0:(List leadlineref11_Put)) (Y2:Bool) (P0:Option Addr) (K0:Nat) (Q0:Option Addr) (M0:Nat) (E0:Option Addr) (C0:Nat) (O0:List Value) (n0:Option Addr) (V0:Nat) (C1:List Value) (J0:Option Addr) (D0:Nat) (R0:List Value),(Z6t N p26) T0 U0 F0 O1 I0 Y2=some r∧Fr 70 [(0,PT b2),(1,i6 p26),(14,.bool Y2)] a∧St w0 (sepA [bk b2 (mmC oa3 cap4 oa7 cap8 oa11 cap12 oa16 cap17 oa21 cap22 p1) 62,sla 3 1 oa11 p1.L.length cap12 vs13,sla 3 1 oa16 p1.K.length cap17 vs18,sla 123 3 oa21 p1.W.length cap22 vs23]).fp [H] [sla 3 1 E0 F0.length C0 O0,sla 3 1 n0 O1.length V0 C1,sla 123 3 J0 I0.length D0 R0,bk b2 [SL P0 T0 K0,SL Q0 U0 M0,SL E0 F0 C0,SL n0 O1 V0,SL J0 I0 D0] 62] w∧T0.length≤K0∧SR H P0 T0∧U0.length≤M0∧SR H Q0 U0∧Rows H O0 F0∧Rows H C1 O1∧Rows H R0 I0) ?_ ?_
 rcases bip hm with ⟨A3,hm⟩ | ⟨A3,hm⟩
 refine rg<|qm o rfl λo=>qv o (Am o rfl rfl) λo=>qv o (As (Aa o rfl) (congrArg Value.bool A3)) λo=>?_
 iterate 4 refine qn o λo=>?_
 refine qv o (Ab o rfl rfl) λo=>re<|tn<|?_
 replace u:=u.pk [1,1,1,0] rfl
 exact ⟨p1.Of,p1.Firsts,p1.L,p1.K,p1.W,true,oa3,cap4,oa7,cap8,oa11,cap12,vs13,oa16,cap17,vs18,oa21,cap22,vs23,hm,o.hs,u,A4,B4,C4,L3,M3,O3,P3⟩
 obtain ⟨J2,L5,hm⟩:=bs hm
 refine rg<|qm o rfl λo=>qv o (Am o rfl rfl) λo=>qv o (As (Aa o rfl) (congrArg Value.bool A3)) λo=>?_
 iterate 2 refine qg o (Aa o rfl) λo=>?_
 replace u:=u.pk [0,0,0,0] rfl
 replace u:=St.sep [bk b2 (mmC oa3 cap4 oa7 cap8 oa11 cap12 oa16 cap17 oa21 cap22 p1) 62,sla 3 1 oa11 p1.L.length cap12 vs13,sla 3 1 oa16 p1.K.length cap17 vs18,sla 123 3 oa21 p1.W.length cap22 vs23] u
 refine ls<|gy o rfl rfl<|c1 o rfl call48 (JgM (St.le u) (p1:=p1) (b2:=b2) (oa3:=oa3) (cap4:=cap4) (oa7:=oa7) (cap8:=cap8) (oa11:=oa11) (cap12:=cap12) (vs13:=vs13) (oa16:=oa16) (cap17:=cap17) (vs18:=vs18) (oa21:=oa21) (cap22:=cap22) (vs23:=vs23) A4 B4 C4 L3 M3 O3 P3 (St.sepOk u) (St.sepDis u) L5) ⟨rfl,trivial⟩ (λv w a hR o=>?_)
 obtain ⟨I4,Q3,J4,R3,K4,S3,L4,M4,T3,O4,P4,U3,Q4,rfl,R4,S4,T4,U4,B3,C3,D3,hk⟩:=hR
 replace u:=(u.mut hk .head).unsep
 replace B3:=B3 H
 replace C3:=C3 H
 replace D3:=D3 H
 refine qg o (Bw o rfl rfl) λo=>qv o (Ac o rfl rfl) λo=>re<|tn<|?_
 replace u:=u.pk [1,1,1,0] rfl
 exact ⟨J2.2.Of,J2.2.Firsts,J2.2.L,J2.2.K,J2.2.W,(decide (J2.1≤p26)),I4,Q3,J4,R3,K4,S3,L4,M4,T3,O4,P4,U3,Q4,hm,o.hs,u,R4,S4,T4,U4,B3,C3,D3⟩
 rintro a w ⟨T0,U0,F0,O1,I0,Y2,P0,K0,Q0,M0,E0,C0,O0,n0,V0,C1,J0,D0,R0,hm,o,u,hcA4,hrA5,hcA9,hrA10,J3,K3,Y0⟩
 unfold Z6t at hm
 rcases bit hm with ⟨E3,hm⟩ | ⟨E3,hm⟩
 refine ctv o rfl E3<|th<|rg<|qa o rfl λo=>re<|tn<|wr<|tr<|?_
 obtain rfl:=si hm
 exact r1 o results75 rfl ⟨P0,K0,Q0,M0,E0,C0,O0,n0,V0,C1,J0,D0,R0,rfl,hcA4,hrA5,hcA9,hrA10,(λ_=>Rows.ind J3),(λ_=>Rows.ind K3),(λ_=>Rows.ind Y0),(u.pk [3,0,0,0] rfl).endMut⟩
 refine cfv o rfl E3<|wk<|tn<|th<|rg<|ls<|bz (e:=123) (sz:=3) [] o u λM5 u o=>?_
 have V4:Rows (α:=leadlineref11_Put) H [] []:=.nil
 refine qa o rfl λo=>re<|tn<|th<|th<|rg<|qa o rfl λo=>re<|tn<|Av (λa w=>∃ (u1:(List Int)) (C2:(List leadlineref11_Put)) (R1:Option Addr) (D1:Nat) (S1:List Value) (T1:Option Addr) (E1:Nat) (U1:List Value),(Z6u T0 U0 F0) u1 C2=some r∧Fr 70 [(0,PT b2),(5,SL T1 C2 E1)] a∧St w0 (sepA [bk b2 (mmC oa3 cap4 oa7 cap8 oa11 cap12 oa16 cap17 oa21 cap22 p1) 62,sla 3 1 oa11 p1.L.length cap12 vs13,sla 3 1 oa16 p1.K.length cap17 vs18,sla 123 3 oa21 p1.W.length cap22 vs23]).fp [H] [sla 3 1 E0 F0.length C0 O0,sla 3 1 R1 u1.length D1 S1,sla 123 3 J0 I0.length D0 R0,bk b2 [SL P0 T0 K0,SL Q0 U0 M0,SL E0 F0 C0,SL R1 u1 D1,SL J0 I0 D0] 62,sla 123 3 T1 C2.length E1 U1] w∧Rows H S1 u1∧Rows H U1 C2) ?_ ?_
 replace u:=u.pk [1,1,1,1,0] rfl
 refine wb<|lp (α:=Nat×(List Int)×(List leadlineref11_Put)×Int) (λgh a w=>match gh with | (K2,E2,Q1,P1)=>∃ (j0:Option Addr) (S0:Nat) (F2:List Value) (I2:Option Addr) (F1:Nat) (I1:List Value),(Z6w N (Z6u T0 U0 F0) p26 I0) K2 E2 Q1 P1=some r∧Fr 70 [(0,PT b2),(1,i6 p26),(5,SL I2 Q1 F1),(6,i6 P1)] a∧St w0 (sepA [bk b2 (mmC oa3 cap4 oa7 cap8 oa11 cap12 oa16 cap17 oa21 cap22 p1) 62,sla 3 1 oa11 p1.L.length cap12 vs13,sla 3 1 oa16 p1.K.length cap17 vs18,sla 123 3 oa21 p1.W.length cap22 vs23]).fp [H] [sla 3 1 E0 F0.length C0 O0,sla 3 1 j0 E2.length S0 F2,sla 123 3 J0 I0.length D0 R0,bk b2 [SL P0 T0 K0,SL Q0 U0 M0,SL E0 F0 C0,SL j0 E2 S0,SL J0 I0 D0] 62,sla 123 3 I2 Q1.length F1 I1] w∧Rows H F2 E2∧Rows H I1 Q1) (λgh=>gh.1) (N,O1,[],0) ⟨n0,V0,C1,(some ⟨M5,0,none⟩),0,[],hm,o.hs,u,K3,V4⟩ ?_
 rintro ⟨K2,E2,Q1,P1⟩ a w ⟨j0,S0,F2,I2,F1,I1,hm,o,u,R2,T2⟩
 obtain _ | K2:=K2
 simp [Z6w] at hm
 rw [Z6w] at hm
 refine th<|th<|rg<|qm o rfl λo=>qm o rfl λo=>qv o (Af o rfl) λo=>qf o Gh rfl λo=>qB o isAgg60 rfl u t3 rfl λo=>qv o (Aj (α:=leadlineref11_Put) (xs:=I0) o Jat rfl) λo=>qv o (Am o rfl rfl) λo=>re<|?_
 rcases bip hm with ⟨F3,hm⟩ | ⟨F3,hm⟩
 refine tn<|ctv o rfl F3<|wk<|tn<|th<|Av (λa w=>∃ (O2:(List Int)) (P2:(List leadlineref11_Put)) (U2:Option Addr) (V1:Nat) (V2:List Value) (W2:Option Addr) (X1:Nat) (Y1:List Value),(Z6v (Z6w N (Z6u T0 U0 F0) p26 I0 K2) P1) O2 P2=some r∧Fr 70 [(0,PT b2),(1,i6 p26),(5,SL W2 P2 X1),(6,i6 P1)] a∧St w0 (sepA [bk b2 (mmC oa3 cap4 oa7 cap8 oa11 cap12 oa16 cap17 oa21 cap22 p1) 62,sla 3 1 oa11 p1.L.length cap12 vs13,sla 3 1 oa16 p1.K.length cap17 vs18,sla 123 3 oa21 p1.W.length cap22 vs23]).fp [H] [sla 3 1 E0 F0.length C0 O0,sla 3 1 U2 O2.length V1 V2,sla 123 3 J0 I0.length D0 R0,bk b2 [SL P0 T0 K0,SL Q0 U0 M0,SL E0 F0 C0,SL U2 O2 V1,SL J0 I0 D0] 62,sla 123 3 W2 P2.length X1 Y1] w∧Rows H V2 O2∧Rows H Y1 P2) ?_ ?_
 refine wb<|th<|?_
 obtain ⟨W0,J1,hm⟩:=bs hm
 have W4:=Rd.oaI (u.rdO t2) Y0 (by decide) J1
 obtain ⟨R5,O5,X2⟩:=Rows.getI Y0 J1
 obtain rfl:=Fs O5
 refine rg<|qm o rfl λo=>qv o (Af o rfl) λo=>qf o Gh rfl λo=>qB o isAgg60 rfl u t3 rfl λo=>qm o rfl λo=>qv o (Co o Jat sizeOf123 rfl rfl J1 W4) λo=>qf o JaD rfl λo=>qv o (Ap o isAgg3 rfl (u.ld.elO2 t2 (X2 0 _ rfl))) λo=>qm o rfl λo=>qv o (Ah o rfl rfl) λo=>re<|?_
 rcases bip hm with ⟨I3,hm⟩ | ⟨I3,hm⟩
 refine tn<|ctv o rfl I3<|?_
 have X4:=Rd.oaI (u.rdO t2) Y0 (by decide) J1
 have Y4:=Rd.oaI (u.rdO t2) Y0 (by decide) J1
 obtain ⟨S5,D4,hm⟩:=bs hm
 have A5:=Rd.oaI (u.rdO t1) R2 (by decide) D4
 obtain ⟨E4,F4,hm⟩:=bs hm
 refine rxS 21 u wide (by kernel_rfl) λw u=>xm u o rfl λo=>xr u o (Af o rfl) λo=>xr u o (Ad o Qn rfl) λo=>xq u.ld o (λw hl=>eB o isAgg28 rfl hl t3 rfl) λo=>xm u o rfl λo=>xr u o (Af o rfl) λo=>xr u o (Ad o Gh rfl) λo=>xq u.ld o (λw hl=>eB o isAgg60 rfl hl t3 rfl) λo=>xm u o rfl λo=>xr u o (Co o Jat sizeOf123 rfl rfl J1 X4) λo=>xr u o (Ad o JdZ rfl) λo=>xq u.ld o (λw hl=>Ap o isAgg3 rfl (hl.elO2 t2 (X2 1 _ rfl))) λo=>xm u o rfl λo=>xr u o (Af o rfl) λo=>xr u o (Ad o Gh rfl) λo=>xq u.ld o (λw hl=>eB o isAgg60 rfl hl t3 rfl) λo=>xm u o rfl λo=>xr u o (Co o Jat sizeOf123 rfl rfl J1 Y4) λo=>xr u o (Ad o JdK rfl) λo=>xq u.ld o (λw hl=>Ap o isAgg3 rfl (hl.elO2 t2 (X2 2 _ rfl))) λo=>xr u o (Co o Bn sizeOf3 rfl rfl D4 A5) λo=>?_
 have hn74:=H8 F4
 refine xz rfl<|P9 (α:=Int) o u sizeOf3 rfl rfl rfl rfl R2 rfl F4 t1 λB5 w C5 hU=>?_
 replace u:=hU _ (.tail .head)
 replace u:=St.eqL u (A':=bk b2 [SL P0 T0 K0,SL Q0 U0 M0,SL E0 F0 C0,SL j0 E4 S0,SL J0 I0 D0] 62) (.tail (.tail (.tail .head))) (by simp only [SL,hn74])
 refine bn<|tn<|?_
 exact ⟨E4,Q1,j0,S0,B5,I2,F1,I1,hm,o.hs,u,C5,T2⟩
 refine tn<|cfv o rfl I3<|?_
 have D5:=Rd.oaI (u.rdO t2) Y0 (by decide) J1
 obtain ⟨P5,Q5,hm⟩:=bs hm
 refine rg<|qm o rfl λo=>qm o rfl λo=>qv o (Af o rfl) λo=>qf o Gh rfl λo=>qB o isAgg60 rfl u t3 rfl λo=>qm o rfl λo=>qv o (Co o Jat sizeOf123 rfl rfl J1 D5) λo=>qv o (An o isAgg123 sizeOf123 rfl rfl (u.ld.elsO t2 X2)) λo=>ls<|bz (e:=123) (sz:=3) [i6 W0.Line,i6 W0.Cell,i6 W0.N] o u λT5 u o=>?_
 have E5:Rows (α:=leadlineref11_Put) H [i6 W0.Line,i6 W0.Cell,i6 W0.N] ([W0]:List leadlineref11_Put):=(.cons (c:=[i6 W0.Line,i6 W0.Cell,i6 W0.N]) ⟨_,_,rfl,rfl,⟨_,_,rfl,rfl,rfl⟩⟩ .nil)
 refine ls<|Ay (α:=leadlineref11_Put) (xs:=Q1) (ys:=([W0]:List leadlineref11_Put)) o rfl u underlying60 Nx rfl (by decide) rfl rfl rfl t5 T2 (u.rdO t0) E5 Q5 λF5 V3 I5 w a J5 hU o=>?_
 replace u:=hU _ (.tail (.tail (.tail (.tail (.tail .head)))))
 replace u:=u.drop .head
 refine qa o rfl λo=>re<|bn<|tn<|?_
 exact ⟨E2,P5,j0,S0,F2,F5,V3,I5,hm,o.hs,u,R2,J5⟩
 rintro a w ⟨O2,P2,U2,V1,V2,W2,X1,Y1,hm,o,u,K5,W3⟩
 unfold Z6v at hm
 refine rg<|qm o rfl λo=>qv o (Ao o rfl rfl) λo=>qa o rfl λo=>re<|tn<|?_
 exact ⟨(K2,O2,P2,(i64.wrap (P1+1))),⟨U2,V1,V2,W2,X1,Y1,hm,o.hs,u,K5,W3⟩,kxd _⟩
 refine tn<|cfv o rfl F3<|we<|tx<|tx<|bx<|tn<|?_
 exact ⟨E2,Q1,j0,S0,F2,I2,F1,I1,hm,o.hs,u,R2,T2⟩
 rintro a w ⟨u1,C2,R1,D1,S1,T1,E1,U1,hm,o,u,X3,Y3⟩
 unfold Z6u at hm
 refine th<|rg<|qm o rfl λo=>qm o rfl λo=>qv o (Af o rfl) λo=>qf o Gh rfl λo=>ls<|Bl o u sizeOf60 rfl rfl rfl rfl (.tail (.tail (.tail .head))) (.succ (.succ (.succ (.succ .zero)))) λw u=>re<|tn<|th<|rg<|qa o rfl λo=>re<|tn<|wr<|?_
 obtain rfl:=si hm
 exact r1 o results75 rfl ⟨P0,K0,Q0,M0,E0,C0,O0,R1,D1,S1,T1,E1,U1,rfl,hcA4,hrA5,hcA9,hrA10,(λ_=>Rows.ind J3),(λ_=>Rows.ind X3),(λ_=>Rows.ind Y3),(u.pk [3,0,0,1] rfl).endMut⟩
theorem JfT (hH:H.le w0) {b2:Nat} {p1:leadlineref11_Mem} {oa3:Option Addr} {cap4:Nat} (O1:p1.Of.length≤cap4) (P1:SR H oa3 p1.Of) {oa7:Option Addr} {cap8:Nat} (Q1:p1.Firsts.length≤cap8) (I1:SR H oa7 p1.Firsts) {oa11:Option Addr} {cap12:Nat} {vs13:List Value} (T0:Rows H vs13 p1.L) {oa16:Option Addr} {cap17:Nat} {vs18:List Value} (R0:Rows H vs18 p1.K) {oa21:Option Addr} {cap22:Nat} {vs23:List Value} (J1:Rows H vs23 p1.W) (hO:(sepA [bk b2 (mmC oa3 cap4 oa7 cap8 oa11 cap12 oa16 cap17 oa21 cap22 p1) 62,sla 3 1 oa11 p1.L.length cap12 vs13,sla 3 1 oa16 p1.K.length cap17 vs18,sla 123 3 oa21 p1.W.length cap22 vs23]).ok (hp w0)) (hD:∀ b,(sepA [bk b2 (mmC oa3 cap4 oa7 cap8 oa11 cap12 oa16 cap17 oa21 cap22 p1) 62,sla 3 1 oa11 p1.L.length cap12 vs13,sla 3 1 oa16 p1.K.length cap17 vs18,sla 123 3 oa21 p1.W.length cap22 vs23]).fp b→H b=none) {r:((Option leadlineref11_Mem)×leadlineref11_Mem)} (hm:Z6q N p1=some r):Tot Tryz.prog 42 #[PT b2] w0 (λv w'=>∃ (vm0:Value) (A0:HA) (oa1m:Option Addr) (cap1m:Nat) (oa2m:Option Addr) (cap2m:Nat) (oa3m:Option Addr) (cap3m:Nat) (vs3m:List Value) (oa4m:Option Addr) (cap4m:Nat) (vs4m:List Value) (oa5m:Option Addr) (cap5m:Nat) (vs5m:List Value),v=vm0∧Uv H vm0 A0 r.1∧r.2.Of.length≤cap1m∧SR H oa1m r.2.Of∧r.2.Firsts.length≤cap2m∧SR H oa2m r.2.Firsts∧(∀ h,Rows h vs3m r.2.L)∧(∀ h,Rows h vs4m r.2.K)∧(∀ h,Rows h vs5m r.2.W)∧Mut w0 (sepA [bk b2 (mmC oa3 cap4 oa7 cap8 oa11 cap12 oa16 cap17 oa21 cap22 p1) 62,sla 3 1 oa11 p1.L.length cap12 vs13,sla 3 1 oa16 p1.K.length cap17 vs18,sla 123 3 oa21 p1.W.length cap22 vs23]) (sepA [bk b2 (mmC oa1m cap1m oa2m cap2m oa3m cap3m oa4m cap4m oa5m cap5m r.2) 62,sla 3 1 oa3m r.2.L.length cap3m vs3m,sla 3 1 oa4m r.2.K.length cap4m vs4m,sla 123 3 oa5m r.2.W.length cap5m vs5m,A0]) w'):=by
 unfold Z6q at hm
 refine fn0 func42 rfl ntmps42 rfl rfl λa o=>?_
 have u:=Gg hH hO hD
 refine th<|rg<|qa o rfl λo=>re<|tn<|th<|?_
 obtain ⟨n0,Y0,hm⟩:=bs hm
 obtain ⟨C1,U0,hm⟩:=bs hm
 obtain ⟨D1,T1,hm⟩:=bs hm
 refine rdS 29 u wide λw u=>dr 0 u o rfl (Aa o rfl) λo=>dr 1 u o rfl (Af o rfl) λo=>dr 2 u o rfl (Ad o Jt rfl) λo=>dq 3 u.ld o rfl (λw hl=>eB o isAgg28 rfl hl t0 rfl) λo=>dr 4 u o rfl (Aa o rfl) λo=>dr 5 u o rfl (Af o rfl) λo=>dr 6 u o rfl (Ad o Jfe rfl) λo=>dq 7 u.ld o rfl (λw hl=>eB o isAgg28 rfl hl t0 rfl) λo=>dr 9 u o rfl (Aa o rfl) λo=>dr 10 u o rfl (Af o rfl) λo=>dr 11 u o rfl (Ad o Ks rfl) λo=>dq 12 u.ld o rfl (λw hl=>eB o isAgg28 rfl hl t0 rfl) λo=>dr 15 u o rfl (Aa o rfl) λo=>dr 16 u o rfl (Af o rfl) λo=>dr 17 u o rfl (Ad o Qn rfl) λo=>dq 18 u.ld o rfl (λw hl=>eB o isAgg28 rfl hl t0 rfl) λo=>dr 21 u o rfl (Aa o rfl) λo=>dr 22 u o rfl (Af o rfl) λo=>dr 23 u o rfl (Ad o Gh rfl) λo=>dq 24 u.ld o rfl (λw hl=>eB o isAgg60 rfl hl t0 rfl) λo=>?_
 have V0:Rows (α:=Int) H [] []:=.nil
 have S0:Rows (α:=Int) H [] []:=.nil
 have R1:Rows (α:=leadlineref11_Put) H [] []:=.nil
 refine Jgx (k:=5) (L:=#[true,true,true,true,true,true,true,true,true,true,true,true,true,true,true,true,true,true,true,true,true,true,true,true,true,false,false,false,false]) (λa w=>∃ (Q0:Nat) (P0:Nat) (O0:Nat) (F0:Option Addr) (D0:Nat) (J0:List Value) (E0:Option Addr) (C0:Nat) (I0:List Value),Fr 31 [(0,PT b2),(3,PT b2),(4,PT b2),(6,SL oa3 p1.Of cap4),(7,PT b2),(8,PT b2),(10,SL oa7 p1.Firsts cap8),(11,.slice (some ⟨Q0,0,none⟩) 0 0),(12,PT b2),(13,PT b2),(15,SL oa11 p1.L cap12),(16,SL F0 n0 D0),(17,.slice (some ⟨P0,0,none⟩) 0 0),(18,PT b2),(19,PT b2),(21,SL oa16 p1.K cap17),(22,SL E0 C1 C0),(23,.slice (some ⟨O0,0,none⟩) 0 0),(24,PT b2),(25,PT b2),(27,SL oa21 p1.W cap22)] a∧St w0 (sepA [bk b2 (mmC oa3 cap4 oa7 cap8 oa11 cap12 oa16 cap17 oa21 cap22 p1) 62,sla 3 1 oa11 p1.L.length cap12 vs13,sla 3 1 oa16 p1.K.length cap17 vs18,sla 123 3 oa21 p1.W.length cap22 vs23]).fp [H] [sla 123 3 (some ⟨O0,0,none⟩) 0 0 [],sla 3 1 E0 C1.length C0 I0,sla 3 1 F0 n0.length D0 J0,bk b2 (mmC oa3 cap4 oa7 cap8 oa11 cap12 oa16 cap17 oa21 cap22 p1) 62,sla 3 1 oa11 p1.L.length cap12 vs13,sla 3 1 oa16 p1.K.length cap17 vs18,sla 123 3 oa21 p1.W.length cap22 vs23] w∧Rows H J0 n0∧Rows H I0 C1) ?_ ?_
 intro hJ54
 refine da3 (i:=8) (j:=14) (k:=20) (by kernel_rfl) ?_ ?_ ?_
 refine dI 8 rfl<|bz (e:=3) (sz:=1) [] o u λQ0 u o=>⟨λ_=>(St.ldsX u i2 ta1),?_⟩
 refine da3 (i:=13) (j:=14) (k:=20) (by kernel_rfl) ?_ ?_ ?_
 refine dI 13 rfl<|Ay (α:=Int) (xs:=[]) (ys:=p1.L) o rfl u underlying28 Bs rfl (by decide) rfl rfl rfl t0 V0 (u.rdO t2) T0 Y0 λF0 D0 J0 w a M0 hU o=>?_
 replace u:=hU _ .head
 refine ⟨λ_=>(St.ldsX u i2 ta1),?_⟩
 refine da2 (i:=14) (j:=20) (by kernel_rfl) ?_ ?_
 refine dI 14 rfl<|bz (e:=3) (sz:=1) [] o u λP0 u o=>⟨λ_=>(St.ldsX u i2 ta2),?_⟩
 refine da2 (i:=19) (j:=20) (by kernel_rfl) ?_ ?_
 refine dI 19 rfl<|Ay (α:=Int) (xs:=[]) (ys:=p1.K) o rfl u underlying28 Bs rfl (by decide) rfl rfl rfl t0 S0 (u.rdO t4) R0 U0 λE0 C0 I0 w a K0 hU o=>?_
 replace u:=hU _ .head
 refine ⟨λ_=>(St.ldsX u i2 ta2),?_⟩
 refine dz 20 rfl<|bz (e:=123) (sz:=3) [] o u λO0 u o=>⟨λ_=>(St.ldsX u i2 ta3),?_⟩
 exact Cm (by kernel_rfl) (hJ54 _ _ ⟨Q0,P0,O0,F0,D0,J0,E0,C0,I0,o.hs,u,M0,K0⟩)
 refine dI 20 rfl<|bz (e:=123) (sz:=3) [] o u λO0 u o=>⟨λ_=>(St.ldsX u i2 ta3),?_⟩
 refine dz 19 rfl<|Ay (α:=Int) (xs:=[]) (ys:=p1.K) o rfl u underlying28 Bs rfl (by decide) rfl rfl rfl t1 S0 (u.rdO t5) R0 U0 λE0 C0 I0 w a K0 hU o=>?_
 replace u:=hU _ (.tail .head)
 refine ⟨λ_=>(St.ldsX u i2 ta3),?_⟩
 exact Cm (by kernel_rfl) (hJ54 _ _ ⟨Q0,P0,O0,F0,D0,J0,E0,C0,I0,o.hs,u,M0,K0⟩)
 refine dI 20 rfl<|bz (e:=123) (sz:=3) [] o u λO0 u o=>⟨λ_=>(St.ldsX u i2 ta2),?_⟩
 refine dz 14 rfl<|bz (e:=3) (sz:=1) [] o u λP0 u o=>⟨λ_=>(St.ldsX u i2 ta3),?_⟩
 refine dz 19 rfl<|Ay (α:=Int) (xs:=[]) (ys:=p1.K) o rfl u underlying28 Bs rfl (by decide) rfl rfl rfl t0 S0 (u.rdO t5) R0 U0 λE0 C0 I0 w a K0 hU o=>?_
 replace u:=hU _ .head
 refine ⟨λ_=>(St.ldsX u i2 ta3),?_⟩
 replace u:=u.pk [1,0,0,0,0,0,0] rfl
 exact Cm (by kernel_rfl) (hJ54 _ _ ⟨Q0,P0,O0,F0,D0,J0,E0,C0,I0,o.hs,u,M0,K0⟩)
 refine dI 14 rfl<|bz (e:=3) (sz:=1) [] o u λP0 u o=>⟨λ_=>(St.ldsX u i2 ta2),?_⟩
 refine da2 (i:=13) (j:=20) (by kernel_rfl) ?_ ?_
 refine dI 13 rfl<|Ay (α:=Int) (xs:=[]) (ys:=p1.L) o rfl u underlying28 Bs rfl (by decide) rfl rfl rfl t1 V0 (u.rdO t3) T0 Y0 λF0 D0 J0 w a M0 hU o=>?_
 replace u:=hU _ (.tail .head)
 refine ⟨λ_=>(St.ldsX u i2 ta2),?_⟩
 refine da2 (i:=19) (j:=20) (by kernel_rfl) ?_ ?_
 refine dI 19 rfl<|Ay (α:=Int) (xs:=[]) (ys:=p1.K) o rfl u underlying28 Bs rfl (by decide) rfl rfl rfl t0 S0 (u.rdO t4) R0 U0 λE0 C0 I0 w a K0 hU o=>?_
 replace u:=hU _ .head
 refine ⟨λ_=>(St.ldsX u i2 ta2),?_⟩
 refine dz 20 rfl<|bz (e:=123) (sz:=3) [] o u λO0 u o=>⟨λ_=>(St.ldsX u i2 ta3),?_⟩
 exact Cm (by kernel_rfl) (hJ54 _ _ ⟨Q0,P0,O0,F0,D0,J0,E0,C0,I0,o.hs,u,M0,K0⟩)
 refine dI 20 rfl<|bz (e:=123) (sz:=3) [] o u λO0 u o=>⟨λ_=>(St.ldsX u i2 ta3),?_⟩
 refine dz 19 rfl<|Ay (α:=Int) (xs:=[]) (ys:=p1.K) o rfl u underlying28 Bs rfl (by decide) rfl rfl rfl t1 S0 (u.rdO t5) R0 U0 λE0 C0 I0 w a K0 hU o=>?_
 replace u:=hU _ (.tail .head)
 refine ⟨λ_=>(St.ldsX u i2 ta3),?_⟩
 exact Cm (by kernel_rfl) (hJ54 _ _ ⟨Q0,P0,O0,F0,D0,J0,E0,C0,I0,o.hs,u,M0,K0⟩)
 refine dI 20 rfl<|bz (e:=123) (sz:=3) [] o u λO0 u o=>⟨λ_=>(St.ldsX u i2 ta3),?_⟩
 refine dz 13 rfl<|Ay (α:=Int) (xs:=[]) (ys:=p1.L) o rfl u underlying28 Bs rfl (by decide) rfl rfl rfl t2 V0 (u.rdO t4) T0 Y0 λF0 D0 J0 w a M0 hU o=>?_
 replace u:=hU _ (.tail (.tail .head))
 refine ⟨λ_=>(St.ldsX u i2 ta3),?_⟩
 refine dz 19 rfl<|Ay (α:=Int) (xs:=[]) (ys:=p1.K) o rfl u underlying28 Bs rfl (by decide) rfl rfl rfl t1 S0 (u.rdO t5) R0 U0 λE0 C0 I0 w a K0 hU o=>?_
 replace u:=hU _ (.tail .head)
 refine ⟨λ_=>(St.ldsX u i2 ta3),?_⟩
 exact Cm (by kernel_rfl) (hJ54 _ _ ⟨Q0,P0,O0,F0,D0,J0,E0,C0,I0,o.hs,u,M0,K0⟩)
 refine dI 20 rfl<|bz (e:=123) (sz:=3) [] o u λO0 u o=>⟨λ_=>(St.ldsX u i2 ta2),?_⟩
 refine da2 (i:=13) (j:=14) (by kernel_rfl) ?_ ?_
 refine dI 13 rfl<|Ay (α:=Int) (xs:=[]) (ys:=p1.L) o rfl u underlying28 Bs rfl (by decide) rfl rfl rfl t1 V0 (u.rdO t3) T0 Y0 λF0 D0 J0 w a M0 hU o=>?_
 replace u:=hU _ (.tail .head)
 refine ⟨λ_=>(St.ldsX u i2 ta2),?_⟩
 refine dz 14 rfl<|bz (e:=3) (sz:=1) [] o u λP0 u o=>⟨λ_=>(St.ldsX u i2 ta3),?_⟩
 refine dz 19 rfl<|Ay (α:=Int) (xs:=[]) (ys:=p1.K) o rfl u underlying28 Bs rfl (by decide) rfl rfl rfl t0 S0 (u.rdO t5) R0 U0 λE0 C0 I0 w a K0 hU o=>?_
 replace u:=hU _ .head
 refine ⟨λ_=>(St.ldsX u i2 ta3),?_⟩
 replace u:=u.pk [1,0,0,0,0,0,0] rfl
 exact Cm (by kernel_rfl) (hJ54 _ _ ⟨Q0,P0,O0,F0,D0,J0,E0,C0,I0,o.hs,u,M0,K0⟩)
 refine dI 14 rfl<|bz (e:=3) (sz:=1) [] o u λP0 u o=>⟨λ_=>(St.ldsX u i2 ta3),?_⟩
 refine dz 13 rfl<|Ay (α:=Int) (xs:=[]) (ys:=p1.L) o rfl u underlying28 Bs rfl (by decide) rfl rfl rfl t2 V0 (u.rdO t4) T0 Y0 λF0 D0 J0 w a M0 hU o=>?_
 replace u:=hU _ (.tail (.tail .head))
 refine ⟨λ_=>(St.ldsX u i2 ta3),?_⟩
 refine dz 19 rfl<|Ay (α:=Int) (xs:=[]) (ys:=p1.K) o rfl u underlying28 Bs rfl (by decide) rfl rfl rfl t0 S0 (u.rdO t5) R0 U0 λE0 C0 I0 w a K0 hU o=>?_
 replace u:=hU _ .head
 refine ⟨λ_=>(St.ldsX u i2 ta3),?_⟩
 replace u:=u.pk [1,0,0,0,0,0,0] rfl
 exact Cm (by kernel_rfl) (hJ54 _ _ ⟨Q0,P0,O0,F0,D0,J0,E0,C0,I0,o.hs,u,M0,K0⟩)
 refine dI 14 rfl<|bz (e:=3) (sz:=1) [] o u λP0 u o=>⟨λ_=>(St.ldsX u i2 ta1),?_⟩
 refine da2 (i:=8) (j:=20) (by kernel_rfl) ?_ ?_
 refine dI 8 rfl<|bz (e:=3) (sz:=1) [] o u λQ0 u o=>⟨λ_=>(St.ldsX u i2 ta2),?_⟩
 refine da2 (i:=13) (j:=20) (by kernel_rfl) ?_ ?_
 refine dI 13 rfl<|Ay (α:=Int) (xs:=[]) (ys:=p1.L) o rfl u underlying28 Bs rfl (by decide) rfl rfl rfl t0 V0 (u.rdO t3) T0 Y0 λF0 D0 J0 w a M0 hU o=>?_
 replace u:=hU _ .head
 refine ⟨λ_=>(St.ldsX u i2 ta2),?_⟩
 refine da2 (i:=19) (j:=20) (by kernel_rfl) ?_ ?_
 refine dI 19 rfl<|Ay (α:=Int) (xs:=[]) (ys:=p1.K) o rfl u underlying28 Bs rfl (by decide) rfl rfl rfl t1 S0 (u.rdO t4) R0 U0 λE0 C0 I0 w a K0 hU o=>?_
 replace u:=hU _ (.tail .head)
 refine ⟨λ_=>(St.ldsX u i2 ta2),?_⟩
 refine dz 20 rfl<|bz (e:=123) (sz:=3) [] o u λO0 u o=>⟨λ_=>(St.ldsX u i2 ta3),?_⟩
 replace u:=u.pk [0,1,0,0,0,0,0] rfl
 exact Cm (by kernel_rfl) (hJ54 _ _ ⟨Q0,P0,O0,F0,D0,J0,E0,C0,I0,o.hs,u,M0,K0⟩)
 refine dI 20 rfl<|bz (e:=123) (sz:=3) [] o u λO0 u o=>⟨λ_=>(St.ldsX u i2 ta3),?_⟩
 refine dz 19 rfl<|Ay (α:=Int) (xs:=[]) (ys:=p1.K) o rfl u underlying28 Bs rfl (by decide) rfl rfl rfl t2 S0 (u.rdO t5) R0 U0 λE0 C0 I0 w a K0 hU o=>?_
 replace u:=hU _ (.tail (.tail .head))
 refine ⟨λ_=>(St.ldsX u i2 ta3),?_⟩
 replace u:=u.pk [0,1,0,0,0,0,0] rfl
 exact Cm (by kernel_rfl) (hJ54 _ _ ⟨Q0,P0,O0,F0,D0,J0,E0,C0,I0,o.hs,u,M0,K0⟩)
 refine dI 20 rfl<|bz (e:=123) (sz:=3) [] o u λO0 u o=>⟨λ_=>(St.ldsX u i2 ta3),?_⟩
 refine dz 13 rfl<|Ay (α:=Int) (xs:=[]) (ys:=p1.L) o rfl u underlying28 Bs rfl (by decide) rfl rfl rfl t1 V0 (u.rdO t4) T0 Y0 λF0 D0 J0 w a M0 hU o=>?_
 replace u:=hU _ (.tail .head)
 refine ⟨λ_=>(St.ldsX u i2 ta3),?_⟩
 refine dz 19 rfl<|Ay (α:=Int) (xs:=[]) (ys:=p1.K) o rfl u underlying28 Bs rfl (by decide) rfl rfl rfl t2 S0 (u.rdO t5) R0 U0 λE0 C0 I0 w a K0 hU o=>?_
 replace u:=hU _ (.tail (.tail .head))
 refine ⟨λ_=>(St.ldsX u i2 ta3),?_⟩
 replace u:=u.pk [0,1,0,0,0,0,0] rfl
 exact Cm (by kernel_rfl) (hJ54 _ _ ⟨Q0,P0,O0,F0,D0,J0,E0,C0,I0,o.hs,u,M0,K0⟩)
 refine dI 20 rfl<|bz (e:=123) (sz:=3) [] o u λO0 u o=>⟨λ_=>(St.ldsX u i2 ta2),?_⟩
 refine dz 8 rfl<|bz (e:=3) (sz:=1) [] o u λQ0 u o=>⟨λ_=>(St.ldsX u i2 ta3),?_⟩
 refine dz 13 rfl<|Ay (α:=Int) (xs:=[]) (ys:=p1.L) o rfl u underlying28 Bs rfl (by decide) rfl rfl rfl t0 V0 (u.rdO t4) T0 Y0 λF0 D0 J0 w a M0 hU o=>?_
 replace u:=hU _ .head
 refine ⟨λ_=>(St.ldsX u i2 ta3),?_⟩
 refine dz 19 rfl<|Ay (α:=Int) (xs:=[]) (ys:=p1.K) o rfl u underlying28 Bs rfl (by decide) rfl rfl rfl t2 S0 (u.rdO t5) R0 U0 λE0 C0 I0 w a K0 hU o=>?_
 replace u:=hU _ (.tail (.tail .head))
 refine ⟨λ_=>(St.ldsX u i2 ta3),?_⟩
 replace u:=u.pk [1,1,0,0,0,0,0] rfl
 exact Cm (by kernel_rfl) (hJ54 _ _ ⟨Q0,P0,O0,F0,D0,J0,E0,C0,I0,o.hs,u,M0,K0⟩)
 refine dI 20 rfl<|bz (e:=123) (sz:=3) [] o u λO0 u o=>⟨λ_=>(St.ldsX u i2 ta1),?_⟩
 refine da2 (i:=8) (j:=14) (by kernel_rfl) ?_ ?_
 refine dI 8 rfl<|bz (e:=3) (sz:=1) [] o u λQ0 u o=>⟨λ_=>(St.ldsX u i2 ta2),?_⟩
 refine da2 (i:=13) (j:=14) (by kernel_rfl) ?_ ?_
 refine dI 13 rfl<|Ay (α:=Int) (xs:=[]) (ys:=p1.L) o rfl u underlying28 Bs rfl (by decide) rfl rfl rfl t0 V0 (u.rdO t3) T0 Y0 λF0 D0 J0 w a M0 hU o=>?_
 replace u:=hU _ .head
 refine ⟨λ_=>(St.ldsX u i2 ta2),?_⟩
 refine dz 14 rfl<|bz (e:=3) (sz:=1) [] o u λP0 u o=>⟨λ_=>(St.ldsX u i2 ta3),?_⟩
 refine dz 19 rfl<|Ay (α:=Int) (xs:=[]) (ys:=p1.K) o rfl u underlying28 Bs rfl (by decide) rfl rfl rfl t0 S0 (u.rdO t5) R0 U0 λE0 C0 I0 w a K0 hU o=>?_
 replace u:=hU _ .head
 refine ⟨λ_=>(St.ldsX u i2 ta3),?_⟩
 replace u:=u.pk [2,0,0,0,0,0,0] rfl
 exact Cm (by kernel_rfl) (hJ54 _ _ ⟨Q0,P0,O0,F0,D0,J0,E0,C0,I0,o.hs,u,M0,K0⟩)
 refine dI 14 rfl<|bz (e:=3) (sz:=1) [] o u λP0 u o=>⟨λ_=>(St.ldsX u i2 ta3),?_⟩
 refine dz 13 rfl<|Ay (α:=Int) (xs:=[]) (ys:=p1.L) o rfl u underlying28 Bs rfl (by decide) rfl rfl rfl t1 V0 (u.rdO t4) T0 Y0 λF0 D0 J0 w a M0 hU o=>?_
 replace u:=hU _ (.tail .head)
 refine ⟨λ_=>(St.ldsX u i2 ta3),?_⟩
 refine dz 19 rfl<|Ay (α:=Int) (xs:=[]) (ys:=p1.K) o rfl u underlying28 Bs rfl (by decide) rfl rfl rfl t0 S0 (u.rdO t5) R0 U0 λE0 C0 I0 w a K0 hU o=>?_
 replace u:=hU _ .head
 refine ⟨λ_=>(St.ldsX u i2 ta3),?_⟩
 replace u:=u.pk [2,0,0,0,0,0,0] rfl
 exact Cm (by kernel_rfl) (hJ54 _ _ ⟨Q0,P0,O0,F0,D0,J0,E0,C0,I0,o.hs,u,M0,K0⟩)
 refine dI 14 rfl<|bz (e:=3) (sz:=1) [] o u λP0 u o=>⟨λ_=>(St.ldsX u i2 ta2),?_⟩
 refine dz 8 rfl<|bz (e:=3) (sz:=1) [] o u λQ0 u o=>⟨λ_=>(St.ldsX u i2 ta3),?_⟩
 refine dz 13 rfl<|Ay (α:=Int) (xs:=[]) (ys:=p1.L) o rfl u underlying28 Bs rfl (by decide) rfl rfl rfl t0 V0 (u.rdO t4) T0 Y0 λF0 D0 J0 w a M0 hU o=>?_
 replace u:=hU _ .head
 refine ⟨λ_=>(St.ldsX u i2 ta3),?_⟩
 refine dz 19 rfl<|Ay (α:=Int) (xs:=[]) (ys:=p1.K) o rfl u underlying28 Bs rfl (by decide) rfl rfl rfl t1 S0 (u.rdO t5) R0 U0 λE0 C0 I0 w a K0 hU o=>?_
 replace u:=hU _ (.tail .head)
 refine ⟨λ_=>(St.ldsX u i2 ta3),?_⟩
 replace u:=u.pk [2,1,0,0,0,0,0] rfl
 exact Cm (by kernel_rfl) (hJ54 _ _ ⟨Q0,P0,O0,F0,D0,J0,E0,C0,I0,o.hs,u,M0,K0⟩)
 rintro a w ⟨Q0,P0,O0,F0,D0,J0,E0,C0,I0,o,u,M0,K0⟩
 refine dz 25 rfl<|Ay (α:=leadlineref11_Put) (xs:=[]) (ys:=p1.W) o rfl u underlying60 Nx rfl (by decide) rfl rfl rfl t0 R1 (u.rdO t6) J1 T1 λj0 W0 E1 w a S1 hU o=>?_
 replace u:=hU _ .head
 refine ⟨λ_=>(St.ldsX u i2 ta3),?_⟩
 refine dq 26 (St.ldsX u i2 ta3) o rfl (λw hl=>bL [SL oa3 p1.Of cap4,SL oa7 p1.Firsts cap8,SL F0 n0 D0,SL E0 C1 C0,SL j0 D1 W0] [SL oa3 p1.Of cap4,SL oa7 p1.Firsts cap8,SL F0 n0 D0,SL E0 C1 C0,SL j0 D1 W0] o) λo=>dz 27 rfl<|Bo (cs:=[SL oa3 p1.Of cap4,SL oa7 p1.Firsts cap8,SL F0 n0 D0,SL E0 C1 C0,SL j0 D1 W0].toArray) o rfl u rfl rfl λF1 w a u o=>⟨λ_=>(St.ldsX u i2 (λ_ h=>(.tail _ (.tail _ (.tail _ (.tail _ h)))))),?_⟩
 refine ds 28 (St.ldsX u i2 (λ_ h=>(.tail _ (.tail _ (.tail _ (.tail _ h)))))) o rfl (Ca o rfl) λo=>dE<|tn<|wr<|?_
 replace u:=St.sep [bk F1 [SL oa3 p1.Of cap4,SL oa7 p1.Firsts cap8,SL F0 n0 D0,SL E0 C1 C0,SL j0 D1 W0] 62,sla 3 1 F0 n0.length D0 J0,sla 3 1 E0 C1.length C0 I0,sla 123 3 j0 D1.length W0 E1] (u.pk [0,2,1,0,0,0,0,0] rfl)
 obtain rfl:=si hm
 exact r1 o results42 rfl ⟨(PT F1),(sepA [bk F1 [SL oa3 p1.Of cap4,SL oa7 p1.Firsts cap8,SL F0 n0 D0,SL E0 C1 C0,SL j0 D1 W0] 62,sla 3 1 F0 n0.length D0 J0,sla 3 1 E0 C1.length C0 I0,sla 123 3 j0 D1.length W0 E1]),oa3,cap4,oa7,cap8,oa11,cap12,vs13,oa16,cap17,vs18,oa21,cap22,vs23,rfl,(.inr ⟨F1,oa3,cap4,oa7,cap8,F0,D0,J0,E0,C0,I0,j0,W0,E1,_,rfl,rfl,rfl,O1,P1,Q1,I1,(λ_=>Rows.ind M0),(λ_=>Rows.ind K0),(λ_=>Rows.ind S1)⟩),O1,P1,Q1,I1,(λ_=>Rows.ind T0),(λ_=>Rows.ind R0),(λ_=>Rows.ind J1),(u.pk [1,1,1,1,0] rfl).endMut⟩
theorem Jgk (hH:H.le w0) {p1:api_Entry} {r:Bool} (hm:Z7k N p1=some r):Tot Tryz.prog 97 #[.agg #[i6 p1.Kind,i6 p1.Line,i6 p1.Cell,i6 p1.N]] w0 (λv w'=>v=.bool r∧Keep Nil w0 w'):=by
 unfold Z7k at hm
 refine fn0 func97 rfl ntmps97 rfl rfl λa o=>?_
 have u:St w0 Nil [H] [] w0:=start1 hH
 refine th<|rg<|ls<|Bo (cs:=[i6 p1.Kind,i6 p1.Line,i6 p1.Cell,i6 p1.N].toArray) o rfl u rfl rfl λb2 w a u o=>qa o rfl λo=>re<|tn<|th<|th<|rg<|qf o Fa rfl λo=>qB o isAgg3 rfl u t0 rfl λo=>qv o (Ah o rfl rfl) λo=>re<|?_
 rcases bip hm with ⟨C0,hm⟩ | ⟨C0,hm⟩
 refine tn<|ctv o rfl C0<|th<|rg<|qf o Ju rfl λo=>qB o isAgg3 rfl u t0 rfl λo=>qv o (Bw o rfl rfl) λo=>qm o rfl λo=>gr (Fk:=[(13,.bool ((decide (0≤p1.Line)) && (decide (0≤p1.Cell))))]) 9 4 o u ?_ ?_ ?_
 intro hb o key
 exact qg o (Ad o Nc rfl) λo=>qg o (eB o isAgg3 rfl u.ld t0 rfl) λo=>qg o (Bw o rfl rfl) λo=>qk o (Ab o rfl rfl) key u hb
 intro hb o key
 iterate 3 refine qn o λo=>?_
 exact qk o (Ac o rfl rfl) key u hb
 intro a w o u
 refine qa o rfl λo=>re<|tn<|wr<|tr<|?_
 obtain rfl:=si hm
 exact r1 o results97 rfl ⟨rfl,u.keep⟩
 refine tn<|cfv o rfl C0<|wk<|tn<|th<|th<|rg<|qf o Nc rfl λo=>qB o isAgg3 rfl u t0 rfl λo=>qv o (Bg o rfl rfl) λo=>qm o rfl λo=>gr (Fk:=[(1,PT b2),(21,.bool ((decide (p1.Cell≠0)) || (decide (p1.N≠0))))]) 17 4 o u ?_ ?_ ?_
 intro hb o key
 iterate 3 refine qn o λo=>?_
 exact qk o (Ab o rfl rfl) key u hb
 intro hb o key
 exact qg o (Ad o Pu rfl) λo=>qg o (eB o isAgg3 rfl u.ld t0 rfl) λo=>qg o (Bg o rfl rfl) λo=>qk o (Ac o rfl rfl) key u hb
 intro a w o u
 refine re<|?_
 rcases bit hm with ⟨D0,hm⟩ | ⟨D0,hm⟩
 refine tn<|ctv o rfl D0<|th<|rg<|qa o rfl λo=>re<|tn<|wr<|tr<|?_
 obtain rfl:=si hm
 exact r1 o results97 rfl ⟨rfl,u.keep⟩
 refine tn<|cfv o rfl D0<|wk<|tn<|th<|rg<|qf o Fa rfl λo=>qB o isAgg3 rfl u t0 rfl λo=>qv o (Ah o rfl rfl) λo=>qm o rfl λo=>gr (Fk:=[(1,PT b2),(29,.bool ((decide (p1.Kind=5)) || (decide (p1.Kind=6))))]) 25 4 o u ?_ ?_ ?_
 intro hb o key
 iterate 3 refine qn o λo=>?_
 exact qk o (Ab o rfl rfl) key u hb
 intro hb o key
 exact qg o (Ad o Fa rfl) λo=>qg o (eB o isAgg3 rfl u.ld t0 rfl) λo=>qg o (Ah o rfl rfl) λo=>qk o (Ac o rfl rfl) key u hb
 intro a w o u
 refine qm o rfl λo=>gr (Fk:=[(1,PT b2),(34,.bool (((decide (p1.Kind=5)) || (decide (p1.Kind=6))) && (decide (0≤p1.Line))))]) 30 4 o u ?_ ?_ ?_
 intro hb o key
 exact qg o (Ad o Ju rfl) λo=>qg o (eB o isAgg3 rfl u.ld t0 rfl) λo=>qg o (Bw o rfl rfl) λo=>qk o (Ab o rfl rfl) key u hb
 intro hb o key
 iterate 3 refine qn o λo=>?_
 exact qk o (Ac o rfl rfl) key u hb
 intro a w o u
 refine qm o rfl λo=>gr (Fk:=[(44,.bool ((((decide (p1.Kind=5)) || (decide (p1.Kind=6))) && (decide (0≤p1.Line))) || ((decide (p1.Kind=7)) && (decide (p1.Line=0)))))]) 35 9 o u ?_ ?_ ?_
 intro hb o key
 iterate 4 refine qn o λo=>?_
 iterate 3 refine ls<|gnu o rfl rfl rfl λa o=>?_
 exact qn o λo=>qk o (Ab o rfl rfl) key u hb
 intro hb o key
 refine qg o (Ad o Fa rfl) λo=>qg o (eB o isAgg3 rfl u.ld t0 rfl) λo=>qg o (Ah o rfl rfl) λo=>qg o (Aa o rfl) λo=>gr (Fk:=[(35,.bool false),(43,.bool ((decide (p1.Kind=7)) && (decide (p1.Line=0))))]) 39 4 o u ?_ ?_ ?_
 intro hb o key
 exact qg o (Ad o Ju rfl) λo=>qg o (eB o isAgg3 rfl u.ld t0 rfl) λo=>qg o (Ah o rfl rfl) λo=>ql o (Ab o rfl rfl) key u hb
 intro hb o key
 iterate 3 refine qn o λo=>?_
 exact ql o (Ac o rfl rfl) key u hb
 intro a w o u
 exact qk o (Ac o rfl rfl) key u hb
 intro a w o u
 refine qa o rfl λo=>re<|tn<|wr<|?_
 obtain rfl:=si hm
 exact r1 o results97 rfl ⟨rfl,u.keep⟩
theorem Jgz (hH:H.le w0) {b2:Nat} {p1:leadlineref12_Buffer} {oa3:Option Addr} {cap4:Nat} {vs5:List Value} (R0:Rows H vs5 p1.L) {p8:api_Entry} (hO:(sepA [bk b2 [i6 p1.Room,SL oa3 p1.L cap4] 120,sla 159 4 oa3 p1.L.length cap4 vs5]).ok (hp w0)) (hD:∀ b,(sepA [bk b2 [i6 p1.Room,SL oa3 p1.L cap4] 120,sla 159 4 oa3 p1.L.length cap4 vs5]).fp b→H b=none) {r:(Int×leadlineref12_Buffer)} (hm:Z7f N p1 p8=some r):Tot Tryz.prog 79 #[PT b2,.agg #[i6 p8.Kind,i6 p8.Line,i6 p8.Cell,i6 p8.N]] w0 (λv w'=>∃ (oa1m:Option Addr) (cap1m:Nat) (vs1m:List Value),v=i6 r.1∧(∀ h,Rows h vs1m r.2.L)∧Mut w0 (sepA [bk b2 [i6 p1.Room,SL oa3 p1.L cap4] 120,sla 159 4 oa3 p1.L.length cap4 vs5]) (sepA [bk b2 [i6 r.2.Room,SL oa1m r.2.L cap1m] 120,sla 159 4 oa1m r.2.L.length cap1m vs1m]) w'):=by
 unfold Z7f at hm
 refine fn0 func79 rfl ntmps79 rfl rfl λa o=>?_
 have u:=Gg hH hO hD
 refine th<|rg<|ls<|Bo (cs:=[i6 p8.Kind,i6 p8.Line,i6 p8.Cell,i6 p8.N].toArray) o rfl u rfl rfl λb9 w a u o=>qa o rfl λo=>re<|tn<|th<|th<|?_
 obtain ⟨Y0,V0,hm⟩:=bs hm
 refine rg<|qv o (An o Tryz.isAgg159 Tryz.sizeOf159 rfl rfl (u.ld.cellsB t0)) λo=>ls<|cr o call97 (Jgk (Ag _) V0) u λu o=>qv o (Bi o rfl) λo=>re<|?_
 rcases bit hm with ⟨J0,hm⟩ | ⟨J0,hm⟩
 refine tn<|cfv o rfl (by rw [J0];rfl)<|wk<|tn<|th<|th<|rxS 10 u wide (by kernel_rfl) λw u=>xm u o rfl λo=>xr u o (Af o rfl) λo=>xr u o (Ad o Cd rfl) λo=>xq u.ld o (λw hl=>eB o isAgg118 rfl hl t1 rfl) λo=>xr u o (Aj (α:=api_Entry) (xs:=p1.L) o Ff rfl) λo=>xm u o rfl λo=>xr u o (Af o rfl) λo=>xr u o (Ad o Jbb rfl) λo=>xq u.ld o (λw hl=>eB o isAgg3 rfl hl t1 rfl) λo=>xr u o (Bw o rfl rfl) λo=>xe<|?_
 rcases bip hm with ⟨K0,hm⟩ | ⟨K0,hm⟩
 refine tn<|ctv o rfl K0<|th<|rg<|qa o rfl λo=>re<|tn<|wr<|tr<|?_
 obtain rfl:=si hm
 exact r1 o results79 rfl ⟨oa3,cap4,vs5,rfl,(λ_=>Rows.ind R0),(u.pk [1,1] rfl).endMut⟩
 refine tn<|cfv o rfl K0<|wk<|tn<|th<|Av (λa w=>∃ (I0:(List api_Entry)) (D0:Option Addr) (C0:Nat) (E0:List Value),(Z7g p1) I0=some r∧Fr 28 [(0,PT b2)] a∧St w0 (sepA [bk b2 [i6 p1.Room,SL oa3 p1.L cap4] 120,sla 159 4 oa3 p1.L.length cap4 vs5]).fp [H] [sla 159 4 D0 I0.length C0 E0,bk b2 [i6 p1.Room,SL D0 I0 C0] 120] w∧Rows H E0 I0) ?_ ?_
 obtain ⟨S0,T0,hm⟩:=bs hm
 refine rdL (Bh t0 Ey) 11 u wide λw u=>ds 0 (u.lx i2 [0] rfl) o rfl (Aa o rfl) λo=>ds 1 (u.lx i2 [0] rfl) o rfl (Aa o rfl) λo=>ds 2 (u.lx i2 [0] rfl) o rfl (Af o rfl) λo=>ds 3 (u.lx i2 [0] rfl) o rfl (Ad o Cd rfl) λo=>dq 5 (u.lx i2 [0] rfl) o rfl (λw hl=>An o isAgg159 sizeOf159 rfl rfl (hl.cellsB t0)) λo=>da2 (i:=4) (j:=6) (by kernel_rfl) ?_ ?_
 refine dI 4 rfl<|q1 o rfl (eB o isAgg118 rfl u.ld t1 rfl) λa o=>⟨λ_=>(u.lx i2 [0] rfl),?_⟩
 refine dz 6 rfl<|bz (e:=159) (sz:=4) [i6 p8.Kind,i6 p8.Line,i6 p8.Cell,i6 p8.N] o u λW0 u o=>?_
 have M0:Rows (α:=api_Entry) H [i6 p8.Kind,i6 p8.Line,i6 p8.Cell,i6 p8.N] ([p8]:List api_Entry):=(.cons (c:=[i6 p8.Kind,i6 p8.Line,i6 p8.Cell,i6 p8.N]) ⟨_,_,rfl,rfl,⟨_,_,rfl,rfl,⟨_,_,rfl,rfl,rfl⟩⟩⟩ .nil)
 refine ⟨λ_=>(u.lx i2 [1] rfl),?_⟩
 refine dz 7 rfl<|Ay (α:=api_Entry) (xs:=p1.L) (ys:=([p8]:List api_Entry)) o rfl u underlying118 Ni rfl (by decide) rfl rfl rfl t3 R0 (u.rdO t0) M0 T0 λO0 F0 P0 w a Q0 hU o=>?_
 replace u:=hU _ (.tail (.tail (.tail .head)))
 replace u:=u.drop .head
 refine ⟨λ_=>(u.lx i2 [0] rfl),?_⟩
 refine ds 8 (u.lx i2 [0] rfl) o rfl (Af o rfl) λo=>ds 9 (u.lx i2 [0] rfl) o rfl (Ad o Cd rfl) λo=>dz 10 rfl<|Bl o u sizeOf118 rfl rfl rfl rfl (.tail .head) (.succ .zero) λw u=>⟨λ_=>(u.lx i2 [0] rfl),?_⟩
 refine dE<|tn<|?_
 replace u:=u.pk [2,1] rfl
 exact ⟨S0,O0,F0,P0,hm,o.hs,u,Q0⟩
 refine dI 6 rfl<|bz (e:=159) (sz:=4) [i6 p8.Kind,i6 p8.Line,i6 p8.Cell,i6 p8.N] o u λW0 u o=>?_
 have M0:Rows (α:=api_Entry) H [i6 p8.Kind,i6 p8.Line,i6 p8.Cell,i6 p8.N] ([p8]:List api_Entry):=(.cons (c:=[i6 p8.Kind,i6 p8.Line,i6 p8.Cell,i6 p8.N]) ⟨_,_,rfl,rfl,⟨_,_,rfl,rfl,⟨_,_,rfl,rfl,rfl⟩⟩⟩ .nil)
 refine ⟨λ_=>(u.lx i2 [1] rfl),?_⟩
 refine dz 4 rfl<|q1 o rfl (eB o isAgg118 rfl u.ld t2 rfl) λa o=>⟨λ_=>(u.lx i2 [1] rfl),?_⟩
 refine dz 7 rfl<|Ay (α:=api_Entry) (xs:=p1.L) (ys:=([p8]:List api_Entry)) o rfl u underlying118 Ni rfl (by decide) rfl rfl rfl t3 R0 (u.rdO t0) M0 T0 λO0 F0 P0 w a Q0 hU o=>?_
 replace u:=hU _ (.tail (.tail (.tail .head)))
 replace u:=u.drop .head
 refine ⟨λ_=>(u.lx i2 [0] rfl),?_⟩
 refine ds 8 (u.lx i2 [0] rfl) o rfl (Af o rfl) λo=>ds 9 (u.lx i2 [0] rfl) o rfl (Ad o Cd rfl) λo=>dz 10 rfl<|Bl o u sizeOf118 rfl rfl rfl rfl (.tail .head) (.succ .zero) λw u=>⟨λ_=>(u.lx i2 [0] rfl),?_⟩
 refine dE<|tn<|?_
 replace u:=u.pk [2,1] rfl
 exact ⟨S0,O0,F0,P0,hm,o.hs,u,Q0⟩
 rintro a w ⟨I0,D0,C0,E0,hm,o,u,U0⟩
 unfold Z7g at hm
 refine th<|rg<|qa o rfl λo=>re<|tn<|wr<|?_
 obtain rfl:=si hm
 exact r1 o results79 rfl ⟨D0,C0,E0,rfl,(λ_=>Rows.ind U0),(u.pk [1,0] rfl).endMut⟩
 refine tn<|ctv o rfl (by rw [J0];rfl)<|th<|rg<|qa o rfl λo=>re<|tn<|wr<|tr<|?_
 obtain rfl:=si hm
 exact r1 o results79 rfl ⟨oa3,cap4,vs5,rfl,(λ_=>Rows.ind R0),(u.pk [1,1] rfl).endMut⟩
theorem Jgh (hH:H.le w0) {p1:api_Entry} {p2:api_Entry} {r:Bool} (hm:Z7j N p1 p2=some r):Tot Tryz.prog 95 #[.agg #[i6 p1.Kind,i6 p1.Line,i6 p1.Cell,i6 p1.N],.agg #[i6 p2.Kind,i6 p2.Line,i6 p2.Cell,i6 p2.N]] w0 (λv w'=>v=.bool r∧Keep Nil w0 w'):=by
 unfold Z7j at hm
 refine fn0 func95 rfl ntmps95 rfl rfl λa o=>?_
 have u:St w0 Nil [H] [] w0:=start1 hH
 refine th<|rg<|ls<|Bo (cs:=[i6 p1.Kind,i6 p1.Line,i6 p1.Cell,i6 p1.N].toArray) o rfl u rfl rfl λb3 w a u o=>ls<|Bo (cs:=[i6 p2.Kind,i6 p2.Line,i6 p2.Cell,i6 p2.N].toArray) o rfl u rfl rfl λb4 w a u o=>qa o rfl λo=>re<|tn<|th<|th<|rg<|qf o Fa rfl λo=>qB o isAgg3 rfl u t1 rfl λo=>qv o (Ah o rfl rfl) λo=>qm o rfl λo=>gr (Fk:=[(2,PT b3),(3,PT b4),(12,.bool ((decide (p1.Kind=7)) || (decide (p2.Kind=7))))]) 8 4 o u ?_ ?_ ?_
 intro hb o key
 iterate 3 refine qn o λo=>?_
 exact qk o (Ab o rfl rfl) key u hb
 intro hb o key
 exact qg o (Ad o Fa rfl) λo=>qg o (eB o isAgg3 rfl u.ld t0 rfl) λo=>qg o (Ah o rfl rfl) λo=>qk o (Ac o rfl rfl) key u hb
 intro a w o u
 refine qm o rfl λo=>gr (Fk:=[(2,PT b3),(3,PT b4),(19,.bool (((decide (p1.Kind=7)) || (decide (p2.Kind=7))) || (decide (p1.Line=p2.Line))))]) 13 6 o u ?_ ?_ ?_
 intro hb o key
 iterate 5 refine qn o λo=>?_
 exact qk o (Ab o rfl rfl) key u hb
 intro hb o key
 exact qg o (Ad o Ju rfl) λo=>qg o (eB o isAgg3 rfl u.ld t1 rfl) λo=>qg o (Ad o Ju rfl) λo=>qg o (eB o isAgg3 rfl u.ld t0 rfl) λo=>qg o (Ah o rfl rfl) λo=>qk o (Ac o rfl rfl) key u hb
 intro a w o u
 refine re<|?_
 rcases bit hm with ⟨C0,hm⟩ | ⟨C0,hm⟩
 refine tn<|ctv o rfl C0<|th<|rg<|qa o rfl λo=>re<|tn<|wr<|tr<|?_
 obtain rfl:=si hm
 exact r1 o results95 rfl ⟨rfl,u.keep⟩
 refine tn<|cfv o rfl C0<|wk<|tn<|th<|rg<|qf o Fa rfl λo=>qB o isAgg3 rfl u t1 rfl λo=>qv o (Ah o rfl rfl) λo=>qm o rfl λo=>gr (Fk:=[(27,.bool ((decide (p1.Kind=6)) || (decide (p2.Kind=6))))]) 23 4 o u ?_ ?_ ?_
 intro hb o key
 iterate 3 refine qn o λo=>?_
 exact qk o (Ab o rfl rfl) key u hb
 intro hb o key
 exact qg o (Ad o Fa rfl) λo=>qg o (eB o isAgg3 rfl u.ld t0 rfl) λo=>qg o (Ah o rfl rfl) λo=>qk o (Ac o rfl rfl) key u hb
 intro a w o u
 refine qa o rfl λo=>re<|tn<|wr<|?_
 obtain rfl:=si hm
 exact r1 o results95 rfl ⟨rfl,u.keep⟩
theorem Je7 (hH:H.le w0) {b2:Nat} {p1:leadlineref12_Buffer} {oa3:Option Addr} {cap4:Nat} {vs5:List Value} (C0:Rows H vs5 p1.L) {p8:Int} (hO:(sepA [bk b2 [i6 p1.Room,SL oa3 p1.L cap4] 120,sla 159 4 oa3 p1.L.length cap4 vs5]).ok (hp w0)) (hD:∀ b,(sepA [bk b2 [i6 p1.Room,SL oa3 p1.L cap4] 120,sla 159 4 oa3 p1.L.length cap4 vs5]).fp b→H b=none) {r:(Bool×leadlineref12_Buffer)} (hm:Z73 N p1 p8=some r):Tot Tryz.prog 72 #[PT b2,i6 p8] w0 (λv w'=>∃ (oa1m:Option Addr) (cap1m:Nat) (vs1m:List Value),v=.bool r.1∧(∀ h,Rows h vs1m r.2.L)∧Mut w0 (sepA [bk b2 [i6 p1.Room,SL oa3 p1.L cap4] 120,sla 159 4 oa3 p1.L.length cap4 vs5]) (sepA [bk b2 [i6 r.2.Room,SL oa1m r.2.L cap1m] 120,sla 159 4 oa1m r.2.L.length cap1m vs1m]) w'):=by
 unfold Z73 at hm
 refine fn0 func72 rfl ntmps72 rfl rfl λa o=>?_
 have u:=Gg hH hO hD
 refine th<|rg<|qa o rfl λo=>re<|tn<|th<|th<|rg<|qm o rfl λo=>qv o (Am o rfl rfl) λo=>qm o rfl λo=>gr (Fk:=[(0,PT b2),(1,i6 p8),(16,.bool ((decide (p8 < 0)) || (decide ((p1.L.length:Int)≤p8))))]) 8 8 o u ?_ ?_ ?_
 intro hb o key
 iterate 7 refine qn o λo=>?_
 exact qk o (Ab o rfl rfl) key u hb
 intro hb o key
 iterate 2 refine qg o (Aa o rfl) λo=>?_
 exact qg o (Af o rfl) λo=>qg o (Ad o Cd rfl) λo=>qg o (eB o isAgg118 rfl u.ld t0 rfl) λo=>qg o (Aj (α:=api_Entry) (xs:=p1.L) o Ff rfl) λo=>qg o (Bw o rfl rfl) λo=>qk o (Ac o rfl rfl) key u hb
 intro a w o u
 refine re<|?_
 rcases bit hm with ⟨J0,hm⟩ | ⟨J0,hm⟩
 refine tn<|ctv o rfl J0<|th<|rg<|qa o rfl λo=>re<|tn<|wr<|tr<|?_
 obtain rfl:=si hm
 exact r1 o results72 rfl ⟨oa3,cap4,vs5,rfl,(λ_=>Rows.ind C0),(u.pk [0,0] rfl).endMut⟩
 refine tn<|cfv o rfl J0<|wk<|tn<|th<|th<|rg<|qa o rfl λo=>re<|tn<|Av (λa w=>(Z74 p1)=some r∧Fr 38 [(0,PT b2)] a∧St w0 (sepA [bk b2 [i6 p1.Room,SL oa3 p1.L cap4] 120,sla 159 4 oa3 p1.L.length cap4 vs5]).fp [H] [sla 159 4 oa3 p1.L.length cap4 vs5,bk b2 [i6 p1.Room,SL oa3 p1.L cap4] 120] w) ?_ ?_
 replace u:=u.pk [1,0] rfl
 refine wb<|lp (α:=Nat×Int) (λgh a w=>match gh with | (D0,I0)=>(Z75 N (Z74 p1) p1 p8) D0 I0=some r∧Fr 38 [(0,PT b2),(1,i6 p8),(5,i6 I0)] a∧St w0 (sepA [bk b2 [i6 p1.Room,SL oa3 p1.L cap4] 120,sla 159 4 oa3 p1.L.length cap4 vs5]).fp [H] [sla 159 4 oa3 p1.L.length cap4 vs5,bk b2 [i6 p1.Room,SL oa3 p1.L cap4] 120] w) (λgh=>gh.1) (N,0) ⟨hm,o.hs,u⟩ ?_
 rintro ⟨D0,I0⟩ a w ⟨hm,o,u⟩
 obtain _ | D0:=D0
 simp [Z75] at hm
 rw [Z75] at hm
 refine th<|th<|rg<|qm o rfl λo=>qm o rfl λo=>qv o (Am o rfl rfl) λo=>re<|?_
 rcases bip hm with ⟨E0,hm⟩ | ⟨E0,hm⟩
 refine tn<|ctv o rfl E0<|wk<|tn<|th<|wb<|th<|?_
 obtain ⟨V0,K0,hm⟩:=bs hm
 have O0:=Rd.oaI (u.rdO t0) C0 (by decide) K0
 obtain ⟨W0,S0,P0⟩:=Rows.getI C0 K0
 obtain rfl:=Dm S0
 obtain ⟨Y0,M0,hm⟩:=bs hm
 have Q0:=Rd.oaI (u.rdO t0) C0 (by decide) M0
 obtain ⟨j0,T0,R0⟩:=Rows.getI C0 M0
 obtain rfl:=Dm T0
 obtain ⟨n0,U0,hm⟩:=bs hm
 refine rdS 16 u wide λw u=>dr 0 u o rfl (Aa o rfl) λo=>dr 1 u o rfl (Af o rfl) λo=>dr 2 u o rfl (Ad o Cd rfl) λo=>dq 3 u.ld o rfl (λw hl=>eB o isAgg118 rfl hl t1 rfl) λo=>dr 4 u o rfl (Aa o rfl) λo=>dr 5 u o rfl (Co o Ff sizeOf159 rfl rfl K0 O0) λo=>dq 6 u.ld o rfl (λw hl=>An o isAgg159 sizeOf159 rfl rfl (hl.elsO t0 P0)) λo=>dr 7 u o rfl (Aa o rfl) λo=>dr 8 u o rfl (Af o rfl) λo=>dr 9 u o rfl (Ad o Cd rfl) λo=>dq 10 u.ld o rfl (λw hl=>eB o isAgg118 rfl hl t1 rfl) λo=>dr 11 u o rfl (Aa o rfl) λo=>dr 12 u o rfl (Co o Ff sizeOf159 rfl rfl M0 Q0) λo=>dq 13 u.ld o rfl (λw hl=>An o isAgg159 sizeOf159 rfl rfl (hl.elsO t0 R0)) λo=>dz 14 rfl<|cr o call95 (Jgh (Ag _) U0) u λu o=>⟨λ_=>u.ld,?_⟩
 refine dr 15 u o rfl (Bi o rfl) λo=>dE<|?_
 rcases bit hm with ⟨F0,hm⟩ | ⟨F0,hm⟩
 refine tn<|cfv o rfl (by rw [F0];rfl)<|wk<|bn<|tn<|rg<|qm o rfl λo=>qv o (Ao o rfl rfl) λo=>qa o rfl λo=>re<|tn<|?_
 exact ⟨(D0,(i64.wrap (I0+1))),⟨hm,o.hs,u⟩,kxd _⟩
 refine tn<|ctv o rfl (by rw [F0];rfl)<|th<|rg<|qa o rfl λo=>re<|tn<|wr<|br<|tr<|tr<|br<|tr<|?_
 obtain rfl:=si hm
 exact r1 o results72 rfl ⟨oa3,cap4,vs5,rfl,(λ_=>Rows.ind C0),(u.pk [1,0] rfl).endMut⟩
 refine tn<|cfv o rfl E0<|we<|tx<|tx<|bx<|tn<|?_
 exact ⟨hm,o.hs,u⟩
 rintro a w ⟨hm,o,u⟩
 unfold Z74 at hm
 refine th<|rg<|qa o rfl λo=>re<|tn<|wr<|?_
 obtain rfl:=si hm
 exact r1 o results72 rfl ⟨oa3,cap4,vs5,rfl,(λ_=>Rows.ind C0),(u.pk [1,0] rfl).endMut⟩
theorem Jgs (hH:H.le w0) {b2:Nat} {p1:leadlineref12_Buffer} {oa3:Option Addr} {cap4:Nat} {vs5:List Value} (X2:Rows H vs5 p1.L) (hO:(sepA [bk b2 [i6 p1.Room,SL oa3 p1.L cap4] 120,sla 159 4 oa3 p1.L.length cap4 vs5]).ok (hp w0)) (hD:∀ b,(sepA [bk b2 [i6 p1.Room,SL oa3 p1.L cap4] 120,sla 159 4 oa3 p1.L.length cap4 vs5]).fp b→H b=none) {r:((List Int)×leadlineref12_Buffer)} (hm:Z76 N p1=some r):Tot Tryz.prog 36 #[PT b2] w0 (λv w'=>∃ (K2:Option Addr) (X1:Nat) (O2:List Value) (oa1m:Option Addr) (cap1m:Nat) (vs1m:List Value),v=SL K2 r.1 X1∧(∀ h,Rows h O2 r.1)∧(∀ h,Rows h vs1m r.2.L)∧Mut w0 (sepA [bk b2 [i6 p1.Room,SL oa3 p1.L cap4] 120,sla 159 4 oa3 p1.L.length cap4 vs5]) (sepA [bk b2 [i6 r.2.Room,SL oa1m r.2.L cap1m] 120,sla 159 4 oa1m r.2.L.length cap1m vs1m,sla 3 1 K2 r.1.length X1 O2]) w'):=by
 unfold Z76 at hm
 refine fn0 func36 rfl ntmps36 rfl rfl λa o=>?_
 have u:=Gg hH hO hD
 refine th<|rg<|qa o rfl λo=>re<|tn<|th<|rg<|ls<|bz (e:=3) (sz:=1) [] o u λb9 u o=>?_
 have Y2:Rows (α:=Int) H [] []:=.nil
 refine qa o rfl λo=>re<|tn<|th<|th<|rg<|qa o rfl λo=>re<|tn<|Av (λa w=>∃ (Y1:Int) (O1:(List api_Entry)) (P1:(List Int)) (j0:Option Addr) (P0:Nat) (n0:List Value) (Q1:Option Addr) (S0:Nat) (C1:List Value),Z77 Y1 O1 P1=some r∧Fr 23 [(0,PT b2),(3,SL Q1 P1 S0)] a∧St w0 (sepA [bk b2 [i6 p1.Room,SL oa3 p1.L cap4] 120,sla 159 4 oa3 p1.L.length cap4 vs5]).fp [H] [sla 159 4 j0 O1.length P0 n0,bk b2 [i6 Y1,SL j0 O1 P0] 120,sla 3 1 Q1 P1.length S0 C1] w∧Rows H n0 O1∧Rows H C1 P1) ?_ ?_
 replace u:=u.pk [2,1,0] rfl
 refine wb<|lp (α:=Nat×Int×(List api_Entry)×(List Int)×Int) (λgh a w=>match gh with | (U0,V0,F0,O0,C0)=>∃ (I0:Option Addr) (D0:Nat) (M0:List Value) (T0:Option Addr) (E0:Nat) (J0:List Value),(Z79 N Z77) U0 V0 F0 O0 C0=some r∧Fr 23 [(0,PT b2),(3,SL T0 O0 E0),(4,i6 C0)] a∧St w0 (sepA [bk b2 [i6 p1.Room,SL oa3 p1.L cap4] 120,sla 159 4 oa3 p1.L.length cap4 vs5]).fp [H] [sla 159 4 I0 F0.length D0 M0,bk b2 [i6 V0,SL I0 F0 D0] 120,sla 3 1 T0 O0.length E0 J0] w∧Rows H M0 F0∧Rows H J0 O0) (λgh=>gh.1) (N,p1.Room,p1.L,[],0) ⟨oa3,cap4,vs5,(some ⟨b9,0,none⟩),0,[],hm,o.hs,u,X2,Y2⟩ ?_
 rintro ⟨U0,V0,F0,O0,C0⟩ a w ⟨I0,D0,M0,T0,E0,J0,hm,o,u,u1,D1⟩
 obtain _ | U0:=U0
 simp [Z79] at hm
 rw [Z79] at hm
 refine th<|th<|rg<|qm o rfl λo=>qm o rfl λo=>qv o (Af o rfl) λo=>qf o Cd rfl λo=>qB o isAgg118 rfl u t1 rfl λo=>qv o (Aj (α:=api_Entry) (xs:=F0) o Ff rfl) λo=>qv o (Am o rfl rfl) λo=>re<|?_
 rcases bip hm with ⟨R1,hm⟩ | ⟨R1,hm⟩
 refine tn<|ctv o rfl R1<|wk<|tn<|th<|Av (λa w=>∃ (T1:Int) (W0:(List api_Entry)) (Y0:(List Int)) (E1:Option Addr) (Q0:Nat) (F1:List Value) (I1:Option Addr) (K0:Nat) (R0:List Value),(Z78 (Z79 N Z77 U0) C0) T1 W0 Y0=some r∧Fr 23 [(0,PT b2),(3,SL I1 Y0 K0),(4,i6 C0)] a∧St w0 (sepA [bk b2 [i6 p1.Room,SL oa3 p1.L cap4] 120,sla 159 4 oa3 p1.L.length cap4 vs5]).fp [H] [sla 159 4 E1 W0.length Q0 F1,bk b2 [i6 T1,SL E1 W0 Q0] 120,sla 3 1 I1 Y0.length K0 R0] w∧Rows H F1 W0∧Rows H R0 Y0) ?_ ?_
 refine wb<|th<|?_
 obtain ⟨U1,A3,hm⟩:=bs hm
 refine rg<|qm o rfl λo=>qm o rfl λo=>?_
 replace u:=u.pk [1,0,0] rfl
 replace u:=St.sep [bk b2 [i6 V0,SL I0 F0 D0] 120,sla 159 4 I0 F0.length D0 M0] u
 refine ls<|c1 o rfl call72 (Je7 (St.le u) (p1:=(leadlineref12_Buffer.mk V0 F0)) (b2:=b2) (oa3:=I0) (cap4:=D0) (vs5:=M0) u1 (St.sepOk u) (St.sepDis u) A3) ⟨rfl,rfl,trivial⟩ (λv w a hR o=>?_)
 obtain ⟨C2,V1,E2,rfl,J1,hk⟩:=hR
 replace u:=(u.mut hk .head).unsep
 replace J1:=J1 H
 refine re<|?_
 rcases bit hm with ⟨S1,hm⟩ | ⟨S1,hm⟩
 refine tn<|ctv o rfl S1<|?_
 obtain ⟨B3,C3,hm⟩:=bs hm
 refine rg<|qm o rfl λo=>qm o rfl λo=>ls<|bz (e:=3) (sz:=1) [i6 C0] o u λD3 u o=>?_
 have P2:Rows (α:=Int) H [i6 C0] ([C0]:List Int):=(.cons (c:=[i6 C0]) rfl .nil)
 refine ls<|Ay (α:=Int) (xs:=O0) (ys:=([C0]:List Int)) o rfl u underlying28 Bs rfl (by decide) rfl rfl rfl t3 D1 (u.rdO t0) P2 C3 λR2 F2 T2 w a U2 hU o=>?_
 replace u:=hU _ (.tail (.tail (.tail .head)))
 replace u:=u.drop .head
 refine qa o rfl λo=>re<|bn<|tn<|?_
 replace u:=u.pk [1,0,0] rfl
 exact ⟨U1.2.Room,U1.2.L,B3,C2,V1,E2,R2,F2,T2,hm,o.hs,u,J1,U2⟩
 refine tn<|cfv o rfl S1<|wk<|bn<|tn<|?_
 replace u:=u.pk [1,0,0] rfl
 exact ⟨U1.2.Room,U1.2.L,O0,C2,V1,E2,T0,E0,J0,hm,o.hs,u,J1,D1⟩
 rintro a w ⟨T1,W0,Y0,E1,Q0,F1,I1,K0,R0,hm,o,u,V2,I2⟩
 unfold Z78 at hm
 refine rg<|qm o rfl λo=>qv o (Ao o rfl rfl) λo=>qa o rfl λo=>re<|tn<|?_
 exact ⟨(U0,T1,W0,Y0,(i64.wrap (C0+1))),⟨E1,Q0,F1,I1,K0,R0,hm,o.hs,u,V2,I2⟩,kxd _⟩
 refine tn<|cfv o rfl R1<|we<|tx<|tx<|bx<|tn<|?_
 exact ⟨V0,F0,O0,I0,D0,M0,T0,E0,J0,hm,o.hs,u,u1,D1⟩
 rintro a w ⟨Y1,O1,P1,j0,P0,n0,Q1,S0,C1,hm,o,u,W2,J2⟩
 unfold Z77 at hm
 refine th<|rg<|qm o rfl λo=>qa o rfl λo=>re<|tn<|wr<|?_
 obtain rfl:=si hm
 exact r1 o results36 rfl ⟨_,_,_,j0,P0,n0,rfl,(λ_=>Rows.ind J2),(λ_=>Rows.ind W2),(u.pk [1,0,0] rfl).endMut⟩
theorem Jhd (hH:H.le w0) {b2:Nat} {p1:leadlineref12_Buffer} {oa3:Option Addr} {cap4:Nat} {vs5:List Value} (Q0:Rows H vs5 p1.L) {p8:Int} (hO:(sepA [bk b2 [i6 p1.Room,SL oa3 p1.L cap4] 120,sla 159 4 oa3 p1.L.length cap4 vs5]).ok (hp w0)) (hD:∀ b,(sepA [bk b2 [i6 p1.Room,SL oa3 p1.L cap4] 120,sla 159 4 oa3 p1.L.length cap4 vs5]).fp b→H b=none) {r:(api_Entry×Int×leadlineref12_Buffer)} (hm:Z7h N p1 p8=some r):Tot Tryz.prog 73 #[PT b2,i6 p8] w0 (λv w'=>∃ (oa1m:Option Addr) (cap1m:Nat) (vs1m:List Value),v=.tuple #[.agg #[i6 r.1.Kind,i6 r.1.Line,i6 r.1.Cell,i6 r.1.N],i6 r.2.1]∧(∀ h,Rows h vs1m r.2.2.L)∧Mut w0 (sepA [bk b2 [i6 p1.Room,SL oa3 p1.L cap4] 120,sla 159 4 oa3 p1.L.length cap4 vs5]) (sepA [bk b2 [i6 r.2.2.Room,SL oa1m r.2.2.L cap1m] 120,sla 159 4 oa1m r.2.2.L.length cap1m vs1m]) w'):=by
 unfold Z7h at hm
 refine fn0 func73 rfl ntmps73 rfl rfl λa o=>?_
 have u:=Gg hH hO hD
 refine th<|rg<|ls<|Aq (cs:=[i6 0,i6 0,i6 0,i6 0].toArray) o rfl u Tryz.zeroValue159 rfl λb9 w a u o=>qa o rfl λo=>re<|tn<|th<|th<|rg<|qm o rfl λo=>qv o (Am o rfl rfl) λo=>qm o rfl λo=>gr (Fk:=[(0,PT b2),(1,i6 p8),(4,PT b9),(18,.bool ((decide (p8 < 0)) || (decide ((p1.L.length:Int)≤p8))))]) 10 8 o u ?_ ?_ ?_
 intro hb o key
 iterate 7 refine qn o λo=>?_
 exact qk o (Ab o rfl rfl) key u hb
 intro hb o key
 iterate 2 refine qg o (Aa o rfl) λo=>?_
 exact qg o (Af o rfl) λo=>qg o (Ad o Cd rfl) λo=>qg o (eB o isAgg118 rfl u.ld t1 rfl) λo=>qg o (Aj (α:=api_Entry) (xs:=p1.L) o Ff rfl) λo=>qg o (Bw o rfl rfl) λo=>qk o (Ac o rfl rfl) key u hb
 intro a w o u
 refine re<|?_
 rcases bit hm with ⟨E0,hm⟩ | ⟨E0,hm⟩
 refine tn<|ctv o rfl E0<|th<|rg<|qv o (bL [] [i6 0,i6 0,i6 0,i6 0] o) λo=>ls<|Ar o u sizeOf159 rfl rfl rfl rfl (Ak rfl) .head λw u=>qa o rfl λo=>re<|tn<|wr<|tr<|?_
 obtain rfl:=si hm
 exact r2c (vs:=[i6 0,i6 0,i6 0,i6 0]) (.inl rfl) o results73 rfl rfl isAgg159 sizeOf159 rfl (u.ld.cellsB t0) ⟨oa3,cap4,vs5,rfl,(λ_=>Rows.ind Q0),(u.pk [1,1] rfl).endMut⟩
 refine tn<|cfv o rfl E0<|wk<|tn<|th<|th<|?_
 obtain ⟨J0,I1,hm⟩:=bs hm
 refine rg<|qm o rfl λo=>qm o rfl λo=>?_
 replace u:=u.pk [1,1,0] rfl
 replace u:=St.sep [bk b2 [i6 p1.Room,SL oa3 p1.L cap4] 120,sla 159 4 oa3 p1.L.length cap4 vs5] u
 refine ls<|c1 o rfl call72 (Je7 (St.le u) (p1:=p1) (b2:=b2) (oa3:=oa3) (cap4:=cap4) (vs5:=vs5) Q0 (St.sepOk u) (St.sepDis u) I1) ⟨rfl,rfl,trivial⟩ (λv w a hR o=>?_)
 obtain ⟨T0,O0,U0,rfl,C0,hk⟩:=hR
 replace u:=(u.mut hk .head).unsep
 replace C0:=C0 H
 refine qv o (Bi o rfl) λo=>re<|?_
 rcases bit hm with ⟨F0,hm⟩ | ⟨F0,hm⟩
 refine tn<|cfv o rfl (by rw [F0];rfl)<|wk<|tn<|th<|?_
 obtain ⟨I0,K0,hm⟩:=bs hm
 have V0:=Rd.oaI (u.rdO t1) C0 (by decide) K0
 obtain ⟨J2,J1,W0⟩:=Rows.getI C0 K0
 obtain rfl:=Dm J1
 refine rg<|qm o rfl λo=>qv o (Af o rfl) λo=>qf o Cd rfl λo=>qB o isAgg118 rfl u t0 rfl λo=>qm o rfl λo=>qv o (Co o Ff sizeOf159 rfl rfl K0 V0) λo=>qv o (An o isAgg159 sizeOf159 rfl rfl (u.ld.elsO t1 W0)) λo=>ls<|Aq (cs:=[i6 0,i6 0,i6 0,i6 0].toArray) o rfl u zeroValue159 rfl λK2 w a u o=>ls<|Ar o u sizeOf159 rfl rfl rfl rfl (Ak rfl) .head λw u=>re<|tn<|th<|?_
 obtain ⟨H29,X1,M0,D0,u⟩:=St.frzSM u (.tail (.tail .head)) C0
 obtain ⟨O1,R0,hm⟩:=bs hm
 obtain ⟨Y1,T1,e37,e38,u1,Y0⟩:=SR.sub (sz:=4) M0 D0 rfl R0
 obtain ⟨P1,Q1,hm⟩:=bs hm
 refine rg<|ls<|bz (e:=159) (sz:=4) [] o u λO2 u o=>?_
 have j0:Rows (α:=api_Entry) H29 [] []:=.nil
 refine qm o rfl λo=>qv o (Af o rfl) λo=>qf o Cd rfl λo=>qB o isAgg118 rfl u t2 rfl λo=>qm o rfl λo=>qv o (Dc (xs:=J0.2.L) (vl:=0) (vh:=p8) o Ff sizeOf159 rfl D0 rfl rfl R0 e37 e38) λo=>?_
 obtain ⟨us47,hd48,hu49⟩:=id Y0
 refine ls<|Ay (α:=api_Entry) (xs:=[]) (ys:=O1) o rfl u underlying118 Ni rfl (by decide) rfl rfl rfl t0 j0 (u.rdH t0 hd48) hu49 Q1 λC2 U1 E2 w a n0 hU o=>?_
 replace u:=hU _ .head
 refine qa o rfl λo=>re<|tn<|th<|?_
 obtain ⟨R1,S0,hm⟩:=bs hm
 obtain ⟨F2,V1,e54,e55,I2,C1⟩:=SR.sub (sz:=4) M0 D0 rfl S0
 obtain ⟨P2,S1,hm⟩:=bs hm
 refine rg<|qm o rfl λo=>qm o rfl λo=>qv o (Af o rfl) λo=>qf o Cd rfl λo=>qB o isAgg118 rfl u t2 rfl λo=>qm o rfl λo=>qv o (Ao o rfl rfl) λo=>qv o (Dc (xs:=J0.2.L) (vl:=(i64.wrap (p8+1))) (vh:=(J0.2.L.length:Int)) o Ff sizeOf159 rfl D0 rfl rfl S0 e54 e55) λo=>?_
 obtain ⟨us64,hd65,hu66⟩:=id C1
 refine ls<|Ay (α:=api_Entry) (xs:=P1) (ys:=R1) o rfl u underlying118 Ni rfl (by decide) rfl rfl rfl t0 n0 (u.rdH t0 hd65) hu66 S1 λD1 P0 E1 w a F1 hU o=>?_
 replace u:=hU _ .head
 refine qa o rfl λo=>re<|tn<|th<|rg<|qm o rfl λo=>qm o rfl λo=>qv o (Af o rfl) λo=>qf o Cd rfl λo=>ls<|Bl o u sizeOf118 rfl rfl rfl rfl (.tail (.tail .head)) (.succ .zero) λw u=>re<|tn<|th<|rg<|qv o (An o Tryz.isAgg159 Tryz.sizeOf159 rfl rfl (u.ld.cellsB t1)) λo=>ls<|Ar o u sizeOf159 rfl rfl rfl rfl (Ak rfl) (.tail (.tail (.tail .head))) λw u=>qa o rfl λo=>re<|tn<|wr<|?_
 obtain rfl:=si hm
 exact r2c (vs:=[i6 I0.Kind,i6 I0.Line,i6 I0.Cell,i6 I0.N]) (.inl rfl) o results73 rfl rfl isAgg159 sizeOf159 rfl (u.ld.cellsB t3) ⟨D1,P0,E1,rfl,(λ_=>Rows.ind F1),(u.pk [2,0] rfl).endMut⟩
 refine tn<|ctv o rfl (by rw [F0];rfl)<|th<|rg<|qv o (bL [] [i6 0,i6 0,i6 0,i6 0] o) λo=>ls<|Ar o u sizeOf159 rfl rfl rfl rfl (Ak rfl) (.tail (.tail .head)) λw u=>qa o rfl λo=>re<|tn<|wr<|tr<|?_
 obtain rfl:=si hm
 exact r2c (vs:=[i6 0,i6 0,i6 0,i6 0]) (.inl rfl) o results73 rfl rfl isAgg159 sizeOf159 rfl (u.ld.cellsB t2) ⟨T0,O0,U0,rfl,(λ_=>Rows.ind C0),(u.pk [0,0] rfl).endMut⟩
theorem JgP (hH:H.le w0) {b2:Nat} {p1:leadlineref12_Buffer} {oa3:Option Addr} {cap4:Nat} {vs5:List Value} (C0:Rows H vs5 p1.L) {p8:Int} (hO:(sepA [bk b2 [i6 p1.Room,SL oa3 p1.L cap4] 120,sla 159 4 oa3 p1.L.length cap4 vs5]).ok (hp w0)) (hD:∀ b,(sepA [bk b2 [i6 p1.Room,SL oa3 p1.L cap4] 120,sla 159 4 oa3 p1.L.length cap4 vs5]).fp b→H b=none) {r:(Int×Bool×leadlineref12_Buffer)} (hm:Z7b N p1 p8=some r):Tot Tryz.prog 78 #[PT b2,i6 p8] w0 (λv w'=>∃ (oa1m:Option Addr) (cap1m:Nat) (vs1m:List Value),v=.tuple #[i6 r.1,.bool r.2.1]∧(∀ h,Rows h vs1m r.2.2.L)∧Mut w0 (sepA [bk b2 [i6 p1.Room,SL oa3 p1.L cap4] 120,sla 159 4 oa3 p1.L.length cap4 vs5]) (sepA [bk b2 [i6 r.2.2.Room,SL oa1m r.2.2.L cap1m] 120,sla 159 4 oa1m r.2.2.L.length cap1m vs1m]) w'):=by
 unfold Z7b at hm
 refine fn0 func78 rfl ntmps78 rfl rfl λa o=>?_
 have u:=Gg hH hO hD
 refine th<|rg<|qa o rfl λo=>qa o rfl λo=>re<|tn<|th<|th<|rg<|qm o rfl λo=>qv o (Af o rfl) λo=>qf o Cd rfl λo=>qB o isAgg118 rfl u t0 rfl λo=>qv o (Aj (α:=api_Entry) (xs:=p1.L) o Ff rfl) λo=>qv o (Dr o rfl rfl) λo=>qa o rfl λo=>re<|tn<|Av (λa w=>(Z7c p1)=some r∧Fr 46 [(0,PT b2)] a∧St w0 (sepA [bk b2 [i6 p1.Room,SL oa3 p1.L cap4] 120,sla 159 4 oa3 p1.L.length cap4 vs5]).fp [H] [sla 159 4 oa3 p1.L.length cap4 vs5,bk b2 [i6 p1.Room,SL oa3 p1.L cap4] 120] w) ?_ ?_
 replace u:=u.pk [1,0] rfl
 refine wb<|lp (α:=Nat×Int) (λgh a w=>match gh with | (D0,E0)=>(Z7e N (Z7c p1) p1 p8) D0 E0=some r∧Fr 46 [(0,PT b2),(1,i6 p8),(6,i6 E0)] a∧St w0 (sepA [bk b2 [i6 p1.Room,SL oa3 p1.L cap4] 120,sla 159 4 oa3 p1.L.length cap4 vs5]).fp [H] [sla 159 4 oa3 p1.L.length cap4 vs5,bk b2 [i6 p1.Room,SL oa3 p1.L cap4] 120] w) (λgh=>gh.1) (N,(i64.wrap ((p1.L.length:Int) - 1))) ⟨hm,o.hs,u⟩ ?_
 rintro ⟨D0,E0⟩ a w ⟨hm,o,u⟩
 obtain _ | D0:=D0
 simp [Z7e] at hm
 rw [Z7e] at hm
 refine th<|th<|rg<|qm o rfl λo=>qv o (Bw o rfl rfl) λo=>re<|?_
 rcases bip hm with ⟨M0,hm⟩ | ⟨M0,hm⟩
 refine tn<|ctv o rfl M0<|wk<|tn<|th<|wb<|th<|Av (λa w=>∃ (O0:Bool),(Z7d N (Z7e N (Z7c p1) p1 p8 D0) p1 E0) O0=some r∧Fr 46 [(0,PT b2),(1,i6 p8),(6,i6 E0),(37,.bool O0)] a∧St w0 (sepA [bk b2 [i6 p1.Room,SL oa3 p1.L cap4] 120,sla 159 4 oa3 p1.L.length cap4 vs5]).fp [H] [sla 159 4 oa3 p1.L.length cap4 vs5,bk b2 [i6 p1.Room,SL oa3 p1.L cap4] 120] w) ?_ ?_
 obtain ⟨U0,F0,hm⟩:=bs hm
 have P0:=Rd.oaI (u.rdO t0) C0 (by decide) F0
 obtain ⟨Y0,V0,I0⟩:=Rows.getI C0 F0
 obtain rfl:=Dm V0
 rcases bip hm with ⟨J0,hm⟩ | ⟨J0,hm⟩
 have R0:=Rd.oaI (u.rdO t0) C0 (by decide) F0
 refine rg<|qm o rfl λo=>qv o (Af o rfl) λo=>qf o Cd rfl λo=>qB o isAgg118 rfl u t1 rfl λo=>qm o rfl λo=>qv o (Co o Ff sizeOf159 rfl rfl F0 P0) λo=>qf o Fa rfl λo=>qv o (Ap o isAgg3 rfl (u.ld.elO2 t0 (I0 0 _ rfl))) λo=>qv o (Ah o rfl rfl) λo=>qv o (As (Aa o rfl) (congrArg Value.bool J0)) λo=>qg o (Aa o rfl) λo=>qg o (Af o rfl) λo=>qg o (Ad o Cd rfl) λo=>qg o (eB o isAgg118 rfl u.ld t1 rfl) λo=>qg o (Aa o rfl) λo=>qg o (Co o Ff sizeOf159 rfl rfl F0 R0) λo=>qg o (Ad o Nc rfl) λo=>qg o (Ap o isAgg3 rfl (u.ld.elO2 t0 (I0 2 _ rfl))) λo=>qg o (Aa o rfl) λo=>qg o (Ah o rfl rfl) λo=>qv o (Ab o rfl rfl) λo=>re<|tn<|?_
 exact ⟨(decide (U0.Cell=p8)),hm,o.hs,u⟩
 refine rg<|qm o rfl λo=>qv o (Af o rfl) λo=>qf o Cd rfl λo=>qB o isAgg118 rfl u t1 rfl λo=>qm o rfl λo=>qv o (Co o Ff sizeOf159 rfl rfl F0 P0) λo=>qf o Fa rfl λo=>qv o (Ap o isAgg3 rfl (u.ld.elO2 t0 (I0 0 _ rfl))) λo=>qv o (Ah o rfl rfl) λo=>qv o (As (Aa o rfl) (congrArg Value.bool J0)) λo=>?_
 iterate 10 refine qn o λo=>?_
 refine qv o (Ac o rfl rfl) λo=>re<|tn<|?_
 exact ⟨false,hm,o.hs,u⟩
 rintro a w ⟨O0,hm,o,u⟩
 unfold Z7d at hm
 rcases bit hm with ⟨K0,hm⟩ | ⟨K0,hm⟩
 refine ctv o rfl K0<|th<|?_
 obtain ⟨j0,Q0,hm⟩:=bs hm
 have S0:=Rd.oaI (u.rdO t0) C0 (by decide) Q0
 obtain ⟨n0,W0,T0⟩:=Rows.getI C0 Q0
 obtain rfl:=Dm W0
 refine rg<|qm o rfl λo=>qv o (Af o rfl) λo=>qf o Cd rfl λo=>qB o isAgg118 rfl u t1 rfl λo=>qm o rfl λo=>qv o (Co o Ff sizeOf159 rfl rfl Q0 S0) λo=>qf o Pu rfl λo=>qv o (Ap o isAgg3 rfl (u.ld.elO2 t0 (T0 3 _ rfl))) λo=>?_
 iterate 2 refine qa o rfl λo=>?_
 refine re<|tn<|wr<|br<|tr<|tr<|br<|tr<|?_
 obtain rfl:=si hm
 exact r2 o results78 rfl rfl ⟨oa3,cap4,vs5,rfl,(λ_=>Rows.ind C0),(u.pk [1,0] rfl).endMut⟩
 refine cfv o rfl K0<|wk<|bn<|tn<|rg<|qm o rfl λo=>qv o (Dr o rfl rfl) λo=>qa o rfl λo=>re<|tn<|?_
 exact ⟨(D0,(i64.wrap (E0 - 1))),⟨hm,o.hs,u⟩,kxd _⟩
 refine tn<|cfv o rfl M0<|we<|tx<|tx<|bx<|tn<|?_
 exact ⟨hm,o.hs,u⟩
 rintro a w ⟨hm,o,u⟩
 unfold Z7c at hm
 refine th<|rg<|qa o rfl λo=>qa o rfl λo=>re<|tn<|wr<|?_
 obtain rfl:=si hm
 exact r2 o results78 rfl rfl ⟨oa3,cap4,vs5,rfl,(λ_=>Rows.ind C0),(u.pk [1,0] rfl).endMut⟩
theorem Jgg (hH:H.le w0) {b2:Nat} {p1:leadlineref12_Buffer} {oa3:Option Addr} {cap4:Nat} {vs5:List Value} (J0:Rows H vs5 p1.L) (hO:(sepA [bk b2 [i6 p1.Room,SL oa3 p1.L cap4] 120,sla 159 4 oa3 p1.L.length cap4 vs5]).ok (hp w0)) (hD:∀ b,(sepA [bk b2 [i6 p1.Room,SL oa3 p1.L cap4] 120,sla 159 4 oa3 p1.L.length cap4 vs5]).fp b→H b=none) {r:((Option leadlineref12_Buffer)×leadlineref12_Buffer)} (hm:Z7a N p1=some r):Tot Tryz.prog 43 #[PT b2] w0 (λv w'=>∃ (vm0:Value) (A0:HA) (oa1m:Option Addr) (cap1m:Nat) (vs1m:List Value),v=vm0∧JaP vm0 A0 r.1∧(∀ h,Rows h vs1m r.2.L)∧Mut w0 (sepA [bk b2 [i6 p1.Room,SL oa3 p1.L cap4] 120,sla 159 4 oa3 p1.L.length cap4 vs5]) (sepA [bk b2 [i6 r.2.Room,SL oa1m r.2.L cap1m] 120,sla 159 4 oa1m r.2.L.length cap1m vs1m,A0]) w'):=by
 unfold Z7a at hm
 refine fn0 func43 rfl ntmps43 rfl rfl λa o=>?_
 have u:=Gg hH hO hD
 refine th<|rg<|qa o rfl λo=>re<|tn<|th<|?_
 obtain ⟨E0,M0,hm⟩:=bs hm
 refine rdS 13 u wide λw u=>dr 0 u o rfl (Aa o rfl) λo=>dr 1 u o rfl (Af o rfl) λo=>dr 2 u o rfl (Ad o Jbb rfl) λo=>dq 3 u.ld o rfl (λw hl=>eB o isAgg3 rfl hl t0 rfl) λo=>dr 5 u o rfl (Aa o rfl) λo=>dr 6 u o rfl (Af o rfl) λo=>dr 7 u o rfl (Ad o Cd rfl) λo=>dq 8 u.ld o rfl (λw hl=>eB o isAgg118 rfl hl t0 rfl) λo=>dz 4 rfl<|bz (e:=159) (sz:=4) [] o u λb9 u o=>?_
 have O0:Rows (α:=api_Entry) H [] []:=.nil
 refine ⟨λ_=>(St.ldsX u i2 ta1),?_⟩
 refine dz 9 rfl<|Ay (α:=api_Entry) (xs:=[]) (ys:=p1.L) o rfl u underlying118 Ni rfl (by decide) rfl rfl rfl t0 O0 (u.rdO t2) J0 M0 λD0 C0 F0 w a K0 hU o=>?_
 replace u:=hU _ .head
 refine ⟨λ_=>(St.ldsX u i2 ta1),?_⟩
 refine dq 10 (St.ldsX u i2 ta1) o rfl (λw hl=>bL [i6 p1.Room,SL D0 E0 C0] [i6 p1.Room,SL D0 E0 C0] o) λo=>dz 11 rfl<|Bo (cs:=[i6 p1.Room,SL D0 E0 C0].toArray) o rfl u rfl rfl λI0 w a u o=>⟨λ_=>(St.ldsX u i2 ta2),?_⟩
 refine ds 12 (St.ldsX u i2 ta2) o rfl (Ca o rfl) λo=>dE<|tn<|wr<|?_
 replace u:=St.sep [bk I0 [i6 p1.Room,SL D0 E0 C0] 120,sla 159 4 D0 E0.length C0 F0] (u.pk [0,0,0,0] rfl)
 obtain rfl:=si hm
 exact r1 o results43 rfl ⟨(PT I0),(sepA [bk I0 [i6 p1.Room,SL D0 E0 C0] 120,sla 159 4 D0 E0.length C0 F0]),oa3,cap4,vs5,rfl,(.inr ⟨I0,D0,C0,F0,_,rfl,rfl,rfl,(λ_=>Rows.ind K0)⟩),(λ_=>Rows.ind J0),(u.pk [1,1,0] rfl).endMut⟩
theorem Rr (hH:H.le w0) {p1:Bool} {r:Int} (hm:Z19 N p1=some r):Tot Tryz.prog 109 #[.bool p1] w0 (λv w'=>v=i6 r∧Keep Nil w0 w'):=by
 unfold Z19 at hm
 refine fn0 func109 rfl ntmps109 rfl rfl λa o=>?_
 have u:St w0 Nil [H] [] w0:=start1 hH
 refine th<|rg<|qa o rfl λo=>re<|tn<|th<|th<|rg<|qm o rfl λo=>re<|?_
 rcases bit hm with ⟨C0,hm⟩ | ⟨C0,hm⟩
 refine tn<|ctv o rfl C0<|th<|rg<|qa o rfl λo=>re<|tn<|wr<|tr<|?_
 obtain rfl:=si hm
 exact r1 o results109 rfl ⟨rfl,u.keep⟩
 refine tn<|cfv o rfl C0<|wk<|tn<|th<|rg<|qa o rfl λo=>re<|tn<|wr<|?_
 obtain rfl:=si hm
 exact r1 o results109 rfl ⟨rfl,u.keep⟩
theorem JgX (hH:H.le w0) {p1:Int} {p2:Int} {r:(Int×Int)} (hm:Z1a N p1 p2=some r):Tot Tryz.prog 104 #[i6 p1,i6 p2] w0 (λv w'=>v=.tuple #[i6 r.1,i6 r.2]∧Keep Nil w0 w'):=by
 unfold Z1a at hm
 refine fn0 func104 rfl ntmps104 rfl rfl λa o=>?_
 have u:St w0 Nil [H] [] w0:=start1 hH
 refine th<|rg<|qa o rfl λo=>qa o rfl λo=>re<|tn<|th<|th<|rg<|qm o rfl λo=>qv o (Ah o rfl rfl) λo=>re<|?_
 rcases bip hm with ⟨C0,hm⟩ | ⟨C0,hm⟩
 refine tn<|ctv o rfl C0<|th<|rg<|qm o rfl λo=>qv o (Dr o rfl rfl) λo=>?_
 iterate 2 refine qa o rfl λo=>?_
 refine re<|tn<|wr<|tr<|?_
 obtain rfl:=si hm
 exact r2 o results104 rfl rfl ⟨rfl,u.keep⟩
 refine tn<|cfv o rfl C0<|wk<|tn<|th<|th<|rg<|qm o rfl λo=>qv o (Ah o rfl rfl) λo=>re<|?_
 rcases bip hm with ⟨D0,hm⟩ | ⟨D0,hm⟩
 refine tn<|ctv o rfl D0<|th<|?_
 obtain ⟨E0,h6,hm⟩:=bs hm
 refine rg<|qm o rfl λo=>qv o (Ah o rfl rfl) λo=>ls<|cr o call109 (Rr (Ag _) h6) u λu o=>?_
 iterate 2 refine qa o rfl λo=>?_
 refine re<|tn<|wr<|tr<|?_
 obtain rfl:=si hm
 exact r2 o results104 rfl rfl ⟨rfl,u.keep⟩
 refine tn<|cfv o rfl D0<|wk<|tn<|th<|rg<|qa o rfl λo=>qa o rfl λo=>re<|tn<|wr<|?_
 obtain rfl:=si hm
 exact r2 o results104 rfl rfl ⟨rfl,u.keep⟩
theorem Jex (hH:H.le w0) {p1:Int} {p2:Int} {r:Int} (hm:Z1c N p1 p2=some r):Tot Tryz.prog 110 #[i6 p1,i6 p2] w0 (λv w'=>v=i6 r∧Keep Nil w0 w'):=by
 unfold Z1c at hm
 refine fn0 func110 rfl ntmps110 rfl rfl λa o=>?_
 have u:St w0 Nil [H] [] w0:=start1 hH
 refine th<|rg<|qa o rfl λo=>re<|tn<|th<|th<|rg<|qm o rfl λo=>qv o (Ah o rfl rfl) λo=>qm o rfl λo=>gr (Fk:=[(0,i6 p1),(1,i6 p2),(10,.bool ((decide (p1=(-9223372036854775808))) && (decide (p2=(-1)))))]) 7 3 o u ?_ ?_ ?_
 intro hb o key
 exact qg o (Aa o rfl) λo=>qg o (Ah o rfl rfl) λo=>qk o (Ab o rfl rfl) key u hb
 intro hb o key
 iterate 2 refine qn o λo=>?_
 exact qk o (Ac o rfl rfl) key u hb
 intro a w o u
 refine re<|?_
 rcases bit hm with ⟨C0,hm⟩ | ⟨C0,hm⟩
 refine tn<|ctv o rfl C0<|th<|rg<|qa o rfl λo=>re<|tn<|wr<|tr<|?_
 obtain rfl:=si hm
 exact r1 o results110 rfl ⟨rfl,u.keep⟩
 refine tn<|cfv o rfl C0<|wk<|tn<|th<|?_
 obtain ⟨D0,h5,hm⟩:=bs hm
 refine rg<|qm o rfl λo=>qm o rfl λo=>qv o (Jfa o rfl rfl h5) λo=>qa o rfl λo=>re<|tn<|wr<|?_
 obtain rfl:=si hm
 exact r1 o results110 rfl ⟨rfl,u.keep⟩
theorem JfP (hH:H.le w0) {p1:Int} {p2:Int} {p3:Int} {r:(Int×Int)} (hm:Z1b N p1 p2 p3=some r):Tot Tryz.prog 105 #[i6 p1,i6 p2,i6 p3] w0 (λv w'=>v=.tuple #[i6 r.1,i6 r.2]∧Keep Nil w0 w'):=by
 unfold Z1b at hm
 refine fn0 func105 rfl ntmps105 rfl rfl λa o=>?_
 have u:St w0 Nil [H] [] w0:=start1 hH
 refine th<|rg<|qa o rfl λo=>qa o rfl λo=>re<|tn<|th<|th<|rg<|qm o rfl λo=>re<|tn<|wb<|th<|rg<|qv o (Ah o rfl rfl) λo=>qa o rfl λo=>re<|?_
 rcases bip hm with ⟨O0,hm⟩ | ⟨O0,hm⟩
 refine tn<|ctv o rfl O0<|th<|rg<|qm o rfl λo=>qm o rfl λo=>qv o (Ao o rfl rfl) λo=>?_
 iterate 2 refine qa o rfl λo=>?_
 refine re<|tn<|wr<|br<|tr<|?_
 obtain rfl:=si hm
 exact r2 o results105 rfl rfl ⟨rfl,u.keep⟩
 refine tn<|cfv o rfl O0<|th<|rg<|qv o (Ah o rfl rfl) λo=>qa o rfl λo=>re<|?_
 rcases bip hm with ⟨P0,hm⟩ | ⟨P0,hm⟩
 refine tn<|ctv o rfl P0<|th<|rg<|qm o rfl λo=>qm o rfl λo=>qv o (Dr o rfl rfl) λo=>?_
 iterate 2 refine qa o rfl λo=>?_
 refine re<|tn<|wr<|br<|tr<|?_
 obtain rfl:=si hm
 exact r2 o results105 rfl rfl ⟨rfl,u.keep⟩
 refine tn<|cfv o rfl P0<|th<|rg<|qv o (Ah o rfl rfl) λo=>qa o rfl λo=>re<|?_
 rcases bip hm with ⟨Q0,hm⟩ | ⟨Q0,hm⟩
 refine tn<|ctv o rfl Q0<|th<|rg<|qm o rfl λo=>qm o rfl λo=>qv o (JbT o rfl rfl) λo=>?_
 iterate 2 refine qa o rfl λo=>?_
 refine re<|tn<|wr<|br<|tr<|?_
 obtain rfl:=si hm
 exact r2 o results105 rfl rfl ⟨rfl,u.keep⟩
 refine tn<|cfv o rfl Q0<|th<|rg<|qv o (Ah o rfl rfl) λo=>qa o rfl λo=>re<|?_
 rcases bip hm with ⟨R0,hm⟩ | ⟨R0,hm⟩
 refine tn<|ctv o rfl R0<|th<|th<|rg<|qm o rfl λo=>qv o (Ah o rfl rfl) λo=>re<|?_
 rcases bip hm with ⟨S0,hm⟩ | ⟨S0,hm⟩
 refine tn<|ctv o rfl S0<|th<|rg<|qa o rfl λo=>qa o rfl λo=>re<|tn<|wr<|tr<|br<|tr<|?_
 obtain rfl:=si hm
 exact r2 o results105 rfl rfl ⟨rfl,u.keep⟩
 refine tn<|cfv o rfl S0<|wk<|tn<|th<|?_
 obtain ⟨D1,T0,hm⟩:=bs hm
 refine rg<|qm o rfl λo=>qm o rfl λo=>ls<|cr o call110 (Jex (Ag _) T0) u λu o=>?_
 iterate 2 refine qa o rfl λo=>?_
 refine re<|tn<|wr<|br<|tr<|?_
 obtain rfl:=si hm
 exact r2 o results105 rfl rfl ⟨rfl,u.keep⟩
 refine tn<|cfv o rfl R0<|th<|rg<|qv o (Ah o rfl rfl) λo=>qa o rfl λo=>re<|?_
 rcases bip hm with ⟨C0,hm⟩ | ⟨C0,hm⟩
 refine tn<|ctv o rfl C0<|th<|th<|rg<|qm o rfl λo=>qv o (Ah o rfl rfl) λo=>re<|?_
 rcases bip hm with ⟨D0,hm⟩ | ⟨D0,hm⟩
 refine tn<|ctv o rfl D0<|th<|rg<|qa o rfl λo=>qa o rfl λo=>re<|tn<|wr<|tr<|br<|tr<|?_
 obtain rfl:=si hm
 exact r2 o results105 rfl rfl ⟨rfl,u.keep⟩
 refine tn<|cfv o rfl D0<|wk<|tn<|th<|?_
 obtain ⟨E1,U0,hm⟩:=bs hm
 refine rg<|qm o rfl λo=>?_
 iterate 3 refine qm o rfl λo=>?_
 refine ls<|cr o call110 (Jex (Ag _) U0) u λu o=>qv o (JbT o rfl rfl) λo=>qv o (Dr o rfl rfl) λo=>?_
 iterate 2 refine qa o rfl λo=>?_
 refine re<|tn<|wr<|br<|tr<|?_
 obtain rfl:=si hm
 exact r2 o results105 rfl rfl ⟨rfl,u.keep⟩
 refine tn<|cfv o rfl C0<|th<|rg<|qv o (Ah o rfl rfl) λo=>qa o rfl λo=>re<|?_
 rcases bip hm with ⟨E0,hm⟩ | ⟨E0,hm⟩
 refine tn<|ctv o rfl E0<|th<|?_
 obtain ⟨F1,V0,hm⟩:=bs hm
 refine rg<|qm o rfl λo=>qm o rfl λo=>qv o (Ah o rfl rfl) λo=>ls<|cr o call109 (Rr (Ag _) V0) u λu o=>?_
 iterate 2 refine qa o rfl λo=>?_
 refine re<|tn<|wr<|br<|tr<|?_
 obtain rfl:=si hm
 exact r2 o results105 rfl rfl ⟨rfl,u.keep⟩
 refine tn<|cfv o rfl E0<|th<|rg<|qv o (Ah o rfl rfl) λo=>qa o rfl λo=>re<|?_
 rcases bip hm with ⟨F0,hm⟩ | ⟨F0,hm⟩
 refine tn<|ctv o rfl F0<|th<|?_
 obtain ⟨I1,W0,hm⟩:=bs hm
 refine rg<|qm o rfl λo=>qm o rfl λo=>qv o (Bg o rfl rfl) λo=>ls<|cr o call109 (Rr (Ag _) W0) u λu o=>?_
 iterate 2 refine qa o rfl λo=>?_
 refine re<|tn<|wr<|br<|tr<|?_
 obtain rfl:=si hm
 exact r2 o results105 rfl rfl ⟨rfl,u.keep⟩
 refine tn<|cfv o rfl F0<|th<|rg<|qv o (Ah o rfl rfl) λo=>qa o rfl λo=>re<|?_
 rcases bip hm with ⟨I0,hm⟩ | ⟨I0,hm⟩
 refine tn<|ctv o rfl I0<|th<|?_
 obtain ⟨J1,Y0,hm⟩:=bs hm
 refine rg<|qm o rfl λo=>qm o rfl λo=>qv o (Am o rfl rfl) λo=>ls<|cr o call109 (Rr (Ag _) Y0) u λu o=>?_
 iterate 2 refine qa o rfl λo=>?_
 refine re<|tn<|wr<|br<|tr<|?_
 obtain rfl:=si hm
 exact r2 o results105 rfl rfl ⟨rfl,u.keep⟩
 refine tn<|cfv o rfl I0<|th<|rg<|qv o (Ah o rfl rfl) λo=>qa o rfl λo=>re<|?_
 rcases bip hm with ⟨J0,hm⟩ | ⟨J0,hm⟩
 refine tn<|ctv o rfl J0<|th<|?_
 obtain ⟨O1,j0,hm⟩:=bs hm
 refine rg<|qm o rfl λo=>qm o rfl λo=>qv o (Gd o rfl rfl) λo=>ls<|cr o call109 (Rr (Ag _) j0) u λu o=>?_
 iterate 2 refine qa o rfl λo=>?_
 refine re<|tn<|wr<|br<|tr<|?_
 obtain rfl:=si hm
 exact r2 o results105 rfl rfl ⟨rfl,u.keep⟩
 refine tn<|cfv o rfl J0<|th<|rg<|qv o (Ah o rfl rfl) λo=>qa o rfl λo=>re<|?_
 rcases bip hm with ⟨K0,hm⟩ | ⟨K0,hm⟩
 refine tn<|ctv o rfl K0<|th<|?_
 obtain ⟨P1,n0,hm⟩:=bs hm
 refine rg<|qm o rfl λo=>qv o (Bg o rfl rfl) λo=>qm o rfl λo=>gr (Fk:=[(73,.bool ((decide (p2≠0)) && (decide (p3≠0))))]) 70 3 o u ?_ ?_ ?_
 intro hb o key
 exact qg o (Aa o rfl) λo=>qg o (Bg o rfl rfl) λo=>qk o (Ab o rfl rfl) key u hb
 intro hb o key
 iterate 2 refine qn o λo=>?_
 exact qk o (Ac o rfl rfl) key u hb
 intro a w o u
 refine ls<|cr o call109 (Rr (Ag _) n0) u λu o=>?_
 iterate 2 refine qa o rfl λo=>?_
 refine re<|tn<|wr<|br<|tr<|?_
 obtain rfl:=si hm
 exact r2 o results105 rfl rfl ⟨rfl,u.keep⟩
 refine tn<|cfv o rfl K0<|th<|rg<|qv o (Ah o rfl rfl) λo=>qa o rfl λo=>re<|?_
 rcases bip hm with ⟨M0,hm⟩ | ⟨M0,hm⟩
 refine tn<|ctv o rfl M0<|th<|?_
 obtain ⟨Q1,C1,hm⟩:=bs hm
 refine rg<|qm o rfl λo=>qv o (Bg o rfl rfl) λo=>qm o rfl λo=>gr (Fk:=[(82,.bool ((decide (p2≠0)) || (decide (p3≠0))))]) 79 3 o u ?_ ?_ ?_
 intro hb o key
 iterate 2 refine qn o λo=>?_
 exact qk o (Ab o rfl rfl) key u hb
 intro hb o key
 exact qg o (Aa o rfl) λo=>qg o (Bg o rfl rfl) λo=>qk o (Ac o rfl rfl) key u hb
 intro a w o u
 refine ls<|cr o call109 (Rr (Ag _) C1) u λu o=>?_
 iterate 2 refine qa o rfl λo=>?_
 refine re<|tn<|wr<|br<|tr<|?_
 obtain rfl:=si hm
 exact r2 o results105 rfl rfl ⟨rfl,u.keep⟩
 refine tn<|cfv o rfl M0<|wk<|bn<|tn<|th<|rg<|qa o rfl λo=>qa o rfl λo=>re<|tn<|wr<|?_
 obtain rfl:=si hm
 exact r2 o results105 rfl rfl ⟨rfl,u.keep⟩
theorem Jgf (hH:H.le w0) {V0:Option Addr} {K0:Nat} {p1:(List api_Op)} (V3:p1.length≤K0) (W0:SR H V0 p1) {oa7:Option Addr} {cap8:Nat} {p6:(List Int)} (Y4:p6.length≤cap8) (R1:SR H oa7 p6) {r:(Int×Int)} (hm:Z4s N p1 p6=some r):Tot Tryz.prog 96 #[SL V0 p1 K0,SL oa7 p6 cap8] w0 (λv w'=>v=.tuple #[i6 r.1,i6 r.2]∧Keep Nil w0 w'):=by
 unfold Z4s at hm
 refine fn0 func96 rfl ntmps96 rfl rfl λa o=>?_
 have u:St w0 Nil [H] [] w0:=start1 hH
 refine th<|rg<|qa o rfl λo=>qa o rfl λo=>re<|tn<|th<|th<|?_
 obtain ⟨A5,W3,hm⟩:=bs hm
 refine rg<|qm o rfl λo=>qm o rfl λo=>qv o (Aj (α:=Int) (xs:=p6) o Bn rfl) λo=>ls<|cr o call70 (Qm (Ag _) V3 (St.srH u W0) W3) u λu o=>qv o (Bi o rfl) λo=>re<|?_
 rcases bit hm with ⟨n0,hm⟩ | ⟨n0,hm⟩
 refine tn<|cfv o rfl (by rw [n0];rfl)<|wk<|tn<|th<|rg<|ls<|bz (e:=3) (sz:=1) [] o u λX3 u o=>?_
 have P2:Rows (α:=Int) H [] []:=.nil
 refine qa o rfl λo=>re<|tn<|th<|th<|rg<|qa o rfl λo=>re<|tn<|Av (λa w=>∃ (Y0:(List Int)) (C1:Option Addr) (R0:Nat) (D1:List Value),Z4t Y0=some r∧Fr 104 [(6,SL C1 Y0 R0)] a∧St w0 Nil [H] [sla 3 1 C1 Y0.length R0 D1] w∧Rows H D1 Y0) ?_ ?_
 refine wb<|lp (α:=Nat×(List Int)×Int) (λgh a w=>match gh with | (O0,E0,M0)=>∃ (F0:Option Addr) (D0:Nat) (S0:List Value),(Z4v N Z4t p1 p6) O0 E0 M0=some r∧Fr 104 [(0,SL V0 p1 K0),(1,SL oa7 p6 cap8),(6,SL F0 E0 D0),(7,i6 M0)] a∧St w0 Nil [H] [sla 3 1 F0 E0.length D0 S0] w∧Rows H S0 E0) (λgh=>gh.1) (N,[],0) ⟨(some ⟨X3,0,none⟩),0,[],hm,o.hs,u,P2⟩ ?_
 rintro ⟨O0,E0,M0⟩ a w ⟨F0,D0,S0,hm,o,u,C0⟩
 obtain _ | O0:=O0
 simp [Z4v] at hm
 rw [Z4v] at hm
 refine th<|th<|rg<|qm o rfl λo=>qm o rfl λo=>qv o (Aj (α:=api_Op) (xs:=p1) o Gf rfl) λo=>qv o (Am o rfl rfl) λo=>re<|?_
 rcases bip hm with ⟨E1,hm⟩ | ⟨E1,hm⟩
 refine tn<|ctv o rfl E1<|wk<|tn<|th<|Av (λa w=>∃ (P0:(List Int)) (T0:Option Addr) (J0:Nat) (U0:List Value),(Z4u (Z4v N Z4t p1 p6 O0) M0) P0=some r∧Fr 104 [(0,SL V0 p1 K0),(1,SL oa7 p6 cap8),(6,SL T0 P0 J0),(7,i6 M0)] a∧St w0 Nil [H] [sla 3 1 T0 P0.length J0 U0] w∧Rows H U0 P0) ?_ ?_
 refine wb<|th<|?_
 obtain ⟨I0,Q1,hm⟩:=bs hm
 obtain ⟨B5,Y3,F1⟩:=SR.get W0 Q1
 obtain rfl:=Kf Y3
 refine rg<|qm o rfl λo=>qm o rfl λo=>qv o (eI o Gf sizeOf176 rfl rfl Q1 W0) λo=>qf o Lf rfl λo=>qv o (eD o isAgg3 rfl u.ld (F1 0 _ rfl)) λo=>qm o rfl λo=>qv o (Aj (α:=Int) (xs:=E0) o Bn rfl) λo=>qv o (Dr o rfl rfl) λo=>?_
 iterate 2 refine qa o rfl λo=>?_
 refine re<|tn<|th<|rg<|qm o rfl λo=>qv o (Ah o rfl rfl) λo=>re<|?_
 rcases bip hm with ⟨I1,hm⟩ | ⟨I1,hm⟩
 refine tn<|ctv o rfl I1<|?_
 obtain ⟨A4,B4,hm⟩:=bs hm
 refine rg<|qm o rfl λo=>?_
 iterate 2 refine qm o rfl λo=>?_
 refine qv o (eI o Gf sizeOf176 rfl rfl Q1 W0) λo=>qf o Vd rfl λo=>qv o (eD o isAgg3 rfl u.ld (F1 1 _ rfl)) λo=>ls<|bz (e:=3) (sz:=1) [i6 I0.N] o u λC5 u o=>?_
 have R2:Rows (α:=Int) H [i6 I0.N] ([I0.N]:List Int):=(.cons (c:=[i6 I0.N]) rfl .nil)
 refine ls<|Ay (α:=Int) (xs:=E0) (ys:=([I0.N]:List Int)) o rfl u underlying28 Bs rfl (by decide) rfl rfl rfl t1 C0 (u.rdO t0) R2 B4 λT2 Y1 U2 w a V2 hU o=>?_
 replace u:=hU _ (.tail .head)
 replace u:=u.drop .head
 refine qa o rfl λo=>re<|bn<|tn<|?_
 exact ⟨A4,T2,Y1,U2,hm,o.hs,u,V2⟩
 refine tn<|cfv o rfl I1<|th<|rg<|qm o rfl λo=>qv o (Ah o rfl rfl) λo=>re<|?_
 rcases bip hm with ⟨J1,hm⟩ | ⟨J1,hm⟩
 refine tn<|ctv o rfl J1<|?_
 obtain ⟨Q0,C2,hm⟩:=bs hm
 obtain ⟨C4,D4,W2⟩:=SR.get R1 C2
 obtain rfl:C4=[i6 Q0]:=D4
 obtain ⟨E4,F4,hm⟩:=bs hm
 refine rg<|qm o rfl λo=>?_
 iterate 3 refine qm o rfl λo=>?_
 refine qv o (eI o Gf sizeOf176 rfl rfl Q1 W0) λo=>qf o Vd rfl λo=>qv o (eD o isAgg3 rfl u.ld (F1 1 _ rfl)) λo=>qv o (eI o Bn sizeOf3 rfl rfl C2 R1) λo=>qv o (eD o isAgg3 rfl u.ld (W2 0 _ rfl)) λo=>ls<|bz (e:=3) (sz:=1) [i6 Q0] o u λD5 u o=>?_
 have X2:Rows (α:=Int) H [i6 Q0] ([Q0]:List Int):=(.cons (c:=[i6 Q0]) rfl .nil)
 refine ls<|Ay (α:=Int) (xs:=E0) (ys:=([Q0]:List Int)) o rfl u underlying28 Bs rfl (by decide) rfl rfl rfl t1 C0 (u.rdO t0) X2 F4 λY2 u1 A3 w a B3 hU o=>?_
 replace u:=hU _ (.tail .head)
 replace u:=u.drop .head
 refine qa o rfl λo=>re<|bn<|tn<|?_
 exact ⟨E4,Y2,u1,A3,hm,o.hs,u,B3⟩
 refine tn<|cfv o rfl J1<|th<|rg<|qm o rfl λo=>qv o (Ah o rfl rfl) λo=>qm o rfl λo=>gr (Fk:=[(0,SL V0 p1 K0),(1,SL oa7 p6 cap8),(6,SL F0 E0 D0),(7,i6 M0),(8,i6 I0.Kind),(9,i6 (i64.wrap ((E0.length:Int) - 1))),(62,.bool ((decide (I0.Kind=3)) || (decide (I0.Kind=4))))]) 59 3 o u ?_ ?_ ?_
 intro hb o key
 iterate 2 refine qn o λo=>?_
 exact qk o (Ab o rfl rfl) key u hb
 intro hb o key
 exact qg o (Aa o rfl) λo=>qg o (Ah o rfl rfl) λo=>qk o (Ac o rfl rfl) key u hb
 intro a w o u
 refine re<|?_
 rcases bit hm with ⟨O1,hm⟩ | ⟨O1,hm⟩
 refine tn<|ctv o rfl O1<|th<|?_
 obtain ⟨I4,j0,hm⟩:=bs hm
 have C3:=Rd.oaI (u.rdO t0) C0 (by decide) j0
 obtain ⟨J4,K4,D3⟩:=Rows.getI C0 j0
 obtain rfl:J4=[i6 I4]:=K4
 obtain ⟨E5,L4,hm⟩:=bs hm
 refine rg<|qm o rfl λo=>?_
 iterate 2 refine qm o rfl λo=>?_
 refine qv o (Co o Bn sizeOf3 rfl rfl j0 C3) λo=>qv o (Ap o isAgg3 rfl (u.ld.elO t0 (D3 0 _ rfl))) λo=>ls<|cr o call104 (JgX (Ag _) L4) u λu o=>qm o rfl λo=>?_
 iterate 2 refine qv o (Dt o rfl rfl) λo=>?_
 iterate 2 refine qa o rfl λo=>?_
 refine re<|tn<|?_
 have E3:=Rd.oaI (u.rdO t0) C0 (by decide) j0
 obtain ⟨E2,F2,hm⟩:=bs hm
 refine rg<|qm o rfl λo=>?_
 iterate 2 refine qm o rfl λo=>?_
 refine qv o (Co o Bn sizeOf3 rfl rfl j0 E3) λo=>?_
 have hn62:=H8 F2
 refine ls<|P9 (α:=Int) o u sizeOf3 rfl rfl rfl rfl C0 rfl F2 t0 λF3 w I3 hU=>?_
 replace u:=hU _ .head
 refine re<|bn<|tn<|?_
 replace o:=Fr.as o (t:=6) (v':=SL F0 E2 D0) rfl (by simp only [SL,hn62])
 exact ⟨E2,F0,D0,F3,hm,o.hs,u,I3⟩
 refine tn<|cfv o rfl O1<|th<|?_
 obtain ⟨M4,S1,hm⟩:=bs hm
 have J3:=Rd.oaI (u.rdO t0) C0 (by decide) S1
 obtain ⟨O4,P4,K3⟩:=Rows.getI C0 S1
 obtain rfl:O4=[i6 M4]:=P4
 obtain ⟨Q4,T1,hm⟩:=bs hm
 have L3:=Rd.oaI (u.rdO t0) C0 (by decide) T1
 obtain ⟨R4,S4,M3⟩:=Rows.getI C0 T1
 obtain rfl:R4=[i6 Q4]:=S4
 obtain ⟨F5,T4,hm⟩:=bs hm
 refine rdS 16 u wide λw u=>dr 0 u o rfl (Aa o rfl) λo=>dr 1 u o rfl (Aa o rfl) λo=>dr 2 u o rfl (Aa o rfl) λo=>dr 3 u o rfl (Dr o rfl rfl) λo=>dr 4 u o rfl (Co o Bn sizeOf3 rfl rfl S1 J3) λo=>dq 5 u.ld o rfl (λw hl=>Ap o isAgg3 rfl (hl.elO t0 (K3 0 _ rfl))) λo=>dr 6 u o rfl (Aa o rfl) λo=>dr 7 u o rfl (Aa o rfl) λo=>dr 8 u o rfl (Co o Bn sizeOf3 rfl rfl T1 L3) λo=>dq 9 u.ld o rfl (λw hl=>Ap o isAgg3 rfl (hl.elO t0 (M3 0 _ rfl))) λo=>dz 10 rfl<|cr o call105 (JfP (Ag _) T4) u λu o=>⟨λ_=>u.ld,?_⟩
 refine dr 11 u o rfl (Aa o rfl) λo=>dr 12 u o rfl (Dt o rfl rfl) λo=>dr 13 u o rfl (Dt o rfl rfl) λo=>dr 14 u o rfl (Ca o rfl) λo=>dr 15 u o rfl (Ca o rfl) λo=>dE<|tn<|th<|th<|rg<|qm o rfl λo=>qv o (Bg o rfl rfl) λo=>re<|?_
 rcases bip hm with ⟨P1,hm⟩ | ⟨P1,hm⟩
 refine tn<|ctv o rfl P1<|th<|rg<|qm o rfl λo=>?_
 iterate 2 refine qa o rfl λo=>?_
 refine re<|tn<|wr<|tr<|br<|tr<|tr<|br<|tr<|?_
 obtain rfl:=si hm
 exact r2 o results96 rfl rfl ⟨rfl,u.keep⟩
 refine tn<|cfv o rfl P1<|wk<|tn<|th<|?_
 obtain ⟨I5,I2,hm⟩:=bs hm
 have O3:=St.capO u t0
 obtain ⟨X4,U1,hU⟩:=St.shrink u C0 rfl t0 I2
 replace u:=hU _ .head
 refine rg<|qm o rfl λo=>qm o rfl λo=>qv o (Dc (xs:=E0) (vl:=0) (vh:=(i64.wrap ((E0.length:Int) - 1))) o Bn sizeOf3 rfl O3 rfl rfl I2 (Jf0 _ _ _) (Nat.sub_zero _)) λo=>qa o rfl λo=>re<|tn<|?_
 obtain ⟨J5,J2,hm⟩:=bs hm
 have P3:=Rd.oaI (u.rdO t0) U1 (by decide) J2
 obtain ⟨K2,O2,hm⟩:=bs hm
 refine rg<|qm o rfl λo=>qm o rfl λo=>qv o (Dr o rfl rfl) λo=>qm o rfl λo=>qv o (Co o Bn sizeOf3 rfl rfl J2 P3) λo=>?_
 have hn90:=H8 O2
 refine ls<|P9 (α:=Int) o u sizeOf3 rfl rfl rfl rfl U1 rfl O2 t0 λQ3 w R3 hU=>?_
 replace u:=hU _ .head
 refine re<|bn<|tn<|?_
 replace o:=Fr.as o (t:=6) (v':=SL F0 K2 D0) rfl (by simp only [SL,hn90])
 exact ⟨K2,F0,D0,Q3,hm,o.hs,u,R3⟩
 rintro a w ⟨P0,T0,J0,U0,hm,o,u,S3⟩
 unfold Z4u at hm
 refine rg<|qm o rfl λo=>qv o (Ao o rfl rfl) λo=>qa o rfl λo=>re<|tn<|?_
 exact ⟨(O0,P0,(i64.wrap (M0+1))),⟨T0,J0,U0,hm,o.hs,u,S3⟩,kxd _⟩
 refine tn<|cfv o rfl E1<|we<|tx<|tx<|bx<|tn<|?_
 exact ⟨E0,F0,D0,S0,hm,o.hs,u,C0⟩
 rintro a w ⟨Y0,C1,R0,D1,hm,o,u,V1⟩
 unfold Z4t at hm
 refine th<|?_
 obtain ⟨U4,X1,hm⟩:=bs hm
 have T3:=Rd.oaI (u.rdO t0) V1 (by decide) X1
 obtain ⟨V4,W4,U3⟩:=Rows.getI V1 X1
 obtain rfl:V4=[i6 U4]:=W4
 refine rg<|qm o rfl λo=>qv o (Co o Bn sizeOf3 rfl rfl X1 T3) λo=>qv o (Ap o isAgg3 rfl (u.ld.elO t0 (U3 0 _ rfl))) λo=>?_
 iterate 2 refine qa o rfl λo=>?_
 refine re<|tn<|wr<|?_
 obtain rfl:=si hm
 exact r2 o results96 rfl rfl ⟨rfl,u.keep⟩
 refine tn<|ctv o rfl (by rw [n0];rfl)<|th<|rg<|qa o rfl λo=>qa o rfl λo=>re<|tn<|wr<|tr<|?_
 obtain rfl:=si hm
 exact r2 o results96 rfl rfl ⟨rfl,u.keep⟩
theorem Jca (hH:H.le w0) {b2:Nat} {p1:leadlineref13_Thread} {oa3:Option Addr} {cap4:Nat} (J0:p1.C.L.length≤cap4) (K0:SR H oa3 p1.C.L) {oa7:Option Addr} {cap8:Nat} {vs9:List Value} (C0:Rows H vs9 p1.Regs) {oa12:Option Addr} {cap13:Nat} {vs14:List Value} (F0:Rows H vs14 p1.Counts) {I0:Option Addr} {E0:Nat} {p17:(List api_Op)} (M0:p17.length≤E0) (O0:SR H I0 p17) (hO:(sepA [bk b2 [i6 p1.C.Regs,i6 p1.C.Counts,SL oa3 p1.C.L cap4,i6 p1.At,SL oa7 p1.Regs cap8,SL oa12 p1.Counts cap13,.pointer p1.B,i6 p1.Fault] 107,sla 3 1 oa7 p1.Regs.length cap8 vs9,sla 3 1 oa12 p1.Counts.length cap13 vs14]).ok (hp w0)) (hD:∀ b,(sepA [bk b2 [i6 p1.C.Regs,i6 p1.C.Counts,SL oa3 p1.C.L cap4,i6 p1.At,SL oa7 p1.Regs cap8,SL oa12 p1.Counts cap13,.pointer p1.B,i6 p1.Fault] 107,sla 3 1 oa7 p1.Regs.length cap8 vs9,sla 3 1 oa12 p1.Counts.length cap13 vs14]).fp b→H b=none) {r:(Int×Bool×leadlineref13_Thread)} (hm:Z7s N p1 p17=some r):Tot Tryz.prog 77 #[PT b2,SL I0 p17 E0] w0 (λv w'=>∃ (oa1m:Option Addr) (cap1m:Nat) (oa2m:Option Addr) (cap2m:Nat) (vs2m:List Value) (oa3m:Option Addr) (cap3m:Nat) (vs3m:List Value),v=.tuple #[i6 r.1,.bool r.2.1]∧r.2.2.C.L.length≤cap1m∧SR H oa1m r.2.2.C.L∧(∀ h,Rows h vs2m r.2.2.Regs)∧(∀ h,Rows h vs3m r.2.2.Counts)∧Mut w0 (sepA [bk b2 [i6 p1.C.Regs,i6 p1.C.Counts,SL oa3 p1.C.L cap4,i6 p1.At,SL oa7 p1.Regs cap8,SL oa12 p1.Counts cap13,.pointer p1.B,i6 p1.Fault] 107,sla 3 1 oa7 p1.Regs.length cap8 vs9,sla 3 1 oa12 p1.Counts.length cap13 vs14]) (sepA [bk b2 [i6 r.2.2.C.Regs,i6 r.2.2.C.Counts,SL oa1m r.2.2.C.L cap1m,i6 r.2.2.At,SL oa2m r.2.2.Regs cap2m,SL oa3m r.2.2.Counts cap3m,.pointer r.2.2.B,i6 r.2.2.Fault] 107,sla 3 1 oa2m r.2.2.Regs.length cap2m vs2m,sla 3 1 oa3m r.2.2.Counts.length cap3m vs3m]) w'):=by
 unfold Z7s at hm
 refine fn0 func77 rfl ntmps77 rfl rfl λa o=>?_
 have u:=Gg hH hO hD
 refine th<|rg<|qa o rfl λo=>qa o rfl λo=>re<|tn<|th<|th<|rg<|qm o rfl λo=>qv o (Aj (α:=api_Op) (xs:=p17) o Gf rfl) λo=>qv o (Ah o rfl rfl) λo=>re<|?_
 rcases bip hm with ⟨D0,hm⟩ | ⟨D0,hm⟩
 refine tn<|ctv o rfl D0<|th<|rg<|qa o rfl λo=>qa o rfl λo=>re<|tn<|wr<|tr<|?_
 obtain rfl:=si hm
 exact r2 o results77 rfl rfl ⟨oa3,cap4,oa7,cap8,vs9,oa12,cap13,vs14,rfl,J0,K0,(λ_=>Rows.ind C0),(λ_=>Rows.ind F0),(u.pk [0,0,0] rfl).endMut⟩
 refine tn<|cfv o rfl D0<|wk<|tn<|th<|?_
 obtain ⟨Q0,P0,hm⟩:=bs hm
 refine rg<|qm o rfl λo=>qm o rfl λo=>qv o (Af o rfl) λo=>qf o Kz rfl λo=>qB o isAgg28 rfl u t0 rfl λo=>ls<|cr o call96 (Jgf (Ag _) M0 (St.srH u O0) (St.capO u t1) (St.srO u t1 C0) P0) u λu o=>qm o rfl λo=>?_
 iterate 2 refine qv o (Dt o rfl rfl) λo=>?_
 iterate 2 refine qa o rfl λo=>?_
 refine re<|tn<|th<|rg<|qm o rfl λo=>qm o rfl λo=>qv o (Ah o rfl rfl) λo=>?_
 iterate 2 refine qa o rfl λo=>?_
 refine re<|tn<|wr<|?_
 obtain rfl:=si hm
 exact r2 o results77 rfl rfl ⟨oa3,cap4,oa7,cap8,vs9,oa12,cap13,vs14,rfl,J0,K0,(λ_=>Rows.ind C0),(λ_=>Rows.ind F0),(u.pk [0,0,0] rfl).endMut⟩
theorem Jeq (hH:H.le w0) {b2:Nat} {p1:leadlineref13_Thread} {oa3:Option Addr} {cap4:Nat} (E5:p1.C.L.length≤cap4) (F5:SR H oa3 p1.C.L) {oa7:Option Addr} {cap8:Nat} {vs9:List Value} (E4:Rows H vs9 p1.Regs) {oa12:Option Addr} {cap13:Nat} {vs14:List Value} (F4:Rows H vs14 p1.Counts) (hO:(sepA [bk b2 [i6 p1.C.Regs,i6 p1.C.Counts,SL oa3 p1.C.L cap4,i6 p1.At,SL oa7 p1.Regs cap8,SL oa12 p1.Counts cap13,.pointer p1.B,i6 p1.Fault] 107,sla 3 1 oa7 p1.Regs.length cap8 vs9,sla 3 1 oa12 p1.Counts.length cap13 vs14]).ok (hp w0)) (hD:∀ b,(sepA [bk b2 [i6 p1.C.Regs,i6 p1.C.Counts,SL oa3 p1.C.L cap4,i6 p1.At,SL oa7 p1.Regs cap8,SL oa12 p1.Counts cap13,.pointer p1.B,i6 p1.Fault] 107,sla 3 1 oa7 p1.Regs.length cap8 vs9,sla 3 1 oa12 p1.Counts.length cap13 vs14]).fp b→H b=none) {r:leadlineref13_Thread} (hm:Z7p N p1=some r):Tot Tryz.prog 71 #[PT b2] w0 (λv w'=>∃ (oa1m:Option Addr) (cap1m:Nat) (oa2m:Option Addr) (cap2m:Nat) (vs2m:List Value) (oa3m:Option Addr) (cap3m:Nat) (vs3m:List Value),v=.tuple #[]∧r.C.L.length≤cap1m∧SR H oa1m r.C.L∧(∀ h,Rows h vs2m r.Regs)∧(∀ h,Rows h vs3m r.Counts)∧Mut w0 (sepA [bk b2 [i6 p1.C.Regs,i6 p1.C.Counts,SL oa3 p1.C.L cap4,i6 p1.At,SL oa7 p1.Regs cap8,SL oa12 p1.Counts cap13,.pointer p1.B,i6 p1.Fault] 107,sla 3 1 oa7 p1.Regs.length cap8 vs9,sla 3 1 oa12 p1.Counts.length cap13 vs14]) (sepA [bk b2 [i6 r.C.Regs,i6 r.C.Counts,SL oa1m r.C.L cap1m,i6 r.At,SL oa2m r.Regs cap2m,SL oa3m r.Counts cap3m,.pointer r.B,i6 r.Fault] 107,sla 3 1 oa2m r.Regs.length cap2m vs2m,sla 3 1 oa3m r.Counts.length cap3m vs3m]) w'):=by
 unfold Z7p at hm
 refine fn0 func71 rfl ntmps71 rfl rfl λa o=>?_
 have u:=Gg hH hO hD
 replace u:=u.pk [1,1,0] rfl
 refine wb<|lp (α:=Nat×Int×Int×(List api_Instr)×Int×(List Int)×(List Int)×Option Addr×Int) (λgh a w=>match gh with | (R1,P2,R2,D1,T2,E1,T0,P1,Q1)=>∃ (n0:Option Addr) (W0:Nat) (R0:Option Addr) (O0:Nat) (Y0:List Value) (S0:Option Addr) (P0:Nat) (j0:List Value),(Z7r N) R1 P2 R2 D1 T2 E1 T0 P1 Q1=some r∧Fr 147 [(0,PT b2)] a∧St w0 (sepA [bk b2 [i6 p1.C.Regs,i6 p1.C.Counts,SL oa3 p1.C.L cap4,i6 p1.At,SL oa7 p1.Regs cap8,SL oa12 p1.Counts cap13,.pointer p1.B,i6 p1.Fault] 107,sla 3 1 oa7 p1.Regs.length cap8 vs9,sla 3 1 oa12 p1.Counts.length cap13 vs14]).fp [H] [sla 3 1 R0 E1.length O0 Y0,sla 3 1 S0 T0.length P0 j0,bk b2 [i6 P2,i6 R2,SL n0 D1 W0,i6 T2,SL R0 E1 O0,SL S0 T0 P0,.pointer P1,i6 Q1] 107] w∧D1.length≤W0∧SR H n0 D1∧Rows H Y0 E1∧Rows H j0 T0) (λgh=>gh.1) (N,p1.C.Regs,p1.C.Counts,p1.C.L,p1.At,p1.Regs,p1.Counts,p1.B,p1.Fault) ⟨oa3,cap4,oa7,cap8,vs9,oa12,cap13,vs14,hm,o.hs,u,E5,F5,E4,F4⟩ ?_
 rintro ⟨R1,P2,R2,D1,T2,E1,T0,P1,Q1⟩ a w ⟨n0,W0,R0,O0,Y0,S0,P0,j0,hm,o,u,hcA6,hrA7,I3,J3⟩
 obtain _ | R1:=R1
 simp [Z7r] at hm
 rw [Z7r] at hm
 refine th<|th<|rxS 11 u wide (by kernel_rfl) λw u=>xm u o rfl λo=>xr u o (Af o rfl) λo=>xr u o (Ad o Fi rfl) λo=>xq u.ld o (λw hl=>eB o isAgg3 rfl hl t2 rfl) λo=>xm u o rfl λo=>xr u o (Af o rfl) λo=>xr u o (Ad o Jr rfl) λo=>xr u o (Ad o Ge rfl) λo=>xq u.ld o (λw hl=>eB o isAgg31 rfl hl t2 rfl) λo=>xr u o (Aj (α:=api_Instr) (xs:=D1) o Jl rfl) λo=>xr u o (Am o rfl rfl) λo=>xe<|?_
 rcases bip hm with ⟨V2,hm⟩ | ⟨V2,hm⟩
 refine tn<|ctv o rfl V2<|wk<|tn<|wb<|th<|?_
 obtain ⟨F1,V3,hm⟩:=bs hm
 obtain ⟨U5,I5,I4⟩:=SR.get hrA7 V3
 obtain ⟨S5,Q5,T5,R5,rfl,J4,K4,L4,M4⟩:=Bv I5
 refine rdS 12 u wide λw u=>dr 0 u o rfl (Aa o rfl) λo=>dr 1 u o rfl (Af o rfl) λo=>dr 2 u o rfl (Ad o Jr rfl) λo=>dr 3 u o rfl (Ad o Ge rfl) λo=>dq 4 u.ld o rfl (λw hl=>eB o isAgg31 rfl hl t2 rfl) λo=>dr 5 u o rfl (Aa o rfl) λo=>dr 6 u o rfl (Af o rfl) λo=>dr 7 u o rfl (Ad o Fi rfl) λo=>dq 8 u.ld o rfl (λw hl=>eB o isAgg3 rfl hl t2 rfl) λo=>dr 9 u o rfl (eI o Jl sizeOf157 rfl rfl V3 hrA7) λo=>dq 10 u.ld o rfl (λw hl=>eC o isAgg157 sizeOf157 rfl hl I4) λo=>dz 11 rfl<|Aq (cs:=[i6 0,i6 0,i6 0,.slice none 0 0,.slice none 0 0,i6 0].toArray) o rfl u zeroValue157 rfl λK3 w a u o=>⟨λ_=>(St.ldsX u i2 ta1),?_⟩
 refine dz 12 rfl<|Ar o u sizeOf157 rfl rfl rfl rfl (Ak rfl) .head λw u=>⟨λh=>absurd rfl h,?_⟩
 refine dE<|tn<|th<|?_
 obtain ⟨I0,J5,hm⟩:=bs hm
 refine rg<|qm o rfl λo=>qf o Fp rfl λo=>qB o isAgg79 rfl u t0 rfl λo=>?_
 replace u:=u.pk [3,1,1,0] rfl
 replace u:=St.sep [bk b2 [i6 P2,i6 R2,SL n0 D1 W0,i6 T2,SL R0 E1 O0,SL S0 T0 P0,.pointer P1,i6 Q1] 107,sla 3 1 R0 E1.length O0 Y0,sla 3 1 S0 T0.length P0 j0] u
 refine ls<|c1 o rfl call77 (Jca (St.le u) (p1:=(leadlineref13_Thread.mk (api_Code.mk P2 R2 D1) T2 E1 T0 P1 Q1)) (b2:=b2) (oa3:=n0) (cap4:=W0) (oa7:=R0) (cap8:=O0) (vs9:=Y0) (oa12:=S0) (cap13:=P0) (vs14:=j0) hcA6 hrA7 I3 J3 J4 K4 (St.sepOk u) (St.sepDis u) J5) ⟨rfl,rfl,trivial⟩ (λv w a hR o=>?_)
 obtain ⟨M3,L3,W2,U1,O3,X2,V1,P3,rfl,O4,P4,Y2,A3,hk⟩:=hR
 replace u:=(u.mut hk .head).unsep
 replace Y2:=Y2 H
 replace A3:=A3 H
 refine qm o rfl λo=>?_
 iterate 2 refine qv o (Dt o rfl rfl) λo=>?_
 iterate 2 refine qa o rfl λo=>?_
 refine re<|tn<|th<|?_
 obtain ⟨C0,K5,hm⟩:=bs hm
 refine rg<|qm o rfl λo=>qf o Ij rfl λo=>qB o isAgg79 rfl u t3 rfl λo=>?_
 replace u:=u.pk [0,0,0,0] rfl
 replace u:=St.sep [bk b2 [i6 I0.2.2.C.Regs,i6 I0.2.2.C.Counts,SL M3 I0.2.2.C.L L3,i6 I0.2.2.At,SL W2 I0.2.2.Regs U1,SL X2 I0.2.2.Counts V1,.pointer I0.2.2.B,i6 I0.2.2.Fault] 107,sla 3 1 W2 I0.2.2.Regs.length U1 O3,sla 3 1 X2 I0.2.2.Counts.length V1 P3] u
 refine ls<|c1 o rfl call77 (Jca (St.le u) (p1:=I0.2.2) (b2:=b2) (oa3:=M3) (cap4:=L3) (oa7:=W2) (cap8:=U1) (vs9:=O3) (oa12:=X2) (cap13:=V1) (vs14:=P3) O4 P4 Y2 A3 L4 M4 (St.sepOk u) (St.sepDis u) K5) ⟨rfl,rfl,trivial⟩ (λv w a hR o=>?_)
 obtain ⟨U0,Q0,J0,D0,V0,K0,E0,C1,rfl,X1,Y1,M0,F0,hk⟩:=hR
 replace u:=(u.mut hk .head).unsep
 replace M0:=M0 H
 replace F0:=F0 H
 refine qm o rfl λo=>?_
 iterate 2 refine qv o (Dt o rfl rfl) λo=>?_
 iterate 2 refine qa o rfl λo=>?_
 refine re<|tn<|th<|th<|rg<|qm o rfl λo=>qv o (Bi o rfl) λo=>qm o rfl λo=>gr (Fk:=[(0,PT b2),(2,PT K3),(3,i6 I0.1),(49,.bool ((!I0.2.1) || (!C0.2.1)))]) 46 3 o u ?_ ?_ ?_
 intro hb o key
 iterate 2 refine qn o λo=>?_
 exact qk o (Ab o rfl rfl) key u hb
 intro hb o key
 exact qg o (Aa o rfl) λo=>qg o (Bi o rfl) λo=>qk o (Ac o rfl rfl) key u hb
 intro a w o u
 refine re<|?_
 rcases bit hm with ⟨B3,hm⟩ | ⟨B3,hm⟩
 refine tn<|ctv o rfl B3<|th<|rg<|qm o rfl λo=>qv o (Af o rfl) λo=>qf o Ll rfl λo=>ls<|Bl o u sizeOf3 rfl rfl rfl rfl .head (.succ (.succ (.succ (.succ (.succ (.succ (.succ .zero))))))) λw u=>re<|tn<|wr<|tr<|br<|tr<|br<|?_
 obtain rfl:=si hm
 exact r0 o results71 ⟨U0,Q0,J0,D0,V0,K0,E0,C1,rfl,X1,Y1,(λ_=>Rows.ind M0),(λ_=>Rows.ind F0),(u.pk [0,0,0] rfl).endMut⟩
 refine tn<|cfv o rfl B3<|wk<|tn<|th<|rg<|qm o rfl λo=>qv o (Af o rfl) λo=>qf o Fi rfl λo=>qB o isAgg3 rfl u t0 rfl λo=>qv o (Ao o rfl rfl) λo=>qa o rfl λo=>re<|tn<|th<|th<|rg<|qf o Bq rfl λo=>qB o isAgg3 rfl u t3 rfl λo=>qv o (Ah o rfl rfl) λo=>re<|tn<|Av (λa w=>∃ (S1:(List Int)) (T1:(List Int)) (u1:Int) (C2:Option Addr) (I1:Nat) (E2:List Value) (F2:Option Addr) (J1:Nat) (O1:List Value),(Z7q (Z7r N R1) C0) S1 T1 u1=some r∧Fr 147 [(0,PT b2),(7,i6 u1)] a∧St w0 (sepA [bk b2 [i6 p1.C.Regs,i6 p1.C.Counts,SL oa3 p1.C.L cap4,i6 p1.At,SL oa7 p1.Regs cap8,SL oa12 p1.Counts cap13,.pointer p1.B,i6 p1.Fault] 107,sla 3 1 oa7 p1.Regs.length cap8 vs9,sla 3 1 oa12 p1.Counts.length cap13 vs14]).fp [H] [sla 3 1 C2 S1.length I1 E2,sla 3 1 F2 T1.length J1 O1,bk b2 [i6 C0.2.2.C.Regs,i6 C0.2.2.C.Counts,SL U0 C0.2.2.C.L Q0,i6 C0.2.2.At,SL C2 S1 I1,SL F2 T1 J1,.pointer C0.2.2.B,i6 C0.2.2.Fault] 107] w∧Rows H E2 S1∧Rows H O1 T1) ?_ ?_
 rcases bip hm with ⟨C3,hm⟩ | ⟨C3,hm⟩
 refine ctv o rfl C3<|?_
 obtain ⟨V5,W3,hm⟩:=bs hm
 have Q4:=Rd.oaI (u.rdO t1) M0 (by decide) W3
 obtain ⟨X3,Y3,hm⟩:=bs hm
 refine rxS 8 u wide (by kernel_rfl) λw u=>xm u o rfl λo=>xr u o (Af o rfl) λo=>xr u o (Ad o Kz rfl) λo=>xq u.ld o (λw hl=>eB o isAgg28 rfl hl t0 rfl) λo=>xr u o (Ad o Dw rfl) λo=>xq u.ld o (λw hl=>eB o isAgg3 rfl hl t3 rfl) λo=>xm u o rfl λo=>xr u o (Co o Bn sizeOf3 rfl rfl W3 Q4) λo=>?_
 have hn73:=H8 Y3
 refine xz rfl<|P9 (α:=Int) o u sizeOf3 rfl rfl rfl rfl M0 rfl Y3 t1 λR4 w S4 hU=>?_
 replace u:=hU _ (.tail .head)
 replace u:=St.eqL u (A':=bk b2 [i6 C0.2.2.C.Regs,i6 C0.2.2.C.Counts,SL U0 C0.2.2.C.L Q0,i6 C0.2.2.At,SL J0 X3 D0,SL K0 C0.2.2.Counts E0,.pointer C0.2.2.B,i6 C0.2.2.Fault] 107) .head (by simp only [SL,hn73])
 refine tn<|?_
 replace u:=u.pk [1,1,0] rfl
 exact ⟨X3,C0.2.2.Counts,(i64.wrap (C0.2.2.At+1)),J0,D0,R4,K0,E0,C1,hm,o.hs,u,S4,F0⟩
 refine cfv o rfl C3<|th<|rg<|qf o Bq rfl λo=>qB o isAgg3 rfl u t3 rfl λo=>qv o (Ah o rfl rfl) λo=>qm o rfl λo=>gr (Fk:=[(0,PT b2),(2,PT K3),(3,i6 I0.1),(7,i6 (i64.wrap (C0.2.2.At+1))),(80,.bool ((decide (F1.Kind=11)) || ((decide (F1.Kind=12)) && (decide (I0.1=0)))))]) 72 8 o u ?_ ?_ ?_
 intro hb o key
 iterate 4 refine qn o λo=>?_
 iterate 2 refine ls<|gnu o rfl rfl rfl λa o=>?_
 exact qn o λo=>qk o (Ab o rfl rfl) key u hb
 intro hb o key
 refine qg o (Ad o Bq rfl) λo=>qg o (eB o isAgg3 rfl u.ld t3 rfl) λo=>qg o (Ah o rfl rfl) λo=>qg o (Aa o rfl) λo=>gr (Fk:=[(0,PT b2),(2,PT K3),(3,i6 I0.1),(7,i6 (i64.wrap (C0.2.2.At+1))),(72,.bool false),(79,.bool ((decide (F1.Kind=12)) && (decide (I0.1=0))))]) 76 3 o u ?_ ?_ ?_
 intro hb o key
 exact qg o (Aa o rfl) λo=>qg o (Ah o rfl rfl) λo=>ql o (Ab o rfl rfl) key u hb
 intro hb o key
 iterate 2 refine qn o λo=>?_
 exact ql o (Ac o rfl rfl) key u hb
 intro a w o u
 exact qk o (Ac o rfl rfl) key u hb
 intro a w o u
 refine re<|?_
 rcases bit hm with ⟨D3,hm⟩ | ⟨D3,hm⟩
 refine tn<|ctv o rfl D3<|rg<|qf o Ee rfl λo=>qB o isAgg3 rfl u t3 rfl λo=>qa o rfl λo=>re<|tn<|?_
 replace u:=u.pk [1,1,0] rfl
 exact ⟨C0.2.2.Regs,C0.2.2.Counts,F1.To,J0,D0,V0,K0,E0,C1,hm,o.hs,u,M0,F0⟩
 refine tn<|cfv o rfl D3<|th<|rg<|qf o Bq rfl λo=>qB o isAgg3 rfl u t3 rfl λo=>qv o (Ah o rfl rfl) λo=>re<|?_
 rcases bip hm with ⟨E3,hm⟩ | ⟨E3,hm⟩
 refine tn<|ctv o rfl E3<|?_
 obtain ⟨W5,A4,hm⟩:=bs hm
 have T4:=Rd.oaI (u.rdO t2) F0 (by decide) A4
 obtain ⟨B4,C4,hm⟩:=bs hm
 refine rxS 9 u wide (by kernel_rfl) λw u=>xm u o rfl λo=>xr u o (Af o rfl) λo=>xr u o (Ad o Nl rfl) λo=>xq u.ld o (λw hl=>eB o isAgg28 rfl hl t0 rfl) λo=>xr u o (Ad o Dw rfl) λo=>xq u.ld o (λw hl=>eB o isAgg3 rfl hl t3 rfl) λo=>xr u o (Ad o Ch rfl) λo=>xq u.ld o (λw hl=>eB o isAgg3 rfl hl t3 rfl) λo=>xr u o (Co o Bn sizeOf3 rfl rfl A4 T4) λo=>?_
 have hn83:=H8 C4
 refine xz rfl<|P9 (α:=Int) o u sizeOf3 rfl rfl rfl rfl F0 rfl C4 t2 λU4 w V4 hU=>?_
 replace u:=hU _ (.tail (.tail .head))
 replace u:=St.eqL u (A':=bk b2 [i6 C0.2.2.C.Regs,i6 C0.2.2.C.Counts,SL U0 C0.2.2.C.L Q0,i6 C0.2.2.At,SL J0 C0.2.2.Regs D0,SL K0 B4 E0,.pointer C0.2.2.B,i6 C0.2.2.Fault] 107) .head (by simp only [SL,hn83])
 refine tn<|?_
 replace u:=u.pk [1,1,0] rfl
 exact ⟨C0.2.2.Regs,B4,(i64.wrap (C0.2.2.At+1)),J0,D0,V0,K0,E0,U4,hm,o.hs,u,M0,V4⟩
 refine tn<|cfv o rfl E3<|th<|rg<|qf o Bq rfl λo=>qB o isAgg3 rfl u t3 rfl λo=>qv o (Ah o rfl rfl) λo=>re<|?_
 rcases bip hm with ⟨F3,hm⟩ | ⟨F3,hm⟩
 refine tn<|ctv o rfl F3<|th<|?_
 obtain ⟨L5,U2,hm⟩:=bs hm
 have W4:=Rd.oaI (u.rdO t2) F0 (by decide) U2
 obtain ⟨M5,O5,X4⟩:=Rows.getI F0 U2
 obtain rfl:M5=[i6 L5]:=O5
 have Y4:=Rd.oaI (u.rdO t2) F0 (by decide) U2
 obtain ⟨Q3,D4,hm⟩:=bs hm
 refine rxS 16 u wide (by kernel_rfl) λw u=>xm u o rfl λo=>xr u o (Af o rfl) λo=>xr u o (Ad o Nl rfl) λo=>xq u.ld o (λw hl=>eB o isAgg28 rfl hl t0 rfl) λo=>xr u o (Ad o Dw rfl) λo=>xq u.ld o (λw hl=>eB o isAgg3 rfl hl t3 rfl) λo=>xm u o rfl λo=>xr u o (Af o rfl) λo=>xr u o (Ad o Nl rfl) λo=>xq u.ld o (λw hl=>eB o isAgg28 rfl hl t0 rfl) λo=>xr u o (Ad o Dw rfl) λo=>xq u.ld o (λw hl=>eB o isAgg3 rfl hl t3 rfl) λo=>xr u o (Co o Bn sizeOf3 rfl rfl U2 W4) λo=>xq u.ld o (λw hl=>Ap o isAgg3 rfl (hl.elO t2 (X4 0 _ rfl))) λo=>xr u o (Dr o rfl rfl) λo=>xr u o (Co o Bn sizeOf3 rfl rfl U2 Y4) λo=>?_
 have hn96:=H8 D4
 refine xz rfl<|P9 (α:=Int) o u sizeOf3 rfl rfl rfl rfl F0 rfl D4 t2 λR3 w I2 hU=>?_
 replace u:=hU _ (.tail (.tail .head))
 replace u:=St.eqL u (A':=bk b2 [i6 C0.2.2.C.Regs,i6 C0.2.2.C.Counts,SL U0 C0.2.2.C.L Q0,i6 C0.2.2.At,SL J0 C0.2.2.Regs D0,SL K0 Q3 E0,.pointer C0.2.2.B,i6 C0.2.2.Fault] 107) .head (by simp only [SL,hn96])
 refine tn<|th<|?_
 obtain ⟨P5,S3,hm⟩:=bs hm
 have A5:=Rd.oaI (u.rdO t2) I2 (by decide) S3
 obtain ⟨B5,C5,T3⟩:=Rows.getI I2 S3
 obtain rfl:B5=[i6 P5]:=C5
 refine rxS 9 u wide (by kernel_rfl) λw u=>xm u o rfl λo=>xr u o (Af o rfl) λo=>xr u o (Ad o Nl rfl) λo=>xq u.ld o (λw hl=>eB o isAgg28 rfl hl t0 rfl) λo=>xr u o (Ad o Dw rfl) λo=>xq u.ld o (λw hl=>eB o isAgg3 rfl hl t3 rfl) λo=>xr u o (Co o Bn sizeOf3 rfl rfl S3 A5) λo=>xq u.ld o (λw hl=>Ap o isAgg3 rfl (hl.elO t2 (T3 0 _ rfl))) λo=>xr u o (Ba o rfl rfl) λo=>xe<|?_
 rcases bip hm with ⟨J2,hm⟩ | ⟨J2,hm⟩
 refine tn<|ctv o rfl J2<|rg<|qf o Ee rfl λo=>qB o isAgg3 rfl u t3 rfl λo=>qa o rfl λo=>re<|tn<|?_
 replace u:=u.pk [1,1,0] rfl
 exact ⟨C0.2.2.Regs,Q3,F1.To,J0,D0,V0,K0,E0,R3,hm,o.hs,u,M0,I2⟩
 refine tn<|cfv o rfl J2<|wk<|tn<|?_
 replace u:=u.pk [1,1,0] rfl
 exact ⟨C0.2.2.Regs,Q3,(i64.wrap (C0.2.2.At+1)),J0,D0,V0,K0,E0,R3,hm,o.hs,u,M0,I2⟩
 refine tn<|cfv o rfl F3<|th<|rg<|qf o Bq rfl λo=>qB o isAgg3 rfl u t3 rfl λo=>qv o (Ah o rfl rfl) λo=>qm o rfl λo=>gr (Fk:=[(0,PT b2),(2,PT K3),(7,i6 (i64.wrap (C0.2.2.At+1))),(131,.bool ((decide (F1.Kind=15)) && (decide (I0.1=0))))]) 128 3 o u ?_ ?_ ?_
 intro hb o key
 exact qg o (Aa o rfl) λo=>qg o (Ah o rfl rfl) λo=>qk o (Ab o rfl rfl) key u hb
 intro hb o key
 iterate 2 refine qn o λo=>?_
 exact qk o (Ac o rfl rfl) key u hb
 intro a w o u
 refine re<|?_
 rcases bit hm with ⟨K2,hm⟩ | ⟨K2,hm⟩
 refine tn<|ctv o rfl K2<|th<|rg<|qm o rfl λo=>qv o (Af o rfl) λo=>qf o Ll rfl λo=>ls<|Bl o u sizeOf3 rfl rfl rfl rfl .head (.succ (.succ (.succ (.succ (.succ (.succ (.succ .zero))))))) λw u=>re<|tn<|wr<|tr<|br<|tr<|br<|?_
 obtain rfl:=si hm
 exact r0 o results71 ⟨U0,Q0,J0,D0,V0,K0,E0,C1,rfl,X1,Y1,(λ_=>Rows.ind M0),(λ_=>Rows.ind F0),(u.pk [0,0,0] rfl).endMut⟩
 refine tn<|cfv o rfl K2<|th<|rg<|qf o Bq rfl λo=>qB o isAgg3 rfl u t3 rfl λo=>qv o (Bg o rfl rfl) λo=>qm o rfl λo=>gr (Fk:=[(0,PT b2),(7,i6 (i64.wrap (C0.2.2.At+1))),(142,.bool ((decide (F1.Kind≠12)) && (decide (F1.Kind≠15))))]) 138 4 o u ?_ ?_ ?_
 intro hb o key
 exact qg o (Ad o Bq rfl) λo=>qg o (eB o isAgg3 rfl u.ld t3 rfl) λo=>qg o (Bg o rfl rfl) λo=>qk o (Ab o rfl rfl) key u hb
 intro hb o key
 iterate 3 refine qn o λo=>?_
 exact qk o (Ac o rfl rfl) key u hb
 intro a w o u
 refine re<|?_
 rcases bit hm with ⟨O2,hm⟩ | ⟨O2,hm⟩
 refine tn<|ctv o rfl O2<|wr<|tr<|br<|tr<|br<|?_
 obtain rfl:=si hm
 exact r0 o results71 ⟨U0,Q0,J0,D0,V0,K0,E0,C1,rfl,X1,Y1,(λ_=>Rows.ind M0),(λ_=>Rows.ind F0),(u.pk [0,0,0] rfl).endMut⟩
 refine tn<|cfv o rfl O2<|wk<|tn<|?_
 replace u:=u.pk [1,1,0] rfl
 exact ⟨C0.2.2.Regs,C0.2.2.Counts,(i64.wrap (C0.2.2.At+1)),J0,D0,V0,K0,E0,C1,hm,o.hs,u,M0,F0⟩
 rintro a w ⟨S1,T1,u1,C2,I1,E2,F2,J1,O1,hm,o,u,D5,U3⟩
 unfold Z7q at hm
 refine rg<|qm o rfl λo=>qm o rfl λo=>qv o (Af o rfl) λo=>qf o Fi rfl λo=>ls<|Bl o u sizeOf3 rfl rfl rfl rfl (.tail (.tail .head)) (.succ (.succ (.succ .zero))) λw u=>re<|bn<|tn<|?_
 exact ⟨(R1,C0.2.2.C.Regs,C0.2.2.C.Counts,C0.2.2.C.L,u1,S1,T1,C0.2.2.B,C0.2.2.Fault),⟨U0,Q0,C2,I1,E2,F2,J1,O1,hm,o.hs,u,X1,Y1,D5,U3⟩,kxd _⟩
 refine tn<|cfv o rfl V2<|we<|tx<|tx<|bx<|?_
 obtain rfl:=si hm
 exact r0n o results71 ⟨n0,W0,R0,O0,Y0,S0,P0,j0,rfl,hcA6,hrA7,(λ_=>Rows.ind I3),(λ_=>Rows.ind J3),(u.pk [2,0,0] rfl).endMut⟩
end Go.LM.SWAPS
