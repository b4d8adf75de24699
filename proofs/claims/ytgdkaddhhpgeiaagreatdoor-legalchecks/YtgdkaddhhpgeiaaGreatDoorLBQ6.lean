/- Walks, lifted by program. No condition beyond the theorems' own premises. -/
import Derived.Test.YtgdkaddhhpgeiaaGreatDoorLBQ5
namespace Go.LM.LB
open Go Go.LL Go.MD Go.LM Go.Proofs Go.MD.LB Go.Proofs.Tryz
set_option maxRecDepth 100000
variable {N:Nat} {w0:World} {H:PH}
set_option maxHeartbeats 4000000 in
theorem Jbw (hH:H.le w0) {b2:Nat} {p1:leadlineref04_P} {oa3:Option Addr} {cap4:Nat} (S1:p1.L.length≤cap4) (T1:SR H oa3 p1.L) {oa7:Option Addr} {cap8:Nat} {vs9:List Value} (C0:Rows H vs9 p1.Out) {p12:Int} {p13:Int} (hO:(sepA [bk b2 [SL oa3 p1.L cap4,i6 p1.At,i6 p1.E,i6 p1.Pos,SL oa7 p1.Out cap8] 171,sla 51 9 oa7 p1.Out.length cap8 vs9]).ok (hp w0)) (hD:∀ b,(sepA [bk b2 [SL oa3 p1.L cap4,i6 p1.At,i6 p1.E,i6 p1.Pos,SL oa7 p1.Out cap8] 171,sla 51 9 oa7 p1.Out.length cap8 vs9]).fp b→H b=none) {r:(api_Stmt×leadlineref04_P)} (hm:Z3i N p1 p12 p13=some r):Tot Tryz.prog 168 #[PT b2,i6 p12,i6 p13] w0 (λv w'=>∃ (H':PH) (cs0:List Value) (oa1m:Option Addr) (cap1m:Nat) (oa2m:Option Addr) (cap2m:Nat) (vs2m:List Value),v=.agg cs0.toArray∧Enc.rep H' cs0 r.1∧r.2.L.length≤cap1m∧SR H' oa1m r.2.L∧Rows H' vs2m r.2.Out∧ExtM w0 (sepA [bk b2 [SL oa3 p1.L cap4,i6 p1.At,i6 p1.E,i6 p1.Pos,SL oa7 p1.Out cap8] 171,sla 51 9 oa7 p1.Out.length cap8 vs9]).fp H H'∧H'.le w'∧(∀ b,(sepA [bk b2 [SL oa1m r.2.L cap1m,i6 r.2.At,i6 r.2.E,i6 r.2.Pos,SL oa2m r.2.Out cap2m] 171,sla 51 9 oa2m r.2.Out.length cap2m vs2m]).fp b→H' b=none)∧Mut w0 (sepA [bk b2 [SL oa3 p1.L cap4,i6 p1.At,i6 p1.E,i6 p1.Pos,SL oa7 p1.Out cap8] 171,sla 51 9 oa7 p1.Out.length cap8 vs9]) (sepA [bk b2 [SL oa1m r.2.L cap1m,i6 r.2.At,i6 r.2.E,i6 r.2.Pos,SL oa2m r.2.Out cap2m] 171,sla 51 9 oa2m r.2.Out.length cap2m vs2m]) w'):=by
 unfold Z3i at hm
 refine fn0 func168 rfl ntmps168 rfl rfl λa o=>?_
 have u:=Cp hH hO hD
 refine th<|rg<|ls<|Au (cs:=[i6 0,Ac [],Ac [],.slice none 0 0,.slice none 0 0,i6 0,i6 0,i6 0,i6 0].toArray) o rfl u Tryz.zeroValue51 rfl λB3 w a u o=>re<|tn<|th<|rg<|qm o rfl λo=>qm o rfl λo=>qv o (Bp [i6 p12,i6 p13] [i6 p12,Ac [],Ac [],.slice none 0 0,.slice none 0 0,i6 0,i6 0,i6 0,i6 p13] o ⟨rfl,rfl,trivial⟩ (λw=>by kernel_rfl)) λo=>ls<|Au (cs:=[i6 0,Ac [],Ac [],.slice none 0 0,.slice none 0 0,i6 0,i6 0,i6 0,i6 0].toArray) o rfl u zeroValue51 rfl λC3 w a u o=>ls<|Az o u sizeOf51 rfl rfl rfl rfl (Al rfl) .head λw u=>re<|tn<|th<|th<|rg<|qm o rfl λo=>re<|tn<|Av (λa w=>∃ (B4:(List api_Token)) (J5:Int) (K5:Int) (L5:Int) (J2:(List api_Stmt)) (C1:Str) (E1:Str) (D0:(List api_Node)) (E0:(List api_Node)) (F1:Int) (U0:PH) (F3:Option Addr) (X1:Nat) (Y1:Option Addr) (V0:Nat) (B2:List Value) (W0:Option Addr) (F0:Nat) (X0:Option Addr) (G0:Nat),(Z3j p12 p13) B4 J5 K5 L5 J2 C1 E1 D0 E0 F1=some r∧ExtM w0 (sepA [bk b2 [SL oa3 p1.L cap4,i6 p1.At,i6 p1.E,i6 p1.Pos,SL oa7 p1.Out cap8] 171,sla 51 9 oa7 p1.Out.length cap8 vs9]).fp H U0∧Fr 82 [(0,PT b2),(6,PT B3),(7,PT C3)] a∧St w0 (sepA [bk b2 [SL oa3 p1.L cap4,i6 p1.At,i6 p1.E,i6 p1.Pos,SL oa7 p1.Out cap8] 171,sla 51 9 oa7 p1.Out.length cap8 vs9]).fp [U0] [sla 51 9 Y1 J2.length V0 B2,bk b2 [SL F3 B4 X1,i6 J5,i6 K5,i6 L5,SL Y1 J2 V0] 171,bk B3 [i6 0,Ac [],Ac [],.slice none 0 0,.slice none 0 0,i6 0,i6 0,i6 0,i6 0] 51,bk C3 [i6 p12,Ac C1,Ac E1,SL W0 D0 F0,SL X0 E0 G0,i6 F1,i6 0,i6 0,i6 p13] 51] w∧B4.length≤X1∧SR U0 F3 B4∧Rows U0 B2 J2∧D0.length≤F0∧SR U0 W0 D0∧E0.length≤G0∧SR U0 X0 E0) ?_ ?_
 refine wb<|th<|rg<|qv o (An o rfl rfl) λo=>qa o rfl λo=>re<|?_
 rcases bip hm with ⟨L4,hm⟩ | ⟨L4,hm⟩
 refine tn<|ctv o rfl L4<|th<|?_
 obtain ⟨U1,h18,hm⟩:=bs hm
 refine rg<|qm o rfl λo=>?_
 replace u:=u.pk [2,2,0,0] rfl
 replace u:=St.sep [bk b2 [SL oa3 p1.L cap4,i6 p1.At,i6 p1.E,i6 p1.Pos,SL oa7 p1.Out cap8] 171,sla 51 9 oa7 p1.Out.length cap8 vs9] u
 refine ls<|c1 o rfl call175 (Lh (St.le u) (p1:=p1) (b2:=b2) (oa3:=oa3) (cap4:=cap4) (oa7:=oa7) (cap8:=cap8) (vs9:=vs9) S1 T1 C0 (St.sepOk u) (St.sepDis u) h18) ⟨rfl,trivial⟩ (λv w a hR o=>?_)
 obtain ⟨H22,M5,S4,M4,G3,O5,rfl,I9,J9,K9,K2,L9,hd21,hk⟩:=hR
 obtain ⟨u,K2⟩:=And.intro (St.mutH u hk K2 L9 hd21) (St.extcMM u K2)
 replace u:=u.unsep
 refine qv o (Af o Cn rfl) λo=>ls<|Ax o u sizeOf9 rfl rfl rfl rfl (.tail (.tail .head)) (.succ .zero) λw u=>re<|tn<|th<|?_
 obtain ⟨M2,h33,hm⟩:=bs hm
 refine rg<|qm o rfl λo=>?_
 replace u:=u.pk [0,0,0,0] rfl
 replace u:=St.sep [bk b2 [SL M5 U1.2.L S4,i6 U1.2.At,i6 U1.2.E,i6 U1.2.Pos,SL M4 U1.2.Out G3] 171,sla 51 9 M4 U1.2.Out.length G3 O5] u
 refine ls<|c1 o rfl call161 (H7 (St.le u) (p1:=U1.2) (b2:=b2) (oa3:=M5) (cap4:=S4) (oa7:=M4) (cap8:=G3) (vs9:=O5) I9 J9 K9 (St.sepOk u) (St.sepDis u) h33) ⟨rfl,rfl,trivial⟩ (λv w a hR o=>?_)
 obtain ⟨H37,P5,T4,O4,I3,Q5,rfl,M9,O9,P9,O2,Q9,hd36,hk⟩:=hR
 obtain ⟨u,O2⟩:=And.intro (St.mutH u hk O2 Q9 hd36) (St.extcMM u O2)
 replace u:=u.unsep
 refine re<|tn<|?_
 obtain ⟨D3,h48,hm⟩:=bs hm
 refine rg<|qm o rfl λo=>?_
 replace u:=u.pk [0,0,0,0] rfl
 replace u:=St.sep [bk b2 [SL P5 M2.L T4,i6 M2.At,i6 M2.E,i6 M2.Pos,SL O4 M2.Out I3] 171,sla 51 9 O4 M2.Out.length I3 Q5] u
 refine ls<|c1 o rfl call176 (N0 (St.le u) (p1:=M2) (b2:=b2) (oa3:=P5) (cap4:=T4) (oa7:=O4) (cap8:=I3) (vs9:=Q5) M9 O9 P9 (St.sepOk u) (St.sepDis u) h48) ⟨rfl,trivial⟩ (λv w a hR o=>?_)
 obtain ⟨H52,R9,K6,S9,L6,T9,M6,U9,rfl,V9,W9,X9,Y9,d9,P2,e9,hd51,hk⟩:=hR
 obtain ⟨u,P2⟩:=And.intro (St.mutH u hk P2 e9 hd51) (St.extcMM u P2)
 replace u:=u.unsep
 refine qv o (Af o Dp rfl) λo=>ls<|Ax o u sizeOf49 rfl rfl rfl rfl (.tail (.tail .head)) (.succ (.succ (.succ .zero))) λw u=>re<|bn<|tn<|?_
 replace u:=u.pk [1,0,1,0] rfl
 exact ⟨D3.2.L,D3.2.At,D3.2.E,D3.2.Pos,D3.2.Out,U1.1,[],D3.1,[],0,H52,S9,L6,T9,M6,U9,R9,K6,none,0,hm,(ExtM.trans K2 (ExtM.trans O2 P2)),o.hs,u,X9,Y9,d9,V9,W9,(Nat.le_refl _),((SR.nil _ _).mono (cp (cp P2.sub O2.sub) K2.sub))⟩
 refine tn<|cfv o rfl L4<|th<|rg<|qv o (An o rfl rfl) λo=>qa o rfl λo=>re<|?_
 rcases bip hm with ⟨P4,hm⟩ | ⟨P4,hm⟩
 refine tn<|ctv o rfl P4<|th<|?_
 obtain ⟨V1,h68,hm⟩:=bs hm
 refine rg<|qm o rfl λo=>?_
 replace u:=u.pk [2,2,0,0] rfl
 replace u:=St.sep [bk b2 [SL oa3 p1.L cap4,i6 p1.At,i6 p1.E,i6 p1.Pos,SL oa7 p1.Out cap8] 171,sla 51 9 oa7 p1.Out.length cap8 vs9] u
 refine ls<|c1 o rfl call175 (Lh (St.le u) (p1:=p1) (b2:=b2) (oa3:=oa3) (cap4:=cap4) (oa7:=oa7) (cap8:=cap8) (vs9:=vs9) S1 T1 C0 (St.sepOk u) (St.sepDis u) h68) ⟨rfl,trivial⟩ (λv w a hR o=>?_)
 obtain ⟨H72,R5,U4,Q4,J3,S5,rfl,j9,k9,l9,G1,n9,hd71,hk⟩:=hR
 obtain ⟨u,G1⟩:=And.intro (St.mutH u hk G1 n9 hd71) (St.extcMM u G1)
 replace u:=u.unsep
 refine qv o (Af o Cn rfl) λo=>ls<|Ax o u sizeOf9 rfl rfl rfl rfl (.tail (.tail .head)) (.succ .zero) λw u=>re<|tn<|th<|?_
 obtain ⟨Q2,h83,hm⟩:=bs hm
 refine rg<|qm o rfl λo=>?_
 replace u:=u.pk [0,0,0,0] rfl
 replace u:=St.sep [bk b2 [SL R5 V1.2.L U4,i6 V1.2.At,i6 V1.2.E,i6 V1.2.Pos,SL Q4 V1.2.Out J3] 171,sla 51 9 Q4 V1.2.Out.length J3 S5] u
 refine ls<|c1 o rfl call161 (H7 (St.le u) (p1:=V1.2) (b2:=b2) (oa3:=R5) (cap4:=U4) (oa7:=Q4) (cap8:=J3) (vs9:=S5) j9 k9 l9 (St.sepOk u) (St.sepDis u) h83) ⟨rfl,rfl,trivial⟩ (λv w a hR o=>?_)
 obtain ⟨H87,T5,V4,R4,K3,U5,rfl,o9,p9,u9,I1,y9,hd86,hk⟩:=hR
 obtain ⟨u,I1⟩:=And.intro (St.mutH u hk I1 y9 hd86) (St.extcMM u I1)
 replace u:=u.unsep
 refine re<|tn<|?_
 obtain ⟨E3,h98,hm⟩:=bs hm
 refine rg<|qm o rfl λo=>?_
 replace u:=u.pk [0,0,0,0] rfl
 replace u:=St.sep [bk b2 [SL T5 Q2.L V4,i6 Q2.At,i6 Q2.E,i6 Q2.Pos,SL R4 Q2.Out K3] 171,sla 51 9 R4 Q2.Out.length K3 U5] u
 refine ls<|c1 o rfl call175 (Lh (St.le u) (p1:=Q2) (b2:=b2) (oa3:=T5) (cap4:=V4) (oa7:=R4) (cap8:=K3) (vs9:=U5) o9 p9 u9 (St.sepOk u) (St.sepDis u) h98) ⟨rfl,trivial⟩ (λv w a hR o=>?_)
 obtain ⟨H102,O6,V5,P6,W5,Q6,rfl,R6,S6,T6,J1,U6,hd101,hk⟩:=hR
 obtain ⟨u,J1⟩:=And.intro (St.mutH u hk J1 U6 hd101) (St.extcMM u J1)
 replace u:=u.unsep
 refine qv o (Af o Db rfl) λo=>ls<|Ax o u sizeOf9 rfl rfl rfl rfl (.tail (.tail .head)) (.succ (.succ .zero)) λw u=>re<|bn<|tn<|?_
 replace u:=u.pk [1,0,1,0] rfl
 exact ⟨E3.2.L,E3.2.At,E3.2.E,E3.2.Pos,E3.2.Out,V1.1,E3.1,[],[],0,H102,O6,V5,P6,W5,Q6,none,0,none,0,hm,(ExtM.trans G1 (ExtM.trans I1 J1)),o.hs,u,R6,S6,T6,(Nat.le_refl _),((SR.nil _ _).mono (cp (cp J1.sub I1.sub) G1.sub)),(Nat.le_refl _),((SR.nil _ _).mono (cp (cp J1.sub I1.sub) G1.sub))⟩
 refine tn<|cfv o rfl P4<|th<|rg<|qv o (An o rfl rfl) λo=>qa o rfl λo=>re<|?_
 rcases bip hm with ⟨L3,hm⟩ | ⟨L3,hm⟩
 refine tn<|ctv o rfl L3<|th<|?_
 obtain ⟨I0,h114,hm⟩:=bs hm
 refine rg<|qm o rfl λo=>?_
 replace u:=u.pk [2,2,0,0] rfl
 replace u:=St.sep [bk b2 [SL oa3 p1.L cap4,i6 p1.At,i6 p1.E,i6 p1.Pos,SL oa7 p1.Out cap8] 171,sla 51 9 oa7 p1.Out.length cap8 vs9] u
 refine ls<|c1 o rfl call175 (Lh (St.le u) (p1:=p1) (b2:=b2) (oa3:=oa3) (cap4:=cap4) (oa7:=oa7) (cap8:=cap8) (vs9:=vs9) S1 T1 C0 (St.sepOk u) (St.sepDis u) h114) ⟨rfl,trivial⟩ (λv w a hR o=>?_)
 obtain ⟨H118,W4,C4,M3,R2,X4,rfl,V6,W6,X6,Y0,Y6,hd117,hk⟩:=hR
 obtain ⟨u,Y0⟩:=And.intro (St.mutH u hk Y0 Y6 hd117) (St.extcMM u Y0)
 replace u:=u.unsep
 refine qv o (Af o Db rfl) λo=>ls<|Ax o u sizeOf9 rfl rfl rfl rfl (.tail (.tail .head)) (.succ (.succ .zero)) λw u=>re<|tn<|th<|?_
 obtain ⟨Q0,h129,hm⟩:=bs hm
 refine rg<|qm o rfl λo=>?_
 replace u:=u.pk [0,0,0,0] rfl
 replace u:=St.sep [bk b2 [SL W4 I0.2.L C4,i6 I0.2.At,i6 I0.2.E,i6 I0.2.Pos,SL M3 I0.2.Out R2] 171,sla 51 9 M3 I0.2.Out.length R2 X4] u
 refine ls<|c1 o rfl call161 (H7 (St.le u) (p1:=I0.2) (b2:=b2) (oa3:=W4) (cap4:=C4) (oa7:=M3) (cap8:=R2) (vs9:=X4) V6 W6 X6 (St.sepOk u) (St.sepDis u) h129) ⟨rfl,rfl,trivial⟩ (λv w a hR o=>?_)
 obtain ⟨H133,Y4,D4,O3,T2,d4,rfl,d6,j6,k6,j0,n6,hd132,hk⟩:=hR
 obtain ⟨u,j0⟩:=And.intro (St.mutH u hk j0 n6 hd132) (St.extcMM u j0)
 replace u:=u.unsep
 refine re<|tn<|?_
 obtain ⟨M1,h144,hm⟩:=bs hm
 refine rg<|qm o rfl λo=>?_
 replace u:=u.pk [0,0,0,0] rfl
 replace u:=St.sep [bk b2 [SL Y4 Q0.L D4,i6 Q0.At,i6 Q0.E,i6 Q0.Pos,SL O3 Q0.Out T2] 171,sla 51 9 O3 Q0.Out.length T2 d4] u
 refine ls<|c1 o rfl call176 (N0 (St.le u) (p1:=Q0) (b2:=b2) (oa3:=Y4) (cap4:=D4) (oa7:=O3) (cap8:=T2) (vs9:=d4) d6 j6 k6 (St.sepOk u) (St.sepDis u) h144) ⟨rfl,trivial⟩ (λv w a hR o=>?_)
 obtain ⟨H148,u6,X5,v6,Y5,y6,d5,z6,rfl,A7,B7,C7,D7,E7,n0,F7,hd147,hk⟩:=hR
 obtain ⟨u,n0⟩:=And.intro (St.mutH u hk n0 F7 hd147) (St.extcMM u n0)
 replace u:=u.unsep
 refine qv o (Af o Dp rfl) λo=>ls<|Ax o u sizeOf49 rfl rfl rfl rfl (.tail (.tail .head)) (.succ (.succ (.succ .zero))) λw u=>re<|bn<|tn<|?_
 replace u:=u.pk [1,0,1,0] rfl
 exact ⟨M1.2.L,M1.2.At,M1.2.E,M1.2.Pos,M1.2.Out,[],I0.1,M1.1,[],0,H148,v6,Y5,y6,d5,z6,u6,X5,none,0,hm,(ExtM.trans Y0 (ExtM.trans j0 n0)),o.hs,u,C7,D7,E7,A7,B7,(Nat.le_refl _),((SR.nil _ _).mono (cp (cp n0.sub j0.sub) Y0.sub))⟩
 refine tn<|cfv o rfl L3<|th<|rg<|qv o (An o rfl rfl) λo=>qa o rfl λo=>re<|?_
 rcases bip hm with ⟨P3,hm⟩ | ⟨P3,hm⟩
 refine tn<|ctv o rfl P3<|th<|?_
 obtain ⟨J0,h164,hm⟩:=bs hm
 refine rg<|qm o rfl λo=>?_
 replace u:=u.pk [2,2,0,0] rfl
 replace u:=St.sep [bk b2 [SL oa3 p1.L cap4,i6 p1.At,i6 p1.E,i6 p1.Pos,SL oa7 p1.Out cap8] 171,sla 51 9 oa7 p1.Out.length cap8 vs9] u
 refine ls<|c1 o rfl call175 (Lh (St.le u) (p1:=p1) (b2:=b2) (oa3:=oa3) (cap4:=cap4) (oa7:=oa7) (cap8:=cap8) (vs9:=vs9) S1 T1 C0 (St.sepOk u) (St.sepDis u) h164) ⟨rfl,trivial⟩ (λv w a hR o=>?_)
 obtain ⟨H168,j4,E4,Q3,U2,k4,rfl,G7,I7,J7,C2,K7,hd167,hk⟩:=hR
 obtain ⟨u,C2⟩:=And.intro (St.mutH u hk C2 K7 hd167) (St.extcMM u C2)
 replace u:=u.unsep
 refine qv o (Af o Cn rfl) λo=>ls<|Ax o u sizeOf9 rfl rfl rfl rfl (.tail (.tail .head)) (.succ .zero) λw u=>re<|tn<|th<|?_
 obtain ⟨R0,h179,hm⟩:=bs hm
 refine rg<|qm o rfl λo=>?_
 replace u:=u.pk [0,0,0,0] rfl
 replace u:=St.sep [bk b2 [SL j4 J0.2.L E4,i6 J0.2.At,i6 J0.2.E,i6 J0.2.Pos,SL Q3 J0.2.Out U2] 171,sla 51 9 Q3 J0.2.Out.length U2 k4] u
 refine ls<|c1 o rfl call161 (H7 (St.le u) (p1:=J0.2) (b2:=b2) (oa3:=j4) (cap4:=E4) (oa7:=Q3) (cap8:=U2) (vs9:=k4) G7 I7 J7 (St.sepOk u) (St.sepDis u) h179) ⟨rfl,rfl,trivial⟩ (λv w a hR o=>?_)
 obtain ⟨H183,l4,F4,R3,V2,u4,rfl,L7,M7,O7,E2,P7,hd182,hk⟩:=hR
 obtain ⟨u,E2⟩:=And.intro (St.mutH u hk E2 P7 hd182) (St.extcMM u E2)
 replace u:=u.unsep
 refine re<|tn<|th<|?_
 obtain ⟨K0,h194,hm⟩:=bs hm
 refine rg<|qm o rfl λo=>?_
 replace u:=u.pk [0,0,0,0] rfl
 replace u:=St.sep [bk b2 [SL l4 R0.L F4,i6 R0.At,i6 R0.E,i6 R0.Pos,SL R3 R0.Out V2] 171,sla 51 9 R3 R0.Out.length V2 u4] u
 refine ls<|c1 o rfl call175 (Lh (St.le u) (p1:=R0) (b2:=b2) (oa3:=l4) (cap4:=F4) (oa7:=R3) (cap8:=V2) (vs9:=u4) L7 M7 O7 (St.sepOk u) (St.sepDis u) h194) ⟨rfl,trivial⟩ (λv w a hR o=>?_)
 obtain ⟨H198,A5,G4,S3,W2,B5,rfl,Q7,R7,S7,F2,T7,hd197,hk⟩:=hR
 obtain ⟨u,F2⟩:=And.intro (St.mutH u hk F2 T7 hd197) (St.extcMM u F2)
 replace u:=u.unsep
 refine qv o (Af o Db rfl) λo=>ls<|Ax o u sizeOf9 rfl rfl rfl rfl (.tail (.tail .head)) (.succ (.succ .zero)) λw u=>re<|tn<|th<|?_
 obtain ⟨S0,h209,hm⟩:=bs hm
 refine rg<|qm o rfl λo=>?_
 replace u:=u.pk [0,0,0,0] rfl
 replace u:=St.sep [bk b2 [SL A5 K0.2.L G4,i6 K0.2.At,i6 K0.2.E,i6 K0.2.Pos,SL S3 K0.2.Out W2] 171,sla 51 9 S3 K0.2.Out.length W2 B5] u
 refine ls<|c1 o rfl call161 (H7 (St.le u) (p1:=K0.2) (b2:=b2) (oa3:=A5) (cap4:=G4) (oa7:=S3) (cap8:=W2) (vs9:=B5) Q7 R7 S7 (St.sepOk u) (St.sepDis u) h209) ⟨rfl,rfl,trivial⟩ (λv w a hR o=>?_)
 obtain ⟨H213,C5,I4,T3,X2,D5,rfl,U7,V7,W7,G2,X7,hd212,hk⟩:=hR
 obtain ⟨u,G2⟩:=And.intro (St.mutH u hk G2 X7 hd212) (St.extcMM u G2)
 replace u:=u.unsep
 refine re<|tn<|th<|?_
 obtain ⟨M0,h224,hm⟩:=bs hm
 refine rg<|qm o rfl λo=>?_
 replace u:=u.pk [0,0,0,0] rfl
 replace u:=St.sep [bk b2 [SL C5 S0.L I4,i6 S0.At,i6 S0.E,i6 S0.Pos,SL T3 S0.Out X2] 171,sla 51 9 T3 S0.Out.length X2 D5] u
 refine ls<|c1 o rfl call176 (N0 (St.le u) (p1:=S0) (b2:=b2) (oa3:=C5) (cap4:=I4) (oa7:=T3) (cap8:=X2) (vs9:=D5) U7 V7 W7 (St.sepOk u) (St.sepDis u) h224) ⟨rfl,trivial⟩ (λv w a hR o=>?_)
 obtain ⟨H228,Y7,j5,E5,J4,U3,Y2,F5,rfl,d7,j7,k7,n7,u7,I2,v7,hd227,hk⟩:=hR
 obtain ⟨u,I2⟩:=And.intro (St.mutH u hk I2 v7 hd227) (St.extcMM u I2)
 replace u:=u.unsep
 refine qv o (Af o Dp rfl) λo=>ls<|Ax o u sizeOf49 rfl rfl rfl rfl (.tail (.tail .head)) (.succ (.succ (.succ .zero))) λw u=>re<|tn<|th<|?_
 obtain ⟨T0,h243,hm⟩:=bs hm
 refine rg<|qm o rfl λo=>?_
 replace u:=u.pk [0,0,0,0] rfl
 replace u:=St.sep [bk b2 [SL E5 M0.2.L J4,i6 M0.2.At,i6 M0.2.E,i6 M0.2.Pos,SL U3 M0.2.Out Y2] 171,sla 51 9 U3 M0.2.Out.length Y2 F5] u
 refine ls<|c1 o rfl call161 (H7 (St.le u) (p1:=M0.2) (b2:=b2) (oa3:=E5) (cap4:=J4) (oa7:=U3) (cap8:=Y2) (vs9:=F5) k7 n7 u7 (St.sepOk u) (St.sepDis u) h243) ⟨rfl,rfl,trivial⟩ (λv w a hR o=>?_)
 obtain ⟨H247,G5,K4,V3,A3,I5,rfl,z7,A8,B8,p0,C8,hd246,hk⟩:=hR
 obtain ⟨u,p0⟩:=And.intro (St.mutH u hk p0 C8 hd246) (St.extcMM u p0)
 replace u:=u.unsep
 refine re<|tn<|?_
 obtain ⟨O1,h258,hm⟩:=bs hm
 refine rg<|qm o rfl λo=>?_
 replace u:=u.pk [0,0,0,0] rfl
 replace u:=St.sep [bk b2 [SL G5 T0.L K4,i6 T0.At,i6 T0.E,i6 T0.Pos,SL V3 T0.Out A3] 171,sla 51 9 V3 T0.Out.length A3 I5] u
 refine ls<|c1 o rfl call176 (N0 (St.le u) (p1:=T0) (b2:=b2) (oa3:=G5) (cap4:=K4) (oa7:=V3) (cap8:=A3) (vs9:=I5) z7 A8 B8 (St.sepOk u) (St.sepDis u) h258) ⟨rfl,trivial⟩ (λv w a hR o=>?_)
 obtain ⟨H262,D8,k5,E8,n5,F8,u5,G8,rfl,I8,J8,K8,L8,M8,u0,O8,hd261,hk⟩:=hR
 obtain ⟨u,u0⟩:=And.intro (St.mutH u hk u0 O8 hd261) (St.extcMM u u0)
 replace u:=u.unsep
 refine qv o (Af o Gy rfl) λo=>ls<|Ax o u sizeOf49 rfl rfl rfl rfl (.tail (.tail .head)) (.succ (.succ (.succ (.succ .zero)))) λw u=>re<|bn<|tn<|?_
 replace u:=u.pk [1,0,1,0] rfl
 exact ⟨O1.2.L,O1.2.At,O1.2.E,O1.2.Pos,O1.2.Out,J0.1,K0.1,M0.1,O1.1,0,H262,E8,n5,F8,u5,G8,Y7,j5,D8,k5,hm,(ExtM.trans C2 (ExtM.trans E2 (ExtM.trans F2 (ExtM.trans G2 (ExtM.trans I2 (ExtM.trans p0 u0)))))),o.hs,u,K8,L8,M8,d7,(j7.mono (cp u0.sub p0.sub)),I8,J8⟩
 refine tn<|cfv o rfl P3<|th<|th<|rg<|qv o (An o rfl rfl) λo=>qa o rfl λo=>re<|tn<|Av (λa w=>∃ (A6:Bool),(Z3k N (Z3j p12 p13) p1 p12) A6=some r∧Fr 82 [(0,PT b2),(6,PT B3),(7,PT C3),(11,i6 p12),(62,.bool A6)] a∧St w0 (sepA [bk b2 [SL oa3 p1.L cap4,i6 p1.At,i6 p1.E,i6 p1.Pos,SL oa7 p1.Out cap8] 171,sla 51 9 oa7 p1.Out.length cap8 vs9]).fp [H] [sla 51 9 oa7 p1.Out.length cap8 vs9,bk b2 [SL oa3 p1.L cap4,i6 p1.At,i6 p1.E,i6 p1.Pos,SL oa7 p1.Out cap8] 171,bk B3 [i6 0,Ac [],Ac [],.slice none 0 0,.slice none 0 0,i6 0,i6 0,i6 0,i6 0] 51,bk C3 [i6 p12,Ac [],Ac [],.slice none 0 0,.slice none 0 0,i6 0,i6 0,i6 0,i6 p13] 51] w) ?_ ?_
 rcases bip hm with ⟨W3,hm⟩ | ⟨W3,hm⟩
 refine ctv o rfl W3<|wk<|tn<|?_
 replace u:=u.pk [3,2,1,0] rfl
 exact ⟨(decide (p12=5)),hm,o.hs,u⟩
 refine cfv o rfl W3<|th<|rg<|qv o (An o rfl rfl) λo=>qa o rfl λo=>re<|?_
 rcases bip hm with ⟨X3,hm⟩ | ⟨X3,hm⟩
 refine tn<|ctv o rfl X3<|wk<|tn<|?_
 replace u:=u.pk [3,2,1,0] rfl
 exact ⟨(decide (p12=6)),hm,o.hs,u⟩
 refine tn<|cfv o rfl X3<|th<|rg<|qv o (An o rfl rfl) λo=>qa o rfl λo=>re<|?_
 rcases bip hm with ⟨Y3,hm⟩ | ⟨Y3,hm⟩
 refine tn<|ctv o rfl Y3<|wk<|tn<|?_
 replace u:=u.pk [3,2,1,0] rfl
 exact ⟨(decide (p12=9)),hm,o.hs,u⟩
 refine tn<|cfv o rfl Y3<|rg<|qv o (An o rfl rfl) λo=>qa o rfl λo=>re<|tn<|?_
 replace u:=u.pk [3,2,1,0] rfl
 exact ⟨(decide (p12=10)),hm,o.hs,u⟩
 rintro a w ⟨A6,hm,o,u⟩
 unfold Z3k at hm
 rcases bit hm with ⟨l3,hm⟩ | ⟨l3,hm⟩
 refine ctv o rfl l3<|?_
 obtain ⟨P1,h281,hm⟩:=bs hm
 refine rg<|qm o rfl λo=>?_
 replace u:=u.pk [1,0,0,0] rfl
 replace u:=St.sep [bk b2 [SL oa3 p1.L cap4,i6 p1.At,i6 p1.E,i6 p1.Pos,SL oa7 p1.Out cap8] 171,sla 51 9 oa7 p1.Out.length cap8 vs9] u
 refine ls<|c1 o rfl call175 (Lh (St.le u) (p1:=(leadlineref04_P.mk p1.L p1.At p1.E p1.Pos p1.Out)) (b2:=b2) (oa3:=oa3) (cap4:=cap4) (oa7:=oa7) (cap8:=cap8) (vs9:=vs9) S1 T1 C0 (St.sepOk u) (St.sepDis u) h281) ⟨rfl,trivial⟩ (λv w a hR o=>?_)
 obtain ⟨H285,P8,B6,Q8,C6,R8,rfl,S8,T8,U8,O0,V8,hd284,hk⟩:=hR
 obtain ⟨u,O0⟩:=And.intro (St.mutH u hk O0 V8 hd284) (St.extcMM u O0)
 replace u:=u.unsep
 refine qv o (Af o Db rfl) λo=>ls<|Ax o u sizeOf9 rfl rfl rfl rfl (.tail (.tail (.tail .head))) (.succ (.succ .zero)) λw u=>re<|bn<|tn<|?_
 replace u:=u.pk [1,0,0,0] rfl
 exact ⟨P1.2.L,P1.2.At,P1.2.E,P1.2.Pos,P1.2.Out,[],P1.1,[],[],0,H285,P8,B6,Q8,C6,R8,none,0,none,0,hm,O0,o.hs,u,S8,T8,U8,(Nat.le_refl _),((SR.nil _ _).mono O0.sub),(Nat.le_refl _),((SR.nil _ _).mono O0.sub)⟩
 refine cfv o rfl l3<|th<|th<|rg<|qv o (An o rfl rfl) λo=>qa o rfl λo=>re<|tn<|Av (λa w=>∃ (D6:Bool),(Z3l N (Z3j p12 p13) p1 p12) D6=some r∧Fr 82 [(0,PT b2),(6,PT B3),(7,PT C3),(11,i6 p12),(70,.bool D6)] a∧St w0 (sepA [bk b2 [SL oa3 p1.L cap4,i6 p1.At,i6 p1.E,i6 p1.Pos,SL oa7 p1.Out cap8] 171,sla 51 9 oa7 p1.Out.length cap8 vs9]).fp [H] [sla 51 9 oa7 p1.Out.length cap8 vs9,bk b2 [SL oa3 p1.L cap4,i6 p1.At,i6 p1.E,i6 p1.Pos,SL oa7 p1.Out cap8] 171,bk B3 [i6 0,Ac [],Ac [],.slice none 0 0,.slice none 0 0,i6 0,i6 0,i6 0,i6 0] 51,bk C3 [i6 p12,Ac [],Ac [],.slice none 0 0,.slice none 0 0,i6 0,i6 0,i6 0,i6 p13] 51] w) ?_ ?_
 rcases bip hm with ⟨n3,hm⟩ | ⟨n3,hm⟩
 refine ctv o rfl n3<|wk<|tn<|?_
 exact ⟨(decide (p12=11)),hm,o.hs,u⟩
 refine cfv o rfl n3<|rg<|qv o (An o rfl rfl) λo=>qa o rfl λo=>re<|tn<|?_
 exact ⟨(decide (p12=14)),hm,o.hs,u⟩
 rintro a w ⟨D6,hm,o,u⟩
 unfold Z3l at hm
 rcases bit hm with ⟨u3,hm⟩ | ⟨u3,hm⟩
 refine ctv o rfl u3<|?_
 obtain ⟨Q1,h298,hm⟩:=bs hm
 refine rg<|qm o rfl λo=>?_
 replace u:=u.pk [1,0,0,0] rfl
 replace u:=St.sep [bk b2 [SL oa3 p1.L cap4,i6 p1.At,i6 p1.E,i6 p1.Pos,SL oa7 p1.Out cap8] 171,sla 51 9 oa7 p1.Out.length cap8 vs9] u
 refine ls<|c1 o rfl call176 (N0 (St.le u) (p1:=(leadlineref04_P.mk p1.L p1.At p1.E p1.Pos p1.Out)) (b2:=b2) (oa3:=oa3) (cap4:=cap4) (oa7:=oa7) (cap8:=cap8) (vs9:=vs9) S1 T1 C0 (St.sepOk u) (St.sepDis u) h298) ⟨rfl,trivial⟩ (λv w a hR o=>?_)
 obtain ⟨H302,W8,E6,X8,F6,Y8,G6,d8,rfl,e8,j8,k8,l8,n8,B1,v8,hd301,hk⟩:=hR
 obtain ⟨u,B1⟩:=And.intro (St.mutH u hk B1 v8 hd301) (St.extcMM u B1)
 replace u:=u.unsep
 refine qv o (Af o Dp rfl) λo=>ls<|Ax o u sizeOf49 rfl rfl rfl rfl (.tail (.tail (.tail .head))) (.succ (.succ (.succ .zero))) λw u=>re<|bn<|tn<|?_
 replace u:=u.pk [1,0,0,0] rfl
 exact ⟨Q1.2.L,Q1.2.At,Q1.2.E,Q1.2.Pos,Q1.2.Out,[],[],Q1.1,[],0,H302,X8,F6,Y8,G6,d8,W8,E6,none,0,hm,B1,o.hs,u,k8,l8,n8,e8,j8,(Nat.le_refl _),((SR.nil _ _).mono B1.sub)⟩
 refine cfv o rfl u3<|th<|rg<|qv o (An o rfl rfl) λo=>qa o rfl λo=>re<|?_
 rcases bip hm with ⟨A4,hm⟩ | ⟨A4,hm⟩
 refine tn<|ctv o rfl A4<|?_
 obtain ⟨R1,h318,hm⟩:=bs hm
 refine rg<|qm o rfl λo=>?_
 replace u:=u.pk [1,0,0,0] rfl
 replace u:=St.sep [bk b2 [SL oa3 p1.L cap4,i6 p1.At,i6 p1.E,i6 p1.Pos,SL oa7 p1.Out cap8] 171,sla 51 9 oa7 p1.Out.length cap8 vs9] u
 refine ls<|c1 o rfl call177 (JbA (St.le u) (p1:=(leadlineref04_P.mk p1.L p1.At p1.E p1.Pos p1.Out)) (b2:=b2) (oa3:=oa3) (cap4:=cap4) (oa7:=oa7) (cap8:=cap8) (vs9:=vs9) S1 T1 C0 (St.sepOk u) (St.sepDis u) h318) ⟨rfl,trivial⟩ (λv w a hR o=>?_)
 obtain ⟨H322,y8,I6,z8,J6,A9,rfl,B9,C9,D9,P0,E9,hd321,hk⟩:=hR
 obtain ⟨u,P0⟩:=And.intro (St.mutH u hk P0 E9 hd321) (St.extcMM u P0)
 replace u:=u.unsep
 refine qv o (Af o Gk rfl) λo=>ls<|Ax o u sizeOf3 rfl rfl rfl rfl (.tail (.tail (.tail .head))) (.succ (.succ (.succ (.succ (.succ .zero))))) λw u=>re<|bn<|tn<|?_
 replace u:=u.pk [1,0,0,0] rfl
 exact ⟨R1.2.L,R1.2.At,R1.2.E,R1.2.Pos,R1.2.Out,[],[],[],[],R1.1,H322,y8,I6,z8,J6,A9,none,0,none,0,hm,P0,o.hs,u,B9,C9,D9,(Nat.le_refl _),((SR.nil _ _).mono P0.sub),(Nat.le_refl _),((SR.nil _ _).mono P0.sub)⟩
 refine tn<|cfv o rfl A4<|wk<|bn<|tn<|?_
 exact ⟨p1.L,p1.At,p1.E,p1.Pos,p1.Out,[],[],[],[],0,H,oa3,cap4,oa7,cap8,vs9,none,0,none,0,hm,(ExtM.refl _ _ _),o.hs,u,S1,T1,C0,(Nat.le_refl _),(SR.nil _ _),(Nat.le_refl _),(SR.nil _ _)⟩
 rintro a w ⟨B4,J5,K5,L5,J2,C1,E1,D0,E0,F1,U0,F3,X1,Y1,V0,B2,W0,F0,X0,G0,hm,F9,o,u,hcA5,hrA6,G9,hcA21,hrA22,hcA26,hrA27⟩
 unfold Z3j at hm
 refine th<|rg<|qv o (Ay o Tryz.isAgg51 Tryz.sizeOf51 rfl rfl (u.ld.cellsB t3)) λo=>ls<|Az o u sizeOf51 rfl rfl rfl rfl (Al rfl) (.tail (.tail .head)) λw u=>re<|tn<|wr<|?_
 obtain rfl:=si hm
 exact r1c (vs:=[i6 p12,Ac C1,Ac E1,SL W0 D0 F0,SL X0 E0 G0,i6 F1,i6 0,i6 0,i6 p13]) (.inl rfl) o results168 rfl isAgg51 sizeOf51 rfl (u.ld.cellsB t2) ⟨U0,_,F3,X1,Y1,V0,B2,rfl,(show Enc.rep (α:=api_Stmt) U0 [i6 p12,Ac C1,Ac E1,SL W0 D0 F0,SL X0 E0 G0,i6 F1,i6 0,i6 0,i6 p13] (api_Stmt.mk p12 C1 E1 D0 E0 F1 0 0 p13) from ⟨_,_,rfl,rfl,⟨_,_,rfl,rfl,⟨_,_,rfl,rfl,⟨_,_,rfl,⟨_,_,rfl,hcA21,hrA22⟩,⟨_,_,rfl,⟨_,_,rfl,hcA26,hrA27⟩,⟨_,_,rfl,rfl,⟨_,_,rfl,rfl,⟨_,_,rfl,rfl,rfl⟩⟩⟩⟩⟩⟩⟩⟩),hcA5,hrA6,G9,F9,(St.le u),(St.disL (u.pickL (.cons (.tail .head) (.cons .head .nil)))),(u.pickL (.cons (.tail .head) (.cons .head .nil))).endMut⟩
set_option maxHeartbeats 4000000 in
theorem Jbc:∀ (N:Nat),(∀ {w0:World} {H:PH} (_:H.le w0) {b2:Nat} {p1:leadlineref04_P} {oa3:Option Addr} {cap4:Nat} (_:p1.L.length≤cap4) (_:SR H oa3 p1.L) {oa7:Option Addr} {cap8:Nat} {vs9:List Value} (_:Rows H vs9 p1.Out) {p12:Int} {p13:Int} (_:(sepA [bk b2 [SL oa3 p1.L cap4,i6 p1.At,i6 p1.E,i6 p1.Pos,SL oa7 p1.Out cap8] 171,sla 51 9 oa7 p1.Out.length cap8 vs9]).ok (hp w0)) (_:∀ b,(sepA [bk b2 [SL oa3 p1.L cap4,i6 p1.At,i6 p1.E,i6 p1.Pos,SL oa7 p1.Out cap8] 171,sla 51 9 oa7 p1.Out.length cap8 vs9]).fp b→H b=none) {r:(Int×leadlineref04_P)} (_:Z2y N p1 p12 p13=some r),Tot Tryz.prog 169 #[PT b2,i6 p12,i6 p13] w0 (λv w'=>∃ (H':PH) (oa1m:Option Addr) (cap1m:Nat) (oa2m:Option Addr) (cap2m:Nat) (vs2m:List Value),v=i6 r.1∧r.2.L.length≤cap1m∧SR H' oa1m r.2.L∧Rows H' vs2m r.2.Out∧ExtM w0 (sepA [bk b2 [SL oa3 p1.L cap4,i6 p1.At,i6 p1.E,i6 p1.Pos,SL oa7 p1.Out cap8] 171,sla 51 9 oa7 p1.Out.length cap8 vs9]).fp H H'∧H'.le w'∧(∀ b,(sepA [bk b2 [SL oa1m r.2.L cap1m,i6 r.2.At,i6 r.2.E,i6 r.2.Pos,SL oa2m r.2.Out cap2m] 171,sla 51 9 oa2m r.2.Out.length cap2m vs2m]).fp b→H' b=none)∧Mut w0 (sepA [bk b2 [SL oa3 p1.L cap4,i6 p1.At,i6 p1.E,i6 p1.Pos,SL oa7 p1.Out cap8] 171,sla 51 9 oa7 p1.Out.length cap8 vs9]) (sepA [bk b2 [SL oa1m r.2.L cap1m,i6 r.2.At,i6 r.2.E,i6 r.2.Pos,SL oa2m r.2.Out cap2m] 171,sla 51 9 oa2m r.2.Out.length cap2m vs2m]) w'))∧(∀ {w0:World} {H:PH} (_:H.le w0) {b2:Nat} {p1:leadlineref04_P} {oa3:Option Addr} {cap4:Nat} (_:p1.L.length≤cap4) (_:SR H oa3 p1.L) {oa7:Option Addr} {cap8:Nat} {vs9:List Value} (_:Rows H vs9 p1.Out) {p12:Int} {p13:Int} (_:(sepA [bk b2 [SL oa3 p1.L cap4,i6 p1.At,i6 p1.E,i6 p1.Pos,SL oa7 p1.Out cap8] 171,sla 51 9 oa7 p1.Out.length cap8 vs9]).ok (hp w0)) (_:∀ b,(sepA [bk b2 [SL oa3 p1.L cap4,i6 p1.At,i6 p1.E,i6 p1.Pos,SL oa7 p1.Out cap8] 171,sla 51 9 oa7 p1.Out.length cap8 vs9]).fp b→H b=none) {r:leadlineref04_P} (_:Z39 N p1 p12 p13=some r),Tot Tryz.prog 160 #[PT b2,i6 p12,i6 p13] w0 (λv w'=>∃ (H':PH) (oa1m:Option Addr) (cap1m:Nat) (oa2m:Option Addr) (cap2m:Nat) (vs2m:List Value),v=.tuple #[]∧r.L.length≤cap1m∧SR H' oa1m r.L∧Rows H' vs2m r.Out∧ExtM w0 (sepA [bk b2 [SL oa3 p1.L cap4,i6 p1.At,i6 p1.E,i6 p1.Pos,SL oa7 p1.Out cap8] 171,sla 51 9 oa7 p1.Out.length cap8 vs9]).fp H H'∧H'.le w'∧(∀ b,(sepA [bk b2 [SL oa1m r.L cap1m,i6 r.At,i6 r.E,i6 r.Pos,SL oa2m r.Out cap2m] 171,sla 51 9 oa2m r.Out.length cap2m vs2m]).fp b→H' b=none)∧Mut w0 (sepA [bk b2 [SL oa3 p1.L cap4,i6 p1.At,i6 p1.E,i6 p1.Pos,SL oa7 p1.Out cap8] 171,sla 51 9 oa7 p1.Out.length cap8 vs9]) (sepA [bk b2 [SL oa1m r.L cap1m,i6 r.At,i6 r.E,i6 r.Pos,SL oa2m r.Out cap2m] 171,sla 51 9 oa2m r.Out.length cap2m vs2m]) w')):=by
 intro N
 induction N with
  | zero=>exact ⟨(by intros;rename_i hm;simp [Z2y] at hm),(by intros;rename_i hm;simp [Z39] at hm)⟩
  | succ N ih=>
 obtain ⟨ih_Z2y,ih_Z39⟩:=ih
 refine ⟨?_,?_⟩
 intro w0 H hH b2 p1 oa3 cap4 I2 J2 oa7 cap8 vs9 V2 p12 p13 hO hD r hm
 rw [Z2y] at hm
 refine fn0 func169 rfl ntmps169 rfl rfl λa o=>?_
 have u:=Cp hH hO hD
 refine th<|rg<|qa o rfl λo=>re<|tn<|th<|rg<|qm o rfl λo=>qv o (Aj o rfl) λo=>qv o (Af o El rfl) λo=>qv o (Ag o isAgg46 rfl (u.ld.cellB t0 rfl)) λo=>qv o (Ak (α:=api_Stmt) (xs:=p1.Out) o runUnderlying46 rfl) λo=>qa o rfl λo=>re<|tn<|th<|th<|Av (λa w=>∃ (Q0:Bool),(Z2z (Z39 N) N p1 p12 p13) Q0=some r∧Fr 60 [(0,PT b2),(1,i6 p12),(2,i6 p13),(7,i6 (p1.Out.length:Int)),(25,.bool Q0)] a∧St w0 (sepA [bk b2 [SL oa3 p1.L cap4,i6 p1.At,i6 p1.E,i6 p1.Pos,SL oa7 p1.Out cap8] 171,sla 51 9 oa7 p1.Out.length cap8 vs9]).fp [H] [sla 51 9 oa7 p1.Out.length cap8 vs9,bk b2 [SL oa3 p1.L cap4,i6 p1.At,i6 p1.E,i6 p1.Pos,SL oa7 p1.Out cap8] 171] w) ?_ ?_
 rcases bip hm with ⟨J4,hm⟩ | ⟨J4,hm⟩
 obtain ⟨W7,X7,hm⟩:=bs hm
 refine rdS 13 u wide λw u=>dr 0 u o rfl (Ab o rfl) λo=>dr 1 u o rfl (Bd o rfl rfl) λo=>dr 2 u o rfl (Ar (Ab o rfl) (congrArg Value.bool J4)) λo=>dg 3 u.ld o rfl (λw hl=>Ab o rfl) λo=>dg 4 u.ld o rfl (λw hl=>Aj o rfl) λo=>dg 5 u.ld o rfl (λw hl=>Af o Bv rfl) λo=>dg 6 u.ld o rfl (λw hl=>Ag o isAgg120 rfl (hl.cellB t0 rfl)) λo=>dg 7 u.ld o rfl (λw hl=>Ab o rfl) λo=>dg 8 u.ld o rfl (λw hl=>Aj o rfl) λo=>dg 9 u.ld o rfl (λw hl=>Af o Bg rfl) λo=>dg 10 u.ld o rfl (λw hl=>Ag o isAgg3 rfl (hl.cellB t0 rfl)) λo=>da1 (i:=11) (by kernel_rfl) ?_
 refine di (i:=11) rfl<|gy o rfl rfl<|cr o call139 (Ge (Ai _) I2 (St.srH u J2) X7) u λu o=>⟨λ_=>u.ld,?_⟩
 refine dr 12 u o rfl (Ad o rfl rfl) λo=>de (by kernel_rfl)<|tn<|?_
 replace u:=u.pk [1,0] rfl
 exact ⟨W7,hm,o.hs,u⟩
 refine rxS 13 u wide (by kernel_rfl) λw u=>xm u o rfl λo=>xr u o (Bd o rfl rfl) λo=>xr u o (Ar (Ab o rfl) (congrArg Value.bool J4)) λo=>?_
 iterate 9 refine xn u.ld o λo=>?_
 refine xr u o (Ae o rfl rfl) λo=>xe<|tn<|?_
 replace u:=u.pk [1,0] rfl
 exact ⟨false,hm,o.hs,u⟩
 rintro a w ⟨Q0,hm,o,u⟩
 unfold Z2z at hm
 refine Av (λa w=>∃ (J0:(List api_Token)) (B4:Int) (p0:Int) (Y0:Int) (u0:(List api_Stmt)) (C4:PH) (I0:Option Addr) (D0:Nat) (G1:Option Addr) (V0:Nat) (R1:List Value),(Z30 (Z39 N) N p1 p12 p13) J0 B4 p0 Y0 u0=some r∧ExtM w0 (sepA [bk b2 [SL oa3 p1.L cap4,i6 p1.At,i6 p1.E,i6 p1.Pos,SL oa7 p1.Out cap8] 171,sla 51 9 oa7 p1.Out.length cap8 vs9]).fp H C4∧Fr 60 [(0,PT b2),(1,i6 p12),(2,i6 p13),(7,i6 (p1.Out.length:Int))] a∧St w0 (sepA [bk b2 [SL oa3 p1.L cap4,i6 p1.At,i6 p1.E,i6 p1.Pos,SL oa7 p1.Out cap8] 171,sla 51 9 oa7 p1.Out.length cap8 vs9]).fp [C4] [sla 51 9 G1 u0.length V0 R1,bk b2 [SL I0 J0 D0,i6 B4,i6 p0,i6 Y0,SL G1 u0 V0] 171] w∧J0.length≤D0∧SR C4 I0 J0∧Rows C4 R1 u0) ?_ ?_
 rcases bit hm with ⟨K4,hm⟩ | ⟨K4,hm⟩
 refine ctv o rfl K4<|?_
 obtain ⟨D4,Y7,hm⟩:=bs hm
 refine rg<|qm o rfl λo=>?_
 replace u:=u.pk [1,0] rfl
 replace u:=St.sep [bk b2 [SL oa3 p1.L cap4,i6 p1.At,i6 p1.E,i6 p1.Pos,SL oa7 p1.Out cap8] 171,sla 51 9 oa7 p1.Out.length cap8 vs9] u
 refine ls<|c1 o rfl call167 (Mo (St.le u) (p1:=(leadlineref04_P.mk p1.L p1.At p1.E p1.Pos p1.Out)) (b2:=b2) (oa3:=oa3) (cap4:=cap4) (oa7:=oa7) (cap8:=cap8) (vs9:=vs9) I2 J2 V2 (St.sepOk u) (St.sepDis u) Y7) ⟨rfl,rfl,trivial⟩ (λv w a hR o=>?_)
 obtain ⟨H23,E6,G5,F6,I5,G6,rfl,I6,J6,K6,L3,L6,hd22,hk⟩:=hR
 obtain ⟨u,L3⟩:=And.intro (St.mutH u hk L3 L6 hd22) (St.extcMM u L3)
 replace u:=u.unsep
 refine re<|tn<|?_
 replace u:=u.pk [1,0] rfl
 exact ⟨D4.L,D4.At,D4.E,D4.Pos,D4.Out,H23,E6,G5,F6,I5,G6,hm,L3,o.hs,u,I6,J6,K6⟩
 refine cfv o rfl K4<|wk<|tn<|?_
 exact ⟨p1.L,p1.At,p1.E,p1.Pos,p1.Out,H,oa3,cap4,oa7,cap8,vs9,hm,(ExtM.refl _ _ _),o.hs,u,I2,J2,V2⟩
 rintro a w ⟨J0,B4,p0,Y0,u0,C4,I0,D0,G1,V0,R1,hm,J5,o,u,hcA6,hrA7,K5⟩
 unfold Z30 at hm
 refine th<|?_
 obtain ⟨E4,d7,hm⟩:=bs hm
 refine rg<|qm o rfl λo=>?_
 replace u:=u.pk [1,0] rfl
 replace u:=St.sep [bk b2 [SL I0 J0 D0,i6 B4,i6 p0,i6 Y0,SL G1 u0 V0] 171,sla 51 9 G1 u0.length V0 R1] u
 refine ls<|c1 o rfl call161 (H7 (St.le u) (p1:=(leadlineref04_P.mk J0 B4 p0 Y0 u0)) (b2:=b2) (oa3:=I0) (cap4:=D0) (oa7:=G1) (cap8:=V0) (vs9:=R1) hcA6 hrA7 K5 (St.sepOk u) (St.sepDis u) d7) ⟨rfl,rfl,trivial⟩ (λv w a hR o=>?_)
 obtain ⟨H38,M6,L5,O6,M5,P6,rfl,Q6,R6,S6,M3,T6,hd37,hk⟩:=hR
 obtain ⟨u,M3⟩:=And.intro (St.mutH u hk M3 T6 hd37) (St.extcMM u M3)
 replace u:=u.unsep
 refine re<|tn<|th<|Av (λa w=>∃ (S0:(List api_Token)) (W2:Int) (X2:Int) (Y2:Int) (K0:(List api_Stmt)) (A3:PH) (S1:Option Addr) (B1:Nat) (I1:Option Addr) (W0:Nat) (T1:List Value),(Z31 N p1) S0 W2 X2 Y2 K0=some r∧ExtM w0 (sepA [bk b2 [SL oa3 p1.L cap4,i6 p1.At,i6 p1.E,i6 p1.Pos,SL oa7 p1.Out cap8] 171,sla 51 9 oa7 p1.Out.length cap8 vs9]).fp H38 A3∧Fr 60 [(0,PT b2),(7,i6 (p1.Out.length:Int))] a∧St w0 (sepA [bk b2 [SL oa3 p1.L cap4,i6 p1.At,i6 p1.E,i6 p1.Pos,SL oa7 p1.Out cap8] 171,sla 51 9 oa7 p1.Out.length cap8 vs9]).fp [A3] [sla 51 9 I1 K0.length W0 T1,bk b2 [SL S1 S0 B1,i6 W2,i6 X2,i6 Y2,SL I1 K0 W0] 171] w∧S0.length≤B1∧SR A3 S1 S0∧Rows A3 T1 K0) ?_ ?_
 replace u:=u.pk [1,0] rfl
 refine wb<|lp (α:=Nat×(List api_Token)×Int×Int×Int×(List api_Stmt)) (λgh a w=>match gh with | (J3,R0,K2,M2,O2,T0)=>∃ (B3:PH) (O1:Option Addr) (j0:Nat) (U0:Option Addr) (M0:Nat) (n0:List Value),(Z33 (Z39 N) N (Z31 N p1) p12 p13) J3 R0 K2 M2 O2 T0=some r∧ExtM w0 (sepA [bk b2 [SL oa3 p1.L cap4,i6 p1.At,i6 p1.E,i6 p1.Pos,SL oa7 p1.Out cap8] 171,sla 51 9 oa7 p1.Out.length cap8 vs9]).fp H38 B3∧Fr 60 [(0,PT b2),(1,i6 p12),(2,i6 p13),(7,i6 (p1.Out.length:Int))] a∧St w0 (sepA [bk b2 [SL oa3 p1.L cap4,i6 p1.At,i6 p1.E,i6 p1.Pos,SL oa7 p1.Out cap8] 171,sla 51 9 oa7 p1.Out.length cap8 vs9]).fp [B3] [sla 51 9 U0 T0.length M0 n0,bk b2 [SL O1 R0 j0,i6 K2,i6 M2,i6 O2,SL U0 T0 M0] 171] w∧R0.length≤j0∧SR B3 O1 R0∧Rows B3 n0 T0) (λgh=>gh.1) (N,E4.L,E4.At,E4.E,E4.Pos,E4.Out) ⟨H38,M6,L5,O6,M5,P6,hm,(ExtM.refl _ _ _),o.hs,u,Q6,R6,S6⟩ ?_
 rintro ⟨J3,R0,K2,M2,O2,T0⟩ a w ⟨B3,O1,j0,U0,M0,n0,hm,W4,o,u,hcB5,hrB6,X4⟩
 obtain _ | J3:=J3
 simp [Z33] at hm
 rw [Z33] at hm
 refine th<|th<|Av (λa w=>∃ (P2:Bool),(Z32 (Z39 N) (Z31 N p1) ((Z33 (Z39 N) N (Z31 N p1) p12 p13) J3) p12 p13 R0 K2 M2 O2 T0) P2=some r∧Fr 60 [(0,PT b2),(1,i6 p12),(2,i6 p13),(7,i6 (p1.Out.length:Int)),(46,.bool P2)] a∧St w0 (sepA [bk b2 [SL oa3 p1.L cap4,i6 p1.At,i6 p1.E,i6 p1.Pos,SL oa7 p1.Out cap8] 171,sla 51 9 oa7 p1.Out.length cap8 vs9]).fp [B3] [sla 51 9 U0 T0.length M0 n0,bk b2 [SL O1 R0 j0,i6 K2,i6 M2,i6 O2,SL U0 T0 M0] 171] w) ?_ ?_
 rcases bip hm with ⟨L4,hm⟩ | ⟨L4,hm⟩
 obtain ⟨j7,k7,hm⟩:=bs hm
 refine rdS 17 u wide λw u=>dr 0 u o rfl (Ab o rfl) λo=>dr 1 u o rfl (Aj o rfl) λo=>dr 2 u o rfl (Af o Bu rfl) λo=>dq 3 u.ld o rfl (λw hl=>Ag o isAgg29 rfl (hl.cellB t1 rfl)) λo=>dr 4 u o rfl (An o rfl rfl) λo=>dr 5 u o rfl (Ar (Ab o rfl) (congrArg Value.bool L4)) λo=>dg 6 u.ld o rfl (λw hl=>Ab o rfl) λo=>dg 7 u.ld o rfl (λw hl=>Aj o rfl) λo=>dg 8 u.ld o rfl (λw hl=>Af o Bv rfl) λo=>dg 9 u.ld o rfl (λw hl=>Ag o isAgg120 rfl (hl.cellB t1 rfl)) λo=>dg 10 u.ld o rfl (λw hl=>Ab o rfl) λo=>dg 11 u.ld o rfl (λw hl=>Aj o rfl) λo=>dg 12 u.ld o rfl (λw hl=>Af o Bg rfl) λo=>dg 13 u.ld o rfl (λw hl=>Ag o isAgg3 rfl (hl.cellB t1 rfl)) λo=>da1 (i:=14) (by kernel_rfl) ?_
 refine di (i:=14) rfl<|gy o rfl rfl<|cr o call139 (Ge (Ai _) hcB5 (St.srH u hrB6) k7) u λu o=>⟨λ_=>u.ld,?_⟩
 refine dg 15 u.ld o rfl (λw hl=>Ba o rfl) λo=>dr 16 u o rfl (Ad o rfl rfl) λo=>de (by kernel_rfl)<|tn<|?_
 exact ⟨(!j7),hm,o.hs,u⟩
 refine rxS 17 u wide (by kernel_rfl) λw u=>xm u o rfl λo=>xr u o (Aj o rfl) λo=>xr u o (Af o Bu rfl) λo=>xq u.ld o (λw hl=>Ag o isAgg29 rfl (hl.cellB t1 rfl)) λo=>xr u o (An o rfl rfl) λo=>xr u o (Ar (Ab o rfl) (congrArg Value.bool L4)) λo=>?_
 iterate 10 refine xn u.ld o λo=>?_
 refine xr u o (Ae o rfl rfl) λo=>xe<|tn<|?_
 exact ⟨false,hm,o.hs,u⟩
 rintro a w ⟨P2,hm,o,u⟩
 unfold Z32 at hm
 rcases bit hm with ⟨M4,hm⟩ | ⟨M4,hm⟩
 refine ctv o rfl M4<|wk<|tn<|wb<|?_
 obtain ⟨F4,n7,hm⟩:=bs hm
 refine rg<|qm o rfl λo=>?_
 iterate 2 refine qm o rfl λo=>?_
 replace u:=u.pk [1,0] rfl
 replace u:=St.sep [bk b2 [SL O1 R0 j0,i6 K2,i6 M2,i6 O2,SL U0 T0 M0] 171,sla 51 9 U0 T0.length M0 n0] u
 refine ls<|c1 o rfl call160 (ih_Z39 (St.le u) (p1:=(leadlineref04_P.mk R0 K2 M2 O2 T0)) (b2:=b2) (oa3:=O1) (cap4:=j0) (oa7:=U0) (cap8:=M0) (vs9:=n0) hcB5 hrB6 X4 (St.sepOk u) (St.sepDis u) n7) ⟨rfl,rfl,rfl,trivial⟩ (λv w a hR o=>?_)
 obtain ⟨H57,U6,O5,V6,P5,W6,rfl,X6,Y6,P1,O3,d6,hd56,hk⟩:=hR
 obtain ⟨u,O3⟩:=And.intro (St.mutH u hk O3 d6 hd56) (St.extcMM u O3)
 replace u:=u.unsep
 refine re<|bn<|tn<|?_
 replace u:=u.pk [1,0] rfl
 exact ⟨(J3,F4.L,F4.At,F4.E,F4.Pos,F4.Out),⟨H57,U6,O5,V6,P5,W6,hm,(ExtM.trans W4 O3),o.hs,u,X6,Y6,P1⟩,Nat.lt_succ_self _⟩
 refine cfv o rfl M4<|we<|tx<|tx<|bx<|tn<|?_
 exact ⟨R0,K2,M2,O2,T0,B3,O1,j0,U0,M0,n0,hm,W4,o.has ⟨rfl,rfl,trivial⟩,u,hcB5,hrB6,X4⟩
 rintro a w ⟨S0,W2,X2,Y2,K0,A3,S1,B1,I1,W0,T1,hm,j4,o,u,hcA21,hrA22,Q5⟩
 unfold Z31 at hm
 refine th<|?_
 obtain ⟨u7,v7,hm⟩:=bs hm
 refine rg<|qm o rfl λo=>?_
 replace u:=u.pk [1,0] rfl
 replace u:=St.sep [bk b2 [SL S1 S0 B1,i6 W2,i6 X2,i6 Y2,SL I1 K0 W0] 171,sla 51 9 I1 K0.length W0 T1] u
 refine ls<|c1 o rfl call161 (H7 (St.le u) (p1:=(leadlineref04_P.mk S0 W2 X2 Y2 K0)) (b2:=b2) (oa3:=S1) (cap4:=B1) (oa7:=I1) (cap8:=W0) (vs9:=T1) hcA21 hrA22 Q5 (St.sepOk u) (St.sepDis u) v7) ⟨rfl,rfl,trivial⟩ (λv w a hR o=>?_)
 obtain ⟨H72,j6,R5,k6,S5,n6,rfl,u6,v6,y6,P3,z6,hd71,hk⟩:=hR
 obtain ⟨u,P3⟩:=And.intro (St.mutH u hk P3 z6 hd71) (St.extcMM u P3)
 replace u:=u.unsep
 refine re<|tn<|th<|rg<|qm o rfl λo=>qv o (Aj o rfl) λo=>qv o (Af o El rfl) λo=>qv o (Ag o isAgg46 rfl (u.ld.cellB t0 rfl)) λo=>qv o (Ak (α:=api_Stmt) (xs:=u7.Out) o runUnderlying46 rfl) λo=>qm o rfl λo=>qv o (Gs o rfl rfl) λo=>qa o rfl λo=>re<|tn<|wr<|?_
 obtain rfl:=si hm
 exact r1 o results169 rfl ⟨H72,j6,R5,k6,S5,n6,rfl,u6,v6,y6,(ExtM.trans J5 (ExtM.trans M3 (ExtM.trans j4 P3))),(St.le u),(St.disL (u.pickL (.cons .head (.cons .head .nil)))),(u.pickL (.cons .head (.cons .head .nil))).endMut⟩
 intro w0 H hH b2 p1 oa3 cap4 I2 J2 oa7 cap8 vs9 V2 p12 p13 hO hD r hm
 rw [Z39] at hm
 refine fn0 func160 rfl ntmps160 rfl rfl λa o=>?_
 have u:=Cp hH hO hD
 refine th<|?_
 obtain ⟨U1,z7,hm⟩:=bs hm
 refine rdS 11 u wide λw u=>dr 0 u o rfl (Ab o rfl) λo=>dr 1 u o rfl (Aj o rfl) λo=>dr 2 u o rfl (Af o Bv rfl) λo=>dq 3 u.ld o rfl (λw hl=>Ag o isAgg120 rfl (hl.cellB t0 rfl)) λo=>dr 4 u o rfl (Ab o rfl) λo=>dr 5 u o rfl (Aj o rfl) λo=>dr 6 u o rfl (Af o Bg rfl) λo=>dq 7 u.ld o rfl (λw hl=>Ag o isAgg3 rfl (hl.cellB t0 rfl)) λo=>da1 (i:=8) (by kernel_rfl) ?_
 refine di (i:=8) rfl<|cr o call143 (Gr (Ai _) I2 (St.srH u J2) z7) u λu o=>⟨λ_=>u.ld,?_⟩
 refine dr 9 u o rfl (Bq o rfl) λo=>dr 10 u o rfl (Bq o rfl) λo=>de (by kernel_rfl)<|tn<|th<|th<|rg<|qa o rfl λo=>re<|tn<|Av (λa w=>∃ (Q0:Int),(Z3a (Z2y N) N p1 p12 p13 U1) Q0=some r∧Fr 134 [(0,PT b2),(1,i6 p12),(2,i6 p13),(6,i6 Q0),(7,i6 U1)] a∧St w0 (sepA [bk b2 [SL oa3 p1.L cap4,i6 p1.At,i6 p1.E,i6 p1.Pos,SL oa7 p1.Out cap8] 171,sla 51 9 oa7 p1.Out.length cap8 vs9]).fp [H] [sla 51 9 oa7 p1.Out.length cap8 vs9,bk b2 [SL oa3 p1.L cap4,i6 p1.At,i6 p1.E,i6 p1.Pos,SL oa7 p1.Out cap8] 171] w) ?_ ?_
 replace u:=u.pk [1,0] rfl
 refine wb<|lp (α:=Nat×Int×Int) (λgh a w=>match gh with | (K3,G4,R0)=>(Z3h N (Z3a (Z2y N) N p1 p12 p13 U1) p1) K3 G4 R0=some r∧Fr 134 [(0,PT b2),(1,i6 p12),(2,i6 p13),(6,i6 G4),(7,i6 U1),(8,i6 R0)] a∧St w0 (sepA [bk b2 [SL oa3 p1.L cap4,i6 p1.At,i6 p1.E,i6 p1.Pos,SL oa7 p1.Out cap8] 171,sla 51 9 oa7 p1.Out.length cap8 vs9]).fp [H] [sla 51 9 oa7 p1.Out.length cap8 vs9,bk b2 [SL oa3 p1.L cap4,i6 p1.At,i6 p1.E,i6 p1.Pos,SL oa7 p1.Out cap8] 171] w) (λgh=>gh.1) (N,1,2) ⟨hm,o.hs,u⟩ ?_
 rintro ⟨K3,G4,R0⟩ a w ⟨hm,o,u⟩
 obtain _ | K3:=K3
 simp [Z3h] at hm
 rw [Z3h] at hm
 refine th<|th<|rg<|qm o rfl λo=>qv o (Dc o rfl rfl) λo=>re<|?_
 rcases bip hm with ⟨O4,hm⟩ | ⟨O4,hm⟩
 refine tn<|ctv o rfl O4<|wk<|tn<|th<|Av (λa w=>∃ (P2:Int),(Z3b (Z3h N (Z3a (Z2y N) N p1 p12 p13 U1) p1 K3) R0) P2=some r∧Fr 134 [(0,PT b2),(1,i6 p12),(2,i6 p13),(6,i6 P2),(7,i6 U1),(8,i6 R0)] a∧St w0 (sepA [bk b2 [SL oa3 p1.L cap4,i6 p1.At,i6 p1.E,i6 p1.Pos,SL oa7 p1.Out cap8] 171,sla 51 9 oa7 p1.Out.length cap8 vs9]).fp [H] [sla 51 9 oa7 p1.Out.length cap8 vs9,bk b2 [SL oa3 p1.L cap4,i6 p1.At,i6 p1.E,i6 p1.Pos,SL oa7 p1.Out cap8] 171] w) ?_ ?_
 refine wb<|th<|?_
 obtain ⟨M8,A8,hm⟩:=bs hm
 obtain ⟨O8,B8,hm⟩:=bs hm
 refine rdS 11 u wide λw u=>dr 0 u o rfl (Ab o rfl) λo=>dr 1 u o rfl (Aj o rfl) λo=>dr 2 u o rfl (Af o Bv rfl) λo=>dq 3 u.ld o rfl (λw hl=>Ag o isAgg120 rfl (hl.cellB t1 rfl)) λo=>dr 4 u o rfl (Ab o rfl) λo=>dr 5 u o rfl (Aj o rfl) λo=>dr 6 u o rfl (Af o Bg rfl) λo=>dq 7 u.ld o rfl (λw hl=>Ag o isAgg3 rfl (hl.cellB t1 rfl)) λo=>dr 8 u o rfl (Ab o rfl) λo=>da1 (i:=9) (by kernel_rfl) ?_
 refine di (i:=9) rfl<|cr o call166 (JbE (Ai _) A8) u λu o=>⟨λ_=>u.ld,?_⟩
 refine da1 (i:=10) (by kernel_rfl) ?_
 refine di (i:=10) rfl<|cr o call139 (Ge (Ai _) I2 (St.srH u J2) B8) u λu o=>⟨λ_=>u.ld,?_⟩
 refine de (by kernel_rfl)<|?_
 rcases bit hm with ⟨P4,hm⟩ | ⟨P4,hm⟩
 refine tn<|ctv o rfl P4<|rg<|qm o rfl λo=>qa o rfl λo=>re<|bn<|tn<|?_
 exact ⟨R0,hm,o.hs,u⟩
 refine tn<|cfv o rfl P4<|wk<|bn<|tn<|?_
 exact ⟨G4,hm,o.hs,u⟩
 rintro a w ⟨P2,hm,o,u⟩
 unfold Z3b at hm
 refine rg<|qm o rfl λo=>qv o (Ap o rfl rfl) λo=>qa o rfl λo=>re<|tn<|?_
 exact ⟨(K3,P2,(IntKind.i64.wrap (R0+1))),⟨hm,o.hs,u⟩,Nat.lt_succ_self _⟩
 refine tn<|cfv o rfl O4<|we<|tx<|tx<|bx<|tn<|?_
 exact ⟨G4,hm,o.hs,u⟩
 rintro a w ⟨Q0,hm,o,u⟩
 unfold Z3a at hm
 refine th<|th<|rg<|qm o rfl λo=>qv o (An o rfl rfl) λo=>qm o rfl λo=>gr (Fk:=[(0,PT b2),(1,i6 p12),(2,i6 p13),(6,i6 Q0),(7,i6 U1),(42,.bool ((decide (Q0=13)) && (decide (p13=0))))]) 39 3 o u ?_ ?_ ?_
 intro hb o key
 exact qg o (Ab o rfl) λo=>qg o (An o rfl rfl) λo=>qk o (Ad o rfl rfl) key u hb
 intro hb o key
 iterate 2 refine qn o λo=>?_
 exact qk o (Ae o rfl rfl) key u hb
 intro a w o u
 refine re<|?_
 rcases bit hm with ⟨Q4,hm⟩ | ⟨Q4,hm⟩
 refine tn<|ctv o rfl Q4<|th<|?_
 obtain ⟨P8,C8,hm⟩:=bs hm
 refine rg<|qm o rfl λo=>?_
 replace u:=u.pk [1,0] rfl
 replace u:=St.sep [bk b2 [SL oa3 p1.L cap4,i6 p1.At,i6 p1.E,i6 p1.Pos,SL oa7 p1.Out cap8] 171,sla 51 9 oa7 p1.Out.length cap8 vs9] u
 refine ls<|c1 o rfl call167 (Mo (St.le u) (p1:=(leadlineref04_P.mk p1.L p1.At p1.E p1.Pos p1.Out)) (b2:=b2) (oa3:=oa3) (cap4:=cap4) (oa7:=oa7) (cap8:=cap8) (vs9:=vs9) I2 J2 V2 (St.sepOk u) (St.sepDis u) C8) ⟨rfl,rfl,trivial⟩ (λv w a hR o=>?_)
 obtain ⟨H28,A7,T5,B7,U5,C7,rfl,D7,E7,F7,Q3,G7,hd27,hk⟩:=hR
 obtain ⟨u,Q3⟩:=And.intro (St.mutH u hk Q3 G7 hd27) (St.extcMM u Q3)
 replace u:=u.unsep
 refine re<|tn<|wr<|tr<|?_
 obtain rfl:=si hm
 exact r0 o results160 ⟨H28,A7,T5,B7,U5,C7,rfl,D7,E7,F7,Q3,(St.le u),(St.disL (u.pickL (.cons .head (.cons .head .nil)))),(u.pickL (.cons .head (.cons .head .nil))).endMut⟩
 refine tn<|cfv o rfl Q4<|wk<|tn<|th<|th<|rg<|qm o rfl λo=>qv o (Bt o rfl rfl) λo=>re<|tn<|Av (λa w=>∃ (I4:Int),(Z3c (Z2y N) N p1 p12 p13 U1 Q0) I4=some r∧Fr 134 [(0,PT b2),(1,i6 p12),(2,i6 p13),(6,i6 Q0),(7,i6 U1)] a∧St w0 (sepA [bk b2 [SL oa3 p1.L cap4,i6 p1.At,i6 p1.E,i6 p1.Pos,SL oa7 p1.Out cap8] 171,sla 51 9 oa7 p1.Out.length cap8 vs9]).fp [H] [sla 51 9 oa7 p1.Out.length cap8 vs9,bk b2 [SL oa3 p1.L cap4,i6 I4,i6 p1.E,i6 p1.Pos,SL oa7 p1.Out cap8] 171] w) ?_ ?_
 rcases bip hm with ⟨R4,hm⟩ | ⟨R4,hm⟩
 refine ctv o rfl R4<|rg<|qm o rfl λo=>qm o rfl λo=>qv o (Aj o rfl) λo=>qv o (Af o Bg rfl) λo=>qv o (Ag o isAgg3 rfl (u.ld.cellB t1 rfl)) λo=>qv o (Ap o rfl rfl) λo=>qv o (Aj o rfl) λo=>qv o (Af o Bg rfl) λo=>ls<|Ax o u sizeOf3 rfl rfl rfl rfl (.tail .head) (.succ .zero) λw u=>re<|tn<|?_
 exact ⟨(IntKind.i64.wrap (p1.At+1)),hm,o.hs,u⟩
 refine cfv o rfl R4<|wk<|tn<|?_
 exact ⟨p1.At,hm,o.hs,u⟩
 rintro a w ⟨I4,hm,o,u⟩
 unfold Z3c at hm
 refine th<|?_
 obtain ⟨C0,D8,hm⟩:=bs hm
 refine rg<|qm o rfl λo=>?_
 iterate 2 refine qm o rfl λo=>?_
 replace u:=u.pk [1,0] rfl
 replace u:=St.sep [bk b2 [SL oa3 p1.L cap4,i6 I4,i6 p1.E,i6 p1.Pos,SL oa7 p1.Out cap8] 171,sla 51 9 oa7 p1.Out.length cap8 vs9] u
 refine ls<|c1 o rfl call168 (Jbw (St.le u) (p1:=(leadlineref04_P.mk p1.L I4 p1.E p1.Pos p1.Out)) (b2:=b2) (oa3:=oa3) (cap4:=cap4) (oa7:=oa7) (cap8:=cap8) (vs9:=vs9) I2 J2 V2 (St.sepOk u) (St.sepDis u) D8) ⟨rfl,rfl,rfl,trivial⟩ (λv w a hR o=>?_)
 obtain ⟨H44,cs45,C2,J1,J8,I8,K8,rfl,E8,k4,l4,S4,C3,I7,hd43,hk⟩:=hR
 obtain ⟨u,C3⟩:=And.intro (St.mutH u hk C3 I7 hd43) (St.extcMM u C3)
 replace u:=u.unsep
 obtain ⟨O0,F0,P0,G0,rfl,R3,S3,T3,U3⟩:=Bm E8
 refine ls<|Au (cs:=[i6 0,Ac [],Ac [],.slice none 0 0,.slice none 0 0,i6 0,i6 0,i6 0,i6 0].toArray) o rfl u zeroValue51 rfl λV1 w a u o=>ls<|Az o u sizeOf51 rfl rfl rfl rfl (Al rfl) .head λw u=>re<|tn<|th<|rg<|qm o rfl λo=>qv o (Aj o rfl) λo=>qv o (Af o El rfl) λo=>qv o (Ag o isAgg46 rfl (u.ld.cellB t1 rfl)) λo=>qv o (Ak (α:=api_Stmt) (xs:=C0.2.Out) o runUnderlying46 rfl) λo=>qa o rfl λo=>re<|tn<|th<|Av (λa w=>∃ (J0:(List api_Stmt)) (I0:Option Addr) (D0:Nat) (C1:List Value),(Z3d (Z2y N) N p12 p13 Q0 C0) J0=some r∧Fr 134 [(0,PT b2),(1,i6 p12),(2,i6 p13),(6,i6 Q0),(9,PT V1),(10,i6 (C0.2.Out.length:Int))] a∧St w0 (sepA [bk b2 [SL oa3 p1.L cap4,i6 p1.At,i6 p1.E,i6 p1.Pos,SL oa7 p1.Out cap8] 171,sla 51 9 oa7 p1.Out.length cap8 vs9]).fp [H44] [sla 51 9 I0 J0.length D0 C1,bk b2 [SL C2 C0.2.L J1,i6 C0.2.At,i6 C0.2.E,i6 C0.2.Pos,SL I0 J0 D0] 171,bk V1 [i6 C0.1.Kind,Ac C0.1.Reg,Ac C0.1.Name,SL O0 C0.1.E F0,SL P0 C0.1.F G0,i6 C0.1.N,i6 C0.1.Body,i6 C0.1.Else,i6 C0.1.At] 51] w∧Rows H44 C1 J0) ?_ ?_
 obtain ⟨u4,A5,hm⟩:=bs hm
 refine rdL (Aa t0 Ah) 11 u wide λw u=>ds 0 (St.ldsX u i2 (Aa t0 Ah)) o rfl (Ab o rfl) λo=>ds 1 (St.ldsX u i2 (Aa t0 Ah)) o rfl (Ab o rfl) λo=>ds 2 (St.ldsX u i2 (Aa t0 Ah)) o rfl (Aj o rfl) λo=>ds 3 (St.ldsX u i2 (Aa t0 Ah)) o rfl (Af o El rfl) λo=>da2 (i:=4) (j:=5) (by kernel_rfl) ?_ ?_
 refine di (i:=4) rfl<|q1 o rfl (Ag o isAgg46 rfl (u.ld.cellB t1 rfl)) λa o=>⟨λ_=>(St.ldsX u i2 (Aa t0 Ah)),?_⟩
 refine dq 5 (St.ldsX u i2 (Aa t0 Ah)) o rfl (λw hl=>Ay o isAgg51 sizeOf51 rfl rfl (hl.cellsB t0)) λo=>da1 (i:=6) (by kernel_rfl) ?_
 refine di (i:=6) rfl<|Bh (e:=51) (sz:=9) [i6 C0.1.Kind,Ac C0.1.Reg,Ac C0.1.Name,SL O0 C0.1.E F0,SL P0 C0.1.F G0,i6 C0.1.N,i6 C0.1.Body,i6 C0.1.Else,i6 C0.1.At] o rfl u rfl rfl rfl (λw=>by kernel_rfl) λD6 w a u o=>?_
 have P1:Rows (α:=api_Stmt) H44 [i6 C0.1.Kind,Ac C0.1.Reg,Ac C0.1.Name,SL O0 C0.1.E F0,SL P0 C0.1.F G0,i6 C0.1.N,i6 C0.1.Body,i6 C0.1.Else,i6 C0.1.At] ([C0.1]:List api_Stmt):=(.cons (c:=[i6 C0.1.Kind,Ac C0.1.Reg,Ac C0.1.Name,SL O0 C0.1.E F0,SL P0 C0.1.F G0,i6 C0.1.N,i6 C0.1.Body,i6 C0.1.Else,i6 C0.1.At]) ⟨_,_,rfl,rfl,⟨_,_,rfl,rfl,⟨_,_,rfl,rfl,⟨_,_,rfl,⟨_,_,rfl,R3,S3⟩,⟨_,_,rfl,⟨_,_,rfl,T3,U3⟩,⟨_,_,rfl,rfl,⟨_,_,rfl,rfl,⟨_,_,rfl,rfl,rfl⟩⟩⟩⟩⟩⟩⟩⟩ .nil)
 refine ⟨λ_=>(St.ldsX u i2 (Aa t1 Ah)),?_⟩
 refine da1 (i:=7) (by kernel_rfl) ?_
 refine di (i:=7) rfl<|Bw (α:=api_Stmt) (xs:=C0.2.Out) (ys:=([C0.1]:List api_Stmt)) o rfl u underlying46 Nx rfl (by decide) rfl rfl rfl t3 S4 (u.rdO t0) P1 A5 λD3 X1 E3 w a F3 hU o=>?_
 replace u:=hU _ (.tail (.tail (.tail .head)))
 replace u:=u.drop .head
 refine ⟨λ_=>(St.ldsX u i2 (Aa t0 Ah)),?_⟩
 refine ds 8 (St.ldsX u i2 (Aa t0 Ah)) o rfl (Aj o rfl) λo=>ds 9 (St.ldsX u i2 (Aa t0 Ah)) o rfl (Af o El rfl) λo=>da1 (i:=10) (by kernel_rfl) ?_
 refine di (i:=10) rfl<|Ax o u sizeOf46 rfl rfl rfl rfl (.tail .head) (.succ (.succ (.succ (.succ .zero)))) λw u=>⟨λ_=>(St.ldsX u i2 (Aa t0 Ah)),?_⟩
 refine de (by kernel_rfl)<|tn<|?_
 replace u:=u.pk [2,1,0] rfl
 exact ⟨u4,D3,X1,E3,hm,o.hs,u,F3⟩
 refine di (i:=5) rfl<|q1 o rfl (Ay o isAgg51 sizeOf51 rfl rfl (u.ld.cellsB t0)) λa o=>⟨λ_=>(St.ldsX u i2 (Aa t0 Ah)),?_⟩
 refine da2 (i:=4) (j:=6) (by kernel_rfl) ?_ ?_
 refine di (i:=4) rfl<|q1 o rfl (Ag o isAgg46 rfl (u.ld.cellB t1 rfl)) λa o=>⟨λ_=>(St.ldsX u i2 (Aa t0 Ah)),?_⟩
 refine da1 (i:=6) (by kernel_rfl) ?_
 refine di (i:=6) rfl<|Bh (e:=51) (sz:=9) [i6 C0.1.Kind,Ac C0.1.Reg,Ac C0.1.Name,SL O0 C0.1.E F0,SL P0 C0.1.F G0,i6 C0.1.N,i6 C0.1.Body,i6 C0.1.Else,i6 C0.1.At] o rfl u rfl rfl rfl (λw=>by kernel_rfl) λD6 w a u o=>?_
 have P1:Rows (α:=api_Stmt) H44 [i6 C0.1.Kind,Ac C0.1.Reg,Ac C0.1.Name,SL O0 C0.1.E F0,SL P0 C0.1.F G0,i6 C0.1.N,i6 C0.1.Body,i6 C0.1.Else,i6 C0.1.At] ([C0.1]:List api_Stmt):=(.cons (c:=[i6 C0.1.Kind,Ac C0.1.Reg,Ac C0.1.Name,SL O0 C0.1.E F0,SL P0 C0.1.F G0,i6 C0.1.N,i6 C0.1.Body,i6 C0.1.Else,i6 C0.1.At]) ⟨_,_,rfl,rfl,⟨_,_,rfl,rfl,⟨_,_,rfl,rfl,⟨_,_,rfl,⟨_,_,rfl,R3,S3⟩,⟨_,_,rfl,⟨_,_,rfl,T3,U3⟩,⟨_,_,rfl,rfl,⟨_,_,rfl,rfl,⟨_,_,rfl,rfl,rfl⟩⟩⟩⟩⟩⟩⟩⟩ .nil)
 refine ⟨λ_=>(St.ldsX u i2 (Aa t1 Ah)),?_⟩
 refine da1 (i:=7) (by kernel_rfl) ?_
 refine di (i:=7) rfl<|Bw (α:=api_Stmt) (xs:=C0.2.Out) (ys:=([C0.1]:List api_Stmt)) o rfl u underlying46 Nx rfl (by decide) rfl rfl rfl t3 S4 (u.rdO t0) P1 A5 λD3 X1 E3 w a F3 hU o=>?_
 replace u:=hU _ (.tail (.tail (.tail .head)))
 replace u:=u.drop .head
 refine ⟨λ_=>(St.ldsX u i2 (Aa t0 Ah)),?_⟩
 refine ds 8 (St.ldsX u i2 (Aa t0 Ah)) o rfl (Aj o rfl) λo=>ds 9 (St.ldsX u i2 (Aa t0 Ah)) o rfl (Af o El rfl) λo=>da1 (i:=10) (by kernel_rfl) ?_
 refine di (i:=10) rfl<|Ax o u sizeOf46 rfl rfl rfl rfl (.tail .head) (.succ (.succ (.succ (.succ .zero)))) λw u=>⟨λ_=>(St.ldsX u i2 (Aa t0 Ah)),?_⟩
 refine de (by kernel_rfl)<|tn<|?_
 replace u:=u.pk [2,1,0] rfl
 exact ⟨u4,D3,X1,E3,hm,o.hs,u,F3⟩
 refine di (i:=6) rfl<|Bh (e:=51) (sz:=9) [i6 C0.1.Kind,Ac C0.1.Reg,Ac C0.1.Name,SL O0 C0.1.E F0,SL P0 C0.1.F G0,i6 C0.1.N,i6 C0.1.Body,i6 C0.1.Else,i6 C0.1.At] o rfl u rfl rfl rfl (λw=>by kernel_rfl) λD6 w a u o=>?_
 have P1:Rows (α:=api_Stmt) H44 [i6 C0.1.Kind,Ac C0.1.Reg,Ac C0.1.Name,SL O0 C0.1.E F0,SL P0 C0.1.F G0,i6 C0.1.N,i6 C0.1.Body,i6 C0.1.Else,i6 C0.1.At] ([C0.1]:List api_Stmt):=(.cons (c:=[i6 C0.1.Kind,Ac C0.1.Reg,Ac C0.1.Name,SL O0 C0.1.E F0,SL P0 C0.1.F G0,i6 C0.1.N,i6 C0.1.Body,i6 C0.1.Else,i6 C0.1.At]) ⟨_,_,rfl,rfl,⟨_,_,rfl,rfl,⟨_,_,rfl,rfl,⟨_,_,rfl,⟨_,_,rfl,R3,S3⟩,⟨_,_,rfl,⟨_,_,rfl,T3,U3⟩,⟨_,_,rfl,rfl,⟨_,_,rfl,rfl,⟨_,_,rfl,rfl,rfl⟩⟩⟩⟩⟩⟩⟩⟩ .nil)
 refine ⟨λ_=>(St.ldsX u i2 (Aa t1 Ah)),?_⟩
 refine da1 (i:=4) (by kernel_rfl) ?_
 refine di (i:=4) rfl<|q1 o rfl (Ag o isAgg46 rfl (u.ld.cellB t2 rfl)) λa o=>⟨λ_=>(St.ldsX u i2 (Aa t1 Ah)),?_⟩
 refine da1 (i:=7) (by kernel_rfl) ?_
 refine di (i:=7) rfl<|Bw (α:=api_Stmt) (xs:=C0.2.Out) (ys:=([C0.1]:List api_Stmt)) o rfl u underlying46 Nx rfl (by decide) rfl rfl rfl t3 S4 (u.rdO t0) P1 A5 λD3 X1 E3 w a F3 hU o=>?_
 replace u:=hU _ (.tail (.tail (.tail .head)))
 replace u:=u.drop .head
 refine ⟨λ_=>(St.ldsX u i2 (Aa t0 Ah)),?_⟩
 refine ds 8 (St.ldsX u i2 (Aa t0 Ah)) o rfl (Aj o rfl) λo=>ds 9 (St.ldsX u i2 (Aa t0 Ah)) o rfl (Af o El rfl) λo=>da1 (i:=10) (by kernel_rfl) ?_
 refine di (i:=10) rfl<|Ax o u sizeOf46 rfl rfl rfl rfl (.tail .head) (.succ (.succ (.succ (.succ .zero)))) λw u=>⟨λ_=>(St.ldsX u i2 (Aa t0 Ah)),?_⟩
 refine de (by kernel_rfl)<|tn<|?_
 replace u:=u.pk [2,1,0] rfl
 exact ⟨u4,D3,X1,E3,hm,o.hs,u,F3⟩
 rintro a w ⟨J0,I0,D0,C1,hm,o,u,B5⟩
 unfold Z3d at hm
 refine th<|th<|rg<|qm o rfl λo=>qv o (Bt o rfl rfl) λo=>qm o rfl λo=>gr (Fk:=[(0,PT b2),(1,i6 p12),(2,i6 p13),(6,i6 Q0),(9,PT V1),(10,i6 (C0.2.Out.length:Int)),(79,.bool ((decide (Q0≠11)) && (decide (Q0≠12))))]) 76 3 o u ?_ ?_ ?_
 intro hb o key
 exact qg o (Ab o rfl) λo=>qg o (Bt o rfl rfl) λo=>qk o (Ad o rfl rfl) key u hb
 intro hb o key
 iterate 2 refine qn o λo=>?_
 exact qk o (Ae o rfl rfl) key u hb
 intro a w o u
 refine re<|?_
 rcases bit hm with ⟨T4,hm⟩ | ⟨T4,hm⟩
 refine tn<|ctv o rfl T4<|th<|?_
 obtain ⟨Q8,F8,hm⟩:=bs hm
 refine rg<|qm o rfl λo=>?_
 replace u:=u.pk [1,0,0] rfl
 replace u:=St.sep [bk b2 [SL C2 C0.2.L J1,i6 C0.2.At,i6 C0.2.E,i6 C0.2.Pos,SL I0 J0 D0] 171,sla 51 9 I0 J0.length D0 C1] u
 refine ls<|c1 o rfl call161 (H7 (St.le u) (p1:=(leadlineref04_P.mk C0.2.L C0.2.At C0.2.E C0.2.Pos J0)) (b2:=b2) (oa3:=C2) (cap4:=J1) (oa7:=I0) (cap8:=D0) (vs9:=C1) k4 l4 B5 (St.sepOk u) (St.sepDis u) F8) ⟨rfl,rfl,trivial⟩ (λv w a hR o=>?_)
 obtain ⟨H80,J7,V5,K7,W5,L7,rfl,M7,O7,P7,V3,Q7,hd79,hk⟩:=hR
 obtain ⟨u,V3⟩:=And.intro (St.mutH u hk V3 Q7 hd79) (St.extcMM u V3)
 replace u:=u.unsep
 refine re<|tn<|wr<|tr<|?_
 obtain rfl:=si hm
 exact r0 o results160 ⟨H80,J7,V5,K7,W5,L7,rfl,M7,O7,P7,(ExtM.trans C3 V3),(St.le u),(St.disL (u.pickL (.cons .head (.cons .head .nil)))),(u.pickL (.cons .head (.cons .head .nil))).endMut⟩
 refine tn<|cfv o rfl T4<|wk<|tn<|th<|rg<|qm o rfl λo=>qa o rfl λo=>re<|tn<|th<|th<|rg<|qm o rfl λo=>qv o (An o rfl rfl) λo=>re<|tn<|Av (λa w=>∃ (p0:Int),(Z3e (Z2y N) N p12 Q0 C0 J0) p0=some r∧Fr 134 [(0,PT b2),(1,i6 p12),(6,i6 Q0),(9,PT V1),(10,i6 (C0.2.Out.length:Int)),(11,i6 p0)] a∧St w0 (sepA [bk b2 [SL oa3 p1.L cap4,i6 p1.At,i6 p1.E,i6 p1.Pos,SL oa7 p1.Out cap8] 171,sla 51 9 oa7 p1.Out.length cap8 vs9]).fp [H44] [sla 51 9 I0 J0.length D0 C1,bk b2 [SL C2 C0.2.L J1,i6 C0.2.At,i6 C0.2.E,i6 C0.2.Pos,SL I0 J0 D0] 171,bk V1 [i6 C0.1.Kind,Ac C0.1.Reg,Ac C0.1.Name,SL O0 C0.1.E F0,SL P0 C0.1.F G0,i6 C0.1.N,i6 C0.1.Body,i6 C0.1.Else,i6 C0.1.At] 51] w) ?_ ?_
 rcases bip hm with ⟨U4,hm⟩ | ⟨U4,hm⟩
 refine ctv o rfl U4<|rg<|qm o rfl λo=>qv o (Ap o rfl rfl) λo=>qa o rfl λo=>re<|tn<|?_
 exact ⟨(IntKind.i64.wrap (p13+1)),hm,o.hs,u⟩
 refine cfv o rfl U4<|wk<|tn<|?_
 exact ⟨p13,hm,o.hs,u⟩
 rintro a w ⟨p0,hm,o,u⟩
 unfold Z3e at hm
 refine th<|?_
 obtain ⟨E0,G8,hm⟩:=bs hm
 refine rg<|qm o rfl λo=>qm o rfl λo=>qv o (Ap o rfl rfl) λo=>qm o rfl λo=>?_
 replace u:=u.pk [1,0,0] rfl
 replace u:=St.sep [bk b2 [SL C2 C0.2.L J1,i6 C0.2.At,i6 C0.2.E,i6 C0.2.Pos,SL I0 J0 D0] 171,sla 51 9 I0 J0.length D0 C1] u
 refine ls<|c1 o rfl call169 (ih_Z2y (St.le u) (p1:=(leadlineref04_P.mk C0.2.L C0.2.At C0.2.E C0.2.Pos J0)) (b2:=b2) (oa3:=C2) (cap4:=J1) (oa7:=I0) (cap8:=D0) (vs9:=C1) k4 l4 B5 (St.sepOk u) (St.sepDis u) G8) ⟨rfl,rfl,rfl,trivial⟩ (λv w a hR o=>?_)
 obtain ⟨H96,W3,Q2,M1,X0,R2,rfl,V4,X3,Y4,E2,R7,hd95,hk⟩:=hR
 obtain ⟨u,E2⟩:=And.intro (St.mutH u hk E2 R7 hd95) (St.extcMM u E2)
 replace u:=u.unsep
 refine qv o (Af o Dx rfl) λo=>ls<|Ax o u sizeOf3 rfl rfl rfl rfl (.tail (.tail .head)) (.succ (.succ (.succ (.succ (.succ (.succ .zero)))))) λw u=>re<|tn<|th<|th<|Av (λa w=>∃ (Y0:Bool),(Z3f (Z2y N) N p12 C0 p0 E0) Y0=some r∧Fr 134 [(0,PT b2),(1,i6 p12),(9,PT V1),(10,i6 (C0.2.Out.length:Int)),(11,i6 p0),(112,.bool Y0)] a∧St w0 (sepA [bk b2 [SL oa3 p1.L cap4,i6 p1.At,i6 p1.E,i6 p1.Pos,SL oa7 p1.Out cap8] 171,sla 51 9 oa7 p1.Out.length cap8 vs9]).fp [H96] [sla 51 9 M1 E0.2.Out.length X0 R2,bk b2 [SL W3 E0.2.L Q2,i6 E0.2.At,i6 E0.2.E,i6 E0.2.Pos,SL M1 E0.2.Out X0] 171,bk V1 [i6 C0.1.Kind,Ac C0.1.Reg,Ac C0.1.Name,SL O0 C0.1.E F0,SL P0 C0.1.F G0,i6 C0.1.N,i6 E0.1,i6 C0.1.Else,i6 C0.1.At] 51] w) ?_ ?_
 rcases bip hm with ⟨T2,hm⟩ | ⟨T2,hm⟩
 rcases bip hm with ⟨Y3,hm⟩ | ⟨Y3,hm⟩
 obtain ⟨S7,T7,hm⟩:=bs hm
 refine rdS 20 u wide λw u=>dr 0 u o rfl (Ab o rfl) λo=>dr 1 u o rfl (An o rfl rfl) λo=>dr 2 u o rfl (Ar (Ab o rfl) (congrArg Value.bool T2)) λo=>dg 3 u.ld o rfl (λw hl=>Ab o rfl) λo=>dg 4 u.ld o rfl (λw hl=>Aj o rfl) λo=>dg 5 u.ld o rfl (λw hl=>Af o Bu rfl) λo=>dg 6 u.ld o rfl (λw hl=>Ag o isAgg29 rfl (hl.cellB t0 rfl)) λo=>dg 7 u.ld o rfl (λw hl=>An o rfl rfl) λo=>dr 8 u o rfl (Ad o rfl rfl) λo=>dr 9 u o rfl (Ar (Ab o rfl) (congrArg Value.bool Y3)) λo=>dg 10 u.ld o rfl (λw hl=>Ab o rfl) λo=>dg 11 u.ld o rfl (λw hl=>Aj o rfl) λo=>dg 12 u.ld o rfl (λw hl=>Af o Bv rfl) λo=>dg 13 u.ld o rfl (λw hl=>Ag o isAgg120 rfl (hl.cellB t0 rfl)) λo=>dg 14 u.ld o rfl (λw hl=>Ab o rfl) λo=>dg 15 u.ld o rfl (λw hl=>Aj o rfl) λo=>dg 16 u.ld o rfl (λw hl=>Af o Bg rfl) λo=>dg 17 u.ld o rfl (λw hl=>Ag o isAgg3 rfl (hl.cellB t0 rfl)) λo=>da1 (i:=18) (by kernel_rfl) ?_
 refine di (i:=18) rfl<|gy o rfl rfl<|cr o call139 (Ge (Ai _) V4 (St.srH u X3) T7) u λu o=>⟨λ_=>u.ld,?_⟩
 refine dr 19 u o rfl (Ad o rfl rfl) λo=>de (by kernel_rfl)<|tn<|?_
 replace u:=u.pk [1,0,0] rfl
 exact ⟨S7,hm,o.hs,u⟩
 refine rxS 20 u wide (by kernel_rfl) λw u=>xm u o rfl λo=>xr u o (An o rfl rfl) λo=>xr u o (Ar (Ab o rfl) (congrArg Value.bool T2)) λo=>xg u.ld o (λw hl=>Ab o rfl) λo=>xg u.ld o (λw hl=>Aj o rfl) λo=>xg u.ld o (λw hl=>Af o Bu rfl) λo=>xg u.ld o (λw hl=>Ag o isAgg29 rfl (hl.cellB t0 rfl)) λo=>xg u.ld o (λw hl=>An o rfl rfl) λo=>xr u o (Ad o rfl rfl) λo=>xr u o (Ar (Ab o rfl) (congrArg Value.bool Y3)) λo=>?_
 iterate 9 refine xn u.ld o λo=>?_
 refine xr u o (Ae o rfl rfl) λo=>xe<|tn<|?_
 replace u:=u.pk [1,0,0] rfl
 exact ⟨false,hm,o.hs,u⟩
 refine rxS 20 u wide (by kernel_rfl) λw u=>xm u o rfl λo=>xr u o (An o rfl rfl) λo=>xr u o (Ar (Ab o rfl) (congrArg Value.bool T2)) λo=>?_
 iterate 5 refine xn u.ld o λo=>?_
 refine xr u o (Ae o rfl rfl) λo=>xm u o rfl λo=>?_
 iterate 9 refine xn u.ld o λo=>?_
 refine xr u o (Ae o rfl rfl) λo=>xe<|tn<|?_
 replace u:=u.pk [1,0,0] rfl
 exact ⟨false,hm,o.hs,u⟩
 rintro a w ⟨Y0,hm,o,u⟩
 unfold Z3f at hm
 refine Av (λa w=>∃ (F2:(List api_Token)) (l3:Int) (S0:Int) (n3:Int) (G3:(List api_Stmt)) (K0:Int) (Q1:PH) (Y1:Option Addr) (E1:Nat) (B2:Option Addr) (F1:Nat) (u3:List Value),(Z3g N C0 E0) F2 l3 S0 n3 G3 K0=some r∧ExtM w0 (sepA [bk b2 [SL oa3 p1.L cap4,i6 p1.At,i6 p1.E,i6 p1.Pos,SL oa7 p1.Out cap8] 171,sla 51 9 oa7 p1.Out.length cap8 vs9]).fp H96 Q1∧Fr 134 [(0,PT b2),(9,PT V1),(10,i6 (C0.2.Out.length:Int))] a∧St w0 (sepA [bk b2 [SL oa3 p1.L cap4,i6 p1.At,i6 p1.E,i6 p1.Pos,SL oa7 p1.Out cap8] 171,sla 51 9 oa7 p1.Out.length cap8 vs9]).fp [Q1] [sla 51 9 B2 G3.length F1 u3,bk b2 [SL Y1 F2 E1,i6 l3,i6 S0,i6 n3,SL B2 G3 F1] 171,bk V1 [i6 C0.1.Kind,Ac C0.1.Reg,Ac C0.1.Name,SL O0 C0.1.E F0,SL P0 C0.1.F G0,i6 C0.1.N,i6 E0.1,i6 K0,i6 C0.1.At] 51] w∧F2.length≤E1∧SR Q1 Y1 F2∧Rows Q1 u3 G3) ?_ ?_
 rcases bit hm with ⟨A4,hm⟩ | ⟨A4,hm⟩
 refine ctv o rfl A4<|th<|rg<|qm o rfl λo=>qm o rfl λo=>qv o (Aj o rfl) λo=>qv o (Af o Bg rfl) λo=>qv o (Ag o isAgg3 rfl (u.ld.cellB t1 rfl)) λo=>qv o (Ap o rfl rfl) λo=>qv o (Aj o rfl) λo=>qv o (Af o Bg rfl) λo=>ls<|Ax o u sizeOf3 rfl rfl rfl rfl (.tail .head) (.succ .zero) λw u=>re<|tn<|?_
 obtain ⟨G2,U7,hm⟩:=bs hm
 refine rg<|qm o rfl λo=>qm o rfl λo=>qv o (Ap o rfl rfl) λo=>qm o rfl λo=>?_
 replace u:=u.pk [1,0,0] rfl
 replace u:=St.sep [bk b2 [SL W3 E0.2.L Q2,i6 (IntKind.i64.wrap (E0.2.At+1)),i6 E0.2.E,i6 E0.2.Pos,SL M1 E0.2.Out X0] 171,sla 51 9 M1 E0.2.Out.length X0 R2] u
 refine ls<|c1 o rfl call169 (ih_Z2y (St.le u) (p1:=(leadlineref04_P.mk E0.2.L (IntKind.i64.wrap (E0.2.At+1)) E0.2.E E0.2.Pos E0.2.Out)) (b2:=b2) (oa3:=W3) (cap4:=Q2) (oa7:=M1) (cap8:=X0) (vs9:=R2) V4 X3 Y4 (St.sepOk u) (St.sepDis u) U7) ⟨rfl,rfl,rfl,trivial⟩ (λv w a hR o=>?_)
 obtain ⟨H116,X5,C5,Y5,D5,d5,rfl,j5,k5,n5,U2,u5,hd115,hk⟩:=hR
 obtain ⟨u,U2⟩:=And.intro (St.mutH u hk U2 u5 hd115) (St.extcMM u U2)
 replace u:=u.unsep
 refine qv o (Af o Ei rfl) λo=>ls<|Ax o u sizeOf3 rfl rfl rfl rfl (.tail (.tail .head)) (.succ (.succ (.succ (.succ (.succ (.succ (.succ .zero))))))) λw u=>re<|tn<|?_
 replace u:=u.pk [1,0,0] rfl
 exact ⟨G2.2.L,G2.2.At,G2.2.E,G2.2.Pos,G2.2.Out,G2.1,H116,X5,C5,Y5,D5,d5,hm,U2,o.hs,u,j5,k5,n5⟩
 refine cfv o rfl A4<|wk<|tn<|?_
 exact ⟨E0.2.L,E0.2.At,E0.2.E,E0.2.Pos,E0.2.Out,C0.1.Else,H96,W3,Q2,M1,X0,R2,hm,(ExtM.refl _ _ _),o.hs,u,V4,X3,Y4⟩
 rintro a w ⟨F2,l3,S0,n3,G3,K0,Q1,Y1,E1,B2,F1,u3,hm,I3,o,u,hcA15,hrA16,d4⟩
 unfold Z3g at hm
 obtain ⟨L8,E5,hm⟩:=bs hm
 have A6:=Rd.oaI (u.rdO t0) d4 (by decide) E5
 obtain ⟨V7,F5,hm⟩:=bs hm
 refine rxS 7 u wide (by kernel_rfl) λw u=>xm u o rfl λo=>xr u o (Aj o rfl) λo=>xr u o (Af o El rfl) λo=>xq u.ld o (λw hl=>Ag o isAgg46 rfl (hl.cellB t1 rfl)) λo=>xm u o rfl λo=>xq u.ld o (λw hl=>Ay o isAgg51 sizeOf51 rfl rfl (hl.cellsB t2)) λo=>xr u o (Am o runUnderlying46 sizeOf51 rfl rfl E5 A6) λo=>?_
 have hn133:=Vr F5
 refine xz rfl<|JaD (α:=api_Stmt) o u sizeOf51 rfl rfl rfl d4 (show Enc.rep (α:=api_Stmt) Q1 [i6 C0.1.Kind,Ac C0.1.Reg,Ac C0.1.Name,SL O0 C0.1.E F0,SL P0 C0.1.F G0,i6 C0.1.N,i6 E0.1,i6 K0,i6 C0.1.At] (api_Stmt.mk C0.1.Kind C0.1.Reg C0.1.Name C0.1.E C0.1.F C0.1.N E0.1 K0 C0.1.At) from ⟨_,_,rfl,rfl,⟨_,_,rfl,rfl,⟨_,_,rfl,rfl,⟨_,_,rfl,⟨_,_,rfl,R3,(S3.mono (cp I3.sub E2.sub))⟩,⟨_,_,rfl,⟨_,_,rfl,T3,(U3.mono (cp I3.sub E2.sub))⟩,⟨_,_,rfl,rfl,⟨_,_,rfl,rfl,⟨_,_,rfl,rfl,rfl⟩⟩⟩⟩⟩⟩⟩⟩) F5 t0 λB6 w C6 hU=>?_
 replace u:=hU _ .head
 replace u:=St.eqL u (A':=bk b2 [SL Y1 F2 E1,i6 l3,i6 S0,i6 n3,SL B2 V7 F1] 171) (.tail .head) (by simp only [SL,hn133])
 obtain rfl:=si hm
 exact r0n o results160 ⟨Q1,Y1,E1,B2,F1,B6,rfl,hcA15,hrA16,C6,(ExtM.trans C3 (ExtM.trans E2 I3)),(St.le u),(St.disL (u.pickL (.cons (.tail .head) (.cons .head .nil)))),(u.pickL (.cons (.tail .head) (.cons .head .nil))).endMut⟩
theorem JbS:∀ (N:Nat) {w0:World} {H:PH} (_:H.le w0) {b2:Nat} {p1:leadlineref04_P} {oa3:Option Addr} {cap4:Nat} (_:p1.L.length≤cap4) (_:SR H oa3 p1.L) {oa7:Option Addr} {cap8:Nat} {vs9:List Value} (_:Rows H vs9 p1.Out) {p12:Int} {p13:Int} (_:(sepA [bk b2 [SL oa3 p1.L cap4,i6 p1.At,i6 p1.E,i6 p1.Pos,SL oa7 p1.Out cap8] 171,sla 51 9 oa7 p1.Out.length cap8 vs9]).ok (hp w0)) (_:∀ b,(sepA [bk b2 [SL oa3 p1.L cap4,i6 p1.At,i6 p1.E,i6 p1.Pos,SL oa7 p1.Out cap8] 171,sla 51 9 oa7 p1.Out.length cap8 vs9]).fp b→H b=none) {r:leadlineref04_P} (_:Z39 N p1 p12 p13=some r),Tot Tryz.prog 160 #[PT b2,i6 p12,i6 p13] w0 (λv w'=>∃ (H':PH) (oa1m:Option Addr) (cap1m:Nat) (oa2m:Option Addr) (cap2m:Nat) (vs2m:List Value),v=.tuple #[]∧r.L.length≤cap1m∧SR H' oa1m r.L∧Rows H' vs2m r.Out∧ExtM w0 (sepA [bk b2 [SL oa3 p1.L cap4,i6 p1.At,i6 p1.E,i6 p1.Pos,SL oa7 p1.Out cap8] 171,sla 51 9 oa7 p1.Out.length cap8 vs9]).fp H H'∧H'.le w'∧(∀ b,(sepA [bk b2 [SL oa1m r.L cap1m,i6 r.At,i6 r.E,i6 r.Pos,SL oa2m r.Out cap2m] 171,sla 51 9 oa2m r.Out.length cap2m vs2m]).fp b→H' b=none)∧Mut w0 (sepA [bk b2 [SL oa3 p1.L cap4,i6 p1.At,i6 p1.E,i6 p1.Pos,SL oa7 p1.Out cap8] 171,sla 51 9 oa7 p1.Out.length cap8 vs9]) (sepA [bk b2 [SL oa1m r.L cap1m,i6 r.At,i6 r.E,i6 r.Pos,SL oa2m r.Out cap2m] 171,sla 51 9 oa2m r.Out.length cap2m vs2m]) w'):=λN=>(Jbc N).2
theorem JaC (hH:H.le w0) {R0:Option Addr} {G0:Nat} {p1:(List api_Token)} (U2:p1.length≤G0) (Q1:SR H R0 p1) {p6:Int} {p7:Int} {r:((List api_Stmt)×Int×Int×Int)} (hm:Z3o N p1 p6 p7=some r):Tot Tryz.prog 141 #[SL R0 p1 G0,i6 p6,i6 p7] w0 (λv w'=>∃ (H':PH) (B2:Option Addr) (R1:Nat),v=.tuple #[SL B2 r.1 R1,i6 r.2.1,i6 r.2.2.1,i6 r.2.2.2]∧r.1.length≤R1∧SR H' B2 r.1∧Ext w0 H H'∧H'.le w'∧Keep Nil w0 w'):=by
 unfold Z3o at hm
 refine fn0 func141 rfl ntmps141 rfl rfl λa o=>?_
 have u:St w0 Nil [H] [] w0:=start1 hH
 refine th<|rg<|qa o rfl λo=>?_
 iterate 3 refine qa o rfl λo=>?_
 refine re<|tn<|th<|rg<|qm o rfl λo=>qm o rfl λo=>qv o (Bp [SL R0 p1 G0,i6 p6] [SL R0 p1 G0,i6 p6,i6 0,i6 0,.slice none 0 0] o ⟨rfl,rfl,trivial⟩ (λw=>by kernel_rfl)) λo=>ls<|Br (cs:=[SL R0 p1 G0,i6 p6,i6 0,i6 0,.slice none 0 0].toArray) o rfl u rfl rfl λb8 w a u o=>qa o rfl λo=>re<|tn<|th<|Av (λa w=>∃ (Y0:(List api_Token)) (B1:Int) (C1:Int) (E1:Int) (K0:(List api_Stmt)) (F1:PH) (j0:Option Addr) (S0:Nat) (M0:Option Addr) (F0:Nat) (T0:List Value),(Z3p N p1 p7) Y0 B1 C1 E1 K0=some r∧Ext w0 H F1∧Fr 68 [(0,SL R0 p1 G0),(2,i6 p7),(10,PT b8)] a∧St w0 Nil [F1] [sla 51 9 M0 K0.length F0 T0,bk b8 [SL j0 Y0 S0,i6 B1,i6 C1,i6 E1,SL M0 K0 F0] 171] w∧Y0.length≤S0∧SR F1 j0 Y0∧Rows F1 T0 K0) ?_ ?_
 replace u:=u.nilS 51 9
 refine wb<|lp (α:=Nat×(List api_Token)×Int×Int×Int×(List api_Stmt)) (λgh a w=>match gh with | (p0,O0,U0,V0,W0,D0)=>∃ (n0:PH) (P0:Option Addr) (I0:Nat) (E0:Option Addr) (C0:Nat) (J0:List Value),(Z3r N (Z3p N p1 p7)) p0 O0 U0 V0 W0 D0=some r∧Ext w0 H n0∧Fr 68 [(0,SL R0 p1 G0),(2,i6 p7),(10,PT b8)] a∧St w0 Nil [n0] [sla 51 9 E0 D0.length C0 J0,bk b8 [SL P0 O0 I0,i6 U0,i6 V0,i6 W0,SL E0 D0 C0] 171] w∧O0.length≤I0∧SR n0 P0 O0∧Rows n0 J0 D0) (λgh=>gh.1) (N,p1,p6,0,0,[]) ⟨H,R0,G0,none,0,[],hm,(Ext.refl _ _),o.hs,u,U2,Q1,.nil⟩ ?_
 rintro ⟨p0,O0,U0,V0,W0,D0⟩ a w ⟨n0,P0,I0,E0,C0,J0,hm,O1,o,u,hcB5,hrB6,P1⟩
 obtain _ | p0:=p0
 simp [Z3r] at hm
 rw [Z3r] at hm
 refine th<|th<|Av (λa w=>∃ (S1:Bool),(Z3q N (Z3p N p1 p7) (Z3r N (Z3p N p1 p7) p0) O0 U0 V0 W0 D0) S1=some r∧Fr 68 [(0,SL R0 p1 G0),(2,i6 p7),(10,PT b8),(31,.bool S1)] a∧St w0 Nil [n0] [sla 51 9 E0 D0.length C0 J0,bk b8 [SL P0 O0 I0,i6 U0,i6 V0,i6 W0,SL E0 D0 C0] 171] w) ?_ ?_
 rcases bip hm with ⟨T1,hm⟩ | ⟨T1,hm⟩
 obtain ⟨V2,W2,hm⟩:=bs hm
 refine rdS 17 u wide λw u=>dr 0 u o rfl (Ab o rfl) λo=>dr 1 u o rfl (Aj o rfl) λo=>dr 2 u o rfl (Af o Bu rfl) λo=>dq 3 u.ld o rfl (λw hl=>Ag o isAgg29 rfl (hl.cellB t1 rfl)) λo=>dr 4 u o rfl (An o rfl rfl) λo=>dr 5 u o rfl (Ar (Ab o rfl) (congrArg Value.bool T1)) λo=>dg 6 u.ld o rfl (λw hl=>Ab o rfl) λo=>dg 7 u.ld o rfl (λw hl=>Aj o rfl) λo=>dg 8 u.ld o rfl (λw hl=>Af o Bv rfl) λo=>dg 9 u.ld o rfl (λw hl=>Ag o isAgg120 rfl (hl.cellB t1 rfl)) λo=>dg 10 u.ld o rfl (λw hl=>Ab o rfl) λo=>dg 11 u.ld o rfl (λw hl=>Aj o rfl) λo=>dg 12 u.ld o rfl (λw hl=>Af o Bg rfl) λo=>dg 13 u.ld o rfl (λw hl=>Ag o isAgg3 rfl (hl.cellB t1 rfl)) λo=>da1 (i:=14) (by kernel_rfl) ?_
 refine di (i:=14) rfl<|gy o rfl rfl<|cr o call139 (Ge (Ai _) hcB5 (St.srH u hrB6) W2) u λu o=>⟨λ_=>u.ld,?_⟩
 refine dg 15 u.ld o rfl (λw hl=>Ba o rfl) λo=>dr 16 u o rfl (Ad o rfl rfl) λo=>de (by kernel_rfl)<|tn<|?_
 exact ⟨(!V2),hm,o.hs,u⟩
 refine rxS 17 u wide (by kernel_rfl) λw u=>xm u o rfl λo=>xr u o (Aj o rfl) λo=>xr u o (Af o Bu rfl) λo=>xq u.ld o (λw hl=>Ag o isAgg29 rfl (hl.cellB t1 rfl)) λo=>xr u o (An o rfl rfl) λo=>xr u o (Ar (Ab o rfl) (congrArg Value.bool T1)) λo=>?_
 iterate 10 refine xn u.ld o λo=>?_
 refine xr u o (Ae o rfl rfl) λo=>xe<|tn<|?_
 exact ⟨false,hm,o.hs,u⟩
 rintro a w ⟨S1,hm,o,u⟩
 unfold Z3q at hm
 rcases bit hm with ⟨I1,hm⟩ | ⟨I1,hm⟩
 refine ctv o rfl I1<|wk<|tn<|wb<|?_
 obtain ⟨G1,X2,hm⟩:=bs hm
 refine rg<|qm o rfl λo=>?_
 replace u:=u.pk [1,0] rfl
 replace u:=St.sep [bk b8 [SL P0 O0 I0,i6 U0,i6 V0,i6 W0,SL E0 D0 C0] 171,sla 51 9 E0 D0.length C0 J0] u
 refine ls<|c1 o rfl call160 (JbS _ (St.le u) (p1:=(leadlineref04_P.mk O0 U0 V0 W0 D0)) (b2:=b8) (oa3:=P0) (cap4:=I0) (oa7:=E0) (cap8:=C0) (vs9:=J0) hcB5 hrB6 P1 (St.sepOk u) (St.sepDis u) X2) ⟨rfl,rfl,rfl,trivial⟩ (λv w a hR o=>?_)
 obtain ⟨H18,C2,V1,E2,X1,F2,rfl,G2,I2,J2,u0,K2,hd17,hk⟩:=hR
 obtain ⟨u,u0⟩:=And.intro (St.mutH u hk u0 K2 hd17) (St.extc0 u u0)
 replace u:=u.unsep
 refine re<|bn<|tn<|?_
 replace u:=u.pk [1,0] rfl
 exact ⟨(p0,G1.L,G1.At,G1.E,G1.Pos,G1.Out),⟨H18,C2,V1,E2,X1,F2,hm,(Ext.trans O1 u0),o.hs,u,G2,I2,J2⟩,Nat.lt_succ_self _⟩
 refine cfv o rfl I1<|we<|tx<|tx<|bx<|tn<|?_
 exact ⟨O0,U0,V0,W0,D0,n0,P0,I0,E0,C0,J0,hm,O1,o.hs,u,hcB5,hrB6,P1⟩
 rintro a w ⟨Y0,B1,C1,E1,K0,F1,j0,S0,M0,F0,T0,hm,X0,o,u,hcA5,hrA6,Y1⟩
 unfold Z3p at hm
 refine th<|?_
 obtain ⟨Y2,A3,hm⟩:=bs hm
 refine rg<|qm o rfl λo=>?_
 replace u:=u.pk [1,0] rfl
 replace u:=St.sep [bk b8 [SL j0 Y0 S0,i6 B1,i6 C1,i6 E1,SL M0 K0 F0] 171,sla 51 9 M0 K0.length F0 T0] u
 refine ls<|c1 o rfl call161 (H7 (St.le u) (p1:=(leadlineref04_P.mk Y0 B1 C1 E1 K0)) (b2:=b8) (oa3:=j0) (cap4:=S0) (oa7:=M0) (cap8:=F0) (vs9:=T0) hcA5 hrA6 Y1 (St.sepOk u) (St.sepDis u) A3) ⟨rfl,rfl,trivial⟩ (λv w a hR o=>?_)
 obtain ⟨H33,E3,C3,F3,D3,G3,rfl,I3,J3,M2,Q0,O2,hd32,hk⟩:=hR
 obtain ⟨u,Q0⟩:=And.intro (St.mutH u hk Q0 O2 hd32) (St.extc0 u Q0)
 replace u:=u.unsep
 refine re<|tn<|th<|th<|rg<|qm o rfl λo=>qv o (Aj o rfl) λo=>qv o (Af o Bu rfl) λo=>qv o (Ag o isAgg29 rfl (u.ld.cellB t0 rfl)) λo=>qv o (Bt o rfl rfl) λo=>re<|?_
 rcases bip hm with ⟨J1,hm⟩ | ⟨J1,hm⟩
 refine tn<|ctv o rfl J1<|th<|rxS 12 u wide (by kernel_rfl) λw u=>xm u o rfl λo=>xr u o (Aj o rfl) λo=>xr u o (Af o Bu rfl) λo=>xq u.ld o (λw hl=>Ag o isAgg29 rfl (hl.cellB t0 rfl)) λo=>xm u o rfl λo=>xr u o (Aj o rfl) λo=>xr u o (Af o Gl rfl) λo=>xq u.ld o (λw hl=>Ag o isAgg3 rfl (hl.cellB t0 rfl)) λo=>?_
 iterate 4 refine xq u.ld o (λw hl=>Bq o rfl) λo=>?_
 refine xe<|tn<|wr<|tr<|?_
 obtain rfl:=si hm
 exact Go.LM.r4 o results141 rfl rfl rfl rfl ⟨H33,_,_,rfl,(Nat.le_refl 0),(SR.nil _ _),(Ext.trans X0 Q0),(St.le u),u.keep⟩
 refine tn<|cfv o rfl J1<|wk<|tn<|th<|th<|rg<|qm o rfl λo=>qv o (Aj o rfl) λo=>qv o (Af o El rfl) λo=>qv o (Ag o isAgg46 rfl (u.ld.cellB t0 rfl)) λo=>qv o (Ak (α:=api_Stmt) (xs:=Y2.Out) o runUnderlying46 rfl) λo=>qv o (Bd o rfl rfl) λo=>re<|?_
 rcases bip hm with ⟨M1,hm⟩ | ⟨M1,hm⟩
 refine tn<|ctv o rfl M1<|th<|?_
 obtain ⟨K3,U1,hm⟩:=bs hm
 obtain ⟨L3,B3,P2⟩:=SR.get Q1 U1
 obtain rfl:=Bb B3
 refine rxS 9 u wide (by kernel_rfl) λw u=>?_
 iterate 2 refine xq u.ld o (λw hl=>Ab o rfl) λo=>?_
 refine xr u o (Am o runUnderlying120 sizeOf130 rfl rfl U1 (SR.oaI Q1 (by decide) U1)) λo=>xr u o (Af o Dl rfl) λo=>xq u.ld o (λw hl=>Ag o isAgg3 rfl (PH.le.cell (λb o hx=>(Lds.le hl) b o ((cp Q0.sub X0.sub) b o hx)) (P2 3 _ rfl))) λo=>?_
 iterate 4 refine xq u.ld o (λw hl=>Bq o rfl) λo=>?_
 refine xe<|tn<|wr<|tr<|?_
 obtain rfl:=si hm
 exact Go.LM.r4 o results141 rfl rfl rfl rfl ⟨H33,_,_,rfl,(Nat.le_refl 0),(SR.nil _ _),(Ext.trans X0 Q0),(St.le u),u.keep⟩
 refine tn<|cfv o rfl M1<|wk<|tn<|th<|rxS 12 u wide (by kernel_rfl) λw u=>xm u o rfl λo=>xr u o (Aj o rfl) λo=>xr u o (Af o El rfl) λo=>xq u.ld o (λw hl=>Ag o isAgg46 rfl (hl.cellB t0 rfl)) λo=>xm u o rfl λo=>xr u o (Aj o rfl) λo=>xr u o (Af o Bg rfl) λo=>xq u.ld o (λw hl=>Ag o isAgg3 rfl (hl.cellB t0 rfl)) λo=>?_
 iterate 4 refine xq u.ld o (λw hl=>Bq o rfl) λo=>?_
 refine xe<|tn<|wr<|?_
 obtain ⟨H53,Q2,R2,T2,u⟩:=St.frzS u (.tail .head) M2
 obtain rfl:=si hm
 exact Go.LM.r4 o results141 rfl rfl rfl rfl ⟨H53,_,_,rfl,T2,R2,(Ext.trans X0 (Ext.trans Q0 Q2)),(St.le u),u.keep⟩
set_option maxHeartbeats 4000000 in
theorem Xv (hH:H.le w0) {b2:Nat} {p1:leadlineref05_In} {oa3:Option Addr} {cap4:Nat} (O3:p1.L.length≤cap4) (P3:SR H oa3 p1.L) {p7:Str} {W0:Option Addr} {K0:Nat} {p8:(List api_Stmt)} (R2:p8.length≤K0) (T2:SR H W0 p8) {p13:Int} (hO:(sepA [bk b2 [SL oa3 p1.L cap4,i6 p1.At,i6 p1.E,i6 p1.Pos] 125]).ok (hp w0)) (hD:∀ b,(sepA [bk b2 [SL oa3 p1.L cap4,i6 p1.At,i6 p1.E,i6 p1.Pos] 125]).fp b→H b=none) {r:(api_Thread×leadlineref05_In)} (hm:Z4l N p1 p7 p8 p13=some r):Tot Tryz.prog 105 #[PT b2,.agg #[Ac p7,.slice none 0 0,SL W0 p8 K0,i6 p13]] w0 (λv w'=>∃ (H':PH) (cs0:List Value) (oa1m:Option Addr) (cap1m:Nat),v=.agg cs0.toArray∧Enc.rep H' cs0 r.1∧r.2.L.length≤cap1m∧SR H' oa1m r.2.L∧ExtM w0 (sepA [bk b2 [SL oa3 p1.L cap4,i6 p1.At,i6 p1.E,i6 p1.Pos] 125]).fp H H'∧H'.le w'∧(∀ b,(sepA [bk b2 [SL oa1m r.2.L cap1m,i6 r.2.At,i6 r.2.E,i6 r.2.Pos] 125]).fp b→H' b=none)∧Mut w0 (sepA [bk b2 [SL oa3 p1.L cap4,i6 p1.At,i6 p1.E,i6 p1.Pos] 125]) (sepA [bk b2 [SL oa1m r.2.L cap1m,i6 r.2.At,i6 r.2.E,i6 r.2.Pos] 125]) w'):=by
 unfold Z4l at hm
 refine fn0 func105 rfl ntmps105 rfl rfl λa o=>?_
 have u:=Cp hH hO hD
 refine th<|rg<|ls<|Br (cs:=[Ac p7,.slice none 0 0,SL W0 p8 K0,i6 p13].toArray) o rfl u rfl rfl λX0 w a u o=>ls<|Au (cs:=[Ac [],.slice none 0 0,.slice none 0 0,i6 0].toArray) o rfl u zeroValue48 rfl λY0 w a u o=>re<|tn<|th<|rg<|qm o rfl λo=>qv o (Aj o rfl) λo=>qv o (Af o Bi rfl) λo=>qv o (Ag o isAgg3 rfl (u.ld.cellB t2 rfl)) λo=>qa o rfl λo=>re<|tn<|th<|?_
 obtain ⟨C1,Q3,hm⟩:=bs hm
 refine rg<|qm o rfl λo=>?_
 replace u:=u.pk [2,0,0] rfl
 replace u:=St.sep [bk b2 [SL oa3 p1.L cap4,i6 p1.At,i6 p1.E,i6 p1.Pos] 125] u
 refine ls<|c1 o rfl call140 (Uy (St.le u) (p1:=p1) (b2:=b2) (oa3:=oa3) (cap4:=cap4) O3 P3 (St.sepOk u) (St.sepDis u) Q3) ⟨rfl,rfl,trivial⟩ (λv w a hR o=>?_)
 obtain ⟨E2,S1,rfl,U2,V2,hk⟩:=hR
 replace u:=(u.mut hk .head).unsep
 refine re<|tn<|th<|th<|?_
 obtain ⟨M0,R3,hm⟩:=bs hm
 refine rg<|qm o rfl λo=>?_
 replace u:=u.pk [0,0,0] rfl
 replace u:=St.sep [bk b2 [SL E2 C1.L S1,i6 C1.At,i6 C1.E,i6 C1.Pos] 125] u
 refine ls<|c1 o rfl call102 (Ic (St.le u) (p1:=C1) (b2:=b2) (oa3:=E2) (cap4:=S1) U2 V2 (St.sepOk u) (St.sepDis u) R3) ⟨rfl,rfl,trivial⟩ (λv w a hR o=>?_)
 obtain ⟨G1,j0,rfl,F2,G2,hk⟩:=hR
 replace u:=(u.mut hk .head).unsep
 refine re<|tn<|Av (λa w=>∃ (S0:(List api_Token)) (T1:Int) (U1:Int) (V1:Int) (G0:(List Str)) (T0:Option Addr) (O0:Nat) (E0:Option Addr) (D0:Nat) (Q0:List Value),(Z4m N p1 p7 p8 p13) S0 T1 U1 V1 G0=some r∧Fr 73 [(0,PT b2),(3,PT X0),(4,PT Y0),(5,i6 p1.At)] a∧St w0 (sepA [bk b2 [SL oa3 p1.L cap4,i6 p1.At,i6 p1.E,i6 p1.Pos] 125]).fp [H] [bk b2 [SL T0 S0 O0,i6 T1,i6 U1,i6 V1] 125,sla 9 1 E0 G0.length D0 Q0,bk X0 [Ac p7,SL E0 G0 D0,SL W0 p8 K0,i6 p13] 48,bk Y0 [Ac [],.slice none 0 0,.slice none 0 0,i6 0] 48] w∧S0.length≤O0∧SR H T0 S0∧Rows H Q0 G0) ?_ ?_
 rcases bit hm with ⟨I1,hm⟩ | ⟨I1,hm⟩
 refine ctv o rfl I1<|th<|?_
 obtain ⟨F0,S3,hm⟩:=bs hm
 refine rg<|qm o rfl λo=>?_
 replace u:=u.pk [0,0,0] rfl
 replace u:=St.sep [bk b2 [SL G1 M0.2.L j0,i6 M0.2.At,i6 M0.2.E,i6 M0.2.Pos] 125] u
 refine ls<|c1 o rfl call103 (Rl (St.le u) (p1:=M0.2) (b2:=b2) (oa3:=G1) (cap4:=j0) F2 G2 (St.sepOk u) (St.sepDis u) S3) ⟨rfl,rfl,trivial⟩ (λv w a hR o=>?_)
 obtain ⟨I2,X1,W2,J2,Y1,rfl,n0,X2,Y2,hk⟩:=hR
 replace u:=(u.mut hk .head).unsep
 replace n0:=n0 H
 refine qa o rfl λo=>re<|tn<|th<|rg<|qa o rfl λo=>re<|?_
 replace u:=u.nilS 9 1
 replace u:=u.pk [1,0,2,1,0] rfl
 refine tn<|wb<|lp (α:=Nat×(List Str)×Int) (λgh a w=>match gh with | (E1,U0,B2)=>∃ (p0:Option Addr) (R0:Nat) (u0:List Value),(Z4o N (Z4m N p1 p7 p8 p13) F0) E1 U0 B2=some r∧Fr 73 [(0,PT b2),(3,PT X0),(4,PT Y0),(5,i6 p1.At),(6,SL I2 F0.1 X1),(7,i6 B2)] a∧St w0 (sepA [bk b2 [SL oa3 p1.L cap4,i6 p1.At,i6 p1.E,i6 p1.Pos] 125]).fp [H] [bk b2 [SL J2 F0.2.L Y1,i6 F0.2.At,i6 F0.2.E,i6 F0.2.Pos] 125,sla 9 1 p0 U0.length R0 u0,bk X0 [Ac p7,SL p0 U0 R0,SL W0 p8 K0,i6 p13] 48,bk Y0 [Ac [],.slice none 0 0,.slice none 0 0,i6 0] 48,sla 53 3 I2 F0.1.length X1 W2] w∧Rows H u0 U0) (λgh=>gh.1) (N,[],0) ⟨none,0,[],hm,o.hs,u,.nil⟩ ?_
 rintro ⟨E1,U0,B2⟩ a w ⟨p0,R0,u0,hm,o,u,K2⟩
 obtain _ | E1:=E1
 simp [Z4o] at hm
 rw [Z4o] at hm
 refine th<|th<|rg<|qm o rfl λo=>qm o rfl λo=>qv o (Ak (α:=api_Cell) (xs:=F0.1) o runUnderlying23 rfl) λo=>qv o (Ao o rfl rfl) λo=>re<|?_
 rcases bip hm with ⟨J1,hm⟩ | ⟨J1,hm⟩
 refine tn<|ctv o rfl J1<|wk<|tn<|th<|wb<|?_
 obtain ⟨F1,M2,hm⟩:=bs hm
 have A3:=Rd.oaI (u.rdO t4) n0 (by decide) M2
 obtain ⟨X3,T3,B3⟩:=Rows.getI n0 M2
 obtain rfl:=Bj T3
 obtain ⟨U3,V3,hm⟩:=bs hm
 refine rdL (Aa t0 (Aa t2 (Aa t3 (Aa t4 Ah)))) 10 u wide λw u=>ds 0 (St.ldsX u i2 (Aa t0 (Aa t2 (Aa t3 (Aa t4 Ah))))) o rfl (Af o Ci rfl) λo=>dq 1 (St.ldsX u i2 (Aa t0 (Aa t2 (Aa t3 (Aa t4 Ah))))) o rfl (λw hl=>Ag o isAgg36 rfl (hl.cellB t1 rfl)) λo=>ds 2 (St.ldsX u i2 (Aa t0 (Aa t2 (Aa t3 (Aa t4 Ah))))) o rfl (Ab o rfl) λo=>ds 3 (St.ldsX u i2 (Aa t0 (Aa t2 (Aa t3 (Aa t4 Ah))))) o rfl (Ab o rfl) λo=>ds 4 (St.ldsX u i2 (Aa t0 (Aa t2 (Aa t3 (Aa t4 Ah))))) o rfl (Am o runUnderlying23 sizeOf53 rfl rfl M2 A3) λo=>ds 5 (St.ldsX u i2 (Aa t0 (Aa t2 (Aa t3 (Aa t4 Ah))))) o rfl (Af o Dq rfl) λo=>dq 6 (St.ldsX u i2 (Aa t0 (Aa t2 (Aa t3 (Aa t4 Ah))))) o rfl (λw hl=>Ag o isAgg9 rfl (hl.elO2 t3 (B3 0 _ rfl))) λo=>da1 (i:=7) (by kernel_rfl) ?_
 refine di (i:=7) rfl<|Bh (e:=9) (sz:=1) [Ac F1.Name] o rfl u rfl rfl rfl (λw=>by kernel_rfl) λY3 w a u o=>?_
 have C3:Rows (α:=Str) H [Ac F1.Name] ([F1.Name]:List Str):=(.cons (c:=[Ac F1.Name]) rfl .nil)
 refine ⟨λ_=>(St.ldsX u i2 (Aa t1 (Aa t3 (Aa t4 (Aa t5 Ah))))),?_⟩
 refine da1 (i:=8) (by kernel_rfl) ?_
 refine di (i:=8) rfl<|Bw (α:=Str) (xs:=U0) (ys:=([F1.Name]:List Str)) o rfl u underlying36 Pm rfl (by decide) rfl rfl rfl t2 K2 (u.rdO t0) C3 V3 λD3 O2 E3 w a F3 hU o=>?_
 replace u:=hU _ (.tail (.tail .head))
 replace u:=u.drop .head
 refine ⟨λ_=>(St.ldsX u i2 (Aa t0 (Aa t2 (Aa t3 (Aa t4 Ah))))),?_⟩
 refine ds 9 (St.ldsX u i2 (Aa t0 (Aa t2 (Aa t3 (Aa t4 Ah))))) o rfl (Af o Ci rfl) λo=>da1 (i:=10) (by kernel_rfl) ?_
 refine di (i:=10) rfl<|Ax o u sizeOf36 rfl rfl rfl rfl (.tail (.tail .head)) (.succ .zero) λw u=>⟨λh=>absurd rfl h,?_⟩
 refine de (by kernel_rfl)<|bn<|tn<|rg<|qm o rfl λo=>qv o (Ap o rfl rfl) λo=>qa o rfl λo=>re<|tn<|?_
 exact ⟨(E1,U3,(IntKind.i64.wrap (B2+1))),⟨D3,O2,E3,hm,o.hs,u,F3⟩,Nat.lt_succ_self _⟩
 refine tn<|cfv o rfl J1<|we<|tx<|tx<|bx<|tn<|?_
 replace u:=u.pk [0,0,0,0] rfl
 exact ⟨F0.2.L,F0.2.At,F0.2.E,F0.2.Pos,U0,J2,Y1,p0,R0,u0,hm,o.hs,u,X2,Y2,K2⟩
 refine cfv o rfl I1<|wk<|tn<|?_
 replace u:=u.nilS 9 1
 replace u:=u.pk [1,0,1,0] rfl
 exact ⟨M0.2.L,M0.2.At,M0.2.E,M0.2.Pos,[],G1,j0,none,0,[],hm,o.hs,u,F2,G2,.nil⟩
 rintro a w ⟨S0,T1,U1,V1,G0,T0,O0,E0,D0,Q0,hm,o,u,hcA4,hrA5,P2⟩
 unfold Z4m at hm
 refine th<|th<|rg<|qm o rfl λo=>qv o (Aj o rfl) λo=>qv o (Af o Cs rfl) λo=>qv o (Ag o isAgg29 rfl (u.ld.cellB t0 rfl)) λo=>qv o (An o rfl rfl) λo=>re<|tn<|Av (λa w=>∃ (M1:Int) (O1:Int) (P1:Int) (I0:(List api_Stmt)) (B1:PH) (P0:Option Addr) (J0:Nat),(Z4n p7 p13 S0 G0) M1 O1 P1 I0=some r∧ExtM w0 (sepA [bk b2 [SL oa3 p1.L cap4,i6 p1.At,i6 p1.E,i6 p1.Pos] 125]).fp H B1∧Fr 73 [(0,PT b2),(3,PT X0),(4,PT Y0)] a∧St w0 (sepA [bk b2 [SL oa3 p1.L cap4,i6 p1.At,i6 p1.E,i6 p1.Pos] 125]).fp [B1] [bk b2 [SL T0 S0 O0,i6 M1,i6 O1,i6 P1] 125,sla 9 1 E0 G0.length D0 Q0,bk X0 [Ac p7,SL E0 G0 D0,SL P0 I0 J0,i6 p13] 48,bk Y0 [Ac [],.slice none 0 0,.slice none 0 0,i6 0] 48] w∧I0.length≤J0∧SR B1 P0 I0) ?_ ?_
 rcases bip hm with ⟨Q1,hm⟩ | ⟨Q1,hm⟩
 refine ctv o rfl Q1<|th<|?_
 obtain ⟨C2,W3,hm⟩:=bs hm
 refine rdS 19 u wide λw u=>dr 0 u o rfl (Ab o rfl) λo=>dr 1 u o rfl (Aj o rfl) λo=>dr 2 u o rfl (Af o Ck rfl) λo=>dq 3 u.ld o rfl (λw hl=>Ag o isAgg120 rfl (hl.cellB t0 rfl)) λo=>dr 4 u o rfl (Ab o rfl) λo=>dr 5 u o rfl (Aj o rfl) λo=>dr 6 u o rfl (Af o Bi rfl) λo=>dq 7 u.ld o rfl (λw hl=>Ag o isAgg3 rfl (hl.cellB t0 rfl)) λo=>dr 8 u o rfl (Ab o rfl) λo=>da1 (i:=9) (by kernel_rfl) ?_
 refine di (i:=9) rfl<|c1 o rfl call141 (JaC (St.le u) hcA4 hrA5 W3) ⟨rfl,rfl,rfl,trivial⟩ (λv w a hR o=>?_)
 obtain ⟨H62,G3,Q2,rfl,I3,J3,C0,K3,hk⟩:=hR
 obtain ⟨u,C0⟩:=And.intro (St.passH u hk C0 K3) (St.extcM u C0)
 refine ⟨λ_=>(St.ldsX u C0.sub i1),?_⟩
 refine ds 10 (St.ldsX u C0.sub i1) o rfl (Ab o rfl) λo=>ds 11 (St.ldsX u C0.sub i1) o rfl (Cd o rfl rfl) λo=>ds 12 (St.ldsX u C0.sub i1) o rfl (Cd o rfl rfl) λo=>ds 13 (St.ldsX u C0.sub i1) o rfl (Cd o rfl rfl) λo=>ds 14 (St.ldsX u C0.sub i1) o rfl (Cd o rfl rfl) λo=>ds 15 (St.ldsX u C0.sub i1) o rfl (Bq o rfl) λo=>ds 16 (St.ldsX u C0.sub i1) o rfl (Bq o rfl) λo=>ds 17 (St.ldsX u C0.sub i1) o rfl (Bq o rfl) λo=>ds 18 (St.ldsX u C0.sub i1) o rfl (Bq o rfl) λo=>de (by kernel_rfl)<|tn<|th<|rg<|qm o rfl λo=>qv o (Af o Gm rfl) λo=>ls<|Ax o u sizeOf46 rfl rfl rfl rfl (.tail (.tail .head)) (.succ (.succ .zero)) λw u=>re<|tn<|th<|rg<|qm o rfl λo=>qm o rfl λo=>qv o (Aj o rfl) λo=>qv o (Af o Bi rfl) λo=>ls<|Ax o u sizeOf3 rfl rfl rfl rfl .head (.succ .zero) λw u=>re<|tn<|th<|rg<|qm o rfl λo=>qm o rfl λo=>qv o (Aj o rfl) λo=>qv o (Af o Cs rfl) λo=>ls<|Ax o u sizeOf29 rfl rfl rfl rfl .head (.succ (.succ .zero)) λw u=>re<|tn<|rg<|qm o rfl λo=>qm o rfl λo=>qv o (Aj o rfl) λo=>qv o (Af o Fo rfl) λo=>ls<|Ax o u sizeOf3 rfl rfl rfl rfl .head (.succ (.succ (.succ .zero))) λw u=>re<|tn<|?_
 exact ⟨C2.2.1,C2.2.2.1,C2.2.2.2,C2.1,H62,G3,Q2,hm,C0,o.hs,u,I3,J3⟩
 refine cfv o rfl Q1<|wk<|tn<|?_
 exact ⟨T1,U1,V1,p8,H,W0,K0,hm,(ExtM.refl _ _ _),o.hs,u,R2,T2⟩
 rintro a w ⟨M1,O1,P1,I0,B1,P0,J0,hm,V0,o,u,hcA22,hrA23⟩
 unfold Z4n at hm
 refine th<|rg<|qv o (Ay o Tryz.isAgg48 Tryz.sizeOf48 rfl rfl (u.ld.cellsB t2)) λo=>ls<|Az o u sizeOf48 rfl rfl rfl rfl (Al rfl) (.tail (.tail (.tail .head))) λw u=>re<|tn<|wr<|?_
 obtain ⟨H70,R1,L3,M3,u⟩:=St.frzSM u (.tail .head) (P2.mono V0.sub)
 obtain rfl:=si hm
 exact r1c (vs:=[Ac p7,SL E0 G0 D0,SL P0 I0 J0,i6 p13]) (.inl rfl) o results105 rfl isAgg48 sizeOf48 rfl (u.ld.cellsB t2) ⟨H70,_,T0,O0,rfl,(show Enc.rep (α:=api_Thread) H70 [Ac p7,SL E0 G0 D0,SL P0 I0 J0,i6 p13] (api_Thread.mk p7 G0 I0 p13) from ⟨_,_,rfl,rfl,⟨_,_,rfl,⟨_,_,rfl,M3,L3⟩,⟨_,_,rfl,⟨_,_,rfl,hcA22,(hrA23.mono R1.sub)⟩,rfl⟩⟩⟩),hcA4,(hrA5.mono (cp R1.sub V0.sub)),(ExtM.trans V0 R1),(St.le u),(St.disL (u.pickL (.cons .head .nil))),(u.pickL (.cons .head .nil)).endMut⟩
theorem Jbh (hH:H.le w0) {b2:Nat} {p1:leadlineref05_In} {oa3:Option Addr} {cap4:Nat} (I0:p1.L.length≤cap4) (J0:SR H oa3 p1.L) {p7:Int} (hO:(sepA [bk b2 [SL oa3 p1.L cap4,i6 p1.At,i6 p1.E,i6 p1.Pos] 125]).ok (hp w0)) (hD:∀ b,(sepA [bk b2 [SL oa3 p1.L cap4,i6 p1.At,i6 p1.E,i6 p1.Pos] 125]).fp b→H b=none) {r:(api_Claim×leadlineref05_In)} (hm:Z49 N p1 p7=some r):Tot Tryz.prog 106 #[PT b2,i6 p7] w0 (λv w'=>∃ (H':PH) (cs0:List Value) (oa1m:Option Addr) (cap1m:Nat),v=.agg cs0.toArray∧Enc.rep H' cs0 r.1∧r.2.L.length≤cap1m∧SR H' oa1m r.2.L∧ExtM w0 (sepA [bk b2 [SL oa3 p1.L cap4,i6 p1.At,i6 p1.E,i6 p1.Pos] 125]).fp H H'∧H'.le w'∧(∀ b,(sepA [bk b2 [SL oa1m r.2.L cap1m,i6 r.2.At,i6 r.2.E,i6 r.2.Pos] 125]).fp b→H' b=none)∧Mut w0 (sepA [bk b2 [SL oa3 p1.L cap4,i6 p1.At,i6 p1.E,i6 p1.Pos] 125]) (sepA [bk b2 [SL oa1m r.2.L cap1m,i6 r.2.At,i6 r.2.E,i6 r.2.Pos] 125]) w'):=by
 unfold Z49 at hm
 refine fn0 func106 rfl ntmps106 rfl rfl λa o=>?_
 have u:=Cp hH hO hD
 refine th<|rg<|ls<|Au (cs:=[.slice none 0 0,i6 0].toArray) o rfl u Tryz.zeroValue74 rfl λb8 w a u o=>re<|tn<|th<|?_
 obtain ⟨E0,T0,hm⟩:=bs hm
 refine rdS 18 u wide λw u=>dr 0 u o rfl (Ab o rfl) λo=>dr 1 u o rfl (Aj o rfl) λo=>dr 2 u o rfl (Af o Ck rfl) λo=>dq 3 u.ld o rfl (λw hl=>Ag o isAgg120 rfl (hl.cellB t1 rfl)) λo=>dr 4 u o rfl (Ab o rfl) λo=>dr 5 u o rfl (Aj o rfl) λo=>dr 6 u o rfl (Af o Bi rfl) λo=>dq 7 u.ld o rfl (λw hl=>Ag o isAgg3 rfl (hl.cellB t1 rfl)) λo=>da1 (i:=8) (by kernel_rfl) ?_
 refine di (i:=8) rfl<|c1 o rfl call142 (Xq (St.le u) I0 J0 T0) ⟨rfl,rfl,trivial⟩ (λv w a hR o=>?_)
 obtain ⟨H14,F0,D0,rfl,M0,O0,C0,P0,hk⟩:=hR
 obtain ⟨u,C0⟩:=And.intro (St.passH u hk C0 P0) (St.extcM u C0)
 refine ⟨λ_=>(St.ldsX u C0.sub i1),?_⟩
 refine ds 9 (St.ldsX u C0.sub i1) o rfl (Ab o rfl) λo=>ds 10 (St.ldsX u C0.sub i1) o rfl (Cd o rfl rfl) λo=>ds 11 (St.ldsX u C0.sub i1) o rfl (Cd o rfl rfl) λo=>ds 12 (St.ldsX u C0.sub i1) o rfl (Cd o rfl rfl) λo=>ds 13 (St.ldsX u C0.sub i1) o rfl (Cd o rfl rfl) λo=>ds 14 (St.ldsX u C0.sub i1) o rfl (Bq o rfl) λo=>ds 15 (St.ldsX u C0.sub i1) o rfl (Bq o rfl) λo=>ds 16 (St.ldsX u C0.sub i1) o rfl (Bq o rfl) λo=>ds 17 (St.ldsX u C0.sub i1) o rfl (Bq o rfl) λo=>de (by kernel_rfl)<|tn<|th<|th<|rg<|qm o rfl λo=>qv o (Bt o rfl rfl) λo=>re<|?_
 rcases bip hm with ⟨G0,hm⟩ | ⟨G0,hm⟩
 refine tn<|ctv o rfl G0<|th<|rg<|qm o rfl λo=>qm o rfl λo=>qv o (Aj o rfl) λo=>qv o (Af o Cs rfl) λo=>ls<|Ax o u sizeOf29 rfl rfl rfl rfl (.tail .head) (.succ (.succ .zero)) λw u=>re<|tn<|th<|rg<|qm o rfl λo=>qm o rfl λo=>qv o (Aj o rfl) λo=>qv o (Af o Fo rfl) λo=>ls<|Ax o u sizeOf3 rfl rfl rfl rfl (.tail .head) (.succ (.succ (.succ .zero))) λw u=>re<|tn<|th<|rg<|qv o (Bp [] [.slice none 0 0,i6 0] o trivial (λw=>by kernel_rfl)) λo=>ls<|Az o u sizeOf74 rfl rfl rfl rfl (Al rfl) .head λw u=>re<|tn<|wr<|tr<|?_
 obtain rfl:=si hm
 exact r1c (vs:=[.slice none 0 0,i6 0]) (.inl rfl) o results106 rfl isAgg74 sizeOf74 rfl (u.ld.cellsB t0) ⟨H14,_,oa3,cap4,rfl,(show Enc.rep (α:=api_Claim) H14 [.slice none 0 0,i6 0] (api_Claim.mk [] 0) from ⟨_,_,rfl,⟨none,0,rfl,Nat.le_refl _,SR.nil _ _⟩,rfl⟩),I0,(J0.mono C0.sub),C0,(St.le u),(St.disL (u.pickL (.cons (.tail .head) .nil))),(u.pickL (.cons (.tail .head) .nil)).endMut⟩
 refine tn<|cfv o rfl G0<|wk<|tn<|th<|rg<|qm o rfl λo=>qm o rfl λo=>qv o (Aj o rfl) λo=>qv o (Af o Bi rfl) λo=>ls<|Ax o u sizeOf3 rfl rfl rfl rfl (.tail .head) (.succ .zero) λw u=>re<|tn<|th<|?_
 obtain ⟨V0,U0,hm⟩:=bs hm
 refine rg<|qm o rfl λo=>?_
 replace u:=u.pk [1,0] rfl
 replace u:=St.sep [bk b2 [SL oa3 p1.L cap4,i6 E0.2.1,i6 p1.E,i6 p1.Pos] 125] u
 refine ls<|c1 o rfl call140 (Uy (St.le u) (p1:=(leadlineref05_In.mk p1.L E0.2.1 p1.E p1.Pos)) (b2:=b2) (oa3:=oa3) (cap4:=cap4) I0 (J0.mono C0.sub) (St.sepOk u) (St.sepDis u) U0) ⟨rfl,rfl,trivial⟩ (λv w a hR o=>?_)
 obtain ⟨Q0,K0,rfl,R0,S0,hk⟩:=hR
 replace u:=(u.mut hk .head).unsep
 refine re<|tn<|th<|rg<|qm o rfl λo=>qm o rfl λo=>qv o (Bp [SL F0 E0.1 D0,i6 p7] [SL F0 E0.1 D0,i6 p7] o ⟨rfl,rfl,trivial⟩ (λw=>by kernel_rfl)) λo=>ls<|Az o u sizeOf74 rfl rfl rfl rfl (Al rfl) (.tail .head) λw u=>re<|tn<|wr<|?_
 obtain rfl:=si hm
 exact r1c (vs:=[SL F0 E0.1 D0,i6 p7]) (.inl rfl) o results106 rfl isAgg74 sizeOf74 rfl (u.ld.cellsB t1) ⟨H14,_,Q0,K0,rfl,(show Enc.rep (α:=api_Claim) H14 [SL F0 E0.1 D0,i6 p7] (api_Claim.mk E0.1 p7) from ⟨_,_,rfl,⟨_,_,rfl,M0,O0⟩,rfl⟩),R0,S0,C0,(St.le u),(St.disL (u.pickL (.cons .head .nil))),(u.pickL (.cons .head .nil)).endMut⟩
set_option maxHeartbeats 4000000 in
theorem Jbg (hH:H.le w0) {p1:Str} {r:(api_Prog×Int×Int)} (hm:Z4p N p1=some r):Tot Tryz.prog 64 #[Ac p1] w0 (λv w'=>∃ (H':PH) (cs0:List Value),v=.tuple #[.agg cs0.toArray,i6 r.2.1,i6 r.2.2]∧Enc.rep H' cs0 r.1∧Ext w0 H H'∧H'.le w'∧Keep Nil w0 w'):=by
 unfold Z4p at hm
 refine fn0 func64 rfl ntmps64 rfl rfl λa o=>?_
 have u:St w0 Nil [H] [] w0:=start1 hH
 refine th<|rg<|ls<|Au (cs:=[.slice none 0 0,.slice none 0 0,.slice none 0 0,.slice none 0 0,.slice none 0 0,.slice none 0 0].toArray) o rfl u Tryz.zeroValue27 rfl λb2 w a u o=>?_
 iterate 2 refine qa o rfl λo=>?_
 refine re<|tn<|th<|?_
 obtain ⟨P0,h4,hm⟩:=bs hm
 refine rg<|qm o rfl λo=>ls<|c1 o rfl call101 (Jb6 (Ai _) h4) ⟨rfl,trivial⟩ (λv w a hR o=>?_)
 obtain ⟨G1,n0,vs7,rfl,O8,hk⟩:=hR
 replace u:=u.fresh hk
 replace O8:=O8 H
 refine qm o rfl λo=>?_
 iterate 3 refine qv o (Cd o rfl rfl) λo=>?_
 iterate 3 refine qa o rfl λo=>?_
 refine re<|tn<|th<|th<|rg<|qm o rfl λo=>qv o (Bt o rfl rfl) λo=>re<|?_
 rcases bip hm with ⟨K7,hm⟩ | ⟨K7,hm⟩
 refine tn<|ctv o rfl K7<|th<|rg<|qv o (Bp [] [.slice none 0 0,.slice none 0 0,.slice none 0 0,.slice none 0 0,.slice none 0 0,.slice none 0 0] o trivial (λw=>by kernel_rfl)) λo=>?_
 iterate 2 refine qm o rfl λo=>?_
 refine ls<|Az o u sizeOf27 rfl rfl rfl rfl (Al rfl) (.tail .head) λw u=>?_
 iterate 2 refine qa o rfl λo=>?_
 refine re<|tn<|wr<|tr<|?_
 obtain rfl:=si hm
 exact r3c (vs:=[.slice none 0 0,.slice none 0 0,.slice none 0 0,.slice none 0 0,.slice none 0 0,.slice none 0 0]) (.inl rfl) o results64 rfl rfl rfl isAgg27 sizeOf27 rfl (u.ld.cellsB t1) ⟨H,_,rfl,(show Enc.rep (α:=api_Prog) H [.slice none 0 0,.slice none 0 0,.slice none 0 0,.slice none 0 0,.slice none 0 0,.slice none 0 0] (api_Prog.mk [] [] [] [] [] []) from ⟨_,_,rfl,⟨none,0,rfl,Nat.le_refl _,SR.nil _ _⟩,⟨_,_,rfl,⟨none,0,rfl,Nat.le_refl _,SR.nil _ _⟩,⟨_,_,rfl,⟨none,0,rfl,Nat.le_refl _,SR.nil _ _⟩,⟨_,_,rfl,⟨none,0,rfl,Nat.le_refl _,SR.nil _ _⟩,⟨_,_,rfl,⟨none,0,rfl,Nat.le_refl _,SR.nil _ _⟩,⟨none,0,rfl,Nat.le_refl _,SR.nil _ _⟩⟩⟩⟩⟩⟩),(Ext.refl _ _),(St.le u),u.keep⟩
 refine tn<|cfv o rfl K7<|wk<|tn<|th<|?_
 obtain ⟨H14,P8,k4,hc13,u⟩:=St.frzS u .head O8
 refine rg<|qm o rfl λo=>qv o (Bp [SL G1 P0.1 n0] [SL G1 P0.1 n0,i6 0,i6 0,i6 0] o ⟨rfl,trivial⟩ (λw=>by kernel_rfl)) λo=>ls<|Br (cs:=[SL G1 P0.1 n0,i6 0,i6 0,i6 0].toArray) o rfl u rfl rfl λC0 w a u o=>qv o (Bp [] [.slice none 0 0,.slice none 0 0,.slice none 0 0,.slice none 0 0,.slice none 0 0,.slice none 0 0] o trivial (λw=>by kernel_rfl)) λo=>ls<|Au (cs:=[.slice none 0 0,.slice none 0 0,.slice none 0 0,.slice none 0 0,.slice none 0 0,.slice none 0 0].toArray) o rfl u zeroValue27 rfl λU0 w a u o=>qa o rfl λo=>ls<|Az o u sizeOf27 rfl rfl rfl rfl (Al rfl) .head λw u=>re<|tn<|th<|Av (λa w=>∃ (u5:(List api_Token)) (n7:Int) (u7:Int) (v7:Int) (D0:(List (List api_Cell))) (j0:PH) (A6:Option Addr) (K4:Nat) (I0:Option Addr) (E0:Nat) (X0:List Value),(Z4q N P0) u5 n7 u7 v7 D0=some r∧Ext w0 H14 j0∧Fr 128 [(2,PT b2),(5,SL G1 P0.1 n0),(8,PT C0),(9,PT U0)] a∧St w0 Nil [j0] [bk b2 [.slice none 0 0,.slice none 0 0,.slice none 0 0,.slice none 0 0,.slice none 0 0,.slice none 0 0] 27,bk C0 [SL A6 u5 K4,i6 n7,i6 u7,i6 v7] 125,sla 23 1 I0 D0.length E0 X0,bk U0 [SL I0 D0 E0,.slice none 0 0,.slice none 0 0,.slice none 0 0,.slice none 0 0,.slice none 0 0] 27] w∧u5.length≤K4∧SR j0 A6 u5∧Rows j0 X0 D0) ?_ ?_
 replace u:=u.nilS 23 1
 replace u:=u.pk [3,2,0,0] rfl
 refine wb<|lp (α:=Nat×(List api_Token)×Int×Int×Int×(List (List api_Cell))) (λ(gh:Nat×(List api_Token)×Int×Int×Int×(List (List api_Cell))) a w=>match gh with | (y6,l4,z6,A7,B7,V2)=>∃ (u4:PH) (A5:Option Addr) (I3:Nat) (L4:Option Addr) (J3:Nat) (M4:List Value),(Z4y N (Z4q N P0)) y6 l4 z6 A7 B7 V2=some r∧Ext w0 H14 u4∧Fr 128 [(2,PT b2),(5,SL G1 P0.1 n0),(8,PT C0),(9,PT U0)] a∧St w0 Nil [u4] [bk b2 [.slice none 0 0,.slice none 0 0,.slice none 0 0,.slice none 0 0,.slice none 0 0,.slice none 0 0] 27,bk C0 [SL A5 l4 I3,i6 z6,i6 A7,i6 B7] 125,sla 23 1 L4 V2.length J3 M4,bk U0 [SL L4 V2 J3,.slice none 0 0,.slice none 0 0,.slice none 0 0,.slice none 0 0,.slice none 0 0] 27] w∧l4.length≤I3∧SR u4 A5 l4∧Rows u4 M4 V2) (λgh=>gh.1) (N,P0.1,0,0,0,[]) ⟨H14,G1,n0,none,0,[],hm,(Ext.refl _ _),o.hs,u,hc13,k4,.nil⟩ ?_
 rintro ⟨y6,l4,z6,A7,B7,V2⟩ a w ⟨u4,A5,I3,L4,J3,M4,hm,z7,o,u,hcB5,hrB6,A8⟩
 obtain _ | y6:=y6
 simp [Z4y] at hm
 rw [Z4y] at hm
 refine th<|th<|?_
 obtain ⟨K3,h18,hm⟩:=bs hm
 refine rg<|qm o rfl λo=>?_
 replace u:=u.pk [1,0,0,0] rfl
 replace u:=St.sep [bk C0 [SL A5 l4 I3,i6 z6,i6 A7,i6 B7] 125] u
 refine ls<|c1 o rfl call102 (Ic (St.le u) (p1:=(leadlineref05_In.mk l4 z6 A7 B7)) (b2:=C0) (oa3:=A5) (cap4:=I3) hcB5 hrB6 (St.sepOk u) (St.sepDis u) h18) ⟨rfl,rfl,trivial⟩ (λv w a hR o=>?_)
 obtain ⟨L7,B6,rfl,Q8,R8,hk⟩:=hR
 replace u:=(u.mut hk .head).unsep
 refine re<|?_
 rcases bit hm with ⟨M7,hm⟩ | ⟨M7,hm⟩
 refine tn<|ctv o rfl M7<|wk<|tn<|wb<|?_
 obtain ⟨L3,h25,hm⟩:=bs hm
 obtain ⟨l42,h43,hm⟩:=bs hm
 refine rdL (Aa t1 (Aa t3 Ah)) 7 u wide λw u=>ds 0 (St.ldsX u i2 (Aa t1 (Aa t3 Ah))) o rfl (Af o Ca rfl) λo=>dq 1 (St.ldsX u i2 (Aa t1 (Aa t3 Ah))) o rfl (λw hl=>Ag o isAgg22 rfl (hl.cellB t1 rfl)) λo=>ds 2 (St.ldsX u i2 (Aa t1 (Aa t3 Ah))) o rfl (Ab o rfl) λo=>da1 (i:=3) (by kernel_rfl) ?_
 replace u:=u.pk [0,0,0,0] rfl
 replace u:=St.sep [bk C0 [SL L7 K3.2.L B6,i6 K3.2.At,i6 K3.2.E,i6 K3.2.Pos] 125] u
 refine di (i:=3) rfl<|c1 o rfl call103 (Rl (St.le u) (p1:=K3.2) (b2:=C0) (oa3:=L7) (cap4:=B6) Q8 R8 (St.sepOk u) (St.sepDis u) h25) ⟨rfl,rfl,trivial⟩ (λv w a hR o=>?_)
 obtain ⟨O7,C6,vs28,oa31,n8,rfl,P7,hc33,hr34,hk⟩:=hR
 replace u:=(u.mut hk .head).unsep
 replace P7:=P7 u4
 refine ⟨λ_=>(St.ldsX u i2 (Aa t2 (Aa t4 Ah))),?_⟩
 refine da1 (i:=4) (by kernel_rfl) ?_
 obtain ⟨H38,A4,hr36,hc37,u⟩:=St.frzS u (.tail .head) P7
 refine di (i:=4) rfl<|Bh (e:=23) (sz:=1) [SL O7 L3.1 C6] o rfl u rfl rfl rfl (λw=>by kernel_rfl) λb40 w a u o=>?_
 have hv39:Rows (α:=(List api_Cell)) H38 [SL O7 L3.1 C6] ([L3.1]:List (List api_Cell)):=(.cons (c:=[SL O7 L3.1 C6]) ⟨_,_,rfl,hc37,hr36⟩ .nil)
 refine ⟨λ_=>(St.ldsX u A4.sub (Aa t2 (Aa t4 Ah))),?_⟩
 refine da1 (i:=5) (by kernel_rfl) ?_
 refine di (i:=5) rfl<|Bw (α:=(List api_Cell)) (xs:=V2) (ys:=([L3.1]:List (List api_Cell))) o rfl u underlying22 Tv rfl (by decide) rfl rfl rfl t3 (A8.mono A4.sub) (u.rdO t0) hv39 h43 λoa44 v8 vs46 w a hv47 hU o=>?_
 replace u:=hU _ (.tail (.tail (.tail .head)))
 replace u:=u.drop .head
 refine ⟨λ_=>(St.ldsX u A4.sub (Aa t1 (Aa t3 Ah))),?_⟩
 refine ds 6 (St.ldsX u A4.sub (Aa t1 (Aa t3 Ah))) o rfl (Af o Ca rfl) λo=>da1 (i:=7) (by kernel_rfl) ?_
 refine di (i:=7) rfl<|Ax o u sizeOf22 rfl rfl rfl rfl (.tail (.tail (.tail .head))) .zero λw u=>⟨λh=>absurd rfl h,?_⟩
 refine de (by kernel_rfl)<|bn<|tn<|?_
 replace u:=u.pk [1,0,0,0] rfl
 exact ⟨(y6,L3.2.L,L3.2.At,L3.2.E,L3.2.Pos,l42),⟨H38,oa31,n8,oa44,v8,vs46,hm,(Ext.trans z7 A4),o.hs,u,hc33,(hr34.mono A4.sub),hv47⟩,Nat.lt_succ_self _⟩
 refine tn<|cfv o rfl M7<|we<|tx<|tx<|bx<|tn<|?_
 replace u:=u.pk [1,0,0,0] rfl
 exact ⟨K3.2.L,K3.2.At,K3.2.E,K3.2.Pos,V2,u4,L7,B6,L4,J3,M4,hm,z7,o.hs,u,Q8,R8,A8⟩
 rintro a w ⟨u5,n7,u7,v7,D0,j0,A6,K4,I0,E0,X0,hm,O4,o,u,hcA5,hrA6,y8⟩
 unfold Z4q at hm
 refine th<|Av (λa w=>∃ (B4:(List api_Token)) (D6:Int) (E6:Int) (F6:Int) (F0:(List api_Cell)) (P4:Option Addr) (M3:Nat) (J0:Option Addr) (G0:Nat) (p0:List Value),(Z4t N P0 D0) B4 D6 E6 F6 F0=some r∧Fr 128 [(2,PT b2),(5,SL G1 P0.1 n0),(8,PT C0),(9,PT U0)] a∧St w0 Nil [j0] [bk b2 [.slice none 0 0,.slice none 0 0,.slice none 0 0,.slice none 0 0,.slice none 0 0,.slice none 0 0] 27,bk C0 [SL P4 B4 M3,i6 D6,i6 E6,i6 F6] 125,sla 23 1 I0 D0.length E0 X0,sla 53 3 J0 F0.length G0 p0,bk U0 [SL I0 D0 E0,SL J0 F0 G0,.slice none 0 0,.slice none 0 0,.slice none 0 0,.slice none 0 0] 27] w∧B4.length≤M3∧SR j0 P4 B4∧Rows j0 p0 F0) ?_ ?_
 replace u:=u.nilS 53 3
 replace u:=u.pk [1,1,1,0,0] rfl
 refine wb<|lp (α:=Nat×(List api_Token)×Int×Int×Int×(List api_Cell)) (λgh a w=>match gh with | (C7,W2,B5,C5,D5,X2)=>∃ (O3:Option Addr) (B2:Nat) (Q4:Option Addr) (P3:Nat) (R4:List Value),(Z4z N (Z4t N P0 D0)) C7 W2 B5 C5 D5 X2=some r∧Fr 128 [(2,PT b2),(5,SL G1 P0.1 n0),(8,PT C0),(9,PT U0)] a∧St w0 Nil [j0] [bk b2 [.slice none 0 0,.slice none 0 0,.slice none 0 0,.slice none 0 0,.slice none 0 0,.slice none 0 0] 27,bk C0 [SL O3 W2 B2,i6 B5,i6 C5,i6 D5] 125,sla 23 1 I0 D0.length E0 X0,sla 53 3 Q4 X2.length P3 R4,bk U0 [SL I0 D0 E0,SL Q4 X2 P3,.slice none 0 0,.slice none 0 0,.slice none 0 0,.slice none 0 0] 27] w∧W2.length≤B2∧SR j0 O3 W2∧Rows j0 R4 X2) (λgh=>gh.1) (N,u5,n7,u7,v7,[]) ⟨A6,K4,none,0,[],hm,o.hs,u,hcA5,hrA6,.nil⟩ ?_
 rintro ⟨C7,W2,B5,C5,D5,X2⟩ a w ⟨O3,B2,Q4,P3,R4,hm,o,u,hcB19,hrB20,B8⟩
 obtain _ | C7:=C7
 simp [Z4z] at hm
 rw [Z4z] at hm
 refine th<|th<|?_
 obtain ⟨Q3,h49,hm⟩:=bs hm
 refine rg<|qm o rfl λo=>?_
 replace u:=u.pk [1,0,0,0,0] rfl
 replace u:=St.sep [bk C0 [SL O3 W2 B2,i6 B5,i6 C5,i6 D5] 125] u
 refine ls<|c1 o rfl call102 (Ic (St.le u) (p1:=(leadlineref05_In.mk W2 B5 C5 D5)) (b2:=C0) (oa3:=O3) (cap4:=B2) hcB19 hrB20 (St.sepOk u) (St.sepDis u) h49) ⟨rfl,rfl,trivial⟩ (λv w a hR o=>?_)
 obtain ⟨Q7,G6,rfl,S8,T8,hk⟩:=hR
 replace u:=(u.mut hk .head).unsep
 refine re<|?_
 rcases bit hm with ⟨R7,hm⟩ | ⟨R7,hm⟩
 refine tn<|ctv o rfl R7<|wk<|tn<|wb<|?_
 obtain ⟨D7,h56,hm⟩:=bs hm
 obtain ⟨l66,h67,hm⟩:=bs hm
 refine rdL (Aa t1 (Aa t2 (Aa t4 Ah))) 6 u wide λw u=>ds 0 (St.ldsX u i2 (Aa t1 (Aa t2 (Aa t4 Ah)))) o rfl (Af o Ea rfl) λo=>dq 1 (St.ldsX u i2 (Aa t1 (Aa t2 (Aa t4 Ah)))) o rfl (λw hl=>Ag o isAgg23 rfl (hl.cellB t2 rfl)) λo=>ds 2 (St.ldsX u i2 (Aa t1 (Aa t2 (Aa t4 Ah)))) o rfl (Ab o rfl) λo=>da1 (i:=3) (by kernel_rfl) ?_
 replace u:=u.pk [0,0,0,0,0] rfl
 replace u:=St.sep [bk C0 [SL Q7 Q3.2.L G6,i6 Q3.2.At,i6 Q3.2.E,i6 Q3.2.Pos] 125] u
 refine di (i:=3) rfl<|c1 o rfl call103 (Rl (St.le u) (p1:=Q3.2) (b2:=C0) (oa3:=Q7) (cap4:=G6) S8 T8 (St.sepOk u) (St.sepDis u) h56) ⟨rfl,rfl,trivial⟩ (λv w a hR o=>?_)
 obtain ⟨oa57,cap58,vs59,oa62,z8,rfl,S7,hc64,hr65,hk⟩:=hR
 replace u:=(u.mut hk .head).unsep
 replace S7:=S7 j0
 refine ⟨λ_=>(St.ldsX u i2 (Aa t2 (Aa t3 (Aa t5 Ah)))),?_⟩
 refine da1 (i:=4) (by kernel_rfl) ?_
 refine di (i:=4) rfl<|Bw (α:=api_Cell) (xs:=X2) (ys:=D7.1) o rfl u underlying23 Gq rfl (by decide) rfl rfl rfl t4 B8 (u.rdO t1) S7 h67 λoa68 A9 vs70 w a hv71 hU o=>?_
 replace u:=hU _ (.tail (.tail (.tail (.tail .head))))
 refine ⟨λ_=>(St.ldsX u i2 (Aa t2 (Aa t3 (Aa t5 Ah)))),?_⟩
 refine ds 5 (St.ldsX u i2 (Aa t2 (Aa t3 (Aa t5 Ah)))) o rfl (Af o Ea rfl) λo=>da1 (i:=6) (by kernel_rfl) ?_
 refine di (i:=6) rfl<|Ax o u sizeOf23 rfl rfl rfl rfl (.tail (.tail (.tail (.tail (.tail .head))))) (.succ .zero) λw u=>⟨λh=>absurd rfl h,?_⟩
 refine de (by kernel_rfl)<|bn<|tn<|?_
 replace u:=u.pk [2,0,1,1,1] rfl
 exact ⟨(C7,D7.2.L,D7.2.At,D7.2.E,D7.2.Pos,l66),⟨oa62,z8,oa68,A9,vs70,hm,o.hs,u,hc64,hr65,hv71⟩,Nat.lt_succ_self _⟩
 refine tn<|cfv o rfl R7<|we<|tx<|tx<|bx<|tn<|?_
 replace u:=u.pk [1,0,0,0,0] rfl
 exact ⟨Q3.2.L,Q3.2.At,Q3.2.E,Q3.2.Pos,X2,Q7,G6,Q4,P3,R4,hm,o.hs,u,S8,T8,B8⟩
 rintro a w ⟨B4,D6,E6,F6,F0,P4,M3,J0,G0,p0,hm,o,u,hcA19,hrA20,B9⟩
 unfold Z4t at hm
 refine th<|Av (λa w=>∃ (C4:(List api_Token)) (I6:Int) (J6:Int) (K6:Int) (K0:(List api_Cell)) (S4:Option Addr) (R3:Nat) (O0:Option Addr) (M0:Nat) (C1:List Value),(Z4u N P0 D0 F0) C4 I6 J6 K6 K0=some r∧Fr 128 [(2,PT b2),(5,SL G1 P0.1 n0),(8,PT C0),(9,PT U0)] a∧St w0 Nil [j0] [bk b2 [.slice none 0 0,.slice none 0 0,.slice none 0 0,.slice none 0 0,.slice none 0 0,.slice none 0 0] 27,bk C0 [SL S4 C4 R3,i6 I6,i6 J6,i6 K6] 125,sla 23 1 I0 D0.length E0 X0,sla 53 3 J0 F0.length G0 p0,sla 53 3 O0 K0.length M0 C1,bk U0 [SL I0 D0 E0,SL J0 F0 G0,SL O0 K0 M0,.slice none 0 0,.slice none 0 0,.slice none 0 0] 27] w∧C4.length≤R3∧SR j0 S4 C4∧Rows j0 C1 K0) ?_ ?_
 replace u:=u.nilS 53 3
 replace u:=u.pk [1,1,1,1,0,0] rfl
 refine wb<|lp (α:=Nat×(List api_Token)×Int×Int×Int×(List api_Cell)) (λgh a w=>match gh with | (E7,Y2,E5,F5,G5,A3)=>∃ (S3:Option Addr) (C2:Nat) (T4:Option Addr) (T3:Nat) (U4:List Value),(Z50 N (Z4u N P0 D0 F0)) E7 Y2 E5 F5 G5 A3=some r∧Fr 128 [(2,PT b2),(5,SL G1 P0.1 n0),(8,PT C0),(9,PT U0)] a∧St w0 Nil [j0] [bk b2 [.slice none 0 0,.slice none 0 0,.slice none 0 0,.slice none 0 0,.slice none 0 0,.slice none 0 0] 27,bk C0 [SL S3 Y2 C2,i6 E5,i6 F5,i6 G5] 125,sla 23 1 I0 D0.length E0 X0,sla 53 3 J0 F0.length G0 p0,sla 53 3 T4 A3.length T3 U4,bk U0 [SL I0 D0 E0,SL J0 F0 G0,SL T4 A3 T3,.slice none 0 0,.slice none 0 0,.slice none 0 0] 27] w∧Y2.length≤C2∧SR j0 S3 Y2∧Rows j0 U4 A3) (λgh=>gh.1) (N,B4,D6,E6,F6,[]) ⟨P4,M3,none,0,[],hm,o.hs,u,hcA19,hrA20,.nil⟩ ?_
 rintro ⟨E7,Y2,E5,F5,G5,A3⟩ a w ⟨S3,C2,T4,T3,U4,hm,o,u,hcB33,hrB34,C8⟩
 obtain _ | E7:=E7
 simp [Z50] at hm
 rw [Z50] at hm
 refine th<|th<|?_
 obtain ⟨U3,h73,hm⟩:=bs hm
 refine rg<|qm o rfl λo=>?_
 replace u:=u.pk [1,0,0,0,0,0] rfl
 replace u:=St.sep [bk C0 [SL S3 Y2 C2,i6 E5,i6 F5,i6 G5] 125] u
 refine ls<|c1 o rfl call102 (Ic (St.le u) (p1:=(leadlineref05_In.mk Y2 E5 F5 G5)) (b2:=C0) (oa3:=S3) (cap4:=C2) hcB33 hrB34 (St.sepOk u) (St.sepDis u) h73) ⟨rfl,rfl,trivial⟩ (λv w a hR o=>?_)
 obtain ⟨T7,L6,rfl,U8,V8,hk⟩:=hR
 replace u:=(u.mut hk .head).unsep
 refine re<|?_
 rcases bit hm with ⟨U7,hm⟩ | ⟨U7,hm⟩
 refine tn<|ctv o rfl U7<|wk<|tn<|wb<|?_
 obtain ⟨F7,h80,hm⟩:=bs hm
 obtain ⟨l90,h91,hm⟩:=bs hm
 refine rdL (Aa t1 (Aa t2 (Aa t3 (Aa t5 Ah)))) 6 u wide λw u=>ds 0 (St.ldsX u i2 (Aa t1 (Aa t2 (Aa t3 (Aa t5 Ah))))) o rfl (Af o Ed rfl) λo=>dq 1 (St.ldsX u i2 (Aa t1 (Aa t2 (Aa t3 (Aa t5 Ah))))) o rfl (λw hl=>Ag o isAgg23 rfl (hl.cellB t3 rfl)) λo=>ds 2 (St.ldsX u i2 (Aa t1 (Aa t2 (Aa t3 (Aa t5 Ah))))) o rfl (Ab o rfl) λo=>da1 (i:=3) (by kernel_rfl) ?_
 replace u:=u.pk [0,0,0,0,0,0] rfl
 replace u:=St.sep [bk C0 [SL T7 U3.2.L L6,i6 U3.2.At,i6 U3.2.E,i6 U3.2.Pos] 125] u
 refine di (i:=3) rfl<|c1 o rfl call103 (Rl (St.le u) (p1:=U3.2) (b2:=C0) (oa3:=T7) (cap4:=L6) U8 V8 (St.sepOk u) (St.sepDis u) h80) ⟨rfl,rfl,trivial⟩ (λv w a hR o=>?_)
 obtain ⟨oa81,cap82,vs83,oa86,C9,rfl,V7,hc88,hr89,hk⟩:=hR
 replace u:=(u.mut hk .head).unsep
 replace V7:=V7 j0
 refine ⟨λ_=>(St.ldsX u i2 (Aa t2 (Aa t3 (Aa t4 (Aa t6 Ah))))),?_⟩
 refine da1 (i:=4) (by kernel_rfl) ?_
 refine di (i:=4) rfl<|Bw (α:=api_Cell) (xs:=A3) (ys:=F7.1) o rfl u underlying23 Gq rfl (by decide) rfl rfl rfl t5 C8 (u.rdO t1) V7 h91 λoa92 D9 vs94 w a hv95 hU o=>?_
 replace u:=hU _ (.tail (.tail (.tail (.tail (.tail .head)))))
 refine ⟨λ_=>(St.ldsX u i2 (Aa t2 (Aa t3 (Aa t4 (Aa t6 Ah))))),?_⟩
 refine ds 5 (St.ldsX u i2 (Aa t2 (Aa t3 (Aa t4 (Aa t6 Ah))))) o rfl (Af o Ed rfl) λo=>da1 (i:=6) (by kernel_rfl) ?_
 refine di (i:=6) rfl<|Ax o u sizeOf23 rfl rfl rfl rfl (.tail (.tail (.tail (.tail (.tail (.tail .head)))))) (.succ (.succ .zero)) λw u=>⟨λh=>absurd rfl h,?_⟩
 refine de (by kernel_rfl)<|bn<|tn<|?_
 replace u:=u.pk [2,0,1,1,1,1] rfl
 exact ⟨(E7,F7.2.L,F7.2.At,F7.2.E,F7.2.Pos,l90),⟨oa86,C9,oa92,D9,vs94,hm,o.hs,u,hc88,hr89,hv95⟩,Nat.lt_succ_self _⟩
 refine tn<|cfv o rfl U7<|we<|tx<|tx<|bx<|tn<|?_
 replace u:=u.pk [1,0,0,0,0,0] rfl
 exact ⟨U3.2.L,U3.2.At,U3.2.E,U3.2.Pos,A3,T7,L6,T4,T3,U4,hm,o.hs,u,U8,V8,C8⟩
 rintro a w ⟨C4,I6,J6,K6,K0,S4,R3,O0,M0,C1,hm,o,u,hcA33,hrA34,E9⟩
 unfold Z4u at hm
 refine th<|Av (λa w=>∃ (B3:(List api_Token)) (I5:Int) (J5:Int) (K5:Int) (Q0:(List api_Thread)) (C3:PH) (V3:Option Addr) (E2:Nat) (Y0:Option Addr) (R0:Nat) (S1:List Value),(Z4v N P0 D0 F0 K0) B3 I5 J5 K5 Q0=some r∧Ext w0 j0 C3∧Fr 128 [(2,PT b2),(5,SL G1 P0.1 n0),(8,PT C0),(9,PT U0)] a∧St w0 Nil [C3] [bk b2 [.slice none 0 0,.slice none 0 0,.slice none 0 0,.slice none 0 0,.slice none 0 0,.slice none 0 0] 27,bk C0 [SL V3 B3 E2,i6 I5,i6 J5,i6 K5] 125,sla 23 1 I0 D0.length E0 X0,sla 53 3 J0 F0.length G0 p0,sla 53 3 O0 K0.length M0 C1,sla 48 4 Y0 Q0.length R0 S1,bk U0 [SL I0 D0 E0,SL J0 F0 G0,SL O0 K0 M0,SL Y0 Q0 R0,.slice none 0 0,.slice none 0 0] 27] w∧B3.length≤E2∧SR C3 V3 B3∧Rows C3 S1 Q0) ?_ ?_
 replace u:=u.nilS 48 4
 replace u:=u.pk [1,1,1,1,1,0,0] rfl
 refine wb<|lp (α:=Nat×(List api_Token)×Int×Int×Int×(List api_Thread)) (λgh a w=>match gh with | (G7,D3,L5,M5,O5,E3)=>∃ (D4:PH) (W3:Option Addr) (F2:Nat) (V4:Option Addr) (X3:Nat) (W4:List Value),(Z51 N (Z4v N P0 D0 F0 K0)) G7 D3 L5 M5 O5 E3=some r∧Ext w0 j0 D4∧Fr 128 [(2,PT b2),(5,SL G1 P0.1 n0),(8,PT C0),(9,PT U0)] a∧St w0 Nil [D4] [bk b2 [.slice none 0 0,.slice none 0 0,.slice none 0 0,.slice none 0 0,.slice none 0 0,.slice none 0 0] 27,bk C0 [SL W3 D3 F2,i6 L5,i6 M5,i6 O5] 125,sla 23 1 I0 D0.length E0 X0,sla 53 3 J0 F0.length G0 p0,sla 53 3 O0 K0.length M0 C1,sla 48 4 V4 E3.length X3 W4,bk U0 [SL I0 D0 E0,SL J0 F0 G0,SL O0 K0 M0,SL V4 E3 X3,.slice none 0 0,.slice none 0 0] 27] w∧D3.length≤F2∧SR D4 W3 D3∧Rows D4 W4 E3) (λgh=>gh.1) (N,C4,I6,J6,K6,[]) ⟨j0,S4,R3,none,0,[],hm,(Ext.refl _ _),o.hs,u,hcA33,hrA34,.nil⟩ ?_
 rintro ⟨G7,D3,L5,M5,O5,E3⟩ a w ⟨D4,W3,F2,V4,X3,W4,hm,I7,o,u,hcB48,hrB49,D8⟩
 obtain _ | G7:=G7
 simp [Z51] at hm
 rw [Z51] at hm
 refine th<|th<|?_
 obtain ⟨Y3,h97,hm⟩:=bs hm
 refine rg<|qm o rfl λo=>?_
 replace u:=u.pk [1,0,0,0,0,0,0] rfl
 replace u:=St.sep [bk C0 [SL W3 D3 F2,i6 L5,i6 M5,i6 O5] 125] u
 refine ls<|c1 o rfl call102 (Ic (St.le u) (p1:=(leadlineref05_In.mk D3 L5 M5 O5)) (b2:=C0) (oa3:=W3) (cap4:=F2) hcB48 hrB49 (St.sepOk u) (St.sepDis u) h97) ⟨rfl,rfl,trivial⟩ (λv w a hR o=>?_)
 obtain ⟨W7,M6,rfl,E8,F8,hk⟩:=hR
 replace u:=(u.mut hk .head).unsep
 refine re<|?_
 rcases bit hm with ⟨O6,hm⟩ | ⟨O6,hm⟩
 refine tn<|ctv o rfl O6<|wk<|tn<|wb<|th<|?_
 obtain ⟨T1,h104,hm⟩:=bs hm
 refine rg<|qm o rfl λo=>?_
 replace u:=u.pk [0,0,0,0,0,0,0] rfl
 replace u:=St.sep [bk C0 [SL W7 Y3.2.L M6,i6 Y3.2.At,i6 Y3.2.E,i6 Y3.2.Pos] 125] u
 refine ls<|c1 o rfl call104 (Xk (St.le u) (p1:=Y3.2) (b2:=C0) (oa3:=W7) (cap4:=M6) E8 F8 (St.sepOk u) (St.sepDis u) h104) ⟨rfl,trivial⟩ (λv w a hR o=>?_)
 obtain ⟨G8,J7,rfl,F9,G9,hk⟩:=hR
 replace u:=(u.mut hk .head).unsep
 refine ls<|Au (cs:=[Ac [],i6 0,i6 0].toArray) o rfl u zeroValue53 rfl λb109 w a u o=>ls<|Az o u sizeOf53 rfl rfl rfl rfl (Al rfl) .head λw u=>re<|tn<|?_
 obtain ⟨S0,h111,hm⟩:=bs hm
 obtain ⟨l133,h134,hm⟩:=bs hm
 refine rdL (Aa t0 (Aa t2 (Aa t3 (Aa t4 (Aa t5 (Aa t7 Ah)))))) 12 u wide λw u=>ds 0 (St.ldsX u i2 (Aa t0 (Aa t2 (Aa t3 (Aa t4 (Aa t5 (Aa t7 Ah))))))) o rfl (Af o Dd rfl) λo=>dq 1 (St.ldsX u i2 (Aa t0 (Aa t2 (Aa t3 (Aa t4 (Aa t5 (Aa t7 Ah))))))) o rfl (λw hl=>Ag o isAgg24 rfl (hl.cellB t5 rfl)) λo=>ds 2 (St.ldsX u i2 (Aa t0 (Aa t2 (Aa t3 (Aa t4 (Aa t5 (Aa t7 Ah))))))) o rfl (Ab o rfl) λo=>ds 3 (St.ldsX u i2 (Aa t0 (Aa t2 (Aa t3 (Aa t4 (Aa t5 (Aa t7 Ah))))))) o rfl (Af o Dq rfl) λo=>dq 4 (St.ldsX u i2 (Aa t0 (Aa t2 (Aa t3 (Aa t4 (Aa t5 (Aa t7 Ah))))))) o rfl (λw hl=>Ag o isAgg9 rfl (hl.cellB t0 rfl)) λo=>ds 5 (St.ldsX u i2 (Aa t0 (Aa t2 (Aa t3 (Aa t4 (Aa t5 (Aa t7 Ah))))))) o rfl (Af o Jm rfl) λo=>dq 6 (St.ldsX u i2 (Aa t0 (Aa t2 (Aa t3 (Aa t4 (Aa t5 (Aa t7 Ah))))))) o rfl (λw hl=>Ag o isAgg3 rfl (hl.cellB t0 rfl)) λo=>dq 7 (St.ldsX u i2 (Aa t0 (Aa t2 (Aa t3 (Aa t4 (Aa t5 (Aa t7 Ah))))))) o rfl (λw hl=>Bp [Ac T1.1.Name,i6 T1.1.At] [Ac T1.1.Name,.slice none 0 0,.slice none 0 0,i6 T1.1.At] o ⟨rfl,rfl,trivial⟩ (λw=>by kernel_rfl)) λo=>da1 (i:=8) (by kernel_rfl) ?_
 replace u:=u.pk [1,0,0,0,0,0,0,0] rfl
 replace u:=St.sep [bk C0 [SL G8 T1.2.L J7,i6 T1.2.At,i6 T1.2.E,i6 T1.2.Pos] 125] u
 refine di (i:=8) rfl<|c1 o rfl call105 (Xv (St.le u) (p1:=T1.2) (b2:=C0) (oa3:=G8) (cap4:=J7) F9 G9 (Nat.le_refl _) (SR.nil _ none) (St.sepOk u) (St.sepDis u) h111) ⟨rfl,rfl,trivial⟩ (λv w a hR o=>?_)
 obtain ⟨H115,cs116,I9,W8,rfl,g117,J9,K9,E1,L9,hd114,hk⟩:=hR
 obtain ⟨u,E1⟩:=And.intro (St.mutH u hk E1 L9 hd114) (St.extc0 u E1)
 replace u:=u.unsep
 obtain ⟨P6,P5,Q6,Q5,rfl,M9,O9,P9,Q9⟩:=Aw g117
 refine ⟨λ_=>(St.ldsX u E1.sub (Aa t1 (Aa t2 (Aa t3 (Aa t4 (Aa t5 (Aa t7 Ah))))))),?_⟩
 refine da1 (i:=9) (by kernel_rfl) ?_
 refine di (i:=9) rfl<|Bh (e:=48) (sz:=4) [Ac S0.1.Name,SL P6 S0.1.Regs P5,SL Q6 S0.1.Body Q5,i6 S0.1.At] o rfl u rfl rfl rfl (λw=>by kernel_rfl) λb131 w a u o=>?_
 have R9:Rows (α:=api_Thread) H115 [Ac S0.1.Name,SL P6 S0.1.Regs P5,SL Q6 S0.1.Body Q5,i6 S0.1.At] ([S0.1]:List api_Thread):=(.cons (c:=[Ac S0.1.Name,SL P6 S0.1.Regs P5,SL Q6 S0.1.Body Q5,i6 S0.1.At]) ⟨_,_,rfl,rfl,⟨_,_,rfl,⟨_,_,rfl,M9,O9⟩,⟨_,_,rfl,⟨_,_,rfl,P9,Q9⟩,rfl⟩⟩⟩ .nil)
 refine ⟨λ_=>(St.ldsX u E1.sub (Aa t2 (Aa t3 (Aa t4 (Aa t5 (Aa t6 (Aa t8 Ah))))))),?_⟩
 refine da1 (i:=10) (by kernel_rfl) ?_
 refine di (i:=10) rfl<|Bw (α:=api_Thread) (xs:=E3) (ys:=([S0.1]:List api_Thread)) o rfl u underlying24 Ik rfl (by decide) rfl rfl rfl t7 (D8.mono E1.sub) (u.rdO t0) R9 h134 λS9 X8 T9 w a U9 hU o=>?_
 replace u:=hU _ (.tail (.tail (.tail (.tail (.tail (.tail (.tail .head)))))))
 replace u:=u.drop .head
 refine ⟨λ_=>(St.ldsX u E1.sub (Aa t1 (Aa t2 (Aa t3 (Aa t4 (Aa t5 (Aa t7 Ah))))))),?_⟩
 refine ds 11 (St.ldsX u E1.sub (Aa t1 (Aa t2 (Aa t3 (Aa t4 (Aa t5 (Aa t7 Ah))))))) o rfl (Af o Dd rfl) λo=>da1 (i:=12) (by kernel_rfl) ?_
 refine di (i:=12) rfl<|Ax o u sizeOf24 rfl rfl rfl rfl (.tail (.tail (.tail (.tail (.tail (.tail (.tail .head))))))) (.succ (.succ (.succ .zero))) λw u=>⟨λh=>absurd rfl h,?_⟩
 refine de (by kernel_rfl)<|bn<|tn<|?_
 replace u:=u.pk [2,0,1,1,1,1,1] rfl
 exact ⟨(G7,S0.2.L,S0.2.At,S0.2.E,S0.2.Pos,l133),⟨H115,I9,W8,S9,X8,T9,hm,(Ext.trans I7 E1),o.hs,u,J9,K9,U9⟩,Nat.lt_succ_self _⟩
 refine tn<|cfv o rfl O6<|we<|tx<|tx<|bx<|tn<|?_
 replace u:=u.pk [1,0,0,0,0,0,0] rfl
 exact ⟨Y3.2.L,Y3.2.At,Y3.2.E,Y3.2.Pos,E3,D4,W7,M6,V4,X3,W4,hm,I7,o.hs,u,E8,F8,D8⟩
 rintro a w ⟨B3,I5,J5,K5,Q0,C3,V3,E2,Y0,R0,S1,hm,I1,o,u,hcA48,hrA49,V9⟩
 unfold Z4v at hm
 refine th<|th<|?_
 obtain ⟨U1,h140,hm⟩:=bs hm
 refine rg<|qm o rfl λo=>?_
 replace u:=u.pk [1,0,0,0,0,0,0] rfl
 replace u:=St.sep [bk C0 [SL V3 B3 E2,i6 I5,i6 J5,i6 K5] 125] u
 refine ls<|c1 o rfl call102 (Ic (St.le u) (p1:=(leadlineref05_In.mk B3 I5 J5 K5)) (b2:=C0) (oa3:=V3) (cap4:=E2) hcA48 hrA49 (St.sepOk u) (St.sepDis u) h140) ⟨rfl,rfl,trivial⟩ (λv w a hR o=>?_)
 obtain ⟨R6,R5,rfl,I8,J8,hk⟩:=hR
 replace u:=(u.mut hk .head).unsep
 refine re<|tn<|Av (λa w=>∃ (E4:(List api_Token)) (S6:Int) (T6:Int) (U6:Int) (V0:(List api_Thread)) (G2:PH) (X4:Option Addr) (l3:Nat) (u0:Option Addr) (W0:Nat) (K2:List Value),(Z4w N P0 D0 F0 K0 Q0) E4 S6 T6 U6 V0=some r∧Ext w0 C3 G2∧Fr 128 [(2,PT b2),(5,SL G1 P0.1 n0),(8,PT C0),(9,PT U0)] a∧St w0 Nil [G2] [bk b2 [.slice none 0 0,.slice none 0 0,.slice none 0 0,.slice none 0 0,.slice none 0 0,.slice none 0 0] 27,bk C0 [SL X4 E4 l3,i6 S6,i6 T6,i6 U6] 125,sla 23 1 I0 D0.length E0 X0,sla 53 3 J0 F0.length G0 p0,sla 53 3 O0 K0.length M0 C1,sla 48 4 Y0 Q0.length R0 S1,sla 48 4 u0 V0.length W0 K2,bk U0 [SL I0 D0 E0,SL J0 F0 G0,SL O0 K0 M0,SL Y0 Q0 R0,SL u0 V0 W0,.slice none 0 0] 27] w∧E4.length≤l3∧SR G2 X4 E4∧Rows G2 K2 V0) ?_ ?_
 rcases bit hm with ⟨V6,hm⟩ | ⟨V6,hm⟩
 refine ctv o rfl V6<|?_
 obtain ⟨Y8,X7,hm⟩:=bs hm
 obtain ⟨c148,g149,W9⟩:=SR.get k4 X7
 obtain rfl:=Bb g149
 obtain ⟨T0,h152,hm⟩:=bs hm
 obtain ⟨l174,h175,hm⟩:=bs hm
 refine rdL (Aa t1 (Aa t2 (Aa t3 (Aa t4 (Aa t5 (Aa t6 Ah)))))) 17 u wide λw u=>ds 0 (St.ldsX u i2 ta1) o rfl (Af o Fv rfl) λo=>dq 1 (St.ldsX u i2 ta1) o rfl (λw hl=>Ag o isAgg24 rfl (hl.cellB t5 rfl)) λo=>ds 2 (St.ldsX u i2 ta1) o rfl (Ab o rfl) λo=>ds 3 (St.ldsX u i2 ta1) o rfl (Ab o rfl) λo=>ds 4 (St.ldsX u i2 ta1) o rfl (Ab o rfl) λo=>ds 5 (St.ldsX u i2 ta1) o rfl (Aj o rfl) λo=>ds 6 (St.ldsX u i2 ta1) o rfl (Af o Bi rfl) λo=>da1 (i:=7) (by kernel_rfl) ?_
 refine di (i:=7) rfl<|q1 o rfl (Ag o isAgg3 rfl (u.ld.cellB t0 rfl)) λa o=>⟨λ_=>(St.ldsX u i2 ta1),?_⟩
 refine ds 8 (St.ldsX u i2 ta1) o rfl (Gs o rfl rfl) λo=>ds 9 (St.ldsX u i2 ta1) o rfl (Am o runUnderlying120 sizeOf130 rfl rfl X7 (SR.oaI k4 (by decide) X7)) λo=>ds 10 (St.ldsX u i2 ta1) o rfl (Af o Dl rfl) λo=>dq 11 (St.ldsX u i2 ta1) o rfl (λw hl=>Ag o isAgg3 rfl (PH.le.cell (λb o hx=>(Lds.le hl) b o ((cp I1.sub O4.sub) b o hx)) (W9 3 _ rfl))) λo=>dq 12 (St.ldsX u i2 ta1) o rfl (λw hl=>Bp [i6 Y8.At] [Ac [],.slice none 0 0,.slice none 0 0,i6 Y8.At] o ⟨rfl,trivial⟩ (λw=>by kernel_rfl)) λo=>da1 (i:=13) (by kernel_rfl) ?_
 replace u:=u.pk [0,0,0,0,0,0,0] rfl
 replace u:=St.sep [bk C0 [SL R6 U1.2.L R5,i6 U1.2.At,i6 U1.2.E,i6 U1.2.Pos] 125] u
 refine di (i:=13) rfl<|c1 o rfl call105 (Xv (St.le u) (p1:=U1.2) (b2:=C0) (oa3:=R6) (cap4:=R5) I8 J8 (Nat.le_refl _) (SR.nil _ none) (St.sepOk u) (St.sepDis u) h152) ⟨rfl,rfl,trivial⟩ (λv w a hR o=>?_)
 obtain ⟨H156,cs157,X9,d8,rfl,g158,Y9,d9,Q1,e9,hd155,hk⟩:=hR
 obtain ⟨u,Q1⟩:=And.intro (St.mutH u hk Q1 e9 hd155) (St.extc0 u Q1)
 replace u:=u.unsep
 obtain ⟨W6,S5,X6,T5,rfl,j9,k9,l9,n9⟩:=Aw g158
 refine ⟨λ_=>(St.ldsX u Q1.sub ta1),?_⟩
 refine da1 (i:=14) (by kernel_rfl) ?_
 refine di (i:=14) rfl<|Bh (e:=48) (sz:=4) [Ac T0.1.Name,SL W6 T0.1.Regs S5,SL X6 T0.1.Body T5,i6 T0.1.At] o rfl u rfl rfl rfl (λw=>by kernel_rfl) λb172 w a u o=>?_
 have o9:Rows (α:=api_Thread) H156 [Ac T0.1.Name,SL W6 T0.1.Regs S5,SL X6 T0.1.Body T5,i6 T0.1.At] ([T0.1]:List api_Thread):=(.cons (c:=[Ac T0.1.Name,SL W6 T0.1.Regs S5,SL X6 T0.1.Body T5,i6 T0.1.At]) ⟨_,_,rfl,rfl,⟨_,_,rfl,⟨_,_,rfl,j9,k9⟩,⟨_,_,rfl,⟨_,_,rfl,l9,n9⟩,rfl⟩⟩⟩ .nil)
 refine ⟨λ_=>(St.ldsX u Q1.sub ta2),?_⟩
 refine da1 (i:=15) (by kernel_rfl) ?_
 replace u:=u.nilS 48 4
 refine di (i:=15) rfl<|Bw (α:=api_Thread) (xs:=[]) (ys:=([T0.1]:List api_Thread)) o rfl u underlying24 Ik rfl (by decide) rfl rfl rfl t0 .nil (u.rdO t1) o9 h175 λp9 e8 u9 w a y9 hU o=>?_
 replace u:=hU _ .head
 replace u:=u.drop (.tail .head)
 refine ⟨λ_=>(St.ldsX u Q1.sub ta2),?_⟩
 refine ds 16 (St.ldsX u Q1.sub ta2) o rfl (Af o Fv rfl) λo=>da1 (i:=17) (by kernel_rfl) ?_
 refine di (i:=17) rfl<|Ax o u sizeOf24 rfl rfl rfl rfl (.tail (.tail (.tail (.tail (.tail (.tail (.tail .head))))))) (.succ (.succ (.succ (.succ .zero)))) λw u=>⟨λh=>absurd rfl h,?_⟩
 refine de (by kernel_rfl)<|tn<|?_
 replace u:=u.pk [2,1,1,1,1,1,0,0] rfl
 exact ⟨T0.2.L,T0.2.At,T0.2.E,T0.2.Pos,l174,H156,X9,d8,p9,e8,u9,hm,Q1,o.hs,u,Y9,d9,y9⟩
 refine cfv o rfl V6<|wk<|tn<|?_
 replace u:=u.nilS 48 4
 replace u:=u.pk [2,1,1,1,1,1,0,0] rfl
 exact ⟨U1.2.L,U1.2.At,U1.2.E,U1.2.Pos,[],C3,R6,R5,none,0,[],hm,(Ext.refl _ _),o.hs,u,I8,J8,.nil⟩
 rintro a w ⟨E4,S6,T6,U6,V0,G2,X4,l3,u0,W0,K2,hm,J1,o,u,hcA63,hrA64,hvA72⟩
 unfold Z4w at hm
 refine th<|Av (λa w=>∃ (I2:(List api_Token)) (F4:Int) (G4:Int) (I4:Int) (M1:(List api_Claim)) (V1:PH) (M2:Option Addr) (R1:Nat) (X1:Option Addr) (O1:Nat) (Y4:List Value),(Z4r N P0 D0 F0 K0 Q0 V0) I2 F4 G4 I4 M1=some r∧Ext w0 G2 V1∧Fr 128 [(2,PT b2),(5,SL G1 P0.1 n0),(8,PT C0),(9,PT U0)] a∧St w0 Nil [V1] [bk b2 [.slice none 0 0,.slice none 0 0,.slice none 0 0,.slice none 0 0,.slice none 0 0,.slice none 0 0] 27,bk C0 [SL M2 I2 R1,i6 F4,i6 G4,i6 I4] 125,sla 23 1 I0 D0.length E0 X0,sla 53 3 J0 F0.length G0 p0,sla 53 3 O0 K0.length M0 C1,sla 48 4 Y0 Q0.length R0 S1,sla 48 4 u0 V0.length W0 K2,sla 74 2 X1 M1.length O1 Y4,bk U0 [SL I0 D0 E0,SL J0 F0 G0,SL O0 K0 M0,SL Y0 Q0 R0,SL u0 V0 W0,SL X1 M1 O1] 27] w∧I2.length≤R1∧SR V1 M2 I2∧Rows V1 Y4 M1) ?_ ?_
 replace u:=u.nilS 74 2
 replace u:=u.pk [1,1,1,1,1,1,1,0,0] rfl
 refine wb<|lp (α:=Nat×(List api_Token)×Int×Int×Int×(List api_Claim)) (λgh a w=>match gh with | (U5,F3,V5,W5,X5,G3)=>∃ (J4:PH) (n3:Option Addr) (J2:Nat) (d4:Option Addr) (u3:Nat) (j4:List Value),(Z4x N (Z4r N P0 D0 F0 K0 Q0 V0) P0) U5 F3 V5 W5 X5 G3=some r∧Ext w0 G2 J4∧Fr 128 [(2,PT b2),(5,SL G1 P0.1 n0),(8,PT C0),(9,PT U0)] a∧St w0 Nil [J4] [bk b2 [.slice none 0 0,.slice none 0 0,.slice none 0 0,.slice none 0 0,.slice none 0 0,.slice none 0 0] 27,bk C0 [SL n3 F3 J2,i6 V5,i6 W5,i6 X5] 125,sla 23 1 I0 D0.length E0 X0,sla 53 3 J0 F0.length G0 p0,sla 53 3 O0 K0.length M0 C1,sla 48 4 Y0 Q0.length R0 S1,sla 48 4 u0 V0.length W0 K2,sla 74 2 d4 G3.length u3 j4,bk U0 [SL I0 D0 E0,SL J0 F0 G0,SL O0 K0 M0,SL Y0 Q0 R0,SL u0 V0 W0,SL d4 G3 u3] 27] w∧F3.length≤J2∧SR J4 n3 F3∧Rows J4 j4 G3) (λgh=>gh.1) (N,E4,S6,T6,U6,[]) ⟨G2,X4,l3,none,0,[],hm,(Ext.refl _ _),o.hs,u,hcA63,hrA64,.nil⟩ ?_
 rintro ⟨U5,F3,V5,W5,X5,G3⟩ a w ⟨J4,n3,J2,d4,u3,j4,hm,Y5,o,u,hcB63,hrB64,K8⟩
 obtain _ | U5:=U5
 simp [Z4x] at hm
 rw [Z4x] at hm
 refine th<|th<|?_
 obtain ⟨Y1,h182,hm⟩:=bs hm
 refine rg<|qm o rfl λo=>?_
 replace u:=u.pk [1,0,0,0,0,0,0,0,0] rfl
 replace u:=St.sep [bk C0 [SL n3 F3 J2,i6 V5,i6 W5,i6 X5] 125] u
 refine ls<|c1 o rfl call102 (Ic (St.le u) (p1:=(leadlineref05_In.mk F3 V5 W5 X5)) (b2:=C0) (oa3:=n3) (cap4:=J2) hcB63 hrB64 (St.sepOk u) (St.sepDis u) h182) ⟨rfl,rfl,trivial⟩ (λv w a hR o=>?_)
 obtain ⟨Y6,d5,rfl,L8,M8,hk⟩:=hR
 replace u:=(u.mut hk .head).unsep
 refine re<|?_
 rcases bit hm with ⟨d6,hm⟩ | ⟨d6,hm⟩
 refine tn<|ctv o rfl d6<|wk<|tn<|wb<|?_
 obtain ⟨x188,Y7,hm⟩:=bs hm
 obtain ⟨c190,g191,hl192⟩:=SR.get k4 Y7
 obtain rfl:=Bb g191
 obtain ⟨B1,h194,hm⟩:=bs hm
 obtain ⟨l212,h213,hm⟩:=bs hm
 refine rdL (Aa t1 (Aa t2 (Aa t3 (Aa t4 (Aa t5 (Aa t6 (Aa t8 Ah))))))) 16 u wide λw u=>ds 0 (St.ldsX u i2 (Aa t1 (Aa t2 (Aa t3 (Aa t4 (Aa t5 (Aa t6 (Aa t8 Ah)))))))) o rfl (Af o Cz rfl) λo=>dq 1 (St.ldsX u i2 (Aa t1 (Aa t2 (Aa t3 (Aa t4 (Aa t5 (Aa t6 (Aa t8 Ah)))))))) o rfl (λw hl=>Ag o isAgg25 rfl (hl.cellB t6 rfl)) λo=>ds 2 (St.ldsX u i2 (Aa t1 (Aa t2 (Aa t3 (Aa t4 (Aa t5 (Aa t6 (Aa t8 Ah)))))))) o rfl (Ab o rfl) λo=>ds 3 (St.ldsX u i2 (Aa t1 (Aa t2 (Aa t3 (Aa t4 (Aa t5 (Aa t6 (Aa t8 Ah)))))))) o rfl (Ab o rfl) λo=>ds 4 (St.ldsX u i2 (Aa t1 (Aa t2 (Aa t3 (Aa t4 (Aa t5 (Aa t6 (Aa t8 Ah)))))))) o rfl (Ab o rfl) λo=>ds 5 (St.ldsX u i2 (Aa t1 (Aa t2 (Aa t3 (Aa t4 (Aa t5 (Aa t6 (Aa t8 Ah)))))))) o rfl (Aj o rfl) λo=>ds 6 (St.ldsX u i2 (Aa t1 (Aa t2 (Aa t3 (Aa t4 (Aa t5 (Aa t6 (Aa t8 Ah)))))))) o rfl (Af o Bi rfl) λo=>da1 (i:=7) (by kernel_rfl) ?_
 refine di (i:=7) rfl<|q1 o rfl (Ag o isAgg3 rfl (u.ld.cellB t0 rfl)) λa o=>⟨λ_=>(St.ldsX u i2 (Aa t1 (Aa t2 (Aa t3 (Aa t4 (Aa t5 (Aa t6 (Aa t8 Ah)))))))),?_⟩
 refine ds 8 (St.ldsX u i2 (Aa t1 (Aa t2 (Aa t3 (Aa t4 (Aa t5 (Aa t6 (Aa t8 Ah)))))))) o rfl (Gs o rfl rfl) λo=>ds 9 (St.ldsX u i2 (Aa t1 (Aa t2 (Aa t3 (Aa t4 (Aa t5 (Aa t6 (Aa t8 Ah)))))))) o rfl (Am o runUnderlying120 sizeOf130 rfl rfl Y7 (SR.oaI k4 (by decide) Y7)) λo=>ds 10 (St.ldsX u i2 (Aa t1 (Aa t2 (Aa t3 (Aa t4 (Aa t5 (Aa t6 (Aa t8 Ah)))))))) o rfl (Af o Dl rfl) λo=>dq 11 (St.ldsX u i2 (Aa t1 (Aa t2 (Aa t3 (Aa t4 (Aa t5 (Aa t6 (Aa t8 Ah)))))))) o rfl (λw hl=>Ag o isAgg3 rfl (PH.le.cell (λb o hx=>(Lds.le hl) b o ((cp (cp (cp Y5.sub J1.sub) I1.sub) O4.sub) b o hx)) (hl192 3 _ rfl))) λo=>da1 (i:=12) (by kernel_rfl) ?_
 replace u:=u.pk [0,0,0,0,0,0,0,0,0] rfl
 replace u:=St.sep [bk C0 [SL Y6 Y1.2.L d5,i6 Y1.2.At,i6 Y1.2.E,i6 Y1.2.Pos] 125] u
 refine di (i:=12) rfl<|c1 o rfl call106 (Jbh (St.le u) (p1:=Y1.2) (b2:=C0) (oa3:=Y6) (cap4:=d5) L8 M8 (St.sepOk u) (St.sepDis u) h194) ⟨rfl,rfl,trivial⟩ (λv w a hR o=>?_)
 obtain ⟨H198,cs199,oa205,j8,rfl,g200,hc207,hr208,F1,hl196,hd197,hk⟩:=hR
 obtain ⟨u,F1⟩:=And.intro (St.mutH u hk F1 hl196 hd197) (St.extc0 u F1)
 replace u:=u.unsep
 obtain ⟨j6,j5,rfl,hc203,hr204⟩:=Cf g200
 refine ⟨λ_=>(St.ldsX u F1.sub (Aa t1 (Aa t2 (Aa t3 (Aa t4 (Aa t5 (Aa t6 (Aa t8 Ah)))))))),?_⟩
 refine da1 (i:=13) (by kernel_rfl) ?_
 refine di (i:=13) rfl<|Bh (e:=74) (sz:=2) [SL j6 B1.1.E j5,i6 B1.1.At] o rfl u rfl rfl rfl (λw=>by kernel_rfl) λb210 w a u o=>?_
 have hv209:Rows (α:=api_Claim) H198 [SL j6 B1.1.E j5,i6 B1.1.At] ([B1.1]:List api_Claim):=(.cons (c:=[SL j6 B1.1.E j5,i6 B1.1.At]) ⟨_,_,rfl,⟨_,_,rfl,hc203,hr204⟩,rfl⟩ .nil)
 refine ⟨λ_=>(St.ldsX u F1.sub (Aa t2 (Aa t3 (Aa t4 (Aa t5 (Aa t6 (Aa t7 (Aa t9 Ah)))))))),?_⟩
 refine da1 (i:=14) (by kernel_rfl) ?_
 refine di (i:=14) rfl<|Bw (α:=api_Claim) (xs:=G3) (ys:=([B1.1]:List api_Claim)) o rfl u underlying25 Uz rfl (by decide) rfl rfl rfl t8 (K8.mono F1.sub) (u.rdO t0) hv209 h213 λoa214 k8 vs216 w a hv217 hU o=>?_
 replace u:=hU _ (.tail (.tail (.tail (.tail (.tail (.tail (.tail (.tail .head))))))))
 replace u:=u.drop .head
 refine ⟨λ_=>(St.ldsX u F1.sub (Aa t1 (Aa t2 (Aa t3 (Aa t4 (Aa t5 (Aa t6 (Aa t8 Ah)))))))),?_⟩
 refine ds 15 (St.ldsX u F1.sub (Aa t1 (Aa t2 (Aa t3 (Aa t4 (Aa t5 (Aa t6 (Aa t8 Ah)))))))) o rfl (Af o Cz rfl) λo=>da1 (i:=16) (by kernel_rfl) ?_
 refine di (i:=16) rfl<|Ax o u sizeOf25 rfl rfl rfl rfl (.tail (.tail (.tail (.tail (.tail (.tail (.tail (.tail .head)))))))) (.succ (.succ (.succ (.succ (.succ .zero))))) λw u=>⟨λh=>absurd rfl h,?_⟩
 refine de (by kernel_rfl)<|bn<|tn<|?_
 replace u:=u.pk [1,0,0,0,0,0,0,0,0] rfl
 exact ⟨(U5,B1.2.L,B1.2.At,B1.2.E,B1.2.Pos,l212),⟨H198,oa205,j8,oa214,k8,vs216,hm,(Ext.trans Y5 F1),o.hs,u,hc207,hr208,hv217⟩,Nat.lt_succ_self _⟩
 refine tn<|cfv o rfl d6<|we<|tx<|tx<|bx<|tn<|?_
 replace u:=u.pk [1,0,0,0,0,0,0,0,0] rfl
 exact ⟨Y1.2.L,Y1.2.At,Y1.2.E,Y1.2.Pos,G3,J4,Y6,d5,d4,u3,j4,hm,Y5,o.hs,u,L8,M8,K8⟩
 rintro a w ⟨I2,F4,G4,I4,M1,V1,M2,R1,X1,O1,Y4,hm,P1,o,u,hcA78,hrA79,hvA87⟩
 unfold Z4r at hm
 refine th<|th<|rg<|qm o rfl λo=>qv o (Aj o rfl) λo=>qv o (Af o Bi rfl) λo=>qv o (Ag o isAgg3 rfl (u.ld.cellB t1 rfl)) λo=>qm o rfl λo=>qv o (Ak (α:=api_Token) (xs:=P0.1) o runUnderlying120 rfl) λo=>qv o (Ao o rfl rfl) λo=>re<|tn<|Av (λa w=>∃ (k5:(List api_Token)) (d7:Int) (j7:Int) (k7:Int) (k6:Option Addr) (n5:Nat),(Z4s D0 F0 K0 Q0 V0 M1) k5 d7 j7 k7=some r∧Fr 128 [(2,PT b2),(8,PT C0),(9,PT U0)] a∧St w0 Nil [V1] [bk b2 [.slice none 0 0,.slice none 0 0,.slice none 0 0,.slice none 0 0,.slice none 0 0,.slice none 0 0] 27,bk C0 [SL k6 k5 n5,i6 d7,i6 j7,i6 k7] 125,sla 23 1 I0 D0.length E0 X0,sla 53 3 J0 F0.length G0 p0,sla 53 3 O0 K0.length M0 C1,sla 48 4 Y0 Q0.length R0 S1,sla 48 4 u0 V0.length W0 K2,sla 74 2 X1 M1.length O1 Y4,bk U0 [SL I0 D0 E0,SL J0 F0 G0,SL O0 K0 M0,SL Y0 Q0 R0,SL u0 V0 W0,SL X1 M1 O1] 27] w∧k5.length≤n5∧SR V1 k6 k5) ?_ ?_
 rcases bip hm with ⟨n6,hm⟩ | ⟨n6,hm⟩
 refine ctv o rfl n6<|?_
 obtain ⟨u6,h220,hm⟩:=bs hm
 refine rg<|qm o rfl λo=>?_
 replace u:=u.pk [1,0,0,0,0,0,0,0,0] rfl
 replace u:=St.sep [bk C0 [SL M2 I2 R1,i6 F4,i6 G4,i6 I4] 125] u
 refine ls<|c1 o rfl call107 (Rk (St.le u) (p1:=(leadlineref05_In.mk I2 F4 G4 I4)) (b2:=C0) (oa3:=M2) (cap4:=R1) hcA78 hrA79 (St.sepOk u) (St.sepDis u) h220) ⟨rfl,trivial⟩ (λv w a hR o=>?_)
 obtain ⟨oa221,l8,rfl,hc223,hr224,hk⟩:=hR
 replace u:=(u.mut hk .head).unsep
 refine re<|tn<|?_
 replace u:=u.pk [1,0,0,0,0,0,0,0,0] rfl
 exact ⟨u6.L,u6.At,u6.E,u6.Pos,oa221,l8,hm,o.hs,u,hc223,hr224⟩
 refine cfv o rfl n6<|wk<|tn<|?_
 exact ⟨I2,F4,G4,I4,M2,R1,hm,o.hs,u,hcA78,hrA79⟩
 rintro a w ⟨k5,d7,j7,k7,k6,n5,hm,o,u,hcA92,hrA93⟩
 unfold Z4s at hm
 refine th<|th<|rg<|qm o rfl λo=>qv o (Aj o rfl) λo=>qv o (Af o Cs rfl) λo=>qv o (Ag o isAgg29 rfl (u.ld.cellB t1 rfl)) λo=>qv o (Bt o rfl rfl) λo=>re<|?_
 rcases bip hm with ⟨v6,hm⟩ | ⟨v6,hm⟩
 refine tn<|ctv o rfl v6<|th<|rdL (Aa t1 (Aa t2 (Aa t3 (Aa t4 (Aa t5 (Aa t6 (Aa t7 (Aa t8 Ah)))))))) 12 u wide λw u=>dq 0 (St.ldsX u i2 ta1) o rfl (λw hl=>Bp [] [.slice none 0 0,.slice none 0 0,.slice none 0 0,.slice none 0 0,.slice none 0 0,.slice none 0 0] o trivial (λw=>by kernel_rfl)) λo=>ds 1 (St.ldsX u i2 ta1) o rfl (Ab o rfl) λo=>ds 2 (St.ldsX u i2 ta1) o rfl (Aj o rfl) λo=>ds 3 (St.ldsX u i2 ta1) o rfl (Af o Cs rfl) λo=>dq 4 (St.ldsX u i2 ta1) o rfl (λw hl=>Ag o isAgg29 rfl (hl.cellB t0 rfl)) λo=>ds 5 (St.ldsX u i2 ta1) o rfl (Ab o rfl) λo=>ds 6 (St.ldsX u i2 ta1) o rfl (Aj o rfl) λo=>ds 7 (St.ldsX u i2 ta1) o rfl (Af o Fo rfl) λo=>dq 8 (St.ldsX u i2 ta1) o rfl (λw hl=>Ag o isAgg3 rfl (hl.cellB t0 rfl)) λo=>da1 (i:=9) (by kernel_rfl) ?_
 refine di (i:=9) rfl<|Az o u sizeOf27 rfl rfl rfl rfl (Al rfl) .head λw u=>⟨λ_=>(St.ldsX u i2 ta1),?_⟩
 refine ds 10 (St.ldsX u i2 ta1) o rfl (Bq o rfl) λo=>ds 11 (St.ldsX u i2 ta1) o rfl (Bq o rfl) λo=>de (by kernel_rfl)<|tn<|wr<|tr<|?_
 obtain rfl:=si hm
 exact r3c (vs:=[.slice none 0 0,.slice none 0 0,.slice none 0 0,.slice none 0 0,.slice none 0 0,.slice none 0 0]) (.inl rfl) o results64 rfl rfl rfl isAgg27 sizeOf27 rfl (u.ld.cellsB t0) ⟨V1,_,rfl,(show Enc.rep (α:=api_Prog) V1 [.slice none 0 0,.slice none 0 0,.slice none 0 0,.slice none 0 0,.slice none 0 0,.slice none 0 0] (api_Prog.mk [] [] [] [] [] []) from ⟨_,_,rfl,⟨none,0,rfl,Nat.le_refl _,SR.nil _ _⟩,⟨_,_,rfl,⟨none,0,rfl,Nat.le_refl _,SR.nil _ _⟩,⟨_,_,rfl,⟨none,0,rfl,Nat.le_refl _,SR.nil _ _⟩,⟨_,_,rfl,⟨none,0,rfl,Nat.le_refl _,SR.nil _ _⟩,⟨_,_,rfl,⟨none,0,rfl,Nat.le_refl _,SR.nil _ _⟩,⟨none,0,rfl,Nat.le_refl _,SR.nil _ _⟩⟩⟩⟩⟩⟩),(Ext.trans P8 (Ext.trans O4 (Ext.trans I1 (Ext.trans J1 P1)))),(St.le u),u.keep⟩
 refine tn<|cfv o rfl v6<|wk<|tn<|th<|rg<|qv o (Ay o Tryz.isAgg27 Tryz.sizeOf27 rfl rfl (u.ld.cellsB t8)) λo=>ls<|Az o u sizeOf27 rfl rfl rfl rfl (Al rfl) .head λw u=>?_
 iterate 2 refine qa o rfl λo=>?_
 refine re<|tn<|wr<|?_
 obtain ⟨H229,O2,hr227,hc228,u⟩:=St.frzS u (.tail (.tail .head)) (y8.mono (cp (cp P1.sub J1.sub) I1.sub))
 obtain ⟨H233,P2,hr231,hc232,u⟩:=St.frzS u (.tail (.tail .head)) (B9.mono (cp (cp (cp O2.sub P1.sub) J1.sub) I1.sub))
 obtain ⟨H237,Q2,hr235,hc236,u⟩:=St.frzS u (.tail (.tail .head)) (E9.mono (cp (cp (cp (cp P2.sub O2.sub) P1.sub) J1.sub) I1.sub))
 obtain ⟨H241,R2,hr239,hc240,u⟩:=St.frzS u (.tail (.tail .head)) (V9.mono (cp (cp (cp (cp Q2.sub P2.sub) O2.sub) P1.sub) J1.sub))
 obtain ⟨H245,T2,hr243,hc244,u⟩:=St.frzS u (.tail (.tail .head)) (hvA72.mono (cp (cp (cp (cp R2.sub Q2.sub) P2.sub) O2.sub) P1.sub))
 obtain ⟨H249,U2,hr247,hc248,u⟩:=St.frzS u (.tail (.tail .head)) (hvA87.mono (cp (cp (cp (cp T2.sub R2.sub) Q2.sub) P2.sub) O2.sub))
 obtain rfl:=si hm
 exact r3c (vs:=[SL I0 D0 E0,SL J0 F0 G0,SL O0 K0 M0,SL Y0 Q0 R0,SL u0 V0 W0,SL X1 M1 O1]) (.inl rfl) o results64 rfl rfl rfl isAgg27 sizeOf27 rfl (u.ld.cellsB t0) ⟨H249,_,rfl,(show Enc.rep (α:=api_Prog) H249 [SL I0 D0 E0,SL J0 F0 G0,SL O0 K0 M0,SL Y0 Q0 R0,SL u0 V0 W0,SL X1 M1 O1] (api_Prog.mk D0 F0 K0 Q0 V0 M1) from ⟨_,_,rfl,⟨_,_,rfl,hc228,(hr227.mono (cp (cp (cp (cp U2.sub T2.sub) R2.sub) Q2.sub) P2.sub))⟩,⟨_,_,rfl,⟨_,_,rfl,hc232,(hr231.mono (cp (cp (cp U2.sub T2.sub) R2.sub) Q2.sub))⟩,⟨_,_,rfl,⟨_,_,rfl,hc236,(hr235.mono (cp (cp U2.sub T2.sub) R2.sub))⟩,⟨_,_,rfl,⟨_,_,rfl,hc240,(hr239.mono (cp U2.sub T2.sub))⟩,⟨_,_,rfl,⟨_,_,rfl,hc244,(hr243.mono U2.sub)⟩,⟨_,_,rfl,hc248,hr247⟩⟩⟩⟩⟩⟩),(Ext.trans P8 (Ext.trans O4 (Ext.trans I1 (Ext.trans J1 (Ext.trans P1 (Ext.trans O2 (Ext.trans P2 (Ext.trans Q2 (Ext.trans R2 (Ext.trans T2 U2)))))))))),(St.le u),u.keep⟩
theorem Kn (hH:H.le w0) {p1:Str} {r:api_Prog} (hm:Z14 N p1=some r):Tot Tryz.prog 19 #[Ac p1] w0 (λv w'=>∃ (H':PH) (cs0:List Value),v=.agg cs0.toArray∧Enc.rep H' cs0 r∧Ext w0 H H'∧H'.le w'∧Keep Nil w0 w'):=by
 unfold Z14 at hm
 refine fn0 func19 rfl ntmps19 rfl rfl λa o=>?_
 have u:St w0 Nil [H] [] w0:=start1 hH
 refine th<|rg<|ls<|Au (cs:=[.slice none 0 0,.slice none 0 0,.slice none 0 0,.slice none 0 0,.slice none 0 0,.slice none 0 0].toArray) o rfl u Tryz.zeroValue27 rfl λb2 w a u o=>re<|tn<|th<|?_
 obtain ⟨C0,h4,hm⟩:=bs hm
 refine rg<|qm o rfl λo=>ls<|c1 o rfl call64 (Jbg (St.le u) h4) ⟨rfl,trivial⟩ (λv w a hR o=>?_)
 obtain ⟨H8,cs9,rfl,E1,D0,F1,hk⟩:=hR
 obtain ⟨u,D0⟩:=And.intro (St.passH u hk D0 F1) (St.extc u D0)
 obtain ⟨M0,E0,O0,F0,P0,G0,Q0,I0,R0,J0,S0,K0,rfl,T0,U0,V0,W0,X0,Y0,j0,n0,p0,u0,B1,C1⟩:=Aq E1
 refine qm o rfl λo=>?_
 iterate 3 refine qv o (Cd o rfl rfl) λo=>?_
 refine ls<|Au (cs:=[.slice none 0 0,.slice none 0 0,.slice none 0 0,.slice none 0 0,.slice none 0 0,.slice none 0 0].toArray) o rfl u zeroValue27 rfl λG1 w a u o=>ls<|Az o u sizeOf27 rfl rfl rfl rfl (Al rfl) .head λw u=>?_
 iterate 2 refine qa o rfl λo=>?_
 refine re<|tn<|th<|rg<|qv o (Ay o Tryz.isAgg27 Tryz.sizeOf27 rfl rfl (u.ld.cellsB t0)) λo=>ls<|Az o u sizeOf27 rfl rfl rfl rfl (Al rfl) (.tail .head) λw u=>re<|tn<|wr<|?_
 obtain rfl:=si hm
 exact r1c (vs:=[SL M0 C0.1.Lines E0,SL O0 C0.1.Vols F0,SL P0 C0.1.Locks G0,SL Q0 C0.1.Threads I0,SL R0 C0.1.Recover J0,SL S0 C0.1.Claims K0]) (.inl rfl) o results19 rfl isAgg27 sizeOf27 rfl (u.ld.cellsB t1) ⟨H8,_,rfl,(show Enc.rep (α:=api_Prog) H8 [SL M0 C0.1.Lines E0,SL O0 C0.1.Vols F0,SL P0 C0.1.Locks G0,SL Q0 C0.1.Threads I0,SL R0 C0.1.Recover J0,SL S0 C0.1.Claims K0] C0.1 from ⟨_,_,rfl,⟨_,_,rfl,T0,U0⟩,⟨_,_,rfl,⟨_,_,rfl,V0,W0⟩,⟨_,_,rfl,⟨_,_,rfl,X0,Y0⟩,⟨_,_,rfl,⟨_,_,rfl,j0,n0⟩,⟨_,_,rfl,⟨_,_,rfl,p0,u0⟩,⟨_,_,rfl,B1,C1⟩⟩⟩⟩⟩⟩),D0,(St.le u),u.keep⟩
end Go.LM.LB
