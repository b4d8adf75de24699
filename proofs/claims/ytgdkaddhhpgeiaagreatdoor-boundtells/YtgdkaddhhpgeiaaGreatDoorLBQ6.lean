/- Walks, lifted by program. No condition beyond the theorems' own premises. -/
import Derived.Test.YtgdkaddhhpgeiaaGreatDoorLBQ5
namespace Go.LM.LB
open Go Go.LL Go.MD Go.LM Go.Proofs Go.MD.LB Go.Proofs.Tryz
set_option maxRecDepth 100000
variable {N:Nat} {w0:World} {H:PH}
set_option maxHeartbeats 4000000 in
theorem JbX (hH:H.le w0) {b2:Nat} {p1:leadlineref04_P} {oa3:Option Addr} {cap4:Nat} (T1:p1.L.length≤cap4) (U1:SR H oa3 p1.L) {oa7:Option Addr} {cap8:Nat} {vs9:List Value} (C0:Rows H vs9 p1.Out) {p12:Int} {p13:Int} (hO:(sepA [bk b2 [SL oa3 p1.L cap4,i6 p1.At,i6 p1.E,i6 p1.Pos,SL oa7 p1.Out cap8] 171,sla 51 9 oa7 p1.Out.length cap8 vs9]).ok (hp w0)) (hD:∀ b,(sepA [bk b2 [SL oa3 p1.L cap4,i6 p1.At,i6 p1.E,i6 p1.Pos,SL oa7 p1.Out cap8] 171,sla 51 9 oa7 p1.Out.length cap8 vs9]).fp b→H b=none) {r:(api_Stmt×leadlineref04_P)} (hm:Z45 N p1 p12 p13=some r):Tot Tryz.prog 168 #[PT b2,i6 p12,i6 p13] w0 (λv w'=>∃ (H':PH) (cs0:List Value) (oa1m:Option Addr) (cap1m:Nat) (oa2m:Option Addr) (cap2m:Nat) (vs2m:List Value),v=.agg cs0.toArray∧Enc.rep H' cs0 r.1∧r.2.L.length≤cap1m∧SR H' oa1m r.2.L∧Rows H' vs2m r.2.Out∧ExtM w0 (sepA [bk b2 [SL oa3 p1.L cap4,i6 p1.At,i6 p1.E,i6 p1.Pos,SL oa7 p1.Out cap8] 171,sla 51 9 oa7 p1.Out.length cap8 vs9]).fp H H'∧H'.le w'∧(∀ b,(sepA [bk b2 [SL oa1m r.2.L cap1m,i6 r.2.At,i6 r.2.E,i6 r.2.Pos,SL oa2m r.2.Out cap2m] 171,sla 51 9 oa2m r.2.Out.length cap2m vs2m]).fp b→H' b=none)∧Mut w0 (sepA [bk b2 [SL oa3 p1.L cap4,i6 p1.At,i6 p1.E,i6 p1.Pos,SL oa7 p1.Out cap8] 171,sla 51 9 oa7 p1.Out.length cap8 vs9]) (sepA [bk b2 [SL oa1m r.2.L cap1m,i6 r.2.At,i6 r.2.E,i6 r.2.Pos,SL oa2m r.2.Out cap2m] 171,sla 51 9 oa2m r.2.Out.length cap2m vs2m]) w'):=by
 unfold Z45 at hm
 refine fn0 func168 rfl ntmps168 rfl rfl λa o=>?_
 have u:=Cn hH hO hD
 refine th<|rg<|ls<|Av (cs:=[i6 0,Ac [],Ac [],.slice none 0 0,.slice none 0 0,i6 0,i6 0,i6 0,i6 0].toArray) o rfl u Tryz.zeroValue51 rfl λC3 w a u o=>re<|tn<|th<|rg<|qm o rfl λo=>qm o rfl λo=>qv o (Bq [i6 p12,i6 p13] [i6 p12,Ac [],Ac [],.slice none 0 0,.slice none 0 0,i6 0,i6 0,i6 0,i6 p13] o ⟨rfl,rfl,trivial⟩ (λw=>by kernel_rfl)) λo=>ls<|Av (cs:=[i6 0,Ac [],Ac [],.slice none 0 0,.slice none 0 0,i6 0,i6 0,i6 0,i6 0].toArray) o rfl u zeroValue51 rfl λD3 w a u o=>ls<|Aw o u sizeOf51 rfl rfl rfl rfl (Al rfl) .head λw u=>re<|tn<|th<|th<|rg<|qm o rfl λo=>re<|tn<|Au (λa w=>∃ (C4:(List api_Token)) (K5:Int) (L5:Int) (M5:Int) (K2:(List api_Stmt)) (E1:Str) (F1:Str) (D0:(List api_Node)) (E0:(List api_Node)) (G1:Int) (U0:PH) (G3:Option Addr) (Y1:Nat) (B2:Option Addr) (V0:Nat) (C2:List Value) (W0:Option Addr) (F0:Nat) (X0:Option Addr) (G0:Nat),(Z46 p12 p13) C4 K5 L5 M5 K2 E1 F1 D0 E0 G1=some r∧ExtM w0 (sepA [bk b2 [SL oa3 p1.L cap4,i6 p1.At,i6 p1.E,i6 p1.Pos,SL oa7 p1.Out cap8] 171,sla 51 9 oa7 p1.Out.length cap8 vs9]).fp H U0∧Fr 82 [(0,PT b2),(6,PT C3),(7,PT D3)] a∧St w0 (sepA [bk b2 [SL oa3 p1.L cap4,i6 p1.At,i6 p1.E,i6 p1.Pos,SL oa7 p1.Out cap8] 171,sla 51 9 oa7 p1.Out.length cap8 vs9]).fp [U0] [sla 51 9 B2 K2.length V0 C2,bk b2 [SL G3 C4 Y1,i6 K5,i6 L5,i6 M5,SL B2 K2 V0] 171,bk C3 [i6 0,Ac [],Ac [],.slice none 0 0,.slice none 0 0,i6 0,i6 0,i6 0,i6 0] 51,bk D3 [i6 p12,Ac E1,Ac F1,SL W0 D0 F0,SL X0 E0 G0,i6 G1,i6 0,i6 0,i6 p13] 51] w∧C4.length≤Y1∧SR U0 G3 C4∧Rows U0 C2 K2∧D0.length≤F0∧SR U0 W0 D0∧E0.length≤G0∧SR U0 X0 E0) ?_ ?_
 refine wb<|th<|rg<|qv o (An o rfl rfl) λo=>qa o rfl λo=>re<|?_
 rcases bip hm with ⟨M4,hm⟩ | ⟨M4,hm⟩
 refine tn<|ctv o rfl M4<|th<|?_
 obtain ⟨V1,h18,hm⟩:=bs hm
 refine rg<|qm o rfl λo=>?_
 replace u:=u.pk [2,2,0,0] rfl
 replace u:=St.sep [bk b2 [SL oa3 p1.L cap4,i6 p1.At,i6 p1.E,i6 p1.Pos,SL oa7 p1.Out cap8] 171,sla 51 9 oa7 p1.Out.length cap8 vs9] u
 refine ls<|c1 o rfl call175 (Ky (St.le u) (p1:=p1) (b2:=b2) (oa3:=oa3) (cap4:=cap4) (oa7:=oa7) (cap8:=cap8) (vs9:=vs9) T1 U1 C0 (St.sepOk u) (St.sepDis u) h18) ⟨rfl,trivial⟩ (λv w a hR o=>?_)
 obtain ⟨H22,O5,T4,O4,I3,P5,rfl,J9,K9,L9,M2,M9,hd21,hk⟩:=hR
 obtain ⟨u,M2⟩:=And.intro (St.mutH u hk M2 M9 hd21) (St.extcMM u M2)
 replace u:=u.unsep
 refine qv o (Af o Cs rfl) λo=>ls<|Ay o u sizeOf9 rfl rfl rfl rfl (.tail (.tail .head)) (.succ .zero) λw u=>re<|tn<|th<|?_
 obtain ⟨O2,h33,hm⟩:=bs hm
 refine rg<|qm o rfl λo=>?_
 replace u:=u.pk [0,0,0,0] rfl
 replace u:=St.sep [bk b2 [SL O5 V1.2.L T4,i6 V1.2.At,i6 V1.2.E,i6 V1.2.Pos,SL O4 V1.2.Out I3] 171,sla 51 9 O4 V1.2.Out.length I3 P5] u
 refine ls<|c1 o rfl call161 (Ik (St.le u) (p1:=V1.2) (b2:=b2) (oa3:=O5) (cap4:=T4) (oa7:=O4) (cap8:=I3) (vs9:=P5) J9 K9 L9 (St.sepOk u) (St.sepDis u) h33) ⟨rfl,rfl,trivial⟩ (λv w a hR o=>?_)
 obtain ⟨H37,Q5,U4,P4,J3,R5,rfl,O9,P9,Q9,P2,R9,hd36,hk⟩:=hR
 obtain ⟨u,P2⟩:=And.intro (St.mutH u hk P2 R9 hd36) (St.extcMM u P2)
 replace u:=u.unsep
 refine re<|tn<|?_
 obtain ⟨E3,h48,hm⟩:=bs hm
 refine rg<|qm o rfl λo=>?_
 replace u:=u.pk [0,0,0,0] rfl
 replace u:=St.sep [bk b2 [SL Q5 O2.L U4,i6 O2.At,i6 O2.E,i6 O2.Pos,SL P4 O2.Out J3] 171,sla 51 9 P4 O2.Out.length J3 R5] u
 refine ls<|c1 o rfl call176 (Pf (St.le u) (p1:=O2) (b2:=b2) (oa3:=Q5) (cap4:=U4) (oa7:=P4) (cap8:=J3) (vs9:=R5) O9 P9 Q9 (St.sepOk u) (St.sepDis u) h48) ⟨rfl,trivial⟩ (λv w a hR o=>?_)
 obtain ⟨H52,S9,L6,T9,M6,U9,O6,V9,rfl,W9,X9,Y9,d9,e9,Q2,j9,hd51,hk⟩:=hR
 obtain ⟨u,Q2⟩:=And.intro (St.mutH u hk Q2 j9 hd51) (St.extcMM u Q2)
 replace u:=u.unsep
 refine qv o (Af o Dx rfl) λo=>ls<|Ay o u sizeOf49 rfl rfl rfl rfl (.tail (.tail .head)) (.succ (.succ (.succ .zero))) λw u=>re<|bn<|tn<|?_
 replace u:=u.pk [1,0,1,0] rfl
 exact ⟨E3.2.L,E3.2.At,E3.2.E,E3.2.Pos,E3.2.Out,V1.1,[],E3.1,[],0,H52,T9,M6,U9,O6,V9,S9,L6,none,0,hm,(ExtM.trans M2 (ExtM.trans P2 Q2)),o.hs,u,Y9,d9,e9,W9,X9,(Nat.le_refl _),((SR.nil _ _).mono (cp (cp Q2.sub P2.sub) M2.sub))⟩
 refine tn<|cfv o rfl M4<|th<|rg<|qv o (An o rfl rfl) λo=>qa o rfl λo=>re<|?_
 rcases bip hm with ⟨Q4,hm⟩ | ⟨Q4,hm⟩
 refine tn<|ctv o rfl Q4<|th<|?_
 obtain ⟨X1,h68,hm⟩:=bs hm
 refine rg<|qm o rfl λo=>?_
 replace u:=u.pk [2,2,0,0] rfl
 replace u:=St.sep [bk b2 [SL oa3 p1.L cap4,i6 p1.At,i6 p1.E,i6 p1.Pos,SL oa7 p1.Out cap8] 171,sla 51 9 oa7 p1.Out.length cap8 vs9] u
 refine ls<|c1 o rfl call175 (Ky (St.le u) (p1:=p1) (b2:=b2) (oa3:=oa3) (cap4:=cap4) (oa7:=oa7) (cap8:=cap8) (vs9:=vs9) T1 U1 C0 (St.sepOk u) (St.sepDis u) h68) ⟨rfl,trivial⟩ (λv w a hR o=>?_)
 obtain ⟨H72,S5,V4,R4,K3,T5,rfl,k9,l9,n9,I1,o9,hd71,hk⟩:=hR
 obtain ⟨u,I1⟩:=And.intro (St.mutH u hk I1 o9 hd71) (St.extcMM u I1)
 replace u:=u.unsep
 refine qv o (Af o Cs rfl) λo=>ls<|Ay o u sizeOf9 rfl rfl rfl rfl (.tail (.tail .head)) (.succ .zero) λw u=>re<|tn<|th<|?_
 obtain ⟨R2,h83,hm⟩:=bs hm
 refine rg<|qm o rfl λo=>?_
 replace u:=u.pk [0,0,0,0] rfl
 replace u:=St.sep [bk b2 [SL S5 X1.2.L V4,i6 X1.2.At,i6 X1.2.E,i6 X1.2.Pos,SL R4 X1.2.Out K3] 171,sla 51 9 R4 X1.2.Out.length K3 T5] u
 refine ls<|c1 o rfl call161 (Ik (St.le u) (p1:=X1.2) (b2:=b2) (oa3:=S5) (cap4:=V4) (oa7:=R4) (cap8:=K3) (vs9:=T5) k9 l9 n9 (St.sepOk u) (St.sepDis u) h83) ⟨rfl,rfl,trivial⟩ (λv w a hR o=>?_)
 obtain ⟨H87,U5,W4,S4,L3,V5,rfl,p9,u9,y9,J1,hl85,hd86,hk⟩:=hR
 obtain ⟨u,J1⟩:=And.intro (St.mutH u hk J1 hl85 hd86) (St.extcMM u J1)
 replace u:=u.unsep
 refine re<|tn<|?_
 obtain ⟨F3,h98,hm⟩:=bs hm
 refine rg<|qm o rfl λo=>?_
 replace u:=u.pk [0,0,0,0] rfl
 replace u:=St.sep [bk b2 [SL U5 R2.L W4,i6 R2.At,i6 R2.E,i6 R2.Pos,SL S4 R2.Out L3] 171,sla 51 9 S4 R2.Out.length L3 V5] u
 refine ls<|c1 o rfl call175 (Ky (St.le u) (p1:=R2) (b2:=b2) (oa3:=U5) (cap4:=W4) (oa7:=S4) (cap8:=L3) (vs9:=V5) p9 u9 y9 (St.sepOk u) (St.sepDis u) h98) ⟨rfl,trivial⟩ (λv w a hR o=>?_)
 obtain ⟨H102,P6,W5,Q6,X5,R6,rfl,S6,T6,U6,M1,V6,hd101,hk⟩:=hR
 obtain ⟨u,M1⟩:=And.intro (St.mutH u hk M1 V6 hd101) (St.extcMM u M1)
 replace u:=u.unsep
 refine qv o (Af o Dc rfl) λo=>ls<|Ay o u sizeOf9 rfl rfl rfl rfl (.tail (.tail .head)) (.succ (.succ .zero)) λw u=>re<|bn<|tn<|?_
 replace u:=u.pk [1,0,1,0] rfl
 exact ⟨F3.2.L,F3.2.At,F3.2.E,F3.2.Pos,F3.2.Out,X1.1,F3.1,[],[],0,H102,P6,W5,Q6,X5,R6,none,0,none,0,hm,(ExtM.trans I1 (ExtM.trans J1 M1)),o.hs,u,S6,T6,U6,(Nat.le_refl _),((SR.nil _ _).mono (cp (cp M1.sub J1.sub) I1.sub)),(Nat.le_refl _),((SR.nil _ _).mono (cp (cp M1.sub J1.sub) I1.sub))⟩
 refine tn<|cfv o rfl Q4<|th<|rg<|qv o (An o rfl rfl) λo=>qa o rfl λo=>re<|?_
 rcases bip hm with ⟨M3,hm⟩ | ⟨M3,hm⟩
 refine tn<|ctv o rfl M3<|th<|?_
 obtain ⟨I0,h114,hm⟩:=bs hm
 refine rg<|qm o rfl λo=>?_
 replace u:=u.pk [2,2,0,0] rfl
 replace u:=St.sep [bk b2 [SL oa3 p1.L cap4,i6 p1.At,i6 p1.E,i6 p1.Pos,SL oa7 p1.Out cap8] 171,sla 51 9 oa7 p1.Out.length cap8 vs9] u
 refine ls<|c1 o rfl call175 (Ky (St.le u) (p1:=p1) (b2:=b2) (oa3:=oa3) (cap4:=cap4) (oa7:=oa7) (cap8:=cap8) (vs9:=vs9) T1 U1 C0 (St.sepOk u) (St.sepDis u) h114) ⟨rfl,trivial⟩ (λv w a hR o=>?_)
 obtain ⟨H118,X4,D4,O3,T2,Y4,rfl,W6,X6,Y6,Y0,d6,hd117,hk⟩:=hR
 obtain ⟨u,Y0⟩:=And.intro (St.mutH u hk Y0 d6 hd117) (St.extcMM u Y0)
 replace u:=u.unsep
 refine qv o (Af o Dc rfl) λo=>ls<|Ay o u sizeOf9 rfl rfl rfl rfl (.tail (.tail .head)) (.succ (.succ .zero)) λw u=>re<|tn<|th<|?_
 obtain ⟨Q0,h129,hm⟩:=bs hm
 refine rg<|qm o rfl λo=>?_
 replace u:=u.pk [0,0,0,0] rfl
 replace u:=St.sep [bk b2 [SL X4 I0.2.L D4,i6 I0.2.At,i6 I0.2.E,i6 I0.2.Pos,SL O3 I0.2.Out T2] 171,sla 51 9 O3 I0.2.Out.length T2 Y4] u
 refine ls<|c1 o rfl call161 (Ik (St.le u) (p1:=I0.2) (b2:=b2) (oa3:=X4) (cap4:=D4) (oa7:=O3) (cap8:=T2) (vs9:=Y4) W6 X6 Y6 (St.sepOk u) (St.sepDis u) h129) ⟨rfl,rfl,trivial⟩ (λv w a hR o=>?_)
 obtain ⟨H133,d4,E4,P3,U2,j4,rfl,j6,k6,n6,j0,u6,hd132,hk⟩:=hR
 obtain ⟨u,j0⟩:=And.intro (St.mutH u hk j0 u6 hd132) (St.extcMM u j0)
 replace u:=u.unsep
 refine re<|tn<|?_
 obtain ⟨O1,h144,hm⟩:=bs hm
 refine rg<|qm o rfl λo=>?_
 replace u:=u.pk [0,0,0,0] rfl
 replace u:=St.sep [bk b2 [SL d4 Q0.L E4,i6 Q0.At,i6 Q0.E,i6 Q0.Pos,SL P3 Q0.Out U2] 171,sla 51 9 P3 Q0.Out.length U2 j4] u
 refine ls<|c1 o rfl call176 (Pf (St.le u) (p1:=Q0) (b2:=b2) (oa3:=d4) (cap4:=E4) (oa7:=P3) (cap8:=U2) (vs9:=j4) j6 k6 n6 (St.sepOk u) (St.sepDis u) h144) ⟨rfl,trivial⟩ (λv w a hR o=>?_)
 obtain ⟨H148,v6,Y5,y6,d5,z6,j5,A7,rfl,B7,C7,D7,E7,F7,n0,G7,hd147,hk⟩:=hR
 obtain ⟨u,n0⟩:=And.intro (St.mutH u hk n0 G7 hd147) (St.extcMM u n0)
 replace u:=u.unsep
 refine qv o (Af o Dx rfl) λo=>ls<|Ay o u sizeOf49 rfl rfl rfl rfl (.tail (.tail .head)) (.succ (.succ (.succ .zero))) λw u=>re<|bn<|tn<|?_
 replace u:=u.pk [1,0,1,0] rfl
 exact ⟨O1.2.L,O1.2.At,O1.2.E,O1.2.Pos,O1.2.Out,[],I0.1,O1.1,[],0,H148,y6,d5,z6,j5,A7,v6,Y5,none,0,hm,(ExtM.trans Y0 (ExtM.trans j0 n0)),o.hs,u,D7,E7,F7,B7,C7,(Nat.le_refl _),((SR.nil _ _).mono (cp (cp n0.sub j0.sub) Y0.sub))⟩
 refine tn<|cfv o rfl M3<|th<|rg<|qv o (An o rfl rfl) λo=>qa o rfl λo=>re<|?_
 rcases bip hm with ⟨Q3,hm⟩ | ⟨Q3,hm⟩
 refine tn<|ctv o rfl Q3<|th<|?_
 obtain ⟨J0,h164,hm⟩:=bs hm
 refine rg<|qm o rfl λo=>?_
 replace u:=u.pk [2,2,0,0] rfl
 replace u:=St.sep [bk b2 [SL oa3 p1.L cap4,i6 p1.At,i6 p1.E,i6 p1.Pos,SL oa7 p1.Out cap8] 171,sla 51 9 oa7 p1.Out.length cap8 vs9] u
 refine ls<|c1 o rfl call175 (Ky (St.le u) (p1:=p1) (b2:=b2) (oa3:=oa3) (cap4:=cap4) (oa7:=oa7) (cap8:=cap8) (vs9:=vs9) T1 U1 C0 (St.sepOk u) (St.sepDis u) h164) ⟨rfl,trivial⟩ (λv w a hR o=>?_)
 obtain ⟨H168,k4,F4,R3,V2,l4,rfl,I7,J7,K7,E2,L7,hd167,hk⟩:=hR
 obtain ⟨u,E2⟩:=And.intro (St.mutH u hk E2 L7 hd167) (St.extcMM u E2)
 replace u:=u.unsep
 refine qv o (Af o Cs rfl) λo=>ls<|Ay o u sizeOf9 rfl rfl rfl rfl (.tail (.tail .head)) (.succ .zero) λw u=>re<|tn<|th<|?_
 obtain ⟨R0,h179,hm⟩:=bs hm
 refine rg<|qm o rfl λo=>?_
 replace u:=u.pk [0,0,0,0] rfl
 replace u:=St.sep [bk b2 [SL k4 J0.2.L F4,i6 J0.2.At,i6 J0.2.E,i6 J0.2.Pos,SL R3 J0.2.Out V2] 171,sla 51 9 R3 J0.2.Out.length V2 l4] u
 refine ls<|c1 o rfl call161 (Ik (St.le u) (p1:=J0.2) (b2:=b2) (oa3:=k4) (cap4:=F4) (oa7:=R3) (cap8:=V2) (vs9:=l4) I7 J7 K7 (St.sepOk u) (St.sepDis u) h179) ⟨rfl,rfl,trivial⟩ (λv w a hR o=>?_)
 obtain ⟨H183,u4,G4,S3,W2,A5,rfl,M7,O7,P7,F2,Q7,hd182,hk⟩:=hR
 obtain ⟨u,F2⟩:=And.intro (St.mutH u hk F2 Q7 hd182) (St.extcMM u F2)
 replace u:=u.unsep
 refine re<|tn<|th<|?_
 obtain ⟨K0,h194,hm⟩:=bs hm
 refine rg<|qm o rfl λo=>?_
 replace u:=u.pk [0,0,0,0] rfl
 replace u:=St.sep [bk b2 [SL u4 R0.L G4,i6 R0.At,i6 R0.E,i6 R0.Pos,SL S3 R0.Out W2] 171,sla 51 9 S3 R0.Out.length W2 A5] u
 refine ls<|c1 o rfl call175 (Ky (St.le u) (p1:=R0) (b2:=b2) (oa3:=u4) (cap4:=G4) (oa7:=S3) (cap8:=W2) (vs9:=A5) M7 O7 P7 (St.sepOk u) (St.sepDis u) h194) ⟨rfl,trivial⟩ (λv w a hR o=>?_)
 obtain ⟨H198,B5,I4,T3,X2,C5,rfl,R7,S7,T7,G2,U7,hd197,hk⟩:=hR
 obtain ⟨u,G2⟩:=And.intro (St.mutH u hk G2 U7 hd197) (St.extcMM u G2)
 replace u:=u.unsep
 refine qv o (Af o Dc rfl) λo=>ls<|Ay o u sizeOf9 rfl rfl rfl rfl (.tail (.tail .head)) (.succ (.succ .zero)) λw u=>re<|tn<|th<|?_
 obtain ⟨S0,h209,hm⟩:=bs hm
 refine rg<|qm o rfl λo=>?_
 replace u:=u.pk [0,0,0,0] rfl
 replace u:=St.sep [bk b2 [SL B5 K0.2.L I4,i6 K0.2.At,i6 K0.2.E,i6 K0.2.Pos,SL T3 K0.2.Out X2] 171,sla 51 9 T3 K0.2.Out.length X2 C5] u
 refine ls<|c1 o rfl call161 (Ik (St.le u) (p1:=K0.2) (b2:=b2) (oa3:=B5) (cap4:=I4) (oa7:=T3) (cap8:=X2) (vs9:=C5) R7 S7 T7 (St.sepOk u) (St.sepDis u) h209) ⟨rfl,rfl,trivial⟩ (λv w a hR o=>?_)
 obtain ⟨H213,D5,J4,U3,Y2,E5,rfl,V7,W7,X7,I2,Y7,hd212,hk⟩:=hR
 obtain ⟨u,I2⟩:=And.intro (St.mutH u hk I2 Y7 hd212) (St.extcMM u I2)
 replace u:=u.unsep
 refine re<|tn<|th<|?_
 obtain ⟨M0,h224,hm⟩:=bs hm
 refine rg<|qm o rfl λo=>?_
 replace u:=u.pk [0,0,0,0] rfl
 replace u:=St.sep [bk b2 [SL D5 S0.L J4,i6 S0.At,i6 S0.E,i6 S0.Pos,SL U3 S0.Out Y2] 171,sla 51 9 U3 S0.Out.length Y2 E5] u
 refine ls<|c1 o rfl call176 (Pf (St.le u) (p1:=S0) (b2:=b2) (oa3:=D5) (cap4:=J4) (oa7:=U3) (cap8:=Y2) (vs9:=E5) V7 W7 X7 (St.sepOk u) (St.sepDis u) h224) ⟨rfl,trivial⟩ (λv w a hR o=>?_)
 obtain ⟨H228,d7,k5,F5,K4,V3,A3,G5,rfl,j7,k7,n7,u7,v7,J2,z7,hd227,hk⟩:=hR
 obtain ⟨u,J2⟩:=And.intro (St.mutH u hk J2 z7 hd227) (St.extcMM u J2)
 replace u:=u.unsep
 refine qv o (Af o Dx rfl) λo=>ls<|Ay o u sizeOf49 rfl rfl rfl rfl (.tail (.tail .head)) (.succ (.succ (.succ .zero))) λw u=>re<|tn<|th<|?_
 obtain ⟨T0,h243,hm⟩:=bs hm
 refine rg<|qm o rfl λo=>?_
 replace u:=u.pk [0,0,0,0] rfl
 replace u:=St.sep [bk b2 [SL F5 M0.2.L K4,i6 M0.2.At,i6 M0.2.E,i6 M0.2.Pos,SL V3 M0.2.Out A3] 171,sla 51 9 V3 M0.2.Out.length A3 G5] u
 refine ls<|c1 o rfl call161 (Ik (St.le u) (p1:=M0.2) (b2:=b2) (oa3:=F5) (cap4:=K4) (oa7:=V3) (cap8:=A3) (vs9:=G5) n7 u7 v7 (St.sepOk u) (St.sepDis u) h243) ⟨rfl,rfl,trivial⟩ (λv w a hR o=>?_)
 obtain ⟨H247,I5,L4,W3,B3,J5,rfl,A8,B8,C8,u0,D8,hd246,hk⟩:=hR
 obtain ⟨u,u0⟩:=And.intro (St.mutH u hk u0 D8 hd246) (St.extcMM u u0)
 replace u:=u.unsep
 refine re<|tn<|?_
 obtain ⟨P1,h258,hm⟩:=bs hm
 refine rg<|qm o rfl λo=>?_
 replace u:=u.pk [0,0,0,0] rfl
 replace u:=St.sep [bk b2 [SL I5 T0.L L4,i6 T0.At,i6 T0.E,i6 T0.Pos,SL W3 T0.Out B3] 171,sla 51 9 W3 T0.Out.length B3 J5] u
 refine ls<|c1 o rfl call176 (Pf (St.le u) (p1:=T0) (b2:=b2) (oa3:=I5) (cap4:=L4) (oa7:=W3) (cap8:=B3) (vs9:=J5) A8 B8 C8 (St.sepOk u) (St.sepDis u) h258) ⟨rfl,trivial⟩ (λv w a hR o=>?_)
 obtain ⟨H262,E8,n5,F8,u5,G8,A6,I8,rfl,J8,K8,L8,M8,O8,B1,P8,hd261,hk⟩:=hR
 obtain ⟨u,B1⟩:=And.intro (St.mutH u hk B1 P8 hd261) (St.extcMM u B1)
 replace u:=u.unsep
 refine qv o (Af o Hi rfl) λo=>ls<|Ay o u sizeOf49 rfl rfl rfl rfl (.tail (.tail .head)) (.succ (.succ (.succ (.succ .zero)))) λw u=>re<|bn<|tn<|?_
 replace u:=u.pk [1,0,1,0] rfl
 exact ⟨P1.2.L,P1.2.At,P1.2.E,P1.2.Pos,P1.2.Out,J0.1,K0.1,M0.1,P1.1,0,H262,F8,u5,G8,A6,I8,d7,k5,E8,n5,hm,(ExtM.trans E2 (ExtM.trans F2 (ExtM.trans G2 (ExtM.trans I2 (ExtM.trans J2 (ExtM.trans u0 B1)))))),o.hs,u,L8,M8,O8,j7,(k7.mono (cp B1.sub u0.sub)),J8,K8⟩
 refine tn<|cfv o rfl Q3<|th<|th<|rg<|qv o (An o rfl rfl) λo=>qa o rfl λo=>re<|tn<|Au (λa w=>∃ (B6:Bool),(Z47 N (Z46 p12 p13) p1 p12) B6=some r∧Fr 82 [(0,PT b2),(6,PT C3),(7,PT D3),(11,i6 p12),(62,.bool B6)] a∧St w0 (sepA [bk b2 [SL oa3 p1.L cap4,i6 p1.At,i6 p1.E,i6 p1.Pos,SL oa7 p1.Out cap8] 171,sla 51 9 oa7 p1.Out.length cap8 vs9]).fp [H] [sla 51 9 oa7 p1.Out.length cap8 vs9,bk b2 [SL oa3 p1.L cap4,i6 p1.At,i6 p1.E,i6 p1.Pos,SL oa7 p1.Out cap8] 171,bk C3 [i6 0,Ac [],Ac [],.slice none 0 0,.slice none 0 0,i6 0,i6 0,i6 0,i6 0] 51,bk D3 [i6 p12,Ac [],Ac [],.slice none 0 0,.slice none 0 0,i6 0,i6 0,i6 0,i6 p13] 51] w) ?_ ?_
 rcases bip hm with ⟨X3,hm⟩ | ⟨X3,hm⟩
 refine ctv o rfl X3<|wk<|tn<|?_
 replace u:=u.pk [3,2,1,0] rfl
 exact ⟨(decide (p12=5)),hm,o.hs,u⟩
 refine cfv o rfl X3<|th<|rg<|qv o (An o rfl rfl) λo=>qa o rfl λo=>re<|?_
 rcases bip hm with ⟨Y3,hm⟩ | ⟨Y3,hm⟩
 refine tn<|ctv o rfl Y3<|wk<|tn<|?_
 replace u:=u.pk [3,2,1,0] rfl
 exact ⟨(decide (p12=6)),hm,o.hs,u⟩
 refine tn<|cfv o rfl Y3<|th<|rg<|qv o (An o rfl rfl) λo=>qa o rfl λo=>re<|?_
 rcases bip hm with ⟨l3,hm⟩ | ⟨l3,hm⟩
 refine tn<|ctv o rfl l3<|wk<|tn<|?_
 replace u:=u.pk [3,2,1,0] rfl
 exact ⟨(decide (p12=9)),hm,o.hs,u⟩
 refine tn<|cfv o rfl l3<|rg<|qv o (An o rfl rfl) λo=>qa o rfl λo=>re<|tn<|?_
 replace u:=u.pk [3,2,1,0] rfl
 exact ⟨(decide (p12=10)),hm,o.hs,u⟩
 rintro a w ⟨B6,hm,o,u⟩
 unfold Z47 at hm
 rcases bit hm with ⟨n3,hm⟩ | ⟨n3,hm⟩
 refine ctv o rfl n3<|?_
 obtain ⟨Q1,h281,hm⟩:=bs hm
 refine rg<|qm o rfl λo=>?_
 replace u:=u.pk [1,0,0,0] rfl
 replace u:=St.sep [bk b2 [SL oa3 p1.L cap4,i6 p1.At,i6 p1.E,i6 p1.Pos,SL oa7 p1.Out cap8] 171,sla 51 9 oa7 p1.Out.length cap8 vs9] u
 refine ls<|c1 o rfl call175 (Ky (St.le u) (p1:=(leadlineref04_P.mk p1.L p1.At p1.E p1.Pos p1.Out)) (b2:=b2) (oa3:=oa3) (cap4:=cap4) (oa7:=oa7) (cap8:=cap8) (vs9:=vs9) T1 U1 C0 (St.sepOk u) (St.sepDis u) h281) ⟨rfl,trivial⟩ (λv w a hR o=>?_)
 obtain ⟨H285,Q8,C6,R8,D6,S8,rfl,T8,U8,V8,O0,W8,hd284,hk⟩:=hR
 obtain ⟨u,O0⟩:=And.intro (St.mutH u hk O0 W8 hd284) (St.extcMM u O0)
 replace u:=u.unsep
 refine qv o (Af o Dc rfl) λo=>ls<|Ay o u sizeOf9 rfl rfl rfl rfl (.tail (.tail (.tail .head))) (.succ (.succ .zero)) λw u=>re<|bn<|tn<|?_
 replace u:=u.pk [1,0,0,0] rfl
 exact ⟨Q1.2.L,Q1.2.At,Q1.2.E,Q1.2.Pos,Q1.2.Out,[],Q1.1,[],[],0,H285,Q8,C6,R8,D6,S8,none,0,none,0,hm,O0,o.hs,u,T8,U8,V8,(Nat.le_refl _),((SR.nil _ _).mono O0.sub),(Nat.le_refl _),((SR.nil _ _).mono O0.sub)⟩
 refine cfv o rfl n3<|th<|th<|rg<|qv o (An o rfl rfl) λo=>qa o rfl λo=>re<|tn<|Au (λa w=>∃ (E6:Bool),(Z48 N (Z46 p12 p13) p1 p12) E6=some r∧Fr 82 [(0,PT b2),(6,PT C3),(7,PT D3),(11,i6 p12),(70,.bool E6)] a∧St w0 (sepA [bk b2 [SL oa3 p1.L cap4,i6 p1.At,i6 p1.E,i6 p1.Pos,SL oa7 p1.Out cap8] 171,sla 51 9 oa7 p1.Out.length cap8 vs9]).fp [H] [sla 51 9 oa7 p1.Out.length cap8 vs9,bk b2 [SL oa3 p1.L cap4,i6 p1.At,i6 p1.E,i6 p1.Pos,SL oa7 p1.Out cap8] 171,bk C3 [i6 0,Ac [],Ac [],.slice none 0 0,.slice none 0 0,i6 0,i6 0,i6 0,i6 0] 51,bk D3 [i6 p12,Ac [],Ac [],.slice none 0 0,.slice none 0 0,i6 0,i6 0,i6 0,i6 p13] 51] w) ?_ ?_
 rcases bip hm with ⟨u3,hm⟩ | ⟨u3,hm⟩
 refine ctv o rfl u3<|wk<|tn<|?_
 exact ⟨(decide (p12=11)),hm,o.hs,u⟩
 refine cfv o rfl u3<|rg<|qv o (An o rfl rfl) λo=>qa o rfl λo=>re<|tn<|?_
 exact ⟨(decide (p12=14)),hm,o.hs,u⟩
 rintro a w ⟨E6,hm,o,u⟩
 unfold Z48 at hm
 rcases bit hm with ⟨A4,hm⟩ | ⟨A4,hm⟩
 refine ctv o rfl A4<|?_
 obtain ⟨R1,h298,hm⟩:=bs hm
 refine rg<|qm o rfl λo=>?_
 replace u:=u.pk [1,0,0,0] rfl
 replace u:=St.sep [bk b2 [SL oa3 p1.L cap4,i6 p1.At,i6 p1.E,i6 p1.Pos,SL oa7 p1.Out cap8] 171,sla 51 9 oa7 p1.Out.length cap8 vs9] u
 refine ls<|c1 o rfl call176 (Pf (St.le u) (p1:=(leadlineref04_P.mk p1.L p1.At p1.E p1.Pos p1.Out)) (b2:=b2) (oa3:=oa3) (cap4:=cap4) (oa7:=oa7) (cap8:=cap8) (vs9:=vs9) T1 U1 C0 (St.sepOk u) (St.sepDis u) h298) ⟨rfl,trivial⟩ (λv w a hR o=>?_)
 obtain ⟨H302,X8,F6,Y8,G6,d8,I6,e8,rfl,j8,k8,l8,n8,v8,C1,y8,hd301,hk⟩:=hR
 obtain ⟨u,C1⟩:=And.intro (St.mutH u hk C1 y8 hd301) (St.extcMM u C1)
 replace u:=u.unsep
 refine qv o (Af o Dx rfl) λo=>ls<|Ay o u sizeOf49 rfl rfl rfl rfl (.tail (.tail (.tail .head))) (.succ (.succ (.succ .zero))) λw u=>re<|bn<|tn<|?_
 replace u:=u.pk [1,0,0,0] rfl
 exact ⟨R1.2.L,R1.2.At,R1.2.E,R1.2.Pos,R1.2.Out,[],[],R1.1,[],0,H302,Y8,G6,d8,I6,e8,X8,F6,none,0,hm,C1,o.hs,u,l8,n8,v8,j8,k8,(Nat.le_refl _),((SR.nil _ _).mono C1.sub)⟩
 refine cfv o rfl A4<|th<|rg<|qv o (An o rfl rfl) λo=>qa o rfl λo=>re<|?_
 rcases bip hm with ⟨B4,hm⟩ | ⟨B4,hm⟩
 refine tn<|ctv o rfl B4<|?_
 obtain ⟨S1,h318,hm⟩:=bs hm
 refine rg<|qm o rfl λo=>?_
 replace u:=u.pk [1,0,0,0] rfl
 replace u:=St.sep [bk b2 [SL oa3 p1.L cap4,i6 p1.At,i6 p1.E,i6 p1.Pos,SL oa7 p1.Out cap8] 171,sla 51 9 oa7 p1.Out.length cap8 vs9] u
 refine ls<|c1 o rfl call177 (JbH (St.le u) (p1:=(leadlineref04_P.mk p1.L p1.At p1.E p1.Pos p1.Out)) (b2:=b2) (oa3:=oa3) (cap4:=cap4) (oa7:=oa7) (cap8:=cap8) (vs9:=vs9) T1 U1 C0 (St.sepOk u) (St.sepDis u) h318) ⟨rfl,trivial⟩ (λv w a hR o=>?_)
 obtain ⟨H322,z8,J6,A9,K6,B9,rfl,C9,D9,E9,P0,F9,hd321,hk⟩:=hR
 obtain ⟨u,P0⟩:=And.intro (St.mutH u hk P0 F9 hd321) (St.extcMM u P0)
 replace u:=u.unsep
 refine qv o (Af o Em rfl) λo=>ls<|Ay o u sizeOf3 rfl rfl rfl rfl (.tail (.tail (.tail .head))) (.succ (.succ (.succ (.succ (.succ .zero))))) λw u=>re<|bn<|tn<|?_
 replace u:=u.pk [1,0,0,0] rfl
 exact ⟨S1.2.L,S1.2.At,S1.2.E,S1.2.Pos,S1.2.Out,[],[],[],[],S1.1,H322,z8,J6,A9,K6,B9,none,0,none,0,hm,P0,o.hs,u,C9,D9,E9,(Nat.le_refl _),((SR.nil _ _).mono P0.sub),(Nat.le_refl _),((SR.nil _ _).mono P0.sub)⟩
 refine tn<|cfv o rfl B4<|wk<|bn<|tn<|?_
 exact ⟨p1.L,p1.At,p1.E,p1.Pos,p1.Out,[],[],[],[],0,H,oa3,cap4,oa7,cap8,vs9,none,0,none,0,hm,(ExtM.refl _ _ _),o.hs,u,T1,U1,C0,(Nat.le_refl _),(SR.nil _ _),(Nat.le_refl _),(SR.nil _ _)⟩
 rintro a w ⟨C4,K5,L5,M5,K2,E1,F1,D0,E0,G1,U0,G3,Y1,B2,V0,C2,W0,F0,X0,G0,hm,G9,o,u,hcA5,hrA6,I9,hcA21,hrA22,hcA26,hrA27⟩
 unfold Z46 at hm
 refine th<|rg<|qv o (Ax o Tryz.isAgg51 Tryz.sizeOf51 rfl rfl (u.ld.cellsB t3)) λo=>ls<|Aw o u sizeOf51 rfl rfl rfl rfl (Al rfl) (.tail (.tail .head)) λw u=>re<|tn<|wr<|?_
 obtain rfl:=si hm
 exact r1c (vs:=[i6 p12,Ac E1,Ac F1,SL W0 D0 F0,SL X0 E0 G0,i6 G1,i6 0,i6 0,i6 p13]) (.inl rfl) o results168 rfl isAgg51 sizeOf51 rfl (u.ld.cellsB t2) ⟨U0,_,G3,Y1,B2,V0,C2,rfl,(show Enc.rep (α:=api_Stmt) U0 [i6 p12,Ac E1,Ac F1,SL W0 D0 F0,SL X0 E0 G0,i6 G1,i6 0,i6 0,i6 p13] (api_Stmt.mk p12 E1 F1 D0 E0 G1 0 0 p13) from ⟨_,_,rfl,rfl,⟨_,_,rfl,rfl,⟨_,_,rfl,rfl,⟨_,_,rfl,⟨_,_,rfl,hcA21,hrA22⟩,⟨_,_,rfl,⟨_,_,rfl,hcA26,hrA27⟩,⟨_,_,rfl,rfl,⟨_,_,rfl,rfl,⟨_,_,rfl,rfl,rfl⟩⟩⟩⟩⟩⟩⟩⟩),hcA5,hrA6,I9,G9,(St.le u),(St.disL (u.pickL (.cons (.tail .head) (.cons .head .nil)))),(u.pickL (.cons (.tail .head) (.cons .head .nil))).endMut⟩
set_option maxHeartbeats 4000000 in
theorem Jce:∀ (N:Nat),(∀ {w0:World} {H:PH} (_:H.le w0) {b2:Nat} {p1:leadlineref04_P} {oa3:Option Addr} {cap4:Nat} (_:p1.L.length≤cap4) (_:SR H oa3 p1.L) {oa7:Option Addr} {cap8:Nat} {vs9:List Value} (_:Rows H vs9 p1.Out) {p12:Int} {p13:Int} (_:(sepA [bk b2 [SL oa3 p1.L cap4,i6 p1.At,i6 p1.E,i6 p1.Pos,SL oa7 p1.Out cap8] 171,sla 51 9 oa7 p1.Out.length cap8 vs9]).ok (hp w0)) (_:∀ b,(sepA [bk b2 [SL oa3 p1.L cap4,i6 p1.At,i6 p1.E,i6 p1.Pos,SL oa7 p1.Out cap8] 171,sla 51 9 oa7 p1.Out.length cap8 vs9]).fp b→H b=none) {r:(Int×leadlineref04_P)} (_:Z3l N p1 p12 p13=some r),Tot Tryz.prog 169 #[PT b2,i6 p12,i6 p13] w0 (λv w'=>∃ (H':PH) (oa1m:Option Addr) (cap1m:Nat) (oa2m:Option Addr) (cap2m:Nat) (vs2m:List Value),v=i6 r.1∧r.2.L.length≤cap1m∧SR H' oa1m r.2.L∧Rows H' vs2m r.2.Out∧ExtM w0 (sepA [bk b2 [SL oa3 p1.L cap4,i6 p1.At,i6 p1.E,i6 p1.Pos,SL oa7 p1.Out cap8] 171,sla 51 9 oa7 p1.Out.length cap8 vs9]).fp H H'∧H'.le w'∧(∀ b,(sepA [bk b2 [SL oa1m r.2.L cap1m,i6 r.2.At,i6 r.2.E,i6 r.2.Pos,SL oa2m r.2.Out cap2m] 171,sla 51 9 oa2m r.2.Out.length cap2m vs2m]).fp b→H' b=none)∧Mut w0 (sepA [bk b2 [SL oa3 p1.L cap4,i6 p1.At,i6 p1.E,i6 p1.Pos,SL oa7 p1.Out cap8] 171,sla 51 9 oa7 p1.Out.length cap8 vs9]) (sepA [bk b2 [SL oa1m r.2.L cap1m,i6 r.2.At,i6 r.2.E,i6 r.2.Pos,SL oa2m r.2.Out cap2m] 171,sla 51 9 oa2m r.2.Out.length cap2m vs2m]) w'))∧(∀ {w0:World} {H:PH} (_:H.le w0) {b2:Nat} {p1:leadlineref04_P} {oa3:Option Addr} {cap4:Nat} (_:p1.L.length≤cap4) (_:SR H oa3 p1.L) {oa7:Option Addr} {cap8:Nat} {vs9:List Value} (_:Rows H vs9 p1.Out) {p12:Int} {p13:Int} (_:(sepA [bk b2 [SL oa3 p1.L cap4,i6 p1.At,i6 p1.E,i6 p1.Pos,SL oa7 p1.Out cap8] 171,sla 51 9 oa7 p1.Out.length cap8 vs9]).ok (hp w0)) (_:∀ b,(sepA [bk b2 [SL oa3 p1.L cap4,i6 p1.At,i6 p1.E,i6 p1.Pos,SL oa7 p1.Out cap8] 171,sla 51 9 oa7 p1.Out.length cap8 vs9]).fp b→H b=none) {r:leadlineref04_P} (_:Z3w N p1 p12 p13=some r),Tot Tryz.prog 160 #[PT b2,i6 p12,i6 p13] w0 (λv w'=>∃ (H':PH) (oa1m:Option Addr) (cap1m:Nat) (oa2m:Option Addr) (cap2m:Nat) (vs2m:List Value),v=.tuple #[]∧r.L.length≤cap1m∧SR H' oa1m r.L∧Rows H' vs2m r.Out∧ExtM w0 (sepA [bk b2 [SL oa3 p1.L cap4,i6 p1.At,i6 p1.E,i6 p1.Pos,SL oa7 p1.Out cap8] 171,sla 51 9 oa7 p1.Out.length cap8 vs9]).fp H H'∧H'.le w'∧(∀ b,(sepA [bk b2 [SL oa1m r.L cap1m,i6 r.At,i6 r.E,i6 r.Pos,SL oa2m r.Out cap2m] 171,sla 51 9 oa2m r.Out.length cap2m vs2m]).fp b→H' b=none)∧Mut w0 (sepA [bk b2 [SL oa3 p1.L cap4,i6 p1.At,i6 p1.E,i6 p1.Pos,SL oa7 p1.Out cap8] 171,sla 51 9 oa7 p1.Out.length cap8 vs9]) (sepA [bk b2 [SL oa1m r.L cap1m,i6 r.At,i6 r.E,i6 r.Pos,SL oa2m r.Out cap2m] 171,sla 51 9 oa2m r.Out.length cap2m vs2m]) w')):=by
 intro N
 induction N with
  | zero=>exact ⟨(by intros;rename_i hm;simp [Z3l] at hm),(by intros;rename_i hm;simp [Z3w] at hm)⟩
  | succ N ih=>
 obtain ⟨ih_Z3l,ih_Z3w⟩:=ih
 refine ⟨?_,?_⟩
 intro w0 H hH b2 p1 oa3 cap4 J2 K2 oa7 cap8 vs9 W2 p12 p13 hO hD r hm
 rw [Z3l] at hm
 refine fn0 func169 rfl ntmps169 rfl rfl λa o=>?_
 have u:=Cn hH hO hD
 refine th<|rg<|qa o rfl λo=>re<|tn<|th<|rg<|qm o rfl λo=>qv o (Aj o rfl) λo=>qv o (Af o Et rfl) λo=>qv o (Ag o isAgg46 rfl (u.ld.cellB t0 rfl)) λo=>qv o (Ak (α:=api_Stmt) (xs:=p1.Out) o runUnderlying46 rfl) λo=>qa o rfl λo=>re<|tn<|th<|th<|Au (λa w=>∃ (Q0:Bool),(Z3m (Z3w N) N p1 p12 p13) Q0=some r∧Fr 60 [(0,PT b2),(1,i6 p12),(2,i6 p13),(7,i6 (p1.Out.length:Int)),(25,.bool Q0)] a∧St w0 (sepA [bk b2 [SL oa3 p1.L cap4,i6 p1.At,i6 p1.E,i6 p1.Pos,SL oa7 p1.Out cap8] 171,sla 51 9 oa7 p1.Out.length cap8 vs9]).fp [H] [sla 51 9 oa7 p1.Out.length cap8 vs9,bk b2 [SL oa3 p1.L cap4,i6 p1.At,i6 p1.E,i6 p1.Pos,SL oa7 p1.Out cap8] 171] w) ?_ ?_
 rcases bip hm with ⟨K4,hm⟩ | ⟨K4,hm⟩
 obtain ⟨X7,Y7,hm⟩:=bs hm
 refine rdS 13 u wide λw u=>dr 0 u o rfl (Ab o rfl) λo=>dr 1 u o rfl (Bb o rfl rfl) λo=>dr 2 u o rfl (Aq (Ab o rfl) (congrArg Value.bool K4)) λo=>dg 3 u.ld o rfl (λw hl=>Ab o rfl) λo=>dg 4 u.ld o rfl (λw hl=>Aj o rfl) λo=>dg 5 u.ld o rfl (λw hl=>Af o Bv rfl) λo=>dg 6 u.ld o rfl (λw hl=>Ag o isAgg120 rfl (hl.cellB t0 rfl)) λo=>dg 7 u.ld o rfl (λw hl=>Ab o rfl) λo=>dg 8 u.ld o rfl (λw hl=>Aj o rfl) λo=>dg 9 u.ld o rfl (λw hl=>Af o Bh rfl) λo=>dg 10 u.ld o rfl (λw hl=>Ag o isAgg3 rfl (hl.cellB t0 rfl)) λo=>da1 (i:=11) (by kernel_rfl) ?_
 refine di (i:=11) rfl<|gy o rfl rfl<|cr o call139 (Gg (Ai _) J2 (St.srH u K2) Y7) u λu o=>⟨λ_=>u.ld,?_⟩
 refine dr 12 u o rfl (Ad o rfl rfl) λo=>de (by kernel_rfl)<|tn<|?_
 replace u:=u.pk [1,0] rfl
 exact ⟨X7,hm,o.hs,u⟩
 refine rxS 13 u wide (by kernel_rfl) λw u=>xm u o rfl λo=>xr u o (Bb o rfl rfl) λo=>xr u o (Aq (Ab o rfl) (congrArg Value.bool K4)) λo=>?_
 iterate 9 refine xn u.ld o λo=>?_
 refine xr u o (Ae o rfl rfl) λo=>xe<|tn<|?_
 replace u:=u.pk [1,0] rfl
 exact ⟨false,hm,o.hs,u⟩
 rintro a w ⟨Q0,hm,o,u⟩
 unfold Z3m at hm
 refine Au (λa w=>∃ (J0:(List api_Token)) (C4:Int) (u0:Int) (Y0:Int) (B1:(List api_Stmt)) (D4:PH) (I0:Option Addr) (D0:Nat) (I1:Option Addr) (V0:Nat) (S1:List Value),(Z3n (Z3w N) N p1 p12 p13) J0 C4 u0 Y0 B1=some r∧ExtM w0 (sepA [bk b2 [SL oa3 p1.L cap4,i6 p1.At,i6 p1.E,i6 p1.Pos,SL oa7 p1.Out cap8] 171,sla 51 9 oa7 p1.Out.length cap8 vs9]).fp H D4∧Fr 60 [(0,PT b2),(1,i6 p12),(2,i6 p13),(7,i6 (p1.Out.length:Int))] a∧St w0 (sepA [bk b2 [SL oa3 p1.L cap4,i6 p1.At,i6 p1.E,i6 p1.Pos,SL oa7 p1.Out cap8] 171,sla 51 9 oa7 p1.Out.length cap8 vs9]).fp [D4] [sla 51 9 I1 B1.length V0 S1,bk b2 [SL I0 J0 D0,i6 C4,i6 u0,i6 Y0,SL I1 B1 V0] 171] w∧J0.length≤D0∧SR D4 I0 J0∧Rows D4 S1 B1) ?_ ?_
 rcases bit hm with ⟨L4,hm⟩ | ⟨L4,hm⟩
 refine ctv o rfl L4<|?_
 obtain ⟨E4,d7,hm⟩:=bs hm
 refine rg<|qm o rfl λo=>?_
 replace u:=u.pk [1,0] rfl
 replace u:=St.sep [bk b2 [SL oa3 p1.L cap4,i6 p1.At,i6 p1.E,i6 p1.Pos,SL oa7 p1.Out cap8] 171,sla 51 9 oa7 p1.Out.length cap8 vs9] u
 refine ls<|c1 o rfl call167 (Nn (St.le u) (p1:=(leadlineref04_P.mk p1.L p1.At p1.E p1.Pos p1.Out)) (b2:=b2) (oa3:=oa3) (cap4:=cap4) (oa7:=oa7) (cap8:=cap8) (vs9:=vs9) J2 K2 W2 (St.sepOk u) (St.sepDis u) d7) ⟨rfl,rfl,trivial⟩ (λv w a hR o=>?_)
 obtain ⟨H23,F6,I5,G6,J5,I6,rfl,J6,K6,L6,M3,M6,hd22,hk⟩:=hR
 obtain ⟨u,M3⟩:=And.intro (St.mutH u hk M3 M6 hd22) (St.extcMM u M3)
 replace u:=u.unsep
 refine re<|tn<|?_
 replace u:=u.pk [1,0] rfl
 exact ⟨E4.L,E4.At,E4.E,E4.Pos,E4.Out,H23,F6,I5,G6,J5,I6,hm,M3,o.hs,u,J6,K6,L6⟩
 refine cfv o rfl L4<|wk<|tn<|?_
 exact ⟨p1.L,p1.At,p1.E,p1.Pos,p1.Out,H,oa3,cap4,oa7,cap8,vs9,hm,(ExtM.refl _ _ _),o.hs,u,J2,K2,W2⟩
 rintro a w ⟨J0,C4,u0,Y0,B1,D4,I0,D0,I1,V0,S1,hm,K5,o,u,hcA6,hrA7,L5⟩
 unfold Z3n at hm
 refine th<|?_
 obtain ⟨F4,j7,hm⟩:=bs hm
 refine rg<|qm o rfl λo=>?_
 replace u:=u.pk [1,0] rfl
 replace u:=St.sep [bk b2 [SL I0 J0 D0,i6 C4,i6 u0,i6 Y0,SL I1 B1 V0] 171,sla 51 9 I1 B1.length V0 S1] u
 refine ls<|c1 o rfl call161 (Ik (St.le u) (p1:=(leadlineref04_P.mk J0 C4 u0 Y0 B1)) (b2:=b2) (oa3:=I0) (cap4:=D0) (oa7:=I1) (cap8:=V0) (vs9:=S1) hcA6 hrA7 L5 (St.sepOk u) (St.sepDis u) j7) ⟨rfl,rfl,trivial⟩ (λv w a hR o=>?_)
 obtain ⟨H38,O6,M5,P6,O5,Q6,rfl,R6,S6,T6,O3,U6,hd37,hk⟩:=hR
 obtain ⟨u,O3⟩:=And.intro (St.mutH u hk O3 U6 hd37) (St.extcMM u O3)
 replace u:=u.unsep
 refine re<|tn<|th<|Au (λa w=>∃ (S0:(List api_Token)) (X2:Int) (Y2:Int) (A3:Int) (K0:(List api_Stmt)) (B3:PH) (T1:Option Addr) (C1:Nat) (J1:Option Addr) (W0:Nat) (U1:List Value),(Z3o N p1) S0 X2 Y2 A3 K0=some r∧ExtM w0 (sepA [bk b2 [SL oa3 p1.L cap4,i6 p1.At,i6 p1.E,i6 p1.Pos,SL oa7 p1.Out cap8] 171,sla 51 9 oa7 p1.Out.length cap8 vs9]).fp H38 B3∧Fr 60 [(0,PT b2),(7,i6 (p1.Out.length:Int))] a∧St w0 (sepA [bk b2 [SL oa3 p1.L cap4,i6 p1.At,i6 p1.E,i6 p1.Pos,SL oa7 p1.Out cap8] 171,sla 51 9 oa7 p1.Out.length cap8 vs9]).fp [B3] [sla 51 9 J1 K0.length W0 U1,bk b2 [SL T1 S0 C1,i6 X2,i6 Y2,i6 A3,SL J1 K0 W0] 171] w∧S0.length≤C1∧SR B3 T1 S0∧Rows B3 U1 K0) ?_ ?_
 replace u:=u.pk [1,0] rfl
 refine wb<|lp (α:=Nat×(List api_Token)×Int×Int×Int×(List api_Stmt)) (λgh a w=>match gh with | (K3,R0,M2,O2,P2,T0)=>∃ (C3:PH) (P1:Option Addr) (j0:Nat) (U0:Option Addr) (M0:Nat) (n0:List Value),(Z3q (Z3w N) N (Z3o N p1) p12 p13) K3 R0 M2 O2 P2 T0=some r∧ExtM w0 (sepA [bk b2 [SL oa3 p1.L cap4,i6 p1.At,i6 p1.E,i6 p1.Pos,SL oa7 p1.Out cap8] 171,sla 51 9 oa7 p1.Out.length cap8 vs9]).fp H38 C3∧Fr 60 [(0,PT b2),(1,i6 p12),(2,i6 p13),(7,i6 (p1.Out.length:Int))] a∧St w0 (sepA [bk b2 [SL oa3 p1.L cap4,i6 p1.At,i6 p1.E,i6 p1.Pos,SL oa7 p1.Out cap8] 171,sla 51 9 oa7 p1.Out.length cap8 vs9]).fp [C3] [sla 51 9 U0 T0.length M0 n0,bk b2 [SL P1 R0 j0,i6 M2,i6 O2,i6 P2,SL U0 T0 M0] 171] w∧R0.length≤j0∧SR C3 P1 R0∧Rows C3 n0 T0) (λgh=>gh.1) (N,F4.L,F4.At,F4.E,F4.Pos,F4.Out) ⟨H38,O6,M5,P6,O5,Q6,hm,(ExtM.refl _ _ _),o.hs,u,R6,S6,T6⟩ ?_
 rintro ⟨K3,R0,M2,O2,P2,T0⟩ a w ⟨C3,P1,j0,U0,M0,n0,hm,X4,o,u,hcB5,hrB6,Y4⟩
 obtain _ | K3:=K3
 simp [Z3q] at hm
 rw [Z3q] at hm
 refine th<|th<|Au (λa w=>∃ (Q2:Bool),(Z3p (Z3w N) (Z3o N p1) ((Z3q (Z3w N) N (Z3o N p1) p12 p13) K3) p12 p13 R0 M2 O2 P2 T0) Q2=some r∧Fr 60 [(0,PT b2),(1,i6 p12),(2,i6 p13),(7,i6 (p1.Out.length:Int)),(46,.bool Q2)] a∧St w0 (sepA [bk b2 [SL oa3 p1.L cap4,i6 p1.At,i6 p1.E,i6 p1.Pos,SL oa7 p1.Out cap8] 171,sla 51 9 oa7 p1.Out.length cap8 vs9]).fp [C3] [sla 51 9 U0 T0.length M0 n0,bk b2 [SL P1 R0 j0,i6 M2,i6 O2,i6 P2,SL U0 T0 M0] 171] w) ?_ ?_
 rcases bip hm with ⟨M4,hm⟩ | ⟨M4,hm⟩
 obtain ⟨k7,n7,hm⟩:=bs hm
 refine rdS 17 u wide λw u=>dr 0 u o rfl (Ab o rfl) λo=>dr 1 u o rfl (Aj o rfl) λo=>dr 2 u o rfl (Af o Bw rfl) λo=>dq 3 u.ld o rfl (λw hl=>Ag o isAgg29 rfl (hl.cellB t1 rfl)) λo=>dr 4 u o rfl (An o rfl rfl) λo=>dr 5 u o rfl (Aq (Ab o rfl) (congrArg Value.bool M4)) λo=>dg 6 u.ld o rfl (λw hl=>Ab o rfl) λo=>dg 7 u.ld o rfl (λw hl=>Aj o rfl) λo=>dg 8 u.ld o rfl (λw hl=>Af o Bv rfl) λo=>dg 9 u.ld o rfl (λw hl=>Ag o isAgg120 rfl (hl.cellB t1 rfl)) λo=>dg 10 u.ld o rfl (λw hl=>Ab o rfl) λo=>dg 11 u.ld o rfl (λw hl=>Aj o rfl) λo=>dg 12 u.ld o rfl (λw hl=>Af o Bh rfl) λo=>dg 13 u.ld o rfl (λw hl=>Ag o isAgg3 rfl (hl.cellB t1 rfl)) λo=>da1 (i:=14) (by kernel_rfl) ?_
 refine di (i:=14) rfl<|gy o rfl rfl<|cr o call139 (Gg (Ai _) hcB5 (St.srH u hrB6) n7) u λu o=>⟨λ_=>u.ld,?_⟩
 refine dg 15 u.ld o rfl (λw hl=>Az o rfl) λo=>dr 16 u o rfl (Ad o rfl rfl) λo=>de (by kernel_rfl)<|tn<|?_
 exact ⟨(!k7),hm,o.hs,u⟩
 refine rxS 17 u wide (by kernel_rfl) λw u=>xm u o rfl λo=>xr u o (Aj o rfl) λo=>xr u o (Af o Bw rfl) λo=>xq u.ld o (λw hl=>Ag o isAgg29 rfl (hl.cellB t1 rfl)) λo=>xr u o (An o rfl rfl) λo=>xr u o (Aq (Ab o rfl) (congrArg Value.bool M4)) λo=>?_
 iterate 10 refine xn u.ld o λo=>?_
 refine xr u o (Ae o rfl rfl) λo=>xe<|tn<|?_
 exact ⟨false,hm,o.hs,u⟩
 rintro a w ⟨Q2,hm,o,u⟩
 unfold Z3p at hm
 rcases bit hm with ⟨O4,hm⟩ | ⟨O4,hm⟩
 refine ctv o rfl O4<|wk<|tn<|wb<|?_
 obtain ⟨G4,u7,hm⟩:=bs hm
 refine rg<|qm o rfl λo=>?_
 iterate 2 refine qm o rfl λo=>?_
 replace u:=u.pk [1,0] rfl
 replace u:=St.sep [bk b2 [SL P1 R0 j0,i6 M2,i6 O2,i6 P2,SL U0 T0 M0] 171,sla 51 9 U0 T0.length M0 n0] u
 refine ls<|c1 o rfl call160 (ih_Z3w (St.le u) (p1:=(leadlineref04_P.mk R0 M2 O2 P2 T0)) (b2:=b2) (oa3:=P1) (cap4:=j0) (oa7:=U0) (cap8:=M0) (vs9:=n0) hcB5 hrB6 Y4 (St.sepOk u) (St.sepDis u) u7) ⟨rfl,rfl,rfl,trivial⟩ (λv w a hR o=>?_)
 obtain ⟨H57,V6,P5,W6,Q5,X6,rfl,Y6,d6,Q1,P3,j6,hd56,hk⟩:=hR
 obtain ⟨u,P3⟩:=And.intro (St.mutH u hk P3 j6 hd56) (St.extcMM u P3)
 replace u:=u.unsep
 refine re<|bn<|tn<|?_
 replace u:=u.pk [1,0] rfl
 exact ⟨(K3,G4.L,G4.At,G4.E,G4.Pos,G4.Out),⟨H57,V6,P5,W6,Q5,X6,hm,(ExtM.trans X4 P3),o.hs,u,Y6,d6,Q1⟩,Nat.lt_succ_self _⟩
 refine cfv o rfl O4<|we<|tx<|tx<|bx<|tn<|?_
 exact ⟨R0,M2,O2,P2,T0,C3,P1,j0,U0,M0,n0,hm,X4,o.has ⟨rfl,rfl,trivial⟩,u,hcB5,hrB6,Y4⟩
 rintro a w ⟨S0,X2,Y2,A3,K0,B3,T1,C1,J1,W0,U1,hm,k4,o,u,hcA21,hrA22,R5⟩
 unfold Z3o at hm
 refine th<|?_
 obtain ⟨v7,z7,hm⟩:=bs hm
 refine rg<|qm o rfl λo=>?_
 replace u:=u.pk [1,0] rfl
 replace u:=St.sep [bk b2 [SL T1 S0 C1,i6 X2,i6 Y2,i6 A3,SL J1 K0 W0] 171,sla 51 9 J1 K0.length W0 U1] u
 refine ls<|c1 o rfl call161 (Ik (St.le u) (p1:=(leadlineref04_P.mk S0 X2 Y2 A3 K0)) (b2:=b2) (oa3:=T1) (cap4:=C1) (oa7:=J1) (cap8:=W0) (vs9:=U1) hcA21 hrA22 R5 (St.sepOk u) (St.sepDis u) z7) ⟨rfl,rfl,trivial⟩ (λv w a hR o=>?_)
 obtain ⟨H72,k6,S5,n6,T5,u6,rfl,v6,y6,z6,Q3,A7,hd71,hk⟩:=hR
 obtain ⟨u,Q3⟩:=And.intro (St.mutH u hk Q3 A7 hd71) (St.extcMM u Q3)
 replace u:=u.unsep
 refine re<|tn<|th<|rg<|qm o rfl λo=>qv o (Aj o rfl) λo=>qv o (Af o Et rfl) λo=>qv o (Ag o isAgg46 rfl (u.ld.cellB t0 rfl)) λo=>qv o (Ak (α:=api_Stmt) (xs:=v7.Out) o runUnderlying46 rfl) λo=>qm o rfl λo=>qv o (Gv o rfl rfl) λo=>qa o rfl λo=>re<|tn<|wr<|?_
 obtain rfl:=si hm
 exact r1 o results169 rfl ⟨H72,k6,S5,n6,T5,u6,rfl,v6,y6,z6,(ExtM.trans K5 (ExtM.trans O3 (ExtM.trans k4 Q3))),(St.le u),(St.disL (u.pickL (.cons .head (.cons .head .nil)))),(u.pickL (.cons .head (.cons .head .nil))).endMut⟩
 intro w0 H hH b2 p1 oa3 cap4 J2 K2 oa7 cap8 vs9 W2 p12 p13 hO hD r hm
 rw [Z3w] at hm
 refine fn0 func160 rfl ntmps160 rfl rfl λa o=>?_
 have u:=Cn hH hO hD
 refine th<|?_
 obtain ⟨V1,A8,hm⟩:=bs hm
 refine rdS 11 u wide λw u=>dr 0 u o rfl (Ab o rfl) λo=>dr 1 u o rfl (Aj o rfl) λo=>dr 2 u o rfl (Af o Bv rfl) λo=>dq 3 u.ld o rfl (λw hl=>Ag o isAgg120 rfl (hl.cellB t0 rfl)) λo=>dr 4 u o rfl (Ab o rfl) λo=>dr 5 u o rfl (Aj o rfl) λo=>dr 6 u o rfl (Af o Bh rfl) λo=>dq 7 u.ld o rfl (λw hl=>Ag o isAgg3 rfl (hl.cellB t0 rfl)) λo=>da1 (i:=8) (by kernel_rfl) ?_
 refine di (i:=8) rfl<|cr o call143 (Gw (Ai _) J2 (St.srH u K2) A8) u λu o=>⟨λ_=>u.ld,?_⟩
 refine dr 9 u o rfl (Bn o rfl) λo=>dr 10 u o rfl (Bn o rfl) λo=>de (by kernel_rfl)<|tn<|th<|th<|rg<|qa o rfl λo=>re<|tn<|Au (λa w=>∃ (Q0:Int),(Z3x (Z3l N) N p1 p12 p13 V1) Q0=some r∧Fr 134 [(0,PT b2),(1,i6 p12),(2,i6 p13),(6,i6 Q0),(7,i6 V1)] a∧St w0 (sepA [bk b2 [SL oa3 p1.L cap4,i6 p1.At,i6 p1.E,i6 p1.Pos,SL oa7 p1.Out cap8] 171,sla 51 9 oa7 p1.Out.length cap8 vs9]).fp [H] [sla 51 9 oa7 p1.Out.length cap8 vs9,bk b2 [SL oa3 p1.L cap4,i6 p1.At,i6 p1.E,i6 p1.Pos,SL oa7 p1.Out cap8] 171] w) ?_ ?_
 replace u:=u.pk [1,0] rfl
 refine wb<|lp (α:=Nat×Int×Int) (λgh a w=>match gh with | (L3,I4,R0)=>(Z44 N (Z3x (Z3l N) N p1 p12 p13 V1) p1) L3 I4 R0=some r∧Fr 134 [(0,PT b2),(1,i6 p12),(2,i6 p13),(6,i6 I4),(7,i6 V1),(8,i6 R0)] a∧St w0 (sepA [bk b2 [SL oa3 p1.L cap4,i6 p1.At,i6 p1.E,i6 p1.Pos,SL oa7 p1.Out cap8] 171,sla 51 9 oa7 p1.Out.length cap8 vs9]).fp [H] [sla 51 9 oa7 p1.Out.length cap8 vs9,bk b2 [SL oa3 p1.L cap4,i6 p1.At,i6 p1.E,i6 p1.Pos,SL oa7 p1.Out cap8] 171] w) (λgh=>gh.1) (N,1,2) ⟨hm,o.hs,u⟩ ?_
 rintro ⟨L3,I4,R0⟩ a w ⟨hm,o,u⟩
 obtain _ | L3:=L3
 simp [Z44] at hm
 rw [Z44] at hm
 refine th<|th<|rg<|qm o rfl λo=>qv o (Di o rfl rfl) λo=>re<|?_
 rcases bip hm with ⟨P4,hm⟩ | ⟨P4,hm⟩
 refine tn<|ctv o rfl P4<|wk<|tn<|th<|Au (λa w=>∃ (Q2:Int),(Z3y (Z44 N (Z3x (Z3l N) N p1 p12 p13 V1) p1 L3) R0) Q2=some r∧Fr 134 [(0,PT b2),(1,i6 p12),(2,i6 p13),(6,i6 Q2),(7,i6 V1),(8,i6 R0)] a∧St w0 (sepA [bk b2 [SL oa3 p1.L cap4,i6 p1.At,i6 p1.E,i6 p1.Pos,SL oa7 p1.Out cap8] 171,sla 51 9 oa7 p1.Out.length cap8 vs9]).fp [H] [sla 51 9 oa7 p1.Out.length cap8 vs9,bk b2 [SL oa3 p1.L cap4,i6 p1.At,i6 p1.E,i6 p1.Pos,SL oa7 p1.Out cap8] 171] w) ?_ ?_
 refine wb<|th<|?_
 obtain ⟨O8,B8,hm⟩:=bs hm
 obtain ⟨P8,C8,hm⟩:=bs hm
 refine rdS 11 u wide λw u=>dr 0 u o rfl (Ab o rfl) λo=>dr 1 u o rfl (Aj o rfl) λo=>dr 2 u o rfl (Af o Bv rfl) λo=>dq 3 u.ld o rfl (λw hl=>Ag o isAgg120 rfl (hl.cellB t1 rfl)) λo=>dr 4 u o rfl (Ab o rfl) λo=>dr 5 u o rfl (Aj o rfl) λo=>dr 6 u o rfl (Af o Bh rfl) λo=>dq 7 u.ld o rfl (λw hl=>Ag o isAgg3 rfl (hl.cellB t1 rfl)) λo=>dr 8 u o rfl (Ab o rfl) λo=>da1 (i:=9) (by kernel_rfl) ?_
 refine di (i:=9) rfl<|cr o call166 (Jck (Ai _) B8) u λu o=>⟨λ_=>u.ld,?_⟩
 refine da1 (i:=10) (by kernel_rfl) ?_
 refine di (i:=10) rfl<|cr o call139 (Gg (Ai _) J2 (St.srH u K2) C8) u λu o=>⟨λ_=>u.ld,?_⟩
 refine de (by kernel_rfl)<|?_
 rcases bit hm with ⟨Q4,hm⟩ | ⟨Q4,hm⟩
 refine tn<|ctv o rfl Q4<|rg<|qm o rfl λo=>qa o rfl λo=>re<|bn<|tn<|?_
 exact ⟨R0,hm,o.hs,u⟩
 refine tn<|cfv o rfl Q4<|wk<|bn<|tn<|?_
 exact ⟨I4,hm,o.hs,u⟩
 rintro a w ⟨Q2,hm,o,u⟩
 unfold Z3y at hm
 refine rg<|qm o rfl λo=>qv o (Am o rfl rfl) λo=>qa o rfl λo=>re<|tn<|?_
 exact ⟨(L3,Q2,(IntKind.i64.wrap (R0+1))),⟨hm,o.hs,u⟩,Nat.lt_succ_self _⟩
 refine tn<|cfv o rfl P4<|we<|tx<|tx<|bx<|tn<|?_
 exact ⟨I4,hm,o.hs,u⟩
 rintro a w ⟨Q0,hm,o,u⟩
 unfold Z3x at hm
 refine th<|th<|rg<|qm o rfl λo=>qv o (An o rfl rfl) λo=>qm o rfl λo=>gr (Fk:=[(0,PT b2),(1,i6 p12),(2,i6 p13),(6,i6 Q0),(7,i6 V1),(42,.bool ((decide (Q0=13)) && (decide (p13=0))))]) 39 3 o u ?_ ?_ ?_
 intro hb o key
 exact qg o (Ab o rfl) λo=>qg o (An o rfl rfl) λo=>qk o (Ad o rfl rfl) key u hb
 intro hb o key
 iterate 2 refine qn o λo=>?_
 exact qk o (Ae o rfl rfl) key u hb
 intro a w o u
 refine re<|?_
 rcases bit hm with ⟨R4,hm⟩ | ⟨R4,hm⟩
 refine tn<|ctv o rfl R4<|th<|?_
 obtain ⟨Q8,D8,hm⟩:=bs hm
 refine rg<|qm o rfl λo=>?_
 replace u:=u.pk [1,0] rfl
 replace u:=St.sep [bk b2 [SL oa3 p1.L cap4,i6 p1.At,i6 p1.E,i6 p1.Pos,SL oa7 p1.Out cap8] 171,sla 51 9 oa7 p1.Out.length cap8 vs9] u
 refine ls<|c1 o rfl call167 (Nn (St.le u) (p1:=(leadlineref04_P.mk p1.L p1.At p1.E p1.Pos p1.Out)) (b2:=b2) (oa3:=oa3) (cap4:=cap4) (oa7:=oa7) (cap8:=cap8) (vs9:=vs9) J2 K2 W2 (St.sepOk u) (St.sepDis u) D8) ⟨rfl,rfl,trivial⟩ (λv w a hR o=>?_)
 obtain ⟨H28,B7,U5,C7,V5,D7,rfl,E7,F7,G7,R3,I7,hd27,hk⟩:=hR
 obtain ⟨u,R3⟩:=And.intro (St.mutH u hk R3 I7 hd27) (St.extcMM u R3)
 replace u:=u.unsep
 refine re<|tn<|wr<|tr<|?_
 obtain rfl:=si hm
 exact r0 o results160 ⟨H28,B7,U5,C7,V5,D7,rfl,E7,F7,G7,R3,(St.le u),(St.disL (u.pickL (.cons .head (.cons .head .nil)))),(u.pickL (.cons .head (.cons .head .nil))).endMut⟩
 refine tn<|cfv o rfl R4<|wk<|tn<|th<|th<|rg<|qm o rfl λo=>qv o (Br o rfl rfl) λo=>re<|tn<|Au (λa w=>∃ (J4:Int),(Z3z (Z3l N) N p1 p12 p13 V1 Q0) J4=some r∧Fr 134 [(0,PT b2),(1,i6 p12),(2,i6 p13),(6,i6 Q0),(7,i6 V1)] a∧St w0 (sepA [bk b2 [SL oa3 p1.L cap4,i6 p1.At,i6 p1.E,i6 p1.Pos,SL oa7 p1.Out cap8] 171,sla 51 9 oa7 p1.Out.length cap8 vs9]).fp [H] [sla 51 9 oa7 p1.Out.length cap8 vs9,bk b2 [SL oa3 p1.L cap4,i6 J4,i6 p1.E,i6 p1.Pos,SL oa7 p1.Out cap8] 171] w) ?_ ?_
 rcases bip hm with ⟨S4,hm⟩ | ⟨S4,hm⟩
 refine ctv o rfl S4<|rg<|qm o rfl λo=>qm o rfl λo=>qv o (Aj o rfl) λo=>qv o (Af o Bh rfl) λo=>qv o (Ag o isAgg3 rfl (u.ld.cellB t1 rfl)) λo=>qv o (Am o rfl rfl) λo=>qv o (Aj o rfl) λo=>qv o (Af o Bh rfl) λo=>ls<|Ay o u sizeOf3 rfl rfl rfl rfl (.tail .head) (.succ .zero) λw u=>re<|tn<|?_
 exact ⟨(IntKind.i64.wrap (p1.At+1)),hm,o.hs,u⟩
 refine cfv o rfl S4<|wk<|tn<|?_
 exact ⟨p1.At,hm,o.hs,u⟩
 rintro a w ⟨J4,hm,o,u⟩
 unfold Z3z at hm
 refine th<|?_
 obtain ⟨C0,E8,hm⟩:=bs hm
 refine rg<|qm o rfl λo=>?_
 iterate 2 refine qm o rfl λo=>?_
 replace u:=u.pk [1,0] rfl
 replace u:=St.sep [bk b2 [SL oa3 p1.L cap4,i6 J4,i6 p1.E,i6 p1.Pos,SL oa7 p1.Out cap8] 171,sla 51 9 oa7 p1.Out.length cap8 vs9] u
 refine ls<|c1 o rfl call168 (JbX (St.le u) (p1:=(leadlineref04_P.mk p1.L J4 p1.E p1.Pos p1.Out)) (b2:=b2) (oa3:=oa3) (cap4:=cap4) (oa7:=oa7) (cap8:=cap8) (vs9:=vs9) J2 K2 W2 (St.sepOk u) (St.sepDis u) E8) ⟨rfl,rfl,rfl,trivial⟩ (λv w a hR o=>?_)
 obtain ⟨H44,cs45,E2,M1,K8,J8,L8,rfl,F8,l4,u4,T4,D3,J7,hd43,hk⟩:=hR
 obtain ⟨u,D3⟩:=And.intro (St.mutH u hk D3 J7 hd43) (St.extcMM u D3)
 replace u:=u.unsep
 obtain ⟨O0,F0,P0,G0,rfl,S3,T3,U3,V3⟩:=Bg F8
 refine ls<|Av (cs:=[i6 0,Ac [],Ac [],.slice none 0 0,.slice none 0 0,i6 0,i6 0,i6 0,i6 0].toArray) o rfl u zeroValue51 rfl λX1 w a u o=>ls<|Aw o u sizeOf51 rfl rfl rfl rfl (Al rfl) .head λw u=>re<|tn<|th<|rg<|qm o rfl λo=>qv o (Aj o rfl) λo=>qv o (Af o Et rfl) λo=>qv o (Ag o isAgg46 rfl (u.ld.cellB t1 rfl)) λo=>qv o (Ak (α:=api_Stmt) (xs:=C0.2.Out) o runUnderlying46 rfl) λo=>qa o rfl λo=>re<|tn<|th<|Au (λa w=>∃ (J0:(List api_Stmt)) (I0:Option Addr) (D0:Nat) (E1:List Value),(Z40 (Z3l N) N p12 p13 Q0 C0) J0=some r∧Fr 134 [(0,PT b2),(1,i6 p12),(2,i6 p13),(6,i6 Q0),(9,PT X1),(10,i6 (C0.2.Out.length:Int))] a∧St w0 (sepA [bk b2 [SL oa3 p1.L cap4,i6 p1.At,i6 p1.E,i6 p1.Pos,SL oa7 p1.Out cap8] 171,sla 51 9 oa7 p1.Out.length cap8 vs9]).fp [H44] [sla 51 9 I0 J0.length D0 E1,bk b2 [SL E2 C0.2.L M1,i6 C0.2.At,i6 C0.2.E,i6 C0.2.Pos,SL I0 J0 D0] 171,bk X1 [i6 C0.1.Kind,Ac C0.1.Reg,Ac C0.1.Name,SL O0 C0.1.E F0,SL P0 C0.1.F G0,i6 C0.1.N,i6 C0.1.Body,i6 C0.1.Else,i6 C0.1.At] 51] w∧Rows H44 E1 J0) ?_ ?_
 obtain ⟨A5,B5,hm⟩:=bs hm
 refine rdL (Aa t0 Ah) 11 u wide λw u=>ds 0 (St.ldsX u i2 (Aa t0 Ah)) o rfl (Ab o rfl) λo=>ds 1 (St.ldsX u i2 (Aa t0 Ah)) o rfl (Ab o rfl) λo=>ds 2 (St.ldsX u i2 (Aa t0 Ah)) o rfl (Aj o rfl) λo=>ds 3 (St.ldsX u i2 (Aa t0 Ah)) o rfl (Af o Et rfl) λo=>da2 (i:=4) (j:=5) (by kernel_rfl) ?_ ?_
 refine di (i:=4) rfl<|q1 o rfl (Ag o isAgg46 rfl (u.ld.cellB t1 rfl)) λa o=>⟨λ_=>(St.ldsX u i2 (Aa t0 Ah)),?_⟩
 refine dq 5 (St.ldsX u i2 (Aa t0 Ah)) o rfl (λw hl=>Ax o isAgg51 sizeOf51 rfl rfl (hl.cellsB t0)) λo=>da1 (i:=6) (by kernel_rfl) ?_
 refine di (i:=6) rfl<|Bi (e:=51) (sz:=9) [i6 C0.1.Kind,Ac C0.1.Reg,Ac C0.1.Name,SL O0 C0.1.E F0,SL P0 C0.1.F G0,i6 C0.1.N,i6 C0.1.Body,i6 C0.1.Else,i6 C0.1.At] o rfl u rfl rfl rfl (λw=>by kernel_rfl) λE6 w a u o=>?_
 have Q1:Rows (α:=api_Stmt) H44 [i6 C0.1.Kind,Ac C0.1.Reg,Ac C0.1.Name,SL O0 C0.1.E F0,SL P0 C0.1.F G0,i6 C0.1.N,i6 C0.1.Body,i6 C0.1.Else,i6 C0.1.At] ([C0.1]:List api_Stmt):=(.cons (c:=[i6 C0.1.Kind,Ac C0.1.Reg,Ac C0.1.Name,SL O0 C0.1.E F0,SL P0 C0.1.F G0,i6 C0.1.N,i6 C0.1.Body,i6 C0.1.Else,i6 C0.1.At]) ⟨_,_,rfl,rfl,⟨_,_,rfl,rfl,⟨_,_,rfl,rfl,⟨_,_,rfl,⟨_,_,rfl,S3,T3⟩,⟨_,_,rfl,⟨_,_,rfl,U3,V3⟩,⟨_,_,rfl,rfl,⟨_,_,rfl,rfl,⟨_,_,rfl,rfl,rfl⟩⟩⟩⟩⟩⟩⟩⟩ .nil)
 refine ⟨λ_=>(St.ldsX u i2 (Aa t1 Ah)),?_⟩
 refine da1 (i:=7) (by kernel_rfl) ?_
 refine di (i:=7) rfl<|Cc (α:=api_Stmt) (xs:=C0.2.Out) (ys:=([C0.1]:List api_Stmt)) o rfl u underlying46 Oa rfl (by decide) rfl rfl rfl t3 T4 (u.rdO t0) Q1 B5 λE3 Y1 F3 w a G3 hU o=>?_
 replace u:=hU _ (.tail (.tail (.tail .head)))
 replace u:=u.drop .head
 refine ⟨λ_=>(St.ldsX u i2 (Aa t0 Ah)),?_⟩
 refine ds 8 (St.ldsX u i2 (Aa t0 Ah)) o rfl (Aj o rfl) λo=>ds 9 (St.ldsX u i2 (Aa t0 Ah)) o rfl (Af o Et rfl) λo=>da1 (i:=10) (by kernel_rfl) ?_
 refine di (i:=10) rfl<|Ay o u sizeOf46 rfl rfl rfl rfl (.tail .head) (.succ (.succ (.succ (.succ .zero)))) λw u=>⟨λ_=>(St.ldsX u i2 (Aa t0 Ah)),?_⟩
 refine de (by kernel_rfl)<|tn<|?_
 replace u:=u.pk [2,1,0] rfl
 exact ⟨A5,E3,Y1,F3,hm,o.hs,u,G3⟩
 refine di (i:=5) rfl<|q1 o rfl (Ax o isAgg51 sizeOf51 rfl rfl (u.ld.cellsB t0)) λa o=>⟨λ_=>(St.ldsX u i2 (Aa t0 Ah)),?_⟩
 refine da2 (i:=4) (j:=6) (by kernel_rfl) ?_ ?_
 refine di (i:=4) rfl<|q1 o rfl (Ag o isAgg46 rfl (u.ld.cellB t1 rfl)) λa o=>⟨λ_=>(St.ldsX u i2 (Aa t0 Ah)),?_⟩
 refine da1 (i:=6) (by kernel_rfl) ?_
 refine di (i:=6) rfl<|Bi (e:=51) (sz:=9) [i6 C0.1.Kind,Ac C0.1.Reg,Ac C0.1.Name,SL O0 C0.1.E F0,SL P0 C0.1.F G0,i6 C0.1.N,i6 C0.1.Body,i6 C0.1.Else,i6 C0.1.At] o rfl u rfl rfl rfl (λw=>by kernel_rfl) λE6 w a u o=>?_
 have Q1:Rows (α:=api_Stmt) H44 [i6 C0.1.Kind,Ac C0.1.Reg,Ac C0.1.Name,SL O0 C0.1.E F0,SL P0 C0.1.F G0,i6 C0.1.N,i6 C0.1.Body,i6 C0.1.Else,i6 C0.1.At] ([C0.1]:List api_Stmt):=(.cons (c:=[i6 C0.1.Kind,Ac C0.1.Reg,Ac C0.1.Name,SL O0 C0.1.E F0,SL P0 C0.1.F G0,i6 C0.1.N,i6 C0.1.Body,i6 C0.1.Else,i6 C0.1.At]) ⟨_,_,rfl,rfl,⟨_,_,rfl,rfl,⟨_,_,rfl,rfl,⟨_,_,rfl,⟨_,_,rfl,S3,T3⟩,⟨_,_,rfl,⟨_,_,rfl,U3,V3⟩,⟨_,_,rfl,rfl,⟨_,_,rfl,rfl,⟨_,_,rfl,rfl,rfl⟩⟩⟩⟩⟩⟩⟩⟩ .nil)
 refine ⟨λ_=>(St.ldsX u i2 (Aa t1 Ah)),?_⟩
 refine da1 (i:=7) (by kernel_rfl) ?_
 refine di (i:=7) rfl<|Cc (α:=api_Stmt) (xs:=C0.2.Out) (ys:=([C0.1]:List api_Stmt)) o rfl u underlying46 Oa rfl (by decide) rfl rfl rfl t3 T4 (u.rdO t0) Q1 B5 λE3 Y1 F3 w a G3 hU o=>?_
 replace u:=hU _ (.tail (.tail (.tail .head)))
 replace u:=u.drop .head
 refine ⟨λ_=>(St.ldsX u i2 (Aa t0 Ah)),?_⟩
 refine ds 8 (St.ldsX u i2 (Aa t0 Ah)) o rfl (Aj o rfl) λo=>ds 9 (St.ldsX u i2 (Aa t0 Ah)) o rfl (Af o Et rfl) λo=>da1 (i:=10) (by kernel_rfl) ?_
 refine di (i:=10) rfl<|Ay o u sizeOf46 rfl rfl rfl rfl (.tail .head) (.succ (.succ (.succ (.succ .zero)))) λw u=>⟨λ_=>(St.ldsX u i2 (Aa t0 Ah)),?_⟩
 refine de (by kernel_rfl)<|tn<|?_
 replace u:=u.pk [2,1,0] rfl
 exact ⟨A5,E3,Y1,F3,hm,o.hs,u,G3⟩
 refine di (i:=6) rfl<|Bi (e:=51) (sz:=9) [i6 C0.1.Kind,Ac C0.1.Reg,Ac C0.1.Name,SL O0 C0.1.E F0,SL P0 C0.1.F G0,i6 C0.1.N,i6 C0.1.Body,i6 C0.1.Else,i6 C0.1.At] o rfl u rfl rfl rfl (λw=>by kernel_rfl) λE6 w a u o=>?_
 have Q1:Rows (α:=api_Stmt) H44 [i6 C0.1.Kind,Ac C0.1.Reg,Ac C0.1.Name,SL O0 C0.1.E F0,SL P0 C0.1.F G0,i6 C0.1.N,i6 C0.1.Body,i6 C0.1.Else,i6 C0.1.At] ([C0.1]:List api_Stmt):=(.cons (c:=[i6 C0.1.Kind,Ac C0.1.Reg,Ac C0.1.Name,SL O0 C0.1.E F0,SL P0 C0.1.F G0,i6 C0.1.N,i6 C0.1.Body,i6 C0.1.Else,i6 C0.1.At]) ⟨_,_,rfl,rfl,⟨_,_,rfl,rfl,⟨_,_,rfl,rfl,⟨_,_,rfl,⟨_,_,rfl,S3,T3⟩,⟨_,_,rfl,⟨_,_,rfl,U3,V3⟩,⟨_,_,rfl,rfl,⟨_,_,rfl,rfl,⟨_,_,rfl,rfl,rfl⟩⟩⟩⟩⟩⟩⟩⟩ .nil)
 refine ⟨λ_=>(St.ldsX u i2 (Aa t1 Ah)),?_⟩
 refine da1 (i:=4) (by kernel_rfl) ?_
 refine di (i:=4) rfl<|q1 o rfl (Ag o isAgg46 rfl (u.ld.cellB t2 rfl)) λa o=>⟨λ_=>(St.ldsX u i2 (Aa t1 Ah)),?_⟩
 refine da1 (i:=7) (by kernel_rfl) ?_
 refine di (i:=7) rfl<|Cc (α:=api_Stmt) (xs:=C0.2.Out) (ys:=([C0.1]:List api_Stmt)) o rfl u underlying46 Oa rfl (by decide) rfl rfl rfl t3 T4 (u.rdO t0) Q1 B5 λE3 Y1 F3 w a G3 hU o=>?_
 replace u:=hU _ (.tail (.tail (.tail .head)))
 replace u:=u.drop .head
 refine ⟨λ_=>(St.ldsX u i2 (Aa t0 Ah)),?_⟩
 refine ds 8 (St.ldsX u i2 (Aa t0 Ah)) o rfl (Aj o rfl) λo=>ds 9 (St.ldsX u i2 (Aa t0 Ah)) o rfl (Af o Et rfl) λo=>da1 (i:=10) (by kernel_rfl) ?_
 refine di (i:=10) rfl<|Ay o u sizeOf46 rfl rfl rfl rfl (.tail .head) (.succ (.succ (.succ (.succ .zero)))) λw u=>⟨λ_=>(St.ldsX u i2 (Aa t0 Ah)),?_⟩
 refine de (by kernel_rfl)<|tn<|?_
 replace u:=u.pk [2,1,0] rfl
 exact ⟨A5,E3,Y1,F3,hm,o.hs,u,G3⟩
 rintro a w ⟨J0,I0,D0,E1,hm,o,u,C5⟩
 unfold Z40 at hm
 refine th<|th<|rg<|qm o rfl λo=>qv o (Br o rfl rfl) λo=>qm o rfl λo=>gr (Fk:=[(0,PT b2),(1,i6 p12),(2,i6 p13),(6,i6 Q0),(9,PT X1),(10,i6 (C0.2.Out.length:Int)),(79,.bool ((decide (Q0≠11)) && (decide (Q0≠12))))]) 76 3 o u ?_ ?_ ?_
 intro hb o key
 exact qg o (Ab o rfl) λo=>qg o (Br o rfl rfl) λo=>qk o (Ad o rfl rfl) key u hb
 intro hb o key
 iterate 2 refine qn o λo=>?_
 exact qk o (Ae o rfl rfl) key u hb
 intro a w o u
 refine re<|?_
 rcases bit hm with ⟨U4,hm⟩ | ⟨U4,hm⟩
 refine tn<|ctv o rfl U4<|th<|?_
 obtain ⟨R8,G8,hm⟩:=bs hm
 refine rg<|qm o rfl λo=>?_
 replace u:=u.pk [1,0,0] rfl
 replace u:=St.sep [bk b2 [SL E2 C0.2.L M1,i6 C0.2.At,i6 C0.2.E,i6 C0.2.Pos,SL I0 J0 D0] 171,sla 51 9 I0 J0.length D0 E1] u
 refine ls<|c1 o rfl call161 (Ik (St.le u) (p1:=(leadlineref04_P.mk C0.2.L C0.2.At C0.2.E C0.2.Pos J0)) (b2:=b2) (oa3:=E2) (cap4:=M1) (oa7:=I0) (cap8:=D0) (vs9:=E1) l4 u4 C5 (St.sepOk u) (St.sepDis u) G8) ⟨rfl,rfl,trivial⟩ (λv w a hR o=>?_)
 obtain ⟨H80,K7,W5,L7,X5,M7,rfl,O7,P7,Q7,W3,R7,hd79,hk⟩:=hR
 obtain ⟨u,W3⟩:=And.intro (St.mutH u hk W3 R7 hd79) (St.extcMM u W3)
 replace u:=u.unsep
 refine re<|tn<|wr<|tr<|?_
 obtain rfl:=si hm
 exact r0 o results160 ⟨H80,K7,W5,L7,X5,M7,rfl,O7,P7,Q7,(ExtM.trans D3 W3),(St.le u),(St.disL (u.pickL (.cons .head (.cons .head .nil)))),(u.pickL (.cons .head (.cons .head .nil))).endMut⟩
 refine tn<|cfv o rfl U4<|wk<|tn<|th<|rg<|qm o rfl λo=>qa o rfl λo=>re<|tn<|th<|th<|rg<|qm o rfl λo=>qv o (An o rfl rfl) λo=>re<|tn<|Au (λa w=>∃ (u0:Int),(Z41 (Z3l N) N p12 Q0 C0 J0) u0=some r∧Fr 134 [(0,PT b2),(1,i6 p12),(6,i6 Q0),(9,PT X1),(10,i6 (C0.2.Out.length:Int)),(11,i6 u0)] a∧St w0 (sepA [bk b2 [SL oa3 p1.L cap4,i6 p1.At,i6 p1.E,i6 p1.Pos,SL oa7 p1.Out cap8] 171,sla 51 9 oa7 p1.Out.length cap8 vs9]).fp [H44] [sla 51 9 I0 J0.length D0 E1,bk b2 [SL E2 C0.2.L M1,i6 C0.2.At,i6 C0.2.E,i6 C0.2.Pos,SL I0 J0 D0] 171,bk X1 [i6 C0.1.Kind,Ac C0.1.Reg,Ac C0.1.Name,SL O0 C0.1.E F0,SL P0 C0.1.F G0,i6 C0.1.N,i6 C0.1.Body,i6 C0.1.Else,i6 C0.1.At] 51] w) ?_ ?_
 rcases bip hm with ⟨V4,hm⟩ | ⟨V4,hm⟩
 refine ctv o rfl V4<|rg<|qm o rfl λo=>qv o (Am o rfl rfl) λo=>qa o rfl λo=>re<|tn<|?_
 exact ⟨(IntKind.i64.wrap (p13+1)),hm,o.hs,u⟩
 refine cfv o rfl V4<|wk<|tn<|?_
 exact ⟨p13,hm,o.hs,u⟩
 rintro a w ⟨u0,hm,o,u⟩
 unfold Z41 at hm
 refine th<|?_
 obtain ⟨E0,I8,hm⟩:=bs hm
 refine rg<|qm o rfl λo=>qm o rfl λo=>qv o (Am o rfl rfl) λo=>qm o rfl λo=>?_
 replace u:=u.pk [1,0,0] rfl
 replace u:=St.sep [bk b2 [SL E2 C0.2.L M1,i6 C0.2.At,i6 C0.2.E,i6 C0.2.Pos,SL I0 J0 D0] 171,sla 51 9 I0 J0.length D0 E1] u
 refine ls<|c1 o rfl call169 (ih_Z3l (St.le u) (p1:=(leadlineref04_P.mk C0.2.L C0.2.At C0.2.E C0.2.Pos J0)) (b2:=b2) (oa3:=E2) (cap4:=M1) (oa7:=I0) (cap8:=D0) (vs9:=E1) l4 u4 C5 (St.sepOk u) (St.sepDis u) I8) ⟨rfl,rfl,rfl,trivial⟩ (λv w a hR o=>?_)
 obtain ⟨H96,X3,R2,O1,X0,T2,rfl,W4,Y3,d4,F2,S7,hd95,hk⟩:=hR
 obtain ⟨u,F2⟩:=And.intro (St.mutH u hk F2 S7 hd95) (St.extcMM u F2)
 replace u:=u.unsep
 refine qv o (Af o Da rfl) λo=>ls<|Ay o u sizeOf3 rfl rfl rfl rfl (.tail (.tail .head)) (.succ (.succ (.succ (.succ (.succ (.succ .zero)))))) λw u=>re<|tn<|th<|th<|Au (λa w=>∃ (Y0:Bool),(Z42 (Z3l N) N p12 C0 u0 E0) Y0=some r∧Fr 134 [(0,PT b2),(1,i6 p12),(9,PT X1),(10,i6 (C0.2.Out.length:Int)),(11,i6 u0),(112,.bool Y0)] a∧St w0 (sepA [bk b2 [SL oa3 p1.L cap4,i6 p1.At,i6 p1.E,i6 p1.Pos,SL oa7 p1.Out cap8] 171,sla 51 9 oa7 p1.Out.length cap8 vs9]).fp [H96] [sla 51 9 O1 E0.2.Out.length X0 T2,bk b2 [SL X3 E0.2.L R2,i6 E0.2.At,i6 E0.2.E,i6 E0.2.Pos,SL O1 E0.2.Out X0] 171,bk X1 [i6 C0.1.Kind,Ac C0.1.Reg,Ac C0.1.Name,SL O0 C0.1.E F0,SL P0 C0.1.F G0,i6 C0.1.N,i6 E0.1,i6 C0.1.Else,i6 C0.1.At] 51] w) ?_ ?_
 rcases bip hm with ⟨U2,hm⟩ | ⟨U2,hm⟩
 rcases bip hm with ⟨l3,hm⟩ | ⟨l3,hm⟩
 obtain ⟨T7,U7,hm⟩:=bs hm
 refine rdS 20 u wide λw u=>dr 0 u o rfl (Ab o rfl) λo=>dr 1 u o rfl (An o rfl rfl) λo=>dr 2 u o rfl (Aq (Ab o rfl) (congrArg Value.bool U2)) λo=>dg 3 u.ld o rfl (λw hl=>Ab o rfl) λo=>dg 4 u.ld o rfl (λw hl=>Aj o rfl) λo=>dg 5 u.ld o rfl (λw hl=>Af o Bw rfl) λo=>dg 6 u.ld o rfl (λw hl=>Ag o isAgg29 rfl (hl.cellB t0 rfl)) λo=>dg 7 u.ld o rfl (λw hl=>An o rfl rfl) λo=>dr 8 u o rfl (Ad o rfl rfl) λo=>dr 9 u o rfl (Aq (Ab o rfl) (congrArg Value.bool l3)) λo=>dg 10 u.ld o rfl (λw hl=>Ab o rfl) λo=>dg 11 u.ld o rfl (λw hl=>Aj o rfl) λo=>dg 12 u.ld o rfl (λw hl=>Af o Bv rfl) λo=>dg 13 u.ld o rfl (λw hl=>Ag o isAgg120 rfl (hl.cellB t0 rfl)) λo=>dg 14 u.ld o rfl (λw hl=>Ab o rfl) λo=>dg 15 u.ld o rfl (λw hl=>Aj o rfl) λo=>dg 16 u.ld o rfl (λw hl=>Af o Bh rfl) λo=>dg 17 u.ld o rfl (λw hl=>Ag o isAgg3 rfl (hl.cellB t0 rfl)) λo=>da1 (i:=18) (by kernel_rfl) ?_
 refine di (i:=18) rfl<|gy o rfl rfl<|cr o call139 (Gg (Ai _) W4 (St.srH u Y3) U7) u λu o=>⟨λ_=>u.ld,?_⟩
 refine dr 19 u o rfl (Ad o rfl rfl) λo=>de (by kernel_rfl)<|tn<|?_
 replace u:=u.pk [1,0,0] rfl
 exact ⟨T7,hm,o.hs,u⟩
 refine rxS 20 u wide (by kernel_rfl) λw u=>xm u o rfl λo=>xr u o (An o rfl rfl) λo=>xr u o (Aq (Ab o rfl) (congrArg Value.bool U2)) λo=>xg u.ld o (λw hl=>Ab o rfl) λo=>xg u.ld o (λw hl=>Aj o rfl) λo=>xg u.ld o (λw hl=>Af o Bw rfl) λo=>xg u.ld o (λw hl=>Ag o isAgg29 rfl (hl.cellB t0 rfl)) λo=>xg u.ld o (λw hl=>An o rfl rfl) λo=>xr u o (Ad o rfl rfl) λo=>xr u o (Aq (Ab o rfl) (congrArg Value.bool l3)) λo=>?_
 iterate 9 refine xn u.ld o λo=>?_
 refine xr u o (Ae o rfl rfl) λo=>xe<|tn<|?_
 replace u:=u.pk [1,0,0] rfl
 exact ⟨false,hm,o.hs,u⟩
 refine rxS 20 u wide (by kernel_rfl) λw u=>xm u o rfl λo=>xr u o (An o rfl rfl) λo=>xr u o (Aq (Ab o rfl) (congrArg Value.bool U2)) λo=>?_
 iterate 5 refine xn u.ld o λo=>?_
 refine xr u o (Ae o rfl rfl) λo=>xm u o rfl λo=>?_
 iterate 9 refine xn u.ld o λo=>?_
 refine xr u o (Ae o rfl rfl) λo=>xe<|tn<|?_
 replace u:=u.pk [1,0,0] rfl
 exact ⟨false,hm,o.hs,u⟩
 rintro a w ⟨Y0,hm,o,u⟩
 unfold Z42 at hm
 refine Au (λa w=>∃ (G2:(List api_Token)) (n3:Int) (S0:Int) (u3:Int) (I3:(List api_Stmt)) (K0:Int) (R1:PH) (B2:Option Addr) (F1:Nat) (C2:Option Addr) (G1:Nat) (A4:List Value),(Z43 N C0 E0) G2 n3 S0 u3 I3 K0=some r∧ExtM w0 (sepA [bk b2 [SL oa3 p1.L cap4,i6 p1.At,i6 p1.E,i6 p1.Pos,SL oa7 p1.Out cap8] 171,sla 51 9 oa7 p1.Out.length cap8 vs9]).fp H96 R1∧Fr 134 [(0,PT b2),(9,PT X1),(10,i6 (C0.2.Out.length:Int))] a∧St w0 (sepA [bk b2 [SL oa3 p1.L cap4,i6 p1.At,i6 p1.E,i6 p1.Pos,SL oa7 p1.Out cap8] 171,sla 51 9 oa7 p1.Out.length cap8 vs9]).fp [R1] [sla 51 9 C2 I3.length G1 A4,bk b2 [SL B2 G2 F1,i6 n3,i6 S0,i6 u3,SL C2 I3 G1] 171,bk X1 [i6 C0.1.Kind,Ac C0.1.Reg,Ac C0.1.Name,SL O0 C0.1.E F0,SL P0 C0.1.F G0,i6 C0.1.N,i6 E0.1,i6 K0,i6 C0.1.At] 51] w∧G2.length≤F1∧SR R1 B2 G2∧Rows R1 A4 I3) ?_ ?_
 rcases bit hm with ⟨B4,hm⟩ | ⟨B4,hm⟩
 refine ctv o rfl B4<|th<|rg<|qm o rfl λo=>qm o rfl λo=>qv o (Aj o rfl) λo=>qv o (Af o Bh rfl) λo=>qv o (Ag o isAgg3 rfl (u.ld.cellB t1 rfl)) λo=>qv o (Am o rfl rfl) λo=>qv o (Aj o rfl) λo=>qv o (Af o Bh rfl) λo=>ls<|Ay o u sizeOf3 rfl rfl rfl rfl (.tail .head) (.succ .zero) λw u=>re<|tn<|?_
 obtain ⟨I2,V7,hm⟩:=bs hm
 refine rg<|qm o rfl λo=>qm o rfl λo=>qv o (Am o rfl rfl) λo=>qm o rfl λo=>?_
 replace u:=u.pk [1,0,0] rfl
 replace u:=St.sep [bk b2 [SL X3 E0.2.L R2,i6 (IntKind.i64.wrap (E0.2.At+1)),i6 E0.2.E,i6 E0.2.Pos,SL O1 E0.2.Out X0] 171,sla 51 9 O1 E0.2.Out.length X0 T2] u
 refine ls<|c1 o rfl call169 (ih_Z3l (St.le u) (p1:=(leadlineref04_P.mk E0.2.L (IntKind.i64.wrap (E0.2.At+1)) E0.2.E E0.2.Pos E0.2.Out)) (b2:=b2) (oa3:=X3) (cap4:=R2) (oa7:=O1) (cap8:=X0) (vs9:=T2) W4 Y3 d4 (St.sepOk u) (St.sepDis u) V7) ⟨rfl,rfl,rfl,trivial⟩ (λv w a hR o=>?_)
 obtain ⟨H116,Y5,D5,d5,E5,j5,rfl,k5,n5,u5,V2,A6,hd115,hk⟩:=hR
 obtain ⟨u,V2⟩:=And.intro (St.mutH u hk V2 A6 hd115) (St.extcMM u V2)
 replace u:=u.unsep
 refine qv o (Af o Df rfl) λo=>ls<|Ay o u sizeOf3 rfl rfl rfl rfl (.tail (.tail .head)) (.succ (.succ (.succ (.succ (.succ (.succ (.succ .zero))))))) λw u=>re<|tn<|?_
 replace u:=u.pk [1,0,0] rfl
 exact ⟨I2.2.L,I2.2.At,I2.2.E,I2.2.Pos,I2.2.Out,I2.1,H116,Y5,D5,d5,E5,j5,hm,V2,o.hs,u,k5,n5,u5⟩
 refine cfv o rfl B4<|wk<|tn<|?_
 exact ⟨E0.2.L,E0.2.At,E0.2.E,E0.2.Pos,E0.2.Out,C0.1.Else,H96,X3,R2,O1,X0,T2,hm,(ExtM.refl _ _ _),o.hs,u,W4,Y3,d4⟩
 rintro a w ⟨G2,n3,S0,u3,I3,K0,R1,B2,F1,C2,G1,A4,hm,J3,o,u,hcA15,hrA16,j4⟩
 unfold Z43 at hm
 obtain ⟨M8,F5,hm⟩:=bs hm
 have B6:=Rd.oaI (u.rdO t0) j4 (by decide) F5
 obtain ⟨W7,G5,hm⟩:=bs hm
 refine rxS 7 u wide (by kernel_rfl) λw u=>xm u o rfl λo=>xr u o (Aj o rfl) λo=>xr u o (Af o Et rfl) λo=>xq u.ld o (λw hl=>Ag o isAgg46 rfl (hl.cellB t1 rfl)) λo=>xm u o rfl λo=>xq u.ld o (λw hl=>Ax o isAgg51 sizeOf51 rfl rfl (hl.cellsB t2)) λo=>xr u o (Ao o runUnderlying46 sizeOf51 rfl rfl F5 B6) λo=>?_
 have hn133:=Uu G5
 refine xz rfl<|JbJ (α:=api_Stmt) o u sizeOf51 rfl rfl rfl j4 (show Enc.rep (α:=api_Stmt) R1 [i6 C0.1.Kind,Ac C0.1.Reg,Ac C0.1.Name,SL O0 C0.1.E F0,SL P0 C0.1.F G0,i6 C0.1.N,i6 E0.1,i6 K0,i6 C0.1.At] (api_Stmt.mk C0.1.Kind C0.1.Reg C0.1.Name C0.1.E C0.1.F C0.1.N E0.1 K0 C0.1.At) from ⟨_,_,rfl,rfl,⟨_,_,rfl,rfl,⟨_,_,rfl,rfl,⟨_,_,rfl,⟨_,_,rfl,S3,(T3.mono (cp J3.sub F2.sub))⟩,⟨_,_,rfl,⟨_,_,rfl,U3,(V3.mono (cp J3.sub F2.sub))⟩,⟨_,_,rfl,rfl,⟨_,_,rfl,rfl,⟨_,_,rfl,rfl,rfl⟩⟩⟩⟩⟩⟩⟩⟩) G5 t0 λC6 w D6 hU=>?_
 replace u:=hU _ .head
 replace u:=St.eqL u (A':=bk b2 [SL B2 G2 F1,i6 n3,i6 S0,i6 u3,SL C2 W7 G1] 171) (.tail .head) (by simp only [SL,hn133])
 obtain rfl:=si hm
 exact r0n o results160 ⟨R1,B2,F1,C2,G1,C6,rfl,hcA15,hrA16,D6,(ExtM.trans D3 (ExtM.trans F2 J3)),(St.le u),(St.disL (u.pickL (.cons (.tail .head) (.cons .head .nil)))),(u.pickL (.cons (.tail .head) (.cons .head .nil))).endMut⟩
theorem JbS:∀ (N:Nat) {w0:World} {H:PH} (_:H.le w0) {b2:Nat} {p1:leadlineref04_P} {oa3:Option Addr} {cap4:Nat} (_:p1.L.length≤cap4) (_:SR H oa3 p1.L) {oa7:Option Addr} {cap8:Nat} {vs9:List Value} (_:Rows H vs9 p1.Out) {p12:Int} {p13:Int} (_:(sepA [bk b2 [SL oa3 p1.L cap4,i6 p1.At,i6 p1.E,i6 p1.Pos,SL oa7 p1.Out cap8] 171,sla 51 9 oa7 p1.Out.length cap8 vs9]).ok (hp w0)) (_:∀ b,(sepA [bk b2 [SL oa3 p1.L cap4,i6 p1.At,i6 p1.E,i6 p1.Pos,SL oa7 p1.Out cap8] 171,sla 51 9 oa7 p1.Out.length cap8 vs9]).fp b→H b=none) {r:leadlineref04_P} (_:Z3w N p1 p12 p13=some r),Tot Tryz.prog 160 #[PT b2,i6 p12,i6 p13] w0 (λv w'=>∃ (H':PH) (oa1m:Option Addr) (cap1m:Nat) (oa2m:Option Addr) (cap2m:Nat) (vs2m:List Value),v=.tuple #[]∧r.L.length≤cap1m∧SR H' oa1m r.L∧Rows H' vs2m r.Out∧ExtM w0 (sepA [bk b2 [SL oa3 p1.L cap4,i6 p1.At,i6 p1.E,i6 p1.Pos,SL oa7 p1.Out cap8] 171,sla 51 9 oa7 p1.Out.length cap8 vs9]).fp H H'∧H'.le w'∧(∀ b,(sepA [bk b2 [SL oa1m r.L cap1m,i6 r.At,i6 r.E,i6 r.Pos,SL oa2m r.Out cap2m] 171,sla 51 9 oa2m r.Out.length cap2m vs2m]).fp b→H' b=none)∧Mut w0 (sepA [bk b2 [SL oa3 p1.L cap4,i6 p1.At,i6 p1.E,i6 p1.Pos,SL oa7 p1.Out cap8] 171,sla 51 9 oa7 p1.Out.length cap8 vs9]) (sepA [bk b2 [SL oa1m r.L cap1m,i6 r.At,i6 r.E,i6 r.Pos,SL oa2m r.Out cap2m] 171,sla 51 9 oa2m r.Out.length cap2m vs2m]) w'):=λN=>(Jce N).2
theorem Jb5 (hH:H.le w0) {R0:Option Addr} {G0:Nat} {p1:(List api_Token)} (V2:p1.length≤G0) (R1:SR H R0 p1) {p6:Int} {p7:Int} {r:((List api_Stmt)×Int×Int×Int)} (hm:Z4b N p1 p6 p7=some r):Tot Tryz.prog 141 #[SL R0 p1 G0,i6 p6,i6 p7] w0 (λv w'=>∃ (H':PH) (C2:Option Addr) (S1:Nat),v=.tuple #[SL C2 r.1 S1,i6 r.2.1,i6 r.2.2.1,i6 r.2.2.2]∧r.1.length≤S1∧SR H' C2 r.1∧Ext w0 H H'∧H'.le w'∧Keep Nil w0 w'):=by
 unfold Z4b at hm
 refine fn0 func141 rfl ntmps141 rfl rfl λa o=>?_
 have u:St w0 Nil [H] [] w0:=start1 hH
 refine th<|rg<|qa o rfl λo=>?_
 iterate 3 refine qa o rfl λo=>?_
 refine re<|tn<|th<|rg<|qm o rfl λo=>qm o rfl λo=>qv o (Bq [SL R0 p1 G0,i6 p6] [SL R0 p1 G0,i6 p6,i6 0,i6 0,.slice none 0 0] o ⟨rfl,rfl,trivial⟩ (λw=>by kernel_rfl)) λo=>ls<|Bt (cs:=[SL R0 p1 G0,i6 p6,i6 0,i6 0,.slice none 0 0].toArray) o rfl u rfl rfl λb8 w a u o=>qa o rfl λo=>re<|tn<|th<|Au (λa w=>∃ (Y0:(List api_Token)) (C1:Int) (E1:Int) (F1:Int) (K0:(List api_Stmt)) (G1:PH) (j0:Option Addr) (S0:Nat) (M0:Option Addr) (F0:Nat) (T0:List Value),(Z4c N p1 p7) Y0 C1 E1 F1 K0=some r∧Ext w0 H G1∧Fr 68 [(0,SL R0 p1 G0),(2,i6 p7),(10,PT b8)] a∧St w0 Nil [G1] [sla 51 9 M0 K0.length F0 T0,bk b8 [SL j0 Y0 S0,i6 C1,i6 E1,i6 F1,SL M0 K0 F0] 171] w∧Y0.length≤S0∧SR G1 j0 Y0∧Rows G1 T0 K0) ?_ ?_
 replace u:=u.nilS 51 9
 refine wb<|lp (α:=Nat×(List api_Token)×Int×Int×Int×(List api_Stmt)) (λgh a w=>match gh with | (u0,O0,U0,V0,W0,D0)=>∃ (n0:PH) (P0:Option Addr) (I0:Nat) (E0:Option Addr) (C0:Nat) (J0:List Value),(Z4e N (Z4c N p1 p7)) u0 O0 U0 V0 W0 D0=some r∧Ext w0 H n0∧Fr 68 [(0,SL R0 p1 G0),(2,i6 p7),(10,PT b8)] a∧St w0 Nil [n0] [sla 51 9 E0 D0.length C0 J0,bk b8 [SL P0 O0 I0,i6 U0,i6 V0,i6 W0,SL E0 D0 C0] 171] w∧O0.length≤I0∧SR n0 P0 O0∧Rows n0 J0 D0) (λgh=>gh.1) (N,p1,p6,0,0,[]) ⟨H,R0,G0,none,0,[],hm,(Ext.refl _ _),o.hs,u,V2,R1,.nil⟩ ?_
 rintro ⟨u0,O0,U0,V0,W0,D0⟩ a w ⟨n0,P0,I0,E0,C0,J0,hm,P1,o,u,hcB5,hrB6,Q1⟩
 obtain _ | u0:=u0
 simp [Z4e] at hm
 rw [Z4e] at hm
 refine th<|th<|Au (λa w=>∃ (T1:Bool),(Z4d N (Z4c N p1 p7) (Z4e N (Z4c N p1 p7) u0) O0 U0 V0 W0 D0) T1=some r∧Fr 68 [(0,SL R0 p1 G0),(2,i6 p7),(10,PT b8),(31,.bool T1)] a∧St w0 Nil [n0] [sla 51 9 E0 D0.length C0 J0,bk b8 [SL P0 O0 I0,i6 U0,i6 V0,i6 W0,SL E0 D0 C0] 171] w) ?_ ?_
 rcases bip hm with ⟨U1,hm⟩ | ⟨U1,hm⟩
 obtain ⟨W2,X2,hm⟩:=bs hm
 refine rdS 17 u wide λw u=>dr 0 u o rfl (Ab o rfl) λo=>dr 1 u o rfl (Aj o rfl) λo=>dr 2 u o rfl (Af o Bw rfl) λo=>dq 3 u.ld o rfl (λw hl=>Ag o isAgg29 rfl (hl.cellB t1 rfl)) λo=>dr 4 u o rfl (An o rfl rfl) λo=>dr 5 u o rfl (Aq (Ab o rfl) (congrArg Value.bool U1)) λo=>dg 6 u.ld o rfl (λw hl=>Ab o rfl) λo=>dg 7 u.ld o rfl (λw hl=>Aj o rfl) λo=>dg 8 u.ld o rfl (λw hl=>Af o Bv rfl) λo=>dg 9 u.ld o rfl (λw hl=>Ag o isAgg120 rfl (hl.cellB t1 rfl)) λo=>dg 10 u.ld o rfl (λw hl=>Ab o rfl) λo=>dg 11 u.ld o rfl (λw hl=>Aj o rfl) λo=>dg 12 u.ld o rfl (λw hl=>Af o Bh rfl) λo=>dg 13 u.ld o rfl (λw hl=>Ag o isAgg3 rfl (hl.cellB t1 rfl)) λo=>da1 (i:=14) (by kernel_rfl) ?_
 refine di (i:=14) rfl<|gy o rfl rfl<|cr o call139 (Gg (Ai _) hcB5 (St.srH u hrB6) X2) u λu o=>⟨λ_=>u.ld,?_⟩
 refine dg 15 u.ld o rfl (λw hl=>Az o rfl) λo=>dr 16 u o rfl (Ad o rfl rfl) λo=>de (by kernel_rfl)<|tn<|?_
 exact ⟨(!W2),hm,o.hs,u⟩
 refine rxS 17 u wide (by kernel_rfl) λw u=>xm u o rfl λo=>xr u o (Aj o rfl) λo=>xr u o (Af o Bw rfl) λo=>xq u.ld o (λw hl=>Ag o isAgg29 rfl (hl.cellB t1 rfl)) λo=>xr u o (An o rfl rfl) λo=>xr u o (Aq (Ab o rfl) (congrArg Value.bool U1)) λo=>?_
 iterate 10 refine xn u.ld o λo=>?_
 refine xr u o (Ae o rfl rfl) λo=>xe<|tn<|?_
 exact ⟨false,hm,o.hs,u⟩
 rintro a w ⟨T1,hm,o,u⟩
 unfold Z4d at hm
 rcases bit hm with ⟨J1,hm⟩ | ⟨J1,hm⟩
 refine ctv o rfl J1<|wk<|tn<|wb<|?_
 obtain ⟨I1,Y2,hm⟩:=bs hm
 refine rg<|qm o rfl λo=>?_
 replace u:=u.pk [1,0] rfl
 replace u:=St.sep [bk b8 [SL P0 O0 I0,i6 U0,i6 V0,i6 W0,SL E0 D0 C0] 171,sla 51 9 E0 D0.length C0 J0] u
 refine ls<|c1 o rfl call160 (JbS _ (St.le u) (p1:=(leadlineref04_P.mk O0 U0 V0 W0 D0)) (b2:=b8) (oa3:=P0) (cap4:=I0) (oa7:=E0) (cap8:=C0) (vs9:=J0) hcB5 hrB6 Q1 (St.sepOk u) (St.sepDis u) Y2) ⟨rfl,rfl,rfl,trivial⟩ (λv w a hR o=>?_)
 obtain ⟨H18,E2,X1,F2,Y1,G2,rfl,I2,J2,K2,B1,M2,hd17,hk⟩:=hR
 obtain ⟨u,B1⟩:=And.intro (St.mutH u hk B1 M2 hd17) (St.extc0 u B1)
 replace u:=u.unsep
 refine re<|bn<|tn<|?_
 replace u:=u.pk [1,0] rfl
 exact ⟨(u0,I1.L,I1.At,I1.E,I1.Pos,I1.Out),⟨H18,E2,X1,F2,Y1,G2,hm,(Ext.trans P1 B1),o.hs,u,I2,J2,K2⟩,Nat.lt_succ_self _⟩
 refine cfv o rfl J1<|we<|tx<|tx<|bx<|tn<|?_
 exact ⟨O0,U0,V0,W0,D0,n0,P0,I0,E0,C0,J0,hm,P1,o.hs,u,hcB5,hrB6,Q1⟩
 rintro a w ⟨Y0,C1,E1,F1,K0,G1,j0,S0,M0,F0,T0,hm,X0,o,u,hcA5,hrA6,B2⟩
 unfold Z4c at hm
 refine th<|?_
 obtain ⟨A3,B3,hm⟩:=bs hm
 refine rg<|qm o rfl λo=>?_
 replace u:=u.pk [1,0] rfl
 replace u:=St.sep [bk b8 [SL j0 Y0 S0,i6 C1,i6 E1,i6 F1,SL M0 K0 F0] 171,sla 51 9 M0 K0.length F0 T0] u
 refine ls<|c1 o rfl call161 (Ik (St.le u) (p1:=(leadlineref04_P.mk Y0 C1 E1 F1 K0)) (b2:=b8) (oa3:=j0) (cap4:=S0) (oa7:=M0) (cap8:=F0) (vs9:=T0) hcA5 hrA6 B2 (St.sepOk u) (St.sepDis u) B3) ⟨rfl,rfl,trivial⟩ (λv w a hR o=>?_)
 obtain ⟨H33,F3,D3,G3,E3,I3,rfl,J3,K3,O2,Q0,P2,hd32,hk⟩:=hR
 obtain ⟨u,Q0⟩:=And.intro (St.mutH u hk Q0 P2 hd32) (St.extc0 u Q0)
 replace u:=u.unsep
 refine re<|tn<|th<|th<|rg<|qm o rfl λo=>qv o (Aj o rfl) λo=>qv o (Af o Bw rfl) λo=>qv o (Ag o isAgg29 rfl (u.ld.cellB t0 rfl)) λo=>qv o (Br o rfl rfl) λo=>re<|?_
 rcases bip hm with ⟨M1,hm⟩ | ⟨M1,hm⟩
 refine tn<|ctv o rfl M1<|th<|rxS 12 u wide (by kernel_rfl) λw u=>xm u o rfl λo=>xr u o (Aj o rfl) λo=>xr u o (Af o Bw rfl) λo=>xq u.ld o (λw hl=>Ag o isAgg29 rfl (hl.cellB t0 rfl)) λo=>xm u o rfl λo=>xr u o (Aj o rfl) λo=>xr u o (Af o Gp rfl) λo=>xq u.ld o (λw hl=>Ag o isAgg3 rfl (hl.cellB t0 rfl)) λo=>?_
 iterate 4 refine xq u.ld o (λw hl=>Bn o rfl) λo=>?_
 refine xe<|tn<|wr<|tr<|?_
 obtain rfl:=si hm
 exact Go.LM.r4 o results141 rfl rfl rfl rfl ⟨H33,_,_,rfl,(Nat.le_refl 0),(SR.nil _ _),(Ext.trans X0 Q0),(St.le u),u.keep⟩
 refine tn<|cfv o rfl M1<|wk<|tn<|th<|th<|rg<|qm o rfl λo=>qv o (Aj o rfl) λo=>qv o (Af o Et rfl) λo=>qv o (Ag o isAgg46 rfl (u.ld.cellB t0 rfl)) λo=>qv o (Ak (α:=api_Stmt) (xs:=A3.Out) o runUnderlying46 rfl) λo=>qv o (Bb o rfl rfl) λo=>re<|?_
 rcases bip hm with ⟨O1,hm⟩ | ⟨O1,hm⟩
 refine tn<|ctv o rfl O1<|th<|?_
 obtain ⟨L3,V1,hm⟩:=bs hm
 obtain ⟨M3,C3,Q2⟩:=SR.get R1 V1
 obtain rfl:=Bc C3
 refine rxS 9 u wide (by kernel_rfl) λw u=>?_
 iterate 2 refine xq u.ld o (λw hl=>Ab o rfl) λo=>?_
 refine xr u o (Ao o runUnderlying120 sizeOf130 rfl rfl V1 (SR.oaI R1 (by decide) V1)) λo=>xr u o (Af o Dt rfl) λo=>xq u.ld o (λw hl=>Ag o isAgg3 rfl (PH.le.cell (λb o hx=>(Lds.le hl) b o ((cp Q0.sub X0.sub) b o hx)) (Q2 3 _ rfl))) λo=>?_
 iterate 4 refine xq u.ld o (λw hl=>Bn o rfl) λo=>?_
 refine xe<|tn<|wr<|tr<|?_
 obtain rfl:=si hm
 exact Go.LM.r4 o results141 rfl rfl rfl rfl ⟨H33,_,_,rfl,(Nat.le_refl 0),(SR.nil _ _),(Ext.trans X0 Q0),(St.le u),u.keep⟩
 refine tn<|cfv o rfl O1<|wk<|tn<|th<|rxS 12 u wide (by kernel_rfl) λw u=>xm u o rfl λo=>xr u o (Aj o rfl) λo=>xr u o (Af o Et rfl) λo=>xq u.ld o (λw hl=>Ag o isAgg46 rfl (hl.cellB t0 rfl)) λo=>xm u o rfl λo=>xr u o (Aj o rfl) λo=>xr u o (Af o Bh rfl) λo=>xq u.ld o (λw hl=>Ag o isAgg3 rfl (hl.cellB t0 rfl)) λo=>?_
 iterate 4 refine xq u.ld o (λw hl=>Bn o rfl) λo=>?_
 refine xe<|tn<|wr<|?_
 obtain ⟨H53,R2,T2,U2,u⟩:=St.frzS u (.tail .head) O2
 obtain rfl:=si hm
 exact Go.LM.r4 o results141 rfl rfl rfl rfl ⟨H53,_,_,rfl,U2,T2,(Ext.trans X0 (Ext.trans Q0 R2)),(St.le u),u.keep⟩
set_option maxHeartbeats 4000000 in
theorem Jaw (hH:H.le w0) {b2:Nat} {p1:leadlineref05_In} {oa3:Option Addr} {cap4:Nat} (P3:p1.L.length≤cap4) (Q3:SR H oa3 p1.L) {p7:Str} {W0:Option Addr} {K0:Nat} {p8:(List api_Stmt)} (T2:p8.length≤K0) (U2:SR H W0 p8) {p13:Int} (hO:(sepA [bk b2 [SL oa3 p1.L cap4,i6 p1.At,i6 p1.E,i6 p1.Pos] 125]).ok (hp w0)) (hD:∀ b,(sepA [bk b2 [SL oa3 p1.L cap4,i6 p1.At,i6 p1.E,i6 p1.Pos] 125]).fp b→H b=none) {r:(api_Thread×leadlineref05_In)} (hm:Z58 N p1 p7 p8 p13=some r):Tot Tryz.prog 105 #[PT b2,.agg #[Ac p7,.slice none 0 0,SL W0 p8 K0,i6 p13]] w0 (λv w'=>∃ (H':PH) (cs0:List Value) (oa1m:Option Addr) (cap1m:Nat),v=.agg cs0.toArray∧Enc.rep H' cs0 r.1∧r.2.L.length≤cap1m∧SR H' oa1m r.2.L∧ExtM w0 (sepA [bk b2 [SL oa3 p1.L cap4,i6 p1.At,i6 p1.E,i6 p1.Pos] 125]).fp H H'∧H'.le w'∧(∀ b,(sepA [bk b2 [SL oa1m r.2.L cap1m,i6 r.2.At,i6 r.2.E,i6 r.2.Pos] 125]).fp b→H' b=none)∧Mut w0 (sepA [bk b2 [SL oa3 p1.L cap4,i6 p1.At,i6 p1.E,i6 p1.Pos] 125]) (sepA [bk b2 [SL oa1m r.2.L cap1m,i6 r.2.At,i6 r.2.E,i6 r.2.Pos] 125]) w'):=by
 unfold Z58 at hm
 refine fn0 func105 rfl ntmps105 rfl rfl λa o=>?_
 have u:=Cn hH hO hD
 refine th<|rg<|ls<|Bt (cs:=[Ac p7,.slice none 0 0,SL W0 p8 K0,i6 p13].toArray) o rfl u rfl rfl λX0 w a u o=>ls<|Av (cs:=[Ac [],.slice none 0 0,.slice none 0 0,i6 0].toArray) o rfl u zeroValue48 rfl λY0 w a u o=>re<|tn<|th<|rg<|qm o rfl λo=>qv o (Aj o rfl) λo=>qv o (Af o Bj rfl) λo=>qv o (Ag o isAgg3 rfl (u.ld.cellB t2 rfl)) λo=>qa o rfl λo=>re<|tn<|th<|?_
 obtain ⟨E1,R3,hm⟩:=bs hm
 refine rg<|qm o rfl λo=>?_
 replace u:=u.pk [2,0,0] rfl
 replace u:=St.sep [bk b2 [SL oa3 p1.L cap4,i6 p1.At,i6 p1.E,i6 p1.Pos] 125] u
 refine ls<|c1 o rfl call140 (Wv (St.le u) (p1:=p1) (b2:=b2) (oa3:=oa3) (cap4:=cap4) P3 Q3 (St.sepOk u) (St.sepDis u) R3) ⟨rfl,rfl,trivial⟩ (λv w a hR o=>?_)
 obtain ⟨F2,T1,rfl,V2,W2,hk⟩:=hR
 replace u:=(u.mut hk .head).unsep
 refine re<|tn<|th<|th<|?_
 obtain ⟨M0,S3,hm⟩:=bs hm
 refine rg<|qm o rfl λo=>?_
 replace u:=u.pk [0,0,0] rfl
 replace u:=St.sep [bk b2 [SL F2 E1.L T1,i6 E1.At,i6 E1.E,i6 E1.Pos] 125] u
 refine ls<|c1 o rfl call102 (Il (St.le u) (p1:=E1) (b2:=b2) (oa3:=F2) (cap4:=T1) V2 W2 (St.sepOk u) (St.sepDis u) S3) ⟨rfl,rfl,trivial⟩ (λv w a hR o=>?_)
 obtain ⟨I1,j0,rfl,G2,I2,hk⟩:=hR
 replace u:=(u.mut hk .head).unsep
 refine re<|tn<|Au (λa w=>∃ (S0:(List api_Token)) (U1:Int) (V1:Int) (X1:Int) (G0:(List Str)) (T0:Option Addr) (O0:Nat) (E0:Option Addr) (D0:Nat) (Q0:List Value),(Z59 N p1 p7 p8 p13) S0 U1 V1 X1 G0=some r∧Fr 73 [(0,PT b2),(3,PT X0),(4,PT Y0),(5,i6 p1.At)] a∧St w0 (sepA [bk b2 [SL oa3 p1.L cap4,i6 p1.At,i6 p1.E,i6 p1.Pos] 125]).fp [H] [bk b2 [SL T0 S0 O0,i6 U1,i6 V1,i6 X1] 125,sla 9 1 E0 G0.length D0 Q0,bk X0 [Ac p7,SL E0 G0 D0,SL W0 p8 K0,i6 p13] 48,bk Y0 [Ac [],.slice none 0 0,.slice none 0 0,i6 0] 48] w∧S0.length≤O0∧SR H T0 S0∧Rows H Q0 G0) ?_ ?_
 rcases bit hm with ⟨J1,hm⟩ | ⟨J1,hm⟩
 refine ctv o rfl J1<|th<|?_
 obtain ⟨F0,T3,hm⟩:=bs hm
 refine rg<|qm o rfl λo=>?_
 replace u:=u.pk [0,0,0] rfl
 replace u:=St.sep [bk b2 [SL I1 M0.2.L j0,i6 M0.2.At,i6 M0.2.E,i6 M0.2.Pos] 125] u
 refine ls<|c1 o rfl call103 (Sf (St.le u) (p1:=M0.2) (b2:=b2) (oa3:=I1) (cap4:=j0) G2 I2 (St.sepOk u) (St.sepDis u) T3) ⟨rfl,rfl,trivial⟩ (λv w a hR o=>?_)
 obtain ⟨J2,Y1,X2,K2,B2,rfl,n0,Y2,A3,hk⟩:=hR
 replace u:=(u.mut hk .head).unsep
 replace n0:=n0 H
 refine qa o rfl λo=>re<|tn<|th<|rg<|qa o rfl λo=>re<|?_
 replace u:=u.nilS 9 1
 replace u:=u.pk [1,0,2,1,0] rfl
 refine tn<|wb<|lp (α:=Nat×(List Str)×Int) (λgh a w=>match gh with | (F1,U0,C2)=>∃ (u0:Option Addr) (R0:Nat) (B1:List Value),(Z5b N (Z59 N p1 p7 p8 p13) F0) F1 U0 C2=some r∧Fr 73 [(0,PT b2),(3,PT X0),(4,PT Y0),(5,i6 p1.At),(6,SL J2 F0.1 Y1),(7,i6 C2)] a∧St w0 (sepA [bk b2 [SL oa3 p1.L cap4,i6 p1.At,i6 p1.E,i6 p1.Pos] 125]).fp [H] [bk b2 [SL K2 F0.2.L B2,i6 F0.2.At,i6 F0.2.E,i6 F0.2.Pos] 125,sla 9 1 u0 U0.length R0 B1,bk X0 [Ac p7,SL u0 U0 R0,SL W0 p8 K0,i6 p13] 48,bk Y0 [Ac [],.slice none 0 0,.slice none 0 0,i6 0] 48,sla 53 3 J2 F0.1.length Y1 X2] w∧Rows H B1 U0) (λgh=>gh.1) (N,[],0) ⟨none,0,[],hm,o.hs,u,.nil⟩ ?_
 rintro ⟨F1,U0,C2⟩ a w ⟨u0,R0,B1,hm,o,u,M2⟩
 obtain _ | F1:=F1
 simp [Z5b] at hm
 rw [Z5b] at hm
 refine th<|th<|rg<|qm o rfl λo=>qm o rfl λo=>qv o (Ak (α:=api_Cell) (xs:=F0.1) o runUnderlying23 rfl) λo=>qv o (Ap o rfl rfl) λo=>re<|?_
 rcases bip hm with ⟨M1,hm⟩ | ⟨M1,hm⟩
 refine tn<|ctv o rfl M1<|wk<|tn<|th<|wb<|?_
 obtain ⟨G1,O2,hm⟩:=bs hm
 have B3:=Rd.oaI (u.rdO t4) n0 (by decide) O2
 obtain ⟨Y3,U3,C3⟩:=Rows.getI n0 O2
 obtain rfl:=Bu U3
 obtain ⟨V3,W3,hm⟩:=bs hm
 refine rdL (Aa t0 (Aa t2 (Aa t3 (Aa t4 Ah)))) 10 u wide λw u=>ds 0 (St.ldsX u i2 (Aa t0 (Aa t2 (Aa t3 (Aa t4 Ah))))) o rfl (Af o Cm rfl) λo=>dq 1 (St.ldsX u i2 (Aa t0 (Aa t2 (Aa t3 (Aa t4 Ah))))) o rfl (λw hl=>Ag o isAgg36 rfl (hl.cellB t1 rfl)) λo=>ds 2 (St.ldsX u i2 (Aa t0 (Aa t2 (Aa t3 (Aa t4 Ah))))) o rfl (Ab o rfl) λo=>ds 3 (St.ldsX u i2 (Aa t0 (Aa t2 (Aa t3 (Aa t4 Ah))))) o rfl (Ab o rfl) λo=>ds 4 (St.ldsX u i2 (Aa t0 (Aa t2 (Aa t3 (Aa t4 Ah))))) o rfl (Ao o runUnderlying23 sizeOf53 rfl rfl O2 B3) λo=>ds 5 (St.ldsX u i2 (Aa t0 (Aa t2 (Aa t3 (Aa t4 Ah))))) o rfl (Af o Er rfl) λo=>dq 6 (St.ldsX u i2 (Aa t0 (Aa t2 (Aa t3 (Aa t4 Ah))))) o rfl (λw hl=>Ag o isAgg9 rfl (hl.elO2 t3 (C3 0 _ rfl))) λo=>da1 (i:=7) (by kernel_rfl) ?_
 refine di (i:=7) rfl<|Bi (e:=9) (sz:=1) [Ac G1.Name] o rfl u rfl rfl rfl (λw=>by kernel_rfl) λl3 w a u o=>?_
 have D3:Rows (α:=Str) H [Ac G1.Name] ([G1.Name]:List Str):=(.cons (c:=[Ac G1.Name]) rfl .nil)
 refine ⟨λ_=>(St.ldsX u i2 (Aa t1 (Aa t3 (Aa t4 (Aa t5 Ah))))),?_⟩
 refine da1 (i:=8) (by kernel_rfl) ?_
 refine di (i:=8) rfl<|Cc (α:=Str) (xs:=U0) (ys:=([G1.Name]:List Str)) o rfl u underlying36 Vm rfl (by decide) rfl rfl rfl t2 M2 (u.rdO t0) D3 W3 λE3 P2 F3 w a G3 hU o=>?_
 replace u:=hU _ (.tail (.tail .head))
 replace u:=u.drop .head
 refine ⟨λ_=>(St.ldsX u i2 (Aa t0 (Aa t2 (Aa t3 (Aa t4 Ah))))),?_⟩
 refine ds 9 (St.ldsX u i2 (Aa t0 (Aa t2 (Aa t3 (Aa t4 Ah))))) o rfl (Af o Cm rfl) λo=>da1 (i:=10) (by kernel_rfl) ?_
 refine di (i:=10) rfl<|Ay o u sizeOf36 rfl rfl rfl rfl (.tail (.tail .head)) (.succ .zero) λw u=>⟨λh=>absurd rfl h,?_⟩
 refine de (by kernel_rfl)<|bn<|tn<|rg<|qm o rfl λo=>qv o (Am o rfl rfl) λo=>qa o rfl λo=>re<|tn<|?_
 exact ⟨(F1,V3,(IntKind.i64.wrap (C2+1))),⟨E3,P2,F3,hm,o.hs,u,G3⟩,Nat.lt_succ_self _⟩
 refine tn<|cfv o rfl M1<|we<|tx<|tx<|bx<|tn<|?_
 replace u:=u.pk [0,0,0,0] rfl
 exact ⟨F0.2.L,F0.2.At,F0.2.E,F0.2.Pos,U0,K2,B2,u0,R0,B1,hm,o.hs,u,Y2,A3,M2⟩
 refine cfv o rfl J1<|wk<|tn<|?_
 replace u:=u.nilS 9 1
 replace u:=u.pk [1,0,1,0] rfl
 exact ⟨M0.2.L,M0.2.At,M0.2.E,M0.2.Pos,[],I1,j0,none,0,[],hm,o.hs,u,G2,I2,.nil⟩
 rintro a w ⟨S0,U1,V1,X1,G0,T0,O0,E0,D0,Q0,hm,o,u,hcA4,hrA5,Q2⟩
 unfold Z59 at hm
 refine th<|th<|rg<|qm o rfl λo=>qv o (Aj o rfl) λo=>qv o (Af o Cw rfl) λo=>qv o (Ag o isAgg29 rfl (u.ld.cellB t0 rfl)) λo=>qv o (An o rfl rfl) λo=>re<|tn<|Au (λa w=>∃ (O1:Int) (P1:Int) (Q1:Int) (I0:(List api_Stmt)) (C1:PH) (P0:Option Addr) (J0:Nat),(Z5a p7 p13 S0 G0) O1 P1 Q1 I0=some r∧ExtM w0 (sepA [bk b2 [SL oa3 p1.L cap4,i6 p1.At,i6 p1.E,i6 p1.Pos] 125]).fp H C1∧Fr 73 [(0,PT b2),(3,PT X0),(4,PT Y0)] a∧St w0 (sepA [bk b2 [SL oa3 p1.L cap4,i6 p1.At,i6 p1.E,i6 p1.Pos] 125]).fp [C1] [bk b2 [SL T0 S0 O0,i6 O1,i6 P1,i6 Q1] 125,sla 9 1 E0 G0.length D0 Q0,bk X0 [Ac p7,SL E0 G0 D0,SL P0 I0 J0,i6 p13] 48,bk Y0 [Ac [],.slice none 0 0,.slice none 0 0,i6 0] 48] w∧I0.length≤J0∧SR C1 P0 I0) ?_ ?_
 rcases bip hm with ⟨R1,hm⟩ | ⟨R1,hm⟩
 refine ctv o rfl R1<|th<|?_
 obtain ⟨E2,X3,hm⟩:=bs hm
 refine rdS 19 u wide λw u=>dr 0 u o rfl (Ab o rfl) λo=>dr 1 u o rfl (Aj o rfl) λo=>dr 2 u o rfl (Af o Co rfl) λo=>dq 3 u.ld o rfl (λw hl=>Ag o isAgg120 rfl (hl.cellB t0 rfl)) λo=>dr 4 u o rfl (Ab o rfl) λo=>dr 5 u o rfl (Aj o rfl) λo=>dr 6 u o rfl (Af o Bj rfl) λo=>dq 7 u.ld o rfl (λw hl=>Ag o isAgg3 rfl (hl.cellB t0 rfl)) λo=>dr 8 u o rfl (Ab o rfl) λo=>da1 (i:=9) (by kernel_rfl) ?_
 refine di (i:=9) rfl<|c1 o rfl call141 (Jb5 (St.le u) hcA4 hrA5 X3) ⟨rfl,rfl,rfl,trivial⟩ (λv w a hR o=>?_)
 obtain ⟨H62,I3,R2,rfl,J3,K3,C0,L3,hk⟩:=hR
 obtain ⟨u,C0⟩:=And.intro (St.passH u hk C0 L3) (St.extcM u C0)
 refine ⟨λ_=>(St.ldsX u C0.sub i1),?_⟩
 refine ds 10 (St.ldsX u C0.sub i1) o rfl (Ab o rfl) λo=>ds 11 (St.ldsX u C0.sub i1) o rfl (Db o rfl rfl) λo=>ds 12 (St.ldsX u C0.sub i1) o rfl (Db o rfl rfl) λo=>ds 13 (St.ldsX u C0.sub i1) o rfl (Db o rfl rfl) λo=>ds 14 (St.ldsX u C0.sub i1) o rfl (Db o rfl rfl) λo=>ds 15 (St.ldsX u C0.sub i1) o rfl (Bn o rfl) λo=>ds 16 (St.ldsX u C0.sub i1) o rfl (Bn o rfl) λo=>ds 17 (St.ldsX u C0.sub i1) o rfl (Bn o rfl) λo=>ds 18 (St.ldsX u C0.sub i1) o rfl (Bn o rfl) λo=>de (by kernel_rfl)<|tn<|th<|rg<|qm o rfl λo=>qv o (Af o Dy rfl) λo=>ls<|Ay o u sizeOf46 rfl rfl rfl rfl (.tail (.tail .head)) (.succ (.succ .zero)) λw u=>re<|tn<|th<|rg<|qm o rfl λo=>qm o rfl λo=>qv o (Aj o rfl) λo=>qv o (Af o Bj rfl) λo=>ls<|Ay o u sizeOf3 rfl rfl rfl rfl .head (.succ .zero) λw u=>re<|tn<|th<|rg<|qm o rfl λo=>qm o rfl λo=>qv o (Aj o rfl) λo=>qv o (Af o Cw rfl) λo=>ls<|Ay o u sizeOf29 rfl rfl rfl rfl .head (.succ (.succ .zero)) λw u=>re<|tn<|rg<|qm o rfl λo=>qm o rfl λo=>qv o (Aj o rfl) λo=>qv o (Af o Fw rfl) λo=>ls<|Ay o u sizeOf3 rfl rfl rfl rfl .head (.succ (.succ (.succ .zero))) λw u=>re<|tn<|?_
 exact ⟨E2.2.1,E2.2.2.1,E2.2.2.2,E2.1,H62,I3,R2,hm,C0,o.hs,u,J3,K3⟩
 refine cfv o rfl R1<|wk<|tn<|?_
 exact ⟨U1,V1,X1,p8,H,W0,K0,hm,(ExtM.refl _ _ _),o.hs,u,T2,U2⟩
 rintro a w ⟨O1,P1,Q1,I0,C1,P0,J0,hm,V0,o,u,hcA22,hrA23⟩
 unfold Z5a at hm
 refine th<|rg<|qv o (Ax o Tryz.isAgg48 Tryz.sizeOf48 rfl rfl (u.ld.cellsB t2)) λo=>ls<|Aw o u sizeOf48 rfl rfl rfl rfl (Al rfl) (.tail (.tail (.tail .head))) λw u=>re<|tn<|wr<|?_
 obtain ⟨H70,S1,M3,O3,u⟩:=St.frzSM u (.tail .head) (Q2.mono V0.sub)
 obtain rfl:=si hm
 exact r1c (vs:=[Ac p7,SL E0 G0 D0,SL P0 I0 J0,i6 p13]) (.inl rfl) o results105 rfl isAgg48 sizeOf48 rfl (u.ld.cellsB t2) ⟨H70,_,T0,O0,rfl,(show Enc.rep (α:=api_Thread) H70 [Ac p7,SL E0 G0 D0,SL P0 I0 J0,i6 p13] (api_Thread.mk p7 G0 I0 p13) from ⟨_,_,rfl,rfl,⟨_,_,rfl,⟨_,_,rfl,O3,M3⟩,⟨_,_,rfl,⟨_,_,rfl,hcA22,(hrA23.mono S1.sub)⟩,rfl⟩⟩⟩),hcA4,(hrA5.mono (cp S1.sub V0.sub)),(ExtM.trans V0 S1),(St.le u),(St.disL (u.pickL (.cons .head .nil))),(u.pickL (.cons .head .nil)).endMut⟩
theorem Jbs (hH:H.le w0) {b2:Nat} {p1:leadlineref05_In} {oa3:Option Addr} {cap4:Nat} (I0:p1.L.length≤cap4) (J0:SR H oa3 p1.L) {p7:Int} (hO:(sepA [bk b2 [SL oa3 p1.L cap4,i6 p1.At,i6 p1.E,i6 p1.Pos] 125]).ok (hp w0)) (hD:∀ b,(sepA [bk b2 [SL oa3 p1.L cap4,i6 p1.At,i6 p1.E,i6 p1.Pos] 125]).fp b→H b=none) {r:(api_Claim×leadlineref05_In)} (hm:Z4w N p1 p7=some r):Tot Tryz.prog 106 #[PT b2,i6 p7] w0 (λv w'=>∃ (H':PH) (cs0:List Value) (oa1m:Option Addr) (cap1m:Nat),v=.agg cs0.toArray∧Enc.rep H' cs0 r.1∧r.2.L.length≤cap1m∧SR H' oa1m r.2.L∧ExtM w0 (sepA [bk b2 [SL oa3 p1.L cap4,i6 p1.At,i6 p1.E,i6 p1.Pos] 125]).fp H H'∧H'.le w'∧(∀ b,(sepA [bk b2 [SL oa1m r.2.L cap1m,i6 r.2.At,i6 r.2.E,i6 r.2.Pos] 125]).fp b→H' b=none)∧Mut w0 (sepA [bk b2 [SL oa3 p1.L cap4,i6 p1.At,i6 p1.E,i6 p1.Pos] 125]) (sepA [bk b2 [SL oa1m r.2.L cap1m,i6 r.2.At,i6 r.2.E,i6 r.2.Pos] 125]) w'):=by
 unfold Z4w at hm
 refine fn0 func106 rfl ntmps106 rfl rfl λa o=>?_
 have u:=Cn hH hO hD
 refine th<|rg<|ls<|Av (cs:=[.slice none 0 0,i6 0].toArray) o rfl u Tryz.zeroValue74 rfl λb8 w a u o=>re<|tn<|th<|?_
 obtain ⟨E0,T0,hm⟩:=bs hm
 refine rdS 18 u wide λw u=>dr 0 u o rfl (Ab o rfl) λo=>dr 1 u o rfl (Aj o rfl) λo=>dr 2 u o rfl (Af o Co rfl) λo=>dq 3 u.ld o rfl (λw hl=>Ag o isAgg120 rfl (hl.cellB t1 rfl)) λo=>dr 4 u o rfl (Ab o rfl) λo=>dr 5 u o rfl (Aj o rfl) λo=>dr 6 u o rfl (Af o Bj rfl) λo=>dq 7 u.ld o rfl (λw hl=>Ag o isAgg3 rfl (hl.cellB t1 rfl)) λo=>da1 (i:=8) (by kernel_rfl) ?_
 refine di (i:=8) rfl<|c1 o rfl call142 (Ja7 (St.le u) I0 J0 T0) ⟨rfl,rfl,trivial⟩ (λv w a hR o=>?_)
 obtain ⟨H14,F0,D0,rfl,M0,O0,C0,P0,hk⟩:=hR
 obtain ⟨u,C0⟩:=And.intro (St.passH u hk C0 P0) (St.extcM u C0)
 refine ⟨λ_=>(St.ldsX u C0.sub i1),?_⟩
 refine ds 9 (St.ldsX u C0.sub i1) o rfl (Ab o rfl) λo=>ds 10 (St.ldsX u C0.sub i1) o rfl (Db o rfl rfl) λo=>ds 11 (St.ldsX u C0.sub i1) o rfl (Db o rfl rfl) λo=>ds 12 (St.ldsX u C0.sub i1) o rfl (Db o rfl rfl) λo=>ds 13 (St.ldsX u C0.sub i1) o rfl (Db o rfl rfl) λo=>ds 14 (St.ldsX u C0.sub i1) o rfl (Bn o rfl) λo=>ds 15 (St.ldsX u C0.sub i1) o rfl (Bn o rfl) λo=>ds 16 (St.ldsX u C0.sub i1) o rfl (Bn o rfl) λo=>ds 17 (St.ldsX u C0.sub i1) o rfl (Bn o rfl) λo=>de (by kernel_rfl)<|tn<|th<|th<|rg<|qm o rfl λo=>qv o (Br o rfl rfl) λo=>re<|?_
 rcases bip hm with ⟨G0,hm⟩ | ⟨G0,hm⟩
 refine tn<|ctv o rfl G0<|th<|rg<|qm o rfl λo=>qm o rfl λo=>qv o (Aj o rfl) λo=>qv o (Af o Cw rfl) λo=>ls<|Ay o u sizeOf29 rfl rfl rfl rfl (.tail .head) (.succ (.succ .zero)) λw u=>re<|tn<|th<|rg<|qm o rfl λo=>qm o rfl λo=>qv o (Aj o rfl) λo=>qv o (Af o Fw rfl) λo=>ls<|Ay o u sizeOf3 rfl rfl rfl rfl (.tail .head) (.succ (.succ (.succ .zero))) λw u=>re<|tn<|th<|rg<|qv o (Bq [] [.slice none 0 0,i6 0] o trivial (λw=>by kernel_rfl)) λo=>ls<|Aw o u sizeOf74 rfl rfl rfl rfl (Al rfl) .head λw u=>re<|tn<|wr<|tr<|?_
 obtain rfl:=si hm
 exact r1c (vs:=[.slice none 0 0,i6 0]) (.inl rfl) o results106 rfl isAgg74 sizeOf74 rfl (u.ld.cellsB t0) ⟨H14,_,oa3,cap4,rfl,(show Enc.rep (α:=api_Claim) H14 [.slice none 0 0,i6 0] (api_Claim.mk [] 0) from ⟨_,_,rfl,⟨none,0,rfl,Nat.le_refl _,SR.nil _ _⟩,rfl⟩),I0,(J0.mono C0.sub),C0,(St.le u),(St.disL (u.pickL (.cons (.tail .head) .nil))),(u.pickL (.cons (.tail .head) .nil)).endMut⟩
 refine tn<|cfv o rfl G0<|wk<|tn<|th<|rg<|qm o rfl λo=>qm o rfl λo=>qv o (Aj o rfl) λo=>qv o (Af o Bj rfl) λo=>ls<|Ay o u sizeOf3 rfl rfl rfl rfl (.tail .head) (.succ .zero) λw u=>re<|tn<|th<|?_
 obtain ⟨V0,U0,hm⟩:=bs hm
 refine rg<|qm o rfl λo=>?_
 replace u:=u.pk [1,0] rfl
 replace u:=St.sep [bk b2 [SL oa3 p1.L cap4,i6 E0.2.1,i6 p1.E,i6 p1.Pos] 125] u
 refine ls<|c1 o rfl call140 (Wv (St.le u) (p1:=(leadlineref05_In.mk p1.L E0.2.1 p1.E p1.Pos)) (b2:=b2) (oa3:=oa3) (cap4:=cap4) I0 (J0.mono C0.sub) (St.sepOk u) (St.sepDis u) U0) ⟨rfl,rfl,trivial⟩ (λv w a hR o=>?_)
 obtain ⟨Q0,K0,rfl,R0,S0,hk⟩:=hR
 replace u:=(u.mut hk .head).unsep
 refine re<|tn<|th<|rg<|qm o rfl λo=>qm o rfl λo=>qv o (Bq [SL F0 E0.1 D0,i6 p7] [SL F0 E0.1 D0,i6 p7] o ⟨rfl,rfl,trivial⟩ (λw=>by kernel_rfl)) λo=>ls<|Aw o u sizeOf74 rfl rfl rfl rfl (Al rfl) (.tail .head) λw u=>re<|tn<|wr<|?_
 obtain rfl:=si hm
 exact r1c (vs:=[SL F0 E0.1 D0,i6 p7]) (.inl rfl) o results106 rfl isAgg74 sizeOf74 rfl (u.ld.cellsB t1) ⟨H14,_,Q0,K0,rfl,(show Enc.rep (α:=api_Claim) H14 [SL F0 E0.1 D0,i6 p7] (api_Claim.mk E0.1 p7) from ⟨_,_,rfl,⟨_,_,rfl,M0,O0⟩,rfl⟩),R0,S0,C0,(St.le u),(St.disL (u.pickL (.cons .head .nil))),(u.pickL (.cons .head .nil)).endMut⟩
set_option maxHeartbeats 4000000 in
theorem Jc5 (hH:H.le w0) {p1:Str} {r:(api_Prog×Int×Int)} (hm:Z5c N p1=some r):Tot Tryz.prog 64 #[Ac p1] w0 (λv w'=>∃ (H':PH) (cs0:List Value),v=.tuple #[.agg cs0.toArray,i6 r.2.1,i6 r.2.2]∧Enc.rep H' cs0 r.1∧Ext w0 H H'∧H'.le w'∧Keep Nil w0 w'):=by
 unfold Z5c at hm
 refine fn0 func64 rfl ntmps64 rfl rfl λa o=>?_
 have u:St w0 Nil [H] [] w0:=start1 hH
 refine th<|rg<|ls<|Av (cs:=[.slice none 0 0,.slice none 0 0,.slice none 0 0,.slice none 0 0,.slice none 0 0,.slice none 0 0].toArray) o rfl u Tryz.zeroValue27 rfl λb2 w a u o=>?_
 iterate 2 refine qa o rfl λo=>?_
 refine re<|tn<|th<|?_
 obtain ⟨P0,h4,hm⟩:=bs hm
 refine rg<|qm o rfl λo=>ls<|c1 o rfl call101 (JbC (Ai _) h4) ⟨rfl,trivial⟩ (λv w a hR o=>?_)
 obtain ⟨I1,n0,vs7,rfl,P8,hk⟩:=hR
 replace u:=u.fresh hk
 replace P8:=P8 H
 refine qm o rfl λo=>?_
 iterate 3 refine qv o (Db o rfl rfl) λo=>?_
 iterate 3 refine qa o rfl λo=>?_
 refine re<|tn<|th<|th<|rg<|qm o rfl λo=>qv o (Br o rfl rfl) λo=>re<|?_
 rcases bip hm with ⟨L7,hm⟩ | ⟨L7,hm⟩
 refine tn<|ctv o rfl L7<|th<|rg<|qv o (Bq [] [.slice none 0 0,.slice none 0 0,.slice none 0 0,.slice none 0 0,.slice none 0 0,.slice none 0 0] o trivial (λw=>by kernel_rfl)) λo=>?_
 iterate 2 refine qm o rfl λo=>?_
 refine ls<|Aw o u sizeOf27 rfl rfl rfl rfl (Al rfl) (.tail .head) λw u=>?_
 iterate 2 refine qa o rfl λo=>?_
 refine re<|tn<|wr<|tr<|?_
 obtain rfl:=si hm
 exact r3c (vs:=[.slice none 0 0,.slice none 0 0,.slice none 0 0,.slice none 0 0,.slice none 0 0,.slice none 0 0]) (.inl rfl) o results64 rfl rfl rfl isAgg27 sizeOf27 rfl (u.ld.cellsB t1) ⟨H,_,rfl,(show Enc.rep (α:=api_Prog) H [.slice none 0 0,.slice none 0 0,.slice none 0 0,.slice none 0 0,.slice none 0 0,.slice none 0 0] (api_Prog.mk [] [] [] [] [] []) from ⟨_,_,rfl,⟨none,0,rfl,Nat.le_refl _,SR.nil _ _⟩,⟨_,_,rfl,⟨none,0,rfl,Nat.le_refl _,SR.nil _ _⟩,⟨_,_,rfl,⟨none,0,rfl,Nat.le_refl _,SR.nil _ _⟩,⟨_,_,rfl,⟨none,0,rfl,Nat.le_refl _,SR.nil _ _⟩,⟨_,_,rfl,⟨none,0,rfl,Nat.le_refl _,SR.nil _ _⟩,⟨none,0,rfl,Nat.le_refl _,SR.nil _ _⟩⟩⟩⟩⟩⟩),(Ext.refl _ _),(St.le u),u.keep⟩
 refine tn<|cfv o rfl L7<|wk<|tn<|th<|?_
 obtain ⟨H14,Q8,l4,hc13,u⟩:=St.frzS u .head P8
 refine rg<|qm o rfl λo=>qv o (Bq [SL I1 P0.1 n0] [SL I1 P0.1 n0,i6 0,i6 0,i6 0] o ⟨rfl,trivial⟩ (λw=>by kernel_rfl)) λo=>ls<|Bt (cs:=[SL I1 P0.1 n0,i6 0,i6 0,i6 0].toArray) o rfl u rfl rfl λC0 w a u o=>qv o (Bq [] [.slice none 0 0,.slice none 0 0,.slice none 0 0,.slice none 0 0,.slice none 0 0,.slice none 0 0] o trivial (λw=>by kernel_rfl)) λo=>ls<|Av (cs:=[.slice none 0 0,.slice none 0 0,.slice none 0 0,.slice none 0 0,.slice none 0 0,.slice none 0 0].toArray) o rfl u zeroValue27 rfl λU0 w a u o=>qa o rfl λo=>ls<|Aw o u sizeOf27 rfl rfl rfl rfl (Al rfl) .head λw u=>re<|tn<|th<|Au (λa w=>∃ (A6:(List api_Token)) (u7:Int) (v7:Int) (z7:Int) (D0:(List (List api_Cell))) (j0:PH) (B6:Option Addr) (L4:Nat) (I0:Option Addr) (E0:Nat) (X0:List Value),(Z5d N P0) A6 u7 v7 z7 D0=some r∧Ext w0 H14 j0∧Fr 128 [(2,PT b2),(5,SL I1 P0.1 n0),(8,PT C0),(9,PT U0)] a∧St w0 Nil [j0] [bk b2 [.slice none 0 0,.slice none 0 0,.slice none 0 0,.slice none 0 0,.slice none 0 0,.slice none 0 0] 27,bk C0 [SL B6 A6 L4,i6 u7,i6 v7,i6 z7] 125,sla 23 1 I0 D0.length E0 X0,bk U0 [SL I0 D0 E0,.slice none 0 0,.slice none 0 0,.slice none 0 0,.slice none 0 0,.slice none 0 0] 27] w∧A6.length≤L4∧SR j0 B6 A6∧Rows j0 X0 D0) ?_ ?_
 replace u:=u.nilS 23 1
 replace u:=u.pk [3,2,0,0] rfl
 refine wb<|lp (α:=Nat×(List api_Token)×Int×Int×Int×(List (List api_Cell))) (λ(gh:Nat×(List api_Token)×Int×Int×Int×(List (List api_Cell))) a w=>match gh with | (z6,u4,A7,B7,C7,W2)=>∃ (A5:PH) (B5:Option Addr) (J3:Nat) (M4:Option Addr) (K3:Nat) (O4:List Value),(Z5l N (Z5d N P0)) z6 u4 A7 B7 C7 W2=some r∧Ext w0 H14 A5∧Fr 128 [(2,PT b2),(5,SL I1 P0.1 n0),(8,PT C0),(9,PT U0)] a∧St w0 Nil [A5] [bk b2 [.slice none 0 0,.slice none 0 0,.slice none 0 0,.slice none 0 0,.slice none 0 0,.slice none 0 0] 27,bk C0 [SL B5 u4 J3,i6 A7,i6 B7,i6 C7] 125,sla 23 1 M4 W2.length K3 O4,bk U0 [SL M4 W2 K3,.slice none 0 0,.slice none 0 0,.slice none 0 0,.slice none 0 0,.slice none 0 0] 27] w∧u4.length≤J3∧SR A5 B5 u4∧Rows A5 O4 W2) (λgh=>gh.1) (N,P0.1,0,0,0,[]) ⟨H14,I1,n0,none,0,[],hm,(Ext.refl _ _),o.hs,u,hc13,l4,.nil⟩ ?_
 rintro ⟨z6,u4,A7,B7,C7,W2⟩ a w ⟨A5,B5,J3,M4,K3,O4,hm,A8,o,u,hcB5,hrB6,B8⟩
 obtain _ | z6:=z6
 simp [Z5l] at hm
 rw [Z5l] at hm
 refine th<|th<|?_
 obtain ⟨L3,h18,hm⟩:=bs hm
 refine rg<|qm o rfl λo=>?_
 replace u:=u.pk [1,0,0,0] rfl
 replace u:=St.sep [bk C0 [SL B5 u4 J3,i6 A7,i6 B7,i6 C7] 125] u
 refine ls<|c1 o rfl call102 (Il (St.le u) (p1:=(leadlineref05_In.mk u4 A7 B7 C7)) (b2:=C0) (oa3:=B5) (cap4:=J3) hcB5 hrB6 (St.sepOk u) (St.sepDis u) h18) ⟨rfl,rfl,trivial⟩ (λv w a hR o=>?_)
 obtain ⟨M7,C6,rfl,R8,S8,hk⟩:=hR
 replace u:=(u.mut hk .head).unsep
 refine re<|?_
 rcases bit hm with ⟨O7,hm⟩ | ⟨O7,hm⟩
 refine tn<|ctv o rfl O7<|wk<|tn<|wb<|?_
 obtain ⟨M3,h25,hm⟩:=bs hm
 obtain ⟨l42,h43,hm⟩:=bs hm
 refine rdL (Aa t1 (Aa t3 Ah)) 7 u wide λw u=>ds 0 (St.ldsX u i2 (Aa t1 (Aa t3 Ah))) o rfl (Af o Ch rfl) λo=>dq 1 (St.ldsX u i2 (Aa t1 (Aa t3 Ah))) o rfl (λw hl=>Ag o isAgg22 rfl (hl.cellB t1 rfl)) λo=>ds 2 (St.ldsX u i2 (Aa t1 (Aa t3 Ah))) o rfl (Ab o rfl) λo=>da1 (i:=3) (by kernel_rfl) ?_
 replace u:=u.pk [0,0,0,0] rfl
 replace u:=St.sep [bk C0 [SL M7 L3.2.L C6,i6 L3.2.At,i6 L3.2.E,i6 L3.2.Pos] 125] u
 refine di (i:=3) rfl<|c1 o rfl call103 (Sf (St.le u) (p1:=L3.2) (b2:=C0) (oa3:=M7) (cap4:=C6) R8 S8 (St.sepOk u) (St.sepDis u) h25) ⟨rfl,rfl,trivial⟩ (λv w a hR o=>?_)
 obtain ⟨P7,D6,vs28,oa31,v8,rfl,Q7,hc33,hr34,hk⟩:=hR
 replace u:=(u.mut hk .head).unsep
 replace Q7:=Q7 A5
 refine ⟨λ_=>(St.ldsX u i2 (Aa t2 (Aa t4 Ah))),?_⟩
 refine da1 (i:=4) (by kernel_rfl) ?_
 obtain ⟨H38,B4,hr36,hc37,u⟩:=St.frzS u (.tail .head) Q7
 refine di (i:=4) rfl<|Bi (e:=23) (sz:=1) [SL P7 M3.1 D6] o rfl u rfl rfl rfl (λw=>by kernel_rfl) λb40 w a u o=>?_
 have hv39:Rows (α:=(List api_Cell)) H38 [SL P7 M3.1 D6] ([M3.1]:List (List api_Cell)):=(.cons (c:=[SL P7 M3.1 D6]) ⟨_,_,rfl,hc37,hr36⟩ .nil)
 refine ⟨λ_=>(St.ldsX u B4.sub (Aa t2 (Aa t4 Ah))),?_⟩
 refine da1 (i:=5) (by kernel_rfl) ?_
 refine di (i:=5) rfl<|Cc (α:=(List api_Cell)) (xs:=W2) (ys:=([M3.1]:List (List api_Cell))) o rfl u underlying22 Ut rfl (by decide) rfl rfl rfl t3 (B8.mono B4.sub) (u.rdO t0) hv39 h43 λoa44 y8 vs46 w a hv47 hU o=>?_
 replace u:=hU _ (.tail (.tail (.tail .head)))
 replace u:=u.drop .head
 refine ⟨λ_=>(St.ldsX u B4.sub (Aa t1 (Aa t3 Ah))),?_⟩
 refine ds 6 (St.ldsX u B4.sub (Aa t1 (Aa t3 Ah))) o rfl (Af o Ch rfl) λo=>da1 (i:=7) (by kernel_rfl) ?_
 refine di (i:=7) rfl<|Ay o u sizeOf22 rfl rfl rfl rfl (.tail (.tail (.tail .head))) .zero λw u=>⟨λh=>absurd rfl h,?_⟩
 refine de (by kernel_rfl)<|bn<|tn<|?_
 replace u:=u.pk [1,0,0,0] rfl
 exact ⟨(z6,M3.2.L,M3.2.At,M3.2.E,M3.2.Pos,l42),⟨H38,oa31,v8,oa44,y8,vs46,hm,(Ext.trans A8 B4),o.hs,u,hc33,(hr34.mono B4.sub),hv47⟩,Nat.lt_succ_self _⟩
 refine tn<|cfv o rfl O7<|we<|tx<|tx<|bx<|tn<|?_
 replace u:=u.pk [1,0,0,0] rfl
 exact ⟨L3.2.L,L3.2.At,L3.2.E,L3.2.Pos,W2,A5,M7,C6,M4,K3,O4,hm,A8,o.hs,u,R8,S8,B8⟩
 rintro a w ⟨A6,u7,v7,z7,D0,j0,B6,L4,I0,E0,X0,hm,P4,o,u,hcA5,hrA6,z8⟩
 unfold Z5d at hm
 refine th<|Au (λa w=>∃ (C4:(List api_Token)) (E6:Int) (F6:Int) (G6:Int) (F0:(List api_Cell)) (Q4:Option Addr) (O3:Nat) (J0:Option Addr) (G0:Nat) (u0:List Value),(Z5g N P0 D0) C4 E6 F6 G6 F0=some r∧Fr 128 [(2,PT b2),(5,SL I1 P0.1 n0),(8,PT C0),(9,PT U0)] a∧St w0 Nil [j0] [bk b2 [.slice none 0 0,.slice none 0 0,.slice none 0 0,.slice none 0 0,.slice none 0 0,.slice none 0 0] 27,bk C0 [SL Q4 C4 O3,i6 E6,i6 F6,i6 G6] 125,sla 23 1 I0 D0.length E0 X0,sla 53 3 J0 F0.length G0 u0,bk U0 [SL I0 D0 E0,SL J0 F0 G0,.slice none 0 0,.slice none 0 0,.slice none 0 0,.slice none 0 0] 27] w∧C4.length≤O3∧SR j0 Q4 C4∧Rows j0 u0 F0) ?_ ?_
 replace u:=u.nilS 53 3
 replace u:=u.pk [1,1,1,0,0] rfl
 refine wb<|lp (α:=Nat×(List api_Token)×Int×Int×Int×(List api_Cell)) (λgh a w=>match gh with | (D7,X2,C5,D5,E5,Y2)=>∃ (P3:Option Addr) (C2:Nat) (R4:Option Addr) (Q3:Nat) (S4:List Value),(Z5m N (Z5g N P0 D0)) D7 X2 C5 D5 E5 Y2=some r∧Fr 128 [(2,PT b2),(5,SL I1 P0.1 n0),(8,PT C0),(9,PT U0)] a∧St w0 Nil [j0] [bk b2 [.slice none 0 0,.slice none 0 0,.slice none 0 0,.slice none 0 0,.slice none 0 0,.slice none 0 0] 27,bk C0 [SL P3 X2 C2,i6 C5,i6 D5,i6 E5] 125,sla 23 1 I0 D0.length E0 X0,sla 53 3 R4 Y2.length Q3 S4,bk U0 [SL I0 D0 E0,SL R4 Y2 Q3,.slice none 0 0,.slice none 0 0,.slice none 0 0,.slice none 0 0] 27] w∧X2.length≤C2∧SR j0 P3 X2∧Rows j0 S4 Y2) (λgh=>gh.1) (N,A6,u7,v7,z7,[]) ⟨B6,L4,none,0,[],hm,o.hs,u,hcA5,hrA6,.nil⟩ ?_
 rintro ⟨D7,X2,C5,D5,E5,Y2⟩ a w ⟨P3,C2,R4,Q3,S4,hm,o,u,hcB19,hrB20,C8⟩
 obtain _ | D7:=D7
 simp [Z5m] at hm
 rw [Z5m] at hm
 refine th<|th<|?_
 obtain ⟨R3,h49,hm⟩:=bs hm
 refine rg<|qm o rfl λo=>?_
 replace u:=u.pk [1,0,0,0,0] rfl
 replace u:=St.sep [bk C0 [SL P3 X2 C2,i6 C5,i6 D5,i6 E5] 125] u
 refine ls<|c1 o rfl call102 (Il (St.le u) (p1:=(leadlineref05_In.mk X2 C5 D5 E5)) (b2:=C0) (oa3:=P3) (cap4:=C2) hcB19 hrB20 (St.sepOk u) (St.sepDis u) h49) ⟨rfl,rfl,trivial⟩ (λv w a hR o=>?_)
 obtain ⟨R7,I6,rfl,T8,U8,hk⟩:=hR
 replace u:=(u.mut hk .head).unsep
 refine re<|?_
 rcases bit hm with ⟨S7,hm⟩ | ⟨S7,hm⟩
 refine tn<|ctv o rfl S7<|wk<|tn<|wb<|?_
 obtain ⟨E7,h56,hm⟩:=bs hm
 obtain ⟨l66,h67,hm⟩:=bs hm
 refine rdL (Aa t1 (Aa t2 (Aa t4 Ah))) 6 u wide λw u=>ds 0 (St.ldsX u i2 (Aa t1 (Aa t2 (Aa t4 Ah)))) o rfl (Af o Ec rfl) λo=>dq 1 (St.ldsX u i2 (Aa t1 (Aa t2 (Aa t4 Ah)))) o rfl (λw hl=>Ag o isAgg23 rfl (hl.cellB t2 rfl)) λo=>ds 2 (St.ldsX u i2 (Aa t1 (Aa t2 (Aa t4 Ah)))) o rfl (Ab o rfl) λo=>da1 (i:=3) (by kernel_rfl) ?_
 replace u:=u.pk [0,0,0,0,0] rfl
 replace u:=St.sep [bk C0 [SL R7 R3.2.L I6,i6 R3.2.At,i6 R3.2.E,i6 R3.2.Pos] 125] u
 refine di (i:=3) rfl<|c1 o rfl call103 (Sf (St.le u) (p1:=R3.2) (b2:=C0) (oa3:=R7) (cap4:=I6) T8 U8 (St.sepOk u) (St.sepDis u) h56) ⟨rfl,rfl,trivial⟩ (λv w a hR o=>?_)
 obtain ⟨oa57,cap58,vs59,oa62,A9,rfl,T7,hc64,hr65,hk⟩:=hR
 replace u:=(u.mut hk .head).unsep
 replace T7:=T7 j0
 refine ⟨λ_=>(St.ldsX u i2 (Aa t2 (Aa t3 (Aa t5 Ah)))),?_⟩
 refine da1 (i:=4) (by kernel_rfl) ?_
 refine di (i:=4) rfl<|Cc (α:=api_Cell) (xs:=Y2) (ys:=E7.1) o rfl u underlying23 Gr rfl (by decide) rfl rfl rfl t4 C8 (u.rdO t1) T7 h67 λoa68 B9 vs70 w a hv71 hU o=>?_
 replace u:=hU _ (.tail (.tail (.tail (.tail .head))))
 refine ⟨λ_=>(St.ldsX u i2 (Aa t2 (Aa t3 (Aa t5 Ah)))),?_⟩
 refine ds 5 (St.ldsX u i2 (Aa t2 (Aa t3 (Aa t5 Ah)))) o rfl (Af o Ec rfl) λo=>da1 (i:=6) (by kernel_rfl) ?_
 refine di (i:=6) rfl<|Ay o u sizeOf23 rfl rfl rfl rfl (.tail (.tail (.tail (.tail (.tail .head))))) (.succ .zero) λw u=>⟨λh=>absurd rfl h,?_⟩
 refine de (by kernel_rfl)<|bn<|tn<|?_
 replace u:=u.pk [2,0,1,1,1] rfl
 exact ⟨(D7,E7.2.L,E7.2.At,E7.2.E,E7.2.Pos,l66),⟨oa62,A9,oa68,B9,vs70,hm,o.hs,u,hc64,hr65,hv71⟩,Nat.lt_succ_self _⟩
 refine tn<|cfv o rfl S7<|we<|tx<|tx<|bx<|tn<|?_
 replace u:=u.pk [1,0,0,0,0] rfl
 exact ⟨R3.2.L,R3.2.At,R3.2.E,R3.2.Pos,Y2,R7,I6,R4,Q3,S4,hm,o.hs,u,T8,U8,C8⟩
 rintro a w ⟨C4,E6,F6,G6,F0,Q4,O3,J0,G0,u0,hm,o,u,hcA19,hrA20,C9⟩
 unfold Z5g at hm
 refine th<|Au (λa w=>∃ (D4:(List api_Token)) (J6:Int) (K6:Int) (L6:Int) (K0:(List api_Cell)) (T4:Option Addr) (S3:Nat) (O0:Option Addr) (M0:Nat) (E1:List Value),(Z5h N P0 D0 F0) D4 J6 K6 L6 K0=some r∧Fr 128 [(2,PT b2),(5,SL I1 P0.1 n0),(8,PT C0),(9,PT U0)] a∧St w0 Nil [j0] [bk b2 [.slice none 0 0,.slice none 0 0,.slice none 0 0,.slice none 0 0,.slice none 0 0,.slice none 0 0] 27,bk C0 [SL T4 D4 S3,i6 J6,i6 K6,i6 L6] 125,sla 23 1 I0 D0.length E0 X0,sla 53 3 J0 F0.length G0 u0,sla 53 3 O0 K0.length M0 E1,bk U0 [SL I0 D0 E0,SL J0 F0 G0,SL O0 K0 M0,.slice none 0 0,.slice none 0 0,.slice none 0 0] 27] w∧D4.length≤S3∧SR j0 T4 D4∧Rows j0 E1 K0) ?_ ?_
 replace u:=u.nilS 53 3
 replace u:=u.pk [1,1,1,1,0,0] rfl
 refine wb<|lp (α:=Nat×(List api_Token)×Int×Int×Int×(List api_Cell)) (λgh a w=>match gh with | (F7,A3,F5,G5,I5,B3)=>∃ (T3:Option Addr) (E2:Nat) (U4:Option Addr) (U3:Nat) (V4:List Value),(Z5n N (Z5h N P0 D0 F0)) F7 A3 F5 G5 I5 B3=some r∧Fr 128 [(2,PT b2),(5,SL I1 P0.1 n0),(8,PT C0),(9,PT U0)] a∧St w0 Nil [j0] [bk b2 [.slice none 0 0,.slice none 0 0,.slice none 0 0,.slice none 0 0,.slice none 0 0,.slice none 0 0] 27,bk C0 [SL T3 A3 E2,i6 F5,i6 G5,i6 I5] 125,sla 23 1 I0 D0.length E0 X0,sla 53 3 J0 F0.length G0 u0,sla 53 3 U4 B3.length U3 V4,bk U0 [SL I0 D0 E0,SL J0 F0 G0,SL U4 B3 U3,.slice none 0 0,.slice none 0 0,.slice none 0 0] 27] w∧A3.length≤E2∧SR j0 T3 A3∧Rows j0 V4 B3) (λgh=>gh.1) (N,C4,E6,F6,G6,[]) ⟨Q4,O3,none,0,[],hm,o.hs,u,hcA19,hrA20,.nil⟩ ?_
 rintro ⟨F7,A3,F5,G5,I5,B3⟩ a w ⟨T3,E2,U4,U3,V4,hm,o,u,hcB33,hrB34,D8⟩
 obtain _ | F7:=F7
 simp [Z5n] at hm
 rw [Z5n] at hm
 refine th<|th<|?_
 obtain ⟨V3,h73,hm⟩:=bs hm
 refine rg<|qm o rfl λo=>?_
 replace u:=u.pk [1,0,0,0,0,0] rfl
 replace u:=St.sep [bk C0 [SL T3 A3 E2,i6 F5,i6 G5,i6 I5] 125] u
 refine ls<|c1 o rfl call102 (Il (St.le u) (p1:=(leadlineref05_In.mk A3 F5 G5 I5)) (b2:=C0) (oa3:=T3) (cap4:=E2) hcB33 hrB34 (St.sepOk u) (St.sepDis u) h73) ⟨rfl,rfl,trivial⟩ (λv w a hR o=>?_)
 obtain ⟨U7,M6,rfl,V8,W8,hk⟩:=hR
 replace u:=(u.mut hk .head).unsep
 refine re<|?_
 rcases bit hm with ⟨V7,hm⟩ | ⟨V7,hm⟩
 refine tn<|ctv o rfl V7<|wk<|tn<|wb<|?_
 obtain ⟨G7,h80,hm⟩:=bs hm
 obtain ⟨l90,h91,hm⟩:=bs hm
 refine rdL (Aa t1 (Aa t2 (Aa t3 (Aa t5 Ah)))) 6 u wide λw u=>ds 0 (St.ldsX u i2 (Aa t1 (Aa t2 (Aa t3 (Aa t5 Ah))))) o rfl (Af o Ek rfl) λo=>dq 1 (St.ldsX u i2 (Aa t1 (Aa t2 (Aa t3 (Aa t5 Ah))))) o rfl (λw hl=>Ag o isAgg23 rfl (hl.cellB t3 rfl)) λo=>ds 2 (St.ldsX u i2 (Aa t1 (Aa t2 (Aa t3 (Aa t5 Ah))))) o rfl (Ab o rfl) λo=>da1 (i:=3) (by kernel_rfl) ?_
 replace u:=u.pk [0,0,0,0,0,0] rfl
 replace u:=St.sep [bk C0 [SL U7 V3.2.L M6,i6 V3.2.At,i6 V3.2.E,i6 V3.2.Pos] 125] u
 refine di (i:=3) rfl<|c1 o rfl call103 (Sf (St.le u) (p1:=V3.2) (b2:=C0) (oa3:=U7) (cap4:=M6) V8 W8 (St.sepOk u) (St.sepDis u) h80) ⟨rfl,rfl,trivial⟩ (λv w a hR o=>?_)
 obtain ⟨oa81,cap82,vs83,oa86,D9,rfl,W7,hc88,hr89,hk⟩:=hR
 replace u:=(u.mut hk .head).unsep
 replace W7:=W7 j0
 refine ⟨λ_=>(St.ldsX u i2 (Aa t2 (Aa t3 (Aa t4 (Aa t6 Ah))))),?_⟩
 refine da1 (i:=4) (by kernel_rfl) ?_
 refine di (i:=4) rfl<|Cc (α:=api_Cell) (xs:=B3) (ys:=G7.1) o rfl u underlying23 Gr rfl (by decide) rfl rfl rfl t5 D8 (u.rdO t1) W7 h91 λoa92 E9 vs94 w a hv95 hU o=>?_
 replace u:=hU _ (.tail (.tail (.tail (.tail (.tail .head)))))
 refine ⟨λ_=>(St.ldsX u i2 (Aa t2 (Aa t3 (Aa t4 (Aa t6 Ah))))),?_⟩
 refine ds 5 (St.ldsX u i2 (Aa t2 (Aa t3 (Aa t4 (Aa t6 Ah))))) o rfl (Af o Ek rfl) λo=>da1 (i:=6) (by kernel_rfl) ?_
 refine di (i:=6) rfl<|Ay o u sizeOf23 rfl rfl rfl rfl (.tail (.tail (.tail (.tail (.tail (.tail .head)))))) (.succ (.succ .zero)) λw u=>⟨λh=>absurd rfl h,?_⟩
 refine de (by kernel_rfl)<|bn<|tn<|?_
 replace u:=u.pk [2,0,1,1,1,1] rfl
 exact ⟨(F7,G7.2.L,G7.2.At,G7.2.E,G7.2.Pos,l90),⟨oa86,D9,oa92,E9,vs94,hm,o.hs,u,hc88,hr89,hv95⟩,Nat.lt_succ_self _⟩
 refine tn<|cfv o rfl V7<|we<|tx<|tx<|bx<|tn<|?_
 replace u:=u.pk [1,0,0,0,0,0] rfl
 exact ⟨V3.2.L,V3.2.At,V3.2.E,V3.2.Pos,B3,U7,M6,U4,U3,V4,hm,o.hs,u,V8,W8,D8⟩
 rintro a w ⟨D4,J6,K6,L6,K0,T4,S3,O0,M0,E1,hm,o,u,hcA33,hrA34,F9⟩
 unfold Z5h at hm
 refine th<|Au (λa w=>∃ (C3:(List api_Token)) (J5:Int) (K5:Int) (L5:Int) (Q0:(List api_Thread)) (D3:PH) (W3:Option Addr) (F2:Nat) (Y0:Option Addr) (R0:Nat) (T1:List Value),(Z5i N P0 D0 F0 K0) C3 J5 K5 L5 Q0=some r∧Ext w0 j0 D3∧Fr 128 [(2,PT b2),(5,SL I1 P0.1 n0),(8,PT C0),(9,PT U0)] a∧St w0 Nil [D3] [bk b2 [.slice none 0 0,.slice none 0 0,.slice none 0 0,.slice none 0 0,.slice none 0 0,.slice none 0 0] 27,bk C0 [SL W3 C3 F2,i6 J5,i6 K5,i6 L5] 125,sla 23 1 I0 D0.length E0 X0,sla 53 3 J0 F0.length G0 u0,sla 53 3 O0 K0.length M0 E1,sla 48 4 Y0 Q0.length R0 T1,bk U0 [SL I0 D0 E0,SL J0 F0 G0,SL O0 K0 M0,SL Y0 Q0 R0,.slice none 0 0,.slice none 0 0] 27] w∧C3.length≤F2∧SR D3 W3 C3∧Rows D3 T1 Q0) ?_ ?_
 replace u:=u.nilS 48 4
 replace u:=u.pk [1,1,1,1,1,0,0] rfl
 refine wb<|lp (α:=Nat×(List api_Token)×Int×Int×Int×(List api_Thread)) (λgh a w=>match gh with | (I7,E3,M5,O5,P5,F3)=>∃ (E4:PH) (X3:Option Addr) (G2:Nat) (W4:Option Addr) (Y3:Nat) (X4:List Value),(Z5o N (Z5i N P0 D0 F0 K0)) I7 E3 M5 O5 P5 F3=some r∧Ext w0 j0 E4∧Fr 128 [(2,PT b2),(5,SL I1 P0.1 n0),(8,PT C0),(9,PT U0)] a∧St w0 Nil [E4] [bk b2 [.slice none 0 0,.slice none 0 0,.slice none 0 0,.slice none 0 0,.slice none 0 0,.slice none 0 0] 27,bk C0 [SL X3 E3 G2,i6 M5,i6 O5,i6 P5] 125,sla 23 1 I0 D0.length E0 X0,sla 53 3 J0 F0.length G0 u0,sla 53 3 O0 K0.length M0 E1,sla 48 4 W4 F3.length Y3 X4,bk U0 [SL I0 D0 E0,SL J0 F0 G0,SL O0 K0 M0,SL W4 F3 Y3,.slice none 0 0,.slice none 0 0] 27] w∧E3.length≤G2∧SR E4 X3 E3∧Rows E4 X4 F3) (λgh=>gh.1) (N,D4,J6,K6,L6,[]) ⟨j0,T4,S3,none,0,[],hm,(Ext.refl _ _),o.hs,u,hcA33,hrA34,.nil⟩ ?_
 rintro ⟨I7,E3,M5,O5,P5,F3⟩ a w ⟨E4,X3,G2,W4,Y3,X4,hm,J7,o,u,hcB48,hrB49,E8⟩
 obtain _ | I7:=I7
 simp [Z5o] at hm
 rw [Z5o] at hm
 refine th<|th<|?_
 obtain ⟨l3,h97,hm⟩:=bs hm
 refine rg<|qm o rfl λo=>?_
 replace u:=u.pk [1,0,0,0,0,0,0] rfl
 replace u:=St.sep [bk C0 [SL X3 E3 G2,i6 M5,i6 O5,i6 P5] 125] u
 refine ls<|c1 o rfl call102 (Il (St.le u) (p1:=(leadlineref05_In.mk E3 M5 O5 P5)) (b2:=C0) (oa3:=X3) (cap4:=G2) hcB48 hrB49 (St.sepOk u) (St.sepDis u) h97) ⟨rfl,rfl,trivial⟩ (λv w a hR o=>?_)
 obtain ⟨X7,O6,rfl,F8,G8,hk⟩:=hR
 replace u:=(u.mut hk .head).unsep
 refine re<|?_
 rcases bit hm with ⟨P6,hm⟩ | ⟨P6,hm⟩
 refine tn<|ctv o rfl P6<|wk<|tn<|wb<|th<|?_
 obtain ⟨U1,h104,hm⟩:=bs hm
 refine rg<|qm o rfl λo=>?_
 replace u:=u.pk [0,0,0,0,0,0,0] rfl
 replace u:=St.sep [bk C0 [SL X7 l3.2.L O6,i6 l3.2.At,i6 l3.2.E,i6 l3.2.Pos] 125] u
 refine ls<|c1 o rfl call104 (Jau (St.le u) (p1:=l3.2) (b2:=C0) (oa3:=X7) (cap4:=O6) F8 G8 (St.sepOk u) (St.sepDis u) h104) ⟨rfl,trivial⟩ (λv w a hR o=>?_)
 obtain ⟨I8,K7,rfl,G9,I9,hk⟩:=hR
 replace u:=(u.mut hk .head).unsep
 refine ls<|Av (cs:=[Ac [],i6 0,i6 0].toArray) o rfl u zeroValue53 rfl λb109 w a u o=>ls<|Aw o u sizeOf53 rfl rfl rfl rfl (Al rfl) .head λw u=>re<|tn<|?_
 obtain ⟨S0,h111,hm⟩:=bs hm
 obtain ⟨l133,h134,hm⟩:=bs hm
 refine rdL (Aa t0 (Aa t2 (Aa t3 (Aa t4 (Aa t5 (Aa t7 Ah)))))) 12 u wide λw u=>ds 0 (St.ldsX u i2 (Aa t0 (Aa t2 (Aa t3 (Aa t4 (Aa t5 (Aa t7 Ah))))))) o rfl (Af o Cf rfl) λo=>dq 1 (St.ldsX u i2 (Aa t0 (Aa t2 (Aa t3 (Aa t4 (Aa t5 (Aa t7 Ah))))))) o rfl (λw hl=>Ag o isAgg24 rfl (hl.cellB t5 rfl)) λo=>ds 2 (St.ldsX u i2 (Aa t0 (Aa t2 (Aa t3 (Aa t4 (Aa t5 (Aa t7 Ah))))))) o rfl (Ab o rfl) λo=>ds 3 (St.ldsX u i2 (Aa t0 (Aa t2 (Aa t3 (Aa t4 (Aa t5 (Aa t7 Ah))))))) o rfl (Af o Er rfl) λo=>dq 4 (St.ldsX u i2 (Aa t0 (Aa t2 (Aa t3 (Aa t4 (Aa t5 (Aa t7 Ah))))))) o rfl (λw hl=>Ag o isAgg9 rfl (hl.cellB t0 rfl)) λo=>ds 5 (St.ldsX u i2 (Aa t0 (Aa t2 (Aa t3 (Aa t4 (Aa t5 (Aa t7 Ah))))))) o rfl (Af o Jq rfl) λo=>dq 6 (St.ldsX u i2 (Aa t0 (Aa t2 (Aa t3 (Aa t4 (Aa t5 (Aa t7 Ah))))))) o rfl (λw hl=>Ag o isAgg3 rfl (hl.cellB t0 rfl)) λo=>dq 7 (St.ldsX u i2 (Aa t0 (Aa t2 (Aa t3 (Aa t4 (Aa t5 (Aa t7 Ah))))))) o rfl (λw hl=>Bq [Ac U1.1.Name,i6 U1.1.At] [Ac U1.1.Name,.slice none 0 0,.slice none 0 0,i6 U1.1.At] o ⟨rfl,rfl,trivial⟩ (λw=>by kernel_rfl)) λo=>da1 (i:=8) (by kernel_rfl) ?_
 replace u:=u.pk [1,0,0,0,0,0,0,0] rfl
 replace u:=St.sep [bk C0 [SL I8 U1.2.L K7,i6 U1.2.At,i6 U1.2.E,i6 U1.2.Pos] 125] u
 refine di (i:=8) rfl<|c1 o rfl call105 (Jaw (St.le u) (p1:=U1.2) (b2:=C0) (oa3:=I8) (cap4:=K7) G9 I9 (Nat.le_refl _) (SR.nil _ none) (St.sepOk u) (St.sepDis u) h111) ⟨rfl,rfl,trivial⟩ (λv w a hR o=>?_)
 obtain ⟨H115,cs116,J9,X8,rfl,g117,K9,L9,F1,M9,hd114,hk⟩:=hR
 obtain ⟨u,F1⟩:=And.intro (St.mutH u hk F1 M9 hd114) (St.extc0 u F1)
 replace u:=u.unsep
 obtain ⟨Q6,Q5,R6,R5,rfl,O9,P9,Q9,R9⟩:=Ar g117
 refine ⟨λ_=>(St.ldsX u F1.sub (Aa t1 (Aa t2 (Aa t3 (Aa t4 (Aa t5 (Aa t7 Ah))))))),?_⟩
 refine da1 (i:=9) (by kernel_rfl) ?_
 refine di (i:=9) rfl<|Bi (e:=48) (sz:=4) [Ac S0.1.Name,SL Q6 S0.1.Regs Q5,SL R6 S0.1.Body R5,i6 S0.1.At] o rfl u rfl rfl rfl (λw=>by kernel_rfl) λb131 w a u o=>?_
 have S9:Rows (α:=api_Thread) H115 [Ac S0.1.Name,SL Q6 S0.1.Regs Q5,SL R6 S0.1.Body R5,i6 S0.1.At] ([S0.1]:List api_Thread):=(.cons (c:=[Ac S0.1.Name,SL Q6 S0.1.Regs Q5,SL R6 S0.1.Body R5,i6 S0.1.At]) ⟨_,_,rfl,rfl,⟨_,_,rfl,⟨_,_,rfl,O9,P9⟩,⟨_,_,rfl,⟨_,_,rfl,Q9,R9⟩,rfl⟩⟩⟩ .nil)
 refine ⟨λ_=>(St.ldsX u F1.sub (Aa t2 (Aa t3 (Aa t4 (Aa t5 (Aa t6 (Aa t8 Ah))))))),?_⟩
 refine da1 (i:=10) (by kernel_rfl) ?_
 refine di (i:=10) rfl<|Cc (α:=api_Thread) (xs:=F3) (ys:=([S0.1]:List api_Thread)) o rfl u underlying24 Iv rfl (by decide) rfl rfl rfl t7 (E8.mono F1.sub) (u.rdO t0) S9 h134 λT9 Y8 U9 w a V9 hU o=>?_
 replace u:=hU _ (.tail (.tail (.tail (.tail (.tail (.tail (.tail .head)))))))
 replace u:=u.drop .head
 refine ⟨λ_=>(St.ldsX u F1.sub (Aa t1 (Aa t2 (Aa t3 (Aa t4 (Aa t5 (Aa t7 Ah))))))),?_⟩
 refine ds 11 (St.ldsX u F1.sub (Aa t1 (Aa t2 (Aa t3 (Aa t4 (Aa t5 (Aa t7 Ah))))))) o rfl (Af o Cf rfl) λo=>da1 (i:=12) (by kernel_rfl) ?_
 refine di (i:=12) rfl<|Ay o u sizeOf24 rfl rfl rfl rfl (.tail (.tail (.tail (.tail (.tail (.tail (.tail .head))))))) (.succ (.succ (.succ .zero))) λw u=>⟨λh=>absurd rfl h,?_⟩
 refine de (by kernel_rfl)<|bn<|tn<|?_
 replace u:=u.pk [2,0,1,1,1,1,1] rfl
 exact ⟨(I7,S0.2.L,S0.2.At,S0.2.E,S0.2.Pos,l133),⟨H115,J9,X8,T9,Y8,U9,hm,(Ext.trans J7 F1),o.hs,u,K9,L9,V9⟩,Nat.lt_succ_self _⟩
 refine tn<|cfv o rfl P6<|we<|tx<|tx<|bx<|tn<|?_
 replace u:=u.pk [1,0,0,0,0,0,0] rfl
 exact ⟨l3.2.L,l3.2.At,l3.2.E,l3.2.Pos,F3,E4,X7,O6,W4,Y3,X4,hm,J7,o.hs,u,F8,G8,E8⟩
 rintro a w ⟨C3,J5,K5,L5,Q0,D3,W3,F2,Y0,R0,T1,hm,J1,o,u,hcA48,hrA49,W9⟩
 unfold Z5i at hm
 refine th<|th<|?_
 obtain ⟨V1,h140,hm⟩:=bs hm
 refine rg<|qm o rfl λo=>?_
 replace u:=u.pk [1,0,0,0,0,0,0] rfl
 replace u:=St.sep [bk C0 [SL W3 C3 F2,i6 J5,i6 K5,i6 L5] 125] u
 refine ls<|c1 o rfl call102 (Il (St.le u) (p1:=(leadlineref05_In.mk C3 J5 K5 L5)) (b2:=C0) (oa3:=W3) (cap4:=F2) hcA48 hrA49 (St.sepOk u) (St.sepDis u) h140) ⟨rfl,rfl,trivial⟩ (λv w a hR o=>?_)
 obtain ⟨S6,S5,rfl,J8,K8,hk⟩:=hR
 replace u:=(u.mut hk .head).unsep
 refine re<|tn<|Au (λa w=>∃ (F4:(List api_Token)) (T6:Int) (U6:Int) (V6:Int) (V0:(List api_Thread)) (I2:PH) (Y4:Option Addr) (n3:Nat) (B1:Option Addr) (W0:Nat) (M2:List Value),(Z5j N P0 D0 F0 K0 Q0) F4 T6 U6 V6 V0=some r∧Ext w0 D3 I2∧Fr 128 [(2,PT b2),(5,SL I1 P0.1 n0),(8,PT C0),(9,PT U0)] a∧St w0 Nil [I2] [bk b2 [.slice none 0 0,.slice none 0 0,.slice none 0 0,.slice none 0 0,.slice none 0 0,.slice none 0 0] 27,bk C0 [SL Y4 F4 n3,i6 T6,i6 U6,i6 V6] 125,sla 23 1 I0 D0.length E0 X0,sla 53 3 J0 F0.length G0 u0,sla 53 3 O0 K0.length M0 E1,sla 48 4 Y0 Q0.length R0 T1,sla 48 4 B1 V0.length W0 M2,bk U0 [SL I0 D0 E0,SL J0 F0 G0,SL O0 K0 M0,SL Y0 Q0 R0,SL B1 V0 W0,.slice none 0 0] 27] w∧F4.length≤n3∧SR I2 Y4 F4∧Rows I2 M2 V0) ?_ ?_
 rcases bit hm with ⟨W6,hm⟩ | ⟨W6,hm⟩
 refine ctv o rfl W6<|?_
 obtain ⟨d8,Y7,hm⟩:=bs hm
 obtain ⟨c148,g149,X9⟩:=SR.get l4 Y7
 obtain rfl:=Bc g149
 obtain ⟨T0,h152,hm⟩:=bs hm
 obtain ⟨l174,h175,hm⟩:=bs hm
 refine rdL (Aa t1 (Aa t2 (Aa t3 (Aa t4 (Aa t5 (Aa t6 Ah)))))) 17 u wide λw u=>ds 0 (St.ldsX u i2 ta1) o rfl (Af o Eo rfl) λo=>dq 1 (St.ldsX u i2 ta1) o rfl (λw hl=>Ag o isAgg24 rfl (hl.cellB t5 rfl)) λo=>ds 2 (St.ldsX u i2 ta1) o rfl (Ab o rfl) λo=>ds 3 (St.ldsX u i2 ta1) o rfl (Ab o rfl) λo=>ds 4 (St.ldsX u i2 ta1) o rfl (Ab o rfl) λo=>ds 5 (St.ldsX u i2 ta1) o rfl (Aj o rfl) λo=>ds 6 (St.ldsX u i2 ta1) o rfl (Af o Bj rfl) λo=>da1 (i:=7) (by kernel_rfl) ?_
 refine di (i:=7) rfl<|q1 o rfl (Ag o isAgg3 rfl (u.ld.cellB t0 rfl)) λa o=>⟨λ_=>(St.ldsX u i2 ta1),?_⟩
 refine ds 8 (St.ldsX u i2 ta1) o rfl (Gv o rfl rfl) λo=>ds 9 (St.ldsX u i2 ta1) o rfl (Ao o runUnderlying120 sizeOf130 rfl rfl Y7 (SR.oaI l4 (by decide) Y7)) λo=>ds 10 (St.ldsX u i2 ta1) o rfl (Af o Dt rfl) λo=>dq 11 (St.ldsX u i2 ta1) o rfl (λw hl=>Ag o isAgg3 rfl (PH.le.cell (λb o hx=>(Lds.le hl) b o ((cp J1.sub P4.sub) b o hx)) (X9 3 _ rfl))) λo=>dq 12 (St.ldsX u i2 ta1) o rfl (λw hl=>Bq [i6 d8.At] [Ac [],.slice none 0 0,.slice none 0 0,i6 d8.At] o ⟨rfl,trivial⟩ (λw=>by kernel_rfl)) λo=>da1 (i:=13) (by kernel_rfl) ?_
 replace u:=u.pk [0,0,0,0,0,0,0] rfl
 replace u:=St.sep [bk C0 [SL S6 V1.2.L S5,i6 V1.2.At,i6 V1.2.E,i6 V1.2.Pos] 125] u
 refine di (i:=13) rfl<|c1 o rfl call105 (Jaw (St.le u) (p1:=V1.2) (b2:=C0) (oa3:=S6) (cap4:=S5) J8 K8 (Nat.le_refl _) (SR.nil _ none) (St.sepOk u) (St.sepDis u) h152) ⟨rfl,rfl,trivial⟩ (λv w a hR o=>?_)
 obtain ⟨H156,cs157,Y9,e8,rfl,g158,d9,e9,R1,j9,hd155,hk⟩:=hR
 obtain ⟨u,R1⟩:=And.intro (St.mutH u hk R1 j9 hd155) (St.extc0 u R1)
 replace u:=u.unsep
 obtain ⟨X6,T5,Y6,U5,rfl,k9,l9,n9,o9⟩:=Ar g158
 refine ⟨λ_=>(St.ldsX u R1.sub ta1),?_⟩
 refine da1 (i:=14) (by kernel_rfl) ?_
 refine di (i:=14) rfl<|Bi (e:=48) (sz:=4) [Ac T0.1.Name,SL X6 T0.1.Regs T5,SL Y6 T0.1.Body U5,i6 T0.1.At] o rfl u rfl rfl rfl (λw=>by kernel_rfl) λb172 w a u o=>?_
 have p9:Rows (α:=api_Thread) H156 [Ac T0.1.Name,SL X6 T0.1.Regs T5,SL Y6 T0.1.Body U5,i6 T0.1.At] ([T0.1]:List api_Thread):=(.cons (c:=[Ac T0.1.Name,SL X6 T0.1.Regs T5,SL Y6 T0.1.Body U5,i6 T0.1.At]) ⟨_,_,rfl,rfl,⟨_,_,rfl,⟨_,_,rfl,k9,l9⟩,⟨_,_,rfl,⟨_,_,rfl,n9,o9⟩,rfl⟩⟩⟩ .nil)
 refine ⟨λ_=>(St.ldsX u R1.sub ta2),?_⟩
 refine da1 (i:=15) (by kernel_rfl) ?_
 replace u:=u.nilS 48 4
 refine di (i:=15) rfl<|Cc (α:=api_Thread) (xs:=[]) (ys:=([T0.1]:List api_Thread)) o rfl u underlying24 Iv rfl (by decide) rfl rfl rfl t0 .nil (u.rdO t1) p9 h175 λu9 j8 y9 w a hv179 hU o=>?_
 replace u:=hU _ .head
 replace u:=u.drop (.tail .head)
 refine ⟨λ_=>(St.ldsX u R1.sub ta2),?_⟩
 refine ds 16 (St.ldsX u R1.sub ta2) o rfl (Af o Eo rfl) λo=>da1 (i:=17) (by kernel_rfl) ?_
 refine di (i:=17) rfl<|Ay o u sizeOf24 rfl rfl rfl rfl (.tail (.tail (.tail (.tail (.tail (.tail (.tail .head))))))) (.succ (.succ (.succ (.succ .zero)))) λw u=>⟨λh=>absurd rfl h,?_⟩
 refine de (by kernel_rfl)<|tn<|?_
 replace u:=u.pk [2,1,1,1,1,1,0,0] rfl
 exact ⟨T0.2.L,T0.2.At,T0.2.E,T0.2.Pos,l174,H156,Y9,e8,u9,j8,y9,hm,R1,o.hs,u,d9,e9,hv179⟩
 refine cfv o rfl W6<|wk<|tn<|?_
 replace u:=u.nilS 48 4
 replace u:=u.pk [2,1,1,1,1,1,0,0] rfl
 exact ⟨V1.2.L,V1.2.At,V1.2.E,V1.2.Pos,[],D3,S6,S5,none,0,[],hm,(Ext.refl _ _),o.hs,u,J8,K8,.nil⟩
 rintro a w ⟨F4,T6,U6,V6,V0,I2,Y4,n3,B1,W0,M2,hm,M1,o,u,hcA63,hrA64,hvA72⟩
 unfold Z5j at hm
 refine th<|Au (λa w=>∃ (J2:(List api_Token)) (G4:Int) (I4:Int) (J4:Int) (O1:(List api_Claim)) (X1:PH) (O2:Option Addr) (S1:Nat) (Y1:Option Addr) (P1:Nat) (d4:List Value),(Z5e N P0 D0 F0 K0 Q0 V0) J2 G4 I4 J4 O1=some r∧Ext w0 I2 X1∧Fr 128 [(2,PT b2),(5,SL I1 P0.1 n0),(8,PT C0),(9,PT U0)] a∧St w0 Nil [X1] [bk b2 [.slice none 0 0,.slice none 0 0,.slice none 0 0,.slice none 0 0,.slice none 0 0,.slice none 0 0] 27,bk C0 [SL O2 J2 S1,i6 G4,i6 I4,i6 J4] 125,sla 23 1 I0 D0.length E0 X0,sla 53 3 J0 F0.length G0 u0,sla 53 3 O0 K0.length M0 E1,sla 48 4 Y0 Q0.length R0 T1,sla 48 4 B1 V0.length W0 M2,sla 74 2 Y1 O1.length P1 d4,bk U0 [SL I0 D0 E0,SL J0 F0 G0,SL O0 K0 M0,SL Y0 Q0 R0,SL B1 V0 W0,SL Y1 O1 P1] 27] w∧J2.length≤S1∧SR X1 O2 J2∧Rows X1 d4 O1) ?_ ?_
 replace u:=u.nilS 74 2
 replace u:=u.pk [1,1,1,1,1,1,1,0,0] rfl
 refine wb<|lp (α:=Nat×(List api_Token)×Int×Int×Int×(List api_Claim)) (λgh a w=>match gh with | (V5,G3,W5,X5,Y5,I3)=>∃ (K4:PH) (u3:Option Addr) (K2:Nat) (j4:Option Addr) (A4:Nat) (k4:List Value),(Z5k N (Z5e N P0 D0 F0 K0 Q0 V0) P0) V5 G3 W5 X5 Y5 I3=some r∧Ext w0 I2 K4∧Fr 128 [(2,PT b2),(5,SL I1 P0.1 n0),(8,PT C0),(9,PT U0)] a∧St w0 Nil [K4] [bk b2 [.slice none 0 0,.slice none 0 0,.slice none 0 0,.slice none 0 0,.slice none 0 0,.slice none 0 0] 27,bk C0 [SL u3 G3 K2,i6 W5,i6 X5,i6 Y5] 125,sla 23 1 I0 D0.length E0 X0,sla 53 3 J0 F0.length G0 u0,sla 53 3 O0 K0.length M0 E1,sla 48 4 Y0 Q0.length R0 T1,sla 48 4 B1 V0.length W0 M2,sla 74 2 j4 I3.length A4 k4,bk U0 [SL I0 D0 E0,SL J0 F0 G0,SL O0 K0 M0,SL Y0 Q0 R0,SL B1 V0 W0,SL j4 I3 A4] 27] w∧G3.length≤K2∧SR K4 u3 G3∧Rows K4 k4 I3) (λgh=>gh.1) (N,F4,T6,U6,V6,[]) ⟨I2,Y4,n3,none,0,[],hm,(Ext.refl _ _),o.hs,u,hcA63,hrA64,.nil⟩ ?_
 rintro ⟨V5,G3,W5,X5,Y5,I3⟩ a w ⟨K4,u3,K2,j4,A4,k4,hm,d5,o,u,hcB63,hrB64,L8⟩
 obtain _ | V5:=V5
 simp [Z5k] at hm
 rw [Z5k] at hm
 refine th<|th<|?_
 obtain ⟨B2,h182,hm⟩:=bs hm
 refine rg<|qm o rfl λo=>?_
 replace u:=u.pk [1,0,0,0,0,0,0,0,0] rfl
 replace u:=St.sep [bk C0 [SL u3 G3 K2,i6 W5,i6 X5,i6 Y5] 125] u
 refine ls<|c1 o rfl call102 (Il (St.le u) (p1:=(leadlineref05_In.mk G3 W5 X5 Y5)) (b2:=C0) (oa3:=u3) (cap4:=K2) hcB63 hrB64 (St.sepOk u) (St.sepDis u) h182) ⟨rfl,rfl,trivial⟩ (λv w a hR o=>?_)
 obtain ⟨d6,j5,rfl,M8,O8,hk⟩:=hR
 replace u:=(u.mut hk .head).unsep
 refine re<|?_
 rcases bit hm with ⟨j6,hm⟩ | ⟨j6,hm⟩
 refine tn<|ctv o rfl j6<|wk<|tn<|wb<|?_
 obtain ⟨x188,d7,hm⟩:=bs hm
 obtain ⟨c190,g191,hl192⟩:=SR.get l4 d7
 obtain rfl:=Bc g191
 obtain ⟨C1,h194,hm⟩:=bs hm
 obtain ⟨l212,h213,hm⟩:=bs hm
 refine rdL (Aa t1 (Aa t2 (Aa t3 (Aa t4 (Aa t5 (Aa t6 (Aa t8 Ah))))))) 16 u wide λw u=>ds 0 (St.ldsX u i2 (Aa t1 (Aa t2 (Aa t3 (Aa t4 (Aa t5 (Aa t6 (Aa t8 Ah)))))))) o rfl (Af o De rfl) λo=>dq 1 (St.ldsX u i2 (Aa t1 (Aa t2 (Aa t3 (Aa t4 (Aa t5 (Aa t6 (Aa t8 Ah)))))))) o rfl (λw hl=>Ag o isAgg25 rfl (hl.cellB t6 rfl)) λo=>ds 2 (St.ldsX u i2 (Aa t1 (Aa t2 (Aa t3 (Aa t4 (Aa t5 (Aa t6 (Aa t8 Ah)))))))) o rfl (Ab o rfl) λo=>ds 3 (St.ldsX u i2 (Aa t1 (Aa t2 (Aa t3 (Aa t4 (Aa t5 (Aa t6 (Aa t8 Ah)))))))) o rfl (Ab o rfl) λo=>ds 4 (St.ldsX u i2 (Aa t1 (Aa t2 (Aa t3 (Aa t4 (Aa t5 (Aa t6 (Aa t8 Ah)))))))) o rfl (Ab o rfl) λo=>ds 5 (St.ldsX u i2 (Aa t1 (Aa t2 (Aa t3 (Aa t4 (Aa t5 (Aa t6 (Aa t8 Ah)))))))) o rfl (Aj o rfl) λo=>ds 6 (St.ldsX u i2 (Aa t1 (Aa t2 (Aa t3 (Aa t4 (Aa t5 (Aa t6 (Aa t8 Ah)))))))) o rfl (Af o Bj rfl) λo=>da1 (i:=7) (by kernel_rfl) ?_
 refine di (i:=7) rfl<|q1 o rfl (Ag o isAgg3 rfl (u.ld.cellB t0 rfl)) λa o=>⟨λ_=>(St.ldsX u i2 (Aa t1 (Aa t2 (Aa t3 (Aa t4 (Aa t5 (Aa t6 (Aa t8 Ah)))))))),?_⟩
 refine ds 8 (St.ldsX u i2 (Aa t1 (Aa t2 (Aa t3 (Aa t4 (Aa t5 (Aa t6 (Aa t8 Ah)))))))) o rfl (Gv o rfl rfl) λo=>ds 9 (St.ldsX u i2 (Aa t1 (Aa t2 (Aa t3 (Aa t4 (Aa t5 (Aa t6 (Aa t8 Ah)))))))) o rfl (Ao o runUnderlying120 sizeOf130 rfl rfl d7 (SR.oaI l4 (by decide) d7)) λo=>ds 10 (St.ldsX u i2 (Aa t1 (Aa t2 (Aa t3 (Aa t4 (Aa t5 (Aa t6 (Aa t8 Ah)))))))) o rfl (Af o Dt rfl) λo=>dq 11 (St.ldsX u i2 (Aa t1 (Aa t2 (Aa t3 (Aa t4 (Aa t5 (Aa t6 (Aa t8 Ah)))))))) o rfl (λw hl=>Ag o isAgg3 rfl (PH.le.cell (λb o hx=>(Lds.le hl) b o ((cp (cp (cp d5.sub M1.sub) J1.sub) P4.sub) b o hx)) (hl192 3 _ rfl))) λo=>da1 (i:=12) (by kernel_rfl) ?_
 replace u:=u.pk [0,0,0,0,0,0,0,0,0] rfl
 replace u:=St.sep [bk C0 [SL d6 B2.2.L j5,i6 B2.2.At,i6 B2.2.E,i6 B2.2.Pos] 125] u
 refine di (i:=12) rfl<|c1 o rfl call106 (Jbs (St.le u) (p1:=B2.2) (b2:=C0) (oa3:=d6) (cap4:=j5) M8 O8 (St.sepOk u) (St.sepDis u) h194) ⟨rfl,rfl,trivial⟩ (λv w a hR o=>?_)
 obtain ⟨H198,cs199,oa205,k8,rfl,g200,hc207,hr208,G1,hl196,hd197,hk⟩:=hR
 obtain ⟨u,G1⟩:=And.intro (St.mutH u hk G1 hl196 hd197) (St.extc0 u G1)
 replace u:=u.unsep
 obtain ⟨k6,k5,rfl,hc203,hr204⟩:=Ck g200
 refine ⟨λ_=>(St.ldsX u G1.sub (Aa t1 (Aa t2 (Aa t3 (Aa t4 (Aa t5 (Aa t6 (Aa t8 Ah)))))))),?_⟩
 refine da1 (i:=13) (by kernel_rfl) ?_
 refine di (i:=13) rfl<|Bi (e:=74) (sz:=2) [SL k6 C1.1.E k5,i6 C1.1.At] o rfl u rfl rfl rfl (λw=>by kernel_rfl) λb210 w a u o=>?_
 have hv209:Rows (α:=api_Claim) H198 [SL k6 C1.1.E k5,i6 C1.1.At] ([C1.1]:List api_Claim):=(.cons (c:=[SL k6 C1.1.E k5,i6 C1.1.At]) ⟨_,_,rfl,⟨_,_,rfl,hc203,hr204⟩,rfl⟩ .nil)
 refine ⟨λ_=>(St.ldsX u G1.sub (Aa t2 (Aa t3 (Aa t4 (Aa t5 (Aa t6 (Aa t7 (Aa t9 Ah)))))))),?_⟩
 refine da1 (i:=14) (by kernel_rfl) ?_
 refine di (i:=14) rfl<|Cc (α:=api_Claim) (xs:=I3) (ys:=([C1.1]:List api_Claim)) o rfl u underlying25 Xg rfl (by decide) rfl rfl rfl t8 (L8.mono G1.sub) (u.rdO t0) hv209 h213 λoa214 l8 vs216 w a hv217 hU o=>?_
 replace u:=hU _ (.tail (.tail (.tail (.tail (.tail (.tail (.tail (.tail .head))))))))
 replace u:=u.drop .head
 refine ⟨λ_=>(St.ldsX u G1.sub (Aa t1 (Aa t2 (Aa t3 (Aa t4 (Aa t5 (Aa t6 (Aa t8 Ah)))))))),?_⟩
 refine ds 15 (St.ldsX u G1.sub (Aa t1 (Aa t2 (Aa t3 (Aa t4 (Aa t5 (Aa t6 (Aa t8 Ah)))))))) o rfl (Af o De rfl) λo=>da1 (i:=16) (by kernel_rfl) ?_
 refine di (i:=16) rfl<|Ay o u sizeOf25 rfl rfl rfl rfl (.tail (.tail (.tail (.tail (.tail (.tail (.tail (.tail .head)))))))) (.succ (.succ (.succ (.succ (.succ .zero))))) λw u=>⟨λh=>absurd rfl h,?_⟩
 refine de (by kernel_rfl)<|bn<|tn<|?_
 replace u:=u.pk [1,0,0,0,0,0,0,0,0] rfl
 exact ⟨(V5,C1.2.L,C1.2.At,C1.2.E,C1.2.Pos,l212),⟨H198,oa205,k8,oa214,l8,vs216,hm,(Ext.trans d5 G1),o.hs,u,hc207,hr208,hv217⟩,Nat.lt_succ_self _⟩
 refine tn<|cfv o rfl j6<|we<|tx<|tx<|bx<|tn<|?_
 replace u:=u.pk [1,0,0,0,0,0,0,0,0] rfl
 exact ⟨B2.2.L,B2.2.At,B2.2.E,B2.2.Pos,I3,K4,d6,j5,j4,A4,k4,hm,d5,o.hs,u,M8,O8,L8⟩
 rintro a w ⟨J2,G4,I4,J4,O1,X1,O2,S1,Y1,P1,d4,hm,Q1,o,u,hcA78,hrA79,hvA87⟩
 unfold Z5e at hm
 refine th<|th<|rg<|qm o rfl λo=>qv o (Aj o rfl) λo=>qv o (Af o Bj rfl) λo=>qv o (Ag o isAgg3 rfl (u.ld.cellB t1 rfl)) λo=>qm o rfl λo=>qv o (Ak (α:=api_Token) (xs:=P0.1) o runUnderlying120 rfl) λo=>qv o (Ap o rfl rfl) λo=>re<|tn<|Au (λa w=>∃ (n5:(List api_Token)) (j7:Int) (k7:Int) (n7:Int) (n6:Option Addr) (u5:Nat),(Z5f D0 F0 K0 Q0 V0 O1) n5 j7 k7 n7=some r∧Fr 128 [(2,PT b2),(8,PT C0),(9,PT U0)] a∧St w0 Nil [X1] [bk b2 [.slice none 0 0,.slice none 0 0,.slice none 0 0,.slice none 0 0,.slice none 0 0,.slice none 0 0] 27,bk C0 [SL n6 n5 u5,i6 j7,i6 k7,i6 n7] 125,sla 23 1 I0 D0.length E0 X0,sla 53 3 J0 F0.length G0 u0,sla 53 3 O0 K0.length M0 E1,sla 48 4 Y0 Q0.length R0 T1,sla 48 4 B1 V0.length W0 M2,sla 74 2 Y1 O1.length P1 d4,bk U0 [SL I0 D0 E0,SL J0 F0 G0,SL O0 K0 M0,SL Y0 Q0 R0,SL B1 V0 W0,SL Y1 O1 P1] 27] w∧n5.length≤u5∧SR X1 n6 n5) ?_ ?_
 rcases bip hm with ⟨u6,hm⟩ | ⟨u6,hm⟩
 refine ctv o rfl u6<|?_
 obtain ⟨v6,h220,hm⟩:=bs hm
 refine rg<|qm o rfl λo=>?_
 replace u:=u.pk [1,0,0,0,0,0,0,0,0] rfl
 replace u:=St.sep [bk C0 [SL O2 J2 S1,i6 G4,i6 I4,i6 J4] 125] u
 refine ls<|c1 o rfl call107 (Sk (St.le u) (p1:=(leadlineref05_In.mk J2 G4 I4 J4)) (b2:=C0) (oa3:=O2) (cap4:=S1) hcA78 hrA79 (St.sepOk u) (St.sepDis u) h220) ⟨rfl,trivial⟩ (λv w a hR o=>?_)
 obtain ⟨oa221,n8,rfl,hc223,hr224,hk⟩:=hR
 replace u:=(u.mut hk .head).unsep
 refine re<|tn<|?_
 replace u:=u.pk [1,0,0,0,0,0,0,0,0] rfl
 exact ⟨v6.L,v6.At,v6.E,v6.Pos,oa221,n8,hm,o.hs,u,hc223,hr224⟩
 refine cfv o rfl u6<|wk<|tn<|?_
 exact ⟨J2,G4,I4,J4,O2,S1,hm,o.hs,u,hcA78,hrA79⟩
 rintro a w ⟨n5,j7,k7,n7,n6,u5,hm,o,u,hcA92,hrA93⟩
 unfold Z5f at hm
 refine th<|th<|rg<|qm o rfl λo=>qv o (Aj o rfl) λo=>qv o (Af o Cw rfl) λo=>qv o (Ag o isAgg29 rfl (u.ld.cellB t1 rfl)) λo=>qv o (Br o rfl rfl) λo=>re<|?_
 rcases bip hm with ⟨y6,hm⟩ | ⟨y6,hm⟩
 refine tn<|ctv o rfl y6<|th<|rdL (Aa t1 (Aa t2 (Aa t3 (Aa t4 (Aa t5 (Aa t6 (Aa t7 (Aa t8 Ah)))))))) 12 u wide λw u=>dq 0 (St.ldsX u i2 ta1) o rfl (λw hl=>Bq [] [.slice none 0 0,.slice none 0 0,.slice none 0 0,.slice none 0 0,.slice none 0 0,.slice none 0 0] o trivial (λw=>by kernel_rfl)) λo=>ds 1 (St.ldsX u i2 ta1) o rfl (Ab o rfl) λo=>ds 2 (St.ldsX u i2 ta1) o rfl (Aj o rfl) λo=>ds 3 (St.ldsX u i2 ta1) o rfl (Af o Cw rfl) λo=>dq 4 (St.ldsX u i2 ta1) o rfl (λw hl=>Ag o isAgg29 rfl (hl.cellB t0 rfl)) λo=>ds 5 (St.ldsX u i2 ta1) o rfl (Ab o rfl) λo=>ds 6 (St.ldsX u i2 ta1) o rfl (Aj o rfl) λo=>ds 7 (St.ldsX u i2 ta1) o rfl (Af o Fw rfl) λo=>dq 8 (St.ldsX u i2 ta1) o rfl (λw hl=>Ag o isAgg3 rfl (hl.cellB t0 rfl)) λo=>da1 (i:=9) (by kernel_rfl) ?_
 refine di (i:=9) rfl<|Aw o u sizeOf27 rfl rfl rfl rfl (Al rfl) .head λw u=>⟨λ_=>(St.ldsX u i2 ta1),?_⟩
 refine ds 10 (St.ldsX u i2 ta1) o rfl (Bn o rfl) λo=>ds 11 (St.ldsX u i2 ta1) o rfl (Bn o rfl) λo=>de (by kernel_rfl)<|tn<|wr<|tr<|?_
 obtain rfl:=si hm
 exact r3c (vs:=[.slice none 0 0,.slice none 0 0,.slice none 0 0,.slice none 0 0,.slice none 0 0,.slice none 0 0]) (.inl rfl) o results64 rfl rfl rfl isAgg27 sizeOf27 rfl (u.ld.cellsB t0) ⟨X1,_,rfl,(show Enc.rep (α:=api_Prog) X1 [.slice none 0 0,.slice none 0 0,.slice none 0 0,.slice none 0 0,.slice none 0 0,.slice none 0 0] (api_Prog.mk [] [] [] [] [] []) from ⟨_,_,rfl,⟨none,0,rfl,Nat.le_refl _,SR.nil _ _⟩,⟨_,_,rfl,⟨none,0,rfl,Nat.le_refl _,SR.nil _ _⟩,⟨_,_,rfl,⟨none,0,rfl,Nat.le_refl _,SR.nil _ _⟩,⟨_,_,rfl,⟨none,0,rfl,Nat.le_refl _,SR.nil _ _⟩,⟨_,_,rfl,⟨none,0,rfl,Nat.le_refl _,SR.nil _ _⟩,⟨none,0,rfl,Nat.le_refl _,SR.nil _ _⟩⟩⟩⟩⟩⟩),(Ext.trans Q8 (Ext.trans P4 (Ext.trans J1 (Ext.trans M1 Q1)))),(St.le u),u.keep⟩
 refine tn<|cfv o rfl y6<|wk<|tn<|th<|rg<|qv o (Ax o Tryz.isAgg27 Tryz.sizeOf27 rfl rfl (u.ld.cellsB t8)) λo=>ls<|Aw o u sizeOf27 rfl rfl rfl rfl (Al rfl) .head λw u=>?_
 iterate 2 refine qa o rfl λo=>?_
 refine re<|tn<|wr<|?_
 obtain ⟨H229,P2,hr227,hc228,u⟩:=St.frzS u (.tail (.tail .head)) (z8.mono (cp (cp Q1.sub M1.sub) J1.sub))
 obtain ⟨H233,Q2,hr231,hc232,u⟩:=St.frzS u (.tail (.tail .head)) (C9.mono (cp (cp (cp P2.sub Q1.sub) M1.sub) J1.sub))
 obtain ⟨H237,R2,hr235,hc236,u⟩:=St.frzS u (.tail (.tail .head)) (F9.mono (cp (cp (cp (cp Q2.sub P2.sub) Q1.sub) M1.sub) J1.sub))
 obtain ⟨H241,T2,hr239,hc240,u⟩:=St.frzS u (.tail (.tail .head)) (W9.mono (cp (cp (cp (cp R2.sub Q2.sub) P2.sub) Q1.sub) M1.sub))
 obtain ⟨H245,U2,hr243,hc244,u⟩:=St.frzS u (.tail (.tail .head)) (hvA72.mono (cp (cp (cp (cp T2.sub R2.sub) Q2.sub) P2.sub) Q1.sub))
 obtain ⟨H249,V2,hr247,hc248,u⟩:=St.frzS u (.tail (.tail .head)) (hvA87.mono (cp (cp (cp (cp U2.sub T2.sub) R2.sub) Q2.sub) P2.sub))
 obtain rfl:=si hm
 exact r3c (vs:=[SL I0 D0 E0,SL J0 F0 G0,SL O0 K0 M0,SL Y0 Q0 R0,SL B1 V0 W0,SL Y1 O1 P1]) (.inl rfl) o results64 rfl rfl rfl isAgg27 sizeOf27 rfl (u.ld.cellsB t0) ⟨H249,_,rfl,(show Enc.rep (α:=api_Prog) H249 [SL I0 D0 E0,SL J0 F0 G0,SL O0 K0 M0,SL Y0 Q0 R0,SL B1 V0 W0,SL Y1 O1 P1] (api_Prog.mk D0 F0 K0 Q0 V0 O1) from ⟨_,_,rfl,⟨_,_,rfl,hc228,(hr227.mono (cp (cp (cp (cp V2.sub U2.sub) T2.sub) R2.sub) Q2.sub))⟩,⟨_,_,rfl,⟨_,_,rfl,hc232,(hr231.mono (cp (cp (cp V2.sub U2.sub) T2.sub) R2.sub))⟩,⟨_,_,rfl,⟨_,_,rfl,hc236,(hr235.mono (cp (cp V2.sub U2.sub) T2.sub))⟩,⟨_,_,rfl,⟨_,_,rfl,hc240,(hr239.mono (cp V2.sub U2.sub))⟩,⟨_,_,rfl,⟨_,_,rfl,hc244,(hr243.mono V2.sub)⟩,⟨_,_,rfl,hc248,hr247⟩⟩⟩⟩⟩⟩),(Ext.trans Q8 (Ext.trans P4 (Ext.trans J1 (Ext.trans M1 (Ext.trans Q1 (Ext.trans P2 (Ext.trans Q2 (Ext.trans R2 (Ext.trans T2 (Ext.trans U2 V2)))))))))),(St.le u),u.keep⟩
end Go.LM.LB
