/- Walks, lifted by program. No condition beyond the theorems' own premises. -/
import Derived.Test.YtgdkaddhhpgeiaaGreatDoorLBQ5
namespace Go.LM.LB
open Go Go.LL Go.MD Go.LM Go.Proofs Go.MD.LB Go.Proofs.Tryz
set_option maxRecDepth 100000
variable {N:Nat} {w0:World} {H:PH}
theorem Ja0 (hH:H.le w0) {cs2:List Value} {p1:api_Prog} (g3:Enc.rep H cs2 p1) {r:(List Int)} (hm:Z5w N p1=some r):Tot Tryz.prog 30 #[.agg cs2.toArray] w0 (λv w'=>∃ (R1:Option Addr) (V0:Nat) (S1:List Value),v=SL R1 r V0∧(∀ h,Rows h S1 r)∧Fresh w0 (sla 3 1 R1 r.length V0 S1) w'):=by
 unfold Z5w at hm
 refine fnM func30 rfl ntmps30 rfl rfl λa o=>?_
 have u:St w0 Nil [H] [] w0:=start1 hH
 replace u:=St.ds0 u
 obtain ⟨T1,W0,U1,X0,Y0,P0,j0,Q0,n0,R0,p0,S0,rfl,L3,M3,V1,X1,Y1,B2,C2,E2,F2,G2,I2,J2⟩:=Av g3
 refine th<|rg<|ls<|Bz (cs:=[SL T1 p1.Lines W0,SL U1 p1.Vols X0,SL Y0 p1.Locks P0,SL j0 p1.Threads Q0,SL n0 p1.Recover R0,SL p0 p1.Claims S0].toArray) o rfl u rfl rfl λU3 w a u o=>qa o rfl λo=>re<|tn<|th<|rg<|ls<|Ap (cs:=[.slice none 0 0].toArray) o rfl u Tryz.zeroValue42 rfl λM0 w a u o=>re<|tn<|th<|th<|?_
 obtain ⟨I0,O3,hm⟩:=bs hm
 refine rg<|qv o (Ar o Tryz.isAgg27 Tryz.sizeOf27 rfl rfl (u.ld.cellsB t1)) λo=>ls<|c1 o rfl call65 (Rp (St.le u) (show Enc.rep (α:=api_Prog) H [SL T1 p1.Lines W0,SL U1 p1.Vols X0,SL Y0 p1.Locks P0,SL j0 p1.Threads Q0,SL n0 p1.Recover R0,SL p0 p1.Claims S0] p1 from ⟨_,_,rfl,⟨_,_,rfl,L3,M3⟩,⟨_,_,rfl,⟨_,_,rfl,V1,X1⟩,⟨_,_,rfl,⟨_,_,rfl,Y1,B2⟩,⟨_,_,rfl,⟨_,_,rfl,C2,E2⟩,⟨_,_,rfl,⟨_,_,rfl,F2,G2⟩,⟨_,_,rfl,I2,J2⟩⟩⟩⟩⟩⟩) O3) ⟨rfl,trivial⟩ (λv w a hR o=>?_)
 obtain ⟨H35,T0,cs38,rfl,K2,P3,O0,M2,hk⟩:=hR
 obtain ⟨u,O0⟩:=And.intro (St.passH u hk O0 M2) (St.extc u O0)
 obtain ⟨O2,B1,P2,C1,Q2,E1,R2,F1,T2,G1,U2,I1,rfl,V2,W2,X2,Y2,A3,B3,C3,D3,E3,F3,G3,I3⟩:=Av P3
 refine re<|tn<|wb<|?_
 replace o:Fr 15 [(3,PT M0),(6,.func (.func 108) #[] #[PT T0])] _:=o.has ⟨rfl,rfl,trivial⟩
 replace u:=u.nilS 3 1
 replace u:=u.pk [3,0,0] rfl
 obtain ⟨q64,Q3,hm⟩:=bs hm
 refine rf (ŝ:=q64) (lb:=[PT T0]) (ps:=[7,8]) (I:=λ(E0:(List Int)) (K0:PH) (L:List HA)=>∃ (F0:Option Addr) (C0:Nat) (G0:List Value),L=[sla 3 1 F0 E0.length C0 G0,bk M0 [SL F0 E0 C0] 42]∧(∀ b o,H35 b=some o→K0 b=some o)∧Rows K0 G0 E0) (J:=λ(_:Empty) (_:Code) (_:PH) (_:List HA)=>False) (λ(s:(List Int)) (x:(api_Cell×Int))=>(Z5x N) s x) (λ(H:PH) (args:List Value) (x:api_Cell×Int)=>∃ (cs0:List Value),args=[.agg cs0.toArray,i6 x.2]∧Enc.rep H cs0 x.1) o rfl call108 rfl (by rintro H args x ⟨_,rfl,_⟩;rfl) u ⟨none,0,[],rfl,i2,.nil⟩ (by rintro E0 H Hn L hs ⟨F0,C0,G0,rfl,hu,J0⟩;exact ⟨_,_,_,rfl,(cp hs hu),(J0.mono hs)⟩) (λt=>t.elim) (λlq C Lc w1 hyc hcm hc hle hok hdis=>Lg (Rv hle hyc hcm hc (show Enc.rep (α:=api_Prog) H35 [SL O2 I0.Lines B1,SL P2 I0.Vols C1,SL Q2 I0.Locks E1,SL R2 I0.Threads F1,SL T2 I0.Recover G1,SL U2 I0.Claims I1] I0 from ⟨_,_,rfl,⟨_,_,rfl,V2,W2⟩,⟨_,_,rfl,⟨_,_,rfl,X2,Y2⟩,⟨_,_,rfl,⟨_,_,rfl,A3,B3⟩,⟨_,_,rfl,⟨_,_,rfl,C3,D3⟩,⟨_,_,rfl,⟨_,_,rfl,E3,F3⟩,⟨_,_,rfl,G3,I3⟩⟩⟩⟩⟩⟩) K2 (Ie hok) (Fz hdis) Q3)) ?_ ?_ ?_
 intro l X Y s D0 r K0 Lu args w0 a K Qr hI hex hm o u hK hN hR
 obtain ⟨E0,hsq⟩:∃ v,v=s:=⟨_,rfl⟩
 subst hsq
 obtain ⟨F0,C0,G0,rfl,J1,J0⟩:=hI
 replace hm:(Z5x N) E0 D0=some r:=hm
 unfold Z5x at hm
 obtain ⟨cs125,rfl,J3⟩:=hex
 replace o:Fr 15 [(8,i6 D0.2),(7,.agg cs125.toArray),(3,PT M0),(6,.func (.func 108) #[] #[PT T0])] a:=o
 obtain rfl:=Bl J3
 refine rg<|ls<|Ap (cs:=[Ac [],i6 0,i6 0].toArray) o rfl u Tryz.zeroValue53 rfl λR3 w a u o=>ls<|Aw o u sizeOf53 rfl rfl rfl rfl (Ak rfl) .head λw u=>re<|?_
 replace u:=u.pk [1,0,0,0] rfl
 refine tn<|hK _ _ _ _ u λw u=>wb<|?_
 obtain ⟨S3,K3,hm⟩:=bs hm
 refine rg<|qv o (Ah o Tryz.isAgg42 rfl (u.ld.cellB t3 rfl)) λo=>qv o (Ag o Is rfl) λo=>qv o (Ah o isAgg3 rfl (u.ld.cellB t1 rfl)) λo=>ls<|Bh (e:=3) (sz:=1) [i6 D0.1.N] o rfl u rfl rfl rfl (λw=>by kernel_rfl) λT3 w a u o=>?_
 have M1:Rows (α:=Int) K0 [i6 D0.1.N] ([D0.1.N]:List Int):=(.cons (c:=[i6 D0.1.N]) rfl .nil)
 refine ls<|Cc (α:=Int) (xs:=E0) (ys:=([D0.1.N]:List Int)) o rfl u underlying42 Xg rfl (by decide) rfl rfl rfl t3 J0 (u.rdO t0) M1 K3 λO1 u0 P1 w a Q1 hU o=>?_
 replace u:=hU _ (.tail (.tail (.tail .head)))
 replace u:=u.drop .head
 refine ls<|As o u sizeOf42 rfl rfl rfl rfl (.tail (.tail (.tail .head))) .zero λw u=>re<|bn<|?_
 obtain rfl:=si hm
 replace u:=u.pk [0,1,1] rfl
 exact hN _ _ _ _ _ rfl (ExtM.refl _ _ _) ⟨O1,u0,P1,rfl,J1,Q1⟩ u
 rintro E0 D137 K0 Lu a w rfl ⟨F0,C0,G0,rfl,huHA1,J0⟩ U0 o u
 replace U0:=ExtM.nil U0
 try dsimp only at hm
 replace o:Fr ⟨15,(D137 :: [])⟩ [(3,PT M0),(6,.func (.func 108) #[] #[PT T0])] a:=o
 replace u:St w0 Nil [K0] [dsA (D137 :: []),sla 3 1 F0 E0.length C0 G0,bk M0 [SL F0 E0 C0] 42] w:=u
 refine bn<|tn<|th<|rg<|qv o (Ah o Tryz.isAgg42 rfl (u.ld.cellB t2 rfl)) λo=>qa o rfl λo=>re<|tn<|wr<|?_
 obtain rfl:=si hm
 exact rM (.inl rfl) o u λw u=>⟨_,Xi o rfl rfl,⟨_,_,_,rfl,(λ_=>Rows.ind J0),u.endFresh t0⟩⟩
 exact λt=>t.elim
theorem Jar (hH:H.le w0) {J0:Option Addr} {D0:Nat} {p1:(List Int)} (_:p1.length≤D0) (P0:SR H J0 p1) {oa7:Option Addr} {cap8:Nat} {p6:(List Int)} (_:p6.length≤cap8) (K0:SR H oa7 p6) {r:Bool} (hm:Z5a N p1 p6=some r):Tot Tryz.prog 29 #[SL J0 p1 D0,SL oa7 p6 cap8] w0 (λv w'=>v=.bool r∧Keep Nil w0 w'):=by
 unfold Z5a at hm
 refine fn0 func29 rfl ntmps29 rfl rfl λa o=>?_
 have u:St w0 Nil [H] [] w0:=start1 hH
 refine th<|rg<|qa o rfl λo=>re<|tn<|th<|th<|rg<|qm o rfl λo=>qv o (Al (α:=Int) (xs:=p1) o runUnderlying42 rfl) λo=>qm o rfl λo=>qv o (Al (α:=Int) (xs:=p6) o runUnderlying42 rfl) λo=>qv o (Bu o rfl rfl) λo=>re<|?_
 rcases bip hm with ⟨E0,hm⟩ | ⟨E0,hm⟩
 refine tn<|ctv o rfl E0<|th<|rg<|qa o rfl λo=>re<|tn<|wr<|tr<|?_
 obtain rfl:=si hm
 exact r1 o results29 rfl ⟨rfl,u.keep⟩
 refine tn<|cfv o rfl E0<|wk<|tn<|th<|th<|rg<|qa o rfl λo=>re<|tn<|Ay (λa w=>Z5b=some r∧Fr 26 [] a∧St w0 Nil [H] [] w) ?_ ?_
 refine wb<|lp (α:=Nat×Int) (λgh a w=>match gh with | (C0,I0)=>(Z5c N Z5b p1 p6) C0 I0=some r∧Fr 26 [(0,SL J0 p1 D0),(1,SL oa7 p6 cap8),(5,i6 I0)] a∧St w0 Nil [H] [] w) (λgh=>gh.1) (N,0) ⟨hm,o.hs,u⟩ ?_
 rintro ⟨C0,I0⟩ a w ⟨hm,o,u⟩
 obtain _ | C0:=C0
 simp [Z5c] at hm
 rw [Z5c] at hm
 refine th<|th<|rg<|qm o rfl λo=>qm o rfl λo=>qv o (Al (α:=Int) (xs:=p1) o runUnderlying42 rfl) λo=>qv o (Au o rfl rfl) λo=>re<|?_
 rcases bip hm with ⟨F0,hm⟩ | ⟨F0,hm⟩
 refine tn<|ctv o rfl F0<|wk<|tn<|th<|wb<|th<|?_
 obtain ⟨S0,M0,hm⟩:=bs hm
 obtain ⟨T0,U0,Q0⟩:=SR.get P0 M0
 obtain rfl:T0=[i6 S0]:=U0
 obtain ⟨V0,O0,hm⟩:=bs hm
 obtain ⟨W0,X0,R0⟩:=SR.get K0 O0
 obtain rfl:W0=[i6 V0]:=X0
 refine rxS 9 u wide (by kernel_rfl) λw u=>?_
 iterate 2 refine xq u.ld o (λw hl=>Ab o rfl) λo=>?_
 refine xr u o (Aq o runUnderlying42 sizeOf3 rfl rfl M0 (SR.oaI P0 (by decide) M0)) λo=>xq u.ld o (λw hl=>Ah o isAgg3 rfl (PH.le.cell (Lds.le hl) (Q0 0 _ rfl))) λo=>?_
 iterate 2 refine xq u.ld o (λw hl=>Ab o rfl) λo=>?_
 refine xr u o (Aq o runUnderlying42 sizeOf3 rfl rfl O0 (SR.oaI K0 (by decide) O0)) λo=>xq u.ld o (λw hl=>Ah o isAgg3 rfl (PH.le.cell (Lds.le hl) (R0 0 _ rfl))) λo=>xr u o (Bu o rfl rfl) λo=>xe<|?_
 rcases bip hm with ⟨G0,hm⟩ | ⟨G0,hm⟩
 refine tn<|ctv o rfl G0<|th<|rg<|qa o rfl λo=>re<|tn<|wr<|br<|tr<|tr<|br<|tr<|?_
 obtain rfl:=si hm
 exact r1 o results29 rfl ⟨rfl,u.keep⟩
 refine tn<|cfv o rfl G0<|wk<|bn<|tn<|rg<|qm o rfl λo=>qv o (Ao o rfl rfl) λo=>qa o rfl λo=>re<|tn<|?_
 exact ⟨(C0,(IntKind.i64.wrap (I0+1))),⟨hm,o.hs,u⟩,Nat.lt_succ_self _⟩
 refine tn<|cfv o rfl F0<|we<|tx<|tx<|bx<|tn<|?_
 exact ⟨hm,o.has trivial,u⟩
 rintro a w ⟨hm,o,u⟩
 unfold Z5b at hm
 refine th<|rg<|qa o rfl λo=>re<|tn<|wr<|?_
 obtain rfl:=si hm
 exact r1 o results29 rfl ⟨rfl,u.keep⟩
theorem Jbl (hH:H.le w0) {G0:Option Addr} {D0:Nat} {p1:(List Str)} (Q0:p1.length≤D0) (J0:SR H G0 p1) {p6:Str} {r:Int} (hm:Z9c N p1 p6=some r):Tot Tryz.prog 68 #[SL G0 p1 D0,Ac p6] w0 (λv w'=>v=i6 r∧Keep Nil w0 w'):=by
 unfold Z9c at hm
 refine fn0 func68 rfl ntmps68 rfl rfl λa o=>?_
 have u:St w0 Nil [H] [] w0:=start1 hH
 refine th<|rg<|qa o rfl λo=>re<|tn<|th<|th<|rg<|qm o rfl λo=>qv o (Al (α:=Str) (xs:=p1) o runUnderlying36 rfl) λo=>qm o rfl λo=>re<|tn<|Ay (λa w=>Z9d=some r∧Fr 19 [] a∧St w0 Nil [H] [] w) ?_ ?_
 refine wb<|lp (α:=Nat×Int) (λgh a w=>match gh with | (C0,F0)=>(Z9e N Z9d p1 p6) C0 F0=some r∧Fr 19 [(0,SL G0 p1 D0),(1,Ac p6),(7,i6 (p1.length:Int)),(8,i6 F0)] a∧St w0 Nil [H] [] w) (λgh=>gh.1) (N,0) ⟨hm,o.hs,u⟩ ?_
 rintro ⟨C0,F0⟩ a w ⟨hm,o,u⟩
 obtain _ | C0:=C0
 simp [Z9e] at hm
 rw [Z9e] at hm
 refine th<|rg<|qv o (Au o rfl rfl) λo=>re<|?_
 rcases bip hm with ⟨I0,hm⟩ | ⟨I0,hm⟩
 refine tn<|th<|ctv o rfl I0<|wk<|tn<|th<|wb<|th<|rg<|qm o rfl λo=>qa o rfl λo=>re<|tn<|th<|?_
 obtain ⟨K0,h9,hm⟩:=bs hm
 obtain ⟨O0,P0,M0⟩:=SR.get J0 h9
 obtain rfl:O0=[Ac K0]:=P0
 refine rg<|qm o rfl λo=>?_
 iterate 2 refine qm o rfl λo=>?_
 refine qv o (Aq o runUnderlying36 sizeOf9 rfl rfl h9 (SR.oaI J0 (by decide) h9)) λo=>qv o (Ah o isAgg9 rfl (PH.le.cell (Lds.le u.ld) (M0 0 _ rfl))) λo=>qv o (Dh (m:=p6) (n:=K0) o rfl rfl) λo=>re<|?_
 rcases bip hm with ⟨E0,hm⟩ | ⟨E0,hm⟩
 refine tn<|ctv o rfl E0<|th<|rg<|qm o rfl λo=>qa o rfl λo=>re<|tn<|wr<|br<|tr<|tr<|br<|tr<|?_
 obtain rfl:=si hm
 exact r1 o results68 rfl ⟨rfl,u.keep⟩
 refine tn<|cfv o rfl E0<|wk<|bn<|tn<|rg<|qv o (Ao o rfl rfl) λo=>qm o rfl λo=>re<|tn<|?_
 exact ⟨(C0,(IntKind.i64.wrap (F0+1))),⟨hm,o.hs,u⟩,Nat.lt_succ_self _⟩
 refine tn<|th<|cfv o rfl I0<|we<|tx<|tx<|bx<|tn<|?_
 exact ⟨hm,o.has trivial,u⟩
 rintro a w ⟨hm,o,u⟩
 unfold Z9d at hm
 refine th<|rg<|qa o rfl λo=>re<|tn<|wr<|?_
 obtain rfl:=si hm
 exact r1 o results68 rfl ⟨rfl,u.keep⟩
theorem Gl (hH:H.le w0) {D0:Option Addr} {C0:Nat} {p1:(List Str)} (E0:p1.length≤C0) (F0:SR H D0 p1) {p6:Str} {r:Int} (hm:Z63 N p1 p6=some r):Tot Tryz.prog 32 #[SL D0 p1 C0,Ac p6] w0 (λv w'=>v=i6 r∧Keep Nil w0 w'):=by
 unfold Z63 at hm
 refine fn0 func32 rfl ntmps32 rfl rfl λa o=>?_
 have u:St w0 Nil [H] [] w0:=start1 hH
 refine th<|rg<|qa o rfl λo=>re<|tn<|th<|?_
 obtain ⟨G0,h8,hm⟩:=bs hm
 refine rg<|qm o rfl λo=>qm o rfl λo=>ls<|cr o call68 (Jbl (Ai _) E0 (St.srH u F0) h8) u λu o=>qa o rfl λo=>re<|tn<|wr<|?_
 obtain rfl:=si hm
 exact r1 o results32 rfl ⟨rfl,u.keep⟩
set_option maxHeartbeats 4000000 in
theorem Ow (hH:H.le w0) (hT:Tab H)  {r:Bool} (hm:Z1b N  = some r):Tot Tryz.prog 18 #[] w0 (λv w'=>v=.bool r∧Keep Nil w0 w'):=by
 unfold Z1b at hm
 refine fn0 func18 rfl ntmps18 rfl rfl λa o=>?_
 have u:St w0 Nil [H] [] w0:=start1 hH
 refine th<|rg<|qa o rfl λo=>re<|tn<|th<|?_
 obtain ⟨K0,h2,hm⟩:=bs hm
 refine rg<|ls<|c1 o rfl Tryz.call19 (Kl (St.le u) h2) ⟨rfl,trivial⟩ (λv w a hR o=>?_)
 obtain ⟨H6,cs7,rfl,g8,X1,R9,hk⟩:=hR
 obtain ⟨u,X1⟩:=And.intro (St.passH u hk X1 R9) (St.extc u X1)
 obtain ⟨Y1,S0,n0,T0,p0,U0,u0,V0,B1,W0,C1,X0,rfl,E1,F1,G1,I1,J1,M1,O1,P1,Q1,R1,S1,T1⟩:=Av g8
 refine ls<|Ap (cs:=[.slice none 0 0,.slice none 0 0,.slice none 0 0,.slice none 0 0,.slice none 0 0,.slice none 0 0].toArray) o rfl u zeroValue27 rfl λU1 w a u o=>ls<|Aw o u sizeOf27 rfl rfl rfl rfl (Ak rfl) .head λw u=>re<|tn<|th<|?_
 obtain ⟨V1,S9,hm⟩:=bs hm
 refine rg<|qv o (Ar o Tryz.isAgg27 Tryz.sizeOf27 rfl rfl (u.ld.cellsB t0)) λo=>ls<|cr o call16 (Hk (Ai _) (Tab.mono (Tab.mono hT X1.sub) (St.up u)) (Enc.mono (St.up u) (show Enc.rep (α:=api_Prog) H6 [SL Y1 K0.Lines S0,SL n0 K0.Vols T0,SL p0 K0.Locks U0,SL u0 K0.Threads V0,SL B1 K0.Recover W0,SL C1 K0.Claims X0] K0 from ⟨_,_,rfl,⟨_,_,rfl,E1,F1⟩,⟨_,_,rfl,⟨_,_,rfl,G1,I1⟩,⟨_,_,rfl,⟨_,_,rfl,J1,M1⟩,⟨_,_,rfl,⟨_,_,rfl,O1,P1⟩,⟨_,_,rfl,⟨_,_,rfl,Q1,R1⟩,⟨_,_,rfl,S1,T1⟩⟩⟩⟩⟩⟩)) S9) u λu o=>qm o rfl λo=>?_
 iterate 2 refine qv o (Bv o rfl rfl) λo=>?_
 iterate 2 refine qa o rfl λo=>?_
 refine re<|tn<|th<|?_
 obtain ⟨G2,T9,hm⟩:=bs hm
 obtain ⟨R0,U9,hm⟩:=bs hm
 refine rg<|ls<|c1 o rfl Tryz.call19 (Kl (St.le u) T9) ⟨rfl,trivial⟩ (λv w a hR o=>?_)
 obtain ⟨H41,cs42,rfl,V9,I0,O7,hk⟩:=hR
 obtain ⟨u,I0⟩:=And.intro (St.passH u hk I0 O7) (St.extc u I0)
 obtain ⟨P7,C4,Q7,D4,R7,E4,S7,F4,T7,G4,U7,I4,rfl,V7,W7,X7,Y7,d7,j7,k7,n7,u7,v7,z7,A8⟩:=Av V9
 refine ls<|cr o call16 (Hk (Ai _) (Tab.mono (Tab.mono hT (cp I0.sub X1.sub)) (St.up u)) (Enc.mono (St.up u) (show Enc.rep (α:=api_Prog) H41 [SL P7 G2.Lines C4,SL Q7 G2.Vols D4,SL R7 G2.Locks E4,SL S7 G2.Threads F4,SL T7 G2.Recover G4,SL U7 G2.Claims I4] G2 from ⟨_,_,rfl,⟨_,_,rfl,V7,W7⟩,⟨_,_,rfl,⟨_,_,rfl,X7,Y7⟩,⟨_,_,rfl,⟨_,_,rfl,d7,j7⟩,⟨_,_,rfl,⟨_,_,rfl,k7,n7⟩,⟨_,_,rfl,⟨_,_,rfl,u7,v7⟩,⟨_,_,rfl,z7,A8⟩⟩⟩⟩⟩⟩)) U9) u λu o=>qm o rfl λo=>?_
 iterate 2 refine qv o (Bv o rfl rfl) λo=>?_
 iterate 2 refine qa o rfl λo=>?_
 refine re<|tn<|th<|?_
 obtain ⟨I2,W9,hm⟩:=bs hm
 obtain ⟨M0,B8,hm⟩:=bs hm
 refine rg<|ls<|c1 o rfl Tryz.call19 (Kl (St.le u) W9) ⟨rfl,trivial⟩ (λv w a hR o=>?_)
 obtain ⟨H75,cs76,rfl,X9,J0,C8,hk⟩:=hR
 obtain ⟨u,J0⟩:=And.intro (St.passH u hk J0 C8) (St.extc u J0)
 obtain ⟨D8,J4,E8,K4,F8,L4,G8,M4,I8,O4,J8,P4,rfl,K8,L8,M8,O8,P8,Q8,R8,S8,T8,U8,Q4,R4⟩:=Av X9
 refine ls<|cr o call16 (Hk (Ai _) (Tab.mono (Tab.mono hT (cp (cp J0.sub I0.sub) X1.sub)) (St.up u)) (Enc.mono (St.up u) (show Enc.rep (α:=api_Prog) H75 [SL D8 I2.Lines J4,SL E8 I2.Vols K4,SL F8 I2.Locks L4,SL G8 I2.Threads M4,SL I8 I2.Recover O4,SL J8 I2.Claims P4] I2 from ⟨_,_,rfl,⟨_,_,rfl,K8,L8⟩,⟨_,_,rfl,⟨_,_,rfl,M8,O8⟩,⟨_,_,rfl,⟨_,_,rfl,P8,Q8⟩,⟨_,_,rfl,⟨_,_,rfl,R8,S8⟩,⟨_,_,rfl,⟨_,_,rfl,T8,U8⟩,⟨_,_,rfl,Q4,R4⟩⟩⟩⟩⟩⟩)) B8) u λu o=>qm o rfl λo=>?_
 iterate 2 refine qv o (Bv o rfl rfl) λo=>?_
 iterate 2 refine qa o rfl λo=>?_
 refine re<|tn<|th<|?_
 obtain ⟨B2,V8,hm⟩:=bs hm
 obtain ⟨O0,W8,hm⟩:=bs hm
 refine rg<|ls<|c1 o rfl Tryz.call19 (Kl (St.le u) V8) ⟨rfl,trivial⟩ (λv w a hR o=>?_)
 obtain ⟨H109,cs110,rfl,X8,C0,S4,hk⟩:=hR
 obtain ⟨u,C0⟩:=And.intro (St.passH u hk C0 S4) (St.extc u C0)
 obtain ⟨T4,C3,U4,D3,V4,E3,W4,F3,X4,G3,Y4,I3,rfl,d4,j4,k4,l4,A5,B5,C5,D5,E5,F5,G5,I5⟩:=Av X8
 refine ls<|cr o call16 (Hk (Ai _) (Tab.mono (Tab.mono hT (cp (cp (cp C0.sub J0.sub) I0.sub) X1.sub)) (St.up u)) (Enc.mono (St.up u) (show Enc.rep (α:=api_Prog) H109 [SL T4 B2.Lines C3,SL U4 B2.Vols D3,SL V4 B2.Locks E3,SL W4 B2.Threads F3,SL X4 B2.Recover G3,SL Y4 B2.Claims I3] B2 from ⟨_,_,rfl,⟨_,_,rfl,d4,j4⟩,⟨_,_,rfl,⟨_,_,rfl,k4,l4⟩,⟨_,_,rfl,⟨_,_,rfl,A5,B5⟩,⟨_,_,rfl,⟨_,_,rfl,C5,D5⟩,⟨_,_,rfl,⟨_,_,rfl,E5,F5⟩,⟨_,_,rfl,G5,I5⟩⟩⟩⟩⟩⟩)) W8) u λu o=>qm o rfl λo=>?_
 iterate 2 refine qv o (Bv o rfl rfl) λo=>?_
 iterate 2 refine qa o rfl λo=>?_
 refine re<|tn<|th<|?_
 obtain ⟨C2,Y8,hm⟩:=bs hm
 obtain ⟨Y0,d8,hm⟩:=bs hm
 refine rg<|ls<|c1 o rfl Tryz.call19 (Kl (St.le u) Y8) ⟨rfl,trivial⟩ (λv w a hR o=>?_)
 obtain ⟨H143,cs144,rfl,e8,D0,J5,hk⟩:=hR
 obtain ⟨u,D0⟩:=And.intro (St.passH u hk D0 J5) (St.extc u D0)
 obtain ⟨K5,J3,L5,K3,M5,L3,O5,M3,P5,O3,Q5,P3,rfl,R5,S5,T5,U5,V5,W5,X5,Y5,d5,j5,k5,n5⟩:=Av e8
 refine ls<|cr o call16 (Hk (Ai _) (Tab.mono (Tab.mono hT (cp (cp (cp (cp D0.sub C0.sub) J0.sub) I0.sub) X1.sub)) (St.up u)) (Enc.mono (St.up u) (show Enc.rep (α:=api_Prog) H143 [SL K5 C2.Lines J3,SL L5 C2.Vols K3,SL M5 C2.Locks L3,SL O5 C2.Threads M3,SL P5 C2.Recover O3,SL Q5 C2.Claims P3] C2 from ⟨_,_,rfl,⟨_,_,rfl,R5,S5⟩,⟨_,_,rfl,⟨_,_,rfl,T5,U5⟩,⟨_,_,rfl,⟨_,_,rfl,V5,W5⟩,⟨_,_,rfl,⟨_,_,rfl,X5,Y5⟩,⟨_,_,rfl,⟨_,_,rfl,d5,j5⟩,⟨_,_,rfl,k5,n5⟩⟩⟩⟩⟩⟩)) d8) u λu o=>qm o rfl λo=>?_
 iterate 2 refine qv o (Bv o rfl rfl) λo=>?_
 iterate 2 refine qa o rfl λo=>?_
 refine re<|tn<|th<|?_
 obtain ⟨E2,j8,hm⟩:=bs hm
 obtain ⟨P0,l8,hm⟩:=bs hm
 refine rg<|ls<|c1 o rfl Tryz.call19 (Kl (St.le u) j8) ⟨rfl,trivial⟩ (λv w a hR o=>?_)
 obtain ⟨H177,cs178,rfl,n8,E0,u5,hk⟩:=hR
 obtain ⟨u,E0⟩:=And.intro (St.passH u hk E0 u5) (St.extc u E0)
 obtain ⟨A6,Q3,B6,R3,C6,S3,D6,T3,E6,U3,F6,V3,rfl,G6,I6,J6,K6,L6,M6,O6,P6,Q6,R6,S6,T6⟩:=Av n8
 refine ls<|cr o call16 (Hk (Ai _) (Tab.mono (Tab.mono hT (cp (cp (cp (cp (cp E0.sub D0.sub) C0.sub) J0.sub) I0.sub) X1.sub)) (St.up u)) (Enc.mono (St.up u) (show Enc.rep (α:=api_Prog) H177 [SL A6 E2.Lines Q3,SL B6 E2.Vols R3,SL C6 E2.Locks S3,SL D6 E2.Threads T3,SL E6 E2.Recover U3,SL F6 E2.Claims V3] E2 from ⟨_,_,rfl,⟨_,_,rfl,G6,I6⟩,⟨_,_,rfl,⟨_,_,rfl,J6,K6⟩,⟨_,_,rfl,⟨_,_,rfl,L6,M6⟩,⟨_,_,rfl,⟨_,_,rfl,O6,P6⟩,⟨_,_,rfl,⟨_,_,rfl,Q6,R6⟩,⟨_,_,rfl,S6,T6⟩⟩⟩⟩⟩⟩)) l8) u λu o=>qm o rfl λo=>?_
 iterate 2 refine qv o (Bv o rfl rfl) λo=>?_
 iterate 2 refine qa o rfl λo=>?_
 refine re<|tn<|th<|?_
 obtain ⟨F2,v8,hm⟩:=bs hm
 obtain ⟨Q0,y8,hm⟩:=bs hm
 refine rg<|ls<|c1 o rfl Tryz.call19 (Kl (St.le u) v8) ⟨rfl,trivial⟩ (λv w a hR o=>?_)
 obtain ⟨H211,cs212,rfl,z8,F0,U6,hk⟩:=hR
 obtain ⟨u,F0⟩:=And.intro (St.passH u hk F0 U6) (St.extc u F0)
 obtain ⟨V6,W3,W6,X3,X6,Y3,Y6,l3,d6,A4,j6,B4,rfl,k6,n6,u6,v6,y6,z6,A7,B7,C7,D7,E7,F7⟩:=Av z8
 refine ls<|cr o call16 (Hk (Ai _) (Tab.mono (Tab.mono hT (cp (cp (cp (cp (cp (cp F0.sub E0.sub) D0.sub) C0.sub) J0.sub) I0.sub) X1.sub)) (St.up u)) (Enc.mono (St.up u) (show Enc.rep (α:=api_Prog) H211 [SL V6 F2.Lines W3,SL W6 F2.Vols X3,SL X6 F2.Locks Y3,SL Y6 F2.Threads l3,SL d6 F2.Recover A4,SL j6 F2.Claims B4] F2 from ⟨_,_,rfl,⟨_,_,rfl,k6,n6⟩,⟨_,_,rfl,⟨_,_,rfl,u6,v6⟩,⟨_,_,rfl,⟨_,_,rfl,y6,z6⟩,⟨_,_,rfl,⟨_,_,rfl,A7,B7⟩,⟨_,_,rfl,⟨_,_,rfl,C7,D7⟩,⟨_,_,rfl,E7,F7⟩⟩⟩⟩⟩⟩)) y8) u λu o=>qm o rfl λo=>?_
 iterate 2 refine qv o (Bv o rfl rfl) λo=>?_
 iterate 2 refine qa o rfl λo=>?_
 refine re<|tn<|th<|?_
 obtain ⟨j0,A9,hm⟩:=bs hm
 refine rg<|qv o (Bi [] [Ac [],i6 0,i6 0] o trivial (λw=>by kernel_rfl)) λo=>ls<|Bh (e:=53) (sz:=3) [Ac [],i6 0,i6 0] o rfl u rfl rfl rfl (λw=>by kernel_rfl) λB3 w a u o=>?_
 have G7:Rows (α:=api_Cell) H211 [Ac [],i6 0,i6 0] ([(api_Cell.mk [] 0 0)]:List api_Cell):=(.cons (c:=[Ac [],i6 0,i6 0]) ⟨_,_,rfl,rfl,⟨_,_,rfl,rfl,rfl⟩⟩ .nil)
 refine qv o (Bi [.slice (some ⟨B3,0,none⟩) ([(api_Cell.mk [] 0 0)]:List api_Cell).length 1] [.slice none 0 0,.slice none 0 0,.slice (some ⟨B3,0,none⟩) ([(api_Cell.mk [] 0 0)]:List api_Cell).length 1,.slice none 0 0,.slice none 0 0,.slice none 0 0] o ⟨rfl,trivial⟩ (λw=>by kernel_rfl)) λo=>?_
 obtain ⟨H246,G0,I7,J7,u⟩:=St.frzS u .head G7
 refine ls<|cr o call16 (Hk (Ai _) (Tab.mono (Tab.mono hT (cp (cp (cp (cp (cp (cp (cp G0.sub F0.sub) E0.sub) D0.sub) C0.sub) J0.sub) I0.sub) X1.sub)) (St.up u)) (Enc.mono (St.up u) (show Enc.rep (α:=api_Prog) H246 [.slice none 0 0,.slice none 0 0,.slice (some ⟨B3,0,none⟩) ([(api_Cell.mk [] 0 0)]:List api_Cell).length 1,.slice none 0 0,.slice none 0 0,.slice none 0 0] (api_Prog.mk [] [] ([(api_Cell.mk [] 0 0)]:List api_Cell) [] [] []) from ⟨_,_,rfl,⟨none,0,rfl,Nat.le_refl _,SR.nil _ _⟩,⟨_,_,rfl,⟨none,0,rfl,Nat.le_refl _,SR.nil _ _⟩,⟨_,_,rfl,⟨_,_,rfl,J7,I7⟩,⟨_,_,rfl,⟨none,0,rfl,Nat.le_refl _,SR.nil _ _⟩,⟨_,_,rfl,⟨none,0,rfl,Nat.le_refl _,SR.nil _ _⟩,⟨none,0,rfl,Nat.le_refl _,SR.nil _ _⟩⟩⟩⟩⟩⟩)) A9) u λu o=>qm o rfl λo=>?_
 iterate 2 refine qv o (Bv o rfl rfl) λo=>?_
 iterate 2 refine qa o rfl λo=>?_
 refine re<|tn<|th<|?_
 obtain ⟨_,J2,hm⟩:=bs hm
 replace J2:=Cf J2
 obtain ⟨r250,B9,hm⟩:=bs hm
 obtain ⟨r260,C9,hm⟩:=bs hm
 obtain ⟨_,K2,hm⟩:=bs hm
 replace K2:=Cf K2
 obtain ⟨r263,D9,hm⟩:=bs hm
 obtain ⟨_,M2,hm⟩:=bs hm
 replace M2:=Cf M2
 obtain ⟨r266,E9,hm⟩:=bs hm
 obtain ⟨_,O2,hm⟩:=bs hm
 replace O2:=Cf O2
 obtain ⟨r269,F9,hm⟩:=bs hm
 obtain ⟨_,P2,hm⟩:=bs hm
 replace P2:=Cf P2
 obtain ⟨r272,G9,hm⟩:=bs hm
 obtain ⟨_,Q2,hm⟩:=bs hm
 replace Q2:=Cf Q2
 obtain ⟨r275,I9,hm⟩:=bs hm
 obtain ⟨_,R2,hm⟩:=bs hm
 replace R2:=Cf R2
 obtain ⟨r278,J9,hm⟩:=bs hm
 obtain ⟨r288,K9,hm⟩:=bs hm
 obtain ⟨_,T2,hm⟩:=bs hm
 replace T2:=Cf T2
 obtain ⟨r291,L9,hm⟩:=bs hm
 obtain ⟨r301,M9,hm⟩:=bs hm
 obtain ⟨_,U2,hm⟩:=bs hm
 replace U2:=Cf U2
 obtain ⟨r304,O9,hm⟩:=bs hm
 obtain ⟨r311,P9,hm⟩:=bs hm
 obtain ⟨_,V2,hm⟩:=bs hm
 replace V2:=Cf V2
 obtain ⟨r314,Q9,hm⟩:=bs hm
 refine rg<|qm o rfl λo=>qv o (Am o rfl rfl) λo=>qm o rfl λo=>gr (Fk:=[(1,PT U1),(5,i6 R0.2),(6,i6 M0.1),(7,i6 M0.2),(8,i6 O0.1),(9,i6 O0.2),(10,i6 Y0.1),(12,i6 P0.1),(13,i6 P0.2),(14,i6 Q0.1),(15,i6 Q0.2),(16,i6 j0.1),(66,.bool ((decide (V1.1=0)) && (decide (R0.1=9))))]) 63 3 o u ?_ ?_ ?_
 intro hb o key
 exact qg o (Ab o rfl) λo=>qg o (Am o rfl rfl) λo=>qk o (Ad o rfl rfl) key u hb
 intro hb o key
 iterate 2 refine qn o λo=>?_
 exact qk o (Ae o rfl rfl) key u hb
 intro a w o u
 refine qm o rfl λo=>gr (Fk:=[(1,PT U1),(6,i6 M0.1),(7,i6 M0.2),(8,i6 O0.1),(9,i6 O0.2),(10,i6 Y0.1),(12,i6 P0.1),(13,i6 P0.2),(14,i6 Q0.1),(15,i6 Q0.2),(16,i6 j0.1),(70,.bool (((decide (V1.1=0)) && (decide (R0.1=9))) && (decide (R0.2=28))))]) 67 3 o u ?_ ?_ ?_
 intro hb o key
 exact qg o (Ab o rfl) λo=>qg o (Am o rfl rfl) λo=>qk o (Ad o rfl rfl) key u hb
 intro hb o key
 iterate 2 refine qn o λo=>?_
 exact qk o (Ae o rfl rfl) key u hb
 intro a w o u
 refine qm o rfl λo=>gr (Fk:=[(1,PT U1),(7,i6 M0.2),(8,i6 O0.1),(9,i6 O0.2),(10,i6 Y0.1),(12,i6 P0.1),(13,i6 P0.2),(14,i6 Q0.1),(15,i6 Q0.2),(16,i6 j0.1),(74,.bool ((((decide (V1.1=0)) && (decide (R0.1=9))) && (decide (R0.2=28))) && (decide (M0.1=10))))]) 71 3 o u ?_ ?_ ?_
 intro hb o key
 exact qg o (Ab o rfl) λo=>qg o (Am o rfl rfl) λo=>qk o (Ad o rfl rfl) key u hb
 intro hb o key
 iterate 2 refine qn o λo=>?_
 exact qk o (Ae o rfl rfl) key u hb
 intro a w o u
 refine qm o rfl λo=>gr (Fk:=[(1,PT U1),(8,i6 O0.1),(9,i6 O0.2),(10,i6 Y0.1),(12,i6 P0.1),(13,i6 P0.2),(14,i6 Q0.1),(15,i6 Q0.2),(16,i6 j0.1),(78,.bool (((((decide (V1.1=0)) && (decide (R0.1=9))) && (decide (R0.2=28))) && (decide (M0.1=10))) && (decide (M0.2=12))))]) 75 3 o u ?_ ?_ ?_
 intro hb o key
 exact qg o (Ab o rfl) λo=>qg o (Am o rfl rfl) λo=>qk o (Ad o rfl rfl) key u hb
 intro hb o key
 iterate 2 refine qn o λo=>?_
 exact qk o (Ae o rfl rfl) key u hb
 intro a w o u
 refine qm o rfl λo=>gr (Fk:=[(1,PT U1),(9,i6 O0.2),(10,i6 Y0.1),(12,i6 P0.1),(13,i6 P0.2),(14,i6 Q0.1),(15,i6 Q0.2),(16,i6 j0.1),(82,.bool ((((((decide (V1.1=0)) && (decide (R0.1=9))) && (decide (R0.2=28))) && (decide (M0.1=10))) && (decide (M0.2=12))) && (decide (O0.1=10))))]) 79 3 o u ?_ ?_ ?_
 intro hb o key
 exact qg o (Ab o rfl) λo=>qg o (Am o rfl rfl) λo=>qk o (Ad o rfl rfl) key u hb
 intro hb o key
 iterate 2 refine qn o λo=>?_
 exact qk o (Ae o rfl rfl) key u hb
 intro a w o u
 refine qm o rfl λo=>gr (Fk:=[(1,PT U1),(10,i6 Y0.1),(12,i6 P0.1),(13,i6 P0.2),(14,i6 Q0.1),(15,i6 Q0.2),(16,i6 j0.1),(86,.bool (((((((decide (V1.1=0)) && (decide (R0.1=9))) && (decide (R0.2=28))) && (decide (M0.1=10))) && (decide (M0.2=12))) && (decide (O0.1=10))) && (decide (O0.2=15))))]) 83 3 o u ?_ ?_ ?_
 intro hb o key
 exact qg o (Ab o rfl) λo=>qg o (Am o rfl rfl) λo=>qk o (Ad o rfl rfl) key u hb
 intro hb o key
 iterate 2 refine qn o λo=>?_
 exact qk o (Ae o rfl rfl) key u hb
 intro a w o u
 refine qm o rfl λo=>gr (Fk:=[(1,PT U1),(12,i6 P0.1),(13,i6 P0.2),(14,i6 Q0.1),(15,i6 Q0.2),(16,i6 j0.1),(90,.bool ((((((((decide (V1.1=0)) && (decide (R0.1=9))) && (decide (R0.2=28))) && (decide (M0.1=10))) && (decide (M0.2=12))) && (decide (O0.1=10))) && (decide (O0.2=15))) && (decide (Y0.1=2))))]) 87 3 o u ?_ ?_ ?_
 intro hb o key
 exact qg o (Ab o rfl) λo=>qg o (Am o rfl rfl) λo=>qk o (Ad o rfl rfl) key u hb
 intro hb o key
 iterate 2 refine qn o λo=>?_
 exact qk o (Ae o rfl rfl) key u hb
 intro a w o u
 refine qm o rfl λo=>gr (Fk:=[(1,PT U1),(13,i6 P0.2),(14,i6 Q0.1),(15,i6 Q0.2),(16,i6 j0.1),(94,.bool (((((((((decide (V1.1=0)) && (decide (R0.1=9))) && (decide (R0.2=28))) && (decide (M0.1=10))) && (decide (M0.2=12))) && (decide (O0.1=10))) && (decide (O0.2=15))) && (decide (Y0.1=2))) && (decide (P0.1=9))))]) 91 3 o u ?_ ?_ ?_
 intro hb o key
 exact qg o (Ab o rfl) λo=>qg o (Am o rfl rfl) λo=>qk o (Ad o rfl rfl) key u hb
 intro hb o key
 iterate 2 refine qn o λo=>?_
 exact qk o (Ae o rfl rfl) key u hb
 intro a w o u
 refine qm o rfl λo=>gr (Fk:=[(1,PT U1),(14,i6 Q0.1),(15,i6 Q0.2),(16,i6 j0.1),(98,.bool ((((((((((decide (V1.1=0)) && (decide (R0.1=9))) && (decide (R0.2=28))) && (decide (M0.1=10))) && (decide (M0.2=12))) && (decide (O0.1=10))) && (decide (O0.2=15))) && (decide (Y0.1=2))) && (decide (P0.1=9))) && (decide (P0.2=18))))]) 95 3 o u ?_ ?_ ?_
 intro hb o key
 exact qg o (Ab o rfl) λo=>qg o (Am o rfl rfl) λo=>qk o (Ad o rfl rfl) key u hb
 intro hb o key
 iterate 2 refine qn o λo=>?_
 exact qk o (Ae o rfl rfl) key u hb
 intro a w o u
 refine qm o rfl λo=>gr (Fk:=[(1,PT U1),(15,i6 Q0.2),(16,i6 j0.1),(102,.bool (((((((((((decide (V1.1=0)) && (decide (R0.1=9))) && (decide (R0.2=28))) && (decide (M0.1=10))) && (decide (M0.2=12))) && (decide (O0.1=10))) && (decide (O0.2=15))) && (decide (Y0.1=2))) && (decide (P0.1=9))) && (decide (P0.2=18))) && (decide (Q0.1=9))))]) 99 3 o u ?_ ?_ ?_
 intro hb o key
 exact qg o (Ab o rfl) λo=>qg o (Am o rfl rfl) λo=>qk o (Ad o rfl rfl) key u hb
 intro hb o key
 iterate 2 refine qn o λo=>?_
 exact qk o (Ae o rfl rfl) key u hb
 intro a w o u
 refine qm o rfl λo=>gr (Fk:=[(1,PT U1),(16,i6 j0.1),(106,.bool ((((((((((((decide (V1.1=0)) && (decide (R0.1=9))) && (decide (R0.2=28))) && (decide (M0.1=10))) && (decide (M0.2=12))) && (decide (O0.1=10))) && (decide (O0.2=15))) && (decide (Y0.1=2))) && (decide (P0.1=9))) && (decide (P0.2=18))) && (decide (Q0.1=9))) && (decide (Q0.2=27))))]) 103 3 o u ?_ ?_ ?_
 intro hb o key
 exact qg o (Ab o rfl) λo=>qg o (Am o rfl rfl) λo=>qk o (Ad o rfl rfl) key u hb
 intro hb o key
 iterate 2 refine qn o λo=>?_
 exact qk o (Ae o rfl rfl) key u hb
 intro a w o u
 refine qm o rfl λo=>gr (Fk:=[(1,PT U1),(110,.bool (((((((((((((decide (V1.1=0)) && (decide (R0.1=9))) && (decide (R0.2=28))) && (decide (M0.1=10))) && (decide (M0.2=12))) && (decide (O0.1=10))) && (decide (O0.2=15))) && (decide (Y0.1=2))) && (decide (P0.1=9))) && (decide (P0.2=18))) && (decide (Q0.1=9))) && (decide (Q0.2=27))) && (decide (j0.1=8))))]) 107 3 o u ?_ ?_ ?_
 intro hb o key
 exact qg o (Ab o rfl) λo=>qg o (Am o rfl rfl) λo=>qk o (Ad o rfl rfl) key u hb
 intro hb o key
 iterate 2 refine qn o λo=>?_
 exact qk o (Ae o rfl rfl) key u hb
 intro a w o u
 refine qv o (An (Ab o rfl) (congrArg Value.bool J2)) λo=>qg o (Ar o isAgg27 sizeOf27 rfl rfl (u.ld.cellsB t0)) λo=>ls<|gy o rfl rfl<|c1 o rfl call20 (Di (Ai _) (Enc.mono (St.up u) (show Enc.rep (α:=api_Prog) H246 [SL Y1 K0.Lines S0,SL n0 K0.Vols T0,SL p0 K0.Locks U0,SL u0 K0.Threads V0,SL B1 K0.Recover W0,SL C1 K0.Claims X0] K0 from ⟨_,_,rfl,⟨_,_,rfl,E1,(F1.mono (cp (cp (cp (cp (cp (cp G0.sub F0.sub) E0.sub) D0.sub) C0.sub) J0.sub) I0.sub))⟩,⟨_,_,rfl,⟨_,_,rfl,G1,(I1.mono (cp (cp (cp (cp (cp (cp G0.sub F0.sub) E0.sub) D0.sub) C0.sub) J0.sub) I0.sub))⟩,⟨_,_,rfl,⟨_,_,rfl,J1,(M1.mono (cp (cp (cp (cp (cp (cp G0.sub F0.sub) E0.sub) D0.sub) C0.sub) J0.sub) I0.sub))⟩,⟨_,_,rfl,⟨_,_,rfl,O1,(P1.mono (cp (cp (cp (cp (cp (cp G0.sub F0.sub) E0.sub) D0.sub) C0.sub) J0.sub) I0.sub))⟩,⟨_,_,rfl,⟨_,_,rfl,Q1,(R1.mono (cp (cp (cp (cp (cp (cp G0.sub F0.sub) E0.sub) D0.sub) C0.sub) J0.sub) I0.sub))⟩,⟨_,_,rfl,S1,(T1.mono (cp (cp (cp (cp (cp (cp G0.sub F0.sub) E0.sub) D0.sub) C0.sub) J0.sub) I0.sub))⟩⟩⟩⟩⟩⟩)) B9) ⟨rfl,trivial⟩ (λv w a hR o=>?_)
 obtain ⟨k9,Y9,l9,rfl,W2,hk⟩:=hR
 replace u:=u.fresh hk
 replace W2:=W2 H246
 refine ls<|gy o rfl rfl<|Bh (e:=9) (sz:=1) [Ac [97],Ac [98],Ac [99],Ac [120]] o rfl u rfl rfl rfl (λw=>by kernel_rfl) λb258 w a u o=>?_
 have K7:Rows (α:=Str) H246 [Ac [97],Ac [98],Ac [99],Ac [120]] ([[97],[98],[99],[120]]:List Str):=(.cons (c:=[Ac [97]]) rfl (.cons (c:=[Ac [98]]) rfl (.cons (c:=[Ac [99]]) rfl (.cons (c:=[Ac [120]]) rfl .nil))))
 refine ls<|gy o rfl rfl<|cr o call21 (Le (Ai _) (St.capO u t1) (St.srO u t1 W2) (St.capO u t0) (St.srO u t0 K7) C9) u λu o=>qv o (Ad o rfl rfl) λo=>qv o (An (Ab o rfl) (congrArg Value.bool K2)) λo=>qg o (Ar o isAgg27 sizeOf27 rfl rfl (u.ld.cellsB t2)) λo=>ls<|gy o rfl rfl<|cr o call23 (Kd (Ai _) (Enc.mono (St.up u) (show Enc.rep (α:=api_Prog) H246 [SL Y1 K0.Lines S0,SL n0 K0.Vols T0,SL p0 K0.Locks U0,SL u0 K0.Threads V0,SL B1 K0.Recover W0,SL C1 K0.Claims X0] K0 from ⟨_,_,rfl,⟨_,_,rfl,E1,(F1.mono (cp (cp (cp (cp (cp (cp G0.sub F0.sub) E0.sub) D0.sub) C0.sub) J0.sub) I0.sub))⟩,⟨_,_,rfl,⟨_,_,rfl,G1,(I1.mono (cp (cp (cp (cp (cp (cp G0.sub F0.sub) E0.sub) D0.sub) C0.sub) J0.sub) I0.sub))⟩,⟨_,_,rfl,⟨_,_,rfl,J1,(M1.mono (cp (cp (cp (cp (cp (cp G0.sub F0.sub) E0.sub) D0.sub) C0.sub) J0.sub) I0.sub))⟩,⟨_,_,rfl,⟨_,_,rfl,O1,(P1.mono (cp (cp (cp (cp (cp (cp G0.sub F0.sub) E0.sub) D0.sub) C0.sub) J0.sub) I0.sub))⟩,⟨_,_,rfl,⟨_,_,rfl,Q1,(R1.mono (cp (cp (cp (cp (cp (cp G0.sub F0.sub) E0.sub) D0.sub) C0.sub) J0.sub) I0.sub))⟩,⟨_,_,rfl,S1,(T1.mono (cp (cp (cp (cp (cp (cp G0.sub F0.sub) E0.sub) D0.sub) C0.sub) J0.sub) I0.sub))⟩⟩⟩⟩⟩⟩)) D9) u λu o=>qg o (Am o rfl rfl) λo=>qv o (Ad o rfl rfl) λo=>qv o (An (Ab o rfl) (congrArg Value.bool M2)) λo=>qg o (Ar o isAgg27 sizeOf27 rfl rfl (u.ld.cellsB t2)) λo=>ls<|gy o rfl rfl<|cr o call25 (Jl (Ai _) (Enc.mono (St.up u) (show Enc.rep (α:=api_Prog) H246 [SL Y1 K0.Lines S0,SL n0 K0.Vols T0,SL p0 K0.Locks U0,SL u0 K0.Threads V0,SL B1 K0.Recover W0,SL C1 K0.Claims X0] K0 from ⟨_,_,rfl,⟨_,_,rfl,E1,(F1.mono (cp (cp (cp (cp (cp (cp G0.sub F0.sub) E0.sub) D0.sub) C0.sub) J0.sub) I0.sub))⟩,⟨_,_,rfl,⟨_,_,rfl,G1,(I1.mono (cp (cp (cp (cp (cp (cp G0.sub F0.sub) E0.sub) D0.sub) C0.sub) J0.sub) I0.sub))⟩,⟨_,_,rfl,⟨_,_,rfl,J1,(M1.mono (cp (cp (cp (cp (cp (cp G0.sub F0.sub) E0.sub) D0.sub) C0.sub) J0.sub) I0.sub))⟩,⟨_,_,rfl,⟨_,_,rfl,O1,(P1.mono (cp (cp (cp (cp (cp (cp G0.sub F0.sub) E0.sub) D0.sub) C0.sub) J0.sub) I0.sub))⟩,⟨_,_,rfl,⟨_,_,rfl,Q1,(R1.mono (cp (cp (cp (cp (cp (cp G0.sub F0.sub) E0.sub) D0.sub) C0.sub) J0.sub) I0.sub))⟩,⟨_,_,rfl,S1,(T1.mono (cp (cp (cp (cp (cp (cp G0.sub F0.sub) E0.sub) D0.sub) C0.sub) J0.sub) I0.sub))⟩⟩⟩⟩⟩⟩)) E9) u λu o=>qg o (Am o rfl rfl) λo=>qv o (Ad o rfl rfl) λo=>qv o (An (Ab o rfl) (congrArg Value.bool O2)) λo=>qg o (Ar o isAgg27 sizeOf27 rfl rfl (u.ld.cellsB t2)) λo=>ls<|gy o rfl rfl<|cr o call25 (Jl (Ai _) (Enc.mono (St.up u) (show Enc.rep (α:=api_Prog) H246 [SL Y1 K0.Lines S0,SL n0 K0.Vols T0,SL p0 K0.Locks U0,SL u0 K0.Threads V0,SL B1 K0.Recover W0,SL C1 K0.Claims X0] K0 from ⟨_,_,rfl,⟨_,_,rfl,E1,(F1.mono (cp (cp (cp (cp (cp (cp G0.sub F0.sub) E0.sub) D0.sub) C0.sub) J0.sub) I0.sub))⟩,⟨_,_,rfl,⟨_,_,rfl,G1,(I1.mono (cp (cp (cp (cp (cp (cp G0.sub F0.sub) E0.sub) D0.sub) C0.sub) J0.sub) I0.sub))⟩,⟨_,_,rfl,⟨_,_,rfl,J1,(M1.mono (cp (cp (cp (cp (cp (cp G0.sub F0.sub) E0.sub) D0.sub) C0.sub) J0.sub) I0.sub))⟩,⟨_,_,rfl,⟨_,_,rfl,O1,(P1.mono (cp (cp (cp (cp (cp (cp G0.sub F0.sub) E0.sub) D0.sub) C0.sub) J0.sub) I0.sub))⟩,⟨_,_,rfl,⟨_,_,rfl,Q1,(R1.mono (cp (cp (cp (cp (cp (cp G0.sub F0.sub) E0.sub) D0.sub) C0.sub) J0.sub) I0.sub))⟩,⟨_,_,rfl,S1,(T1.mono (cp (cp (cp (cp (cp (cp G0.sub F0.sub) E0.sub) D0.sub) C0.sub) J0.sub) I0.sub))⟩⟩⟩⟩⟩⟩)) F9) u λu o=>qg o (Am o rfl rfl) λo=>qv o (Ad o rfl rfl) λo=>qv o (An (Ab o rfl) (congrArg Value.bool P2)) λo=>qg o (Ar o isAgg27 sizeOf27 rfl rfl (u.ld.cellsB t2)) λo=>ls<|gy o rfl rfl<|cr o call25 (Jl (Ai _) (Enc.mono (St.up u) (show Enc.rep (α:=api_Prog) H246 [SL Y1 K0.Lines S0,SL n0 K0.Vols T0,SL p0 K0.Locks U0,SL u0 K0.Threads V0,SL B1 K0.Recover W0,SL C1 K0.Claims X0] K0 from ⟨_,_,rfl,⟨_,_,rfl,E1,(F1.mono (cp (cp (cp (cp (cp (cp G0.sub F0.sub) E0.sub) D0.sub) C0.sub) J0.sub) I0.sub))⟩,⟨_,_,rfl,⟨_,_,rfl,G1,(I1.mono (cp (cp (cp (cp (cp (cp G0.sub F0.sub) E0.sub) D0.sub) C0.sub) J0.sub) I0.sub))⟩,⟨_,_,rfl,⟨_,_,rfl,J1,(M1.mono (cp (cp (cp (cp (cp (cp G0.sub F0.sub) E0.sub) D0.sub) C0.sub) J0.sub) I0.sub))⟩,⟨_,_,rfl,⟨_,_,rfl,O1,(P1.mono (cp (cp (cp (cp (cp (cp G0.sub F0.sub) E0.sub) D0.sub) C0.sub) J0.sub) I0.sub))⟩,⟨_,_,rfl,⟨_,_,rfl,Q1,(R1.mono (cp (cp (cp (cp (cp (cp G0.sub F0.sub) E0.sub) D0.sub) C0.sub) J0.sub) I0.sub))⟩,⟨_,_,rfl,S1,(T1.mono (cp (cp (cp (cp (cp (cp G0.sub F0.sub) E0.sub) D0.sub) C0.sub) J0.sub) I0.sub))⟩⟩⟩⟩⟩⟩)) G9) u λu o=>qg o (Am o rfl rfl) λo=>qv o (Ad o rfl rfl) λo=>qv o (An (Ab o rfl) (congrArg Value.bool Q2)) λo=>qg o (Ar o isAgg27 sizeOf27 rfl rfl (u.ld.cellsB t2)) λo=>ls<|gy o rfl rfl<|cr o call25 (Jl (Ai _) (Enc.mono (St.up u) (show Enc.rep (α:=api_Prog) H246 [SL Y1 K0.Lines S0,SL n0 K0.Vols T0,SL p0 K0.Locks U0,SL u0 K0.Threads V0,SL B1 K0.Recover W0,SL C1 K0.Claims X0] K0 from ⟨_,_,rfl,⟨_,_,rfl,E1,(F1.mono (cp (cp (cp (cp (cp (cp G0.sub F0.sub) E0.sub) D0.sub) C0.sub) J0.sub) I0.sub))⟩,⟨_,_,rfl,⟨_,_,rfl,G1,(I1.mono (cp (cp (cp (cp (cp (cp G0.sub F0.sub) E0.sub) D0.sub) C0.sub) J0.sub) I0.sub))⟩,⟨_,_,rfl,⟨_,_,rfl,J1,(M1.mono (cp (cp (cp (cp (cp (cp G0.sub F0.sub) E0.sub) D0.sub) C0.sub) J0.sub) I0.sub))⟩,⟨_,_,rfl,⟨_,_,rfl,O1,(P1.mono (cp (cp (cp (cp (cp (cp G0.sub F0.sub) E0.sub) D0.sub) C0.sub) J0.sub) I0.sub))⟩,⟨_,_,rfl,⟨_,_,rfl,Q1,(R1.mono (cp (cp (cp (cp (cp (cp G0.sub F0.sub) E0.sub) D0.sub) C0.sub) J0.sub) I0.sub))⟩,⟨_,_,rfl,S1,(T1.mono (cp (cp (cp (cp (cp (cp G0.sub F0.sub) E0.sub) D0.sub) C0.sub) J0.sub) I0.sub))⟩⟩⟩⟩⟩⟩)) I9) u λu o=>qg o (Am o rfl rfl) λo=>qv o (Ad o rfl rfl) λo=>qv o (An (Ab o rfl) (congrArg Value.bool R2)) λo=>qg o (Ar o isAgg27 sizeOf27 rfl rfl (u.ld.cellsB t2)) λo=>ls<|gy o rfl rfl<|c1 o rfl call27 (Xq (Ai _) (Enc.mono (St.up u) (show Enc.rep (α:=api_Prog) H246 [SL Y1 K0.Lines S0,SL n0 K0.Vols T0,SL p0 K0.Locks U0,SL u0 K0.Threads V0,SL B1 K0.Recover W0,SL C1 K0.Claims X0] K0 from ⟨_,_,rfl,⟨_,_,rfl,E1,(F1.mono (cp (cp (cp (cp (cp (cp G0.sub F0.sub) E0.sub) D0.sub) C0.sub) J0.sub) I0.sub))⟩,⟨_,_,rfl,⟨_,_,rfl,G1,(I1.mono (cp (cp (cp (cp (cp (cp G0.sub F0.sub) E0.sub) D0.sub) C0.sub) J0.sub) I0.sub))⟩,⟨_,_,rfl,⟨_,_,rfl,J1,(M1.mono (cp (cp (cp (cp (cp (cp G0.sub F0.sub) E0.sub) D0.sub) C0.sub) J0.sub) I0.sub))⟩,⟨_,_,rfl,⟨_,_,rfl,O1,(P1.mono (cp (cp (cp (cp (cp (cp G0.sub F0.sub) E0.sub) D0.sub) C0.sub) J0.sub) I0.sub))⟩,⟨_,_,rfl,⟨_,_,rfl,Q1,(R1.mono (cp (cp (cp (cp (cp (cp G0.sub F0.sub) E0.sub) D0.sub) C0.sub) J0.sub) I0.sub))⟩,⟨_,_,rfl,S1,(T1.mono (cp (cp (cp (cp (cp (cp G0.sub F0.sub) E0.sub) D0.sub) C0.sub) J0.sub) I0.sub))⟩⟩⟩⟩⟩⟩)) J9) ⟨rfl,trivial⟩ (λv w a hR o=>?_)
 obtain ⟨n9,d9,o9,rfl,X2,hk⟩:=hR
 replace u:=u.fresh hk
 replace X2:=X2 H246
 refine ls<|gy o rfl rfl<|Bh (e:=9) (sz:=1) [Ac [109]] o rfl u rfl rfl rfl (λw=>by kernel_rfl) λb286 w a u o=>?_
 have L7:Rows (α:=Str) H246 [Ac [109]] ([[109]]:List Str):=(.cons (c:=[Ac [109]]) rfl .nil)
 refine ls<|gy o rfl rfl<|cr o call21 (Le (Ai _) (St.capO u t1) (St.srO u t1 X2) (St.capO u t0) (St.srO u t0 L7) K9) u λu o=>qv o (Ad o rfl rfl) λo=>qv o (An (Ab o rfl) (congrArg Value.bool T2)) λo=>qg o (Ar o isAgg27 sizeOf27 rfl rfl (u.ld.cellsB t4)) λo=>ls<|gy o rfl rfl<|c1 o rfl call30 (Ja0 (Ai _) (Enc.mono (St.up u) (show Enc.rep (α:=api_Prog) H246 [SL Y1 K0.Lines S0,SL n0 K0.Vols T0,SL p0 K0.Locks U0,SL u0 K0.Threads V0,SL B1 K0.Recover W0,SL C1 K0.Claims X0] K0 from ⟨_,_,rfl,⟨_,_,rfl,E1,(F1.mono (cp (cp (cp (cp (cp (cp G0.sub F0.sub) E0.sub) D0.sub) C0.sub) J0.sub) I0.sub))⟩,⟨_,_,rfl,⟨_,_,rfl,G1,(I1.mono (cp (cp (cp (cp (cp (cp G0.sub F0.sub) E0.sub) D0.sub) C0.sub) J0.sub) I0.sub))⟩,⟨_,_,rfl,⟨_,_,rfl,J1,(M1.mono (cp (cp (cp (cp (cp (cp G0.sub F0.sub) E0.sub) D0.sub) C0.sub) J0.sub) I0.sub))⟩,⟨_,_,rfl,⟨_,_,rfl,O1,(P1.mono (cp (cp (cp (cp (cp (cp G0.sub F0.sub) E0.sub) D0.sub) C0.sub) J0.sub) I0.sub))⟩,⟨_,_,rfl,⟨_,_,rfl,Q1,(R1.mono (cp (cp (cp (cp (cp (cp G0.sub F0.sub) E0.sub) D0.sub) C0.sub) J0.sub) I0.sub))⟩,⟨_,_,rfl,S1,(T1.mono (cp (cp (cp (cp (cp (cp G0.sub F0.sub) E0.sub) D0.sub) C0.sub) J0.sub) I0.sub))⟩⟩⟩⟩⟩⟩)) L9) ⟨rfl,trivial⟩ (λv w a hR o=>?_)
 obtain ⟨p9,e9,u9,rfl,Y2,hk⟩:=hR
 replace u:=u.fresh hk
 replace Y2:=Y2 H246
 refine ls<|gy o rfl rfl<|Bh (e:=3) (sz:=1) [i6 1,i6 0,i6 0,i6 7] o rfl u rfl rfl rfl (λw=>by kernel_rfl) λb299 w a u o=>?_
 have M7:Rows (α:=Int) H246 [i6 1,i6 0,i6 0,i6 7] ([1,0,0,7]:List Int):=(.cons (c:=[i6 1]) rfl (.cons (c:=[i6 0]) rfl (.cons (c:=[i6 0]) rfl (.cons (c:=[i6 7]) rfl .nil))))
 refine ls<|gy o rfl rfl<|cr o call29 (Jar (Ai _) (St.capO u t1) (St.srO u t1 Y2) (St.capO u t0) (St.srO u t0 M7) M9) u λu o=>qv o (Ad o rfl rfl) λo=>qv o (An (Ab o rfl) (congrArg Value.bool U2)) λo=>qg o (Ar o isAgg27 sizeOf27 rfl rfl (u.ld.cellsB t6)) λo=>ls<|gy o rfl rfl<|c1 o rfl call20 (Di (Ai _) (Enc.mono (St.up u) (show Enc.rep (α:=api_Prog) H246 [SL Y1 K0.Lines S0,SL n0 K0.Vols T0,SL p0 K0.Locks U0,SL u0 K0.Threads V0,SL B1 K0.Recover W0,SL C1 K0.Claims X0] K0 from ⟨_,_,rfl,⟨_,_,rfl,E1,(F1.mono (cp (cp (cp (cp (cp (cp G0.sub F0.sub) E0.sub) D0.sub) C0.sub) J0.sub) I0.sub))⟩,⟨_,_,rfl,⟨_,_,rfl,G1,(I1.mono (cp (cp (cp (cp (cp (cp G0.sub F0.sub) E0.sub) D0.sub) C0.sub) J0.sub) I0.sub))⟩,⟨_,_,rfl,⟨_,_,rfl,J1,(M1.mono (cp (cp (cp (cp (cp (cp G0.sub F0.sub) E0.sub) D0.sub) C0.sub) J0.sub) I0.sub))⟩,⟨_,_,rfl,⟨_,_,rfl,O1,(P1.mono (cp (cp (cp (cp (cp (cp G0.sub F0.sub) E0.sub) D0.sub) C0.sub) J0.sub) I0.sub))⟩,⟨_,_,rfl,⟨_,_,rfl,Q1,(R1.mono (cp (cp (cp (cp (cp (cp G0.sub F0.sub) E0.sub) D0.sub) C0.sub) J0.sub) I0.sub))⟩,⟨_,_,rfl,S1,(T1.mono (cp (cp (cp (cp (cp (cp G0.sub F0.sub) E0.sub) D0.sub) C0.sub) J0.sub) I0.sub))⟩⟩⟩⟩⟩⟩)) O9) ⟨rfl,trivial⟩ (λv w a hR o=>?_)
 obtain ⟨y9,j9,vs308,rfl,A3,hk⟩:=hR
 replace u:=u.fresh hk
 replace A3:=A3 H246
 refine ls<|gy o rfl rfl<|cr o call32 (Gl (Ai _) (St.capO u t0) (St.srO u t0 A3) P9) u λu o=>qg o (Am o rfl rfl) λo=>qv o (Ad o rfl rfl) λo=>qv o (An (Ab o rfl) (congrArg Value.bool V2)) λo=>ls<|gy o rfl rfl<|cr o call32 (Gl (Ai _) (Nat.le_refl _) (SR.nil _ none) Q9) u λu o=>qg o (Am o rfl rfl) λo=>qv o (Ad o rfl rfl) λo=>qa o rfl λo=>re<|tn<|wr<|?_
 obtain rfl:=si hm
 exact r1 o results18 rfl ⟨rfl,u.keep⟩
set_option maxHeartbeats 4000000 in
theorem JaZ (hH:H.le w0) (hT:Tab H) {cs2:List Value} {p1:api_Prog} (g3:Enc.rep H cs2 p1) {r:Bool} (hm:Z12 N p1=some r):Tot Tryz.prog 8 #[.agg cs2.toArray] w0 (λv w'=>v=.bool r∧Keep Nil w0 w'):=by
 unfold Z12 at hm
 refine fn0 func8 rfl ntmps8 rfl rfl λa o=>?_
 have u:St w0 Nil [H] [] w0:=start1 hH
 obtain ⟨T5,l4,U5,A5,B5,W4,C5,X4,D5,Y4,E5,d4,rfl,Y6,d6,X5,Y5,d5,j5,k5,n5,u5,A6,B6,C6⟩:=Av g3
 refine th<|rg<|ls<|Bz (cs:=[SL T5 p1.Lines l4,SL U5 p1.Vols A5,SL B5 p1.Locks W4,SL C5 p1.Threads X4,SL D5 p1.Recover Y4,SL E5 p1.Claims d4].toArray) o rfl u rfl rfl λY1 w a u o=>qa o rfl λo=>re<|tn<|th<|?_
 obtain ⟨E0,j6,hm⟩:=bs hm
 refine rg<|qv o (Ar o Tryz.isAgg27 Tryz.sizeOf27 rfl rfl (u.ld.cellsB t0)) λo=>ls<|c1 o rfl call15 (JbB (St.le u) (show Enc.rep (α:=api_Prog) H [SL T5 p1.Lines l4,SL U5 p1.Vols A5,SL B5 p1.Locks W4,SL C5 p1.Threads X4,SL D5 p1.Recover Y4,SL E5 p1.Claims d4] p1 from ⟨_,_,rfl,⟨_,_,rfl,Y6,d6⟩,⟨_,_,rfl,⟨_,_,rfl,X5,Y5⟩,⟨_,_,rfl,⟨_,_,rfl,d5,j5⟩,⟨_,_,rfl,⟨_,_,rfl,k5,n5⟩,⟨_,_,rfl,⟨_,_,rfl,u5,A6⟩,⟨_,_,rfl,B6,C6⟩⟩⟩⟩⟩⟩) j6) ⟨rfl,trivial⟩ (λv w a hR o=>?_)
 obtain ⟨H34,cs35,rfl,k6,K2,D6,hk⟩:=hR
 obtain ⟨u,K2⟩:=And.intro (St.passH u hk K2 D6) (St.extc u K2)
 obtain ⟨S0,K0,P1,J1,T0,M0,U0,O0,V0,P0,W0,Q0,rfl,n0,p0,X1,V1,u0,B1,C1,Y0,E1,j0,F1,G1⟩:=Av k6
 refine ls<|Aw o u sizeOf27 rfl rfl rfl rfl (Ak rfl) .head λw u=>re<|tn<|th<|?_
 obtain ⟨R8,n6,hm⟩:=bs hm
 refine rg<|qv o (Ar o Tryz.isAgg27 Tryz.sizeOf27 rfl rfl (u.ld.cellsB t0)) λo=>ls<|cr o call16 (Hk (Ai _) (Tab.mono (Tab.mono hT K2.sub) (St.up u)) (Enc.mono (St.up u) (show Enc.rep (α:=api_Prog) H34 [SL S0 E0.Lines K0,SL P1 E0.Vols J1,SL T0 E0.Locks M0,SL U0 E0.Threads O0,SL V0 E0.Recover P0,SL W0 E0.Claims Q0] E0 from ⟨_,_,rfl,⟨_,_,rfl,n0,p0⟩,⟨_,_,rfl,⟨_,_,rfl,X1,V1⟩,⟨_,_,rfl,⟨_,_,rfl,u0,B1⟩,⟨_,_,rfl,⟨_,_,rfl,C1,Y0⟩,⟨_,_,rfl,⟨_,_,rfl,E1,j0⟩,⟨_,_,rfl,F1,G1⟩⟩⟩⟩⟩⟩)) n6) u λu o=>qm o rfl λo=>?_
 iterate 2 refine qv o (Bv o rfl rfl) λo=>?_
 iterate 2 refine qa o rfl λo=>?_
 refine re<|tn<|th<|th<|Ay (λa w=>∃ (F5:Bool) (K4:PH),(Z13 N E0) F5=some r∧Ext w0 H34 K4∧Fr 165 [(1,PT Y1),(32,.bool F5)] a∧St w0 Nil [K4] [bk Y1 [SL S0 E0.Lines K0,SL P1 E0.Vols J1,SL T0 E0.Locks M0,SL U0 E0.Threads O0,SL V0 E0.Recover P0,SL W0 E0.Claims Q0] 27] w) ?_ ?_
 rcases bip hm with ⟨Q3,hm⟩ | ⟨Q3,hm⟩
 refine rg<|qm o rfl λo=>qv o (Bu o rfl rfl) λo=>qv o (An (Ab o rfl) (congrArg Value.bool Q3)) λo=>?_
 iterate 4 refine qn o λo=>?_
 refine qv o (Ad o rfl rfl) λo=>qm o rfl λo=>?_
 iterate 4 refine qn o λo=>?_
 refine qv o (Ad o rfl rfl) λo=>re<|tn<|?_
 exact ⟨true,H34,hm,(Ext.refl _ _),o.has ⟨rfl,rfl,trivial⟩,u⟩
 obtain ⟨S8,V5,hm⟩:=bs hm
 obtain ⟨T8,W5,hm⟩:=bs hm
 rcases bip hm with ⟨O4,hm⟩ | ⟨O4,hm⟩
 refine rg<|qm o rfl λo=>qv o (Bu o rfl rfl) λo=>qv o (An (Ab o rfl) (congrArg Value.bool Q3)) λo=>qg o (Ar o isAgg27 sizeOf27 rfl rfl (u.ld.cellsB t0)) λo=>ls<|gy o rfl rfl<|c1 o rfl call20 (Di (Ai _) (Enc.mono (St.up u) (show Enc.rep (α:=api_Prog) H34 [SL S0 E0.Lines K0,SL P1 E0.Vols J1,SL T0 E0.Locks M0,SL U0 E0.Threads O0,SL V0 E0.Recover P0,SL W0 E0.Claims Q0] E0 from ⟨_,_,rfl,⟨_,_,rfl,n0,p0⟩,⟨_,_,rfl,⟨_,_,rfl,X1,V1⟩,⟨_,_,rfl,⟨_,_,rfl,u0,B1⟩,⟨_,_,rfl,⟨_,_,rfl,C1,Y0⟩,⟨_,_,rfl,⟨_,_,rfl,E1,j0⟩,⟨_,_,rfl,F1,G1⟩⟩⟩⟩⟩⟩)) V5) ⟨rfl,trivial⟩ (λv w a hR o=>?_)
 obtain ⟨E6,K5,F6,rfl,U2,hk⟩:=hR
 replace u:=u.fresh hk
 replace U2:=U2 H34
 obtain ⟨H73,O2,P4,Q4,u⟩:=St.frzS u .head U2
 refine ls<|gy o rfl rfl<|cr o call32 (Gl (Ai _) Q4 (St.srH u P4) W5) u λu o=>qg o (Bm o rfl rfl) λo=>qv o (Ae o rfl rfl) λo=>qv o (An (Ab o rfl) (congrArg Value.bool O4)) λo=>?_
 iterate 4 refine qn o λo=>?_
 refine qv o (Ad o rfl rfl) λo=>re<|tn<|?_
 exact ⟨true,H73,hm,O2,o.has ⟨rfl,rfl,trivial⟩,u⟩
 obtain ⟨U8,u6,hm⟩:=bs hm
 obtain ⟨v6,y6,hm⟩:=bs hm
 refine rg<|qm o rfl λo=>qv o (Bu o rfl rfl) λo=>qv o (An (Ab o rfl) (congrArg Value.bool Q3)) λo=>qg o (Ar o isAgg27 sizeOf27 rfl rfl (u.ld.cellsB t0)) λo=>ls<|gy o rfl rfl<|c1 o rfl call20 (Di (Ai _) (Enc.mono (St.up u) (show Enc.rep (α:=api_Prog) H34 [SL S0 E0.Lines K0,SL P1 E0.Vols J1,SL T0 E0.Locks M0,SL U0 E0.Threads O0,SL V0 E0.Recover P0,SL W0 E0.Claims Q0] E0 from ⟨_,_,rfl,⟨_,_,rfl,n0,p0⟩,⟨_,_,rfl,⟨_,_,rfl,X1,V1⟩,⟨_,_,rfl,⟨_,_,rfl,u0,B1⟩,⟨_,_,rfl,⟨_,_,rfl,C1,Y0⟩,⟨_,_,rfl,⟨_,_,rfl,E1,j0⟩,⟨_,_,rfl,F1,G1⟩⟩⟩⟩⟩⟩)) V5) ⟨rfl,trivial⟩ (λv w a hR o=>?_)
 obtain ⟨E6,K5,F6,rfl,U2,hk⟩:=hR
 replace u:=u.fresh hk
 replace U2:=U2 H34
 obtain ⟨H73,O2,P4,Q4,u⟩:=St.frzS u .head U2
 refine ls<|gy o rfl rfl<|cr o call32 (Gl (Ai _) Q4 (St.srH u P4) W5) u λu o=>qg o (Bm o rfl rfl) λo=>qv o (Ae o rfl rfl) λo=>qv o (An (Ab o rfl) (congrArg Value.bool O4)) λo=>qg o (Ar o isAgg27 sizeOf27 rfl rfl (u.ld.cellsB t0)) λo=>ls<|gy o rfl rfl<|c1 o rfl call27 (Xq (Ai _) (Enc.mono (St.up u) (show Enc.rep (α:=api_Prog) H73 [SL S0 E0.Lines K0,SL P1 E0.Vols J1,SL T0 E0.Locks M0,SL U0 E0.Threads O0,SL V0 E0.Recover P0,SL W0 E0.Claims Q0] E0 from ⟨_,_,rfl,⟨_,_,rfl,n0,(p0.mono O2.sub)⟩,⟨_,_,rfl,⟨_,_,rfl,X1,(V1.mono O2.sub)⟩,⟨_,_,rfl,⟨_,_,rfl,u0,(B1.mono O2.sub)⟩,⟨_,_,rfl,⟨_,_,rfl,C1,(Y0.mono O2.sub)⟩,⟨_,_,rfl,⟨_,_,rfl,E1,(j0.mono O2.sub)⟩,⟨_,_,rfl,F1,(G1.mono O2.sub)⟩⟩⟩⟩⟩⟩)) u6) ⟨rfl,trivial⟩ (λv w a hR o=>?_)
 obtain ⟨Y7,I7,d7,rfl,R4,hk⟩:=hR
 replace u:=u.fresh hk
 replace R4:=R4 H73
 refine ls<|gy o rfl rfl<|cr o call32 (Gl (Ai _) (St.capO u t0) (St.srO u t0 R4) y6) u λu o=>qg o (Bm o rfl rfl) λo=>qv o (Ae o rfl rfl) λo=>re<|tn<|?_
 replace u:=u.pk [1] rfl
 exact ⟨(decide (0≤v6)),H73,hm,O2,o.has ⟨rfl,rfl,trivial⟩,u⟩
 rintro a w ⟨F5,K4,hm,G0,o,u⟩
 unfold Z13 at hm
 rcases bit hm with ⟨S4,hm⟩ | ⟨S4,hm⟩
 refine ctv o rfl S4<|th<|?_
 obtain ⟨V8,z6,hm⟩:=bs hm
 refine rg<|ls<|c1 o rfl Tryz.call18 (Ow (Ai _) (Tab.mono (Tab.mono hT (cp G0.sub K2.sub)) (St.up u)) z6) trivial (λv w a hR o=>?_)
 obtain ⟨rfl,hk⟩:=hR
 replace u:=u.pass hk
 refine qa o rfl λo=>re<|tn<|wr<|tr<|?_
 obtain rfl:=si hm
 exact r1 o results8 rfl ⟨rfl,u.keep⟩
 refine cfv o rfl S4<|wk<|tn<|th<|rg<|qv o (Ar o Tryz.isAgg27 Tryz.sizeOf27 rfl rfl (u.ld.cellsB t0)) λo=>ls<|Ap (cs:=[.slice none 0 0,.slice none 0 0,.slice none 0 0,.slice none 0 0,.slice none 0 0,.slice none 0 0].toArray) o rfl u zeroValue27 rfl λJ2 w a u o=>ls<|Aw o u sizeOf27 rfl rfl rfl rfl (Ak rfl) .head λw u=>re<|tn<|th<|?_
 obtain ⟨A7,B7,hm⟩:=bs hm
 refine rg<|ls<|Bh (e:=53) (sz:=3) [] o rfl u rfl rfl rfl (λw=>by kernel_rfl) λW8 w a u o=>?_
 have G6:Rows (α:=api_Cell) K4 [] []:=.nil
 refine qv o (Ag o Df rfl) λo=>qv o (Ah o isAgg23 rfl (u.ld.cellB t2 rfl)) λo=>?_
 obtain ⟨us99,hd100,hu101⟩:=id (V1.mono G0.sub)
 refine ls<|Cc (α:=api_Cell) (xs:=[]) (ys:=E0.Vols) o rfl u underlying23 Jc rfl (by decide) rfl rfl rfl t0 G6 (u.rdH t0 hd100) hu101 B7 λj7 J7 k7 w a I6 hU o=>?_
 replace u:=hU _ .head
 refine qv o (Ag o Df rfl) λo=>ls<|As o u sizeOf23 rfl rfl rfl rfl (.tail .head) (.succ .zero) λw u=>re<|tn<|th<|?_
 obtain ⟨R0,J6,hm⟩:=bs hm
 refine rg<|qv o (Ag o Df rfl) λo=>qv o (Ah o isAgg23 rfl (u.ld.cellB t1 rfl)) λo=>qv o (Bi [Ac [122,122,122],i6 9] [Ac [122,122,122],i6 9,i6 0] o ⟨rfl,rfl,trivial⟩ (λw=>by kernel_rfl)) λo=>ls<|Bh (e:=53) (sz:=3) [Ac [122,122,122],i6 9,i6 0] o rfl u rfl rfl rfl (λw=>by kernel_rfl) λn7 w a u o=>?_
 have L5:Rows (α:=api_Cell) K4 [Ac [122,122,122],i6 9,i6 0] ([(api_Cell.mk [122,122,122] 9 0)]:List api_Cell):=(.cons (c:=[Ac [122,122,122],i6 9,i6 0]) ⟨_,_,rfl,rfl,⟨_,_,rfl,rfl,rfl⟩⟩ .nil)
 refine ls<|Cc (α:=api_Cell) (xs:=A7) (ys:=([(api_Cell.mk [122,122,122] 9 0)]:List api_Cell)) o rfl u underlying23 Jc rfl (by decide) rfl rfl rfl t1 I6 (u.rdO t0) L5 J6 λI1 X0 K7 w a M5 hU o=>?_
 replace u:=hU _ (.tail .head)
 replace u:=u.drop .head
 refine qv o (Ag o Df rfl) λo=>ls<|As o u sizeOf23 rfl rfl rfl rfl (.tail .head) (.succ .zero) λw u=>re<|tn<|th<|?_
 obtain ⟨T1,K6,hm⟩:=bs hm
 refine rg<|qv o (Ar o Tryz.isAgg27 Tryz.sizeOf27 rfl rfl (u.ld.cellsB t1)) λo=>?_
 obtain ⟨H114,I0,Q1,R1,u⟩:=St.frzS u .head M5
 refine ls<|cr o call16 (Hk (Ai _) (Tab.mono (Tab.mono hT (cp (cp I0.sub G0.sub) K2.sub)) (St.up u)) (Enc.mono (St.up u) (show Enc.rep (α:=api_Prog) H114 [SL S0 E0.Lines K0,SL I1 R0 X0,SL T0 E0.Locks M0,SL U0 E0.Threads O0,SL V0 E0.Recover P0,SL W0 E0.Claims Q0] (api_Prog.mk E0.Lines R0 E0.Locks E0.Threads E0.Recover E0.Claims) from ⟨_,_,rfl,⟨_,_,rfl,n0,(p0.mono (cp I0.sub G0.sub))⟩,⟨_,_,rfl,⟨_,_,rfl,R1,Q1⟩,⟨_,_,rfl,⟨_,_,rfl,u0,(B1.mono (cp I0.sub G0.sub))⟩,⟨_,_,rfl,⟨_,_,rfl,C1,(Y0.mono (cp I0.sub G0.sub))⟩,⟨_,_,rfl,⟨_,_,rfl,E1,(j0.mono (cp I0.sub G0.sub))⟩,⟨_,_,rfl,F1,(G1.mono (cp I0.sub G0.sub))⟩⟩⟩⟩⟩⟩)) K6) u λu o=>qm o rfl λo=>?_
 iterate 2 refine qv o (Bv o rfl rfl) λo=>?_
 iterate 2 refine qa o rfl λo=>?_
 refine re<|tn<|th<|th<|rg<|qa o rfl λo=>re<|tn<|Ay (λa w=>(Z14 N E0 R0 T1)=some r∧Fr 165 [(1,PT Y1),(5,PT J2),(6,i6 T1.1)] a∧St w0 Nil [H114] [bk Y1 [SL S0 E0.Lines K0,SL P1 E0.Vols J1,SL T0 E0.Locks M0,SL U0 E0.Threads O0,SL V0 E0.Recover P0,SL W0 E0.Claims Q0] 27,bk J2 [SL S0 E0.Lines K0,SL I1 R0 X0,SL T0 E0.Locks M0,SL U0 E0.Threads O0,SL V0 E0.Recover P0,SL W0 E0.Claims Q0] 27] w) ?_ ?_
 replace u:=u.pk [1,0] rfl
 refine wb<|lp (α:=Nat×Int) (λgh a w=>match gh with | (O3,P3)=>(Z18 N (Z14 N E0 R0 T1) E0 T1) O3 P3=some r∧Fr 165 [(1,PT Y1),(5,PT J2),(6,i6 T1.1),(8,i6 P3)] a∧St w0 Nil [H114] [bk Y1 [SL S0 E0.Lines K0,SL P1 E0.Vols J1,SL T0 E0.Locks M0,SL U0 E0.Threads O0,SL V0 E0.Recover P0,SL W0 E0.Claims Q0] 27,bk J2 [SL S0 E0.Lines K0,SL I1 R0 X0,SL T0 E0.Locks M0,SL U0 E0.Threads O0,SL V0 E0.Recover P0,SL W0 E0.Claims Q0] 27] w) (λgh=>gh.1) (N,0) ⟨hm,o.hs,u⟩ ?_
 rintro ⟨O3,P3⟩ a w ⟨hm,o,u⟩
 obtain _ | O3:=O3
 simp [Z18] at hm
 rw [Z18] at hm
 refine th<|th<|rg<|qm o rfl λo=>qv o (Ag o Dr rfl) λo=>qv o (Ah o isAgg24 rfl (u.ld.cellB t0 rfl)) λo=>qv o (Al (α:=api_Thread) (xs:=E0.Threads) o runUnderlying24 rfl) λo=>qv o (Au o rfl rfl) λo=>re<|?_
 rcases bip hm with ⟨R3,hm⟩ | ⟨R3,hm⟩
 refine tn<|ctv o rfl R3<|wk<|tn<|th<|wb<|th<|Ay (λa w=>∃ (G5:Bool),(Z15 N (Z18 N (Z14 N E0 R0 T1) E0 T1 O3) T1 P3) G5=some r∧Fr 165 [(1,PT Y1),(5,PT J2),(6,i6 T1.1),(8,i6 P3),(74,.bool G5)] a∧St w0 Nil [H114] [bk Y1 [SL S0 E0.Lines K0,SL P1 E0.Vols J1,SL T0 E0.Locks M0,SL U0 E0.Threads O0,SL V0 E0.Recover P0,SL W0 E0.Claims Q0] 27,bk J2 [SL S0 E0.Lines K0,SL I1 R0 X0,SL T0 E0.Locks M0,SL U0 E0.Threads O0,SL V0 E0.Recover P0,SL W0 E0.Claims Q0] 27] w) ?_ ?_
 obtain ⟨I5,V2,hm⟩:=bs hm
 obtain ⟨u7,L6,S3⟩:=SR.get Y0 V2
 obtain ⟨L7,C7,M7,D7,rfl,O5,P5,O7,P7⟩:=Az L6
 rcases bip hm with ⟨T3,hm⟩ | ⟨T3,hm⟩
 refine rg<|qv o (Ag o Dr rfl) λo=>qv o (Ah o isAgg24 rfl (u.ld.cellB t0 rfl)) λo=>qm o rfl λo=>qv o (Aq o runUnderlying24 sizeOf48 rfl rfl V2 (SR.oaI Y0 (by decide) V2)) λo=>qv o (Ag o Fo rfl) λo=>qv o (Ah o isAgg9 rfl (PH.le.cell (λb o hx=>(Lds.le u.ld) b o ((cp I0.sub G0.sub) b o hx)) (S3 0 _ rfl))) λo=>qv o (Dh (m:=I5.Name) (n:=[122,122,122]) o rfl rfl) λo=>qv o (An (Ab o rfl) (congrArg Value.bool T3)) λo=>?_
 iterate 8 refine qn o λo=>?_
 refine qv o (Ad o rfl rfl) λo=>re<|tn<|?_
 exact ⟨true,hm,o.hs,u⟩
 obtain ⟨M6,O6,hm⟩:=bs hm
 refine rg<|qv o (Ag o Dr rfl) λo=>qv o (Ah o isAgg24 rfl (u.ld.cellB t0 rfl)) λo=>qm o rfl λo=>qv o (Aq o runUnderlying24 sizeOf48 rfl rfl V2 (SR.oaI Y0 (by decide) V2)) λo=>qv o (Ag o Fo rfl) λo=>qv o (Ah o isAgg9 rfl (PH.le.cell (λb o hx=>(Lds.le u.ld) b o ((cp I0.sub G0.sub) b o hx)) (S3 0 _ rfl))) λo=>qv o (Dh (m:=I5.Name) (n:=[122,122,122]) o rfl rfl) λo=>qv o (An (Ab o rfl) (congrArg Value.bool T3)) λo=>qg o (Ag o Dr rfl) λo=>qg o (Ah o isAgg24 rfl (u.ld.cellB t0 rfl)) λo=>qg o (Ab o rfl) λo=>qg o (Aq o runUnderlying24 sizeOf48 rfl rfl V2 (SR.oaI Y0 (by decide) V2)) λo=>qg o (Ag o Dt rfl) λo=>qg o (Ah o isAgg36 rfl (PH.le.cell (λb o hx=>(Lds.le u.ld) b o ((cp I0.sub G0.sub) b o hx)) (S3 1 _ rfl))) λo=>ls<|gy o rfl rfl<|cr o call32 (Gl (Ai _) O5 (St.srH u (P5.mono (cp I0.sub G0.sub))) O6) u λu o=>qg o (Bm o rfl rfl) λo=>qv o (Ae o rfl rfl) λo=>re<|tn<|?_
 exact ⟨(decide (0≤M6)),hm,o.hs,u⟩
 rintro a w ⟨G5,hm,o,u⟩
 unfold Z15 at hm
 rcases bit hm with ⟨U3,hm⟩ | ⟨U3,hm⟩
 refine ctv o rfl U3<|th<|?_
 rcases bip hm with ⟨V3,hm⟩ | ⟨V3,hm⟩
 obtain ⟨v7,P6,hm⟩:=bs hm
 refine rg<|qm o rfl λo=>qv o (Bu o rfl rfl) λo=>qv o (An (Ab o rfl) (congrArg Value.bool V3)) λo=>ls<|gy o rfl rfl<|c1 o rfl call18 (Ow (Ai _) (Tab.mono (Tab.mono hT (cp (cp I0.sub G0.sub) K2.sub)) (St.up u)) P6) trivial (λv w a hR o=>?_)
 obtain ⟨rfl,hk⟩:=hR
 replace u:=u.pass hk
 refine qv o (Ad o rfl rfl) λo=>qa o rfl λo=>re<|tn<|wr<|br<|tr<|tr<|br<|tr<|?_
 obtain rfl:=si hm
 exact r1 o results8 rfl ⟨rfl,u.keep⟩
 refine rg<|qm o rfl λo=>qv o (Bu o rfl rfl) λo=>qv o (An (Ab o rfl) (congrArg Value.bool V3)) λo=>qn o λo=>qv o (Ae o rfl rfl) λo=>qa o rfl λo=>re<|tn<|wr<|br<|tr<|tr<|br<|tr<|?_
 obtain rfl:=si hm
 exact r1 o results8 rfl ⟨rfl,u.keep⟩
 refine cfv o rfl U3<|wk<|bn<|tn<|rg<|qm o rfl λo=>qv o (Ao o rfl rfl) λo=>qa o rfl λo=>re<|tn<|?_
 exact ⟨(O3,(IntKind.i64.wrap (P3+1))),⟨hm,o.hs,u⟩,Nat.lt_succ_self _⟩
 refine tn<|cfv o rfl R3<|we<|tx<|tx<|bx<|tn<|?_
 exact ⟨hm,o.hs,u⟩
 rintro a w ⟨hm,o,u⟩
 unfold Z14 at hm
 refine th<|th<|rg<|qa o rfl λo=>re<|tn<|Ay (λa w=>(Z16 N E0 R0 T1)=some r∧Fr 165 [(1,PT Y1),(5,PT J2),(6,i6 T1.1)] a∧St w0 Nil [H114] [bk Y1 [SL S0 E0.Lines K0,SL P1 E0.Vols J1,SL T0 E0.Locks M0,SL U0 E0.Threads O0,SL V0 E0.Recover P0,SL W0 E0.Claims Q0] 27,bk J2 [SL S0 E0.Lines K0,SL I1 R0 X0,SL T0 E0.Locks M0,SL U0 E0.Threads O0,SL V0 E0.Recover P0,SL W0 E0.Claims Q0] 27] w) ?_ ?_
 refine wb<|lp (α:=Nat×Int) (λgh a w=>match gh with | (L4,j4)=>(Z19 N (Z16 N E0 R0 T1) E0 T1) L4 j4=some r∧Fr 165 [(1,PT Y1),(5,PT J2),(6,i6 T1.1),(9,i6 j4)] a∧St w0 Nil [H114] [bk Y1 [SL S0 E0.Lines K0,SL P1 E0.Vols J1,SL T0 E0.Locks M0,SL U0 E0.Threads O0,SL V0 E0.Recover P0,SL W0 E0.Claims Q0] 27,bk J2 [SL S0 E0.Lines K0,SL I1 R0 X0,SL T0 E0.Locks M0,SL U0 E0.Threads O0,SL V0 E0.Recover P0,SL W0 E0.Claims Q0] 27] w) (λgh=>gh.1) (N,0) ⟨hm,o.hs,u⟩ ?_
 rintro ⟨L4,j4⟩ a w ⟨hm,o,u⟩
 obtain _ | L4:=L4
 simp [Z19] at hm
 rw [Z19] at hm
 refine th<|th<|rg<|qm o rfl λo=>qv o (Ag o Fl rfl) λo=>qv o (Ah o isAgg24 rfl (u.ld.cellB t0 rfl)) λo=>qv o (Al (α:=api_Thread) (xs:=E0.Recover) o runUnderlying24 rfl) λo=>qv o (Au o rfl rfl) λo=>re<|?_
 rcases bip hm with ⟨W3,hm⟩ | ⟨W3,hm⟩
 refine tn<|ctv o rfl W3<|wk<|tn<|th<|wb<|th<|?_
 obtain ⟨z7,T4,hm⟩:=bs hm
 obtain ⟨A8,Q6,Q5⟩:=SR.get j0 T4
 obtain ⟨Q7,E7,R7,F7,rfl,R5,S5,S7,T7⟩:=Az Q6
 obtain ⟨B8,R6,hm⟩:=bs hm
 refine rg<|qv o (Ag o Fl rfl) λo=>qv o (Ah o isAgg24 rfl (u.ld.cellB t0 rfl)) λo=>qm o rfl λo=>qv o (Aq o runUnderlying24 sizeOf48 rfl rfl T4 (SR.oaI j0 (by decide) T4)) λo=>qv o (Ag o Dt rfl) λo=>qv o (Ah o isAgg36 rfl (PH.le.cell (λb o hx=>(Lds.le u.ld) b o ((cp I0.sub G0.sub) b o hx)) (Q5 1 _ rfl))) λo=>ls<|cr o call32 (Gl (Ai _) R5 (St.srH u (S5.mono (cp I0.sub G0.sub))) R6) u λu o=>qv o (Bm o rfl rfl) λo=>re<|?_
 rcases bip hm with ⟨X3,hm⟩ | ⟨X3,hm⟩
 refine tn<|ctv o rfl X3<|th<|?_
 rcases bip hm with ⟨Y3,hm⟩ | ⟨Y3,hm⟩
 obtain ⟨C8,S6,hm⟩:=bs hm
 refine rg<|qm o rfl λo=>qv o (Bu o rfl rfl) λo=>qv o (An (Ab o rfl) (congrArg Value.bool Y3)) λo=>ls<|gy o rfl rfl<|c1 o rfl call18 (Ow (Ai _) (Tab.mono (Tab.mono hT (cp (cp I0.sub G0.sub) K2.sub)) (St.up u)) S6) trivial (λv w a hR o=>?_)
 obtain ⟨rfl,hk⟩:=hR
 replace u:=u.pass hk
 refine qv o (Ad o rfl rfl) λo=>qa o rfl λo=>re<|tn<|wr<|br<|tr<|tr<|br<|tr<|?_
 obtain rfl:=si hm
 exact r1 o results8 rfl ⟨rfl,u.keep⟩
 refine rg<|qm o rfl λo=>qv o (Bu o rfl rfl) λo=>qv o (An (Ab o rfl) (congrArg Value.bool Y3)) λo=>qn o λo=>qv o (Ae o rfl rfl) λo=>qa o rfl λo=>re<|tn<|wr<|br<|tr<|tr<|br<|tr<|?_
 obtain rfl:=si hm
 exact r1 o results8 rfl ⟨rfl,u.keep⟩
 refine tn<|cfv o rfl X3<|wk<|bn<|tn<|rg<|qm o rfl λo=>qv o (Ao o rfl rfl) λo=>qa o rfl λo=>re<|tn<|?_
 exact ⟨(L4,(IntKind.i64.wrap (j4+1))),⟨hm,o.hs,u⟩,Nat.lt_succ_self _⟩
 refine tn<|cfv o rfl W3<|we<|tx<|tx<|bx<|tn<|?_
 exact ⟨hm,o.hs,u⟩
 rintro a w ⟨hm,o,u⟩
 unfold Z16 at hm
 refine th<|?_
 obtain ⟨I2,T6,hm⟩:=bs hm
 refine rg<|qv o (Ar o Tryz.isAgg27 Tryz.sizeOf27 rfl rfl (u.ld.cellsB t0)) λo=>ls<|c1 o rfl call20 (Di (Ai _) (Enc.mono (St.up u) (show Enc.rep (α:=api_Prog) H114 [SL S0 E0.Lines K0,SL P1 E0.Vols J1,SL T0 E0.Locks M0,SL U0 E0.Threads O0,SL V0 E0.Recover P0,SL W0 E0.Claims Q0] E0 from ⟨_,_,rfl,⟨_,_,rfl,n0,(p0.mono (cp I0.sub G0.sub))⟩,⟨_,_,rfl,⟨_,_,rfl,X1,(V1.mono (cp I0.sub G0.sub))⟩,⟨_,_,rfl,⟨_,_,rfl,u0,(B1.mono (cp I0.sub G0.sub))⟩,⟨_,_,rfl,⟨_,_,rfl,C1,(Y0.mono (cp I0.sub G0.sub))⟩,⟨_,_,rfl,⟨_,_,rfl,E1,(j0.mono (cp I0.sub G0.sub))⟩,⟨_,_,rfl,F1,(G1.mono (cp I0.sub G0.sub))⟩⟩⟩⟩⟩⟩)) T6) ⟨rfl,trivial⟩ (λv w a hR o=>?_)
 obtain ⟨U7,G7,V7,rfl,l3,hk⟩:=hR
 replace u:=u.fresh hk
 replace l3:=l3 H114
 obtain ⟨H167,J0,W7,X7,u⟩:=St.frzS u .head l3
 refine qv o (Al (α:=Str) (xs:=I2) o runUnderlying36 rfl) λo=>qa o rfl λo=>re<|tn<|th<|th<|rg<|qv o (Ag o Df rfl) λo=>qv o (Ah o isAgg23 rfl (u.ld.cellB t0 rfl)) λo=>qv o (Al (α:=api_Cell) (xs:=E0.Vols) o runUnderlying23 rfl) λo=>qv o (Am o rfl rfl) λo=>re<|?_
 rcases bip hm with ⟨A4,hm⟩ | ⟨A4,hm⟩
 refine tn<|ctv o rfl A4<|th<|?_
 rcases bip hm with ⟨B4,hm⟩ | ⟨B4,hm⟩
 obtain ⟨D8,U6,hm⟩:=bs hm
 refine rg<|qm o rfl λo=>qv o (Am o rfl rfl) λo=>qv o (An (Ab o rfl) (congrArg Value.bool B4)) λo=>ls<|gy o rfl rfl<|c1 o rfl call18 (Ow (Ai _) (Tab.mono (Tab.mono hT (cp (cp (cp J0.sub I0.sub) G0.sub) K2.sub)) (St.up u)) U6) trivial (λv w a hR o=>?_)
 obtain ⟨rfl,hk⟩:=hR
 replace u:=u.pass hk
 refine qv o (Ad o rfl rfl) λo=>qa o rfl λo=>re<|tn<|wr<|tr<|?_
 obtain rfl:=si hm
 exact r1 o results8 rfl ⟨rfl,u.keep⟩
 refine rg<|qm o rfl λo=>qv o (Am o rfl rfl) λo=>qv o (An (Ab o rfl) (congrArg Value.bool B4)) λo=>qn o λo=>qv o (Ae o rfl rfl) λo=>qa o rfl λo=>re<|tn<|wr<|tr<|?_
 obtain rfl:=si hm
 exact r1 o results8 rfl ⟨rfl,u.keep⟩
 refine tn<|cfv o rfl A4<|wk<|tn<|th<|th<|rg<|qa o rfl λo=>re<|tn<|Ay (λa w=>(Z17 N E0 R0 T1 I2)=some r∧Fr 165 [(1,PT Y1),(5,PT J2),(6,i6 T1.1),(10,i6 (I2.length:Int))] a∧St w0 Nil [H167] [bk Y1 [SL S0 E0.Lines K0,SL P1 E0.Vols J1,SL T0 E0.Locks M0,SL U0 E0.Threads O0,SL V0 E0.Recover P0,SL W0 E0.Claims Q0] 27,bk J2 [SL S0 E0.Lines K0,SL I1 R0 X0,SL T0 E0.Locks M0,SL U0 E0.Threads O0,SL V0 E0.Recover P0,SL W0 E0.Claims Q0] 27] w) ?_ ?_
 refine wb<|lp (α:=Nat×Int) (λgh a w=>match gh with | (M4,k4)=>(Z1a N (Z17 N E0 R0 T1 I2) E0 R0 I2) M4 k4=some r∧Fr 165 [(1,PT Y1),(5,PT J2),(6,i6 T1.1),(10,i6 (I2.length:Int)),(11,i6 k4)] a∧St w0 Nil [H167] [bk Y1 [SL S0 E0.Lines K0,SL P1 E0.Vols J1,SL T0 E0.Locks M0,SL U0 E0.Threads O0,SL V0 E0.Recover P0,SL W0 E0.Claims Q0] 27,bk J2 [SL S0 E0.Lines K0,SL I1 R0 X0,SL T0 E0.Locks M0,SL U0 E0.Threads O0,SL V0 E0.Recover P0,SL W0 E0.Claims Q0] 27] w) (λgh=>gh.1) (N,0) ⟨hm,o.hs,u⟩ ?_
 rintro ⟨M4,k4⟩ a w ⟨hm,o,u⟩
 obtain _ | M4:=M4
 simp [Z1a] at hm
 rw [Z1a] at hm
 refine th<|th<|rg<|qm o rfl λo=>qm o rfl λo=>qv o (Au o rfl rfl) λo=>re<|?_
 rcases bip hm with ⟨C4,hm⟩ | ⟨C4,hm⟩
 refine tn<|ctv o rfl C4<|wk<|tn<|th<|wb<|th<|?_
 obtain ⟨E8,V6,hm⟩:=bs hm
 obtain ⟨F8,W6,hm⟩:=bs hm
 refine rdS 7 u wide λw u=>dq 0 u.ld o rfl (λw hl=>Ar o isAgg27 sizeOf27 rfl rfl (hl.cellsB t0)) λo=>dr 1 u o rfl (Ab o rfl) λo=>dq 3 u.ld o rfl (λw hl=>Ar o isAgg27 sizeOf27 rfl rfl (hl.cellsB t1)) λo=>dr 4 u o rfl (Ab o rfl) λo=>da1 (i:=2) (by kernel_rfl) ?_
 refine di (i:=2) rfl<|cr o call25 (Jl (Ai _) (Enc.mono (St.up u) (show Enc.rep (α:=api_Prog) H167 [SL S0 E0.Lines K0,SL P1 E0.Vols J1,SL T0 E0.Locks M0,SL U0 E0.Threads O0,SL V0 E0.Recover P0,SL W0 E0.Claims Q0] E0 from ⟨_,_,rfl,⟨_,_,rfl,n0,(p0.mono (cp (cp J0.sub I0.sub) G0.sub))⟩,⟨_,_,rfl,⟨_,_,rfl,X1,(V1.mono (cp (cp J0.sub I0.sub) G0.sub))⟩,⟨_,_,rfl,⟨_,_,rfl,u0,(B1.mono (cp (cp J0.sub I0.sub) G0.sub))⟩,⟨_,_,rfl,⟨_,_,rfl,C1,(Y0.mono (cp (cp J0.sub I0.sub) G0.sub))⟩,⟨_,_,rfl,⟨_,_,rfl,E1,(j0.mono (cp (cp J0.sub I0.sub) G0.sub))⟩,⟨_,_,rfl,F1,(G1.mono (cp (cp J0.sub I0.sub) G0.sub))⟩⟩⟩⟩⟩⟩)) V6) u λu o=>⟨λ_=>u.ld,?_⟩
 refine da1 (i:=5) (by kernel_rfl) ?_
 refine di (i:=5) rfl<|cr o call25 (Jl (Ai _) (Enc.mono (St.up u) (show Enc.rep (α:=api_Prog) H167 [SL S0 E0.Lines K0,SL I1 R0 X0,SL T0 E0.Locks M0,SL U0 E0.Threads O0,SL V0 E0.Recover P0,SL W0 E0.Claims Q0] (api_Prog.mk E0.Lines R0 E0.Locks E0.Threads E0.Recover E0.Claims) from ⟨_,_,rfl,⟨_,_,rfl,n0,(p0.mono (cp (cp J0.sub I0.sub) G0.sub))⟩,⟨_,_,rfl,⟨_,_,rfl,R1,(Q1.mono J0.sub)⟩,⟨_,_,rfl,⟨_,_,rfl,u0,(B1.mono (cp (cp J0.sub I0.sub) G0.sub))⟩,⟨_,_,rfl,⟨_,_,rfl,C1,(Y0.mono (cp (cp J0.sub I0.sub) G0.sub))⟩,⟨_,_,rfl,⟨_,_,rfl,E1,(j0.mono (cp (cp J0.sub I0.sub) G0.sub))⟩,⟨_,_,rfl,F1,(G1.mono (cp (cp J0.sub I0.sub) G0.sub))⟩⟩⟩⟩⟩⟩)) W6) u λu o=>⟨λ_=>u.ld,?_⟩
 refine dr 6 u o rfl (Bu o rfl rfl) λo=>de (by kernel_rfl)<|?_
 obtain ⟨_,D4,hm⟩:=bs hm
 replace D4:=bnt (Cf D4)
 refine tn<|cfv o rfl D4<|wk<|bn<|tn<|rg<|qm o rfl λo=>qv o (Ao o rfl rfl) λo=>qa o rfl λo=>re<|tn<|?_
 exact ⟨(M4,(IntKind.i64.wrap (k4+1))),⟨hm,o.hs,u⟩,Nat.lt_succ_self _⟩
 refine tn<|cfv o rfl C4<|we<|tx<|tx<|bx<|tn<|?_
 exact ⟨hm,o.hs,u⟩
 rintro a w ⟨hm,o,u⟩
 unfold Z17 at hm
 refine th<|?_
 rcases bip hm with ⟨P2,hm⟩ | ⟨P2,hm⟩
 obtain ⟨I3,J3,hm⟩:=bs hm
 obtain ⟨G8,M2,hm⟩:=bs hm
 obtain ⟨I8,K3,hm⟩:=bs hm
 obtain ⟨J8,L3,hm⟩:=bs hm
 rcases bit hm with ⟨T2,hm⟩ | ⟨T2,hm⟩
 obtain ⟨K8,E4,hm⟩:=bs hm
 obtain ⟨L8,F4,hm⟩:=bs hm
 rcases bip hm with ⟨W2,hm⟩ | ⟨W2,hm⟩
 obtain ⟨M8,U4,hm⟩:=bs hm
 obtain ⟨O8,V4,hm⟩:=bs hm
 rcases bip hm with ⟨B3,hm⟩ | ⟨B3,hm⟩
 obtain ⟨P8,J5,hm⟩:=bs hm
 rcases bip hm with ⟨G4,hm⟩ | ⟨G4,hm⟩
 obtain ⟨Q8,X6,hm⟩:=bs hm
 refine rdS 42 u wide λw u=>dr 0 u o rfl (Ab o rfl) λo=>dr 1 u o rfl (Am o rfl rfl) λo=>dr 2 u o rfl (An (Ab o rfl) (congrArg Value.bool P2)) λo=>dg 3 u.ld o rfl (λw hl=>Ar o isAgg27 sizeOf27 rfl rfl (hl.cellsB t1)) λo=>dg 5 u.ld o rfl (λw hl=>Ab o rfl) λo=>dg 7 u.ld o rfl (λw hl=>Ar o isAgg27 sizeOf27 rfl rfl (hl.cellsB t0)) λo=>da1 (i:=4) (by kernel_rfl) ?_
 refine di (i:=4) rfl<|gy o rfl rfl<|c1 o rfl call20 (Di (Ai _) (Enc.mono (St.up u) (show Enc.rep (α:=api_Prog) H167 [SL S0 E0.Lines K0,SL I1 R0 X0,SL T0 E0.Locks M0,SL U0 E0.Threads O0,SL V0 E0.Recover P0,SL W0 E0.Claims Q0] (api_Prog.mk E0.Lines R0 E0.Locks E0.Threads E0.Recover E0.Claims) from ⟨_,_,rfl,⟨_,_,rfl,n0,(p0.mono (cp (cp J0.sub I0.sub) G0.sub))⟩,⟨_,_,rfl,⟨_,_,rfl,R1,(Q1.mono J0.sub)⟩,⟨_,_,rfl,⟨_,_,rfl,u0,(B1.mono (cp (cp J0.sub I0.sub) G0.sub))⟩,⟨_,_,rfl,⟨_,_,rfl,C1,(Y0.mono (cp (cp J0.sub I0.sub) G0.sub))⟩,⟨_,_,rfl,⟨_,_,rfl,E1,(j0.mono (cp (cp J0.sub I0.sub) G0.sub))⟩,⟨_,_,rfl,F1,(G1.mono (cp (cp J0.sub I0.sub) G0.sub))⟩⟩⟩⟩⟩⟩)) J3) ⟨rfl,trivial⟩ (λv w a hR o=>?_)
 obtain ⟨C3,X2,D3,rfl,M1,hk⟩:=hR
 replace u:=u.fresh hk
 replace M1:=M1 H167
 obtain ⟨H188,C0,B2,U1,u⟩:=St.frzS u .head M1
 refine ⟨λ_=>(St.ldsX u C0.sub i1),?_⟩
 obtain ⟨E3,Y2,e193,e194,C2,E2⟩:=SR.sub (sz:=1) B2 U1 rfl M2
 refine dg 6 (St.ldsX u C0.sub i1) o rfl (λw hl=>Gh (xs:=I3) (vl:=0) (vh:=(I2.length:Int)) o runUnderlying36 sizeOf9 rfl U1 rfl rfl M2 e193 e194) λo=>da1 (i:=8) (by kernel_rfl) ?_
 refine di (i:=8) rfl<|gy o rfl rfl<|c1 o rfl call20 (Di (Ai _) (Enc.mono (St.up u) (show Enc.rep (α:=api_Prog) H188 [SL S0 E0.Lines K0,SL P1 E0.Vols J1,SL T0 E0.Locks M0,SL U0 E0.Threads O0,SL V0 E0.Recover P0,SL W0 E0.Claims Q0] E0 from ⟨_,_,rfl,⟨_,_,rfl,n0,(p0.mono (cp (cp (cp C0.sub J0.sub) I0.sub) G0.sub))⟩,⟨_,_,rfl,⟨_,_,rfl,X1,(V1.mono (cp (cp (cp C0.sub J0.sub) I0.sub) G0.sub))⟩,⟨_,_,rfl,⟨_,_,rfl,u0,(B1.mono (cp (cp (cp C0.sub J0.sub) I0.sub) G0.sub))⟩,⟨_,_,rfl,⟨_,_,rfl,C1,(Y0.mono (cp (cp (cp C0.sub J0.sub) I0.sub) G0.sub))⟩,⟨_,_,rfl,⟨_,_,rfl,E1,(j0.mono (cp (cp (cp C0.sub J0.sub) I0.sub) G0.sub))⟩,⟨_,_,rfl,F1,(G1.mono (cp (cp (cp C0.sub J0.sub) I0.sub) G0.sub))⟩⟩⟩⟩⟩⟩)) K3) ⟨rfl,trivial⟩ (λv w a hR o=>?_)
 obtain ⟨F3,A3,G3,rfl,O1,hk⟩:=hR
 replace u:=u.fresh hk
 replace O1:=O1 H188
 obtain ⟨H206,D0,F2,G2,u⟩:=St.frzS u .head O1
 refine ⟨λ_=>(St.ldsX u (cp D0.sub C0.sub) i1),?_⟩
 refine da1 (i:=9) (by kernel_rfl) ?_
 refine di (i:=9) rfl<|gy o rfl rfl<|cr o call21 (Le (Ai _) C2 (St.srH u (E2.mono D0.sub)) G2 (St.srH u F2) L3) u λu o=>⟨λ_=>(St.ldsX u (cp D0.sub C0.sub) i1),?_⟩
 refine ds 10 (St.ldsX u (cp D0.sub C0.sub) i1) o rfl (Ad o rfl rfl) λo=>ds 11 (St.ldsX u (cp D0.sub C0.sub) i1) o rfl (An (Ab o rfl) (congrArg Value.bool T2)) λo=>dg 12 (St.ldsX u (cp D0.sub C0.sub) i1) o rfl (λw hl=>Ar o isAgg27 sizeOf27 rfl rfl (hl.cellsB t1)) λo=>dg 15 (St.ldsX u (cp D0.sub C0.sub) i1) o rfl (λw hl=>Ab o rfl) λo=>da1 (i:=13) (by kernel_rfl) ?_
 refine di (i:=13) rfl<|gy o rfl rfl<|c1 o rfl call20 (Di (Ai _) (Enc.mono (St.up u) (show Enc.rep (α:=api_Prog) H206 [SL S0 E0.Lines K0,SL I1 R0 X0,SL T0 E0.Locks M0,SL U0 E0.Threads O0,SL V0 E0.Recover P0,SL W0 E0.Claims Q0] (api_Prog.mk E0.Lines R0 E0.Locks E0.Threads E0.Recover E0.Claims) from ⟨_,_,rfl,⟨_,_,rfl,n0,(p0.mono (cp (cp (cp (cp D0.sub C0.sub) J0.sub) I0.sub) G0.sub))⟩,⟨_,_,rfl,⟨_,_,rfl,R1,(Q1.mono (cp (cp D0.sub C0.sub) J0.sub))⟩,⟨_,_,rfl,⟨_,_,rfl,u0,(B1.mono (cp (cp (cp (cp D0.sub C0.sub) J0.sub) I0.sub) G0.sub))⟩,⟨_,_,rfl,⟨_,_,rfl,C1,(Y0.mono (cp (cp (cp (cp D0.sub C0.sub) J0.sub) I0.sub) G0.sub))⟩,⟨_,_,rfl,⟨_,_,rfl,E1,(j0.mono (cp (cp (cp (cp D0.sub C0.sub) J0.sub) I0.sub) G0.sub))⟩,⟨_,_,rfl,F1,(G1.mono (cp (cp (cp (cp D0.sub C0.sub) J0.sub) I0.sub) G0.sub))⟩⟩⟩⟩⟩⟩)) E4) ⟨rfl,trivial⟩ (λv w a hR o=>?_)
 obtain ⟨I4,M3,J4,rfl,S1,hk⟩:=hR
 replace u:=u.fresh hk
 replace S1:=S1 H206
 obtain ⟨H219,F0,Q2,R2,u⟩:=St.frzS u .head S1
 refine ⟨λ_=>(St.ldsX u (cp (cp F0.sub D0.sub) C0.sub) i1),?_⟩
 refine da1 (i:=14) (by kernel_rfl) ?_
 refine di (i:=14) rfl<|gy o rfl rfl<|cr o call32 (Gl (Ai _) R2 (St.srH u Q2) F4) u λu o=>⟨λ_=>(St.ldsX u (cp (cp F0.sub D0.sub) C0.sub) i1),?_⟩
 refine dg 16 (St.ldsX u (cp (cp F0.sub D0.sub) C0.sub) i1) o rfl (λw hl=>Am o rfl rfl) λo=>ds 17 (St.ldsX u (cp (cp F0.sub D0.sub) C0.sub) i1) o rfl (Ad o rfl rfl) λo=>ds 18 (St.ldsX u (cp (cp F0.sub D0.sub) C0.sub) i1) o rfl (An (Ab o rfl) (congrArg Value.bool W2)) λo=>dg 19 (St.ldsX u (cp (cp F0.sub D0.sub) C0.sub) i1) o rfl (λw hl=>Ar o isAgg27 sizeOf27 rfl rfl (hl.cellsB t1)) λo=>dg 21 (St.ldsX u (cp (cp F0.sub D0.sub) C0.sub) i1) o rfl (λw hl=>Ar o isAgg27 sizeOf27 rfl rfl (hl.cellsB t0)) λo=>da1 (i:=20) (by kernel_rfl) ?_
 refine di (i:=20) rfl<|gy o rfl rfl<|cr o call23 (Kd (Ai _) (Enc.mono (St.up u) (show Enc.rep (α:=api_Prog) H219 [SL S0 E0.Lines K0,SL I1 R0 X0,SL T0 E0.Locks M0,SL U0 E0.Threads O0,SL V0 E0.Recover P0,SL W0 E0.Claims Q0] (api_Prog.mk E0.Lines R0 E0.Locks E0.Threads E0.Recover E0.Claims) from ⟨_,_,rfl,⟨_,_,rfl,n0,(p0.mono (cp (cp (cp (cp (cp F0.sub D0.sub) C0.sub) J0.sub) I0.sub) G0.sub))⟩,⟨_,_,rfl,⟨_,_,rfl,R1,(Q1.mono (cp (cp (cp F0.sub D0.sub) C0.sub) J0.sub))⟩,⟨_,_,rfl,⟨_,_,rfl,u0,(B1.mono (cp (cp (cp (cp (cp F0.sub D0.sub) C0.sub) J0.sub) I0.sub) G0.sub))⟩,⟨_,_,rfl,⟨_,_,rfl,C1,(Y0.mono (cp (cp (cp (cp (cp F0.sub D0.sub) C0.sub) J0.sub) I0.sub) G0.sub))⟩,⟨_,_,rfl,⟨_,_,rfl,E1,(j0.mono (cp (cp (cp (cp (cp F0.sub D0.sub) C0.sub) J0.sub) I0.sub) G0.sub))⟩,⟨_,_,rfl,F1,(G1.mono (cp (cp (cp (cp (cp F0.sub D0.sub) C0.sub) J0.sub) I0.sub) G0.sub))⟩⟩⟩⟩⟩⟩)) U4) u λu o=>⟨λ_=>(St.ldsX u (cp (cp F0.sub D0.sub) C0.sub) i1),?_⟩
 refine da1 (i:=22) (by kernel_rfl) ?_
 refine di (i:=22) rfl<|gy o rfl rfl<|cr o call23 (Kd (Ai _) (Enc.mono (St.up u) (show Enc.rep (α:=api_Prog) H219 [SL S0 E0.Lines K0,SL P1 E0.Vols J1,SL T0 E0.Locks M0,SL U0 E0.Threads O0,SL V0 E0.Recover P0,SL W0 E0.Claims Q0] E0 from ⟨_,_,rfl,⟨_,_,rfl,n0,(p0.mono (cp (cp (cp (cp (cp F0.sub D0.sub) C0.sub) J0.sub) I0.sub) G0.sub))⟩,⟨_,_,rfl,⟨_,_,rfl,X1,(V1.mono (cp (cp (cp (cp (cp F0.sub D0.sub) C0.sub) J0.sub) I0.sub) G0.sub))⟩,⟨_,_,rfl,⟨_,_,rfl,u0,(B1.mono (cp (cp (cp (cp (cp F0.sub D0.sub) C0.sub) J0.sub) I0.sub) G0.sub))⟩,⟨_,_,rfl,⟨_,_,rfl,C1,(Y0.mono (cp (cp (cp (cp (cp F0.sub D0.sub) C0.sub) J0.sub) I0.sub) G0.sub))⟩,⟨_,_,rfl,⟨_,_,rfl,E1,(j0.mono (cp (cp (cp (cp (cp F0.sub D0.sub) C0.sub) J0.sub) I0.sub) G0.sub))⟩,⟨_,_,rfl,F1,(G1.mono (cp (cp (cp (cp (cp F0.sub D0.sub) C0.sub) J0.sub) I0.sub) G0.sub))⟩⟩⟩⟩⟩⟩)) V4) u λu o=>⟨λ_=>(St.ldsX u (cp (cp F0.sub D0.sub) C0.sub) i1),?_⟩
 refine dg 23 (St.ldsX u (cp (cp F0.sub D0.sub) C0.sub) i1) o rfl (λw hl=>Am o rfl rfl) λo=>ds 24 (St.ldsX u (cp (cp F0.sub D0.sub) C0.sub) i1) o rfl (Ad o rfl rfl) λo=>ds 25 (St.ldsX u (cp (cp F0.sub D0.sub) C0.sub) i1) o rfl (An (Ab o rfl) (congrArg Value.bool B3)) λo=>dg 26 (St.ldsX u (cp (cp F0.sub D0.sub) C0.sub) i1) o rfl (λw hl=>Ar o isAgg27 sizeOf27 rfl rfl (hl.cellsB t1)) λo=>dg 27 (St.ldsX u (cp (cp F0.sub D0.sub) C0.sub) i1) o rfl (λw hl=>Ab o rfl) λo=>dg 29 (St.ldsX u (cp (cp F0.sub D0.sub) C0.sub) i1) o rfl (λw hl=>Ag o Cm rfl) λo=>dg 30 (St.ldsX u (cp (cp F0.sub D0.sub) C0.sub) i1) o rfl (λw hl=>Ah o isAgg22 rfl (hl.cellB t0 rfl)) λo=>dg 31 (St.ldsX u (cp (cp F0.sub D0.sub) C0.sub) i1) o rfl (λw hl=>Al (α:=(List api_Cell)) (xs:=E0.Lines) o runUnderlying22 rfl) λo=>dg 32 (St.ldsX u (cp (cp F0.sub D0.sub) C0.sub) i1) o rfl (λw hl=>Ag o Df rfl) λo=>dg 33 (St.ldsX u (cp (cp F0.sub D0.sub) C0.sub) i1) o rfl (λw hl=>Ah o isAgg23 rfl (hl.cellB t0 rfl)) λo=>dg 34 (St.ldsX u (cp (cp F0.sub D0.sub) C0.sub) i1) o rfl (λw hl=>Al (α:=api_Cell) (xs:=E0.Vols) o runUnderlying23 rfl) λo=>dg 35 (St.ldsX u (cp (cp F0.sub D0.sub) C0.sub) i1) o rfl (λw hl=>Ao o rfl rfl) λo=>da1 (i:=28) (by kernel_rfl) ?_
 refine di (i:=28) rfl<|gy o rfl rfl<|cr o call25 (Jl (Ai _) (Enc.mono (St.up u) (show Enc.rep (α:=api_Prog) H219 [SL S0 E0.Lines K0,SL I1 R0 X0,SL T0 E0.Locks M0,SL U0 E0.Threads O0,SL V0 E0.Recover P0,SL W0 E0.Claims Q0] (api_Prog.mk E0.Lines R0 E0.Locks E0.Threads E0.Recover E0.Claims) from ⟨_,_,rfl,⟨_,_,rfl,n0,(p0.mono (cp (cp (cp (cp (cp F0.sub D0.sub) C0.sub) J0.sub) I0.sub) G0.sub))⟩,⟨_,_,rfl,⟨_,_,rfl,R1,(Q1.mono (cp (cp (cp F0.sub D0.sub) C0.sub) J0.sub))⟩,⟨_,_,rfl,⟨_,_,rfl,u0,(B1.mono (cp (cp (cp (cp (cp F0.sub D0.sub) C0.sub) J0.sub) I0.sub) G0.sub))⟩,⟨_,_,rfl,⟨_,_,rfl,C1,(Y0.mono (cp (cp (cp (cp (cp F0.sub D0.sub) C0.sub) J0.sub) I0.sub) G0.sub))⟩,⟨_,_,rfl,⟨_,_,rfl,E1,(j0.mono (cp (cp (cp (cp (cp F0.sub D0.sub) C0.sub) J0.sub) I0.sub) G0.sub))⟩,⟨_,_,rfl,F1,(G1.mono (cp (cp (cp (cp (cp F0.sub D0.sub) C0.sub) J0.sub) I0.sub) G0.sub))⟩⟩⟩⟩⟩⟩)) J5) u λu o=>⟨λ_=>(St.ldsX u (cp (cp F0.sub D0.sub) C0.sub) i1),?_⟩
 refine dg 36 (St.ldsX u (cp (cp F0.sub D0.sub) C0.sub) i1) o rfl (λw hl=>Am o rfl rfl) λo=>ds 37 (St.ldsX u (cp (cp F0.sub D0.sub) C0.sub) i1) o rfl (Ad o rfl rfl) λo=>ds 38 (St.ldsX u (cp (cp F0.sub D0.sub) C0.sub) i1) o rfl (An (Ab o rfl) (congrArg Value.bool G4)) λo=>da1 (i:=39) (by kernel_rfl) ?_
 refine di (i:=39) rfl<|gy o rfl rfl<|c1 o rfl call18 (Ow (Ai _) (Tab.mono (Tab.mono hT (cp (cp (cp (cp (cp (cp F0.sub D0.sub) C0.sub) J0.sub) I0.sub) G0.sub) K2.sub)) (St.up u)) X6) trivial (λv w a hR o=>?_)
 obtain ⟨rfl,hk⟩:=hR
 replace u:=u.pass hk
 refine ⟨λ_=>(St.ldsX u (cp (cp F0.sub D0.sub) C0.sub) i1),?_⟩
 refine ds 40 (St.ldsX u (cp (cp F0.sub D0.sub) C0.sub) i1) o rfl (Ad o rfl rfl) λo=>ds 41 (St.ldsX u (cp (cp F0.sub D0.sub) C0.sub) i1) o rfl (Bo o rfl) λo=>de (by kernel_rfl)<|tn<|wr<|?_
 obtain rfl:=si hm
 exact r1 o results8 rfl ⟨rfl,u.keep⟩
 refine rdS 42 u wide λw u=>dr 0 u o rfl (Ab o rfl) λo=>dr 1 u o rfl (Am o rfl rfl) λo=>dr 2 u o rfl (An (Ab o rfl) (congrArg Value.bool P2)) λo=>dg 3 u.ld o rfl (λw hl=>Ar o isAgg27 sizeOf27 rfl rfl (hl.cellsB t1)) λo=>dg 5 u.ld o rfl (λw hl=>Ab o rfl) λo=>dg 7 u.ld o rfl (λw hl=>Ar o isAgg27 sizeOf27 rfl rfl (hl.cellsB t0)) λo=>da1 (i:=4) (by kernel_rfl) ?_
 refine di (i:=4) rfl<|gy o rfl rfl<|c1 o rfl call20 (Di (Ai _) (Enc.mono (St.up u) (show Enc.rep (α:=api_Prog) H167 [SL S0 E0.Lines K0,SL I1 R0 X0,SL T0 E0.Locks M0,SL U0 E0.Threads O0,SL V0 E0.Recover P0,SL W0 E0.Claims Q0] (api_Prog.mk E0.Lines R0 E0.Locks E0.Threads E0.Recover E0.Claims) from ⟨_,_,rfl,⟨_,_,rfl,n0,(p0.mono (cp (cp J0.sub I0.sub) G0.sub))⟩,⟨_,_,rfl,⟨_,_,rfl,R1,(Q1.mono J0.sub)⟩,⟨_,_,rfl,⟨_,_,rfl,u0,(B1.mono (cp (cp J0.sub I0.sub) G0.sub))⟩,⟨_,_,rfl,⟨_,_,rfl,C1,(Y0.mono (cp (cp J0.sub I0.sub) G0.sub))⟩,⟨_,_,rfl,⟨_,_,rfl,E1,(j0.mono (cp (cp J0.sub I0.sub) G0.sub))⟩,⟨_,_,rfl,F1,(G1.mono (cp (cp J0.sub I0.sub) G0.sub))⟩⟩⟩⟩⟩⟩)) J3) ⟨rfl,trivial⟩ (λv w a hR o=>?_)
 obtain ⟨C3,X2,D3,rfl,M1,hk⟩:=hR
 replace u:=u.fresh hk
 replace M1:=M1 H167
 obtain ⟨H188,C0,B2,U1,u⟩:=St.frzS u .head M1
 refine ⟨λ_=>(St.ldsX u C0.sub i1),?_⟩
 obtain ⟨E3,Y2,e193,e194,C2,E2⟩:=SR.sub (sz:=1) B2 U1 rfl M2
 refine dg 6 (St.ldsX u C0.sub i1) o rfl (λw hl=>Gh (xs:=I3) (vl:=0) (vh:=(I2.length:Int)) o runUnderlying36 sizeOf9 rfl U1 rfl rfl M2 e193 e194) λo=>da1 (i:=8) (by kernel_rfl) ?_
 refine di (i:=8) rfl<|gy o rfl rfl<|c1 o rfl call20 (Di (Ai _) (Enc.mono (St.up u) (show Enc.rep (α:=api_Prog) H188 [SL S0 E0.Lines K0,SL P1 E0.Vols J1,SL T0 E0.Locks M0,SL U0 E0.Threads O0,SL V0 E0.Recover P0,SL W0 E0.Claims Q0] E0 from ⟨_,_,rfl,⟨_,_,rfl,n0,(p0.mono (cp (cp (cp C0.sub J0.sub) I0.sub) G0.sub))⟩,⟨_,_,rfl,⟨_,_,rfl,X1,(V1.mono (cp (cp (cp C0.sub J0.sub) I0.sub) G0.sub))⟩,⟨_,_,rfl,⟨_,_,rfl,u0,(B1.mono (cp (cp (cp C0.sub J0.sub) I0.sub) G0.sub))⟩,⟨_,_,rfl,⟨_,_,rfl,C1,(Y0.mono (cp (cp (cp C0.sub J0.sub) I0.sub) G0.sub))⟩,⟨_,_,rfl,⟨_,_,rfl,E1,(j0.mono (cp (cp (cp C0.sub J0.sub) I0.sub) G0.sub))⟩,⟨_,_,rfl,F1,(G1.mono (cp (cp (cp C0.sub J0.sub) I0.sub) G0.sub))⟩⟩⟩⟩⟩⟩)) K3) ⟨rfl,trivial⟩ (λv w a hR o=>?_)
 obtain ⟨F3,A3,G3,rfl,O1,hk⟩:=hR
 replace u:=u.fresh hk
 replace O1:=O1 H188
 obtain ⟨H206,D0,F2,G2,u⟩:=St.frzS u .head O1
 refine ⟨λ_=>(St.ldsX u (cp D0.sub C0.sub) i1),?_⟩
 refine da1 (i:=9) (by kernel_rfl) ?_
 refine di (i:=9) rfl<|gy o rfl rfl<|cr o call21 (Le (Ai _) C2 (St.srH u (E2.mono D0.sub)) G2 (St.srH u F2) L3) u λu o=>⟨λ_=>(St.ldsX u (cp D0.sub C0.sub) i1),?_⟩
 refine ds 10 (St.ldsX u (cp D0.sub C0.sub) i1) o rfl (Ad o rfl rfl) λo=>ds 11 (St.ldsX u (cp D0.sub C0.sub) i1) o rfl (An (Ab o rfl) (congrArg Value.bool T2)) λo=>dg 12 (St.ldsX u (cp D0.sub C0.sub) i1) o rfl (λw hl=>Ar o isAgg27 sizeOf27 rfl rfl (hl.cellsB t1)) λo=>dg 15 (St.ldsX u (cp D0.sub C0.sub) i1) o rfl (λw hl=>Ab o rfl) λo=>da1 (i:=13) (by kernel_rfl) ?_
 refine di (i:=13) rfl<|gy o rfl rfl<|c1 o rfl call20 (Di (Ai _) (Enc.mono (St.up u) (show Enc.rep (α:=api_Prog) H206 [SL S0 E0.Lines K0,SL I1 R0 X0,SL T0 E0.Locks M0,SL U0 E0.Threads O0,SL V0 E0.Recover P0,SL W0 E0.Claims Q0] (api_Prog.mk E0.Lines R0 E0.Locks E0.Threads E0.Recover E0.Claims) from ⟨_,_,rfl,⟨_,_,rfl,n0,(p0.mono (cp (cp (cp (cp D0.sub C0.sub) J0.sub) I0.sub) G0.sub))⟩,⟨_,_,rfl,⟨_,_,rfl,R1,(Q1.mono (cp (cp D0.sub C0.sub) J0.sub))⟩,⟨_,_,rfl,⟨_,_,rfl,u0,(B1.mono (cp (cp (cp (cp D0.sub C0.sub) J0.sub) I0.sub) G0.sub))⟩,⟨_,_,rfl,⟨_,_,rfl,C1,(Y0.mono (cp (cp (cp (cp D0.sub C0.sub) J0.sub) I0.sub) G0.sub))⟩,⟨_,_,rfl,⟨_,_,rfl,E1,(j0.mono (cp (cp (cp (cp D0.sub C0.sub) J0.sub) I0.sub) G0.sub))⟩,⟨_,_,rfl,F1,(G1.mono (cp (cp (cp (cp D0.sub C0.sub) J0.sub) I0.sub) G0.sub))⟩⟩⟩⟩⟩⟩)) E4) ⟨rfl,trivial⟩ (λv w a hR o=>?_)
 obtain ⟨I4,M3,J4,rfl,S1,hk⟩:=hR
 replace u:=u.fresh hk
 replace S1:=S1 H206
 obtain ⟨H219,F0,Q2,R2,u⟩:=St.frzS u .head S1
 refine ⟨λ_=>(St.ldsX u (cp (cp F0.sub D0.sub) C0.sub) i1),?_⟩
 refine da1 (i:=14) (by kernel_rfl) ?_
 refine di (i:=14) rfl<|gy o rfl rfl<|cr o call32 (Gl (Ai _) R2 (St.srH u Q2) F4) u λu o=>⟨λ_=>(St.ldsX u (cp (cp F0.sub D0.sub) C0.sub) i1),?_⟩
 refine dg 16 (St.ldsX u (cp (cp F0.sub D0.sub) C0.sub) i1) o rfl (λw hl=>Am o rfl rfl) λo=>ds 17 (St.ldsX u (cp (cp F0.sub D0.sub) C0.sub) i1) o rfl (Ad o rfl rfl) λo=>ds 18 (St.ldsX u (cp (cp F0.sub D0.sub) C0.sub) i1) o rfl (An (Ab o rfl) (congrArg Value.bool W2)) λo=>dg 19 (St.ldsX u (cp (cp F0.sub D0.sub) C0.sub) i1) o rfl (λw hl=>Ar o isAgg27 sizeOf27 rfl rfl (hl.cellsB t1)) λo=>dg 21 (St.ldsX u (cp (cp F0.sub D0.sub) C0.sub) i1) o rfl (λw hl=>Ar o isAgg27 sizeOf27 rfl rfl (hl.cellsB t0)) λo=>da1 (i:=20) (by kernel_rfl) ?_
 refine di (i:=20) rfl<|gy o rfl rfl<|cr o call23 (Kd (Ai _) (Enc.mono (St.up u) (show Enc.rep (α:=api_Prog) H219 [SL S0 E0.Lines K0,SL I1 R0 X0,SL T0 E0.Locks M0,SL U0 E0.Threads O0,SL V0 E0.Recover P0,SL W0 E0.Claims Q0] (api_Prog.mk E0.Lines R0 E0.Locks E0.Threads E0.Recover E0.Claims) from ⟨_,_,rfl,⟨_,_,rfl,n0,(p0.mono (cp (cp (cp (cp (cp F0.sub D0.sub) C0.sub) J0.sub) I0.sub) G0.sub))⟩,⟨_,_,rfl,⟨_,_,rfl,R1,(Q1.mono (cp (cp (cp F0.sub D0.sub) C0.sub) J0.sub))⟩,⟨_,_,rfl,⟨_,_,rfl,u0,(B1.mono (cp (cp (cp (cp (cp F0.sub D0.sub) C0.sub) J0.sub) I0.sub) G0.sub))⟩,⟨_,_,rfl,⟨_,_,rfl,C1,(Y0.mono (cp (cp (cp (cp (cp F0.sub D0.sub) C0.sub) J0.sub) I0.sub) G0.sub))⟩,⟨_,_,rfl,⟨_,_,rfl,E1,(j0.mono (cp (cp (cp (cp (cp F0.sub D0.sub) C0.sub) J0.sub) I0.sub) G0.sub))⟩,⟨_,_,rfl,F1,(G1.mono (cp (cp (cp (cp (cp F0.sub D0.sub) C0.sub) J0.sub) I0.sub) G0.sub))⟩⟩⟩⟩⟩⟩)) U4) u λu o=>⟨λ_=>(St.ldsX u (cp (cp F0.sub D0.sub) C0.sub) i1),?_⟩
 refine da1 (i:=22) (by kernel_rfl) ?_
 refine di (i:=22) rfl<|gy o rfl rfl<|cr o call23 (Kd (Ai _) (Enc.mono (St.up u) (show Enc.rep (α:=api_Prog) H219 [SL S0 E0.Lines K0,SL P1 E0.Vols J1,SL T0 E0.Locks M0,SL U0 E0.Threads O0,SL V0 E0.Recover P0,SL W0 E0.Claims Q0] E0 from ⟨_,_,rfl,⟨_,_,rfl,n0,(p0.mono (cp (cp (cp (cp (cp F0.sub D0.sub) C0.sub) J0.sub) I0.sub) G0.sub))⟩,⟨_,_,rfl,⟨_,_,rfl,X1,(V1.mono (cp (cp (cp (cp (cp F0.sub D0.sub) C0.sub) J0.sub) I0.sub) G0.sub))⟩,⟨_,_,rfl,⟨_,_,rfl,u0,(B1.mono (cp (cp (cp (cp (cp F0.sub D0.sub) C0.sub) J0.sub) I0.sub) G0.sub))⟩,⟨_,_,rfl,⟨_,_,rfl,C1,(Y0.mono (cp (cp (cp (cp (cp F0.sub D0.sub) C0.sub) J0.sub) I0.sub) G0.sub))⟩,⟨_,_,rfl,⟨_,_,rfl,E1,(j0.mono (cp (cp (cp (cp (cp F0.sub D0.sub) C0.sub) J0.sub) I0.sub) G0.sub))⟩,⟨_,_,rfl,F1,(G1.mono (cp (cp (cp (cp (cp F0.sub D0.sub) C0.sub) J0.sub) I0.sub) G0.sub))⟩⟩⟩⟩⟩⟩)) V4) u λu o=>⟨λ_=>(St.ldsX u (cp (cp F0.sub D0.sub) C0.sub) i1),?_⟩
 refine dg 23 (St.ldsX u (cp (cp F0.sub D0.sub) C0.sub) i1) o rfl (λw hl=>Am o rfl rfl) λo=>ds 24 (St.ldsX u (cp (cp F0.sub D0.sub) C0.sub) i1) o rfl (Ad o rfl rfl) λo=>ds 25 (St.ldsX u (cp (cp F0.sub D0.sub) C0.sub) i1) o rfl (An (Ab o rfl) (congrArg Value.bool B3)) λo=>dg 26 (St.ldsX u (cp (cp F0.sub D0.sub) C0.sub) i1) o rfl (λw hl=>Ar o isAgg27 sizeOf27 rfl rfl (hl.cellsB t1)) λo=>dg 27 (St.ldsX u (cp (cp F0.sub D0.sub) C0.sub) i1) o rfl (λw hl=>Ab o rfl) λo=>dg 29 (St.ldsX u (cp (cp F0.sub D0.sub) C0.sub) i1) o rfl (λw hl=>Ag o Cm rfl) λo=>dg 30 (St.ldsX u (cp (cp F0.sub D0.sub) C0.sub) i1) o rfl (λw hl=>Ah o isAgg22 rfl (hl.cellB t0 rfl)) λo=>dg 31 (St.ldsX u (cp (cp F0.sub D0.sub) C0.sub) i1) o rfl (λw hl=>Al (α:=(List api_Cell)) (xs:=E0.Lines) o runUnderlying22 rfl) λo=>dg 32 (St.ldsX u (cp (cp F0.sub D0.sub) C0.sub) i1) o rfl (λw hl=>Ag o Df rfl) λo=>dg 33 (St.ldsX u (cp (cp F0.sub D0.sub) C0.sub) i1) o rfl (λw hl=>Ah o isAgg23 rfl (hl.cellB t0 rfl)) λo=>dg 34 (St.ldsX u (cp (cp F0.sub D0.sub) C0.sub) i1) o rfl (λw hl=>Al (α:=api_Cell) (xs:=E0.Vols) o runUnderlying23 rfl) λo=>dg 35 (St.ldsX u (cp (cp F0.sub D0.sub) C0.sub) i1) o rfl (λw hl=>Ao o rfl rfl) λo=>da1 (i:=28) (by kernel_rfl) ?_
 refine di (i:=28) rfl<|gy o rfl rfl<|cr o call25 (Jl (Ai _) (Enc.mono (St.up u) (show Enc.rep (α:=api_Prog) H219 [SL S0 E0.Lines K0,SL I1 R0 X0,SL T0 E0.Locks M0,SL U0 E0.Threads O0,SL V0 E0.Recover P0,SL W0 E0.Claims Q0] (api_Prog.mk E0.Lines R0 E0.Locks E0.Threads E0.Recover E0.Claims) from ⟨_,_,rfl,⟨_,_,rfl,n0,(p0.mono (cp (cp (cp (cp (cp F0.sub D0.sub) C0.sub) J0.sub) I0.sub) G0.sub))⟩,⟨_,_,rfl,⟨_,_,rfl,R1,(Q1.mono (cp (cp (cp F0.sub D0.sub) C0.sub) J0.sub))⟩,⟨_,_,rfl,⟨_,_,rfl,u0,(B1.mono (cp (cp (cp (cp (cp F0.sub D0.sub) C0.sub) J0.sub) I0.sub) G0.sub))⟩,⟨_,_,rfl,⟨_,_,rfl,C1,(Y0.mono (cp (cp (cp (cp (cp F0.sub D0.sub) C0.sub) J0.sub) I0.sub) G0.sub))⟩,⟨_,_,rfl,⟨_,_,rfl,E1,(j0.mono (cp (cp (cp (cp (cp F0.sub D0.sub) C0.sub) J0.sub) I0.sub) G0.sub))⟩,⟨_,_,rfl,F1,(G1.mono (cp (cp (cp (cp (cp F0.sub D0.sub) C0.sub) J0.sub) I0.sub) G0.sub))⟩⟩⟩⟩⟩⟩)) J5) u λu o=>⟨λ_=>(St.ldsX u (cp (cp F0.sub D0.sub) C0.sub) i1),?_⟩
 refine dg 36 (St.ldsX u (cp (cp F0.sub D0.sub) C0.sub) i1) o rfl (λw hl=>Am o rfl rfl) λo=>ds 37 (St.ldsX u (cp (cp F0.sub D0.sub) C0.sub) i1) o rfl (Ad o rfl rfl) λo=>ds 38 (St.ldsX u (cp (cp F0.sub D0.sub) C0.sub) i1) o rfl (An (Ab o rfl) (congrArg Value.bool G4)) λo=>dn 39 (St.ldsX u (cp (cp F0.sub D0.sub) C0.sub) i1) o rfl λo=>ds 40 (St.ldsX u (cp (cp F0.sub D0.sub) C0.sub) i1) o rfl (Ae o rfl rfl) λo=>ds 41 (St.ldsX u (cp (cp F0.sub D0.sub) C0.sub) i1) o rfl (Bo o rfl) λo=>de (by kernel_rfl)<|tn<|wr<|?_
 obtain rfl:=si hm
 exact r1 o results8 rfl ⟨rfl,u.keep⟩
 refine rdS 42 u wide λw u=>dr 0 u o rfl (Ab o rfl) λo=>dr 1 u o rfl (Am o rfl rfl) λo=>dr 2 u o rfl (An (Ab o rfl) (congrArg Value.bool P2)) λo=>dg 3 u.ld o rfl (λw hl=>Ar o isAgg27 sizeOf27 rfl rfl (hl.cellsB t1)) λo=>dg 5 u.ld o rfl (λw hl=>Ab o rfl) λo=>dg 7 u.ld o rfl (λw hl=>Ar o isAgg27 sizeOf27 rfl rfl (hl.cellsB t0)) λo=>da1 (i:=4) (by kernel_rfl) ?_
 refine di (i:=4) rfl<|gy o rfl rfl<|c1 o rfl call20 (Di (Ai _) (Enc.mono (St.up u) (show Enc.rep (α:=api_Prog) H167 [SL S0 E0.Lines K0,SL I1 R0 X0,SL T0 E0.Locks M0,SL U0 E0.Threads O0,SL V0 E0.Recover P0,SL W0 E0.Claims Q0] (api_Prog.mk E0.Lines R0 E0.Locks E0.Threads E0.Recover E0.Claims) from ⟨_,_,rfl,⟨_,_,rfl,n0,(p0.mono (cp (cp J0.sub I0.sub) G0.sub))⟩,⟨_,_,rfl,⟨_,_,rfl,R1,(Q1.mono J0.sub)⟩,⟨_,_,rfl,⟨_,_,rfl,u0,(B1.mono (cp (cp J0.sub I0.sub) G0.sub))⟩,⟨_,_,rfl,⟨_,_,rfl,C1,(Y0.mono (cp (cp J0.sub I0.sub) G0.sub))⟩,⟨_,_,rfl,⟨_,_,rfl,E1,(j0.mono (cp (cp J0.sub I0.sub) G0.sub))⟩,⟨_,_,rfl,F1,(G1.mono (cp (cp J0.sub I0.sub) G0.sub))⟩⟩⟩⟩⟩⟩)) J3) ⟨rfl,trivial⟩ (λv w a hR o=>?_)
 obtain ⟨C3,X2,D3,rfl,M1,hk⟩:=hR
 replace u:=u.fresh hk
 replace M1:=M1 H167
 obtain ⟨H188,C0,B2,U1,u⟩:=St.frzS u .head M1
 refine ⟨λ_=>(St.ldsX u C0.sub i1),?_⟩
 obtain ⟨E3,Y2,e193,e194,C2,E2⟩:=SR.sub (sz:=1) B2 U1 rfl M2
 refine dg 6 (St.ldsX u C0.sub i1) o rfl (λw hl=>Gh (xs:=I3) (vl:=0) (vh:=(I2.length:Int)) o runUnderlying36 sizeOf9 rfl U1 rfl rfl M2 e193 e194) λo=>da1 (i:=8) (by kernel_rfl) ?_
 refine di (i:=8) rfl<|gy o rfl rfl<|c1 o rfl call20 (Di (Ai _) (Enc.mono (St.up u) (show Enc.rep (α:=api_Prog) H188 [SL S0 E0.Lines K0,SL P1 E0.Vols J1,SL T0 E0.Locks M0,SL U0 E0.Threads O0,SL V0 E0.Recover P0,SL W0 E0.Claims Q0] E0 from ⟨_,_,rfl,⟨_,_,rfl,n0,(p0.mono (cp (cp (cp C0.sub J0.sub) I0.sub) G0.sub))⟩,⟨_,_,rfl,⟨_,_,rfl,X1,(V1.mono (cp (cp (cp C0.sub J0.sub) I0.sub) G0.sub))⟩,⟨_,_,rfl,⟨_,_,rfl,u0,(B1.mono (cp (cp (cp C0.sub J0.sub) I0.sub) G0.sub))⟩,⟨_,_,rfl,⟨_,_,rfl,C1,(Y0.mono (cp (cp (cp C0.sub J0.sub) I0.sub) G0.sub))⟩,⟨_,_,rfl,⟨_,_,rfl,E1,(j0.mono (cp (cp (cp C0.sub J0.sub) I0.sub) G0.sub))⟩,⟨_,_,rfl,F1,(G1.mono (cp (cp (cp C0.sub J0.sub) I0.sub) G0.sub))⟩⟩⟩⟩⟩⟩)) K3) ⟨rfl,trivial⟩ (λv w a hR o=>?_)
 obtain ⟨F3,A3,G3,rfl,O1,hk⟩:=hR
 replace u:=u.fresh hk
 replace O1:=O1 H188
 obtain ⟨H206,D0,F2,G2,u⟩:=St.frzS u .head O1
 refine ⟨λ_=>(St.ldsX u (cp D0.sub C0.sub) i1),?_⟩
 refine da1 (i:=9) (by kernel_rfl) ?_
 refine di (i:=9) rfl<|gy o rfl rfl<|cr o call21 (Le (Ai _) C2 (St.srH u (E2.mono D0.sub)) G2 (St.srH u F2) L3) u λu o=>⟨λ_=>(St.ldsX u (cp D0.sub C0.sub) i1),?_⟩
 refine ds 10 (St.ldsX u (cp D0.sub C0.sub) i1) o rfl (Ad o rfl rfl) λo=>ds 11 (St.ldsX u (cp D0.sub C0.sub) i1) o rfl (An (Ab o rfl) (congrArg Value.bool T2)) λo=>dg 12 (St.ldsX u (cp D0.sub C0.sub) i1) o rfl (λw hl=>Ar o isAgg27 sizeOf27 rfl rfl (hl.cellsB t1)) λo=>dg 15 (St.ldsX u (cp D0.sub C0.sub) i1) o rfl (λw hl=>Ab o rfl) λo=>da1 (i:=13) (by kernel_rfl) ?_
 refine di (i:=13) rfl<|gy o rfl rfl<|c1 o rfl call20 (Di (Ai _) (Enc.mono (St.up u) (show Enc.rep (α:=api_Prog) H206 [SL S0 E0.Lines K0,SL I1 R0 X0,SL T0 E0.Locks M0,SL U0 E0.Threads O0,SL V0 E0.Recover P0,SL W0 E0.Claims Q0] (api_Prog.mk E0.Lines R0 E0.Locks E0.Threads E0.Recover E0.Claims) from ⟨_,_,rfl,⟨_,_,rfl,n0,(p0.mono (cp (cp (cp (cp D0.sub C0.sub) J0.sub) I0.sub) G0.sub))⟩,⟨_,_,rfl,⟨_,_,rfl,R1,(Q1.mono (cp (cp D0.sub C0.sub) J0.sub))⟩,⟨_,_,rfl,⟨_,_,rfl,u0,(B1.mono (cp (cp (cp (cp D0.sub C0.sub) J0.sub) I0.sub) G0.sub))⟩,⟨_,_,rfl,⟨_,_,rfl,C1,(Y0.mono (cp (cp (cp (cp D0.sub C0.sub) J0.sub) I0.sub) G0.sub))⟩,⟨_,_,rfl,⟨_,_,rfl,E1,(j0.mono (cp (cp (cp (cp D0.sub C0.sub) J0.sub) I0.sub) G0.sub))⟩,⟨_,_,rfl,F1,(G1.mono (cp (cp (cp (cp D0.sub C0.sub) J0.sub) I0.sub) G0.sub))⟩⟩⟩⟩⟩⟩)) E4) ⟨rfl,trivial⟩ (λv w a hR o=>?_)
 obtain ⟨I4,M3,J4,rfl,S1,hk⟩:=hR
 replace u:=u.fresh hk
 replace S1:=S1 H206
 obtain ⟨H219,F0,Q2,R2,u⟩:=St.frzS u .head S1
 refine ⟨λ_=>(St.ldsX u (cp (cp F0.sub D0.sub) C0.sub) i1),?_⟩
 refine da1 (i:=14) (by kernel_rfl) ?_
 refine di (i:=14) rfl<|gy o rfl rfl<|cr o call32 (Gl (Ai _) R2 (St.srH u Q2) F4) u λu o=>⟨λ_=>(St.ldsX u (cp (cp F0.sub D0.sub) C0.sub) i1),?_⟩
 refine dg 16 (St.ldsX u (cp (cp F0.sub D0.sub) C0.sub) i1) o rfl (λw hl=>Am o rfl rfl) λo=>ds 17 (St.ldsX u (cp (cp F0.sub D0.sub) C0.sub) i1) o rfl (Ad o rfl rfl) λo=>ds 18 (St.ldsX u (cp (cp F0.sub D0.sub) C0.sub) i1) o rfl (An (Ab o rfl) (congrArg Value.bool W2)) λo=>dg 19 (St.ldsX u (cp (cp F0.sub D0.sub) C0.sub) i1) o rfl (λw hl=>Ar o isAgg27 sizeOf27 rfl rfl (hl.cellsB t1)) λo=>dg 21 (St.ldsX u (cp (cp F0.sub D0.sub) C0.sub) i1) o rfl (λw hl=>Ar o isAgg27 sizeOf27 rfl rfl (hl.cellsB t0)) λo=>da1 (i:=20) (by kernel_rfl) ?_
 refine di (i:=20) rfl<|gy o rfl rfl<|cr o call23 (Kd (Ai _) (Enc.mono (St.up u) (show Enc.rep (α:=api_Prog) H219 [SL S0 E0.Lines K0,SL I1 R0 X0,SL T0 E0.Locks M0,SL U0 E0.Threads O0,SL V0 E0.Recover P0,SL W0 E0.Claims Q0] (api_Prog.mk E0.Lines R0 E0.Locks E0.Threads E0.Recover E0.Claims) from ⟨_,_,rfl,⟨_,_,rfl,n0,(p0.mono (cp (cp (cp (cp (cp F0.sub D0.sub) C0.sub) J0.sub) I0.sub) G0.sub))⟩,⟨_,_,rfl,⟨_,_,rfl,R1,(Q1.mono (cp (cp (cp F0.sub D0.sub) C0.sub) J0.sub))⟩,⟨_,_,rfl,⟨_,_,rfl,u0,(B1.mono (cp (cp (cp (cp (cp F0.sub D0.sub) C0.sub) J0.sub) I0.sub) G0.sub))⟩,⟨_,_,rfl,⟨_,_,rfl,C1,(Y0.mono (cp (cp (cp (cp (cp F0.sub D0.sub) C0.sub) J0.sub) I0.sub) G0.sub))⟩,⟨_,_,rfl,⟨_,_,rfl,E1,(j0.mono (cp (cp (cp (cp (cp F0.sub D0.sub) C0.sub) J0.sub) I0.sub) G0.sub))⟩,⟨_,_,rfl,F1,(G1.mono (cp (cp (cp (cp (cp F0.sub D0.sub) C0.sub) J0.sub) I0.sub) G0.sub))⟩⟩⟩⟩⟩⟩)) U4) u λu o=>⟨λ_=>(St.ldsX u (cp (cp F0.sub D0.sub) C0.sub) i1),?_⟩
 refine da1 (i:=22) (by kernel_rfl) ?_
 refine di (i:=22) rfl<|gy o rfl rfl<|cr o call23 (Kd (Ai _) (Enc.mono (St.up u) (show Enc.rep (α:=api_Prog) H219 [SL S0 E0.Lines K0,SL P1 E0.Vols J1,SL T0 E0.Locks M0,SL U0 E0.Threads O0,SL V0 E0.Recover P0,SL W0 E0.Claims Q0] E0 from ⟨_,_,rfl,⟨_,_,rfl,n0,(p0.mono (cp (cp (cp (cp (cp F0.sub D0.sub) C0.sub) J0.sub) I0.sub) G0.sub))⟩,⟨_,_,rfl,⟨_,_,rfl,X1,(V1.mono (cp (cp (cp (cp (cp F0.sub D0.sub) C0.sub) J0.sub) I0.sub) G0.sub))⟩,⟨_,_,rfl,⟨_,_,rfl,u0,(B1.mono (cp (cp (cp (cp (cp F0.sub D0.sub) C0.sub) J0.sub) I0.sub) G0.sub))⟩,⟨_,_,rfl,⟨_,_,rfl,C1,(Y0.mono (cp (cp (cp (cp (cp F0.sub D0.sub) C0.sub) J0.sub) I0.sub) G0.sub))⟩,⟨_,_,rfl,⟨_,_,rfl,E1,(j0.mono (cp (cp (cp (cp (cp F0.sub D0.sub) C0.sub) J0.sub) I0.sub) G0.sub))⟩,⟨_,_,rfl,F1,(G1.mono (cp (cp (cp (cp (cp F0.sub D0.sub) C0.sub) J0.sub) I0.sub) G0.sub))⟩⟩⟩⟩⟩⟩)) V4) u λu o=>⟨λ_=>(St.ldsX u (cp (cp F0.sub D0.sub) C0.sub) i1),?_⟩
 refine dg 23 (St.ldsX u (cp (cp F0.sub D0.sub) C0.sub) i1) o rfl (λw hl=>Am o rfl rfl) λo=>ds 24 (St.ldsX u (cp (cp F0.sub D0.sub) C0.sub) i1) o rfl (Ad o rfl rfl) λo=>ds 25 (St.ldsX u (cp (cp F0.sub D0.sub) C0.sub) i1) o rfl (An (Ab o rfl) (congrArg Value.bool B3)) λo=>dn 26 (St.ldsX u (cp (cp F0.sub D0.sub) C0.sub) i1) o rfl λo=>dn 27 (St.ldsX u (cp (cp F0.sub D0.sub) C0.sub) i1) o rfl λo=>dn 28 (St.ldsX u (cp (cp F0.sub D0.sub) C0.sub) i1) o rfl λo=>dn 29 (St.ldsX u (cp (cp F0.sub D0.sub) C0.sub) i1) o rfl λo=>dn 30 (St.ldsX u (cp (cp F0.sub D0.sub) C0.sub) i1) o rfl λo=>dn 31 (St.ldsX u (cp (cp F0.sub D0.sub) C0.sub) i1) o rfl λo=>dn 32 (St.ldsX u (cp (cp F0.sub D0.sub) C0.sub) i1) o rfl λo=>dn 33 (St.ldsX u (cp (cp F0.sub D0.sub) C0.sub) i1) o rfl λo=>dn 34 (St.ldsX u (cp (cp F0.sub D0.sub) C0.sub) i1) o rfl λo=>dn 35 (St.ldsX u (cp (cp F0.sub D0.sub) C0.sub) i1) o rfl λo=>dn 36 (St.ldsX u (cp (cp F0.sub D0.sub) C0.sub) i1) o rfl λo=>ds 37 (St.ldsX u (cp (cp F0.sub D0.sub) C0.sub) i1) o rfl (Ae o rfl rfl) λo=>ds 38 (St.ldsX u (cp (cp F0.sub D0.sub) C0.sub) i1) o rfl (Ab o rfl) λo=>dn 39 (St.ldsX u (cp (cp F0.sub D0.sub) C0.sub) i1) o rfl λo=>ds 40 (St.ldsX u (cp (cp F0.sub D0.sub) C0.sub) i1) o rfl (Ae o rfl rfl) λo=>ds 41 (St.ldsX u (cp (cp F0.sub D0.sub) C0.sub) i1) o rfl (Bo o rfl) λo=>de (by kernel_rfl)<|tn<|wr<|?_
 obtain rfl:=si hm
 exact r1 o results8 rfl ⟨rfl,u.keep⟩
 refine rdS 42 u wide λw u=>dr 0 u o rfl (Ab o rfl) λo=>dr 1 u o rfl (Am o rfl rfl) λo=>dr 2 u o rfl (An (Ab o rfl) (congrArg Value.bool P2)) λo=>dg 3 u.ld o rfl (λw hl=>Ar o isAgg27 sizeOf27 rfl rfl (hl.cellsB t1)) λo=>dg 5 u.ld o rfl (λw hl=>Ab o rfl) λo=>dg 7 u.ld o rfl (λw hl=>Ar o isAgg27 sizeOf27 rfl rfl (hl.cellsB t0)) λo=>da1 (i:=4) (by kernel_rfl) ?_
 refine di (i:=4) rfl<|gy o rfl rfl<|c1 o rfl call20 (Di (Ai _) (Enc.mono (St.up u) (show Enc.rep (α:=api_Prog) H167 [SL S0 E0.Lines K0,SL I1 R0 X0,SL T0 E0.Locks M0,SL U0 E0.Threads O0,SL V0 E0.Recover P0,SL W0 E0.Claims Q0] (api_Prog.mk E0.Lines R0 E0.Locks E0.Threads E0.Recover E0.Claims) from ⟨_,_,rfl,⟨_,_,rfl,n0,(p0.mono (cp (cp J0.sub I0.sub) G0.sub))⟩,⟨_,_,rfl,⟨_,_,rfl,R1,(Q1.mono J0.sub)⟩,⟨_,_,rfl,⟨_,_,rfl,u0,(B1.mono (cp (cp J0.sub I0.sub) G0.sub))⟩,⟨_,_,rfl,⟨_,_,rfl,C1,(Y0.mono (cp (cp J0.sub I0.sub) G0.sub))⟩,⟨_,_,rfl,⟨_,_,rfl,E1,(j0.mono (cp (cp J0.sub I0.sub) G0.sub))⟩,⟨_,_,rfl,F1,(G1.mono (cp (cp J0.sub I0.sub) G0.sub))⟩⟩⟩⟩⟩⟩)) J3) ⟨rfl,trivial⟩ (λv w a hR o=>?_)
 obtain ⟨C3,X2,D3,rfl,M1,hk⟩:=hR
 replace u:=u.fresh hk
 replace M1:=M1 H167
 obtain ⟨H188,C0,B2,U1,u⟩:=St.frzS u .head M1
 refine ⟨λ_=>(St.ldsX u C0.sub i1),?_⟩
 obtain ⟨E3,Y2,e193,e194,C2,E2⟩:=SR.sub (sz:=1) B2 U1 rfl M2
 refine dg 6 (St.ldsX u C0.sub i1) o rfl (λw hl=>Gh (xs:=I3) (vl:=0) (vh:=(I2.length:Int)) o runUnderlying36 sizeOf9 rfl U1 rfl rfl M2 e193 e194) λo=>da1 (i:=8) (by kernel_rfl) ?_
 refine di (i:=8) rfl<|gy o rfl rfl<|c1 o rfl call20 (Di (Ai _) (Enc.mono (St.up u) (show Enc.rep (α:=api_Prog) H188 [SL S0 E0.Lines K0,SL P1 E0.Vols J1,SL T0 E0.Locks M0,SL U0 E0.Threads O0,SL V0 E0.Recover P0,SL W0 E0.Claims Q0] E0 from ⟨_,_,rfl,⟨_,_,rfl,n0,(p0.mono (cp (cp (cp C0.sub J0.sub) I0.sub) G0.sub))⟩,⟨_,_,rfl,⟨_,_,rfl,X1,(V1.mono (cp (cp (cp C0.sub J0.sub) I0.sub) G0.sub))⟩,⟨_,_,rfl,⟨_,_,rfl,u0,(B1.mono (cp (cp (cp C0.sub J0.sub) I0.sub) G0.sub))⟩,⟨_,_,rfl,⟨_,_,rfl,C1,(Y0.mono (cp (cp (cp C0.sub J0.sub) I0.sub) G0.sub))⟩,⟨_,_,rfl,⟨_,_,rfl,E1,(j0.mono (cp (cp (cp C0.sub J0.sub) I0.sub) G0.sub))⟩,⟨_,_,rfl,F1,(G1.mono (cp (cp (cp C0.sub J0.sub) I0.sub) G0.sub))⟩⟩⟩⟩⟩⟩)) K3) ⟨rfl,trivial⟩ (λv w a hR o=>?_)
 obtain ⟨F3,A3,G3,rfl,O1,hk⟩:=hR
 replace u:=u.fresh hk
 replace O1:=O1 H188
 obtain ⟨H206,D0,F2,G2,u⟩:=St.frzS u .head O1
 refine ⟨λ_=>(St.ldsX u (cp D0.sub C0.sub) i1),?_⟩
 refine da1 (i:=9) (by kernel_rfl) ?_
 refine di (i:=9) rfl<|gy o rfl rfl<|cr o call21 (Le (Ai _) C2 (St.srH u (E2.mono D0.sub)) G2 (St.srH u F2) L3) u λu o=>⟨λ_=>(St.ldsX u (cp D0.sub C0.sub) i1),?_⟩
 refine ds 10 (St.ldsX u (cp D0.sub C0.sub) i1) o rfl (Ad o rfl rfl) λo=>ds 11 (St.ldsX u (cp D0.sub C0.sub) i1) o rfl (An (Ab o rfl) (congrArg Value.bool T2)) λo=>dg 12 (St.ldsX u (cp D0.sub C0.sub) i1) o rfl (λw hl=>Ar o isAgg27 sizeOf27 rfl rfl (hl.cellsB t1)) λo=>dg 15 (St.ldsX u (cp D0.sub C0.sub) i1) o rfl (λw hl=>Ab o rfl) λo=>da1 (i:=13) (by kernel_rfl) ?_
 refine di (i:=13) rfl<|gy o rfl rfl<|c1 o rfl call20 (Di (Ai _) (Enc.mono (St.up u) (show Enc.rep (α:=api_Prog) H206 [SL S0 E0.Lines K0,SL I1 R0 X0,SL T0 E0.Locks M0,SL U0 E0.Threads O0,SL V0 E0.Recover P0,SL W0 E0.Claims Q0] (api_Prog.mk E0.Lines R0 E0.Locks E0.Threads E0.Recover E0.Claims) from ⟨_,_,rfl,⟨_,_,rfl,n0,(p0.mono (cp (cp (cp (cp D0.sub C0.sub) J0.sub) I0.sub) G0.sub))⟩,⟨_,_,rfl,⟨_,_,rfl,R1,(Q1.mono (cp (cp D0.sub C0.sub) J0.sub))⟩,⟨_,_,rfl,⟨_,_,rfl,u0,(B1.mono (cp (cp (cp (cp D0.sub C0.sub) J0.sub) I0.sub) G0.sub))⟩,⟨_,_,rfl,⟨_,_,rfl,C1,(Y0.mono (cp (cp (cp (cp D0.sub C0.sub) J0.sub) I0.sub) G0.sub))⟩,⟨_,_,rfl,⟨_,_,rfl,E1,(j0.mono (cp (cp (cp (cp D0.sub C0.sub) J0.sub) I0.sub) G0.sub))⟩,⟨_,_,rfl,F1,(G1.mono (cp (cp (cp (cp D0.sub C0.sub) J0.sub) I0.sub) G0.sub))⟩⟩⟩⟩⟩⟩)) E4) ⟨rfl,trivial⟩ (λv w a hR o=>?_)
 obtain ⟨I4,M3,J4,rfl,S1,hk⟩:=hR
 replace u:=u.fresh hk
 replace S1:=S1 H206
 obtain ⟨H219,F0,Q2,R2,u⟩:=St.frzS u .head S1
 refine ⟨λ_=>(St.ldsX u (cp (cp F0.sub D0.sub) C0.sub) i1),?_⟩
 refine da1 (i:=14) (by kernel_rfl) ?_
 refine di (i:=14) rfl<|gy o rfl rfl<|cr o call32 (Gl (Ai _) R2 (St.srH u Q2) F4) u λu o=>⟨λ_=>(St.ldsX u (cp (cp F0.sub D0.sub) C0.sub) i1),?_⟩
 refine dg 16 (St.ldsX u (cp (cp F0.sub D0.sub) C0.sub) i1) o rfl (λw hl=>Am o rfl rfl) λo=>ds 17 (St.ldsX u (cp (cp F0.sub D0.sub) C0.sub) i1) o rfl (Ad o rfl rfl) λo=>ds 18 (St.ldsX u (cp (cp F0.sub D0.sub) C0.sub) i1) o rfl (An (Ab o rfl) (congrArg Value.bool W2)) λo=>dn 19 (St.ldsX u (cp (cp F0.sub D0.sub) C0.sub) i1) o rfl λo=>dn 20 (St.ldsX u (cp (cp F0.sub D0.sub) C0.sub) i1) o rfl λo=>dn 21 (St.ldsX u (cp (cp F0.sub D0.sub) C0.sub) i1) o rfl λo=>dn 22 (St.ldsX u (cp (cp F0.sub D0.sub) C0.sub) i1) o rfl λo=>dn 23 (St.ldsX u (cp (cp F0.sub D0.sub) C0.sub) i1) o rfl λo=>ds 24 (St.ldsX u (cp (cp F0.sub D0.sub) C0.sub) i1) o rfl (Ae o rfl rfl) λo=>ds 25 (St.ldsX u (cp (cp F0.sub D0.sub) C0.sub) i1) o rfl (Ab o rfl) λo=>dn 26 (St.ldsX u (cp (cp F0.sub D0.sub) C0.sub) i1) o rfl λo=>dn 27 (St.ldsX u (cp (cp F0.sub D0.sub) C0.sub) i1) o rfl λo=>dn 28 (St.ldsX u (cp (cp F0.sub D0.sub) C0.sub) i1) o rfl λo=>dn 29 (St.ldsX u (cp (cp F0.sub D0.sub) C0.sub) i1) o rfl λo=>dn 30 (St.ldsX u (cp (cp F0.sub D0.sub) C0.sub) i1) o rfl λo=>dn 31 (St.ldsX u (cp (cp F0.sub D0.sub) C0.sub) i1) o rfl λo=>dn 32 (St.ldsX u (cp (cp F0.sub D0.sub) C0.sub) i1) o rfl λo=>dn 33 (St.ldsX u (cp (cp F0.sub D0.sub) C0.sub) i1) o rfl λo=>dn 34 (St.ldsX u (cp (cp F0.sub D0.sub) C0.sub) i1) o rfl λo=>dn 35 (St.ldsX u (cp (cp F0.sub D0.sub) C0.sub) i1) o rfl λo=>dn 36 (St.ldsX u (cp (cp F0.sub D0.sub) C0.sub) i1) o rfl λo=>ds 37 (St.ldsX u (cp (cp F0.sub D0.sub) C0.sub) i1) o rfl (Ae o rfl rfl) λo=>ds 38 (St.ldsX u (cp (cp F0.sub D0.sub) C0.sub) i1) o rfl (Ab o rfl) λo=>dn 39 (St.ldsX u (cp (cp F0.sub D0.sub) C0.sub) i1) o rfl λo=>ds 40 (St.ldsX u (cp (cp F0.sub D0.sub) C0.sub) i1) o rfl (Ae o rfl rfl) λo=>ds 41 (St.ldsX u (cp (cp F0.sub D0.sub) C0.sub) i1) o rfl (Bo o rfl) λo=>de (by kernel_rfl)<|tn<|wr<|?_
 obtain rfl:=si hm
 exact r1 o results8 rfl ⟨rfl,u.keep⟩
 refine rdS 42 u wide λw u=>dr 0 u o rfl (Ab o rfl) λo=>dr 1 u o rfl (Am o rfl rfl) λo=>dr 2 u o rfl (An (Ab o rfl) (congrArg Value.bool P2)) λo=>dg 3 u.ld o rfl (λw hl=>Ar o isAgg27 sizeOf27 rfl rfl (hl.cellsB t1)) λo=>dg 5 u.ld o rfl (λw hl=>Ab o rfl) λo=>dg 7 u.ld o rfl (λw hl=>Ar o isAgg27 sizeOf27 rfl rfl (hl.cellsB t0)) λo=>da1 (i:=4) (by kernel_rfl) ?_
 refine di (i:=4) rfl<|gy o rfl rfl<|c1 o rfl call20 (Di (Ai _) (Enc.mono (St.up u) (show Enc.rep (α:=api_Prog) H167 [SL S0 E0.Lines K0,SL I1 R0 X0,SL T0 E0.Locks M0,SL U0 E0.Threads O0,SL V0 E0.Recover P0,SL W0 E0.Claims Q0] (api_Prog.mk E0.Lines R0 E0.Locks E0.Threads E0.Recover E0.Claims) from ⟨_,_,rfl,⟨_,_,rfl,n0,(p0.mono (cp (cp J0.sub I0.sub) G0.sub))⟩,⟨_,_,rfl,⟨_,_,rfl,R1,(Q1.mono J0.sub)⟩,⟨_,_,rfl,⟨_,_,rfl,u0,(B1.mono (cp (cp J0.sub I0.sub) G0.sub))⟩,⟨_,_,rfl,⟨_,_,rfl,C1,(Y0.mono (cp (cp J0.sub I0.sub) G0.sub))⟩,⟨_,_,rfl,⟨_,_,rfl,E1,(j0.mono (cp (cp J0.sub I0.sub) G0.sub))⟩,⟨_,_,rfl,F1,(G1.mono (cp (cp J0.sub I0.sub) G0.sub))⟩⟩⟩⟩⟩⟩)) J3) ⟨rfl,trivial⟩ (λv w a hR o=>?_)
 obtain ⟨C3,X2,D3,rfl,M1,hk⟩:=hR
 replace u:=u.fresh hk
 replace M1:=M1 H167
 obtain ⟨H188,C0,B2,U1,u⟩:=St.frzS u .head M1
 refine ⟨λ_=>(St.ldsX u C0.sub i1),?_⟩
 obtain ⟨E3,Y2,e193,e194,C2,E2⟩:=SR.sub (sz:=1) B2 U1 rfl M2
 refine dg 6 (St.ldsX u C0.sub i1) o rfl (λw hl=>Gh (xs:=I3) (vl:=0) (vh:=(I2.length:Int)) o runUnderlying36 sizeOf9 rfl U1 rfl rfl M2 e193 e194) λo=>da1 (i:=8) (by kernel_rfl) ?_
 refine di (i:=8) rfl<|gy o rfl rfl<|c1 o rfl call20 (Di (Ai _) (Enc.mono (St.up u) (show Enc.rep (α:=api_Prog) H188 [SL S0 E0.Lines K0,SL P1 E0.Vols J1,SL T0 E0.Locks M0,SL U0 E0.Threads O0,SL V0 E0.Recover P0,SL W0 E0.Claims Q0] E0 from ⟨_,_,rfl,⟨_,_,rfl,n0,(p0.mono (cp (cp (cp C0.sub J0.sub) I0.sub) G0.sub))⟩,⟨_,_,rfl,⟨_,_,rfl,X1,(V1.mono (cp (cp (cp C0.sub J0.sub) I0.sub) G0.sub))⟩,⟨_,_,rfl,⟨_,_,rfl,u0,(B1.mono (cp (cp (cp C0.sub J0.sub) I0.sub) G0.sub))⟩,⟨_,_,rfl,⟨_,_,rfl,C1,(Y0.mono (cp (cp (cp C0.sub J0.sub) I0.sub) G0.sub))⟩,⟨_,_,rfl,⟨_,_,rfl,E1,(j0.mono (cp (cp (cp C0.sub J0.sub) I0.sub) G0.sub))⟩,⟨_,_,rfl,F1,(G1.mono (cp (cp (cp C0.sub J0.sub) I0.sub) G0.sub))⟩⟩⟩⟩⟩⟩)) K3) ⟨rfl,trivial⟩ (λv w a hR o=>?_)
 obtain ⟨F3,A3,G3,rfl,O1,hk⟩:=hR
 replace u:=u.fresh hk
 replace O1:=O1 H188
 obtain ⟨H206,D0,F2,G2,u⟩:=St.frzS u .head O1
 refine ⟨λ_=>(St.ldsX u (cp D0.sub C0.sub) i1),?_⟩
 refine da1 (i:=9) (by kernel_rfl) ?_
 refine di (i:=9) rfl<|gy o rfl rfl<|cr o call21 (Le (Ai _) C2 (St.srH u (E2.mono D0.sub)) G2 (St.srH u F2) L3) u λu o=>⟨λ_=>(St.ldsX u (cp D0.sub C0.sub) i1),?_⟩
 refine ds 10 (St.ldsX u (cp D0.sub C0.sub) i1) o rfl (Ad o rfl rfl) λo=>ds 11 (St.ldsX u (cp D0.sub C0.sub) i1) o rfl (An (Ab o rfl) (congrArg Value.bool T2)) λo=>dn 12 (St.ldsX u (cp D0.sub C0.sub) i1) o rfl λo=>dn 13 (St.ldsX u (cp D0.sub C0.sub) i1) o rfl λo=>dn 14 (St.ldsX u (cp D0.sub C0.sub) i1) o rfl λo=>dn 15 (St.ldsX u (cp D0.sub C0.sub) i1) o rfl λo=>dn 16 (St.ldsX u (cp D0.sub C0.sub) i1) o rfl λo=>ds 17 (St.ldsX u (cp D0.sub C0.sub) i1) o rfl (Ae o rfl rfl) λo=>ds 18 (St.ldsX u (cp D0.sub C0.sub) i1) o rfl (Ab o rfl) λo=>dn 19 (St.ldsX u (cp D0.sub C0.sub) i1) o rfl λo=>dn 20 (St.ldsX u (cp D0.sub C0.sub) i1) o rfl λo=>dn 21 (St.ldsX u (cp D0.sub C0.sub) i1) o rfl λo=>dn 22 (St.ldsX u (cp D0.sub C0.sub) i1) o rfl λo=>dn 23 (St.ldsX u (cp D0.sub C0.sub) i1) o rfl λo=>ds 24 (St.ldsX u (cp D0.sub C0.sub) i1) o rfl (Ae o rfl rfl) λo=>ds 25 (St.ldsX u (cp D0.sub C0.sub) i1) o rfl (Ab o rfl) λo=>dn 26 (St.ldsX u (cp D0.sub C0.sub) i1) o rfl λo=>dn 27 (St.ldsX u (cp D0.sub C0.sub) i1) o rfl λo=>dn 28 (St.ldsX u (cp D0.sub C0.sub) i1) o rfl λo=>dn 29 (St.ldsX u (cp D0.sub C0.sub) i1) o rfl λo=>dn 30 (St.ldsX u (cp D0.sub C0.sub) i1) o rfl λo=>dn 31 (St.ldsX u (cp D0.sub C0.sub) i1) o rfl λo=>dn 32 (St.ldsX u (cp D0.sub C0.sub) i1) o rfl λo=>dn 33 (St.ldsX u (cp D0.sub C0.sub) i1) o rfl λo=>dn 34 (St.ldsX u (cp D0.sub C0.sub) i1) o rfl λo=>dn 35 (St.ldsX u (cp D0.sub C0.sub) i1) o rfl λo=>dn 36 (St.ldsX u (cp D0.sub C0.sub) i1) o rfl λo=>ds 37 (St.ldsX u (cp D0.sub C0.sub) i1) o rfl (Ae o rfl rfl) λo=>ds 38 (St.ldsX u (cp D0.sub C0.sub) i1) o rfl (Ab o rfl) λo=>dn 39 (St.ldsX u (cp D0.sub C0.sub) i1) o rfl λo=>ds 40 (St.ldsX u (cp D0.sub C0.sub) i1) o rfl (Ae o rfl rfl) λo=>?_
 refine ds 41 (St.ldsX u (cp D0.sub C0.sub) i1) o rfl (Bo o rfl) λo=>de (by kernel_rfl)<|tn<|wr<|?_
 obtain rfl:=si hm
 exact r1 o results8 rfl ⟨rfl,u.keep⟩
 refine rxS 42 u wide (by kernel_rfl) λw u=>xm u o rfl λo=>xr u o (Am o rfl rfl) λo=>xr u o (An (Ab o rfl) (congrArg Value.bool P2)) λo=>?_
 iterate 7 refine xn u.ld o λo=>?_
 refine xr u o (Ae o rfl rfl) λo=>xm u o rfl λo=>?_
 iterate 5 refine xn u.ld o λo=>?_
 refine xr u o (Ae o rfl rfl) λo=>xm u o rfl λo=>?_
 iterate 5 refine xn u.ld o λo=>?_
 refine xr u o (Ae o rfl rfl) λo=>xm u o rfl λo=>?_
 iterate 11 refine xn u.ld o λo=>?_
 refine xr u o (Ae o rfl rfl) λo=>xm u o rfl λo=>xn u.ld o λo=>xr u o (Ae o rfl rfl) λo=>xr u o (Bo o rfl) λo=>xe<|tn<|wr<|?_
 obtain rfl:=si hm
 exact r1 o results8 rfl ⟨rfl,u.keep⟩
end Go.LM.LB
