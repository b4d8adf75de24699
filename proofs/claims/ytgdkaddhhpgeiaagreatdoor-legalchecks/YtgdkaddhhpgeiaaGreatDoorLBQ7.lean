/- Walks, lifted by program. No condition beyond the theorems' own premises. -/
import Derived.Test.YtgdkaddhhpgeiaaGreatDoorLBQ6
namespace Go.LM.LB
open Go Go.LL Go.MD Go.LM Go.Proofs Go.MD.LB Go.Proofs.Tryz
set_option maxRecDepth 100000
variable {N:Nat} {w0:World} {H:PH}
theorem Xl (hH:H.le w0) {cs2:List Value} {p1:api_Prog} (g3:Enc.rep H cs2 p1) {r:(List Str)} (hm:Z74 N p1=some r):Tot Tryz.prog 20 #[.agg cs2.toArray] w0 (λv w'=>∃ (R1:Option Addr) (V0:Nat) (S1:List Value),v=SL R1 r V0∧(∀ h,Rows h S1 r)∧Fresh w0 (sla 9 1 R1 r.length V0 S1) w'):=by
 unfold Z74 at hm
 refine fnM func20 rfl ntmps20 rfl rfl λa o=>?_
 have u:St w0 Nil [H] [] w0:=start1 hH
 replace u:=St.ds0 u
 obtain ⟨T1,W0,U1,X0,Y0,P0,j0,Q0,n0,R0,p0,S0,rfl,L3,M3,V1,X1,Y1,B2,C2,E2,F2,G2,I2,J2⟩:=Aq g3
 refine th<|rg<|ls<|Br (cs:=[SL T1 p1.Lines W0,SL U1 p1.Vols X0,SL Y0 p1.Locks P0,SL j0 p1.Threads Q0,SL n0 p1.Recover R0,SL p0 p1.Claims S0].toArray) o rfl u rfl rfl λU3 w a u o=>qa o rfl λo=>re<|tn<|th<|rg<|ls<|Au (cs:=[.slice none 0 0].toArray) o rfl u Tryz.zeroValue36 rfl λM0 w a u o=>re<|tn<|th<|th<|?_
 obtain ⟨I0,O3,hm⟩:=bs hm
 refine rg<|qv o (Ay o Tryz.isAgg27 Tryz.sizeOf27 rfl rfl (u.ld.cellsB t1)) λo=>ls<|c1 o rfl call65 (Ry (St.le u) (show Enc.rep (α:=api_Prog) H [SL T1 p1.Lines W0,SL U1 p1.Vols X0,SL Y0 p1.Locks P0,SL j0 p1.Threads Q0,SL n0 p1.Recover R0,SL p0 p1.Claims S0] p1 from ⟨_,_,rfl,⟨_,_,rfl,L3,M3⟩,⟨_,_,rfl,⟨_,_,rfl,V1,X1⟩,⟨_,_,rfl,⟨_,_,rfl,Y1,B2⟩,⟨_,_,rfl,⟨_,_,rfl,C2,E2⟩,⟨_,_,rfl,⟨_,_,rfl,F2,G2⟩,⟨_,_,rfl,I2,J2⟩⟩⟩⟩⟩⟩) O3) ⟨rfl,trivial⟩ (λv w a hR o=>?_)
 obtain ⟨H35,T0,cs38,rfl,K2,P3,O0,M2,hk⟩:=hR
 obtain ⟨u,O0⟩:=And.intro (St.passH u hk O0 M2) (St.extc u O0)
 obtain ⟨O2,B1,P2,C1,Q2,E1,R2,F1,T2,G1,U2,I1,rfl,V2,W2,X2,Y2,A3,B3,C3,D3,E3,F3,G3,I3⟩:=Aq P3
 refine re<|tn<|wb<|?_
 replace o:Fr 15 [(3,PT M0),(6,.func (.func 108) #[] #[PT T0])] _:=o.has ⟨rfl,rfl,trivial⟩
 replace u:=u.nilS 9 1
 replace u:=u.pk [3,0,0] rfl
 obtain ⟨q64,Q3,hm⟩:=bs hm
 refine rf (ŝ:=q64) (lb:=[PT T0]) (ps:=[7,8]) (I:=λ(E0:(List Str)) (K0:PH) (L:List HA)=>∃ (F0:Option Addr) (C0:Nat) (G0:List Value),L=[sla 9 1 F0 E0.length C0 G0,bk M0 [SL F0 E0 C0] 36]∧(∀ b o,H35 b=some o→K0 b=some o)∧Rows K0 G0 E0) (J:=λ(_:Empty) (_:Code) (_:PH) (_:List HA)=>False) (λ(s:(List Str)) (x:(api_Cell×Int))=>Z75 s x) (λ(H:PH) (args:List Value) (x:api_Cell×Int)=>∃ (cs0:List Value),args=[.agg cs0.toArray,i6 x.2]∧Enc.rep H cs0 x.1) o rfl call108 rfl (by rintro H args x ⟨_,rfl,_⟩;rfl) u ⟨none,0,[],rfl,i2,.nil⟩ (by rintro E0 H Hn L hs ⟨F0,C0,G0,rfl,hu,J0⟩;exact ⟨_,_,_,rfl,(cp hs hu),(J0.mono hs)⟩) (λt=>t.elim) (λlq C Lc w1 hyc hcm hc hle hok hdis=>Kw (Sa hle hyc hcm hc (show Enc.rep (α:=api_Prog) H35 [SL O2 I0.Lines B1,SL P2 I0.Vols C1,SL Q2 I0.Locks E1,SL R2 I0.Threads F1,SL T2 I0.Recover G1,SL U2 I0.Claims I1] I0 from ⟨_,_,rfl,⟨_,_,rfl,V2,W2⟩,⟨_,_,rfl,⟨_,_,rfl,X2,Y2⟩,⟨_,_,rfl,⟨_,_,rfl,A3,B3⟩,⟨_,_,rfl,⟨_,_,rfl,C3,D3⟩,⟨_,_,rfl,⟨_,_,rfl,E3,F3⟩,⟨_,_,rfl,G3,I3⟩⟩⟩⟩⟩⟩) K2 (Iq hok) (Hd hdis) Q3)) ?_ ?_ ?_
 intro l X Y s D0 r K0 Lu args w0 a K Qr hI hex hm o u hK hN hR
 obtain ⟨E0,hsq⟩:∃ v,v=s:=⟨_,rfl⟩
 subst hsq
 obtain ⟨F0,C0,G0,rfl,J1,J0⟩:=hI
 replace hm:Z75 E0 D0=some r:=hm
 unfold Z75 at hm
 obtain ⟨cs125,rfl,J3⟩:=hex
 replace o:Fr 15 [(8,i6 D0.2),(7,.agg cs125.toArray),(3,PT M0),(6,.func (.func 108) #[] #[PT T0])] a:=o
 obtain rfl:=Bj J3
 refine rg<|ls<|Au (cs:=[Ac [],i6 0,i6 0].toArray) o rfl u Tryz.zeroValue53 rfl λR3 w a u o=>ls<|Az o u sizeOf53 rfl rfl rfl rfl (Al rfl) .head λw u=>re<|?_
 replace u:=u.pk [1,0,0,0] rfl
 refine tn<|hK _ _ _ _ u λw u=>wb<|?_
 obtain ⟨S3,K3,hm⟩:=bs hm
 refine rg<|qv o (Ag o Tryz.isAgg36 rfl (u.ld.cellB t3 rfl)) λo=>qv o (Af o Dq rfl) λo=>qv o (Ag o isAgg9 rfl (u.ld.cellB t1 rfl)) λo=>ls<|Bh (e:=9) (sz:=1) [Ac D0.1.Name] o rfl u rfl rfl rfl (λw=>by kernel_rfl) λT3 w a u o=>?_
 have M1:Rows (α:=Str) K0 [Ac D0.1.Name] ([D0.1.Name]:List Str):=(.cons (c:=[Ac D0.1.Name]) rfl .nil)
 refine ls<|Bw (α:=Str) (xs:=E0) (ys:=([D0.1.Name]:List Str)) o rfl u underlying36 Pm rfl (by decide) rfl rfl rfl t3 J0 (u.rdO t0) M1 K3 λO1 u0 P1 w a Q1 hU o=>?_
 replace u:=hU _ (.tail (.tail (.tail .head)))
 replace u:=u.drop .head
 refine ls<|Ax o u sizeOf36 rfl rfl rfl rfl (.tail (.tail (.tail .head))) .zero λw u=>re<|bn<|?_
 obtain rfl:=si hm
 replace u:=u.pk [0,1,1] rfl
 exact hN _ _ _ _ _ rfl (ExtM.refl _ _ _) ⟨O1,u0,P1,rfl,J1,Q1⟩ u
 rintro E0 D137 K0 Lu a w rfl ⟨F0,C0,G0,rfl,huHA1,J0⟩ U0 o u
 replace U0:=ExtM.nil U0
 try dsimp only at hm
 replace o:Fr ⟨15,(D137 :: [])⟩ [(3,PT M0),(6,.func (.func 108) #[] #[PT T0])] a:=o
 replace u:St w0 Nil [K0] [dsA (D137 :: []),sla 9 1 F0 E0.length C0 G0,bk M0 [SL F0 E0 C0] 36] w:=u
 refine bn<|tn<|th<|rg<|qv o (Ag o Tryz.isAgg36 rfl (u.ld.cellB t2 rfl)) λo=>qa o rfl λo=>re<|tn<|wr<|?_
 obtain rfl:=si hm
 exact rM (.inl rfl) o u λw u=>⟨_,Xu o rfl rfl,⟨_,_,_,rfl,(λ_=>Rows.ind J0),u.endFresh t0⟩⟩
 exact λt=>t.elim
theorem Yg (hH:H.le w0) {J0:Option Addr} {D0:Nat} {p1:(List Str)} (Y0:p1.length≤D0) (P0:SR H J0 p1) {oa7:Option Addr} {cap8:Nat} {p6:(List Str)} (j0:p6.length≤cap8) (K0:SR H oa7 p6) {r:Bool} (hm:Z6d N p1 p6=some r):Tot Tryz.prog 21 #[SL J0 p1 D0,SL oa7 p6 cap8] w0 (λv w'=>v=.bool r∧Keep Nil w0 w'):=by
 unfold Z6d at hm
 refine fn0 func21 rfl ntmps21 rfl rfl λa o=>?_
 have u:St w0 Nil [H] [] w0:=start1 hH
 refine th<|rg<|qa o rfl λo=>re<|tn<|th<|th<|rg<|qm o rfl λo=>qv o (Ak (α:=Str) (xs:=p1) o runUnderlying36 rfl) λo=>qm o rfl λo=>qv o (Ak (α:=Str) (xs:=p6) o runUnderlying36 rfl) λo=>qv o (Bt o rfl rfl) λo=>re<|?_
 rcases bip hm with ⟨E0,hm⟩ | ⟨E0,hm⟩
 refine tn<|ctv o rfl E0<|th<|rg<|qa o rfl λo=>re<|tn<|wr<|tr<|?_
 obtain rfl:=si hm
 exact r1 o results21 rfl ⟨rfl,u.keep⟩
 refine tn<|cfv o rfl E0<|wk<|tn<|th<|th<|rg<|qa o rfl λo=>re<|tn<|Av (λa w=>Z6e=some r∧Fr 26 [] a∧St w0 Nil [H] [] w) ?_ ?_
 refine wb<|lp (α:=Nat×Int) (λgh a w=>match gh with | (C0,I0)=>(Z6f N Z6e p1 p6) C0 I0=some r∧Fr 26 [(0,SL J0 p1 D0),(1,SL oa7 p6 cap8),(5,i6 I0)] a∧St w0 Nil [H] [] w) (λgh=>gh.1) (N,0) ⟨hm,o.hs,u⟩ ?_
 rintro ⟨C0,I0⟩ a w ⟨hm,o,u⟩
 obtain _ | C0:=C0
 simp [Z6f] at hm
 rw [Z6f] at hm
 refine th<|th<|rg<|qm o rfl λo=>qm o rfl λo=>qv o (Ak (α:=Str) (xs:=p1) o runUnderlying36 rfl) λo=>qv o (Ao o rfl rfl) λo=>re<|?_
 rcases bip hm with ⟨F0,hm⟩ | ⟨F0,hm⟩
 refine tn<|ctv o rfl F0<|wk<|tn<|th<|wb<|th<|?_
 obtain ⟨Q0,M0,hm⟩:=bs hm
 obtain ⟨U0,V0,S0⟩:=SR.get P0 M0
 obtain rfl:U0=[Ac Q0]:=V0
 obtain ⟨R0,O0,hm⟩:=bs hm
 obtain ⟨W0,X0,T0⟩:=SR.get K0 O0
 obtain rfl:W0=[Ac R0]:=X0
 refine rxS 9 u wide (by kernel_rfl) λw u=>?_
 iterate 2 refine xq u.ld o (λw hl=>Ab o rfl) λo=>?_
 refine xr u o (Am o runUnderlying36 sizeOf9 rfl rfl M0 (SR.oaI P0 (by decide) M0)) λo=>xq u.ld o (λw hl=>Ag o isAgg9 rfl (PH.le.cell (Lds.le hl) (S0 0 _ rfl))) λo=>?_
 iterate 2 refine xq u.ld o (λw hl=>Ab o rfl) λo=>?_
 refine xr u o (Am o runUnderlying36 sizeOf9 rfl rfl O0 (SR.oaI K0 (by decide) O0)) λo=>xq u.ld o (λw hl=>Ag o isAgg9 rfl (PH.le.cell (Lds.le hl) (T0 0 _ rfl))) λo=>xr u o (Cx (m:=Q0) (n:=R0) o rfl rfl) λo=>xe<|?_
 rcases bip hm with ⟨G0,hm⟩ | ⟨G0,hm⟩
 refine tn<|ctv o rfl G0<|th<|rg<|qa o rfl λo=>re<|tn<|wr<|br<|tr<|tr<|br<|tr<|?_
 obtain rfl:=si hm
 exact r1 o results21 rfl ⟨rfl,u.keep⟩
 refine tn<|cfv o rfl G0<|wk<|bn<|tn<|rg<|qm o rfl λo=>qv o (Ap o rfl rfl) λo=>qa o rfl λo=>re<|tn<|?_
 exact ⟨(C0,(IntKind.i64.wrap (I0+1))),⟨hm,o.hs,u⟩,Nat.lt_succ_self _⟩
 refine tn<|cfv o rfl F0<|we<|tx<|tx<|bx<|tn<|?_
 exact ⟨hm,o.has trivial,u⟩
 rintro a w ⟨hm,o,u⟩
 unfold Z6e at hm
 refine th<|rg<|qa o rfl λo=>re<|tn<|wr<|?_
 obtain rfl:=si hm
 exact r1 o results21 rfl ⟨rfl,u.keep⟩
theorem Jbl (hH:H.le w0) {cs2:List Value} {p1:api_Prog} (g3:Enc.rep H cs2 p1) {r:Int} (hm:Z7q N p1=some r):Tot Tryz.prog 23 #[.agg cs2.toArray] w0 (λv w'=>v=i6 r∧Keep Nil w0 w'):=by
 unfold Z7q at hm
 refine fn0 func23 rfl ntmps23 rfl rfl λa o=>?_
 have u:St w0 Nil [H] [] w0:=start1 hH
 obtain ⟨Q0,G0,j0,T0,U0,K0,V0,M0,W0,O0,X0,P0,rfl,S1,R0,u0,B1,C1,E1,F1,G1,I1,J1,M1,O1⟩:=Aq g3
 refine th<|rg<|ls<|Br (cs:=[SL Q0 p1.Lines G0,SL j0 p1.Vols T0,SL U0 p1.Locks K0,SL V0 p1.Threads M0,SL W0 p1.Recover O0,SL X0 p1.Claims P0].toArray) o rfl u rfl rfl λT1 w a u o=>qa o rfl λo=>re<|tn<|th<|rg<|qa o rfl λo=>re<|tn<|th<|th<|rg<|qv o (Af o Ca rfl) λo=>qv o (Ag o isAgg22 rfl (u.ld.cellB t0 rfl)) λo=>qv o (Ak (α:=(List api_Cell)) (xs:=p1.Lines) o runUnderlying22 rfl) λo=>qm o rfl λo=>re<|tn<|Av (λa w=>∃ (I0:Int),Z7r I0=some r∧Fr 19 [(3,i6 I0)] a∧St w0 Nil [H] [] w) ?_ ?_
 replace u:=u.pickL .nil
 refine wb<|lp (α:=Nat×Int×Int) (λgh a w=>match gh with | (C0,D0,F0)=>(Z7s N Z7r p1) C0 D0 F0=some r∧Fr 19 [(3,i6 D0),(7,SL Q0 p1.Lines G0),(8,i6 (p1.Lines.length:Int)),(9,i6 F0)] a∧St w0 Nil [H] [] w) (λgh=>gh.1) (N,0,0) ⟨hm,o.hs,u⟩ ?_
 rintro ⟨C0,D0,F0⟩ a w ⟨hm,o,u⟩
 obtain _ | C0:=C0
 simp [Z7s] at hm
 rw [Z7s] at hm
 refine th<|rg<|qv o (Ao o rfl rfl) λo=>re<|?_
 rcases bip hm with ⟨E0,hm⟩ | ⟨E0,hm⟩
 refine tn<|th<|ctv o rfl E0<|wk<|tn<|th<|wb<|th<|?_
 obtain ⟨S0,J0,hm⟩:=bs hm
 obtain ⟨U1,n0,Y0⟩:=SR.get R0 J0
 obtain ⟨P1,p0,rfl,Q1,R1⟩:=n0
 refine rg<|qv o (Am o Tryz.runUnderlying22 Tryz.sizeOf23 rfl rfl J0 (SR.oaI R0 (by decide) J0)) λo=>qv o (Ag o isAgg23 rfl (PH.le.cell (Lds.le u.ld) (Y0 0 _ rfl))) λo=>qa o rfl λo=>re<|tn<|rg<|qm o rfl λo=>qm o rfl λo=>qv o (Ak (α:=api_Cell) (xs:=S0) o runUnderlying23 rfl) λo=>qv o (Ap o rfl rfl) λo=>qa o rfl λo=>re<|bn<|tn<|rg<|qv o (Ap o rfl rfl) λo=>qm o rfl λo=>re<|tn<|?_
 exact ⟨(C0,(IntKind.i64.wrap (D0+(S0.length:Int))),(IntKind.i64.wrap (F0+1))),⟨hm,o.hs,u⟩,Nat.lt_succ_self _⟩
 refine tn<|th<|cfv o rfl E0<|we<|tx<|tx<|bx<|tn<|?_
 exact ⟨D0,hm,o.has ⟨rfl,trivial⟩,u⟩
 rintro a w ⟨I0,hm,o,u⟩
 unfold Z7r at hm
 refine th<|rg<|qm o rfl λo=>qa o rfl λo=>re<|tn<|wr<|?_
 obtain rfl:=si hm
 exact r1 o results23 rfl ⟨rfl,u.keep⟩
theorem Rq (hH:H.le w0) {cs2:List Value} {p1:api_Prog} (g3:Enc.rep H cs2 p1) {p4:Int} {r:Int} (hm:Z7k N p1 p4=some r):Tot Tryz.prog 25 #[.agg cs2.toArray,i6 p4] w0 (λv w'=>v=i6 r∧Keep Nil w0 w'):=by
 unfold Z7k at hm
 refine fnM func25 rfl ntmps25 rfl rfl λa o=>?_
 have u:St w0 Nil [H] [] w0:=start1 hH
 replace u:=St.ds0 u
 obtain ⟨M1,Y0,O1,M0,j0,O0,n0,P0,p0,Q0,u0,R0,rfl,D3,E3,P1,Q1,R1,S1,T1,U1,V1,X1,Y1,B2⟩:=Aq g3
 refine th<|rg<|ls<|Br (cs:=[SL M1 p1.Lines Y0,SL O1 p1.Vols M0,SL j0 p1.Locks O0,SL n0 p1.Threads P0,SL p0 p1.Recover Q0,SL u0 p1.Claims R0].toArray) o rfl u rfl rfl λJ3 w a u o=>ls<|Br (cs:=[i6 p4].toArray) o rfl u rfl rfl λE0 w a u o=>ls<|Au (cs:=[i6 0].toArray) o rfl u zeroValue3 rfl λC0 w a u o=>re<|tn<|th<|rg<|ls<|Au (cs:=[i6 0].toArray) o rfl u Tryz.zeroValue3 rfl λF0 w a u o=>ls<|Ax o u sizeOf3 rfl rfl rfl rfl .head .zero λw u=>re<|tn<|th<|th<|?_
 obtain ⟨D0,F3,hm⟩:=bs hm
 refine rg<|qv o (Ay o Tryz.isAgg27 Tryz.sizeOf27 rfl rfl (u.ld.cellsB t3)) λo=>ls<|c1 o rfl call65 (Ry (St.le u) (show Enc.rep (α:=api_Prog) H [SL M1 p1.Lines Y0,SL O1 p1.Vols M0,SL j0 p1.Locks O0,SL n0 p1.Threads P0,SL p0 p1.Recover Q0,SL u0 p1.Claims R0] p1 from ⟨_,_,rfl,⟨_,_,rfl,D3,E3⟩,⟨_,_,rfl,⟨_,_,rfl,P1,Q1⟩,⟨_,_,rfl,⟨_,_,rfl,R1,S1⟩,⟨_,_,rfl,⟨_,_,rfl,T1,U1⟩,⟨_,_,rfl,⟨_,_,rfl,V1,X1⟩,⟨_,_,rfl,Y1,B2⟩⟩⟩⟩⟩⟩) F3) ⟨rfl,trivial⟩ (λv w a hR o=>?_)
 obtain ⟨H38,J0,cs41,rfl,C2,G3,K0,E2,hk⟩:=hR
 obtain ⟨u,K0⟩:=And.intro (St.passH u hk K0 E2) (St.extc u K0)
 obtain ⟨F2,C1,G2,E1,I2,F1,J2,G1,K2,I1,M2,J1,rfl,O2,P2,Q2,R2,T2,U2,V2,W2,X2,Y2,A3,B3⟩:=Aq G3
 refine re<|tn<|wb<|?_
 replace o:Fr 18 [(3,PT E0),(4,PT C0),(5,PT F0),(9,.func (.func 108) #[] #[PT J0])] _:=o.hs
 replace u:=u.pk [4,2,1,0] rfl
 obtain ⟨q67,I3,hm⟩:=bs hm
 refine rf (ŝ:=q67) (lb:=[PT J0]) (ps:=[10,11]) (I:=λ(G0:Int) (S0:PH) (L:List HA)=>L=[bk E0 [i6 p4] 3,bk C0 [i6 0] 3,bk F0 [i6 G0] 3]∧(∀ b o,H38 b=some o→S0 b=some o)) (J:=λ(T0:Int) (c:Code) (B1:PH) (L:List HA)=>c=.ret∧L=[bk C0 [i6 T0] 3]∧(∀ b o,H38 b=some o→B1 b=some o)) (λ(s:Int) (x:(api_Cell×Int))=>(Z7l p4) s x) (λ(H:PH) (args:List Value) (x:api_Cell×Int)=>∃ (cs0:List Value),args=[.agg cs0.toArray,i6 x.2]∧Enc.rep H cs0 x.1) o rfl call108 rfl (by rintro H args x ⟨_,rfl,_⟩;rfl) u ⟨rfl,i2⟩ (by rintro G0 H Hn L hs ⟨rfl,hu⟩;exact ⟨rfl,(cp hs hu)⟩) (by rintro T0 _ H Hn L hs ⟨rfl,rfl,hu⟩;exact ⟨rfl,rfl,(cp hs hu)⟩) (λlq C Lc w1 hyc hcm hc hle hok hdis=>Kw (Sa hle hyc hcm hc (show Enc.rep (α:=api_Prog) H38 [SL F2 D0.Lines C1,SL G2 D0.Vols E1,SL I2 D0.Locks F1,SL J2 D0.Threads G1,SL K2 D0.Recover I1,SL M2 D0.Claims J1] D0 from ⟨_,_,rfl,⟨_,_,rfl,O2,P2⟩,⟨_,_,rfl,⟨_,_,rfl,Q2,R2⟩,⟨_,_,rfl,⟨_,_,rfl,T2,U2⟩,⟨_,_,rfl,⟨_,_,rfl,V2,W2⟩,⟨_,_,rfl,⟨_,_,rfl,X2,Y2⟩,⟨_,_,rfl,A3,B3⟩⟩⟩⟩⟩⟩) C2 (Iq hok) (Hd hdis) I3)) ?_ ?_ ?_
 intro l X Y s U0 r S0 Lu args w0 a K Qr hI hex hm o u hK hN hR
 obtain ⟨G0,hsq⟩:∃ v,v=s:=⟨_,rfl⟩
 subst hsq
 obtain ⟨rfl,V0⟩:=hI
 replace hm:(Z7l p4) G0 U0=some r:=hm
 unfold Z7l at hm
 obtain ⟨cs128,rfl,C3⟩:=hex
 replace o:Fr 18 [(11,i6 U0.2),(10,.agg cs128.toArray),(3,PT E0),(4,PT C0),(5,PT F0),(9,.func (.func 108) #[] #[PT J0])] a:=o
 obtain rfl:=Bj C3
 refine rg<|qa o rfl λo=>re<|tn<|hK _ _ _ _ u λw u=>wb<|th<|th<|rg<|qv o (Ag o Tryz.isAgg3 rfl (u.ld.cellB t3 rfl)) λo=>qv o (Ag o isAgg3 rfl (u.ld.cellB t1 rfl)) λo=>qv o (An o rfl rfl) λo=>re<|?_
 rcases bip hm with ⟨I0,hm⟩ | ⟨I0,hm⟩
 refine tn<|ctv o rfl I0<|th<|rg<|qm o rfl λo=>ls<|Ax o u sizeOf3 rfl rfl rfl rfl (.tail (.tail .head)) .zero λw u=>re<|tn<|wr<|tr<|br<|?_
 obtain rfl:=si hm
 replace u:=u.pk [0,1] rfl
 exact hR _ _ _ _ _ _ _ rfl rfl (ExtM.refl _ _ _) ⟨rfl,rfl,V0⟩ u
 refine tn<|cfv o rfl I0<|wk<|tn<|rg<|qv o (Ag o Tryz.isAgg3 rfl (u.ld.cellB t3 rfl)) λo=>qv o (Ap o rfl rfl) λo=>ls<|Ax o u sizeOf3 rfl rfl rfl rfl (.tail (.tail (.tail .head))) .zero λw u=>re<|bn<|?_
 obtain rfl:=si hm
 exact hN _ _ _ _ _ rfl (ExtM.refl _ _ _) ⟨rfl,V0⟩ u
 rintro G0 D131 S0 Lu a w rfl ⟨rfl,huHA1⟩ W0 o u
 replace W0:=ExtM.nil W0
 try dsimp only at hm
 replace o:Fr ⟨18,(D131 :: [])⟩ [(3,PT E0),(4,PT C0),(5,PT F0),(9,.func (.func 108) #[] #[PT J0])] a:=o
 replace u:St w0 Nil [S0] [dsA (D131 :: []),bk E0 [i6 p4] 3,bk C0 [i6 0] 3,bk F0 [i6 G0] 3] w:=u
 refine bn<|tn<|th<|rg<|ls<|Ax o u Tryz.sizeOf3 rfl rfl rfl rfl (.tail (.tail .head)) .zero λw u=>re<|tn<|wr<|?_
 obtain rfl:=si hm
 exact rM (.inl rfl) o u λw u=>⟨_,Ya o rfl rfl isAgg3 (u.ld.cellB t1 rfl),⟨rfl,u.keep⟩⟩
 rintro T0 _ D133 B1 Lu a w rfl ⟨rfl,rfl,huHA3⟩ X0 o u
 replace X0:=ExtM.nil X0
 try dsimp only at hm
 replace o:Fr ⟨18,(D133 :: [])⟩ [(3,PT E0),(4,PT C0),(5,PT F0),(9,.func (.func 108) #[] #[PT J0])] a:=o
 replace u:St w0 Nil [B1] [dsA (D133 :: []),bk C0 [i6 T0] 3] w:=u
 refine wr<|br<|tr<|?_
 obtain rfl:=si hm
 exact rM (.inl rfl) o u λw u=>⟨_,Ya o rfl rfl isAgg3 (u.ld.cellB t0 rfl),⟨rfl,u.keep⟩⟩
theorem Jb7 (hH:H.le w0) {cs2:List Value} {p1:api_Prog} (g3:Enc.rep H cs2 p1) {r:(List Str)} (hm:Z7m N p1=some r):Tot Tryz.prog 27 #[.agg cs2.toArray] w0 (λv w'=>∃ (p0:Option Addr) (S0:Nat) (u0:List Value),v=SL p0 r S0∧(∀ h,Rows h u0 r)∧Fresh w0 (sla 9 1 p0 r.length S0 u0) w'):=by
 unfold Z7m at hm
 refine fn0 func27 rfl ntmps27 rfl rfl λa o=>?_
 have u:St w0 Nil [H] [] w0:=start1 hH
 obtain ⟨R1,B1,S1,C1,T0,Q0,E1,X0,F1,Y0,G1,j0,rfl,K2,M2,X1,Y1,B2,U0,C2,E2,F2,G2,I2,J2⟩:=Aq g3
 refine th<|rg<|ls<|Br (cs:=[SL R1 p1.Lines B1,SL S1 p1.Vols C1,SL T0 p1.Locks Q0,SL E1 p1.Threads X0,SL F1 p1.Recover Y0,SL G1 p1.Claims j0].toArray) o rfl u rfl rfl λO2 w a u o=>qa o rfl λo=>re<|tn<|th<|rg<|qa o rfl λo=>re<|tn<|th<|th<|rg<|qv o (Af o Ed rfl) λo=>qv o (Ag o isAgg23 rfl (u.ld.cellB t0 rfl)) λo=>qv o (Ak (α:=api_Cell) (xs:=p1.Locks) o runUnderlying23 rfl) λo=>qm o rfl λo=>re<|tn<|Av (λa w=>∃ (I0:(List Str)) (M0:Option Addr) (E0:Nat) (O0:List Value),Z7n I0=some r∧Fr 20 [(3,SL M0 I0 E0)] a∧St w0 Nil [H] [sla 9 1 M0 I0.length E0 O0] w∧Rows H O0 I0) ?_ ?_
 replace u:=u.nilS 9 1
 replace u:=u.pk [0] rfl
 refine wb<|lp (α:=Nat×(List Str)×Int) (λgh a w=>match gh with | (J0,D0,R0)=>∃ (F0:Option Addr) (C0:Nat) (G0:List Value),(Z7o N Z7n p1) J0 D0 R0=some r∧Fr 20 [(3,SL F0 D0 C0),(7,SL T0 p1.Locks Q0),(8,i6 (p1.Locks.length:Int)),(9,i6 R0)] a∧St w0 Nil [H] [sla 9 1 F0 D0.length C0 G0] w∧Rows H G0 D0) (λgh=>gh.1) (N,[],0) ⟨none,0,[],hm,o.hs,u,.nil⟩ ?_
 rintro ⟨J0,D0,R0⟩ a w ⟨F0,C0,G0,hm,o,u,V0⟩
 obtain _ | J0:=J0
 simp [Z7o] at hm
 rw [Z7o] at hm
 refine th<|rg<|qv o (Ao o rfl rfl) λo=>re<|?_
 rcases bip hm with ⟨P0,hm⟩ | ⟨P0,hm⟩
 refine tn<|th<|ctv o rfl P0<|wk<|tn<|th<|wb<|th<|?_
 obtain ⟨K0,W0,hm⟩:=bs hm
 obtain ⟨P2,T1,I1⟩:=SR.get U0 W0
 obtain rfl:=Bj T1
 refine rg<|qv o (Am o Tryz.runUnderlying23 Tryz.sizeOf53 rfl rfl W0 (SR.oaI U0 (by decide) W0)) λo=>qv o (Ay o isAgg53 sizeOf53 rfl rfl (λj v hj=>PH.le.cell (Lds.le u.ld) (I1 j v hj))) λo=>ls<|Au (cs:=[Ac [],i6 0,i6 0].toArray) o rfl u zeroValue53 rfl λQ2 w a u o=>ls<|Az o u sizeOf53 rfl rfl rfl rfl (Al rfl) .head λw u=>re<|tn<|?_
 obtain ⟨U1,V1,hm⟩:=bs hm
 refine rg<|qm o rfl λo=>qv o (Af o Dq rfl) λo=>qv o (Ag o isAgg9 rfl (u.ld.cellB t0 rfl)) λo=>ls<|Bh (e:=9) (sz:=1) [Ac K0.Name] o rfl u rfl rfl rfl (λw=>by kernel_rfl) λR2 w a u o=>?_
 have J1:Rows (α:=Str) H [Ac K0.Name] ([K0.Name]:List Str):=(.cons (c:=[Ac K0.Name]) rfl .nil)
 refine ls<|Bw (α:=Str) (xs:=D0) (ys:=([K0.Name]:List Str)) o rfl u underlying36 Pm rfl (by decide) rfl rfl rfl t2 V0 (u.rdO t0) J1 V1 λM1 n0 O1 w a P1 hU o=>?_
 replace u:=hU _ (.tail (.tail .head))
 replace u:=u.drop .head
 refine qa o rfl λo=>re<|bn<|tn<|rg<|qv o (Ap o rfl rfl) λo=>qm o rfl λo=>re<|tn<|?_
 replace u:=u.pk [1] rfl
 exact ⟨(J0,U1,(IntKind.i64.wrap (R0+1))),⟨M1,n0,O1,hm,o.hs,u,P1⟩,Nat.lt_succ_self _⟩
 refine tn<|th<|cfv o rfl P0<|we<|tx<|tx<|bx<|tn<|?_
 exact ⟨D0,F0,C0,G0,hm,o.has ⟨rfl,trivial⟩,u,V0⟩
 rintro a w ⟨I0,M0,E0,O0,hm,o,u,Q1⟩
 unfold Z7n at hm
 refine th<|rg<|qm o rfl λo=>qa o rfl λo=>re<|tn<|wr<|?_
 obtain rfl:=si hm
 exact r1 o results27 rfl ⟨_,_,_,rfl,(λ_=>Rows.ind Q1),u.endFresh t0⟩
theorem Jb9 (hH:H.le w0) {cs2:List Value} {p1:api_Prog} (g3:Enc.rep H cs2 p1) {r:(List Int)} (hm:Z7i N p1=some r):Tot Tryz.prog 30 #[.agg cs2.toArray] w0 (λv w'=>∃ (R1:Option Addr) (V0:Nat) (S1:List Value),v=SL R1 r V0∧(∀ h,Rows h S1 r)∧Fresh w0 (sla 3 1 R1 r.length V0 S1) w'):=by
 unfold Z7i at hm
 refine fnM func30 rfl ntmps30 rfl rfl λa o=>?_
 have u:St w0 Nil [H] [] w0:=start1 hH
 replace u:=St.ds0 u
 obtain ⟨T1,W0,U1,X0,Y0,P0,j0,Q0,n0,R0,p0,S0,rfl,L3,M3,V1,X1,Y1,B2,C2,E2,F2,G2,I2,J2⟩:=Aq g3
 refine th<|rg<|ls<|Br (cs:=[SL T1 p1.Lines W0,SL U1 p1.Vols X0,SL Y0 p1.Locks P0,SL j0 p1.Threads Q0,SL n0 p1.Recover R0,SL p0 p1.Claims S0].toArray) o rfl u rfl rfl λU3 w a u o=>qa o rfl λo=>re<|tn<|th<|rg<|ls<|Au (cs:=[.slice none 0 0].toArray) o rfl u Tryz.zeroValue42 rfl λM0 w a u o=>re<|tn<|th<|th<|?_
 obtain ⟨I0,O3,hm⟩:=bs hm
 refine rg<|qv o (Ay o Tryz.isAgg27 Tryz.sizeOf27 rfl rfl (u.ld.cellsB t1)) λo=>ls<|c1 o rfl call65 (Ry (St.le u) (show Enc.rep (α:=api_Prog) H [SL T1 p1.Lines W0,SL U1 p1.Vols X0,SL Y0 p1.Locks P0,SL j0 p1.Threads Q0,SL n0 p1.Recover R0,SL p0 p1.Claims S0] p1 from ⟨_,_,rfl,⟨_,_,rfl,L3,M3⟩,⟨_,_,rfl,⟨_,_,rfl,V1,X1⟩,⟨_,_,rfl,⟨_,_,rfl,Y1,B2⟩,⟨_,_,rfl,⟨_,_,rfl,C2,E2⟩,⟨_,_,rfl,⟨_,_,rfl,F2,G2⟩,⟨_,_,rfl,I2,J2⟩⟩⟩⟩⟩⟩) O3) ⟨rfl,trivial⟩ (λv w a hR o=>?_)
 obtain ⟨H35,T0,cs38,rfl,K2,P3,O0,M2,hk⟩:=hR
 obtain ⟨u,O0⟩:=And.intro (St.passH u hk O0 M2) (St.extc u O0)
 obtain ⟨O2,B1,P2,C1,Q2,E1,R2,F1,T2,G1,U2,I1,rfl,V2,W2,X2,Y2,A3,B3,C3,D3,E3,F3,G3,I3⟩:=Aq P3
 refine re<|tn<|wb<|?_
 replace o:Fr 15 [(3,PT M0),(6,.func (.func 108) #[] #[PT T0])] _:=o.has ⟨rfl,rfl,trivial⟩
 replace u:=u.nilS 3 1
 replace u:=u.pk [3,0,0] rfl
 obtain ⟨q64,Q3,hm⟩:=bs hm
 refine rf (ŝ:=q64) (lb:=[PT T0]) (ps:=[7,8]) (I:=λ(E0:(List Int)) (K0:PH) (L:List HA)=>∃ (F0:Option Addr) (C0:Nat) (G0:List Value),L=[sla 3 1 F0 E0.length C0 G0,bk M0 [SL F0 E0 C0] 42]∧(∀ b o,H35 b=some o→K0 b=some o)∧Rows K0 G0 E0) (J:=λ(_:Empty) (_:Code) (_:PH) (_:List HA)=>False) (λ(s:(List Int)) (x:(api_Cell×Int))=>(Z7j N) s x) (λ(H:PH) (args:List Value) (x:api_Cell×Int)=>∃ (cs0:List Value),args=[.agg cs0.toArray,i6 x.2]∧Enc.rep H cs0 x.1) o rfl call108 rfl (by rintro H args x ⟨_,rfl,_⟩;rfl) u ⟨none,0,[],rfl,i2,.nil⟩ (by rintro E0 H Hn L hs ⟨F0,C0,G0,rfl,hu,J0⟩;exact ⟨_,_,_,rfl,(cp hs hu),(J0.mono hs)⟩) (λt=>t.elim) (λlq C Lc w1 hyc hcm hc hle hok hdis=>Kw (Sa hle hyc hcm hc (show Enc.rep (α:=api_Prog) H35 [SL O2 I0.Lines B1,SL P2 I0.Vols C1,SL Q2 I0.Locks E1,SL R2 I0.Threads F1,SL T2 I0.Recover G1,SL U2 I0.Claims I1] I0 from ⟨_,_,rfl,⟨_,_,rfl,V2,W2⟩,⟨_,_,rfl,⟨_,_,rfl,X2,Y2⟩,⟨_,_,rfl,⟨_,_,rfl,A3,B3⟩,⟨_,_,rfl,⟨_,_,rfl,C3,D3⟩,⟨_,_,rfl,⟨_,_,rfl,E3,F3⟩,⟨_,_,rfl,G3,I3⟩⟩⟩⟩⟩⟩) K2 (Iq hok) (Hd hdis) Q3)) ?_ ?_ ?_
 intro l X Y s D0 r K0 Lu args w0 a K Qr hI hex hm o u hK hN hR
 obtain ⟨E0,hsq⟩:∃ v,v=s:=⟨_,rfl⟩
 subst hsq
 obtain ⟨F0,C0,G0,rfl,J1,J0⟩:=hI
 replace hm:(Z7j N) E0 D0=some r:=hm
 unfold Z7j at hm
 obtain ⟨cs125,rfl,J3⟩:=hex
 replace o:Fr 15 [(8,i6 D0.2),(7,.agg cs125.toArray),(3,PT M0),(6,.func (.func 108) #[] #[PT T0])] a:=o
 obtain rfl:=Bj J3
 refine rg<|ls<|Au (cs:=[Ac [],i6 0,i6 0].toArray) o rfl u Tryz.zeroValue53 rfl λR3 w a u o=>ls<|Az o u sizeOf53 rfl rfl rfl rfl (Al rfl) .head λw u=>re<|?_
 replace u:=u.pk [1,0,0,0] rfl
 refine tn<|hK _ _ _ _ u λw u=>wb<|?_
 obtain ⟨S3,K3,hm⟩:=bs hm
 refine rg<|qv o (Ag o Tryz.isAgg42 rfl (u.ld.cellB t3 rfl)) λo=>qv o (Af o Fu rfl) λo=>qv o (Ag o isAgg3 rfl (u.ld.cellB t1 rfl)) λo=>ls<|Bh (e:=3) (sz:=1) [i6 D0.1.N] o rfl u rfl rfl rfl (λw=>by kernel_rfl) λT3 w a u o=>?_
 have M1:Rows (α:=Int) K0 [i6 D0.1.N] ([D0.1.N]:List Int):=(.cons (c:=[i6 D0.1.N]) rfl .nil)
 refine ls<|Bw (α:=Int) (xs:=E0) (ys:=([D0.1.N]:List Int)) o rfl u underlying42 Xm rfl (by decide) rfl rfl rfl t3 J0 (u.rdO t0) M1 K3 λO1 u0 P1 w a Q1 hU o=>?_
 replace u:=hU _ (.tail (.tail (.tail .head)))
 replace u:=u.drop .head
 refine ls<|Ax o u sizeOf42 rfl rfl rfl rfl (.tail (.tail (.tail .head))) .zero λw u=>re<|bn<|?_
 obtain rfl:=si hm
 replace u:=u.pk [0,1,1] rfl
 exact hN _ _ _ _ _ rfl (ExtM.refl _ _ _) ⟨O1,u0,P1,rfl,J1,Q1⟩ u
 rintro E0 D137 K0 Lu a w rfl ⟨F0,C0,G0,rfl,huHA1,J0⟩ U0 o u
 replace U0:=ExtM.nil U0
 try dsimp only at hm
 replace o:Fr ⟨15,(D137 :: [])⟩ [(3,PT M0),(6,.func (.func 108) #[] #[PT T0])] a:=o
 replace u:St w0 Nil [K0] [dsA (D137 :: []),sla 3 1 F0 E0.length C0 G0,bk M0 [SL F0 E0 C0] 42] w:=u
 refine bn<|tn<|th<|rg<|qv o (Ag o Tryz.isAgg42 rfl (u.ld.cellB t2 rfl)) λo=>qa o rfl λo=>re<|tn<|wr<|?_
 obtain rfl:=si hm
 exact rM (.inl rfl) o u λw u=>⟨_,Xu o rfl rfl,⟨_,_,_,rfl,(λ_=>Rows.ind J0),u.endFresh t0⟩⟩
 exact λt=>t.elim
theorem Jbz (hH:H.le w0) {J0:Option Addr} {D0:Nat} {p1:(List Int)} (_:p1.length≤D0) (P0:SR H J0 p1) {oa7:Option Addr} {cap8:Nat} {p6:(List Int)} (_:p6.length≤cap8) (K0:SR H oa7 p6) {r:Bool} (hm:Z62 N p1 p6=some r):Tot Tryz.prog 29 #[SL J0 p1 D0,SL oa7 p6 cap8] w0 (λv w'=>v=.bool r∧Keep Nil w0 w'):=by
 unfold Z62 at hm
 refine fn0 func29 rfl ntmps29 rfl rfl λa o=>?_
 have u:St w0 Nil [H] [] w0:=start1 hH
 refine th<|rg<|qa o rfl λo=>re<|tn<|th<|th<|rg<|qm o rfl λo=>qv o (Ak (α:=Int) (xs:=p1) o runUnderlying42 rfl) λo=>qm o rfl λo=>qv o (Ak (α:=Int) (xs:=p6) o runUnderlying42 rfl) λo=>qv o (Bt o rfl rfl) λo=>re<|?_
 rcases bip hm with ⟨E0,hm⟩ | ⟨E0,hm⟩
 refine tn<|ctv o rfl E0<|th<|rg<|qa o rfl λo=>re<|tn<|wr<|tr<|?_
 obtain rfl:=si hm
 exact r1 o results29 rfl ⟨rfl,u.keep⟩
 refine tn<|cfv o rfl E0<|wk<|tn<|th<|th<|rg<|qa o rfl λo=>re<|tn<|Av (λa w=>Z63=some r∧Fr 26 [] a∧St w0 Nil [H] [] w) ?_ ?_
 refine wb<|lp (α:=Nat×Int) (λgh a w=>match gh with | (C0,I0)=>(Z64 N Z63 p1 p6) C0 I0=some r∧Fr 26 [(0,SL J0 p1 D0),(1,SL oa7 p6 cap8),(5,i6 I0)] a∧St w0 Nil [H] [] w) (λgh=>gh.1) (N,0) ⟨hm,o.hs,u⟩ ?_
 rintro ⟨C0,I0⟩ a w ⟨hm,o,u⟩
 obtain _ | C0:=C0
 simp [Z64] at hm
 rw [Z64] at hm
 refine th<|th<|rg<|qm o rfl λo=>qm o rfl λo=>qv o (Ak (α:=Int) (xs:=p1) o runUnderlying42 rfl) λo=>qv o (Ao o rfl rfl) λo=>re<|?_
 rcases bip hm with ⟨F0,hm⟩ | ⟨F0,hm⟩
 refine tn<|ctv o rfl F0<|wk<|tn<|th<|wb<|th<|?_
 obtain ⟨S0,M0,hm⟩:=bs hm
 obtain ⟨T0,U0,Q0⟩:=SR.get P0 M0
 obtain rfl:T0=[i6 S0]:=U0
 obtain ⟨V0,O0,hm⟩:=bs hm
 obtain ⟨W0,X0,R0⟩:=SR.get K0 O0
 obtain rfl:W0=[i6 V0]:=X0
 refine rxS 9 u wide (by kernel_rfl) λw u=>?_
 iterate 2 refine xq u.ld o (λw hl=>Ab o rfl) λo=>?_
 refine xr u o (Am o runUnderlying42 sizeOf3 rfl rfl M0 (SR.oaI P0 (by decide) M0)) λo=>xq u.ld o (λw hl=>Ag o isAgg3 rfl (PH.le.cell (Lds.le hl) (Q0 0 _ rfl))) λo=>?_
 iterate 2 refine xq u.ld o (λw hl=>Ab o rfl) λo=>?_
 refine xr u o (Am o runUnderlying42 sizeOf3 rfl rfl O0 (SR.oaI K0 (by decide) O0)) λo=>xq u.ld o (λw hl=>Ag o isAgg3 rfl (PH.le.cell (Lds.le hl) (R0 0 _ rfl))) λo=>xr u o (Bt o rfl rfl) λo=>xe<|?_
 rcases bip hm with ⟨G0,hm⟩ | ⟨G0,hm⟩
 refine tn<|ctv o rfl G0<|th<|rg<|qa o rfl λo=>re<|tn<|wr<|br<|tr<|tr<|br<|tr<|?_
 obtain rfl:=si hm
 exact r1 o results29 rfl ⟨rfl,u.keep⟩
 refine tn<|cfv o rfl G0<|wk<|bn<|tn<|rg<|qm o rfl λo=>qv o (Ap o rfl rfl) λo=>qa o rfl λo=>re<|tn<|?_
 exact ⟨(C0,(IntKind.i64.wrap (I0+1))),⟨hm,o.hs,u⟩,Nat.lt_succ_self _⟩
 refine tn<|cfv o rfl F0<|we<|tx<|tx<|bx<|tn<|?_
 exact ⟨hm,o.has trivial,u⟩
 rintro a w ⟨hm,o,u⟩
 unfold Z63 at hm
 refine th<|rg<|qa o rfl λo=>re<|tn<|wr<|?_
 obtain rfl:=si hm
 exact r1 o results29 rfl ⟨rfl,u.keep⟩
theorem Jb2 (hH:H.le w0) {G0:Option Addr} {D0:Nat} {p1:(List Str)} (Q0:p1.length≤D0) (J0:SR H G0 p1) {p6:Str} {r:Int} (hm:Zay N p1 p6=some r):Tot Tryz.prog 68 #[SL G0 p1 D0,Ac p6] w0 (λv w'=>v=i6 r∧Keep Nil w0 w'):=by
 unfold Zay at hm
 refine fn0 func68 rfl ntmps68 rfl rfl λa o=>?_
 have u:St w0 Nil [H] [] w0:=start1 hH
 refine th<|rg<|qa o rfl λo=>re<|tn<|th<|th<|rg<|qm o rfl λo=>qv o (Ak (α:=Str) (xs:=p1) o runUnderlying36 rfl) λo=>qm o rfl λo=>re<|tn<|Av (λa w=>Zaz=some r∧Fr 19 [] a∧St w0 Nil [H] [] w) ?_ ?_
 refine wb<|lp (α:=Nat×Int) (λgh a w=>match gh with | (C0,F0)=>(Zb0 N Zaz p1 p6) C0 F0=some r∧Fr 19 [(0,SL G0 p1 D0),(1,Ac p6),(7,i6 (p1.length:Int)),(8,i6 F0)] a∧St w0 Nil [H] [] w) (λgh=>gh.1) (N,0) ⟨hm,o.hs,u⟩ ?_
 rintro ⟨C0,F0⟩ a w ⟨hm,o,u⟩
 obtain _ | C0:=C0
 simp [Zb0] at hm
 rw [Zb0] at hm
 refine th<|rg<|qv o (Ao o rfl rfl) λo=>re<|?_
 rcases bip hm with ⟨I0,hm⟩ | ⟨I0,hm⟩
 refine tn<|th<|ctv o rfl I0<|wk<|tn<|th<|wb<|th<|rg<|qm o rfl λo=>qa o rfl λo=>re<|tn<|th<|?_
 obtain ⟨K0,h9,hm⟩:=bs hm
 obtain ⟨O0,P0,M0⟩:=SR.get J0 h9
 obtain rfl:O0=[Ac K0]:=P0
 refine rg<|qm o rfl λo=>?_
 iterate 2 refine qm o rfl λo=>?_
 refine qv o (Am o runUnderlying36 sizeOf9 rfl rfl h9 (SR.oaI J0 (by decide) h9)) λo=>qv o (Ag o isAgg9 rfl (PH.le.cell (Lds.le u.ld) (M0 0 _ rfl))) λo=>qv o (Eg (m:=p6) (n:=K0) o rfl rfl) λo=>re<|?_
 rcases bip hm with ⟨E0,hm⟩ | ⟨E0,hm⟩
 refine tn<|ctv o rfl E0<|th<|rg<|qm o rfl λo=>qa o rfl λo=>re<|tn<|wr<|br<|tr<|tr<|br<|tr<|?_
 obtain rfl:=si hm
 exact r1 o results68 rfl ⟨rfl,u.keep⟩
 refine tn<|cfv o rfl E0<|wk<|bn<|tn<|rg<|qv o (Ap o rfl rfl) λo=>qm o rfl λo=>re<|tn<|?_
 exact ⟨(C0,(IntKind.i64.wrap (F0+1))),⟨hm,o.hs,u⟩,Nat.lt_succ_self _⟩
 refine tn<|th<|cfv o rfl I0<|we<|tx<|tx<|bx<|tn<|?_
 exact ⟨hm,o.has trivial,u⟩
 rintro a w ⟨hm,o,u⟩
 unfold Zaz at hm
 refine th<|rg<|qa o rfl λo=>re<|tn<|wr<|?_
 obtain rfl:=si hm
 exact r1 o results68 rfl ⟨rfl,u.keep⟩
theorem Yk (hH:H.le w0) {D0:Option Addr} {C0:Nat} {p1:(List Str)} (E0:p1.length≤C0) (F0:SR H D0 p1) {p6:Str} {r:Int} (hm:Z7p N p1 p6=some r):Tot Tryz.prog 32 #[SL D0 p1 C0,Ac p6] w0 (λv w'=>v=i6 r∧Keep Nil w0 w'):=by
 unfold Z7p at hm
 refine fn0 func32 rfl ntmps32 rfl rfl λa o=>?_
 have u:St w0 Nil [H] [] w0:=start1 hH
 refine th<|rg<|qa o rfl λo=>re<|tn<|th<|?_
 obtain ⟨G0,h8,hm⟩:=bs hm
 refine rg<|qm o rfl λo=>qm o rfl λo=>ls<|cr o call68 (Jb2 (Ai _) E0 (St.srH u F0) h8) u λu o=>qa o rfl λo=>re<|tn<|wr<|?_
 obtain rfl:=si hm
 exact r1 o results32 rfl ⟨rfl,u.keep⟩
set_option maxHeartbeats 4000000 in
theorem Jb3 (hH:H.le w0) (hT:Tab H)  {r:Bool} (hm:Z13 N  = some r):Tot Tryz.prog 18 #[] w0 (λv w'=>v=.bool r∧Keep Nil w0 w'):=by
 unfold Z13 at hm
 refine fn0 func18 rfl ntmps18 rfl rfl λa o=>?_
 have u:St w0 Nil [H] [] w0:=start1 hH
 refine th<|rg<|qa o rfl λo=>re<|tn<|th<|?_
 obtain ⟨K0,h2,hm⟩:=bs hm
 refine rg<|ls<|c1 o rfl Tryz.call19 (Kn (St.le u) h2) ⟨rfl,trivial⟩ (λv w a hR o=>?_)
 obtain ⟨H6,cs7,rfl,g8,X1,M9,hk⟩:=hR
 obtain ⟨u,X1⟩:=And.intro (St.passH u hk X1 M9) (St.extc u X1)
 obtain ⟨Y1,S0,n0,T0,p0,U0,u0,V0,B1,W0,C1,X0,rfl,E1,F1,G1,I1,J1,M1,O1,P1,Q1,R1,S1,T1⟩:=Aq g8
 refine ls<|Au (cs:=[.slice none 0 0,.slice none 0 0,.slice none 0 0,.slice none 0 0,.slice none 0 0,.slice none 0 0].toArray) o rfl u zeroValue27 rfl λU1 w a u o=>ls<|Az o u sizeOf27 rfl rfl rfl rfl (Al rfl) .head λw u=>re<|tn<|th<|?_
 obtain ⟨V1,O9,hm⟩:=bs hm
 refine rg<|qv o (Ay o Tryz.isAgg27 Tryz.sizeOf27 rfl rfl (u.ld.cellsB t0)) λo=>ls<|cr o call16 (Iv (Ai _) (Tab.mono (Tab.mono hT X1.sub) (St.up u)) (Enc.mono (St.up u) (show Enc.rep (α:=api_Prog) H6 [SL Y1 K0.Lines S0,SL n0 K0.Vols T0,SL p0 K0.Locks U0,SL u0 K0.Threads V0,SL B1 K0.Recover W0,SL C1 K0.Claims X0] K0 from ⟨_,_,rfl,⟨_,_,rfl,E1,F1⟩,⟨_,_,rfl,⟨_,_,rfl,G1,I1⟩,⟨_,_,rfl,⟨_,_,rfl,J1,M1⟩,⟨_,_,rfl,⟨_,_,rfl,O1,P1⟩,⟨_,_,rfl,⟨_,_,rfl,Q1,R1⟩,⟨_,_,rfl,S1,T1⟩⟩⟩⟩⟩⟩)) O9) u λu o=>qm o rfl λo=>?_
 iterate 2 refine qv o (Cd o rfl rfl) λo=>?_
 iterate 2 refine qa o rfl λo=>?_
 refine re<|tn<|th<|?_
 obtain ⟨G2,P9,hm⟩:=bs hm
 obtain ⟨R0,Q9,hm⟩:=bs hm
 refine rg<|ls<|c1 o rfl Tryz.call19 (Kn (St.le u) P9) ⟨rfl,trivial⟩ (λv w a hR o=>?_)
 obtain ⟨H41,cs42,rfl,R9,I0,K7,hk⟩:=hR
 obtain ⟨u,I0⟩:=And.intro (St.passH u hk I0 K7) (St.extc u I0)
 obtain ⟨L7,A4,M7,B4,O7,C4,P7,D4,Q7,E4,R7,F4,rfl,S7,T7,U7,V7,W7,X7,Y7,d7,j7,k7,n7,u7⟩:=Aq R9
 refine ls<|cr o call16 (Iv (Ai _) (Tab.mono (Tab.mono hT (cp I0.sub X1.sub)) (St.up u)) (Enc.mono (St.up u) (show Enc.rep (α:=api_Prog) H41 [SL L7 G2.Lines A4,SL M7 G2.Vols B4,SL O7 G2.Locks C4,SL P7 G2.Threads D4,SL Q7 G2.Recover E4,SL R7 G2.Claims F4] G2 from ⟨_,_,rfl,⟨_,_,rfl,S7,T7⟩,⟨_,_,rfl,⟨_,_,rfl,U7,V7⟩,⟨_,_,rfl,⟨_,_,rfl,W7,X7⟩,⟨_,_,rfl,⟨_,_,rfl,Y7,d7⟩,⟨_,_,rfl,⟨_,_,rfl,j7,k7⟩,⟨_,_,rfl,n7,u7⟩⟩⟩⟩⟩⟩)) Q9) u λu o=>qm o rfl λo=>?_
 iterate 2 refine qv o (Cd o rfl rfl) λo=>?_
 iterate 2 refine qa o rfl λo=>?_
 refine re<|tn<|th<|?_
 obtain ⟨I2,S9,hm⟩:=bs hm
 obtain ⟨M0,v7,hm⟩:=bs hm
 refine rg<|ls<|c1 o rfl Tryz.call19 (Kn (St.le u) S9) ⟨rfl,trivial⟩ (λv w a hR o=>?_)
 obtain ⟨H75,cs76,rfl,T9,J0,z7,hk⟩:=hR
 obtain ⟨u,J0⟩:=And.intro (St.passH u hk J0 z7) (St.extc u J0)
 obtain ⟨A8,G4,B8,I4,C8,J4,D8,K4,E8,L4,F8,M4,rfl,G8,I8,J8,K8,L8,M8,O8,P8,Q8,R8,O4,P4⟩:=Aq T9
 refine ls<|cr o call16 (Iv (Ai _) (Tab.mono (Tab.mono hT (cp (cp J0.sub I0.sub) X1.sub)) (St.up u)) (Enc.mono (St.up u) (show Enc.rep (α:=api_Prog) H75 [SL A8 I2.Lines G4,SL B8 I2.Vols I4,SL C8 I2.Locks J4,SL D8 I2.Threads K4,SL E8 I2.Recover L4,SL F8 I2.Claims M4] I2 from ⟨_,_,rfl,⟨_,_,rfl,G8,I8⟩,⟨_,_,rfl,⟨_,_,rfl,J8,K8⟩,⟨_,_,rfl,⟨_,_,rfl,L8,M8⟩,⟨_,_,rfl,⟨_,_,rfl,O8,P8⟩,⟨_,_,rfl,⟨_,_,rfl,Q8,R8⟩,⟨_,_,rfl,O4,P4⟩⟩⟩⟩⟩⟩)) v7) u λu o=>qm o rfl λo=>?_
 iterate 2 refine qv o (Cd o rfl rfl) λo=>?_
 iterate 2 refine qa o rfl λo=>?_
 refine re<|tn<|th<|?_
 obtain ⟨B2,S8,hm⟩:=bs hm
 obtain ⟨O0,T8,hm⟩:=bs hm
 refine rg<|ls<|c1 o rfl Tryz.call19 (Kn (St.le u) S8) ⟨rfl,trivial⟩ (λv w a hR o=>?_)
 obtain ⟨H109,cs110,rfl,U8,C0,Q4,hk⟩:=hR
 obtain ⟨u,C0⟩:=And.intro (St.passH u hk C0 Q4) (St.extc u C0)
 obtain ⟨R4,C3,S4,D3,T4,E3,U4,F3,V4,G3,W4,I3,rfl,X4,Y4,d4,j4,k4,l4,u4,A5,B5,C5,D5,E5⟩:=Aq U8
 refine ls<|cr o call16 (Iv (Ai _) (Tab.mono (Tab.mono hT (cp (cp (cp C0.sub J0.sub) I0.sub) X1.sub)) (St.up u)) (Enc.mono (St.up u) (show Enc.rep (α:=api_Prog) H109 [SL R4 B2.Lines C3,SL S4 B2.Vols D3,SL T4 B2.Locks E3,SL U4 B2.Threads F3,SL V4 B2.Recover G3,SL W4 B2.Claims I3] B2 from ⟨_,_,rfl,⟨_,_,rfl,X4,Y4⟩,⟨_,_,rfl,⟨_,_,rfl,d4,j4⟩,⟨_,_,rfl,⟨_,_,rfl,k4,l4⟩,⟨_,_,rfl,⟨_,_,rfl,u4,A5⟩,⟨_,_,rfl,⟨_,_,rfl,B5,C5⟩,⟨_,_,rfl,D5,E5⟩⟩⟩⟩⟩⟩)) T8) u λu o=>qm o rfl λo=>?_
 iterate 2 refine qv o (Cd o rfl rfl) λo=>?_
 iterate 2 refine qa o rfl λo=>?_
 refine re<|tn<|th<|?_
 obtain ⟨C2,V8,hm⟩:=bs hm
 obtain ⟨Y0,W8,hm⟩:=bs hm
 refine rg<|ls<|c1 o rfl Tryz.call19 (Kn (St.le u) V8) ⟨rfl,trivial⟩ (λv w a hR o=>?_)
 obtain ⟨H143,cs144,rfl,X8,D0,F5,hk⟩:=hR
 obtain ⟨u,D0⟩:=And.intro (St.passH u hk D0 F5) (St.extc u D0)
 obtain ⟨G5,J3,I5,K3,J5,L3,K5,M3,L5,O3,M5,P3,rfl,O5,P5,Q5,R5,S5,T5,U5,V5,W5,X5,Y5,d5⟩:=Aq X8
 refine ls<|cr o call16 (Iv (Ai _) (Tab.mono (Tab.mono hT (cp (cp (cp (cp D0.sub C0.sub) J0.sub) I0.sub) X1.sub)) (St.up u)) (Enc.mono (St.up u) (show Enc.rep (α:=api_Prog) H143 [SL G5 C2.Lines J3,SL I5 C2.Vols K3,SL J5 C2.Locks L3,SL K5 C2.Threads M3,SL L5 C2.Recover O3,SL M5 C2.Claims P3] C2 from ⟨_,_,rfl,⟨_,_,rfl,O5,P5⟩,⟨_,_,rfl,⟨_,_,rfl,Q5,R5⟩,⟨_,_,rfl,⟨_,_,rfl,S5,T5⟩,⟨_,_,rfl,⟨_,_,rfl,U5,V5⟩,⟨_,_,rfl,⟨_,_,rfl,W5,X5⟩,⟨_,_,rfl,Y5,d5⟩⟩⟩⟩⟩⟩)) W8) u λu o=>qm o rfl λo=>?_
 iterate 2 refine qv o (Cd o rfl rfl) λo=>?_
 iterate 2 refine qa o rfl λo=>?_
 refine re<|tn<|th<|?_
 obtain ⟨E2,Y8,hm⟩:=bs hm
 obtain ⟨P0,d8,hm⟩:=bs hm
 refine rg<|ls<|c1 o rfl Tryz.call19 (Kn (St.le u) Y8) ⟨rfl,trivial⟩ (λv w a hR o=>?_)
 obtain ⟨H177,cs178,rfl,e8,E0,j5,hk⟩:=hR
 obtain ⟨u,E0⟩:=And.intro (St.passH u hk E0 j5) (St.extc u E0)
 obtain ⟨k5,Q3,n5,R3,u5,S3,A6,T3,B6,U3,C6,V3,rfl,D6,E6,F6,G6,I6,J6,K6,L6,M6,O6,P6,Q6⟩:=Aq e8
 refine ls<|cr o call16 (Iv (Ai _) (Tab.mono (Tab.mono hT (cp (cp (cp (cp (cp E0.sub D0.sub) C0.sub) J0.sub) I0.sub) X1.sub)) (St.up u)) (Enc.mono (St.up u) (show Enc.rep (α:=api_Prog) H177 [SL k5 E2.Lines Q3,SL n5 E2.Vols R3,SL u5 E2.Locks S3,SL A6 E2.Threads T3,SL B6 E2.Recover U3,SL C6 E2.Claims V3] E2 from ⟨_,_,rfl,⟨_,_,rfl,D6,E6⟩,⟨_,_,rfl,⟨_,_,rfl,F6,G6⟩,⟨_,_,rfl,⟨_,_,rfl,I6,J6⟩,⟨_,_,rfl,⟨_,_,rfl,K6,L6⟩,⟨_,_,rfl,⟨_,_,rfl,M6,O6⟩,⟨_,_,rfl,P6,Q6⟩⟩⟩⟩⟩⟩)) d8) u λu o=>qm o rfl λo=>?_
 iterate 2 refine qv o (Cd o rfl rfl) λo=>?_
 iterate 2 refine qa o rfl λo=>?_
 refine re<|tn<|th<|?_
 obtain ⟨F2,j8,hm⟩:=bs hm
 obtain ⟨Q0,k8,hm⟩:=bs hm
 refine rg<|ls<|c1 o rfl Tryz.call19 (Kn (St.le u) j8) ⟨rfl,trivial⟩ (λv w a hR o=>?_)
 obtain ⟨H211,cs212,rfl,l8,F0,R6,hk⟩:=hR
 obtain ⟨u,F0⟩:=And.intro (St.passH u hk F0 R6) (St.extc u F0)
 obtain ⟨S6,W3,T6,X3,U6,Y3,V6,l3,W6,n3,X6,u3,rfl,Y6,d6,j6,k6,n6,u6,v6,y6,z6,A7,B7,C7⟩:=Aq l8
 refine ls<|cr o call16 (Iv (Ai _) (Tab.mono (Tab.mono hT (cp (cp (cp (cp (cp (cp F0.sub E0.sub) D0.sub) C0.sub) J0.sub) I0.sub) X1.sub)) (St.up u)) (Enc.mono (St.up u) (show Enc.rep (α:=api_Prog) H211 [SL S6 F2.Lines W3,SL T6 F2.Vols X3,SL U6 F2.Locks Y3,SL V6 F2.Threads l3,SL W6 F2.Recover n3,SL X6 F2.Claims u3] F2 from ⟨_,_,rfl,⟨_,_,rfl,Y6,d6⟩,⟨_,_,rfl,⟨_,_,rfl,j6,k6⟩,⟨_,_,rfl,⟨_,_,rfl,n6,u6⟩,⟨_,_,rfl,⟨_,_,rfl,v6,y6⟩,⟨_,_,rfl,⟨_,_,rfl,z6,A7⟩,⟨_,_,rfl,B7,C7⟩⟩⟩⟩⟩⟩)) k8) u λu o=>qm o rfl λo=>?_
 iterate 2 refine qv o (Cd o rfl rfl) λo=>?_
 iterate 2 refine qa o rfl λo=>?_
 refine re<|tn<|th<|?_
 obtain ⟨j0,n8,hm⟩:=bs hm
 refine rg<|qv o (Bp [] [Ac [],i6 0,i6 0] o trivial (λw=>by kernel_rfl)) λo=>ls<|Bh (e:=53) (sz:=3) [Ac [],i6 0,i6 0] o rfl u rfl rfl rfl (λw=>by kernel_rfl) λB3 w a u o=>?_
 have D7:Rows (α:=api_Cell) H211 [Ac [],i6 0,i6 0] ([(api_Cell.mk [] 0 0)]:List api_Cell):=(.cons (c:=[Ac [],i6 0,i6 0]) ⟨_,_,rfl,rfl,⟨_,_,rfl,rfl,rfl⟩⟩ .nil)
 refine qv o (Bp [.slice (some ⟨B3,0,none⟩) ([(api_Cell.mk [] 0 0)]:List api_Cell).length 1] [.slice none 0 0,.slice none 0 0,.slice (some ⟨B3,0,none⟩) ([(api_Cell.mk [] 0 0)]:List api_Cell).length 1,.slice none 0 0,.slice none 0 0,.slice none 0 0] o ⟨rfl,trivial⟩ (λw=>by kernel_rfl)) λo=>?_
 obtain ⟨H246,G0,E7,F7,u⟩:=St.frzS u .head D7
 refine ls<|cr o call16 (Iv (Ai _) (Tab.mono (Tab.mono hT (cp (cp (cp (cp (cp (cp (cp G0.sub F0.sub) E0.sub) D0.sub) C0.sub) J0.sub) I0.sub) X1.sub)) (St.up u)) (Enc.mono (St.up u) (show Enc.rep (α:=api_Prog) H246 [.slice none 0 0,.slice none 0 0,.slice (some ⟨B3,0,none⟩) ([(api_Cell.mk [] 0 0)]:List api_Cell).length 1,.slice none 0 0,.slice none 0 0,.slice none 0 0] (api_Prog.mk [] [] ([(api_Cell.mk [] 0 0)]:List api_Cell) [] [] []) from ⟨_,_,rfl,⟨none,0,rfl,Nat.le_refl _,SR.nil _ _⟩,⟨_,_,rfl,⟨none,0,rfl,Nat.le_refl _,SR.nil _ _⟩,⟨_,_,rfl,⟨_,_,rfl,F7,E7⟩,⟨_,_,rfl,⟨none,0,rfl,Nat.le_refl _,SR.nil _ _⟩,⟨_,_,rfl,⟨none,0,rfl,Nat.le_refl _,SR.nil _ _⟩,⟨none,0,rfl,Nat.le_refl _,SR.nil _ _⟩⟩⟩⟩⟩⟩)) n8) u λu o=>qm o rfl λo=>?_
 iterate 2 refine qv o (Cd o rfl rfl) λo=>?_
 iterate 2 refine qa o rfl λo=>?_
 refine re<|tn<|th<|?_
 obtain ⟨_,J2,hm⟩:=bs hm
 replace J2:=Cw J2
 obtain ⟨p9,v8,hm⟩:=bs hm
 obtain ⟨u9,y8,hm⟩:=bs hm
 obtain ⟨_,K2,hm⟩:=bs hm
 replace K2:=Cw K2
 obtain ⟨y9,z8,hm⟩:=bs hm
 obtain ⟨_,M2,hm⟩:=bs hm
 replace M2:=Cw M2
 obtain ⟨r266,A9,hm⟩:=bs hm
 obtain ⟨_,O2,hm⟩:=bs hm
 replace O2:=Cw O2
 obtain ⟨r269,B9,hm⟩:=bs hm
 obtain ⟨_,P2,hm⟩:=bs hm
 replace P2:=Cw P2
 obtain ⟨r272,C9,hm⟩:=bs hm
 obtain ⟨_,Q2,hm⟩:=bs hm
 replace Q2:=Cw Q2
 obtain ⟨r275,D9,hm⟩:=bs hm
 obtain ⟨_,R2,hm⟩:=bs hm
 replace R2:=Cw R2
 obtain ⟨r278,E9,hm⟩:=bs hm
 obtain ⟨r288,F9,hm⟩:=bs hm
 obtain ⟨_,T2,hm⟩:=bs hm
 replace T2:=Cw T2
 obtain ⟨r291,G9,hm⟩:=bs hm
 obtain ⟨r301,I9,hm⟩:=bs hm
 obtain ⟨_,U2,hm⟩:=bs hm
 replace U2:=Cw U2
 obtain ⟨r304,J9,hm⟩:=bs hm
 obtain ⟨r311,K9,hm⟩:=bs hm
 obtain ⟨_,V2,hm⟩:=bs hm
 replace V2:=Cw V2
 obtain ⟨r314,L9,hm⟩:=bs hm
 refine rg<|qm o rfl λo=>qv o (An o rfl rfl) λo=>qm o rfl λo=>gr (Fk:=[(1,PT U1),(5,i6 R0.2),(6,i6 M0.1),(7,i6 M0.2),(8,i6 O0.1),(9,i6 O0.2),(10,i6 Y0.1),(12,i6 P0.1),(13,i6 P0.2),(14,i6 Q0.1),(15,i6 Q0.2),(16,i6 j0.1),(66,.bool ((decide (V1.1=0)) && (decide (R0.1=9))))]) 63 3 o u ?_ ?_ ?_
 intro hb o key
 exact qg o (Ab o rfl) λo=>qg o (An o rfl rfl) λo=>qk o (Ad o rfl rfl) key u hb
 intro hb o key
 iterate 2 refine qn o λo=>?_
 exact qk o (Ae o rfl rfl) key u hb
 intro a w o u
 refine qm o rfl λo=>gr (Fk:=[(1,PT U1),(6,i6 M0.1),(7,i6 M0.2),(8,i6 O0.1),(9,i6 O0.2),(10,i6 Y0.1),(12,i6 P0.1),(13,i6 P0.2),(14,i6 Q0.1),(15,i6 Q0.2),(16,i6 j0.1),(70,.bool (((decide (V1.1=0)) && (decide (R0.1=9))) && (decide (R0.2=28))))]) 67 3 o u ?_ ?_ ?_
 intro hb o key
 exact qg o (Ab o rfl) λo=>qg o (An o rfl rfl) λo=>qk o (Ad o rfl rfl) key u hb
 intro hb o key
 iterate 2 refine qn o λo=>?_
 exact qk o (Ae o rfl rfl) key u hb
 intro a w o u
 refine qm o rfl λo=>gr (Fk:=[(1,PT U1),(7,i6 M0.2),(8,i6 O0.1),(9,i6 O0.2),(10,i6 Y0.1),(12,i6 P0.1),(13,i6 P0.2),(14,i6 Q0.1),(15,i6 Q0.2),(16,i6 j0.1),(74,.bool ((((decide (V1.1=0)) && (decide (R0.1=9))) && (decide (R0.2=28))) && (decide (M0.1=10))))]) 71 3 o u ?_ ?_ ?_
 intro hb o key
 exact qg o (Ab o rfl) λo=>qg o (An o rfl rfl) λo=>qk o (Ad o rfl rfl) key u hb
 intro hb o key
 iterate 2 refine qn o λo=>?_
 exact qk o (Ae o rfl rfl) key u hb
 intro a w o u
 refine qm o rfl λo=>gr (Fk:=[(1,PT U1),(8,i6 O0.1),(9,i6 O0.2),(10,i6 Y0.1),(12,i6 P0.1),(13,i6 P0.2),(14,i6 Q0.1),(15,i6 Q0.2),(16,i6 j0.1),(78,.bool (((((decide (V1.1=0)) && (decide (R0.1=9))) && (decide (R0.2=28))) && (decide (M0.1=10))) && (decide (M0.2=12))))]) 75 3 o u ?_ ?_ ?_
 intro hb o key
 exact qg o (Ab o rfl) λo=>qg o (An o rfl rfl) λo=>qk o (Ad o rfl rfl) key u hb
 intro hb o key
 iterate 2 refine qn o λo=>?_
 exact qk o (Ae o rfl rfl) key u hb
 intro a w o u
 refine qm o rfl λo=>gr (Fk:=[(1,PT U1),(9,i6 O0.2),(10,i6 Y0.1),(12,i6 P0.1),(13,i6 P0.2),(14,i6 Q0.1),(15,i6 Q0.2),(16,i6 j0.1),(82,.bool ((((((decide (V1.1=0)) && (decide (R0.1=9))) && (decide (R0.2=28))) && (decide (M0.1=10))) && (decide (M0.2=12))) && (decide (O0.1=10))))]) 79 3 o u ?_ ?_ ?_
 intro hb o key
 exact qg o (Ab o rfl) λo=>qg o (An o rfl rfl) λo=>qk o (Ad o rfl rfl) key u hb
 intro hb o key
 iterate 2 refine qn o λo=>?_
 exact qk o (Ae o rfl rfl) key u hb
 intro a w o u
 refine qm o rfl λo=>gr (Fk:=[(1,PT U1),(10,i6 Y0.1),(12,i6 P0.1),(13,i6 P0.2),(14,i6 Q0.1),(15,i6 Q0.2),(16,i6 j0.1),(86,.bool (((((((decide (V1.1=0)) && (decide (R0.1=9))) && (decide (R0.2=28))) && (decide (M0.1=10))) && (decide (M0.2=12))) && (decide (O0.1=10))) && (decide (O0.2=15))))]) 83 3 o u ?_ ?_ ?_
 intro hb o key
 exact qg o (Ab o rfl) λo=>qg o (An o rfl rfl) λo=>qk o (Ad o rfl rfl) key u hb
 intro hb o key
 iterate 2 refine qn o λo=>?_
 exact qk o (Ae o rfl rfl) key u hb
 intro a w o u
 refine qm o rfl λo=>gr (Fk:=[(1,PT U1),(12,i6 P0.1),(13,i6 P0.2),(14,i6 Q0.1),(15,i6 Q0.2),(16,i6 j0.1),(90,.bool ((((((((decide (V1.1=0)) && (decide (R0.1=9))) && (decide (R0.2=28))) && (decide (M0.1=10))) && (decide (M0.2=12))) && (decide (O0.1=10))) && (decide (O0.2=15))) && (decide (Y0.1=2))))]) 87 3 o u ?_ ?_ ?_
 intro hb o key
 exact qg o (Ab o rfl) λo=>qg o (An o rfl rfl) λo=>qk o (Ad o rfl rfl) key u hb
 intro hb o key
 iterate 2 refine qn o λo=>?_
 exact qk o (Ae o rfl rfl) key u hb
 intro a w o u
 refine qm o rfl λo=>gr (Fk:=[(1,PT U1),(13,i6 P0.2),(14,i6 Q0.1),(15,i6 Q0.2),(16,i6 j0.1),(94,.bool (((((((((decide (V1.1=0)) && (decide (R0.1=9))) && (decide (R0.2=28))) && (decide (M0.1=10))) && (decide (M0.2=12))) && (decide (O0.1=10))) && (decide (O0.2=15))) && (decide (Y0.1=2))) && (decide (P0.1=9))))]) 91 3 o u ?_ ?_ ?_
 intro hb o key
 exact qg o (Ab o rfl) λo=>qg o (An o rfl rfl) λo=>qk o (Ad o rfl rfl) key u hb
 intro hb o key
 iterate 2 refine qn o λo=>?_
 exact qk o (Ae o rfl rfl) key u hb
 intro a w o u
 refine qm o rfl λo=>gr (Fk:=[(1,PT U1),(14,i6 Q0.1),(15,i6 Q0.2),(16,i6 j0.1),(98,.bool ((((((((((decide (V1.1=0)) && (decide (R0.1=9))) && (decide (R0.2=28))) && (decide (M0.1=10))) && (decide (M0.2=12))) && (decide (O0.1=10))) && (decide (O0.2=15))) && (decide (Y0.1=2))) && (decide (P0.1=9))) && (decide (P0.2=18))))]) 95 3 o u ?_ ?_ ?_
 intro hb o key
 exact qg o (Ab o rfl) λo=>qg o (An o rfl rfl) λo=>qk o (Ad o rfl rfl) key u hb
 intro hb o key
 iterate 2 refine qn o λo=>?_
 exact qk o (Ae o rfl rfl) key u hb
 intro a w o u
 refine qm o rfl λo=>gr (Fk:=[(1,PT U1),(15,i6 Q0.2),(16,i6 j0.1),(102,.bool (((((((((((decide (V1.1=0)) && (decide (R0.1=9))) && (decide (R0.2=28))) && (decide (M0.1=10))) && (decide (M0.2=12))) && (decide (O0.1=10))) && (decide (O0.2=15))) && (decide (Y0.1=2))) && (decide (P0.1=9))) && (decide (P0.2=18))) && (decide (Q0.1=9))))]) 99 3 o u ?_ ?_ ?_
 intro hb o key
 exact qg o (Ab o rfl) λo=>qg o (An o rfl rfl) λo=>qk o (Ad o rfl rfl) key u hb
 intro hb o key
 iterate 2 refine qn o λo=>?_
 exact qk o (Ae o rfl rfl) key u hb
 intro a w o u
 refine qm o rfl λo=>gr (Fk:=[(1,PT U1),(16,i6 j0.1),(106,.bool ((((((((((((decide (V1.1=0)) && (decide (R0.1=9))) && (decide (R0.2=28))) && (decide (M0.1=10))) && (decide (M0.2=12))) && (decide (O0.1=10))) && (decide (O0.2=15))) && (decide (Y0.1=2))) && (decide (P0.1=9))) && (decide (P0.2=18))) && (decide (Q0.1=9))) && (decide (Q0.2=27))))]) 103 3 o u ?_ ?_ ?_
 intro hb o key
 exact qg o (Ab o rfl) λo=>qg o (An o rfl rfl) λo=>qk o (Ad o rfl rfl) key u hb
 intro hb o key
 iterate 2 refine qn o λo=>?_
 exact qk o (Ae o rfl rfl) key u hb
 intro a w o u
 refine qm o rfl λo=>gr (Fk:=[(1,PT U1),(110,.bool (((((((((((((decide (V1.1=0)) && (decide (R0.1=9))) && (decide (R0.2=28))) && (decide (M0.1=10))) && (decide (M0.2=12))) && (decide (O0.1=10))) && (decide (O0.2=15))) && (decide (Y0.1=2))) && (decide (P0.1=9))) && (decide (P0.2=18))) && (decide (Q0.1=9))) && (decide (Q0.2=27))) && (decide (j0.1=8))))]) 107 3 o u ?_ ?_ ?_
 intro hb o key
 exact qg o (Ab o rfl) λo=>qg o (An o rfl rfl) λo=>qk o (Ad o rfl rfl) key u hb
 intro hb o key
 iterate 2 refine qn o λo=>?_
 exact qk o (Ae o rfl rfl) key u hb
 intro a w o u
 refine qv o (Ar (Ab o rfl) (congrArg Value.bool J2)) λo=>qg o (Ay o isAgg27 sizeOf27 rfl rfl (u.ld.cellsB t0)) λo=>ls<|gy o rfl rfl<|c1 o rfl call20 (Xl (Ai _) (Enc.mono (St.up u) (show Enc.rep (α:=api_Prog) H246 [SL Y1 K0.Lines S0,SL n0 K0.Vols T0,SL p0 K0.Locks U0,SL u0 K0.Threads V0,SL B1 K0.Recover W0,SL C1 K0.Claims X0] K0 from ⟨_,_,rfl,⟨_,_,rfl,E1,(F1.mono (cp (cp (cp (cp (cp (cp G0.sub F0.sub) E0.sub) D0.sub) C0.sub) J0.sub) I0.sub))⟩,⟨_,_,rfl,⟨_,_,rfl,G1,(I1.mono (cp (cp (cp (cp (cp (cp G0.sub F0.sub) E0.sub) D0.sub) C0.sub) J0.sub) I0.sub))⟩,⟨_,_,rfl,⟨_,_,rfl,J1,(M1.mono (cp (cp (cp (cp (cp (cp G0.sub F0.sub) E0.sub) D0.sub) C0.sub) J0.sub) I0.sub))⟩,⟨_,_,rfl,⟨_,_,rfl,O1,(P1.mono (cp (cp (cp (cp (cp (cp G0.sub F0.sub) E0.sub) D0.sub) C0.sub) J0.sub) I0.sub))⟩,⟨_,_,rfl,⟨_,_,rfl,Q1,(R1.mono (cp (cp (cp (cp (cp (cp G0.sub F0.sub) E0.sub) D0.sub) C0.sub) J0.sub) I0.sub))⟩,⟨_,_,rfl,S1,(T1.mono (cp (cp (cp (cp (cp (cp G0.sub F0.sub) E0.sub) D0.sub) C0.sub) J0.sub) I0.sub))⟩⟩⟩⟩⟩⟩)) v8) ⟨rfl,trivial⟩ (λv w a hR o=>?_)
 obtain ⟨Y9,U9,d9,rfl,W2,hk⟩:=hR
 replace u:=u.fresh hk
 replace W2:=W2 H246
 refine ls<|gy o rfl rfl<|Bh (e:=9) (sz:=1) [Ac [97],Ac [98],Ac [99],Ac [120]] o rfl u rfl rfl rfl (λw=>by kernel_rfl) λb258 w a u o=>?_
 have G7:Rows (α:=Str) H246 [Ac [97],Ac [98],Ac [99],Ac [120]] ([[97],[98],[99],[120]]:List Str):=(.cons (c:=[Ac [97]]) rfl (.cons (c:=[Ac [98]]) rfl (.cons (c:=[Ac [99]]) rfl (.cons (c:=[Ac [120]]) rfl .nil))))
 refine ls<|gy o rfl rfl<|cr o call21 (Yg (Ai _) (St.capO u t1) (St.srO u t1 W2) (St.capO u t0) (St.srO u t0 G7) y8) u λu o=>qv o (Ad o rfl rfl) λo=>qv o (Ar (Ab o rfl) (congrArg Value.bool K2)) λo=>qg o (Ay o isAgg27 sizeOf27 rfl rfl (u.ld.cellsB t2)) λo=>ls<|gy o rfl rfl<|cr o call23 (Jbl (Ai _) (Enc.mono (St.up u) (show Enc.rep (α:=api_Prog) H246 [SL Y1 K0.Lines S0,SL n0 K0.Vols T0,SL p0 K0.Locks U0,SL u0 K0.Threads V0,SL B1 K0.Recover W0,SL C1 K0.Claims X0] K0 from ⟨_,_,rfl,⟨_,_,rfl,E1,(F1.mono (cp (cp (cp (cp (cp (cp G0.sub F0.sub) E0.sub) D0.sub) C0.sub) J0.sub) I0.sub))⟩,⟨_,_,rfl,⟨_,_,rfl,G1,(I1.mono (cp (cp (cp (cp (cp (cp G0.sub F0.sub) E0.sub) D0.sub) C0.sub) J0.sub) I0.sub))⟩,⟨_,_,rfl,⟨_,_,rfl,J1,(M1.mono (cp (cp (cp (cp (cp (cp G0.sub F0.sub) E0.sub) D0.sub) C0.sub) J0.sub) I0.sub))⟩,⟨_,_,rfl,⟨_,_,rfl,O1,(P1.mono (cp (cp (cp (cp (cp (cp G0.sub F0.sub) E0.sub) D0.sub) C0.sub) J0.sub) I0.sub))⟩,⟨_,_,rfl,⟨_,_,rfl,Q1,(R1.mono (cp (cp (cp (cp (cp (cp G0.sub F0.sub) E0.sub) D0.sub) C0.sub) J0.sub) I0.sub))⟩,⟨_,_,rfl,S1,(T1.mono (cp (cp (cp (cp (cp (cp G0.sub F0.sub) E0.sub) D0.sub) C0.sub) J0.sub) I0.sub))⟩⟩⟩⟩⟩⟩)) z8) u λu o=>qg o (An o rfl rfl) λo=>qv o (Ad o rfl rfl) λo=>qv o (Ar (Ab o rfl) (congrArg Value.bool M2)) λo=>qg o (Ay o isAgg27 sizeOf27 rfl rfl (u.ld.cellsB t2)) λo=>ls<|gy o rfl rfl<|cr o call25 (Rq (Ai _) (Enc.mono (St.up u) (show Enc.rep (α:=api_Prog) H246 [SL Y1 K0.Lines S0,SL n0 K0.Vols T0,SL p0 K0.Locks U0,SL u0 K0.Threads V0,SL B1 K0.Recover W0,SL C1 K0.Claims X0] K0 from ⟨_,_,rfl,⟨_,_,rfl,E1,(F1.mono (cp (cp (cp (cp (cp (cp G0.sub F0.sub) E0.sub) D0.sub) C0.sub) J0.sub) I0.sub))⟩,⟨_,_,rfl,⟨_,_,rfl,G1,(I1.mono (cp (cp (cp (cp (cp (cp G0.sub F0.sub) E0.sub) D0.sub) C0.sub) J0.sub) I0.sub))⟩,⟨_,_,rfl,⟨_,_,rfl,J1,(M1.mono (cp (cp (cp (cp (cp (cp G0.sub F0.sub) E0.sub) D0.sub) C0.sub) J0.sub) I0.sub))⟩,⟨_,_,rfl,⟨_,_,rfl,O1,(P1.mono (cp (cp (cp (cp (cp (cp G0.sub F0.sub) E0.sub) D0.sub) C0.sub) J0.sub) I0.sub))⟩,⟨_,_,rfl,⟨_,_,rfl,Q1,(R1.mono (cp (cp (cp (cp (cp (cp G0.sub F0.sub) E0.sub) D0.sub) C0.sub) J0.sub) I0.sub))⟩,⟨_,_,rfl,S1,(T1.mono (cp (cp (cp (cp (cp (cp G0.sub F0.sub) E0.sub) D0.sub) C0.sub) J0.sub) I0.sub))⟩⟩⟩⟩⟩⟩)) A9) u λu o=>qg o (An o rfl rfl) λo=>qv o (Ad o rfl rfl) λo=>qv o (Ar (Ab o rfl) (congrArg Value.bool O2)) λo=>qg o (Ay o isAgg27 sizeOf27 rfl rfl (u.ld.cellsB t2)) λo=>ls<|gy o rfl rfl<|cr o call25 (Rq (Ai _) (Enc.mono (St.up u) (show Enc.rep (α:=api_Prog) H246 [SL Y1 K0.Lines S0,SL n0 K0.Vols T0,SL p0 K0.Locks U0,SL u0 K0.Threads V0,SL B1 K0.Recover W0,SL C1 K0.Claims X0] K0 from ⟨_,_,rfl,⟨_,_,rfl,E1,(F1.mono (cp (cp (cp (cp (cp (cp G0.sub F0.sub) E0.sub) D0.sub) C0.sub) J0.sub) I0.sub))⟩,⟨_,_,rfl,⟨_,_,rfl,G1,(I1.mono (cp (cp (cp (cp (cp (cp G0.sub F0.sub) E0.sub) D0.sub) C0.sub) J0.sub) I0.sub))⟩,⟨_,_,rfl,⟨_,_,rfl,J1,(M1.mono (cp (cp (cp (cp (cp (cp G0.sub F0.sub) E0.sub) D0.sub) C0.sub) J0.sub) I0.sub))⟩,⟨_,_,rfl,⟨_,_,rfl,O1,(P1.mono (cp (cp (cp (cp (cp (cp G0.sub F0.sub) E0.sub) D0.sub) C0.sub) J0.sub) I0.sub))⟩,⟨_,_,rfl,⟨_,_,rfl,Q1,(R1.mono (cp (cp (cp (cp (cp (cp G0.sub F0.sub) E0.sub) D0.sub) C0.sub) J0.sub) I0.sub))⟩,⟨_,_,rfl,S1,(T1.mono (cp (cp (cp (cp (cp (cp G0.sub F0.sub) E0.sub) D0.sub) C0.sub) J0.sub) I0.sub))⟩⟩⟩⟩⟩⟩)) B9) u λu o=>qg o (An o rfl rfl) λo=>qv o (Ad o rfl rfl) λo=>qv o (Ar (Ab o rfl) (congrArg Value.bool P2)) λo=>qg o (Ay o isAgg27 sizeOf27 rfl rfl (u.ld.cellsB t2)) λo=>ls<|gy o rfl rfl<|cr o call25 (Rq (Ai _) (Enc.mono (St.up u) (show Enc.rep (α:=api_Prog) H246 [SL Y1 K0.Lines S0,SL n0 K0.Vols T0,SL p0 K0.Locks U0,SL u0 K0.Threads V0,SL B1 K0.Recover W0,SL C1 K0.Claims X0] K0 from ⟨_,_,rfl,⟨_,_,rfl,E1,(F1.mono (cp (cp (cp (cp (cp (cp G0.sub F0.sub) E0.sub) D0.sub) C0.sub) J0.sub) I0.sub))⟩,⟨_,_,rfl,⟨_,_,rfl,G1,(I1.mono (cp (cp (cp (cp (cp (cp G0.sub F0.sub) E0.sub) D0.sub) C0.sub) J0.sub) I0.sub))⟩,⟨_,_,rfl,⟨_,_,rfl,J1,(M1.mono (cp (cp (cp (cp (cp (cp G0.sub F0.sub) E0.sub) D0.sub) C0.sub) J0.sub) I0.sub))⟩,⟨_,_,rfl,⟨_,_,rfl,O1,(P1.mono (cp (cp (cp (cp (cp (cp G0.sub F0.sub) E0.sub) D0.sub) C0.sub) J0.sub) I0.sub))⟩,⟨_,_,rfl,⟨_,_,rfl,Q1,(R1.mono (cp (cp (cp (cp (cp (cp G0.sub F0.sub) E0.sub) D0.sub) C0.sub) J0.sub) I0.sub))⟩,⟨_,_,rfl,S1,(T1.mono (cp (cp (cp (cp (cp (cp G0.sub F0.sub) E0.sub) D0.sub) C0.sub) J0.sub) I0.sub))⟩⟩⟩⟩⟩⟩)) C9) u λu o=>qg o (An o rfl rfl) λo=>qv o (Ad o rfl rfl) λo=>qv o (Ar (Ab o rfl) (congrArg Value.bool Q2)) λo=>qg o (Ay o isAgg27 sizeOf27 rfl rfl (u.ld.cellsB t2)) λo=>ls<|gy o rfl rfl<|cr o call25 (Rq (Ai _) (Enc.mono (St.up u) (show Enc.rep (α:=api_Prog) H246 [SL Y1 K0.Lines S0,SL n0 K0.Vols T0,SL p0 K0.Locks U0,SL u0 K0.Threads V0,SL B1 K0.Recover W0,SL C1 K0.Claims X0] K0 from ⟨_,_,rfl,⟨_,_,rfl,E1,(F1.mono (cp (cp (cp (cp (cp (cp G0.sub F0.sub) E0.sub) D0.sub) C0.sub) J0.sub) I0.sub))⟩,⟨_,_,rfl,⟨_,_,rfl,G1,(I1.mono (cp (cp (cp (cp (cp (cp G0.sub F0.sub) E0.sub) D0.sub) C0.sub) J0.sub) I0.sub))⟩,⟨_,_,rfl,⟨_,_,rfl,J1,(M1.mono (cp (cp (cp (cp (cp (cp G0.sub F0.sub) E0.sub) D0.sub) C0.sub) J0.sub) I0.sub))⟩,⟨_,_,rfl,⟨_,_,rfl,O1,(P1.mono (cp (cp (cp (cp (cp (cp G0.sub F0.sub) E0.sub) D0.sub) C0.sub) J0.sub) I0.sub))⟩,⟨_,_,rfl,⟨_,_,rfl,Q1,(R1.mono (cp (cp (cp (cp (cp (cp G0.sub F0.sub) E0.sub) D0.sub) C0.sub) J0.sub) I0.sub))⟩,⟨_,_,rfl,S1,(T1.mono (cp (cp (cp (cp (cp (cp G0.sub F0.sub) E0.sub) D0.sub) C0.sub) J0.sub) I0.sub))⟩⟩⟩⟩⟩⟩)) D9) u λu o=>qg o (An o rfl rfl) λo=>qv o (Ad o rfl rfl) λo=>qv o (Ar (Ab o rfl) (congrArg Value.bool R2)) λo=>qg o (Ay o isAgg27 sizeOf27 rfl rfl (u.ld.cellsB t2)) λo=>ls<|gy o rfl rfl<|c1 o rfl call27 (Jb7 (Ai _) (Enc.mono (St.up u) (show Enc.rep (α:=api_Prog) H246 [SL Y1 K0.Lines S0,SL n0 K0.Vols T0,SL p0 K0.Locks U0,SL u0 K0.Threads V0,SL B1 K0.Recover W0,SL C1 K0.Claims X0] K0 from ⟨_,_,rfl,⟨_,_,rfl,E1,(F1.mono (cp (cp (cp (cp (cp (cp G0.sub F0.sub) E0.sub) D0.sub) C0.sub) J0.sub) I0.sub))⟩,⟨_,_,rfl,⟨_,_,rfl,G1,(I1.mono (cp (cp (cp (cp (cp (cp G0.sub F0.sub) E0.sub) D0.sub) C0.sub) J0.sub) I0.sub))⟩,⟨_,_,rfl,⟨_,_,rfl,J1,(M1.mono (cp (cp (cp (cp (cp (cp G0.sub F0.sub) E0.sub) D0.sub) C0.sub) J0.sub) I0.sub))⟩,⟨_,_,rfl,⟨_,_,rfl,O1,(P1.mono (cp (cp (cp (cp (cp (cp G0.sub F0.sub) E0.sub) D0.sub) C0.sub) J0.sub) I0.sub))⟩,⟨_,_,rfl,⟨_,_,rfl,Q1,(R1.mono (cp (cp (cp (cp (cp (cp G0.sub F0.sub) E0.sub) D0.sub) C0.sub) J0.sub) I0.sub))⟩,⟨_,_,rfl,S1,(T1.mono (cp (cp (cp (cp (cp (cp G0.sub F0.sub) E0.sub) D0.sub) C0.sub) J0.sub) I0.sub))⟩⟩⟩⟩⟩⟩)) E9) ⟨rfl,trivial⟩ (λv w a hR o=>?_)
 obtain ⟨e9,V9,j9,rfl,X2,hk⟩:=hR
 replace u:=u.fresh hk
 replace X2:=X2 H246
 refine ls<|gy o rfl rfl<|Bh (e:=9) (sz:=1) [Ac [109]] o rfl u rfl rfl rfl (λw=>by kernel_rfl) λb286 w a u o=>?_
 have I7:Rows (α:=Str) H246 [Ac [109]] ([[109]]:List Str):=(.cons (c:=[Ac [109]]) rfl .nil)
 refine ls<|gy o rfl rfl<|cr o call21 (Yg (Ai _) (St.capO u t1) (St.srO u t1 X2) (St.capO u t0) (St.srO u t0 I7) F9) u λu o=>qv o (Ad o rfl rfl) λo=>qv o (Ar (Ab o rfl) (congrArg Value.bool T2)) λo=>qg o (Ay o isAgg27 sizeOf27 rfl rfl (u.ld.cellsB t4)) λo=>ls<|gy o rfl rfl<|c1 o rfl call30 (Jb9 (Ai _) (Enc.mono (St.up u) (show Enc.rep (α:=api_Prog) H246 [SL Y1 K0.Lines S0,SL n0 K0.Vols T0,SL p0 K0.Locks U0,SL u0 K0.Threads V0,SL B1 K0.Recover W0,SL C1 K0.Claims X0] K0 from ⟨_,_,rfl,⟨_,_,rfl,E1,(F1.mono (cp (cp (cp (cp (cp (cp G0.sub F0.sub) E0.sub) D0.sub) C0.sub) J0.sub) I0.sub))⟩,⟨_,_,rfl,⟨_,_,rfl,G1,(I1.mono (cp (cp (cp (cp (cp (cp G0.sub F0.sub) E0.sub) D0.sub) C0.sub) J0.sub) I0.sub))⟩,⟨_,_,rfl,⟨_,_,rfl,J1,(M1.mono (cp (cp (cp (cp (cp (cp G0.sub F0.sub) E0.sub) D0.sub) C0.sub) J0.sub) I0.sub))⟩,⟨_,_,rfl,⟨_,_,rfl,O1,(P1.mono (cp (cp (cp (cp (cp (cp G0.sub F0.sub) E0.sub) D0.sub) C0.sub) J0.sub) I0.sub))⟩,⟨_,_,rfl,⟨_,_,rfl,Q1,(R1.mono (cp (cp (cp (cp (cp (cp G0.sub F0.sub) E0.sub) D0.sub) C0.sub) J0.sub) I0.sub))⟩,⟨_,_,rfl,S1,(T1.mono (cp (cp (cp (cp (cp (cp G0.sub F0.sub) E0.sub) D0.sub) C0.sub) J0.sub) I0.sub))⟩⟩⟩⟩⟩⟩)) G9) ⟨rfl,trivial⟩ (λv w a hR o=>?_)
 obtain ⟨k9,W9,l9,rfl,Y2,hk⟩:=hR
 replace u:=u.fresh hk
 replace Y2:=Y2 H246
 refine ls<|gy o rfl rfl<|Bh (e:=3) (sz:=1) [i6 1,i6 0,i6 0,i6 7] o rfl u rfl rfl rfl (λw=>by kernel_rfl) λb299 w a u o=>?_
 have J7:Rows (α:=Int) H246 [i6 1,i6 0,i6 0,i6 7] ([1,0,0,7]:List Int):=(.cons (c:=[i6 1]) rfl (.cons (c:=[i6 0]) rfl (.cons (c:=[i6 0]) rfl (.cons (c:=[i6 7]) rfl .nil))))
 refine ls<|gy o rfl rfl<|cr o call29 (Jbz (Ai _) (St.capO u t1) (St.srO u t1 Y2) (St.capO u t0) (St.srO u t0 J7) I9) u λu o=>qv o (Ad o rfl rfl) λo=>qv o (Ar (Ab o rfl) (congrArg Value.bool U2)) λo=>qg o (Ay o isAgg27 sizeOf27 rfl rfl (u.ld.cellsB t6)) λo=>ls<|gy o rfl rfl<|c1 o rfl call20 (Xl (Ai _) (Enc.mono (St.up u) (show Enc.rep (α:=api_Prog) H246 [SL Y1 K0.Lines S0,SL n0 K0.Vols T0,SL p0 K0.Locks U0,SL u0 K0.Threads V0,SL B1 K0.Recover W0,SL C1 K0.Claims X0] K0 from ⟨_,_,rfl,⟨_,_,rfl,E1,(F1.mono (cp (cp (cp (cp (cp (cp G0.sub F0.sub) E0.sub) D0.sub) C0.sub) J0.sub) I0.sub))⟩,⟨_,_,rfl,⟨_,_,rfl,G1,(I1.mono (cp (cp (cp (cp (cp (cp G0.sub F0.sub) E0.sub) D0.sub) C0.sub) J0.sub) I0.sub))⟩,⟨_,_,rfl,⟨_,_,rfl,J1,(M1.mono (cp (cp (cp (cp (cp (cp G0.sub F0.sub) E0.sub) D0.sub) C0.sub) J0.sub) I0.sub))⟩,⟨_,_,rfl,⟨_,_,rfl,O1,(P1.mono (cp (cp (cp (cp (cp (cp G0.sub F0.sub) E0.sub) D0.sub) C0.sub) J0.sub) I0.sub))⟩,⟨_,_,rfl,⟨_,_,rfl,Q1,(R1.mono (cp (cp (cp (cp (cp (cp G0.sub F0.sub) E0.sub) D0.sub) C0.sub) J0.sub) I0.sub))⟩,⟨_,_,rfl,S1,(T1.mono (cp (cp (cp (cp (cp (cp G0.sub F0.sub) E0.sub) D0.sub) C0.sub) J0.sub) I0.sub))⟩⟩⟩⟩⟩⟩)) J9) ⟨rfl,trivial⟩ (λv w a hR o=>?_)
 obtain ⟨n9,X9,o9,rfl,A3,hk⟩:=hR
 replace u:=u.fresh hk
 replace A3:=A3 H246
 refine ls<|gy o rfl rfl<|cr o call32 (Yk (Ai _) (St.capO u t0) (St.srO u t0 A3) K9) u λu o=>qg o (An o rfl rfl) λo=>qv o (Ad o rfl rfl) λo=>qv o (Ar (Ab o rfl) (congrArg Value.bool V2)) λo=>ls<|gy o rfl rfl<|cr o call32 (Yk (Ai _) (Nat.le_refl _) (SR.nil _ none) L9) u λu o=>qg o (An o rfl rfl) λo=>qv o (Ad o rfl rfl) λo=>qa o rfl λo=>re<|tn<|wr<|?_
 obtain rfl:=si hm
 exact r1 o results18 rfl ⟨rfl,u.keep⟩
theorem JaR (hH:H.le w0) (hT:Tab H) {cs2:List Value} {p1:api_Prog} (g3:Enc.rep H cs2 p1) {r:Bool} (hm:Z12 N p1=some r):Tot Tryz.prog 3 #[.agg cs2.toArray] w0 (λv w'=>v=.bool r∧Keep Nil w0 w'):=by
 unfold Z12 at hm
 refine fn0 func3 rfl ntmps3 rfl rfl λa o=>?_
 have u:St w0 Nil [H] [] w0:=start1 hH
 obtain ⟨V1,U0,X1,V0,W0,F0,X0,G0,Y0,I0,j0,J0,rfl,P2,Q2,Y1,B2,C2,E2,F2,G2,I2,J2,K2,M2⟩:=Aq g3
 refine th<|rg<|ls<|Br (cs:=[SL V1 p1.Lines U0,SL X1 p1.Vols V0,SL W0 p1.Locks F0,SL X0 p1.Threads G0,SL Y0 p1.Recover I0,SL j0 p1.Claims J0].toArray) o rfl u rfl rfl λX2 w a u o=>qa o rfl λo=>re<|tn<|th<|?_
 obtain ⟨C0,R2,hm⟩:=bs hm
 refine rg<|qv o (Ay o Tryz.isAgg27 Tryz.sizeOf27 rfl rfl (u.ld.cellsB t0)) λo=>ls<|c1 o rfl call15 (Jce (St.le u) (show Enc.rep (α:=api_Prog) H [SL V1 p1.Lines U0,SL X1 p1.Vols V0,SL W0 p1.Locks F0,SL X0 p1.Threads G0,SL Y0 p1.Recover I0,SL j0 p1.Claims J0] p1 from ⟨_,_,rfl,⟨_,_,rfl,P2,Q2⟩,⟨_,_,rfl,⟨_,_,rfl,Y1,B2⟩,⟨_,_,rfl,⟨_,_,rfl,C2,E2⟩,⟨_,_,rfl,⟨_,_,rfl,F2,G2⟩,⟨_,_,rfl,⟨_,_,rfl,I2,J2⟩,⟨_,_,rfl,K2,M2⟩⟩⟩⟩⟩⟩) R2) ⟨rfl,trivial⟩ (λv w a hR o=>?_)
 obtain ⟨H34,cs35,rfl,T2,D0,O2,hk⟩:=hR
 obtain ⟨u,D0⟩:=And.intro (St.passH u hk D0 O2) (St.extc u D0)
 obtain ⟨n0,K0,p0,M0,u0,O0,B1,P0,C1,Q0,E1,R0,rfl,F1,G1,I1,J1,M1,O1,P1,Q1,R1,S1,T1,U1⟩:=Aq T2
 refine ls<|Az o u sizeOf27 rfl rfl rfl rfl (Al rfl) .head λw u=>re<|tn<|th<|?_
 obtain ⟨S0,U2,hm⟩:=bs hm
 refine rg<|qv o (Ay o Tryz.isAgg27 Tryz.sizeOf27 rfl rfl (u.ld.cellsB t0)) λo=>ls<|cr o call16 (Iv (Ai _) (Tab.mono (Tab.mono hT D0.sub) (St.up u)) (Enc.mono (St.up u) (show Enc.rep (α:=api_Prog) H34 [SL n0 C0.Lines K0,SL p0 C0.Vols M0,SL u0 C0.Locks O0,SL B1 C0.Threads P0,SL C1 C0.Recover Q0,SL E1 C0.Claims R0] C0 from ⟨_,_,rfl,⟨_,_,rfl,F1,G1⟩,⟨_,_,rfl,⟨_,_,rfl,I1,J1⟩,⟨_,_,rfl,⟨_,_,rfl,M1,O1⟩,⟨_,_,rfl,⟨_,_,rfl,P1,Q1⟩,⟨_,_,rfl,⟨_,_,rfl,R1,S1⟩,⟨_,_,rfl,T1,U1⟩⟩⟩⟩⟩⟩)) U2) u λu o=>qm o rfl λo=>?_
 iterate 2 refine qv o (Cd o rfl rfl) λo=>?_
 iterate 2 refine qa o rfl λo=>?_
 refine re<|tn<|th<|?_
 obtain ⟨T0,V2,hm⟩:=bs hm
 refine rg<|qv o (Ay o Tryz.isAgg27 Tryz.sizeOf27 rfl rfl (u.ld.cellsB t0)) λo=>ls<|cr o call17 (JaZ (Ai _) (Enc.mono (St.up u) (show Enc.rep (α:=api_Prog) H34 [SL n0 C0.Lines K0,SL p0 C0.Vols M0,SL u0 C0.Locks O0,SL B1 C0.Threads P0,SL C1 C0.Recover Q0,SL E1 C0.Claims R0] C0 from ⟨_,_,rfl,⟨_,_,rfl,F1,G1⟩,⟨_,_,rfl,⟨_,_,rfl,I1,J1⟩,⟨_,_,rfl,⟨_,_,rfl,M1,O1⟩,⟨_,_,rfl,⟨_,_,rfl,P1,Q1⟩,⟨_,_,rfl,⟨_,_,rfl,R1,S1⟩,⟨_,_,rfl,T1,U1⟩⟩⟩⟩⟩⟩)) V2) u λu o=>qm o rfl λo=>?_
 iterate 2 refine qv o (Cd o rfl rfl) λo=>?_
 iterate 2 refine qa o rfl λo=>?_
 refine re<|tn<|th<|?_
 rcases bit hm with ⟨E0,hm⟩ | ⟨E0,hm⟩
 obtain ⟨Y2,W2,hm⟩:=bs hm
 refine rg<|qm o rfl λo=>qm o rfl λo=>qv o (An o rfl rfl) λo=>qm o rfl λo=>gr (Fk:=[(26,.bool ((decide (S0.1=T0.1)) && (decide (S0.2=T0.2))))]) 22 4 o u ?_ ?_ ?_
 intro hb o key
 iterate 2 refine qg o (Ab o rfl) λo=>?_
 exact qg o (An o rfl rfl) λo=>qk o (Ad o rfl rfl) key u hb
 intro hb o key
 iterate 3 refine qn o λo=>?_
 exact qk o (Ae o rfl rfl) key u hb
 intro a w o u
 refine qv o (Ar (Ab o rfl) (congrArg Value.bool E0)) λo=>ls<|gy o rfl rfl<|c1 o rfl call18 (Jb3 (Ai _) (Tab.mono (Tab.mono hT D0.sub) (St.up u)) W2) trivial (λv w a hR o=>?_)
 obtain ⟨rfl,hk⟩:=hR
 replace u:=u.pass hk
 refine qv o (Ad o rfl rfl) λo=>qa o rfl λo=>re<|tn<|wr<|?_
 obtain rfl:=si hm
 exact r1 o results3 rfl ⟨rfl,u.keep⟩
 refine rg<|qm o rfl λo=>qm o rfl λo=>qv o (An o rfl rfl) λo=>qm o rfl λo=>gr (Fk:=[(26,.bool ((decide (S0.1=T0.1)) && (decide (S0.2=T0.2))))]) 22 4 o u ?_ ?_ ?_
 intro hb o key
 iterate 2 refine qg o (Ab o rfl) λo=>?_
 exact qg o (An o rfl rfl) λo=>qk o (Ad o rfl rfl) key u hb
 intro hb o key
 iterate 3 refine qn o λo=>?_
 exact qk o (Ae o rfl rfl) key u hb
 intro a w o u
 refine qv o (Ar (Ab o rfl) (congrArg Value.bool E0)) λo=>qn o λo=>qv o (Ae o rfl rfl) λo=>qa o rfl λo=>re<|tn<|wr<|?_
 obtain rfl:=si hm
 exact r1 o results3 rfl ⟨rfl,u.keep⟩
end Go.LM.LB
