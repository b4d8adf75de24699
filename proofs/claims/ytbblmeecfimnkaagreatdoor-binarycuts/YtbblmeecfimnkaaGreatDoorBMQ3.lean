/- Walks, lifted by program. No condition beyond the theorems' own premises. -/
import Derived.Test.YtbblmeecfimnkaaGreatDoorBMQ2
namespace Go.LM.BINZ
open Go Go.LL Go.MD Go.LM Go.Proofs Go.MD.BINZ Go.Proofs.Tryz
set_option maxRecDepth 100000
variable {N:Nat} {w0:World} {H:PH}
theorem We (hH:H.le w0) {p1:Str} {p2:Int} {r:(Int×Int×Int)} (hm:Z7 N p1 p2=some r):Tot Tryz.prog 42 #[Ag p1,i6 p2] w0 (λv w'=>v=.tuple #[i6 r.1,i6 r.2.1,i6 r.2.2]∧Keep Nil w0 w'):=by
 unfold Z7 at hm
 refine fn0 func42 rfl ntmps42 rfl rfl λa o=>?_
 have u:St w0 Nil [H] [] w0:=start1 hH
 refine th<|rg<|qa o rfl λo=>?_
 iterate 2 refine qa o rfl λo=>?_
 refine re<|tn<|th<|th<|rg<|qm o rfl λo=>qv o (Ak o rfl rfl) λo=>qm o rfl λo=>gr (Fk:=[(0,Ag p1),(1,i6 p2),(17,.bool ((decide (p2 < 0)) || (decide ((p1.length:Int) < p2))))]) 12 5 o u ?_ ?_ ?_
 intro hb o key
 iterate 4 refine qn o λo=>?_
 exact qk o (Ac o rfl rfl) key u hb
 intro hb o key
 iterate 2 refine qg o (Ab o rfl) λo=>?_
 exact qg o (Cu (s:=p1) o runUnderlying9 rfl) λo=>qg o (Ba o rfl rfl) λo=>qk o (Ad o rfl rfl) key u hb
 intro a w o u
 refine re<|?_
 rcases bit hm with ⟨I0,hm⟩ | ⟨I0,hm⟩
 refine tn<|ctv o rfl I0<|th<|rg<|qa o rfl λo=>?_
 iterate 2 refine qa o rfl λo=>?_
 refine re<|tn<|wr<|tr<|?_
 obtain rfl:=si hm
 exact Go.LM.r3 o results42 rfl rfl rfl ⟨rfl,u.keep⟩
 refine tn<|cfv o rfl I0<|wk<|tn<|th<|rg<|qa o rfl λo=>re<|tn<|th<|th<|rg<|qm o rfl λo=>re<|tn<|Av (λa w=>Z8=some r∧Fr 59 [] a∧St w0 Nil [H] [] w) ?_ ?_
 refine wb<|lp (α:=Nat×Int×Int) (λgh a w=>match gh with | (C0,D0,A0)=>(Z9 N Z8 p1 p2) C0 D0 A0=some r∧Fr 59 [(0,Ag p1),(1,i6 p2),(7,i6 D0),(18,i6 A0)] a∧St w0 Nil [H] [] w) (λgh=>gh.1) (N,0,0) ⟨hm,o.hs,u⟩ ?_
 rintro ⟨C0,D0,A0⟩ a w ⟨hm,o,u⟩
 obtain _ | C0:=C0
 simp [Z9] at hm
 rw [Z9] at hm
 refine th<|rg<|qv o (Ak o rfl rfl) λo=>re<|?_
 rcases bip hm with ⟨J0,hm⟩ | ⟨J0,hm⟩
 refine tn<|th<|ctv o rfl J0<|wk<|tn<|th<|wb<|th<|rg<|qm o rfl λo=>qa o rfl λo=>re<|tn<|th<|th<|rg<|qm o rfl λo=>qm o rfl λo=>qv o (An o rfl rfl) λo=>qm o rfl λo=>qv o (Cu (s:=p1) o runUnderlying9 rfl) λo=>qv o (Aq o rfl rfl) λo=>re<|?_
 rcases bip hm with ⟨K0,hm⟩ | ⟨K0,hm⟩
 refine tn<|ctv o rfl K0<|th<|rg<|qa o rfl λo=>?_
 iterate 2 refine qa o rfl λo=>?_
 refine re<|tn<|wr<|tr<|br<|tr<|tr<|br<|tr<|?_
 obtain rfl:=si hm
 exact Go.LM.r3 o results42 rfl rfl rfl ⟨rfl,u.keep⟩
 refine tn<|cfv o rfl K0<|wk<|tn<|th<|?_
 obtain ⟨O0,h7,hm⟩:=bs hm
 refine rg<|qm o rfl λo=>?_
 iterate 2 refine qm o rfl λo=>?_
 refine qv o (An o rfl rfl) λo=>qv o (Jk (s:=p1) o runUnderlying9 rfl rfl h7) λo=>qv o (Nv o runUnderlying5 runUnderlying3 rfl) λo=>qa o rfl λo=>re<|tn<|th<|?_
 obtain ⟨M0,h9,hm⟩:=bs hm
 refine rg<|qm o rfl λo=>qm o rfl λo=>qv o (Uc o rfl rfl (by decide)) λo=>qm o rfl λo=>qv o (Jbq o rfl rfl) λo=>qv o (Jb0 o rfl rfl h9) λo=>qv o (An o rfl rfl) λo=>qa o rfl λo=>re<|tn<|th<|wb<|th<|rg<|qm o rfl λo=>qv o (Bo o rfl rfl) λo=>qa o rfl λo=>re<|?_
 rcases bip hm with ⟨E0,hm⟩ | ⟨E0,hm⟩
 refine tn<|ctv o rfl E0<|we<|bo rfl<|tx<|bx<|tn<|rg<|qv o (An o rfl rfl) λo=>qm o rfl λo=>re<|tn<|?_
 exact ⟨(C0,(IntKind.i64.wrap (D0+M0)),(IntKind.i64.wrap (A0+1))),⟨hm,o.hs,u⟩,Nat.lt_succ_self _⟩
 refine tn<|cfv o rfl E0<|th<|rg<|qm o rfl λo=>qv o (Aq o rfl rfl) λo=>qm o rfl λo=>gr (Fk:=[(1,i6 p2),(7,i6 (IntKind.i64.wrap (D0+M0))),(8,i6 A0),(49,.bool ((decide ((IntKind.i64.wrap O0)=0)) && (decide (0 < A0))))]) 46 3 o u ?_ ?_ ?_
 intro hb o key
 exact qg o (Ab o rfl) λo=>qg o (Ba o rfl rfl) λo=>qk o (Ac o rfl rfl) key u hb
 intro hb o key
 iterate 2 refine qn o λo=>?_
 exact qk o (Ad o rfl rfl) key u hb
 intro a w o u
 refine qa o rfl λo=>re<|?_
 rcases bit hm with ⟨F0,hm⟩ | ⟨F0,hm⟩
 refine tn<|ctv o rfl F0<|th<|rg<|qa o rfl λo=>?_
 iterate 2 refine qa o rfl λo=>?_
 refine re<|tn<|wr<|br<|tr<|br<|tr<|tr<|br<|tr<|?_
 obtain rfl:=si hm
 exact Go.LM.r3 o results42 rfl rfl rfl ⟨rfl,u.keep⟩
 refine tn<|cfv o rfl F0<|th<|rg<|qm o rfl λo=>qv o (Ba o rfl rfl) λo=>qa o rfl λo=>re<|?_
 rcases bip hm with ⟨G0,hm⟩ | ⟨G0,hm⟩
 refine tn<|ctv o rfl G0<|th<|rg<|qa o rfl λo=>?_
 iterate 2 refine qa o rfl λo=>?_
 refine re<|tn<|wr<|br<|tr<|br<|tr<|tr<|br<|tr<|?_
 obtain rfl:=si hm
 exact Go.LM.r3 o results42 rfl rfl rfl ⟨rfl,u.keep⟩
 refine tn<|cfv o rfl G0<|wk<|bn<|tn<|th<|rg<|qm o rfl λo=>?_
 iterate 2 refine qm o rfl λo=>?_
 iterate 2 refine qv o (An o rfl rfl) λo=>?_
 iterate 3 refine qa o rfl λo=>?_
 refine re<|tn<|wr<|br<|tr<|tr<|br<|tr<|?_
 obtain rfl:=si hm
 exact Go.LM.r3 o results42 rfl rfl rfl ⟨rfl,u.keep⟩
 refine tn<|th<|cfv o rfl J0<|we<|tx<|tx<|bx<|tn<|?_
 exact ⟨hm,o.has trivial,u⟩
 rintro a w ⟨hm,o,u⟩
 unfold Z8 at hm
 refine th<|rg<|qa o rfl λo=>?_
 iterate 2 refine qa o rfl λo=>?_
 refine re<|tn<|wr<|?_
 obtain rfl:=si hm
 exact Go.LM.r3 o results42 rfl rfl rfl ⟨rfl,u.keep⟩
theorem Lm (hH:H.le w0) {b2:Nat} {p1:binary_reader} (hO:(sepA [bk b2 [Ag p1.s,i6 p1.at'] 70]).ok (hp w0)) (hD:∀ b,(sepA [bk b2 [Ag p1.s,i6 p1.at'] 70]).fp b→H b=none) {r:(Option (Int×binary_reader))} (hm:Zn N p1=some r):Pn Tryz.prog 73 #[PT b2] w0 (λv w'=>∃ (r0:(Int×binary_reader)),r=some r0∧v=i6 r0.1∧Mut w0 (sepA [bk b2 [Ag p1.s,i6 p1.at'] 70]) (sepA [bk b2 [Ag r0.2.s,i6 r0.2.at'] 70]) w') (λw'=>r=none∧Keep (sepA [bk b2 [Ag p1.s,i6 p1.at'] 70]).fp w0 w'):=by
 unfold Zn at hm
 refine fnP (args:=[PT b2]) (F:=[(0,PT b2)]) func73 rfl ntmps73 rfl rfl λa o=>?_
 have u:=Gh hH hO hD
 refine th<|rg<|qa o rfl λo=>re<|tn<|th<|?_
 obtain ⟨C0,h4,hm⟩:=bs hm
 refine rdS 16 u wide λw u=>dr 0 u o rfl (Ab o rfl) λo=>dr 1 u o rfl (Ea o rfl) λo=>dr 2 u o rfl (Ae o Yz rfl) λo=>dq 3 u.ld o rfl (λw hl=>Af o isAgg9 rfl (hl.cellB t0 rfl)) λo=>dr 4 u o rfl (Ab o rfl) λo=>dr 5 u o rfl (Ea o rfl) λo=>dr 6 u o rfl (Ae o Jam rfl) λo=>dq 7 u.ld o rfl (λw hl=>Af o isAgg3 rfl (hl.cellB t0 rfl)) λo=>da1 (i:=8) (by kernel_rfl) ?_
 refine di (i:=8) rfl<|cr o call42 (We (Ah _) h4) u λu o=>⟨λ_=>u.ld,?_⟩
 refine dr 9 u o rfl (Ab o rfl) λo=>dr 10 u o rfl (Dd o rfl rfl) λo=>dr 11 u o rfl (Dd o rfl rfl) λo=>dr 12 u o rfl (Dd o rfl rfl) λo=>dr 13 u o rfl (Bp o rfl) λo=>dr 14 u o rfl (Bp o rfl) λo=>dr 15 u o rfl (Bp o rfl) λo=>de (by kernel_rfl)<|tn<|th<|th<|rg<|qm o rfl λo=>qv o (Bh o rfl rfl) λo=>re<|?_
 rcases bip hm with ⟨A0,hm⟩ | ⟨A0,hm⟩
 refine tn<|ctv o rfl A0<|rg<|qm o rfl λo=>qv o (Yh o (Wt _) rfl) λo=>ls<|pnq o rfl ?_
 obtain rfl:=si hm
 exact tpn<|pnB o ⟨rfl,u.keep⟩
 refine tn<|cfv o rfl A0<|wk<|tn<|th<|rg<|qm o rfl λo=>qm o rfl λo=>qv o (Ea o rfl) λo=>qv o (Ae o Jam rfl) λo=>ls<|Bz o u sizeOf3 rfl rfl rfl rfl .head (.succ .zero) λw u=>re<|tn<|th<|rg<|qm o rfl λo=>qa o rfl λo=>re<|tn<|wr<|?_
 obtain rfl:=si hm
 exact bpl (r1 o results73 rfl ⟨_,rfl,rfl,(u.pickL (.cons .head .nil)).endMut⟩)
theorem Yt (hH:H.le w0) {b2:Nat} {p1:binary_reader} (hO:(sepA [bk b2 [Ag p1.s,i6 p1.at'] 70]).ok (hp w0)) (hD:∀ b,(sepA [bk b2 [Ag p1.s,i6 p1.at'] 70]).fp b→H b=none) {r:(Option (Int×binary_reader))} (hm:Zm N p1=some r):Pn Tryz.prog 74 #[PT b2] w0 (λv w'=>∃ (r0:(Int×binary_reader)),r=some r0∧v=i6 r0.1∧Mut w0 (sepA [bk b2 [Ag p1.s,i6 p1.at'] 70]) (sepA [bk b2 [Ag r0.2.s,i6 r0.2.at'] 70]) w') (λw'=>r=none∧Keep (sepA [bk b2 [Ag p1.s,i6 p1.at'] 70]).fp w0 w'):=by
 unfold Zm at hm
 refine fnP (args:=[PT b2]) (F:=[(0,PT b2)]) func74 rfl ntmps74 rfl rfl λa o=>?_
 have u:=Gh hH hO hD
 refine th<|rg<|qa o rfl λo=>re<|tn<|th<|rg<|qm o rfl λo=>?_
 replace u:=u.pk [0] rfl
 replace u:=St.sep [bk b2 [Ag p1.s,i6 p1.at'] 70] u
 obtain ⟨ro5,h4,hm⟩:=Option.bindP_x hm
 refine ls<|c1p o rfl call73 (Lm (St.le u) (p1:=p1) (b2:=b2) (St.sepOk u) (St.sepDis u) h4) ⟨rfl,trivial⟩ (λ_ _ w hE=>?_) (λv w a hR o=>?_)
 obtain ⟨rfl,hk⟩:=hE;obtain rfl:=si hm;exact tpn<|pnB o ⟨rfl,St.panK u hk⟩
 obtain ⟨C0,rfl,hR⟩:=hR
 replace hm:=Option.bindP_s hm
 obtain ⟨rfl,hk⟩:=hR
 replace u:=(u.mut hk .head).unsep
 refine qa o rfl λo=>re<|tn<|th<|th<|rg<|qm o rfl λo=>qm o rfl λo=>qv o (Ea o rfl) λo=>qv o (Ae o Yz rfl) λo=>qv o (Af o isAgg9 rfl (u.ld.cellB t0 rfl)) λo=>qv o (Cu (s:=C0.2.s) o runUnderlying9 rfl) λo=>qv o (Ba o rfl rfl) λo=>re<|?_
 rcases bip hm with ⟨A0,hm⟩ | ⟨A0,hm⟩
 refine tn<|ctv o rfl A0<|rg<|qv o (Yh o (Wt _) rfl) λo=>ls<|pnq o rfl ?_
 obtain rfl:=si hm
 exact tpn<|pnB o ⟨rfl,u.keep⟩
 refine tn<|cfv o rfl A0<|wk<|tn<|th<|rg<|qm o rfl λo=>qa o rfl λo=>re<|tn<|wr<|?_
 obtain rfl:=si hm
 exact bpl (r1 o results74 rfl ⟨_,rfl,rfl,(u.pickL (.cons .head .nil)).endMut⟩)
theorem Jdk (hH:H.le w0) {b2:Nat} {p1:binary_reader} (hO:(sepA [bk b2 [Ag p1.s,i6 p1.at'] 70]).ok (hp w0)) (hD:∀ b,(sepA [bk b2 [Ag p1.s,i6 p1.at'] 70]).fp b→H b=none) {r:(Option ((List Int)×binary_reader))} (hm:Zo N p1=some r):Pn Tryz.prog 72 #[PT b2] w0 (λv w'=>∃ (r0:((List Int)×binary_reader)),r=some r0∧∃ (W0:Option Addr) (R0:Nat) (X0:List Value),v=SL W0 r0.1 R0∧(∀ h,Rows h X0 r0.1)∧Mut w0 (sepA [bk b2 [Ag p1.s,i6 p1.at'] 70]) (sepA [bk b2 [Ag r0.2.s,i6 r0.2.at'] 70,sla 3 1 W0 r0.1.length R0 X0]) w') (λw'=>r=none∧Keep (sepA [bk b2 [Ag p1.s,i6 p1.at'] 70]).fp w0 w'):=by
 unfold Zo at hm
 refine fnP (args:=[PT b2]) (F:=[(0,PT b2)]) func72 rfl ntmps72 rfl rfl λa o=>?_
 have u:=Gh hH hO hD
 refine th<|rg<|qa o rfl λo=>re<|tn<|th<|rg<|qa o rfl λo=>re<|tn<|th<|th<|rg<|qm o rfl λo=>?_
 replace u:=u.pk [0] rfl
 replace u:=St.sep [bk b2 [Ag p1.s,i6 p1.at'] 70] u
 obtain ⟨ro5,h4,hm⟩:=Option.bindP_x hm
 refine ls<|c1p o rfl call74 (Yt (St.le u) (p1:=p1) (b2:=b2) (St.sepOk u) (St.sepDis u) h4) ⟨rfl,trivial⟩ (λ_ _ w hE=>?_) (λv w a hR o=>?_)
 obtain ⟨rfl,hk⟩:=hE;obtain rfl:=si hm;exact tpn<|tpn<|pnB o ⟨rfl,St.panK u hk⟩
 obtain ⟨S0,rfl,hR⟩:=hR
 replace hm:=Option.bindP_s hm
 obtain ⟨rfl,hk⟩:=hR
 replace u:=(u.mut hk .head).unsep
 refine qm o rfl λo=>re<|tn<|Av (λa w=>∃ (P0:binary_reader) (J0:(List Int)) (M0:Option Addr) (F0:Nat) (O0:List Value),Zp P0 J0=some r∧Fr 15 [(0,PT b2),(3,SL M0 J0 F0)] a∧St w0 (sepA [bk b2 [Ag p1.s,i6 p1.at'] 70]).fp [H] [bk b2 [Ag P0.s,i6 P0.at'] 70,sla 3 1 M0 J0.length F0 O0] w∧Rows H O0 J0) ?_ ?_
 replace u:=u.nilS 3 1
 replace u:=u.pk [1,0] rfl
 refine wb<|lp (α:=Nat×binary_reader×(List Int)×Int) (λgh a w=>match gh with | (K0,A0,D0,Q0)=>∃ (G0:Option Addr) (C0:Nat) (I0:List Value),(Zq N Zp S0) K0 A0 D0 Q0=some r∧Fr 15 [(0,PT b2),(3,SL G0 D0 C0),(5,i6 S0.1),(6,i6 Q0)] a∧St w0 (sepA [bk b2 [Ag p1.s,i6 p1.at'] 70]).fp [H] [bk b2 [Ag A0.s,i6 A0.at'] 70,sla 3 1 G0 D0.length C0 I0] w∧Rows H I0 D0) (λgh=>gh.1) (N,S0.2,[],0) ⟨none,0,[],hm,o.hs,u,.nil⟩ ?_
 rintro ⟨K0,A0,D0,Q0⟩ a w ⟨G0,C0,I0,hm,o,u,T0⟩
 obtain _ | K0:=K0
 simp [Zq] at hm
 rw [Zq] at hm
 refine th<|rg<|qv o (Ak o rfl rfl) λo=>re<|?_
 rcases bip hm with ⟨U0,hm⟩ | ⟨U0,hm⟩
 refine tn<|th<|ctv o rfl U0<|wk<|tn<|th<|wb<|rg<|qm o rfl λo=>qm o rfl λo=>?_
 replace u:=u.pk [0,0] rfl
 replace u:=St.sep [bk b2 [Ag A0.s,i6 A0.at'] 70] u
 obtain ⟨ro9,h8,hm⟩:=Option.bindP_x hm
 refine ls<|c1p o rfl call73 (Lm (St.le u) (p1:=A0) (b2:=b2) (St.sepOk u) (St.sepDis u) h8) ⟨rfl,trivial⟩ (λ_ _ w hE=>?_) (λv w a hR o=>?_)
 obtain ⟨rfl,hk⟩:=hE;obtain rfl:=si hm;exact bpn<|tpn<|tpn<|bpn<|tpn<|pnB o ⟨rfl,St.panK u hk⟩
 obtain ⟨E0,rfl,hR⟩:=hR
 replace hm:=Option.bindP_s hm
 obtain ⟨C1,D1,hm⟩:=bs hm
 obtain ⟨rfl,hk⟩:=hR
 replace u:=(u.mut hk .head).unsep
 refine ls<|Bj (e:=3) (sz:=1) [i6 E0.1] o rfl u rfl rfl rfl (λw=>by kernel_rfl) λE1 w a u o=>?_
 have Y0:Rows (α:=Int) H [i6 E0.1] ([E0.1]:List Int):=(.cons (c:=[i6 E0.1]) rfl .nil)
 refine ls<|Bv (α:=Int) (xs:=D0) (ys:=([E0.1]:List Int)) o rfl u underlying22 Tw rfl (by decide) rfl rfl rfl t2 T0 (u.rdO t0) Y0 D1 λj0 V0 n0 w a u0 hU o=>?_
 replace u:=hU _ (.tail (.tail .head))
 replace u:=u.drop .head
 refine qa o rfl λo=>re<|bn<|tn<|rg<|qv o (An o rfl rfl) λo=>qm o rfl λo=>re<|tn<|?_
 exact ⟨(K0,E0.2,C1,(IntKind.i64.wrap (Q0+1))),⟨j0,V0,n0,hm,o.hs,u,u0⟩,Nat.lt_succ_self _⟩
 refine tn<|th<|cfv o rfl U0<|we<|tx<|tx<|bx<|tn<|?_
 exact ⟨A0,D0,G0,C0,I0,hm,o.has ⟨rfl,rfl,trivial⟩,u,T0⟩
 rintro a w ⟨P0,J0,M0,F0,O0,hm,o,u,B1⟩
 unfold Zp at hm
 refine th<|rg<|qm o rfl λo=>qa o rfl λo=>re<|tn<|wr<|?_
 obtain rfl:=si hm
 exact bpl (r1 o results72 rfl ⟨_,rfl,_,_,_,rfl,(λ_=>Rows.ind B1),(u.pickL (.cons .head (.cons .head .nil))).endMut⟩)
theorem JbF (hH:H.le w0) {b2:Nat} {p1:binary_reader} (hO:(sepA [bk b2 [Ag p1.s,i6 p1.at'] 70]).ok (hp w0)) (hD:∀ b,(sepA [bk b2 [Ag p1.s,i6 p1.at'] 70]).fp b→H b=none) {r:(Option ((List api_Op)×binary_reader))} (hm:Zr N p1=some r):Pn Tryz.prog 76 #[PT b2] w0 (λv w'=>∃ (r0:((List api_Op)×binary_reader)),r=some r0∧∃ (X0:Option Addr) (S0:Nat) (Y0:List Value),v=SL X0 r0.1 S0∧(∀ h,Rows h Y0 r0.1)∧Mut w0 (sepA [bk b2 [Ag p1.s,i6 p1.at'] 70]) (sepA [bk b2 [Ag r0.2.s,i6 r0.2.at'] 70,sla 83 2 X0 r0.1.length S0 Y0]) w') (λw'=>r=none∧Keep (sepA [bk b2 [Ag p1.s,i6 p1.at'] 70]).fp w0 w'):=by
 unfold Zr at hm
 refine fnP (args:=[PT b2]) (F:=[(0,PT b2)]) func76 rfl ntmps76 rfl rfl λa o=>?_
 have u:=Gh hH hO hD
 refine th<|rg<|qa o rfl λo=>re<|tn<|th<|rg<|qa o rfl λo=>re<|tn<|th<|th<|rg<|qm o rfl λo=>?_
 replace u:=u.pk [0] rfl
 replace u:=St.sep [bk b2 [Ag p1.s,i6 p1.at'] 70] u
 obtain ⟨ro5,h4,hm⟩:=Option.bindP_x hm
 refine ls<|c1p o rfl call74 (Yt (St.le u) (p1:=p1) (b2:=b2) (St.sepOk u) (St.sepDis u) h4) ⟨rfl,trivial⟩ (λ_ _ w hE=>?_) (λv w a hR o=>?_)
 obtain ⟨rfl,hk⟩:=hE;obtain rfl:=si hm;exact tpn<|tpn<|pnB o ⟨rfl,St.panK u hk⟩
 obtain ⟨T0,rfl,hR⟩:=hR
 replace hm:=Option.bindP_s hm
 obtain ⟨rfl,hk⟩:=hR
 replace u:=(u.mut hk .head).unsep
 refine qm o rfl λo=>re<|tn<|Av (λa w=>∃ (Q0:binary_reader) (K0:(List api_Op)) (O0:Option Addr) (G0:Nat) (P0:List Value),Zs Q0 K0=some r∧Fr 21 [(0,PT b2),(3,SL O0 K0 G0)] a∧St w0 (sepA [bk b2 [Ag p1.s,i6 p1.at'] 70]).fp [H] [bk b2 [Ag Q0.s,i6 Q0.at'] 70,sla 83 2 O0 K0.length G0 P0] w∧Rows H P0 K0) ?_ ?_
 replace u:=u.nilS 83 2
 replace u:=u.pk [1,0] rfl
 refine wb<|lp (α:=Nat×binary_reader×(List api_Op)×Int) (λgh a w=>match gh with | (M0,A0,E0,R0)=>∃ (I0:Option Addr) (D0:Nat) (J0:List Value),(Zt N Zs T0) M0 A0 E0 R0=some r∧Fr 21 [(0,PT b2),(3,SL I0 E0 D0),(6,i6 T0.1),(7,i6 R0)] a∧St w0 (sepA [bk b2 [Ag p1.s,i6 p1.at'] 70]).fp [H] [bk b2 [Ag A0.s,i6 A0.at'] 70,sla 83 2 I0 E0.length D0 J0] w∧Rows H J0 E0) (λgh=>gh.1) (N,T0.2,[],0) ⟨none,0,[],hm,o.hs,u,.nil⟩ ?_
 rintro ⟨M0,A0,E0,R0⟩ a w ⟨I0,D0,J0,hm,o,u,U0⟩
 obtain _ | M0:=M0
 simp [Zt] at hm
 rw [Zt] at hm
 refine th<|rg<|qv o (Ak o rfl rfl) λo=>re<|?_
 rcases bip hm with ⟨V0,hm⟩ | ⟨V0,hm⟩
 refine tn<|th<|ctv o rfl V0<|wk<|tn<|th<|wb<|th<|rg<|ls<|As (cs:=[i6 0,i6 0].toArray) o rfl u Tryz.zeroValue83 rfl λb7 w a u o=>re<|tn<|th<|rg<|qm o rfl λo=>?_
 replace u:=u.pk [1,0,0] rfl
 replace u:=St.sep [bk b2 [Ag A0.s,i6 A0.at'] 70] u
 obtain ⟨ro10,h9,hm⟩:=Option.bindP_x hm
 refine ls<|c1p o rfl call73 (Lm (St.le u) (p1:=A0) (b2:=b2) (St.sepOk u) (St.sepDis u) h9) ⟨rfl,trivial⟩ (λ_ _ w hE=>?_) (λv w a hR o=>?_)
 obtain ⟨rfl,hk⟩:=hE;obtain rfl:=si hm;exact tpn<|bpn<|tpn<|tpn<|bpn<|tpn<|pnB o ⟨rfl,St.panK u hk⟩
 obtain ⟨C0,rfl,hR⟩:=hR
 replace hm:=Option.bindP_s hm
 obtain ⟨rfl,hk⟩:=hR
 replace u:=(u.mut hk .head).unsep
 refine qv o (Ae o Eb rfl) λo=>ls<|Bz o u sizeOf3 rfl rfl rfl rfl (.tail .head) .zero λw u=>re<|tn<|th<|rg<|qm o rfl λo=>?_
 replace u:=u.pk [0,0,0] rfl
 replace u:=St.sep [bk b2 [Ag C0.2.s,i6 C0.2.at'] 70] u
 obtain ⟨ro13,D1,hm⟩:=Option.bindP_x hm
 refine ls<|c1p o rfl call73 (Lm (St.le u) (p1:=C0.2) (b2:=b2) (St.sepOk u) (St.sepDis u) D1) ⟨rfl,trivial⟩ (λ_ _ w hE=>?_) (λv w a hR o=>?_)
 obtain ⟨rfl,hk⟩:=hE;obtain rfl:=si hm;exact tpn<|bpn<|tpn<|tpn<|bpn<|tpn<|pnB o ⟨rfl,St.panK u hk⟩
 obtain ⟨F0,rfl,hR⟩:=hR
 replace hm:=Option.bindP_s hm
 obtain ⟨rfl,hk⟩:=hR
 replace u:=(u.mut hk .head).unsep
 refine qv o (Ae o F8 rfl) λo=>ls<|Bz o u sizeOf3 rfl rfl rfl rfl (.tail .head) (.succ .zero) λw u=>re<|tn<|?_
 obtain ⟨E1,F1,hm⟩:=bs hm
 refine rg<|qm o rfl λo=>qv o (Ar o isAgg83 sizeOf83 rfl rfl (u.ld.cellsB t1)) λo=>ls<|Bj (e:=83) (sz:=2) [i6 C0.1,i6 F0.1] o rfl u rfl rfl rfl (λw=>by kernel_rfl) λI1 w a u o=>?_
 have j0:Rows (α:=api_Op) H [i6 C0.1,i6 F0.1] ([(api_Op.mk C0.1 F0.1)]:List api_Op):=(.cons (c:=[i6 C0.1,i6 F0.1]) ⟨_,_,rfl,rfl,rfl⟩ .nil)
 refine ls<|Bv (α:=api_Op) (xs:=E0) (ys:=([(api_Op.mk C0.1 F0.1)]:List api_Op)) o rfl u underlying54 Sf rfl (by decide) rfl rfl rfl t3 U0 (u.rdO t0) j0 F1 λn0 W0 u0 w a B1 hU o=>?_
 replace u:=hU _ (.tail (.tail (.tail .head)))
 replace u:=u.drop .head
 refine qa o rfl λo=>re<|bn<|tn<|rg<|qv o (An o rfl rfl) λo=>qm o rfl λo=>re<|tn<|?_
 replace u:=u.pk [0,1] rfl
 exact ⟨(M0,F0.2,E1,(IntKind.i64.wrap (R0+1))),⟨n0,W0,u0,hm,o.hs,u,B1⟩,Nat.lt_succ_self _⟩
 refine tn<|th<|cfv o rfl V0<|we<|tx<|tx<|bx<|tn<|?_
 exact ⟨A0,E0,I0,D0,J0,hm,o.has ⟨rfl,rfl,trivial⟩,u,U0⟩
 rintro a w ⟨Q0,K0,O0,G0,P0,hm,o,u,C1⟩
 unfold Zs at hm
 refine th<|rg<|qm o rfl λo=>qa o rfl λo=>re<|tn<|wr<|?_
 obtain rfl:=si hm
 exact bpl (r1 o results76 rfl ⟨_,rfl,_,_,_,rfl,(λ_=>Rows.ind C1),(u.pickL (.cons .head (.cons .head .nil))).endMut⟩)
set_option maxHeartbeats 4000000 in
theorem JcF (hH:H.le w0) {b2:Nat} {p1:binary_reader} (hO:(sepA [bk b2 [Ag p1.s,i6 p1.at'] 70]).ok (hp w0)) (hD:∀ b,(sepA [bk b2 [Ag p1.s,i6 p1.at'] 70]).fp b→H b=none) {r:(Option (api_Code×binary_reader))} (hm:Zh N p1=some r):Pn Tryz.prog 75 #[PT b2] w0 (λv w'=>∃ (r0:(api_Code×binary_reader)),r=some r0∧∃ (H':PH) (cs0:List Value),v=.agg cs0.toArray∧Enc.rep H' cs0 r0.1∧ExtM w0 (sepA [bk b2 [Ag p1.s,i6 p1.at'] 70]).fp H H'∧H'.le w'∧(∀ b,(sepA [bk b2 [Ag r0.2.s,i6 r0.2.at'] 70]).fp b→H' b=none)∧Mut w0 (sepA [bk b2 [Ag p1.s,i6 p1.at'] 70]) (sepA [bk b2 [Ag r0.2.s,i6 r0.2.at'] 70]) w') (λw'=>r=none∧Keep (sepA [bk b2 [Ag p1.s,i6 p1.at'] 70]).fp w0 w'):=by
 unfold Zh at hm
 refine fnP (args:=[PT b2]) (F:=[(0,PT b2)]) func75 rfl ntmps75 rfl rfl λa o=>?_
 have u:=Gh hH hO hD
 refine th<|rg<|ls<|As (cs:=[i6 0,i6 0,.slice none 0 0].toArray) o rfl u Tryz.zeroValue26 rfl λb3 w a u o=>re<|tn<|th<|rg<|ls<|As (cs:=[i6 0,i6 0,.slice none 0 0].toArray) o rfl u Tryz.zeroValue26 rfl λb4 w a u o=>re<|tn<|th<|rg<|qm o rfl λo=>?_
 replace u:=u.pk [2,0,0] rfl
 replace u:=St.sep [bk b2 [Ag p1.s,i6 p1.at'] 70] u
 obtain ⟨ro7,h6,hm⟩:=Option.bindP_x hm
 refine ls<|c1p o rfl call73 (Lm (St.le u) (p1:=p1) (b2:=b2) (St.sepOk u) (St.sepDis u) h6) ⟨rfl,trivial⟩ (λ_ _ w hE=>?_) (λv w a hR o=>?_)
 obtain ⟨rfl,hk⟩:=hE;obtain rfl:=si hm;exact tpn<|pnB o ⟨rfl,St.panK u hk⟩
 obtain ⟨A0,rfl,hR⟩:=hR
 replace hm:=Option.bindP_s hm
 obtain ⟨rfl,hk⟩:=hR
 replace u:=(u.mut hk .head).unsep
 refine qv o (Ae o Cz rfl) λo=>ls<|Bz o u sizeOf3 rfl rfl rfl rfl (.tail .head) .zero λw u=>re<|tn<|th<|rg<|qm o rfl λo=>?_
 replace u:=u.pk [0,0,0] rfl
 replace u:=St.sep [bk b2 [Ag A0.2.s,i6 A0.2.at'] 70] u
 obtain ⟨ro10,h9,hm⟩:=Option.bindP_x hm
 refine ls<|c1p o rfl call73 (Lm (St.le u) (p1:=A0.2) (b2:=b2) (St.sepOk u) (St.sepDis u) h9) ⟨rfl,trivial⟩ (λ_ _ w hE=>?_) (λv w a hR o=>?_)
 obtain ⟨rfl,hk⟩:=hE;obtain rfl:=si hm;exact tpn<|pnB o ⟨rfl,St.panK u hk⟩
 obtain ⟨C0,rfl,hR⟩:=hR
 replace hm:=Option.bindP_s hm
 obtain ⟨rfl,hk⟩:=hR
 replace u:=(u.mut hk .head).unsep
 refine qv o (Ae o Gg rfl) λo=>ls<|Bz o u sizeOf3 rfl rfl rfl rfl (.tail .head) (.succ .zero) λw u=>re<|tn<|th<|th<|rg<|qm o rfl λo=>?_
 replace u:=u.pk [0,0,0] rfl
 replace u:=St.sep [bk b2 [Ag C0.2.s,i6 C0.2.at'] 70] u
 obtain ⟨ro13,B3,hm⟩:=Option.bindP_x hm
 refine ls<|c1p o rfl call74 (Yt (St.le u) (p1:=C0.2) (b2:=b2) (St.sepOk u) (St.sepDis u) B3) ⟨rfl,trivial⟩ (λ_ _ w hE=>?_) (λv w a hR o=>?_)
 obtain ⟨rfl,hk⟩:=hE;obtain rfl:=si hm;exact tpn<|tpn<|pnB o ⟨rfl,St.panK u hk⟩
 obtain ⟨V0,rfl,hR⟩:=hR
 replace hm:=Option.bindP_s hm
 obtain ⟨rfl,hk⟩:=hR
 replace u:=(u.mut hk .head).unsep
 refine qm o rfl λo=>re<|tn<|Av (λa w=>∃ (X1:binary_reader) (J0:(List api_Instr)) (Y1:PH) (W0:Option Addr) (F0:Nat) (O1:List Value),(Zi A0 C0) X1 J0=some r∧ExtM w0 (sepA [bk b2 [Ag p1.s,i6 p1.at'] 70]).fp H Y1∧Fr 46 [(0,PT b2),(2,PT b3),(3,PT b4)] a∧St w0 (sepA [bk b2 [Ag p1.s,i6 p1.at'] 70]).fp [Y1] [bk b2 [Ag X1.s,i6 X1.at'] 70,bk b3 [i6 0,i6 0,.slice none 0 0] 26,sla 85 6 W0 J0.length F0 O1,bk b4 [i6 A0.1,i6 C0.1,SL W0 J0 F0] 26] w∧Rows Y1 O1 J0) ?_ ?_
 replace u:=u.nilS 85 6
 replace u:=u.pk [1,2,0,0] rfl
 refine wb<|lp (α:=Nat×binary_reader×(List api_Instr)×Int) (λgh a w=>match gh with | (X0,K0,E0,M0)=>∃ (G0:PH) (I0:Option Addr) (D0:Nat) (Y0:List Value),(Zl N (Zi A0 C0) V0) X0 K0 E0 M0=some r∧ExtM w0 (sepA [bk b2 [Ag p1.s,i6 p1.at'] 70]).fp H G0∧Fr 46 [(0,PT b2),(2,PT b3),(3,PT b4),(14,i6 V0.1),(15,i6 M0)] a∧St w0 (sepA [bk b2 [Ag p1.s,i6 p1.at'] 70]).fp [G0] [bk b2 [Ag K0.s,i6 K0.at'] 70,bk b3 [i6 0,i6 0,.slice none 0 0] 26,sla 85 6 I0 E0.length D0 Y0,bk b4 [i6 A0.1,i6 C0.1,SL I0 E0 D0] 26] w∧Rows G0 Y0 E0) (λgh=>gh.1) (N,V0.2,[],0) ⟨H,none,0,[],hm,(ExtM.refl _ _ _),o.hs,u,.nil⟩ ?_
 rintro ⟨X0,K0,E0,M0⟩ a w ⟨G0,I0,D0,Y0,hm,u1,o,u,F2⟩
 obtain _ | X0:=X0
 simp [Zl] at hm
 rw [Zl] at hm
 refine th<|rg<|qv o (Ak o rfl rfl) λo=>re<|?_
 rcases bip hm with ⟨P1,hm⟩ | ⟨P1,hm⟩
 refine tn<|th<|ctv o rfl P1<|wk<|tn<|th<|Av (λa w=>∃ (I1:binary_reader) (n0:(List api_Instr)) (J1:PH) (C1:Option Addr) (U0:Nat) (D1:List Value),(Zj (Zl N (Zi A0 C0) V0 X0) M0) I1 n0=some r∧ExtM w0 (sepA [bk b2 [Ag p1.s,i6 p1.at'] 70]).fp G0 J1∧Fr 46 [(0,PT b2),(2,PT b3),(3,PT b4),(14,i6 V0.1),(15,i6 M0)] a∧St w0 (sepA [bk b2 [Ag p1.s,i6 p1.at'] 70]).fp [J1] [bk b2 [Ag I1.s,i6 I1.at'] 70,bk b3 [i6 0,i6 0,.slice none 0 0] 26,sla 85 6 C1 n0.length U0 D1,bk b4 [i6 A0.1,i6 C0.1,SL C1 n0 U0] 26] w∧Rows J1 D1 n0) ?_ ?_
 refine wb<|th<|rg<|ls<|As (cs:=[i6 0,i6 0,i6 0,.slice none 0 0,.slice none 0 0,i6 0].toArray) o rfl u Tryz.zeroValue85 rfl λu0 w a u o=>re<|tn<|th<|th<|rg<|qv o (Ae o Ca rfl) λo=>qv o (Ae o Ck rfl) λo=>qv o (Ae o Ce rfl) λo=>qv o (Ae o Bq rfl) λo=>ls<|Bj (e:=167) (sz:=1) [PT u0,.pointer (some ⟨u0,1,none⟩),.pointer (some ⟨u0,2,none⟩),.pointer (some ⟨u0,5,none⟩)] o rfl u rfl rfl rfl (λw=>by kernel_rfl) λO0 w a u o=>qv o (Jag o runUnderlying168 rfl) λo=>qm o rfl λo=>re<|tn<|Av (λa w=>∃ (j0:binary_reader) (P0:Int) (Q0:Int) (R0:Int) (S0:Int),(Zk N (Zj (Zl N (Zi A0 C0) V0 X0) M0) E0) j0 P0 Q0 R0 S0=some r∧Fr 46 [(0,PT b2),(2,PT b3),(3,PT b4),(4,PT u0),(14,i6 V0.1),(15,i6 M0)] a∧St w0 (sepA [bk b2 [Ag p1.s,i6 p1.at'] 70]).fp [G0] [bk b2 [Ag j0.s,i6 j0.at'] 70,bk b3 [i6 0,i6 0,.slice none 0 0] 26,sla 85 6 I0 E0.length D0 Y0,bk b4 [i6 A0.1,i6 C0.1,SL I0 E0 D0] 26,bk u0 [i6 P0,i6 Q0,i6 R0,.slice none 0 0,.slice none 0 0,i6 S0] 85] w) ?_ ?_
 refine wb<|wl0<|wl1<|th<|rg<|qv o ((Ax (Ak o rfl rfl) (by rfl))) λo=>re<|tn<|th<|ct o rfl<|wk<|tn<|th<|wb<|th<|rg<|qv o (Wv (oa:=some ⟨O0,0,none⟩) (i:=0) o Tryz.runUnderlying168 Tryz.sizeOf167 rfl rfl rfl (by decide) rfl) λo=>qv o (Af o isAgg167 rfl (Lds.elO (oa:=some ⟨O0,0,none⟩) (j:=0) u.ld t0 rfl)) λo=>qa o rfl λo=>re<|tn<|rg<|qm o rfl λo=>qm o rfl λo=>?_
 replace u:=u.pk [2,0,0,0,0,0] rfl
 replace u:=St.sep [bk b2 [Ag K0.s,i6 K0.at'] 70] u
 obtain ⟨ro20,C3,hm⟩:=Option.bindP_x hm
 refine ls<|c1p o rfl call73 (Lm (St.le u) (p1:=K0) (b2:=b2) (St.sepOk u) (St.sepDis u) C3) ⟨rfl,trivial⟩ (λ_ _ w hE=>?_) (λv w a hR o=>?_)
 obtain ⟨rfl,hk⟩:=hE;obtain rfl:=si hm;exact bpn<|tpn<|tpn<|bpn<|tpn<|bpn<|tpn<|tpn<|bpn<|tpn<|pnB o ⟨rfl,St.panK u hk⟩
 obtain ⟨B2,rfl,hR⟩:=hR
 replace hm:=Option.bindP_s hm
 obtain ⟨rfl,hk⟩:=hR
 replace u:=(u.mut hk .head).unsep
 refine qv o (Ea o rfl) λo=>ls<|Bz o u sizeOf3 rfl rfl rfl rfl (.tail (.tail .head)) .zero λw u=>re<|bn<|tn<|rg<|qv o ((Ax (An o rfl rfl) (congrArg (Value.int .i64) (show IntKind.i64.wrap (0+1)=1 by decide)))) λo=>qm o rfl λo=>re<|tn<|wl1<|th<|rg<|qv o ((Ax (Ak o rfl rfl) (by rfl))) λo=>re<|tn<|th<|ct o rfl<|wk<|tn<|th<|wb<|th<|rg<|qv o (Wv (oa:=some ⟨O0,0,none⟩) (i:=1) o Tryz.runUnderlying168 Tryz.sizeOf167 rfl rfl rfl (by decide) rfl) λo=>qv o (Af o isAgg167 rfl (Lds.elO (oa:=some ⟨O0,0,none⟩) (j:=1) u.ld t1 rfl)) λo=>qa o rfl λo=>re<|tn<|rg<|qm o rfl λo=>qm o rfl λo=>?_
 replace u:=u.pk [0,0,0,0,0,0] rfl
 replace u:=St.sep [bk b2 [Ag B2.2.s,i6 B2.2.at'] 70] u
 obtain ⟨ro23,D3,hm⟩:=Option.bindP_x hm
 refine ls<|c1p o rfl call73 (Lm (St.le u) (p1:=B2.2) (b2:=b2) (St.sepOk u) (St.sepDis u) D3) ⟨rfl,trivial⟩ (λ_ _ w hE=>?_) (λv w a hR o=>?_)
 obtain ⟨rfl,hk⟩:=hE;obtain rfl:=si hm;exact bpn<|tpn<|tpn<|bpn<|tpn<|bpn<|tpn<|tpn<|bpn<|tpn<|pnB o ⟨rfl,St.panK u hk⟩
 obtain ⟨C2,rfl,hR⟩:=hR
 replace hm:=Option.bindP_s hm
 obtain ⟨rfl,hk⟩:=hR
 replace u:=(u.mut hk .head).unsep
 refine qv o (Ea o rfl) λo=>ls<|Bz o u sizeOf3 rfl rfl rfl rfl (.tail (.tail .head)) (.succ .zero) λw u=>re<|bn<|tn<|rg<|qv o ((Ax (An o rfl rfl) (congrArg (Value.int .i64) (show IntKind.i64.wrap (1+1)=2 by decide)))) λo=>qm o rfl λo=>re<|tn<|wl1<|th<|rg<|qv o ((Ax (Ak o rfl rfl) (by rfl))) λo=>re<|tn<|th<|ct o rfl<|wk<|tn<|th<|wb<|th<|rg<|qv o (Wv (oa:=some ⟨O0,0,none⟩) (i:=2) o Tryz.runUnderlying168 Tryz.sizeOf167 rfl rfl rfl (by decide) rfl) λo=>qv o (Af o isAgg167 rfl (Lds.elO (oa:=some ⟨O0,0,none⟩) (j:=2) u.ld t1 rfl)) λo=>qa o rfl λo=>re<|tn<|rg<|qm o rfl λo=>qm o rfl λo=>?_
 replace u:=u.pk [0,0,0,0,0,0] rfl
 replace u:=St.sep [bk b2 [Ag C2.2.s,i6 C2.2.at'] 70] u
 obtain ⟨ro26,E3,hm⟩:=Option.bindP_x hm
 refine ls<|c1p o rfl call73 (Lm (St.le u) (p1:=C2.2) (b2:=b2) (St.sepOk u) (St.sepDis u) E3) ⟨rfl,trivial⟩ (λ_ _ w hE=>?_) (λv w a hR o=>?_)
 obtain ⟨rfl,hk⟩:=hE;obtain rfl:=si hm;exact bpn<|tpn<|tpn<|bpn<|tpn<|bpn<|tpn<|tpn<|bpn<|tpn<|pnB o ⟨rfl,St.panK u hk⟩
 obtain ⟨E2,rfl,hR⟩:=hR
 replace hm:=Option.bindP_s hm
 obtain ⟨rfl,hk⟩:=hR
 replace u:=(u.mut hk .head).unsep
 refine qv o (Ea o rfl) λo=>ls<|Bz o u sizeOf3 rfl rfl rfl rfl (.tail (.tail .head)) (.succ (.succ .zero)) λw u=>re<|bn<|tn<|rg<|qv o ((Ax (An o rfl rfl) (congrArg (Value.int .i64) (show IntKind.i64.wrap (2+1)=3 by decide)))) λo=>qm o rfl λo=>re<|tn<|wl1<|th<|rg<|qv o ((Ax (Ak o rfl rfl) (by rfl))) λo=>re<|tn<|th<|ct o rfl<|wk<|tn<|th<|wb<|th<|rg<|qv o (Wv (oa:=some ⟨O0,0,none⟩) (i:=3) o Tryz.runUnderlying168 Tryz.sizeOf167 rfl rfl rfl (by decide) rfl) λo=>qv o (Af o isAgg167 rfl (Lds.elO (oa:=some ⟨O0,0,none⟩) (j:=3) u.ld t1 rfl)) λo=>qa o rfl λo=>re<|tn<|rg<|qm o rfl λo=>qm o rfl λo=>?_
 replace u:=u.pk [0,0,0,0,0,0] rfl
 replace u:=St.sep [bk b2 [Ag E2.2.s,i6 E2.2.at'] 70] u
 obtain ⟨ro29,F3,hm⟩:=Option.bindP_x hm
 refine ls<|c1p o rfl call73 (Lm (St.le u) (p1:=E2.2) (b2:=b2) (St.sepOk u) (St.sepDis u) F3) ⟨rfl,trivial⟩ (λ_ _ w hE=>?_) (λv w a hR o=>?_)
 obtain ⟨rfl,hk⟩:=hE;obtain rfl:=si hm;exact bpn<|tpn<|tpn<|bpn<|tpn<|bpn<|tpn<|tpn<|bpn<|tpn<|pnB o ⟨rfl,St.panK u hk⟩
 obtain ⟨J2,rfl,hR⟩:=hR
 replace hm:=Option.bindP_s hm
 obtain ⟨rfl,hk⟩:=hR
 replace u:=(u.mut hk .head).unsep
 refine qv o (Ea o rfl) λo=>ls<|Bz o u sizeOf3 rfl rfl rfl rfl (.tail (.tail .head)) (.succ (.succ (.succ (.succ (.succ .zero))))) λw u=>re<|bn<|tn<|rg<|qv o ((Ax (An o rfl rfl) (congrArg (Value.int .i64) (show IntKind.i64.wrap (3+1)=4 by decide)))) λo=>qm o rfl λo=>re<|tn<|wl1<|th<|rg<|qv o ((Ax (Ak o rfl rfl) (by rfl))) λo=>re<|tn<|th<|cf o rfl<|we<|tx<|tx<|bx<|tn<|?_
 replace u:=u.pk [0,2,2,2,1] rfl
 exact ⟨J2.2,B2.1,C2.1,E2.1,J2.1,hm,o.hs,u⟩
 rintro a w ⟨j0,P0,Q0,R0,S0,hm,o,u⟩
 unfold Zk at hm
 refine th<|rg<|qm o rfl λo=>?_
 replace u:=u.pk [0,0,0,0,0] rfl
 replace u:=St.sep [bk b2 [Ag j0.s,i6 j0.at'] 70] u
 obtain ⟨ro32,G3,hm⟩:=Option.bindP_x hm
 refine ls<|c1p o rfl call76 (JbF (St.le u) (p1:=j0) (b2:=b2) (St.sepOk u) (St.sepDis u) G3) ⟨rfl,trivial⟩ (λ_ _ w hE=>?_) (λv w a hR o=>?_)
 obtain ⟨rfl,hk⟩:=hE;obtain rfl:=si hm;exact tpn<|bpn<|tpn<|tpn<|bpn<|tpn<|pnB o ⟨rfl,St.panK u hk⟩
 obtain ⟨T0,rfl,hR⟩:=hR
 replace hm:=Option.bindP_s hm
 obtain ⟨Q1,E1,L3,rfl,R1,hk⟩:=hR
 replace u:=(u.mut hk .head).unsep
 replace R1:=R1 G0
 refine qv o (Ae o Cv rfl) λo=>ls<|Bz o u sizeOf54 rfl rfl rfl rfl (.tail (.tail (.tail (.tail (.tail .head))))) (.succ (.succ (.succ .zero))) λw u=>re<|tn<|th<|rg<|qm o rfl λo=>?_
 replace u:=u.pk [0,0,0,0,0,0] rfl
 replace u:=St.sep [bk b2 [Ag T0.2.s,i6 T0.2.at'] 70] u
 obtain ⟨ro40,I3,hm⟩:=Option.bindP_x hm
 refine ls<|c1p o rfl call76 (JbF (St.le u) (p1:=T0.2) (b2:=b2) (St.sepOk u) (St.sepDis u) I3) ⟨rfl,trivial⟩ (λ_ _ w hE=>?_) (λv w a hR o=>?_)
 obtain ⟨rfl,hk⟩:=hE;obtain rfl:=si hm;exact tpn<|bpn<|tpn<|tpn<|bpn<|tpn<|pnB o ⟨rfl,St.panK u hk⟩
 obtain ⟨B1,rfl,hR⟩:=hR
 replace hm:=Option.bindP_s hm
 obtain ⟨S1,F1,M3,rfl,T1,hk⟩:=hR
 replace u:=(u.mut hk .head).unsep
 replace T1:=T1 G0
 refine qv o (Ae o Dv rfl) λo=>ls<|Bz o u sizeOf54 rfl rfl rfl rfl (.tail (.tail (.tail (.tail (.tail (.tail .head)))))) (.succ (.succ (.succ (.succ .zero)))) λw u=>re<|tn<|?_
 obtain ⟨J3,K3,hm⟩:=bs hm
 refine rg<|qv o (Ae o Ch rfl) λo=>qv o (Af o isAgg24 rfl (u.ld.cellB t5 rfl)) λo=>qv o (Ar o isAgg85 sizeOf85 rfl rfl (u.ld.cellsB t6)) λo=>?_
 obtain ⟨H49,U1,K2,O2,u⟩:=St.frzSM u (.tail (.tail .head)) R1
 obtain ⟨H53,V1,P2,Q2,u⟩:=St.frzSM u (.tail .head) (T1.mono U1.sub)
 refine ls<|Bj (e:=85) (sz:=6) [i6 P0,i6 Q0,i6 R0,SL Q1 T0.1 E1,SL S1 B1.1 F1,i6 S0] o rfl u rfl rfl rfl (λw=>by kernel_rfl) λO3 w a u o=>?_
 have R2:Rows (α:=api_Instr) H53 [i6 P0,i6 Q0,i6 R0,SL Q1 T0.1 E1,SL S1 B1.1 F1,i6 S0] ([(api_Instr.mk P0 Q0 R0 T0.1 B1.1 S0)]:List api_Instr):=(.cons (c:=[i6 P0,i6 Q0,i6 R0,SL Q1 T0.1 E1,SL S1 B1.1 F1,i6 S0]) ⟨_,_,rfl,rfl,⟨_,_,rfl,rfl,⟨_,_,rfl,rfl,⟨_,_,rfl,⟨_,_,rfl,O2,(K2.mono V1.sub)⟩,⟨_,_,rfl,⟨_,_,rfl,Q2,P2⟩,rfl⟩⟩⟩⟩⟩ .nil)
 refine ls<|Bv (α:=api_Instr) (xs:=E0) (ys:=([(api_Instr.mk P0 Q0 R0 T0.1 B1.1 S0)]:List api_Instr)) o rfl u underlying24 Ge rfl (by decide) rfl rfl rfl t3 (F2.mono (cp V1.sub U1.sub)) (u.rdO t0) R2 K3 λT2 G2 U2 w a V2 hU o=>?_
 replace u:=hU _ (.tail (.tail (.tail .head)))
 replace u:=u.drop .head
 refine qv o (Ae o Ch rfl) λo=>ls<|Bz o u sizeOf24 rfl rfl rfl rfl (.tail (.tail (.tail .head))) (.succ (.succ .zero)) λw u=>re<|bn<|tn<|?_
 replace u:=u.pk [0,0,0,0] rfl
 exact ⟨B1.2,J3,H53,T2,G2,U2,hm,(ExtM.trans U1 V1),o.hs,u,V2⟩
 rintro a w ⟨I1,n0,J1,C1,U0,D1,hm,hxHC1,o,u,W2⟩
 unfold Zj at hm
 refine rg<|qv o (An o rfl rfl) λo=>qm o rfl λo=>re<|tn<|?_
 exact ⟨(X0,I1,n0,(IntKind.i64.wrap (M0+1))),⟨J1,C1,U0,D1,hm,(ExtM.trans u1 hxHC1),o.hs,u,W2⟩,Nat.lt_succ_self _⟩
 refine tn<|th<|cfv o rfl P1<|we<|tx<|tx<|bx<|tn<|?_
 exact ⟨K0,E0,G0,I0,D0,Y0,hm,u1,o.hs,u,F2⟩
 rintro a w ⟨X1,J0,Y1,W0,F0,O1,hm,I2,o,u,X2⟩
 unfold Zi at hm
 refine th<|rg<|qv o (Ar o Tryz.isAgg26 Tryz.sizeOf26 rfl rfl (u.ld.cellsB t3)) λo=>ls<|Bb o u sizeOf26 rfl rfl rfl rfl (Ao rfl) (.tail .head) λw u=>re<|tn<|wr<|?_
 obtain ⟨H66,Y2,u2,A3,u⟩:=St.frzSM u (.tail (.tail .head)) X2
 obtain rfl:=si hm
 exact bpl (r1c (vs:=[i6 A0.1,i6 C0.1,SL W0 J0 F0]) (.inl rfl) o results75 rfl isAgg26 sizeOf26 rfl (u.ld.cellsB t1) ⟨_,rfl,H66,_,rfl,(show Enc.rep (α:=api_Code) H66 [i6 A0.1,i6 C0.1,SL W0 J0 F0] (api_Code.mk A0.1 C0.1 J0) from ⟨_,_,rfl,rfl,⟨_,_,rfl,rfl,⟨_,_,rfl,A3,u2⟩⟩⟩),(ExtM.trans I2 Y2),(St.le u),(St.disL (u.pickL (.cons .head .nil))),(u.pickL (.cons .head .nil)).endMut⟩)
set_option maxHeartbeats 4000000 in
theorem JdE (hH:H.le w0) {b2:Nat} {p1:binary_reader} (hO:(sepA [bk b2 [Ag p1.s,i6 p1.at'] 70]).ok (hp w0)) (hD:∀ b,(sepA [bk b2 [Ag p1.s,i6 p1.at'] 70]).fp b→H b=none) {r:(Option (api_Unit×binary_reader))} (hm:Zu N p1=some r):Pn Tryz.prog 33 #[PT b2] w0 (λv w'=>∃ (r0:(api_Unit×binary_reader)),r=some r0∧∃ (H':PH) (cs0:List Value),v=.agg cs0.toArray∧Enc.rep H' cs0 r0.1∧ExtM w0 (sepA [bk b2 [Ag p1.s,i6 p1.at'] 70]).fp H H'∧H'.le w'∧(∀ b,(sepA [bk b2 [Ag r0.2.s,i6 r0.2.at'] 70]).fp b→H' b=none)∧Mut w0 (sepA [bk b2 [Ag p1.s,i6 p1.at'] 70]) (sepA [bk b2 [Ag r0.2.s,i6 r0.2.at'] 70]) w') (λw'=>r=none∧Keep (sepA [bk b2 [Ag p1.s,i6 p1.at'] 70]).fp w0 w'):=by
 unfold Zu at hm
 refine fnP (args:=[PT b2]) (F:=[(0,PT b2)]) func33 rfl ntmps33 rfl rfl λa o=>?_
 have u:=Gh hH hO hD
 refine th<|rg<|ls<|As (cs:=[.slice none 0 0,i6 0,.slice none 0 0,i6 0,.slice none 0 0,i6 0,i6 0,.slice none 0 0,.slice none 0 0].toArray) o rfl u Tryz.zeroValue29 rfl λb3 w a u o=>re<|tn<|th<|rg<|ls<|As (cs:=[.slice none 0 0,i6 0,.slice none 0 0,i6 0,.slice none 0 0,i6 0,i6 0,.slice none 0 0,.slice none 0 0].toArray) o rfl u Tryz.zeroValue29 rfl λb4 w a u o=>re<|tn<|th<|rg<|qm o rfl λo=>?_
 replace u:=u.pk [2,0,0] rfl
 replace u:=St.sep [bk b2 [Ag p1.s,i6 p1.at'] 70] u
 obtain ⟨ro7,h6,hm⟩:=Option.bindP_x hm
 refine ls<|c1p o rfl call72 (Jdk (St.le u) (p1:=p1) (b2:=b2) (St.sepOk u) (St.sepDis u) h6) ⟨rfl,trivial⟩ (λ_ _ w hE=>?_) (λv w a hR o=>?_)
 obtain ⟨rfl,hk⟩:=hE;obtain rfl:=si hm;exact tpn<|pnB o ⟨rfl,St.panK u hk⟩
 obtain ⟨D0,rfl,hR⟩:=hR
 replace hm:=Option.bindP_s hm
 obtain ⟨P0,G0,V1,rfl,Q2,hk⟩:=hR
 replace u:=(u.mut hk .head).unsep
 replace Q2:=Q2 H
 refine qv o (Ae o Cc rfl) λo=>ls<|Bz o u sizeOf22 rfl rfl rfl rfl (.tail (.tail .head)) .zero λw u=>re<|tn<|th<|rg<|qm o rfl λo=>?_
 replace u:=u.pk [0,0,0,0] rfl
 replace u:=St.sep [bk b2 [Ag D0.2.s,i6 D0.2.at'] 70] u
 obtain ⟨ro15,J4,hm⟩:=Option.bindP_x hm
 refine ls<|c1p o rfl call73 (Lm (St.le u) (p1:=D0.2) (b2:=b2) (St.sepOk u) (St.sepDis u) J4) ⟨rfl,trivial⟩ (λ_ _ w hE=>?_) (λv w a hR o=>?_)
 obtain ⟨rfl,hk⟩:=hE;obtain rfl:=si hm;exact tpn<|pnB o ⟨rfl,St.panK u hk⟩
 obtain ⟨J0,rfl,hR⟩:=hR
 replace hm:=Option.bindP_s hm
 obtain ⟨rfl,hk⟩:=hR
 replace u:=(u.mut hk .head).unsep
 refine qv o (Ae o Cr rfl) λo=>ls<|Bz o u sizeOf3 rfl rfl rfl rfl (.tail (.tail .head)) (.succ .zero) λw u=>re<|tn<|th<|rg<|qm o rfl λo=>?_
 replace u:=u.pk [0,0,0,0] rfl
 replace u:=St.sep [bk b2 [Ag J0.2.s,i6 J0.2.at'] 70] u
 obtain ⟨ro18,K4,hm⟩:=Option.bindP_x hm
 refine ls<|c1p o rfl call72 (Jdk (St.le u) (p1:=J0.2) (b2:=b2) (St.sepOk u) (St.sepDis u) K4) ⟨rfl,trivial⟩ (λ_ _ w hE=>?_) (λv w a hR o=>?_)
 obtain ⟨rfl,hk⟩:=hE;obtain rfl:=si hm;exact tpn<|pnB o ⟨rfl,St.panK u hk⟩
 obtain ⟨E0,rfl,hR⟩:=hR
 replace hm:=Option.bindP_s hm
 obtain ⟨I0,C0,X1,rfl,R2,hk⟩:=hR
 replace u:=(u.mut hk .head).unsep
 replace R2:=R2 H
 refine qv o (Ae o Ei rfl) λo=>ls<|Bz o u sizeOf22 rfl rfl rfl rfl (.tail (.tail (.tail .head))) (.succ (.succ .zero)) λw u=>re<|tn<|th<|rg<|qm o rfl λo=>?_
 replace u:=u.pk [0,0,0,0,0] rfl
 replace u:=St.sep [bk b2 [Ag E0.2.s,i6 E0.2.at'] 70] u
 obtain ⟨ro26,L4,hm⟩:=Option.bindP_x hm
 refine ls<|c1p o rfl call73 (Lm (St.le u) (p1:=E0.2) (b2:=b2) (St.sepOk u) (St.sepDis u) L4) ⟨rfl,trivial⟩ (λ_ _ w hE=>?_) (λv w a hR o=>?_)
 obtain ⟨rfl,hk⟩:=hE;obtain rfl:=si hm;exact tpn<|pnB o ⟨rfl,St.panK u hk⟩
 obtain ⟨K0,rfl,hR⟩:=hR
 replace hm:=Option.bindP_s hm
 obtain ⟨rfl,hk⟩:=hR
 replace u:=(u.mut hk .head).unsep
 refine qv o (Ae o Fa rfl) λo=>ls<|Bz o u sizeOf3 rfl rfl rfl rfl (.tail (.tail (.tail .head))) (.succ (.succ (.succ .zero))) λw u=>re<|tn<|th<|th<|rg<|qm o rfl λo=>?_
 replace u:=u.pk [0,0,0,0,0] rfl
 replace u:=St.sep [bk b2 [Ag K0.2.s,i6 K0.2.at'] 70] u
 obtain ⟨ro29,M4,hm⟩:=Option.bindP_x hm
 refine ls<|c1p o rfl call74 (Yt (St.le u) (p1:=K0.2) (b2:=b2) (St.sepOk u) (St.sepDis u) M4) ⟨rfl,trivial⟩ (λ_ _ w hE=>?_) (λv w a hR o=>?_)
 obtain ⟨rfl,hk⟩:=hE;obtain rfl:=si hm;exact tpn<|tpn<|pnB o ⟨rfl,St.panK u hk⟩
 obtain ⟨D3,rfl,hR⟩:=hR
 replace hm:=Option.bindP_s hm
 obtain ⟨rfl,hk⟩:=hR
 replace u:=(u.mut hk .head).unsep
 refine qm o rfl λo=>re<|tn<|Av (λa w=>∃ (J1:binary_reader) (M0:(List api_Code)) (Y2:PH) (O0:Option Addr) (F0:Nat) (O1:List Value),(Zv N D0 J0 E0 K0) J1 M0=some r∧ExtM w0 (sepA [bk b2 [Ag p1.s,i6 p1.at'] 70]).fp H Y2∧Fr 44 [(0,PT b2),(2,PT b3),(3,PT b4)] a∧St w0 (sepA [bk b2 [Ag p1.s,i6 p1.at'] 70]).fp [Y2] [bk b2 [Ag J1.s,i6 J1.at'] 70,bk b3 [.slice none 0 0,i6 0,.slice none 0 0,i6 0,.slice none 0 0,i6 0,i6 0,.slice none 0 0,.slice none 0 0] 29,sla 3 1 P0 D0.1.length G0 V1,sla 3 1 I0 E0.1.length C0 X1,sla 26 3 O0 M0.length F0 O1,bk b4 [SL P0 D0.1 G0,i6 J0.1,SL I0 E0.1 C0,i6 K0.1,SL O0 M0 F0,i6 0,i6 0,.slice none 0 0,.slice none 0 0] 29] w∧Rows Y2 O1 M0) ?_ ?_
 replace u:=u.nilS 26 3
 replace u:=u.pk [1,4,2,1,0,0] rfl
 refine wb<|lp (α:=Nat×binary_reader×(List api_Code)×Int) (λgh a w=>match gh with | (J2,D1,P1,u2)=>∃ (K2:PH) (Y1:Option Addr) (E1:Nat) (u1:List Value),(Zx N (Zv N D0 J0 E0 K0) D3) J2 D1 P1 u2=some r∧ExtM w0 (sepA [bk b2 [Ag p1.s,i6 p1.at'] 70]).fp H K2∧Fr 44 [(0,PT b2),(2,PT b3),(3,PT b4),(17,i6 D3.1),(18,i6 u2)] a∧St w0 (sepA [bk b2 [Ag p1.s,i6 p1.at'] 70]).fp [K2] [bk b2 [Ag D1.s,i6 D1.at'] 70,bk b3 [.slice none 0 0,i6 0,.slice none 0 0,i6 0,.slice none 0 0,i6 0,i6 0,.slice none 0 0,.slice none 0 0] 29,sla 3 1 P0 D0.1.length G0 V1,sla 3 1 I0 E0.1.length C0 X1,sla 26 3 Y1 P1.length E1 u1,bk b4 [SL P0 D0.1 G0,i6 J0.1,SL I0 E0.1 C0,i6 K0.1,SL Y1 P1 E1,i6 0,i6 0,.slice none 0 0,.slice none 0 0] 29] w∧Rows K2 u1 P1) (λgh=>gh.1) (N,D3.2,[],0) ⟨H,none,0,[],hm,(ExtM.refl _ _ _),o.hs,u,.nil⟩ ?_
 rintro ⟨J2,D1,P1,u2⟩ a w ⟨K2,Y1,E1,u1,hm,A3,o,u,E3⟩
 obtain _ | J2:=J2
 simp [Zx] at hm
 rw [Zx] at hm
 refine th<|rg<|qv o (Ak o rfl rfl) λo=>re<|?_
 rcases bip hm with ⟨T2,hm⟩ | ⟨T2,hm⟩
 refine tn<|th<|ctv o rfl T2<|wk<|tn<|th<|wb<|rdL (Aa t1 (Aa t2 (Aa t3 (Aa t5 Ai)))) 7 u wide λw u=>ds 0 (St.ldsX u i2 (Aa t1 (Aa t2 (Aa t3 (Aa t5 Ai))))) o rfl (Ae o Cg rfl) λo=>dq 1 (St.ldsX u i2 (Aa t1 (Aa t2 (Aa t3 (Aa t5 Ai))))) o rfl (λw hl=>Af o isAgg23 rfl (hl.cellB t3 rfl)) λo=>ds 2 (St.ldsX u i2 (Aa t1 (Aa t2 (Aa t3 (Aa t5 Ai))))) o rfl (Ab o rfl) λo=>da1 (i:=3) (by kernel_rfl) ?_
 replace u:=u.pk [0,0,0,0,0,0] rfl
 replace u:=St.sep [bk b2 [Ag D1.s,i6 D1.at'] 70] u
 obtain ⟨ro33,O4,hm⟩:=Option.bindP_x hm
 refine di (i:=3) rfl<|c1p o rfl call75 (JcF (St.le u) (p1:=D1) (b2:=b2) (St.sepOk u) (St.sepDis u) O4) ⟨rfl,trivial⟩ (λ_ _ w hE=>?_) (λv w a hR o=>?_)
 obtain ⟨rfl,hk⟩:=hE;obtain rfl:=si hm;exact bpn<|tpn<|tpn<|bpn<|tpn<|pnB o ⟨rfl,St.panK u hk⟩
 obtain ⟨R0,rfl,hR⟩:=hR
 replace hm:=Option.bindP_s hm
 obtain ⟨P4,Q4,hm⟩:=bs hm
 obtain ⟨H37,cs38,rfl,R4,Q0,P3,hd36,hk⟩:=hR
 obtain ⟨u,Q0⟩:=And.intro (St.mutH u hk Q0 P3 hd36) (St.extcMM u Q0)
 replace u:=u.unsep
 obtain ⟨U2,B2,rfl,Q3,R3⟩:=Am R4
 refine ⟨λ_=>(St.ldsX u Q0.sub (Aa t1 (Aa t2 (Aa t3 (Aa t5 Ai))))),?_⟩
 refine da1 (i:=4) (by kernel_rfl) ?_
 refine di (i:=4) rfl<|Bj (e:=26) (sz:=3) [i6 R0.1.Regs,i6 R0.1.Counts,SL U2 R0.1.L B2] o rfl u rfl rfl rfl (λw=>by kernel_rfl) λd4 w a u o=>?_
 have S3:Rows (α:=api_Code) H37 [i6 R0.1.Regs,i6 R0.1.Counts,SL U2 R0.1.L B2] ([R0.1]:List api_Code):=(.cons (c:=[i6 R0.1.Regs,i6 R0.1.Counts,SL U2 R0.1.L B2]) ⟨_,_,rfl,rfl,⟨_,_,rfl,rfl,⟨_,_,rfl,Q3,R3⟩⟩⟩ .nil)
 refine ⟨λ_=>(St.ldsX u Q0.sub (Aa t2 (Aa t3 (Aa t4 (Aa t6 Ai))))),?_⟩
 refine da1 (i:=5) (by kernel_rfl) ?_
 refine di (i:=5) rfl<|Bv (α:=api_Code) (xs:=P1) (ys:=([R0.1]:List api_Code)) o rfl u underlying23 Jab rfl (by decide) rfl rfl rfl t5 (E3.mono Q0.sub) (u.rdO t0) S3 Q4 λT3 G3 U3 w a V3 hU o=>?_
 replace u:=hU _ (.tail (.tail (.tail (.tail (.tail .head)))))
 replace u:=u.drop .head
 refine ⟨λ_=>(St.ldsX u Q0.sub (Aa t1 (Aa t2 (Aa t3 (Aa t5 Ai))))),?_⟩
 refine ds 6 (St.ldsX u Q0.sub (Aa t1 (Aa t2 (Aa t3 (Aa t5 Ai))))) o rfl (Ae o Cg rfl) λo=>da1 (i:=7) (by kernel_rfl) ?_
 refine di (i:=7) rfl<|Bz o u sizeOf23 rfl rfl rfl rfl (.tail (.tail (.tail (.tail (.tail .head))))) (.succ (.succ (.succ (.succ .zero)))) λw u=>⟨λh=>absurd rfl h,?_⟩
 refine de (by kernel_rfl)<|bn<|tn<|rg<|qv o (An o rfl rfl) λo=>qm o rfl λo=>re<|tn<|?_
 exact ⟨(J2,R0.2,P4,(IntKind.i64.wrap (u2+1))),⟨H37,T3,G3,U3,hm,(ExtM.trans A3 Q0),o.hs,u,V3⟩,Nat.lt_succ_self _⟩
 refine tn<|th<|cfv o rfl T2<|we<|tx<|tx<|bx<|tn<|?_
 exact ⟨D1,P1,K2,Y1,E1,u1,hm,A3,o.hs,u,E3⟩
 rintro a w ⟨J1,M0,Y2,O0,F0,O1,hm,C2,o,u,W3⟩
 unfold Zv at hm
 refine th<|rg<|qm o rfl λo=>?_
 replace u:=u.pk [0,0,0,0,0,0] rfl
 replace u:=St.sep [bk b2 [Ag J1.s,i6 J1.at'] 70] u
 obtain ⟨ro55,S4,hm⟩:=Option.bindP_x hm
 refine ls<|c1p o rfl call75 (JcF (St.le u) (p1:=J1) (b2:=b2) (St.sepOk u) (St.sepDis u) S4) ⟨rfl,trivial⟩ (λ_ _ w hE=>?_) (λv w a hR o=>?_)
 obtain ⟨rfl,hk⟩:=hE;obtain rfl:=si hm;exact tpn<|pnB o ⟨rfl,St.panK u hk⟩
 obtain ⟨A0,rfl,hR⟩:=hR
 replace hm:=Option.bindP_s hm
 obtain ⟨H59,cs60,rfl,T4,W0,X3,hd58,hk⟩:=hR
 obtain ⟨u,W0⟩:=And.intro (St.mutH u hk W0 X3 hd58) (St.extcMM u W0)
 replace u:=u.unsep
 obtain ⟨B1,V0,rfl,Y3,l3⟩:=Am T4
 refine qv o (Ae o Hk rfl) λo=>ls<|Yf [SL P0 D0.1 G0,i6 J0.1,SL I0 E0.1 C0,i6 K0.1,SL O0 M0 F0] [i6 0,i6 0,.slice none 0 0] [i6 A0.1.Regs,i6 A0.1.Counts,SL B1 A0.1.L V0] [.slice none 0 0] (c:=[SL P0 D0.1 G0,i6 J0.1,SL I0 E0.1 C0,i6 K0.1,SL O0 M0 F0,i6 0,i6 0,.slice none 0 0,.slice none 0 0]) (c':=[SL P0 D0.1 G0,i6 J0.1,SL I0 E0.1 C0,i6 K0.1,SL O0 M0 F0,i6 A0.1.Regs,i6 A0.1.Counts,SL B1 A0.1.L V0,.slice none 0 0]) o u sizeOf26 rfl rfl rfl rfl rfl (Ao rfl) rfl rfl (.tail (.tail (.tail (.tail (.tail .head))))) λw u=>re<|tn<|th<|th<|rg<|qm o rfl λo=>?_
 replace u:=u.pk [0,0,0,0,0,0] rfl
 replace u:=St.sep [bk b2 [Ag A0.2.s,i6 A0.2.at'] 70] u
 obtain ⟨ro68,U4,hm⟩:=Option.bindP_x hm
 refine ls<|c1p o rfl call74 (Yt (St.le u) (p1:=A0.2) (b2:=b2) (St.sepOk u) (St.sepDis u) U4) ⟨rfl,trivial⟩ (λ_ _ w hE=>?_) (λv w a hR o=>?_)
 obtain ⟨rfl,hk⟩:=hE;obtain rfl:=si hm;exact tpn<|tpn<|pnB o ⟨rfl,St.panK u hk⟩
 obtain ⟨F3,rfl,hR⟩:=hR
 replace hm:=Option.bindP_s hm
 obtain ⟨rfl,hk⟩:=hR
 replace u:=(u.mut hk .head).unsep
 refine qm o rfl λo=>re<|tn<|Av (λa w=>∃ (E2:binary_reader) (S0:(List (List api_Op))) (B3:PH) (Y0:Option Addr) (T0:Nat) (F2:List Value),(Zw D0 J0 E0 K0 M0 A0) E2 S0=some r∧ExtM w0 (sepA [bk b2 [Ag p1.s,i6 p1.at'] 70]).fp H59 B3∧Fr 44 [(0,PT b2),(2,PT b3),(3,PT b4)] a∧St w0 (sepA [bk b2 [Ag p1.s,i6 p1.at'] 70]).fp [B3] [bk b2 [Ag E2.s,i6 E2.at'] 70,bk b3 [.slice none 0 0,i6 0,.slice none 0 0,i6 0,.slice none 0 0,i6 0,i6 0,.slice none 0 0,.slice none 0 0] 29,sla 3 1 P0 D0.1.length G0 V1,sla 3 1 I0 E0.1.length C0 X1,sla 26 3 O0 M0.length F0 O1,sla 54 1 Y0 S0.length T0 F2,bk b4 [SL P0 D0.1 G0,i6 J0.1,SL I0 E0.1 C0,i6 K0.1,SL O0 M0 F0,i6 A0.1.Regs,i6 A0.1.Counts,SL B1 A0.1.L V0,SL Y0 S0 T0] 29] w∧Rows B3 F2 S0) ?_ ?_
 replace u:=u.nilS 54 1
 replace u:=u.pk [1,1,1,1,1,0,0] rfl
 refine wb<|lp (α:=Nat×binary_reader×(List (List api_Op))×Int) (λ(gh:Nat×binary_reader×(List (List api_Op))×Int) a w=>match gh with | (O2,U0,X0,G2)=>∃ (C1:PH) (F1:Option Addr) (j0:Nat) (I1:List Value),(Zy N (Zw D0 J0 E0 K0 M0 A0) F3) O2 U0 X0 G2=some r∧ExtM w0 (sepA [bk b2 [Ag p1.s,i6 p1.at'] 70]).fp H59 C1∧Fr 44 [(0,PT b2),(2,PT b3),(3,PT b4),(32,i6 F3.1),(33,i6 G2)] a∧St w0 (sepA [bk b2 [Ag p1.s,i6 p1.at'] 70]).fp [C1] [bk b2 [Ag U0.s,i6 U0.at'] 70,bk b3 [.slice none 0 0,i6 0,.slice none 0 0,i6 0,.slice none 0 0,i6 0,i6 0,.slice none 0 0,.slice none 0 0] 29,sla 3 1 P0 D0.1.length G0 V1,sla 3 1 I0 E0.1.length C0 X1,sla 26 3 O0 M0.length F0 O1,sla 54 1 F1 X0.length j0 I1,bk b4 [SL P0 D0.1 G0,i6 J0.1,SL I0 E0.1 C0,i6 K0.1,SL O0 M0 F0,i6 A0.1.Regs,i6 A0.1.Counts,SL B1 A0.1.L V0,SL F1 X0 j0] 29] w∧Rows C1 I1 X0) (λgh=>gh.1) (N,F3.2,[],0) ⟨H59,none,0,[],hm,(ExtM.refl _ _ _),o.hs,u,.nil⟩ ?_
 rintro ⟨O2,U0,X0,G2⟩ a w ⟨C1,F1,j0,I1,hm,P2,o,u,C3⟩
 obtain _ | O2:=O2
 simp [Zy] at hm
 rw [Zy] at hm
 refine th<|rg<|qv o (Ak o rfl rfl) λo=>re<|?_
 rcases bip hm with ⟨V2,hm⟩ | ⟨V2,hm⟩
 refine tn<|th<|ctv o rfl V2<|wk<|tn<|th<|wb<|rdL (Aa t1 (Aa t2 (Aa t3 (Aa t4 (Aa t6 Ai))))) 7 u wide λw u=>ds 0 (St.ldsX u i2 (Aa t1 (Aa t2 (Aa t3 (Aa t4 (Aa t6 Ai)))))) o rfl (Ae o Dm rfl) λo=>dq 1 (St.ldsX u i2 (Aa t1 (Aa t2 (Aa t3 (Aa t4 (Aa t6 Ai)))))) o rfl (λw hl=>Af o isAgg27 rfl (hl.cellB t4 rfl)) λo=>ds 2 (St.ldsX u i2 (Aa t1 (Aa t2 (Aa t3 (Aa t4 (Aa t6 Ai)))))) o rfl (Ab o rfl) λo=>da1 (i:=3) (by kernel_rfl) ?_
 replace u:=u.pk [0,0,0,0,0,0,0] rfl
 replace u:=St.sep [bk b2 [Ag U0.s,i6 U0.at'] 70] u
 obtain ⟨ro72,V4,hm⟩:=Option.bindP_x hm
 refine di (i:=3) rfl<|c1p o rfl call76 (JbF (St.le u) (p1:=U0) (b2:=b2) (St.sepOk u) (St.sepDis u) V4) ⟨rfl,trivial⟩ (λ_ _ w hE=>?_) (λv w a hR o=>?_)
 obtain ⟨rfl,hk⟩:=hE;obtain rfl:=si hm;exact bpn<|tpn<|tpn<|bpn<|tpn<|pnB o ⟨rfl,St.panK u hk⟩
 obtain ⟨U1,rfl,hR⟩:=hR
 replace hm:=Option.bindP_s hm
 obtain ⟨W4,X4,hm⟩:=bs hm
 obtain ⟨W2,I2,Y4,rfl,X2,hk⟩:=hR
 replace u:=(u.mut hk .head).unsep
 replace X2:=X2 C1
 refine ⟨λ_=>(St.ldsX u i2 (Aa t2 (Aa t3 (Aa t4 (Aa t5 (Aa t7 Ai)))))),?_⟩
 refine da1 (i:=4) (by kernel_rfl) ?_
 obtain ⟨H81,Q1,n3,u3,u⟩:=St.frzSM u (.tail .head) X2
 refine di (i:=4) rfl<|Bj (e:=54) (sz:=1) [SL W2 U1.1 I2] o rfl u rfl rfl rfl (λw=>by kernel_rfl) λl4 w a u o=>?_
 have A4:Rows (α:=(List api_Op)) H81 [SL W2 U1.1 I2] ([U1.1]:List (List api_Op)):=(.cons (c:=[SL W2 U1.1 I2]) ⟨_,_,rfl,u3,n3⟩ .nil)
 refine ⟨λ_=>(St.ldsX u Q1.sub (Aa t2 (Aa t3 (Aa t4 (Aa t5 (Aa t7 Ai)))))),?_⟩
 refine da1 (i:=5) (by kernel_rfl) ?_
 refine di (i:=5) rfl<|Bv (α:=(List api_Op)) (xs:=X0) (ys:=([U1.1]:List (List api_Op))) o rfl u underlying27 Ys rfl (by decide) rfl rfl rfl t6 (C3.mono Q1.sub) (u.rdO t0) A4 X4 λB4 I3 C4 w a D4 hU o=>?_
 replace u:=hU _ (.tail (.tail (.tail (.tail (.tail (.tail .head))))))
 replace u:=u.drop .head
 refine ⟨λ_=>(St.ldsX u Q1.sub (Aa t1 (Aa t2 (Aa t3 (Aa t4 (Aa t6 Ai)))))),?_⟩
 refine ds 6 (St.ldsX u Q1.sub (Aa t1 (Aa t2 (Aa t3 (Aa t4 (Aa t6 Ai)))))) o rfl (Ae o Dm rfl) λo=>da1 (i:=7) (by kernel_rfl) ?_
 refine di (i:=7) rfl<|Bz o u sizeOf27 rfl rfl rfl rfl (.tail (.tail (.tail (.tail (.tail (.tail .head)))))) (.succ (.succ (.succ (.succ (.succ (.succ (.succ (.succ .zero)))))))) λw u=>⟨λh=>absurd rfl h,?_⟩
 refine de (by kernel_rfl)<|bn<|tn<|rg<|qv o (An o rfl rfl) λo=>qm o rfl λo=>re<|tn<|?_
 exact ⟨(O2,U1.2,W4,(IntKind.i64.wrap (G2+1))),⟨H81,B4,I3,C4,hm,(ExtM.trans P2 Q1),o.hs,u,D4⟩,Nat.lt_succ_self _⟩
 refine tn<|th<|cfv o rfl V2<|we<|tx<|tx<|bx<|tn<|?_
 exact ⟨U0,X0,C1,F1,j0,I1,hm,P2,o.hs,u,C3⟩
 rintro a w ⟨E2,S0,B3,Y0,T0,F2,hm,n0,o,u,J3⟩
 unfold Zw at hm
 refine th<|rg<|qv o (Ar o Tryz.isAgg29 Tryz.sizeOf29 rfl rfl (u.ld.cellsB t6)) λo=>ls<|Bb o u sizeOf29 rfl rfl rfl rfl (Ao rfl) (.tail .head) λw u=>re<|tn<|wr<|?_
 obtain ⟨H94,R1,E4,F4,u⟩:=St.frzSM u (.tail (.tail .head)) (Q2.mono (cp (cp n0.sub W0.sub) C2.sub))
 obtain ⟨H98,S1,G4,I4,u⟩:=St.frzSM u (.tail (.tail .head)) (R2.mono (cp (cp (cp R1.sub n0.sub) W0.sub) C2.sub))
 obtain ⟨H102,T1,K3,L3,u⟩:=St.frzSM u (.tail (.tail .head)) (W3.mono (cp (cp (cp S1.sub R1.sub) n0.sub) W0.sub))
 obtain ⟨H106,u0,M3,O3,u⟩:=St.frzSM u (.tail (.tail .head)) (J3.mono (cp (cp T1.sub S1.sub) R1.sub))
 obtain rfl:=si hm
 exact bpl (r1c (vs:=[SL P0 D0.1 G0,i6 J0.1,SL I0 E0.1 C0,i6 K0.1,SL O0 M0 F0,i6 A0.1.Regs,i6 A0.1.Counts,SL B1 A0.1.L V0,SL Y0 S0 T0]) (.inl rfl) o results33 rfl isAgg29 sizeOf29 rfl (u.ld.cellsB t1) ⟨_,rfl,H106,_,rfl,(show Enc.rep (α:=api_Unit) H106 [SL P0 D0.1 G0,i6 J0.1,SL I0 E0.1 C0,i6 K0.1,SL O0 M0 F0,i6 A0.1.Regs,i6 A0.1.Counts,SL B1 A0.1.L V0,SL Y0 S0 T0] (api_Unit.mk D0.1 J0.1 E0.1 K0.1 M0 A0.1 S0) from ⟨_,_,rfl,⟨_,_,rfl,F4,(E4.mono (cp (cp u0.sub T1.sub) S1.sub))⟩,⟨_,_,rfl,rfl,⟨_,_,rfl,⟨_,_,rfl,I4,(G4.mono (cp u0.sub T1.sub))⟩,⟨_,_,rfl,rfl,⟨_,_,rfl,⟨_,_,rfl,L3,(K3.mono u0.sub)⟩,⟨_,_,rfl,⟨_,_,rfl,rfl,⟨_,_,rfl,rfl,⟨_,_,rfl,Y3,(l3.mono (cp (cp (cp (cp u0.sub T1.sub) S1.sub) R1.sub) n0.sub))⟩⟩⟩,⟨_,_,rfl,O3,M3⟩⟩⟩⟩⟩⟩⟩),(ExtM.trans C2 (ExtM.trans W0 (ExtM.trans n0 (ExtM.trans R1 (ExtM.trans S1 (ExtM.trans T1 u0)))))),(St.le u),(St.disL (u.pickL (.cons .head .nil))),(u.pickL (.cons .head .nil)).endMut⟩)
theorem JaP (hH:H.le w0) {p1:Str} {r:(api_Unit×Int)} (hm:Z0 N p1=some r):Tot Tryz.prog 10 #[Ag p1] w0 (λv w'=>∃ (H':PH) (cs0:List Value),v=.tuple #[.agg cs0.toArray,i6 r.2]∧Enc.rep H' cs0 r.1∧Ext w0 H H'∧H'.le w'∧Keep Nil w0 w'):=by
 unfold Z0 at hm
 refine fnD (args:=[Ag p1]) (F:=[(0,Ag p1)]) func10 rfl ntmps10 rfl rfl λa o=>?_
 have u:St w0 Nil [H] [] w0:=start1 hH
 refine th<|rg<|ls<|As (cs:=[.slice none 0 0,i6 0,.slice none 0 0,i6 0,.slice none 0 0,i6 0,i6 0,.slice none 0 0,.slice none 0 0].toArray) o rfl u Tryz.zeroValue29 rfl λb2 w a u o=>ls<|As (cs:=[i6 0].toArray) o rfl u zeroValue31 rfl λb3 w a u o=>re<|tn<|th<|dfr (vs:=[PT b2,PT b3]) o rfl ⟨rfl,rfl,trivial⟩ λa o=>tn<|th<|rg<|qm o rfl λo=>qv o (Bt [Ag p1] [Ag p1,i6 0] o ⟨rfl,trivial⟩ (λw=>by kernel_rfl)) λo=>ls<|Br (cs:=[Ag p1,i6 0].toArray) o rfl u rfl rfl λb4 w a u o=>qa o rfl λo=>re<|tn<|th<|rg<|qm o rfl λo=>?_
 replace u:=u.pk [0,0,0] rfl
 replace u:=St.sep [bk b4 [Ag p1,i6 0] 70] u
 obtain ⟨ro7,h6,hm⟩:=Option.bindQ_x hm (by simp)
 refine ls<|c1p o rfl call33 (JdE (St.le u) (p1:=(binary_reader.mk p1 0)) (b2:=b4) (St.sepOk u) (St.sepDis u) h6) ⟨rfl,trivial⟩ (λ_ _ w hE=>?_) (λv w a hR o=>?_)
 obtain ⟨rfl,hk⟩:=hE
 replace u:=St.panS u hk
 obtain rfl:=si hm
 exact tpn<|lvP o call32 (Fi u (.tail .head) .head rfl) λw u=>⟨_,Tp (vs:=[.slice none 0 0,i6 0,.slice none 0 0,i6 0,.slice none 0 0,i6 0,i6 0,.slice none 0 0,.slice none 0 0]) o results10 rfl rfl isAgg29 sizeOf29 rfl isAgg31 (u.ld.cellsB t1) (u.ld.cellB t0 rfl),⟨H,_,rfl,(show Enc.rep (α:=api_Unit) H [.slice none 0 0,i6 0,.slice none 0 0,i6 0,.slice none 0 0,i6 0,i6 0,.slice none 0 0,.slice none 0 0] (api_Unit.mk [] 0 [] 0 [] (api_Code.mk 0 0 []) []) from ⟨_,_,rfl,⟨none,0,rfl,Nat.le_refl _,SR.nil _ _⟩,⟨_,_,rfl,rfl,⟨_,_,rfl,⟨none,0,rfl,Nat.le_refl _,SR.nil _ _⟩,⟨_,_,rfl,rfl,⟨_,_,rfl,⟨none,0,rfl,Nat.le_refl _,SR.nil _ _⟩,⟨_,_,rfl,⟨_,_,rfl,rfl,⟨_,_,rfl,rfl,⟨none,0,rfl,Nat.le_refl _,SR.nil _ _⟩⟩⟩,⟨none,0,rfl,Nat.le_refl _,SR.nil _ _⟩⟩⟩⟩⟩⟩⟩),(Ext.refl _ _),(St.le u),u.keep⟩⟩
 obtain ⟨A0,rfl,hR⟩:=hR
 replace hm:=Option.bindQ_s hm
 obtain ⟨H11,cs12,rfl,B1,I0,C1,hd10,hk⟩:=hR
 obtain ⟨u,I0⟩:=And.intro (St.mutH u hk I0 C1 hd10) (St.extc0 u I0)
 replace u:=u.unsep
 have D1:Enc.rep (α:=(List Int)×Int×(List Int)×Int×(List api_Code)×api_Code×(List (List api_Op))) H11 cs12 (A0.1.Lines,A0.1.Stays,A0.1.Firsts,A0.1.Locks,A0.1.Threads,A0.1.Recover,A0.1.Claims):=B1
 obtain ⟨q15,q16,rfl,E1,F1⟩:=D1
 obtain ⟨J0,C0,rfl,R0,S0⟩:=E1
 obtain ⟨q23,q24,rfl,I1,J1⟩:=F1
 obtain rfl:q23=[i6 A0.1.Stays]:=I1
 obtain ⟨q27,q28,rfl,O1,P1⟩:=J1
 obtain ⟨K0,D0,rfl,T0,U0⟩:=O1
 obtain ⟨q35,q36,rfl,Q1,R1⟩:=P1
 obtain rfl:q35=[i6 A0.1.Locks]:=Q1
 obtain ⟨q39,q40,rfl,S1,T1⟩:=R1
 obtain ⟨M0,E0,rfl,V0,W0⟩:=S1
 obtain ⟨q47,q48,rfl,U1,V1⟩:=T1
 obtain ⟨O0,F0,rfl,X0,Y0⟩:=Am U1
 obtain ⟨P0,G0,rfl,j0,n0⟩:=V1
 refine ls<|Bb o u sizeOf29 rfl rfl rfl rfl (Ao rfl) (.tail (.tail .head)) λw u=>re<|tn<|th<|th<|?_
 obtain ⟨u0,X1,hm⟩:=bs hm
 refine rg<|qv o (Ar o Tryz.isAgg29 Tryz.sizeOf29 rfl rfl (u.ld.cellsB t2)) λo=>ls<|cr o call8 (JaN (Ah _) (Enc.mono (St.up u) (show Enc.rep (α:=api_Unit) H11 [SL J0 A0.1.Lines C0,i6 A0.1.Stays,SL K0 A0.1.Firsts D0,i6 A0.1.Locks,SL M0 A0.1.Threads E0,i6 A0.1.Recover.Regs,i6 A0.1.Recover.Counts,SL O0 A0.1.Recover.L F0,SL P0 A0.1.Claims G0] A0.1 from ⟨_,_,rfl,⟨_,_,rfl,R0,S0⟩,⟨_,_,rfl,rfl,⟨_,_,rfl,⟨_,_,rfl,T0,U0⟩,⟨_,_,rfl,rfl,⟨_,_,rfl,⟨_,_,rfl,V0,W0⟩,⟨_,_,rfl,⟨_,_,rfl,rfl,⟨_,_,rfl,rfl,⟨_,_,rfl,X0,Y0⟩⟩⟩,⟨_,_,rfl,j0,n0⟩⟩⟩⟩⟩⟩⟩)) X1) u λu o=>qm o rfl λo=>?_
 iterate 2 refine qv o (Dd o rfl rfl) λo=>?_
 iterate 2 refine qa o rfl λo=>?_
 refine re<|tn<|th<|rg<|qm o rfl λo=>qv o (Bh o rfl rfl) λo=>qm o rfl λo=>gr (Fk:=[(2,PT b2),(3,PT b3),(24,.bool ((decide (u0.2≠0)) || (decide (u0.1≠p1))))]) 20 4 o u ?_ ?_ ?_
 intro hb o key
 iterate 3 refine qn o λo=>?_
 exact qk o (Ac o rfl rfl) key u hb
 intro hb o key
 iterate 2 refine qg o (Ab o rfl) λo=>?_
 exact qg o (E9 (m:=u0.1) (n:=p1) o rfl rfl) λo=>qk o (Ad o rfl rfl) key u hb
 intro a w o u
 refine re<|?_
 rcases bit hm with ⟨Q0,hm⟩ | ⟨Q0,hm⟩
 refine tn<|ctv o rfl Q0<|rg<|qv o (Yh o (Wt _) rfl) λo=>ls<|pnq o rfl ?_
 obtain rfl:=si hm
 exact tpn<|lvP o call32 (Fi u (.tail (.tail .head)) (.tail .head) rfl) λw u=>⟨_,Tp (vs:=[.slice none 0 0,i6 0,.slice none 0 0,i6 0,.slice none 0 0,i6 0,i6 0,.slice none 0 0,.slice none 0 0]) o results10 rfl rfl isAgg29 sizeOf29 rfl isAgg31 (u.ld.cellsB t2) (u.ld.cellB t1 rfl),⟨H11,_,rfl,(show Enc.rep (α:=api_Unit) H11 [.slice none 0 0,i6 0,.slice none 0 0,i6 0,.slice none 0 0,i6 0,i6 0,.slice none 0 0,.slice none 0 0] (api_Unit.mk [] 0 [] 0 [] (api_Code.mk 0 0 []) []) from ⟨_,_,rfl,⟨none,0,rfl,Nat.le_refl _,SR.nil _ _⟩,⟨_,_,rfl,rfl,⟨_,_,rfl,⟨none,0,rfl,Nat.le_refl _,SR.nil _ _⟩,⟨_,_,rfl,rfl,⟨_,_,rfl,⟨none,0,rfl,Nat.le_refl _,SR.nil _ _⟩,⟨_,_,rfl,⟨_,_,rfl,rfl,⟨_,_,rfl,rfl,⟨none,0,rfl,Nat.le_refl _,SR.nil _ _⟩⟩⟩,⟨none,0,rfl,Nat.le_refl _,SR.nil _ _⟩⟩⟩⟩⟩⟩⟩),I0,(St.le u),u.keep⟩⟩
 refine tn<|cfv o rfl Q0<|wk<|tn<|th<|rg<|qv o (Ar o Tryz.isAgg29 Tryz.sizeOf29 rfl rfl (u.ld.cellsB t2)) λo=>ls<|Bb o u sizeOf29 rfl rfl rfl rfl (Ao rfl) (.tail (.tail .head)) λw u=>ls<|Bz o u sizeOf31 rfl rfl rfl rfl (.tail .head) .zero λw u=>re<|tn<|wr<|?_
 obtain rfl:=si hm
 exact lvR o call32 (Jh _ _ _) (Tp (vs:=[SL J0 A0.1.Lines C0,i6 A0.1.Stays,SL K0 A0.1.Firsts D0,i6 A0.1.Locks,SL M0 A0.1.Threads E0,i6 A0.1.Recover.Regs,i6 A0.1.Recover.Counts,SL O0 A0.1.Recover.L F0,SL P0 A0.1.Claims G0]) o results10 rfl rfl isAgg29 sizeOf29 rfl isAgg31 (u.ld.cellsB t2) (u.ld.cellB t1 rfl)) ⟨H11,_,rfl,(show Enc.rep (α:=api_Unit) H11 [SL J0 A0.1.Lines C0,i6 A0.1.Stays,SL K0 A0.1.Firsts D0,i6 A0.1.Locks,SL M0 A0.1.Threads E0,i6 A0.1.Recover.Regs,i6 A0.1.Recover.Counts,SL O0 A0.1.Recover.L F0,SL P0 A0.1.Claims G0] A0.1 from ⟨_,_,rfl,⟨_,_,rfl,R0,S0⟩,⟨_,_,rfl,rfl,⟨_,_,rfl,⟨_,_,rfl,T0,U0⟩,⟨_,_,rfl,rfl,⟨_,_,rfl,⟨_,_,rfl,V0,W0⟩,⟨_,_,rfl,⟨_,_,rfl,rfl,⟨_,_,rfl,rfl,⟨_,_,rfl,X0,Y0⟩⟩⟩,⟨_,_,rfl,j0,n0⟩⟩⟩⟩⟩⟩⟩),I0,(St.le u),u.keep⟩
theorem Yu (hH:H.le w0) {J0:Option Addr} {C0:Nat} {p1:(List Int)} (j0:p1.length≤C0) (Q0:SR H J0 p1) {K0:Option Addr} {D0:Nat} {p6:(List Int)} (n0:p6.length≤D0) (M0:SR H K0 p6) {r:Bool} (hm:Z4a N p1 p6=some r):Tot Tryz.prog 39 #[SL J0 p1 C0,SL K0 p6 D0] w0 (λv w'=>v=.bool r∧Keep Nil w0 w'):=by
 unfold Z4a at hm
 refine fn0 func39 rfl ntmps39 rfl rfl λa o=>?_
 have u:St w0 Nil [H] [] w0:=start1 hH
 refine th<|rg<|qa o rfl λo=>re<|tn<|th<|th<|rg<|qm o rfl λo=>qv o (Aj (α:=Int) (xs:=p1) o runUnderlying22 rfl) λo=>qm o rfl λo=>qv o (Aj (α:=Int) (xs:=p6) o runUnderlying22 rfl) λo=>qv o (Bh o rfl rfl) λo=>re<|?_
 rcases bip hm with ⟨E0,hm⟩ | ⟨E0,hm⟩
 refine tn<|ctv o rfl E0<|th<|rg<|qa o rfl λo=>re<|tn<|wr<|tr<|?_
 obtain rfl:=si hm
 exact r1 o results39 rfl ⟨rfl,u.keep⟩
 refine tn<|cfv o rfl E0<|wk<|tn<|th<|th<|rg<|qa o rfl λo=>re<|tn<|Av (λa w=>Z4b=some r∧Fr 26 [] a∧St w0 Nil [H] [] w) ?_ ?_
 refine wb<|lp (α:=Nat×Int) (λgh a w=>match gh with | (A0,I0)=>(Z4c N Z4b p1 p6) A0 I0=some r∧Fr 26 [(0,SL J0 p1 C0),(1,SL K0 p6 D0),(5,i6 I0)] a∧St w0 Nil [H] [] w) (λgh=>gh.1) (N,0) ⟨hm,o.hs,u⟩ ?_
 rintro ⟨A0,I0⟩ a w ⟨hm,o,u⟩
 obtain _ | A0:=A0
 simp [Z4c] at hm
 rw [Z4c] at hm
 refine th<|th<|rg<|qm o rfl λo=>qm o rfl λo=>qv o (Aj (α:=Int) (xs:=p1) o runUnderlying22 rfl) λo=>qv o (Ak o rfl rfl) λo=>re<|?_
 rcases bip hm with ⟨F0,hm⟩ | ⟨F0,hm⟩
 refine tn<|ctv o rfl F0<|wk<|tn<|th<|wb<|th<|?_
 obtain ⟨T0,O0,hm⟩:=bs hm
 obtain ⟨U0,V0,R0⟩:=SR.get Q0 O0
 obtain rfl:U0=[i6 T0]:=V0
 obtain ⟨W0,P0,hm⟩:=bs hm
 obtain ⟨X0,Y0,S0⟩:=SR.get M0 P0
 obtain rfl:X0=[i6 W0]:=Y0
 refine rxS 9 u wide (by kernel_rfl) λw u=>?_
 iterate 2 refine xq u.ld o (λw hl=>Ab o rfl) λo=>?_
 refine xr u o (Al o runUnderlying22 sizeOf3 rfl rfl O0 (SR.oaI Q0 (by decide) O0)) λo=>xq u.ld o (λw hl=>Af o isAgg3 rfl (PH.le.cell (Lds.le hl) (R0 0 _ rfl))) λo=>?_
 iterate 2 refine xq u.ld o (λw hl=>Ab o rfl) λo=>?_
 refine xr u o (Al o runUnderlying22 sizeOf3 rfl rfl P0 (SR.oaI M0 (by decide) P0)) λo=>xq u.ld o (λw hl=>Af o isAgg3 rfl (PH.le.cell (Lds.le hl) (S0 0 _ rfl))) λo=>xr u o (Bh o rfl rfl) λo=>xe<|?_
 rcases bip hm with ⟨G0,hm⟩ | ⟨G0,hm⟩
 refine tn<|ctv o rfl G0<|th<|rg<|qa o rfl λo=>re<|tn<|wr<|br<|tr<|tr<|br<|tr<|?_
 obtain rfl:=si hm
 exact r1 o results39 rfl ⟨rfl,u.keep⟩
 refine tn<|cfv o rfl G0<|wk<|bn<|tn<|rg<|qm o rfl λo=>qv o (An o rfl rfl) λo=>qa o rfl λo=>re<|tn<|?_
 exact ⟨(A0,(IntKind.i64.wrap (I0+1))),⟨hm,o.hs,u⟩,Nat.lt_succ_self _⟩
 refine tn<|cfv o rfl F0<|we<|tx<|tx<|bx<|tn<|?_
 exact ⟨hm,o.has trivial,u⟩
 rintro a w ⟨hm,o,u⟩
 unfold Z4b at hm
 refine th<|rg<|qa o rfl λo=>re<|tn<|wr<|?_
 obtain rfl:=si hm
 exact r1 o results39 rfl ⟨rfl,u.keep⟩
theorem T9 (hH:H.le w0) {J0:Option Addr} {C0:Nat} {p1:(List api_Op)} (X0:p1.length≤C0) (Q0:SR H J0 p1) {K0:Option Addr} {D0:Nat} {p6:(List api_Op)} (Y0:p6.length≤D0) (M0:SR H K0 p6) {r:Bool} (hm:Z5k N p1 p6=some r):Tot Tryz.prog 41 #[SL J0 p1 C0,SL K0 p6 D0] w0 (λv w'=>v=.bool r∧Keep Nil w0 w'):=by
 unfold Z5k at hm
 refine fn0 func41 rfl ntmps41 rfl rfl λa o=>?_
 have u:St w0 Nil [H] [] w0:=start1 hH
 refine th<|rg<|qa o rfl λo=>re<|tn<|th<|th<|rg<|qm o rfl λo=>qv o (Aj (α:=api_Op) (xs:=p1) o runUnderlying54 rfl) λo=>qm o rfl λo=>qv o (Aj (α:=api_Op) (xs:=p6) o runUnderlying54 rfl) λo=>qv o (Bh o rfl rfl) λo=>re<|?_
 rcases bip hm with ⟨E0,hm⟩ | ⟨E0,hm⟩
 refine tn<|ctv o rfl E0<|th<|rg<|qa o rfl λo=>re<|tn<|wr<|tr<|?_
 obtain rfl:=si hm
 exact r1 o results41 rfl ⟨rfl,u.keep⟩
 refine tn<|cfv o rfl E0<|wk<|tn<|th<|th<|rg<|qa o rfl λo=>re<|tn<|Av (λa w=>Z5l=some r∧Fr 26 [] a∧St w0 Nil [H] [] w) ?_ ?_
 refine wb<|lp (α:=Nat×Int) (λgh a w=>match gh with | (A0,I0)=>(Z5m N Z5l p1 p6) A0 I0=some r∧Fr 26 [(0,SL J0 p1 C0),(1,SL K0 p6 D0),(5,i6 I0)] a∧St w0 Nil [H] [] w) (λgh=>gh.1) (N,0) ⟨hm,o.hs,u⟩ ?_
 rintro ⟨A0,I0⟩ a w ⟨hm,o,u⟩
 obtain _ | A0:=A0
 simp [Z5m] at hm
 rw [Z5m] at hm
 refine th<|th<|rg<|qm o rfl λo=>qm o rfl λo=>qv o (Aj (α:=api_Op) (xs:=p1) o runUnderlying54 rfl) λo=>qv o (Ak o rfl rfl) λo=>re<|?_
 rcases bip hm with ⟨F0,hm⟩ | ⟨F0,hm⟩
 refine tn<|ctv o rfl F0<|wk<|tn<|th<|wb<|th<|?_
 obtain ⟨T0,O0,hm⟩:=bs hm
 obtain ⟨j0,U0,R0⟩:=SR.get Q0 O0
 obtain rfl:=Cs U0
 obtain ⟨V0,P0,hm⟩:=bs hm
 obtain ⟨n0,W0,S0⟩:=SR.get M0 P0
 obtain rfl:=Cs W0
 refine rxS 9 u wide (by kernel_rfl) λw u=>?_
 iterate 2 refine xq u.ld o (λw hl=>Ab o rfl) λo=>?_
 refine xr u o (Al o runUnderlying54 sizeOf83 rfl rfl O0 (SR.oaI Q0 (by decide) O0)) λo=>xq u.ld o (λw hl=>Ar o isAgg83 sizeOf83 rfl rfl (λj v hj=>PH.le.cell (Lds.le hl) (R0 j v hj))) λo=>?_
 iterate 2 refine xq u.ld o (λw hl=>Ab o rfl) λo=>?_
 refine xr u o (Al o runUnderlying54 sizeOf83 rfl rfl P0 (SR.oaI M0 (by decide) P0)) λo=>xq u.ld o (λw hl=>Ar o isAgg83 sizeOf83 rfl rfl (λj v hj=>PH.le.cell (Lds.le hl) (S0 j v hj))) λo=>xr u o (Tl (x:=T0) (y:=V0) o rfl rfl) λo=>xe<|?_
 rcases bip hm with ⟨G0,hm⟩ | ⟨G0,hm⟩
 refine tn<|ctv o rfl G0<|th<|rg<|qa o rfl λo=>re<|tn<|wr<|br<|tr<|tr<|br<|tr<|?_
 obtain rfl:=si hm
 exact r1 o results41 rfl ⟨rfl,u.keep⟩
 refine tn<|cfv o rfl G0<|wk<|bn<|tn<|rg<|qm o rfl λo=>qv o (An o rfl rfl) λo=>qa o rfl λo=>re<|tn<|?_
 exact ⟨(A0,(IntKind.i64.wrap (I0+1))),⟨hm,o.hs,u⟩,Nat.lt_succ_self _⟩
 refine tn<|cfv o rfl F0<|we<|tx<|tx<|bx<|tn<|?_
 exact ⟨hm,o.has trivial,u⟩
 rintro a w ⟨hm,o,u⟩
 unfold Z5l at hm
 refine th<|rg<|qa o rfl λo=>re<|tn<|wr<|?_
 obtain rfl:=si hm
 exact r1 o results41 rfl ⟨rfl,u.keep⟩
set_option maxHeartbeats 4000000 in
theorem Jbc (hH:H.le w0) {cs2:List Value} {p1:api_Code} (g3:Enc.rep H cs2 p1) {cs5:List Value} {p4:api_Code} (g6:Enc.rep H cs5 p4) {r:Bool} (hm:Z7f N p1 p4=some r):Tot Tryz.prog 40 #[.agg cs2.toArray,.agg cs5.toArray] w0 (λv w'=>v=.bool r∧Keep Nil w0 w'):=by
 unfold Z7f at hm
 refine fn0 func40 rfl ntmps40 rfl rfl λa o=>?_
 have u:St w0 Nil [H] [] w0:=start1 hH
 obtain ⟨S1,j0,rfl,G3,Y1⟩:=Am g3
 obtain ⟨n0,R0,rfl,F3,u1⟩:=Am g6
 refine th<|rg<|ls<|Br (cs:=[i6 p1.Regs,i6 p1.Counts,SL S1 p1.L j0].toArray) o rfl u rfl rfl λA0 w a u o=>ls<|Br (cs:=[i6 p4.Regs,i6 p4.Counts,SL n0 p4.L R0].toArray) o rfl u rfl rfl λC0 w a u o=>qa o rfl λo=>re<|tn<|th<|th<|rg<|qv o (Ae o Cz rfl) λo=>qv o (Af o isAgg3 rfl (u.ld.cellB t1 rfl)) λo=>qv o (Ae o Cz rfl) λo=>qv o (Af o isAgg3 rfl (u.ld.cellB t0 rfl)) λo=>qv o (Bh o rfl rfl) λo=>qm o rfl λo=>gr (Fk:=[(2,PT A0),(3,PT C0),(19,.bool ((decide (p1.Regs≠p4.Regs)) || (decide (p1.Counts≠p4.Counts))))]) 13 6 o u ?_ ?_ ?_
 intro hb o key
 iterate 5 refine qn o λo=>?_
 exact qk o (Ac o rfl rfl) key u hb
 intro hb o key
 exact qg o (Ae o Gg rfl) λo=>qg o (Af o isAgg3 rfl (u.ld.cellB t1 rfl)) λo=>qg o (Ae o Gg rfl) λo=>qg o (Af o isAgg3 rfl (u.ld.cellB t0 rfl)) λo=>qg o (Bh o rfl rfl) λo=>qk o (Ad o rfl rfl) key u hb
 intro a w o u
 refine qm o rfl λo=>gr (Fk:=[(2,PT A0),(3,PT C0),(28,.bool (((decide (p1.Regs≠p4.Regs)) || (decide (p1.Counts≠p4.Counts))) || (decide ((p1.L.length:Int)≠(p4.L.length:Int)))))]) 20 8 o u ?_ ?_ ?_
 intro hb o key
 iterate 7 refine qn o λo=>?_
 exact qk o (Ac o rfl rfl) key u hb
 intro hb o key
 exact qg o (Ae o Ch rfl) λo=>qg o (Af o isAgg24 rfl (u.ld.cellB t1 rfl)) λo=>qg o (Aj (α:=api_Instr) (xs:=p1.L) o runUnderlying24 rfl) λo=>qg o (Ae o Ch rfl) λo=>qg o (Af o isAgg24 rfl (u.ld.cellB t0 rfl)) λo=>qg o (Aj (α:=api_Instr) (xs:=p4.L) o runUnderlying24 rfl) λo=>qg o (Bh o rfl rfl) λo=>qk o (Ad o rfl rfl) key u hb
 intro a w o u
 refine re<|?_
 rcases bit hm with ⟨I1,hm⟩ | ⟨I1,hm⟩
 refine tn<|ctv o rfl I1<|th<|rg<|qa o rfl λo=>re<|tn<|wr<|tr<|?_
 obtain rfl:=si hm
 exact r1 o results40 rfl ⟨rfl,u.keep⟩
 refine tn<|cfv o rfl I1<|wk<|tn<|th<|th<|rg<|qa o rfl λo=>re<|tn<|Av (λa w=>Z7g=some r∧Fr 88 [] a∧St w0 Nil [H] [] w) ?_ ?_
 replace u:=u.pk [1,0] rfl
 refine wb<|lp (α:=Nat×Int) (λgh a w=>match gh with | (S0,D0)=>(Z7j N Z7g p1 p4) S0 D0=some r∧Fr 88 [(2,PT A0),(3,PT C0),(5,i6 D0)] a∧St w0 Nil [H] [bk A0 [i6 p1.Regs,i6 p1.Counts,SL S1 p1.L j0] 26,bk C0 [i6 p4.Regs,i6 p4.Counts,SL n0 p4.L R0] 26] w) (λgh=>gh.1) (N,0) ⟨hm,o.hs,u⟩ ?_
 rintro ⟨S0,D0⟩ a w ⟨hm,o,u⟩
 obtain _ | S0:=S0
 simp [Z7j] at hm
 rw [Z7j] at hm
 refine th<|th<|rg<|qm o rfl λo=>qv o (Ae o Ch rfl) λo=>qv o (Af o isAgg24 rfl (u.ld.cellB t0 rfl)) λo=>qv o (Aj (α:=api_Instr) (xs:=p1.L) o runUnderlying24 rfl) λo=>qv o (Ak o rfl rfl) λo=>re<|?_
 rcases bip hm with ⟨J1,hm⟩ | ⟨J1,hm⟩
 refine tn<|ctv o rfl J1<|wk<|tn<|th<|wb<|th<|Av (λa w=>∃ (I0:Int) (J0:Int) (O0:Int) (F1:(List api_Op)) (T0:(List api_Op)) (P0:Int) (E0:Int) (F0:Int) (G0:Int) (U0:(List api_Op)) (V0:(List api_Op)) (Q0:Int) (bC1:Nat) (O1:Option Addr) (u0:Nat) (B1:Option Addr) (W0:Nat) (bC16:Nat) (C1:Option Addr) (X0:Nat) (D1:Option Addr) (Y0:Nat),(Z7h N (Z7j N Z7g p1 p4 S0) D0) I0 J0 O0 F1 T0 P0 E0 F0 G0 U0 V0 Q0=some r∧Fr 88 [(2,PT A0),(3,PT C0),(5,i6 D0),(6,PT bC1),(7,PT bC16)] a∧St w0 Nil [H] [bk A0 [i6 p1.Regs,i6 p1.Counts,SL S1 p1.L j0] 26,bk C0 [i6 p4.Regs,i6 p4.Counts,SL n0 p4.L R0] 26,bk bC1 [i6 I0,i6 J0,i6 O0,SL O1 F1 u0,SL B1 T0 W0,i6 P0] 85,bk bC16 [i6 E0,i6 F0,i6 G0,SL C1 U0 X0,SL D1 V0 Y0,i6 Q0] 85] w∧F1.length≤u0∧SR H O1 F1∧T0.length≤W0∧SR H B1 T0∧U0.length≤X0∧SR H C1 U0∧V0.length≤Y0∧SR H D1 V0) ?_ ?_
 obtain ⟨K0,B2,hm⟩:=bs hm
 obtain ⟨I3,B3,u2⟩:=SR.get Y1 B2
 obtain ⟨C2,T1,E2,U1,rfl,F2,G2,I2,J2⟩:=Au B3
 obtain ⟨M0,K2,hm⟩:=bs hm
 obtain ⟨J3,C3,A3⟩:=SR.get u1 K2
 obtain ⟨O2,V1,P2,X1,rfl,Q2,R2,T2,U2⟩:=Au C3
 refine rdS 13 u wide λw u=>dr 0 u o rfl (Ae o Ch rfl) λo=>dq 1 u.ld o rfl (λw hl=>Af o isAgg24 rfl (hl.cellB t0 rfl)) λo=>dr 2 u o rfl (Ab o rfl) λo=>dr 3 u o rfl (Al o runUnderlying24 sizeOf85 rfl rfl B2 (SR.oaI Y1 (by decide) B2)) λo=>dq 4 u.ld o rfl (λw hl=>Ar o isAgg85 sizeOf85 rfl rfl (λj v hj=>PH.le.cell (Lds.le hl) (u2 j v hj))) λo=>dr 5 u o rfl (Ae o Ch rfl) λo=>dq 6 u.ld o rfl (λw hl=>Af o isAgg24 rfl (hl.cellB t1 rfl)) λo=>dr 7 u o rfl (Ab o rfl) λo=>dr 8 u o rfl (Al o runUnderlying24 sizeOf85 rfl rfl K2 (SR.oaI u1 (by decide) K2)) λo=>dq 9 u.ld o rfl (λw hl=>Ar o isAgg85 sizeOf85 rfl rfl (λj v hj=>PH.le.cell (Lds.le hl) (A3 j v hj))) λo=>da2 (i:=10) (j:=11) (by kernel_rfl) ?_ ?_
 refine di (i:=10) rfl<|As (cs:=[i6 0,i6 0,i6 0,.slice none 0 0,.slice none 0 0,i6 0].toArray) o rfl u zeroValue85 rfl λV2 w a u o=>⟨λ_=>(St.ldsX u i2 ta1),?_⟩
 refine da1 (i:=11) (by kernel_rfl) ?_
 refine di (i:=11) rfl<|As (cs:=[i6 0,i6 0,i6 0,.slice none 0 0,.slice none 0 0,i6 0].toArray) o rfl u zeroValue85 rfl λW2 w a u o=>⟨λ_=>(St.ldsX u i2 ta2),?_⟩
 refine da1 (i:=12) (by kernel_rfl) ?_
 refine di (i:=12) rfl<|Bb o u sizeOf85 rfl rfl rfl rfl (Ao rfl) (.tail .head) λw u=>⟨λ_=>(St.ldsX u i2 ta2),?_⟩
 refine da1 (i:=13) (by kernel_rfl) ?_
 refine di (i:=13) rfl<|Bb o u sizeOf85 rfl rfl rfl rfl (Ao rfl) .head λw u=>⟨λh=>absurd rfl h,?_⟩
 refine de (by kernel_rfl)<|tn<|?_
 replace u:=u.pk [2,2,1,0] rfl
 exact ⟨K0.Kind,K0.A,K0.B,K0.E,K0.F,K0.To,M0.Kind,M0.A,M0.B,M0.E,M0.F,M0.To,V2,C2,T1,E2,U1,W2,O2,V1,P2,X1,hm,o.hs,u,F2,G2,I2,J2,Q2,R2,T2,U2⟩
 refine di (i:=11) rfl<|As (cs:=[i6 0,i6 0,i6 0,.slice none 0 0,.slice none 0 0,i6 0].toArray) o rfl u zeroValue85 rfl λW2 w a u o=>⟨λ_=>(St.ldsX u i2 ta1),?_⟩
 refine da1 (i:=10) (by kernel_rfl) ?_
 refine di (i:=10) rfl<|As (cs:=[i6 0,i6 0,i6 0,.slice none 0 0,.slice none 0 0,i6 0].toArray) o rfl u zeroValue85 rfl λV2 w a u o=>⟨λ_=>(St.ldsX u i2 ta2),?_⟩
 refine da1 (i:=12) (by kernel_rfl) ?_
 refine di (i:=12) rfl<|Bb o u sizeOf85 rfl rfl rfl rfl (Ao rfl) .head λw u=>⟨λ_=>(St.ldsX u i2 ta2),?_⟩
 refine da1 (i:=13) (by kernel_rfl) ?_
 refine di (i:=13) rfl<|Bb o u sizeOf85 rfl rfl rfl rfl (Ao rfl) (.tail .head) λw u=>⟨λh=>absurd rfl h,?_⟩
 refine de (by kernel_rfl)<|tn<|?_
 replace u:=u.pk [2,2,0,0] rfl
 exact ⟨K0.Kind,K0.A,K0.B,K0.E,K0.F,K0.To,M0.Kind,M0.A,M0.B,M0.E,M0.F,M0.To,V2,C2,T1,E2,U1,W2,O2,V1,P2,X1,hm,o.hs,u,F2,G2,I2,J2,Q2,R2,T2,U2⟩
 rintro a w ⟨I0,J0,O0,F1,T0,P0,E0,F0,G0,U0,V0,Q0,bC1,O1,u0,B1,W0,bC16,C1,X0,D1,Y0,hm,o,u,hcC8,hrC9,hcC13,hrC14,hcC23,hrC24,hcC28,hrC29⟩
 unfold Z7h at hm
 refine th<|Av (λa w=>∃ (P1:Bool),(Z7i (Z7j N Z7g p1 p4 S0) D0) P1=some r∧Fr 88 [(2,PT A0),(3,PT C0),(5,i6 D0),(87,.bool P1)] a∧St w0 Nil [H] [bk A0 [i6 p1.Regs,i6 p1.Counts,SL S1 p1.L j0] 26,bk C0 [i6 p4.Regs,i6 p4.Counts,SL n0 p4.L R0] 26] w) ?_ ?_
 rcases bit hm with ⟨E1,hm⟩ | ⟨E1,hm⟩
 refine rg<|qv o (Ae o Ca rfl) λo=>qv o (Af o isAgg3 rfl (u.ld.cellB t2 rfl)) λo=>qv o (Ae o Ca rfl) λo=>qv o (Af o isAgg3 rfl (u.ld.cellB t3 rfl)) λo=>qv o (Bh o rfl rfl) λo=>qm o rfl λo=>gr (Fk:=[(2,PT A0),(3,PT C0),(5,i6 D0),(6,PT bC1),(7,PT bC16),(57,.bool ((decide (I0≠E0)) || (decide (J0≠F0))))]) 51 6 o u ?_ ?_ ?_
 intro hb o key
 iterate 5 refine qn o λo=>?_
 exact qk o (Ac o rfl rfl) key u hb
 intro hb o key
 exact qg o (Ae o Ck rfl) λo=>qg o (Af o isAgg3 rfl (u.ld.cellB t2 rfl)) λo=>qg o (Ae o Ck rfl) λo=>qg o (Af o isAgg3 rfl (u.ld.cellB t3 rfl)) λo=>qg o (Bh o rfl rfl) λo=>qk o (Ad o rfl rfl) key u hb
 intro a w o u
 refine qm o rfl λo=>gr (Fk:=[(2,PT A0),(3,PT C0),(5,i6 D0),(6,PT bC1),(7,PT bC16),(64,.bool (((decide (I0≠E0)) || (decide (J0≠F0))) || (decide (O0≠G0))))]) 58 6 o u ?_ ?_ ?_
 intro hb o key
 iterate 5 refine qn o λo=>?_
 exact qk o (Ac o rfl rfl) key u hb
 intro hb o key
 exact qg o (Ae o Ce rfl) λo=>qg o (Af o isAgg3 rfl (u.ld.cellB t2 rfl)) λo=>qg o (Ae o Ce rfl) λo=>qg o (Af o isAgg3 rfl (u.ld.cellB t3 rfl)) λo=>qg o (Bh o rfl rfl) λo=>qk o (Ad o rfl rfl) key u hb
 intro a w o u
 refine qm o rfl λo=>gr (Fk:=[(2,PT A0),(3,PT C0),(5,i6 D0),(6,PT bC1),(7,PT bC16),(71,.bool ((((decide (I0≠E0)) || (decide (J0≠F0))) || (decide (O0≠G0))) || (decide (P0≠Q0))))]) 65 6 o u ?_ ?_ ?_
 intro hb o key
 iterate 5 refine qn o λo=>?_
 exact qk o (Ac o rfl rfl) key u hb
 intro hb o key
 exact qg o (Ae o Bq rfl) λo=>qg o (Af o isAgg3 rfl (u.ld.cellB t2 rfl)) λo=>qg o (Ae o Bq rfl) λo=>qg o (Af o isAgg3 rfl (u.ld.cellB t3 rfl)) λo=>qg o (Bh o rfl rfl) λo=>qk o (Ad o rfl rfl) key u hb
 intro a w o u
 refine qv o (Ax (Ab o rfl) (congrArg Value.bool E1)) λo=>?_
 iterate 6 refine qn o λo=>?_
 refine qv o (Ac o rfl rfl) λo=>qm o rfl λo=>?_
 iterate 6 refine qn o λo=>?_
 refine qv o (Ac o rfl rfl) λo=>re<|tn<|?_
 replace u:=u.pk [0,0] rfl
 exact ⟨true,hm,o.hs,u⟩
 obtain ⟨X2,Y2,hm⟩:=bs hm
 rcases bit hm with ⟨Q1,hm⟩ | ⟨Q1,hm⟩
 have Q1':(!X2)=false:=by rw [Q1];rfl
 obtain ⟨D3,E3,hm⟩:=bs hm
 refine rg<|qv o (Ae o Ca rfl) λo=>qv o (Af o isAgg3 rfl (u.ld.cellB t2 rfl)) λo=>qv o (Ae o Ca rfl) λo=>qv o (Af o isAgg3 rfl (u.ld.cellB t3 rfl)) λo=>qv o (Bh o rfl rfl) λo=>qm o rfl λo=>gr (Fk:=[(2,PT A0),(3,PT C0),(5,i6 D0),(6,PT bC1),(7,PT bC16),(57,.bool ((decide (I0≠E0)) || (decide (J0≠F0))))]) 51 6 o u ?_ ?_ ?_
 intro hb o key
 iterate 5 refine qn o λo=>?_
 exact qk o (Ac o rfl rfl) key u hb
 intro hb o key
 exact qg o (Ae o Ck rfl) λo=>qg o (Af o isAgg3 rfl (u.ld.cellB t2 rfl)) λo=>qg o (Ae o Ck rfl) λo=>qg o (Af o isAgg3 rfl (u.ld.cellB t3 rfl)) λo=>qg o (Bh o rfl rfl) λo=>qk o (Ad o rfl rfl) key u hb
 intro a w o u
 refine qm o rfl λo=>gr (Fk:=[(2,PT A0),(3,PT C0),(5,i6 D0),(6,PT bC1),(7,PT bC16),(64,.bool (((decide (I0≠E0)) || (decide (J0≠F0))) || (decide (O0≠G0))))]) 58 6 o u ?_ ?_ ?_
 intro hb o key
 iterate 5 refine qn o λo=>?_
 exact qk o (Ac o rfl rfl) key u hb
 intro hb o key
 exact qg o (Ae o Ce rfl) λo=>qg o (Af o isAgg3 rfl (u.ld.cellB t2 rfl)) λo=>qg o (Ae o Ce rfl) λo=>qg o (Af o isAgg3 rfl (u.ld.cellB t3 rfl)) λo=>qg o (Bh o rfl rfl) λo=>qk o (Ad o rfl rfl) key u hb
 intro a w o u
 refine qm o rfl λo=>gr (Fk:=[(2,PT A0),(3,PT C0),(5,i6 D0),(6,PT bC1),(7,PT bC16),(71,.bool ((((decide (I0≠E0)) || (decide (J0≠F0))) || (decide (O0≠G0))) || (decide (P0≠Q0))))]) 65 6 o u ?_ ?_ ?_
 intro hb o key
 iterate 5 refine qn o λo=>?_
 exact qk o (Ac o rfl rfl) key u hb
 intro hb o key
 exact qg o (Ae o Bq rfl) λo=>qg o (Af o isAgg3 rfl (u.ld.cellB t2 rfl)) λo=>qg o (Ae o Bq rfl) λo=>qg o (Af o isAgg3 rfl (u.ld.cellB t3 rfl)) λo=>qg o (Bh o rfl rfl) λo=>qk o (Ad o rfl rfl) key u hb
 intro a w o u
 refine qv o (Ax (Ab o rfl) (congrArg Value.bool E1)) λo=>qg o (Ae o Cv rfl) λo=>qg o (Af o isAgg54 rfl (u.ld.cellB t2 rfl)) λo=>qg o (Ae o Cv rfl) λo=>qg o (Af o isAgg54 rfl (u.ld.cellB t3 rfl)) λo=>ls<|gy o rfl rfl<|cr o call41 (T9 (Ah _) hcC8 (St.srH u hrC9) hcC23 (St.srH u hrC24) Y2) u λu o=>qg o (A9 o rfl) λo=>qv o (Ad o rfl rfl) λo=>qv o (Ax (Ab o rfl) (congrArg Value.bool Q1')) λo=>qg o (Ae o Dv rfl) λo=>qg o (Af o isAgg54 rfl (u.ld.cellB t2 rfl)) λo=>qg o (Ae o Dv rfl) λo=>qg o (Af o isAgg54 rfl (u.ld.cellB t3 rfl)) λo=>ls<|gy o rfl rfl<|cr o call41 (T9 (Ah _) hcC13 (St.srH u hrC14) hcC28 (St.srH u hrC29) E3) u λu o=>qg o (A9 o rfl) λo=>qv o (Ad o rfl rfl) λo=>re<|tn<|?_
 replace u:=u.pk [0,0] rfl
 exact ⟨(!D3),hm,o.hs,u⟩
 have Q1':(!X2)=true:=by rw [Q1];rfl
 refine rg<|qv o (Ae o Ca rfl) λo=>qv o (Af o isAgg3 rfl (u.ld.cellB t2 rfl)) λo=>qv o (Ae o Ca rfl) λo=>qv o (Af o isAgg3 rfl (u.ld.cellB t3 rfl)) λo=>qv o (Bh o rfl rfl) λo=>qm o rfl λo=>gr (Fk:=[(2,PT A0),(3,PT C0),(5,i6 D0),(6,PT bC1),(7,PT bC16),(57,.bool ((decide (I0≠E0)) || (decide (J0≠F0))))]) 51 6 o u ?_ ?_ ?_
 intro hb o key
 iterate 5 refine qn o λo=>?_
 exact qk o (Ac o rfl rfl) key u hb
 intro hb o key
 exact qg o (Ae o Ck rfl) λo=>qg o (Af o isAgg3 rfl (u.ld.cellB t2 rfl)) λo=>qg o (Ae o Ck rfl) λo=>qg o (Af o isAgg3 rfl (u.ld.cellB t3 rfl)) λo=>qg o (Bh o rfl rfl) λo=>qk o (Ad o rfl rfl) key u hb
 intro a w o u
 refine qm o rfl λo=>gr (Fk:=[(2,PT A0),(3,PT C0),(5,i6 D0),(6,PT bC1),(7,PT bC16),(64,.bool (((decide (I0≠E0)) || (decide (J0≠F0))) || (decide (O0≠G0))))]) 58 6 o u ?_ ?_ ?_
 intro hb o key
 iterate 5 refine qn o λo=>?_
 exact qk o (Ac o rfl rfl) key u hb
 intro hb o key
 exact qg o (Ae o Ce rfl) λo=>qg o (Af o isAgg3 rfl (u.ld.cellB t2 rfl)) λo=>qg o (Ae o Ce rfl) λo=>qg o (Af o isAgg3 rfl (u.ld.cellB t3 rfl)) λo=>qg o (Bh o rfl rfl) λo=>qk o (Ad o rfl rfl) key u hb
 intro a w o u
 refine qm o rfl λo=>gr (Fk:=[(2,PT A0),(3,PT C0),(5,i6 D0),(6,PT bC1),(7,PT bC16),(71,.bool ((((decide (I0≠E0)) || (decide (J0≠F0))) || (decide (O0≠G0))) || (decide (P0≠Q0))))]) 65 6 o u ?_ ?_ ?_
 intro hb o key
 iterate 5 refine qn o λo=>?_
 exact qk o (Ac o rfl rfl) key u hb
 intro hb o key
 exact qg o (Ae o Bq rfl) λo=>qg o (Af o isAgg3 rfl (u.ld.cellB t2 rfl)) λo=>qg o (Ae o Bq rfl) λo=>qg o (Af o isAgg3 rfl (u.ld.cellB t3 rfl)) λo=>qg o (Bh o rfl rfl) λo=>qk o (Ad o rfl rfl) key u hb
 intro a w o u
 refine qv o (Ax (Ab o rfl) (congrArg Value.bool E1)) λo=>qg o (Ae o Cv rfl) λo=>qg o (Af o isAgg54 rfl (u.ld.cellB t2 rfl)) λo=>qg o (Ae o Cv rfl) λo=>qg o (Af o isAgg54 rfl (u.ld.cellB t3 rfl)) λo=>ls<|gy o rfl rfl<|cr o call41 (T9 (Ah _) hcC8 (St.srH u hrC9) hcC23 (St.srH u hrC24) Y2) u λu o=>qg o (A9 o rfl) λo=>qv o (Ad o rfl rfl) λo=>qv o (Ax (Ab o rfl) (congrArg Value.bool Q1')) λo=>?_
 iterate 6 refine qn o λo=>?_
 refine qv o (Ac o rfl rfl) λo=>re<|tn<|?_
 replace u:=u.pk [0,0] rfl
 exact ⟨true,hm,o.hs,u⟩
 rintro a w ⟨P1,hm,o,u⟩
 unfold Z7i at hm
 rcases bit hm with ⟨R1,hm⟩ | ⟨R1,hm⟩
 refine ctv o rfl R1<|th<|rg<|qa o rfl λo=>re<|tn<|wr<|br<|tr<|tr<|br<|tr<|?_
 obtain rfl:=si hm
 exact r1 o results40 rfl ⟨rfl,u.keep⟩
 refine cfv o rfl R1<|wk<|bn<|tn<|rg<|qm o rfl λo=>qv o (An o rfl rfl) λo=>qa o rfl λo=>re<|tn<|?_
 exact ⟨(S0,(IntKind.i64.wrap (D0+1))),⟨hm,o.hs,u⟩,Nat.lt_succ_self _⟩
 refine tn<|cfv o rfl J1<|we<|tx<|tx<|bx<|tn<|?_
 replace u:=u.pickL .nil
 exact ⟨hm,o.has trivial,u⟩
 rintro a w ⟨hm,o,u⟩
 unfold Z7g at hm
 refine th<|rg<|qa o rfl λo=>re<|tn<|wr<|?_
 obtain rfl:=si hm
 exact r1 o results40 rfl ⟨rfl,u.keep⟩
set_option maxHeartbeats 4000000 in
theorem Jdf (hH:H.le w0) {cs2:List Value} {p1:api_Unit} (g3:Enc.rep H cs2 p1) {cs5:List Value} {p4:api_Unit} (g6:Enc.rep H cs5 p4) {r:Bool} (hm:Z6o N p1 p4=some r):Tot Tryz.prog 12 #[.agg cs2.toArray,.agg cs5.toArray] w0 (λv w'=>v=.bool r∧Keep Nil w0 w'):=by
 unfold Z6o at hm
 refine fn0 func12 rfl ntmps12 rfl rfl λa o=>?_
 have u:St w0 Nil [H] [] w0:=start1 hH
 have g7:Enc.rep (α:=(List Int)×Int×(List Int)×Int×(List api_Code)×api_Code×(List (List api_Op))) H cs2 (p1.Lines,p1.Stays,p1.Firsts,p1.Locks,p1.Threads,p1.Recover,p1.Claims):=g3
 obtain ⟨qz8,qz9,rfl,X3,Y3⟩:=g7
 obtain ⟨S0,F0,rfl,X1,Y1⟩:=X3
 obtain ⟨q16,q17,rfl,l3,n3⟩:=Y3
 obtain rfl:q16=[i6 p1.Stays]:=l3
 obtain ⟨q20,q21,rfl,u3,A4⟩:=n3
 obtain ⟨T0,G0,rfl,F3,G3⟩:=u3
 obtain ⟨q28,q29,rfl,B4,C4⟩:=A4
 obtain rfl:q28=[i6 p1.Locks]:=B4
 obtain ⟨q32,q33,rfl,D4,E4⟩:=C4
 obtain ⟨U0,I0,rfl,l4,u1⟩:=D4
 obtain ⟨q40,q41,rfl,F4,G4⟩:=E4
 obtain ⟨Q0,D0,rfl,I3,J3⟩:=Am F4
 obtain ⟨V0,J0,rfl,u4,B2⟩:=G4
 have I4:Enc.rep (α:=(List Int)×Int×(List Int)×Int×(List api_Code)×api_Code×(List (List api_Op))) H cs5 (p4.Lines,p4.Stays,p4.Firsts,p4.Locks,p4.Threads,p4.Recover,p4.Claims):=g6
 obtain ⟨q53,q54,rfl,J4,K4⟩:=I4
 obtain ⟨W0,K0,rfl,C2,E2⟩:=J4
 obtain ⟨q61,q62,rfl,L4,M4⟩:=K4
 obtain rfl:q61=[i6 p4.Stays]:=L4
 obtain ⟨q65,q66,rfl,O4,P4⟩:=M4
 obtain ⟨X0,M0,rfl,K3,L3⟩:=O4
 obtain ⟨q73,q74,rfl,Q4,R4⟩:=P4
 obtain rfl:q73=[i6 p4.Locks]:=Q4
 obtain ⟨q77,q78,rfl,S4,T4⟩:=R4
 obtain ⟨Y0,O0,rfl,A5,F2⟩:=S4
 obtain ⟨q85,q86,rfl,U4,V4⟩:=T4
 obtain ⟨R0,E0,rfl,M3,O3⟩:=Am U4
 obtain ⟨j0,P0,rfl,B5,G2⟩:=V4
 refine th<|rg<|ls<|Br (cs:=[SL S0 p1.Lines F0,i6 p1.Stays,SL T0 p1.Firsts G0,i6 p1.Locks,SL U0 p1.Threads I0,i6 p1.Recover.Regs,i6 p1.Recover.Counts,SL Q0 p1.Recover.L D0,SL V0 p1.Claims J0].toArray) o rfl u rfl rfl λA0 w a u o=>ls<|Br (cs:=[SL W0 p4.Lines K0,i6 p4.Stays,SL X0 p4.Firsts M0,i6 p4.Locks,SL Y0 p4.Threads O0,i6 p4.Recover.Regs,i6 p4.Recover.Counts,SL R0 p4.Recover.L E0,SL j0 p4.Claims P0].toArray) o rfl u rfl rfl λC0 w a u o=>qa o rfl λo=>re<|tn<|th<|th<|Av (λa w=>∃ (I2:Bool),(Z6p N p1 p4) I2=some r∧Fr 96 [(2,PT A0),(3,PT C0),(52,.bool I2)] a∧St w0 Nil [H] [bk A0 [SL S0 p1.Lines F0,i6 p1.Stays,SL T0 p1.Firsts G0,i6 p1.Locks,SL U0 p1.Threads I0,i6 p1.Recover.Regs,i6 p1.Recover.Counts,SL Q0 p1.Recover.L D0,SL V0 p1.Claims J0] 29,bk C0 [SL W0 p4.Lines K0,i6 p4.Stays,SL X0 p4.Firsts M0,i6 p4.Locks,SL Y0 p4.Threads O0,i6 p4.Recover.Regs,i6 p4.Recover.Counts,SL R0 p4.Recover.L E0,SL j0 p4.Claims P0] 29] w) ?_ ?_
 obtain ⟨E3,J2,hm⟩:=bs hm
 rcases bit hm with ⟨n0,hm⟩ | ⟨n0,hm⟩
 refine rg<|qv o (Ae o Cc rfl) λo=>qv o (Af o isAgg22 rfl (u.ld.cellB t1 rfl)) λo=>qv o (Ae o Cc rfl) λo=>qv o (Af o isAgg22 rfl (u.ld.cellB t0 rfl)) λo=>ls<|cr o call39 (Yu (Ah _) X1 (St.srH u Y1) C2 (St.srH u E2) J2) u λu o=>qv o (A9 o rfl) λo=>qm o rfl λo=>gr (Fk:=[(2,PT A0),(3,PT C0),(19,.bool ((!E3) || (decide (p1.Stays≠p4.Stays))))]) 13 6 o u ?_ ?_ ?_
 intro hb o key
 iterate 5 refine qn o λo=>?_
 exact qk o (Ac o rfl rfl) key u hb
 intro hb o key
 exact qg o (Ae o Cr rfl) λo=>qg o (Af o isAgg3 rfl (u.ld.cellB t1 rfl)) λo=>qg o (Ae o Cr rfl) λo=>qg o (Af o isAgg3 rfl (u.ld.cellB t0 rfl)) λo=>qg o (Bh o rfl rfl) λo=>qk o (Ad o rfl rfl) key u hb
 intro a w o u
 refine qv o (Ax (Ab o rfl) (congrArg Value.bool n0)) λo=>?_
 iterate 6 refine qn o λo=>?_
 refine qv o (Ac o rfl rfl) λo=>qm o rfl λo=>?_
 iterate 5 refine qn o λo=>?_
 refine qv o (Ac o rfl rfl) λo=>qm o rfl λo=>?_
 iterate 7 refine qn o λo=>?_
 refine qv o (Ac o rfl rfl) λo=>qm o rfl λo=>?_
 iterate 7 refine qn o λo=>?_
 refine qv o (Ac o rfl rfl) λo=>re<|tn<|?_
 replace u:=u.pk [1,0] rfl
 exact ⟨true,hm,o.hs,u⟩
 obtain ⟨u0,P3,hm⟩:=bs hm
 refine rg<|qv o (Ae o Cc rfl) λo=>qv o (Af o isAgg22 rfl (u.ld.cellB t1 rfl)) λo=>qv o (Ae o Cc rfl) λo=>qv o (Af o isAgg22 rfl (u.ld.cellB t0 rfl)) λo=>ls<|cr o call39 (Yu (Ah _) X1 (St.srH u Y1) C2 (St.srH u E2) J2) u λu o=>qv o (A9 o rfl) λo=>qm o rfl λo=>gr (Fk:=[(2,PT A0),(3,PT C0),(19,.bool ((!E3) || (decide (p1.Stays≠p4.Stays))))]) 13 6 o u ?_ ?_ ?_
 intro hb o key
 iterate 5 refine qn o λo=>?_
 exact qk o (Ac o rfl rfl) key u hb
 intro hb o key
 exact qg o (Ae o Cr rfl) λo=>qg o (Af o isAgg3 rfl (u.ld.cellB t1 rfl)) λo=>qg o (Ae o Cr rfl) λo=>qg o (Af o isAgg3 rfl (u.ld.cellB t0 rfl)) λo=>qg o (Bh o rfl rfl) λo=>qk o (Ad o rfl rfl) key u hb
 intro a w o u
 refine qv o (Ax (Ab o rfl) (congrArg Value.bool n0)) λo=>qg o (Ae o Ei rfl) λo=>qg o (Af o isAgg22 rfl (u.ld.cellB t1 rfl)) λo=>qg o (Ae o Ei rfl) λo=>qg o (Af o isAgg22 rfl (u.ld.cellB t0 rfl)) λo=>ls<|gy o rfl rfl<|cr o call39 (Yu (Ah _) F3 (St.srH u G3) K3 (St.srH u L3) P3) u λu o=>qg o (A9 o rfl) λo=>qv o (Ad o rfl rfl) λo=>qm o rfl λo=>gr (Fk:=[(2,PT A0),(3,PT C0),(34,.bool ((!u0) || (decide (p1.Locks≠p4.Locks))))]) 28 6 o u ?_ ?_ ?_
 intro hb o key
 iterate 5 refine qn o λo=>?_
 exact qk o (Ac o rfl rfl) key u hb
 intro hb o key
 exact qg o (Ae o Fa rfl) λo=>qg o (Af o isAgg3 rfl (u.ld.cellB t1 rfl)) λo=>qg o (Ae o Fa rfl) λo=>qg o (Af o isAgg3 rfl (u.ld.cellB t0 rfl)) λo=>qg o (Bh o rfl rfl) λo=>qk o (Ad o rfl rfl) key u hb
 intro a w o u
 refine qm o rfl λo=>gr (Fk:=[(2,PT A0),(3,PT C0),(43,.bool (((!u0) || (decide (p1.Locks≠p4.Locks))) || (decide ((p1.Threads.length:Int)≠(p4.Threads.length:Int)))))]) 35 8 o u ?_ ?_ ?_
 intro hb o key
 iterate 7 refine qn o λo=>?_
 exact qk o (Ac o rfl rfl) key u hb
 intro hb o key
 exact qg o (Ae o Cg rfl) λo=>qg o (Af o isAgg23 rfl (u.ld.cellB t1 rfl)) λo=>qg o (Aj (α:=api_Code) (xs:=p1.Threads) o runUnderlying23 rfl) λo=>qg o (Ae o Cg rfl) λo=>qg o (Af o isAgg23 rfl (u.ld.cellB t0 rfl)) λo=>qg o (Aj (α:=api_Code) (xs:=p4.Threads) o runUnderlying23 rfl) λo=>qg o (Bh o rfl rfl) λo=>qk o (Ad o rfl rfl) key u hb
 intro a w o u
 refine qm o rfl λo=>gr (Fk:=[(2,PT A0),(3,PT C0),(52,.bool ((((!u0) || (decide (p1.Locks≠p4.Locks))) || (decide ((p1.Threads.length:Int)≠(p4.Threads.length:Int)))) || (decide ((p1.Claims.length:Int)≠(p4.Claims.length:Int)))))]) 44 8 o u ?_ ?_ ?_
 intro hb o key
 iterate 7 refine qn o λo=>?_
 exact qk o (Ac o rfl rfl) key u hb
 intro hb o key
 exact qg o (Ae o Dm rfl) λo=>qg o (Af o isAgg27 rfl (u.ld.cellB t1 rfl)) λo=>qg o (Aj (α:=(List api_Op)) (xs:=p1.Claims) o runUnderlying27 rfl) λo=>qg o (Ae o Dm rfl) λo=>qg o (Af o isAgg27 rfl (u.ld.cellB t0 rfl)) λo=>qg o (Aj (α:=(List api_Op)) (xs:=p4.Claims) o runUnderlying27 rfl) λo=>qg o (Bh o rfl rfl) λo=>qk o (Ad o rfl rfl) key u hb
 intro a w o u
 refine re<|tn<|?_
 replace u:=u.pk [1,0] rfl
 exact ⟨((((!u0) || (decide (p1.Locks≠p4.Locks))) || (decide ((p1.Threads.length:Int)≠(p4.Threads.length:Int)))) || (decide ((p1.Claims.length:Int)≠(p4.Claims.length:Int)))),hm,o.hs,u⟩
 rintro a w ⟨I2,hm,o,u⟩
 unfold Z6p at hm
 rcases bit hm with ⟨B1,hm⟩ | ⟨B1,hm⟩
 refine ctv o rfl B1<|th<|rg<|qa o rfl λo=>re<|tn<|wr<|tr<|?_
 obtain rfl:=si hm
 exact r1 o results12 rfl ⟨rfl,u.keep⟩
 refine cfv o rfl B1<|wk<|tn<|th<|th<|rg<|qa o rfl λo=>re<|tn<|Av (λa w=>(Z6q N p1 p4)=some r∧Fr 96 [(2,PT A0),(3,PT C0)] a∧St w0 Nil [H] [bk A0 [SL S0 p1.Lines F0,i6 p1.Stays,SL T0 p1.Firsts G0,i6 p1.Locks,SL U0 p1.Threads I0,i6 p1.Recover.Regs,i6 p1.Recover.Counts,SL Q0 p1.Recover.L D0,SL V0 p1.Claims J0] 29,bk C0 [SL W0 p4.Lines K0,i6 p4.Stays,SL X0 p4.Firsts M0,i6 p4.Locks,SL Y0 p4.Threads O0,i6 p4.Recover.Regs,i6 p4.Recover.Counts,SL R0 p4.Recover.L E0,SL j0 p4.Claims P0] 29] w) ?_ ?_
 refine wb<|lp (α:=Nat×Int) (λgh a w=>match gh with | (O1,U1)=>(Z6s N (Z6q N p1 p4) p1 p4) O1 U1=some r∧Fr 96 [(2,PT A0),(3,PT C0),(5,i6 U1)] a∧St w0 Nil [H] [bk A0 [SL S0 p1.Lines F0,i6 p1.Stays,SL T0 p1.Firsts G0,i6 p1.Locks,SL U0 p1.Threads I0,i6 p1.Recover.Regs,i6 p1.Recover.Counts,SL Q0 p1.Recover.L D0,SL V0 p1.Claims J0] 29,bk C0 [SL W0 p4.Lines K0,i6 p4.Stays,SL X0 p4.Firsts M0,i6 p4.Locks,SL Y0 p4.Threads O0,i6 p4.Recover.Regs,i6 p4.Recover.Counts,SL R0 p4.Recover.L E0,SL j0 p4.Claims P0] 29] w) (λgh=>gh.1) (N,0) ⟨hm,o.hs,u⟩ ?_
 rintro ⟨O1,U1⟩ a w ⟨hm,o,u⟩
 obtain _ | O1:=O1
 simp [Z6s] at hm
 rw [Z6s] at hm
 refine th<|th<|rg<|qm o rfl λo=>qv o (Ae o Cg rfl) λo=>qv o (Af o isAgg23 rfl (u.ld.cellB t0 rfl)) λo=>qv o (Aj (α:=api_Code) (xs:=p1.Threads) o runUnderlying23 rfl) λo=>qv o (Ak o rfl rfl) λo=>re<|?_
 rcases bip hm with ⟨C1,hm⟩ | ⟨C1,hm⟩
 refine tn<|ctv o rfl C1<|wk<|tn<|th<|wb<|th<|?_
 obtain ⟨D1,Q1,hm⟩:=bs hm
 obtain ⟨C5,Q3,P2⟩:=SR.get u1 Q1
 obtain ⟨Q2,K2,rfl,R2,T2⟩:=Am Q3
 obtain ⟨E1,R1,hm⟩:=bs hm
 obtain ⟨D5,R3,U2⟩:=SR.get F2 R1
 obtain ⟨V2,O2,rfl,W2,X2⟩:=Am R3
 obtain ⟨E5,S3,hm⟩:=bs hm
 refine rdS 12 u wide λw u=>dr 0 u o rfl (Ae o Cg rfl) λo=>dq 1 u.ld o rfl (λw hl=>Af o isAgg23 rfl (hl.cellB t0 rfl)) λo=>dr 2 u o rfl (Ab o rfl) λo=>dr 3 u o rfl (Al o runUnderlying23 sizeOf26 rfl rfl Q1 (SR.oaI u1 (by decide) Q1)) λo=>dq 4 u.ld o rfl (λw hl=>Ar o isAgg26 sizeOf26 rfl rfl (λj v hj=>PH.le.cell (Lds.le hl) (P2 j v hj))) λo=>dr 5 u o rfl (Ae o Cg rfl) λo=>dq 6 u.ld o rfl (λw hl=>Af o isAgg23 rfl (hl.cellB t1 rfl)) λo=>dr 7 u o rfl (Ab o rfl) λo=>dr 8 u o rfl (Al o runUnderlying23 sizeOf26 rfl rfl R1 (SR.oaI F2 (by decide) R1)) λo=>dq 9 u.ld o rfl (λw hl=>Ar o isAgg26 sizeOf26 rfl rfl (λj v hj=>PH.le.cell (Lds.le hl) (U2 j v hj))) λo=>da1 (i:=10) (by kernel_rfl) ?_
 refine di (i:=10) rfl<|cr o call40 (Jbc (Ah _) (Enc.mono (St.up u) (show Enc.rep (α:=api_Code) H [i6 D1.Regs,i6 D1.Counts,SL Q2 D1.L K2] D1 from ⟨_,_,rfl,rfl,⟨_,_,rfl,rfl,⟨_,_,rfl,R2,T2⟩⟩⟩)) (Enc.mono (St.up u) (show Enc.rep (α:=api_Code) H [i6 E1.Regs,i6 E1.Counts,SL V2 E1.L O2] E1 from ⟨_,_,rfl,rfl,⟨_,_,rfl,rfl,⟨_,_,rfl,W2,X2⟩⟩⟩)) S3) u λu o=>⟨λ_=>u.ld,?_⟩
 refine dr 11 u o rfl (A9 o rfl) λo=>de (by kernel_rfl)<|?_
 rcases bit hm with ⟨F1,hm⟩ | ⟨F1,hm⟩
 refine tn<|cfv o rfl (by rw [F1];rfl)<|wk<|bn<|tn<|rg<|qm o rfl λo=>qv o (An o rfl rfl) λo=>qa o rfl λo=>re<|tn<|?_
 exact ⟨(O1,(IntKind.i64.wrap (U1+1))),⟨hm,o.hs,u⟩,Nat.lt_succ_self _⟩
 refine tn<|ctv o rfl (by rw [F1];rfl)<|th<|rg<|qa o rfl λo=>re<|tn<|wr<|br<|tr<|tr<|br<|tr<|?_
 obtain rfl:=si hm
 exact r1 o results12 rfl ⟨rfl,u.keep⟩
 refine tn<|cfv o rfl C1<|we<|tx<|tx<|bx<|tn<|?_
 exact ⟨hm,o.has ⟨rfl,rfl,trivial⟩,u⟩
 rintro a w ⟨hm,o,u⟩
 unfold Z6q at hm
 refine th<|th<|rg<|qa o rfl λo=>re<|tn<|Av (λa w=>(Z6r N p1 p4)=some r∧Fr 96 [(2,PT A0),(3,PT C0)] a∧St w0 Nil [H] [bk A0 [SL S0 p1.Lines F0,i6 p1.Stays,SL T0 p1.Firsts G0,i6 p1.Locks,SL U0 p1.Threads I0,i6 p1.Recover.Regs,i6 p1.Recover.Counts,SL Q0 p1.Recover.L D0,SL V0 p1.Claims J0] 29,bk C0 [SL W0 p4.Lines K0,i6 p4.Stays,SL X0 p4.Firsts M0,i6 p4.Locks,SL Y0 p4.Threads O0,i6 p4.Recover.Regs,i6 p4.Recover.Counts,SL R0 p4.Recover.L E0,SL j0 p4.Claims P0] 29] w) ?_ ?_
 refine wb<|lp (α:=Nat×Int) (λgh a w=>match gh with | (P1,V1)=>(Z6t N (Z6r N p1 p4) p1 p4) P1 V1=some r∧Fr 96 [(2,PT A0),(3,PT C0),(6,i6 V1)] a∧St w0 Nil [H] [bk A0 [SL S0 p1.Lines F0,i6 p1.Stays,SL T0 p1.Firsts G0,i6 p1.Locks,SL U0 p1.Threads I0,i6 p1.Recover.Regs,i6 p1.Recover.Counts,SL Q0 p1.Recover.L D0,SL V0 p1.Claims J0] 29,bk C0 [SL W0 p4.Lines K0,i6 p4.Stays,SL X0 p4.Firsts M0,i6 p4.Locks,SL Y0 p4.Threads O0,i6 p4.Recover.Regs,i6 p4.Recover.Counts,SL R0 p4.Recover.L E0,SL j0 p4.Claims P0] 29] w) (λgh=>gh.1) (N,0) ⟨hm,o.hs,u⟩ ?_
 rintro ⟨P1,V1⟩ a w ⟨hm,o,u⟩
 obtain _ | P1:=P1
 simp [Z6t] at hm
 rw [Z6t] at hm
 refine th<|th<|rg<|qm o rfl λo=>qv o (Ae o Dm rfl) λo=>qv o (Af o isAgg27 rfl (u.ld.cellB t0 rfl)) λo=>qv o (Aj (α:=(List api_Op)) (xs:=p1.Claims) o runUnderlying27 rfl) λo=>qv o (Ak o rfl rfl) λo=>re<|?_
 rcases bip hm with ⟨I1,hm⟩ | ⟨I1,hm⟩
 refine tn<|ctv o rfl I1<|wk<|tn<|th<|wb<|th<|?_
 obtain ⟨F5,S1,hm⟩:=bs hm
 obtain ⟨G5,T3,Y2⟩:=SR.get B2 S1
 obtain ⟨Y4,W4,rfl,u2,A3⟩:=T3
 obtain ⟨I5,T1,hm⟩:=bs hm
 obtain ⟨J5,U3,B3⟩:=SR.get G2 T1
 obtain ⟨d4,X4,rfl,C3,D3⟩:=U3
 obtain ⟨K5,V3,hm⟩:=bs hm
 refine rdS 12 u wide λw u=>dr 0 u o rfl (Ae o Dm rfl) λo=>dq 1 u.ld o rfl (λw hl=>Af o isAgg27 rfl (hl.cellB t0 rfl)) λo=>dr 2 u o rfl (Ab o rfl) λo=>dr 3 u o rfl (Al o runUnderlying27 sizeOf54 rfl rfl S1 (SR.oaI B2 (by decide) S1)) λo=>dq 4 u.ld o rfl (λw hl=>Af o isAgg54 rfl (PH.le.cell (Lds.le hl) (Y2 0 _ rfl))) λo=>dr 5 u o rfl (Ae o Dm rfl) λo=>dq 6 u.ld o rfl (λw hl=>Af o isAgg27 rfl (hl.cellB t1 rfl)) λo=>dr 7 u o rfl (Ab o rfl) λo=>dr 8 u o rfl (Al o runUnderlying27 sizeOf54 rfl rfl T1 (SR.oaI G2 (by decide) T1)) λo=>dq 9 u.ld o rfl (λw hl=>Af o isAgg54 rfl (PH.le.cell (Lds.le hl) (B3 0 _ rfl))) λo=>da1 (i:=10) (by kernel_rfl) ?_
 refine di (i:=10) rfl<|cr o call41 (T9 (Ah _) u2 (St.srH u A3) C3 (St.srH u D3) V3) u λu o=>⟨λ_=>u.ld,?_⟩
 refine dr 11 u o rfl (A9 o rfl) λo=>de (by kernel_rfl)<|?_
 rcases bit hm with ⟨J1,hm⟩ | ⟨J1,hm⟩
 refine tn<|cfv o rfl (by rw [J1];rfl)<|wk<|bn<|tn<|rg<|qm o rfl λo=>qv o (An o rfl rfl) λo=>qa o rfl λo=>re<|tn<|?_
 exact ⟨(P1,(IntKind.i64.wrap (V1+1))),⟨hm,o.hs,u⟩,Nat.lt_succ_self _⟩
 refine tn<|ctv o rfl (by rw [J1];rfl)<|th<|rg<|qa o rfl λo=>re<|tn<|wr<|br<|tr<|tr<|br<|tr<|?_
 obtain rfl:=si hm
 exact r1 o results12 rfl ⟨rfl,u.keep⟩
 refine tn<|cfv o rfl I1<|we<|tx<|tx<|bx<|tn<|?_
 exact ⟨hm,o.has ⟨rfl,rfl,trivial⟩,u⟩
 rintro a w ⟨hm,o,u⟩
 unfold Z6r at hm
 refine th<|?_
 obtain ⟨L5,W3,hm⟩:=bs hm
 refine rg<|qv o (Ae o Hk rfl) λo=>qv o (Ar o isAgg26 sizeOf26 rfl rfl (Lds.cellsP (pre:=[SL S0 p1.Lines F0,i6 p1.Stays,SL T0 p1.Firsts G0,i6 p1.Locks,SL U0 p1.Threads I0]) (vs:=[i6 p1.Recover.Regs,i6 p1.Recover.Counts,SL Q0 p1.Recover.L D0]) (post:=[SL V0 p1.Claims J0]) u.ld t0)) λo=>qv o (Ae o Hk rfl) λo=>qv o (Ar o isAgg26 sizeOf26 rfl rfl (Lds.cellsP (pre:=[SL W0 p4.Lines K0,i6 p4.Stays,SL X0 p4.Firsts M0,i6 p4.Locks,SL Y0 p4.Threads O0]) (vs:=[i6 p4.Recover.Regs,i6 p4.Recover.Counts,SL R0 p4.Recover.L E0]) (post:=[SL j0 p4.Claims P0]) u.ld t1)) λo=>ls<|cr o call40 (Jbc (Ah _) (Enc.mono (St.up u) (show Enc.rep (α:=api_Code) H [i6 p1.Recover.Regs,i6 p1.Recover.Counts,SL Q0 p1.Recover.L D0] p1.Recover from ⟨_,_,rfl,rfl,⟨_,_,rfl,rfl,⟨_,_,rfl,I3,J3⟩⟩⟩)) (Enc.mono (St.up u) (show Enc.rep (α:=api_Code) H [i6 p4.Recover.Regs,i6 p4.Recover.Counts,SL R0 p4.Recover.L E0] p4.Recover from ⟨_,_,rfl,rfl,⟨_,_,rfl,rfl,⟨_,_,rfl,M3,O3⟩⟩⟩)) W3) u λu o=>qa o rfl λo=>re<|tn<|wr<|?_
 obtain rfl:=si hm
 exact r1 o results12 rfl ⟨rfl,u.keep⟩
theorem Jcx (hH:H.le w0) (hT:Tab H) {p1:Int} {r:Str} (hm:Zg N p1=some r):Tot Tryz.prog 17 #[i6 p1] w0 (λv w'=>v=Ag r∧Keep Nil w0 w'):=by
 unfold Zg at hm
 refine fn0 func17 rfl ntmps17 rfl rfl λa o=>?_
 have u:St w0 Nil [H] [] w0:=start1 hH
 refine th<|rg<|qa o rfl λo=>re<|tn<|th<|th<|rg<|qm o rfl λo=>qv o (Ak o rfl rfl) λo=>qm o rfl λo=>gr (Fk:=[(0,i6 p1),(8,.bool ((decide (p1 < 1)) || (decide (16≤p1))))]) 5 3 o u ?_ ?_ ?_
 intro hb o key
 iterate 2 refine qn o λo=>?_
 exact qk o (Ac o rfl rfl) key u hb
 intro hb o key
 exact qg o (Ab o rfl) λo=>qg o (Bo o rfl rfl) λo=>qk o (Ad o rfl rfl) key u hb
 intro a w o u
 refine re<|?_
 rcases bit hm with ⟨C0,hm⟩ | ⟨C0,hm⟩
 refine tn<|ctv o rfl C0<|th<|rg<|qa o rfl λo=>re<|tn<|wr<|tr<|?_
 obtain rfl:=si hm
 exact r1 o results17 rfl ⟨rfl,u.keep⟩
 refine tn<|cfv o rfl C0<|wk<|tn<|th<|?_
 obtain ⟨K0,h4,hm⟩:=bs hm
 obtain ⟨F0,D0,hm⟩:=bs hm
 refine rg<|ls<|c1 o rfl Tryz.call49 (Jdu (Ah _) (Tab.mono hT (St.up u)) h4) ⟨rfl,trivial⟩ (λv w a hR o=>?_)
 obtain ⟨M0,J0,O0,rfl,A0,hk⟩:=hR
 replace u:=u.fresh hk
 replace A0:=A0 H
 refine qm o rfl λo=>qv o (En o rfl rfl) λo=>qv o (Al o runUnderlying92 sizeOf9 rfl rfl D0 (Rd.oaI (u.ld.rdO t0) A0 (by decide) D0)) λo=>?_
 obtain ⟨G0,I0,E0⟩:=Rows.getI A0 D0
 obtain rfl:G0=[Ag F0]:=I0
 refine qv o (Af o isAgg9 rfl (u.ld.elO t0 (E0 0 _ rfl))) λo=>qa o rfl λo=>re<|tn<|wr<|?_
 obtain rfl:=si hm
 exact r1 o results17 rfl ⟨rfl,u.keep⟩
theorem Na (hH:H.le w0) (hT:Tab H) {p1:Int} {r:Str} (hm:Za5 N p1=some r):Tot Tryz.prog 45 #[i6 p1] w0 (λv w'=>v=Ag r∧Keep Nil w0 w'):=by
 unfold Za5 at hm
 refine fn0 func45 rfl ntmps45 rfl rfl λa o=>?_
 have u:St w0 Nil [H] [] w0:=start1 hH
 refine th<|rg<|qa o rfl λo=>re<|tn<|th<|?_
 obtain ⟨A0,h3,hm⟩:=bs hm
 refine rg<|qm o rfl λo=>ls<|cr o call80 (JaH (Ah _) (Tab.mono hT (St.up u)) h3) u λu o=>qa o rfl λo=>re<|tn<|wr<|?_
 obtain rfl:=si hm
 exact r1 o results45 rfl ⟨rfl,u.keep⟩
theorem JcA (hH:H.le w0) (hT:Tab H) {j0:Option Addr} {I0:Nat} {p1:(List api_Op)} (Y2:p1.length≤I0) (E1:SR H j0 p1) {r:Str} (hm:Zz N p1=some r):Tot Tryz.prog 46 #[SL j0 p1 I0] w0 (λv w'=>v=Ag r∧Keep Nil w0 w'):=by
 unfold Zz at hm
 refine fn0 func46 rfl ntmps46 rfl rfl λa o=>?_
 have u:St w0 Nil [H] [] w0:=start1 hH
 refine th<|rg<|qa o rfl λo=>re<|tn<|th<|th<|rg<|qm o rfl λo=>qv o (Aj (α:=api_Op) (xs:=p1) o runUnderlying54 rfl) λo=>qv o (Aq o rfl rfl) λo=>re<|?_
 rcases bip hm with ⟨n0,hm⟩ | ⟨n0,hm⟩
 refine tn<|ctv o rfl n0<|th<|rg<|qa o rfl λo=>re<|tn<|wr<|tr<|?_
 obtain rfl:=si hm
 exact r1 o results46 rfl ⟨rfl,u.keep⟩
 refine tn<|cfv o rfl n0<|wk<|tn<|th<|rg<|qa o rfl λo=>re<|tn<|th<|th<|rg<|qm o rfl λo=>qv o (Aj (α:=api_Op) (xs:=p1) o runUnderlying54 rfl) λo=>qm o rfl λo=>re<|tn<|Av (λa w=>∃ (R0:(List Str)) (V0:Option Addr) (J0:Nat) (W0:List Value),Z10 R0=some r∧Fr 47 [(3,SL V0 R0 J0)] a∧St w0 Nil [H] [sla 9 1 V0 R0.length J0 W0] w∧Rows H W0 R0) ?_ ?_
 replace u:=u.nilS 9 1
 refine wb<|lp (α:=Nat×(List Str)×Int) (λgh a w=>match gh with | (E0,A0,F0)=>∃ (K0:Option Addr) (C0:Nat) (M0:List Value),(Z12 N Z10 p1) E0 A0 F0=some r∧Fr 47 [(3,SL K0 A0 C0),(9,SL j0 p1 I0),(10,i6 (p1.length:Int)),(11,i6 F0)] a∧St w0 Nil [H] [sla 9 1 K0 A0.length C0 M0] w∧Rows H M0 A0) (λgh=>gh.1) (N,[],0) ⟨none,0,[],hm,o.hs,u,.nil⟩ ?_
 rintro ⟨E0,A0,F0⟩ a w ⟨K0,C0,M0,hm,o,u,O0⟩
 obtain _ | E0:=E0
 simp [Z12] at hm
 rw [Z12] at hm
 refine th<|rg<|qv o (Ak o rfl rfl) λo=>re<|?_
 rcases bip hm with ⟨u0,hm⟩ | ⟨u0,hm⟩
 refine tn<|th<|ctv o rfl u0<|wk<|tn<|th<|Av (λa w=>∃ (G0:(List Str)) (P0:Option Addr) (D0:Nat) (Q0:List Value),(Z11 (Z12 N Z10 p1 E0) F0) G0=some r∧Fr 47 [(3,SL P0 G0 D0),(9,SL j0 p1 I0),(10,i6 (p1.length:Int)),(11,i6 F0)] a∧St w0 Nil [H] [sla 9 1 P0 G0.length D0 Q0] w∧Rows H Q0 G0) ?_ ?_
 refine wb<|th<|?_
 obtain ⟨u2,h9,hm⟩:=bs hm
 obtain ⟨A3,C2,F1⟩:=SR.get E1 h9
 obtain rfl:=Cs C2
 refine rg<|qv o (Al o Tryz.runUnderlying54 Tryz.sizeOf83 rfl rfl h9 (SR.oaI E1 (by decide) h9)) λo=>qv o (Ar o isAgg83 sizeOf83 rfl rfl (λj v hj=>PH.le.cell (Lds.le u.ld) (F1 j v hj))) λo=>ls<|As (cs:=[i6 0,i6 0].toArray) o rfl u zeroValue83 rfl λB3 w a u o=>ls<|Bb o u sizeOf83 rfl rfl rfl rfl (Ao rfl) .head λw u=>re<|tn<|th<|rg<|qv o (Ae o Eb rfl) λo=>qv o (Af o isAgg3 rfl (u.ld.cellB t0 rfl)) λo=>re<|tn<|wb<|th<|rg<|qv o (Aq o rfl rfl) λo=>qa o rfl λo=>re<|?_
 rcases bip hm with ⟨X0,hm⟩ | ⟨X0,hm⟩
 refine tn<|ctv o rfl X0<|?_
 obtain ⟨C3,E2,hm⟩:=bs hm
 obtain ⟨S0,F2,hm⟩:=bs hm
 obtain ⟨G2,I2,hm⟩:=bs hm
 refine rg<|qm o rfl λo=>qv o (Ae o F8 rfl) λo=>qv o (Af o isAgg3 rfl (u.ld.cellB t0 rfl)) λo=>ls<|cr o call45 (Na (Ah _) (Tab.mono hT (St.up u)) E2) u λu o=>qv o (Bi o rfl rfl F2) λo=>ls<|Bj (e:=9) (sz:=1) [Ag S0] o rfl u rfl rfl rfl (λw=>by kernel_rfl) λD3 w a u o=>?_
 have I1:Rows (α:=Str) H [Ag S0] ([S0]:List Str):=(.cons (c:=[Ag S0]) rfl .nil)
 refine ls<|Bv (α:=Str) (xs:=A0) (ys:=([S0]:List Str)) o rfl u underlying92 Qh rfl (by decide) rfl rfl rfl t2 O0 (u.rdO t0) I1 I2 λJ1 B1 O1 w a P1 hU o=>?_
 replace u:=hU _ (.tail (.tail .head))
 replace u:=u.drop .head
 refine qa o rfl λo=>re<|bn<|bn<|tn<|?_
 replace u:=u.pk [1] rfl
 exact ⟨G2,J1,B1,O1,hm,o.hs,u,P1⟩
 refine tn<|cfv o rfl X0<|th<|rg<|qv o (Aq o rfl rfl) λo=>qa o rfl λo=>re<|?_
 rcases bip hm with ⟨Y0,hm⟩ | ⟨Y0,hm⟩
 refine tn<|ctv o rfl Y0<|?_
 obtain ⟨E3,J2,hm⟩:=bs hm
 obtain ⟨T0,K2,hm⟩:=bs hm
 obtain ⟨O2,P2,hm⟩:=bs hm
 refine rg<|qm o rfl λo=>qv o (Ae o F8 rfl) λo=>qv o (Af o isAgg3 rfl (u.ld.cellB t0 rfl)) λo=>ls<|cr o call45 (Na (Ah _) (Tab.mono hT (St.up u)) J2) u λu o=>qv o (Bi o rfl rfl K2) λo=>ls<|Bj (e:=9) (sz:=1) [Ag T0] o rfl u rfl rfl rfl (λw=>by kernel_rfl) λF3 w a u o=>?_
 have Q1:Rows (α:=Str) H [Ag T0] ([T0]:List Str):=(.cons (c:=[Ag T0]) rfl .nil)
 refine ls<|Bv (α:=Str) (xs:=A0) (ys:=([T0]:List Str)) o rfl u underlying92 Qh rfl (by decide) rfl rfl rfl t2 O0 (u.rdO t0) Q1 P2 λR1 C1 S1 w a T1 hU o=>?_
 replace u:=hU _ (.tail (.tail .head))
 replace u:=u.drop .head
 refine qa o rfl λo=>re<|bn<|bn<|tn<|?_
 replace u:=u.pk [1] rfl
 exact ⟨O2,R1,C1,S1,hm,o.hs,u,T1⟩
 refine tn<|cfv o rfl Y0<|?_
 obtain ⟨G3,Q2,hm⟩:=bs hm
 obtain ⟨U0,R2,hm⟩:=bs hm
 obtain ⟨T2,U2,hm⟩:=bs hm
 refine rg<|qm o rfl λo=>qv o (Ae o Eb rfl) λo=>qv o (Af o isAgg3 rfl (u.ld.cellB t0 rfl)) λo=>ls<|cr o call45 (Na (Ah _) (Tab.mono hT (St.up u)) Q2) u λu o=>qv o (Bi o rfl rfl R2) λo=>ls<|Bj (e:=9) (sz:=1) [Ag U0] o rfl u rfl rfl rfl (λw=>by kernel_rfl) λI3 w a u o=>?_
 have U1:Rows (α:=Str) H [Ag U0] ([U0]:List Str):=(.cons (c:=[Ag U0]) rfl .nil)
 refine ls<|Bv (α:=Str) (xs:=A0) (ys:=([U0]:List Str)) o rfl u underlying92 Qh rfl (by decide) rfl rfl rfl t2 O0 (u.rdO t0) U1 U2 λV1 D1 X1 w a Y1 hU o=>?_
 replace u:=hU _ (.tail (.tail .head))
 replace u:=u.drop .head
 refine qa o rfl λo=>re<|bn<|bn<|tn<|?_
 replace u:=u.pk [1] rfl
 exact ⟨T2,V1,D1,X1,hm,o.hs,u,Y1⟩
 rintro a w ⟨G0,P0,D0,Q0,hm,o,u,u1⟩
 unfold Z11 at hm
 refine rg<|qv o (An o rfl rfl) λo=>qm o rfl λo=>re<|tn<|?_
 exact ⟨(E0,G0,(IntKind.i64.wrap (F0+1))),⟨P0,D0,Q0,hm,o.hs,u,u1⟩,Nat.lt_succ_self _⟩
 refine tn<|th<|cfv o rfl u0<|we<|tx<|tx<|bx<|tn<|?_
 exact ⟨A0,K0,C0,M0,hm,o.has ⟨rfl,trivial⟩,u,O0⟩
 rintro a w ⟨R0,V0,J0,W0,hm,o,u,B2⟩
 unfold Z10 at hm
 refine th<|?_
 obtain ⟨J3,V2,hm⟩:=bs hm
 obtain ⟨K3,W2,hm⟩:=bs hm
 obtain ⟨L3,X2,hm⟩:=bs hm
 refine rg<|qm o rfl λo=>ls<|cr o call81 (JaL (Ah _) (St.capO u t0) (St.srO u t0 B2) V2) u λu o=>qv o (Bi o rfl rfl W2) λo=>qv o (Bi o rfl rfl X2) λo=>qa o rfl λo=>re<|tn<|wr<|?_
 obtain rfl:=si hm
 exact r1 o results46 rfl ⟨rfl,u.keep⟩
theorem JdB (hH:H.le w0) (hT:Tab H) {cs2:List Value} {p1:api_Code} (g3:Enc.rep H cs2 p1) {r:Str} (hm:Zd N p1=some r):Tot Tryz.prog 15 #[.agg cs2.toArray] w0 (λv w'=>v=Ag r∧Keep Nil w0 w'):=by
 unfold Zd at hm
 refine fn0 func15 rfl ntmps15 rfl rfl λa o=>?_
 have u:St w0 Nil [H] [] w0:=start1 hH
 obtain ⟨Q0,J0,rfl,F2,R0⟩:=Am g3
 refine th<|rg<|ls<|Br (cs:=[i6 p1.Regs,i6 p1.Counts,SL Q0 p1.L J0].toArray) o rfl u rfl rfl λb8 w a u o=>qa o rfl λo=>re<|tn<|th<|rg<|ls<|As (cs:=[.pointer none,.slice none 0 0].toArray) o rfl u Tryz.zeroValue58 rfl λb9 w a u o=>?_
 replace u:=u.bld0 (e:=5)
 refine re<|tn<|th<|th<|rg<|qv o (Ae o Ch rfl) λo=>qv o (Af o isAgg24 rfl (u.ld.cellB t1 rfl)) λo=>qv o (Aj (α:=api_Instr) (xs:=p1.L) o runUnderlying24 rfl) λo=>qm o rfl λo=>re<|tn<|Av (λa w=>∃ (K0:Str) (M0:Option Addr) (F0:Nat) (vpA4:Value),Ze K0=some r∧Fr 48 [(3,PT b9)] a∧St w0 Nil [H] [bldA 58 5 b9 vpA4 M0 F0 K0] w∧BP b9 vpA4) ?_ ?_
 replace u:=u.pk [0] rfl
 refine wb<|lp (α:=Nat×Str×Int) (λgh a w=>match gh with | (C0,G0,I0)=>∃ (D0:Option Addr) (A0:Nat) (vpB4:Value),(Zf N Ze p1) C0 G0 I0=some r∧Fr 48 [(3,PT b9),(7,SL Q0 p1.L J0),(8,i6 (p1.L.length:Int)),(9,i6 I0)] a∧St w0 Nil [H] [bldA 58 5 b9 vpB4 D0 A0 G0] w∧BP b9 vpB4) (λgh=>gh.1) (N,[],0) ⟨none,0,(.pointer none),hm,o.hs,u,(.inl rfl)⟩ ?_
 rintro ⟨C0,G0,I0⟩ a w ⟨D0,A0,vpB4,hm,o,u,hbB5⟩
 obtain _ | C0:=C0
 simp [Zf] at hm
 rw [Zf] at hm
 refine th<|rg<|qv o (Ak o rfl rfl) λo=>re<|?_
 rcases bip hm with ⟨E0,hm⟩ | ⟨E0,hm⟩
 refine tn<|th<|ctv o rfl E0<|wk<|tn<|th<|wb<|th<|?_
 obtain ⟨G2,O0,hm⟩:=bs hm
 obtain ⟨I2,Y0,S0⟩:=SR.get R0 O0
 obtain ⟨C2,u1,E2,B2,rfl,T0,U0,V0,W0⟩:=Au Y0
 refine rg<|qm o rfl λo=>qv o (Al o runUnderlying24 sizeOf85 rfl rfl O0 (SR.oaI R0 (by decide) O0)) λo=>qv o (Ar o isAgg85 sizeOf85 rfl rfl (λj v hj=>PH.le.cell (Lds.le u.ld) (S0 j v hj))) λo=>ls<|As (cs:=[i6 0,i6 0,i6 0,.slice none 0 0,.slice none 0 0,i6 0].toArray) o rfl u zeroValue85 rfl λJ2 w a u o=>qa o rfl λo=>ls<|Bb o u sizeOf85 rfl rfl rfl rfl (Ao rfl) .head λw u=>re<|tn<|?_
 obtain ⟨K2,j0,hm⟩:=bs hm
 obtain ⟨O2,n0,hm⟩:=bs hm
 obtain ⟨P2,u0,hm⟩:=bs hm
 obtain ⟨Q2,B1,hm⟩:=bs hm
 obtain ⟨R2,C1,hm⟩:=bs hm
 obtain ⟨T2,D1,hm⟩:=bs hm
 obtain ⟨U2,E1,hm⟩:=bs hm
 obtain ⟨V2,F1,hm⟩:=bs hm
 obtain ⟨W2,I1,hm⟩:=bs hm
 obtain ⟨X2,J1,hm⟩:=bs hm
 obtain ⟨Y2,O1,hm⟩:=bs hm
 obtain ⟨u2,P1,hm⟩:=bs hm
 obtain ⟨A3,Q1,hm⟩:=bs hm
 obtain ⟨B3,R1,hm⟩:=bs hm
 obtain ⟨C3,S1,hm⟩:=bs hm
 obtain ⟨D3,T1,hm⟩:=bs hm
 obtain ⟨E3,U1,hm⟩:=bs hm
 obtain ⟨F3,V1,hm⟩:=bs hm
 obtain ⟨X1,Y1,hm⟩:=bs hm
 refine rdL (Aa t0 Ai) 32 u wide λw u=>ds 0 (St.ldsX u i2 (Aa t0 Ai)) o rfl (Ab o rfl) λo=>ds 3 (St.ldsX u i2 (Aa t0 Ai)) o rfl (Ae o Ca rfl) λo=>dq 4 (St.ldsX u i2 (Aa t0 Ai)) o rfl (λw hl=>Af o isAgg3 rfl (hl.cellB t0 rfl)) λo=>ds 8 (St.ldsX u i2 (Aa t0 Ai)) o rfl (Ae o Ck rfl) λo=>dq 9 (St.ldsX u i2 (Aa t0 Ai)) o rfl (λw hl=>Af o isAgg3 rfl (hl.cellB t0 rfl)) λo=>ds 13 (St.ldsX u i2 (Aa t0 Ai)) o rfl (Ae o Ce rfl) λo=>dq 14 (St.ldsX u i2 (Aa t0 Ai)) o rfl (λw hl=>Af o isAgg3 rfl (hl.cellB t0 rfl)) λo=>ds 18 (St.ldsX u i2 (Aa t0 Ai)) o rfl (Ae o Bq rfl) λo=>dq 19 (St.ldsX u i2 (Aa t0 Ai)) o rfl (λw hl=>Af o isAgg3 rfl (hl.cellB t0 rfl)) λo=>ds 22 (St.ldsX u i2 (Aa t0 Ai)) o rfl (Ae o Cv rfl) λo=>dq 23 (St.ldsX u i2 (Aa t0 Ai)) o rfl (λw hl=>Af o isAgg54 rfl (hl.cellB t0 rfl)) λo=>ds 26 (St.ldsX u i2 (Aa t0 Ai)) o rfl (Ae o Dv rfl) λo=>dq 27 (St.ldsX u i2 (Aa t0 Ai)) o rfl (λw hl=>Af o isAgg54 rfl (hl.cellB t0 rfl)) λo=>da1 (i:=1) (by kernel_rfl) ?_
 refine di (i:=1) rfl<|cr o call45 (Na (Ah _) (Tab.mono hT (St.up u)) j0) u λu o=>⟨λ_=>(St.ldsX u i2 (Aa t0 Ai)),?_⟩
 refine ds 2 (St.ldsX u i2 (Aa t0 Ai)) o rfl (Bi o rfl rfl n0) λo=>da1 (i:=5) (by kernel_rfl) ?_
 refine di (i:=5) rfl<|cr o call17 (Jcx (Ah _) (Tab.mono hT (St.up u)) u0) u λu o=>⟨λ_=>(St.ldsX u i2 (Aa t0 Ai)),?_⟩
 refine ds 6 (St.ldsX u i2 (Aa t0 Ai)) o rfl (Bi o rfl rfl B1) λo=>ds 7 (St.ldsX u i2 (Aa t0 Ai)) o rfl (Bi o rfl rfl C1) λo=>da1 (i:=10) (by kernel_rfl) ?_
 refine di (i:=10) rfl<|cr o call45 (Na (Ah _) (Tab.mono hT (St.up u)) D1) u λu o=>⟨λ_=>(St.ldsX u i2 (Aa t0 Ai)),?_⟩
 refine ds 11 (St.ldsX u i2 (Aa t0 Ai)) o rfl (Bi o rfl rfl E1) λo=>ds 12 (St.ldsX u i2 (Aa t0 Ai)) o rfl (Bi o rfl rfl F1) λo=>da1 (i:=15) (by kernel_rfl) ?_
 refine di (i:=15) rfl<|cr o call45 (Na (Ah _) (Tab.mono hT (St.up u)) I1) u λu o=>⟨λ_=>(St.ldsX u i2 (Aa t0 Ai)),?_⟩
 refine ds 16 (St.ldsX u i2 (Aa t0 Ai)) o rfl (Bi o rfl rfl J1) λo=>ds 17 (St.ldsX u i2 (Aa t0 Ai)) o rfl (Bi o rfl rfl O1) λo=>da1 (i:=20) (by kernel_rfl) ?_
 refine di (i:=20) rfl<|cr o call45 (Na (Ah _) (Tab.mono hT (St.up u)) P1) u λu o=>⟨λ_=>(St.ldsX u i2 (Aa t0 Ai)),?_⟩
 refine ds 21 (St.ldsX u i2 (Aa t0 Ai)) o rfl (Bi o rfl rfl Q1) λo=>da1 (i:=24) (by kernel_rfl) ?_
 refine di (i:=24) rfl<|cr o call46 (JcA (Ah _) (Tab.mono hT (St.up u)) T0 (St.srH u U0) R1) u λu o=>⟨λ_=>(St.ldsX u i2 (Aa t0 Ai)),?_⟩
 refine ds 25 (St.ldsX u i2 (Aa t0 Ai)) o rfl (Bi o rfl rfl S1) λo=>da1 (i:=28) (by kernel_rfl) ?_
 refine di (i:=28) rfl<|cr o call46 (JcA (Ah _) (Tab.mono hT (St.up u)) V0 (St.srH u W0) T1) u λu o=>⟨λ_=>(St.ldsX u i2 (Aa t0 Ai)),?_⟩
 refine ds 29 (St.ldsX u i2 (Aa t0 Ai)) o rfl (Bi o rfl rfl U1) λo=>ds 30 (St.ldsX u i2 (Aa t0 Ai)) o rfl (Bi o rfl rfl V1) λo=>da1 (i:=31) (by kernel_rfl) ?_
 replace u:=u.pk [1,0] rfl
 refine di (i:=31) rfl<|c1 o rfl call44 (Jc5 u hbB5 Y1) ⟨rfl,rfl,trivial⟩ (λv w a hR o=>?_)
 obtain ⟨rfl,X0,P0,u⟩:=hR
 refine ⟨λ_=>(St.ldsX u i2 ta1),?_⟩
 refine de (by kernel_rfl)<|bn<|tn<|rg<|qv o (An o rfl rfl) λo=>qm o rfl λo=>re<|tn<|?_
 replace u:=u.pk [0] rfl
 exact ⟨(C0,X1,(IntKind.i64.wrap (I0+1))),⟨X0,P0,(PT b9),hm,o.hs,u,(.inr rfl)⟩,Nat.lt_succ_self _⟩
 refine tn<|th<|cfv o rfl E0<|we<|tx<|tx<|bx<|tn<|?_
 exact ⟨G0,D0,A0,vpB4,hm,o.has ⟨rfl,trivial⟩,u,hbB5⟩
 rintro a w ⟨K0,M0,F0,vpA4,hm,o,u,hbA5⟩
 unfold Ze at hm
 refine th<|rg<|ls<|c1 o rfl Tryz.call26 (Xe u hbA5) ⟨rfl,trivial⟩ (λv w a hR o=>?_)
 obtain ⟨rfl,hk⟩:=hR
 replace u:=(start1 hH).pass hk
 refine qa o rfl λo=>re<|tn<|wr<|?_
 obtain rfl:=si hm
 exact r1 o results15 rfl ⟨rfl,u.keep⟩
set_option maxHeartbeats 4000000 in
theorem Jbp (hH:H.le w0) (hT:Tab H)  {r:Bool} (hm:Z24 N  = some r):Tot Tryz.prog 13 #[] w0 (λv w'=>v=.bool r∧Keep Nil w0 w'):=by
 unfold Z24 at hm
 refine fn0 func13 rfl ntmps13 rfl rfl λa o=>?_
 have u:St w0 Nil [H] [] w0:=start1 hH
 refine th<|rg<|qa o rfl λo=>re<|tn<|th<|rg<|qv o (Bt [i6 1,i6 1] [i6 1,i6 1] o ⟨rfl,rfl,trivial⟩ (λw=>by kernel_rfl)) λo=>qv o (Bt [i6 1,i6 2] [i6 1,i6 2] o ⟨rfl,rfl,trivial⟩ (λw=>by kernel_rfl)) λo=>qv o (Bt [i6 5] [i6 5,i6 0] o ⟨rfl,trivial⟩ (λw=>by kernel_rfl)) λo=>ls<|Bj (e:=83) (sz:=2) [i6 1,i6 1,i6 1,i6 2,i6 5,i6 0] o rfl u rfl rfl rfl (λw=>by kernel_rfl) λb2 w a u o=>?_
 have n3:Rows (α:=api_Op) H [i6 1,i6 1,i6 1,i6 2,i6 5,i6 0] ([(api_Op.mk 1 1),(api_Op.mk 1 2),(api_Op.mk 5 0)]:List api_Op):=(.cons (c:=[i6 1,i6 1]) ⟨_,_,rfl,rfl,rfl⟩ (.cons (c:=[i6 1,i6 2]) ⟨_,_,rfl,rfl,rfl⟩ (.cons (c:=[i6 5,i6 0]) ⟨_,_,rfl,rfl,rfl⟩ .nil)))
 refine qv o (Bt [i6 1,.slice (some ⟨b2,0,none⟩) ([(api_Op.mk 1 1),(api_Op.mk 1 2),(api_Op.mk 5 0)]:List api_Op).length 3] [i6 1,i6 0,i6 0,.slice (some ⟨b2,0,none⟩) ([(api_Op.mk 1 1),(api_Op.mk 1 2),(api_Op.mk 5 0)]:List api_Op).length 3,.slice none 0 0,i6 0] o ⟨rfl,rfl,trivial⟩ (λw=>by kernel_rfl)) λo=>?_
 obtain ⟨H7,U1,u3,A4,u⟩:=St.frzS u .head n3
 refine ls<|Bj (e:=85) (sz:=6) [i6 1,i6 0,i6 0,.slice (some ⟨b2,0,none⟩) ([(api_Op.mk 1 1),(api_Op.mk 1 2),(api_Op.mk 5 0)]:List api_Op).length 3,.slice none 0 0,i6 0] o rfl u rfl rfl rfl (λw=>by kernel_rfl) λb9 w a u o=>?_
 have B4:Rows (α:=api_Instr) H7 [i6 1,i6 0,i6 0,.slice (some ⟨b2,0,none⟩) ([(api_Op.mk 1 1),(api_Op.mk 1 2),(api_Op.mk 5 0)]:List api_Op).length 3,.slice none 0 0,i6 0] ([(api_Instr.mk 1 0 0 ([(api_Op.mk 1 1),(api_Op.mk 1 2),(api_Op.mk 5 0)]:List api_Op) [] 0)]:List api_Instr):=(.cons (c:=[i6 1,i6 0,i6 0,.slice (some ⟨b2,0,none⟩) ([(api_Op.mk 1 1),(api_Op.mk 1 2),(api_Op.mk 5 0)]:List api_Op).length 3,.slice none 0 0,i6 0]) ⟨_,_,rfl,rfl,⟨_,_,rfl,rfl,⟨_,_,rfl,rfl,⟨_,_,rfl,⟨_,_,rfl,A4,u3⟩,⟨_,_,rfl,⟨none,0,rfl,Nat.le_refl _,SR.nil _ _⟩,rfl⟩⟩⟩⟩⟩ .nil)
 refine qv o (Bt [i6 1,.slice (some ⟨b9,0,none⟩) ([(api_Instr.mk 1 0 0 ([(api_Op.mk 1 1),(api_Op.mk 1 2),(api_Op.mk 5 0)]:List api_Op) [] 0)]:List api_Instr).length 1] [i6 1,i6 0,.slice (some ⟨b9,0,none⟩) ([(api_Instr.mk 1 0 0 ([(api_Op.mk 1 1),(api_Op.mk 1 2),(api_Op.mk 5 0)]:List api_Op) [] 0)]:List api_Instr).length 1] o ⟨rfl,rfl,trivial⟩ (λw=>by kernel_rfl)) λo=>?_
 obtain ⟨H14,B1,V1,X1,u⟩:=St.frzS u .head B4
 refine ls<|Bj (e:=26) (sz:=3) [i6 1,i6 0,.slice (some ⟨b9,0,none⟩) ([(api_Instr.mk 1 0 0 ([(api_Op.mk 1 1),(api_Op.mk 1 2),(api_Op.mk 5 0)]:List api_Op) [] 0)]:List api_Instr).length 1] o rfl u rfl rfl rfl (λw=>by kernel_rfl) λj0 w a u o=>?_
 have Y1:Rows (α:=api_Code) H14 [i6 1,i6 0,.slice (some ⟨b9,0,none⟩) ([(api_Instr.mk 1 0 0 ([(api_Op.mk 1 1),(api_Op.mk 1 2),(api_Op.mk 5 0)]:List api_Op) [] 0)]:List api_Instr).length 1] ([(api_Code.mk 1 0 ([(api_Instr.mk 1 0 0 ([(api_Op.mk 1 1),(api_Op.mk 1 2),(api_Op.mk 5 0)]:List api_Op) [] 0)]:List api_Instr))]:List api_Code):=(.cons (c:=[i6 1,i6 0,.slice (some ⟨b9,0,none⟩) ([(api_Instr.mk 1 0 0 ([(api_Op.mk 1 1),(api_Op.mk 1 2),(api_Op.mk 5 0)]:List api_Op) [] 0)]:List api_Instr).length 1]) ⟨_,_,rfl,rfl,⟨_,_,rfl,rfl,⟨_,_,rfl,X1,V1⟩⟩⟩ .nil)
 refine qv o (Bt [.slice (some ⟨j0,0,none⟩) ([(api_Code.mk 1 0 ([(api_Instr.mk 1 0 0 ([(api_Op.mk 1 1),(api_Op.mk 1 2),(api_Op.mk 5 0)]:List api_Op) [] 0)]:List api_Instr))]:List api_Code).length 1] [.slice none 0 0,i6 0,.slice none 0 0,i6 0,.slice (some ⟨j0,0,none⟩) ([(api_Code.mk 1 0 ([(api_Instr.mk 1 0 0 ([(api_Op.mk 1 1),(api_Op.mk 1 2),(api_Op.mk 5 0)]:List api_Op) [] 0)]:List api_Instr))]:List api_Code).length 1,i6 0,i6 0,.slice none 0 0,.slice none 0 0] o ⟨rfl,trivial⟩ (λw=>by kernel_rfl)) λo=>ls<|As (cs:=[.slice none 0 0,i6 0,.slice none 0 0,i6 0,.slice none 0 0,i6 0,i6 0,.slice none 0 0,.slice none 0 0].toArray) o rfl u zeroValue29 rfl λP0 w a u o=>ls<|Bb o u sizeOf29 rfl rfl rfl rfl (Ao rfl) .head λw u=>re<|tn<|th<|?_
 obtain ⟨R0,C4,hm⟩:=bs hm
 refine rg<|qv o (Ar o Tryz.isAgg29 Tryz.sizeOf29 rfl rfl (u.ld.cellsB t0)) λo=>?_
 obtain ⟨H22,C1,S0,n0,u⟩:=St.frzS u (.tail .head) Y1
 refine ls<|cr o call8 (JaN (Ah _) (Enc.mono (St.up u) (show Enc.rep (α:=api_Unit) H22 [.slice none 0 0,i6 0,.slice none 0 0,i6 0,.slice (some ⟨j0,0,none⟩) ([(api_Code.mk 1 0 ([(api_Instr.mk 1 0 0 ([(api_Op.mk 1 1),(api_Op.mk 1 2),(api_Op.mk 5 0)]:List api_Op) [] 0)]:List api_Instr))]:List api_Code).length 1,i6 0,i6 0,.slice none 0 0,.slice none 0 0] (api_Unit.mk [] 0 [] 0 ([(api_Code.mk 1 0 ([(api_Instr.mk 1 0 0 ([(api_Op.mk 1 1),(api_Op.mk 1 2),(api_Op.mk 5 0)]:List api_Op) [] 0)]:List api_Instr))]:List api_Code) (api_Code.mk 0 0 []) []) from ⟨_,_,rfl,⟨none,0,rfl,Nat.le_refl _,SR.nil _ _⟩,⟨_,_,rfl,rfl,⟨_,_,rfl,⟨none,0,rfl,Nat.le_refl _,SR.nil _ _⟩,⟨_,_,rfl,rfl,⟨_,_,rfl,⟨_,_,rfl,n0,S0⟩,⟨_,_,rfl,⟨_,_,rfl,rfl,⟨_,_,rfl,rfl,⟨none,0,rfl,Nat.le_refl _,SR.nil _ _⟩⟩⟩,⟨none,0,rfl,Nat.le_refl _,SR.nil _ _⟩⟩⟩⟩⟩⟩⟩)) C4) u λu o=>qm o rfl λo=>?_
 iterate 2 refine qv o (Dd o rfl rfl) λo=>?_
 iterate 2 refine qa o rfl λo=>?_
 refine re<|tn<|th<|?_
 obtain ⟨C0,D4,hm⟩:=bs hm
 refine rg<|qm o rfl λo=>ls<|c1 o rfl call10 (JaP (St.le u) D4) ⟨rfl,trivial⟩ (λv w a hR o=>?_)
 obtain ⟨H30,cs31,rfl,E4,M0,u1,hk⟩:=hR
 obtain ⟨u,M0⟩:=And.intro (St.passH u hk M0 u1) (St.extc u M0)
 have F4:Enc.rep (α:=(List Int)×Int×(List Int)×Int×(List api_Code)×api_Code×(List (List api_Op))) H30 cs31 (C0.1.Lines,C0.1.Stays,C0.1.Firsts,C0.1.Locks,C0.1.Threads,C0.1.Recover,C0.1.Claims):=E4
 obtain ⟨q34,q35,rfl,G4,I4⟩:=F4
 obtain ⟨B2,F1,rfl,C2,E2⟩:=G4
 obtain ⟨q42,q43,rfl,J4,K4⟩:=I4
 obtain rfl:q42=[i6 C0.1.Stays]:=J4
 obtain ⟨q46,q47,rfl,L4,M4⟩:=K4
 obtain ⟨F2,I1,rfl,G2,I2⟩:=L4
 obtain ⟨q54,q55,rfl,O4,P4⟩:=M4
 obtain rfl:q54=[i6 C0.1.Locks]:=O4
 obtain ⟨q58,q59,rfl,Q4,R4⟩:=P4
 obtain ⟨J2,J1,rfl,K2,O2⟩:=Q4
 obtain ⟨q66,q67,rfl,S4,T4⟩:=R4
 obtain ⟨P2,O1,rfl,Q2,R2⟩:=Am S4
 obtain ⟨T2,P1,rfl,U2,V2⟩:=T4
 refine qm o rfl λo=>?_
 iterate 2 refine qv o (Dd o rfl rfl) λo=>?_
 refine ls<|As (cs:=[.slice none 0 0,i6 0,.slice none 0 0,i6 0,.slice none 0 0,i6 0,i6 0,.slice none 0 0,.slice none 0 0].toArray) o rfl u zeroValue29 rfl λD1 w a u o=>ls<|Bb o u sizeOf29 rfl rfl rfl rfl (Ao rfl) .head λw u=>qa o rfl λo=>re<|tn<|th<|?_
 obtain ⟨W5,U4,hm⟩:=bs hm
 obtain ⟨D0,V4,hm⟩:=bs hm
 refine rg<|qm o rfl λo=>qv o (Bi o rfl rfl U4) λo=>ls<|c1 o rfl call10 (JaP (St.le u) V4) ⟨rfl,trivial⟩ (λv w a hR o=>?_)
 obtain ⟨H86,cs87,rfl,W4,E0,W2,hk⟩:=hR
 obtain ⟨u,E0⟩:=And.intro (St.passH u hk E0 W2) (St.extc u E0)
 have X4:Enc.rep (α:=(List Int)×Int×(List Int)×Int×(List api_Code)×api_Code×(List (List api_Op))) H86 cs87 (D0.1.Lines,D0.1.Stays,D0.1.Firsts,D0.1.Locks,D0.1.Threads,D0.1.Recover,D0.1.Claims):=W4
 obtain ⟨q90,q91,rfl,Y4,d4⟩:=X4
 obtain ⟨R5,C5,rfl,S5,T5⟩:=Y4
 obtain ⟨q98,q99,rfl,X2,Y2⟩:=d4
 obtain rfl:q98=[i6 D0.1.Stays]:=X2
 obtain ⟨q102,q103,rfl,u2,A3⟩:=Y2
 obtain ⟨D5,l4,rfl,E5,F5⟩:=u2
 obtain ⟨q110,q111,rfl,B3,C3⟩:=A3
 obtain rfl:q110=[i6 D0.1.Locks]:=B3
 obtain ⟨q114,q115,rfl,D3,E3⟩:=C3
 obtain ⟨G5,u4,rfl,I5,J5⟩:=D3
 obtain ⟨q122,q123,rfl,F3,G3⟩:=E3
 obtain ⟨K5,A5,rfl,L5,M5⟩:=Am F3
 obtain ⟨O5,B5,rfl,P5,Q5⟩:=G3
 refine qm o rfl λo=>?_
 iterate 2 refine qv o (Dd o rfl rfl) λo=>?_
 refine ls<|As (cs:=[.slice none 0 0,i6 0,.slice none 0 0,i6 0,.slice none 0 0,i6 0,i6 0,.slice none 0 0,.slice none 0 0].toArray) o rfl u zeroValue29 rfl λU5 w a u o=>ls<|Bb o u sizeOf29 rfl rfl rfl rfl (Ao rfl) .head λw u=>qa o rfl λo=>re<|tn<|th<|?_
 obtain ⟨F0,I3,hm⟩:=bs hm
 refine rg<|qv o (Bt [] [.slice none 0 0,i6 0,.slice none 0 0,i6 0,.slice none 0 0,i6 0,i6 0,.slice none 0 0,.slice none 0 0] o trivial (λw=>by kernel_rfl)) λo=>ls<|cr o call8 (JaN (Ah _) (Enc.mono (St.up u) (show Enc.rep (α:=api_Unit) H86 [.slice none 0 0,i6 0,.slice none 0 0,i6 0,.slice none 0 0,i6 0,i6 0,.slice none 0 0,.slice none 0 0] (api_Unit.mk [] 0 [] 0 [] (api_Code.mk 0 0 []) []) from ⟨_,_,rfl,⟨none,0,rfl,Nat.le_refl _,SR.nil _ _⟩,⟨_,_,rfl,rfl,⟨_,_,rfl,⟨none,0,rfl,Nat.le_refl _,SR.nil _ _⟩,⟨_,_,rfl,rfl,⟨_,_,rfl,⟨none,0,rfl,Nat.le_refl _,SR.nil _ _⟩,⟨_,_,rfl,⟨_,_,rfl,rfl,⟨_,_,rfl,rfl,⟨none,0,rfl,Nat.le_refl _,SR.nil _ _⟩⟩⟩,⟨none,0,rfl,Nat.le_refl _,SR.nil _ _⟩⟩⟩⟩⟩⟩⟩)) I3) u λu o=>qm o rfl λo=>?_
 iterate 2 refine qv o (Dd o rfl rfl) λo=>?_
 iterate 2 refine qa o rfl λo=>?_
 refine re<|tn<|th<|?_
 obtain ⟨A0,J3,hm⟩:=bs hm
 refine rg<|ls<|c1 o rfl Tryz.call42 (We (Ah _) J3) ⟨rfl,rfl,trivial⟩ (λv w a hR o=>?_)
 obtain ⟨rfl,hk⟩:=hR
 replace u:=u.pass hk
 refine qm o rfl λo=>?_
 iterate 3 refine qv o (Dd o rfl rfl) λo=>?_
 iterate 3 refine qa o rfl λo=>?_
 refine re<|tn<|th<|?_
 obtain ⟨G0,K3,hm⟩:=bs hm
 refine rg<|ls<|c1 o rfl Tryz.call42 (We (Ah _) K3) ⟨rfl,rfl,trivial⟩ (λv w a hR o=>?_)
 obtain ⟨rfl,hk⟩:=hR
 replace u:=u.pass hk
 refine qm o rfl λo=>?_
 iterate 3 refine qv o (Dd o rfl rfl) λo=>?_
 iterate 3 refine qa o rfl λo=>?_
 refine re<|tn<|th<|?_
 obtain ⟨I0,L3,hm⟩:=bs hm
 refine rg<|ls<|c1 o rfl Tryz.call42 (We (Ah _) L3) ⟨rfl,rfl,trivial⟩ (λv w a hR o=>?_)
 obtain ⟨rfl,hk⟩:=hR
 replace u:=u.pass hk
 refine qm o rfl λo=>?_
 iterate 3 refine qv o (Dd o rfl rfl) λo=>?_
 iterate 3 refine qa o rfl λo=>?_
 refine re<|tn<|th<|?_
 obtain ⟨J0,M3,hm⟩:=bs hm
 refine rg<|ls<|c1 o rfl Tryz.call42 (We (Ah _) M3) ⟨rfl,rfl,trivial⟩ (λv w a hR o=>?_)
 obtain ⟨rfl,hk⟩:=hR
 replace u:=u.pass hk
 refine qm o rfl λo=>?_
 iterate 3 refine qv o (Dd o rfl rfl) λo=>?_
 iterate 3 refine qa o rfl λo=>?_
 refine re<|tn<|th<|?_
 obtain ⟨K0,O3,hm⟩:=bs hm
 refine rg<|ls<|c1 o rfl Tryz.call42 (We (Ah _) O3) ⟨rfl,rfl,trivial⟩ (λv w a hR o=>?_)
 obtain ⟨rfl,hk⟩:=hR
 replace u:=u.pass hk
 refine qm o rfl λo=>?_
 iterate 3 refine qv o (Dd o rfl rfl) λo=>?_
 iterate 3 refine qa o rfl λo=>?_
 refine re<|tn<|th<|?_
 obtain ⟨Q0,P3,hm⟩:=bs hm
 refine rg<|qv o (Ar o Tryz.isAgg29 Tryz.sizeOf29 rfl rfl (u.ld.cellsB t2)) λo=>ls<|cr o call9 (JcU (Ah _) (Enc.mono (St.up u) (show Enc.rep (α:=api_Unit) H86 [.slice none 0 0,i6 0,.slice none 0 0,i6 0,.slice (some ⟨j0,0,none⟩) ([(api_Code.mk 1 0 ([(api_Instr.mk 1 0 0 ([(api_Op.mk 1 1),(api_Op.mk 1 2),(api_Op.mk 5 0)]:List api_Op) [] 0)]:List api_Instr))]:List api_Code).length 1,i6 0,i6 0,.slice none 0 0,.slice none 0 0] (api_Unit.mk [] 0 [] 0 ([(api_Code.mk 1 0 ([(api_Instr.mk 1 0 0 ([(api_Op.mk 1 1),(api_Op.mk 1 2),(api_Op.mk 5 0)]:List api_Op) [] 0)]:List api_Instr))]:List api_Code) (api_Code.mk 0 0 []) []) from ⟨_,_,rfl,⟨none,0,rfl,Nat.le_refl _,SR.nil _ _⟩,⟨_,_,rfl,rfl,⟨_,_,rfl,⟨none,0,rfl,Nat.le_refl _,SR.nil _ _⟩,⟨_,_,rfl,rfl,⟨_,_,rfl,⟨_,_,rfl,n0,(S0.mono (cp E0.sub M0.sub))⟩,⟨_,_,rfl,⟨_,_,rfl,rfl,⟨_,_,rfl,rfl,⟨none,0,rfl,Nat.le_refl _,SR.nil _ _⟩⟩⟩,⟨none,0,rfl,Nat.le_refl _,SR.nil _ _⟩⟩⟩⟩⟩⟩⟩)) P3) u λu o=>qm o rfl λo=>?_
 iterate 2 refine qv o (Dd o rfl rfl) λo=>?_
 iterate 2 refine qa o rfl λo=>?_
 refine re<|tn<|th<|?_
 obtain ⟨_,T0,hm⟩:=bs hm
 replace T0:=Fv T0
 obtain ⟨O0,Q3,hm⟩:=bs hm
 obtain ⟨_,U0,hm⟩:=bs hm
 replace U0:=Fv U0
 obtain ⟨R3,S3,hm⟩:=bs hm
 obtain ⟨_,V0,hm⟩:=bs hm
 replace V0:=Fv V0
 obtain ⟨T3,U3,hm⟩:=bs hm
 obtain ⟨_,W0,hm⟩:=bs hm
 replace W0:=Fv W0
 obtain ⟨V3,W3,hm⟩:=bs hm
 obtain ⟨_,X0,hm⟩:=bs hm
 replace X0:=Fv X0
 obtain ⟨Y0,u0,hm⟩:=bs hm
 obtain ⟨V5,X3,Q1⟩:=SR.get S0 u0
 obtain ⟨R1,E1,rfl,S1,T1⟩:=Am X3
 obtain ⟨Y3,l3,hm⟩:=bs hm
 refine rg<|qm o rfl λo=>qv o (Aq o rfl rfl) λo=>qm o rfl λo=>gr (Fk:=[(1,PT P0),(4,PT D1),(5,i6 C0.2),(7,i6 D0.2),(9,i6 F0.2),(10,i6 A0.1),(11,i6 A0.2.1),(12,i6 A0.2.2),(15,i6 G0.2.2),(18,i6 I0.2.2),(21,i6 J0.2.2),(24,i6 K0.2.2),(26,i6 Q0.2),(93,.bool ((decide (R0.2=0)) && (decide (R0.1=Q0.1))))]) 89 4 o u ?_ ?_ ?_
 intro hb o key
 iterate 2 refine qg o (Ab o rfl) λo=>?_
 exact qg o (Je (m:=R0.1) (n:=Q0.1) o rfl rfl) λo=>qk o (Ac o rfl rfl) key u hb
 intro hb o key
 iterate 3 refine qn o λo=>?_
 exact qk o (Ad o rfl rfl) key u hb
 intro a w o u
 refine qm o rfl λo=>gr (Fk:=[(1,PT P0),(4,PT D1),(5,i6 C0.2),(7,i6 D0.2),(9,i6 F0.2),(10,i6 A0.1),(11,i6 A0.2.1),(12,i6 A0.2.2),(15,i6 G0.2.2),(18,i6 I0.2.2),(21,i6 J0.2.2),(24,i6 K0.2.2),(97,.bool (((decide (R0.2=0)) && (decide (R0.1=Q0.1))) && (decide (Q0.2=0))))]) 94 3 o u ?_ ?_ ?_
 intro hb o key
 exact qg o (Ab o rfl) λo=>qg o (Aq o rfl rfl) λo=>qk o (Ac o rfl rfl) key u hb
 intro hb o key
 iterate 2 refine qn o λo=>?_
 exact qk o (Ad o rfl rfl) key u hb
 intro a w o u
 refine qm o rfl λo=>gr (Fk:=[(1,PT P0),(4,PT D1),(7,i6 D0.2),(9,i6 F0.2),(10,i6 A0.1),(11,i6 A0.2.1),(12,i6 A0.2.2),(15,i6 G0.2.2),(18,i6 I0.2.2),(21,i6 J0.2.2),(24,i6 K0.2.2),(101,.bool ((((decide (R0.2=0)) && (decide (R0.1=Q0.1))) && (decide (Q0.2=0))) && (decide (C0.2=0))))]) 98 3 o u ?_ ?_ ?_
 intro hb o key
 exact qg o (Ab o rfl) λo=>qg o (Aq o rfl rfl) λo=>qk o (Ac o rfl rfl) key u hb
 intro hb o key
 iterate 2 refine qn o λo=>?_
 exact qk o (Ad o rfl rfl) key u hb
 intro a w o u
 refine qv o (Ax (Ab o rfl) (congrArg Value.bool T0)) λo=>qg o (Ar o isAgg29 sizeOf29 rfl rfl (u.ld.cellsB t2)) λo=>qg o (Ar o isAgg29 sizeOf29 rfl rfl (u.ld.cellsB t1)) λo=>ls<|gy o rfl rfl<|cr o call12 (Jdf (Ah _) (Enc.mono (St.up u) (show Enc.rep (α:=api_Unit) H86 [.slice none 0 0,i6 0,.slice none 0 0,i6 0,.slice (some ⟨j0,0,none⟩) ([(api_Code.mk 1 0 ([(api_Instr.mk 1 0 0 ([(api_Op.mk 1 1),(api_Op.mk 1 2),(api_Op.mk 5 0)]:List api_Op) [] 0)]:List api_Instr))]:List api_Code).length 1,i6 0,i6 0,.slice none 0 0,.slice none 0 0] (api_Unit.mk [] 0 [] 0 ([(api_Code.mk 1 0 ([(api_Instr.mk 1 0 0 ([(api_Op.mk 1 1),(api_Op.mk 1 2),(api_Op.mk 5 0)]:List api_Op) [] 0)]:List api_Instr))]:List api_Code) (api_Code.mk 0 0 []) []) from ⟨_,_,rfl,⟨none,0,rfl,Nat.le_refl _,SR.nil _ _⟩,⟨_,_,rfl,rfl,⟨_,_,rfl,⟨none,0,rfl,Nat.le_refl _,SR.nil _ _⟩,⟨_,_,rfl,rfl,⟨_,_,rfl,⟨_,_,rfl,n0,(S0.mono (cp E0.sub M0.sub))⟩,⟨_,_,rfl,⟨_,_,rfl,rfl,⟨_,_,rfl,rfl,⟨none,0,rfl,Nat.le_refl _,SR.nil _ _⟩⟩⟩,⟨none,0,rfl,Nat.le_refl _,SR.nil _ _⟩⟩⟩⟩⟩⟩⟩)) (Enc.mono (St.up u) (show Enc.rep (α:=api_Unit) H86 [SL B2 C0.1.Lines F1,i6 C0.1.Stays,SL F2 C0.1.Firsts I1,i6 C0.1.Locks,SL J2 C0.1.Threads J1,i6 C0.1.Recover.Regs,i6 C0.1.Recover.Counts,SL P2 C0.1.Recover.L O1,SL T2 C0.1.Claims P1] C0.1 from ⟨_,_,rfl,⟨_,_,rfl,C2,(E2.mono E0.sub)⟩,⟨_,_,rfl,rfl,⟨_,_,rfl,⟨_,_,rfl,G2,(I2.mono E0.sub)⟩,⟨_,_,rfl,rfl,⟨_,_,rfl,⟨_,_,rfl,K2,(O2.mono E0.sub)⟩,⟨_,_,rfl,⟨_,_,rfl,rfl,⟨_,_,rfl,rfl,⟨_,_,rfl,Q2,(R2.mono E0.sub)⟩⟩⟩,⟨_,_,rfl,U2,(V2.mono E0.sub)⟩⟩⟩⟩⟩⟩⟩)) Q3) u λu o=>qv o (Ac o rfl rfl) λo=>qm o rfl λo=>gr (Fk:=[(1,PT P0),(9,i6 F0.2),(10,i6 A0.1),(11,i6 A0.2.1),(12,i6 A0.2.2),(15,i6 G0.2.2),(18,i6 I0.2.2),(21,i6 J0.2.2),(24,i6 K0.2.2),(110,.bool (O0 && (decide (D0.2=8))))]) 107 3 o u ?_ ?_ ?_
 intro hb o key
 exact qg o (Ab o rfl) λo=>qg o (Aq o rfl rfl) λo=>qk o (Ac o rfl rfl) key u hb
 intro hb o key
 iterate 2 refine qn o λo=>?_
 exact qk o (Ad o rfl rfl) key u hb
 intro a w o u
 refine qm o rfl λo=>gr (Fk:=[(1,PT P0),(10,i6 A0.1),(11,i6 A0.2.1),(12,i6 A0.2.2),(15,i6 G0.2.2),(18,i6 I0.2.2),(21,i6 J0.2.2),(24,i6 K0.2.2),(114,.bool ((O0 && (decide (D0.2=8))) && (decide (F0.2=8))))]) 111 3 o u ?_ ?_ ?_
 intro hb o key
 exact qg o (Ab o rfl) λo=>qg o (Aq o rfl rfl) λo=>qk o (Ac o rfl rfl) key u hb
 intro hb o key
 iterate 2 refine qn o λo=>?_
 exact qk o (Ad o rfl rfl) key u hb
 intro a w o u
 refine qm o rfl λo=>gr (Fk:=[(1,PT P0),(11,i6 A0.2.1),(12,i6 A0.2.2),(15,i6 G0.2.2),(18,i6 I0.2.2),(21,i6 J0.2.2),(24,i6 K0.2.2),(118,.bool (((O0 && (decide (D0.2=8))) && (decide (F0.2=8))) && (decide (A0.1=300))))]) 115 3 o u ?_ ?_ ?_
 intro hb o key
 exact qg o (Ab o rfl) λo=>qg o (Aq o rfl rfl) λo=>qk o (Ac o rfl rfl) key u hb
 intro hb o key
 iterate 2 refine qn o λo=>?_
 exact qk o (Ad o rfl rfl) key u hb
 intro a w o u
 refine qm o rfl λo=>gr (Fk:=[(1,PT P0),(12,i6 A0.2.2),(15,i6 G0.2.2),(18,i6 I0.2.2),(21,i6 J0.2.2),(24,i6 K0.2.2),(122,.bool ((((O0 && (decide (D0.2=8))) && (decide (F0.2=8))) && (decide (A0.1=300))) && (decide (A0.2.1=2))))]) 119 3 o u ?_ ?_ ?_
 intro hb o key
 exact qg o (Ab o rfl) λo=>qg o (Aq o rfl rfl) λo=>qk o (Ac o rfl rfl) key u hb
 intro hb o key
 iterate 2 refine qn o λo=>?_
 exact qk o (Ad o rfl rfl) key u hb
 intro a w o u
 refine qm o rfl λo=>gr (Fk:=[(1,PT P0),(15,i6 G0.2.2),(18,i6 I0.2.2),(21,i6 J0.2.2),(24,i6 K0.2.2),(126,.bool (((((O0 && (decide (D0.2=8))) && (decide (F0.2=8))) && (decide (A0.1=300))) && (decide (A0.2.1=2))) && (decide (A0.2.2=0))))]) 123 3 o u ?_ ?_ ?_
 intro hb o key
 exact qg o (Ab o rfl) λo=>qg o (Aq o rfl rfl) λo=>qk o (Ac o rfl rfl) key u hb
 intro hb o key
 iterate 2 refine qn o λo=>?_
 exact qk o (Ad o rfl rfl) key u hb
 intro a w o u
 refine qm o rfl λo=>gr (Fk:=[(1,PT P0),(18,i6 I0.2.2),(21,i6 J0.2.2),(24,i6 K0.2.2),(130,.bool ((((((O0 && (decide (D0.2=8))) && (decide (F0.2=8))) && (decide (A0.1=300))) && (decide (A0.2.1=2))) && (decide (A0.2.2=0))) && (decide (G0.2.2=8))))]) 127 3 o u ?_ ?_ ?_
 intro hb o key
 exact qg o (Ab o rfl) λo=>qg o (Aq o rfl rfl) λo=>qk o (Ac o rfl rfl) key u hb
 intro hb o key
 iterate 2 refine qn o λo=>?_
 exact qk o (Ad o rfl rfl) key u hb
 intro a w o u
 refine qm o rfl λo=>gr (Fk:=[(1,PT P0),(21,i6 J0.2.2),(24,i6 K0.2.2),(134,.bool (((((((O0 && (decide (D0.2=8))) && (decide (F0.2=8))) && (decide (A0.1=300))) && (decide (A0.2.1=2))) && (decide (A0.2.2=0))) && (decide (G0.2.2=8))) && (decide (I0.2.2=6))))]) 131 3 o u ?_ ?_ ?_
 intro hb o key
 exact qg o (Ab o rfl) λo=>qg o (Aq o rfl rfl) λo=>qk o (Ac o rfl rfl) key u hb
 intro hb o key
 iterate 2 refine qn o λo=>?_
 exact qk o (Ad o rfl rfl) key u hb
 intro a w o u
 refine qm o rfl λo=>gr (Fk:=[(1,PT P0),(24,i6 K0.2.2),(138,.bool ((((((((O0 && (decide (D0.2=8))) && (decide (F0.2=8))) && (decide (A0.1=300))) && (decide (A0.2.1=2))) && (decide (A0.2.2=0))) && (decide (G0.2.2=8))) && (decide (I0.2.2=6))) && (decide (J0.2.2=1))))]) 135 3 o u ?_ ?_ ?_
 intro hb o key
 exact qg o (Ab o rfl) λo=>qg o (Aq o rfl rfl) λo=>qk o (Ac o rfl rfl) key u hb
 intro hb o key
 iterate 2 refine qn o λo=>?_
 exact qk o (Ad o rfl rfl) key u hb
 intro a w o u
 refine qm o rfl λo=>gr (Fk:=[(1,PT P0),(142,.bool (((((((((O0 && (decide (D0.2=8))) && (decide (F0.2=8))) && (decide (A0.1=300))) && (decide (A0.2.1=2))) && (decide (A0.2.2=0))) && (decide (G0.2.2=8))) && (decide (I0.2.2=6))) && (decide (J0.2.2=1))) && (decide (K0.2.2=2))))]) 139 3 o u ?_ ?_ ?_
 intro hb o key
 exact qg o (Ab o rfl) λo=>qg o (Aq o rfl rfl) λo=>qk o (Ac o rfl rfl) key u hb
 intro hb o key
 iterate 2 refine qn o λo=>?_
 exact qk o (Ad o rfl rfl) key u hb
 intro a w o u
 refine qv o (Ax (Ab o rfl) (congrArg Value.bool U0)) λo=>ls<|gy o rfl rfl<|cr o call43 (JbW (Ah _) S3) u λu o=>qg o (Je (m:=R3) (n:=[172,2]) o rfl rfl) λo=>qv o (Ac o rfl rfl) λo=>qv o (Ax (Ab o rfl) (congrArg Value.bool V0)) λo=>ls<|gy o rfl rfl<|cr o call43 (JbW (Ah _) U3) u λu o=>qg o (Je (m:=T3) (n:=[]) o rfl rfl) λo=>qv o (Ac o rfl rfl) λo=>qv o (Ax (Ab o rfl) (congrArg Value.bool W0)) λo=>ls<|gy o rfl rfl<|cr o call17 (Jcx (Ah _) (Tab.mono (Tab.mono hT (cp (cp (cp (cp E0.sub M0.sub) C1.sub) B1.sub) U1.sub)) (St.up u)) W3) u λu o=>qg o (Je (m:=V3) (n:=[99,104,101,99,107]) o rfl rfl) λo=>qv o (Ac o rfl rfl) λo=>qv o (Ax (Ab o rfl) (congrArg Value.bool X0)) λo=>qg o (Ae o Cg rfl) λo=>qg o (Af o isAgg23 rfl (u.ld.cellB t2 rfl)) λo=>qg o (Al o runUnderlying23 sizeOf26 rfl rfl u0 (SR.oaI S0 (by decide) u0)) λo=>qg o (Ar o isAgg26 sizeOf26 rfl rfl (λj v hj=>PH.le.cell (λb o hx=>(Lds.le u.ld) b o ((cp E0.sub M0.sub) b o hx)) (Q1 j v hj))) λo=>ls<|gy o rfl rfl<|cr o call15 (JdB (Ah _) (Tab.mono (Tab.mono hT (cp (cp (cp (cp E0.sub M0.sub) C1.sub) B1.sub) U1.sub)) (St.up u)) (Enc.mono (St.up u) (show Enc.rep (α:=api_Code) H86 [i6 Y0.Regs,i6 Y0.Counts,SL R1 Y0.L E1] Y0 from ⟨_,_,rfl,rfl,⟨_,_,rfl,rfl,⟨_,_,rfl,S1,(T1.mono (cp E0.sub M0.sub))⟩⟩⟩)) l3) u λu o=>qg o (Je (m:=Y3) (n:=[48,32,115,101,116,32,48,32,48,32,48,32,91,35,49,32,35,50,32,58,53,93,10]) o rfl rfl) λo=>qv o (Ac o rfl rfl) λo=>qa o rfl λo=>re<|tn<|wr<|?_
 obtain rfl:=si hm
 exact r1 o results13 rfl ⟨rfl,u.keep⟩
end Go.LM.BINZ
