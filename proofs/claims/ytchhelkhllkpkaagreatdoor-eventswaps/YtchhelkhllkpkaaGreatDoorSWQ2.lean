/- Walks, lifted by program. No condition beyond the theorems' own premises. -/
import Derived.Test.YtchhelkhllkpkaaGreatDoorSWQ1
namespace Go.LM.SWAPS
open Go Go.LL Go.MD Go.LM Go.Proofs Go.MD.SWAPS Go.Proofs.Tryz
open Go.IntKind (i64)
set_option maxRecDepth 100000
set_option maxHeartbeats 4000000
variable {N:Nat} {w0:World} {H:PH}
theorem Jc2 (hH:H.le w0) {I0:Option Addr} {D0:Nat} {p1:(List api_Thread)} (W2:p1.length≤D0) (E0:SR H I0 p1) {p6:Bool} {r:Bool} (hm:Z2r N p1 p6=some r):Tot Tryz.prog 83 #[SL I0 p1 D0,.bool p6] w0 (λv w'=>v=.bool r∧Keep Nil w0 w'):=by
 unfold Z2r at hm
 refine fn0 func83 rfl ntmps83 rfl rfl λa o=>?_
 have u:St w0 Nil [H] [] w0:=start1 hH
 refine th<|rg<|qa o rfl λo=>re<|tn<|th<|th<|rg<|qa o rfl λo=>re<|tn<|Av (λa w=>Z2s=some r∧Fr 71 [] a∧St w0 Nil [H] [] w) ?_ ?_
 refine wb<|lp (α:=Nat×Int) (λgh a w=>match gh with | (K0,C0)=>(Z2v N Z2s p1 p6) K0 C0=some r∧Fr 71 [(0,SL I0 p1 D0),(1,.bool p6),(5,i6 C0)] a∧St w0 Nil [H] [] w) (λgh=>gh.1) (N,0) ⟨hm,o.hs,u⟩ ?_
 rintro ⟨K0,C0⟩ a w ⟨hm,o,u⟩
 obtain _ | K0:=K0
 simp [Z2v] at hm
 rw [Z2v] at hm
 refine th<|th<|rg<|qm o rfl λo=>qm o rfl λo=>qv o (Aj (α:=api_Thread) (xs:=p1) o Da rfl) λo=>qv o (Am o rfl rfl) λo=>re<|?_
 rcases bip hm with ⟨U0,hm⟩ | ⟨U0,hm⟩
 refine tn<|ctv o rfl U0<|wk<|tn<|th<|Av (λa w=>(Z2t (Z2v N Z2s p1 p6 K0) C0)=some r∧Fr 71 [(0,SL I0 p1 D0),(1,.bool p6),(5,i6 C0)] a∧St w0 Nil [H] [] w) ?_ ?_
 refine wb<|th<|th<|Av (λa w=>∃ (V0:Bool),(Z2u N (Z2t (Z2v N Z2s p1 p6 K0) C0) p1 C0) V0=some r∧Fr 71 [(0,SL I0 p1 D0),(1,.bool p6),(5,i6 C0),(50,.bool V0)] a∧St w0 Nil [H] [] w) ?_ ?_
 obtain ⟨J0,h9,hm⟩:=bs hm
 obtain ⟨X2,P1,F0⟩:=SR.get E0 h9
 obtain ⟨I2,u1,J2,C2,rfl,K2,O2,I1,J1⟩:=Bm P1
 obtain ⟨W0,Y0,hm⟩:=bs hm
 rcases bit hm with ⟨M0,hm⟩ | ⟨M0,hm⟩
 refine rg<|qm o rfl λo=>?_
 iterate 2 refine qm o rfl λo=>?_
 refine qv o (eI o Da sizeOf78 rfl rfl h9 E0) λo=>qf o Jm rfl λo=>qv o (eD o isAgg9 rfl u.ld (F0 0 _ rfl)) λo=>ls<|cr o call87 (Mg (Ag _) Y0) u λu o=>qv o (Js o ru4 rfl rfl) λo=>qm o rfl λo=>gr (Fk:=[(0,SL I0 p1 D0),(1,.bool p6),(5,i6 C0),(32,.bool ((p6 != W0) || ((!p6) && (decide (J0.Name≠[])))))]) 21 11 o u ?_ ?_ ?_
 intro hb o key
 iterate 3 refine qn o λo=>?_
 iterate 6 refine ls<|gnu o rfl rfl rfl λa o=>?_
 exact qn o λo=>qk o (Ab o rfl rfl) key u hb
 intro hb o key
 refine qg o (Aa o rfl) λo=>qg o (Bi o rfl) λo=>qg o (Aa o rfl) λo=>gr (Fk:=[(0,SL I0 p1 D0),(1,.bool p6),(5,i6 C0),(21,.bool false),(31,.bool ((!p6) && (decide (J0.Name≠[]))))]) 24 7 o u ?_ ?_ ?_
 intro hb o key
 iterate 2 refine qg o (Aa o rfl) λo=>?_
 exact qg o (eI o Da sizeOf78 rfl rfl h9 E0) λo=>qg o (Ad o Jm rfl) λo=>qg o (eD o isAgg9 rfl u.ld (F0 0 _ rfl)) λo=>qg o (H4 (m:=J0.Name) (n:=[]) o rfl rfl) λo=>ql o (Ab o rfl rfl) key u hb
 intro hb o key
 iterate 6 refine qn o λo=>?_
 exact ql o (Ac o rfl rfl) key u hb
 intro a w o u
 exact qk o (Ac o rfl rfl) key u hb
 intro a w o u
 refine qv o (As (Aa o rfl) (congrArg Value.bool M0)) λo=>?_
 iterate 7 refine qn o λo=>?_
 refine qv o (Ab o rfl rfl) λo=>qm o rfl λo=>?_
 iterate 7 refine qn o λo=>?_
 refine qv o (Ab o rfl rfl) λo=>re<|tn<|?_
 exact ⟨true,hm,o.hs,u⟩
 obtain ⟨D1,E1,hm⟩:=bs hm
 rcases bit hm with ⟨P0,hm⟩ | ⟨P0,hm⟩
 have P0':(!D1)=false:=by rw [P0];rfl
 obtain ⟨Q1,R1,hm⟩:=bs hm
 refine rg<|qm o rfl λo=>?_
 iterate 2 refine qm o rfl λo=>?_
 refine qv o (eI o Da sizeOf78 rfl rfl h9 E0) λo=>qf o Jm rfl λo=>qv o (eD o isAgg9 rfl u.ld (F0 0 _ rfl)) λo=>ls<|cr o call87 (Mg (Ag _) Y0) u λu o=>qv o (Js o ru4 rfl rfl) λo=>qm o rfl λo=>gr (Fk:=[(0,SL I0 p1 D0),(1,.bool p6),(5,i6 C0),(32,.bool ((p6 != W0) || ((!p6) && (decide (J0.Name≠[])))))]) 21 11 o u ?_ ?_ ?_
 intro hb o key
 iterate 3 refine qn o λo=>?_
 iterate 6 refine ls<|gnu o rfl rfl rfl λa o=>?_
 exact qn o λo=>qk o (Ab o rfl rfl) key u hb
 intro hb o key
 refine qg o (Aa o rfl) λo=>qg o (Bi o rfl) λo=>qg o (Aa o rfl) λo=>gr (Fk:=[(0,SL I0 p1 D0),(1,.bool p6),(5,i6 C0),(21,.bool false),(31,.bool ((!p6) && (decide (J0.Name≠[]))))]) 24 7 o u ?_ ?_ ?_
 intro hb o key
 iterate 2 refine qg o (Aa o rfl) λo=>?_
 exact qg o (eI o Da sizeOf78 rfl rfl h9 E0) λo=>qg o (Ad o Jm rfl) λo=>qg o (eD o isAgg9 rfl u.ld (F0 0 _ rfl)) λo=>qg o (H4 (m:=J0.Name) (n:=[]) o rfl rfl) λo=>ql o (Ab o rfl rfl) key u hb
 intro hb o key
 iterate 6 refine qn o λo=>?_
 exact ql o (Ac o rfl rfl) key u hb
 intro a w o u
 exact qk o (Ac o rfl rfl) key u hb
 intro a w o u
 refine qv o (As (Aa o rfl) (congrArg Value.bool M0)) λo=>?_
 iterate 2 refine qg o (Aa o rfl) λo=>?_
 refine qg o (eI o Da sizeOf78 rfl rfl h9 E0) λo=>qg o (Ad o Rj rfl) λo=>qg o (eD o isAgg3 rfl u.ld (F0 3 _ rfl)) λo=>ls<|gy o rfl rfl<|cr o call82 (Xb (Ag _) E1) u λu o=>qg o (Bi o rfl) λo=>qv o (Ac o rfl rfl) λo=>qv o (As (Aa o rfl) (congrArg Value.bool P0')) λo=>?_
 iterate 2 refine qg o (Aa o rfl) λo=>?_
 refine qg o (eI o Da sizeOf78 rfl rfl h9 E0) λo=>qg o (Ad o Mt rfl) λo=>qg o (eD o isAgg76 rfl u.ld (F0 2 _ rfl)) λo=>ls<|gy o rfl rfl<|cr o call98 (JgT (Ag _) I1 (St.srH u J1) R1) u λu o=>qg o (Bi o rfl) λo=>qv o (Ac o rfl rfl) λo=>re<|tn<|?_
 exact ⟨(!Q1),hm,o.hs,u⟩
 have P0':(!D1)=true:=by rw [P0];rfl
 refine rg<|qm o rfl λo=>?_
 iterate 2 refine qm o rfl λo=>?_
 refine qv o (eI o Da sizeOf78 rfl rfl h9 E0) λo=>qf o Jm rfl λo=>qv o (eD o isAgg9 rfl u.ld (F0 0 _ rfl)) λo=>ls<|cr o call87 (Mg (Ag _) Y0) u λu o=>qv o (Js o ru4 rfl rfl) λo=>qm o rfl λo=>gr (Fk:=[(0,SL I0 p1 D0),(1,.bool p6),(5,i6 C0),(32,.bool ((p6 != W0) || ((!p6) && (decide (J0.Name≠[])))))]) 21 11 o u ?_ ?_ ?_
 intro hb o key
 iterate 3 refine qn o λo=>?_
 iterate 6 refine ls<|gnu o rfl rfl rfl λa o=>?_
 exact qn o λo=>qk o (Ab o rfl rfl) key u hb
 intro hb o key
 refine qg o (Aa o rfl) λo=>qg o (Bi o rfl) λo=>qg o (Aa o rfl) λo=>gr (Fk:=[(0,SL I0 p1 D0),(1,.bool p6),(5,i6 C0),(21,.bool false),(31,.bool ((!p6) && (decide (J0.Name≠[]))))]) 24 7 o u ?_ ?_ ?_
 intro hb o key
 iterate 2 refine qg o (Aa o rfl) λo=>?_
 exact qg o (eI o Da sizeOf78 rfl rfl h9 E0) λo=>qg o (Ad o Jm rfl) λo=>qg o (eD o isAgg9 rfl u.ld (F0 0 _ rfl)) λo=>qg o (H4 (m:=J0.Name) (n:=[]) o rfl rfl) λo=>ql o (Ab o rfl rfl) key u hb
 intro hb o key
 iterate 6 refine qn o λo=>?_
 exact ql o (Ac o rfl rfl) key u hb
 intro a w o u
 exact qk o (Ac o rfl rfl) key u hb
 intro a w o u
 refine qv o (As (Aa o rfl) (congrArg Value.bool M0)) λo=>?_
 iterate 2 refine qg o (Aa o rfl) λo=>?_
 refine qg o (eI o Da sizeOf78 rfl rfl h9 E0) λo=>qg o (Ad o Rj rfl) λo=>qg o (eD o isAgg3 rfl u.ld (F0 3 _ rfl)) λo=>ls<|gy o rfl rfl<|cr o call82 (Xb (Ag _) E1) u λu o=>qg o (Bi o rfl) λo=>qv o (Ac o rfl rfl) λo=>qv o (As (Aa o rfl) (congrArg Value.bool P0')) λo=>?_
 iterate 7 refine qn o λo=>?_
 refine qv o (Ab o rfl rfl) λo=>re<|tn<|?_
 exact ⟨true,hm,o.hs,u⟩
 rintro a w ⟨V0,hm,o,u⟩
 unfold Z2u at hm
 rcases bit hm with ⟨Q0,hm⟩ | ⟨Q0,hm⟩
 refine ctv o rfl Q0<|th<|rg<|qa o rfl λo=>re<|tn<|wr<|tr<|br<|tr<|tr<|br<|tr<|?_
 obtain rfl:=si hm
 exact r1 o results83 rfl ⟨rfl,u.keep⟩
 refine cfv o rfl Q0<|wk<|tn<|th<|rg<|qa o rfl λo=>re<|tn<|wb<|lp (α:=Nat×Int) (λgh a w=>match gh with | (O0,T0)=>(Z2w N (Z2t (Z2v N Z2s p1 p6 K0) C0) p1 C0) O0 T0=some r∧Fr 71 [(0,SL I0 p1 D0),(1,.bool p6),(5,i6 C0),(6,i6 T0)] a∧St w0 Nil [H] [] w) (λgh=>gh.1) (N,0) ⟨hm,o.hs,u⟩ ?_
 rintro ⟨O0,T0⟩ a w ⟨hm,o,u⟩
 obtain _ | O0:=O0
 simp [Z2w] at hm
 rw [Z2w] at hm
 refine th<|th<|?_
 obtain ⟨S1,j0,hm⟩:=bs hm
 obtain ⟨Y2,T1,n0⟩:=SR.get E0 j0
 obtain ⟨P2,E2,R2,F2,rfl,T2,C1,U2,V2⟩:=Bm T1
 refine rg<|qm o rfl λo=>?_
 iterate 2 refine qm o rfl λo=>?_
 refine qv o (eI o Da sizeOf78 rfl rfl j0 E0) λo=>qf o Ec rfl λo=>qv o (eD o isAgg75 rfl u.ld (n0 1 _ rfl)) λo=>qv o (Aj (α:=Str) (xs:=S1.Regs) o Ly rfl) λo=>qv o (Am o rfl rfl) λo=>re<|?_
 rcases bip hm with ⟨R0,hm⟩ | ⟨R0,hm⟩
 refine tn<|ctv o rfl R0<|wk<|tn<|th<|wb<|th<|?_
 obtain ⟨U1,F1,hm⟩:=bs hm
 obtain ⟨V1,X1,O1⟩:=SR.get C1 F1
 obtain rfl:V1=[Ae U1]:=X1
 obtain ⟨A3,Y1,hm⟩:=bs hm
 refine rg<|qm o rfl λo=>qm o rfl λo=>qv o (eI o Da sizeOf78 rfl rfl j0 E0) λo=>qf o Ec rfl λo=>qv o (eD o isAgg75 rfl u.ld (n0 1 _ rfl)) λo=>qm o rfl λo=>qv o (eI o Ly sizeOf9 rfl rfl F1 C1) λo=>qv o (eD o isAgg9 rfl u.ld (O1 0 _ rfl)) λo=>ls<|cr o call87 (Mg (Ag _) Y1) u λu o=>qv o (Bi o rfl) λo=>re<|?_
 rcases bit hm with ⟨S0,hm⟩ | ⟨S0,hm⟩
 refine tn<|cfv o rfl (by rw [S0];rfl)<|wk<|bn<|tn<|rg<|qm o rfl λo=>qv o (Ao o rfl rfl) λo=>qa o rfl λo=>re<|tn<|?_
 exact ⟨(O0,(i64.wrap (T0+1))),⟨hm,o.hs,u⟩,kxd _⟩
 refine tn<|ctv o rfl (by rw [S0];rfl)<|th<|rg<|qa o rfl λo=>re<|tn<|wr<|br<|tr<|tr<|br<|br<|tr<|tr<|br<|tr<|?_
 obtain rfl:=si hm
 exact r1 o results83 rfl ⟨rfl,u.keep⟩
 refine tn<|cfv o rfl R0<|we<|tx<|tx<|bx<|bn<|tn<|?_
 exact ⟨hm,o.hs,u⟩
 rintro a w ⟨hm,o,u⟩
 unfold Z2t at hm
 refine rg<|qm o rfl λo=>qv o (Ao o rfl rfl) λo=>qa o rfl λo=>re<|tn<|?_
 exact ⟨(K0,(i64.wrap (C0+1))),⟨hm,o.hs,u⟩,kxd _⟩
 refine tn<|cfv o rfl U0<|we<|tx<|tx<|bx<|tn<|?_
 exact ⟨hm,o.has trivial,u⟩
 rintro a w ⟨hm,o,u⟩
 unfold Z2s at hm
 refine th<|rg<|qa o rfl λo=>re<|tn<|wr<|?_
 obtain rfl:=si hm
 exact r1 o results83 rfl ⟨rfl,u.keep⟩
theorem JfR (hH:H.le w0) {cs2:List Value} {p1:api_Prog} (g3:Enc.rep H cs2 p1) {r:Bool} (hm:Z2f N p1=some r):Tot Tryz.prog 49 #[.agg cs2.toArray] w0 (λv w'=>v=.bool r∧Keep Nil w0 w'):=by
 unfold Z2f at hm
 refine fn0 func49 rfl ntmps49 rfl rfl λa o=>?_
 have u:St w0 Nil [H] [] w0:=start1 hH
 obtain ⟨M0,F0,O0,I0,oa12,cap13,oa16,cap17,J0,C0,K0,D0,rfl,L3,R1,U0,V0,j0,n0,V1,X1,K2,O2,I3,W0⟩:=Bc g3
 refine th<|rg<|ls<|Bo (cs:=(pgC M0 F0 O0 I0 oa12 cap13 oa16 cap17 J0 C0 K0 D0 p1).toArray) o rfl u rfl rfl λE0 w a u o=>qa o rfl λo=>re<|tn<|th<|th<|rg<|qa o rfl λo=>re<|tn<|Av (λa w=>(Z2g N p1)=some r∧Fr 77 [(1,PT E0)] a∧St w0 Nil [H] [bk E0 (pgC M0 F0 O0 I0 oa12 cap13 oa16 cap17 J0 C0 K0 D0 p1) 27] w) ?_ ?_
 refine wb<|lp (α:=Nat×Int) (λgh a w=>match gh with | (Q0,R0)=>(Z2k N (Z2g N p1) p1) Q0 R0=some r∧Fr 77 [(1,PT E0),(3,i6 R0)] a∧St w0 Nil [H] [bk E0 (pgC M0 F0 O0 I0 oa12 cap13 oa16 cap17 J0 C0 K0 D0 p1) 27] w) (λgh=>gh.1) (N,0) ⟨hm,o.hs,u⟩ ?_
 rintro ⟨Q0,R0⟩ a w ⟨hm,o,u⟩
 obtain _ | Q0:=Q0
 simp [Z2k] at hm
 rw [Z2k] at hm
 refine th<|th<|rg<|qm o rfl λo=>qf o Ei rfl λo=>qB o isAgg22 rfl u t0 rfl λo=>qv o (Aj (α:=(List api_Cell)) (xs:=p1.Lines) o Ms rfl) λo=>qv o (Am o rfl rfl) λo=>re<|?_
 rcases bip hm with ⟨C1,hm⟩ | ⟨C1,hm⟩
 refine tn<|ctv o rfl C1<|wk<|tn<|th<|wb<|th<|Av (λa w=>∃ (Y1:Bool),(Z2h (Z2k N (Z2g N p1) p1 Q0) R0) Y1=some r∧Fr 77 [(1,PT E0),(3,i6 R0),(27,.bool Y1)] a∧St w0 Nil [H] [bk E0 (pgC M0 F0 O0 I0 oa12 cap13 oa16 cap17 J0 C0 K0 D0 p1) 27] w) ?_ ?_
 obtain ⟨E2,S1,hm⟩:=bs hm
 obtain ⟨M3,V2,D1⟩:=SR.get R1 S1
 obtain ⟨J3,E3,rfl,P2,R2⟩:=V2
 rcases bip hm with ⟨E1,hm⟩ | ⟨E1,hm⟩
 refine rg<|qf o Ei rfl λo=>qB o isAgg22 rfl u t0 rfl λo=>qm o rfl λo=>qv o (eI o Ms sizeOf23 rfl rfl S1 R1) λo=>qv o (eD o isAgg23 rfl u.ld (D1 0 _ rfl)) λo=>qv o (Aj (α:=api_Cell) (xs:=E2) o Fz rfl) λo=>qv o (Ah o rfl rfl) λo=>qv o (As (Aa o rfl) (congrArg Value.bool E1)) λo=>?_
 iterate 7 refine qn o λo=>?_
 refine qv o (Ab o rfl rfl) λo=>re<|tn<|?_
 exact ⟨true,hm,o.hs,u⟩
 obtain ⟨W2,X2,hm⟩:=bs hm
 refine rg<|qf o Ei rfl λo=>qB o isAgg22 rfl u t0 rfl λo=>qm o rfl λo=>qv o (eI o Ms sizeOf23 rfl rfl S1 R1) λo=>qv o (eD o isAgg23 rfl u.ld (D1 0 _ rfl)) λo=>qv o (Aj (α:=api_Cell) (xs:=E2) o Fz rfl) λo=>qv o (Ah o rfl rfl) λo=>qv o (As (Aa o rfl) (congrArg Value.bool E1)) λo=>qg o (Ad o Ei rfl) λo=>qg o (eB o isAgg22 rfl u.ld t0 rfl) λo=>qg o (Aa o rfl) λo=>qg o (eI o Ms sizeOf23 rfl rfl S1 R1) λo=>qg o (eD o isAgg23 rfl u.ld (D1 0 _ rfl)) λo=>ls<|gy o rfl rfl<|cr o call81 (O9 (Ag _) P2 (St.srH u R2) X2) u λu o=>qg o (Bi o rfl) λo=>qv o (Ac o rfl rfl) λo=>re<|tn<|?_
 exact ⟨(!W2),hm,o.hs,u⟩
 rintro a w ⟨Y1,hm,o,u⟩
 unfold Z2h at hm
 rcases bit hm with ⟨F1,hm⟩ | ⟨F1,hm⟩
 refine ctv o rfl F1<|th<|rg<|qa o rfl λo=>re<|tn<|wr<|br<|tr<|tr<|br<|tr<|?_
 obtain rfl:=si hm
 exact r1 o results49 rfl ⟨rfl,u.keep⟩
 refine cfv o rfl F1<|wk<|bn<|tn<|rg<|qm o rfl λo=>qv o (Ao o rfl rfl) λo=>qa o rfl λo=>re<|tn<|?_
 exact ⟨(Q0,(i64.wrap (R0+1))),⟨hm,o.hs,u⟩,kxd _⟩
 refine tn<|cfv o rfl C1<|we<|tx<|tx<|bx<|tn<|?_
 exact ⟨hm,o.hs,u⟩
 rintro a w ⟨hm,o,u⟩
 unfold Z2g at hm
 refine th<|th<|rg<|qa o rfl λo=>re<|tn<|Av (λa w=>(Z2i N p1)=some r∧Fr 77 [(1,PT E0)] a∧St w0 Nil [H] [bk E0 (pgC M0 F0 O0 I0 oa12 cap13 oa16 cap17 J0 C0 K0 D0 p1) 27] w) ?_ ?_
 refine wb<|lp (α:=Nat×Int) (λgh a w=>match gh with | (S0,T0)=>(Z2l N (Z2i N p1) p1) S0 T0=some r∧Fr 77 [(1,PT E0),(4,i6 T0)] a∧St w0 Nil [H] [bk E0 (pgC M0 F0 O0 I0 oa12 cap13 oa16 cap17 J0 C0 K0 D0 p1) 27] w) (λgh=>gh.1) (N,0) ⟨hm,o.hs,u⟩ ?_
 rintro ⟨S0,T0⟩ a w ⟨hm,o,u⟩
 obtain _ | S0:=S0
 simp [Z2l] at hm
 rw [Z2l] at hm
 refine th<|th<|rg<|qm o rfl λo=>qf o Fw rfl λo=>qB o isAgg25 rfl u t0 rfl λo=>qv o (Aj (α:=api_Claim) (xs:=p1.Claims) o Pp rfl) λo=>qv o (Am o rfl rfl) λo=>re<|?_
 rcases bip hm with ⟨I1,hm⟩ | ⟨I1,hm⟩
 refine tn<|ctv o rfl I1<|wk<|tn<|th<|wb<|th<|Av (λa w=>∃ (u1:Bool),(Z2j (Z2l N (Z2i N p1) p1 S0) T0) u1=some r∧Fr 77 [(1,PT E0),(4,i6 T0),(52,.bool u1)] a∧St w0 Nil [H] [bk E0 (pgC M0 F0 O0 I0 oa12 cap13 oa16 cap17 J0 C0 K0 D0 p1) 27] w) ?_ ?_
 obtain ⟨O3,T1,hm⟩:=bs hm
 obtain ⟨P3,Y2,J1⟩:=SR.get W0 T1
 obtain ⟨K3,F3,rfl,T2,U2⟩:=Fj Y2
 obtain ⟨F2,I2,hm⟩:=bs hm
 rcases bit hm with ⟨O1,hm⟩ | ⟨O1,hm⟩
 have O1':(!F2)=false:=by rw [O1];rfl
 obtain ⟨A3,B3,hm⟩:=bs hm
 refine rg<|qf o Fw rfl λo=>qB o isAgg25 rfl u t0 rfl λo=>qm o rfl λo=>qv o (eI o Pp sizeOf84 rfl rfl T1 W0) λo=>qf o Ja1 rfl λo=>qv o (eD o isAgg3 rfl u.ld (J1 1 _ rfl)) λo=>ls<|cr o call82 (Xb (Ag _) I2) u λu o=>qv o (Bi o rfl) λo=>qv o (As (Aa o rfl) (congrArg Value.bool O1')) λo=>qg o (Ad o Fw rfl) λo=>qg o (eB o isAgg25 rfl u.ld t0 rfl) λo=>qg o (Aa o rfl) λo=>qg o (eI o Pp sizeOf84 rfl rfl T1 W0) λo=>qg o (Ad o Ub rfl) λo=>qg o (eD o isAgg82 rfl u.ld (J1 0 _ rfl)) λo=>ls<|gy o rfl rfl<|cr o call61 (Wn (Ag _) T2 (St.srH u U2) B3) u λu o=>qg o (Bi o rfl) λo=>qv o (Ac o rfl rfl) λo=>re<|tn<|?_
 exact ⟨(!A3),hm,o.hs,u⟩
 have O1':(!F2)=true:=by rw [O1];rfl
 refine rg<|qf o Fw rfl λo=>qB o isAgg25 rfl u t0 rfl λo=>qm o rfl λo=>qv o (eI o Pp sizeOf84 rfl rfl T1 W0) λo=>qf o Ja1 rfl λo=>qv o (eD o isAgg3 rfl u.ld (J1 1 _ rfl)) λo=>ls<|cr o call82 (Xb (Ag _) I2) u λu o=>qv o (Bi o rfl) λo=>qv o (As (Aa o rfl) (congrArg Value.bool O1')) λo=>?_
 iterate 8 refine qn o λo=>?_
 refine qv o (Ab o rfl rfl) λo=>re<|tn<|?_
 exact ⟨true,hm,o.hs,u⟩
 rintro a w ⟨u1,hm,o,u⟩
 unfold Z2j at hm
 rcases bit hm with ⟨P1,hm⟩ | ⟨P1,hm⟩
 refine ctv o rfl P1<|th<|rg<|qa o rfl λo=>re<|tn<|wr<|br<|tr<|tr<|br<|tr<|?_
 obtain rfl:=si hm
 exact r1 o results49 rfl ⟨rfl,u.keep⟩
 refine cfv o rfl P1<|wk<|bn<|tn<|rg<|qm o rfl λo=>qv o (Ao o rfl rfl) λo=>qa o rfl λo=>re<|tn<|?_
 exact ⟨(S0,(i64.wrap (T0+1))),⟨hm,o.hs,u⟩,kxd _⟩
 refine tn<|cfv o rfl I1<|we<|tx<|tx<|bx<|tn<|?_
 exact ⟨hm,o.hs,u⟩
 rintro a w ⟨hm,o,u⟩
 unfold Z2i at hm
 refine th<|?_
 obtain ⟨Q3,U1,hm⟩:=bs hm
 rcases bit hm with ⟨P0,hm⟩ | ⟨P0,hm⟩
 obtain ⟨R3,C2,hm⟩:=bs hm
 rcases bit hm with ⟨Y0,hm⟩ | ⟨Y0,hm⟩
 obtain ⟨S3,J2,hm⟩:=bs hm
 rcases bit hm with ⟨Q1,hm⟩ | ⟨Q1,hm⟩
 obtain ⟨C3,D3,hm⟩:=bs hm
 refine rg<|qf o Km rfl λo=>qB o isAgg23 rfl u t0 rfl λo=>ls<|cr o call81 (O9 (Ag _) U0 (St.srH u V0) U1) u λu o=>qv o (As (Aa o rfl) (congrArg Value.bool P0)) λo=>qg o (Ad o Kw rfl) λo=>qg o (eB o isAgg23 rfl u.ld t0 rfl) λo=>ls<|gy o rfl rfl<|cr o call81 (O9 (Ag _) j0 (St.srH u n0) C2) u λu o=>qv o (Ab o rfl rfl) λo=>qv o (As (Aa o rfl) (congrArg Value.bool Y0)) λo=>qg o (Ad o Ia rfl) λo=>qg o (eB o isAgg24 rfl u.ld t0 rfl) λo=>ls<|gy o rfl rfl<|cr o call83 (Jc2 (Ag _) V1 (St.srH u X1) J2) u λu o=>qv o (Ab o rfl rfl) λo=>qv o (As (Aa o rfl) (congrArg Value.bool Q1)) λo=>qg o (Ad o Oe rfl) λo=>qg o (eB o isAgg24 rfl u.ld t0 rfl) λo=>ls<|gy o rfl rfl<|cr o call83 (Jc2 (Ag _) K2 (St.srH u O2) D3) u λu o=>qv o (Ab o rfl rfl) λo=>qm o rfl λo=>gr (Fk:=[(76,.bool (C3 && (decide ((p1.Recover.length:Int)≤1))))]) 71 5 o u ?_ ?_ ?_
 intro hb o key
 exact qg o (Ad o Oe rfl) λo=>qg o (eB o isAgg24 rfl u.ld t0 rfl) λo=>qg o (Aj (α:=api_Thread) (xs:=p1.Recover) o Da rfl) λo=>qg o (Gd o rfl rfl) λo=>qk o (Ab o rfl rfl) key u hb
 intro hb o key
 iterate 4 refine qn o λo=>?_
 exact qk o (Ac o rfl rfl) key u hb
 intro a w o u
 refine qa o rfl λo=>re<|tn<|wr<|?_
 obtain rfl:=si hm
 exact r1 o results49 rfl ⟨rfl,u.keep⟩
 refine rg<|qf o Km rfl λo=>qB o isAgg23 rfl u t0 rfl λo=>ls<|cr o call81 (O9 (Ag _) U0 (St.srH u V0) U1) u λu o=>qv o (As (Aa o rfl) (congrArg Value.bool P0)) λo=>qg o (Ad o Kw rfl) λo=>qg o (eB o isAgg23 rfl u.ld t0 rfl) λo=>ls<|gy o rfl rfl<|cr o call81 (O9 (Ag _) j0 (St.srH u n0) C2) u λu o=>qv o (Ab o rfl rfl) λo=>qv o (As (Aa o rfl) (congrArg Value.bool Y0)) λo=>qg o (Ad o Ia rfl) λo=>qg o (eB o isAgg24 rfl u.ld t0 rfl) λo=>ls<|gy o rfl rfl<|cr o call83 (Jc2 (Ag _) V1 (St.srH u X1) J2) u λu o=>qv o (Ab o rfl rfl) λo=>qv o (As (Aa o rfl) (congrArg Value.bool Q1)) λo=>?_
 iterate 3 refine qn o λo=>?_
 refine qv o (Ac o rfl rfl) λo=>qm o rfl λo=>?_
 iterate 4 refine qn o λo=>?_
 refine qv o (Ac o rfl rfl) λo=>qa o rfl λo=>re<|tn<|wr<|?_
 obtain rfl:=si hm
 exact r1 o results49 rfl ⟨rfl,u.keep⟩
 refine rg<|qf o Km rfl λo=>qB o isAgg23 rfl u t0 rfl λo=>ls<|cr o call81 (O9 (Ag _) U0 (St.srH u V0) U1) u λu o=>qv o (As (Aa o rfl) (congrArg Value.bool P0)) λo=>qg o (Ad o Kw rfl) λo=>qg o (eB o isAgg23 rfl u.ld t0 rfl) λo=>ls<|gy o rfl rfl<|cr o call81 (O9 (Ag _) j0 (St.srH u n0) C2) u λu o=>qv o (Ab o rfl rfl) λo=>qv o (As (Aa o rfl) (congrArg Value.bool Y0)) λo=>?_
 iterate 3 refine qn o λo=>?_
 refine qv o (Ac o rfl rfl) λo=>qm o rfl λo=>?_
 iterate 3 refine qn o λo=>?_
 refine qv o (Ac o rfl rfl) λo=>qm o rfl λo=>?_
 iterate 4 refine qn o λo=>?_
 refine qv o (Ac o rfl rfl) λo=>qa o rfl λo=>re<|tn<|wr<|?_
 obtain rfl:=si hm
 exact r1 o results49 rfl ⟨rfl,u.keep⟩
 refine rg<|qf o Km rfl λo=>qB o isAgg23 rfl u t0 rfl λo=>ls<|cr o call81 (O9 (Ag _) U0 (St.srH u V0) U1) u λu o=>qv o (As (Aa o rfl) (congrArg Value.bool P0)) λo=>?_
 iterate 3 refine qn o λo=>?_
 refine qv o (Ac o rfl rfl) λo=>qm o rfl λo=>?_
 iterate 3 refine qn o λo=>?_
 refine qv o (Ac o rfl rfl) λo=>qm o rfl λo=>?_
 iterate 3 refine qn o λo=>?_
 refine qv o (Ac o rfl rfl) λo=>qm o rfl λo=>?_
 iterate 4 refine qn o λo=>?_
 refine qv o (Ac o rfl rfl) λo=>qa o rfl λo=>re<|tn<|wr<|?_
 obtain rfl:=si hm
 exact r1 o results49 rfl ⟨rfl,u.keep⟩
theorem JeF (hH:H.le w0) {cs2:List Value} {p1:api_Prog} (g3:Enc.rep H cs2 p1) {r:(List api_Thread)} (hm:Z3x N p1=some r):Tot Tryz.prog 51 #[.agg cs2.toArray] w0 (λv w'=>∃ (H':PH) (F0:Option Addr) (C0:Nat),v=SL F0 r C0∧r.length≤C0∧SR H' F0 r∧Ext w0 H H'∧H'.le w'∧Keep Nil w0 w'):=by
 unfold Z3x at hm
 refine fn0 func51 rfl ntmps51 rfl rfl λa o=>?_
 have u:St w0 Nil [H] [] w0:=start1 hH
 obtain ⟨W0,I0,Y0,J0,oa12,cap13,oa16,cap17,K0,D0,M0,E0,rfl,Y1,u1,F1,I1,J1,O1,P1,O0,Q1,P0,R1,S1⟩:=Bc g3
 refine th<|rg<|ls<|Bo (cs:=(pgC W0 I0 Y0 J0 oa12 cap13 oa16 cap17 K0 D0 M0 E0 p1).toArray) o rfl u rfl rfl λC2 w a u o=>qa o rfl λo=>re<|tn<|th<|?_
 obtain ⟨j0,n0,hm⟩:=bs hm
 refine rg<|ls<|bz (e:=78) (sz:=4) [] o u λE2 u o=>?_
 have Q0:Rows (α:=api_Thread) H [] []:=.nil
 refine qf o Ia rfl λo=>qB o isAgg24 rfl u t1 rfl λo=>?_
 obtain ⟨us38,hd39,hu40⟩:=id O0
 refine ls<|Ay (α:=api_Thread) (xs:=[]) (ys:=p1.Threads) o rfl u underlying24 Jax rfl (by decide) rfl rfl rfl t0 Q0 (u.rdH t0 hd39) hu40 n0 λT1 D1 U1 w a R0 hU o=>?_
 replace u:=hU _ .head
 refine qa o rfl λo=>re<|tn<|th<|?_
 obtain ⟨F2,C1,hm⟩:=bs hm
 refine rg<|qm o rfl λo=>qf o Oe rfl λo=>qB o isAgg24 rfl u t1 rfl λo=>?_
 obtain ⟨us47,hd48,hu49⟩:=id P0
 refine ls<|Ay (α:=api_Thread) (xs:=j0) (ys:=p1.Recover) o rfl u underlying24 Jax rfl (by decide) rfl rfl rfl t0 R0 (u.rdH t0 hd48) hu49 C1 λV1 E1 X1 w a S0 hU o=>?_
 replace u:=hU _ .head
 refine qa o rfl λo=>re<|tn<|wr<|?_
 obtain ⟨H53,T0,U0,V0,u⟩:=St.frzS u .head S0
 obtain rfl:=si hm
 exact r1 o results51 rfl ⟨H53,_,_,rfl,V0,U0,T0,(St.le u),u.keep⟩
theorem Jha (hH:H.le w0) {cs2:List Value} {p1:api_Prog} (g3:Enc.rep H cs2 p1) {r:Bool} (hm:Z3y N p1=some r):Tot Tryz.prog 50 #[.agg cs2.toArray] w0 (λv w'=>v=.bool r∧Keep Nil w0 w'):=by
 unfold Z3y at hm
 refine fn0 func50 rfl ntmps50 rfl rfl λa o=>?_
 have u:St w0 Nil [H] [] w0:=start1 hH
 obtain ⟨M0,F0,O0,I0,oa12,cap13,oa16,cap17,J0,D0,K0,E0,rfl,E3,D1,u1,C2,E2,F2,I2,J2,K2,O2,P2,R2⟩:=Bc g3
 refine th<|rg<|ls<|Bo (cs:=(pgC M0 F0 O0 I0 oa12 cap13 oa16 cap17 J0 D0 K0 E0 p1).toArray) o rfl u rfl rfl λC0 w a u o=>qa o rfl λo=>re<|tn<|th<|th<|rg<|qa o rfl λo=>re<|tn<|Av (λa w=>(Z3z N p1)=some r∧Fr 69 [(1,PT C0)] a∧St w0 Nil [H] [bk C0 (pgC M0 F0 O0 I0 oa12 cap13 oa16 cap17 J0 D0 K0 E0 p1) 27] w) ?_ ?_
 refine wb<|lp (α:=Nat×Int) (λgh a w=>match gh with | (P0,W0)=>(Z41 N (Z3z N p1) p1) P0 W0=some r∧Fr 69 [(1,PT C0),(3,i6 W0)] a∧St w0 Nil [H] [bk C0 (pgC M0 F0 O0 I0 oa12 cap13 oa16 cap17 J0 D0 K0 E0 p1) 27] w) (λgh=>gh.1) (N,0) ⟨hm,o.hs,u⟩ ?_
 rintro ⟨P0,W0⟩ a w ⟨hm,o,u⟩
 obtain _ | P0:=P0
 simp [Z41] at hm
 rw [Z41] at hm
 refine th<|th<|rg<|qm o rfl λo=>qf o Ei rfl λo=>qB o isAgg22 rfl u t0 rfl λo=>qv o (Aj (α:=(List api_Cell)) (xs:=p1.Lines) o Ms rfl) λo=>qv o (Am o rfl rfl) λo=>re<|?_
 rcases bip hm with ⟨R0,hm⟩ | ⟨R0,hm⟩
 refine tn<|ctv o rfl R0<|wk<|tn<|th<|wb<|th<|?_
 obtain ⟨Q1,E1,hm⟩:=bs hm
 obtain ⟨F3,R1,I1⟩:=SR.get D1 E1
 obtain ⟨T2,V1,rfl,U2,V2⟩:=R1
 refine rg<|qf o Ei rfl λo=>qB o isAgg22 rfl u t0 rfl λo=>qm o rfl λo=>qv o (eI o Ms sizeOf23 rfl rfl E1 D1) λo=>qv o (eD o isAgg23 rfl u.ld (I1 0 _ rfl)) λo=>qv o (Aj (α:=api_Cell) (xs:=Q1) o Fz rfl) λo=>qv o (Ba o rfl rfl) λo=>re<|?_
 rcases bip hm with ⟨S0,hm⟩ | ⟨S0,hm⟩
 refine tn<|ctv o rfl S0<|th<|rg<|qa o rfl λo=>re<|tn<|wr<|br<|tr<|tr<|br<|tr<|?_
 obtain rfl:=si hm
 exact r1 o results50 rfl ⟨rfl,u.keep⟩
 refine tn<|cfv o rfl S0<|wk<|bn<|tn<|rg<|qm o rfl λo=>qv o (Ao o rfl rfl) λo=>qa o rfl λo=>re<|tn<|?_
 exact ⟨(P0,(i64.wrap (W0+1))),⟨hm,o.hs,u⟩,kxd _⟩
 refine tn<|cfv o rfl R0<|we<|tx<|tx<|bx<|tn<|?_
 exact ⟨hm,o.hs,u⟩
 rintro a w ⟨hm,o,u⟩
 unfold Z3z at hm
 refine th<|?_
 obtain ⟨j0,S1,hm⟩:=bs hm
 refine rg<|qv o (An o Tryz.isAgg27 Tryz.sizeOf27 rfl rfl (u.ld.cellsB t0)) λo=>ls<|c1 o rfl call51 (JeF (St.le u) g3 S1) ⟨rfl,trivial⟩ (λv w a hR o=>?_)
 obtain ⟨H45,J1,C1,rfl,W2,n0,T0,O1,hk⟩:=hR
 obtain ⟨u,T0⟩:=And.intro (St.passH u hk T0 O1) (St.extc u T0)
 refine qa o rfl λo=>re<|tn<|th<|th<|rg<|qa o rfl λo=>re<|tn<|Av (λa w=>(Z40 p1)=some r∧Fr 69 [(1,PT C0)] a∧St w0 Nil [H45] [bk C0 (pgC M0 F0 O0 I0 oa12 cap13 oa16 cap17 J0 D0 K0 E0 p1) 27] w) ?_ ?_
 refine wb<|lp (α:=Nat×Int) (λgh a w=>match gh with | (Q0,Y0)=>(Z42 N (Z40 p1) j0) Q0 Y0=some r∧Fr 69 [(1,PT C0),(4,SL J1 j0 C1),(5,i6 Y0)] a∧St w0 Nil [H45] [bk C0 (pgC M0 F0 O0 I0 oa12 cap13 oa16 cap17 J0 D0 K0 E0 p1) 27] w) (λgh=>gh.1) (N,0) ⟨hm,o.hs,u⟩ ?_
 rintro ⟨Q0,Y0⟩ a w ⟨hm,o,u⟩
 obtain _ | Q0:=Q0
 simp [Z42] at hm
 rw [Z42] at hm
 refine th<|th<|rg<|qm o rfl λo=>qm o rfl λo=>qv o (Aj (α:=api_Thread) (xs:=j0) o Da rfl) λo=>qv o (Am o rfl rfl) λo=>re<|?_
 rcases bip hm with ⟨U0,hm⟩ | ⟨U0,hm⟩
 refine tn<|ctv o rfl U0<|wk<|tn<|th<|wb<|th<|?_
 obtain ⟨T1,F1,hm⟩:=bs hm
 obtain ⟨I3,U1,P1⟩:=SR.get n0 F1
 obtain ⟨X2,X1,Y2,Y1,rfl,A3,B3,C3,D3⟩:=Bm U1
 refine rg<|qm o rfl λo=>qm o rfl λo=>qv o (eI o Da sizeOf78 rfl rfl F1 n0) λo=>qf o Ec rfl λo=>qv o (eD o isAgg75 rfl u.ld (P1 1 _ rfl)) λo=>qv o (Aj (α:=Str) (xs:=T1.Regs) o Ly rfl) λo=>qv o (Ba o rfl rfl) λo=>re<|?_
 rcases bip hm with ⟨V0,hm⟩ | ⟨V0,hm⟩
 refine tn<|ctv o rfl V0<|th<|rg<|qa o rfl λo=>re<|tn<|wr<|br<|tr<|tr<|br<|tr<|?_
 obtain rfl:=si hm
 exact r1 o results50 rfl ⟨rfl,u.keep⟩
 refine tn<|cfv o rfl V0<|wk<|bn<|tn<|rg<|qm o rfl λo=>qv o (Ao o rfl rfl) λo=>qa o rfl λo=>re<|tn<|?_
 exact ⟨(Q0,(i64.wrap (Y0+1))),⟨hm,o.hs,u⟩,kxd _⟩
 refine tn<|cfv o rfl U0<|we<|tx<|tx<|bx<|tn<|?_
 exact ⟨hm,o.hs,u⟩
 rintro a w ⟨hm,o,u⟩
 unfold Z40 at hm
 refine th<|rg<|qf o Ei rfl λo=>qB o isAgg22 rfl u t0 rfl λo=>qv o (Aj (α:=(List api_Cell)) (xs:=p1.Lines) o Ms rfl) λo=>qv o (Ba o rfl rfl) λo=>qm o rfl λo=>gr (Fk:=[(1,PT C0),(44,.bool ((decide (4 < (p1.Lines.length:Int))) || (decide (4 < (p1.Vols.length:Int)))))]) 39 5 o u ?_ ?_ ?_
 intro hb o key
 iterate 4 refine qn o λo=>?_
 exact qk o (Ab o rfl rfl) key u hb
 intro hb o key
 exact qg o (Ad o Km rfl) λo=>qg o (eB o isAgg23 rfl u.ld t0 rfl) λo=>qg o (Aj (α:=api_Cell) (xs:=p1.Vols) o Fz rfl) λo=>qg o (Ba o rfl rfl) λo=>qk o (Ac o rfl rfl) key u hb
 intro a w o u
 refine qm o rfl λo=>gr (Fk:=[(1,PT C0),(50,.bool (((decide (4 < (p1.Lines.length:Int))) || (decide (4 < (p1.Vols.length:Int)))) || (decide (2 < (p1.Locks.length:Int)))))]) 45 5 o u ?_ ?_ ?_
 intro hb o key
 iterate 4 refine qn o λo=>?_
 exact qk o (Ab o rfl rfl) key u hb
 intro hb o key
 exact qg o (Ad o Kw rfl) λo=>qg o (eB o isAgg23 rfl u.ld t0 rfl) λo=>qg o (Aj (α:=api_Cell) (xs:=p1.Locks) o Fz rfl) λo=>qg o (Ba o rfl rfl) λo=>qk o (Ac o rfl rfl) key u hb
 intro a w o u
 refine qm o rfl λo=>gr (Fk:=[(1,PT C0),(56,.bool ((((decide (4 < (p1.Lines.length:Int))) || (decide (4 < (p1.Vols.length:Int)))) || (decide (2 < (p1.Locks.length:Int)))) || (decide ((p1.Threads.length:Int) < 1))))]) 51 5 o u ?_ ?_ ?_
 intro hb o key
 iterate 4 refine qn o λo=>?_
 exact qk o (Ab o rfl rfl) key u hb
 intro hb o key
 exact qg o (Ad o Ia rfl) λo=>qg o (eB o isAgg24 rfl u.ld t0 rfl) λo=>qg o (Aj (α:=api_Thread) (xs:=p1.Threads) o Da rfl) λo=>qg o (Am o rfl rfl) λo=>qk o (Ac o rfl rfl) key u hb
 intro a w o u
 refine qm o rfl λo=>gr (Fk:=[(1,PT C0),(62,.bool (((((decide (4 < (p1.Lines.length:Int))) || (decide (4 < (p1.Vols.length:Int)))) || (decide (2 < (p1.Locks.length:Int)))) || (decide ((p1.Threads.length:Int) < 1))) || (decide (3 < (p1.Threads.length:Int)))))]) 57 5 o u ?_ ?_ ?_
 intro hb o key
 iterate 4 refine qn o λo=>?_
 exact qk o (Ab o rfl rfl) key u hb
 intro hb o key
 exact qg o (Ad o Ia rfl) λo=>qg o (eB o isAgg24 rfl u.ld t0 rfl) λo=>qg o (Aj (α:=api_Thread) (xs:=p1.Threads) o Da rfl) λo=>qg o (Ba o rfl rfl) λo=>qk o (Ac o rfl rfl) key u hb
 intro a w o u
 refine qm o rfl λo=>gr (Fk:=[(68,.bool ((((((decide (4 < (p1.Lines.length:Int))) || (decide (4 < (p1.Vols.length:Int)))) || (decide (2 < (p1.Locks.length:Int)))) || (decide ((p1.Threads.length:Int) < 1))) || (decide (3 < (p1.Threads.length:Int)))) || (decide (4 < (p1.Claims.length:Int)))))]) 63 5 o u ?_ ?_ ?_
 intro hb o key
 iterate 4 refine qn o λo=>?_
 exact qk o (Ab o rfl rfl) key u hb
 intro hb o key
 exact qg o (Ad o Fw rfl) λo=>qg o (eB o isAgg25 rfl u.ld t0 rfl) λo=>qg o (Aj (α:=api_Claim) (xs:=p1.Claims) o Pp rfl) λo=>qg o (Ba o rfl rfl) λo=>qk o (Ac o rfl rfl) key u hb
 intro a w o u
 refine qa o rfl λo=>re<|tn<|wr<|?_
 obtain rfl:=si hm
 exact r1 o results50 rfl ⟨rfl,u.keep⟩
theorem Jg9:∀ (N:Nat) {w0:World} {H:PH} (hH:H.le w0) {M0:Option Addr} {D0:Nat} {p1:(List api_Stmt)} (E0:p1.length≤D0) (F0:SR H M0 p1) {p6:Int} {r:Int} (hm:Z4j N p1 p6=some r),Tot Tryz.prog 52 #[SL M0 p1 D0,i6 p6] w0 (λv w'=>v=i6 r∧Keep Nil w0 w'):=by
 intro N
 induction N with
  | zero=>intros;rename_i hm;simp [Z4j] at hm
  | succ N ih=>
 intro w0 H hH M0 D0 p1 E0 F0 p6 r hm
 rw [Z4j] at hm
 refine fn0 func52 rfl ntmps52 rfl rfl λa o=>?_
 have u:St w0 Nil [H] [] w0:=start1 hH
 refine th<|rg<|qa o rfl λo=>re<|tn<|th<|th<|rg<|qm o rfl λo=>qv o (Aj (α:=api_Stmt) (xs:=p1) o Ew rfl) λo=>qv o (Ah o rfl rfl) λo=>re<|?_
 rcases bip hm with ⟨O0,hm⟩ | ⟨O0,hm⟩
 refine tn<|ctv o rfl O0<|th<|rg<|qa o rfl λo=>re<|tn<|wr<|tr<|?_
 obtain rfl:=si hm
 exact r1 o results52 rfl ⟨rfl,u.keep⟩
 refine tn<|cfv o rfl O0<|wk<|tn<|th<|?_
 obtain ⟨C0,h9,hm⟩:=bs hm
 obtain ⟨V1,E1,V0⟩:=SR.get F0 h9
 obtain ⟨W0,Q0,Y0,R0,rfl,P1,Q1,R1,S1⟩:=Cb E1
 refine rg<|qm o rfl λo=>qv o (eI o Ew sizeOf130 rfl rfl h9 F0) λo=>qv o (eC o isAgg130 sizeOf130 rfl u.ld V0) λo=>qm o rfl λo=>ls<|Aq (cs:=[i6 0,Ae [],Ae [],.slice none 0 0,.slice none 0 0,i6 0,i6 0,i6 0,i6 0].toArray) o rfl u zeroValue130 rfl λS0 w a u o=>ls<|Ar o u sizeOf130 rfl rfl rfl rfl (Ak rfl) .head λw u=>qa o rfl λo=>re<|tn<|th<|th<|rg<|qf o Cz rfl λo=>qB o isAgg3 rfl u t0 rfl λo=>qv o (Ah o rfl rfl) λo=>re<|tn<|Av (λa w=>∃ (P0:Int),(Z4k (Z4j N) p1 p6 C0) P0=some r∧Fr 46 [(0,SL M0 p1 D0),(1,i6 p6),(5,PT S0),(6,i6 P0)] a∧St w0 Nil [H] [bk S0 (stC W0 Q0 Y0 R0 C0) 130] w) ?_ ?_
 rcases bip hm with ⟨I0,hm⟩ | ⟨I0,hm⟩
 refine ctv o rfl I0<|rg<|qm o rfl λo=>qf o N3 rfl λo=>qB o isAgg3 rfl u t0 rfl λo=>qv o (JbT o rfl rfl) λo=>qa o rfl λo=>re<|tn<|?_
 exact ⟨(i64.wrap (p6 * C0.N)),hm,o.hs,u⟩
 refine cfv o rfl I0<|wk<|tn<|?_
 exact ⟨p6,hm,o.hs,u⟩
 rintro a w ⟨P0,hm,o,u⟩
 unfold Z4k at hm
 refine th<|th<|rg<|qm o rfl λo=>qv o (Ba o rfl rfl) λo=>re<|?_
 rcases bip hm with ⟨J0,hm⟩ | ⟨J0,hm⟩
 refine tn<|ctv o rfl J0<|th<|rg<|qf o Jx rfl λo=>qB o isAgg3 rfl u t0 rfl λo=>qa o rfl λo=>re<|tn<|wr<|tr<|?_
 obtain rfl:=si hm
 exact r1 o results52 rfl ⟨rfl,u.keep⟩
 refine tn<|cfv o rfl J0<|wk<|tn<|th<|rg<|qf o Ho rfl λo=>qB o isAgg3 rfl u t0 rfl λo=>qv o (Ao o rfl rfl) λo=>qf o El rfl λo=>qB o isAgg3 rfl u t0 rfl λo=>qv o (Ao o rfl rfl) λo=>qa o rfl λo=>re<|tn<|th<|?_
 obtain ⟨X1,T0,hm⟩:=bs hm
 obtain ⟨T1,J1,e28,e29,j0,n0⟩:=SR.sub (sz:=9) F0 E0 rfl T0
 obtain ⟨Y1,F1,hm⟩:=bs hm
 refine rg<|qm o rfl λo=>qm o rfl λo=>qv o (Dc (xs:=p1) (vl:=1) (vh:=(i64.wrap ((i64.wrap (1+C0.Body))+C0.Else))) o Ew sizeOf130 rfl E0 rfl rfl T0 e28 e29) λo=>qm o rfl λo=>ls<|cr o call52 (ih (Ag _) j0 (St.srH u n0) F1) u λu o=>qa o rfl λo=>re<|tn<|th<|th<|rg<|qm o rfl λo=>qv o (Bw o rfl rfl) λo=>re<|?_
 rcases bip hm with ⟨K0,hm⟩ | ⟨K0,hm⟩
 refine tn<|ctv o rfl K0<|th<|rg<|qm o rfl λo=>qa o rfl λo=>re<|tn<|wr<|tr<|?_
 obtain rfl:=si hm
 exact r1 o results52 rfl ⟨rfl,u.keep⟩
 refine tn<|cfv o rfl K0<|wk<|tn<|th<|?_
 obtain ⟨u1,U0,hm⟩:=bs hm
 obtain ⟨U1,O1,e39,e40,C1,D1⟩:=SR.sub (sz:=9) F0 E0 rfl U0
 obtain ⟨C2,I1,hm⟩:=bs hm
 refine rg<|qm o rfl λo=>qm o rfl λo=>qv o (Dc (xs:=p1) (vl:=(i64.wrap ((i64.wrap (1+C0.Body))+C0.Else))) (vh:=(p1.length:Int)) o Ew sizeOf130 rfl E0 rfl rfl U0 e39 e40) λo=>qm o rfl λo=>ls<|cr o call52 (ih (Ag _) C1 (St.srH u D1) I1) u λu o=>qa o rfl λo=>re<|tn<|wr<|?_
 obtain rfl:=si hm
 exact r1 o results52 rfl ⟨rfl,u.keep⟩
theorem Yc (hH:H.le w0) {cs2:List Value} {p1:api_Prog} (g3:Enc.rep H cs2 p1) {r:(List api_Cell)} (hm:Z2x N p1=some r):Tot Tryz.prog 58 #[.agg cs2.toArray] w0 (λv w'=>∃ (F1:Option Addr) (j0:Nat) (I1:List Value),v=SL F1 r j0∧(∀ h,Rows h I1 r)∧Fresh w0 (sla 134 3 F1 r.length j0 I1) w'):=by
 unfold Z2x at hm
 refine fn0 func58 rfl ntmps58 rfl rfl λa o=>?_
 have u:St w0 Nil [H] [] w0:=start1 hH
 obtain ⟨n0,P0,C1,Q0,oa12,cap13,oa16,cap17,R0,F0,S0,I0,rfl,F3,J1,P2,P1,R2,T2,U2,V2,W2,X2,Y2,A3⟩:=Bc g3
 refine th<|rg<|ls<|Bo (cs:=(pgC n0 P0 C1 Q0 oa12 cap13 oa16 cap17 R0 F0 S0 I0 p1).toArray) o rfl u rfl rfl λW0 w a u o=>qa o rfl λo=>re<|tn<|th<|rg<|ls<|bz (e:=134) (sz:=3) [] o u λu1 u o=>?_
 have Q1:Rows (α:=api_Cell) H [] []:=.nil
 refine qa o rfl λo=>re<|tn<|th<|th<|rg<|qa o rfl λo=>re<|tn<|Av (λa w=>∃ (E0:(List api_Cell)) (T0:Option Addr) (J0:Nat) (U0:List Value),(Z2y p1) E0=some r∧Fr 24 [(1,PT W0),(3,SL T0 E0 J0)] a∧St w0 Nil [H] [bk W0 (pgC n0 P0 C1 Q0 oa12 cap13 oa16 cap17 R0 F0 S0 I0 p1) 27,sla 134 3 T0 E0.length J0 U0] w∧Rows H U0 E0) ?_ ?_
 replace u:=u.pk [1,0] rfl
 refine wb<|lp (α:=Nat×(List api_Cell)×Int) (λgh a w=>match gh with | (O0,D0,Y0)=>∃ (K0:Option Addr) (C0:Nat) (M0:List Value),(Z2z N (Z2y p1) p1) O0 D0 Y0=some r∧Fr 24 [(1,PT W0),(3,SL K0 D0 C0),(4,i6 Y0)] a∧St w0 Nil [H] [bk W0 (pgC n0 P0 C1 Q0 oa12 cap13 oa16 cap17 R0 F0 S0 I0 p1) 27,sla 134 3 K0 D0.length C0 M0] w∧Rows H M0 D0) (λgh=>gh.1) (N,[],0) ⟨(some ⟨u1,0,none⟩),0,[],hm,o.hs,u,Q1⟩ ?_
 rintro ⟨O0,D0,Y0⟩ a w ⟨K0,C0,M0,hm,o,u,D1⟩
 obtain _ | O0:=O0
 simp [Z2z] at hm
 rw [Z2z] at hm
 refine th<|th<|rg<|qm o rfl λo=>qf o Ei rfl λo=>qB o isAgg22 rfl u t0 rfl λo=>qv o (Aj (α:=(List api_Cell)) (xs:=p1.Lines) o Ms rfl) λo=>qv o (Am o rfl rfl) λo=>re<|?_
 rcases bip hm with ⟨V0,hm⟩ | ⟨V0,hm⟩
 refine tn<|ctv o rfl V0<|wk<|tn<|th<|wb<|?_
 obtain ⟨C2,O1,hm⟩:=bs hm
 obtain ⟨I3,E2,R1⟩:=SR.get J1 O1
 obtain ⟨B3,K2,rfl,C3,S1⟩:=E2
 obtain ⟨F2,I2,hm⟩:=bs hm
 refine rg<|qm o rfl λo=>qf o Ei rfl λo=>qB o isAgg22 rfl u t0 rfl λo=>qm o rfl λo=>qv o (eI o Ms sizeOf23 rfl rfl O1 J1) λo=>qv o (eD o isAgg23 rfl u.ld (R1 0 _ rfl)) λo=>?_
 obtain ⟨us48,hd49,hu50⟩:=id S1
 refine ls<|Ay (α:=api_Cell) (xs:=D0) (ys:=C2) o rfl u underlying23 Lj rfl (by decide) rfl rfl rfl t1 D1 (u.rdH t0 hd49) hu50 I2 λT1 E1 U1 w a V1 hU o=>?_
 replace u:=hU _ (.tail .head)
 refine qa o rfl λo=>re<|bn<|tn<|rg<|qm o rfl λo=>qv o (Ao o rfl rfl) λo=>qa o rfl λo=>re<|tn<|?_
 exact ⟨(O0,F2,(i64.wrap (Y0+1))),⟨T1,E1,U1,hm,o.hs,u,V1⟩,kxd _⟩
 refine tn<|cfv o rfl V0<|we<|tx<|tx<|bx<|tn<|?_
 exact ⟨D0,K0,C0,M0,hm,o.hs,u,D1⟩
 rintro a w ⟨E0,T0,J0,U0,hm,o,u,X1⟩
 unfold Z2y at hm
 refine th<|?_
 obtain ⟨J3,J2,hm⟩:=bs hm
 refine rg<|qm o rfl λo=>qf o Km rfl λo=>qB o isAgg23 rfl u t0 rfl λo=>?_
 obtain ⟨us57,hd58,hu59⟩:=id P1
 refine ls<|Ay (α:=api_Cell) (xs:=E0) (ys:=p1.Vols) o rfl u underlying23 Lj rfl (by decide) rfl rfl rfl t1 X1 (u.rdH t0 hd58) hu59 J2 λD3 O2 E3 w a Y1 hU o=>?_
 replace u:=hU _ (.tail .head)
 refine qa o rfl λo=>re<|tn<|wr<|?_
 obtain rfl:=si hm
 exact r1 o results58 rfl ⟨_,_,_,rfl,(λ_=>Rows.ind Y1),u.endFresh t1⟩
theorem JbS (hH:H.le w0) {S0:Option Addr} {O0:Nat} {p1:(List api_Cell)} (T1:p1.length≤O0) (Y0:SR H S0 p1) {r:(List Str)} (hm:Z3q N p1=some r):Tot Tryz.prog 63 #[SL S0 p1 O0] w0 (λv w'=>∃ (j0:Option Addr) (T0:Nat) (n0:List Value),v=SL j0 r T0∧(∀ h,Rows h n0 r)∧Fresh w0 (sla 9 1 j0 r.length T0 n0) w'):=by
 unfold Z3q at hm
 refine fn0 func63 rfl ntmps63 rfl rfl λa o=>?_
 have u:St w0 Nil [H] [] w0:=start1 hH
 refine th<|rg<|qa o rfl λo=>re<|tn<|th<|rg<|ls<|bz (e:=9) (sz:=1) [] o u λb7 u o=>?_
 have P1:Rows (α:=Str) H [] []:=.nil
 refine qa o rfl λo=>re<|tn<|th<|th<|rg<|qa o rfl λo=>re<|tn<|Av (λa w=>∃ (J0:(List Str)) (P0:Option Addr) (E0:Nat) (Q0:List Value),Z3r J0=some r∧Fr 21 [(3,SL P0 J0 E0)] a∧St w0 Nil [H] [sla 9 1 P0 J0.length E0 Q0] w∧Rows H Q0 J0) ?_ ?_
 refine wb<|lp (α:=Nat×(List Str)×Int) (λgh a w=>match gh with | (K0,D0,R0)=>∃ (F0:Option Addr) (C0:Nat) (I0:List Value),(Z3s N Z3r p1) K0 D0 R0=some r∧Fr 21 [(0,SL S0 p1 O0),(3,SL F0 D0 C0),(4,i6 R0)] a∧St w0 Nil [H] [sla 9 1 F0 D0.length C0 I0] w∧Rows H I0 D0) (λgh=>gh.1) (N,[],0) ⟨(some ⟨b7,0,none⟩),0,[],hm,o.hs,u,P1⟩ ?_
 rintro ⟨K0,D0,R0⟩ a w ⟨F0,C0,I0,hm,o,u,U0⟩
 obtain _ | K0:=K0
 simp [Z3s] at hm
 rw [Z3s] at hm
 refine th<|th<|rg<|qm o rfl λo=>qm o rfl λo=>qv o (Aj (α:=api_Cell) (xs:=p1) o Fz rfl) λo=>qv o (Am o rfl rfl) λo=>re<|?_
 rcases bip hm with ⟨V0,hm⟩ | ⟨V0,hm⟩
 refine tn<|ctv o rfl V0<|wk<|tn<|th<|wb<|?_
 obtain ⟨M0,C1,hm⟩:=bs hm
 obtain ⟨U1,Q1,D1⟩:=SR.get Y0 C1
 obtain rfl:=Ex Q1
 obtain ⟨R1,S1,hm⟩:=bs hm
 refine rg<|qm o rfl λo=>?_
 iterate 2 refine qm o rfl λo=>?_
 refine qv o (eI o Fz sizeOf134 rfl rfl C1 Y0) λo=>qf o Jw rfl λo=>qv o (eD o isAgg9 rfl u.ld (D1 0 _ rfl)) λo=>ls<|bz (e:=9) (sz:=1) [Ae M0.Name] o u λV1 u o=>?_
 have E1:Rows (α:=Str) H [Ae M0.Name] ([M0.Name]:List Str):=(.cons (c:=[Ae M0.Name]) rfl .nil)
 refine ls<|Ay (α:=Str) (xs:=D0) (ys:=([M0.Name]:List Str)) o rfl u underlying75 JeB rfl (by decide) rfl rfl rfl t1 U0 (u.rdO t0) E1 S1 λF1 W0 I1 w a J1 hU o=>?_
 replace u:=hU _ (.tail .head)
 replace u:=u.drop .head
 refine qa o rfl λo=>re<|bn<|tn<|rg<|qm o rfl λo=>qv o (Ao o rfl rfl) λo=>qa o rfl λo=>re<|tn<|?_
 exact ⟨(K0,R1,(i64.wrap (R0+1))),⟨F1,W0,I1,hm,o.hs,u,J1⟩,kxd _⟩
 refine tn<|cfv o rfl V0<|we<|tx<|tx<|bx<|tn<|?_
 exact ⟨D0,F0,C0,I0,hm,o.hs,u,U0⟩
 rintro a w ⟨J0,P0,E0,Q0,hm,o,u,O1⟩
 unfold Z3r at hm
 refine th<|rg<|qm o rfl λo=>qa o rfl λo=>re<|tn<|wr<|?_
 obtain rfl:=si hm
 exact r1 o results63 rfl ⟨_,_,_,rfl,(λ_=>Rows.ind O1),u.endFresh t0⟩
theorem Hd (hH:H.le w0) {I0:Option Addr} {D0:Nat} {p1:(List Str)} (R0:p1.length≤D0) (K0:SR H I0 p1) {p6:Str} {r:Int} (hm:Z3t N p1 p6=some r):Tot Tryz.prog 54 #[SL I0 p1 D0,Ae p6] w0 (λv w'=>v=i6 r∧Keep Nil w0 w'):=by
 unfold Z3t at hm
 refine fn0 func54 rfl ntmps54 rfl rfl λa o=>?_
 have u:St w0 Nil [H] [] w0:=start1 hH
 refine th<|rg<|qa o rfl λo=>re<|tn<|th<|th<|rg<|qa o rfl λo=>re<|tn<|Av (λa w=>Z3u=some r∧Fr 19 [] a∧St w0 Nil [H] [] w) ?_ ?_
 refine wb<|lp (α:=Nat×Int) (λgh a w=>match gh with | (C0,F0)=>(Z3v N Z3u p1 p6) C0 F0=some r∧Fr 19 [(0,SL I0 p1 D0),(1,Ae p6),(5,i6 F0)] a∧St w0 Nil [H] [] w) (λgh=>gh.1) (N,0) ⟨hm,o.hs,u⟩ ?_
 rintro ⟨C0,F0⟩ a w ⟨hm,o,u⟩
 obtain _ | C0:=C0
 simp [Z3v] at hm
 rw [Z3v] at hm
 refine th<|th<|rg<|qm o rfl λo=>qm o rfl λo=>qv o (Aj (α:=Str) (xs:=p1) o Ly rfl) λo=>qv o (Am o rfl rfl) λo=>re<|?_
 rcases bip hm with ⟨J0,hm⟩ | ⟨J0,hm⟩
 refine tn<|ctv o rfl J0<|wk<|tn<|th<|wb<|th<|?_
 obtain ⟨M0,h9,hm⟩:=bs hm
 obtain ⟨P0,Q0,O0⟩:=SR.get K0 h9
 obtain rfl:P0=[Ae M0]:=Q0
 refine rg<|qm o rfl λo=>qm o rfl λo=>qv o (eI o Ly sizeOf9 rfl rfl h9 K0) λo=>qv o (eD o isAgg9 rfl u.ld (O0 0 _ rfl)) λo=>qm o rfl λo=>qv o (Qp (m:=M0) (n:=p6) o rfl rfl) λo=>re<|?_
 rcases bip hm with ⟨E0,hm⟩ | ⟨E0,hm⟩
 refine tn<|ctv o rfl E0<|th<|rg<|qm o rfl λo=>qa o rfl λo=>re<|tn<|wr<|br<|tr<|tr<|br<|tr<|?_
 obtain rfl:=si hm
 exact r1 o results54 rfl ⟨rfl,u.keep⟩
 refine tn<|cfv o rfl E0<|wk<|bn<|tn<|rg<|qm o rfl λo=>qv o (Ao o rfl rfl) λo=>qa o rfl λo=>re<|tn<|?_
 exact ⟨(C0,(i64.wrap (F0+1))),⟨hm,o.hs,u⟩,kxd _⟩
 refine tn<|cfv o rfl J0<|we<|tx<|tx<|bx<|tn<|?_
 exact ⟨hm,o.has trivial,u⟩
 rintro a w ⟨hm,o,u⟩
 unfold Z3u at hm
 refine th<|rg<|qa o rfl λo=>re<|tn<|wr<|?_
 obtain rfl:=si hm
 exact r1 o results54 rfl ⟨rfl,u.keep⟩
theorem JfW (hH:H.le w0) {cs2:List Value} {p1:api_Prog} (g3:Enc.rep H cs2 p1) {r:Int} (hm:Z4a N p1=some r):Tot Tryz.prog 53 #[.agg cs2.toArray] w0 (λv w'=>v=i6 r∧Keep Nil w0 w'):=by
 unfold Z4a at hm
 refine fn0 func53 rfl ntmps53 rfl rfl λa o=>?_
 have u:St w0 Nil [H] [] w0:=start1 hH
 obtain ⟨u1,I1,C2,J1,oa12,cap13,oa16,cap17,O1,n0,P1,C1,rfl,P4,Q4,T3,U3,V3,F2,W3,T0,X3,Y3,A4,B4⟩:=Bc g3
 refine th<|rg<|ls<|Bo (cs:=(pgC u1 I1 C2 J1 oa12 cap13 oa16 cap17 O1 n0 P1 C1 p1).toArray) o rfl u rfl rfl λE2 w a u o=>qa o rfl λo=>re<|tn<|th<|?_
 obtain ⟨A3,B3,hm⟩:=bs hm
 obtain ⟨C3,D3,hm⟩:=bs hm
 refine rg<|ls<|bz (e:=134) (sz:=3) [] o u λR4 u o=>?_
 have I2:Rows (α:=api_Cell) H [] []:=.nil
 refine qv o (An o isAgg27 sizeOf27 rfl rfl (u.ld.cellsB t1)) λo=>ls<|c1 o rfl call58 (Yc (Ag _) (Enc.mono (St.up u) g3) B3) ⟨rfl,trivial⟩ (λv w a hR o=>?_)
 obtain ⟨C4,P3,D4,rfl,U0,hk⟩:=hR
 replace u:=u.fresh hk
 replace U0:=U0 H
 refine ls<|Ay (α:=api_Cell) (xs:=[]) (ys:=A3) o rfl u underlying23 Lj rfl (by decide) rfl rfl rfl t1 I2 (u.rdO t0) U0 D3 λE4 Q3 F4 w a J2 hU o=>?_
 replace u:=hU _ (.tail .head)
 refine qa o rfl λo=>re<|tn<|th<|?_
 obtain ⟨E3,F3,hm⟩:=bs hm
 refine rg<|qm o rfl λo=>qf o Kw rfl λo=>qB o isAgg23 rfl u t2 rfl λo=>?_
 obtain ⟨us51,hd52,hu53⟩:=id F2
 refine ls<|Ay (α:=api_Cell) (xs:=C3) (ys:=p1.Locks) o rfl u underlying23 Lj rfl (by decide) rfl rfl rfl t1 J2 (u.rdH t0 hd52) hu53 F3 λK2 X1 O2 w a P2 hU o=>?_
 replace u:=hU _ (.tail .head)
 refine qa o rfl λo=>re<|tn<|th<|th<|rg<|qa o rfl λo=>re<|tn<|Av (λa w=>∃ (D0:(List api_Cell)) (I0:Option Addr) (E0:Nat) (K0:List Value),(Z4b N) D0=some r∧Fr 60 [(3,SL I0 D0 E0)] a∧St w0 Nil [H] [sla 134 3 I0 D0.length E0 K0] w∧Rows H K0 D0) ?_ ?_
 replace u:=u.pk [2,1] rfl
 refine wb<|lp (α:=Nat×(List api_Cell)×Int) (λgh a w=>match gh with | (Q0,J0,D1)=>∃ (M0:Option Addr) (F0:Nat) (O0:List Value),(Z4d N (Z4b N) p1) Q0 J0 D1=some r∧Fr 60 [(1,PT E2),(3,SL M0 J0 F0),(4,i6 D1)] a∧St w0 Nil [H] [bk E2 (pgC u1 I1 C2 J1 oa12 cap13 oa16 cap17 O1 n0 P1 C1 p1) 27,sla 134 3 M0 J0.length F0 O0] w∧Rows H O0 J0) (λgh=>gh.1) (N,E3,0) ⟨K2,X1,O2,hm,o.hs,u,P2⟩ ?_
 rintro ⟨Q0,J0,D1⟩ a w ⟨M0,F0,O0,hm,o,u,Q1⟩
 obtain _ | Q0:=Q0
 simp [Z4d] at hm
 rw [Z4d] at hm
 refine th<|th<|rg<|qm o rfl λo=>qf o Ia rfl λo=>qB o isAgg24 rfl u t0 rfl λo=>qv o (Aj (α:=api_Thread) (xs:=p1.Threads) o Da rfl) λo=>qv o (Am o rfl rfl) λo=>re<|?_
 rcases bip hm with ⟨V0,hm⟩ | ⟨V0,hm⟩
 refine tn<|ctv o rfl V0<|wk<|tn<|th<|wb<|?_
 obtain ⟨C0,R1,hm⟩:=bs hm
 obtain ⟨S4,I3,S1⟩:=SR.get T0 R1
 obtain ⟨I4,R3,J4,S3,rfl,K4,L4,M4,O4⟩:=Bm I3
 obtain ⟨J3,K3,hm⟩:=bs hm
 refine rdL (Bh t0 Ey) 17 u wide λw u=>ds 0 (u.lx i2 [0] rfl) o rfl (Aa o rfl) λo=>ds 1 (u.lx i2 [0] rfl) o rfl (Ad o Ia rfl) λo=>dq 2 (u.lx i2 [0] rfl) o rfl (λw hl=>eB o isAgg24 rfl hl t0 rfl) λo=>ds 3 (u.lx i2 [0] rfl) o rfl (Aa o rfl) λo=>ds 4 (u.lx i2 [0] rfl) o rfl (eI o Da sizeOf78 rfl rfl R1 T0) λo=>ds 5 (u.lx i2 [0] rfl) o rfl (Ad o Jm rfl) λo=>dq 6 (u.lx i2 [0] rfl) o rfl (λw hl=>eD o isAgg9 rfl hl (S1 0 _ rfl)) λo=>ds 7 (u.lx i2 [0] rfl) o rfl (Ad o Ia rfl) λo=>dq 8 (u.lx i2 [0] rfl) o rfl (λw hl=>eB o isAgg24 rfl hl t0 rfl) λo=>ds 9 (u.lx i2 [0] rfl) o rfl (Aa o rfl) λo=>ds 10 (u.lx i2 [0] rfl) o rfl (eI o Da sizeOf78 rfl rfl R1 T0) λo=>ds 11 (u.lx i2 [0] rfl) o rfl (Ad o Rj rfl) λo=>dq 12 (u.lx i2 [0] rfl) o rfl (λw hl=>eD o isAgg3 rfl hl (S1 3 _ rfl)) λo=>dq 13 (u.lx i2 [0] rfl) o rfl (λw hl=>bL [Ae C0.Name,i6 C0.At] [Ae C0.Name,i6 0,i6 C0.At] o) λo=>dz 14 rfl<|bz (e:=134) (sz:=3) [Ae C0.Name,i6 0,i6 C0.At] o u λT4 u o=>?_
 have R2:Rows (α:=api_Cell) H [Ae C0.Name,i6 0,i6 C0.At] ([(api_Cell.mk C0.Name 0 C0.At)]:List api_Cell):=(.cons (c:=[Ae C0.Name,i6 0,i6 C0.At]) ⟨_,_,rfl,rfl,⟨_,_,rfl,rfl,rfl⟩⟩ .nil)
 refine ⟨λ_=>(u.lx i2 [1] rfl),?_⟩
 refine dz 15 rfl<|Ay (α:=api_Cell) (xs:=J0) (ys:=([(api_Cell.mk C0.Name 0 C0.At)]:List api_Cell)) o rfl u underlying23 Lj rfl (by decide) rfl rfl rfl t2 Q1 (u.rdO t0) R2 K3 λT2 Y1 U2 w a V2 hU o=>?_
 replace u:=hU _ (.tail (.tail .head))
 replace u:=u.drop .head
 refine ⟨λ_=>(u.lx i2 [0] rfl),?_⟩
 refine ds 16 (u.lx i2 [0] rfl) o rfl (Ca o rfl) λo=>dE<|bn<|tn<|rg<|qm o rfl λo=>qv o (Ao o rfl rfl) λo=>qa o rfl λo=>re<|tn<|?_
 exact ⟨(Q0,J3,(i64.wrap (D1+1))),⟨T2,Y1,U2,hm,o.hs,u,V2⟩,kxd _⟩
 refine tn<|cfv o rfl V0<|we<|tx<|tx<|bx<|tn<|?_
 replace u:=u.pk [1] rfl
 exact ⟨J0,M0,F0,O0,hm,o.hs,u,Q1⟩
 rintro a w ⟨D0,I0,E0,K0,hm,o,u,P0⟩
 unfold Z4b at hm
 refine th<|?_
 obtain ⟨T1,L3,hm⟩:=bs hm
 refine rg<|qm o rfl λo=>ls<|c1 o rfl call63 (JbS (Ag _) (St.capO u t0) (St.srO u t0 P0) L3) ⟨rfl,trivial⟩ (λv w a hR o=>?_)
 obtain ⟨U1,E1,W2,rfl,W0,hk⟩:=hR
 replace u:=u.fresh hk
 replace W0:=W0 H
 refine qa o rfl λo=>re<|tn<|th<|th<|rg<|qa o rfl λo=>re<|tn<|Av (λa w=>Z4c=some r∧Fr 60 [] a∧St w0 Nil [H] [] w) ?_ ?_
 replace u:=u.pk [1,0] rfl
 refine wb<|lp (α:=Nat×Int) (λgh a w=>match gh with | (R0,F1)=>(Z4e N Z4c D0 T1) R0 F1=some r∧Fr 60 [(3,SL I0 D0 E0),(5,SL U1 T1 E1),(6,i6 F1)] a∧St w0 Nil [H] [sla 134 3 I0 D0.length E0 K0,sla 9 1 U1 T1.length E1 W2] w) (λgh=>gh.1) (N,0) ⟨hm,o.hs,u⟩ ?_
 rintro ⟨R0,F1⟩ a w ⟨hm,o,u⟩
 obtain _ | R0:=R0
 simp [Z4e] at hm
 rw [Z4e] at hm
 refine th<|th<|rg<|qm o rfl λo=>qm o rfl λo=>qv o (Aj (α:=api_Cell) (xs:=D0) o Fz rfl) λo=>qv o (Am o rfl rfl) λo=>re<|?_
 rcases bip hm with ⟨Y0,hm⟩ | ⟨Y0,hm⟩
 refine tn<|ctv o rfl Y0<|wk<|tn<|th<|wb<|th<|?_
 obtain ⟨U4,S0,hm⟩:=bs hm
 have X2:=Rd.oaI (u.rdO t0) P0 (by decide) S0
 obtain ⟨V4,M3,V1⟩:=Rows.getI P0 S0
 obtain rfl:=Ex M3
 obtain ⟨W4,O3,hm⟩:=bs hm
 refine rg<|qm o rfl λo=>?_
 iterate 2 refine qm o rfl λo=>?_
 refine qv o (Co o Fz sizeOf134 rfl rfl S0 X2) λo=>qf o Jw rfl λo=>qv o (Ap o isAgg9 rfl (u.ld.elO2 t0 (V1 0 _ rfl))) λo=>ls<|cr o call54 (Hd (Ag _) (St.capO u t1) (St.srO u t1 W0) O3) u λu o=>qm o rfl λo=>qv o (Am o rfl rfl) λo=>re<|?_
 rcases bip hm with ⟨j0,hm⟩ | ⟨j0,hm⟩
 refine tn<|ctv o rfl j0<|th<|?_
 have Y2:=Rd.oaI (u.rdO t0) P0 (by decide) S0
 refine rg<|qm o rfl λo=>qm o rfl λo=>qv o (Co o Fz sizeOf134 rfl rfl S0 Y2) λo=>qf o JaK rfl λo=>qv o (Ap o isAgg3 rfl (u.ld.elO2 t0 (V1 2 _ rfl))) λo=>qa o rfl λo=>re<|tn<|wr<|br<|tr<|tr<|br<|tr<|?_
 obtain rfl:=si hm
 exact r1 o results53 rfl ⟨rfl,u.keep⟩
 refine tn<|cfv o rfl j0<|wk<|bn<|tn<|rg<|qm o rfl λo=>qv o (Ao o rfl rfl) λo=>qa o rfl λo=>re<|tn<|?_
 exact ⟨(R0,(i64.wrap (F1+1))),⟨hm,o.hs,u⟩,kxd _⟩
 refine tn<|cfv o rfl Y0<|we<|tx<|tx<|bx<|tn<|?_
 replace u:=u.pickL .nil
 exact ⟨hm,o.has trivial,u⟩
 rintro a w ⟨hm,o,u⟩
 unfold Z4c at hm
 refine th<|rg<|qa o rfl λo=>re<|tn<|wr<|?_
 obtain rfl:=si hm
 exact r1 o results53 rfl ⟨rfl,u.keep⟩
theorem Td (hH:H.le w0) {cs2:List Value} {p1:api_Prog} (g3:Enc.rep H cs2 p1) {r:(List Str)} (hm:Z30 N p1=some r):Tot Tryz.prog 22 #[.agg cs2.toArray] w0 (λv w'=>∃ (J0:Option Addr) (E0:Nat) (K0:List Value),v=SL J0 r E0∧(∀ h,Rows h K0 r)∧Fresh w0 (sla 9 1 J0 r.length E0 K0) w'):=by
 unfold Z30 at hm
 refine fn0 func22 rfl ntmps22 rfl rfl λa o=>?_
 have u:St w0 Nil [H] [] w0:=start1 hH
 obtain ⟨R0,M0,S0,O0,oa12,cap13,oa16,cap17,P0,F0,Q0,I0,rfl,T1,U1,Y0,j0,n0,C1,D1,E1,F1,I1,J1,O1⟩:=Bc g3
 refine th<|rg<|ls<|Bo (cs:=(pgC R0 M0 S0 O0 oa12 cap13 oa16 cap17 P0 F0 Q0 I0 p1).toArray) o rfl u rfl rfl λV1 w a u o=>qa o rfl λo=>re<|tn<|th<|?_
 obtain ⟨X1,T0,hm⟩:=bs hm
 obtain ⟨Y1,U0,hm⟩:=bs hm
 refine rg<|qv o (An o Tryz.isAgg27 Tryz.sizeOf27 rfl rfl (u.ld.cellsB t0)) λo=>ls<|c1 o rfl call58 (Yc (Ag _) (Enc.mono (St.up u) g3) T0) ⟨rfl,trivial⟩ (λv w a hR o=>?_)
 obtain ⟨P1,V0,Q1,rfl,C0,hk⟩:=hR
 replace u:=u.fresh hk
 replace C0:=C0 H
 refine ls<|c1 o rfl call63 (JbS (Ag _) (St.capO u t0) (St.srO u t0 C0) U0) ⟨rfl,trivial⟩ (λv w a hR o=>?_)
 obtain ⟨R1,W0,S1,rfl,D0,hk⟩:=hR
 replace u:=u.fresh hk
 replace D0:=D0 H
 refine qa o rfl λo=>re<|tn<|wr<|?_
 obtain rfl:=si hm
 exact r1 o results22 rfl ⟨_,_,_,rfl,(λ_=>Rows.ind D0),u.endFresh t0⟩
theorem JcX (hH:H.le w0) {cs2:List Value} {p1:api_Prog} (g3:Enc.rep H cs2 p1) {r:(List Str)} (hm:Z3p N p1=some r):Tot Tryz.prog 55 #[.agg cs2.toArray] w0 (λv w'=>∃ (I0:Option Addr) (D0:Nat) (J0:List Value),v=SL I0 r D0∧(∀ h,Rows h J0 r)∧Fresh w0 (sla 9 1 I0 r.length D0 J0) w'):=by
 unfold Z3p at hm
 refine fn0 func55 rfl ntmps55 rfl rfl λa o=>?_
 have u:St w0 Nil [H] [] w0:=start1 hH
 obtain ⟨S0,K0,T0,M0,oa12,cap13,oa16,cap17,O0,E0,P0,F0,rfl,O1,P1,W0,Y0,Q0,R0,j0,n0,C1,D1,E1,F1⟩:=Bc g3
 refine th<|rg<|ls<|Bo (cs:=(pgC S0 K0 T0 M0 oa12 cap13 oa16 cap17 O0 E0 P0 F0 p1).toArray) o rfl u rfl rfl λQ1 w a u o=>qa o rfl λo=>re<|tn<|th<|?_
 obtain ⟨R1,U0,hm⟩:=bs hm
 refine rg<|qf o Kw rfl λo=>qB o isAgg23 rfl u t0 rfl λo=>ls<|c1 o rfl call63 (JbS (Ag _) Q0 (St.srH u R0) U0) ⟨rfl,trivial⟩ (λv w a hR o=>?_)
 obtain ⟨I1,V0,J1,rfl,C0,hk⟩:=hR
 replace u:=u.fresh hk
 replace C0:=C0 H
 refine qa o rfl λo=>re<|tn<|wr<|?_
 obtain rfl:=si hm
 exact r1 o results55 rfl ⟨_,_,_,rfl,(λ_=>Rows.ind C0),u.endFresh t0⟩
theorem JaC (hH:H.le w0) {cs2:List Value} {p1:api_Prog} (g3:Enc.rep H cs2 p1) {r:Int} (hm:Z3w N p1=some r):Tot Tryz.prog 17 #[.agg cs2.toArray] w0 (λv w'=>v=i6 r∧Keep Nil w0 w'):=by
 unfold Z3w at hm
 refine fn0 func17 rfl ntmps17 rfl rfl λa o=>?_
 have u:St w0 Nil [H] [] w0:=start1 hH
 obtain ⟨M0,F0,O0,I0,oa12,cap13,oa16,cap17,J0,D0,K0,E0,rfl,I1,J1,S0,T0,U0,V0,W0,Y0,j0,n0,C1,D1⟩:=Bc g3
 refine th<|rg<|ls<|Bo (cs:=(pgC M0 F0 O0 I0 oa12 cap13 oa16 cap17 J0 D0 K0 E0 p1).toArray) o rfl u rfl rfl λO1 w a u o=>qa o rfl λo=>re<|tn<|th<|?_
 obtain ⟨P0,Q0,hm⟩:=bs hm
 refine rdS 8 u wide λw u=>dq 0 u.ld o rfl (λw hl=>An o isAgg27 sizeOf27 rfl rfl (hl.cellsB t0)) λo=>dr 3 u o rfl (Ad o Km rfl) λo=>dq 4 u.ld o rfl (λw hl=>eB o isAgg23 rfl hl t0 rfl) λo=>dr 5 u o rfl (Aj (α:=api_Cell) (xs:=p1.Vols) o Fz rfl) λo=>dz 1 rfl<|c1 o rfl call58 (Yc (Ag _) (Enc.mono (St.up u) g3) Q0) ⟨rfl,trivial⟩ (λv w a hR o=>?_)
 obtain ⟨E1,R0,F1,rfl,C0,hk⟩:=hR
 replace u:=u.fresh hk
 replace C0:=C0 H
 refine ⟨λ_=>(St.ldsX u i2 ta1),?_⟩
 refine ds 2 (St.ldsX u i2 ta1) o rfl (Aj (α:=api_Cell) (xs:=P0) o Fz rfl) λo=>ds 6 (St.ldsX u i2 ta1) o rfl (Dr o rfl rfl) λo=>ds 7 (St.ldsX u i2 ta1) o rfl (Ca o rfl) λo=>dE<|tn<|wr<|?_
 obtain rfl:=si hm
 exact r1 o results17 rfl ⟨rfl,u.keep⟩
theorem Jc6 (hH:H.le w0) {O0:Option Addr} {F0:Nat} {p1:(List api_Node)} (n0:p1.length≤F0) (C0:SR H O0 p1) {oa7:Option Addr} {cap8:Nat} {p6:(List Str)} (U0:p6.length≤cap8) (S0:SR H oa7 p6) {r:Int} (hm:Z4f N p1 p6=some r):Tot Tryz.prog 57 #[SL O0 p1 F0,SL oa7 p6 cap8] w0 (λv w'=>v=i6 r∧Keep Nil w0 w'):=by
 unfold Z4f at hm
 refine fn0 func57 rfl ntmps57 rfl rfl λa o=>?_
 have u:St w0 Nil [H] [] w0:=start1 hH
 refine th<|rg<|qa o rfl λo=>re<|tn<|th<|th<|rg<|qa o rfl λo=>re<|tn<|Av (λa w=>Z4g=some r∧Fr 33 [] a∧St w0 Nil [H] [] w) ?_ ?_
 refine wb<|lp (α:=Nat×Int) (λgh a w=>match gh with | (D0,E0)=>(Z4i N Z4g p1 p6) D0 E0=some r∧Fr 33 [(0,SL O0 p1 F0),(1,SL oa7 p6 cap8),(5,i6 E0)] a∧St w0 Nil [H] [] w) (λgh=>gh.1) (N,0) ⟨hm,o.hs,u⟩ ?_
 rintro ⟨D0,E0⟩ a w ⟨hm,o,u⟩
 obtain _ | D0:=D0
 simp [Z4i] at hm
 rw [Z4i] at hm
 refine th<|th<|rg<|qm o rfl λo=>qm o rfl λo=>qv o (Aj (α:=api_Node) (xs:=p1) o Fq rfl) λo=>qv o (Am o rfl rfl) λo=>re<|?_
 rcases bip hm with ⟨I0,hm⟩ | ⟨I0,hm⟩
 refine tn<|ctv o rfl I0<|wk<|tn<|th<|wb<|th<|Av (λa w=>∃ (Q0:Bool),(Z4h (Z4i N Z4g p1 p6 D0) p1 E0) Q0=some r∧Fr 33 [(0,SL O0 p1 F0),(1,SL oa7 p6 cap8),(5,i6 E0),(27,.bool Q0)] a∧St w0 Nil [H] [] w) ?_ ?_
 obtain ⟨C1,P0,hm⟩:=bs hm
 obtain ⟨D1,V0,J0⟩:=SR.get C0 P0
 obtain rfl:=Cf V0
 rcases bip hm with ⟨K0,hm⟩ | ⟨K0,hm⟩
 obtain ⟨W0,Y0,hm⟩:=bs hm
 refine rg<|qm o rfl λo=>qm o rfl λo=>qv o (eI o Fq sizeOf141 rfl rfl P0 C0) λo=>qf o Cy rfl λo=>qv o (eD o isAgg3 rfl u.ld (J0 0 _ rfl)) λo=>qv o (Ah o rfl rfl) λo=>qv o (As (Aa o rfl) (congrArg Value.bool K0)) λo=>?_
 iterate 3 refine qg o (Aa o rfl) λo=>?_
 refine qg o (eI o Fq sizeOf141 rfl rfl P0 C0) λo=>qg o (Ad o Gn rfl) λo=>qg o (eD o isAgg9 rfl u.ld (J0 2 _ rfl)) λo=>ls<|gy o rfl rfl<|cr o call54 (Hd (Ag _) U0 (St.srH u S0) Y0) u λu o=>qg o (Am o rfl rfl) λo=>qv o (Ab o rfl rfl) λo=>re<|tn<|?_
 exact ⟨(decide (W0 < 0)),hm,o.hs,u⟩
 refine rg<|qm o rfl λo=>qm o rfl λo=>qv o (eI o Fq sizeOf141 rfl rfl P0 C0) λo=>qf o Cy rfl λo=>qv o (eD o isAgg3 rfl u.ld (J0 0 _ rfl)) λo=>qv o (Ah o rfl rfl) λo=>qv o (As (Aa o rfl) (congrArg Value.bool K0)) λo=>?_
 iterate 8 refine qn o λo=>?_
 refine qv o (Ac o rfl rfl) λo=>re<|tn<|?_
 exact ⟨false,hm,o.hs,u⟩
 rintro a w ⟨Q0,hm,o,u⟩
 unfold Z4h at hm
 rcases bit hm with ⟨M0,hm⟩ | ⟨M0,hm⟩
 refine ctv o rfl M0<|th<|?_
 obtain ⟨E1,R0,hm⟩:=bs hm
 obtain ⟨F1,j0,T0⟩:=SR.get C0 R0
 obtain rfl:=Cf j0
 refine rg<|qm o rfl λo=>qm o rfl λo=>qv o (eI o Fq sizeOf141 rfl rfl R0 C0) λo=>qf o Ji rfl λo=>qv o (eD o isAgg3 rfl u.ld (T0 3 _ rfl)) λo=>qa o rfl λo=>re<|tn<|wr<|br<|tr<|tr<|br<|tr<|?_
 obtain rfl:=si hm
 exact r1 o results57 rfl ⟨rfl,u.keep⟩
 refine cfv o rfl M0<|wk<|bn<|tn<|rg<|qm o rfl λo=>qv o (Ao o rfl rfl) λo=>qa o rfl λo=>re<|tn<|?_
 exact ⟨(D0,(i64.wrap (E0+1))),⟨hm,o.hs,u⟩,kxd _⟩
 refine tn<|cfv o rfl I0<|we<|tx<|tx<|bx<|tn<|?_
 exact ⟨hm,o.has trivial,u⟩
 rintro a w ⟨hm,o,u⟩
 unfold Z4g at hm
 refine th<|rg<|qa o rfl λo=>re<|tn<|wr<|?_
 obtain rfl:=si hm
 exact r1 o results57 rfl ⟨rfl,u.keep⟩
theorem JgF (hH:H.le w0) {cs2:List Value} {p1:api_Prog} (g3:Enc.rep H cs2 p1) {cs5:List Value} {p4:api_Thread} (g6:Enc.rep H cs5 p4) {cs8:List Value} {p7:api_Stmt} (g9:Enc.rep H cs8 p7) {r:Int} (hm:Z43 N p1 p4 p7=some r):Tot Tryz.prog 56 #[.agg cs2.toArray,.agg cs5.toArray,.agg cs8.toArray] w0 (λv w'=>v=i6 r∧Keep Nil w0 w'):=by
 unfold Z43 at hm
 refine fn0 func56 rfl ntmps56 rfl rfl λa o=>?_
 have u:St w0 Nil [H] [] w0:=start1 hH
 obtain ⟨Y0,Q0,j0,R0,n0,S0,C1,T0,D1,U0,E1,V0,rfl,O3,P3,Q3,R3,S3,T3,U3,V3,W3,X3,Y3,A4⟩:=Bc g3
 obtain ⟨K0,C0,M0,D0,rfl,I1,J1,B4,C4⟩:=Bm g6
 obtain ⟨O0,E0,P0,F0,rfl,U2,V2,W2,X2⟩:=Cb g9
 refine th<|rg<|ls<|Bo (cs:=(pgC Y0 Q0 j0 R0 n0 S0 C1 T0 D1 U0 E1 V0 p1).toArray) o rfl u rfl rfl λW0 w a u o=>ls<|Bo (cs:=[Ae p4.Name,SL K0 p4.Regs C0,SL M0 p4.Body D0,i6 p4.At].toArray) o rfl u rfl rfl λI0 w a u o=>ls<|Bo (cs:=(stC O0 E0 P0 F0 p7).toArray) o rfl u rfl rfl λJ0 w a u o=>qa o rfl λo=>re<|tn<|th<|th<|Av (λa w=>∃ (K2:Bool),(Z44 N p1 p4 p7) K2=some r∧Fr 74 [(3,PT W0),(4,PT I0),(5,PT J0),(19,.bool K2)] a∧St w0 Nil [H] [bk W0 (pgC Y0 Q0 j0 R0 n0 S0 C1 T0 D1 U0 E1 V0 p1) 27,bk I0 [Ae p4.Name,SL K0 p4.Regs C0,SL M0 p4.Body D0,i6 p4.At] 78,bk J0 (stC O0 E0 P0 F0 p7) 130] w) ?_ ?_
 rcases bip hm with ⟨O1,hm⟩ | ⟨O1,hm⟩
 obtain ⟨Y2,A3,hm⟩:=bs hm
 refine rg<|qf o Fl rfl λo=>qB o isAgg9 rfl u t0 rfl λo=>qv o (H4 (m:=p7.Reg) (n:=[]) o rfl rfl) λo=>qv o (As (Aa o rfl) (congrArg Value.bool O1)) λo=>qg o (Ad o Ec rfl) λo=>qg o (eB o isAgg75 rfl u.ld t1 rfl) λo=>qg o (Ad o Fl rfl) λo=>qg o (eB o isAgg9 rfl u.ld t0 rfl) λo=>ls<|gy o rfl rfl<|cr o call54 (Hd (Ag _) I1 (St.srH u J1) A3) u λu o=>qg o (Am o rfl rfl) λo=>qv o (Ab o rfl rfl) λo=>re<|tn<|?_
 replace u:=u.pk [2,1,0] rfl
 exact ⟨(decide (Y2 < 0)),hm,o.hs,u⟩
 refine rg<|qf o Fl rfl λo=>qB o isAgg9 rfl u t0 rfl λo=>qv o (H4 (m:=p7.Reg) (n:=[]) o rfl rfl) λo=>qv o (As (Aa o rfl) (congrArg Value.bool O1)) λo=>?_
 iterate 6 refine qn o λo=>?_
 refine qv o (Ac o rfl rfl) λo=>re<|tn<|?_
 replace u:=u.pk [2,1,0] rfl
 exact ⟨false,hm,o.hs,u⟩
 rintro a w ⟨K2,hm,o,u⟩
 unfold Z44 at hm
 rcases bit hm with ⟨P1,hm⟩ | ⟨P1,hm⟩
 refine ctv o rfl P1<|th<|rg<|qf o Jx rfl λo=>qB o isAgg3 rfl u t2 rfl λo=>qa o rfl λo=>re<|tn<|wr<|tr<|?_
 obtain rfl:=si hm
 exact r1 o results56 rfl ⟨rfl,u.keep⟩
 refine cfv o rfl P1<|wk<|tn<|th<|?_
 obtain ⟨J4,B3,hm⟩:=bs hm
 obtain ⟨F1,C3,hm⟩:=bs hm
 refine rdS 6 u wide λw u=>dq 0 u.ld o rfl (λw hl=>An o isAgg27 sizeOf27 rfl rfl (hl.cellsB t0)) λo=>dr 2 u o rfl (Ad o Hf rfl) λo=>dq 3 u.ld o rfl (λw hl=>eB o isAgg9 rfl hl t2 rfl) λo=>dz 1 rfl<|c1 o rfl call22 (Td (Ag _) (Enc.mono (St.up u) g3) B3) ⟨rfl,trivial⟩ (λv w a hR o=>?_)
 obtain ⟨D4,L3,E4,rfl,Q1,hk⟩:=hR
 replace u:=u.fresh hk
 replace Q1:=Q1 H
 refine ⟨λ_=>(St.ldsX u i2 ta1),?_⟩
 refine dz 4 rfl<|cr o call54 (Hd (Ag _) (St.capO u t0) (St.srO u t0 Q1) C3) u λu o=>⟨λ_=>(St.ldsX u i2 ta1),?_⟩
 refine ds 5 (St.ldsX u i2 ta1) o rfl (Ca o rfl) λo=>dE<|tn<|th<|th<|rg<|qf o Cz rfl λo=>qB o isAgg3 rfl u t3 rfl λo=>re<|tn<|Av (λa w=>(Z45 N p4 p7)=some r∧Fr 74 [(4,PT I0),(5,PT J0)] a∧St w0 Nil [H] [bk I0 [Ae p4.Name,SL K0 p4.Regs C0,SL M0 p4.Body D0,i6 p4.At] 78,bk J0 (stC O0 E0 P0 F0 p7) 130] w) ?_ ?_
 refine wb<|th<|th<|rg<|qv o (Ah o rfl rfl) λo=>qa o rfl λo=>re<|tn<|Av (λa w=>∃ (O2:Bool),(Z46 N (Z45 N p4 p7) p1 p7 F1) O2=some r∧Fr 74 [(3,PT W0),(4,PT I0),(5,PT J0),(7,i6 F1),(28,i6 p7.Kind),(29,.bool O2)] a∧St w0 Nil [H] [bk W0 (pgC Y0 Q0 j0 R0 n0 S0 C1 T0 D1 U0 E1 V0 p1) 27,bk I0 [Ae p4.Name,SL K0 p4.Regs C0,SL M0 p4.Body D0,i6 p4.At] 78,bk J0 (stC O0 E0 P0 F0 p7) 130] w) ?_ ?_
 rcases bip hm with ⟨R1,hm⟩ | ⟨R1,hm⟩
 refine ctv o rfl R1<|wk<|tn<|?_
 replace u:=u.pk [1,1,1] rfl
 exact ⟨(decide (p7.Kind=2)),hm,o.hs,u⟩
 refine cfv o rfl R1<|th<|rg<|qv o (Ah o rfl rfl) λo=>qa o rfl λo=>re<|?_
 rcases bip hm with ⟨S1,hm⟩ | ⟨S1,hm⟩
 refine tn<|ctv o rfl S1<|wk<|tn<|?_
 replace u:=u.pk [1,1,1] rfl
 exact ⟨(decide (p7.Kind=3)),hm,o.hs,u⟩
 refine tn<|cfv o rfl S1<|rg<|qv o (Ah o rfl rfl) λo=>qa o rfl λo=>re<|tn<|?_
 replace u:=u.pk [1,1,1] rfl
 exact ⟨(decide (p7.Kind=4)),hm,o.hs,u⟩
 rintro a w ⟨O2,hm,o,u⟩
 unfold Z46 at hm
 rcases bit hm with ⟨T1,hm⟩ | ⟨T1,hm⟩
 refine ctv o rfl T1<|th<|rg<|qm o rfl λo=>qv o (Am o rfl rfl) λo=>re<|?_
 rcases bip hm with ⟨U1,hm⟩ | ⟨U1,hm⟩
 refine tn<|ctv o rfl U1<|th<|rg<|qf o Jx rfl λo=>qB o isAgg3 rfl u t2 rfl λo=>qa o rfl λo=>re<|tn<|wr<|br<|tr<|?_
 obtain rfl:=si hm
 exact r1 o results56 rfl ⟨rfl,u.keep⟩
 refine tn<|cfv o rfl U1<|wk<|bn<|tn<|?_
 replace u:=u.pk [1,1] rfl
 exact ⟨hm,o.hs,u⟩
 refine cfv o rfl T1<|th<|th<|rg<|qv o (Ah o rfl rfl) λo=>qa o rfl λo=>re<|tn<|Av (λa w=>∃ (P2:Bool),(Z47 N (Z45 N p4 p7) p1 p7 F1) P2=some r∧Fr 74 [(3,PT W0),(4,PT I0),(5,PT J0),(7,i6 F1),(28,i6 p7.Kind),(37,.bool P2)] a∧St w0 Nil [H] [bk W0 (pgC Y0 Q0 j0 R0 n0 S0 C1 T0 D1 U0 E1 V0 p1) 27,bk I0 [Ae p4.Name,SL K0 p4.Regs C0,SL M0 p4.Body D0,i6 p4.At] 78,bk J0 (stC O0 E0 P0 F0 p7) 130] w) ?_ ?_
 rcases bip hm with ⟨V1,hm⟩ | ⟨V1,hm⟩
 refine ctv o rfl V1<|wk<|tn<|?_
 exact ⟨(decide (p7.Kind=5)),hm,o.hs,u⟩
 refine cfv o rfl V1<|rg<|qv o (Ah o rfl rfl) λo=>qa o rfl λo=>re<|tn<|?_
 exact ⟨(decide (p7.Kind=6)),hm,o.hs,u⟩
 rintro a w ⟨P2,hm,o,u⟩
 unfold Z47 at hm
 rcases bit hm with ⟨X1,hm⟩ | ⟨X1,hm⟩
 refine ctv o rfl X1<|th<|Av (λa w=>∃ (R2:Bool),(Z48 (Z45 N p4 p7) p7) R2=some r∧Fr 74 [(4,PT I0),(5,PT J0),(47,.bool R2)] a∧St w0 Nil [H] [bk I0 [Ae p4.Name,SL K0 p4.Regs C0,SL M0 p4.Body D0,i6 p4.At] 78,bk J0 (stC O0 E0 P0 F0 p7) 130] w) ?_ ?_
 rcases bip hm with ⟨Y1,hm⟩ | ⟨Y1,hm⟩
 refine rg<|qm o rfl λo=>qv o (Am o rfl rfl) λo=>qv o (As (Aa o rfl) (congrArg Value.bool Y1)) λo=>?_
 iterate 4 refine qn o λo=>?_
 refine qv o (Ab o rfl rfl) λo=>re<|tn<|?_
 replace u:=u.pk [1,1] rfl
 exact ⟨true,hm,o.hs,u⟩
 obtain ⟨D3,E3,hm⟩:=bs hm
 refine rg<|qm o rfl λo=>qv o (Am o rfl rfl) λo=>qv o (As (Aa o rfl) (congrArg Value.bool Y1)) λo=>qg o (Aa o rfl) λo=>qg o (An o isAgg27 sizeOf27 rfl rfl (u.ld.cellsB t0)) λo=>ls<|gy o rfl rfl<|cr o call17 (JaC (Ag _) (Enc.mono (St.up u) g3) E3) u λu o=>qg o (Bw o rfl rfl) λo=>qv o (Ac o rfl rfl) λo=>re<|tn<|?_
 replace u:=u.pk [1,1] rfl
 exact ⟨(decide (D3≤F1)),hm,o.hs,u⟩
 rintro a w ⟨R2,hm,o,u⟩
 unfold Z48 at hm
 rcases bit hm with ⟨u1,hm⟩ | ⟨u1,hm⟩
 refine ctv o rfl u1<|th<|rg<|qf o Jx rfl λo=>qB o isAgg3 rfl u t1 rfl λo=>qa o rfl λo=>re<|tn<|wr<|br<|tr<|?_
 obtain rfl:=si hm
 exact r1 o results56 rfl ⟨rfl,u.keep⟩
 refine cfv o rfl u1<|wk<|bn<|tn<|?_
 exact ⟨hm,o.hs,u⟩
 refine cfv o rfl X1<|th<|th<|rg<|qv o (Ah o rfl rfl) λo=>qa o rfl λo=>re<|tn<|Av (λa w=>∃ (T2:Bool),(Z49 N (Z45 N p4 p7) p1 p7) T2=some r∧Fr 74 [(3,PT W0),(4,PT I0),(5,PT J0),(50,.bool T2)] a∧St w0 Nil [H] [bk W0 (pgC Y0 Q0 j0 R0 n0 S0 C1 T0 D1 U0 E1 V0 p1) 27,bk I0 [Ae p4.Name,SL K0 p4.Regs C0,SL M0 p4.Body D0,i6 p4.At] 78,bk J0 (stC O0 E0 P0 F0 p7) 130] w) ?_ ?_
 rcases bip hm with ⟨C2,hm⟩ | ⟨C2,hm⟩
 refine ctv o rfl C2<|wk<|tn<|?_
 exact ⟨(decide (p7.Kind=9)),hm,o.hs,u⟩
 refine cfv o rfl C2<|rg<|qv o (Ah o rfl rfl) λo=>qa o rfl λo=>re<|tn<|?_
 exact ⟨(decide (p7.Kind=10)),hm,o.hs,u⟩
 rintro a w ⟨T2,hm,o,u⟩
 unfold Z49 at hm
 rcases bit hm with ⟨E2,hm⟩ | ⟨E2,hm⟩
 refine ctv o rfl E2<|th<|?_
 obtain ⟨K4,F3,hm⟩:=bs hm
 obtain ⟨L4,I3,hm⟩:=bs hm
 refine rdS 6 u wide λw u=>dq 0 u.ld o rfl (λw hl=>An o isAgg27 sizeOf27 rfl rfl (hl.cellsB t0)) λo=>dr 2 u o rfl (Ad o Hf rfl) λo=>dq 3 u.ld o rfl (λw hl=>eB o isAgg9 rfl hl t2 rfl) λo=>dz 1 rfl<|c1 o rfl call55 (JcX (Ag _) (Enc.mono (St.up u) g3) F3) ⟨rfl,trivial⟩ (λv w a hR o=>?_)
 obtain ⟨F4,M3,I4,rfl,F2,hk⟩:=hR
 replace u:=u.fresh hk
 replace F2:=F2 H
 refine ⟨λ_=>(St.ldsX u i2 ta1),?_⟩
 refine dz 4 rfl<|cr o call54 (Hd (Ag _) (St.capO u t0) (St.srO u t0 F2) I3) u λu o=>⟨λ_=>(St.ldsX u i2 ta1),?_⟩
 refine ds 5 (St.ldsX u i2 ta1) o rfl (Am o rfl rfl) λo=>dE<|?_
 rcases bip hm with ⟨I2,hm⟩ | ⟨I2,hm⟩
 refine tn<|ctv o rfl I2<|th<|rg<|qf o Jx rfl λo=>qB o isAgg3 rfl u t3 rfl λo=>qa o rfl λo=>re<|tn<|wr<|br<|tr<|?_
 obtain rfl:=si hm
 exact r1 o results56 rfl ⟨rfl,u.keep⟩
 refine tn<|cfv o rfl I2<|wk<|bn<|tn<|?_
 replace u:=u.pk [2,2] rfl
 exact ⟨hm,o.hs,u⟩
 refine cfv o rfl E2<|wk<|bn<|tn<|?_
 replace u:=u.pk [1,1] rfl
 exact ⟨hm,o.hs,u⟩
 rintro a w ⟨hm,o,u⟩
 unfold Z45 at hm
 refine th<|?_
 obtain ⟨M4,J3,hm⟩:=bs hm
 refine rg<|qf o Hr rfl λo=>qB o isAgg82 rfl u t1 rfl λo=>qf o Ec rfl λo=>qB o isAgg75 rfl u t0 rfl λo=>ls<|cr o call57 (Jc6 (Ag _) U2 (St.srH u V2) I1 (St.srH u J1) J3) u λu o=>qa o rfl λo=>re<|tn<|th<|th<|rg<|qm o rfl λo=>qv o (Bw o rfl rfl) λo=>re<|?_
 rcases bip hm with ⟨J2,hm⟩ | ⟨J2,hm⟩
 refine tn<|ctv o rfl J2<|th<|rg<|qm o rfl λo=>qa o rfl λo=>re<|tn<|wr<|tr<|?_
 obtain rfl:=si hm
 exact r1 o results56 rfl ⟨rfl,u.keep⟩
 refine tn<|cfv o rfl J2<|wk<|tn<|th<|?_
 obtain ⟨O4,K3,hm⟩:=bs hm
 refine rg<|qf o Li rfl λo=>qB o isAgg82 rfl u t1 rfl λo=>qf o Ec rfl λo=>qB o isAgg75 rfl u t0 rfl λo=>ls<|cr o call57 (Jc6 (Ag _) W2 (St.srH u X2) I1 (St.srH u J1) K3) u λu o=>qa o rfl λo=>re<|tn<|wr<|?_
 obtain rfl:=si hm
 exact r1 o results56 rfl ⟨rfl,u.keep⟩
theorem Jhm (hH:H.le w0) {cs2:List Value} {p1:api_Prog} (g3:Enc.rep H cs2 p1) {r:(Int×Int)} (hm:Z31 N p1=some r):Tot Tryz.prog 16 #[.agg cs2.toArray] w0 (λv w'=>v=.tuple #[i6 r.1,i6 r.2]∧Keep Nil w0 w'):=by
 unfold Z31 at hm
 refine fn0 func16 rfl ntmps16 rfl rfl λa o=>?_
 have u:St w0 Nil [H] [] w0:=start1 hH
 obtain ⟨T0,M0,U0,O0,oa12,cap13,oa16,cap17,P0,E0,Q0,F0,rfl,K6,L6,E5,F5,I5,J5,K5,L5,M5,O5,P5,U2⟩:=Bc g3
 refine th<|rg<|ls<|Bo (cs:=(pgC T0 M0 U0 O0 oa12 cap13 oa16 cap17 P0 E0 Q0 F0 p1).toArray) o rfl u rfl rfl λI0 w a u o=>?_
 iterate 2 refine qa o rfl λo=>?_
 refine re<|tn<|th<|th<|?_
 obtain ⟨X7,M6,hm⟩:=bs hm
 refine rg<|qv o (An o Tryz.isAgg27 Tryz.sizeOf27 rfl rfl (u.ld.cellsB t0)) λo=>ls<|cr o call49 (JfR (Ag _) (Enc.mono (St.up u) g3) M6) u λu o=>qv o (Bi o rfl) λo=>re<|?_
 rcases bit hm with ⟨V2,hm⟩ | ⟨V2,hm⟩
 refine tn<|cfv o rfl (by rw [V2];rfl)<|wk<|tn<|th<|th<|?_
 obtain ⟨Y7,O6,hm⟩:=bs hm
 refine rg<|qv o (An o Tryz.isAgg27 Tryz.sizeOf27 rfl rfl (u.ld.cellsB t0)) λo=>ls<|cr o call50 (Jha (Ag _) (Enc.mono (St.up u) g3) O6) u λu o=>re<|?_
 rcases bit hm with ⟨W2,hm⟩ | ⟨W2,hm⟩
 refine tn<|ctv o rfl W2<|th<|rg<|qa o rfl λo=>qa o rfl λo=>re<|tn<|wr<|tr<|?_
 obtain rfl:=si hm
 exact r2 o results16 rfl rfl ⟨rfl,u.keep⟩
 refine tn<|cfv o rfl W2<|wk<|tn<|th<|?_
 obtain ⟨C0,P6,hm⟩:=bs hm
 refine rg<|qv o (An o Tryz.isAgg27 Tryz.sizeOf27 rfl rfl (u.ld.cellsB t0)) λo=>ls<|c1 o rfl call51 (JeF (St.le u) g3 P6) ⟨rfl,trivial⟩ (λv w a hR o=>?_)
 obtain ⟨H40,V0,S0,rfl,E7,R0,J0,Q5,hk⟩:=hR
 obtain ⟨u,J0⟩:=And.intro (St.passH u hk J0 Q5) (St.extc u J0)
 refine qa o rfl λo=>re<|tn<|th<|th<|rg<|qa o rfl λo=>re<|tn<|Av (λa w=>(Z32 N p1 C0)=some r∧Fr 150 [(1,PT I0),(4,SL V0 C0 S0)] a∧St w0 Nil [H40] [bk I0 (pgC T0 M0 U0 O0 oa12 cap13 oa16 cap17 P0 E0 Q0 F0 p1) 27] w) ?_ ?_
 refine wb<|lp (α:=Nat×Int) (λgh a w=>match gh with | (T2,I3)=>(Z3b N (Z32 N p1 C0) C0) T2 I3=some r∧Fr 150 [(1,PT I0),(4,SL V0 C0 S0),(5,i6 I3)] a∧St w0 Nil [H40] [bk I0 (pgC T0 M0 U0 O0 oa12 cap13 oa16 cap17 P0 E0 Q0 F0 p1) 27] w) (λgh=>gh.1) (N,0) ⟨hm,o.hs,u⟩ ?_
 rintro ⟨T2,I3⟩ a w ⟨hm,o,u⟩
 obtain _ | T2:=T2
 simp [Z3b] at hm
 rw [Z3b] at hm
 refine th<|th<|rg<|qm o rfl λo=>qm o rfl λo=>qv o (Aj (α:=api_Thread) (xs:=C0) o Da rfl) λo=>qv o (Am o rfl rfl) λo=>re<|?_
 rcases bip hm with ⟨X2,hm⟩ | ⟨X2,hm⟩
 refine tn<|ctv o rfl X2<|wk<|tn<|th<|wb<|th<|?_
 obtain ⟨d7,Y4,hm⟩:=bs hm
 obtain ⟨j7,Q6,R5⟩:=SR.get R0 Y4
 obtain ⟨F7,n6,I7,u6,rfl,J7,K7,S5,T5⟩:=Bm Q6
 obtain ⟨n7,R6,hm⟩:=bs hm
 refine rg<|qm o rfl λo=>qm o rfl λo=>qv o (eI o Da sizeOf78 rfl rfl Y4 R0) λo=>qf o Mt rfl λo=>qv o (eD o isAgg76 rfl u.ld (R5 2 _ rfl)) λo=>ls<|cr o call52 (Jg9 _ (Ag _) S5 (St.srH u T5) R6) u λu o=>qa o rfl λo=>re<|tn<|th<|rg<|qm o rfl λo=>qv o (Bw o rfl rfl) λo=>re<|?_
 rcases bip hm with ⟨Y2,hm⟩ | ⟨Y2,hm⟩
 refine tn<|ctv o rfl Y2<|th<|rg<|qm o rfl λo=>?_
 iterate 2 refine qa o rfl λo=>?_
 refine re<|tn<|wr<|br<|tr<|tr<|br<|tr<|?_
 obtain rfl:=si hm
 exact r2 o results16 rfl rfl ⟨rfl,u.keep⟩
 refine tn<|cfv o rfl Y2<|wk<|bn<|tn<|rg<|qm o rfl λo=>qv o (Ao o rfl rfl) λo=>qa o rfl λo=>re<|tn<|?_
 exact ⟨(T2,(i64.wrap (I3+1))),⟨hm,o.hs,u⟩,kxd _⟩
 refine tn<|cfv o rfl X2<|we<|tx<|tx<|bx<|tn<|?_
 exact ⟨hm,o.hs,u⟩
 rintro a w ⟨hm,o,u⟩
 unfold Z32 at hm
 refine th<|?_
 obtain ⟨o7,S6,hm⟩:=bs hm
 refine rg<|qv o (An o Tryz.isAgg27 Tryz.sizeOf27 rfl rfl (u.ld.cellsB t0)) λo=>ls<|cr o call53 (JfW (Ag _) (Enc.mono (St.up u) (show Enc.rep (α:=api_Prog) H40 (pgC T0 M0 U0 O0 oa12 cap13 oa16 cap17 P0 E0 Q0 F0 p1) p1 from ⟨_,_,rfl,⟨_,_,rfl,K6,(L6.mono J0.sub)⟩,⟨_,_,rfl,⟨_,_,rfl,E5,(F5.mono J0.sub)⟩,⟨_,_,rfl,⟨_,_,rfl,I5,(J5.mono J0.sub)⟩,⟨_,_,rfl,⟨_,_,rfl,K5,(L5.mono J0.sub)⟩,⟨_,_,rfl,⟨_,_,rfl,M5,(O5.mono J0.sub)⟩,⟨_,_,rfl,P5,(U2.mono J0.sub)⟩⟩⟩⟩⟩⟩)) S6) u λu o=>qa o rfl λo=>re<|tn<|th<|th<|rg<|qm o rfl λo=>qv o (Bw o rfl rfl) λo=>re<|?_
 rcases bip hm with ⟨A3,hm⟩ | ⟨A3,hm⟩
 refine tn<|ctv o rfl A3<|th<|rg<|qm o rfl λo=>?_
 iterate 2 refine qa o rfl λo=>?_
 refine re<|tn<|wr<|tr<|?_
 obtain rfl:=si hm
 exact r2 o results16 rfl rfl ⟨rfl,u.keep⟩
 refine tn<|cfv o rfl A3<|wk<|tn<|th<|th<|rg<|qa o rfl λo=>re<|tn<|Av (λa w=>∃ (j0:PH),(Z35 N p1 C0)=some r∧Ext w0 H40 j0∧Fr 150 [(1,PT I0),(4,SL V0 C0 S0)] a∧St w0 Nil [j0] [bk I0 (pgC T0 M0 U0 O0 oa12 cap13 oa16 cap17 P0 E0 Q0 F0 p1) 27] w) ?_ ?_
 refine wb<|lp (α:=Nat×Int) (λgh a w=>match gh with | (F1,Y0)=>∃ (I1:PH),(Z3c N (Z35 N p1 C0) p1 C0) F1 Y0=some r∧Ext w0 H40 I1∧Fr 150 [(1,PT I0),(4,SL V0 C0 S0),(8,i6 Y0)] a∧St w0 Nil [I1] [bk I0 (pgC T0 M0 U0 O0 oa12 cap13 oa16 cap17 P0 E0 Q0 F0 p1) 27] w) (λgh=>gh.1) (N,0) ⟨H40,hm,(Ext.refl _ _),o.hs,u⟩ ?_
 rintro ⟨F1,Y0⟩ a w ⟨I1,hm,D0,o,u⟩
 obtain _ | F1:=F1
 simp [Z3c] at hm
 rw [Z3c] at hm
 refine th<|th<|rg<|qm o rfl λo=>qm o rfl λo=>qv o (Aj (α:=api_Thread) (xs:=C0) o Da rfl) λo=>qv o (Am o rfl rfl) λo=>re<|?_
 rcases bip hm with ⟨B3,hm⟩ | ⟨B3,hm⟩
 refine tn<|ctv o rfl B3<|wk<|tn<|th<|Av (λa w=>∃ (J3:PH),(Z36 (Z3c N (Z35 N p1 C0) p1 C0 F1) Y0)=some r∧Ext w0 I1 J3∧Fr 150 [(1,PT I0),(4,SL V0 C0 S0),(8,i6 Y0)] a∧St w0 Nil [J3] [bk I0 (pgC T0 M0 U0 O0 oa12 cap13 oa16 cap17 P0 E0 Q0 F0 p1) 27] w) ?_ ?_
 refine wb<|th<|rg<|qa o rfl λo=>re<|tn<|wb<|lp (α:=Nat×Int) (λgh a w=>match gh with | (S1,T1)=>∃ (HD1:PH),(Z3d N (Z36 (Z3c N (Z35 N p1 C0) p1 C0 F1) Y0) p1 C0 Y0) S1 T1=some r∧Ext w0 I1 HD1∧Fr 150 [(1,PT I0),(4,SL V0 C0 S0),(8,i6 Y0),(9,i6 T1)] a∧St w0 Nil [HD1] [bk I0 (pgC T0 M0 U0 O0 oa12 cap13 oa16 cap17 P0 E0 Q0 F0 p1) 27] w) (λgh=>gh.1) (N,0) ⟨I1,hm,(Ext.refl _ _),o.hs,u⟩ ?_
 rintro ⟨S1,T1⟩ a w ⟨HD1,hm,hxHD1,o,u⟩
 obtain _ | S1:=S1
 simp [Z3d] at hm
 rw [Z3d] at hm
 refine th<|th<|?_
 obtain ⟨A5,J1,hm⟩:=bs hm
 obtain ⟨u7,T6,D1⟩:=SR.get R0 J1
 obtain ⟨L7,v6,M7,y6,rfl,C3,O1,O7,P7⟩:=Bm T6
 refine rg<|qm o rfl λo=>?_
 iterate 2 refine qm o rfl λo=>?_
 refine qv o (eI o Da sizeOf78 rfl rfl J1 R0) λo=>qf o Ec rfl λo=>qv o (Ap o isAgg75 rfl (PH.le.cell (λb o hx=>(Lds.le u.ld) b o ((cp hxHD1.sub D0.sub) b o hx)) (D1 1 _ rfl))) λo=>qv o (Aj (α:=Str) (xs:=A5.Regs) o Ly rfl) λo=>qv o (Am o rfl rfl) λo=>re<|?_
 rcases bip hm with ⟨D3,hm⟩ | ⟨D3,hm⟩
 refine tn<|ctv o rfl D3<|wk<|tn<|th<|wb<|th<|?_
 obtain ⟨U6,B5,hm⟩:=bs hm
 obtain ⟨V6,W6,U5⟩:=SR.get O1 B5
 obtain rfl:V6=[Ae U6]:=W6
 refine rg<|qm o rfl λo=>qm o rfl λo=>qv o (eI o Da sizeOf78 rfl rfl J1 R0) λo=>qf o Ec rfl λo=>qv o (Ap o isAgg75 rfl (PH.le.cell (λb o hx=>(Lds.le u.ld) b o ((cp hxHD1.sub D0.sub) b o hx)) (D1 1 _ rfl))) λo=>qm o rfl λo=>qv o (eI o Ly sizeOf9 rfl rfl B5 O1) λo=>qv o (Ap o isAgg9 rfl (PH.le.cell (λb o hx=>(Lds.le u.ld) b o ((cp hxHD1.sub D0.sub) b o hx)) (U5 0 _ rfl))) λo=>qa o rfl λo=>re<|tn<|th<|Av (λa w=>∃ (O3:Bool) (HE1:PH),(Z37 (Z3d N (Z36 (Z3c N (Z35 N p1 C0) p1 C0 F1) Y0) p1 C0 Y0 S1) A5 T1) O3=some r∧Ext w0 HD1 HE1∧Fr 150 [(1,PT I0),(4,SL V0 C0 S0),(8,i6 Y0),(9,i6 T1),(88,.bool O3)] a∧St w0 Nil [HE1] [bk I0 (pgC T0 M0 U0 O0 oa12 cap13 oa16 cap17 P0 E0 Q0 F0 p1) 27] w) ?_ ?_
 obtain ⟨v7,P3,hm⟩:=bs hm
 rcases bip hm with ⟨U1,hm⟩ | ⟨U1,hm⟩
 refine rg<|qm o rfl λo=>qm o rfl λo=>qv o (eI o Da sizeOf78 rfl rfl J1 R0) λo=>qf o Ec rfl λo=>qv o (Ap o isAgg75 rfl (PH.le.cell (λb o hx=>(Lds.le u.ld) b o ((cp hxHD1.sub D0.sub) b o hx)) (D1 1 _ rfl))) λo=>qm o rfl λo=>ls<|cr o call54 (Hd (Ag _) C3 (St.srH u (O1.mono (cp hxHD1.sub D0.sub))) P3) u λu o=>qm o rfl λo=>qv o (Am o rfl rfl) λo=>qv o (As (Aa o rfl) (congrArg Value.bool U1)) λo=>?_
 iterate 5 refine qn o λo=>?_
 refine qv o (Ab o rfl rfl) λo=>qm o rfl λo=>?_
 iterate 5 refine qn o λo=>?_
 refine qv o (Ab o rfl rfl) λo=>re<|tn<|?_
 exact ⟨true,HD1,hm,(Ext.refl _ _),o.hs,u⟩
 obtain ⟨z7,C5,hm⟩:=bs hm
 obtain ⟨A8,D5,hm⟩:=bs hm
 rcases bip hm with ⟨V1,hm⟩ | ⟨V1,hm⟩
 refine rg<|qm o rfl λo=>qm o rfl λo=>qv o (eI o Da sizeOf78 rfl rfl J1 R0) λo=>qf o Ec rfl λo=>qv o (Ap o isAgg75 rfl (PH.le.cell (λb o hx=>(Lds.le u.ld) b o ((cp hxHD1.sub D0.sub) b o hx)) (D1 1 _ rfl))) λo=>qm o rfl λo=>ls<|cr o call54 (Hd (Ag _) C3 (St.srH u (O1.mono (cp hxHD1.sub D0.sub))) P3) u λu o=>qm o rfl λo=>qv o (Am o rfl rfl) λo=>qv o (As (Aa o rfl) (congrArg Value.bool U1)) λo=>qg o (An o isAgg27 sizeOf27 rfl rfl (u.ld.cellsB t0)) λo=>ls<|gy o rfl rfl<|c1 o rfl call22 (Td (Ag _) (Enc.mono (St.up u) (Enc.mono (cp (cp hxHD1.sub D0.sub) J0.sub) g3)) C5) ⟨rfl,trivial⟩ (λv w a hR o=>?_)
 obtain ⟨V5,B4,W5,rfl,n0,hk⟩:=hR
 replace u:=u.fresh hk
 replace n0:=n0 HD1
 obtain ⟨H97,X1,E3,F3,u⟩:=St.frzS u .head n0
 refine qg o (Aa o rfl) λo=>ls<|gy o rfl rfl<|cr o call54 (Hd (Ag _) F3 (St.srH u E3) D5) u λu o=>qg o (Bw o rfl rfl) λo=>qv o (Ac o rfl rfl) λo=>qv o (As (Aa o rfl) (congrArg Value.bool V1)) λo=>?_
 iterate 5 refine qn o λo=>?_
 refine qv o (Ab o rfl rfl) λo=>re<|tn<|?_
 exact ⟨true,H97,hm,X1,o.hs,u⟩
 obtain ⟨Q7,X5,hm⟩:=bs hm
 obtain ⟨Y5,j5,hm⟩:=bs hm
 refine rg<|qm o rfl λo=>qm o rfl λo=>qv o (eI o Da sizeOf78 rfl rfl J1 R0) λo=>qf o Ec rfl λo=>qv o (Ap o isAgg75 rfl (PH.le.cell (λb o hx=>(Lds.le u.ld) b o ((cp hxHD1.sub D0.sub) b o hx)) (D1 1 _ rfl))) λo=>qm o rfl λo=>ls<|cr o call54 (Hd (Ag _) C3 (St.srH u (O1.mono (cp hxHD1.sub D0.sub))) P3) u λu o=>qm o rfl λo=>qv o (Am o rfl rfl) λo=>qv o (As (Aa o rfl) (congrArg Value.bool U1)) λo=>qg o (An o isAgg27 sizeOf27 rfl rfl (u.ld.cellsB t0)) λo=>ls<|gy o rfl rfl<|c1 o rfl call22 (Td (Ag _) (Enc.mono (St.up u) (Enc.mono (cp (cp hxHD1.sub D0.sub) J0.sub) g3)) C5) ⟨rfl,trivial⟩ (λv w a hR o=>?_)
 obtain ⟨V5,B4,W5,rfl,n0,hk⟩:=hR
 replace u:=u.fresh hk
 replace n0:=n0 HD1
 obtain ⟨H97,X1,E3,F3,u⟩:=St.frzS u .head n0
 refine qg o (Aa o rfl) λo=>ls<|gy o rfl rfl<|cr o call54 (Hd (Ag _) F3 (St.srH u E3) D5) u λu o=>qg o (Bw o rfl rfl) λo=>qv o (Ac o rfl rfl) λo=>qv o (As (Aa o rfl) (congrArg Value.bool V1)) λo=>qg o (An o isAgg27 sizeOf27 rfl rfl (u.ld.cellsB t0)) λo=>ls<|gy o rfl rfl<|c1 o rfl call55 (JcX (Ag _) (Enc.mono (St.up u) (Enc.mono (cp (cp (cp X1.sub hxHD1.sub) D0.sub) J0.sub) g3)) X5) ⟨rfl,trivial⟩ (λv w a hR o=>?_)
 obtain ⟨z6,X6,A7,rfl,Y1,hk⟩:=hR
 replace u:=u.fresh hk
 replace Y1:=Y1 H97
 refine qg o (Aa o rfl) λo=>ls<|gy o rfl rfl<|cr o call54 (Hd (Ag _) (St.capO u t0) (St.srO u t0 Y1) j5) u λu o=>qg o (Bw o rfl rfl) λo=>qv o (Ac o rfl rfl) λo=>re<|tn<|?_
 replace u:=u.pk [1] rfl
 exact ⟨(decide (0≤Y5)),H97,hm,X1,o.hs,u⟩
 rintro a w ⟨O3,HE1,hm,hxHE1,o,u⟩
 unfold Z37 at hm
 rcases bit hm with ⟨u1,hm⟩ | ⟨u1,hm⟩
 refine ctv o rfl u1<|th<|rxS 7 u wide (by kernel_rfl) λw u=>?_
 iterate 2 refine xq u.ld o (λw hl=>Aa o rfl) λo=>?_
 refine xr u o (eI o Da sizeOf78 rfl rfl J1 R0) λo=>xr u o (Ad o Rj rfl) λo=>xq u.ld o (λw hl=>Ap o isAgg3 rfl (PH.le.cell (λb o hx=>(Lds.le hl) b o ((cp (cp hxHE1.sub hxHD1.sub) D0.sub) b o hx)) (D1 3 _ rfl))) λo=>?_
 iterate 2 refine xq u.ld o (λw hl=>Ca o rfl) λo=>?_
 refine xe<|tn<|wr<|br<|tr<|tr<|br<|br<|tr<|tr<|br<|tr<|?_
 obtain rfl:=si hm
 exact r2 o results16 rfl rfl ⟨rfl,u.keep⟩
 refine cfv o rfl u1<|wk<|bn<|tn<|rg<|qm o rfl λo=>qv o (Ao o rfl rfl) λo=>qa o rfl λo=>re<|tn<|?_
 exact ⟨(S1,(i64.wrap (T1+1))),⟨HE1,hm,(Ext.trans hxHD1 hxHE1),o.hs,u⟩,kxd _⟩
 refine tn<|cfv o rfl D3<|we<|tx<|tx<|bx<|bn<|tn<|?_
 exact ⟨HD1,hm,hxHD1,o.hs,u⟩
 rintro a w ⟨J3,hm,hxHC1,o,u⟩
 unfold Z36 at hm
 refine rg<|qm o rfl λo=>qv o (Ao o rfl rfl) λo=>qa o rfl λo=>re<|tn<|?_
 exact ⟨(F1,(i64.wrap (Y0+1))),⟨J3,hm,(Ext.trans D0 hxHC1),o.hs,u⟩,kxd _⟩
 refine tn<|cfv o rfl B3<|we<|tx<|tx<|bx<|tn<|?_
 exact ⟨I1,hm,D0,o.hs,u⟩
 rintro a w ⟨j0,hm,K0,o,u⟩
 unfold Z35 at hm
 refine th<|th<|rg<|qa o rfl λo=>re<|tn<|Av (λa w=>(Z38 N p1)=some r∧Fr 150 [(1,PT I0)] a∧St w0 Nil [j0] [bk I0 (pgC T0 M0 U0 O0 oa12 cap13 oa16 cap17 P0 E0 Q0 F0 p1) 27] w) ?_ ?_
 refine wb<|lp (α:=Nat×Int) (λgh a w=>match gh with | (P1,C1)=>(Z3e N (Z38 N p1) p1 C0) P1 C1=some r∧Fr 150 [(1,PT I0),(4,SL V0 C0 S0),(11,i6 C1)] a∧St w0 Nil [j0] [bk I0 (pgC T0 M0 U0 O0 oa12 cap13 oa16 cap17 P0 E0 Q0 F0 p1) 27] w) (λgh=>gh.1) (N,0) ⟨hm,o.hs,u⟩ ?_
 rintro ⟨P1,C1⟩ a w ⟨hm,o,u⟩
 obtain _ | P1:=P1
 simp [Z3e] at hm
 rw [Z3e] at hm
 refine th<|th<|rg<|qm o rfl λo=>qm o rfl λo=>qv o (Aj (α:=api_Thread) (xs:=C0) o Da rfl) λo=>qv o (Am o rfl rfl) λo=>re<|?_
 rcases bip hm with ⟨C2,hm⟩ | ⟨C2,hm⟩
 refine tn<|ctv o rfl C2<|wk<|tn<|th<|Av (λa w=>(Z33 (Z3e N (Z38 N p1) p1 C0 P1) C1)=some r∧Fr 150 [(1,PT I0),(4,SL V0 C0 S0),(11,i6 C1)] a∧St w0 Nil [j0] [bk I0 (pgC T0 M0 U0 O0 oa12 cap13 oa16 cap17 P0 E0 Q0 F0 p1) 27] w) ?_ ?_
 refine wb<|th<|rg<|qa o rfl λo=>re<|tn<|wb<|lp (α:=Nat×Int) (λgh a w=>match gh with | (Q1,K3)=>(Z39 N (Z33 (Z3e N (Z38 N p1) p1 C0 P1) C1) p1 C0 C1) Q1 K3=some r∧Fr 150 [(1,PT I0),(4,SL V0 C0 S0),(11,i6 C1),(12,i6 K3)] a∧St w0 Nil [j0] [bk I0 (pgC T0 M0 U0 O0 oa12 cap13 oa16 cap17 P0 E0 Q0 F0 p1) 27] w) (λgh=>gh.1) (N,0) ⟨hm,o.hs,u⟩ ?_
 rintro ⟨Q1,K3⟩ a w ⟨hm,o,u⟩
 obtain _ | Q1:=Q1
 simp [Z39] at hm
 rw [Z39] at hm
 refine th<|th<|?_
 obtain ⟨E1,E2,hm⟩:=bs hm
 obtain ⟨R7,u5,F2⟩:=SR.get R0 E2
 obtain ⟨C4,Q3,D4,R3,rfl,E4,F4,I4,I2⟩:=Bm u5
 refine rg<|qm o rfl λo=>?_
 iterate 2 refine qm o rfl λo=>?_
 refine qv o (eI o Da sizeOf78 rfl rfl E2 R0) λo=>qf o Mt rfl λo=>qv o (Ap o isAgg76 rfl (PH.le.cell (λb o hx=>(Lds.le u.ld) b o (K0.sub b o hx)) (F2 2 _ rfl))) λo=>qv o (Aj (α:=api_Stmt) (xs:=E1.Body) o Ew rfl) λo=>qv o (Am o rfl rfl) λo=>re<|?_
 rcases bip hm with ⟨J2,hm⟩ | ⟨J2,hm⟩
 refine tn<|ctv o rfl J2<|wk<|tn<|th<|wb<|th<|?_
 obtain ⟨S3,T3,hm⟩:=bs hm
 obtain ⟨S7,A6,J4⟩:=SR.get I2 T3
 obtain ⟨K4,U3,L4,V3,rfl,M4,O4,P4,Q4⟩:=Cb A6
 obtain ⟨T7,B6,hm⟩:=bs hm
 refine rdS 15 u wide λw u=>dq 0 u.ld o rfl (λw hl=>An o isAgg27 sizeOf27 rfl rfl (hl.cellsB t0)) λo=>dr 1 u o rfl (Aa o rfl) λo=>dr 2 u o rfl (Aa o rfl) λo=>dr 3 u o rfl (eI o Da sizeOf78 rfl rfl E2 R0) λo=>dq 4 u.ld o rfl (λw hl=>An o isAgg78 sizeOf78 rfl rfl (λj v hj=>PH.le.cell (λb o hx=>(Lds.le hl) b o (K0.sub b o hx)) (F2 j v hj))) λo=>dr 5 u o rfl (Aa o rfl) λo=>dr 6 u o rfl (Aa o rfl) λo=>dr 7 u o rfl (eI o Da sizeOf78 rfl rfl E2 R0) λo=>dr 8 u o rfl (Ad o Mt rfl) λo=>dq 9 u.ld o rfl (λw hl=>Ap o isAgg76 rfl (PH.le.cell (λb o hx=>(Lds.le hl) b o (K0.sub b o hx)) (F2 2 _ rfl))) λo=>dr 10 u o rfl (Aa o rfl) λo=>dr 11 u o rfl (eI o Ew sizeOf130 rfl rfl T3 I2) λo=>dq 12 u.ld o rfl (λw hl=>An o isAgg130 sizeOf130 rfl rfl (λj v hj=>PH.le.cell (λb o hx=>(Lds.le hl) b o (K0.sub b o hx)) (J4 j v hj))) λo=>dz 13 rfl<|cr o call56 (JgF (Ag _) (Enc.mono (St.up u) (Enc.mono (cp K0.sub J0.sub) g3)) (Enc.mono (St.up u) (show Enc.rep (α:=api_Thread) j0 [Ae E1.Name,SL C4 E1.Regs Q3,SL D4 E1.Body R3,i6 E1.At] E1 from ⟨_,_,rfl,rfl,⟨_,_,rfl,⟨_,_,rfl,E4,(F4.mono K0.sub)⟩,⟨_,_,rfl,⟨_,_,rfl,I4,(I2.mono K0.sub)⟩,rfl⟩⟩⟩)) (Enc.mono (St.up u) (show Enc.rep (α:=api_Stmt) j0 (stC K4 U3 L4 V3 S3) S3 from ⟨_,_,rfl,rfl,⟨_,_,rfl,rfl,⟨_,_,rfl,rfl,⟨_,_,rfl,⟨_,_,rfl,M4,(O4.mono K0.sub)⟩,⟨_,_,rfl,⟨_,_,rfl,P4,(Q4.mono K0.sub)⟩,⟨_,_,rfl,rfl,⟨_,_,rfl,rfl,⟨_,_,rfl,rfl,rfl⟩⟩⟩⟩⟩⟩⟩⟩)) B6) u λu o=>⟨λ_=>u.ld,?_⟩
 refine dr 14 u o rfl (Ca o rfl) λo=>dE<|tn<|th<|rg<|qm o rfl λo=>qv o (Bw o rfl rfl) λo=>re<|?_
 rcases bip hm with ⟨K2,hm⟩ | ⟨K2,hm⟩
 refine tn<|ctv o rfl K2<|th<|rg<|qm o rfl λo=>?_
 iterate 2 refine qa o rfl λo=>?_
 refine re<|tn<|wr<|br<|tr<|tr<|br<|br<|tr<|tr<|br<|tr<|?_
 obtain rfl:=si hm
 exact r2 o results16 rfl rfl ⟨rfl,u.keep⟩
 refine tn<|cfv o rfl K2<|wk<|bn<|tn<|rg<|qm o rfl λo=>qv o (Ao o rfl rfl) λo=>qa o rfl λo=>re<|tn<|?_
 exact ⟨(Q1,(i64.wrap (K3+1))),⟨hm,o.hs,u⟩,kxd _⟩
 refine tn<|cfv o rfl J2<|we<|tx<|tx<|bx<|bn<|tn<|?_
 exact ⟨hm,o.hs,u⟩
 rintro a w ⟨hm,o,u⟩
 unfold Z33 at hm
 refine rg<|qm o rfl λo=>qv o (Ao o rfl rfl) λo=>qa o rfl λo=>re<|tn<|?_
 exact ⟨(P1,(i64.wrap (C1+1))),⟨hm,o.hs,u⟩,kxd _⟩
 refine tn<|cfv o rfl C2<|we<|tx<|tx<|bx<|tn<|?_
 exact ⟨hm,o.hs,u⟩
 rintro a w ⟨hm,o,u⟩
 unfold Z38 at hm
 refine th<|?_
 obtain ⟨C6,D6,hm⟩:=bs hm
 obtain ⟨E6,F6,hm⟩:=bs hm
 obtain ⟨W3,X3,hm⟩:=bs hm
 refine rdS 6 u wide λw u=>dq 0 u.ld o rfl (λw hl=>An o isAgg27 sizeOf27 rfl rfl (hl.cellsB t0)) λo=>dq 2 u.ld o rfl (λw hl=>An o isAgg27 sizeOf27 rfl rfl (hl.cellsB t0)) λo=>dz 1 rfl<|c1 o rfl call22 (Td (Ag _) (Enc.mono (St.up u) (Enc.mono (cp K0.sub J0.sub) g3)) D6) ⟨rfl,trivial⟩ (λv w a hR o=>?_)
 obtain ⟨B7,Y6,C7,rfl,O2,hk⟩:=hR
 replace u:=u.fresh hk
 replace O2:=O2 j0
 obtain ⟨H151,W0,R4,L3,u⟩:=St.frzS u .head O2
 refine ⟨λ_=>(St.ldsX u W0.sub i1),?_⟩
 refine dz 3 rfl<|cr o call17 (JaC (Ag _) (Enc.mono (St.up u) (Enc.mono (cp (cp W0.sub K0.sub) J0.sub) g3)) F6) u λu o=>⟨λ_=>(St.ldsX u W0.sub i1),?_⟩
 obtain ⟨S4,Y3,e158,e159,T4,U4⟩:=SR.sub (sz:=1) R4 L3 rfl X3
 refine ds 4 (St.ldsX u W0.sub i1) o rfl (Dc (xs:=C6) (vl:=0) (vh:=E6) o Ly sizeOf9 rfl L3 rfl rfl X3 e158 e159) λo=>ds 5 (St.ldsX u W0.sub i1) o rfl (Ca o rfl) λo=>dE<|tn<|th<|th<|rg<|qa o rfl λo=>re<|tn<|Av (λa w=>Z34=some r∧Fr 150 [] a∧St w0 Nil [H151] [] w) ?_ ?_
 refine wb<|lp (α:=Nat×Int) (λgh a w=>match gh with | (R1,M3)=>(Z3a N Z34 p1 W3) R1 M3=some r∧Fr 150 [(1,PT I0),(13,SL S4 W3 Y3),(14,i6 M3)] a∧St w0 Nil [H151] [bk I0 (pgC T0 M0 U0 O0 oa12 cap13 oa16 cap17 P0 E0 Q0 F0 p1) 27] w) (λgh=>gh.1) (N,0) ⟨hm,o.hs,u⟩ ?_
 rintro ⟨R1,M3⟩ a w ⟨hm,o,u⟩
 obtain _ | R1:=R1
 simp [Z3a] at hm
 rw [Z3a] at hm
 refine th<|th<|rg<|qm o rfl λo=>qf o Fw rfl λo=>qB o isAgg25 rfl u t0 rfl λo=>qv o (Aj (α:=api_Claim) (xs:=p1.Claims) o Pp rfl) λo=>qv o (Am o rfl rfl) λo=>re<|?_
 rcases bip hm with ⟨P2,hm⟩ | ⟨P2,hm⟩
 refine tn<|ctv o rfl P2<|wk<|tn<|th<|wb<|th<|?_
 obtain ⟨U7,A4,hm⟩:=bs hm
 obtain ⟨V7,I6,V4⟩:=SR.get U2 A4
 obtain ⟨D7,j6,rfl,W4,X4⟩:=Fj I6
 obtain ⟨W7,J6,hm⟩:=bs hm
 refine rg<|qf o Fw rfl λo=>qB o isAgg25 rfl u t0 rfl λo=>qm o rfl λo=>qv o (eI o Pp sizeOf84 rfl rfl A4 U2) λo=>qf o Ub rfl λo=>qv o (Ap o isAgg82 rfl (PH.le.cell (λb o hx=>(Lds.le u.ld) b o ((cp (cp W0.sub K0.sub) J0.sub) b o hx)) (V4 0 _ rfl))) λo=>qm o rfl λo=>ls<|cr o call57 (Jc6 (Ag _) W4 (St.srH u (X4.mono (cp (cp W0.sub K0.sub) J0.sub))) T4 (St.srH u U4) J6) u λu o=>qa o rfl λo=>re<|tn<|th<|rg<|qm o rfl λo=>qv o (Bw o rfl rfl) λo=>re<|?_
 rcases bip hm with ⟨R2,hm⟩ | ⟨R2,hm⟩
 refine tn<|ctv o rfl R2<|th<|rg<|qm o rfl λo=>?_
 iterate 2 refine qa o rfl λo=>?_
 refine re<|tn<|wr<|br<|tr<|tr<|br<|tr<|?_
 obtain rfl:=si hm
 exact r2 o results16 rfl rfl ⟨rfl,u.keep⟩
 refine tn<|cfv o rfl R2<|wk<|bn<|tn<|rg<|qm o rfl λo=>qv o (Ao o rfl rfl) λo=>qa o rfl λo=>re<|tn<|?_
 exact ⟨(R1,(i64.wrap (M3+1))),⟨hm,o.hs,u⟩,kxd _⟩
 refine tn<|cfv o rfl P2<|we<|tx<|tx<|bx<|tn<|?_
 replace u:=u.pickL .nil
 exact ⟨hm,o.has trivial,u⟩
 rintro a w ⟨hm,o,u⟩
 unfold Z34 at hm
 refine th<|rg<|qa o rfl λo=>qa o rfl λo=>re<|tn<|wr<|?_
 obtain rfl:=si hm
 exact r2 o results16 rfl rfl ⟨rfl,u.keep⟩
 refine tn<|ctv o rfl (by rw [V2];rfl)<|th<|rg<|qa o rfl λo=>qa o rfl λo=>re<|tn<|wr<|tr<|?_
 obtain rfl:=si hm
 exact r2 o results16 rfl rfl ⟨rfl,u.keep⟩
theorem Jcr (hH:H.le w0) {cs2:List Value} {p1:api_Prog} (g3:Enc.rep H cs2 p1) {r:(List Int)} (hm:Z3f N p1=some r):Tot Tryz.prog 18 #[.agg cs2.toArray] w0 (λv w'=>∃ (E1:Option Addr) (V0:Nat) (F1:List Value),v=SL E1 r V0∧(∀ h,Rows h F1 r)∧Fresh w0 (sla 3 1 E1 r.length V0 F1) w'):=by
 unfold Z3f at hm
 refine fn0 func18 rfl ntmps18 rfl rfl λa o=>?_
 have u:St w0 Nil [H] [] w0:=start1 hH
 obtain ⟨C2,I1,E2,J1,oa12,cap13,oa16,cap17,O1,n0,P1,C1,rfl,C3,D3,P2,R2,T2,U2,V2,W2,X2,Y2,A3,B3⟩:=Bc g3
 refine th<|rg<|ls<|Bo (cs:=(pgC C2 I1 E2 J1 oa12 cap13 oa16 cap17 O1 n0 P1 C1 p1).toArray) o rfl u rfl rfl λE3 w a u o=>qa o rfl λo=>re<|tn<|th<|?_
 obtain ⟨S0,F2,hm⟩:=bs hm
 refine rg<|ls<|bz (e:=3) (sz:=1) [] o u λI2 u o=>?_
 have Q1:Rows (α:=Int) H [] []:=.nil
 refine qv o (An o isAgg27 sizeOf27 rfl rfl (u.ld.cellsB t1)) λo=>ls<|c1 o rfl call58 (Yc (Ag _) (Enc.mono (St.up u) g3) F2) ⟨rfl,trivial⟩ (λv w a hR o=>?_)
 obtain ⟨W0,T0,R1,rfl,E0,hk⟩:=hR
 replace u:=u.fresh hk
 replace E0:=E0 H
 iterate 2 refine qa o rfl λo=>?_
 refine re<|tn<|th<|th<|rg<|qa o rfl λo=>re<|tn<|Av (λa w=>∃ (K0:(List Int)) (P0:Option Addr) (F0:Nat) (Q0:List Value),Z3g K0=some r∧Fr 24 [(3,SL P0 K0 F0)] a∧St w0 Nil [H] [sla 3 1 P0 K0.length F0 Q0] w∧Rows H Q0 K0) ?_ ?_
 replace u:=u.pk [1,0] rfl
 refine wb<|lp (α:=Nat×(List Int)×Int) (λgh a w=>match gh with | (M0,D0,U0)=>∃ (I0:Option Addr) (C0:Nat) (J0:List Value),(Z3h N Z3g S0) M0 D0 U0=some r∧Fr 24 [(3,SL I0 D0 C0),(4,SL W0 S0 T0),(5,i6 U0)] a∧St w0 Nil [H] [sla 3 1 I0 D0.length C0 J0,sla 134 3 W0 S0.length T0 R1] w∧Rows H J0 D0) (λgh=>gh.1) (N,[],0) ⟨(some ⟨I2,0,none⟩),0,[],hm,o.hs,u,Q1⟩ ?_
 rintro ⟨M0,D0,U0⟩ a w ⟨I0,C0,J0,hm,o,u,Y0⟩
 obtain _ | M0:=M0
 simp [Z3h] at hm
 rw [Z3h] at hm
 refine th<|th<|rg<|qm o rfl λo=>qm o rfl λo=>qv o (Aj (α:=api_Cell) (xs:=S0) o Fz rfl) λo=>qv o (Am o rfl rfl) λo=>re<|?_
 rcases bip hm with ⟨R0,hm⟩ | ⟨R0,hm⟩
 refine tn<|ctv o rfl R0<|wk<|tn<|th<|wb<|?_
 obtain ⟨O0,j0,hm⟩:=bs hm
 have S1:=Rd.oaI (u.rdO t1) E0 (by decide) j0
 obtain ⟨F3,J2,T1⟩:=Rows.getI E0 j0
 obtain rfl:=Ex J2
 obtain ⟨K2,O2,hm⟩:=bs hm
 refine rg<|qm o rfl λo=>?_
 iterate 2 refine qm o rfl λo=>?_
 refine qv o (Co o Fz sizeOf134 rfl rfl j0 S1) λo=>qf o Nk rfl λo=>qv o (Ap o isAgg3 rfl (u.ld.elO2 t1 (T1 1 _ rfl))) λo=>ls<|bz (e:=3) (sz:=1) [i6 O0.N] o u λI3 u o=>?_
 have U1:Rows (α:=Int) H [i6 O0.N] ([O0.N]:List Int):=(.cons (c:=[i6 O0.N]) rfl .nil)
 refine ls<|Ay (α:=Int) (xs:=D0) (ys:=([O0.N]:List Int)) o rfl u underlying28 Bs rfl (by decide) rfl rfl rfl t1 Y0 (u.rdO t0) U1 O2 λV1 D1 X1 w a Y1 hU o=>?_
 replace u:=hU _ (.tail .head)
 replace u:=u.drop .head
 refine qa o rfl λo=>re<|bn<|tn<|rg<|qm o rfl λo=>qv o (Ao o rfl rfl) λo=>qa o rfl λo=>re<|tn<|?_
 exact ⟨(M0,K2,(i64.wrap (U0+1))),⟨V1,D1,X1,hm,o.hs,u,Y1⟩,kxd _⟩
 refine tn<|cfv o rfl R0<|we<|tx<|tx<|bx<|tn<|?_
 replace u:=u.pk [0] rfl
 exact ⟨D0,I0,C0,J0,hm,o.hs,u,Y0⟩
 rintro a w ⟨K0,P0,F0,Q0,hm,o,u,u1⟩
 unfold Z3g at hm
 refine th<|rg<|qm o rfl λo=>qa o rfl λo=>re<|tn<|wr<|?_
 obtain rfl:=si hm
 exact r1 o results18 rfl ⟨_,_,_,rfl,(λ_=>Rows.ind u1),u.endFresh t0⟩
theorem Je6 (hH:H.le w0) {cs2:List Value} {p1:api_Prog} (g3:Enc.rep H cs2 p1) {p4:Int} {r:Int} (hm:Z3l N p1 p4=some r):Tot Tryz.prog 19 #[.agg cs2.toArray,i6 p4] w0 (λv w'=>v=i6 r∧Keep Nil w0 w'):=by
 unfold Z3l at hm
 refine fn0 func19 rfl ntmps19 rfl rfl λa o=>?_
 have u:St w0 Nil [H] [] w0:=start1 hH
 obtain ⟨V0,J0,W0,C0,K0,D0,M0,E0,oa21,cap22,O0,F0,rfl,R2,j0,S1,T1,U1,V1,X1,Y1,u1,C2,E2,F2⟩:=Bc g3
 refine th<|rg<|ls<|Bo (cs:=(pgC V0 J0 W0 C0 K0 D0 M0 E0 oa21 cap22 O0 F0 p1).toArray) o rfl u rfl rfl λI0 w a u o=>qa o rfl λo=>re<|tn<|th<|th<|Av (λa w=>∃ (n0:Bool),(Z3m N p1 p4) n0=some r∧Fr 46 [(1,i6 p4),(2,PT I0),(15,.bool n0)] a∧St w0 Nil [H] [bk I0 (pgC V0 J0 W0 C0 K0 D0 M0 E0 oa21 cap22 O0 F0 p1) 27] w) ?_ ?_
 rcases bip hm with ⟨R0,hm⟩ | ⟨R0,hm⟩
 refine rg<|qm o rfl λo=>qv o (Am o rfl rfl) λo=>qv o (As (Aa o rfl) (congrArg Value.bool R0)) λo=>?_
 iterate 5 refine qn o λo=>?_
 refine qv o (Ab o rfl rfl) λo=>re<|tn<|?_
 exact ⟨true,hm,o.hs,u⟩
 obtain ⟨J1,O1,hm⟩:=bs hm
 refine rg<|qm o rfl λo=>qv o (Am o rfl rfl) λo=>qv o (As (Aa o rfl) (congrArg Value.bool R0)) λo=>qg o (Aa o rfl) λo=>qg o (An o isAgg27 sizeOf27 rfl rfl (u.ld.cellsB t0)) λo=>ls<|gy o rfl rfl<|c1 o rfl call58 (Yc (Ag _) (Enc.mono (St.up u) g3) O1) ⟨rfl,trivial⟩ (λv w a hR o=>?_)
 obtain ⟨I2,Q1,J2,rfl,C1,hk⟩:=hR
 replace u:=u.fresh hk
 replace C1:=C1 H
 refine qg o (Aj (α:=api_Cell) (xs:=J1) o Fz rfl) λo=>qg o (Bw o rfl rfl) λo=>qv o (Ac o rfl rfl) λo=>re<|tn<|?_
 replace u:=u.pk [1] rfl
 exact ⟨(decide ((J1.length:Int)≤p4)),hm,o.hs,u⟩
 rintro a w ⟨n0,hm,o,u⟩
 unfold Z3m at hm
 rcases bit hm with ⟨S0,hm⟩ | ⟨S0,hm⟩
 refine ctv o rfl S0<|th<|rg<|qa o rfl λo=>re<|tn<|wr<|tr<|?_
 obtain rfl:=si hm
 exact r1 o results19 rfl ⟨rfl,u.keep⟩
 refine cfv o rfl S0<|wk<|tn<|th<|rg<|qm o rfl λo=>qa o rfl λo=>re<|tn<|th<|th<|rg<|qa o rfl λo=>re<|tn<|Av (λa w=>∃ (D1:Int),(Z3n p1) D1=some r∧Fr 46 [(2,PT I0),(5,i6 D1)] a∧St w0 Nil [H] [bk I0 (pgC V0 J0 W0 C0 K0 D0 M0 E0 oa21 cap22 O0 F0 p1) 27] w) ?_ ?_
 refine wb<|lp (α:=Nat×Int×Int) (λgh a w=>match gh with | (P0,Q0,Y0)=>(Z3o N (Z3n p1) p1) P0 Q0 Y0=some r∧Fr 46 [(2,PT I0),(5,i6 Q0),(6,i6 Y0)] a∧St w0 Nil [H] [bk I0 (pgC V0 J0 W0 C0 K0 D0 M0 E0 oa21 cap22 O0 F0 p1) 27] w) (λgh=>gh.1) (N,p4,0) ⟨hm,o.hs,u⟩ ?_
 rintro ⟨P0,Q0,Y0⟩ a w ⟨hm,o,u⟩
 obtain _ | P0:=P0
 simp [Z3o] at hm
 rw [Z3o] at hm
 refine th<|th<|rg<|qm o rfl λo=>qf o Ei rfl λo=>qB o isAgg22 rfl u t0 rfl λo=>qv o (Aj (α:=(List api_Cell)) (xs:=p1.Lines) o Ms rfl) λo=>qv o (Am o rfl rfl) λo=>re<|?_
 rcases bip hm with ⟨T0,hm⟩ | ⟨T0,hm⟩
 refine tn<|ctv o rfl T0<|wk<|tn<|th<|wb<|th<|th<|?_
 obtain ⟨E1,F1,hm⟩:=bs hm
 obtain ⟨T2,P1,I1⟩:=SR.get j0 F1
 obtain ⟨K2,R1,rfl,O2,P2⟩:=P1
 refine rg<|qm o rfl λo=>qf o Ei rfl λo=>qB o isAgg22 rfl u t0 rfl λo=>qm o rfl λo=>qv o (eI o Ms sizeOf23 rfl rfl F1 j0) λo=>qv o (eD o isAgg23 rfl u.ld (I1 0 _ rfl)) λo=>qv o (Aj (α:=api_Cell) (xs:=E1) o Fz rfl) λo=>qv o (Am o rfl rfl) λo=>re<|?_
 rcases bip hm with ⟨U0,hm⟩ | ⟨U0,hm⟩
 refine tn<|ctv o rfl U0<|th<|rg<|qm o rfl λo=>qa o rfl λo=>re<|tn<|wr<|tr<|br<|tr<|tr<|br<|tr<|?_
 obtain rfl:=si hm
 exact r1 o results19 rfl ⟨rfl,u.keep⟩
 refine tn<|cfv o rfl U0<|wk<|tn<|rg<|qm o rfl λo=>qf o Ei rfl λo=>qB o isAgg22 rfl u t0 rfl λo=>qm o rfl λo=>qv o (eI o Ms sizeOf23 rfl rfl F1 j0) λo=>qv o (eD o isAgg23 rfl u.ld (I1 0 _ rfl)) λo=>qv o (Aj (α:=api_Cell) (xs:=E1) o Fz rfl) λo=>qv o (Dr o rfl rfl) λo=>qa o rfl λo=>re<|bn<|tn<|rg<|qm o rfl λo=>qv o (Ao o rfl rfl) λo=>qa o rfl λo=>re<|tn<|?_
 exact ⟨(P0,(i64.wrap (Q0 - (E1.length:Int))),(i64.wrap (Y0+1))),⟨hm,o.hs,u⟩,kxd _⟩
 refine tn<|cfv o rfl T0<|we<|tx<|tx<|bx<|tn<|?_
 exact ⟨Q0,hm,o.hs,u⟩
 rintro a w ⟨D1,hm,o,u⟩
 unfold Z3n at hm
 refine th<|rg<|qf o Ei rfl λo=>qB o isAgg22 rfl u t0 rfl λo=>qv o (Aj (α:=(List api_Cell)) (xs:=p1.Lines) o Ms rfl) λo=>qm o rfl λo=>qv o (Ao o rfl rfl) λo=>qa o rfl λo=>re<|tn<|wr<|?_
 obtain rfl:=si hm
 exact r1 o results19 rfl ⟨rfl,u.keep⟩
theorem JgW:∀ (N:Nat) {w0:World} {H:PH} (hH:H.le w0) {J0:Option Addr} {F0:Nat} {p1:(List api_Stmt)} (D0:p1.length≤F0) (E0:SR H J0 p1) {r:Int} (hm:Z67 N p1=some r),Tot Tryz.prog 59 #[SL J0 p1 F0] w0 (λv w'=>v=i6 r∧Keep Nil w0 w'):=by
 intro N
 induction N with
  | zero=>intros;rename_i hm;simp [Z67] at hm
  | succ N ih=>
 intro w0 H hH J0 F0 p1 D0 E0 r hm
 rw [Z67] at hm
 refine fn0 func59 rfl ntmps59 rfl rfl λa o=>?_
 have u:St w0 Nil [H] [] w0:=start1 hH
 refine th<|rg<|qa o rfl λo=>re<|tn<|th<|th<|rg<|qm o rfl λo=>qv o (Aj (α:=api_Stmt) (xs:=p1) o Ew rfl) λo=>qv o (Ah o rfl rfl) λo=>re<|?_
 rcases bip hm with ⟨K0,hm⟩ | ⟨K0,hm⟩
 refine tn<|ctv o rfl K0<|th<|rg<|qa o rfl λo=>re<|tn<|wr<|tr<|?_
 obtain rfl:=si hm
 exact r1 o results59 rfl ⟨rfl,u.keep⟩
 refine tn<|cfv o rfl K0<|wk<|tn<|th<|?_
 obtain ⟨C0,h8,hm⟩:=bs hm
 obtain ⟨cz9,C1,T0⟩:=SR.get E0 h8
 obtain ⟨oa12,cap13,oa16,cap17,rfl,P1,Q1,R1,S1⟩:=Cb C1
 refine rg<|qm o rfl λo=>qv o (eI o Ew sizeOf130 rfl rfl h8 E0) λo=>qv o (eC o isAgg130 sizeOf130 rfl u.ld T0) λo=>ls<|Aq (cs:=[i6 0,Ae [],Ae [],.slice none 0 0,.slice none 0 0,i6 0,i6 0,i6 0,i6 0].toArray) o rfl u zeroValue130 rfl λX1 w a u o=>ls<|Ar o u sizeOf130 rfl rfl rfl rfl (Ak rfl) .head λw u=>re<|tn<|th<|rg<|qf o Ho rfl λo=>qB o isAgg3 rfl u t0 rfl λo=>qv o (Ao o rfl rfl) λo=>qa o rfl λo=>re<|tn<|th<|rg<|qm o rfl λo=>qf o El rfl λo=>qB o isAgg3 rfl u t0 rfl λo=>qv o (Ao o rfl rfl) λo=>qa o rfl λo=>re<|tn<|th<|?_
 obtain ⟨Y1,O0,hm⟩:=bs hm
 obtain ⟨T1,I1,e25,e26,U0,V0⟩:=SR.sub (sz:=9) E0 D0 rfl O0
 obtain ⟨P0,D1,hm⟩:=bs hm
 obtain ⟨u1,Q0,hm⟩:=bs hm
 obtain ⟨U1,J1,e35,e36,W0,Y0⟩:=SR.sub (sz:=9) E0 D0 rfl Q0
 obtain ⟨R0,E1,hm⟩:=bs hm
 refine rdS 11 u wide λw u=>dr 0 u o rfl (Aa o rfl) λo=>dr 1 u o rfl (Aa o rfl) λo=>dr 2 u o rfl (Dc (xs:=p1) (vl:=1) (vh:=(i64.wrap (1+C0.Body))) o Ew sizeOf130 rfl D0 rfl rfl O0 e25 e26) λo=>dr 4 u o rfl (Aa o rfl) λo=>dr 5 u o rfl (Aa o rfl) λo=>dr 6 u o rfl (Aa o rfl) λo=>dr 7 u o rfl (Dc (xs:=p1) (vl:=(i64.wrap (1+C0.Body))) (vh:=(i64.wrap ((i64.wrap (1+C0.Body))+C0.Else))) o Ew sizeOf130 rfl D0 rfl rfl Q0 e35 e36) λo=>dz 3 rfl<|cr o call59 (ih (Ag _) U0 (St.srH u V0) D1) u λu o=>⟨λ_=>u.ld,?_⟩
 refine dz 8 rfl<|cr o call59 (ih (Ag _) W0 (St.srH u Y0) E1) u λu o=>⟨λ_=>u.ld,?_⟩
 refine dr 9 u o rfl (JaX o rfl rfl) λo=>dr 10 u o rfl (Ca o rfl) λo=>dE<|tn<|th<|th<|rg<|qf o Cz rfl λo=>qB o isAgg3 rfl u t0 rfl λo=>qv o (Ah o rfl rfl) λo=>re<|tn<|Av (λa w=>∃ (M0:Int),(Z68 (Z67 N) p1 C0) M0=some r∧Fr 41 [(0,SL J0 p1 F0),(5,i6 (i64.wrap ((i64.wrap (1+C0.Body))+C0.Else))),(6,i6 M0)] a∧St w0 Nil [H] [] w) ?_ ?_
 rcases bip hm with ⟨I0,hm⟩ | ⟨I0,hm⟩
 refine ctv o rfl I0<|rg<|qm o rfl λo=>qv o (Ao o rfl rfl) λo=>qa o rfl λo=>re<|tn<|?_
 replace u:=u.pickL .nil
 exact ⟨(i64.wrap ((max P0 R0)+1)),hm,o.hs,u⟩
 refine cfv o rfl I0<|wk<|tn<|?_
 replace u:=u.pickL .nil
 exact ⟨(max P0 R0),hm,o.hs,u⟩
 rintro a w ⟨M0,hm,o,u⟩
 unfold Z68 at hm
 refine th<|?_
 obtain ⟨C2,S0,hm⟩:=bs hm
 obtain ⟨V1,O1,e46,e47,j0,n0⟩:=SR.sub (sz:=9) E0 D0 rfl S0
 obtain ⟨E2,F1,hm⟩:=bs hm
 refine rg<|qm o rfl λo=>?_
 iterate 2 refine qm o rfl λo=>?_
 refine qv o (Dc (xs:=p1) (vl:=(i64.wrap ((i64.wrap (1+C0.Body))+C0.Else))) (vh:=(p1.length:Int)) o Ew sizeOf130 rfl D0 rfl rfl S0 e46 e47) λo=>ls<|cr o call59 (ih (Ag _) j0 (St.srH u n0) F1) u λu o=>qv o (JaX o rfl rfl) λo=>qa o rfl λo=>re<|tn<|wr<|?_
 obtain rfl:=si hm
 exact r1 o results59 rfl ⟨rfl,u.keep⟩
theorem Jg7:∀ (N:Nat) {w0:World} {H:PH} (hH:H.le w0) {Q0:Option Addr} {J0:Nat} {p1:(List api_Node)} (I1:p1.length≤J0) (C0:SR H Q0 p1) {p6:Int} {V0:Option Addr} {M0:Nat} {p7:(List Str)} (j0:p7.length≤M0) (n0:SR H V0 p7) {r:(List api_Op)} (hm:Z51 N p1 p6 p7=some r),Tot Tryz.prog 62 #[SL Q0 p1 J0,i6 p6,SL V0 p7 M0] w0 (λv w'=>∃ (R1:Option Addr) (J1:Nat) (S1:List Value),v=SL R1 r J1∧(∀ h,Rows h S1 r)∧Fresh w0 (sla 176 2 R1 r.length J1 S1) w'):=by
 intro N
 induction N with
  | zero=>intros;rename_i hm;simp [Z51] at hm
  | succ N ih=>
 intro w0 H hH Q0 J0 p1 I1 C0 p6 V0 M0 p7 j0 n0 r hm
 rw [Z51] at hm
 refine fn0 func62 rfl ntmps62 rfl rfl λa o=>?_
 have u:St w0 Nil [H] [] w0:=start1 hH
 refine th<|rg<|qa o rfl λo=>re<|tn<|th<|rg<|ls<|bz (e:=176) (sz:=2) [] o u λI2 u o=>?_
 have U1:Rows (α:=api_Op) H [] []:=.nil
 refine qm o rfl λo=>qv o (Ao o rfl rfl) λo=>?_
 iterate 2 refine qa o rfl λo=>?_
 refine re<|tn<|th<|th<|rg<|qa o rfl λo=>re<|tn<|Av (λa w=>∃ (E0:(List api_Op)) (O0:Option Addr) (F0:Nat) (R0:List Value),(Z52 N p1 p6 p7) E0=some r∧Fr 62 [(0,SL Q0 p1 J0),(1,i6 p6),(2,SL V0 p7 M0),(7,SL O0 E0 F0)] a∧St w0 Nil [H] [sla 176 2 O0 E0.length F0 R0] w∧Rows H R0 E0) ?_ ?_
 refine wb<|lp (α:=Nat×(List api_Op)×Int×Int) (λgh a w=>match gh with | (W0,P0,O1,F1)=>∃ (S0:Option Addr) (K0:Nat) (T0:List Value),(Z54 (Z51 N) N (Z52 N p1 p6 p7) p1 p6 p7) W0 P0 O1 F1=some r∧Fr 62 [(0,SL Q0 p1 J0),(1,i6 p6),(2,SL V0 p7 M0),(7,SL S0 P0 K0),(8,i6 O1),(9,i6 F1)] a∧St w0 Nil [H] [sla 176 2 S0 P0.length K0 T0] w∧Rows H T0 P0) (λgh=>gh.1) (N,[],(i64.wrap (p6+1)),0) ⟨(some ⟨I2,0,none⟩),0,[],hm,o.hs,u,U1⟩ ?_
 rintro ⟨W0,P0,O1,F1⟩ a w ⟨S0,K0,T0,hm,o,u,P1⟩
 obtain _ | W0:=W0
 simp [Z54] at hm
 rw [Z54] at hm
 refine th<|th<|?_
 obtain ⟨J3,T1,hm⟩:=bs hm
 obtain ⟨K3,J2,V1⟩:=SR.get C0 T1
 obtain rfl:=Cf J2
 obtain ⟨L3,K2,hm⟩:=bs hm
 refine rg<|qm o rfl λo=>?_
 iterate 2 refine qm o rfl λo=>?_
 refine qv o (eI o Fq sizeOf141 rfl rfl T1 C0) λo=>qf o Cy rfl λo=>qv o (eD o isAgg3 rfl u.ld (V1 0 _ rfl)) λo=>ls<|cr o call89 (JaE (Ag _) K2) u λu o=>qv o (Am o rfl rfl) λo=>re<|?_
 rcases bip hm with ⟨C1,hm⟩ | ⟨C1,hm⟩
 refine tn<|ctv o rfl C1<|wk<|tn<|th<|wb<|th<|?_
 obtain ⟨O2,P2,hm⟩:=bs hm
 obtain ⟨R2,T2,hm⟩:=bs hm
 refine rg<|qm o rfl λo=>?_
 iterate 3 refine qm o rfl λo=>?_
 refine ls<|c1 o rfl call62 (ih (Ag _) I1 (St.srH u C0) j0 (St.srH u n0) P2) ⟨rfl,rfl,rfl,trivial⟩ (λv w a hR o=>?_)
 obtain ⟨D3,B3,E3,rfl,D1,hk⟩:=hR
 replace u:=u.fresh hk
 replace D1:=D1 H
 refine ls<|Ay (α:=api_Op) (xs:=P0) (ys:=O2) o rfl u underlying79 JaL rfl (by decide) rfl rfl rfl t1 P1 (u.rdO t0) D1 T2 λX1 Q1 Y1 w a u1 hU o=>?_
 replace u:=hU _ (.tail .head)
 refine qa o rfl λo=>re<|tn<|?_
 obtain ⟨U2,V2,hm⟩:=bs hm
 refine rg<|qm o rfl λo=>qm o rfl λo=>ls<|cr o call86 (Jdd _ (Ag _) I1 (St.srH u C0) V2) u λu o=>qa o rfl λo=>re<|bn<|tn<|rg<|qm o rfl λo=>qv o (Ao o rfl rfl) λo=>qa o rfl λo=>re<|tn<|?_
 replace u:=u.pk [1] rfl
 exact ⟨(W0,R2,U2,(i64.wrap (F1+1))),⟨X1,Q1,Y1,hm,o.hs,u,u1⟩,kxd _⟩
 refine tn<|cfv o rfl C1<|we<|tx<|tx<|bx<|tn<|?_
 exact ⟨P0,S0,K0,T0,hm,o.hs,u,P1⟩
 rintro a w ⟨E0,O0,F0,R0,hm,o,u,C2⟩
 unfold Z52 at hm
 refine th<|?_
 obtain ⟨I0,Y0,hm⟩:=bs hm
 obtain ⟨M3,W2,U0⟩:=SR.get C0 Y0
 obtain rfl:=Cf W2
 refine rg<|qm o rfl λo=>qm o rfl λo=>qv o (eI o Fq sizeOf141 rfl rfl Y0 C0) λo=>qf o Gp rfl λo=>qv o (eD o isAgg3 rfl u.ld (U0 1 _ rfl)) λo=>qa o rfl λo=>re<|tn<|th<|th<|rg<|qm o rfl λo=>qm o rfl λo=>qv o (eI o Fq sizeOf141 rfl rfl Y0 C0) λo=>qf o Cy rfl λo=>qv o (eD o isAgg3 rfl u.ld (U0 0 _ rfl)) λo=>qv o (Ah o rfl rfl) λo=>re<|tn<|Av (λa w=>∃ (D0:Int),(Z53 E0 I0) D0=some r∧Fr 62 [(0,SL Q0 p1 J0),(1,i6 p6),(7,SL O0 E0 F0),(10,i6 D0)] a∧St w0 Nil [H] [sla 176 2 O0 E0.length F0 R0] w) ?_ ?_
 rcases bip hm with ⟨E1,hm⟩ | ⟨E1,hm⟩
 refine ctv o rfl E1<|?_
 obtain ⟨X2,Y2,hm⟩:=bs hm
 refine rg<|qm o rfl λo=>?_
 iterate 2 refine qm o rfl λo=>?_
 refine qv o (eI o Fq sizeOf141 rfl rfl Y0 C0) λo=>qf o Gn rfl λo=>qv o (eD o isAgg9 rfl u.ld (U0 2 _ rfl)) λo=>ls<|cr o call54 (Hd (Ag _) j0 (St.srH u n0) Y2) u λu o=>qa o rfl λo=>re<|tn<|?_
 exact ⟨X2,hm,o.hs,u⟩
 refine cfv o rfl E1<|wk<|tn<|?_
 exact ⟨I0.N,hm,o.hs,u⟩
 rintro a w ⟨D0,hm,o,u⟩
 unfold Z53 at hm
 refine th<|?_
 obtain ⟨O3,A3,hm⟩:=bs hm
 refine rg<|qm o rfl λo=>?_
 iterate 2 refine qm o rfl λo=>?_
 refine qv o (eI o Fq sizeOf141 rfl rfl Y0 C0) λo=>qf o Cy rfl λo=>qv o (eD o isAgg3 rfl u.ld (U0 0 _ rfl)) λo=>qm o rfl λo=>qv o (bL [i6 I0.Op,i6 D0] [i6 I0.Op,i6 D0] o) λo=>ls<|bz (e:=176) (sz:=2) [i6 I0.Op,i6 D0] o u λP3 u o=>?_
 have E2:Rows (α:=api_Op) H [i6 I0.Op,i6 D0] ([(api_Op.mk I0.Op D0)]:List api_Op):=(.cons (c:=[i6 I0.Op,i6 D0]) ⟨_,_,rfl,rfl,rfl⟩ .nil)
 refine ls<|Ay (α:=api_Op) (xs:=E0) (ys:=([(api_Op.mk I0.Op D0)]:List api_Op)) o rfl u underlying79 JaL rfl (by decide) rfl rfl rfl t1 C2 (u.rdO t0) E2 A3 λF3 C3 I3 w a F2 hU o=>?_
 replace u:=hU _ (.tail .head)
 replace u:=u.drop .head
 refine qa o rfl λo=>re<|tn<|th<|rg<|qm o rfl λo=>qa o rfl λo=>re<|tn<|wr<|?_
 obtain rfl:=si hm
 exact r1 o results62 rfl ⟨_,_,_,rfl,(λ_=>Rows.ind F2),u.endFresh t0⟩
theorem Ja3 (hH:H.le w0) {I0:Option Addr} {C0:Nat} {p1:(List api_Node)} (V0:p1.length≤C0) (D0:SR H I0 p1) {oa7:Option Addr} {cap8:Nat} {p6:(List Str)} (W0:p6.length≤cap8) (S0:SR H oa7 p6) {r:((List api_Op)×Int)} (hm:Z4l N p1 p6=some r):Tot Tryz.prog 21 #[SL I0 p1 C0,SL oa7 p6 cap8] w0 (λv w'=>∃ (Y0:Option Addr) (T0:Nat) (j0:List Value),v=.tuple #[SL Y0 r.1 T0,i6 r.2]∧(∀ h,Rows h j0 r.1)∧Fresh w0 (sla 176 2 Y0 r.1.length T0 j0) w'):=by
 unfold Z4l at hm
 refine fn0 func21 rfl ntmps21 rfl rfl λa o=>?_
 have u:St w0 Nil [H] [] w0:=start1 hH
 refine th<|rg<|qa o rfl λo=>qa o rfl λo=>re<|tn<|th<|th<|?_
 obtain ⟨P1,n0,hm⟩:=bs hm
 refine rg<|qm o rfl λo=>ls<|cr o call61 (Wn (Ag _) V0 (St.srH u D0) n0) u λu o=>qv o (Bi o rfl) λo=>re<|?_
 rcases bit hm with ⟨J0,hm⟩ | ⟨J0,hm⟩
 refine tn<|cfv o rfl (by rw [J0];rfl)<|wk<|tn<|th<|th<|rg<|qa o rfl λo=>re<|tn<|Av (λa w=>(Z4m N p1 p6)=some r∧Fr 35 [(0,SL I0 p1 C0),(1,SL oa7 p6 cap8)] a∧St w0 Nil [H] [] w) ?_ ?_
 refine wb<|lp (α:=Nat×Int) (λgh a w=>match gh with | (E0,F0)=>(Z4o N (Z4m N p1 p6) p1 p6) E0 F0=some r∧Fr 35 [(0,SL I0 p1 C0),(1,SL oa7 p6 cap8),(6,i6 F0)] a∧St w0 Nil [H] [] w) (λgh=>gh.1) (N,0) ⟨hm,o.hs,u⟩ ?_
 rintro ⟨E0,F0⟩ a w ⟨hm,o,u⟩
 obtain _ | E0:=E0
 simp [Z4o] at hm
 rw [Z4o] at hm
 refine th<|th<|rg<|qm o rfl λo=>qm o rfl λo=>qv o (Aj (α:=api_Node) (xs:=p1) o Fq rfl) λo=>qv o (Am o rfl rfl) λo=>re<|?_
 rcases bip hm with ⟨K0,hm⟩ | ⟨K0,hm⟩
 refine tn<|ctv o rfl K0<|wk<|tn<|th<|wb<|th<|Av (λa w=>∃ (U0:Bool),(Z4n (Z4o N (Z4m N p1 p6) p1 p6 E0) F0) U0=some r∧Fr 35 [(0,SL I0 p1 C0),(1,SL oa7 p6 cap8),(6,i6 F0),(31,.bool U0)] a∧St w0 Nil [H] [] w) ?_ ?_
 obtain ⟨Q1,R0,hm⟩:=bs hm
 obtain ⟨R1,C1,M0⟩:=SR.get D0 R0
 obtain rfl:=Cf C1
 rcases bip hm with ⟨O0,hm⟩ | ⟨O0,hm⟩
 obtain ⟨D1,E1,hm⟩:=bs hm
 refine rg<|qm o rfl λo=>qm o rfl λo=>qv o (eI o Fq sizeOf141 rfl rfl R0 D0) λo=>qf o Cy rfl λo=>qv o (eD o isAgg3 rfl u.ld (M0 0 _ rfl)) λo=>qv o (Ah o rfl rfl) λo=>qv o (As (Aa o rfl) (congrArg Value.bool O0)) λo=>?_
 iterate 3 refine qg o (Aa o rfl) λo=>?_
 refine qg o (eI o Fq sizeOf141 rfl rfl R0 D0) λo=>qg o (Ad o Gn rfl) λo=>qg o (eD o isAgg9 rfl u.ld (M0 2 _ rfl)) λo=>ls<|gy o rfl rfl<|cr o call54 (Hd (Ag _) W0 (St.srH u S0) E1) u λu o=>qg o (Am o rfl rfl) λo=>qv o (Ab o rfl rfl) λo=>re<|tn<|?_
 exact ⟨(decide (D1 < 0)),hm,o.hs,u⟩
 refine rg<|qm o rfl λo=>qm o rfl λo=>qv o (eI o Fq sizeOf141 rfl rfl R0 D0) λo=>qf o Cy rfl λo=>qv o (eD o isAgg3 rfl u.ld (M0 0 _ rfl)) λo=>qv o (Ah o rfl rfl) λo=>qv o (As (Aa o rfl) (congrArg Value.bool O0)) λo=>?_
 iterate 8 refine qn o λo=>?_
 refine qv o (Ac o rfl rfl) λo=>re<|tn<|?_
 exact ⟨false,hm,o.hs,u⟩
 rintro a w ⟨U0,hm,o,u⟩
 unfold Z4n at hm
 rcases bit hm with ⟨P0,hm⟩ | ⟨P0,hm⟩
 refine ctv o rfl P0<|th<|rg<|qa o rfl λo=>qa o rfl λo=>re<|tn<|wr<|br<|tr<|tr<|br<|tr<|?_
 replace u:=u.nilS 176 2
 obtain rfl:=si hm
 exact r2 o results21 rfl rfl ⟨_,_,_,rfl,(λ_=>.nil),u.endFresh t0⟩
 refine cfv o rfl P0<|wk<|bn<|tn<|rg<|qm o rfl λo=>qv o (Ao o rfl rfl) λo=>qa o rfl λo=>re<|tn<|?_
 exact ⟨(E0,(i64.wrap (F0+1))),⟨hm,o.hs,u⟩,kxd _⟩
 refine tn<|cfv o rfl K0<|we<|tx<|tx<|bx<|tn<|?_
 exact ⟨hm,o.hs,u⟩
 rintro a w ⟨hm,o,u⟩
 unfold Z4m at hm
 refine th<|?_
 obtain ⟨S1,F1,hm⟩:=bs hm
 refine rg<|qm o rfl λo=>qm o rfl λo=>ls<|c1 o rfl call62 (Jg7 _ (Ag _) V0 (St.srH u D0) W0 (St.srH u S0) F1) ⟨rfl,rfl,rfl,trivial⟩ (λv w a hR o=>?_)
 obtain ⟨J1,I1,O1,rfl,Q0,hk⟩:=hR
 replace u:=u.fresh hk
 replace Q0:=Q0 H
 iterate 2 refine qa o rfl λo=>?_
 refine re<|tn<|wr<|?_
 obtain rfl:=si hm
 exact r2 o results21 rfl rfl ⟨_,_,_,rfl,(λ_=>Rows.ind Q0),u.endFresh t0⟩
 refine tn<|ctv o rfl (by rw [J0];rfl)<|th<|rg<|qa o rfl λo=>qa o rfl λo=>re<|tn<|wr<|tr<|?_
 replace u:=u.nilS 176 2
 obtain rfl:=si hm
 exact r2 o results21 rfl rfl ⟨_,_,_,rfl,(λ_=>.nil),u.endFresh t0⟩
theorem Jcm:∀ (N:Nat) {w0:World} {H:PH} (hH:H.le w0) {I0:Option Addr} {E0:Nat} {p1:(List api_Stmt)} (D0:p1.length≤E0) (F0:SR H I0 p1) {r:Int} (hm:Z6i N p1=some r),Tot Tryz.prog 84 #[SL I0 p1 E0] w0 (λv w'=>v=i6 r∧Keep Nil w0 w'):=by
 intro N
 induction N with
  | zero=>intros;rename_i hm;simp [Z6i] at hm
  | succ N ih=>
 intro w0 H hH I0 E0 p1 D0 F0 r hm
 rw [Z6i] at hm
 refine fn0 func84 rfl ntmps84 rfl rfl λa o=>?_
 have u:St w0 Nil [H] [] w0:=start1 hH
 refine th<|rg<|qa o rfl λo=>re<|tn<|th<|th<|rg<|qm o rfl λo=>qv o (Aj (α:=api_Stmt) (xs:=p1) o Ew rfl) λo=>qv o (Ah o rfl rfl) λo=>re<|?_
 rcases bip hm with ⟨P0,hm⟩ | ⟨P0,hm⟩
 refine tn<|ctv o rfl P0<|th<|rg<|qa o rfl λo=>re<|tn<|wr<|tr<|?_
 obtain rfl:=si hm
 exact r1 o results84 rfl ⟨rfl,u.keep⟩
 refine tn<|cfv o rfl P0<|wk<|tn<|th<|?_
 obtain ⟨C0,h8,hm⟩:=bs hm
 obtain ⟨cz9,P1,j0⟩:=SR.get F0 h8
 obtain ⟨oa12,cap13,oa16,cap17,rfl,C2,E2,F2,I2⟩:=Cb P1
 refine rg<|qm o rfl λo=>qv o (eI o Ew sizeOf130 rfl rfl h8 F0) λo=>qv o (eC o isAgg130 sizeOf130 rfl u.ld j0) λo=>ls<|Aq (cs:=[i6 0,Ae [],Ae [],.slice none 0 0,.slice none 0 0,i6 0,i6 0,i6 0,i6 0].toArray) o rfl u zeroValue130 rfl λR0 w a u o=>ls<|Ar o u sizeOf130 rfl rfl rfl rfl (Ak rfl) .head λw u=>re<|tn<|th<|rxS 5 u wide (by kernel_rfl) λw u=>xr u o (Ad o Ho rfl) λo=>xq u.ld o (λw hl=>eB o isAgg3 rfl hl t0 rfl) λo=>xr u o (Ao o rfl rfl) λo=>?_
 iterate 2 refine xq u.ld o (λw hl=>Ca o rfl) λo=>?_
 refine xe<|tn<|th<|rg<|qm o rfl λo=>qf o El rfl λo=>qB o isAgg3 rfl u t0 rfl λo=>qv o (Ao o rfl rfl) λo=>qa o rfl λo=>re<|tn<|th<|th<|rg<|qf o Cz rfl λo=>qB o isAgg3 rfl u t0 rfl λo=>qv o (Ah o rfl rfl) λo=>re<|tn<|Av (λa w=>∃ (O0:Int),(Z6j (Z6i N) p1 C0) O0=some r∧Fr 53 [(0,SL I0 p1 E0),(3,PT R0),(4,i6 O0),(5,i6 (i64.wrap (1+C0.Body))),(6,i6 (i64.wrap ((i64.wrap (1+C0.Body))+C0.Else)))] a∧St w0 Nil [H] [bk R0 (stC oa12 cap13 oa16 cap17 C0) 130] w) ?_ ?_
 rcases bip hm with ⟨J0,hm⟩ | ⟨J0,hm⟩
 refine ctv o rfl J0<|th<|?_
 obtain ⟨R2,S0,hm⟩:=bs hm
 obtain ⟨J2,V1,e26,e27,n0,C1⟩:=SR.sub (sz:=9) F0 D0 rfl S0
 obtain ⟨T0,Q1,hm⟩:=bs hm
 obtain ⟨T2,U0,hm⟩:=bs hm
 obtain ⟨K2,X1,e36,e37,D1,E1⟩:=SR.sub (sz:=9) F0 D0 rfl U0
 obtain ⟨V0,R1,hm⟩:=bs hm
 refine rdS 12 u wide λw u=>dr 0 u o rfl (Aa o rfl) λo=>dr 1 u o rfl (Aa o rfl) λo=>dr 2 u o rfl (Dc (xs:=p1) (vl:=1) (vh:=(i64.wrap (1+C0.Body))) o Ew sizeOf130 rfl D0 rfl rfl S0 e26 e27) λo=>dr 5 u o rfl (Aa o rfl) λo=>dr 6 u o rfl (Aa o rfl) λo=>dr 7 u o rfl (Aa o rfl) λo=>dr 8 u o rfl (Dc (xs:=p1) (vl:=(i64.wrap (1+C0.Body))) (vh:=(i64.wrap ((i64.wrap (1+C0.Body))+C0.Else))) o Ew sizeOf130 rfl D0 rfl rfl U0 e36 e37) λo=>dz 3 rfl<|cr o call84 (ih (Ag _) n0 (St.srH u C1) Q1) u λu o=>⟨λ_=>u.ld,?_⟩
 refine dr 4 u o rfl (Ao o rfl rfl) λo=>dz 9 rfl<|cr o call84 (ih (Ag _) D1 (St.srH u E1) R1) u λu o=>⟨λ_=>u.ld,?_⟩
 refine dr 10 u o rfl (Ao o rfl rfl) λo=>dr 11 u o rfl (Ca o rfl) λo=>dE<|tn<|th<|rg<|qf o El rfl λo=>qB o isAgg3 rfl u t0 rfl λo=>qv o (Ba o rfl rfl) λo=>re<|?_
 rcases bip hm with ⟨K0,hm⟩ | ⟨K0,hm⟩
 refine tn<|ctv o rfl K0<|rg<|qm o rfl λo=>qv o (Ao o rfl rfl) λo=>qa o rfl λo=>re<|tn<|?_
 exact ⟨(i64.wrap ((i64.wrap ((i64.wrap (1+T0))+V0))+1)),hm,o.hs,u⟩
 refine tn<|cfv o rfl K0<|wk<|tn<|?_
 exact ⟨(i64.wrap ((i64.wrap (1+T0))+V0)),hm,o.hs,u⟩
 refine cfv o rfl J0<|wk<|tn<|?_
 exact ⟨1,hm,o.hs,u⟩
 rintro a w ⟨O0,hm,o,u⟩
 unfold Z6j at hm
 refine th<|th<|rg<|qf o Cz rfl λo=>qB o isAgg3 rfl u t0 rfl λo=>qv o (Ah o rfl rfl) λo=>re<|tn<|Av (λa w=>∃ (Q0:Int),(Z6k (Z6i N) p1 C0) Q0=some r∧Fr 53 [(0,SL I0 p1 E0),(4,i6 Q0),(6,i6 (i64.wrap ((i64.wrap (1+C0.Body))+C0.Else)))] a∧St w0 Nil [H] [] w) ?_ ?_
 rcases bip hm with ⟨M0,hm⟩ | ⟨M0,hm⟩
 refine ctv o rfl M0<|?_
 obtain ⟨U2,W0,hm⟩:=bs hm
 obtain ⟨O2,Y1,e48,e49,F1,I1⟩:=SR.sub (sz:=9) F0 D0 rfl W0
 obtain ⟨S1,T1,hm⟩:=bs hm
 refine rg<|qm o rfl λo=>qm o rfl λo=>qv o (Dc (xs:=p1) (vl:=1) (vh:=(i64.wrap (1+C0.Body))) o Ew sizeOf130 rfl D0 rfl rfl W0 e48 e49) λo=>ls<|cr o call84 (ih (Ag _) F1 (St.srH u I1) T1) u λu o=>qv o (Ao o rfl rfl) λo=>qa o rfl λo=>re<|tn<|?_
 replace u:=u.pickL .nil
 exact ⟨(i64.wrap (2+S1)),hm,o.hs,u⟩
 refine cfv o rfl M0<|wk<|tn<|?_
 replace u:=u.pickL .nil
 exact ⟨O0,hm,o.hs,u⟩
 rintro a w ⟨Q0,hm,o,u⟩
 unfold Z6k at hm
 refine th<|?_
 obtain ⟨V2,Y0,hm⟩:=bs hm
 obtain ⟨P2,u1,e58,e59,J1,O1⟩:=SR.sub (sz:=9) F0 D0 rfl Y0
 obtain ⟨W2,U1,hm⟩:=bs hm
 refine rg<|qm o rfl λo=>?_
 iterate 2 refine qm o rfl λo=>?_
 refine qv o (Dc (xs:=p1) (vl:=(i64.wrap ((i64.wrap (1+C0.Body))+C0.Else))) (vh:=(p1.length:Int)) o Ew sizeOf130 rfl D0 rfl rfl Y0 e58 e59) λo=>ls<|cr o call84 (ih (Ag _) J1 (St.srH u O1) U1) u λu o=>qv o (Ao o rfl rfl) λo=>qa o rfl λo=>re<|tn<|wr<|?_
 obtain rfl:=si hm
 exact r1 o results84 rfl ⟨rfl,u.keep⟩
theorem Jgp (hH:H.le w0) {cs2:List Value} {p1:leadlineref09_Env} (g3:Enc.rep H cs2 p1) {cs5:List Value} {p4:api_Stmt} (g6:Enc.rep H cs5 p4) {r:api_Instr} (hm:Z5j N p1 p4=some r):Tot Tryz.prog 85 #[.agg cs2.toArray,.agg cs5.toArray] w0 (λv w'=>∃ (H':PH) (cs0:List Value),v=.agg cs0.toArray∧Enc.rep H' cs0 r∧Ext w0 H H'∧H'.le w'∧Keep Nil w0 w'):=by
 unfold Z5j at hm
 refine fn0 func85 rfl ntmps85 rfl rfl λa o=>?_
 have u:St w0 Nil [H] [] w0:=start1 hH
 have g7:Enc.rep (α:=api_Prog×(List Str)) H cs2 (p1.P,p1.Regs):=g3
 obtain ⟨qz8,qz9,rfl,U3,V3⟩:=g7
 obtain ⟨oa12,cap13,oa16,cap17,Q0,E0,R0,F0,S0,I0,T0,J0,rfl,S1,T1,U1,V1,X1,Y1,u1,C2,E2,F2,I2,J2⟩:=Bc U3
 obtain ⟨W0,V0,rfl,K2,O2⟩:=V3
 obtain ⟨J1,n0,O1,C1,rfl,O3,P3,Q3,R3⟩:=Cb g6
 refine th<|rg<|ls<|Bo (cs:=(enC oa12 cap13 oa16 cap17 Q0 E0 R0 F0 S0 I0 T0 J0 W0 V0 p1).toArray) o rfl u rfl rfl λD1 w a u o=>ls<|Bo (cs:=(stC J1 n0 O1 C1 p4).toArray) o rfl u rfl rfl λE1 w a u o=>ls<|Aq (cs:=[i6 0,i6 0,i6 0,.slice none 0 0,.slice none 0 0,i6 0].toArray) o rfl u zeroValue157 rfl λY0 w a u o=>re<|tn<|th<|?_
 obtain ⟨U0,W3,hm⟩:=bs hm
 obtain ⟨Q4,X3,hm⟩:=bs hm
 obtain ⟨R1,Y3,hm⟩:=bs hm
 refine rdS 14 u wide λw u=>dr 0 u o rfl (Ad o Pr rfl) λo=>dq 1 u.ld o rfl (λw hl=>eB o isAgg75 rfl hl t2 rfl) λo=>dr 2 u o rfl (Ad o Fl rfl) λo=>dq 3 u.ld o rfl (λw hl=>eB o isAgg9 rfl hl t1 rfl) λo=>dr 6 u o rfl (Ad o Vf rfl) λo=>dq 7 u.ld o rfl (λw hl=>An o isAgg27 sizeOf27 rfl rfl (Lds.cellsP (pre:=[]) (vs:=(pgC oa12 cap13 oa16 cap17 Q0 E0 R0 F0 S0 I0 T0 J0 p1.P)) (post:=[SL W0 p1.Regs V0]) hl t2)) λo=>dr 9 u o rfl (Ad o Hf rfl) λo=>dq 10 u.ld o rfl (λw hl=>eB o isAgg9 rfl hl t1 rfl) λo=>dz 4 rfl<|cr o call54 (Hd (Ag _) K2 (St.srH u O2) W3) u λu o=>⟨λ_=>u.ld,?_⟩
 refine dr 5 u o rfl (JaX o rfl rfl) λo=>dz 8 rfl<|c1 o rfl call22 (Td (Ag _) (Enc.mono (St.up u) (show Enc.rep (α:=api_Prog) H (pgC oa12 cap13 oa16 cap17 Q0 E0 R0 F0 S0 I0 T0 J0 p1.P) p1.P from ⟨_,_,rfl,⟨_,_,rfl,S1,T1⟩,⟨_,_,rfl,⟨_,_,rfl,U1,V1⟩,⟨_,_,rfl,⟨_,_,rfl,X1,Y1⟩,⟨_,_,rfl,⟨_,_,rfl,u1,C2⟩,⟨_,_,rfl,⟨_,_,rfl,E2,F2⟩,⟨_,_,rfl,I2,J2⟩⟩⟩⟩⟩⟩)) X3) ⟨rfl,trivial⟩ (λv w a hR o=>?_)
 obtain ⟨L4,J4,M4,rfl,P2,hk⟩:=hR
 replace u:=u.fresh hk
 replace P2:=P2 H
 refine ⟨λ_=>(St.ldsX u i2 ta1),?_⟩
 refine dz 11 rfl<|cr o call54 (Hd (Ag _) (St.capO u t0) (St.srO u t0 P2) Y3) u λu o=>⟨λ_=>(St.ldsX u i2 ta1),?_⟩
 refine ds 12 (St.ldsX u i2 ta1) o rfl (Ca o rfl) λo=>ds 13 (St.ldsX u i2 ta1) o rfl (Ca o rfl) λo=>dE<|tn<|th<|?_
 obtain ⟨K0,A4,hm⟩:=bs hm
 refine rg<|qf o Hr rfl λo=>qB o isAgg82 rfl u t2 rfl λo=>qf o Pr rfl λo=>qB o isAgg75 rfl u t3 rfl λo=>ls<|c1 o rfl call21 (Ja3 (Ag _) O3 (St.srH u P3) K2 (St.srH u O2) A4) ⟨rfl,rfl,trivial⟩ (λv w a hR o=>?_)
 obtain ⟨O0,C0,P1,rfl,R2,hk⟩:=hR
 replace u:=u.fresh hk
 replace R2:=R2 H
 refine qm o rfl λo=>?_
 iterate 2 refine qv o (Dt o rfl rfl) λo=>?_
 iterate 2 refine qa o rfl λo=>?_
 refine re<|tn<|th<|?_
 obtain ⟨M0,B4,hm⟩:=bs hm
 refine rg<|qf o Li rfl λo=>qB o isAgg82 rfl u t3 rfl λo=>qf o Pr rfl λo=>qB o isAgg75 rfl u t4 rfl λo=>ls<|c1 o rfl call21 (Ja3 (Ag _) Q3 (St.srH u R3) K2 (St.srH u O2) B4) ⟨rfl,rfl,trivial⟩ (λv w a hR o=>?_)
 obtain ⟨P0,D0,Q1,rfl,T2,hk⟩:=hR
 replace u:=u.fresh hk
 replace T2:=T2 H
 refine qm o rfl λo=>?_
 iterate 2 refine qv o (Dt o rfl rfl) λo=>?_
 iterate 2 refine qa o rfl λo=>?_
 refine re<|tn<|th<|rg<|qf o Cz rfl λo=>qB o isAgg3 rfl u t4 rfl λo=>?_
 iterate 3 refine qm o rfl λo=>?_
 refine qv o (bL [i6 p4.Kind,i6 (max 0 U0),SL O0 K0.1 C0,SL P0 M0.1 D0] [i6 p4.Kind,i6 (max 0 U0),i6 0,SL O0 K0.1 C0,SL P0 M0.1 D0,i6 0] o) λo=>ls<|Aq (cs:=[i6 0,i6 0,i6 0,.slice none 0 0,.slice none 0 0,i6 0].toArray) o rfl u zeroValue157 rfl λj0 w a u o=>ls<|Ar o u sizeOf157 rfl rfl rfl rfl (Ak rfl) .head λw u=>re<|tn<|th<|th<|rg<|qf o Cz rfl λo=>qB o isAgg3 rfl u t5 rfl λo=>re<|tn<|Av (λa w=>∃ (F1:Int) (I1:Int),(Z5k U0 K0 M0) F1 I1=some r∧Fr 76 [(4,PT Y0),(11,PT j0)] a∧St w0 Nil [H] [bk Y0 [i6 0,i6 0,i6 0,.slice none 0 0,.slice none 0 0,i6 0] 157,sla 176 2 O0 K0.1.length C0 P1,sla 176 2 P0 M0.1.length D0 Q1,bk j0 [i6 F1,i6 (max 0 U0),i6 I1,SL O0 K0.1 C0,SL P0 M0.1 D0,i6 0] 157] w) ?_ ?_
 refine wb<|th<|th<|rg<|qv o (Ah o rfl rfl) λo=>qa o rfl λo=>re<|tn<|Av (λa w=>∃ (F3:Bool),(Z5l N (Z5k U0 K0 M0) p1 p4 R1) F3=some r∧Fr 76 [(2,PT D1),(3,PT E1),(4,PT Y0),(6,i6 R1),(11,PT j0),(47,i6 p4.Kind),(48,.bool F3)] a∧St w0 Nil [H] [bk D1 (enC oa12 cap13 oa16 cap17 Q0 E0 R0 F0 S0 I0 T0 J0 W0 V0 p1) 136,bk E1 (stC J1 n0 O1 C1 p4) 130,bk Y0 [i6 0,i6 0,i6 0,.slice none 0 0,.slice none 0 0,i6 0] 157,sla 176 2 O0 K0.1.length C0 P1,sla 176 2 P0 M0.1.length D0 Q1,bk j0 [i6 p4.Kind,i6 (max 0 U0),i6 0,SL O0 K0.1 C0,SL P0 M0.1 D0,i6 0] 157] w) ?_ ?_
 rcases bip hm with ⟨U2,hm⟩ | ⟨U2,hm⟩
 refine ctv o rfl U2<|wk<|tn<|?_
 replace u:=u.pk [6,5,4,2,1,0] rfl
 exact ⟨(decide (p4.Kind=2)),hm,o.hs,u⟩
 refine cfv o rfl U2<|th<|rg<|qv o (Ah o rfl rfl) λo=>qa o rfl λo=>re<|?_
 rcases bip hm with ⟨V2,hm⟩ | ⟨V2,hm⟩
 refine tn<|ctv o rfl V2<|wk<|tn<|?_
 replace u:=u.pk [6,5,4,2,1,0] rfl
 exact ⟨(decide (p4.Kind=3)),hm,o.hs,u⟩
 refine tn<|cfv o rfl V2<|rg<|qv o (Ah o rfl rfl) λo=>qa o rfl λo=>re<|tn<|?_
 replace u:=u.pk [6,5,4,2,1,0] rfl
 exact ⟨(decide (p4.Kind=4)),hm,o.hs,u⟩
 rintro a w ⟨F3,hm,o,u⟩
 unfold Z5l at hm
 rcases bit hm with ⟨W2,hm⟩ | ⟨W2,hm⟩
 refine ctv o rfl W2<|rg<|qm o rfl λo=>qf o Ch rfl λo=>ls<|Bl o u sizeOf3 rfl rfl rfl rfl (.tail (.tail (.tail (.tail (.tail .head))))) (.succ (.succ .zero)) λw u=>re<|bn<|tn<|?_
 replace u:=u.pk [2,2,2,2] rfl
 exact ⟨p4.Kind,R1,hm,o.hs,u⟩
 refine cfv o rfl W2<|th<|th<|rg<|qv o (Ah o rfl rfl) λo=>qa o rfl λo=>re<|tn<|Av (λa w=>∃ (I3:Bool),(Z5m N (Z5k U0 K0 M0) p1 p4 R1) I3=some r∧Fr 76 [(2,PT D1),(3,PT E1),(4,PT Y0),(6,i6 R1),(11,PT j0),(47,i6 p4.Kind),(54,.bool I3)] a∧St w0 Nil [H] [bk D1 (enC oa12 cap13 oa16 cap17 Q0 E0 R0 F0 S0 I0 T0 J0 W0 V0 p1) 136,bk E1 (stC J1 n0 O1 C1 p4) 130,bk Y0 [i6 0,i6 0,i6 0,.slice none 0 0,.slice none 0 0,i6 0] 157,sla 176 2 O0 K0.1.length C0 P1,sla 176 2 P0 M0.1.length D0 Q1,bk j0 [i6 p4.Kind,i6 (max 0 U0),i6 0,SL O0 K0.1 C0,SL P0 M0.1 D0,i6 0] 157] w) ?_ ?_
 rcases bip hm with ⟨X2,hm⟩ | ⟨X2,hm⟩
 refine ctv o rfl X2<|wk<|tn<|?_
 exact ⟨(decide (p4.Kind=5)),hm,o.hs,u⟩
 refine cfv o rfl X2<|rg<|qv o (Ah o rfl rfl) λo=>qa o rfl λo=>re<|tn<|?_
 exact ⟨(decide (p4.Kind=6)),hm,o.hs,u⟩
 rintro a w ⟨I3,hm,o,u⟩
 unfold Z5m at hm
 rcases bit hm with ⟨Y2,hm⟩ | ⟨Y2,hm⟩
 refine ctv o rfl Y2<|?_
 obtain ⟨C4,D4,hm⟩:=bs hm
 refine rg<|qf o Vf rfl λo=>qv o (An o isAgg27 sizeOf27 rfl rfl (Lds.cellsP (pre:=[]) (vs:=(pgC oa12 cap13 oa16 cap17 Q0 E0 R0 F0 S0 I0 T0 J0 p1.P)) (post:=[SL W0 p1.Regs V0]) u.ld t0)) λo=>qm o rfl λo=>ls<|cr o call19 (Je6 (Ag _) (Enc.mono (St.up u) (show Enc.rep (α:=api_Prog) H (pgC oa12 cap13 oa16 cap17 Q0 E0 R0 F0 S0 I0 T0 J0 p1.P) p1.P from ⟨_,_,rfl,⟨_,_,rfl,S1,T1⟩,⟨_,_,rfl,⟨_,_,rfl,U1,V1⟩,⟨_,_,rfl,⟨_,_,rfl,X1,Y1⟩,⟨_,_,rfl,⟨_,_,rfl,u1,C2⟩,⟨_,_,rfl,⟨_,_,rfl,E2,F2⟩,⟨_,_,rfl,I2,J2⟩⟩⟩⟩⟩⟩)) D4) u λu o=>qf o Ch rfl λo=>ls<|Bl o u sizeOf3 rfl rfl rfl rfl (.tail (.tail (.tail (.tail (.tail .head))))) (.succ (.succ .zero)) λw u=>re<|bn<|tn<|?_
 replace u:=u.pk [2,2,2,2] rfl
 exact ⟨p4.Kind,C4,hm,o.hs,u⟩
 refine cfv o rfl Y2<|th<|th<|rg<|qv o (Ah o rfl rfl) λo=>qa o rfl λo=>re<|tn<|Av (λa w=>∃ (J3:Bool),(Z5n N (Z5k U0 K0 M0) p1 p4) J3=some r∧Fr 76 [(2,PT D1),(3,PT E1),(4,PT Y0),(11,PT j0),(47,i6 p4.Kind),(62,.bool J3)] a∧St w0 Nil [H] [bk D1 (enC oa12 cap13 oa16 cap17 Q0 E0 R0 F0 S0 I0 T0 J0 W0 V0 p1) 136,bk E1 (stC J1 n0 O1 C1 p4) 130,bk Y0 [i6 0,i6 0,i6 0,.slice none 0 0,.slice none 0 0,i6 0] 157,sla 176 2 O0 K0.1.length C0 P1,sla 176 2 P0 M0.1.length D0 Q1,bk j0 [i6 p4.Kind,i6 (max 0 U0),i6 0,SL O0 K0.1 C0,SL P0 M0.1 D0,i6 0] 157] w) ?_ ?_
 rcases bip hm with ⟨A3,hm⟩ | ⟨A3,hm⟩
 refine ctv o rfl A3<|wk<|tn<|?_
 exact ⟨(decide (p4.Kind=9)),hm,o.hs,u⟩
 refine cfv o rfl A3<|rg<|qv o (Ah o rfl rfl) λo=>qa o rfl λo=>re<|tn<|?_
 exact ⟨(decide (p4.Kind=10)),hm,o.hs,u⟩
 rintro a w ⟨J3,hm,o,u⟩
 unfold Z5n at hm
 rcases bit hm with ⟨B3,hm⟩ | ⟨B3,hm⟩
 refine ctv o rfl B3<|?_
 obtain ⟨R4,E4,hm⟩:=bs hm
 obtain ⟨F4,I4,hm⟩:=bs hm
 refine rdS 7 u wide λw u=>dr 0 u o rfl (Ad o Vf rfl) λo=>dq 1 u.ld o rfl (λw hl=>An o isAgg27 sizeOf27 rfl rfl (Lds.cellsP (pre:=[]) (vs:=(pgC oa12 cap13 oa16 cap17 Q0 E0 R0 F0 S0 I0 T0 J0 p1.P)) (post:=[SL W0 p1.Regs V0]) hl t0)) λo=>dr 3 u o rfl (Ad o Hf rfl) λo=>dq 4 u.ld o rfl (λw hl=>eB o isAgg9 rfl hl t1 rfl) λo=>dz 2 rfl<|c1 o rfl call55 (JcX (Ag _) (Enc.mono (St.up u) (show Enc.rep (α:=api_Prog) H (pgC oa12 cap13 oa16 cap17 Q0 E0 R0 F0 S0 I0 T0 J0 p1.P) p1.P from ⟨_,_,rfl,⟨_,_,rfl,S1,T1⟩,⟨_,_,rfl,⟨_,_,rfl,U1,V1⟩,⟨_,_,rfl,⟨_,_,rfl,X1,Y1⟩,⟨_,_,rfl,⟨_,_,rfl,u1,C2⟩,⟨_,_,rfl,⟨_,_,rfl,E2,F2⟩,⟨_,_,rfl,I2,J2⟩⟩⟩⟩⟩⟩)) E4) ⟨rfl,trivial⟩ (λv w a hR o=>?_)
 obtain ⟨O4,K4,P4,rfl,C3,hk⟩:=hR
 replace u:=u.fresh hk
 replace C3:=C3 H
 refine ⟨λ_=>(St.ldsX u i2 ta1),?_⟩
 refine dz 5 rfl<|cr o call54 (Hd (Ag _) (St.capO u t0) (St.srO u t0 C3) I4) u λu o=>⟨λ_=>(St.ldsX u i2 ta1),?_⟩
 refine ds 6 (St.ldsX u i2 ta1) o rfl (Ad o Ch rfl) λo=>dz 7 rfl<|Bl o u sizeOf3 rfl rfl rfl rfl (.tail (.tail (.tail (.tail (.tail (.tail .head)))))) (.succ (.succ .zero)) λw u=>⟨λh=>absurd rfl h,?_⟩
 refine dE<|bn<|tn<|?_
 replace u:=u.pk [3,3,3,3] rfl
 exact ⟨p4.Kind,F4,hm,o.hs,u⟩
 refine cfv o rfl B3<|th<|rg<|qv o (Ah o rfl rfl) λo=>qa o rfl λo=>re<|?_
 rcases bip hm with ⟨D3,hm⟩ | ⟨D3,hm⟩
 refine tn<|ctv o rfl D3<|rg<|qf o Bq rfl λo=>ls<|Bl o u sizeOf3 rfl rfl rfl rfl (.tail (.tail (.tail (.tail (.tail .head))))) .zero λw u=>re<|bn<|tn<|?_
 replace u:=u.pk [2,2,2,2] rfl
 exact ⟨15,0,hm,o.hs,u⟩
 refine tn<|cfv o rfl D3<|wk<|bn<|tn<|?_
 replace u:=u.pk [2,2,2,2] rfl
 exact ⟨p4.Kind,0,hm,o.hs,u⟩
 rintro a w ⟨F1,I1,hm,o,u⟩
 unfold Z5k at hm
 refine th<|rg<|qv o (An o Tryz.isAgg157 Tryz.sizeOf157 rfl rfl (u.ld.cellsB t3)) λo=>ls<|Ar o u sizeOf157 rfl rfl rfl rfl (Ak rfl) .head λw u=>re<|tn<|wr<|?_
 obtain ⟨H99,K3,S3,T3,u⟩:=St.frzS u (.tail .head) R2
 obtain ⟨H103,E3,L3,M3,u⟩:=St.frzS u (.tail .head) (T2.mono K3.sub)
 obtain rfl:=si hm
 exact r1c (vs:=[i6 F1,i6 (max 0 U0),i6 I1,SL O0 K0.1 C0,SL P0 M0.1 D0,i6 0]) (.inl rfl) o results85 rfl isAgg157 sizeOf157 rfl (u.ld.cellsB t0) ⟨H103,_,rfl,(show Enc.rep (α:=api_Instr) H103 [i6 F1,i6 (max 0 U0),i6 I1,SL O0 K0.1 C0,SL P0 M0.1 D0,i6 0] (api_Instr.mk F1 (max 0 U0) I1 K0.1 M0.1 0) from ⟨_,_,rfl,rfl,⟨_,_,rfl,rfl,⟨_,_,rfl,rfl,⟨_,_,rfl,⟨_,_,rfl,T3,(S3.mono E3.sub)⟩,⟨_,_,rfl,⟨_,_,rfl,M3,L3⟩,rfl⟩⟩⟩⟩⟩),(Ext.trans K3 E3),(St.le u),u.keep⟩
end Go.LM.SWAPS
