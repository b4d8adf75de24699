/- Walks, lifted by program. No condition beyond the theorems' own premises. -/
import Derived.Test.YtgdkaddhhpgeiaaGreatDoorLBQ2
namespace Go.LM.LB
open Go Go.LL Go.MD Go.LM Go.Proofs Go.MD.LB Go.Proofs.Tryz
set_option maxRecDepth 100000
variable {N:Nat} {w0:World} {H:PH}
theorem Jab:∀ (N:Nat) {w0:World} {H:PH} (_:H.le w0) {D0:Option Addr} {C0:Nat} {p1:(List api_Node)} (_:p1.length≤C0) (_:SR H D0 p1) {p6:Int} {r:Int} (_:Z1h N p1 p6=some r),Tot Tryz.prog 133 #[SL D0 p1 C0,i6 p6] w0 (λv w'=>v=i6 r∧Keep Nil w0 w'):=by
 intro N
 induction N with
  | zero=>intros;rename_i hm;simp [Z1h] at hm
  | succ N ih=>
 intro w0 H hH D0 C0 p1 T0 G0 p6 r hm
 rw [Z1h] at hm
 refine fn0 func133 rfl ntmps133 rfl rfl λa o=>?_
 have u:St w0 Nil [H] [] w0:=start1 hH
 refine th<|rg<|qa o rfl λo=>re<|tn<|th<|th<|Au (λa w=>∃ (M0:Bool),(Z1i (Z1h N) N p1 p6) M0=some r∧Fr 44 [(0,SL D0 p1 C0),(1,i6 p6),(23,.bool M0)] a∧St w0 Nil [H] [] w) ?_ ?_
 rcases bit hm with ⟨O0,hm⟩ | ⟨O0,hm⟩
 refine rg<|qm o rfl λo=>qv o (Aq o rfl rfl) λo=>qm o rfl λo=>gr (Fk:=[(0,SL D0 p1 C0),(1,i6 p6),(14,.bool ((decide (p6 < 0)) || (decide ((p1.length:Int)≤p6))))]) 9 5 o u ?_ ?_ ?_
 intro hb o key
 iterate 4 refine qn o λo=>?_
 exact qk o (Ad o rfl rfl) key u hb
 intro hb o key
 iterate 2 refine qg o (Ab o rfl) λo=>?_
 exact qg o (Ak (α:=api_Node) (xs:=p1) o runUnderlying49 rfl) λo=>qg o (Bi o rfl rfl) λo=>qk o (Ae o rfl rfl) key u hb
 intro a w o u
 refine qv o (As (Ab o rfl) (congrArg Value.bool O0)) λo=>?_
 iterate 7 refine qn o λo=>?_
 refine qv o (Ad o rfl rfl) λo=>re<|tn<|?_
 exact ⟨true,hm,o.hs,u⟩
 obtain ⟨B1,h9,hm⟩:=bs hm
 obtain ⟨C1,U0,R0⟩:=SR.get G0 h9
 obtain rfl:=Bm U0
 obtain ⟨V0,W0,hm⟩:=bs hm
 refine rg<|qm o rfl λo=>qv o (Aq o rfl rfl) λo=>qm o rfl λo=>gr (Fk:=[(0,SL D0 p1 C0),(1,i6 p6),(14,.bool ((decide (p6 < 0)) || (decide ((p1.length:Int)≤p6))))]) 9 5 o u ?_ ?_ ?_
 intro hb o key
 iterate 4 refine qn o λo=>?_
 exact qk o (Ad o rfl rfl) key u hb
 intro hb o key
 iterate 2 refine qg o (Ab o rfl) λo=>?_
 exact qg o (Ak (α:=api_Node) (xs:=p1) o runUnderlying49 rfl) λo=>qg o (Bi o rfl rfl) λo=>qk o (Ae o rfl rfl) key u hb
 intro a w o u
 refine qv o (As (Ab o rfl) (congrArg Value.bool O0)) λo=>?_
 iterate 2 refine qg o (Ab o rfl) λo=>?_
 refine qg o (An o runUnderlying49 sizeOf90 rfl rfl h9 (SR.oaI G0 (by decide) h9)) λo=>qg o (Af o Ck rfl) λo=>qg o (Ag o isAgg3 rfl (PH.le.cell (Lds.le u.ld) (R0 0 _ rfl))) λo=>ls<|gy o rfl rfl<|cr o call158 (Uu (Ai _) W0) u λu o=>qg o (Aq o rfl rfl) λo=>qv o (Ae o rfl rfl) λo=>re<|tn<|?_
 exact ⟨(decide (V0 < 0)),hm,o.hs,u⟩
 rintro a w ⟨M0,hm,o,u⟩
 unfold Z1i at hm
 rcases bit hm with ⟨J0,hm⟩ | ⟨J0,hm⟩
 refine ctv o rfl J0<|th<|rg<|qa o rfl λo=>re<|tn<|wr<|tr<|?_
 obtain rfl:=si hm
 exact r1 o results133 rfl ⟨rfl,u.keep⟩
 refine cfv o rfl J0<|wk<|tn<|th<|rg<|qm o rfl λo=>qv o (Ap o rfl rfl) λo=>qa o rfl λo=>re<|tn<|th<|th<|rg<|qa o rfl λo=>re<|tn<|Au (λa w=>∃ (P0:Int),Z1j P0=some r∧Fr 44 [(5,i6 P0)] a∧St w0 Nil [H] [] w) ?_ ?_
 refine wb<|lp (α:=Nat×Int×Int) (λgh a w=>match gh with | (I0,E0,F0)=>(Z1k (Z1h N) N Z1j p1 p6) I0 E0 F0=some r∧Fr 44 [(0,SL D0 p1 C0),(1,i6 p6),(5,i6 E0),(6,i6 F0)] a∧St w0 Nil [H] [] w) (λgh=>gh.1) (N,(IntKind.i64.wrap (p6+1)),0) ⟨hm,o.hs,u⟩ ?_
 rintro ⟨I0,E0,F0⟩ a w ⟨hm,o,u⟩
 obtain _ | I0:=I0
 simp [Z1k] at hm
 rw [Z1k] at hm
 refine th<|th<|?_
 obtain ⟨E1,Q0,hm⟩:=bs hm
 obtain ⟨F1,X0,S0⟩:=SR.get G0 Q0
 obtain rfl:=Bm X0
 obtain ⟨Y0,j0,hm⟩:=bs hm
 refine rg<|qm o rfl λo=>?_
 iterate 2 refine qm o rfl λo=>?_
 refine qv o (An o runUnderlying49 sizeOf90 rfl rfl Q0 (SR.oaI G0 (by decide) Q0)) λo=>qv o (Af o Ck rfl) λo=>qv o (Ag o isAgg3 rfl (PH.le.cell (Lds.le u.ld) (S0 0 _ rfl))) λo=>ls<|cr o call158 (Uu (Ai _) j0) u λu o=>qv o (Aq o rfl rfl) λo=>qm o rfl λo=>gr (Fk:=[(0,SL D0 p1 C0),(1,i6 p6),(5,i6 E0),(6,i6 F0),(37,.bool ((decide (F0 < Y0)) && (decide (0≤E0))))]) 34 3 o u ?_ ?_ ?_
 intro hb o key
 exact qg o (Ab o rfl) λo=>qg o (Bi o rfl rfl) λo=>qk o (Ad o rfl rfl) key u hb
 intro hb o key
 iterate 2 refine qn o λo=>?_
 exact qk o (Ae o rfl rfl) key u hb
 intro a w o u
 refine re<|?_
 rcases bit hm with ⟨K0,hm⟩ | ⟨K0,hm⟩
 refine tn<|ctv o rfl K0<|wk<|tn<|th<|wb<|?_
 obtain ⟨n0,u0,hm⟩:=bs hm
 refine rg<|qm o rfl λo=>qm o rfl λo=>ls<|cr o call133 (ih (Ai _) T0 (St.srH u G0) u0) u λu o=>qa o rfl λo=>re<|bn<|tn<|rg<|qm o rfl λo=>qv o (Ap o rfl rfl) λo=>qa o rfl λo=>re<|tn<|?_
 exact ⟨(I0,n0,(IntKind.i64.wrap (F0+1))),⟨hm,o.hs,u⟩,Nat.lt_succ_self _⟩
 refine tn<|cfv o rfl K0<|we<|tx<|tx<|bx<|tn<|?_
 exact ⟨E0,hm,o.has ⟨rfl,trivial⟩,u⟩
 rintro a w ⟨P0,hm,o,u⟩
 unfold Z1j at hm
 refine th<|rg<|qm o rfl λo=>qa o rfl λo=>re<|tn<|wr<|?_
 obtain rfl:=si hm
 exact r1 o results133 rfl ⟨rfl,u.keep⟩
theorem Yw:∀ (N:Nat) {w0:World} {H:PH} (_:H.le w0) {G0:Option Addr} {C0:Nat} {p1:(List api_Node)} (_:p1.length≤C0) (_:SR H G0 p1) {p6:Int} {r:Int} (_:Z20 N p1 p6=some r),Tot Tryz.prog 134 #[SL G0 p1 C0,i6 p6] w0 (λv w'=>v=i6 r∧Keep Nil w0 w'):=by
 intro N
 induction N with
  | zero=>intros;rename_i hm;simp [Z20] at hm
  | succ N ih=>
 intro w0 H hH G0 C0 p1 O0 I0 p6 r hm
 rw [Z20] at hm
 refine fn0 func134 rfl ntmps134 rfl rfl λa o=>?_
 have u:St w0 Nil [H] [] w0:=start1 hH
 refine th<|rg<|qa o rfl λo=>re<|tn<|th<|rg<|qm o rfl λo=>qv o (Ap o rfl rfl) λo=>?_
 iterate 2 refine qa o rfl λo=>?_
 refine re<|tn<|th<|th<|rg<|qa o rfl λo=>re<|tn<|Au (λa w=>∃ (K0:Int),Z21 K0=some r∧Fr 30 [(5,i6 K0)] a∧St w0 Nil [H] [] w) ?_ ?_
 refine wb<|lp (α:=Nat×Int×Int×Int) (λgh a w=>match gh with | (D0,E0,M0,J0)=>(Z22 (Z20 N) N Z21 p1 p6) D0 E0 M0 J0=some r∧Fr 30 [(0,SL G0 p1 C0),(1,i6 p6),(5,i6 E0),(6,i6 M0),(7,i6 J0)] a∧St w0 Nil [H] [] w) (λgh=>gh.1) (N,0,(IntKind.i64.wrap (p6+1)),0) ⟨hm,o.hs,u⟩ ?_
 rintro ⟨D0,E0,M0,J0⟩ a w ⟨hm,o,u⟩
 obtain _ | D0:=D0
 simp [Z22] at hm
 rw [Z22] at hm
 refine th<|th<|?_
 obtain ⟨W0,h8,hm⟩:=bs hm
 obtain ⟨cz9,Q0,P0⟩:=SR.get I0 h8
 obtain rfl:=Bm Q0
 obtain ⟨X0,R0,hm⟩:=bs hm
 refine rg<|qm o rfl λo=>?_
 iterate 2 refine qm o rfl λo=>?_
 refine qv o (An o runUnderlying49 sizeOf90 rfl rfl h8 (SR.oaI I0 (by decide) h8)) λo=>qv o (Af o Ck rfl) λo=>qv o (Ag o isAgg3 rfl (PH.le.cell (Lds.le u.ld) (P0 0 _ rfl))) λo=>ls<|cr o call158 (Uu (Ai _) R0) u λu o=>qv o (Aq o rfl rfl) λo=>re<|?_
 rcases bip hm with ⟨F0,hm⟩ | ⟨F0,hm⟩
 refine tn<|ctv o rfl F0<|wk<|tn<|th<|wb<|th<|?_
 obtain ⟨S0,T0,hm⟩:=bs hm
 refine rg<|qm o rfl λo=>?_
 iterate 2 refine qm o rfl λo=>?_
 refine ls<|cr o call134 (ih (Ai _) O0 (St.srH u I0) T0) u λu o=>qv o (Yr o rfl rfl) λo=>qa o rfl λo=>re<|tn<|?_
 obtain ⟨U0,V0,hm⟩:=bs hm
 refine rg<|qm o rfl λo=>qm o rfl λo=>ls<|cr o call133 (Jab _ (Ai _) O0 (St.srH u I0) V0) u λu o=>qa o rfl λo=>re<|bn<|tn<|rg<|qm o rfl λo=>qv o (Ap o rfl rfl) λo=>qa o rfl λo=>re<|tn<|?_
 exact ⟨(D0,(max E0 S0),U0,(IntKind.i64.wrap (J0+1))),⟨hm,o.hs,u⟩,Nat.lt_succ_self _⟩
 refine tn<|cfv o rfl F0<|we<|tx<|tx<|bx<|tn<|?_
 exact ⟨E0,hm,o.has ⟨rfl,trivial⟩,u⟩
 rintro a w ⟨K0,hm,o,u⟩
 unfold Z21 at hm
 refine th<|rg<|qm o rfl λo=>qv o (Ap o rfl rfl) λo=>qa o rfl λo=>re<|tn<|wr<|?_
 obtain rfl:=si hm
 exact r1 o results134 rfl ⟨rfl,u.keep⟩
set_option maxHeartbeats 4000000 in
theorem Rz (hH:H.le w0) {E0:Option Addr} {D0:Nat} {p1:(List api_Node)} (V0:p1.length≤D0) (P0:SR H E0 p1) {r:Bool} (hm:Z1t N p1=some r):Tot Tryz.prog 99 #[SL E0 p1 D0] w0 (λv w'=>v=.bool r∧Keep Nil w0 w'):=by
 unfold Z1t at hm
 refine fn0 func99 rfl ntmps99 rfl rfl λa o=>?_
 have u:St w0 Nil [H] [] w0:=start1 hH
 refine th<|rg<|qa o rfl λo=>re<|tn<|th<|th<|Au (λa w=>∃ (Q0:Bool),(Z1u N p1) Q0=some r∧Fr 77 [(0,SL E0 p1 D0),(14,.bool Q0)] a∧St w0 Nil [H] [] w) ?_ ?_
 rcases bip hm with ⟨R0,hm⟩ | ⟨R0,hm⟩
 refine rg<|qm o rfl λo=>qv o (Ak (α:=api_Node) (xs:=p1) o runUnderlying49 rfl) λo=>qv o (Be o rfl rfl) λo=>qv o (As (Ab o rfl) (congrArg Value.bool R0)) λo=>?_
 iterate 5 refine qn o λo=>?_
 refine qv o (Ad o rfl rfl) λo=>re<|tn<|?_
 exact ⟨true,hm,o.has ⟨rfl,rfl,trivial⟩,u⟩
 obtain ⟨X0,h8,hm⟩:=bs hm
 refine rg<|qm o rfl λo=>qv o (Ak (α:=api_Node) (xs:=p1) o runUnderlying49 rfl) λo=>qv o (Be o rfl rfl) λo=>qv o (As (Ab o rfl) (congrArg Value.bool R0)) λo=>qg o (Ab o rfl) λo=>ls<|gy o rfl rfl<|cr o call133 (Jab _ (Ai _) V0 (St.srH u P0) h8) u λu o=>qg o (Ab o rfl) λo=>qg o (Ak (α:=api_Node) (xs:=p1) o runUnderlying49 rfl) λo=>qg o (Bt o rfl rfl) λo=>qv o (Ae o rfl rfl) λo=>re<|tn<|?_
 exact ⟨(decide (X0≠(p1.length:Int))),hm,o.has ⟨rfl,rfl,trivial⟩,u⟩
 rintro a w ⟨Q0,hm,o,u⟩
 unfold Z1u at hm
 rcases bit hm with ⟨S0,hm⟩ | ⟨S0,hm⟩
 refine ctv o rfl S0<|th<|rg<|qa o rfl λo=>re<|tn<|wr<|tr<|?_
 obtain rfl:=si hm
 exact r1 o results99 rfl ⟨rfl,u.keep⟩
 refine cfv o rfl S0<|wk<|tn<|th<|th<|rg<|qa o rfl λo=>re<|tn<|Au (λa w=>(Z1v N p1)=some r∧Fr 77 [(0,SL E0 p1 D0)] a∧St w0 Nil [H] [] w) ?_ ?_
 refine wb<|lp (α:=Nat×Int) (λgh a w=>match gh with | (I0,F0)=>(Z1x N (Z1v N p1) p1) I0 F0=some r∧Fr 77 [(0,SL E0 p1 D0),(3,i6 F0)] a∧St w0 Nil [H] [] w) (λgh=>gh.1) (N,0) ⟨hm,o.has ⟨rfl,rfl,trivial⟩,u⟩ ?_
 rintro ⟨I0,F0⟩ a w ⟨hm,o,u⟩
 obtain _ | I0:=I0
 simp [Z1x] at hm
 rw [Z1x] at hm
 refine th<|th<|rg<|qm o rfl λo=>qm o rfl λo=>qv o (Ak (α:=api_Node) (xs:=p1) o runUnderlying49 rfl) λo=>qv o (Aq o rfl rfl) λo=>re<|?_
 rcases bip hm with ⟨K0,hm⟩ | ⟨K0,hm⟩
 refine tn<|ctv o rfl K0<|wk<|tn<|th<|wb<|th<|?_
 obtain ⟨C0,T0,hm⟩:=bs hm
 obtain ⟨B1,Y0,W0⟩:=SR.get P0 T0
 obtain rfl:=Bm Y0
 refine rg<|qm o rfl λo=>qm o rfl λo=>qv o (An o runUnderlying49 sizeOf90 rfl rfl T0 (SR.oaI P0 (by decide) T0)) λo=>qv o (Ay o isAgg90 sizeOf90 rfl rfl (λj v hj=>PH.le.cell (Lds.le u.ld) (W0 j v hj))) λo=>ls<|Aw (cs:=[i6 0,i6 0,Ac [],i6 0].toArray) o rfl u zeroValue90 rfl λG0 w a u o=>ls<|Ba o u sizeOf90 rfl rfl rfl rfl (Am rfl) .head λw u=>re<|tn<|th<|Au (λa w=>∃ (U0:Bool),(Z1w (Z1x N (Z1v N p1) p1 I0) F0) U0=some r∧Fr 77 [(0,SL E0 p1 D0),(3,i6 F0),(73,.bool U0)] a∧St w0 Nil [H] [] w) ?_ ?_
 rcases bit hm with ⟨J0,hm⟩ | ⟨J0,hm⟩
 refine rg<|qv o (Af o Fc rfl) λo=>qv o (Ag o isAgg3 rfl (u.ld.cellB t0 rfl)) λo=>qv o (Aq o rfl rfl) λo=>qm o rfl λo=>gr (Fk:=[(0,SL E0 p1 D0),(3,i6 F0),(4,PT G0),(32,.bool ((decide (C0.At < 0)) || (decide (4000 < C0.At))))]) 28 4 o u ?_ ?_ ?_
 intro hb o key
 iterate 3 refine qn o λo=>?_
 exact qk o (Ad o rfl rfl) key u hb
 intro hb o key
 exact qg o (Af o Fc rfl) λo=>qg o (Ag o isAgg3 rfl (u.ld.cellB t0 rfl)) λo=>qg o (Be o rfl rfl) λo=>qk o (Ae o rfl rfl) key u hb
 intro a w o u
 refine qm o rfl λo=>gr (Fk:=[(0,SL E0 p1 D0),(3,i6 F0),(4,PT G0),(42,.bool (((decide (C0.At < 0)) || (decide (4000 < C0.At))) || ((decide (C0.Op≠1)) && (decide (C0.N≠0)))))]) 33 9 o u ?_ ?_ ?_
 intro hb o key
 iterate 4 refine qn o λo=>?_
 iterate 3 refine ls<|gnu o rfl rfl rfl λa o=>?_
 exact qn o λo=>qk o (Ad o rfl rfl) key u hb
 intro hb o key
 refine qg o (Af o Ck rfl) λo=>qg o (Ag o isAgg3 rfl (u.ld.cellB t0 rfl)) λo=>qg o (Bt o rfl rfl) λo=>qg o (Ab o rfl) λo=>gr (Fk:=[(0,SL E0 p1 D0),(3,i6 F0),(4,PT G0),(33,.bool false),(41,.bool ((decide (C0.Op≠1)) && (decide (C0.N≠0))))]) 37 4 o u ?_ ?_ ?_
 intro hb o key
 exact qg o (Af o Dt rfl) λo=>qg o (Ag o isAgg3 rfl (u.ld.cellB t0 rfl)) λo=>qg o (Bt o rfl rfl) λo=>ql o (Ad o rfl rfl) key u hb
 intro hb o key
 iterate 3 refine qn o λo=>?_
 exact ql o (Ae o rfl rfl) key u hb
 intro a w o u
 exact qk o (Ae o rfl rfl) key u hb
 intro a w o u
 refine qm o rfl λo=>gr (Fk:=[(0,SL E0 p1 D0),(3,i6 F0),(4,PT G0),(52,.bool ((((decide (C0.At < 0)) || (decide (4000 < C0.At))) || ((decide (C0.Op≠1)) && (decide (C0.N≠0)))) || ((decide (C0.Op≠2)) && (decide (C0.Name≠[])))))]) 43 9 o u ?_ ?_ ?_
 intro hb o key
 iterate 4 refine qn o λo=>?_
 iterate 3 refine ls<|gnu o rfl rfl rfl λa o=>?_
 exact qn o λo=>qk o (Ad o rfl rfl) key u hb
 intro hb o key
 refine qg o (Af o Ck rfl) λo=>qg o (Ag o isAgg3 rfl (u.ld.cellB t0 rfl)) λo=>qg o (Bt o rfl rfl) λo=>qg o (Ab o rfl) λo=>gr (Fk:=[(0,SL E0 p1 D0),(3,i6 F0),(4,PT G0),(43,.bool false),(51,.bool ((decide (C0.Op≠2)) && (decide (C0.Name≠[]))))]) 47 4 o u ?_ ?_ ?_
 intro hb o key
 exact qg o (Af o Fv rfl) λo=>qg o (Ag o isAgg9 rfl (u.ld.cellB t0 rfl)) λo=>qg o (Cu (m:=C0.Name) (n:=[]) o rfl rfl) λo=>ql o (Ad o rfl rfl) key u hb
 intro hb o key
 iterate 3 refine qn o λo=>?_
 exact ql o (Ae o rfl rfl) key u hb
 intro a w o u
 exact qk o (Ae o rfl rfl) key u hb
 intro a w o u
 refine qm o rfl λo=>gr (Fk:=[(0,SL E0 p1 D0),(3,i6 F0),(4,PT G0),(57,.bool (((((decide (C0.At < 0)) || (decide (4000 < C0.At))) || ((decide (C0.Op≠1)) && (decide (C0.N≠0)))) || ((decide (C0.Op≠2)) && (decide (C0.Name≠[])))) || (decide (C0.N < 0))))]) 53 4 o u ?_ ?_ ?_
 intro hb o key
 iterate 3 refine qn o λo=>?_
 exact qk o (Ad o rfl rfl) key u hb
 intro hb o key
 exact qg o (Af o Dt rfl) λo=>qg o (Ag o isAgg3 rfl (u.ld.cellB t0 rfl)) λo=>qg o (Aq o rfl rfl) λo=>qk o (Ae o rfl rfl) key u hb
 intro a w o u
 refine qm o rfl λo=>gr (Fk:=[(0,SL E0 p1 D0),(3,i6 F0),(4,PT G0),(62,.bool ((((((decide (C0.At < 0)) || (decide (4000 < C0.At))) || ((decide (C0.Op≠1)) && (decide (C0.N≠0)))) || ((decide (C0.Op≠2)) && (decide (C0.Name≠[])))) || (decide (C0.N < 0))) || (decide (4294967296 < C0.N))))]) 58 4 o u ?_ ?_ ?_
 intro hb o key
 iterate 3 refine qn o λo=>?_
 exact qk o (Ad o rfl rfl) key u hb
 intro hb o key
 exact qg o (Af o Dt rfl) λo=>qg o (Ag o isAgg3 rfl (u.ld.cellB t0 rfl)) λo=>qg o (Be o rfl rfl) λo=>qk o (Ae o rfl rfl) key u hb
 intro a w o u
 refine qv o (As (Ab o rfl) (congrArg Value.bool J0)) λo=>?_
 iterate 4 refine qn o λo=>?_
 iterate 4 refine ls<|gnu o rfl rfl rfl λa o=>?_
 refine qn o λo=>qv o (Ad o rfl rfl) λo=>re<|tn<|?_
 replace u:=u.pickL .nil
 exact ⟨true,hm,o.hs,u⟩
 rcases bip hm with ⟨M0,hm⟩ | ⟨M0,hm⟩
 obtain ⟨j0,n0,hm⟩:=bs hm
 refine rg<|qv o (Af o Fc rfl) λo=>qv o (Ag o isAgg3 rfl (u.ld.cellB t0 rfl)) λo=>qv o (Aq o rfl rfl) λo=>qm o rfl λo=>gr (Fk:=[(0,SL E0 p1 D0),(3,i6 F0),(4,PT G0),(32,.bool ((decide (C0.At < 0)) || (decide (4000 < C0.At))))]) 28 4 o u ?_ ?_ ?_
 intro hb o key
 iterate 3 refine qn o λo=>?_
 exact qk o (Ad o rfl rfl) key u hb
 intro hb o key
 exact qg o (Af o Fc rfl) λo=>qg o (Ag o isAgg3 rfl (u.ld.cellB t0 rfl)) λo=>qg o (Be o rfl rfl) λo=>qk o (Ae o rfl rfl) key u hb
 intro a w o u
 refine qm o rfl λo=>gr (Fk:=[(0,SL E0 p1 D0),(3,i6 F0),(4,PT G0),(42,.bool (((decide (C0.At < 0)) || (decide (4000 < C0.At))) || ((decide (C0.Op≠1)) && (decide (C0.N≠0)))))]) 33 9 o u ?_ ?_ ?_
 intro hb o key
 iterate 4 refine qn o λo=>?_
 iterate 3 refine ls<|gnu o rfl rfl rfl λa o=>?_
 exact qn o λo=>qk o (Ad o rfl rfl) key u hb
 intro hb o key
 refine qg o (Af o Ck rfl) λo=>qg o (Ag o isAgg3 rfl (u.ld.cellB t0 rfl)) λo=>qg o (Bt o rfl rfl) λo=>qg o (Ab o rfl) λo=>gr (Fk:=[(0,SL E0 p1 D0),(3,i6 F0),(4,PT G0),(33,.bool false),(41,.bool ((decide (C0.Op≠1)) && (decide (C0.N≠0))))]) 37 4 o u ?_ ?_ ?_
 intro hb o key
 exact qg o (Af o Dt rfl) λo=>qg o (Ag o isAgg3 rfl (u.ld.cellB t0 rfl)) λo=>qg o (Bt o rfl rfl) λo=>ql o (Ad o rfl rfl) key u hb
 intro hb o key
 iterate 3 refine qn o λo=>?_
 exact ql o (Ae o rfl rfl) key u hb
 intro a w o u
 exact qk o (Ae o rfl rfl) key u hb
 intro a w o u
 refine qm o rfl λo=>gr (Fk:=[(0,SL E0 p1 D0),(3,i6 F0),(4,PT G0),(52,.bool ((((decide (C0.At < 0)) || (decide (4000 < C0.At))) || ((decide (C0.Op≠1)) && (decide (C0.N≠0)))) || ((decide (C0.Op≠2)) && (decide (C0.Name≠[])))))]) 43 9 o u ?_ ?_ ?_
 intro hb o key
 iterate 4 refine qn o λo=>?_
 iterate 3 refine ls<|gnu o rfl rfl rfl λa o=>?_
 exact qn o λo=>qk o (Ad o rfl rfl) key u hb
 intro hb o key
 refine qg o (Af o Ck rfl) λo=>qg o (Ag o isAgg3 rfl (u.ld.cellB t0 rfl)) λo=>qg o (Bt o rfl rfl) λo=>qg o (Ab o rfl) λo=>gr (Fk:=[(0,SL E0 p1 D0),(3,i6 F0),(4,PT G0),(43,.bool false),(51,.bool ((decide (C0.Op≠2)) && (decide (C0.Name≠[]))))]) 47 4 o u ?_ ?_ ?_
 intro hb o key
 exact qg o (Af o Fv rfl) λo=>qg o (Ag o isAgg9 rfl (u.ld.cellB t0 rfl)) λo=>qg o (Cu (m:=C0.Name) (n:=[]) o rfl rfl) λo=>ql o (Ad o rfl rfl) key u hb
 intro hb o key
 iterate 3 refine qn o λo=>?_
 exact ql o (Ae o rfl rfl) key u hb
 intro a w o u
 exact qk o (Ae o rfl rfl) key u hb
 intro a w o u
 refine qm o rfl λo=>gr (Fk:=[(0,SL E0 p1 D0),(3,i6 F0),(4,PT G0),(57,.bool (((((decide (C0.At < 0)) || (decide (4000 < C0.At))) || ((decide (C0.Op≠1)) && (decide (C0.N≠0)))) || ((decide (C0.Op≠2)) && (decide (C0.Name≠[])))) || (decide (C0.N < 0))))]) 53 4 o u ?_ ?_ ?_
 intro hb o key
 iterate 3 refine qn o λo=>?_
 exact qk o (Ad o rfl rfl) key u hb
 intro hb o key
 exact qg o (Af o Dt rfl) λo=>qg o (Ag o isAgg3 rfl (u.ld.cellB t0 rfl)) λo=>qg o (Aq o rfl rfl) λo=>qk o (Ae o rfl rfl) key u hb
 intro a w o u
 refine qm o rfl λo=>gr (Fk:=[(0,SL E0 p1 D0),(3,i6 F0),(4,PT G0),(62,.bool ((((((decide (C0.At < 0)) || (decide (4000 < C0.At))) || ((decide (C0.Op≠1)) && (decide (C0.N≠0)))) || ((decide (C0.Op≠2)) && (decide (C0.Name≠[])))) || (decide (C0.N < 0))) || (decide (4294967296 < C0.N))))]) 58 4 o u ?_ ?_ ?_
 intro hb o key
 iterate 3 refine qn o λo=>?_
 exact qk o (Ad o rfl rfl) key u hb
 intro hb o key
 exact qg o (Af o Dt rfl) λo=>qg o (Ag o isAgg3 rfl (u.ld.cellB t0 rfl)) λo=>qg o (Be o rfl rfl) λo=>qk o (Ae o rfl rfl) key u hb
 intro a w o u
 refine qv o (As (Ab o rfl) (congrArg Value.bool J0)) λo=>qg o (Af o Ck rfl) λo=>qg o (Ag o isAgg3 rfl (u.ld.cellB t0 rfl)) λo=>qg o (Al o rfl rfl) λo=>qg o (As (Ab o rfl) (congrArg Value.bool M0)) λo=>qg o (Af o Fv rfl) λo=>qg o (Ag o isAgg9 rfl (u.ld.cellB t0 rfl)) λo=>ls<|gy o rfl rfl<|cr o call114 (Jq (Ai _) n0) u λu o=>qg o (Az o rfl) λo=>qg o (Ad o rfl rfl) λo=>qv o (Ae o rfl rfl) λo=>re<|tn<|?_
 replace u:=u.pickL .nil
 exact ⟨(!j0),hm,o.hs,u⟩
 refine rg<|qv o (Af o Fc rfl) λo=>qv o (Ag o isAgg3 rfl (u.ld.cellB t0 rfl)) λo=>qv o (Aq o rfl rfl) λo=>qm o rfl λo=>gr (Fk:=[(0,SL E0 p1 D0),(3,i6 F0),(4,PT G0),(32,.bool ((decide (C0.At < 0)) || (decide (4000 < C0.At))))]) 28 4 o u ?_ ?_ ?_
 intro hb o key
 iterate 3 refine qn o λo=>?_
 exact qk o (Ad o rfl rfl) key u hb
 intro hb o key
 exact qg o (Af o Fc rfl) λo=>qg o (Ag o isAgg3 rfl (u.ld.cellB t0 rfl)) λo=>qg o (Be o rfl rfl) λo=>qk o (Ae o rfl rfl) key u hb
 intro a w o u
 refine qm o rfl λo=>gr (Fk:=[(0,SL E0 p1 D0),(3,i6 F0),(4,PT G0),(42,.bool (((decide (C0.At < 0)) || (decide (4000 < C0.At))) || ((decide (C0.Op≠1)) && (decide (C0.N≠0)))))]) 33 9 o u ?_ ?_ ?_
 intro hb o key
 iterate 4 refine qn o λo=>?_
 iterate 3 refine ls<|gnu o rfl rfl rfl λa o=>?_
 exact qn o λo=>qk o (Ad o rfl rfl) key u hb
 intro hb o key
 refine qg o (Af o Ck rfl) λo=>qg o (Ag o isAgg3 rfl (u.ld.cellB t0 rfl)) λo=>qg o (Bt o rfl rfl) λo=>qg o (Ab o rfl) λo=>gr (Fk:=[(0,SL E0 p1 D0),(3,i6 F0),(4,PT G0),(33,.bool false),(41,.bool ((decide (C0.Op≠1)) && (decide (C0.N≠0))))]) 37 4 o u ?_ ?_ ?_
 intro hb o key
 exact qg o (Af o Dt rfl) λo=>qg o (Ag o isAgg3 rfl (u.ld.cellB t0 rfl)) λo=>qg o (Bt o rfl rfl) λo=>ql o (Ad o rfl rfl) key u hb
 intro hb o key
 iterate 3 refine qn o λo=>?_
 exact ql o (Ae o rfl rfl) key u hb
 intro a w o u
 exact qk o (Ae o rfl rfl) key u hb
 intro a w o u
 refine qm o rfl λo=>gr (Fk:=[(0,SL E0 p1 D0),(3,i6 F0),(4,PT G0),(52,.bool ((((decide (C0.At < 0)) || (decide (4000 < C0.At))) || ((decide (C0.Op≠1)) && (decide (C0.N≠0)))) || ((decide (C0.Op≠2)) && (decide (C0.Name≠[])))))]) 43 9 o u ?_ ?_ ?_
 intro hb o key
 iterate 4 refine qn o λo=>?_
 iterate 3 refine ls<|gnu o rfl rfl rfl λa o=>?_
 exact qn o λo=>qk o (Ad o rfl rfl) key u hb
 intro hb o key
 refine qg o (Af o Ck rfl) λo=>qg o (Ag o isAgg3 rfl (u.ld.cellB t0 rfl)) λo=>qg o (Bt o rfl rfl) λo=>qg o (Ab o rfl) λo=>gr (Fk:=[(0,SL E0 p1 D0),(3,i6 F0),(4,PT G0),(43,.bool false),(51,.bool ((decide (C0.Op≠2)) && (decide (C0.Name≠[]))))]) 47 4 o u ?_ ?_ ?_
 intro hb o key
 exact qg o (Af o Fv rfl) λo=>qg o (Ag o isAgg9 rfl (u.ld.cellB t0 rfl)) λo=>qg o (Cu (m:=C0.Name) (n:=[]) o rfl rfl) λo=>ql o (Ad o rfl rfl) key u hb
 intro hb o key
 iterate 3 refine qn o λo=>?_
 exact ql o (Ae o rfl rfl) key u hb
 intro a w o u
 exact qk o (Ae o rfl rfl) key u hb
 intro a w o u
 refine qm o rfl λo=>gr (Fk:=[(0,SL E0 p1 D0),(3,i6 F0),(4,PT G0),(57,.bool (((((decide (C0.At < 0)) || (decide (4000 < C0.At))) || ((decide (C0.Op≠1)) && (decide (C0.N≠0)))) || ((decide (C0.Op≠2)) && (decide (C0.Name≠[])))) || (decide (C0.N < 0))))]) 53 4 o u ?_ ?_ ?_
 intro hb o key
 iterate 3 refine qn o λo=>?_
 exact qk o (Ad o rfl rfl) key u hb
 intro hb o key
 exact qg o (Af o Dt rfl) λo=>qg o (Ag o isAgg3 rfl (u.ld.cellB t0 rfl)) λo=>qg o (Aq o rfl rfl) λo=>qk o (Ae o rfl rfl) key u hb
 intro a w o u
 refine qm o rfl λo=>gr (Fk:=[(0,SL E0 p1 D0),(3,i6 F0),(4,PT G0),(62,.bool ((((((decide (C0.At < 0)) || (decide (4000 < C0.At))) || ((decide (C0.Op≠1)) && (decide (C0.N≠0)))) || ((decide (C0.Op≠2)) && (decide (C0.Name≠[])))) || (decide (C0.N < 0))) || (decide (4294967296 < C0.N))))]) 58 4 o u ?_ ?_ ?_
 intro hb o key
 iterate 3 refine qn o λo=>?_
 exact qk o (Ad o rfl rfl) key u hb
 intro hb o key
 exact qg o (Af o Dt rfl) λo=>qg o (Ag o isAgg3 rfl (u.ld.cellB t0 rfl)) λo=>qg o (Be o rfl rfl) λo=>qk o (Ae o rfl rfl) key u hb
 intro a w o u
 refine qv o (As (Ab o rfl) (congrArg Value.bool J0)) λo=>qg o (Af o Ck rfl) λo=>qg o (Ag o isAgg3 rfl (u.ld.cellB t0 rfl)) λo=>qg o (Al o rfl rfl) λo=>qg o (As (Ab o rfl) (congrArg Value.bool M0)) λo=>?_
 iterate 4 refine qn o λo=>?_
 refine qg o (Ae o rfl rfl) λo=>qv o (Ae o rfl rfl) λo=>re<|tn<|?_
 replace u:=u.pickL .nil
 exact ⟨false,hm,o.hs,u⟩
 rintro a w ⟨U0,hm,o,u⟩
 unfold Z1w at hm
 rcases bit hm with ⟨O0,hm⟩ | ⟨O0,hm⟩
 refine ctv o rfl O0<|th<|rg<|qa o rfl λo=>re<|tn<|wr<|br<|tr<|tr<|br<|tr<|?_
 obtain rfl:=si hm
 exact r1 o results99 rfl ⟨rfl,u.keep⟩
 refine cfv o rfl O0<|wk<|bn<|tn<|rg<|qm o rfl λo=>qv o (Ap o rfl rfl) λo=>qa o rfl λo=>re<|tn<|?_
 exact ⟨(I0,(IntKind.i64.wrap (F0+1))),⟨hm,o.has ⟨rfl,rfl,trivial⟩,u⟩,Nat.lt_succ_self _⟩
 refine tn<|cfv o rfl K0<|we<|tx<|tx<|bx<|tn<|?_
 exact ⟨hm,o.has ⟨rfl,trivial⟩,u⟩
 rintro a w ⟨hm,o,u⟩
 unfold Z1v at hm
 refine th<|?_
 obtain ⟨C1,u0,hm⟩:=bs hm
 refine rg<|qm o rfl λo=>ls<|cr o call134 (Yw _ (Ai _) V0 (St.srH u P0) u0) u λu o=>qv o (Cs o rfl rfl) λo=>qa o rfl λo=>re<|tn<|wr<|?_
 obtain rfl:=si hm
 exact r1 o results99 rfl ⟨rfl,u.keep⟩
theorem JbO (hH:H.le w0) {p1:Int} {r:Str} (hm:Z29 N p1=some r):Tot Tryz.prog 112 #[i6 p1] w0 (λv w'=>v=Ac r∧Keep Nil w0 w'):=by
 unfold Z29 at hm
 refine fn0 func112 rfl ntmps112 rfl rfl λa o=>?_
 have u:St w0 Nil [H] [] w0:=start1 hH
 refine th<|rg<|qa o rfl λo=>re<|tn<|th<|th<|rg<|qm o rfl λo=>qv o (Aq o rfl rfl) λo=>qm o rfl λo=>gr (Fk:=[(0,i6 p1),(8,.bool ((decide (p1 < 1)) || (decide (14 < p1))))]) 5 3 o u ?_ ?_ ?_
 intro hb o key
 iterate 2 refine qn o λo=>?_
 exact qk o (Ad o rfl rfl) key u hb
 intro hb o key
 exact qg o (Ab o rfl) λo=>qg o (Be o rfl rfl) λo=>qk o (Ae o rfl rfl) key u hb
 intro a w o u
 refine re<|?_
 rcases bit hm with ⟨C0,hm⟩ | ⟨C0,hm⟩
 refine tn<|ctv o rfl C0<|th<|rg<|qa o rfl λo=>re<|tn<|wr<|tr<|?_
 obtain rfl:=si hm
 exact r1 o results112 rfl ⟨rfl,u.keep⟩
 refine tn<|cfv o rfl C0<|wk<|tn<|th<|?_
 obtain ⟨F0,h7,hm⟩:=bs hm
 refine rg<|ls<|Bl (e:=9) (sz:=1) [Ac [],Ac [114,101],Ac [114,110],Ac [110,101],Ac [114,110,101,102],Ac [110],Ac [110],Ac [],Ac [],Ac [110],Ac [110],Ac [101,98],Ac [107,98],Ac [],Ac [101]] o rfl u rfl rfl rfl (λw=>by kernel_rfl) λb4 w a u o=>?_
 have D0:Rows (α:=Str) H [Ac [],Ac [114,101],Ac [114,110],Ac [110,101],Ac [114,110,101,102],Ac [110],Ac [110],Ac [],Ac [],Ac [110],Ac [110],Ac [101,98],Ac [107,98],Ac [],Ac [101]] ([[],[114,101],[114,110],[110,101],[114,110,101,102],[110],[110],[],[],[110],[110],[101,98],[107,98],[],[101]]:List Str):=(.cons (c:=[Ac []]) rfl (.cons (c:=[Ac [114,101]]) rfl (.cons (c:=[Ac [114,110]]) rfl (.cons (c:=[Ac [110,101]]) rfl (.cons (c:=[Ac [114,110,101,102]]) rfl (.cons (c:=[Ac [110]]) rfl (.cons (c:=[Ac [110]]) rfl (.cons (c:=[Ac []]) rfl (.cons (c:=[Ac []]) rfl (.cons (c:=[Ac [110]]) rfl (.cons (c:=[Ac [110]]) rfl (.cons (c:=[Ac [101,98]]) rfl (.cons (c:=[Ac [107,98]]) rfl (.cons (c:=[Ac []]) rfl (.cons (c:=[Ac [101]]) rfl .nil)))))))))))))))
 refine qm o rfl λo=>qv o (An o runUnderlying36 sizeOf9 rfl rfl h7 (Rd.oaI (u.ld.rdO t0) D0 (by decide) h7)) λo=>?_
 obtain ⟨cz8,g9,E0⟩:=Rows.getI D0 h7
 obtain rfl:cz8=[Ac F0]:=g9
 refine qv o (Ag o isAgg9 rfl (u.ld.elO t0 (E0 0 _ rfl))) λo=>qa o rfl λo=>re<|tn<|wr<|?_
 obtain rfl:=si hm
 exact r1 o results112 rfl ⟨rfl,u.keep⟩
theorem N2 (hH:H.le w0) {p1:Str} {p2:Int} {r:Bool} (hm:Z3a N p1 p2=some r):Tot Tryz.prog 113 #[Ac p1,.int .u8 p2] w0 (λv w'=>v=.bool r∧Keep Nil w0 w'):=by
 unfold Z3a at hm
 refine fn0 func113 rfl ntmps113 rfl rfl λa o=>?_
 have u:St w0 Nil [H] [] w0:=start1 hH
 refine th<|rg<|qa o rfl λo=>re<|tn<|th<|th<|rg<|qa o rfl λo=>re<|tn<|Au (λa w=>Z3b=some r∧Fr 17 [] a∧St w0 Nil [H] [] w) ?_ ?_
 refine wb<|lp (α:=Nat×Int) (λgh a w=>match gh with | (C0,D0)=>(Z3c N Z3b p1 p2) C0 D0=some r∧Fr 17 [(0,Ac p1),(1,.int .u8 p2),(5,i6 D0)] a∧St w0 Nil [H] [] w) (λgh=>gh.1) (N,0) ⟨hm,o.hs,u⟩ ?_
 rintro ⟨C0,D0⟩ a w ⟨hm,o,u⟩
 obtain _ | C0:=C0
 simp [Z3c] at hm
 rw [Z3c] at hm
 refine th<|th<|rg<|qm o rfl λo=>qm o rfl λo=>qv o (Bp (s:=p1) o runUnderlying9 rfl) λo=>qv o (Aq o rfl rfl) λo=>re<|?_
 rcases bip hm with ⟨E0,hm⟩ | ⟨E0,hm⟩
 refine tn<|ctv o rfl E0<|wk<|tn<|th<|wb<|th<|?_
 obtain ⟨G0,h5,hm⟩:=bs hm
 refine rg<|qm o rfl λo=>qm o rfl λo=>qv o (Co (s:=p1) o runUnderlying9 rfl rfl h5) λo=>qm o rfl λo=>qv o (Al o rfl rfl) λo=>re<|?_
 rcases bip hm with ⟨F0,hm⟩ | ⟨F0,hm⟩
 refine tn<|ctv o rfl F0<|th<|rg<|qa o rfl λo=>re<|tn<|wr<|br<|tr<|tr<|br<|tr<|?_
 obtain rfl:=si hm
 exact r1 o results113 rfl ⟨rfl,u.keep⟩
 refine tn<|cfv o rfl F0<|wk<|bn<|tn<|rg<|qm o rfl λo=>qv o (Ap o rfl rfl) λo=>qa o rfl λo=>re<|tn<|?_
 exact ⟨(C0,(IntKind.i64.wrap (D0+1))),⟨hm,o.hs,u⟩,Nat.lt_succ_self _⟩
 refine tn<|cfv o rfl E0<|we<|tx<|tx<|bx<|tn<|?_
 exact ⟨hm,o.has trivial,u⟩
 rintro a w ⟨hm,o,u⟩
 unfold Z3b at hm
 refine th<|rg<|qa o rfl λo=>re<|tn<|wr<|?_
 obtain rfl:=si hm
 exact r1 o results113 rfl ⟨rfl,u.keep⟩
set_option maxHeartbeats 4000000 in
theorem Jbv (hH:H.le w0) {cs2:List Value} {p1:api_Stmt} (g3:Enc.rep H cs2 p1) {r:Bool} (hm:Z3i N p1=some r):Tot Tryz.prog 75 #[.agg cs2.toArray] w0 (λv w'=>v=.bool r∧Keep Nil w0 w'):=by
 unfold Z3i at hm
 refine fn0 func75 rfl ntmps75 rfl rfl λa o=>?_
 have u:St w0 Nil [H] [] w0:=start1 hH
 obtain ⟨T0,J0,U0,K0,rfl,X0,Y0,F1,G1⟩:=Bn g3
 refine th<|rg<|ls<|Bs (cs:=[i6 p1.Kind,Ac p1.Reg,Ac p1.Name,SL T0 p1.E J0,SL U0 p1.F K0,i6 p1.N,i6 p1.Body,i6 p1.Else,i6 p1.At].toArray) o rfl u rfl rfl λC0 w a u o=>qa o rfl λo=>re<|tn<|th<|th<|rg<|qv o (Af o Cg rfl) λo=>qv o (Ag o isAgg3 rfl (u.ld.cellB t0 rfl)) λo=>qv o (Aq o rfl rfl) λo=>qm o rfl λo=>gr (Fk:=[(1,PT C0),(15,.bool ((decide (p1.Kind < 1)) || (decide (14 < p1.Kind))))]) 11 4 o u ?_ ?_ ?_
 intro hb o key
 iterate 3 refine qn o λo=>?_
 exact qk o (Ad o rfl rfl) key u hb
 intro hb o key
 exact qg o (Af o Cg rfl) λo=>qg o (Ag o isAgg3 rfl (u.ld.cellB t0 rfl)) λo=>qg o (Be o rfl rfl) λo=>qk o (Ae o rfl rfl) key u hb
 intro a w o u
 refine qm o rfl λo=>gr (Fk:=[(1,PT C0),(20,.bool (((decide (p1.Kind < 1)) || (decide (14 < p1.Kind))) || (decide (p1.At < 0))))]) 16 4 o u ?_ ?_ ?_
 intro hb o key
 iterate 3 refine qn o λo=>?_
 exact qk o (Ad o rfl rfl) key u hb
 intro hb o key
 exact qg o (Af o En rfl) λo=>qg o (Ag o isAgg3 rfl (u.ld.cellB t0 rfl)) λo=>qg o (Aq o rfl rfl) λo=>qk o (Ae o rfl rfl) key u hb
 intro a w o u
 refine qm o rfl λo=>gr (Fk:=[(1,PT C0),(25,.bool ((((decide (p1.Kind < 1)) || (decide (14 < p1.Kind))) || (decide (p1.At < 0))) || (decide (4000 < p1.At))))]) 21 4 o u ?_ ?_ ?_
 intro hb o key
 iterate 3 refine qn o λo=>?_
 exact qk o (Ad o rfl rfl) key u hb
 intro hb o key
 exact qg o (Af o En rfl) λo=>qg o (Ag o isAgg3 rfl (u.ld.cellB t0 rfl)) λo=>qg o (Be o rfl rfl) λo=>qk o (Ae o rfl rfl) key u hb
 intro a w o u
 refine re<|?_
 rcases bit hm with ⟨M0,hm⟩ | ⟨M0,hm⟩
 refine tn<|ctv o rfl M0<|th<|rg<|qa o rfl λo=>re<|tn<|wr<|tr<|?_
 obtain rfl:=si hm
 exact r1 o results75 rfl ⟨rfl,u.keep⟩
 refine tn<|cfv o rfl M0<|wk<|tn<|th<|?_
 obtain ⟨E0,I1,hm⟩:=bs hm
 refine rg<|qv o (Af o Cg rfl) λo=>qv o (Ag o isAgg3 rfl (u.ld.cellB t0 rfl)) λo=>ls<|cr o call112 (JbO (Ai _) I1) u λu o=>qa o rfl λo=>re<|tn<|th<|?_
 obtain ⟨I0,J1,hm⟩:=bs hm
 obtain ⟨G0,M1,hm⟩:=bs hm
 obtain ⟨F0,O1,hm⟩:=bs hm
 obtain ⟨D0,P1,hm⟩:=bs hm
 refine rg<|qm o rfl λo=>ls<|cr o call113 (N2 (Ai _) J1) u λu o=>qm o rfl λo=>ls<|cr o call113 (N2 (Ai _) M1) u λu o=>qm o rfl λo=>ls<|cr o call113 (N2 (Ai _) O1) u λu o=>qm o rfl λo=>ls<|cr o call113 (N2 (Ai _) P1) u λu o=>?_
 iterate 4 refine qa o rfl λo=>?_
 refine re<|tn<|th<|th<|Au (λa w=>∃ (V0:Bool),(Z3j N p1 E0 F0 D0) V0=some r∧Fr 112 [(1,PT C0),(3,Ac E0),(6,.bool F0),(7,.bool D0),(66,.bool V0)] a∧St w0 Nil [H] [bk C0 [i6 p1.Kind,Ac p1.Reg,Ac p1.Name,SL T0 p1.E J0,SL U0 p1.F K0,i6 p1.N,i6 p1.Body,i6 p1.Else,i6 p1.At] 51] w) ?_ ?_
 obtain ⟨j0,n0,hm⟩:=bs hm
 rcases bit hm with ⟨O0,hm⟩ | ⟨O0,hm⟩
 refine rg<|qm o rfl λo=>qv o (Af o Cx rfl) λo=>qv o (Ag o isAgg9 rfl (u.ld.cellB t0 rfl)) λo=>ls<|cr o call114 (Jq (Ai _) n0) u λu o=>qv o (Gh o runUnderlying4 rfl rfl) λo=>qm o rfl λo=>gr (Fk:=[(1,PT C0),(3,Ac E0),(5,.bool G0),(6,.bool F0),(7,.bool D0),(50,.bool ((I0 != j0) || ((!I0) && (decide (p1.Reg≠[])))))]) 42 8 o u ?_ ?_ ?_
 intro hb o key
 iterate 3 refine qn o λo=>?_
 iterate 3 refine ls<|gnu o rfl rfl rfl λa o=>?_
 exact qn o λo=>qk o (Ad o rfl rfl) key u hb
 intro hb o key
 refine qg o (Ab o rfl) λo=>qg o (Az o rfl) λo=>qg o (Ab o rfl) λo=>gr (Fk:=[(1,PT C0),(3,Ac E0),(5,.bool G0),(6,.bool F0),(7,.bool D0),(42,.bool false),(49,.bool ((!I0) && (decide (p1.Reg≠[]))))]) 45 4 o u ?_ ?_ ?_
 intro hb o key
 exact qg o (Af o Cx rfl) λo=>qg o (Ag o isAgg9 rfl (u.ld.cellB t0 rfl)) λo=>qg o (Cu (m:=p1.Reg) (n:=[]) o rfl rfl) λo=>ql o (Ad o rfl rfl) key u hb
 intro hb o key
 iterate 3 refine qn o λo=>?_
 exact ql o (Ae o rfl rfl) key u hb
 intro a w o u
 exact qk o (Ae o rfl rfl) key u hb
 intro a w o u
 refine qv o (As (Ab o rfl) (congrArg Value.bool O0)) λo=>?_
 iterate 5 refine qn o λo=>?_
 refine qv o (Ad o rfl rfl) λo=>qm o rfl λo=>?_
 iterate 3 refine qn o λo=>?_
 iterate 3 refine ls<|gnu o rfl rfl rfl λa o=>?_
 refine qn o λo=>qv o (Ad o rfl rfl) λo=>re<|tn<|?_
 exact ⟨true,hm,o.hs,u⟩
 obtain ⟨u0,Q1,hm⟩:=bs hm
 refine rg<|qm o rfl λo=>qv o (Af o Cx rfl) λo=>qv o (Ag o isAgg9 rfl (u.ld.cellB t0 rfl)) λo=>ls<|cr o call114 (Jq (Ai _) n0) u λu o=>qv o (Gh o runUnderlying4 rfl rfl) λo=>qm o rfl λo=>gr (Fk:=[(1,PT C0),(3,Ac E0),(5,.bool G0),(6,.bool F0),(7,.bool D0),(50,.bool ((I0 != j0) || ((!I0) && (decide (p1.Reg≠[])))))]) 42 8 o u ?_ ?_ ?_
 intro hb o key
 iterate 3 refine qn o λo=>?_
 iterate 3 refine ls<|gnu o rfl rfl rfl λa o=>?_
 exact qn o λo=>qk o (Ad o rfl rfl) key u hb
 intro hb o key
 refine qg o (Ab o rfl) λo=>qg o (Az o rfl) λo=>qg o (Ab o rfl) λo=>gr (Fk:=[(1,PT C0),(3,Ac E0),(5,.bool G0),(6,.bool F0),(7,.bool D0),(42,.bool false),(49,.bool ((!I0) && (decide (p1.Reg≠[]))))]) 45 4 o u ?_ ?_ ?_
 intro hb o key
 exact qg o (Af o Cx rfl) λo=>qg o (Ag o isAgg9 rfl (u.ld.cellB t0 rfl)) λo=>qg o (Cu (m:=p1.Reg) (n:=[]) o rfl rfl) λo=>ql o (Ad o rfl rfl) key u hb
 intro hb o key
 iterate 3 refine qn o λo=>?_
 exact ql o (Ae o rfl rfl) key u hb
 intro a w o u
 exact qk o (Ae o rfl rfl) key u hb
 intro a w o u
 refine qv o (As (Ab o rfl) (congrArg Value.bool O0)) λo=>qg o (Ab o rfl) λo=>qg o (Af o Du rfl) λo=>qg o (Ag o isAgg9 rfl (u.ld.cellB t0 rfl)) λo=>ls<|gy o rfl rfl<|cr o call114 (Jq (Ai _) Q1) u λu o=>qg o (Gh o runUnderlying4 rfl rfl) λo=>qv o (Ae o rfl rfl) λo=>qm o rfl λo=>gr (Fk:=[(1,PT C0),(3,Ac E0),(6,.bool F0),(7,.bool D0),(66,.bool ((G0 != u0) || ((!G0) && (decide (p1.Name≠[])))))]) 58 8 o u ?_ ?_ ?_
 intro hb o key
 iterate 3 refine qn o λo=>?_
 iterate 3 refine ls<|gnu o rfl rfl rfl λa o=>?_
 exact qn o λo=>qk o (Ad o rfl rfl) key u hb
 intro hb o key
 refine qg o (Ab o rfl) λo=>qg o (Az o rfl) λo=>qg o (Ab o rfl) λo=>gr (Fk:=[(1,PT C0),(3,Ac E0),(6,.bool F0),(7,.bool D0),(58,.bool false),(65,.bool ((!G0) && (decide (p1.Name≠[]))))]) 61 4 o u ?_ ?_ ?_
 intro hb o key
 exact qg o (Af o Du rfl) λo=>qg o (Ag o isAgg9 rfl (u.ld.cellB t0 rfl)) λo=>qg o (Cu (m:=p1.Name) (n:=[]) o rfl rfl) λo=>ql o (Ad o rfl rfl) key u hb
 intro hb o key
 iterate 3 refine qn o λo=>?_
 exact ql o (Ae o rfl rfl) key u hb
 intro a w o u
 exact qk o (Ae o rfl rfl) key u hb
 intro a w o u
 refine re<|tn<|?_
 exact ⟨((G0 != u0) || ((!G0) && (decide (p1.Name≠[])))),hm,o.hs,u⟩
 rintro a w ⟨V0,hm,o,u⟩
 unfold Z3j at hm
 rcases bit hm with ⟨P0,hm⟩ | ⟨P0,hm⟩
 refine ctv o rfl P0<|th<|rg<|qa o rfl λo=>re<|tn<|wr<|tr<|?_
 obtain rfl:=si hm
 exact r1 o results75 rfl ⟨rfl,u.keep⟩
 refine cfv o rfl P0<|wk<|tn<|th<|th<|Au (λa w=>∃ (W0:Bool),(Z3k N p1 E0) W0=some r∧Fr 112 [(1,PT C0),(3,Ac E0),(98,.bool W0)] a∧St w0 Nil [H] [bk C0 [i6 p1.Kind,Ac p1.Reg,Ac p1.Name,SL T0 p1.E J0,SL U0 p1.F K0,i6 p1.N,i6 p1.Body,i6 p1.Else,i6 p1.At] 51] w) ?_ ?_
 obtain ⟨B1,C1,hm⟩:=bs hm
 rcases bit hm with ⟨Q0,hm⟩ | ⟨Q0,hm⟩
 refine rg<|qm o rfl λo=>qv o (Af o Dx rfl) λo=>qv o (Ag o isAgg49 rfl (u.ld.cellB t0 rfl)) λo=>ls<|cr o call99 (Rz (Ai _) X0 (St.srH u Y0) C1) u λu o=>qv o (Gh o runUnderlying4 rfl rfl) λo=>qm o rfl λo=>gr (Fk:=[(1,PT C0),(3,Ac E0),(7,.bool D0),(81,.bool ((F0 != B1) || ((!F0) && (decide (0 < (p1.E.length:Int))))))]) 72 9 o u ?_ ?_ ?_
 intro hb o key
 iterate 3 refine qn o λo=>?_
 iterate 4 refine ls<|gnu o rfl rfl rfl λa o=>?_
 exact qn o λo=>qk o (Ad o rfl rfl) key u hb
 intro hb o key
 refine qg o (Ab o rfl) λo=>qg o (Az o rfl) λo=>qg o (Ab o rfl) λo=>gr (Fk:=[(1,PT C0),(3,Ac E0),(7,.bool D0),(72,.bool false),(80,.bool ((!F0) && (decide (0 < (p1.E.length:Int)))))]) 75 5 o u ?_ ?_ ?_
 intro hb o key
 exact qg o (Af o Dx rfl) λo=>qg o (Ag o isAgg49 rfl (u.ld.cellB t0 rfl)) λo=>qg o (Ak (α:=api_Node) (xs:=p1.E) o runUnderlying49 rfl) λo=>qg o (Be o rfl rfl) λo=>ql o (Ad o rfl rfl) key u hb
 intro hb o key
 iterate 4 refine qn o λo=>?_
 exact ql o (Ae o rfl rfl) key u hb
 intro a w o u
 exact qk o (Ae o rfl rfl) key u hb
 intro a w o u
 refine qv o (As (Ab o rfl) (congrArg Value.bool Q0)) λo=>?_
 iterate 5 refine qn o λo=>?_
 refine qv o (Ad o rfl rfl) λo=>qm o rfl λo=>?_
 iterate 3 refine qn o λo=>?_
 iterate 4 refine ls<|gnu o rfl rfl rfl λa o=>?_
 refine qn o λo=>qv o (Ad o rfl rfl) λo=>re<|tn<|?_
 exact ⟨true,hm,o.hs,u⟩
 obtain ⟨E1,R1,hm⟩:=bs hm
 refine rg<|qm o rfl λo=>qv o (Af o Dx rfl) λo=>qv o (Ag o isAgg49 rfl (u.ld.cellB t0 rfl)) λo=>ls<|cr o call99 (Rz (Ai _) X0 (St.srH u Y0) C1) u λu o=>qv o (Gh o runUnderlying4 rfl rfl) λo=>qm o rfl λo=>gr (Fk:=[(1,PT C0),(3,Ac E0),(7,.bool D0),(81,.bool ((F0 != B1) || ((!F0) && (decide (0 < (p1.E.length:Int))))))]) 72 9 o u ?_ ?_ ?_
 intro hb o key
 iterate 3 refine qn o λo=>?_
 iterate 4 refine ls<|gnu o rfl rfl rfl λa o=>?_
 exact qn o λo=>qk o (Ad o rfl rfl) key u hb
 intro hb o key
 refine qg o (Ab o rfl) λo=>qg o (Az o rfl) λo=>qg o (Ab o rfl) λo=>gr (Fk:=[(1,PT C0),(3,Ac E0),(7,.bool D0),(72,.bool false),(80,.bool ((!F0) && (decide (0 < (p1.E.length:Int)))))]) 75 5 o u ?_ ?_ ?_
 intro hb o key
 exact qg o (Af o Dx rfl) λo=>qg o (Ag o isAgg49 rfl (u.ld.cellB t0 rfl)) λo=>qg o (Ak (α:=api_Node) (xs:=p1.E) o runUnderlying49 rfl) λo=>qg o (Be o rfl rfl) λo=>ql o (Ad o rfl rfl) key u hb
 intro hb o key
 iterate 4 refine qn o λo=>?_
 exact ql o (Ae o rfl rfl) key u hb
 intro a w o u
 exact qk o (Ae o rfl rfl) key u hb
 intro a w o u
 refine qv o (As (Ab o rfl) (congrArg Value.bool Q0)) λo=>qg o (Ab o rfl) λo=>qg o (Af o Jo rfl) λo=>qg o (Ag o isAgg49 rfl (u.ld.cellB t0 rfl)) λo=>ls<|gy o rfl rfl<|cr o call99 (Rz (Ai _) F1 (St.srH u G1) R1) u λu o=>qg o (Gh o runUnderlying4 rfl rfl) λo=>qv o (Ae o rfl rfl) λo=>qm o rfl λo=>gr (Fk:=[(1,PT C0),(3,Ac E0),(98,.bool ((D0 != E1) || ((!D0) && (decide (0 < (p1.F.length:Int))))))]) 89 9 o u ?_ ?_ ?_
 intro hb o key
 iterate 3 refine qn o λo=>?_
 iterate 4 refine ls<|gnu o rfl rfl rfl λa o=>?_
 exact qn o λo=>qk o (Ad o rfl rfl) key u hb
 intro hb o key
 refine qg o (Ab o rfl) λo=>qg o (Az o rfl) λo=>qg o (Ab o rfl) λo=>gr (Fk:=[(1,PT C0),(3,Ac E0),(89,.bool false),(97,.bool ((!D0) && (decide (0 < (p1.F.length:Int)))))]) 92 5 o u ?_ ?_ ?_
 intro hb o key
 exact qg o (Af o Jo rfl) λo=>qg o (Ag o isAgg49 rfl (u.ld.cellB t0 rfl)) λo=>qg o (Ak (α:=api_Node) (xs:=p1.F) o runUnderlying49 rfl) λo=>qg o (Be o rfl rfl) λo=>ql o (Ad o rfl rfl) key u hb
 intro hb o key
 iterate 4 refine qn o λo=>?_
 exact ql o (Ae o rfl rfl) key u hb
 intro a w o u
 exact qk o (Ae o rfl rfl) key u hb
 intro a w o u
 refine re<|tn<|?_
 exact ⟨((D0 != E1) || ((!D0) && (decide (0 < (p1.F.length:Int))))),hm,o.hs,u⟩
 rintro a w ⟨W0,hm,o,u⟩
 unfold Z3k at hm
 rcases bit hm with ⟨R0,hm⟩ | ⟨R0,hm⟩
 refine ctv o rfl R0<|th<|rg<|qa o rfl λo=>re<|tn<|wr<|tr<|?_
 obtain rfl:=si hm
 exact r1 o results75 rfl ⟨rfl,u.keep⟩
 refine cfv o rfl R0<|wk<|tn<|th<|th<|?_
 obtain ⟨T1,S1,hm⟩:=bs hm
 refine rg<|qm o rfl λo=>ls<|cr o call113 (N2 (Ai _) S1) u λu o=>re<|?_
 rcases bit hm with ⟨S0,hm⟩ | ⟨S0,hm⟩
 refine tn<|ctv o rfl S0<|th<|rg<|qv o (Af o Gk rfl) λo=>qv o (Ag o isAgg3 rfl (u.ld.cellB t0 rfl)) λo=>qv o (Bi o rfl rfl) λo=>qm o rfl λo=>gr (Fk:=[(108,.bool ((decide (1≤p1.N)) && (decide (p1.N≤8))))]) 104 4 o u ?_ ?_ ?_
 intro hb o key
 exact qg o (Af o Gk rfl) λo=>qg o (Ag o isAgg3 rfl (u.ld.cellB t0 rfl)) λo=>qg o (Cs o rfl rfl) λo=>qk o (Ad o rfl rfl) key u hb
 intro hb o key
 iterate 3 refine qn o λo=>?_
 exact qk o (Ae o rfl rfl) key u hb
 intro a w o u
 refine qa o rfl λo=>re<|tn<|wr<|tr<|?_
 obtain rfl:=si hm
 exact r1 o results75 rfl ⟨rfl,u.keep⟩
 refine tn<|cfv o rfl S0<|wk<|tn<|th<|rg<|qv o (Af o Gk rfl) λo=>qv o (Ag o isAgg3 rfl (u.ld.cellB t0 rfl)) λo=>qv o (Al o rfl rfl) λo=>qa o rfl λo=>re<|tn<|wr<|?_
 obtain rfl:=si hm
 exact r1 o results75 rfl ⟨rfl,u.keep⟩
set_option maxHeartbeats 4000000 in
theorem JbV:∀ (N:Nat) {w0:World} {H:PH} (hH:H.le w0) {G0:Option Addr} {E0:Nat} {p1:(List api_Stmt)} (K0:p1.length≤E0) (M0:SR H G0 p1) {p6:Int} {r:Int} (hm:Z3d N p1 p6=some r),Tot Tryz.prog 76 #[SL G0 p1 E0,i6 p6] w0 (λv w'=>v=i6 r∧Keep Nil w0 w'):=by
 intro N
 induction N with
  | zero=>intros;rename_i hm;simp [Z3d] at hm
  | succ N ih=>
 intro w0 H hH G0 E0 p1 K0 M0 p6 r hm
 rw [Z3d] at hm
 refine fn0 func76 rfl ntmps76 rfl rfl λa o=>?_
 have u:St w0 Nil [H] [] w0:=start1 hH
 refine th<|rg<|qa o rfl λo=>re<|tn<|th<|rg<|qa o rfl λo=>qa o rfl λo=>re<|tn<|th<|Au (λa w=>∃ (X0:Int),Z3e X0=some r∧Fr 135 [(5,i6 X0)] a∧St w0 Nil [H] [] w) ?_ ?_
 refine wb<|lp (α:=Nat×Int×Int) (λgh a w=>match gh with | (J0,F0,D0)=>(Z3h (Z3d N) N Z3e p1 p6) J0 F0 D0=some r∧Fr 135 [(0,SL G0 p1 E0),(1,i6 p6),(5,i6 F0),(6,i6 D0)] a∧St w0 Nil [H] [] w) (λgh=>gh.1) (N,0,0) ⟨hm,o.hs,u⟩ ?_
 rintro ⟨J0,F0,D0⟩ a w ⟨hm,o,u⟩
 obtain _ | J0:=J0
 simp [Z3h] at hm
 rw [Z3h] at hm
 refine th<|th<|rg<|qm o rfl λo=>qm o rfl λo=>qv o (Ak (α:=api_Stmt) (xs:=p1) o runUnderlying46 rfl) λo=>qv o (Aq o rfl rfl) λo=>re<|?_
 rcases bip hm with ⟨Y0,hm⟩ | ⟨Y0,hm⟩
 refine tn<|ctv o rfl Y0<|wk<|tn<|wb<|th<|?_
 obtain ⟨C0,h9,hm⟩:=bs hm
 obtain ⟨C2,O1,F1⟩:=SR.get M0 h9
 obtain ⟨j0,T0,n0,U0,rfl,T1,U1,V1,X1⟩:=Bn O1
 refine rg<|qm o rfl λo=>qm o rfl λo=>qv o (An o runUnderlying46 sizeOf51 rfl rfl h9 (SR.oaI M0 (by decide) h9)) λo=>qv o (Ay o isAgg51 sizeOf51 rfl rfl (λj v hj=>PH.le.cell (Lds.le u.ld) (F1 j v hj))) λo=>ls<|Aw (cs:=[i6 0,Ac [],Ac [],.slice none 0 0,.slice none 0 0,i6 0,i6 0,i6 0,i6 0].toArray) o rfl u zeroValue51 rfl λI0 w a u o=>ls<|Ba o u sizeOf51 rfl rfl rfl rfl (Am rfl) .head λw u=>re<|tn<|th<|th<|rg<|qv o (Af o Do rfl) λo=>qv o (Ag o isAgg3 rfl (u.ld.cellB t0 rfl)) λo=>qv o (Aq o rfl rfl) λo=>qm o rfl λo=>gr (Fk:=[(0,SL G0 p1 E0),(1,i6 p6),(5,i6 F0),(6,i6 D0),(7,PT I0),(27,.bool ((decide (C0.Body < 0)) || (decide (C0.Else < 0))))]) 23 4 o u ?_ ?_ ?_
 intro hb o key
 iterate 3 refine qn o λo=>?_
 exact qk o (Ad o rfl rfl) key u hb
 intro hb o key
 exact qg o (Af o Dw rfl) λo=>qg o (Ag o isAgg3 rfl (u.ld.cellB t0 rfl)) λo=>qg o (Aq o rfl rfl) λo=>qk o (Ae o rfl rfl) key u hb
 intro a w o u
 refine qm o rfl λo=>gr (Fk:=[(0,SL G0 p1 E0),(1,i6 p6),(5,i6 F0),(6,i6 D0),(7,PT I0),(32,.bool (((decide (C0.Body < 0)) || (decide (C0.Else < 0))) || (decide (40 < C0.Body))))]) 28 4 o u ?_ ?_ ?_
 intro hb o key
 iterate 3 refine qn o λo=>?_
 exact qk o (Ad o rfl rfl) key u hb
 intro hb o key
 exact qg o (Af o Do rfl) λo=>qg o (Ag o isAgg3 rfl (u.ld.cellB t0 rfl)) λo=>qg o (Be o rfl rfl) λo=>qk o (Ae o rfl rfl) key u hb
 intro a w o u
 refine qm o rfl λo=>gr (Fk:=[(0,SL G0 p1 E0),(1,i6 p6),(5,i6 F0),(6,i6 D0),(7,PT I0),(37,.bool ((((decide (C0.Body < 0)) || (decide (C0.Else < 0))) || (decide (40 < C0.Body))) || (decide (40 < C0.Else))))]) 33 4 o u ?_ ?_ ?_
 intro hb o key
 iterate 3 refine qn o λo=>?_
 exact qk o (Ad o rfl rfl) key u hb
 intro hb o key
 exact qg o (Af o Dw rfl) λo=>qg o (Ag o isAgg3 rfl (u.ld.cellB t0 rfl)) λo=>qg o (Be o rfl rfl) λo=>qk o (Ae o rfl rfl) key u hb
 intro a w o u
 refine qm o rfl λo=>gr (Fk:=[(0,SL G0 p1 E0),(1,i6 p6),(5,i6 F0),(6,i6 D0),(7,PT I0),(50,.bool (((((decide (C0.Body < 0)) || (decide (C0.Else < 0))) || (decide (40 < C0.Body))) || (decide (40 < C0.Else))) || (decide ((p1.length:Int) < (IntKind.i64.wrap ((IntKind.i64.wrap ((IntKind.i64.wrap (D0+1))+C0.Body))+C0.Else))))))]) 38 12 o u ?_ ?_ ?_
 intro hb o key
 iterate 11 refine qn o λo=>?_
 exact qk o (Ad o rfl rfl) key u hb
 intro hb o key
 exact qg o (Ab o rfl) λo=>qg o (Ap o rfl rfl) λo=>qg o (Af o Do rfl) λo=>qg o (Ag o isAgg3 rfl (u.ld.cellB t0 rfl)) λo=>qg o (Ap o rfl rfl) λo=>qg o (Af o Dw rfl) λo=>qg o (Ag o isAgg3 rfl (u.ld.cellB t0 rfl)) λo=>qg o (Ap o rfl rfl) λo=>qg o (Ab o rfl) λo=>qg o (Ak (α:=api_Stmt) (xs:=p1) o runUnderlying46 rfl) λo=>qg o (Be o rfl rfl) λo=>qk o (Ae o rfl rfl) key u hb
 intro a w o u
 refine re<|?_
 rcases bit hm with ⟨O0,hm⟩ | ⟨O0,hm⟩
 refine tn<|ctv o rfl O0<|th<|rg<|qa o rfl λo=>re<|tn<|wr<|tr<|br<|tr<|br<|tr<|?_
 obtain rfl:=si hm
 exact r1 o results76 rfl ⟨rfl,u.keep⟩
 refine tn<|cfv o rfl O0<|wk<|tn<|th<|th<|rg<|qv o (Af o Do rfl) λo=>qv o (Ag o isAgg3 rfl (u.ld.cellB t0 rfl)) λo=>qv o (Be o rfl rfl) λo=>qm o rfl λo=>gr (Fk:=[(0,SL G0 p1 E0),(1,i6 p6),(5,i6 F0),(6,i6 D0),(7,PT I0),(58,.bool ((decide (0 < C0.Body)) && (decide (C0.Kind≠11))))]) 54 4 o u ?_ ?_ ?_
 intro hb o key
 exact qg o (Af o Cg rfl) λo=>qg o (Ag o isAgg3 rfl (u.ld.cellB t0 rfl)) λo=>qg o (Bt o rfl rfl) λo=>qk o (Ad o rfl rfl) key u hb
 intro hb o key
 iterate 3 refine qn o λo=>?_
 exact qk o (Ae o rfl rfl) key u hb
 intro a w o u
 refine qm o rfl λo=>gr (Fk:=[(0,SL G0 p1 E0),(1,i6 p6),(5,i6 F0),(6,i6 D0),(7,PT I0),(63,.bool (((decide (0 < C0.Body)) && (decide (C0.Kind≠11))) && (decide (C0.Kind≠12))))]) 59 4 o u ?_ ?_ ?_
 intro hb o key
 exact qg o (Af o Cg rfl) λo=>qg o (Ag o isAgg3 rfl (u.ld.cellB t0 rfl)) λo=>qg o (Bt o rfl rfl) λo=>qk o (Ad o rfl rfl) key u hb
 intro hb o key
 iterate 3 refine qn o λo=>?_
 exact qk o (Ae o rfl rfl) key u hb
 intro a w o u
 refine qm o rfl λo=>gr (Fk:=[(0,SL G0 p1 E0),(1,i6 p6),(5,i6 F0),(6,i6 D0),(7,PT I0),(73,.bool ((((decide (0 < C0.Body)) && (decide (C0.Kind≠11))) && (decide (C0.Kind≠12))) || ((decide (0 < C0.Else)) && (decide (C0.Kind≠11)))))]) 64 9 o u ?_ ?_ ?_
 intro hb o key
 iterate 4 refine qn o λo=>?_
 iterate 3 refine ls<|gnu o rfl rfl rfl λa o=>?_
 exact qn o λo=>qk o (Ad o rfl rfl) key u hb
 intro hb o key
 refine qg o (Af o Dw rfl) λo=>qg o (Ag o isAgg3 rfl (u.ld.cellB t0 rfl)) λo=>qg o (Be o rfl rfl) λo=>qg o (Ab o rfl) λo=>gr (Fk:=[(0,SL G0 p1 E0),(1,i6 p6),(5,i6 F0),(6,i6 D0),(7,PT I0),(64,.bool false),(72,.bool ((decide (0 < C0.Else)) && (decide (C0.Kind≠11))))]) 68 4 o u ?_ ?_ ?_
 intro hb o key
 exact qg o (Af o Cg rfl) λo=>qg o (Ag o isAgg3 rfl (u.ld.cellB t0 rfl)) λo=>qg o (Bt o rfl rfl) λo=>ql o (Ad o rfl rfl) key u hb
 intro hb o key
 iterate 3 refine qn o λo=>?_
 exact ql o (Ae o rfl rfl) key u hb
 intro a w o u
 exact qk o (Ae o rfl rfl) key u hb
 intro a w o u
 refine qm o rfl λo=>gr (Fk:=[(0,SL G0 p1 E0),(1,i6 p6),(5,i6 F0),(6,i6 D0),(7,PT I0),(82,.bool (((((decide (0 < C0.Body)) && (decide (C0.Kind≠11))) && (decide (C0.Kind≠12))) || ((decide (0 < C0.Else)) && (decide (C0.Kind≠11)))) || ((decide (C0.Kind=13)) && (decide (p6=0)))))]) 74 8 o u ?_ ?_ ?_
 intro hb o key
 iterate 4 refine qn o λo=>?_
 iterate 2 refine ls<|gnu o rfl rfl rfl λa o=>?_
 exact qn o λo=>qk o (Ad o rfl rfl) key u hb
 intro hb o key
 refine qg o (Af o Cg rfl) λo=>qg o (Ag o isAgg3 rfl (u.ld.cellB t0 rfl)) λo=>qg o (Al o rfl rfl) λo=>qg o (Ab o rfl) λo=>gr (Fk:=[(0,SL G0 p1 E0),(1,i6 p6),(5,i6 F0),(6,i6 D0),(7,PT I0),(74,.bool false),(81,.bool ((decide (C0.Kind=13)) && (decide (p6=0))))]) 78 3 o u ?_ ?_ ?_
 intro hb o key
 exact qg o (Ab o rfl) λo=>qg o (Al o rfl rfl) λo=>ql o (Ad o rfl rfl) key u hb
 intro hb o key
 iterate 2 refine qn o λo=>?_
 exact ql o (Ae o rfl rfl) key u hb
 intro a w o u
 exact qk o (Ae o rfl rfl) key u hb
 intro a w o u
 refine re<|?_
 rcases bit hm with ⟨P0,hm⟩ | ⟨P0,hm⟩
 refine tn<|ctv o rfl P0<|th<|rg<|qa o rfl λo=>re<|tn<|wr<|tr<|br<|tr<|br<|tr<|?_
 obtain rfl:=si hm
 exact r1 o results76 rfl ⟨rfl,u.keep⟩
 refine tn<|cfv o rfl P0<|wk<|tn<|th<|rxS 8 u wide (by kernel_rfl) λw u=>?_
 iterate 2 refine xq u.ld o (λw hl=>Ab o rfl) λo=>?_
 refine xr u o (Ap o rfl rfl) λo=>xr u o (Af o Do rfl) λo=>xq u.ld o (λw hl=>Ag o isAgg3 rfl (hl.cellB t0 rfl)) λo=>xr u o (Ap o rfl rfl) λo=>?_
 iterate 2 refine xq u.ld o (λw hl=>Bo o rfl) λo=>?_
 refine xe<|tn<|th<|th<|rg<|qv o (Af o Cg rfl) λo=>qv o (Ag o isAgg3 rfl (u.ld.cellB t0 rfl)) λo=>qv o (Al o rfl rfl) λo=>re<|tn<|Au (λa w=>∃ (V0:Int),(Z3f (Z3d N) ((Z3h (Z3d N) N Z3e p1 p6) J0) p1 C0 F0 D0) V0=some r∧Fr 135 [(0,SL G0 p1 E0),(1,i6 p6),(5,i6 F0),(6,i6 D0),(7,PT I0),(8,i6 V0),(9,i6 (IntKind.i64.wrap ((IntKind.i64.wrap (D0+1))+C0.Body)))] a∧St w0 Nil [H] [bk I0 [i6 C0.Kind,Ac C0.Reg,Ac C0.Name,SL j0 C0.E T0,SL n0 C0.F U0,i6 C0.N,i6 C0.Body,i6 C0.Else,i6 C0.At] 51] w) ?_ ?_
 rcases bip hm with ⟨Q0,hm⟩ | ⟨Q0,hm⟩
 refine ctv o rfl Q0<|rg<|qm o rfl λo=>qv o (Ap o rfl rfl) λo=>qa o rfl λo=>re<|tn<|?_
 exact ⟨(IntKind.i64.wrap (p6+1)),hm,o.hs,u⟩
 refine cfv o rfl Q0<|wk<|tn<|?_
 exact ⟨p6,hm,o.hs,u⟩
 rintro a w ⟨V0,hm,o,u⟩
 unfold Z3f at hm
 refine th<|th<|rg<|qv o (Af o Cg rfl) λo=>qv o (Ag o isAgg3 rfl (u.ld.cellB t0 rfl)) λo=>qv o (Al o rfl rfl) λo=>qm o rfl λo=>gr (Fk:=[(0,SL G0 p1 E0),(1,i6 p6),(5,i6 F0),(6,i6 D0),(7,PT I0),(8,i6 V0),(9,i6 (IntKind.i64.wrap ((IntKind.i64.wrap (D0+1))+C0.Body))),(101,.bool ((decide (C0.Kind=11)) || (decide (C0.Kind=12))))]) 97 4 o u ?_ ?_ ?_
 intro hb o key
 iterate 3 refine qn o λo=>?_
 exact qk o (Ad o rfl rfl) key u hb
 intro hb o key
 exact qg o (Af o Cg rfl) λo=>qg o (Ag o isAgg3 rfl (u.ld.cellB t0 rfl)) λo=>qg o (Al o rfl rfl) λo=>qk o (Ae o rfl rfl) key u hb
 intro a w o u
 refine re<|tn<|Au (λa w=>∃ (W0:Int),(Z3g ((Z3h (Z3d N) N Z3e p1 p6) J0) C0 D0) W0=some r∧Fr 135 [(0,SL G0 p1 E0),(1,i6 p6),(5,i6 W0),(7,PT I0),(9,i6 (IntKind.i64.wrap ((IntKind.i64.wrap (D0+1))+C0.Body)))] a∧St w0 Nil [H] [bk I0 [i6 C0.Kind,Ac C0.Reg,Ac C0.Name,SL j0 C0.E T0,SL n0 C0.F U0,i6 C0.N,i6 C0.Body,i6 C0.Else,i6 C0.At] 51] w) ?_ ?_
 rcases bit hm with ⟨R0,hm⟩ | ⟨R0,hm⟩
 refine ctv o rfl R0<|th<|?_
 obtain ⟨E2,C1,hm⟩:=bs hm
 obtain ⟨Y1,R1,e30,e31,G1,I1⟩:=SR.sub (sz:=9) M0 K0 rfl C1
 obtain ⟨u0,P1,hm⟩:=bs hm
 obtain ⟨F2,E1,hm⟩:=bs hm
 obtain ⟨B2,S1,e40,e41,J1,M1⟩:=SR.sub (sz:=9) M0 K0 rfl E1
 obtain ⟨B1,Q1,hm⟩:=bs hm
 refine rdS 18 u wide λw u=>dr 0 u o rfl (Ab o rfl) λo=>dr 1 u o rfl (Ab o rfl) λo=>dr 2 u o rfl (Ap o rfl rfl) λo=>dr 3 u o rfl (Ab o rfl) λo=>dr 4 u o rfl (Hd (xs:=p1) (vl:=(IntKind.i64.wrap (D0+1))) (vh:=(IntKind.i64.wrap ((IntKind.i64.wrap (D0+1))+C0.Body))) o runUnderlying46 sizeOf51 rfl K0 rfl rfl C1 e30 e31) λo=>dr 5 u o rfl (Ab o rfl) λo=>dr 7 u o rfl (Ab o rfl) λo=>dr 8 u o rfl (Ab o rfl) λo=>dr 9 u o rfl (Ab o rfl) λo=>dr 10 u o rfl (Af o Dw rfl) λo=>dq 11 u.ld o rfl (λw hl=>Ag o isAgg3 rfl (hl.cellB t0 rfl)) λo=>dr 12 u o rfl (Ap o rfl rfl) λo=>dr 13 u o rfl (Hd (xs:=p1) (vl:=(IntKind.i64.wrap ((IntKind.i64.wrap (D0+1))+C0.Body))) (vh:=(IntKind.i64.wrap ((IntKind.i64.wrap ((IntKind.i64.wrap (D0+1))+C0.Body))+C0.Else))) o runUnderlying46 sizeOf51 rfl K0 rfl rfl E1 e40 e41) λo=>dr 14 u o rfl (Ab o rfl) λo=>da1 (i:=6) (by kernel_rfl) ?_
 refine di (i:=6) rfl<|cr o call76 (ih (Ai _) G1 (St.srH u I1) P1) u λu o=>⟨λ_=>u.ld,?_⟩
 refine da1 (i:=15) (by kernel_rfl) ?_
 refine di (i:=15) rfl<|cr o call76 (ih (Ai _) J1 (St.srH u M1) Q1) u λu o=>⟨λ_=>u.ld,?_⟩
 refine dr 16 u o rfl (Bo o rfl) λo=>dr 17 u o rfl (Bo o rfl) λo=>de (by kernel_rfl)<|tn<|th<|th<|rg<|qm o rfl λo=>qv o (Aq o rfl rfl) λo=>qm o rfl λo=>gr (Fk:=[(0,SL G0 p1 E0),(1,i6 p6),(5,i6 F0),(7,PT I0),(9,i6 (IntKind.i64.wrap ((IntKind.i64.wrap (D0+1))+C0.Body))),(10,i6 u0),(11,i6 B1),(123,.bool ((decide (u0 < 0)) || (decide (B1 < 0))))]) 120 3 o u ?_ ?_ ?_
 intro hb o key
 iterate 2 refine qn o λo=>?_
 exact qk o (Ad o rfl rfl) key u hb
 intro hb o key
 exact qg o (Ab o rfl) λo=>qg o (Aq o rfl rfl) λo=>qk o (Ae o rfl rfl) key u hb
 intro a w o u
 refine re<|?_
 rcases bit hm with ⟨S0,hm⟩ | ⟨S0,hm⟩
 refine tn<|ctv o rfl S0<|th<|rg<|qa o rfl λo=>re<|tn<|wr<|tr<|tr<|br<|tr<|br<|tr<|?_
 obtain rfl:=si hm
 exact r1 o results76 rfl ⟨rfl,u.keep⟩
 refine tn<|cfv o rfl S0<|wk<|tn<|rg<|qm o rfl λo=>qm o rfl λo=>qv o (Ap o rfl rfl) λo=>qm o rfl λo=>qv o (Ap o rfl rfl) λo=>qv o (Uq o rfl rfl rfl) λo=>qa o rfl λo=>re<|tn<|?_
 exact ⟨(max (max F0 (IntKind.i64.wrap (1+u0))) (IntKind.i64.wrap (1+B1))),hm,o.hs,u⟩
 refine cfv o rfl R0<|wk<|tn<|?_
 exact ⟨F0,hm,o.hs,u⟩
 rintro a w ⟨W0,hm,o,u⟩
 unfold Z3g at hm
 refine rg<|qm o rfl λo=>qv o (Af o Dw rfl) λo=>qv o (Ag o isAgg3 rfl (u.ld.cellB t0 rfl)) λo=>qv o (Ap o rfl rfl) λo=>qa o rfl λo=>re<|bn<|tn<|?_
 replace u:=u.pickL .nil
 exact ⟨(J0,W0,(IntKind.i64.wrap ((IntKind.i64.wrap ((IntKind.i64.wrap (D0+1))+C0.Body))+C0.Else))),⟨hm,o.hs,u⟩,Nat.lt_succ_self _⟩
 refine tn<|cfv o rfl Y0<|we<|tx<|tx<|bx<|tn<|?_
 exact ⟨F0,hm,o.has ⟨rfl,trivial⟩,u⟩
 rintro a w ⟨X0,hm,o,u⟩
 unfold Z3e at hm
 refine th<|rg<|qm o rfl λo=>qa o rfl λo=>re<|tn<|wr<|?_
 obtain rfl:=si hm
 exact r1 o results76 rfl ⟨rfl,u.keep⟩
theorem JbT (hH:H.le w0) {G0:Option Addr} {D0:Nat} {p1:(List api_Stmt)} (Y0:p1.length≤D0) (J0:SR H G0 p1) {r:Bool} (hm:Z36 N p1=some r):Tot Tryz.prog 44 #[SL G0 p1 D0] w0 (λv w'=>v=.bool r∧Keep Nil w0 w'):=by
 unfold Z36 at hm
 refine fn0 func44 rfl ntmps44 rfl rfl λa o=>?_
 have u:St w0 Nil [H] [] w0:=start1 hH
 refine th<|rg<|qa o rfl λo=>re<|tn<|th<|th<|rg<|qm o rfl λo=>qv o (Ak (α:=api_Stmt) (xs:=p1) o runUnderlying46 rfl) λo=>qv o (Be o rfl rfl) λo=>re<|?_
 rcases bip hm with ⟨K0,hm⟩ | ⟨K0,hm⟩
 refine tn<|ctv o rfl K0<|th<|rg<|qa o rfl λo=>re<|tn<|wr<|tr<|?_
 obtain rfl:=si hm
 exact r1 o results44 rfl ⟨rfl,u.keep⟩
 refine tn<|cfv o rfl K0<|wk<|tn<|th<|th<|rg<|qa o rfl λo=>re<|tn<|Au (λa w=>(Z37 N p1)=some r∧Fr 28 [(0,SL G0 p1 D0)] a∧St w0 Nil [H] [] w) ?_ ?_
 refine wb<|lp (α:=Nat×Int) (λgh a w=>match gh with | (E0,I0)=>(Z38 N (Z37 N p1) p1) E0 I0=some r∧Fr 28 [(0,SL G0 p1 D0),(3,i6 I0)] a∧St w0 Nil [H] [] w) (λgh=>gh.1) (N,0) ⟨hm,o.has ⟨rfl,rfl,trivial⟩,u⟩ ?_
 rintro ⟨E0,I0⟩ a w ⟨hm,o,u⟩
 obtain _ | E0:=E0
 simp [Z38] at hm
 rw [Z38] at hm
 refine th<|th<|rg<|qm o rfl λo=>qm o rfl λo=>qv o (Ak (α:=api_Stmt) (xs:=p1) o runUnderlying46 rfl) λo=>qv o (Aq o rfl rfl) λo=>re<|?_
 rcases bip hm with ⟨M0,hm⟩ | ⟨M0,hm⟩
 refine tn<|ctv o rfl M0<|wk<|tn<|th<|wb<|th<|?_
 obtain ⟨C0,h9,hm⟩:=bs hm
 obtain ⟨B1,j0,R0⟩:=SR.get J0 h9
 obtain ⟨S0,O0,T0,P0,rfl,U0,V0,W0,X0⟩:=Bn j0
 obtain ⟨C1,n0,hm⟩:=bs hm
 refine rg<|qm o rfl λo=>qm o rfl λo=>qv o (An o runUnderlying46 sizeOf51 rfl rfl h9 (SR.oaI J0 (by decide) h9)) λo=>qv o (Ay o isAgg51 sizeOf51 rfl rfl (λj v hj=>PH.le.cell (Lds.le u.ld) (R0 j v hj))) λo=>ls<|cr o call75 (Jbv (Ai _) (Enc.mono (St.up u) (show Enc.rep (α:=api_Stmt) H [i6 C0.Kind,Ac C0.Reg,Ac C0.Name,SL S0 C0.E O0,SL T0 C0.F P0,i6 C0.N,i6 C0.Body,i6 C0.Else,i6 C0.At] C0 from ⟨_,_,rfl,rfl,⟨_,_,rfl,rfl,⟨_,_,rfl,rfl,⟨_,_,rfl,⟨_,_,rfl,U0,V0⟩,⟨_,_,rfl,⟨_,_,rfl,W0,X0⟩,⟨_,_,rfl,rfl,⟨_,_,rfl,rfl,⟨_,_,rfl,rfl,rfl⟩⟩⟩⟩⟩⟩⟩⟩)) n0) u λu o=>qv o (Az o rfl) λo=>re<|?_
 rcases bit hm with ⟨F0,hm⟩ | ⟨F0,hm⟩
 refine tn<|cfv o rfl (by rw [F0];rfl)<|wk<|bn<|tn<|rg<|qm o rfl λo=>qv o (Ap o rfl rfl) λo=>qa o rfl λo=>re<|tn<|?_
 exact ⟨(E0,(IntKind.i64.wrap (I0+1))),⟨hm,o.has ⟨rfl,rfl,trivial⟩,u⟩,Nat.lt_succ_self _⟩
 refine tn<|ctv o rfl (by rw [F0];rfl)<|th<|rg<|qa o rfl λo=>re<|tn<|wr<|br<|tr<|tr<|br<|tr<|?_
 obtain rfl:=si hm
 exact r1 o results44 rfl ⟨rfl,u.keep⟩
 refine tn<|cfv o rfl M0<|we<|tx<|tx<|bx<|tn<|?_
 exact ⟨hm,o.has ⟨rfl,trivial⟩,u⟩
 rintro a w ⟨hm,o,u⟩
 unfold Z37 at hm
 refine th<|?_
 obtain ⟨Q0,u0,hm⟩:=bs hm
 refine rg<|qm o rfl λo=>ls<|cr o call76 (JbV _ (Ai _) Y0 (St.srH u J0) u0) u λu o=>qa o rfl λo=>re<|tn<|th<|rg<|qm o rfl λo=>qv o (Bi o rfl rfl) λo=>qm o rfl λo=>gr (Fk:=[(27,.bool ((decide (0≤Q0)) && (decide (Q0≤12))))]) 24 3 o u ?_ ?_ ?_
 intro hb o key
 exact qg o (Ab o rfl) λo=>qg o (Cs o rfl rfl) λo=>qk o (Ad o rfl rfl) key u hb
 intro hb o key
 iterate 2 refine qn o λo=>?_
 exact qk o (Ae o rfl rfl) key u hb
 intro a w o u
 refine qa o rfl λo=>re<|tn<|wr<|?_
 obtain rfl:=si hm
 exact r1 o results44 rfl ⟨rfl,u.keep⟩
set_option maxHeartbeats 4000000 in
theorem Vw (hH:H.le w0) {G0:Option Addr} {D0:Nat} {p1:(List api_Thread)} (M2:p1.length≤D0) (E0:SR H G0 p1) {p6:Bool} {r:Bool} (hm:Z4s N p1 p6=some r):Tot Tryz.prog 100 #[SL G0 p1 D0,.bool p6] w0 (λv w'=>v=.bool r∧Keep Nil w0 w'):=by
 unfold Z4s at hm
 refine fn0 func100 rfl ntmps100 rfl rfl λa o=>?_
 have u:St w0 Nil [H] [] w0:=start1 hH
 refine th<|rg<|qa o rfl λo=>re<|tn<|th<|th<|rg<|qa o rfl λo=>re<|tn<|Au (λa w=>Z4t=some r∧Fr 71 [] a∧St w0 Nil [H] [] w) ?_ ?_
 refine wb<|lp (α:=Nat×Int) (λgh a w=>match gh with | (J0,C0)=>(Z4w N Z4t p1 p6) J0 C0=some r∧Fr 71 [(0,SL G0 p1 D0),(1,.bool p6),(5,i6 C0)] a∧St w0 Nil [H] [] w) (λgh=>gh.1) (N,0) ⟨hm,o.hs,u⟩ ?_
 rintro ⟨J0,C0⟩ a w ⟨hm,o,u⟩
 obtain _ | J0:=J0
 simp [Z4w] at hm
 rw [Z4w] at hm
 refine th<|th<|rg<|qm o rfl λo=>qm o rfl λo=>qv o (Ak (α:=api_Thread) (xs:=p1) o runUnderlying24 rfl) λo=>qv o (Aq o rfl rfl) λo=>re<|?_
 rcases bip hm with ⟨U0,hm⟩ | ⟨U0,hm⟩
 refine tn<|ctv o rfl U0<|wk<|tn<|th<|Au (λa w=>(Z4u (Z4w N Z4t p1 p6 J0) C0)=some r∧Fr 71 [(0,SL G0 p1 D0),(1,.bool p6),(5,i6 C0)] a∧St w0 Nil [H] [] w) ?_ ?_
 refine wb<|th<|th<|Au (λa w=>∃ (V0:Bool),(Z4v N (Z4u (Z4w N Z4t p1 p6 J0) C0) p1 C0) V0=some r∧Fr 71 [(0,SL G0 p1 D0),(1,.bool p6),(5,i6 C0),(50,.bool V0)] a∧St w0 Nil [H] [] w) ?_ ?_
 obtain ⟨I0,h9,hm⟩:=bs hm
 obtain ⟨O2,G1,F0⟩:=SR.get E0 h9
 obtain ⟨Y1,T1,B2,U1,rfl,C2,E2,C1,E1⟩:=Av G1
 obtain ⟨W0,X0,hm⟩:=bs hm
 rcases bit hm with ⟨K0,hm⟩ | ⟨K0,hm⟩
 refine rg<|qm o rfl λo=>?_
 iterate 2 refine qm o rfl λo=>?_
 refine qv o (An o runUnderlying24 sizeOf48 rfl rfl h9 (SR.oaI E0 (by decide) h9)) λo=>qv o (Af o Er rfl) λo=>qv o (Ag o isAgg9 rfl (PH.le.cell (Lds.le u.ld) (F0 0 _ rfl))) λo=>ls<|cr o call114 (Jq (Ai _) X0) u λu o=>qv o (Gh o runUnderlying4 rfl rfl) λo=>qm o rfl λo=>gr (Fk:=[(0,SL G0 p1 D0),(1,.bool p6),(5,i6 C0),(32,.bool ((p6 != W0) || ((!p6) && (decide (I0.Name≠[])))))]) 21 11 o u ?_ ?_ ?_
 intro hb o key
 iterate 3 refine qn o λo=>?_
 iterate 6 refine ls<|gnu o rfl rfl rfl λa o=>?_
 exact qn o λo=>qk o (Ad o rfl rfl) key u hb
 intro hb o key
 refine qg o (Ab o rfl) λo=>qg o (Az o rfl) λo=>qg o (Ab o rfl) λo=>gr (Fk:=[(0,SL G0 p1 D0),(1,.bool p6),(5,i6 C0),(21,.bool false),(31,.bool ((!p6) && (decide (I0.Name≠[]))))]) 24 7 o u ?_ ?_ ?_
 intro hb o key
 iterate 2 refine qg o (Ab o rfl) λo=>?_
 exact qg o (An o runUnderlying24 sizeOf48 rfl rfl h9 (SR.oaI E0 (by decide) h9)) λo=>qg o (Af o Er rfl) λo=>qg o (Ag o isAgg9 rfl (PH.le.cell (Lds.le u.ld) (F0 0 _ rfl))) λo=>qg o (Cu (m:=I0.Name) (n:=[]) o rfl rfl) λo=>ql o (Ad o rfl rfl) key u hb
 intro hb o key
 iterate 6 refine qn o λo=>?_
 exact ql o (Ae o rfl rfl) key u hb
 intro a w o u
 exact qk o (Ae o rfl rfl) key u hb
 intro a w o u
 refine qv o (As (Ab o rfl) (congrArg Value.bool K0)) λo=>?_
 iterate 7 refine qn o λo=>?_
 refine qv o (Ad o rfl rfl) λo=>qm o rfl λo=>?_
 iterate 7 refine qn o λo=>?_
 refine qv o (Ad o rfl rfl) λo=>re<|tn<|?_
 exact ⟨true,hm,o.hs,u⟩
 obtain ⟨u0,B1,hm⟩:=bs hm
 rcases bit hm with ⟨P0,hm⟩ | ⟨P0,hm⟩
 have P0':(!u0)=false:=by rw [P0];rfl
 obtain ⟨I1,J1,hm⟩:=bs hm
 refine rg<|qm o rfl λo=>?_
 iterate 2 refine qm o rfl λo=>?_
 refine qv o (An o runUnderlying24 sizeOf48 rfl rfl h9 (SR.oaI E0 (by decide) h9)) λo=>qv o (Af o Er rfl) λo=>qv o (Ag o isAgg9 rfl (PH.le.cell (Lds.le u.ld) (F0 0 _ rfl))) λo=>ls<|cr o call114 (Jq (Ai _) X0) u λu o=>qv o (Gh o runUnderlying4 rfl rfl) λo=>qm o rfl λo=>gr (Fk:=[(0,SL G0 p1 D0),(1,.bool p6),(5,i6 C0),(32,.bool ((p6 != W0) || ((!p6) && (decide (I0.Name≠[])))))]) 21 11 o u ?_ ?_ ?_
 intro hb o key
 iterate 3 refine qn o λo=>?_
 iterate 6 refine ls<|gnu o rfl rfl rfl λa o=>?_
 exact qn o λo=>qk o (Ad o rfl rfl) key u hb
 intro hb o key
 refine qg o (Ab o rfl) λo=>qg o (Az o rfl) λo=>qg o (Ab o rfl) λo=>gr (Fk:=[(0,SL G0 p1 D0),(1,.bool p6),(5,i6 C0),(21,.bool false),(31,.bool ((!p6) && (decide (I0.Name≠[]))))]) 24 7 o u ?_ ?_ ?_
 intro hb o key
 iterate 2 refine qg o (Ab o rfl) λo=>?_
 exact qg o (An o runUnderlying24 sizeOf48 rfl rfl h9 (SR.oaI E0 (by decide) h9)) λo=>qg o (Af o Er rfl) λo=>qg o (Ag o isAgg9 rfl (PH.le.cell (Lds.le u.ld) (F0 0 _ rfl))) λo=>qg o (Cu (m:=I0.Name) (n:=[]) o rfl rfl) λo=>ql o (Ad o rfl rfl) key u hb
 intro hb o key
 iterate 6 refine qn o λo=>?_
 exact ql o (Ae o rfl rfl) key u hb
 intro a w o u
 exact qk o (Ae o rfl rfl) key u hb
 intro a w o u
 refine qv o (As (Ab o rfl) (congrArg Value.bool K0)) λo=>?_
 iterate 2 refine qg o (Ab o rfl) λo=>?_
 refine qg o (An o runUnderlying24 sizeOf48 rfl rfl h9 (SR.oaI E0 (by decide) h9)) λo=>qg o (Af o Ge rfl) λo=>qg o (Ag o isAgg3 rfl (PH.le.cell (Lds.le u.ld) (F0 3 _ rfl))) λo=>ls<|gy o rfl rfl<|cr o call98 (Po (Ai _) B1) u λu o=>qg o (Az o rfl) λo=>qv o (Ae o rfl rfl) λo=>qv o (As (Ab o rfl) (congrArg Value.bool P0')) λo=>?_
 iterate 2 refine qg o (Ab o rfl) λo=>?_
 refine qg o (An o runUnderlying24 sizeOf48 rfl rfl h9 (SR.oaI E0 (by decide) h9)) λo=>qg o (Af o Hf rfl) λo=>qg o (Ag o isAgg46 rfl (PH.le.cell (Lds.le u.ld) (F0 2 _ rfl))) λo=>ls<|gy o rfl rfl<|cr o call44 (JbT (Ai _) C1 (St.srH u E1) J1) u λu o=>qg o (Az o rfl) λo=>qv o (Ae o rfl rfl) λo=>re<|tn<|?_
 exact ⟨(!I1),hm,o.hs,u⟩
 have P0':(!u0)=true:=by rw [P0];rfl
 refine rg<|qm o rfl λo=>?_
 iterate 2 refine qm o rfl λo=>?_
 refine qv o (An o runUnderlying24 sizeOf48 rfl rfl h9 (SR.oaI E0 (by decide) h9)) λo=>qv o (Af o Er rfl) λo=>qv o (Ag o isAgg9 rfl (PH.le.cell (Lds.le u.ld) (F0 0 _ rfl))) λo=>ls<|cr o call114 (Jq (Ai _) X0) u λu o=>qv o (Gh o runUnderlying4 rfl rfl) λo=>qm o rfl λo=>gr (Fk:=[(0,SL G0 p1 D0),(1,.bool p6),(5,i6 C0),(32,.bool ((p6 != W0) || ((!p6) && (decide (I0.Name≠[])))))]) 21 11 o u ?_ ?_ ?_
 intro hb o key
 iterate 3 refine qn o λo=>?_
 iterate 6 refine ls<|gnu o rfl rfl rfl λa o=>?_
 exact qn o λo=>qk o (Ad o rfl rfl) key u hb
 intro hb o key
 refine qg o (Ab o rfl) λo=>qg o (Az o rfl) λo=>qg o (Ab o rfl) λo=>gr (Fk:=[(0,SL G0 p1 D0),(1,.bool p6),(5,i6 C0),(21,.bool false),(31,.bool ((!p6) && (decide (I0.Name≠[]))))]) 24 7 o u ?_ ?_ ?_
 intro hb o key
 iterate 2 refine qg o (Ab o rfl) λo=>?_
 exact qg o (An o runUnderlying24 sizeOf48 rfl rfl h9 (SR.oaI E0 (by decide) h9)) λo=>qg o (Af o Er rfl) λo=>qg o (Ag o isAgg9 rfl (PH.le.cell (Lds.le u.ld) (F0 0 _ rfl))) λo=>qg o (Cu (m:=I0.Name) (n:=[]) o rfl rfl) λo=>ql o (Ad o rfl rfl) key u hb
 intro hb o key
 iterate 6 refine qn o λo=>?_
 exact ql o (Ae o rfl rfl) key u hb
 intro a w o u
 exact qk o (Ae o rfl rfl) key u hb
 intro a w o u
 refine qv o (As (Ab o rfl) (congrArg Value.bool K0)) λo=>?_
 iterate 2 refine qg o (Ab o rfl) λo=>?_
 refine qg o (An o runUnderlying24 sizeOf48 rfl rfl h9 (SR.oaI E0 (by decide) h9)) λo=>qg o (Af o Ge rfl) λo=>qg o (Ag o isAgg3 rfl (PH.le.cell (Lds.le u.ld) (F0 3 _ rfl))) λo=>ls<|gy o rfl rfl<|cr o call98 (Po (Ai _) B1) u λu o=>qg o (Az o rfl) λo=>qv o (Ae o rfl rfl) λo=>qv o (As (Ab o rfl) (congrArg Value.bool P0')) λo=>?_
 iterate 7 refine qn o λo=>?_
 refine qv o (Ad o rfl rfl) λo=>re<|tn<|?_
 exact ⟨true,hm,o.hs,u⟩
 rintro a w ⟨V0,hm,o,u⟩
 unfold Z4v at hm
 rcases bit hm with ⟨Q0,hm⟩ | ⟨Q0,hm⟩
 refine ctv o rfl Q0<|th<|rg<|qa o rfl λo=>re<|tn<|wr<|tr<|br<|tr<|tr<|br<|tr<|?_
 obtain rfl:=si hm
 exact r1 o results100 rfl ⟨rfl,u.keep⟩
 refine cfv o rfl Q0<|wk<|tn<|th<|rg<|qa o rfl λo=>re<|tn<|wb<|lp (α:=Nat×Int) (λgh a w=>match gh with | (M0,T0)=>(Z4x N (Z4u (Z4w N Z4t p1 p6 J0) C0) p1 C0) M0 T0=some r∧Fr 71 [(0,SL G0 p1 D0),(1,.bool p6),(5,i6 C0),(6,i6 T0)] a∧St w0 Nil [H] [] w) (λgh=>gh.1) (N,0) ⟨hm,o.hs,u⟩ ?_
 rintro ⟨M0,T0⟩ a w ⟨hm,o,u⟩
 obtain _ | M0:=M0
 simp [Z4x] at hm
 rw [Z4x] at hm
 refine th<|th<|?_
 obtain ⟨M1,O0,hm⟩:=bs hm
 obtain ⟨P2,O1,Y0⟩:=SR.get E0 O0
 obtain ⟨F2,V1,G2,X1,rfl,I2,j0,J2,K2⟩:=Av O1
 refine rg<|qm o rfl λo=>?_
 iterate 2 refine qm o rfl λo=>?_
 refine qv o (An o runUnderlying24 sizeOf48 rfl rfl O0 (SR.oaI E0 (by decide) O0)) λo=>qv o (Af o Da rfl) λo=>qv o (Ag o isAgg36 rfl (PH.le.cell (Lds.le u.ld) (Y0 1 _ rfl))) λo=>qv o (Ak (α:=Str) (xs:=M1.Regs) o runUnderlying36 rfl) λo=>qv o (Aq o rfl rfl) λo=>re<|?_
 rcases bip hm with ⟨R0,hm⟩ | ⟨R0,hm⟩
 refine tn<|ctv o rfl R0<|wk<|tn<|th<|wb<|th<|?_
 obtain ⟨P1,n0,hm⟩:=bs hm
 obtain ⟨Q1,R1,F1⟩:=SR.get j0 n0
 obtain rfl:Q1=[Ac P1]:=R1
 obtain ⟨Q2,S1,hm⟩:=bs hm
 refine rg<|qm o rfl λo=>qm o rfl λo=>qv o (An o runUnderlying24 sizeOf48 rfl rfl O0 (SR.oaI E0 (by decide) O0)) λo=>qv o (Af o Da rfl) λo=>qv o (Ag o isAgg36 rfl (PH.le.cell (Lds.le u.ld) (Y0 1 _ rfl))) λo=>qm o rfl λo=>qv o (An o runUnderlying36 sizeOf9 rfl rfl n0 (SR.oaI j0 (by decide) n0)) λo=>qv o (Ag o isAgg9 rfl (PH.le.cell (Lds.le u.ld) (F1 0 _ rfl))) λo=>ls<|cr o call114 (Jq (Ai _) S1) u λu o=>qv o (Az o rfl) λo=>re<|?_
 rcases bit hm with ⟨S0,hm⟩ | ⟨S0,hm⟩
 refine tn<|cfv o rfl (by rw [S0];rfl)<|wk<|bn<|tn<|rg<|qm o rfl λo=>qv o (Ap o rfl rfl) λo=>qa o rfl λo=>re<|tn<|?_
 exact ⟨(M0,(IntKind.i64.wrap (T0+1))),⟨hm,o.hs,u⟩,Nat.lt_succ_self _⟩
 refine tn<|ctv o rfl (by rw [S0];rfl)<|th<|rg<|qa o rfl λo=>re<|tn<|wr<|br<|tr<|tr<|br<|br<|tr<|tr<|br<|tr<|?_
 obtain rfl:=si hm
 exact r1 o results100 rfl ⟨rfl,u.keep⟩
 refine tn<|cfv o rfl R0<|we<|tx<|tx<|bx<|bn<|tn<|?_
 exact ⟨hm,o.hs,u⟩
 rintro a w ⟨hm,o,u⟩
 unfold Z4u at hm
 refine rg<|qm o rfl λo=>qv o (Ap o rfl rfl) λo=>qa o rfl λo=>re<|tn<|?_
 exact ⟨(J0,(IntKind.i64.wrap (C0+1))),⟨hm,o.hs,u⟩,Nat.lt_succ_self _⟩
 refine tn<|cfv o rfl U0<|we<|tx<|tx<|bx<|tn<|?_
 exact ⟨hm,o.has trivial,u⟩
 rintro a w ⟨hm,o,u⟩
 unfold Z4t at hm
 refine th<|rg<|qa o rfl λo=>re<|tn<|wr<|?_
 obtain rfl:=si hm
 exact r1 o results100 rfl ⟨rfl,u.keep⟩
set_option maxHeartbeats 4000000 in
theorem JaZ (hH:H.le w0) {cs2:List Value} {p1:api_Prog} (g3:Enc.rep H cs2 p1) {r:Bool} (hm:Z4g N p1=some r):Tot Tryz.prog 57 #[.agg cs2.toArray] w0 (λv w'=>v=.bool r∧Keep Nil w0 w'):=by
 unfold Z4g at hm
 refine fn0 func57 rfl ntmps57 rfl rfl λa o=>?_
 have u:St w0 Nil [H] [] w0:=start1 hH
 obtain ⟨Q0,I0,R0,J0,K0,C0,M0,D0,O0,E0,P0,F0,rfl,G3,S1,j0,n0,C1,E1,U1,V1,I2,J2,D3,u0⟩:=Ar g3
 refine th<|rg<|ls<|Bs (cs:=[SL Q0 p1.Lines I0,SL R0 p1.Vols J0,SL K0 p1.Locks C0,SL M0 p1.Threads D0,SL O0 p1.Recover E0,SL P0 p1.Claims F0].toArray) o rfl u rfl rfl λG0 w a u o=>qa o rfl λo=>re<|tn<|th<|th<|rg<|qa o rfl λo=>re<|tn<|Au (λa w=>(Z4h N p1)=some r∧Fr 77 [(1,PT G0)] a∧St w0 Nil [H] [bk G0 [SL Q0 p1.Lines I0,SL R0 p1.Vols J0,SL K0 p1.Locks C0,SL M0 p1.Threads D0,SL O0 p1.Recover E0,SL P0 p1.Claims F0] 27] w) ?_ ?_
 refine wb<|lp (α:=Nat×Int) (λgh a w=>match gh with | (V0,W0)=>(Z4l N (Z4h N p1) p1) V0 W0=some r∧Fr 77 [(1,PT G0),(3,i6 W0)] a∧St w0 Nil [H] [bk G0 [SL Q0 p1.Lines I0,SL R0 p1.Vols J0,SL K0 p1.Locks C0,SL M0 p1.Threads D0,SL O0 p1.Recover E0,SL P0 p1.Claims F0] 27] w) (λgh=>gh.1) (N,0) ⟨hm,o.has ⟨rfl,rfl,trivial⟩,u⟩ ?_
 rintro ⟨V0,W0⟩ a w ⟨hm,o,u⟩
 obtain _ | V0:=V0
 simp [Z4l] at hm
 rw [Z4l] at hm
 refine th<|th<|rg<|qm o rfl λo=>qv o (Af o Cj rfl) λo=>qv o (Ag o isAgg22 rfl (u.ld.cellB t0 rfl)) λo=>qv o (Ak (α:=(List api_Cell)) (xs:=p1.Lines) o runUnderlying22 rfl) λo=>qv o (Aq o rfl rfl) λo=>re<|?_
 rcases bip hm with ⟨F1,hm⟩ | ⟨F1,hm⟩
 refine tn<|ctv o rfl F1<|wk<|tn<|th<|wb<|th<|Au (λa w=>∃ (X1:Bool),(Z4i (Z4l N (Z4h N p1) p1 V0) W0) X1=some r∧Fr 77 [(1,PT G0),(3,i6 W0),(27,.bool X1)] a∧St w0 Nil [H] [bk G0 [SL Q0 p1.Lines I0,SL R0 p1.Vols J0,SL K0 p1.Locks C0,SL M0 p1.Threads D0,SL O0 p1.Recover E0,SL P0 p1.Claims F0] 27] w) ?_ ?_
 obtain ⟨C2,S0,hm⟩:=bs hm
 obtain ⟨I3,Q2,G1⟩:=SR.get S1 S0
 obtain ⟨E3,B3,rfl,K2,M2⟩:=Q2
 rcases bip hm with ⟨I1,hm⟩ | ⟨I1,hm⟩
 refine rg<|qv o (Af o Cj rfl) λo=>qv o (Ag o isAgg22 rfl (u.ld.cellB t0 rfl)) λo=>qm o rfl λo=>qv o (An o runUnderlying22 sizeOf23 rfl rfl S0 (SR.oaI S1 (by decide) S0)) λo=>qv o (Ag o isAgg23 rfl (PH.le.cell (Lds.le u.ld) (G1 0 _ rfl))) λo=>qv o (Ak (α:=api_Cell) (xs:=C2) o runUnderlying23 rfl) λo=>qv o (Al o rfl rfl) λo=>qv o (As (Ab o rfl) (congrArg Value.bool I1)) λo=>?_
 iterate 7 refine qn o λo=>?_
 refine qv o (Ad o rfl rfl) λo=>re<|tn<|?_
 exact ⟨true,hm,o.hs,u⟩
 obtain ⟨R2,U2,hm⟩:=bs hm
 refine rg<|qv o (Af o Cj rfl) λo=>qv o (Ag o isAgg22 rfl (u.ld.cellB t0 rfl)) λo=>qm o rfl λo=>qv o (An o runUnderlying22 sizeOf23 rfl rfl S0 (SR.oaI S1 (by decide) S0)) λo=>qv o (Ag o isAgg23 rfl (PH.le.cell (Lds.le u.ld) (G1 0 _ rfl))) λo=>qv o (Ak (α:=api_Cell) (xs:=C2) o runUnderlying23 rfl) λo=>qv o (Al o rfl rfl) λo=>qv o (As (Ab o rfl) (congrArg Value.bool I1)) λo=>qg o (Af o Cj rfl) λo=>qg o (Ag o isAgg22 rfl (u.ld.cellB t0 rfl)) λo=>qg o (Ab o rfl) λo=>qg o (An o runUnderlying22 sizeOf23 rfl rfl S0 (SR.oaI S1 (by decide) S0)) λo=>qg o (Ag o isAgg23 rfl (PH.le.cell (Lds.le u.ld) (G1 0 _ rfl))) λo=>ls<|gy o rfl rfl<|cr o call97 (Ka (Ai _) K2 (St.srH u M2) U2) u λu o=>qg o (Az o rfl) λo=>qv o (Ae o rfl rfl) λo=>re<|tn<|?_
 exact ⟨(!R2),hm,o.hs,u⟩
 rintro a w ⟨X1,hm,o,u⟩
 unfold Z4i at hm
 rcases bit hm with ⟨J1,hm⟩ | ⟨J1,hm⟩
 refine ctv o rfl J1<|th<|rg<|qa o rfl λo=>re<|tn<|wr<|br<|tr<|tr<|br<|tr<|?_
 obtain rfl:=si hm
 exact r1 o results57 rfl ⟨rfl,u.keep⟩
 refine cfv o rfl J1<|wk<|bn<|tn<|rg<|qm o rfl λo=>qv o (Ap o rfl rfl) λo=>qa o rfl λo=>re<|tn<|?_
 exact ⟨(V0,(IntKind.i64.wrap (W0+1))),⟨hm,o.has ⟨rfl,rfl,trivial⟩,u⟩,Nat.lt_succ_self _⟩
 refine tn<|cfv o rfl F1<|we<|tx<|tx<|bx<|tn<|?_
 exact ⟨hm,o.has ⟨rfl,trivial⟩,u⟩
 rintro a w ⟨hm,o,u⟩
 unfold Z4h at hm
 refine th<|th<|rg<|qa o rfl λo=>re<|tn<|Au (λa w=>(Z4j N p1)=some r∧Fr 77 [(1,PT G0)] a∧St w0 Nil [H] [bk G0 [SL Q0 p1.Lines I0,SL R0 p1.Vols J0,SL K0 p1.Locks C0,SL M0 p1.Threads D0,SL O0 p1.Recover E0,SL P0 p1.Claims F0] 27] w) ?_ ?_
 refine wb<|lp (α:=Nat×Int) (λgh a w=>match gh with | (X0,Y0)=>(Z4m N (Z4j N p1) p1) X0 Y0=some r∧Fr 77 [(1,PT G0),(4,i6 Y0)] a∧St w0 Nil [H] [bk G0 [SL Q0 p1.Lines I0,SL R0 p1.Vols J0,SL K0 p1.Locks C0,SL M0 p1.Threads D0,SL O0 p1.Recover E0,SL P0 p1.Claims F0] 27] w) (λgh=>gh.1) (N,0) ⟨hm,o.has ⟨rfl,rfl,trivial⟩,u⟩ ?_
 rintro ⟨X0,Y0⟩ a w ⟨hm,o,u⟩
 obtain _ | X0:=X0
 simp [Z4m] at hm
 rw [Z4m] at hm
 refine th<|th<|rg<|qm o rfl λo=>qv o (Af o Em rfl) λo=>qv o (Ag o isAgg25 rfl (u.ld.cellB t0 rfl)) λo=>qv o (Ak (α:=api_Claim) (xs:=p1.Claims) o runUnderlying25 rfl) λo=>qv o (Aq o rfl rfl) λo=>re<|?_
 rcases bip hm with ⟨M1,hm⟩ | ⟨M1,hm⟩
 refine tn<|ctv o rfl M1<|wk<|tn<|th<|wb<|th<|Au (λa w=>∃ (Y1:Bool),(Z4k (Z4m N (Z4j N p1) p1 X0) Y0) Y1=some r∧Fr 77 [(1,PT G0),(4,i6 Y0),(52,.bool Y1)] a∧St w0 Nil [H] [bk G0 [SL Q0 p1.Lines I0,SL R0 p1.Vols J0,SL K0 p1.Locks C0,SL M0 p1.Threads D0,SL O0 p1.Recover E0,SL P0 p1.Claims F0] 27] w) ?_ ?_
 obtain ⟨J3,T0,hm⟩:=bs hm
 obtain ⟨K3,V2,O1⟩:=SR.get u0 T0
 obtain ⟨F3,C3,rfl,O2,P2⟩:=Cn V2
 obtain ⟨E2,F2,hm⟩:=bs hm
 rcases bit hm with ⟨P1,hm⟩ | ⟨P1,hm⟩
 have P1':(!E2)=false:=by rw [P1];rfl
 obtain ⟨W2,X2,hm⟩:=bs hm
 refine rg<|qv o (Af o Em rfl) λo=>qv o (Ag o isAgg25 rfl (u.ld.cellB t0 rfl)) λo=>qm o rfl λo=>qv o (An o runUnderlying25 sizeOf74 rfl rfl T0 (SR.oaI u0 (by decide) T0)) λo=>qv o (Af o Nk rfl) λo=>qv o (Ag o isAgg3 rfl (PH.le.cell (Lds.le u.ld) (O1 1 _ rfl))) λo=>ls<|cr o call98 (Po (Ai _) F2) u λu o=>qv o (Az o rfl) λo=>qv o (As (Ab o rfl) (congrArg Value.bool P1')) λo=>qg o (Af o Em rfl) λo=>qg o (Ag o isAgg25 rfl (u.ld.cellB t0 rfl)) λo=>qg o (Ab o rfl) λo=>qg o (An o runUnderlying25 sizeOf74 rfl rfl T0 (SR.oaI u0 (by decide) T0)) λo=>qg o (Af o Nv rfl) λo=>qg o (Ag o isAgg49 rfl (PH.le.cell (Lds.le u.ld) (O1 0 _ rfl))) λo=>ls<|gy o rfl rfl<|cr o call99 (Rz (Ai _) O2 (St.srH u P2) X2) u λu o=>qg o (Az o rfl) λo=>qv o (Ae o rfl rfl) λo=>re<|tn<|?_
 exact ⟨(!W2),hm,o.hs,u⟩
 have P1':(!E2)=true:=by rw [P1];rfl
 refine rg<|qv o (Af o Em rfl) λo=>qv o (Ag o isAgg25 rfl (u.ld.cellB t0 rfl)) λo=>qm o rfl λo=>qv o (An o runUnderlying25 sizeOf74 rfl rfl T0 (SR.oaI u0 (by decide) T0)) λo=>qv o (Af o Nk rfl) λo=>qv o (Ag o isAgg3 rfl (PH.le.cell (Lds.le u.ld) (O1 1 _ rfl))) λo=>ls<|cr o call98 (Po (Ai _) F2) u λu o=>qv o (Az o rfl) λo=>qv o (As (Ab o rfl) (congrArg Value.bool P1')) λo=>?_
 iterate 8 refine qn o λo=>?_
 refine qv o (Ad o rfl rfl) λo=>re<|tn<|?_
 exact ⟨true,hm,o.hs,u⟩
 rintro a w ⟨Y1,hm,o,u⟩
 unfold Z4k at hm
 rcases bit hm with ⟨Q1,hm⟩ | ⟨Q1,hm⟩
 refine ctv o rfl Q1<|th<|rg<|qa o rfl λo=>re<|tn<|wr<|br<|tr<|tr<|br<|tr<|?_
 obtain rfl:=si hm
 exact r1 o results57 rfl ⟨rfl,u.keep⟩
 refine cfv o rfl Q1<|wk<|bn<|tn<|rg<|qm o rfl λo=>qv o (Ap o rfl rfl) λo=>qa o rfl λo=>re<|tn<|?_
 exact ⟨(X0,(IntKind.i64.wrap (Y0+1))),⟨hm,o.has ⟨rfl,rfl,trivial⟩,u⟩,Nat.lt_succ_self _⟩
 refine tn<|cfv o rfl M1<|we<|tx<|tx<|bx<|tn<|?_
 exact ⟨hm,o.has ⟨rfl,trivial⟩,u⟩
 rintro a w ⟨hm,o,u⟩
 unfold Z4j at hm
 refine th<|?_
 obtain ⟨L3,T1,hm⟩:=bs hm
 rcases bit hm with ⟨U0,hm⟩ | ⟨U0,hm⟩
 obtain ⟨M3,B2,hm⟩:=bs hm
 rcases bit hm with ⟨B1,hm⟩ | ⟨B1,hm⟩
 obtain ⟨O3,G2,hm⟩:=bs hm
 rcases bit hm with ⟨R1,hm⟩ | ⟨R1,hm⟩
 obtain ⟨Y2,A3,hm⟩:=bs hm
 refine rg<|qv o (Af o Ed rfl) λo=>qv o (Ag o isAgg23 rfl (u.ld.cellB t0 rfl)) λo=>ls<|cr o call97 (Ka (Ai _) j0 (St.srH u n0) T1) u λu o=>qv o (As (Ab o rfl) (congrArg Value.bool U0)) λo=>qg o (Af o Ec rfl) λo=>qg o (Ag o isAgg23 rfl (u.ld.cellB t0 rfl)) λo=>ls<|gy o rfl rfl<|cr o call97 (Ka (Ai _) C1 (St.srH u E1) B2) u λu o=>qv o (Ad o rfl rfl) λo=>qv o (As (Ab o rfl) (congrArg Value.bool B1)) λo=>qg o (Af o De rfl) λo=>qg o (Ag o isAgg24 rfl (u.ld.cellB t0 rfl)) λo=>ls<|gy o rfl rfl<|cr o call100 (Vw (Ai _) U1 (St.srH u V1) G2) u λu o=>qv o (Ad o rfl rfl) λo=>qv o (As (Ab o rfl) (congrArg Value.bool R1)) λo=>qg o (Af o Gj rfl) λo=>qg o (Ag o isAgg24 rfl (u.ld.cellB t0 rfl)) λo=>ls<|gy o rfl rfl<|cr o call100 (Vw (Ai _) I2 (St.srH u J2) A3) u λu o=>qv o (Ad o rfl rfl) λo=>qm o rfl λo=>gr (Fk:=[(76,.bool (Y2 && (decide ((p1.Recover.length:Int)≤1))))]) 71 5 o u ?_ ?_ ?_
 intro hb o key
 exact qg o (Af o Gj rfl) λo=>qg o (Ag o isAgg24 rfl (u.ld.cellB t0 rfl)) λo=>qg o (Ak (α:=api_Thread) (xs:=p1.Recover) o runUnderlying24 rfl) λo=>qg o (Cs o rfl rfl) λo=>qk o (Ad o rfl rfl) key u hb
 intro hb o key
 iterate 4 refine qn o λo=>?_
 exact qk o (Ae o rfl rfl) key u hb
 intro a w o u
 refine qa o rfl λo=>re<|tn<|wr<|?_
 obtain rfl:=si hm
 exact r1 o results57 rfl ⟨rfl,u.keep⟩
 refine rg<|qv o (Af o Ed rfl) λo=>qv o (Ag o isAgg23 rfl (u.ld.cellB t0 rfl)) λo=>ls<|cr o call97 (Ka (Ai _) j0 (St.srH u n0) T1) u λu o=>qv o (As (Ab o rfl) (congrArg Value.bool U0)) λo=>qg o (Af o Ec rfl) λo=>qg o (Ag o isAgg23 rfl (u.ld.cellB t0 rfl)) λo=>ls<|gy o rfl rfl<|cr o call97 (Ka (Ai _) C1 (St.srH u E1) B2) u λu o=>qv o (Ad o rfl rfl) λo=>qv o (As (Ab o rfl) (congrArg Value.bool B1)) λo=>qg o (Af o De rfl) λo=>qg o (Ag o isAgg24 rfl (u.ld.cellB t0 rfl)) λo=>ls<|gy o rfl rfl<|cr o call100 (Vw (Ai _) U1 (St.srH u V1) G2) u λu o=>qv o (Ad o rfl rfl) λo=>qv o (As (Ab o rfl) (congrArg Value.bool R1)) λo=>?_
 iterate 3 refine qn o λo=>?_
 refine qv o (Ae o rfl rfl) λo=>qm o rfl λo=>?_
 iterate 4 refine qn o λo=>?_
 refine qv o (Ae o rfl rfl) λo=>qa o rfl λo=>re<|tn<|wr<|?_
 obtain rfl:=si hm
 exact r1 o results57 rfl ⟨rfl,u.keep⟩
 refine rg<|qv o (Af o Ed rfl) λo=>qv o (Ag o isAgg23 rfl (u.ld.cellB t0 rfl)) λo=>ls<|cr o call97 (Ka (Ai _) j0 (St.srH u n0) T1) u λu o=>qv o (As (Ab o rfl) (congrArg Value.bool U0)) λo=>qg o (Af o Ec rfl) λo=>qg o (Ag o isAgg23 rfl (u.ld.cellB t0 rfl)) λo=>ls<|gy o rfl rfl<|cr o call97 (Ka (Ai _) C1 (St.srH u E1) B2) u λu o=>qv o (Ad o rfl rfl) λo=>qv o (As (Ab o rfl) (congrArg Value.bool B1)) λo=>?_
 iterate 3 refine qn o λo=>?_
 refine qv o (Ae o rfl rfl) λo=>qm o rfl λo=>?_
 iterate 3 refine qn o λo=>?_
 refine qv o (Ae o rfl rfl) λo=>qm o rfl λo=>?_
 iterate 4 refine qn o λo=>?_
 refine qv o (Ae o rfl rfl) λo=>qa o rfl λo=>re<|tn<|wr<|?_
 obtain rfl:=si hm
 exact r1 o results57 rfl ⟨rfl,u.keep⟩
 refine rg<|qv o (Af o Ed rfl) λo=>qv o (Ag o isAgg23 rfl (u.ld.cellB t0 rfl)) λo=>ls<|cr o call97 (Ka (Ai _) j0 (St.srH u n0) T1) u λu o=>qv o (As (Ab o rfl) (congrArg Value.bool U0)) λo=>?_
 iterate 3 refine qn o λo=>?_
 refine qv o (Ae o rfl rfl) λo=>qm o rfl λo=>?_
 iterate 3 refine qn o λo=>?_
 refine qv o (Ae o rfl rfl) λo=>qm o rfl λo=>?_
 iterate 3 refine qn o λo=>?_
 refine qv o (Ae o rfl rfl) λo=>qm o rfl λo=>?_
 iterate 4 refine qn o λo=>?_
 refine qv o (Ae o rfl rfl) λo=>qa o rfl λo=>re<|tn<|wr<|?_
 obtain rfl:=si hm
 exact r1 o results57 rfl ⟨rfl,u.keep⟩
theorem Jaa (hH:H.le w0) {cs2:List Value} {p1:api_Prog} (g3:Enc.rep H cs2 p1) {r:(List api_Thread)} (hm:Z5u N p1=some r):Tot Tryz.prog 59 #[.agg cs2.toArray] w0 (λv w'=>∃ (H':PH) (I0:Option Addr) (C0:Nat),v=SL I0 r C0∧r.length≤C0∧SR H' I0 r∧Ext w0 H H'∧H'.le w'∧Keep Nil w0 w'):=by
 unfold Z5u at hm
 refine fn0 func59 rfl ntmps59 rfl rfl λa o=>?_
 have u:St w0 Nil [H] [] w0:=start1 hH
 obtain ⟨j0,J0,n0,K0,M0,D0,O0,E0,P0,F0,Q0,G0,rfl,X1,Y1,G1,I1,J1,M1,O1,R0,P1,S0,Q1,R1⟩:=Ar g3
 refine th<|rg<|ls<|Bs (cs:=[SL j0 p1.Lines J0,SL n0 p1.Vols K0,SL M0 p1.Locks D0,SL O0 p1.Threads E0,SL P0 p1.Recover F0,SL Q0 p1.Claims G0].toArray) o rfl u rfl rfl λB2 w a u o=>qa o rfl λo=>re<|tn<|th<|?_
 obtain ⟨u0,B1,hm⟩:=bs hm
 refine rg<|ls<|Bl (e:=48) (sz:=4) [] o rfl u rfl rfl rfl (λw=>by kernel_rfl) λC2 w a u o=>?_
 have T0:Rows (α:=api_Thread) H [] []:=.nil
 refine qv o (Af o De rfl) λo=>qv o (Ag o isAgg24 rfl (u.ld.cellB t1 rfl)) λo=>?_
 obtain ⟨us38,hd39,hu40⟩:=id R0
 refine ls<|Cl (α:=api_Thread) (xs:=[]) (ys:=p1.Threads) o rfl u underlying24 Jh rfl (by decide) rfl rfl rfl t0 T0 (u.rdH t0 hd39) hu40 B1 λS1 E1 T1 w a U0 hU o=>?_
 replace u:=hU _ .head
 refine qa o rfl λo=>re<|tn<|th<|?_
 obtain ⟨E2,C1,hm⟩:=bs hm
 refine rg<|qm o rfl λo=>qv o (Af o Gj rfl) λo=>qv o (Ag o isAgg24 rfl (u.ld.cellB t1 rfl)) λo=>?_
 obtain ⟨us47,hd48,hu49⟩:=id S0
 refine ls<|Cl (α:=api_Thread) (xs:=u0) (ys:=p1.Recover) o rfl u underlying24 Jh rfl (by decide) rfl rfl rfl t0 U0 (u.rdH t0 hd48) hu49 C1 λU1 F1 V1 w a V0 hU o=>?_
 replace u:=hU _ .head
 refine qa o rfl λo=>re<|tn<|wr<|?_
 obtain ⟨H53,W0,X0,Y0,u⟩:=St.frzS u .head V0
 obtain rfl:=si hm
 exact r1 o results59 rfl ⟨H53,_,_,rfl,Y0,X0,W0,(St.le u),u.keep⟩
set_option maxHeartbeats 4000000 in
theorem Jbx (hH:H.le w0) {cs2:List Value} {p1:api_Prog} (g3:Enc.rep H cs2 p1) {r:Bool} (hm:Z5v N p1=some r):Tot Tryz.prog 58 #[.agg cs2.toArray] w0 (λv w'=>v=.bool r∧Keep Nil w0 w'):=by
 unfold Z5v at hm
 refine fn0 func58 rfl ntmps58 rfl rfl λa o=>?_
 have u:St w0 Nil [H] [] w0:=start1 hH
 obtain ⟨Q0,I0,R0,J0,K0,D0,M0,E0,O0,F0,P0,G0,rfl,C2,u0,I1,J1,M1,O1,P1,Q1,R1,S1,T1,U1⟩:=Ar g3
 refine th<|rg<|ls<|Bs (cs:=[SL Q0 p1.Lines I0,SL R0 p1.Vols J0,SL K0 p1.Locks D0,SL M0 p1.Threads E0,SL O0 p1.Recover F0,SL P0 p1.Claims G0].toArray) o rfl u rfl rfl λC0 w a u o=>qa o rfl λo=>re<|tn<|th<|th<|rg<|qa o rfl λo=>re<|tn<|Au (λa w=>(Z5w N p1)=some r∧Fr 69 [(1,PT C0)] a∧St w0 Nil [H] [bk C0 [SL Q0 p1.Lines I0,SL R0 p1.Vols J0,SL K0 p1.Locks D0,SL M0 p1.Threads E0,SL O0 p1.Recover F0,SL P0 p1.Claims G0] 27] w) ?_ ?_
 refine wb<|lp (α:=Nat×Int) (λgh a w=>match gh with | (S0,j0)=>(Z5y N (Z5w N p1) p1) S0 j0=some r∧Fr 69 [(1,PT C0),(3,i6 j0)] a∧St w0 Nil [H] [bk C0 [SL Q0 p1.Lines I0,SL R0 p1.Vols J0,SL K0 p1.Locks D0,SL M0 p1.Threads E0,SL O0 p1.Recover F0,SL P0 p1.Claims G0] 27] w) (λgh=>gh.1) (N,0) ⟨hm,o.has ⟨rfl,rfl,trivial⟩,u⟩ ?_
 rintro ⟨S0,j0⟩ a w ⟨hm,o,u⟩
 obtain _ | S0:=S0
 simp [Z5y] at hm
 rw [Z5y] at hm
 refine th<|th<|rg<|qm o rfl λo=>qv o (Af o Cj rfl) λo=>qv o (Ag o isAgg22 rfl (u.ld.cellB t0 rfl)) λo=>qv o (Ak (α:=(List api_Cell)) (xs:=p1.Lines) o runUnderlying22 rfl) λo=>qv o (Aq o rfl rfl) λo=>re<|?_
 rcases bip hm with ⟨U0,hm⟩ | ⟨U0,hm⟩
 refine tn<|ctv o rfl U0<|wk<|tn<|th<|wb<|th<|?_
 obtain ⟨E2,B1,hm⟩:=bs hm
 obtain ⟨C3,F2,V1⟩:=SR.get u0 B1
 obtain ⟨P2,K2,rfl,Q2,R2⟩:=F2
 refine rg<|qv o (Af o Cj rfl) λo=>qv o (Ag o isAgg22 rfl (u.ld.cellB t0 rfl)) λo=>qm o rfl λo=>qv o (An o runUnderlying22 sizeOf23 rfl rfl B1 (SR.oaI u0 (by decide) B1)) λo=>qv o (Ag o isAgg23 rfl (PH.le.cell (Lds.le u.ld) (V1 0 _ rfl))) λo=>qv o (Ak (α:=api_Cell) (xs:=E2) o runUnderlying23 rfl) λo=>qv o (Be o rfl rfl) λo=>re<|?_
 rcases bip hm with ⟨V0,hm⟩ | ⟨V0,hm⟩
 refine tn<|ctv o rfl V0<|th<|rg<|qa o rfl λo=>re<|tn<|wr<|br<|tr<|tr<|br<|tr<|?_
 obtain rfl:=si hm
 exact r1 o results58 rfl ⟨rfl,u.keep⟩
 refine tn<|cfv o rfl V0<|wk<|bn<|tn<|rg<|qm o rfl λo=>qv o (Ap o rfl rfl) λo=>qa o rfl λo=>re<|tn<|?_
 exact ⟨(S0,(IntKind.i64.wrap (j0+1))),⟨hm,o.has ⟨rfl,rfl,trivial⟩,u⟩,Nat.lt_succ_self _⟩
 refine tn<|cfv o rfl U0<|we<|tx<|tx<|bx<|tn<|?_
 exact ⟨hm,o.has ⟨rfl,trivial⟩,u⟩
 rintro a w ⟨hm,o,u⟩
 unfold Z5w at hm
 refine th<|?_
 obtain ⟨C1,G2,hm⟩:=bs hm
 refine rg<|qv o (Ay o Tryz.isAgg27 Tryz.sizeOf27 rfl rfl (u.ld.cellsB t0)) λo=>ls<|c1 o rfl call59 (Jaa (St.le u) (show Enc.rep (α:=api_Prog) H [SL Q0 p1.Lines I0,SL R0 p1.Vols J0,SL K0 p1.Locks D0,SL M0 p1.Threads E0,SL O0 p1.Recover F0,SL P0 p1.Claims G0] p1 from ⟨_,_,rfl,⟨_,_,rfl,C2,u0⟩,⟨_,_,rfl,⟨_,_,rfl,I1,J1⟩,⟨_,_,rfl,⟨_,_,rfl,M1,O1⟩,⟨_,_,rfl,⟨_,_,rfl,P1,Q1⟩,⟨_,_,rfl,⟨_,_,rfl,R1,S1⟩,⟨_,_,rfl,T1,U1⟩⟩⟩⟩⟩⟩) G2) ⟨rfl,trivial⟩ (λv w a hR o=>?_)
 obtain ⟨H45,X1,G1,rfl,U2,E1,W0,Y1,hk⟩:=hR
 obtain ⟨u,W0⟩:=And.intro (St.passH u hk W0 Y1) (St.extc u W0)
 refine qa o rfl λo=>re<|tn<|th<|th<|rg<|qa o rfl λo=>re<|tn<|Au (λa w=>(Z5x p1)=some r∧Fr 69 [(1,PT C0)] a∧St w0 Nil [H45] [bk C0 [SL Q0 p1.Lines I0,SL R0 p1.Vols J0,SL K0 p1.Locks D0,SL M0 p1.Threads E0,SL O0 p1.Recover F0,SL P0 p1.Claims G0] 27] w) ?_ ?_
 refine wb<|lp (α:=Nat×Int) (λgh a w=>match gh with | (T0,n0)=>(Z5z N (Z5x p1) C1) T0 n0=some r∧Fr 69 [(1,PT C0),(4,SL X1 C1 G1),(5,i6 n0)] a∧St w0 Nil [H45] [bk C0 [SL Q0 p1.Lines I0,SL R0 p1.Vols J0,SL K0 p1.Locks D0,SL M0 p1.Threads E0,SL O0 p1.Recover F0,SL P0 p1.Claims G0] 27] w) (λgh=>gh.1) (N,0) ⟨hm,o.hs,u⟩ ?_
 rintro ⟨T0,n0⟩ a w ⟨hm,o,u⟩
 obtain _ | T0:=T0
 simp [Z5z] at hm
 rw [Z5z] at hm
 refine th<|th<|rg<|qm o rfl λo=>qm o rfl λo=>qv o (Ak (α:=api_Thread) (xs:=C1) o runUnderlying24 rfl) λo=>qv o (Aq o rfl rfl) λo=>re<|?_
 rcases bip hm with ⟨X0,hm⟩ | ⟨X0,hm⟩
 refine tn<|ctv o rfl X0<|wk<|tn<|th<|wb<|th<|?_
 obtain ⟨I2,F1,hm⟩:=bs hm
 obtain ⟨D3,J2,B2⟩:=SR.get E1 F1
 obtain ⟨V2,M2,W2,O2,rfl,X2,Y2,A3,B3⟩:=Av J2
 refine rg<|qm o rfl λo=>qm o rfl λo=>qv o (An o runUnderlying24 sizeOf48 rfl rfl F1 (SR.oaI E1 (by decide) F1)) λo=>qv o (Af o Da rfl) λo=>qv o (Ag o isAgg36 rfl (PH.le.cell (Lds.le u.ld) (B2 1 _ rfl))) λo=>qv o (Ak (α:=Str) (xs:=I2.Regs) o runUnderlying36 rfl) λo=>qv o (Be o rfl rfl) λo=>re<|?_
 rcases bip hm with ⟨Y0,hm⟩ | ⟨Y0,hm⟩
 refine tn<|ctv o rfl Y0<|th<|rg<|qa o rfl λo=>re<|tn<|wr<|br<|tr<|tr<|br<|tr<|?_
 obtain rfl:=si hm
 exact r1 o results58 rfl ⟨rfl,u.keep⟩
 refine tn<|cfv o rfl Y0<|wk<|bn<|tn<|rg<|qm o rfl λo=>qv o (Ap o rfl rfl) λo=>qa o rfl λo=>re<|tn<|?_
 exact ⟨(T0,(IntKind.i64.wrap (n0+1))),⟨hm,o.hs,u⟩,Nat.lt_succ_self _⟩
 refine tn<|cfv o rfl X0<|we<|tx<|tx<|bx<|tn<|?_
 exact ⟨hm,o.has ⟨rfl,trivial⟩,u⟩
 rintro a w ⟨hm,o,u⟩
 unfold Z5x at hm
 refine th<|rg<|qv o (Af o Cj rfl) λo=>qv o (Ag o isAgg22 rfl (u.ld.cellB t0 rfl)) λo=>qv o (Ak (α:=(List api_Cell)) (xs:=p1.Lines) o runUnderlying22 rfl) λo=>qv o (Be o rfl rfl) λo=>qm o rfl λo=>gr (Fk:=[(1,PT C0),(44,.bool ((decide (4 < (p1.Lines.length:Int))) || (decide (4 < (p1.Vols.length:Int)))))]) 39 5 o u ?_ ?_ ?_
 intro hb o key
 iterate 4 refine qn o λo=>?_
 exact qk o (Ad o rfl rfl) key u hb
 intro hb o key
 exact qg o (Af o Ed rfl) λo=>qg o (Ag o isAgg23 rfl (u.ld.cellB t0 rfl)) λo=>qg o (Ak (α:=api_Cell) (xs:=p1.Vols) o runUnderlying23 rfl) λo=>qg o (Be o rfl rfl) λo=>qk o (Ae o rfl rfl) key u hb
 intro a w o u
 refine qm o rfl λo=>gr (Fk:=[(1,PT C0),(50,.bool (((decide (4 < (p1.Lines.length:Int))) || (decide (4 < (p1.Vols.length:Int)))) || (decide (2 < (p1.Locks.length:Int)))))]) 45 5 o u ?_ ?_ ?_
 intro hb o key
 iterate 4 refine qn o λo=>?_
 exact qk o (Ad o rfl rfl) key u hb
 intro hb o key
 exact qg o (Af o Ec rfl) λo=>qg o (Ag o isAgg23 rfl (u.ld.cellB t0 rfl)) λo=>qg o (Ak (α:=api_Cell) (xs:=p1.Locks) o runUnderlying23 rfl) λo=>qg o (Be o rfl rfl) λo=>qk o (Ae o rfl rfl) key u hb
 intro a w o u
 refine qm o rfl λo=>gr (Fk:=[(1,PT C0),(56,.bool ((((decide (4 < (p1.Lines.length:Int))) || (decide (4 < (p1.Vols.length:Int)))) || (decide (2 < (p1.Locks.length:Int)))) || (decide ((p1.Threads.length:Int) < 1))))]) 51 5 o u ?_ ?_ ?_
 intro hb o key
 iterate 4 refine qn o λo=>?_
 exact qk o (Ad o rfl rfl) key u hb
 intro hb o key
 exact qg o (Af o De rfl) λo=>qg o (Ag o isAgg24 rfl (u.ld.cellB t0 rfl)) λo=>qg o (Ak (α:=api_Thread) (xs:=p1.Threads) o runUnderlying24 rfl) λo=>qg o (Aq o rfl rfl) λo=>qk o (Ae o rfl rfl) key u hb
 intro a w o u
 refine qm o rfl λo=>gr (Fk:=[(1,PT C0),(62,.bool (((((decide (4 < (p1.Lines.length:Int))) || (decide (4 < (p1.Vols.length:Int)))) || (decide (2 < (p1.Locks.length:Int)))) || (decide ((p1.Threads.length:Int) < 1))) || (decide (3 < (p1.Threads.length:Int)))))]) 57 5 o u ?_ ?_ ?_
 intro hb o key
 iterate 4 refine qn o λo=>?_
 exact qk o (Ad o rfl rfl) key u hb
 intro hb o key
 exact qg o (Af o De rfl) λo=>qg o (Ag o isAgg24 rfl (u.ld.cellB t0 rfl)) λo=>qg o (Ak (α:=api_Thread) (xs:=p1.Threads) o runUnderlying24 rfl) λo=>qg o (Be o rfl rfl) λo=>qk o (Ae o rfl rfl) key u hb
 intro a w o u
 refine qm o rfl λo=>gr (Fk:=[(68,.bool ((((((decide (4 < (p1.Lines.length:Int))) || (decide (4 < (p1.Vols.length:Int)))) || (decide (2 < (p1.Locks.length:Int)))) || (decide ((p1.Threads.length:Int) < 1))) || (decide (3 < (p1.Threads.length:Int)))) || (decide (4 < (p1.Claims.length:Int)))))]) 63 5 o u ?_ ?_ ?_
 intro hb o key
 iterate 4 refine qn o λo=>?_
 exact qk o (Ad o rfl rfl) key u hb
 intro hb o key
 exact qg o (Af o Em rfl) λo=>qg o (Ag o isAgg25 rfl (u.ld.cellB t0 rfl)) λo=>qg o (Ak (α:=api_Claim) (xs:=p1.Claims) o runUnderlying25 rfl) λo=>qg o (Be o rfl rfl) λo=>qk o (Ae o rfl rfl) key u hb
 intro a w o u
 refine qa o rfl λo=>re<|tn<|wr<|?_
 obtain rfl:=si hm
 exact r1 o results58 rfl ⟨rfl,u.keep⟩
theorem Jco:∀ (N:Nat) {w0:World} {H:PH} (hH:H.le w0) {K0:Option Addr} {D0:Nat} {p1:(List api_Stmt)} (E0:p1.length≤D0) (F0:SR H K0 p1) {p6:Int} {r:Int} (hm:Z6g N p1 p6=some r),Tot Tryz.prog 60 #[SL K0 p1 D0,i6 p6] w0 (λv w'=>v=i6 r∧Keep Nil w0 w'):=by
 intro N
 induction N with
  | zero=>intros;rename_i hm;simp [Z6g] at hm
  | succ N ih=>
 intro w0 H hH K0 D0 p1 E0 F0 p6 r hm
 rw [Z6g] at hm
 refine fn0 func60 rfl ntmps60 rfl rfl λa o=>?_
 have u:St w0 Nil [H] [] w0:=start1 hH
 refine th<|rg<|qa o rfl λo=>re<|tn<|th<|th<|rg<|qm o rfl λo=>qv o (Ak (α:=api_Stmt) (xs:=p1) o runUnderlying46 rfl) λo=>qv o (Al o rfl rfl) λo=>re<|?_
 rcases bip hm with ⟨M0,hm⟩ | ⟨M0,hm⟩
 refine tn<|ctv o rfl M0<|th<|rg<|qa o rfl λo=>re<|tn<|wr<|tr<|?_
 obtain rfl:=si hm
 exact r1 o results60 rfl ⟨rfl,u.keep⟩
 refine tn<|cfv o rfl M0<|wk<|tn<|th<|?_
 obtain ⟨C0,h9,hm⟩:=bs hm
 obtain ⟨Q1,u0,U0⟩:=SR.get F0 h9
 obtain ⟨V0,P0,W0,Q0,rfl,G1,I1,J1,M1⟩:=Bn u0
 refine rg<|qm o rfl λo=>qv o (An o runUnderlying46 sizeOf51 rfl rfl h9 (SR.oaI F0 (by decide) h9)) λo=>qv o (Ay o isAgg51 sizeOf51 rfl rfl (λj v hj=>PH.le.cell (Lds.le u.ld) (U0 j v hj))) λo=>qm o rfl λo=>ls<|Aw (cs:=[i6 0,Ac [],Ac [],.slice none 0 0,.slice none 0 0,i6 0,i6 0,i6 0,i6 0].toArray) o rfl u zeroValue51 rfl λR0 w a u o=>ls<|Ba o u sizeOf51 rfl rfl rfl rfl (Am rfl) .head λw u=>qa o rfl λo=>re<|tn<|th<|th<|rg<|qv o (Af o Cg rfl) λo=>qv o (Ag o isAgg3 rfl (u.ld.cellB t0 rfl)) λo=>qv o (Al o rfl rfl) λo=>re<|tn<|Au (λa w=>∃ (O0:Int),(Z6h (Z6g N) p1 p6 C0) O0=some r∧Fr 46 [(0,SL K0 p1 D0),(1,i6 p6),(5,PT R0),(6,i6 O0)] a∧St w0 Nil [H] [bk R0 [i6 C0.Kind,Ac C0.Reg,Ac C0.Name,SL V0 C0.E P0,SL W0 C0.F Q0,i6 C0.N,i6 C0.Body,i6 C0.Else,i6 C0.At] 51] w) ?_ ?_
 rcases bip hm with ⟨G0,hm⟩ | ⟨G0,hm⟩
 refine ctv o rfl G0<|rg<|qm o rfl λo=>qv o (Af o Gk rfl) λo=>qv o (Ag o isAgg3 rfl (u.ld.cellB t0 rfl)) λo=>qv o (Vm o rfl rfl) λo=>qa o rfl λo=>re<|tn<|?_
 exact ⟨(IntKind.i64.wrap (p6 * C0.N)),hm,o.hs,u⟩
 refine cfv o rfl G0<|wk<|tn<|?_
 exact ⟨p6,hm,o.hs,u⟩
 rintro a w ⟨O0,hm,o,u⟩
 unfold Z6h at hm
 refine th<|th<|rg<|qm o rfl λo=>qv o (Be o rfl rfl) λo=>re<|?_
 rcases bip hm with ⟨I0,hm⟩ | ⟨I0,hm⟩
 refine tn<|ctv o rfl I0<|th<|rg<|qv o (Af o En rfl) λo=>qv o (Ag o isAgg3 rfl (u.ld.cellB t0 rfl)) λo=>qa o rfl λo=>re<|tn<|wr<|tr<|?_
 obtain rfl:=si hm
 exact r1 o results60 rfl ⟨rfl,u.keep⟩
 refine tn<|cfv o rfl I0<|wk<|tn<|th<|rg<|qv o (Af o Do rfl) λo=>qv o (Ag o isAgg3 rfl (u.ld.cellB t0 rfl)) λo=>qv o (Ap o rfl rfl) λo=>qv o (Af o Dw rfl) λo=>qv o (Ag o isAgg3 rfl (u.ld.cellB t0 rfl)) λo=>qv o (Ap o rfl rfl) λo=>qa o rfl λo=>re<|tn<|th<|?_
 obtain ⟨R1,S0,hm⟩:=bs hm
 obtain ⟨O1,E1,e28,e29,X0,Y0⟩:=SR.sub (sz:=9) F0 E0 rfl S0
 obtain ⟨S1,B1,hm⟩:=bs hm
 refine rg<|qm o rfl λo=>qm o rfl λo=>qv o (Hd (xs:=p1) (vl:=1) (vh:=(IntKind.i64.wrap ((IntKind.i64.wrap (1+C0.Body))+C0.Else))) o runUnderlying46 sizeOf51 rfl E0 rfl rfl S0 e28 e29) λo=>qm o rfl λo=>ls<|cr o call60 (ih (Ai _) X0 (St.srH u Y0) B1) u λu o=>qa o rfl λo=>re<|tn<|th<|th<|rg<|qm o rfl λo=>qv o (Bi o rfl rfl) λo=>re<|?_
 rcases bip hm with ⟨J0,hm⟩ | ⟨J0,hm⟩
 refine tn<|ctv o rfl J0<|th<|rg<|qm o rfl λo=>qa o rfl λo=>re<|tn<|wr<|tr<|?_
 obtain rfl:=si hm
 exact r1 o results60 rfl ⟨rfl,u.keep⟩
 refine tn<|cfv o rfl J0<|wk<|tn<|th<|?_
 obtain ⟨T1,T0,hm⟩:=bs hm
 obtain ⟨P1,F1,e39,e40,j0,n0⟩:=SR.sub (sz:=9) F0 E0 rfl T0
 obtain ⟨U1,C1,hm⟩:=bs hm
 refine rg<|qm o rfl λo=>qm o rfl λo=>qv o (Hd (xs:=p1) (vl:=(IntKind.i64.wrap ((IntKind.i64.wrap (1+C0.Body))+C0.Else))) (vh:=(p1.length:Int)) o runUnderlying46 sizeOf51 rfl E0 rfl rfl T0 e39 e40) λo=>qm o rfl λo=>ls<|cr o call60 (ih (Ai _) j0 (St.srH u n0) C1) u λu o=>qa o rfl λo=>re<|tn<|wr<|?_
 obtain rfl:=si hm
 exact r1 o results60 rfl ⟨rfl,u.keep⟩
theorem Tv (hH:H.le w0) {cs2:List Value} {p1:api_Prog} (g3:Enc.rep H cs2 p1) {r:(List api_Cell)} (hm:Z4y N p1=some r):Tot Tryz.prog 67 #[.agg cs2.toArray] w0 (λv w'=>∃ (I1:Option Addr) (u0:Nat) (J1:List Value),v=SL I1 r u0∧(∀ h,Rows h J1 r)∧Fresh w0 (sla 53 3 I1 r.length u0 J1) w'):=by
 unfold Z4y at hm
 refine fn0 func67 rfl ntmps67 rfl rfl λa o=>?_
 have u:St w0 Nil [H] [] w0:=start1 hH
 obtain ⟨B1,Q0,C1,R0,S0,F0,T0,G0,U0,I0,V0,J0,rfl,C3,M1,K2,O1,M2,O2,P2,Q2,R2,U2,V2,W2⟩:=Ar g3
 refine th<|rg<|ls<|Bs (cs:=[SL B1 p1.Lines Q0,SL C1 p1.Vols R0,SL S0 p1.Locks F0,SL T0 p1.Threads G0,SL U0 p1.Recover I0,SL V0 p1.Claims J0].toArray) o rfl u rfl rfl λj0 w a u o=>qa o rfl λo=>re<|tn<|th<|rg<|ls<|Bl (e:=53) (sz:=3) [] o rfl u rfl rfl rfl (λw=>by kernel_rfl) λY1 w a u o=>?_
 have P1:Rows (α:=api_Cell) H [] []:=.nil
 refine qa o rfl λo=>re<|tn<|th<|th<|rg<|qa o rfl λo=>re<|tn<|Au (λa w=>∃ (E0:(List api_Cell)) (W0:Option Addr) (K0:Nat) (X0:List Value),(Z4z p1) E0=some r∧Fr 24 [(1,PT j0),(3,SL W0 E0 K0)] a∧St w0 Nil [H] [bk j0 [SL B1 p1.Lines Q0,SL C1 p1.Vols R0,SL S0 p1.Locks F0,SL T0 p1.Threads G0,SL U0 p1.Recover I0,SL V0 p1.Claims J0] 27,sla 53 3 W0 E0.length K0 X0] w∧Rows H X0 E0) ?_ ?_
 replace u:=u.pk [1,0] rfl
 refine wb<|lp (α:=Nat×(List api_Cell)×Int) (λgh a w=>match gh with | (P0,D0,n0)=>∃ (M0:Option Addr) (C0:Nat) (O0:List Value),(Z50 N (Z4z p1) p1) P0 D0 n0=some r∧Fr 24 [(1,PT j0),(3,SL M0 D0 C0),(4,i6 n0)] a∧St w0 Nil [H] [bk j0 [SL B1 p1.Lines Q0,SL C1 p1.Vols R0,SL S0 p1.Locks F0,SL T0 p1.Threads G0,SL U0 p1.Recover I0,SL V0 p1.Claims J0] 27,sla 53 3 M0 D0.length C0 O0] w∧Rows H O0 D0) (λgh=>gh.1) (N,[],0) ⟨(some ⟨Y1,0,none⟩),0,[],hm,o.hs,u,P1⟩ ?_
 rintro ⟨P0,D0,n0⟩ a w ⟨M0,C0,O0,hm,o,u,E1⟩
 obtain _ | P0:=P0
 simp [Z50] at hm
 rw [Z50] at hm
 refine th<|th<|rg<|qm o rfl λo=>qv o (Af o Cj rfl) λo=>qv o (Ag o isAgg22 rfl (u.ld.cellB t0 rfl)) λo=>qv o (Ak (α:=(List api_Cell)) (xs:=p1.Lines) o runUnderlying22 rfl) λo=>qv o (Aq o rfl rfl) λo=>re<|?_
 rcases bip hm with ⟨Y0,hm⟩ | ⟨Y0,hm⟩
 refine tn<|ctv o rfl Y0<|wk<|tn<|th<|wb<|?_
 obtain ⟨B2,F1,hm⟩:=bs hm
 obtain ⟨D3,C2,Q1⟩:=SR.get M1 F1
 obtain ⟨X2,I2,rfl,Y2,R1⟩:=C2
 obtain ⟨E2,F2,hm⟩:=bs hm
 refine rg<|qm o rfl λo=>qv o (Af o Cj rfl) λo=>qv o (Ag o isAgg22 rfl (u.ld.cellB t0 rfl)) λo=>qm o rfl λo=>qv o (An o runUnderlying22 sizeOf23 rfl rfl F1 (SR.oaI M1 (by decide) F1)) λo=>qv o (Ag o isAgg23 rfl (PH.le.cell (Lds.le u.ld) (Q1 0 _ rfl))) λo=>?_
 obtain ⟨us48,hd49,hu50⟩:=id R1
 refine ls<|Cl (α:=api_Cell) (xs:=D0) (ys:=B2) o rfl u underlying23 Hb rfl (by decide) rfl rfl rfl t1 E1 (u.rdH t0 hd49) hu50 F2 λS1 G1 T1 w a U1 hU o=>?_
 replace u:=hU _ (.tail .head)
 refine qa o rfl λo=>re<|bn<|tn<|rg<|qm o rfl λo=>qv o (Ap o rfl rfl) λo=>qa o rfl λo=>re<|tn<|?_
 exact ⟨(P0,E2,(IntKind.i64.wrap (n0+1))),⟨S1,G1,T1,hm,o.hs,u,U1⟩,Nat.lt_succ_self _⟩
 refine tn<|cfv o rfl Y0<|we<|tx<|tx<|bx<|tn<|?_
 exact ⟨D0,M0,C0,O0,hm,o.has ⟨rfl,rfl,trivial⟩,u,E1⟩
 rintro a w ⟨E0,W0,K0,X0,hm,o,u,V1⟩
 unfold Z4z at hm
 refine th<|?_
 obtain ⟨E3,G2,hm⟩:=bs hm
 refine rg<|qm o rfl λo=>qv o (Af o Ed rfl) λo=>qv o (Ag o isAgg23 rfl (u.ld.cellB t0 rfl)) λo=>?_
 obtain ⟨us57,hd58,hu59⟩:=id O1
 refine ls<|Cl (α:=api_Cell) (xs:=E0) (ys:=p1.Vols) o rfl u underlying23 Hb rfl (by decide) rfl rfl rfl t1 V1 (u.rdH t0 hd58) hu59 G2 λA3 J2 B3 w a X1 hU o=>?_
 replace u:=hU _ (.tail .head)
 refine qa o rfl λo=>re<|tn<|wr<|?_
 obtain rfl:=si hm
 exact r1 o results67 rfl ⟨_,_,_,rfl,(λ_=>Rows.ind X1),u.endFresh t1⟩
theorem Tw (hH:H.le w0) {R0:Option Addr} {M0:Nat} {p1:(List api_Cell)} (O1:p1.length≤M0) (X0:SR H R0 p1) {r:(List Str)} (hm:Z5k N p1=some r):Tot Tryz.prog 66 #[SL R0 p1 M0] w0 (λv w'=>∃ (Y0:Option Addr) (S0:Nat) (j0:List Value),v=SL Y0 r S0∧(∀ h,Rows h j0 r)∧Fresh w0 (sla 9 1 Y0 r.length S0 j0) w'):=by
 unfold Z5k at hm
 refine fn0 func66 rfl ntmps66 rfl rfl λa o=>?_
 have u:St w0 Nil [H] [] w0:=start1 hH
 refine th<|rg<|qa o rfl λo=>re<|tn<|th<|rg<|ls<|Bl (e:=9) (sz:=1) [] o rfl u rfl rfl rfl (λw=>by kernel_rfl) λb7 w a u o=>?_
 have G1:Rows (α:=Str) H [] []:=.nil
 refine qa o rfl λo=>re<|tn<|th<|th<|rg<|qa o rfl λo=>re<|tn<|Au (λa w=>∃ (I0:(List Str)) (O0:Option Addr) (E0:Nat) (P0:List Value),Z5l I0=some r∧Fr 21 [(3,SL O0 I0 E0)] a∧St w0 Nil [H] [sla 9 1 O0 I0.length E0 P0] w∧Rows H P0 I0) ?_ ?_
 refine wb<|lp (α:=Nat×(List Str)×Int) (λgh a w=>match gh with | (J0,D0,Q0)=>∃ (F0:Option Addr) (C0:Nat) (G0:List Value),(Z5m N Z5l p1) J0 D0 Q0=some r∧Fr 21 [(0,SL R0 p1 M0),(3,SL F0 D0 C0),(4,i6 Q0)] a∧St w0 Nil [H] [sla 9 1 F0 D0.length C0 G0] w∧Rows H G0 D0) (λgh=>gh.1) (N,[],0) ⟨(some ⟨b7,0,none⟩),0,[],hm,o.hs,u,G1⟩ ?_
 rintro ⟨J0,D0,Q0⟩ a w ⟨F0,C0,G0,hm,o,u,T0⟩
 obtain _ | J0:=J0
 simp [Z5m] at hm
 rw [Z5m] at hm
 refine th<|th<|rg<|qm o rfl λo=>qm o rfl λo=>qv o (Ak (α:=api_Cell) (xs:=p1) o runUnderlying23 rfl) λo=>qv o (Aq o rfl rfl) λo=>re<|?_
 rcases bip hm with ⟨U0,hm⟩ | ⟨U0,hm⟩
 refine tn<|ctv o rfl U0<|wk<|tn<|th<|wb<|?_
 obtain ⟨K0,V0,hm⟩:=bs hm
 obtain ⟨P1,I1,n0⟩:=SR.get X0 V0
 obtain rfl:=Bj I1
 obtain ⟨J1,M1,hm⟩:=bs hm
 refine rg<|qm o rfl λo=>?_
 iterate 2 refine qm o rfl λo=>?_
 refine qv o (An o runUnderlying23 sizeOf53 rfl rfl V0 (SR.oaI X0 (by decide) V0)) λo=>qv o (Af o Ep rfl) λo=>qv o (Ag o isAgg9 rfl (PH.le.cell (Lds.le u.ld) (n0 0 _ rfl))) λo=>ls<|Bl (e:=9) (sz:=1) [Ac K0.Name] o rfl u rfl rfl rfl (λw=>by kernel_rfl) λQ1 w a u o=>?_
 have u0:Rows (α:=Str) H [Ac K0.Name] ([K0.Name]:List Str):=(.cons (c:=[Ac K0.Name]) rfl .nil)
 refine ls<|Cl (α:=Str) (xs:=D0) (ys:=([K0.Name]:List Str)) o rfl u underlying36 Rs rfl (by decide) rfl rfl rfl t1 T0 (u.rdO t0) u0 M1 λB1 W0 C1 w a E1 hU o=>?_
 replace u:=hU _ (.tail .head)
 replace u:=u.drop .head
 refine qa o rfl λo=>re<|bn<|tn<|rg<|qm o rfl λo=>qv o (Ap o rfl rfl) λo=>qa o rfl λo=>re<|tn<|?_
 exact ⟨(J0,J1,(IntKind.i64.wrap (Q0+1))),⟨B1,W0,C1,hm,o.hs,u,E1⟩,Nat.lt_succ_self _⟩
 refine tn<|cfv o rfl U0<|we<|tx<|tx<|bx<|tn<|?_
 exact ⟨D0,F0,C0,G0,hm,o.has ⟨rfl,trivial⟩,u,T0⟩
 rintro a w ⟨I0,O0,E0,P0,hm,o,u,F1⟩
 unfold Z5l at hm
 refine th<|rg<|qm o rfl λo=>qa o rfl λo=>re<|tn<|wr<|?_
 obtain rfl:=si hm
 exact r1 o results66 rfl ⟨_,_,_,rfl,(λ_=>Rows.ind F1),u.endFresh t0⟩
theorem Hc (hH:H.le w0) {G0:Option Addr} {D0:Nat} {p1:(List Str)} (Q0:p1.length≤D0) (J0:SR H G0 p1) {p6:Str} {r:Int} (hm:Z5n N p1 p6=some r):Tot Tryz.prog 33 #[SL G0 p1 D0,Ac p6] w0 (λv w'=>v=i6 r∧Keep Nil w0 w'):=by
 unfold Z5n at hm
 refine fn0 func33 rfl ntmps33 rfl rfl λa o=>?_
 have u:St w0 Nil [H] [] w0:=start1 hH
 refine th<|rg<|qa o rfl λo=>re<|tn<|th<|th<|rg<|qa o rfl λo=>re<|tn<|Au (λa w=>Z5o=some r∧Fr 19 [] a∧St w0 Nil [H] [] w) ?_ ?_
 refine wb<|lp (α:=Nat×Int) (λgh a w=>match gh with | (C0,F0)=>(Z5p N Z5o p1 p6) C0 F0=some r∧Fr 19 [(0,SL G0 p1 D0),(1,Ac p6),(5,i6 F0)] a∧St w0 Nil [H] [] w) (λgh=>gh.1) (N,0) ⟨hm,o.hs,u⟩ ?_
 rintro ⟨C0,F0⟩ a w ⟨hm,o,u⟩
 obtain _ | C0:=C0
 simp [Z5p] at hm
 rw [Z5p] at hm
 refine th<|th<|rg<|qm o rfl λo=>qm o rfl λo=>qv o (Ak (α:=Str) (xs:=p1) o runUnderlying36 rfl) λo=>qv o (Aq o rfl rfl) λo=>re<|?_
 rcases bip hm with ⟨I0,hm⟩ | ⟨I0,hm⟩
 refine tn<|ctv o rfl I0<|wk<|tn<|th<|wb<|th<|?_
 obtain ⟨K0,h9,hm⟩:=bs hm
 obtain ⟨O0,P0,M0⟩:=SR.get J0 h9
 obtain rfl:O0=[Ac K0]:=P0
 refine rg<|qm o rfl λo=>qm o rfl λo=>qv o (An o runUnderlying36 sizeOf9 rfl rfl h9 (SR.oaI J0 (by decide) h9)) λo=>qv o (Ag o isAgg9 rfl (PH.le.cell (Lds.le u.ld) (M0 0 _ rfl))) λo=>qm o rfl λo=>qv o (Dz (m:=K0) (n:=p6) o rfl rfl) λo=>re<|?_
 rcases bip hm with ⟨E0,hm⟩ | ⟨E0,hm⟩
 refine tn<|ctv o rfl E0<|th<|rg<|qm o rfl λo=>qa o rfl λo=>re<|tn<|wr<|br<|tr<|tr<|br<|tr<|?_
 obtain rfl:=si hm
 exact r1 o results33 rfl ⟨rfl,u.keep⟩
 refine tn<|cfv o rfl E0<|wk<|bn<|tn<|rg<|qm o rfl λo=>qv o (Ap o rfl rfl) λo=>qa o rfl λo=>re<|tn<|?_
 exact ⟨(C0,(IntKind.i64.wrap (F0+1))),⟨hm,o.hs,u⟩,Nat.lt_succ_self _⟩
 refine tn<|cfv o rfl I0<|we<|tx<|tx<|bx<|tn<|?_
 exact ⟨hm,o.has trivial,u⟩
 rintro a w ⟨hm,o,u⟩
 unfold Z5o at hm
 refine th<|rg<|qa o rfl λo=>re<|tn<|wr<|?_
 obtain rfl:=si hm
 exact r1 o results33 rfl ⟨rfl,u.keep⟩
theorem JaS (hH:H.le w0) {cs2:List Value} {p1:api_Prog} (g3:Enc.rep H cs2 p1) {r:Int} (hm:Z67 N p1=some r):Tot Tryz.prog 61 #[.agg cs2.toArray] w0 (λv w'=>v=i6 r∧Keep Nil w0 w'):=by
 unfold Z67 at hm
 refine fn0 func61 rfl ntmps61 rfl rfl λa o=>?_
 have u:St w0 Nil [H] [] w0:=start1 hH
 obtain ⟨Q1,Y0,R1,j0,n0,J0,u0,K0,B1,M0,C1,O0,rfl,F3,G3,F2,G2,I2,S1,J2,P0,K2,M2,O2,P2⟩:=Ar g3
 refine th<|rg<|ls<|Bs (cs:=[SL Q1 p1.Lines Y0,SL R1 p1.Vols j0,SL n0 p1.Locks J0,SL u0 p1.Threads K0,SL B1 p1.Recover M0,SL C1 p1.Claims O0].toArray) o rfl u rfl rfl λE2 w a u o=>qa o rfl λo=>re<|tn<|th<|?_
 obtain ⟨I3,J3,hm⟩:=bs hm
 obtain ⟨K3,L3,hm⟩:=bs hm
 refine rg<|ls<|Bl (e:=53) (sz:=3) [] o rfl u rfl rfl rfl (λw=>by kernel_rfl) λJ4 w a u o=>?_
 have Q2:Rows (α:=api_Cell) H [] []:=.nil
 refine qv o (Ay o isAgg27 sizeOf27 rfl rfl (u.ld.cellsB t1)) λo=>ls<|c1 o rfl call67 (Tv (Ai _) (Enc.mono (St.up u) (show Enc.rep (α:=api_Prog) H [SL Q1 p1.Lines Y0,SL R1 p1.Vols j0,SL n0 p1.Locks J0,SL u0 p1.Threads K0,SL B1 p1.Recover M0,SL C1 p1.Claims O0] p1 from ⟨_,_,rfl,⟨_,_,rfl,F3,G3⟩,⟨_,_,rfl,⟨_,_,rfl,F2,G2⟩,⟨_,_,rfl,⟨_,_,rfl,I2,S1⟩,⟨_,_,rfl,⟨_,_,rfl,J2,P0⟩,⟨_,_,rfl,⟨_,_,rfl,K2,M2⟩,⟨_,_,rfl,O2,P2⟩⟩⟩⟩⟩⟩)) J3) ⟨rfl,trivial⟩ (λv w a hR o=>?_)
 obtain ⟨l3,V3,u3,rfl,E1,hk⟩:=hR
 replace u:=u.fresh hk
 replace E1:=E1 H
 refine ls<|Cl (α:=api_Cell) (xs:=[]) (ys:=I3) o rfl u underlying23 Hb rfl (by decide) rfl rfl rfl t1 Q2 (u.rdO t0) E1 L3 λA4 W3 B4 w a R2 hU o=>?_
 replace u:=hU _ (.tail .head)
 refine qa o rfl λo=>re<|tn<|th<|?_
 obtain ⟨M3,O3,hm⟩:=bs hm
 refine rg<|qm o rfl λo=>qv o (Af o Ec rfl) λo=>qv o (Ag o isAgg23 rfl (u.ld.cellB t2 rfl)) λo=>?_
 obtain ⟨us51,hd52,hu53⟩:=id S1
 refine ls<|Cl (α:=api_Cell) (xs:=K3) (ys:=p1.Locks) o rfl u underlying23 Hb rfl (by decide) rfl rfl rfl t1 R2 (u.rdH t0 hd52) hu53 O3 λU2 B2 V2 w a W2 hU o=>?_
 replace u:=hU _ (.tail .head)
 refine qa o rfl λo=>re<|tn<|th<|th<|rg<|qa o rfl λo=>re<|tn<|Au (λa w=>∃ (D0:(List api_Cell)) (G0:Option Addr) (E0:Nat) (Q0:List Value),(Z68 N) D0=some r∧Fr 60 [(3,SL G0 D0 E0)] a∧St w0 Nil [H] [sla 53 3 G0 D0.length E0 Q0] w∧Rows H Q0 D0) ?_ ?_
 replace u:=u.pk [2,1] rfl
 refine wb<|lp (α:=Nat×(List api_Cell)×Int) (λgh a w=>match gh with | (U0,I0,M1)=>∃ (R0:Option Addr) (F0:Nat) (S0:List Value),(Z6a N (Z68 N) p1) U0 I0 M1=some r∧Fr 60 [(1,PT E2),(3,SL R0 I0 F0),(4,i6 M1)] a∧St w0 Nil [H] [bk E2 [SL Q1 p1.Lines Y0,SL R1 p1.Vols j0,SL n0 p1.Locks J0,SL u0 p1.Threads K0,SL B1 p1.Recover M0,SL C1 p1.Claims O0] 27,sla 53 3 R0 I0.length F0 S0] w∧Rows H S0 I0) (λgh=>gh.1) (N,M3,0) ⟨U2,B2,V2,hm,o.hs,u,W2⟩ ?_
 rintro ⟨U0,I0,M1⟩ a w ⟨R0,F0,S0,hm,o,u,T1⟩
 obtain _ | U0:=U0
 simp [Z6a] at hm
 rw [Z6a] at hm
 refine th<|th<|rg<|qm o rfl λo=>qv o (Af o De rfl) λo=>qv o (Ag o isAgg24 rfl (u.ld.cellB t0 rfl)) λo=>qv o (Ak (α:=api_Thread) (xs:=p1.Threads) o runUnderlying24 rfl) λo=>qv o (Aq o rfl rfl) λo=>re<|?_
 rcases bip hm with ⟨F1,hm⟩ | ⟨F1,hm⟩
 refine tn<|ctv o rfl F1<|wk<|tn<|th<|wb<|?_
 obtain ⟨C0,V0,hm⟩:=bs hm
 obtain ⟨K4,P3,U1⟩:=SR.get P0 V0
 obtain ⟨C4,X3,D4,Y3,rfl,E4,F4,G4,I4⟩:=Av P3
 obtain ⟨Q3,R3,hm⟩:=bs hm
 refine rdL (Aa t0 Ah) 17 u wide λw u=>ds 0 (St.ldsX u i2 (Aa t0 Ah)) o rfl (Ab o rfl) λo=>ds 1 (St.ldsX u i2 (Aa t0 Ah)) o rfl (Af o De rfl) λo=>dq 2 (St.ldsX u i2 (Aa t0 Ah)) o rfl (λw hl=>Ag o isAgg24 rfl (hl.cellB t0 rfl)) λo=>ds 3 (St.ldsX u i2 (Aa t0 Ah)) o rfl (Ab o rfl) λo=>ds 4 (St.ldsX u i2 (Aa t0 Ah)) o rfl (An o runUnderlying24 sizeOf48 rfl rfl V0 (SR.oaI P0 (by decide) V0)) λo=>ds 5 (St.ldsX u i2 (Aa t0 Ah)) o rfl (Af o Er rfl) λo=>dq 6 (St.ldsX u i2 (Aa t0 Ah)) o rfl (λw hl=>Ag o isAgg9 rfl (PH.le.cell (Lds.le hl) (U1 0 _ rfl))) λo=>ds 7 (St.ldsX u i2 (Aa t0 Ah)) o rfl (Af o De rfl) λo=>dq 8 (St.ldsX u i2 (Aa t0 Ah)) o rfl (λw hl=>Ag o isAgg24 rfl (hl.cellB t0 rfl)) λo=>ds 9 (St.ldsX u i2 (Aa t0 Ah)) o rfl (Ab o rfl) λo=>ds 10 (St.ldsX u i2 (Aa t0 Ah)) o rfl (An o runUnderlying24 sizeOf48 rfl rfl V0 (SR.oaI P0 (by decide) V0)) λo=>ds 11 (St.ldsX u i2 (Aa t0 Ah)) o rfl (Af o Ge rfl) λo=>dq 12 (St.ldsX u i2 (Aa t0 Ah)) o rfl (λw hl=>Ag o isAgg3 rfl (PH.le.cell (Lds.le hl) (U1 3 _ rfl))) λo=>dq 13 (St.ldsX u i2 (Aa t0 Ah)) o rfl (λw hl=>Bu [Ac C0.Name,i6 C0.At] [Ac C0.Name,i6 0,i6 C0.At] o ⟨rfl,rfl,trivial⟩ (λw=>by kernel_rfl)) λo=>da1 (i:=14) (by kernel_rfl) ?_
 refine di (i:=14) rfl<|Bl (e:=53) (sz:=3) [Ac C0.Name,i6 0,i6 C0.At] o rfl u rfl rfl rfl (λw=>by kernel_rfl) λL4 w a u o=>?_
 have X2:Rows (α:=api_Cell) H [Ac C0.Name,i6 0,i6 C0.At] ([(api_Cell.mk C0.Name 0 C0.At)]:List api_Cell):=(.cons (c:=[Ac C0.Name,i6 0,i6 C0.At]) ⟨_,_,rfl,rfl,⟨_,_,rfl,rfl,rfl⟩⟩ .nil)
 refine ⟨λ_=>(St.ldsX u i2 (Aa t1 Ah)),?_⟩
 refine da1 (i:=15) (by kernel_rfl) ?_
 refine di (i:=15) rfl<|Cl (α:=api_Cell) (xs:=I0) (ys:=([(api_Cell.mk C0.Name 0 C0.At)]:List api_Cell)) o rfl u underlying23 Hb rfl (by decide) rfl rfl rfl t2 T1 (u.rdO t0) X2 R3 λY2 C2 A3 w a B3 hU o=>?_
 replace u:=hU _ (.tail (.tail .head))
 replace u:=u.drop .head
 refine ⟨λ_=>(St.ldsX u i2 (Aa t0 Ah)),?_⟩
 refine ds 16 (St.ldsX u i2 (Aa t0 Ah)) o rfl (Bo o rfl) λo=>de (by kernel_rfl)<|bn<|tn<|rg<|qm o rfl λo=>qv o (Ap o rfl rfl) λo=>qa o rfl λo=>re<|tn<|?_
 exact ⟨(U0,Q3,(IntKind.i64.wrap (M1+1))),⟨Y2,C2,A3,hm,o.hs,u,B3⟩,Nat.lt_succ_self _⟩
 refine tn<|cfv o rfl F1<|we<|tx<|tx<|bx<|tn<|?_
 replace u:=u.pk [1] rfl
 exact ⟨I0,R0,F0,S0,hm,o.has ⟨rfl,trivial⟩,u,T1⟩
 rintro a w ⟨D0,G0,E0,Q0,hm,o,u,T0⟩
 unfold Z68 at hm
 refine th<|?_
 obtain ⟨V1,S3,hm⟩:=bs hm
 refine rg<|qm o rfl λo=>ls<|c1 o rfl call66 (Tw (Ai _) (St.capO u t0) (St.srO u t0 T0) S3) ⟨rfl,trivial⟩ (λv w a hR o=>?_)
 obtain ⟨X1,O1,C3,rfl,G1,hk⟩:=hR
 replace u:=u.fresh hk
 replace G1:=G1 H
 refine qa o rfl λo=>re<|tn<|th<|th<|rg<|qa o rfl λo=>re<|tn<|Au (λa w=>Z69=some r∧Fr 60 [] a∧St w0 Nil [H] [] w) ?_ ?_
 replace u:=u.pk [1,0] rfl
 refine wb<|lp (α:=Nat×Int) (λgh a w=>match gh with | (W0,P1)=>(Z6b N Z69 D0 V1) W0 P1=some r∧Fr 60 [(3,SL G0 D0 E0),(5,SL X1 V1 O1),(6,i6 P1)] a∧St w0 Nil [H] [sla 53 3 G0 D0.length E0 Q0,sla 9 1 X1 V1.length O1 C3] w) (λgh=>gh.1) (N,0) ⟨hm,o.hs,u⟩ ?_
 rintro ⟨W0,P1⟩ a w ⟨hm,o,u⟩
 obtain _ | W0:=W0
 simp [Z6b] at hm
 rw [Z6b] at hm
 refine th<|th<|rg<|qm o rfl λo=>qm o rfl λo=>qv o (Ak (α:=api_Cell) (xs:=D0) o runUnderlying23 rfl) λo=>qv o (Aq o rfl rfl) λo=>re<|?_
 rcases bip hm with ⟨I1,hm⟩ | ⟨I1,hm⟩
 refine tn<|ctv o rfl I1<|wk<|tn<|th<|wb<|th<|?_
 obtain ⟨M4,X0,hm⟩:=bs hm
 have D3:=Rd.oaI (u.rdO t0) T0 (by decide) X0
 obtain ⟨O4,T3,Y1⟩:=Rows.getI T0 X0
 obtain rfl:=Bj T3
 obtain ⟨P4,U3,hm⟩:=bs hm
 refine rg<|qm o rfl λo=>?_
 iterate 2 refine qm o rfl λo=>?_
 refine qv o (An o runUnderlying23 sizeOf53 rfl rfl X0 D3) λo=>qv o (Af o Ep rfl) λo=>qv o (Ag o isAgg9 rfl (u.ld.elO2 t0 (Y1 0 _ rfl))) λo=>ls<|cr o call33 (Hc (Ai _) (St.capO u t1) (St.srO u t1 G1) U3) u λu o=>qm o rfl λo=>qv o (Aq o rfl rfl) λo=>re<|?_
 rcases bip hm with ⟨J1,hm⟩ | ⟨J1,hm⟩
 refine tn<|ctv o rfl J1<|th<|?_
 have E3:=Rd.oaI (u.rdO t0) T0 (by decide) X0
 refine rg<|qm o rfl λo=>qm o rfl λo=>qv o (An o runUnderlying23 sizeOf53 rfl rfl X0 E3) λo=>qv o (Af o Jm rfl) λo=>qv o (Ag o isAgg3 rfl (u.ld.elO2 t0 (Y1 2 _ rfl))) λo=>qa o rfl λo=>re<|tn<|wr<|br<|tr<|tr<|br<|tr<|?_
 obtain rfl:=si hm
 exact r1 o results61 rfl ⟨rfl,u.keep⟩
 refine tn<|cfv o rfl J1<|wk<|bn<|tn<|rg<|qm o rfl λo=>qv o (Ap o rfl rfl) λo=>qa o rfl λo=>re<|tn<|?_
 exact ⟨(W0,(IntKind.i64.wrap (P1+1))),⟨hm,o.hs,u⟩,Nat.lt_succ_self _⟩
 refine tn<|cfv o rfl I1<|we<|tx<|tx<|bx<|tn<|?_
 replace u:=u.pickL .nil
 exact ⟨hm,o.has trivial,u⟩
 rintro a w ⟨hm,o,u⟩
 unfold Z69 at hm
 refine th<|rg<|qa o rfl λo=>re<|tn<|wr<|?_
 obtain rfl:=si hm
 exact r1 o results61 rfl ⟨rfl,u.keep⟩
theorem Se (hH:H.le w0) {cs2:List Value} {p1:api_Prog} (g3:Enc.rep H cs2 p1) {r:(List Str)} (hm:Z51 N p1=some r):Tot Tryz.prog 22 #[.agg cs2.toArray] w0 (λv w'=>∃ (S0:Option Addr) (J0:Nat) (T0:List Value),v=SL S0 r J0∧(∀ h,Rows h T0 r)∧Fresh w0 (sla 9 1 S0 r.length J0 T0) w'):=by
 unfold Z51 at hm
 refine fn0 func22 rfl ntmps22 rfl rfl λa o=>?_
 have u:St w0 Nil [H] [] w0:=start1 hH
 obtain ⟨U0,K0,V0,M0,O0,E0,P0,F0,Q0,G0,R0,I0,rfl,G1,I1,W0,X0,Y0,j0,n0,u0,B1,C1,E1,F1⟩:=Ar g3
 refine th<|rg<|ls<|Bs (cs:=[SL U0 p1.Lines K0,SL V0 p1.Vols M0,SL O0 p1.Locks E0,SL P0 p1.Threads F0,SL Q0 p1.Recover G0,SL R0 p1.Claims I0].toArray) o rfl u rfl rfl λU1 w a u o=>qa o rfl λo=>re<|tn<|th<|?_
 obtain ⟨V1,J1,hm⟩:=bs hm
 obtain ⟨X1,M1,hm⟩:=bs hm
 refine rg<|qv o (Ay o Tryz.isAgg27 Tryz.sizeOf27 rfl rfl (u.ld.cellsB t0)) λo=>ls<|c1 o rfl call67 (Tv (Ai _) (Enc.mono (St.up u) (show Enc.rep (α:=api_Prog) H [SL U0 p1.Lines K0,SL V0 p1.Vols M0,SL O0 p1.Locks E0,SL P0 p1.Threads F0,SL Q0 p1.Recover G0,SL R0 p1.Claims I0] p1 from ⟨_,_,rfl,⟨_,_,rfl,G1,I1⟩,⟨_,_,rfl,⟨_,_,rfl,W0,X0⟩,⟨_,_,rfl,⟨_,_,rfl,Y0,j0⟩,⟨_,_,rfl,⟨_,_,rfl,n0,u0⟩,⟨_,_,rfl,⟨_,_,rfl,B1,C1⟩,⟨_,_,rfl,E1,F1⟩⟩⟩⟩⟩⟩)) J1) ⟨rfl,trivial⟩ (λv w a hR o=>?_)
 obtain ⟨Q1,O1,R1,rfl,C0,hk⟩:=hR
 replace u:=u.fresh hk
 replace C0:=C0 H
 refine ls<|c1 o rfl call66 (Tw (Ai _) (St.capO u t0) (St.srO u t0 C0) M1) ⟨rfl,trivial⟩ (λv w a hR o=>?_)
 obtain ⟨S1,P1,T1,rfl,D0,hk⟩:=hR
 replace u:=u.fresh hk
 replace D0:=D0 H
 refine qa o rfl λo=>re<|tn<|wr<|?_
 obtain rfl:=si hm
 exact r1 o results22 rfl ⟨_,_,_,rfl,(λ_=>Rows.ind D0),u.endFresh t0⟩
theorem Yj (hH:H.le w0) {cs2:List Value} {p1:api_Prog} (g3:Enc.rep H cs2 p1) {r:(List Str)} (hm:Z5j N p1=some r):Tot Tryz.prog 28 #[.agg cs2.toArray] w0 (λv w'=>∃ (J0:Option Addr) (D0:Nat) (K0:List Value),v=SL J0 r D0∧(∀ h,Rows h K0 r)∧Fresh w0 (sla 9 1 J0 r.length D0 K0) w'):=by
 unfold Z5j at hm
 refine fn0 func28 rfl ntmps28 rfl rfl λa o=>?_
 have u:St w0 Nil [H] [] w0:=start1 hH
 obtain ⟨V0,M0,W0,O0,P0,E0,Q0,F0,R0,G0,S0,I0,rfl,M1,O1,j0,n0,T0,U0,u0,B1,C1,E1,F1,G1⟩:=Ar g3
 refine th<|rg<|ls<|Bs (cs:=[SL V0 p1.Lines M0,SL W0 p1.Vols O0,SL P0 p1.Locks E0,SL Q0 p1.Threads F0,SL R0 p1.Recover G0,SL S0 p1.Claims I0].toArray) o rfl u rfl rfl λP1 w a u o=>qa o rfl λo=>re<|tn<|th<|?_
 obtain ⟨Q1,X0,hm⟩:=bs hm
 refine rg<|qv o (Af o Ec rfl) λo=>qv o (Ag o isAgg23 rfl (u.ld.cellB t0 rfl)) λo=>ls<|c1 o rfl call66 (Tw (Ai _) T0 (St.srH u U0) X0) ⟨rfl,trivial⟩ (λv w a hR o=>?_)
 obtain ⟨I1,Y0,J1,rfl,C0,hk⟩:=hR
 replace u:=u.fresh hk
 replace C0:=C0 H
 refine qa o rfl λo=>re<|tn<|wr<|?_
 obtain rfl:=si hm
 exact r1 o results28 rfl ⟨_,_,_,rfl,(λ_=>Rows.ind C0),u.endFresh t0⟩
theorem Yu (hH:H.le w0) {cs2:List Value} {p1:api_Prog} (g3:Enc.rep H cs2 p1) {r:Int} (hm:Z5q N p1=some r):Tot Tryz.prog 24 #[.agg cs2.toArray] w0 (λv w'=>v=i6 r∧Keep Nil w0 w'):=by
 unfold Z5q at hm
 refine fn0 func24 rfl ntmps24 rfl rfl λa o=>?_
 have u:St w0 Nil [H] [] w0:=start1 hH
 obtain ⟨Q0,G0,R0,I0,J0,C0,K0,D0,M0,E0,O0,F0,rfl,B1,C1,S0,T0,U0,V0,W0,X0,Y0,j0,n0,u0⟩:=Ar g3
 refine th<|rg<|ls<|Bs (cs:=[SL Q0 p1.Lines G0,SL R0 p1.Vols I0,SL J0 p1.Locks C0,SL K0 p1.Threads D0,SL M0 p1.Recover E0,SL O0 p1.Claims F0].toArray) o rfl u rfl rfl λM1 w a u o=>qa o rfl λo=>re<|tn<|th<|?_
 obtain ⟨E1,F1,hm⟩:=bs hm
 refine rdS 8 u wide λw u=>dq 0 u.ld o rfl (λw hl=>Ay o isAgg27 sizeOf27 rfl rfl (hl.cellsB t0)) λo=>dr 3 u o rfl (Af o Ed rfl) λo=>dq 4 u.ld o rfl (λw hl=>Ag o isAgg23 rfl (hl.cellB t0 rfl)) λo=>dr 5 u o rfl (Ak (α:=api_Cell) (xs:=p1.Vols) o runUnderlying23 rfl) λo=>da1 (i:=1) (by kernel_rfl) ?_
 refine di (i:=1) rfl<|c1 o rfl call67 (Tv (Ai _) (Enc.mono (St.up u) (show Enc.rep (α:=api_Prog) H [SL Q0 p1.Lines G0,SL R0 p1.Vols I0,SL J0 p1.Locks C0,SL K0 p1.Threads D0,SL M0 p1.Recover E0,SL O0 p1.Claims F0] p1 from ⟨_,_,rfl,⟨_,_,rfl,B1,C1⟩,⟨_,_,rfl,⟨_,_,rfl,S0,T0⟩,⟨_,_,rfl,⟨_,_,rfl,U0,V0⟩,⟨_,_,rfl,⟨_,_,rfl,W0,X0⟩,⟨_,_,rfl,⟨_,_,rfl,Y0,j0⟩,⟨_,_,rfl,n0,u0⟩⟩⟩⟩⟩⟩)) F1) ⟨rfl,trivial⟩ (λv w a hR o=>?_)
 obtain ⟨I1,G1,J1,rfl,P0,hk⟩:=hR
 replace u:=u.fresh hk
 replace P0:=P0 H
 refine ⟨λ_=>(St.ldsX u i2 ta1),?_⟩
 refine ds 2 (St.ldsX u i2 ta1) o rfl (Ak (α:=api_Cell) (xs:=E1) o runUnderlying23 rfl) λo=>ds 6 (St.ldsX u i2 ta1) o rfl (Gp o rfl rfl) λo=>ds 7 (St.ldsX u i2 ta1) o rfl (Bo o rfl) λo=>de (by kernel_rfl)<|tn<|wr<|?_
 obtain rfl:=si hm
 exact r1 o results24 rfl ⟨rfl,u.keep⟩
theorem Ud (hH:H.le w0) {O0:Option Addr} {G0:Nat} {p1:(List api_Node)} (Y0:p1.length≤G0) (D0:SR H O0 p1) {oa7:Option Addr} {cap8:Nat} {p6:(List Str)} (T0:p6.length≤cap8) (R0:SR H oa7 p6) {r:Int} (hm:Z6c N p1 p6=some r):Tot Tryz.prog 63 #[SL O0 p1 G0,SL oa7 p6 cap8] w0 (λv w'=>v=i6 r∧Keep Nil w0 w'):=by
 unfold Z6c at hm
 refine fn0 func63 rfl ntmps63 rfl rfl λa o=>?_
 have u:St w0 Nil [H] [] w0:=start1 hH
 refine th<|rg<|qa o rfl λo=>re<|tn<|th<|th<|rg<|qa o rfl λo=>re<|tn<|Au (λa w=>Z6d=some r∧Fr 33 [] a∧St w0 Nil [H] [] w) ?_ ?_
 refine wb<|lp (α:=Nat×Int) (λgh a w=>match gh with | (E0,F0)=>(Z6f N Z6d p1 p6) E0 F0=some r∧Fr 33 [(0,SL O0 p1 G0),(1,SL oa7 p6 cap8),(5,i6 F0)] a∧St w0 Nil [H] [] w) (λgh=>gh.1) (N,0) ⟨hm,o.hs,u⟩ ?_
 rintro ⟨E0,F0⟩ a w ⟨hm,o,u⟩
 obtain _ | E0:=E0
 simp [Z6f] at hm
 rw [Z6f] at hm
 refine th<|th<|rg<|qm o rfl λo=>qm o rfl λo=>qv o (Ak (α:=api_Node) (xs:=p1) o runUnderlying49 rfl) λo=>qv o (Aq o rfl rfl) λo=>re<|?_
 rcases bip hm with ⟨I0,hm⟩ | ⟨I0,hm⟩
 refine tn<|ctv o rfl I0<|wk<|tn<|th<|wb<|th<|Au (λa w=>∃ (P0:Bool),(Z6e (Z6f N Z6d p1 p6 E0) p1 F0) P0=some r∧Fr 33 [(0,SL O0 p1 G0),(1,SL oa7 p6 cap8),(5,i6 F0),(27,.bool P0)] a∧St w0 Nil [H] [] w) ?_ ?_
 obtain ⟨j0,C0,hm⟩:=bs hm
 obtain ⟨n0,U0,J0⟩:=SR.get D0 C0
 obtain rfl:=Bm U0
 rcases bip hm with ⟨K0,hm⟩ | ⟨K0,hm⟩
 obtain ⟨V0,W0,hm⟩:=bs hm
 refine rg<|qm o rfl λo=>qm o rfl λo=>qv o (An o runUnderlying49 sizeOf90 rfl rfl C0 (SR.oaI D0 (by decide) C0)) λo=>qv o (Af o Ck rfl) λo=>qv o (Ag o isAgg3 rfl (PH.le.cell (Lds.le u.ld) (J0 0 _ rfl))) λo=>qv o (Al o rfl rfl) λo=>qv o (As (Ab o rfl) (congrArg Value.bool K0)) λo=>?_
 iterate 3 refine qg o (Ab o rfl) λo=>?_
 refine qg o (An o runUnderlying49 sizeOf90 rfl rfl C0 (SR.oaI D0 (by decide) C0)) λo=>qg o (Af o Fv rfl) λo=>qg o (Ag o isAgg9 rfl (PH.le.cell (Lds.le u.ld) (J0 2 _ rfl))) λo=>ls<|gy o rfl rfl<|cr o call33 (Hc (Ai _) T0 (St.srH u R0) W0) u λu o=>qg o (Aq o rfl rfl) λo=>qv o (Ad o rfl rfl) λo=>re<|tn<|?_
 exact ⟨(decide (V0 < 0)),hm,o.hs,u⟩
 refine rg<|qm o rfl λo=>qm o rfl λo=>qv o (An o runUnderlying49 sizeOf90 rfl rfl C0 (SR.oaI D0 (by decide) C0)) λo=>qv o (Af o Ck rfl) λo=>qv o (Ag o isAgg3 rfl (PH.le.cell (Lds.le u.ld) (J0 0 _ rfl))) λo=>qv o (Al o rfl rfl) λo=>qv o (As (Ab o rfl) (congrArg Value.bool K0)) λo=>?_
 iterate 8 refine qn o λo=>?_
 refine qv o (Ae o rfl rfl) λo=>re<|tn<|?_
 exact ⟨false,hm,o.hs,u⟩
 rintro a w ⟨P0,hm,o,u⟩
 unfold Z6e at hm
 rcases bit hm with ⟨M0,hm⟩ | ⟨M0,hm⟩
 refine ctv o rfl M0<|th<|?_
 obtain ⟨u0,Q0,hm⟩:=bs hm
 obtain ⟨B1,X0,S0⟩:=SR.get D0 Q0
 obtain rfl:=Bm X0
 refine rg<|qm o rfl λo=>qm o rfl λo=>qv o (An o runUnderlying49 sizeOf90 rfl rfl Q0 (SR.oaI D0 (by decide) Q0)) λo=>qv o (Af o Fc rfl) λo=>qv o (Ag o isAgg3 rfl (PH.le.cell (Lds.le u.ld) (S0 3 _ rfl))) λo=>qa o rfl λo=>re<|tn<|wr<|br<|tr<|tr<|br<|tr<|?_
 obtain rfl:=si hm
 exact r1 o results63 rfl ⟨rfl,u.keep⟩
 refine cfv o rfl M0<|wk<|bn<|tn<|rg<|qm o rfl λo=>qv o (Ap o rfl rfl) λo=>qa o rfl λo=>re<|tn<|?_
 exact ⟨(E0,(IntKind.i64.wrap (F0+1))),⟨hm,o.hs,u⟩,Nat.lt_succ_self _⟩
 refine tn<|cfv o rfl I0<|we<|tx<|tx<|bx<|tn<|?_
 exact ⟨hm,o.has trivial,u⟩
 rintro a w ⟨hm,o,u⟩
 unfold Z6d at hm
 refine th<|rg<|qa o rfl λo=>re<|tn<|wr<|?_
 obtain rfl:=si hm
 exact r1 o results63 rfl ⟨rfl,u.keep⟩
set_option maxHeartbeats 4000000 in
theorem Jbt (hH:H.le w0) {cs2:List Value} {p1:api_Prog} (g3:Enc.rep H cs2 p1) {cs5:List Value} {p4:api_Thread} (g6:Enc.rep H cs5 p4) {cs8:List Value} {p7:api_Stmt} (g9:Enc.rep H cs8 p7) {r:Int} (hm:Z60 N p1 p4 p7=some r):Tot Tryz.prog 62 #[.agg cs2.toArray,.agg cs5.toArray,.agg cs8.toArray] w0 (λv w'=>v=i6 r∧Keep Nil w0 w'):=by
 unfold Z60 at hm
 refine fn0 func62 rfl ntmps62 rfl rfl λa o=>?_
 have u:St w0 Nil [H] [] w0:=start1 hH
 obtain ⟨R0,C0,S0,D0,T0,E0,U0,F0,V0,G0,W0,I0,rfl,C1,E1,F1,G1,I1,J1,M1,O1,P1,Q1,R1,S1⟩:=Ar g3
 obtain ⟨X0,J0,Y0,K0,rfl,T1,U1,S3,T3⟩:=Av g6
 obtain ⟨j0,M0,n0,O0,rfl,A3,B3,C3,D3⟩:=Bn g9
 refine th<|rg<|ls<|Bs (cs:=[SL R0 p1.Lines C0,SL S0 p1.Vols D0,SL T0 p1.Locks E0,SL U0 p1.Threads F0,SL V0 p1.Recover G0,SL W0 p1.Claims I0].toArray) o rfl u rfl rfl λu0 w a u o=>ls<|Bs (cs:=[Ac p4.Name,SL X0 p4.Regs J0,SL Y0 p4.Body K0,i6 p4.At].toArray) o rfl u rfl rfl λP0 w a u o=>ls<|Bs (cs:=[i6 p7.Kind,Ac p7.Reg,Ac p7.Name,SL j0 p7.E M0,SL n0 p7.F O0,i6 p7.N,i6 p7.Body,i6 p7.Else,i6 p7.At].toArray) o rfl u rfl rfl λQ0 w a u o=>qa o rfl λo=>re<|tn<|th<|th<|Au (λa w=>∃ (U2:Bool),(Z61 N p1 p4 p7) U2=some r∧Fr 74 [(3,PT u0),(4,PT P0),(5,PT Q0),(19,.bool U2)] a∧St w0 Nil [H] [bk u0 [SL R0 p1.Lines C0,SL S0 p1.Vols D0,SL T0 p1.Locks E0,SL U0 p1.Threads F0,SL V0 p1.Recover G0,SL W0 p1.Claims I0] 27,bk P0 [Ac p4.Name,SL X0 p4.Regs J0,SL Y0 p4.Body K0,i6 p4.At] 48,bk Q0 [i6 p7.Kind,Ac p7.Reg,Ac p7.Name,SL j0 p7.E M0,SL n0 p7.F O0,i6 p7.N,i6 p7.Body,i6 p7.Else,i6 p7.At] 51] w) ?_ ?_
 rcases bip hm with ⟨V1,hm⟩ | ⟨V1,hm⟩
 obtain ⟨E3,F3,hm⟩:=bs hm
 refine rg<|qv o (Af o Cx rfl) λo=>qv o (Ag o isAgg9 rfl (u.ld.cellB t0 rfl)) λo=>qv o (Cu (m:=p7.Reg) (n:=[]) o rfl rfl) λo=>qv o (As (Ab o rfl) (congrArg Value.bool V1)) λo=>qg o (Af o Da rfl) λo=>qg o (Ag o isAgg36 rfl (u.ld.cellB t1 rfl)) λo=>qg o (Af o Cx rfl) λo=>qg o (Ag o isAgg9 rfl (u.ld.cellB t0 rfl)) λo=>ls<|gy o rfl rfl<|cr o call33 (Hc (Ai _) T1 (St.srH u U1) F3) u λu o=>qg o (Aq o rfl rfl) λo=>qv o (Ad o rfl rfl) λo=>re<|tn<|?_
 replace u:=u.pk [2,1,0] rfl
 exact ⟨(decide (E3 < 0)),hm,o.hs,u⟩
 refine rg<|qv o (Af o Cx rfl) λo=>qv o (Ag o isAgg9 rfl (u.ld.cellB t0 rfl)) λo=>qv o (Cu (m:=p7.Reg) (n:=[]) o rfl rfl) λo=>qv o (As (Ab o rfl) (congrArg Value.bool V1)) λo=>?_
 iterate 6 refine qn o λo=>?_
 refine qv o (Ae o rfl rfl) λo=>re<|tn<|?_
 replace u:=u.pk [2,1,0] rfl
 exact ⟨false,hm,o.hs,u⟩
 rintro a w ⟨U2,hm,o,u⟩
 unfold Z61 at hm
 rcases bit hm with ⟨X1,hm⟩ | ⟨X1,hm⟩
 refine ctv o rfl X1<|th<|rg<|qv o (Af o En rfl) λo=>qv o (Ag o isAgg3 rfl (u.ld.cellB t2 rfl)) λo=>qa o rfl λo=>re<|tn<|wr<|tr<|?_
 obtain rfl:=si hm
 exact r1 o results62 rfl ⟨rfl,u.keep⟩
 refine cfv o rfl X1<|wk<|tn<|th<|?_
 obtain ⟨Y3,G3,hm⟩:=bs hm
 obtain ⟨B1,I3,hm⟩:=bs hm
 refine rdS 6 u wide λw u=>dq 0 u.ld o rfl (λw hl=>Ay o isAgg27 sizeOf27 rfl rfl (hl.cellsB t0)) λo=>dr 2 u o rfl (Af o Du rfl) λo=>dq 3 u.ld o rfl (λw hl=>Ag o isAgg9 rfl (hl.cellB t2 rfl)) λo=>da1 (i:=1) (by kernel_rfl) ?_
 refine di (i:=1) rfl<|c1 o rfl call22 (Se (Ai _) (Enc.mono (St.up u) (show Enc.rep (α:=api_Prog) H [SL R0 p1.Lines C0,SL S0 p1.Vols D0,SL T0 p1.Locks E0,SL U0 p1.Threads F0,SL V0 p1.Recover G0,SL W0 p1.Claims I0] p1 from ⟨_,_,rfl,⟨_,_,rfl,C1,E1⟩,⟨_,_,rfl,⟨_,_,rfl,F1,G1⟩,⟨_,_,rfl,⟨_,_,rfl,I1,J1⟩,⟨_,_,rfl,⟨_,_,rfl,M1,O1⟩,⟨_,_,rfl,⟨_,_,rfl,P1,Q1⟩,⟨_,_,rfl,R1,S1⟩⟩⟩⟩⟩⟩)) G3) ⟨rfl,trivial⟩ (λv w a hR o=>?_)
 obtain ⟨U3,Q3,V3,rfl,Y1,hk⟩:=hR
 replace u:=u.fresh hk
 replace Y1:=Y1 H
 refine ⟨λ_=>(St.ldsX u i2 ta1),?_⟩
 refine da1 (i:=4) (by kernel_rfl) ?_
 refine di (i:=4) rfl<|cr o call33 (Hc (Ai _) (St.capO u t0) (St.srO u t0 Y1) I3) u λu o=>⟨λ_=>(St.ldsX u i2 ta1),?_⟩
 refine ds 5 (St.ldsX u i2 ta1) o rfl (Bo o rfl) λo=>de (by kernel_rfl)<|tn<|th<|th<|rg<|qv o (Af o Cg rfl) λo=>qv o (Ag o isAgg3 rfl (u.ld.cellB t3 rfl)) λo=>re<|tn<|Au (λa w=>(Z62 N p4 p7)=some r∧Fr 74 [(4,PT P0),(5,PT Q0)] a∧St w0 Nil [H] [bk P0 [Ac p4.Name,SL X0 p4.Regs J0,SL Y0 p4.Body K0,i6 p4.At] 48,bk Q0 [i6 p7.Kind,Ac p7.Reg,Ac p7.Name,SL j0 p7.E M0,SL n0 p7.F O0,i6 p7.N,i6 p7.Body,i6 p7.Else,i6 p7.At] 51] w) ?_ ?_
 refine wb<|th<|th<|rg<|qv o (Al o rfl rfl) λo=>qa o rfl λo=>re<|tn<|Au (λa w=>∃ (V2:Bool),(Z63 N (Z62 N p4 p7) p1 p7 B1) V2=some r∧Fr 74 [(3,PT u0),(4,PT P0),(5,PT Q0),(7,i6 B1),(28,i6 p7.Kind),(29,.bool V2)] a∧St w0 Nil [H] [bk u0 [SL R0 p1.Lines C0,SL S0 p1.Vols D0,SL T0 p1.Locks E0,SL U0 p1.Threads F0,SL V0 p1.Recover G0,SL W0 p1.Claims I0] 27,bk P0 [Ac p4.Name,SL X0 p4.Regs J0,SL Y0 p4.Body K0,i6 p4.At] 48,bk Q0 [i6 p7.Kind,Ac p7.Reg,Ac p7.Name,SL j0 p7.E M0,SL n0 p7.F O0,i6 p7.N,i6 p7.Body,i6 p7.Else,i6 p7.At] 51] w) ?_ ?_
 rcases bip hm with ⟨B2,hm⟩ | ⟨B2,hm⟩
 refine ctv o rfl B2<|wk<|tn<|?_
 replace u:=u.pk [1,1,1] rfl
 exact ⟨(decide (p7.Kind=2)),hm,o.hs,u⟩
 refine cfv o rfl B2<|th<|rg<|qv o (Al o rfl rfl) λo=>qa o rfl λo=>re<|?_
 rcases bip hm with ⟨C2,hm⟩ | ⟨C2,hm⟩
 refine tn<|ctv o rfl C2<|wk<|tn<|?_
 replace u:=u.pk [1,1,1] rfl
 exact ⟨(decide (p7.Kind=3)),hm,o.hs,u⟩
 refine tn<|cfv o rfl C2<|rg<|qv o (Al o rfl rfl) λo=>qa o rfl λo=>re<|tn<|?_
 replace u:=u.pk [1,1,1] rfl
 exact ⟨(decide (p7.Kind=4)),hm,o.hs,u⟩
 rintro a w ⟨V2,hm,o,u⟩
 unfold Z63 at hm
 rcases bit hm with ⟨E2,hm⟩ | ⟨E2,hm⟩
 refine ctv o rfl E2<|th<|rg<|qm o rfl λo=>qv o (Aq o rfl rfl) λo=>re<|?_
 rcases bip hm with ⟨F2,hm⟩ | ⟨F2,hm⟩
 refine tn<|ctv o rfl F2<|th<|rg<|qv o (Af o En rfl) λo=>qv o (Ag o isAgg3 rfl (u.ld.cellB t2 rfl)) λo=>qa o rfl λo=>re<|tn<|wr<|br<|tr<|?_
 obtain rfl:=si hm
 exact r1 o results62 rfl ⟨rfl,u.keep⟩
 refine tn<|cfv o rfl F2<|wk<|bn<|tn<|?_
 replace u:=u.pk [1,1] rfl
 exact ⟨hm,o.has ⟨rfl,rfl,trivial⟩,u⟩
 refine cfv o rfl E2<|th<|th<|rg<|qv o (Al o rfl rfl) λo=>qa o rfl λo=>re<|tn<|Au (λa w=>∃ (W2:Bool),(Z64 N (Z62 N p4 p7) p1 p7 B1) W2=some r∧Fr 74 [(3,PT u0),(4,PT P0),(5,PT Q0),(7,i6 B1),(28,i6 p7.Kind),(37,.bool W2)] a∧St w0 Nil [H] [bk u0 [SL R0 p1.Lines C0,SL S0 p1.Vols D0,SL T0 p1.Locks E0,SL U0 p1.Threads F0,SL V0 p1.Recover G0,SL W0 p1.Claims I0] 27,bk P0 [Ac p4.Name,SL X0 p4.Regs J0,SL Y0 p4.Body K0,i6 p4.At] 48,bk Q0 [i6 p7.Kind,Ac p7.Reg,Ac p7.Name,SL j0 p7.E M0,SL n0 p7.F O0,i6 p7.N,i6 p7.Body,i6 p7.Else,i6 p7.At] 51] w) ?_ ?_
 rcases bip hm with ⟨G2,hm⟩ | ⟨G2,hm⟩
 refine ctv o rfl G2<|wk<|tn<|?_
 exact ⟨(decide (p7.Kind=5)),hm,o.hs,u⟩
 refine cfv o rfl G2<|rg<|qv o (Al o rfl rfl) λo=>qa o rfl λo=>re<|tn<|?_
 exact ⟨(decide (p7.Kind=6)),hm,o.hs,u⟩
 rintro a w ⟨W2,hm,o,u⟩
 unfold Z64 at hm
 rcases bit hm with ⟨I2,hm⟩ | ⟨I2,hm⟩
 refine ctv o rfl I2<|th<|Au (λa w=>∃ (X2:Bool),(Z65 (Z62 N p4 p7) p7) X2=some r∧Fr 74 [(4,PT P0),(5,PT Q0),(47,.bool X2)] a∧St w0 Nil [H] [bk P0 [Ac p4.Name,SL X0 p4.Regs J0,SL Y0 p4.Body K0,i6 p4.At] 48,bk Q0 [i6 p7.Kind,Ac p7.Reg,Ac p7.Name,SL j0 p7.E M0,SL n0 p7.F O0,i6 p7.N,i6 p7.Body,i6 p7.Else,i6 p7.At] 51] w) ?_ ?_
 rcases bip hm with ⟨J2,hm⟩ | ⟨J2,hm⟩
 refine rg<|qm o rfl λo=>qv o (Aq o rfl rfl) λo=>qv o (As (Ab o rfl) (congrArg Value.bool J2)) λo=>?_
 iterate 4 refine qn o λo=>?_
 refine qv o (Ad o rfl rfl) λo=>re<|tn<|?_
 replace u:=u.pk [1,1] rfl
 exact ⟨true,hm,o.hs,u⟩
 obtain ⟨J3,K3,hm⟩:=bs hm
 refine rg<|qm o rfl λo=>qv o (Aq o rfl rfl) λo=>qv o (As (Ab o rfl) (congrArg Value.bool J2)) λo=>qg o (Ab o rfl) λo=>qg o (Ay o isAgg27 sizeOf27 rfl rfl (u.ld.cellsB t0)) λo=>ls<|gy o rfl rfl<|cr o call24 (Yu (Ai _) (Enc.mono (St.up u) (show Enc.rep (α:=api_Prog) H [SL R0 p1.Lines C0,SL S0 p1.Vols D0,SL T0 p1.Locks E0,SL U0 p1.Threads F0,SL V0 p1.Recover G0,SL W0 p1.Claims I0] p1 from ⟨_,_,rfl,⟨_,_,rfl,C1,E1⟩,⟨_,_,rfl,⟨_,_,rfl,F1,G1⟩,⟨_,_,rfl,⟨_,_,rfl,I1,J1⟩,⟨_,_,rfl,⟨_,_,rfl,M1,O1⟩,⟨_,_,rfl,⟨_,_,rfl,P1,Q1⟩,⟨_,_,rfl,R1,S1⟩⟩⟩⟩⟩⟩)) K3) u λu o=>qg o (Bi o rfl rfl) λo=>qv o (Ae o rfl rfl) λo=>re<|tn<|?_
 replace u:=u.pk [1,1] rfl
 exact ⟨(decide (J3≤B1)),hm,o.hs,u⟩
 rintro a w ⟨X2,hm,o,u⟩
 unfold Z65 at hm
 rcases bit hm with ⟨K2,hm⟩ | ⟨K2,hm⟩
 refine ctv o rfl K2<|th<|rg<|qv o (Af o En rfl) λo=>qv o (Ag o isAgg3 rfl (u.ld.cellB t1 rfl)) λo=>qa o rfl λo=>re<|tn<|wr<|br<|tr<|?_
 obtain rfl:=si hm
 exact r1 o results62 rfl ⟨rfl,u.keep⟩
 refine cfv o rfl K2<|wk<|bn<|tn<|?_
 exact ⟨hm,o.has ⟨rfl,rfl,trivial⟩,u⟩
 refine cfv o rfl I2<|th<|th<|rg<|qv o (Al o rfl rfl) λo=>qa o rfl λo=>re<|tn<|Au (λa w=>∃ (Y2:Bool),(Z66 N (Z62 N p4 p7) p1 p7) Y2=some r∧Fr 74 [(3,PT u0),(4,PT P0),(5,PT Q0),(50,.bool Y2)] a∧St w0 Nil [H] [bk u0 [SL R0 p1.Lines C0,SL S0 p1.Vols D0,SL T0 p1.Locks E0,SL U0 p1.Threads F0,SL V0 p1.Recover G0,SL W0 p1.Claims I0] 27,bk P0 [Ac p4.Name,SL X0 p4.Regs J0,SL Y0 p4.Body K0,i6 p4.At] 48,bk Q0 [i6 p7.Kind,Ac p7.Reg,Ac p7.Name,SL j0 p7.E M0,SL n0 p7.F O0,i6 p7.N,i6 p7.Body,i6 p7.Else,i6 p7.At] 51] w) ?_ ?_
 rcases bip hm with ⟨M2,hm⟩ | ⟨M2,hm⟩
 refine ctv o rfl M2<|wk<|tn<|?_
 exact ⟨(decide (p7.Kind=9)),hm,o.hs,u⟩
 refine cfv o rfl M2<|rg<|qv o (Al o rfl rfl) λo=>qa o rfl λo=>re<|tn<|?_
 exact ⟨(decide (p7.Kind=10)),hm,o.hs,u⟩
 rintro a w ⟨Y2,hm,o,u⟩
 unfold Z66 at hm
 rcases bit hm with ⟨O2,hm⟩ | ⟨O2,hm⟩
 refine ctv o rfl O2<|th<|?_
 obtain ⟨l3,L3,hm⟩:=bs hm
 obtain ⟨u3,M3,hm⟩:=bs hm
 refine rdS 6 u wide λw u=>dq 0 u.ld o rfl (λw hl=>Ay o isAgg27 sizeOf27 rfl rfl (hl.cellsB t0)) λo=>dr 2 u o rfl (Af o Du rfl) λo=>dq 3 u.ld o rfl (λw hl=>Ag o isAgg9 rfl (hl.cellB t2 rfl)) λo=>da1 (i:=1) (by kernel_rfl) ?_
 refine di (i:=1) rfl<|c1 o rfl call28 (Yj (Ai _) (Enc.mono (St.up u) (show Enc.rep (α:=api_Prog) H [SL R0 p1.Lines C0,SL S0 p1.Vols D0,SL T0 p1.Locks E0,SL U0 p1.Threads F0,SL V0 p1.Recover G0,SL W0 p1.Claims I0] p1 from ⟨_,_,rfl,⟨_,_,rfl,C1,E1⟩,⟨_,_,rfl,⟨_,_,rfl,F1,G1⟩,⟨_,_,rfl,⟨_,_,rfl,I1,J1⟩,⟨_,_,rfl,⟨_,_,rfl,M1,O1⟩,⟨_,_,rfl,⟨_,_,rfl,P1,Q1⟩,⟨_,_,rfl,R1,S1⟩⟩⟩⟩⟩⟩)) L3) ⟨rfl,trivial⟩ (λv w a hR o=>?_)
 obtain ⟨W3,R3,X3,rfl,P2,hk⟩:=hR
 replace u:=u.fresh hk
 replace P2:=P2 H
 refine ⟨λ_=>(St.ldsX u i2 ta1),?_⟩
 refine da1 (i:=4) (by kernel_rfl) ?_
 refine di (i:=4) rfl<|cr o call33 (Hc (Ai _) (St.capO u t0) (St.srO u t0 P2) M3) u λu o=>⟨λ_=>(St.ldsX u i2 ta1),?_⟩
 refine ds 5 (St.ldsX u i2 ta1) o rfl (Aq o rfl rfl) λo=>de (by kernel_rfl)<|?_
 rcases bip hm with ⟨Q2,hm⟩ | ⟨Q2,hm⟩
 refine tn<|ctv o rfl Q2<|th<|rg<|qv o (Af o En rfl) λo=>qv o (Ag o isAgg3 rfl (u.ld.cellB t3 rfl)) λo=>qa o rfl λo=>re<|tn<|wr<|br<|tr<|?_
 obtain rfl:=si hm
 exact r1 o results62 rfl ⟨rfl,u.keep⟩
 refine tn<|cfv o rfl Q2<|wk<|bn<|tn<|?_
 replace u:=u.pk [2,2] rfl
 exact ⟨hm,o.has ⟨rfl,rfl,trivial⟩,u⟩
 refine cfv o rfl O2<|wk<|bn<|tn<|?_
 replace u:=u.pk [1,1] rfl
 exact ⟨hm,o.has ⟨rfl,rfl,trivial⟩,u⟩
 rintro a w ⟨hm,o,u⟩
 unfold Z62 at hm
 refine th<|?_
 obtain ⟨A4,O3,hm⟩:=bs hm
 refine rg<|qv o (Af o Dx rfl) λo=>qv o (Ag o isAgg49 rfl (u.ld.cellB t1 rfl)) λo=>qv o (Af o Da rfl) λo=>qv o (Ag o isAgg36 rfl (u.ld.cellB t0 rfl)) λo=>ls<|cr o call63 (Ud (Ai _) A3 (St.srH u B3) T1 (St.srH u U1) O3) u λu o=>qa o rfl λo=>re<|tn<|th<|th<|rg<|qm o rfl λo=>qv o (Bi o rfl rfl) λo=>re<|?_
 rcases bip hm with ⟨R2,hm⟩ | ⟨R2,hm⟩
 refine tn<|ctv o rfl R2<|th<|rg<|qm o rfl λo=>qa o rfl λo=>re<|tn<|wr<|tr<|?_
 obtain rfl:=si hm
 exact r1 o results62 rfl ⟨rfl,u.keep⟩
 refine tn<|cfv o rfl R2<|wk<|tn<|th<|?_
 obtain ⟨B4,P3,hm⟩:=bs hm
 refine rg<|qv o (Af o Jo rfl) λo=>qv o (Ag o isAgg49 rfl (u.ld.cellB t1 rfl)) λo=>qv o (Af o Da rfl) λo=>qv o (Ag o isAgg36 rfl (u.ld.cellB t0 rfl)) λo=>ls<|cr o call63 (Ud (Ai _) C3 (St.srH u D3) T1 (St.srH u U1) P3) u λu o=>qa o rfl λo=>re<|tn<|wr<|?_
 obtain rfl:=si hm
 exact r1 o results62 rfl ⟨rfl,u.keep⟩
end Go.LM.LB
