/- Walks, lifted by program. No condition beyond the theorems' own premises. -/
import Derived.Test.YtgdkaddhhpgeiaaGreatDoorLBQ3
namespace Go.LM.LB
open Go Go.LL Go.MD Go.LM Go.Proofs Go.MD.LB Go.Proofs.Tryz
set_option maxRecDepth 100000
variable {N:Nat} {w0:World} {H:PH}
set_option maxHeartbeats 4000000 in
theorem Us (hH:H.le w0) {G0:Option Addr} {D0:Nat} {p1:(List api_Thread)} (M2:p1.length≤D0) (E0:SR H G0 p1) {p6:Bool} {r:Bool} (hm:Z61 N p1 p6=some r):Tot Tryz.prog 100 #[SL G0 p1 D0,.bool p6] w0 (λv w'=>v=.bool r∧Keep Nil w0 w'):=by
 unfold Z61 at hm
 refine fn0 func100 rfl ntmps100 rfl rfl λa o=>?_
 have u:St w0 Nil [H] [] w0:=start1 hH
 refine th<|rg<|qa o rfl λo=>re<|tn<|th<|th<|rg<|qa o rfl λo=>re<|tn<|Au (λa w=>Z62=some r∧Fr 71 [] a∧St w0 Nil [H] [] w) ?_ ?_
 refine wb<|lp (α:=Nat×Int) (λgh a w=>match gh with | (J0,C0)=>(Z65 N Z62 p1 p6) J0 C0=some r∧Fr 71 [(0,SL G0 p1 D0),(1,.bool p6),(5,i6 C0)] a∧St w0 Nil [H] [] w) (λgh=>gh.1) (N,0) ⟨hm,o.hs,u⟩ ?_
 rintro ⟨J0,C0⟩ a w ⟨hm,o,u⟩
 obtain _ | J0:=J0
 simp [Z65] at hm
 rw [Z65] at hm
 refine th<|th<|rg<|qm o rfl λo=>qm o rfl λo=>qv o (Ak (α:=api_Thread) (xs:=p1) o runUnderlying24 rfl) λo=>qv o (Ap o rfl rfl) λo=>re<|?_
 rcases bip hm with ⟨U0,hm⟩ | ⟨U0,hm⟩
 refine tn<|ctv o rfl U0<|wk<|tn<|th<|Au (λa w=>(Z63 (Z65 N Z62 p1 p6 J0) C0)=some r∧Fr 71 [(0,SL G0 p1 D0),(1,.bool p6),(5,i6 C0)] a∧St w0 Nil [H] [] w) ?_ ?_
 refine wb<|th<|th<|Au (λa w=>∃ (V0:Bool),(Z64 N (Z63 (Z65 N Z62 p1 p6 J0) C0) p1 C0) V0=some r∧Fr 71 [(0,SL G0 p1 D0),(1,.bool p6),(5,i6 C0),(50,.bool V0)] a∧St w0 Nil [H] [] w) ?_ ?_
 obtain ⟨I0,h9,hm⟩:=bs hm
 obtain ⟨O2,G1,F0⟩:=SR.get E0 h9
 obtain ⟨Y1,T1,B2,U1,rfl,C2,E2,C1,E1⟩:=Ar G1
 obtain ⟨W0,X0,hm⟩:=bs hm
 rcases bit hm with ⟨K0,hm⟩ | ⟨K0,hm⟩
 refine rg<|qm o rfl λo=>?_
 iterate 2 refine qm o rfl λo=>?_
 refine qv o (Ao o runUnderlying24 sizeOf48 rfl rfl h9 (SR.oaI E0 (by decide) h9)) λo=>qv o (Af o Ed rfl) λo=>qv o (Ag o isAgg9 rfl (PH.le.cell (Lds.le u.ld) (F0 0 _ rfl))) λo=>ls<|cr o call114 (Gc (Ai _) X0) u λu o=>qv o (Gn o runUnderlying4 rfl rfl) λo=>qm o rfl λo=>gr (Fk:=[(0,SL G0 p1 D0),(1,.bool p6),(5,i6 C0),(32,.bool ((p6 != W0) || ((!p6) && (decide (I0.Name≠[])))))]) 21 11 o u ?_ ?_ ?_
 intro hb o key
 iterate 3 refine qn o λo=>?_
 iterate 6 refine ls<|gnu o rfl rfl rfl λa o=>?_
 exact qn o λo=>qk o (Ad o rfl rfl) key u hb
 intro hb o key
 refine qg o (Ab o rfl) λo=>qg o (Az o rfl) λo=>qg o (Ab o rfl) λo=>gr (Fk:=[(0,SL G0 p1 D0),(1,.bool p6),(5,i6 C0),(21,.bool false),(31,.bool ((!p6) && (decide (I0.Name≠[]))))]) 24 7 o u ?_ ?_ ?_
 intro hb o key
 iterate 2 refine qg o (Ab o rfl) λo=>?_
 exact qg o (Ao o runUnderlying24 sizeOf48 rfl rfl h9 (SR.oaI E0 (by decide) h9)) λo=>qg o (Af o Ed rfl) λo=>qg o (Ag o isAgg9 rfl (PH.le.cell (Lds.le u.ld) (F0 0 _ rfl))) λo=>qg o (Dd (m:=I0.Name) (n:=[]) o rfl rfl) λo=>ql o (Ad o rfl rfl) key u hb
 intro hb o key
 iterate 6 refine qn o λo=>?_
 exact ql o (Ae o rfl rfl) key u hb
 intro a w o u
 exact qk o (Ae o rfl rfl) key u hb
 intro a w o u
 refine qv o (Aq (Ab o rfl) (congrArg Value.bool K0)) λo=>?_
 iterate 7 refine qn o λo=>?_
 refine qv o (Ad o rfl rfl) λo=>qm o rfl λo=>?_
 iterate 7 refine qn o λo=>?_
 refine qv o (Ad o rfl rfl) λo=>re<|tn<|?_
 exact ⟨true,hm,o.hs,u⟩
 obtain ⟨u0,B1,hm⟩:=bs hm
 rcases bit hm with ⟨P0,hm⟩ | ⟨P0,hm⟩
 have P0':(!u0)=false:=by rw [P0];rfl
 obtain ⟨I1,J1,hm⟩:=bs hm
 refine rg<|qm o rfl λo=>?_
 iterate 2 refine qm o rfl λo=>?_
 refine qv o (Ao o runUnderlying24 sizeOf48 rfl rfl h9 (SR.oaI E0 (by decide) h9)) λo=>qv o (Af o Ed rfl) λo=>qv o (Ag o isAgg9 rfl (PH.le.cell (Lds.le u.ld) (F0 0 _ rfl))) λo=>ls<|cr o call114 (Gc (Ai _) X0) u λu o=>qv o (Gn o runUnderlying4 rfl rfl) λo=>qm o rfl λo=>gr (Fk:=[(0,SL G0 p1 D0),(1,.bool p6),(5,i6 C0),(32,.bool ((p6 != W0) || ((!p6) && (decide (I0.Name≠[])))))]) 21 11 o u ?_ ?_ ?_
 intro hb o key
 iterate 3 refine qn o λo=>?_
 iterate 6 refine ls<|gnu o rfl rfl rfl λa o=>?_
 exact qn o λo=>qk o (Ad o rfl rfl) key u hb
 intro hb o key
 refine qg o (Ab o rfl) λo=>qg o (Az o rfl) λo=>qg o (Ab o rfl) λo=>gr (Fk:=[(0,SL G0 p1 D0),(1,.bool p6),(5,i6 C0),(21,.bool false),(31,.bool ((!p6) && (decide (I0.Name≠[]))))]) 24 7 o u ?_ ?_ ?_
 intro hb o key
 iterate 2 refine qg o (Ab o rfl) λo=>?_
 exact qg o (Ao o runUnderlying24 sizeOf48 rfl rfl h9 (SR.oaI E0 (by decide) h9)) λo=>qg o (Af o Ed rfl) λo=>qg o (Ag o isAgg9 rfl (PH.le.cell (Lds.le u.ld) (F0 0 _ rfl))) λo=>qg o (Dd (m:=I0.Name) (n:=[]) o rfl rfl) λo=>ql o (Ad o rfl rfl) key u hb
 intro hb o key
 iterate 6 refine qn o λo=>?_
 exact ql o (Ae o rfl rfl) key u hb
 intro a w o u
 exact qk o (Ae o rfl rfl) key u hb
 intro a w o u
 refine qv o (Aq (Ab o rfl) (congrArg Value.bool K0)) λo=>?_
 iterate 2 refine qg o (Ab o rfl) λo=>?_
 refine qg o (Ao o runUnderlying24 sizeOf48 rfl rfl h9 (SR.oaI E0 (by decide) h9)) λo=>qg o (Af o Ga rfl) λo=>qg o (Ag o isAgg3 rfl (PH.le.cell (Lds.le u.ld) (F0 3 _ rfl))) λo=>ls<|gy o rfl rfl<|cr o call98 (Og (Ai _) B1) u λu o=>qg o (Az o rfl) λo=>qv o (Ae o rfl rfl) λo=>qv o (Aq (Ab o rfl) (congrArg Value.bool P0')) λo=>?_
 iterate 2 refine qg o (Ab o rfl) λo=>?_
 refine qg o (Ao o runUnderlying24 sizeOf48 rfl rfl h9 (SR.oaI E0 (by decide) h9)) λo=>qg o (Af o Dy rfl) λo=>qg o (Ag o isAgg46 rfl (PH.le.cell (Lds.le u.ld) (F0 2 _ rfl))) λo=>ls<|gy o rfl rfl<|cr o call44 (Vv (Ai _) C1 (St.srH u E1) J1) u λu o=>qg o (Az o rfl) λo=>qv o (Ae o rfl rfl) λo=>re<|tn<|?_
 exact ⟨(!I1),hm,o.hs,u⟩
 have P0':(!u0)=true:=by rw [P0];rfl
 refine rg<|qm o rfl λo=>?_
 iterate 2 refine qm o rfl λo=>?_
 refine qv o (Ao o runUnderlying24 sizeOf48 rfl rfl h9 (SR.oaI E0 (by decide) h9)) λo=>qv o (Af o Ed rfl) λo=>qv o (Ag o isAgg9 rfl (PH.le.cell (Lds.le u.ld) (F0 0 _ rfl))) λo=>ls<|cr o call114 (Gc (Ai _) X0) u λu o=>qv o (Gn o runUnderlying4 rfl rfl) λo=>qm o rfl λo=>gr (Fk:=[(0,SL G0 p1 D0),(1,.bool p6),(5,i6 C0),(32,.bool ((p6 != W0) || ((!p6) && (decide (I0.Name≠[])))))]) 21 11 o u ?_ ?_ ?_
 intro hb o key
 iterate 3 refine qn o λo=>?_
 iterate 6 refine ls<|gnu o rfl rfl rfl λa o=>?_
 exact qn o λo=>qk o (Ad o rfl rfl) key u hb
 intro hb o key
 refine qg o (Ab o rfl) λo=>qg o (Az o rfl) λo=>qg o (Ab o rfl) λo=>gr (Fk:=[(0,SL G0 p1 D0),(1,.bool p6),(5,i6 C0),(21,.bool false),(31,.bool ((!p6) && (decide (I0.Name≠[]))))]) 24 7 o u ?_ ?_ ?_
 intro hb o key
 iterate 2 refine qg o (Ab o rfl) λo=>?_
 exact qg o (Ao o runUnderlying24 sizeOf48 rfl rfl h9 (SR.oaI E0 (by decide) h9)) λo=>qg o (Af o Ed rfl) λo=>qg o (Ag o isAgg9 rfl (PH.le.cell (Lds.le u.ld) (F0 0 _ rfl))) λo=>qg o (Dd (m:=I0.Name) (n:=[]) o rfl rfl) λo=>ql o (Ad o rfl rfl) key u hb
 intro hb o key
 iterate 6 refine qn o λo=>?_
 exact ql o (Ae o rfl rfl) key u hb
 intro a w o u
 exact qk o (Ae o rfl rfl) key u hb
 intro a w o u
 refine qv o (Aq (Ab o rfl) (congrArg Value.bool K0)) λo=>?_
 iterate 2 refine qg o (Ab o rfl) λo=>?_
 refine qg o (Ao o runUnderlying24 sizeOf48 rfl rfl h9 (SR.oaI E0 (by decide) h9)) λo=>qg o (Af o Ga rfl) λo=>qg o (Ag o isAgg3 rfl (PH.le.cell (Lds.le u.ld) (F0 3 _ rfl))) λo=>ls<|gy o rfl rfl<|cr o call98 (Og (Ai _) B1) u λu o=>qg o (Az o rfl) λo=>qv o (Ae o rfl rfl) λo=>qv o (Aq (Ab o rfl) (congrArg Value.bool P0')) λo=>?_
 iterate 7 refine qn o λo=>?_
 refine qv o (Ad o rfl rfl) λo=>re<|tn<|?_
 exact ⟨true,hm,o.hs,u⟩
 rintro a w ⟨V0,hm,o,u⟩
 unfold Z64 at hm
 rcases bit hm with ⟨Q0,hm⟩ | ⟨Q0,hm⟩
 refine ctv o rfl Q0<|th<|rg<|qa o rfl λo=>re<|tn<|wr<|tr<|br<|tr<|tr<|br<|tr<|?_
 obtain rfl:=si hm
 exact r1 o results100 rfl ⟨rfl,u.keep⟩
 refine cfv o rfl Q0<|wk<|tn<|th<|rg<|qa o rfl λo=>re<|tn<|wb<|lp (α:=Nat×Int) (λgh a w=>match gh with | (M0,T0)=>(Z66 N (Z63 (Z65 N Z62 p1 p6 J0) C0) p1 C0) M0 T0=some r∧Fr 71 [(0,SL G0 p1 D0),(1,.bool p6),(5,i6 C0),(6,i6 T0)] a∧St w0 Nil [H] [] w) (λgh=>gh.1) (N,0) ⟨hm,o.hs,u⟩ ?_
 rintro ⟨M0,T0⟩ a w ⟨hm,o,u⟩
 obtain _ | M0:=M0
 simp [Z66] at hm
 rw [Z66] at hm
 refine th<|th<|?_
 obtain ⟨M1,O0,hm⟩:=bs hm
 obtain ⟨P2,O1,Y0⟩:=SR.get E0 O0
 obtain ⟨F2,V1,G2,X1,rfl,I2,j0,J2,K2⟩:=Ar O1
 refine rg<|qm o rfl λo=>?_
 iterate 2 refine qm o rfl λo=>?_
 refine qv o (Ao o runUnderlying24 sizeOf48 rfl rfl O0 (SR.oaI E0 (by decide) O0)) λo=>qv o (Af o Cm rfl) λo=>qv o (Ag o isAgg36 rfl (PH.le.cell (Lds.le u.ld) (Y0 1 _ rfl))) λo=>qv o (Ak (α:=Str) (xs:=M1.Regs) o runUnderlying36 rfl) λo=>qv o (Ap o rfl rfl) λo=>re<|?_
 rcases bip hm with ⟨R0,hm⟩ | ⟨R0,hm⟩
 refine tn<|ctv o rfl R0<|wk<|tn<|th<|wb<|th<|?_
 obtain ⟨P1,n0,hm⟩:=bs hm
 obtain ⟨Q1,R1,F1⟩:=SR.get j0 n0
 obtain rfl:Q1=[Ac P1]:=R1
 obtain ⟨Q2,S1,hm⟩:=bs hm
 refine rg<|qm o rfl λo=>qm o rfl λo=>qv o (Ao o runUnderlying24 sizeOf48 rfl rfl O0 (SR.oaI E0 (by decide) O0)) λo=>qv o (Af o Cm rfl) λo=>qv o (Ag o isAgg36 rfl (PH.le.cell (Lds.le u.ld) (Y0 1 _ rfl))) λo=>qm o rfl λo=>qv o (Ao o runUnderlying36 sizeOf9 rfl rfl n0 (SR.oaI j0 (by decide) n0)) λo=>qv o (Ag o isAgg9 rfl (PH.le.cell (Lds.le u.ld) (F1 0 _ rfl))) λo=>ls<|cr o call114 (Gc (Ai _) S1) u λu o=>qv o (Az o rfl) λo=>re<|?_
 rcases bit hm with ⟨S0,hm⟩ | ⟨S0,hm⟩
 refine tn<|cfv o rfl (by rw [S0];rfl)<|wk<|bn<|tn<|rg<|qm o rfl λo=>qv o (Am o rfl rfl) λo=>qa o rfl λo=>re<|tn<|?_
 exact ⟨(M0,(IntKind.i64.wrap (T0+1))),⟨hm,o.hs,u⟩,Nat.lt_succ_self _⟩
 refine tn<|ctv o rfl (by rw [S0];rfl)<|th<|rg<|qa o rfl λo=>re<|tn<|wr<|br<|tr<|tr<|br<|br<|tr<|tr<|br<|tr<|?_
 obtain rfl:=si hm
 exact r1 o results100 rfl ⟨rfl,u.keep⟩
 refine tn<|cfv o rfl R0<|we<|tx<|tx<|bx<|bn<|tn<|?_
 exact ⟨hm,o.hs,u⟩
 rintro a w ⟨hm,o,u⟩
 unfold Z63 at hm
 refine rg<|qm o rfl λo=>qv o (Am o rfl rfl) λo=>qa o rfl λo=>re<|tn<|?_
 exact ⟨(J0,(IntKind.i64.wrap (C0+1))),⟨hm,o.hs,u⟩,Nat.lt_succ_self _⟩
 refine tn<|cfv o rfl U0<|we<|tx<|tx<|bx<|tn<|?_
 exact ⟨hm,o.has trivial,u⟩
 rintro a w ⟨hm,o,u⟩
 unfold Z62 at hm
 refine th<|rg<|qa o rfl λo=>re<|tn<|wr<|?_
 obtain rfl:=si hm
 exact r1 o results100 rfl ⟨rfl,u.keep⟩
set_option maxHeartbeats 4000000 in
theorem Jc8 (hH:H.le w0) {cs2:List Value} {p1:api_Prog} (g3:Enc.rep H cs2 p1) {r:Bool} (hm:Z5p N p1=some r):Tot Tryz.prog 57 #[.agg cs2.toArray] w0 (λv w'=>v=.bool r∧Keep Nil w0 w'):=by
 unfold Z5p at hm
 refine fn0 func57 rfl ntmps57 rfl rfl λa o=>?_
 have u:St w0 Nil [H] [] w0:=start1 hH
 obtain ⟨P0,I0,oa8,cap9,J0,C0,K0,D0,M0,E0,O0,F0,rfl,D3,Q1,X0,Y0,u0,B1,S1,T1,F2,G2,A3,j0⟩:=Ba g3
 refine th<|rg<|ls<|Bt (cs:=[SL P0 p1.Lines I0,SL oa8 p1.Vols cap9,SL J0 p1.Locks C0,SL K0 p1.Threads D0,SL M0 p1.Recover E0,SL O0 p1.Claims F0].toArray) o rfl u rfl rfl λG0 w a u o=>qa o rfl λo=>re<|tn<|th<|th<|rg<|qa o rfl λo=>re<|tn<|Au (λa w=>(Z5q N p1)=some r∧Fr 77 [(1,PT G0)] a∧St w0 Nil [H] [bk G0 [SL P0 p1.Lines I0,SL oa8 p1.Vols cap9,SL J0 p1.Locks C0,SL K0 p1.Threads D0,SL M0 p1.Recover E0,SL O0 p1.Claims F0] 27] w) ?_ ?_
 refine wb<|lp (α:=Nat×Int) (λgh a w=>match gh with | (T0,U0)=>(Z5u N (Z5q N p1) p1) T0 U0=some r∧Fr 77 [(1,PT G0),(3,i6 U0)] a∧St w0 Nil [H] [bk G0 [SL P0 p1.Lines I0,SL oa8 p1.Vols cap9,SL J0 p1.Locks C0,SL K0 p1.Threads D0,SL M0 p1.Recover E0,SL O0 p1.Claims F0] 27] w) (λgh=>gh.1) (N,0) ⟨hm,o.has ⟨rfl,rfl,trivial⟩,u⟩ ?_
 rintro ⟨T0,U0⟩ a w ⟨hm,o,u⟩
 obtain _ | T0:=T0
 simp [Z5u] at hm
 rw [Z5u] at hm
 refine th<|th<|rg<|qm o rfl λo=>qv o (Af o Ch rfl) λo=>qv o (Ag o isAgg22 rfl (u.ld.cellB t0 rfl)) λo=>qv o (Ak (α:=(List api_Cell)) (xs:=p1.Lines) o runUnderlying22 rfl) λo=>qv o (Ap o rfl rfl) λo=>re<|?_
 rcases bip hm with ⟨C1,hm⟩ | ⟨C1,hm⟩
 refine tn<|ctv o rfl C1<|wk<|tn<|th<|wb<|th<|Au (λa w=>∃ (U1:Bool),(Z5r (Z5u N (Z5q N p1) p1 T0) U0) U1=some r∧Fr 77 [(1,PT G0),(3,i6 U0),(27,.bool U1)] a∧St w0 Nil [H] [bk G0 [SL P0 p1.Lines I0,SL oa8 p1.Vols cap9,SL J0 p1.Locks C0,SL K0 p1.Threads D0,SL M0 p1.Recover E0,SL O0 p1.Claims F0] 27] w) ?_ ?_
 obtain ⟨Y1,Q0,hm⟩:=bs hm
 obtain ⟨E3,O2,E1⟩:=SR.get Q1 Q0
 obtain ⟨B3,X2,rfl,I2,J2⟩:=O2
 rcases bip hm with ⟨F1,hm⟩ | ⟨F1,hm⟩
 refine rg<|qv o (Af o Ch rfl) λo=>qv o (Ag o isAgg22 rfl (u.ld.cellB t0 rfl)) λo=>qm o rfl λo=>qv o (Ao o runUnderlying22 sizeOf23 rfl rfl Q0 (SR.oaI Q1 (by decide) Q0)) λo=>qv o (Ag o isAgg23 rfl (PH.le.cell (Lds.le u.ld) (E1 0 _ rfl))) λo=>qv o (Ak (α:=api_Cell) (xs:=Y1) o runUnderlying23 rfl) λo=>qv o (An o rfl rfl) λo=>qv o (Aq (Ab o rfl) (congrArg Value.bool F1)) λo=>?_
 iterate 7 refine qn o λo=>?_
 refine qv o (Ad o rfl rfl) λo=>re<|tn<|?_
 exact ⟨true,hm,o.hs,u⟩
 obtain ⟨P2,Q2,hm⟩:=bs hm
 refine rg<|qv o (Af o Ch rfl) λo=>qv o (Ag o isAgg22 rfl (u.ld.cellB t0 rfl)) λo=>qm o rfl λo=>qv o (Ao o runUnderlying22 sizeOf23 rfl rfl Q0 (SR.oaI Q1 (by decide) Q0)) λo=>qv o (Ag o isAgg23 rfl (PH.le.cell (Lds.le u.ld) (E1 0 _ rfl))) λo=>qv o (Ak (α:=api_Cell) (xs:=Y1) o runUnderlying23 rfl) λo=>qv o (An o rfl rfl) λo=>qv o (Aq (Ab o rfl) (congrArg Value.bool F1)) λo=>qg o (Af o Ch rfl) λo=>qg o (Ag o isAgg22 rfl (u.ld.cellB t0 rfl)) λo=>qg o (Ab o rfl) λo=>qg o (Ao o runUnderlying22 sizeOf23 rfl rfl Q0 (SR.oaI Q1 (by decide) Q0)) λo=>qg o (Ag o isAgg23 rfl (PH.le.cell (Lds.le u.ld) (E1 0 _ rfl))) λo=>ls<|gy o rfl rfl<|cr o call97 (Jz (Ai _) I2 (St.srH u J2) Q2) u λu o=>qg o (Az o rfl) λo=>qv o (Ae o rfl rfl) λo=>re<|tn<|?_
 exact ⟨(!P2),hm,o.hs,u⟩
 rintro a w ⟨U1,hm,o,u⟩
 unfold Z5r at hm
 rcases bit hm with ⟨G1,hm⟩ | ⟨G1,hm⟩
 refine ctv o rfl G1<|th<|rg<|qa o rfl λo=>re<|tn<|wr<|br<|tr<|tr<|br<|tr<|?_
 obtain rfl:=si hm
 exact r1 o results57 rfl ⟨rfl,u.keep⟩
 refine cfv o rfl G1<|wk<|bn<|tn<|rg<|qm o rfl λo=>qv o (Am o rfl rfl) λo=>qa o rfl λo=>re<|tn<|?_
 exact ⟨(T0,(IntKind.i64.wrap (U0+1))),⟨hm,o.has ⟨rfl,rfl,trivial⟩,u⟩,Nat.lt_succ_self _⟩
 refine tn<|cfv o rfl C1<|we<|tx<|tx<|bx<|tn<|?_
 exact ⟨hm,o.has ⟨rfl,trivial⟩,u⟩
 rintro a w ⟨hm,o,u⟩
 unfold Z5q at hm
 refine th<|th<|rg<|qa o rfl λo=>re<|tn<|Au (λa w=>(Z5s N p1)=some r∧Fr 77 [(1,PT G0)] a∧St w0 Nil [H] [bk G0 [SL P0 p1.Lines I0,SL oa8 p1.Vols cap9,SL J0 p1.Locks C0,SL K0 p1.Threads D0,SL M0 p1.Recover E0,SL O0 p1.Claims F0] 27] w) ?_ ?_
 refine wb<|lp (α:=Nat×Int) (λgh a w=>match gh with | (V0,W0)=>(Z5v N (Z5s N p1) p1) V0 W0=some r∧Fr 77 [(1,PT G0),(4,i6 W0)] a∧St w0 Nil [H] [bk G0 [SL P0 p1.Lines I0,SL oa8 p1.Vols cap9,SL J0 p1.Locks C0,SL K0 p1.Threads D0,SL M0 p1.Recover E0,SL O0 p1.Claims F0] 27] w) (λgh=>gh.1) (N,0) ⟨hm,o.has ⟨rfl,rfl,trivial⟩,u⟩ ?_
 rintro ⟨V0,W0⟩ a w ⟨hm,o,u⟩
 obtain _ | V0:=V0
 simp [Z5v] at hm
 rw [Z5v] at hm
 refine th<|th<|rg<|qm o rfl λo=>qv o (Af o De rfl) λo=>qv o (Ag o isAgg25 rfl (u.ld.cellB t0 rfl)) λo=>qv o (Ak (α:=api_Claim) (xs:=p1.Claims) o runUnderlying25 rfl) λo=>qv o (Ap o rfl rfl) λo=>re<|?_
 rcases bip hm with ⟨I1,hm⟩ | ⟨I1,hm⟩
 refine tn<|ctv o rfl I1<|wk<|tn<|th<|wb<|th<|Au (λa w=>∃ (V1:Bool),(Z5t (Z5v N (Z5s N p1) p1 V0) W0) V1=some r∧Fr 77 [(1,PT G0),(4,i6 W0),(52,.bool V1)] a∧St w0 Nil [H] [bk G0 [SL P0 p1.Lines I0,SL oa8 p1.Vols cap9,SL J0 p1.Locks C0,SL K0 p1.Threads D0,SL M0 p1.Recover E0,SL O0 p1.Claims F0] 27] w) ?_ ?_
 obtain ⟨F3,R0,hm⟩:=bs hm
 obtain ⟨G3,R2,J1⟩:=SR.get j0 R0
 obtain ⟨C3,Y2,rfl,K2,M2⟩:=Ck R2
 obtain ⟨B2,C2,hm⟩:=bs hm
 rcases bit hm with ⟨M1,hm⟩ | ⟨M1,hm⟩
 have M1':(!B2)=false:=by rw [M1];rfl
 obtain ⟨T2,U2,hm⟩:=bs hm
 refine rg<|qv o (Af o De rfl) λo=>qv o (Ag o isAgg25 rfl (u.ld.cellB t0 rfl)) λo=>qm o rfl λo=>qv o (Ao o runUnderlying25 sizeOf74 rfl rfl R0 (SR.oaI j0 (by decide) R0)) λo=>qv o (Af o La rfl) λo=>qv o (Ag o isAgg3 rfl (PH.le.cell (Lds.le u.ld) (J1 1 _ rfl))) λo=>ls<|cr o call98 (Og (Ai _) C2) u λu o=>qv o (Az o rfl) λo=>qv o (Aq (Ab o rfl) (congrArg Value.bool M1')) λo=>qg o (Af o De rfl) λo=>qg o (Ag o isAgg25 rfl (u.ld.cellB t0 rfl)) λo=>qg o (Ab o rfl) λo=>qg o (Ao o runUnderlying25 sizeOf74 rfl rfl R0 (SR.oaI j0 (by decide) R0)) λo=>qg o (Af o Ks rfl) λo=>qg o (Ag o isAgg49 rfl (PH.le.cell (Lds.le u.ld) (J1 0 _ rfl))) λo=>ls<|gy o rfl rfl<|cr o call99 (Sw (Ai _) K2 (St.srH u M2) U2) u λu o=>qg o (Az o rfl) λo=>qv o (Ae o rfl rfl) λo=>re<|tn<|?_
 exact ⟨(!T2),hm,o.hs,u⟩
 have M1':(!B2)=true:=by rw [M1];rfl
 refine rg<|qv o (Af o De rfl) λo=>qv o (Ag o isAgg25 rfl (u.ld.cellB t0 rfl)) λo=>qm o rfl λo=>qv o (Ao o runUnderlying25 sizeOf74 rfl rfl R0 (SR.oaI j0 (by decide) R0)) λo=>qv o (Af o La rfl) λo=>qv o (Ag o isAgg3 rfl (PH.le.cell (Lds.le u.ld) (J1 1 _ rfl))) λo=>ls<|cr o call98 (Og (Ai _) C2) u λu o=>qv o (Az o rfl) λo=>qv o (Aq (Ab o rfl) (congrArg Value.bool M1')) λo=>?_
 iterate 8 refine qn o λo=>?_
 refine qv o (Ad o rfl rfl) λo=>re<|tn<|?_
 exact ⟨true,hm,o.hs,u⟩
 rintro a w ⟨V1,hm,o,u⟩
 unfold Z5t at hm
 rcases bit hm with ⟨O1,hm⟩ | ⟨O1,hm⟩
 refine ctv o rfl O1<|th<|rg<|qa o rfl λo=>re<|tn<|wr<|br<|tr<|tr<|br<|tr<|?_
 obtain rfl:=si hm
 exact r1 o results57 rfl ⟨rfl,u.keep⟩
 refine cfv o rfl O1<|wk<|bn<|tn<|rg<|qm o rfl λo=>qv o (Am o rfl rfl) λo=>qa o rfl λo=>re<|tn<|?_
 exact ⟨(V0,(IntKind.i64.wrap (W0+1))),⟨hm,o.has ⟨rfl,rfl,trivial⟩,u⟩,Nat.lt_succ_self _⟩
 refine tn<|cfv o rfl I1<|we<|tx<|tx<|bx<|tn<|?_
 exact ⟨hm,o.has ⟨rfl,trivial⟩,u⟩
 rintro a w ⟨hm,o,u⟩
 unfold Z5s at hm
 refine th<|?_
 obtain ⟨I3,R1,hm⟩:=bs hm
 rcases bit hm with ⟨S0,hm⟩ | ⟨S0,hm⟩
 obtain ⟨J3,X1,hm⟩:=bs hm
 rcases bit hm with ⟨n0,hm⟩ | ⟨n0,hm⟩
 obtain ⟨K3,E2,hm⟩:=bs hm
 rcases bit hm with ⟨P1,hm⟩ | ⟨P1,hm⟩
 obtain ⟨V2,W2,hm⟩:=bs hm
 refine rg<|qv o (Af o Ec rfl) λo=>qv o (Ag o isAgg23 rfl (u.ld.cellB t0 rfl)) λo=>ls<|cr o call97 (Jz (Ai _) X0 (St.srH u Y0) R1) u λu o=>qv o (Aq (Ab o rfl) (congrArg Value.bool S0)) λo=>qg o (Af o Ek rfl) λo=>qg o (Ag o isAgg23 rfl (u.ld.cellB t0 rfl)) λo=>ls<|gy o rfl rfl<|cr o call97 (Jz (Ai _) u0 (St.srH u B1) X1) u λu o=>qv o (Ad o rfl rfl) λo=>qv o (Aq (Ab o rfl) (congrArg Value.bool n0)) λo=>qg o (Af o Cf rfl) λo=>qg o (Ag o isAgg24 rfl (u.ld.cellB t0 rfl)) λo=>ls<|gy o rfl rfl<|cr o call100 (Us (Ai _) S1 (St.srH u T1) E2) u λu o=>qv o (Ad o rfl rfl) λo=>qv o (Aq (Ab o rfl) (congrArg Value.bool P1)) λo=>qg o (Af o Eo rfl) λo=>qg o (Ag o isAgg24 rfl (u.ld.cellB t0 rfl)) λo=>ls<|gy o rfl rfl<|cr o call100 (Us (Ai _) F2 (St.srH u G2) W2) u λu o=>qv o (Ad o rfl rfl) λo=>qm o rfl λo=>gr (Fk:=[(76,.bool (V2 && (decide ((p1.Recover.length:Int)≤1))))]) 71 5 o u ?_ ?_ ?_
 intro hb o key
 exact qg o (Af o Eo rfl) λo=>qg o (Ag o isAgg24 rfl (u.ld.cellB t0 rfl)) λo=>qg o (Ak (α:=api_Thread) (xs:=p1.Recover) o runUnderlying24 rfl) λo=>qg o (Di o rfl rfl) λo=>qk o (Ad o rfl rfl) key u hb
 intro hb o key
 iterate 4 refine qn o λo=>?_
 exact qk o (Ae o rfl rfl) key u hb
 intro a w o u
 refine qa o rfl λo=>re<|tn<|wr<|?_
 obtain rfl:=si hm
 exact r1 o results57 rfl ⟨rfl,u.keep⟩
 refine rg<|qv o (Af o Ec rfl) λo=>qv o (Ag o isAgg23 rfl (u.ld.cellB t0 rfl)) λo=>ls<|cr o call97 (Jz (Ai _) X0 (St.srH u Y0) R1) u λu o=>qv o (Aq (Ab o rfl) (congrArg Value.bool S0)) λo=>qg o (Af o Ek rfl) λo=>qg o (Ag o isAgg23 rfl (u.ld.cellB t0 rfl)) λo=>ls<|gy o rfl rfl<|cr o call97 (Jz (Ai _) u0 (St.srH u B1) X1) u λu o=>qv o (Ad o rfl rfl) λo=>qv o (Aq (Ab o rfl) (congrArg Value.bool n0)) λo=>qg o (Af o Cf rfl) λo=>qg o (Ag o isAgg24 rfl (u.ld.cellB t0 rfl)) λo=>ls<|gy o rfl rfl<|cr o call100 (Us (Ai _) S1 (St.srH u T1) E2) u λu o=>qv o (Ad o rfl rfl) λo=>qv o (Aq (Ab o rfl) (congrArg Value.bool P1)) λo=>?_
 iterate 3 refine qn o λo=>?_
 refine qv o (Ae o rfl rfl) λo=>qm o rfl λo=>?_
 iterate 4 refine qn o λo=>?_
 refine qv o (Ae o rfl rfl) λo=>qa o rfl λo=>re<|tn<|wr<|?_
 obtain rfl:=si hm
 exact r1 o results57 rfl ⟨rfl,u.keep⟩
 refine rg<|qv o (Af o Ec rfl) λo=>qv o (Ag o isAgg23 rfl (u.ld.cellB t0 rfl)) λo=>ls<|cr o call97 (Jz (Ai _) X0 (St.srH u Y0) R1) u λu o=>qv o (Aq (Ab o rfl) (congrArg Value.bool S0)) λo=>qg o (Af o Ek rfl) λo=>qg o (Ag o isAgg23 rfl (u.ld.cellB t0 rfl)) λo=>ls<|gy o rfl rfl<|cr o call97 (Jz (Ai _) u0 (St.srH u B1) X1) u λu o=>qv o (Ad o rfl rfl) λo=>qv o (Aq (Ab o rfl) (congrArg Value.bool n0)) λo=>?_
 iterate 3 refine qn o λo=>?_
 refine qv o (Ae o rfl rfl) λo=>qm o rfl λo=>?_
 iterate 3 refine qn o λo=>?_
 refine qv o (Ae o rfl rfl) λo=>qm o rfl λo=>?_
 iterate 4 refine qn o λo=>?_
 refine qv o (Ae o rfl rfl) λo=>qa o rfl λo=>re<|tn<|wr<|?_
 obtain rfl:=si hm
 exact r1 o results57 rfl ⟨rfl,u.keep⟩
 refine rg<|qv o (Af o Ec rfl) λo=>qv o (Ag o isAgg23 rfl (u.ld.cellB t0 rfl)) λo=>ls<|cr o call97 (Jz (Ai _) X0 (St.srH u Y0) R1) u λu o=>qv o (Aq (Ab o rfl) (congrArg Value.bool S0)) λo=>?_
 iterate 3 refine qn o λo=>?_
 refine qv o (Ae o rfl rfl) λo=>qm o rfl λo=>?_
 iterate 3 refine qn o λo=>?_
 refine qv o (Ae o rfl rfl) λo=>qm o rfl λo=>?_
 iterate 3 refine qn o λo=>?_
 refine qv o (Ae o rfl rfl) λo=>qm o rfl λo=>?_
 iterate 4 refine qn o λo=>?_
 refine qv o (Ae o rfl rfl) λo=>qa o rfl λo=>re<|tn<|wr<|?_
 obtain rfl:=si hm
 exact r1 o results57 rfl ⟨rfl,u.keep⟩
theorem Jay (hH:H.le w0) {cs2:List Value} {p1:api_Prog} (g3:Enc.rep H cs2 p1) {r:(List api_Thread)} (hm:Z70 N p1=some r):Tot Tryz.prog 59 #[.agg cs2.toArray] w0 (λv w'=>∃ (H':PH) (I0:Option Addr) (C0:Nat),v=SL I0 r C0∧r.length≤C0∧SR H' I0 r∧Ext w0 H H'∧H'.le w'∧Keep Nil w0 w'):=by
 unfold Z70 at hm
 refine fn0 func59 rfl ntmps59 rfl rfl λa o=>?_
 have u:St w0 Nil [H] [] w0:=start1 hH
 obtain ⟨Y0,J0,oa8,cap9,K0,D0,M0,E0,O0,F0,P0,G0,rfl,U1,V1,E1,F1,G1,I1,J1,Q0,M1,R0,O1,P1⟩:=Ba g3
 refine th<|rg<|ls<|Bt (cs:=[SL Y0 p1.Lines J0,SL oa8 p1.Vols cap9,SL K0 p1.Locks D0,SL M0 p1.Threads E0,SL O0 p1.Recover F0,SL P0 p1.Claims G0].toArray) o rfl u rfl rfl λX1 w a u o=>qa o rfl λo=>re<|tn<|th<|?_
 obtain ⟨j0,n0,hm⟩:=bs hm
 refine rg<|ls<|Bi (e:=48) (sz:=4) [] o rfl u rfl rfl rfl (λw=>by kernel_rfl) λY1 w a u o=>?_
 have S0:Rows (α:=api_Thread) H [] []:=.nil
 refine qv o (Af o Cf rfl) λo=>qv o (Ag o isAgg24 rfl (u.ld.cellB t1 rfl)) λo=>?_
 obtain ⟨us38,hd39,hu40⟩:=id Q0
 refine ls<|Cc (α:=api_Thread) (xs:=[]) (ys:=p1.Threads) o rfl u underlying24 Iv rfl (by decide) rfl rfl rfl t0 S0 (u.rdH t0 hd39) hu40 n0 λQ1 B1 R1 w a T0 hU o=>?_
 replace u:=hU _ .head
 refine qa o rfl λo=>re<|tn<|th<|?_
 obtain ⟨B2,u0,hm⟩:=bs hm
 refine rg<|qm o rfl λo=>qv o (Af o Eo rfl) λo=>qv o (Ag o isAgg24 rfl (u.ld.cellB t1 rfl)) λo=>?_
 obtain ⟨us47,hd48,hu49⟩:=id R0
 refine ls<|Cc (α:=api_Thread) (xs:=j0) (ys:=p1.Recover) o rfl u underlying24 Iv rfl (by decide) rfl rfl rfl t0 T0 (u.rdH t0 hd48) hu49 u0 λS1 C1 T1 w a U0 hU o=>?_
 replace u:=hU _ .head
 refine qa o rfl λo=>re<|tn<|wr<|?_
 obtain ⟨H53,V0,W0,X0,u⟩:=St.frzS u .head U0
 obtain rfl:=si hm
 exact r1 o results59 rfl ⟨H53,_,_,rfl,X0,W0,V0,(St.le u),u.keep⟩
set_option maxHeartbeats 4000000 in
theorem Jbt (hH:H.le w0) {cs2:List Value} {p1:api_Prog} (g3:Enc.rep H cs2 p1) {r:Bool} (hm:Z71 N p1=some r):Tot Tryz.prog 58 #[.agg cs2.toArray] w0 (λv w'=>v=.bool r∧Keep Nil w0 w'):=by
 unfold Z71 at hm
 refine fn0 func58 rfl ntmps58 rfl rfl λa o=>?_
 have u:St w0 Nil [H] [] w0:=start1 hH
 obtain ⟨P0,I0,oa8,cap9,J0,D0,K0,E0,M0,F0,O0,G0,rfl,Y1,j0,F1,G1,I1,J1,M1,O1,P1,Q1,R1,S1⟩:=Ba g3
 refine th<|rg<|ls<|Bt (cs:=[SL P0 p1.Lines I0,SL oa8 p1.Vols cap9,SL J0 p1.Locks D0,SL K0 p1.Threads E0,SL M0 p1.Recover F0,SL O0 p1.Claims G0].toArray) o rfl u rfl rfl λC0 w a u o=>qa o rfl λo=>re<|tn<|th<|th<|rg<|qa o rfl λo=>re<|tn<|Au (λa w=>(Z72 N p1)=some r∧Fr 69 [(1,PT C0)] a∧St w0 Nil [H] [bk C0 [SL P0 p1.Lines I0,SL oa8 p1.Vols cap9,SL J0 p1.Locks D0,SL K0 p1.Threads E0,SL M0 p1.Recover F0,SL O0 p1.Claims G0] 27] w) ?_ ?_
 refine wb<|lp (α:=Nat×Int) (λgh a w=>match gh with | (Q0,X0)=>(Z74 N (Z72 N p1) p1) Q0 X0=some r∧Fr 69 [(1,PT C0),(3,i6 X0)] a∧St w0 Nil [H] [bk C0 [SL P0 p1.Lines I0,SL oa8 p1.Vols cap9,SL J0 p1.Locks D0,SL K0 p1.Threads E0,SL M0 p1.Recover F0,SL O0 p1.Claims G0] 27] w) (λgh=>gh.1) (N,0) ⟨hm,o.has ⟨rfl,rfl,trivial⟩,u⟩ ?_
 rintro ⟨Q0,X0⟩ a w ⟨hm,o,u⟩
 obtain _ | Q0:=Q0
 simp [Z74] at hm
 rw [Z74] at hm
 refine th<|th<|rg<|qm o rfl λo=>qv o (Af o Ch rfl) λo=>qv o (Ag o isAgg22 rfl (u.ld.cellB t0 rfl)) λo=>qv o (Ak (α:=(List api_Cell)) (xs:=p1.Lines) o runUnderlying22 rfl) λo=>qv o (Ap o rfl rfl) λo=>re<|?_
 rcases bip hm with ⟨S0,hm⟩ | ⟨S0,hm⟩
 refine tn<|ctv o rfl S0<|wk<|tn<|th<|wb<|th<|?_
 obtain ⟨B2,n0,hm⟩:=bs hm
 obtain ⟨Y2,C2,T1⟩:=SR.get j0 n0
 obtain ⟨M2,I2,rfl,O2,P2⟩:=C2
 refine rg<|qv o (Af o Ch rfl) λo=>qv o (Ag o isAgg22 rfl (u.ld.cellB t0 rfl)) λo=>qm o rfl λo=>qv o (Ao o runUnderlying22 sizeOf23 rfl rfl n0 (SR.oaI j0 (by decide) n0)) λo=>qv o (Ag o isAgg23 rfl (PH.le.cell (Lds.le u.ld) (T1 0 _ rfl))) λo=>qv o (Ak (α:=api_Cell) (xs:=B2) o runUnderlying23 rfl) λo=>qv o (Bb o rfl rfl) λo=>re<|?_
 rcases bip hm with ⟨T0,hm⟩ | ⟨T0,hm⟩
 refine tn<|ctv o rfl T0<|th<|rg<|qa o rfl λo=>re<|tn<|wr<|br<|tr<|tr<|br<|tr<|?_
 obtain rfl:=si hm
 exact r1 o results58 rfl ⟨rfl,u.keep⟩
 refine tn<|cfv o rfl T0<|wk<|bn<|tn<|rg<|qm o rfl λo=>qv o (Am o rfl rfl) λo=>qa o rfl λo=>re<|tn<|?_
 exact ⟨(Q0,(IntKind.i64.wrap (X0+1))),⟨hm,o.has ⟨rfl,rfl,trivial⟩,u⟩,Nat.lt_succ_self _⟩
 refine tn<|cfv o rfl S0<|we<|tx<|tx<|bx<|tn<|?_
 exact ⟨hm,o.has ⟨rfl,trivial⟩,u⟩
 rintro a w ⟨hm,o,u⟩
 unfold Z72 at hm
 refine th<|?_
 obtain ⟨u0,E2,hm⟩:=bs hm
 refine rg<|qv o (Ax o Tryz.isAgg27 Tryz.sizeOf27 rfl rfl (u.ld.cellsB t0)) λo=>ls<|c1 o rfl call59 (Jay (St.le u) (show Enc.rep (α:=api_Prog) H [SL P0 p1.Lines I0,SL oa8 p1.Vols cap9,SL J0 p1.Locks D0,SL K0 p1.Threads E0,SL M0 p1.Recover F0,SL O0 p1.Claims G0] p1 from ⟨_,_,rfl,⟨_,_,rfl,Y1,j0⟩,⟨_,_,rfl,⟨_,_,rfl,F1,G1⟩,⟨_,_,rfl,⟨_,_,rfl,I1,J1⟩,⟨_,_,rfl,⟨_,_,rfl,M1,O1⟩,⟨_,_,rfl,⟨_,_,rfl,P1,Q1⟩,⟨_,_,rfl,R1,S1⟩⟩⟩⟩⟩⟩) E2) ⟨rfl,trivial⟩ (λv w a hR o=>?_)
 obtain ⟨H45,U1,E1,rfl,Q2,B1,U0,V1,hk⟩:=hR
 obtain ⟨u,U0⟩:=And.intro (St.passH u hk U0 V1) (St.extc u U0)
 refine qa o rfl λo=>re<|tn<|th<|th<|rg<|qa o rfl λo=>re<|tn<|Au (λa w=>(Z73 p1)=some r∧Fr 69 [(1,PT C0)] a∧St w0 Nil [H45] [bk C0 [SL P0 p1.Lines I0,SL oa8 p1.Vols cap9,SL J0 p1.Locks D0,SL K0 p1.Threads E0,SL M0 p1.Recover F0,SL O0 p1.Claims G0] 27] w) ?_ ?_
 refine wb<|lp (α:=Nat×Int) (λgh a w=>match gh with | (R0,Y0)=>(Z75 N (Z73 p1) u0) R0 Y0=some r∧Fr 69 [(1,PT C0),(4,SL U1 u0 E1),(5,i6 Y0)] a∧St w0 Nil [H45] [bk C0 [SL P0 p1.Lines I0,SL oa8 p1.Vols cap9,SL J0 p1.Locks D0,SL K0 p1.Threads E0,SL M0 p1.Recover F0,SL O0 p1.Claims G0] 27] w) (λgh=>gh.1) (N,0) ⟨hm,o.hs,u⟩ ?_
 rintro ⟨R0,Y0⟩ a w ⟨hm,o,u⟩
 obtain _ | R0:=R0
 simp [Z75] at hm
 rw [Z75] at hm
 refine th<|th<|rg<|qm o rfl λo=>qm o rfl λo=>qv o (Ak (α:=api_Thread) (xs:=u0) o runUnderlying24 rfl) λo=>qv o (Ap o rfl rfl) λo=>re<|?_
 rcases bip hm with ⟨V0,hm⟩ | ⟨V0,hm⟩
 refine tn<|ctv o rfl V0<|wk<|tn<|th<|wb<|th<|?_
 obtain ⟨F2,C1,hm⟩:=bs hm
 obtain ⟨A3,G2,X1⟩:=SR.get B1 C1
 obtain ⟨R2,J2,T2,K2,rfl,U2,V2,W2,X2⟩:=Ar G2
 refine rg<|qm o rfl λo=>qm o rfl λo=>qv o (Ao o runUnderlying24 sizeOf48 rfl rfl C1 (SR.oaI B1 (by decide) C1)) λo=>qv o (Af o Cm rfl) λo=>qv o (Ag o isAgg36 rfl (PH.le.cell (Lds.le u.ld) (X1 1 _ rfl))) λo=>qv o (Ak (α:=Str) (xs:=F2.Regs) o runUnderlying36 rfl) λo=>qv o (Bb o rfl rfl) λo=>re<|?_
 rcases bip hm with ⟨W0,hm⟩ | ⟨W0,hm⟩
 refine tn<|ctv o rfl W0<|th<|rg<|qa o rfl λo=>re<|tn<|wr<|br<|tr<|tr<|br<|tr<|?_
 obtain rfl:=si hm
 exact r1 o results58 rfl ⟨rfl,u.keep⟩
 refine tn<|cfv o rfl W0<|wk<|bn<|tn<|rg<|qm o rfl λo=>qv o (Am o rfl rfl) λo=>qa o rfl λo=>re<|tn<|?_
 exact ⟨(R0,(IntKind.i64.wrap (Y0+1))),⟨hm,o.hs,u⟩,Nat.lt_succ_self _⟩
 refine tn<|cfv o rfl V0<|we<|tx<|tx<|bx<|tn<|?_
 exact ⟨hm,o.has ⟨rfl,trivial⟩,u⟩
 rintro a w ⟨hm,o,u⟩
 unfold Z73 at hm
 refine th<|rg<|qv o (Af o Ch rfl) λo=>qv o (Ag o isAgg22 rfl (u.ld.cellB t0 rfl)) λo=>qv o (Ak (α:=(List api_Cell)) (xs:=p1.Lines) o runUnderlying22 rfl) λo=>qv o (Bb o rfl rfl) λo=>qm o rfl λo=>gr (Fk:=[(1,PT C0),(44,.bool ((decide (4 < (p1.Lines.length:Int))) || (decide (4 < (p1.Vols.length:Int)))))]) 39 5 o u ?_ ?_ ?_
 intro hb o key
 iterate 4 refine qn o λo=>?_
 exact qk o (Ad o rfl rfl) key u hb
 intro hb o key
 exact qg o (Af o Ec rfl) λo=>qg o (Ag o isAgg23 rfl (u.ld.cellB t0 rfl)) λo=>qg o (Ak (α:=api_Cell) (xs:=p1.Vols) o runUnderlying23 rfl) λo=>qg o (Bb o rfl rfl) λo=>qk o (Ae o rfl rfl) key u hb
 intro a w o u
 refine qm o rfl λo=>gr (Fk:=[(1,PT C0),(50,.bool (((decide (4 < (p1.Lines.length:Int))) || (decide (4 < (p1.Vols.length:Int)))) || (decide (2 < (p1.Locks.length:Int)))))]) 45 5 o u ?_ ?_ ?_
 intro hb o key
 iterate 4 refine qn o λo=>?_
 exact qk o (Ad o rfl rfl) key u hb
 intro hb o key
 exact qg o (Af o Ek rfl) λo=>qg o (Ag o isAgg23 rfl (u.ld.cellB t0 rfl)) λo=>qg o (Ak (α:=api_Cell) (xs:=p1.Locks) o runUnderlying23 rfl) λo=>qg o (Bb o rfl rfl) λo=>qk o (Ae o rfl rfl) key u hb
 intro a w o u
 refine qm o rfl λo=>gr (Fk:=[(1,PT C0),(56,.bool ((((decide (4 < (p1.Lines.length:Int))) || (decide (4 < (p1.Vols.length:Int)))) || (decide (2 < (p1.Locks.length:Int)))) || (decide ((p1.Threads.length:Int) < 1))))]) 51 5 o u ?_ ?_ ?_
 intro hb o key
 iterate 4 refine qn o λo=>?_
 exact qk o (Ad o rfl rfl) key u hb
 intro hb o key
 exact qg o (Af o Cf rfl) λo=>qg o (Ag o isAgg24 rfl (u.ld.cellB t0 rfl)) λo=>qg o (Ak (α:=api_Thread) (xs:=p1.Threads) o runUnderlying24 rfl) λo=>qg o (Ap o rfl rfl) λo=>qk o (Ae o rfl rfl) key u hb
 intro a w o u
 refine qm o rfl λo=>gr (Fk:=[(1,PT C0),(62,.bool (((((decide (4 < (p1.Lines.length:Int))) || (decide (4 < (p1.Vols.length:Int)))) || (decide (2 < (p1.Locks.length:Int)))) || (decide ((p1.Threads.length:Int) < 1))) || (decide (3 < (p1.Threads.length:Int)))))]) 57 5 o u ?_ ?_ ?_
 intro hb o key
 iterate 4 refine qn o λo=>?_
 exact qk o (Ad o rfl rfl) key u hb
 intro hb o key
 exact qg o (Af o Cf rfl) λo=>qg o (Ag o isAgg24 rfl (u.ld.cellB t0 rfl)) λo=>qg o (Ak (α:=api_Thread) (xs:=p1.Threads) o runUnderlying24 rfl) λo=>qg o (Bb o rfl rfl) λo=>qk o (Ae o rfl rfl) key u hb
 intro a w o u
 refine qm o rfl λo=>gr (Fk:=[(68,.bool ((((((decide (4 < (p1.Lines.length:Int))) || (decide (4 < (p1.Vols.length:Int)))) || (decide (2 < (p1.Locks.length:Int)))) || (decide ((p1.Threads.length:Int) < 1))) || (decide (3 < (p1.Threads.length:Int)))) || (decide (4 < (p1.Claims.length:Int)))))]) 63 5 o u ?_ ?_ ?_
 intro hb o key
 iterate 4 refine qn o λo=>?_
 exact qk o (Ad o rfl rfl) key u hb
 intro hb o key
 exact qg o (Af o De rfl) λo=>qg o (Ag o isAgg25 rfl (u.ld.cellB t0 rfl)) λo=>qg o (Ak (α:=api_Claim) (xs:=p1.Claims) o runUnderlying25 rfl) λo=>qg o (Bb o rfl rfl) λo=>qk o (Ae o rfl rfl) key u hb
 intro a w o u
 refine qa o rfl λo=>re<|tn<|wr<|?_
 obtain rfl:=si hm
 exact r1 o results58 rfl ⟨rfl,u.keep⟩
theorem Jcp:∀ (N:Nat) {w0:World} {H:PH} (hH:H.le w0) {K0:Option Addr} {D0:Nat} {p1:(List api_Stmt)} (E0:p1.length≤D0) (F0:SR H K0 p1) {p6:Int} {r:Int} (hm:Z7m N p1 p6=some r),Tot Tryz.prog 60 #[SL K0 p1 D0,i6 p6] w0 (λv w'=>v=i6 r∧Keep Nil w0 w'):=by
 intro N
 induction N with
  | zero=>intros;rename_i hm;simp [Z7m] at hm
  | succ N ih=>
 intro w0 H hH K0 D0 p1 E0 F0 p6 r hm
 rw [Z7m] at hm
 refine fn0 func60 rfl ntmps60 rfl rfl λa o=>?_
 have u:St w0 Nil [H] [] w0:=start1 hH
 refine th<|rg<|qa o rfl λo=>re<|tn<|th<|th<|rg<|qm o rfl λo=>qv o (Ak (α:=api_Stmt) (xs:=p1) o runUnderlying46 rfl) λo=>qv o (An o rfl rfl) λo=>re<|?_
 rcases bip hm with ⟨M0,hm⟩ | ⟨M0,hm⟩
 refine tn<|ctv o rfl M0<|th<|rg<|qa o rfl λo=>re<|tn<|wr<|tr<|?_
 obtain rfl:=si hm
 exact r1 o results60 rfl ⟨rfl,u.keep⟩
 refine tn<|cfv o rfl M0<|wk<|tn<|th<|?_
 obtain ⟨C0,h9,hm⟩:=bs hm
 obtain ⟨Q1,u0,U0⟩:=SR.get F0 h9
 obtain ⟨V0,P0,W0,Q0,rfl,G1,I1,J1,M1⟩:=Bg u0
 refine rg<|qm o rfl λo=>qv o (Ao o runUnderlying46 sizeOf51 rfl rfl h9 (SR.oaI F0 (by decide) h9)) λo=>qv o (Ax o isAgg51 sizeOf51 rfl rfl (λj v hj=>PH.le.cell (Lds.le u.ld) (U0 j v hj))) λo=>qm o rfl λo=>ls<|Av (cs:=[i6 0,Ac [],Ac [],.slice none 0 0,.slice none 0 0,i6 0,i6 0,i6 0,i6 0].toArray) o rfl u zeroValue51 rfl λR0 w a u o=>ls<|Aw o u sizeOf51 rfl rfl rfl rfl (Al rfl) .head λw u=>qa o rfl λo=>re<|tn<|th<|th<|rg<|qv o (Af o Bm rfl) λo=>qv o (Ag o isAgg3 rfl (u.ld.cellB t0 rfl)) λo=>qv o (An o rfl rfl) λo=>re<|tn<|Au (λa w=>∃ (O0:Int),(Z7n (Z7m N) p1 p6 C0) O0=some r∧Fr 46 [(0,SL K0 p1 D0),(1,i6 p6),(5,PT R0),(6,i6 O0)] a∧St w0 Nil [H] [bk R0 [i6 C0.Kind,Ac C0.Reg,Ac C0.Name,SL V0 C0.E P0,SL W0 C0.F Q0,i6 C0.N,i6 C0.Body,i6 C0.Else,i6 C0.At] 51] w) ?_ ?_
 rcases bip hm with ⟨G0,hm⟩ | ⟨G0,hm⟩
 refine ctv o rfl G0<|rg<|qm o rfl λo=>qv o (Af o Em rfl) λo=>qv o (Ag o isAgg3 rfl (u.ld.cellB t0 rfl)) λo=>qv o (Ni o rfl rfl) λo=>qa o rfl λo=>re<|tn<|?_
 exact ⟨(IntKind.i64.wrap (p6 * C0.N)),hm,o.hs,u⟩
 refine cfv o rfl G0<|wk<|tn<|?_
 exact ⟨p6,hm,o.hs,u⟩
 rintro a w ⟨O0,hm,o,u⟩
 unfold Z7n at hm
 refine th<|th<|rg<|qm o rfl λo=>qv o (Bb o rfl rfl) λo=>re<|?_
 rcases bip hm with ⟨I0,hm⟩ | ⟨I0,hm⟩
 refine tn<|ctv o rfl I0<|th<|rg<|qv o (Af o Fa rfl) λo=>qv o (Ag o isAgg3 rfl (u.ld.cellB t0 rfl)) λo=>qa o rfl λo=>re<|tn<|wr<|tr<|?_
 obtain rfl:=si hm
 exact r1 o results60 rfl ⟨rfl,u.keep⟩
 refine tn<|cfv o rfl I0<|wk<|tn<|th<|rg<|qv o (Af o Da rfl) λo=>qv o (Ag o isAgg3 rfl (u.ld.cellB t0 rfl)) λo=>qv o (Am o rfl rfl) λo=>qv o (Af o Df rfl) λo=>qv o (Ag o isAgg3 rfl (u.ld.cellB t0 rfl)) λo=>qv o (Am o rfl rfl) λo=>qa o rfl λo=>re<|tn<|th<|?_
 obtain ⟨R1,S0,hm⟩:=bs hm
 obtain ⟨O1,E1,e28,e29,X0,Y0⟩:=SR.sub (sz:=9) F0 E0 rfl S0
 obtain ⟨S1,B1,hm⟩:=bs hm
 refine rg<|qm o rfl λo=>qm o rfl λo=>qv o (Bz (xs:=p1) (vl:=1) (vh:=(IntKind.i64.wrap ((IntKind.i64.wrap (1+C0.Body))+C0.Else))) o runUnderlying46 sizeOf51 rfl E0 rfl rfl S0 e28 e29) λo=>qm o rfl λo=>ls<|cr o call60 (ih (Ai _) X0 (St.srH u Y0) B1) u λu o=>qa o rfl λo=>re<|tn<|th<|th<|rg<|qm o rfl λo=>qv o (Bl o rfl rfl) λo=>re<|?_
 rcases bip hm with ⟨J0,hm⟩ | ⟨J0,hm⟩
 refine tn<|ctv o rfl J0<|th<|rg<|qm o rfl λo=>qa o rfl λo=>re<|tn<|wr<|tr<|?_
 obtain rfl:=si hm
 exact r1 o results60 rfl ⟨rfl,u.keep⟩
 refine tn<|cfv o rfl J0<|wk<|tn<|th<|?_
 obtain ⟨T1,T0,hm⟩:=bs hm
 obtain ⟨P1,F1,e39,e40,j0,n0⟩:=SR.sub (sz:=9) F0 E0 rfl T0
 obtain ⟨U1,C1,hm⟩:=bs hm
 refine rg<|qm o rfl λo=>qm o rfl λo=>qv o (Bz (xs:=p1) (vl:=(IntKind.i64.wrap ((IntKind.i64.wrap (1+C0.Body))+C0.Else))) (vh:=(p1.length:Int)) o runUnderlying46 sizeOf51 rfl E0 rfl rfl T0 e39 e40) λo=>qm o rfl λo=>ls<|cr o call60 (ih (Ai _) j0 (St.srH u n0) C1) u λu o=>qa o rfl λo=>re<|tn<|wr<|?_
 obtain rfl:=si hm
 exact r1 o results60 rfl ⟨rfl,u.keep⟩
theorem Wl (hH:H.le w0) {cs2:List Value} {p1:api_Prog} (g3:Enc.rep H cs2 p1) {r:(List api_Cell)} (hm:Z67 N p1=some r):Tot Tryz.prog 67 #[.agg cs2.toArray] w0 (λv w'=>∃ (F1:Option Addr) (n0:Nat) (G1:List Value),v=SL F1 r n0∧(∀ h,Rows h G1 r)∧Fresh w0 (sla 53 3 F1 r.length n0 G1) w'):=by
 unfold Z67 at hm
 refine fn0 func67 rfl ntmps67 rfl rfl λa o=>?_
 have u:St w0 Nil [H] [] w0:=start1 hH
 obtain ⟨u0,Q0,oa8,cap9,R0,F0,S0,G0,T0,I0,U0,J0,rfl,Y2,I1,I2,J1,J2,K2,M2,O2,P2,Q2,R2,T2⟩:=Ba g3
 refine th<|rg<|ls<|Bt (cs:=[SL u0 p1.Lines Q0,SL oa8 p1.Vols cap9,SL R0 p1.Locks F0,SL S0 p1.Threads G0,SL T0 p1.Recover I0,SL U0 p1.Claims J0].toArray) o rfl u rfl rfl λY0 w a u o=>qa o rfl λo=>re<|tn<|th<|rg<|ls<|Bi (e:=53) (sz:=3) [] o rfl u rfl rfl rfl (λw=>by kernel_rfl) λV1 w a u o=>?_
 have M1:Rows (α:=api_Cell) H [] []:=.nil
 refine qa o rfl λo=>re<|tn<|th<|th<|rg<|qa o rfl λo=>re<|tn<|Au (λa w=>∃ (E0:(List api_Cell)) (V0:Option Addr) (K0:Nat) (W0:List Value),(Z68 p1) E0=some r∧Fr 24 [(1,PT Y0),(3,SL V0 E0 K0)] a∧St w0 Nil [H] [bk Y0 [SL u0 p1.Lines Q0,SL oa8 p1.Vols cap9,SL R0 p1.Locks F0,SL S0 p1.Threads G0,SL T0 p1.Recover I0,SL U0 p1.Claims J0] 27,sla 53 3 V0 E0.length K0 W0] w∧Rows H W0 E0) ?_ ?_
 replace u:=u.pk [1,0] rfl
 refine wb<|lp (α:=Nat×(List api_Cell)×Int) (λgh a w=>match gh with | (P0,D0,j0)=>∃ (M0:Option Addr) (C0:Nat) (O0:List Value),(Z69 N (Z68 p1) p1) P0 D0 j0=some r∧Fr 24 [(1,PT Y0),(3,SL M0 D0 C0),(4,i6 j0)] a∧St w0 Nil [H] [bk Y0 [SL u0 p1.Lines Q0,SL oa8 p1.Vols cap9,SL R0 p1.Locks F0,SL S0 p1.Threads G0,SL T0 p1.Recover I0,SL U0 p1.Claims J0] 27,sla 53 3 M0 D0.length C0 O0] w∧Rows H O0 D0) (λgh=>gh.1) (N,[],0) ⟨(some ⟨V1,0,none⟩),0,[],hm,o.hs,u,M1⟩ ?_
 rintro ⟨P0,D0,j0⟩ a w ⟨M0,C0,O0,hm,o,u,B1⟩
 obtain _ | P0:=P0
 simp [Z69] at hm
 rw [Z69] at hm
 refine th<|th<|rg<|qm o rfl λo=>qv o (Af o Ch rfl) λo=>qv o (Ag o isAgg22 rfl (u.ld.cellB t0 rfl)) λo=>qv o (Ak (α:=(List api_Cell)) (xs:=p1.Lines) o runUnderlying22 rfl) λo=>qv o (Ap o rfl rfl) λo=>re<|?_
 rcases bip hm with ⟨X0,hm⟩ | ⟨X0,hm⟩
 refine tn<|ctv o rfl X0<|wk<|tn<|th<|wb<|?_
 obtain ⟨X1,C1,hm⟩:=bs hm
 obtain ⟨A3,Y1,O1⟩:=SR.get I1 C1
 obtain ⟨U2,F2,rfl,V2,P1⟩:=Y1
 obtain ⟨B2,C2,hm⟩:=bs hm
 refine rg<|qm o rfl λo=>qv o (Af o Ch rfl) λo=>qv o (Ag o isAgg22 rfl (u.ld.cellB t0 rfl)) λo=>qm o rfl λo=>qv o (Ao o runUnderlying22 sizeOf23 rfl rfl C1 (SR.oaI I1 (by decide) C1)) λo=>qv o (Ag o isAgg23 rfl (PH.le.cell (Lds.le u.ld) (O1 0 _ rfl))) λo=>?_
 obtain ⟨us48,hd49,hu50⟩:=id P1
 refine ls<|Cc (α:=api_Cell) (xs:=D0) (ys:=X1) o rfl u underlying23 Gr rfl (by decide) rfl rfl rfl t1 B1 (u.rdH t0 hd49) hu50 C2 λQ1 E1 R1 w a S1 hU o=>?_
 replace u:=hU _ (.tail .head)
 refine qa o rfl λo=>re<|bn<|tn<|rg<|qm o rfl λo=>qv o (Am o rfl rfl) λo=>qa o rfl λo=>re<|tn<|?_
 exact ⟨(P0,B2,(IntKind.i64.wrap (j0+1))),⟨Q1,E1,R1,hm,o.hs,u,S1⟩,Nat.lt_succ_self _⟩
 refine tn<|cfv o rfl X0<|we<|tx<|tx<|bx<|tn<|?_
 exact ⟨D0,M0,C0,O0,hm,o.has ⟨rfl,rfl,trivial⟩,u,B1⟩
 rintro a w ⟨E0,V0,K0,W0,hm,o,u,T1⟩
 unfold Z68 at hm
 refine th<|?_
 obtain ⟨B3,E2,hm⟩:=bs hm
 refine rg<|qm o rfl λo=>qv o (Af o Ec rfl) λo=>qv o (Ag o isAgg23 rfl (u.ld.cellB t0 rfl)) λo=>?_
 obtain ⟨us57,hd58,hu59⟩:=id J1
 refine ls<|Cc (α:=api_Cell) (xs:=E0) (ys:=p1.Vols) o rfl u underlying23 Gr rfl (by decide) rfl rfl rfl t1 T1 (u.rdH t0 hd58) hu59 E2 λW2 G2 X2 w a U1 hU o=>?_
 replace u:=hU _ (.tail .head)
 refine qa o rfl λo=>re<|tn<|wr<|?_
 obtain rfl:=si hm
 exact r1 o results67 rfl ⟨_,_,_,rfl,(λ_=>Rows.ind U1),u.endFresh t1⟩
theorem Wk (hH:H.le w0) {R0:Option Addr} {M0:Nat} {p1:(List api_Cell)} (O1:p1.length≤M0) (X0:SR H R0 p1) {r:(List Str)} (hm:Z6t N p1=some r):Tot Tryz.prog 66 #[SL R0 p1 M0] w0 (λv w'=>∃ (Y0:Option Addr) (S0:Nat) (j0:List Value),v=SL Y0 r S0∧(∀ h,Rows h j0 r)∧Fresh w0 (sla 9 1 Y0 r.length S0 j0) w'):=by
 unfold Z6t at hm
 refine fn0 func66 rfl ntmps66 rfl rfl λa o=>?_
 have u:St w0 Nil [H] [] w0:=start1 hH
 refine th<|rg<|qa o rfl λo=>re<|tn<|th<|rg<|ls<|Bi (e:=9) (sz:=1) [] o rfl u rfl rfl rfl (λw=>by kernel_rfl) λb7 w a u o=>?_
 have G1:Rows (α:=Str) H [] []:=.nil
 refine qa o rfl λo=>re<|tn<|th<|th<|rg<|qa o rfl λo=>re<|tn<|Au (λa w=>∃ (I0:(List Str)) (O0:Option Addr) (E0:Nat) (P0:List Value),Z6u I0=some r∧Fr 21 [(3,SL O0 I0 E0)] a∧St w0 Nil [H] [sla 9 1 O0 I0.length E0 P0] w∧Rows H P0 I0) ?_ ?_
 refine wb<|lp (α:=Nat×(List Str)×Int) (λgh a w=>match gh with | (J0,D0,Q0)=>∃ (F0:Option Addr) (C0:Nat) (G0:List Value),(Z6v N Z6u p1) J0 D0 Q0=some r∧Fr 21 [(0,SL R0 p1 M0),(3,SL F0 D0 C0),(4,i6 Q0)] a∧St w0 Nil [H] [sla 9 1 F0 D0.length C0 G0] w∧Rows H G0 D0) (λgh=>gh.1) (N,[],0) ⟨(some ⟨b7,0,none⟩),0,[],hm,o.hs,u,G1⟩ ?_
 rintro ⟨J0,D0,Q0⟩ a w ⟨F0,C0,G0,hm,o,u,T0⟩
 obtain _ | J0:=J0
 simp [Z6v] at hm
 rw [Z6v] at hm
 refine th<|th<|rg<|qm o rfl λo=>qm o rfl λo=>qv o (Ak (α:=api_Cell) (xs:=p1) o runUnderlying23 rfl) λo=>qv o (Ap o rfl rfl) λo=>re<|?_
 rcases bip hm with ⟨U0,hm⟩ | ⟨U0,hm⟩
 refine tn<|ctv o rfl U0<|wk<|tn<|th<|wb<|?_
 obtain ⟨K0,V0,hm⟩:=bs hm
 obtain ⟨P1,I1,n0⟩:=SR.get X0 V0
 obtain rfl:=Bu I1
 obtain ⟨J1,M1,hm⟩:=bs hm
 refine rg<|qm o rfl λo=>?_
 iterate 2 refine qm o rfl λo=>?_
 refine qv o (Ao o runUnderlying23 sizeOf53 rfl rfl V0 (SR.oaI X0 (by decide) V0)) λo=>qv o (Af o Er rfl) λo=>qv o (Ag o isAgg9 rfl (PH.le.cell (Lds.le u.ld) (n0 0 _ rfl))) λo=>ls<|Bi (e:=9) (sz:=1) [Ac K0.Name] o rfl u rfl rfl rfl (λw=>by kernel_rfl) λQ1 w a u o=>?_
 have u0:Rows (α:=Str) H [Ac K0.Name] ([K0.Name]:List Str):=(.cons (c:=[Ac K0.Name]) rfl .nil)
 refine ls<|Cc (α:=Str) (xs:=D0) (ys:=([K0.Name]:List Str)) o rfl u underlying36 Vm rfl (by decide) rfl rfl rfl t1 T0 (u.rdO t0) u0 M1 λB1 W0 C1 w a E1 hU o=>?_
 replace u:=hU _ (.tail .head)
 replace u:=u.drop .head
 refine qa o rfl λo=>re<|bn<|tn<|rg<|qm o rfl λo=>qv o (Am o rfl rfl) λo=>qa o rfl λo=>re<|tn<|?_
 exact ⟨(J0,J1,(IntKind.i64.wrap (Q0+1))),⟨B1,W0,C1,hm,o.hs,u,E1⟩,Nat.lt_succ_self _⟩
 refine tn<|cfv o rfl U0<|we<|tx<|tx<|bx<|tn<|?_
 exact ⟨D0,F0,C0,G0,hm,o.has ⟨rfl,trivial⟩,u,T0⟩
 rintro a w ⟨I0,O0,E0,P0,hm,o,u,F1⟩
 unfold Z6u at hm
 refine th<|rg<|qm o rfl λo=>qa o rfl λo=>re<|tn<|wr<|?_
 obtain rfl:=si hm
 exact r1 o results66 rfl ⟨_,_,_,rfl,(λ_=>Rows.ind F1),u.endFresh t0⟩
theorem Hj (hH:H.le w0) {G0:Option Addr} {D0:Nat} {p1:(List Str)} (Q0:p1.length≤D0) (J0:SR H G0 p1) {p6:Str} {r:Int} (hm:Z6w N p1 p6=some r):Tot Tryz.prog 33 #[SL G0 p1 D0,Ac p6] w0 (λv w'=>v=i6 r∧Keep Nil w0 w'):=by
 unfold Z6w at hm
 refine fn0 func33 rfl ntmps33 rfl rfl λa o=>?_
 have u:St w0 Nil [H] [] w0:=start1 hH
 refine th<|rg<|qa o rfl λo=>re<|tn<|th<|th<|rg<|qa o rfl λo=>re<|tn<|Au (λa w=>Z6x=some r∧Fr 19 [] a∧St w0 Nil [H] [] w) ?_ ?_
 refine wb<|lp (α:=Nat×Int) (λgh a w=>match gh with | (C0,F0)=>(Z6y N Z6x p1 p6) C0 F0=some r∧Fr 19 [(0,SL G0 p1 D0),(1,Ac p6),(5,i6 F0)] a∧St w0 Nil [H] [] w) (λgh=>gh.1) (N,0) ⟨hm,o.hs,u⟩ ?_
 rintro ⟨C0,F0⟩ a w ⟨hm,o,u⟩
 obtain _ | C0:=C0
 simp [Z6y] at hm
 rw [Z6y] at hm
 refine th<|th<|rg<|qm o rfl λo=>qm o rfl λo=>qv o (Ak (α:=Str) (xs:=p1) o runUnderlying36 rfl) λo=>qv o (Ap o rfl rfl) λo=>re<|?_
 rcases bip hm with ⟨I0,hm⟩ | ⟨I0,hm⟩
 refine tn<|ctv o rfl I0<|wk<|tn<|th<|wb<|th<|?_
 obtain ⟨K0,h9,hm⟩:=bs hm
 obtain ⟨O0,P0,M0⟩:=SR.get J0 h9
 obtain rfl:O0=[Ac K0]:=P0
 refine rg<|qm o rfl λo=>qm o rfl λo=>qv o (Ao o runUnderlying36 sizeOf9 rfl rfl h9 (SR.oaI J0 (by decide) h9)) λo=>qv o (Ag o isAgg9 rfl (PH.le.cell (Lds.le u.ld) (M0 0 _ rfl))) λo=>qm o rfl λo=>qv o (Ey (m:=K0) (n:=p6) o rfl rfl) λo=>re<|?_
 rcases bip hm with ⟨E0,hm⟩ | ⟨E0,hm⟩
 refine tn<|ctv o rfl E0<|th<|rg<|qm o rfl λo=>qa o rfl λo=>re<|tn<|wr<|br<|tr<|tr<|br<|tr<|?_
 obtain rfl:=si hm
 exact r1 o results33 rfl ⟨rfl,u.keep⟩
 refine tn<|cfv o rfl E0<|wk<|bn<|tn<|rg<|qm o rfl λo=>qv o (Am o rfl rfl) λo=>qa o rfl λo=>re<|tn<|?_
 exact ⟨(C0,(IntKind.i64.wrap (F0+1))),⟨hm,o.hs,u⟩,Nat.lt_succ_self _⟩
 refine tn<|cfv o rfl I0<|we<|tx<|tx<|bx<|tn<|?_
 exact ⟨hm,o.has trivial,u⟩
 rintro a w ⟨hm,o,u⟩
 unfold Z6x at hm
 refine th<|rg<|qa o rfl λo=>re<|tn<|wr<|?_
 obtain rfl:=si hm
 exact r1 o results33 rfl ⟨rfl,u.keep⟩
theorem JcD (hH:H.le w0) {cs2:List Value} {p1:api_Prog} (g3:Enc.rep H cs2 p1) {r:Int} (hm:Z7d N p1=some r):Tot Tryz.prog 61 #[.agg cs2.toArray] w0 (λv w'=>v=i6 r∧Keep Nil w0 w'):=by
 unfold Z7d at hm
 refine fn0 func61 rfl ntmps61 rfl rfl λa o=>?_
 have u:St w0 Nil [H] [] w0:=start1 hH
 obtain ⟨P1,Y0,oa8,cap9,j0,J0,n0,K0,u0,M0,B1,O0,rfl,C3,D3,C2,E2,F2,Q1,G2,P0,I2,J2,K2,M2⟩:=Ba g3
 refine th<|rg<|ls<|Bt (cs:=[SL P1 p1.Lines Y0,SL oa8 p1.Vols cap9,SL j0 p1.Locks J0,SL n0 p1.Threads K0,SL u0 p1.Recover M0,SL B1 p1.Claims O0].toArray) o rfl u rfl rfl λB2 w a u o=>qa o rfl λo=>re<|tn<|th<|?_
 obtain ⟨E3,F3,hm⟩:=bs hm
 obtain ⟨G3,I3,hm⟩:=bs hm
 refine rg<|ls<|Bi (e:=53) (sz:=3) [] o rfl u rfl rfl rfl (λw=>by kernel_rfl) λE4 w a u o=>?_
 have O2:Rows (α:=api_Cell) H [] []:=.nil
 refine qv o (Ax o isAgg27 sizeOf27 rfl rfl (u.ld.cellsB t1)) λo=>ls<|c1 o rfl call67 (Wl (Ai _) (Enc.mono (St.up u) (show Enc.rep (α:=api_Prog) H [SL P1 p1.Lines Y0,SL oa8 p1.Vols cap9,SL j0 p1.Locks J0,SL n0 p1.Threads K0,SL u0 p1.Recover M0,SL B1 p1.Claims O0] p1 from ⟨_,_,rfl,⟨_,_,rfl,C3,D3⟩,⟨_,_,rfl,⟨_,_,rfl,C2,E2⟩,⟨_,_,rfl,⟨_,_,rfl,F2,Q1⟩,⟨_,_,rfl,⟨_,_,rfl,G2,P0⟩,⟨_,_,rfl,⟨_,_,rfl,I2,J2⟩,⟨_,_,rfl,K2,M2⟩⟩⟩⟩⟩⟩)) F3) ⟨rfl,trivial⟩ (λv w a hR o=>?_)
 obtain ⟨W3,S3,X3,rfl,C1,hk⟩:=hR
 replace u:=u.fresh hk
 replace C1:=C1 H
 refine ls<|Cc (α:=api_Cell) (xs:=[]) (ys:=E3) o rfl u underlying23 Gr rfl (by decide) rfl rfl rfl t1 O2 (u.rdO t0) C1 I3 λY3 T3 l3 w a P2 hU o=>?_
 replace u:=hU _ (.tail .head)
 refine qa o rfl λo=>re<|tn<|th<|?_
 obtain ⟨J3,K3,hm⟩:=bs hm
 refine rg<|qm o rfl λo=>qv o (Af o Ek rfl) λo=>qv o (Ag o isAgg23 rfl (u.ld.cellB t2 rfl)) λo=>?_
 obtain ⟨us51,hd52,hu53⟩:=id Q1
 refine ls<|Cc (α:=api_Cell) (xs:=G3) (ys:=p1.Locks) o rfl u underlying23 Gr rfl (by decide) rfl rfl rfl t1 P2 (u.rdH t0 hd52) hu53 K3 λQ2 X1 R2 w a T2 hU o=>?_
 replace u:=hU _ (.tail .head)
 refine qa o rfl λo=>re<|tn<|th<|th<|rg<|qa o rfl λo=>re<|tn<|Au (λa w=>∃ (D0:(List api_Cell)) (G0:Option Addr) (E0:Nat) (Q0:List Value),(Z7e N) D0=some r∧Fr 60 [(3,SL G0 D0 E0)] a∧St w0 Nil [H] [sla 53 3 G0 D0.length E0 Q0] w∧Rows H Q0 D0) ?_ ?_
 replace u:=u.pk [2,1] rfl
 refine wb<|lp (α:=Nat×(List api_Cell)×Int) (λgh a w=>match gh with | (U0,I0,J1)=>∃ (R0:Option Addr) (F0:Nat) (S0:List Value),(Z7g N (Z7e N) p1) U0 I0 J1=some r∧Fr 60 [(1,PT B2),(3,SL R0 I0 F0),(4,i6 J1)] a∧St w0 Nil [H] [bk B2 [SL P1 p1.Lines Y0,SL oa8 p1.Vols cap9,SL j0 p1.Locks J0,SL n0 p1.Threads K0,SL u0 p1.Recover M0,SL B1 p1.Claims O0] 27,sla 53 3 R0 I0.length F0 S0] w∧Rows H S0 I0) (λgh=>gh.1) (N,J3,0) ⟨Q2,X1,R2,hm,o.hs,u,T2⟩ ?_
 rintro ⟨U0,I0,J1⟩ a w ⟨R0,F0,S0,hm,o,u,R1⟩
 obtain _ | U0:=U0
 simp [Z7g] at hm
 rw [Z7g] at hm
 refine th<|th<|rg<|qm o rfl λo=>qv o (Af o Cf rfl) λo=>qv o (Ag o isAgg24 rfl (u.ld.cellB t0 rfl)) λo=>qv o (Ak (α:=api_Thread) (xs:=p1.Threads) o runUnderlying24 rfl) λo=>qv o (Ap o rfl rfl) λo=>re<|?_
 rcases bip hm with ⟨E1,hm⟩ | ⟨E1,hm⟩
 refine tn<|ctv o rfl E1<|wk<|tn<|th<|wb<|?_
 obtain ⟨C0,V0,hm⟩:=bs hm
 obtain ⟨F4,L3,S1⟩:=SR.get P0 V0
 obtain ⟨n3,U3,u3,V3,rfl,A4,B4,C4,D4⟩:=Ar L3
 obtain ⟨M3,O3,hm⟩:=bs hm
 refine rdL (Aa t0 Ah) 17 u wide λw u=>ds 0 (St.ldsX u i2 (Aa t0 Ah)) o rfl (Ab o rfl) λo=>ds 1 (St.ldsX u i2 (Aa t0 Ah)) o rfl (Af o Cf rfl) λo=>dq 2 (St.ldsX u i2 (Aa t0 Ah)) o rfl (λw hl=>Ag o isAgg24 rfl (hl.cellB t0 rfl)) λo=>ds 3 (St.ldsX u i2 (Aa t0 Ah)) o rfl (Ab o rfl) λo=>ds 4 (St.ldsX u i2 (Aa t0 Ah)) o rfl (Ao o runUnderlying24 sizeOf48 rfl rfl V0 (SR.oaI P0 (by decide) V0)) λo=>ds 5 (St.ldsX u i2 (Aa t0 Ah)) o rfl (Af o Ed rfl) λo=>dq 6 (St.ldsX u i2 (Aa t0 Ah)) o rfl (λw hl=>Ag o isAgg9 rfl (PH.le.cell (Lds.le hl) (S1 0 _ rfl))) λo=>ds 7 (St.ldsX u i2 (Aa t0 Ah)) o rfl (Af o Cf rfl) λo=>dq 8 (St.ldsX u i2 (Aa t0 Ah)) o rfl (λw hl=>Ag o isAgg24 rfl (hl.cellB t0 rfl)) λo=>ds 9 (St.ldsX u i2 (Aa t0 Ah)) o rfl (Ab o rfl) λo=>ds 10 (St.ldsX u i2 (Aa t0 Ah)) o rfl (Ao o runUnderlying24 sizeOf48 rfl rfl V0 (SR.oaI P0 (by decide) V0)) λo=>ds 11 (St.ldsX u i2 (Aa t0 Ah)) o rfl (Af o Ga rfl) λo=>dq 12 (St.ldsX u i2 (Aa t0 Ah)) o rfl (λw hl=>Ag o isAgg3 rfl (PH.le.cell (Lds.le hl) (S1 3 _ rfl))) λo=>dq 13 (St.ldsX u i2 (Aa t0 Ah)) o rfl (λw hl=>Bq [Ac C0.Name,i6 C0.At] [Ac C0.Name,i6 0,i6 C0.At] o ⟨rfl,rfl,trivial⟩ (λw=>by kernel_rfl)) λo=>da1 (i:=14) (by kernel_rfl) ?_
 refine di (i:=14) rfl<|Bi (e:=53) (sz:=3) [Ac C0.Name,i6 0,i6 C0.At] o rfl u rfl rfl rfl (λw=>by kernel_rfl) λG4 w a u o=>?_
 have U2:Rows (α:=api_Cell) H [Ac C0.Name,i6 0,i6 C0.At] ([(api_Cell.mk C0.Name 0 C0.At)]:List api_Cell):=(.cons (c:=[Ac C0.Name,i6 0,i6 C0.At]) ⟨_,_,rfl,rfl,⟨_,_,rfl,rfl,rfl⟩⟩ .nil)
 refine ⟨λ_=>(St.ldsX u i2 (Aa t1 Ah)),?_⟩
 refine da1 (i:=15) (by kernel_rfl) ?_
 refine di (i:=15) rfl<|Cc (α:=api_Cell) (xs:=I0) (ys:=([(api_Cell.mk C0.Name 0 C0.At)]:List api_Cell)) o rfl u underlying23 Gr rfl (by decide) rfl rfl rfl t2 R1 (u.rdO t0) U2 O3 λV2 Y1 W2 w a X2 hU o=>?_
 replace u:=hU _ (.tail (.tail .head))
 replace u:=u.drop .head
 refine ⟨λ_=>(St.ldsX u i2 (Aa t0 Ah)),?_⟩
 refine ds 16 (St.ldsX u i2 (Aa t0 Ah)) o rfl (Bn o rfl) λo=>de (by kernel_rfl)<|bn<|tn<|rg<|qm o rfl λo=>qv o (Am o rfl rfl) λo=>qa o rfl λo=>re<|tn<|?_
 exact ⟨(U0,M3,(IntKind.i64.wrap (J1+1))),⟨V2,Y1,W2,hm,o.hs,u,X2⟩,Nat.lt_succ_self _⟩
 refine tn<|cfv o rfl E1<|we<|tx<|tx<|bx<|tn<|?_
 replace u:=u.pk [1] rfl
 exact ⟨I0,R0,F0,S0,hm,o.has ⟨rfl,trivial⟩,u,R1⟩
 rintro a w ⟨D0,G0,E0,Q0,hm,o,u,T0⟩
 unfold Z7e at hm
 refine th<|?_
 obtain ⟨T1,P3,hm⟩:=bs hm
 refine rg<|qm o rfl λo=>ls<|c1 o rfl call66 (Wk (Ai _) (St.capO u t0) (St.srO u t0 T0) P3) ⟨rfl,trivial⟩ (λv w a hR o=>?_)
 obtain ⟨U1,M1,Y2,rfl,F1,hk⟩:=hR
 replace u:=u.fresh hk
 replace F1:=F1 H
 refine qa o rfl λo=>re<|tn<|th<|th<|rg<|qa o rfl λo=>re<|tn<|Au (λa w=>Z7f=some r∧Fr 60 [] a∧St w0 Nil [H] [] w) ?_ ?_
 replace u:=u.pk [1,0] rfl
 refine wb<|lp (α:=Nat×Int) (λgh a w=>match gh with | (W0,O1)=>(Z7h N Z7f D0 T1) W0 O1=some r∧Fr 60 [(3,SL G0 D0 E0),(5,SL U1 T1 M1),(6,i6 O1)] a∧St w0 Nil [H] [sla 53 3 G0 D0.length E0 Q0,sla 9 1 U1 T1.length M1 Y2] w) (λgh=>gh.1) (N,0) ⟨hm,o.hs,u⟩ ?_
 rintro ⟨W0,O1⟩ a w ⟨hm,o,u⟩
 obtain _ | W0:=W0
 simp [Z7h] at hm
 rw [Z7h] at hm
 refine th<|th<|rg<|qm o rfl λo=>qm o rfl λo=>qv o (Ak (α:=api_Cell) (xs:=D0) o runUnderlying23 rfl) λo=>qv o (Ap o rfl rfl) λo=>re<|?_
 rcases bip hm with ⟨G1,hm⟩ | ⟨G1,hm⟩
 refine tn<|ctv o rfl G1<|wk<|tn<|th<|wb<|th<|?_
 obtain ⟨I4,X0,hm⟩:=bs hm
 have A3:=Rd.oaI (u.rdO t0) T0 (by decide) X0
 obtain ⟨J4,Q3,V1⟩:=Rows.getI T0 X0
 obtain rfl:=Bu Q3
 obtain ⟨K4,R3,hm⟩:=bs hm
 refine rg<|qm o rfl λo=>?_
 iterate 2 refine qm o rfl λo=>?_
 refine qv o (Ao o runUnderlying23 sizeOf53 rfl rfl X0 A3) λo=>qv o (Af o Er rfl) λo=>qv o (Ag o isAgg9 rfl (u.ld.elO2 t0 (V1 0 _ rfl))) λo=>ls<|cr o call33 (Hj (Ai _) (St.capO u t1) (St.srO u t1 F1) R3) u λu o=>qm o rfl λo=>qv o (Ap o rfl rfl) λo=>re<|?_
 rcases bip hm with ⟨I1,hm⟩ | ⟨I1,hm⟩
 refine tn<|ctv o rfl I1<|th<|?_
 have B3:=Rd.oaI (u.rdO t0) T0 (by decide) X0
 refine rg<|qm o rfl λo=>qm o rfl λo=>qv o (Ao o runUnderlying23 sizeOf53 rfl rfl X0 B3) λo=>qv o (Af o Jq rfl) λo=>qv o (Ag o isAgg3 rfl (u.ld.elO2 t0 (V1 2 _ rfl))) λo=>qa o rfl λo=>re<|tn<|wr<|br<|tr<|tr<|br<|tr<|?_
 obtain rfl:=si hm
 exact r1 o results61 rfl ⟨rfl,u.keep⟩
 refine tn<|cfv o rfl I1<|wk<|bn<|tn<|rg<|qm o rfl λo=>qv o (Am o rfl rfl) λo=>qa o rfl λo=>re<|tn<|?_
 exact ⟨(W0,(IntKind.i64.wrap (O1+1))),⟨hm,o.hs,u⟩,Nat.lt_succ_self _⟩
 refine tn<|cfv o rfl G1<|we<|tx<|tx<|bx<|tn<|?_
 replace u:=u.pickL .nil
 exact ⟨hm,o.has trivial,u⟩
 rintro a w ⟨hm,o,u⟩
 unfold Z7f at hm
 refine th<|rg<|qa o rfl λo=>re<|tn<|wr<|?_
 obtain rfl:=si hm
 exact r1 o results61 rfl ⟨rfl,u.keep⟩
theorem Rz (hH:H.le w0) {cs2:List Value} {p1:api_Prog} (g3:Enc.rep H cs2 p1) {r:(List Str)} (hm:Z6a N p1=some r):Tot Tryz.prog 22 #[.agg cs2.toArray] w0 (λv w'=>∃ (R0:Option Addr) (J0:Nat) (S0:List Value),v=SL R0 r J0∧(∀ h,Rows h S0 r)∧Fresh w0 (sla 9 1 R0 r.length J0 S0) w'):=by
 unfold Z6a at hm
 refine fn0 func22 rfl ntmps22 rfl rfl λa o=>?_
 have u:St w0 Nil [H] [] w0:=start1 hH
 obtain ⟨T0,K0,oa8,cap9,M0,E0,O0,F0,P0,G0,Q0,I0,rfl,E1,F1,U0,V0,W0,X0,Y0,j0,n0,u0,B1,C1⟩:=Ba g3
 refine th<|rg<|ls<|Bt (cs:=[SL T0 p1.Lines K0,SL oa8 p1.Vols cap9,SL M0 p1.Locks E0,SL O0 p1.Threads F0,SL P0 p1.Recover G0,SL Q0 p1.Claims I0].toArray) o rfl u rfl rfl λS1 w a u o=>qa o rfl λo=>re<|tn<|th<|?_
 obtain ⟨T1,G1,hm⟩:=bs hm
 obtain ⟨U1,I1,hm⟩:=bs hm
 refine rg<|qv o (Ax o Tryz.isAgg27 Tryz.sizeOf27 rfl rfl (u.ld.cellsB t0)) λo=>ls<|c1 o rfl call67 (Wl (Ai _) (Enc.mono (St.up u) (show Enc.rep (α:=api_Prog) H [SL T0 p1.Lines K0,SL oa8 p1.Vols cap9,SL M0 p1.Locks E0,SL O0 p1.Threads F0,SL P0 p1.Recover G0,SL Q0 p1.Claims I0] p1 from ⟨_,_,rfl,⟨_,_,rfl,E1,F1⟩,⟨_,_,rfl,⟨_,_,rfl,U0,V0⟩,⟨_,_,rfl,⟨_,_,rfl,W0,X0⟩,⟨_,_,rfl,⟨_,_,rfl,Y0,j0⟩,⟨_,_,rfl,⟨_,_,rfl,n0,u0⟩,⟨_,_,rfl,B1,C1⟩⟩⟩⟩⟩⟩)) G1) ⟨rfl,trivial⟩ (λv w a hR o=>?_)
 obtain ⟨O1,J1,P1,rfl,C0,hk⟩:=hR
 replace u:=u.fresh hk
 replace C0:=C0 H
 refine ls<|c1 o rfl call66 (Wk (Ai _) (St.capO u t0) (St.srO u t0 C0) I1) ⟨rfl,trivial⟩ (λv w a hR o=>?_)
 obtain ⟨Q1,M1,R1,rfl,D0,hk⟩:=hR
 replace u:=u.fresh hk
 replace D0:=D0 H
 refine qa o rfl λo=>re<|tn<|wr<|?_
 obtain rfl:=si hm
 exact r1 o results22 rfl ⟨_,_,_,rfl,(λ_=>Rows.ind D0),u.endFresh t0⟩
theorem Ja1 (hH:H.le w0) {cs2:List Value} {p1:api_Prog} (g3:Enc.rep H cs2 p1) {r:(List Str)} (hm:Z6s N p1=some r):Tot Tryz.prog 28 #[.agg cs2.toArray] w0 (λv w'=>∃ (J0:Option Addr) (D0:Nat) (K0:List Value),v=SL J0 r D0∧(∀ h,Rows h K0 r)∧Fresh w0 (sla 9 1 J0 r.length D0 K0) w'):=by
 unfold Z6s at hm
 refine fn0 func28 rfl ntmps28 rfl rfl λa o=>?_
 have u:St w0 Nil [H] [] w0:=start1 hH
 obtain ⟨U0,M0,oa8,cap9,O0,E0,P0,F0,Q0,G0,R0,I0,rfl,I1,J1,X0,Y0,S0,T0,j0,n0,u0,B1,C1,E1⟩:=Ba g3
 refine th<|rg<|ls<|Bt (cs:=[SL U0 p1.Lines M0,SL oa8 p1.Vols cap9,SL O0 p1.Locks E0,SL P0 p1.Threads F0,SL Q0 p1.Recover G0,SL R0 p1.Claims I0].toArray) o rfl u rfl rfl λM1 w a u o=>qa o rfl λo=>re<|tn<|th<|?_
 obtain ⟨O1,V0,hm⟩:=bs hm
 refine rg<|qv o (Af o Ek rfl) λo=>qv o (Ag o isAgg23 rfl (u.ld.cellB t0 rfl)) λo=>ls<|c1 o rfl call66 (Wk (Ai _) S0 (St.srH u T0) V0) ⟨rfl,trivial⟩ (λv w a hR o=>?_)
 obtain ⟨F1,W0,G1,rfl,C0,hk⟩:=hR
 replace u:=u.fresh hk
 replace C0:=C0 H
 refine qa o rfl λo=>re<|tn<|wr<|?_
 obtain rfl:=si hm
 exact r1 o results28 rfl ⟨_,_,_,rfl,(λ_=>Rows.ind C0),u.endFresh t0⟩
theorem Jan (hH:H.le w0) {cs2:List Value} {p1:api_Prog} (g3:Enc.rep H cs2 p1) {r:Int} (hm:Z6z N p1=some r):Tot Tryz.prog 24 #[.agg cs2.toArray] w0 (λv w'=>v=i6 r∧Keep Nil w0 w'):=by
 unfold Z6z at hm
 refine fn0 func24 rfl ntmps24 rfl rfl λa o=>?_
 have u:St w0 Nil [H] [] w0:=start1 hH
 obtain ⟨P0,G0,oa8,cap9,I0,C0,J0,D0,K0,E0,M0,F0,rfl,n0,u0,Q0,R0,S0,T0,U0,V0,W0,X0,Y0,j0⟩:=Ba g3
 refine th<|rg<|ls<|Bt (cs:=[SL P0 p1.Lines G0,SL oa8 p1.Vols cap9,SL I0 p1.Locks C0,SL J0 p1.Threads D0,SL K0 p1.Recover E0,SL M0 p1.Claims F0].toArray) o rfl u rfl rfl λI1 w a u o=>qa o rfl λo=>re<|tn<|th<|?_
 obtain ⟨B1,C1,hm⟩:=bs hm
 refine rdS 8 u wide λw u=>dq 0 u.ld o rfl (λw hl=>Ax o isAgg27 sizeOf27 rfl rfl (hl.cellsB t0)) λo=>dr 3 u o rfl (Af o Ec rfl) λo=>dq 4 u.ld o rfl (λw hl=>Ag o isAgg23 rfl (hl.cellB t0 rfl)) λo=>dr 5 u o rfl (Ak (α:=api_Cell) (xs:=p1.Vols) o runUnderlying23 rfl) λo=>da1 (i:=1) (by kernel_rfl) ?_
 refine di (i:=1) rfl<|c1 o rfl call67 (Wl (Ai _) (Enc.mono (St.up u) (show Enc.rep (α:=api_Prog) H [SL P0 p1.Lines G0,SL oa8 p1.Vols cap9,SL I0 p1.Locks C0,SL J0 p1.Threads D0,SL K0 p1.Recover E0,SL M0 p1.Claims F0] p1 from ⟨_,_,rfl,⟨_,_,rfl,n0,u0⟩,⟨_,_,rfl,⟨_,_,rfl,Q0,R0⟩,⟨_,_,rfl,⟨_,_,rfl,S0,T0⟩,⟨_,_,rfl,⟨_,_,rfl,U0,V0⟩,⟨_,_,rfl,⟨_,_,rfl,W0,X0⟩,⟨_,_,rfl,Y0,j0⟩⟩⟩⟩⟩⟩)) C1) ⟨rfl,trivial⟩ (λv w a hR o=>?_)
 obtain ⟨F1,E1,G1,rfl,O0,hk⟩:=hR
 replace u:=u.fresh hk
 replace O0:=O0 H
 refine ⟨λ_=>(St.ldsX u i2 ta1),?_⟩
 refine ds 2 (St.ldsX u i2 ta1) o rfl (Ak (α:=api_Cell) (xs:=B1) o runUnderlying23 rfl) λo=>ds 6 (St.ldsX u i2 ta1) o rfl (Gv o rfl rfl) λo=>ds 7 (St.ldsX u i2 ta1) o rfl (Bn o rfl) λo=>de (by kernel_rfl)<|tn<|wr<|?_
 obtain rfl:=si hm
 exact r1 o results24 rfl ⟨rfl,u.keep⟩
theorem Wq (hH:H.le w0) {O0:Option Addr} {G0:Nat} {p1:(List api_Node)} (Y0:p1.length≤G0) (D0:SR H O0 p1) {oa7:Option Addr} {cap8:Nat} {p6:(List Str)} (T0:p6.length≤cap8) (R0:SR H oa7 p6) {r:Int} (hm:Z7i N p1 p6=some r):Tot Tryz.prog 63 #[SL O0 p1 G0,SL oa7 p6 cap8] w0 (λv w'=>v=i6 r∧Keep Nil w0 w'):=by
 unfold Z7i at hm
 refine fn0 func63 rfl ntmps63 rfl rfl λa o=>?_
 have u:St w0 Nil [H] [] w0:=start1 hH
 refine th<|rg<|qa o rfl λo=>re<|tn<|th<|th<|rg<|qa o rfl λo=>re<|tn<|Au (λa w=>Z7j=some r∧Fr 33 [] a∧St w0 Nil [H] [] w) ?_ ?_
 refine wb<|lp (α:=Nat×Int) (λgh a w=>match gh with | (E0,F0)=>(Z7l N Z7j p1 p6) E0 F0=some r∧Fr 33 [(0,SL O0 p1 G0),(1,SL oa7 p6 cap8),(5,i6 F0)] a∧St w0 Nil [H] [] w) (λgh=>gh.1) (N,0) ⟨hm,o.hs,u⟩ ?_
 rintro ⟨E0,F0⟩ a w ⟨hm,o,u⟩
 obtain _ | E0:=E0
 simp [Z7l] at hm
 rw [Z7l] at hm
 refine th<|th<|rg<|qm o rfl λo=>qm o rfl λo=>qv o (Ak (α:=api_Node) (xs:=p1) o runUnderlying49 rfl) λo=>qv o (Ap o rfl rfl) λo=>re<|?_
 rcases bip hm with ⟨I0,hm⟩ | ⟨I0,hm⟩
 refine tn<|ctv o rfl I0<|wk<|tn<|th<|wb<|th<|Au (λa w=>∃ (P0:Bool),(Z7k (Z7l N Z7j p1 p6 E0) p1 F0) P0=some r∧Fr 33 [(0,SL O0 p1 G0),(1,SL oa7 p6 cap8),(5,i6 F0),(27,.bool P0)] a∧St w0 Nil [H] [] w) ?_ ?_
 obtain ⟨j0,C0,hm⟩:=bs hm
 obtain ⟨n0,U0,J0⟩:=SR.get D0 C0
 obtain rfl:=Bo U0
 rcases bip hm with ⟨K0,hm⟩ | ⟨K0,hm⟩
 obtain ⟨V0,W0,hm⟩:=bs hm
 refine rg<|qm o rfl λo=>qm o rfl λo=>qv o (Ao o runUnderlying49 sizeOf90 rfl rfl C0 (SR.oaI D0 (by decide) C0)) λo=>qv o (Af o Cr rfl) λo=>qv o (Ag o isAgg3 rfl (PH.le.cell (Lds.le u.ld) (J0 0 _ rfl))) λo=>qv o (An o rfl rfl) λo=>qv o (Aq (Ab o rfl) (congrArg Value.bool K0)) λo=>?_
 iterate 3 refine qg o (Ab o rfl) λo=>?_
 refine qg o (Ao o runUnderlying49 sizeOf90 rfl rfl C0 (SR.oaI D0 (by decide) C0)) λo=>qg o (Af o Es rfl) λo=>qg o (Ag o isAgg9 rfl (PH.le.cell (Lds.le u.ld) (J0 2 _ rfl))) λo=>ls<|gy o rfl rfl<|cr o call33 (Hj (Ai _) T0 (St.srH u R0) W0) u λu o=>qg o (Ap o rfl rfl) λo=>qv o (Ad o rfl rfl) λo=>re<|tn<|?_
 exact ⟨(decide (V0 < 0)),hm,o.hs,u⟩
 refine rg<|qm o rfl λo=>qm o rfl λo=>qv o (Ao o runUnderlying49 sizeOf90 rfl rfl C0 (SR.oaI D0 (by decide) C0)) λo=>qv o (Af o Cr rfl) λo=>qv o (Ag o isAgg3 rfl (PH.le.cell (Lds.le u.ld) (J0 0 _ rfl))) λo=>qv o (An o rfl rfl) λo=>qv o (Aq (Ab o rfl) (congrArg Value.bool K0)) λo=>?_
 iterate 8 refine qn o λo=>?_
 refine qv o (Ae o rfl rfl) λo=>re<|tn<|?_
 exact ⟨false,hm,o.hs,u⟩
 rintro a w ⟨P0,hm,o,u⟩
 unfold Z7k at hm
 rcases bit hm with ⟨M0,hm⟩ | ⟨M0,hm⟩
 refine ctv o rfl M0<|th<|?_
 obtain ⟨u0,Q0,hm⟩:=bs hm
 obtain ⟨B1,X0,S0⟩:=SR.get D0 Q0
 obtain rfl:=Bo X0
 refine rg<|qm o rfl λo=>qm o rfl λo=>qv o (Ao o runUnderlying49 sizeOf90 rfl rfl Q0 (SR.oaI D0 (by decide) Q0)) λo=>qv o (Af o Fs rfl) λo=>qv o (Ag o isAgg3 rfl (PH.le.cell (Lds.le u.ld) (S0 3 _ rfl))) λo=>qa o rfl λo=>re<|tn<|wr<|br<|tr<|tr<|br<|tr<|?_
 obtain rfl:=si hm
 exact r1 o results63 rfl ⟨rfl,u.keep⟩
 refine cfv o rfl M0<|wk<|bn<|tn<|rg<|qm o rfl λo=>qv o (Am o rfl rfl) λo=>qa o rfl λo=>re<|tn<|?_
 exact ⟨(E0,(IntKind.i64.wrap (F0+1))),⟨hm,o.hs,u⟩,Nat.lt_succ_self _⟩
 refine tn<|cfv o rfl I0<|we<|tx<|tx<|bx<|tn<|?_
 exact ⟨hm,o.has trivial,u⟩
 rintro a w ⟨hm,o,u⟩
 unfold Z7j at hm
 refine th<|rg<|qa o rfl λo=>re<|tn<|wr<|?_
 obtain rfl:=si hm
 exact r1 o results63 rfl ⟨rfl,u.keep⟩
set_option maxHeartbeats 4000000 in
theorem Jbo (hH:H.le w0) {cs2:List Value} {p1:api_Prog} (g3:Enc.rep H cs2 p1) {cs5:List Value} {p4:api_Thread} (g6:Enc.rep H cs5 p4) {cs8:List Value} {p7:api_Stmt} (g9:Enc.rep H cs8 p7) {r:Int} (hm:Z76 N p1 p4 p7=some r):Tot Tryz.prog 62 #[.agg cs2.toArray,.agg cs5.toArray,.agg cs8.toArray] w0 (λv w'=>v=i6 r∧Keep Nil w0 w'):=by
 unfold Z76 at hm
 refine fn0 func62 rfl ntmps62 rfl rfl λa o=>?_
 have u:St w0 Nil [H] [] w0:=start1 hH
 obtain ⟨R0,C0,S0,D0,T0,E0,U0,F0,V0,G0,W0,I0,rfl,C1,E1,F1,G1,I1,J1,M1,O1,P1,Q1,R1,S1⟩:=Ba g3
 obtain ⟨X0,J0,Y0,K0,rfl,T1,U1,R3,S3⟩:=Ar g6
 obtain ⟨j0,M0,n0,O0,rfl,Y2,A3,B3,C3⟩:=Bg g9
 refine th<|rg<|ls<|Bt (cs:=[SL R0 p1.Lines C0,SL S0 p1.Vols D0,SL T0 p1.Locks E0,SL U0 p1.Threads F0,SL V0 p1.Recover G0,SL W0 p1.Claims I0].toArray) o rfl u rfl rfl λu0 w a u o=>ls<|Bt (cs:=[Ac p4.Name,SL X0 p4.Regs J0,SL Y0 p4.Body K0,i6 p4.At].toArray) o rfl u rfl rfl λP0 w a u o=>ls<|Bt (cs:=[i6 p7.Kind,Ac p7.Reg,Ac p7.Name,SL j0 p7.E M0,SL n0 p7.F O0,i6 p7.N,i6 p7.Body,i6 p7.Else,i6 p7.At].toArray) o rfl u rfl rfl λQ0 w a u o=>qa o rfl λo=>re<|tn<|th<|th<|Au (λa w=>∃ (T2:Bool),(Z77 N p1 p4 p7) T2=some r∧Fr 74 [(3,PT u0),(4,PT P0),(5,PT Q0),(19,.bool T2)] a∧St w0 Nil [H] [bk u0 [SL R0 p1.Lines C0,SL S0 p1.Vols D0,SL T0 p1.Locks E0,SL U0 p1.Threads F0,SL V0 p1.Recover G0,SL W0 p1.Claims I0] 27,bk P0 [Ac p4.Name,SL X0 p4.Regs J0,SL Y0 p4.Body K0,i6 p4.At] 48,bk Q0 [i6 p7.Kind,Ac p7.Reg,Ac p7.Name,SL j0 p7.E M0,SL n0 p7.F O0,i6 p7.N,i6 p7.Body,i6 p7.Else,i6 p7.At] 51] w) ?_ ?_
 rcases bip hm with ⟨V1,hm⟩ | ⟨V1,hm⟩
 obtain ⟨D3,E3,hm⟩:=bs hm
 refine rg<|qv o (Af o Cs rfl) λo=>qv o (Ag o isAgg9 rfl (u.ld.cellB t0 rfl)) λo=>qv o (Dd (m:=p7.Reg) (n:=[]) o rfl rfl) λo=>qv o (Aq (Ab o rfl) (congrArg Value.bool V1)) λo=>qg o (Af o Cm rfl) λo=>qg o (Ag o isAgg36 rfl (u.ld.cellB t1 rfl)) λo=>qg o (Af o Cs rfl) λo=>qg o (Ag o isAgg9 rfl (u.ld.cellB t0 rfl)) λo=>ls<|gy o rfl rfl<|cr o call33 (Hj (Ai _) T1 (St.srH u U1) E3) u λu o=>qg o (Ap o rfl rfl) λo=>qv o (Ad o rfl rfl) λo=>re<|tn<|?_
 replace u:=u.pk [2,1,0] rfl
 exact ⟨(decide (D3 < 0)),hm,o.hs,u⟩
 refine rg<|qv o (Af o Cs rfl) λo=>qv o (Ag o isAgg9 rfl (u.ld.cellB t0 rfl)) λo=>qv o (Dd (m:=p7.Reg) (n:=[]) o rfl rfl) λo=>qv o (Aq (Ab o rfl) (congrArg Value.bool V1)) λo=>?_
 iterate 6 refine qn o λo=>?_
 refine qv o (Ae o rfl rfl) λo=>re<|tn<|?_
 replace u:=u.pk [2,1,0] rfl
 exact ⟨false,hm,o.hs,u⟩
 rintro a w ⟨T2,hm,o,u⟩
 unfold Z77 at hm
 rcases bit hm with ⟨X1,hm⟩ | ⟨X1,hm⟩
 refine ctv o rfl X1<|th<|rg<|qv o (Af o Fa rfl) λo=>qv o (Ag o isAgg3 rfl (u.ld.cellB t2 rfl)) λo=>qa o rfl λo=>re<|tn<|wr<|tr<|?_
 obtain rfl:=si hm
 exact r1 o results62 rfl ⟨rfl,u.keep⟩
 refine cfv o rfl X1<|wk<|tn<|th<|?_
 obtain ⟨X3,F3,hm⟩:=bs hm
 obtain ⟨B1,G3,hm⟩:=bs hm
 refine rdS 6 u wide λw u=>dq 0 u.ld o rfl (λw hl=>Ax o isAgg27 sizeOf27 rfl rfl (hl.cellsB t0)) λo=>dr 2 u o rfl (Af o Dc rfl) λo=>dq 3 u.ld o rfl (λw hl=>Ag o isAgg9 rfl (hl.cellB t2 rfl)) λo=>da1 (i:=1) (by kernel_rfl) ?_
 refine di (i:=1) rfl<|c1 o rfl call22 (Rz (Ai _) (Enc.mono (St.up u) (show Enc.rep (α:=api_Prog) H [SL R0 p1.Lines C0,SL S0 p1.Vols D0,SL T0 p1.Locks E0,SL U0 p1.Threads F0,SL V0 p1.Recover G0,SL W0 p1.Claims I0] p1 from ⟨_,_,rfl,⟨_,_,rfl,C1,E1⟩,⟨_,_,rfl,⟨_,_,rfl,F1,G1⟩,⟨_,_,rfl,⟨_,_,rfl,I1,J1⟩,⟨_,_,rfl,⟨_,_,rfl,M1,O1⟩,⟨_,_,rfl,⟨_,_,rfl,P1,Q1⟩,⟨_,_,rfl,R1,S1⟩⟩⟩⟩⟩⟩)) F3) ⟨rfl,trivial⟩ (λv w a hR o=>?_)
 obtain ⟨T3,P3,U3,rfl,Y1,hk⟩:=hR
 replace u:=u.fresh hk
 replace Y1:=Y1 H
 refine ⟨λ_=>(St.ldsX u i2 ta1),?_⟩
 refine da1 (i:=4) (by kernel_rfl) ?_
 refine di (i:=4) rfl<|cr o call33 (Hj (Ai _) (St.capO u t0) (St.srO u t0 Y1) G3) u λu o=>⟨λ_=>(St.ldsX u i2 ta1),?_⟩
 refine ds 5 (St.ldsX u i2 ta1) o rfl (Bn o rfl) λo=>de (by kernel_rfl)<|tn<|th<|th<|rg<|qv o (Af o Bm rfl) λo=>qv o (Ag o isAgg3 rfl (u.ld.cellB t3 rfl)) λo=>re<|tn<|Au (λa w=>(Z78 N p4 p7)=some r∧Fr 74 [(4,PT P0),(5,PT Q0)] a∧St w0 Nil [H] [bk P0 [Ac p4.Name,SL X0 p4.Regs J0,SL Y0 p4.Body K0,i6 p4.At] 48,bk Q0 [i6 p7.Kind,Ac p7.Reg,Ac p7.Name,SL j0 p7.E M0,SL n0 p7.F O0,i6 p7.N,i6 p7.Body,i6 p7.Else,i6 p7.At] 51] w) ?_ ?_
 refine wb<|th<|th<|rg<|qv o (An o rfl rfl) λo=>qa o rfl λo=>re<|tn<|Au (λa w=>∃ (U2:Bool),(Z79 N (Z78 N p4 p7) p1 p7 B1) U2=some r∧Fr 74 [(3,PT u0),(4,PT P0),(5,PT Q0),(7,i6 B1),(28,i6 p7.Kind),(29,.bool U2)] a∧St w0 Nil [H] [bk u0 [SL R0 p1.Lines C0,SL S0 p1.Vols D0,SL T0 p1.Locks E0,SL U0 p1.Threads F0,SL V0 p1.Recover G0,SL W0 p1.Claims I0] 27,bk P0 [Ac p4.Name,SL X0 p4.Regs J0,SL Y0 p4.Body K0,i6 p4.At] 48,bk Q0 [i6 p7.Kind,Ac p7.Reg,Ac p7.Name,SL j0 p7.E M0,SL n0 p7.F O0,i6 p7.N,i6 p7.Body,i6 p7.Else,i6 p7.At] 51] w) ?_ ?_
 rcases bip hm with ⟨B2,hm⟩ | ⟨B2,hm⟩
 refine ctv o rfl B2<|wk<|tn<|?_
 replace u:=u.pk [1,1,1] rfl
 exact ⟨(decide (p7.Kind=2)),hm,o.hs,u⟩
 refine cfv o rfl B2<|th<|rg<|qv o (An o rfl rfl) λo=>qa o rfl λo=>re<|?_
 rcases bip hm with ⟨C2,hm⟩ | ⟨C2,hm⟩
 refine tn<|ctv o rfl C2<|wk<|tn<|?_
 replace u:=u.pk [1,1,1] rfl
 exact ⟨(decide (p7.Kind=3)),hm,o.hs,u⟩
 refine tn<|cfv o rfl C2<|rg<|qv o (An o rfl rfl) λo=>qa o rfl λo=>re<|tn<|?_
 replace u:=u.pk [1,1,1] rfl
 exact ⟨(decide (p7.Kind=4)),hm,o.hs,u⟩
 rintro a w ⟨U2,hm,o,u⟩
 unfold Z79 at hm
 rcases bit hm with ⟨E2,hm⟩ | ⟨E2,hm⟩
 refine ctv o rfl E2<|th<|rg<|qm o rfl λo=>qv o (Ap o rfl rfl) λo=>re<|?_
 rcases bip hm with ⟨F2,hm⟩ | ⟨F2,hm⟩
 refine tn<|ctv o rfl F2<|th<|rg<|qv o (Af o Fa rfl) λo=>qv o (Ag o isAgg3 rfl (u.ld.cellB t2 rfl)) λo=>qa o rfl λo=>re<|tn<|wr<|br<|tr<|?_
 obtain rfl:=si hm
 exact r1 o results62 rfl ⟨rfl,u.keep⟩
 refine tn<|cfv o rfl F2<|wk<|bn<|tn<|?_
 replace u:=u.pk [1,1] rfl
 exact ⟨hm,o.has ⟨rfl,rfl,trivial⟩,u⟩
 refine cfv o rfl E2<|th<|th<|rg<|qv o (An o rfl rfl) λo=>qa o rfl λo=>re<|tn<|Au (λa w=>∃ (V2:Bool),(Z7a N (Z78 N p4 p7) p1 p7 B1) V2=some r∧Fr 74 [(3,PT u0),(4,PT P0),(5,PT Q0),(7,i6 B1),(28,i6 p7.Kind),(37,.bool V2)] a∧St w0 Nil [H] [bk u0 [SL R0 p1.Lines C0,SL S0 p1.Vols D0,SL T0 p1.Locks E0,SL U0 p1.Threads F0,SL V0 p1.Recover G0,SL W0 p1.Claims I0] 27,bk P0 [Ac p4.Name,SL X0 p4.Regs J0,SL Y0 p4.Body K0,i6 p4.At] 48,bk Q0 [i6 p7.Kind,Ac p7.Reg,Ac p7.Name,SL j0 p7.E M0,SL n0 p7.F O0,i6 p7.N,i6 p7.Body,i6 p7.Else,i6 p7.At] 51] w) ?_ ?_
 rcases bip hm with ⟨G2,hm⟩ | ⟨G2,hm⟩
 refine ctv o rfl G2<|wk<|tn<|?_
 exact ⟨(decide (p7.Kind=5)),hm,o.hs,u⟩
 refine cfv o rfl G2<|rg<|qv o (An o rfl rfl) λo=>qa o rfl λo=>re<|tn<|?_
 exact ⟨(decide (p7.Kind=6)),hm,o.hs,u⟩
 rintro a w ⟨V2,hm,o,u⟩
 unfold Z7a at hm
 rcases bit hm with ⟨I2,hm⟩ | ⟨I2,hm⟩
 refine ctv o rfl I2<|th<|Au (λa w=>∃ (W2:Bool),(Z7b (Z78 N p4 p7) p7) W2=some r∧Fr 74 [(4,PT P0),(5,PT Q0),(47,.bool W2)] a∧St w0 Nil [H] [bk P0 [Ac p4.Name,SL X0 p4.Regs J0,SL Y0 p4.Body K0,i6 p4.At] 48,bk Q0 [i6 p7.Kind,Ac p7.Reg,Ac p7.Name,SL j0 p7.E M0,SL n0 p7.F O0,i6 p7.N,i6 p7.Body,i6 p7.Else,i6 p7.At] 51] w) ?_ ?_
 rcases bip hm with ⟨J2,hm⟩ | ⟨J2,hm⟩
 refine rg<|qm o rfl λo=>qv o (Ap o rfl rfl) λo=>qv o (Aq (Ab o rfl) (congrArg Value.bool J2)) λo=>?_
 iterate 4 refine qn o λo=>?_
 refine qv o (Ad o rfl rfl) λo=>re<|tn<|?_
 replace u:=u.pk [1,1] rfl
 exact ⟨true,hm,o.hs,u⟩
 obtain ⟨I3,J3,hm⟩:=bs hm
 refine rg<|qm o rfl λo=>qv o (Ap o rfl rfl) λo=>qv o (Aq (Ab o rfl) (congrArg Value.bool J2)) λo=>qg o (Ab o rfl) λo=>qg o (Ax o isAgg27 sizeOf27 rfl rfl (u.ld.cellsB t0)) λo=>ls<|gy o rfl rfl<|cr o call24 (Jan (Ai _) (Enc.mono (St.up u) (show Enc.rep (α:=api_Prog) H [SL R0 p1.Lines C0,SL S0 p1.Vols D0,SL T0 p1.Locks E0,SL U0 p1.Threads F0,SL V0 p1.Recover G0,SL W0 p1.Claims I0] p1 from ⟨_,_,rfl,⟨_,_,rfl,C1,E1⟩,⟨_,_,rfl,⟨_,_,rfl,F1,G1⟩,⟨_,_,rfl,⟨_,_,rfl,I1,J1⟩,⟨_,_,rfl,⟨_,_,rfl,M1,O1⟩,⟨_,_,rfl,⟨_,_,rfl,P1,Q1⟩,⟨_,_,rfl,R1,S1⟩⟩⟩⟩⟩⟩)) J3) u λu o=>qg o (Bl o rfl rfl) λo=>qv o (Ae o rfl rfl) λo=>re<|tn<|?_
 replace u:=u.pk [1,1] rfl
 exact ⟨(decide (I3≤B1)),hm,o.hs,u⟩
 rintro a w ⟨W2,hm,o,u⟩
 unfold Z7b at hm
 rcases bit hm with ⟨K2,hm⟩ | ⟨K2,hm⟩
 refine ctv o rfl K2<|th<|rg<|qv o (Af o Fa rfl) λo=>qv o (Ag o isAgg3 rfl (u.ld.cellB t1 rfl)) λo=>qa o rfl λo=>re<|tn<|wr<|br<|tr<|?_
 obtain rfl:=si hm
 exact r1 o results62 rfl ⟨rfl,u.keep⟩
 refine cfv o rfl K2<|wk<|bn<|tn<|?_
 exact ⟨hm,o.has ⟨rfl,rfl,trivial⟩,u⟩
 refine cfv o rfl I2<|th<|th<|rg<|qv o (An o rfl rfl) λo=>qa o rfl λo=>re<|tn<|Au (λa w=>∃ (X2:Bool),(Z7c N (Z78 N p4 p7) p1 p7) X2=some r∧Fr 74 [(3,PT u0),(4,PT P0),(5,PT Q0),(50,.bool X2)] a∧St w0 Nil [H] [bk u0 [SL R0 p1.Lines C0,SL S0 p1.Vols D0,SL T0 p1.Locks E0,SL U0 p1.Threads F0,SL V0 p1.Recover G0,SL W0 p1.Claims I0] 27,bk P0 [Ac p4.Name,SL X0 p4.Regs J0,SL Y0 p4.Body K0,i6 p4.At] 48,bk Q0 [i6 p7.Kind,Ac p7.Reg,Ac p7.Name,SL j0 p7.E M0,SL n0 p7.F O0,i6 p7.N,i6 p7.Body,i6 p7.Else,i6 p7.At] 51] w) ?_ ?_
 rcases bip hm with ⟨M2,hm⟩ | ⟨M2,hm⟩
 refine ctv o rfl M2<|wk<|tn<|?_
 exact ⟨(decide (p7.Kind=9)),hm,o.hs,u⟩
 refine cfv o rfl M2<|rg<|qv o (An o rfl rfl) λo=>qa o rfl λo=>re<|tn<|?_
 exact ⟨(decide (p7.Kind=10)),hm,o.hs,u⟩
 rintro a w ⟨X2,hm,o,u⟩
 unfold Z7c at hm
 rcases bit hm with ⟨O2,hm⟩ | ⟨O2,hm⟩
 refine ctv o rfl O2<|th<|?_
 obtain ⟨Y3,K3,hm⟩:=bs hm
 obtain ⟨l3,L3,hm⟩:=bs hm
 refine rdS 6 u wide λw u=>dq 0 u.ld o rfl (λw hl=>Ax o isAgg27 sizeOf27 rfl rfl (hl.cellsB t0)) λo=>dr 2 u o rfl (Af o Dc rfl) λo=>dq 3 u.ld o rfl (λw hl=>Ag o isAgg9 rfl (hl.cellB t2 rfl)) λo=>da1 (i:=1) (by kernel_rfl) ?_
 refine di (i:=1) rfl<|c1 o rfl call28 (Ja1 (Ai _) (Enc.mono (St.up u) (show Enc.rep (α:=api_Prog) H [SL R0 p1.Lines C0,SL S0 p1.Vols D0,SL T0 p1.Locks E0,SL U0 p1.Threads F0,SL V0 p1.Recover G0,SL W0 p1.Claims I0] p1 from ⟨_,_,rfl,⟨_,_,rfl,C1,E1⟩,⟨_,_,rfl,⟨_,_,rfl,F1,G1⟩,⟨_,_,rfl,⟨_,_,rfl,I1,J1⟩,⟨_,_,rfl,⟨_,_,rfl,M1,O1⟩,⟨_,_,rfl,⟨_,_,rfl,P1,Q1⟩,⟨_,_,rfl,R1,S1⟩⟩⟩⟩⟩⟩)) K3) ⟨rfl,trivial⟩ (λv w a hR o=>?_)
 obtain ⟨V3,Q3,W3,rfl,P2,hk⟩:=hR
 replace u:=u.fresh hk
 replace P2:=P2 H
 refine ⟨λ_=>(St.ldsX u i2 ta1),?_⟩
 refine da1 (i:=4) (by kernel_rfl) ?_
 refine di (i:=4) rfl<|cr o call33 (Hj (Ai _) (St.capO u t0) (St.srO u t0 P2) L3) u λu o=>⟨λ_=>(St.ldsX u i2 ta1),?_⟩
 refine ds 5 (St.ldsX u i2 ta1) o rfl (Ap o rfl rfl) λo=>de (by kernel_rfl)<|?_
 rcases bip hm with ⟨Q2,hm⟩ | ⟨Q2,hm⟩
 refine tn<|ctv o rfl Q2<|th<|rg<|qv o (Af o Fa rfl) λo=>qv o (Ag o isAgg3 rfl (u.ld.cellB t3 rfl)) λo=>qa o rfl λo=>re<|tn<|wr<|br<|tr<|?_
 obtain rfl:=si hm
 exact r1 o results62 rfl ⟨rfl,u.keep⟩
 refine tn<|cfv o rfl Q2<|wk<|bn<|tn<|?_
 replace u:=u.pk [2,2] rfl
 exact ⟨hm,o.has ⟨rfl,rfl,trivial⟩,u⟩
 refine cfv o rfl O2<|wk<|bn<|tn<|?_
 replace u:=u.pk [1,1] rfl
 exact ⟨hm,o.has ⟨rfl,rfl,trivial⟩,u⟩
 rintro a w ⟨hm,o,u⟩
 unfold Z78 at hm
 refine th<|?_
 obtain ⟨n3,M3,hm⟩:=bs hm
 refine rg<|qv o (Af o Dx rfl) λo=>qv o (Ag o isAgg49 rfl (u.ld.cellB t1 rfl)) λo=>qv o (Af o Cm rfl) λo=>qv o (Ag o isAgg36 rfl (u.ld.cellB t0 rfl)) λo=>ls<|cr o call63 (Wq (Ai _) Y2 (St.srH u A3) T1 (St.srH u U1) M3) u λu o=>qa o rfl λo=>re<|tn<|th<|th<|rg<|qm o rfl λo=>qv o (Bl o rfl rfl) λo=>re<|?_
 rcases bip hm with ⟨R2,hm⟩ | ⟨R2,hm⟩
 refine tn<|ctv o rfl R2<|th<|rg<|qm o rfl λo=>qa o rfl λo=>re<|tn<|wr<|tr<|?_
 obtain rfl:=si hm
 exact r1 o results62 rfl ⟨rfl,u.keep⟩
 refine tn<|cfv o rfl R2<|wk<|tn<|th<|?_
 obtain ⟨u3,O3,hm⟩:=bs hm
 refine rg<|qv o (Af o Hi rfl) λo=>qv o (Ag o isAgg49 rfl (u.ld.cellB t1 rfl)) λo=>qv o (Af o Cm rfl) λo=>qv o (Ag o isAgg36 rfl (u.ld.cellB t0 rfl)) λo=>ls<|cr o call63 (Wq (Ai _) B3 (St.srH u C3) T1 (St.srH u U1) O3) u λu o=>qa o rfl λo=>re<|tn<|wr<|?_
 obtain rfl:=si hm
 exact r1 o results62 rfl ⟨rfl,u.keep⟩
set_option maxHeartbeats 4000000 in
theorem Jbp (hH:H.le w0) {cs2:List Value} {p1:api_Prog} (g3:Enc.rep H cs2 p1) {r:(Int×Int)} (hm:Z6b N p1=some r):Tot Tryz.prog 17 #[.agg cs2.toArray] w0 (λv w'=>v=.tuple #[i6 r.1,i6 r.2]∧Keep Nil w0 w'):=by
 unfold Z6b at hm
 refine fn0 func17 rfl ntmps17 rfl rfl λa o=>?_
 have u:St w0 Nil [H] [] w0:=start1 hH
 obtain ⟨T0,K0,oa8,cap9,M0,F0,O0,G0,P0,I0,Q0,J0,rfl,R1,S1,Y0,j0,n0,u0,B1,C1,E1,F1,G1,X0⟩:=Ba g3
 refine th<|rg<|ls<|Bt (cs:=[SL T0 p1.Lines K0,SL oa8 p1.Vols cap9,SL M0 p1.Locks F0,SL O0 p1.Threads G0,SL P0 p1.Recover I0,SL Q0 p1.Claims J0].toArray) o rfl u rfl rfl λS0 w a u o=>?_
 iterate 2 refine qa o rfl λo=>?_
 refine re<|tn<|th<|th<|?_
 obtain ⟨v6,U5,hm⟩:=bs hm
 refine rg<|qv o (Ax o Tryz.isAgg27 Tryz.sizeOf27 rfl rfl (u.ld.cellsB t0)) λo=>ls<|cr o call57 (Jc8 (Ai _) (Enc.mono (St.up u) (show Enc.rep (α:=api_Prog) H [SL T0 p1.Lines K0,SL oa8 p1.Vols cap9,SL M0 p1.Locks F0,SL O0 p1.Threads G0,SL P0 p1.Recover I0,SL Q0 p1.Claims J0] p1 from ⟨_,_,rfl,⟨_,_,rfl,R1,S1⟩,⟨_,_,rfl,⟨_,_,rfl,Y0,j0⟩,⟨_,_,rfl,⟨_,_,rfl,n0,u0⟩,⟨_,_,rfl,⟨_,_,rfl,B1,C1⟩,⟨_,_,rfl,⟨_,_,rfl,E1,F1⟩,⟨_,_,rfl,G1,X0⟩⟩⟩⟩⟩⟩)) U5) u λu o=>qv o (Az o rfl) λo=>re<|?_
 rcases bit hm with ⟨C3,hm⟩ | ⟨C3,hm⟩
 refine tn<|cfv o rfl (by rw [C3];rfl)<|wk<|tn<|th<|th<|?_
 obtain ⟨y6,V5,hm⟩:=bs hm
 refine rg<|qv o (Ax o Tryz.isAgg27 Tryz.sizeOf27 rfl rfl (u.ld.cellsB t0)) λo=>ls<|cr o call58 (Jbt (Ai _) (Enc.mono (St.up u) (show Enc.rep (α:=api_Prog) H [SL T0 p1.Lines K0,SL oa8 p1.Vols cap9,SL M0 p1.Locks F0,SL O0 p1.Threads G0,SL P0 p1.Recover I0,SL Q0 p1.Claims J0] p1 from ⟨_,_,rfl,⟨_,_,rfl,R1,S1⟩,⟨_,_,rfl,⟨_,_,rfl,Y0,j0⟩,⟨_,_,rfl,⟨_,_,rfl,n0,u0⟩,⟨_,_,rfl,⟨_,_,rfl,B1,C1⟩,⟨_,_,rfl,⟨_,_,rfl,E1,F1⟩,⟨_,_,rfl,G1,X0⟩⟩⟩⟩⟩⟩)) V5) u λu o=>re<|?_
 rcases bit hm with ⟨D3,hm⟩ | ⟨D3,hm⟩
 refine tn<|ctv o rfl D3<|th<|rg<|qa o rfl λo=>qa o rfl λo=>re<|tn<|wr<|tr<|?_
 obtain rfl:=si hm
 exact r2 o results17 rfl rfl ⟨rfl,u.keep⟩
 refine tn<|cfv o rfl D3<|wk<|tn<|th<|?_
 obtain ⟨R0,W5,hm⟩:=bs hm
 refine rg<|qv o (Ax o Tryz.isAgg27 Tryz.sizeOf27 rfl rfl (u.ld.cellsB t0)) λo=>ls<|c1 o rfl call59 (Jay (St.le u) (show Enc.rep (α:=api_Prog) H [SL T0 p1.Lines K0,SL oa8 p1.Vols cap9,SL M0 p1.Locks F0,SL O0 p1.Threads G0,SL P0 p1.Recover I0,SL Q0 p1.Claims J0] p1 from ⟨_,_,rfl,⟨_,_,rfl,R1,S1⟩,⟨_,_,rfl,⟨_,_,rfl,Y0,j0⟩,⟨_,_,rfl,⟨_,_,rfl,n0,u0⟩,⟨_,_,rfl,⟨_,_,rfl,B1,C1⟩,⟨_,_,rfl,⟨_,_,rfl,E1,F1⟩,⟨_,_,rfl,G1,X0⟩⟩⟩⟩⟩⟩) W5) ⟨rfl,trivial⟩ (λv w a hR o=>?_)
 obtain ⟨H40,I1,W0,rfl,O6,V0,C0,u4,hk⟩:=hR
 obtain ⟨u,C0⟩:=And.intro (St.passH u hk C0 u4) (St.extc u C0)
 refine qa o rfl λo=>re<|tn<|th<|th<|rg<|qa o rfl λo=>re<|tn<|Au (λa w=>(Z6c N p1 R0)=some r∧Fr 150 [(1,PT S0),(4,SL I1 R0 W0)] a∧St w0 Nil [H40] [bk S0 [SL T0 p1.Lines K0,SL oa8 p1.Vols cap9,SL M0 p1.Locks F0,SL O0 p1.Threads G0,SL P0 p1.Recover I0,SL Q0 p1.Claims J0] 27] w) ?_ ?_
 refine wb<|lp (α:=Nat×Int) (λgh a w=>match gh with | (B3,Q3)=>(Z6l N (Z6c N p1 R0) R0) B3 Q3=some r∧Fr 150 [(1,PT S0),(4,SL I1 R0 W0),(5,i6 Q3)] a∧St w0 Nil [H40] [bk S0 [SL T0 p1.Lines K0,SL oa8 p1.Vols cap9,SL M0 p1.Locks F0,SL O0 p1.Threads G0,SL P0 p1.Recover I0,SL Q0 p1.Claims J0] 27] w) (λgh=>gh.1) (N,0) ⟨hm,o.hs,u⟩ ?_
 rintro ⟨B3,Q3⟩ a w ⟨hm,o,u⟩
 obtain _ | B3:=B3
 simp [Z6l] at hm
 rw [Z6l] at hm
 refine th<|th<|rg<|qm o rfl λo=>qm o rfl λo=>qv o (Ak (α:=api_Thread) (xs:=R0) o runUnderlying24 rfl) λo=>qv o (Ap o rfl rfl) λo=>re<|?_
 rcases bip hm with ⟨E3,hm⟩ | ⟨E3,hm⟩
 refine tn<|ctv o rfl E3<|wk<|tn<|th<|wb<|th<|?_
 obtain ⟨z6,V3,hm⟩:=bs hm
 obtain ⟨A7,X5,A5⟩:=SR.get V0 V3
 obtain ⟨P6,D6,Q6,E6,rfl,R6,S6,B5,C5⟩:=Ar X5
 obtain ⟨B7,Y5,hm⟩:=bs hm
 refine rg<|qm o rfl λo=>qm o rfl λo=>qv o (Ao o runUnderlying24 sizeOf48 rfl rfl V3 (SR.oaI V0 (by decide) V3)) λo=>qv o (Af o Dy rfl) λo=>qv o (Ag o isAgg46 rfl (PH.le.cell (Lds.le u.ld) (A5 2 _ rfl))) λo=>ls<|cr o call60 (Jcp _ (Ai _) B5 (St.srH u C5) Y5) u λu o=>qa o rfl λo=>re<|tn<|th<|rg<|qm o rfl λo=>qv o (Bl o rfl rfl) λo=>re<|?_
 rcases bip hm with ⟨F3,hm⟩ | ⟨F3,hm⟩
 refine tn<|ctv o rfl F3<|th<|rg<|qm o rfl λo=>?_
 iterate 2 refine qa o rfl λo=>?_
 refine re<|tn<|wr<|br<|tr<|tr<|br<|tr<|?_
 obtain rfl:=si hm
 exact r2 o results17 rfl rfl ⟨rfl,u.keep⟩
 refine tn<|cfv o rfl F3<|wk<|bn<|tn<|rg<|qm o rfl λo=>qv o (Am o rfl rfl) λo=>qa o rfl λo=>re<|tn<|?_
 exact ⟨(B3,(IntKind.i64.wrap (Q3+1))),⟨hm,o.hs,u⟩,Nat.lt_succ_self _⟩
 refine tn<|cfv o rfl E3<|we<|tx<|tx<|bx<|tn<|?_
 exact ⟨hm,o.has ⟨rfl,rfl,trivial⟩,u⟩
 rintro a w ⟨hm,o,u⟩
 unfold Z6c at hm
 refine th<|?_
 obtain ⟨C7,d5,hm⟩:=bs hm
 refine rg<|qv o (Ax o Tryz.isAgg27 Tryz.sizeOf27 rfl rfl (u.ld.cellsB t0)) λo=>ls<|cr o call61 (JcD (Ai _) (Enc.mono (St.up u) (show Enc.rep (α:=api_Prog) H40 [SL T0 p1.Lines K0,SL oa8 p1.Vols cap9,SL M0 p1.Locks F0,SL O0 p1.Threads G0,SL P0 p1.Recover I0,SL Q0 p1.Claims J0] p1 from ⟨_,_,rfl,⟨_,_,rfl,R1,(S1.mono C0.sub)⟩,⟨_,_,rfl,⟨_,_,rfl,Y0,(j0.mono C0.sub)⟩,⟨_,_,rfl,⟨_,_,rfl,n0,(u0.mono C0.sub)⟩,⟨_,_,rfl,⟨_,_,rfl,B1,(C1.mono C0.sub)⟩,⟨_,_,rfl,⟨_,_,rfl,E1,(F1.mono C0.sub)⟩,⟨_,_,rfl,G1,(X0.mono C0.sub)⟩⟩⟩⟩⟩⟩)) d5) u λu o=>qa o rfl λo=>re<|tn<|th<|th<|rg<|qm o rfl λo=>qv o (Bl o rfl rfl) λo=>re<|?_
 rcases bip hm with ⟨G3,hm⟩ | ⟨G3,hm⟩
 refine tn<|ctv o rfl G3<|th<|rg<|qm o rfl λo=>?_
 iterate 2 refine qa o rfl λo=>?_
 refine re<|tn<|wr<|tr<|?_
 obtain rfl:=si hm
 exact r2 o results17 rfl rfl ⟨rfl,u.keep⟩
 refine tn<|cfv o rfl G3<|wk<|tn<|th<|th<|rg<|qa o rfl λo=>re<|tn<|Au (λa w=>∃ (P1:PH),(Z6f N p1 R0)=some r∧Ext w0 H40 P1∧Fr 150 [(1,PT S0),(4,SL I1 R0 W0)] a∧St w0 Nil [P1] [bk S0 [SL T0 p1.Lines K0,SL oa8 p1.Vols cap9,SL M0 p1.Locks F0,SL O0 p1.Threads G0,SL P0 p1.Recover I0,SL Q0 p1.Claims J0] 27] w) ?_ ?_
 refine wb<|lp (α:=Nat×Int) (λgh a w=>match gh with | (B2,Q1)=>∃ (C2:PH),(Z6m N (Z6f N p1 R0) p1 R0) B2 Q1=some r∧Ext w0 H40 C2∧Fr 150 [(1,PT S0),(4,SL I1 R0 W0),(8,i6 Q1)] a∧St w0 Nil [C2] [bk S0 [SL T0 p1.Lines K0,SL oa8 p1.Vols cap9,SL M0 p1.Locks F0,SL O0 p1.Threads G0,SL P0 p1.Recover I0,SL Q0 p1.Claims J0] 27] w) (λgh=>gh.1) (N,0) ⟨H40,hm,(Ext.refl _ _),o.hs,u⟩ ?_
 rintro ⟨B2,Q1⟩ a w ⟨C2,hm,D0,o,u⟩
 obtain _ | B2:=B2
 simp [Z6m] at hm
 rw [Z6m] at hm
 refine th<|th<|rg<|qm o rfl λo=>qm o rfl λo=>qv o (Ak (α:=api_Thread) (xs:=R0) o runUnderlying24 rfl) λo=>qv o (Ap o rfl rfl) λo=>re<|?_
 rcases bip hm with ⟨I3,hm⟩ | ⟨I3,hm⟩
 refine tn<|ctv o rfl I3<|wk<|tn<|th<|Au (λa w=>∃ (R3:PH),(Z6g (Z6m N (Z6f N p1 R0) p1 R0 B2) Q1)=some r∧Ext w0 C2 R3∧Fr 150 [(1,PT S0),(4,SL I1 R0 W0),(8,i6 Q1)] a∧St w0 Nil [R3] [bk S0 [SL T0 p1.Lines K0,SL oa8 p1.Vols cap9,SL M0 p1.Locks F0,SL O0 p1.Threads G0,SL P0 p1.Recover I0,SL Q0 p1.Claims J0] 27] w) ?_ ?_
 refine wb<|th<|rg<|qa o rfl λo=>re<|tn<|wb<|lp (α:=Nat×Int) (λgh a w=>match gh with | (J2,K2)=>∃ (HD1:PH),(Z6n N (Z6g (Z6m N (Z6f N p1 R0) p1 R0 B2) Q1) p1 R0 Q1) J2 K2=some r∧Ext w0 C2 HD1∧Fr 150 [(1,PT S0),(4,SL I1 R0 W0),(8,i6 Q1),(9,i6 K2)] a∧St w0 Nil [HD1] [bk S0 [SL T0 p1.Lines K0,SL oa8 p1.Vols cap9,SL M0 p1.Locks F0,SL O0 p1.Threads G0,SL P0 p1.Recover I0,SL Q0 p1.Claims J0] 27] w) (λgh=>gh.1) (N,0) ⟨C2,hm,(Ext.refl _ _),o.hs,u⟩ ?_
 rintro ⟨J2,K2⟩ a w ⟨HD1,hm,hxHD1,o,u⟩
 obtain _ | J2:=J2
 simp [Z6n] at hm
 rw [Z6n] at hm
 refine th<|th<|?_
 obtain ⟨j4,M1,hm⟩:=bs hm
 obtain ⟨D7,j5,X1⟩:=SR.get V0 M1
 obtain ⟨T6,F6,U6,G6,rfl,J3,E2,V6,W6⟩:=Ar j5
 refine rg<|qm o rfl λo=>?_
 iterate 2 refine qm o rfl λo=>?_
 refine qv o (Ao o runUnderlying24 sizeOf48 rfl rfl M1 (SR.oaI V0 (by decide) M1)) λo=>qv o (Af o Cm rfl) λo=>qv o (Ag o isAgg36 rfl (PH.le.cell (λb o hx=>(Lds.le u.ld) b o ((cp hxHD1.sub D0.sub) b o hx)) (X1 1 _ rfl))) λo=>qv o (Ak (α:=Str) (xs:=j4.Regs) o runUnderlying36 rfl) λo=>qv o (Ap o rfl rfl) λo=>re<|?_
 rcases bip hm with ⟨K3,hm⟩ | ⟨K3,hm⟩
 refine tn<|ctv o rfl K3<|wk<|tn<|th<|wb<|th<|?_
 obtain ⟨k5,W3,hm⟩:=bs hm
 obtain ⟨n5,u5,D5⟩:=SR.get E2 W3
 obtain rfl:n5=[Ac k5]:=u5
 refine rg<|qm o rfl λo=>qm o rfl λo=>qv o (Ao o runUnderlying24 sizeOf48 rfl rfl M1 (SR.oaI V0 (by decide) M1)) λo=>qv o (Af o Cm rfl) λo=>qv o (Ag o isAgg36 rfl (PH.le.cell (λb o hx=>(Lds.le u.ld) b o ((cp hxHD1.sub D0.sub) b o hx)) (X1 1 _ rfl))) λo=>qm o rfl λo=>qv o (Ao o runUnderlying36 sizeOf9 rfl rfl W3 (SR.oaI E2 (by decide) W3)) λo=>qv o (Ag o isAgg9 rfl (PH.le.cell (λb o hx=>(Lds.le u.ld) b o ((cp hxHD1.sub D0.sub) b o hx)) (D5 0 _ rfl))) λo=>qa o rfl λo=>re<|tn<|th<|Au (λa w=>∃ (X3:Bool) (HE1:PH),(Z6h (Z6n N (Z6g (Z6m N (Z6f N p1 R0) p1 R0 B2) Q1) p1 R0 Q1 J2) j4 K2) X3=some r∧Ext w0 HD1 HE1∧Fr 150 [(1,PT S0),(4,SL I1 R0 W0),(8,i6 Q1),(9,i6 K2),(88,.bool X3)] a∧St w0 Nil [HE1] [bk S0 [SL T0 p1.Lines K0,SL oa8 p1.Vols cap9,SL M0 p1.Locks F0,SL O0 p1.Threads G0,SL P0 p1.Recover I0,SL Q0 p1.Claims J0] 27] w) ?_ ?_
 obtain ⟨E7,Y3,hm⟩:=bs hm
 rcases bip hm with ⟨M2,hm⟩ | ⟨M2,hm⟩
 refine rg<|qm o rfl λo=>qm o rfl λo=>qv o (Ao o runUnderlying24 sizeOf48 rfl rfl M1 (SR.oaI V0 (by decide) M1)) λo=>qv o (Af o Cm rfl) λo=>qv o (Ag o isAgg36 rfl (PH.le.cell (λb o hx=>(Lds.le u.ld) b o ((cp hxHD1.sub D0.sub) b o hx)) (X1 1 _ rfl))) λo=>qm o rfl λo=>ls<|cr o call33 (Hj (Ai _) J3 (St.srH u (E2.mono (cp hxHD1.sub D0.sub))) Y3) u λu o=>qm o rfl λo=>qv o (Ap o rfl rfl) λo=>qv o (Aq (Ab o rfl) (congrArg Value.bool M2)) λo=>?_
 iterate 5 refine qn o λo=>?_
 refine qv o (Ad o rfl rfl) λo=>qm o rfl λo=>?_
 iterate 5 refine qn o λo=>?_
 refine qv o (Ad o rfl rfl) λo=>re<|tn<|?_
 exact ⟨true,HD1,hm,(Ext.refl _ _),o.hs,u⟩
 obtain ⟨F7,k4,hm⟩:=bs hm
 obtain ⟨G7,l4,hm⟩:=bs hm
 rcases bip hm with ⟨O2,hm⟩ | ⟨O2,hm⟩
 refine rg<|qm o rfl λo=>qm o rfl λo=>qv o (Ao o runUnderlying24 sizeOf48 rfl rfl M1 (SR.oaI V0 (by decide) M1)) λo=>qv o (Af o Cm rfl) λo=>qv o (Ag o isAgg36 rfl (PH.le.cell (λb o hx=>(Lds.le u.ld) b o ((cp hxHD1.sub D0.sub) b o hx)) (X1 1 _ rfl))) λo=>qm o rfl λo=>ls<|cr o call33 (Hj (Ai _) J3 (St.srH u (E2.mono (cp hxHD1.sub D0.sub))) Y3) u λu o=>qm o rfl λo=>qv o (Ap o rfl rfl) λo=>qv o (Aq (Ab o rfl) (congrArg Value.bool M2)) λo=>qg o (Ax o isAgg27 sizeOf27 rfl rfl (u.ld.cellsB t0)) λo=>ls<|gy o rfl rfl<|c1 o rfl call22 (Rz (Ai _) (Enc.mono (St.up u) (show Enc.rep (α:=api_Prog) HD1 [SL T0 p1.Lines K0,SL oa8 p1.Vols cap9,SL M0 p1.Locks F0,SL O0 p1.Threads G0,SL P0 p1.Recover I0,SL Q0 p1.Claims J0] p1 from ⟨_,_,rfl,⟨_,_,rfl,R1,(S1.mono (cp (cp hxHD1.sub D0.sub) C0.sub))⟩,⟨_,_,rfl,⟨_,_,rfl,Y0,(j0.mono (cp (cp hxHD1.sub D0.sub) C0.sub))⟩,⟨_,_,rfl,⟨_,_,rfl,n0,(u0.mono (cp (cp hxHD1.sub D0.sub) C0.sub))⟩,⟨_,_,rfl,⟨_,_,rfl,B1,(C1.mono (cp (cp hxHD1.sub D0.sub) C0.sub))⟩,⟨_,_,rfl,⟨_,_,rfl,E1,(F1.mono (cp (cp hxHD1.sub D0.sub) C0.sub))⟩,⟨_,_,rfl,G1,(X0.mono (cp (cp hxHD1.sub D0.sub) C0.sub))⟩⟩⟩⟩⟩⟩)) k4) ⟨rfl,trivial⟩ (λv w a hR o=>?_)
 obtain ⟨E5,E4,F5,rfl,T1,hk⟩:=hR
 replace u:=u.fresh hk
 replace T1:=T1 HD1
 obtain ⟨H97,O1,L3,M3,u⟩:=St.frzS u .head T1
 refine qg o (Ab o rfl) λo=>ls<|gy o rfl rfl<|cr o call33 (Hj (Ai _) M3 (St.srH u L3) l4) u λu o=>qg o (Bl o rfl rfl) λo=>qv o (Ae o rfl rfl) λo=>qv o (Aq (Ab o rfl) (congrArg Value.bool O2)) λo=>?_
 iterate 5 refine qn o λo=>?_
 refine qv o (Ad o rfl rfl) λo=>re<|tn<|?_
 exact ⟨true,H97,hm,O1,o.hs,u⟩
 obtain ⟨X6,G5,hm⟩:=bs hm
 obtain ⟨I5,J5,hm⟩:=bs hm
 refine rg<|qm o rfl λo=>qm o rfl λo=>qv o (Ao o runUnderlying24 sizeOf48 rfl rfl M1 (SR.oaI V0 (by decide) M1)) λo=>qv o (Af o Cm rfl) λo=>qv o (Ag o isAgg36 rfl (PH.le.cell (λb o hx=>(Lds.le u.ld) b o ((cp hxHD1.sub D0.sub) b o hx)) (X1 1 _ rfl))) λo=>qm o rfl λo=>ls<|cr o call33 (Hj (Ai _) J3 (St.srH u (E2.mono (cp hxHD1.sub D0.sub))) Y3) u λu o=>qm o rfl λo=>qv o (Ap o rfl rfl) λo=>qv o (Aq (Ab o rfl) (congrArg Value.bool M2)) λo=>qg o (Ax o isAgg27 sizeOf27 rfl rfl (u.ld.cellsB t0)) λo=>ls<|gy o rfl rfl<|c1 o rfl call22 (Rz (Ai _) (Enc.mono (St.up u) (show Enc.rep (α:=api_Prog) HD1 [SL T0 p1.Lines K0,SL oa8 p1.Vols cap9,SL M0 p1.Locks F0,SL O0 p1.Threads G0,SL P0 p1.Recover I0,SL Q0 p1.Claims J0] p1 from ⟨_,_,rfl,⟨_,_,rfl,R1,(S1.mono (cp (cp hxHD1.sub D0.sub) C0.sub))⟩,⟨_,_,rfl,⟨_,_,rfl,Y0,(j0.mono (cp (cp hxHD1.sub D0.sub) C0.sub))⟩,⟨_,_,rfl,⟨_,_,rfl,n0,(u0.mono (cp (cp hxHD1.sub D0.sub) C0.sub))⟩,⟨_,_,rfl,⟨_,_,rfl,B1,(C1.mono (cp (cp hxHD1.sub D0.sub) C0.sub))⟩,⟨_,_,rfl,⟨_,_,rfl,E1,(F1.mono (cp (cp hxHD1.sub D0.sub) C0.sub))⟩,⟨_,_,rfl,G1,(X0.mono (cp (cp hxHD1.sub D0.sub) C0.sub))⟩⟩⟩⟩⟩⟩)) k4) ⟨rfl,trivial⟩ (λv w a hR o=>?_)
 obtain ⟨E5,E4,F5,rfl,T1,hk⟩:=hR
 replace u:=u.fresh hk
 replace T1:=T1 HD1
 obtain ⟨H97,O1,L3,M3,u⟩:=St.frzS u .head T1
 refine qg o (Ab o rfl) λo=>ls<|gy o rfl rfl<|cr o call33 (Hj (Ai _) M3 (St.srH u L3) l4) u λu o=>qg o (Bl o rfl rfl) λo=>qv o (Ae o rfl rfl) λo=>qv o (Aq (Ab o rfl) (congrArg Value.bool O2)) λo=>qg o (Ax o isAgg27 sizeOf27 rfl rfl (u.ld.cellsB t0)) λo=>ls<|gy o rfl rfl<|c1 o rfl call28 (Ja1 (Ai _) (Enc.mono (St.up u) (show Enc.rep (α:=api_Prog) H97 [SL T0 p1.Lines K0,SL oa8 p1.Vols cap9,SL M0 p1.Locks F0,SL O0 p1.Threads G0,SL P0 p1.Recover I0,SL Q0 p1.Claims J0] p1 from ⟨_,_,rfl,⟨_,_,rfl,R1,(S1.mono (cp (cp (cp O1.sub hxHD1.sub) D0.sub) C0.sub))⟩,⟨_,_,rfl,⟨_,_,rfl,Y0,(j0.mono (cp (cp (cp O1.sub hxHD1.sub) D0.sub) C0.sub))⟩,⟨_,_,rfl,⟨_,_,rfl,n0,(u0.mono (cp (cp (cp O1.sub hxHD1.sub) D0.sub) C0.sub))⟩,⟨_,_,rfl,⟨_,_,rfl,B1,(C1.mono (cp (cp (cp O1.sub hxHD1.sub) D0.sub) C0.sub))⟩,⟨_,_,rfl,⟨_,_,rfl,E1,(F1.mono (cp (cp (cp O1.sub hxHD1.sub) D0.sub) C0.sub))⟩,⟨_,_,rfl,G1,(X0.mono (cp (cp (cp O1.sub hxHD1.sub) D0.sub) C0.sub))⟩⟩⟩⟩⟩⟩)) G5) ⟨rfl,trivial⟩ (λv w a hR o=>?_)
 obtain ⟨I6,A6,J6,rfl,P2,hk⟩:=hR
 replace u:=u.fresh hk
 replace P2:=P2 H97
 refine qg o (Ab o rfl) λo=>ls<|gy o rfl rfl<|cr o call33 (Hj (Ai _) (St.capO u t0) (St.srO u t0 P2) J5) u λu o=>qg o (Bl o rfl rfl) λo=>qv o (Ae o rfl rfl) λo=>re<|tn<|?_
 replace u:=u.pk [1] rfl
 exact ⟨(decide (0≤I5)),H97,hm,O1,o.hs,u⟩
 rintro a w ⟨X3,HE1,hm,hxHE1,o,u⟩
 unfold Z6h at hm
 rcases bit hm with ⟨Q2,hm⟩ | ⟨Q2,hm⟩
 refine ctv o rfl Q2<|th<|rxS 7 u wide (by kernel_rfl) λw u=>?_
 iterate 2 refine xq u.ld o (λw hl=>Ab o rfl) λo=>?_
 refine xr u o (Ao o runUnderlying24 sizeOf48 rfl rfl M1 (SR.oaI V0 (by decide) M1)) λo=>xr u o (Af o Ga rfl) λo=>xq u.ld o (λw hl=>Ag o isAgg3 rfl (PH.le.cell (λb o hx=>(Lds.le hl) b o ((cp (cp hxHE1.sub hxHD1.sub) D0.sub) b o hx)) (X1 3 _ rfl))) λo=>?_
 iterate 2 refine xq u.ld o (λw hl=>Bn o rfl) λo=>?_
 refine xe<|tn<|wr<|br<|tr<|tr<|br<|br<|tr<|tr<|br<|tr<|?_
 obtain rfl:=si hm
 exact r2 o results17 rfl rfl ⟨rfl,u.keep⟩
 refine cfv o rfl Q2<|wk<|bn<|tn<|rg<|qm o rfl λo=>qv o (Am o rfl rfl) λo=>qa o rfl λo=>re<|tn<|?_
 exact ⟨(J2,(IntKind.i64.wrap (K2+1))),⟨HE1,hm,(Ext.trans hxHD1 hxHE1),o.hs,u⟩,Nat.lt_succ_self _⟩
 refine tn<|cfv o rfl K3<|we<|tx<|tx<|bx<|bn<|tn<|?_
 exact ⟨HD1,hm,hxHD1,o.hs,u⟩
 rintro a w ⟨R3,hm,hxHC1,o,u⟩
 unfold Z6g at hm
 refine rg<|qm o rfl λo=>qv o (Am o rfl rfl) λo=>qa o rfl λo=>re<|tn<|?_
 exact ⟨(B2,(IntKind.i64.wrap (Q1+1))),⟨R3,hm,(Ext.trans D0 hxHC1),o.hs,u⟩,Nat.lt_succ_self _⟩
 refine tn<|cfv o rfl I3<|we<|tx<|tx<|bx<|tn<|?_
 exact ⟨C2,hm,D0,o.has ⟨rfl,rfl,trivial⟩,u⟩
 rintro a w ⟨P1,hm,E0,o,u⟩
 unfold Z6f at hm
 refine th<|th<|rg<|qa o rfl λo=>re<|tn<|Au (λa w=>(Z6i N p1)=some r∧Fr 150 [(1,PT S0)] a∧St w0 Nil [P1] [bk S0 [SL T0 p1.Lines K0,SL oa8 p1.Vols cap9,SL M0 p1.Locks F0,SL O0 p1.Threads G0,SL P0 p1.Recover I0,SL Q0 p1.Claims J0] 27] w) ?_ ?_
 refine wb<|lp (α:=Nat×Int) (λgh a w=>match gh with | (F2,V1)=>(Z6o N (Z6i N p1) p1 R0) F2 V1=some r∧Fr 150 [(1,PT S0),(4,SL I1 R0 W0),(11,i6 V1)] a∧St w0 Nil [P1] [bk S0 [SL T0 p1.Lines K0,SL oa8 p1.Vols cap9,SL M0 p1.Locks F0,SL O0 p1.Threads G0,SL P0 p1.Recover I0,SL Q0 p1.Claims J0] 27] w) (λgh=>gh.1) (N,0) ⟨hm,o.hs,u⟩ ?_
 rintro ⟨F2,V1⟩ a w ⟨hm,o,u⟩
 obtain _ | F2:=F2
 simp [Z6o] at hm
 rw [Z6o] at hm
 refine th<|th<|rg<|qm o rfl λo=>qm o rfl λo=>qv o (Ak (α:=api_Thread) (xs:=R0) o runUnderlying24 rfl) λo=>qv o (Ap o rfl rfl) λo=>re<|?_
 rcases bip hm with ⟨R2,hm⟩ | ⟨R2,hm⟩
 refine tn<|ctv o rfl R2<|wk<|tn<|th<|Au (λa w=>(Z6d (Z6o N (Z6i N p1) p1 R0 F2) V1)=some r∧Fr 150 [(1,PT S0),(4,SL I1 R0 W0),(11,i6 V1)] a∧St w0 Nil [P1] [bk S0 [SL T0 p1.Lines K0,SL oa8 p1.Vols cap9,SL M0 p1.Locks F0,SL O0 p1.Threads G0,SL P0 p1.Recover I0,SL Q0 p1.Claims J0] 27] w) ?_ ?_
 refine wb<|th<|rg<|qa o rfl λo=>re<|tn<|wb<|lp (α:=Nat×Int) (λgh a w=>match gh with | (G2,S3)=>(Z6j N (Z6d (Z6o N (Z6i N p1) p1 R0 F2) V1) p1 R0 V1) G2 S3=some r∧Fr 150 [(1,PT S0),(4,SL I1 R0 W0),(11,i6 V1),(12,i6 S3)] a∧St w0 Nil [P1] [bk S0 [SL T0 p1.Lines K0,SL oa8 p1.Vols cap9,SL M0 p1.Locks F0,SL O0 p1.Threads G0,SL P0 p1.Recover I0,SL Q0 p1.Claims J0] 27] w) (λgh=>gh.1) (N,0) ⟨hm,o.hs,u⟩ ?_
 rintro ⟨G2,S3⟩ a w ⟨hm,o,u⟩
 obtain _ | G2:=G2
 simp [Z6j] at hm
 rw [Z6j] at hm
 refine th<|th<|?_
 obtain ⟨Y1,U1,hm⟩:=bs hm
 obtain ⟨Y6,K5,T2⟩:=SR.get V0 U1
 obtain ⟨F4,l3,G4,n3,rfl,I4,J4,K4,U2⟩:=Ar K5
 refine rg<|qm o rfl λo=>?_
 iterate 2 refine qm o rfl λo=>?_
 refine qv o (Ao o runUnderlying24 sizeOf48 rfl rfl U1 (SR.oaI V0 (by decide) U1)) λo=>qv o (Af o Dy rfl) λo=>qv o (Ag o isAgg46 rfl (PH.le.cell (λb o hx=>(Lds.le u.ld) b o (E0.sub b o hx)) (T2 2 _ rfl))) λo=>qv o (Ak (α:=api_Stmt) (xs:=Y1.Body) o runUnderlying46 rfl) λo=>qv o (Ap o rfl rfl) λo=>re<|?_
 rcases bip hm with ⟨V2,hm⟩ | ⟨V2,hm⟩
 refine tn<|ctv o rfl V2<|wk<|tn<|th<|wb<|th<|?_
 obtain ⟨J1,O3,hm⟩:=bs hm
 obtain ⟨d6,L5,L4⟩:=SR.get U2 O3
 obtain ⟨M4,u3,O4,A4,rfl,P4,Q4,R4,S4⟩:=Bg L5
 obtain ⟨j6,M5,hm⟩:=bs hm
 refine rdS 15 u wide λw u=>dq 0 u.ld o rfl (λw hl=>Ax o isAgg27 sizeOf27 rfl rfl (hl.cellsB t0)) λo=>dr 1 u o rfl (Ab o rfl) λo=>dr 2 u o rfl (Ab o rfl) λo=>dr 3 u o rfl (Ao o runUnderlying24 sizeOf48 rfl rfl U1 (SR.oaI V0 (by decide) U1)) λo=>dq 4 u.ld o rfl (λw hl=>Ax o isAgg48 sizeOf48 rfl rfl (λj v hj=>PH.le.cell (λb o hx=>(Lds.le hl) b o (E0.sub b o hx)) (T2 j v hj))) λo=>dr 5 u o rfl (Ab o rfl) λo=>dr 6 u o rfl (Ab o rfl) λo=>dr 7 u o rfl (Ao o runUnderlying24 sizeOf48 rfl rfl U1 (SR.oaI V0 (by decide) U1)) λo=>dr 8 u o rfl (Af o Dy rfl) λo=>dq 9 u.ld o rfl (λw hl=>Ag o isAgg46 rfl (PH.le.cell (λb o hx=>(Lds.le hl) b o (E0.sub b o hx)) (T2 2 _ rfl))) λo=>dr 10 u o rfl (Ab o rfl) λo=>dr 11 u o rfl (Ao o runUnderlying46 sizeOf51 rfl rfl O3 (SR.oaI U2 (by decide) O3)) λo=>dq 12 u.ld o rfl (λw hl=>Ax o isAgg51 sizeOf51 rfl rfl (λj v hj=>PH.le.cell (λb o hx=>(Lds.le hl) b o (E0.sub b o hx)) (L4 j v hj))) λo=>da1 (i:=13) (by kernel_rfl) ?_
 refine di (i:=13) rfl<|cr o call62 (Jbo (Ai _) (Enc.mono (St.up u) (show Enc.rep (α:=api_Prog) P1 [SL T0 p1.Lines K0,SL oa8 p1.Vols cap9,SL M0 p1.Locks F0,SL O0 p1.Threads G0,SL P0 p1.Recover I0,SL Q0 p1.Claims J0] p1 from ⟨_,_,rfl,⟨_,_,rfl,R1,(S1.mono (cp E0.sub C0.sub))⟩,⟨_,_,rfl,⟨_,_,rfl,Y0,(j0.mono (cp E0.sub C0.sub))⟩,⟨_,_,rfl,⟨_,_,rfl,n0,(u0.mono (cp E0.sub C0.sub))⟩,⟨_,_,rfl,⟨_,_,rfl,B1,(C1.mono (cp E0.sub C0.sub))⟩,⟨_,_,rfl,⟨_,_,rfl,E1,(F1.mono (cp E0.sub C0.sub))⟩,⟨_,_,rfl,G1,(X0.mono (cp E0.sub C0.sub))⟩⟩⟩⟩⟩⟩)) (Enc.mono (St.up u) (show Enc.rep (α:=api_Thread) P1 [Ac Y1.Name,SL F4 Y1.Regs l3,SL G4 Y1.Body n3,i6 Y1.At] Y1 from ⟨_,_,rfl,rfl,⟨_,_,rfl,⟨_,_,rfl,I4,(J4.mono E0.sub)⟩,⟨_,_,rfl,⟨_,_,rfl,K4,(U2.mono E0.sub)⟩,rfl⟩⟩⟩)) (Enc.mono (St.up u) (show Enc.rep (α:=api_Stmt) P1 [i6 J1.Kind,Ac J1.Reg,Ac J1.Name,SL M4 J1.E u3,SL O4 J1.F A4,i6 J1.N,i6 J1.Body,i6 J1.Else,i6 J1.At] J1 from ⟨_,_,rfl,rfl,⟨_,_,rfl,rfl,⟨_,_,rfl,rfl,⟨_,_,rfl,⟨_,_,rfl,P4,(Q4.mono E0.sub)⟩,⟨_,_,rfl,⟨_,_,rfl,R4,(S4.mono E0.sub)⟩,⟨_,_,rfl,rfl,⟨_,_,rfl,rfl,⟨_,_,rfl,rfl,rfl⟩⟩⟩⟩⟩⟩⟩⟩)) M5) u λu o=>⟨λ_=>u.ld,?_⟩
 refine dr 14 u o rfl (Bn o rfl) λo=>de (by kernel_rfl)<|tn<|th<|rg<|qm o rfl λo=>qv o (Bl o rfl rfl) λo=>re<|?_
 rcases bip hm with ⟨W2,hm⟩ | ⟨W2,hm⟩
 refine tn<|ctv o rfl W2<|th<|rg<|qm o rfl λo=>?_
 iterate 2 refine qa o rfl λo=>?_
 refine re<|tn<|wr<|br<|tr<|tr<|br<|br<|tr<|tr<|br<|tr<|?_
 obtain rfl:=si hm
 exact r2 o results17 rfl rfl ⟨rfl,u.keep⟩
 refine tn<|cfv o rfl W2<|wk<|bn<|tn<|rg<|qm o rfl λo=>qv o (Am o rfl rfl) λo=>qa o rfl λo=>re<|tn<|?_
 exact ⟨(G2,(IntKind.i64.wrap (S3+1))),⟨hm,o.hs,u⟩,Nat.lt_succ_self _⟩
 refine tn<|cfv o rfl V2<|we<|tx<|tx<|bx<|bn<|tn<|?_
 exact ⟨hm,o.hs,u⟩
 rintro a w ⟨hm,o,u⟩
 unfold Z6d at hm
 refine rg<|qm o rfl λo=>qv o (Am o rfl rfl) λo=>qa o rfl λo=>re<|tn<|?_
 exact ⟨(F2,(IntKind.i64.wrap (V1+1))),⟨hm,o.hs,u⟩,Nat.lt_succ_self _⟩
 refine tn<|cfv o rfl R2<|we<|tx<|tx<|bx<|tn<|?_
 exact ⟨hm,o.has ⟨rfl,trivial⟩,u⟩
 rintro a w ⟨hm,o,u⟩
 unfold Z6i at hm
 refine th<|?_
 obtain ⟨O5,P5,hm⟩:=bs hm
 obtain ⟨Q5,R5,hm⟩:=bs hm
 obtain ⟨B4,C4,hm⟩:=bs hm
 refine rdS 6 u wide λw u=>dq 0 u.ld o rfl (λw hl=>Ax o isAgg27 sizeOf27 rfl rfl (hl.cellsB t0)) λo=>dq 2 u.ld o rfl (λw hl=>Ax o isAgg27 sizeOf27 rfl rfl (hl.cellsB t0)) λo=>da1 (i:=1) (by kernel_rfl) ?_
 refine di (i:=1) rfl<|c1 o rfl call22 (Rz (Ai _) (Enc.mono (St.up u) (show Enc.rep (α:=api_Prog) P1 [SL T0 p1.Lines K0,SL oa8 p1.Vols cap9,SL M0 p1.Locks F0,SL O0 p1.Threads G0,SL P0 p1.Recover I0,SL Q0 p1.Claims J0] p1 from ⟨_,_,rfl,⟨_,_,rfl,R1,(S1.mono (cp E0.sub C0.sub))⟩,⟨_,_,rfl,⟨_,_,rfl,Y0,(j0.mono (cp E0.sub C0.sub))⟩,⟨_,_,rfl,⟨_,_,rfl,n0,(u0.mono (cp E0.sub C0.sub))⟩,⟨_,_,rfl,⟨_,_,rfl,B1,(C1.mono (cp E0.sub C0.sub))⟩,⟨_,_,rfl,⟨_,_,rfl,E1,(F1.mono (cp E0.sub C0.sub))⟩,⟨_,_,rfl,G1,(X0.mono (cp E0.sub C0.sub))⟩⟩⟩⟩⟩⟩)) P5) ⟨rfl,trivial⟩ (λv w a hR o=>?_)
 obtain ⟨K6,B6,L6,rfl,X2,hk⟩:=hR
 replace u:=u.fresh hk
 replace X2:=X2 P1
 obtain ⟨H151,U0,T4,T3,u⟩:=St.frzS u .head X2
 refine ⟨λ_=>(St.ldsX u U0.sub i1),?_⟩
 refine da1 (i:=3) (by kernel_rfl) ?_
 refine di (i:=3) rfl<|cr o call24 (Jan (Ai _) (Enc.mono (St.up u) (show Enc.rep (α:=api_Prog) H151 [SL T0 p1.Lines K0,SL oa8 p1.Vols cap9,SL M0 p1.Locks F0,SL O0 p1.Threads G0,SL P0 p1.Recover I0,SL Q0 p1.Claims J0] p1 from ⟨_,_,rfl,⟨_,_,rfl,R1,(S1.mono (cp (cp U0.sub E0.sub) C0.sub))⟩,⟨_,_,rfl,⟨_,_,rfl,Y0,(j0.mono (cp (cp U0.sub E0.sub) C0.sub))⟩,⟨_,_,rfl,⟨_,_,rfl,n0,(u0.mono (cp (cp U0.sub E0.sub) C0.sub))⟩,⟨_,_,rfl,⟨_,_,rfl,B1,(C1.mono (cp (cp U0.sub E0.sub) C0.sub))⟩,⟨_,_,rfl,⟨_,_,rfl,E1,(F1.mono (cp (cp U0.sub E0.sub) C0.sub))⟩,⟨_,_,rfl,G1,(X0.mono (cp (cp U0.sub E0.sub) C0.sub))⟩⟩⟩⟩⟩⟩)) R5) u λu o=>⟨λ_=>(St.ldsX u U0.sub i1),?_⟩
 obtain ⟨U4,D4,e158,e159,V4,W4⟩:=SR.sub (sz:=1) T4 T3 rfl C4
 refine ds 4 (St.ldsX u U0.sub i1) o rfl (Bz (xs:=O5) (vl:=0) (vh:=Q5) o runUnderlying36 sizeOf9 rfl T3 rfl rfl C4 e158 e159) λo=>ds 5 (St.ldsX u U0.sub i1) o rfl (Bn o rfl) λo=>de (by kernel_rfl)<|tn<|th<|th<|rg<|qa o rfl λo=>re<|tn<|Au (λa w=>Z6e=some r∧Fr 150 [] a∧St w0 Nil [H151] [] w) ?_ ?_
 refine wb<|lp (α:=Nat×Int) (λgh a w=>match gh with | (I2,U3)=>(Z6k N Z6e p1 B4) I2 U3=some r∧Fr 150 [(1,PT S0),(13,SL U4 B4 D4),(14,i6 U3)] a∧St w0 Nil [H151] [bk S0 [SL T0 p1.Lines K0,SL oa8 p1.Vols cap9,SL M0 p1.Locks F0,SL O0 p1.Threads G0,SL P0 p1.Recover I0,SL Q0 p1.Claims J0] 27] w) (λgh=>gh.1) (N,0) ⟨hm,o.hs,u⟩ ?_
 rintro ⟨I2,U3⟩ a w ⟨hm,o,u⟩
 obtain _ | I2:=I2
 simp [Z6k] at hm
 rw [Z6k] at hm
 refine th<|th<|rg<|qm o rfl λo=>qv o (Af o De rfl) λo=>qv o (Ag o isAgg25 rfl (u.ld.cellB t0 rfl)) λo=>qv o (Ak (α:=api_Claim) (xs:=p1.Claims) o runUnderlying25 rfl) λo=>qv o (Ap o rfl rfl) λo=>re<|?_
 rcases bip hm with ⟨Y2,hm⟩ | ⟨Y2,hm⟩
 refine tn<|ctv o rfl Y2<|wk<|tn<|th<|wb<|th<|?_
 obtain ⟨k6,P3,hm⟩:=bs hm
 obtain ⟨n6,S5,X4⟩:=SR.get X0 P3
 obtain ⟨M6,C6,rfl,Y4,d4⟩:=Ck S5
 obtain ⟨u6,T5,hm⟩:=bs hm
 refine rg<|qv o (Af o De rfl) λo=>qv o (Ag o isAgg25 rfl (u.ld.cellB t0 rfl)) λo=>qm o rfl λo=>qv o (Ao o runUnderlying25 sizeOf74 rfl rfl P3 (SR.oaI X0 (by decide) P3)) λo=>qv o (Af o Ks rfl) λo=>qv o (Ag o isAgg49 rfl (PH.le.cell (λb o hx=>(Lds.le u.ld) b o ((cp (cp U0.sub E0.sub) C0.sub) b o hx)) (X4 0 _ rfl))) λo=>qm o rfl λo=>ls<|cr o call63 (Wq (Ai _) Y4 (St.srH u (d4.mono (cp (cp U0.sub E0.sub) C0.sub))) V4 (St.srH u W4) T5) u λu o=>qa o rfl λo=>re<|tn<|th<|rg<|qm o rfl λo=>qv o (Bl o rfl rfl) λo=>re<|?_
 rcases bip hm with ⟨A3,hm⟩ | ⟨A3,hm⟩
 refine tn<|ctv o rfl A3<|th<|rg<|qm o rfl λo=>?_
 iterate 2 refine qa o rfl λo=>?_
 refine re<|tn<|wr<|br<|tr<|tr<|br<|tr<|?_
 obtain rfl:=si hm
 exact r2 o results17 rfl rfl ⟨rfl,u.keep⟩
 refine tn<|cfv o rfl A3<|wk<|bn<|tn<|rg<|qm o rfl λo=>qv o (Am o rfl rfl) λo=>qa o rfl λo=>re<|tn<|?_
 exact ⟨(I2,(IntKind.i64.wrap (U3+1))),⟨hm,o.hs,u⟩,Nat.lt_succ_self _⟩
 refine tn<|cfv o rfl Y2<|we<|tx<|tx<|bx<|tn<|?_
 replace u:=u.pickL .nil
 exact ⟨hm,o.has trivial,u⟩
 rintro a w ⟨hm,o,u⟩
 unfold Z6e at hm
 refine th<|rg<|qa o rfl λo=>qa o rfl λo=>re<|tn<|wr<|?_
 obtain rfl:=si hm
 exact r2 o results17 rfl rfl ⟨rfl,u.keep⟩
 refine tn<|ctv o rfl (by rw [C3];rfl)<|th<|rg<|qa o rfl λo=>qa o rfl λo=>re<|tn<|wr<|tr<|?_
 obtain rfl:=si hm
 exact r2 o results17 rfl rfl ⟨rfl,u.keep⟩
theorem Jaj (hH:H.le w0) {p1:Str} {p2:Int} {p3:Str} {r:Bool} (hm:Z2d N p1 p2 p3=some r):Tot Tryz.prog 159 #[Ac p1,i6 p2,Ac p3] w0 (λv w'=>v=.bool r∧Keep Nil w0 w'):=by
 unfold Z2d at hm
 refine fn0 func159 rfl ntmps159 rfl rfl λa o=>?_
 have u:St w0 Nil [H] [] w0:=start1 hH
 refine th<|rg<|qa o rfl λo=>re<|tn<|th<|?_
 rcases bip hm with ⟨C0,hm⟩ | ⟨C0,hm⟩
 obtain ⟨s5,h6,hm⟩:=bs hm
 refine rg<|qm o rfl λo=>qm o rfl λo=>qv o (Bp (s:=p3) o runUnderlying9 rfl) λo=>qv o (Am o rfl rfl) λo=>qm o rfl λo=>qv o (Bp (s:=p1) o runUnderlying9 rfl) λo=>qv o (Di o rfl rfl) λo=>qv o (Aq (Ab o rfl) (congrArg Value.bool C0)) λo=>?_
 iterate 4 refine qg o (Ab o rfl) λo=>?_
 refine qg o (Bp (s:=p3) o runUnderlying9 rfl) λo=>qg o (Am o rfl rfl) λo=>qg o (Hf (s:=p1) (vl:=p2) (vh:=(IntKind.i64.wrap (p2+(p3.length:Int)))) o runUnderlying9 rfl rfl rfl h6) λo=>qg o (Ab o rfl) λo=>qg o (Ey (m:=s5) (n:=p3) o rfl rfl) λo=>qv o (Ad o rfl rfl) λo=>qa o rfl λo=>re<|tn<|wr<|?_
 obtain rfl:=si hm
 exact r1 o results159 rfl ⟨rfl,u.keep⟩
 refine rg<|qm o rfl λo=>qm o rfl λo=>qv o (Bp (s:=p3) o runUnderlying9 rfl) λo=>qv o (Am o rfl rfl) λo=>qm o rfl λo=>qv o (Bp (s:=p1) o runUnderlying9 rfl) λo=>qv o (Di o rfl rfl) λo=>qv o (Aq (Ab o rfl) (congrArg Value.bool C0)) λo=>?_
 iterate 9 refine qn o λo=>?_
 refine qv o (Ae o rfl rfl) λo=>qa o rfl λo=>re<|tn<|wr<|?_
 obtain rfl:=si hm
 exact r1 o results159 rfl ⟨rfl,u.keep⟩
theorem Jal (hH:H.le w0) {p1:Str} {p2:Int} {r:Int} (hm:Z2g N p1 p2=some r):Tot Tryz.prog 135 #[Ac p1,i6 p2] w0 (λv w'=>v=i6 r∧Keep Nil w0 w'):=by
 unfold Z2g at hm
 refine fn0 func135 rfl ntmps135 rfl rfl λa o=>?_
 have u:St w0 Nil [H] [] w0:=start1 hH
 refine th<|rg<|qa o rfl λo=>re<|tn<|th<|Au (λa w=>∃ (K0:Int),Z2h K0=some r∧Fr 46 [(1,i6 K0)] a∧St w0 Nil [H] [] w) ?_ ?_
 refine wb<|lp (α:=Nat×Int) (λgh a w=>match gh with | (D0,E0)=>(Z2j N Z2h p1) D0 E0=some r∧Fr 46 [(0,Ac p1),(1,i6 E0)] a∧St w0 Nil [H] [] w) (λgh=>gh.1) (N,p2) ⟨hm,o.has ⟨rfl,rfl,trivial⟩,u⟩ ?_
 rintro ⟨D0,E0⟩ a w ⟨hm,o,u⟩
 obtain _ | D0:=D0
 simp [Z2j] at hm
 rw [Z2j] at hm
 refine th<|th<|rg<|qm o rfl λo=>qm o rfl λo=>qv o (Bp (s:=p1) o runUnderlying9 rfl) λo=>qv o (Ap o rfl rfl) λo=>re<|?_
 rcases bip hm with ⟨M0,hm⟩ | ⟨M0,hm⟩
 refine tn<|ctv o rfl M0<|wk<|tn<|wb<|th<|?_
 obtain ⟨C0,h5,hm⟩:=bs hm
 refine rg<|qm o rfl λo=>qm o rfl λo=>qv o (Ct (s:=p1) o runUnderlying9 rfl rfl h5) λo=>qa o rfl λo=>re<|tn<|th<|rg<|qm o rfl λo=>qv o (An o rfl rfl) λo=>qm o rfl λo=>gr (Fk:=[(0,Ac p1),(1,i6 E0),(5,.int .u8 C0),(18,.bool ((decide (C0=32)) || (decide (C0=9))))]) 15 3 o u ?_ ?_ ?_
 intro hb o key
 iterate 2 refine qn o λo=>?_
 exact qk o (Ad o rfl rfl) key u hb
 intro hb o key
 exact qg o (Ab o rfl) λo=>qg o (An o rfl rfl) λo=>qk o (Ae o rfl rfl) key u hb
 intro a w o u
 refine qm o rfl λo=>gr (Fk:=[(0,Ac p1),(1,i6 E0),(5,.int .u8 C0),(22,.bool (((decide (C0=32)) || (decide (C0=9))) || (decide (C0=10))))]) 19 3 o u ?_ ?_ ?_
 intro hb o key
 iterate 2 refine qn o λo=>?_
 exact qk o (Ad o rfl rfl) key u hb
 intro hb o key
 exact qg o (Ab o rfl) λo=>qg o (An o rfl rfl) λo=>qk o (Ae o rfl rfl) key u hb
 intro a w o u
 refine qm o rfl λo=>gr (Fk:=[(0,Ac p1),(1,i6 E0),(26,.bool ((((decide (C0=32)) || (decide (C0=9))) || (decide (C0=10))) || (decide (C0=13))))]) 23 3 o u ?_ ?_ ?_
 intro hb o key
 iterate 2 refine qn o λo=>?_
 exact qk o (Ad o rfl rfl) key u hb
 intro hb o key
 exact qg o (Ab o rfl) λo=>qg o (An o rfl rfl) λo=>qk o (Ae o rfl rfl) key u hb
 intro a w o u
 refine re<|?_
 rcases bit hm with ⟨O0,hm⟩ | ⟨O0,hm⟩
 refine tn<|ctv o rfl O0<|rg<|qm o rfl λo=>qv o (Am o rfl rfl) λo=>qa o rfl λo=>re<|bn<|tn<|?_
 exact ⟨(D0,(IntKind.i64.wrap (E0+1))),⟨hm,o.has ⟨rfl,rfl,trivial⟩,u⟩,Nat.lt_succ_self _⟩
 refine tn<|cfv o rfl O0<|th<|?_
 obtain ⟨T0,h8,hm⟩:=bs hm
 refine rg<|qm o rfl λo=>qm o rfl λo=>ls<|cr o call159 (Jaj (Ai _) h8) u λu o=>re<|?_
 rcases bit hm with ⟨P0,hm⟩ | ⟨P0,hm⟩
 refine tn<|ctv o rfl P0<|wb<|lp (α:=Nat×Int) (λgh a w=>match gh with | (G0,F0)=>(Z2k N (Z2j N Z2h p1 D0) p1) G0 F0=some r∧Fr 46 [(0,Ac p1),(1,i6 F0)] a∧St w0 Nil [H] [] w) (λgh=>gh.1) (N,E0) ⟨hm,o.has ⟨rfl,rfl,trivial⟩,u⟩ ?_
 rintro ⟨G0,F0⟩ a w ⟨hm,o,u⟩
 obtain _ | G0:=G0
 simp [Z2k] at hm
 rw [Z2k] at hm
 refine th<|th<|Au (λa w=>∃ (Q0:Bool),(Z2i (Z2j N Z2h p1 D0) (Z2k N (Z2j N Z2h p1 D0) p1 G0) F0) Q0=some r∧Fr 46 [(0,Ac p1),(1,i6 F0),(41,.bool Q0)] a∧St w0 Nil [H] [] w) ?_ ?_
 rcases bip hm with ⟨I0,hm⟩ | ⟨I0,hm⟩
 obtain ⟨R0,S0,hm⟩:=bs hm
 refine rg<|qm o rfl λo=>qm o rfl λo=>qv o (Bp (s:=p1) o runUnderlying9 rfl) λo=>qv o (Ap o rfl rfl) λo=>qv o (Aq (Ab o rfl) (congrArg Value.bool I0)) λo=>?_
 iterate 2 refine qg o (Ab o rfl) λo=>?_
 refine qg o (Ct (s:=p1) o runUnderlying9 rfl rfl S0) λo=>qg o (Br o rfl rfl) λo=>qv o (Ad o rfl rfl) λo=>re<|tn<|?_
 exact ⟨(decide (R0≠10)),hm,o.hs,u⟩
 refine rg<|qm o rfl λo=>qm o rfl λo=>qv o (Bp (s:=p1) o runUnderlying9 rfl) λo=>qv o (Ap o rfl rfl) λo=>qv o (Aq (Ab o rfl) (congrArg Value.bool I0)) λo=>?_
 iterate 4 refine qn o λo=>?_
 refine qv o (Ae o rfl rfl) λo=>re<|tn<|?_
 exact ⟨false,hm,o.hs,u⟩
 rintro a w ⟨Q0,hm,o,u⟩
 unfold Z2i at hm
 rcases bit hm with ⟨J0,hm⟩ | ⟨J0,hm⟩
 refine ctv o rfl J0<|wk<|tn<|wb<|rg<|qm o rfl λo=>qv o (Am o rfl rfl) λo=>qa o rfl λo=>re<|bn<|tn<|?_
 exact ⟨(G0,(IntKind.i64.wrap (F0+1))),⟨hm,o.has ⟨rfl,rfl,trivial⟩,u⟩,Nat.lt_succ_self _⟩
 refine cfv o rfl J0<|we<|tx<|tx<|bx<|bn<|tn<|?_
 exact ⟨(D0,F0),⟨hm,o.has ⟨rfl,rfl,trivial⟩,u⟩,Nat.lt_succ_self _⟩
 refine tn<|cfv o rfl P0<|th<|rg<|qm o rfl λo=>qa o rfl λo=>re<|tn<|wr<|br<|tr<|br<|tr<|?_
 obtain rfl:=si hm
 exact r1 o results135 rfl ⟨rfl,u.keep⟩
 refine tn<|cfv o rfl M0<|we<|tx<|tx<|bx<|tn<|?_
 exact ⟨E0,hm,o.has ⟨rfl,trivial⟩,u⟩
 rintro a w ⟨K0,hm,o,u⟩
 unfold Z2h at hm
 refine th<|rg<|qm o rfl λo=>qa o rfl λo=>re<|tn<|wr<|?_
 obtain rfl:=si hm
 exact r1 o results135 rfl ⟨rfl,u.keep⟩
theorem Jcr (hH:H.le w0) {p1:Str} {p2:Int} {r:Int} (hm:Z2l N p1 p2=some r):Tot Tryz.prog 138 #[Ac p1,i6 p2] w0 (λv w'=>v=i6 r∧Keep Nil w0 w'):=by
 unfold Z2l at hm
 refine fn0 func138 rfl ntmps138 rfl rfl λa o=>?_
 have u:St w0 Nil [H] [] w0:=start1 hH
 refine th<|rg<|qa o rfl λo=>re<|tn<|th<|rg<|ls<|Bi (e:=9) (sz:=1) [Ac [61,61],Ac [33,61],Ac [60,61],Ac [38,38],Ac [124,124]] o rfl u rfl rfl rfl (λw=>by kernel_rfl) λb4 w a u o=>?_
 have M0:Rows (α:=Str) H [Ac [61,61],Ac [33,61],Ac [60,61],Ac [38,38],Ac [124,124]] ([[61,61],[33,61],[60,61],[38,38],[124,124]]:List Str):=(.cons (c:=[Ac [61,61]]) rfl (.cons (c:=[Ac [33,61]]) rfl (.cons (c:=[Ac [60,61]]) rfl (.cons (c:=[Ac [38,38]]) rfl (.cons (c:=[Ac [124,124]]) rfl .nil)))))
 iterate 2 refine qa o rfl λo=>?_
 refine re<|tn<|th<|th<|rg<|qa o rfl λo=>re<|tn<|Au (λa w=>(Z2m N p1 p2)=some r∧Fr 36 [(0,Ac p1),(1,i6 p2),(6,Ac [40,41,123,125,59,44,61,60,33,43,45,42,47,37])] a∧St w0 Nil [H] [] w) ?_ ?_
 refine wb<|lp (α:=Nat×Int) (λgh a w=>match gh with | (C0,I0)=>(Z2o N (Z2m N p1 p2) p1 p2) C0 I0=some r∧Fr 36 [(0,Ac p1),(1,i6 p2),(5,.slice (some ⟨b4,0,none⟩) ([[61,61],[33,61],[60,61],[38,38],[124,124]]:List Str).length 5),(6,Ac [40,41,123,125,59,44,61,60,33,43,45,42,47,37]),(7,i6 I0)] a∧St w0 Nil [H] [sla 9 1 (some ⟨b4,0,none⟩) ([[61,61],[33,61],[60,61],[38,38],[124,124]]:List Str).length 5 [Ac [61,61],Ac [33,61],Ac [60,61],Ac [38,38],Ac [124,124]]] w) (λgh=>gh.1) (N,0) ⟨hm,o.hs,u⟩ ?_
 rintro ⟨C0,I0⟩ a w ⟨hm,o,u⟩
 obtain _ | C0:=C0
 simp [Z2o] at hm
 rw [Z2o] at hm
 refine th<|th<|rg<|qm o rfl λo=>qm o rfl λo=>qv o (Ak (α:=Str) (xs:=([[61,61],[33,61],[60,61],[38,38],[124,124]]:List Str)) o runUnderlying36 rfl) λo=>qv o (Ap o rfl rfl) λo=>re<|?_
 rcases bip hm with ⟨K0,hm⟩ | ⟨K0,hm⟩
 refine tn<|ctv o rfl K0<|wk<|tn<|th<|wb<|th<|?_
 obtain ⟨P0,h8,hm⟩:=bs hm
 have Q0:=Rd.oaI (u.rdO t0) M0 (by decide) h8
 obtain ⟨R0,S0,O0⟩:=Rows.getI M0 h8
 obtain rfl:R0=[Ac P0]:=S0
 obtain ⟨W0,T0,hm⟩:=bs hm
 refine rg<|qm o rfl λo=>?_
 iterate 3 refine qm o rfl λo=>?_
 refine qv o (Ao o runUnderlying36 sizeOf9 rfl rfl h8 Q0) λo=>qv o (Ag o isAgg9 rfl (u.ld.elO t0 (O0 0 _ rfl))) λo=>ls<|cr o call159 (Jaj (Ai _) T0) u λu o=>re<|?_
 rcases bit hm with ⟨E0,hm⟩ | ⟨E0,hm⟩
 refine tn<|ctv o rfl E0<|th<|rg<|qa o rfl λo=>re<|tn<|wr<|br<|tr<|tr<|br<|tr<|?_
 obtain rfl:=si hm
 exact r1 o results138 rfl ⟨rfl,u.keep⟩
 refine tn<|cfv o rfl E0<|wk<|bn<|tn<|rg<|qm o rfl λo=>qv o (Am o rfl rfl) λo=>qa o rfl λo=>re<|tn<|?_
 exact ⟨(C0,(IntKind.i64.wrap (I0+1))),⟨hm,o.hs,u⟩,Nat.lt_succ_self _⟩
 refine tn<|cfv o rfl K0<|we<|tx<|tx<|bx<|tn<|?_
 replace u:=u.pickL .nil
 exact ⟨hm,o.hs,u⟩
 rintro a w ⟨hm,o,u⟩
 unfold Z2m at hm
 refine th<|th<|rg<|qa o rfl λo=>re<|tn<|Au (λa w=>Z2n=some r∧Fr 36 [] a∧St w0 Nil [H] [] w) ?_ ?_
 refine wb<|lp (α:=Nat×Int) (λgh a w=>match gh with | (D0,J0)=>(Z2p N Z2n p1 p2) D0 J0=some r∧Fr 36 [(0,Ac p1),(1,i6 p2),(6,Ac [40,41,123,125,59,44,61,60,33,43,45,42,47,37]),(8,i6 J0)] a∧St w0 Nil [H] [] w) (λgh=>gh.1) (N,0) ⟨hm,o.hs,u⟩ ?_
 rintro ⟨D0,J0⟩ a w ⟨hm,o,u⟩
 obtain _ | D0:=D0
 simp [Z2p] at hm
 rw [Z2p] at hm
 refine th<|th<|rg<|qm o rfl λo=>qm o rfl λo=>qv o ((Aq (Bp (s:=[40,41,123,125,59,44,61,60,33,43,45,42,47,37]) o runUnderlying9 rfl) rfl)) λo=>qv o (Ap o rfl rfl) λo=>re<|?_
 rcases bip hm with ⟨F0,hm⟩ | ⟨F0,hm⟩
 refine tn<|ctv o rfl F0<|wk<|tn<|th<|wb<|th<|?_
 obtain ⟨X0,U0,hm⟩:=bs hm
 obtain ⟨Y0,V0,hm⟩:=bs hm
 refine rxS 7 u wide (by kernel_rfl) λw u=>?_
 iterate 2 refine xq u.ld o (λw hl=>Ab o rfl) λo=>?_
 refine xr u o (Ct (s:=[40,41,123,125,59,44,61,60,33,43,45,42,47,37]) o runUnderlying9 rfl rfl U0) λo=>?_
 iterate 2 refine xq u.ld o (λw hl=>Ab o rfl) λo=>?_
 refine xr u o (Ct (s:=p1) o runUnderlying9 rfl rfl V0) λo=>xr u o (An o rfl rfl) λo=>xe<|?_
 rcases bip hm with ⟨G0,hm⟩ | ⟨G0,hm⟩
 refine tn<|ctv o rfl G0<|th<|rg<|qa o rfl λo=>re<|tn<|wr<|br<|tr<|tr<|br<|tr<|?_
 obtain rfl:=si hm
 exact r1 o results138 rfl ⟨rfl,u.keep⟩
 refine tn<|cfv o rfl G0<|wk<|bn<|tn<|rg<|qm o rfl λo=>qv o (Am o rfl rfl) λo=>qa o rfl λo=>re<|tn<|?_
 exact ⟨(D0,(IntKind.i64.wrap (J0+1))),⟨hm,o.hs,u⟩,Nat.lt_succ_self _⟩
 refine tn<|cfv o rfl F0<|we<|tx<|tx<|bx<|tn<|?_
 exact ⟨hm,o.has trivial,u⟩
 rintro a w ⟨hm,o,u⟩
 unfold Z2n at hm
 refine th<|rg<|qa o rfl λo=>re<|tn<|wr<|?_
 obtain rfl:=si hm
 exact r1 o results138 rfl ⟨rfl,u.keep⟩
set_option maxHeartbeats 4000000 in
theorem JbC (hH:H.le w0) {p1:Str} {r:((List api_Token)×Int×Int)} (hm:Z22 N p1=some r):Tot Tryz.prog 101 #[Ac p1] w0 (λv w'=>∃ (U1:Option Addr) (P1:Nat) (V1:List Value),v=.tuple #[SL U1 r.1 P1,i6 r.2.1,i6 r.2.2]∧(∀ h,Rows h V1 r.1)∧Fresh w0 (sla 130 4 U1 r.1.length P1 V1) w'):=by
 unfold Z22 at hm
 refine fn0 func101 rfl ntmps101 rfl rfl λa o=>?_
 have u:St w0 Nil [H] [] w0:=start1 hH
 refine th<|rg<|qa o rfl λo=>?_
 iterate 2 refine qa o rfl λo=>?_
 refine re<|tn<|th<|th<|rg<|qm o rfl λo=>qv o (Bp (s:=p1) o runUnderlying9 rfl) λo=>qv o (Bb o rfl rfl) λo=>re<|?_
 rcases bip hm with ⟨Q1,hm⟩ | ⟨Q1,hm⟩
 refine tn<|ctv o rfl Q1<|th<|rg<|qa o rfl λo=>?_
 iterate 2 refine qa o rfl λo=>?_
 refine re<|tn<|wr<|tr<|?_
 replace u:=u.nilS 130 4
 obtain rfl:=si hm
 exact Go.LM.r3 o results101 rfl rfl rfl ⟨_,_,_,rfl,(λ_=>.nil),u.endFresh t0⟩
 refine tn<|cfv o rfl Q1<|wk<|tn<|th<|rg<|ls<|Bi (e:=130) (sz:=4) [] o rfl u rfl rfl rfl (λw=>by kernel_rfl) λb4 w a u o=>?_
 have I2:Rows (α:=api_Token) H [] []:=.nil
 refine qa o rfl λo=>re<|tn<|th<|?_
 obtain ⟨J2,h7,hm⟩:=bs hm
 refine rg<|qm o rfl λo=>ls<|cr o call135 (Jal (Ai _) h7) u λu o=>qa o rfl λo=>re<|tn<|th<|Au (λa w=>∃ (U0:(List api_Token)) (W0:Option Addr) (S0:Nat) (X0:List Value),Z23 U0=some r∧Fr 107 [(5,SL W0 U0 S0)] a∧St w0 Nil [H] [sla 130 4 W0 U0.length S0 X0] w∧Rows H X0 U0) ?_ ?_
 refine wb<|lp (α:=Nat×(List api_Token)×Int) (λgh a w=>match gh with | (K0,E0,C0)=>∃ (F0:Option Addr) (D0:Nat) (J0:List Value),(Z2a N Z23 p1) K0 E0 C0=some r∧Fr 107 [(0,Ac p1),(5,SL F0 E0 D0),(6,i6 C0)] a∧St w0 Nil [H] [sla 130 4 F0 E0.length D0 J0] w∧Rows H J0 E0) (λgh=>gh.1) (N,[],J2) ⟨(some ⟨b4,0,none⟩),0,[],hm,o.hs,u,I2⟩ ?_
 rintro ⟨K0,E0,C0⟩ a w ⟨F0,D0,J0,hm,o,u,R1⟩
 obtain _ | K0:=K0
 simp [Z2a] at hm
 rw [Z2a] at hm
 refine th<|th<|rg<|qm o rfl λo=>qm o rfl λo=>qv o (Bp (s:=p1) o runUnderlying9 rfl) λo=>qv o (Ap o rfl rfl) λo=>re<|?_
 rcases bip hm with ⟨S1,hm⟩ | ⟨S1,hm⟩
 refine tn<|ctv o rfl S1<|wk<|tn<|wb<|th<|rg<|qm o rfl λo=>qm o rfl λo=>qv o (Bq [i6 C0] [i6 0,Ac [],i6 0,i6 C0] o ⟨rfl,trivial⟩ (λw=>by kernel_rfl)) λo=>ls<|Av (cs:=[i6 0,Ac [],i6 0,i6 0].toArray) o rfl u zeroValue130 rfl λb9 w a u o=>qa o rfl λo=>ls<|Aw o u sizeOf130 rfl rfl rfl rfl (Al rfl) .head λw u=>re<|tn<|th<|th<|?_
 obtain ⟨I3,K2,hm⟩:=bs hm
 obtain ⟨J3,M2,hm⟩:=bs hm
 refine rg<|qm o rfl λo=>qm o rfl λo=>qv o (Ct (s:=p1) o runUnderlying9 rfl rfl K2) λo=>ls<|cr o call136 (Li (Ai _) M2) u λu o=>re<|tn<|Au (λa w=>∃ (J1:Int) (G0:api_Token),(Z25 N (Z2a N Z23 p1 K0) p1 E0 C0) J1 G0=some r∧Fr 107 [(0,Ac p1),(5,SL F0 E0 D0),(6,i6 C0),(7,i6 J1),(8,PT b9)] a∧St w0 Nil [H] [sla 130 4 F0 E0.length D0 J0,bk b9 [i6 G0.Kind,Ac G0.Text,i6 G0.N,i6 G0.At] 130] w) ?_ ?_
 rcases bit hm with ⟨Y0,hm⟩ | ⟨Y0,hm⟩
 refine ctv o rfl Y0<|th<|rg<|qv o (Af o Cv rfl) λo=>ls<|Ay o u sizeOf3 rfl rfl rfl rfl .head .zero λw u=>re<|tn<|th<|Au (λa w=>∃ (M1:Int),(Z26 (Z25 N (Z2a N Z23 p1 K0) p1 E0 C0) C0) M1=some r∧Fr 107 [(0,Ac p1),(5,SL F0 E0 D0),(6,i6 C0),(7,i6 M1),(8,PT b9)] a∧St w0 Nil [H] [sla 130 4 F0 E0.length D0 J0,bk b9 [i6 1,Ac [],i6 0,i6 C0] 130] w) ?_ ?_
 replace u:=u.pk [1,0] rfl
 refine wb<|lp (α:=Nat×Int) (λgh a w=>match gh with | (R0,O0)=>(Z2b N (Z26 (Z25 N (Z2a N Z23 p1 K0) p1 E0 C0) C0) p1) R0 O0=some r∧Fr 107 [(0,Ac p1),(5,SL F0 E0 D0),(6,i6 C0),(7,i6 O0),(8,PT b9)] a∧St w0 Nil [H] [sla 130 4 F0 E0.length D0 J0,bk b9 [i6 1,Ac [],i6 0,i6 C0] 130] w) (λgh=>gh.1) (N,C0) ⟨hm,o.hs,u⟩ ?_
 rintro ⟨R0,O0⟩ a w ⟨hm,o,u⟩
 obtain _ | R0:=R0
 simp [Z2b] at hm
 rw [Z2b] at hm
 refine th<|th<|Au (λa w=>∃ (vF1:Bool),(Z27 (Z26 (Z25 N (Z2a N Z23 p1 K0) p1 E0 C0) C0) (Z2b N (Z26 (Z25 N (Z2a N Z23 p1 K0) p1 E0 C0) C0) p1 R0) O0) vF1=some r∧Fr 107 [(0,Ac p1),(5,SL F0 E0 D0),(6,i6 C0),(7,i6 O0),(8,PT b9),(42,.bool vF1)] a∧St w0 Nil [H] [sla 130 4 F0 E0.length D0 J0,bk b9 [i6 1,Ac [],i6 0,i6 C0] 130] w) ?_ ?_
 rcases bip hm with ⟨T0,hm⟩ | ⟨T0,hm⟩
 obtain ⟨K3,X1,hm⟩:=bs hm
 obtain ⟨L3,Y1,hm⟩:=bs hm
 rcases bit hm with ⟨j0,hm⟩ | ⟨j0,hm⟩
 refine rg<|qm o rfl λo=>qm o rfl λo=>qv o (Bp (s:=p1) o runUnderlying9 rfl) λo=>qv o (Ap o rfl rfl) λo=>qv o (Aq (Ab o rfl) (congrArg Value.bool T0)) λo=>?_
 iterate 2 refine qg o (Ab o rfl) λo=>?_
 refine qg o (Ct (s:=p1) o runUnderlying9 rfl rfl X1) λo=>ls<|gy o rfl rfl<|cr o call136 (Li (Ai _) Y1) u λu o=>qg o (Aq (Ab o rfl) (congrArg Value.bool j0)) λo=>?_
 iterate 4 refine qn o λo=>?_
 refine qg o (Ad o rfl rfl) λo=>qv o (Ad o rfl rfl) λo=>re<|tn<|?_
 exact ⟨true,hm,o.hs,u⟩
 obtain ⟨M3,O2,hm⟩:=bs hm
 obtain ⟨P2,Q2,hm⟩:=bs hm
 refine rg<|qm o rfl λo=>qm o rfl λo=>qv o (Bp (s:=p1) o runUnderlying9 rfl) λo=>qv o (Ap o rfl rfl) λo=>qv o (Aq (Ab o rfl) (congrArg Value.bool T0)) λo=>?_
 iterate 2 refine qg o (Ab o rfl) λo=>?_
 refine qg o (Ct (s:=p1) o runUnderlying9 rfl rfl X1) λo=>ls<|gy o rfl rfl<|cr o call136 (Li (Ai _) Y1) u λu o=>qg o (Aq (Ab o rfl) (congrArg Value.bool j0)) λo=>?_
 iterate 2 refine qg o (Ab o rfl) λo=>?_
 refine qg o (Ct (s:=p1) o runUnderlying9 rfl rfl O2) λo=>ls<|gy o rfl rfl<|cr o call137 (Sa (Ai _) Q2) u λu o=>qg o (Ae o rfl rfl) λo=>qv o (Ad o rfl rfl) λo=>re<|tn<|?_
 exact ⟨P2,hm,o.hs,u⟩
 refine rg<|qm o rfl λo=>qm o rfl λo=>qv o (Bp (s:=p1) o runUnderlying9 rfl) λo=>qv o (Ap o rfl rfl) λo=>qv o (Aq (Ab o rfl) (congrArg Value.bool T0)) λo=>?_
 iterate 5 refine qn o λo=>?_
 iterate 4 refine ls<|gnu o rfl rfl rfl λa o=>?_
 refine qn o λo=>qv o (Ae o rfl rfl) λo=>re<|tn<|?_
 exact ⟨false,hm,o.hs,u⟩
 rintro a w ⟨vF1,hm,o,u⟩
 unfold Z27 at hm
 rcases bit hm with ⟨n0,hm⟩ | ⟨n0,hm⟩
 refine ctv o rfl n0<|wk<|tn<|wb<|rg<|qm o rfl λo=>qv o (Am o rfl rfl) λo=>qa o rfl λo=>re<|bn<|tn<|?_
 exact ⟨(R0,(IntKind.i64.wrap (O0+1))),⟨hm,o.hs,u⟩,Nat.lt_succ_self _⟩
 refine cfv o rfl n0<|we<|tx<|tx<|bx<|tn<|?_
 exact ⟨O0,hm,o.hs,u⟩
 rintro a w ⟨M1,hm,o,u⟩
 unfold Z26 at hm
 refine th<|rg<|qm o rfl λo=>qm o rfl λo=>qv o (Gv o rfl rfl) λo=>qv o (Bb o rfl rfl) λo=>re<|?_
 rcases bip hm with ⟨u0,hm⟩ | ⟨u0,hm⟩
 refine tn<|ctv o rfl u0<|th<|rg<|qm o rfl λo=>?_
 iterate 3 refine qa o rfl λo=>?_
 refine re<|tn<|wr<|tr<|br<|tr<|br<|tr<|?_
 replace u:=u.nilS 130 4
 obtain rfl:=si hm
 exact Go.LM.r3 o results101 rfl rfl rfl ⟨_,_,_,rfl,(λ_=>.nil),u.endFresh t0⟩
 refine tn<|cfv o rfl u0<|wk<|tn<|?_
 exact ⟨M1,(api_Token.mk 1 [] 0 C0),hm,o.hs,u⟩
 refine cfv o rfl Y0<|th<|?_
 obtain ⟨O3,R2,hm⟩:=bs hm
 obtain ⟨P3,T2,hm⟩:=bs hm
 refine rg<|qm o rfl λo=>qm o rfl λo=>qv o (Ct (s:=p1) o runUnderlying9 rfl rfl R2) λo=>ls<|cr o call137 (Sa (Ai _) T2) u λu o=>re<|?_
 rcases bit hm with ⟨B1,hm⟩ | ⟨B1,hm⟩
 refine tn<|ctv o rfl B1<|th<|rg<|qv o (Af o Cv rfl) λo=>ls<|Ay o u sizeOf3 rfl rfl rfl rfl .head .zero λw u=>re<|tn<|th<|Au (λa w=>∃ (O1:Int) (P0:api_Token),(Z28 N (Z25 N (Z2a N Z23 p1 K0) p1 E0 C0) C0) O1 P0=some r∧Fr 107 [(0,Ac p1),(5,SL F0 E0 D0),(6,i6 C0),(7,i6 O1),(8,PT b9)] a∧St w0 Nil [H] [sla 130 4 F0 E0.length D0 J0,bk b9 [i6 P0.Kind,Ac P0.Text,i6 P0.N,i6 P0.At] 130] w) ?_ ?_
 replace u:=u.pk [1,0] rfl
 refine wb<|lp (α:=Nat×Int×api_Token) (λgh a w=>match gh with | (Q0,M0,I0)=>(Z2c N (Z28 N (Z25 N (Z2a N Z23 p1 K0) p1 E0 C0) C0) p1) Q0 M0 I0=some r∧Fr 107 [(0,Ac p1),(5,SL F0 E0 D0),(6,i6 C0),(7,i6 M0),(8,PT b9)] a∧St w0 Nil [H] [sla 130 4 F0 E0.length D0 J0,bk b9 [i6 I0.Kind,Ac I0.Text,i6 I0.N,i6 I0.At] 130] w) (λgh=>gh.1) (N,C0,(api_Token.mk 2 [] 0 C0)) ⟨hm,o.hs,u⟩ ?_
 rintro ⟨Q0,M0,I0⟩ a w ⟨hm,o,u⟩
 obtain _ | Q0:=Q0
 simp [Z2c] at hm
 rw [Z2c] at hm
 refine th<|th<|Au (λa w=>∃ (vF2:Bool),(Z29 N (Z28 N (Z25 N (Z2a N Z23 p1 K0) p1 E0 C0) C0) (Z2c N (Z28 N (Z25 N (Z2a N Z23 p1 K0) p1 E0 C0) C0) p1 Q0) p1 M0 I0) vF2=some r∧Fr 107 [(0,Ac p1),(5,SL F0 E0 D0),(6,i6 C0),(7,i6 M0),(8,PT b9),(64,.bool vF2)] a∧St w0 Nil [H] [sla 130 4 F0 E0.length D0 J0,bk b9 [i6 I0.Kind,Ac I0.Text,i6 I0.N,i6 I0.At] 130] w) ?_ ?_
 rcases bip hm with ⟨C1,hm⟩ | ⟨C1,hm⟩
 obtain ⟨Q3,U2,hm⟩:=bs hm
 obtain ⟨V2,W2,hm⟩:=bs hm
 refine rg<|qm o rfl λo=>qm o rfl λo=>qv o (Bp (s:=p1) o runUnderlying9 rfl) λo=>qv o (Ap o rfl rfl) λo=>qv o (Aq (Ab o rfl) (congrArg Value.bool C1)) λo=>?_
 iterate 2 refine qg o (Ab o rfl) λo=>?_
 refine qg o (Ct (s:=p1) o runUnderlying9 rfl rfl U2) λo=>ls<|gy o rfl rfl<|cr o call137 (Sa (Ai _) W2) u λu o=>qv o (Ad o rfl rfl) λo=>re<|tn<|?_
 exact ⟨V2,hm,o.hs,u⟩
 refine rg<|qm o rfl λo=>qm o rfl λo=>qv o (Bp (s:=p1) o runUnderlying9 rfl) λo=>qv o (Ap o rfl rfl) λo=>qv o (Aq (Ab o rfl) (congrArg Value.bool C1)) λo=>?_
 iterate 4 refine qn o λo=>?_
 refine qv o (Ae o rfl rfl) λo=>re<|tn<|?_
 exact ⟨false,hm,o.hs,u⟩
 rintro a w ⟨vF2,hm,o,u⟩
 unfold Z29 at hm
 rcases bit hm with ⟨E1,hm⟩ | ⟨E1,hm⟩
 refine ctv o rfl E1<|wk<|tn<|wb<|th<|th<|rg<|qv o (Af o Gu rfl) λo=>qv o (Ag o isAgg3 rfl (u.ld.cellB t1 rfl)) λo=>qv o (Di o rfl rfl) λo=>re<|tn<|Au (λa w=>∃ (vF3:api_Token),(Z24 (Z2c N (Z28 N (Z25 N (Z2a N Z23 p1 K0) p1 E0 C0) C0) p1 Q0) M0) vF3=some r∧Fr 107 [(0,Ac p1),(5,SL F0 E0 D0),(6,i6 C0),(7,i6 M0),(8,PT b9)] a∧St w0 Nil [H] [sla 130 4 F0 E0.length D0 J0,bk b9 [i6 vF3.Kind,Ac vF3.Text,i6 vF3.N,i6 vF3.At] 130] w) ?_ ?_
 rcases bip hm with ⟨F1,hm⟩ | ⟨F1,hm⟩
 refine ctv o rfl F1<|?_
 obtain ⟨X2,Y2,hm⟩:=bs hm
 refine rxS 10 u wide (by kernel_rfl) λw u=>xr u o (Af o Gu rfl) λo=>xq u.ld o (λw hl=>Ag o isAgg3 rfl (hl.cellB t1 rfl)) λo=>xr u o (Ni o rfl rfl) λo=>?_
 iterate 2 refine xq u.ld o (λw hl=>Ab o rfl) λo=>?_
 refine xr u o (Ct (s:=p1) o runUnderlying9 rfl rfl Y2) λo=>xr u o (Gv o rfl rfl) λo=>xr u o (Jcb o runUnderlying5 runUnderlying3 rfl) λo=>xr u o (Am o rfl rfl) λo=>xr u o (Af o Gu rfl) λo=>xz rfl<|Ay o u sizeOf3 rfl rfl rfl rfl (.tail .head) (.succ (.succ .zero)) λw u=>tn<|?_
 exact ⟨(api_Token.mk I0.Kind I0.Text (IntKind.i64.wrap ((IntKind.i64.wrap (10 * I0.N))+(IntKind.i64.wrap (IntKind.u8.wrap (X2 - 48))))) I0.At),hm,o.hs,u⟩
 refine cfv o rfl F1<|wk<|tn<|?_
 exact ⟨I0,hm,o.hs,u⟩
 rintro a w ⟨vF3,hm,o,u⟩
 unfold Z24 at hm
 refine rg<|qm o rfl λo=>qv o (Am o rfl rfl) λo=>qa o rfl λo=>re<|bn<|tn<|?_
 exact ⟨(Q0,(IntKind.i64.wrap (M0+1)),vF3),⟨hm,o.hs,u⟩,Nat.lt_succ_self _⟩
 refine cfv o rfl E1<|we<|tx<|tx<|bx<|tn<|?_
 exact ⟨M0,I0,hm,o.hs,u⟩
 rintro a w ⟨O1,P0,hm,o,u⟩
 unfold Z28 at hm
 refine th<|rg<|qv o (Af o Gu rfl) λo=>qv o (Ag o isAgg3 rfl (u.ld.cellB t1 rfl)) λo=>qv o (Bb o rfl rfl) λo=>re<|?_
 rcases bip hm with ⟨G1,hm⟩ | ⟨G1,hm⟩
 refine tn<|ctv o rfl G1<|th<|rg<|qm o rfl λo=>?_
 iterate 3 refine qa o rfl λo=>?_
 refine re<|tn<|wr<|tr<|br<|tr<|br<|tr<|?_
 replace u:=u.nilS 130 4
 obtain rfl:=si hm
 exact Go.LM.r3 o results101 rfl rfl rfl ⟨_,_,_,rfl,(λ_=>.nil),u.endFresh t0⟩
 refine tn<|cfv o rfl G1<|wk<|tn<|?_
 exact ⟨O1,P0,hm,o.hs,u⟩
 refine tn<|cfv o rfl B1<|th<|rg<|qv o (Af o Cv rfl) λo=>ls<|Ay o u sizeOf3 rfl rfl rfl rfl .head .zero λw u=>re<|tn<|th<|?_
 obtain ⟨A3,B3,hm⟩:=bs hm
 refine rg<|qm o rfl λo=>?_
 iterate 2 refine qm o rfl λo=>?_
 refine ls<|cr o call138 (Jcr (Ai _) B3) u λu o=>qv o (Am o rfl rfl) λo=>qa o rfl λo=>re<|tn<|th<|rg<|qm o rfl λo=>qm o rfl λo=>qv o (An o rfl rfl) λo=>re<|?_
 rcases bip hm with ⟨I1,hm⟩ | ⟨I1,hm⟩
 refine tn<|ctv o rfl I1<|th<|rg<|qm o rfl λo=>?_
 iterate 3 refine qa o rfl λo=>?_
 refine re<|tn<|wr<|tr<|br<|tr<|br<|tr<|?_
 replace u:=u.nilS 130 4
 obtain rfl:=si hm
 exact Go.LM.r3 o results101 rfl rfl rfl ⟨_,_,_,rfl,(λ_=>.nil),u.endFresh t0⟩
 refine tn<|cfv o rfl I1<|wk<|tn<|?_
 replace u:=u.pk [1,0] rfl
 exact ⟨(IntKind.i64.wrap (C0+A3)),(api_Token.mk 3 [] 0 C0),hm,o.hs,u⟩
 rintro a w ⟨J1,G0,hm,o,u⟩
 unfold Z25 at hm
 refine th<|?_
 obtain ⟨V0,C3,hm⟩:=bs hm
 refine rg<|qm o rfl λo=>?_
 iterate 2 refine qm o rfl λo=>?_
 refine qv o (Hf (s:=p1) (vl:=C0) (vh:=J1) o runUnderlying9 rfl rfl rfl C3) λo=>qv o (Af o Eu rfl) λo=>ls<|Ay o u sizeOf9 rfl rfl rfl rfl (.tail .head) (.succ .zero) λw u=>re<|tn<|th<|?_
 obtain ⟨D3,E3,hm⟩:=bs hm
 refine rg<|qm o rfl λo=>qv o (Ax o isAgg130 sizeOf130 rfl rfl (u.ld.cellsB t1)) λo=>ls<|Bi (e:=130) (sz:=4) [i6 G0.Kind,Ac V0,i6 G0.N,i6 G0.At] o rfl u rfl rfl rfl (λw=>by kernel_rfl) λR3 w a u o=>?_
 have B2:Rows (α:=api_Token) H [i6 G0.Kind,Ac V0,i6 G0.N,i6 G0.At] ([(api_Token.mk G0.Kind V0 G0.N G0.At)]:List api_Token):=(.cons (c:=[i6 G0.Kind,Ac V0,i6 G0.N,i6 G0.At]) ⟨_,_,rfl,rfl,⟨_,_,rfl,rfl,⟨_,_,rfl,rfl,rfl⟩⟩⟩ .nil)
 refine ls<|Cc (α:=api_Token) (xs:=E0) (ys:=([(api_Token.mk G0.Kind V0 G0.N G0.At)]:List api_Token)) o rfl u underlying120 Yb rfl (by decide) rfl rfl rfl t1 R1 (u.rdO t0) B2 E3 λC2 T1 E2 w a F2 hU o=>?_
 replace u:=hU _ (.tail .head)
 replace u:=u.drop .head
 refine qa o rfl λo=>re<|tn<|?_
 obtain ⟨F3,G3,hm⟩:=bs hm
 refine rg<|qm o rfl λo=>qm o rfl λo=>ls<|cr o call135 (Jal (Ai _) G3) u λu o=>qa o rfl λo=>re<|bn<|tn<|?_
 replace u:=u.pk [0] rfl
 exact ⟨(K0,D3,F3),⟨C2,T1,E2,hm,o.hs,u,F2⟩,Nat.lt_succ_self _⟩
 refine tn<|cfv o rfl S1<|we<|tx<|tx<|bx<|tn<|?_
 exact ⟨E0,F0,D0,J0,hm,o.has ⟨rfl,trivial⟩,u,R1⟩
 rintro a w ⟨U0,W0,S0,X0,hm,o,u,G2⟩
 unfold Z23 at hm
 refine th<|rg<|qm o rfl λo=>?_
 iterate 3 refine qa o rfl λo=>?_
 refine re<|tn<|wr<|?_
 obtain rfl:=si hm
 exact Go.LM.r3 o results101 rfl rfl rfl ⟨_,_,_,rfl,(λ_=>Rows.ind G2),u.endFresh t0⟩
theorem Gg (hH:H.le w0) {F0:Option Addr} {E0:Nat} {p1:(List api_Token)} (_:p1.length≤E0) (I0:SR H F0 p1) {p6:Int} {p7:Str} {r:Bool} (hm:Z1s N p1 p6 p7=some r):Tot Tryz.prog 139 #[SL F0 p1 E0,i6 p6,Ac p7] w0 (λv w'=>v=.bool r∧Keep Nil w0 w'):=by
 unfold Z1s at hm
 refine fn0 func139 rfl ntmps139 rfl rfl λa o=>?_
 have u:St w0 Nil [H] [] w0:=start1 hH
 refine th<|rg<|qa o rfl λo=>re<|tn<|th<|?_
 rcases bit hm with ⟨J0,hm⟩ | ⟨J0,hm⟩
 obtain ⟨C0,D0,hm⟩:=bs hm
 obtain ⟨M0,K0,G0⟩:=SR.get I0 D0
 obtain rfl:=Bc K0
 refine rg<|qm o rfl λo=>qv o (Bl o rfl rfl) λo=>qm o rfl λo=>gr (Fk:=[(0,SL F0 p1 E0),(1,i6 p6),(2,Ac p7),(14,.bool ((decide (0≤p6)) && (decide (p6 < (p1.length:Int)))))]) 9 5 o u ?_ ?_ ?_
 intro hb o key
 iterate 2 refine qg o (Ab o rfl) λo=>?_
 exact qg o (Ak (α:=api_Token) (xs:=p1) o runUnderlying120 rfl) λo=>qg o (Ap o rfl rfl) λo=>qk o (Ad o rfl rfl) key u hb
 intro hb o key
 iterate 4 refine qn o λo=>?_
 exact qk o (Ae o rfl rfl) key u hb
 intro a w o u
 refine qv o (Aq (Ab o rfl) (congrArg Value.bool J0)) λo=>?_
 iterate 2 refine qg o (Ab o rfl) λo=>?_
 refine qg o (Ao o runUnderlying120 sizeOf130 rfl rfl D0 (SR.oaI I0 (by decide) D0)) λo=>qg o (Af o Eu rfl) λo=>qg o (Ag o isAgg9 rfl (PH.le.cell (Lds.le u.ld) (G0 1 _ rfl))) λo=>qg o (Ab o rfl) λo=>qg o (Ey (m:=C0.Text) (n:=p7) o rfl rfl) λo=>qv o (Ad o rfl rfl) λo=>qm o rfl λo=>gr (Fk:=[(0,SL F0 p1 E0),(1,i6 p6),(31,.bool ((decide (C0.Text=p7)) && (decide (C0.Kind≠2))))]) 24 7 o u ?_ ?_ ?_
 intro hb o key
 iterate 2 refine qg o (Ab o rfl) λo=>?_
 exact qg o (Ao o runUnderlying120 sizeOf130 rfl rfl D0 (SR.oaI I0 (by decide) D0)) λo=>qg o (Af o Cv rfl) λo=>qg o (Ag o isAgg3 rfl (PH.le.cell (Lds.le u.ld) (G0 0 _ rfl))) λo=>qg o (Br o rfl rfl) λo=>qk o (Ad o rfl rfl) key u hb
 intro hb o key
 iterate 6 refine qn o λo=>?_
 exact qk o (Ae o rfl rfl) key u hb
 intro a w o u
 refine qm o rfl λo=>gr (Fk:=[(0,SL F0 p1 E0),(1,i6 p6),(39,.bool (((decide (C0.Text=p7)) && (decide (C0.Kind≠2))) && (decide (1≤C0.Kind))))]) 32 7 o u ?_ ?_ ?_
 intro hb o key
 iterate 2 refine qg o (Ab o rfl) λo=>?_
 exact qg o (Ao o runUnderlying120 sizeOf130 rfl rfl D0 (SR.oaI I0 (by decide) D0)) λo=>qg o (Af o Cv rfl) λo=>qg o (Ag o isAgg3 rfl (PH.le.cell (Lds.le u.ld) (G0 0 _ rfl))) λo=>qg o (Bl o rfl rfl) λo=>qk o (Ad o rfl rfl) key u hb
 intro hb o key
 iterate 6 refine qn o λo=>?_
 exact qk o (Ae o rfl rfl) key u hb
 intro a w o u
 refine qm o rfl λo=>gr (Fk:=[(47,.bool ((((decide (C0.Text=p7)) && (decide (C0.Kind≠2))) && (decide (1≤C0.Kind))) && (decide (C0.Kind≤3))))]) 40 7 o u ?_ ?_ ?_
 intro hb o key
 iterate 2 refine qg o (Ab o rfl) λo=>?_
 exact qg o (Ao o runUnderlying120 sizeOf130 rfl rfl D0 (SR.oaI I0 (by decide) D0)) λo=>qg o (Af o Cv rfl) λo=>qg o (Ag o isAgg3 rfl (PH.le.cell (Lds.le u.ld) (G0 0 _ rfl))) λo=>qg o (Di o rfl rfl) λo=>qk o (Ad o rfl rfl) key u hb
 intro hb o key
 iterate 6 refine qn o λo=>?_
 exact qk o (Ae o rfl rfl) key u hb
 intro a w o u
 refine qa o rfl λo=>re<|tn<|wr<|?_
 obtain rfl:=si hm
 exact r1 o results139 rfl ⟨rfl,u.keep⟩
 refine rg<|qm o rfl λo=>qv o (Bl o rfl rfl) λo=>qm o rfl λo=>gr (Fk:=[(0,SL F0 p1 E0),(1,i6 p6),(2,Ac p7),(14,.bool ((decide (0≤p6)) && (decide (p6 < (p1.length:Int)))))]) 9 5 o u ?_ ?_ ?_
 intro hb o key
 iterate 2 refine qg o (Ab o rfl) λo=>?_
 exact qg o (Ak (α:=api_Token) (xs:=p1) o runUnderlying120 rfl) λo=>qg o (Ap o rfl rfl) λo=>qk o (Ad o rfl rfl) key u hb
 intro hb o key
 iterate 4 refine qn o λo=>?_
 exact qk o (Ae o rfl rfl) key u hb
 intro a w o u
 refine qv o (Aq (Ab o rfl) (congrArg Value.bool J0)) λo=>?_
 iterate 7 refine qn o λo=>?_
 refine qv o (Ae o rfl rfl) λo=>qm o rfl λo=>?_
 iterate 6 refine qn o λo=>?_
 refine qv o (Ae o rfl rfl) λo=>qm o rfl λo=>?_
 iterate 6 refine qn o λo=>?_
 refine qv o (Ae o rfl rfl) λo=>qm o rfl λo=>?_
 iterate 6 refine qn o λo=>?_
 refine qv o (Ae o rfl rfl) λo=>qa o rfl λo=>re<|tn<|wr<|?_
 obtain rfl:=si hm
 exact r1 o results139 rfl ⟨rfl,u.keep⟩
end Go.LM.LB
