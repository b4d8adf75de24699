/- Walks, lifted by program. No condition beyond the theorems' own premises. -/
import Derived.Test.YtgdkaddhhpgeiaaGreatDoorLBQ3
namespace Go.LM.LB
open Go Go.LL Go.MD Go.LM Go.Proofs Go.MD.LB Go.Proofs.Tryz
set_option maxRecDepth 100000
variable {N:Nat} {w0:World} {H:PH}
set_option maxHeartbeats 4000000 in
theorem Up (hH:H.le w0) {G0:Option Addr} {D0:Nat} {p1:(List api_Thread)} (K2:p1.length≤D0) (E0:SR H G0 p1) {p6:Bool} {r:Bool} (hm:Z5e N p1 p6=some r):Tot Tryz.prog 100 #[SL G0 p1 D0,.bool p6] w0 (λv w'=>v=.bool r∧Keep Nil w0 w'):=by
 unfold Z5e at hm
 refine fn0 func100 rfl ntmps100 rfl rfl λa o=>?_
 have u:St w0 Nil [H] [] w0:=start1 hH
 refine th<|rg<|qa o rfl λo=>re<|tn<|th<|th<|rg<|qa o rfl λo=>re<|tn<|Av (λa w=>Z5f=some r∧Fr 71 [] a∧St w0 Nil [H] [] w) ?_ ?_
 refine wb<|lp (α:=Nat×Int) (λgh a w=>match gh with | (J0,C0)=>(Z5i N Z5f p1 p6) J0 C0=some r∧Fr 71 [(0,SL G0 p1 D0),(1,.bool p6),(5,i6 C0)] a∧St w0 Nil [H] [] w) (λgh=>gh.1) (N,0) ⟨hm,o.hs,u⟩ ?_
 rintro ⟨J0,C0⟩ a w ⟨hm,o,u⟩
 obtain _ | J0:=J0
 simp [Z5i] at hm
 rw [Z5i] at hm
 refine th<|th<|rg<|qm o rfl λo=>qm o rfl λo=>qv o (Ak (α:=api_Thread) (xs:=p1) o runUnderlying24 rfl) λo=>qv o (Ao o rfl rfl) λo=>re<|?_
 rcases bip hm with ⟨U0,hm⟩ | ⟨U0,hm⟩
 refine tn<|ctv o rfl U0<|wk<|tn<|th<|Av (λa w=>(Z5g (Z5i N Z5f p1 p6 J0) C0)=some r∧Fr 71 [(0,SL G0 p1 D0),(1,.bool p6),(5,i6 C0)] a∧St w0 Nil [H] [] w) ?_ ?_
 refine wb<|th<|th<|Av (λa w=>∃ (V0:Bool),(Z5h N (Z5g (Z5i N Z5f p1 p6 J0) C0) p1 C0) V0=some r∧Fr 71 [(0,SL G0 p1 D0),(1,.bool p6),(5,i6 C0),(50,.bool V0)] a∧St w0 Nil [H] [] w) ?_ ?_
 obtain ⟨I0,h9,hm⟩:=bs hm
 obtain ⟨M2,F1,F0⟩:=SR.get E0 h9
 obtain ⟨X1,S1,Y1,T1,rfl,B2,C2,B1,C1⟩:=Aw F1
 obtain ⟨W0,X0,hm⟩:=bs hm
 rcases bit hm with ⟨K0,hm⟩ | ⟨K0,hm⟩
 refine rg<|qm o rfl λo=>?_
 iterate 2 refine qm o rfl λo=>?_
 refine qv o (Am o runUnderlying24 sizeOf48 rfl rfl h9 (SR.oaI E0 (by decide) h9)) λo=>qv o (Af o Dv rfl) λo=>qv o (Ag o isAgg9 rfl (PH.le.cell (Lds.le u.ld) (F0 0 _ rfl))) λo=>ls<|cr o call114 (Gd (Ai _) X0) u λu o=>qv o (Gn o runUnderlying4 rfl rfl) λo=>qm o rfl λo=>gr (Fk:=[(0,SL G0 p1 D0),(1,.bool p6),(5,i6 C0),(32,.bool ((p6 != W0) || ((!p6) && (decide (I0.Name≠[])))))]) 21 11 o u ?_ ?_ ?_
 intro hb o key
 iterate 3 refine qn o λo=>?_
 iterate 6 refine ls<|gnu o rfl rfl rfl λa o=>?_
 exact qn o λo=>qk o (Ad o rfl rfl) key u hb
 intro hb o key
 refine qg o (Ab o rfl) λo=>qg o (Ba o rfl) λo=>qg o (Ab o rfl) λo=>gr (Fk:=[(0,SL G0 p1 D0),(1,.bool p6),(5,i6 C0),(21,.bool false),(31,.bool ((!p6) && (decide (I0.Name≠[]))))]) 24 7 o u ?_ ?_ ?_
 intro hb o key
 iterate 2 refine qg o (Ab o rfl) λo=>?_
 exact qg o (Am o runUnderlying24 sizeOf48 rfl rfl h9 (SR.oaI E0 (by decide) h9)) λo=>qg o (Af o Dv rfl) λo=>qg o (Ag o isAgg9 rfl (PH.le.cell (Lds.le u.ld) (F0 0 _ rfl))) λo=>qg o (Cx (m:=I0.Name) (n:=[]) o rfl rfl) λo=>ql o (Ad o rfl rfl) key u hb
 intro hb o key
 iterate 6 refine qn o λo=>?_
 exact ql o (Ae o rfl rfl) key u hb
 intro a w o u
 exact qk o (Ae o rfl rfl) key u hb
 intro a w o u
 refine qv o (Ar (Ab o rfl) (congrArg Value.bool K0)) λo=>?_
 iterate 7 refine qn o λo=>?_
 refine qv o (Ad o rfl rfl) λo=>qm o rfl λo=>?_
 iterate 7 refine qn o λo=>?_
 refine qv o (Ad o rfl rfl) λo=>re<|tn<|?_
 exact ⟨true,hm,o.hs,u⟩
 obtain ⟨p0,u0,hm⟩:=bs hm
 rcases bit hm with ⟨P0,hm⟩ | ⟨P0,hm⟩
 have P0':(!p0)=false:=by rw [P0];rfl
 obtain ⟨G1,I1,hm⟩:=bs hm
 refine rg<|qm o rfl λo=>?_
 iterate 2 refine qm o rfl λo=>?_
 refine qv o (Am o runUnderlying24 sizeOf48 rfl rfl h9 (SR.oaI E0 (by decide) h9)) λo=>qv o (Af o Dv rfl) λo=>qv o (Ag o isAgg9 rfl (PH.le.cell (Lds.le u.ld) (F0 0 _ rfl))) λo=>ls<|cr o call114 (Gd (Ai _) X0) u λu o=>qv o (Gn o runUnderlying4 rfl rfl) λo=>qm o rfl λo=>gr (Fk:=[(0,SL G0 p1 D0),(1,.bool p6),(5,i6 C0),(32,.bool ((p6 != W0) || ((!p6) && (decide (I0.Name≠[])))))]) 21 11 o u ?_ ?_ ?_
 intro hb o key
 iterate 3 refine qn o λo=>?_
 iterate 6 refine ls<|gnu o rfl rfl rfl λa o=>?_
 exact qn o λo=>qk o (Ad o rfl rfl) key u hb
 intro hb o key
 refine qg o (Ab o rfl) λo=>qg o (Ba o rfl) λo=>qg o (Ab o rfl) λo=>gr (Fk:=[(0,SL G0 p1 D0),(1,.bool p6),(5,i6 C0),(21,.bool false),(31,.bool ((!p6) && (decide (I0.Name≠[]))))]) 24 7 o u ?_ ?_ ?_
 intro hb o key
 iterate 2 refine qg o (Ab o rfl) λo=>?_
 exact qg o (Am o runUnderlying24 sizeOf48 rfl rfl h9 (SR.oaI E0 (by decide) h9)) λo=>qg o (Af o Dv rfl) λo=>qg o (Ag o isAgg9 rfl (PH.le.cell (Lds.le u.ld) (F0 0 _ rfl))) λo=>qg o (Cx (m:=I0.Name) (n:=[]) o rfl rfl) λo=>ql o (Ad o rfl rfl) key u hb
 intro hb o key
 iterate 6 refine qn o λo=>?_
 exact ql o (Ae o rfl rfl) key u hb
 intro a w o u
 exact qk o (Ae o rfl rfl) key u hb
 intro a w o u
 refine qv o (Ar (Ab o rfl) (congrArg Value.bool K0)) λo=>?_
 iterate 2 refine qg o (Ab o rfl) λo=>?_
 refine qg o (Am o runUnderlying24 sizeOf48 rfl rfl h9 (SR.oaI E0 (by decide) h9)) λo=>qg o (Af o Ft rfl) λo=>qg o (Ag o isAgg3 rfl (PH.le.cell (Lds.le u.ld) (F0 3 _ rfl))) λo=>ls<|gy o rfl rfl<|cr o call98 (Oq (Ai _) u0) u λu o=>qg o (Ba o rfl) λo=>qv o (Ae o rfl rfl) λo=>qv o (Ar (Ab o rfl) (congrArg Value.bool P0')) λo=>?_
 iterate 2 refine qg o (Ab o rfl) λo=>?_
 refine qg o (Am o runUnderlying24 sizeOf48 rfl rfl h9 (SR.oaI E0 (by decide) h9)) λo=>qg o (Af o Gm rfl) λo=>qg o (Ag o isAgg46 rfl (PH.le.cell (Lds.le u.ld) (F0 2 _ rfl))) λo=>ls<|gy o rfl rfl<|cr o call44 (JaK (Ai _) B1 (St.srH u C1) I1) u λu o=>qg o (Ba o rfl) λo=>qv o (Ae o rfl rfl) λo=>re<|tn<|?_
 exact ⟨(!G1),hm,o.hs,u⟩
 have P0':(!p0)=true:=by rw [P0];rfl
 refine rg<|qm o rfl λo=>?_
 iterate 2 refine qm o rfl λo=>?_
 refine qv o (Am o runUnderlying24 sizeOf48 rfl rfl h9 (SR.oaI E0 (by decide) h9)) λo=>qv o (Af o Dv rfl) λo=>qv o (Ag o isAgg9 rfl (PH.le.cell (Lds.le u.ld) (F0 0 _ rfl))) λo=>ls<|cr o call114 (Gd (Ai _) X0) u λu o=>qv o (Gn o runUnderlying4 rfl rfl) λo=>qm o rfl λo=>gr (Fk:=[(0,SL G0 p1 D0),(1,.bool p6),(5,i6 C0),(32,.bool ((p6 != W0) || ((!p6) && (decide (I0.Name≠[])))))]) 21 11 o u ?_ ?_ ?_
 intro hb o key
 iterate 3 refine qn o λo=>?_
 iterate 6 refine ls<|gnu o rfl rfl rfl λa o=>?_
 exact qn o λo=>qk o (Ad o rfl rfl) key u hb
 intro hb o key
 refine qg o (Ab o rfl) λo=>qg o (Ba o rfl) λo=>qg o (Ab o rfl) λo=>gr (Fk:=[(0,SL G0 p1 D0),(1,.bool p6),(5,i6 C0),(21,.bool false),(31,.bool ((!p6) && (decide (I0.Name≠[]))))]) 24 7 o u ?_ ?_ ?_
 intro hb o key
 iterate 2 refine qg o (Ab o rfl) λo=>?_
 exact qg o (Am o runUnderlying24 sizeOf48 rfl rfl h9 (SR.oaI E0 (by decide) h9)) λo=>qg o (Af o Dv rfl) λo=>qg o (Ag o isAgg9 rfl (PH.le.cell (Lds.le u.ld) (F0 0 _ rfl))) λo=>qg o (Cx (m:=I0.Name) (n:=[]) o rfl rfl) λo=>ql o (Ad o rfl rfl) key u hb
 intro hb o key
 iterate 6 refine qn o λo=>?_
 exact ql o (Ae o rfl rfl) key u hb
 intro a w o u
 exact qk o (Ae o rfl rfl) key u hb
 intro a w o u
 refine qv o (Ar (Ab o rfl) (congrArg Value.bool K0)) λo=>?_
 iterate 2 refine qg o (Ab o rfl) λo=>?_
 refine qg o (Am o runUnderlying24 sizeOf48 rfl rfl h9 (SR.oaI E0 (by decide) h9)) λo=>qg o (Af o Ft rfl) λo=>qg o (Ag o isAgg3 rfl (PH.le.cell (Lds.le u.ld) (F0 3 _ rfl))) λo=>ls<|gy o rfl rfl<|cr o call98 (Oq (Ai _) u0) u λu o=>qg o (Ba o rfl) λo=>qv o (Ae o rfl rfl) λo=>qv o (Ar (Ab o rfl) (congrArg Value.bool P0')) λo=>?_
 iterate 7 refine qn o λo=>?_
 refine qv o (Ad o rfl rfl) λo=>re<|tn<|?_
 exact ⟨true,hm,o.hs,u⟩
 rintro a w ⟨V0,hm,o,u⟩
 unfold Z5h at hm
 rcases bit hm with ⟨Q0,hm⟩ | ⟨Q0,hm⟩
 refine ctv o rfl Q0<|th<|rg<|qa o rfl λo=>re<|tn<|wr<|tr<|br<|tr<|tr<|br<|tr<|?_
 obtain rfl:=si hm
 exact r1 o results100 rfl ⟨rfl,u.keep⟩
 refine cfv o rfl Q0<|wk<|tn<|th<|rg<|qa o rfl λo=>re<|tn<|wb<|lp (α:=Nat×Int) (λgh a w=>match gh with | (M0,T0)=>(Z5j N (Z5g (Z5i N Z5f p1 p6 J0) C0) p1 C0) M0 T0=some r∧Fr 71 [(0,SL G0 p1 D0),(1,.bool p6),(5,i6 C0),(6,i6 T0)] a∧St w0 Nil [H] [] w) (λgh=>gh.1) (N,0) ⟨hm,o.hs,u⟩ ?_
 rintro ⟨M0,T0⟩ a w ⟨hm,o,u⟩
 obtain _ | M0:=M0
 simp [Z5j] at hm
 rw [Z5j] at hm
 refine th<|th<|?_
 obtain ⟨J1,O0,hm⟩:=bs hm
 obtain ⟨O2,M1,Y0⟩:=SR.get E0 O0
 obtain ⟨E2,U1,F2,V1,rfl,G2,j0,I2,J2⟩:=Aw M1
 refine rg<|qm o rfl λo=>?_
 iterate 2 refine qm o rfl λo=>?_
 refine qv o (Am o runUnderlying24 sizeOf48 rfl rfl O0 (SR.oaI E0 (by decide) O0)) λo=>qv o (Af o Ci rfl) λo=>qv o (Ag o isAgg36 rfl (PH.le.cell (Lds.le u.ld) (Y0 1 _ rfl))) λo=>qv o (Ak (α:=Str) (xs:=J1.Regs) o runUnderlying36 rfl) λo=>qv o (Ao o rfl rfl) λo=>re<|?_
 rcases bip hm with ⟨R0,hm⟩ | ⟨R0,hm⟩
 refine tn<|ctv o rfl R0<|wk<|tn<|th<|wb<|th<|?_
 obtain ⟨O1,n0,hm⟩:=bs hm
 obtain ⟨P1,Q1,E1⟩:=SR.get j0 n0
 obtain rfl:P1=[Ac O1]:=Q1
 obtain ⟨P2,R1,hm⟩:=bs hm
 refine rg<|qm o rfl λo=>qm o rfl λo=>qv o (Am o runUnderlying24 sizeOf48 rfl rfl O0 (SR.oaI E0 (by decide) O0)) λo=>qv o (Af o Ci rfl) λo=>qv o (Ag o isAgg36 rfl (PH.le.cell (Lds.le u.ld) (Y0 1 _ rfl))) λo=>qm o rfl λo=>qv o (Am o runUnderlying36 sizeOf9 rfl rfl n0 (SR.oaI j0 (by decide) n0)) λo=>qv o (Ag o isAgg9 rfl (PH.le.cell (Lds.le u.ld) (E1 0 _ rfl))) λo=>ls<|cr o call114 (Gd (Ai _) R1) u λu o=>qv o (Ba o rfl) λo=>re<|?_
 rcases bit hm with ⟨S0,hm⟩ | ⟨S0,hm⟩
 refine tn<|cfv o rfl (by rw [S0];rfl)<|wk<|bn<|tn<|rg<|qm o rfl λo=>qv o (Ap o rfl rfl) λo=>qa o rfl λo=>re<|tn<|?_
 exact ⟨(M0,(IntKind.i64.wrap (T0+1))),⟨hm,o.hs,u⟩,Nat.lt_succ_self _⟩
 refine tn<|ctv o rfl (by rw [S0];rfl)<|th<|rg<|qa o rfl λo=>re<|tn<|wr<|br<|tr<|tr<|br<|br<|tr<|tr<|br<|tr<|?_
 obtain rfl:=si hm
 exact r1 o results100 rfl ⟨rfl,u.keep⟩
 refine tn<|cfv o rfl R0<|we<|tx<|tx<|bx<|bn<|tn<|?_
 exact ⟨hm,o.hs,u⟩
 rintro a w ⟨hm,o,u⟩
 unfold Z5g at hm
 refine rg<|qm o rfl λo=>qv o (Ap o rfl rfl) λo=>qa o rfl λo=>re<|tn<|?_
 exact ⟨(J0,(IntKind.i64.wrap (C0+1))),⟨hm,o.hs,u⟩,Nat.lt_succ_self _⟩
 refine tn<|cfv o rfl U0<|we<|tx<|tx<|bx<|tn<|?_
 exact ⟨hm,o.has trivial,u⟩
 rintro a w ⟨hm,o,u⟩
 unfold Z5f at hm
 refine th<|rg<|qa o rfl λo=>re<|tn<|wr<|?_
 obtain rfl:=si hm
 exact r1 o results100 rfl ⟨rfl,u.keep⟩
set_option maxHeartbeats 4000000 in
theorem Jb0 (hH:H.le w0) {cs2:List Value} {p1:api_Prog} (g3:Enc.rep H cs2 p1) {r:Bool} (hm:Z52 N p1=some r):Tot Tryz.prog 57 #[.agg cs2.toArray] w0 (λv w'=>v=.bool r∧Keep Nil w0 w'):=by
 unfold Z52 at hm
 refine fn0 func57 rfl ntmps57 rfl rfl λa o=>?_
 have u:St w0 Nil [H] [] w0:=start1 hH
 obtain ⟨Q0,I0,R0,J0,K0,C0,M0,D0,O0,E0,P0,F0,rfl,E3,R1,j0,n0,B1,C1,T1,U1,G2,I2,B3,p0⟩:=Aq g3
 refine th<|rg<|ls<|Br (cs:=[SL Q0 p1.Lines I0,SL R0 p1.Vols J0,SL K0 p1.Locks C0,SL M0 p1.Threads D0,SL O0 p1.Recover E0,SL P0 p1.Claims F0].toArray) o rfl u rfl rfl λG0 w a u o=>qa o rfl λo=>re<|tn<|th<|th<|rg<|qa o rfl λo=>re<|tn<|Av (λa w=>(Z53 N p1)=some r∧Fr 77 [(1,PT G0)] a∧St w0 Nil [H] [bk G0 [SL Q0 p1.Lines I0,SL R0 p1.Vols J0,SL K0 p1.Locks C0,SL M0 p1.Threads D0,SL O0 p1.Recover E0,SL P0 p1.Claims F0] 27] w) ?_ ?_
 refine wb<|lp (α:=Nat×Int) (λgh a w=>match gh with | (V0,W0)=>(Z57 N (Z53 N p1) p1) V0 W0=some r∧Fr 77 [(1,PT G0),(3,i6 W0)] a∧St w0 Nil [H] [bk G0 [SL Q0 p1.Lines I0,SL R0 p1.Vols J0,SL K0 p1.Locks C0,SL M0 p1.Threads D0,SL O0 p1.Recover E0,SL P0 p1.Claims F0] 27] w) (λgh=>gh.1) (N,0) ⟨hm,o.has ⟨rfl,rfl,trivial⟩,u⟩ ?_
 rintro ⟨V0,W0⟩ a w ⟨hm,o,u⟩
 obtain _ | V0:=V0
 simp [Z57] at hm
 rw [Z57] at hm
 refine th<|th<|rg<|qm o rfl λo=>qv o (Af o Ca rfl) λo=>qv o (Ag o isAgg22 rfl (u.ld.cellB t0 rfl)) λo=>qv o (Ak (α:=(List api_Cell)) (xs:=p1.Lines) o runUnderlying22 rfl) λo=>qv o (Ao o rfl rfl) λo=>re<|?_
 rcases bip hm with ⟨E1,hm⟩ | ⟨E1,hm⟩
 refine tn<|ctv o rfl E1<|wk<|tn<|th<|wb<|th<|Av (λa w=>∃ (V1:Bool),(Z54 (Z57 N (Z53 N p1) p1 V0) W0) V1=some r∧Fr 77 [(1,PT G0),(3,i6 W0),(27,.bool V1)] a∧St w0 Nil [H] [bk G0 [SL Q0 p1.Lines I0,SL R0 p1.Vols J0,SL K0 p1.Locks C0,SL M0 p1.Threads D0,SL O0 p1.Recover E0,SL P0 p1.Claims F0] 27] w) ?_ ?_
 obtain ⟨B2,S0,hm⟩:=bs hm
 obtain ⟨F3,P2,F1⟩:=SR.get R1 S0
 obtain ⟨C3,Y2,rfl,J2,K2⟩:=P2
 rcases bip hm with ⟨G1,hm⟩ | ⟨G1,hm⟩
 refine rg<|qv o (Af o Ca rfl) λo=>qv o (Ag o isAgg22 rfl (u.ld.cellB t0 rfl)) λo=>qm o rfl λo=>qv o (Am o runUnderlying22 sizeOf23 rfl rfl S0 (SR.oaI R1 (by decide) S0)) λo=>qv o (Ag o isAgg23 rfl (PH.le.cell (Lds.le u.ld) (F1 0 _ rfl))) λo=>qv o (Ak (α:=api_Cell) (xs:=B2) o runUnderlying23 rfl) λo=>qv o (An o rfl rfl) λo=>qv o (Ar (Ab o rfl) (congrArg Value.bool G1)) λo=>?_
 iterate 7 refine qn o λo=>?_
 refine qv o (Ad o rfl rfl) λo=>re<|tn<|?_
 exact ⟨true,hm,o.hs,u⟩
 obtain ⟨Q2,R2,hm⟩:=bs hm
 refine rg<|qv o (Af o Ca rfl) λo=>qv o (Ag o isAgg22 rfl (u.ld.cellB t0 rfl)) λo=>qm o rfl λo=>qv o (Am o runUnderlying22 sizeOf23 rfl rfl S0 (SR.oaI R1 (by decide) S0)) λo=>qv o (Ag o isAgg23 rfl (PH.le.cell (Lds.le u.ld) (F1 0 _ rfl))) λo=>qv o (Ak (α:=api_Cell) (xs:=B2) o runUnderlying23 rfl) λo=>qv o (An o rfl rfl) λo=>qv o (Ar (Ab o rfl) (congrArg Value.bool G1)) λo=>qg o (Af o Ca rfl) λo=>qg o (Ag o isAgg22 rfl (u.ld.cellB t0 rfl)) λo=>qg o (Ab o rfl) λo=>qg o (Am o runUnderlying22 sizeOf23 rfl rfl S0 (SR.oaI R1 (by decide) S0)) λo=>qg o (Ag o isAgg23 rfl (PH.le.cell (Lds.le u.ld) (F1 0 _ rfl))) λo=>ls<|gy o rfl rfl<|cr o call97 (Jv (Ai _) J2 (St.srH u K2) R2) u λu o=>qg o (Ba o rfl) λo=>qv o (Ae o rfl rfl) λo=>re<|tn<|?_
 exact ⟨(!Q2),hm,o.hs,u⟩
 rintro a w ⟨V1,hm,o,u⟩
 unfold Z54 at hm
 rcases bit hm with ⟨I1,hm⟩ | ⟨I1,hm⟩
 refine ctv o rfl I1<|th<|rg<|qa o rfl λo=>re<|tn<|wr<|br<|tr<|tr<|br<|tr<|?_
 obtain rfl:=si hm
 exact r1 o results57 rfl ⟨rfl,u.keep⟩
 refine cfv o rfl I1<|wk<|bn<|tn<|rg<|qm o rfl λo=>qv o (Ap o rfl rfl) λo=>qa o rfl λo=>re<|tn<|?_
 exact ⟨(V0,(IntKind.i64.wrap (W0+1))),⟨hm,o.has ⟨rfl,rfl,trivial⟩,u⟩,Nat.lt_succ_self _⟩
 refine tn<|cfv o rfl E1<|we<|tx<|tx<|bx<|tn<|?_
 exact ⟨hm,o.has ⟨rfl,trivial⟩,u⟩
 rintro a w ⟨hm,o,u⟩
 unfold Z53 at hm
 refine th<|th<|rg<|qa o rfl λo=>re<|tn<|Av (λa w=>(Z55 N p1)=some r∧Fr 77 [(1,PT G0)] a∧St w0 Nil [H] [bk G0 [SL Q0 p1.Lines I0,SL R0 p1.Vols J0,SL K0 p1.Locks C0,SL M0 p1.Threads D0,SL O0 p1.Recover E0,SL P0 p1.Claims F0] 27] w) ?_ ?_
 refine wb<|lp (α:=Nat×Int) (λgh a w=>match gh with | (X0,Y0)=>(Z58 N (Z55 N p1) p1) X0 Y0=some r∧Fr 77 [(1,PT G0),(4,i6 Y0)] a∧St w0 Nil [H] [bk G0 [SL Q0 p1.Lines I0,SL R0 p1.Vols J0,SL K0 p1.Locks C0,SL M0 p1.Threads D0,SL O0 p1.Recover E0,SL P0 p1.Claims F0] 27] w) (λgh=>gh.1) (N,0) ⟨hm,o.has ⟨rfl,rfl,trivial⟩,u⟩ ?_
 rintro ⟨X0,Y0⟩ a w ⟨hm,o,u⟩
 obtain _ | X0:=X0
 simp [Z58] at hm
 rw [Z58] at hm
 refine th<|th<|rg<|qm o rfl λo=>qv o (Af o Cz rfl) λo=>qv o (Ag o isAgg25 rfl (u.ld.cellB t0 rfl)) λo=>qv o (Ak (α:=api_Claim) (xs:=p1.Claims) o runUnderlying25 rfl) λo=>qv o (Ao o rfl rfl) λo=>re<|?_
 rcases bip hm with ⟨J1,hm⟩ | ⟨J1,hm⟩
 refine tn<|ctv o rfl J1<|wk<|tn<|th<|wb<|th<|Av (λa w=>∃ (X1:Bool),(Z56 (Z58 N (Z55 N p1) p1 X0) Y0) X1=some r∧Fr 77 [(1,PT G0),(4,i6 Y0),(52,.bool X1)] a∧St w0 Nil [H] [bk G0 [SL Q0 p1.Lines I0,SL R0 p1.Vols J0,SL K0 p1.Locks C0,SL M0 p1.Threads D0,SL O0 p1.Recover E0,SL P0 p1.Claims F0] 27] w) ?_ ?_
 obtain ⟨G3,T0,hm⟩:=bs hm
 obtain ⟨I3,T2,M1⟩:=SR.get p0 T0
 obtain ⟨D3,A3,rfl,M2,O2⟩:=Cf T2
 obtain ⟨C2,E2,hm⟩:=bs hm
 rcases bit hm with ⟨O1,hm⟩ | ⟨O1,hm⟩
 have O1':(!C2)=false:=by rw [O1];rfl
 obtain ⟨U2,V2,hm⟩:=bs hm
 refine rg<|qv o (Af o Cz rfl) λo=>qv o (Ag o isAgg25 rfl (u.ld.cellB t0 rfl)) λo=>qm o rfl λo=>qv o (Am o runUnderlying25 sizeOf74 rfl rfl T0 (SR.oaI p0 (by decide) T0)) λo=>qv o (Af o Kp rfl) λo=>qv o (Ag o isAgg3 rfl (PH.le.cell (Lds.le u.ld) (M1 1 _ rfl))) λo=>ls<|cr o call98 (Oq (Ai _) E2) u λu o=>qv o (Ba o rfl) λo=>qv o (Ar (Ab o rfl) (congrArg Value.bool O1')) λo=>qg o (Af o Cz rfl) λo=>qg o (Ag o isAgg25 rfl (u.ld.cellB t0 rfl)) λo=>qg o (Ab o rfl) λo=>qg o (Am o runUnderlying25 sizeOf74 rfl rfl T0 (SR.oaI p0 (by decide) T0)) λo=>qg o (Af o Ld rfl) λo=>qg o (Ag o isAgg49 rfl (PH.le.cell (Lds.le u.ld) (M1 0 _ rfl))) λo=>ls<|gy o rfl rfl<|cr o call99 (Rm (Ai _) M2 (St.srH u O2) V2) u λu o=>qg o (Ba o rfl) λo=>qv o (Ae o rfl rfl) λo=>re<|tn<|?_
 exact ⟨(!U2),hm,o.hs,u⟩
 have O1':(!C2)=true:=by rw [O1];rfl
 refine rg<|qv o (Af o Cz rfl) λo=>qv o (Ag o isAgg25 rfl (u.ld.cellB t0 rfl)) λo=>qm o rfl λo=>qv o (Am o runUnderlying25 sizeOf74 rfl rfl T0 (SR.oaI p0 (by decide) T0)) λo=>qv o (Af o Kp rfl) λo=>qv o (Ag o isAgg3 rfl (PH.le.cell (Lds.le u.ld) (M1 1 _ rfl))) λo=>ls<|cr o call98 (Oq (Ai _) E2) u λu o=>qv o (Ba o rfl) λo=>qv o (Ar (Ab o rfl) (congrArg Value.bool O1')) λo=>?_
 iterate 8 refine qn o λo=>?_
 refine qv o (Ad o rfl rfl) λo=>re<|tn<|?_
 exact ⟨true,hm,o.hs,u⟩
 rintro a w ⟨X1,hm,o,u⟩
 unfold Z56 at hm
 rcases bit hm with ⟨P1,hm⟩ | ⟨P1,hm⟩
 refine ctv o rfl P1<|th<|rg<|qa o rfl λo=>re<|tn<|wr<|br<|tr<|tr<|br<|tr<|?_
 obtain rfl:=si hm
 exact r1 o results57 rfl ⟨rfl,u.keep⟩
 refine cfv o rfl P1<|wk<|bn<|tn<|rg<|qm o rfl λo=>qv o (Ap o rfl rfl) λo=>qa o rfl λo=>re<|tn<|?_
 exact ⟨(X0,(IntKind.i64.wrap (Y0+1))),⟨hm,o.has ⟨rfl,rfl,trivial⟩,u⟩,Nat.lt_succ_self _⟩
 refine tn<|cfv o rfl J1<|we<|tx<|tx<|bx<|tn<|?_
 exact ⟨hm,o.has ⟨rfl,trivial⟩,u⟩
 rintro a w ⟨hm,o,u⟩
 unfold Z55 at hm
 refine th<|?_
 obtain ⟨J3,S1,hm⟩:=bs hm
 rcases bit hm with ⟨U0,hm⟩ | ⟨U0,hm⟩
 obtain ⟨K3,Y1,hm⟩:=bs hm
 rcases bit hm with ⟨u0,hm⟩ | ⟨u0,hm⟩
 obtain ⟨L3,F2,hm⟩:=bs hm
 rcases bit hm with ⟨Q1,hm⟩ | ⟨Q1,hm⟩
 obtain ⟨W2,X2,hm⟩:=bs hm
 refine rg<|qv o (Af o Ea rfl) λo=>qv o (Ag o isAgg23 rfl (u.ld.cellB t0 rfl)) λo=>ls<|cr o call97 (Jv (Ai _) j0 (St.srH u n0) S1) u λu o=>qv o (Ar (Ab o rfl) (congrArg Value.bool U0)) λo=>qg o (Af o Ed rfl) λo=>qg o (Ag o isAgg23 rfl (u.ld.cellB t0 rfl)) λo=>ls<|gy o rfl rfl<|cr o call97 (Jv (Ai _) B1 (St.srH u C1) Y1) u λu o=>qv o (Ad o rfl rfl) λo=>qv o (Ar (Ab o rfl) (congrArg Value.bool u0)) λo=>qg o (Af o Dd rfl) λo=>qg o (Ag o isAgg24 rfl (u.ld.cellB t0 rfl)) λo=>ls<|gy o rfl rfl<|cr o call100 (Up (Ai _) T1 (St.srH u U1) F2) u λu o=>qv o (Ad o rfl rfl) λo=>qv o (Ar (Ab o rfl) (congrArg Value.bool Q1)) λo=>qg o (Af o Fv rfl) λo=>qg o (Ag o isAgg24 rfl (u.ld.cellB t0 rfl)) λo=>ls<|gy o rfl rfl<|cr o call100 (Up (Ai _) G2 (St.srH u I2) X2) u λu o=>qv o (Ad o rfl rfl) λo=>qm o rfl λo=>gr (Fk:=[(76,.bool (W2 && (decide ((p1.Recover.length:Int)≤1))))]) 71 5 o u ?_ ?_ ?_
 intro hb o key
 exact qg o (Af o Fv rfl) λo=>qg o (Ag o isAgg24 rfl (u.ld.cellB t0 rfl)) λo=>qg o (Ak (α:=api_Thread) (xs:=p1.Recover) o runUnderlying24 rfl) λo=>qg o (Dc o rfl rfl) λo=>qk o (Ad o rfl rfl) key u hb
 intro hb o key
 iterate 4 refine qn o λo=>?_
 exact qk o (Ae o rfl rfl) key u hb
 intro a w o u
 refine qa o rfl λo=>re<|tn<|wr<|?_
 obtain rfl:=si hm
 exact r1 o results57 rfl ⟨rfl,u.keep⟩
 refine rg<|qv o (Af o Ea rfl) λo=>qv o (Ag o isAgg23 rfl (u.ld.cellB t0 rfl)) λo=>ls<|cr o call97 (Jv (Ai _) j0 (St.srH u n0) S1) u λu o=>qv o (Ar (Ab o rfl) (congrArg Value.bool U0)) λo=>qg o (Af o Ed rfl) λo=>qg o (Ag o isAgg23 rfl (u.ld.cellB t0 rfl)) λo=>ls<|gy o rfl rfl<|cr o call97 (Jv (Ai _) B1 (St.srH u C1) Y1) u λu o=>qv o (Ad o rfl rfl) λo=>qv o (Ar (Ab o rfl) (congrArg Value.bool u0)) λo=>qg o (Af o Dd rfl) λo=>qg o (Ag o isAgg24 rfl (u.ld.cellB t0 rfl)) λo=>ls<|gy o rfl rfl<|cr o call100 (Up (Ai _) T1 (St.srH u U1) F2) u λu o=>qv o (Ad o rfl rfl) λo=>qv o (Ar (Ab o rfl) (congrArg Value.bool Q1)) λo=>?_
 iterate 3 refine qn o λo=>?_
 refine qv o (Ae o rfl rfl) λo=>qm o rfl λo=>?_
 iterate 4 refine qn o λo=>?_
 refine qv o (Ae o rfl rfl) λo=>qa o rfl λo=>re<|tn<|wr<|?_
 obtain rfl:=si hm
 exact r1 o results57 rfl ⟨rfl,u.keep⟩
 refine rg<|qv o (Af o Ea rfl) λo=>qv o (Ag o isAgg23 rfl (u.ld.cellB t0 rfl)) λo=>ls<|cr o call97 (Jv (Ai _) j0 (St.srH u n0) S1) u λu o=>qv o (Ar (Ab o rfl) (congrArg Value.bool U0)) λo=>qg o (Af o Ed rfl) λo=>qg o (Ag o isAgg23 rfl (u.ld.cellB t0 rfl)) λo=>ls<|gy o rfl rfl<|cr o call97 (Jv (Ai _) B1 (St.srH u C1) Y1) u λu o=>qv o (Ad o rfl rfl) λo=>qv o (Ar (Ab o rfl) (congrArg Value.bool u0)) λo=>?_
 iterate 3 refine qn o λo=>?_
 refine qv o (Ae o rfl rfl) λo=>qm o rfl λo=>?_
 iterate 3 refine qn o λo=>?_
 refine qv o (Ae o rfl rfl) λo=>qm o rfl λo=>?_
 iterate 4 refine qn o λo=>?_
 refine qv o (Ae o rfl rfl) λo=>qa o rfl λo=>re<|tn<|wr<|?_
 obtain rfl:=si hm
 exact r1 o results57 rfl ⟨rfl,u.keep⟩
 refine rg<|qv o (Af o Ea rfl) λo=>qv o (Ag o isAgg23 rfl (u.ld.cellB t0 rfl)) λo=>ls<|cr o call97 (Jv (Ai _) j0 (St.srH u n0) S1) u λu o=>qv o (Ar (Ab o rfl) (congrArg Value.bool U0)) λo=>?_
 iterate 3 refine qn o λo=>?_
 refine qv o (Ae o rfl rfl) λo=>qm o rfl λo=>?_
 iterate 3 refine qn o λo=>?_
 refine qv o (Ae o rfl rfl) λo=>qm o rfl λo=>?_
 iterate 3 refine qn o λo=>?_
 refine qv o (Ae o rfl rfl) λo=>qm o rfl λo=>?_
 iterate 4 refine qn o λo=>?_
 refine qv o (Ae o rfl rfl) λo=>qa o rfl λo=>re<|tn<|wr<|?_
 obtain rfl:=si hm
 exact r1 o results57 rfl ⟨rfl,u.keep⟩
theorem Yc (hH:H.le w0) {cs2:List Value} {p1:api_Prog} (g3:Enc.rep H cs2 p1) {r:(List api_Thread)} (hm:Z6g N p1=some r):Tot Tryz.prog 59 #[.agg cs2.toArray] w0 (λv w'=>∃ (H':PH) (I0:Option Addr) (C0:Nat),v=SL I0 r C0∧r.length≤C0∧SR H' I0 r∧Ext w0 H H'∧H'.le w'∧Keep Nil w0 w'):=by
 unfold Z6g at hm
 refine fn0 func59 rfl ntmps59 rfl rfl λa o=>?_
 have u:St w0 Nil [H] [] w0:=start1 hH
 obtain ⟨j0,J0,n0,K0,M0,D0,O0,E0,P0,F0,Q0,G0,rfl,V1,X1,F1,G1,I1,J1,M1,R0,O1,S0,P1,Q1⟩:=Aq g3
 refine th<|rg<|ls<|Br (cs:=[SL j0 p1.Lines J0,SL n0 p1.Vols K0,SL M0 p1.Locks D0,SL O0 p1.Threads E0,SL P0 p1.Recover F0,SL Q0 p1.Claims G0].toArray) o rfl u rfl rfl λY1 w a u o=>qa o rfl λo=>re<|tn<|th<|?_
 obtain ⟨p0,u0,hm⟩:=bs hm
 refine rg<|ls<|Bh (e:=48) (sz:=4) [] o rfl u rfl rfl rfl (λw=>by kernel_rfl) λB2 w a u o=>?_
 have T0:Rows (α:=api_Thread) H [] []:=.nil
 refine qv o (Af o Dd rfl) λo=>qv o (Ag o isAgg24 rfl (u.ld.cellB t1 rfl)) λo=>?_
 obtain ⟨us38,hd39,hu40⟩:=id R0
 refine ls<|Bw (α:=api_Thread) (xs:=[]) (ys:=p1.Threads) o rfl u underlying24 Ik rfl (by decide) rfl rfl rfl t0 T0 (u.rdH t0 hd39) hu40 u0 λR1 C1 S1 w a U0 hU o=>?_
 replace u:=hU _ .head
 refine qa o rfl λo=>re<|tn<|th<|?_
 obtain ⟨C2,B1,hm⟩:=bs hm
 refine rg<|qm o rfl λo=>qv o (Af o Fv rfl) λo=>qv o (Ag o isAgg24 rfl (u.ld.cellB t1 rfl)) λo=>?_
 obtain ⟨us47,hd48,hu49⟩:=id S0
 refine ls<|Bw (α:=api_Thread) (xs:=p0) (ys:=p1.Recover) o rfl u underlying24 Ik rfl (by decide) rfl rfl rfl t0 U0 (u.rdH t0 hd48) hu49 B1 λT1 E1 U1 w a V0 hU o=>?_
 replace u:=hU _ .head
 refine qa o rfl λo=>re<|tn<|wr<|?_
 obtain ⟨H53,W0,X0,Y0,u⟩:=St.frzS u .head V0
 obtain rfl:=si hm
 exact r1 o results59 rfl ⟨H53,_,_,rfl,Y0,X0,W0,(St.le u),u.keep⟩
set_option maxHeartbeats 4000000 in
theorem Jbq (hH:H.le w0) {cs2:List Value} {p1:api_Prog} (g3:Enc.rep H cs2 p1) {r:Bool} (hm:Z6h N p1=some r):Tot Tryz.prog 58 #[.agg cs2.toArray] w0 (λv w'=>v=.bool r∧Keep Nil w0 w'):=by
 unfold Z6h at hm
 refine fn0 func58 rfl ntmps58 rfl rfl λa o=>?_
 have u:St w0 Nil [H] [] w0:=start1 hH
 obtain ⟨Q0,I0,R0,J0,K0,D0,M0,E0,O0,F0,P0,G0,rfl,B2,p0,G1,I1,J1,M1,O1,P1,Q1,R1,S1,T1⟩:=Aq g3
 refine th<|rg<|ls<|Br (cs:=[SL Q0 p1.Lines I0,SL R0 p1.Vols J0,SL K0 p1.Locks D0,SL M0 p1.Threads E0,SL O0 p1.Recover F0,SL P0 p1.Claims G0].toArray) o rfl u rfl rfl λC0 w a u o=>qa o rfl λo=>re<|tn<|th<|th<|rg<|qa o rfl λo=>re<|tn<|Av (λa w=>(Z6i N p1)=some r∧Fr 69 [(1,PT C0)] a∧St w0 Nil [H] [bk C0 [SL Q0 p1.Lines I0,SL R0 p1.Vols J0,SL K0 p1.Locks D0,SL M0 p1.Threads E0,SL O0 p1.Recover F0,SL P0 p1.Claims G0] 27] w) ?_ ?_
 refine wb<|lp (α:=Nat×Int) (λgh a w=>match gh with | (S0,j0)=>(Z6k N (Z6i N p1) p1) S0 j0=some r∧Fr 69 [(1,PT C0),(3,i6 j0)] a∧St w0 Nil [H] [bk C0 [SL Q0 p1.Lines I0,SL R0 p1.Vols J0,SL K0 p1.Locks D0,SL M0 p1.Threads E0,SL O0 p1.Recover F0,SL P0 p1.Claims G0] 27] w) (λgh=>gh.1) (N,0) ⟨hm,o.has ⟨rfl,rfl,trivial⟩,u⟩ ?_
 rintro ⟨S0,j0⟩ a w ⟨hm,o,u⟩
 obtain _ | S0:=S0
 simp [Z6k] at hm
 rw [Z6k] at hm
 refine th<|th<|rg<|qm o rfl λo=>qv o (Af o Ca rfl) λo=>qv o (Ag o isAgg22 rfl (u.ld.cellB t0 rfl)) λo=>qv o (Ak (α:=(List api_Cell)) (xs:=p1.Lines) o runUnderlying22 rfl) λo=>qv o (Ao o rfl rfl) λo=>re<|?_
 rcases bip hm with ⟨U0,hm⟩ | ⟨U0,hm⟩
 refine tn<|ctv o rfl U0<|wk<|tn<|th<|wb<|th<|?_
 obtain ⟨C2,u0,hm⟩:=bs hm
 obtain ⟨A3,E2,U1⟩:=SR.get p0 u0
 obtain ⟨O2,J2,rfl,P2,Q2⟩:=E2
 refine rg<|qv o (Af o Ca rfl) λo=>qv o (Ag o isAgg22 rfl (u.ld.cellB t0 rfl)) λo=>qm o rfl λo=>qv o (Am o runUnderlying22 sizeOf23 rfl rfl u0 (SR.oaI p0 (by decide) u0)) λo=>qv o (Ag o isAgg23 rfl (PH.le.cell (Lds.le u.ld) (U1 0 _ rfl))) λo=>qv o (Ak (α:=api_Cell) (xs:=C2) o runUnderlying23 rfl) λo=>qv o (Bd o rfl rfl) λo=>re<|?_
 rcases bip hm with ⟨V0,hm⟩ | ⟨V0,hm⟩
 refine tn<|ctv o rfl V0<|th<|rg<|qa o rfl λo=>re<|tn<|wr<|br<|tr<|tr<|br<|tr<|?_
 obtain rfl:=si hm
 exact r1 o results58 rfl ⟨rfl,u.keep⟩
 refine tn<|cfv o rfl V0<|wk<|bn<|tn<|rg<|qm o rfl λo=>qv o (Ap o rfl rfl) λo=>qa o rfl λo=>re<|tn<|?_
 exact ⟨(S0,(IntKind.i64.wrap (j0+1))),⟨hm,o.has ⟨rfl,rfl,trivial⟩,u⟩,Nat.lt_succ_self _⟩
 refine tn<|cfv o rfl U0<|we<|tx<|tx<|bx<|tn<|?_
 exact ⟨hm,o.has ⟨rfl,trivial⟩,u⟩
 rintro a w ⟨hm,o,u⟩
 unfold Z6i at hm
 refine th<|?_
 obtain ⟨B1,F2,hm⟩:=bs hm
 refine rg<|qv o (Ay o Tryz.isAgg27 Tryz.sizeOf27 rfl rfl (u.ld.cellsB t0)) λo=>ls<|c1 o rfl call59 (Yc (St.le u) (show Enc.rep (α:=api_Prog) H [SL Q0 p1.Lines I0,SL R0 p1.Vols J0,SL K0 p1.Locks D0,SL M0 p1.Threads E0,SL O0 p1.Recover F0,SL P0 p1.Claims G0] p1 from ⟨_,_,rfl,⟨_,_,rfl,B2,p0⟩,⟨_,_,rfl,⟨_,_,rfl,G1,I1⟩,⟨_,_,rfl,⟨_,_,rfl,J1,M1⟩,⟨_,_,rfl,⟨_,_,rfl,O1,P1⟩,⟨_,_,rfl,⟨_,_,rfl,Q1,R1⟩,⟨_,_,rfl,S1,T1⟩⟩⟩⟩⟩⟩) F2) ⟨rfl,trivial⟩ (λv w a hR o=>?_)
 obtain ⟨H45,V1,F1,rfl,R2,C1,W0,X1,hk⟩:=hR
 obtain ⟨u,W0⟩:=And.intro (St.passH u hk W0 X1) (St.extc u W0)
 refine qa o rfl λo=>re<|tn<|th<|th<|rg<|qa o rfl λo=>re<|tn<|Av (λa w=>(Z6j p1)=some r∧Fr 69 [(1,PT C0)] a∧St w0 Nil [H45] [bk C0 [SL Q0 p1.Lines I0,SL R0 p1.Vols J0,SL K0 p1.Locks D0,SL M0 p1.Threads E0,SL O0 p1.Recover F0,SL P0 p1.Claims G0] 27] w) ?_ ?_
 refine wb<|lp (α:=Nat×Int) (λgh a w=>match gh with | (T0,n0)=>(Z6l N (Z6j p1) B1) T0 n0=some r∧Fr 69 [(1,PT C0),(4,SL V1 B1 F1),(5,i6 n0)] a∧St w0 Nil [H45] [bk C0 [SL Q0 p1.Lines I0,SL R0 p1.Vols J0,SL K0 p1.Locks D0,SL M0 p1.Threads E0,SL O0 p1.Recover F0,SL P0 p1.Claims G0] 27] w) (λgh=>gh.1) (N,0) ⟨hm,o.hs,u⟩ ?_
 rintro ⟨T0,n0⟩ a w ⟨hm,o,u⟩
 obtain _ | T0:=T0
 simp [Z6l] at hm
 rw [Z6l] at hm
 refine th<|th<|rg<|qm o rfl λo=>qm o rfl λo=>qv o (Ak (α:=api_Thread) (xs:=B1) o runUnderlying24 rfl) λo=>qv o (Ao o rfl rfl) λo=>re<|?_
 rcases bip hm with ⟨X0,hm⟩ | ⟨X0,hm⟩
 refine tn<|ctv o rfl X0<|wk<|tn<|th<|wb<|th<|?_
 obtain ⟨G2,E1,hm⟩:=bs hm
 obtain ⟨B3,I2,Y1⟩:=SR.get C1 E1
 obtain ⟨T2,K2,U2,M2,rfl,V2,W2,X2,Y2⟩:=Aw I2
 refine rg<|qm o rfl λo=>qm o rfl λo=>qv o (Am o runUnderlying24 sizeOf48 rfl rfl E1 (SR.oaI C1 (by decide) E1)) λo=>qv o (Af o Ci rfl) λo=>qv o (Ag o isAgg36 rfl (PH.le.cell (Lds.le u.ld) (Y1 1 _ rfl))) λo=>qv o (Ak (α:=Str) (xs:=G2.Regs) o runUnderlying36 rfl) λo=>qv o (Bd o rfl rfl) λo=>re<|?_
 rcases bip hm with ⟨Y0,hm⟩ | ⟨Y0,hm⟩
 refine tn<|ctv o rfl Y0<|th<|rg<|qa o rfl λo=>re<|tn<|wr<|br<|tr<|tr<|br<|tr<|?_
 obtain rfl:=si hm
 exact r1 o results58 rfl ⟨rfl,u.keep⟩
 refine tn<|cfv o rfl Y0<|wk<|bn<|tn<|rg<|qm o rfl λo=>qv o (Ap o rfl rfl) λo=>qa o rfl λo=>re<|tn<|?_
 exact ⟨(T0,(IntKind.i64.wrap (n0+1))),⟨hm,o.hs,u⟩,Nat.lt_succ_self _⟩
 refine tn<|cfv o rfl X0<|we<|tx<|tx<|bx<|tn<|?_
 exact ⟨hm,o.has ⟨rfl,trivial⟩,u⟩
 rintro a w ⟨hm,o,u⟩
 unfold Z6j at hm
 refine th<|rg<|qv o (Af o Ca rfl) λo=>qv o (Ag o isAgg22 rfl (u.ld.cellB t0 rfl)) λo=>qv o (Ak (α:=(List api_Cell)) (xs:=p1.Lines) o runUnderlying22 rfl) λo=>qv o (Bd o rfl rfl) λo=>qm o rfl λo=>gr (Fk:=[(1,PT C0),(44,.bool ((decide (4 < (p1.Lines.length:Int))) || (decide (4 < (p1.Vols.length:Int)))))]) 39 5 o u ?_ ?_ ?_
 intro hb o key
 iterate 4 refine qn o λo=>?_
 exact qk o (Ad o rfl rfl) key u hb
 intro hb o key
 exact qg o (Af o Ea rfl) λo=>qg o (Ag o isAgg23 rfl (u.ld.cellB t0 rfl)) λo=>qg o (Ak (α:=api_Cell) (xs:=p1.Vols) o runUnderlying23 rfl) λo=>qg o (Bd o rfl rfl) λo=>qk o (Ae o rfl rfl) key u hb
 intro a w o u
 refine qm o rfl λo=>gr (Fk:=[(1,PT C0),(50,.bool (((decide (4 < (p1.Lines.length:Int))) || (decide (4 < (p1.Vols.length:Int)))) || (decide (2 < (p1.Locks.length:Int)))))]) 45 5 o u ?_ ?_ ?_
 intro hb o key
 iterate 4 refine qn o λo=>?_
 exact qk o (Ad o rfl rfl) key u hb
 intro hb o key
 exact qg o (Af o Ed rfl) λo=>qg o (Ag o isAgg23 rfl (u.ld.cellB t0 rfl)) λo=>qg o (Ak (α:=api_Cell) (xs:=p1.Locks) o runUnderlying23 rfl) λo=>qg o (Bd o rfl rfl) λo=>qk o (Ae o rfl rfl) key u hb
 intro a w o u
 refine qm o rfl λo=>gr (Fk:=[(1,PT C0),(56,.bool ((((decide (4 < (p1.Lines.length:Int))) || (decide (4 < (p1.Vols.length:Int)))) || (decide (2 < (p1.Locks.length:Int)))) || (decide ((p1.Threads.length:Int) < 1))))]) 51 5 o u ?_ ?_ ?_
 intro hb o key
 iterate 4 refine qn o λo=>?_
 exact qk o (Ad o rfl rfl) key u hb
 intro hb o key
 exact qg o (Af o Dd rfl) λo=>qg o (Ag o isAgg24 rfl (u.ld.cellB t0 rfl)) λo=>qg o (Ak (α:=api_Thread) (xs:=p1.Threads) o runUnderlying24 rfl) λo=>qg o (Ao o rfl rfl) λo=>qk o (Ae o rfl rfl) key u hb
 intro a w o u
 refine qm o rfl λo=>gr (Fk:=[(1,PT C0),(62,.bool (((((decide (4 < (p1.Lines.length:Int))) || (decide (4 < (p1.Vols.length:Int)))) || (decide (2 < (p1.Locks.length:Int)))) || (decide ((p1.Threads.length:Int) < 1))) || (decide (3 < (p1.Threads.length:Int)))))]) 57 5 o u ?_ ?_ ?_
 intro hb o key
 iterate 4 refine qn o λo=>?_
 exact qk o (Ad o rfl rfl) key u hb
 intro hb o key
 exact qg o (Af o Dd rfl) λo=>qg o (Ag o isAgg24 rfl (u.ld.cellB t0 rfl)) λo=>qg o (Ak (α:=api_Thread) (xs:=p1.Threads) o runUnderlying24 rfl) λo=>qg o (Bd o rfl rfl) λo=>qk o (Ae o rfl rfl) key u hb
 intro a w o u
 refine qm o rfl λo=>gr (Fk:=[(68,.bool ((((((decide (4 < (p1.Lines.length:Int))) || (decide (4 < (p1.Vols.length:Int)))) || (decide (2 < (p1.Locks.length:Int)))) || (decide ((p1.Threads.length:Int) < 1))) || (decide (3 < (p1.Threads.length:Int)))) || (decide (4 < (p1.Claims.length:Int)))))]) 63 5 o u ?_ ?_ ?_
 intro hb o key
 iterate 4 refine qn o λo=>?_
 exact qk o (Ad o rfl rfl) key u hb
 intro hb o key
 exact qg o (Af o Cz rfl) λo=>qg o (Ag o isAgg25 rfl (u.ld.cellB t0 rfl)) λo=>qg o (Ak (α:=api_Claim) (xs:=p1.Claims) o runUnderlying25 rfl) λo=>qg o (Bd o rfl rfl) λo=>qk o (Ae o rfl rfl) key u hb
 intro a w o u
 refine qa o rfl λo=>re<|tn<|wr<|?_
 obtain rfl:=si hm
 exact r1 o results58 rfl ⟨rfl,u.keep⟩
theorem JbV:∀ (N:Nat) {w0:World} {H:PH} (hH:H.le w0) {K0:Option Addr} {D0:Nat} {p1:(List api_Stmt)} (E0:p1.length≤D0) (F0:SR H K0 p1) {p6:Int} {r:Int} (hm:Z72 N p1 p6=some r),Tot Tryz.prog 60 #[SL K0 p1 D0,i6 p6] w0 (λv w'=>v=i6 r∧Keep Nil w0 w'):=by
 intro N
 induction N with
  | zero=>intros;rename_i hm;simp [Z72] at hm
  | succ N ih=>
 intro w0 H hH K0 D0 p1 E0 F0 p6 r hm
 rw [Z72] at hm
 refine fn0 func60 rfl ntmps60 rfl rfl λa o=>?_
 have u:St w0 Nil [H] [] w0:=start1 hH
 refine th<|rg<|qa o rfl λo=>re<|tn<|th<|th<|rg<|qm o rfl λo=>qv o (Ak (α:=api_Stmt) (xs:=p1) o runUnderlying46 rfl) λo=>qv o (An o rfl rfl) λo=>re<|?_
 rcases bip hm with ⟨M0,hm⟩ | ⟨M0,hm⟩
 refine tn<|ctv o rfl M0<|th<|rg<|qa o rfl λo=>re<|tn<|wr<|tr<|?_
 obtain rfl:=si hm
 exact r1 o results60 rfl ⟨rfl,u.keep⟩
 refine tn<|cfv o rfl M0<|wk<|tn<|th<|?_
 obtain ⟨C0,h9,hm⟩:=bs hm
 obtain ⟨P1,p0,U0⟩:=SR.get F0 h9
 obtain ⟨V0,P0,W0,Q0,rfl,F1,G1,I1,J1⟩:=Bm p0
 refine rg<|qm o rfl λo=>qv o (Am o runUnderlying46 sizeOf51 rfl rfl h9 (SR.oaI F0 (by decide) h9)) λo=>qv o (Ay o isAgg51 sizeOf51 rfl rfl (λj v hj=>PH.le.cell (Lds.le u.ld) (U0 j v hj))) λo=>qm o rfl λo=>ls<|Au (cs:=[i6 0,Ac [],Ac [],.slice none 0 0,.slice none 0 0,i6 0,i6 0,i6 0,i6 0].toArray) o rfl u zeroValue51 rfl λR0 w a u o=>ls<|Az o u sizeOf51 rfl rfl rfl rfl (Al rfl) .head λw u=>qa o rfl λo=>re<|tn<|th<|th<|rg<|qv o (Af o Cj rfl) λo=>qv o (Ag o isAgg3 rfl (u.ld.cellB t0 rfl)) λo=>qv o (An o rfl rfl) λo=>re<|tn<|Av (λa w=>∃ (O0:Int),(Z73 (Z72 N) p1 p6 C0) O0=some r∧Fr 46 [(0,SL K0 p1 D0),(1,i6 p6),(5,PT R0),(6,i6 O0)] a∧St w0 Nil [H] [bk R0 [i6 C0.Kind,Ac C0.Reg,Ac C0.Name,SL V0 C0.E P0,SL W0 C0.F Q0,i6 C0.N,i6 C0.Body,i6 C0.Else,i6 C0.At] 51] w) ?_ ?_
 rcases bip hm with ⟨G0,hm⟩ | ⟨G0,hm⟩
 refine ctv o rfl G0<|rg<|qm o rfl λo=>qv o (Af o Gk rfl) λo=>qv o (Ag o isAgg3 rfl (u.ld.cellB t0 rfl)) λo=>qv o (Ux o rfl rfl) λo=>qa o rfl λo=>re<|tn<|?_
 exact ⟨(IntKind.i64.wrap (p6 * C0.N)),hm,o.hs,u⟩
 refine cfv o rfl G0<|wk<|tn<|?_
 exact ⟨p6,hm,o.hs,u⟩
 rintro a w ⟨O0,hm,o,u⟩
 unfold Z73 at hm
 refine th<|th<|rg<|qm o rfl λo=>qv o (Bd o rfl rfl) λo=>re<|?_
 rcases bip hm with ⟨I0,hm⟩ | ⟨I0,hm⟩
 refine tn<|ctv o rfl I0<|th<|rg<|qv o (Af o Es rfl) λo=>qv o (Ag o isAgg3 rfl (u.ld.cellB t0 rfl)) λo=>qa o rfl λo=>re<|tn<|wr<|tr<|?_
 obtain rfl:=si hm
 exact r1 o results60 rfl ⟨rfl,u.keep⟩
 refine tn<|cfv o rfl I0<|wk<|tn<|th<|rg<|qv o (Af o Dx rfl) λo=>qv o (Ag o isAgg3 rfl (u.ld.cellB t0 rfl)) λo=>qv o (Ap o rfl rfl) λo=>qv o (Af o Ei rfl) λo=>qv o (Ag o isAgg3 rfl (u.ld.cellB t0 rfl)) λo=>qv o (Ap o rfl rfl) λo=>qa o rfl λo=>re<|tn<|th<|?_
 obtain ⟨Q1,S0,hm⟩:=bs hm
 obtain ⟨M1,C1,e28,e29,X0,Y0⟩:=SR.sub (sz:=9) F0 E0 rfl S0
 obtain ⟨R1,u0,hm⟩:=bs hm
 refine rg<|qm o rfl λo=>qm o rfl λo=>qv o (Hc (xs:=p1) (vl:=1) (vh:=(IntKind.i64.wrap ((IntKind.i64.wrap (1+C0.Body))+C0.Else))) o runUnderlying46 sizeOf51 rfl E0 rfl rfl S0 e28 e29) λo=>qm o rfl λo=>ls<|cr o call60 (ih (Ai _) X0 (St.srH u Y0) u0) u λu o=>qa o rfl λo=>re<|tn<|th<|th<|rg<|qm o rfl λo=>qv o (Bl o rfl rfl) λo=>re<|?_
 rcases bip hm with ⟨J0,hm⟩ | ⟨J0,hm⟩
 refine tn<|ctv o rfl J0<|th<|rg<|qm o rfl λo=>qa o rfl λo=>re<|tn<|wr<|tr<|?_
 obtain rfl:=si hm
 exact r1 o results60 rfl ⟨rfl,u.keep⟩
 refine tn<|cfv o rfl J0<|wk<|tn<|th<|?_
 obtain ⟨S1,T0,hm⟩:=bs hm
 obtain ⟨O1,E1,e39,e40,j0,n0⟩:=SR.sub (sz:=9) F0 E0 rfl T0
 obtain ⟨T1,B1,hm⟩:=bs hm
 refine rg<|qm o rfl λo=>qm o rfl λo=>qv o (Hc (xs:=p1) (vl:=(IntKind.i64.wrap ((IntKind.i64.wrap (1+C0.Body))+C0.Else))) (vh:=(p1.length:Int)) o runUnderlying46 sizeOf51 rfl E0 rfl rfl T0 e39 e40) λo=>qm o rfl λo=>ls<|cr o call60 (ih (Ai _) j0 (St.srH u n0) B1) u λu o=>qa o rfl λo=>re<|tn<|wr<|?_
 obtain rfl:=si hm
 exact r1 o results60 rfl ⟨rfl,u.keep⟩
theorem Ub (hH:H.le w0) {cs2:List Value} {p1:api_Prog} (g3:Enc.rep H cs2 p1) {r:(List api_Cell)} (hm:Z5k N p1=some r):Tot Tryz.prog 67 #[.agg cs2.toArray] w0 (λv w'=>∃ (G1:Option Addr) (p0:Nat) (I1:List Value),v=SL G1 r p0∧(∀ h,Rows h I1 r)∧Fresh w0 (sla 53 3 G1 r.length p0 I1) w'):=by
 unfold Z5k at hm
 refine fn0 func67 rfl ntmps67 rfl rfl λa o=>?_
 have u:St w0 Nil [H] [] w0:=start1 hH
 obtain ⟨u0,Q0,B1,R0,S0,F0,T0,G0,U0,I0,V0,J0,rfl,A3,J1,J2,M1,K2,M2,O2,P2,Q2,R2,T2,U2⟩:=Aq g3
 refine th<|rg<|ls<|Br (cs:=[SL u0 p1.Lines Q0,SL B1 p1.Vols R0,SL S0 p1.Locks F0,SL T0 p1.Threads G0,SL U0 p1.Recover I0,SL V0 p1.Claims J0].toArray) o rfl u rfl rfl λj0 w a u o=>qa o rfl λo=>re<|tn<|th<|rg<|ls<|Bh (e:=53) (sz:=3) [] o rfl u rfl rfl rfl (λw=>by kernel_rfl) λX1 w a u o=>?_
 have O1:Rows (α:=api_Cell) H [] []:=.nil
 refine qa o rfl λo=>re<|tn<|th<|th<|rg<|qa o rfl λo=>re<|tn<|Av (λa w=>∃ (E0:(List api_Cell)) (W0:Option Addr) (K0:Nat) (X0:List Value),(Z5l p1) E0=some r∧Fr 24 [(1,PT j0),(3,SL W0 E0 K0)] a∧St w0 Nil [H] [bk j0 [SL u0 p1.Lines Q0,SL B1 p1.Vols R0,SL S0 p1.Locks F0,SL T0 p1.Threads G0,SL U0 p1.Recover I0,SL V0 p1.Claims J0] 27,sla 53 3 W0 E0.length K0 X0] w∧Rows H X0 E0) ?_ ?_
 replace u:=u.pk [1,0] rfl
 refine wb<|lp (α:=Nat×(List api_Cell)×Int) (λgh a w=>match gh with | (P0,D0,n0)=>∃ (M0:Option Addr) (C0:Nat) (O0:List Value),(Z5m N (Z5l p1) p1) P0 D0 n0=some r∧Fr 24 [(1,PT j0),(3,SL M0 D0 C0),(4,i6 n0)] a∧St w0 Nil [H] [bk j0 [SL u0 p1.Lines Q0,SL B1 p1.Vols R0,SL S0 p1.Locks F0,SL T0 p1.Threads G0,SL U0 p1.Recover I0,SL V0 p1.Claims J0] 27,sla 53 3 M0 D0.length C0 O0] w∧Rows H O0 D0) (λgh=>gh.1) (N,[],0) ⟨(some ⟨X1,0,none⟩),0,[],hm,o.hs,u,O1⟩ ?_
 rintro ⟨P0,D0,n0⟩ a w ⟨M0,C0,O0,hm,o,u,C1⟩
 obtain _ | P0:=P0
 simp [Z5m] at hm
 rw [Z5m] at hm
 refine th<|th<|rg<|qm o rfl λo=>qv o (Af o Ca rfl) λo=>qv o (Ag o isAgg22 rfl (u.ld.cellB t0 rfl)) λo=>qv o (Ak (α:=(List api_Cell)) (xs:=p1.Lines) o runUnderlying22 rfl) λo=>qv o (Ao o rfl rfl) λo=>re<|?_
 rcases bip hm with ⟨Y0,hm⟩ | ⟨Y0,hm⟩
 refine tn<|ctv o rfl Y0<|wk<|tn<|th<|wb<|?_
 obtain ⟨Y1,E1,hm⟩:=bs hm
 obtain ⟨B3,B2,P1⟩:=SR.get J1 E1
 obtain ⟨V2,G2,rfl,W2,Q1⟩:=B2
 obtain ⟨C2,E2,hm⟩:=bs hm
 refine rg<|qm o rfl λo=>qv o (Af o Ca rfl) λo=>qv o (Ag o isAgg22 rfl (u.ld.cellB t0 rfl)) λo=>qm o rfl λo=>qv o (Am o runUnderlying22 sizeOf23 rfl rfl E1 (SR.oaI J1 (by decide) E1)) λo=>qv o (Ag o isAgg23 rfl (PH.le.cell (Lds.le u.ld) (P1 0 _ rfl))) λo=>?_
 obtain ⟨us48,hd49,hu50⟩:=id Q1
 refine ls<|Bw (α:=api_Cell) (xs:=D0) (ys:=Y1) o rfl u underlying23 Gq rfl (by decide) rfl rfl rfl t1 C1 (u.rdH t0 hd49) hu50 E2 λR1 F1 S1 w a T1 hU o=>?_
 replace u:=hU _ (.tail .head)
 refine qa o rfl λo=>re<|bn<|tn<|rg<|qm o rfl λo=>qv o (Ap o rfl rfl) λo=>qa o rfl λo=>re<|tn<|?_
 exact ⟨(P0,C2,(IntKind.i64.wrap (n0+1))),⟨R1,F1,S1,hm,o.hs,u,T1⟩,Nat.lt_succ_self _⟩
 refine tn<|cfv o rfl Y0<|we<|tx<|tx<|bx<|tn<|?_
 exact ⟨D0,M0,C0,O0,hm,o.has ⟨rfl,rfl,trivial⟩,u,C1⟩
 rintro a w ⟨E0,W0,K0,X0,hm,o,u,U1⟩
 unfold Z5l at hm
 refine th<|?_
 obtain ⟨C3,F2,hm⟩:=bs hm
 refine rg<|qm o rfl λo=>qv o (Af o Ea rfl) λo=>qv o (Ag o isAgg23 rfl (u.ld.cellB t0 rfl)) λo=>?_
 obtain ⟨us57,hd58,hu59⟩:=id M1
 refine ls<|Bw (α:=api_Cell) (xs:=E0) (ys:=p1.Vols) o rfl u underlying23 Gq rfl (by decide) rfl rfl rfl t1 U1 (u.rdH t0 hd58) hu59 F2 λX2 I2 Y2 w a V1 hU o=>?_
 replace u:=hU _ (.tail .head)
 refine qa o rfl λo=>re<|tn<|wr<|?_
 obtain rfl:=si hm
 exact r1 o results67 rfl ⟨_,_,_,rfl,(λ_=>Rows.ind V1),u.endFresh t1⟩
theorem Tz (hH:H.le w0) {R0:Option Addr} {M0:Nat} {p1:(List api_Cell)} (M1:p1.length≤M0) (X0:SR H R0 p1) {r:(List Str)} (hm:Z66 N p1=some r):Tot Tryz.prog 66 #[SL R0 p1 M0] w0 (λv w'=>∃ (Y0:Option Addr) (S0:Nat) (j0:List Value),v=SL Y0 r S0∧(∀ h,Rows h j0 r)∧Fresh w0 (sla 9 1 Y0 r.length S0 j0) w'):=by
 unfold Z66 at hm
 refine fn0 func66 rfl ntmps66 rfl rfl λa o=>?_
 have u:St w0 Nil [H] [] w0:=start1 hH
 refine th<|rg<|qa o rfl λo=>re<|tn<|th<|rg<|ls<|Bh (e:=9) (sz:=1) [] o rfl u rfl rfl rfl (λw=>by kernel_rfl) λb7 w a u o=>?_
 have F1:Rows (α:=Str) H [] []:=.nil
 refine qa o rfl λo=>re<|tn<|th<|th<|rg<|qa o rfl λo=>re<|tn<|Av (λa w=>∃ (I0:(List Str)) (O0:Option Addr) (E0:Nat) (P0:List Value),Z67 I0=some r∧Fr 21 [(3,SL O0 I0 E0)] a∧St w0 Nil [H] [sla 9 1 O0 I0.length E0 P0] w∧Rows H P0 I0) ?_ ?_
 refine wb<|lp (α:=Nat×(List Str)×Int) (λgh a w=>match gh with | (J0,D0,Q0)=>∃ (F0:Option Addr) (C0:Nat) (G0:List Value),(Z68 N Z67 p1) J0 D0 Q0=some r∧Fr 21 [(0,SL R0 p1 M0),(3,SL F0 D0 C0),(4,i6 Q0)] a∧St w0 Nil [H] [sla 9 1 F0 D0.length C0 G0] w∧Rows H G0 D0) (λgh=>gh.1) (N,[],0) ⟨(some ⟨b7,0,none⟩),0,[],hm,o.hs,u,F1⟩ ?_
 rintro ⟨J0,D0,Q0⟩ a w ⟨F0,C0,G0,hm,o,u,T0⟩
 obtain _ | J0:=J0
 simp [Z68] at hm
 rw [Z68] at hm
 refine th<|th<|rg<|qm o rfl λo=>qm o rfl λo=>qv o (Ak (α:=api_Cell) (xs:=p1) o runUnderlying23 rfl) λo=>qv o (Ao o rfl rfl) λo=>re<|?_
 rcases bip hm with ⟨U0,hm⟩ | ⟨U0,hm⟩
 refine tn<|ctv o rfl U0<|wk<|tn<|th<|wb<|?_
 obtain ⟨K0,V0,hm⟩:=bs hm
 obtain ⟨O1,G1,n0⟩:=SR.get X0 V0
 obtain rfl:=Bj G1
 obtain ⟨I1,J1,hm⟩:=bs hm
 refine rg<|qm o rfl λo=>?_
 iterate 2 refine qm o rfl λo=>?_
 refine qv o (Am o runUnderlying23 sizeOf53 rfl rfl V0 (SR.oaI X0 (by decide) V0)) λo=>qv o (Af o Dq rfl) λo=>qv o (Ag o isAgg9 rfl (PH.le.cell (Lds.le u.ld) (n0 0 _ rfl))) λo=>ls<|Bh (e:=9) (sz:=1) [Ac K0.Name] o rfl u rfl rfl rfl (λw=>by kernel_rfl) λP1 w a u o=>?_
 have p0:Rows (α:=Str) H [Ac K0.Name] ([K0.Name]:List Str):=(.cons (c:=[Ac K0.Name]) rfl .nil)
 refine ls<|Bw (α:=Str) (xs:=D0) (ys:=([K0.Name]:List Str)) o rfl u underlying36 Pm rfl (by decide) rfl rfl rfl t1 T0 (u.rdO t0) p0 J1 λu0 W0 B1 w a C1 hU o=>?_
 replace u:=hU _ (.tail .head)
 replace u:=u.drop .head
 refine qa o rfl λo=>re<|bn<|tn<|rg<|qm o rfl λo=>qv o (Ap o rfl rfl) λo=>qa o rfl λo=>re<|tn<|?_
 exact ⟨(J0,I1,(IntKind.i64.wrap (Q0+1))),⟨u0,W0,B1,hm,o.hs,u,C1⟩,Nat.lt_succ_self _⟩
 refine tn<|cfv o rfl U0<|we<|tx<|tx<|bx<|tn<|?_
 exact ⟨D0,F0,C0,G0,hm,o.has ⟨rfl,trivial⟩,u,T0⟩
 rintro a w ⟨I0,O0,E0,P0,hm,o,u,E1⟩
 unfold Z67 at hm
 refine th<|rg<|qm o rfl λo=>qa o rfl λo=>re<|tn<|wr<|?_
 obtain rfl:=si hm
 exact r1 o results66 rfl ⟨_,_,_,rfl,(λ_=>Rows.ind E1),u.endFresh t0⟩
theorem He (hH:H.le w0) {G0:Option Addr} {D0:Nat} {p1:(List Str)} (Q0:p1.length≤D0) (J0:SR H G0 p1) {p6:Str} {r:Int} (hm:Z69 N p1 p6=some r):Tot Tryz.prog 33 #[SL G0 p1 D0,Ac p6] w0 (λv w'=>v=i6 r∧Keep Nil w0 w'):=by
 unfold Z69 at hm
 refine fn0 func33 rfl ntmps33 rfl rfl λa o=>?_
 have u:St w0 Nil [H] [] w0:=start1 hH
 refine th<|rg<|qa o rfl λo=>re<|tn<|th<|th<|rg<|qa o rfl λo=>re<|tn<|Av (λa w=>Z6a=some r∧Fr 19 [] a∧St w0 Nil [H] [] w) ?_ ?_
 refine wb<|lp (α:=Nat×Int) (λgh a w=>match gh with | (C0,F0)=>(Z6b N Z6a p1 p6) C0 F0=some r∧Fr 19 [(0,SL G0 p1 D0),(1,Ac p6),(5,i6 F0)] a∧St w0 Nil [H] [] w) (λgh=>gh.1) (N,0) ⟨hm,o.hs,u⟩ ?_
 rintro ⟨C0,F0⟩ a w ⟨hm,o,u⟩
 obtain _ | C0:=C0
 simp [Z6b] at hm
 rw [Z6b] at hm
 refine th<|th<|rg<|qm o rfl λo=>qm o rfl λo=>qv o (Ak (α:=Str) (xs:=p1) o runUnderlying36 rfl) λo=>qv o (Ao o rfl rfl) λo=>re<|?_
 rcases bip hm with ⟨I0,hm⟩ | ⟨I0,hm⟩
 refine tn<|ctv o rfl I0<|wk<|tn<|th<|wb<|th<|?_
 obtain ⟨K0,h9,hm⟩:=bs hm
 obtain ⟨O0,P0,M0⟩:=SR.get J0 h9
 obtain rfl:O0=[Ac K0]:=P0
 refine rg<|qm o rfl λo=>qm o rfl λo=>qv o (Am o runUnderlying36 sizeOf9 rfl rfl h9 (SR.oaI J0 (by decide) h9)) λo=>qv o (Ag o isAgg9 rfl (PH.le.cell (Lds.le u.ld) (M0 0 _ rfl))) λo=>qm o rfl λo=>qv o (Eg (m:=K0) (n:=p6) o rfl rfl) λo=>re<|?_
 rcases bip hm with ⟨E0,hm⟩ | ⟨E0,hm⟩
 refine tn<|ctv o rfl E0<|th<|rg<|qm o rfl λo=>qa o rfl λo=>re<|tn<|wr<|br<|tr<|tr<|br<|tr<|?_
 obtain rfl:=si hm
 exact r1 o results33 rfl ⟨rfl,u.keep⟩
 refine tn<|cfv o rfl E0<|wk<|bn<|tn<|rg<|qm o rfl λo=>qv o (Ap o rfl rfl) λo=>qa o rfl λo=>re<|tn<|?_
 exact ⟨(C0,(IntKind.i64.wrap (F0+1))),⟨hm,o.hs,u⟩,Nat.lt_succ_self _⟩
 refine tn<|cfv o rfl I0<|we<|tx<|tx<|bx<|tn<|?_
 exact ⟨hm,o.has trivial,u⟩
 rintro a w ⟨hm,o,u⟩
 unfold Z6a at hm
 refine th<|rg<|qa o rfl λo=>re<|tn<|wr<|?_
 obtain rfl:=si hm
 exact r1 o results33 rfl ⟨rfl,u.keep⟩
theorem Jba (hH:H.le w0) {cs2:List Value} {p1:api_Prog} (g3:Enc.rep H cs2 p1) {r:Int} (hm:Z6t N p1=some r):Tot Tryz.prog 61 #[.agg cs2.toArray] w0 (λv w'=>v=i6 r∧Keep Nil w0 w'):=by
 unfold Z6t at hm
 refine fn0 func61 rfl ntmps61 rfl rfl λa o=>?_
 have u:St w0 Nil [H] [] w0:=start1 hH
 obtain ⟨P1,Y0,Q1,j0,n0,J0,p0,K0,u0,M0,B1,O0,rfl,D3,E3,E2,F2,G2,R1,I2,P0,J2,K2,M2,O2⟩:=Aq g3
 refine th<|rg<|ls<|Br (cs:=[SL P1 p1.Lines Y0,SL Q1 p1.Vols j0,SL n0 p1.Locks J0,SL p0 p1.Threads K0,SL u0 p1.Recover M0,SL B1 p1.Claims O0].toArray) o rfl u rfl rfl λC2 w a u o=>qa o rfl λo=>re<|tn<|th<|?_
 obtain ⟨F3,G3,hm⟩:=bs hm
 obtain ⟨I3,J3,hm⟩:=bs hm
 refine rg<|ls<|Bh (e:=53) (sz:=3) [] o rfl u rfl rfl rfl (λw=>by kernel_rfl) λF4 w a u o=>?_
 have P2:Rows (α:=api_Cell) H [] []:=.nil
 refine qv o (Ay o isAgg27 sizeOf27 rfl rfl (u.ld.cellsB t1)) λo=>ls<|c1 o rfl call67 (Ub (Ai _) (Enc.mono (St.up u) (show Enc.rep (α:=api_Prog) H [SL P1 p1.Lines Y0,SL Q1 p1.Vols j0,SL n0 p1.Locks J0,SL p0 p1.Threads K0,SL u0 p1.Recover M0,SL B1 p1.Claims O0] p1 from ⟨_,_,rfl,⟨_,_,rfl,D3,E3⟩,⟨_,_,rfl,⟨_,_,rfl,E2,F2⟩,⟨_,_,rfl,⟨_,_,rfl,G2,R1⟩,⟨_,_,rfl,⟨_,_,rfl,I2,P0⟩,⟨_,_,rfl,⟨_,_,rfl,J2,K2⟩,⟨_,_,rfl,M2,O2⟩⟩⟩⟩⟩⟩)) G3) ⟨rfl,trivial⟩ (λv w a hR o=>?_)
 obtain ⟨X3,T3,Y3,rfl,C1,hk⟩:=hR
 replace u:=u.fresh hk
 replace C1:=C1 H
 refine ls<|Bw (α:=api_Cell) (xs:=[]) (ys:=F3) o rfl u underlying23 Gq rfl (by decide) rfl rfl rfl t1 P2 (u.rdO t0) C1 J3 λl3 U3 n3 w a Q2 hU o=>?_
 replace u:=hU _ (.tail .head)
 refine qa o rfl λo=>re<|tn<|th<|?_
 obtain ⟨K3,L3,hm⟩:=bs hm
 refine rg<|qm o rfl λo=>qv o (Af o Ed rfl) λo=>qv o (Ag o isAgg23 rfl (u.ld.cellB t2 rfl)) λo=>?_
 obtain ⟨us51,hd52,hu53⟩:=id R1
 refine ls<|Bw (α:=api_Cell) (xs:=I3) (ys:=p1.Locks) o rfl u underlying23 Gq rfl (by decide) rfl rfl rfl t1 Q2 (u.rdH t0 hd52) hu53 L3 λR2 Y1 T2 w a U2 hU o=>?_
 replace u:=hU _ (.tail .head)
 refine qa o rfl λo=>re<|tn<|th<|th<|rg<|qa o rfl λo=>re<|tn<|Av (λa w=>∃ (D0:(List api_Cell)) (G0:Option Addr) (E0:Nat) (Q0:List Value),(Z6u N) D0=some r∧Fr 60 [(3,SL G0 D0 E0)] a∧St w0 Nil [H] [sla 53 3 G0 D0.length E0 Q0] w∧Rows H Q0 D0) ?_ ?_
 replace u:=u.pk [2,1] rfl
 refine wb<|lp (α:=Nat×(List api_Cell)×Int) (λgh a w=>match gh with | (U0,I0,J1)=>∃ (R0:Option Addr) (F0:Nat) (S0:List Value),(Z6w N (Z6u N) p1) U0 I0 J1=some r∧Fr 60 [(1,PT C2),(3,SL R0 I0 F0),(4,i6 J1)] a∧St w0 Nil [H] [bk C2 [SL P1 p1.Lines Y0,SL Q1 p1.Vols j0,SL n0 p1.Locks J0,SL p0 p1.Threads K0,SL u0 p1.Recover M0,SL B1 p1.Claims O0] 27,sla 53 3 R0 I0.length F0 S0] w∧Rows H S0 I0) (λgh=>gh.1) (N,K3,0) ⟨R2,Y1,T2,hm,o.hs,u,U2⟩ ?_
 rintro ⟨U0,I0,J1⟩ a w ⟨R0,F0,S0,hm,o,u,S1⟩
 obtain _ | U0:=U0
 simp [Z6w] at hm
 rw [Z6w] at hm
 refine th<|th<|rg<|qm o rfl λo=>qv o (Af o Dd rfl) λo=>qv o (Ag o isAgg24 rfl (u.ld.cellB t0 rfl)) λo=>qv o (Ak (α:=api_Thread) (xs:=p1.Threads) o runUnderlying24 rfl) λo=>qv o (Ao o rfl rfl) λo=>re<|?_
 rcases bip hm with ⟨E1,hm⟩ | ⟨E1,hm⟩
 refine tn<|ctv o rfl E1<|wk<|tn<|th<|wb<|?_
 obtain ⟨C0,V0,hm⟩:=bs hm
 obtain ⟨G4,M3,T1⟩:=SR.get P0 V0
 obtain ⟨u3,V3,A4,W3,rfl,B4,C4,D4,E4⟩:=Aw M3
 obtain ⟨O3,P3,hm⟩:=bs hm
 refine rdL (Aa t0 Ah) 17 u wide λw u=>ds 0 (St.ldsX u i2 (Aa t0 Ah)) o rfl (Ab o rfl) λo=>ds 1 (St.ldsX u i2 (Aa t0 Ah)) o rfl (Af o Dd rfl) λo=>dq 2 (St.ldsX u i2 (Aa t0 Ah)) o rfl (λw hl=>Ag o isAgg24 rfl (hl.cellB t0 rfl)) λo=>ds 3 (St.ldsX u i2 (Aa t0 Ah)) o rfl (Ab o rfl) λo=>ds 4 (St.ldsX u i2 (Aa t0 Ah)) o rfl (Am o runUnderlying24 sizeOf48 rfl rfl V0 (SR.oaI P0 (by decide) V0)) λo=>ds 5 (St.ldsX u i2 (Aa t0 Ah)) o rfl (Af o Dv rfl) λo=>dq 6 (St.ldsX u i2 (Aa t0 Ah)) o rfl (λw hl=>Ag o isAgg9 rfl (PH.le.cell (Lds.le hl) (T1 0 _ rfl))) λo=>ds 7 (St.ldsX u i2 (Aa t0 Ah)) o rfl (Af o Dd rfl) λo=>dq 8 (St.ldsX u i2 (Aa t0 Ah)) o rfl (λw hl=>Ag o isAgg24 rfl (hl.cellB t0 rfl)) λo=>ds 9 (St.ldsX u i2 (Aa t0 Ah)) o rfl (Ab o rfl) λo=>ds 10 (St.ldsX u i2 (Aa t0 Ah)) o rfl (Am o runUnderlying24 sizeOf48 rfl rfl V0 (SR.oaI P0 (by decide) V0)) λo=>ds 11 (St.ldsX u i2 (Aa t0 Ah)) o rfl (Af o Ft rfl) λo=>dq 12 (St.ldsX u i2 (Aa t0 Ah)) o rfl (λw hl=>Ag o isAgg3 rfl (PH.le.cell (Lds.le hl) (T1 3 _ rfl))) λo=>dq 13 (St.ldsX u i2 (Aa t0 Ah)) o rfl (λw hl=>Bp [Ac C0.Name,i6 C0.At] [Ac C0.Name,i6 0,i6 C0.At] o ⟨rfl,rfl,trivial⟩ (λw=>by kernel_rfl)) λo=>da1 (i:=14) (by kernel_rfl) ?_
 refine di (i:=14) rfl<|Bh (e:=53) (sz:=3) [Ac C0.Name,i6 0,i6 C0.At] o rfl u rfl rfl rfl (λw=>by kernel_rfl) λI4 w a u o=>?_
 have V2:Rows (α:=api_Cell) H [Ac C0.Name,i6 0,i6 C0.At] ([(api_Cell.mk C0.Name 0 C0.At)]:List api_Cell):=(.cons (c:=[Ac C0.Name,i6 0,i6 C0.At]) ⟨_,_,rfl,rfl,⟨_,_,rfl,rfl,rfl⟩⟩ .nil)
 refine ⟨λ_=>(St.ldsX u i2 (Aa t1 Ah)),?_⟩
 refine da1 (i:=15) (by kernel_rfl) ?_
 refine di (i:=15) rfl<|Bw (α:=api_Cell) (xs:=I0) (ys:=([(api_Cell.mk C0.Name 0 C0.At)]:List api_Cell)) o rfl u underlying23 Gq rfl (by decide) rfl rfl rfl t2 S1 (u.rdO t0) V2 P3 λW2 B2 X2 w a Y2 hU o=>?_
 replace u:=hU _ (.tail (.tail .head))
 replace u:=u.drop .head
 refine ⟨λ_=>(St.ldsX u i2 (Aa t0 Ah)),?_⟩
 refine ds 16 (St.ldsX u i2 (Aa t0 Ah)) o rfl (Bq o rfl) λo=>de (by kernel_rfl)<|bn<|tn<|rg<|qm o rfl λo=>qv o (Ap o rfl rfl) λo=>qa o rfl λo=>re<|tn<|?_
 exact ⟨(U0,O3,(IntKind.i64.wrap (J1+1))),⟨W2,B2,X2,hm,o.hs,u,Y2⟩,Nat.lt_succ_self _⟩
 refine tn<|cfv o rfl E1<|we<|tx<|tx<|bx<|tn<|?_
 replace u:=u.pk [1] rfl
 exact ⟨I0,R0,F0,S0,hm,o.has ⟨rfl,trivial⟩,u,S1⟩
 rintro a w ⟨D0,G0,E0,Q0,hm,o,u,T0⟩
 unfold Z6u at hm
 refine th<|?_
 obtain ⟨U1,Q3,hm⟩:=bs hm
 refine rg<|qm o rfl λo=>ls<|c1 o rfl call66 (Tz (Ai _) (St.capO u t0) (St.srO u t0 T0) Q3) ⟨rfl,trivial⟩ (λv w a hR o=>?_)
 obtain ⟨V1,M1,A3,rfl,F1,hk⟩:=hR
 replace u:=u.fresh hk
 replace F1:=F1 H
 refine qa o rfl λo=>re<|tn<|th<|th<|rg<|qa o rfl λo=>re<|tn<|Av (λa w=>Z6v=some r∧Fr 60 [] a∧St w0 Nil [H] [] w) ?_ ?_
 replace u:=u.pk [1,0] rfl
 refine wb<|lp (α:=Nat×Int) (λgh a w=>match gh with | (W0,O1)=>(Z6x N Z6v D0 U1) W0 O1=some r∧Fr 60 [(3,SL G0 D0 E0),(5,SL V1 U1 M1),(6,i6 O1)] a∧St w0 Nil [H] [sla 53 3 G0 D0.length E0 Q0,sla 9 1 V1 U1.length M1 A3] w) (λgh=>gh.1) (N,0) ⟨hm,o.hs,u⟩ ?_
 rintro ⟨W0,O1⟩ a w ⟨hm,o,u⟩
 obtain _ | W0:=W0
 simp [Z6x] at hm
 rw [Z6x] at hm
 refine th<|th<|rg<|qm o rfl λo=>qm o rfl λo=>qv o (Ak (α:=api_Cell) (xs:=D0) o runUnderlying23 rfl) λo=>qv o (Ao o rfl rfl) λo=>re<|?_
 rcases bip hm with ⟨G1,hm⟩ | ⟨G1,hm⟩
 refine tn<|ctv o rfl G1<|wk<|tn<|th<|wb<|th<|?_
 obtain ⟨J4,X0,hm⟩:=bs hm
 have B3:=Rd.oaI (u.rdO t0) T0 (by decide) X0
 obtain ⟨K4,R3,X1⟩:=Rows.getI T0 X0
 obtain rfl:=Bj R3
 obtain ⟨L4,S3,hm⟩:=bs hm
 refine rg<|qm o rfl λo=>?_
 iterate 2 refine qm o rfl λo=>?_
 refine qv o (Am o runUnderlying23 sizeOf53 rfl rfl X0 B3) λo=>qv o (Af o Dq rfl) λo=>qv o (Ag o isAgg9 rfl (u.ld.elO2 t0 (X1 0 _ rfl))) λo=>ls<|cr o call33 (He (Ai _) (St.capO u t1) (St.srO u t1 F1) S3) u λu o=>qm o rfl λo=>qv o (Ao o rfl rfl) λo=>re<|?_
 rcases bip hm with ⟨I1,hm⟩ | ⟨I1,hm⟩
 refine tn<|ctv o rfl I1<|th<|?_
 have C3:=Rd.oaI (u.rdO t0) T0 (by decide) X0
 refine rg<|qm o rfl λo=>qm o rfl λo=>qv o (Am o runUnderlying23 sizeOf53 rfl rfl X0 C3) λo=>qv o (Af o Jm rfl) λo=>qv o (Ag o isAgg3 rfl (u.ld.elO2 t0 (X1 2 _ rfl))) λo=>qa o rfl λo=>re<|tn<|wr<|br<|tr<|tr<|br<|tr<|?_
 obtain rfl:=si hm
 exact r1 o results61 rfl ⟨rfl,u.keep⟩
 refine tn<|cfv o rfl I1<|wk<|bn<|tn<|rg<|qm o rfl λo=>qv o (Ap o rfl rfl) λo=>qa o rfl λo=>re<|tn<|?_
 exact ⟨(W0,(IntKind.i64.wrap (O1+1))),⟨hm,o.hs,u⟩,Nat.lt_succ_self _⟩
 refine tn<|cfv o rfl G1<|we<|tx<|tx<|bx<|tn<|?_
 replace u:=u.pickL .nil
 exact ⟨hm,o.has trivial,u⟩
 rintro a w ⟨hm,o,u⟩
 unfold Z6v at hm
 refine th<|rg<|qa o rfl λo=>re<|tn<|wr<|?_
 obtain rfl:=si hm
 exact r1 o results61 rfl ⟨rfl,u.keep⟩
theorem Ru (hH:H.le w0) {cs2:List Value} {p1:api_Prog} (g3:Enc.rep H cs2 p1) {r:(List Str)} (hm:Z5n N p1=some r):Tot Tryz.prog 22 #[.agg cs2.toArray] w0 (λv w'=>∃ (S0:Option Addr) (J0:Nat) (T0:List Value),v=SL S0 r J0∧(∀ h,Rows h T0 r)∧Fresh w0 (sla 9 1 S0 r.length J0 T0) w'):=by
 unfold Z5n at hm
 refine fn0 func22 rfl ntmps22 rfl rfl λa o=>?_
 have u:St w0 Nil [H] [] w0:=start1 hH
 obtain ⟨U0,K0,V0,M0,O0,E0,P0,F0,Q0,G0,R0,I0,rfl,F1,G1,W0,X0,Y0,j0,n0,p0,u0,B1,C1,E1⟩:=Aq g3
 refine th<|rg<|ls<|Br (cs:=[SL U0 p1.Lines K0,SL V0 p1.Vols M0,SL O0 p1.Locks E0,SL P0 p1.Threads F0,SL Q0 p1.Recover G0,SL R0 p1.Claims I0].toArray) o rfl u rfl rfl λT1 w a u o=>qa o rfl λo=>re<|tn<|th<|?_
 obtain ⟨U1,I1,hm⟩:=bs hm
 obtain ⟨V1,J1,hm⟩:=bs hm
 refine rg<|qv o (Ay o Tryz.isAgg27 Tryz.sizeOf27 rfl rfl (u.ld.cellsB t0)) λo=>ls<|c1 o rfl call67 (Ub (Ai _) (Enc.mono (St.up u) (show Enc.rep (α:=api_Prog) H [SL U0 p1.Lines K0,SL V0 p1.Vols M0,SL O0 p1.Locks E0,SL P0 p1.Threads F0,SL Q0 p1.Recover G0,SL R0 p1.Claims I0] p1 from ⟨_,_,rfl,⟨_,_,rfl,F1,G1⟩,⟨_,_,rfl,⟨_,_,rfl,W0,X0⟩,⟨_,_,rfl,⟨_,_,rfl,Y0,j0⟩,⟨_,_,rfl,⟨_,_,rfl,n0,p0⟩,⟨_,_,rfl,⟨_,_,rfl,u0,B1⟩,⟨_,_,rfl,C1,E1⟩⟩⟩⟩⟩⟩)) I1) ⟨rfl,trivial⟩ (λv w a hR o=>?_)
 obtain ⟨P1,M1,Q1,rfl,C0,hk⟩:=hR
 replace u:=u.fresh hk
 replace C0:=C0 H
 refine ls<|c1 o rfl call66 (Tz (Ai _) (St.capO u t0) (St.srO u t0 C0) J1) ⟨rfl,trivial⟩ (λv w a hR o=>?_)
 obtain ⟨R1,O1,S1,rfl,D0,hk⟩:=hR
 replace u:=u.fresh hk
 replace D0:=D0 H
 refine qa o rfl λo=>re<|tn<|wr<|?_
 obtain rfl:=si hm
 exact r1 o results22 rfl ⟨_,_,_,rfl,(λ_=>Rows.ind D0),u.endFresh t0⟩
theorem Yj (hH:H.le w0) {cs2:List Value} {p1:api_Prog} (g3:Enc.rep H cs2 p1) {r:(List Str)} (hm:Z65 N p1=some r):Tot Tryz.prog 28 #[.agg cs2.toArray] w0 (λv w'=>∃ (J0:Option Addr) (D0:Nat) (K0:List Value),v=SL J0 r D0∧(∀ h,Rows h K0 r)∧Fresh w0 (sla 9 1 J0 r.length D0 K0) w'):=by
 unfold Z65 at hm
 refine fn0 func28 rfl ntmps28 rfl rfl λa o=>?_
 have u:St w0 Nil [H] [] w0:=start1 hH
 obtain ⟨V0,M0,W0,O0,P0,E0,Q0,F0,R0,G0,S0,I0,rfl,J1,M1,j0,n0,T0,U0,p0,u0,B1,C1,E1,F1⟩:=Aq g3
 refine th<|rg<|ls<|Br (cs:=[SL V0 p1.Lines M0,SL W0 p1.Vols O0,SL P0 p1.Locks E0,SL Q0 p1.Threads F0,SL R0 p1.Recover G0,SL S0 p1.Claims I0].toArray) o rfl u rfl rfl λO1 w a u o=>qa o rfl λo=>re<|tn<|th<|?_
 obtain ⟨P1,X0,hm⟩:=bs hm
 refine rg<|qv o (Af o Ed rfl) λo=>qv o (Ag o isAgg23 rfl (u.ld.cellB t0 rfl)) λo=>ls<|c1 o rfl call66 (Tz (Ai _) T0 (St.srH u U0) X0) ⟨rfl,trivial⟩ (λv w a hR o=>?_)
 obtain ⟨G1,Y0,I1,rfl,C0,hk⟩:=hR
 replace u:=u.fresh hk
 replace C0:=C0 H
 refine qa o rfl λo=>re<|tn<|wr<|?_
 obtain rfl:=si hm
 exact r1 o results28 rfl ⟨_,_,_,rfl,(λ_=>Rows.ind C0),u.endFresh t0⟩
theorem Xs (hH:H.le w0) {cs2:List Value} {p1:api_Prog} (g3:Enc.rep H cs2 p1) {r:Int} (hm:Z6c N p1=some r):Tot Tryz.prog 24 #[.agg cs2.toArray] w0 (λv w'=>v=i6 r∧Keep Nil w0 w'):=by
 unfold Z6c at hm
 refine fn0 func24 rfl ntmps24 rfl rfl λa o=>?_
 have u:St w0 Nil [H] [] w0:=start1 hH
 obtain ⟨Q0,G0,R0,I0,J0,C0,K0,D0,M0,E0,O0,F0,rfl,u0,B1,S0,T0,U0,V0,W0,X0,Y0,j0,n0,p0⟩:=Aq g3
 refine th<|rg<|ls<|Br (cs:=[SL Q0 p1.Lines G0,SL R0 p1.Vols I0,SL J0 p1.Locks C0,SL K0 p1.Threads D0,SL M0 p1.Recover E0,SL O0 p1.Claims F0].toArray) o rfl u rfl rfl λJ1 w a u o=>qa o rfl λo=>re<|tn<|th<|?_
 obtain ⟨C1,E1,hm⟩:=bs hm
 refine rdS 8 u wide λw u=>dq 0 u.ld o rfl (λw hl=>Ay o isAgg27 sizeOf27 rfl rfl (hl.cellsB t0)) λo=>dr 3 u o rfl (Af o Ea rfl) λo=>dq 4 u.ld o rfl (λw hl=>Ag o isAgg23 rfl (hl.cellB t0 rfl)) λo=>dr 5 u o rfl (Ak (α:=api_Cell) (xs:=p1.Vols) o runUnderlying23 rfl) λo=>da1 (i:=1) (by kernel_rfl) ?_
 refine di (i:=1) rfl<|c1 o rfl call67 (Ub (Ai _) (Enc.mono (St.up u) (show Enc.rep (α:=api_Prog) H [SL Q0 p1.Lines G0,SL R0 p1.Vols I0,SL J0 p1.Locks C0,SL K0 p1.Threads D0,SL M0 p1.Recover E0,SL O0 p1.Claims F0] p1 from ⟨_,_,rfl,⟨_,_,rfl,u0,B1⟩,⟨_,_,rfl,⟨_,_,rfl,S0,T0⟩,⟨_,_,rfl,⟨_,_,rfl,U0,V0⟩,⟨_,_,rfl,⟨_,_,rfl,W0,X0⟩,⟨_,_,rfl,⟨_,_,rfl,Y0,j0⟩,⟨_,_,rfl,n0,p0⟩⟩⟩⟩⟩⟩)) E1) ⟨rfl,trivial⟩ (λv w a hR o=>?_)
 obtain ⟨G1,F1,I1,rfl,P0,hk⟩:=hR
 replace u:=u.fresh hk
 replace P0:=P0 H
 refine ⟨λ_=>(St.ldsX u i2 ta1),?_⟩
 refine ds 2 (St.ldsX u i2 ta1) o rfl (Ak (α:=api_Cell) (xs:=C1) o runUnderlying23 rfl) λo=>ds 6 (St.ldsX u i2 ta1) o rfl (Gs o rfl rfl) λo=>ds 7 (St.ldsX u i2 ta1) o rfl (Bq o rfl) λo=>de (by kernel_rfl)<|tn<|wr<|?_
 obtain rfl:=si hm
 exact r1 o results24 rfl ⟨rfl,u.keep⟩
theorem Vf (hH:H.le w0) {O0:Option Addr} {G0:Nat} {p1:(List api_Node)} (Y0:p1.length≤G0) (D0:SR H O0 p1) {oa7:Option Addr} {cap8:Nat} {p6:(List Str)} (T0:p6.length≤cap8) (R0:SR H oa7 p6) {r:Int} (hm:Z6y N p1 p6=some r):Tot Tryz.prog 63 #[SL O0 p1 G0,SL oa7 p6 cap8] w0 (λv w'=>v=i6 r∧Keep Nil w0 w'):=by
 unfold Z6y at hm
 refine fn0 func63 rfl ntmps63 rfl rfl λa o=>?_
 have u:St w0 Nil [H] [] w0:=start1 hH
 refine th<|rg<|qa o rfl λo=>re<|tn<|th<|th<|rg<|qa o rfl λo=>re<|tn<|Av (λa w=>Z6z=some r∧Fr 33 [] a∧St w0 Nil [H] [] w) ?_ ?_
 refine wb<|lp (α:=Nat×Int) (λgh a w=>match gh with | (E0,F0)=>(Z71 N Z6z p1 p6) E0 F0=some r∧Fr 33 [(0,SL O0 p1 G0),(1,SL oa7 p6 cap8),(5,i6 F0)] a∧St w0 Nil [H] [] w) (λgh=>gh.1) (N,0) ⟨hm,o.hs,u⟩ ?_
 rintro ⟨E0,F0⟩ a w ⟨hm,o,u⟩
 obtain _ | E0:=E0
 simp [Z71] at hm
 rw [Z71] at hm
 refine th<|th<|rg<|qm o rfl λo=>qm o rfl λo=>qv o (Ak (α:=api_Node) (xs:=p1) o runUnderlying49 rfl) λo=>qv o (Ao o rfl rfl) λo=>re<|?_
 rcases bip hm with ⟨I0,hm⟩ | ⟨I0,hm⟩
 refine tn<|ctv o rfl I0<|wk<|tn<|th<|wb<|th<|Av (λa w=>∃ (P0:Bool),(Z70 (Z71 N Z6z p1 p6 E0) p1 F0) P0=some r∧Fr 33 [(0,SL O0 p1 G0),(1,SL oa7 p6 cap8),(5,i6 F0),(27,.bool P0)] a∧St w0 Nil [H] [] w) ?_ ?_
 obtain ⟨j0,C0,hm⟩:=bs hm
 obtain ⟨n0,U0,J0⟩:=SR.get D0 C0
 obtain rfl:=Bn U0
 rcases bip hm with ⟨K0,hm⟩ | ⟨K0,hm⟩
 obtain ⟨V0,W0,hm⟩:=bs hm
 refine rg<|qm o rfl λo=>qm o rfl λo=>qv o (Am o runUnderlying49 sizeOf90 rfl rfl C0 (SR.oaI D0 (by decide) C0)) λo=>qv o (Af o Cm rfl) λo=>qv o (Ag o isAgg3 rfl (PH.le.cell (Lds.le u.ld) (J0 0 _ rfl))) λo=>qv o (An o rfl rfl) λo=>qv o (Ar (Ab o rfl) (congrArg Value.bool K0)) λo=>?_
 iterate 3 refine qg o (Ab o rfl) λo=>?_
 refine qg o (Am o runUnderlying49 sizeOf90 rfl rfl C0 (SR.oaI D0 (by decide) C0)) λo=>qg o (Af o Ek rfl) λo=>qg o (Ag o isAgg9 rfl (PH.le.cell (Lds.le u.ld) (J0 2 _ rfl))) λo=>ls<|gy o rfl rfl<|cr o call33 (He (Ai _) T0 (St.srH u R0) W0) u λu o=>qg o (Ao o rfl rfl) λo=>qv o (Ad o rfl rfl) λo=>re<|tn<|?_
 exact ⟨(decide (V0 < 0)),hm,o.hs,u⟩
 refine rg<|qm o rfl λo=>qm o rfl λo=>qv o (Am o runUnderlying49 sizeOf90 rfl rfl C0 (SR.oaI D0 (by decide) C0)) λo=>qv o (Af o Cm rfl) λo=>qv o (Ag o isAgg3 rfl (PH.le.cell (Lds.le u.ld) (J0 0 _ rfl))) λo=>qv o (An o rfl rfl) λo=>qv o (Ar (Ab o rfl) (congrArg Value.bool K0)) λo=>?_
 iterate 8 refine qn o λo=>?_
 refine qv o (Ae o rfl rfl) λo=>re<|tn<|?_
 exact ⟨false,hm,o.hs,u⟩
 rintro a w ⟨P0,hm,o,u⟩
 unfold Z70 at hm
 rcases bit hm with ⟨M0,hm⟩ | ⟨M0,hm⟩
 refine ctv o rfl M0<|th<|?_
 obtain ⟨p0,Q0,hm⟩:=bs hm
 obtain ⟨u0,X0,S0⟩:=SR.get D0 Q0
 obtain rfl:=Bn X0
 refine rg<|qm o rfl λo=>qm o rfl λo=>qv o (Am o runUnderlying49 sizeOf90 rfl rfl Q0 (SR.oaI D0 (by decide) Q0)) λo=>qv o (Af o Fg rfl) λo=>qv o (Ag o isAgg3 rfl (PH.le.cell (Lds.le u.ld) (S0 3 _ rfl))) λo=>qa o rfl λo=>re<|tn<|wr<|br<|tr<|tr<|br<|tr<|?_
 obtain rfl:=si hm
 exact r1 o results63 rfl ⟨rfl,u.keep⟩
 refine cfv o rfl M0<|wk<|bn<|tn<|rg<|qm o rfl λo=>qv o (Ap o rfl rfl) λo=>qa o rfl λo=>re<|tn<|?_
 exact ⟨(E0,(IntKind.i64.wrap (F0+1))),⟨hm,o.hs,u⟩,Nat.lt_succ_self _⟩
 refine tn<|cfv o rfl I0<|we<|tx<|tx<|bx<|tn<|?_
 exact ⟨hm,o.has trivial,u⟩
 rintro a w ⟨hm,o,u⟩
 unfold Z6z at hm
 refine th<|rg<|qa o rfl λo=>re<|tn<|wr<|?_
 obtain rfl:=si hm
 exact r1 o results63 rfl ⟨rfl,u.keep⟩
set_option maxHeartbeats 4000000 in
theorem JbI (hH:H.le w0) {cs2:List Value} {p1:api_Prog} (g3:Enc.rep H cs2 p1) {cs5:List Value} {p4:api_Thread} (g6:Enc.rep H cs5 p4) {cs8:List Value} {p7:api_Stmt} (g9:Enc.rep H cs8 p7) {r:Int} (hm:Z6m N p1 p4 p7=some r):Tot Tryz.prog 62 #[.agg cs2.toArray,.agg cs5.toArray,.agg cs8.toArray] w0 (λv w'=>v=i6 r∧Keep Nil w0 w'):=by
 unfold Z6m at hm
 refine fn0 func62 rfl ntmps62 rfl rfl λa o=>?_
 have u:St w0 Nil [H] [] w0:=start1 hH
 obtain ⟨R0,C0,S0,D0,T0,E0,U0,F0,V0,G0,W0,I0,rfl,B1,C1,E1,F1,G1,I1,J1,M1,O1,P1,Q1,R1⟩:=Aq g3
 obtain ⟨X0,J0,Y0,K0,rfl,S1,T1,Q3,R3⟩:=Aw g6
 obtain ⟨j0,M0,n0,O0,rfl,X2,Y2,A3,B3⟩:=Bm g9
 refine th<|rg<|ls<|Br (cs:=[SL R0 p1.Lines C0,SL S0 p1.Vols D0,SL T0 p1.Locks E0,SL U0 p1.Threads F0,SL V0 p1.Recover G0,SL W0 p1.Claims I0].toArray) o rfl u rfl rfl λp0 w a u o=>ls<|Br (cs:=[Ac p4.Name,SL X0 p4.Regs J0,SL Y0 p4.Body K0,i6 p4.At].toArray) o rfl u rfl rfl λP0 w a u o=>ls<|Br (cs:=[i6 p7.Kind,Ac p7.Reg,Ac p7.Name,SL j0 p7.E M0,SL n0 p7.F O0,i6 p7.N,i6 p7.Body,i6 p7.Else,i6 p7.At].toArray) o rfl u rfl rfl λQ0 w a u o=>qa o rfl λo=>re<|tn<|th<|th<|Av (λa w=>∃ (R2:Bool),(Z6n N p1 p4 p7) R2=some r∧Fr 74 [(3,PT p0),(4,PT P0),(5,PT Q0),(19,.bool R2)] a∧St w0 Nil [H] [bk p0 [SL R0 p1.Lines C0,SL S0 p1.Vols D0,SL T0 p1.Locks E0,SL U0 p1.Threads F0,SL V0 p1.Recover G0,SL W0 p1.Claims I0] 27,bk P0 [Ac p4.Name,SL X0 p4.Regs J0,SL Y0 p4.Body K0,i6 p4.At] 48,bk Q0 [i6 p7.Kind,Ac p7.Reg,Ac p7.Name,SL j0 p7.E M0,SL n0 p7.F O0,i6 p7.N,i6 p7.Body,i6 p7.Else,i6 p7.At] 51] w) ?_ ?_
 rcases bip hm with ⟨U1,hm⟩ | ⟨U1,hm⟩
 obtain ⟨C3,D3,hm⟩:=bs hm
 refine rg<|qv o (Af o Cn rfl) λo=>qv o (Ag o isAgg9 rfl (u.ld.cellB t0 rfl)) λo=>qv o (Cx (m:=p7.Reg) (n:=[]) o rfl rfl) λo=>qv o (Ar (Ab o rfl) (congrArg Value.bool U1)) λo=>qg o (Af o Ci rfl) λo=>qg o (Ag o isAgg36 rfl (u.ld.cellB t1 rfl)) λo=>qg o (Af o Cn rfl) λo=>qg o (Ag o isAgg9 rfl (u.ld.cellB t0 rfl)) λo=>ls<|gy o rfl rfl<|cr o call33 (He (Ai _) S1 (St.srH u T1) D3) u λu o=>qg o (Ao o rfl rfl) λo=>qv o (Ad o rfl rfl) λo=>re<|tn<|?_
 replace u:=u.pk [2,1,0] rfl
 exact ⟨(decide (C3 < 0)),hm,o.hs,u⟩
 refine rg<|qv o (Af o Cn rfl) λo=>qv o (Ag o isAgg9 rfl (u.ld.cellB t0 rfl)) λo=>qv o (Cx (m:=p7.Reg) (n:=[]) o rfl rfl) λo=>qv o (Ar (Ab o rfl) (congrArg Value.bool U1)) λo=>?_
 iterate 6 refine qn o λo=>?_
 refine qv o (Ae o rfl rfl) λo=>re<|tn<|?_
 replace u:=u.pk [2,1,0] rfl
 exact ⟨false,hm,o.hs,u⟩
 rintro a w ⟨R2,hm,o,u⟩
 unfold Z6n at hm
 rcases bit hm with ⟨V1,hm⟩ | ⟨V1,hm⟩
 refine ctv o rfl V1<|th<|rg<|qv o (Af o Es rfl) λo=>qv o (Ag o isAgg3 rfl (u.ld.cellB t2 rfl)) λo=>qa o rfl λo=>re<|tn<|wr<|tr<|?_
 obtain rfl:=si hm
 exact r1 o results62 rfl ⟨rfl,u.keep⟩
 refine cfv o rfl V1<|wk<|tn<|th<|?_
 obtain ⟨W3,E3,hm⟩:=bs hm
 obtain ⟨u0,F3,hm⟩:=bs hm
 refine rdS 6 u wide λw u=>dq 0 u.ld o rfl (λw hl=>Ay o isAgg27 sizeOf27 rfl rfl (hl.cellsB t0)) λo=>dr 2 u o rfl (Af o Db rfl) λo=>dq 3 u.ld o rfl (λw hl=>Ag o isAgg9 rfl (hl.cellB t2 rfl)) λo=>da1 (i:=1) (by kernel_rfl) ?_
 refine di (i:=1) rfl<|c1 o rfl call22 (Ru (Ai _) (Enc.mono (St.up u) (show Enc.rep (α:=api_Prog) H [SL R0 p1.Lines C0,SL S0 p1.Vols D0,SL T0 p1.Locks E0,SL U0 p1.Threads F0,SL V0 p1.Recover G0,SL W0 p1.Claims I0] p1 from ⟨_,_,rfl,⟨_,_,rfl,B1,C1⟩,⟨_,_,rfl,⟨_,_,rfl,E1,F1⟩,⟨_,_,rfl,⟨_,_,rfl,G1,I1⟩,⟨_,_,rfl,⟨_,_,rfl,J1,M1⟩,⟨_,_,rfl,⟨_,_,rfl,O1,P1⟩,⟨_,_,rfl,Q1,R1⟩⟩⟩⟩⟩⟩)) E3) ⟨rfl,trivial⟩ (λv w a hR o=>?_)
 obtain ⟨S3,O3,T3,rfl,X1,hk⟩:=hR
 replace u:=u.fresh hk
 replace X1:=X1 H
 refine ⟨λ_=>(St.ldsX u i2 ta1),?_⟩
 refine da1 (i:=4) (by kernel_rfl) ?_
 refine di (i:=4) rfl<|cr o call33 (He (Ai _) (St.capO u t0) (St.srO u t0 X1) F3) u λu o=>⟨λ_=>(St.ldsX u i2 ta1),?_⟩
 refine ds 5 (St.ldsX u i2 ta1) o rfl (Bq o rfl) λo=>de (by kernel_rfl)<|tn<|th<|th<|rg<|qv o (Af o Cj rfl) λo=>qv o (Ag o isAgg3 rfl (u.ld.cellB t3 rfl)) λo=>re<|tn<|Av (λa w=>(Z6o N p4 p7)=some r∧Fr 74 [(4,PT P0),(5,PT Q0)] a∧St w0 Nil [H] [bk P0 [Ac p4.Name,SL X0 p4.Regs J0,SL Y0 p4.Body K0,i6 p4.At] 48,bk Q0 [i6 p7.Kind,Ac p7.Reg,Ac p7.Name,SL j0 p7.E M0,SL n0 p7.F O0,i6 p7.N,i6 p7.Body,i6 p7.Else,i6 p7.At] 51] w) ?_ ?_
 refine wb<|th<|th<|rg<|qv o (An o rfl rfl) λo=>qa o rfl λo=>re<|tn<|Av (λa w=>∃ (T2:Bool),(Z6p N (Z6o N p4 p7) p1 p7 u0) T2=some r∧Fr 74 [(3,PT p0),(4,PT P0),(5,PT Q0),(7,i6 u0),(28,i6 p7.Kind),(29,.bool T2)] a∧St w0 Nil [H] [bk p0 [SL R0 p1.Lines C0,SL S0 p1.Vols D0,SL T0 p1.Locks E0,SL U0 p1.Threads F0,SL V0 p1.Recover G0,SL W0 p1.Claims I0] 27,bk P0 [Ac p4.Name,SL X0 p4.Regs J0,SL Y0 p4.Body K0,i6 p4.At] 48,bk Q0 [i6 p7.Kind,Ac p7.Reg,Ac p7.Name,SL j0 p7.E M0,SL n0 p7.F O0,i6 p7.N,i6 p7.Body,i6 p7.Else,i6 p7.At] 51] w) ?_ ?_
 rcases bip hm with ⟨Y1,hm⟩ | ⟨Y1,hm⟩
 refine ctv o rfl Y1<|wk<|tn<|?_
 replace u:=u.pk [1,1,1] rfl
 exact ⟨(decide (p7.Kind=2)),hm,o.hs,u⟩
 refine cfv o rfl Y1<|th<|rg<|qv o (An o rfl rfl) λo=>qa o rfl λo=>re<|?_
 rcases bip hm with ⟨B2,hm⟩ | ⟨B2,hm⟩
 refine tn<|ctv o rfl B2<|wk<|tn<|?_
 replace u:=u.pk [1,1,1] rfl
 exact ⟨(decide (p7.Kind=3)),hm,o.hs,u⟩
 refine tn<|cfv o rfl B2<|rg<|qv o (An o rfl rfl) λo=>qa o rfl λo=>re<|tn<|?_
 replace u:=u.pk [1,1,1] rfl
 exact ⟨(decide (p7.Kind=4)),hm,o.hs,u⟩
 rintro a w ⟨T2,hm,o,u⟩
 unfold Z6p at hm
 rcases bit hm with ⟨C2,hm⟩ | ⟨C2,hm⟩
 refine ctv o rfl C2<|th<|rg<|qm o rfl λo=>qv o (Ao o rfl rfl) λo=>re<|?_
 rcases bip hm with ⟨E2,hm⟩ | ⟨E2,hm⟩
 refine tn<|ctv o rfl E2<|th<|rg<|qv o (Af o Es rfl) λo=>qv o (Ag o isAgg3 rfl (u.ld.cellB t2 rfl)) λo=>qa o rfl λo=>re<|tn<|wr<|br<|tr<|?_
 obtain rfl:=si hm
 exact r1 o results62 rfl ⟨rfl,u.keep⟩
 refine tn<|cfv o rfl E2<|wk<|bn<|tn<|?_
 replace u:=u.pk [1,1] rfl
 exact ⟨hm,o.has ⟨rfl,rfl,trivial⟩,u⟩
 refine cfv o rfl C2<|th<|th<|rg<|qv o (An o rfl rfl) λo=>qa o rfl λo=>re<|tn<|Av (λa w=>∃ (U2:Bool),(Z6q N (Z6o N p4 p7) p1 p7 u0) U2=some r∧Fr 74 [(3,PT p0),(4,PT P0),(5,PT Q0),(7,i6 u0),(28,i6 p7.Kind),(37,.bool U2)] a∧St w0 Nil [H] [bk p0 [SL R0 p1.Lines C0,SL S0 p1.Vols D0,SL T0 p1.Locks E0,SL U0 p1.Threads F0,SL V0 p1.Recover G0,SL W0 p1.Claims I0] 27,bk P0 [Ac p4.Name,SL X0 p4.Regs J0,SL Y0 p4.Body K0,i6 p4.At] 48,bk Q0 [i6 p7.Kind,Ac p7.Reg,Ac p7.Name,SL j0 p7.E M0,SL n0 p7.F O0,i6 p7.N,i6 p7.Body,i6 p7.Else,i6 p7.At] 51] w) ?_ ?_
 rcases bip hm with ⟨F2,hm⟩ | ⟨F2,hm⟩
 refine ctv o rfl F2<|wk<|tn<|?_
 exact ⟨(decide (p7.Kind=5)),hm,o.hs,u⟩
 refine cfv o rfl F2<|rg<|qv o (An o rfl rfl) λo=>qa o rfl λo=>re<|tn<|?_
 exact ⟨(decide (p7.Kind=6)),hm,o.hs,u⟩
 rintro a w ⟨U2,hm,o,u⟩
 unfold Z6q at hm
 rcases bit hm with ⟨G2,hm⟩ | ⟨G2,hm⟩
 refine ctv o rfl G2<|th<|Av (λa w=>∃ (V2:Bool),(Z6r (Z6o N p4 p7) p7) V2=some r∧Fr 74 [(4,PT P0),(5,PT Q0),(47,.bool V2)] a∧St w0 Nil [H] [bk P0 [Ac p4.Name,SL X0 p4.Regs J0,SL Y0 p4.Body K0,i6 p4.At] 48,bk Q0 [i6 p7.Kind,Ac p7.Reg,Ac p7.Name,SL j0 p7.E M0,SL n0 p7.F O0,i6 p7.N,i6 p7.Body,i6 p7.Else,i6 p7.At] 51] w) ?_ ?_
 rcases bip hm with ⟨I2,hm⟩ | ⟨I2,hm⟩
 refine rg<|qm o rfl λo=>qv o (Ao o rfl rfl) λo=>qv o (Ar (Ab o rfl) (congrArg Value.bool I2)) λo=>?_
 iterate 4 refine qn o λo=>?_
 refine qv o (Ad o rfl rfl) λo=>re<|tn<|?_
 replace u:=u.pk [1,1] rfl
 exact ⟨true,hm,o.hs,u⟩
 obtain ⟨G3,I3,hm⟩:=bs hm
 refine rg<|qm o rfl λo=>qv o (Ao o rfl rfl) λo=>qv o (Ar (Ab o rfl) (congrArg Value.bool I2)) λo=>qg o (Ab o rfl) λo=>qg o (Ay o isAgg27 sizeOf27 rfl rfl (u.ld.cellsB t0)) λo=>ls<|gy o rfl rfl<|cr o call24 (Xs (Ai _) (Enc.mono (St.up u) (show Enc.rep (α:=api_Prog) H [SL R0 p1.Lines C0,SL S0 p1.Vols D0,SL T0 p1.Locks E0,SL U0 p1.Threads F0,SL V0 p1.Recover G0,SL W0 p1.Claims I0] p1 from ⟨_,_,rfl,⟨_,_,rfl,B1,C1⟩,⟨_,_,rfl,⟨_,_,rfl,E1,F1⟩,⟨_,_,rfl,⟨_,_,rfl,G1,I1⟩,⟨_,_,rfl,⟨_,_,rfl,J1,M1⟩,⟨_,_,rfl,⟨_,_,rfl,O1,P1⟩,⟨_,_,rfl,Q1,R1⟩⟩⟩⟩⟩⟩)) I3) u λu o=>qg o (Bl o rfl rfl) λo=>qv o (Ae o rfl rfl) λo=>re<|tn<|?_
 replace u:=u.pk [1,1] rfl
 exact ⟨(decide (G3≤u0)),hm,o.hs,u⟩
 rintro a w ⟨V2,hm,o,u⟩
 unfold Z6r at hm
 rcases bit hm with ⟨J2,hm⟩ | ⟨J2,hm⟩
 refine ctv o rfl J2<|th<|rg<|qv o (Af o Es rfl) λo=>qv o (Ag o isAgg3 rfl (u.ld.cellB t1 rfl)) λo=>qa o rfl λo=>re<|tn<|wr<|br<|tr<|?_
 obtain rfl:=si hm
 exact r1 o results62 rfl ⟨rfl,u.keep⟩
 refine cfv o rfl J2<|wk<|bn<|tn<|?_
 exact ⟨hm,o.has ⟨rfl,rfl,trivial⟩,u⟩
 refine cfv o rfl G2<|th<|th<|rg<|qv o (An o rfl rfl) λo=>qa o rfl λo=>re<|tn<|Av (λa w=>∃ (W2:Bool),(Z6s N (Z6o N p4 p7) p1 p7) W2=some r∧Fr 74 [(3,PT p0),(4,PT P0),(5,PT Q0),(50,.bool W2)] a∧St w0 Nil [H] [bk p0 [SL R0 p1.Lines C0,SL S0 p1.Vols D0,SL T0 p1.Locks E0,SL U0 p1.Threads F0,SL V0 p1.Recover G0,SL W0 p1.Claims I0] 27,bk P0 [Ac p4.Name,SL X0 p4.Regs J0,SL Y0 p4.Body K0,i6 p4.At] 48,bk Q0 [i6 p7.Kind,Ac p7.Reg,Ac p7.Name,SL j0 p7.E M0,SL n0 p7.F O0,i6 p7.N,i6 p7.Body,i6 p7.Else,i6 p7.At] 51] w) ?_ ?_
 rcases bip hm with ⟨K2,hm⟩ | ⟨K2,hm⟩
 refine ctv o rfl K2<|wk<|tn<|?_
 exact ⟨(decide (p7.Kind=9)),hm,o.hs,u⟩
 refine cfv o rfl K2<|rg<|qv o (An o rfl rfl) λo=>qa o rfl λo=>re<|tn<|?_
 exact ⟨(decide (p7.Kind=10)),hm,o.hs,u⟩
 rintro a w ⟨W2,hm,o,u⟩
 unfold Z6s at hm
 rcases bit hm with ⟨M2,hm⟩ | ⟨M2,hm⟩
 refine ctv o rfl M2<|th<|?_
 obtain ⟨X3,J3,hm⟩:=bs hm
 obtain ⟨Y3,K3,hm⟩:=bs hm
 refine rdS 6 u wide λw u=>dq 0 u.ld o rfl (λw hl=>Ay o isAgg27 sizeOf27 rfl rfl (hl.cellsB t0)) λo=>dr 2 u o rfl (Af o Db rfl) λo=>dq 3 u.ld o rfl (λw hl=>Ag o isAgg9 rfl (hl.cellB t2 rfl)) λo=>da1 (i:=1) (by kernel_rfl) ?_
 refine di (i:=1) rfl<|c1 o rfl call28 (Yj (Ai _) (Enc.mono (St.up u) (show Enc.rep (α:=api_Prog) H [SL R0 p1.Lines C0,SL S0 p1.Vols D0,SL T0 p1.Locks E0,SL U0 p1.Threads F0,SL V0 p1.Recover G0,SL W0 p1.Claims I0] p1 from ⟨_,_,rfl,⟨_,_,rfl,B1,C1⟩,⟨_,_,rfl,⟨_,_,rfl,E1,F1⟩,⟨_,_,rfl,⟨_,_,rfl,G1,I1⟩,⟨_,_,rfl,⟨_,_,rfl,J1,M1⟩,⟨_,_,rfl,⟨_,_,rfl,O1,P1⟩,⟨_,_,rfl,Q1,R1⟩⟩⟩⟩⟩⟩)) J3) ⟨rfl,trivial⟩ (λv w a hR o=>?_)
 obtain ⟨U3,P3,V3,rfl,O2,hk⟩:=hR
 replace u:=u.fresh hk
 replace O2:=O2 H
 refine ⟨λ_=>(St.ldsX u i2 ta1),?_⟩
 refine da1 (i:=4) (by kernel_rfl) ?_
 refine di (i:=4) rfl<|cr o call33 (He (Ai _) (St.capO u t0) (St.srO u t0 O2) K3) u λu o=>⟨λ_=>(St.ldsX u i2 ta1),?_⟩
 refine ds 5 (St.ldsX u i2 ta1) o rfl (Ao o rfl rfl) λo=>de (by kernel_rfl)<|?_
 rcases bip hm with ⟨P2,hm⟩ | ⟨P2,hm⟩
 refine tn<|ctv o rfl P2<|th<|rg<|qv o (Af o Es rfl) λo=>qv o (Ag o isAgg3 rfl (u.ld.cellB t3 rfl)) λo=>qa o rfl λo=>re<|tn<|wr<|br<|tr<|?_
 obtain rfl:=si hm
 exact r1 o results62 rfl ⟨rfl,u.keep⟩
 refine tn<|cfv o rfl P2<|wk<|bn<|tn<|?_
 replace u:=u.pk [2,2] rfl
 exact ⟨hm,o.has ⟨rfl,rfl,trivial⟩,u⟩
 refine cfv o rfl M2<|wk<|bn<|tn<|?_
 replace u:=u.pk [1,1] rfl
 exact ⟨hm,o.has ⟨rfl,rfl,trivial⟩,u⟩
 rintro a w ⟨hm,o,u⟩
 unfold Z6o at hm
 refine th<|?_
 obtain ⟨l3,L3,hm⟩:=bs hm
 refine rg<|qv o (Af o Dp rfl) λo=>qv o (Ag o isAgg49 rfl (u.ld.cellB t1 rfl)) λo=>qv o (Af o Ci rfl) λo=>qv o (Ag o isAgg36 rfl (u.ld.cellB t0 rfl)) λo=>ls<|cr o call63 (Vf (Ai _) X2 (St.srH u Y2) S1 (St.srH u T1) L3) u λu o=>qa o rfl λo=>re<|tn<|th<|th<|rg<|qm o rfl λo=>qv o (Bl o rfl rfl) λo=>re<|?_
 rcases bip hm with ⟨Q2,hm⟩ | ⟨Q2,hm⟩
 refine tn<|ctv o rfl Q2<|th<|rg<|qm o rfl λo=>qa o rfl λo=>re<|tn<|wr<|tr<|?_
 obtain rfl:=si hm
 exact r1 o results62 rfl ⟨rfl,u.keep⟩
 refine tn<|cfv o rfl Q2<|wk<|tn<|th<|?_
 obtain ⟨n3,M3,hm⟩:=bs hm
 refine rg<|qv o (Af o Gy rfl) λo=>qv o (Ag o isAgg49 rfl (u.ld.cellB t1 rfl)) λo=>qv o (Af o Ci rfl) λo=>qv o (Ag o isAgg36 rfl (u.ld.cellB t0 rfl)) λo=>ls<|cr o call63 (Vf (Ai _) A3 (St.srH u B3) S1 (St.srH u T1) M3) u λu o=>qa o rfl λo=>re<|tn<|wr<|?_
 obtain rfl:=si hm
 exact r1 o results62 rfl ⟨rfl,u.keep⟩
set_option maxHeartbeats 4000000 in
theorem JaZ (hH:H.le w0) {cs2:List Value} {p1:api_Prog} (g3:Enc.rep H cs2 p1) {r:(Int×Int)} (hm:Z5o N p1=some r):Tot Tryz.prog 17 #[.agg cs2.toArray] w0 (λv w'=>v=.tuple #[i6 r.1,i6 r.2]∧Keep Nil w0 w'):=by
 unfold Z5o at hm
 refine fn0 func17 rfl ntmps17 rfl rfl λa o=>?_
 have u:St w0 Nil [H] [] w0:=start1 hH
 obtain ⟨U0,K0,V0,M0,O0,F0,P0,G0,Q0,I0,R0,J0,rfl,S1,T1,n0,p0,u0,B1,C1,E1,F1,G1,I1,j0⟩:=Aq g3
 refine th<|rg<|ls<|Br (cs:=[SL U0 p1.Lines K0,SL V0 p1.Vols M0,SL O0 p1.Locks F0,SL P0 p1.Threads G0,SL Q0 p1.Recover I0,SL R0 p1.Claims J0].toArray) o rfl u rfl rfl λT0 w a u o=>?_
 iterate 2 refine qa o rfl λo=>?_
 refine re<|tn<|th<|th<|?_
 obtain ⟨y6,V5,hm⟩:=bs hm
 refine rg<|qv o (Ay o Tryz.isAgg27 Tryz.sizeOf27 rfl rfl (u.ld.cellsB t0)) λo=>ls<|cr o call57 (Jb0 (Ai _) (Enc.mono (St.up u) (show Enc.rep (α:=api_Prog) H [SL U0 p1.Lines K0,SL V0 p1.Vols M0,SL O0 p1.Locks F0,SL P0 p1.Threads G0,SL Q0 p1.Recover I0,SL R0 p1.Claims J0] p1 from ⟨_,_,rfl,⟨_,_,rfl,S1,T1⟩,⟨_,_,rfl,⟨_,_,rfl,n0,p0⟩,⟨_,_,rfl,⟨_,_,rfl,u0,B1⟩,⟨_,_,rfl,⟨_,_,rfl,C1,E1⟩,⟨_,_,rfl,⟨_,_,rfl,F1,G1⟩,⟨_,_,rfl,I1,j0⟩⟩⟩⟩⟩⟩)) V5) u λu o=>qv o (Ba o rfl) λo=>re<|?_
 rcases bit hm with ⟨D3,hm⟩ | ⟨D3,hm⟩
 refine tn<|cfv o rfl (by rw [D3];rfl)<|wk<|tn<|th<|th<|?_
 obtain ⟨z6,W5,hm⟩:=bs hm
 refine rg<|qv o (Ay o Tryz.isAgg27 Tryz.sizeOf27 rfl rfl (u.ld.cellsB t0)) λo=>ls<|cr o call58 (Jbq (Ai _) (Enc.mono (St.up u) (show Enc.rep (α:=api_Prog) H [SL U0 p1.Lines K0,SL V0 p1.Vols M0,SL O0 p1.Locks F0,SL P0 p1.Threads G0,SL Q0 p1.Recover I0,SL R0 p1.Claims J0] p1 from ⟨_,_,rfl,⟨_,_,rfl,S1,T1⟩,⟨_,_,rfl,⟨_,_,rfl,n0,p0⟩,⟨_,_,rfl,⟨_,_,rfl,u0,B1⟩,⟨_,_,rfl,⟨_,_,rfl,C1,E1⟩,⟨_,_,rfl,⟨_,_,rfl,F1,G1⟩,⟨_,_,rfl,I1,j0⟩⟩⟩⟩⟩⟩)) W5) u λu o=>re<|?_
 rcases bit hm with ⟨E3,hm⟩ | ⟨E3,hm⟩
 refine tn<|ctv o rfl E3<|th<|rg<|qa o rfl λo=>qa o rfl λo=>re<|tn<|wr<|tr<|?_
 obtain rfl:=si hm
 exact r2 o results17 rfl rfl ⟨rfl,u.keep⟩
 refine tn<|cfv o rfl E3<|wk<|tn<|th<|?_
 obtain ⟨S0,X5,hm⟩:=bs hm
 refine rg<|qv o (Ay o Tryz.isAgg27 Tryz.sizeOf27 rfl rfl (u.ld.cellsB t0)) λo=>ls<|c1 o rfl call59 (Yc (St.le u) (show Enc.rep (α:=api_Prog) H [SL U0 p1.Lines K0,SL V0 p1.Vols M0,SL O0 p1.Locks F0,SL P0 p1.Threads G0,SL Q0 p1.Recover I0,SL R0 p1.Claims J0] p1 from ⟨_,_,rfl,⟨_,_,rfl,S1,T1⟩,⟨_,_,rfl,⟨_,_,rfl,n0,p0⟩,⟨_,_,rfl,⟨_,_,rfl,u0,B1⟩,⟨_,_,rfl,⟨_,_,rfl,C1,E1⟩,⟨_,_,rfl,⟨_,_,rfl,F1,G1⟩,⟨_,_,rfl,I1,j0⟩⟩⟩⟩⟩⟩) X5) ⟨rfl,trivial⟩ (λv w a hR o=>?_)
 obtain ⟨H40,J1,Y0,rfl,P6,X0,C0,A5,hk⟩:=hR
 obtain ⟨u,C0⟩:=And.intro (St.passH u hk C0 A5) (St.extc u C0)
 refine qa o rfl λo=>re<|tn<|th<|th<|rg<|qa o rfl λo=>re<|tn<|Av (λa w=>(Z5p N p1 S0)=some r∧Fr 150 [(1,PT T0),(4,SL J1 S0 Y0)] a∧St w0 Nil [H40] [bk T0 [SL U0 p1.Lines K0,SL V0 p1.Vols M0,SL O0 p1.Locks F0,SL P0 p1.Threads G0,SL Q0 p1.Recover I0,SL R0 p1.Claims J0] 27] w) ?_ ?_
 refine wb<|lp (α:=Nat×Int) (λgh a w=>match gh with | (C3,R3)=>(Z5y N (Z5p N p1 S0) S0) C3 R3=some r∧Fr 150 [(1,PT T0),(4,SL J1 S0 Y0),(5,i6 R3)] a∧St w0 Nil [H40] [bk T0 [SL U0 p1.Lines K0,SL V0 p1.Vols M0,SL O0 p1.Locks F0,SL P0 p1.Threads G0,SL Q0 p1.Recover I0,SL R0 p1.Claims J0] 27] w) (λgh=>gh.1) (N,0) ⟨hm,o.hs,u⟩ ?_
 rintro ⟨C3,R3⟩ a w ⟨hm,o,u⟩
 obtain _ | C3:=C3
 simp [Z5y] at hm
 rw [Z5y] at hm
 refine th<|th<|rg<|qm o rfl λo=>qm o rfl λo=>qv o (Ak (α:=api_Thread) (xs:=S0) o runUnderlying24 rfl) λo=>qv o (Ao o rfl rfl) λo=>re<|?_
 rcases bip hm with ⟨F3,hm⟩ | ⟨F3,hm⟩
 refine tn<|ctv o rfl F3<|wk<|tn<|th<|wb<|th<|?_
 obtain ⟨A7,W3,hm⟩:=bs hm
 obtain ⟨B7,Y5,B5⟩:=SR.get X0 W3
 obtain ⟨Q6,E6,R6,F6,rfl,S6,T6,C5,D5⟩:=Aw Y5
 obtain ⟨C7,d5,hm⟩:=bs hm
 refine rg<|qm o rfl λo=>qm o rfl λo=>qv o (Am o runUnderlying24 sizeOf48 rfl rfl W3 (SR.oaI X0 (by decide) W3)) λo=>qv o (Af o Gm rfl) λo=>qv o (Ag o isAgg46 rfl (PH.le.cell (Lds.le u.ld) (B5 2 _ rfl))) λo=>ls<|cr o call60 (JbV _ (Ai _) C5 (St.srH u D5) d5) u λu o=>qa o rfl λo=>re<|tn<|th<|rg<|qm o rfl λo=>qv o (Bl o rfl rfl) λo=>re<|?_
 rcases bip hm with ⟨G3,hm⟩ | ⟨G3,hm⟩
 refine tn<|ctv o rfl G3<|th<|rg<|qm o rfl λo=>?_
 iterate 2 refine qa o rfl λo=>?_
 refine re<|tn<|wr<|br<|tr<|tr<|br<|tr<|?_
 obtain rfl:=si hm
 exact r2 o results17 rfl rfl ⟨rfl,u.keep⟩
 refine tn<|cfv o rfl G3<|wk<|bn<|tn<|rg<|qm o rfl λo=>qv o (Ap o rfl rfl) λo=>qa o rfl λo=>re<|tn<|?_
 exact ⟨(C3,(IntKind.i64.wrap (R3+1))),⟨hm,o.hs,u⟩,Nat.lt_succ_self _⟩
 refine tn<|cfv o rfl F3<|we<|tx<|tx<|bx<|tn<|?_
 exact ⟨hm,o.has ⟨rfl,rfl,trivial⟩,u⟩
 rintro a w ⟨hm,o,u⟩
 unfold Z5p at hm
 refine th<|?_
 obtain ⟨D7,j5,hm⟩:=bs hm
 refine rg<|qv o (Ay o Tryz.isAgg27 Tryz.sizeOf27 rfl rfl (u.ld.cellsB t0)) λo=>ls<|cr o call61 (Jba (Ai _) (Enc.mono (St.up u) (show Enc.rep (α:=api_Prog) H40 [SL U0 p1.Lines K0,SL V0 p1.Vols M0,SL O0 p1.Locks F0,SL P0 p1.Threads G0,SL Q0 p1.Recover I0,SL R0 p1.Claims J0] p1 from ⟨_,_,rfl,⟨_,_,rfl,S1,(T1.mono C0.sub)⟩,⟨_,_,rfl,⟨_,_,rfl,n0,(p0.mono C0.sub)⟩,⟨_,_,rfl,⟨_,_,rfl,u0,(B1.mono C0.sub)⟩,⟨_,_,rfl,⟨_,_,rfl,C1,(E1.mono C0.sub)⟩,⟨_,_,rfl,⟨_,_,rfl,F1,(G1.mono C0.sub)⟩,⟨_,_,rfl,I1,(j0.mono C0.sub)⟩⟩⟩⟩⟩⟩)) j5) u λu o=>qa o rfl λo=>re<|tn<|th<|th<|rg<|qm o rfl λo=>qv o (Bl o rfl rfl) λo=>re<|?_
 rcases bip hm with ⟨I3,hm⟩ | ⟨I3,hm⟩
 refine tn<|ctv o rfl I3<|th<|rg<|qm o rfl λo=>?_
 iterate 2 refine qa o rfl λo=>?_
 refine re<|tn<|wr<|tr<|?_
 obtain rfl:=si hm
 exact r2 o results17 rfl rfl ⟨rfl,u.keep⟩
 refine tn<|cfv o rfl I3<|wk<|tn<|th<|th<|rg<|qa o rfl λo=>re<|tn<|Av (λa w=>∃ (Q1:PH),(Z5s N p1 S0)=some r∧Ext w0 H40 Q1∧Fr 150 [(1,PT T0),(4,SL J1 S0 Y0)] a∧St w0 Nil [Q1] [bk T0 [SL U0 p1.Lines K0,SL V0 p1.Vols M0,SL O0 p1.Locks F0,SL P0 p1.Threads G0,SL Q0 p1.Recover I0,SL R0 p1.Claims J0] 27] w) ?_ ?_
 refine wb<|lp (α:=Nat×Int) (λgh a w=>match gh with | (C2,R1)=>∃ (E2:PH),(Z5z N (Z5s N p1 S0) p1 S0) C2 R1=some r∧Ext w0 H40 E2∧Fr 150 [(1,PT T0),(4,SL J1 S0 Y0),(8,i6 R1)] a∧St w0 Nil [E2] [bk T0 [SL U0 p1.Lines K0,SL V0 p1.Vols M0,SL O0 p1.Locks F0,SL P0 p1.Threads G0,SL Q0 p1.Recover I0,SL R0 p1.Claims J0] 27] w) (λgh=>gh.1) (N,0) ⟨H40,hm,(Ext.refl _ _),o.hs,u⟩ ?_
 rintro ⟨C2,R1⟩ a w ⟨E2,hm,D0,o,u⟩
 obtain _ | C2:=C2
 simp [Z5z] at hm
 rw [Z5z] at hm
 refine th<|th<|rg<|qm o rfl λo=>qm o rfl λo=>qv o (Ak (α:=api_Thread) (xs:=S0) o runUnderlying24 rfl) λo=>qv o (Ao o rfl rfl) λo=>re<|?_
 rcases bip hm with ⟨J3,hm⟩ | ⟨J3,hm⟩
 refine tn<|ctv o rfl J3<|wk<|tn<|th<|Av (λa w=>∃ (S3:PH),(Z5t (Z5z N (Z5s N p1 S0) p1 S0 C2) R1)=some r∧Ext w0 E2 S3∧Fr 150 [(1,PT T0),(4,SL J1 S0 Y0),(8,i6 R1)] a∧St w0 Nil [S3] [bk T0 [SL U0 p1.Lines K0,SL V0 p1.Vols M0,SL O0 p1.Locks F0,SL P0 p1.Threads G0,SL Q0 p1.Recover I0,SL R0 p1.Claims J0] 27] w) ?_ ?_
 refine wb<|th<|rg<|qa o rfl λo=>re<|tn<|wb<|lp (α:=Nat×Int) (λgh a w=>match gh with | (K2,M2)=>∃ (HD1:PH),(Z60 N (Z5t (Z5z N (Z5s N p1 S0) p1 S0 C2) R1) p1 S0 R1) K2 M2=some r∧Ext w0 E2 HD1∧Fr 150 [(1,PT T0),(4,SL J1 S0 Y0),(8,i6 R1),(9,i6 M2)] a∧St w0 Nil [HD1] [bk T0 [SL U0 p1.Lines K0,SL V0 p1.Vols M0,SL O0 p1.Locks F0,SL P0 p1.Threads G0,SL Q0 p1.Recover I0,SL R0 p1.Claims J0] 27] w) (λgh=>gh.1) (N,0) ⟨E2,hm,(Ext.refl _ _),o.hs,u⟩ ?_
 rintro ⟨K2,M2⟩ a w ⟨HD1,hm,hxHD1,o,u⟩
 obtain _ | K2:=K2
 simp [Z60] at hm
 rw [Z60] at hm
 refine th<|th<|?_
 obtain ⟨k4,O1,hm⟩:=bs hm
 obtain ⟨E7,k5,Y1⟩:=SR.get X0 O1
 obtain ⟨U6,G6,V6,I6,rfl,K3,F2,W6,X6⟩:=Aw k5
 refine rg<|qm o rfl λo=>?_
 iterate 2 refine qm o rfl λo=>?_
 refine qv o (Am o runUnderlying24 sizeOf48 rfl rfl O1 (SR.oaI X0 (by decide) O1)) λo=>qv o (Af o Ci rfl) λo=>qv o (Ag o isAgg36 rfl (PH.le.cell (λb o hx=>(Lds.le u.ld) b o ((cp hxHD1.sub D0.sub) b o hx)) (Y1 1 _ rfl))) λo=>qv o (Ak (α:=Str) (xs:=k4.Regs) o runUnderlying36 rfl) λo=>qv o (Ao o rfl rfl) λo=>re<|?_
 rcases bip hm with ⟨L3,hm⟩ | ⟨L3,hm⟩
 refine tn<|ctv o rfl L3<|wk<|tn<|th<|wb<|th<|?_
 obtain ⟨n5,X3,hm⟩:=bs hm
 obtain ⟨u5,A6,E5⟩:=SR.get F2 X3
 obtain rfl:u5=[Ac n5]:=A6
 refine rg<|qm o rfl λo=>qm o rfl λo=>qv o (Am o runUnderlying24 sizeOf48 rfl rfl O1 (SR.oaI X0 (by decide) O1)) λo=>qv o (Af o Ci rfl) λo=>qv o (Ag o isAgg36 rfl (PH.le.cell (λb o hx=>(Lds.le u.ld) b o ((cp hxHD1.sub D0.sub) b o hx)) (Y1 1 _ rfl))) λo=>qm o rfl λo=>qv o (Am o runUnderlying36 sizeOf9 rfl rfl X3 (SR.oaI F2 (by decide) X3)) λo=>qv o (Ag o isAgg9 rfl (PH.le.cell (λb o hx=>(Lds.le u.ld) b o ((cp hxHD1.sub D0.sub) b o hx)) (E5 0 _ rfl))) λo=>qa o rfl λo=>re<|tn<|th<|Av (λa w=>∃ (Y3:Bool) (HE1:PH),(Z5u (Z60 N (Z5t (Z5z N (Z5s N p1 S0) p1 S0 C2) R1) p1 S0 R1 K2) k4 M2) Y3=some r∧Ext w0 HD1 HE1∧Fr 150 [(1,PT T0),(4,SL J1 S0 Y0),(8,i6 R1),(9,i6 M2),(88,.bool Y3)] a∧St w0 Nil [HE1] [bk T0 [SL U0 p1.Lines K0,SL V0 p1.Vols M0,SL O0 p1.Locks F0,SL P0 p1.Threads G0,SL Q0 p1.Recover I0,SL R0 p1.Claims J0] 27] w) ?_ ?_
 obtain ⟨F7,l3,hm⟩:=bs hm
 rcases bip hm with ⟨O2,hm⟩ | ⟨O2,hm⟩
 refine rg<|qm o rfl λo=>qm o rfl λo=>qv o (Am o runUnderlying24 sizeOf48 rfl rfl O1 (SR.oaI X0 (by decide) O1)) λo=>qv o (Af o Ci rfl) λo=>qv o (Ag o isAgg36 rfl (PH.le.cell (λb o hx=>(Lds.le u.ld) b o ((cp hxHD1.sub D0.sub) b o hx)) (Y1 1 _ rfl))) λo=>qm o rfl λo=>ls<|cr o call33 (He (Ai _) K3 (St.srH u (F2.mono (cp hxHD1.sub D0.sub))) l3) u λu o=>qm o rfl λo=>qv o (Ao o rfl rfl) λo=>qv o (Ar (Ab o rfl) (congrArg Value.bool O2)) λo=>?_
 iterate 5 refine qn o λo=>?_
 refine qv o (Ad o rfl rfl) λo=>qm o rfl λo=>?_
 iterate 5 refine qn o λo=>?_
 refine qv o (Ad o rfl rfl) λo=>re<|tn<|?_
 exact ⟨true,HD1,hm,(Ext.refl _ _),o.hs,u⟩
 obtain ⟨G7,l4,hm⟩:=bs hm
 obtain ⟨I7,u4,hm⟩:=bs hm
 rcases bip hm with ⟨P2,hm⟩ | ⟨P2,hm⟩
 refine rg<|qm o rfl λo=>qm o rfl λo=>qv o (Am o runUnderlying24 sizeOf48 rfl rfl O1 (SR.oaI X0 (by decide) O1)) λo=>qv o (Af o Ci rfl) λo=>qv o (Ag o isAgg36 rfl (PH.le.cell (λb o hx=>(Lds.le u.ld) b o ((cp hxHD1.sub D0.sub) b o hx)) (Y1 1 _ rfl))) λo=>qm o rfl λo=>ls<|cr o call33 (He (Ai _) K3 (St.srH u (F2.mono (cp hxHD1.sub D0.sub))) l3) u λu o=>qm o rfl λo=>qv o (Ao o rfl rfl) λo=>qv o (Ar (Ab o rfl) (congrArg Value.bool O2)) λo=>qg o (Ay o isAgg27 sizeOf27 rfl rfl (u.ld.cellsB t0)) λo=>ls<|gy o rfl rfl<|c1 o rfl call22 (Ru (Ai _) (Enc.mono (St.up u) (show Enc.rep (α:=api_Prog) HD1 [SL U0 p1.Lines K0,SL V0 p1.Vols M0,SL O0 p1.Locks F0,SL P0 p1.Threads G0,SL Q0 p1.Recover I0,SL R0 p1.Claims J0] p1 from ⟨_,_,rfl,⟨_,_,rfl,S1,(T1.mono (cp (cp hxHD1.sub D0.sub) C0.sub))⟩,⟨_,_,rfl,⟨_,_,rfl,n0,(p0.mono (cp (cp hxHD1.sub D0.sub) C0.sub))⟩,⟨_,_,rfl,⟨_,_,rfl,u0,(B1.mono (cp (cp hxHD1.sub D0.sub) C0.sub))⟩,⟨_,_,rfl,⟨_,_,rfl,C1,(E1.mono (cp (cp hxHD1.sub D0.sub) C0.sub))⟩,⟨_,_,rfl,⟨_,_,rfl,F1,(G1.mono (cp (cp hxHD1.sub D0.sub) C0.sub))⟩,⟨_,_,rfl,I1,(j0.mono (cp (cp hxHD1.sub D0.sub) C0.sub))⟩⟩⟩⟩⟩⟩)) l4) ⟨rfl,trivial⟩ (λv w a hR o=>?_)
 obtain ⟨F5,F4,G5,rfl,U1,hk⟩:=hR
 replace u:=u.fresh hk
 replace U1:=U1 HD1
 obtain ⟨H97,P1,M3,O3,u⟩:=St.frzS u .head U1
 refine qg o (Ab o rfl) λo=>ls<|gy o rfl rfl<|cr o call33 (He (Ai _) O3 (St.srH u M3) u4) u λu o=>qg o (Bl o rfl rfl) λo=>qv o (Ae o rfl rfl) λo=>qv o (Ar (Ab o rfl) (congrArg Value.bool P2)) λo=>?_
 iterate 5 refine qn o λo=>?_
 refine qv o (Ad o rfl rfl) λo=>re<|tn<|?_
 exact ⟨true,H97,hm,P1,o.hs,u⟩
 obtain ⟨Y6,I5,hm⟩:=bs hm
 obtain ⟨J5,K5,hm⟩:=bs hm
 refine rg<|qm o rfl λo=>qm o rfl λo=>qv o (Am o runUnderlying24 sizeOf48 rfl rfl O1 (SR.oaI X0 (by decide) O1)) λo=>qv o (Af o Ci rfl) λo=>qv o (Ag o isAgg36 rfl (PH.le.cell (λb o hx=>(Lds.le u.ld) b o ((cp hxHD1.sub D0.sub) b o hx)) (Y1 1 _ rfl))) λo=>qm o rfl λo=>ls<|cr o call33 (He (Ai _) K3 (St.srH u (F2.mono (cp hxHD1.sub D0.sub))) l3) u λu o=>qm o rfl λo=>qv o (Ao o rfl rfl) λo=>qv o (Ar (Ab o rfl) (congrArg Value.bool O2)) λo=>qg o (Ay o isAgg27 sizeOf27 rfl rfl (u.ld.cellsB t0)) λo=>ls<|gy o rfl rfl<|c1 o rfl call22 (Ru (Ai _) (Enc.mono (St.up u) (show Enc.rep (α:=api_Prog) HD1 [SL U0 p1.Lines K0,SL V0 p1.Vols M0,SL O0 p1.Locks F0,SL P0 p1.Threads G0,SL Q0 p1.Recover I0,SL R0 p1.Claims J0] p1 from ⟨_,_,rfl,⟨_,_,rfl,S1,(T1.mono (cp (cp hxHD1.sub D0.sub) C0.sub))⟩,⟨_,_,rfl,⟨_,_,rfl,n0,(p0.mono (cp (cp hxHD1.sub D0.sub) C0.sub))⟩,⟨_,_,rfl,⟨_,_,rfl,u0,(B1.mono (cp (cp hxHD1.sub D0.sub) C0.sub))⟩,⟨_,_,rfl,⟨_,_,rfl,C1,(E1.mono (cp (cp hxHD1.sub D0.sub) C0.sub))⟩,⟨_,_,rfl,⟨_,_,rfl,F1,(G1.mono (cp (cp hxHD1.sub D0.sub) C0.sub))⟩,⟨_,_,rfl,I1,(j0.mono (cp (cp hxHD1.sub D0.sub) C0.sub))⟩⟩⟩⟩⟩⟩)) l4) ⟨rfl,trivial⟩ (λv w a hR o=>?_)
 obtain ⟨F5,F4,G5,rfl,U1,hk⟩:=hR
 replace u:=u.fresh hk
 replace U1:=U1 HD1
 obtain ⟨H97,P1,M3,O3,u⟩:=St.frzS u .head U1
 refine qg o (Ab o rfl) λo=>ls<|gy o rfl rfl<|cr o call33 (He (Ai _) O3 (St.srH u M3) u4) u λu o=>qg o (Bl o rfl rfl) λo=>qv o (Ae o rfl rfl) λo=>qv o (Ar (Ab o rfl) (congrArg Value.bool P2)) λo=>qg o (Ay o isAgg27 sizeOf27 rfl rfl (u.ld.cellsB t0)) λo=>ls<|gy o rfl rfl<|c1 o rfl call28 (Yj (Ai _) (Enc.mono (St.up u) (show Enc.rep (α:=api_Prog) H97 [SL U0 p1.Lines K0,SL V0 p1.Vols M0,SL O0 p1.Locks F0,SL P0 p1.Threads G0,SL Q0 p1.Recover I0,SL R0 p1.Claims J0] p1 from ⟨_,_,rfl,⟨_,_,rfl,S1,(T1.mono (cp (cp (cp P1.sub hxHD1.sub) D0.sub) C0.sub))⟩,⟨_,_,rfl,⟨_,_,rfl,n0,(p0.mono (cp (cp (cp P1.sub hxHD1.sub) D0.sub) C0.sub))⟩,⟨_,_,rfl,⟨_,_,rfl,u0,(B1.mono (cp (cp (cp P1.sub hxHD1.sub) D0.sub) C0.sub))⟩,⟨_,_,rfl,⟨_,_,rfl,C1,(E1.mono (cp (cp (cp P1.sub hxHD1.sub) D0.sub) C0.sub))⟩,⟨_,_,rfl,⟨_,_,rfl,F1,(G1.mono (cp (cp (cp P1.sub hxHD1.sub) D0.sub) C0.sub))⟩,⟨_,_,rfl,I1,(j0.mono (cp (cp (cp P1.sub hxHD1.sub) D0.sub) C0.sub))⟩⟩⟩⟩⟩⟩)) I5) ⟨rfl,trivial⟩ (λv w a hR o=>?_)
 obtain ⟨J6,B6,K6,rfl,Q2,hk⟩:=hR
 replace u:=u.fresh hk
 replace Q2:=Q2 H97
 refine qg o (Ab o rfl) λo=>ls<|gy o rfl rfl<|cr o call33 (He (Ai _) (St.capO u t0) (St.srO u t0 Q2) K5) u λu o=>qg o (Bl o rfl rfl) λo=>qv o (Ae o rfl rfl) λo=>re<|tn<|?_
 replace u:=u.pk [1] rfl
 exact ⟨(decide (0≤J5)),H97,hm,P1,o.hs,u⟩
 rintro a w ⟨Y3,HE1,hm,hxHE1,o,u⟩
 unfold Z5u at hm
 rcases bit hm with ⟨R2,hm⟩ | ⟨R2,hm⟩
 refine ctv o rfl R2<|th<|rxS 7 u wide (by kernel_rfl) λw u=>?_
 iterate 2 refine xq u.ld o (λw hl=>Ab o rfl) λo=>?_
 refine xr u o (Am o runUnderlying24 sizeOf48 rfl rfl O1 (SR.oaI X0 (by decide) O1)) λo=>xr u o (Af o Ft rfl) λo=>xq u.ld o (λw hl=>Ag o isAgg3 rfl (PH.le.cell (λb o hx=>(Lds.le hl) b o ((cp (cp hxHE1.sub hxHD1.sub) D0.sub) b o hx)) (Y1 3 _ rfl))) λo=>?_
 iterate 2 refine xq u.ld o (λw hl=>Bq o rfl) λo=>?_
 refine xe<|tn<|wr<|br<|tr<|tr<|br<|br<|tr<|tr<|br<|tr<|?_
 obtain rfl:=si hm
 exact r2 o results17 rfl rfl ⟨rfl,u.keep⟩
 refine cfv o rfl R2<|wk<|bn<|tn<|rg<|qm o rfl λo=>qv o (Ap o rfl rfl) λo=>qa o rfl λo=>re<|tn<|?_
 exact ⟨(K2,(IntKind.i64.wrap (M2+1))),⟨HE1,hm,(Ext.trans hxHD1 hxHE1),o.hs,u⟩,Nat.lt_succ_self _⟩
 refine tn<|cfv o rfl L3<|we<|tx<|tx<|bx<|bn<|tn<|?_
 exact ⟨HD1,hm,hxHD1,o.hs,u⟩
 rintro a w ⟨S3,hm,hxHC1,o,u⟩
 unfold Z5t at hm
 refine rg<|qm o rfl λo=>qv o (Ap o rfl rfl) λo=>qa o rfl λo=>re<|tn<|?_
 exact ⟨(C2,(IntKind.i64.wrap (R1+1))),⟨S3,hm,(Ext.trans D0 hxHC1),o.hs,u⟩,Nat.lt_succ_self _⟩
 refine tn<|cfv o rfl J3<|we<|tx<|tx<|bx<|tn<|?_
 exact ⟨E2,hm,D0,o.has ⟨rfl,rfl,trivial⟩,u⟩
 rintro a w ⟨Q1,hm,E0,o,u⟩
 unfold Z5s at hm
 refine th<|th<|rg<|qa o rfl λo=>re<|tn<|Av (λa w=>(Z5v N p1)=some r∧Fr 150 [(1,PT T0)] a∧St w0 Nil [Q1] [bk T0 [SL U0 p1.Lines K0,SL V0 p1.Vols M0,SL O0 p1.Locks F0,SL P0 p1.Threads G0,SL Q0 p1.Recover I0,SL R0 p1.Claims J0] 27] w) ?_ ?_
 refine wb<|lp (α:=Nat×Int) (λgh a w=>match gh with | (G2,X1)=>(Z61 N (Z5v N p1) p1 S0) G2 X1=some r∧Fr 150 [(1,PT T0),(4,SL J1 S0 Y0),(11,i6 X1)] a∧St w0 Nil [Q1] [bk T0 [SL U0 p1.Lines K0,SL V0 p1.Vols M0,SL O0 p1.Locks F0,SL P0 p1.Threads G0,SL Q0 p1.Recover I0,SL R0 p1.Claims J0] 27] w) (λgh=>gh.1) (N,0) ⟨hm,o.hs,u⟩ ?_
 rintro ⟨G2,X1⟩ a w ⟨hm,o,u⟩
 obtain _ | G2:=G2
 simp [Z61] at hm
 rw [Z61] at hm
 refine th<|th<|rg<|qm o rfl λo=>qm o rfl λo=>qv o (Ak (α:=api_Thread) (xs:=S0) o runUnderlying24 rfl) λo=>qv o (Ao o rfl rfl) λo=>re<|?_
 rcases bip hm with ⟨T2,hm⟩ | ⟨T2,hm⟩
 refine tn<|ctv o rfl T2<|wk<|tn<|th<|Av (λa w=>(Z5q (Z61 N (Z5v N p1) p1 S0 G2) X1)=some r∧Fr 150 [(1,PT T0),(4,SL J1 S0 Y0),(11,i6 X1)] a∧St w0 Nil [Q1] [bk T0 [SL U0 p1.Lines K0,SL V0 p1.Vols M0,SL O0 p1.Locks F0,SL P0 p1.Threads G0,SL Q0 p1.Recover I0,SL R0 p1.Claims J0] 27] w) ?_ ?_
 refine wb<|th<|rg<|qa o rfl λo=>re<|tn<|wb<|lp (α:=Nat×Int) (λgh a w=>match gh with | (I2,T3)=>(Z5w N (Z5q (Z61 N (Z5v N p1) p1 S0 G2) X1) p1 S0 X1) I2 T3=some r∧Fr 150 [(1,PT T0),(4,SL J1 S0 Y0),(11,i6 X1),(12,i6 T3)] a∧St w0 Nil [Q1] [bk T0 [SL U0 p1.Lines K0,SL V0 p1.Vols M0,SL O0 p1.Locks F0,SL P0 p1.Threads G0,SL Q0 p1.Recover I0,SL R0 p1.Claims J0] 27] w) (λgh=>gh.1) (N,0) ⟨hm,o.hs,u⟩ ?_
 rintro ⟨I2,T3⟩ a w ⟨hm,o,u⟩
 obtain _ | I2:=I2
 simp [Z5w] at hm
 rw [Z5w] at hm
 refine th<|th<|?_
 obtain ⟨B2,V1,hm⟩:=bs hm
 obtain ⟨d6,L5,U2⟩:=SR.get X0 V1
 obtain ⟨G4,n3,I4,u3,rfl,J4,K4,L4,V2⟩:=Aw L5
 refine rg<|qm o rfl λo=>?_
 iterate 2 refine qm o rfl λo=>?_
 refine qv o (Am o runUnderlying24 sizeOf48 rfl rfl V1 (SR.oaI X0 (by decide) V1)) λo=>qv o (Af o Gm rfl) λo=>qv o (Ag o isAgg46 rfl (PH.le.cell (λb o hx=>(Lds.le u.ld) b o (E0.sub b o hx)) (U2 2 _ rfl))) λo=>qv o (Ak (α:=api_Stmt) (xs:=B2.Body) o runUnderlying46 rfl) λo=>qv o (Ao o rfl rfl) λo=>re<|?_
 rcases bip hm with ⟨W2,hm⟩ | ⟨W2,hm⟩
 refine tn<|ctv o rfl W2<|wk<|tn<|th<|wb<|th<|?_
 obtain ⟨M1,P3,hm⟩:=bs hm
 obtain ⟨j6,M5,M4⟩:=SR.get V2 P3
 obtain ⟨O4,A4,P4,B4,rfl,Q4,R4,S4,T4⟩:=Bm M5
 obtain ⟨k6,O5,hm⟩:=bs hm
 refine rdS 15 u wide λw u=>dq 0 u.ld o rfl (λw hl=>Ay o isAgg27 sizeOf27 rfl rfl (hl.cellsB t0)) λo=>dr 1 u o rfl (Ab o rfl) λo=>dr 2 u o rfl (Ab o rfl) λo=>dr 3 u o rfl (Am o runUnderlying24 sizeOf48 rfl rfl V1 (SR.oaI X0 (by decide) V1)) λo=>dq 4 u.ld o rfl (λw hl=>Ay o isAgg48 sizeOf48 rfl rfl (λj v hj=>PH.le.cell (λb o hx=>(Lds.le hl) b o (E0.sub b o hx)) (U2 j v hj))) λo=>dr 5 u o rfl (Ab o rfl) λo=>dr 6 u o rfl (Ab o rfl) λo=>dr 7 u o rfl (Am o runUnderlying24 sizeOf48 rfl rfl V1 (SR.oaI X0 (by decide) V1)) λo=>dr 8 u o rfl (Af o Gm rfl) λo=>dq 9 u.ld o rfl (λw hl=>Ag o isAgg46 rfl (PH.le.cell (λb o hx=>(Lds.le hl) b o (E0.sub b o hx)) (U2 2 _ rfl))) λo=>dr 10 u o rfl (Ab o rfl) λo=>dr 11 u o rfl (Am o runUnderlying46 sizeOf51 rfl rfl P3 (SR.oaI V2 (by decide) P3)) λo=>dq 12 u.ld o rfl (λw hl=>Ay o isAgg51 sizeOf51 rfl rfl (λj v hj=>PH.le.cell (λb o hx=>(Lds.le hl) b o (E0.sub b o hx)) (M4 j v hj))) λo=>da1 (i:=13) (by kernel_rfl) ?_
 refine di (i:=13) rfl<|cr o call62 (JbI (Ai _) (Enc.mono (St.up u) (show Enc.rep (α:=api_Prog) Q1 [SL U0 p1.Lines K0,SL V0 p1.Vols M0,SL O0 p1.Locks F0,SL P0 p1.Threads G0,SL Q0 p1.Recover I0,SL R0 p1.Claims J0] p1 from ⟨_,_,rfl,⟨_,_,rfl,S1,(T1.mono (cp E0.sub C0.sub))⟩,⟨_,_,rfl,⟨_,_,rfl,n0,(p0.mono (cp E0.sub C0.sub))⟩,⟨_,_,rfl,⟨_,_,rfl,u0,(B1.mono (cp E0.sub C0.sub))⟩,⟨_,_,rfl,⟨_,_,rfl,C1,(E1.mono (cp E0.sub C0.sub))⟩,⟨_,_,rfl,⟨_,_,rfl,F1,(G1.mono (cp E0.sub C0.sub))⟩,⟨_,_,rfl,I1,(j0.mono (cp E0.sub C0.sub))⟩⟩⟩⟩⟩⟩)) (Enc.mono (St.up u) (show Enc.rep (α:=api_Thread) Q1 [Ac B2.Name,SL G4 B2.Regs n3,SL I4 B2.Body u3,i6 B2.At] B2 from ⟨_,_,rfl,rfl,⟨_,_,rfl,⟨_,_,rfl,J4,(K4.mono E0.sub)⟩,⟨_,_,rfl,⟨_,_,rfl,L4,(V2.mono E0.sub)⟩,rfl⟩⟩⟩)) (Enc.mono (St.up u) (show Enc.rep (α:=api_Stmt) Q1 [i6 M1.Kind,Ac M1.Reg,Ac M1.Name,SL O4 M1.E A4,SL P4 M1.F B4,i6 M1.N,i6 M1.Body,i6 M1.Else,i6 M1.At] M1 from ⟨_,_,rfl,rfl,⟨_,_,rfl,rfl,⟨_,_,rfl,rfl,⟨_,_,rfl,⟨_,_,rfl,Q4,(R4.mono E0.sub)⟩,⟨_,_,rfl,⟨_,_,rfl,S4,(T4.mono E0.sub)⟩,⟨_,_,rfl,rfl,⟨_,_,rfl,rfl,⟨_,_,rfl,rfl,rfl⟩⟩⟩⟩⟩⟩⟩⟩)) O5) u λu o=>⟨λ_=>u.ld,?_⟩
 refine dr 14 u o rfl (Bq o rfl) λo=>de (by kernel_rfl)<|tn<|th<|rg<|qm o rfl λo=>qv o (Bl o rfl rfl) λo=>re<|?_
 rcases bip hm with ⟨X2,hm⟩ | ⟨X2,hm⟩
 refine tn<|ctv o rfl X2<|th<|rg<|qm o rfl λo=>?_
 iterate 2 refine qa o rfl λo=>?_
 refine re<|tn<|wr<|br<|tr<|tr<|br<|br<|tr<|tr<|br<|tr<|?_
 obtain rfl:=si hm
 exact r2 o results17 rfl rfl ⟨rfl,u.keep⟩
 refine tn<|cfv o rfl X2<|wk<|bn<|tn<|rg<|qm o rfl λo=>qv o (Ap o rfl rfl) λo=>qa o rfl λo=>re<|tn<|?_
 exact ⟨(I2,(IntKind.i64.wrap (T3+1))),⟨hm,o.hs,u⟩,Nat.lt_succ_self _⟩
 refine tn<|cfv o rfl W2<|we<|tx<|tx<|bx<|bn<|tn<|?_
 exact ⟨hm,o.hs,u⟩
 rintro a w ⟨hm,o,u⟩
 unfold Z5q at hm
 refine rg<|qm o rfl λo=>qv o (Ap o rfl rfl) λo=>qa o rfl λo=>re<|tn<|?_
 exact ⟨(G2,(IntKind.i64.wrap (X1+1))),⟨hm,o.hs,u⟩,Nat.lt_succ_self _⟩
 refine tn<|cfv o rfl T2<|we<|tx<|tx<|bx<|tn<|?_
 exact ⟨hm,o.has ⟨rfl,trivial⟩,u⟩
 rintro a w ⟨hm,o,u⟩
 unfold Z5v at hm
 refine th<|?_
 obtain ⟨P5,Q5,hm⟩:=bs hm
 obtain ⟨R5,S5,hm⟩:=bs hm
 obtain ⟨C4,D4,hm⟩:=bs hm
 refine rdS 6 u wide λw u=>dq 0 u.ld o rfl (λw hl=>Ay o isAgg27 sizeOf27 rfl rfl (hl.cellsB t0)) λo=>dq 2 u.ld o rfl (λw hl=>Ay o isAgg27 sizeOf27 rfl rfl (hl.cellsB t0)) λo=>da1 (i:=1) (by kernel_rfl) ?_
 refine di (i:=1) rfl<|c1 o rfl call22 (Ru (Ai _) (Enc.mono (St.up u) (show Enc.rep (α:=api_Prog) Q1 [SL U0 p1.Lines K0,SL V0 p1.Vols M0,SL O0 p1.Locks F0,SL P0 p1.Threads G0,SL Q0 p1.Recover I0,SL R0 p1.Claims J0] p1 from ⟨_,_,rfl,⟨_,_,rfl,S1,(T1.mono (cp E0.sub C0.sub))⟩,⟨_,_,rfl,⟨_,_,rfl,n0,(p0.mono (cp E0.sub C0.sub))⟩,⟨_,_,rfl,⟨_,_,rfl,u0,(B1.mono (cp E0.sub C0.sub))⟩,⟨_,_,rfl,⟨_,_,rfl,C1,(E1.mono (cp E0.sub C0.sub))⟩,⟨_,_,rfl,⟨_,_,rfl,F1,(G1.mono (cp E0.sub C0.sub))⟩,⟨_,_,rfl,I1,(j0.mono (cp E0.sub C0.sub))⟩⟩⟩⟩⟩⟩)) Q5) ⟨rfl,trivial⟩ (λv w a hR o=>?_)
 obtain ⟨L6,C6,M6,rfl,Y2,hk⟩:=hR
 replace u:=u.fresh hk
 replace Y2:=Y2 Q1
 obtain ⟨H151,W0,U4,U3,u⟩:=St.frzS u .head Y2
 refine ⟨λ_=>(St.ldsX u W0.sub i1),?_⟩
 refine da1 (i:=3) (by kernel_rfl) ?_
 refine di (i:=3) rfl<|cr o call24 (Xs (Ai _) (Enc.mono (St.up u) (show Enc.rep (α:=api_Prog) H151 [SL U0 p1.Lines K0,SL V0 p1.Vols M0,SL O0 p1.Locks F0,SL P0 p1.Threads G0,SL Q0 p1.Recover I0,SL R0 p1.Claims J0] p1 from ⟨_,_,rfl,⟨_,_,rfl,S1,(T1.mono (cp (cp W0.sub E0.sub) C0.sub))⟩,⟨_,_,rfl,⟨_,_,rfl,n0,(p0.mono (cp (cp W0.sub E0.sub) C0.sub))⟩,⟨_,_,rfl,⟨_,_,rfl,u0,(B1.mono (cp (cp W0.sub E0.sub) C0.sub))⟩,⟨_,_,rfl,⟨_,_,rfl,C1,(E1.mono (cp (cp W0.sub E0.sub) C0.sub))⟩,⟨_,_,rfl,⟨_,_,rfl,F1,(G1.mono (cp (cp W0.sub E0.sub) C0.sub))⟩,⟨_,_,rfl,I1,(j0.mono (cp (cp W0.sub E0.sub) C0.sub))⟩⟩⟩⟩⟩⟩)) S5) u λu o=>⟨λ_=>(St.ldsX u W0.sub i1),?_⟩
 obtain ⟨V4,E4,e158,e159,W4,X4⟩:=SR.sub (sz:=1) U4 U3 rfl D4
 refine ds 4 (St.ldsX u W0.sub i1) o rfl (Hc (xs:=P5) (vl:=0) (vh:=R5) o runUnderlying36 sizeOf9 rfl U3 rfl rfl D4 e158 e159) λo=>ds 5 (St.ldsX u W0.sub i1) o rfl (Bq o rfl) λo=>de (by kernel_rfl)<|tn<|th<|th<|rg<|qa o rfl λo=>re<|tn<|Av (λa w=>Z5r=some r∧Fr 150 [] a∧St w0 Nil [H151] [] w) ?_ ?_
 refine wb<|lp (α:=Nat×Int) (λgh a w=>match gh with | (J2,V3)=>(Z5x N Z5r p1 C4) J2 V3=some r∧Fr 150 [(1,PT T0),(13,SL V4 C4 E4),(14,i6 V3)] a∧St w0 Nil [H151] [bk T0 [SL U0 p1.Lines K0,SL V0 p1.Vols M0,SL O0 p1.Locks F0,SL P0 p1.Threads G0,SL Q0 p1.Recover I0,SL R0 p1.Claims J0] 27] w) (λgh=>gh.1) (N,0) ⟨hm,o.hs,u⟩ ?_
 rintro ⟨J2,V3⟩ a w ⟨hm,o,u⟩
 obtain _ | J2:=J2
 simp [Z5x] at hm
 rw [Z5x] at hm
 refine th<|th<|rg<|qm o rfl λo=>qv o (Af o Cz rfl) λo=>qv o (Ag o isAgg25 rfl (u.ld.cellB t0 rfl)) λo=>qv o (Ak (α:=api_Claim) (xs:=p1.Claims) o runUnderlying25 rfl) λo=>qv o (Ao o rfl rfl) λo=>re<|?_
 rcases bip hm with ⟨A3,hm⟩ | ⟨A3,hm⟩
 refine tn<|ctv o rfl A3<|wk<|tn<|th<|wb<|th<|?_
 obtain ⟨n6,Q3,hm⟩:=bs hm
 obtain ⟨u6,T5,Y4⟩:=SR.get j0 Q3
 obtain ⟨O6,D6,rfl,d4,j4⟩:=Cf T5
 obtain ⟨v6,U5,hm⟩:=bs hm
 refine rg<|qv o (Af o Cz rfl) λo=>qv o (Ag o isAgg25 rfl (u.ld.cellB t0 rfl)) λo=>qm o rfl λo=>qv o (Am o runUnderlying25 sizeOf74 rfl rfl Q3 (SR.oaI j0 (by decide) Q3)) λo=>qv o (Af o Ld rfl) λo=>qv o (Ag o isAgg49 rfl (PH.le.cell (λb o hx=>(Lds.le u.ld) b o ((cp (cp W0.sub E0.sub) C0.sub) b o hx)) (Y4 0 _ rfl))) λo=>qm o rfl λo=>ls<|cr o call63 (Vf (Ai _) d4 (St.srH u (j4.mono (cp (cp W0.sub E0.sub) C0.sub))) W4 (St.srH u X4) U5) u λu o=>qa o rfl λo=>re<|tn<|th<|rg<|qm o rfl λo=>qv o (Bl o rfl rfl) λo=>re<|?_
 rcases bip hm with ⟨B3,hm⟩ | ⟨B3,hm⟩
 refine tn<|ctv o rfl B3<|th<|rg<|qm o rfl λo=>?_
 iterate 2 refine qa o rfl λo=>?_
 refine re<|tn<|wr<|br<|tr<|tr<|br<|tr<|?_
 obtain rfl:=si hm
 exact r2 o results17 rfl rfl ⟨rfl,u.keep⟩
 refine tn<|cfv o rfl B3<|wk<|bn<|tn<|rg<|qm o rfl λo=>qv o (Ap o rfl rfl) λo=>qa o rfl λo=>re<|tn<|?_
 exact ⟨(J2,(IntKind.i64.wrap (V3+1))),⟨hm,o.hs,u⟩,Nat.lt_succ_self _⟩
 refine tn<|cfv o rfl A3<|we<|tx<|tx<|bx<|tn<|?_
 replace u:=u.pickL .nil
 exact ⟨hm,o.has trivial,u⟩
 rintro a w ⟨hm,o,u⟩
 unfold Z5r at hm
 refine th<|rg<|qa o rfl λo=>qa o rfl λo=>re<|tn<|wr<|?_
 obtain rfl:=si hm
 exact r2 o results17 rfl rfl ⟨rfl,u.keep⟩
 refine tn<|ctv o rfl (by rw [D3];rfl)<|th<|rg<|qa o rfl λo=>qa o rfl λo=>re<|tn<|wr<|tr<|?_
 obtain rfl:=si hm
 exact r2 o results17 rfl rfl ⟨rfl,u.keep⟩
theorem Yi (hH:H.le w0) {p1:Str} {p2:Int} {p3:Str} {r:Bool} (hm:Z1q N p1 p2 p3=some r):Tot Tryz.prog 159 #[Ac p1,i6 p2,Ac p3] w0 (λv w'=>v=.bool r∧Keep Nil w0 w'):=by
 unfold Z1q at hm
 refine fn0 func159 rfl ntmps159 rfl rfl λa o=>?_
 have u:St w0 Nil [H] [] w0:=start1 hH
 refine th<|rg<|qa o rfl λo=>re<|tn<|th<|?_
 rcases bip hm with ⟨C0,hm⟩ | ⟨C0,hm⟩
 obtain ⟨s5,h6,hm⟩:=bs hm
 refine rg<|qm o rfl λo=>qm o rfl λo=>qv o (Bo (s:=p3) o runUnderlying9 rfl) λo=>qv o (Ap o rfl rfl) λo=>qm o rfl λo=>qv o (Bo (s:=p1) o runUnderlying9 rfl) λo=>qv o (Dc o rfl rfl) λo=>qv o (Ar (Ab o rfl) (congrArg Value.bool C0)) λo=>?_
 iterate 4 refine qg o (Ab o rfl) λo=>?_
 refine qg o (Bo (s:=p3) o runUnderlying9 rfl) λo=>qg o (Ap o rfl rfl) λo=>qg o (Gw (s:=p1) (vl:=p2) (vh:=(IntKind.i64.wrap (p2+(p3.length:Int)))) o runUnderlying9 rfl rfl rfl h6) λo=>qg o (Ab o rfl) λo=>qg o (Eg (m:=s5) (n:=p3) o rfl rfl) λo=>qv o (Ad o rfl rfl) λo=>qa o rfl λo=>re<|tn<|wr<|?_
 obtain rfl:=si hm
 exact r1 o results159 rfl ⟨rfl,u.keep⟩
 refine rg<|qm o rfl λo=>qm o rfl λo=>qv o (Bo (s:=p3) o runUnderlying9 rfl) λo=>qv o (Ap o rfl rfl) λo=>qm o rfl λo=>qv o (Bo (s:=p1) o runUnderlying9 rfl) λo=>qv o (Dc o rfl rfl) λo=>qv o (Ar (Ab o rfl) (congrArg Value.bool C0)) λo=>?_
 iterate 9 refine qn o λo=>?_
 refine qv o (Ae o rfl rfl) λo=>qa o rfl λo=>re<|tn<|wr<|?_
 obtain rfl:=si hm
 exact r1 o results159 rfl ⟨rfl,u.keep⟩
theorem Ye (hH:H.le w0) {p1:Str} {p2:Int} {r:Int} (hm:Z1t N p1 p2=some r):Tot Tryz.prog 135 #[Ac p1,i6 p2] w0 (λv w'=>v=i6 r∧Keep Nil w0 w'):=by
 unfold Z1t at hm
 refine fn0 func135 rfl ntmps135 rfl rfl λa o=>?_
 have u:St w0 Nil [H] [] w0:=start1 hH
 refine th<|rg<|qa o rfl λo=>re<|tn<|th<|Av (λa w=>∃ (K0:Int),Z1u K0=some r∧Fr 46 [(1,i6 K0)] a∧St w0 Nil [H] [] w) ?_ ?_
 refine wb<|lp (α:=Nat×Int) (λgh a w=>match gh with | (D0,E0)=>(Z1w N Z1u p1) D0 E0=some r∧Fr 46 [(0,Ac p1),(1,i6 E0)] a∧St w0 Nil [H] [] w) (λgh=>gh.1) (N,p2) ⟨hm,o.has ⟨rfl,rfl,trivial⟩,u⟩ ?_
 rintro ⟨D0,E0⟩ a w ⟨hm,o,u⟩
 obtain _ | D0:=D0
 simp [Z1w] at hm
 rw [Z1w] at hm
 refine th<|th<|rg<|qm o rfl λo=>qm o rfl λo=>qv o (Bo (s:=p1) o runUnderlying9 rfl) λo=>qv o (Ao o rfl rfl) λo=>re<|?_
 rcases bip hm with ⟨M0,hm⟩ | ⟨M0,hm⟩
 refine tn<|ctv o rfl M0<|wk<|tn<|wb<|th<|?_
 obtain ⟨C0,h5,hm⟩:=bs hm
 refine rg<|qm o rfl λo=>qm o rfl λo=>qv o (Co (s:=p1) o runUnderlying9 rfl rfl h5) λo=>qa o rfl λo=>re<|tn<|th<|rg<|qm o rfl λo=>qv o (An o rfl rfl) λo=>qm o rfl λo=>gr (Fk:=[(0,Ac p1),(1,i6 E0),(5,.int .u8 C0),(18,.bool ((decide (C0=32)) || (decide (C0=9))))]) 15 3 o u ?_ ?_ ?_
 intro hb o key
 iterate 2 refine qn o λo=>?_
 exact qk o (Ad o rfl rfl) key u hb
 intro hb o key
 exact qg o (Ab o rfl) λo=>qg o (An o rfl rfl) λo=>qk o (Ae o rfl rfl) key u hb
 intro a w o u
 refine qm o rfl λo=>gr (Fk:=[(0,Ac p1),(1,i6 E0),(5,.int .u8 C0),(22,.bool (((decide (C0=32)) || (decide (C0=9))) || (decide (C0=10))))]) 19 3 o u ?_ ?_ ?_
 intro hb o key
 iterate 2 refine qn o λo=>?_
 exact qk o (Ad o rfl rfl) key u hb
 intro hb o key
 exact qg o (Ab o rfl) λo=>qg o (An o rfl rfl) λo=>qk o (Ae o rfl rfl) key u hb
 intro a w o u
 refine qm o rfl λo=>gr (Fk:=[(0,Ac p1),(1,i6 E0),(26,.bool ((((decide (C0=32)) || (decide (C0=9))) || (decide (C0=10))) || (decide (C0=13))))]) 23 3 o u ?_ ?_ ?_
 intro hb o key
 iterate 2 refine qn o λo=>?_
 exact qk o (Ad o rfl rfl) key u hb
 intro hb o key
 exact qg o (Ab o rfl) λo=>qg o (An o rfl rfl) λo=>qk o (Ae o rfl rfl) key u hb
 intro a w o u
 refine re<|?_
 rcases bit hm with ⟨O0,hm⟩ | ⟨O0,hm⟩
 refine tn<|ctv o rfl O0<|rg<|qm o rfl λo=>qv o (Ap o rfl rfl) λo=>qa o rfl λo=>re<|bn<|tn<|?_
 exact ⟨(D0,(IntKind.i64.wrap (E0+1))),⟨hm,o.has ⟨rfl,rfl,trivial⟩,u⟩,Nat.lt_succ_self _⟩
 refine tn<|cfv o rfl O0<|th<|?_
 obtain ⟨T0,h8,hm⟩:=bs hm
 refine rg<|qm o rfl λo=>qm o rfl λo=>ls<|cr o call159 (Yi (Ai _) h8) u λu o=>re<|?_
 rcases bit hm with ⟨P0,hm⟩ | ⟨P0,hm⟩
 refine tn<|ctv o rfl P0<|wb<|lp (α:=Nat×Int) (λgh a w=>match gh with | (G0,F0)=>(Z1x N (Z1w N Z1u p1 D0) p1) G0 F0=some r∧Fr 46 [(0,Ac p1),(1,i6 F0)] a∧St w0 Nil [H] [] w) (λgh=>gh.1) (N,E0) ⟨hm,o.has ⟨rfl,rfl,trivial⟩,u⟩ ?_
 rintro ⟨G0,F0⟩ a w ⟨hm,o,u⟩
 obtain _ | G0:=G0
 simp [Z1x] at hm
 rw [Z1x] at hm
 refine th<|th<|Av (λa w=>∃ (Q0:Bool),(Z1v (Z1w N Z1u p1 D0) (Z1x N (Z1w N Z1u p1 D0) p1 G0) F0) Q0=some r∧Fr 46 [(0,Ac p1),(1,i6 F0),(41,.bool Q0)] a∧St w0 Nil [H] [] w) ?_ ?_
 rcases bip hm with ⟨I0,hm⟩ | ⟨I0,hm⟩
 obtain ⟨R0,S0,hm⟩:=bs hm
 refine rg<|qm o rfl λo=>qm o rfl λo=>qv o (Bo (s:=p1) o runUnderlying9 rfl) λo=>qv o (Ao o rfl rfl) λo=>qv o (Ar (Ab o rfl) (congrArg Value.bool I0)) λo=>?_
 iterate 2 refine qg o (Ab o rfl) λo=>?_
 refine qg o (Co (s:=p1) o runUnderlying9 rfl rfl S0) λo=>qg o (Bt o rfl rfl) λo=>qv o (Ad o rfl rfl) λo=>re<|tn<|?_
 exact ⟨(decide (R0≠10)),hm,o.hs,u⟩
 refine rg<|qm o rfl λo=>qm o rfl λo=>qv o (Bo (s:=p1) o runUnderlying9 rfl) λo=>qv o (Ao o rfl rfl) λo=>qv o (Ar (Ab o rfl) (congrArg Value.bool I0)) λo=>?_
 iterate 4 refine qn o λo=>?_
 refine qv o (Ae o rfl rfl) λo=>re<|tn<|?_
 exact ⟨false,hm,o.hs,u⟩
 rintro a w ⟨Q0,hm,o,u⟩
 unfold Z1v at hm
 rcases bit hm with ⟨J0,hm⟩ | ⟨J0,hm⟩
 refine ctv o rfl J0<|wk<|tn<|wb<|rg<|qm o rfl λo=>qv o (Ap o rfl rfl) λo=>qa o rfl λo=>re<|bn<|tn<|?_
 exact ⟨(G0,(IntKind.i64.wrap (F0+1))),⟨hm,o.has ⟨rfl,rfl,trivial⟩,u⟩,Nat.lt_succ_self _⟩
 refine cfv o rfl J0<|we<|tx<|tx<|bx<|bn<|tn<|?_
 exact ⟨(D0,F0),⟨hm,o.has ⟨rfl,rfl,trivial⟩,u⟩,Nat.lt_succ_self _⟩
 refine tn<|cfv o rfl P0<|th<|rg<|qm o rfl λo=>qa o rfl λo=>re<|tn<|wr<|br<|tr<|br<|tr<|?_
 obtain rfl:=si hm
 exact r1 o results135 rfl ⟨rfl,u.keep⟩
 refine tn<|cfv o rfl M0<|we<|tx<|tx<|bx<|tn<|?_
 exact ⟨E0,hm,o.has ⟨rfl,trivial⟩,u⟩
 rintro a w ⟨K0,hm,o,u⟩
 unfold Z1u at hm
 refine th<|rg<|qm o rfl λo=>qa o rfl λo=>re<|tn<|wr<|?_
 obtain rfl:=si hm
 exact r1 o results135 rfl ⟨rfl,u.keep⟩
theorem JaA (hH:H.le w0) {p1:Str} {p2:Int} {r:Int} (hm:Z1y N p1 p2=some r):Tot Tryz.prog 138 #[Ac p1,i6 p2] w0 (λv w'=>v=i6 r∧Keep Nil w0 w'):=by
 unfold Z1y at hm
 refine fn0 func138 rfl ntmps138 rfl rfl λa o=>?_
 have u:St w0 Nil [H] [] w0:=start1 hH
 refine th<|rg<|qa o rfl λo=>re<|tn<|th<|rg<|ls<|Bh (e:=9) (sz:=1) [Ac [61,61],Ac [33,61],Ac [60,61],Ac [38,38],Ac [124,124]] o rfl u rfl rfl rfl (λw=>by kernel_rfl) λb4 w a u o=>?_
 have M0:Rows (α:=Str) H [Ac [61,61],Ac [33,61],Ac [60,61],Ac [38,38],Ac [124,124]] ([[61,61],[33,61],[60,61],[38,38],[124,124]]:List Str):=(.cons (c:=[Ac [61,61]]) rfl (.cons (c:=[Ac [33,61]]) rfl (.cons (c:=[Ac [60,61]]) rfl (.cons (c:=[Ac [38,38]]) rfl (.cons (c:=[Ac [124,124]]) rfl .nil)))))
 iterate 2 refine qa o rfl λo=>?_
 refine re<|tn<|th<|th<|rg<|qa o rfl λo=>re<|tn<|Av (λa w=>(Z1z N p1 p2)=some r∧Fr 36 [(0,Ac p1),(1,i6 p2),(6,Ac [40,41,123,125,59,44,61,60,33,43,45,42,47,37])] a∧St w0 Nil [H] [] w) ?_ ?_
 refine wb<|lp (α:=Nat×Int) (λgh a w=>match gh with | (C0,I0)=>(Z21 N (Z1z N p1 p2) p1 p2) C0 I0=some r∧Fr 36 [(0,Ac p1),(1,i6 p2),(5,.slice (some ⟨b4,0,none⟩) ([[61,61],[33,61],[60,61],[38,38],[124,124]]:List Str).length 5),(6,Ac [40,41,123,125,59,44,61,60,33,43,45,42,47,37]),(7,i6 I0)] a∧St w0 Nil [H] [sla 9 1 (some ⟨b4,0,none⟩) ([[61,61],[33,61],[60,61],[38,38],[124,124]]:List Str).length 5 [Ac [61,61],Ac [33,61],Ac [60,61],Ac [38,38],Ac [124,124]]] w) (λgh=>gh.1) (N,0) ⟨hm,o.hs,u⟩ ?_
 rintro ⟨C0,I0⟩ a w ⟨hm,o,u⟩
 obtain _ | C0:=C0
 simp [Z21] at hm
 rw [Z21] at hm
 refine th<|th<|rg<|qm o rfl λo=>qm o rfl λo=>qv o (Ak (α:=Str) (xs:=([[61,61],[33,61],[60,61],[38,38],[124,124]]:List Str)) o runUnderlying36 rfl) λo=>qv o (Ao o rfl rfl) λo=>re<|?_
 rcases bip hm with ⟨K0,hm⟩ | ⟨K0,hm⟩
 refine tn<|ctv o rfl K0<|wk<|tn<|th<|wb<|th<|?_
 obtain ⟨P0,h8,hm⟩:=bs hm
 have Q0:=Rd.oaI (u.rdO t0) M0 (by decide) h8
 obtain ⟨R0,S0,O0⟩:=Rows.getI M0 h8
 obtain rfl:R0=[Ac P0]:=S0
 obtain ⟨W0,T0,hm⟩:=bs hm
 refine rg<|qm o rfl λo=>?_
 iterate 3 refine qm o rfl λo=>?_
 refine qv o (Am o runUnderlying36 sizeOf9 rfl rfl h8 Q0) λo=>qv o (Ag o isAgg9 rfl (u.ld.elO t0 (O0 0 _ rfl))) λo=>ls<|cr o call159 (Yi (Ai _) T0) u λu o=>re<|?_
 rcases bit hm with ⟨E0,hm⟩ | ⟨E0,hm⟩
 refine tn<|ctv o rfl E0<|th<|rg<|qa o rfl λo=>re<|tn<|wr<|br<|tr<|tr<|br<|tr<|?_
 obtain rfl:=si hm
 exact r1 o results138 rfl ⟨rfl,u.keep⟩
 refine tn<|cfv o rfl E0<|wk<|bn<|tn<|rg<|qm o rfl λo=>qv o (Ap o rfl rfl) λo=>qa o rfl λo=>re<|tn<|?_
 exact ⟨(C0,(IntKind.i64.wrap (I0+1))),⟨hm,o.hs,u⟩,Nat.lt_succ_self _⟩
 refine tn<|cfv o rfl K0<|we<|tx<|tx<|bx<|tn<|?_
 replace u:=u.pickL .nil
 exact ⟨hm,o.hs,u⟩
 rintro a w ⟨hm,o,u⟩
 unfold Z1z at hm
 refine th<|th<|rg<|qa o rfl λo=>re<|tn<|Av (λa w=>Z20=some r∧Fr 36 [] a∧St w0 Nil [H] [] w) ?_ ?_
 refine wb<|lp (α:=Nat×Int) (λgh a w=>match gh with | (D0,J0)=>(Z22 N Z20 p1 p2) D0 J0=some r∧Fr 36 [(0,Ac p1),(1,i6 p2),(6,Ac [40,41,123,125,59,44,61,60,33,43,45,42,47,37]),(8,i6 J0)] a∧St w0 Nil [H] [] w) (λgh=>gh.1) (N,0) ⟨hm,o.hs,u⟩ ?_
 rintro ⟨D0,J0⟩ a w ⟨hm,o,u⟩
 obtain _ | D0:=D0
 simp [Z22] at hm
 rw [Z22] at hm
 refine th<|th<|rg<|qm o rfl λo=>qm o rfl λo=>qv o ((Ar (Bo (s:=[40,41,123,125,59,44,61,60,33,43,45,42,47,37]) o runUnderlying9 rfl) rfl)) λo=>qv o (Ao o rfl rfl) λo=>re<|?_
 rcases bip hm with ⟨F0,hm⟩ | ⟨F0,hm⟩
 refine tn<|ctv o rfl F0<|wk<|tn<|th<|wb<|th<|?_
 obtain ⟨X0,U0,hm⟩:=bs hm
 obtain ⟨Y0,V0,hm⟩:=bs hm
 refine rxS 7 u wide (by kernel_rfl) λw u=>?_
 iterate 2 refine xq u.ld o (λw hl=>Ab o rfl) λo=>?_
 refine xr u o (Co (s:=[40,41,123,125,59,44,61,60,33,43,45,42,47,37]) o runUnderlying9 rfl rfl U0) λo=>?_
 iterate 2 refine xq u.ld o (λw hl=>Ab o rfl) λo=>?_
 refine xr u o (Co (s:=p1) o runUnderlying9 rfl rfl V0) λo=>xr u o (An o rfl rfl) λo=>xe<|?_
 rcases bip hm with ⟨G0,hm⟩ | ⟨G0,hm⟩
 refine tn<|ctv o rfl G0<|th<|rg<|qa o rfl λo=>re<|tn<|wr<|br<|tr<|tr<|br<|tr<|?_
 obtain rfl:=si hm
 exact r1 o results138 rfl ⟨rfl,u.keep⟩
 refine tn<|cfv o rfl G0<|wk<|bn<|tn<|rg<|qm o rfl λo=>qv o (Ap o rfl rfl) λo=>qa o rfl λo=>re<|tn<|?_
 exact ⟨(D0,(IntKind.i64.wrap (J0+1))),⟨hm,o.hs,u⟩,Nat.lt_succ_self _⟩
 refine tn<|cfv o rfl F0<|we<|tx<|tx<|bx<|tn<|?_
 exact ⟨hm,o.has trivial,u⟩
 rintro a w ⟨hm,o,u⟩
 unfold Z20 at hm
 refine th<|rg<|qa o rfl λo=>re<|tn<|wr<|?_
 obtain rfl:=si hm
 exact r1 o results138 rfl ⟨rfl,u.keep⟩
set_option maxHeartbeats 4000000 in
theorem Jb6 (hH:H.le w0) {p1:Str} {r:((List api_Token)×Int×Int)} (hm:Z1f N p1=some r):Tot Tryz.prog 101 #[Ac p1] w0 (λv w'=>∃ (T1:Option Addr) (O1:Nat) (U1:List Value),v=.tuple #[SL T1 r.1 O1,i6 r.2.1,i6 r.2.2]∧(∀ h,Rows h U1 r.1)∧Fresh w0 (sla 130 4 T1 r.1.length O1 U1) w'):=by
 unfold Z1f at hm
 refine fn0 func101 rfl ntmps101 rfl rfl λa o=>?_
 have u:St w0 Nil [H] [] w0:=start1 hH
 refine th<|rg<|qa o rfl λo=>?_
 iterate 2 refine qa o rfl λo=>?_
 refine re<|tn<|th<|th<|rg<|qm o rfl λo=>qv o (Bo (s:=p1) o runUnderlying9 rfl) λo=>qv o (Bd o rfl rfl) λo=>re<|?_
 rcases bip hm with ⟨P1,hm⟩ | ⟨P1,hm⟩
 refine tn<|ctv o rfl P1<|th<|rg<|qa o rfl λo=>?_
 iterate 2 refine qa o rfl λo=>?_
 refine re<|tn<|wr<|tr<|?_
 replace u:=u.nilS 130 4
 obtain rfl:=si hm
 exact Go.LM.r3 o results101 rfl rfl rfl ⟨_,_,_,rfl,(λ_=>.nil),u.endFresh t0⟩
 refine tn<|cfv o rfl P1<|wk<|tn<|th<|rg<|ls<|Bh (e:=130) (sz:=4) [] o rfl u rfl rfl rfl (λw=>by kernel_rfl) λb4 w a u o=>?_
 have G2:Rows (α:=api_Token) H [] []:=.nil
 refine qa o rfl λo=>re<|tn<|th<|?_
 obtain ⟨I2,h7,hm⟩:=bs hm
 refine rg<|qm o rfl λo=>ls<|cr o call135 (Ye (Ai _) h7) u λu o=>qa o rfl λo=>re<|tn<|th<|Av (λa w=>∃ (U0:(List api_Token)) (W0:Option Addr) (S0:Nat) (X0:List Value),Z1g U0=some r∧Fr 107 [(5,SL W0 U0 S0)] a∧St w0 Nil [H] [sla 130 4 W0 U0.length S0 X0] w∧Rows H X0 U0) ?_ ?_
 refine wb<|lp (α:=Nat×(List api_Token)×Int) (λgh a w=>match gh with | (K0,E0,C0)=>∃ (F0:Option Addr) (D0:Nat) (J0:List Value),(Z1n N Z1g p1) K0 E0 C0=some r∧Fr 107 [(0,Ac p1),(5,SL F0 E0 D0),(6,i6 C0)] a∧St w0 Nil [H] [sla 130 4 F0 E0.length D0 J0] w∧Rows H J0 E0) (λgh=>gh.1) (N,[],I2) ⟨(some ⟨b4,0,none⟩),0,[],hm,o.hs,u,G2⟩ ?_
 rintro ⟨K0,E0,C0⟩ a w ⟨F0,D0,J0,hm,o,u,Q1⟩
 obtain _ | K0:=K0
 simp [Z1n] at hm
 rw [Z1n] at hm
 refine th<|th<|rg<|qm o rfl λo=>qm o rfl λo=>qv o (Bo (s:=p1) o runUnderlying9 rfl) λo=>qv o (Ao o rfl rfl) λo=>re<|?_
 rcases bip hm with ⟨R1,hm⟩ | ⟨R1,hm⟩
 refine tn<|ctv o rfl R1<|wk<|tn<|wb<|th<|rg<|qm o rfl λo=>qm o rfl λo=>qv o (Bp [i6 C0] [i6 0,Ac [],i6 0,i6 C0] o ⟨rfl,trivial⟩ (λw=>by kernel_rfl)) λo=>ls<|Au (cs:=[i6 0,Ac [],i6 0,i6 0].toArray) o rfl u zeroValue130 rfl λb9 w a u o=>qa o rfl λo=>ls<|Az o u sizeOf130 rfl rfl rfl rfl (Al rfl) .head λw u=>re<|tn<|th<|th<|?_
 obtain ⟨G3,J2,hm⟩:=bs hm
 obtain ⟨I3,K2,hm⟩:=bs hm
 refine rg<|qm o rfl λo=>qm o rfl λo=>qv o (Co (s:=p1) o runUnderlying9 rfl rfl J2) λo=>ls<|cr o call136 (Lg (Ai _) K2) u λu o=>re<|tn<|Av (λa w=>∃ (I1:Int) (G0:api_Token),(Z1i N (Z1n N Z1g p1 K0) p1 E0 C0) I1 G0=some r∧Fr 107 [(0,Ac p1),(5,SL F0 E0 D0),(6,i6 C0),(7,i6 I1),(8,PT b9)] a∧St w0 Nil [H] [sla 130 4 F0 E0.length D0 J0,bk b9 [i6 G0.Kind,Ac G0.Text,i6 G0.N,i6 G0.At] 130] w) ?_ ?_
 rcases bit hm with ⟨Y0,hm⟩ | ⟨Y0,hm⟩
 refine ctv o rfl Y0<|th<|rg<|qv o (Af o Cr rfl) λo=>ls<|Ax o u sizeOf3 rfl rfl rfl rfl .head .zero λw u=>re<|tn<|th<|Av (λa w=>∃ (J1:Int),(Z1j (Z1i N (Z1n N Z1g p1 K0) p1 E0 C0) C0) J1=some r∧Fr 107 [(0,Ac p1),(5,SL F0 E0 D0),(6,i6 C0),(7,i6 J1),(8,PT b9)] a∧St w0 Nil [H] [sla 130 4 F0 E0.length D0 J0,bk b9 [i6 1,Ac [],i6 0,i6 C0] 130] w) ?_ ?_
 replace u:=u.pk [1,0] rfl
 refine wb<|lp (α:=Nat×Int) (λgh a w=>match gh with | (R0,O0)=>(Z1o N (Z1j (Z1i N (Z1n N Z1g p1 K0) p1 E0 C0) C0) p1) R0 O0=some r∧Fr 107 [(0,Ac p1),(5,SL F0 E0 D0),(6,i6 C0),(7,i6 O0),(8,PT b9)] a∧St w0 Nil [H] [sla 130 4 F0 E0.length D0 J0,bk b9 [i6 1,Ac [],i6 0,i6 C0] 130] w) (λgh=>gh.1) (N,C0) ⟨hm,o.hs,u⟩ ?_
 rintro ⟨R0,O0⟩ a w ⟨hm,o,u⟩
 obtain _ | R0:=R0
 simp [Z1o] at hm
 rw [Z1o] at hm
 refine th<|th<|Av (λa w=>∃ (vF1:Bool),(Z1k (Z1j (Z1i N (Z1n N Z1g p1 K0) p1 E0 C0) C0) (Z1o N (Z1j (Z1i N (Z1n N Z1g p1 K0) p1 E0 C0) C0) p1 R0) O0) vF1=some r∧Fr 107 [(0,Ac p1),(5,SL F0 E0 D0),(6,i6 C0),(7,i6 O0),(8,PT b9),(42,.bool vF1)] a∧St w0 Nil [H] [sla 130 4 F0 E0.length D0 J0,bk b9 [i6 1,Ac [],i6 0,i6 C0] 130] w) ?_ ?_
 rcases bip hm with ⟨T0,hm⟩ | ⟨T0,hm⟩
 obtain ⟨J3,V1,hm⟩:=bs hm
 obtain ⟨K3,X1,hm⟩:=bs hm
 rcases bit hm with ⟨j0,hm⟩ | ⟨j0,hm⟩
 refine rg<|qm o rfl λo=>qm o rfl λo=>qv o (Bo (s:=p1) o runUnderlying9 rfl) λo=>qv o (Ao o rfl rfl) λo=>qv o (Ar (Ab o rfl) (congrArg Value.bool T0)) λo=>?_
 iterate 2 refine qg o (Ab o rfl) λo=>?_
 refine qg o (Co (s:=p1) o runUnderlying9 rfl rfl V1) λo=>ls<|gy o rfl rfl<|cr o call136 (Lg (Ai _) X1) u λu o=>qg o (Ar (Ab o rfl) (congrArg Value.bool j0)) λo=>?_
 iterate 4 refine qn o λo=>?_
 refine qg o (Ad o rfl rfl) λo=>qv o (Ad o rfl rfl) λo=>re<|tn<|?_
 exact ⟨true,hm,o.hs,u⟩
 obtain ⟨L3,M2,hm⟩:=bs hm
 obtain ⟨O2,P2,hm⟩:=bs hm
 refine rg<|qm o rfl λo=>qm o rfl λo=>qv o (Bo (s:=p1) o runUnderlying9 rfl) λo=>qv o (Ao o rfl rfl) λo=>qv o (Ar (Ab o rfl) (congrArg Value.bool T0)) λo=>?_
 iterate 2 refine qg o (Ab o rfl) λo=>?_
 refine qg o (Co (s:=p1) o runUnderlying9 rfl rfl V1) λo=>ls<|gy o rfl rfl<|cr o call136 (Lg (Ai _) X1) u λu o=>qg o (Ar (Ab o rfl) (congrArg Value.bool j0)) λo=>?_
 iterate 2 refine qg o (Ab o rfl) λo=>?_
 refine qg o (Co (s:=p1) o runUnderlying9 rfl rfl M2) λo=>ls<|gy o rfl rfl<|cr o call137 (Rs (Ai _) P2) u λu o=>qg o (Ae o rfl rfl) λo=>qv o (Ad o rfl rfl) λo=>re<|tn<|?_
 exact ⟨O2,hm,o.hs,u⟩
 refine rg<|qm o rfl λo=>qm o rfl λo=>qv o (Bo (s:=p1) o runUnderlying9 rfl) λo=>qv o (Ao o rfl rfl) λo=>qv o (Ar (Ab o rfl) (congrArg Value.bool T0)) λo=>?_
 iterate 5 refine qn o λo=>?_
 iterate 4 refine ls<|gnu o rfl rfl rfl λa o=>?_
 refine qn o λo=>qv o (Ae o rfl rfl) λo=>re<|tn<|?_
 exact ⟨false,hm,o.hs,u⟩
 rintro a w ⟨vF1,hm,o,u⟩
 unfold Z1k at hm
 rcases bit hm with ⟨n0,hm⟩ | ⟨n0,hm⟩
 refine ctv o rfl n0<|wk<|tn<|wb<|rg<|qm o rfl λo=>qv o (Ap o rfl rfl) λo=>qa o rfl λo=>re<|bn<|tn<|?_
 exact ⟨(R0,(IntKind.i64.wrap (O0+1))),⟨hm,o.hs,u⟩,Nat.lt_succ_self _⟩
 refine cfv o rfl n0<|we<|tx<|tx<|bx<|tn<|?_
 exact ⟨O0,hm,o.hs,u⟩
 rintro a w ⟨J1,hm,o,u⟩
 unfold Z1j at hm
 refine th<|rg<|qm o rfl λo=>qm o rfl λo=>qv o (Gs o rfl rfl) λo=>qv o (Bd o rfl rfl) λo=>re<|?_
 rcases bip hm with ⟨p0,hm⟩ | ⟨p0,hm⟩
 refine tn<|ctv o rfl p0<|th<|rg<|qm o rfl λo=>?_
 iterate 3 refine qa o rfl λo=>?_
 refine re<|tn<|wr<|tr<|br<|tr<|br<|tr<|?_
 replace u:=u.nilS 130 4
 obtain rfl:=si hm
 exact Go.LM.r3 o results101 rfl rfl rfl ⟨_,_,_,rfl,(λ_=>.nil),u.endFresh t0⟩
 refine tn<|cfv o rfl p0<|wk<|tn<|?_
 exact ⟨J1,(api_Token.mk 1 [] 0 C0),hm,o.hs,u⟩
 refine cfv o rfl Y0<|th<|?_
 obtain ⟨M3,Q2,hm⟩:=bs hm
 obtain ⟨O3,R2,hm⟩:=bs hm
 refine rg<|qm o rfl λo=>qm o rfl λo=>qv o (Co (s:=p1) o runUnderlying9 rfl rfl Q2) λo=>ls<|cr o call137 (Rs (Ai _) R2) u λu o=>re<|?_
 rcases bit hm with ⟨u0,hm⟩ | ⟨u0,hm⟩
 refine tn<|ctv o rfl u0<|th<|rg<|qv o (Af o Cr rfl) λo=>ls<|Ax o u sizeOf3 rfl rfl rfl rfl .head .zero λw u=>re<|tn<|th<|Av (λa w=>∃ (M1:Int) (P0:api_Token),(Z1l N (Z1i N (Z1n N Z1g p1 K0) p1 E0 C0) C0) M1 P0=some r∧Fr 107 [(0,Ac p1),(5,SL F0 E0 D0),(6,i6 C0),(7,i6 M1),(8,PT b9)] a∧St w0 Nil [H] [sla 130 4 F0 E0.length D0 J0,bk b9 [i6 P0.Kind,Ac P0.Text,i6 P0.N,i6 P0.At] 130] w) ?_ ?_
 replace u:=u.pk [1,0] rfl
 refine wb<|lp (α:=Nat×Int×api_Token) (λgh a w=>match gh with | (Q0,M0,I0)=>(Z1p N (Z1l N (Z1i N (Z1n N Z1g p1 K0) p1 E0 C0) C0) p1) Q0 M0 I0=some r∧Fr 107 [(0,Ac p1),(5,SL F0 E0 D0),(6,i6 C0),(7,i6 M0),(8,PT b9)] a∧St w0 Nil [H] [sla 130 4 F0 E0.length D0 J0,bk b9 [i6 I0.Kind,Ac I0.Text,i6 I0.N,i6 I0.At] 130] w) (λgh=>gh.1) (N,C0,(api_Token.mk 2 [] 0 C0)) ⟨hm,o.hs,u⟩ ?_
 rintro ⟨Q0,M0,I0⟩ a w ⟨hm,o,u⟩
 obtain _ | Q0:=Q0
 simp [Z1p] at hm
 rw [Z1p] at hm
 refine th<|th<|Av (λa w=>∃ (vF2:Bool),(Z1m N (Z1l N (Z1i N (Z1n N Z1g p1 K0) p1 E0 C0) C0) (Z1p N (Z1l N (Z1i N (Z1n N Z1g p1 K0) p1 E0 C0) C0) p1 Q0) p1 M0 I0) vF2=some r∧Fr 107 [(0,Ac p1),(5,SL F0 E0 D0),(6,i6 C0),(7,i6 M0),(8,PT b9),(64,.bool vF2)] a∧St w0 Nil [H] [sla 130 4 F0 E0.length D0 J0,bk b9 [i6 I0.Kind,Ac I0.Text,i6 I0.N,i6 I0.At] 130] w) ?_ ?_
 rcases bip hm with ⟨B1,hm⟩ | ⟨B1,hm⟩
 obtain ⟨P3,T2,hm⟩:=bs hm
 obtain ⟨U2,V2,hm⟩:=bs hm
 refine rg<|qm o rfl λo=>qm o rfl λo=>qv o (Bo (s:=p1) o runUnderlying9 rfl) λo=>qv o (Ao o rfl rfl) λo=>qv o (Ar (Ab o rfl) (congrArg Value.bool B1)) λo=>?_
 iterate 2 refine qg o (Ab o rfl) λo=>?_
 refine qg o (Co (s:=p1) o runUnderlying9 rfl rfl T2) λo=>ls<|gy o rfl rfl<|cr o call137 (Rs (Ai _) V2) u λu o=>qv o (Ad o rfl rfl) λo=>re<|tn<|?_
 exact ⟨U2,hm,o.hs,u⟩
 refine rg<|qm o rfl λo=>qm o rfl λo=>qv o (Bo (s:=p1) o runUnderlying9 rfl) λo=>qv o (Ao o rfl rfl) λo=>qv o (Ar (Ab o rfl) (congrArg Value.bool B1)) λo=>?_
 iterate 4 refine qn o λo=>?_
 refine qv o (Ae o rfl rfl) λo=>re<|tn<|?_
 exact ⟨false,hm,o.hs,u⟩
 rintro a w ⟨vF2,hm,o,u⟩
 unfold Z1m at hm
 rcases bit hm with ⟨C1,hm⟩ | ⟨C1,hm⟩
 refine ctv o rfl C1<|wk<|tn<|wb<|th<|th<|rg<|qv o (Af o Gj rfl) λo=>qv o (Ag o isAgg3 rfl (u.ld.cellB t1 rfl)) λo=>qv o (Dc o rfl rfl) λo=>re<|tn<|Av (λa w=>∃ (vF3:api_Token),(Z1h (Z1p N (Z1l N (Z1i N (Z1n N Z1g p1 K0) p1 E0 C0) C0) p1 Q0) M0) vF3=some r∧Fr 107 [(0,Ac p1),(5,SL F0 E0 D0),(6,i6 C0),(7,i6 M0),(8,PT b9)] a∧St w0 Nil [H] [sla 130 4 F0 E0.length D0 J0,bk b9 [i6 vF3.Kind,Ac vF3.Text,i6 vF3.N,i6 vF3.At] 130] w) ?_ ?_
 rcases bip hm with ⟨E1,hm⟩ | ⟨E1,hm⟩
 refine ctv o rfl E1<|?_
 obtain ⟨W2,X2,hm⟩:=bs hm
 refine rxS 10 u wide (by kernel_rfl) λw u=>xr u o (Af o Gj rfl) λo=>xq u.ld o (λw hl=>Ag o isAgg3 rfl (hl.cellB t1 rfl)) λo=>xr u o (Ux o rfl rfl) λo=>?_
 iterate 2 refine xq u.ld o (λw hl=>Ab o rfl) λo=>?_
 refine xr u o (Co (s:=p1) o runUnderlying9 rfl rfl X2) λo=>xr u o (Gs o rfl rfl) λo=>xr u o (JaX o runUnderlying5 runUnderlying3 rfl) λo=>xr u o (Ap o rfl rfl) λo=>xr u o (Af o Gj rfl) λo=>xz rfl<|Ax o u sizeOf3 rfl rfl rfl rfl (.tail .head) (.succ (.succ .zero)) λw u=>tn<|?_
 exact ⟨(api_Token.mk I0.Kind I0.Text (IntKind.i64.wrap ((IntKind.i64.wrap (10 * I0.N))+(IntKind.i64.wrap (IntKind.u8.wrap (W2 - 48))))) I0.At),hm,o.hs,u⟩
 refine cfv o rfl E1<|wk<|tn<|?_
 exact ⟨I0,hm,o.hs,u⟩
 rintro a w ⟨vF3,hm,o,u⟩
 unfold Z1h at hm
 refine rg<|qm o rfl λo=>qv o (Ap o rfl rfl) λo=>qa o rfl λo=>re<|bn<|tn<|?_
 exact ⟨(Q0,(IntKind.i64.wrap (M0+1)),vF3),⟨hm,o.hs,u⟩,Nat.lt_succ_self _⟩
 refine cfv o rfl C1<|we<|tx<|tx<|bx<|tn<|?_
 exact ⟨M0,I0,hm,o.hs,u⟩
 rintro a w ⟨M1,P0,hm,o,u⟩
 unfold Z1l at hm
 refine th<|rg<|qv o (Af o Gj rfl) λo=>qv o (Ag o isAgg3 rfl (u.ld.cellB t1 rfl)) λo=>qv o (Bd o rfl rfl) λo=>re<|?_
 rcases bip hm with ⟨F1,hm⟩ | ⟨F1,hm⟩
 refine tn<|ctv o rfl F1<|th<|rg<|qm o rfl λo=>?_
 iterate 3 refine qa o rfl λo=>?_
 refine re<|tn<|wr<|tr<|br<|tr<|br<|tr<|?_
 replace u:=u.nilS 130 4
 obtain rfl:=si hm
 exact Go.LM.r3 o results101 rfl rfl rfl ⟨_,_,_,rfl,(λ_=>.nil),u.endFresh t0⟩
 refine tn<|cfv o rfl F1<|wk<|tn<|?_
 exact ⟨M1,P0,hm,o.hs,u⟩
 refine tn<|cfv o rfl u0<|th<|rg<|qv o (Af o Cr rfl) λo=>ls<|Ax o u sizeOf3 rfl rfl rfl rfl .head .zero λw u=>re<|tn<|th<|?_
 obtain ⟨Y2,A3,hm⟩:=bs hm
 refine rg<|qm o rfl λo=>?_
 iterate 2 refine qm o rfl λo=>?_
 refine ls<|cr o call138 (JaA (Ai _) A3) u λu o=>qv o (Ap o rfl rfl) λo=>qa o rfl λo=>re<|tn<|th<|rg<|qm o rfl λo=>qm o rfl λo=>qv o (An o rfl rfl) λo=>re<|?_
 rcases bip hm with ⟨G1,hm⟩ | ⟨G1,hm⟩
 refine tn<|ctv o rfl G1<|th<|rg<|qm o rfl λo=>?_
 iterate 3 refine qa o rfl λo=>?_
 refine re<|tn<|wr<|tr<|br<|tr<|br<|tr<|?_
 replace u:=u.nilS 130 4
 obtain rfl:=si hm
 exact Go.LM.r3 o results101 rfl rfl rfl ⟨_,_,_,rfl,(λ_=>.nil),u.endFresh t0⟩
 refine tn<|cfv o rfl G1<|wk<|tn<|?_
 replace u:=u.pk [1,0] rfl
 exact ⟨(IntKind.i64.wrap (C0+Y2)),(api_Token.mk 3 [] 0 C0),hm,o.hs,u⟩
 rintro a w ⟨I1,G0,hm,o,u⟩
 unfold Z1i at hm
 refine th<|?_
 obtain ⟨V0,B3,hm⟩:=bs hm
 refine rg<|qm o rfl λo=>?_
 iterate 2 refine qm o rfl λo=>?_
 refine qv o (Gw (s:=p1) (vl:=C0) (vh:=I1) o runUnderlying9 rfl rfl rfl B3) λo=>qv o (Af o Em rfl) λo=>ls<|Ax o u sizeOf9 rfl rfl rfl rfl (.tail .head) (.succ .zero) λw u=>re<|tn<|th<|?_
 obtain ⟨C3,D3,hm⟩:=bs hm
 refine rg<|qm o rfl λo=>qv o (Ay o isAgg130 sizeOf130 rfl rfl (u.ld.cellsB t1)) λo=>ls<|Bh (e:=130) (sz:=4) [i6 G0.Kind,Ac V0,i6 G0.N,i6 G0.At] o rfl u rfl rfl rfl (λw=>by kernel_rfl) λQ3 w a u o=>?_
 have Y1:Rows (α:=api_Token) H [i6 G0.Kind,Ac V0,i6 G0.N,i6 G0.At] ([(api_Token.mk G0.Kind V0 G0.N G0.At)]:List api_Token):=(.cons (c:=[i6 G0.Kind,Ac V0,i6 G0.N,i6 G0.At]) ⟨_,_,rfl,rfl,⟨_,_,rfl,rfl,⟨_,_,rfl,rfl,rfl⟩⟩⟩ .nil)
 refine ls<|Bw (α:=api_Token) (xs:=E0) (ys:=([(api_Token.mk G0.Kind V0 G0.N G0.At)]:List api_Token)) o rfl u underlying120 Wj rfl (by decide) rfl rfl rfl t1 Q1 (u.rdO t0) Y1 D3 λB2 S1 C2 w a E2 hU o=>?_
 replace u:=hU _ (.tail .head)
 replace u:=u.drop .head
 refine qa o rfl λo=>re<|tn<|?_
 obtain ⟨E3,F3,hm⟩:=bs hm
 refine rg<|qm o rfl λo=>qm o rfl λo=>ls<|cr o call135 (Ye (Ai _) F3) u λu o=>qa o rfl λo=>re<|bn<|tn<|?_
 replace u:=u.pk [0] rfl
 exact ⟨(K0,C3,E3),⟨B2,S1,C2,hm,o.hs,u,E2⟩,Nat.lt_succ_self _⟩
 refine tn<|cfv o rfl R1<|we<|tx<|tx<|bx<|tn<|?_
 exact ⟨E0,F0,D0,J0,hm,o.has ⟨rfl,trivial⟩,u,Q1⟩
 rintro a w ⟨U0,W0,S0,X0,hm,o,u,F2⟩
 unfold Z1g at hm
 refine th<|rg<|qm o rfl λo=>?_
 iterate 3 refine qa o rfl λo=>?_
 refine re<|tn<|wr<|?_
 obtain rfl:=si hm
 exact Go.LM.r3 o results101 rfl rfl rfl ⟨_,_,_,rfl,(λ_=>Rows.ind F2),u.endFresh t0⟩
theorem Ge (hH:H.le w0) {F0:Option Addr} {E0:Nat} {p1:(List api_Token)} (_:p1.length≤E0) (I0:SR H F0 p1) {p6:Int} {p7:Str} {r:Bool} (hm:Z15 N p1 p6 p7=some r):Tot Tryz.prog 139 #[SL F0 p1 E0,i6 p6,Ac p7] w0 (λv w'=>v=.bool r∧Keep Nil w0 w'):=by
 unfold Z15 at hm
 refine fn0 func139 rfl ntmps139 rfl rfl λa o=>?_
 have u:St w0 Nil [H] [] w0:=start1 hH
 refine th<|rg<|qa o rfl λo=>re<|tn<|th<|?_
 rcases bit hm with ⟨J0,hm⟩ | ⟨J0,hm⟩
 obtain ⟨C0,D0,hm⟩:=bs hm
 obtain ⟨M0,K0,G0⟩:=SR.get I0 D0
 obtain rfl:=Bb K0
 refine rg<|qm o rfl λo=>qv o (Bl o rfl rfl) λo=>qm o rfl λo=>gr (Fk:=[(0,SL F0 p1 E0),(1,i6 p6),(2,Ac p7),(14,.bool ((decide (0≤p6)) && (decide (p6 < (p1.length:Int)))))]) 9 5 o u ?_ ?_ ?_
 intro hb o key
 iterate 2 refine qg o (Ab o rfl) λo=>?_
 exact qg o (Ak (α:=api_Token) (xs:=p1) o runUnderlying120 rfl) λo=>qg o (Ao o rfl rfl) λo=>qk o (Ad o rfl rfl) key u hb
 intro hb o key
 iterate 4 refine qn o λo=>?_
 exact qk o (Ae o rfl rfl) key u hb
 intro a w o u
 refine qv o (Ar (Ab o rfl) (congrArg Value.bool J0)) λo=>?_
 iterate 2 refine qg o (Ab o rfl) λo=>?_
 refine qg o (Am o runUnderlying120 sizeOf130 rfl rfl D0 (SR.oaI I0 (by decide) D0)) λo=>qg o (Af o Em rfl) λo=>qg o (Ag o isAgg9 rfl (PH.le.cell (Lds.le u.ld) (G0 1 _ rfl))) λo=>qg o (Ab o rfl) λo=>qg o (Eg (m:=C0.Text) (n:=p7) o rfl rfl) λo=>qv o (Ad o rfl rfl) λo=>qm o rfl λo=>gr (Fk:=[(0,SL F0 p1 E0),(1,i6 p6),(31,.bool ((decide (C0.Text=p7)) && (decide (C0.Kind≠2))))]) 24 7 o u ?_ ?_ ?_
 intro hb o key
 iterate 2 refine qg o (Ab o rfl) λo=>?_
 exact qg o (Am o runUnderlying120 sizeOf130 rfl rfl D0 (SR.oaI I0 (by decide) D0)) λo=>qg o (Af o Cr rfl) λo=>qg o (Ag o isAgg3 rfl (PH.le.cell (Lds.le u.ld) (G0 0 _ rfl))) λo=>qg o (Bt o rfl rfl) λo=>qk o (Ad o rfl rfl) key u hb
 intro hb o key
 iterate 6 refine qn o λo=>?_
 exact qk o (Ae o rfl rfl) key u hb
 intro a w o u
 refine qm o rfl λo=>gr (Fk:=[(0,SL F0 p1 E0),(1,i6 p6),(39,.bool (((decide (C0.Text=p7)) && (decide (C0.Kind≠2))) && (decide (1≤C0.Kind))))]) 32 7 o u ?_ ?_ ?_
 intro hb o key
 iterate 2 refine qg o (Ab o rfl) λo=>?_
 exact qg o (Am o runUnderlying120 sizeOf130 rfl rfl D0 (SR.oaI I0 (by decide) D0)) λo=>qg o (Af o Cr rfl) λo=>qg o (Ag o isAgg3 rfl (PH.le.cell (Lds.le u.ld) (G0 0 _ rfl))) λo=>qg o (Bl o rfl rfl) λo=>qk o (Ad o rfl rfl) key u hb
 intro hb o key
 iterate 6 refine qn o λo=>?_
 exact qk o (Ae o rfl rfl) key u hb
 intro a w o u
 refine qm o rfl λo=>gr (Fk:=[(47,.bool ((((decide (C0.Text=p7)) && (decide (C0.Kind≠2))) && (decide (1≤C0.Kind))) && (decide (C0.Kind≤3))))]) 40 7 o u ?_ ?_ ?_
 intro hb o key
 iterate 2 refine qg o (Ab o rfl) λo=>?_
 exact qg o (Am o runUnderlying120 sizeOf130 rfl rfl D0 (SR.oaI I0 (by decide) D0)) λo=>qg o (Af o Cr rfl) λo=>qg o (Ag o isAgg3 rfl (PH.le.cell (Lds.le u.ld) (G0 0 _ rfl))) λo=>qg o (Dc o rfl rfl) λo=>qk o (Ad o rfl rfl) key u hb
 intro hb o key
 iterate 6 refine qn o λo=>?_
 exact qk o (Ae o rfl rfl) key u hb
 intro a w o u
 refine qa o rfl λo=>re<|tn<|wr<|?_
 obtain rfl:=si hm
 exact r1 o results139 rfl ⟨rfl,u.keep⟩
 refine rg<|qm o rfl λo=>qv o (Bl o rfl rfl) λo=>qm o rfl λo=>gr (Fk:=[(0,SL F0 p1 E0),(1,i6 p6),(2,Ac p7),(14,.bool ((decide (0≤p6)) && (decide (p6 < (p1.length:Int)))))]) 9 5 o u ?_ ?_ ?_
 intro hb o key
 iterate 2 refine qg o (Ab o rfl) λo=>?_
 exact qg o (Ak (α:=api_Token) (xs:=p1) o runUnderlying120 rfl) λo=>qg o (Ao o rfl rfl) λo=>qk o (Ad o rfl rfl) key u hb
 intro hb o key
 iterate 4 refine qn o λo=>?_
 exact qk o (Ae o rfl rfl) key u hb
 intro a w o u
 refine qv o (Ar (Ab o rfl) (congrArg Value.bool J0)) λo=>?_
 iterate 7 refine qn o λo=>?_
 refine qv o (Ae o rfl rfl) λo=>qm o rfl λo=>?_
 iterate 6 refine qn o λo=>?_
 refine qv o (Ae o rfl rfl) λo=>qm o rfl λo=>?_
 iterate 6 refine qn o λo=>?_
 refine qv o (Ae o rfl rfl) λo=>qm o rfl λo=>?_
 iterate 6 refine qn o λo=>?_
 refine qv o (Ae o rfl rfl) λo=>qa o rfl λo=>re<|tn<|wr<|?_
 obtain rfl:=si hm
 exact r1 o results139 rfl ⟨rfl,u.keep⟩
end Go.LM.LB
