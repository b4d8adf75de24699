/- Walks, lifted by program. No condition beyond the theorems' own premises. -/
import Derived.Test.YtbblmeecfimnkaaGreatDoorBMQ4
namespace Go.LM.BINZ
open Go Go.LL Go.MD Go.LM Go.Proofs Go.MD.BINZ Go.Proofs.Tryz
set_option maxRecDepth 100000
variable {N:Nat} {w0:World} {H:PH}
theorem Jdq (hH:H.le w0) {F0:Option Addr} {C0:Nat} {p1:(List api_Stmt)} (X0:p1.length≤C0) (I0:SR H F0 p1) {r:Bool} (hm:Z2t N p1=some r):Tot Tryz.prog 139 #[SL F0 p1 C0] w0 (λv w'=>v=.bool r∧Keep Nil w0 w'):=by
 unfold Z2t at hm
 refine fn0 func139 rfl ntmps139 rfl rfl λa o=>?_
 have u:St w0 Nil [H] [] w0:=start1 hH
 refine th<|rg<|qa o rfl λo=>re<|tn<|th<|th<|rg<|qm o rfl λo=>qv o (Aj (α:=api_Stmt) (xs:=p1) o runUnderlying106 rfl) λo=>qv o (Ba o rfl rfl) λo=>re<|?_
 rcases bip hm with ⟨J0,hm⟩ | ⟨J0,hm⟩
 refine tn<|ctv o rfl J0<|th<|rg<|qa o rfl λo=>re<|tn<|wr<|tr<|?_
 obtain rfl:=si hm
 exact r1 o results139 rfl ⟨rfl,u.keep⟩
 refine tn<|cfv o rfl J0<|wk<|tn<|th<|th<|rg<|qa o rfl λo=>re<|tn<|Av (λa w=>(Z2u N p1)=some r∧Fr 28 [(0,SL F0 p1 C0)] a∧St w0 Nil [H] [] w) ?_ ?_
 refine wb<|lp (α:=Nat×Int) (λgh a w=>match gh with | (D0,G0)=>(Z2v N (Z2u N p1) p1) D0 G0=some r∧Fr 28 [(0,SL F0 p1 C0),(3,i6 G0)] a∧St w0 Nil [H] [] w) (λgh=>gh.1) (N,0) ⟨hm,o.has ⟨rfl,rfl,trivial⟩,u⟩ ?_
 rintro ⟨D0,G0⟩ a w ⟨hm,o,u⟩
 obtain _ | D0:=D0
 simp [Z2v] at hm
 rw [Z2v] at hm
 refine th<|th<|rg<|qm o rfl λo=>qm o rfl λo=>qv o (Aj (α:=api_Stmt) (xs:=p1) o runUnderlying106 rfl) λo=>qv o (Ak o rfl rfl) λo=>re<|?_
 rcases bip hm with ⟨K0,hm⟩ | ⟨K0,hm⟩
 refine tn<|ctv o rfl K0<|wk<|tn<|th<|wb<|th<|?_
 obtain ⟨A0,h9,hm⟩:=bs hm
 obtain ⟨u0,Y0,Q0⟩:=SR.get I0 h9
 obtain ⟨R0,M0,S0,O0,rfl,T0,U0,V0,W0⟩:=Bs Y0
 obtain ⟨B1,j0,hm⟩:=bs hm
 refine rg<|qm o rfl λo=>qm o rfl λo=>qv o (Al o runUnderlying106 sizeOf140 rfl rfl h9 (SR.oaI I0 (by decide) h9)) λo=>qv o (Ar o isAgg140 sizeOf140 rfl rfl (λj v hj=>PH.le.cell (Lds.le u.ld) (Q0 j v hj))) λo=>ls<|cr o call149 (Jcj (Ah _) (Enc.mono (St.up u) (show Enc.rep (α:=api_Stmt) H [i6 A0.Kind,Ag A0.Reg,Ag A0.Name,SL R0 A0.E M0,SL S0 A0.F O0,i6 A0.N,i6 A0.Body,i6 A0.Else,i6 A0.At] A0 from ⟨_,_,rfl,rfl,⟨_,_,rfl,rfl,⟨_,_,rfl,rfl,⟨_,_,rfl,⟨_,_,rfl,T0,U0⟩,⟨_,_,rfl,⟨_,_,rfl,V0,W0⟩,⟨_,_,rfl,rfl,⟨_,_,rfl,rfl,⟨_,_,rfl,rfl,rfl⟩⟩⟩⟩⟩⟩⟩⟩)) j0) u λu o=>qv o (A9 o rfl) λo=>re<|?_
 rcases bit hm with ⟨E0,hm⟩ | ⟨E0,hm⟩
 refine tn<|cfv o rfl (by rw [E0];rfl)<|wk<|bn<|tn<|rg<|qm o rfl λo=>qv o (An o rfl rfl) λo=>qa o rfl λo=>re<|tn<|?_
 exact ⟨(D0,(IntKind.i64.wrap (G0+1))),⟨hm,o.has ⟨rfl,rfl,trivial⟩,u⟩,Nat.lt_succ_self _⟩
 refine tn<|ctv o rfl (by rw [E0];rfl)<|th<|rg<|qa o rfl λo=>re<|tn<|wr<|br<|tr<|tr<|br<|tr<|?_
 obtain rfl:=si hm
 exact r1 o results139 rfl ⟨rfl,u.keep⟩
 refine tn<|cfv o rfl K0<|we<|tx<|tx<|bx<|tn<|?_
 exact ⟨hm,o.has ⟨rfl,trivial⟩,u⟩
 rintro a w ⟨hm,o,u⟩
 unfold Z2u at hm
 refine th<|?_
 obtain ⟨P0,n0,hm⟩:=bs hm
 refine rg<|qm o rfl λo=>ls<|cr o call150 (Jdy _ (Ah _) X0 (St.srH u I0) n0) u λu o=>qa o rfl λo=>re<|tn<|th<|rg<|qm o rfl λo=>qv o (Bo o rfl rfl) λo=>qm o rfl λo=>gr (Fk:=[(27,.bool ((decide (0≤P0)) && (decide (P0≤12))))]) 24 3 o u ?_ ?_ ?_
 intro hb o key
 exact qg o (Ab o rfl) λo=>qg o (Dt o rfl rfl) λo=>qk o (Ac o rfl rfl) key u hb
 intro hb o key
 iterate 2 refine qn o λo=>?_
 exact qk o (Ad o rfl rfl) key u hb
 intro a w o u
 refine qa o rfl λo=>re<|tn<|wr<|?_
 obtain rfl:=si hm
 exact r1 o results139 rfl ⟨rfl,u.keep⟩
set_option maxHeartbeats 4000000 in
theorem Wj (hH:H.le w0) {F0:Option Addr} {C0:Nat} {p1:(List api_Thread)} (K2:p1.length≤C0) (D0:SR H F0 p1) {p6:Bool} {r:Bool} (hm:Z3j N p1 p6=some r):Tot Tryz.prog 122 #[SL F0 p1 C0,.bool p6] w0 (λv w'=>v=.bool r∧Keep Nil w0 w'):=by
 unfold Z3j at hm
 refine fn0 func122 rfl ntmps122 rfl rfl λa o=>?_
 have u:St w0 Nil [H] [] w0:=start1 hH
 refine th<|rg<|qa o rfl λo=>re<|tn<|th<|th<|rg<|qa o rfl λo=>re<|tn<|Av (λa w=>Z3k=some r∧Fr 71 [] a∧St w0 Nil [H] [] w) ?_ ?_
 refine wb<|lp (α:=Nat×Int) (λgh a w=>match gh with | (I0,A0)=>(Z3n N Z3k p1 p6) I0 A0=some r∧Fr 71 [(0,SL F0 p1 C0),(1,.bool p6),(5,i6 A0)] a∧St w0 Nil [H] [] w) (λgh=>gh.1) (N,0) ⟨hm,o.hs,u⟩ ?_
 rintro ⟨I0,A0⟩ a w ⟨hm,o,u⟩
 obtain _ | I0:=I0
 simp [Z3n] at hm
 rw [Z3n] at hm
 refine th<|th<|rg<|qm o rfl λo=>qm o rfl λo=>qv o (Aj (α:=api_Thread) (xs:=p1) o runUnderlying45 rfl) λo=>qv o (Ak o rfl rfl) λo=>re<|?_
 rcases bip hm with ⟨T0,hm⟩ | ⟨T0,hm⟩
 refine tn<|ctv o rfl T0<|wk<|tn<|th<|Av (λa w=>(Z3l (Z3n N Z3k p1 p6 I0) A0)=some r∧Fr 71 [(0,SL F0 p1 C0),(1,.bool p6),(5,i6 A0)] a∧St w0 Nil [H] [] w) ?_ ?_
 refine wb<|th<|th<|Av (λa w=>∃ (U0:Bool),(Z3m N (Z3l (Z3n N Z3k p1 p6 I0) A0) p1 A0) U0=some r∧Fr 71 [(0,SL F0 p1 C0),(1,.bool p6),(5,i6 A0),(50,.bool U0)] a∧St w0 Nil [H] [] w) ?_ ?_
 obtain ⟨G0,h9,hm⟩:=bs hm
 obtain ⟨O2,E1,E0⟩:=SR.get D0 h9
 obtain ⟨Y1,T1,u1,U1,rfl,B2,C2,B1,C1⟩:=Bg E1
 obtain ⟨V0,W0,hm⟩:=bs hm
 rcases bit hm with ⟨J0,hm⟩ | ⟨J0,hm⟩
 refine rg<|qm o rfl λo=>?_
 iterate 2 refine qm o rfl λo=>?_
 refine qv o (Al o runUnderlying45 sizeOf108 rfl rfl h9 (SR.oaI D0 (by decide) h9)) λo=>qv o (Ae o Ft rfl) λo=>qv o (Af o isAgg9 rfl (PH.le.cell (Lds.le u.ld) (E0 0 _ rfl))) λo=>ls<|cr o call126 (Ja (Ah _) W0) u λu o=>qv o (Hi o runUnderlying4 rfl rfl) λo=>qm o rfl λo=>gr (Fk:=[(0,SL F0 p1 C0),(1,.bool p6),(5,i6 A0),(32,.bool ((p6 != V0) || ((!p6) && (decide (G0.Name≠[])))))]) 21 11 o u ?_ ?_ ?_
 intro hb o key
 iterate 3 refine qn o λo=>?_
 iterate 6 refine ls<|gnu o rfl rfl rfl λa o=>?_
 exact qn o λo=>qk o (Ac o rfl rfl) key u hb
 intro hb o key
 refine qg o (Ab o rfl) λo=>qg o (A9 o rfl) λo=>qg o (Ab o rfl) λo=>gr (Fk:=[(0,SL F0 p1 C0),(1,.bool p6),(5,i6 A0),(21,.bool false),(31,.bool ((!p6) && (decide (G0.Name≠[]))))]) 24 7 o u ?_ ?_ ?_
 intro hb o key
 iterate 2 refine qg o (Ab o rfl) λo=>?_
 exact qg o (Al o runUnderlying45 sizeOf108 rfl rfl h9 (SR.oaI D0 (by decide) h9)) λo=>qg o (Ae o Ft rfl) λo=>qg o (Af o isAgg9 rfl (PH.le.cell (Lds.le u.ld) (E0 0 _ rfl))) λo=>qg o (E9 (m:=G0.Name) (n:=[]) o rfl rfl) λo=>ql o (Ac o rfl rfl) key u hb
 intro hb o key
 iterate 6 refine qn o λo=>?_
 exact ql o (Ad o rfl rfl) key u hb
 intro a w o u
 exact qk o (Ad o rfl rfl) key u hb
 intro a w o u
 refine qv o (Ax (Ab o rfl) (congrArg Value.bool J0)) λo=>?_
 iterate 7 refine qn o λo=>?_
 refine qv o (Ac o rfl rfl) λo=>qm o rfl λo=>?_
 iterate 7 refine qn o λo=>?_
 refine qv o (Ac o rfl rfl) λo=>re<|tn<|?_
 exact ⟨true,hm,o.hs,u⟩
 obtain ⟨n0,u0,hm⟩:=bs hm
 rcases bit hm with ⟨O0,hm⟩ | ⟨O0,hm⟩
 have O0':(!n0)=false:=by rw [O0];rfl
 obtain ⟨F1,I1,hm⟩:=bs hm
 refine rg<|qm o rfl λo=>?_
 iterate 2 refine qm o rfl λo=>?_
 refine qv o (Al o runUnderlying45 sizeOf108 rfl rfl h9 (SR.oaI D0 (by decide) h9)) λo=>qv o (Ae o Ft rfl) λo=>qv o (Af o isAgg9 rfl (PH.le.cell (Lds.le u.ld) (E0 0 _ rfl))) λo=>ls<|cr o call126 (Ja (Ah _) W0) u λu o=>qv o (Hi o runUnderlying4 rfl rfl) λo=>qm o rfl λo=>gr (Fk:=[(0,SL F0 p1 C0),(1,.bool p6),(5,i6 A0),(32,.bool ((p6 != V0) || ((!p6) && (decide (G0.Name≠[])))))]) 21 11 o u ?_ ?_ ?_
 intro hb o key
 iterate 3 refine qn o λo=>?_
 iterate 6 refine ls<|gnu o rfl rfl rfl λa o=>?_
 exact qn o λo=>qk o (Ac o rfl rfl) key u hb
 intro hb o key
 refine qg o (Ab o rfl) λo=>qg o (A9 o rfl) λo=>qg o (Ab o rfl) λo=>gr (Fk:=[(0,SL F0 p1 C0),(1,.bool p6),(5,i6 A0),(21,.bool false),(31,.bool ((!p6) && (decide (G0.Name≠[]))))]) 24 7 o u ?_ ?_ ?_
 intro hb o key
 iterate 2 refine qg o (Ab o rfl) λo=>?_
 exact qg o (Al o runUnderlying45 sizeOf108 rfl rfl h9 (SR.oaI D0 (by decide) h9)) λo=>qg o (Ae o Ft rfl) λo=>qg o (Af o isAgg9 rfl (PH.le.cell (Lds.le u.ld) (E0 0 _ rfl))) λo=>qg o (E9 (m:=G0.Name) (n:=[]) o rfl rfl) λo=>ql o (Ac o rfl rfl) key u hb
 intro hb o key
 iterate 6 refine qn o λo=>?_
 exact ql o (Ad o rfl rfl) key u hb
 intro a w o u
 exact qk o (Ad o rfl rfl) key u hb
 intro a w o u
 refine qv o (Ax (Ab o rfl) (congrArg Value.bool J0)) λo=>?_
 iterate 2 refine qg o (Ab o rfl) λo=>?_
 refine qg o (Al o runUnderlying45 sizeOf108 rfl rfl h9 (SR.oaI D0 (by decide) h9)) λo=>qg o (Ae o Kg rfl) λo=>qg o (Af o isAgg3 rfl (PH.le.cell (Lds.le u.ld) (E0 3 _ rfl))) λo=>ls<|gy o rfl rfl<|cr o call121 (Qb (Ah _) u0) u λu o=>qg o (A9 o rfl) λo=>qv o (Ad o rfl rfl) λo=>qv o (Ax (Ab o rfl) (congrArg Value.bool O0')) λo=>?_
 iterate 2 refine qg o (Ab o rfl) λo=>?_
 refine qg o (Al o runUnderlying45 sizeOf108 rfl rfl h9 (SR.oaI D0 (by decide) h9)) λo=>qg o (Ae o Hv rfl) λo=>qg o (Af o isAgg106 rfl (PH.le.cell (Lds.le u.ld) (E0 2 _ rfl))) λo=>ls<|gy o rfl rfl<|cr o call139 (Jdq (Ah _) B1 (St.srH u C1) I1) u λu o=>qg o (A9 o rfl) λo=>qv o (Ad o rfl rfl) λo=>re<|tn<|?_
 exact ⟨(!F1),hm,o.hs,u⟩
 have O0':(!n0)=true:=by rw [O0];rfl
 refine rg<|qm o rfl λo=>?_
 iterate 2 refine qm o rfl λo=>?_
 refine qv o (Al o runUnderlying45 sizeOf108 rfl rfl h9 (SR.oaI D0 (by decide) h9)) λo=>qv o (Ae o Ft rfl) λo=>qv o (Af o isAgg9 rfl (PH.le.cell (Lds.le u.ld) (E0 0 _ rfl))) λo=>ls<|cr o call126 (Ja (Ah _) W0) u λu o=>qv o (Hi o runUnderlying4 rfl rfl) λo=>qm o rfl λo=>gr (Fk:=[(0,SL F0 p1 C0),(1,.bool p6),(5,i6 A0),(32,.bool ((p6 != V0) || ((!p6) && (decide (G0.Name≠[])))))]) 21 11 o u ?_ ?_ ?_
 intro hb o key
 iterate 3 refine qn o λo=>?_
 iterate 6 refine ls<|gnu o rfl rfl rfl λa o=>?_
 exact qn o λo=>qk o (Ac o rfl rfl) key u hb
 intro hb o key
 refine qg o (Ab o rfl) λo=>qg o (A9 o rfl) λo=>qg o (Ab o rfl) λo=>gr (Fk:=[(0,SL F0 p1 C0),(1,.bool p6),(5,i6 A0),(21,.bool false),(31,.bool ((!p6) && (decide (G0.Name≠[]))))]) 24 7 o u ?_ ?_ ?_
 intro hb o key
 iterate 2 refine qg o (Ab o rfl) λo=>?_
 exact qg o (Al o runUnderlying45 sizeOf108 rfl rfl h9 (SR.oaI D0 (by decide) h9)) λo=>qg o (Ae o Ft rfl) λo=>qg o (Af o isAgg9 rfl (PH.le.cell (Lds.le u.ld) (E0 0 _ rfl))) λo=>qg o (E9 (m:=G0.Name) (n:=[]) o rfl rfl) λo=>ql o (Ac o rfl rfl) key u hb
 intro hb o key
 iterate 6 refine qn o λo=>?_
 exact ql o (Ad o rfl rfl) key u hb
 intro a w o u
 exact qk o (Ad o rfl rfl) key u hb
 intro a w o u
 refine qv o (Ax (Ab o rfl) (congrArg Value.bool J0)) λo=>?_
 iterate 2 refine qg o (Ab o rfl) λo=>?_
 refine qg o (Al o runUnderlying45 sizeOf108 rfl rfl h9 (SR.oaI D0 (by decide) h9)) λo=>qg o (Ae o Kg rfl) λo=>qg o (Af o isAgg3 rfl (PH.le.cell (Lds.le u.ld) (E0 3 _ rfl))) λo=>ls<|gy o rfl rfl<|cr o call121 (Qb (Ah _) u0) u λu o=>qg o (A9 o rfl) λo=>qv o (Ad o rfl rfl) λo=>qv o (Ax (Ab o rfl) (congrArg Value.bool O0')) λo=>?_
 iterate 7 refine qn o λo=>?_
 refine qv o (Ac o rfl rfl) λo=>re<|tn<|?_
 exact ⟨true,hm,o.hs,u⟩
 rintro a w ⟨U0,hm,o,u⟩
 unfold Z3m at hm
 rcases bit hm with ⟨P0,hm⟩ | ⟨P0,hm⟩
 refine ctv o rfl P0<|th<|rg<|qa o rfl λo=>re<|tn<|wr<|tr<|br<|tr<|tr<|br<|tr<|?_
 obtain rfl:=si hm
 exact r1 o results122 rfl ⟨rfl,u.keep⟩
 refine cfv o rfl P0<|wk<|tn<|th<|rg<|qa o rfl λo=>re<|tn<|wb<|lp (α:=Nat×Int) (λgh a w=>match gh with | (K0,S0)=>(Z3o N (Z3l (Z3n N Z3k p1 p6 I0) A0) p1 A0) K0 S0=some r∧Fr 71 [(0,SL F0 p1 C0),(1,.bool p6),(5,i6 A0),(6,i6 S0)] a∧St w0 Nil [H] [] w) (λgh=>gh.1) (N,0) ⟨hm,o.hs,u⟩ ?_
 rintro ⟨K0,S0⟩ a w ⟨hm,o,u⟩
 obtain _ | K0:=K0
 simp [Z3o] at hm
 rw [Z3o] at hm
 refine th<|th<|?_
 obtain ⟨J1,M0,hm⟩:=bs hm
 obtain ⟨P2,O1,X0⟩:=SR.get D0 M0
 obtain ⟨E2,V1,F2,X1,rfl,G2,Y0,I2,J2⟩:=Bg O1
 refine rg<|qm o rfl λo=>?_
 iterate 2 refine qm o rfl λo=>?_
 refine qv o (Al o runUnderlying45 sizeOf108 rfl rfl M0 (SR.oaI D0 (by decide) M0)) λo=>qv o (Ae o Cp rfl) λo=>qv o (Af o isAgg92 rfl (PH.le.cell (Lds.le u.ld) (X0 1 _ rfl))) λo=>qv o (Aj (α:=Str) (xs:=J1.Regs) o runUnderlying92 rfl) λo=>qv o (Ak o rfl rfl) λo=>re<|?_
 rcases bip hm with ⟨Q0,hm⟩ | ⟨Q0,hm⟩
 refine tn<|ctv o rfl Q0<|wk<|tn<|th<|wb<|th<|?_
 obtain ⟨P1,j0,hm⟩:=bs hm
 obtain ⟨Q1,R1,D1⟩:=SR.get Y0 j0
 obtain rfl:Q1=[Ag P1]:=R1
 obtain ⟨Q2,S1,hm⟩:=bs hm
 refine rg<|qm o rfl λo=>qm o rfl λo=>qv o (Al o runUnderlying45 sizeOf108 rfl rfl M0 (SR.oaI D0 (by decide) M0)) λo=>qv o (Ae o Cp rfl) λo=>qv o (Af o isAgg92 rfl (PH.le.cell (Lds.le u.ld) (X0 1 _ rfl))) λo=>qm o rfl λo=>qv o (Al o runUnderlying92 sizeOf9 rfl rfl j0 (SR.oaI Y0 (by decide) j0)) λo=>qv o (Af o isAgg9 rfl (PH.le.cell (Lds.le u.ld) (D1 0 _ rfl))) λo=>ls<|cr o call126 (Ja (Ah _) S1) u λu o=>qv o (A9 o rfl) λo=>re<|?_
 rcases bit hm with ⟨R0,hm⟩ | ⟨R0,hm⟩
 refine tn<|cfv o rfl (by rw [R0];rfl)<|wk<|bn<|tn<|rg<|qm o rfl λo=>qv o (An o rfl rfl) λo=>qa o rfl λo=>re<|tn<|?_
 exact ⟨(K0,(IntKind.i64.wrap (S0+1))),⟨hm,o.hs,u⟩,Nat.lt_succ_self _⟩
 refine tn<|ctv o rfl (by rw [R0];rfl)<|th<|rg<|qa o rfl λo=>re<|tn<|wr<|br<|tr<|tr<|br<|br<|tr<|tr<|br<|tr<|?_
 obtain rfl:=si hm
 exact r1 o results122 rfl ⟨rfl,u.keep⟩
 refine tn<|cfv o rfl Q0<|we<|tx<|tx<|bx<|bn<|tn<|?_
 exact ⟨hm,o.hs,u⟩
 rintro a w ⟨hm,o,u⟩
 unfold Z3l at hm
 refine rg<|qm o rfl λo=>qv o (An o rfl rfl) λo=>qa o rfl λo=>re<|tn<|?_
 exact ⟨(I0,(IntKind.i64.wrap (A0+1))),⟨hm,o.hs,u⟩,Nat.lt_succ_self _⟩
 refine tn<|cfv o rfl T0<|we<|tx<|tx<|bx<|tn<|?_
 exact ⟨hm,o.has trivial,u⟩
 rintro a w ⟨hm,o,u⟩
 unfold Z3k at hm
 refine th<|rg<|qa o rfl λo=>re<|tn<|wr<|?_
 obtain rfl:=si hm
 exact r1 o results122 rfl ⟨rfl,u.keep⟩
set_option maxHeartbeats 4000000 in
theorem JcX (hH:H.le w0) {cs2:List Value} {p1:api_Prog} (g3:Enc.rep H cs2 p1) {r:Bool} (hm:Z37 N p1=some r):Tot Tryz.prog 85 #[.agg cs2.toArray] w0 (λv w'=>v=.bool r∧Keep Nil w0 w'):=by
 unfold Z37 at hm
 refine fn0 func85 rfl ntmps85 rfl rfl λa o=>?_
 have u:St w0 Nil [H] [] w0:=start1 hH
 obtain ⟨P0,G0,Q0,I0,J0,A0,K0,C0,M0,D0,O0,E0,rfl,E3,S1,Y0,j0,B1,C1,U1,V1,G2,I2,B3,n0⟩:=Bc g3
 refine th<|rg<|ls<|Br (cs:=[SL P0 p1.Lines G0,SL Q0 p1.Vols I0,SL J0 p1.Locks A0,SL K0 p1.Threads C0,SL M0 p1.Recover D0,SL O0 p1.Claims E0].toArray) o rfl u rfl rfl λF0 w a u o=>qa o rfl λo=>re<|tn<|th<|th<|rg<|qa o rfl λo=>re<|tn<|Av (λa w=>(Z38 N p1)=some r∧Fr 77 [(1,PT F0)] a∧St w0 Nil [H] [bk F0 [SL P0 p1.Lines G0,SL Q0 p1.Vols I0,SL J0 p1.Locks A0,SL K0 p1.Threads C0,SL M0 p1.Recover D0,SL O0 p1.Claims E0] 48] w) ?_ ?_
 refine wb<|lp (α:=Nat×Int) (λgh a w=>match gh with | (U0,V0)=>(Z3c N (Z38 N p1) p1) U0 V0=some r∧Fr 77 [(1,PT F0),(3,i6 V0)] a∧St w0 Nil [H] [bk F0 [SL P0 p1.Lines G0,SL Q0 p1.Vols I0,SL J0 p1.Locks A0,SL K0 p1.Threads C0,SL M0 p1.Recover D0,SL O0 p1.Claims E0] 48] w) (λgh=>gh.1) (N,0) ⟨hm,o.has ⟨rfl,rfl,trivial⟩,u⟩ ?_
 rintro ⟨U0,V0⟩ a w ⟨hm,o,u⟩
 obtain _ | U0:=U0
 simp [Z3c] at hm
 rw [Z3c] at hm
 refine th<|th<|rg<|qm o rfl λo=>qv o (Ae o Dl rfl) λo=>qv o (Af o isAgg43 rfl (u.ld.cellB t0 rfl)) λo=>qv o (Aj (α:=(List api_Cell)) (xs:=p1.Lines) o runUnderlying43 rfl) λo=>qv o (Ak o rfl rfl) λo=>re<|?_
 rcases bip hm with ⟨D1,hm⟩ | ⟨D1,hm⟩
 refine tn<|ctv o rfl D1<|wk<|tn<|th<|wb<|th<|Av (λa w=>∃ (X1:Bool),(Z39 (Z3c N (Z38 N p1) p1 U0) V0) X1=some r∧Fr 77 [(1,PT F0),(3,i6 V0),(27,.bool X1)] a∧St w0 Nil [H] [bk F0 [SL P0 p1.Lines G0,SL Q0 p1.Vols I0,SL J0 p1.Locks A0,SL K0 p1.Threads C0,SL M0 p1.Recover D0,SL O0 p1.Claims E0] 48] w) ?_ ?_
 obtain ⟨B2,R0,hm⟩:=bs hm
 obtain ⟨F3,Q2,E1⟩:=SR.get S1 R0
 obtain ⟨C3,u2,rfl,J2,K2⟩:=Q2
 rcases bip hm with ⟨F1,hm⟩ | ⟨F1,hm⟩
 refine rg<|qv o (Ae o Dl rfl) λo=>qv o (Af o isAgg43 rfl (u.ld.cellB t0 rfl)) λo=>qm o rfl λo=>qv o (Al o runUnderlying43 sizeOf44 rfl rfl R0 (SR.oaI S1 (by decide) R0)) λo=>qv o (Af o isAgg44 rfl (PH.le.cell (Lds.le u.ld) (E1 0 _ rfl))) λo=>qv o (Aj (α:=api_Cell) (xs:=B2) o runUnderlying44 rfl) λo=>qv o (Aq o rfl rfl) λo=>qv o (Ax (Ab o rfl) (congrArg Value.bool F1)) λo=>?_
 iterate 7 refine qn o λo=>?_
 refine qv o (Ac o rfl rfl) λo=>re<|tn<|?_
 exact ⟨true,hm,o.hs,u⟩
 obtain ⟨R2,T2,hm⟩:=bs hm
 refine rg<|qv o (Ae o Dl rfl) λo=>qv o (Af o isAgg43 rfl (u.ld.cellB t0 rfl)) λo=>qm o rfl λo=>qv o (Al o runUnderlying43 sizeOf44 rfl rfl R0 (SR.oaI S1 (by decide) R0)) λo=>qv o (Af o isAgg44 rfl (PH.le.cell (Lds.le u.ld) (E1 0 _ rfl))) λo=>qv o (Aj (α:=api_Cell) (xs:=B2) o runUnderlying44 rfl) λo=>qv o (Aq o rfl rfl) λo=>qv o (Ax (Ab o rfl) (congrArg Value.bool F1)) λo=>qg o (Ae o Dl rfl) λo=>qg o (Af o isAgg43 rfl (u.ld.cellB t0 rfl)) λo=>qg o (Ab o rfl) λo=>qg o (Al o runUnderlying43 sizeOf44 rfl rfl R0 (SR.oaI S1 (by decide) R0)) λo=>qg o (Af o isAgg44 rfl (PH.le.cell (Lds.le u.ld) (E1 0 _ rfl))) λo=>ls<|gy o rfl rfl<|cr o call120 (Lf (Ah _) J2 (St.srH u K2) T2) u λu o=>qg o (A9 o rfl) λo=>qv o (Ad o rfl rfl) λo=>re<|tn<|?_
 exact ⟨(!R2),hm,o.hs,u⟩
 rintro a w ⟨X1,hm,o,u⟩
 unfold Z39 at hm
 rcases bit hm with ⟨I1,hm⟩ | ⟨I1,hm⟩
 refine ctv o rfl I1<|th<|rg<|qa o rfl λo=>re<|tn<|wr<|br<|tr<|tr<|br<|tr<|?_
 obtain rfl:=si hm
 exact r1 o results85 rfl ⟨rfl,u.keep⟩
 refine cfv o rfl I1<|wk<|bn<|tn<|rg<|qm o rfl λo=>qv o (An o rfl rfl) λo=>qa o rfl λo=>re<|tn<|?_
 exact ⟨(U0,(IntKind.i64.wrap (V0+1))),⟨hm,o.has ⟨rfl,rfl,trivial⟩,u⟩,Nat.lt_succ_self _⟩
 refine tn<|cfv o rfl D1<|we<|tx<|tx<|bx<|tn<|?_
 exact ⟨hm,o.has ⟨rfl,trivial⟩,u⟩
 rintro a w ⟨hm,o,u⟩
 unfold Z38 at hm
 refine th<|th<|rg<|qa o rfl λo=>re<|tn<|Av (λa w=>(Z3a N p1)=some r∧Fr 77 [(1,PT F0)] a∧St w0 Nil [H] [bk F0 [SL P0 p1.Lines G0,SL Q0 p1.Vols I0,SL J0 p1.Locks A0,SL K0 p1.Threads C0,SL M0 p1.Recover D0,SL O0 p1.Claims E0] 48] w) ?_ ?_
 refine wb<|lp (α:=Nat×Int) (λgh a w=>match gh with | (W0,X0)=>(Z3d N (Z3a N p1) p1) W0 X0=some r∧Fr 77 [(1,PT F0),(4,i6 X0)] a∧St w0 Nil [H] [bk F0 [SL P0 p1.Lines G0,SL Q0 p1.Vols I0,SL J0 p1.Locks A0,SL K0 p1.Threads C0,SL M0 p1.Recover D0,SL O0 p1.Claims E0] 48] w) (λgh=>gh.1) (N,0) ⟨hm,o.has ⟨rfl,rfl,trivial⟩,u⟩ ?_
 rintro ⟨W0,X0⟩ a w ⟨hm,o,u⟩
 obtain _ | W0:=W0
 simp [Z3d] at hm
 rw [Z3d] at hm
 refine th<|th<|rg<|qm o rfl λo=>qv o (Ae o Ef rfl) λo=>qv o (Af o isAgg46 rfl (u.ld.cellB t0 rfl)) λo=>qv o (Aj (α:=api_Claim) (xs:=p1.Claims) o runUnderlying46 rfl) λo=>qv o (Ak o rfl rfl) λo=>re<|?_
 rcases bip hm with ⟨J1,hm⟩ | ⟨J1,hm⟩
 refine tn<|ctv o rfl J1<|wk<|tn<|th<|wb<|th<|Av (λa w=>∃ (Y1:Bool),(Z3b (Z3d N (Z3a N p1) p1 W0) X0) Y1=some r∧Fr 77 [(1,PT F0),(4,i6 X0),(52,.bool Y1)] a∧St w0 Nil [H] [bk F0 [SL P0 p1.Lines G0,SL Q0 p1.Vols I0,SL J0 p1.Locks A0,SL K0 p1.Threads C0,SL M0 p1.Recover D0,SL O0 p1.Claims E0] 48] w) ?_ ?_
 obtain ⟨G3,S0,hm⟩:=bs hm
 obtain ⟨I3,U2,O1⟩:=SR.get n0 S0
 obtain ⟨D3,A3,rfl,O2,P2⟩:=Eh U2
 obtain ⟨C2,E2,hm⟩:=bs hm
 rcases bit hm with ⟨P1,hm⟩ | ⟨P1,hm⟩
 have P1':(!C2)=false:=by rw [P1];rfl
 obtain ⟨V2,W2,hm⟩:=bs hm
 refine rg<|qv o (Ae o Ef rfl) λo=>qv o (Af o isAgg46 rfl (u.ld.cellB t0 rfl)) λo=>qm o rfl λo=>qv o (Al o runUnderlying46 sizeOf99 rfl rfl S0 (SR.oaI n0 (by decide) S0)) λo=>qv o (Ae o Sg rfl) λo=>qv o (Af o isAgg3 rfl (PH.le.cell (Lds.le u.ld) (O1 1 _ rfl))) λo=>ls<|cr o call121 (Qb (Ah _) E2) u λu o=>qv o (A9 o rfl) λo=>qv o (Ax (Ab o rfl) (congrArg Value.bool P1')) λo=>qg o (Ae o Ef rfl) λo=>qg o (Af o isAgg46 rfl (u.ld.cellB t0 rfl)) λo=>qg o (Ab o rfl) λo=>qg o (Al o runUnderlying46 sizeOf99 rfl rfl S0 (SR.oaI n0 (by decide) S0)) λo=>qg o (Ae o Ow rfl) λo=>qg o (Af o isAgg96 rfl (PH.le.cell (Lds.le u.ld) (O1 0 _ rfl))) λo=>ls<|gy o rfl rfl<|cr o call97 (Qq (Ah _) O2 (St.srH u P2) W2) u λu o=>qg o (A9 o rfl) λo=>qv o (Ad o rfl rfl) λo=>re<|tn<|?_
 exact ⟨(!V2),hm,o.hs,u⟩
 have P1':(!C2)=true:=by rw [P1];rfl
 refine rg<|qv o (Ae o Ef rfl) λo=>qv o (Af o isAgg46 rfl (u.ld.cellB t0 rfl)) λo=>qm o rfl λo=>qv o (Al o runUnderlying46 sizeOf99 rfl rfl S0 (SR.oaI n0 (by decide) S0)) λo=>qv o (Ae o Sg rfl) λo=>qv o (Af o isAgg3 rfl (PH.le.cell (Lds.le u.ld) (O1 1 _ rfl))) λo=>ls<|cr o call121 (Qb (Ah _) E2) u λu o=>qv o (A9 o rfl) λo=>qv o (Ax (Ab o rfl) (congrArg Value.bool P1')) λo=>?_
 iterate 8 refine qn o λo=>?_
 refine qv o (Ac o rfl rfl) λo=>re<|tn<|?_
 exact ⟨true,hm,o.hs,u⟩
 rintro a w ⟨Y1,hm,o,u⟩
 unfold Z3b at hm
 rcases bit hm with ⟨Q1,hm⟩ | ⟨Q1,hm⟩
 refine ctv o rfl Q1<|th<|rg<|qa o rfl λo=>re<|tn<|wr<|br<|tr<|tr<|br<|tr<|?_
 obtain rfl:=si hm
 exact r1 o results85 rfl ⟨rfl,u.keep⟩
 refine cfv o rfl Q1<|wk<|bn<|tn<|rg<|qm o rfl λo=>qv o (An o rfl rfl) λo=>qa o rfl λo=>re<|tn<|?_
 exact ⟨(W0,(IntKind.i64.wrap (X0+1))),⟨hm,o.has ⟨rfl,rfl,trivial⟩,u⟩,Nat.lt_succ_self _⟩
 refine tn<|cfv o rfl J1<|we<|tx<|tx<|bx<|tn<|?_
 exact ⟨hm,o.has ⟨rfl,trivial⟩,u⟩
 rintro a w ⟨hm,o,u⟩
 unfold Z3a at hm
 refine th<|?_
 obtain ⟨J3,T1,hm⟩:=bs hm
 rcases bit hm with ⟨T0,hm⟩ | ⟨T0,hm⟩
 obtain ⟨K3,u1,hm⟩:=bs hm
 rcases bit hm with ⟨u0,hm⟩ | ⟨u0,hm⟩
 obtain ⟨L3,F2,hm⟩:=bs hm
 rcases bit hm with ⟨R1,hm⟩ | ⟨R1,hm⟩
 obtain ⟨X2,Y2,hm⟩:=bs hm
 refine rg<|qv o (Ae o H5 rfl) λo=>qv o (Af o isAgg44 rfl (u.ld.cellB t0 rfl)) λo=>ls<|cr o call120 (Lf (Ah _) Y0 (St.srH u j0) T1) u λu o=>qv o (Ax (Ab o rfl) (congrArg Value.bool T0)) λo=>qg o (Ae o Hz rfl) λo=>qg o (Af o isAgg44 rfl (u.ld.cellB t0 rfl)) λo=>ls<|gy o rfl rfl<|cr o call120 (Lf (Ah _) B1 (St.srH u C1) u1) u λu o=>qv o (Ac o rfl rfl) λo=>qv o (Ax (Ab o rfl) (congrArg Value.bool u0)) λo=>qg o (Ae o Fz rfl) λo=>qg o (Af o isAgg45 rfl (u.ld.cellB t0 rfl)) λo=>ls<|gy o rfl rfl<|cr o call122 (Wj (Ah _) U1 (St.srH u V1) F2) u λu o=>qv o (Ac o rfl rfl) λo=>qv o (Ax (Ab o rfl) (congrArg Value.bool R1)) λo=>qg o (Ae o Ks rfl) λo=>qg o (Af o isAgg45 rfl (u.ld.cellB t0 rfl)) λo=>ls<|gy o rfl rfl<|cr o call122 (Wj (Ah _) G2 (St.srH u I2) Y2) u λu o=>qv o (Ac o rfl rfl) λo=>qm o rfl λo=>gr (Fk:=[(76,.bool (X2 && (decide ((p1.Recover.length:Int)≤1))))]) 71 5 o u ?_ ?_ ?_
 intro hb o key
 exact qg o (Ae o Ks rfl) λo=>qg o (Af o isAgg45 rfl (u.ld.cellB t0 rfl)) λo=>qg o (Aj (α:=api_Thread) (xs:=p1.Recover) o runUnderlying45 rfl) λo=>qg o (Dt o rfl rfl) λo=>qk o (Ac o rfl rfl) key u hb
 intro hb o key
 iterate 4 refine qn o λo=>?_
 exact qk o (Ad o rfl rfl) key u hb
 intro a w o u
 refine qa o rfl λo=>re<|tn<|wr<|?_
 obtain rfl:=si hm
 exact r1 o results85 rfl ⟨rfl,u.keep⟩
 refine rg<|qv o (Ae o H5 rfl) λo=>qv o (Af o isAgg44 rfl (u.ld.cellB t0 rfl)) λo=>ls<|cr o call120 (Lf (Ah _) Y0 (St.srH u j0) T1) u λu o=>qv o (Ax (Ab o rfl) (congrArg Value.bool T0)) λo=>qg o (Ae o Hz rfl) λo=>qg o (Af o isAgg44 rfl (u.ld.cellB t0 rfl)) λo=>ls<|gy o rfl rfl<|cr o call120 (Lf (Ah _) B1 (St.srH u C1) u1) u λu o=>qv o (Ac o rfl rfl) λo=>qv o (Ax (Ab o rfl) (congrArg Value.bool u0)) λo=>qg o (Ae o Fz rfl) λo=>qg o (Af o isAgg45 rfl (u.ld.cellB t0 rfl)) λo=>ls<|gy o rfl rfl<|cr o call122 (Wj (Ah _) U1 (St.srH u V1) F2) u λu o=>qv o (Ac o rfl rfl) λo=>qv o (Ax (Ab o rfl) (congrArg Value.bool R1)) λo=>?_
 iterate 3 refine qn o λo=>?_
 refine qv o (Ad o rfl rfl) λo=>qm o rfl λo=>?_
 iterate 4 refine qn o λo=>?_
 refine qv o (Ad o rfl rfl) λo=>qa o rfl λo=>re<|tn<|wr<|?_
 obtain rfl:=si hm
 exact r1 o results85 rfl ⟨rfl,u.keep⟩
 refine rg<|qv o (Ae o H5 rfl) λo=>qv o (Af o isAgg44 rfl (u.ld.cellB t0 rfl)) λo=>ls<|cr o call120 (Lf (Ah _) Y0 (St.srH u j0) T1) u λu o=>qv o (Ax (Ab o rfl) (congrArg Value.bool T0)) λo=>qg o (Ae o Hz rfl) λo=>qg o (Af o isAgg44 rfl (u.ld.cellB t0 rfl)) λo=>ls<|gy o rfl rfl<|cr o call120 (Lf (Ah _) B1 (St.srH u C1) u1) u λu o=>qv o (Ac o rfl rfl) λo=>qv o (Ax (Ab o rfl) (congrArg Value.bool u0)) λo=>?_
 iterate 3 refine qn o λo=>?_
 refine qv o (Ad o rfl rfl) λo=>qm o rfl λo=>?_
 iterate 3 refine qn o λo=>?_
 refine qv o (Ad o rfl rfl) λo=>qm o rfl λo=>?_
 iterate 4 refine qn o λo=>?_
 refine qv o (Ad o rfl rfl) λo=>qa o rfl λo=>re<|tn<|wr<|?_
 obtain rfl:=si hm
 exact r1 o results85 rfl ⟨rfl,u.keep⟩
 refine rg<|qv o (Ae o H5 rfl) λo=>qv o (Af o isAgg44 rfl (u.ld.cellB t0 rfl)) λo=>ls<|cr o call120 (Lf (Ah _) Y0 (St.srH u j0) T1) u λu o=>qv o (Ax (Ab o rfl) (congrArg Value.bool T0)) λo=>?_
 iterate 3 refine qn o λo=>?_
 refine qv o (Ad o rfl rfl) λo=>qm o rfl λo=>?_
 iterate 3 refine qn o λo=>?_
 refine qv o (Ad o rfl rfl) λo=>qm o rfl λo=>?_
 iterate 3 refine qn o λo=>?_
 refine qv o (Ad o rfl rfl) λo=>qm o rfl λo=>?_
 iterate 4 refine qn o λo=>?_
 refine qv o (Ad o rfl rfl) λo=>qa o rfl λo=>re<|tn<|wr<|?_
 obtain rfl:=si hm
 exact r1 o results85 rfl ⟨rfl,u.keep⟩
theorem Jbi (hH:H.le w0) {cs2:List Value} {p1:api_Prog} (g3:Enc.rep H cs2 p1) {r:(List api_Thread)} (hm:Z4p N p1=some r):Tot Tryz.prog 87 #[.agg cs2.toArray] w0 (λv w'=>∃ (H':PH) (G0:Option Addr) (A0:Nat),v=SL G0 r A0∧r.length≤A0∧SR H' G0 r∧Ext w0 H H'∧H'.le w'∧Keep Nil w0 w'):=by
 unfold Z4p at hm
 refine fn0 func87 rfl ntmps87 rfl rfl λa o=>?_
 have u:St w0 Nil [H] [] w0:=start1 hH
 obtain ⟨Y0,I0,j0,J0,K0,C0,M0,D0,O0,E0,P0,F0,rfl,X1,Y1,E1,F1,I1,J1,O1,Q0,P1,R0,Q1,R1⟩:=Bc g3
 refine th<|rg<|ls<|Br (cs:=[SL Y0 p1.Lines I0,SL j0 p1.Vols J0,SL K0 p1.Locks C0,SL M0 p1.Threads D0,SL O0 p1.Recover E0,SL P0 p1.Claims F0].toArray) o rfl u rfl rfl λu1 w a u o=>qa o rfl λo=>re<|tn<|th<|?_
 obtain ⟨n0,u0,hm⟩:=bs hm
 refine rg<|ls<|Bj (e:=108) (sz:=4) [] o rfl u rfl rfl rfl (λw=>by kernel_rfl) λB2 w a u o=>?_
 have S0:Rows (α:=api_Thread) H [] []:=.nil
 refine qv o (Ae o Fz rfl) λo=>qv o (Af o isAgg45 rfl (u.ld.cellB t1 rfl)) λo=>?_
 obtain ⟨us38,hd39,hu40⟩:=id Q0
 refine ls<|Bv (α:=api_Thread) (xs:=[]) (ys:=p1.Threads) o rfl u underlying45 Oq rfl (by decide) rfl rfl rfl t0 S0 (u.rdH t0 hd39) hu40 u0 λS1 C1 T1 w a T0 hU o=>?_
 replace u:=hU _ .head
 refine qa o rfl λo=>re<|tn<|th<|?_
 obtain ⟨C2,B1,hm⟩:=bs hm
 refine rg<|qm o rfl λo=>qv o (Ae o Ks rfl) λo=>qv o (Af o isAgg45 rfl (u.ld.cellB t1 rfl)) λo=>?_
 obtain ⟨us47,hd48,hu49⟩:=id R0
 refine ls<|Bv (α:=api_Thread) (xs:=n0) (ys:=p1.Recover) o rfl u underlying45 Oq rfl (by decide) rfl rfl rfl t0 T0 (u.rdH t0 hd48) hu49 B1 λU1 D1 V1 w a U0 hU o=>?_
 replace u:=hU _ .head
 refine qa o rfl λo=>re<|tn<|wr<|?_
 obtain ⟨H53,V0,W0,X0,u⟩:=St.frzS u .head U0
 obtain rfl:=si hm
 exact r1 o results87 rfl ⟨H53,_,_,rfl,X0,W0,V0,(St.le u),u.keep⟩
set_option maxHeartbeats 4000000 in
theorem JcB (hH:H.le w0) {cs2:List Value} {p1:api_Prog} (g3:Enc.rep H cs2 p1) {r:Bool} (hm:Z4q N p1=some r):Tot Tryz.prog 86 #[.agg cs2.toArray] w0 (λv w'=>v=.bool r∧Keep Nil w0 w'):=by
 unfold Z4q at hm
 refine fn0 func86 rfl ntmps86 rfl rfl λa o=>?_
 have u:St w0 Nil [H] [] w0:=start1 hH
 obtain ⟨P0,G0,Q0,I0,J0,C0,K0,D0,M0,E0,O0,F0,rfl,B2,n0,F1,I1,J1,O1,P1,Q1,R1,S1,T1,U1⟩:=Bc g3
 refine th<|rg<|ls<|Br (cs:=[SL P0 p1.Lines G0,SL Q0 p1.Vols I0,SL J0 p1.Locks C0,SL K0 p1.Threads D0,SL M0 p1.Recover E0,SL O0 p1.Claims F0].toArray) o rfl u rfl rfl λA0 w a u o=>qa o rfl λo=>re<|tn<|th<|th<|rg<|qa o rfl λo=>re<|tn<|Av (λa w=>(Z4r N p1)=some r∧Fr 69 [(1,PT A0)] a∧St w0 Nil [H] [bk A0 [SL P0 p1.Lines G0,SL Q0 p1.Vols I0,SL J0 p1.Locks C0,SL K0 p1.Threads D0,SL M0 p1.Recover E0,SL O0 p1.Claims F0] 48] w) ?_ ?_
 refine wb<|lp (α:=Nat×Int) (λgh a w=>match gh with | (R0,Y0)=>(Z4t N (Z4r N p1) p1) R0 Y0=some r∧Fr 69 [(1,PT A0),(3,i6 Y0)] a∧St w0 Nil [H] [bk A0 [SL P0 p1.Lines G0,SL Q0 p1.Vols I0,SL J0 p1.Locks C0,SL K0 p1.Threads D0,SL M0 p1.Recover E0,SL O0 p1.Claims F0] 48] w) (λgh=>gh.1) (N,0) ⟨hm,o.has ⟨rfl,rfl,trivial⟩,u⟩ ?_
 rintro ⟨R0,Y0⟩ a w ⟨hm,o,u⟩
 obtain _ | R0:=R0
 simp [Z4t] at hm
 rw [Z4t] at hm
 refine th<|th<|rg<|qm o rfl λo=>qv o (Ae o Dl rfl) λo=>qv o (Af o isAgg43 rfl (u.ld.cellB t0 rfl)) λo=>qv o (Aj (α:=(List api_Cell)) (xs:=p1.Lines) o runUnderlying43 rfl) λo=>qv o (Ak o rfl rfl) λo=>re<|?_
 rcases bip hm with ⟨T0,hm⟩ | ⟨T0,hm⟩
 refine tn<|ctv o rfl T0<|wk<|tn<|th<|wb<|th<|?_
 obtain ⟨C2,u0,hm⟩:=bs hm
 obtain ⟨A3,E2,V1⟩:=SR.get n0 u0
 obtain ⟨P2,J2,rfl,Q2,R2⟩:=E2
 refine rg<|qv o (Ae o Dl rfl) λo=>qv o (Af o isAgg43 rfl (u.ld.cellB t0 rfl)) λo=>qm o rfl λo=>qv o (Al o runUnderlying43 sizeOf44 rfl rfl u0 (SR.oaI n0 (by decide) u0)) λo=>qv o (Af o isAgg44 rfl (PH.le.cell (Lds.le u.ld) (V1 0 _ rfl))) λo=>qv o (Aj (α:=api_Cell) (xs:=C2) o runUnderlying44 rfl) λo=>qv o (Ba o rfl rfl) λo=>re<|?_
 rcases bip hm with ⟨U0,hm⟩ | ⟨U0,hm⟩
 refine tn<|ctv o rfl U0<|th<|rg<|qa o rfl λo=>re<|tn<|wr<|br<|tr<|tr<|br<|tr<|?_
 obtain rfl:=si hm
 exact r1 o results86 rfl ⟨rfl,u.keep⟩
 refine tn<|cfv o rfl U0<|wk<|bn<|tn<|rg<|qm o rfl λo=>qv o (An o rfl rfl) λo=>qa o rfl λo=>re<|tn<|?_
 exact ⟨(R0,(IntKind.i64.wrap (Y0+1))),⟨hm,o.has ⟨rfl,rfl,trivial⟩,u⟩,Nat.lt_succ_self _⟩
 refine tn<|cfv o rfl T0<|we<|tx<|tx<|bx<|tn<|?_
 exact ⟨hm,o.has ⟨rfl,trivial⟩,u⟩
 rintro a w ⟨hm,o,u⟩
 unfold Z4r at hm
 refine th<|?_
 obtain ⟨B1,F2,hm⟩:=bs hm
 refine rg<|qv o (Ar o Tryz.isAgg48 Tryz.sizeOf48 rfl rfl (u.ld.cellsB t0)) λo=>ls<|c1 o rfl call87 (Jbi (St.le u) (show Enc.rep (α:=api_Prog) H [SL P0 p1.Lines G0,SL Q0 p1.Vols I0,SL J0 p1.Locks C0,SL K0 p1.Threads D0,SL M0 p1.Recover E0,SL O0 p1.Claims F0] p1 from ⟨_,_,rfl,⟨_,_,rfl,B2,n0⟩,⟨_,_,rfl,⟨_,_,rfl,F1,I1⟩,⟨_,_,rfl,⟨_,_,rfl,J1,O1⟩,⟨_,_,rfl,⟨_,_,rfl,P1,Q1⟩,⟨_,_,rfl,⟨_,_,rfl,R1,S1⟩,⟨_,_,rfl,T1,U1⟩⟩⟩⟩⟩⟩) F2) ⟨rfl,trivial⟩ (λv w a hR o=>?_)
 obtain ⟨H45,X1,E1,rfl,T2,C1,V0,Y1,hk⟩:=hR
 obtain ⟨u,V0⟩:=And.intro (St.passH u hk V0 Y1) (St.extc u V0)
 refine qa o rfl λo=>re<|tn<|th<|th<|rg<|qa o rfl λo=>re<|tn<|Av (λa w=>(Z4s p1)=some r∧Fr 69 [(1,PT A0)] a∧St w0 Nil [H45] [bk A0 [SL P0 p1.Lines G0,SL Q0 p1.Vols I0,SL J0 p1.Locks C0,SL K0 p1.Threads D0,SL M0 p1.Recover E0,SL O0 p1.Claims F0] 48] w) ?_ ?_
 refine wb<|lp (α:=Nat×Int) (λgh a w=>match gh with | (S0,j0)=>(Z4u N (Z4s p1) B1) S0 j0=some r∧Fr 69 [(1,PT A0),(4,SL X1 B1 E1),(5,i6 j0)] a∧St w0 Nil [H45] [bk A0 [SL P0 p1.Lines G0,SL Q0 p1.Vols I0,SL J0 p1.Locks C0,SL K0 p1.Threads D0,SL M0 p1.Recover E0,SL O0 p1.Claims F0] 48] w) (λgh=>gh.1) (N,0) ⟨hm,o.hs,u⟩ ?_
 rintro ⟨S0,j0⟩ a w ⟨hm,o,u⟩
 obtain _ | S0:=S0
 simp [Z4u] at hm
 rw [Z4u] at hm
 refine th<|th<|rg<|qm o rfl λo=>qm o rfl λo=>qv o (Aj (α:=api_Thread) (xs:=B1) o runUnderlying45 rfl) λo=>qv o (Ak o rfl rfl) λo=>re<|?_
 rcases bip hm with ⟨W0,hm⟩ | ⟨W0,hm⟩
 refine tn<|ctv o rfl W0<|wk<|tn<|th<|wb<|th<|?_
 obtain ⟨G2,D1,hm⟩:=bs hm
 obtain ⟨B3,I2,u1⟩:=SR.get C1 D1
 obtain ⟨U2,K2,V2,O2,rfl,W2,X2,Y2,u2⟩:=Bg I2
 refine rg<|qm o rfl λo=>qm o rfl λo=>qv o (Al o runUnderlying45 sizeOf108 rfl rfl D1 (SR.oaI C1 (by decide) D1)) λo=>qv o (Ae o Cp rfl) λo=>qv o (Af o isAgg92 rfl (PH.le.cell (Lds.le u.ld) (u1 1 _ rfl))) λo=>qv o (Aj (α:=Str) (xs:=G2.Regs) o runUnderlying92 rfl) λo=>qv o (Ba o rfl rfl) λo=>re<|?_
 rcases bip hm with ⟨X0,hm⟩ | ⟨X0,hm⟩
 refine tn<|ctv o rfl X0<|th<|rg<|qa o rfl λo=>re<|tn<|wr<|br<|tr<|tr<|br<|tr<|?_
 obtain rfl:=si hm
 exact r1 o results86 rfl ⟨rfl,u.keep⟩
 refine tn<|cfv o rfl X0<|wk<|bn<|tn<|rg<|qm o rfl λo=>qv o (An o rfl rfl) λo=>qa o rfl λo=>re<|tn<|?_
 exact ⟨(S0,(IntKind.i64.wrap (j0+1))),⟨hm,o.hs,u⟩,Nat.lt_succ_self _⟩
 refine tn<|cfv o rfl W0<|we<|tx<|tx<|bx<|tn<|?_
 exact ⟨hm,o.has ⟨rfl,trivial⟩,u⟩
 rintro a w ⟨hm,o,u⟩
 unfold Z4s at hm
 refine th<|rg<|qv o (Ae o Dl rfl) λo=>qv o (Af o isAgg43 rfl (u.ld.cellB t0 rfl)) λo=>qv o (Aj (α:=(List api_Cell)) (xs:=p1.Lines) o runUnderlying43 rfl) λo=>qv o (Ba o rfl rfl) λo=>qm o rfl λo=>gr (Fk:=[(1,PT A0),(44,.bool ((decide (4 < (p1.Lines.length:Int))) || (decide (4 < (p1.Vols.length:Int)))))]) 39 5 o u ?_ ?_ ?_
 intro hb o key
 iterate 4 refine qn o λo=>?_
 exact qk o (Ac o rfl rfl) key u hb
 intro hb o key
 exact qg o (Ae o H5 rfl) λo=>qg o (Af o isAgg44 rfl (u.ld.cellB t0 rfl)) λo=>qg o (Aj (α:=api_Cell) (xs:=p1.Vols) o runUnderlying44 rfl) λo=>qg o (Ba o rfl rfl) λo=>qk o (Ad o rfl rfl) key u hb
 intro a w o u
 refine qm o rfl λo=>gr (Fk:=[(1,PT A0),(50,.bool (((decide (4 < (p1.Lines.length:Int))) || (decide (4 < (p1.Vols.length:Int)))) || (decide (2 < (p1.Locks.length:Int)))))]) 45 5 o u ?_ ?_ ?_
 intro hb o key
 iterate 4 refine qn o λo=>?_
 exact qk o (Ac o rfl rfl) key u hb
 intro hb o key
 exact qg o (Ae o Hz rfl) λo=>qg o (Af o isAgg44 rfl (u.ld.cellB t0 rfl)) λo=>qg o (Aj (α:=api_Cell) (xs:=p1.Locks) o runUnderlying44 rfl) λo=>qg o (Ba o rfl rfl) λo=>qk o (Ad o rfl rfl) key u hb
 intro a w o u
 refine qm o rfl λo=>gr (Fk:=[(1,PT A0),(56,.bool ((((decide (4 < (p1.Lines.length:Int))) || (decide (4 < (p1.Vols.length:Int)))) || (decide (2 < (p1.Locks.length:Int)))) || (decide ((p1.Threads.length:Int) < 1))))]) 51 5 o u ?_ ?_ ?_
 intro hb o key
 iterate 4 refine qn o λo=>?_
 exact qk o (Ac o rfl rfl) key u hb
 intro hb o key
 exact qg o (Ae o Fz rfl) λo=>qg o (Af o isAgg45 rfl (u.ld.cellB t0 rfl)) λo=>qg o (Aj (α:=api_Thread) (xs:=p1.Threads) o runUnderlying45 rfl) λo=>qg o (Ak o rfl rfl) λo=>qk o (Ad o rfl rfl) key u hb
 intro a w o u
 refine qm o rfl λo=>gr (Fk:=[(1,PT A0),(62,.bool (((((decide (4 < (p1.Lines.length:Int))) || (decide (4 < (p1.Vols.length:Int)))) || (decide (2 < (p1.Locks.length:Int)))) || (decide ((p1.Threads.length:Int) < 1))) || (decide (3 < (p1.Threads.length:Int)))))]) 57 5 o u ?_ ?_ ?_
 intro hb o key
 iterate 4 refine qn o λo=>?_
 exact qk o (Ac o rfl rfl) key u hb
 intro hb o key
 exact qg o (Ae o Fz rfl) λo=>qg o (Af o isAgg45 rfl (u.ld.cellB t0 rfl)) λo=>qg o (Aj (α:=api_Thread) (xs:=p1.Threads) o runUnderlying45 rfl) λo=>qg o (Ba o rfl rfl) λo=>qk o (Ad o rfl rfl) key u hb
 intro a w o u
 refine qm o rfl λo=>gr (Fk:=[(68,.bool ((((((decide (4 < (p1.Lines.length:Int))) || (decide (4 < (p1.Vols.length:Int)))) || (decide (2 < (p1.Locks.length:Int)))) || (decide ((p1.Threads.length:Int) < 1))) || (decide (3 < (p1.Threads.length:Int)))) || (decide (4 < (p1.Claims.length:Int)))))]) 63 5 o u ?_ ?_ ?_
 intro hb o key
 iterate 4 refine qn o λo=>?_
 exact qk o (Ac o rfl rfl) key u hb
 intro hb o key
 exact qg o (Ae o Ef rfl) λo=>qg o (Af o isAgg46 rfl (u.ld.cellB t0 rfl)) λo=>qg o (Aj (α:=api_Claim) (xs:=p1.Claims) o runUnderlying46 rfl) λo=>qg o (Ba o rfl rfl) λo=>qk o (Ad o rfl rfl) key u hb
 intro a w o u
 refine qa o rfl λo=>re<|tn<|wr<|?_
 obtain rfl:=si hm
 exact r1 o results86 rfl ⟨rfl,u.keep⟩
theorem Jdw:∀ (N:Nat) {w0:World} {H:PH} (hH:H.le w0) {J0:Option Addr} {C0:Nat} {p1:(List api_Stmt)} (D0:p1.length≤C0) (E0:SR H J0 p1) {p6:Int} {r:Int} (hm:Z5b N p1 p6=some r),Tot Tryz.prog 88 #[SL J0 p1 C0,i6 p6] w0 (λv w'=>v=i6 r∧Keep Nil w0 w'):=by
 intro N
 induction N with
  | zero=>intros;rename_i hm;simp [Z5b] at hm
  | succ N ih=>
 intro w0 H hH J0 C0 p1 D0 E0 p6 r hm
 rw [Z5b] at hm
 refine fn0 func88 rfl ntmps88 rfl rfl λa o=>?_
 have u:St w0 Nil [H] [] w0:=start1 hH
 refine th<|rg<|qa o rfl λo=>re<|tn<|th<|th<|rg<|qm o rfl λo=>qv o (Aj (α:=api_Stmt) (xs:=p1) o runUnderlying106 rfl) λo=>qv o (Aq o rfl rfl) λo=>re<|?_
 rcases bip hm with ⟨K0,hm⟩ | ⟨K0,hm⟩
 refine tn<|ctv o rfl K0<|th<|rg<|qa o rfl λo=>re<|tn<|wr<|tr<|?_
 obtain rfl:=si hm
 exact r1 o results88 rfl ⟨rfl,u.keep⟩
 refine tn<|cfv o rfl K0<|wk<|tn<|th<|?_
 obtain ⟨A0,h9,hm⟩:=bs hm
 obtain ⟨Q1,n0,T0⟩:=SR.get E0 h9
 obtain ⟨U0,O0,V0,P0,rfl,E1,F1,I1,J1⟩:=Bs n0
 refine rg<|qm o rfl λo=>qv o (Al o runUnderlying106 sizeOf140 rfl rfl h9 (SR.oaI E0 (by decide) h9)) λo=>qv o (Ar o isAgg140 sizeOf140 rfl rfl (λj v hj=>PH.le.cell (Lds.le u.ld) (T0 j v hj))) λo=>qm o rfl λo=>ls<|As (cs:=[i6 0,Ag [],Ag [],.slice none 0 0,.slice none 0 0,i6 0,i6 0,i6 0,i6 0].toArray) o rfl u zeroValue140 rfl λQ0 w a u o=>ls<|Bb o u sizeOf140 rfl rfl rfl rfl (Ao rfl) .head λw u=>qa o rfl λo=>re<|tn<|th<|th<|rg<|qv o (Ae o Cm rfl) λo=>qv o (Af o isAgg3 rfl (u.ld.cellB t0 rfl)) λo=>qv o (Aq o rfl rfl) λo=>re<|tn<|Av (λa w=>∃ (M0:Int),(Z5c (Z5b N) p1 p6 A0) M0=some r∧Fr 46 [(0,SL J0 p1 C0),(1,i6 p6),(5,PT Q0),(6,i6 M0)] a∧St w0 Nil [H] [bk Q0 [i6 A0.Kind,Ag A0.Reg,Ag A0.Name,SL U0 A0.E O0,SL V0 A0.F P0,i6 A0.N,i6 A0.Body,i6 A0.Else,i6 A0.At] 140] w) ?_ ?_
 rcases bip hm with ⟨F0,hm⟩ | ⟨F0,hm⟩
 refine ctv o rfl F0<|rg<|qm o rfl λo=>qv o (Ae o Kc rfl) λo=>qv o (Af o isAgg3 rfl (u.ld.cellB t0 rfl)) λo=>qv o (Jbq o rfl rfl) λo=>qa o rfl λo=>re<|tn<|?_
 exact ⟨(IntKind.i64.wrap (p6 * A0.N)),hm,o.hs,u⟩
 refine cfv o rfl F0<|wk<|tn<|?_
 exact ⟨p6,hm,o.hs,u⟩
 rintro a w ⟨M0,hm,o,u⟩
 unfold Z5c at hm
 refine th<|th<|rg<|qm o rfl λo=>qv o (Ba o rfl rfl) λo=>re<|?_
 rcases bip hm with ⟨G0,hm⟩ | ⟨G0,hm⟩
 refine tn<|ctv o rfl G0<|th<|rg<|qv o (Ae o Hp rfl) λo=>qv o (Af o isAgg3 rfl (u.ld.cellB t0 rfl)) λo=>qa o rfl λo=>re<|tn<|wr<|tr<|?_
 obtain rfl:=si hm
 exact r1 o results88 rfl ⟨rfl,u.keep⟩
 refine tn<|cfv o rfl G0<|wk<|tn<|th<|rg<|qv o (Ae o Fo rfl) λo=>qv o (Af o isAgg3 rfl (u.ld.cellB t0 rfl)) λo=>qv o (An o rfl rfl) λo=>qv o (Ae o Dq rfl) λo=>qv o (Af o isAgg3 rfl (u.ld.cellB t0 rfl)) λo=>qv o (An o rfl rfl) λo=>qa o rfl λo=>re<|tn<|th<|?_
 obtain ⟨R1,R0,hm⟩:=bs hm
 obtain ⟨O1,C1,e28,e29,W0,X0⟩:=SR.sub (sz:=9) E0 D0 rfl R0
 obtain ⟨S1,u0,hm⟩:=bs hm
 refine rg<|qm o rfl λo=>qm o rfl λo=>qv o (Dn (xs:=p1) (vl:=1) (vh:=(IntKind.i64.wrap ((IntKind.i64.wrap (1+A0.Body))+A0.Else))) o runUnderlying106 sizeOf140 rfl D0 rfl rfl R0 e28 e29) λo=>qm o rfl λo=>ls<|cr o call88 (ih (Ah _) W0 (St.srH u X0) u0) u λu o=>qa o rfl λo=>re<|tn<|th<|th<|rg<|qm o rfl λo=>qv o (Bo o rfl rfl) λo=>re<|?_
 rcases bip hm with ⟨I0,hm⟩ | ⟨I0,hm⟩
 refine tn<|ctv o rfl I0<|th<|rg<|qm o rfl λo=>qa o rfl λo=>re<|tn<|wr<|tr<|?_
 obtain rfl:=si hm
 exact r1 o results88 rfl ⟨rfl,u.keep⟩
 refine tn<|cfv o rfl I0<|wk<|tn<|th<|?_
 obtain ⟨T1,S0,hm⟩:=bs hm
 obtain ⟨P1,D1,e39,e40,Y0,j0⟩:=SR.sub (sz:=9) E0 D0 rfl S0
 obtain ⟨U1,B1,hm⟩:=bs hm
 refine rg<|qm o rfl λo=>qm o rfl λo=>qv o (Dn (xs:=p1) (vl:=(IntKind.i64.wrap ((IntKind.i64.wrap (1+A0.Body))+A0.Else))) (vh:=(p1.length:Int)) o runUnderlying106 sizeOf140 rfl D0 rfl rfl S0 e39 e40) λo=>qm o rfl λo=>ls<|cr o call88 (ih (Ah _) Y0 (St.srH u j0) B1) u λu o=>qa o rfl λo=>re<|tn<|wr<|?_
 obtain rfl:=si hm
 exact r1 o results88 rfl ⟨rfl,u.keep⟩
theorem Qf (hH:H.le w0) {cs2:List Value} {p1:api_Prog} (g3:Enc.rep H cs2 p1) {r:(List api_Cell)} (hm:Z3p N p1=some r):Tot Tryz.prog 94 #[.agg cs2.toArray] w0 (λv w'=>∃ (F1:Option Addr) (n0:Nat) (I1:List Value),v=SL F1 r n0∧(∀ h,Rows h I1 r)∧Fresh w0 (sla 130 3 F1 r.length n0 I1) w'):=by
 unfold Z3p at hm
 refine fn0 func94 rfl ntmps94 rfl rfl λa o=>?_
 have u:St w0 Nil [H] [] w0:=start1 hH
 obtain ⟨u0,P0,B1,Q0,R0,E0,S0,F0,T0,G0,U0,I0,rfl,A3,J1,J2,O1,K2,O2,P2,Q2,R2,T2,U2,V2⟩:=Bc g3
 refine th<|rg<|ls<|Br (cs:=[SL u0 p1.Lines P0,SL B1 p1.Vols Q0,SL R0 p1.Locks E0,SL S0 p1.Threads F0,SL T0 p1.Recover G0,SL U0 p1.Claims I0].toArray) o rfl u rfl rfl λY0 w a u o=>qa o rfl λo=>re<|tn<|th<|rg<|ls<|Bj (e:=130) (sz:=3) [] o rfl u rfl rfl rfl (λw=>by kernel_rfl) λY1 w a u o=>?_
 have P1:Rows (α:=api_Cell) H [] []:=.nil
 refine qa o rfl λo=>re<|tn<|th<|th<|rg<|qa o rfl λo=>re<|tn<|Av (λa w=>∃ (D0:(List api_Cell)) (V0:Option Addr) (J0:Nat) (W0:List Value),(Z3q p1) D0=some r∧Fr 24 [(1,PT Y0),(3,SL V0 D0 J0)] a∧St w0 Nil [H] [bk Y0 [SL u0 p1.Lines P0,SL B1 p1.Vols Q0,SL R0 p1.Locks E0,SL S0 p1.Threads F0,SL T0 p1.Recover G0,SL U0 p1.Claims I0] 48,sla 130 3 V0 D0.length J0 W0] w∧Rows H W0 D0) ?_ ?_
 replace u:=u.pk [1,0] rfl
 refine wb<|lp (α:=Nat×(List api_Cell)×Int) (λgh a w=>match gh with | (O0,C0,j0)=>∃ (K0:Option Addr) (A0:Nat) (M0:List Value),(Z3r N (Z3q p1) p1) O0 C0 j0=some r∧Fr 24 [(1,PT Y0),(3,SL K0 C0 A0),(4,i6 j0)] a∧St w0 Nil [H] [bk Y0 [SL u0 p1.Lines P0,SL B1 p1.Vols Q0,SL R0 p1.Locks E0,SL S0 p1.Threads F0,SL T0 p1.Recover G0,SL U0 p1.Claims I0] 48,sla 130 3 K0 C0.length A0 M0] w∧Rows H M0 C0) (λgh=>gh.1) (N,[],0) ⟨(some ⟨Y1,0,none⟩),0,[],hm,o.hs,u,P1⟩ ?_
 rintro ⟨O0,C0,j0⟩ a w ⟨K0,A0,M0,hm,o,u,C1⟩
 obtain _ | O0:=O0
 simp [Z3r] at hm
 rw [Z3r] at hm
 refine th<|th<|rg<|qm o rfl λo=>qv o (Ae o Dl rfl) λo=>qv o (Af o isAgg43 rfl (u.ld.cellB t0 rfl)) λo=>qv o (Aj (α:=(List api_Cell)) (xs:=p1.Lines) o runUnderlying43 rfl) λo=>qv o (Ak o rfl rfl) λo=>re<|?_
 rcases bip hm with ⟨X0,hm⟩ | ⟨X0,hm⟩
 refine tn<|ctv o rfl X0<|wk<|tn<|th<|wb<|?_
 obtain ⟨u1,D1,hm⟩:=bs hm
 obtain ⟨B3,B2,Q1⟩:=SR.get J1 D1
 obtain ⟨W2,G2,rfl,X2,R1⟩:=B2
 obtain ⟨C2,E2,hm⟩:=bs hm
 refine rg<|qm o rfl λo=>qv o (Ae o Dl rfl) λo=>qv o (Af o isAgg43 rfl (u.ld.cellB t0 rfl)) λo=>qm o rfl λo=>qv o (Al o runUnderlying43 sizeOf44 rfl rfl D1 (SR.oaI J1 (by decide) D1)) λo=>qv o (Af o isAgg44 rfl (PH.le.cell (Lds.le u.ld) (Q1 0 _ rfl))) λo=>?_
 obtain ⟨us48,hd49,hu50⟩:=id R1
 refine ls<|Bv (α:=api_Cell) (xs:=C0) (ys:=u1) o rfl u underlying44 Ip rfl (by decide) rfl rfl rfl t1 C1 (u.rdH t0 hd49) hu50 E2 λS1 E1 T1 w a U1 hU o=>?_
 replace u:=hU _ (.tail .head)
 refine qa o rfl λo=>re<|bn<|tn<|rg<|qm o rfl λo=>qv o (An o rfl rfl) λo=>qa o rfl λo=>re<|tn<|?_
 exact ⟨(O0,C2,(IntKind.i64.wrap (j0+1))),⟨S1,E1,T1,hm,o.hs,u,U1⟩,Nat.lt_succ_self _⟩
 refine tn<|cfv o rfl X0<|we<|tx<|tx<|bx<|tn<|?_
 exact ⟨C0,K0,A0,M0,hm,o.has ⟨rfl,rfl,trivial⟩,u,C1⟩
 rintro a w ⟨D0,V0,J0,W0,hm,o,u,V1⟩
 unfold Z3q at hm
 refine th<|?_
 obtain ⟨C3,F2,hm⟩:=bs hm
 refine rg<|qm o rfl λo=>qv o (Ae o H5 rfl) λo=>qv o (Af o isAgg44 rfl (u.ld.cellB t0 rfl)) λo=>?_
 obtain ⟨us57,hd58,hu59⟩:=id O1
 refine ls<|Bv (α:=api_Cell) (xs:=D0) (ys:=p1.Vols) o rfl u underlying44 Ip rfl (by decide) rfl rfl rfl t1 V1 (u.rdH t0 hd58) hu59 F2 λY2 I2 u2 w a X1 hU o=>?_
 replace u:=hU _ (.tail .head)
 refine qa o rfl λo=>re<|tn<|wr<|?_
 obtain rfl:=si hm
 exact r1 o results94 rfl ⟨_,_,_,rfl,(λ_=>Rows.ind X1),u.endFresh t1⟩
theorem X9 (hH:H.le w0) {Q0:Option Addr} {K0:Nat} {p1:(List api_Cell)} (O1:p1.length≤K0) (W0:SR H Q0 p1) {r:(List Str)} (hm:Z4i N p1=some r):Tot Tryz.prog 99 #[SL Q0 p1 K0] w0 (λv w'=>∃ (X0:Option Addr) (R0:Nat) (Y0:List Value),v=SL X0 r R0∧(∀ h,Rows h Y0 r)∧Fresh w0 (sla 9 1 X0 r.length R0 Y0) w'):=by
 unfold Z4i at hm
 refine fn0 func99 rfl ntmps99 rfl rfl λa o=>?_
 have u:St w0 Nil [H] [] w0:=start1 hH
 refine th<|rg<|qa o rfl λo=>re<|tn<|th<|rg<|ls<|Bj (e:=9) (sz:=1) [] o rfl u rfl rfl rfl (λw=>by kernel_rfl) λb7 w a u o=>?_
 have E1:Rows (α:=Str) H [] []:=.nil
 refine qa o rfl λo=>re<|tn<|th<|th<|rg<|qa o rfl λo=>re<|tn<|Av (λa w=>∃ (G0:(List Str)) (M0:Option Addr) (D0:Nat) (O0:List Value),Z4j G0=some r∧Fr 21 [(3,SL M0 G0 D0)] a∧St w0 Nil [H] [sla 9 1 M0 G0.length D0 O0] w∧Rows H O0 G0) ?_ ?_
 refine wb<|lp (α:=Nat×(List Str)×Int) (λgh a w=>match gh with | (I0,C0,P0)=>∃ (E0:Option Addr) (A0:Nat) (F0:List Value),(Z4k N Z4j p1) I0 C0 P0=some r∧Fr 21 [(0,SL Q0 p1 K0),(3,SL E0 C0 A0),(4,i6 P0)] a∧St w0 Nil [H] [sla 9 1 E0 C0.length A0 F0] w∧Rows H F0 C0) (λgh=>gh.1) (N,[],0) ⟨(some ⟨b7,0,none⟩),0,[],hm,o.hs,u,E1⟩ ?_
 rintro ⟨I0,C0,P0⟩ a w ⟨E0,A0,F0,hm,o,u,S0⟩
 obtain _ | I0:=I0
 simp [Z4k] at hm
 rw [Z4k] at hm
 refine th<|th<|rg<|qm o rfl λo=>qm o rfl λo=>qv o (Aj (α:=api_Cell) (xs:=p1) o runUnderlying44 rfl) λo=>qv o (Ak o rfl rfl) λo=>re<|?_
 rcases bip hm with ⟨T0,hm⟩ | ⟨T0,hm⟩
 refine tn<|ctv o rfl T0<|wk<|tn<|th<|wb<|?_
 obtain ⟨J0,U0,hm⟩:=bs hm
 obtain ⟨P1,F1,j0⟩:=SR.get W0 U0
 obtain rfl:=Dx F1
 obtain ⟨I1,J1,hm⟩:=bs hm
 refine rg<|qm o rfl λo=>?_
 iterate 2 refine qm o rfl λo=>?_
 refine qv o (Al o runUnderlying44 sizeOf130 rfl rfl U0 (SR.oaI W0 (by decide) U0)) λo=>qv o (Ae o Hl rfl) λo=>qv o (Af o isAgg9 rfl (PH.le.cell (Lds.le u.ld) (j0 0 _ rfl))) λo=>ls<|Bj (e:=9) (sz:=1) [Ag J0.Name] o rfl u rfl rfl rfl (λw=>by kernel_rfl) λQ1 w a u o=>?_
 have n0:Rows (α:=Str) H [Ag J0.Name] ([J0.Name]:List Str):=(.cons (c:=[Ag J0.Name]) rfl .nil)
 refine ls<|Bv (α:=Str) (xs:=C0) (ys:=([J0.Name]:List Str)) o rfl u underlying92 Qh rfl (by decide) rfl rfl rfl t1 S0 (u.rdO t0) n0 J1 λu0 V0 B1 w a C1 hU o=>?_
 replace u:=hU _ (.tail .head)
 replace u:=u.drop .head
 refine qa o rfl λo=>re<|bn<|tn<|rg<|qm o rfl λo=>qv o (An o rfl rfl) λo=>qa o rfl λo=>re<|tn<|?_
 exact ⟨(I0,I1,(IntKind.i64.wrap (P0+1))),⟨u0,V0,B1,hm,o.hs,u,C1⟩,Nat.lt_succ_self _⟩
 refine tn<|cfv o rfl T0<|we<|tx<|tx<|bx<|tn<|?_
 exact ⟨C0,E0,A0,F0,hm,o.has ⟨rfl,trivial⟩,u,S0⟩
 rintro a w ⟨G0,M0,D0,O0,hm,o,u,D1⟩
 unfold Z4j at hm
 refine th<|rg<|qm o rfl λo=>qa o rfl λo=>re<|tn<|wr<|?_
 obtain rfl:=si hm
 exact r1 o results99 rfl ⟨_,_,_,rfl,(λ_=>Rows.ind D1),u.endFresh t0⟩
theorem Fh (hH:H.le w0) {F0:Option Addr} {C0:Nat} {p1:(List Str)} (P0:p1.length≤C0) (I0:SR H F0 p1) {p6:Str} {r:Int} (hm:Z4l N p1 p6=some r):Tot Tryz.prog 90 #[SL F0 p1 C0,Ag p6] w0 (λv w'=>v=i6 r∧Keep Nil w0 w'):=by
 unfold Z4l at hm
 refine fn0 func90 rfl ntmps90 rfl rfl λa o=>?_
 have u:St w0 Nil [H] [] w0:=start1 hH
 refine th<|rg<|qa o rfl λo=>re<|tn<|th<|th<|rg<|qa o rfl λo=>re<|tn<|Av (λa w=>Z4m=some r∧Fr 19 [] a∧St w0 Nil [H] [] w) ?_ ?_
 refine wb<|lp (α:=Nat×Int) (λgh a w=>match gh with | (A0,E0)=>(Z4n N Z4m p1 p6) A0 E0=some r∧Fr 19 [(0,SL F0 p1 C0),(1,Ag p6),(5,i6 E0)] a∧St w0 Nil [H] [] w) (λgh=>gh.1) (N,0) ⟨hm,o.hs,u⟩ ?_
 rintro ⟨A0,E0⟩ a w ⟨hm,o,u⟩
 obtain _ | A0:=A0
 simp [Z4n] at hm
 rw [Z4n] at hm
 refine th<|th<|rg<|qm o rfl λo=>qm o rfl λo=>qv o (Aj (α:=Str) (xs:=p1) o runUnderlying92 rfl) λo=>qv o (Ak o rfl rfl) λo=>re<|?_
 rcases bip hm with ⟨G0,hm⟩ | ⟨G0,hm⟩
 refine tn<|ctv o rfl G0<|wk<|tn<|th<|wb<|th<|?_
 obtain ⟨J0,h9,hm⟩:=bs hm
 obtain ⟨M0,O0,K0⟩:=SR.get I0 h9
 obtain rfl:M0=[Ag J0]:=O0
 refine rg<|qm o rfl λo=>qm o rfl λo=>qv o (Al o runUnderlying92 sizeOf9 rfl rfl h9 (SR.oaI I0 (by decide) h9)) λo=>qv o (Af o isAgg9 rfl (PH.le.cell (Lds.le u.ld) (K0 0 _ rfl))) λo=>qm o rfl λo=>qv o (Je (m:=J0) (n:=p6) o rfl rfl) λo=>re<|?_
 rcases bip hm with ⟨D0,hm⟩ | ⟨D0,hm⟩
 refine tn<|ctv o rfl D0<|th<|rg<|qm o rfl λo=>qa o rfl λo=>re<|tn<|wr<|br<|tr<|tr<|br<|tr<|?_
 obtain rfl:=si hm
 exact r1 o results90 rfl ⟨rfl,u.keep⟩
 refine tn<|cfv o rfl D0<|wk<|bn<|tn<|rg<|qm o rfl λo=>qv o (An o rfl rfl) λo=>qa o rfl λo=>re<|tn<|?_
 exact ⟨(A0,(IntKind.i64.wrap (E0+1))),⟨hm,o.hs,u⟩,Nat.lt_succ_self _⟩
 refine tn<|cfv o rfl G0<|we<|tx<|tx<|bx<|tn<|?_
 exact ⟨hm,o.has trivial,u⟩
 rintro a w ⟨hm,o,u⟩
 unfold Z4m at hm
 refine th<|rg<|qa o rfl λo=>re<|tn<|wr<|?_
 obtain rfl:=si hm
 exact r1 o results90 rfl ⟨rfl,u.keep⟩
theorem Jcy (hH:H.le w0) {cs2:List Value} {p1:api_Prog} (g3:Enc.rep H cs2 p1) {r:Int} (hm:Z52 N p1=some r):Tot Tryz.prog 89 #[.agg cs2.toArray] w0 (λv w'=>v=i6 r∧Keep Nil w0 w'):=by
 unfold Z52 at hm
 refine fn0 func89 rfl ntmps89 rfl rfl λa o=>?_
 have u:St w0 Nil [H] [] w0:=start1 hH
 obtain ⟨Q1,X0,R1,Y0,j0,I0,n0,J0,u0,K0,B1,M0,rfl,D3,E3,E2,F2,G2,S1,I2,O0,J2,K2,O2,P2⟩:=Bc g3
 refine th<|rg<|ls<|Br (cs:=[SL Q1 p1.Lines X0,SL R1 p1.Vols Y0,SL j0 p1.Locks I0,SL n0 p1.Threads J0,SL u0 p1.Recover K0,SL B1 p1.Claims M0].toArray) o rfl u rfl rfl λC2 w a u o=>qa o rfl λo=>re<|tn<|th<|?_
 obtain ⟨F3,G3,hm⟩:=bs hm
 obtain ⟨I3,J3,hm⟩:=bs hm
 refine rg<|ls<|Bj (e:=130) (sz:=3) [] o rfl u rfl rfl rfl (λw=>by kernel_rfl) λF4 w a u o=>?_
 have Q2:Rows (α:=api_Cell) H [] []:=.nil
 refine qv o (Ar o isAgg48 sizeOf48 rfl rfl (u.ld.cellsB t1)) λo=>ls<|c1 o rfl call94 (Qf (Ah _) (Enc.mono (St.up u) (show Enc.rep (α:=api_Prog) H [SL Q1 p1.Lines X0,SL R1 p1.Vols Y0,SL j0 p1.Locks I0,SL n0 p1.Threads J0,SL u0 p1.Recover K0,SL B1 p1.Claims M0] p1 from ⟨_,_,rfl,⟨_,_,rfl,D3,E3⟩,⟨_,_,rfl,⟨_,_,rfl,E2,F2⟩,⟨_,_,rfl,⟨_,_,rfl,G2,S1⟩,⟨_,_,rfl,⟨_,_,rfl,I2,O0⟩,⟨_,_,rfl,⟨_,_,rfl,J2,K2⟩,⟨_,_,rfl,O2,P2⟩⟩⟩⟩⟩⟩)) G3) ⟨rfl,trivial⟩ (λv w a hR o=>?_)
 obtain ⟨X3,T3,Y3,rfl,C1,hk⟩:=hR
 replace u:=u.fresh hk
 replace C1:=C1 H
 refine ls<|Bv (α:=api_Cell) (xs:=[]) (ys:=F3) o rfl u underlying44 Ip rfl (by decide) rfl rfl rfl t1 Q2 (u.rdO t0) C1 J3 λl3 U3 n3 w a R2 hU o=>?_
 replace u:=hU _ (.tail .head)
 refine qa o rfl λo=>re<|tn<|th<|?_
 obtain ⟨K3,L3,hm⟩:=bs hm
 refine rg<|qm o rfl λo=>qv o (Ae o Hz rfl) λo=>qv o (Af o isAgg44 rfl (u.ld.cellB t2 rfl)) λo=>?_
 obtain ⟨us51,hd52,hu53⟩:=id S1
 refine ls<|Bv (α:=api_Cell) (xs:=I3) (ys:=p1.Locks) o rfl u underlying44 Ip rfl (by decide) rfl rfl rfl t1 R2 (u.rdH t0 hd52) hu53 L3 λT2 u1 U2 w a V2 hU o=>?_
 replace u:=hU _ (.tail .head)
 refine qa o rfl λo=>re<|tn<|th<|th<|rg<|qa o rfl λo=>re<|tn<|Av (λa w=>∃ (C0:(List api_Cell)) (F0:Option Addr) (D0:Nat) (P0:List Value),(Z53 N) C0=some r∧Fr 60 [(3,SL F0 C0 D0)] a∧St w0 Nil [H] [sla 130 3 F0 C0.length D0 P0] w∧Rows H P0 C0) ?_ ?_
 replace u:=u.pk [2,1] rfl
 refine wb<|lp (α:=Nat×(List api_Cell)×Int) (λgh a w=>match gh with | (T0,G0,J1)=>∃ (Q0:Option Addr) (E0:Nat) (R0:List Value),(Z55 N (Z53 N) p1) T0 G0 J1=some r∧Fr 60 [(1,PT C2),(3,SL Q0 G0 E0),(4,i6 J1)] a∧St w0 Nil [H] [bk C2 [SL Q1 p1.Lines X0,SL R1 p1.Vols Y0,SL j0 p1.Locks I0,SL n0 p1.Threads J0,SL u0 p1.Recover K0,SL B1 p1.Claims M0] 48,sla 130 3 Q0 G0.length E0 R0] w∧Rows H R0 G0) (λgh=>gh.1) (N,K3,0) ⟨T2,u1,U2,hm,o.hs,u,V2⟩ ?_
 rintro ⟨T0,G0,J1⟩ a w ⟨Q0,E0,R0,hm,o,u,T1⟩
 obtain _ | T0:=T0
 simp [Z55] at hm
 rw [Z55] at hm
 refine th<|th<|rg<|qm o rfl λo=>qv o (Ae o Fz rfl) λo=>qv o (Af o isAgg45 rfl (u.ld.cellB t0 rfl)) λo=>qv o (Aj (α:=api_Thread) (xs:=p1.Threads) o runUnderlying45 rfl) λo=>qv o (Ak o rfl rfl) λo=>re<|?_
 rcases bip hm with ⟨D1,hm⟩ | ⟨D1,hm⟩
 refine tn<|ctv o rfl D1<|wk<|tn<|th<|wb<|?_
 obtain ⟨A0,U0,hm⟩:=bs hm
 obtain ⟨G4,M3,U1⟩:=SR.get O0 U0
 obtain ⟨u3,V3,A4,W3,rfl,B4,C4,D4,E4⟩:=Bg M3
 obtain ⟨O3,P3,hm⟩:=bs hm
 refine rdL (Aa t0 Ai) 17 u wide λw u=>ds 0 (St.ldsX u i2 (Aa t0 Ai)) o rfl (Ab o rfl) λo=>ds 1 (St.ldsX u i2 (Aa t0 Ai)) o rfl (Ae o Fz rfl) λo=>dq 2 (St.ldsX u i2 (Aa t0 Ai)) o rfl (λw hl=>Af o isAgg45 rfl (hl.cellB t0 rfl)) λo=>ds 3 (St.ldsX u i2 (Aa t0 Ai)) o rfl (Ab o rfl) λo=>ds 4 (St.ldsX u i2 (Aa t0 Ai)) o rfl (Al o runUnderlying45 sizeOf108 rfl rfl U0 (SR.oaI O0 (by decide) U0)) λo=>ds 5 (St.ldsX u i2 (Aa t0 Ai)) o rfl (Ae o Ft rfl) λo=>dq 6 (St.ldsX u i2 (Aa t0 Ai)) o rfl (λw hl=>Af o isAgg9 rfl (PH.le.cell (Lds.le hl) (U1 0 _ rfl))) λo=>ds 7 (St.ldsX u i2 (Aa t0 Ai)) o rfl (Ae o Fz rfl) λo=>dq 8 (St.ldsX u i2 (Aa t0 Ai)) o rfl (λw hl=>Af o isAgg45 rfl (hl.cellB t0 rfl)) λo=>ds 9 (St.ldsX u i2 (Aa t0 Ai)) o rfl (Ab o rfl) λo=>ds 10 (St.ldsX u i2 (Aa t0 Ai)) o rfl (Al o runUnderlying45 sizeOf108 rfl rfl U0 (SR.oaI O0 (by decide) U0)) λo=>ds 11 (St.ldsX u i2 (Aa t0 Ai)) o rfl (Ae o Kg rfl) λo=>dq 12 (St.ldsX u i2 (Aa t0 Ai)) o rfl (λw hl=>Af o isAgg3 rfl (PH.le.cell (Lds.le hl) (U1 3 _ rfl))) λo=>dq 13 (St.ldsX u i2 (Aa t0 Ai)) o rfl (λw hl=>Bt [Ag A0.Name,i6 A0.At] [Ag A0.Name,i6 0,i6 A0.At] o ⟨rfl,rfl,trivial⟩ (λw=>by kernel_rfl)) λo=>da1 (i:=14) (by kernel_rfl) ?_
 refine di (i:=14) rfl<|Bj (e:=130) (sz:=3) [Ag A0.Name,i6 0,i6 A0.At] o rfl u rfl rfl rfl (λw=>by kernel_rfl) λI4 w a u o=>?_
 have W2:Rows (α:=api_Cell) H [Ag A0.Name,i6 0,i6 A0.At] ([(api_Cell.mk A0.Name 0 A0.At)]:List api_Cell):=(.cons (c:=[Ag A0.Name,i6 0,i6 A0.At]) ⟨_,_,rfl,rfl,⟨_,_,rfl,rfl,rfl⟩⟩ .nil)
 refine ⟨λ_=>(St.ldsX u i2 (Aa t1 Ai)),?_⟩
 refine da1 (i:=15) (by kernel_rfl) ?_
 refine di (i:=15) rfl<|Bv (α:=api_Cell) (xs:=G0) (ys:=([(api_Cell.mk A0.Name 0 A0.At)]:List api_Cell)) o rfl u underlying44 Ip rfl (by decide) rfl rfl rfl t2 T1 (u.rdO t0) W2 P3 λX2 B2 Y2 w a u2 hU o=>?_
 replace u:=hU _ (.tail (.tail .head))
 replace u:=u.drop .head
 refine ⟨λ_=>(St.ldsX u i2 (Aa t0 Ai)),?_⟩
 refine ds 16 (St.ldsX u i2 (Aa t0 Ai)) o rfl (Bp o rfl) λo=>de (by kernel_rfl)<|bn<|tn<|rg<|qm o rfl λo=>qv o (An o rfl rfl) λo=>qa o rfl λo=>re<|tn<|?_
 exact ⟨(T0,O3,(IntKind.i64.wrap (J1+1))),⟨X2,B2,Y2,hm,o.hs,u,u2⟩,Nat.lt_succ_self _⟩
 refine tn<|cfv o rfl D1<|we<|tx<|tx<|bx<|tn<|?_
 replace u:=u.pk [1] rfl
 exact ⟨G0,Q0,E0,R0,hm,o.has ⟨rfl,trivial⟩,u,T1⟩
 rintro a w ⟨C0,F0,D0,P0,hm,o,u,S0⟩
 unfold Z53 at hm
 refine th<|?_
 obtain ⟨V1,Q3,hm⟩:=bs hm
 refine rg<|qm o rfl λo=>ls<|c1 o rfl call99 (X9 (Ah _) (St.capO u t0) (St.srO u t0 S0) Q3) ⟨rfl,trivial⟩ (λv w a hR o=>?_)
 obtain ⟨X1,O1,A3,rfl,E1,hk⟩:=hR
 replace u:=u.fresh hk
 replace E1:=E1 H
 refine qa o rfl λo=>re<|tn<|th<|th<|rg<|qa o rfl λo=>re<|tn<|Av (λa w=>Z54=some r∧Fr 60 [] a∧St w0 Nil [H] [] w) ?_ ?_
 replace u:=u.pk [1,0] rfl
 refine wb<|lp (α:=Nat×Int) (λgh a w=>match gh with | (V0,P1)=>(Z56 N Z54 C0 V1) V0 P1=some r∧Fr 60 [(3,SL F0 C0 D0),(5,SL X1 V1 O1),(6,i6 P1)] a∧St w0 Nil [H] [sla 130 3 F0 C0.length D0 P0,sla 9 1 X1 V1.length O1 A3] w) (λgh=>gh.1) (N,0) ⟨hm,o.hs,u⟩ ?_
 rintro ⟨V0,P1⟩ a w ⟨hm,o,u⟩
 obtain _ | V0:=V0
 simp [Z56] at hm
 rw [Z56] at hm
 refine th<|th<|rg<|qm o rfl λo=>qm o rfl λo=>qv o (Aj (α:=api_Cell) (xs:=C0) o runUnderlying44 rfl) λo=>qv o (Ak o rfl rfl) λo=>re<|?_
 rcases bip hm with ⟨F1,hm⟩ | ⟨F1,hm⟩
 refine tn<|ctv o rfl F1<|wk<|tn<|th<|wb<|th<|?_
 obtain ⟨J4,W0,hm⟩:=bs hm
 have B3:=Rd.oaI (u.rdO t0) S0 (by decide) W0
 obtain ⟨K4,R3,Y1⟩:=Rows.getI S0 W0
 obtain rfl:=Dx R3
 obtain ⟨L4,S3,hm⟩:=bs hm
 refine rg<|qm o rfl λo=>?_
 iterate 2 refine qm o rfl λo=>?_
 refine qv o (Al o runUnderlying44 sizeOf130 rfl rfl W0 B3) λo=>qv o (Ae o Hl rfl) λo=>qv o (Af o isAgg9 rfl (u.ld.elO2 t0 (Y1 0 _ rfl))) λo=>ls<|cr o call90 (Fh (Ah _) (St.capO u t1) (St.srO u t1 E1) S3) u λu o=>qm o rfl λo=>qv o (Ak o rfl rfl) λo=>re<|?_
 rcases bip hm with ⟨I1,hm⟩ | ⟨I1,hm⟩
 refine tn<|ctv o rfl I1<|th<|?_
 have C3:=Rd.oaI (u.rdO t0) S0 (by decide) W0
 refine rg<|qm o rfl λo=>qm o rfl λo=>qv o (Al o runUnderlying44 sizeOf130 rfl rfl W0 C3) λo=>qv o (Ae o Ts rfl) λo=>qv o (Af o isAgg3 rfl (u.ld.elO2 t0 (Y1 2 _ rfl))) λo=>qa o rfl λo=>re<|tn<|wr<|br<|tr<|tr<|br<|tr<|?_
 obtain rfl:=si hm
 exact r1 o results89 rfl ⟨rfl,u.keep⟩
 refine tn<|cfv o rfl I1<|wk<|bn<|tn<|rg<|qm o rfl λo=>qv o (An o rfl rfl) λo=>qa o rfl λo=>re<|tn<|?_
 exact ⟨(V0,(IntKind.i64.wrap (P1+1))),⟨hm,o.hs,u⟩,Nat.lt_succ_self _⟩
 refine tn<|cfv o rfl F1<|we<|tx<|tx<|bx<|tn<|?_
 replace u:=u.pickL .nil
 exact ⟨hm,o.has trivial,u⟩
 rintro a w ⟨hm,o,u⟩
 unfold Z54 at hm
 refine th<|rg<|qa o rfl λo=>re<|tn<|wr<|?_
 obtain rfl:=si hm
 exact r1 o results89 rfl ⟨rfl,u.keep⟩
theorem Oa (hH:H.le w0) {cs2:List Value} {p1:api_Prog} (g3:Enc.rep H cs2 p1) {r:(List Str)} (hm:Z3s N p1=some r):Tot Tryz.prog 59 #[.agg cs2.toArray] w0 (λv w'=>∃ (R0:Option Addr) (I0:Nat) (S0:List Value),v=SL R0 r I0∧(∀ h,Rows h S0 r)∧Fresh w0 (sla 9 1 R0 r.length I0 S0) w'):=by
 unfold Z3s at hm
 refine fn0 func59 rfl ntmps59 rfl rfl λa o=>?_
 have u:St w0 Nil [H] [] w0:=start1 hH
 obtain ⟨T0,J0,U0,K0,M0,D0,O0,E0,P0,F0,Q0,G0,rfl,E1,F1,V0,W0,X0,Y0,j0,n0,u0,B1,C1,D1⟩:=Bc g3
 refine th<|rg<|ls<|Br (cs:=[SL T0 p1.Lines J0,SL U0 p1.Vols K0,SL M0 p1.Locks D0,SL O0 p1.Threads E0,SL P0 p1.Recover F0,SL Q0 p1.Claims G0].toArray) o rfl u rfl rfl λU1 w a u o=>qa o rfl λo=>re<|tn<|th<|?_
 obtain ⟨V1,I1,hm⟩:=bs hm
 obtain ⟨X1,J1,hm⟩:=bs hm
 refine rg<|qv o (Ar o Tryz.isAgg48 Tryz.sizeOf48 rfl rfl (u.ld.cellsB t0)) λo=>ls<|c1 o rfl call94 (Qf (Ah _) (Enc.mono (St.up u) (show Enc.rep (α:=api_Prog) H [SL T0 p1.Lines J0,SL U0 p1.Vols K0,SL M0 p1.Locks D0,SL O0 p1.Threads E0,SL P0 p1.Recover F0,SL Q0 p1.Claims G0] p1 from ⟨_,_,rfl,⟨_,_,rfl,E1,F1⟩,⟨_,_,rfl,⟨_,_,rfl,V0,W0⟩,⟨_,_,rfl,⟨_,_,rfl,X0,Y0⟩,⟨_,_,rfl,⟨_,_,rfl,j0,n0⟩,⟨_,_,rfl,⟨_,_,rfl,u0,B1⟩,⟨_,_,rfl,C1,D1⟩⟩⟩⟩⟩⟩)) I1) ⟨rfl,trivial⟩ (λv w a hR o=>?_)
 obtain ⟨Q1,O1,R1,rfl,A0,hk⟩:=hR
 replace u:=u.fresh hk
 replace A0:=A0 H
 refine ls<|c1 o rfl call99 (X9 (Ah _) (St.capO u t0) (St.srO u t0 A0) J1) ⟨rfl,trivial⟩ (λv w a hR o=>?_)
 obtain ⟨S1,P1,T1,rfl,C0,hk⟩:=hR
 replace u:=u.fresh hk
 replace C0:=C0 H
 refine qa o rfl λo=>re<|tn<|wr<|?_
 obtain rfl:=si hm
 exact r1 o results59 rfl ⟨_,_,_,rfl,(λ_=>Rows.ind C0),u.endFresh t0⟩
theorem Wp (hH:H.le w0) {cs2:List Value} {p1:api_Prog} (g3:Enc.rep H cs2 p1) {r:(List Str)} (hm:Z4h N p1=some r):Tot Tryz.prog 91 #[.agg cs2.toArray] w0 (λv w'=>∃ (I0:Option Addr) (C0:Nat) (J0:List Value),v=SL I0 r C0∧(∀ h,Rows h J0 r)∧Fresh w0 (sla 9 1 I0 r.length C0 J0) w'):=by
 unfold Z4h at hm
 refine fn0 func91 rfl ntmps91 rfl rfl λa o=>?_
 have u:St w0 Nil [H] [] w0:=start1 hH
 obtain ⟨U0,K0,V0,M0,O0,D0,P0,E0,Q0,F0,R0,G0,rfl,J1,O1,Y0,j0,S0,T0,n0,u0,B1,C1,D1,E1⟩:=Bc g3
 refine th<|rg<|ls<|Br (cs:=[SL U0 p1.Lines K0,SL V0 p1.Vols M0,SL O0 p1.Locks D0,SL P0 p1.Threads E0,SL Q0 p1.Recover F0,SL R0 p1.Claims G0].toArray) o rfl u rfl rfl λP1 w a u o=>qa o rfl λo=>re<|tn<|th<|?_
 obtain ⟨Q1,W0,hm⟩:=bs hm
 refine rg<|qv o (Ae o Hz rfl) λo=>qv o (Af o isAgg44 rfl (u.ld.cellB t0 rfl)) λo=>ls<|c1 o rfl call99 (X9 (Ah _) S0 (St.srH u T0) W0) ⟨rfl,trivial⟩ (λv w a hR o=>?_)
 obtain ⟨F1,X0,I1,rfl,A0,hk⟩:=hR
 replace u:=u.fresh hk
 replace A0:=A0 H
 refine qa o rfl λo=>re<|tn<|wr<|?_
 obtain rfl:=si hm
 exact r1 o results91 rfl ⟨_,_,_,rfl,(λ_=>Rows.ind A0),u.endFresh t0⟩
theorem Uf (hH:H.le w0) {cs2:List Value} {p1:api_Prog} (g3:Enc.rep H cs2 p1) {r:Int} (hm:Z4o N p1=some r):Tot Tryz.prog 54 #[.agg cs2.toArray] w0 (λv w'=>v=i6 r∧Keep Nil w0 w'):=by
 unfold Z4o at hm
 refine fn0 func54 rfl ntmps54 rfl rfl λa o=>?_
 have u:St w0 Nil [H] [] w0:=start1 hH
 obtain ⟨P0,F0,Q0,G0,I0,A0,J0,C0,K0,D0,M0,E0,rfl,u0,B1,R0,S0,T0,U0,V0,W0,X0,Y0,j0,n0⟩:=Bc g3
 refine th<|rg<|ls<|Br (cs:=[SL P0 p1.Lines F0,SL Q0 p1.Vols G0,SL I0 p1.Locks A0,SL J0 p1.Threads C0,SL K0 p1.Recover D0,SL M0 p1.Claims E0].toArray) o rfl u rfl rfl λJ1 w a u o=>qa o rfl λo=>re<|tn<|th<|?_
 obtain ⟨C1,D1,hm⟩:=bs hm
 refine rdS 8 u wide λw u=>dq 0 u.ld o rfl (λw hl=>Ar o isAgg48 sizeOf48 rfl rfl (hl.cellsB t0)) λo=>dr 3 u o rfl (Ae o H5 rfl) λo=>dq 4 u.ld o rfl (λw hl=>Af o isAgg44 rfl (hl.cellB t0 rfl)) λo=>dr 5 u o rfl (Aj (α:=api_Cell) (xs:=p1.Vols) o runUnderlying44 rfl) λo=>da1 (i:=1) (by kernel_rfl) ?_
 refine di (i:=1) rfl<|c1 o rfl call94 (Qf (Ah _) (Enc.mono (St.up u) (show Enc.rep (α:=api_Prog) H [SL P0 p1.Lines F0,SL Q0 p1.Vols G0,SL I0 p1.Locks A0,SL J0 p1.Threads C0,SL K0 p1.Recover D0,SL M0 p1.Claims E0] p1 from ⟨_,_,rfl,⟨_,_,rfl,u0,B1⟩,⟨_,_,rfl,⟨_,_,rfl,R0,S0⟩,⟨_,_,rfl,⟨_,_,rfl,T0,U0⟩,⟨_,_,rfl,⟨_,_,rfl,V0,W0⟩,⟨_,_,rfl,⟨_,_,rfl,X0,Y0⟩,⟨_,_,rfl,j0,n0⟩⟩⟩⟩⟩⟩)) D1) ⟨rfl,trivial⟩ (λv w a hR o=>?_)
 obtain ⟨F1,E1,I1,rfl,O0,hk⟩:=hR
 replace u:=u.fresh hk
 replace O0:=O0 H
 refine ⟨λ_=>(St.ldsX u i2 ta1),?_⟩
 refine ds 2 (St.ldsX u i2 ta1) o rfl (Aj (α:=api_Cell) (xs:=C1) o runUnderlying44 rfl) λo=>ds 6 (St.ldsX u i2 ta1) o rfl (En o rfl rfl) λo=>ds 7 (St.ldsX u i2 ta1) o rfl (Bp o rfl) λo=>de (by kernel_rfl)<|tn<|wr<|?_
 obtain rfl:=si hm
 exact r1 o results54 rfl ⟨rfl,u.keep⟩
theorem Jaa (hH:H.le w0) {O0:Option Addr} {F0:Nat} {p1:(List api_Node)} (j0:p1.length≤F0) (C0:SR H O0 p1) {P0:Option Addr} {G0:Nat} {p6:(List Str)} (U0:p6.length≤G0) (S0:SR H P0 p6) {r:Int} (hm:Z57 N p1 p6=some r):Tot Tryz.prog 93 #[SL O0 p1 F0,SL P0 p6 G0] w0 (λv w'=>v=i6 r∧Keep Nil w0 w'):=by
 unfold Z57 at hm
 refine fn0 func93 rfl ntmps93 rfl rfl λa o=>?_
 have u:St w0 Nil [H] [] w0:=start1 hH
 refine th<|rg<|qa o rfl λo=>re<|tn<|th<|th<|rg<|qa o rfl λo=>re<|tn<|Av (λa w=>Z58=some r∧Fr 33 [] a∧St w0 Nil [H] [] w) ?_ ?_
 refine wb<|lp (α:=Nat×Int) (λgh a w=>match gh with | (D0,E0)=>(Z5a N Z58 p1 p6) D0 E0=some r∧Fr 33 [(0,SL O0 p1 F0),(1,SL P0 p6 G0),(5,i6 E0)] a∧St w0 Nil [H] [] w) (λgh=>gh.1) (N,0) ⟨hm,o.hs,u⟩ ?_
 rintro ⟨D0,E0⟩ a w ⟨hm,o,u⟩
 obtain _ | D0:=D0
 simp [Z5a] at hm
 rw [Z5a] at hm
 refine th<|th<|rg<|qm o rfl λo=>qm o rfl λo=>qv o (Aj (α:=api_Node) (xs:=p1) o runUnderlying96 rfl) λo=>qv o (Ak o rfl rfl) λo=>re<|?_
 rcases bip hm with ⟨I0,hm⟩ | ⟨I0,hm⟩
 refine tn<|ctv o rfl I0<|wk<|tn<|th<|wb<|th<|Av (λa w=>∃ (Q0:Bool),(Z59 (Z5a N Z58 p1 p6 D0) p1 E0) Q0=some r∧Fr 33 [(0,SL O0 p1 F0),(1,SL P0 p6 G0),(5,i6 E0),(27,.bool Q0)] a∧St w0 Nil [H] [] w) ?_ ?_
 obtain ⟨n0,A0,hm⟩:=bs hm
 obtain ⟨u0,V0,J0⟩:=SR.get C0 A0
 obtain rfl:=Bw V0
 rcases bip hm with ⟨K0,hm⟩ | ⟨K0,hm⟩
 obtain ⟨W0,X0,hm⟩:=bs hm
 refine rg<|qm o rfl λo=>qm o rfl λo=>qv o (Al o runUnderlying96 sizeOf133 rfl rfl A0 (SR.oaI C0 (by decide) A0)) λo=>qv o (Ae o Co rfl) λo=>qv o (Af o isAgg3 rfl (PH.le.cell (Lds.le u.ld) (J0 0 _ rfl))) λo=>qv o (Aq o rfl rfl) λo=>qv o (Ax (Ab o rfl) (congrArg Value.bool K0)) λo=>?_
 iterate 3 refine qg o (Ab o rfl) λo=>?_
 refine qg o (Al o runUnderlying96 sizeOf133 rfl rfl A0 (SR.oaI C0 (by decide) A0)) λo=>qg o (Ae o Eu rfl) λo=>qg o (Af o isAgg9 rfl (PH.le.cell (Lds.le u.ld) (J0 2 _ rfl))) λo=>ls<|gy o rfl rfl<|cr o call90 (Fh (Ah _) U0 (St.srH u S0) X0) u λu o=>qg o (Ak o rfl rfl) λo=>qv o (Ac o rfl rfl) λo=>re<|tn<|?_
 exact ⟨(decide (W0 < 0)),hm,o.hs,u⟩
 refine rg<|qm o rfl λo=>qm o rfl λo=>qv o (Al o runUnderlying96 sizeOf133 rfl rfl A0 (SR.oaI C0 (by decide) A0)) λo=>qv o (Ae o Co rfl) λo=>qv o (Af o isAgg3 rfl (PH.le.cell (Lds.le u.ld) (J0 0 _ rfl))) λo=>qv o (Aq o rfl rfl) λo=>qv o (Ax (Ab o rfl) (congrArg Value.bool K0)) λo=>?_
 iterate 8 refine qn o λo=>?_
 refine qv o (Ad o rfl rfl) λo=>re<|tn<|?_
 exact ⟨false,hm,o.hs,u⟩
 rintro a w ⟨Q0,hm,o,u⟩
 unfold Z59 at hm
 rcases bit hm with ⟨M0,hm⟩ | ⟨M0,hm⟩
 refine ctv o rfl M0<|th<|?_
 obtain ⟨B1,R0,hm⟩:=bs hm
 obtain ⟨C1,Y0,T0⟩:=SR.get C0 R0
 obtain rfl:=Bw Y0
 refine rg<|qm o rfl λo=>qm o rfl λo=>qv o (Al o runUnderlying96 sizeOf133 rfl rfl R0 (SR.oaI C0 (by decide) R0)) λo=>qv o (Ae o Ht rfl) λo=>qv o (Af o isAgg3 rfl (PH.le.cell (Lds.le u.ld) (T0 3 _ rfl))) λo=>qa o rfl λo=>re<|tn<|wr<|br<|tr<|tr<|br<|tr<|?_
 obtain rfl:=si hm
 exact r1 o results93 rfl ⟨rfl,u.keep⟩
 refine cfv o rfl M0<|wk<|bn<|tn<|rg<|qm o rfl λo=>qv o (An o rfl rfl) λo=>qa o rfl λo=>re<|tn<|?_
 exact ⟨(D0,(IntKind.i64.wrap (E0+1))),⟨hm,o.hs,u⟩,Nat.lt_succ_self _⟩
 refine tn<|cfv o rfl I0<|we<|tx<|tx<|bx<|tn<|?_
 exact ⟨hm,o.has trivial,u⟩
 rintro a w ⟨hm,o,u⟩
 unfold Z58 at hm
 refine th<|rg<|qa o rfl λo=>re<|tn<|wr<|?_
 obtain rfl:=si hm
 exact r1 o results93 rfl ⟨rfl,u.keep⟩
set_option maxHeartbeats 4000000 in
theorem Jch (hH:H.le w0) {cs2:List Value} {p1:api_Prog} (g3:Enc.rep H cs2 p1) {cs5:List Value} {p4:api_Thread} (g6:Enc.rep H cs5 p4) {cs8:List Value} {p7:api_Stmt} (g9:Enc.rep H cs8 p7) {r:Int} (hm:Z4v N p1 p4 p7=some r):Tot Tryz.prog 92 #[.agg cs2.toArray,.agg cs5.toArray,.agg cs8.toArray] w0 (λv w'=>v=i6 r∧Keep Nil w0 w'):=by
 unfold Z4v at hm
 refine fn0 func92 rfl ntmps92 rfl rfl λa o=>?_
 have u:St w0 Nil [H] [] w0:=start1 hH
 obtain ⟨Q0,A0,R0,C0,S0,D0,T0,E0,U0,F0,V0,G0,rfl,B1,C1,D1,E1,F1,I1,J1,O1,P1,Q1,R1,S1⟩:=Bc g3
 obtain ⟨W0,I0,X0,J0,rfl,T1,U1,Q3,R3⟩:=Bg g6
 obtain ⟨Y0,K0,j0,M0,rfl,Y2,u2,A3,B3⟩:=Bs g9
 refine th<|rg<|ls<|Br (cs:=[SL Q0 p1.Lines A0,SL R0 p1.Vols C0,SL S0 p1.Locks D0,SL T0 p1.Threads E0,SL U0 p1.Recover F0,SL V0 p1.Claims G0].toArray) o rfl u rfl rfl λn0 w a u o=>ls<|Br (cs:=[Ag p4.Name,SL W0 p4.Regs I0,SL X0 p4.Body J0,i6 p4.At].toArray) o rfl u rfl rfl λO0 w a u o=>ls<|Br (cs:=[i6 p7.Kind,Ag p7.Reg,Ag p7.Name,SL Y0 p7.E K0,SL j0 p7.F M0,i6 p7.N,i6 p7.Body,i6 p7.Else,i6 p7.At].toArray) o rfl u rfl rfl λP0 w a u o=>qa o rfl λo=>re<|tn<|th<|th<|Av (λa w=>∃ (T2:Bool),(Z4w N p1 p4 p7) T2=some r∧Fr 74 [(3,PT n0),(4,PT O0),(5,PT P0),(19,.bool T2)] a∧St w0 Nil [H] [bk n0 [SL Q0 p1.Lines A0,SL R0 p1.Vols C0,SL S0 p1.Locks D0,SL T0 p1.Threads E0,SL U0 p1.Recover F0,SL V0 p1.Claims G0] 48,bk O0 [Ag p4.Name,SL W0 p4.Regs I0,SL X0 p4.Body J0,i6 p4.At] 108,bk P0 [i6 p7.Kind,Ag p7.Reg,Ag p7.Name,SL Y0 p7.E K0,SL j0 p7.F M0,i6 p7.N,i6 p7.Body,i6 p7.Else,i6 p7.At] 140] w) ?_ ?_
 rcases bip hm with ⟨V1,hm⟩ | ⟨V1,hm⟩
 obtain ⟨C3,D3,hm⟩:=bs hm
 refine rg<|qv o (Ae o Ek rfl) λo=>qv o (Af o isAgg9 rfl (u.ld.cellB t0 rfl)) λo=>qv o (E9 (m:=p7.Reg) (n:=[]) o rfl rfl) λo=>qv o (Ax (Ab o rfl) (congrArg Value.bool V1)) λo=>qg o (Ae o Cp rfl) λo=>qg o (Af o isAgg92 rfl (u.ld.cellB t1 rfl)) λo=>qg o (Ae o Ek rfl) λo=>qg o (Af o isAgg9 rfl (u.ld.cellB t0 rfl)) λo=>ls<|gy o rfl rfl<|cr o call90 (Fh (Ah _) T1 (St.srH u U1) D3) u λu o=>qg o (Ak o rfl rfl) λo=>qv o (Ac o rfl rfl) λo=>re<|tn<|?_
 replace u:=u.pk [2,1,0] rfl
 exact ⟨(decide (C3 < 0)),hm,o.hs,u⟩
 refine rg<|qv o (Ae o Ek rfl) λo=>qv o (Af o isAgg9 rfl (u.ld.cellB t0 rfl)) λo=>qv o (E9 (m:=p7.Reg) (n:=[]) o rfl rfl) λo=>qv o (Ax (Ab o rfl) (congrArg Value.bool V1)) λo=>?_
 iterate 6 refine qn o λo=>?_
 refine qv o (Ad o rfl rfl) λo=>re<|tn<|?_
 replace u:=u.pk [2,1,0] rfl
 exact ⟨false,hm,o.hs,u⟩
 rintro a w ⟨T2,hm,o,u⟩
 unfold Z4w at hm
 rcases bit hm with ⟨X1,hm⟩ | ⟨X1,hm⟩
 refine ctv o rfl X1<|th<|rg<|qv o (Ae o Hp rfl) λo=>qv o (Af o isAgg3 rfl (u.ld.cellB t2 rfl)) λo=>qa o rfl λo=>re<|tn<|wr<|tr<|?_
 obtain rfl:=si hm
 exact r1 o results92 rfl ⟨rfl,u.keep⟩
 refine cfv o rfl X1<|wk<|tn<|th<|?_
 obtain ⟨W3,E3,hm⟩:=bs hm
 obtain ⟨u0,F3,hm⟩:=bs hm
 refine rdS 6 u wide λw u=>dq 0 u.ld o rfl (λw hl=>Ar o isAgg48 sizeOf48 rfl rfl (hl.cellsB t0)) λo=>dr 2 u o rfl (Ae o Fj rfl) λo=>dq 3 u.ld o rfl (λw hl=>Af o isAgg9 rfl (hl.cellB t2 rfl)) λo=>da1 (i:=1) (by kernel_rfl) ?_
 refine di (i:=1) rfl<|c1 o rfl call59 (Oa (Ah _) (Enc.mono (St.up u) (show Enc.rep (α:=api_Prog) H [SL Q0 p1.Lines A0,SL R0 p1.Vols C0,SL S0 p1.Locks D0,SL T0 p1.Threads E0,SL U0 p1.Recover F0,SL V0 p1.Claims G0] p1 from ⟨_,_,rfl,⟨_,_,rfl,B1,C1⟩,⟨_,_,rfl,⟨_,_,rfl,D1,E1⟩,⟨_,_,rfl,⟨_,_,rfl,F1,I1⟩,⟨_,_,rfl,⟨_,_,rfl,J1,O1⟩,⟨_,_,rfl,⟨_,_,rfl,P1,Q1⟩,⟨_,_,rfl,R1,S1⟩⟩⟩⟩⟩⟩)) E3) ⟨rfl,trivial⟩ (λv w a hR o=>?_)
 obtain ⟨S3,O3,T3,rfl,Y1,hk⟩:=hR
 replace u:=u.fresh hk
 replace Y1:=Y1 H
 refine ⟨λ_=>(St.ldsX u i2 ta1),?_⟩
 refine da1 (i:=4) (by kernel_rfl) ?_
 refine di (i:=4) rfl<|cr o call90 (Fh (Ah _) (St.capO u t0) (St.srO u t0 Y1) F3) u λu o=>⟨λ_=>(St.ldsX u i2 ta1),?_⟩
 refine ds 5 (St.ldsX u i2 ta1) o rfl (Bp o rfl) λo=>de (by kernel_rfl)<|tn<|th<|th<|rg<|qv o (Ae o Cm rfl) λo=>qv o (Af o isAgg3 rfl (u.ld.cellB t3 rfl)) λo=>re<|tn<|Av (λa w=>(Z4x N p4 p7)=some r∧Fr 74 [(4,PT O0),(5,PT P0)] a∧St w0 Nil [H] [bk O0 [Ag p4.Name,SL W0 p4.Regs I0,SL X0 p4.Body J0,i6 p4.At] 108,bk P0 [i6 p7.Kind,Ag p7.Reg,Ag p7.Name,SL Y0 p7.E K0,SL j0 p7.F M0,i6 p7.N,i6 p7.Body,i6 p7.Else,i6 p7.At] 140] w) ?_ ?_
 refine wb<|th<|th<|rg<|qv o (Aq o rfl rfl) λo=>qa o rfl λo=>re<|tn<|Av (λa w=>∃ (U2:Bool),(Z4y N (Z4x N p4 p7) p1 p7 u0) U2=some r∧Fr 74 [(3,PT n0),(4,PT O0),(5,PT P0),(7,i6 u0),(28,i6 p7.Kind),(29,.bool U2)] a∧St w0 Nil [H] [bk n0 [SL Q0 p1.Lines A0,SL R0 p1.Vols C0,SL S0 p1.Locks D0,SL T0 p1.Threads E0,SL U0 p1.Recover F0,SL V0 p1.Claims G0] 48,bk O0 [Ag p4.Name,SL W0 p4.Regs I0,SL X0 p4.Body J0,i6 p4.At] 108,bk P0 [i6 p7.Kind,Ag p7.Reg,Ag p7.Name,SL Y0 p7.E K0,SL j0 p7.F M0,i6 p7.N,i6 p7.Body,i6 p7.Else,i6 p7.At] 140] w) ?_ ?_
 rcases bip hm with ⟨u1,hm⟩ | ⟨u1,hm⟩
 refine ctv o rfl u1<|wk<|tn<|?_
 replace u:=u.pk [1,1,1] rfl
 exact ⟨(decide (p7.Kind=2)),hm,o.hs,u⟩
 refine cfv o rfl u1<|th<|rg<|qv o (Aq o rfl rfl) λo=>qa o rfl λo=>re<|?_
 rcases bip hm with ⟨B2,hm⟩ | ⟨B2,hm⟩
 refine tn<|ctv o rfl B2<|wk<|tn<|?_
 replace u:=u.pk [1,1,1] rfl
 exact ⟨(decide (p7.Kind=3)),hm,o.hs,u⟩
 refine tn<|cfv o rfl B2<|rg<|qv o (Aq o rfl rfl) λo=>qa o rfl λo=>re<|tn<|?_
 replace u:=u.pk [1,1,1] rfl
 exact ⟨(decide (p7.Kind=4)),hm,o.hs,u⟩
 rintro a w ⟨U2,hm,o,u⟩
 unfold Z4y at hm
 rcases bit hm with ⟨C2,hm⟩ | ⟨C2,hm⟩
 refine ctv o rfl C2<|th<|rg<|qm o rfl λo=>qv o (Ak o rfl rfl) λo=>re<|?_
 rcases bip hm with ⟨E2,hm⟩ | ⟨E2,hm⟩
 refine tn<|ctv o rfl E2<|th<|rg<|qv o (Ae o Hp rfl) λo=>qv o (Af o isAgg3 rfl (u.ld.cellB t2 rfl)) λo=>qa o rfl λo=>re<|tn<|wr<|br<|tr<|?_
 obtain rfl:=si hm
 exact r1 o results92 rfl ⟨rfl,u.keep⟩
 refine tn<|cfv o rfl E2<|wk<|bn<|tn<|?_
 replace u:=u.pk [1,1] rfl
 exact ⟨hm,o.has ⟨rfl,rfl,trivial⟩,u⟩
 refine cfv o rfl C2<|th<|th<|rg<|qv o (Aq o rfl rfl) λo=>qa o rfl λo=>re<|tn<|Av (λa w=>∃ (V2:Bool),(Z4z N (Z4x N p4 p7) p1 p7 u0) V2=some r∧Fr 74 [(3,PT n0),(4,PT O0),(5,PT P0),(7,i6 u0),(28,i6 p7.Kind),(37,.bool V2)] a∧St w0 Nil [H] [bk n0 [SL Q0 p1.Lines A0,SL R0 p1.Vols C0,SL S0 p1.Locks D0,SL T0 p1.Threads E0,SL U0 p1.Recover F0,SL V0 p1.Claims G0] 48,bk O0 [Ag p4.Name,SL W0 p4.Regs I0,SL X0 p4.Body J0,i6 p4.At] 108,bk P0 [i6 p7.Kind,Ag p7.Reg,Ag p7.Name,SL Y0 p7.E K0,SL j0 p7.F M0,i6 p7.N,i6 p7.Body,i6 p7.Else,i6 p7.At] 140] w) ?_ ?_
 rcases bip hm with ⟨F2,hm⟩ | ⟨F2,hm⟩
 refine ctv o rfl F2<|wk<|tn<|?_
 exact ⟨(decide (p7.Kind=5)),hm,o.hs,u⟩
 refine cfv o rfl F2<|rg<|qv o (Aq o rfl rfl) λo=>qa o rfl λo=>re<|tn<|?_
 exact ⟨(decide (p7.Kind=6)),hm,o.hs,u⟩
 rintro a w ⟨V2,hm,o,u⟩
 unfold Z4z at hm
 rcases bit hm with ⟨G2,hm⟩ | ⟨G2,hm⟩
 refine ctv o rfl G2<|th<|Av (λa w=>∃ (W2:Bool),(Z50 (Z4x N p4 p7) p7) W2=some r∧Fr 74 [(4,PT O0),(5,PT P0),(47,.bool W2)] a∧St w0 Nil [H] [bk O0 [Ag p4.Name,SL W0 p4.Regs I0,SL X0 p4.Body J0,i6 p4.At] 108,bk P0 [i6 p7.Kind,Ag p7.Reg,Ag p7.Name,SL Y0 p7.E K0,SL j0 p7.F M0,i6 p7.N,i6 p7.Body,i6 p7.Else,i6 p7.At] 140] w) ?_ ?_
 rcases bip hm with ⟨I2,hm⟩ | ⟨I2,hm⟩
 refine rg<|qm o rfl λo=>qv o (Ak o rfl rfl) λo=>qv o (Ax (Ab o rfl) (congrArg Value.bool I2)) λo=>?_
 iterate 4 refine qn o λo=>?_
 refine qv o (Ac o rfl rfl) λo=>re<|tn<|?_
 replace u:=u.pk [1,1] rfl
 exact ⟨true,hm,o.hs,u⟩
 obtain ⟨G3,I3,hm⟩:=bs hm
 refine rg<|qm o rfl λo=>qv o (Ak o rfl rfl) λo=>qv o (Ax (Ab o rfl) (congrArg Value.bool I2)) λo=>qg o (Ab o rfl) λo=>qg o (Ar o isAgg48 sizeOf48 rfl rfl (u.ld.cellsB t0)) λo=>ls<|gy o rfl rfl<|cr o call54 (Uf (Ah _) (Enc.mono (St.up u) (show Enc.rep (α:=api_Prog) H [SL Q0 p1.Lines A0,SL R0 p1.Vols C0,SL S0 p1.Locks D0,SL T0 p1.Threads E0,SL U0 p1.Recover F0,SL V0 p1.Claims G0] p1 from ⟨_,_,rfl,⟨_,_,rfl,B1,C1⟩,⟨_,_,rfl,⟨_,_,rfl,D1,E1⟩,⟨_,_,rfl,⟨_,_,rfl,F1,I1⟩,⟨_,_,rfl,⟨_,_,rfl,J1,O1⟩,⟨_,_,rfl,⟨_,_,rfl,P1,Q1⟩,⟨_,_,rfl,R1,S1⟩⟩⟩⟩⟩⟩)) I3) u λu o=>qg o (Bo o rfl rfl) λo=>qv o (Ad o rfl rfl) λo=>re<|tn<|?_
 replace u:=u.pk [1,1] rfl
 exact ⟨(decide (G3≤u0)),hm,o.hs,u⟩
 rintro a w ⟨W2,hm,o,u⟩
 unfold Z50 at hm
 rcases bit hm with ⟨J2,hm⟩ | ⟨J2,hm⟩
 refine ctv o rfl J2<|th<|rg<|qv o (Ae o Hp rfl) λo=>qv o (Af o isAgg3 rfl (u.ld.cellB t1 rfl)) λo=>qa o rfl λo=>re<|tn<|wr<|br<|tr<|?_
 obtain rfl:=si hm
 exact r1 o results92 rfl ⟨rfl,u.keep⟩
 refine cfv o rfl J2<|wk<|bn<|tn<|?_
 exact ⟨hm,o.has ⟨rfl,rfl,trivial⟩,u⟩
 refine cfv o rfl G2<|th<|th<|rg<|qv o (Aq o rfl rfl) λo=>qa o rfl λo=>re<|tn<|Av (λa w=>∃ (X2:Bool),(Z51 N (Z4x N p4 p7) p1 p7) X2=some r∧Fr 74 [(3,PT n0),(4,PT O0),(5,PT P0),(50,.bool X2)] a∧St w0 Nil [H] [bk n0 [SL Q0 p1.Lines A0,SL R0 p1.Vols C0,SL S0 p1.Locks D0,SL T0 p1.Threads E0,SL U0 p1.Recover F0,SL V0 p1.Claims G0] 48,bk O0 [Ag p4.Name,SL W0 p4.Regs I0,SL X0 p4.Body J0,i6 p4.At] 108,bk P0 [i6 p7.Kind,Ag p7.Reg,Ag p7.Name,SL Y0 p7.E K0,SL j0 p7.F M0,i6 p7.N,i6 p7.Body,i6 p7.Else,i6 p7.At] 140] w) ?_ ?_
 rcases bip hm with ⟨K2,hm⟩ | ⟨K2,hm⟩
 refine ctv o rfl K2<|wk<|tn<|?_
 exact ⟨(decide (p7.Kind=9)),hm,o.hs,u⟩
 refine cfv o rfl K2<|rg<|qv o (Aq o rfl rfl) λo=>qa o rfl λo=>re<|tn<|?_
 exact ⟨(decide (p7.Kind=10)),hm,o.hs,u⟩
 rintro a w ⟨X2,hm,o,u⟩
 unfold Z51 at hm
 rcases bit hm with ⟨O2,hm⟩ | ⟨O2,hm⟩
 refine ctv o rfl O2<|th<|?_
 obtain ⟨X3,J3,hm⟩:=bs hm
 obtain ⟨Y3,K3,hm⟩:=bs hm
 refine rdS 6 u wide λw u=>dq 0 u.ld o rfl (λw hl=>Ar o isAgg48 sizeOf48 rfl rfl (hl.cellsB t0)) λo=>dr 2 u o rfl (Ae o Fj rfl) λo=>dq 3 u.ld o rfl (λw hl=>Af o isAgg9 rfl (hl.cellB t2 rfl)) λo=>da1 (i:=1) (by kernel_rfl) ?_
 refine di (i:=1) rfl<|c1 o rfl call91 (Wp (Ah _) (Enc.mono (St.up u) (show Enc.rep (α:=api_Prog) H [SL Q0 p1.Lines A0,SL R0 p1.Vols C0,SL S0 p1.Locks D0,SL T0 p1.Threads E0,SL U0 p1.Recover F0,SL V0 p1.Claims G0] p1 from ⟨_,_,rfl,⟨_,_,rfl,B1,C1⟩,⟨_,_,rfl,⟨_,_,rfl,D1,E1⟩,⟨_,_,rfl,⟨_,_,rfl,F1,I1⟩,⟨_,_,rfl,⟨_,_,rfl,J1,O1⟩,⟨_,_,rfl,⟨_,_,rfl,P1,Q1⟩,⟨_,_,rfl,R1,S1⟩⟩⟩⟩⟩⟩)) J3) ⟨rfl,trivial⟩ (λv w a hR o=>?_)
 obtain ⟨U3,P3,V3,rfl,P2,hk⟩:=hR
 replace u:=u.fresh hk
 replace P2:=P2 H
 refine ⟨λ_=>(St.ldsX u i2 ta1),?_⟩
 refine da1 (i:=4) (by kernel_rfl) ?_
 refine di (i:=4) rfl<|cr o call90 (Fh (Ah _) (St.capO u t0) (St.srO u t0 P2) K3) u λu o=>⟨λ_=>(St.ldsX u i2 ta1),?_⟩
 refine ds 5 (St.ldsX u i2 ta1) o rfl (Ak o rfl rfl) λo=>de (by kernel_rfl)<|?_
 rcases bip hm with ⟨Q2,hm⟩ | ⟨Q2,hm⟩
 refine tn<|ctv o rfl Q2<|th<|rg<|qv o (Ae o Hp rfl) λo=>qv o (Af o isAgg3 rfl (u.ld.cellB t3 rfl)) λo=>qa o rfl λo=>re<|tn<|wr<|br<|tr<|?_
 obtain rfl:=si hm
 exact r1 o results92 rfl ⟨rfl,u.keep⟩
 refine tn<|cfv o rfl Q2<|wk<|bn<|tn<|?_
 replace u:=u.pk [2,2] rfl
 exact ⟨hm,o.has ⟨rfl,rfl,trivial⟩,u⟩
 refine cfv o rfl O2<|wk<|bn<|tn<|?_
 replace u:=u.pk [1,1] rfl
 exact ⟨hm,o.has ⟨rfl,rfl,trivial⟩,u⟩
 rintro a w ⟨hm,o,u⟩
 unfold Z4x at hm
 refine th<|?_
 obtain ⟨l3,L3,hm⟩:=bs hm
 refine rg<|qv o (Ae o Fs rfl) λo=>qv o (Af o isAgg96 rfl (u.ld.cellB t1 rfl)) λo=>qv o (Ae o Cp rfl) λo=>qv o (Af o isAgg92 rfl (u.ld.cellB t0 rfl)) λo=>ls<|cr o call93 (Jaa (Ah _) Y2 (St.srH u u2) T1 (St.srH u U1) L3) u λu o=>qa o rfl λo=>re<|tn<|th<|th<|rg<|qm o rfl λo=>qv o (Bo o rfl rfl) λo=>re<|?_
 rcases bip hm with ⟨R2,hm⟩ | ⟨R2,hm⟩
 refine tn<|ctv o rfl R2<|th<|rg<|qm o rfl λo=>qa o rfl λo=>re<|tn<|wr<|tr<|?_
 obtain rfl:=si hm
 exact r1 o results92 rfl ⟨rfl,u.keep⟩
 refine tn<|cfv o rfl R2<|wk<|tn<|th<|?_
 obtain ⟨n3,M3,hm⟩:=bs hm
 refine rg<|qv o (Ae o Im rfl) λo=>qv o (Af o isAgg96 rfl (u.ld.cellB t1 rfl)) λo=>qv o (Ae o Cp rfl) λo=>qv o (Af o isAgg92 rfl (u.ld.cellB t0 rfl)) λo=>ls<|cr o call93 (Jaa (Ah _) A3 (St.srH u B3) T1 (St.srH u U1) M3) u λu o=>qa o rfl λo=>re<|tn<|wr<|?_
 obtain rfl:=si hm
 exact r1 o results92 rfl ⟨rfl,u.keep⟩
set_option maxHeartbeats 4000000 in
theorem Jdv (hH:H.le w0) {cs2:List Value} {p1:api_Prog} (g3:Enc.rep H cs2 p1) {r:(Int×Int)} (hm:Z3t N p1=some r):Tot Tryz.prog 53 #[.agg cs2.toArray] w0 (λv w'=>v=.tuple #[i6 r.1,i6 r.2]∧Keep Nil w0 w'):=by
 unfold Z3t at hm
 refine fn0 func53 rfl ntmps53 rfl rfl λa o=>?_
 have u:St w0 Nil [H] [] w0:=start1 hH
 obtain ⟨T0,J0,U0,K0,M0,E0,O0,F0,P0,G0,Q0,I0,rfl,T1,U1,j0,n0,u0,B1,C1,D1,E1,F1,I1,Y0⟩:=Bc g3
 refine th<|rg<|ls<|Br (cs:=[SL T0 p1.Lines J0,SL U0 p1.Vols K0,SL M0 p1.Locks E0,SL O0 p1.Threads F0,SL P0 p1.Recover G0,SL Q0 p1.Claims I0].toArray) o rfl u rfl rfl λS0 w a u o=>?_
 iterate 2 refine qa o rfl λo=>?_
 refine re<|tn<|th<|th<|?_
 obtain ⟨z6,X5,hm⟩:=bs hm
 refine rg<|qv o (Ar o Tryz.isAgg48 Tryz.sizeOf48 rfl rfl (u.ld.cellsB t0)) λo=>ls<|cr o call85 (JcX (Ah _) (Enc.mono (St.up u) (show Enc.rep (α:=api_Prog) H [SL T0 p1.Lines J0,SL U0 p1.Vols K0,SL M0 p1.Locks E0,SL O0 p1.Threads F0,SL P0 p1.Recover G0,SL Q0 p1.Claims I0] p1 from ⟨_,_,rfl,⟨_,_,rfl,T1,U1⟩,⟨_,_,rfl,⟨_,_,rfl,j0,n0⟩,⟨_,_,rfl,⟨_,_,rfl,u0,B1⟩,⟨_,_,rfl,⟨_,_,rfl,C1,D1⟩,⟨_,_,rfl,⟨_,_,rfl,E1,F1⟩,⟨_,_,rfl,I1,Y0⟩⟩⟩⟩⟩⟩)) X5) u λu o=>qv o (A9 o rfl) λo=>re<|?_
 rcases bit hm with ⟨D3,hm⟩ | ⟨D3,hm⟩
 refine tn<|cfv o rfl (by rw [D3];rfl)<|wk<|tn<|th<|th<|?_
 obtain ⟨A7,Y5,hm⟩:=bs hm
 refine rg<|qv o (Ar o Tryz.isAgg48 Tryz.sizeOf48 rfl rfl (u.ld.cellsB t0)) λo=>ls<|cr o call86 (JcB (Ah _) (Enc.mono (St.up u) (show Enc.rep (α:=api_Prog) H [SL T0 p1.Lines J0,SL U0 p1.Vols K0,SL M0 p1.Locks E0,SL O0 p1.Threads F0,SL P0 p1.Recover G0,SL Q0 p1.Claims I0] p1 from ⟨_,_,rfl,⟨_,_,rfl,T1,U1⟩,⟨_,_,rfl,⟨_,_,rfl,j0,n0⟩,⟨_,_,rfl,⟨_,_,rfl,u0,B1⟩,⟨_,_,rfl,⟨_,_,rfl,C1,D1⟩,⟨_,_,rfl,⟨_,_,rfl,E1,F1⟩,⟨_,_,rfl,I1,Y0⟩⟩⟩⟩⟩⟩)) Y5) u λu o=>re<|?_
 rcases bit hm with ⟨E3,hm⟩ | ⟨E3,hm⟩
 refine tn<|ctv o rfl E3<|th<|rg<|qa o rfl λo=>qa o rfl λo=>re<|tn<|wr<|tr<|?_
 obtain rfl:=si hm
 exact r2 o results53 rfl rfl ⟨rfl,u.keep⟩
 refine tn<|cfv o rfl E3<|wk<|tn<|th<|?_
 obtain ⟨R0,d5,hm⟩:=bs hm
 refine rg<|qv o (Ar o Tryz.isAgg48 Tryz.sizeOf48 rfl rfl (u.ld.cellsB t0)) λo=>ls<|c1 o rfl call87 (Jbi (St.le u) (show Enc.rep (α:=api_Prog) H [SL T0 p1.Lines J0,SL U0 p1.Vols K0,SL M0 p1.Locks E0,SL O0 p1.Threads F0,SL P0 p1.Recover G0,SL Q0 p1.Claims I0] p1 from ⟨_,_,rfl,⟨_,_,rfl,T1,U1⟩,⟨_,_,rfl,⟨_,_,rfl,j0,n0⟩,⟨_,_,rfl,⟨_,_,rfl,u0,B1⟩,⟨_,_,rfl,⟨_,_,rfl,C1,D1⟩,⟨_,_,rfl,⟨_,_,rfl,E1,F1⟩,⟨_,_,rfl,I1,Y0⟩⟩⟩⟩⟩⟩) d5) ⟨rfl,trivial⟩ (λv w a hR o=>?_)
 obtain ⟨H40,J1,X0,rfl,R6,W0,A0,C5,hk⟩:=hR
 obtain ⟨u,A0⟩:=And.intro (St.passH u hk A0 C5) (St.extc u A0)
 refine qa o rfl λo=>re<|tn<|th<|th<|rg<|qa o rfl λo=>re<|tn<|Av (λa w=>(Z3u N p1 R0)=some r∧Fr 150 [(1,PT S0),(4,SL J1 R0 X0)] a∧St w0 Nil [H40] [bk S0 [SL T0 p1.Lines J0,SL U0 p1.Vols K0,SL M0 p1.Locks E0,SL O0 p1.Threads F0,SL P0 p1.Recover G0,SL Q0 p1.Claims I0] 48] w) ?_ ?_
 refine wb<|lp (α:=Nat×Int) (λgh a w=>match gh with | (C3,R3)=>(Z43 N (Z3u N p1 R0) R0) C3 R3=some r∧Fr 150 [(1,PT S0),(4,SL J1 R0 X0),(5,i6 R3)] a∧St w0 Nil [H40] [bk S0 [SL T0 p1.Lines J0,SL U0 p1.Vols K0,SL M0 p1.Locks E0,SL O0 p1.Threads F0,SL P0 p1.Recover G0,SL Q0 p1.Claims I0] 48] w) (λgh=>gh.1) (N,0) ⟨hm,o.hs,u⟩ ?_
 rintro ⟨C3,R3⟩ a w ⟨hm,o,u⟩
 obtain _ | C3:=C3
 simp [Z43] at hm
 rw [Z43] at hm
 refine th<|th<|rg<|qm o rfl λo=>qm o rfl λo=>qv o (Aj (α:=api_Thread) (xs:=R0) o runUnderlying45 rfl) λo=>qv o (Ak o rfl rfl) λo=>re<|?_
 rcases bip hm with ⟨F3,hm⟩ | ⟨F3,hm⟩
 refine tn<|ctv o rfl F3<|wk<|tn<|th<|wb<|th<|?_
 obtain ⟨B7,W3,hm⟩:=bs hm
 obtain ⟨C7,j5,D5⟩:=SR.get W0 W3
 obtain ⟨S6,G6,T6,I6,rfl,U6,V6,E5,F5⟩:=Bg j5
 obtain ⟨D7,l5,hm⟩:=bs hm
 refine rg<|qm o rfl λo=>qm o rfl λo=>qv o (Al o runUnderlying45 sizeOf108 rfl rfl W3 (SR.oaI W0 (by decide) W3)) λo=>qv o (Ae o Hv rfl) λo=>qv o (Af o isAgg106 rfl (PH.le.cell (Lds.le u.ld) (D5 2 _ rfl))) λo=>ls<|cr o call88 (Jdw _ (Ah _) E5 (St.srH u F5) l5) u λu o=>qa o rfl λo=>re<|tn<|th<|rg<|qm o rfl λo=>qv o (Bo o rfl rfl) λo=>re<|?_
 rcases bip hm with ⟨G3,hm⟩ | ⟨G3,hm⟩
 refine tn<|ctv o rfl G3<|th<|rg<|qm o rfl λo=>?_
 iterate 2 refine qa o rfl λo=>?_
 refine re<|tn<|wr<|br<|tr<|tr<|br<|tr<|?_
 obtain rfl:=si hm
 exact r2 o results53 rfl rfl ⟨rfl,u.keep⟩
 refine tn<|cfv o rfl G3<|wk<|bn<|tn<|rg<|qm o rfl λo=>qv o (An o rfl rfl) λo=>qa o rfl λo=>re<|tn<|?_
 exact ⟨(C3,(IntKind.i64.wrap (R3+1))),⟨hm,o.hs,u⟩,Nat.lt_succ_self _⟩
 refine tn<|cfv o rfl F3<|we<|tx<|tx<|bx<|tn<|?_
 exact ⟨hm,o.has ⟨rfl,rfl,trivial⟩,u⟩
 rintro a w ⟨hm,o,u⟩
 unfold Z3u at hm
 refine th<|?_
 obtain ⟨E7,n5,hm⟩:=bs hm
 refine rg<|qv o (Ar o Tryz.isAgg48 Tryz.sizeOf48 rfl rfl (u.ld.cellsB t0)) λo=>ls<|cr o call89 (Jcy (Ah _) (Enc.mono (St.up u) (show Enc.rep (α:=api_Prog) H40 [SL T0 p1.Lines J0,SL U0 p1.Vols K0,SL M0 p1.Locks E0,SL O0 p1.Threads F0,SL P0 p1.Recover G0,SL Q0 p1.Claims I0] p1 from ⟨_,_,rfl,⟨_,_,rfl,T1,(U1.mono A0.sub)⟩,⟨_,_,rfl,⟨_,_,rfl,j0,(n0.mono A0.sub)⟩,⟨_,_,rfl,⟨_,_,rfl,u0,(B1.mono A0.sub)⟩,⟨_,_,rfl,⟨_,_,rfl,C1,(D1.mono A0.sub)⟩,⟨_,_,rfl,⟨_,_,rfl,E1,(F1.mono A0.sub)⟩,⟨_,_,rfl,I1,(Y0.mono A0.sub)⟩⟩⟩⟩⟩⟩)) n5) u λu o=>qa o rfl λo=>re<|tn<|th<|th<|rg<|qm o rfl λo=>qv o (Bo o rfl rfl) λo=>re<|?_
 rcases bip hm with ⟨I3,hm⟩ | ⟨I3,hm⟩
 refine tn<|ctv o rfl I3<|th<|rg<|qm o rfl λo=>?_
 iterate 2 refine qa o rfl λo=>?_
 refine re<|tn<|wr<|tr<|?_
 obtain rfl:=si hm
 exact r2 o results53 rfl rfl ⟨rfl,u.keep⟩
 refine tn<|cfv o rfl I3<|wk<|tn<|th<|th<|rg<|qa o rfl λo=>re<|tn<|Av (λa w=>∃ (R1:PH),(Z3x N p1 R0)=some r∧Ext w0 H40 R1∧Fr 150 [(1,PT S0),(4,SL J1 R0 X0)] a∧St w0 Nil [R1] [bk S0 [SL T0 p1.Lines J0,SL U0 p1.Vols K0,SL M0 p1.Locks E0,SL O0 p1.Threads F0,SL P0 p1.Recover G0,SL Q0 p1.Claims I0] 48] w) ?_ ?_
 refine wb<|lp (α:=Nat×Int) (λgh a w=>match gh with | (C2,S1)=>∃ (E2:PH),(Z44 N (Z3x N p1 R0) p1 R0) C2 S1=some r∧Ext w0 H40 E2∧Fr 150 [(1,PT S0),(4,SL J1 R0 X0),(8,i6 S1)] a∧St w0 Nil [E2] [bk S0 [SL T0 p1.Lines J0,SL U0 p1.Vols K0,SL M0 p1.Locks E0,SL O0 p1.Threads F0,SL P0 p1.Recover G0,SL Q0 p1.Claims I0] 48] w) (λgh=>gh.1) (N,0) ⟨H40,hm,(Ext.refl _ _),o.hs,u⟩ ?_
 rintro ⟨C2,S1⟩ a w ⟨E2,hm,C0,o,u⟩
 obtain _ | C2:=C2
 simp [Z44] at hm
 rw [Z44] at hm
 refine th<|th<|rg<|qm o rfl λo=>qm o rfl λo=>qv o (Aj (α:=api_Thread) (xs:=R0) o runUnderlying45 rfl) λo=>qv o (Ak o rfl rfl) λo=>re<|?_
 rcases bip hm with ⟨J3,hm⟩ | ⟨J3,hm⟩
 refine tn<|ctv o rfl J3<|wk<|tn<|th<|Av (λa w=>∃ (S3:PH),(Z3y (Z44 N (Z3x N p1 R0) p1 R0 C2) S1)=some r∧Ext w0 E2 S3∧Fr 150 [(1,PT S0),(4,SL J1 R0 X0),(8,i6 S1)] a∧St w0 Nil [S3] [bk S0 [SL T0 p1.Lines J0,SL U0 p1.Vols K0,SL M0 p1.Locks E0,SL O0 p1.Threads F0,SL P0 p1.Recover G0,SL Q0 p1.Claims I0] 48] w) ?_ ?_
 refine wb<|th<|rg<|qa o rfl λo=>re<|tn<|wb<|lp (α:=Nat×Int) (λgh a w=>match gh with | (K2,O2)=>∃ (HD1:PH),(Z45 N (Z3y (Z44 N (Z3x N p1 R0) p1 R0 C2) S1) p1 R0 S1) K2 O2=some r∧Ext w0 E2 HD1∧Fr 150 [(1,PT S0),(4,SL J1 R0 X0),(8,i6 S1),(9,i6 O2)] a∧St w0 Nil [HD1] [bk S0 [SL T0 p1.Lines J0,SL U0 p1.Vols K0,SL M0 p1.Locks E0,SL O0 p1.Threads F0,SL P0 p1.Recover G0,SL Q0 p1.Claims I0] 48] w) (λgh=>gh.1) (N,0) ⟨E2,hm,(Ext.refl _ _),o.hs,u⟩ ?_
 rintro ⟨K2,O2⟩ a w ⟨HD1,hm,hxHD1,o,u⟩
 obtain _ | K2:=K2
 simp [Z45] at hm
 rw [Z45] at hm
 refine th<|th<|?_
 obtain ⟨u4,P1,hm⟩:=bs hm
 obtain ⟨F7,u5,u1⟩:=SR.get W0 P1
 obtain ⟨W6,J6,X6,K6,rfl,K3,F2,Y6,d6⟩:=Bg u5
 refine rg<|qm o rfl λo=>?_
 iterate 2 refine qm o rfl λo=>?_
 refine qv o (Al o runUnderlying45 sizeOf108 rfl rfl P1 (SR.oaI W0 (by decide) P1)) λo=>qv o (Ae o Cp rfl) λo=>qv o (Af o isAgg92 rfl (PH.le.cell (λb o hx=>(Lds.le u.ld) b o ((cp hxHD1.sub C0.sub) b o hx)) (u1 1 _ rfl))) λo=>qv o (Aj (α:=Str) (xs:=u4.Regs) o runUnderlying92 rfl) λo=>qv o (Ak o rfl rfl) λo=>re<|?_
 rcases bip hm with ⟨L3,hm⟩ | ⟨L3,hm⟩
 refine tn<|ctv o rfl L3<|wk<|tn<|th<|wb<|th<|?_
 obtain ⟨A6,X3,hm⟩:=bs hm
 obtain ⟨B6,C6,G5⟩:=SR.get F2 X3
 obtain rfl:B6=[Ag A6]:=C6
 refine rg<|qm o rfl λo=>qm o rfl λo=>qv o (Al o runUnderlying45 sizeOf108 rfl rfl P1 (SR.oaI W0 (by decide) P1)) λo=>qv o (Ae o Cp rfl) λo=>qv o (Af o isAgg92 rfl (PH.le.cell (λb o hx=>(Lds.le u.ld) b o ((cp hxHD1.sub C0.sub) b o hx)) (u1 1 _ rfl))) λo=>qm o rfl λo=>qv o (Al o runUnderlying92 sizeOf9 rfl rfl X3 (SR.oaI F2 (by decide) X3)) λo=>qv o (Af o isAgg9 rfl (PH.le.cell (λb o hx=>(Lds.le u.ld) b o ((cp hxHD1.sub C0.sub) b o hx)) (G5 0 _ rfl))) λo=>qa o rfl λo=>re<|tn<|th<|Av (λa w=>∃ (Y3:Bool) (HE1:PH),(Z3z (Z45 N (Z3y (Z44 N (Z3x N p1 R0) p1 R0 C2) S1) p1 R0 S1 K2) u4 O2) Y3=some r∧Ext w0 HD1 HE1∧Fr 150 [(1,PT S0),(4,SL J1 R0 X0),(8,i6 S1),(9,i6 O2),(88,.bool Y3)] a∧St w0 Nil [HE1] [bk S0 [SL T0 p1.Lines J0,SL U0 p1.Vols K0,SL M0 p1.Locks E0,SL O0 p1.Threads F0,SL P0 p1.Recover G0,SL Q0 p1.Claims I0] 48] w) ?_ ?_
 obtain ⟨G7,l3,hm⟩:=bs hm
 rcases bip hm with ⟨P2,hm⟩ | ⟨P2,hm⟩
 refine rg<|qm o rfl λo=>qm o rfl λo=>qv o (Al o runUnderlying45 sizeOf108 rfl rfl P1 (SR.oaI W0 (by decide) P1)) λo=>qv o (Ae o Cp rfl) λo=>qv o (Af o isAgg92 rfl (PH.le.cell (λb o hx=>(Lds.le u.ld) b o ((cp hxHD1.sub C0.sub) b o hx)) (u1 1 _ rfl))) λo=>qm o rfl λo=>ls<|cr o call90 (Fh (Ah _) K3 (St.srH u (F2.mono (cp hxHD1.sub C0.sub))) l3) u λu o=>qm o rfl λo=>qv o (Ak o rfl rfl) λo=>qv o (Ax (Ab o rfl) (congrArg Value.bool P2)) λo=>?_
 iterate 5 refine qn o λo=>?_
 refine qv o (Ac o rfl rfl) λo=>qm o rfl λo=>?_
 iterate 5 refine qn o λo=>?_
 refine qv o (Ac o rfl rfl) λo=>re<|tn<|?_
 exact ⟨true,HD1,hm,(Ext.refl _ _),o.hs,u⟩
 obtain ⟨I7,A5,hm⟩:=bs hm
 obtain ⟨J7,B5,hm⟩:=bs hm
 rcases bip hm with ⟨Q2,hm⟩ | ⟨Q2,hm⟩
 refine rg<|qm o rfl λo=>qm o rfl λo=>qv o (Al o runUnderlying45 sizeOf108 rfl rfl P1 (SR.oaI W0 (by decide) P1)) λo=>qv o (Ae o Cp rfl) λo=>qv o (Af o isAgg92 rfl (PH.le.cell (λb o hx=>(Lds.le u.ld) b o ((cp hxHD1.sub C0.sub) b o hx)) (u1 1 _ rfl))) λo=>qm o rfl λo=>ls<|cr o call90 (Fh (Ah _) K3 (St.srH u (F2.mono (cp hxHD1.sub C0.sub))) l3) u λu o=>qm o rfl λo=>qv o (Ak o rfl rfl) λo=>qv o (Ax (Ab o rfl) (congrArg Value.bool P2)) λo=>qg o (Ar o isAgg48 sizeOf48 rfl rfl (u.ld.cellsB t0)) λo=>ls<|gy o rfl rfl<|c1 o rfl call59 (Oa (Ah _) (Enc.mono (St.up u) (show Enc.rep (α:=api_Prog) HD1 [SL T0 p1.Lines J0,SL U0 p1.Vols K0,SL M0 p1.Locks E0,SL O0 p1.Threads F0,SL P0 p1.Recover G0,SL Q0 p1.Claims I0] p1 from ⟨_,_,rfl,⟨_,_,rfl,T1,(U1.mono (cp (cp hxHD1.sub C0.sub) A0.sub))⟩,⟨_,_,rfl,⟨_,_,rfl,j0,(n0.mono (cp (cp hxHD1.sub C0.sub) A0.sub))⟩,⟨_,_,rfl,⟨_,_,rfl,u0,(B1.mono (cp (cp hxHD1.sub C0.sub) A0.sub))⟩,⟨_,_,rfl,⟨_,_,rfl,C1,(D1.mono (cp (cp hxHD1.sub C0.sub) A0.sub))⟩,⟨_,_,rfl,⟨_,_,rfl,E1,(F1.mono (cp (cp hxHD1.sub C0.sub) A0.sub))⟩,⟨_,_,rfl,I1,(Y0.mono (cp (cp hxHD1.sub C0.sub) A0.sub))⟩⟩⟩⟩⟩⟩)) A5) ⟨rfl,trivial⟩ (λv w a hR o=>?_)
 obtain ⟨I5,F4,J5,rfl,V1,hk⟩:=hR
 replace u:=u.fresh hk
 replace V1:=V1 HD1
 obtain ⟨H97,Q1,M3,O3,u⟩:=St.frzS u .head V1
 refine qg o (Ab o rfl) λo=>ls<|gy o rfl rfl<|cr o call90 (Fh (Ah _) O3 (St.srH u M3) B5) u λu o=>qg o (Bo o rfl rfl) λo=>qv o (Ad o rfl rfl) λo=>qv o (Ax (Ab o rfl) (congrArg Value.bool Q2)) λo=>?_
 iterate 5 refine qn o λo=>?_
 refine qv o (Ac o rfl rfl) λo=>re<|tn<|?_
 exact ⟨true,H97,hm,Q1,o.hs,u⟩
 obtain ⟨j6,K5,hm⟩:=bs hm
 obtain ⟨L5,M5,hm⟩:=bs hm
 refine rg<|qm o rfl λo=>qm o rfl λo=>qv o (Al o runUnderlying45 sizeOf108 rfl rfl P1 (SR.oaI W0 (by decide) P1)) λo=>qv o (Ae o Cp rfl) λo=>qv o (Af o isAgg92 rfl (PH.le.cell (λb o hx=>(Lds.le u.ld) b o ((cp hxHD1.sub C0.sub) b o hx)) (u1 1 _ rfl))) λo=>qm o rfl λo=>ls<|cr o call90 (Fh (Ah _) K3 (St.srH u (F2.mono (cp hxHD1.sub C0.sub))) l3) u λu o=>qm o rfl λo=>qv o (Ak o rfl rfl) λo=>qv o (Ax (Ab o rfl) (congrArg Value.bool P2)) λo=>qg o (Ar o isAgg48 sizeOf48 rfl rfl (u.ld.cellsB t0)) λo=>ls<|gy o rfl rfl<|c1 o rfl call59 (Oa (Ah _) (Enc.mono (St.up u) (show Enc.rep (α:=api_Prog) HD1 [SL T0 p1.Lines J0,SL U0 p1.Vols K0,SL M0 p1.Locks E0,SL O0 p1.Threads F0,SL P0 p1.Recover G0,SL Q0 p1.Claims I0] p1 from ⟨_,_,rfl,⟨_,_,rfl,T1,(U1.mono (cp (cp hxHD1.sub C0.sub) A0.sub))⟩,⟨_,_,rfl,⟨_,_,rfl,j0,(n0.mono (cp (cp hxHD1.sub C0.sub) A0.sub))⟩,⟨_,_,rfl,⟨_,_,rfl,u0,(B1.mono (cp (cp hxHD1.sub C0.sub) A0.sub))⟩,⟨_,_,rfl,⟨_,_,rfl,C1,(D1.mono (cp (cp hxHD1.sub C0.sub) A0.sub))⟩,⟨_,_,rfl,⟨_,_,rfl,E1,(F1.mono (cp (cp hxHD1.sub C0.sub) A0.sub))⟩,⟨_,_,rfl,I1,(Y0.mono (cp (cp hxHD1.sub C0.sub) A0.sub))⟩⟩⟩⟩⟩⟩)) A5) ⟨rfl,trivial⟩ (λv w a hR o=>?_)
 obtain ⟨I5,F4,J5,rfl,V1,hk⟩:=hR
 replace u:=u.fresh hk
 replace V1:=V1 HD1
 obtain ⟨H97,Q1,M3,O3,u⟩:=St.frzS u .head V1
 refine qg o (Ab o rfl) λo=>ls<|gy o rfl rfl<|cr o call90 (Fh (Ah _) O3 (St.srH u M3) B5) u λu o=>qg o (Bo o rfl rfl) λo=>qv o (Ad o rfl rfl) λo=>qv o (Ax (Ab o rfl) (congrArg Value.bool Q2)) λo=>qg o (Ar o isAgg48 sizeOf48 rfl rfl (u.ld.cellsB t0)) λo=>ls<|gy o rfl rfl<|c1 o rfl call91 (Wp (Ah _) (Enc.mono (St.up u) (show Enc.rep (α:=api_Prog) H97 [SL T0 p1.Lines J0,SL U0 p1.Vols K0,SL M0 p1.Locks E0,SL O0 p1.Threads F0,SL P0 p1.Recover G0,SL Q0 p1.Claims I0] p1 from ⟨_,_,rfl,⟨_,_,rfl,T1,(U1.mono (cp (cp (cp Q1.sub hxHD1.sub) C0.sub) A0.sub))⟩,⟨_,_,rfl,⟨_,_,rfl,j0,(n0.mono (cp (cp (cp Q1.sub hxHD1.sub) C0.sub) A0.sub))⟩,⟨_,_,rfl,⟨_,_,rfl,u0,(B1.mono (cp (cp (cp Q1.sub hxHD1.sub) C0.sub) A0.sub))⟩,⟨_,_,rfl,⟨_,_,rfl,C1,(D1.mono (cp (cp (cp Q1.sub hxHD1.sub) C0.sub) A0.sub))⟩,⟨_,_,rfl,⟨_,_,rfl,E1,(F1.mono (cp (cp (cp Q1.sub hxHD1.sub) C0.sub) A0.sub))⟩,⟨_,_,rfl,I1,(Y0.mono (cp (cp (cp Q1.sub hxHD1.sub) C0.sub) A0.sub))⟩⟩⟩⟩⟩⟩)) K5) ⟨rfl,trivial⟩ (λv w a hR o=>?_)
 obtain ⟨L6,D6,M6,rfl,R2,hk⟩:=hR
 replace u:=u.fresh hk
 replace R2:=R2 H97
 refine qg o (Ab o rfl) λo=>ls<|gy o rfl rfl<|cr o call90 (Fh (Ah _) (St.capO u t0) (St.srO u t0 R2) M5) u λu o=>qg o (Bo o rfl rfl) λo=>qv o (Ad o rfl rfl) λo=>re<|tn<|?_
 replace u:=u.pk [1] rfl
 exact ⟨(decide (0≤L5)),H97,hm,Q1,o.hs,u⟩
 rintro a w ⟨Y3,HE1,hm,hxHE1,o,u⟩
 unfold Z3z at hm
 rcases bit hm with ⟨T2,hm⟩ | ⟨T2,hm⟩
 refine ctv o rfl T2<|th<|rxS 7 u wide (by kernel_rfl) λw u=>?_
 iterate 2 refine xq u.ld o (λw hl=>Ab o rfl) λo=>?_
 refine xr u o (Al o runUnderlying45 sizeOf108 rfl rfl P1 (SR.oaI W0 (by decide) P1)) λo=>xr u o (Ae o Kg rfl) λo=>xq u.ld o (λw hl=>Af o isAgg3 rfl (PH.le.cell (λb o hx=>(Lds.le hl) b o ((cp (cp hxHE1.sub hxHD1.sub) C0.sub) b o hx)) (u1 3 _ rfl))) λo=>?_
 iterate 2 refine xq u.ld o (λw hl=>Bp o rfl) λo=>?_
 refine xe<|tn<|wr<|br<|tr<|tr<|br<|br<|tr<|tr<|br<|tr<|?_
 obtain rfl:=si hm
 exact r2 o results53 rfl rfl ⟨rfl,u.keep⟩
 refine cfv o rfl T2<|wk<|bn<|tn<|rg<|qm o rfl λo=>qv o (An o rfl rfl) λo=>qa o rfl λo=>re<|tn<|?_
 exact ⟨(K2,(IntKind.i64.wrap (O2+1))),⟨HE1,hm,(Ext.trans hxHD1 hxHE1),o.hs,u⟩,Nat.lt_succ_self _⟩
 refine tn<|cfv o rfl L3<|we<|tx<|tx<|bx<|bn<|tn<|?_
 exact ⟨HD1,hm,hxHD1,o.hs,u⟩
 rintro a w ⟨S3,hm,hxHC1,o,u⟩
 unfold Z3y at hm
 refine rg<|qm o rfl λo=>qv o (An o rfl rfl) λo=>qa o rfl λo=>re<|tn<|?_
 exact ⟨(C2,(IntKind.i64.wrap (S1+1))),⟨S3,hm,(Ext.trans C0 hxHC1),o.hs,u⟩,Nat.lt_succ_self _⟩
 refine tn<|cfv o rfl J3<|we<|tx<|tx<|bx<|tn<|?_
 exact ⟨E2,hm,C0,o.has ⟨rfl,rfl,trivial⟩,u⟩
 rintro a w ⟨R1,hm,D0,o,u⟩
 unfold Z3x at hm
 refine th<|th<|rg<|qa o rfl λo=>re<|tn<|Av (λa w=>(Z40 N p1)=some r∧Fr 150 [(1,PT S0)] a∧St w0 Nil [R1] [bk S0 [SL T0 p1.Lines J0,SL U0 p1.Vols K0,SL M0 p1.Locks E0,SL O0 p1.Threads F0,SL P0 p1.Recover G0,SL Q0 p1.Claims I0] 48] w) ?_ ?_
 refine wb<|lp (α:=Nat×Int) (λgh a w=>match gh with | (G2,Y1)=>(Z46 N (Z40 N p1) p1 R0) G2 Y1=some r∧Fr 150 [(1,PT S0),(4,SL J1 R0 X0),(11,i6 Y1)] a∧St w0 Nil [R1] [bk S0 [SL T0 p1.Lines J0,SL U0 p1.Vols K0,SL M0 p1.Locks E0,SL O0 p1.Threads F0,SL P0 p1.Recover G0,SL Q0 p1.Claims I0] 48] w) (λgh=>gh.1) (N,0) ⟨hm,o.hs,u⟩ ?_
 rintro ⟨G2,Y1⟩ a w ⟨hm,o,u⟩
 obtain _ | G2:=G2
 simp [Z46] at hm
 rw [Z46] at hm
 refine th<|th<|rg<|qm o rfl λo=>qm o rfl λo=>qv o (Aj (α:=api_Thread) (xs:=R0) o runUnderlying45 rfl) λo=>qv o (Ak o rfl rfl) λo=>re<|?_
 rcases bip hm with ⟨U2,hm⟩ | ⟨U2,hm⟩
 refine tn<|ctv o rfl U2<|wk<|tn<|th<|Av (λa w=>(Z3v (Z46 N (Z40 N p1) p1 R0 G2) Y1)=some r∧Fr 150 [(1,PT S0),(4,SL J1 R0 X0),(11,i6 Y1)] a∧St w0 Nil [R1] [bk S0 [SL T0 p1.Lines J0,SL U0 p1.Vols K0,SL M0 p1.Locks E0,SL O0 p1.Threads F0,SL P0 p1.Recover G0,SL Q0 p1.Claims I0] 48] w) ?_ ?_
 refine wb<|th<|rg<|qa o rfl λo=>re<|tn<|wb<|lp (α:=Nat×Int) (λgh a w=>match gh with | (I2,T3)=>(Z41 N (Z3v (Z46 N (Z40 N p1) p1 R0 G2) Y1) p1 R0 Y1) I2 T3=some r∧Fr 150 [(1,PT S0),(4,SL J1 R0 X0),(11,i6 Y1),(12,i6 T3)] a∧St w0 Nil [R1] [bk S0 [SL T0 p1.Lines J0,SL U0 p1.Vols K0,SL M0 p1.Locks E0,SL O0 p1.Threads F0,SL P0 p1.Recover G0,SL Q0 p1.Claims I0] 48] w) (λgh=>gh.1) (N,0) ⟨hm,o.hs,u⟩ ?_
 rintro ⟨I2,T3⟩ a w ⟨hm,o,u⟩
 obtain _ | I2:=I2
 simp [Z41] at hm
 rw [Z41] at hm
 refine th<|th<|?_
 obtain ⟨B2,X1,hm⟩:=bs hm
 obtain ⟨k6,O5,V2⟩:=SR.get W0 X1
 obtain ⟨G4,n3,I4,u3,rfl,J4,K4,L4,W2⟩:=Bg O5
 refine rg<|qm o rfl λo=>?_
 iterate 2 refine qm o rfl λo=>?_
 refine qv o (Al o runUnderlying45 sizeOf108 rfl rfl X1 (SR.oaI W0 (by decide) X1)) λo=>qv o (Ae o Hv rfl) λo=>qv o (Af o isAgg106 rfl (PH.le.cell (λb o hx=>(Lds.le u.ld) b o (D0.sub b o hx)) (V2 2 _ rfl))) λo=>qv o (Aj (α:=api_Stmt) (xs:=B2.Body) o runUnderlying106 rfl) λo=>qv o (Ak o rfl rfl) λo=>re<|?_
 rcases bip hm with ⟨X2,hm⟩ | ⟨X2,hm⟩
 refine tn<|ctv o rfl X2<|wk<|tn<|th<|wb<|th<|?_
 obtain ⟨O1,P3,hm⟩:=bs hm
 obtain ⟨l6,P5,M4⟩:=SR.get W2 P3
 obtain ⟨O4,A4,P4,B4,rfl,Q4,R4,S4,T4⟩:=Bs P5
 obtain ⟨n6,Q5,hm⟩:=bs hm
 refine rdS 15 u wide λw u=>dq 0 u.ld o rfl (λw hl=>Ar o isAgg48 sizeOf48 rfl rfl (hl.cellsB t0)) λo=>dr 1 u o rfl (Ab o rfl) λo=>dr 2 u o rfl (Ab o rfl) λo=>dr 3 u o rfl (Al o runUnderlying45 sizeOf108 rfl rfl X1 (SR.oaI W0 (by decide) X1)) λo=>dq 4 u.ld o rfl (λw hl=>Ar o isAgg108 sizeOf108 rfl rfl (λj v hj=>PH.le.cell (λb o hx=>(Lds.le hl) b o (D0.sub b o hx)) (V2 j v hj))) λo=>dr 5 u o rfl (Ab o rfl) λo=>dr 6 u o rfl (Ab o rfl) λo=>dr 7 u o rfl (Al o runUnderlying45 sizeOf108 rfl rfl X1 (SR.oaI W0 (by decide) X1)) λo=>dr 8 u o rfl (Ae o Hv rfl) λo=>dq 9 u.ld o rfl (λw hl=>Af o isAgg106 rfl (PH.le.cell (λb o hx=>(Lds.le hl) b o (D0.sub b o hx)) (V2 2 _ rfl))) λo=>dr 10 u o rfl (Ab o rfl) λo=>dr 11 u o rfl (Al o runUnderlying106 sizeOf140 rfl rfl P3 (SR.oaI W2 (by decide) P3)) λo=>dq 12 u.ld o rfl (λw hl=>Ar o isAgg140 sizeOf140 rfl rfl (λj v hj=>PH.le.cell (λb o hx=>(Lds.le hl) b o (D0.sub b o hx)) (M4 j v hj))) λo=>da1 (i:=13) (by kernel_rfl) ?_
 refine di (i:=13) rfl<|cr o call92 (Jch (Ah _) (Enc.mono (St.up u) (show Enc.rep (α:=api_Prog) R1 [SL T0 p1.Lines J0,SL U0 p1.Vols K0,SL M0 p1.Locks E0,SL O0 p1.Threads F0,SL P0 p1.Recover G0,SL Q0 p1.Claims I0] p1 from ⟨_,_,rfl,⟨_,_,rfl,T1,(U1.mono (cp D0.sub A0.sub))⟩,⟨_,_,rfl,⟨_,_,rfl,j0,(n0.mono (cp D0.sub A0.sub))⟩,⟨_,_,rfl,⟨_,_,rfl,u0,(B1.mono (cp D0.sub A0.sub))⟩,⟨_,_,rfl,⟨_,_,rfl,C1,(D1.mono (cp D0.sub A0.sub))⟩,⟨_,_,rfl,⟨_,_,rfl,E1,(F1.mono (cp D0.sub A0.sub))⟩,⟨_,_,rfl,I1,(Y0.mono (cp D0.sub A0.sub))⟩⟩⟩⟩⟩⟩)) (Enc.mono (St.up u) (show Enc.rep (α:=api_Thread) R1 [Ag B2.Name,SL G4 B2.Regs n3,SL I4 B2.Body u3,i6 B2.At] B2 from ⟨_,_,rfl,rfl,⟨_,_,rfl,⟨_,_,rfl,J4,(K4.mono D0.sub)⟩,⟨_,_,rfl,⟨_,_,rfl,L4,(W2.mono D0.sub)⟩,rfl⟩⟩⟩)) (Enc.mono (St.up u) (show Enc.rep (α:=api_Stmt) R1 [i6 O1.Kind,Ag O1.Reg,Ag O1.Name,SL O4 O1.E A4,SL P4 O1.F B4,i6 O1.N,i6 O1.Body,i6 O1.Else,i6 O1.At] O1 from ⟨_,_,rfl,rfl,⟨_,_,rfl,rfl,⟨_,_,rfl,rfl,⟨_,_,rfl,⟨_,_,rfl,Q4,(R4.mono D0.sub)⟩,⟨_,_,rfl,⟨_,_,rfl,S4,(T4.mono D0.sub)⟩,⟨_,_,rfl,rfl,⟨_,_,rfl,rfl,⟨_,_,rfl,rfl,rfl⟩⟩⟩⟩⟩⟩⟩⟩)) Q5) u λu o=>⟨λ_=>u.ld,?_⟩
 refine dr 14 u o rfl (Bp o rfl) λo=>de (by kernel_rfl)<|tn<|th<|rg<|qm o rfl λo=>qv o (Bo o rfl rfl) λo=>re<|?_
 rcases bip hm with ⟨Y2,hm⟩ | ⟨Y2,hm⟩
 refine tn<|ctv o rfl Y2<|th<|rg<|qm o rfl λo=>?_
 iterate 2 refine qa o rfl λo=>?_
 refine re<|tn<|wr<|br<|tr<|tr<|br<|br<|tr<|tr<|br<|tr<|?_
 obtain rfl:=si hm
 exact r2 o results53 rfl rfl ⟨rfl,u.keep⟩
 refine tn<|cfv o rfl Y2<|wk<|bn<|tn<|rg<|qm o rfl λo=>qv o (An o rfl rfl) λo=>qa o rfl λo=>re<|tn<|?_
 exact ⟨(I2,(IntKind.i64.wrap (T3+1))),⟨hm,o.hs,u⟩,Nat.lt_succ_self _⟩
 refine tn<|cfv o rfl X2<|we<|tx<|tx<|bx<|bn<|tn<|?_
 exact ⟨hm,o.hs,u⟩
 rintro a w ⟨hm,o,u⟩
 unfold Z3v at hm
 refine rg<|qm o rfl λo=>qv o (An o rfl rfl) λo=>qa o rfl λo=>re<|tn<|?_
 exact ⟨(G2,(IntKind.i64.wrap (Y1+1))),⟨hm,o.hs,u⟩,Nat.lt_succ_self _⟩
 refine tn<|cfv o rfl U2<|we<|tx<|tx<|bx<|tn<|?_
 exact ⟨hm,o.has ⟨rfl,trivial⟩,u⟩
 rintro a w ⟨hm,o,u⟩
 unfold Z40 at hm
 refine th<|?_
 obtain ⟨R5,S5,hm⟩:=bs hm
 obtain ⟨T5,U5,hm⟩:=bs hm
 obtain ⟨C4,D4,hm⟩:=bs hm
 refine rdS 6 u wide λw u=>dq 0 u.ld o rfl (λw hl=>Ar o isAgg48 sizeOf48 rfl rfl (hl.cellsB t0)) λo=>dq 2 u.ld o rfl (λw hl=>Ar o isAgg48 sizeOf48 rfl rfl (hl.cellsB t0)) λo=>da1 (i:=1) (by kernel_rfl) ?_
 refine di (i:=1) rfl<|c1 o rfl call59 (Oa (Ah _) (Enc.mono (St.up u) (show Enc.rep (α:=api_Prog) R1 [SL T0 p1.Lines J0,SL U0 p1.Vols K0,SL M0 p1.Locks E0,SL O0 p1.Threads F0,SL P0 p1.Recover G0,SL Q0 p1.Claims I0] p1 from ⟨_,_,rfl,⟨_,_,rfl,T1,(U1.mono (cp D0.sub A0.sub))⟩,⟨_,_,rfl,⟨_,_,rfl,j0,(n0.mono (cp D0.sub A0.sub))⟩,⟨_,_,rfl,⟨_,_,rfl,u0,(B1.mono (cp D0.sub A0.sub))⟩,⟨_,_,rfl,⟨_,_,rfl,C1,(D1.mono (cp D0.sub A0.sub))⟩,⟨_,_,rfl,⟨_,_,rfl,E1,(F1.mono (cp D0.sub A0.sub))⟩,⟨_,_,rfl,I1,(Y0.mono (cp D0.sub A0.sub))⟩⟩⟩⟩⟩⟩)) S5) ⟨rfl,trivial⟩ (λv w a hR o=>?_)
 obtain ⟨O6,E6,P6,rfl,u2,hk⟩:=hR
 replace u:=u.fresh hk
 replace u2:=u2 R1
 obtain ⟨H151,V0,U4,U3,u⟩:=St.frzS u .head u2
 refine ⟨λ_=>(St.ldsX u V0.sub i1),?_⟩
 refine da1 (i:=3) (by kernel_rfl) ?_
 refine di (i:=3) rfl<|cr o call54 (Uf (Ah _) (Enc.mono (St.up u) (show Enc.rep (α:=api_Prog) H151 [SL T0 p1.Lines J0,SL U0 p1.Vols K0,SL M0 p1.Locks E0,SL O0 p1.Threads F0,SL P0 p1.Recover G0,SL Q0 p1.Claims I0] p1 from ⟨_,_,rfl,⟨_,_,rfl,T1,(U1.mono (cp (cp V0.sub D0.sub) A0.sub))⟩,⟨_,_,rfl,⟨_,_,rfl,j0,(n0.mono (cp (cp V0.sub D0.sub) A0.sub))⟩,⟨_,_,rfl,⟨_,_,rfl,u0,(B1.mono (cp (cp V0.sub D0.sub) A0.sub))⟩,⟨_,_,rfl,⟨_,_,rfl,C1,(D1.mono (cp (cp V0.sub D0.sub) A0.sub))⟩,⟨_,_,rfl,⟨_,_,rfl,E1,(F1.mono (cp (cp V0.sub D0.sub) A0.sub))⟩,⟨_,_,rfl,I1,(Y0.mono (cp (cp V0.sub D0.sub) A0.sub))⟩⟩⟩⟩⟩⟩)) U5) u λu o=>⟨λ_=>(St.ldsX u V0.sub i1),?_⟩
 obtain ⟨V4,E4,e158,e159,W4,X4⟩:=SR.sub (sz:=1) U4 U3 rfl D4
 refine ds 4 (St.ldsX u V0.sub i1) o rfl (Dn (xs:=R5) (vl:=0) (vh:=T5) o runUnderlying92 sizeOf9 rfl U3 rfl rfl D4 e158 e159) λo=>ds 5 (St.ldsX u V0.sub i1) o rfl (Bp o rfl) λo=>de (by kernel_rfl)<|tn<|th<|th<|rg<|qa o rfl λo=>re<|tn<|Av (λa w=>Z3w=some r∧Fr 150 [] a∧St w0 Nil [H151] [] w) ?_ ?_
 refine wb<|lp (α:=Nat×Int) (λgh a w=>match gh with | (J2,V3)=>(Z42 N Z3w p1 C4) J2 V3=some r∧Fr 150 [(1,PT S0),(13,SL V4 C4 E4),(14,i6 V3)] a∧St w0 Nil [H151] [bk S0 [SL T0 p1.Lines J0,SL U0 p1.Vols K0,SL M0 p1.Locks E0,SL O0 p1.Threads F0,SL P0 p1.Recover G0,SL Q0 p1.Claims I0] 48] w) (λgh=>gh.1) (N,0) ⟨hm,o.hs,u⟩ ?_
 rintro ⟨J2,V3⟩ a w ⟨hm,o,u⟩
 obtain _ | J2:=J2
 simp [Z42] at hm
 rw [Z42] at hm
 refine th<|th<|rg<|qm o rfl λo=>qv o (Ae o Ef rfl) λo=>qv o (Af o isAgg46 rfl (u.ld.cellB t0 rfl)) λo=>qv o (Aj (α:=api_Claim) (xs:=p1.Claims) o runUnderlying46 rfl) λo=>qv o (Ak o rfl rfl) λo=>re<|?_
 rcases bip hm with ⟨A3,hm⟩ | ⟨A3,hm⟩
 refine tn<|ctv o rfl A3<|wk<|tn<|th<|wb<|th<|?_
 obtain ⟨u6,Q3,hm⟩:=bs hm
 obtain ⟨v6,V5,Y4⟩:=SR.get Y0 Q3
 obtain ⟨Q6,F6,rfl,d4,l4⟩:=Eh V5
 obtain ⟨y6,W5,hm⟩:=bs hm
 refine rg<|qv o (Ae o Ef rfl) λo=>qv o (Af o isAgg46 rfl (u.ld.cellB t0 rfl)) λo=>qm o rfl λo=>qv o (Al o runUnderlying46 sizeOf99 rfl rfl Q3 (SR.oaI Y0 (by decide) Q3)) λo=>qv o (Ae o Ow rfl) λo=>qv o (Af o isAgg96 rfl (PH.le.cell (λb o hx=>(Lds.le u.ld) b o ((cp (cp V0.sub D0.sub) A0.sub) b o hx)) (Y4 0 _ rfl))) λo=>qm o rfl λo=>ls<|cr o call93 (Jaa (Ah _) d4 (St.srH u (l4.mono (cp (cp V0.sub D0.sub) A0.sub))) W4 (St.srH u X4) W5) u λu o=>qa o rfl λo=>re<|tn<|th<|rg<|qm o rfl λo=>qv o (Bo o rfl rfl) λo=>re<|?_
 rcases bip hm with ⟨B3,hm⟩ | ⟨B3,hm⟩
 refine tn<|ctv o rfl B3<|th<|rg<|qm o rfl λo=>?_
 iterate 2 refine qa o rfl λo=>?_
 refine re<|tn<|wr<|br<|tr<|tr<|br<|tr<|?_
 obtain rfl:=si hm
 exact r2 o results53 rfl rfl ⟨rfl,u.keep⟩
 refine tn<|cfv o rfl B3<|wk<|bn<|tn<|rg<|qm o rfl λo=>qv o (An o rfl rfl) λo=>qa o rfl λo=>re<|tn<|?_
 exact ⟨(J2,(IntKind.i64.wrap (V3+1))),⟨hm,o.hs,u⟩,Nat.lt_succ_self _⟩
 refine tn<|cfv o rfl A3<|we<|tx<|tx<|bx<|tn<|?_
 replace u:=u.pickL .nil
 exact ⟨hm,o.has trivial,u⟩
 rintro a w ⟨hm,o,u⟩
 unfold Z3w at hm
 refine th<|rg<|qa o rfl λo=>qa o rfl λo=>re<|tn<|wr<|?_
 obtain rfl:=si hm
 exact r2 o results53 rfl rfl ⟨rfl,u.keep⟩
 refine tn<|ctv o rfl (by rw [D3];rfl)<|th<|rg<|qa o rfl λo=>qa o rfl λo=>re<|tn<|wr<|tr<|?_
 obtain rfl:=si hm
 exact r2 o results53 rfl rfl ⟨rfl,u.keep⟩
theorem Xm (hH:H.le w0) {cs2:List Value} {p1:api_Prog} (g3:Enc.rep H cs2 p1) {r:(List Int)} (hm:Z47 N p1=some r):Tot Tryz.prog 55 #[.agg cs2.toArray] w0 (λv w'=>∃ (J1:Option Addr) (X0:Nat) (O1:List Value),v=SL J1 r X0∧(∀ h,Rows h O1 r)∧Fresh w0 (sla 3 1 J1 r.length X0 O1) w'):=by
 unfold Z47 at hm
 refine fn0 func55 rfl ntmps55 rfl rfl λa o=>?_
 have u:St w0 Nil [H] [] w0:=start1 hH
 obtain ⟨P1,Y0,Q1,j0,n0,Q0,u0,R0,B1,S0,C1,T0,rfl,R2,T2,R1,S1,T1,U1,V1,X1,Y1,u1,B2,C2⟩:=Bc g3
 refine th<|rg<|ls<|Br (cs:=[SL P1 p1.Lines Y0,SL Q1 p1.Vols j0,SL n0 p1.Locks Q0,SL u0 p1.Threads R0,SL B1 p1.Recover S0,SL C1 p1.Claims T0].toArray) o rfl u rfl rfl λu2 w a u o=>qa o rfl λo=>re<|tn<|th<|?_
 obtain ⟨U0,U2,hm⟩:=bs hm
 refine rg<|ls<|Bj (e:=3) (sz:=1) [] o rfl u rfl rfl rfl (λw=>by kernel_rfl) λV2 w a u o=>?_
 have E2:Rows (α:=Int) H [] []:=.nil
 refine qv o (Ar o isAgg48 sizeOf48 rfl rfl (u.ld.cellsB t1)) λo=>ls<|c1 o rfl call94 (Qf (Ah _) (Enc.mono (St.up u) (show Enc.rep (α:=api_Prog) H [SL P1 p1.Lines Y0,SL Q1 p1.Vols j0,SL n0 p1.Locks Q0,SL u0 p1.Threads R0,SL B1 p1.Recover S0,SL C1 p1.Claims T0] p1 from ⟨_,_,rfl,⟨_,_,rfl,R2,T2⟩,⟨_,_,rfl,⟨_,_,rfl,R1,S1⟩,⟨_,_,rfl,⟨_,_,rfl,T1,U1⟩,⟨_,_,rfl,⟨_,_,rfl,V1,X1⟩,⟨_,_,rfl,⟨_,_,rfl,Y1,u1⟩,⟨_,_,rfl,B2,C2⟩⟩⟩⟩⟩⟩)) U2) ⟨rfl,trivial⟩ (λv w a hR o=>?_)
 obtain ⟨D1,V0,F2,rfl,D0,hk⟩:=hR
 replace u:=u.fresh hk
 replace D0:=D0 H
 iterate 2 refine qa o rfl λo=>?_
 refine re<|tn<|th<|th<|rg<|qa o rfl λo=>re<|tn<|Av (λa w=>∃ (I0:(List Int)) (M0:Option Addr) (E0:Nat) (O0:List Value),Z48 I0=some r∧Fr 24 [(3,SL M0 I0 E0)] a∧St w0 Nil [H] [sla 3 1 M0 I0.length E0 O0] w∧Rows H O0 I0) ?_ ?_
 replace u:=u.pk [1,0] rfl
 refine wb<|lp (α:=Nat×(List Int)×Int) (λgh a w=>match gh with | (J0,C0,W0)=>∃ (F0:Option Addr) (A0:Nat) (G0:List Value),(Z49 N Z48 U0) J0 C0 W0=some r∧Fr 24 [(3,SL F0 C0 A0),(4,SL D1 U0 V0),(5,i6 W0)] a∧St w0 Nil [H] [sla 3 1 F0 C0.length A0 G0,sla 130 3 D1 U0.length V0 F2] w∧Rows H G0 C0) (λgh=>gh.1) (N,[],0) ⟨(some ⟨V2,0,none⟩),0,[],hm,o.hs,u,E2⟩ ?_
 rintro ⟨J0,C0,W0⟩ a w ⟨F0,A0,G0,hm,o,u,E1⟩
 obtain _ | J0:=J0
 simp [Z49] at hm
 rw [Z49] at hm
 refine th<|th<|rg<|qm o rfl λo=>qm o rfl λo=>qv o (Aj (α:=api_Cell) (xs:=U0) o runUnderlying44 rfl) λo=>qv o (Ak o rfl rfl) λo=>re<|?_
 rcases bip hm with ⟨P0,hm⟩ | ⟨P0,hm⟩
 refine tn<|ctv o rfl P0<|wk<|tn<|th<|wb<|?_
 obtain ⟨K0,F1,hm⟩:=bs hm
 have G2:=Rd.oaI (u.rdO t1) D0 (by decide) F1
 obtain ⟨A3,W2,I2⟩:=Rows.getI D0 F1
 obtain rfl:=Dx W2
 obtain ⟨X2,Y2,hm⟩:=bs hm
 refine rg<|qm o rfl λo=>?_
 iterate 2 refine qm o rfl λo=>?_
 refine qv o (Al o runUnderlying44 sizeOf130 rfl rfl F1 G2) λo=>qv o (Ae o Kf rfl) λo=>qv o (Af o isAgg3 rfl (u.ld.elO2 t1 (I2 1 _ rfl))) λo=>ls<|Bj (e:=3) (sz:=1) [i6 K0.N] o rfl u rfl rfl rfl (λw=>by kernel_rfl) λB3 w a u o=>?_
 have J2:Rows (α:=Int) H [i6 K0.N] ([K0.N]:List Int):=(.cons (c:=[i6 K0.N]) rfl .nil)
 refine ls<|Bv (α:=Int) (xs:=C0) (ys:=([K0.N]:List Int)) o rfl u underlying22 Tw rfl (by decide) rfl rfl rfl t1 E1 (u.rdO t0) J2 Y2 λK2 I1 O2 w a P2 hU o=>?_
 replace u:=hU _ (.tail .head)
 replace u:=u.drop .head
 refine qa o rfl λo=>re<|bn<|tn<|rg<|qm o rfl λo=>qv o (An o rfl rfl) λo=>qa o rfl λo=>re<|tn<|?_
 exact ⟨(J0,X2,(IntKind.i64.wrap (W0+1))),⟨K2,I1,O2,hm,o.hs,u,P2⟩,Nat.lt_succ_self _⟩
 refine tn<|cfv o rfl P0<|we<|tx<|tx<|bx<|tn<|?_
 replace u:=u.pk [0] rfl
 exact ⟨C0,F0,A0,G0,hm,o.has ⟨rfl,trivial⟩,u,E1⟩
 rintro a w ⟨I0,M0,E0,O0,hm,o,u,Q2⟩
 unfold Z48 at hm
 refine th<|rg<|qm o rfl λo=>qa o rfl λo=>re<|tn<|wr<|?_
 obtain rfl:=si hm
 exact r1 o results55 rfl ⟨_,_,_,rfl,(λ_=>Rows.ind Q2),u.endFresh t0⟩
theorem Jbt (hH:H.le w0) {cs2:List Value} {p1:api_Prog} (g3:Enc.rep H cs2 p1) {p4:Int} {r:Int} (hm:Z4d N p1 p4=some r):Tot Tryz.prog 56 #[.agg cs2.toArray,i6 p4] w0 (λv w'=>v=i6 r∧Keep Nil w0 w'):=by
 unfold Z4d at hm
 refine fn0 func56 rfl ntmps56 rfl rfl λa o=>?_
 have u:St w0 Nil [H] [] w0:=start1 hH
 obtain ⟨P0,G0,Q0,A0,I0,C0,J0,D0,K0,E0,M0,F0,rfl,V1,Y0,F1,I1,J1,O1,P1,Q1,R1,S1,T1,U1⟩:=Bc g3
 refine th<|rg<|ls<|Br (cs:=[SL P0 p1.Lines G0,SL Q0 p1.Vols A0,SL I0 p1.Locks C0,SL J0 p1.Threads D0,SL K0 p1.Recover E0,SL M0 p1.Claims F0].toArray) o rfl u rfl rfl λO0 w a u o=>qa o rfl λo=>re<|tn<|th<|th<|Av (λa w=>∃ (n0:Bool),(Z4e N p1 p4) n0=some r∧Fr 46 [(1,i6 p4),(2,PT O0),(15,.bool n0)] a∧St w0 Nil [H] [bk O0 [SL P0 p1.Lines G0,SL Q0 p1.Vols A0,SL I0 p1.Locks C0,SL J0 p1.Threads D0,SL K0 p1.Recover E0,SL M0 p1.Claims F0] 48] w) ?_ ?_
 rcases bip hm with ⟨U0,hm⟩ | ⟨U0,hm⟩
 refine rg<|qm o rfl λo=>qv o (Ak o rfl rfl) λo=>qv o (Ax (Ab o rfl) (congrArg Value.bool U0)) λo=>?_
 iterate 5 refine qn o λo=>?_
 refine qv o (Ac o rfl rfl) λo=>re<|tn<|?_
 exact ⟨true,hm,o.hs,u⟩
 obtain ⟨E1,X1,hm⟩:=bs hm
 refine rg<|qm o rfl λo=>qv o (Ak o rfl rfl) λo=>qv o (Ax (Ab o rfl) (congrArg Value.bool U0)) λo=>qg o (Ab o rfl) λo=>qg o (Ar o isAgg48 sizeOf48 rfl rfl (u.ld.cellsB t0)) λo=>ls<|gy o rfl rfl<|c1 o rfl call94 (Qf (Ah _) (Enc.mono (St.up u) (show Enc.rep (α:=api_Prog) H [SL P0 p1.Lines G0,SL Q0 p1.Vols A0,SL I0 p1.Locks C0,SL J0 p1.Threads D0,SL K0 p1.Recover E0,SL M0 p1.Claims F0] p1 from ⟨_,_,rfl,⟨_,_,rfl,V1,Y0⟩,⟨_,_,rfl,⟨_,_,rfl,F1,I1⟩,⟨_,_,rfl,⟨_,_,rfl,J1,O1⟩,⟨_,_,rfl,⟨_,_,rfl,P1,Q1⟩,⟨_,_,rfl,⟨_,_,rfl,R1,S1⟩,⟨_,_,rfl,T1,U1⟩⟩⟩⟩⟩⟩)) X1) ⟨rfl,trivial⟩ (λv w a hR o=>?_)
 obtain ⟨C2,u1,E2,rfl,u0,hk⟩:=hR
 replace u:=u.fresh hk
 replace u0:=u0 H
 refine qg o (Aj (α:=api_Cell) (xs:=E1) o runUnderlying44 rfl) λo=>qg o (Bo o rfl rfl) λo=>qv o (Ad o rfl rfl) λo=>re<|tn<|?_
 replace u:=u.pk [1] rfl
 exact ⟨(decide ((E1.length:Int)≤p4)),hm,o.hs,u⟩
 rintro a w ⟨n0,hm,o,u⟩
 unfold Z4e at hm
 rcases bit hm with ⟨V0,hm⟩ | ⟨V0,hm⟩
 refine ctv o rfl V0<|th<|rg<|qa o rfl λo=>re<|tn<|wr<|tr<|?_
 obtain rfl:=si hm
 exact r1 o results56 rfl ⟨rfl,u.keep⟩
 refine cfv o rfl V0<|wk<|tn<|th<|rg<|qm o rfl λo=>qa o rfl λo=>re<|tn<|th<|th<|rg<|qa o rfl λo=>re<|tn<|Av (λa w=>∃ (B1:Int),(Z4f p1) B1=some r∧Fr 46 [(2,PT O0),(5,i6 B1)] a∧St w0 Nil [H] [bk O0 [SL P0 p1.Lines G0,SL Q0 p1.Vols A0,SL I0 p1.Locks C0,SL J0 p1.Threads D0,SL K0 p1.Recover E0,SL M0 p1.Claims F0] 48] w) ?_ ?_
 refine wb<|lp (α:=Nat×Int×Int) (λgh a w=>match gh with | (R0,S0,j0)=>(Z4g N (Z4f p1) p1) R0 S0 j0=some r∧Fr 46 [(2,PT O0),(5,i6 S0),(6,i6 j0)] a∧St w0 Nil [H] [bk O0 [SL P0 p1.Lines G0,SL Q0 p1.Vols A0,SL I0 p1.Locks C0,SL J0 p1.Threads D0,SL K0 p1.Recover E0,SL M0 p1.Claims F0] 48] w) (λgh=>gh.1) (N,p4,0) ⟨hm,o.hs,u⟩ ?_
 rintro ⟨R0,S0,j0⟩ a w ⟨hm,o,u⟩
 obtain _ | R0:=R0
 simp [Z4g] at hm
 rw [Z4g] at hm
 refine th<|th<|rg<|qm o rfl λo=>qv o (Ae o Dl rfl) λo=>qv o (Af o isAgg43 rfl (u.ld.cellB t0 rfl)) λo=>qv o (Aj (α:=(List api_Cell)) (xs:=p1.Lines) o runUnderlying43 rfl) λo=>qv o (Ak o rfl rfl) λo=>re<|?_
 rcases bip hm with ⟨W0,hm⟩ | ⟨W0,hm⟩
 refine tn<|ctv o rfl W0<|wk<|tn<|th<|wb<|th<|th<|?_
 obtain ⟨C1,T0,hm⟩:=bs hm
 obtain ⟨J2,Y1,D1⟩:=SR.get Y0 T0
 obtain ⟨F2,B2,rfl,G2,I2⟩:=Y1
 refine rg<|qm o rfl λo=>qv o (Ae o Dl rfl) λo=>qv o (Af o isAgg43 rfl (u.ld.cellB t0 rfl)) λo=>qm o rfl λo=>qv o (Al o runUnderlying43 sizeOf44 rfl rfl T0 (SR.oaI Y0 (by decide) T0)) λo=>qv o (Af o isAgg44 rfl (PH.le.cell (Lds.le u.ld) (D1 0 _ rfl))) λo=>qv o (Aj (α:=api_Cell) (xs:=C1) o runUnderlying44 rfl) λo=>qv o (Ak o rfl rfl) λo=>re<|?_
 rcases bip hm with ⟨X0,hm⟩ | ⟨X0,hm⟩
 refine tn<|ctv o rfl X0<|th<|rg<|qm o rfl λo=>qa o rfl λo=>re<|tn<|wr<|tr<|br<|tr<|tr<|br<|tr<|?_
 obtain rfl:=si hm
 exact r1 o results56 rfl ⟨rfl,u.keep⟩
 refine tn<|cfv o rfl X0<|wk<|tn<|rg<|qm o rfl λo=>qv o (Ae o Dl rfl) λo=>qv o (Af o isAgg43 rfl (u.ld.cellB t0 rfl)) λo=>qm o rfl λo=>qv o (Al o runUnderlying43 sizeOf44 rfl rfl T0 (SR.oaI Y0 (by decide) T0)) λo=>qv o (Af o isAgg44 rfl (PH.le.cell (Lds.le u.ld) (D1 0 _ rfl))) λo=>qv o (Aj (α:=api_Cell) (xs:=C1) o runUnderlying44 rfl) λo=>qv o (En o rfl rfl) λo=>qa o rfl λo=>re<|bn<|tn<|rg<|qm o rfl λo=>qv o (An o rfl rfl) λo=>qa o rfl λo=>re<|tn<|?_
 exact ⟨(R0,(IntKind.i64.wrap (S0 - (C1.length:Int))),(IntKind.i64.wrap (j0+1))),⟨hm,o.hs,u⟩,Nat.lt_succ_self _⟩
 refine tn<|cfv o rfl W0<|we<|tx<|tx<|bx<|tn<|?_
 exact ⟨S0,hm,o.has ⟨rfl,rfl,trivial⟩,u⟩
 rintro a w ⟨B1,hm,o,u⟩
 unfold Z4f at hm
 refine th<|rg<|qv o (Ae o Dl rfl) λo=>qv o (Af o isAgg43 rfl (u.ld.cellB t0 rfl)) λo=>qv o (Aj (α:=(List api_Cell)) (xs:=p1.Lines) o runUnderlying43 rfl) λo=>qm o rfl λo=>qv o (An o rfl rfl) λo=>qa o rfl λo=>re<|tn<|wr<|?_
 obtain rfl:=si hm
 exact r1 o results56 rfl ⟨rfl,u.keep⟩
theorem JcM:∀ (N:Nat) {w0:World} {H:PH} (hH:H.le w0) {G0:Option Addr} {E0:Nat} {p1:(List api_Stmt)} (C0:p1.length≤E0) (D0:SR H G0 p1) {r:Int} (hm:Z74 N p1=some r),Tot Tryz.prog 95 #[SL G0 p1 E0] w0 (λv w'=>v=i6 r∧Keep Nil w0 w'):=by
 intro N
 induction N with
  | zero=>intros;rename_i hm;simp [Z74] at hm
  | succ N ih=>
 intro w0 H hH G0 E0 p1 C0 D0 r hm
 rw [Z74] at hm
 refine fn0 func95 rfl ntmps95 rfl rfl λa o=>?_
 have u:St w0 Nil [H] [] w0:=start1 hH
 refine th<|rg<|qa o rfl λo=>re<|tn<|th<|th<|rg<|qm o rfl λo=>qv o (Aj (α:=api_Stmt) (xs:=p1) o runUnderlying106 rfl) λo=>qv o (Aq o rfl rfl) λo=>re<|?_
 rcases bip hm with ⟨I0,hm⟩ | ⟨I0,hm⟩
 refine tn<|ctv o rfl I0<|th<|rg<|qa o rfl λo=>re<|tn<|wr<|tr<|?_
 obtain rfl:=si hm
 exact r1 o results95 rfl ⟨rfl,u.keep⟩
 refine tn<|cfv o rfl I0<|wk<|tn<|th<|?_
 obtain ⟨A0,h8,hm⟩:=bs hm
 obtain ⟨cz9,Y0,R0⟩:=SR.get D0 h8
 obtain ⟨I1,B1,J1,C1,rfl,O1,P1,Q1,R1⟩:=Bs Y0
 refine rg<|qm o rfl λo=>qv o (Al o runUnderlying106 sizeOf140 rfl rfl h8 (SR.oaI D0 (by decide) h8)) λo=>qv o (Ar o isAgg140 sizeOf140 rfl rfl (λj v hj=>PH.le.cell (Lds.le u.ld) (R0 j v hj))) λo=>ls<|As (cs:=[i6 0,Ag [],Ag [],.slice none 0 0,.slice none 0 0,i6 0,i6 0,i6 0,i6 0].toArray) o rfl u zeroValue140 rfl λV1 w a u o=>ls<|Bb o u sizeOf140 rfl rfl rfl rfl (Ao rfl) .head λw u=>re<|tn<|th<|rg<|qv o (Ae o Fo rfl) λo=>qv o (Af o isAgg3 rfl (u.ld.cellB t0 rfl)) λo=>qv o (An o rfl rfl) λo=>qa o rfl λo=>re<|tn<|th<|rg<|qm o rfl λo=>qv o (Ae o Dq rfl) λo=>qv o (Af o isAgg3 rfl (u.ld.cellB t0 rfl)) λo=>qv o (An o rfl rfl) λo=>qa o rfl λo=>re<|tn<|th<|?_
 obtain ⟨X1,K0,hm⟩:=bs hm
 obtain ⟨S1,D1,e25,e26,S0,T0⟩:=SR.sub (sz:=9) D0 C0 rfl K0
 obtain ⟨M0,j0,hm⟩:=bs hm
 obtain ⟨Y1,O0,hm⟩:=bs hm
 obtain ⟨T1,E1,e35,e36,U0,V0⟩:=SR.sub (sz:=9) D0 C0 rfl O0
 obtain ⟨P0,n0,hm⟩:=bs hm
 refine rdS 11 u wide λw u=>dr 0 u o rfl (Ab o rfl) λo=>dr 1 u o rfl (Ab o rfl) λo=>dr 2 u o rfl (Dn (xs:=p1) (vl:=1) (vh:=(IntKind.i64.wrap (1+A0.Body))) o runUnderlying106 sizeOf140 rfl C0 rfl rfl K0 e25 e26) λo=>dr 4 u o rfl (Ab o rfl) λo=>dr 5 u o rfl (Ab o rfl) λo=>dr 6 u o rfl (Ab o rfl) λo=>dr 7 u o rfl (Dn (xs:=p1) (vl:=(IntKind.i64.wrap (1+A0.Body))) (vh:=(IntKind.i64.wrap ((IntKind.i64.wrap (1+A0.Body))+A0.Else))) o runUnderlying106 sizeOf140 rfl C0 rfl rfl O0 e35 e36) λo=>da1 (i:=3) (by kernel_rfl) ?_
 refine di (i:=3) rfl<|cr o call95 (ih (Ah _) S0 (St.srH u T0) j0) u λu o=>⟨λ_=>u.ld,?_⟩
 refine da1 (i:=8) (by kernel_rfl) ?_
 refine di (i:=8) rfl<|cr o call95 (ih (Ah _) U0 (St.srH u V0) n0) u λu o=>⟨λ_=>u.ld,?_⟩
 refine dr 9 u o rfl (Pu o rfl rfl) λo=>dr 10 u o rfl (Bp o rfl) λo=>de (by kernel_rfl)<|tn<|th<|th<|rg<|qv o (Ae o Cm rfl) λo=>qv o (Af o isAgg3 rfl (u.ld.cellB t0 rfl)) λo=>qv o (Aq o rfl rfl) λo=>re<|tn<|Av (λa w=>∃ (J0:Int),(Z75 (Z74 N) p1 A0) J0=some r∧Fr 41 [(0,SL G0 p1 E0),(5,i6 (IntKind.i64.wrap ((IntKind.i64.wrap (1+A0.Body))+A0.Else))),(6,i6 J0)] a∧St w0 Nil [H] [] w) ?_ ?_
 rcases bip hm with ⟨F0,hm⟩ | ⟨F0,hm⟩
 refine ctv o rfl F0<|rg<|qm o rfl λo=>qv o (An o rfl rfl) λo=>qa o rfl λo=>re<|tn<|?_
 replace u:=u.pickL .nil
 exact ⟨(IntKind.i64.wrap ((max M0 P0)+1)),hm,o.hs,u⟩
 refine cfv o rfl F0<|wk<|tn<|?_
 replace u:=u.pickL .nil
 exact ⟨(max M0 P0),hm,o.hs,u⟩
 rintro a w ⟨J0,hm,o,u⟩
 unfold Z75 at hm
 refine th<|?_
 obtain ⟨u1,Q0,hm⟩:=bs hm
 obtain ⟨U1,F1,e46,e47,W0,X0⟩:=SR.sub (sz:=9) D0 C0 rfl Q0
 obtain ⟨B2,u0,hm⟩:=bs hm
 refine rg<|qm o rfl λo=>?_
 iterate 2 refine qm o rfl λo=>?_
 refine qv o (Dn (xs:=p1) (vl:=(IntKind.i64.wrap ((IntKind.i64.wrap (1+A0.Body))+A0.Else))) (vh:=(p1.length:Int)) o runUnderlying106 sizeOf140 rfl C0 rfl rfl Q0 e46 e47) λo=>ls<|cr o call95 (ih (Ah _) W0 (St.srH u X0) u0) u λu o=>qv o (Pu o rfl rfl) λo=>qa o rfl λo=>re<|tn<|wr<|?_
 obtain rfl:=si hm
 exact r1 o results95 rfl ⟨rfl,u.keep⟩
theorem Jda:∀ (N:Nat) {w0:World} {H:PH} (hH:H.le w0) {P0:Option Addr} {I0:Nat} {p1:(List api_Node)} (B1:p1.length≤I0) (A0:SR H P0 p1) {p6:Int} {U0:Option Addr} {K0:Nat} {p7:(List Str)} (W0:p7.length≤K0) (X0:SR H U0 p7) {r:(List api_Op)} (hm:Z5s N p1 p6 p7=some r),Tot Tryz.prog 98 #[SL P0 p1 I0,i6 p6,SL U0 p7 K0] w0 (λv w'=>∃ (J1:Option Addr) (C1:Nat) (O1:List Value),v=SL J1 r C1∧(∀ h,Rows h O1 r)∧Fresh w0 (sla 83 2 J1 r.length C1 O1) w'):=by
 intro N
 induction N with
  | zero=>intros;rename_i hm;simp [Z5s] at hm
  | succ N ih=>
 intro w0 H hH P0 I0 p1 B1 A0 p6 U0 K0 p7 W0 X0 r hm
 rw [Z5s] at hm
 refine fn0 func98 rfl ntmps98 rfl rfl λa o=>?_
 have u:St w0 Nil [H] [] w0:=start1 hH
 refine th<|rg<|qa o rfl λo=>re<|tn<|th<|rg<|ls<|Bj (e:=83) (sz:=2) [] o rfl u rfl rfl rfl (λw=>by kernel_rfl) λY1 w a u o=>?_
 have P1:Rows (α:=api_Op) H [] []:=.nil
 refine qm o rfl λo=>qv o (An o rfl rfl) λo=>?_
 iterate 2 refine qa o rfl λo=>?_
 refine re<|tn<|th<|th<|rg<|qa o rfl λo=>re<|tn<|Av (λa w=>∃ (D0:(List api_Op)) (M0:Option Addr) (E0:Nat) (Q0:List Value),(Z5t N p1 p6 p7) D0=some r∧Fr 62 [(0,SL P0 p1 I0),(1,i6 p6),(2,SL U0 p7 K0),(7,SL M0 D0 E0)] a∧St w0 Nil [H] [sla 83 2 M0 D0.length E0 Q0] w∧Rows H Q0 D0) ?_ ?_
 refine wb<|lp (α:=Nat×(List api_Op)×Int×Int) (λgh a w=>match gh with | (V0,O0,D1,u0)=>∃ (R0:Option Addr) (J0:Nat) (S0:List Value),(Z5v (Z5s N) N (Z5t N p1 p6 p7) p1 p6 p7) V0 O0 D1 u0=some r∧Fr 62 [(0,SL P0 p1 I0),(1,i6 p6),(2,SL U0 p7 K0),(7,SL R0 O0 J0),(8,i6 D1),(9,i6 u0)] a∧St w0 Nil [H] [sla 83 2 R0 O0.length J0 S0] w∧Rows H S0 O0) (λgh=>gh.1) (N,[],(IntKind.i64.wrap (p6+1)),0) ⟨(some ⟨Y1,0,none⟩),0,[],hm,o.hs,u,P1⟩ ?_
 rintro ⟨V0,O0,D1,u0⟩ a w ⟨R0,J0,S0,hm,o,u,E1⟩
 obtain _ | V0:=V0
 simp [Z5v] at hm
 rw [Z5v] at hm
 refine th<|th<|?_
 obtain ⟨Y2,F1,hm⟩:=bs hm
 obtain ⟨u2,u1,Q1⟩:=SR.get A0 F1
 obtain rfl:=Bw u1
 obtain ⟨A3,B2,hm⟩:=bs hm
 refine rg<|qm o rfl λo=>?_
 iterate 2 refine qm o rfl λo=>?_
 refine qv o (Al o runUnderlying96 sizeOf133 rfl rfl F1 (SR.oaI A0 (by decide) F1)) λo=>qv o (Ae o Co rfl) λo=>qv o (Af o isAgg3 rfl (PH.le.cell (Lds.le u.ld) (Q1 0 _ rfl))) λo=>ls<|cr o call128 (Uk (Ah _) B2) u λu o=>qv o (Ak o rfl rfl) λo=>re<|?_
 rcases bip hm with ⟨Y0,hm⟩ | ⟨Y0,hm⟩
 refine tn<|ctv o rfl Y0<|wk<|tn<|th<|wb<|th<|?_
 obtain ⟨C2,E2,hm⟩:=bs hm
 obtain ⟨F2,G2,hm⟩:=bs hm
 refine rg<|qm o rfl λo=>?_
 iterate 3 refine qm o rfl λo=>?_
 refine ls<|c1 o rfl call98 (ih (Ah _) B1 (St.srH u A0) W0 (St.srH u X0) E2) ⟨rfl,rfl,rfl,trivial⟩ (λv w a hR o=>?_)
 obtain ⟨U2,R2,V2,rfl,j0,hk⟩:=hR
 replace u:=u.fresh hk
 replace j0:=j0 H
 refine ls<|Bv (α:=api_Op) (xs:=O0) (ys:=C2) o rfl u underlying54 Sf rfl (by decide) rfl rfl rfl t1 E1 (u.rdO t0) j0 G2 λR1 I1 S1 w a T1 hU o=>?_
 replace u:=hU _ (.tail .head)
 refine qa o rfl λo=>re<|tn<|?_
 obtain ⟨I2,J2,hm⟩:=bs hm
 refine rg<|qm o rfl λo=>qm o rfl λo=>ls<|cr o call125 (Ye _ (Ah _) B1 (St.srH u A0) J2) u λu o=>qa o rfl λo=>re<|bn<|tn<|rg<|qm o rfl λo=>qv o (An o rfl rfl) λo=>qa o rfl λo=>re<|tn<|?_
 replace u:=u.pk [1] rfl
 exact ⟨(V0,F2,I2,(IntKind.i64.wrap (u0+1))),⟨R1,I1,S1,hm,o.hs,u,T1⟩,Nat.lt_succ_self _⟩
 refine tn<|cfv o rfl Y0<|we<|tx<|tx<|bx<|tn<|?_
 exact ⟨O0,R0,J0,S0,hm,o.hs,u,E1⟩
 rintro a w ⟨D0,M0,E0,Q0,hm,o,u,U1⟩
 unfold Z5t at hm
 refine th<|?_
 obtain ⟨F0,G0,hm⟩:=bs hm
 obtain ⟨B3,K2,T0⟩:=SR.get A0 G0
 obtain rfl:=Bw K2
 refine rg<|qm o rfl λo=>qm o rfl λo=>qv o (Al o runUnderlying96 sizeOf133 rfl rfl G0 (SR.oaI A0 (by decide) G0)) λo=>qv o (Ae o Et rfl) λo=>qv o (Af o isAgg3 rfl (PH.le.cell (Lds.le u.ld) (T0 1 _ rfl))) λo=>qa o rfl λo=>re<|tn<|th<|th<|rg<|qm o rfl λo=>qm o rfl λo=>qv o (Al o runUnderlying96 sizeOf133 rfl rfl G0 (SR.oaI A0 (by decide) G0)) λo=>qv o (Ae o Co rfl) λo=>qv o (Af o isAgg3 rfl (PH.le.cell (Lds.le u.ld) (T0 0 _ rfl))) λo=>qv o (Aq o rfl rfl) λo=>re<|tn<|Av (λa w=>∃ (C0:Int),(Z5u D0 F0) C0=some r∧Fr 62 [(0,SL P0 p1 I0),(1,i6 p6),(7,SL M0 D0 E0),(10,i6 C0)] a∧St w0 Nil [H] [sla 83 2 M0 D0.length E0 Q0] w) ?_ ?_
 rcases bip hm with ⟨n0,hm⟩ | ⟨n0,hm⟩
 refine ctv o rfl n0<|?_
 obtain ⟨O2,P2,hm⟩:=bs hm
 refine rg<|qm o rfl λo=>?_
 iterate 2 refine qm o rfl λo=>?_
 refine qv o (Al o runUnderlying96 sizeOf133 rfl rfl G0 (SR.oaI A0 (by decide) G0)) λo=>qv o (Ae o Eu rfl) λo=>qv o (Af o isAgg9 rfl (PH.le.cell (Lds.le u.ld) (T0 2 _ rfl))) λo=>ls<|cr o call90 (Fh (Ah _) W0 (St.srH u X0) P2) u λu o=>qa o rfl λo=>re<|tn<|?_
 exact ⟨O2,hm,o.hs,u⟩
 refine cfv o rfl n0<|wk<|tn<|?_
 exact ⟨F0.N,hm,o.hs,u⟩
 rintro a w ⟨C0,hm,o,u⟩
 unfold Z5u at hm
 refine th<|?_
 obtain ⟨C3,Q2,hm⟩:=bs hm
 refine rg<|qm o rfl λo=>?_
 iterate 2 refine qm o rfl λo=>?_
 refine qv o (Al o runUnderlying96 sizeOf133 rfl rfl G0 (SR.oaI A0 (by decide) G0)) λo=>qv o (Ae o Co rfl) λo=>qv o (Af o isAgg3 rfl (PH.le.cell (Lds.le u.ld) (T0 0 _ rfl))) λo=>qm o rfl λo=>qv o (Bt [i6 F0.Op,i6 C0] [i6 F0.Op,i6 C0] o ⟨rfl,rfl,trivial⟩ (λw=>by kernel_rfl)) λo=>ls<|Bj (e:=83) (sz:=2) [i6 F0.Op,i6 C0] o rfl u rfl rfl rfl (λw=>by kernel_rfl) λD3 w a u o=>?_
 have V1:Rows (α:=api_Op) H [i6 F0.Op,i6 C0] ([(api_Op.mk F0.Op C0)]:List api_Op):=(.cons (c:=[i6 F0.Op,i6 C0]) ⟨_,_,rfl,rfl,rfl⟩ .nil)
 refine ls<|Bv (α:=api_Op) (xs:=D0) (ys:=([(api_Op.mk F0.Op C0)]:List api_Op)) o rfl u underlying54 Sf rfl (by decide) rfl rfl rfl t1 U1 (u.rdO t0) V1 Q2 λW2 T2 X2 w a X1 hU o=>?_
 replace u:=hU _ (.tail .head)
 replace u:=u.drop .head
 refine qa o rfl λo=>re<|tn<|th<|rg<|qm o rfl λo=>qa o rfl λo=>re<|tn<|wr<|?_
 obtain rfl:=si hm
 exact r1 o results98 rfl ⟨_,_,_,rfl,(λ_=>Rows.ind X1),u.endFresh t0⟩
theorem Uo (hH:H.le w0) {I0:Option Addr} {A0:Nat} {p1:(List api_Node)} (V0:p1.length≤A0) (E0:SR H I0 p1) {J0:Option Addr} {C0:Nat} {p6:(List Str)} (W0:p6.length≤C0) (S0:SR H J0 p6) {r:((List api_Op)×Int)} (hm:Z5d N p1 p6=some r):Tot Tryz.prog 58 #[SL I0 p1 A0,SL J0 p6 C0] w0 (λv w'=>∃ (X0:Option Addr) (T0:Nat) (Y0:List Value),v=.tuple #[SL X0 r.1 T0,i6 r.2]∧(∀ h,Rows h Y0 r.1)∧Fresh w0 (sla 83 2 X0 r.1.length T0 Y0) w'):=by
 unfold Z5d at hm
 refine fn0 func58 rfl ntmps58 rfl rfl λa o=>?_
 have u:St w0 Nil [H] [] w0:=start1 hH
 refine th<|rg<|qa o rfl λo=>qa o rfl λo=>re<|tn<|th<|th<|?_
 obtain ⟨I1,j0,hm⟩:=bs hm
 refine rg<|qm o rfl λo=>ls<|cr o call97 (Qq (Ah _) V0 (St.srH u E0) j0) u λu o=>qv o (A9 o rfl) λo=>re<|?_
 rcases bit hm with ⟨K0,hm⟩ | ⟨K0,hm⟩
 refine tn<|cfv o rfl (by rw [K0];rfl)<|wk<|tn<|th<|th<|rg<|qa o rfl λo=>re<|tn<|Av (λa w=>(Z5e N p1 p6)=some r∧Fr 35 [(0,SL I0 p1 A0),(1,SL J0 p6 C0)] a∧St w0 Nil [H] [] w) ?_ ?_
 refine wb<|lp (α:=Nat×Int) (λgh a w=>match gh with | (F0,G0)=>(Z5g N (Z5e N p1 p6) p1 p6) F0 G0=some r∧Fr 35 [(0,SL I0 p1 A0),(1,SL J0 p6 C0),(6,i6 G0)] a∧St w0 Nil [H] [] w) (λgh=>gh.1) (N,0) ⟨hm,o.hs,u⟩ ?_
 rintro ⟨F0,G0⟩ a w ⟨hm,o,u⟩
 obtain _ | F0:=F0
 simp [Z5g] at hm
 rw [Z5g] at hm
 refine th<|th<|rg<|qm o rfl λo=>qm o rfl λo=>qv o (Aj (α:=api_Node) (xs:=p1) o runUnderlying96 rfl) λo=>qv o (Ak o rfl rfl) λo=>re<|?_
 rcases bip hm with ⟨M0,hm⟩ | ⟨M0,hm⟩
 refine tn<|ctv o rfl M0<|wk<|tn<|th<|wb<|th<|Av (λa w=>∃ (U0:Bool),(Z5f (Z5g N (Z5e N p1 p6) p1 p6 F0) G0) U0=some r∧Fr 35 [(0,SL I0 p1 A0),(1,SL J0 p6 C0),(6,i6 G0),(31,.bool U0)] a∧St w0 Nil [H] [] w) ?_ ?_
 obtain ⟨J1,D0,hm⟩:=bs hm
 obtain ⟨O1,n0,O0⟩:=SR.get E0 D0
 obtain rfl:=Bw n0
 rcases bip hm with ⟨P0,hm⟩ | ⟨P0,hm⟩
 obtain ⟨u0,B1,hm⟩:=bs hm
 refine rg<|qm o rfl λo=>qm o rfl λo=>qv o (Al o runUnderlying96 sizeOf133 rfl rfl D0 (SR.oaI E0 (by decide) D0)) λo=>qv o (Ae o Co rfl) λo=>qv o (Af o isAgg3 rfl (PH.le.cell (Lds.le u.ld) (O0 0 _ rfl))) λo=>qv o (Aq o rfl rfl) λo=>qv o (Ax (Ab o rfl) (congrArg Value.bool P0)) λo=>?_
 iterate 3 refine qg o (Ab o rfl) λo=>?_
 refine qg o (Al o runUnderlying96 sizeOf133 rfl rfl D0 (SR.oaI E0 (by decide) D0)) λo=>qg o (Ae o Eu rfl) λo=>qg o (Af o isAgg9 rfl (PH.le.cell (Lds.le u.ld) (O0 2 _ rfl))) λo=>ls<|gy o rfl rfl<|cr o call90 (Fh (Ah _) W0 (St.srH u S0) B1) u λu o=>qg o (Ak o rfl rfl) λo=>qv o (Ac o rfl rfl) λo=>re<|tn<|?_
 exact ⟨(decide (u0 < 0)),hm,o.hs,u⟩
 refine rg<|qm o rfl λo=>qm o rfl λo=>qv o (Al o runUnderlying96 sizeOf133 rfl rfl D0 (SR.oaI E0 (by decide) D0)) λo=>qv o (Ae o Co rfl) λo=>qv o (Af o isAgg3 rfl (PH.le.cell (Lds.le u.ld) (O0 0 _ rfl))) λo=>qv o (Aq o rfl rfl) λo=>qv o (Ax (Ab o rfl) (congrArg Value.bool P0)) λo=>?_
 iterate 8 refine qn o λo=>?_
 refine qv o (Ad o rfl rfl) λo=>re<|tn<|?_
 exact ⟨false,hm,o.hs,u⟩
 rintro a w ⟨U0,hm,o,u⟩
 unfold Z5f at hm
 rcases bit hm with ⟨Q0,hm⟩ | ⟨Q0,hm⟩
 refine ctv o rfl Q0<|th<|rg<|qa o rfl λo=>qa o rfl λo=>re<|tn<|wr<|br<|tr<|tr<|br<|tr<|?_
 replace u:=u.nilS 83 2
 obtain rfl:=si hm
 exact r2 o results58 rfl rfl ⟨_,_,_,rfl,(λ_=>.nil),u.endFresh t0⟩
 refine cfv o rfl Q0<|wk<|bn<|tn<|rg<|qm o rfl λo=>qv o (An o rfl rfl) λo=>qa o rfl λo=>re<|tn<|?_
 exact ⟨(F0,(IntKind.i64.wrap (G0+1))),⟨hm,o.hs,u⟩,Nat.lt_succ_self _⟩
 refine tn<|cfv o rfl M0<|we<|tx<|tx<|bx<|tn<|?_
 exact ⟨hm,o.has ⟨rfl,rfl,trivial⟩,u⟩
 rintro a w ⟨hm,o,u⟩
 unfold Z5e at hm
 refine th<|?_
 obtain ⟨P1,C1,hm⟩:=bs hm
 refine rg<|qm o rfl λo=>qm o rfl λo=>ls<|c1 o rfl call98 (Jda _ (Ah _) V0 (St.srH u E0) W0 (St.srH u S0) C1) ⟨rfl,rfl,rfl,trivial⟩ (λv w a hR o=>?_)
 obtain ⟨E1,D1,F1,rfl,R0,hk⟩:=hR
 replace u:=u.fresh hk
 replace R0:=R0 H
 iterate 2 refine qa o rfl λo=>?_
 refine re<|tn<|wr<|?_
 obtain rfl:=si hm
 exact r2 o results58 rfl rfl ⟨_,_,_,rfl,(λ_=>Rows.ind R0),u.endFresh t0⟩
 refine tn<|ctv o rfl (by rw [K0];rfl)<|th<|rg<|qa o rfl λo=>qa o rfl λo=>re<|tn<|wr<|tr<|?_
 replace u:=u.nilS 83 2
 obtain rfl:=si hm
 exact r2 o results58 rfl rfl ⟨_,_,_,rfl,(λ_=>.nil),u.endFresh t0⟩
end Go.LM.BINZ
