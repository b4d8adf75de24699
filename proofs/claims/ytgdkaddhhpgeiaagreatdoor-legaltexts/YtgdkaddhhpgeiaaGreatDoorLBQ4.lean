/- Walks, lifted by program. No condition beyond the theorems' own premises. -/
import Derived.Test.YtgdkaddhhpgeiaaGreatDoorLBQ3
namespace Go.LM.LB
open Go Go.LL Go.MD Go.LM Go.Proofs Go.MD.LB Go.Proofs.Tryz
set_option maxRecDepth 100000
variable {N:Nat} {w0:World} {H:PH}
set_option maxHeartbeats 4000000 in
theorem Jbc (hH:H.le w0) {cs2:List Value} {p1:api_Prog} (g3:Enc.rep H cs2 p1) {r:(Int×Int)} (hm:Z52 N p1=some r):Tot Tryz.prog 17 #[.agg cs2.toArray] w0 (λv w'=>v=.tuple #[i6 r.1,i6 r.2]∧Keep Nil w0 w'):=by
 unfold Z52 at hm
 refine fn0 func17 rfl ntmps17 rfl rfl λa o=>?_
 have u:St w0 Nil [H] [] w0:=start1 hH
 obtain ⟨U0,K0,V0,M0,O0,F0,P0,G0,Q0,I0,R0,J0,rfl,T1,U1,n0,u0,B1,C1,E1,F1,G1,I1,J1,j0⟩:=Ar g3
 refine th<|rg<|ls<|Bs (cs:=[SL U0 p1.Lines K0,SL V0 p1.Vols M0,SL O0 p1.Locks F0,SL P0 p1.Threads G0,SL Q0 p1.Recover I0,SL R0 p1.Claims J0].toArray) o rfl u rfl rfl λT0 w a u o=>?_
 iterate 2 refine qa o rfl λo=>?_
 refine re<|tn<|th<|th<|?_
 obtain ⟨F7,k5,hm⟩:=bs hm
 refine rg<|qv o (Ay o Tryz.isAgg27 Tryz.sizeOf27 rfl rfl (u.ld.cellsB t0)) λo=>ls<|cr o call57 (JaZ (Ai _) (Enc.mono (St.up u) (show Enc.rep (α:=api_Prog) H [SL U0 p1.Lines K0,SL V0 p1.Vols M0,SL O0 p1.Locks F0,SL P0 p1.Threads G0,SL Q0 p1.Recover I0,SL R0 p1.Claims J0] p1 from ⟨_,_,rfl,⟨_,_,rfl,T1,U1⟩,⟨_,_,rfl,⟨_,_,rfl,n0,u0⟩,⟨_,_,rfl,⟨_,_,rfl,B1,C1⟩,⟨_,_,rfl,⟨_,_,rfl,E1,F1⟩,⟨_,_,rfl,⟨_,_,rfl,G1,I1⟩,⟨_,_,rfl,J1,j0⟩⟩⟩⟩⟩⟩)) k5) u λu o=>qv o (Az o rfl) λo=>re<|?_
 rcases bit hm with ⟨F3,hm⟩ | ⟨F3,hm⟩
 refine tn<|cfv o rfl (by rw [F3];rfl)<|wk<|tn<|th<|th<|?_
 obtain ⟨G7,n5,hm⟩:=bs hm
 refine rg<|qv o (Ay o Tryz.isAgg27 Tryz.sizeOf27 rfl rfl (u.ld.cellsB t0)) λo=>ls<|cr o call58 (Jbx (Ai _) (Enc.mono (St.up u) (show Enc.rep (α:=api_Prog) H [SL U0 p1.Lines K0,SL V0 p1.Vols M0,SL O0 p1.Locks F0,SL P0 p1.Threads G0,SL Q0 p1.Recover I0,SL R0 p1.Claims J0] p1 from ⟨_,_,rfl,⟨_,_,rfl,T1,U1⟩,⟨_,_,rfl,⟨_,_,rfl,n0,u0⟩,⟨_,_,rfl,⟨_,_,rfl,B1,C1⟩,⟨_,_,rfl,⟨_,_,rfl,E1,F1⟩,⟨_,_,rfl,⟨_,_,rfl,G1,I1⟩,⟨_,_,rfl,J1,j0⟩⟩⟩⟩⟩⟩)) n5) u λu o=>re<|?_
 rcases bit hm with ⟨G3,hm⟩ | ⟨G3,hm⟩
 refine tn<|ctv o rfl G3<|th<|rg<|qa o rfl λo=>qa o rfl λo=>re<|tn<|wr<|tr<|?_
 obtain rfl:=si hm
 exact r2 o results17 rfl rfl ⟨rfl,u.keep⟩
 refine tn<|cfv o rfl G3<|wk<|tn<|th<|?_
 obtain ⟨S0,u5,hm⟩:=bs hm
 refine rg<|qv o (Ay o Tryz.isAgg27 Tryz.sizeOf27 rfl rfl (u.ld.cellsB t0)) λo=>ls<|c1 o rfl call59 (Jaa (St.le u) (show Enc.rep (α:=api_Prog) H [SL U0 p1.Lines K0,SL V0 p1.Vols M0,SL O0 p1.Locks F0,SL P0 p1.Threads G0,SL Q0 p1.Recover I0,SL R0 p1.Claims J0] p1 from ⟨_,_,rfl,⟨_,_,rfl,T1,U1⟩,⟨_,_,rfl,⟨_,_,rfl,n0,u0⟩,⟨_,_,rfl,⟨_,_,rfl,B1,C1⟩,⟨_,_,rfl,⟨_,_,rfl,E1,F1⟩,⟨_,_,rfl,⟨_,_,rfl,G1,I1⟩,⟨_,_,rfl,J1,j0⟩⟩⟩⟩⟩⟩) u5) ⟨rfl,trivial⟩ (λv w a hR o=>?_)
 obtain ⟨H40,M1,Y0,rfl,V6,X0,C0,E5,hk⟩:=hR
 obtain ⟨u,C0⟩:=And.intro (St.passH u hk C0 E5) (St.extc u C0)
 refine qa o rfl λo=>re<|tn<|th<|th<|rg<|qa o rfl λo=>re<|tn<|Au (λa w=>(Z53 N p1 S0)=some r∧Fr 150 [(1,PT T0),(4,SL M1 S0 Y0)] a∧St w0 Nil [H40] [bk T0 [SL U0 p1.Lines K0,SL V0 p1.Vols M0,SL O0 p1.Locks F0,SL P0 p1.Threads G0,SL Q0 p1.Recover I0,SL R0 p1.Claims J0] 27] w) ?_ ?_
 refine wb<|lp (α:=Nat×Int) (λgh a w=>match gh with | (E3,T3)=>(Z5c N (Z53 N p1 S0) S0) E3 T3=some r∧Fr 150 [(1,PT T0),(4,SL M1 S0 Y0),(5,i6 T3)] a∧St w0 Nil [H40] [bk T0 [SL U0 p1.Lines K0,SL V0 p1.Vols M0,SL O0 p1.Locks F0,SL P0 p1.Threads G0,SL Q0 p1.Recover I0,SL R0 p1.Claims J0] 27] w) (λgh=>gh.1) (N,0) ⟨hm,o.hs,u⟩ ?_
 rintro ⟨E3,T3⟩ a w ⟨hm,o,u⟩
 obtain _ | E3:=E3
 simp [Z5c] at hm
 rw [Z5c] at hm
 refine th<|th<|rg<|qm o rfl λo=>qm o rfl λo=>qv o (Ak (α:=api_Thread) (xs:=S0) o runUnderlying24 rfl) λo=>qv o (Aq o rfl rfl) λo=>re<|?_
 rcases bip hm with ⟨I3,hm⟩ | ⟨I3,hm⟩
 refine tn<|ctv o rfl I3<|wk<|tn<|th<|wb<|th<|?_
 obtain ⟨I7,Y3,hm⟩:=bs hm
 obtain ⟨J7,A6,F5⟩:=SR.get X0 Y3
 obtain ⟨W6,L6,X6,M6,rfl,Y6,d6,G5,I5⟩:=Av A6
 obtain ⟨K7,B6,hm⟩:=bs hm
 refine rg<|qm o rfl λo=>qm o rfl λo=>qv o (An o runUnderlying24 sizeOf48 rfl rfl Y3 (SR.oaI X0 (by decide) Y3)) λo=>qv o (Af o Hf rfl) λo=>qv o (Ag o isAgg46 rfl (PH.le.cell (Lds.le u.ld) (F5 2 _ rfl))) λo=>ls<|cr o call60 (Jco _ (Ai _) G5 (St.srH u I5) B6) u λu o=>qa o rfl λo=>re<|tn<|th<|rg<|qm o rfl λo=>qv o (Bi o rfl rfl) λo=>re<|?_
 rcases bip hm with ⟨J3,hm⟩ | ⟨J3,hm⟩
 refine tn<|ctv o rfl J3<|th<|rg<|qm o rfl λo=>?_
 iterate 2 refine qa o rfl λo=>?_
 refine re<|tn<|wr<|br<|tr<|tr<|br<|tr<|?_
 obtain rfl:=si hm
 exact r2 o results17 rfl rfl ⟨rfl,u.keep⟩
 refine tn<|cfv o rfl J3<|wk<|bn<|tn<|rg<|qm o rfl λo=>qv o (Ap o rfl rfl) λo=>qa o rfl λo=>re<|tn<|?_
 exact ⟨(E3,(IntKind.i64.wrap (T3+1))),⟨hm,o.hs,u⟩,Nat.lt_succ_self _⟩
 refine tn<|cfv o rfl I3<|we<|tx<|tx<|bx<|tn<|?_
 exact ⟨hm,o.has ⟨rfl,rfl,trivial⟩,u⟩
 rintro a w ⟨hm,o,u⟩
 unfold Z53 at hm
 refine th<|?_
 obtain ⟨L7,C6,hm⟩:=bs hm
 refine rg<|qv o (Ay o Tryz.isAgg27 Tryz.sizeOf27 rfl rfl (u.ld.cellsB t0)) λo=>ls<|cr o call61 (JaS (Ai _) (Enc.mono (St.up u) (show Enc.rep (α:=api_Prog) H40 [SL U0 p1.Lines K0,SL V0 p1.Vols M0,SL O0 p1.Locks F0,SL P0 p1.Threads G0,SL Q0 p1.Recover I0,SL R0 p1.Claims J0] p1 from ⟨_,_,rfl,⟨_,_,rfl,T1,(U1.mono C0.sub)⟩,⟨_,_,rfl,⟨_,_,rfl,n0,(u0.mono C0.sub)⟩,⟨_,_,rfl,⟨_,_,rfl,B1,(C1.mono C0.sub)⟩,⟨_,_,rfl,⟨_,_,rfl,E1,(F1.mono C0.sub)⟩,⟨_,_,rfl,⟨_,_,rfl,G1,(I1.mono C0.sub)⟩,⟨_,_,rfl,J1,(j0.mono C0.sub)⟩⟩⟩⟩⟩⟩)) C6) u λu o=>qa o rfl λo=>re<|tn<|th<|th<|rg<|qm o rfl λo=>qv o (Bi o rfl rfl) λo=>re<|?_
 rcases bip hm with ⟨K3,hm⟩ | ⟨K3,hm⟩
 refine tn<|ctv o rfl K3<|th<|rg<|qm o rfl λo=>?_
 iterate 2 refine qa o rfl λo=>?_
 refine re<|tn<|wr<|tr<|?_
 obtain rfl:=si hm
 exact r2 o results17 rfl rfl ⟨rfl,u.keep⟩
 refine tn<|cfv o rfl K3<|wk<|tn<|th<|th<|rg<|qa o rfl λo=>re<|tn<|Au (λa w=>∃ (R1:PH),(Z56 N p1 S0)=some r∧Ext w0 H40 R1∧Fr 150 [(1,PT T0),(4,SL M1 S0 Y0)] a∧St w0 Nil [R1] [bk T0 [SL U0 p1.Lines K0,SL V0 p1.Vols M0,SL O0 p1.Locks F0,SL P0 p1.Threads G0,SL Q0 p1.Recover I0,SL R0 p1.Claims J0] 27] w) ?_ ?_
 refine wb<|lp (α:=Nat×Int) (λgh a w=>match gh with | (E2,S1)=>∃ (F2:PH),(Z5d N (Z56 N p1 S0) p1 S0) E2 S1=some r∧Ext w0 H40 F2∧Fr 150 [(1,PT T0),(4,SL M1 S0 Y0),(8,i6 S1)] a∧St w0 Nil [F2] [bk T0 [SL U0 p1.Lines K0,SL V0 p1.Vols M0,SL O0 p1.Locks F0,SL P0 p1.Threads G0,SL Q0 p1.Recover I0,SL R0 p1.Claims J0] 27] w) (λgh=>gh.1) (N,0) ⟨H40,hm,(Ext.refl _ _),o.hs,u⟩ ?_
 rintro ⟨E2,S1⟩ a w ⟨F2,hm,D0,o,u⟩
 obtain _ | E2:=E2
 simp [Z5d] at hm
 rw [Z5d] at hm
 refine th<|th<|rg<|qm o rfl λo=>qm o rfl λo=>qv o (Ak (α:=api_Thread) (xs:=S0) o runUnderlying24 rfl) λo=>qv o (Aq o rfl rfl) λo=>re<|?_
 rcases bip hm with ⟨L3,hm⟩ | ⟨L3,hm⟩
 refine tn<|ctv o rfl L3<|wk<|tn<|th<|Au (λa w=>∃ (U3:PH),(Z57 (Z5d N (Z56 N p1 S0) p1 S0 E2) S1)=some r∧Ext w0 F2 U3∧Fr 150 [(1,PT T0),(4,SL M1 S0 Y0),(8,i6 S1)] a∧St w0 Nil [U3] [bk T0 [SL U0 p1.Lines K0,SL V0 p1.Vols M0,SL O0 p1.Locks F0,SL P0 p1.Threads G0,SL Q0 p1.Recover I0,SL R0 p1.Claims J0] 27] w) ?_ ?_
 refine wb<|th<|rg<|qa o rfl λo=>re<|tn<|wb<|lp (α:=Nat×Int) (λgh a w=>match gh with | (M2,O2)=>∃ (HD1:PH),(Z5e N (Z57 (Z5d N (Z56 N p1 S0) p1 S0 E2) S1) p1 S0 S1) M2 O2=some r∧Ext w0 F2 HD1∧Fr 150 [(1,PT T0),(4,SL M1 S0 Y0),(8,i6 S1),(9,i6 O2)] a∧St w0 Nil [HD1] [bk T0 [SL U0 p1.Lines K0,SL V0 p1.Vols M0,SL O0 p1.Locks F0,SL P0 p1.Threads G0,SL Q0 p1.Recover I0,SL R0 p1.Claims J0] 27] w) (λgh=>gh.1) (N,0) ⟨F2,hm,(Ext.refl _ _),o.hs,u⟩ ?_
 rintro ⟨M2,O2⟩ a w ⟨HD1,hm,hxHD1,o,u⟩
 obtain _ | M2:=M2
 simp [Z5e] at hm
 rw [Z5e] at hm
 refine th<|th<|?_
 obtain ⟨B5,P1,hm⟩:=bs hm
 obtain ⟨M7,D6,B2⟩:=SR.get X0 P1
 obtain ⟨k6,O6,n6,P6,rfl,M3,G2,u6,v6⟩:=Av D6
 refine rg<|qm o rfl λo=>?_
 iterate 2 refine qm o rfl λo=>?_
 refine qv o (An o runUnderlying24 sizeOf48 rfl rfl P1 (SR.oaI X0 (by decide) P1)) λo=>qv o (Af o Da rfl) λo=>qv o (Ag o isAgg36 rfl (PH.le.cell (λb o hx=>(Lds.le u.ld) b o ((cp hxHD1.sub D0.sub) b o hx)) (B2 1 _ rfl))) λo=>qv o (Ak (α:=Str) (xs:=B5.Regs) o runUnderlying36 rfl) λo=>qv o (Aq o rfl rfl) λo=>re<|?_
 rcases bip hm with ⟨O3,hm⟩ | ⟨O3,hm⟩
 refine tn<|ctv o rfl O3<|wk<|tn<|th<|wb<|th<|?_
 obtain ⟨E6,l3,hm⟩:=bs hm
 obtain ⟨F6,G6,J5⟩:=SR.get G2 l3
 obtain rfl:F6=[Ac E6]:=G6
 refine rg<|qm o rfl λo=>qm o rfl λo=>qv o (An o runUnderlying24 sizeOf48 rfl rfl P1 (SR.oaI X0 (by decide) P1)) λo=>qv o (Af o Da rfl) λo=>qv o (Ag o isAgg36 rfl (PH.le.cell (λb o hx=>(Lds.le u.ld) b o ((cp hxHD1.sub D0.sub) b o hx)) (B2 1 _ rfl))) λo=>qm o rfl λo=>qv o (An o runUnderlying36 sizeOf9 rfl rfl l3 (SR.oaI G2 (by decide) l3)) λo=>qv o (Ag o isAgg9 rfl (PH.le.cell (λb o hx=>(Lds.le u.ld) b o ((cp hxHD1.sub D0.sub) b o hx)) (J5 0 _ rfl))) λo=>qa o rfl λo=>re<|tn<|th<|Au (λa w=>∃ (u3:Bool) (HE1:PH),(Z58 (Z5e N (Z57 (Z5d N (Z56 N p1 S0) p1 S0 E2) S1) p1 S0 S1 M2) B5 O2) u3=some r∧Ext w0 HD1 HE1∧Fr 150 [(1,PT T0),(4,SL M1 S0 Y0),(8,i6 S1),(9,i6 O2),(88,.bool u3)] a∧St w0 Nil [HE1] [bk T0 [SL U0 p1.Lines K0,SL V0 p1.Vols M0,SL O0 p1.Locks F0,SL P0 p1.Threads G0,SL Q0 p1.Recover I0,SL R0 p1.Claims J0] 27] w) ?_ ?_
 obtain ⟨O7,A4,hm⟩:=bs hm
 rcases bip hm with ⟨P2,hm⟩ | ⟨P2,hm⟩
 refine rg<|qm o rfl λo=>qm o rfl λo=>qv o (An o runUnderlying24 sizeOf48 rfl rfl P1 (SR.oaI X0 (by decide) P1)) λo=>qv o (Af o Da rfl) λo=>qv o (Ag o isAgg36 rfl (PH.le.cell (λb o hx=>(Lds.le u.ld) b o ((cp hxHD1.sub D0.sub) b o hx)) (B2 1 _ rfl))) λo=>qm o rfl λo=>ls<|cr o call33 (Hc (Ai _) M3 (St.srH u (G2.mono (cp hxHD1.sub D0.sub))) A4) u λu o=>qm o rfl λo=>qv o (Aq o rfl rfl) λo=>qv o (As (Ab o rfl) (congrArg Value.bool P2)) λo=>?_
 iterate 5 refine qn o λo=>?_
 refine qv o (Ad o rfl rfl) λo=>qm o rfl λo=>?_
 iterate 5 refine qn o λo=>?_
 refine qv o (Ad o rfl rfl) λo=>re<|tn<|?_
 exact ⟨true,HD1,hm,(Ext.refl _ _),o.hs,u⟩
 obtain ⟨P7,C5,hm⟩:=bs hm
 obtain ⟨Q7,D5,hm⟩:=bs hm
 rcases bip hm with ⟨Q2,hm⟩ | ⟨Q2,hm⟩
 refine rg<|qm o rfl λo=>qm o rfl λo=>qv o (An o runUnderlying24 sizeOf48 rfl rfl P1 (SR.oaI X0 (by decide) P1)) λo=>qv o (Af o Da rfl) λo=>qv o (Ag o isAgg36 rfl (PH.le.cell (λb o hx=>(Lds.le u.ld) b o ((cp hxHD1.sub D0.sub) b o hx)) (B2 1 _ rfl))) λo=>qm o rfl λo=>ls<|cr o call33 (Hc (Ai _) M3 (St.srH u (G2.mono (cp hxHD1.sub D0.sub))) A4) u λu o=>qm o rfl λo=>qv o (Aq o rfl rfl) λo=>qv o (As (Ab o rfl) (congrArg Value.bool P2)) λo=>qg o (Ay o isAgg27 sizeOf27 rfl rfl (u.ld.cellsB t0)) λo=>ls<|gy o rfl rfl<|c1 o rfl call22 (Se (Ai _) (Enc.mono (St.up u) (show Enc.rep (α:=api_Prog) HD1 [SL U0 p1.Lines K0,SL V0 p1.Vols M0,SL O0 p1.Locks F0,SL P0 p1.Threads G0,SL Q0 p1.Recover I0,SL R0 p1.Claims J0] p1 from ⟨_,_,rfl,⟨_,_,rfl,T1,(U1.mono (cp (cp hxHD1.sub D0.sub) C0.sub))⟩,⟨_,_,rfl,⟨_,_,rfl,n0,(u0.mono (cp (cp hxHD1.sub D0.sub) C0.sub))⟩,⟨_,_,rfl,⟨_,_,rfl,B1,(C1.mono (cp (cp hxHD1.sub D0.sub) C0.sub))⟩,⟨_,_,rfl,⟨_,_,rfl,E1,(F1.mono (cp (cp hxHD1.sub D0.sub) C0.sub))⟩,⟨_,_,rfl,⟨_,_,rfl,G1,(I1.mono (cp (cp hxHD1.sub D0.sub) C0.sub))⟩,⟨_,_,rfl,J1,(j0.mono (cp (cp hxHD1.sub D0.sub) C0.sub))⟩⟩⟩⟩⟩⟩)) C5) ⟨rfl,trivial⟩ (λv w a hR o=>?_)
 obtain ⟨K5,J4,L5,rfl,V1,hk⟩:=hR
 replace u:=u.fresh hk
 replace V1:=V1 HD1
 obtain ⟨H97,Q1,P3,Q3,u⟩:=St.frzS u .head V1
 refine qg o (Ab o rfl) λo=>ls<|gy o rfl rfl<|cr o call33 (Hc (Ai _) Q3 (St.srH u P3) D5) u λu o=>qg o (Bi o rfl rfl) λo=>qv o (Ae o rfl rfl) λo=>qv o (As (Ab o rfl) (congrArg Value.bool Q2)) λo=>?_
 iterate 5 refine qn o λo=>?_
 refine qv o (Ad o rfl rfl) λo=>re<|tn<|?_
 exact ⟨true,H97,hm,Q1,o.hs,u⟩
 obtain ⟨y6,M5,hm⟩:=bs hm
 obtain ⟨O5,P5,hm⟩:=bs hm
 refine rg<|qm o rfl λo=>qm o rfl λo=>qv o (An o runUnderlying24 sizeOf48 rfl rfl P1 (SR.oaI X0 (by decide) P1)) λo=>qv o (Af o Da rfl) λo=>qv o (Ag o isAgg36 rfl (PH.le.cell (λb o hx=>(Lds.le u.ld) b o ((cp hxHD1.sub D0.sub) b o hx)) (B2 1 _ rfl))) λo=>qm o rfl λo=>ls<|cr o call33 (Hc (Ai _) M3 (St.srH u (G2.mono (cp hxHD1.sub D0.sub))) A4) u λu o=>qm o rfl λo=>qv o (Aq o rfl rfl) λo=>qv o (As (Ab o rfl) (congrArg Value.bool P2)) λo=>qg o (Ay o isAgg27 sizeOf27 rfl rfl (u.ld.cellsB t0)) λo=>ls<|gy o rfl rfl<|c1 o rfl call22 (Se (Ai _) (Enc.mono (St.up u) (show Enc.rep (α:=api_Prog) HD1 [SL U0 p1.Lines K0,SL V0 p1.Vols M0,SL O0 p1.Locks F0,SL P0 p1.Threads G0,SL Q0 p1.Recover I0,SL R0 p1.Claims J0] p1 from ⟨_,_,rfl,⟨_,_,rfl,T1,(U1.mono (cp (cp hxHD1.sub D0.sub) C0.sub))⟩,⟨_,_,rfl,⟨_,_,rfl,n0,(u0.mono (cp (cp hxHD1.sub D0.sub) C0.sub))⟩,⟨_,_,rfl,⟨_,_,rfl,B1,(C1.mono (cp (cp hxHD1.sub D0.sub) C0.sub))⟩,⟨_,_,rfl,⟨_,_,rfl,E1,(F1.mono (cp (cp hxHD1.sub D0.sub) C0.sub))⟩,⟨_,_,rfl,⟨_,_,rfl,G1,(I1.mono (cp (cp hxHD1.sub D0.sub) C0.sub))⟩,⟨_,_,rfl,J1,(j0.mono (cp (cp hxHD1.sub D0.sub) C0.sub))⟩⟩⟩⟩⟩⟩)) C5) ⟨rfl,trivial⟩ (λv w a hR o=>?_)
 obtain ⟨K5,J4,L5,rfl,V1,hk⟩:=hR
 replace u:=u.fresh hk
 replace V1:=V1 HD1
 obtain ⟨H97,Q1,P3,Q3,u⟩:=St.frzS u .head V1
 refine qg o (Ab o rfl) λo=>ls<|gy o rfl rfl<|cr o call33 (Hc (Ai _) Q3 (St.srH u P3) D5) u λu o=>qg o (Bi o rfl rfl) λo=>qv o (Ae o rfl rfl) λo=>qv o (As (Ab o rfl) (congrArg Value.bool Q2)) λo=>qg o (Ay o isAgg27 sizeOf27 rfl rfl (u.ld.cellsB t0)) λo=>ls<|gy o rfl rfl<|c1 o rfl call28 (Yj (Ai _) (Enc.mono (St.up u) (show Enc.rep (α:=api_Prog) H97 [SL U0 p1.Lines K0,SL V0 p1.Vols M0,SL O0 p1.Locks F0,SL P0 p1.Threads G0,SL Q0 p1.Recover I0,SL R0 p1.Claims J0] p1 from ⟨_,_,rfl,⟨_,_,rfl,T1,(U1.mono (cp (cp (cp Q1.sub hxHD1.sub) D0.sub) C0.sub))⟩,⟨_,_,rfl,⟨_,_,rfl,n0,(u0.mono (cp (cp (cp Q1.sub hxHD1.sub) D0.sub) C0.sub))⟩,⟨_,_,rfl,⟨_,_,rfl,B1,(C1.mono (cp (cp (cp Q1.sub hxHD1.sub) D0.sub) C0.sub))⟩,⟨_,_,rfl,⟨_,_,rfl,E1,(F1.mono (cp (cp (cp Q1.sub hxHD1.sub) D0.sub) C0.sub))⟩,⟨_,_,rfl,⟨_,_,rfl,G1,(I1.mono (cp (cp (cp Q1.sub hxHD1.sub) D0.sub) C0.sub))⟩,⟨_,_,rfl,J1,(j0.mono (cp (cp (cp Q1.sub hxHD1.sub) D0.sub) C0.sub))⟩⟩⟩⟩⟩⟩)) M5) ⟨rfl,trivial⟩ (λv w a hR o=>?_)
 obtain ⟨Q6,I6,R6,rfl,R2,hk⟩:=hR
 replace u:=u.fresh hk
 replace R2:=R2 H97
 refine qg o (Ab o rfl) λo=>ls<|gy o rfl rfl<|cr o call33 (Hc (Ai _) (St.capO u t0) (St.srO u t0 R2) P5) u λu o=>qg o (Bi o rfl rfl) λo=>qv o (Ae o rfl rfl) λo=>re<|tn<|?_
 replace u:=u.pk [1] rfl
 exact ⟨(decide (0≤O5)),H97,hm,Q1,o.hs,u⟩
 rintro a w ⟨u3,HE1,hm,hxHE1,o,u⟩
 unfold Z58 at hm
 rcases bit hm with ⟨U2,hm⟩ | ⟨U2,hm⟩
 refine ctv o rfl U2<|th<|rxS 7 u wide (by kernel_rfl) λw u=>?_
 iterate 2 refine xq u.ld o (λw hl=>Ab o rfl) λo=>?_
 refine xr u o (An o runUnderlying24 sizeOf48 rfl rfl P1 (SR.oaI X0 (by decide) P1)) λo=>xr u o (Af o Ge rfl) λo=>xq u.ld o (λw hl=>Ag o isAgg3 rfl (PH.le.cell (λb o hx=>(Lds.le hl) b o ((cp (cp hxHE1.sub hxHD1.sub) D0.sub) b o hx)) (B2 3 _ rfl))) λo=>?_
 iterate 2 refine xq u.ld o (λw hl=>Bo o rfl) λo=>?_
 refine xe<|tn<|wr<|br<|tr<|tr<|br<|br<|tr<|tr<|br<|tr<|?_
 obtain rfl:=si hm
 exact r2 o results17 rfl rfl ⟨rfl,u.keep⟩
 refine cfv o rfl U2<|wk<|bn<|tn<|rg<|qm o rfl λo=>qv o (Ap o rfl rfl) λo=>qa o rfl λo=>re<|tn<|?_
 exact ⟨(M2,(IntKind.i64.wrap (O2+1))),⟨HE1,hm,(Ext.trans hxHD1 hxHE1),o.hs,u⟩,Nat.lt_succ_self _⟩
 refine tn<|cfv o rfl O3<|we<|tx<|tx<|bx<|bn<|tn<|?_
 exact ⟨HD1,hm,hxHD1,o.hs,u⟩
 rintro a w ⟨U3,hm,hxHC1,o,u⟩
 unfold Z57 at hm
 refine rg<|qm o rfl λo=>qv o (Ap o rfl rfl) λo=>qa o rfl λo=>re<|tn<|?_
 exact ⟨(E2,(IntKind.i64.wrap (S1+1))),⟨U3,hm,(Ext.trans D0 hxHC1),o.hs,u⟩,Nat.lt_succ_self _⟩
 refine tn<|cfv o rfl L3<|we<|tx<|tx<|bx<|tn<|?_
 exact ⟨F2,hm,D0,o.has ⟨rfl,rfl,trivial⟩,u⟩
 rintro a w ⟨R1,hm,E0,o,u⟩
 unfold Z56 at hm
 refine th<|th<|rg<|qa o rfl λo=>re<|tn<|Au (λa w=>(Z59 N p1)=some r∧Fr 150 [(1,PT T0)] a∧St w0 Nil [R1] [bk T0 [SL U0 p1.Lines K0,SL V0 p1.Vols M0,SL O0 p1.Locks F0,SL P0 p1.Threads G0,SL Q0 p1.Recover I0,SL R0 p1.Claims J0] 27] w) ?_ ?_
 refine wb<|lp (α:=Nat×Int) (λgh a w=>match gh with | (I2,Y1)=>(Z5f N (Z59 N p1) p1 S0) I2 Y1=some r∧Fr 150 [(1,PT T0),(4,SL M1 S0 Y0),(11,i6 Y1)] a∧St w0 Nil [R1] [bk T0 [SL U0 p1.Lines K0,SL V0 p1.Vols M0,SL O0 p1.Locks F0,SL P0 p1.Threads G0,SL Q0 p1.Recover I0,SL R0 p1.Claims J0] 27] w) (λgh=>gh.1) (N,0) ⟨hm,o.hs,u⟩ ?_
 rintro ⟨I2,Y1⟩ a w ⟨hm,o,u⟩
 obtain _ | I2:=I2
 simp [Z5f] at hm
 rw [Z5f] at hm
 refine th<|th<|rg<|qm o rfl λo=>qm o rfl λo=>qv o (Ak (α:=api_Thread) (xs:=S0) o runUnderlying24 rfl) λo=>qv o (Aq o rfl rfl) λo=>re<|?_
 rcases bip hm with ⟨V2,hm⟩ | ⟨V2,hm⟩
 refine tn<|ctv o rfl V2<|wk<|tn<|th<|Au (λa w=>(Z54 (Z5f N (Z59 N p1) p1 S0 I2) Y1)=some r∧Fr 150 [(1,PT T0),(4,SL M1 S0 Y0),(11,i6 Y1)] a∧St w0 Nil [R1] [bk T0 [SL U0 p1.Lines K0,SL V0 p1.Vols M0,SL O0 p1.Locks F0,SL P0 p1.Threads G0,SL Q0 p1.Recover I0,SL R0 p1.Claims J0] 27] w) ?_ ?_
 refine wb<|th<|rg<|qa o rfl λo=>re<|tn<|wb<|lp (α:=Nat×Int) (λgh a w=>match gh with | (J2,V3)=>(Z5a N (Z54 (Z5f N (Z59 N p1) p1 S0 I2) Y1) p1 S0 Y1) J2 V3=some r∧Fr 150 [(1,PT T0),(4,SL M1 S0 Y0),(11,i6 Y1),(12,i6 V3)] a∧St w0 Nil [R1] [bk T0 [SL U0 p1.Lines K0,SL V0 p1.Vols M0,SL O0 p1.Locks F0,SL P0 p1.Threads G0,SL Q0 p1.Recover I0,SL R0 p1.Claims J0] 27] w) (λgh=>gh.1) (N,0) ⟨hm,o.hs,u⟩ ?_
 rintro ⟨J2,V3⟩ a w ⟨hm,o,u⟩
 obtain _ | J2:=J2
 simp [Z5a] at hm
 rw [Z5a] at hm
 refine th<|th<|?_
 obtain ⟨C2,X1,hm⟩:=bs hm
 obtain ⟨z6,Q5,W2⟩:=SR.get X0 X1
 obtain ⟨K4,B4,L4,C4,rfl,M4,O4,P4,X2⟩:=Av Q5
 refine rg<|qm o rfl λo=>?_
 iterate 2 refine qm o rfl λo=>?_
 refine qv o (An o runUnderlying24 sizeOf48 rfl rfl X1 (SR.oaI X0 (by decide) X1)) λo=>qv o (Af o Hf rfl) λo=>qv o (Ag o isAgg46 rfl (PH.le.cell (λb o hx=>(Lds.le u.ld) b o (E0.sub b o hx)) (W2 2 _ rfl))) λo=>qv o (Ak (α:=api_Stmt) (xs:=C2.Body) o runUnderlying46 rfl) λo=>qv o (Aq o rfl rfl) λo=>re<|?_
 rcases bip hm with ⟨Y2,hm⟩ | ⟨Y2,hm⟩
 refine tn<|ctv o rfl Y2<|wk<|tn<|th<|wb<|th<|?_
 obtain ⟨O1,R3,hm⟩:=bs hm
 obtain ⟨A7,R5,Q4⟩:=SR.get X2 R3
 obtain ⟨R4,D4,S4,E4,rfl,T4,U4,V4,W4⟩:=Bn R5
 obtain ⟨B7,S5,hm⟩:=bs hm
 refine rdS 15 u wide λw u=>dq 0 u.ld o rfl (λw hl=>Ay o isAgg27 sizeOf27 rfl rfl (hl.cellsB t0)) λo=>dr 1 u o rfl (Ab o rfl) λo=>dr 2 u o rfl (Ab o rfl) λo=>dr 3 u o rfl (An o runUnderlying24 sizeOf48 rfl rfl X1 (SR.oaI X0 (by decide) X1)) λo=>dq 4 u.ld o rfl (λw hl=>Ay o isAgg48 sizeOf48 rfl rfl (λj v hj=>PH.le.cell (λb o hx=>(Lds.le hl) b o (E0.sub b o hx)) (W2 j v hj))) λo=>dr 5 u o rfl (Ab o rfl) λo=>dr 6 u o rfl (Ab o rfl) λo=>dr 7 u o rfl (An o runUnderlying24 sizeOf48 rfl rfl X1 (SR.oaI X0 (by decide) X1)) λo=>dr 8 u o rfl (Af o Hf rfl) λo=>dq 9 u.ld o rfl (λw hl=>Ag o isAgg46 rfl (PH.le.cell (λb o hx=>(Lds.le hl) b o (E0.sub b o hx)) (W2 2 _ rfl))) λo=>dr 10 u o rfl (Ab o rfl) λo=>dr 11 u o rfl (An o runUnderlying46 sizeOf51 rfl rfl R3 (SR.oaI X2 (by decide) R3)) λo=>dq 12 u.ld o rfl (λw hl=>Ay o isAgg51 sizeOf51 rfl rfl (λj v hj=>PH.le.cell (λb o hx=>(Lds.le hl) b o (E0.sub b o hx)) (Q4 j v hj))) λo=>da1 (i:=13) (by kernel_rfl) ?_
 refine di (i:=13) rfl<|cr o call62 (Jbt (Ai _) (Enc.mono (St.up u) (show Enc.rep (α:=api_Prog) R1 [SL U0 p1.Lines K0,SL V0 p1.Vols M0,SL O0 p1.Locks F0,SL P0 p1.Threads G0,SL Q0 p1.Recover I0,SL R0 p1.Claims J0] p1 from ⟨_,_,rfl,⟨_,_,rfl,T1,(U1.mono (cp E0.sub C0.sub))⟩,⟨_,_,rfl,⟨_,_,rfl,n0,(u0.mono (cp E0.sub C0.sub))⟩,⟨_,_,rfl,⟨_,_,rfl,B1,(C1.mono (cp E0.sub C0.sub))⟩,⟨_,_,rfl,⟨_,_,rfl,E1,(F1.mono (cp E0.sub C0.sub))⟩,⟨_,_,rfl,⟨_,_,rfl,G1,(I1.mono (cp E0.sub C0.sub))⟩,⟨_,_,rfl,J1,(j0.mono (cp E0.sub C0.sub))⟩⟩⟩⟩⟩⟩)) (Enc.mono (St.up u) (show Enc.rep (α:=api_Thread) R1 [Ac C2.Name,SL K4 C2.Regs B4,SL L4 C2.Body C4,i6 C2.At] C2 from ⟨_,_,rfl,rfl,⟨_,_,rfl,⟨_,_,rfl,M4,(O4.mono E0.sub)⟩,⟨_,_,rfl,⟨_,_,rfl,P4,(X2.mono E0.sub)⟩,rfl⟩⟩⟩)) (Enc.mono (St.up u) (show Enc.rep (α:=api_Stmt) R1 [i6 O1.Kind,Ac O1.Reg,Ac O1.Name,SL R4 O1.E D4,SL S4 O1.F E4,i6 O1.N,i6 O1.Body,i6 O1.Else,i6 O1.At] O1 from ⟨_,_,rfl,rfl,⟨_,_,rfl,rfl,⟨_,_,rfl,rfl,⟨_,_,rfl,⟨_,_,rfl,T4,(U4.mono E0.sub)⟩,⟨_,_,rfl,⟨_,_,rfl,V4,(W4.mono E0.sub)⟩,⟨_,_,rfl,rfl,⟨_,_,rfl,rfl,⟨_,_,rfl,rfl,rfl⟩⟩⟩⟩⟩⟩⟩⟩)) S5) u λu o=>⟨λ_=>u.ld,?_⟩
 refine dr 14 u o rfl (Bo o rfl) λo=>de (by kernel_rfl)<|tn<|th<|rg<|qm o rfl λo=>qv o (Bi o rfl rfl) λo=>re<|?_
 rcases bip hm with ⟨A3,hm⟩ | ⟨A3,hm⟩
 refine tn<|ctv o rfl A3<|th<|rg<|qm o rfl λo=>?_
 iterate 2 refine qa o rfl λo=>?_
 refine re<|tn<|wr<|br<|tr<|tr<|br<|br<|tr<|tr<|br<|tr<|?_
 obtain rfl:=si hm
 exact r2 o results17 rfl rfl ⟨rfl,u.keep⟩
 refine tn<|cfv o rfl A3<|wk<|bn<|tn<|rg<|qm o rfl λo=>qv o (Ap o rfl rfl) λo=>qa o rfl λo=>re<|tn<|?_
 exact ⟨(J2,(IntKind.i64.wrap (V3+1))),⟨hm,o.hs,u⟩,Nat.lt_succ_self _⟩
 refine tn<|cfv o rfl Y2<|we<|tx<|tx<|bx<|bn<|tn<|?_
 exact ⟨hm,o.hs,u⟩
 rintro a w ⟨hm,o,u⟩
 unfold Z54 at hm
 refine rg<|qm o rfl λo=>qv o (Ap o rfl rfl) λo=>qa o rfl λo=>re<|tn<|?_
 exact ⟨(I2,(IntKind.i64.wrap (Y1+1))),⟨hm,o.hs,u⟩,Nat.lt_succ_self _⟩
 refine tn<|cfv o rfl V2<|we<|tx<|tx<|bx<|tn<|?_
 exact ⟨hm,o.has ⟨rfl,trivial⟩,u⟩
 rintro a w ⟨hm,o,u⟩
 unfold Z59 at hm
 refine th<|?_
 obtain ⟨T5,U5,hm⟩:=bs hm
 obtain ⟨V5,W5,hm⟩:=bs hm
 obtain ⟨F4,G4,hm⟩:=bs hm
 refine rdS 6 u wide λw u=>dq 0 u.ld o rfl (λw hl=>Ay o isAgg27 sizeOf27 rfl rfl (hl.cellsB t0)) λo=>dq 2 u.ld o rfl (λw hl=>Ay o isAgg27 sizeOf27 rfl rfl (hl.cellsB t0)) λo=>da1 (i:=1) (by kernel_rfl) ?_
 refine di (i:=1) rfl<|c1 o rfl call22 (Se (Ai _) (Enc.mono (St.up u) (show Enc.rep (α:=api_Prog) R1 [SL U0 p1.Lines K0,SL V0 p1.Vols M0,SL O0 p1.Locks F0,SL P0 p1.Threads G0,SL Q0 p1.Recover I0,SL R0 p1.Claims J0] p1 from ⟨_,_,rfl,⟨_,_,rfl,T1,(U1.mono (cp E0.sub C0.sub))⟩,⟨_,_,rfl,⟨_,_,rfl,n0,(u0.mono (cp E0.sub C0.sub))⟩,⟨_,_,rfl,⟨_,_,rfl,B1,(C1.mono (cp E0.sub C0.sub))⟩,⟨_,_,rfl,⟨_,_,rfl,E1,(F1.mono (cp E0.sub C0.sub))⟩,⟨_,_,rfl,⟨_,_,rfl,G1,(I1.mono (cp E0.sub C0.sub))⟩,⟨_,_,rfl,J1,(j0.mono (cp E0.sub C0.sub))⟩⟩⟩⟩⟩⟩)) U5) ⟨rfl,trivial⟩ (λv w a hR o=>?_)
 obtain ⟨S6,J6,T6,rfl,B3,hk⟩:=hR
 replace u:=u.fresh hk
 replace B3:=B3 R1
 obtain ⟨H151,W0,X4,W3,u⟩:=St.frzS u .head B3
 refine ⟨λ_=>(St.ldsX u W0.sub i1),?_⟩
 refine da1 (i:=3) (by kernel_rfl) ?_
 refine di (i:=3) rfl<|cr o call24 (Yu (Ai _) (Enc.mono (St.up u) (show Enc.rep (α:=api_Prog) H151 [SL U0 p1.Lines K0,SL V0 p1.Vols M0,SL O0 p1.Locks F0,SL P0 p1.Threads G0,SL Q0 p1.Recover I0,SL R0 p1.Claims J0] p1 from ⟨_,_,rfl,⟨_,_,rfl,T1,(U1.mono (cp (cp W0.sub E0.sub) C0.sub))⟩,⟨_,_,rfl,⟨_,_,rfl,n0,(u0.mono (cp (cp W0.sub E0.sub) C0.sub))⟩,⟨_,_,rfl,⟨_,_,rfl,B1,(C1.mono (cp (cp W0.sub E0.sub) C0.sub))⟩,⟨_,_,rfl,⟨_,_,rfl,E1,(F1.mono (cp (cp W0.sub E0.sub) C0.sub))⟩,⟨_,_,rfl,⟨_,_,rfl,G1,(I1.mono (cp (cp W0.sub E0.sub) C0.sub))⟩,⟨_,_,rfl,J1,(j0.mono (cp (cp W0.sub E0.sub) C0.sub))⟩⟩⟩⟩⟩⟩)) W5) u λu o=>⟨λ_=>(St.ldsX u W0.sub i1),?_⟩
 obtain ⟨Y4,I4,e158,e159,d4,k4⟩:=SR.sub (sz:=1) X4 W3 rfl G4
 refine ds 4 (St.ldsX u W0.sub i1) o rfl (Hd (xs:=T5) (vl:=0) (vh:=V5) o runUnderlying36 sizeOf9 rfl W3 rfl rfl G4 e158 e159) λo=>ds 5 (St.ldsX u W0.sub i1) o rfl (Bo o rfl) λo=>de (by kernel_rfl)<|tn<|th<|th<|rg<|qa o rfl λo=>re<|tn<|Au (λa w=>Z55=some r∧Fr 150 [] a∧St w0 Nil [H151] [] w) ?_ ?_
 refine wb<|lp (α:=Nat×Int) (λgh a w=>match gh with | (K2,X3)=>(Z5b N Z55 p1 F4) K2 X3=some r∧Fr 150 [(1,PT T0),(13,SL Y4 F4 I4),(14,i6 X3)] a∧St w0 Nil [H151] [bk T0 [SL U0 p1.Lines K0,SL V0 p1.Vols M0,SL O0 p1.Locks F0,SL P0 p1.Threads G0,SL Q0 p1.Recover I0,SL R0 p1.Claims J0] 27] w) (λgh=>gh.1) (N,0) ⟨hm,o.hs,u⟩ ?_
 rintro ⟨K2,X3⟩ a w ⟨hm,o,u⟩
 obtain _ | K2:=K2
 simp [Z5b] at hm
 rw [Z5b] at hm
 refine th<|th<|rg<|qm o rfl λo=>qv o (Af o Em rfl) λo=>qv o (Ag o isAgg25 rfl (u.ld.cellB t0 rfl)) λo=>qv o (Ak (α:=api_Claim) (xs:=p1.Claims) o runUnderlying25 rfl) λo=>qv o (Aq o rfl rfl) λo=>re<|?_
 rcases bip hm with ⟨C3,hm⟩ | ⟨C3,hm⟩
 refine tn<|ctv o rfl C3<|wk<|tn<|th<|wb<|th<|?_
 obtain ⟨C7,S3,hm⟩:=bs hm
 obtain ⟨D7,X5,l4⟩:=SR.get j0 S3
 obtain ⟨U6,K6,rfl,u4,A5⟩:=Cn X5
 obtain ⟨E7,Y5,hm⟩:=bs hm
 refine rg<|qv o (Af o Em rfl) λo=>qv o (Ag o isAgg25 rfl (u.ld.cellB t0 rfl)) λo=>qm o rfl λo=>qv o (An o runUnderlying25 sizeOf74 rfl rfl S3 (SR.oaI j0 (by decide) S3)) λo=>qv o (Af o Nv rfl) λo=>qv o (Ag o isAgg49 rfl (PH.le.cell (λb o hx=>(Lds.le u.ld) b o ((cp (cp W0.sub E0.sub) C0.sub) b o hx)) (l4 0 _ rfl))) λo=>qm o rfl λo=>ls<|cr o call63 (Ud (Ai _) u4 (St.srH u (A5.mono (cp (cp W0.sub E0.sub) C0.sub))) d4 (St.srH u k4) Y5) u λu o=>qa o rfl λo=>re<|tn<|th<|rg<|qm o rfl λo=>qv o (Bi o rfl rfl) λo=>re<|?_
 rcases bip hm with ⟨D3,hm⟩ | ⟨D3,hm⟩
 refine tn<|ctv o rfl D3<|th<|rg<|qm o rfl λo=>?_
 iterate 2 refine qa o rfl λo=>?_
 refine re<|tn<|wr<|br<|tr<|tr<|br<|tr<|?_
 obtain rfl:=si hm
 exact r2 o results17 rfl rfl ⟨rfl,u.keep⟩
 refine tn<|cfv o rfl D3<|wk<|bn<|tn<|rg<|qm o rfl λo=>qv o (Ap o rfl rfl) λo=>qa o rfl λo=>re<|tn<|?_
 exact ⟨(K2,(IntKind.i64.wrap (X3+1))),⟨hm,o.hs,u⟩,Nat.lt_succ_self _⟩
 refine tn<|cfv o rfl C3<|we<|tx<|tx<|bx<|tn<|?_
 replace u:=u.pickL .nil
 exact ⟨hm,o.has trivial,u⟩
 rintro a w ⟨hm,o,u⟩
 unfold Z55 at hm
 refine th<|rg<|qa o rfl λo=>qa o rfl λo=>re<|tn<|wr<|?_
 obtain rfl:=si hm
 exact r2 o results17 rfl rfl ⟨rfl,u.keep⟩
 refine tn<|ctv o rfl (by rw [F3];rfl)<|th<|rg<|qa o rfl λo=>qa o rfl λo=>re<|tn<|wr<|tr<|?_
 obtain rfl:=si hm
 exact r2 o results17 rfl rfl ⟨rfl,u.keep⟩
theorem Yn (hH:H.le w0) {p1:Str} {p2:Int} {p3:Str} {r:Bool} (hm:Z14 N p1 p2 p3=some r):Tot Tryz.prog 159 #[Ac p1,i6 p2,Ac p3] w0 (λv w'=>v=.bool r∧Keep Nil w0 w'):=by
 unfold Z14 at hm
 refine fn0 func159 rfl ntmps159 rfl rfl λa o=>?_
 have u:St w0 Nil [H] [] w0:=start1 hH
 refine th<|rg<|qa o rfl λo=>re<|tn<|th<|?_
 rcases bip hm with ⟨C0,hm⟩ | ⟨C0,hm⟩
 obtain ⟨s5,h6,hm⟩:=bs hm
 refine rg<|qm o rfl λo=>qm o rfl λo=>qv o (Bp (s:=p3) o runUnderlying9 rfl) λo=>qv o (Ap o rfl rfl) λo=>qm o rfl λo=>qv o (Bp (s:=p1) o runUnderlying9 rfl) λo=>qv o (Cs o rfl rfl) λo=>qv o (As (Ab o rfl) (congrArg Value.bool C0)) λo=>?_
 iterate 4 refine qg o (Ab o rfl) λo=>?_
 refine qg o (Bp (s:=p3) o runUnderlying9 rfl) λo=>qg o (Ap o rfl rfl) λo=>qg o (Qf (s:=p1) (vl:=p2) (vh:=(IntKind.i64.wrap (p2+(p3.length:Int)))) o runUnderlying9 rfl rfl rfl h6) λo=>qg o (Ab o rfl) λo=>qg o (Dz (m:=s5) (n:=p3) o rfl rfl) λo=>qv o (Ad o rfl rfl) λo=>qa o rfl λo=>re<|tn<|wr<|?_
 obtain rfl:=si hm
 exact r1 o results159 rfl ⟨rfl,u.keep⟩
 refine rg<|qm o rfl λo=>qm o rfl λo=>qv o (Bp (s:=p3) o runUnderlying9 rfl) λo=>qv o (Ap o rfl rfl) λo=>qm o rfl λo=>qv o (Bp (s:=p1) o runUnderlying9 rfl) λo=>qv o (Cs o rfl rfl) λo=>qv o (As (Ab o rfl) (congrArg Value.bool C0)) λo=>?_
 iterate 9 refine qn o λo=>?_
 refine qv o (Ae o rfl rfl) λo=>qa o rfl λo=>re<|tn<|wr<|?_
 obtain rfl:=si hm
 exact r1 o results159 rfl ⟨rfl,u.keep⟩
theorem Yk (hH:H.le w0) {p1:Str} {p2:Int} {r:Int} (hm:Z17 N p1 p2=some r):Tot Tryz.prog 135 #[Ac p1,i6 p2] w0 (λv w'=>v=i6 r∧Keep Nil w0 w'):=by
 unfold Z17 at hm
 refine fn0 func135 rfl ntmps135 rfl rfl λa o=>?_
 have u:St w0 Nil [H] [] w0:=start1 hH
 refine th<|rg<|qa o rfl λo=>re<|tn<|th<|Au (λa w=>∃ (K0:Int),Z18 K0=some r∧Fr 46 [(1,i6 K0)] a∧St w0 Nil [H] [] w) ?_ ?_
 refine wb<|lp (α:=Nat×Int) (λgh a w=>match gh with | (D0,E0)=>(Z1a N Z18 p1) D0 E0=some r∧Fr 46 [(0,Ac p1),(1,i6 E0)] a∧St w0 Nil [H] [] w) (λgh=>gh.1) (N,p2) ⟨hm,o.has ⟨rfl,rfl,trivial⟩,u⟩ ?_
 rintro ⟨D0,E0⟩ a w ⟨hm,o,u⟩
 obtain _ | D0:=D0
 simp [Z1a] at hm
 rw [Z1a] at hm
 refine th<|th<|rg<|qm o rfl λo=>qm o rfl λo=>qv o (Bp (s:=p1) o runUnderlying9 rfl) λo=>qv o (Aq o rfl rfl) λo=>re<|?_
 rcases bip hm with ⟨M0,hm⟩ | ⟨M0,hm⟩
 refine tn<|ctv o rfl M0<|wk<|tn<|wb<|th<|?_
 obtain ⟨C0,h5,hm⟩:=bs hm
 refine rg<|qm o rfl λo=>qm o rfl λo=>qv o (Co (s:=p1) o runUnderlying9 rfl rfl h5) λo=>qa o rfl λo=>re<|tn<|th<|rg<|qm o rfl λo=>qv o (Al o rfl rfl) λo=>qm o rfl λo=>gr (Fk:=[(0,Ac p1),(1,i6 E0),(5,.int .u8 C0),(18,.bool ((decide (C0=32)) || (decide (C0=9))))]) 15 3 o u ?_ ?_ ?_
 intro hb o key
 iterate 2 refine qn o λo=>?_
 exact qk o (Ad o rfl rfl) key u hb
 intro hb o key
 exact qg o (Ab o rfl) λo=>qg o (Al o rfl rfl) λo=>qk o (Ae o rfl rfl) key u hb
 intro a w o u
 refine qm o rfl λo=>gr (Fk:=[(0,Ac p1),(1,i6 E0),(5,.int .u8 C0),(22,.bool (((decide (C0=32)) || (decide (C0=9))) || (decide (C0=10))))]) 19 3 o u ?_ ?_ ?_
 intro hb o key
 iterate 2 refine qn o λo=>?_
 exact qk o (Ad o rfl rfl) key u hb
 intro hb o key
 exact qg o (Ab o rfl) λo=>qg o (Al o rfl rfl) λo=>qk o (Ae o rfl rfl) key u hb
 intro a w o u
 refine qm o rfl λo=>gr (Fk:=[(0,Ac p1),(1,i6 E0),(26,.bool ((((decide (C0=32)) || (decide (C0=9))) || (decide (C0=10))) || (decide (C0=13))))]) 23 3 o u ?_ ?_ ?_
 intro hb o key
 iterate 2 refine qn o λo=>?_
 exact qk o (Ad o rfl rfl) key u hb
 intro hb o key
 exact qg o (Ab o rfl) λo=>qg o (Al o rfl rfl) λo=>qk o (Ae o rfl rfl) key u hb
 intro a w o u
 refine re<|?_
 rcases bit hm with ⟨O0,hm⟩ | ⟨O0,hm⟩
 refine tn<|ctv o rfl O0<|rg<|qm o rfl λo=>qv o (Ap o rfl rfl) λo=>qa o rfl λo=>re<|bn<|tn<|?_
 exact ⟨(D0,(IntKind.i64.wrap (E0+1))),⟨hm,o.has ⟨rfl,rfl,trivial⟩,u⟩,Nat.lt_succ_self _⟩
 refine tn<|cfv o rfl O0<|th<|?_
 obtain ⟨T0,h8,hm⟩:=bs hm
 refine rg<|qm o rfl λo=>qm o rfl λo=>ls<|cr o call159 (Yn (Ai _) h8) u λu o=>re<|?_
 rcases bit hm with ⟨P0,hm⟩ | ⟨P0,hm⟩
 refine tn<|ctv o rfl P0<|wb<|lp (α:=Nat×Int) (λgh a w=>match gh with | (G0,F0)=>(Z1b N (Z1a N Z18 p1 D0) p1) G0 F0=some r∧Fr 46 [(0,Ac p1),(1,i6 F0)] a∧St w0 Nil [H] [] w) (λgh=>gh.1) (N,E0) ⟨hm,o.has ⟨rfl,rfl,trivial⟩,u⟩ ?_
 rintro ⟨G0,F0⟩ a w ⟨hm,o,u⟩
 obtain _ | G0:=G0
 simp [Z1b] at hm
 rw [Z1b] at hm
 refine th<|th<|Au (λa w=>∃ (Q0:Bool),(Z19 (Z1a N Z18 p1 D0) (Z1b N (Z1a N Z18 p1 D0) p1 G0) F0) Q0=some r∧Fr 46 [(0,Ac p1),(1,i6 F0),(41,.bool Q0)] a∧St w0 Nil [H] [] w) ?_ ?_
 rcases bip hm with ⟨I0,hm⟩ | ⟨I0,hm⟩
 obtain ⟨R0,S0,hm⟩:=bs hm
 refine rg<|qm o rfl λo=>qm o rfl λo=>qv o (Bp (s:=p1) o runUnderlying9 rfl) λo=>qv o (Aq o rfl rfl) λo=>qv o (As (Ab o rfl) (congrArg Value.bool I0)) λo=>?_
 iterate 2 refine qg o (Ab o rfl) λo=>?_
 refine qg o (Co (s:=p1) o runUnderlying9 rfl rfl S0) λo=>qg o (Bt o rfl rfl) λo=>qv o (Ad o rfl rfl) λo=>re<|tn<|?_
 exact ⟨(decide (R0≠10)),hm,o.hs,u⟩
 refine rg<|qm o rfl λo=>qm o rfl λo=>qv o (Bp (s:=p1) o runUnderlying9 rfl) λo=>qv o (Aq o rfl rfl) λo=>qv o (As (Ab o rfl) (congrArg Value.bool I0)) λo=>?_
 iterate 4 refine qn o λo=>?_
 refine qv o (Ae o rfl rfl) λo=>re<|tn<|?_
 exact ⟨false,hm,o.hs,u⟩
 rintro a w ⟨Q0,hm,o,u⟩
 unfold Z19 at hm
 rcases bit hm with ⟨J0,hm⟩ | ⟨J0,hm⟩
 refine ctv o rfl J0<|wk<|tn<|wb<|rg<|qm o rfl λo=>qv o (Ap o rfl rfl) λo=>qa o rfl λo=>re<|bn<|tn<|?_
 exact ⟨(G0,(IntKind.i64.wrap (F0+1))),⟨hm,o.has ⟨rfl,rfl,trivial⟩,u⟩,Nat.lt_succ_self _⟩
 refine cfv o rfl J0<|we<|tx<|tx<|bx<|bn<|tn<|?_
 exact ⟨(D0,F0),⟨hm,o.has ⟨rfl,rfl,trivial⟩,u⟩,Nat.lt_succ_self _⟩
 refine tn<|cfv o rfl P0<|th<|rg<|qm o rfl λo=>qa o rfl λo=>re<|tn<|wr<|br<|tr<|br<|tr<|?_
 obtain rfl:=si hm
 exact r1 o results135 rfl ⟨rfl,u.keep⟩
 refine tn<|cfv o rfl M0<|we<|tx<|tx<|bx<|tn<|?_
 exact ⟨E0,hm,o.has ⟨rfl,trivial⟩,u⟩
 rintro a w ⟨K0,hm,o,u⟩
 unfold Z18 at hm
 refine th<|rg<|qm o rfl λo=>qa o rfl λo=>re<|tn<|wr<|?_
 obtain rfl:=si hm
 exact r1 o results135 rfl ⟨rfl,u.keep⟩
theorem JbY (hH:H.le w0) {p1:Str} {p2:Int} {r:Int} (hm:Z1c N p1 p2=some r):Tot Tryz.prog 138 #[Ac p1,i6 p2] w0 (λv w'=>v=i6 r∧Keep Nil w0 w'):=by
 unfold Z1c at hm
 refine fn0 func138 rfl ntmps138 rfl rfl λa o=>?_
 have u:St w0 Nil [H] [] w0:=start1 hH
 refine th<|rg<|qa o rfl λo=>re<|tn<|th<|rg<|ls<|Bl (e:=9) (sz:=1) [Ac [61,61],Ac [33,61],Ac [60,61],Ac [38,38],Ac [124,124]] o rfl u rfl rfl rfl (λw=>by kernel_rfl) λb4 w a u o=>?_
 have M0:Rows (α:=Str) H [Ac [61,61],Ac [33,61],Ac [60,61],Ac [38,38],Ac [124,124]] ([[61,61],[33,61],[60,61],[38,38],[124,124]]:List Str):=(.cons (c:=[Ac [61,61]]) rfl (.cons (c:=[Ac [33,61]]) rfl (.cons (c:=[Ac [60,61]]) rfl (.cons (c:=[Ac [38,38]]) rfl (.cons (c:=[Ac [124,124]]) rfl .nil)))))
 iterate 2 refine qa o rfl λo=>?_
 refine re<|tn<|th<|th<|rg<|qa o rfl λo=>re<|tn<|Au (λa w=>(Z1d N p1 p2)=some r∧Fr 36 [(0,Ac p1),(1,i6 p2),(6,Ac [40,41,123,125,59,44,61,60,33,43,45,42,47,37])] a∧St w0 Nil [H] [] w) ?_ ?_
 refine wb<|lp (α:=Nat×Int) (λgh a w=>match gh with | (C0,I0)=>(Z1f N (Z1d N p1 p2) p1 p2) C0 I0=some r∧Fr 36 [(0,Ac p1),(1,i6 p2),(5,.slice (some ⟨b4,0,none⟩) ([[61,61],[33,61],[60,61],[38,38],[124,124]]:List Str).length 5),(6,Ac [40,41,123,125,59,44,61,60,33,43,45,42,47,37]),(7,i6 I0)] a∧St w0 Nil [H] [sla 9 1 (some ⟨b4,0,none⟩) ([[61,61],[33,61],[60,61],[38,38],[124,124]]:List Str).length 5 [Ac [61,61],Ac [33,61],Ac [60,61],Ac [38,38],Ac [124,124]]] w) (λgh=>gh.1) (N,0) ⟨hm,o.hs,u⟩ ?_
 rintro ⟨C0,I0⟩ a w ⟨hm,o,u⟩
 obtain _ | C0:=C0
 simp [Z1f] at hm
 rw [Z1f] at hm
 refine th<|th<|rg<|qm o rfl λo=>qm o rfl λo=>qv o (Ak (α:=Str) (xs:=([[61,61],[33,61],[60,61],[38,38],[124,124]]:List Str)) o runUnderlying36 rfl) λo=>qv o (Aq o rfl rfl) λo=>re<|?_
 rcases bip hm with ⟨K0,hm⟩ | ⟨K0,hm⟩
 refine tn<|ctv o rfl K0<|wk<|tn<|th<|wb<|th<|?_
 obtain ⟨P0,h8,hm⟩:=bs hm
 have Q0:=Rd.oaI (u.rdO t0) M0 (by decide) h8
 obtain ⟨R0,S0,O0⟩:=Rows.getI M0 h8
 obtain rfl:R0=[Ac P0]:=S0
 obtain ⟨W0,T0,hm⟩:=bs hm
 refine rg<|qm o rfl λo=>?_
 iterate 3 refine qm o rfl λo=>?_
 refine qv o (An o runUnderlying36 sizeOf9 rfl rfl h8 Q0) λo=>qv o (Ag o isAgg9 rfl (u.ld.elO t0 (O0 0 _ rfl))) λo=>ls<|cr o call159 (Yn (Ai _) T0) u λu o=>re<|?_
 rcases bit hm with ⟨E0,hm⟩ | ⟨E0,hm⟩
 refine tn<|ctv o rfl E0<|th<|rg<|qa o rfl λo=>re<|tn<|wr<|br<|tr<|tr<|br<|tr<|?_
 obtain rfl:=si hm
 exact r1 o results138 rfl ⟨rfl,u.keep⟩
 refine tn<|cfv o rfl E0<|wk<|bn<|tn<|rg<|qm o rfl λo=>qv o (Ap o rfl rfl) λo=>qa o rfl λo=>re<|tn<|?_
 exact ⟨(C0,(IntKind.i64.wrap (I0+1))),⟨hm,o.hs,u⟩,Nat.lt_succ_self _⟩
 refine tn<|cfv o rfl K0<|we<|tx<|tx<|bx<|tn<|?_
 replace u:=u.pickL .nil
 exact ⟨hm,o.hs,u⟩
 rintro a w ⟨hm,o,u⟩
 unfold Z1d at hm
 refine th<|th<|rg<|qa o rfl λo=>re<|tn<|Au (λa w=>Z1e=some r∧Fr 36 [] a∧St w0 Nil [H] [] w) ?_ ?_
 refine wb<|lp (α:=Nat×Int) (λgh a w=>match gh with | (D0,J0)=>(Z1g N Z1e p1 p2) D0 J0=some r∧Fr 36 [(0,Ac p1),(1,i6 p2),(6,Ac [40,41,123,125,59,44,61,60,33,43,45,42,47,37]),(8,i6 J0)] a∧St w0 Nil [H] [] w) (λgh=>gh.1) (N,0) ⟨hm,o.hs,u⟩ ?_
 rintro ⟨D0,J0⟩ a w ⟨hm,o,u⟩
 obtain _ | D0:=D0
 simp [Z1g] at hm
 rw [Z1g] at hm
 refine th<|th<|rg<|qm o rfl λo=>qm o rfl λo=>qv o ((As (Bp (s:=[40,41,123,125,59,44,61,60,33,43,45,42,47,37]) o runUnderlying9 rfl) rfl)) λo=>qv o (Aq o rfl rfl) λo=>re<|?_
 rcases bip hm with ⟨F0,hm⟩ | ⟨F0,hm⟩
 refine tn<|ctv o rfl F0<|wk<|tn<|th<|wb<|th<|?_
 obtain ⟨X0,U0,hm⟩:=bs hm
 obtain ⟨Y0,V0,hm⟩:=bs hm
 refine rxS 7 u wide (by kernel_rfl) λw u=>?_
 iterate 2 refine xq u.ld o (λw hl=>Ab o rfl) λo=>?_
 refine xr u o (Co (s:=[40,41,123,125,59,44,61,60,33,43,45,42,47,37]) o runUnderlying9 rfl rfl U0) λo=>?_
 iterate 2 refine xq u.ld o (λw hl=>Ab o rfl) λo=>?_
 refine xr u o (Co (s:=p1) o runUnderlying9 rfl rfl V0) λo=>xr u o (Al o rfl rfl) λo=>xe<|?_
 rcases bip hm with ⟨G0,hm⟩ | ⟨G0,hm⟩
 refine tn<|ctv o rfl G0<|th<|rg<|qa o rfl λo=>re<|tn<|wr<|br<|tr<|tr<|br<|tr<|?_
 obtain rfl:=si hm
 exact r1 o results138 rfl ⟨rfl,u.keep⟩
 refine tn<|cfv o rfl G0<|wk<|bn<|tn<|rg<|qm o rfl λo=>qv o (Ap o rfl rfl) λo=>qa o rfl λo=>re<|tn<|?_
 exact ⟨(D0,(IntKind.i64.wrap (J0+1))),⟨hm,o.hs,u⟩,Nat.lt_succ_self _⟩
 refine tn<|cfv o rfl F0<|we<|tx<|tx<|bx<|tn<|?_
 exact ⟨hm,o.has trivial,u⟩
 rintro a w ⟨hm,o,u⟩
 unfold Z1e at hm
 refine th<|rg<|qa o rfl λo=>re<|tn<|wr<|?_
 obtain rfl:=si hm
 exact r1 o results138 rfl ⟨rfl,u.keep⟩
set_option maxHeartbeats 4000000 in
theorem Jc0 (hH:H.le w0) {p1:Str} {r:((List api_Token)×Int×Int)} (hm:Zt N p1=some r):Tot Tryz.prog 101 #[Ac p1] w0 (λv w'=>∃ (U1:Option Addr) (P1:Nat) (V1:List Value),v=.tuple #[SL U1 r.1 P1,i6 r.2.1,i6 r.2.2]∧(∀ h,Rows h V1 r.1)∧Fresh w0 (sla 130 4 U1 r.1.length P1 V1) w'):=by
 unfold Zt at hm
 refine fn0 func101 rfl ntmps101 rfl rfl λa o=>?_
 have u:St w0 Nil [H] [] w0:=start1 hH
 refine th<|rg<|qa o rfl λo=>?_
 iterate 2 refine qa o rfl λo=>?_
 refine re<|tn<|th<|th<|rg<|qm o rfl λo=>qv o (Bp (s:=p1) o runUnderlying9 rfl) λo=>qv o (Be o rfl rfl) λo=>re<|?_
 rcases bip hm with ⟨Q1,hm⟩ | ⟨Q1,hm⟩
 refine tn<|ctv o rfl Q1<|th<|rg<|qa o rfl λo=>?_
 iterate 2 refine qa o rfl λo=>?_
 refine re<|tn<|wr<|tr<|?_
 replace u:=u.nilS 130 4
 obtain rfl:=si hm
 exact Go.LM.r3 o results101 rfl rfl rfl ⟨_,_,_,rfl,(λ_=>.nil),u.endFresh t0⟩
 refine tn<|cfv o rfl Q1<|wk<|tn<|th<|rg<|ls<|Bl (e:=130) (sz:=4) [] o rfl u rfl rfl rfl (λw=>by kernel_rfl) λb4 w a u o=>?_
 have I2:Rows (α:=api_Token) H [] []:=.nil
 refine qa o rfl λo=>re<|tn<|th<|?_
 obtain ⟨J2,h7,hm⟩:=bs hm
 refine rg<|qm o rfl λo=>ls<|cr o call135 (Yk (Ai _) h7) u λu o=>qa o rfl λo=>re<|tn<|th<|Au (λa w=>∃ (U0:(List api_Token)) (W0:Option Addr) (S0:Nat) (X0:List Value),Zu U0=some r∧Fr 107 [(5,SL W0 U0 S0)] a∧St w0 Nil [H] [sla 130 4 W0 U0.length S0 X0] w∧Rows H X0 U0) ?_ ?_
 refine wb<|lp (α:=Nat×(List api_Token)×Int) (λgh a w=>match gh with | (K0,E0,C0)=>∃ (F0:Option Addr) (D0:Nat) (J0:List Value),(Z11 N Zu p1) K0 E0 C0=some r∧Fr 107 [(0,Ac p1),(5,SL F0 E0 D0),(6,i6 C0)] a∧St w0 Nil [H] [sla 130 4 F0 E0.length D0 J0] w∧Rows H J0 E0) (λgh=>gh.1) (N,[],J2) ⟨(some ⟨b4,0,none⟩),0,[],hm,o.hs,u,I2⟩ ?_
 rintro ⟨K0,E0,C0⟩ a w ⟨F0,D0,J0,hm,o,u,R1⟩
 obtain _ | K0:=K0
 simp [Z11] at hm
 rw [Z11] at hm
 refine th<|th<|rg<|qm o rfl λo=>qm o rfl λo=>qv o (Bp (s:=p1) o runUnderlying9 rfl) λo=>qv o (Aq o rfl rfl) λo=>re<|?_
 rcases bip hm with ⟨S1,hm⟩ | ⟨S1,hm⟩
 refine tn<|ctv o rfl S1<|wk<|tn<|wb<|th<|rg<|qm o rfl λo=>qm o rfl λo=>qv o (Bu [i6 C0] [i6 0,Ac [],i6 0,i6 C0] o ⟨rfl,trivial⟩ (λw=>by kernel_rfl)) λo=>ls<|Aw (cs:=[i6 0,Ac [],i6 0,i6 0].toArray) o rfl u zeroValue130 rfl λb9 w a u o=>qa o rfl λo=>ls<|Ba o u sizeOf130 rfl rfl rfl rfl (Am rfl) .head λw u=>re<|tn<|th<|th<|?_
 obtain ⟨J3,K2,hm⟩:=bs hm
 obtain ⟨K3,M2,hm⟩:=bs hm
 refine rg<|qm o rfl λo=>qm o rfl λo=>qv o (Co (s:=p1) o runUnderlying9 rfl rfl K2) λo=>ls<|cr o call136 (Ko (Ai _) M2) u λu o=>re<|tn<|Au (λa w=>∃ (J1:Int) (G0:api_Token),(Zw N (Z11 N Zu p1 K0) p1 E0 C0) J1 G0=some r∧Fr 107 [(0,Ac p1),(5,SL F0 E0 D0),(6,i6 C0),(7,i6 J1),(8,PT b9)] a∧St w0 Nil [H] [sla 130 4 F0 E0.length D0 J0,bk b9 [i6 G0.Kind,Ac G0.Text,i6 G0.N,i6 G0.At] 130] w) ?_ ?_
 rcases bit hm with ⟨Y0,hm⟩ | ⟨Y0,hm⟩
 refine ctv o rfl Y0<|th<|rg<|qv o (Af o Cr rfl) λo=>ls<|Ax o u sizeOf3 rfl rfl rfl rfl .head .zero λw u=>re<|tn<|th<|Au (λa w=>∃ (M1:Int),(Zx (Zw N (Z11 N Zu p1 K0) p1 E0 C0) C0) M1=some r∧Fr 107 [(0,Ac p1),(5,SL F0 E0 D0),(6,i6 C0),(7,i6 M1),(8,PT b9)] a∧St w0 Nil [H] [sla 130 4 F0 E0.length D0 J0,bk b9 [i6 1,Ac [],i6 0,i6 C0] 130] w) ?_ ?_
 replace u:=u.pk [1,0] rfl
 refine wb<|lp (α:=Nat×Int) (λgh a w=>match gh with | (R0,O0)=>(Z12 N (Zx (Zw N (Z11 N Zu p1 K0) p1 E0 C0) C0) p1) R0 O0=some r∧Fr 107 [(0,Ac p1),(5,SL F0 E0 D0),(6,i6 C0),(7,i6 O0),(8,PT b9)] a∧St w0 Nil [H] [sla 130 4 F0 E0.length D0 J0,bk b9 [i6 1,Ac [],i6 0,i6 C0] 130] w) (λgh=>gh.1) (N,C0) ⟨hm,o.hs,u⟩ ?_
 rintro ⟨R0,O0⟩ a w ⟨hm,o,u⟩
 obtain _ | R0:=R0
 simp [Z12] at hm
 rw [Z12] at hm
 refine th<|th<|Au (λa w=>∃ (vF1:Bool),(Zy (Zx (Zw N (Z11 N Zu p1 K0) p1 E0 C0) C0) (Z12 N (Zx (Zw N (Z11 N Zu p1 K0) p1 E0 C0) C0) p1 R0) O0) vF1=some r∧Fr 107 [(0,Ac p1),(5,SL F0 E0 D0),(6,i6 C0),(7,i6 O0),(8,PT b9),(42,.bool vF1)] a∧St w0 Nil [H] [sla 130 4 F0 E0.length D0 J0,bk b9 [i6 1,Ac [],i6 0,i6 C0] 130] w) ?_ ?_
 rcases bip hm with ⟨T0,hm⟩ | ⟨T0,hm⟩
 obtain ⟨L3,X1,hm⟩:=bs hm
 obtain ⟨M3,Y1,hm⟩:=bs hm
 rcases bit hm with ⟨j0,hm⟩ | ⟨j0,hm⟩
 refine rg<|qm o rfl λo=>qm o rfl λo=>qv o (Bp (s:=p1) o runUnderlying9 rfl) λo=>qv o (Aq o rfl rfl) λo=>qv o (As (Ab o rfl) (congrArg Value.bool T0)) λo=>?_
 iterate 2 refine qg o (Ab o rfl) λo=>?_
 refine qg o (Co (s:=p1) o runUnderlying9 rfl rfl X1) λo=>ls<|gy o rfl rfl<|cr o call136 (Ko (Ai _) Y1) u λu o=>qg o (As (Ab o rfl) (congrArg Value.bool j0)) λo=>?_
 iterate 4 refine qn o λo=>?_
 refine qg o (Ad o rfl rfl) λo=>qv o (Ad o rfl rfl) λo=>re<|tn<|?_
 exact ⟨true,hm,o.hs,u⟩
 obtain ⟨O3,O2,hm⟩:=bs hm
 obtain ⟨P2,Q2,hm⟩:=bs hm
 refine rg<|qm o rfl λo=>qm o rfl λo=>qv o (Bp (s:=p1) o runUnderlying9 rfl) λo=>qv o (Aq o rfl rfl) λo=>qv o (As (Ab o rfl) (congrArg Value.bool T0)) λo=>?_
 iterate 2 refine qg o (Ab o rfl) λo=>?_
 refine qg o (Co (s:=p1) o runUnderlying9 rfl rfl X1) λo=>ls<|gy o rfl rfl<|cr o call136 (Ko (Ai _) Y1) u λu o=>qg o (As (Ab o rfl) (congrArg Value.bool j0)) λo=>?_
 iterate 2 refine qg o (Ab o rfl) λo=>?_
 refine qg o (Co (s:=p1) o runUnderlying9 rfl rfl O2) λo=>ls<|gy o rfl rfl<|cr o call137 (Rv (Ai _) Q2) u λu o=>qg o (Ae o rfl rfl) λo=>qv o (Ad o rfl rfl) λo=>re<|tn<|?_
 exact ⟨P2,hm,o.hs,u⟩
 refine rg<|qm o rfl λo=>qm o rfl λo=>qv o (Bp (s:=p1) o runUnderlying9 rfl) λo=>qv o (Aq o rfl rfl) λo=>qv o (As (Ab o rfl) (congrArg Value.bool T0)) λo=>?_
 iterate 5 refine qn o λo=>?_
 iterate 4 refine ls<|gnu o rfl rfl rfl λa o=>?_
 refine qn o λo=>qv o (Ae o rfl rfl) λo=>re<|tn<|?_
 exact ⟨false,hm,o.hs,u⟩
 rintro a w ⟨vF1,hm,o,u⟩
 unfold Zy at hm
 rcases bit hm with ⟨n0,hm⟩ | ⟨n0,hm⟩
 refine ctv o rfl n0<|wk<|tn<|wb<|rg<|qm o rfl λo=>qv o (Ap o rfl rfl) λo=>qa o rfl λo=>re<|bn<|tn<|?_
 exact ⟨(R0,(IntKind.i64.wrap (O0+1))),⟨hm,o.hs,u⟩,Nat.lt_succ_self _⟩
 refine cfv o rfl n0<|we<|tx<|tx<|bx<|tn<|?_
 exact ⟨O0,hm,o.hs,u⟩
 rintro a w ⟨M1,hm,o,u⟩
 unfold Zx at hm
 refine th<|rg<|qm o rfl λo=>qm o rfl λo=>qv o (Gp o rfl rfl) λo=>qv o (Be o rfl rfl) λo=>re<|?_
 rcases bip hm with ⟨u0,hm⟩ | ⟨u0,hm⟩
 refine tn<|ctv o rfl u0<|th<|rg<|qm o rfl λo=>?_
 iterate 3 refine qa o rfl λo=>?_
 refine re<|tn<|wr<|tr<|br<|tr<|br<|tr<|?_
 replace u:=u.nilS 130 4
 obtain rfl:=si hm
 exact Go.LM.r3 o results101 rfl rfl rfl ⟨_,_,_,rfl,(λ_=>.nil),u.endFresh t0⟩
 refine tn<|cfv o rfl u0<|wk<|tn<|?_
 exact ⟨M1,(api_Token.mk 1 [] 0 C0),hm,o.hs,u⟩
 refine cfv o rfl Y0<|th<|?_
 obtain ⟨P3,R2,hm⟩:=bs hm
 obtain ⟨Q3,U2,hm⟩:=bs hm
 refine rg<|qm o rfl λo=>qm o rfl λo=>qv o (Co (s:=p1) o runUnderlying9 rfl rfl R2) λo=>ls<|cr o call137 (Rv (Ai _) U2) u λu o=>re<|?_
 rcases bit hm with ⟨B1,hm⟩ | ⟨B1,hm⟩
 refine tn<|ctv o rfl B1<|th<|rg<|qv o (Af o Cr rfl) λo=>ls<|Ax o u sizeOf3 rfl rfl rfl rfl .head .zero λw u=>re<|tn<|th<|Au (λa w=>∃ (O1:Int) (P0:api_Token),(Zz N (Zw N (Z11 N Zu p1 K0) p1 E0 C0) C0) O1 P0=some r∧Fr 107 [(0,Ac p1),(5,SL F0 E0 D0),(6,i6 C0),(7,i6 O1),(8,PT b9)] a∧St w0 Nil [H] [sla 130 4 F0 E0.length D0 J0,bk b9 [i6 P0.Kind,Ac P0.Text,i6 P0.N,i6 P0.At] 130] w) ?_ ?_
 replace u:=u.pk [1,0] rfl
 refine wb<|lp (α:=Nat×Int×api_Token) (λgh a w=>match gh with | (Q0,M0,I0)=>(Z13 N (Zz N (Zw N (Z11 N Zu p1 K0) p1 E0 C0) C0) p1) Q0 M0 I0=some r∧Fr 107 [(0,Ac p1),(5,SL F0 E0 D0),(6,i6 C0),(7,i6 M0),(8,PT b9)] a∧St w0 Nil [H] [sla 130 4 F0 E0.length D0 J0,bk b9 [i6 I0.Kind,Ac I0.Text,i6 I0.N,i6 I0.At] 130] w) (λgh=>gh.1) (N,C0,(api_Token.mk 2 [] 0 C0)) ⟨hm,o.hs,u⟩ ?_
 rintro ⟨Q0,M0,I0⟩ a w ⟨hm,o,u⟩
 obtain _ | Q0:=Q0
 simp [Z13] at hm
 rw [Z13] at hm
 refine th<|th<|Au (λa w=>∃ (vF2:Bool),(Z10 N (Zz N (Zw N (Z11 N Zu p1 K0) p1 E0 C0) C0) (Z13 N (Zz N (Zw N (Z11 N Zu p1 K0) p1 E0 C0) C0) p1 Q0) p1 M0 I0) vF2=some r∧Fr 107 [(0,Ac p1),(5,SL F0 E0 D0),(6,i6 C0),(7,i6 M0),(8,PT b9),(64,.bool vF2)] a∧St w0 Nil [H] [sla 130 4 F0 E0.length D0 J0,bk b9 [i6 I0.Kind,Ac I0.Text,i6 I0.N,i6 I0.At] 130] w) ?_ ?_
 rcases bip hm with ⟨C1,hm⟩ | ⟨C1,hm⟩
 obtain ⟨R3,V2,hm⟩:=bs hm
 obtain ⟨W2,X2,hm⟩:=bs hm
 refine rg<|qm o rfl λo=>qm o rfl λo=>qv o (Bp (s:=p1) o runUnderlying9 rfl) λo=>qv o (Aq o rfl rfl) λo=>qv o (As (Ab o rfl) (congrArg Value.bool C1)) λo=>?_
 iterate 2 refine qg o (Ab o rfl) λo=>?_
 refine qg o (Co (s:=p1) o runUnderlying9 rfl rfl V2) λo=>ls<|gy o rfl rfl<|cr o call137 (Rv (Ai _) X2) u λu o=>qv o (Ad o rfl rfl) λo=>re<|tn<|?_
 exact ⟨W2,hm,o.hs,u⟩
 refine rg<|qm o rfl λo=>qm o rfl λo=>qv o (Bp (s:=p1) o runUnderlying9 rfl) λo=>qv o (Aq o rfl rfl) λo=>qv o (As (Ab o rfl) (congrArg Value.bool C1)) λo=>?_
 iterate 4 refine qn o λo=>?_
 refine qv o (Ae o rfl rfl) λo=>re<|tn<|?_
 exact ⟨false,hm,o.hs,u⟩
 rintro a w ⟨vF2,hm,o,u⟩
 unfold Z10 at hm
 rcases bit hm with ⟨E1,hm⟩ | ⟨E1,hm⟩
 refine ctv o rfl E1<|wk<|tn<|wb<|th<|th<|rg<|qv o (Af o Gf rfl) λo=>qv o (Ag o isAgg3 rfl (u.ld.cellB t1 rfl)) λo=>qv o (Cs o rfl rfl) λo=>re<|tn<|Au (λa w=>∃ (vF3:api_Token),(Zv (Z13 N (Zz N (Zw N (Z11 N Zu p1 K0) p1 E0 C0) C0) p1 Q0) M0) vF3=some r∧Fr 107 [(0,Ac p1),(5,SL F0 E0 D0),(6,i6 C0),(7,i6 M0),(8,PT b9)] a∧St w0 Nil [H] [sla 130 4 F0 E0.length D0 J0,bk b9 [i6 vF3.Kind,Ac vF3.Text,i6 vF3.N,i6 vF3.At] 130] w) ?_ ?_
 rcases bip hm with ⟨F1,hm⟩ | ⟨F1,hm⟩
 refine ctv o rfl F1<|?_
 obtain ⟨Y2,A3,hm⟩:=bs hm
 refine rxS 10 u wide (by kernel_rfl) λw u=>xr u o (Af o Gf rfl) λo=>xq u.ld o (λw hl=>Ag o isAgg3 rfl (hl.cellB t1 rfl)) λo=>xr u o (Vm o rfl rfl) λo=>?_
 iterate 2 refine xq u.ld o (λw hl=>Ab o rfl) λo=>?_
 refine xr u o (Co (s:=p1) o runUnderlying9 rfl rfl A3) λo=>xr u o (Gp o rfl rfl) λo=>xr u o (Jbg o runUnderlying5 runUnderlying3 rfl) λo=>xr u o (Ap o rfl rfl) λo=>xr u o (Af o Gf rfl) λo=>xz rfl<|Ax o u sizeOf3 rfl rfl rfl rfl (.tail .head) (.succ (.succ .zero)) λw u=>tn<|?_
 exact ⟨(api_Token.mk I0.Kind I0.Text (IntKind.i64.wrap ((IntKind.i64.wrap (10 * I0.N))+(IntKind.i64.wrap (IntKind.u8.wrap (Y2 - 48))))) I0.At),hm,o.hs,u⟩
 refine cfv o rfl F1<|wk<|tn<|?_
 exact ⟨I0,hm,o.hs,u⟩
 rintro a w ⟨vF3,hm,o,u⟩
 unfold Zv at hm
 refine rg<|qm o rfl λo=>qv o (Ap o rfl rfl) λo=>qa o rfl λo=>re<|bn<|tn<|?_
 exact ⟨(Q0,(IntKind.i64.wrap (M0+1)),vF3),⟨hm,o.hs,u⟩,Nat.lt_succ_self _⟩
 refine cfv o rfl E1<|we<|tx<|tx<|bx<|tn<|?_
 exact ⟨M0,I0,hm,o.hs,u⟩
 rintro a w ⟨O1,P0,hm,o,u⟩
 unfold Zz at hm
 refine th<|rg<|qv o (Af o Gf rfl) λo=>qv o (Ag o isAgg3 rfl (u.ld.cellB t1 rfl)) λo=>qv o (Be o rfl rfl) λo=>re<|?_
 rcases bip hm with ⟨G1,hm⟩ | ⟨G1,hm⟩
 refine tn<|ctv o rfl G1<|th<|rg<|qm o rfl λo=>?_
 iterate 3 refine qa o rfl λo=>?_
 refine re<|tn<|wr<|tr<|br<|tr<|br<|tr<|?_
 replace u:=u.nilS 130 4
 obtain rfl:=si hm
 exact Go.LM.r3 o results101 rfl rfl rfl ⟨_,_,_,rfl,(λ_=>.nil),u.endFresh t0⟩
 refine tn<|cfv o rfl G1<|wk<|tn<|?_
 exact ⟨O1,P0,hm,o.hs,u⟩
 refine tn<|cfv o rfl B1<|th<|rg<|qv o (Af o Cr rfl) λo=>ls<|Ax o u sizeOf3 rfl rfl rfl rfl .head .zero λw u=>re<|tn<|th<|?_
 obtain ⟨B3,C3,hm⟩:=bs hm
 refine rg<|qm o rfl λo=>?_
 iterate 2 refine qm o rfl λo=>?_
 refine ls<|cr o call138 (JbY (Ai _) C3) u λu o=>qv o (Ap o rfl rfl) λo=>qa o rfl λo=>re<|tn<|th<|rg<|qm o rfl λo=>qm o rfl λo=>qv o (Al o rfl rfl) λo=>re<|?_
 rcases bip hm with ⟨I1,hm⟩ | ⟨I1,hm⟩
 refine tn<|ctv o rfl I1<|th<|rg<|qm o rfl λo=>?_
 iterate 3 refine qa o rfl λo=>?_
 refine re<|tn<|wr<|tr<|br<|tr<|br<|tr<|?_
 replace u:=u.nilS 130 4
 obtain rfl:=si hm
 exact Go.LM.r3 o results101 rfl rfl rfl ⟨_,_,_,rfl,(λ_=>.nil),u.endFresh t0⟩
 refine tn<|cfv o rfl I1<|wk<|tn<|?_
 replace u:=u.pk [1,0] rfl
 exact ⟨(IntKind.i64.wrap (C0+B3)),(api_Token.mk 3 [] 0 C0),hm,o.hs,u⟩
 rintro a w ⟨J1,G0,hm,o,u⟩
 unfold Zw at hm
 refine th<|?_
 obtain ⟨V0,D3,hm⟩:=bs hm
 refine rg<|qm o rfl λo=>?_
 iterate 2 refine qm o rfl λo=>?_
 refine qv o (Qf (s:=p1) (vl:=C0) (vh:=J1) o runUnderlying9 rfl rfl rfl D3) λo=>qv o (Af o Eh rfl) λo=>ls<|Ax o u sizeOf9 rfl rfl rfl rfl (.tail .head) (.succ .zero) λw u=>re<|tn<|th<|?_
 obtain ⟨E3,F3,hm⟩:=bs hm
 refine rg<|qm o rfl λo=>qv o (Ay o isAgg130 sizeOf130 rfl rfl (u.ld.cellsB t1)) λo=>ls<|Bl (e:=130) (sz:=4) [i6 G0.Kind,Ac V0,i6 G0.N,i6 G0.At] o rfl u rfl rfl rfl (λw=>by kernel_rfl) λS3 w a u o=>?_
 have B2:Rows (α:=api_Token) H [i6 G0.Kind,Ac V0,i6 G0.N,i6 G0.At] ([(api_Token.mk G0.Kind V0 G0.N G0.At)]:List api_Token):=(.cons (c:=[i6 G0.Kind,Ac V0,i6 G0.N,i6 G0.At]) ⟨_,_,rfl,rfl,⟨_,_,rfl,rfl,⟨_,_,rfl,rfl,rfl⟩⟩⟩ .nil)
 refine ls<|Cl (α:=api_Token) (xs:=E0) (ys:=([(api_Token.mk G0.Kind V0 G0.N G0.At)]:List api_Token)) o rfl u underlying120 Wn rfl (by decide) rfl rfl rfl t1 R1 (u.rdO t0) B2 F3 λC2 T1 E2 w a F2 hU o=>?_
 replace u:=hU _ (.tail .head)
 replace u:=u.drop .head
 refine qa o rfl λo=>re<|tn<|?_
 obtain ⟨G3,I3,hm⟩:=bs hm
 refine rg<|qm o rfl λo=>qm o rfl λo=>ls<|cr o call135 (Yk (Ai _) I3) u λu o=>qa o rfl λo=>re<|bn<|tn<|?_
 replace u:=u.pk [0] rfl
 exact ⟨(K0,E3,G3),⟨C2,T1,E2,hm,o.hs,u,F2⟩,Nat.lt_succ_self _⟩
 refine tn<|cfv o rfl S1<|we<|tx<|tx<|bx<|tn<|?_
 exact ⟨E0,F0,D0,J0,hm,o.has ⟨rfl,trivial⟩,u,R1⟩
 rintro a w ⟨U0,W0,S0,X0,hm,o,u,G2⟩
 unfold Zu at hm
 refine th<|rg<|qm o rfl λo=>?_
 iterate 3 refine qa o rfl λo=>?_
 refine re<|tn<|wr<|?_
 obtain rfl:=si hm
 exact Go.LM.r3 o results101 rfl rfl rfl ⟨_,_,_,rfl,(λ_=>Rows.ind G2),u.endFresh t0⟩
theorem Jt (hH:H.le w0) {F0:Option Addr} {E0:Nat} {p1:(List api_Token)} (_:p1.length≤E0) (I0:SR H F0 p1) {p6:Int} {p7:Str} {r:Bool} (hm:Zj N p1 p6 p7=some r):Tot Tryz.prog 139 #[SL F0 p1 E0,i6 p6,Ac p7] w0 (λv w'=>v=.bool r∧Keep Nil w0 w'):=by
 unfold Zj at hm
 refine fn0 func139 rfl ntmps139 rfl rfl λa o=>?_
 have u:St w0 Nil [H] [] w0:=start1 hH
 refine th<|rg<|qa o rfl λo=>re<|tn<|th<|?_
 rcases bit hm with ⟨J0,hm⟩ | ⟨J0,hm⟩
 obtain ⟨C0,D0,hm⟩:=bs hm
 obtain ⟨M0,K0,G0⟩:=SR.get I0 D0
 obtain rfl:=Bb K0
 refine rg<|qm o rfl λo=>qv o (Bi o rfl rfl) λo=>qm o rfl λo=>gr (Fk:=[(0,SL F0 p1 E0),(1,i6 p6),(2,Ac p7),(14,.bool ((decide (0≤p6)) && (decide (p6 < (p1.length:Int)))))]) 9 5 o u ?_ ?_ ?_
 intro hb o key
 iterate 2 refine qg o (Ab o rfl) λo=>?_
 exact qg o (Ak (α:=api_Token) (xs:=p1) o runUnderlying120 rfl) λo=>qg o (Aq o rfl rfl) λo=>qk o (Ad o rfl rfl) key u hb
 intro hb o key
 iterate 4 refine qn o λo=>?_
 exact qk o (Ae o rfl rfl) key u hb
 intro a w o u
 refine qv o (As (Ab o rfl) (congrArg Value.bool J0)) λo=>?_
 iterate 2 refine qg o (Ab o rfl) λo=>?_
 refine qg o (An o runUnderlying120 sizeOf130 rfl rfl D0 (SR.oaI I0 (by decide) D0)) λo=>qg o (Af o Eh rfl) λo=>qg o (Ag o isAgg9 rfl (PH.le.cell (Lds.le u.ld) (G0 1 _ rfl))) λo=>qg o (Ab o rfl) λo=>qg o (Dz (m:=C0.Text) (n:=p7) o rfl rfl) λo=>qv o (Ad o rfl rfl) λo=>qm o rfl λo=>gr (Fk:=[(0,SL F0 p1 E0),(1,i6 p6),(31,.bool ((decide (C0.Text=p7)) && (decide (C0.Kind≠2))))]) 24 7 o u ?_ ?_ ?_
 intro hb o key
 iterate 2 refine qg o (Ab o rfl) λo=>?_
 exact qg o (An o runUnderlying120 sizeOf130 rfl rfl D0 (SR.oaI I0 (by decide) D0)) λo=>qg o (Af o Cr rfl) λo=>qg o (Ag o isAgg3 rfl (PH.le.cell (Lds.le u.ld) (G0 0 _ rfl))) λo=>qg o (Bt o rfl rfl) λo=>qk o (Ad o rfl rfl) key u hb
 intro hb o key
 iterate 6 refine qn o λo=>?_
 exact qk o (Ae o rfl rfl) key u hb
 intro a w o u
 refine qm o rfl λo=>gr (Fk:=[(0,SL F0 p1 E0),(1,i6 p6),(39,.bool (((decide (C0.Text=p7)) && (decide (C0.Kind≠2))) && (decide (1≤C0.Kind))))]) 32 7 o u ?_ ?_ ?_
 intro hb o key
 iterate 2 refine qg o (Ab o rfl) λo=>?_
 exact qg o (An o runUnderlying120 sizeOf130 rfl rfl D0 (SR.oaI I0 (by decide) D0)) λo=>qg o (Af o Cr rfl) λo=>qg o (Ag o isAgg3 rfl (PH.le.cell (Lds.le u.ld) (G0 0 _ rfl))) λo=>qg o (Bi o rfl rfl) λo=>qk o (Ad o rfl rfl) key u hb
 intro hb o key
 iterate 6 refine qn o λo=>?_
 exact qk o (Ae o rfl rfl) key u hb
 intro a w o u
 refine qm o rfl λo=>gr (Fk:=[(47,.bool ((((decide (C0.Text=p7)) && (decide (C0.Kind≠2))) && (decide (1≤C0.Kind))) && (decide (C0.Kind≤3))))]) 40 7 o u ?_ ?_ ?_
 intro hb o key
 iterate 2 refine qg o (Ab o rfl) λo=>?_
 exact qg o (An o runUnderlying120 sizeOf130 rfl rfl D0 (SR.oaI I0 (by decide) D0)) λo=>qg o (Af o Cr rfl) λo=>qg o (Ag o isAgg3 rfl (PH.le.cell (Lds.le u.ld) (G0 0 _ rfl))) λo=>qg o (Cs o rfl rfl) λo=>qk o (Ad o rfl rfl) key u hb
 intro hb o key
 iterate 6 refine qn o λo=>?_
 exact qk o (Ae o rfl rfl) key u hb
 intro a w o u
 refine qa o rfl λo=>re<|tn<|wr<|?_
 obtain rfl:=si hm
 exact r1 o results139 rfl ⟨rfl,u.keep⟩
 refine rg<|qm o rfl λo=>qv o (Bi o rfl rfl) λo=>qm o rfl λo=>gr (Fk:=[(0,SL F0 p1 E0),(1,i6 p6),(2,Ac p7),(14,.bool ((decide (0≤p6)) && (decide (p6 < (p1.length:Int)))))]) 9 5 o u ?_ ?_ ?_
 intro hb o key
 iterate 2 refine qg o (Ab o rfl) λo=>?_
 exact qg o (Ak (α:=api_Token) (xs:=p1) o runUnderlying120 rfl) λo=>qg o (Aq o rfl rfl) λo=>qk o (Ad o rfl rfl) key u hb
 intro hb o key
 iterate 4 refine qn o λo=>?_
 exact qk o (Ae o rfl rfl) key u hb
 intro a w o u
 refine qv o (As (Ab o rfl) (congrArg Value.bool J0)) λo=>?_
 iterate 7 refine qn o λo=>?_
 refine qv o (Ae o rfl rfl) λo=>qm o rfl λo=>?_
 iterate 6 refine qn o λo=>?_
 refine qv o (Ae o rfl rfl) λo=>qm o rfl λo=>?_
 iterate 6 refine qn o λo=>?_
 refine qv o (Ae o rfl rfl) λo=>qm o rfl λo=>?_
 iterate 6 refine qn o λo=>?_
 refine qv o (Ae o rfl rfl) λo=>qa o rfl λo=>re<|tn<|wr<|?_
 obtain rfl:=si hm
 exact r1 o results139 rfl ⟨rfl,u.keep⟩
theorem H7 (hH:H.le w0) {b2:Nat} {p1:leadlineref05_In} {oa3:Option Addr} {cap4:Nat} (D0:p1.L.length≤cap4) (E0:SR H oa3 p1.L) {p7:Str} (hO:(sepA [bk b2 [SL oa3 p1.L cap4,i6 p1.At,i6 p1.E,i6 p1.Pos] 125]).ok (hp w0)) (hD:∀ b,(sepA [bk b2 [SL oa3 p1.L cap4,i6 p1.At,i6 p1.E,i6 p1.Pos] 125]).fp b→H b=none) {r:(Bool×leadlineref05_In)} (hm:Z3o N p1 p7=some r):Tot Tryz.prog 102 #[PT b2,Ac p7] w0 (λv w'=>∃ (oa1m:Option Addr) (cap1m:Nat),v=.bool r.1∧r.2.L.length≤cap1m∧SR H oa1m r.2.L∧Mut w0 (sepA [bk b2 [SL oa3 p1.L cap4,i6 p1.At,i6 p1.E,i6 p1.Pos] 125]) (sepA [bk b2 [SL oa1m r.2.L cap1m,i6 r.2.At,i6 r.2.E,i6 r.2.Pos] 125]) w'):=by
 unfold Z3o at hm
 refine fn0 func102 rfl ntmps102 rfl rfl λa o=>?_
 have u:=Cm hH hO hD
 refine th<|rg<|qa o rfl λo=>re<|tn<|th<|th<|Au (λa w=>∃ (F0:Bool),(Z3p p1) F0=some r∧Fr 30 [(0,PT b2),(21,.bool F0)] a∧St w0 (sepA [bk b2 [SL oa3 p1.L cap4,i6 p1.At,i6 p1.E,i6 p1.Pos] 125]).fp [H] [bk b2 [SL oa3 p1.L cap4,i6 p1.At,i6 p1.E,i6 p1.Pos] 125] w) ?_ ?_
 rcases bip hm with ⟨G0,hm⟩ | ⟨G0,hm⟩
 obtain ⟨I0,J0,hm⟩:=bs hm
 refine rdS 17 u wide λw u=>dr 0 u o rfl (Ab o rfl) λo=>dr 1 u o rfl (Aj o rfl) λo=>dr 2 u o rfl (Af o Cq rfl) λo=>dq 3 u.ld o rfl (λw hl=>Ag o isAgg29 rfl (hl.cellB t0 rfl)) λo=>dr 4 u o rfl (Al o rfl rfl) λo=>dr 5 u o rfl (As (Ab o rfl) (congrArg Value.bool G0)) λo=>dg 6 u.ld o rfl (λw hl=>Ab o rfl) λo=>dg 7 u.ld o rfl (λw hl=>Aj o rfl) λo=>dg 8 u.ld o rfl (λw hl=>Af o Ch rfl) λo=>dg 9 u.ld o rfl (λw hl=>Ag o isAgg120 rfl (hl.cellB t0 rfl)) λo=>dg 10 u.ld o rfl (λw hl=>Ab o rfl) λo=>dg 11 u.ld o rfl (λw hl=>Aj o rfl) λo=>dg 12 u.ld o rfl (λw hl=>Af o Bh rfl) λo=>dg 13 u.ld o rfl (λw hl=>Ag o isAgg3 rfl (hl.cellB t0 rfl)) λo=>dg 14 u.ld o rfl (λw hl=>Ab o rfl) λo=>da1 (i:=15) (by kernel_rfl) ?_
 refine di (i:=15) rfl<|gy o rfl rfl<|cr o call139 (Jt (Ai _) D0 (St.srH u E0) J0) u λu o=>⟨λ_=>u.ld,?_⟩
 refine dr 16 u o rfl (Ad o rfl rfl) λo=>de (by kernel_rfl)<|tn<|?_
 exact ⟨I0,hm,o.has ⟨rfl,rfl,trivial⟩,u⟩
 refine rxS 17 u wide (by kernel_rfl) λw u=>xm u o rfl λo=>xr u o (Aj o rfl) λo=>xr u o (Af o Cq rfl) λo=>xq u.ld o (λw hl=>Ag o isAgg29 rfl (hl.cellB t0 rfl)) λo=>xr u o (Al o rfl rfl) λo=>xr u o (As (Ab o rfl) (congrArg Value.bool G0)) λo=>?_
 iterate 10 refine xn u.ld o λo=>?_
 refine xr u o (Ae o rfl rfl) λo=>xe<|tn<|?_
 exact ⟨false,hm,o.has ⟨rfl,rfl,trivial⟩,u⟩
 rintro a w ⟨F0,hm,o,u⟩
 unfold Z3p at hm
 rcases bit hm with ⟨C0,hm⟩ | ⟨C0,hm⟩
 refine ctv o rfl C0<|th<|rg<|qm o rfl λo=>qm o rfl λo=>qv o (Aj o rfl) λo=>qv o (Af o Bh rfl) λo=>qv o (Ag o isAgg3 rfl (u.ld.cellB t0 rfl)) λo=>qv o (Ap o rfl rfl) λo=>qv o (Aj o rfl) λo=>qv o (Af o Bh rfl) λo=>ls<|Ax o u sizeOf3 rfl rfl rfl rfl .head (.succ .zero) λw u=>re<|tn<|th<|rg<|qa o rfl λo=>re<|tn<|wr<|tr<|?_
 obtain rfl:=si hm
 exact r1 o results102 rfl ⟨oa3,cap4,rfl,D0,E0,(u.pickL (.cons .head .nil)).endMut⟩
 refine cfv o rfl C0<|wk<|tn<|th<|rg<|qa o rfl λo=>re<|tn<|wr<|?_
 obtain rfl:=si hm
 exact r1 o results102 rfl ⟨oa3,cap4,rfl,D0,E0,(u.pickL (.cons .head .nil)).endMut⟩
theorem Kc (hH:H.le w0) {G0:Option Addr} {E0:Nat} {p1:(List api_Token)} (_:p1.length≤E0) (C0:SR H G0 p1) {p6:Int} {r:Int} (hm:Zs N p1 p6=some r):Tot Tryz.prog 143 #[SL G0 p1 E0,i6 p6] w0 (λv w'=>v=i6 r∧Keep Nil w0 w'):=by
 unfold Zs at hm
 refine fn0 func143 rfl ntmps143 rfl rfl λa o=>?_
 have u:St w0 Nil [H] [] w0:=start1 hH
 refine th<|rg<|qa o rfl λo=>re<|tn<|th<|th<|rg<|qm o rfl λo=>qv o (Bi o rfl rfl) λo=>qm o rfl λo=>gr (Fk:=[(0,SL G0 p1 E0),(1,i6 p6),(12,.bool ((decide (0≤p6)) && (decide (p6 < (p1.length:Int)))))]) 7 5 o u ?_ ?_ ?_
 intro hb o key
 iterate 2 refine qg o (Ab o rfl) λo=>?_
 exact qg o (Ak (α:=api_Token) (xs:=p1) o runUnderlying120 rfl) λo=>qg o (Aq o rfl rfl) λo=>qk o (Ad o rfl rfl) key u hb
 intro hb o key
 iterate 4 refine qn o λo=>?_
 exact qk o (Ae o rfl rfl) key u hb
 intro a w o u
 refine re<|?_
 rcases bit hm with ⟨I0,hm⟩ | ⟨I0,hm⟩
 refine tn<|ctv o rfl I0<|th<|?_
 obtain ⟨Q0,h9,hm⟩:=bs hm
 obtain ⟨R0,M0,K0⟩:=SR.get C0 h9
 obtain rfl:=Bb M0
 refine rg<|qm o rfl λo=>qm o rfl λo=>qv o (An o runUnderlying120 sizeOf130 rfl rfl h9 (SR.oaI C0 (by decide) h9)) λo=>qv o (Af o Dh rfl) λo=>qv o (Ag o isAgg3 rfl (PH.le.cell (Lds.le u.ld) (K0 3 _ rfl))) λo=>qa o rfl λo=>re<|tn<|wr<|tr<|?_
 obtain rfl:=si hm
 exact r1 o results143 rfl ⟨rfl,u.keep⟩
 refine tn<|cfv o rfl I0<|wk<|tn<|th<|th<|rg<|qm o rfl λo=>qv o (Ak (α:=api_Token) (xs:=p1) o runUnderlying120 rfl) λo=>qv o (Al o rfl rfl) λo=>re<|?_
 rcases bip hm with ⟨F0,hm⟩ | ⟨F0,hm⟩
 refine tn<|ctv o rfl F0<|th<|rg<|qa o rfl λo=>re<|tn<|wr<|tr<|?_
 obtain rfl:=si hm
 exact r1 o results143 rfl ⟨rfl,u.keep⟩
 refine tn<|cfv o rfl F0<|wk<|tn<|th<|?_
 obtain ⟨O0,D0,hm⟩:=bs hm
 obtain ⟨S0,P0,J0⟩:=SR.get C0 D0
 obtain rfl:=Bb P0
 refine rxS 17 u wide (by kernel_rfl) λw u=>?_
 iterate 2 refine xq u.ld o (λw hl=>Ab o rfl) λo=>?_
 refine xr u o (Ak (α:=api_Token) (xs:=p1) o runUnderlying120 rfl) λo=>xr u o (Gp o rfl rfl) λo=>xr u o (An o runUnderlying120 sizeOf130 rfl rfl D0 (SR.oaI C0 (by decide) D0)) λo=>xr u o (Af o Dh rfl) λo=>xq u.ld o (λw hl=>Ag o isAgg3 rfl (PH.le.cell (Lds.le hl) (J0 3 _ rfl))) λo=>?_
 iterate 2 refine xq u.ld o (λw hl=>Ab o rfl) λo=>?_
 refine xr u o (Ak (α:=api_Token) (xs:=p1) o runUnderlying120 rfl) λo=>xr u o (Gp o rfl rfl) λo=>xr u o (An o runUnderlying120 sizeOf130 rfl rfl D0 (SR.oaI C0 (by decide) D0)) λo=>xr u o (Af o Eh rfl) λo=>xq u.ld o (λw hl=>Ag o isAgg9 rfl (PH.le.cell (Lds.le hl) (J0 1 _ rfl))) λo=>xr u o (Bp (s:=O0.Text) o runUnderlying9 rfl) λo=>xr u o (Ap o rfl rfl) λo=>xr u o (Bo o rfl) λo=>xe<|tn<|wr<|?_
 obtain rfl:=si hm
 exact r1 o results143 rfl ⟨rfl,u.keep⟩
theorem Rl (hH:H.le w0) {b2:Nat} {p1:leadlineref05_In} {oa3:Option Addr} {cap4:Nat} (C0:p1.L.length≤cap4) (D0:SR H oa3 p1.L) (hO:(sepA [bk b2 [SL oa3 p1.L cap4,i6 p1.At,i6 p1.E,i6 p1.Pos] 125]).ok (hp w0)) (hD:∀ b,(sepA [bk b2 [SL oa3 p1.L cap4,i6 p1.At,i6 p1.E,i6 p1.Pos] 125]).fp b→H b=none) {r:leadlineref05_In} (hm:Z3l N p1=some r):Tot Tryz.prog 107 #[PT b2] w0 (λv w'=>∃ (oa1m:Option Addr) (cap1m:Nat),v=.tuple #[]∧r.L.length≤cap1m∧SR H oa1m r.L∧Mut w0 (sepA [bk b2 [SL oa3 p1.L cap4,i6 p1.At,i6 p1.E,i6 p1.Pos] 125]) (sepA [bk b2 [SL oa1m r.L cap1m,i6 r.At,i6 r.E,i6 r.Pos] 125]) w'):=by
 unfold Z3l at hm
 refine fn0 func107 rfl ntmps107 rfl rfl λa o=>?_
 have u:=Cm hH hO hD
 refine th<|rg<|qm o rfl λo=>qv o (Aj o rfl) λo=>qv o (Af o Cq rfl) λo=>qv o (Ag o isAgg29 rfl (u.ld.cellB t0 rfl)) λo=>qv o (Al o rfl rfl) λo=>re<|?_
 rcases bip hm with ⟨F0,hm⟩ | ⟨F0,hm⟩
 refine tn<|ctv o rfl F0<|th<|rg<|qm o rfl λo=>qv o (Aj o rfl) λo=>qv o (Af o Cq rfl) λo=>ls<|Ax o u sizeOf29 rfl rfl rfl rfl .head (.succ (.succ .zero)) λw u=>re<|tn<|th<|th<|rxS 10 u wide (by kernel_rfl) λw u=>xm u o rfl λo=>xr u o (Aj o rfl) λo=>xr u o (Af o Bh rfl) λo=>xq u.ld o (λw hl=>Ag o isAgg3 rfl (hl.cellB t0 rfl)) λo=>xm u o rfl λo=>xr u o (Aj o rfl) λo=>xr u o (Af o Ch rfl) λo=>xq u.ld o (λw hl=>Ag o isAgg120 rfl (hl.cellB t0 rfl)) λo=>xr u o (Ak (α:=api_Token) (xs:=p1.L) o runUnderlying120 rfl) λo=>xr u o (Bi o rfl rfl) λo=>xe<|tn<|Au (λa w=>∃ (G0:Int),(Z3m N p1) G0=some r∧Fr 35 [(0,PT b2)] a∧St w0 (sepA [bk b2 [SL oa3 p1.L cap4,i6 p1.At,i6 p1.E,i6 p1.Pos] 125]).fp [H] [bk b2 [SL oa3 p1.L cap4,i6 p1.At,i6 G0,i6 p1.Pos] 125] w) ?_ ?_
 rcases bip hm with ⟨I0,hm⟩ | ⟨I0,hm⟩
 refine ctv o rfl I0<|rg<|qm o rfl λo=>qv o (Aj o rfl) λo=>qv o (Af o Cq rfl) λo=>ls<|Ax o u sizeOf29 rfl rfl rfl rfl .head (.succ (.succ .zero)) λw u=>re<|tn<|?_
 exact ⟨6,hm,o.has ⟨rfl,trivial⟩,u⟩
 refine cfv o rfl I0<|wk<|tn<|?_
 exact ⟨5,hm,o.has ⟨rfl,trivial⟩,u⟩
 rintro a w ⟨G0,hm,o,u⟩
 unfold Z3m at hm
 obtain ⟨J0,E0,hm⟩:=bs hm
 refine rdL Ah 13 u wide λw u=>ds 0 (St.ldsX u i2 ta1) o rfl (Ab o rfl) λo=>ds 1 (St.ldsX u i2 ta1) o rfl (Ab o rfl) λo=>ds 2 (St.ldsX u i2 ta1) o rfl (Aj o rfl) λo=>ds 3 (St.ldsX u i2 ta1) o rfl (Af o Ch rfl) λo=>da2 (i:=4) (j:=5) (by kernel_rfl) ?_ ?_
 refine di (i:=4) rfl<|q1 o rfl (Ag o isAgg120 rfl (u.ld.cellB t0 rfl)) λa o=>⟨λ_=>(St.ldsX u i2 ta1),?_⟩
 refine ds 5 (St.ldsX u i2 ta1) o rfl (Ab o rfl) λo=>ds 6 (St.ldsX u i2 ta1) o rfl (Aj o rfl) λo=>ds 7 (St.ldsX u i2 ta1) o rfl (Af o Bh rfl) λo=>da1 (i:=8) (by kernel_rfl) ?_
 refine di (i:=8) rfl<|q1 o rfl (Ag o isAgg3 rfl (u.ld.cellB t0 rfl)) λa o=>⟨λ_=>(St.ldsX u i2 ta1),?_⟩
 refine da1 (i:=9) (by kernel_rfl) ?_
 refine di (i:=9) rfl<|cr o call143 (Kc (Ai _) C0 (St.srH u D0) E0) u λu o=>⟨λ_=>(St.ldsX u i2 ta1),?_⟩
 refine ds 10 (St.ldsX u i2 ta1) o rfl (Aj o rfl) λo=>ds 11 (St.ldsX u i2 ta1) o rfl (Af o Fq rfl) λo=>da1 (i:=12) (by kernel_rfl) ?_
 refine di (i:=12) rfl<|Ax o u sizeOf3 rfl rfl rfl rfl .head (.succ (.succ (.succ .zero))) λw u=>⟨λ_=>(St.ldsX u i2 ta1),?_⟩
 refine de (by kernel_rfl)<|?_
 obtain rfl:=si hm
 exact r0n o results107 ⟨oa3,cap4,rfl,C0,D0,(u.pickL (.cons .head .nil)).endMut⟩
 refine di (i:=5) rfl<|q1 o rfl (Ab o rfl) λa o=>⟨λ_=>(St.ldsX u i2 ta1),?_⟩
 refine da2 (i:=4) (j:=6) (by kernel_rfl) ?_ ?_
 refine di (i:=4) rfl<|q1 o rfl (Ag o isAgg120 rfl (u.ld.cellB t0 rfl)) λa o=>⟨λ_=>(St.ldsX u i2 ta1),?_⟩
 refine ds 6 (St.ldsX u i2 ta1) o rfl (Aj o rfl) λo=>ds 7 (St.ldsX u i2 ta1) o rfl (Af o Bh rfl) λo=>da1 (i:=8) (by kernel_rfl) ?_
 refine di (i:=8) rfl<|q1 o rfl (Ag o isAgg3 rfl (u.ld.cellB t0 rfl)) λa o=>⟨λ_=>(St.ldsX u i2 ta1),?_⟩
 refine da1 (i:=9) (by kernel_rfl) ?_
 refine di (i:=9) rfl<|cr o call143 (Kc (Ai _) C0 (St.srH u D0) E0) u λu o=>⟨λ_=>(St.ldsX u i2 ta1),?_⟩
 refine ds 10 (St.ldsX u i2 ta1) o rfl (Aj o rfl) λo=>ds 11 (St.ldsX u i2 ta1) o rfl (Af o Fq rfl) λo=>da1 (i:=12) (by kernel_rfl) ?_
 refine di (i:=12) rfl<|Ax o u sizeOf3 rfl rfl rfl rfl .head (.succ (.succ (.succ .zero))) λw u=>⟨λ_=>(St.ldsX u i2 ta1),?_⟩
 refine de (by kernel_rfl)<|?_
 obtain rfl:=si hm
 exact r0n o results107 ⟨oa3,cap4,rfl,C0,D0,(u.pickL (.cons .head .nil)).endMut⟩
 refine di (i:=6) rfl<|q1 o rfl (Aj o rfl) λa o=>⟨λ_=>(St.ldsX u i2 ta1),?_⟩
 refine da2 (i:=4) (j:=7) (by kernel_rfl) ?_ ?_
 refine di (i:=4) rfl<|q1 o rfl (Ag o isAgg120 rfl (u.ld.cellB t0 rfl)) λa o=>⟨λ_=>(St.ldsX u i2 ta1),?_⟩
 refine ds 7 (St.ldsX u i2 ta1) o rfl (Af o Bh rfl) λo=>da1 (i:=8) (by kernel_rfl) ?_
 refine di (i:=8) rfl<|q1 o rfl (Ag o isAgg3 rfl (u.ld.cellB t0 rfl)) λa o=>⟨λ_=>(St.ldsX u i2 ta1),?_⟩
 refine da1 (i:=9) (by kernel_rfl) ?_
 refine di (i:=9) rfl<|cr o call143 (Kc (Ai _) C0 (St.srH u D0) E0) u λu o=>⟨λ_=>(St.ldsX u i2 ta1),?_⟩
 refine ds 10 (St.ldsX u i2 ta1) o rfl (Aj o rfl) λo=>ds 11 (St.ldsX u i2 ta1) o rfl (Af o Fq rfl) λo=>da1 (i:=12) (by kernel_rfl) ?_
 refine di (i:=12) rfl<|Ax o u sizeOf3 rfl rfl rfl rfl .head (.succ (.succ (.succ .zero))) λw u=>⟨λ_=>(St.ldsX u i2 ta1),?_⟩
 refine de (by kernel_rfl)<|?_
 obtain rfl:=si hm
 exact r0n o results107 ⟨oa3,cap4,rfl,C0,D0,(u.pickL (.cons .head .nil)).endMut⟩
 refine di (i:=7) rfl<|q1 o rfl (Af o Bh rfl) λa o=>⟨λ_=>(St.ldsX u i2 ta1),?_⟩
 refine da2 (i:=4) (j:=8) (by kernel_rfl) ?_ ?_
 refine di (i:=4) rfl<|q1 o rfl (Ag o isAgg120 rfl (u.ld.cellB t0 rfl)) λa o=>⟨λ_=>(St.ldsX u i2 ta1),?_⟩
 refine da1 (i:=8) (by kernel_rfl) ?_
 refine di (i:=8) rfl<|q1 o rfl (Ag o isAgg3 rfl (u.ld.cellB t0 rfl)) λa o=>⟨λ_=>(St.ldsX u i2 ta1),?_⟩
 refine da1 (i:=9) (by kernel_rfl) ?_
 refine di (i:=9) rfl<|cr o call143 (Kc (Ai _) C0 (St.srH u D0) E0) u λu o=>⟨λ_=>(St.ldsX u i2 ta1),?_⟩
 refine ds 10 (St.ldsX u i2 ta1) o rfl (Aj o rfl) λo=>ds 11 (St.ldsX u i2 ta1) o rfl (Af o Fq rfl) λo=>da1 (i:=12) (by kernel_rfl) ?_
 refine di (i:=12) rfl<|Ax o u sizeOf3 rfl rfl rfl rfl .head (.succ (.succ (.succ .zero))) λw u=>⟨λ_=>(St.ldsX u i2 ta1),?_⟩
 refine de (by kernel_rfl)<|?_
 obtain rfl:=si hm
 exact r0n o results107 ⟨oa3,cap4,rfl,C0,D0,(u.pickL (.cons .head .nil)).endMut⟩
 refine di (i:=8) rfl<|q1 o rfl (Ag o isAgg3 rfl (u.ld.cellB t0 rfl)) λa o=>⟨λ_=>(St.ldsX u i2 ta1),?_⟩
 refine da1 (i:=4) (by kernel_rfl) ?_
 refine di (i:=4) rfl<|q1 o rfl (Ag o isAgg120 rfl (u.ld.cellB t0 rfl)) λa o=>⟨λ_=>(St.ldsX u i2 ta1),?_⟩
 refine da1 (i:=9) (by kernel_rfl) ?_
 refine di (i:=9) rfl<|cr o call143 (Kc (Ai _) C0 (St.srH u D0) E0) u λu o=>⟨λ_=>(St.ldsX u i2 ta1),?_⟩
 refine ds 10 (St.ldsX u i2 ta1) o rfl (Aj o rfl) λo=>ds 11 (St.ldsX u i2 ta1) o rfl (Af o Fq rfl) λo=>da1 (i:=12) (by kernel_rfl) ?_
 refine di (i:=12) rfl<|Ax o u sizeOf3 rfl rfl rfl rfl .head (.succ (.succ (.succ .zero))) λw u=>⟨λ_=>(St.ldsX u i2 ta1),?_⟩
 refine de (by kernel_rfl)<|?_
 obtain rfl:=si hm
 exact r0n o results107 ⟨oa3,cap4,rfl,C0,D0,(u.pickL (.cons .head .nil)).endMut⟩
 refine tn<|cfv o rfl F0<|wk<|?_
 obtain rfl:=si hm
 exact r0n o results107 ⟨oa3,cap4,rfl,C0,D0,(u.pickL (.cons .head .nil)).endMut⟩
set_option maxHeartbeats 4000000 in
theorem Yb (hH:H.le w0) {b2:Nat} {p1:leadlineref05_In} {oa3:Option Addr} {cap4:Nat} (R0:p1.L.length≤cap4) (C0:SR H oa3 p1.L) (hO:(sepA [bk b2 [SL oa3 p1.L cap4,i6 p1.At,i6 p1.E,i6 p1.Pos] 125]).ok (hp w0)) (hD:∀ b,(sepA [bk b2 [SL oa3 p1.L cap4,i6 p1.At,i6 p1.E,i6 p1.Pos] 125]).fp b→H b=none) {r:(api_Cell×leadlineref05_In)} (hm:Z3r N p1=some r):Tot Tryz.prog 104 #[PT b2] w0 (λv w'=>∃ (oa1m:Option Addr) (cap1m:Nat),v=.agg #[Ac r.1.Name,i6 r.1.N,i6 r.1.At]∧r.2.L.length≤cap1m∧SR H oa1m r.2.L∧Mut w0 (sepA [bk b2 [SL oa3 p1.L cap4,i6 p1.At,i6 p1.E,i6 p1.Pos] 125]) (sepA [bk b2 [SL oa1m r.2.L cap1m,i6 r.2.At,i6 r.2.E,i6 r.2.Pos] 125]) w'):=by
 unfold Z3r at hm
 refine fn0 func104 rfl ntmps104 rfl rfl λa o=>?_
 have u:=Cm hH hO hD
 refine th<|rg<|ls<|Aw (cs:=[Ac [],i6 0,i6 0].toArray) o rfl u Tryz.zeroValue53 rfl λb7 w a u o=>re<|tn<|th<|th<|Au (λa w=>∃ (O0:Bool),(Z3s N p1) O0=some r∧Fr 84 [(0,PT b2),(2,PT b7),(47,.bool O0)] a∧St w0 (sepA [bk b2 [SL oa3 p1.L cap4,i6 p1.At,i6 p1.E,i6 p1.Pos] 125]).fp [H] [bk b2 [SL oa3 p1.L cap4,i6 p1.At,i6 p1.E,i6 p1.Pos] 125,bk b7 [Ac [],i6 0,i6 0] 53] w) ?_ ?_
 rcases bip hm with ⟨F0,hm⟩ | ⟨F0,hm⟩
 rcases bip hm with ⟨M0,hm⟩ | ⟨M0,hm⟩
 obtain ⟨n0,D0,hm⟩:=bs hm
 obtain ⟨u0,V0,I0⟩:=SR.get C0 D0
 obtain rfl:=Bb V0
 rcases bip hm with ⟨J0,hm⟩ | ⟨J0,hm⟩
 obtain ⟨W0,X0,hm⟩:=bs hm
 refine rdS 45 u wide λw u=>dr 0 u o rfl (Ab o rfl) λo=>dr 1 u o rfl (Aj o rfl) λo=>dr 2 u o rfl (Af o Cq rfl) λo=>dq 3 u.ld o rfl (λw hl=>Ag o isAgg29 rfl (hl.cellB t1 rfl)) λo=>dr 4 u o rfl (Al o rfl rfl) λo=>dr 5 u o rfl (As (Ab o rfl) (congrArg Value.bool F0)) λo=>dg 6 u.ld o rfl (λw hl=>Ab o rfl) λo=>dg 7 u.ld o rfl (λw hl=>Aj o rfl) λo=>dg 8 u.ld o rfl (λw hl=>Af o Bh rfl) λo=>dg 9 u.ld o rfl (λw hl=>Ag o isAgg3 rfl (hl.cellB t1 rfl)) λo=>dg 10 u.ld o rfl (λw hl=>Ab o rfl) λo=>dg 11 u.ld o rfl (λw hl=>Aj o rfl) λo=>dg 12 u.ld o rfl (λw hl=>Af o Ch rfl) λo=>dg 13 u.ld o rfl (λw hl=>Ag o isAgg120 rfl (hl.cellB t1 rfl)) λo=>dg 14 u.ld o rfl (λw hl=>Ak (α:=api_Token) (xs:=p1.L) o runUnderlying120 rfl) λo=>dg 15 u.ld o rfl (λw hl=>Aq o rfl rfl) λo=>dr 16 u o rfl (Ad o rfl rfl) λo=>dr 17 u o rfl (As (Ab o rfl) (congrArg Value.bool M0)) λo=>dg 18 u.ld o rfl (λw hl=>Ab o rfl) λo=>dg 19 u.ld o rfl (λw hl=>Aj o rfl) λo=>dg 20 u.ld o rfl (λw hl=>Af o Ch rfl) λo=>dg 21 u.ld o rfl (λw hl=>Ag o isAgg120 rfl (hl.cellB t1 rfl)) λo=>dg 22 u.ld o rfl (λw hl=>Ab o rfl) λo=>dg 23 u.ld o rfl (λw hl=>Aj o rfl) λo=>dg 24 u.ld o rfl (λw hl=>Af o Bh rfl) λo=>dg 25 u.ld o rfl (λw hl=>Ag o isAgg3 rfl (hl.cellB t1 rfl)) λo=>dg 26 u.ld o rfl (λw hl=>An o runUnderlying120 sizeOf130 rfl rfl D0 (SR.oaI C0 (by decide) D0)) λo=>dg 27 u.ld o rfl (λw hl=>Af o Cr rfl) λo=>dg 28 u.ld o rfl (λw hl=>Ag o isAgg3 rfl (PH.le.cell (Lds.le hl) (I0 0 _ rfl))) λo=>dg 29 u.ld o rfl (λw hl=>Al o rfl rfl) λo=>?_
 refine dr 30 u o rfl (Ad o rfl rfl) λo=>dr 31 u o rfl (As (Ab o rfl) (congrArg Value.bool J0)) λo=>dg 32 u.ld o rfl (λw hl=>Ab o rfl) λo=>dg 33 u.ld o rfl (λw hl=>Aj o rfl) λo=>dg 34 u.ld o rfl (λw hl=>Af o Ch rfl) λo=>dg 35 u.ld o rfl (λw hl=>Ag o isAgg120 rfl (hl.cellB t1 rfl)) λo=>dg 36 u.ld o rfl (λw hl=>Ab o rfl) λo=>dg 37 u.ld o rfl (λw hl=>Aj o rfl) λo=>dg 38 u.ld o rfl (λw hl=>Af o Bh rfl) λo=>dg 39 u.ld o rfl (λw hl=>Ag o isAgg3 rfl (hl.cellB t1 rfl)) λo=>dg 40 u.ld o rfl (λw hl=>An o runUnderlying120 sizeOf130 rfl rfl D0 (SR.oaI C0 (by decide) D0)) λo=>dg 41 u.ld o rfl (λw hl=>Af o Eh rfl) λo=>dg 42 u.ld o rfl (λw hl=>Ag o isAgg9 rfl (PH.le.cell (Lds.le hl) (I0 1 _ rfl))) λo=>da1 (i:=43) (by kernel_rfl) ?_
 refine di (i:=43) rfl<|gy o rfl rfl<|cr o call114 (Jq (Ai _) X0) u λu o=>⟨λ_=>u.ld,?_⟩
 refine dr 44 u o rfl (Ad o rfl rfl) λo=>de (by kernel_rfl)<|tn<|?_
 replace u:=u.pk [1,0] rfl
 exact ⟨W0,hm,o.hs,u⟩
 refine rxS 45 u wide (by kernel_rfl) λw u=>xm u o rfl λo=>xr u o (Aj o rfl) λo=>xr u o (Af o Cq rfl) λo=>xq u.ld o (λw hl=>Ag o isAgg29 rfl (hl.cellB t1 rfl)) λo=>xr u o (Al o rfl rfl) λo=>xr u o (As (Ab o rfl) (congrArg Value.bool F0)) λo=>xg u.ld o (λw hl=>Ab o rfl) λo=>xg u.ld o (λw hl=>Aj o rfl) λo=>xg u.ld o (λw hl=>Af o Bh rfl) λo=>xg u.ld o (λw hl=>Ag o isAgg3 rfl (hl.cellB t1 rfl)) λo=>xg u.ld o (λw hl=>Ab o rfl) λo=>xg u.ld o (λw hl=>Aj o rfl) λo=>xg u.ld o (λw hl=>Af o Ch rfl) λo=>xg u.ld o (λw hl=>Ag o isAgg120 rfl (hl.cellB t1 rfl)) λo=>xg u.ld o (λw hl=>Ak (α:=api_Token) (xs:=p1.L) o runUnderlying120 rfl) λo=>xg u.ld o (λw hl=>Aq o rfl rfl) λo=>xr u o (Ad o rfl rfl) λo=>xr u o (As (Ab o rfl) (congrArg Value.bool M0)) λo=>xg u.ld o (λw hl=>Ab o rfl) λo=>xg u.ld o (λw hl=>Aj o rfl) λo=>xg u.ld o (λw hl=>Af o Ch rfl) λo=>xg u.ld o (λw hl=>Ag o isAgg120 rfl (hl.cellB t1 rfl)) λo=>xg u.ld o (λw hl=>Ab o rfl) λo=>xg u.ld o (λw hl=>Aj o rfl) λo=>xg u.ld o (λw hl=>Af o Bh rfl) λo=>xg u.ld o (λw hl=>Ag o isAgg3 rfl (hl.cellB t1 rfl)) λo=>xg u.ld o (λw hl=>An o runUnderlying120 sizeOf130 rfl rfl D0 (SR.oaI C0 (by decide) D0)) λo=>xg u.ld o (λw hl=>Af o Cr rfl) λo=>xg u.ld o (λw hl=>Ag o isAgg3 rfl (PH.le.cell (Lds.le hl) (I0 0 _ rfl))) λo=>xg u.ld o (λw hl=>Al o rfl rfl) λo=>?_
 refine xr u o (Ad o rfl rfl) λo=>xr u o (As (Ab o rfl) (congrArg Value.bool J0)) λo=>?_
 iterate 12 refine xn u.ld o λo=>?_
 refine xr u o (Ae o rfl rfl) λo=>xe<|tn<|?_
 replace u:=u.pk [1,0] rfl
 exact ⟨false,hm,o.hs,u⟩
 refine rxS 45 u wide (by kernel_rfl) λw u=>xm u o rfl λo=>xr u o (Aj o rfl) λo=>xr u o (Af o Cq rfl) λo=>xq u.ld o (λw hl=>Ag o isAgg29 rfl (hl.cellB t1 rfl)) λo=>xr u o (Al o rfl rfl) λo=>xr u o (As (Ab o rfl) (congrArg Value.bool F0)) λo=>xg u.ld o (λw hl=>Ab o rfl) λo=>xg u.ld o (λw hl=>Aj o rfl) λo=>xg u.ld o (λw hl=>Af o Bh rfl) λo=>xg u.ld o (λw hl=>Ag o isAgg3 rfl (hl.cellB t1 rfl)) λo=>xg u.ld o (λw hl=>Ab o rfl) λo=>xg u.ld o (λw hl=>Aj o rfl) λo=>xg u.ld o (λw hl=>Af o Ch rfl) λo=>xg u.ld o (λw hl=>Ag o isAgg120 rfl (hl.cellB t1 rfl)) λo=>xg u.ld o (λw hl=>Ak (α:=api_Token) (xs:=p1.L) o runUnderlying120 rfl) λo=>xg u.ld o (λw hl=>Aq o rfl rfl) λo=>xr u o (Ad o rfl rfl) λo=>xr u o (As (Ab o rfl) (congrArg Value.bool M0)) λo=>?_
 iterate 12 refine xn u.ld o λo=>?_
 refine xr u o (Ae o rfl rfl) λo=>xm u o rfl λo=>?_
 iterate 12 refine xn u.ld o λo=>?_
 refine xr u o (Ae o rfl rfl) λo=>xe<|tn<|?_
 replace u:=u.pk [1,0] rfl
 exact ⟨false,hm,o.hs,u⟩
 refine rxS 45 u wide (by kernel_rfl) λw u=>xm u o rfl λo=>xr u o (Aj o rfl) λo=>xr u o (Af o Cq rfl) λo=>xq u.ld o (λw hl=>Ag o isAgg29 rfl (hl.cellB t1 rfl)) λo=>xr u o (Al o rfl rfl) λo=>xr u o (As (Ab o rfl) (congrArg Value.bool F0)) λo=>?_
 iterate 10 refine xn u.ld o λo=>?_
 refine xr u o (Ae o rfl rfl) λo=>xm u o rfl λo=>?_
 iterate 12 refine xn u.ld o λo=>?_
 refine xr u o (Ae o rfl rfl) λo=>xm u o rfl λo=>?_
 iterate 12 refine xn u.ld o λo=>?_
 refine xr u o (Ae o rfl rfl) λo=>xe<|tn<|?_
 replace u:=u.pk [1,0] rfl
 exact ⟨false,hm,o.hs,u⟩
 rintro a w ⟨O0,hm,o,u⟩
 unfold Z3s at hm
 rcases bit hm with ⟨K0,hm⟩ | ⟨K0,hm⟩
 refine ctv o rfl K0<|th<|rg<|qm o rfl λo=>qm o rfl λo=>qv o (Aj o rfl) λo=>qv o (Af o Bh rfl) λo=>qv o (Ag o isAgg3 rfl (u.ld.cellB t0 rfl)) λo=>qv o (Ap o rfl rfl) λo=>qv o (Aj o rfl) λo=>qv o (Af o Bh rfl) λo=>ls<|Ax o u sizeOf3 rfl rfl rfl rfl .head (.succ .zero) λw u=>re<|tn<|th<|?_
 obtain ⟨E0,G0,hm⟩:=bs hm
 obtain ⟨B1,Y0,P0⟩:=SR.get C0 G0
 obtain rfl:=Bb Y0
 refine rxS 25 u wide (by kernel_rfl) λw u=>xm u o rfl λo=>xr u o (Aj o rfl) λo=>xr u o (Af o Ch rfl) λo=>xq u.ld o (λw hl=>Ag o isAgg120 rfl (hl.cellB t0 rfl)) λo=>xm u o rfl λo=>xr u o (Aj o rfl) λo=>xr u o (Af o Bh rfl) λo=>xq u.ld o (λw hl=>Ag o isAgg3 rfl (hl.cellB t0 rfl)) λo=>xr u o (Gp o rfl rfl) λo=>xr u o (An o runUnderlying120 sizeOf130 rfl rfl G0 (SR.oaI C0 (by decide) G0)) λo=>xr u o (Af o Eh rfl) λo=>xq u.ld o (λw hl=>Ag o isAgg9 rfl (PH.le.cell (Lds.le hl) (P0 1 _ rfl))) λo=>xm u o rfl λo=>xr u o (Aj o rfl) λo=>xr u o (Af o Ch rfl) λo=>xq u.ld o (λw hl=>Ag o isAgg120 rfl (hl.cellB t0 rfl)) λo=>xm u o rfl λo=>xr u o (Aj o rfl) λo=>xr u o (Af o Bh rfl) λo=>xq u.ld o (λw hl=>Ag o isAgg3 rfl (hl.cellB t0 rfl)) λo=>xr u o (Gp o rfl rfl) λo=>xr u o (An o runUnderlying120 sizeOf130 rfl rfl G0 (SR.oaI C0 (by decide) G0)) λo=>xr u o (Af o Dh rfl) λo=>xq u.ld o (λw hl=>Ag o isAgg3 rfl (PH.le.cell (Lds.le hl) (P0 3 _ rfl))) λo=>xq u.ld o (λw hl=>Bu [Ac E0.Text,i6 E0.At] [Ac E0.Text,i6 0,i6 E0.At] o ⟨rfl,rfl,trivial⟩ (λw=>by kernel_rfl)) λo=>xz rfl<|Ba o u sizeOf53 rfl rfl rfl rfl (Am rfl) (.tail .head) λw u=>tn<|wr<|tr<|?_
 obtain rfl:=si hm
 exact r1c (vs:=[Ac E0.Text,i6 0,i6 E0.At]) (.inl rfl) o results104 rfl isAgg53 sizeOf53 rfl (u.ld.cellsB t1) ⟨oa3,cap4,rfl,R0,C0,(u.pickL (.cons .head .nil)).endMut⟩
 refine cfv o rfl K0<|wk<|tn<|th<|?_
 obtain ⟨C1,j0,hm⟩:=bs hm
 refine rg<|qm o rfl λo=>?_
 replace u:=u.pk [0,0] rfl
 replace u:=St.sep [bk b2 [SL oa3 p1.L cap4,i6 p1.At,i6 p1.E,i6 p1.Pos] 125] u
 refine ls<|c1 o rfl call107 (Rl (St.le u) (p1:=p1) (b2:=b2) (oa3:=oa3) (cap4:=cap4) R0 C0 (St.sepOk u) (St.sepDis u) j0) ⟨rfl,trivial⟩ (λv w a hR o=>?_)
 obtain ⟨S0,Q0,rfl,T0,U0,hk⟩:=hR
 replace u:=(u.mut hk .head).unsep
 refine re<|tn<|th<|rg<|qv o (Bu [] [Ac [],i6 0,i6 0] o trivial (λw=>by kernel_rfl)) λo=>ls<|Ba o u sizeOf53 rfl rfl rfl rfl (Am rfl) (.tail .head) λw u=>re<|tn<|wr<|?_
 obtain rfl:=si hm
 exact r1c (vs:=[Ac [],i6 0,i6 0]) (.inl rfl) o results104 rfl isAgg53 sizeOf53 rfl (u.ld.cellsB t1) ⟨S0,Q0,rfl,T0,U0,(u.pickL (.cons .head .nil)).endMut⟩
theorem Vs (hH:H.le w0) {b2:Nat} {p1:leadlineref05_In} {oa3:Option Addr} {cap4:Nat} (P0:p1.L.length≤cap4) (Q0:SR H oa3 p1.L) {p7:Str} (hO:(sepA [bk b2 [SL oa3 p1.L cap4,i6 p1.At,i6 p1.E,i6 p1.Pos] 125]).ok (hp w0)) (hD:∀ b,(sepA [bk b2 [SL oa3 p1.L cap4,i6 p1.At,i6 p1.E,i6 p1.Pos] 125]).fp b→H b=none) {r:leadlineref05_In} (hm:Z3q N p1 p7=some r):Tot Tryz.prog 140 #[PT b2,Ac p7] w0 (λv w'=>∃ (oa1m:Option Addr) (cap1m:Nat),v=.tuple #[]∧r.L.length≤cap1m∧SR H oa1m r.L∧Mut w0 (sepA [bk b2 [SL oa3 p1.L cap4,i6 p1.At,i6 p1.E,i6 p1.Pos] 125]) (sepA [bk b2 [SL oa1m r.L cap1m,i6 r.At,i6 r.E,i6 r.Pos] 125]) w'):=by
 unfold Z3q at hm
 refine fn0 func140 rfl ntmps140 rfl rfl λa o=>?_
 have u:=Cm hH hO hD
 refine th<|?_
 obtain ⟨D0,h9,hm⟩:=bs hm
 refine rg<|qm o rfl λo=>qm o rfl λo=>?_
 replace u:=u.pk [0] rfl
 replace u:=St.sep [bk b2 [SL oa3 p1.L cap4,i6 p1.At,i6 p1.E,i6 p1.Pos] 125] u
 refine ls<|c1 o rfl call102 (H7 (St.le u) (p1:=p1) (b2:=b2) (oa3:=oa3) (cap4:=cap4) P0 Q0 (St.sepOk u) (St.sepDis u) h9) ⟨rfl,rfl,trivial⟩ (λv w a hR o=>?_)
 obtain ⟨E0,C0,rfl,G0,I0,hk⟩:=hR
 replace u:=(u.mut hk .head).unsep
 refine qv o (Az o rfl) λo=>re<|?_
 rcases bit hm with ⟨F0,hm⟩ | ⟨F0,hm⟩
 refine tn<|cfv o rfl (by rw [F0];rfl)<|wk<|?_
 obtain rfl:=si hm
 exact r0n o results140 ⟨E0,C0,rfl,G0,I0,(u.pickL (.cons .head .nil)).endMut⟩
 refine tn<|ctv o rfl (by rw [F0];rfl)<|?_
 obtain ⟨S0,R0,hm⟩:=bs hm
 refine rg<|qm o rfl λo=>?_
 replace u:=u.pk [0] rfl
 replace u:=St.sep [bk b2 [SL E0 D0.2.L C0,i6 D0.2.At,i6 D0.2.E,i6 D0.2.Pos] 125] u
 refine ls<|c1 o rfl call107 (Rl (St.le u) (p1:=D0.2) (b2:=b2) (oa3:=E0) (cap4:=C0) G0 I0 (St.sepOk u) (St.sepDis u) R0) ⟨rfl,trivial⟩ (λv w a hR o=>?_)
 obtain ⟨K0,J0,rfl,M0,O0,hk⟩:=hR
 replace u:=(u.mut hk .head).unsep
 refine re<|?_
 obtain rfl:=si hm
 exact r0n o results140 ⟨K0,J0,rfl,M0,O0,(u.pickL (.cons .head .nil)).endMut⟩
set_option maxHeartbeats 4000000 in
theorem Rk (hH:H.le w0) {b2:Nat} {p1:leadlineref05_In} {oa3:Option Addr} {cap4:Nat} (Y3:p1.L.length≤cap4) (l3:SR H oa3 p1.L) {p7:Bool} (hO:(sepA [bk b2 [SL oa3 p1.L cap4,i6 p1.At,i6 p1.E,i6 p1.Pos] 125]).ok (hp w0)) (hD:∀ b,(sepA [bk b2 [SL oa3 p1.L cap4,i6 p1.At,i6 p1.E,i6 p1.Pos] 125]).fp b→H b=none) {r:((List api_Cell)×leadlineref05_In)} (hm:Z3t N p1 p7=some r):Tot Tryz.prog 103 #[PT b2,.bool p7] w0 (λv w'=>∃ (C3:Option Addr) (K2:Nat) (D3:List Value) (oa1m:Option Addr) (cap1m:Nat),v=SL C3 r.1 K2∧(∀ h,Rows h D3 r.1)∧r.2.L.length≤cap1m∧SR H oa1m r.2.L∧Mut w0 (sepA [bk b2 [SL oa3 p1.L cap4,i6 p1.At,i6 p1.E,i6 p1.Pos] 125]) (sepA [bk b2 [SL oa1m r.2.L cap1m,i6 r.2.At,i6 r.2.E,i6 r.2.Pos] 125,sla 53 3 C3 r.1.length K2 D3]) w'):=by
 unfold Z3t at hm
 refine fn0 func103 rfl ntmps103 rfl rfl λa o=>?_
 have u:=Cm hH hO hD
 refine th<|rg<|qa o rfl λo=>re<|tn<|th<|rg<|ls<|Bl (e:=53) (sz:=3) [] o rfl u rfl rfl rfl (λw=>by kernel_rfl) λb9 w a u o=>?_
 have u3:Rows (α:=api_Cell) H [] []:=.nil
 refine qa o rfl λo=>re<|tn<|th<|th<|rg<|qa o rfl λo=>re<|tn<|Au (λa w=>∃ (j0:(List api_Token)) (R1:Int) (S1:Int) (T1:Int) (U1:(List api_Cell)) (n0:Option Addr) (R0:Nat) (M1:Option Addr) (u0:Nat) (O1:List Value),(Z3u N) j0 R1 S1 T1 U1=some r∧Fr 79 [(0,PT b2),(5,SL M1 U1 u0)] a∧St w0 (sepA [bk b2 [SL oa3 p1.L cap4,i6 p1.At,i6 p1.E,i6 p1.Pos] 125]).fp [H] [bk b2 [SL n0 j0 R0,i6 R1,i6 S1,i6 T1] 125,sla 53 3 M1 U1.length u0 O1] w∧j0.length≤R0∧SR H n0 j0∧Rows H O1 U1) ?_ ?_
 replace u:=u.pk [1,0] rfl
 refine wb<|lp (α:=Nat×(List api_Token)×Int×Int×Int×(List api_Cell)×Bool) (λgh a w=>match gh with | (X0,Y0,G1,B1,I1,G0,P1)=>∃ (W0:Option Addr) (P0:Nat) (F0:Option Addr) (C0:Nat) (K0:List Value),(Z3y N (Z3u N) p7) X0 Y0 G1 B1 I1 G0 P1=some r∧Fr 79 [(0,PT b2),(1,.bool p7),(5,SL F0 G0 C0),(6,.bool P1)] a∧St w0 (sepA [bk b2 [SL oa3 p1.L cap4,i6 p1.At,i6 p1.E,i6 p1.Pos] 125]).fp [H] [bk b2 [SL W0 Y0 P0,i6 G1,i6 B1,i6 I1] 125,sla 53 3 F0 G0.length C0 K0] w∧Y0.length≤P0∧SR H W0 Y0∧Rows H K0 G0) (λgh=>gh.1) (N,p1.L,p1.At,p1.E,p1.Pos,[],true) ⟨oa3,cap4,(some ⟨b9,0,none⟩),0,[],hm,o.hs,u,Y3,l3,u3⟩ ?_
 rintro ⟨X0,Y0,G1,B1,I1,G0,P1⟩ a w ⟨W0,P0,F0,C0,K0,hm,o,u,hcB4,hrB5,I2⟩
 obtain _ | X0:=X0
 simp [Z3y] at hm
 rw [Z3y] at hm
 refine th<|th<|rg<|qm o rfl λo=>qm o rfl λo=>gr (Fk:=[(0,PT b2),(1,.bool p7),(5,SL F0 G0 C0),(16,.bool (P1 && (decide (B1=0))))]) 10 6 o u ?_ ?_ ?_
 intro hb o key
 exact qg o (Ab o rfl) λo=>qg o (Aj o rfl) λo=>qg o (Af o Cq rfl) λo=>qg o (Ag o isAgg29 rfl (u.ld.cellB t0 rfl)) λo=>qg o (Al o rfl rfl) λo=>qk o (Ad o rfl rfl) key u hb
 intro hb o key
 iterate 5 refine qn o λo=>?_
 exact qk o (Ae o rfl rfl) key u hb
 intro a w o u
 refine re<|?_
 rcases bit hm with ⟨Y1,hm⟩ | ⟨Y1,hm⟩
 refine tn<|ctv o rfl Y1<|wk<|tn<|th<|wb<|th<|?_
 obtain ⟨E0,A4,hm⟩:=bs hm
 refine rg<|qm o rfl λo=>?_
 replace u:=u.pk [0,0] rfl
 replace u:=St.sep [bk b2 [SL W0 Y0 P0,i6 G1,i6 B1,i6 I1] 125] u
 refine ls<|c1 o rfl call104 (Yb (St.le u) (p1:=(leadlineref05_In.mk Y0 G1 B1 I1)) (b2:=b2) (oa3:=W0) (cap4:=P0) hcB4 hrB5 (St.sepOk u) (St.sepDis u) A4) ⟨rfl,trivial⟩ (λv w a hR o=>?_)
 obtain ⟨B2,Q1,rfl,M2,O2,hk⟩:=hR
 replace u:=(u.mut hk .head).unsep
 refine ls<|Aw (cs:=[Ac [],i6 0,i6 0].toArray) o rfl u zeroValue53 rfl λJ1 w a u o=>ls<|Ba o u sizeOf53 rfl rfl rfl rfl (Am rfl) .head λw u=>re<|tn<|th<|th<|Au (λa w=>∃ (J0:(List api_Token)) (S0:Int) (T0:Int) (U0:Int) (P2:Bool) (M0:Option Addr) (I0:Nat),(Z3v N (Z3y N (Z3u N) p7 X0) E0 G0) J0 S0 T0 U0 P2=some r∧Fr 79 [(0,PT b2),(1,.bool p7),(5,SL F0 G0 C0),(7,PT J1),(25,.bool P2)] a∧St w0 (sepA [bk b2 [SL oa3 p1.L cap4,i6 p1.At,i6 p1.E,i6 p1.Pos] 125]).fp [H] [bk b2 [SL M0 J0 I0,i6 S0,i6 T0,i6 U0] 125,sla 53 3 F0 G0.length C0 K0,bk J1 [Ac E0.1.Name,i6 E0.1.N,i6 E0.1.At] 53] w∧J0.length≤I0∧SR H M0 J0) ?_ ?_
 rcases bit hm with ⟨C2,hm⟩ | ⟨C2,hm⟩
 obtain ⟨V1,B4,hm⟩:=bs hm
 refine rg<|qm o rfl λo=>qv o (As (Ab o rfl) (congrArg Value.bool C2)) λo=>qg o (Ab o rfl) λo=>?_
 replace u:=u.pk [1,0,0] rfl
 replace u:=St.sep [bk b2 [SL B2 E0.2.L Q1,i6 E0.2.At,i6 E0.2.E,i6 E0.2.Pos] 125] u
 refine ls<|gy o rfl rfl<|c1 o rfl call102 (H7 (St.le u) (p1:=E0.2) (b2:=b2) (oa3:=B2) (cap4:=Q1) M2 O2 (St.sepOk u) (St.sepDis u) B4) ⟨rfl,rfl,trivial⟩ (λv w a hR o=>?_)
 obtain ⟨E3,V2,rfl,F3,G3,hk⟩:=hR
 replace u:=(u.mut hk .head).unsep
 refine qv o (Ad o rfl rfl) λo=>re<|tn<|?_
 replace u:=u.pk [0,1,0] rfl
 exact ⟨V1.2.L,V1.2.At,V1.2.E,V1.2.Pos,V1.1,E3,V2,hm,o.hs,u,F3,G3⟩
 refine rg<|qm o rfl λo=>qv o (As (Ab o rfl) (congrArg Value.bool C2)) λo=>?_
 iterate 2 refine qn o λo=>?_
 refine qv o (Ae o rfl rfl) λo=>re<|tn<|?_
 replace u:=u.pk [1,1,0] rfl
 exact ⟨E0.2.L,E0.2.At,E0.2.E,E0.2.Pos,false,B2,Q1,hm,o.hs,u,M2,O2⟩
 rintro a w ⟨J0,S0,T0,U0,P2,M0,I0,hm,o,u,hcC4,hrC5⟩
 unfold Z3v at hm
 refine Au (λa w=>∃ (Q0:(List api_Token)) (C1:Int) (E1:Int) (F1:Int) (D0:api_Cell) (V0:Option Addr) (O0:Nat),(Z3w N (Z3y N (Z3u N) p7 X0) G0) Q0 C1 E1 F1 D0=some r∧Fr 79 [(0,PT b2),(1,.bool p7),(5,SL F0 G0 C0),(7,PT J1)] a∧St w0 (sepA [bk b2 [SL oa3 p1.L cap4,i6 p1.At,i6 p1.E,i6 p1.Pos] 125]).fp [H] [bk b2 [SL V0 Q0 O0,i6 C1,i6 E1,i6 F1] 125,sla 53 3 F0 G0.length C0 K0,bk J1 [Ac D0.Name,i6 D0.N,i6 D0.At] 53] w∧Q0.length≤O0∧SR H V0 Q0) ?_ ?_
 rcases bit hm with ⟨E2,hm⟩ | ⟨E2,hm⟩
 refine ctv o rfl E2<|th<|Au (λa w=>∃ (Q2:Bool),(Z3x N (Z3w N (Z3y N (Z3u N) p7 X0) G0) E0 J0 S0 T0 U0) Q2=some r∧Fr 79 [(0,PT b2),(1,.bool p7),(5,SL F0 G0 C0),(7,PT J1),(49,.bool Q2)] a∧St w0 (sepA [bk b2 [SL oa3 p1.L cap4,i6 p1.At,i6 p1.E,i6 p1.Pos] 125]).fp [H] [bk b2 [SL M0 J0 I0,i6 S0,i6 T0,i6 U0] 125,sla 53 3 F0 G0.length C0 K0,bk J1 [Ac E0.1.Name,i6 E0.1.N,i6 E0.1.At] 53] w) ?_ ?_
 rcases bip hm with ⟨F2,hm⟩ | ⟨F2,hm⟩
 obtain ⟨C4,R2,hm⟩:=bs hm
 obtain ⟨M4,D4,I3⟩:=SR.get hrC5 R2
 obtain rfl:=Bb D4
 refine rxS 24 u wide (by kernel_rfl) λw u=>xm u o rfl λo=>xr u o (Aj o rfl) λo=>xr u o (Af o Bh rfl) λo=>xq u.ld o (λw hl=>Ag o isAgg3 rfl (hl.cellB t0 rfl)) λo=>xm u o rfl λo=>xr u o (Aj o rfl) λo=>xr u o (Af o Ch rfl) λo=>xq u.ld o (λw hl=>Ag o isAgg120 rfl (hl.cellB t0 rfl)) λo=>xr u o (Ak (α:=api_Token) (xs:=J0) o runUnderlying120 rfl) λo=>xr u o (Aq o rfl rfl) λo=>xr u o (As (Ab o rfl) (congrArg Value.bool F2)) λo=>xg u.ld o (λw hl=>Ab o rfl) λo=>xg u.ld o (λw hl=>Aj o rfl) λo=>xg u.ld o (λw hl=>Af o Ch rfl) λo=>xg u.ld o (λw hl=>Ag o isAgg120 rfl (hl.cellB t0 rfl)) λo=>xg u.ld o (λw hl=>Ab o rfl) λo=>xg u.ld o (λw hl=>Aj o rfl) λo=>xg u.ld o (λw hl=>Af o Bh rfl) λo=>xg u.ld o (λw hl=>Ag o isAgg3 rfl (hl.cellB t0 rfl)) λo=>xg u.ld o (λw hl=>An o runUnderlying120 sizeOf130 rfl rfl R2 (SR.oaI hrC5 (by decide) R2)) λo=>xg u.ld o (λw hl=>Af o Cr rfl) λo=>xg u.ld o (λw hl=>Ag o isAgg3 rfl (PH.le.cell (Lds.le hl) (I3 0 _ rfl))) λo=>xg u.ld o (λw hl=>Al o rfl rfl) λo=>xr u o (Ad o rfl rfl) λo=>xe<|tn<|?_
 exact ⟨(decide (C4.Kind=2)),hm,o.hs,u⟩
 refine rxS 24 u wide (by kernel_rfl) λw u=>xm u o rfl λo=>xr u o (Aj o rfl) λo=>xr u o (Af o Bh rfl) λo=>xq u.ld o (λw hl=>Ag o isAgg3 rfl (hl.cellB t0 rfl)) λo=>xm u o rfl λo=>xr u o (Aj o rfl) λo=>xr u o (Af o Ch rfl) λo=>xq u.ld o (λw hl=>Ag o isAgg120 rfl (hl.cellB t0 rfl)) λo=>xr u o (Ak (α:=api_Token) (xs:=J0) o runUnderlying120 rfl) λo=>xr u o (Aq o rfl rfl) λo=>xr u o (As (Ab o rfl) (congrArg Value.bool F2)) λo=>?_
 iterate 12 refine xn u.ld o λo=>?_
 refine xr u o (Ae o rfl rfl) λo=>xe<|tn<|?_
 exact ⟨false,hm,o.hs,u⟩
 rintro a w ⟨Q2,hm,o,u⟩
 unfold Z3x at hm
 rcases bit hm with ⟨G2,hm⟩ | ⟨G2,hm⟩
 refine ctv o rfl G2<|th<|?_
 obtain ⟨E4,U2,hm⟩:=bs hm
 obtain ⟨O4,F4,J3⟩:=SR.get hrC5 U2
 obtain rfl:=Bb F4
 refine rxS 12 u wide (by kernel_rfl) λw u=>xm u o rfl λo=>xr u o (Aj o rfl) λo=>xr u o (Af o Ch rfl) λo=>xq u.ld o (λw hl=>Ag o isAgg120 rfl (hl.cellB t0 rfl)) λo=>xm u o rfl λo=>xr u o (Aj o rfl) λo=>xr u o (Af o Bh rfl) λo=>xq u.ld o (λw hl=>Ag o isAgg3 rfl (hl.cellB t0 rfl)) λo=>xr u o (An o runUnderlying120 sizeOf130 rfl rfl U2 (SR.oaI hrC5 (by decide) U2)) λo=>xr u o (Af o Gf rfl) λo=>xq u.ld o (λw hl=>Ag o isAgg3 rfl (PH.le.cell (Lds.le hl) (J3 2 _ rfl))) λo=>xr u o (Af o Ft rfl) λo=>xz rfl<|Ax o u sizeOf3 rfl rfl rfl rfl (.tail (.tail .head)) (.succ .zero) λw u=>tn<|rg<|qm o rfl λo=>qm o rfl λo=>qv o (Aj o rfl) λo=>qv o (Af o Bh rfl) λo=>qv o (Ag o isAgg3 rfl (u.ld.cellB t0 rfl)) λo=>qv o (Ap o rfl rfl) λo=>qv o (Aj o rfl) λo=>qv o (Af o Bh rfl) λo=>ls<|Ax o u sizeOf3 rfl rfl rfl rfl .head (.succ .zero) λw u=>re<|tn<|?_
 exact ⟨J0,(IntKind.i64.wrap (S0+1)),T0,U0,(api_Cell.mk E0.1.Name E4.N E0.1.At),M0,I0,hm,o.hs,u,hcC4,hrC5⟩
 refine cfv o rfl G2<|?_
 obtain ⟨J2,G4,hm⟩:=bs hm
 refine rg<|qm o rfl λo=>?_
 replace u:=u.pk [0,0,0] rfl
 replace u:=St.sep [bk b2 [SL M0 J0 I0,i6 S0,i6 T0,i6 U0] 125] u
 refine ls<|c1 o rfl call107 (Rl (St.le u) (p1:=(leadlineref05_In.mk J0 S0 T0 U0)) (b2:=b2) (oa3:=M0) (cap4:=I0) hcC4 hrC5 (St.sepOk u) (St.sepDis u) G4) ⟨rfl,trivial⟩ (λv w a hR o=>?_)
 obtain ⟨K3,W2,rfl,L3,M3,hk⟩:=hR
 replace u:=(u.mut hk .head).unsep
 refine re<|tn<|?_
 exact ⟨J2.L,J2.At,J2.E,J2.Pos,E0.1,K3,W2,hm,o.hs,u,L3,M3⟩
 refine cfv o rfl E2<|wk<|tn<|?_
 exact ⟨J0,S0,T0,U0,E0.1,M0,I0,hm,o.hs,u,hcC4,hrC5⟩
 rintro a w ⟨Q0,C1,E1,F1,D0,V0,O0,hm,o,u,hcC13,hrC14⟩
 unfold Z3w at hm
 obtain ⟨I4,J4,hm⟩:=bs hm
 refine rg<|qm o rfl λo=>qv o (Ay o isAgg53 sizeOf53 rfl rfl (u.ld.cellsB t2)) λo=>ls<|Bl (e:=53) (sz:=3) [Ac D0.Name,i6 D0.N,i6 D0.At] o rfl u rfl rfl rfl (λw=>by kernel_rfl) λP4 w a u o=>?_
 have O3:Rows (α:=api_Cell) H [Ac D0.Name,i6 D0.N,i6 D0.At] ([D0]:List api_Cell):=(.cons (c:=[Ac D0.Name,i6 D0.N,i6 D0.At]) ⟨_,_,rfl,rfl,⟨_,_,rfl,rfl,rfl⟩⟩ .nil)
 refine ls<|Cl (α:=api_Cell) (xs:=G0) (ys:=([D0]:List api_Cell)) o rfl u underlying23 Hb rfl (by decide) rfl rfl rfl t2 I2 (u.rdO t0) O3 J4 λP3 X2 Q3 w a R3 hU o=>?_
 replace u:=hU _ (.tail (.tail .head))
 replace u:=u.drop .head
 refine qa o rfl λo=>re<|bn<|tn<|?_
 obtain ⟨X1,K4,hm⟩:=bs hm
 refine rg<|qm o rfl λo=>?_
 replace u:=u.pk [0,0,0] rfl
 replace u:=St.sep [bk b2 [SL V0 Q0 O0,i6 C1,i6 E1,i6 F1] 125] u
 refine ls<|c1 o rfl call102 (H7 (St.le u) (p1:=(leadlineref05_In.mk Q0 C1 E1 F1)) (b2:=b2) (oa3:=V0) (cap4:=O0) hcC13 hrC14 (St.sepOk u) (St.sepDis u) K4) ⟨rfl,rfl,trivial⟩ (λv w a hR o=>?_)
 obtain ⟨S3,Y2,rfl,T3,U3,hk⟩:=hR
 replace u:=(u.mut hk .head).unsep
 refine qa o rfl λo=>re<|tn<|?_
 replace u:=u.pk [0,0] rfl
 exact ⟨(X0,X1.2.L,X1.2.At,X1.2.E,X1.2.Pos,I4,X1.1),⟨S3,Y2,P3,X2,Q3,hm,o.hs,u,T3,U3,R3⟩,Nat.lt_succ_self _⟩
 refine tn<|cfv o rfl Y1<|we<|tx<|tx<|bx<|tn<|?_
 exact ⟨Y0,G1,B1,I1,G0,W0,P0,F0,C0,K0,hm,o.has ⟨rfl,rfl,trivial⟩,u,hcB4,hrB5,I2⟩
 rintro a w ⟨j0,R1,S1,T1,U1,n0,R0,M1,u0,O1,hm,o,u,hcA4,hrA5,A3⟩
 unfold Z3u at hm
 refine th<|?_
 obtain ⟨Q4,L4,hm⟩:=bs hm
 refine rg<|qm o rfl λo=>?_
 replace u:=u.pk [0,0] rfl
 replace u:=St.sep [bk b2 [SL n0 j0 R0,i6 R1,i6 S1,i6 T1] 125] u
 refine ls<|c1 o rfl call140 (Vs (St.le u) (p1:=(leadlineref05_In.mk j0 R1 S1 T1)) (b2:=b2) (oa3:=n0) (cap4:=R0) hcA4 hrA5 (St.sepOk u) (St.sepDis u) L4) ⟨rfl,rfl,trivial⟩ (λv w a hR o=>?_)
 obtain ⟨V3,B3,rfl,W3,X3,hk⟩:=hR
 replace u:=(u.mut hk .head).unsep
 refine re<|tn<|th<|rg<|qm o rfl λo=>qa o rfl λo=>re<|tn<|wr<|?_
 obtain rfl:=si hm
 exact r1 o results103 rfl ⟨_,_,_,V3,B3,rfl,(λ_=>Rows.ind A3),W3,X3,(u.pickL (.cons .head (.cons .head .nil))).endMut⟩
theorem Jcq (hH:H.le w0) {p1:Int} {r:Str} (hm:Z39 N p1=some r):Tot Tryz.prog 166 #[i6 p1] w0 (λv w'=>v=Ac r∧Keep Nil w0 w'):=by
 unfold Z39 at hm
 refine fn0 func166 rfl ntmps166 rfl rfl λa o=>?_
 have u:St w0 Nil [H] [] w0:=start1 hH
 refine th<|rg<|qa o rfl λo=>re<|tn<|th<|?_
 obtain ⟨D0,h6,hm⟩:=bs hm
 refine rg<|ls<|Bl (e:=9) (sz:=1) [Ac [],Ac [],Ac [108,111,97,100],Ac [115,116,111,114,101],Ac [99,97,115],Ac [102,108,117,115,104],Ac [111,112,116],Ac [115,102,101,110,99,101],Ac [109,102,101,110,99,101],Ac [116,97,107,101],Ac [103,105,118,101],Ac [105,102],Ac [108,111,111,112],Ac [98,114,101,97,107],Ac [99,104,101,99,107]] o rfl u rfl rfl rfl (λw=>by kernel_rfl) λb3 w a u o=>?_
 have C0:Rows (α:=Str) H [Ac [],Ac [],Ac [108,111,97,100],Ac [115,116,111,114,101],Ac [99,97,115],Ac [102,108,117,115,104],Ac [111,112,116],Ac [115,102,101,110,99,101],Ac [109,102,101,110,99,101],Ac [116,97,107,101],Ac [103,105,118,101],Ac [105,102],Ac [108,111,111,112],Ac [98,114,101,97,107],Ac [99,104,101,99,107]] ([[],[],[108,111,97,100],[115,116,111,114,101],[99,97,115],[102,108,117,115,104],[111,112,116],[115,102,101,110,99,101],[109,102,101,110,99,101],[116,97,107,101],[103,105,118,101],[105,102],[108,111,111,112],[98,114,101,97,107],[99,104,101,99,107]]:List Str):=(.cons (c:=[Ac []]) rfl (.cons (c:=[Ac []]) rfl (.cons (c:=[Ac [108,111,97,100]]) rfl (.cons (c:=[Ac [115,116,111,114,101]]) rfl (.cons (c:=[Ac [99,97,115]]) rfl (.cons (c:=[Ac [102,108,117,115,104]]) rfl (.cons (c:=[Ac [111,112,116]]) rfl (.cons (c:=[Ac [115,102,101,110,99,101]]) rfl (.cons (c:=[Ac [109,102,101,110,99,101]]) rfl (.cons (c:=[Ac [116,97,107,101]]) rfl (.cons (c:=[Ac [103,105,118,101]]) rfl (.cons (c:=[Ac [105,102]]) rfl (.cons (c:=[Ac [108,111,111,112]]) rfl (.cons (c:=[Ac [98,114,101,97,107]]) rfl (.cons (c:=[Ac [99,104,101,99,107]]) rfl .nil)))))))))))))))
 refine qm o rfl λo=>qv o (An o runUnderlying36 sizeOf9 rfl rfl h6 (Rd.oaI (u.ld.rdO t0) C0 (by decide) h6)) λo=>?_
 obtain ⟨cz7,g8,E0⟩:=Rows.getI C0 h6
 obtain rfl:cz7=[Ac D0]:=g8
 refine qv o (Ag o isAgg9 rfl (u.ld.elO t0 (E0 0 _ rfl))) λo=>qa o rfl λo=>re<|tn<|wr<|?_
 obtain rfl:=si hm
 exact r1 o results166 rfl ⟨rfl,u.keep⟩
theorem Mx (hH:H.le w0) {b2:Nat} {p1:leadlineref04_P} {oa3:Option Addr} {cap4:Nat} (C0:p1.L.length≤cap4) (D0:SR H oa3 p1.L) {oa7:Option Addr} {cap8:Nat} {vs9:List Value} (E0:Rows H vs9 p1.Out) {p12:Int} (hO:(sepA [bk b2 [SL oa3 p1.L cap4,i6 p1.At,i6 p1.E,i6 p1.Pos,SL oa7 p1.Out cap8] 171,sla 51 9 oa7 p1.Out.length cap8 vs9]).ok (hp w0)) (hD:∀ b,(sepA [bk b2 [SL oa3 p1.L cap4,i6 p1.At,i6 p1.E,i6 p1.Pos,SL oa7 p1.Out cap8] 171,sla 51 9 oa7 p1.Out.length cap8 vs9]).fp b→H b=none) {r:leadlineref04_P} (hm:Z2a N p1 p12=some r):Tot Tryz.prog 167 #[PT b2,i6 p12] w0 (λv w'=>∃ (H':PH) (oa1m:Option Addr) (cap1m:Nat) (oa2m:Option Addr) (cap2m:Nat) (vs2m:List Value),v=.tuple #[]∧r.L.length≤cap1m∧SR H' oa1m r.L∧Rows H' vs2m r.Out∧ExtM w0 (sepA [bk b2 [SL oa3 p1.L cap4,i6 p1.At,i6 p1.E,i6 p1.Pos,SL oa7 p1.Out cap8] 171,sla 51 9 oa7 p1.Out.length cap8 vs9]).fp H H'∧H'.le w'∧(∀ b,(sepA [bk b2 [SL oa1m r.L cap1m,i6 r.At,i6 r.E,i6 r.Pos,SL oa2m r.Out cap2m] 171,sla 51 9 oa2m r.Out.length cap2m vs2m]).fp b→H' b=none)∧Mut w0 (sepA [bk b2 [SL oa3 p1.L cap4,i6 p1.At,i6 p1.E,i6 p1.Pos,SL oa7 p1.Out cap8] 171,sla 51 9 oa7 p1.Out.length cap8 vs9]) (sepA [bk b2 [SL oa1m r.L cap1m,i6 r.At,i6 r.E,i6 r.Pos,SL oa2m r.Out cap2m] 171,sla 51 9 oa2m r.Out.length cap2m vs2m]) w'):=by
 unfold Z2a at hm
 refine fn0 func167 rfl ntmps167 rfl rfl λa o=>?_
 have u:=Cm hH hO hD
 refine th<|rg<|qm o rfl λo=>qv o (Aj o rfl) λo=>qv o (Af o Bv rfl) λo=>qv o (Ag o isAgg29 rfl (u.ld.cellB t0 rfl)) λo=>qv o (Al o rfl rfl) λo=>re<|?_
 rcases bip hm with ⟨G0,hm⟩ | ⟨G0,hm⟩
 refine tn<|ctv o rfl G0<|th<|rg<|qm o rfl λo=>qm o rfl λo=>qv o (Aj o rfl) λo=>qv o (Af o Bv rfl) λo=>ls<|Ax o u sizeOf29 rfl rfl rfl rfl .head (.succ (.succ .zero)) λw u=>re<|tn<|th<|th<|rxS 10 u wide (by kernel_rfl) λw u=>xm u o rfl λo=>xr u o (Aj o rfl) λo=>xr u o (Af o Bg rfl) λo=>xq u.ld o (λw hl=>Ag o isAgg3 rfl (hl.cellB t0 rfl)) λo=>xm u o rfl λo=>xr u o (Aj o rfl) λo=>xr u o (Af o Bw rfl) λo=>xq u.ld o (λw hl=>Ag o isAgg120 rfl (hl.cellB t0 rfl)) λo=>xr u o (Ak (α:=api_Token) (xs:=p1.L) o runUnderlying120 rfl) λo=>xr u o (Bi o rfl rfl) λo=>xe<|tn<|Au (λa w=>∃ (J0:Int),(Z2b N p1) J0=some r∧Fr 38 [(0,PT b2)] a∧St w0 (sepA [bk b2 [SL oa3 p1.L cap4,i6 p1.At,i6 p1.E,i6 p1.Pos,SL oa7 p1.Out cap8] 171,sla 51 9 oa7 p1.Out.length cap8 vs9]).fp [H] [sla 51 9 oa7 p1.Out.length cap8 vs9,bk b2 [SL oa3 p1.L cap4,i6 p1.At,i6 J0,i6 p1.Pos,SL oa7 p1.Out cap8] 171] w) ?_ ?_
 rcases bip hm with ⟨I0,hm⟩ | ⟨I0,hm⟩
 refine ctv o rfl I0<|rg<|qm o rfl λo=>qv o (Aj o rfl) λo=>qv o (Af o Bv rfl) λo=>ls<|Ax o u sizeOf29 rfl rfl rfl rfl .head (.succ (.succ .zero)) λw u=>re<|tn<|?_
 replace u:=u.pk [1,0] rfl
 exact ⟨6,hm,o.has ⟨rfl,trivial⟩,u⟩
 refine cfv o rfl I0<|wk<|tn<|?_
 replace u:=u.pk [1,0] rfl
 exact ⟨p12,hm,o.has ⟨rfl,trivial⟩,u⟩
 rintro a w ⟨J0,hm,o,u⟩
 unfold Z2b at hm
 obtain ⟨K0,F0,hm⟩:=bs hm
 refine rdL (Aa t0 Ah) 13 u wide λw u=>ds 0 (St.ldsX u i2 (Aa t0 Ah)) o rfl (Ab o rfl) λo=>ds 1 (St.ldsX u i2 (Aa t0 Ah)) o rfl (Ab o rfl) λo=>ds 2 (St.ldsX u i2 (Aa t0 Ah)) o rfl (Aj o rfl) λo=>ds 3 (St.ldsX u i2 (Aa t0 Ah)) o rfl (Af o Bw rfl) λo=>da2 (i:=4) (j:=5) (by kernel_rfl) ?_ ?_
 refine di (i:=4) rfl<|q1 o rfl (Ag o isAgg120 rfl (u.ld.cellB t1 rfl)) λa o=>⟨λ_=>(St.ldsX u i2 (Aa t0 Ah)),?_⟩
 refine ds 5 (St.ldsX u i2 (Aa t0 Ah)) o rfl (Ab o rfl) λo=>ds 6 (St.ldsX u i2 (Aa t0 Ah)) o rfl (Aj o rfl) λo=>ds 7 (St.ldsX u i2 (Aa t0 Ah)) o rfl (Af o Bg rfl) λo=>da1 (i:=8) (by kernel_rfl) ?_
 refine di (i:=8) rfl<|q1 o rfl (Ag o isAgg3 rfl (u.ld.cellB t1 rfl)) λa o=>⟨λ_=>(St.ldsX u i2 (Aa t0 Ah)),?_⟩
 refine da1 (i:=9) (by kernel_rfl) ?_
 refine di (i:=9) rfl<|cr o call143 (Kc (Ai _) C0 (St.srH u D0) F0) u λu o=>⟨λ_=>(St.ldsX u i2 (Aa t0 Ah)),?_⟩
 refine ds 10 (St.ldsX u i2 (Aa t0 Ah)) o rfl (Aj o rfl) λo=>ds 11 (St.ldsX u i2 (Aa t0 Ah)) o rfl (Af o Gg rfl) λo=>da1 (i:=12) (by kernel_rfl) ?_
 refine di (i:=12) rfl<|Ax o u sizeOf3 rfl rfl rfl rfl (.tail .head) (.succ (.succ (.succ .zero))) λw u=>⟨λ_=>(St.ldsX u i2 (Aa t0 Ah)),?_⟩
 refine de (by kernel_rfl)<|?_
 obtain rfl:=si hm
 exact r0n o results167 ⟨H,oa3,cap4,oa7,cap8,vs9,rfl,C0,D0,E0,(ExtM.refl _ _ _),(St.le u),(St.disL (u.pickL (.cons (.tail .head) (.cons .head .nil)))),(u.pickL (.cons (.tail .head) (.cons .head .nil))).endMut⟩
 refine di (i:=5) rfl<|q1 o rfl (Ab o rfl) λa o=>⟨λ_=>(St.ldsX u i2 (Aa t0 Ah)),?_⟩
 refine da2 (i:=4) (j:=6) (by kernel_rfl) ?_ ?_
 refine di (i:=4) rfl<|q1 o rfl (Ag o isAgg120 rfl (u.ld.cellB t1 rfl)) λa o=>⟨λ_=>(St.ldsX u i2 (Aa t0 Ah)),?_⟩
 refine ds 6 (St.ldsX u i2 (Aa t0 Ah)) o rfl (Aj o rfl) λo=>ds 7 (St.ldsX u i2 (Aa t0 Ah)) o rfl (Af o Bg rfl) λo=>da1 (i:=8) (by kernel_rfl) ?_
 refine di (i:=8) rfl<|q1 o rfl (Ag o isAgg3 rfl (u.ld.cellB t1 rfl)) λa o=>⟨λ_=>(St.ldsX u i2 (Aa t0 Ah)),?_⟩
 refine da1 (i:=9) (by kernel_rfl) ?_
 refine di (i:=9) rfl<|cr o call143 (Kc (Ai _) C0 (St.srH u D0) F0) u λu o=>⟨λ_=>(St.ldsX u i2 (Aa t0 Ah)),?_⟩
 refine ds 10 (St.ldsX u i2 (Aa t0 Ah)) o rfl (Aj o rfl) λo=>ds 11 (St.ldsX u i2 (Aa t0 Ah)) o rfl (Af o Gg rfl) λo=>da1 (i:=12) (by kernel_rfl) ?_
 refine di (i:=12) rfl<|Ax o u sizeOf3 rfl rfl rfl rfl (.tail .head) (.succ (.succ (.succ .zero))) λw u=>⟨λ_=>(St.ldsX u i2 (Aa t0 Ah)),?_⟩
 refine de (by kernel_rfl)<|?_
 obtain rfl:=si hm
 exact r0n o results167 ⟨H,oa3,cap4,oa7,cap8,vs9,rfl,C0,D0,E0,(ExtM.refl _ _ _),(St.le u),(St.disL (u.pickL (.cons (.tail .head) (.cons .head .nil)))),(u.pickL (.cons (.tail .head) (.cons .head .nil))).endMut⟩
 refine di (i:=6) rfl<|q1 o rfl (Aj o rfl) λa o=>⟨λ_=>(St.ldsX u i2 (Aa t0 Ah)),?_⟩
 refine da2 (i:=4) (j:=7) (by kernel_rfl) ?_ ?_
 refine di (i:=4) rfl<|q1 o rfl (Ag o isAgg120 rfl (u.ld.cellB t1 rfl)) λa o=>⟨λ_=>(St.ldsX u i2 (Aa t0 Ah)),?_⟩
 refine ds 7 (St.ldsX u i2 (Aa t0 Ah)) o rfl (Af o Bg rfl) λo=>da1 (i:=8) (by kernel_rfl) ?_
 refine di (i:=8) rfl<|q1 o rfl (Ag o isAgg3 rfl (u.ld.cellB t1 rfl)) λa o=>⟨λ_=>(St.ldsX u i2 (Aa t0 Ah)),?_⟩
 refine da1 (i:=9) (by kernel_rfl) ?_
 refine di (i:=9) rfl<|cr o call143 (Kc (Ai _) C0 (St.srH u D0) F0) u λu o=>⟨λ_=>(St.ldsX u i2 (Aa t0 Ah)),?_⟩
 refine ds 10 (St.ldsX u i2 (Aa t0 Ah)) o rfl (Aj o rfl) λo=>ds 11 (St.ldsX u i2 (Aa t0 Ah)) o rfl (Af o Gg rfl) λo=>da1 (i:=12) (by kernel_rfl) ?_
 refine di (i:=12) rfl<|Ax o u sizeOf3 rfl rfl rfl rfl (.tail .head) (.succ (.succ (.succ .zero))) λw u=>⟨λ_=>(St.ldsX u i2 (Aa t0 Ah)),?_⟩
 refine de (by kernel_rfl)<|?_
 obtain rfl:=si hm
 exact r0n o results167 ⟨H,oa3,cap4,oa7,cap8,vs9,rfl,C0,D0,E0,(ExtM.refl _ _ _),(St.le u),(St.disL (u.pickL (.cons (.tail .head) (.cons .head .nil)))),(u.pickL (.cons (.tail .head) (.cons .head .nil))).endMut⟩
 refine di (i:=7) rfl<|q1 o rfl (Af o Bg rfl) λa o=>⟨λ_=>(St.ldsX u i2 (Aa t0 Ah)),?_⟩
 refine da2 (i:=4) (j:=8) (by kernel_rfl) ?_ ?_
 refine di (i:=4) rfl<|q1 o rfl (Ag o isAgg120 rfl (u.ld.cellB t1 rfl)) λa o=>⟨λ_=>(St.ldsX u i2 (Aa t0 Ah)),?_⟩
 refine da1 (i:=8) (by kernel_rfl) ?_
 refine di (i:=8) rfl<|q1 o rfl (Ag o isAgg3 rfl (u.ld.cellB t1 rfl)) λa o=>⟨λ_=>(St.ldsX u i2 (Aa t0 Ah)),?_⟩
 refine da1 (i:=9) (by kernel_rfl) ?_
 refine di (i:=9) rfl<|cr o call143 (Kc (Ai _) C0 (St.srH u D0) F0) u λu o=>⟨λ_=>(St.ldsX u i2 (Aa t0 Ah)),?_⟩
 refine ds 10 (St.ldsX u i2 (Aa t0 Ah)) o rfl (Aj o rfl) λo=>ds 11 (St.ldsX u i2 (Aa t0 Ah)) o rfl (Af o Gg rfl) λo=>da1 (i:=12) (by kernel_rfl) ?_
 refine di (i:=12) rfl<|Ax o u sizeOf3 rfl rfl rfl rfl (.tail .head) (.succ (.succ (.succ .zero))) λw u=>⟨λ_=>(St.ldsX u i2 (Aa t0 Ah)),?_⟩
 refine de (by kernel_rfl)<|?_
 obtain rfl:=si hm
 exact r0n o results167 ⟨H,oa3,cap4,oa7,cap8,vs9,rfl,C0,D0,E0,(ExtM.refl _ _ _),(St.le u),(St.disL (u.pickL (.cons (.tail .head) (.cons .head .nil)))),(u.pickL (.cons (.tail .head) (.cons .head .nil))).endMut⟩
 refine di (i:=8) rfl<|q1 o rfl (Ag o isAgg3 rfl (u.ld.cellB t1 rfl)) λa o=>⟨λ_=>(St.ldsX u i2 (Aa t0 Ah)),?_⟩
 refine da1 (i:=4) (by kernel_rfl) ?_
 refine di (i:=4) rfl<|q1 o rfl (Ag o isAgg120 rfl (u.ld.cellB t1 rfl)) λa o=>⟨λ_=>(St.ldsX u i2 (Aa t0 Ah)),?_⟩
 refine da1 (i:=9) (by kernel_rfl) ?_
 refine di (i:=9) rfl<|cr o call143 (Kc (Ai _) C0 (St.srH u D0) F0) u λu o=>⟨λ_=>(St.ldsX u i2 (Aa t0 Ah)),?_⟩
 refine ds 10 (St.ldsX u i2 (Aa t0 Ah)) o rfl (Aj o rfl) λo=>ds 11 (St.ldsX u i2 (Aa t0 Ah)) o rfl (Af o Gg rfl) λo=>da1 (i:=12) (by kernel_rfl) ?_
 refine di (i:=12) rfl<|Ax o u sizeOf3 rfl rfl rfl rfl (.tail .head) (.succ (.succ (.succ .zero))) λw u=>⟨λ_=>(St.ldsX u i2 (Aa t0 Ah)),?_⟩
 refine de (by kernel_rfl)<|?_
 obtain rfl:=si hm
 exact r0n o results167 ⟨H,oa3,cap4,oa7,cap8,vs9,rfl,C0,D0,E0,(ExtM.refl _ _ _),(St.le u),(St.disL (u.pickL (.cons (.tail .head) (.cons .head .nil)))),(u.pickL (.cons (.tail .head) (.cons .head .nil))).endMut⟩
 refine tn<|cfv o rfl G0<|wk<|?_
 obtain rfl:=si hm
 exact r0n o results167 ⟨H,oa3,cap4,oa7,cap8,vs9,rfl,C0,D0,E0,(ExtM.refl _ _ _),(St.le u),(St.disL (u.pickL (.cons .head (.cons .head .nil)))),(u.pickL (.cons .head (.cons .head .nil))).endMut⟩
set_option maxHeartbeats 4000000 in
theorem Kk (hH:H.le w0) {b2:Nat} {p1:leadlineref04_P} {oa3:Option Addr} {cap4:Nat} (S0:p1.L.length≤cap4) (C0:SR H oa3 p1.L) {oa7:Option Addr} {cap8:Nat} {vs9:List Value} (M0:Rows H vs9 p1.Out) (hO:(sepA [bk b2 [SL oa3 p1.L cap4,i6 p1.At,i6 p1.E,i6 p1.Pos,SL oa7 p1.Out cap8] 171,sla 51 9 oa7 p1.Out.length cap8 vs9]).ok (hp w0)) (hD:∀ b,(sepA [bk b2 [SL oa3 p1.L cap4,i6 p1.At,i6 p1.E,i6 p1.Pos,SL oa7 p1.Out cap8] 171,sla 51 9 oa7 p1.Out.length cap8 vs9]).fp b→H b=none) {r:(Str×leadlineref04_P)} (hm:Z2l N p1=some r):Tot Tryz.prog 175 #[PT b2] w0 (λv w'=>∃ (H':PH) (oa1m:Option Addr) (cap1m:Nat) (oa2m:Option Addr) (cap2m:Nat) (vs2m:List Value),v=Ac r.1∧r.2.L.length≤cap1m∧SR H' oa1m r.2.L∧Rows H' vs2m r.2.Out∧ExtM w0 (sepA [bk b2 [SL oa3 p1.L cap4,i6 p1.At,i6 p1.E,i6 p1.Pos,SL oa7 p1.Out cap8] 171,sla 51 9 oa7 p1.Out.length cap8 vs9]).fp H H'∧H'.le w'∧(∀ b,(sepA [bk b2 [SL oa1m r.2.L cap1m,i6 r.2.At,i6 r.2.E,i6 r.2.Pos,SL oa2m r.2.Out cap2m] 171,sla 51 9 oa2m r.2.Out.length cap2m vs2m]).fp b→H' b=none)∧Mut w0 (sepA [bk b2 [SL oa3 p1.L cap4,i6 p1.At,i6 p1.E,i6 p1.Pos,SL oa7 p1.Out cap8] 171,sla 51 9 oa7 p1.Out.length cap8 vs9]) (sepA [bk b2 [SL oa1m r.2.L cap1m,i6 r.2.At,i6 r.2.E,i6 r.2.Pos,SL oa2m r.2.Out cap2m] 171,sla 51 9 oa2m r.2.Out.length cap2m vs2m]) w'):=by
 unfold Z2l at hm
 refine fn0 func175 rfl ntmps175 rfl rfl λa o=>?_
 have u:=Cm hH hO hD
 refine th<|rg<|qa o rfl λo=>re<|tn<|th<|th<|Au (λa w=>∃ (O0:Bool),(Z2m N p1) O0=some r∧Fr 70 [(0,PT b2),(47,.bool O0)] a∧St w0 (sepA [bk b2 [SL oa3 p1.L cap4,i6 p1.At,i6 p1.E,i6 p1.Pos,SL oa7 p1.Out cap8] 171,sla 51 9 oa7 p1.Out.length cap8 vs9]).fp [H] [sla 51 9 oa7 p1.Out.length cap8 vs9,bk b2 [SL oa3 p1.L cap4,i6 p1.At,i6 p1.E,i6 p1.Pos,SL oa7 p1.Out cap8] 171] w) ?_ ?_
 rcases bip hm with ⟨D0,hm⟩ | ⟨D0,hm⟩
 rcases bip hm with ⟨F0,hm⟩ | ⟨F0,hm⟩
 obtain ⟨G1,E0,hm⟩:=bs hm
 obtain ⟨I1,u0,I0⟩:=SR.get C0 E0
 obtain rfl:=Bb u0
 rcases bip hm with ⟨J0,hm⟩ | ⟨J0,hm⟩
 obtain ⟨B1,C1,hm⟩:=bs hm
 refine rdS 45 u wide λw u=>dr 0 u o rfl (Ab o rfl) λo=>dr 1 u o rfl (Aj o rfl) λo=>dr 2 u o rfl (Af o Bv rfl) λo=>dq 3 u.ld o rfl (λw hl=>Ag o isAgg29 rfl (hl.cellB t0 rfl)) λo=>dr 4 u o rfl (Al o rfl rfl) λo=>dr 5 u o rfl (As (Ab o rfl) (congrArg Value.bool D0)) λo=>dg 6 u.ld o rfl (λw hl=>Ab o rfl) λo=>dg 7 u.ld o rfl (λw hl=>Aj o rfl) λo=>dg 8 u.ld o rfl (λw hl=>Af o Bg rfl) λo=>dg 9 u.ld o rfl (λw hl=>Ag o isAgg3 rfl (hl.cellB t0 rfl)) λo=>dg 10 u.ld o rfl (λw hl=>Ab o rfl) λo=>dg 11 u.ld o rfl (λw hl=>Aj o rfl) λo=>dg 12 u.ld o rfl (λw hl=>Af o Bw rfl) λo=>dg 13 u.ld o rfl (λw hl=>Ag o isAgg120 rfl (hl.cellB t0 rfl)) λo=>dg 14 u.ld o rfl (λw hl=>Ak (α:=api_Token) (xs:=p1.L) o runUnderlying120 rfl) λo=>dg 15 u.ld o rfl (λw hl=>Aq o rfl rfl) λo=>dr 16 u o rfl (Ad o rfl rfl) λo=>dr 17 u o rfl (As (Ab o rfl) (congrArg Value.bool F0)) λo=>dg 18 u.ld o rfl (λw hl=>Ab o rfl) λo=>dg 19 u.ld o rfl (λw hl=>Aj o rfl) λo=>dg 20 u.ld o rfl (λw hl=>Af o Bw rfl) λo=>dg 21 u.ld o rfl (λw hl=>Ag o isAgg120 rfl (hl.cellB t0 rfl)) λo=>dg 22 u.ld o rfl (λw hl=>Ab o rfl) λo=>dg 23 u.ld o rfl (λw hl=>Aj o rfl) λo=>dg 24 u.ld o rfl (λw hl=>Af o Bg rfl) λo=>dg 25 u.ld o rfl (λw hl=>Ag o isAgg3 rfl (hl.cellB t0 rfl)) λo=>dg 26 u.ld o rfl (λw hl=>An o runUnderlying120 sizeOf130 rfl rfl E0 (SR.oaI C0 (by decide) E0)) λo=>dg 27 u.ld o rfl (λw hl=>Af o Cr rfl) λo=>dg 28 u.ld o rfl (λw hl=>Ag o isAgg3 rfl (PH.le.cell (Lds.le hl) (I0 0 _ rfl))) λo=>dg 29 u.ld o rfl (λw hl=>Al o rfl rfl) λo=>?_
 refine dr 30 u o rfl (Ad o rfl rfl) λo=>dr 31 u o rfl (As (Ab o rfl) (congrArg Value.bool J0)) λo=>dg 32 u.ld o rfl (λw hl=>Ab o rfl) λo=>dg 33 u.ld o rfl (λw hl=>Aj o rfl) λo=>dg 34 u.ld o rfl (λw hl=>Af o Bw rfl) λo=>dg 35 u.ld o rfl (λw hl=>Ag o isAgg120 rfl (hl.cellB t0 rfl)) λo=>dg 36 u.ld o rfl (λw hl=>Ab o rfl) λo=>dg 37 u.ld o rfl (λw hl=>Aj o rfl) λo=>dg 38 u.ld o rfl (λw hl=>Af o Bg rfl) λo=>dg 39 u.ld o rfl (λw hl=>Ag o isAgg3 rfl (hl.cellB t0 rfl)) λo=>dg 40 u.ld o rfl (λw hl=>An o runUnderlying120 sizeOf130 rfl rfl E0 (SR.oaI C0 (by decide) E0)) λo=>dg 41 u.ld o rfl (λw hl=>Af o Eh rfl) λo=>dg 42 u.ld o rfl (λw hl=>Ag o isAgg9 rfl (PH.le.cell (Lds.le hl) (I0 1 _ rfl))) λo=>da1 (i:=43) (by kernel_rfl) ?_
 refine di (i:=43) rfl<|gy o rfl rfl<|cr o call114 (Jq (Ai _) C1) u λu o=>⟨λ_=>u.ld,?_⟩
 refine dr 44 u o rfl (Ad o rfl rfl) λo=>de (by kernel_rfl)<|tn<|?_
 replace u:=u.pk [1,0] rfl
 exact ⟨B1,hm,o.has ⟨rfl,rfl,trivial⟩,u⟩
 refine rxS 45 u wide (by kernel_rfl) λw u=>xm u o rfl λo=>xr u o (Aj o rfl) λo=>xr u o (Af o Bv rfl) λo=>xq u.ld o (λw hl=>Ag o isAgg29 rfl (hl.cellB t0 rfl)) λo=>xr u o (Al o rfl rfl) λo=>xr u o (As (Ab o rfl) (congrArg Value.bool D0)) λo=>xg u.ld o (λw hl=>Ab o rfl) λo=>xg u.ld o (λw hl=>Aj o rfl) λo=>xg u.ld o (λw hl=>Af o Bg rfl) λo=>xg u.ld o (λw hl=>Ag o isAgg3 rfl (hl.cellB t0 rfl)) λo=>xg u.ld o (λw hl=>Ab o rfl) λo=>xg u.ld o (λw hl=>Aj o rfl) λo=>xg u.ld o (λw hl=>Af o Bw rfl) λo=>xg u.ld o (λw hl=>Ag o isAgg120 rfl (hl.cellB t0 rfl)) λo=>xg u.ld o (λw hl=>Ak (α:=api_Token) (xs:=p1.L) o runUnderlying120 rfl) λo=>xg u.ld o (λw hl=>Aq o rfl rfl) λo=>xr u o (Ad o rfl rfl) λo=>xr u o (As (Ab o rfl) (congrArg Value.bool F0)) λo=>xg u.ld o (λw hl=>Ab o rfl) λo=>xg u.ld o (λw hl=>Aj o rfl) λo=>xg u.ld o (λw hl=>Af o Bw rfl) λo=>xg u.ld o (λw hl=>Ag o isAgg120 rfl (hl.cellB t0 rfl)) λo=>xg u.ld o (λw hl=>Ab o rfl) λo=>xg u.ld o (λw hl=>Aj o rfl) λo=>xg u.ld o (λw hl=>Af o Bg rfl) λo=>xg u.ld o (λw hl=>Ag o isAgg3 rfl (hl.cellB t0 rfl)) λo=>xg u.ld o (λw hl=>An o runUnderlying120 sizeOf130 rfl rfl E0 (SR.oaI C0 (by decide) E0)) λo=>xg u.ld o (λw hl=>Af o Cr rfl) λo=>xg u.ld o (λw hl=>Ag o isAgg3 rfl (PH.le.cell (Lds.le hl) (I0 0 _ rfl))) λo=>xg u.ld o (λw hl=>Al o rfl rfl) λo=>?_
 refine xr u o (Ad o rfl rfl) λo=>xr u o (As (Ab o rfl) (congrArg Value.bool J0)) λo=>?_
 iterate 12 refine xn u.ld o λo=>?_
 refine xr u o (Ae o rfl rfl) λo=>xe<|tn<|?_
 replace u:=u.pk [1,0] rfl
 exact ⟨false,hm,o.has ⟨rfl,rfl,trivial⟩,u⟩
 refine rxS 45 u wide (by kernel_rfl) λw u=>xm u o rfl λo=>xr u o (Aj o rfl) λo=>xr u o (Af o Bv rfl) λo=>xq u.ld o (λw hl=>Ag o isAgg29 rfl (hl.cellB t0 rfl)) λo=>xr u o (Al o rfl rfl) λo=>xr u o (As (Ab o rfl) (congrArg Value.bool D0)) λo=>xg u.ld o (λw hl=>Ab o rfl) λo=>xg u.ld o (λw hl=>Aj o rfl) λo=>xg u.ld o (λw hl=>Af o Bg rfl) λo=>xg u.ld o (λw hl=>Ag o isAgg3 rfl (hl.cellB t0 rfl)) λo=>xg u.ld o (λw hl=>Ab o rfl) λo=>xg u.ld o (λw hl=>Aj o rfl) λo=>xg u.ld o (λw hl=>Af o Bw rfl) λo=>xg u.ld o (λw hl=>Ag o isAgg120 rfl (hl.cellB t0 rfl)) λo=>xg u.ld o (λw hl=>Ak (α:=api_Token) (xs:=p1.L) o runUnderlying120 rfl) λo=>xg u.ld o (λw hl=>Aq o rfl rfl) λo=>xr u o (Ad o rfl rfl) λo=>xr u o (As (Ab o rfl) (congrArg Value.bool F0)) λo=>?_
 iterate 12 refine xn u.ld o λo=>?_
 refine xr u o (Ae o rfl rfl) λo=>xm u o rfl λo=>?_
 iterate 12 refine xn u.ld o λo=>?_
 refine xr u o (Ae o rfl rfl) λo=>xe<|tn<|?_
 replace u:=u.pk [1,0] rfl
 exact ⟨false,hm,o.has ⟨rfl,rfl,trivial⟩,u⟩
 refine rxS 45 u wide (by kernel_rfl) λw u=>xm u o rfl λo=>xr u o (Aj o rfl) λo=>xr u o (Af o Bv rfl) λo=>xq u.ld o (λw hl=>Ag o isAgg29 rfl (hl.cellB t0 rfl)) λo=>xr u o (Al o rfl rfl) λo=>xr u o (As (Ab o rfl) (congrArg Value.bool D0)) λo=>?_
 iterate 10 refine xn u.ld o λo=>?_
 refine xr u o (Ae o rfl rfl) λo=>xm u o rfl λo=>?_
 iterate 12 refine xn u.ld o λo=>?_
 refine xr u o (Ae o rfl rfl) λo=>xm u o rfl λo=>?_
 iterate 12 refine xn u.ld o λo=>?_
 refine xr u o (Ae o rfl rfl) λo=>xe<|tn<|?_
 replace u:=u.pk [1,0] rfl
 exact ⟨false,hm,o.has ⟨rfl,rfl,trivial⟩,u⟩
 rintro a w ⟨O0,hm,o,u⟩
 unfold Z2m at hm
 rcases bit hm with ⟨K0,hm⟩ | ⟨K0,hm⟩
 refine ctv o rfl K0<|th<|rg<|qm o rfl λo=>qm o rfl λo=>qv o (Aj o rfl) λo=>qv o (Af o Bg rfl) λo=>qv o (Ag o isAgg3 rfl (u.ld.cellB t1 rfl)) λo=>qv o (Ap o rfl rfl) λo=>qv o (Aj o rfl) λo=>qv o (Af o Bg rfl) λo=>ls<|Ax o u sizeOf3 rfl rfl rfl rfl (.tail .head) (.succ .zero) λw u=>re<|tn<|th<|?_
 obtain ⟨J1,P0,hm⟩:=bs hm
 obtain ⟨M1,E1,T0⟩:=SR.get C0 P0
 obtain rfl:=Bb E1
 refine rxS 13 u wide (by kernel_rfl) λw u=>xm u o rfl λo=>xr u o (Aj o rfl) λo=>xr u o (Af o Bw rfl) λo=>xq u.ld o (λw hl=>Ag o isAgg120 rfl (hl.cellB t1 rfl)) λo=>xm u o rfl λo=>xr u o (Aj o rfl) λo=>xr u o (Af o Bg rfl) λo=>xq u.ld o (λw hl=>Ag o isAgg3 rfl (hl.cellB t1 rfl)) λo=>xr u o (Gp o rfl rfl) λo=>xr u o (An o runUnderlying120 sizeOf130 rfl rfl P0 (SR.oaI C0 (by decide) P0)) λo=>xr u o (Af o Eh rfl) λo=>xq u.ld o (λw hl=>Ag o isAgg9 rfl (PH.le.cell (Lds.le hl) (T0 1 _ rfl))) λo=>xr u o (Bo o rfl) λo=>xe<|tn<|wr<|tr<|?_
 obtain rfl:=si hm
 exact r1 o results175 rfl ⟨H,oa3,cap4,oa7,cap8,vs9,rfl,S0,C0,M0,(ExtM.refl _ _ _),(St.le u),(St.disL (u.pickL (.cons (.tail .head) (.cons .head .nil)))),(u.pickL (.cons (.tail .head) (.cons .head .nil))).endMut⟩
 refine cfv o rfl K0<|wk<|tn<|th<|?_
 obtain ⟨O1,F1,hm⟩:=bs hm
 refine rg<|qm o rfl λo=>?_
 replace u:=u.pk [1,0] rfl
 replace u:=St.sep [bk b2 [SL oa3 p1.L cap4,i6 p1.At,i6 p1.E,i6 p1.Pos,SL oa7 p1.Out cap8] 171,sla 51 9 oa7 p1.Out.length cap8 vs9] u
 refine ls<|c1 o rfl call167 (Mx (St.le u) (p1:=(leadlineref04_P.mk p1.L p1.At p1.E p1.Pos p1.Out)) (b2:=b2) (oa3:=oa3) (cap4:=cap4) (oa7:=oa7) (cap8:=cap8) (vs9:=vs9) S0 C0 M0 (St.sepOk u) (St.sepDis u) F1) ⟨rfl,rfl,trivial⟩ (λv w a hR o=>?_)
 obtain ⟨H33,U0,Q0,V0,R0,W0,rfl,X0,Y0,j0,G0,n0,hd32,hk⟩:=hR
 obtain ⟨u,G0⟩:=And.intro (St.mutH u hk G0 n0 hd32) (St.extcMM u G0)
 replace u:=u.unsep
 refine re<|tn<|th<|rg<|qa o rfl λo=>re<|tn<|wr<|?_
 obtain rfl:=si hm
 exact r1 o results175 rfl ⟨H33,U0,Q0,V0,R0,W0,rfl,X0,Y0,j0,G0,(St.le u),(St.disL (u.pickL (.cons .head (.cons .head .nil)))),(u.pickL (.cons .head (.cons .head .nil))).endMut⟩
theorem Hy (hH:H.le w0) {b2:Nat} {p1:leadlineref04_P} {oa3:Option Addr} {cap4:Nat} (F0:p1.L.length≤cap4) (G0:SR H oa3 p1.L) {oa7:Option Addr} {cap8:Nat} {vs9:List Value} (I0:Rows H vs9 p1.Out) {p12:Str} (hO:(sepA [bk b2 [SL oa3 p1.L cap4,i6 p1.At,i6 p1.E,i6 p1.Pos,SL oa7 p1.Out cap8] 171,sla 51 9 oa7 p1.Out.length cap8 vs9]).ok (hp w0)) (hD:∀ b,(sepA [bk b2 [SL oa3 p1.L cap4,i6 p1.At,i6 p1.E,i6 p1.Pos,SL oa7 p1.Out cap8] 171,sla 51 9 oa7 p1.Out.length cap8 vs9]).fp b→H b=none) {r:leadlineref04_P} (hm:Z2j N p1 p12=some r):Tot Tryz.prog 161 #[PT b2,Ac p12] w0 (λv w'=>∃ (H':PH) (oa1m:Option Addr) (cap1m:Nat) (oa2m:Option Addr) (cap2m:Nat) (vs2m:List Value),v=.tuple #[]∧r.L.length≤cap1m∧SR H' oa1m r.L∧Rows H' vs2m r.Out∧ExtM w0 (sepA [bk b2 [SL oa3 p1.L cap4,i6 p1.At,i6 p1.E,i6 p1.Pos,SL oa7 p1.Out cap8] 171,sla 51 9 oa7 p1.Out.length cap8 vs9]).fp H H'∧H'.le w'∧(∀ b,(sepA [bk b2 [SL oa1m r.L cap1m,i6 r.At,i6 r.E,i6 r.Pos,SL oa2m r.Out cap2m] 171,sla 51 9 oa2m r.Out.length cap2m vs2m]).fp b→H' b=none)∧Mut w0 (sepA [bk b2 [SL oa3 p1.L cap4,i6 p1.At,i6 p1.E,i6 p1.Pos,SL oa7 p1.Out cap8] 171,sla 51 9 oa7 p1.Out.length cap8 vs9]) (sepA [bk b2 [SL oa1m r.L cap1m,i6 r.At,i6 r.E,i6 r.Pos,SL oa2m r.Out cap2m] 171,sla 51 9 oa2m r.Out.length cap2m vs2m]) w'):=by
 unfold Z2j at hm
 refine fn0 func161 rfl ntmps161 rfl rfl λa o=>?_
 have u:=Cm hH hO hD
 refine th<|Au (λa w=>∃ (J0:Bool),(Z2k N p1) J0=some r∧Fr 31 [(0,PT b2),(20,.bool J0)] a∧St w0 (sepA [bk b2 [SL oa3 p1.L cap4,i6 p1.At,i6 p1.E,i6 p1.Pos,SL oa7 p1.Out cap8] 171,sla 51 9 oa7 p1.Out.length cap8 vs9]).fp [H] [sla 51 9 oa7 p1.Out.length cap8 vs9,bk b2 [SL oa3 p1.L cap4,i6 p1.At,i6 p1.E,i6 p1.Pos,SL oa7 p1.Out cap8] 171] w) ?_ ?_
 rcases bip hm with ⟨D0,hm⟩ | ⟨D0,hm⟩
 obtain ⟨V0,W0,hm⟩:=bs hm
 refine rdS 17 u wide λw u=>dr 0 u o rfl (Ab o rfl) λo=>dr 1 u o rfl (Aj o rfl) λo=>dr 2 u o rfl (Af o Bv rfl) λo=>dq 3 u.ld o rfl (λw hl=>Ag o isAgg29 rfl (hl.cellB t0 rfl)) λo=>dr 4 u o rfl (Al o rfl rfl) λo=>dr 5 u o rfl (As (Ab o rfl) (congrArg Value.bool D0)) λo=>dg 6 u.ld o rfl (λw hl=>Ab o rfl) λo=>dg 7 u.ld o rfl (λw hl=>Aj o rfl) λo=>dg 8 u.ld o rfl (λw hl=>Af o Bw rfl) λo=>dg 9 u.ld o rfl (λw hl=>Ag o isAgg120 rfl (hl.cellB t0 rfl)) λo=>dg 10 u.ld o rfl (λw hl=>Ab o rfl) λo=>dg 11 u.ld o rfl (λw hl=>Aj o rfl) λo=>dg 12 u.ld o rfl (λw hl=>Af o Bg rfl) λo=>dg 13 u.ld o rfl (λw hl=>Ag o isAgg3 rfl (hl.cellB t0 rfl)) λo=>dg 14 u.ld o rfl (λw hl=>Ab o rfl) λo=>da1 (i:=15) (by kernel_rfl) ?_
 refine di (i:=15) rfl<|gy o rfl rfl<|cr o call139 (Jt (Ai _) F0 (St.srH u G0) W0) u λu o=>⟨λ_=>u.ld,?_⟩
 refine dr 16 u o rfl (Ad o rfl rfl) λo=>de (by kernel_rfl)<|tn<|?_
 replace u:=u.pk [1,0] rfl
 exact ⟨V0,hm,o.has ⟨rfl,rfl,trivial⟩,u⟩
 refine rxS 17 u wide (by kernel_rfl) λw u=>xm u o rfl λo=>xr u o (Aj o rfl) λo=>xr u o (Af o Bv rfl) λo=>xq u.ld o (λw hl=>Ag o isAgg29 rfl (hl.cellB t0 rfl)) λo=>xr u o (Al o rfl rfl) λo=>xr u o (As (Ab o rfl) (congrArg Value.bool D0)) λo=>?_
 iterate 10 refine xn u.ld o λo=>?_
 refine xr u o (Ae o rfl rfl) λo=>xe<|tn<|?_
 replace u:=u.pk [1,0] rfl
 exact ⟨false,hm,o.has ⟨rfl,rfl,trivial⟩,u⟩
 rintro a w ⟨J0,hm,o,u⟩
 unfold Z2k at hm
 rcases bit hm with ⟨E0,hm⟩ | ⟨E0,hm⟩
 refine ctv o rfl E0<|rg<|qm o rfl λo=>qm o rfl λo=>qv o (Aj o rfl) λo=>qv o (Af o Bg rfl) λo=>qv o (Ag o isAgg3 rfl (u.ld.cellB t1 rfl)) λo=>qv o (Ap o rfl rfl) λo=>qv o (Aj o rfl) λo=>qv o (Af o Bg rfl) λo=>ls<|Ax o u sizeOf3 rfl rfl rfl rfl (.tail .head) (.succ .zero) λw u=>re<|?_
 obtain rfl:=si hm
 exact r0n o results161 ⟨H,oa3,cap4,oa7,cap8,vs9,rfl,F0,G0,I0,(ExtM.refl _ _ _),(St.le u),(St.disL (u.pickL (.cons (.tail .head) (.cons .head .nil)))),(u.pickL (.cons (.tail .head) (.cons .head .nil))).endMut⟩
 refine cfv o rfl E0<|?_
 obtain ⟨Y0,X0,hm⟩:=bs hm
 refine rg<|qm o rfl λo=>?_
 replace u:=u.pk [1,0] rfl
 replace u:=St.sep [bk b2 [SL oa3 p1.L cap4,i6 p1.At,i6 p1.E,i6 p1.Pos,SL oa7 p1.Out cap8] 171,sla 51 9 oa7 p1.Out.length cap8 vs9] u
 refine ls<|c1 o rfl call167 (Mx (St.le u) (p1:=(leadlineref04_P.mk p1.L p1.At p1.E p1.Pos p1.Out)) (b2:=b2) (oa3:=oa3) (cap4:=cap4) (oa7:=oa7) (cap8:=cap8) (vs9:=vs9) F0 G0 I0 (St.sepOk u) (St.sepDis u) X0) ⟨rfl,rfl,trivial⟩ (λv w a hR o=>?_)
 obtain ⟨H22,O0,K0,P0,M0,Q0,rfl,R0,S0,T0,C0,U0,hd21,hk⟩:=hR
 obtain ⟨u,C0⟩:=And.intro (St.mutH u hk C0 U0 hd21) (St.extcMM u C0)
 replace u:=u.unsep
 refine re<|?_
 obtain rfl:=si hm
 exact r0n o results161 ⟨H22,O0,K0,P0,M0,Q0,rfl,R0,S0,T0,C0,(St.le u),(St.disL (u.pickL (.cons .head (.cons .head .nil)))),(u.pickL (.cons .head (.cons .head .nil))).endMut⟩
theorem Rf (hH:H.le w0) {F0:Option Addr} {E0:Nat} {p1:(List api_Token)} (I0:p1.length≤E0) (J0:SR H F0 p1) {p6:Int} {p7:Int} {r:leadlineref03_Read} (hm:Z1y N p1 p6 p7=some r):Tot Tryz.prog 178 #[SL F0 p1 E0,i6 p6,i6 p7] w0 (λv w'=>∃ (H':PH) (cs0:List Value),v=.agg cs0.toArray∧Enc.rep H' cs0 r∧Ext w0 H H'∧H'.le w'∧Keep Nil w0 w'):=by
 unfold Z1y at hm
 refine fn0 func178 rfl ntmps178 rfl rfl λa o=>?_
 have u:St w0 Nil [H] [] w0:=start1 hH
 refine th<|rg<|ls<|Aw (cs:=[.slice none 0 0,i6 0,i6 0,i6 0].toArray) o rfl u Tryz.zeroValue174 rfl λb8 w a u o=>re<|tn<|th<|th<|rg<|qm o rfl λo=>qm o rfl λo=>qv o (Ak (α:=api_Token) (xs:=p1) o runUnderlying120 rfl) λo=>qv o (Bi o rfl rfl) λo=>re<|tn<|Au (λa w=>∃ (C0:Int),(Z1z N p1 p6) C0=some r∧Fr 16 [(0,SL F0 p1 E0),(1,i6 p6),(2,i6 C0),(6,PT b8)] a∧St w0 Nil [H] [bk b8 [.slice none 0 0,i6 0,i6 0,i6 0] 174] w) ?_ ?_
 rcases bip hm with ⟨G0,hm⟩ | ⟨G0,hm⟩
 refine ctv o rfl G0<|rg<|qa o rfl λo=>re<|tn<|?_
 exact ⟨6,hm,o.hs,u⟩
 refine cfv o rfl G0<|wk<|tn<|?_
 exact ⟨p7,hm,o.hs,u⟩
 rintro a w ⟨C0,hm,o,u⟩
 unfold Z1z at hm
 refine th<|?_
 obtain ⟨D0,K0,hm⟩:=bs hm
 refine rg<|qm o rfl λo=>?_
 iterate 2 refine qm o rfl λo=>?_
 refine ls<|cr o call143 (Kc (Ai _) I0 (St.srH u J0) K0) u λu o=>qv o (Bu [i6 C0,i6 D0] [.slice none 0 0,i6 0,i6 C0,i6 D0] o ⟨rfl,rfl,trivial⟩ (λw=>by kernel_rfl)) λo=>ls<|Ba o u sizeOf174 rfl rfl rfl rfl (Am rfl) .head λw u=>re<|tn<|wr<|?_
 obtain rfl:=si hm
 exact r1c (vs:=[.slice none 0 0,i6 0,i6 C0,i6 D0]) (.inl rfl) o results178 rfl isAgg174 sizeOf174 rfl (u.ld.cellsB t0) ⟨H,_,rfl,(show Enc.rep (α:=leadlineref03_Read) H [.slice none 0 0,i6 0,i6 C0,i6 D0] (leadlineref03_Read.mk [] 0 C0 D0) from ⟨_,_,rfl,⟨none,0,rfl,Nat.le_refl _,SR.nil _ _⟩,⟨_,_,rfl,rfl,⟨_,_,rfl,rfl,rfl⟩⟩⟩),(Ext.refl _ _),(St.le u),u.keep⟩
theorem Vv (hH:H.le w0) {p1:Int} {r:(List Int)} (hm:Z23 N p1=some r):Tot Tryz.prog 171 #[i6 p1] w0 (λv w'=>∃ (H':PH) (P0:Option Addr) (I0:Nat),v=SL P0 r I0∧r.length≤I0∧SR H' P0 r∧Ext w0 H H'∧H'.le w'∧Keep Nil w0 w'):=by
 unfold Z23 at hm
 refine fn0 func171 rfl ntmps171 rfl rfl λa o=>?_
 have u:St w0 Nil [H] [] w0:=start1 hH
 refine th<|rg<|qa o rfl λo=>re<|tn<|th<|?_
 obtain ⟨P1,J0,hm⟩:=bs hm
 refine rg<|ls<|Bl (e:=3) (sz:=1) [i6 15] o rfl u rfl rfl rfl (λw=>by kernel_rfl) λb3 w a u o=>?_
 have F1:Rows (α:=Int) H [i6 15] ([15]:List Int):=(.cons (c:=[i6 15]) rfl .nil)
 refine ls<|Bl (e:=3) (sz:=1) [i6 14] o rfl u rfl rfl rfl (λw=>by kernel_rfl) λb6 w a u o=>?_
 have G1:Rows (α:=Int) H [i6 14] ([14]:List Int):=(.cons (c:=[i6 14]) rfl .nil)
 refine ls<|Bl (e:=3) (sz:=1) [i6 10,i6 11,i6 12,i6 13] o rfl u rfl rfl rfl (λw=>by kernel_rfl) λb9 w a u o=>?_
 have I1:Rows (α:=Int) H [i6 10,i6 11,i6 12,i6 13] ([10,11,12,13]:List Int):=(.cons (c:=[i6 10]) rfl (.cons (c:=[i6 11]) rfl (.cons (c:=[i6 12]) rfl (.cons (c:=[i6 13]) rfl .nil))))
 refine ls<|Bl (e:=3) (sz:=1) [i6 5,i6 6] o rfl u rfl rfl rfl (λw=>by kernel_rfl) λK0 w a u o=>?_
 have Q0:Rows (α:=Int) H [i6 5,i6 6] ([5,6]:List Int):=(.cons (c:=[i6 5]) rfl (.cons (c:=[i6 6]) rfl .nil))
 refine ls<|Bl (e:=3) (sz:=1) [i6 7,i6 8,i6 9] o rfl u rfl rfl rfl (λw=>by kernel_rfl) λM0 w a u o=>?_
 have R0:Rows (α:=Int) H [i6 7,i6 8,i6 9] ([7,8,9]:List Int):=(.cons (c:=[i6 7]) rfl (.cons (c:=[i6 8]) rfl (.cons (c:=[i6 9]) rfl .nil)))
 obtain ⟨H20,C0,S0,T0,u⟩:=St.frzS u (.tail (.tail (.tail (.tail .head)))) F1
 obtain ⟨H24,D0,U0,V0,u⟩:=St.frzS u (.tail (.tail (.tail .head))) (G1.mono C0.sub)
 obtain ⟨H28,E0,W0,X0,u⟩:=St.frzS u (.tail (.tail .head)) (I1.mono (cp D0.sub C0.sub))
 obtain ⟨H32,F0,Y0,j0,u⟩:=St.frzS u (.tail .head) (Q0.mono (cp (cp E0.sub D0.sub) C0.sub))
 obtain ⟨H36,G0,n0,u0,u⟩:=St.frzS u .head (R0.mono (cp (cp (cp F0.sub E0.sub) D0.sub) C0.sub))
 refine ls<|Bl (e:=42) (sz:=1) [.slice (some ⟨b3,0,none⟩) ([15]:List Int).length 1,.slice (some ⟨b6,0,none⟩) ([14]:List Int).length 1,.slice (some ⟨b9,0,none⟩) ([10,11,12,13]:List Int).length 4,.slice (some ⟨K0,0,none⟩) ([5,6]:List Int).length 2,.slice (some ⟨M0,0,none⟩) ([7,8,9]:List Int).length 3] o rfl u rfl rfl rfl (λw=>by kernel_rfl) λQ1 w a u o=>?_
 have O0:Rows (α:=(List Int)) H36 [.slice (some ⟨b3,0,none⟩) ([15]:List Int).length 1,.slice (some ⟨b6,0,none⟩) ([14]:List Int).length 1,.slice (some ⟨b9,0,none⟩) ([10,11,12,13]:List Int).length 4,.slice (some ⟨K0,0,none⟩) ([5,6]:List Int).length 2,.slice (some ⟨M0,0,none⟩) ([7,8,9]:List Int).length 3] ([([15]:List Int),([14]:List Int),([10,11,12,13]:List Int),([5,6]:List Int),([7,8,9]:List Int)]:List (List Int)):=(.cons (c:=[.slice (some ⟨b3,0,none⟩) ([15]:List Int).length 1]) ⟨_,_,rfl,T0,(S0.mono (cp (cp (cp G0.sub F0.sub) E0.sub) D0.sub))⟩ (.cons (c:=[.slice (some ⟨b6,0,none⟩) ([14]:List Int).length 1]) ⟨_,_,rfl,V0,(U0.mono (cp (cp G0.sub F0.sub) E0.sub))⟩ (.cons (c:=[.slice (some ⟨b9,0,none⟩) ([10,11,12,13]:List Int).length 4]) ⟨_,_,rfl,X0,(W0.mono (cp G0.sub F0.sub))⟩ (.cons (c:=[.slice (some ⟨K0,0,none⟩) ([5,6]:List Int).length 2]) ⟨_,_,rfl,j0,(Y0.mono G0.sub)⟩ (.cons (c:=[.slice (some ⟨M0,0,none⟩) ([7,8,9]:List Int).length 3]) ⟨_,_,rfl,u0,n0⟩ .nil)))))
 refine qm o rfl λo=>qv o (An o runUnderlying190 sizeOf42 rfl rfl J0 (Rd.oaI (u.ld.rdO t0) O0 (by decide) J0)) λo=>?_
 obtain ⟨R1,J1,B1⟩:=Rows.getI O0 J0
 obtain ⟨O1,M1,rfl,C1,E1⟩:=J1
 refine qv o (Ag o isAgg42 rfl (u.ld.elO t0 (B1 0 _ rfl))) λo=>qa o rfl λo=>re<|tn<|wr<|?_
 obtain rfl:=si hm
 exact r1 o results171 rfl ⟨H36,_,_,rfl,C1,E1,(Ext.trans C0 (Ext.trans D0 (Ext.trans E0 (Ext.trans F0 G0)))),(St.le u),u.keep⟩
theorem JbC (hH:H.le w0) {p1:Int} {r:Str} (hm:Z28 N p1=some r):Tot Tryz.prog 172 #[i6 p1] w0 (λv w'=>v=Ac r∧Keep Nil w0 w'):=by
 unfold Z28 at hm
 refine fn0 func172 rfl ntmps172 rfl rfl λa o=>?_
 have u:St w0 Nil [H] [] w0:=start1 hH
 refine th<|rg<|qa o rfl λo=>re<|tn<|th<|?_
 obtain ⟨D0,h6,hm⟩:=bs hm
 refine rg<|ls<|Bl (e:=9) (sz:=1) [Ac [],Ac [],Ac [],Ac [45],Ac [33],Ac [43],Ac [45],Ac [42],Ac [47],Ac [37],Ac [61,61],Ac [33,61],Ac [60],Ac [60,61],Ac [38,38],Ac [124,124]] o rfl u rfl rfl rfl (λw=>by kernel_rfl) λb3 w a u o=>?_
 have C0:Rows (α:=Str) H [Ac [],Ac [],Ac [],Ac [45],Ac [33],Ac [43],Ac [45],Ac [42],Ac [47],Ac [37],Ac [61,61],Ac [33,61],Ac [60],Ac [60,61],Ac [38,38],Ac [124,124]] ([[],[],[],[45],[33],[43],[45],[42],[47],[37],[61,61],[33,61],[60],[60,61],[38,38],[124,124]]:List Str):=(.cons (c:=[Ac []]) rfl (.cons (c:=[Ac []]) rfl (.cons (c:=[Ac []]) rfl (.cons (c:=[Ac [45]]) rfl (.cons (c:=[Ac [33]]) rfl (.cons (c:=[Ac [43]]) rfl (.cons (c:=[Ac [45]]) rfl (.cons (c:=[Ac [42]]) rfl (.cons (c:=[Ac [47]]) rfl (.cons (c:=[Ac [37]]) rfl (.cons (c:=[Ac [61,61]]) rfl (.cons (c:=[Ac [33,61]]) rfl (.cons (c:=[Ac [60]]) rfl (.cons (c:=[Ac [60,61]]) rfl (.cons (c:=[Ac [38,38]]) rfl (.cons (c:=[Ac [124,124]]) rfl .nil))))))))))))))))
 refine qm o rfl λo=>qv o (An o runUnderlying36 sizeOf9 rfl rfl h6 (Rd.oaI (u.ld.rdO t0) C0 (by decide) h6)) λo=>?_
 obtain ⟨cz7,g8,E0⟩:=Rows.getI C0 h6
 obtain rfl:cz7=[Ac D0]:=g8
 refine qv o (Ag o isAgg9 rfl (u.ld.elO t0 (E0 0 _ rfl))) λo=>qa o rfl λo=>re<|tn<|wr<|?_
 obtain rfl:=si hm
 exact r1 o results172 rfl ⟨rfl,u.keep⟩
end Go.LM.LB
