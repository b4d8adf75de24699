/- Walks, lifted by program. No condition beyond the theorems' own premises. -/
import Derived.Test.YtchhelkhllkpkaaGreatDoorSWQ3
namespace Go.LM.SWAPS
open Go Go.LL Go.MD Go.LM Go.Proofs Go.MD.SWAPS Go.Proofs.Tryz
open Go.IntKind (i64)
set_option maxRecDepth 100000
set_option maxHeartbeats 4000000
variable {N:Nat} {w0:World} {H:PH}
theorem Jhe (hH:H.le w0) {cs2:List Value} {p1:api_Unit} (g3:Enc.rep H cs2 p1) {r:Bool} (hm:Z5p N p1=some r):Tot Tryz.prog 31 #[.agg cs2.toArray] w0 (λv w'=>v=.bool r∧Keep Nil w0 w'):=by
 unfold Z5p at hm
 refine fn0 func31 rfl ntmps31 rfl rfl λa o=>?_
 have u:St w0 Nil [H] [] w0:=start1 hH
 have g4:Enc.rep (α:=(List Int)×Int×(List Int)×Int×(List api_Code)×api_Code×(List (List api_Op))) H cs2 (p1.Lines,p1.Stays,p1.Firsts,p1.Locks,p1.Threads,p1.Recover,p1.Claims):=g3
 obtain ⟨qz5,qz6,rfl,g7,g8⟩:=g4
 obtain ⟨P0,F0,rfl,B4,Q0⟩:=g7
 obtain ⟨q13,q14,rfl,A3,B3⟩:=g8
 obtain rfl:q13=[i6 p1.Stays]:=A3
 obtain ⟨q17,q18,rfl,C3,D3⟩:=B3
 obtain ⟨oa21,cap22,rfl,C4,V0⟩:=C3
 obtain ⟨q25,q26,rfl,E3,F3⟩:=D3
 obtain rfl:q25=[i6 p1.Locks]:=E3
 obtain ⟨q29,q30,rfl,I3,J3⟩:=F3
 obtain ⟨M0,I0,rfl,D4,R1⟩:=I3
 obtain ⟨q37,q38,rfl,K3,L3⟩:=J3
 obtain ⟨K0,D0,rfl,J2,K2⟩:=Cp K3
 obtain ⟨O0,J0,rfl,E4,S1⟩:=L3
 refine th<|rg<|ls<|Bo (cs:=(unC P0 F0 oa21 cap22 M0 I0 K0 D0 O0 J0 p1).toArray) o rfl u rfl rfl λC0 w a u o=>qa o rfl λo=>re<|tn<|th<|th<|rg<|qf o Et rfl λo=>qB o isAgg28 rfl u t0 rfl λo=>qv o (Aj (α:=Int) (xs:=p1.Lines) o Bn rfl) λo=>qv o (Ba o rfl rfl) λo=>qm o rfl λo=>gr (Fk:=[(1,PT C0),(15,.bool ((decide (20 < (p1.Lines.length:Int))) || (decide (p1.Stays < 0))))]) 11 4 o u ?_ ?_ ?_
 intro hb o key
 iterate 3 refine qn o λo=>?_
 exact qk o (Ab o rfl rfl) key u hb
 intro hb o key
 exact qg o (Ad o Iq rfl) λo=>qg o (eB o isAgg3 rfl u.ld t0 rfl) λo=>qg o (Am o rfl rfl) λo=>qk o (Ac o rfl rfl) key u hb
 intro a w o u
 refine qm o rfl λo=>gr (Fk:=[(1,PT C0),(23,.bool (((decide (20 < (p1.Lines.length:Int))) || (decide (p1.Stays < 0))) || (decide ((p1.Lines.length:Int) < p1.Stays))))]) 16 7 o u ?_ ?_ ?_
 intro hb o key
 iterate 6 refine qn o λo=>?_
 exact qk o (Ab o rfl rfl) key u hb
 intro hb o key
 exact qg o (Ad o Iq rfl) λo=>qg o (eB o isAgg3 rfl u.ld t0 rfl) λo=>qg o (Ad o Et rfl) λo=>qg o (eB o isAgg28 rfl u.ld t0 rfl) λo=>qg o (Aj (α:=Int) (xs:=p1.Lines) o Bn rfl) λo=>qg o (Ba o rfl rfl) λo=>qk o (Ac o rfl rfl) key u hb
 intro a w o u
 refine qm o rfl λo=>gr (Fk:=[(1,PT C0),(32,.bool ((((decide (20 < (p1.Lines.length:Int))) || (decide (p1.Stays < 0))) || (decide ((p1.Lines.length:Int) < p1.Stays))) || (decide ((p1.Firsts.length:Int)≠(p1.Lines.length:Int)))))]) 24 8 o u ?_ ?_ ?_
 intro hb o key
 iterate 7 refine qn o λo=>?_
 exact qk o (Ab o rfl rfl) key u hb
 intro hb o key
 exact qg o (Ad o Rf rfl) λo=>qg o (eB o isAgg28 rfl u.ld t0 rfl) λo=>qg o (Aj (α:=Int) (xs:=p1.Firsts) o Bn rfl) λo=>qg o (Ad o Et rfl) λo=>qg o (eB o isAgg28 rfl u.ld t0 rfl) λo=>qg o (Aj (α:=Int) (xs:=p1.Lines) o Bn rfl) λo=>qg o (Bg o rfl rfl) λo=>qk o (Ac o rfl rfl) key u hb
 intro a w o u
 refine qm o rfl λo=>gr (Fk:=[(1,PT C0),(37,.bool (((((decide (20 < (p1.Lines.length:Int))) || (decide (p1.Stays < 0))) || (decide ((p1.Lines.length:Int) < p1.Stays))) || (decide ((p1.Firsts.length:Int)≠(p1.Lines.length:Int)))) || (decide (p1.Locks < 0))))]) 33 4 o u ?_ ?_ ?_
 intro hb o key
 iterate 3 refine qn o λo=>?_
 exact qk o (Ab o rfl rfl) key u hb
 intro hb o key
 exact qg o (Ad o Se rfl) λo=>qg o (eB o isAgg3 rfl u.ld t0 rfl) λo=>qg o (Am o rfl rfl) λo=>qk o (Ac o rfl rfl) key u hb
 intro a w o u
 refine qm o rfl λo=>gr (Fk:=[(1,PT C0),(42,.bool ((((((decide (20 < (p1.Lines.length:Int))) || (decide (p1.Stays < 0))) || (decide ((p1.Lines.length:Int) < p1.Stays))) || (decide ((p1.Firsts.length:Int)≠(p1.Lines.length:Int)))) || (decide (p1.Locks < 0))) || (decide (2 < p1.Locks))))]) 38 4 o u ?_ ?_ ?_
 intro hb o key
 iterate 3 refine qn o λo=>?_
 exact qk o (Ab o rfl rfl) key u hb
 intro hb o key
 exact qg o (Ad o Se rfl) λo=>qg o (eB o isAgg3 rfl u.ld t0 rfl) λo=>qg o (Ba o rfl rfl) λo=>qk o (Ac o rfl rfl) key u hb
 intro a w o u
 refine qm o rfl λo=>gr (Fk:=[(1,PT C0),(48,.bool (((((((decide (20 < (p1.Lines.length:Int))) || (decide (p1.Stays < 0))) || (decide ((p1.Lines.length:Int) < p1.Stays))) || (decide ((p1.Firsts.length:Int)≠(p1.Lines.length:Int)))) || (decide (p1.Locks < 0))) || (decide (2 < p1.Locks))) || (decide ((p1.Threads.length:Int) < 1))))]) 43 5 o u ?_ ?_ ?_
 intro hb o key
 iterate 4 refine qn o λo=>?_
 exact qk o (Ab o rfl rfl) key u hb
 intro hb o key
 exact qg o (Ad o Mx rfl) λo=>qg o (eB o isAgg30 rfl u.ld t0 rfl) λo=>qg o (Aj (α:=api_Code) (xs:=p1.Threads) o Vt rfl) λo=>qg o (Am o rfl rfl) λo=>qk o (Ac o rfl rfl) key u hb
 intro a w o u
 refine qm o rfl λo=>gr (Fk:=[(1,PT C0),(54,.bool ((((((((decide (20 < (p1.Lines.length:Int))) || (decide (p1.Stays < 0))) || (decide ((p1.Lines.length:Int) < p1.Stays))) || (decide ((p1.Firsts.length:Int)≠(p1.Lines.length:Int)))) || (decide (p1.Locks < 0))) || (decide (2 < p1.Locks))) || (decide ((p1.Threads.length:Int) < 1))) || (decide (3 < (p1.Threads.length:Int)))))]) 49 5 o u ?_ ?_ ?_
 intro hb o key
 iterate 4 refine qn o λo=>?_
 exact qk o (Ab o rfl rfl) key u hb
 intro hb o key
 exact qg o (Ad o Mx rfl) λo=>qg o (eB o isAgg30 rfl u.ld t0 rfl) λo=>qg o (Aj (α:=api_Code) (xs:=p1.Threads) o Vt rfl) λo=>qg o (Ba o rfl rfl) λo=>qk o (Ac o rfl rfl) key u hb
 intro a w o u
 refine re<|?_
 rcases bit hm with ⟨W0,hm⟩ | ⟨W0,hm⟩
 refine tn<|ctv o rfl W0<|th<|rg<|qa o rfl λo=>re<|tn<|wr<|tr<|?_
 obtain rfl:=si hm
 exact r1 o results31 rfl ⟨rfl,u.keep⟩
 refine tn<|cfv o rfl W0<|wk<|tn<|th<|th<|rg<|qa o rfl λo=>re<|tn<|Av (λa w=>(Z5q N p1)=some r∧Fr 159 [(1,PT C0)] a∧St w0 Nil [H] [bk C0 (unC P0 F0 oa21 cap22 M0 I0 K0 D0 O0 J0 p1) 36] w) ?_ ?_
 refine wb<|lp (α:=Nat×Int) (λgh a w=>match gh with | (S0,E0)=>(Z5u N (Z5q N p1) p1) S0 E0=some r∧Fr 159 [(1,PT C0),(3,i6 E0)] a∧St w0 Nil [H] [bk C0 (unC P0 F0 oa21 cap22 M0 I0 K0 D0 O0 J0 p1) 36] w) (λgh=>gh.1) (N,0) ⟨hm,o.hs,u⟩ ?_
 rintro ⟨S0,E0⟩ a w ⟨hm,o,u⟩
 obtain _ | S0:=S0
 simp [Z5u] at hm
 rw [Z5u] at hm
 refine th<|th<|rg<|qm o rfl λo=>qf o Et rfl λo=>qB o isAgg28 rfl u t0 rfl λo=>qv o (Aj (α:=Int) (xs:=p1.Lines) o Bn rfl) λo=>qv o (Am o rfl rfl) λo=>re<|?_
 rcases bip hm with ⟨Y0,hm⟩ | ⟨Y0,hm⟩
 refine tn<|ctv o rfl Y0<|wk<|tn<|th<|wb<|th<|th<|?_
 obtain ⟨T1,U1,hm⟩:=bs hm
 obtain ⟨M3,O3,V1⟩:=SR.get V0 U1
 obtain rfl:M3=[i6 T1]:=O3
 refine rg<|qf o Rf rfl λo=>qB o isAgg28 rfl u t0 rfl λo=>qm o rfl λo=>qv o (eI o Bn sizeOf3 rfl rfl U1 V0) λo=>qv o (eD o isAgg3 rfl u.ld (V1 0 _ rfl)) λo=>qv o (Am o rfl rfl) λo=>qm o rfl λo=>gr (Fk:=[(1,PT C0),(3,i6 E0),(75,.bool ((decide (T1 < 0)) || (decide (4294967296 < T1))))]) 68 7 o u ?_ ?_ ?_
 intro hb o key
 iterate 6 refine qn o λo=>?_
 exact qk o (Ab o rfl rfl) key u hb
 intro hb o key
 exact qg o (Ad o Rf rfl) λo=>qg o (eB o isAgg28 rfl u.ld t0 rfl) λo=>qg o (Aa o rfl) λo=>qg o (eI o Bn sizeOf3 rfl rfl U1 V0) λo=>qg o (eD o isAgg3 rfl u.ld (V1 0 _ rfl)) λo=>qg o (Ba o rfl rfl) λo=>qk o (Ac o rfl rfl) key u hb
 intro a w o u
 refine re<|?_
 rcases bit hm with ⟨j0,hm⟩ | ⟨j0,hm⟩
 refine tn<|ctv o rfl j0<|th<|rg<|qa o rfl λo=>re<|tn<|wr<|tr<|br<|tr<|tr<|br<|tr<|?_
 obtain rfl:=si hm
 exact r1 o results31 rfl ⟨rfl,u.keep⟩
 refine tn<|cfv o rfl j0<|wk<|tn<|th<|rg<|qa o rfl λo=>re<|tn<|th<|th<|rg<|qm o rfl λo=>qv o (Ba o rfl rfl) λo=>re<|tn<|Av (λa w=>∃ (R0:Int),(Z5r (Z5u N (Z5q N p1) p1 S0) p1 E0) R0=some r∧Fr 159 [(1,PT C0),(3,i6 E0),(4,i6 R0)] a∧St w0 Nil [H] [bk C0 (unC P0 F0 oa21 cap22 M0 I0 K0 D0 O0 J0 p1) 36] w) ?_ ?_
 rcases bip hm with ⟨n0,hm⟩ | ⟨n0,hm⟩
 refine ctv o rfl n0<|?_
 obtain ⟨C2,E2,hm⟩:=bs hm
 obtain ⟨P3,Q3,O2⟩:=SR.get Q0 E2
 obtain rfl:P3=[i6 C2]:=Q3
 refine rg<|qf o Et rfl λo=>qB o isAgg28 rfl u t0 rfl λo=>qm o rfl λo=>qv o (Dr o rfl rfl) λo=>qv o (eI o Bn sizeOf3 rfl rfl E2 Q0) λo=>qv o (eD o isAgg3 rfl u.ld (O2 0 _ rfl)) λo=>qv o (Ao o rfl rfl) λo=>qa o rfl λo=>re<|tn<|?_
 exact ⟨(i64.wrap (C2+1)),hm,o.hs,u⟩
 refine cfv o rfl n0<|wk<|tn<|?_
 exact ⟨0,hm,o.hs,u⟩
 rintro a w ⟨R0,hm,o,u⟩
 unfold Z5r at hm
 refine th<|?_
 obtain ⟨J1,X1,hm⟩:=bs hm
 obtain ⟨R3,S3,Y1⟩:=SR.get Q0 X1
 obtain rfl:R3=[i6 J1]:=S3
 refine rg<|qf o Et rfl λo=>qB o isAgg28 rfl u t0 rfl λo=>qm o rfl λo=>qv o (eI o Bn sizeOf3 rfl rfl X1 Q0) λo=>qv o (eD o isAgg3 rfl u.ld (Y1 0 _ rfl)) λo=>qm o rfl λo=>qv o (Bg o rfl rfl) λo=>qm o rfl λo=>gr (Fk:=[(1,PT C0),(3,i6 E0),(111,.bool ((decide (J1≠R0)) && (((decide (E0=0)) || (decide (p1.Stays≤E0))) || (decide (J1≠(i64.wrap (R0 - 1)))))))]) 92 19 o u ?_ ?_ ?_
 intro hb o key
 refine qg o (Aa o rfl) λo=>qg o (Ah o rfl rfl) λo=>qg o (Aa o rfl) λo=>gr (Fk:=[(1,PT C0),(3,i6 E0),(4,i6 R0),(92,.bool true),(100,.bool ((decide (E0=0)) || (decide (p1.Stays≤E0))))]) 95 5 o u ?_ ?_ ?_
 intro hb o key
 iterate 4 refine qn o λo=>?_
 exact ql o (Ab o rfl rfl) key u hb
 intro hb o key
 exact qg o (Aa o rfl) λo=>qg o (Ad o Iq rfl) λo=>qg o (eB o isAgg3 rfl u.ld t0 rfl) λo=>qg o (Bw o rfl rfl) λo=>ql o (Ac o rfl rfl) key u hb
 intro a w o u
 refine qg o (Aa o rfl) λo=>gr (Fk:=[(1,PT C0),(3,i6 E0),(92,.bool true),(110,.bool (((decide (E0=0)) || (decide (p1.Stays≤E0))) || (decide (J1≠(i64.wrap (R0 - 1))))))]) 101 9 o u ?_ ?_ ?_
 intro hb o key
 iterate 8 refine qn o λo=>?_
 exact ql o (Ab o rfl rfl) key u hb
 intro hb o key
 exact qg o (Ad o Et rfl) λo=>qg o (eB o isAgg28 rfl u.ld t0 rfl) λo=>qg o (Aa o rfl) λo=>qg o (eI o Bn sizeOf3 rfl rfl X1 Q0) λo=>qg o (eD o isAgg3 rfl u.ld (Y1 0 _ rfl)) λo=>qg o (Aa o rfl) λo=>qg o (Dr o rfl rfl) λo=>qg o (Bg o rfl rfl) λo=>ql o (Ac o rfl rfl) key u hb
 intro a w o u
 exact qk o (Ab o rfl rfl) key u hb
 intro hb o key
 iterate 3 refine qn o λo=>?_
 iterate 4 refine ls<|gnu o rfl rfl rfl λa o=>?_
 iterate 2 refine qn o λo=>?_
 iterate 8 refine ls<|gnu o rfl rfl rfl λa o=>?_
 exact qn o λo=>qk o (Ac o rfl rfl) key u hb
 intro a w o u
 refine re<|?_
 rcases bit hm with ⟨C1,hm⟩ | ⟨C1,hm⟩
 refine tn<|ctv o rfl C1<|th<|rg<|qa o rfl λo=>re<|tn<|wr<|br<|tr<|tr<|br<|tr<|?_
 obtain rfl:=si hm
 exact r1 o results31 rfl ⟨rfl,u.keep⟩
 refine tn<|cfv o rfl C1<|wk<|bn<|tn<|rg<|qm o rfl λo=>qv o (Ao o rfl rfl) λo=>qa o rfl λo=>re<|tn<|?_
 exact ⟨(S0,(i64.wrap (E0+1))),⟨hm,o.hs,u⟩,kxd _⟩
 refine tn<|cfv o rfl Y0<|we<|tx<|tx<|bx<|tn<|?_
 exact ⟨hm,o.hs,u⟩
 rintro a w ⟨hm,o,u⟩
 unfold Z5q at hm
 refine th<|th<|rg<|qa o rfl λo=>re<|tn<|Av (λa w=>(Z5s N p1)=some r∧Fr 159 [(1,PT C0)] a∧St w0 Nil [H] [bk C0 (unC P0 F0 oa21 cap22 M0 I0 K0 D0 O0 J0 p1) 36] w) ?_ ?_
 refine wb<|lp (α:=Nat×Int) (λgh a w=>match gh with | (T0,O1)=>(Z5v N (Z5s N p1) p1) T0 O1=some r∧Fr 159 [(1,PT C0),(5,i6 O1)] a∧St w0 Nil [H] [bk C0 (unC P0 F0 oa21 cap22 M0 I0 K0 D0 O0 J0 p1) 36] w) (λgh=>gh.1) (N,0) ⟨hm,o.hs,u⟩ ?_
 rintro ⟨T0,O1⟩ a w ⟨hm,o,u⟩
 obtain _ | T0:=T0
 simp [Z5v] at hm
 rw [Z5v] at hm
 refine th<|th<|rg<|qm o rfl λo=>qf o Mx rfl λo=>qB o isAgg30 rfl u t0 rfl λo=>qv o (Aj (α:=api_Code) (xs:=p1.Threads) o Vt rfl) λo=>qv o (Am o rfl rfl) λo=>re<|?_
 rcases bip hm with ⟨D1,hm⟩ | ⟨D1,hm⟩
 refine tn<|ctv o rfl D1<|wk<|tn<|th<|wb<|th<|?_
 obtain ⟨P1,F2,hm⟩:=bs hm
 obtain ⟨J4,T3,P2⟩:=SR.get R1 F2
 obtain ⟨R2,u1,rfl,T2,U2⟩:=Cp T3
 obtain ⟨K4,U3,hm⟩:=bs hm
 obtain ⟨L4,V3,hm⟩:=bs hm
 refine rdS 14 u wide λw u=>dr 0 u o rfl (Ad o Mx rfl) λo=>dq 1 u.ld o rfl (λw hl=>eB o isAgg30 rfl hl t0 rfl) λo=>dr 2 u o rfl (Aa o rfl) λo=>dr 3 u o rfl (eI o Vt sizeOf33 rfl rfl F2 R1) λo=>dq 4 u.ld o rfl (λw hl=>eC o isAgg33 sizeOf33 rfl hl P2) λo=>dr 5 u o rfl (Ad o Et rfl) λo=>dq 6 u.ld o rfl (λw hl=>eB o isAgg28 rfl hl t0 rfl) λo=>dr 7 u o rfl (Aj (α:=Int) (xs:=p1.Lines) o Bn rfl) λo=>dq 8 u.ld o rfl (λw hl=>An o isAgg36 sizeOf36 rfl rfl (hl.cellsB t0)) λo=>dr 10 u o rfl (Ad o Se rfl) λo=>dq 11 u.ld o rfl (λw hl=>eB o isAgg3 rfl hl t0 rfl) λo=>dz 9 rfl<|cr o call69 (Jep (Ag _) (Enc.mono (St.up u) g3) U3) u λu o=>⟨λ_=>u.ld,?_⟩
 refine dz 12 rfl<|cr o call68 (Jeu (Ag _) (Enc.mono (St.up u) (show Enc.rep (α:=api_Code) H [i6 P1.Regs,i6 P1.Counts,SL R2 P1.L u1] P1 from ⟨_,_,rfl,rfl,⟨_,_,rfl,rfl,⟨_,_,rfl,T2,U2⟩⟩⟩)) V3) u λu o=>⟨λ_=>u.ld,?_⟩
 refine dr 13 u o rfl (Bi o rfl) λo=>dE<|?_
 rcases bit hm with ⟨E1,hm⟩ | ⟨E1,hm⟩
 refine tn<|cfv o rfl (by rw [E1];rfl)<|wk<|bn<|tn<|rg<|qm o rfl λo=>qv o (Ao o rfl rfl) λo=>qa o rfl λo=>re<|tn<|?_
 exact ⟨(T0,(i64.wrap (O1+1))),⟨hm,o.hs,u⟩,kxd _⟩
 refine tn<|ctv o rfl (by rw [E1];rfl)<|th<|rg<|qa o rfl λo=>re<|tn<|wr<|br<|tr<|tr<|br<|tr<|?_
 obtain rfl:=si hm
 exact r1 o results31 rfl ⟨rfl,u.keep⟩
 refine tn<|cfv o rfl D1<|we<|tx<|tx<|bx<|tn<|?_
 exact ⟨hm,o.hs,u⟩
 rintro a w ⟨hm,o,u⟩
 unfold Z5s at hm
 refine th<|th<|rg<|qa o rfl λo=>re<|tn<|Av (λa w=>(Z5t N p1)=some r∧Fr 159 [(1,PT C0)] a∧St w0 Nil [H] [bk C0 (unC P0 F0 oa21 cap22 M0 I0 K0 D0 O0 J0 p1) 36] w) ?_ ?_
 refine wb<|lp (α:=Nat×Int) (λgh a w=>match gh with | (U0,Q1)=>(Z5w N (Z5t N p1) p1) U0 Q1=some r∧Fr 159 [(1,PT C0),(6,i6 Q1)] a∧St w0 Nil [H] [bk C0 (unC P0 F0 oa21 cap22 M0 I0 K0 D0 O0 J0 p1) 36] w) (λgh=>gh.1) (N,0) ⟨hm,o.hs,u⟩ ?_
 rintro ⟨U0,Q1⟩ a w ⟨hm,o,u⟩
 obtain _ | U0:=U0
 simp [Z5w] at hm
 rw [Z5w] at hm
 refine th<|th<|rg<|qm o rfl λo=>qf o Vi rfl λo=>qB o isAgg34 rfl u t0 rfl λo=>qv o (Aj (α:=(List api_Op)) (xs:=p1.Claims) o JfK rfl) λo=>qv o (Am o rfl rfl) λo=>re<|?_
 rcases bip hm with ⟨F1,hm⟩ | ⟨F1,hm⟩
 refine tn<|ctv o rfl F1<|wk<|tn<|th<|wb<|th<|?_
 obtain ⟨M4,I2,hm⟩:=bs hm
 obtain ⟨O4,W3,V2⟩:=SR.get S1 I2
 obtain ⟨F4,A4,rfl,W2,X2⟩:=W3
 obtain ⟨P4,X3,hm⟩:=bs hm
 refine rdS 9 u wide λw u=>dr 0 u o rfl (Ad o Vi rfl) λo=>dq 1 u.ld o rfl (λw hl=>eB o isAgg34 rfl hl t0 rfl) λo=>dr 2 u o rfl (Aa o rfl) λo=>dr 3 u o rfl (eI o JfK sizeOf79 rfl rfl I2 S1) λo=>dq 4 u.ld o rfl (λw hl=>eD o isAgg79 rfl hl (V2 0 _ rfl)) λo=>dr 5 u o rfl (Ad o Iq rfl) λo=>dq 6 u.ld o rfl (λw hl=>eB o isAgg3 rfl hl t0 rfl) λo=>dz 7 rfl<|cr o call70 (Qm (Ag _) W2 (St.srH u X2) X3) u λu o=>⟨λ_=>u.ld,?_⟩
 refine dr 8 u o rfl (Bi o rfl) λo=>dE<|?_
 rcases bit hm with ⟨I1,hm⟩ | ⟨I1,hm⟩
 refine tn<|cfv o rfl (by rw [I1];rfl)<|wk<|bn<|tn<|rg<|qm o rfl λo=>qv o (Ao o rfl rfl) λo=>qa o rfl λo=>re<|tn<|?_
 exact ⟨(U0,(i64.wrap (Q1+1))),⟨hm,o.hs,u⟩,kxd _⟩
 refine tn<|ctv o rfl (by rw [I1];rfl)<|th<|rg<|qa o rfl λo=>re<|tn<|wr<|br<|tr<|tr<|br<|tr<|?_
 obtain rfl:=si hm
 exact r1 o results31 rfl ⟨rfl,u.keep⟩
 refine tn<|cfv o rfl F1<|we<|tx<|tx<|bx<|tn<|?_
 exact ⟨hm,o.hs,u⟩
 rintro a w ⟨hm,o,u⟩
 unfold Z5t at hm
 refine th<|?_
 obtain ⟨Q4,Y3,hm⟩:=bs hm
 obtain ⟨I4,Y2,hm⟩:=bs hm
 refine rdS 11 u wide λw u=>dr 0 u o rfl (Ad o JbY rfl) λo=>dq 1 u.ld o rfl (λw hl=>An o isAgg33 sizeOf33 rfl rfl (Lds.cellsP (pre:=[SL P0 p1.Lines F0,i6 p1.Stays,SL oa21 p1.Firsts cap22,i6 p1.Locks,SL M0 p1.Threads I0]) (vs:=[i6 p1.Recover.Regs,i6 p1.Recover.Counts,SL K0 p1.Recover.L D0]) (post:=[SL O0 p1.Claims J0]) hl t0)) λo=>dr 2 u o rfl (Ad o Et rfl) λo=>dq 3 u.ld o rfl (λw hl=>eB o isAgg28 rfl hl t0 rfl) λo=>dr 4 u o rfl (Aj (α:=Int) (xs:=p1.Lines) o Bn rfl) λo=>dq 5 u.ld o rfl (λw hl=>An o isAgg36 sizeOf36 rfl rfl (hl.cellsB t0)) λo=>dr 7 u o rfl (Ad o Se rfl) λo=>dq 8 u.ld o rfl (λw hl=>eB o isAgg3 rfl hl t0 rfl) λo=>dz 6 rfl<|cr o call69 (Jep (Ag _) (Enc.mono (St.up u) g3) Y3) u λu o=>⟨λ_=>u.ld,?_⟩
 refine dz 9 rfl<|cr o call68 (Jeu (Ag _) (Enc.mono (St.up u) (show Enc.rep (α:=api_Code) H [i6 p1.Recover.Regs,i6 p1.Recover.Counts,SL K0 p1.Recover.L D0] p1.Recover from ⟨_,_,rfl,rfl,⟨_,_,rfl,rfl,⟨_,_,rfl,J2,K2⟩⟩⟩)) Y2) u λu o=>⟨λ_=>u.ld,?_⟩
 refine dr 10 u o rfl (Ca o rfl) λo=>dE<|tn<|wr<|?_
 obtain rfl:=si hm
 exact r1 o results31 rfl ⟨rfl,u.keep⟩
theorem Jfj (hH:H.le w0) {p1:api_Event} {r:Bool} (hm:Zj N p1=some r):Tot Tryz.prog 44 #[.agg #[i6 p1.Kind,i6 p1.T,i6 p1.A,i6 p1.N,i6 p1.M]] w0 (λv w'=>v=.bool r∧Keep Nil w0 w'):=by
 unfold Zj at hm
 refine fn0 func44 rfl ntmps44 rfl rfl λa o=>?_
 have u:St w0 Nil [H] [] w0:=start1 hH
 refine th<|rg<|ls<|Bo (cs:=[i6 p1.Kind,i6 p1.T,i6 p1.A,i6 p1.N,i6 p1.M].toArray) o rfl u rfl rfl λb2 w a u o=>qa o rfl λo=>re<|tn<|th<|rg<|qf o Dv rfl λo=>qB o isAgg3 rfl u t0 rfl λo=>qv o (Ah o rfl rfl) λo=>qm o rfl λo=>gr (Fk:=[(10,.bool ((decide (p1.Kind=15)) || (decide (p1.Kind=16))))]) 6 4 o u ?_ ?_ ?_
 intro hb o key
 iterate 3 refine qn o λo=>?_
 exact qk o (Ab o rfl rfl) key u hb
 intro hb o key
 exact qg o (Ad o Dv rfl) λo=>qg o (eB o isAgg3 rfl u.ld t0 rfl) λo=>qg o (Ah o rfl rfl) λo=>qk o (Ac o rfl rfl) key u hb
 intro a w o u
 refine qa o rfl λo=>re<|tn<|wr<|?_
 obtain rfl:=si hm
 exact r1 o results44 rfl ⟨rfl,u.keep⟩
theorem Jfq (hH:H.le w0) {p1:api_Event} {oa3:Option Addr} {cap4:Nat} {p2:(List Int)} (R3:p2.length≤cap4) (U1:SR H oa3 p2) {p7:Int} {r:(List api_Use)} (hm:Zc N p1 p2 p7=some r):Tot Tryz.prog 27 #[.agg #[i6 p1.Kind,i6 p1.T,i6 p1.A,i6 p1.N,i6 p1.M],SL oa3 p2 cap4,i6 p7] w0 (λv w'=>∃ (V1:Option Addr) (D1:Nat) (X1:List Value),v=SL V1 r D1∧(∀ h,Rows h X1 r)∧Fresh w0 (sla 93 3 V1 r.length D1 X1) w'):=by
 unfold Zc at hm
 refine fn0 func27 rfl ntmps27 rfl rfl λa o=>?_
 have u:St w0 Nil [H] [] w0:=start1 hH
 refine th<|rg<|ls<|Bo (cs:=[i6 p1.Kind,i6 p1.T,i6 p1.A,i6 p1.N,i6 p1.M].toArray) o rfl u rfl rfl λb8 w a u o=>qa o rfl λo=>re<|tn<|th<|rg<|qa o rfl λo=>re<|tn<|th<|th<|rg<|qf o Dv rfl λo=>qB o isAgg3 rfl u t0 rfl λo=>re<|tn<|Av (λa w=>∃ (K0:(List api_Use)) (M0:Option Addr) (F0:Nat) (O0:List Value),Zd K0=some r∧Fr 75 [(7,SL M0 K0 F0)] a∧St w0 Nil [H] [sla 93 3 M0 K0.length F0 O0] w∧Rows H O0 K0) ?_ ?_
 refine wb<|th<|wb<|th<|wb<|th<|Av (λa w=>∃ (C0:api_Event) (E0:(List api_Use)) (P0:Option Addr) (I0:Nat) (Q0:List Value),(Ze Zd) C0 E0=some r∧Fr 75 [(3,PT b8),(7,SL P0 E0 I0)] a∧St w0 Nil [H] [bk b8 [i6 C0.Kind,i6 C0.T,i6 C0.A,i6 C0.N,i6 C0.M] 48,sla 93 3 P0 E0.length I0 Q0] w∧Rows H Q0 E0) ?_ ?_
 refine wb<|th<|wb<|th<|wb<|th<|th<|th<|th<|rg<|qv o (Ah o rfl rfl) λo=>qa o rfl λo=>re<|tn<|Av (λa w=>∃ (E1:Bool),(Zf N Zd (Ze Zd) p1 p2 p7) E1=some r∧Fr 75 [(1,SL oa3 p2 cap4),(2,i6 p7),(3,PT b8),(7,.slice none 0 0),(9,i6 p1.Kind),(10,.bool E1)] a∧St w0 Nil [H] [bk b8 [i6 p1.Kind,i6 p1.T,i6 p1.A,i6 p1.N,i6 p1.M] 48] w) ?_ ?_
 rcases bip hm with ⟨F1,hm⟩ | ⟨F1,hm⟩
 refine ctv o rfl F1<|wk<|tn<|?_
 exact ⟨(decide (p1.Kind=1)),hm,o.hs,u⟩
 refine cfv o rfl F1<|rg<|qv o (Ah o rfl rfl) λo=>qa o rfl λo=>re<|tn<|?_
 exact ⟨(decide (p1.Kind=9)),hm,o.hs,u⟩
 rintro a w ⟨E1,hm,o,u⟩
 unfold Zf at hm
 rcases bit hm with ⟨R0,hm⟩ | ⟨R0,hm⟩
 refine ctv o rfl R0<|we<|tx<|tx<|bx<|tn<|th<|?_
 obtain ⟨D3,E3,hm⟩:=bs hm
 refine rg<|qm o rfl λo=>qf o Gx rfl λo=>qB o isAgg3 rfl u t0 rfl λo=>qv o (bL [i6 1,i6 p1.A] [i6 1,i6 p1.A,.bool false] o) λo=>ls<|bz (e:=93) (sz:=3) [i6 1,i6 p1.A,.bool false] o u λS3 u o=>?_
 have C2:Rows (α:=api_Use) H [i6 1,i6 p1.A,.bool false] ([(api_Use.mk 1 p1.A false)]:List api_Use):=(.cons (c:=[i6 1,i6 p1.A,.bool false]) ⟨_,_,rfl,rfl,⟨_,_,rfl,rfl,rfl⟩⟩ .nil)
 replace u:=u.nilS 93 3
 refine ls<|Ay (α:=api_Use) (xs:=[]) (ys:=([(api_Use.mk 1 p1.A false)]:List api_Use)) o rfl u underlying90 Ql rfl (by decide) rfl rfl rfl t0 .nil (u.rdO t1) C2 E3 λoa16 cap17 vs18 w a E2 hU o=>?_
 replace u:=hU _ .head
 replace u:=u.drop (.tail .head)
 refine qa o rfl λo=>re<|tn<|we<|bo rfl<|tx<|bo rfl<|tx<|bo rfl<|tx<|bo rfl<|tx<|bx<|tn<|?_
 replace u:=u.pk [0] rfl
 exact ⟨D3,oa16,cap17,vs18,hm,o.hs,u,E2⟩
 refine cfv o rfl R0<|wk<|tn<|th<|th<|th<|rg<|qv o (Ah o rfl rfl) λo=>qa o rfl λo=>re<|tn<|Av (λa w=>∃ (I1:Bool),(Zg N Zd (Ze Zd) p1 p2 p7) I1=some r∧Fr 75 [(1,SL oa3 p2 cap4),(2,i6 p7),(3,PT b8),(7,.slice none 0 0),(9,i6 p1.Kind),(13,.bool I1)] a∧St w0 Nil [H] [bk b8 [i6 p1.Kind,i6 p1.T,i6 p1.A,i6 p1.N,i6 p1.M] 48] w) ?_ ?_
 rcases bip hm with ⟨S0,hm⟩ | ⟨S0,hm⟩
 refine ctv o rfl S0<|wk<|tn<|?_
 exact ⟨(decide (p1.Kind=8)),hm,o.hs,u⟩
 refine cfv o rfl S0<|rg<|qv o (Ah o rfl rfl) λo=>qa o rfl λo=>re<|tn<|?_
 exact ⟨(decide (p1.Kind=12)),hm,o.hs,u⟩
 rintro a w ⟨I1,hm,o,u⟩
 unfold Zg at hm
 rcases bit hm with ⟨T0,hm⟩ | ⟨T0,hm⟩
 refine ctv o rfl T0<|we<|tx<|tx<|bo rfl<|tx<|bx<|tn<|th<|?_
 obtain ⟨C1,F3,hm⟩:=bs hm
 refine rg<|qm o rfl λo=>qf o Gx rfl λo=>qB o isAgg3 rfl u t0 rfl λo=>qv o (bL [i6 1,i6 p1.A,.bool true] [i6 1,i6 p1.A,.bool true] o) λo=>ls<|bz (e:=93) (sz:=3) [i6 1,i6 p1.A,.bool true] o u λT3 u o=>?_
 have F2:Rows (α:=api_Use) H [i6 1,i6 p1.A,.bool true] ([(api_Use.mk 1 p1.A true)]:List api_Use):=(.cons (c:=[i6 1,i6 p1.A,.bool true]) ⟨_,_,rfl,rfl,⟨_,_,rfl,rfl,rfl⟩⟩ .nil)
 replace u:=u.nilS 93 3
 refine ls<|Ay (α:=api_Use) (xs:=[]) (ys:=([(api_Use.mk 1 p1.A true)]:List api_Use)) o rfl u underlying90 Ql rfl (by decide) rfl rfl rfl t0 .nil (u.rdO t1) F2 F3 λJ0 D0 J1 w a O1 hU o=>?_
 replace u:=hU _ .head
 replace u:=u.drop (.tail .head)
 refine qa o rfl λo=>re<|tn<|th<|th<|rg<|qf o Gx rfl λo=>qB o isAgg3 rfl u t1 rfl λo=>qv o (Am o rfl rfl) λo=>qm o rfl λo=>gr (Fk:=[(1,SL oa3 p2 cap4),(3,PT b8),(7,SL J0 C1 D0),(44,.bool ((decide (p1.A < 0)) || (decide (p7≤p1.A))))]) 39 5 o u ?_ ?_ ?_
 intro hb o key
 iterate 4 refine qn o λo=>?_
 exact qk o (Ab o rfl rfl) key u hb
 intro hb o key
 exact qg o (Ad o Gx rfl) λo=>qg o (eB o isAgg3 rfl u.ld t1 rfl) λo=>qg o (Aa o rfl) λo=>qg o (Bw o rfl rfl) λo=>qk o (Ac o rfl rfl) key u hb
 intro a w o u
 refine qm o rfl λo=>gr (Fk:=[(1,SL oa3 p2 cap4),(3,PT b8),(7,SL J0 C1 D0),(51,.bool (((decide (p1.A < 0)) || (decide (p7≤p1.A))) || (decide ((p2.length:Int)≤p1.A))))]) 45 6 o u ?_ ?_ ?_
 intro hb o key
 iterate 5 refine qn o λo=>?_
 exact qk o (Ab o rfl rfl) key u hb
 intro hb o key
 exact qg o (Ad o Gx rfl) λo=>qg o (eB o isAgg3 rfl u.ld t1 rfl) λo=>qg o (Aa o rfl) λo=>qg o (Aj (α:=Int) (xs:=p2) o Bn rfl) λo=>qg o (Bw o rfl rfl) λo=>qk o (Ac o rfl rfl) key u hb
 intro a w o u
 refine re<|?_
 rcases bit hm with ⟨U0,hm⟩ | ⟨U0,hm⟩
 refine tn<|ctv o rfl U0<|we<|tx<|bo rfl<|tx<|bo rfl<|tx<|bo rfl<|tx<|bx<|tn<|?_
 replace u:=u.pk [0] rfl
 exact ⟨C1,J0,D0,J1,hm,o.hs,u,O1⟩
 refine tn<|cfv o rfl U0<|wk<|tn<|?_
 obtain ⟨Y1,u1,hm⟩:=bs hm
 obtain ⟨I3,J3,I2⟩:=SR.get U1 u1
 obtain rfl:I3=[i6 Y1]:=J3
 refine rg<|qm o rfl λo=>qf o Gx rfl λo=>qB o isAgg3 rfl u t1 rfl λo=>qv o (eI o Bn sizeOf3 rfl rfl u1 U1) λo=>qv o (eD o isAgg3 rfl u.ld (I2 0 _ rfl)) λo=>qf o Gx rfl λo=>ls<|Bl o u sizeOf3 rfl rfl rfl rfl (.tail .head) (.succ (.succ .zero)) λw u=>re<|bn<|tn<|?_
 replace u:=u.pk [1,0] rfl
 exact ⟨(api_Event.mk p1.Kind p1.T Y1 p1.N p1.M),C1,J0,D0,J1,hm,o.hs,u,O1⟩
 refine cfv o rfl T0<|wk<|tn<|th<|th<|rg<|qv o (Ah o rfl rfl) λo=>qa o rfl λo=>re<|?_
 rcases bip hm with ⟨V0,hm⟩ | ⟨V0,hm⟩
 refine tn<|ctv o rfl V0<|we<|tx<|tx<|bo rfl<|tx<|bo rfl<|tx<|bx<|tn<|?_
 replace u:=u.nilS 93 3
 replace u:=u.pk [1,0] rfl
 exact ⟨p1,[],none,0,[],hm,o.hs,u,.nil⟩
 refine tn<|cfv o rfl V0<|wk<|tn<|th<|th<|th<|rg<|qv o (Ah o rfl rfl) λo=>qa o rfl λo=>re<|tn<|Av (λa w=>∃ (P1:Bool),(Zh Zd p1) P1=some r∧Fr 75 [(3,PT b8),(7,.slice none 0 0),(9,i6 p1.Kind),(18,.bool P1)] a∧St w0 Nil [H] [bk b8 [i6 p1.Kind,i6 p1.T,i6 p1.A,i6 p1.N,i6 p1.M] 48] w) ?_ ?_
 rcases bip hm with ⟨W0,hm⟩ | ⟨W0,hm⟩
 refine ctv o rfl W0<|wk<|tn<|?_
 exact ⟨(decide (p1.Kind=10)),hm,o.hs,u⟩
 refine cfv o rfl W0<|rg<|qv o (Ah o rfl rfl) λo=>qa o rfl λo=>re<|tn<|?_
 exact ⟨(decide (p1.Kind=11)),hm,o.hs,u⟩
 rintro a w ⟨P1,hm,o,u⟩
 unfold Zh at hm
 rcases bit hm with ⟨Y0,hm⟩ | ⟨Y0,hm⟩
 refine ctv o rfl Y0<|we<|tx<|tx<|bo rfl<|tx<|bo rfl<|tx<|bo rfl<|tx<|bx<|tn<|th<|?_
 obtain ⟨K3,L3,hm⟩:=bs hm
 refine rg<|qm o rfl λo=>qf o Gx rfl λo=>qB o isAgg3 rfl u t0 rfl λo=>qv o (bL [i6 3,i6 p1.A,.bool true] [i6 3,i6 p1.A,.bool true] o) λo=>ls<|bz (e:=93) (sz:=3) [i6 3,i6 p1.A,.bool true] o u λU3 u o=>?_
 have J2:Rows (α:=api_Use) H [i6 3,i6 p1.A,.bool true] ([(api_Use.mk 3 p1.A true)]:List api_Use):=(.cons (c:=[i6 3,i6 p1.A,.bool true]) ⟨_,_,rfl,rfl,⟨_,_,rfl,rfl,rfl⟩⟩ .nil)
 replace u:=u.nilS 93 3
 refine ls<|Ay (α:=api_Use) (xs:=[]) (ys:=([(api_Use.mk 3 p1.A true)]:List api_Use)) o rfl u underlying90 Ql rfl (by decide) rfl rfl rfl t0 .nil (u.rdO t1) J2 L3 λK2 R1 O2 w a P2 hU o=>?_
 replace u:=hU _ .head
 replace u:=u.drop (.tail .head)
 refine qa o rfl λo=>re<|tn<|we<|bo rfl<|tx<|bx<|tn<|?_
 replace u:=u.pk [0] rfl
 exact ⟨K3,K2,R1,O2,hm,o.hs,u,P2⟩
 refine cfv o rfl Y0<|wk<|tn<|th<|th<|rg<|qv o (Ah o rfl rfl) λo=>qa o rfl λo=>re<|tn<|Av (λa w=>∃ (Q1:Bool),(Zi Zd) Q1=some r∧Fr 75 [(7,.slice none 0 0),(21,.bool Q1)] a∧St w0 Nil [H] [] w) ?_ ?_
 rcases bip hm with ⟨j0,hm⟩ | ⟨j0,hm⟩
 refine ctv o rfl j0<|wk<|tn<|?_
 replace u:=u.pickL .nil
 exact ⟨(decide (p1.Kind=15)),hm,o.hs,u⟩
 refine cfv o rfl j0<|rg<|qv o (Ah o rfl rfl) λo=>qa o rfl λo=>re<|tn<|?_
 replace u:=u.pickL .nil
 exact ⟨(decide (p1.Kind=16)),hm,o.hs,u⟩
 rintro a w ⟨Q1,hm,o,u⟩
 unfold Zi at hm
 rcases bit hm with ⟨n0,hm⟩ | ⟨n0,hm⟩
 refine ctv o rfl n0<|we<|tx<|bo rfl<|tx<|bo rfl<|tx<|bo rfl<|tx<|bo rfl<|tx<|bx<|tn<|th<|?_
 obtain ⟨M3,O3,hm⟩:=bs hm
 refine rg<|qm o rfl λo=>qv o (bL [i6 4,.bool true] [i6 4,i6 0,.bool true] o) λo=>ls<|bz (e:=93) (sz:=3) [i6 4,i6 0,.bool true] o u λV3 u o=>?_
 have R2:Rows (α:=api_Use) H [i6 4,i6 0,.bool true] ([(api_Use.mk 4 0 true)]:List api_Use):=(.cons (c:=[i6 4,i6 0,.bool true]) ⟨_,_,rfl,rfl,⟨_,_,rfl,rfl,rfl⟩⟩ .nil)
 replace u:=u.nilS 93 3
 refine ls<|Ay (α:=api_Use) (xs:=[]) (ys:=([(api_Use.mk 4 0 true)]:List api_Use)) o rfl u underlying90 Ql rfl (by decide) rfl rfl rfl t0 .nil (u.rdO t1) R2 O3 λT2 S1 U2 w a V2 hU o=>?_
 replace u:=hU _ .head
 replace u:=u.drop (.tail .head)
 refine qa o rfl λo=>re<|tn<|we<|bx<|tn<|?_
 exact ⟨M3,T2,S1,U2,hm,o.hs,u,V2⟩
 refine cfv o rfl n0<|wk<|tn<|we<|bo rfl<|tx<|bo rfl<|tx<|bo rfl<|tx<|bo rfl<|tx<|bo rfl<|tx<|bx<|tn<|?_
 replace u:=u.nilS 93 3
 exact ⟨[],none,0,[],hm,o.hs,u,.nil⟩
 rintro a w ⟨C0,E0,P0,I0,Q0,hm,o,u,W2⟩
 unfold Ze at hm
 refine th<|?_
 obtain ⟨P3,Q3,hm⟩:=bs hm
 refine rg<|qm o rfl λo=>qf o Gx rfl λo=>qB o isAgg3 rfl u t0 rfl λo=>qv o (bL [i6 2,i6 C0.A,.bool true] [i6 2,i6 C0.A,.bool true] o) λo=>ls<|bz (e:=93) (sz:=3) [i6 2,i6 C0.A,.bool true] o u λW3 u o=>?_
 have X2:Rows (α:=api_Use) H [i6 2,i6 C0.A,.bool true] ([(api_Use.mk 2 C0.A true)]:List api_Use):=(.cons (c:=[i6 2,i6 C0.A,.bool true]) ⟨_,_,rfl,rfl,⟨_,_,rfl,rfl,rfl⟩⟩ .nil)
 refine ls<|Ay (α:=api_Use) (xs:=E0) (ys:=([(api_Use.mk 2 C0.A true)]:List api_Use)) o rfl u underlying90 Ql rfl (by decide) rfl rfl rfl t2 W2 (u.rdO t0) X2 Q3 λY2 T1 A3 w a B3 hU o=>?_
 replace u:=hU _ (.tail (.tail .head))
 replace u:=u.drop .head
 refine qa o rfl λo=>re<|tn<|we<|bo rfl<|tx<|bo rfl<|tx<|bx<|tn<|?_
 replace u:=u.pk [1] rfl
 exact ⟨P3,Y2,T1,A3,hm,o.hs,u,B3⟩
 rintro a w ⟨K0,M0,F0,O0,hm,o,u,C3⟩
 unfold Zd at hm
 refine th<|rg<|qm o rfl λo=>qa o rfl λo=>re<|tn<|wr<|?_
 obtain rfl:=si hm
 exact r1 o results27 rfl ⟨_,_,_,rfl,(λ_=>Rows.ind C3),u.endFresh t0⟩
theorem JfS (hH:H.le w0) {p1:api_Use} {p2:api_Use} {r:Bool} (hm:Z0 N p1 p2=some r):Tot Tryz.prog 30 #[.agg #[i6 p1.What,i6 p1.N,.bool p1.Write],.agg #[i6 p2.What,i6 p2.N,.bool p2.Write]] w0 (λv w'=>v=.bool r∧Keep Nil w0 w'):=by
 unfold Z0 at hm
 refine fn0 func30 rfl ntmps30 rfl rfl λa o=>?_
 have u:St w0 Nil [H] [] w0:=start1 hH
 refine th<|rg<|ls<|Bo (cs:=[i6 p1.What,i6 p1.N,.bool p1.Write].toArray) o rfl u rfl rfl λb3 w a u o=>ls<|Bo (cs:=[i6 p2.What,i6 p2.N,.bool p2.Write].toArray) o rfl u rfl rfl λb4 w a u o=>qa o rfl λo=>re<|tn<|th<|th<|rg<|qf o U9 rfl λo=>qB o isAgg3 rfl u t1 rfl λo=>qv o (Ah o rfl rfl) λo=>qm o rfl λo=>gr (Fk:=[(2,PT b3),(3,PT b4),(12,.bool ((decide (p1.What=4)) || (decide (p2.What=4))))]) 8 4 o u ?_ ?_ ?_
 intro hb o key
 iterate 3 refine qn o λo=>?_
 exact qk o (Ab o rfl rfl) key u hb
 intro hb o key
 exact qg o (Ad o U9 rfl) λo=>qg o (eB o isAgg3 rfl u.ld t0 rfl) λo=>qg o (Ah o rfl rfl) λo=>qk o (Ac o rfl rfl) key u hb
 intro a w o u
 refine re<|?_
 rcases bit hm with ⟨C0,hm⟩ | ⟨C0,hm⟩
 refine tn<|ctv o rfl C0<|th<|rg<|qa o rfl λo=>re<|tn<|wr<|tr<|?_
 obtain rfl:=si hm
 exact r1 o results30 rfl ⟨rfl,u.keep⟩
 refine tn<|cfv o rfl C0<|wk<|tn<|th<|rg<|qf o U9 rfl λo=>qB o isAgg3 rfl u t1 rfl λo=>qf o U9 rfl λo=>qB o isAgg3 rfl u t0 rfl λo=>qv o (Ah o rfl rfl) λo=>qm o rfl λo=>gr (Fk:=[(2,PT b3),(3,PT b4),(24,.bool ((decide (p1.What=p2.What)) && (decide (p1.N=p2.N))))]) 18 6 o u ?_ ?_ ?_
 intro hb o key
 exact qg o (Ad o JcJ rfl) λo=>qg o (eB o isAgg3 rfl u.ld t1 rfl) λo=>qg o (Ad o JcJ rfl) λo=>qg o (eB o isAgg3 rfl u.ld t0 rfl) λo=>qg o (Ah o rfl rfl) λo=>qk o (Ab o rfl rfl) key u hb
 intro hb o key
 iterate 5 refine qn o λo=>?_
 exact qk o (Ac o rfl rfl) key u hb
 intro a w o u
 refine qm o rfl λo=>gr (Fk:=[(32,.bool (((decide (p1.What=p2.What)) && (decide (p1.N=p2.N))) && (p1.Write || p2.Write)))]) 25 7 o u ?_ ?_ ?_
 intro hb o key
 refine qg o (Ad o Jcf rfl) λo=>qg o (eB o isAgg4 rfl u.ld t1 rfl) λo=>qg o (Aa o rfl) λo=>gr (Fk:=[(25,.bool true),(31,.bool (p1.Write || p2.Write))]) 28 3 o u ?_ ?_ ?_
 intro hb o key
 iterate 2 refine qn o λo=>?_
 exact ql o (Ab o rfl rfl) key u hb
 intro hb o key
 exact qg o (Ad o Jcf rfl) λo=>qg o (eB o isAgg4 rfl u.ld t0 rfl) λo=>ql o (Ac o rfl rfl) key u hb
 intro a w o u
 exact qk o (Ab o rfl rfl) key u hb
 intro hb o key
 iterate 3 refine qn o λo=>?_
 iterate 2 refine ls<|gnu o rfl rfl rfl λa o=>?_
 exact qn o λo=>qk o (Ac o rfl rfl) key u hb
 intro a w o u
 refine qa o rfl λo=>re<|tn<|wr<|?_
 obtain rfl:=si hm
 exact r1 o results30 rfl ⟨rfl,u.keep⟩
theorem Jhv (hH:H.le w0) {p1:api_Use} {y3:api_Use} {b2:Nat} (C0:H b2=some (.cells [i6 y3.What,i6 y3.N,.bool y3.Write].toArray 93 (0,0))) {r:Bool} (hm:Z3 N p1 y3=some r):Tot Tryz.prog 47 #[.agg #[i6 p1.What,i6 p1.N,.bool p1.Write],PT b2] w0 (λv w'=>v=.bool r∧Keep Nil w0 w'):=by
 unfold Z3 at hm
 refine fn0 func47 rfl ntmps47 rfl rfl λa o=>?_
 have u:St w0 Nil [H] [] w0:=start1 hH
 refine th<|rg<|ls<|Bo (cs:=[i6 p1.What,i6 p1.N,.bool p1.Write].toArray) o rfl u rfl rfl λb5 w a u o=>qa o rfl λo=>re<|tn<|th<|?_
 obtain ⟨D0,h7,hm⟩:=bs hm
 refine rg<|qv o (An o Tryz.isAgg93 Tryz.sizeOf93 rfl rfl (JfA (Lds.le u.ld) C0)) λo=>qv o (An o isAgg93 sizeOf93 rfl rfl (u.ld.cellsB t0)) λo=>ls<|cr o call30 (JfS (Ag _) h7) u λu o=>qa o rfl λo=>re<|tn<|wr<|?_
 obtain rfl:=si hm
 exact r1 o results47 rfl ⟨rfl,u.keep⟩
theorem JfJ (hH:H.le w0) {I0:Option Addr} {D0:Nat} {p1:(List api_Use)} (T0:p1.length≤D0) (M0:SR H I0 p1) {y7:api_Use} {b6:Nat} (Q0:H b6=some (.cells [i6 y7.What,i6 y7.N,.bool y7.Write].toArray 93 (0,0))) {r:Int} (hm:Z7z N p1 y7=some r):Tot Tryz.prog 80 #[SL I0 p1 D0,.func (.func 47) #[] #[PT b6]] w0 (λv w'=>v=i6 r∧Keep Nil w0 w'):=by
 unfold Z7z at hm
 refine fn0 func80 rfl ntmps80 rfl rfl λa o=>?_
 have u:St w0 Nil [H] [] w0:=start1 hH
 refine th<|rg<|qa o rfl λo=>re<|tn<|th<|th<|rg<|qm o rfl λo=>qv o (Aj (α:=api_Use) (xs:=p1) o Ud rfl) λo=>qm o rfl λo=>re<|tn<|Av (λa w=>Z80=some r∧Fr 19 [] a∧St w0 Nil [H] [] w) ?_ ?_
 refine wb<|lp (α:=Nat×Int) (λgh a w=>match gh with | (C0,F0)=>(Z81 N Z80 p1 y7) C0 F0=some r∧Fr 19 [(0,SL I0 p1 D0),(1,.func (.func 47) #[] #[PT b6]),(7,i6 (p1.length:Int)),(8,i6 F0)] a∧St w0 Nil [H] [] w) (λgh=>gh.1) (N,0) ⟨hm,o.hs,u⟩ ?_
 rintro ⟨C0,F0⟩ a w ⟨hm,o,u⟩
 obtain _ | C0:=C0
 simp [Z81] at hm
 rw [Z81] at hm
 refine th<|rg<|qv o (Am o rfl rfl) λo=>re<|?_
 rcases bip hm with ⟨J0,hm⟩ | ⟨J0,hm⟩
 refine tn<|th<|ctv o rfl J0<|wk<|tn<|th<|wb<|th<|rg<|qm o rfl λo=>qa o rfl λo=>re<|tn<|th<|?_
 obtain ⟨K0,O0,hm⟩:=bs hm
 obtain ⟨U0,R0,P0⟩:=SR.get M0 O0
 obtain rfl:=Hk R0
 obtain ⟨V0,S0,hm⟩:=bs hm
 refine rg<|qm o rfl λo=>?_
 iterate 2 refine qm o rfl λo=>?_
 refine qv o (eI o Ud sizeOf93 rfl rfl O0 M0) λo=>qv o (eC o isAgg93 sizeOf93 rfl u.ld P0) λo=>ls<|k1 (vs:=[.agg #[i6 K0.What,i6 K0.N,.bool K0.Write]]) (caps:=[PT b6]) o rfl rfl call47 (Jhv (Ag _) (St.up u _ _ Q0) S0) ⟨rfl,trivial⟩ rfl (λv w a hR o=>?_)
 obtain ⟨rfl,hk⟩:=hR
 replace u:=u.pass hk
 refine re<|?_
 rcases bit hm with ⟨E0,hm⟩ | ⟨E0,hm⟩
 refine tn<|ctv o rfl E0<|th<|rg<|qm o rfl λo=>qa o rfl λo=>re<|tn<|wr<|br<|tr<|tr<|br<|tr<|?_
 obtain rfl:=si hm
 exact r1 o results80 rfl ⟨rfl,u.keep⟩
 refine tn<|cfv o rfl E0<|wk<|bn<|tn<|rg<|qv o (Ao o rfl rfl) λo=>qm o rfl λo=>re<|tn<|?_
 exact ⟨(C0,(i64.wrap (F0+1))),⟨hm,o.hs,u⟩,kxd _⟩
 refine tn<|th<|cfv o rfl J0<|we<|tx<|tx<|bx<|tn<|?_
 exact ⟨hm,o.has trivial,u⟩
 rintro a w ⟨hm,o,u⟩
 unfold Z80 at hm
 refine th<|rg<|qa o rfl λo=>re<|tn<|wr<|?_
 obtain rfl:=si hm
 exact r1 o results80 rfl ⟨rfl,u.keep⟩
theorem JgN (hH:H.le w0) {D0:Option Addr} {C0:Nat} {p1:(List api_Use)} (E0:p1.length≤C0) (F0:SR H D0 p1) {y7:api_Use} {b6:Nat} (I0:H b6=some (.cells [i6 y7.What,i6 y7.N,.bool y7.Write].toArray 93 (0,0))) {r:Bool} (hm:Z7x N p1 y7=some r):Tot Tryz.prog 45 #[SL D0 p1 C0,.func (.func 47) #[] #[PT b6]] w0 (λv w'=>v=.bool r∧Keep Nil w0 w'):=by
 unfold Z7x at hm
 refine fn0 func45 rfl ntmps45 rfl rfl λa o=>?_
 have u:St w0 Nil [H] [] w0:=start1 hH
 refine th<|rg<|qa o rfl λo=>re<|tn<|th<|?_
 obtain ⟨K0,J0,hm⟩:=bs hm
 refine rg<|qm o rfl λo=>qm o rfl λo=>ls<|cr o call80 (JfJ (Ag _) E0 (St.srH u F0) (St.up u _ _ I0) J0) u λu o=>qv o (Bw o rfl rfl) λo=>qa o rfl λo=>re<|tn<|wr<|?_
 obtain rfl:=si hm
 exact r1 o results45 rfl ⟨rfl,u.keep⟩
theorem Jh1 (hH:H.le w0) {p1:api_Use} {D0:Option Addr} {C0:Nat} {y3:(List api_Use)} (E0:y3.length≤C0) (F0:SR H D0 y3) {b2:Nat} (I0:H b2=some (.cells [SL D0 y3 C0].toArray 90 (0,0))) {r:Bool} (hm:Z2 N p1 y3=some r):Tot Tryz.prog 46 #[.agg #[i6 p1.What,i6 p1.N,.bool p1.Write],PT b2] w0 (λv w'=>v=.bool r∧Keep Nil w0 w'):=by
 unfold Z2 at hm
 refine fn0 func46 rfl ntmps46 rfl rfl λa o=>?_
 have u:St w0 Nil [H] [] w0:=start1 hH
 refine th<|rg<|ls<|Bo (cs:=[i6 p1.What,i6 p1.N,.bool p1.Write].toArray) o rfl u rfl rfl λb9 w a u o=>qa o rfl λo=>re<|tn<|th<|?_
 obtain ⟨K0,J0,hm⟩:=bs hm
 refine rg<|qv o (Ap o Tryz.isAgg90 rfl (PH.le.cell (Lds.le u.ld) (Ii I0 rfl))) λo=>qv o (Je3 (vs:=[PT b9]) o ⟨rfl,trivial⟩) λo=>ls<|cr o call45 (JgN (Ag _) E0 (St.srH u F0) (St.blkO u t0) J0) u λu o=>qa o rfl λo=>re<|tn<|wr<|?_
 obtain rfl:=si hm
 exact r1 o results46 rfl ⟨rfl,u.keep⟩
theorem Jg5 (hH:H.le w0) {J0:Option Addr} {D0:Nat} {p1:(List api_Use)} (Y0:p1.length≤D0) (O0:SR H J0 p1) {P0:Option Addr} {K0:Nat} {y7:(List api_Use)} (R0:y7.length≤K0) (S0:SR H P0 y7) {b6:Nat} (T0:H b6=some (.cells [SL P0 y7 K0].toArray 90 (0,0))) {r:Int} (hm:Z7y N p1 y7=some r):Tot Tryz.prog 80 #[SL J0 p1 D0,.func (.func 46) #[] #[PT b6]] w0 (λv w'=>v=i6 r∧Keep Nil w0 w'):=by
 unfold Z7y at hm
 refine fn0 func80 rfl ntmps80 rfl rfl λa o=>?_
 have u:St w0 Nil [H] [] w0:=start1 hH
 refine th<|rg<|qa o rfl λo=>re<|tn<|th<|th<|rg<|qm o rfl λo=>qv o (Aj (α:=api_Use) (xs:=p1) o Ud rfl) λo=>qm o rfl λo=>re<|tn<|Av (λa w=>Z82=some r∧Fr 19 [] a∧St w0 Nil [H] [] w) ?_ ?_
 refine wb<|lp (α:=Nat×Int) (λgh a w=>match gh with | (C0,I0)=>(Z83 N Z82 p1 y7) C0 I0=some r∧Fr 19 [(0,SL J0 p1 D0),(1,.func (.func 46) #[] #[PT b6]),(7,i6 (p1.length:Int)),(8,i6 I0)] a∧St w0 Nil [H] [] w) (λgh=>gh.1) (N,0) ⟨hm,o.hs,u⟩ ?_
 rintro ⟨C0,I0⟩ a w ⟨hm,o,u⟩
 obtain _ | C0:=C0
 simp [Z83] at hm
 rw [Z83] at hm
 refine th<|rg<|qv o (Am o rfl rfl) λo=>re<|?_
 rcases bip hm with ⟨E0,hm⟩ | ⟨E0,hm⟩
 refine tn<|th<|ctv o rfl E0<|wk<|tn<|th<|wb<|th<|rg<|qm o rfl λo=>qa o rfl λo=>re<|tn<|th<|?_
 obtain ⟨M0,Q0,hm⟩:=bs hm
 obtain ⟨j0,V0,U0⟩:=SR.get O0 Q0
 obtain rfl:=Hk V0
 obtain ⟨n0,W0,hm⟩:=bs hm
 refine rg<|qm o rfl λo=>?_
 iterate 2 refine qm o rfl λo=>?_
 refine qv o (eI o Ud sizeOf93 rfl rfl Q0 O0) λo=>qv o (eC o isAgg93 sizeOf93 rfl u.ld U0) λo=>ls<|k1 (vs:=[.agg #[i6 M0.What,i6 M0.N,.bool M0.Write]]) (caps:=[PT b6]) o rfl rfl call46 (Jh1 (Ag _) R0 (St.srH u S0) (St.up u _ _ T0) W0) ⟨rfl,trivial⟩ rfl (λv w a hR o=>?_)
 obtain ⟨rfl,hk⟩:=hR
 replace u:=u.pass hk
 refine re<|?_
 rcases bit hm with ⟨F0,hm⟩ | ⟨F0,hm⟩
 refine tn<|ctv o rfl F0<|th<|rg<|qm o rfl λo=>qa o rfl λo=>re<|tn<|wr<|br<|tr<|tr<|br<|tr<|?_
 obtain rfl:=si hm
 exact r1 o results80 rfl ⟨rfl,u.keep⟩
 refine tn<|cfv o rfl F0<|wk<|bn<|tn<|rg<|qv o (Ao o rfl rfl) λo=>qm o rfl λo=>re<|tn<|?_
 exact ⟨(C0,(i64.wrap (I0+1))),⟨hm,o.hs,u⟩,kxd _⟩
 refine tn<|th<|cfv o rfl E0<|we<|tx<|tx<|bx<|tn<|?_
 exact ⟨hm,o.has trivial,u⟩
 rintro a w ⟨hm,o,u⟩
 unfold Z82 at hm
 refine th<|rg<|qa o rfl λo=>re<|tn<|wr<|?_
 obtain rfl:=si hm
 exact r1 o results80 rfl ⟨rfl,u.keep⟩
theorem Jgw (hH:H.le w0) {E0:Option Addr} {C0:Nat} {p1:(List api_Use)} (M0:p1.length≤C0) (O0:SR H E0 p1) {F0:Option Addr} {D0:Nat} {y7:(List api_Use)} (I0:y7.length≤D0) (J0:SR H F0 y7) {b6:Nat} (K0:H b6=some (.cells [SL F0 y7 D0].toArray 90 (0,0))) {r:Bool} (hm:Z7w N p1 y7=some r):Tot Tryz.prog 45 #[SL E0 p1 C0,.func (.func 46) #[] #[PT b6]] w0 (λv w'=>v=.bool r∧Keep Nil w0 w'):=by
 unfold Z7w at hm
 refine fn0 func45 rfl ntmps45 rfl rfl λa o=>?_
 have u:St w0 Nil [H] [] w0:=start1 hH
 refine th<|rg<|qa o rfl λo=>re<|tn<|th<|?_
 obtain ⟨Q0,P0,hm⟩:=bs hm
 refine rg<|qm o rfl λo=>qm o rfl λo=>ls<|cr o call80 (Jg5 (Ag _) M0 (St.srH u O0) I0 (St.srH u J0) (St.up u _ _ K0) P0) u λu o=>qv o (Bw o rfl rfl) λo=>qa o rfl λo=>re<|tn<|wr<|?_
 obtain rfl:=si hm
 exact r1 o results45 rfl ⟨rfl,u.keep⟩
theorem Jan (hH:H.le w0) {p1:api_Event} {p2:api_Event} {K0:Option Addr} {D0:Nat} {p3:(List Int)} (O0:p3.length≤D0) (P0:SR H K0 p3) {p8:Int} {r:Bool} (hm:Z1 N p1 p2 p3 p8=some r):Tot Tryz.prog 11 #[.agg #[i6 p1.Kind,i6 p1.T,i6 p1.A,i6 p1.N,i6 p1.M],.agg #[i6 p2.Kind,i6 p2.T,i6 p2.A,i6 p2.N,i6 p2.M],SL K0 p3 D0,i6 p8] w0 (λv w'=>v=.bool r∧Keep Nil w0 w'):=by
 unfold Z1 at hm
 refine fn0 func11 rfl ntmps11 rfl rfl λa o=>?_
 have u:St w0 Nil [H] [] w0:=start1 hH
 refine th<|rg<|ls<|Bo (cs:=[i6 p1.Kind,i6 p1.T,i6 p1.A,i6 p1.N,i6 p1.M].toArray) o rfl u rfl rfl λb9 w a u o=>ls<|Bo (cs:=[i6 p2.Kind,i6 p2.T,i6 p2.A,i6 p2.N,i6 p2.M].toArray) o rfl u rfl rfl λQ0 w a u o=>qa o rfl λo=>re<|tn<|th<|th<|Av (λa w=>∃ (M0:Bool),(Z4 N p1 p2 p3 p8) M0=some r∧Fr 33 [(2,SL K0 p3 D0),(3,i6 p8),(4,PT b9),(5,PT Q0),(22,.bool M0)] a∧St w0 Nil [H] [bk b9 [i6 p1.Kind,i6 p1.T,i6 p1.A,i6 p1.N,i6 p1.M] 48,bk Q0 [i6 p2.Kind,i6 p2.T,i6 p2.A,i6 p2.N,i6 p2.M] 48] w) ?_ ?_
 rcases bip hm with ⟨C0,hm⟩ | ⟨C0,hm⟩
 refine rg<|qf o Jp rfl λo=>qB o isAgg3 rfl u t1 rfl λo=>qf o Jp rfl λo=>qB o isAgg3 rfl u t0 rfl λo=>qv o (Ah o rfl rfl) λo=>qv o (As (Aa o rfl) (congrArg Value.bool C0)) λo=>?_
 iterate 2 refine qn o λo=>?_
 refine qv o (Ab o rfl rfl) λo=>qm o rfl λo=>?_
 iterate 2 refine qn o λo=>?_
 refine qv o (Ab o rfl rfl) λo=>re<|tn<|?_
 replace u:=u.pk [1,0] rfl
 exact ⟨true,hm,o.hs,u⟩
 obtain ⟨I1,R0,hm⟩:=bs hm
 rcases bit hm with ⟨E0,hm⟩ | ⟨E0,hm⟩
 refine rg<|qf o Jp rfl λo=>qB o isAgg3 rfl u t1 rfl λo=>qf o Jp rfl λo=>qB o isAgg3 rfl u t0 rfl λo=>qv o (Ah o rfl rfl) λo=>qv o (As (Aa o rfl) (congrArg Value.bool C0)) λo=>qg o (An o isAgg48 sizeOf48 rfl rfl (u.ld.cellsB t1)) λo=>ls<|gy o rfl rfl<|cr o call44 (Jfj (Ag _) R0) u λu o=>qv o (Ac o rfl rfl) λo=>qv o (As (Aa o rfl) (congrArg Value.bool E0)) λo=>?_
 iterate 2 refine qn o λo=>?_
 refine qv o (Ab o rfl rfl) λo=>re<|tn<|?_
 replace u:=u.pk [1,0] rfl
 exact ⟨true,hm,o.hs,u⟩
 obtain ⟨S0,T0,hm⟩:=bs hm
 refine rg<|qf o Jp rfl λo=>qB o isAgg3 rfl u t1 rfl λo=>qf o Jp rfl λo=>qB o isAgg3 rfl u t0 rfl λo=>qv o (Ah o rfl rfl) λo=>qv o (As (Aa o rfl) (congrArg Value.bool C0)) λo=>qg o (An o isAgg48 sizeOf48 rfl rfl (u.ld.cellsB t1)) λo=>ls<|gy o rfl rfl<|cr o call44 (Jfj (Ag _) R0) u λu o=>qv o (Ac o rfl rfl) λo=>qv o (As (Aa o rfl) (congrArg Value.bool E0)) λo=>qg o (An o isAgg48 sizeOf48 rfl rfl (u.ld.cellsB t0)) λo=>ls<|gy o rfl rfl<|cr o call44 (Jfj (Ag _) T0) u λu o=>qv o (Ac o rfl rfl) λo=>re<|tn<|?_
 replace u:=u.pk [1,0] rfl
 exact ⟨S0,hm,o.hs,u⟩
 rintro a w ⟨M0,hm,o,u⟩
 unfold Z4 at hm
 rcases bit hm with ⟨F0,hm⟩ | ⟨F0,hm⟩
 refine ctv o rfl F0<|th<|rg<|qa o rfl λo=>re<|tn<|wr<|tr<|?_
 obtain rfl:=si hm
 exact r1 o results11 rfl ⟨rfl,u.keep⟩
 refine cfv o rfl F0<|wk<|tn<|th<|?_
 obtain ⟨J1,U0,hm⟩:=bs hm
 refine rg<|qv o (An o Tryz.isAgg48 Tryz.sizeOf48 rfl rfl (u.ld.cellsB t1)) λo=>?_
 iterate 2 refine qm o rfl λo=>?_
 refine ls<|c1 o rfl call27 (Jfq (Ag _) O0 (St.srH u P0) U0) ⟨rfl,rfl,rfl,trivial⟩ (λv w a hR o=>?_)
 obtain ⟨C1,j0,D1,rfl,I0,hk⟩:=hR
 replace u:=u.fresh hk
 replace I0:=I0 H
 refine ls<|Aq (cs:=[.slice none 0 0].toArray) o rfl u zeroValue90 rfl λV0 w a u o=>ls<|Bl o u sizeOf90 rfl rfl rfl rfl .head .zero λw u=>re<|tn<|th<|?_
 obtain ⟨O1,W0,hm⟩:=bs hm
 obtain ⟨P1,Y0,hm⟩:=bs hm
 refine rg<|qv o (An o Tryz.isAgg48 Tryz.sizeOf48 rfl rfl (u.ld.cellsB t2)) λo=>?_
 iterate 2 refine qm o rfl λo=>?_
 refine ls<|c1 o rfl call27 (Jfq (Ag _) O0 (St.srH u P0) W0) ⟨rfl,rfl,rfl,trivial⟩ (λv w a hR o=>?_)
 obtain ⟨E1,n0,F1,rfl,J0,hk⟩:=hR
 replace u:=u.fresh hk
 replace J0:=J0 H
 refine qv o (Je3 (vs:=[PT V0]) o ⟨rfl,trivial⟩) λo=>ls<|cr o call45 (Jgw (Ag _) (St.capO u t0) (St.srO u t0 J0) (St.capO u t2) (St.srO u t2 I0) (St.blkO u t1) Y0) u λu o=>qa o rfl λo=>re<|tn<|wr<|?_
 obtain rfl:=si hm
 exact r1 o results11 rfl ⟨rfl,u.keep⟩
theorem JgO (hH:H.le w0) {K0:Option Addr} {D0:Nat} {p1:(List api_Use)} (Y0:p1.length≤D0) (O0:SR H K0 p1) {oa7:Option Addr} {cap8:Nat} {p6:(List api_Use)} (j0:p6.length≤cap8) (M0:SR H oa7 p6) {r:Bool} (hm:Z7t N p1 p6=some r):Tot Tryz.prog 26 #[SL K0 p1 D0,SL oa7 p6 cap8] w0 (λv w'=>v=.bool r∧Keep Nil w0 w'):=by
 unfold Z7t at hm
 refine fn0 func26 rfl ntmps26 rfl rfl λa o=>?_
 have u:St w0 Nil [H] [] w0:=start1 hH
 refine th<|rg<|qa o rfl λo=>re<|tn<|th<|th<|rg<|qm o rfl λo=>qv o (Aj (α:=api_Use) (xs:=p1) o Ud rfl) λo=>qm o rfl λo=>qv o (Aj (α:=api_Use) (xs:=p6) o Ud rfl) λo=>qv o (Bg o rfl rfl) λo=>re<|?_
 rcases bip hm with ⟨E0,hm⟩ | ⟨E0,hm⟩
 refine tn<|ctv o rfl E0<|th<|rg<|qa o rfl λo=>re<|tn<|wr<|tr<|?_
 obtain rfl:=si hm
 exact r1 o results26 rfl ⟨rfl,u.keep⟩
 refine tn<|cfv o rfl E0<|wk<|tn<|th<|th<|rg<|qa o rfl λo=>re<|tn<|Av (λa w=>Z7u=some r∧Fr 26 [] a∧St w0 Nil [H] [] w) ?_ ?_
 refine wb<|lp (α:=Nat×Int) (λgh a w=>match gh with | (C0,J0)=>(Z7v N Z7u p1 p6) C0 J0=some r∧Fr 26 [(0,SL K0 p1 D0),(1,SL oa7 p6 cap8),(5,i6 J0)] a∧St w0 Nil [H] [] w) (λgh=>gh.1) (N,0) ⟨hm,o.hs,u⟩ ?_
 rintro ⟨C0,J0⟩ a w ⟨hm,o,u⟩
 obtain _ | C0:=C0
 simp [Z7v] at hm
 rw [Z7v] at hm
 refine th<|th<|rg<|qm o rfl λo=>qm o rfl λo=>qv o (Aj (α:=api_Use) (xs:=p1) o Ud rfl) λo=>qv o (Am o rfl rfl) λo=>re<|?_
 rcases bip hm with ⟨F0,hm⟩ | ⟨F0,hm⟩
 refine tn<|ctv o rfl F0<|wk<|tn<|th<|wb<|th<|?_
 obtain ⟨T0,P0,hm⟩:=bs hm
 obtain ⟨n0,U0,R0⟩:=SR.get O0 P0
 obtain rfl:=Hk U0
 obtain ⟨V0,Q0,hm⟩:=bs hm
 obtain ⟨C1,W0,S0⟩:=SR.get M0 Q0
 obtain rfl:=Hk W0
 refine rxS 9 u wide (by kernel_rfl) λw u=>?_
 iterate 2 refine xq u.ld o (λw hl=>Aa o rfl) λo=>?_
 refine xr u o (eI o Ud sizeOf93 rfl rfl P0 O0) λo=>xq u.ld o (λw hl=>eC o isAgg93 sizeOf93 rfl hl R0) λo=>?_
 iterate 2 refine xq u.ld o (λw hl=>Aa o rfl) λo=>?_
 refine xr u o (eI o Ud sizeOf93 rfl rfl Q0 M0) λo=>xq u.ld o (λw hl=>eC o isAgg93 sizeOf93 rfl hl S0) λo=>xr u o (Vy (x:=T0) (y:=V0) o rfl rfl) λo=>xe<|?_
 rcases bip hm with ⟨I0,hm⟩ | ⟨I0,hm⟩
 refine tn<|ctv o rfl I0<|th<|rg<|qa o rfl λo=>re<|tn<|wr<|br<|tr<|tr<|br<|tr<|?_
 obtain rfl:=si hm
 exact r1 o results26 rfl ⟨rfl,u.keep⟩
 refine tn<|cfv o rfl I0<|wk<|bn<|tn<|rg<|qm o rfl λo=>qv o (Ao o rfl rfl) λo=>qa o rfl λo=>re<|tn<|?_
 exact ⟨(C0,(i64.wrap (J0+1))),⟨hm,o.hs,u⟩,kxd _⟩
 refine tn<|cfv o rfl F0<|we<|tx<|tx<|bx<|tn<|?_
 exact ⟨hm,o.has trivial,u⟩
 rintro a w ⟨hm,o,u⟩
 unfold Z7u at hm
 refine th<|rg<|qa o rfl λo=>re<|tn<|wr<|?_
 obtain rfl:=si hm
 exact r1 o results26 rfl ⟨rfl,u.keep⟩
theorem JfM (hH:H.le w0) {p1:Int} {r:Bool} (hm:Zl N p1=some r):Tot Tryz.prog 65 #[i6 p1] w0 (λv w'=>v=.bool r∧Keep Nil w0 w'):=by
 unfold Zl at hm
 refine fn0 func65 rfl ntmps65 rfl rfl λa o=>?_
 have u:St w0 Nil [H] [] w0:=start1 hH
 refine th<|rg<|qa o rfl λo=>re<|tn<|th<|rg<|qm o rfl λo=>qv o (Bw o rfl rfl) λo=>qm o rfl λo=>gr (Fk:=[(8,.bool ((decide (1≤p1)) && (decide (p1 < 17))))]) 5 3 o u ?_ ?_ ?_
 intro hb o key
 exact qg o (Aa o rfl) λo=>qg o (Am o rfl rfl) λo=>qk o (Ab o rfl rfl) key u hb
 intro hb o key
 iterate 2 refine qn o λo=>?_
 exact qk o (Ac o rfl rfl) key u hb
 intro a w o u
 refine qa o rfl λo=>re<|tn<|wr<|?_
 obtain rfl:=si hm
 exact r1 o results65 rfl ⟨rfl,u.keep⟩
theorem Jed (hH:H.le w0)  {r:(Arr 17 event_kind)} (hm:Zk N  = some r):Tot Tryz.prog 66 #[] w0 (λv w'=>∃ (H':PH) (cs0:List Value),v=.agg cs0.toArray∧Enc.rep H' cs0 r∧Ext w0 H H'∧H'.le w'∧Keep Nil w0 w'):=by
 unfold Zk at hm
 refine fn0 func66 rfl ntmps66 rfl rfl λa o=>?_
 have u:St w0 Nil [H] [] w0:=start1 hH
 refine th<|rg<|ls<|Aq (cs:=[Ae [],.bool false,.bool false,.bool false,Ae [],.bool false,.bool false,.bool false,Ae [],.bool false,.bool false,.bool false,Ae [],.bool false,.bool false,.bool false,Ae [],.bool false,.bool false,.bool false,Ae [],.bool false,.bool false,.bool false,Ae [],.bool false,.bool false,.bool false,Ae [],.bool false,.bool false,.bool false,Ae [],.bool false,.bool false,.bool false,Ae [],.bool false,.bool false,.bool false,Ae [],.bool false,.bool false,.bool false,Ae [],.bool false,.bool false,.bool false,Ae [],.bool false,.bool false,.bool false,Ae [],.bool false,.bool false,.bool false,Ae [],.bool false,.bool false,.bool false,Ae [],.bool false,.bool false,.bool false,Ae [],.bool false,.bool false,.bool false].toArray) o rfl u Tryz.zeroValue148 rfl λb1 w a u o=>re<|tn<|th<|rg<|qv o (bL [Ae [108,111,97,100],.bool true,.bool true,.bool false] [Ae [108,111,97,100],.bool true,.bool true,.bool false] o) λo=>qv o (bL [Ae [111,119,110],.bool true,.bool true,.bool false] [Ae [111,119,110],.bool true,.bool true,.bool false] o) λo=>qv o (bL [Ae [115,116,111,114,101],.bool true,.bool true,.bool false] [Ae [115,116,111,114,101],.bool true,.bool true,.bool false] o) λo=>qv o (bL [Ae [102,108,117,115,104],.bool true,.bool false,.bool false] [Ae [102,108,117,115,104],.bool true,.bool false,.bool false] o) λo=>qv o (bL [Ae [111,112,116],.bool true,.bool false,.bool false] [Ae [111,112,116],.bool true,.bool false,.bool false] o) λo=>qv o (bL [Ae [115,102,101,110,99,101],.bool false,.bool false,.bool false] [Ae [115,102,101,110,99,101],.bool false,.bool false,.bool false] o) λo=>qv o (bL [Ae [109,102,101,110,99,101],.bool false,.bool false,.bool false] [Ae [109,102,101,110,99,101],.bool false,.bool false,.bool false] o) λo=>qv o (bL [Ae [99,97,115],.bool true,.bool true,.bool true] [Ae [99,97,115],.bool true,.bool true,.bool true] o) λo=>qv o (bL [Ae [102,97,105,108],.bool true,.bool true,.bool false] [Ae [102,97,105,108],.bool true,.bool true,.bool false] o) λo=>qv o (bL [Ae [116,97,107,101],.bool true,.bool false,.bool false] [Ae [116,97,107,101],.bool true,.bool false,.bool false] o) λo=>qv o (bL [Ae [103,105,118,101],.bool true,.bool false,.bool false] [Ae [103,105,118,101],.bool true,.bool false,.bool false] o) λo=>qv o (bL [Ae [99,111,109,101],.bool true,.bool true,.bool false] [Ae [99,111,109,101],.bool true,.bool true,.bool false] o) λo=>qv o (bL [Ae [111,117,116],.bool true,.bool false,.bool false] [Ae [111,117,116],.bool true,.bool false,.bool false] o) λo=>qv o (bL [Ae [102,101,110,99,101],.bool false,.bool false,.bool false] [Ae [102,101,110,99,101],.bool false,.bool false,.bool false] o) λo=>qv o (bL [Ae [99,114,97,115,104],.bool false,.bool true,.bool false] [Ae [99,114,97,115,104],.bool false,.bool true,.bool false] o) λo=>qv o (bL [Ae [102,97,117,108,116],.bool true,.bool false,.bool false] [Ae [102,97,117,108,116],.bool true,.bool false,.bool false] o) λo=>qv o (bL [.agg #[Ae [108,111,97,100],.bool true,.bool true,.bool false],.agg #[Ae [111,119,110],.bool true,.bool true,.bool false],.agg #[Ae [115,116,111,114,101],.bool true,.bool true,.bool false],.agg #[Ae [102,108,117,115,104],.bool true,.bool false,.bool false],.agg #[Ae [111,112,116],.bool true,.bool false,.bool false],.agg #[Ae [115,102,101,110,99,101],.bool false,.bool false,.bool false],.agg #[Ae [109,102,101,110,99,101],.bool false,.bool false,.bool false],.agg #[Ae [99,97,115],.bool true,.bool true,.bool true],.agg #[Ae [102,97,105,108],.bool true,.bool true,.bool false],.agg #[Ae [116,97,107,101],.bool true,.bool false,.bool false],.agg #[Ae [103,105,118,101],.bool true,.bool false,.bool false],.agg #[Ae [99,111,109,101],.bool true,.bool true,.bool false],.agg #[Ae [111,117,116],.bool true,.bool false,.bool false],.agg #[Ae [102,101,110,99,101],.bool false,.bool false,.bool false],.agg #[Ae [99,114,97,115,104],.bool false,.bool true,.bool false],.agg #[Ae [102,97,117,108,116],.bool true,.bool false,.bool false]] [Ae [],.bool false,.bool false,.bool false,Ae [108,111,97,100],.bool true,.bool true,.bool false,Ae [111,119,110],.bool true,.bool true,.bool false,Ae [115,116,111,114,101],.bool true,.bool true,.bool false,Ae [102,108,117,115,104],.bool true,.bool false,.bool false,Ae [111,112,116],.bool true,.bool false,.bool false,Ae [115,102,101,110,99,101],.bool false,.bool false,.bool false,Ae [109,102,101,110,99,101],.bool false,.bool false,.bool false,Ae [99,97,115],.bool true,.bool true,.bool true,Ae [102,97,105,108],.bool true,.bool true,.bool false,Ae [116,97,107,101],.bool true,.bool false,.bool false,Ae [103,105,118,101],.bool true,.bool false,.bool false,Ae [99,111,109,101],.bool true,.bool true,.bool false,Ae [111,117,116],.bool true,.bool false,.bool false,Ae [102,101,110,99,101],.bool false,.bool false,.bool false,Ae [99,114,97,115,104],.bool false,.bool true,.bool false,Ae [102,97,117,108,116],.bool true,.bool false,.bool false] o) λo=>ls<|Ar o u sizeOf148 rfl rfl rfl rfl (Ak rfl) .head λw u=>re<|tn<|wr<|?_
 obtain rfl:=si hm
 exact r1c (vs:=[Ae [],.bool false,.bool false,.bool false,Ae [108,111,97,100],.bool true,.bool true,.bool false,Ae [111,119,110],.bool true,.bool true,.bool false,Ae [115,116,111,114,101],.bool true,.bool true,.bool false,Ae [102,108,117,115,104],.bool true,.bool false,.bool false,Ae [111,112,116],.bool true,.bool false,.bool false,Ae [115,102,101,110,99,101],.bool false,.bool false,.bool false,Ae [109,102,101,110,99,101],.bool false,.bool false,.bool false,Ae [99,97,115],.bool true,.bool true,.bool true,Ae [102,97,105,108],.bool true,.bool true,.bool false,Ae [116,97,107,101],.bool true,.bool false,.bool false,Ae [103,105,118,101],.bool true,.bool false,.bool false,Ae [99,111,109,101],.bool true,.bool true,.bool false,Ae [111,117,116],.bool true,.bool false,.bool false,Ae [102,101,110,99,101],.bool false,.bool false,.bool false,Ae [99,114,97,115,104],.bool false,.bool true,.bool false,Ae [102,97,117,108,116],.bool true,.bool false,.bool false]) (.inl rfl) o results66 rfl isAgg148 sizeOf148 rfl (u.ld.cellsB t0) ⟨H,_,rfl,(show Enc.rep (α:=(Arr 17 event_kind)) H [Ae [],.bool false,.bool false,.bool false,Ae [108,111,97,100],.bool true,.bool true,.bool false,Ae [111,119,110],.bool true,.bool true,.bool false,Ae [115,116,111,114,101],.bool true,.bool true,.bool false,Ae [102,108,117,115,104],.bool true,.bool false,.bool false,Ae [111,112,116],.bool true,.bool false,.bool false,Ae [115,102,101,110,99,101],.bool false,.bool false,.bool false,Ae [109,102,101,110,99,101],.bool false,.bool false,.bool false,Ae [99,97,115],.bool true,.bool true,.bool true,Ae [102,97,105,108],.bool true,.bool true,.bool false,Ae [116,97,107,101],.bool true,.bool false,.bool false,Ae [103,105,118,101],.bool true,.bool false,.bool false,Ae [99,111,109,101],.bool true,.bool true,.bool false,Ae [111,117,116],.bool true,.bool false,.bool false,Ae [102,101,110,99,101],.bool false,.bool false,.bool false,Ae [99,114,97,115,104],.bool false,.bool true,.bool false,Ae [102,97,117,108,116],.bool true,.bool false,.bool false] (⟨[(event_kind.mk [] false false false),(event_kind.mk [108,111,97,100] true true false),(event_kind.mk [111,119,110] true true false),(event_kind.mk [115,116,111,114,101] true true false),(event_kind.mk [102,108,117,115,104] true false false),(event_kind.mk [111,112,116] true false false),(event_kind.mk [115,102,101,110,99,101] false false false),(event_kind.mk [109,102,101,110,99,101] false false false),(event_kind.mk [99,97,115] true true true),(event_kind.mk [102,97,105,108] true true false),(event_kind.mk [116,97,107,101] true false false),(event_kind.mk [103,105,118,101] true false false),(event_kind.mk [99,111,109,101] true true false),(event_kind.mk [111,117,116] true false false),(event_kind.mk [102,101,110,99,101] false false false),(event_kind.mk [99,114,97,115,104] false true false),(event_kind.mk [102,97,117,108,116] true false false)],rfl⟩:(Arr 17 event_kind)) from (.cons (c:=[Ae [],.bool false,.bool false,.bool false]) ⟨_,_,rfl,rfl,⟨_,_,rfl,rfl,⟨_,_,rfl,rfl,rfl⟩⟩⟩ (.cons (c:=[Ae [108,111,97,100],.bool true,.bool true,.bool false]) ⟨_,_,rfl,rfl,⟨_,_,rfl,rfl,⟨_,_,rfl,rfl,rfl⟩⟩⟩ (.cons (c:=[Ae [111,119,110],.bool true,.bool true,.bool false]) ⟨_,_,rfl,rfl,⟨_,_,rfl,rfl,⟨_,_,rfl,rfl,rfl⟩⟩⟩ (.cons (c:=[Ae [115,116,111,114,101],.bool true,.bool true,.bool false]) ⟨_,_,rfl,rfl,⟨_,_,rfl,rfl,⟨_,_,rfl,rfl,rfl⟩⟩⟩ (.cons (c:=[Ae [102,108,117,115,104],.bool true,.bool false,.bool false]) ⟨_,_,rfl,rfl,⟨_,_,rfl,rfl,⟨_,_,rfl,rfl,rfl⟩⟩⟩ (.cons (c:=[Ae [111,112,116],.bool true,.bool false,.bool false]) ⟨_,_,rfl,rfl,⟨_,_,rfl,rfl,⟨_,_,rfl,rfl,rfl⟩⟩⟩ (.cons (c:=[Ae [115,102,101,110,99,101],.bool false,.bool false,.bool false]) ⟨_,_,rfl,rfl,⟨_,_,rfl,rfl,⟨_,_,rfl,rfl,rfl⟩⟩⟩ (.cons (c:=[Ae [109,102,101,110,99,101],.bool false,.bool false,.bool false]) ⟨_,_,rfl,rfl,⟨_,_,rfl,rfl,⟨_,_,rfl,rfl,rfl⟩⟩⟩ (.cons (c:=[Ae [99,97,115],.bool true,.bool true,.bool true]) ⟨_,_,rfl,rfl,⟨_,_,rfl,rfl,⟨_,_,rfl,rfl,rfl⟩⟩⟩ (.cons (c:=[Ae [102,97,105,108],.bool true,.bool true,.bool false]) ⟨_,_,rfl,rfl,⟨_,_,rfl,rfl,⟨_,_,rfl,rfl,rfl⟩⟩⟩ (.cons (c:=[Ae [116,97,107,101],.bool true,.bool false,.bool false]) ⟨_,_,rfl,rfl,⟨_,_,rfl,rfl,⟨_,_,rfl,rfl,rfl⟩⟩⟩ (.cons (c:=[Ae [103,105,118,101],.bool true,.bool false,.bool false]) ⟨_,_,rfl,rfl,⟨_,_,rfl,rfl,⟨_,_,rfl,rfl,rfl⟩⟩⟩ (.cons (c:=[Ae [99,111,109,101],.bool true,.bool true,.bool false]) ⟨_,_,rfl,rfl,⟨_,_,rfl,rfl,⟨_,_,rfl,rfl,rfl⟩⟩⟩ (.cons (c:=[Ae [111,117,116],.bool true,.bool false,.bool false]) ⟨_,_,rfl,rfl,⟨_,_,rfl,rfl,⟨_,_,rfl,rfl,rfl⟩⟩⟩ (.cons (c:=[Ae [102,101,110,99,101],.bool false,.bool false,.bool false]) ⟨_,_,rfl,rfl,⟨_,_,rfl,rfl,⟨_,_,rfl,rfl,rfl⟩⟩⟩ (.cons (c:=[Ae [99,114,97,115,104],.bool false,.bool true,.bool false]) ⟨_,_,rfl,rfl,⟨_,_,rfl,rfl,⟨_,_,rfl,rfl,rfl⟩⟩⟩ (.cons (c:=[Ae [102,97,117,108,116],.bool true,.bool false,.bool false]) ⟨_,_,rfl,rfl,⟨_,_,rfl,rfl,⟨_,_,rfl,rfl,rfl⟩⟩⟩ .nil)))))))))))))))))),(Ext.refl _ _),(St.le u),u.keep⟩
theorem Jet (hH:H.le w0) (hT:Tab H) {p1:Int} {r:Str} (hm:Z84 N p1=some r):Tot Tryz.prog 67 #[i6 p1] w0 (λv w'=>v=Ae r∧Keep Nil w0 w'):=by
 unfold Z84 at hm
 refine fn0 func67 rfl ntmps67 rfl rfl λa o=>?_
 have u:St w0 Nil [H] [] w0:=start1 hH
 refine th<|rg<|qa o rfl λo=>re<|tn<|th<|?_
 obtain ⟨C0,h3,hm⟩:=bs hm
 refine rg<|qm o rfl λo=>ls<|cr o call90 (Jdw (Ag _) (Tab.mono hT (St.up u)) h3) u λu o=>qa o rfl λo=>re<|tn<|wr<|?_
 obtain rfl:=si hm
 exact r1 o results67 rfl ⟨rfl,u.keep⟩
theorem JfD (hH:H.le w0) (hT:Tab H) {p1:api_Event} {r:Str} (hm:Z7 N p1=some r):Tot Tryz.prog 28 #[.agg #[i6 p1.Kind,i6 p1.T,i6 p1.A,i6 p1.N,i6 p1.M]] w0 (λv w'=>v=Ae r∧Keep Nil w0 w'):=by
 unfold Z7 at hm
 refine fn0 func28 rfl ntmps28 rfl rfl λa o=>?_
 have u:St w0 Nil [H] [] w0:=start1 hH
 refine th<|rg<|ls<|Bo (cs:=[i6 p1.Kind,i6 p1.T,i6 p1.A,i6 p1.N,i6 p1.M].toArray) o rfl u rfl rfl λb2 w a u o=>qa o rfl λo=>re<|tn<|th<|th<|?_
 obtain ⟨C2,h4,hm⟩:=bs hm
 refine rg<|qf o Dv rfl λo=>qB o isAgg3 rfl u t0 rfl λo=>ls<|cr o call65 (JfM (Ag _) h4) u λu o=>qv o (Bi o rfl) λo=>re<|?_
 rcases bit hm with ⟨V0,hm⟩ | ⟨V0,hm⟩
 refine tn<|cfv o rfl (by rw [V0];rfl)<|wk<|tn<|th<|Av (λa w=>∃ (C0:event_kind) (E0:PH) (W0:Nat),(Z8 N p1) C0=some r∧Ext w0 H E0∧Fr 53 [(1,PT b2),(3,PT W0)] a∧St w0 Nil [E0] [bk b2 [i6 p1.Kind,i6 p1.T,i6 p1.A,i6 p1.N,i6 p1.M] 48,bk W0 [Ae C0.name,.bool C0.a,.bool C0.n,.bool C0.m] 147] w) ?_ ?_
 obtain ⟨Q0,h7,hm⟩:=bs hm
 obtain ⟨I1,R0,hm⟩:=bs hm
 refine rdS 5 u wide λw u=>dr 1 u o rfl (Ad o Dv rfl) λo=>dq 2 u.ld o rfl (λw hl=>eB o isAgg3 rfl hl t0 rfl) λo=>da2 (i:=0) (j:=4) (by kernel_rfl) ?_ ?_
 refine dI 0 rfl<|c1 o rfl call66 (Jed (St.le u) h7) trivial (λv w a hR o=>?_)
 obtain ⟨H11,cs12,rfl,Y0,D0,j0,hk⟩:=hR
 obtain ⟨u,D0⟩:=And.intro (St.passH u hk D0 j0) (St.extc u D0)
 have K0:Rows H11 cs12 Q0.l:=Y0
 refine ⟨λ_=>(St.ldsX u D0.sub i1),?_⟩
 obtain ⟨P1,n0,M0⟩:=Rows.getI K0 R0
 obtain rfl:=Ez n0
 refine ds 3 (St.ldsX u D0.sub i1) o rfl (JaO o Ja4 sizeOf147 isAgg147 rfl rfl Q0.h R0 rfl M0) λo=>dz 4 rfl<|Aq (cs:=[Ae [],.bool false,.bool false,.bool false].toArray) o rfl u zeroValue147 rfl λC1 w a u o=>⟨λ_=>(St.ldsX u D0.sub ta1),?_⟩
 refine dz 5 rfl<|Ar o u sizeOf147 rfl rfl rfl rfl (Ak rfl) .head λw u=>⟨λh=>absurd rfl h,?_⟩
 refine dE<|tn<|?_
 replace u:=u.pk [1,0] rfl
 exact ⟨I1,H11,C1,hm,D0,o.hs,u⟩
 refine dI 4 rfl<|Aq (cs:=[Ae [],.bool false,.bool false,.bool false].toArray) o rfl u zeroValue147 rfl λC1 w a u o=>⟨λ_=>(St.ldsX u i2 ta1),?_⟩
 refine dz 0 rfl<|c1 o rfl call66 (Jed (St.le u) h7) trivial (λv w a hR o=>?_)
 obtain ⟨H11,cs12,rfl,Y0,D0,j0,hk⟩:=hR
 obtain ⟨u,D0⟩:=And.intro (St.passH u hk D0 j0) (St.extc u D0)
 have K0:Rows H11 cs12 Q0.l:=Y0
 refine ⟨λ_=>(St.ldsX u D0.sub ta1),?_⟩
 obtain ⟨P1,n0,M0⟩:=Rows.getI K0 R0
 obtain rfl:=Ez n0
 refine ds 3 (St.ldsX u D0.sub ta1) o rfl (JaO o Ja4 sizeOf147 isAgg147 rfl rfl Q0.h R0 rfl M0) λo=>dz 5 rfl<|Ar o u sizeOf147 rfl rfl rfl rfl (Ak rfl) .head λw u=>⟨λh=>absurd rfl h,?_⟩
 refine dE<|tn<|?_
 replace u:=u.pk [1,0] rfl
 exact ⟨I1,H11,C1,hm,D0,o.hs,u⟩
 rintro a w ⟨C0,E0,W0,hm,S0,o,u⟩
 unfold Z8 at hm
 refine th<|?_
 obtain ⟨E2,Q1,hm⟩:=bs hm
 obtain ⟨F2,R1,hm⟩:=bs hm
 obtain ⟨S1,T1,hm⟩:=bs hm
 refine rdS 8 u wide λw u=>dr 0 u o rfl (Ad o Jp rfl) λo=>dq 1 u.ld o rfl (λw hl=>eB o isAgg3 rfl hl t0 rfl) λo=>dr 4 u o rfl (Ad o Jdn rfl) λo=>dq 5 u.ld o rfl (λw hl=>eB o isAgg9 rfl hl t1 rfl) λo=>dz 2 rfl<|cr o call67 (Jet (Ag _) (Tab.mono (Tab.mono hT S0.sub) (St.up u)) Q1) u λu o=>⟨λ_=>u.ld,?_⟩
 refine dr 3 u o rfl (Ve o rfl rfl R1) λo=>dr 6 u o rfl (Ve o rfl rfl T1) λo=>dr 7 u o rfl (Ca o rfl) λo=>dE<|tn<|th<|th<|rg<|qf o Ja8 rfl λo=>qB o isAgg4 rfl u t1 rfl λo=>qf o Gx rfl λo=>qB o isAgg3 rfl u t0 rfl λo=>qv o (bL [.bool C0.a,i6 p1.A] [.bool C0.a,i6 p1.A] o) λo=>qf o JaZ rfl λo=>qB o isAgg4 rfl u t1 rfl λo=>qf o Kp rfl λo=>qB o isAgg3 rfl u t0 rfl λo=>qv o (bL [.bool C0.n,i6 p1.N] [.bool C0.n,i6 p1.N] o) λo=>qf o JaS rfl λo=>qB o isAgg4 rfl u t1 rfl λo=>qf o Jad rfl λo=>qB o isAgg3 rfl u t0 rfl λo=>qv o (bL [.bool C0.m,i6 p1.M] [.bool C0.m,i6 p1.M] o) λo=>ls<|bz (e:=151) (sz:=2) [.bool C0.a,i6 p1.A,.bool C0.n,i6 p1.N,.bool C0.m,i6 p1.M] o u λT0 u o=>?_
 have D1:Rows (α:=S_is_n) E0 [.bool C0.a,i6 p1.A,.bool C0.n,i6 p1.N,.bool C0.m,i6 p1.M] ([(S_is_n.mk C0.a p1.A),(S_is_n.mk C0.n p1.N),(S_is_n.mk C0.m p1.M)]:List S_is_n):=(.cons (c:=[.bool C0.a,i6 p1.A]) ⟨_,_,rfl,rfl,rfl⟩ (.cons (c:=[.bool C0.n,i6 p1.N]) ⟨_,_,rfl,rfl,rfl⟩ (.cons (c:=[.bool C0.m,i6 p1.M]) ⟨_,_,rfl,rfl,rfl⟩ .nil)))
 refine qv o (Aj (α:=S_is_n) (xs:=([(S_is_n.mk C0.a p1.A),(S_is_n.mk C0.n p1.N),(S_is_n.mk C0.m p1.M)]:List S_is_n)) o Jg0 rfl) λo=>qm o rfl λo=>re<|tn<|Av (λa w=>∃ (E1:Str),Z9 E1=some r∧Fr 53 [(4,Ae E1)] a∧St w0 Nil [E0] [] w) ?_ ?_
 replace u:=u.pk [0] rfl
 refine wb<|lp (α:=Nat×Str×Int) (λgh a w=>match gh with | (F0,J0,I0)=>(Zb N Z9 p1 C0) F0 J0 I0=some r∧Fr 53 [(4,Ae J0),(37,.slice (some ⟨T0,0,none⟩) ([(S_is_n.mk C0.a p1.A),(S_is_n.mk C0.n p1.N),(S_is_n.mk C0.m p1.M)]:List S_is_n).length 3),(38,i6 (([(S_is_n.mk C0.a p1.A),(S_is_n.mk C0.n p1.N),(S_is_n.mk C0.m p1.M)]:List S_is_n).length:Int)),(39,i6 I0)] a∧St w0 Nil [E0] [sla 151 2 (some ⟨T0,0,none⟩) ([(S_is_n.mk C0.a p1.A),(S_is_n.mk C0.n p1.N),(S_is_n.mk C0.m p1.M)]:List S_is_n).length 3 [.bool C0.a,i6 p1.A,.bool C0.n,i6 p1.N,.bool C0.m,i6 p1.M]] w) (λgh=>gh.1) (N,S1,0) ⟨hm,o.hs,u⟩ ?_
 rintro ⟨F0,J0,I0⟩ a w ⟨hm,o,u⟩
 obtain _ | F0:=F0
 simp [Zb] at hm
 rw [Zb] at hm
 refine th<|rg<|qv o (Am o rfl rfl) λo=>re<|?_
 rcases bip hm with ⟨O0,hm⟩ | ⟨O0,hm⟩
 refine tn<|th<|ctv o rfl O0<|wk<|tn<|th<|Av (λa w=>∃ (U0:Str),(Za (Zb N Z9 p1 C0 F0) I0) U0=some r∧Fr 53 [(4,Ae U0),(37,.slice (some ⟨T0,0,none⟩) ([(S_is_n.mk C0.a p1.A),(S_is_n.mk C0.n p1.N),(S_is_n.mk C0.m p1.M)]:List S_is_n).length 3),(38,i6 (([(S_is_n.mk C0.a p1.A),(S_is_n.mk C0.n p1.N),(S_is_n.mk C0.m p1.M)]:List S_is_n).length:Int)),(39,i6 I0)] a∧St w0 Nil [E0] [sla 151 2 (some ⟨T0,0,none⟩) ([(S_is_n.mk C0.a p1.A),(S_is_n.mk C0.n p1.N),(S_is_n.mk C0.m p1.M)]:List S_is_n).length 3 [.bool C0.a,i6 p1.A,.bool C0.n,i6 p1.N,.bool C0.m,i6 p1.M]] w) ?_ ?_
 refine wb<|th<|?_
 obtain ⟨I2,F1,hm⟩:=bs hm
 have J1:=Rd.oaI (u.rdO t0) D1 (by decide) F1
 obtain ⟨J2,U1,O1⟩:=Rows.getI D1 F1
 obtain rfl:=Xa U1
 refine rg<|qv o (Co o Tryz.runUnderlying152 Tryz.sizeOf151 rfl rfl F1 J1) λo=>qv o (An o isAgg151 sizeOf151 rfl rfl (u.ld.elsO t0 O1)) λo=>ls<|Aq (cs:=[.bool false,i6 0].toArray) o rfl u zeroValue151 rfl λK2 w a u o=>ls<|Ar o u sizeOf151 rfl rfl rfl rfl (Ak rfl) .head λw u=>re<|tn<|th<|rg<|qf o Jdy rfl λo=>qB o isAgg4 rfl u t0 rfl λo=>re<|?_
 rcases bit hm with ⟨P0,hm⟩ | ⟨P0,hm⟩
 refine tn<|ctv o rfl P0<|?_
 obtain ⟨O2,V1,hm⟩:=bs hm
 obtain ⟨P2,X1,hm⟩:=bs hm
 obtain ⟨Y1,u1,hm⟩:=bs hm
 refine rg<|qm o rfl λo=>qf o JdQ rfl λo=>qB o isAgg3 rfl u t0 rfl λo=>ls<|cr o call67 (Jet (Ag _) (Tab.mono (Tab.mono hT S0.sub) (St.up u)) V1) u λu o=>qv o (Ve o rfl rfl X1) λo=>qv o (Ve o rfl rfl u1) λo=>qa o rfl λo=>re<|bn<|tn<|?_
 replace u:=u.pk [1] rfl
 exact ⟨Y1,hm,o.hs,u⟩
 refine tn<|cfv o rfl P0<|wk<|bn<|tn<|?_
 replace u:=u.pk [1] rfl
 exact ⟨J0,hm,o.hs,u⟩
 rintro a w ⟨U0,hm,o,u⟩
 unfold Za at hm
 refine rg<|qv o (Ao o rfl rfl) λo=>qm o rfl λo=>re<|tn<|?_
 exact ⟨(F0,U0,(i64.wrap (I0+1))),⟨hm,o.hs,u⟩,kxd _⟩
 refine tn<|th<|cfv o rfl O0<|we<|tx<|tx<|bx<|tn<|?_
 replace u:=u.pickL .nil
 exact ⟨J0,hm,o.hs,u⟩
 rintro a w ⟨E1,hm,o,u⟩
 unfold Z9 at hm
 refine th<|rg<|qm o rfl λo=>qa o rfl λo=>re<|tn<|wr<|?_
 obtain rfl:=si hm
 exact r1 o results28 rfl ⟨rfl,u.keep⟩
 refine tn<|ctv o rfl (by rw [V0];rfl)<|th<|rg<|qa o rfl λo=>re<|tn<|wr<|tr<|?_
 obtain rfl:=si hm
 exact r1 o results28 rfl ⟨rfl,u.keep⟩
theorem JdL (hH:H.le w0) {p1:api_Event} {r:Bool} (hm:Z5 N p1=some r):Tot Tryz.prog 29 #[.agg #[i6 p1.Kind,i6 p1.T,i6 p1.A,i6 p1.N,i6 p1.M]] w0 (λv w'=>v=.bool r∧Keep Nil w0 w'):=by
 unfold Z5 at hm
 refine fn0 func29 rfl ntmps29 rfl rfl λa o=>?_
 have u:St w0 Nil [H] [] w0:=start1 hH
 refine th<|rg<|ls<|Bo (cs:=[i6 p1.Kind,i6 p1.T,i6 p1.A,i6 p1.N,i6 p1.M].toArray) o rfl u rfl rfl λb2 w a u o=>qa o rfl λo=>re<|tn<|th<|th<|?_
 obtain ⟨T0,h4,hm⟩:=bs hm
 refine rg<|qf o Dv rfl λo=>qB o isAgg3 rfl u t0 rfl λo=>ls<|cr o call65 (JfM (Ag _) h4) u λu o=>qv o (Bi o rfl) λo=>qm o rfl λo=>gr (Fk:=[(1,PT b2),(12,.bool ((!T0) || (decide (p1.T < 0))))]) 8 4 o u ?_ ?_ ?_
 intro hb o key
 iterate 3 refine qn o λo=>?_
 exact qk o (Ab o rfl rfl) key u hb
 intro hb o key
 exact qg o (Ad o Jp rfl) λo=>qg o (eB o isAgg3 rfl u.ld t0 rfl) λo=>qg o (Am o rfl rfl) λo=>qk o (Ac o rfl rfl) key u hb
 intro a w o u
 refine qm o rfl λo=>gr (Fk:=[(1,PT b2),(17,.bool (((!T0) || (decide (p1.T < 0))) || (decide (p1.A < 0))))]) 13 4 o u ?_ ?_ ?_
 intro hb o key
 iterate 3 refine qn o λo=>?_
 exact qk o (Ab o rfl rfl) key u hb
 intro hb o key
 exact qg o (Ad o Gx rfl) λo=>qg o (eB o isAgg3 rfl u.ld t0 rfl) λo=>qg o (Am o rfl rfl) λo=>qk o (Ac o rfl rfl) key u hb
 intro a w o u
 refine re<|?_
 rcases bit hm with ⟨M0,hm⟩ | ⟨M0,hm⟩
 refine tn<|ctv o rfl M0<|th<|rg<|qa o rfl λo=>re<|tn<|wr<|tr<|?_
 obtain rfl:=si hm
 exact r1 o results29 rfl ⟨rfl,u.keep⟩
 refine tn<|cfv o rfl M0<|wk<|tn<|th<|Av (λa w=>∃ (C0:event_kind) (O0:PH) (E0:Nat),(Z6 N p1) C0=some r∧Ext w0 H O0∧Fr 57 [(1,PT b2),(3,PT E0)] a∧St w0 Nil [O0] [bk b2 [i6 p1.Kind,i6 p1.T,i6 p1.A,i6 p1.N,i6 p1.M] 48,bk E0 [Ae C0.name,.bool C0.a,.bool C0.n,.bool C0.m] 147] w) ?_ ?_
 obtain ⟨J0,h7,hm⟩:=bs hm
 obtain ⟨U0,K0,hm⟩:=bs hm
 refine rdS 5 u wide λw u=>dr 1 u o rfl (Ad o Dv rfl) λo=>dq 2 u.ld o rfl (λw hl=>eB o isAgg3 rfl hl t0 rfl) λo=>da2 (i:=0) (j:=4) (by kernel_rfl) ?_ ?_
 refine dI 0 rfl<|c1 o rfl call66 (Jed (St.le u) h7) trivial (λv w a hR o=>?_)
 obtain ⟨H11,cs12,rfl,P0,D0,Q0,hk⟩:=hR
 obtain ⟨u,D0⟩:=And.intro (St.passH u hk D0 Q0) (St.extc u D0)
 have F0:Rows H11 cs12 J0.l:=P0
 refine ⟨λ_=>(St.ldsX u D0.sub i1),?_⟩
 obtain ⟨V0,R0,I0⟩:=Rows.getI F0 K0
 obtain rfl:=Ez R0
 refine ds 3 (St.ldsX u D0.sub i1) o rfl (JaO o Ja4 sizeOf147 isAgg147 rfl rfl J0.h K0 rfl I0) λo=>dz 4 rfl<|Aq (cs:=[Ae [],.bool false,.bool false,.bool false].toArray) o rfl u zeroValue147 rfl λS0 w a u o=>⟨λ_=>(St.ldsX u D0.sub ta1),?_⟩
 refine dz 5 rfl<|Ar o u sizeOf147 rfl rfl rfl rfl (Ak rfl) .head λw u=>⟨λh=>absurd rfl h,?_⟩
 refine dE<|tn<|?_
 replace u:=u.pk [1,0] rfl
 exact ⟨U0,H11,S0,hm,D0,o.hs,u⟩
 refine dI 4 rfl<|Aq (cs:=[Ae [],.bool false,.bool false,.bool false].toArray) o rfl u zeroValue147 rfl λS0 w a u o=>⟨λ_=>(St.ldsX u i2 ta1),?_⟩
 refine dz 0 rfl<|c1 o rfl call66 (Jed (St.le u) h7) trivial (λv w a hR o=>?_)
 obtain ⟨H11,cs12,rfl,P0,D0,Q0,hk⟩:=hR
 obtain ⟨u,D0⟩:=And.intro (St.passH u hk D0 Q0) (St.extc u D0)
 have F0:Rows H11 cs12 J0.l:=P0
 refine ⟨λ_=>(St.ldsX u D0.sub ta1),?_⟩
 obtain ⟨V0,R0,I0⟩:=Rows.getI F0 K0
 obtain rfl:=Ez R0
 refine ds 3 (St.ldsX u D0.sub ta1) o rfl (JaO o Ja4 sizeOf147 isAgg147 rfl rfl J0.h K0 rfl I0) λo=>dz 5 rfl<|Ar o u sizeOf147 rfl rfl rfl rfl (Ak rfl) .head λw u=>⟨λh=>absurd rfl h,?_⟩
 refine dE<|tn<|?_
 replace u:=u.pk [1,0] rfl
 exact ⟨U0,H11,S0,hm,D0,o.hs,u⟩
 rintro a w ⟨C0,O0,E0,hm,W0,o,u⟩
 unfold Z6 at hm
 refine th<|rg<|qf o Ja8 rfl λo=>qB o isAgg4 rfl u t1 rfl λo=>qm o rfl λo=>gr (Fk:=[(1,PT b2),(3,PT E0),(28,.bool (C0.a || (decide (p1.A=0))))]) 24 4 o u ?_ ?_ ?_
 intro hb o key
 iterate 3 refine qn o λo=>?_
 exact qk o (Ab o rfl rfl) key u hb
 intro hb o key
 exact qg o (Ad o Gx rfl) λo=>qg o (eB o isAgg3 rfl u.ld t0 rfl) λo=>qg o (Ah o rfl rfl) λo=>qk o (Ac o rfl rfl) key u hb
 intro a w o u
 refine qm o rfl λo=>gr (Fk:=[(1,PT b2),(3,PT E0),(37,.bool ((C0.a || (decide (p1.A=0))) && (C0.n || (decide (p1.N=0)))))]) 29 8 o u ?_ ?_ ?_
 intro hb o key
 refine qg o (Ad o JaZ rfl) λo=>qg o (eB o isAgg4 rfl u.ld t1 rfl) λo=>qg o (Aa o rfl) λo=>gr (Fk:=[(1,PT b2),(3,PT E0),(29,.bool true),(36,.bool (C0.n || (decide (p1.N=0))))]) 32 4 o u ?_ ?_ ?_
 intro hb o key
 iterate 3 refine qn o λo=>?_
 exact ql o (Ab o rfl rfl) key u hb
 intro hb o key
 exact qg o (Ad o Kp rfl) λo=>qg o (eB o isAgg3 rfl u.ld t0 rfl) λo=>qg o (Ah o rfl rfl) λo=>ql o (Ac o rfl rfl) key u hb
 intro a w o u
 exact qk o (Ab o rfl rfl) key u hb
 intro hb o key
 iterate 3 refine qn o λo=>?_
 iterate 3 refine ls<|gnu o rfl rfl rfl λa o=>?_
 exact qn o λo=>qk o (Ac o rfl rfl) key u hb
 intro a w o u
 refine qm o rfl λo=>gr (Fk:=[(1,PT b2),(46,.bool (((C0.a || (decide (p1.A=0))) && (C0.n || (decide (p1.N=0)))) && (C0.m || (decide (p1.M=0)))))]) 38 8 o u ?_ ?_ ?_
 intro hb o key
 refine qg o (Ad o JaS rfl) λo=>qg o (eB o isAgg4 rfl u.ld t1 rfl) λo=>qg o (Aa o rfl) λo=>gr (Fk:=[(1,PT b2),(38,.bool true),(45,.bool (C0.m || (decide (p1.M=0))))]) 41 4 o u ?_ ?_ ?_
 intro hb o key
 iterate 3 refine qn o λo=>?_
 exact ql o (Ab o rfl rfl) key u hb
 intro hb o key
 exact qg o (Ad o Jad rfl) λo=>qg o (eB o isAgg3 rfl u.ld t0 rfl) λo=>qg o (Ah o rfl rfl) λo=>ql o (Ac o rfl rfl) key u hb
 intro a w o u
 exact qk o (Ab o rfl rfl) key u hb
 intro hb o key
 iterate 3 refine qn o λo=>?_
 iterate 3 refine ls<|gnu o rfl rfl rfl λa o=>?_
 exact qn o λo=>qk o (Ac o rfl rfl) key u hb
 intro a w o u
 refine qm o rfl λo=>gr (Fk:=[(56,.bool ((((C0.a || (decide (p1.A=0))) && (C0.n || (decide (p1.N=0)))) && (C0.m || (decide (p1.M=0)))) && ((decide (p1.Kind≠15)) || (decide (p1.T=0)))))]) 47 9 o u ?_ ?_ ?_
 intro hb o key
 refine qg o (Ad o Dv rfl) λo=>qg o (eB o isAgg3 rfl u.ld t0 rfl) λo=>qg o (Bg o rfl rfl) λo=>qg o (Aa o rfl) λo=>gr (Fk:=[(47,.bool true),(55,.bool ((decide (p1.Kind≠15)) || (decide (p1.T=0))))]) 51 4 o u ?_ ?_ ?_
 intro hb o key
 iterate 3 refine qn o λo=>?_
 exact ql o (Ab o rfl rfl) key u hb
 intro hb o key
 exact qg o (Ad o Jp rfl) λo=>qg o (eB o isAgg3 rfl u.ld t0 rfl) λo=>qg o (Ah o rfl rfl) λo=>ql o (Ac o rfl rfl) key u hb
 intro a w o u
 exact qk o (Ab o rfl rfl) key u hb
 intro hb o key
 iterate 4 refine qn o λo=>?_
 iterate 3 refine ls<|gnu o rfl rfl rfl λa o=>?_
 exact qn o λo=>qk o (Ac o rfl rfl) key u hb
 intro a w o u
 refine qa o rfl λo=>re<|tn<|wr<|?_
 obtain rfl:=si hm
 exact r1 o results29 rfl ⟨rfl,u.keep⟩
theorem Ty (hH:H.le w0) (hT:Tab H)  {r:Bool} (hm:Z18 N  = some r):Tot Tryz.prog 6 #[] w0 (λv w'=>v=.bool r∧Keep Nil w0 w'):=by
 unfold Z18 at hm
 refine fn0 func6 rfl ntmps6 rfl rfl λa o=>?_
 have u:St w0 Nil [H] [] w0:=start1 hH
 refine th<|rg<|qa o rfl λo=>re<|tn<|th<|rg<|ls<|bz (e:=3) (sz:=1) [i6 0,i6 0,i6 1] o u λb2 u o=>?_
 have C0:Rows (α:=Int) H [i6 0,i6 0,i6 1] ([0,0,1]:List Int):=(.cons (c:=[i6 0]) rfl (.cons (c:=[i6 0]) rfl (.cons (c:=[i6 1]) rfl .nil)))
 refine qa o rfl λo=>re<|tn<|th<|rg<|qv o (bL [i6 1,i6 5] [i6 1,i6 0,i6 0,i6 5,i6 0] o) λo=>qv o (bL [i6 1,i6 1] [i6 1,i6 1,i6 0,i6 0,i6 0] o) λo=>ls<|Aq (cs:=[i6 0,i6 0,i6 0,i6 0,i6 0].toArray) o rfl u zeroValue48 rfl λb4 w a u o=>ls<|Aq (cs:=[i6 0,i6 0,i6 0,i6 0,i6 0].toArray) o rfl u zeroValue48 rfl λb5 w a u o=>ls<|Ar o u sizeOf48 rfl rfl rfl rfl (Ak rfl) (.tail .head) λw u=>ls<|Ar o u sizeOf48 rfl rfl rfl rfl (Ak rfl) .head λw u=>re<|tn<|th<|rg<|qv o (bL [i6 12,i6 1] [i6 12,i6 1,i6 0,i6 0,i6 0] o) λo=>qv o (bL [i6 13,i6 2] [i6 13,i6 2,i6 0,i6 0,i6 0] o) λo=>ls<|Aq (cs:=[i6 0,i6 0,i6 0,i6 0,i6 0].toArray) o rfl u zeroValue48 rfl λb6 w a u o=>ls<|Aq (cs:=[i6 0,i6 0,i6 0,i6 0,i6 0].toArray) o rfl u zeroValue48 rfl λb7 w a u o=>ls<|Ar o u sizeOf48 rfl rfl rfl rfl (Ak rfl) (.tail .head) λw u=>ls<|Ar o u sizeOf48 rfl rfl rfl rfl (Ak rfl) .head λw u=>re<|tn<|th<|rg<|qv o (bL [i6 16,i6 1,i6 2] [i6 16,i6 1,i6 2,i6 0,i6 0] o) λo=>ls<|Aq (cs:=[i6 0,i6 0,i6 0,i6 0,i6 0].toArray) o rfl u zeroValue48 rfl λb8 w a u o=>ls<|Ar o u sizeOf48 rfl rfl rfl rfl (Ak rfl) .head λw u=>re<|tn<|th<|?_
 obtain ⟨F2,Y0,hm⟩:=bs hm
 obtain ⟨_,D0,hm⟩:=bs hm
 replace D0:=Cr D0
 obtain ⟨I2,j0,hm⟩:=bs hm
 obtain ⟨_,E0,hm⟩:=bs hm
 replace E0:=Cr E0
 obtain ⟨J2,n0,hm⟩:=bs hm
 obtain ⟨_,F0,hm⟩:=bs hm
 replace F0:=Cr F0
 obtain ⟨K2,C1,hm⟩:=bs hm
 obtain ⟨_,I0,hm⟩:=bs hm
 replace I0:=Cr I0
 obtain ⟨O2,D1,hm⟩:=bs hm
 obtain ⟨_,J0,hm⟩:=bs hm
 replace J0:=Cr J0
 obtain ⟨P2,E1,hm⟩:=bs hm
 obtain ⟨_,K0,hm⟩:=bs hm
 replace K0:=Cr K0
 obtain ⟨R2,F1,hm⟩:=bs hm
 obtain ⟨T2,I1,hm⟩:=bs hm
 obtain ⟨_,M0,hm⟩:=bs hm
 replace M0:=Cr M0
 obtain ⟨J1,O1,hm⟩:=bs hm
 obtain ⟨_,O0,hm⟩:=bs hm
 replace O0:=Cr O0
 obtain ⟨P1,Q1,hm⟩:=bs hm
 obtain ⟨_,P0,hm⟩:=bs hm
 replace P0:=Cr P0
 obtain ⟨R1,S1,hm⟩:=bs hm
 obtain ⟨_,Q0,hm⟩:=bs hm
 replace Q0:=Cr Q0
 obtain ⟨U2,T1,hm⟩:=bs hm
 obtain ⟨_,R0,hm⟩:=bs hm
 replace R0:=Cr R0
 obtain ⟨V2,U1,hm⟩:=bs hm
 obtain ⟨_,S0,hm⟩:=bs hm
 replace S0:=Cr S0
 obtain ⟨W2,V1,hm⟩:=bs hm
 obtain ⟨_,T0,hm⟩:=bs hm
 replace T0:=Cr T0
 obtain ⟨X2,X1,hm⟩:=bs hm
 obtain ⟨_,U0,hm⟩:=bs hm
 replace U0:=Cr U0
 obtain ⟨Y2,Y1,hm⟩:=bs hm
 refine rg<|qv o (An o Tryz.isAgg48 Tryz.sizeOf48 rfl rfl (u.ld.cellsB t4)) λo=>qv o (An o isAgg48 sizeOf48 rfl rfl (u.ld.cellsB t3)) λo=>qm o rfl λo=>ls<|cr o call11 (Jan (Ag _) (St.capO u t5) (St.srO u t5 C0) Y0) u λu o=>qv o (Bi o rfl) λo=>qv o (As (Aa o rfl) (congrArg Value.bool D0)) λo=>qg o (An o isAgg48 sizeOf48 rfl rfl (u.ld.cellsB t4)) λo=>qg o (An o isAgg48 sizeOf48 rfl rfl (u.ld.cellsB t2)) λo=>qg o (Aa o rfl) λo=>ls<|gy o rfl rfl<|cr o call11 (Jan (Ag _) (St.capO u t5) (St.srO u t5 C0) j0) u λu o=>qv o (Ab o rfl rfl) λo=>qv o (As (Aa o rfl) (congrArg Value.bool E0)) λo=>qg o (An o isAgg48 sizeOf48 rfl rfl (u.ld.cellsB t2)) λo=>qg o (An o isAgg48 sizeOf48 rfl rfl (u.ld.cellsB t1)) λo=>qg o (Aa o rfl) λo=>ls<|gy o rfl rfl<|cr o call11 (Jan (Ag _) (St.capO u t5) (St.srO u t5 C0) n0) u λu o=>qv o (Ab o rfl rfl) λo=>qv o (As (Aa o rfl) (congrArg Value.bool F0)) λo=>qg o (An o isAgg48 sizeOf48 rfl rfl (u.ld.cellsB t2)) λo=>qg o (An o isAgg48 sizeOf48 rfl rfl (u.ld.cellsB t1)) λo=>qg o (Aa o rfl) λo=>ls<|gy o rfl rfl<|cr o call11 (Jan (Ag _) (St.capO u t5) (St.srO u t5 C0) C1) u λu o=>qg o (Bi o rfl) λo=>qv o (Ab o rfl rfl) λo=>qv o (As (Aa o rfl) (congrArg Value.bool I0)) λo=>qg o (An o isAgg48 sizeOf48 rfl rfl (u.ld.cellsB t4)) λo=>qg o (An o isAgg48 sizeOf48 rfl rfl (u.ld.cellsB t1)) λo=>qg o (Aa o rfl) λo=>ls<|gy o rfl rfl<|cr o call11 (Jan (Ag _) (St.capO u t5) (St.srO u t5 C0) D1) u λu o=>qg o (Bi o rfl) λo=>qv o (Ab o rfl rfl) λo=>?_
 refine qv o (As (Aa o rfl) (congrArg Value.bool J0)) λo=>qg o (An o isAgg48 sizeOf48 rfl rfl (u.ld.cellsB t4)) λo=>qg o (An o isAgg48 sizeOf48 rfl rfl (u.ld.cellsB t0)) λo=>qg o (Aa o rfl) λo=>ls<|gy o rfl rfl<|cr o call11 (Jan (Ag _) (St.capO u t5) (St.srO u t5 C0) E1) u λu o=>qv o (Ab o rfl rfl) λo=>qv o (As (Aa o rfl) (congrArg Value.bool K0)) λo=>qg o (An o isAgg48 sizeOf48 rfl rfl (u.ld.cellsB t2)) λo=>qg o (Aa o rfl) λo=>ls<|gy o rfl rfl<|c1 o rfl call27 (Jfq (Ag _) (St.capO u t5) (St.srO u t5 C0) F1) ⟨rfl,rfl,rfl,trivial⟩ (λv w a hR o=>?_)
 obtain ⟨C2,u1,E2,rfl,V0,hk⟩:=hR
 replace u:=u.fresh hk
 replace V0:=V0 H
 refine qg o (bL [i6 1,.bool true] [i6 1,i6 0,.bool true] o) λo=>qg o (bL [i6 2,.bool true] [i6 2,i6 0,.bool true] o) λo=>ls<|gy o rfl rfl<|bz (e:=93) (sz:=3) [i6 1,i6 0,.bool true,i6 2,i6 0,.bool true] o u λA3 u o=>?_
 have W0:Rows (α:=api_Use) H [i6 1,i6 0,.bool true,i6 2,i6 0,.bool true] ([(api_Use.mk 1 0 true),(api_Use.mk 2 0 true)]:List api_Use):=(.cons (c:=[i6 1,i6 0,.bool true]) ⟨_,_,rfl,rfl,⟨_,_,rfl,rfl,rfl⟩⟩ (.cons (c:=[i6 2,i6 0,.bool true]) ⟨_,_,rfl,rfl,⟨_,_,rfl,rfl,rfl⟩⟩ .nil))
 refine ls<|gy o rfl rfl<|cr o call26 (JgO (Ag _) (St.capO u t1) (St.srO u t1 V0) (St.capO u t0) (St.srO u t0 W0) I1) u λu o=>qv o (Ab o rfl rfl) λo=>qv o (As (Aa o rfl) (congrArg Value.bool M0)) λo=>qg o (An o isAgg48 sizeOf48 rfl rfl (u.ld.cellsB t6)) λo=>ls<|gy o rfl rfl<|cr o call28 (JfD (Ag _) (Tab.mono hT (St.up u)) O1) u λu o=>qg o (Qp (m:=J1) (n:=[48,32,108,111,97,100,32,48,32,53]) o rfl rfl) λo=>qv o (Ab o rfl rfl) λo=>qv o (As (Aa o rfl) (congrArg Value.bool O0)) λo=>qg o (An o isAgg48 sizeOf48 rfl rfl (u.ld.cellsB t2)) λo=>ls<|gy o rfl rfl<|cr o call28 (JfD (Ag _) (Tab.mono hT (St.up u)) Q1) u λu o=>qg o (Qp (m:=P1) (n:=[49,32,102,97,117,108,116,32,50]) o rfl rfl) λo=>qv o (Ab o rfl rfl) λo=>qv o (As (Aa o rfl) (congrArg Value.bool P0)) λo=>qg o (bL [] [i6 0,i6 0,i6 0,i6 0,i6 0] o) λo=>ls<|gy o rfl rfl<|cr o call28 (JfD (Ag _) (Tab.mono hT (St.up u)) S1) u λu o=>qg o (Qp (m:=R1) (n:=[]) o rfl rfl) λo=>qv o (Ab o rfl rfl) λo=>qv o (As (Aa o rfl) (congrArg Value.bool Q0)) λo=>qg o (An o isAgg48 sizeOf48 rfl rfl (u.ld.cellsB t6)) λo=>ls<|gy o rfl rfl<|cr o call29 (JdL (Ag _) T1) u λu o=>qv o (Ab o rfl rfl) λo=>qv o (As (Aa o rfl) (congrArg Value.bool R0)) λo=>qg o (bL [i6 14,i6 1] [i6 14,i6 0,i6 1,i6 0,i6 0] o) λo=>ls<|gy o rfl rfl<|cr o call29 (JdL (Ag _) U1) u λu o=>qg o (Bi o rfl) λo=>qv o (Ab o rfl rfl) λo=>qv o (As (Aa o rfl) (congrArg Value.bool S0)) λo=>qg o (bL [i6 4] [i6 4,i6 0,.bool false] o) λo=>qg o (bL [] [i6 0,i6 0,.bool false] o) λo=>ls<|gy o rfl rfl<|cr o call30 (JfS (Ag _) V1) u λu o=>qv o (Ab o rfl rfl) λo=>?_
 refine qv o (As (Aa o rfl) (congrArg Value.bool T0)) λo=>qg o (bL [i6 8,i6 3] [i6 8,i6 0,i6 0,i6 0,i6 3] o) λo=>ls<|gy o rfl rfl<|cr o call29 (JdL (Ag _) X1) u λu o=>qv o (Ab o rfl rfl) λo=>qv o (As (Aa o rfl) (congrArg Value.bool U0)) λo=>qg o (bL [i6 15,i6 1] [i6 15,i6 1,i6 0,i6 0,i6 0] o) λo=>ls<|gy o rfl rfl<|cr o call29 (JdL (Ag _) Y1) u λu o=>qg o (Bi o rfl) λo=>qv o (Ab o rfl rfl) λo=>qa o rfl λo=>re<|tn<|wr<|?_
 obtain rfl:=si hm
 exact r1 o results6 rfl ⟨rfl,u.keep⟩
theorem Jew (hH:H.le w0) {K0:Option Addr} {D0:Nat} {p1:(List Int)} (n0:p1.length≤D0) (O0:SR H K0 p1) {oa7:Option Addr} {cap8:Nat} {p6:(List Int)} (C1:p6.length≤cap8) (M0:SR H oa7 p6) {r:Bool} (hm:Z3i N p1 p6=some r):Tot Tryz.prog 14 #[SL K0 p1 D0,SL oa7 p6 cap8] w0 (λv w'=>v=.bool r∧Keep Nil w0 w'):=by
 unfold Z3i at hm
 refine fn0 func14 rfl ntmps14 rfl rfl λa o=>?_
 have u:St w0 Nil [H] [] w0:=start1 hH
 refine th<|rg<|qa o rfl λo=>re<|tn<|th<|th<|rg<|qm o rfl λo=>qv o (Aj (α:=Int) (xs:=p1) o Bn rfl) λo=>qm o rfl λo=>qv o (Aj (α:=Int) (xs:=p6) o Bn rfl) λo=>qv o (Bg o rfl rfl) λo=>re<|?_
 rcases bip hm with ⟨E0,hm⟩ | ⟨E0,hm⟩
 refine tn<|ctv o rfl E0<|th<|rg<|qa o rfl λo=>re<|tn<|wr<|tr<|?_
 obtain rfl:=si hm
 exact r1 o results14 rfl ⟨rfl,u.keep⟩
 refine tn<|cfv o rfl E0<|wk<|tn<|th<|th<|rg<|qa o rfl λo=>re<|tn<|Av (λa w=>Z3j=some r∧Fr 26 [] a∧St w0 Nil [H] [] w) ?_ ?_
 refine wb<|lp (α:=Nat×Int) (λgh a w=>match gh with | (C0,J0)=>(Z3k N Z3j p1 p6) C0 J0=some r∧Fr 26 [(0,SL K0 p1 D0),(1,SL oa7 p6 cap8),(5,i6 J0)] a∧St w0 Nil [H] [] w) (λgh=>gh.1) (N,0) ⟨hm,o.hs,u⟩ ?_
 rintro ⟨C0,J0⟩ a w ⟨hm,o,u⟩
 obtain _ | C0:=C0
 simp [Z3k] at hm
 rw [Z3k] at hm
 refine th<|th<|rg<|qm o rfl λo=>qm o rfl λo=>qv o (Aj (α:=Int) (xs:=p1) o Bn rfl) λo=>qv o (Am o rfl rfl) λo=>re<|?_
 rcases bip hm with ⟨F0,hm⟩ | ⟨F0,hm⟩
 refine tn<|ctv o rfl F0<|wk<|tn<|th<|wb<|th<|?_
 obtain ⟨T0,P0,hm⟩:=bs hm
 obtain ⟨U0,V0,R0⟩:=SR.get O0 P0
 obtain rfl:U0=[i6 T0]:=V0
 obtain ⟨W0,Q0,hm⟩:=bs hm
 obtain ⟨Y0,j0,S0⟩:=SR.get M0 Q0
 obtain rfl:Y0=[i6 W0]:=j0
 refine rxS 9 u wide (by kernel_rfl) λw u=>?_
 iterate 2 refine xq u.ld o (λw hl=>Aa o rfl) λo=>?_
 refine xr u o (eI o Bn sizeOf3 rfl rfl P0 O0) λo=>xq u.ld o (λw hl=>eD o isAgg3 rfl hl (R0 0 _ rfl)) λo=>?_
 iterate 2 refine xq u.ld o (λw hl=>Aa o rfl) λo=>?_
 refine xr u o (eI o Bn sizeOf3 rfl rfl Q0 M0) λo=>xq u.ld o (λw hl=>eD o isAgg3 rfl hl (S0 0 _ rfl)) λo=>xr u o (Bg o rfl rfl) λo=>xe<|?_
 rcases bip hm with ⟨I0,hm⟩ | ⟨I0,hm⟩
 refine tn<|ctv o rfl I0<|th<|rg<|qa o rfl λo=>re<|tn<|wr<|br<|tr<|tr<|br<|tr<|?_
 obtain rfl:=si hm
 exact r1 o results14 rfl ⟨rfl,u.keep⟩
 refine tn<|cfv o rfl I0<|wk<|bn<|tn<|rg<|qm o rfl λo=>qv o (Ao o rfl rfl) λo=>qa o rfl λo=>re<|tn<|?_
 exact ⟨(C0,(i64.wrap (J0+1))),⟨hm,o.hs,u⟩,kxd _⟩
 refine tn<|cfv o rfl F0<|we<|tx<|tx<|bx<|tn<|?_
 exact ⟨hm,o.has trivial,u⟩
 rintro a w ⟨hm,o,u⟩
 unfold Z3j at hm
 refine th<|rg<|qa o rfl λo=>re<|tn<|wr<|?_
 obtain rfl:=si hm
 exact r1 o results14 rfl ⟨rfl,u.keep⟩
theorem JgK (hH:H.le w0) {V0:Option Addr} {P0:Nat} {p1:(List api_Pick)} (R1:p1.length≤P0) (F0:SR H V0 p1) {oa7:Option Addr} {cap8:Nat} {p6:(List api_Pick)} (S1:p6.length≤cap8) (C0:SR H oa7 p6) {r:Bool} (hm:Z7l N p1 p6=some r):Tot Tryz.prog 12 #[SL V0 p1 P0,SL oa7 p6 cap8] w0 (λv w'=>v=.bool r∧Keep Nil w0 w'):=by
 unfold Z7l at hm
 refine fn0 func12 rfl ntmps12 rfl rfl λa o=>?_
 have u:St w0 Nil [H] [] w0:=start1 hH
 refine th<|rg<|qa o rfl λo=>re<|tn<|th<|th<|rg<|qm o rfl λo=>qv o (Aj (α:=api_Pick) (xs:=p1) o Eh rfl) λo=>qm o rfl λo=>qv o (Aj (α:=api_Pick) (xs:=p6) o Eh rfl) λo=>qv o (Bg o rfl rfl) λo=>re<|?_
 rcases bip hm with ⟨R0,hm⟩ | ⟨R0,hm⟩
 refine tn<|ctv o rfl R0<|th<|rg<|qa o rfl λo=>re<|tn<|wr<|tr<|?_
 obtain rfl:=si hm
 exact r1 o results12 rfl ⟨rfl,u.keep⟩
 refine tn<|cfv o rfl R0<|wk<|tn<|th<|th<|rg<|qa o rfl λo=>re<|tn<|Av (λa w=>Z7m=some r∧Fr 68 [] a∧St w0 Nil [H] [] w) ?_ ?_
 refine wb<|lp (α:=Nat×Int) (λgh a w=>match gh with | (M0,O0)=>(Z7o N Z7m p1 p6) M0 O0=some r∧Fr 68 [(0,SL V0 p1 P0),(1,SL oa7 p6 cap8),(5,i6 O0)] a∧St w0 Nil [H] [] w) (λgh=>gh.1) (N,0) ⟨hm,o.hs,u⟩ ?_
 rintro ⟨M0,O0⟩ a w ⟨hm,o,u⟩
 obtain _ | M0:=M0
 simp [Z7o] at hm
 rw [Z7o] at hm
 refine th<|th<|rg<|qm o rfl λo=>qm o rfl λo=>qv o (Aj (α:=api_Pick) (xs:=p1) o Eh rfl) λo=>qv o (Am o rfl rfl) λo=>re<|?_
 rcases bip hm with ⟨S0,hm⟩ | ⟨S0,hm⟩
 refine tn<|ctv o rfl S0<|wk<|tn<|th<|wb<|th<|Av (λa w=>∃ (W0:Bool),(Z7n (Z7o N Z7m p1 p6 M0) O0) W0=some r∧Fr 68 [(0,SL V0 p1 P0),(1,SL oa7 p6 cap8),(5,i6 O0),(67,.bool W0)] a∧St w0 Nil [H] [] w) ?_ ?_
 obtain ⟨T1,I0,hm⟩:=bs hm
 obtain ⟨U1,D1,D0⟩:=SR.get F0 I0
 obtain ⟨P1,J1,rfl,Y0,j0⟩:=Md D1
 obtain ⟨V1,J0,hm⟩:=bs hm
 obtain ⟨X1,E1,E0⟩:=SR.get C0 J0
 obtain ⟨Q1,O1,rfl,n0,C1⟩:=Md E1
 rcases bip hm with ⟨K0,hm⟩ | ⟨K0,hm⟩
 refine rxS 51 u wide (by kernel_rfl) λw u=>?_
 iterate 2 refine xq u.ld o (λw hl=>Aa o rfl) λo=>?_
 refine xr u o (eI o Eh sizeOf52 rfl rfl I0 F0) λo=>xr u o (Ad o Ha rfl) λo=>xq u.ld o (λw hl=>eD o isAgg3 rfl hl (D0 0 _ rfl)) λo=>?_
 iterate 2 refine xq u.ld o (λw hl=>Aa o rfl) λo=>?_
 refine xr u o (eI o Eh sizeOf52 rfl rfl J0 C0) λo=>xr u o (Ad o Ha rfl) λo=>xq u.ld o (λw hl=>eD o isAgg3 rfl hl (E0 0 _ rfl)) λo=>xr u o (Bg o rfl rfl) λo=>xr u o (As (Aa o rfl) (congrArg Value.bool K0)) λo=>?_
 iterate 11 refine xn u.ld o λo=>?_
 refine xr u o (Ab o rfl rfl) λo=>xm u o rfl λo=>?_
 iterate 11 refine xn u.ld o λo=>?_
 refine xr u o (Ab o rfl rfl) λo=>xm u o rfl λo=>?_
 iterate 12 refine xn u.ld o λo=>?_
 refine xr u o (Ab o rfl rfl) λo=>xe<|tn<|?_
 exact ⟨true,hm,o.hs,u⟩
 rcases bip hm with ⟨Q0,hm⟩ | ⟨Q0,hm⟩
 refine rxS 51 u wide (by kernel_rfl) λw u=>?_
 iterate 2 refine xq u.ld o (λw hl=>Aa o rfl) λo=>?_
 refine xr u o (eI o Eh sizeOf52 rfl rfl I0 F0) λo=>xr u o (Ad o Ha rfl) λo=>xq u.ld o (λw hl=>eD o isAgg3 rfl hl (D0 0 _ rfl)) λo=>?_
 iterate 2 refine xq u.ld o (λw hl=>Aa o rfl) λo=>?_
 refine xr u o (eI o Eh sizeOf52 rfl rfl J0 C0) λo=>xr u o (Ad o Ha rfl) λo=>xq u.ld o (λw hl=>eD o isAgg3 rfl hl (E0 0 _ rfl)) λo=>xr u o (Bg o rfl rfl) λo=>xr u o (As (Aa o rfl) (congrArg Value.bool K0)) λo=>?_
 iterate 2 refine xg u.ld o (λw hl=>Aa o rfl) λo=>?_
 refine xg u.ld o (λw hl=>eI o Eh sizeOf52 rfl rfl I0 F0) λo=>xg u.ld o (λw hl=>Ad o Gy rfl) λo=>xg u.ld o (λw hl=>eD o isAgg3 rfl hl (D0 1 _ rfl)) λo=>?_
 iterate 2 refine xg u.ld o (λw hl=>Aa o rfl) λo=>?_
 refine xg u.ld o (λw hl=>eI o Eh sizeOf52 rfl rfl J0 C0) λo=>xg u.ld o (λw hl=>Ad o Gy rfl) λo=>xg u.ld o (λw hl=>eD o isAgg3 rfl hl (E0 1 _ rfl)) λo=>xg u.ld o (λw hl=>Bg o rfl rfl) λo=>xr u o (Ac o rfl rfl) λo=>xr u o (As (Aa o rfl) (congrArg Value.bool Q0)) λo=>?_
 iterate 11 refine xn u.ld o λo=>?_
 refine xr u o (Ab o rfl rfl) λo=>xm u o rfl λo=>?_
 iterate 12 refine xn u.ld o λo=>?_
 refine xr u o (Ab o rfl rfl) λo=>xe<|tn<|?_
 exact ⟨true,hm,o.hs,u⟩
 rcases bip hm with ⟨T0,hm⟩ | ⟨T0,hm⟩
 refine rxS 51 u wide (by kernel_rfl) λw u=>?_
 iterate 2 refine xq u.ld o (λw hl=>Aa o rfl) λo=>?_
 refine xr u o (eI o Eh sizeOf52 rfl rfl I0 F0) λo=>xr u o (Ad o Ha rfl) λo=>xq u.ld o (λw hl=>eD o isAgg3 rfl hl (D0 0 _ rfl)) λo=>?_
 iterate 2 refine xq u.ld o (λw hl=>Aa o rfl) λo=>?_
 refine xr u o (eI o Eh sizeOf52 rfl rfl J0 C0) λo=>xr u o (Ad o Ha rfl) λo=>xq u.ld o (λw hl=>eD o isAgg3 rfl hl (E0 0 _ rfl)) λo=>xr u o (Bg o rfl rfl) λo=>xr u o (As (Aa o rfl) (congrArg Value.bool K0)) λo=>?_
 iterate 2 refine xg u.ld o (λw hl=>Aa o rfl) λo=>?_
 refine xg u.ld o (λw hl=>eI o Eh sizeOf52 rfl rfl I0 F0) λo=>xg u.ld o (λw hl=>Ad o Gy rfl) λo=>xg u.ld o (λw hl=>eD o isAgg3 rfl hl (D0 1 _ rfl)) λo=>?_
 iterate 2 refine xg u.ld o (λw hl=>Aa o rfl) λo=>?_
 refine xg u.ld o (λw hl=>eI o Eh sizeOf52 rfl rfl J0 C0) λo=>xg u.ld o (λw hl=>Ad o Gy rfl) λo=>xg u.ld o (λw hl=>eD o isAgg3 rfl hl (E0 1 _ rfl)) λo=>xg u.ld o (λw hl=>Bg o rfl rfl) λo=>xr u o (Ac o rfl rfl) λo=>xr u o (As (Aa o rfl) (congrArg Value.bool Q0)) λo=>?_
 iterate 2 refine xg u.ld o (λw hl=>Aa o rfl) λo=>?_
 refine xg u.ld o (λw hl=>eI o Eh sizeOf52 rfl rfl I0 F0) λo=>xg u.ld o (λw hl=>Ad o Ml rfl) λo=>xg u.ld o (λw hl=>eD o isAgg3 rfl hl (D0 2 _ rfl)) λo=>?_
 iterate 2 refine xg u.ld o (λw hl=>Aa o rfl) λo=>?_
 refine xg u.ld o (λw hl=>eI o Eh sizeOf52 rfl rfl J0 C0) λo=>xg u.ld o (λw hl=>Ad o Ml rfl) λo=>xg u.ld o (λw hl=>eD o isAgg3 rfl hl (E0 2 _ rfl)) λo=>xg u.ld o (λw hl=>Bg o rfl rfl) λo=>xr u o (Ac o rfl rfl) λo=>xr u o (As (Aa o rfl) (congrArg Value.bool T0)) λo=>?_
 iterate 12 refine xn u.ld o λo=>?_
 refine xr u o (Ab o rfl rfl) λo=>xe<|tn<|?_
 exact ⟨true,hm,o.hs,u⟩
 obtain ⟨F1,I1,hm⟩:=bs hm
 refine rdS 51 u wide λw u=>dr 0 u o rfl (Aa o rfl) λo=>dr 1 u o rfl (Aa o rfl) λo=>dr 2 u o rfl (eI o Eh sizeOf52 rfl rfl I0 F0) λo=>dr 3 u o rfl (Ad o Ha rfl) λo=>dq 4 u.ld o rfl (λw hl=>eD o isAgg3 rfl hl (D0 0 _ rfl)) λo=>dr 5 u o rfl (Aa o rfl) λo=>dr 6 u o rfl (Aa o rfl) λo=>dr 7 u o rfl (eI o Eh sizeOf52 rfl rfl J0 C0) λo=>dr 8 u o rfl (Ad o Ha rfl) λo=>dq 9 u.ld o rfl (λw hl=>eD o isAgg3 rfl hl (E0 0 _ rfl)) λo=>dr 10 u o rfl (Bg o rfl rfl) λo=>dr 11 u o rfl (As (Aa o rfl) (congrArg Value.bool K0)) λo=>dg 12 u.ld o rfl (λw hl=>Aa o rfl) λo=>dg 13 u.ld o rfl (λw hl=>Aa o rfl) λo=>dg 14 u.ld o rfl (λw hl=>eI o Eh sizeOf52 rfl rfl I0 F0) λo=>dg 15 u.ld o rfl (λw hl=>Ad o Gy rfl) λo=>dg 16 u.ld o rfl (λw hl=>eD o isAgg3 rfl hl (D0 1 _ rfl)) λo=>dg 17 u.ld o rfl (λw hl=>Aa o rfl) λo=>dg 18 u.ld o rfl (λw hl=>Aa o rfl) λo=>dg 19 u.ld o rfl (λw hl=>eI o Eh sizeOf52 rfl rfl J0 C0) λo=>dg 20 u.ld o rfl (λw hl=>Ad o Gy rfl) λo=>dg 21 u.ld o rfl (λw hl=>eD o isAgg3 rfl hl (E0 1 _ rfl)) λo=>dg 22 u.ld o rfl (λw hl=>Bg o rfl rfl) λo=>dr 23 u o rfl (Ac o rfl rfl) λo=>dr 24 u o rfl (As (Aa o rfl) (congrArg Value.bool Q0)) λo=>dg 25 u.ld o rfl (λw hl=>Aa o rfl) λo=>dg 26 u.ld o rfl (λw hl=>Aa o rfl) λo=>dg 27 u.ld o rfl (λw hl=>eI o Eh sizeOf52 rfl rfl I0 F0) λo=>dg 28 u.ld o rfl (λw hl=>Ad o Ml rfl) λo=>dg 29 u.ld o rfl (λw hl=>eD o isAgg3 rfl hl (D0 2 _ rfl)) λo=>?_
 refine dg 30 u.ld o rfl (λw hl=>Aa o rfl) λo=>dg 31 u.ld o rfl (λw hl=>Aa o rfl) λo=>dg 32 u.ld o rfl (λw hl=>eI o Eh sizeOf52 rfl rfl J0 C0) λo=>dg 33 u.ld o rfl (λw hl=>Ad o Ml rfl) λo=>dg 34 u.ld o rfl (λw hl=>eD o isAgg3 rfl hl (E0 2 _ rfl)) λo=>dg 35 u.ld o rfl (λw hl=>Bg o rfl rfl) λo=>dr 36 u o rfl (Ac o rfl rfl) λo=>dr 37 u o rfl (As (Aa o rfl) (congrArg Value.bool T0)) λo=>dg 38 u.ld o rfl (λw hl=>Aa o rfl) λo=>dg 39 u.ld o rfl (λw hl=>Aa o rfl) λo=>dg 40 u.ld o rfl (λw hl=>eI o Eh sizeOf52 rfl rfl I0 F0) λo=>dg 41 u.ld o rfl (λw hl=>Ad o Yn rfl) λo=>dg 42 u.ld o rfl (λw hl=>eD o isAgg28 rfl hl (D0 3 _ rfl)) λo=>dg 43 u.ld o rfl (λw hl=>Aa o rfl) λo=>dg 44 u.ld o rfl (λw hl=>Aa o rfl) λo=>dg 45 u.ld o rfl (λw hl=>eI o Eh sizeOf52 rfl rfl J0 C0) λo=>dg 46 u.ld o rfl (λw hl=>Ad o Yn rfl) λo=>dg 47 u.ld o rfl (λw hl=>eD o isAgg28 rfl hl (E0 3 _ rfl)) λo=>dz 48 rfl<|gy o rfl rfl<|cr o call14 (Jew (Ag _) Y0 (St.srH u j0) n0 (St.srH u C1) I1) u λu o=>⟨λ_=>u.ld,?_⟩
 refine dg 49 u.ld o rfl (λw hl=>Bi o rfl) λo=>dr 50 u o rfl (Ac o rfl rfl) λo=>dE<|tn<|?_
 exact ⟨(!F1),hm,o.hs,u⟩
 rintro a w ⟨W0,hm,o,u⟩
 unfold Z7n at hm
 rcases bit hm with ⟨U0,hm⟩ | ⟨U0,hm⟩
 refine ctv o rfl U0<|th<|rg<|qa o rfl λo=>re<|tn<|wr<|br<|tr<|tr<|br<|tr<|?_
 obtain rfl:=si hm
 exact r1 o results12 rfl ⟨rfl,u.keep⟩
 refine cfv o rfl U0<|wk<|bn<|tn<|rg<|qm o rfl λo=>qv o (Ao o rfl rfl) λo=>qa o rfl λo=>re<|tn<|?_
 exact ⟨(M0,(i64.wrap (O0+1))),⟨hm,o.hs,u⟩,kxd _⟩
 refine tn<|cfv o rfl S0<|we<|tx<|tx<|bx<|tn<|?_
 exact ⟨hm,o.has trivial,u⟩
 rintro a w ⟨hm,o,u⟩
 unfold Z7m at hm
 refine th<|rg<|qa o rfl λo=>re<|tn<|wr<|?_
 obtain rfl:=si hm
 exact r1 o results12 rfl ⟨rfl,u.keep⟩
theorem Jga (hH:H.le w0) {O0:Option Addr} {F0:Nat} {p1:(List Int)} (W2:p1.length≤F0) (C0:SR H O0 p1) {p6:Int} {P0:Option Addr} {I0:Nat} {p7:(List Int)} (E2:p7.length≤I0) (J1:SR H P0 p7) {r:((Option leadlineref11_Mem)×Int)} (hm:Z6z N p1 p6 p7=some r):Tot Tryz.prog 33 #[SL O0 p1 F0,i6 p6,SL P0 p7 I0] w0 (λv w'=>∃ (vm0:Value) (A0:HA),v=.tuple #[vm0,i6 r.2]∧Jfy vm0 A0 r.1∧Fresh w0 (A0) w'):=by
 unfold Z6z at hm
 refine fn0 func33 rfl ntmps33 rfl rfl λa o=>?_
 have u:St w0 Nil [H] [] w0:=start1 hH
 refine th<|rg<|qa o rfl λo=>qa o rfl λo=>re<|tn<|th<|th<|rg<|qm o rfl λo=>qv o (Aj (α:=Int) (xs:=p1) o Bn rfl) λo=>qm o rfl λo=>qv o (Aj (α:=Int) (xs:=p7) o Bn rfl) λo=>qv o (Bg o rfl rfl) λo=>qm o rfl λo=>gr (Fk:=[(0,SL O0 p1 F0),(1,i6 p6),(2,SL P0 p7 I0),(19,.bool ((decide ((p1.length:Int)≠(p7.length:Int))) || (decide (20 < (p1.length:Int)))))]) 15 4 o u ?_ ?_ ?_
 intro hb o key
 iterate 3 refine qn o λo=>?_
 exact qk o (Ab o rfl rfl) key u hb
 intro hb o key
 exact qg o (Aa o rfl) λo=>qg o (Aj (α:=Int) (xs:=p1) o Bn rfl) λo=>qg o (Ba o rfl rfl) λo=>qk o (Ac o rfl rfl) key u hb
 intro a w o u
 refine qm o rfl λo=>gr (Fk:=[(0,SL O0 p1 F0),(1,i6 p6),(2,SL P0 p7 I0),(23,.bool (((decide ((p1.length:Int)≠(p7.length:Int))) || (decide (20 < (p1.length:Int)))) || (decide (p6 < 0))))]) 20 3 o u ?_ ?_ ?_
 intro hb o key
 iterate 2 refine qn o λo=>?_
 exact qk o (Ab o rfl rfl) key u hb
 intro hb o key
 exact qg o (Aa o rfl) λo=>qg o (Am o rfl rfl) λo=>qk o (Ac o rfl rfl) key u hb
 intro a w o u
 refine qm o rfl λo=>gr (Fk:=[(0,SL O0 p1 F0),(1,i6 p6),(2,SL P0 p7 I0),(29,.bool ((((decide ((p1.length:Int)≠(p7.length:Int))) || (decide (20 < (p1.length:Int)))) || (decide (p6 < 0))) || (decide ((p1.length:Int) < p6))))]) 24 5 o u ?_ ?_ ?_
 intro hb o key
 iterate 4 refine qn o λo=>?_
 exact qk o (Ab o rfl rfl) key u hb
 intro hb o key
 iterate 2 refine qg o (Aa o rfl) λo=>?_
 exact qg o (Aj (α:=Int) (xs:=p1) o Bn rfl) λo=>qg o (Ba o rfl rfl) λo=>qk o (Ac o rfl rfl) key u hb
 intro a w o u
 refine re<|?_
 rcases bit hm with ⟨O1,hm⟩ | ⟨O1,hm⟩
 refine tn<|ctv o rfl O1<|th<|rg<|qa o rfl λo=>qa o rfl λo=>re<|tn<|wr<|tr<|?_
 replace u:=St.ds0 u
 obtain rfl:=si hm
 exact r2 o results33 rfl rfl ⟨(.pointer none),(sepA []),rfl,(.inl ⟨rfl,rfl,rfl⟩),u.endFresh t0⟩
 refine tn<|cfv o rfl O1<|wk<|tn<|th<|th<|rg<|qa o rfl λo=>re<|tn<|Av (λa w=>(Z70 p1 p6 p7)=some r∧Fr 97 [(0,SL O0 p1 F0),(1,i6 p6),(2,SL P0 p7 I0)] a∧St w0 Nil [H] [] w) ?_ ?_
 refine wb<|lp (α:=Nat×Int) (λgh a w=>match gh with | (D1,Y0)=>(Z72 N (Z70 p1 p6 p7) p1 p6) D1 Y0=some r∧Fr 97 [(0,SL O0 p1 F0),(1,i6 p6),(2,SL P0 p7 I0),(8,i6 Y0)] a∧St w0 Nil [H] [] w) (λgh=>gh.1) (N,0) ⟨hm,o.hs,u⟩ ?_
 rintro ⟨D1,Y0⟩ a w ⟨hm,o,u⟩
 obtain _ | D1:=D1
 simp [Z72] at hm
 rw [Z72] at hm
 refine th<|th<|rg<|qm o rfl λo=>qm o rfl λo=>qv o (Am o rfl rfl) λo=>re<|?_
 rcases bip hm with ⟨P1,hm⟩ | ⟨P1,hm⟩
 refine tn<|ctv o rfl P1<|wk<|tn<|th<|wb<|th<|Av (λa w=>∃ (F2:Bool),(Z71 (Z72 N (Z70 p1 p6 p7) p1 p6 D1) Y0) F2=some r∧Fr 97 [(0,SL O0 p1 F0),(1,i6 p6),(2,SL P0 p7 I0),(8,i6 Y0),(71,.bool F2)] a∧St w0 Nil [H] [] w) ?_ ?_
 rcases bip hm with ⟨W0,hm⟩ | ⟨W0,hm⟩
 obtain ⟨M3,Y1,hm⟩:=bs hm
 obtain ⟨O3,P3,Q1⟩:=SR.get C0 Y1
 obtain rfl:O3=[i6 M3]:=P3
 rcases bip hm with ⟨E1,hm⟩ | ⟨E1,hm⟩
 refine rxS 37 u wide (by kernel_rfl) λw u=>xm u o rfl λo=>xr u o (Ah o rfl rfl) λo=>xr u o (As (Aa o rfl) (congrArg Value.bool W0)) λo=>xg u.ld o (λw hl=>Aa o rfl) λo=>xg u.ld o (λw hl=>eI o Bn sizeOf3 rfl rfl Y1 C0) λo=>xg u.ld o (λw hl=>eD o isAgg3 rfl hl (Q1 0 _ rfl)) λo=>xg u.ld o (λw hl=>Bg o rfl rfl) λo=>xr u o (Ab o rfl rfl) λo=>xr u o (As (Aa o rfl) (congrArg Value.bool E1)) λo=>?_
 iterate 3 refine xn u.ld o λo=>?_
 iterate 10 refine x1u u.ld o rfl rfl rfl rfl (λ_ _ _ h=>h) λa o=>?_
 iterate 2 refine xn u.ld o λo=>?_
 iterate 11 refine x1u u.ld o rfl rfl rfl rfl (λ_ _ _ h=>h) λa o=>?_
 refine xn u.ld o λo=>xr u o (Ab o rfl rfl) λo=>xe<|tn<|?_
 exact ⟨true,hm,o.hs,u⟩
 rcases bip hm with ⟨R1,hm⟩ | ⟨R1,hm⟩
 obtain ⟨Q0,I2,hm⟩:=bs hm
 obtain ⟨Q3,R3,J2⟩:=SR.get C0 I2
 obtain rfl:Q3=[i6 Q0]:=R3
 obtain ⟨R0,K2,hm⟩:=bs hm
 obtain ⟨S3,T3,O2⟩:=SR.get C0 K2
 obtain rfl:S3=[i6 R0]:=T3
 refine rxS 37 u wide (by kernel_rfl) λw u=>xm u o rfl λo=>xr u o (Ah o rfl rfl) λo=>xr u o (As (Aa o rfl) (congrArg Value.bool W0)) λo=>xg u.ld o (λw hl=>Aa o rfl) λo=>xg u.ld o (λw hl=>eI o Bn sizeOf3 rfl rfl Y1 C0) λo=>xg u.ld o (λw hl=>eD o isAgg3 rfl hl (Q1 0 _ rfl)) λo=>xg u.ld o (λw hl=>Bg o rfl rfl) λo=>xr u o (Ab o rfl rfl) λo=>xr u o (As (Aa o rfl) (congrArg Value.bool E1)) λo=>xg u.ld o (λw hl=>Aa o rfl) λo=>xg u.ld o (λw hl=>Ba o rfl rfl) λo=>xg u.ld o (λw hl=>As (Aa o rfl) (congrArg Value.bool R1)) λo=>?_
 iterate 2 refine xg u.ld o (λw hl=>Aa o rfl) λo=>?_
 refine xg u.ld o (λw hl=>eI o Bn sizeOf3 rfl rfl I2 C0) λo=>xg u.ld o (λw hl=>eD o isAgg3 rfl hl (J2 0 _ rfl)) λo=>?_
 iterate 2 refine xg u.ld o (λw hl=>Aa o rfl) λo=>?_
 refine xg u.ld o (λw hl=>Dr o rfl rfl) λo=>xg u.ld o (λw hl=>eI o Bn sizeOf3 rfl rfl K2 C0) λo=>xg u.ld o (λw hl=>eD o isAgg3 rfl hl (O2 0 _ rfl)) λo=>xg u.ld o (λw hl=>Bg o rfl rfl) λo=>xg u.ld o (λw hl=>Ab o rfl rfl) λo=>xg u.ld o (λw hl=>Aa o rfl) λo=>JbH (N:=97) (Fk:=[(0,SL O0 p1 F0),(1,i6 p6),(2,SL P0 p7 I0),(8,i6 Y0),(43,.bool false),(70,.bool ((decide (Q0≠R0)) && (decide (Q0≠(i64.wrap (R0+1))))))]) (b:=(decide (Q0≠R0))) 12 u ?_ ?_ ?_
 intro hb key
 replace o:=Fr.as o (t:=58) rfl (congrArg Value.bool hb)
 iterate 2 refine xg u.ld o (λw hl=>Aa o rfl) λo=>?_
 refine xg u.ld o (λw hl=>eI o Bn sizeOf3 rfl rfl I2 C0) λo=>xg u.ld o (λw hl=>eD o isAgg3 rfl hl (J2 0 _ rfl)) λo=>?_
 iterate 2 refine xg u.ld o (λw hl=>Aa o rfl) λo=>?_
 refine xg u.ld o (λw hl=>Dr o rfl rfl) λo=>xg u.ld o (λw hl=>eI o Bn sizeOf3 rfl rfl K2 C0) λo=>xg u.ld o (λw hl=>eD o isAgg3 rfl hl (O2 0 _ rfl)) λo=>xg u.ld o (λw hl=>Ao o rfl rfl) λo=>xg u.ld o (λw hl=>Bg o rfl rfl) λo=>xg u.ld o (λw hl=>As (v':=.bool ((decide (Q0≠R0)) && (decide (Q0≠(i64.wrap (R0+1)))))) (Ab o rfl rfl) (by rw [hb];rfl)) λo=>?_
 exact key _ _ (o.hs) u
 intro hb key
 replace o:=Fr.as o (t:=58) rfl (congrArg Value.bool hb)
 iterate 11 refine xn u.ld o λo=>?_
 refine xg u.ld o (λw hl=>As (v':=.bool ((decide (Q0≠R0)) && (decide (Q0≠(i64.wrap (R0+1)))))) (Ac o rfl rfl) (by rw [hb];rfl)) λo=>?_
 exact key _ _ (o.hs) u
 intro a w o u
 refine xr u o (Ac o rfl rfl) λo=>xe<|tn<|?_
 exact ⟨((decide (Q0≠R0)) && (decide (Q0≠(i64.wrap (R0+1))))),hm,o.hs,u⟩
 refine rxS 37 u wide (by kernel_rfl) λw u=>xm u o rfl λo=>xr u o (Ah o rfl rfl) λo=>xr u o (As (Aa o rfl) (congrArg Value.bool W0)) λo=>xg u.ld o (λw hl=>Aa o rfl) λo=>xg u.ld o (λw hl=>eI o Bn sizeOf3 rfl rfl Y1 C0) λo=>xg u.ld o (λw hl=>eD o isAgg3 rfl hl (Q1 0 _ rfl)) λo=>xg u.ld o (λw hl=>Bg o rfl rfl) λo=>xr u o (Ab o rfl rfl) λo=>xr u o (As (Aa o rfl) (congrArg Value.bool E1)) λo=>xg u.ld o (λw hl=>Aa o rfl) λo=>xg u.ld o (λw hl=>Ba o rfl rfl) λo=>xg u.ld o (λw hl=>As (Aa o rfl) (congrArg Value.bool R1)) λo=>?_
 iterate 10 refine xn u.ld o λo=>?_
 refine xg u.ld o (λw hl=>Ac o rfl rfl) λo=>xg u.ld o (λw hl=>Aa o rfl) λo=>?_
 iterate 11 refine xn u.ld o λo=>?_
 refine xg u.ld o (λw hl=>Ac o rfl rfl) λo=>xr u o (Ac o rfl rfl) λo=>xe<|tn<|?_
 exact ⟨false,hm,o.hs,u⟩
 rcases bip hm with ⟨S1,hm⟩ | ⟨S1,hm⟩
 obtain ⟨S0,P2,hm⟩:=bs hm
 obtain ⟨U3,V3,R2⟩:=SR.get C0 P2
 obtain rfl:U3=[i6 S0]:=V3
 obtain ⟨T0,T2,hm⟩:=bs hm
 obtain ⟨W3,X3,U2⟩:=SR.get C0 T2
 obtain rfl:W3=[i6 T0]:=X3
 refine rxS 37 u wide (by kernel_rfl) λw u=>xm u o rfl λo=>xr u o (Ah o rfl rfl) λo=>xr u o (As (Aa o rfl) (congrArg Value.bool W0)) λo=>?_
 iterate 4 refine xn u.ld o λo=>?_
 refine xr u o (Ac o rfl rfl) λo=>xm u o rfl λo=>xg u.ld o (λw hl=>Aa o rfl) λo=>xg u.ld o (λw hl=>Ba o rfl rfl) λo=>xg u.ld o (λw hl=>As (Aa o rfl) (congrArg Value.bool S1)) λo=>?_
 iterate 2 refine xg u.ld o (λw hl=>Aa o rfl) λo=>?_
 refine xg u.ld o (λw hl=>eI o Bn sizeOf3 rfl rfl P2 C0) λo=>xg u.ld o (λw hl=>eD o isAgg3 rfl hl (R2 0 _ rfl)) λo=>?_
 iterate 2 refine xg u.ld o (λw hl=>Aa o rfl) λo=>?_
 refine xg u.ld o (λw hl=>Dr o rfl rfl) λo=>xg u.ld o (λw hl=>eI o Bn sizeOf3 rfl rfl T2 C0) λo=>xg u.ld o (λw hl=>eD o isAgg3 rfl hl (U2 0 _ rfl)) λo=>xg u.ld o (λw hl=>Bg o rfl rfl) λo=>xg u.ld o (λw hl=>Ab o rfl rfl) λo=>xg u.ld o (λw hl=>Aa o rfl) λo=>JbH (N:=97) (Fk:=[(0,SL O0 p1 F0),(1,i6 p6),(2,SL P0 p7 I0),(8,i6 Y0),(43,.bool false),(70,.bool ((decide (S0≠T0)) && (decide (S0≠(i64.wrap (T0+1))))))]) (b:=(decide (S0≠T0))) 12 u ?_ ?_ ?_
 intro hb key
 replace o:=Fr.as o (t:=58) rfl (congrArg Value.bool hb)
 iterate 2 refine xg u.ld o (λw hl=>Aa o rfl) λo=>?_
 refine xg u.ld o (λw hl=>eI o Bn sizeOf3 rfl rfl P2 C0) λo=>xg u.ld o (λw hl=>eD o isAgg3 rfl hl (R2 0 _ rfl)) λo=>?_
 iterate 2 refine xg u.ld o (λw hl=>Aa o rfl) λo=>?_
 refine xg u.ld o (λw hl=>Dr o rfl rfl) λo=>xg u.ld o (λw hl=>eI o Bn sizeOf3 rfl rfl T2 C0) λo=>xg u.ld o (λw hl=>eD o isAgg3 rfl hl (U2 0 _ rfl)) λo=>xg u.ld o (λw hl=>Ao o rfl rfl) λo=>xg u.ld o (λw hl=>Bg o rfl rfl) λo=>xg u.ld o (λw hl=>As (v':=.bool ((decide (S0≠T0)) && (decide (S0≠(i64.wrap (T0+1)))))) (Ab o rfl rfl) (by rw [hb];rfl)) λo=>?_
 exact key _ _ (o.hs) u
 intro hb key
 replace o:=Fr.as o (t:=58) rfl (congrArg Value.bool hb)
 iterate 11 refine xn u.ld o λo=>?_
 refine xg u.ld o (λw hl=>As (v':=.bool ((decide (S0≠T0)) && (decide (S0≠(i64.wrap (T0+1)))))) (Ac o rfl rfl) (by rw [hb];rfl)) λo=>?_
 exact key _ _ (o.hs) u
 intro a w o u
 refine xr u o (Ac o rfl rfl) λo=>xe<|tn<|?_
 exact ⟨((decide (S0≠T0)) && (decide (S0≠(i64.wrap (T0+1))))),hm,o.hs,u⟩
 refine rxS 37 u wide (by kernel_rfl) λw u=>xm u o rfl λo=>xr u o (Ah o rfl rfl) λo=>xr u o (As (Aa o rfl) (congrArg Value.bool W0)) λo=>?_
 iterate 4 refine xn u.ld o λo=>?_
 refine xr u o (Ac o rfl rfl) λo=>xm u o rfl λo=>xg u.ld o (λw hl=>Aa o rfl) λo=>xg u.ld o (λw hl=>Ba o rfl rfl) λo=>xg u.ld o (λw hl=>As (Aa o rfl) (congrArg Value.bool S1)) λo=>?_
 iterate 10 refine xn u.ld o λo=>?_
 refine xg u.ld o (λw hl=>Ac o rfl rfl) λo=>xg u.ld o (λw hl=>Aa o rfl) λo=>?_
 iterate 11 refine xn u.ld o λo=>?_
 refine xg u.ld o (λw hl=>Ac o rfl rfl) λo=>xr u o (Ac o rfl rfl) λo=>xe<|tn<|?_
 exact ⟨false,hm,o.hs,u⟩
 rintro a w ⟨F2,hm,o,u⟩
 unfold Z71 at hm
 rcases bit hm with ⟨T1,hm⟩ | ⟨T1,hm⟩
 refine ctv o rfl T1<|th<|rg<|qa o rfl λo=>qa o rfl λo=>re<|tn<|wr<|br<|tr<|tr<|br<|tr<|?_
 replace u:=St.ds0 u
 obtain rfl:=si hm
 exact r2 o results33 rfl rfl ⟨(.pointer none),(sepA []),rfl,(.inl ⟨rfl,rfl,rfl⟩),u.endFresh t0⟩
 refine cfv o rfl T1<|wk<|bn<|tn<|rg<|qm o rfl λo=>qv o (Ao o rfl rfl) λo=>qa o rfl λo=>re<|tn<|?_
 exact ⟨(D1,(i64.wrap (Y0+1))),⟨hm,o.hs,u⟩,kxd _⟩
 refine tn<|cfv o rfl P1<|we<|tx<|tx<|bx<|tn<|?_
 exact ⟨hm,o.hs,u⟩
 rintro a w ⟨hm,o,u⟩
 unfold Z70 at hm
 refine th<|?_
 obtain ⟨Y3,X2,hm⟩:=bs hm
 obtain ⟨I4,E4,e51,e52,J4,A3⟩:=SR.sub (sz:=1) C0 W2 rfl X2
 obtain ⟨j0,A4,hm⟩:=bs hm
 obtain ⟨n0,B4,hm⟩:=bs hm
 refine rg<|ls<|bz (e:=3) (sz:=1) [] o u λM4 u o=>?_
 have B3:Rows (α:=Int) H [] []:=.nil
 iterate 2 refine qm o rfl λo=>?_
 refine qv o (Dc (xs:=p1) (vl:=0) (vh:=p6) o Bn sizeOf3 rfl W2 rfl rfl X2 e51 e52) λo=>?_
 obtain ⟨us61,hd62,hu63⟩:=id A3
 refine ls<|Ay (α:=Int) (xs:=[]) (ys:=Y3) o rfl u underlying28 Bs rfl (by decide) rfl rfl rfl t0 B3 (u.rdH t0 hd62) hu63 A4 λJ0 D0 U1 w a C3 hU o=>?_
 replace u:=hU _ .head
 refine ls<|bz (e:=3) (sz:=1) [] o u λO4 u o=>?_
 have D3:Rows (α:=Int) H [] []:=.nil
 refine qm o rfl λo=>?_
 obtain ⟨us73,hd74,hu75⟩:=id J1
 refine ls<|Ay (α:=Int) (xs:=[]) (ys:=p7) o rfl u underlying28 Bs rfl (by decide) rfl rfl rfl t0 D3 (u.rdH t0 hd74) hu75 B4 λK0 E0 V1 w a E3 hU o=>?_
 replace u:=hU _ .head
 refine qv o (bL [SL J0 j0 D0,SL K0 n0 E0] [SL J0 j0 D0,SL K0 n0 E0,.slice none 0 0,.slice none 0 0,.slice none 0 0] o) λo=>ls<|Bo (cs:=[SL J0 j0 D0,SL K0 n0 E0,.slice none 0 0,.slice none 0 0,.slice none 0 0].toArray) o rfl u rfl rfl λu1 w a u o=>qa o rfl λo=>re<|tn<|th<|?_
 obtain ⟨C2,C4,hm⟩:=bs hm
 refine rg<|qm o rfl λo=>ls<|bz (e:=3) (sz:=1) [] o u λP4 u o=>?_
 have F3:Rows (α:=Int) H [] []:=.nil
 refine qm o rfl λo=>?_
 obtain ⟨us86,hd87,hu88⟩:=id J1
 refine ls<|Ay (α:=Int) (xs:=[]) (ys:=p7) o rfl u underlying28 Bs rfl (by decide) rfl rfl rfl t0 F3 (u.rdH t0 hd87) hu88 C4 λC1 U0 X1 w a I3 hU o=>?_
 replace u:=hU _ .head
 refine qv o (Af o rfl) λo=>qf o Ks rfl λo=>ls<|Bl o u sizeOf28 rfl rfl rfl rfl (.tail .head) (.succ (.succ .zero)) λw u=>re<|tn<|th<|?_
 obtain ⟨D4,Y2,hm⟩:=bs hm
 obtain ⟨K4,F4,e96,e97,L4,J3⟩:=SR.sub (sz:=1) J1 E2 rfl Y2
 obtain ⟨F1,K3,hm⟩:=bs hm
 refine rg<|qm o rfl λo=>ls<|bz (e:=3) (sz:=1) [] o u λQ4 u o=>?_
 have L3:Rows (α:=Int) H [] []:=.nil
 iterate 2 refine qm o rfl λo=>?_
 refine qv o (Dc (xs:=p7) (vl:=0) (vh:=p6) o Bn sizeOf3 rfl E2 rfl rfl Y2 e96 e97) λo=>?_
 obtain ⟨us106,hd107,hu108⟩:=id J3
 refine ls<|Ay (α:=Int) (xs:=[]) (ys:=D4) o rfl u underlying28 Bs rfl (by decide) rfl rfl rfl t0 L3 (u.rdH t0 hd107) hu108 K3 λV0 M0 I1 w a V2 hU o=>?_
 replace u:=hU _ .head
 refine qv o (Af o rfl) λo=>qf o Qn rfl λo=>ls<|Bl o u sizeOf28 rfl rfl rfl rfl (.tail (.tail .head)) (.succ (.succ (.succ .zero))) λw u=>re<|tn<|th<|rg<|qm o rfl λo=>?_
 iterate 2 refine qa o rfl λo=>?_
 refine re<|tn<|wr<|?_
 replace u:=u.nilS 123 3
 replace u:=St.sep [bk u1 [SL J0 j0 D0,SL K0 n0 E0,SL C1 C2 U0,SL V0 F1 M0,.slice none 0 0] 62,sla 3 1 J0 j0.length D0 U1,sla 3 1 K0 n0.length E0 V1,sla 3 1 C1 C2.length U0 X1,sla 3 1 V0 F1.length M0 I1,sla 123 3 none 0 0 []] (u.pk [3,4,3,2,1,0] rfl)
 obtain rfl:=si hm
 exact r2 o results33 rfl rfl ⟨(PT u1),(sepA [bk u1 [SL J0 j0 D0,SL K0 n0 E0,SL C1 C2 U0,SL V0 F1 M0,.slice none 0 0] 62,sla 3 1 J0 j0.length D0 U1,sla 3 1 K0 n0.length E0 V1,sla 3 1 C1 C2.length U0 X1,sla 3 1 V0 F1.length M0 I1,sla 123 3 none 0 0 []]),rfl,(.inr ⟨u1,J0,D0,U1,K0,E0,V1,C1,U0,X1,V0,M0,I1,none,0,[],_,rfl,rfl,rfl,(λ_=>Rows.ind C3),(λ_=>Rows.ind E3),(λ_=>Rows.ind I3),(λ_=>Rows.ind V2),(λ_=>.nil)⟩),u.endFresh t0⟩
theorem JgB (hH:H.le w0) {p1:Int} {r:((Option leadlineref12_Buffer)×Int)} (hm:Z7i N p1=some r):Tot Tryz.prog 32 #[i6 p1] w0 (λv w'=>∃ (vm0:Value) (A0:HA),v=.tuple #[vm0,i6 r.2]∧JaP vm0 A0 r.1∧Fresh w0 (A0) w'):=by
 unfold Z7i at hm
 refine fn0 func32 rfl ntmps32 rfl rfl λa o=>?_
 have u:St w0 Nil [H] [] w0:=start1 hH
 refine th<|rg<|qa o rfl λo=>qa o rfl λo=>re<|tn<|th<|th<|rg<|qm o rfl λo=>qv o (Am o rfl rfl) λo=>qm o rfl λo=>gr (Fk:=[(0,i6 p1),(9,.bool ((decide (p1 < 1)) || (decide (16 < p1))))]) 6 3 o u ?_ ?_ ?_
 intro hb o key
 iterate 2 refine qn o λo=>?_
 exact qk o (Ab o rfl rfl) key u hb
 intro hb o key
 exact qg o (Aa o rfl) λo=>qg o (Ba o rfl rfl) λo=>qk o (Ac o rfl rfl) key u hb
 intro a w o u
 refine re<|?_
 rcases bit hm with ⟨C0,hm⟩ | ⟨C0,hm⟩
 refine tn<|ctv o rfl C0<|th<|rg<|qa o rfl λo=>qa o rfl λo=>re<|tn<|wr<|tr<|?_
 replace u:=St.ds0 u
 obtain rfl:=si hm
 exact r2 o results32 rfl rfl ⟨(.pointer none),(sepA []),rfl,(.inl ⟨rfl,rfl,rfl⟩),u.endFresh t0⟩
 refine tn<|cfv o rfl C0<|wk<|tn<|th<|rg<|qm o rfl λo=>qv o (bL [i6 p1] [i6 p1,.slice none 0 0] o) λo=>ls<|Bo (cs:=[i6 p1,.slice none 0 0].toArray) o rfl u rfl rfl λb3 w a u o=>?_
 iterate 2 refine qa o rfl λo=>?_
 refine re<|tn<|wr<|?_
 replace u:=u.nilS 159 4
 replace u:=St.sep [bk b3 [i6 p1,.slice none 0 0] 120,sla 159 4 none 0 0 []] (u.pk [1,0] rfl)
 obtain rfl:=si hm
 exact r2 o results32 rfl rfl ⟨(PT b3),(sepA [bk b3 [i6 p1,.slice none 0 0] 120,sla 159 4 none 0 0 []]),rfl,(.inr ⟨b3,none,0,[],_,rfl,rfl,rfl,(λ_=>.nil)⟩),u.endFresh t0⟩
theorem JfN (hH:H.le w0) {b2:Nat} {p1:leadlineref11_Mem} {oa3:Option Addr} {cap4:Nat} (F1:p1.Of.length≤cap4) (Q0:SR H oa3 p1.Of) {oa7:Option Addr} {cap8:Nat} (I1:p1.Firsts.length≤cap8) (W0:SR H oa7 p1.Firsts) {oa11:Option Addr} {cap12:Nat} {vs13:List Value} (S0:Rows H vs13 p1.L) {oa16:Option Addr} {cap17:Nat} {vs18:List Value} (Y0:Rows H vs18 p1.K) {oa21:Option Addr} {cap22:Nat} {vs23:List Value} (F0:Rows H vs23 p1.W) {p26:Int} {p27:Int} (hO:(sepA [bk b2 (mmC oa3 cap4 oa7 cap8 oa11 cap12 oa16 cap17 oa21 cap22 p1) 62,sla 3 1 oa11 p1.L.length cap12 vs13,sla 3 1 oa16 p1.K.length cap17 vs18,sla 123 3 oa21 p1.W.length cap22 vs23]).ok (hp w0)) (hD:∀ b,(sepA [bk b2 (mmC oa3 cap4 oa7 cap8 oa11 cap12 oa16 cap17 oa21 cap22 p1) 62,sla 3 1 oa11 p1.L.length cap12 vs13,sla 3 1 oa16 p1.K.length cap17 vs18,sla 123 3 oa21 p1.W.length cap22 vs23]).fp b→H b=none) {r:(Int×leadlineref11_Mem)} (hm:Z6x N p1 p26 p27=some r):Tot Tryz.prog 74 #[PT b2,i6 p26,i6 p27] w0 (λv w'=>∃ (oa1m:Option Addr) (cap1m:Nat) (oa2m:Option Addr) (cap2m:Nat) (oa3m:Option Addr) (cap3m:Nat) (vs3m:List Value) (oa4m:Option Addr) (cap4m:Nat) (vs4m:List Value) (oa5m:Option Addr) (cap5m:Nat) (vs5m:List Value),v=i6 r.1∧r.2.Of.length≤cap1m∧SR H oa1m r.2.Of∧r.2.Firsts.length≤cap2m∧SR H oa2m r.2.Firsts∧(∀ h,Rows h vs3m r.2.L)∧(∀ h,Rows h vs4m r.2.K)∧(∀ h,Rows h vs5m r.2.W)∧Mut w0 (sepA [bk b2 (mmC oa3 cap4 oa7 cap8 oa11 cap12 oa16 cap17 oa21 cap22 p1) 62,sla 3 1 oa11 p1.L.length cap12 vs13,sla 3 1 oa16 p1.K.length cap17 vs18,sla 123 3 oa21 p1.W.length cap22 vs23]) (sepA [bk b2 (mmC oa1m cap1m oa2m cap2m oa3m cap3m oa4m cap4m oa5m cap5m r.2) 62,sla 3 1 oa3m r.2.L.length cap3m vs3m,sla 3 1 oa4m r.2.K.length cap4m vs4m,sla 123 3 oa5m r.2.W.length cap5m vs5m]) w'):=by
 unfold Z6x at hm
 refine fn0 func74 rfl ntmps74 rfl rfl λa o=>?_
 have u:=Gg hH hO hD
 refine th<|rg<|qa o rfl λo=>re<|tn<|th<|th<|rg<|qm o rfl λo=>qv o (Am o rfl rfl) λo=>qm o rfl λo=>gr (Fk:=[(0,PT b2),(1,i6 p26),(2,i6 p27),(17,.bool ((decide (p26 < 0)) || (decide ((p1.L.length:Int)≤p26))))]) 9 8 o u ?_ ?_ ?_
 intro hb o key
 iterate 7 refine qn o λo=>?_
 exact qk o (Ab o rfl rfl) key u hb
 intro hb o key
 iterate 2 refine qg o (Aa o rfl) λo=>?_
 exact qg o (Af o rfl) λo=>qg o (Ad o Ks rfl) λo=>qg o (eB o isAgg28 rfl u.ld t0 rfl) λo=>qg o (Aj (α:=Int) (xs:=p1.L) o Bn rfl) λo=>qg o (Bw o rfl rfl) λo=>qk o (Ac o rfl rfl) key u hb
 intro a w o u
 refine re<|?_
 rcases bit hm with ⟨T0,hm⟩ | ⟨T0,hm⟩
 refine tn<|ctv o rfl T0<|th<|rg<|qa o rfl λo=>re<|tn<|wr<|tr<|?_
 obtain rfl:=si hm
 exact r1 o results74 rfl ⟨oa3,cap4,oa7,cap8,oa11,cap12,vs13,oa16,cap17,vs18,oa21,cap22,vs23,rfl,F1,Q0,I1,W0,(λ_=>Rows.ind S0),(λ_=>Rows.ind Y0),(λ_=>Rows.ind F0),(u.pk [0,0,0,0] rfl).endMut⟩
 refine tn<|cfv o rfl T0<|wk<|tn<|th<|?_
 obtain ⟨V1,J1,hm⟩:=bs hm
 have Q1:=Rd.oaI (u.rdO t1) S0 (by decide) J1
 obtain ⟨V0,O1,hm⟩:=bs hm
 refine rg<|qm o rfl λo=>qv o (Af o rfl) λo=>qf o Ks rfl λo=>qB o isAgg28 rfl u t0 rfl λo=>?_
 iterate 2 refine qm o rfl λo=>?_
 refine qv o (Co o Bn sizeOf3 rfl rfl J1 Q1) λo=>?_
 have hn36:=H8 O1
 refine ls<|P9 (α:=Int) o u sizeOf3 rfl rfl rfl rfl S0 rfl O1 t1 λj0 w R1 hU=>?_
 replace u:=hU _ (.tail .head)
 replace u:=St.eqL u (A':=bk b2 [SL oa3 p1.Of cap4,SL oa7 p1.Firsts cap8,SL oa11 V0 cap12,SL oa16 p1.K cap17,SL oa21 p1.W cap22] 62) .head (by simp only [SL,hn36])
 refine re<|tn<|th<|th<|rg<|qm o rfl λo=>qm o rfl λo=>qv o (Af o rfl) λo=>qf o Jt rfl λo=>qB o isAgg28 rfl u t0 rfl λo=>qv o (Aj (α:=Int) (xs:=p1.Of) o Bn rfl) λo=>qv o (Am o rfl rfl) λo=>re<|tn<|Av (λa w=>∃ (R0:(List leadlineref11_Put)) (O0:Option Addr) (E0:Nat) (P0:List Value),(Z6y p1 V0) R0=some r∧Fr 51 [(0,PT b2)] a∧St w0 (sepA [bk b2 (mmC oa3 cap4 oa7 cap8 oa11 cap12 oa16 cap17 oa21 cap22 p1) 62,sla 3 1 oa11 p1.L.length cap12 vs13,sla 3 1 oa16 p1.K.length cap17 vs18,sla 123 3 oa21 p1.W.length cap22 vs23]).fp [H] [sla 3 1 oa11 V0.length cap12 j0,sla 3 1 oa16 p1.K.length cap17 vs18,sla 123 3 O0 R0.length E0 P0,bk b2 [SL oa3 p1.Of cap4,SL oa7 p1.Firsts cap8,SL oa11 V0 cap12,SL oa16 p1.K cap17,SL O0 R0 E0] 62] w∧Rows H P0 R0) ?_ ?_
 rcases bip hm with ⟨U0,hm⟩ | ⟨U0,hm⟩
 refine ctv o rfl U0<|?_
 obtain ⟨C0,n0,hm⟩:=bs hm
 obtain ⟨T1,U1,C1⟩:=SR.get Q0 n0
 obtain rfl:T1=[i6 C0]:=U1
 obtain ⟨D1,E1,hm⟩:=bs hm
 refine rdL (Bh t1 (Bh t2 Ey)) 20 u wide λw u=>ds 0 (u.lx i2 [1,2] rfl) o rfl (Aa o rfl) λo=>ds 1 (u.lx i2 [1,2] rfl) o rfl (Aa o rfl) λo=>ds 2 (u.lx i2 [1,2] rfl) o rfl (Af o rfl) λo=>ds 3 (u.lx i2 [1,2] rfl) o rfl (Ad o Gh rfl) λo=>ds 5 (u.lx i2 [1,2] rfl) o rfl (Aa o rfl) λo=>ds 6 (u.lx i2 [1,2] rfl) o rfl (Af o rfl) λo=>ds 7 (u.lx i2 [1,2] rfl) o rfl (Ad o Jt rfl) λo=>ds 9 (u.lx i2 [1,2] rfl) o rfl (Aa o rfl) λo=>ds 12 (u.lx i2 [1,2] rfl) o rfl (Aa o rfl) λo=>ds 13 (u.lx i2 [1,2] rfl) o rfl (Aa o rfl) λo=>da2 (i:=4) (j:=8) (by kernel_rfl) ?_ ?_
 refine dI 4 rfl<|q1 o rfl (eB o isAgg60 rfl u.ld t0 rfl) λa o=>⟨λ_=>(u.lx i2 [1,2] rfl),?_⟩
 refine dz 8 rfl<|q1 o rfl (eB o isAgg28 rfl u.ld t0 rfl) λa o=>⟨λ_=>(u.lx i2 [1,2] rfl),?_⟩
 refine ds 10 (u.lx i2 [1,2] rfl) o rfl (eI o Bn sizeOf3 rfl rfl n0 Q0) λo=>dq 11 (u.lx i2 [1,2] rfl) o rfl (λw hl=>eD o isAgg3 rfl hl (C1 0 _ rfl)) λo=>dq 14 (u.lx i2 [1,2] rfl) o rfl (λw hl=>bL [i6 C0,i6 p26,i6 p27] [i6 C0,i6 p26,i6 p27] o) λo=>dz 15 rfl<|bz (e:=123) (sz:=3) [i6 C0,i6 p26,i6 p27] o u λP1 u o=>?_
 have I0:Rows (α:=leadlineref11_Put) H [i6 C0,i6 p26,i6 p27] ([(leadlineref11_Put.mk C0 p26 p27)]:List leadlineref11_Put):=(.cons (c:=[i6 C0,i6 p26,i6 p27]) ⟨_,_,rfl,rfl,⟨_,_,rfl,rfl,rfl⟩⟩ .nil)
 refine ⟨λ_=>(u.lx i2 [2,3] rfl),?_⟩
 refine dz 16 rfl<|Ay (α:=leadlineref11_Put) (xs:=p1.W) (ys:=([(leadlineref11_Put.mk C0 p26 p27)]:List leadlineref11_Put)) o rfl u underlying60 Nx rfl (by decide) rfl rfl rfl t4 F0 (u.rdO t0) I0 E1 λJ0 D0 K0 w a M0 hU o=>?_
 replace u:=hU _ (.tail (.tail (.tail (.tail .head))))
 replace u:=u.drop .head
 refine ⟨λ_=>(u.lx i2 [1,2] rfl),?_⟩
 refine ds 17 (u.lx i2 [1,2] rfl) o rfl (Af o rfl) λo=>ds 18 (u.lx i2 [1,2] rfl) o rfl (Ad o Gh rfl) λo=>dz 19 rfl<|Bl o u sizeOf60 rfl rfl rfl rfl .head (.succ (.succ (.succ (.succ .zero)))) λw u=>⟨λ_=>(u.lx i2 [1,2] rfl),?_⟩
 refine dE<|tn<|?_
 replace u:=u.pk [1,1,1,0] rfl
 exact ⟨D1,J0,D0,K0,hm,o.hs,u,M0⟩
 refine dI 8 rfl<|q1 o rfl (eB o isAgg28 rfl u.ld t0 rfl) λa o=>⟨λ_=>(u.lx i2 [1,2] rfl),?_⟩
 refine ds 10 (u.lx i2 [1,2] rfl) o rfl (eI o Bn sizeOf3 rfl rfl n0 Q0) λo=>dq 11 (u.lx i2 [1,2] rfl) o rfl (λw hl=>eD o isAgg3 rfl hl (C1 0 _ rfl)) λo=>dq 14 (u.lx i2 [1,2] rfl) o rfl (λw hl=>bL [i6 C0,i6 p26,i6 p27] [i6 C0,i6 p26,i6 p27] o) λo=>da2 (i:=4) (j:=15) (by kernel_rfl) ?_ ?_
 refine dI 4 rfl<|q1 o rfl (eB o isAgg60 rfl u.ld t0 rfl) λa o=>⟨λ_=>(u.lx i2 [1,2] rfl),?_⟩
 refine dz 15 rfl<|bz (e:=123) (sz:=3) [i6 C0,i6 p26,i6 p27] o u λP1 u o=>?_
 have I0:Rows (α:=leadlineref11_Put) H [i6 C0,i6 p26,i6 p27] ([(leadlineref11_Put.mk C0 p26 p27)]:List leadlineref11_Put):=(.cons (c:=[i6 C0,i6 p26,i6 p27]) ⟨_,_,rfl,rfl,⟨_,_,rfl,rfl,rfl⟩⟩ .nil)
 refine ⟨λ_=>(u.lx i2 [2,3] rfl),?_⟩
 refine dz 16 rfl<|Ay (α:=leadlineref11_Put) (xs:=p1.W) (ys:=([(leadlineref11_Put.mk C0 p26 p27)]:List leadlineref11_Put)) o rfl u underlying60 Nx rfl (by decide) rfl rfl rfl t4 F0 (u.rdO t0) I0 E1 λJ0 D0 K0 w a M0 hU o=>?_
 replace u:=hU _ (.tail (.tail (.tail (.tail .head))))
 replace u:=u.drop .head
 refine ⟨λ_=>(u.lx i2 [1,2] rfl),?_⟩
 refine ds 17 (u.lx i2 [1,2] rfl) o rfl (Af o rfl) λo=>ds 18 (u.lx i2 [1,2] rfl) o rfl (Ad o Gh rfl) λo=>dz 19 rfl<|Bl o u sizeOf60 rfl rfl rfl rfl .head (.succ (.succ (.succ (.succ .zero)))) λw u=>⟨λ_=>(u.lx i2 [1,2] rfl),?_⟩
 refine dE<|tn<|?_
 replace u:=u.pk [1,1,1,0] rfl
 exact ⟨D1,J0,D0,K0,hm,o.hs,u,M0⟩
 refine dI 15 rfl<|bz (e:=123) (sz:=3) [i6 C0,i6 p26,i6 p27] o u λP1 u o=>?_
 have I0:Rows (α:=leadlineref11_Put) H [i6 C0,i6 p26,i6 p27] ([(leadlineref11_Put.mk C0 p26 p27)]:List leadlineref11_Put):=(.cons (c:=[i6 C0,i6 p26,i6 p27]) ⟨_,_,rfl,rfl,⟨_,_,rfl,rfl,rfl⟩⟩ .nil)
 refine ⟨λ_=>(u.lx i2 [2,3] rfl),?_⟩
 refine dz 4 rfl<|q1 o rfl (eB o isAgg60 rfl u.ld t1 rfl) λa o=>⟨λ_=>(u.lx i2 [2,3] rfl),?_⟩
 refine dz 16 rfl<|Ay (α:=leadlineref11_Put) (xs:=p1.W) (ys:=([(leadlineref11_Put.mk C0 p26 p27)]:List leadlineref11_Put)) o rfl u underlying60 Nx rfl (by decide) rfl rfl rfl t4 F0 (u.rdO t0) I0 E1 λJ0 D0 K0 w a M0 hU o=>?_
 replace u:=hU _ (.tail (.tail (.tail (.tail .head))))
 replace u:=u.drop .head
 refine ⟨λ_=>(u.lx i2 [1,2] rfl),?_⟩
 refine ds 17 (u.lx i2 [1,2] rfl) o rfl (Af o rfl) λo=>ds 18 (u.lx i2 [1,2] rfl) o rfl (Ad o Gh rfl) λo=>dz 19 rfl<|Bl o u sizeOf60 rfl rfl rfl rfl .head (.succ (.succ (.succ (.succ .zero)))) λw u=>⟨λ_=>(u.lx i2 [1,2] rfl),?_⟩
 refine dE<|tn<|?_
 replace u:=u.pk [1,1,1,0] rfl
 exact ⟨D1,J0,D0,K0,hm,o.hs,u,M0⟩
 refine cfv o rfl U0<|wk<|tn<|?_
 replace u:=u.pk [1,1,1,0] rfl
 exact ⟨p1.W,oa21,cap22,vs23,hm,o.hs,u,F0⟩
 rintro a w ⟨R0,O0,E0,P0,hm,o,u,S1⟩
 unfold Z6y at hm
 refine th<|rg<|qa o rfl λo=>re<|tn<|wr<|?_
 obtain rfl:=si hm
 exact r1 o results74 rfl ⟨oa3,cap4,oa7,cap8,oa11,cap12,j0,oa16,cap17,vs18,O0,E0,P0,rfl,F1,Q0,I1,W0,(λ_=>Rows.ind R1),(λ_=>Rows.ind Y0),(λ_=>Rows.ind S1),(u.pk [3,0,0,0] rfl).endMut⟩
theorem JgM (hH:H.le w0) {b2:Nat} {p1:leadlineref11_Mem} {oa3:Option Addr} {cap4:Nat} (K0:p1.Of.length≤cap4) (D0:SR H oa3 p1.Of) {oa7:Option Addr} {cap8:Nat} (M0:p1.Firsts.length≤cap8) (E0:SR H oa7 p1.Firsts) {oa11:Option Addr} {cap12:Nat} {vs13:List Value} (F0:Rows H vs13 p1.L) {oa16:Option Addr} {cap17:Nat} {vs18:List Value} (I0:Rows H vs18 p1.K) {oa21:Option Addr} {cap22:Nat} {vs23:List Value} (J0:Rows H vs23 p1.W) (hO:(sepA [bk b2 (mmC oa3 cap4 oa7 cap8 oa11 cap12 oa16 cap17 oa21 cap22 p1) 62,sla 3 1 oa11 p1.L.length cap12 vs13,sla 3 1 oa16 p1.K.length cap17 vs18,sla 123 3 oa21 p1.W.length cap22 vs23]).ok (hp w0)) (hD:∀ b,(sepA [bk b2 (mmC oa3 cap4 oa7 cap8 oa11 cap12 oa16 cap17 oa21 cap22 p1) 62,sla 3 1 oa11 p1.L.length cap12 vs13,sla 3 1 oa16 p1.K.length cap17 vs18,sla 123 3 oa21 p1.W.length cap22 vs23]).fp b→H b=none) {r:(Int×leadlineref11_Mem)} (hm:Z6r N p1=some r):Tot Tryz.prog 48 #[PT b2] w0 (λv w'=>∃ (oa1m:Option Addr) (cap1m:Nat) (oa2m:Option Addr) (cap2m:Nat) (oa3m:Option Addr) (cap3m:Nat) (vs3m:List Value) (oa4m:Option Addr) (cap4m:Nat) (vs4m:List Value) (oa5m:Option Addr) (cap5m:Nat) (vs5m:List Value),v=i6 r.1∧r.2.Of.length≤cap1m∧SR H oa1m r.2.Of∧r.2.Firsts.length≤cap2m∧SR H oa2m r.2.Firsts∧(∀ h,Rows h vs3m r.2.L)∧(∀ h,Rows h vs4m r.2.K)∧(∀ h,Rows h vs5m r.2.W)∧Mut w0 (sepA [bk b2 (mmC oa3 cap4 oa7 cap8 oa11 cap12 oa16 cap17 oa21 cap22 p1) 62,sla 3 1 oa11 p1.L.length cap12 vs13,sla 3 1 oa16 p1.K.length cap17 vs18,sla 123 3 oa21 p1.W.length cap22 vs23]) (sepA [bk b2 (mmC oa1m cap1m oa2m cap2m oa3m cap3m oa4m cap4m oa5m cap5m r.2) 62,sla 3 1 oa3m r.2.L.length cap3m vs3m,sla 3 1 oa4m r.2.K.length cap4m vs4m,sla 123 3 oa5m r.2.W.length cap5m vs5m]) w'):=by
 unfold Z6r at hm
 refine fn0 func48 rfl ntmps48 rfl rfl λa o=>?_
 have u:=Gg hH hO hD
 refine th<|rg<|qa o rfl λo=>re<|tn<|th<|th<|rg<|qm o rfl λo=>qv o (Af o rfl) λo=>qf o Jt rfl λo=>qB o isAgg28 rfl u t0 rfl λo=>qv o (Aj (α:=Int) (xs:=p1.Of) o Bn rfl) λo=>qv o (Ah o rfl rfl) λo=>re<|?_
 rcases bip hm with ⟨C0,hm⟩ | ⟨C0,hm⟩
 refine tn<|ctv o rfl C0<|th<|rg<|qa o rfl λo=>re<|tn<|wr<|tr<|?_
 obtain rfl:=si hm
 exact r1 o results48 rfl ⟨oa3,cap4,oa7,cap8,oa11,cap12,vs13,oa16,cap17,vs18,oa21,cap22,vs23,rfl,K0,D0,M0,E0,(λ_=>Rows.ind F0),(λ_=>Rows.ind I0),(λ_=>Rows.ind J0),(u.pk [0,0,0,0] rfl).endMut⟩
 refine tn<|cfv o rfl C0<|wk<|tn<|th<|?_
 obtain ⟨Q0,O0,hm⟩:=bs hm
 obtain ⟨R0,S0,P0⟩:=SR.get D0 O0
 obtain rfl:R0=[i6 Q0]:=S0
 refine rxS 14 u wide (by kernel_rfl) λw u=>xm u o rfl λo=>xr u o (Af o rfl) λo=>xr u o (Ad o Jt rfl) λo=>xq u.ld o (λw hl=>eB o isAgg28 rfl hl t0 rfl) λo=>xm u o rfl λo=>xr u o (Af o rfl) λo=>xr u o (Ad o Jt rfl) λo=>xq u.ld o (λw hl=>eB o isAgg28 rfl hl t0 rfl) λo=>xr u o (Aj (α:=Int) (xs:=p1.Of) o Bn rfl) λo=>xr u o (Dr o rfl rfl) λo=>xr u o (eI o Bn sizeOf3 rfl rfl O0 D0) λo=>xq u.ld o (λw hl=>eD o isAgg3 rfl hl (P0 0 _ rfl)) λo=>xr u o (Ao o rfl rfl) λo=>xr u o (Ca o rfl) λo=>xe<|tn<|wr<|?_
 obtain rfl:=si hm
 exact r1 o results48 rfl ⟨oa3,cap4,oa7,cap8,oa11,cap12,vs13,oa16,cap17,vs18,oa21,cap22,vs23,rfl,K0,D0,M0,E0,(λ_=>Rows.ind F0),(λ_=>Rows.ind I0),(λ_=>Rows.ind J0),(u.pk [0,0,0,0] rfl).endMut⟩
end Go.LM.SWAPS
