/- Walks, lifted by program. No condition beyond the theorems' own premises. -/
import Derived.Test.YtgdkaddhhpgeiaaGreatDoorLBQ1
namespace Go.LM.LB
open Go Go.LL Go.MD Go.LM Go.Proofs Go.MD.LB Go.Proofs.Tryz
set_option maxRecDepth 100000
variable {N:Nat} {w0:World} {H:PH}
theorem JaQ (hH:H.le w0) {F0:Option Addr} {D0:Nat} {p1:(List api_Node)} (_:p1.length≤D0) (J0:SR H F0 p1) {p6:Int} {r:Int} (hm:Z1 N p1 p6=some r):Tot Tryz.prog 127 #[SL F0 p1 D0,i6 p6] w0 (λv w'=>v=i6 r∧Keep Nil w0 w'):=by
 unfold Z1 at hm
 refine fn0 func127 rfl ntmps127 rfl rfl λa o=>?_
 have u:St w0 Nil [H] [] w0:=start1 hH
 refine th<|rg<|qa o rfl λo=>re<|tn<|th<|th<|rg<|qa o rfl λo=>re<|tn<|Av (λa w=>∃ (K0:Int),Z2 K0=some r∧Fr 38 [(1,i6 K0)] a∧St w0 Nil [H] [] w) ?_ ?_
 refine wb<|lp (α:=Nat×Int×Int) (λgh a w=>match gh with | (G0,C0,E0)=>(Z4 N Z2 p1) G0 C0 E0=some r∧Fr 38 [(0,SL F0 p1 D0),(1,i6 C0),(5,i6 E0)] a∧St w0 Nil [H] [] w) (λgh=>gh.1) (N,p6,1) ⟨hm,o.hs,u⟩ ?_
 rintro ⟨G0,C0,E0⟩ a w ⟨hm,o,u⟩
 obtain _ | G0:=G0
 simp [Z4] at hm
 rw [Z4] at hm
 refine th<|th<|rg<|qm o rfl λo=>qv o (Bd o rfl rfl) λo=>re<|?_
 rcases bip hm with ⟨M0,hm⟩ | ⟨M0,hm⟩
 refine tn<|ctv o rfl M0<|wk<|tn<|th<|wb<|th<|th<|Av (λa w=>∃ (O0:Bool),(Z3 N (Z4 N Z2 p1 G0) p1 C0 E0) O0=some r∧Fr 38 [(0,SL F0 p1 D0),(1,i6 C0),(5,i6 E0),(26,.bool O0)] a∧St w0 Nil [H] [] w) ?_ ?_
 rcases bit hm with ⟨P0,hm⟩ | ⟨P0,hm⟩
 refine rg<|qm o rfl λo=>qv o (Ao o rfl rfl) λo=>qm o rfl λo=>gr (Fk:=[(0,SL F0 p1 D0),(1,i6 C0),(5,i6 E0),(17,.bool ((decide (C0 < 0)) || (decide ((p1.length:Int)≤C0))))]) 12 5 o u ?_ ?_ ?_
 intro hb o key
 iterate 4 refine qn o λo=>?_
 exact qk o (Ad o rfl rfl) key u hb
 intro hb o key
 iterate 2 refine qg o (Ab o rfl) λo=>?_
 exact qg o (Ak (α:=api_Node) (xs:=p1) o runUnderlying49 rfl) λo=>qg o (Bl o rfl rfl) λo=>qk o (Ae o rfl rfl) key u hb
 intro a w o u
 refine qv o (Ar (Ab o rfl) (congrArg Value.bool P0)) λo=>?_
 iterate 7 refine qn o λo=>?_
 refine qv o (Ad o rfl rfl) λo=>re<|tn<|?_
 exact ⟨true,hm,o.hs,u⟩
 obtain ⟨n0,Q0,hm⟩:=bs hm
 obtain ⟨p0,U0,S0⟩:=SR.get J0 Q0
 obtain rfl:=Bn U0
 obtain ⟨V0,W0,hm⟩:=bs hm
 refine rg<|qm o rfl λo=>qv o (Ao o rfl rfl) λo=>qm o rfl λo=>gr (Fk:=[(0,SL F0 p1 D0),(1,i6 C0),(5,i6 E0),(17,.bool ((decide (C0 < 0)) || (decide ((p1.length:Int)≤C0))))]) 12 5 o u ?_ ?_ ?_
 intro hb o key
 iterate 4 refine qn o λo=>?_
 exact qk o (Ad o rfl rfl) key u hb
 intro hb o key
 iterate 2 refine qg o (Ab o rfl) λo=>?_
 exact qg o (Ak (α:=api_Node) (xs:=p1) o runUnderlying49 rfl) λo=>qg o (Bl o rfl rfl) λo=>qk o (Ae o rfl rfl) key u hb
 intro a w o u
 refine qv o (Ar (Ab o rfl) (congrArg Value.bool P0)) λo=>?_
 iterate 2 refine qg o (Ab o rfl) λo=>?_
 refine qg o (Am o runUnderlying49 sizeOf90 rfl rfl Q0 (SR.oaI J0 (by decide) Q0)) λo=>qg o (Af o Cm rfl) λo=>qg o (Ag o isAgg3 rfl (PH.le.cell (Lds.le u.ld) (S0 0 _ rfl))) λo=>ls<|gy o rfl rfl<|cr o call156 (Yx (Ai _) W0) u λu o=>qg o (An o rfl rfl) λo=>qv o (Ae o rfl rfl) λo=>re<|tn<|?_
 exact ⟨(decide (V0=(-1))),hm,o.hs,u⟩
 rintro a w ⟨O0,hm,o,u⟩
 unfold Z3 at hm
 rcases bit hm with ⟨I0,hm⟩ | ⟨I0,hm⟩
 refine ctv o rfl I0<|th<|rg<|qa o rfl λo=>re<|tn<|wr<|tr<|br<|tr<|tr<|br<|tr<|?_
 obtain rfl:=si hm
 exact r1 o results127 rfl ⟨rfl,u.keep⟩
 refine cfv o rfl I0<|wk<|tn<|th<|?_
 obtain ⟨u0,R0,hm⟩:=bs hm
 obtain ⟨B1,X0,T0⟩:=SR.get J0 R0
 obtain rfl:=Bn X0
 obtain ⟨Y0,j0,hm⟩:=bs hm
 refine rg<|qm o rfl λo=>?_
 iterate 2 refine qm o rfl λo=>?_
 refine qv o (Am o runUnderlying49 sizeOf90 rfl rfl R0 (SR.oaI J0 (by decide) R0)) λo=>qv o (Af o Cm rfl) λo=>qv o (Ag o isAgg3 rfl (PH.le.cell (Lds.le u.ld) (T0 0 _ rfl))) λo=>ls<|cr o call156 (Yx (Ai _) j0) u λu o=>qv o (Ap o rfl rfl) λo=>qa o rfl λo=>re<|tn<|rg<|qm o rfl λo=>qv o (Ap o rfl rfl) λo=>qa o rfl λo=>re<|bn<|tn<|rg<|qm o rfl λo=>qv o (Gs o rfl rfl) λo=>qa o rfl λo=>re<|tn<|?_
 exact ⟨(G0,(IntKind.i64.wrap (C0+1)),(IntKind.i64.wrap ((IntKind.i64.wrap (E0+Y0)) - 1))),⟨hm,o.hs,u⟩,Nat.lt_succ_self _⟩
 refine tn<|cfv o rfl M0<|we<|tx<|tx<|bx<|tn<|?_
 exact ⟨C0,hm,o.has ⟨rfl,trivial⟩,u⟩
 rintro a w ⟨K0,hm,o,u⟩
 unfold Z2 at hm
 refine th<|rg<|qm o rfl λo=>qa o rfl λo=>re<|tn<|wr<|?_
 obtain rfl:=si hm
 exact r1 o results127 rfl ⟨rfl,u.keep⟩
theorem Jcd (hH:H.le w0) {S0:Option Addr} {M0:Nat} {p1:(List api_Node)} (F1:p1.length≤M0) (T0:SR H S0 p1) {p6:Int} {r:(List Int)} (hm:Zd N p1 p6=some r):Tot Tryz.prog 157 #[SL S0 p1 M0,i6 p6] w0 (λv w'=>∃ (X0:Option Addr) (U0:Nat) (Y0:List Value),v=SL X0 r U0∧(∀ h,Rows h Y0 r)∧Fresh w0 (sla 3 1 X0 r.length U0 Y0) w'):=by
 unfold Zd at hm
 refine fn0 func157 rfl ntmps157 rfl rfl λa o=>?_
 have u:St w0 Nil [H] [] w0:=start1 hH
 refine th<|rg<|qa o rfl λo=>re<|tn<|th<|rg<|qa o rfl λo=>re<|tn<|th<|rg<|qm o rfl λo=>qv o (Ap o rfl rfl) λo=>qa o rfl λo=>re<|tn<|th<|th<|?_
 obtain ⟨Q1,h8,hm⟩:=bs hm
 obtain ⟨cz9,G1,n0⟩:=SR.get T0 h8
 obtain rfl:=Bn G1
 obtain ⟨j0,I1,hm⟩:=bs hm
 refine rg<|qm o rfl λo=>qm o rfl λo=>qv o (Am o runUnderlying49 sizeOf90 rfl rfl h8 (SR.oaI T0 (by decide) h8)) λo=>qv o (Af o Cm rfl) λo=>qv o (Ag o isAgg3 rfl (PH.le.cell (Lds.le u.ld) (n0 0 _ rfl))) λo=>ls<|cr o call156 (Yx (Ai _) I1) u λu o=>qm o rfl λo=>re<|tn<|Av (λa w=>∃ (J0:(List Int)) (O0:Option Addr) (F0:Nat) (P0:List Value),Ze J0=some r∧Fr 26 [(5,SL O0 J0 F0)] a∧St w0 Nil [H] [sla 3 1 O0 J0.length F0 P0] w∧Rows H P0 J0) ?_ ?_
 replace u:=u.nilS 3 1
 refine wb<|lp (α:=Nat×(List Int)×Int×Int) (λgh a w=>match gh with | (K0,E0,C0,R0)=>∃ (G0:Option Addr) (D0:Nat) (I0:List Value),(Zf N Ze p1 j0) K0 E0 C0 R0=some r∧Fr 26 [(0,SL S0 p1 M0),(5,SL G0 E0 D0),(6,i6 C0),(14,i6 j0),(15,i6 R0)] a∧St w0 Nil [H] [sla 3 1 G0 E0.length D0 I0] w∧Rows H I0 E0) (λgh=>gh.1) (N,[],(IntKind.i64.wrap (p6+1)),0) ⟨none,0,[],hm,o.hs,u,.nil⟩ ?_
 rintro ⟨K0,E0,C0,R0⟩ a w ⟨G0,D0,I0,hm,o,u,V0⟩
 obtain _ | K0:=K0
 simp [Zf] at hm
 rw [Zf] at hm
 refine th<|rg<|qv o (Ao o rfl rfl) λo=>re<|?_
 rcases bip hm with ⟨Q0,hm⟩ | ⟨Q0,hm⟩
 refine tn<|th<|ctv o rfl Q0<|wk<|tn<|th<|wb<|th<|?_
 obtain ⟨J1,M1,hm⟩:=bs hm
 refine rg<|qm o rfl λo=>qm o rfl λo=>ls<|Bh (e:=3) (sz:=1) [i6 C0] o rfl u rfl rfl rfl (λw=>by kernel_rfl) λR1 w a u o=>?_
 have p0:Rows (α:=Int) H [i6 C0] ([C0]:List Int):=(.cons (c:=[i6 C0]) rfl .nil)
 refine ls<|Bw (α:=Int) (xs:=E0) (ys:=([C0]:List Int)) o rfl u underlying42 Xm rfl (by decide) rfl rfl rfl t1 V0 (u.rdO t0) p0 M1 λu0 W0 B1 w a C1 hU o=>?_
 replace u:=hU _ (.tail .head)
 replace u:=u.drop .head
 refine qa o rfl λo=>re<|tn<|?_
 obtain ⟨O1,P1,hm⟩:=bs hm
 refine rg<|qm o rfl λo=>qm o rfl λo=>ls<|cr o call127 (JaQ (Ai _) F1 (St.srH u T0) P1) u λu o=>qa o rfl λo=>re<|bn<|tn<|rg<|qv o (Ap o rfl rfl) λo=>qm o rfl λo=>re<|tn<|?_
 exact ⟨(K0,J1,O1,(IntKind.i64.wrap (R0+1))),⟨u0,W0,B1,hm,o.hs,u,C1⟩,Nat.lt_succ_self _⟩
 refine tn<|th<|cfv o rfl Q0<|we<|tx<|tx<|bx<|tn<|?_
 exact ⟨E0,G0,D0,I0,hm,o.has ⟨rfl,trivial⟩,u,V0⟩
 rintro a w ⟨J0,O0,F0,P0,hm,o,u,E1⟩
 unfold Ze at hm
 refine th<|rg<|qm o rfl λo=>qa o rfl λo=>re<|tn<|wr<|?_
 obtain rfl:=si hm
 exact r1 o results157 rfl ⟨_,_,_,rfl,(λ_=>Rows.ind E1),u.endFresh t0⟩
theorem Jcc:∀ (N:Nat) {w0:World} {H:PH} (_:H.le w0) {J0:Option Addr} {C0:Nat} {p1:(List api_Node)} (_:p1.length≤C0) (_:SR H J0 p1) {p6:Int} {r:Int} (_:Z8 N p1 p6=some r),Tot Tryz.prog 128 #[SL J0 p1 C0,i6 p6] w0 (λv w'=>v=i6 r∧Keep Nil w0 w'):=by
 intro N
 induction N with
  | zero=>intros;rename_i hm;simp [Z8] at hm
  | succ N ih=>
 intro w0 H hH J0 C0 p1 Q0 R0 p6 r hm
 rw [Z8] at hm
 refine fn0 func128 rfl ntmps128 rfl rfl λa o=>?_
 have u:St w0 Nil [H] [] w0:=start1 hH
 refine th<|rg<|qa o rfl λo=>re<|tn<|th<|rg<|qa o rfl λo=>re<|tn<|th<|th<|?_
 obtain ⟨E0,h8,hm⟩:=bs hm
 refine rg<|qm o rfl λo=>qm o rfl λo=>ls<|c1 o rfl call157 (Jcd (Ai _) Q0 (St.srH u R0) h8) ⟨rfl,rfl,trivial⟩ (λv w a hR o=>?_)
 obtain ⟨S0,K0,T0,rfl,D0,hk⟩:=hR
 replace u:=u.fresh hk
 replace D0:=D0 H
 refine qv o (Ak (α:=Int) (xs:=E0) o runUnderlying42 rfl) λo=>qm o rfl λo=>re<|tn<|Av (λa w=>∃ (O0:Int),Z9 O0=some r∧Fr 24 [(5,i6 O0)] a∧St w0 Nil [H] [] w) ?_ ?_
 refine wb<|lp (α:=Nat×Int×Int) (λgh a w=>match gh with | (F0,G0,M0)=>(Za (Z8 N) N Z9 p1 E0) F0 G0 M0=some r∧Fr 24 [(0,SL J0 p1 C0),(5,i6 G0),(10,SL S0 E0 K0),(11,i6 (E0.length:Int)),(12,i6 M0)] a∧St w0 Nil [H] [sla 3 1 S0 E0.length K0 T0] w) (λgh=>gh.1) (N,0,0) ⟨hm,o.hs,u⟩ ?_
 rintro ⟨F0,G0,M0⟩ a w ⟨hm,o,u⟩
 obtain _ | F0:=F0
 simp [Za] at hm
 rw [Za] at hm
 refine th<|rg<|qv o (Ao o rfl rfl) λo=>re<|?_
 rcases bip hm with ⟨I0,hm⟩ | ⟨I0,hm⟩
 refine tn<|th<|ctv o rfl I0<|wk<|tn<|th<|wb<|th<|?_
 obtain ⟨W0,P0,hm⟩:=bs hm
 have U0:=Rd.oaI (u.rdO t0) D0 (by decide) P0
 obtain ⟨X0,Y0,V0⟩:=Rows.getI D0 P0
 obtain rfl:X0=[i6 W0]:=Y0
 refine rg<|qv o (Am o Tryz.runUnderlying42 Tryz.sizeOf3 rfl rfl P0 U0) λo=>qv o (Ag o isAgg3 rfl (u.ld.elO t0 (V0 0 _ rfl))) λo=>qa o rfl λo=>re<|tn<|?_
 obtain ⟨j0,n0,hm⟩:=bs hm
 refine rg<|qm o rfl λo=>?_
 iterate 2 refine qm o rfl λo=>?_
 refine ls<|cr o call128 (ih (Ai _) Q0 (St.srH u R0) n0) u λu o=>qv o (Xo o rfl rfl) λo=>qa o rfl λo=>re<|bn<|tn<|rg<|qv o (Ap o rfl rfl) λo=>qm o rfl λo=>re<|tn<|?_
 exact ⟨(F0,(max G0 j0),(IntKind.i64.wrap (M0+1))),⟨hm,o.hs,u⟩,Nat.lt_succ_self _⟩
 refine tn<|th<|cfv o rfl I0<|we<|tx<|tx<|bx<|tn<|?_
 replace u:=u.pickL .nil
 exact ⟨G0,hm,o.has ⟨rfl,trivial⟩,u⟩
 rintro a w ⟨O0,hm,o,u⟩
 unfold Z9 at hm
 refine th<|rg<|qm o rfl λo=>qv o (Ap o rfl rfl) λo=>qa o rfl λo=>re<|tn<|wr<|?_
 obtain rfl:=si hm
 exact r1 o results128 rfl ⟨rfl,u.keep⟩
theorem Jbv (hH:H.le w0) (hT:Tab H) {D0:Option Addr} {C0:Nat} {p1:(List api_Node)} (F0:p1.length≤C0) (G0:SR H D0 p1) {r:Bool} (hm:Z5 N p1=some r):Tot Tryz.prog 87 #[SL D0 p1 C0] w0 (λv w'=>v=.bool r∧Keep Nil w0 w'):=by
 unfold Z5 at hm
 refine fn0 func87 rfl ntmps87 rfl rfl λa o=>?_
 have u:St w0 Nil [H] [] w0:=start1 hH
 refine th<|rg<|qa o rfl λo=>re<|tn<|th<|rg<|qa o rfl λo=>re<|tn<|th<|th<|Av (λa w=>∃ (J0:Bool),(Z7 N p1) J0=some r∧Fr 27 [(0,SL D0 p1 C0),(23,.bool J0)] a∧St w0 Nil [H] [] w) ?_ ?_
 rcases bit hm with ⟨I0,hm⟩ | ⟨I0,hm⟩
 refine rg<|qm o rfl λo=>qv o (Ak (α:=api_Node) (xs:=p1) o runUnderlying49 rfl) λo=>qv o (An o rfl rfl) λo=>qm o rfl λo=>gr (Fk:=[(0,SL D0 p1 C0),(3,.func (.func 124) #[] #[]),(11,.bool ((decide ((p1.length:Int)=0)) || (decide (40 < (p1.length:Int)))))]) 7 4 o u ?_ ?_ ?_
 intro hb o key
 iterate 3 refine qn o λo=>?_
 exact qk o (Ad o rfl rfl) key u hb
 intro hb o key
 exact qg o (Ab o rfl) λo=>qg o (Ak (α:=api_Node) (xs:=p1) o runUnderlying49 rfl) λo=>qg o (Bd o rfl rfl) λo=>qk o (Ae o rfl rfl) key u hb
 intro a w o u
 refine qv o (Ar (Ab o rfl) (congrArg Value.bool I0)) λo=>?_
 iterate 3 refine qn o λo=>?_
 refine qv o (Ad o rfl rfl) λo=>qm o rfl λo=>?_
 iterate 5 refine qn o λo=>?_
 refine qv o (Ad o rfl rfl) λo=>re<|tn<|?_
 exact ⟨true,hm,o.has ⟨rfl,rfl,trivial⟩,u⟩
 obtain ⟨Q0,h8,hm⟩:=bs hm
 rcases bit hm with ⟨K0,hm⟩ | ⟨K0,hm⟩
 refine rg<|qm o rfl λo=>qv o (Ak (α:=api_Node) (xs:=p1) o runUnderlying49 rfl) λo=>qv o (An o rfl rfl) λo=>qm o rfl λo=>gr (Fk:=[(0,SL D0 p1 C0),(3,.func (.func 124) #[] #[]),(11,.bool ((decide ((p1.length:Int)=0)) || (decide (40 < (p1.length:Int)))))]) 7 4 o u ?_ ?_ ?_
 intro hb o key
 iterate 3 refine qn o λo=>?_
 exact qk o (Ad o rfl rfl) key u hb
 intro hb o key
 exact qg o (Ab o rfl) λo=>qg o (Ak (α:=api_Node) (xs:=p1) o runUnderlying49 rfl) λo=>qg o (Bd o rfl rfl) λo=>qk o (Ae o rfl rfl) key u hb
 intro a w o u
 refine qv o (Ar (Ab o rfl) (congrArg Value.bool I0)) λo=>?_
 iterate 2 refine qg o (Ab o rfl) λo=>?_
 refine ls<|gy o rfl rfl<|cr o call126 (Xr (Ai _) (Tab.mono hT (St.up u)) F0 (St.srH u G0) h8) u λu o=>qv o (Ae o rfl rfl) λo=>qv o (Ar (Ab o rfl) (congrArg Value.bool K0)) λo=>?_
 iterate 5 refine qn o λo=>?_
 refine qv o (Ad o rfl rfl) λo=>re<|tn<|?_
 exact ⟨true,hm,o.has ⟨rfl,rfl,trivial⟩,u⟩
 obtain ⟨M0,O0,hm⟩:=bs hm
 refine rg<|qm o rfl λo=>qv o (Ak (α:=api_Node) (xs:=p1) o runUnderlying49 rfl) λo=>qv o (An o rfl rfl) λo=>qm o rfl λo=>gr (Fk:=[(0,SL D0 p1 C0),(3,.func (.func 124) #[] #[]),(11,.bool ((decide ((p1.length:Int)=0)) || (decide (40 < (p1.length:Int)))))]) 7 4 o u ?_ ?_ ?_
 intro hb o key
 iterate 3 refine qn o λo=>?_
 exact qk o (Ad o rfl rfl) key u hb
 intro hb o key
 exact qg o (Ab o rfl) λo=>qg o (Ak (α:=api_Node) (xs:=p1) o runUnderlying49 rfl) λo=>qg o (Bd o rfl rfl) λo=>qk o (Ae o rfl rfl) key u hb
 intro a w o u
 refine qv o (Ar (Ab o rfl) (congrArg Value.bool I0)) λo=>?_
 iterate 2 refine qg o (Ab o rfl) λo=>?_
 refine ls<|gy o rfl rfl<|cr o call126 (Xr (Ai _) (Tab.mono hT (St.up u)) F0 (St.srH u G0) h8) u λu o=>qv o (Ae o rfl rfl) λo=>qv o (Ar (Ab o rfl) (congrArg Value.bool K0)) λo=>qg o (Ab o rfl) λo=>ls<|gy o rfl rfl<|cr o call127 (JaQ (Ai _) F0 (St.srH u G0) O0) u λu o=>qg o (Ab o rfl) λo=>qg o (Ak (α:=api_Node) (xs:=p1) o runUnderlying49 rfl) λo=>qg o (Bt o rfl rfl) λo=>qv o (Ae o rfl rfl) λo=>re<|tn<|?_
 exact ⟨(decide (M0≠(p1.length:Int))),hm,o.has ⟨rfl,rfl,trivial⟩,u⟩
 rintro a w ⟨J0,hm,o,u⟩
 unfold Z7 at hm
 rcases bit hm with ⟨E0,hm⟩ | ⟨E0,hm⟩
 refine ctv o rfl E0<|th<|rg<|qa o rfl λo=>re<|tn<|wr<|tr<|?_
 obtain rfl:=si hm
 exact r1 o results87 rfl ⟨rfl,u.keep⟩
 refine cfv o rfl E0<|wk<|tn<|th<|?_
 obtain ⟨R0,P0,hm⟩:=bs hm
 refine rg<|qm o rfl λo=>ls<|cr o call128 (Jcc _ (Ai _) F0 (St.srH u G0) P0) u λu o=>qv o (Dc o rfl rfl) λo=>qa o rfl λo=>re<|tn<|wr<|?_
 obtain rfl:=si hm
 exact r1 o results87 rfl ⟨rfl,u.keep⟩
theorem Uu (hH:H.le w0) (hT:Tab H) {p1:Bool} {oa3:Option Addr} {cap4:Nat} {p2:(List api_Node)} (D0:p2.length≤cap4) (E0:SR H oa3 p2) {r:Bool} (hm:Zbd N p1 p2=some r):Tot Tryz.prog 149 #[.bool p1,SL oa3 p2 cap4] w0 (λv w'=>v=.bool r∧Keep Nil w0 w'):=by
 unfold Zbd at hm
 refine fn0 func149 rfl ntmps149 rfl rfl λa o=>?_
 have u:St w0 Nil [H] [] w0:=start1 hH
 refine th<|rg<|qa o rfl λo=>re<|tn<|th<|?_
 rcases bit hm with ⟨C0,hm⟩ | ⟨C0,hm⟩
 obtain ⟨F0,h9,hm⟩:=bs hm
 refine rg<|qm o rfl λo=>qv o (Ar (Ab o rfl) (congrArg Value.bool C0)) λo=>qg o (Ab o rfl) λo=>ls<|gy o rfl rfl<|cr o call87 (Jbv (Ai _) (Tab.mono hT (St.up u)) D0 (St.srH u E0) h9) u λu o=>qv o (Ad o rfl rfl) λo=>qm o rfl λo=>gr (Fk:=[(18,.bool (F0 || ((!p1) && (decide ((p2.length:Int)=0)))))]) 10 8 o u ?_ ?_ ?_
 intro hb o key
 iterate 3 refine qn o λo=>?_
 iterate 3 refine ls<|gnu o rfl rfl rfl λa o=>?_
 exact qn o λo=>qk o (Ad o rfl rfl) key u hb
 intro hb o key
 refine qg o (Ab o rfl) λo=>qg o (Ba o rfl) λo=>qg o (Ab o rfl) λo=>gr (Fk:=[(10,.bool false),(17,.bool ((!p1) && (decide ((p2.length:Int)=0))))]) 13 4 o u ?_ ?_ ?_
 intro hb o key
 exact qg o (Ab o rfl) λo=>qg o (Ak (α:=api_Node) (xs:=p2) o runUnderlying49 rfl) λo=>qg o (An o rfl rfl) λo=>ql o (Ad o rfl rfl) key u hb
 intro hb o key
 iterate 3 refine qn o λo=>?_
 exact ql o (Ae o rfl rfl) key u hb
 intro a w o u
 exact qk o (Ae o rfl rfl) key u hb
 intro a w o u
 refine qa o rfl λo=>re<|tn<|wr<|?_
 obtain rfl:=si hm
 exact r1 o results149 rfl ⟨rfl,u.keep⟩
 refine rg<|qm o rfl λo=>qv o (Ar (Ab o rfl) (congrArg Value.bool C0)) λo=>?_
 iterate 2 refine qn o λo=>?_
 refine qv o (Ae o rfl rfl) λo=>qm o rfl λo=>qg o (Ab o rfl) λo=>qg o (Ba o rfl) λo=>qg o (Ab o rfl) λo=>gr (Fk:=[(10,.bool false),(17,.bool ((!p1) && (decide ((p2.length:Int)=0))))]) 13 4 o u ?_ ?_ ?_
 intro hb o key
 exact qg o (Ab o rfl) λo=>qg o (Ak (α:=api_Node) (xs:=p2) o runUnderlying49 rfl) λo=>qg o (An o rfl rfl) λo=>ql o (Ad o rfl rfl) key u hb
 intro hb o key
 iterate 3 refine qn o λo=>?_
 exact ql o (Ae o rfl rfl) key u hb
 intro a w o u
 refine qv o (Ae o rfl rfl) λo=>qa o rfl λo=>re<|tn<|wr<|?_
 obtain rfl:=si hm
 exact r1 o results149 rfl ⟨rfl,u.keep⟩
set_option maxHeartbeats 4000000 in
theorem Jbd (hH:H.le w0) (hT:Tab H) {cs2:List Value} {p1:api_Stmt} (g3:Enc.rep H cs2 p1) {r:Bool} (hm:Zba N p1=some r):Tot Tryz.prog 110 #[.agg cs2.toArray] w0 (λv w'=>v=.bool r∧Keep Nil w0 w'):=by
 unfold Zba at hm
 refine fn0 func110 rfl ntmps110 rfl rfl λa o=>?_
 have u:St w0 Nil [H] [] w0:=start1 hH
 obtain ⟨P0,F0,T0,G0,rfl,X0,Y0,F1,G1⟩:=Bm g3
 refine th<|rg<|ls<|Br (cs:=[i6 p1.Kind,Ac p1.Reg,Ac p1.Name,SL P0 p1.E F0,SL T0 p1.F G0,i6 p1.N,i6 p1.Body,i6 p1.Else,i6 p1.At].toArray) o rfl u rfl rfl λE0 w a u o=>qa o rfl λo=>re<|tn<|th<|?_
 obtain ⟨j0,I1,hm⟩:=bs hm
 refine rg<|qv o (Af o Cj rfl) λo=>qv o (Ag o isAgg3 rfl (u.ld.cellB t0 rfl)) λo=>ls<|cr o call145 (Jb4 (Ai _) I1) u λu o=>ls<|Au (cs:=[Ac []].toArray) o rfl u zeroValue9 rfl λC0 w a u o=>ls<|Ax o u sizeOf9 rfl rfl rfl rfl .head .zero λw u=>re<|tn<|th<|rg<|qv o (Ox (vs:=[PT C0]) o ⟨rfl,trivial⟩) λo=>qa o rfl λo=>?_
 iterate 2 refine re<|tn<|th<|rg<|qa o rfl λo=>?_
 refine re<|tn<|th<|rg<|qv o (Af o Gk rfl) λo=>qv o (Ag o isAgg3 rfl (u.ld.cellB t1 rfl)) λo=>qv o (An o rfl rfl) λo=>qa o rfl λo=>re<|tn<|th<|th<|?_
 obtain ⟨Q1,J1,hm⟩:=bs hm
 refine rg<|qm o rfl λo=>ls<|k1 (vs:=[Ac [107]]) (caps:=[PT C0]) o rfl rfl call146 (Gt (Ai _) (Tab.mono hT (St.up u)) (St.blkO u t0) J1) ⟨rfl,trivial⟩ rfl (λv w a hR o=>?_)
 obtain ⟨rfl,hk⟩:=hR
 replace u:=u.pass hk
 refine re<|tn<|Av (λa w=>∃ (D0:Bool),(Zbe N p1 j0) D0=some r∧Fr 85 [(1,PT E0),(4,.func (.func 146) #[] #[PT C0]),(5,.func (.func 148) #[] #[]),(6,.func (.func 149) #[] #[]),(7,.bool D0)] a∧St w0 Nil [H] [bk E0 [i6 p1.Kind,Ac p1.Reg,Ac p1.Name,SL P0 p1.E F0,SL T0 p1.F G0,i6 p1.N,i6 p1.Body,i6 p1.Else,i6 p1.At] 51,bk C0 [Ac j0] 9] w) ?_ ?_
 rcases bit hm with ⟨I0,hm⟩ | ⟨I0,hm⟩
 refine ctv o rfl I0<|rg<|qv o (Af o Gk rfl) λo=>qv o (Ag o isAgg3 rfl (u.ld.cellB t1 rfl)) λo=>qv o (Bl o rfl rfl) λo=>qm o rfl λo=>gr (Fk:=[(1,PT E0),(4,.func (.func 146) #[] #[PT C0]),(5,.func (.func 148) #[] #[]),(6,.func (.func 149) #[] #[]),(25,.bool ((decide (1≤p1.N)) && (decide (p1.N≤8))))]) 21 4 o u ?_ ?_ ?_
 intro hb o key
 exact qg o (Af o Gk rfl) λo=>qg o (Ag o isAgg3 rfl (u.ld.cellB t1 rfl)) λo=>qg o (Dc o rfl rfl) λo=>qk o (Ad o rfl rfl) key u hb
 intro hb o key
 iterate 3 refine qn o λo=>?_
 exact qk o (Ae o rfl rfl) key u hb
 intro a w o u
 refine qa o rfl λo=>re<|tn<|?_
 replace u:=u.pk [1,0] rfl
 exact ⟨((decide (1≤p1.N)) && (decide (p1.N≤8))),hm,o.hs,u⟩
 refine cfv o rfl I0<|wk<|tn<|?_
 replace u:=u.pk [1,0] rfl
 exact ⟨(decide (p1.N=0)),hm,o.hs,u⟩
 rintro a w ⟨D0,hm,o,u⟩
 unfold Zbe at hm
 refine th<|rg<|qv o (Af o Cj rfl) λo=>qv o (Ag o isAgg3 rfl (u.ld.cellB t0 rfl)) λo=>qv o (Bl o rfl rfl) λo=>qm o rfl λo=>gr (Fk:=[(1,PT E0),(4,.func (.func 146) #[] #[PT C0]),(5,.func (.func 148) #[] #[]),(6,.func (.func 149) #[] #[]),(7,.bool D0),(33,.bool ((decide (1≤p1.Kind)) && (decide (p1.Kind < 15))))]) 29 4 o u ?_ ?_ ?_
 intro hb o key
 exact qg o (Af o Cj rfl) λo=>qg o (Ag o isAgg3 rfl (u.ld.cellB t0 rfl)) λo=>qg o (Ao o rfl rfl) λo=>qk o (Ad o rfl rfl) key u hb
 intro hb o key
 iterate 3 refine qn o λo=>?_
 exact qk o (Ae o rfl rfl) key u hb
 intro a w o u
 refine qm o rfl λo=>gr (Fk:=[(1,PT E0),(4,.func (.func 146) #[] #[PT C0]),(5,.func (.func 148) #[] #[]),(6,.func (.func 149) #[] #[]),(7,.bool D0),(38,.bool (((decide (1≤p1.Kind)) && (decide (p1.Kind < 15))) && (decide (0≤p1.At))))]) 34 4 o u ?_ ?_ ?_
 intro hb o key
 exact qg o (Af o Es rfl) λo=>qg o (Ag o isAgg3 rfl (u.ld.cellB t0 rfl)) λo=>qg o (Bl o rfl rfl) λo=>qk o (Ad o rfl rfl) key u hb
 intro hb o key
 iterate 3 refine qn o λo=>?_
 exact qk o (Ae o rfl rfl) key u hb
 intro a w o u
 refine qm o rfl λo=>gr (Fk:=[(1,PT E0),(4,.func (.func 146) #[] #[PT C0]),(5,.func (.func 148) #[] #[]),(6,.func (.func 149) #[] #[]),(7,.bool D0),(43,.bool ((((decide (1≤p1.Kind)) && (decide (p1.Kind < 15))) && (decide (0≤p1.At))) && (decide (p1.At≤4000))))]) 39 4 o u ?_ ?_ ?_
 intro hb o key
 exact qg o (Af o Es rfl) λo=>qg o (Ag o isAgg3 rfl (u.ld.cellB t0 rfl)) λo=>qg o (Dc o rfl rfl) λo=>qk o (Ad o rfl rfl) key u hb
 intro hb o key
 iterate 3 refine qn o λo=>?_
 exact qk o (Ae o rfl rfl) key u hb
 intro a w o u
 refine qm o rfl λo=>gr (Fk:=[(1,PT E0),(4,.func (.func 146) #[] #[PT C0]),(5,.func (.func 148) #[] #[]),(6,.func (.func 149) #[] #[]),(46,.bool (((((decide (1≤p1.Kind)) && (decide (p1.Kind < 15))) && (decide (0≤p1.At))) && (decide (p1.At≤4000))) && D0))]) 44 2 o u ?_ ?_ ?_
 intro hb o key
 exact qg o (Ab o rfl) λo=>qk o (Ad o rfl rfl) key u hb
 intro hb o key
 exact qn o λo=>qk o (Ae o rfl rfl) key u hb
 intro a w o u
 refine qa o rfl λo=>re<|tn<|th<|?_
 rcases bit hm with ⟨J0,hm⟩ | ⟨J0,hm⟩
 have J0':(!(((((decide (1≤p1.Kind)) && (decide (p1.Kind < 15))) && (decide (0≤p1.At))) && (decide (p1.At≤4000))) && D0))=false:=by rw [J0];rfl
 obtain ⟨Q0,R0,hm⟩:=bs hm
 obtain ⟨n0,S0,hm⟩:=bs hm
 rcases bit hm with ⟨K0,hm⟩ | ⟨K0,hm⟩
 have K0':(!n0)=false:=by rw [K0];rfl
 obtain ⟨U0,V0,hm⟩:=bs hm
 obtain ⟨p0,W0,hm⟩:=bs hm
 rcases bit hm with ⟨M0,hm⟩ | ⟨M0,hm⟩
 have M0':(!p0)=false:=by rw [M0];rfl
 obtain ⟨u0,B1,hm⟩:=bs hm
 obtain ⟨C1,E1,hm⟩:=bs hm
 rcases bit hm with ⟨O0,hm⟩ | ⟨O0,hm⟩
 have O0':(!C1)=false:=by rw [O0];rfl
 obtain ⟨M1,O1,hm⟩:=bs hm
 obtain ⟨R1,P1,hm⟩:=bs hm
 refine rdS 39 u wide λw u=>dr 0 u o rfl (Ab o rfl) λo=>dr 1 u o rfl (Ba o rfl) λo=>dr 2 u o rfl (Ar (Ab o rfl) (congrArg Value.bool J0')) λo=>dg 3 u.ld o rfl (λw hl=>Ab o rfl) λo=>dg 4 u.ld o rfl (λw hl=>Ab o rfl) λo=>dg 6 u.ld o rfl (λw hl=>Af o Cn rfl) λo=>dg 7 u.ld o rfl (λw hl=>Ag o isAgg9 rfl (hl.cellB t0 rfl)) λo=>da1 (i:=5) (by kernel_rfl) ?_
 refine di (i:=5) rfl<|gy o rfl rfl<|k1 (vs:=[Ac [114]]) (caps:=[PT C0]) o rfl rfl call146 (Gt (Ai _) (Tab.mono hT (St.up u)) (St.blkO u t1) R0) ⟨rfl,trivial⟩ rfl (λv w a hR o=>?_)
 obtain ⟨rfl,hk⟩:=hR
 replace u:=u.pass hk
 refine ⟨λ_=>u.ld,?_⟩
 refine da1 (i:=8) (by kernel_rfl) ?_
 refine di (i:=8) rfl<|gy o rfl rfl<|k1 (vs:=[.bool Q0,Ac p1.Reg]) (caps:=[]) o rfl rfl call148 (Ln (Ai _) (Tab.mono hT (St.up u)) S0) ⟨rfl,rfl,trivial⟩ rfl (λv w a hR o=>?_)
 obtain ⟨rfl,hk⟩:=hR
 replace u:=u.pass hk
 refine ⟨λ_=>u.ld,?_⟩
 refine dg 9 u.ld o rfl (λw hl=>Ba o rfl) λo=>dr 10 u o rfl (Ae o rfl rfl) λo=>dr 11 u o rfl (Ar (Ab o rfl) (congrArg Value.bool K0')) λo=>dg 12 u.ld o rfl (λw hl=>Ab o rfl) λo=>dg 13 u.ld o rfl (λw hl=>Ab o rfl) λo=>dg 15 u.ld o rfl (λw hl=>Af o Db rfl) λo=>dg 16 u.ld o rfl (λw hl=>Ag o isAgg9 rfl (hl.cellB t0 rfl)) λo=>da1 (i:=14) (by kernel_rfl) ?_
 refine di (i:=14) rfl<|gy o rfl rfl<|k1 (vs:=[Ac [110]]) (caps:=[PT C0]) o rfl rfl call146 (Gt (Ai _) (Tab.mono hT (St.up u)) (St.blkO u t1) V0) ⟨rfl,trivial⟩ rfl (λv w a hR o=>?_)
 obtain ⟨rfl,hk⟩:=hR
 replace u:=u.pass hk
 refine ⟨λ_=>u.ld,?_⟩
 refine da1 (i:=17) (by kernel_rfl) ?_
 refine di (i:=17) rfl<|gy o rfl rfl<|k1 (vs:=[.bool U0,Ac p1.Name]) (caps:=[]) o rfl rfl call148 (Ln (Ai _) (Tab.mono hT (St.up u)) W0) ⟨rfl,rfl,trivial⟩ rfl (λv w a hR o=>?_)
 obtain ⟨rfl,hk⟩:=hR
 replace u:=u.pass hk
 refine ⟨λ_=>u.ld,?_⟩
 refine dg 18 u.ld o rfl (λw hl=>Ba o rfl) λo=>dr 19 u o rfl (Ae o rfl rfl) λo=>dr 20 u o rfl (Ar (Ab o rfl) (congrArg Value.bool M0')) λo=>dg 21 u.ld o rfl (λw hl=>Ab o rfl) λo=>dg 22 u.ld o rfl (λw hl=>Ab o rfl) λo=>dg 24 u.ld o rfl (λw hl=>Af o Dp rfl) λo=>dg 25 u.ld o rfl (λw hl=>Ag o isAgg49 rfl (hl.cellB t0 rfl)) λo=>da1 (i:=23) (by kernel_rfl) ?_
 refine di (i:=23) rfl<|gy o rfl rfl<|k1 (vs:=[Ac [101]]) (caps:=[PT C0]) o rfl rfl call146 (Gt (Ai _) (Tab.mono hT (St.up u)) (St.blkO u t1) B1) ⟨rfl,trivial⟩ rfl (λv w a hR o=>?_)
 obtain ⟨rfl,hk⟩:=hR
 replace u:=u.pass hk
 refine ⟨λ_=>u.ld,?_⟩
 refine da1 (i:=26) (by kernel_rfl) ?_
 refine di (i:=26) rfl<|gy o rfl rfl<|k1 (vs:=[.bool u0,SL P0 p1.E F0]) (caps:=[]) o rfl rfl call149 (Uu (Ai _) (Tab.mono hT (St.up u)) X0 (St.srH u Y0) E1) ⟨rfl,rfl,trivial⟩ rfl (λv w a hR o=>?_)
 obtain ⟨rfl,hk⟩:=hR
 replace u:=u.pass hk
 refine ⟨λ_=>u.ld,?_⟩
 refine dg 27 u.ld o rfl (λw hl=>Ba o rfl) λo=>dr 28 u o rfl (Ae o rfl rfl) λo=>dr 29 u o rfl (Ar (Ab o rfl) (congrArg Value.bool O0')) λo=>dg 30 u.ld o rfl (λw hl=>Ab o rfl) λo=>dg 31 u.ld o rfl (λw hl=>Ab o rfl) λo=>dg 33 u.ld o rfl (λw hl=>Af o Gy rfl) λo=>dg 34 u.ld o rfl (λw hl=>Ag o isAgg49 rfl (hl.cellB t0 rfl)) λo=>da1 (i:=32) (by kernel_rfl) ?_
 refine di (i:=32) rfl<|gy o rfl rfl<|k1 (vs:=[Ac [102]]) (caps:=[PT C0]) o rfl rfl call146 (Gt (Ai _) (Tab.mono hT (St.up u)) (St.blkO u t1) O1) ⟨rfl,trivial⟩ rfl (λv w a hR o=>?_)
 obtain ⟨rfl,hk⟩:=hR
 replace u:=u.pass hk
 refine ⟨λ_=>u.ld,?_⟩
 refine da1 (i:=35) (by kernel_rfl) ?_
 refine di (i:=35) rfl<|gy o rfl rfl<|k1 (vs:=[.bool M1,SL T0 p1.F G0]) (caps:=[]) o rfl rfl call149 (Uu (Ai _) (Tab.mono hT (St.up u)) F1 (St.srH u G1) P1) ⟨rfl,rfl,trivial⟩ rfl (λv w a hR o=>?_)
 obtain ⟨rfl,hk⟩:=hR
 replace u:=u.pass hk
 refine ⟨λ_=>u.ld,?_⟩
 refine dg 36 u.ld o rfl (λw hl=>Ba o rfl) λo=>dr 37 u o rfl (Ae o rfl rfl) λo=>dr 38 u o rfl (Bq o rfl) λo=>de (by kernel_rfl)<|tn<|wr<|?_
 obtain rfl:=si hm
 exact r1 o results110 rfl ⟨rfl,u.keep⟩
 have O0':(!C1)=true:=by rw [O0];rfl
 refine rdS 39 u wide λw u=>dr 0 u o rfl (Ab o rfl) λo=>dr 1 u o rfl (Ba o rfl) λo=>dr 2 u o rfl (Ar (Ab o rfl) (congrArg Value.bool J0')) λo=>dg 3 u.ld o rfl (λw hl=>Ab o rfl) λo=>dg 4 u.ld o rfl (λw hl=>Ab o rfl) λo=>dg 6 u.ld o rfl (λw hl=>Af o Cn rfl) λo=>dg 7 u.ld o rfl (λw hl=>Ag o isAgg9 rfl (hl.cellB t0 rfl)) λo=>da1 (i:=5) (by kernel_rfl) ?_
 refine di (i:=5) rfl<|gy o rfl rfl<|k1 (vs:=[Ac [114]]) (caps:=[PT C0]) o rfl rfl call146 (Gt (Ai _) (Tab.mono hT (St.up u)) (St.blkO u t1) R0) ⟨rfl,trivial⟩ rfl (λv w a hR o=>?_)
 obtain ⟨rfl,hk⟩:=hR
 replace u:=u.pass hk
 refine ⟨λ_=>u.ld,?_⟩
 refine da1 (i:=8) (by kernel_rfl) ?_
 refine di (i:=8) rfl<|gy o rfl rfl<|k1 (vs:=[.bool Q0,Ac p1.Reg]) (caps:=[]) o rfl rfl call148 (Ln (Ai _) (Tab.mono hT (St.up u)) S0) ⟨rfl,rfl,trivial⟩ rfl (λv w a hR o=>?_)
 obtain ⟨rfl,hk⟩:=hR
 replace u:=u.pass hk
 refine ⟨λ_=>u.ld,?_⟩
 refine dg 9 u.ld o rfl (λw hl=>Ba o rfl) λo=>dr 10 u o rfl (Ae o rfl rfl) λo=>dr 11 u o rfl (Ar (Ab o rfl) (congrArg Value.bool K0')) λo=>dg 12 u.ld o rfl (λw hl=>Ab o rfl) λo=>dg 13 u.ld o rfl (λw hl=>Ab o rfl) λo=>dg 15 u.ld o rfl (λw hl=>Af o Db rfl) λo=>dg 16 u.ld o rfl (λw hl=>Ag o isAgg9 rfl (hl.cellB t0 rfl)) λo=>da1 (i:=14) (by kernel_rfl) ?_
 refine di (i:=14) rfl<|gy o rfl rfl<|k1 (vs:=[Ac [110]]) (caps:=[PT C0]) o rfl rfl call146 (Gt (Ai _) (Tab.mono hT (St.up u)) (St.blkO u t1) V0) ⟨rfl,trivial⟩ rfl (λv w a hR o=>?_)
 obtain ⟨rfl,hk⟩:=hR
 replace u:=u.pass hk
 refine ⟨λ_=>u.ld,?_⟩
 refine da1 (i:=17) (by kernel_rfl) ?_
 refine di (i:=17) rfl<|gy o rfl rfl<|k1 (vs:=[.bool U0,Ac p1.Name]) (caps:=[]) o rfl rfl call148 (Ln (Ai _) (Tab.mono hT (St.up u)) W0) ⟨rfl,rfl,trivial⟩ rfl (λv w a hR o=>?_)
 obtain ⟨rfl,hk⟩:=hR
 replace u:=u.pass hk
 refine ⟨λ_=>u.ld,?_⟩
 refine dg 18 u.ld o rfl (λw hl=>Ba o rfl) λo=>dr 19 u o rfl (Ae o rfl rfl) λo=>dr 20 u o rfl (Ar (Ab o rfl) (congrArg Value.bool M0')) λo=>dg 21 u.ld o rfl (λw hl=>Ab o rfl) λo=>dg 22 u.ld o rfl (λw hl=>Ab o rfl) λo=>dg 24 u.ld o rfl (λw hl=>Af o Dp rfl) λo=>dg 25 u.ld o rfl (λw hl=>Ag o isAgg49 rfl (hl.cellB t0 rfl)) λo=>da1 (i:=23) (by kernel_rfl) ?_
 refine di (i:=23) rfl<|gy o rfl rfl<|k1 (vs:=[Ac [101]]) (caps:=[PT C0]) o rfl rfl call146 (Gt (Ai _) (Tab.mono hT (St.up u)) (St.blkO u t1) B1) ⟨rfl,trivial⟩ rfl (λv w a hR o=>?_)
 obtain ⟨rfl,hk⟩:=hR
 replace u:=u.pass hk
 refine ⟨λ_=>u.ld,?_⟩
 refine da1 (i:=26) (by kernel_rfl) ?_
 refine di (i:=26) rfl<|gy o rfl rfl<|k1 (vs:=[.bool u0,SL P0 p1.E F0]) (caps:=[]) o rfl rfl call149 (Uu (Ai _) (Tab.mono hT (St.up u)) X0 (St.srH u Y0) E1) ⟨rfl,rfl,trivial⟩ rfl (λv w a hR o=>?_)
 obtain ⟨rfl,hk⟩:=hR
 replace u:=u.pass hk
 refine ⟨λ_=>u.ld,?_⟩
 refine dg 27 u.ld o rfl (λw hl=>Ba o rfl) λo=>dr 28 u o rfl (Ae o rfl rfl) λo=>dr 29 u o rfl (Ar (Ab o rfl) (congrArg Value.bool O0')) λo=>dn 30 u.ld o rfl λo=>dn 31 u.ld o rfl λo=>dn 32 u.ld o rfl λo=>dn 33 u.ld o rfl λo=>dn 34 u.ld o rfl λo=>dn 35 u.ld o rfl λo=>dn 36 u.ld o rfl λo=>dr 37 u o rfl (Ad o rfl rfl) λo=>dr 38 u o rfl (Bq o rfl) λo=>de (by kernel_rfl)<|tn<|wr<|?_
 obtain rfl:=si hm
 exact r1 o results110 rfl ⟨rfl,u.keep⟩
 have M0':(!p0)=true:=by rw [M0];rfl
 refine rdS 39 u wide λw u=>dr 0 u o rfl (Ab o rfl) λo=>dr 1 u o rfl (Ba o rfl) λo=>dr 2 u o rfl (Ar (Ab o rfl) (congrArg Value.bool J0')) λo=>dg 3 u.ld o rfl (λw hl=>Ab o rfl) λo=>dg 4 u.ld o rfl (λw hl=>Ab o rfl) λo=>dg 6 u.ld o rfl (λw hl=>Af o Cn rfl) λo=>dg 7 u.ld o rfl (λw hl=>Ag o isAgg9 rfl (hl.cellB t0 rfl)) λo=>da1 (i:=5) (by kernel_rfl) ?_
 refine di (i:=5) rfl<|gy o rfl rfl<|k1 (vs:=[Ac [114]]) (caps:=[PT C0]) o rfl rfl call146 (Gt (Ai _) (Tab.mono hT (St.up u)) (St.blkO u t1) R0) ⟨rfl,trivial⟩ rfl (λv w a hR o=>?_)
 obtain ⟨rfl,hk⟩:=hR
 replace u:=u.pass hk
 refine ⟨λ_=>u.ld,?_⟩
 refine da1 (i:=8) (by kernel_rfl) ?_
 refine di (i:=8) rfl<|gy o rfl rfl<|k1 (vs:=[.bool Q0,Ac p1.Reg]) (caps:=[]) o rfl rfl call148 (Ln (Ai _) (Tab.mono hT (St.up u)) S0) ⟨rfl,rfl,trivial⟩ rfl (λv w a hR o=>?_)
 obtain ⟨rfl,hk⟩:=hR
 replace u:=u.pass hk
 refine ⟨λ_=>u.ld,?_⟩
 refine dg 9 u.ld o rfl (λw hl=>Ba o rfl) λo=>dr 10 u o rfl (Ae o rfl rfl) λo=>dr 11 u o rfl (Ar (Ab o rfl) (congrArg Value.bool K0')) λo=>dg 12 u.ld o rfl (λw hl=>Ab o rfl) λo=>dg 13 u.ld o rfl (λw hl=>Ab o rfl) λo=>dg 15 u.ld o rfl (λw hl=>Af o Db rfl) λo=>dg 16 u.ld o rfl (λw hl=>Ag o isAgg9 rfl (hl.cellB t0 rfl)) λo=>da1 (i:=14) (by kernel_rfl) ?_
 refine di (i:=14) rfl<|gy o rfl rfl<|k1 (vs:=[Ac [110]]) (caps:=[PT C0]) o rfl rfl call146 (Gt (Ai _) (Tab.mono hT (St.up u)) (St.blkO u t1) V0) ⟨rfl,trivial⟩ rfl (λv w a hR o=>?_)
 obtain ⟨rfl,hk⟩:=hR
 replace u:=u.pass hk
 refine ⟨λ_=>u.ld,?_⟩
 refine da1 (i:=17) (by kernel_rfl) ?_
 refine di (i:=17) rfl<|gy o rfl rfl<|k1 (vs:=[.bool U0,Ac p1.Name]) (caps:=[]) o rfl rfl call148 (Ln (Ai _) (Tab.mono hT (St.up u)) W0) ⟨rfl,rfl,trivial⟩ rfl (λv w a hR o=>?_)
 obtain ⟨rfl,hk⟩:=hR
 replace u:=u.pass hk
 refine ⟨λ_=>u.ld,?_⟩
 refine dg 18 u.ld o rfl (λw hl=>Ba o rfl) λo=>dr 19 u o rfl (Ae o rfl rfl) λo=>dr 20 u o rfl (Ar (Ab o rfl) (congrArg Value.bool M0')) λo=>dn 21 u.ld o rfl λo=>dn 22 u.ld o rfl λo=>dn 23 u.ld o rfl λo=>dn 24 u.ld o rfl λo=>dn 25 u.ld o rfl λo=>dn 26 u.ld o rfl λo=>dn 27 u.ld o rfl λo=>dr 28 u o rfl (Ad o rfl rfl) λo=>dr 29 u o rfl (Ab o rfl) λo=>dn 30 u.ld o rfl λo=>dn 31 u.ld o rfl λo=>dn 32 u.ld o rfl λo=>dn 33 u.ld o rfl λo=>dn 34 u.ld o rfl λo=>dn 35 u.ld o rfl λo=>dn 36 u.ld o rfl λo=>dr 37 u o rfl (Ad o rfl rfl) λo=>dr 38 u o rfl (Bq o rfl) λo=>de (by kernel_rfl)<|tn<|wr<|?_
 obtain rfl:=si hm
 exact r1 o results110 rfl ⟨rfl,u.keep⟩
 have K0':(!n0)=true:=by rw [K0];rfl
 refine rdS 39 u wide λw u=>dr 0 u o rfl (Ab o rfl) λo=>dr 1 u o rfl (Ba o rfl) λo=>dr 2 u o rfl (Ar (Ab o rfl) (congrArg Value.bool J0')) λo=>dg 3 u.ld o rfl (λw hl=>Ab o rfl) λo=>dg 4 u.ld o rfl (λw hl=>Ab o rfl) λo=>dg 6 u.ld o rfl (λw hl=>Af o Cn rfl) λo=>dg 7 u.ld o rfl (λw hl=>Ag o isAgg9 rfl (hl.cellB t0 rfl)) λo=>da1 (i:=5) (by kernel_rfl) ?_
 refine di (i:=5) rfl<|gy o rfl rfl<|k1 (vs:=[Ac [114]]) (caps:=[PT C0]) o rfl rfl call146 (Gt (Ai _) (Tab.mono hT (St.up u)) (St.blkO u t1) R0) ⟨rfl,trivial⟩ rfl (λv w a hR o=>?_)
 obtain ⟨rfl,hk⟩:=hR
 replace u:=u.pass hk
 refine ⟨λ_=>u.ld,?_⟩
 refine da1 (i:=8) (by kernel_rfl) ?_
 refine di (i:=8) rfl<|gy o rfl rfl<|k1 (vs:=[.bool Q0,Ac p1.Reg]) (caps:=[]) o rfl rfl call148 (Ln (Ai _) (Tab.mono hT (St.up u)) S0) ⟨rfl,rfl,trivial⟩ rfl (λv w a hR o=>?_)
 obtain ⟨rfl,hk⟩:=hR
 replace u:=u.pass hk
 refine ⟨λ_=>u.ld,?_⟩
 refine dg 9 u.ld o rfl (λw hl=>Ba o rfl) λo=>dr 10 u o rfl (Ae o rfl rfl) λo=>dr 11 u o rfl (Ar (Ab o rfl) (congrArg Value.bool K0')) λo=>dn 12 u.ld o rfl λo=>dn 13 u.ld o rfl λo=>dn 14 u.ld o rfl λo=>dn 15 u.ld o rfl λo=>dn 16 u.ld o rfl λo=>dn 17 u.ld o rfl λo=>dn 18 u.ld o rfl λo=>dr 19 u o rfl (Ad o rfl rfl) λo=>dr 20 u o rfl (Ab o rfl) λo=>dn 21 u.ld o rfl λo=>dn 22 u.ld o rfl λo=>dn 23 u.ld o rfl λo=>dn 24 u.ld o rfl λo=>dn 25 u.ld o rfl λo=>dn 26 u.ld o rfl λo=>dn 27 u.ld o rfl λo=>dr 28 u o rfl (Ad o rfl rfl) λo=>dr 29 u o rfl (Ab o rfl) λo=>dn 30 u.ld o rfl λo=>dn 31 u.ld o rfl λo=>dn 32 u.ld o rfl λo=>dn 33 u.ld o rfl λo=>dn 34 u.ld o rfl λo=>dn 35 u.ld o rfl λo=>dn 36 u.ld o rfl λo=>dr 37 u o rfl (Ad o rfl rfl) λo=>dr 38 u o rfl (Bq o rfl) λo=>de (by kernel_rfl)<|?_
 refine tn<|wr<|?_
 obtain rfl:=si hm
 exact r1 o results110 rfl ⟨rfl,u.keep⟩
 have J0':(!(((((decide (1≤p1.Kind)) && (decide (p1.Kind < 15))) && (decide (0≤p1.At))) && (decide (p1.At≤4000))) && D0))=true:=by rw [J0];rfl
 refine rxS 39 u wide (by kernel_rfl) λw u=>xm u o rfl λo=>xr u o (Ba o rfl) λo=>xr u o (Ar (Ab o rfl) (congrArg Value.bool J0')) λo=>?_
 iterate 7 refine xn u.ld o λo=>?_
 refine xr u o (Ad o rfl rfl) λo=>xm u o rfl λo=>?_
 iterate 7 refine xn u.ld o λo=>?_
 refine xr u o (Ad o rfl rfl) λo=>xm u o rfl λo=>?_
 iterate 7 refine xn u.ld o λo=>?_
 refine xr u o (Ad o rfl rfl) λo=>xm u o rfl λo=>?_
 iterate 7 refine xn u.ld o λo=>?_
 refine xr u o (Ad o rfl rfl) λo=>xr u o (Bq o rfl) λo=>xe<|tn<|wr<|?_
 obtain rfl:=si hm
 exact r1 o results110 rfl ⟨rfl,u.keep⟩
theorem Jbe (hH:H.le w0) (hT:Tab H) {K0:Option Addr} {E0:Nat} {p1:(List api_Stmt)} (_:p1.length≤E0) (Q0:SR H K0 p1) {r:Int} (hm:Zag N p1=some r):Tot Tryz.prog 144 #[SL K0 p1 E0,.func (.func 110) #[] #[]] w0 (λv w'=>v=i6 r∧Keep Nil w0 w'):=by
 unfold Zag at hm
 refine fn0 func144 rfl ntmps144 rfl rfl λa o=>?_
 have u:St w0 Nil [H] [] w0:=start1 hH
 refine th<|rg<|qa o rfl λo=>re<|tn<|th<|th<|rg<|qm o rfl λo=>qv o (Ak (α:=api_Stmt) (xs:=p1) o runUnderlying46 rfl) λo=>qm o rfl λo=>re<|tn<|Av (λa w=>Zah=some r∧Fr 19 [] a∧St w0 Nil [H] [] w) ?_ ?_
 refine wb<|lp (α:=Nat×Int) (λgh a w=>match gh with | (D0,G0)=>(Zai N Zah p1) D0 G0=some r∧Fr 19 [(0,SL K0 p1 E0),(1,.func (.func 110) #[] #[]),(7,i6 (p1.length:Int)),(8,i6 G0)] a∧St w0 Nil [H] [] w) (λgh=>gh.1) (N,0) ⟨hm,o.hs,u⟩ ?_
 rintro ⟨D0,G0⟩ a w ⟨hm,o,u⟩
 obtain _ | D0:=D0
 simp [Zai] at hm
 rw [Zai] at hm
 refine th<|rg<|qv o (Ao o rfl rfl) λo=>re<|?_
 rcases bip hm with ⟨M0,hm⟩ | ⟨M0,hm⟩
 refine tn<|th<|ctv o rfl M0<|wk<|tn<|th<|wb<|th<|rg<|qm o rfl λo=>qa o rfl λo=>re<|tn<|th<|?_
 obtain ⟨C0,h8,hm⟩:=bs hm
 obtain ⟨cz9,W0,R0⟩:=SR.get Q0 h8
 obtain ⟨O0,I0,P0,J0,rfl,S0,T0,U0,V0⟩:=Bm W0
 obtain ⟨Y0,X0,hm⟩:=bs hm
 refine rg<|qm o rfl λo=>?_
 iterate 2 refine qm o rfl λo=>?_
 refine qv o (Am o runUnderlying46 sizeOf51 rfl rfl h8 (SR.oaI Q0 (by decide) h8)) λo=>qv o (Ay o isAgg51 sizeOf51 rfl rfl (λj v hj=>PH.le.cell (Lds.le u.ld) (R0 j v hj))) λo=>ls<|k1 (vs:=[.agg #[i6 C0.Kind,Ac C0.Reg,Ac C0.Name,SL O0 C0.E I0,SL P0 C0.F J0,i6 C0.N,i6 C0.Body,i6 C0.Else,i6 C0.At]]) (caps:=[]) o rfl rfl call110 (Jbd (Ai _) (Tab.mono hT (St.up u)) (Enc.mono (St.up u) (show Enc.rep (α:=api_Stmt) H [i6 C0.Kind,Ac C0.Reg,Ac C0.Name,SL O0 C0.E I0,SL P0 C0.F J0,i6 C0.N,i6 C0.Body,i6 C0.Else,i6 C0.At] C0 from ⟨_,_,rfl,rfl,⟨_,_,rfl,rfl,⟨_,_,rfl,rfl,⟨_,_,rfl,⟨_,_,rfl,S0,T0⟩,⟨_,_,rfl,⟨_,_,rfl,U0,V0⟩,⟨_,_,rfl,rfl,⟨_,_,rfl,rfl,⟨_,_,rfl,rfl,rfl⟩⟩⟩⟩⟩⟩⟩⟩)) X0) ⟨rfl,trivial⟩ rfl (λv w a hR o=>?_)
 obtain ⟨rfl,hk⟩:=hR
 replace u:=u.pass hk
 refine re<|?_
 rcases bit hm with ⟨F0,hm⟩ | ⟨F0,hm⟩
 refine tn<|ctv o rfl F0<|th<|rg<|qm o rfl λo=>qa o rfl λo=>re<|tn<|wr<|br<|tr<|tr<|br<|tr<|?_
 obtain rfl:=si hm
 exact r1 o results144 rfl ⟨rfl,u.keep⟩
 refine tn<|cfv o rfl F0<|wk<|bn<|tn<|rg<|qv o (Ap o rfl rfl) λo=>qm o rfl λo=>re<|tn<|?_
 exact ⟨(D0,(IntKind.i64.wrap (G0+1))),⟨hm,o.hs,u⟩,Nat.lt_succ_self _⟩
 refine tn<|th<|cfv o rfl M0<|we<|tx<|tx<|bx<|tn<|?_
 exact ⟨hm,o.has trivial,u⟩
 rintro a w ⟨hm,o,u⟩
 unfold Zah at hm
 refine th<|rg<|qa o rfl λo=>re<|tn<|wr<|?_
 obtain rfl:=si hm
 exact r1 o results144 rfl ⟨rfl,u.keep⟩
theorem JaV (hH:H.le w0) (hT:Tab H) {D0:Option Addr} {C0:Nat} {p1:(List api_Stmt)} (E0:p1.length≤C0) (F0:SR H D0 p1) {r:Bool} (hm:Z9v N p1=some r):Tot Tryz.prog 109 #[SL D0 p1 C0,.func (.func 110) #[] #[]] w0 (λv w'=>v=.bool r∧Keep Nil w0 w'):=by
 unfold Z9v at hm
 refine fn0 func109 rfl ntmps109 rfl rfl λa o=>?_
 have u:St w0 Nil [H] [] w0:=start1 hH
 refine th<|rg<|qa o rfl λo=>re<|tn<|th<|?_
 obtain ⟨G0,h7,hm⟩:=bs hm
 refine rg<|qm o rfl λo=>qm o rfl λo=>ls<|cr o call144 (Jbe (Ai _) (Tab.mono hT (St.up u)) E0 (St.srH u F0) h7) u λu o=>qv o (Bl o rfl rfl) λo=>qa o rfl λo=>re<|tn<|wr<|?_
 obtain rfl:=si hm
 exact r1 o results109 rfl ⟨rfl,u.keep⟩
theorem JbO (hH:H.le w0) {p1:Bool} {r:Int} (hm:Zbf N p1=some r):Tot Tryz.prog 150 #[.bool p1] w0 (λv w'=>v=i6 r∧Keep Nil w0 w'):=by
 unfold Zbf at hm
 refine fn0 func150 rfl ntmps150 rfl rfl λa o=>?_
 have u:St w0 Nil [H] [] w0:=start1 hH
 refine th<|rg<|qa o rfl λo=>re<|tn<|th<|th<|rg<|qm o rfl λo=>re<|?_
 rcases bit hm with ⟨C0,hm⟩ | ⟨C0,hm⟩
 refine tn<|ctv o rfl C0<|th<|rg<|qa o rfl λo=>re<|tn<|wr<|tr<|?_
 obtain rfl:=si hm
 exact r1 o results150 rfl ⟨rfl,u.keep⟩
 refine tn<|cfv o rfl C0<|wk<|tn<|th<|rg<|qa o rfl λo=>re<|tn<|wr<|?_
 obtain rfl:=si hm
 exact r1 o results150 rfl ⟨rfl,u.keep⟩
set_option maxHeartbeats 4000000 in
theorem JbK:∀ (N:Nat) {w0:World} {H:PH} (_:H.le w0) {G0:Option Addr} {E0:Nat} {p1:(List api_Stmt)} (_:p1.length≤E0) (_:SR H G0 p1) {p6:Int} {r:Int} (_:Zb4 N p1 p6=some r),Tot Tryz.prog 111 #[SL G0 p1 E0,i6 p6] w0 (λv w'=>v=i6 r∧Keep Nil w0 w'):=by
 intro N
 induction N with
  | zero=>intros;rename_i hm;simp [Zb4] at hm
  | succ N ih=>
 intro w0 H hH G0 E0 p1 S0 T0 p6 r hm
 rw [Zb4] at hm
 refine fn0 func111 rfl ntmps111 rfl rfl λa o=>?_
 have u:St w0 Nil [H] [] w0:=start1 hH
 refine th<|rg<|qa o rfl λo=>re<|tn<|th<|rg<|qa o rfl λo=>re<|tn<|th<|th<|rg<|qa o rfl λo=>re<|tn<|Av (λa w=>∃ (V0:Int),Zb5 V0=some r∧Fr 131 [(5,i6 V0)] a∧St w0 Nil [H] [] w) ?_ ?_
 refine wb<|lp (α:=Nat×Int×Int) (λgh a w=>match gh with | (J0,F0,D0)=>(Zb8 (Zb4 N) N Zb5 p1 p6) J0 F0 D0=some r∧Fr 131 [(0,SL G0 p1 E0),(1,i6 p6),(5,i6 F0),(6,i6 D0)] a∧St w0 Nil [H] [] w) (λgh=>gh.1) (N,0,0) ⟨hm,o.hs,u⟩ ?_
 rintro ⟨J0,F0,D0⟩ a w ⟨hm,o,u⟩
 obtain _ | J0:=J0
 simp [Zb8] at hm
 rw [Zb8] at hm
 refine th<|th<|rg<|qm o rfl λo=>qm o rfl λo=>qv o (Ak (α:=api_Stmt) (xs:=p1) o runUnderlying46 rfl) λo=>qv o (Ao o rfl rfl) λo=>re<|?_
 rcases bip hm with ⟨W0,hm⟩ | ⟨W0,hm⟩
 refine tn<|ctv o rfl W0<|wk<|tn<|wb<|th<|?_
 obtain ⟨C0,h9,hm⟩:=bs hm
 obtain ⟨E2,O1,C1⟩:=SR.get T0 h9
 obtain ⟨E1,n0,F1,p0,rfl,U1,V1,X1,Y1⟩:=Bm O1
 refine rg<|qm o rfl λo=>qm o rfl λo=>qv o (Am o runUnderlying46 sizeOf51 rfl rfl h9 (SR.oaI T0 (by decide) h9)) λo=>qv o (Ay o isAgg51 sizeOf51 rfl rfl (λj v hj=>PH.le.cell (Lds.le u.ld) (C1 j v hj))) λo=>ls<|Au (cs:=[i6 0,Ac [],Ac [],.slice none 0 0,.slice none 0 0,i6 0,i6 0,i6 0,i6 0].toArray) o rfl u zeroValue51 rfl λI0 w a u o=>ls<|Az o u sizeOf51 rfl rfl rfl rfl (Al rfl) .head λw u=>re<|tn<|th<|rg<|qm o rfl λo=>qv o (Ap o rfl rfl) λo=>qv o (Af o Dx rfl) λo=>qv o (Ag o isAgg3 rfl (u.ld.cellB t0 rfl)) λo=>qv o (Ap o rfl rfl) λo=>qv o (Af o Ei rfl) λo=>qv o (Ag o isAgg3 rfl (u.ld.cellB t0 rfl)) λo=>qv o (Ap o rfl rfl) λo=>qa o rfl λo=>re<|tn<|th<|rg<|qv o (Af o Cj rfl) λo=>qv o (Ag o isAgg3 rfl (u.ld.cellB t0 rfl)) λo=>qv o (An o rfl rfl) λo=>qm o rfl λo=>gr (Fk:=[(0,SL G0 p1 E0),(1,i6 p6),(5,i6 F0),(6,i6 D0),(7,PT I0),(8,i6 (IntKind.i64.wrap ((IntKind.i64.wrap ((IntKind.i64.wrap (D0+1))+C0.Body))+C0.Else))),(36,.bool ((decide (C0.Kind=11)) || (decide (C0.Kind=12))))]) 32 4 o u ?_ ?_ ?_
 intro hb o key
 iterate 3 refine qn o λo=>?_
 exact qk o (Ad o rfl rfl) key u hb
 intro hb o key
 exact qg o (Af o Cj rfl) λo=>qg o (Ag o isAgg3 rfl (u.ld.cellB t0 rfl)) λo=>qg o (An o rfl rfl) λo=>qk o (Ae o rfl rfl) key u hb
 intro a w o u
 refine qa o rfl λo=>re<|tn<|th<|wb<|th<|rg<|qv o (Af o Dx rfl) λo=>qv o (Ag o isAgg3 rfl (u.ld.cellB t0 rfl)) λo=>qv o (Ao o rfl rfl) λo=>qm o rfl λo=>gr (Fk:=[(0,SL G0 p1 E0),(1,i6 p6),(5,i6 F0),(6,i6 D0),(7,PT I0),(8,i6 (IntKind.i64.wrap ((IntKind.i64.wrap ((IntKind.i64.wrap (D0+1))+C0.Body))+C0.Else))),(9,.bool ((decide (C0.Kind=11)) || (decide (C0.Kind=12)))),(45,.bool ((decide (C0.Body < 0)) || (decide (C0.Else < 0))))]) 41 4 o u ?_ ?_ ?_
 intro hb o key
 iterate 3 refine qn o λo=>?_
 exact qk o (Ad o rfl rfl) key u hb
 intro hb o key
 exact qg o (Af o Ei rfl) λo=>qg o (Ag o isAgg3 rfl (u.ld.cellB t0 rfl)) λo=>qg o (Ao o rfl rfl) λo=>qk o (Ae o rfl rfl) key u hb
 intro a w o u
 refine qm o rfl λo=>gr (Fk:=[(0,SL G0 p1 E0),(1,i6 p6),(5,i6 F0),(6,i6 D0),(7,PT I0),(8,i6 (IntKind.i64.wrap ((IntKind.i64.wrap ((IntKind.i64.wrap (D0+1))+C0.Body))+C0.Else))),(9,.bool ((decide (C0.Kind=11)) || (decide (C0.Kind=12)))),(52,.bool (((decide (C0.Body < 0)) || (decide (C0.Else < 0))) || (decide ((p1.length:Int) < C0.Body))))]) 46 6 o u ?_ ?_ ?_
 intro hb o key
 iterate 5 refine qn o λo=>?_
 exact qk o (Ad o rfl rfl) key u hb
 intro hb o key
 exact qg o (Af o Dx rfl) λo=>qg o (Ag o isAgg3 rfl (u.ld.cellB t0 rfl)) λo=>qg o (Ab o rfl) λo=>qg o (Ak (α:=api_Stmt) (xs:=p1) o runUnderlying46 rfl) λo=>qg o (Bd o rfl rfl) λo=>qk o (Ae o rfl rfl) key u hb
 intro a w o u
 refine qm o rfl λo=>gr (Fk:=[(0,SL G0 p1 E0),(1,i6 p6),(5,i6 F0),(6,i6 D0),(7,PT I0),(8,i6 (IntKind.i64.wrap ((IntKind.i64.wrap ((IntKind.i64.wrap (D0+1))+C0.Body))+C0.Else))),(9,.bool ((decide (C0.Kind=11)) || (decide (C0.Kind=12)))),(59,.bool ((((decide (C0.Body < 0)) || (decide (C0.Else < 0))) || (decide ((p1.length:Int) < C0.Body))) || (decide ((p1.length:Int) < C0.Else))))]) 53 6 o u ?_ ?_ ?_
 intro hb o key
 iterate 5 refine qn o λo=>?_
 exact qk o (Ad o rfl rfl) key u hb
 intro hb o key
 exact qg o (Af o Ei rfl) λo=>qg o (Ag o isAgg3 rfl (u.ld.cellB t0 rfl)) λo=>qg o (Ab o rfl) λo=>qg o (Ak (α:=api_Stmt) (xs:=p1) o runUnderlying46 rfl) λo=>qg o (Bd o rfl rfl) λo=>qk o (Ae o rfl rfl) key u hb
 intro a w o u
 refine qm o rfl λo=>gr (Fk:=[(0,SL G0 p1 E0),(1,i6 p6),(5,i6 F0),(6,i6 D0),(7,PT I0),(8,i6 (IntKind.i64.wrap ((IntKind.i64.wrap ((IntKind.i64.wrap (D0+1))+C0.Body))+C0.Else))),(9,.bool ((decide (C0.Kind=11)) || (decide (C0.Kind=12)))),(65,.bool (((((decide (C0.Body < 0)) || (decide (C0.Else < 0))) || (decide ((p1.length:Int) < C0.Body))) || (decide ((p1.length:Int) < C0.Else))) || (decide ((p1.length:Int) < (IntKind.i64.wrap ((IntKind.i64.wrap ((IntKind.i64.wrap (D0+1))+C0.Body))+C0.Else))))))]) 60 5 o u ?_ ?_ ?_
 intro hb o key
 iterate 4 refine qn o λo=>?_
 exact qk o (Ad o rfl rfl) key u hb
 intro hb o key
 iterate 2 refine qg o (Ab o rfl) λo=>?_
 exact qg o (Ak (α:=api_Stmt) (xs:=p1) o runUnderlying46 rfl) λo=>qg o (Bd o rfl rfl) λo=>qk o (Ae o rfl rfl) key u hb
 intro a w o u
 refine qa o rfl λo=>re<|?_
 rcases bit hm with ⟨K0,hm⟩ | ⟨K0,hm⟩
 refine tn<|ctv o rfl K0<|th<|rg<|qa o rfl λo=>re<|tn<|wr<|br<|tr<|br<|tr<|br<|tr<|?_
 obtain rfl:=si hm
 exact r1 o results111 rfl ⟨rfl,u.keep⟩
 refine tn<|cfv o rfl K0<|th<|th<|rg<|qm o rfl λo=>qv o (Ba o rfl) λo=>qm o rfl λo=>gr (Fk:=[(0,SL G0 p1 E0),(1,i6 p6),(5,i6 F0),(6,i6 D0),(7,PT I0),(8,i6 (IntKind.i64.wrap ((IntKind.i64.wrap ((IntKind.i64.wrap (D0+1))+C0.Body))+C0.Else))),(9,.bool ((decide (C0.Kind=11)) || (decide (C0.Kind=12)))),(73,.bool ((!((decide (C0.Kind=11)) || (decide (C0.Kind=12)))) && (decide (0 < C0.Body))))]) 69 4 o u ?_ ?_ ?_
 intro hb o key
 exact qg o (Af o Dx rfl) λo=>qg o (Ag o isAgg3 rfl (u.ld.cellB t0 rfl)) λo=>qg o (Bd o rfl rfl) λo=>qk o (Ad o rfl rfl) key u hb
 intro hb o key
 iterate 3 refine qn o λo=>?_
 exact qk o (Ae o rfl rfl) key u hb
 intro a w o u
 refine qa o rfl λo=>re<|tn<|Av (λa w=>∃ (X0:Bool),(Zb6 (Zb4 N) N ((Zb8 (Zb4 N) N Zb5 p1 p6) J0) p1 p6 C0 F0 D0) X0=some r∧Fr 131 [(0,SL G0 p1 E0),(1,i6 p6),(5,i6 F0),(6,i6 D0),(7,PT I0),(8,i6 (IntKind.i64.wrap ((IntKind.i64.wrap ((IntKind.i64.wrap (D0+1))+C0.Body))+C0.Else))),(9,.bool ((decide (C0.Kind=11)) || (decide (C0.Kind=12)))),(66,.bool X0)] a∧St w0 Nil [H] [bk I0 [i6 C0.Kind,Ac C0.Reg,Ac C0.Name,SL E1 C0.E n0,SL F1 C0.F p0,i6 C0.N,i6 C0.Body,i6 C0.Else,i6 C0.At] 51] w) ?_ ?_
 rcases bit hm with ⟨M0,hm⟩ | ⟨M0,hm⟩
 refine ctv o rfl M0<|wk<|tn<|?_
 exact ⟨((!((decide (C0.Kind=11)) || (decide (C0.Kind=12)))) && (decide (0 < C0.Body))),hm,o.hs,u⟩
 refine cfv o rfl M0<|th<|rg<|qv o (Af o Cj rfl) λo=>qv o (Ag o isAgg3 rfl (u.ld.cellB t0 rfl)) λo=>qv o (Bt o rfl rfl) λo=>qm o rfl λo=>gr (Fk:=[(0,SL G0 p1 E0),(1,i6 p6),(5,i6 F0),(6,i6 D0),(7,PT I0),(8,i6 (IntKind.i64.wrap ((IntKind.i64.wrap ((IntKind.i64.wrap (D0+1))+C0.Body))+C0.Else))),(9,.bool ((decide (C0.Kind=11)) || (decide (C0.Kind=12)))),(81,.bool ((decide (C0.Kind≠11)) && (decide (0 < C0.Else))))]) 77 4 o u ?_ ?_ ?_
 intro hb o key
 exact qg o (Af o Ei rfl) λo=>qg o (Ag o isAgg3 rfl (u.ld.cellB t0 rfl)) λo=>qg o (Bd o rfl rfl) λo=>qk o (Ad o rfl rfl) key u hb
 intro hb o key
 iterate 3 refine qn o λo=>?_
 exact qk o (Ae o rfl rfl) key u hb
 intro a w o u
 refine qa o rfl λo=>re<|?_
 rcases bit hm with ⟨O0,hm⟩ | ⟨O0,hm⟩
 refine tn<|ctv o rfl O0<|wk<|tn<|?_
 exact ⟨((decide (C0.Kind≠11)) && (decide (0 < C0.Else))),hm,o.hs,u⟩
 refine tn<|cfv o rfl O0<|rg<|qv o (Af o Cj rfl) λo=>qv o (Ag o isAgg3 rfl (u.ld.cellB t0 rfl)) λo=>qv o (An o rfl rfl) λo=>qm o rfl λo=>gr (Fk:=[(0,SL G0 p1 E0),(1,i6 p6),(5,i6 F0),(6,i6 D0),(7,PT I0),(8,i6 (IntKind.i64.wrap ((IntKind.i64.wrap ((IntKind.i64.wrap (D0+1))+C0.Body))+C0.Else))),(9,.bool ((decide (C0.Kind=11)) || (decide (C0.Kind=12)))),(88,.bool ((decide (C0.Kind=13)) && (decide (p6=0))))]) 85 3 o u ?_ ?_ ?_
 intro hb o key
 exact qg o (Ab o rfl) λo=>qg o (An o rfl rfl) λo=>qk o (Ad o rfl rfl) key u hb
 intro hb o key
 iterate 2 refine qn o λo=>?_
 exact qk o (Ae o rfl rfl) key u hb
 intro a w o u
 refine qa o rfl λo=>re<|tn<|?_
 exact ⟨((decide (C0.Kind=13)) && (decide (p6=0))),hm,o.hs,u⟩
 rintro a w ⟨X0,hm,o,u⟩
 unfold Zb6 at hm
 rcases bit hm with ⟨P0,hm⟩ | ⟨P0,hm⟩
 refine ctv o rfl P0<|th<|rg<|qa o rfl λo=>re<|tn<|wr<|br<|tr<|br<|tr<|br<|tr<|?_
 obtain rfl:=si hm
 exact r1 o results111 rfl ⟨rfl,u.keep⟩
 refine cfv o rfl P0<|wk<|bn<|tn<|th<|th<|rg<|qm o rfl λo=>re<|tn<|Av (λa w=>∃ (U0:Int),(Zb7 ((Zb8 (Zb4 N) N Zb5 p1 p6) J0) C0 D0) U0=some r∧Fr 131 [(0,SL G0 p1 E0),(1,i6 p6),(5,i6 U0),(8,i6 (IntKind.i64.wrap ((IntKind.i64.wrap ((IntKind.i64.wrap (D0+1))+C0.Body))+C0.Else)))] a∧St w0 Nil [H] [] w) ?_ ?_
 rcases bit hm with ⟨Q0,hm⟩ | ⟨Q0,hm⟩
 refine ctv o rfl Q0<|th<|?_
 obtain ⟨F2,P1,hm⟩:=bs hm
 refine rg<|qm o rfl λo=>qv o (Af o Cj rfl) λo=>qv o (Ag o isAgg3 rfl (u.ld.cellB t0 rfl)) λo=>qv o (An o rfl rfl) λo=>ls<|cr o call150 (JbO (Ai _) P1) u λu o=>qv o (Ap o rfl rfl) λo=>qa o rfl λo=>re<|tn<|th<|?_
 obtain ⟨G2,u0,hm⟩:=bs hm
 obtain ⟨B2,S1,e33,e34,G1,I1⟩:=SR.sub (sz:=9) T0 S0 rfl u0
 obtain ⟨Y0,Q1,hm⟩:=bs hm
 obtain ⟨I2,B1,hm⟩:=bs hm
 obtain ⟨C2,T1,e43,e44,J1,M1⟩:=SR.sub (sz:=9) T0 S0 rfl B1
 obtain ⟨j0,R1,hm⟩:=bs hm
 refine rdS 23 u wide λw u=>dr 0 u o rfl (Ab o rfl) λo=>dr 1 u o rfl (Ab o rfl) λo=>dr 2 u o rfl (Ap o rfl rfl) λo=>dr 3 u o rfl (Ab o rfl) λo=>dr 4 u o rfl (Ap o rfl rfl) λo=>dr 5 u o rfl (Af o Dx rfl) λo=>dq 6 u.ld o rfl (λw hl=>Ag o isAgg3 rfl (hl.cellB t0 rfl)) λo=>dr 7 u o rfl (Ap o rfl rfl) λo=>dr 8 u o rfl (Hc (xs:=p1) (vl:=(IntKind.i64.wrap (D0+1))) (vh:=(IntKind.i64.wrap ((IntKind.i64.wrap (D0+1))+C0.Body))) o runUnderlying46 sizeOf51 rfl S0 rfl rfl u0 e33 e34) λo=>dr 9 u o rfl (Ab o rfl) λo=>dr 11 u o rfl (Ab o rfl) λo=>dr 12 u o rfl (Ab o rfl) λo=>dr 13 u o rfl (Ap o rfl rfl) λo=>dr 14 u o rfl (Af o Dx rfl) λo=>dq 15 u.ld o rfl (λw hl=>Ag o isAgg3 rfl (hl.cellB t0 rfl)) λo=>dr 16 u o rfl (Ap o rfl rfl) λo=>dr 17 u o rfl (Ab o rfl) λo=>dr 18 u o rfl (Hc (xs:=p1) (vl:=(IntKind.i64.wrap ((IntKind.i64.wrap (D0+1))+C0.Body))) (vh:=(IntKind.i64.wrap ((IntKind.i64.wrap ((IntKind.i64.wrap (D0+1))+C0.Body))+C0.Else))) o runUnderlying46 sizeOf51 rfl S0 rfl rfl B1 e43 e44) λo=>dr 19 u o rfl (Ab o rfl) λo=>da1 (i:=10) (by kernel_rfl) ?_
 refine di (i:=10) rfl<|cr o call111 (ih (Ai _) G1 (St.srH u I1) Q1) u λu o=>⟨λ_=>u.ld,?_⟩
 refine da1 (i:=20) (by kernel_rfl) ?_
 refine di (i:=20) rfl<|cr o call111 (ih (Ai _) J1 (St.srH u M1) R1) u λu o=>⟨λ_=>u.ld,?_⟩
 refine dr 21 u o rfl (Bq o rfl) λo=>dr 22 u o rfl (Bq o rfl) λo=>de (by kernel_rfl)<|tn<|th<|th<|rg<|qm o rfl λo=>qv o (An o rfl rfl) λo=>qm o rfl λo=>gr (Fk:=[(0,SL G0 p1 E0),(1,i6 p6),(5,i6 F0),(8,i6 (IntKind.i64.wrap ((IntKind.i64.wrap ((IntKind.i64.wrap (D0+1))+C0.Body))+C0.Else))),(11,i6 Y0),(12,i6 j0),(122,.bool ((decide (Y0=(-1))) || (decide (j0=(-1)))))]) 119 3 o u ?_ ?_ ?_
 intro hb o key
 iterate 2 refine qn o λo=>?_
 exact qk o (Ad o rfl rfl) key u hb
 intro hb o key
 exact qg o (Ab o rfl) λo=>qg o (An o rfl rfl) λo=>qk o (Ae o rfl rfl) key u hb
 intro a w o u
 refine re<|?_
 rcases bit hm with ⟨R0,hm⟩ | ⟨R0,hm⟩
 refine tn<|ctv o rfl R0<|th<|rg<|qa o rfl λo=>re<|tn<|wr<|tr<|tr<|br<|tr<|br<|tr<|?_
 obtain rfl:=si hm
 exact r1 o results111 rfl ⟨rfl,u.keep⟩
 refine tn<|cfv o rfl R0<|wk<|tn<|rg<|qm o rfl λo=>qm o rfl λo=>qv o (Ap o rfl rfl) λo=>qm o rfl λo=>qv o (Ap o rfl rfl) λo=>qv o (Ty o rfl rfl rfl) λo=>qa o rfl λo=>re<|tn<|?_
 replace u:=u.pickL .nil
 exact ⟨(max (max F0 (IntKind.i64.wrap (Y0+1))) (IntKind.i64.wrap (j0+1))),hm,o.hs,u⟩
 refine cfv o rfl Q0<|wk<|tn<|?_
 replace u:=u.pickL .nil
 exact ⟨F0,hm,o.hs,u⟩
 rintro a w ⟨U0,hm,o,u⟩
 unfold Zb7 at hm
 refine rg<|qm o rfl λo=>qa o rfl λo=>re<|bn<|tn<|?_
 exact ⟨(J0,U0,(IntKind.i64.wrap ((IntKind.i64.wrap ((IntKind.i64.wrap (D0+1))+C0.Body))+C0.Else))),⟨hm,o.hs,u⟩,Nat.lt_succ_self _⟩
 refine tn<|cfv o rfl W0<|we<|tx<|tx<|bx<|tn<|?_
 exact ⟨F0,hm,o.has ⟨rfl,trivial⟩,u⟩
 rintro a w ⟨V0,hm,o,u⟩
 unfold Zb5 at hm
 refine th<|rg<|qm o rfl λo=>qa o rfl λo=>re<|tn<|wr<|?_
 obtain rfl:=si hm
 exact r1 o results111 rfl ⟨rfl,u.keep⟩
theorem Ja8 (hH:H.le w0) (hT:Tab H) {D0:Option Addr} {C0:Nat} {p1:(List api_Stmt)} (I0:p1.length≤C0) (J0:SR H D0 p1) {r:Bool} (hm:Zb2 N p1=some r):Tot Tryz.prog 69 #[SL D0 p1 C0] w0 (λv w'=>v=.bool r∧Keep Nil w0 w'):=by
 unfold Zb2 at hm
 refine fn0 func69 rfl ntmps69 rfl rfl λa o=>?_
 have u:St w0 Nil [H] [] w0:=start1 hH
 refine th<|rg<|qa o rfl λo=>re<|tn<|th<|th<|Av (λa w=>∃ (E0:Bool),(Zb3 N p1) E0=some r∧Fr 19 [(0,SL D0 p1 C0),(10,.bool E0)] a∧St w0 Nil [H] [] w) ?_ ?_
 rcases bip hm with ⟨F0,hm⟩ | ⟨F0,hm⟩
 refine rg<|qm o rfl λo=>qv o (Ak (α:=api_Stmt) (xs:=p1) o runUnderlying46 rfl) λo=>qv o (Bd o rfl rfl) λo=>qv o (Ar (Ab o rfl) (congrArg Value.bool F0)) λo=>?_
 iterate 2 refine qn o λo=>?_
 refine qv o (Ad o rfl rfl) λo=>re<|tn<|?_
 exact ⟨true,hm,o.has ⟨rfl,rfl,trivial⟩,u⟩
 obtain ⟨M0,h8,hm⟩:=bs hm
 refine rg<|qm o rfl λo=>qv o (Ak (α:=api_Stmt) (xs:=p1) o runUnderlying46 rfl) λo=>qv o (Bd o rfl rfl) λo=>qv o (Ar (Ab o rfl) (congrArg Value.bool F0)) λo=>qg o (Ab o rfl) λo=>ls<|gy o rfl rfl<|cr o call109 (JaV (Ai _) (Tab.mono hT (St.up u)) I0 (St.srH u J0) h8) u λu o=>qv o (Ae o rfl rfl) λo=>re<|tn<|?_
 exact ⟨M0,hm,o.has ⟨rfl,rfl,trivial⟩,u⟩
 rintro a w ⟨E0,hm,o,u⟩
 unfold Zb3 at hm
 rcases bit hm with ⟨G0,hm⟩ | ⟨G0,hm⟩
 refine ctv o rfl G0<|th<|rg<|qa o rfl λo=>re<|tn<|wr<|tr<|?_
 obtain rfl:=si hm
 exact r1 o results69 rfl ⟨rfl,u.keep⟩
 refine cfv o rfl G0<|wk<|tn<|th<|?_
 obtain ⟨K0,O0,hm⟩:=bs hm
 refine rg<|qm o rfl λo=>ls<|cr o call111 (JbK _ (Ai _) I0 (St.srH u J0) O0) u λu o=>qa o rfl λo=>re<|tn<|th<|rg<|qm o rfl λo=>qv o (Bt o rfl rfl) λo=>qm o rfl λo=>gr (Fk:=[(18,.bool ((decide (K0≠(-1))) && (decide (K0≤12))))]) 15 3 o u ?_ ?_ ?_
 intro hb o key
 exact qg o (Ab o rfl) λo=>qg o (Dc o rfl rfl) λo=>qk o (Ad o rfl rfl) key u hb
 intro hb o key
 iterate 2 refine qn o λo=>?_
 exact qk o (Ae o rfl rfl) key u hb
 intro a w o u
 refine qa o rfl λo=>re<|tn<|wr<|?_
 obtain rfl:=si hm
 exact r1 o results69 rfl ⟨rfl,u.keep⟩
theorem Xx (hH:H.le w0) (hT:Tab H) {cs2:List Value} {p1:api_Thread} (g3:Enc.rep H cs2 p1) {r:Bool} (hm:Z96 N p1=some r):Tot Tryz.prog 83 #[.agg cs2.toArray] w0 (λv w'=>v=.bool r∧Keep Nil w0 w'):=by
 unfold Z96 at hm
 refine fn0 func83 rfl ntmps83 rfl rfl λa o=>?_
 have u:St w0 Nil [H] [] w0:=start1 hH
 obtain ⟨Q0,K0,R0,M0,rfl,F0,G0,O0,P0⟩:=Aw g3
 refine th<|rg<|ls<|Br (cs:=[Ac p1.Name,SL Q0 p1.Regs K0,SL R0 p1.Body M0,i6 p1.At].toArray) o rfl u rfl rfl λT0 w a u o=>qa o rfl λo=>re<|tn<|th<|rg<|qa o rfl λo=>re<|tn<|th<|?_
 obtain ⟨U0,E0,hm⟩:=bs hm
 rcases bit hm with ⟨C0,hm⟩ | ⟨C0,hm⟩
 obtain ⟨I0,J0,hm⟩:=bs hm
 rcases bit hm with ⟨D0,hm⟩ | ⟨D0,hm⟩
 have D0':(!I0)=false:=by rw [D0];rfl
 refine rg<|qv o (Af o Ft rfl) λo=>qv o (Ag o isAgg3 rfl (u.ld.cellB t0 rfl)) λo=>ls<|cr o call86 (Mp (Ai _) E0) u λu o=>qv o (Ar (Ab o rfl) (congrArg Value.bool C0)) λo=>qg o (Af o Ci rfl) λo=>qg o (Ag o isAgg36 rfl (u.ld.cellB t0 rfl)) λo=>qg o (Ab o rfl) λo=>ls<|gy o rfl rfl<|cr o call123 (Xw (Ai _) (Tab.mono hT (St.up u)) F0 (St.srH u G0) J0) u λu o=>qg o (Ba o rfl) λo=>qv o (Ad o rfl rfl) λo=>qv o (Ar (Ab o rfl) (congrArg Value.bool D0')) λo=>?_
 iterate 3 refine qn o λo=>?_
 refine qv o (Ae o rfl rfl) λo=>qa o rfl λo=>re<|tn<|wr<|?_
 obtain rfl:=si hm
 exact r1 o results83 rfl ⟨rfl,u.keep⟩
 have D0':(!I0)=true:=by rw [D0];rfl
 obtain ⟨V0,S0,hm⟩:=bs hm
 refine rg<|qv o (Af o Ft rfl) λo=>qv o (Ag o isAgg3 rfl (u.ld.cellB t0 rfl)) λo=>ls<|cr o call86 (Mp (Ai _) E0) u λu o=>qv o (Ar (Ab o rfl) (congrArg Value.bool C0)) λo=>qg o (Af o Ci rfl) λo=>qg o (Ag o isAgg36 rfl (u.ld.cellB t0 rfl)) λo=>qg o (Ab o rfl) λo=>ls<|gy o rfl rfl<|cr o call123 (Xw (Ai _) (Tab.mono hT (St.up u)) F0 (St.srH u G0) J0) u λu o=>qg o (Ba o rfl) λo=>qv o (Ad o rfl rfl) λo=>qv o (Ar (Ab o rfl) (congrArg Value.bool D0')) λo=>qg o (Af o Gm rfl) λo=>qg o (Ag o isAgg46 rfl (u.ld.cellB t0 rfl)) λo=>ls<|gy o rfl rfl<|cr o call69 (Ja8 (Ai _) (Tab.mono hT (St.up u)) O0 (St.srH u P0) S0) u λu o=>qv o (Ad o rfl rfl) λo=>qa o rfl λo=>re<|tn<|wr<|?_
 obtain rfl:=si hm
 exact r1 o results83 rfl ⟨rfl,u.keep⟩
 refine rg<|qv o (Af o Ft rfl) λo=>qv o (Ag o isAgg3 rfl (u.ld.cellB t0 rfl)) λo=>ls<|cr o call86 (Mp (Ai _) E0) u λu o=>qv o (Ar (Ab o rfl) (congrArg Value.bool C0)) λo=>?_
 iterate 5 refine qn o λo=>?_
 refine qv o (Ae o rfl rfl) λo=>qm o rfl λo=>?_
 iterate 3 refine qn o λo=>?_
 refine qv o (Ae o rfl rfl) λo=>qa o rfl λo=>re<|tn<|wr<|?_
 obtain rfl:=si hm
 exact r1 o results83 rfl ⟨rfl,u.keep⟩
theorem Jby (hH:H.le w0) (hT:Tab H) {cs2:List Value} {p1:api_Thread} (g3:Enc.rep H cs2 p1) {r:Bool} (hm:Z8z N p1=some r):Tot Tryz.prog 81 #[.agg cs2.toArray] w0 (λv w'=>v=.bool r∧Keep Nil w0 w'):=by
 unfold Z8z at hm
 refine fn0 func81 rfl ntmps81 rfl rfl λa o=>?_
 have u:St w0 Nil [H] [] w0:=start1 hH
 obtain ⟨F0,D0,G0,E0,rfl,O0,P0,K0,M0⟩:=Aw g3
 refine th<|rg<|ls<|Br (cs:=[Ac p1.Name,SL F0 p1.Regs D0,SL G0 p1.Body E0,i6 p1.At].toArray) o rfl u rfl rfl λR0 w a u o=>qa o rfl λo=>re<|tn<|th<|?_
 obtain ⟨I0,J0,hm⟩:=bs hm
 rcases bit hm with ⟨C0,hm⟩ | ⟨C0,hm⟩
 have C0':(!I0)=false:=by rw [C0];rfl
 obtain ⟨S0,Q0,hm⟩:=bs hm
 refine rg<|qv o (Af o Dv rfl) λo=>qv o (Ag o isAgg9 rfl (u.ld.cellB t0 rfl)) λo=>ls<|cr o call82 (Lj (Ai _) (Tab.mono hT (St.up u)) J0) u λu o=>qv o (Ba o rfl) λo=>qv o (Ar (Ab o rfl) (congrArg Value.bool C0')) λo=>qg o (Ay o isAgg48 sizeOf48 rfl rfl (u.ld.cellsB t0)) λo=>ls<|gy o rfl rfl<|cr o call83 (Xx (Ai _) (Tab.mono hT (St.up u)) (Enc.mono (St.up u) (show Enc.rep (α:=api_Thread) H [Ac p1.Name,SL F0 p1.Regs D0,SL G0 p1.Body E0,i6 p1.At] p1 from ⟨_,_,rfl,rfl,⟨_,_,rfl,⟨_,_,rfl,O0,P0⟩,⟨_,_,rfl,⟨_,_,rfl,K0,M0⟩,rfl⟩⟩⟩)) Q0) u λu o=>qg o (Ba o rfl) λo=>qv o (Ae o rfl rfl) λo=>qa o rfl λo=>re<|tn<|wr<|?_
 obtain rfl:=si hm
 exact r1 o results81 rfl ⟨rfl,u.keep⟩
 have C0':(!I0)=true:=by rw [C0];rfl
 refine rg<|qv o (Af o Dv rfl) λo=>qv o (Ag o isAgg9 rfl (u.ld.cellB t0 rfl)) λo=>ls<|cr o call82 (Lj (Ai _) (Tab.mono hT (St.up u)) J0) u λu o=>qv o (Ba o rfl) λo=>qv o (Ar (Ab o rfl) (congrArg Value.bool C0')) λo=>?_
 iterate 3 refine qn o λo=>?_
 refine qv o (Ad o rfl rfl) λo=>qa o rfl λo=>re<|tn<|wr<|?_
 obtain rfl:=si hm
 exact r1 o results81 rfl ⟨rfl,u.keep⟩
theorem Jbb (hH:H.le w0) (hT:Tab H) {K0:Option Addr} {E0:Nat} {p1:(List api_Thread)} (_:p1.length≤E0) (Q0:SR H K0 p1) {r:Int} (hm:Zaj N p1=some r):Tot Tryz.prog 130 #[SL K0 p1 E0,.func (.func 81) #[] #[]] w0 (λv w'=>v=i6 r∧Keep Nil w0 w'):=by
 unfold Zaj at hm
 refine fn0 func130 rfl ntmps130 rfl rfl λa o=>?_
 have u:St w0 Nil [H] [] w0:=start1 hH
 refine th<|rg<|qa o rfl λo=>re<|tn<|th<|th<|rg<|qm o rfl λo=>qv o (Ak (α:=api_Thread) (xs:=p1) o runUnderlying24 rfl) λo=>qm o rfl λo=>re<|tn<|Av (λa w=>Zak=some r∧Fr 19 [] a∧St w0 Nil [H] [] w) ?_ ?_
 refine wb<|lp (α:=Nat×Int) (λgh a w=>match gh with | (D0,G0)=>(Zal N Zak p1) D0 G0=some r∧Fr 19 [(0,SL K0 p1 E0),(1,.func (.func 81) #[] #[]),(7,i6 (p1.length:Int)),(8,i6 G0)] a∧St w0 Nil [H] [] w) (λgh=>gh.1) (N,0) ⟨hm,o.hs,u⟩ ?_
 rintro ⟨D0,G0⟩ a w ⟨hm,o,u⟩
 obtain _ | D0:=D0
 simp [Zal] at hm
 rw [Zal] at hm
 refine th<|rg<|qv o (Ao o rfl rfl) λo=>re<|?_
 rcases bip hm with ⟨M0,hm⟩ | ⟨M0,hm⟩
 refine tn<|th<|ctv o rfl M0<|wk<|tn<|th<|wb<|th<|rg<|qm o rfl λo=>qa o rfl λo=>re<|tn<|th<|?_
 obtain ⟨C0,h8,hm⟩:=bs hm
 obtain ⟨cz9,W0,R0⟩:=SR.get Q0 h8
 obtain ⟨O0,I0,P0,J0,rfl,S0,T0,U0,V0⟩:=Aw W0
 obtain ⟨Y0,X0,hm⟩:=bs hm
 refine rg<|qm o rfl λo=>?_
 iterate 2 refine qm o rfl λo=>?_
 refine qv o (Am o runUnderlying24 sizeOf48 rfl rfl h8 (SR.oaI Q0 (by decide) h8)) λo=>qv o (Ay o isAgg48 sizeOf48 rfl rfl (λj v hj=>PH.le.cell (Lds.le u.ld) (R0 j v hj))) λo=>ls<|k1 (vs:=[.agg #[Ac C0.Name,SL O0 C0.Regs I0,SL P0 C0.Body J0,i6 C0.At]]) (caps:=[]) o rfl rfl call81 (Jby (Ai _) (Tab.mono hT (St.up u)) (Enc.mono (St.up u) (show Enc.rep (α:=api_Thread) H [Ac C0.Name,SL O0 C0.Regs I0,SL P0 C0.Body J0,i6 C0.At] C0 from ⟨_,_,rfl,rfl,⟨_,_,rfl,⟨_,_,rfl,S0,T0⟩,⟨_,_,rfl,⟨_,_,rfl,U0,V0⟩,rfl⟩⟩⟩)) X0) ⟨rfl,trivial⟩ rfl (λv w a hR o=>?_)
 obtain ⟨rfl,hk⟩:=hR
 replace u:=u.pass hk
 refine re<|?_
 rcases bit hm with ⟨F0,hm⟩ | ⟨F0,hm⟩
 refine tn<|ctv o rfl F0<|th<|rg<|qm o rfl λo=>qa o rfl λo=>re<|tn<|wr<|br<|tr<|tr<|br<|tr<|?_
 obtain rfl:=si hm
 exact r1 o results130 rfl ⟨rfl,u.keep⟩
 refine tn<|cfv o rfl F0<|wk<|bn<|tn<|rg<|qv o (Ap o rfl rfl) λo=>qm o rfl λo=>re<|tn<|?_
 exact ⟨(D0,(IntKind.i64.wrap (G0+1))),⟨hm,o.hs,u⟩,Nat.lt_succ_self _⟩
 refine tn<|th<|cfv o rfl M0<|we<|tx<|tx<|bx<|tn<|?_
 exact ⟨hm,o.has trivial,u⟩
 rintro a w ⟨hm,o,u⟩
 unfold Zak at hm
 refine th<|rg<|qa o rfl λo=>re<|tn<|wr<|?_
 obtain rfl:=si hm
 exact r1 o results130 rfl ⟨rfl,u.keep⟩
theorem Ur (hH:H.le w0) (hT:Tab H) {D0:Option Addr} {C0:Nat} {p1:(List api_Thread)} (E0:p1.length≤C0) (F0:SR H D0 p1) {r:Bool} (hm:Z9w N p1=some r):Tot Tryz.prog 89 #[SL D0 p1 C0,.func (.func 81) #[] #[]] w0 (λv w'=>v=.bool r∧Keep Nil w0 w'):=by
 unfold Z9w at hm
 refine fn0 func89 rfl ntmps89 rfl rfl λa o=>?_
 have u:St w0 Nil [H] [] w0:=start1 hH
 refine th<|rg<|qa o rfl λo=>re<|tn<|th<|?_
 obtain ⟨G0,h7,hm⟩:=bs hm
 refine rg<|qm o rfl λo=>qm o rfl λo=>ls<|cr o call130 (Jbb (Ai _) (Tab.mono hT (St.up u)) E0 (St.srH u F0) h7) u λu o=>qv o (Bl o rfl rfl) λo=>qa o rfl λo=>re<|tn<|wr<|?_
 obtain rfl:=si hm
 exact r1 o results89 rfl ⟨rfl,u.keep⟩
theorem JaY (hH:H.le w0) (hT:Tab H) {cs2:List Value} {p1:api_Thread} (g3:Enc.rep H cs2 p1) {r:Bool} (hm:Z90 N p1=some r):Tot Tryz.prog 84 #[.agg cs2.toArray] w0 (λv w'=>v=.bool r∧Keep Nil w0 w'):=by
 unfold Z90 at hm
 refine fn0 func84 rfl ntmps84 rfl rfl λa o=>?_
 have u:St w0 Nil [H] [] w0:=start1 hH
 obtain ⟨F0,D0,G0,E0,rfl,K0,M0,I0,J0⟩:=Aw g3
 refine th<|rg<|ls<|Br (cs:=[Ac p1.Name,SL F0 p1.Regs D0,SL G0 p1.Body E0,i6 p1.At].toArray) o rfl u rfl rfl λP0 w a u o=>qa o rfl λo=>re<|tn<|th<|?_
 rcases bip hm with ⟨C0,hm⟩ | ⟨C0,hm⟩
 refine rg<|qv o (Af o Dv rfl) λo=>qv o (Ag o isAgg9 rfl (u.ld.cellB t0 rfl)) λo=>qv o (Cx (m:=p1.Name) (n:=[]) o rfl rfl) λo=>qv o (Ar (Ab o rfl) (congrArg Value.bool C0)) λo=>?_
 iterate 3 refine qn o λo=>?_
 refine qv o (Ad o rfl rfl) λo=>qa o rfl λo=>re<|tn<|wr<|?_
 obtain rfl:=si hm
 exact r1 o results84 rfl ⟨rfl,u.keep⟩
 obtain ⟨Q0,O0,hm⟩:=bs hm
 refine rg<|qv o (Af o Dv rfl) λo=>qv o (Ag o isAgg9 rfl (u.ld.cellB t0 rfl)) λo=>qv o (Cx (m:=p1.Name) (n:=[]) o rfl rfl) λo=>qv o (Ar (Ab o rfl) (congrArg Value.bool C0)) λo=>qg o (Ay o isAgg48 sizeOf48 rfl rfl (u.ld.cellsB t0)) λo=>ls<|gy o rfl rfl<|cr o call83 (Xx (Ai _) (Tab.mono hT (St.up u)) (Enc.mono (St.up u) (show Enc.rep (α:=api_Thread) H [Ac p1.Name,SL F0 p1.Regs D0,SL G0 p1.Body E0,i6 p1.At] p1 from ⟨_,_,rfl,rfl,⟨_,_,rfl,⟨_,_,rfl,K0,M0⟩,⟨_,_,rfl,⟨_,_,rfl,I0,J0⟩,rfl⟩⟩⟩)) O0) u λu o=>qg o (Ba o rfl) λo=>qv o (Ae o rfl rfl) λo=>qa o rfl λo=>re<|tn<|wr<|?_
 obtain rfl:=si hm
 exact r1 o results84 rfl ⟨rfl,u.keep⟩
theorem Jbo (hH:H.le w0) (hT:Tab H) {K0:Option Addr} {E0:Nat} {p1:(List api_Thread)} (_:p1.length≤E0) (Q0:SR H K0 p1) {r:Int} (hm:Zam N p1=some r):Tot Tryz.prog 130 #[SL K0 p1 E0,.func (.func 84) #[] #[]] w0 (λv w'=>v=i6 r∧Keep Nil w0 w'):=by
 unfold Zam at hm
 refine fn0 func130 rfl ntmps130 rfl rfl λa o=>?_
 have u:St w0 Nil [H] [] w0:=start1 hH
 refine th<|rg<|qa o rfl λo=>re<|tn<|th<|th<|rg<|qm o rfl λo=>qv o (Ak (α:=api_Thread) (xs:=p1) o runUnderlying24 rfl) λo=>qm o rfl λo=>re<|tn<|Av (λa w=>Zan=some r∧Fr 19 [] a∧St w0 Nil [H] [] w) ?_ ?_
 refine wb<|lp (α:=Nat×Int) (λgh a w=>match gh with | (D0,G0)=>(Zao N Zan p1) D0 G0=some r∧Fr 19 [(0,SL K0 p1 E0),(1,.func (.func 84) #[] #[]),(7,i6 (p1.length:Int)),(8,i6 G0)] a∧St w0 Nil [H] [] w) (λgh=>gh.1) (N,0) ⟨hm,o.hs,u⟩ ?_
 rintro ⟨D0,G0⟩ a w ⟨hm,o,u⟩
 obtain _ | D0:=D0
 simp [Zao] at hm
 rw [Zao] at hm
 refine th<|rg<|qv o (Ao o rfl rfl) λo=>re<|?_
 rcases bip hm with ⟨M0,hm⟩ | ⟨M0,hm⟩
 refine tn<|th<|ctv o rfl M0<|wk<|tn<|th<|wb<|th<|rg<|qm o rfl λo=>qa o rfl λo=>re<|tn<|th<|?_
 obtain ⟨C0,h8,hm⟩:=bs hm
 obtain ⟨cz9,W0,R0⟩:=SR.get Q0 h8
 obtain ⟨O0,I0,P0,J0,rfl,S0,T0,U0,V0⟩:=Aw W0
 obtain ⟨Y0,X0,hm⟩:=bs hm
 refine rg<|qm o rfl λo=>?_
 iterate 2 refine qm o rfl λo=>?_
 refine qv o (Am o runUnderlying24 sizeOf48 rfl rfl h8 (SR.oaI Q0 (by decide) h8)) λo=>qv o (Ay o isAgg48 sizeOf48 rfl rfl (λj v hj=>PH.le.cell (Lds.le u.ld) (R0 j v hj))) λo=>ls<|k1 (vs:=[.agg #[Ac C0.Name,SL O0 C0.Regs I0,SL P0 C0.Body J0,i6 C0.At]]) (caps:=[]) o rfl rfl call84 (JaY (Ai _) (Tab.mono hT (St.up u)) (Enc.mono (St.up u) (show Enc.rep (α:=api_Thread) H [Ac C0.Name,SL O0 C0.Regs I0,SL P0 C0.Body J0,i6 C0.At] C0 from ⟨_,_,rfl,rfl,⟨_,_,rfl,⟨_,_,rfl,S0,T0⟩,⟨_,_,rfl,⟨_,_,rfl,U0,V0⟩,rfl⟩⟩⟩)) X0) ⟨rfl,trivial⟩ rfl (λv w a hR o=>?_)
 obtain ⟨rfl,hk⟩:=hR
 replace u:=u.pass hk
 refine re<|?_
 rcases bit hm with ⟨F0,hm⟩ | ⟨F0,hm⟩
 refine tn<|ctv o rfl F0<|th<|rg<|qm o rfl λo=>qa o rfl λo=>re<|tn<|wr<|br<|tr<|tr<|br<|tr<|?_
 obtain rfl:=si hm
 exact r1 o results130 rfl ⟨rfl,u.keep⟩
 refine tn<|cfv o rfl F0<|wk<|bn<|tn<|rg<|qv o (Ap o rfl rfl) λo=>qm o rfl λo=>re<|tn<|?_
 exact ⟨(D0,(IntKind.i64.wrap (G0+1))),⟨hm,o.hs,u⟩,Nat.lt_succ_self _⟩
 refine tn<|th<|cfv o rfl M0<|we<|tx<|tx<|bx<|tn<|?_
 exact ⟨hm,o.has trivial,u⟩
 rintro a w ⟨hm,o,u⟩
 unfold Zan at hm
 refine th<|rg<|qa o rfl λo=>re<|tn<|wr<|?_
 obtain rfl:=si hm
 exact r1 o results130 rfl ⟨rfl,u.keep⟩
theorem Xz (hH:H.le w0) (hT:Tab H) {D0:Option Addr} {C0:Nat} {p1:(List api_Thread)} (E0:p1.length≤C0) (F0:SR H D0 p1) {r:Bool} (hm:Z9x N p1=some r):Tot Tryz.prog 89 #[SL D0 p1 C0,.func (.func 84) #[] #[]] w0 (λv w'=>v=.bool r∧Keep Nil w0 w'):=by
 unfold Z9x at hm
 refine fn0 func89 rfl ntmps89 rfl rfl λa o=>?_
 have u:St w0 Nil [H] [] w0:=start1 hH
 refine th<|rg<|qa o rfl λo=>re<|tn<|th<|?_
 obtain ⟨G0,h7,hm⟩:=bs hm
 refine rg<|qm o rfl λo=>qm o rfl λo=>ls<|cr o call130 (Jbo (Ai _) (Tab.mono hT (St.up u)) E0 (St.srH u F0) h7) u λu o=>qv o (Bl o rfl rfl) λo=>qa o rfl λo=>re<|tn<|wr<|?_
 obtain rfl:=si hm
 exact r1 o results89 rfl ⟨rfl,u.keep⟩
theorem JbW (hH:H.le w0) (hT:Tab H) {cs2:List Value} {p1:api_Claim} (g3:Enc.rep H cs2 p1) {r:Bool} (hm:Z91 N p1=some r):Tot Tryz.prog 85 #[.agg cs2.toArray] w0 (λv w'=>v=.bool r∧Keep Nil w0 w'):=by
 unfold Z91 at hm
 refine fn0 func85 rfl ntmps85 rfl rfl λa o=>?_
 have u:St w0 Nil [H] [] w0:=start1 hH
 obtain ⟨G0,F0,rfl,I0,J0⟩:=Cf g3
 refine th<|rg<|ls<|Br (cs:=[SL G0 p1.E F0,i6 p1.At].toArray) o rfl u rfl rfl λb8 w a u o=>qa o rfl λo=>re<|tn<|th<|?_
 obtain ⟨D0,E0,hm⟩:=bs hm
 rcases bit hm with ⟨C0,hm⟩ | ⟨C0,hm⟩
 have C0':(!D0)=false:=by rw [C0];rfl
 obtain ⟨M0,K0,hm⟩:=bs hm
 refine rg<|qv o (Af o Kp rfl) λo=>qv o (Ag o isAgg3 rfl (u.ld.cellB t0 rfl)) λo=>ls<|cr o call86 (Mp (Ai _) E0) u λu o=>qv o (Ba o rfl) λo=>qv o (Ar (Ab o rfl) (congrArg Value.bool C0')) λo=>qg o (Af o Ld rfl) λo=>qg o (Ag o isAgg49 rfl (u.ld.cellB t0 rfl)) λo=>ls<|gy o rfl rfl<|cr o call87 (Jbv (Ai _) (Tab.mono hT (St.up u)) I0 (St.srH u J0) K0) u λu o=>qg o (Ba o rfl) λo=>qv o (Ae o rfl rfl) λo=>qa o rfl λo=>re<|tn<|wr<|?_
 obtain rfl:=si hm
 exact r1 o results85 rfl ⟨rfl,u.keep⟩
 have C0':(!D0)=true:=by rw [C0];rfl
 refine rg<|qv o (Af o Kp rfl) λo=>qv o (Ag o isAgg3 rfl (u.ld.cellB t0 rfl)) λo=>ls<|cr o call86 (Mp (Ai _) E0) u λu o=>qv o (Ba o rfl) λo=>qv o (Ar (Ab o rfl) (congrArg Value.bool C0')) λo=>?_
 iterate 4 refine qn o λo=>?_
 refine qv o (Ad o rfl rfl) λo=>qa o rfl λo=>re<|tn<|wr<|?_
 obtain rfl:=si hm
 exact r1 o results85 rfl ⟨rfl,u.keep⟩
theorem Jbm (hH:H.le w0) (hT:Tab H) {J0:Option Addr} {E0:Nat} {p1:(List api_Claim)} (_:p1.length≤E0) (O0:SR H J0 p1) {r:Int} (hm:Zaa N p1=some r):Tot Tryz.prog 131 #[SL J0 p1 E0,.func (.func 85) #[] #[]] w0 (λv w'=>v=i6 r∧Keep Nil w0 w'):=by
 unfold Zaa at hm
 refine fn0 func131 rfl ntmps131 rfl rfl λa o=>?_
 have u:St w0 Nil [H] [] w0:=start1 hH
 refine th<|rg<|qa o rfl λo=>re<|tn<|th<|th<|rg<|qm o rfl λo=>qv o (Ak (α:=api_Claim) (xs:=p1) o runUnderlying25 rfl) λo=>qm o rfl λo=>re<|tn<|Av (λa w=>Zab=some r∧Fr 19 [] a∧St w0 Nil [H] [] w) ?_ ?_
 refine wb<|lp (α:=Nat×Int) (λgh a w=>match gh with | (C0,G0)=>(Zac N Zab p1) C0 G0=some r∧Fr 19 [(0,SL J0 p1 E0),(1,.func (.func 85) #[] #[]),(7,i6 (p1.length:Int)),(8,i6 G0)] a∧St w0 Nil [H] [] w) (λgh=>gh.1) (N,0) ⟨hm,o.hs,u⟩ ?_
 rintro ⟨C0,G0⟩ a w ⟨hm,o,u⟩
 obtain _ | C0:=C0
 simp [Zac] at hm
 rw [Zac] at hm
 refine th<|rg<|qv o (Ao o rfl rfl) λo=>re<|?_
 rcases bip hm with ⟨K0,hm⟩ | ⟨K0,hm⟩
 refine tn<|th<|ctv o rfl K0<|wk<|tn<|th<|wb<|th<|rg<|qm o rfl λo=>qa o rfl λo=>re<|tn<|th<|?_
 obtain ⟨D0,h8,hm⟩:=bs hm
 obtain ⟨cz9,S0,P0⟩:=SR.get O0 h8
 obtain ⟨M0,I0,rfl,Q0,R0⟩:=Cf S0
 obtain ⟨U0,T0,hm⟩:=bs hm
 refine rg<|qm o rfl λo=>?_
 iterate 2 refine qm o rfl λo=>?_
 refine qv o (Am o runUnderlying25 sizeOf74 rfl rfl h8 (SR.oaI O0 (by decide) h8)) λo=>qv o (Ay o isAgg74 sizeOf74 rfl rfl (λj v hj=>PH.le.cell (Lds.le u.ld) (P0 j v hj))) λo=>ls<|k1 (vs:=[.agg #[SL M0 D0.E I0,i6 D0.At]]) (caps:=[]) o rfl rfl call85 (JbW (Ai _) (Tab.mono hT (St.up u)) (Enc.mono (St.up u) (show Enc.rep (α:=api_Claim) H [SL M0 D0.E I0,i6 D0.At] D0 from ⟨_,_,rfl,⟨_,_,rfl,Q0,R0⟩,rfl⟩)) T0) ⟨rfl,trivial⟩ rfl (λv w a hR o=>?_)
 obtain ⟨rfl,hk⟩:=hR
 replace u:=u.pass hk
 refine re<|?_
 rcases bit hm with ⟨F0,hm⟩ | ⟨F0,hm⟩
 refine tn<|ctv o rfl F0<|th<|rg<|qm o rfl λo=>qa o rfl λo=>re<|tn<|wr<|br<|tr<|tr<|br<|tr<|?_
 obtain rfl:=si hm
 exact r1 o results131 rfl ⟨rfl,u.keep⟩
 refine tn<|cfv o rfl F0<|wk<|bn<|tn<|rg<|qv o (Ap o rfl rfl) λo=>qm o rfl λo=>re<|tn<|?_
 exact ⟨(C0,(IntKind.i64.wrap (G0+1))),⟨hm,o.hs,u⟩,Nat.lt_succ_self _⟩
 refine tn<|th<|cfv o rfl K0<|we<|tx<|tx<|bx<|tn<|?_
 exact ⟨hm,o.has trivial,u⟩
 rintro a w ⟨hm,o,u⟩
 unfold Zab at hm
 refine th<|rg<|qa o rfl λo=>re<|tn<|wr<|?_
 obtain rfl:=si hm
 exact r1 o results131 rfl ⟨rfl,u.keep⟩
theorem Ja9 (hH:H.le w0) (hT:Tab H) {D0:Option Addr} {C0:Nat} {p1:(List api_Claim)} (E0:p1.length≤C0) (F0:SR H D0 p1) {r:Bool} (hm:Z9t N p1=some r):Tot Tryz.prog 90 #[SL D0 p1 C0,.func (.func 85) #[] #[]] w0 (λv w'=>v=.bool r∧Keep Nil w0 w'):=by
 unfold Z9t at hm
 refine fn0 func90 rfl ntmps90 rfl rfl λa o=>?_
 have u:St w0 Nil [H] [] w0:=start1 hH
 refine th<|rg<|qa o rfl λo=>re<|tn<|th<|?_
 obtain ⟨G0,h7,hm⟩:=bs hm
 refine rg<|qm o rfl λo=>qm o rfl λo=>ls<|cr o call131 (Jbm (Ai _) (Tab.mono hT (St.up u)) E0 (St.srH u F0) h7) u λu o=>qv o (Bl o rfl rfl) λo=>qa o rfl λo=>re<|tn<|wr<|?_
 obtain rfl:=si hm
 exact r1 o results90 rfl ⟨rfl,u.keep⟩
theorem JaM (hH:H.le w0) (hT:Tab H) {cs2:List Value} {p1:api_Prog} (g3:Enc.rep H cs2 p1) {r:Bool} (hm:Z8x N p1=some r):Tot Tryz.prog 50 #[.agg cs2.toArray] w0 (λv w'=>v=.bool r∧Keep Nil w0 w'):=by
 unfold Z8x at hm
 refine fn0 func50 rfl ntmps50 rfl rfl λa o=>?_
 have u:St w0 Nil [H] [] w0:=start1 hH
 obtain ⟨p0,R0,u0,S0,T0,M0,U0,O0,V0,P0,W0,Q0,rfl,Q1,R1,G1,I1,J1,M1,C0,D0,X0,Y0,O1,P1⟩:=Aq g3
 refine th<|rg<|ls<|Br (cs:=[SL p0 p1.Lines R0,SL u0 p1.Vols S0,SL T0 p1.Locks M0,SL U0 p1.Threads O0,SL V0 p1.Recover P0,SL W0 p1.Claims Q0].toArray) o rfl u rfl rfl λB1 w a u o=>qa o rfl λo=>?_
 iterate 4 refine re<|tn<|th<|rg<|qa o rfl λo=>?_
 refine re<|tn<|th<|wb<|th<|th<|?_
 obtain ⟨S1,T1,hm⟩:=bs hm
 refine rg<|qv o (Af o Ca rfl) λo=>qv o (Ag o isAgg22 rfl (u.ld.cellB t0 rfl)) λo=>qm o rfl λo=>ls<|cr o call88 (JaU (Ai _) (Tab.mono hT (St.up u)) Q1 (St.srH u R1) T1) u λu o=>qa o rfl λo=>re<|tn<|Av (λa w=>∃ (j0:Bool),(Z92 N p1) j0=some r∧Fr 43 [(1,PT B1),(4,.func (.func 81) #[] #[]),(5,.func (.func 84) #[] #[]),(6,.func (.func 85) #[] #[]),(7,.bool j0)] a∧St w0 Nil [H] [bk B1 [SL p0 p1.Lines R0,SL u0 p1.Vols S0,SL T0 p1.Locks M0,SL U0 p1.Threads O0,SL V0 p1.Recover P0,SL W0 p1.Claims Q0] 27] w) ?_ ?_
 rcases bit hm with ⟨E0,hm⟩ | ⟨E0,hm⟩
 refine ctv o rfl E0<|wk<|tn<|?_
 exact ⟨S1,hm,o.hs,u⟩
 refine cfv o rfl E0<|th<|?_
 obtain ⟨U1,V1,hm⟩:=bs hm
 refine rg<|qv o (Af o Ea rfl) λo=>qv o (Ag o isAgg23 rfl (u.ld.cellB t0 rfl)) λo=>ls<|cr o call80 (Va (Ai _) (Tab.mono hT (St.up u)) G1 (St.srH u I1) V1) u λu o=>qv o (Ba o rfl) λo=>qa o rfl λo=>re<|?_
 rcases bit hm with ⟨F0,hm⟩ | ⟨F0,hm⟩
 refine tn<|cfv o rfl (by rw [F0];rfl)<|th<|?_
 obtain ⟨X1,Y1,hm⟩:=bs hm
 refine rg<|qv o (Af o Ed rfl) λo=>qv o (Ag o isAgg23 rfl (u.ld.cellB t0 rfl)) λo=>ls<|cr o call80 (Va (Ai _) (Tab.mono hT (St.up u)) J1 (St.srH u M1) Y1) u λu o=>qv o (Ba o rfl) λo=>qa o rfl λo=>re<|?_
 rcases bit hm with ⟨G0,hm⟩ | ⟨G0,hm⟩
 refine tn<|cfv o rfl (by rw [G0];rfl)<|rg<|qv o (Af o Fv rfl) λo=>qv o (Ag o isAgg24 rfl (u.ld.cellB t0 rfl)) λo=>qv o (Ak (α:=api_Thread) (xs:=p1.Recover) o runUnderlying24 rfl) λo=>qv o (Bd o rfl rfl) λo=>qa o rfl λo=>re<|tn<|?_
 exact ⟨(decide (1 < (p1.Recover.length:Int))),hm,o.hs,u⟩
 refine tn<|ctv o rfl (by rw [G0];rfl)<|wk<|tn<|?_
 exact ⟨(!X1),hm,o.hs,u⟩
 refine tn<|ctv o rfl (by rw [F0];rfl)<|wk<|tn<|?_
 exact ⟨(!U1),hm,o.hs,u⟩
 rintro a w ⟨j0,hm,o,u⟩
 unfold Z92 at hm
 rcases bit hm with ⟨I0,hm⟩ | ⟨I0,hm⟩
 refine ctv o rfl I0<|th<|rg<|qa o rfl λo=>re<|tn<|wr<|br<|tr<|?_
 obtain rfl:=si hm
 exact r1 o results50 rfl ⟨rfl,u.keep⟩
 refine cfv o rfl I0<|wk<|bn<|tn<|th<|?_
 obtain ⟨C1,n0,hm⟩:=bs hm
 rcases bit hm with ⟨J0,hm⟩ | ⟨J0,hm⟩
 have J0':(!C1)=false:=by rw [J0];rfl
 refine rg<|qv o (Af o Dd rfl) λo=>qv o (Ag o isAgg24 rfl (u.ld.cellB t0 rfl)) λo=>qm o rfl λo=>ls<|cr o call89 (Ur (Ai _) (Tab.mono hT (St.up u)) C0 (St.srH u D0) n0) u λu o=>qv o (Ba o rfl) λo=>qv o (Ar (Ab o rfl) (congrArg Value.bool J0')) λo=>?_
 iterate 5 refine qn o λo=>?_
 refine qv o (Ae o rfl rfl) λo=>qm o rfl λo=>?_
 iterate 5 refine qn o λo=>?_
 refine qv o (Ae o rfl rfl) λo=>qa o rfl λo=>re<|tn<|wr<|?_
 obtain rfl:=si hm
 exact r1 o results50 rfl ⟨rfl,u.keep⟩
 have J0':(!C1)=true:=by rw [J0];rfl
 obtain ⟨E1,F1,hm⟩:=bs hm
 rcases bit hm with ⟨K0,hm⟩ | ⟨K0,hm⟩
 have K0':(!E1)=false:=by rw [K0];rfl
 refine rg<|qv o (Af o Dd rfl) λo=>qv o (Ag o isAgg24 rfl (u.ld.cellB t0 rfl)) λo=>qm o rfl λo=>ls<|cr o call89 (Ur (Ai _) (Tab.mono hT (St.up u)) C0 (St.srH u D0) n0) u λu o=>qv o (Ba o rfl) λo=>qv o (Ar (Ab o rfl) (congrArg Value.bool J0')) λo=>qg o (Af o Fv rfl) λo=>qg o (Ag o isAgg24 rfl (u.ld.cellB t0 rfl)) λo=>qg o (Ab o rfl) λo=>ls<|gy o rfl rfl<|cr o call89 (Xz (Ai _) (Tab.mono hT (St.up u)) X0 (St.srH u Y0) F1) u λu o=>qg o (Ba o rfl) λo=>qv o (Ad o rfl rfl) λo=>qv o (Ar (Ab o rfl) (congrArg Value.bool K0')) λo=>?_
 iterate 5 refine qn o λo=>?_
 refine qv o (Ae o rfl rfl) λo=>qa o rfl λo=>re<|tn<|wr<|?_
 obtain rfl:=si hm
 exact r1 o results50 rfl ⟨rfl,u.keep⟩
 have K0':(!E1)=true:=by rw [K0];rfl
 obtain ⟨C2,B2,hm⟩:=bs hm
 refine rg<|qv o (Af o Dd rfl) λo=>qv o (Ag o isAgg24 rfl (u.ld.cellB t0 rfl)) λo=>qm o rfl λo=>ls<|cr o call89 (Ur (Ai _) (Tab.mono hT (St.up u)) C0 (St.srH u D0) n0) u λu o=>qv o (Ba o rfl) λo=>qv o (Ar (Ab o rfl) (congrArg Value.bool J0')) λo=>qg o (Af o Fv rfl) λo=>qg o (Ag o isAgg24 rfl (u.ld.cellB t0 rfl)) λo=>qg o (Ab o rfl) λo=>ls<|gy o rfl rfl<|cr o call89 (Xz (Ai _) (Tab.mono hT (St.up u)) X0 (St.srH u Y0) F1) u λu o=>qg o (Ba o rfl) λo=>qv o (Ad o rfl rfl) λo=>qv o (Ar (Ab o rfl) (congrArg Value.bool K0')) λo=>qg o (Af o Cz rfl) λo=>qg o (Ag o isAgg25 rfl (u.ld.cellB t0 rfl)) λo=>qg o (Ab o rfl) λo=>ls<|gy o rfl rfl<|cr o call90 (Ja9 (Ai _) (Tab.mono hT (St.up u)) O1 (St.srH u P1) B2) u λu o=>qg o (Ba o rfl) λo=>qv o (Ad o rfl rfl) λo=>qa o rfl λo=>re<|tn<|wr<|?_
 obtain rfl:=si hm
 exact r1 o results50 rfl ⟨rfl,u.keep⟩
theorem JbJ (hH:H.le w0) {D0:Option Addr} {C0:Nat} {p1:(List api_Cell)} (_:p1.length≤C0) (_:SR H D0 p1) {r:Bool} (hm:Z81 N p1=some r):Tot Tryz.prog 91 #[SL D0 p1 C0] w0 (λv w'=>v=.bool r∧Keep Nil w0 w'):=by
 unfold Z81 at hm
 refine fn0 func91 rfl ntmps91 rfl rfl λa o=>?_
 have u:St w0 Nil [H] [] w0:=start1 hH
 refine th<|rg<|qa o rfl λo=>re<|tn<|th<|rg<|qm o rfl λo=>qv o (Ak (α:=api_Cell) (xs:=p1) o runUnderlying23 rfl) λo=>qv o (Bd o rfl rfl) λo=>qa o rfl λo=>re<|tn<|wr<|?_
 obtain rfl:=si hm
 exact r1 o results91 rfl ⟨rfl,u.keep⟩
theorem Jbk (hH:H.le w0) {G0:Option Addr} {D0:Nat} {p1:(List (List api_Cell))} (_:p1.length≤D0) (K0:SR H G0 p1) {r:Int} (hm:Za4 N p1=some r):Tot Tryz.prog 129 #[SL G0 p1 D0,.func (.func 91) #[] #[]] w0 (λv w'=>v=i6 r∧Keep Nil w0 w'):=by
 unfold Za4 at hm
 refine fn0 func129 rfl ntmps129 rfl rfl λa o=>?_
 have u:St w0 Nil [H] [] w0:=start1 hH
 refine th<|rg<|qa o rfl λo=>re<|tn<|th<|th<|rg<|qm o rfl λo=>qv o (Ak (α:=(List api_Cell)) (xs:=p1) o runUnderlying22 rfl) λo=>qm o rfl λo=>re<|tn<|Av (λa w=>Za5=some r∧Fr 19 [] a∧St w0 Nil [H] [] w) ?_ ?_
 refine wb<|lp (α:=Nat×Int) (λgh a w=>match gh with | (C0,F0)=>(Za6 N Za5 p1) C0 F0=some r∧Fr 19 [(0,SL G0 p1 D0),(1,.func (.func 91) #[] #[]),(7,i6 (p1.length:Int)),(8,i6 F0)] a∧St w0 Nil [H] [] w) (λgh=>gh.1) (N,0) ⟨hm,o.hs,u⟩ ?_
 rintro ⟨C0,F0⟩ a w ⟨hm,o,u⟩
 obtain _ | C0:=C0
 simp [Za6] at hm
 rw [Za6] at hm
 refine th<|rg<|qv o (Ao o rfl rfl) λo=>re<|?_
 rcases bip hm with ⟨I0,hm⟩ | ⟨I0,hm⟩
 refine tn<|th<|ctv o rfl I0<|wk<|tn<|th<|wb<|th<|rg<|qm o rfl λo=>qa o rfl λo=>re<|tn<|th<|?_
 obtain ⟨R0,h8,hm⟩:=bs hm
 obtain ⟨cz9,S0,M0⟩:=SR.get K0 h8
 obtain ⟨O0,J0,rfl,P0,Q0⟩:=S0
 obtain ⟨U0,T0,hm⟩:=bs hm
 refine rg<|qm o rfl λo=>?_
 iterate 2 refine qm o rfl λo=>?_
 refine qv o (Am o runUnderlying22 sizeOf23 rfl rfl h8 (SR.oaI K0 (by decide) h8)) λo=>qv o (Ag o isAgg23 rfl (PH.le.cell (Lds.le u.ld) (M0 0 _ rfl))) λo=>ls<|k1 (vs:=[SL O0 R0 J0]) (caps:=[]) o rfl rfl call91 (JbJ (Ai _) P0 (St.srH u Q0) T0) ⟨rfl,trivial⟩ rfl (λv w a hR o=>?_)
 obtain ⟨rfl,hk⟩:=hR
 replace u:=u.pass hk
 refine re<|?_
 rcases bit hm with ⟨E0,hm⟩ | ⟨E0,hm⟩
 refine tn<|ctv o rfl E0<|th<|rg<|qm o rfl λo=>qa o rfl λo=>re<|tn<|wr<|br<|tr<|tr<|br<|tr<|?_
 obtain rfl:=si hm
 exact r1 o results129 rfl ⟨rfl,u.keep⟩
 refine tn<|cfv o rfl E0<|wk<|bn<|tn<|rg<|qv o (Ap o rfl rfl) λo=>qm o rfl λo=>re<|tn<|?_
 exact ⟨(C0,(IntKind.i64.wrap (F0+1))),⟨hm,o.hs,u⟩,Nat.lt_succ_self _⟩
 refine tn<|th<|cfv o rfl I0<|we<|tx<|tx<|bx<|tn<|?_
 exact ⟨hm,o.has trivial,u⟩
 rintro a w ⟨hm,o,u⟩
 unfold Za5 at hm
 refine th<|rg<|qa o rfl λo=>re<|tn<|wr<|?_
 obtain rfl:=si hm
 exact r1 o results129 rfl ⟨rfl,u.keep⟩
theorem Xy (hH:H.le w0) {D0:Option Addr} {C0:Nat} {p1:(List (List api_Cell))} (E0:p1.length≤C0) (F0:SR H D0 p1) {r:Bool} (hm:Z9r N p1=some r):Tot Tryz.prog 88 #[SL D0 p1 C0,.func (.func 91) #[] #[]] w0 (λv w'=>v=.bool r∧Keep Nil w0 w'):=by
 unfold Z9r at hm
 refine fn0 func88 rfl ntmps88 rfl rfl λa o=>?_
 have u:St w0 Nil [H] [] w0:=start1 hH
 refine th<|rg<|qa o rfl λo=>re<|tn<|th<|?_
 obtain ⟨G0,h7,hm⟩:=bs hm
 refine rg<|qm o rfl λo=>qm o rfl λo=>ls<|cr o call129 (Jbk (Ai _) E0 (St.srH u F0) h7) u λu o=>qv o (Bl o rfl rfl) λo=>qa o rfl λo=>re<|tn<|wr<|?_
 obtain rfl:=si hm
 exact r1 o results88 rfl ⟨rfl,u.keep⟩
theorem JbG (hH:H.le w0) {F0:Option Addr} {C0:Nat} {p1:(List (List api_Thread))} (_:p1.length≤C0) (U0:SR H F0 p1) {r:(List api_Thread)} (hm:Z9l N p1=some r):Tot Tryz.prog 93 #[SL F0 p1 C0] w0 (λv w'=>∃ (H':PH) (C1:Option Addr) (X0:Nat),v=SL C1 r X0∧r.length≤X0∧SR H' C1 r∧Ext w0 H H'∧H'.le w'∧Keep Nil w0 w'):=by
 unfold Z9l at hm
 refine fn0 func93 rfl ntmps93 rfl rfl λa o=>?_
 have u:St w0 Nil [H] [] w0:=start1 hH
 refine th<|rg<|qa o rfl λo=>re<|tn<|th<|rg<|qa o rfl λo=>re<|tn<|th<|th<|rg<|qm o rfl λo=>qv o (Ak (α:=(List api_Thread)) (xs:=p1) o runUnderlying147 rfl) λo=>qm o rfl λo=>re<|tn<|Av (λa w=>∃ (Y0:Int),(Z9m N p1) Y0=some r∧Fr 36 [(0,SL F0 p1 C0),(3,i6 Y0)] a∧St w0 Nil [H] [] w) ?_ ?_
 refine wb<|lp (α:=Nat×Int×Int) (λgh a w=>match gh with | (K0,M0,V0)=>(Z9o N (Z9m N p1) p1) K0 M0 V0=some r∧Fr 36 [(0,SL F0 p1 C0),(3,i6 M0),(9,SL F0 p1 C0),(10,i6 (p1.length:Int)),(11,i6 V0)] a∧St w0 Nil [H] [] w) (λgh=>gh.1) (N,0,0) ⟨hm,o.hs,u⟩ ?_
 rintro ⟨K0,M0,V0⟩ a w ⟨hm,o,u⟩
 obtain _ | K0:=K0
 simp [Z9o] at hm
 rw [Z9o] at hm
 refine th<|rg<|qv o (Ao o rfl rfl) λo=>re<|?_
 rcases bip hm with ⟨j0,hm⟩ | ⟨j0,hm⟩
 refine tn<|th<|ctv o rfl j0<|wk<|tn<|th<|wb<|th<|?_
 obtain ⟨E1,h8,hm⟩:=bs hm
 obtain ⟨cz9,V1,F1⟩:=SR.get U0 h8
 obtain ⟨I2,F2,rfl,J2,K2⟩:=V1
 refine rg<|qv o (Am o Tryz.runUnderlying147 Tryz.sizeOf24 rfl rfl h8 (SR.oaI U0 (by decide) h8)) λo=>qv o (Ag o isAgg24 rfl (PH.le.cell (Lds.le u.ld) (F1 0 _ rfl))) λo=>qa o rfl λo=>re<|tn<|th<|rg<|qm o rfl λo=>qm o rfl λo=>qv o (Ak (α:=api_Thread) (xs:=E1) o runUnderlying24 rfl) λo=>qv o (Ap o rfl rfl) λo=>qa o rfl λo=>re<|tn<|th<|rg<|qm o rfl λo=>qv o (Ao o rfl rfl) λo=>re<|?_
 rcases bip hm with ⟨Q0,hm⟩ | ⟨Q0,hm⟩
 refine tn<|ctv o rfl Q0<|?_
 cases hm
 refine tn<|cfv o rfl Q0<|wk<|bn<|tn<|rg<|qv o (Ap o rfl rfl) λo=>qm o rfl λo=>re<|tn<|?_
 exact ⟨(K0,(IntKind.i64.wrap (M0+(E1.length:Int))),(IntKind.i64.wrap (V0+1))),⟨hm,o.hs,u⟩,Nat.lt_succ_self _⟩
 refine tn<|th<|cfv o rfl j0<|we<|tx<|tx<|bx<|tn<|?_
 exact ⟨M0,hm,o.has ⟨rfl,rfl,trivial⟩,u⟩
 rintro a w ⟨Y0,hm,o,u⟩
 unfold Z9m at hm
 refine th<|?_
 obtain ⟨P2,X1,hm⟩:=bs hm
 refine rg<|qm o rfl λo=>ls<|c1 o rfl call132 (Yn Ww rfl rfl Ik rfl (by decide) X1) ⟨rfl,rfl,trivial⟩ (λv w a hR o=>?_)
 obtain ⟨G1,u0,rfl,hk⟩:=hR
 replace u:=u.fresh hk
 have I1:Rows H [] ([]:List api_Thread):=.nil
 refine qa o rfl λo=>re<|tn<|th<|th<|rg<|qm o rfl λo=>qv o (Ak (α:=(List api_Thread)) (xs:=p1) o runUnderlying147 rfl) λo=>qm o rfl λo=>re<|tn<|Av (λa w=>∃ (O0:(List api_Thread)) (R0:Option Addr) (G0:Nat) (S0:List Value),Z9n O0=some r∧Fr 36 [(6,SL R0 O0 G0)] a∧St w0 Nil [H] [sla 48 4 R0 O0.length G0 S0] w∧Rows H S0 O0) ?_ ?_
 refine wb<|lp (α:=Nat×(List api_Thread)×Int) (λgh a w=>match gh with | (P0,E0,W0)=>∃ (I0:Option Addr) (D0:Nat) (J0:List Value),(Z9p N Z9n p1) P0 E0 W0=some r∧Fr 36 [(6,SL I0 E0 D0),(25,SL F0 p1 C0),(26,i6 (p1.length:Int)),(27,i6 W0)] a∧St w0 Nil [H] [sla 48 4 I0 E0.length D0 J0] w∧Rows H J0 E0) (λgh=>gh.1) (N,[],0) ⟨G1,u0,[],hm,o.hs,u,I1⟩ ?_
 rintro ⟨P0,E0,W0⟩ a w ⟨I0,D0,J0,hm,o,u,n0⟩
 obtain _ | P0:=P0
 simp [Z9p] at hm
 rw [Z9p] at hm
 refine th<|rg<|qv o (Ao o rfl rfl) λo=>re<|?_
 rcases bip hm with ⟨T0,hm⟩ | ⟨T0,hm⟩
 refine tn<|th<|ctv o rfl T0<|wk<|tn<|th<|wb<|th<|?_
 obtain ⟨Y1,p0,hm⟩:=bs hm
 obtain ⟨Q2,B2,J1⟩:=SR.get U0 p0
 obtain ⟨M2,G2,rfl,O2,M1⟩:=B2
 refine rg<|qv o (Am o Tryz.runUnderlying147 Tryz.sizeOf24 rfl rfl p0 (SR.oaI U0 (by decide) p0)) λo=>qv o (Ag o isAgg24 rfl (PH.le.cell (Lds.le u.ld) (J1 0 _ rfl))) λo=>qa o rfl λo=>re<|tn<|?_
 obtain ⟨C2,E2,hm⟩:=bs hm
 refine rg<|qm o rfl λo=>qm o rfl λo=>?_
 obtain ⟨us39,hd40,hu41⟩:=id M1
 refine ls<|Bw (α:=api_Thread) (xs:=E0) (ys:=Y1) o rfl u underlying24 Ik rfl (by decide) rfl rfl rfl t0 n0 (u.rdH t0 hd40) hu41 E2 λO1 B1 P1 w a Q1 hU o=>?_
 replace u:=hU _ .head
 refine qa o rfl λo=>re<|bn<|tn<|rg<|qv o (Ap o rfl rfl) λo=>qm o rfl λo=>re<|tn<|?_
 exact ⟨(P0,C2,(IntKind.i64.wrap (W0+1))),⟨O1,B1,P1,hm,o.hs,u,Q1⟩,Nat.lt_succ_self _⟩
 refine tn<|th<|cfv o rfl T0<|we<|tx<|tx<|bx<|tn<|?_
 exact ⟨E0,I0,D0,J0,hm,o.has ⟨rfl,trivial⟩,u,n0⟩
 rintro a w ⟨O0,R0,G0,S0,hm,o,u,R1⟩
 unfold Z9n at hm
 refine th<|rg<|qm o rfl λo=>qa o rfl λo=>re<|tn<|wr<|?_
 obtain ⟨H45,S1,T1,U1,u⟩:=St.frzS u .head R1
 obtain rfl:=si hm
 exact r1 o results93 rfl ⟨H45,_,_,rfl,U1,T1,S1,(St.le u),u.keep⟩
theorem Rp (hH:H.le w0) {cs2:List Value} {p1:api_Prog} (g3:Enc.rep H cs2 p1) {r:(List api_Thread)} (hm:Z8f N p1=some r):Tot Tryz.prog 52 #[.agg cs2.toArray] w0 (λv w'=>∃ (H':PH) (M0:Option Addr) (I0:Nat),v=SL M0 r I0∧r.length≤I0∧SR H' M0 r∧Ext w0 H H'∧H'.le w'∧Keep Nil w0 w'):=by
 unfold Z8f at hm
 refine fn0 func52 rfl ntmps52 rfl rfl λa o=>?_
 have u:St w0 Nil [H] [] w0:=start1 hH
 obtain ⟨B1,O0,C1,P0,Q0,J0,E0,C0,F0,D0,R0,K0,rfl,R1,S1,G1,I1,J1,M1,S0,T0,U0,V0,O1,P1⟩:=Aq g3
 refine th<|rg<|ls<|Br (cs:=[SL B1 p1.Lines O0,SL C1 p1.Vols P0,SL Q0 p1.Locks J0,SL E0 p1.Threads C0,SL F0 p1.Recover D0,SL R0 p1.Claims K0].toArray) o rfl u rfl rfl λT1 w a u o=>qa o rfl λo=>re<|tn<|th<|?_
 obtain ⟨U1,E1,hm⟩:=bs hm
 refine rg<|qv o (Af o Dd rfl) λo=>qv o (Ag o isAgg24 rfl (u.ld.cellB t0 rfl)) λo=>qv o (Af o Fv rfl) λo=>qv o (Ag o isAgg24 rfl (u.ld.cellB t0 rfl)) λo=>ls<|Bh (e:=24) (sz:=1) [SL E0 p1.Threads C0,SL F0 p1.Recover D0] o rfl u rfl rfl rfl (λw=>by kernel_rfl) λV1 w a u o=>?_
 have W0:Rows (α:=(List api_Thread)) H [SL E0 p1.Threads C0,SL F0 p1.Recover D0] ([p1.Threads,p1.Recover]:List (List api_Thread)):=(.cons (c:=[SL E0 p1.Threads C0]) ⟨_,_,rfl,S0,T0⟩ (.cons (c:=[SL F0 p1.Recover D0]) ⟨_,_,rfl,U0,V0⟩ .nil))
 obtain ⟨H35,X0,Y0,j0,u⟩:=St.frzS u .head W0
 refine ls<|c1 o rfl call93 (JbG (St.le u) j0 Y0 E1) ⟨rfl,trivial⟩ (λv w a hR o=>?_)
 obtain ⟨H41,Q1,F1,rfl,n0,p0,G0,u0,hk⟩:=hR
 obtain ⟨u,G0⟩:=And.intro (St.passH u hk G0 u0) (St.extc u G0)
 refine qa o rfl λo=>re<|tn<|wr<|?_
 obtain rfl:=si hm
 exact r1 o results52 rfl ⟨H41,_,_,rfl,n0,p0,(Ext.trans X0 G0),(St.le u),u.keep⟩
theorem JaE (hH:H.le w0) {cs2:List Value} {p1:api_Thread} (g3:Enc.rep H cs2 p1) {r:Bool} (hm:Z82 N p1=some r):Tot Tryz.prog 92 #[.agg cs2.toArray] w0 (λv w'=>v=.bool r∧Keep Nil w0 w'):=by
 unfold Z82 at hm
 refine fn0 func92 rfl ntmps92 rfl rfl λa o=>?_
 have u:St w0 Nil [H] [] w0:=start1 hH
 obtain ⟨E0,C0,F0,D0,rfl,J0,K0,G0,I0⟩:=Aw g3
 refine th<|rg<|ls<|Br (cs:=[Ac p1.Name,SL E0 p1.Regs C0,SL F0 p1.Body D0,i6 p1.At].toArray) o rfl u rfl rfl λM0 w a u o=>qa o rfl λo=>re<|tn<|th<|rg<|qv o (Af o Ci rfl) λo=>qv o (Ag o isAgg36 rfl (u.ld.cellB t0 rfl)) λo=>qv o (Ak (α:=Str) (xs:=p1.Regs) o runUnderlying36 rfl) λo=>qv o (Bd o rfl rfl) λo=>qa o rfl λo=>re<|tn<|wr<|?_
 obtain rfl:=si hm
 exact r1 o results92 rfl ⟨rfl,u.keep⟩
theorem Jbi (hH:H.le w0) {K0:Option Addr} {E0:Nat} {p1:(List api_Thread)} (_:p1.length≤E0) (Q0:SR H K0 p1) {r:Int} (hm:Zap N p1=some r):Tot Tryz.prog 130 #[SL K0 p1 E0,.func (.func 92) #[] #[]] w0 (λv w'=>v=i6 r∧Keep Nil w0 w'):=by
 unfold Zap at hm
 refine fn0 func130 rfl ntmps130 rfl rfl λa o=>?_
 have u:St w0 Nil [H] [] w0:=start1 hH
 refine th<|rg<|qa o rfl λo=>re<|tn<|th<|th<|rg<|qm o rfl λo=>qv o (Ak (α:=api_Thread) (xs:=p1) o runUnderlying24 rfl) λo=>qm o rfl λo=>re<|tn<|Av (λa w=>Zaq=some r∧Fr 19 [] a∧St w0 Nil [H] [] w) ?_ ?_
 refine wb<|lp (α:=Nat×Int) (λgh a w=>match gh with | (D0,G0)=>(Zar N Zaq p1) D0 G0=some r∧Fr 19 [(0,SL K0 p1 E0),(1,.func (.func 92) #[] #[]),(7,i6 (p1.length:Int)),(8,i6 G0)] a∧St w0 Nil [H] [] w) (λgh=>gh.1) (N,0) ⟨hm,o.hs,u⟩ ?_
 rintro ⟨D0,G0⟩ a w ⟨hm,o,u⟩
 obtain _ | D0:=D0
 simp [Zar] at hm
 rw [Zar] at hm
 refine th<|rg<|qv o (Ao o rfl rfl) λo=>re<|?_
 rcases bip hm with ⟨M0,hm⟩ | ⟨M0,hm⟩
 refine tn<|th<|ctv o rfl M0<|wk<|tn<|th<|wb<|th<|rg<|qm o rfl λo=>qa o rfl λo=>re<|tn<|th<|?_
 obtain ⟨C0,h8,hm⟩:=bs hm
 obtain ⟨cz9,W0,R0⟩:=SR.get Q0 h8
 obtain ⟨O0,I0,P0,J0,rfl,S0,T0,U0,V0⟩:=Aw W0
 obtain ⟨Y0,X0,hm⟩:=bs hm
 refine rg<|qm o rfl λo=>?_
 iterate 2 refine qm o rfl λo=>?_
 refine qv o (Am o runUnderlying24 sizeOf48 rfl rfl h8 (SR.oaI Q0 (by decide) h8)) λo=>qv o (Ay o isAgg48 sizeOf48 rfl rfl (λj v hj=>PH.le.cell (Lds.le u.ld) (R0 j v hj))) λo=>ls<|k1 (vs:=[.agg #[Ac C0.Name,SL O0 C0.Regs I0,SL P0 C0.Body J0,i6 C0.At]]) (caps:=[]) o rfl rfl call92 (JaE (Ai _) (Enc.mono (St.up u) (show Enc.rep (α:=api_Thread) H [Ac C0.Name,SL O0 C0.Regs I0,SL P0 C0.Body J0,i6 C0.At] C0 from ⟨_,_,rfl,rfl,⟨_,_,rfl,⟨_,_,rfl,S0,T0⟩,⟨_,_,rfl,⟨_,_,rfl,U0,V0⟩,rfl⟩⟩⟩)) X0) ⟨rfl,trivial⟩ rfl (λv w a hR o=>?_)
 obtain ⟨rfl,hk⟩:=hR
 replace u:=u.pass hk
 refine re<|?_
 rcases bit hm with ⟨F0,hm⟩ | ⟨F0,hm⟩
 refine tn<|ctv o rfl F0<|th<|rg<|qm o rfl λo=>qa o rfl λo=>re<|tn<|wr<|br<|tr<|tr<|br<|tr<|?_
 obtain rfl:=si hm
 exact r1 o results130 rfl ⟨rfl,u.keep⟩
 refine tn<|cfv o rfl F0<|wk<|bn<|tn<|rg<|qv o (Ap o rfl rfl) λo=>qm o rfl λo=>re<|tn<|?_
 exact ⟨(D0,(IntKind.i64.wrap (G0+1))),⟨hm,o.hs,u⟩,Nat.lt_succ_self _⟩
 refine tn<|th<|cfv o rfl M0<|we<|tx<|tx<|bx<|tn<|?_
 exact ⟨hm,o.has trivial,u⟩
 rintro a w ⟨hm,o,u⟩
 unfold Zaq at hm
 refine th<|rg<|qa o rfl λo=>re<|tn<|wr<|?_
 obtain rfl:=si hm
 exact r1 o results130 rfl ⟨rfl,u.keep⟩
theorem Jbs (hH:H.le w0) {D0:Option Addr} {C0:Nat} {p1:(List api_Thread)} (E0:p1.length≤C0) (F0:SR H D0 p1) {r:Bool} (hm:Z9y N p1=some r):Tot Tryz.prog 89 #[SL D0 p1 C0,.func (.func 92) #[] #[]] w0 (λv w'=>v=.bool r∧Keep Nil w0 w'):=by
 unfold Z9y at hm
 refine fn0 func89 rfl ntmps89 rfl rfl λa o=>?_
 have u:St w0 Nil [H] [] w0:=start1 hH
 refine th<|rg<|qa o rfl λo=>re<|tn<|th<|?_
 obtain ⟨G0,h7,hm⟩:=bs hm
 refine rg<|qm o rfl λo=>qm o rfl λo=>ls<|cr o call130 (Jbi (Ai _) E0 (St.srH u F0) h7) u λu o=>qv o (Bl o rfl rfl) λo=>qa o rfl λo=>re<|tn<|wr<|?_
 obtain rfl:=si hm
 exact r1 o results89 rfl ⟨rfl,u.keep⟩
set_option maxHeartbeats 4000000 in
theorem JaI (hH:H.le w0) {cs2:List Value} {p1:api_Prog} (g3:Enc.rep H cs2 p1) {r:Bool} (hm:Z80 N p1=some r):Tot Tryz.prog 51 #[.agg cs2.toArray] w0 (λv w'=>v=.bool r∧Keep Nil w0 w'):=by
 unfold Z80 at hm
 refine fn0 func51 rfl ntmps51 rfl rfl λa o=>?_
 have u:St w0 Nil [H] [] w0:=start1 hH
 obtain ⟨W0,O0,X0,P0,Q0,I0,R0,J0,S0,K0,T0,M0,rfl,U0,V0,j0,n0,p0,u0,B1,C1,E1,F1,G1,I1⟩:=Aq g3
 refine th<|rg<|ls<|Br (cs:=[SL W0 p1.Lines O0,SL X0 p1.Vols P0,SL Q0 p1.Locks I0,SL R0 p1.Threads J0,SL S0 p1.Recover K0,SL T0 p1.Claims M0].toArray) o rfl u rfl rfl λC0 w a u o=>qa o rfl λo=>?_
 iterate 2 refine re<|tn<|th<|rg<|qa o rfl λo=>?_
 refine re<|tn<|th<|rg<|qv o (Af o Dd rfl) λo=>qv o (Ag o isAgg24 rfl (u.ld.cellB t0 rfl)) λo=>qv o (Ak (α:=api_Thread) (xs:=p1.Threads) o runUnderlying24 rfl) λo=>qa o rfl λo=>re<|tn<|th<|?_
 rcases bip hm with ⟨E0,hm⟩ | ⟨E0,hm⟩
 refine rg<|qv o (Af o Ca rfl) λo=>qv o (Ag o isAgg22 rfl (u.ld.cellB t0 rfl)) λo=>qv o (Ak (α:=(List api_Cell)) (xs:=p1.Lines) o runUnderlying22 rfl) λo=>qv o (Bd o rfl rfl) λo=>qv o (Ar (Ab o rfl) (congrArg Value.bool E0)) λo=>?_
 iterate 4 refine qn o λo=>?_
 refine qv o (Ad o rfl rfl) λo=>qm o rfl λo=>?_
 iterate 4 refine qn o λo=>?_
 refine qv o (Ad o rfl rfl) λo=>qm o rfl λo=>?_
 iterate 4 refine qn o λo=>?_
 refine qv o (Ad o rfl rfl) λo=>qm o rfl λo=>?_
 iterate 2 refine qn o λo=>?_
 refine qv o (Ad o rfl rfl) λo=>qm o rfl λo=>?_
 iterate 2 refine qn o λo=>?_
 refine qv o (Ad o rfl rfl) λo=>qm o rfl λo=>?_
 iterate 4 refine qn o λo=>?_
 refine qv o (Ad o rfl rfl) λo=>qm o rfl λo=>?_
 iterate 4 refine qn o λo=>?_
 refine qv o (Ad o rfl rfl) λo=>qa o rfl λo=>re<|tn<|wr<|?_
 obtain rfl:=si hm
 exact r1 o results51 rfl ⟨rfl,u.keep⟩
 obtain ⟨D0,Y0,hm⟩:=bs hm
 rcases bit hm with ⟨F0,hm⟩ | ⟨F0,hm⟩
 refine rg<|qv o (Af o Ca rfl) λo=>qv o (Ag o isAgg22 rfl (u.ld.cellB t0 rfl)) λo=>qv o (Ak (α:=(List api_Cell)) (xs:=p1.Lines) o runUnderlying22 rfl) λo=>qv o (Bd o rfl rfl) λo=>qv o (Ar (Ab o rfl) (congrArg Value.bool E0)) λo=>qg o (Af o Ca rfl) λo=>qg o (Ag o isAgg22 rfl (u.ld.cellB t0 rfl)) λo=>qg o (Ab o rfl) λo=>ls<|gy o rfl rfl<|cr o call88 (Xy (Ai _) U0 (St.srH u V0) Y0) u λu o=>qv o (Ae o rfl rfl) λo=>qm o rfl λo=>gr (Fk:=[(1,PT C0),(4,.func (.func 92) #[] #[]),(5,i6 (p1.Threads.length:Int)),(24,.bool (D0 || (decide (4 < (p1.Vols.length:Int)))))]) 19 5 o u ?_ ?_ ?_
 intro hb o key
 iterate 4 refine qn o λo=>?_
 exact qk o (Ad o rfl rfl) key u hb
 intro hb o key
 exact qg o (Af o Ea rfl) λo=>qg o (Ag o isAgg23 rfl (u.ld.cellB t0 rfl)) λo=>qg o (Ak (α:=api_Cell) (xs:=p1.Vols) o runUnderlying23 rfl) λo=>qg o (Bd o rfl rfl) λo=>qk o (Ae o rfl rfl) key u hb
 intro a w o u
 refine qm o rfl λo=>gr (Fk:=[(1,PT C0),(4,.func (.func 92) #[] #[]),(5,i6 (p1.Threads.length:Int)),(30,.bool ((D0 || (decide (4 < (p1.Vols.length:Int)))) || (decide (2 < (p1.Locks.length:Int)))))]) 25 5 o u ?_ ?_ ?_
 intro hb o key
 iterate 4 refine qn o λo=>?_
 exact qk o (Ad o rfl rfl) key u hb
 intro hb o key
 exact qg o (Af o Ed rfl) λo=>qg o (Ag o isAgg23 rfl (u.ld.cellB t0 rfl)) λo=>qg o (Ak (α:=api_Cell) (xs:=p1.Locks) o runUnderlying23 rfl) λo=>qg o (Bd o rfl rfl) λo=>qk o (Ae o rfl rfl) key u hb
 intro a w o u
 refine qm o rfl λo=>gr (Fk:=[(1,PT C0),(4,.func (.func 92) #[] #[]),(5,i6 (p1.Threads.length:Int)),(34,.bool (((D0 || (decide (4 < (p1.Vols.length:Int)))) || (decide (2 < (p1.Locks.length:Int)))) || (decide ((p1.Threads.length:Int)=0))))]) 31 3 o u ?_ ?_ ?_
 intro hb o key
 iterate 2 refine qn o λo=>?_
 exact qk o (Ad o rfl rfl) key u hb
 intro hb o key
 exact qg o (Ab o rfl) λo=>qg o (An o rfl rfl) λo=>qk o (Ae o rfl rfl) key u hb
 intro a w o u
 refine qm o rfl λo=>gr (Fk:=[(1,PT C0),(4,.func (.func 92) #[] #[]),(38,.bool ((((D0 || (decide (4 < (p1.Vols.length:Int)))) || (decide (2 < (p1.Locks.length:Int)))) || (decide ((p1.Threads.length:Int)=0))) || (decide (3 < (p1.Threads.length:Int)))))]) 35 3 o u ?_ ?_ ?_
 intro hb o key
 iterate 2 refine qn o λo=>?_
 exact qk o (Ad o rfl rfl) key u hb
 intro hb o key
 exact qg o (Ab o rfl) λo=>qg o (Bd o rfl rfl) λo=>qk o (Ae o rfl rfl) key u hb
 intro a w o u
 refine qv o (Ar (Ab o rfl) (congrArg Value.bool F0)) λo=>?_
 iterate 4 refine qn o λo=>?_
 refine qv o (Ad o rfl rfl) λo=>qm o rfl λo=>?_
 iterate 4 refine qn o λo=>?_
 refine qv o (Ad o rfl rfl) λo=>qa o rfl λo=>re<|tn<|wr<|?_
 obtain rfl:=si hm
 exact r1 o results51 rfl ⟨rfl,u.keep⟩
 obtain ⟨U1,P1,hm⟩:=bs hm
 obtain ⟨Q1,R1,hm⟩:=bs hm
 refine rg<|qv o (Af o Ca rfl) λo=>qv o (Ag o isAgg22 rfl (u.ld.cellB t0 rfl)) λo=>qv o (Ak (α:=(List api_Cell)) (xs:=p1.Lines) o runUnderlying22 rfl) λo=>qv o (Bd o rfl rfl) λo=>qv o (Ar (Ab o rfl) (congrArg Value.bool E0)) λo=>qg o (Af o Ca rfl) λo=>qg o (Ag o isAgg22 rfl (u.ld.cellB t0 rfl)) λo=>qg o (Ab o rfl) λo=>ls<|gy o rfl rfl<|cr o call88 (Xy (Ai _) U0 (St.srH u V0) Y0) u λu o=>qv o (Ae o rfl rfl) λo=>qm o rfl λo=>gr (Fk:=[(1,PT C0),(4,.func (.func 92) #[] #[]),(5,i6 (p1.Threads.length:Int)),(24,.bool (D0 || (decide (4 < (p1.Vols.length:Int)))))]) 19 5 o u ?_ ?_ ?_
 intro hb o key
 iterate 4 refine qn o λo=>?_
 exact qk o (Ad o rfl rfl) key u hb
 intro hb o key
 exact qg o (Af o Ea rfl) λo=>qg o (Ag o isAgg23 rfl (u.ld.cellB t0 rfl)) λo=>qg o (Ak (α:=api_Cell) (xs:=p1.Vols) o runUnderlying23 rfl) λo=>qg o (Bd o rfl rfl) λo=>qk o (Ae o rfl rfl) key u hb
 intro a w o u
 refine qm o rfl λo=>gr (Fk:=[(1,PT C0),(4,.func (.func 92) #[] #[]),(5,i6 (p1.Threads.length:Int)),(30,.bool ((D0 || (decide (4 < (p1.Vols.length:Int)))) || (decide (2 < (p1.Locks.length:Int)))))]) 25 5 o u ?_ ?_ ?_
 intro hb o key
 iterate 4 refine qn o λo=>?_
 exact qk o (Ad o rfl rfl) key u hb
 intro hb o key
 exact qg o (Af o Ed rfl) λo=>qg o (Ag o isAgg23 rfl (u.ld.cellB t0 rfl)) λo=>qg o (Ak (α:=api_Cell) (xs:=p1.Locks) o runUnderlying23 rfl) λo=>qg o (Bd o rfl rfl) λo=>qk o (Ae o rfl rfl) key u hb
 intro a w o u
 refine qm o rfl λo=>gr (Fk:=[(1,PT C0),(4,.func (.func 92) #[] #[]),(5,i6 (p1.Threads.length:Int)),(34,.bool (((D0 || (decide (4 < (p1.Vols.length:Int)))) || (decide (2 < (p1.Locks.length:Int)))) || (decide ((p1.Threads.length:Int)=0))))]) 31 3 o u ?_ ?_ ?_
 intro hb o key
 iterate 2 refine qn o λo=>?_
 exact qk o (Ad o rfl rfl) key u hb
 intro hb o key
 exact qg o (Ab o rfl) λo=>qg o (An o rfl rfl) λo=>qk o (Ae o rfl rfl) key u hb
 intro a w o u
 refine qm o rfl λo=>gr (Fk:=[(1,PT C0),(4,.func (.func 92) #[] #[]),(38,.bool ((((D0 || (decide (4 < (p1.Vols.length:Int)))) || (decide (2 < (p1.Locks.length:Int)))) || (decide ((p1.Threads.length:Int)=0))) || (decide (3 < (p1.Threads.length:Int)))))]) 35 3 o u ?_ ?_ ?_
 intro hb o key
 iterate 2 refine qn o λo=>?_
 exact qk o (Ad o rfl rfl) key u hb
 intro hb o key
 exact qg o (Ab o rfl) λo=>qg o (Bd o rfl rfl) λo=>qk o (Ae o rfl rfl) key u hb
 intro a w o u
 refine qv o (Ar (Ab o rfl) (congrArg Value.bool F0)) λo=>qg o (Ay o isAgg27 sizeOf27 rfl rfl (u.ld.cellsB t0)) λo=>ls<|gy o rfl rfl<|c1 o rfl call52 (Rp (St.le u) (show Enc.rep (α:=api_Prog) H [SL W0 p1.Lines O0,SL X0 p1.Vols P0,SL Q0 p1.Locks I0,SL R0 p1.Threads J0,SL S0 p1.Recover K0,SL T0 p1.Claims M0] p1 from ⟨_,_,rfl,⟨_,_,rfl,U0,V0⟩,⟨_,_,rfl,⟨_,_,rfl,j0,n0⟩,⟨_,_,rfl,⟨_,_,rfl,p0,u0⟩,⟨_,_,rfl,⟨_,_,rfl,B1,C1⟩,⟨_,_,rfl,⟨_,_,rfl,E1,F1⟩,⟨_,_,rfl,G1,I1⟩⟩⟩⟩⟩⟩) P1) ⟨rfl,trivial⟩ (λv w a hR o=>?_)
 obtain ⟨H38,T1,S1,rfl,J1,M1,G0,O1,hk⟩:=hR
 obtain ⟨u,G0⟩:=And.intro (St.passH u hk G0 O1) (St.extc u G0)
 refine qg o (Ab o rfl) λo=>ls<|gy o rfl rfl<|cr o call89 (Jbs (Ai _) J1 (St.srH u M1) R1) u λu o=>qv o (Ae o rfl rfl) λo=>qm o rfl λo=>gr (Fk:=[(50,.bool (Q1 || (decide (4 < (p1.Claims.length:Int)))))]) 45 5 o u ?_ ?_ ?_
 intro hb o key
 iterate 4 refine qn o λo=>?_
 exact qk o (Ad o rfl rfl) key u hb
 intro hb o key
 exact qg o (Af o Cz rfl) λo=>qg o (Ag o isAgg25 rfl (u.ld.cellB t0 rfl)) λo=>qg o (Ak (α:=api_Claim) (xs:=p1.Claims) o runUnderlying25 rfl) λo=>qg o (Bd o rfl rfl) λo=>qk o (Ae o rfl rfl) key u hb
 intro a w o u
 refine qa o rfl λo=>re<|tn<|wr<|?_
 obtain rfl:=si hm
 exact r1 o results51 rfl ⟨rfl,u.keep⟩
theorem Jbt:∀ (N:Nat) {w0:World} {H:PH} (_:H.le w0) {G0:Option Addr} {E0:Nat} {p1:(List api_Stmt)} (_:p1.length≤E0) (_:SR H G0 p1) {p6:Int} {r:(Int×Bool)} (_:Z8t N p1 p6=some r),Tot Tryz.prog 53 #[SL G0 p1 E0,i6 p6] w0 (λv w'=>v=.tuple #[i6 r.1,.bool r.2]∧Keep Nil w0 w'):=by
 intro N
 induction N with
  | zero=>intros;rename_i hm;simp [Z8t] at hm
  | succ N ih=>
 intro w0 H hH G0 E0 p1 S0 M0 p6 r hm
 rw [Z8t] at hm
 refine fn0 func53 rfl ntmps53 rfl rfl λa o=>?_
 have u:St w0 Nil [H] [] w0:=start1 hH
 refine th<|rg<|qa o rfl λo=>qa o rfl λo=>re<|tn<|th<|th<|rg<|qa o rfl λo=>re<|tn<|Av (λa w=>Z8u=some r∧Fr 53 [] a∧St w0 Nil [H] [] w) ?_ ?_
 refine wb<|lp (α:=Nat×Int) (λgh a w=>match gh with | (F0,D0)=>(Z8w (Z8t N) N Z8u p1 p6) F0 D0=some r∧Fr 53 [(0,SL G0 p1 E0),(1,i6 p6),(6,i6 D0)] a∧St w0 Nil [H] [] w) (λgh=>gh.1) (N,0) ⟨hm,o.hs,u⟩ ?_
 rintro ⟨F0,D0⟩ a w ⟨hm,o,u⟩
 obtain _ | F0:=F0
 simp [Z8w] at hm
 rw [Z8w] at hm
 refine th<|th<|rg<|qm o rfl λo=>qm o rfl λo=>qv o (Ak (α:=api_Stmt) (xs:=p1) o runUnderlying46 rfl) λo=>qv o (Ao o rfl rfl) λo=>re<|?_
 rcases bip hm with ⟨O0,hm⟩ | ⟨O0,hm⟩
 refine tn<|ctv o rfl O0<|wk<|tn<|wb<|th<|?_
 obtain ⟨C0,h9,hm⟩:=bs hm
 obtain ⟨I1,n0,V0⟩:=SR.get M0 h9
 obtain ⟨W0,Q0,X0,R0,rfl,B1,C1,E1,F1⟩:=Bm n0
 refine rg<|qm o rfl λo=>qm o rfl λo=>qv o (Am o runUnderlying46 sizeOf51 rfl rfl h9 (SR.oaI M0 (by decide) h9)) λo=>qv o (Ay o isAgg51 sizeOf51 rfl rfl (λj v hj=>PH.le.cell (Lds.le u.ld) (V0 j v hj))) λo=>ls<|Au (cs:=[i6 0,Ac [],Ac [],.slice none 0 0,.slice none 0 0,i6 0,i6 0,i6 0,i6 0].toArray) o rfl u zeroValue51 rfl λT0 w a u o=>ls<|Az o u sizeOf51 rfl rfl rfl rfl (Al rfl) .head λw u=>re<|tn<|th<|rg<|qm o rfl λo=>qv o (Ap o rfl rfl) λo=>qv o (Af o Dx rfl) λo=>qv o (Ag o isAgg3 rfl (u.ld.cellB t0 rfl)) λo=>qv o (Ap o rfl rfl) λo=>qv o (Af o Ei rfl) λo=>qv o (Ag o isAgg3 rfl (u.ld.cellB t0 rfl)) λo=>qv o (Ap o rfl rfl) λo=>qa o rfl λo=>re<|tn<|th<|rg<|qm o rfl λo=>qa o rfl λo=>re<|tn<|th<|th<|rg<|qv o (Af o Cj rfl) λo=>qv o (Ag o isAgg3 rfl (u.ld.cellB t0 rfl)) λo=>qv o (An o rfl rfl) λo=>re<|tn<|Av (λa w=>∃ (P0:Int),(Z8v (Z8t N) ((Z8w (Z8t N) N Z8u p1 p6) F0) p1 C0 D0) P0=some r∧Fr 53 [(0,SL G0 p1 E0),(1,i6 p6),(6,i6 D0),(7,PT T0),(8,i6 (IntKind.i64.wrap ((IntKind.i64.wrap ((IntKind.i64.wrap (D0+1))+C0.Body))+C0.Else))),(9,i6 P0)] a∧St w0 Nil [H] [bk T0 [i6 C0.Kind,Ac C0.Reg,Ac C0.Name,SL W0 C0.E Q0,SL X0 C0.F R0,i6 C0.N,i6 C0.Body,i6 C0.Else,i6 C0.At] 51] w) ?_ ?_
 rcases bip hm with ⟨I0,hm⟩ | ⟨I0,hm⟩
 refine ctv o rfl I0<|rg<|qm o rfl λo=>qv o (Af o Gk rfl) λo=>qv o (Ag o isAgg3 rfl (u.ld.cellB t0 rfl)) λo=>qv o (Ux o rfl rfl) λo=>qa o rfl λo=>re<|tn<|?_
 exact ⟨(IntKind.i64.wrap (p6 * C0.N)),hm,o.hs,u⟩
 refine cfv o rfl I0<|wk<|tn<|?_
 exact ⟨p6,hm,o.hs,u⟩
 rintro a w ⟨P0,hm,o,u⟩
 unfold Z8v at hm
 refine th<|th<|rg<|qm o rfl λo=>qv o (Bd o rfl rfl) λo=>re<|?_
 rcases bip hm with ⟨J0,hm⟩ | ⟨J0,hm⟩
 refine tn<|ctv o rfl J0<|th<|rg<|qv o (Af o Es rfl) λo=>qv o (Ag o isAgg3 rfl (u.ld.cellB t0 rfl)) λo=>?_
 iterate 2 refine qa o rfl λo=>?_
 refine re<|tn<|wr<|tr<|br<|tr<|br<|tr<|?_
 obtain rfl:=si hm
 exact r2 o results53 rfl rfl ⟨rfl,u.keep⟩
 refine tn<|cfv o rfl J0<|wk<|tn<|th<|th<|?_
 obtain ⟨J1,U0,hm⟩:=bs hm
 obtain ⟨G1,u0,e28,e29,Y0,j0⟩:=SR.sub (sz:=9) M0 S0 rfl U0
 obtain ⟨M1,p0,hm⟩:=bs hm
 refine rg<|qm o rfl λo=>qm o rfl λo=>qv o (Ap o rfl rfl) λo=>qm o rfl λo=>qv o (Hc (xs:=p1) (vl:=(IntKind.i64.wrap (D0+1))) (vh:=(IntKind.i64.wrap ((IntKind.i64.wrap ((IntKind.i64.wrap (D0+1))+C0.Body))+C0.Else))) o runUnderlying46 sizeOf51 rfl S0 rfl rfl U0 e28 e29) λo=>qm o rfl λo=>ls<|cr o call53 (ih (Ai _) Y0 (St.srH u j0) p0) u λu o=>qm o rfl λo=>?_
 iterate 2 refine qv o (Cd o rfl rfl) λo=>?_
 iterate 2 refine qa o rfl λo=>?_
 refine re<|tn<|th<|rg<|qm o rfl λo=>re<|?_
 rcases bit hm with ⟨K0,hm⟩ | ⟨K0,hm⟩
 refine tn<|ctv o rfl K0<|th<|rg<|qm o rfl λo=>?_
 iterate 2 refine qa o rfl λo=>?_
 refine re<|tn<|wr<|tr<|br<|tr<|br<|tr<|?_
 obtain rfl:=si hm
 exact r2 o results53 rfl rfl ⟨rfl,u.keep⟩
 refine tn<|cfv o rfl K0<|wk<|tn<|rg<|qm o rfl λo=>qa o rfl λo=>re<|bn<|tn<|?_
 replace u:=u.pickL .nil
 exact ⟨(F0,(IntKind.i64.wrap ((IntKind.i64.wrap ((IntKind.i64.wrap (D0+1))+C0.Body))+C0.Else))),⟨hm,o.hs,u⟩,Nat.lt_succ_self _⟩
 refine tn<|cfv o rfl O0<|we<|tx<|tx<|bx<|tn<|?_
 exact ⟨hm,o.has trivial,u⟩
 rintro a w ⟨hm,o,u⟩
 unfold Z8u at hm
 refine th<|rg<|qa o rfl λo=>qa o rfl λo=>re<|tn<|wr<|?_
 obtain rfl:=si hm
 exact r2 o results53 rfl rfl ⟨rfl,u.keep⟩
theorem Yh (hH:H.le w0) {cs2:List Value} {p1:api_Thread} (g3:Enc.rep H cs2 p1) {mz5 cz7:Nat} {l6:List (Str×Value×Nat)} {p4:(List (Str×Int))} (hf9:H mz5=some (.map (l6.map (toE kS)).toArray cz7)) (Q0:MRel kI l6 p4) (hg10:MGood l6 cz7) {r:((List (Str×Int))×Bool)} (hm:Z8c N p1 p4=some r):Tot Tryz.prog 54 #[.agg cs2.toArray,.map (some mz5)] w0 (λv w'=>∃ (vm0:Value) (A0:HA),v=.tuple #[vm0,.bool r.2]∧OMap kS kI vm0 A0 r.1∧Fresh w0 (A0) w'):=by
 unfold Z8c at hm
 refine fn0 func54 rfl ntmps54 rfl rfl λa o=>?_
 have u:St w0 Nil [H] [] w0:=start1 hH
 obtain ⟨F0,D0,R0,J0,rfl,I1,S0,J1,M1⟩:=Aw g3
 refine th<|rg<|ls<|Br (cs:=[Ac p1.Name,SL F0 p1.Regs D0,SL R0 p1.Body J0,i6 p1.At].toArray) o rfl u rfl rfl λX0 w a u o=>?_
 iterate 2 refine qa o rfl λo=>?_
 refine re<|tn<|th<|rg<|ls<|Um o rfl u λm20 w a u o=>?_
 replace u:=St.gmap0 (kv:=kS) u
 have O1:MRel (κ:=Str) (β:=Int) kI [] []:=MRel.nil _
 refine qa o rfl λo=>re<|tn<|th<|th<|rg<|qm o rfl λo=>ls<|Xj o rfl u underlying75 rfl ((Lds.le u.ld) _ _ hf9) λY0 w a u o=>re<|tn<|wb<|lp (α:=Array Nat) (λ(seen:Array Nat) a w=>∃ (lq:List (Str×Value×Nat)) (cq:Nat),Fr 39 [(13,PT Y0),(2,PT X0),(6,.map (some m20))] a∧St w0 Nil [H] [itr Y0 mz5 cz7 seen cz7,Ch kS m20 lq cq,bk X0 [Ac p1.Name,SL F0 p1.Regs D0,SL R0 p1.Body J0,i6 p1.At] 48] w∧MFil (kI 4) seen l6 lq) (λseen=>lft l6 seen) #[] ⟨[],0,o.hs,u,MFil.start⟩ ?_
 rintro seen a w ⟨u0,B1,o,u,hfil⟩
 refine th<|rg<|ls<|Jae o rfl u rfl ((Lds.le u.ld) _ _ hf9) hg10 t0 ?_ ?_
 intro e he hs a w hU o
 replace u:=hU _ .head
 obtain ⟨y,hy⟩:=Q0.val he
 refine qv o (Cd o rfl rfl) λo=>re<|tn<|th<|ct o rfl<|wk<|tn<|wb<|th<|rg<|qv o (Ar (v':=.tuple #[kS e.1,kI y]) (Xi o rfl (St.blkO u t0) ((Lds.le u.ld) _ _ hf9) hg10 he) (by rw [hy])) λo=>?_
 iterate 2 refine qv o (Cd o rfl rfl) λo=>?_
 iterate 2 refine qa o rfl λo=>?_
 refine re<|tn<|th<|rg<|qm o rfl λo=>qv o (Bt (m:=y) (n:=4) o rfl rfl) λo=>re<|tn<|?_
 rcases JaP (decide (y≠4)) with hb | hb
 refine ctv o rfl hb<|rg<|?_
 iterate 3 refine qm o rfl λo=>?_
 refine ls<|Jaa (kv:=kS) (k:=e.1) (v:=e.2.1) o u Nq runUnderlying75 rfl rfl (by rw [hy];rfl) (.tail .head) λw u=>re<|bn<|tn<|?_
 exact ⟨seen.push e.2.2,⟨_,_,o.hs,u,hfil.keep Q0.dl hg10 he (by rw [hy];exact λh=>of_decide_eq_true hb (by injection h))⟩,Vk he hs⟩
 refine cfv o rfl hb<|wk<|bn<|tn<|?_
 exact ⟨seen.push e.2.2,⟨_,_,o.hs,u,hfil.skip hg10 he (by rw [hy,show y=4 from Classical.byContradiction λh=>of_decide_eq_false hb h])⟩,Vk he hs⟩
 intro hall a o
 refine qv o (Cd o rfl rfl) λo=>?_
 have j0:=MFil.done (x:=4) (λ_ _ h=>by injection h) Q0 hfil hall
 replace u:=u.drop .head
 refine re<|tn<|th<|cf o rfl<|we<|tx<|tx<|bx<|tn<|th<|th<|rg<|qv o (Af o Ci rfl) λo=>qv o (Ag o isAgg36 rfl (u.ld.cellB t1 rfl)) λo=>qv o (Ak (α:=Str) (xs:=p1.Regs) o runUnderlying36 rfl) λo=>qm o rfl λo=>re<|tn<|Av (λa w=>∃ (T0:(List (Str×Int))) (K0:List (Str×Value×Nat)) (U0:Nat),Z8d T0=some r∧Fr 39 [(6,.map (some m20))] a∧St w0 Nil [H] [Ch kS m20 K0 U0] w∧MRel kI K0 T0) ?_ ?_
 replace u:=u.pk [0] rfl
 refine wb<|lp (α:=Nat×(List (Str×Int))×Int) (λ(gh:Nat×(List (Str×Int))×Int) a w=>match gh with | (E0,C0,M0)=>∃ (O0:List (Str×Value×Nat)) (V0:Nat),(Z8e N Z8d p1) E0 C0 M0=some r∧Fr 39 [(6,.map (some m20)),(25,SL F0 p1.Regs D0),(26,i6 (p1.Regs.length:Int)),(27,i6 M0)] a∧St w0 Nil [H] [Ch kS m20 O0 V0] w∧MRel kI O0 C0) (λgh=>gh.1) (N,(p4.filter λq=>decide (q.2≠4)),0) ⟨u0,B1,hm,o.hs,u,j0⟩ ?_
 rintro ⟨E0,C0,M0⟩ a w ⟨O0,V0,hm,o,u,hmB4⟩
 obtain _ | E0:=E0
 simp [Z8e] at hm
 rw [Z8e] at hm
 refine th<|rg<|qv o (Ao o rfl rfl) λo=>re<|?_
 rcases bip hm with ⟨G0,hm⟩ | ⟨G0,hm⟩
 refine tn<|th<|ctv o rfl G0<|wk<|tn<|th<|wb<|th<|?_
 obtain ⟨P0,W0,hm⟩:=bs hm
 obtain ⟨C1,E1,n0⟩:=SR.get S0 W0
 obtain rfl:C1=[Ac P0]:=E1
 refine rg<|qv o (Am o Tryz.runUnderlying36 Tryz.sizeOf9 rfl rfl W0 (SR.oaI S0 (by decide) W0)) λo=>qv o (Ag o isAgg9 rfl (PH.le.cell (Lds.le u.ld) (n0 0 _ rfl))) λo=>qa o rfl λo=>re<|tn<|th<|th<|rg<|qm o rfl λo=>qm o rfl λo=>qv o (Iz (ev:=kI) (dv:=0) (m:=C0) (k:=P0) o Nq runUnderlying75 zeroValue3 (Lds.mapO u.ld t0) rfl rfl hmB4) λo=>qv o (Bt o rfl rfl) λo=>re<|?_
 rcases bip hm with ⟨I0,hm⟩ | ⟨I0,hm⟩
 refine tn<|ctv o rfl I0<|th<|rg<|qa o rfl λo=>qa o rfl λo=>re<|tn<|wr<|tr<|br<|tr<|tr<|br<|tr<|?_
 replace u:=St.ds0 u
 obtain rfl:=si hm
 exact r2 o results54 rfl rfl ⟨(.map none),(sepA []),rfl,(.inl ⟨rfl,rfl,rfl⟩),u.endFresh t0⟩
 refine tn<|cfv o rfl I0<|wk<|tn<|rg<|qm o rfl λo=>qm o rfl λo=>ls<|Ui (ev:=kI) (m:=C0) (k:=P0) (v:=5) o u Nq runUnderlying75 rfl rfl rfl t0 hmB4 λF1 G1 w p0 hU=>?_
 replace u:=hU _ .head
 refine re<|bn<|tn<|rg<|qv o (Ap o rfl rfl) λo=>qm o rfl λo=>re<|tn<|?_
 exact ⟨(E0,(Ih P0 5 C0),(IntKind.i64.wrap (M0+1))),⟨F1,G1,hm,o.hs,u,p0⟩,Nat.lt_succ_self _⟩
 refine tn<|th<|cfv o rfl G0<|we<|tx<|tx<|bx<|tn<|?_
 exact ⟨C0,O0,V0,hm,o.has ⟨rfl,trivial⟩,u,hmB4⟩
 rintro a w ⟨T0,K0,U0,hm,o,u,hmA4⟩
 unfold Z8d at hm
 refine th<|rg<|qm o rfl λo=>?_
 iterate 2 refine qa o rfl λo=>?_
 refine re<|tn<|wr<|?_
 obtain rfl:=si hm
 exact r2 o results54 rfl rfl ⟨(.map (some m20)),(Ch kS m20 K0 U0),rfl,(.inr ⟨_,_,_,rfl,rfl,hmA4⟩),u.endFresh t0⟩
theorem Jb1 (hH:H.le w0) {D0:Option Addr} {C0:Nat} {p1:(List api_Stmt)} (I0:p1.length≤C0) (J0:SR H D0 p1) {r:(List api_Stmt)} (hm:Z8g N p1=some r):Tot Tryz.prog 55 #[SL D0 p1 C0] w0 (λv w'=>∃ (H':PH) (b0:Nat) (F0:Option Addr) (E0:Nat),v=.func (.func 94) #[] #[PT b0]∧H' b0=some (.cells [SL F0 r E0].toArray 46 (0,0))∧r.length≤E0∧SR H' F0 r∧Ext w0 H H'∧H'.le w'∧Keep Nil w0 w'):=by
 unfold Z8g at hm
 refine fn0 func55 rfl ntmps55 rfl rfl λa o=>?_
 have u:St w0 Nil [H] [] w0:=start1 hH
 refine th<|rg<|ls<|Br (cs:=[SL D0 p1 C0].toArray) o rfl u rfl rfl λb6 w a u o=>qa o rfl λo=>re<|tn<|th<|rg<|qv o (Ox (vs:=[PT b6]) o ⟨rfl,trivial⟩) λo=>qa o rfl λo=>re<|tn<|wr<|?_
 obtain ⟨H9,G0,K0,u⟩:=St.frzB u .head
 obtain rfl:=si hm
 exact r1 o results55 rfl ⟨H9,b6,_,_,rfl,K0,I0,(J0.mono G0.sub),G0,(St.le u),u.keep⟩
theorem Vv (hH:H.le w0) {R0:Option Addr} {J0:Nat} {p1:(List api_Node)} (_:p1.length≤J0) (Y0:SR H R0 p1) {p6:Int} {τ:Type} {y:τ→legal_use→Option (τ×Bool)} {C:τ→PH→List HA→Prop} {lyl:Nat} (hy:YC Tryz.prog lyl C (λ(H:PH) (args:List Value) (x:legal_use)=>∃ (cs0:List Value),args=[.agg cs0.toArray]∧Enc.rep H cs0 x) y) (hCm:∀ s H H' L,(∀ b o,H b=some o→H' b=some o)→C s H L→C s H' L) {s0:τ} {Lc:List HA} (hC:C s0 H Lc) (hO:(sepA [sepA Lc]).ok (hp w0)) (hD:∀ b,(sepA [sepA Lc]).fp b→H b=none) {r:(Bool×τ)} (hm:Z8p N p1 p6 y s0=some r):Tot Tryz.prog 95 #[SL R0 p1 J0,i6 p6,.func (.yield lyl) #[] #[]] w0 (λv w'=>∃ (H':PH) (Lcq:List HA),v=.bool r.1∧C (r.2) H' Lcq∧ExtM w0 (sepA [sepA Lc]).fp H H'∧H'.le w'∧(∀ b,(sepA [sepA Lcq]).fp b→H' b=none)∧Mut w0 (sepA [sepA Lc]) (sepA [sepA Lcq]) w'):=by
 unfold Z8p at hm
 refine fn0 func95 rfl ntmps95 rfl rfl λa o=>?_
 have u:=Cp hH hO hD
 refine th<|rg<|qa o rfl λo=>re<|tn<|th<|th<|rg<|qm o rfl λo=>qv o (Ak (α:=api_Node) (xs:=p1) o runUnderlying49 rfl) λo=>qm o rfl λo=>re<|tn<|Av (λa w=>∃ (T0:τ) (K0:PH) (LcA3:List HA),Z8q T0=some r∧ExtM w0 (sepA [sepA Lc]).fp H K0∧Fr 31 [] a∧St w0 (sepA [sepA Lc]).fp [K0] [sepA LcA3] w∧C T0 K0 LcA3) ?_ ?_
 refine wb<|lp (α:=Nat×Int×τ) (λgh a w=>match gh with | (F0,G0,M0)=>∃ (D0:PH) (LcB4:List HA),(Z8s N Z8q p1 p6 y) F0 G0 M0=some r∧ExtM w0 (sepA [sepA Lc]).fp H D0∧Fr 31 [(1,i6 p6),(2,.func (.yield lyl) #[] #[]),(9,SL R0 p1 J0),(10,i6 (p1.length:Int)),(11,i6 G0)] a∧St w0 (sepA [sepA Lc]).fp [D0] [sepA LcB4] w∧C M0 D0 LcB4) (λgh=>gh.1) (N,0,s0) ⟨H,Lc,hm,(ExtM.refl _ _ _),o.hs,u,hC⟩ ?_
 rintro ⟨F0,G0,M0⟩ a w ⟨D0,LcB4,hm,E0,o,u,hCB5⟩
 obtain _ | F0:=F0
 simp [Z8s] at hm
 rw [Z8s] at hm
 refine th<|rg<|qv o (Ao o rfl rfl) λo=>re<|?_
 rcases bip hm with ⟨U0,hm⟩ | ⟨U0,hm⟩
 refine tn<|th<|ctv o rfl U0<|wk<|tn<|th<|wb<|th<|?_
 obtain ⟨C0,h9,hm⟩:=bs hm
 obtain ⟨G1,E1,n0⟩:=SR.get Y0 h9
 obtain rfl:=Bn E1
 refine rg<|qv o (Am o Tryz.runUnderlying49 Tryz.sizeOf90 rfl rfl h9 (SR.oaI Y0 (by decide) h9)) λo=>qv o (Ay o isAgg90 sizeOf90 rfl rfl (λj v hj=>PH.le.cell (λb o hx=>(Lds.le u.ld) b o (E0.sub b o hx)) (n0 j v hj))) λo=>ls<|Au (cs:=[i6 0,i6 0,Ac [],i6 0].toArray) o rfl u zeroValue90 rfl λb13 w a u o=>ls<|Az o u sizeOf90 rfl rfl rfl rfl (Al rfl) .head λw u=>re<|tn<|th<|Av (λa w=>∃ (V0:Bool) (S0:τ) (I0:PH) (LcC4:List HA),(Z8r (Z8s N Z8q p1 p6 y F0) G0) V0 S0=some r∧ExtM w0 (sepA [sepA Lc]).fp D0 I0∧Fr 31 [(1,i6 p6),(2,.func (.yield lyl) #[] #[]),(9,SL R0 p1 J0),(10,i6 (p1.length:Int)),(11,i6 G0),(29,.bool V0)] a∧St w0 (sepA [sepA Lc]).fp [I0] [sepA LcC4] w∧C S0 I0 LcC4) ?_ ?_
 rcases bip hm with ⟨P0,hm⟩ | ⟨P0,hm⟩
 obtain ⟨j0,F1,hm⟩:=bs hm
 refine rg<|qv o (Af o Cm rfl) λo=>qv o (Ag o isAgg3 rfl (u.ld.cellB t0 rfl)) λo=>qv o (An o rfl rfl) λo=>qv o (Ar (Ab o rfl) (congrArg Value.bool P0)) λo=>qg o (Ab o rfl) λo=>qg o (Af o Ek rfl) λo=>qg o (Ag o isAgg9 rfl (u.ld.cellB t0 rfl)) λo=>qg o (Af o Fg rfl) λo=>qg o (Ag o isAgg3 rfl (u.ld.cellB t0 rfl)) λo=>qg o (Ab o rfl) λo=>ls<|gy o rfl rfl<|Bh (e:=3) (sz:=1) [i6 p6] o rfl u rfl rfl rfl (λw=>by kernel_rfl) λO0 w a u o=>?_
 have p0:Rows (α:=Int) D0 [i6 p6] ([p6]:List Int):=(.cons (c:=[i6 p6]) rfl .nil)
 refine qg o (Bp [Ac C0.Name,i6 C0.At,.slice (some ⟨O0,0,none⟩) ([p6]:List Int).length 1] [Ac C0.Name,i6 C0.At,.slice (some ⟨O0,0,none⟩) ([p6]:List Int).length 1] o ⟨rfl,rfl,rfl,trivial⟩ (λw=>by kernel_rfl)) λo=>?_
 obtain ⟨H21,W0,u0,B1,u⟩:=St.frzSM u .head p0
 refine Yy (Ho o rfl rfl)<|ly (vs:=[.agg #[Ac C0.Name,i6 C0.At,.slice (some ⟨O0,0,none⟩) ([p6]:List Int).length 1]]) o rfl rfl ⟨rfl,trivial⟩ hy u t1 (hCm _ _ _ _ W0.sub hCB5) ⟨[Ac C0.Name,i6 C0.At,.slice (some ⟨O0,0,none⟩) ([p6]:List Int).length 1],rfl,(show Enc.rep (α:=legal_use) H21 [Ac C0.Name,i6 C0.At,.slice (some ⟨O0,0,none⟩) ([p6]:List Int).length 1] (legal_use.mk C0.Name C0.At ([p6]:List Int)) from ⟨_,_,rfl,rfl,⟨_,_,rfl,rfl,⟨_,_,rfl,B1,u0⟩⟩⟩)⟩ F1 (λa w H27 Lc26 hC25 C1 hU o=>?_)
 replace u:=hU _ (.tail .head)
 refine qg o (Ba o rfl) λo=>qv o (Ad o rfl rfl) λo=>re<|tn<|?_
 replace u:=u.pk [1] rfl
 exact ⟨(!j0.2),j0.1,H27,Lc26,hm,(ExtM.trans W0 C1),o.hs,u,hC25⟩
 refine rg<|qv o (Af o Cm rfl) λo=>qv o (Ag o isAgg3 rfl (u.ld.cellB t0 rfl)) λo=>qv o (An o rfl rfl) λo=>qv o (Ar (Ab o rfl) (congrArg Value.bool P0)) λo=>?_
 iterate 10 refine qn o λo=>?_
 refine qv o (Ae o rfl rfl) λo=>re<|tn<|?_
 replace u:=u.pk [1] rfl
 exact ⟨false,M0,D0,LcB4,hm,(ExtM.refl _ _ _),o.hs,u,hCB5⟩
 rintro a w ⟨V0,S0,I0,LcC4,hm,hxHC1,o,u,hCC5⟩
 unfold Z8r at hm
 rcases bit hm with ⟨Q0,hm⟩ | ⟨Q0,hm⟩
 refine ctv o rfl Q0<|th<|rg<|qa o rfl λo=>re<|tn<|wr<|br<|tr<|tr<|br<|tr<|?_
 obtain rfl:=si hm
 exact r1 o results95 rfl ⟨I0,LcC4,rfl,hCC5,(ExtM.trans E0 hxHC1),(St.le u),(St.disL (u.pickL (.cons .head .nil))),(u.pickL (.cons .head .nil)).endMut⟩
 refine cfv o rfl Q0<|wk<|bn<|tn<|rg<|qv o (Ap o rfl rfl) λo=>qm o rfl λo=>re<|tn<|?_
 exact ⟨(F0,(IntKind.i64.wrap (G0+1)),S0),⟨I0,LcC4,hm,(ExtM.trans E0 hxHC1),o.hs,u,hCC5⟩,Nat.lt_succ_self _⟩
 refine tn<|th<|cfv o rfl U0<|we<|tx<|tx<|bx<|tn<|?_
 exact ⟨M0,D0,LcB4,hm,E0,o.has trivial,u,hCB5⟩
 rintro a w ⟨T0,K0,LcA3,hm,X0,o,u,hCA4⟩
 unfold Z8q at hm
 refine th<|rg<|qa o rfl λo=>re<|tn<|wr<|?_
 obtain rfl:=si hm
 exact r1 o results95 rfl ⟨K0,LcA3,rfl,hCA4,X0,(St.le u),(St.disL (u.pickL (.cons .head .nil))),(u.pickL (.cons .head .nil)).endMut⟩
end Go.LM.LB
