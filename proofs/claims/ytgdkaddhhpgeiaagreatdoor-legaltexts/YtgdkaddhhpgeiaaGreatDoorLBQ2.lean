/- Walks, lifted by program. No condition beyond the theorems' own premises. -/
import Derived.Test.YtgdkaddhhpgeiaaGreatDoorLBQ1
namespace Go.LM.LB
open Go Go.LL Go.MD Go.LM Go.Proofs Go.MD.LB Go.Proofs.Tryz
set_option maxRecDepth 100000
variable {N:Nat} {w0:World} {H:PH}
theorem JbN (hH:H.le w0) (hT:Tab H) {cs2:List Value} {p1:api_Thread} (g3:Enc.rep H cs2 p1) {r:Bool} (hm:Z8d N p1=some r):Tot Tryz.prog 81 #[.agg cs2.toArray] w0 (λv w'=>v=.bool r∧Keep Nil w0 w'):=by
 unfold Z8d at hm
 refine fn0 func81 rfl ntmps81 rfl rfl λa o=>?_
 have u:St w0 Nil [H] [] w0:=start1 hH
 obtain ⟨F0,D0,G0,E0,rfl,O0,P0,K0,M0⟩:=Av g3
 refine th<|rg<|ls<|Bs (cs:=[Ac p1.Name,SL F0 p1.Regs D0,SL G0 p1.Body E0,i6 p1.At].toArray) o rfl u rfl rfl λR0 w a u o=>qa o rfl λo=>re<|tn<|th<|?_
 obtain ⟨I0,J0,hm⟩:=bs hm
 rcases bit hm with ⟨C0,hm⟩ | ⟨C0,hm⟩
 have C0':(!I0)=false:=by rw [C0];rfl
 obtain ⟨S0,Q0,hm⟩:=bs hm
 refine rg<|qv o (Af o Er rfl) λo=>qv o (Ag o isAgg9 rfl (u.ld.cellB t0 rfl)) λo=>ls<|cr o call82 (Kl (Ai _) (Tab.mono hT (St.up u)) J0) u λu o=>qv o (Az o rfl) λo=>qv o (As (Ab o rfl) (congrArg Value.bool C0')) λo=>qg o (Ay o isAgg48 sizeOf48 rfl rfl (u.ld.cellsB t0)) λo=>ls<|gy o rfl rfl<|cr o call83 (Ye (Ai _) (Tab.mono hT (St.up u)) (Enc.mono (St.up u) (show Enc.rep (α:=api_Thread) H [Ac p1.Name,SL F0 p1.Regs D0,SL G0 p1.Body E0,i6 p1.At] p1 from ⟨_,_,rfl,rfl,⟨_,_,rfl,⟨_,_,rfl,O0,P0⟩,⟨_,_,rfl,⟨_,_,rfl,K0,M0⟩,rfl⟩⟩⟩)) Q0) u λu o=>qg o (Az o rfl) λo=>qv o (Ae o rfl rfl) λo=>qa o rfl λo=>re<|tn<|wr<|?_
 obtain rfl:=si hm
 exact r1 o results81 rfl ⟨rfl,u.keep⟩
 have C0':(!I0)=true:=by rw [C0];rfl
 refine rg<|qv o (Af o Er rfl) λo=>qv o (Ag o isAgg9 rfl (u.ld.cellB t0 rfl)) λo=>ls<|cr o call82 (Kl (Ai _) (Tab.mono hT (St.up u)) J0) u λu o=>qv o (Az o rfl) λo=>qv o (As (Ab o rfl) (congrArg Value.bool C0')) λo=>?_
 iterate 3 refine qn o λo=>?_
 refine qv o (Ad o rfl rfl) λo=>qa o rfl λo=>re<|tn<|wr<|?_
 obtain rfl:=si hm
 exact r1 o results81 rfl ⟨rfl,u.keep⟩
theorem Jbj (hH:H.le w0) (hT:Tab H) {K0:Option Addr} {E0:Nat} {p1:(List api_Thread)} (_:p1.length≤E0) (Q0:SR H K0 p1) {r:Int} (hm:Z9x N p1=some r):Tot Tryz.prog 130 #[SL K0 p1 E0,.func (.func 81) #[] #[]] w0 (λv w'=>v=i6 r∧Keep Nil w0 w'):=by
 unfold Z9x at hm
 refine fn0 func130 rfl ntmps130 rfl rfl λa o=>?_
 have u:St w0 Nil [H] [] w0:=start1 hH
 refine th<|rg<|qa o rfl λo=>re<|tn<|th<|th<|rg<|qm o rfl λo=>qv o (Ak (α:=api_Thread) (xs:=p1) o runUnderlying24 rfl) λo=>qm o rfl λo=>re<|tn<|Au (λa w=>Z9y=some r∧Fr 19 [] a∧St w0 Nil [H] [] w) ?_ ?_
 refine wb<|lp (α:=Nat×Int) (λgh a w=>match gh with | (D0,G0)=>(Z9z N Z9y p1) D0 G0=some r∧Fr 19 [(0,SL K0 p1 E0),(1,.func (.func 81) #[] #[]),(7,i6 (p1.length:Int)),(8,i6 G0)] a∧St w0 Nil [H] [] w) (λgh=>gh.1) (N,0) ⟨hm,o.hs,u⟩ ?_
 rintro ⟨D0,G0⟩ a w ⟨hm,o,u⟩
 obtain _ | D0:=D0
 simp [Z9z] at hm
 rw [Z9z] at hm
 refine th<|rg<|qv o (Aq o rfl rfl) λo=>re<|?_
 rcases bip hm with ⟨M0,hm⟩ | ⟨M0,hm⟩
 refine tn<|th<|ctv o rfl M0<|wk<|tn<|th<|wb<|th<|rg<|qm o rfl λo=>qa o rfl λo=>re<|tn<|th<|?_
 obtain ⟨C0,h8,hm⟩:=bs hm
 obtain ⟨cz9,W0,R0⟩:=SR.get Q0 h8
 obtain ⟨O0,I0,P0,J0,rfl,S0,T0,U0,V0⟩:=Av W0
 obtain ⟨Y0,X0,hm⟩:=bs hm
 refine rg<|qm o rfl λo=>?_
 iterate 2 refine qm o rfl λo=>?_
 refine qv o (An o runUnderlying24 sizeOf48 rfl rfl h8 (SR.oaI Q0 (by decide) h8)) λo=>qv o (Ay o isAgg48 sizeOf48 rfl rfl (λj v hj=>PH.le.cell (Lds.le u.ld) (R0 j v hj))) λo=>ls<|k1 (vs:=[.agg #[Ac C0.Name,SL O0 C0.Regs I0,SL P0 C0.Body J0,i6 C0.At]]) (caps:=[]) o rfl rfl call81 (JbN (Ai _) (Tab.mono hT (St.up u)) (Enc.mono (St.up u) (show Enc.rep (α:=api_Thread) H [Ac C0.Name,SL O0 C0.Regs I0,SL P0 C0.Body J0,i6 C0.At] C0 from ⟨_,_,rfl,rfl,⟨_,_,rfl,⟨_,_,rfl,S0,T0⟩,⟨_,_,rfl,⟨_,_,rfl,U0,V0⟩,rfl⟩⟩⟩)) X0) ⟨rfl,trivial⟩ rfl (λv w a hR o=>?_)
 obtain ⟨rfl,hk⟩:=hR
 replace u:=u.pass hk
 refine re<|?_
 rcases bit hm with ⟨F0,hm⟩ | ⟨F0,hm⟩
 refine tn<|ctv o rfl F0<|th<|rg<|qm o rfl λo=>qa o rfl λo=>re<|tn<|wr<|br<|tr<|tr<|br<|tr<|?_
 obtain rfl:=si hm
 exact r1 o results130 rfl ⟨rfl,u.keep⟩
 refine tn<|cfv o rfl F0<|wk<|bn<|tn<|rg<|qv o (Ap o rfl rfl) λo=>qm o rfl λo=>re<|tn<|?_
 exact ⟨(D0,(IntKind.i64.wrap (G0+1))),⟨hm,o.hs,u⟩,Nat.lt_succ_self _⟩
 refine tn<|th<|cfv o rfl M0<|we<|tx<|tx<|bx<|tn<|?_
 exact ⟨hm,o.has trivial,u⟩
 rintro a w ⟨hm,o,u⟩
 unfold Z9y at hm
 refine th<|rg<|qa o rfl λo=>re<|tn<|wr<|?_
 obtain rfl:=si hm
 exact r1 o results130 rfl ⟨rfl,u.keep⟩
theorem Ul (hH:H.le w0) (hT:Tab H) {D0:Option Addr} {C0:Nat} {p1:(List api_Thread)} (E0:p1.length≤C0) (F0:SR H D0 p1) {r:Bool} (hm:Z9a N p1=some r):Tot Tryz.prog 89 #[SL D0 p1 C0,.func (.func 81) #[] #[]] w0 (λv w'=>v=.bool r∧Keep Nil w0 w'):=by
 unfold Z9a at hm
 refine fn0 func89 rfl ntmps89 rfl rfl λa o=>?_
 have u:St w0 Nil [H] [] w0:=start1 hH
 refine th<|rg<|qa o rfl λo=>re<|tn<|th<|?_
 obtain ⟨G0,h7,hm⟩:=bs hm
 refine rg<|qm o rfl λo=>qm o rfl λo=>ls<|cr o call130 (Jbj (Ai _) (Tab.mono hT (St.up u)) E0 (St.srH u F0) h7) u λu o=>qv o (Bi o rfl rfl) λo=>qa o rfl λo=>re<|tn<|wr<|?_
 obtain rfl:=si hm
 exact r1 o results89 rfl ⟨rfl,u.keep⟩
theorem Jcd (hH:H.le w0) (hT:Tab H) {cs2:List Value} {p1:api_Thread} (g3:Enc.rep H cs2 p1) {r:Bool} (hm:Z8e N p1=some r):Tot Tryz.prog 84 #[.agg cs2.toArray] w0 (λv w'=>v=.bool r∧Keep Nil w0 w'):=by
 unfold Z8e at hm
 refine fn0 func84 rfl ntmps84 rfl rfl λa o=>?_
 have u:St w0 Nil [H] [] w0:=start1 hH
 obtain ⟨F0,D0,G0,E0,rfl,K0,M0,I0,J0⟩:=Av g3
 refine th<|rg<|ls<|Bs (cs:=[Ac p1.Name,SL F0 p1.Regs D0,SL G0 p1.Body E0,i6 p1.At].toArray) o rfl u rfl rfl λP0 w a u o=>qa o rfl λo=>re<|tn<|th<|?_
 rcases bip hm with ⟨C0,hm⟩ | ⟨C0,hm⟩
 refine rg<|qv o (Af o Er rfl) λo=>qv o (Ag o isAgg9 rfl (u.ld.cellB t0 rfl)) λo=>qv o (Cu (m:=p1.Name) (n:=[]) o rfl rfl) λo=>qv o (As (Ab o rfl) (congrArg Value.bool C0)) λo=>?_
 iterate 3 refine qn o λo=>?_
 refine qv o (Ad o rfl rfl) λo=>qa o rfl λo=>re<|tn<|wr<|?_
 obtain rfl:=si hm
 exact r1 o results84 rfl ⟨rfl,u.keep⟩
 obtain ⟨Q0,O0,hm⟩:=bs hm
 refine rg<|qv o (Af o Er rfl) λo=>qv o (Ag o isAgg9 rfl (u.ld.cellB t0 rfl)) λo=>qv o (Cu (m:=p1.Name) (n:=[]) o rfl rfl) λo=>qv o (As (Ab o rfl) (congrArg Value.bool C0)) λo=>qg o (Ay o isAgg48 sizeOf48 rfl rfl (u.ld.cellsB t0)) λo=>ls<|gy o rfl rfl<|cr o call83 (Ye (Ai _) (Tab.mono hT (St.up u)) (Enc.mono (St.up u) (show Enc.rep (α:=api_Thread) H [Ac p1.Name,SL F0 p1.Regs D0,SL G0 p1.Body E0,i6 p1.At] p1 from ⟨_,_,rfl,rfl,⟨_,_,rfl,⟨_,_,rfl,K0,M0⟩,⟨_,_,rfl,⟨_,_,rfl,I0,J0⟩,rfl⟩⟩⟩)) O0) u λu o=>qg o (Az o rfl) λo=>qv o (Ae o rfl rfl) λo=>qa o rfl λo=>re<|tn<|wr<|?_
 obtain rfl:=si hm
 exact r1 o results84 rfl ⟨rfl,u.keep⟩
theorem Jb1 (hH:H.le w0) (hT:Tab H) {K0:Option Addr} {E0:Nat} {p1:(List api_Thread)} (_:p1.length≤E0) (Q0:SR H K0 p1) {r:Int} (hm:Za0 N p1=some r):Tot Tryz.prog 130 #[SL K0 p1 E0,.func (.func 84) #[] #[]] w0 (λv w'=>v=i6 r∧Keep Nil w0 w'):=by
 unfold Za0 at hm
 refine fn0 func130 rfl ntmps130 rfl rfl λa o=>?_
 have u:St w0 Nil [H] [] w0:=start1 hH
 refine th<|rg<|qa o rfl λo=>re<|tn<|th<|th<|rg<|qm o rfl λo=>qv o (Ak (α:=api_Thread) (xs:=p1) o runUnderlying24 rfl) λo=>qm o rfl λo=>re<|tn<|Au (λa w=>Za1=some r∧Fr 19 [] a∧St w0 Nil [H] [] w) ?_ ?_
 refine wb<|lp (α:=Nat×Int) (λgh a w=>match gh with | (D0,G0)=>(Za2 N Za1 p1) D0 G0=some r∧Fr 19 [(0,SL K0 p1 E0),(1,.func (.func 84) #[] #[]),(7,i6 (p1.length:Int)),(8,i6 G0)] a∧St w0 Nil [H] [] w) (λgh=>gh.1) (N,0) ⟨hm,o.hs,u⟩ ?_
 rintro ⟨D0,G0⟩ a w ⟨hm,o,u⟩
 obtain _ | D0:=D0
 simp [Za2] at hm
 rw [Za2] at hm
 refine th<|rg<|qv o (Aq o rfl rfl) λo=>re<|?_
 rcases bip hm with ⟨M0,hm⟩ | ⟨M0,hm⟩
 refine tn<|th<|ctv o rfl M0<|wk<|tn<|th<|wb<|th<|rg<|qm o rfl λo=>qa o rfl λo=>re<|tn<|th<|?_
 obtain ⟨C0,h8,hm⟩:=bs hm
 obtain ⟨cz9,W0,R0⟩:=SR.get Q0 h8
 obtain ⟨O0,I0,P0,J0,rfl,S0,T0,U0,V0⟩:=Av W0
 obtain ⟨Y0,X0,hm⟩:=bs hm
 refine rg<|qm o rfl λo=>?_
 iterate 2 refine qm o rfl λo=>?_
 refine qv o (An o runUnderlying24 sizeOf48 rfl rfl h8 (SR.oaI Q0 (by decide) h8)) λo=>qv o (Ay o isAgg48 sizeOf48 rfl rfl (λj v hj=>PH.le.cell (Lds.le u.ld) (R0 j v hj))) λo=>ls<|k1 (vs:=[.agg #[Ac C0.Name,SL O0 C0.Regs I0,SL P0 C0.Body J0,i6 C0.At]]) (caps:=[]) o rfl rfl call84 (Jcd (Ai _) (Tab.mono hT (St.up u)) (Enc.mono (St.up u) (show Enc.rep (α:=api_Thread) H [Ac C0.Name,SL O0 C0.Regs I0,SL P0 C0.Body J0,i6 C0.At] C0 from ⟨_,_,rfl,rfl,⟨_,_,rfl,⟨_,_,rfl,S0,T0⟩,⟨_,_,rfl,⟨_,_,rfl,U0,V0⟩,rfl⟩⟩⟩)) X0) ⟨rfl,trivial⟩ rfl (λv w a hR o=>?_)
 obtain ⟨rfl,hk⟩:=hR
 replace u:=u.pass hk
 refine re<|?_
 rcases bit hm with ⟨F0,hm⟩ | ⟨F0,hm⟩
 refine tn<|ctv o rfl F0<|th<|rg<|qm o rfl λo=>qa o rfl λo=>re<|tn<|wr<|br<|tr<|tr<|br<|tr<|?_
 obtain rfl:=si hm
 exact r1 o results130 rfl ⟨rfl,u.keep⟩
 refine tn<|cfv o rfl F0<|wk<|bn<|tn<|rg<|qv o (Ap o rfl rfl) λo=>qm o rfl λo=>re<|tn<|?_
 exact ⟨(D0,(IntKind.i64.wrap (G0+1))),⟨hm,o.hs,u⟩,Nat.lt_succ_self _⟩
 refine tn<|th<|cfv o rfl M0<|we<|tx<|tx<|bx<|tn<|?_
 exact ⟨hm,o.has trivial,u⟩
 rintro a w ⟨hm,o,u⟩
 unfold Za1 at hm
 refine th<|rg<|qa o rfl λo=>re<|tn<|wr<|?_
 obtain rfl:=si hm
 exact r1 o results130 rfl ⟨rfl,u.keep⟩
theorem Yh (hH:H.le w0) (hT:Tab H) {D0:Option Addr} {C0:Nat} {p1:(List api_Thread)} (E0:p1.length≤C0) (F0:SR H D0 p1) {r:Bool} (hm:Z9b N p1=some r):Tot Tryz.prog 89 #[SL D0 p1 C0,.func (.func 84) #[] #[]] w0 (λv w'=>v=.bool r∧Keep Nil w0 w'):=by
 unfold Z9b at hm
 refine fn0 func89 rfl ntmps89 rfl rfl λa o=>?_
 have u:St w0 Nil [H] [] w0:=start1 hH
 refine th<|rg<|qa o rfl λo=>re<|tn<|th<|?_
 obtain ⟨G0,h7,hm⟩:=bs hm
 refine rg<|qm o rfl λo=>qm o rfl λo=>ls<|cr o call130 (Jb1 (Ai _) (Tab.mono hT (St.up u)) E0 (St.srH u F0) h7) u λu o=>qv o (Bi o rfl rfl) λo=>qa o rfl λo=>re<|tn<|wr<|?_
 obtain rfl:=si hm
 exact r1 o results89 rfl ⟨rfl,u.keep⟩
theorem Jcr (hH:H.le w0) (hT:Tab H) {cs2:List Value} {p1:api_Claim} (g3:Enc.rep H cs2 p1) {r:Bool} (hm:Z8f N p1=some r):Tot Tryz.prog 85 #[.agg cs2.toArray] w0 (λv w'=>v=.bool r∧Keep Nil w0 w'):=by
 unfold Z8f at hm
 refine fn0 func85 rfl ntmps85 rfl rfl λa o=>?_
 have u:St w0 Nil [H] [] w0:=start1 hH
 obtain ⟨G0,F0,rfl,I0,J0⟩:=Cn g3
 refine th<|rg<|ls<|Bs (cs:=[SL G0 p1.E F0,i6 p1.At].toArray) o rfl u rfl rfl λb8 w a u o=>qa o rfl λo=>re<|tn<|th<|?_
 obtain ⟨D0,E0,hm⟩:=bs hm
 rcases bit hm with ⟨C0,hm⟩ | ⟨C0,hm⟩
 have C0':(!D0)=false:=by rw [C0];rfl
 obtain ⟨M0,K0,hm⟩:=bs hm
 refine rg<|qv o (Af o Nk rfl) λo=>qv o (Ag o isAgg3 rfl (u.ld.cellB t0 rfl)) λo=>ls<|cr o call86 (Mv (Ai _) E0) u λu o=>qv o (Az o rfl) λo=>qv o (As (Ab o rfl) (congrArg Value.bool C0')) λo=>qg o (Af o Nv rfl) λo=>qg o (Ag o isAgg49 rfl (u.ld.cellB t0 rfl)) λo=>ls<|gy o rfl rfl<|cr o call87 (JbH (Ai _) (Tab.mono hT (St.up u)) I0 (St.srH u J0) K0) u λu o=>qg o (Az o rfl) λo=>qv o (Ae o rfl rfl) λo=>qa o rfl λo=>re<|tn<|wr<|?_
 obtain rfl:=si hm
 exact r1 o results85 rfl ⟨rfl,u.keep⟩
 have C0':(!D0)=true:=by rw [C0];rfl
 refine rg<|qv o (Af o Nk rfl) λo=>qv o (Ag o isAgg3 rfl (u.ld.cellB t0 rfl)) λo=>ls<|cr o call86 (Mv (Ai _) E0) u λu o=>qv o (Az o rfl) λo=>qv o (As (Ab o rfl) (congrArg Value.bool C0')) λo=>?_
 iterate 4 refine qn o λo=>?_
 refine qv o (Ad o rfl rfl) λo=>qa o rfl λo=>re<|tn<|wr<|?_
 obtain rfl:=si hm
 exact r1 o results85 rfl ⟨rfl,u.keep⟩
theorem JbB (hH:H.le w0) (hT:Tab H) {J0:Option Addr} {E0:Nat} {p1:(List api_Claim)} (_:p1.length≤E0) (O0:SR H J0 p1) {r:Int} (hm:Z9o N p1=some r):Tot Tryz.prog 131 #[SL J0 p1 E0,.func (.func 85) #[] #[]] w0 (λv w'=>v=i6 r∧Keep Nil w0 w'):=by
 unfold Z9o at hm
 refine fn0 func131 rfl ntmps131 rfl rfl λa o=>?_
 have u:St w0 Nil [H] [] w0:=start1 hH
 refine th<|rg<|qa o rfl λo=>re<|tn<|th<|th<|rg<|qm o rfl λo=>qv o (Ak (α:=api_Claim) (xs:=p1) o runUnderlying25 rfl) λo=>qm o rfl λo=>re<|tn<|Au (λa w=>Z9p=some r∧Fr 19 [] a∧St w0 Nil [H] [] w) ?_ ?_
 refine wb<|lp (α:=Nat×Int) (λgh a w=>match gh with | (C0,G0)=>(Z9q N Z9p p1) C0 G0=some r∧Fr 19 [(0,SL J0 p1 E0),(1,.func (.func 85) #[] #[]),(7,i6 (p1.length:Int)),(8,i6 G0)] a∧St w0 Nil [H] [] w) (λgh=>gh.1) (N,0) ⟨hm,o.hs,u⟩ ?_
 rintro ⟨C0,G0⟩ a w ⟨hm,o,u⟩
 obtain _ | C0:=C0
 simp [Z9q] at hm
 rw [Z9q] at hm
 refine th<|rg<|qv o (Aq o rfl rfl) λo=>re<|?_
 rcases bip hm with ⟨K0,hm⟩ | ⟨K0,hm⟩
 refine tn<|th<|ctv o rfl K0<|wk<|tn<|th<|wb<|th<|rg<|qm o rfl λo=>qa o rfl λo=>re<|tn<|th<|?_
 obtain ⟨D0,h8,hm⟩:=bs hm
 obtain ⟨cz9,S0,P0⟩:=SR.get O0 h8
 obtain ⟨M0,I0,rfl,Q0,R0⟩:=Cn S0
 obtain ⟨U0,T0,hm⟩:=bs hm
 refine rg<|qm o rfl λo=>?_
 iterate 2 refine qm o rfl λo=>?_
 refine qv o (An o runUnderlying25 sizeOf74 rfl rfl h8 (SR.oaI O0 (by decide) h8)) λo=>qv o (Ay o isAgg74 sizeOf74 rfl rfl (λj v hj=>PH.le.cell (Lds.le u.ld) (P0 j v hj))) λo=>ls<|k1 (vs:=[.agg #[SL M0 D0.E I0,i6 D0.At]]) (caps:=[]) o rfl rfl call85 (Jcr (Ai _) (Tab.mono hT (St.up u)) (Enc.mono (St.up u) (show Enc.rep (α:=api_Claim) H [SL M0 D0.E I0,i6 D0.At] D0 from ⟨_,_,rfl,⟨_,_,rfl,Q0,R0⟩,rfl⟩)) T0) ⟨rfl,trivial⟩ rfl (λv w a hR o=>?_)
 obtain ⟨rfl,hk⟩:=hR
 replace u:=u.pass hk
 refine re<|?_
 rcases bit hm with ⟨F0,hm⟩ | ⟨F0,hm⟩
 refine tn<|ctv o rfl F0<|th<|rg<|qm o rfl λo=>qa o rfl λo=>re<|tn<|wr<|br<|tr<|tr<|br<|tr<|?_
 obtain rfl:=si hm
 exact r1 o results131 rfl ⟨rfl,u.keep⟩
 refine tn<|cfv o rfl F0<|wk<|bn<|tn<|rg<|qv o (Ap o rfl rfl) λo=>qm o rfl λo=>re<|tn<|?_
 exact ⟨(C0,(IntKind.i64.wrap (G0+1))),⟨hm,o.hs,u⟩,Nat.lt_succ_self _⟩
 refine tn<|th<|cfv o rfl K0<|we<|tx<|tx<|bx<|tn<|?_
 exact ⟨hm,o.has trivial,u⟩
 rintro a w ⟨hm,o,u⟩
 unfold Z9p at hm
 refine th<|rg<|qa o rfl λo=>re<|tn<|wr<|?_
 obtain rfl:=si hm
 exact r1 o results131 rfl ⟨rfl,u.keep⟩
theorem Jbz (hH:H.le w0) (hT:Tab H) {D0:Option Addr} {C0:Nat} {p1:(List api_Claim)} (E0:p1.length≤C0) (F0:SR H D0 p1) {r:Bool} (hm:Z97 N p1=some r):Tot Tryz.prog 90 #[SL D0 p1 C0,.func (.func 85) #[] #[]] w0 (λv w'=>v=.bool r∧Keep Nil w0 w'):=by
 unfold Z97 at hm
 refine fn0 func90 rfl ntmps90 rfl rfl λa o=>?_
 have u:St w0 Nil [H] [] w0:=start1 hH
 refine th<|rg<|qa o rfl λo=>re<|tn<|th<|?_
 obtain ⟨G0,h7,hm⟩:=bs hm
 refine rg<|qm o rfl λo=>qm o rfl λo=>ls<|cr o call131 (JbB (Ai _) (Tab.mono hT (St.up u)) E0 (St.srH u F0) h7) u λu o=>qv o (Bi o rfl rfl) λo=>qa o rfl λo=>re<|tn<|wr<|?_
 obtain rfl:=si hm
 exact r1 o results90 rfl ⟨rfl,u.keep⟩
theorem Jcw (hH:H.le w0) (hT:Tab H) {cs2:List Value} {p1:api_Prog} (g3:Enc.rep H cs2 p1) {r:Bool} (hm:Z8b N p1=some r):Tot Tryz.prog 50 #[.agg cs2.toArray] w0 (λv w'=>v=.bool r∧Keep Nil w0 w'):=by
 unfold Z8b at hm
 refine fn0 func50 rfl ntmps50 rfl rfl λa o=>?_
 have u:St w0 Nil [H] [] w0:=start1 hH
 obtain ⟨u0,R0,B1,S0,T0,M0,U0,O0,V0,P0,W0,Q0,rfl,R1,S1,I1,J1,M1,O1,C0,D0,X0,Y0,P1,Q1⟩:=Ar g3
 refine th<|rg<|ls<|Bs (cs:=[SL u0 p1.Lines R0,SL B1 p1.Vols S0,SL T0 p1.Locks M0,SL U0 p1.Threads O0,SL V0 p1.Recover P0,SL W0 p1.Claims Q0].toArray) o rfl u rfl rfl λC1 w a u o=>qa o rfl λo=>?_
 iterate 4 refine re<|tn<|th<|rg<|qa o rfl λo=>?_
 refine re<|tn<|th<|wb<|th<|th<|?_
 obtain ⟨T1,U1,hm⟩:=bs hm
 refine rg<|qv o (Af o Cj rfl) λo=>qv o (Ag o isAgg22 rfl (u.ld.cellB t0 rfl)) λo=>qm o rfl λo=>ls<|cr o call88 (Jbr (Ai _) (Tab.mono hT (St.up u)) R1 (St.srH u S1) U1) u λu o=>qa o rfl λo=>re<|tn<|Au (λa w=>∃ (j0:Bool),(Z8g N p1) j0=some r∧Fr 43 [(1,PT C1),(4,.func (.func 81) #[] #[]),(5,.func (.func 84) #[] #[]),(6,.func (.func 85) #[] #[]),(7,.bool j0)] a∧St w0 Nil [H] [bk C1 [SL u0 p1.Lines R0,SL B1 p1.Vols S0,SL T0 p1.Locks M0,SL U0 p1.Threads O0,SL V0 p1.Recover P0,SL W0 p1.Claims Q0] 27] w) ?_ ?_
 rcases bit hm with ⟨E0,hm⟩ | ⟨E0,hm⟩
 refine ctv o rfl E0<|wk<|tn<|?_
 exact ⟨T1,hm,o.hs,u⟩
 refine cfv o rfl E0<|th<|?_
 obtain ⟨V1,X1,hm⟩:=bs hm
 refine rg<|qv o (Af o Ed rfl) λo=>qv o (Ag o isAgg23 rfl (u.ld.cellB t0 rfl)) λo=>ls<|cr o call80 (Uv (Ai _) (Tab.mono hT (St.up u)) I1 (St.srH u J1) X1) u λu o=>qv o (Az o rfl) λo=>qa o rfl λo=>re<|?_
 rcases bit hm with ⟨F0,hm⟩ | ⟨F0,hm⟩
 refine tn<|cfv o rfl (by rw [F0];rfl)<|th<|?_
 obtain ⟨Y1,B2,hm⟩:=bs hm
 refine rg<|qv o (Af o Ec rfl) λo=>qv o (Ag o isAgg23 rfl (u.ld.cellB t0 rfl)) λo=>ls<|cr o call80 (Uv (Ai _) (Tab.mono hT (St.up u)) M1 (St.srH u O1) B2) u λu o=>qv o (Az o rfl) λo=>qa o rfl λo=>re<|?_
 rcases bit hm with ⟨G0,hm⟩ | ⟨G0,hm⟩
 refine tn<|cfv o rfl (by rw [G0];rfl)<|rg<|qv o (Af o Gj rfl) λo=>qv o (Ag o isAgg24 rfl (u.ld.cellB t0 rfl)) λo=>qv o (Ak (α:=api_Thread) (xs:=p1.Recover) o runUnderlying24 rfl) λo=>qv o (Be o rfl rfl) λo=>qa o rfl λo=>re<|tn<|?_
 exact ⟨(decide (1 < (p1.Recover.length:Int))),hm,o.hs,u⟩
 refine tn<|ctv o rfl (by rw [G0];rfl)<|wk<|tn<|?_
 exact ⟨(!Y1),hm,o.hs,u⟩
 refine tn<|ctv o rfl (by rw [F0];rfl)<|wk<|tn<|?_
 exact ⟨(!V1),hm,o.hs,u⟩
 rintro a w ⟨j0,hm,o,u⟩
 unfold Z8g at hm
 rcases bit hm with ⟨I0,hm⟩ | ⟨I0,hm⟩
 refine ctv o rfl I0<|th<|rg<|qa o rfl λo=>re<|tn<|wr<|br<|tr<|?_
 obtain rfl:=si hm
 exact r1 o results50 rfl ⟨rfl,u.keep⟩
 refine cfv o rfl I0<|wk<|bn<|tn<|th<|?_
 obtain ⟨E1,n0,hm⟩:=bs hm
 rcases bit hm with ⟨J0,hm⟩ | ⟨J0,hm⟩
 have J0':(!E1)=false:=by rw [J0];rfl
 refine rg<|qv o (Af o De rfl) λo=>qv o (Ag o isAgg24 rfl (u.ld.cellB t0 rfl)) λo=>qm o rfl λo=>ls<|cr o call89 (Ul (Ai _) (Tab.mono hT (St.up u)) C0 (St.srH u D0) n0) u λu o=>qv o (Az o rfl) λo=>qv o (As (Ab o rfl) (congrArg Value.bool J0')) λo=>?_
 iterate 5 refine qn o λo=>?_
 refine qv o (Ae o rfl rfl) λo=>qm o rfl λo=>?_
 iterate 5 refine qn o λo=>?_
 refine qv o (Ae o rfl rfl) λo=>qa o rfl λo=>re<|tn<|wr<|?_
 obtain rfl:=si hm
 exact r1 o results50 rfl ⟨rfl,u.keep⟩
 have J0':(!E1)=true:=by rw [J0];rfl
 obtain ⟨F1,G1,hm⟩:=bs hm
 rcases bit hm with ⟨K0,hm⟩ | ⟨K0,hm⟩
 have K0':(!F1)=false:=by rw [K0];rfl
 refine rg<|qv o (Af o De rfl) λo=>qv o (Ag o isAgg24 rfl (u.ld.cellB t0 rfl)) λo=>qm o rfl λo=>ls<|cr o call89 (Ul (Ai _) (Tab.mono hT (St.up u)) C0 (St.srH u D0) n0) u λu o=>qv o (Az o rfl) λo=>qv o (As (Ab o rfl) (congrArg Value.bool J0')) λo=>qg o (Af o Gj rfl) λo=>qg o (Ag o isAgg24 rfl (u.ld.cellB t0 rfl)) λo=>qg o (Ab o rfl) λo=>ls<|gy o rfl rfl<|cr o call89 (Yh (Ai _) (Tab.mono hT (St.up u)) X0 (St.srH u Y0) G1) u λu o=>qg o (Az o rfl) λo=>qv o (Ad o rfl rfl) λo=>qv o (As (Ab o rfl) (congrArg Value.bool K0')) λo=>?_
 iterate 5 refine qn o λo=>?_
 refine qv o (Ae o rfl rfl) λo=>qa o rfl λo=>re<|tn<|wr<|?_
 obtain rfl:=si hm
 exact r1 o results50 rfl ⟨rfl,u.keep⟩
 have K0':(!F1)=true:=by rw [K0];rfl
 obtain ⟨E2,C2,hm⟩:=bs hm
 refine rg<|qv o (Af o De rfl) λo=>qv o (Ag o isAgg24 rfl (u.ld.cellB t0 rfl)) λo=>qm o rfl λo=>ls<|cr o call89 (Ul (Ai _) (Tab.mono hT (St.up u)) C0 (St.srH u D0) n0) u λu o=>qv o (Az o rfl) λo=>qv o (As (Ab o rfl) (congrArg Value.bool J0')) λo=>qg o (Af o Gj rfl) λo=>qg o (Ag o isAgg24 rfl (u.ld.cellB t0 rfl)) λo=>qg o (Ab o rfl) λo=>ls<|gy o rfl rfl<|cr o call89 (Yh (Ai _) (Tab.mono hT (St.up u)) X0 (St.srH u Y0) G1) u λu o=>qg o (Az o rfl) λo=>qv o (Ad o rfl rfl) λo=>qv o (As (Ab o rfl) (congrArg Value.bool K0')) λo=>qg o (Af o Em rfl) λo=>qg o (Ag o isAgg25 rfl (u.ld.cellB t0 rfl)) λo=>qg o (Ab o rfl) λo=>ls<|gy o rfl rfl<|cr o call90 (Jbz (Ai _) (Tab.mono hT (St.up u)) P1 (St.srH u Q1) C2) u λu o=>qg o (Az o rfl) λo=>qv o (Ad o rfl rfl) λo=>qa o rfl λo=>re<|tn<|wr<|?_
 obtain rfl:=si hm
 exact r1 o results50 rfl ⟨rfl,u.keep⟩
theorem JaY (hH:H.le w0) {D0:Option Addr} {C0:Nat} {p1:(List api_Cell)} (_:p1.length≤C0) (_:SR H D0 p1) {r:Bool} (hm:Z7f N p1=some r):Tot Tryz.prog 91 #[SL D0 p1 C0] w0 (λv w'=>v=.bool r∧Keep Nil w0 w'):=by
 unfold Z7f at hm
 refine fn0 func91 rfl ntmps91 rfl rfl λa o=>?_
 have u:St w0 Nil [H] [] w0:=start1 hH
 refine th<|rg<|qa o rfl λo=>re<|tn<|th<|rg<|qm o rfl λo=>qv o (Ak (α:=api_Cell) (xs:=p1) o runUnderlying23 rfl) λo=>qv o (Be o rfl rfl) λo=>qa o rfl λo=>re<|tn<|wr<|?_
 obtain rfl:=si hm
 exact r1 o results91 rfl ⟨rfl,u.keep⟩
theorem Jbd (hH:H.le w0) {G0:Option Addr} {D0:Nat} {p1:(List (List api_Cell))} (_:p1.length≤D0) (K0:SR H G0 p1) {r:Int} (hm:Z9i N p1=some r):Tot Tryz.prog 129 #[SL G0 p1 D0,.func (.func 91) #[] #[]] w0 (λv w'=>v=i6 r∧Keep Nil w0 w'):=by
 unfold Z9i at hm
 refine fn0 func129 rfl ntmps129 rfl rfl λa o=>?_
 have u:St w0 Nil [H] [] w0:=start1 hH
 refine th<|rg<|qa o rfl λo=>re<|tn<|th<|th<|rg<|qm o rfl λo=>qv o (Ak (α:=(List api_Cell)) (xs:=p1) o runUnderlying22 rfl) λo=>qm o rfl λo=>re<|tn<|Au (λa w=>Z9j=some r∧Fr 19 [] a∧St w0 Nil [H] [] w) ?_ ?_
 refine wb<|lp (α:=Nat×Int) (λgh a w=>match gh with | (C0,F0)=>(Z9k N Z9j p1) C0 F0=some r∧Fr 19 [(0,SL G0 p1 D0),(1,.func (.func 91) #[] #[]),(7,i6 (p1.length:Int)),(8,i6 F0)] a∧St w0 Nil [H] [] w) (λgh=>gh.1) (N,0) ⟨hm,o.hs,u⟩ ?_
 rintro ⟨C0,F0⟩ a w ⟨hm,o,u⟩
 obtain _ | C0:=C0
 simp [Z9k] at hm
 rw [Z9k] at hm
 refine th<|rg<|qv o (Aq o rfl rfl) λo=>re<|?_
 rcases bip hm with ⟨I0,hm⟩ | ⟨I0,hm⟩
 refine tn<|th<|ctv o rfl I0<|wk<|tn<|th<|wb<|th<|rg<|qm o rfl λo=>qa o rfl λo=>re<|tn<|th<|?_
 obtain ⟨R0,h8,hm⟩:=bs hm
 obtain ⟨cz9,S0,M0⟩:=SR.get K0 h8
 obtain ⟨O0,J0,rfl,P0,Q0⟩:=S0
 obtain ⟨U0,T0,hm⟩:=bs hm
 refine rg<|qm o rfl λo=>?_
 iterate 2 refine qm o rfl λo=>?_
 refine qv o (An o runUnderlying22 sizeOf23 rfl rfl h8 (SR.oaI K0 (by decide) h8)) λo=>qv o (Ag o isAgg23 rfl (PH.le.cell (Lds.le u.ld) (M0 0 _ rfl))) λo=>ls<|k1 (vs:=[SL O0 R0 J0]) (caps:=[]) o rfl rfl call91 (JaY (Ai _) P0 (St.srH u Q0) T0) ⟨rfl,trivial⟩ rfl (λv w a hR o=>?_)
 obtain ⟨rfl,hk⟩:=hR
 replace u:=u.pass hk
 refine re<|?_
 rcases bit hm with ⟨E0,hm⟩ | ⟨E0,hm⟩
 refine tn<|ctv o rfl E0<|th<|rg<|qm o rfl λo=>qa o rfl λo=>re<|tn<|wr<|br<|tr<|tr<|br<|tr<|?_
 obtain rfl:=si hm
 exact r1 o results129 rfl ⟨rfl,u.keep⟩
 refine tn<|cfv o rfl E0<|wk<|bn<|tn<|rg<|qv o (Ap o rfl rfl) λo=>qm o rfl λo=>re<|tn<|?_
 exact ⟨(C0,(IntKind.i64.wrap (F0+1))),⟨hm,o.hs,u⟩,Nat.lt_succ_self _⟩
 refine tn<|th<|cfv o rfl I0<|we<|tx<|tx<|bx<|tn<|?_
 exact ⟨hm,o.has trivial,u⟩
 rintro a w ⟨hm,o,u⟩
 unfold Z9j at hm
 refine th<|rg<|qa o rfl λo=>re<|tn<|wr<|?_
 obtain rfl:=si hm
 exact r1 o results129 rfl ⟨rfl,u.keep⟩
theorem Yy (hH:H.le w0) {D0:Option Addr} {C0:Nat} {p1:(List (List api_Cell))} (E0:p1.length≤C0) (F0:SR H D0 p1) {r:Bool} (hm:Z95 N p1=some r):Tot Tryz.prog 88 #[SL D0 p1 C0,.func (.func 91) #[] #[]] w0 (λv w'=>v=.bool r∧Keep Nil w0 w'):=by
 unfold Z95 at hm
 refine fn0 func88 rfl ntmps88 rfl rfl λa o=>?_
 have u:St w0 Nil [H] [] w0:=start1 hH
 refine th<|rg<|qa o rfl λo=>re<|tn<|th<|?_
 obtain ⟨G0,h7,hm⟩:=bs hm
 refine rg<|qm o rfl λo=>qm o rfl λo=>ls<|cr o call129 (Jbd (Ai _) E0 (St.srH u F0) h7) u λu o=>qv o (Bi o rfl rfl) λo=>qa o rfl λo=>re<|tn<|wr<|?_
 obtain rfl:=si hm
 exact r1 o results88 rfl ⟨rfl,u.keep⟩
theorem JbW (hH:H.le w0) {F0:Option Addr} {C0:Nat} {p1:(List (List api_Thread))} (_:p1.length≤C0) (U0:SR H F0 p1) {r:(List api_Thread)} (hm:Z8z N p1=some r):Tot Tryz.prog 93 #[SL F0 p1 C0] w0 (λv w'=>∃ (H':PH) (E1:Option Addr) (X0:Nat),v=SL E1 r X0∧r.length≤X0∧SR H' E1 r∧Ext w0 H H'∧H'.le w'∧Keep Nil w0 w'):=by
 unfold Z8z at hm
 refine fn0 func93 rfl ntmps93 rfl rfl λa o=>?_
 have u:St w0 Nil [H] [] w0:=start1 hH
 refine th<|rg<|qa o rfl λo=>re<|tn<|th<|rg<|qa o rfl λo=>re<|tn<|th<|th<|rg<|qm o rfl λo=>qv o (Ak (α:=(List api_Thread)) (xs:=p1) o runUnderlying147 rfl) λo=>qm o rfl λo=>re<|tn<|Au (λa w=>∃ (Y0:Int),(Z90 N p1) Y0=some r∧Fr 36 [(0,SL F0 p1 C0),(3,i6 Y0)] a∧St w0 Nil [H] [] w) ?_ ?_
 refine wb<|lp (α:=Nat×Int×Int) (λgh a w=>match gh with | (K0,M0,V0)=>(Z92 N (Z90 N p1) p1) K0 M0 V0=some r∧Fr 36 [(0,SL F0 p1 C0),(3,i6 M0),(9,SL F0 p1 C0),(10,i6 (p1.length:Int)),(11,i6 V0)] a∧St w0 Nil [H] [] w) (λgh=>gh.1) (N,0,0) ⟨hm,o.hs,u⟩ ?_
 rintro ⟨K0,M0,V0⟩ a w ⟨hm,o,u⟩
 obtain _ | K0:=K0
 simp [Z92] at hm
 rw [Z92] at hm
 refine th<|rg<|qv o (Aq o rfl rfl) λo=>re<|?_
 rcases bip hm with ⟨j0,hm⟩ | ⟨j0,hm⟩
 refine tn<|th<|ctv o rfl j0<|wk<|tn<|th<|wb<|th<|?_
 obtain ⟨F1,h8,hm⟩:=bs hm
 obtain ⟨cz9,X1,G1⟩:=SR.get U0 h8
 obtain ⟨J2,G2,rfl,K2,M2⟩:=X1
 refine rg<|qv o (An o Tryz.runUnderlying147 Tryz.sizeOf24 rfl rfl h8 (SR.oaI U0 (by decide) h8)) λo=>qv o (Ag o isAgg24 rfl (PH.le.cell (Lds.le u.ld) (G1 0 _ rfl))) λo=>qa o rfl λo=>re<|tn<|th<|rg<|qm o rfl λo=>qm o rfl λo=>qv o (Ak (α:=api_Thread) (xs:=F1) o runUnderlying24 rfl) λo=>qv o (Ap o rfl rfl) λo=>qa o rfl λo=>re<|tn<|th<|rg<|qm o rfl λo=>qv o (Aq o rfl rfl) λo=>re<|?_
 rcases bip hm with ⟨Q0,hm⟩ | ⟨Q0,hm⟩
 refine tn<|ctv o rfl Q0<|?_
 cases hm
 refine tn<|cfv o rfl Q0<|wk<|bn<|tn<|rg<|qv o (Ap o rfl rfl) λo=>qm o rfl λo=>re<|tn<|?_
 exact ⟨(K0,(IntKind.i64.wrap (M0+(F1.length:Int))),(IntKind.i64.wrap (V0+1))),⟨hm,o.hs,u⟩,Nat.lt_succ_self _⟩
 refine tn<|th<|cfv o rfl j0<|we<|tx<|tx<|bx<|tn<|?_
 exact ⟨M0,hm,o.has ⟨rfl,rfl,trivial⟩,u⟩
 rintro a w ⟨Y0,hm,o,u⟩
 unfold Z90 at hm
 refine th<|?_
 obtain ⟨Q2,Y1,hm⟩:=bs hm
 refine rg<|qm o rfl λo=>ls<|c1 o rfl call132 (Jav Xd rfl rfl Jh rfl (by decide) Y1) ⟨rfl,rfl,trivial⟩ (λv w a hR o=>?_)
 obtain ⟨I1,B1,rfl,hk⟩:=hR
 replace u:=u.fresh hk
 have J1:Rows H [] ([]:List api_Thread):=.nil
 refine qa o rfl λo=>re<|tn<|th<|th<|rg<|qm o rfl λo=>qv o (Ak (α:=(List api_Thread)) (xs:=p1) o runUnderlying147 rfl) λo=>qm o rfl λo=>re<|tn<|Au (λa w=>∃ (O0:(List api_Thread)) (R0:Option Addr) (G0:Nat) (S0:List Value),Z91 O0=some r∧Fr 36 [(6,SL R0 O0 G0)] a∧St w0 Nil [H] [sla 48 4 R0 O0.length G0 S0] w∧Rows H S0 O0) ?_ ?_
 refine wb<|lp (α:=Nat×(List api_Thread)×Int) (λgh a w=>match gh with | (P0,E0,W0)=>∃ (I0:Option Addr) (D0:Nat) (J0:List Value),(Z93 N Z91 p1) P0 E0 W0=some r∧Fr 36 [(6,SL I0 E0 D0),(25,SL F0 p1 C0),(26,i6 (p1.length:Int)),(27,i6 W0)] a∧St w0 Nil [H] [sla 48 4 I0 E0.length D0 J0] w∧Rows H J0 E0) (λgh=>gh.1) (N,[],0) ⟨I1,B1,[],hm,o.hs,u,J1⟩ ?_
 rintro ⟨P0,E0,W0⟩ a w ⟨I0,D0,J0,hm,o,u,n0⟩
 obtain _ | P0:=P0
 simp [Z93] at hm
 rw [Z93] at hm
 refine th<|rg<|qv o (Aq o rfl rfl) λo=>re<|?_
 rcases bip hm with ⟨T0,hm⟩ | ⟨T0,hm⟩
 refine tn<|th<|ctv o rfl T0<|wk<|tn<|th<|wb<|th<|?_
 obtain ⟨B2,u0,hm⟩:=bs hm
 obtain ⟨R2,C2,M1⟩:=SR.get U0 u0
 obtain ⟨O2,I2,rfl,P2,O1⟩:=C2
 refine rg<|qv o (An o Tryz.runUnderlying147 Tryz.sizeOf24 rfl rfl u0 (SR.oaI U0 (by decide) u0)) λo=>qv o (Ag o isAgg24 rfl (PH.le.cell (Lds.le u.ld) (M1 0 _ rfl))) λo=>qa o rfl λo=>re<|tn<|?_
 obtain ⟨E2,F2,hm⟩:=bs hm
 refine rg<|qm o rfl λo=>qm o rfl λo=>?_
 obtain ⟨us39,hd40,hu41⟩:=id O1
 refine ls<|Cl (α:=api_Thread) (xs:=E0) (ys:=B2) o rfl u underlying24 Jh rfl (by decide) rfl rfl rfl t0 n0 (u.rdH t0 hd40) hu41 F2 λP1 C1 Q1 w a R1 hU o=>?_
 replace u:=hU _ .head
 refine qa o rfl λo=>re<|bn<|tn<|rg<|qv o (Ap o rfl rfl) λo=>qm o rfl λo=>re<|tn<|?_
 exact ⟨(P0,E2,(IntKind.i64.wrap (W0+1))),⟨P1,C1,Q1,hm,o.hs,u,R1⟩,Nat.lt_succ_self _⟩
 refine tn<|th<|cfv o rfl T0<|we<|tx<|tx<|bx<|tn<|?_
 exact ⟨E0,I0,D0,J0,hm,o.has ⟨rfl,trivial⟩,u,n0⟩
 rintro a w ⟨O0,R0,G0,S0,hm,o,u,S1⟩
 unfold Z91 at hm
 refine th<|rg<|qm o rfl λo=>qa o rfl λo=>re<|tn<|wr<|?_
 obtain ⟨H45,T1,U1,V1,u⟩:=St.frzS u .head S1
 obtain rfl:=si hm
 exact r1 o results93 rfl ⟨H45,_,_,rfl,V1,U1,T1,(St.le u),u.keep⟩
theorem Ri (hH:H.le w0) {cs2:List Value} {p1:api_Prog} (g3:Enc.rep H cs2 p1) {r:(List api_Thread)} (hm:Z7t N p1=some r):Tot Tryz.prog 52 #[.agg cs2.toArray] w0 (λv w'=>∃ (H':PH) (M0:Option Addr) (I0:Nat),v=SL M0 r I0∧r.length≤I0∧SR H' M0 r∧Ext w0 H H'∧H'.le w'∧Keep Nil w0 w'):=by
 unfold Z7t at hm
 refine fn0 func52 rfl ntmps52 rfl rfl λa o=>?_
 have u:St w0 Nil [H] [] w0:=start1 hH
 obtain ⟨C1,O0,E1,P0,Q0,J0,E0,C0,F0,D0,R0,K0,rfl,S1,T1,I1,J1,M1,O1,S0,T0,U0,V0,P1,Q1⟩:=Ar g3
 refine th<|rg<|ls<|Bs (cs:=[SL C1 p1.Lines O0,SL E1 p1.Vols P0,SL Q0 p1.Locks J0,SL E0 p1.Threads C0,SL F0 p1.Recover D0,SL R0 p1.Claims K0].toArray) o rfl u rfl rfl λU1 w a u o=>qa o rfl λo=>re<|tn<|th<|?_
 obtain ⟨V1,F1,hm⟩:=bs hm
 refine rg<|qv o (Af o De rfl) λo=>qv o (Ag o isAgg24 rfl (u.ld.cellB t0 rfl)) λo=>qv o (Af o Gj rfl) λo=>qv o (Ag o isAgg24 rfl (u.ld.cellB t0 rfl)) λo=>ls<|Bl (e:=24) (sz:=1) [SL E0 p1.Threads C0,SL F0 p1.Recover D0] o rfl u rfl rfl rfl (λw=>by kernel_rfl) λX1 w a u o=>?_
 have W0:Rows (α:=(List api_Thread)) H [SL E0 p1.Threads C0,SL F0 p1.Recover D0] ([p1.Threads,p1.Recover]:List (List api_Thread)):=(.cons (c:=[SL E0 p1.Threads C0]) ⟨_,_,rfl,S0,T0⟩ (.cons (c:=[SL F0 p1.Recover D0]) ⟨_,_,rfl,U0,V0⟩ .nil))
 obtain ⟨H35,X0,Y0,j0,u⟩:=St.frzS u .head W0
 refine ls<|c1 o rfl call93 (JbW (St.le u) j0 Y0 F1) ⟨rfl,trivial⟩ (λv w a hR o=>?_)
 obtain ⟨H41,R1,G1,rfl,n0,u0,G0,B1,hk⟩:=hR
 obtain ⟨u,G0⟩:=And.intro (St.passH u hk G0 B1) (St.extc u G0)
 refine qa o rfl λo=>re<|tn<|wr<|?_
 obtain rfl:=si hm
 exact r1 o results52 rfl ⟨H41,_,_,rfl,n0,u0,(Ext.trans X0 G0),(St.le u),u.keep⟩
theorem Jbb (hH:H.le w0) {cs2:List Value} {p1:api_Thread} (g3:Enc.rep H cs2 p1) {r:Bool} (hm:Z7g N p1=some r):Tot Tryz.prog 92 #[.agg cs2.toArray] w0 (λv w'=>v=.bool r∧Keep Nil w0 w'):=by
 unfold Z7g at hm
 refine fn0 func92 rfl ntmps92 rfl rfl λa o=>?_
 have u:St w0 Nil [H] [] w0:=start1 hH
 obtain ⟨E0,C0,F0,D0,rfl,J0,K0,G0,I0⟩:=Av g3
 refine th<|rg<|ls<|Bs (cs:=[Ac p1.Name,SL E0 p1.Regs C0,SL F0 p1.Body D0,i6 p1.At].toArray) o rfl u rfl rfl λM0 w a u o=>qa o rfl λo=>re<|tn<|th<|rg<|qv o (Af o Da rfl) λo=>qv o (Ag o isAgg36 rfl (u.ld.cellB t0 rfl)) λo=>qv o (Ak (α:=Str) (xs:=p1.Regs) o runUnderlying36 rfl) λo=>qv o (Be o rfl rfl) λo=>qa o rfl λo=>re<|tn<|wr<|?_
 obtain rfl:=si hm
 exact r1 o results92 rfl ⟨rfl,u.keep⟩
theorem JbG (hH:H.le w0) {K0:Option Addr} {E0:Nat} {p1:(List api_Thread)} (_:p1.length≤E0) (Q0:SR H K0 p1) {r:Int} (hm:Za3 N p1=some r):Tot Tryz.prog 130 #[SL K0 p1 E0,.func (.func 92) #[] #[]] w0 (λv w'=>v=i6 r∧Keep Nil w0 w'):=by
 unfold Za3 at hm
 refine fn0 func130 rfl ntmps130 rfl rfl λa o=>?_
 have u:St w0 Nil [H] [] w0:=start1 hH
 refine th<|rg<|qa o rfl λo=>re<|tn<|th<|th<|rg<|qm o rfl λo=>qv o (Ak (α:=api_Thread) (xs:=p1) o runUnderlying24 rfl) λo=>qm o rfl λo=>re<|tn<|Au (λa w=>Za4=some r∧Fr 19 [] a∧St w0 Nil [H] [] w) ?_ ?_
 refine wb<|lp (α:=Nat×Int) (λgh a w=>match gh with | (D0,G0)=>(Za5 N Za4 p1) D0 G0=some r∧Fr 19 [(0,SL K0 p1 E0),(1,.func (.func 92) #[] #[]),(7,i6 (p1.length:Int)),(8,i6 G0)] a∧St w0 Nil [H] [] w) (λgh=>gh.1) (N,0) ⟨hm,o.hs,u⟩ ?_
 rintro ⟨D0,G0⟩ a w ⟨hm,o,u⟩
 obtain _ | D0:=D0
 simp [Za5] at hm
 rw [Za5] at hm
 refine th<|rg<|qv o (Aq o rfl rfl) λo=>re<|?_
 rcases bip hm with ⟨M0,hm⟩ | ⟨M0,hm⟩
 refine tn<|th<|ctv o rfl M0<|wk<|tn<|th<|wb<|th<|rg<|qm o rfl λo=>qa o rfl λo=>re<|tn<|th<|?_
 obtain ⟨C0,h8,hm⟩:=bs hm
 obtain ⟨cz9,W0,R0⟩:=SR.get Q0 h8
 obtain ⟨O0,I0,P0,J0,rfl,S0,T0,U0,V0⟩:=Av W0
 obtain ⟨Y0,X0,hm⟩:=bs hm
 refine rg<|qm o rfl λo=>?_
 iterate 2 refine qm o rfl λo=>?_
 refine qv o (An o runUnderlying24 sizeOf48 rfl rfl h8 (SR.oaI Q0 (by decide) h8)) λo=>qv o (Ay o isAgg48 sizeOf48 rfl rfl (λj v hj=>PH.le.cell (Lds.le u.ld) (R0 j v hj))) λo=>ls<|k1 (vs:=[.agg #[Ac C0.Name,SL O0 C0.Regs I0,SL P0 C0.Body J0,i6 C0.At]]) (caps:=[]) o rfl rfl call92 (Jbb (Ai _) (Enc.mono (St.up u) (show Enc.rep (α:=api_Thread) H [Ac C0.Name,SL O0 C0.Regs I0,SL P0 C0.Body J0,i6 C0.At] C0 from ⟨_,_,rfl,rfl,⟨_,_,rfl,⟨_,_,rfl,S0,T0⟩,⟨_,_,rfl,⟨_,_,rfl,U0,V0⟩,rfl⟩⟩⟩)) X0) ⟨rfl,trivial⟩ rfl (λv w a hR o=>?_)
 obtain ⟨rfl,hk⟩:=hR
 replace u:=u.pass hk
 refine re<|?_
 rcases bit hm with ⟨F0,hm⟩ | ⟨F0,hm⟩
 refine tn<|ctv o rfl F0<|th<|rg<|qm o rfl λo=>qa o rfl λo=>re<|tn<|wr<|br<|tr<|tr<|br<|tr<|?_
 obtain rfl:=si hm
 exact r1 o results130 rfl ⟨rfl,u.keep⟩
 refine tn<|cfv o rfl F0<|wk<|bn<|tn<|rg<|qv o (Ap o rfl rfl) λo=>qm o rfl λo=>re<|tn<|?_
 exact ⟨(D0,(IntKind.i64.wrap (G0+1))),⟨hm,o.hs,u⟩,Nat.lt_succ_self _⟩
 refine tn<|th<|cfv o rfl M0<|we<|tx<|tx<|bx<|tn<|?_
 exact ⟨hm,o.has trivial,u⟩
 rintro a w ⟨hm,o,u⟩
 unfold Za4 at hm
 refine th<|rg<|qa o rfl λo=>re<|tn<|wr<|?_
 obtain rfl:=si hm
 exact r1 o results130 rfl ⟨rfl,u.keep⟩
theorem Jb9 (hH:H.le w0) {D0:Option Addr} {C0:Nat} {p1:(List api_Thread)} (E0:p1.length≤C0) (F0:SR H D0 p1) {r:Bool} (hm:Z9c N p1=some r):Tot Tryz.prog 89 #[SL D0 p1 C0,.func (.func 92) #[] #[]] w0 (λv w'=>v=.bool r∧Keep Nil w0 w'):=by
 unfold Z9c at hm
 refine fn0 func89 rfl ntmps89 rfl rfl λa o=>?_
 have u:St w0 Nil [H] [] w0:=start1 hH
 refine th<|rg<|qa o rfl λo=>re<|tn<|th<|?_
 obtain ⟨G0,h7,hm⟩:=bs hm
 refine rg<|qm o rfl λo=>qm o rfl λo=>ls<|cr o call130 (JbG (Ai _) E0 (St.srH u F0) h7) u λu o=>qv o (Bi o rfl rfl) λo=>qa o rfl λo=>re<|tn<|wr<|?_
 obtain rfl:=si hm
 exact r1 o results89 rfl ⟨rfl,u.keep⟩
set_option maxHeartbeats 4000000 in
theorem Jct (hH:H.le w0) {cs2:List Value} {p1:api_Prog} (g3:Enc.rep H cs2 p1) {r:Bool} (hm:Z7e N p1=some r):Tot Tryz.prog 51 #[.agg cs2.toArray] w0 (λv w'=>v=.bool r∧Keep Nil w0 w'):=by
 unfold Z7e at hm
 refine fn0 func51 rfl ntmps51 rfl rfl λa o=>?_
 have u:St w0 Nil [H] [] w0:=start1 hH
 obtain ⟨W0,O0,X0,P0,Q0,I0,R0,J0,S0,K0,T0,M0,rfl,U0,V0,j0,n0,u0,B1,C1,E1,F1,G1,I1,J1⟩:=Ar g3
 refine th<|rg<|ls<|Bs (cs:=[SL W0 p1.Lines O0,SL X0 p1.Vols P0,SL Q0 p1.Locks I0,SL R0 p1.Threads J0,SL S0 p1.Recover K0,SL T0 p1.Claims M0].toArray) o rfl u rfl rfl λC0 w a u o=>qa o rfl λo=>?_
 iterate 2 refine re<|tn<|th<|rg<|qa o rfl λo=>?_
 refine re<|tn<|th<|rg<|qv o (Af o De rfl) λo=>qv o (Ag o isAgg24 rfl (u.ld.cellB t0 rfl)) λo=>qv o (Ak (α:=api_Thread) (xs:=p1.Threads) o runUnderlying24 rfl) λo=>qa o rfl λo=>re<|tn<|th<|?_
 rcases bip hm with ⟨E0,hm⟩ | ⟨E0,hm⟩
 refine rg<|qv o (Af o Cj rfl) λo=>qv o (Ag o isAgg22 rfl (u.ld.cellB t0 rfl)) λo=>qv o (Ak (α:=(List api_Cell)) (xs:=p1.Lines) o runUnderlying22 rfl) λo=>qv o (Be o rfl rfl) λo=>qv o (As (Ab o rfl) (congrArg Value.bool E0)) λo=>?_
 iterate 4 refine qn o λo=>?_
 refine qv o (Ad o rfl rfl) λo=>qm o rfl λo=>?_
 iterate 4 refine qn o λo=>?_
 refine qv o (Ad o rfl rfl) λo=>qm o rfl λo=>?_
 iterate 4 refine qn o λo=>?_
 refine qv o (Ad o rfl rfl) λo=>qm o rfl λo=>?_
 iterate 2 refine qn o λo=>?_
 refine qv o (Ad o rfl rfl) λo=>qm o rfl λo=>?_
 iterate 2 refine qn o λo=>?_
 refine qv o (Ad o rfl rfl) λo=>qm o rfl λo=>?_
 iterate 4 refine qn o λo=>?_
 refine qv o (Ad o rfl rfl) λo=>qm o rfl λo=>?_
 iterate 4 refine qn o λo=>?_
 refine qv o (Ad o rfl rfl) λo=>qa o rfl λo=>re<|tn<|wr<|?_
 obtain rfl:=si hm
 exact r1 o results51 rfl ⟨rfl,u.keep⟩
 obtain ⟨D0,Y0,hm⟩:=bs hm
 rcases bit hm with ⟨F0,hm⟩ | ⟨F0,hm⟩
 refine rg<|qv o (Af o Cj rfl) λo=>qv o (Ag o isAgg22 rfl (u.ld.cellB t0 rfl)) λo=>qv o (Ak (α:=(List api_Cell)) (xs:=p1.Lines) o runUnderlying22 rfl) λo=>qv o (Be o rfl rfl) λo=>qv o (As (Ab o rfl) (congrArg Value.bool E0)) λo=>qg o (Af o Cj rfl) λo=>qg o (Ag o isAgg22 rfl (u.ld.cellB t0 rfl)) λo=>qg o (Ab o rfl) λo=>ls<|gy o rfl rfl<|cr o call88 (Yy (Ai _) U0 (St.srH u V0) Y0) u λu o=>qv o (Ae o rfl rfl) λo=>qm o rfl λo=>gr (Fk:=[(1,PT C0),(4,.func (.func 92) #[] #[]),(5,i6 (p1.Threads.length:Int)),(24,.bool (D0 || (decide (4 < (p1.Vols.length:Int)))))]) 19 5 o u ?_ ?_ ?_
 intro hb o key
 iterate 4 refine qn o λo=>?_
 exact qk o (Ad o rfl rfl) key u hb
 intro hb o key
 exact qg o (Af o Ed rfl) λo=>qg o (Ag o isAgg23 rfl (u.ld.cellB t0 rfl)) λo=>qg o (Ak (α:=api_Cell) (xs:=p1.Vols) o runUnderlying23 rfl) λo=>qg o (Be o rfl rfl) λo=>qk o (Ae o rfl rfl) key u hb
 intro a w o u
 refine qm o rfl λo=>gr (Fk:=[(1,PT C0),(4,.func (.func 92) #[] #[]),(5,i6 (p1.Threads.length:Int)),(30,.bool ((D0 || (decide (4 < (p1.Vols.length:Int)))) || (decide (2 < (p1.Locks.length:Int)))))]) 25 5 o u ?_ ?_ ?_
 intro hb o key
 iterate 4 refine qn o λo=>?_
 exact qk o (Ad o rfl rfl) key u hb
 intro hb o key
 exact qg o (Af o Ec rfl) λo=>qg o (Ag o isAgg23 rfl (u.ld.cellB t0 rfl)) λo=>qg o (Ak (α:=api_Cell) (xs:=p1.Locks) o runUnderlying23 rfl) λo=>qg o (Be o rfl rfl) λo=>qk o (Ae o rfl rfl) key u hb
 intro a w o u
 refine qm o rfl λo=>gr (Fk:=[(1,PT C0),(4,.func (.func 92) #[] #[]),(5,i6 (p1.Threads.length:Int)),(34,.bool (((D0 || (decide (4 < (p1.Vols.length:Int)))) || (decide (2 < (p1.Locks.length:Int)))) || (decide ((p1.Threads.length:Int)=0))))]) 31 3 o u ?_ ?_ ?_
 intro hb o key
 iterate 2 refine qn o λo=>?_
 exact qk o (Ad o rfl rfl) key u hb
 intro hb o key
 exact qg o (Ab o rfl) λo=>qg o (Al o rfl rfl) λo=>qk o (Ae o rfl rfl) key u hb
 intro a w o u
 refine qm o rfl λo=>gr (Fk:=[(1,PT C0),(4,.func (.func 92) #[] #[]),(38,.bool ((((D0 || (decide (4 < (p1.Vols.length:Int)))) || (decide (2 < (p1.Locks.length:Int)))) || (decide ((p1.Threads.length:Int)=0))) || (decide (3 < (p1.Threads.length:Int)))))]) 35 3 o u ?_ ?_ ?_
 intro hb o key
 iterate 2 refine qn o λo=>?_
 exact qk o (Ad o rfl rfl) key u hb
 intro hb o key
 exact qg o (Ab o rfl) λo=>qg o (Be o rfl rfl) λo=>qk o (Ae o rfl rfl) key u hb
 intro a w o u
 refine qv o (As (Ab o rfl) (congrArg Value.bool F0)) λo=>?_
 iterate 4 refine qn o λo=>?_
 refine qv o (Ad o rfl rfl) λo=>qm o rfl λo=>?_
 iterate 4 refine qn o λo=>?_
 refine qv o (Ad o rfl rfl) λo=>qa o rfl λo=>re<|tn<|wr<|?_
 obtain rfl:=si hm
 exact r1 o results51 rfl ⟨rfl,u.keep⟩
 obtain ⟨V1,Q1,hm⟩:=bs hm
 obtain ⟨R1,S1,hm⟩:=bs hm
 refine rg<|qv o (Af o Cj rfl) λo=>qv o (Ag o isAgg22 rfl (u.ld.cellB t0 rfl)) λo=>qv o (Ak (α:=(List api_Cell)) (xs:=p1.Lines) o runUnderlying22 rfl) λo=>qv o (Be o rfl rfl) λo=>qv o (As (Ab o rfl) (congrArg Value.bool E0)) λo=>qg o (Af o Cj rfl) λo=>qg o (Ag o isAgg22 rfl (u.ld.cellB t0 rfl)) λo=>qg o (Ab o rfl) λo=>ls<|gy o rfl rfl<|cr o call88 (Yy (Ai _) U0 (St.srH u V0) Y0) u λu o=>qv o (Ae o rfl rfl) λo=>qm o rfl λo=>gr (Fk:=[(1,PT C0),(4,.func (.func 92) #[] #[]),(5,i6 (p1.Threads.length:Int)),(24,.bool (D0 || (decide (4 < (p1.Vols.length:Int)))))]) 19 5 o u ?_ ?_ ?_
 intro hb o key
 iterate 4 refine qn o λo=>?_
 exact qk o (Ad o rfl rfl) key u hb
 intro hb o key
 exact qg o (Af o Ed rfl) λo=>qg o (Ag o isAgg23 rfl (u.ld.cellB t0 rfl)) λo=>qg o (Ak (α:=api_Cell) (xs:=p1.Vols) o runUnderlying23 rfl) λo=>qg o (Be o rfl rfl) λo=>qk o (Ae o rfl rfl) key u hb
 intro a w o u
 refine qm o rfl λo=>gr (Fk:=[(1,PT C0),(4,.func (.func 92) #[] #[]),(5,i6 (p1.Threads.length:Int)),(30,.bool ((D0 || (decide (4 < (p1.Vols.length:Int)))) || (decide (2 < (p1.Locks.length:Int)))))]) 25 5 o u ?_ ?_ ?_
 intro hb o key
 iterate 4 refine qn o λo=>?_
 exact qk o (Ad o rfl rfl) key u hb
 intro hb o key
 exact qg o (Af o Ec rfl) λo=>qg o (Ag o isAgg23 rfl (u.ld.cellB t0 rfl)) λo=>qg o (Ak (α:=api_Cell) (xs:=p1.Locks) o runUnderlying23 rfl) λo=>qg o (Be o rfl rfl) λo=>qk o (Ae o rfl rfl) key u hb
 intro a w o u
 refine qm o rfl λo=>gr (Fk:=[(1,PT C0),(4,.func (.func 92) #[] #[]),(5,i6 (p1.Threads.length:Int)),(34,.bool (((D0 || (decide (4 < (p1.Vols.length:Int)))) || (decide (2 < (p1.Locks.length:Int)))) || (decide ((p1.Threads.length:Int)=0))))]) 31 3 o u ?_ ?_ ?_
 intro hb o key
 iterate 2 refine qn o λo=>?_
 exact qk o (Ad o rfl rfl) key u hb
 intro hb o key
 exact qg o (Ab o rfl) λo=>qg o (Al o rfl rfl) λo=>qk o (Ae o rfl rfl) key u hb
 intro a w o u
 refine qm o rfl λo=>gr (Fk:=[(1,PT C0),(4,.func (.func 92) #[] #[]),(38,.bool ((((D0 || (decide (4 < (p1.Vols.length:Int)))) || (decide (2 < (p1.Locks.length:Int)))) || (decide ((p1.Threads.length:Int)=0))) || (decide (3 < (p1.Threads.length:Int)))))]) 35 3 o u ?_ ?_ ?_
 intro hb o key
 iterate 2 refine qn o λo=>?_
 exact qk o (Ad o rfl rfl) key u hb
 intro hb o key
 exact qg o (Ab o rfl) λo=>qg o (Be o rfl rfl) λo=>qk o (Ae o rfl rfl) key u hb
 intro a w o u
 refine qv o (As (Ab o rfl) (congrArg Value.bool F0)) λo=>qg o (Ay o isAgg27 sizeOf27 rfl rfl (u.ld.cellsB t0)) λo=>ls<|gy o rfl rfl<|c1 o rfl call52 (Ri (St.le u) (show Enc.rep (α:=api_Prog) H [SL W0 p1.Lines O0,SL X0 p1.Vols P0,SL Q0 p1.Locks I0,SL R0 p1.Threads J0,SL S0 p1.Recover K0,SL T0 p1.Claims M0] p1 from ⟨_,_,rfl,⟨_,_,rfl,U0,V0⟩,⟨_,_,rfl,⟨_,_,rfl,j0,n0⟩,⟨_,_,rfl,⟨_,_,rfl,u0,B1⟩,⟨_,_,rfl,⟨_,_,rfl,C1,E1⟩,⟨_,_,rfl,⟨_,_,rfl,F1,G1⟩,⟨_,_,rfl,I1,J1⟩⟩⟩⟩⟩⟩) Q1) ⟨rfl,trivial⟩ (λv w a hR o=>?_)
 obtain ⟨H38,U1,T1,rfl,M1,O1,G0,P1,hk⟩:=hR
 obtain ⟨u,G0⟩:=And.intro (St.passH u hk G0 P1) (St.extc u G0)
 refine qg o (Ab o rfl) λo=>ls<|gy o rfl rfl<|cr o call89 (Jb9 (Ai _) M1 (St.srH u O1) S1) u λu o=>qv o (Ae o rfl rfl) λo=>qm o rfl λo=>gr (Fk:=[(50,.bool (R1 || (decide (4 < (p1.Claims.length:Int)))))]) 45 5 o u ?_ ?_ ?_
 intro hb o key
 iterate 4 refine qn o λo=>?_
 exact qk o (Ad o rfl rfl) key u hb
 intro hb o key
 exact qg o (Af o Em rfl) λo=>qg o (Ag o isAgg25 rfl (u.ld.cellB t0 rfl)) λo=>qg o (Ak (α:=api_Claim) (xs:=p1.Claims) o runUnderlying25 rfl) λo=>qg o (Be o rfl rfl) λo=>qk o (Ae o rfl rfl) key u hb
 intro a w o u
 refine qa o rfl λo=>re<|tn<|wr<|?_
 obtain rfl:=si hm
 exact r1 o results51 rfl ⟨rfl,u.keep⟩
theorem Jbk:∀ (N:Nat) {w0:World} {H:PH} (_:H.le w0) {G0:Option Addr} {E0:Nat} {p1:(List api_Stmt)} (_:p1.length≤E0) (_:SR H G0 p1) {p6:Int} {r:(Int×Bool)} (_:Z87 N p1 p6=some r),Tot Tryz.prog 53 #[SL G0 p1 E0,i6 p6] w0 (λv w'=>v=.tuple #[i6 r.1,.bool r.2]∧Keep Nil w0 w'):=by
 intro N
 induction N with
  | zero=>intros;rename_i hm;simp [Z87] at hm
  | succ N ih=>
 intro w0 H hH G0 E0 p1 S0 M0 p6 r hm
 rw [Z87] at hm
 refine fn0 func53 rfl ntmps53 rfl rfl λa o=>?_
 have u:St w0 Nil [H] [] w0:=start1 hH
 refine th<|rg<|qa o rfl λo=>qa o rfl λo=>re<|tn<|th<|th<|rg<|qa o rfl λo=>re<|tn<|Au (λa w=>Z88=some r∧Fr 53 [] a∧St w0 Nil [H] [] w) ?_ ?_
 refine wb<|lp (α:=Nat×Int) (λgh a w=>match gh with | (F0,D0)=>(Z8a (Z87 N) N Z88 p1 p6) F0 D0=some r∧Fr 53 [(0,SL G0 p1 E0),(1,i6 p6),(6,i6 D0)] a∧St w0 Nil [H] [] w) (λgh=>gh.1) (N,0) ⟨hm,o.hs,u⟩ ?_
 rintro ⟨F0,D0⟩ a w ⟨hm,o,u⟩
 obtain _ | F0:=F0
 simp [Z8a] at hm
 rw [Z8a] at hm
 refine th<|th<|rg<|qm o rfl λo=>qm o rfl λo=>qv o (Ak (α:=api_Stmt) (xs:=p1) o runUnderlying46 rfl) λo=>qv o (Aq o rfl rfl) λo=>re<|?_
 rcases bip hm with ⟨O0,hm⟩ | ⟨O0,hm⟩
 refine tn<|ctv o rfl O0<|wk<|tn<|wb<|th<|?_
 obtain ⟨C0,h9,hm⟩:=bs hm
 obtain ⟨J1,n0,V0⟩:=SR.get M0 h9
 obtain ⟨W0,Q0,X0,R0,rfl,C1,E1,F1,G1⟩:=Bn n0
 refine rg<|qm o rfl λo=>qm o rfl λo=>qv o (An o runUnderlying46 sizeOf51 rfl rfl h9 (SR.oaI M0 (by decide) h9)) λo=>qv o (Ay o isAgg51 sizeOf51 rfl rfl (λj v hj=>PH.le.cell (Lds.le u.ld) (V0 j v hj))) λo=>ls<|Aw (cs:=[i6 0,Ac [],Ac [],.slice none 0 0,.slice none 0 0,i6 0,i6 0,i6 0,i6 0].toArray) o rfl u zeroValue51 rfl λT0 w a u o=>ls<|Ba o u sizeOf51 rfl rfl rfl rfl (Am rfl) .head λw u=>re<|tn<|th<|rg<|qm o rfl λo=>qv o (Ap o rfl rfl) λo=>qv o (Af o Do rfl) λo=>qv o (Ag o isAgg3 rfl (u.ld.cellB t0 rfl)) λo=>qv o (Ap o rfl rfl) λo=>qv o (Af o Dw rfl) λo=>qv o (Ag o isAgg3 rfl (u.ld.cellB t0 rfl)) λo=>qv o (Ap o rfl rfl) λo=>qa o rfl λo=>re<|tn<|th<|rg<|qm o rfl λo=>qa o rfl λo=>re<|tn<|th<|th<|rg<|qv o (Af o Cg rfl) λo=>qv o (Ag o isAgg3 rfl (u.ld.cellB t0 rfl)) λo=>qv o (Al o rfl rfl) λo=>re<|tn<|Au (λa w=>∃ (P0:Int),(Z89 (Z87 N) ((Z8a (Z87 N) N Z88 p1 p6) F0) p1 C0 D0) P0=some r∧Fr 53 [(0,SL G0 p1 E0),(1,i6 p6),(6,i6 D0),(7,PT T0),(8,i6 (IntKind.i64.wrap ((IntKind.i64.wrap ((IntKind.i64.wrap (D0+1))+C0.Body))+C0.Else))),(9,i6 P0)] a∧St w0 Nil [H] [bk T0 [i6 C0.Kind,Ac C0.Reg,Ac C0.Name,SL W0 C0.E Q0,SL X0 C0.F R0,i6 C0.N,i6 C0.Body,i6 C0.Else,i6 C0.At] 51] w) ?_ ?_
 rcases bip hm with ⟨I0,hm⟩ | ⟨I0,hm⟩
 refine ctv o rfl I0<|rg<|qm o rfl λo=>qv o (Af o Gk rfl) λo=>qv o (Ag o isAgg3 rfl (u.ld.cellB t0 rfl)) λo=>qv o (Vm o rfl rfl) λo=>qa o rfl λo=>re<|tn<|?_
 exact ⟨(IntKind.i64.wrap (p6 * C0.N)),hm,o.hs,u⟩
 refine cfv o rfl I0<|wk<|tn<|?_
 exact ⟨p6,hm,o.hs,u⟩
 rintro a w ⟨P0,hm,o,u⟩
 unfold Z89 at hm
 refine th<|th<|rg<|qm o rfl λo=>qv o (Be o rfl rfl) λo=>re<|?_
 rcases bip hm with ⟨J0,hm⟩ | ⟨J0,hm⟩
 refine tn<|ctv o rfl J0<|th<|rg<|qv o (Af o En rfl) λo=>qv o (Ag o isAgg3 rfl (u.ld.cellB t0 rfl)) λo=>?_
 iterate 2 refine qa o rfl λo=>?_
 refine re<|tn<|wr<|tr<|br<|tr<|br<|tr<|?_
 obtain rfl:=si hm
 exact r2 o results53 rfl rfl ⟨rfl,u.keep⟩
 refine tn<|cfv o rfl J0<|wk<|tn<|th<|th<|?_
 obtain ⟨M1,U0,hm⟩:=bs hm
 obtain ⟨I1,B1,e28,e29,Y0,j0⟩:=SR.sub (sz:=9) M0 S0 rfl U0
 obtain ⟨O1,u0,hm⟩:=bs hm
 refine rg<|qm o rfl λo=>qm o rfl λo=>qv o (Ap o rfl rfl) λo=>qm o rfl λo=>qv o (Hd (xs:=p1) (vl:=(IntKind.i64.wrap (D0+1))) (vh:=(IntKind.i64.wrap ((IntKind.i64.wrap ((IntKind.i64.wrap (D0+1))+C0.Body))+C0.Else))) o runUnderlying46 sizeOf51 rfl S0 rfl rfl U0 e28 e29) λo=>qm o rfl λo=>ls<|cr o call53 (ih (Ai _) Y0 (St.srH u j0) u0) u λu o=>qm o rfl λo=>?_
 iterate 2 refine qv o (Cd o rfl rfl) λo=>?_
 iterate 2 refine qa o rfl λo=>?_
 refine re<|tn<|th<|rg<|qm o rfl λo=>re<|?_
 rcases bit hm with ⟨K0,hm⟩ | ⟨K0,hm⟩
 refine tn<|ctv o rfl K0<|th<|rg<|qm o rfl λo=>?_
 iterate 2 refine qa o rfl λo=>?_
 refine re<|tn<|wr<|tr<|br<|tr<|br<|tr<|?_
 obtain rfl:=si hm
 exact r2 o results53 rfl rfl ⟨rfl,u.keep⟩
 refine tn<|cfv o rfl K0<|wk<|tn<|rg<|qm o rfl λo=>qa o rfl λo=>re<|bn<|tn<|?_
 replace u:=u.pickL .nil
 exact ⟨(F0,(IntKind.i64.wrap ((IntKind.i64.wrap ((IntKind.i64.wrap (D0+1))+C0.Body))+C0.Else))),⟨hm,o.hs,u⟩,Nat.lt_succ_self _⟩
 refine tn<|cfv o rfl O0<|we<|tx<|tx<|bx<|tn<|?_
 exact ⟨hm,o.has trivial,u⟩
 rintro a w ⟨hm,o,u⟩
 unfold Z88 at hm
 refine th<|rg<|qa o rfl λo=>qa o rfl λo=>re<|tn<|wr<|?_
 obtain rfl:=si hm
 exact r2 o results53 rfl rfl ⟨rfl,u.keep⟩
theorem Yo (hH:H.le w0) {cs2:List Value} {p1:api_Thread} (g3:Enc.rep H cs2 p1) {mz5 cz7:Nat} {l6:List (Str×Value×Nat)} {p4:(List (Str×Int))} (hf9:H mz5=some (.map (l6.map (toE kS)).toArray cz7)) (Q0:MRel kI l6 p4) (hg10:MGood l6 cz7) {r:((List (Str×Int))×Bool)} (hm:Z7q N p1 p4=some r):Tot Tryz.prog 54 #[.agg cs2.toArray,.map (some mz5)] w0 (λv w'=>∃ (vm0:Value) (A0:HA),v=.tuple #[vm0,.bool r.2]∧OMap kS kI vm0 A0 r.1∧Fresh w0 (A0) w'):=by
 unfold Z7q at hm
 refine fn0 func54 rfl ntmps54 rfl rfl λa o=>?_
 have u:St w0 Nil [H] [] w0:=start1 hH
 obtain ⟨F0,D0,R0,J0,rfl,J1,S0,M1,O1⟩:=Av g3
 refine th<|rg<|ls<|Bs (cs:=[Ac p1.Name,SL F0 p1.Regs D0,SL R0 p1.Body J0,i6 p1.At].toArray) o rfl u rfl rfl λX0 w a u o=>?_
 iterate 2 refine qa o rfl λo=>?_
 refine re<|tn<|th<|rg<|ls<|Ux o rfl u λm20 w a u o=>?_
 replace u:=St.gmap0 (kv:=kS) u
 have P1:MRel (κ:=Str) (β:=Int) kI [] []:=MRel.nil _
 refine qa o rfl λo=>re<|tn<|th<|th<|rg<|qm o rfl λo=>ls<|Xv o rfl u underlying75 rfl ((Lds.le u.ld) _ _ hf9) λY0 w a u o=>re<|tn<|wb<|lp (α:=Array Nat) (λ(seen:Array Nat) a w=>∃ (lq:List (Str×Value×Nat)) (cq:Nat),Fr 39 [(13,PT Y0),(2,PT X0),(6,.map (some m20))] a∧St w0 Nil [H] [itr Y0 mz5 cz7 seen cz7,Cf kS m20 lq cq,bk X0 [Ac p1.Name,SL F0 p1.Regs D0,SL R0 p1.Body J0,i6 p1.At] 48] w∧MFil (kI 4) seen l6 lq) (λseen=>lft l6 seen) #[] ⟨[],0,o.hs,u,MFil.start⟩ ?_
 rintro seen a w ⟨B1,C1,o,u,hfil⟩
 refine th<|rg<|ls<|JaH o rfl u rfl ((Lds.le u.ld) _ _ hf9) hg10 t0 ?_ ?_
 intro e he hs a w hU o
 replace u:=hU _ .head
 obtain ⟨y,hy⟩:=Q0.val he
 refine qv o (Cd o rfl rfl) λo=>re<|tn<|th<|ct o rfl<|wk<|tn<|wb<|th<|rg<|qv o (As (v':=.tuple #[kS e.1,kI y]) (Wm o rfl (St.blkO u t0) ((Lds.le u.ld) _ _ hf9) hg10 he) (by rw [hy])) λo=>?_
 iterate 2 refine qv o (Cd o rfl rfl) λo=>?_
 iterate 2 refine qa o rfl λo=>?_
 refine re<|tn<|th<|rg<|qm o rfl λo=>qv o (Bt (m:=y) (n:=4) o rfl rfl) λo=>re<|tn<|?_
 rcases JbA (decide (y≠4)) with hb | hb
 refine ctv o rfl hb<|rg<|?_
 iterate 3 refine qm o rfl λo=>?_
 refine ls<|JaM (kv:=kS) (k:=e.1) (v:=e.2.1) o u Nh runUnderlying75 rfl rfl (by rw [hy];rfl) (.tail .head) λw u=>re<|bn<|tn<|?_
 exact ⟨seen.push e.2.2,⟨_,_,o.hs,u,hfil.keep Q0.dl hg10 he (by rw [hy];exact λh=>of_decide_eq_true hb (by injection h))⟩,Vg he hs⟩
 refine cfv o rfl hb<|wk<|bn<|tn<|?_
 exact ⟨seen.push e.2.2,⟨_,_,o.hs,u,hfil.skip hg10 he (by rw [hy,show y=4 from Classical.byContradiction λh=>of_decide_eq_false hb h])⟩,Vg he hs⟩
 intro hall a o
 refine qv o (Cd o rfl rfl) λo=>?_
 have j0:=MFil.done (x:=4) (λ_ _ h=>by injection h) Q0 hfil hall
 replace u:=u.drop .head
 refine re<|tn<|th<|cf o rfl<|we<|tx<|tx<|bx<|tn<|th<|th<|rg<|qv o (Af o Da rfl) λo=>qv o (Ag o isAgg36 rfl (u.ld.cellB t1 rfl)) λo=>qv o (Ak (α:=Str) (xs:=p1.Regs) o runUnderlying36 rfl) λo=>qm o rfl λo=>re<|tn<|Au (λa w=>∃ (T0:(List (Str×Int))) (K0:List (Str×Value×Nat)) (U0:Nat),Z7r T0=some r∧Fr 39 [(6,.map (some m20))] a∧St w0 Nil [H] [Cf kS m20 K0 U0] w∧MRel kI K0 T0) ?_ ?_
 replace u:=u.pk [0] rfl
 refine wb<|lp (α:=Nat×(List (Str×Int))×Int) (λ(gh:Nat×(List (Str×Int))×Int) a w=>match gh with | (E0,C0,M0)=>∃ (O0:List (Str×Value×Nat)) (V0:Nat),(Z7s N Z7r p1) E0 C0 M0=some r∧Fr 39 [(6,.map (some m20)),(25,SL F0 p1.Regs D0),(26,i6 (p1.Regs.length:Int)),(27,i6 M0)] a∧St w0 Nil [H] [Cf kS m20 O0 V0] w∧MRel kI O0 C0) (λgh=>gh.1) (N,(p4.filter λq=>decide (q.2≠4)),0) ⟨B1,C1,hm,o.hs,u,j0⟩ ?_
 rintro ⟨E0,C0,M0⟩ a w ⟨O0,V0,hm,o,u,hmB4⟩
 obtain _ | E0:=E0
 simp [Z7s] at hm
 rw [Z7s] at hm
 refine th<|rg<|qv o (Aq o rfl rfl) λo=>re<|?_
 rcases bip hm with ⟨G0,hm⟩ | ⟨G0,hm⟩
 refine tn<|th<|ctv o rfl G0<|wk<|tn<|th<|wb<|th<|?_
 obtain ⟨P0,W0,hm⟩:=bs hm
 obtain ⟨E1,F1,n0⟩:=SR.get S0 W0
 obtain rfl:E1=[Ac P0]:=F1
 refine rg<|qv o (An o Tryz.runUnderlying36 Tryz.sizeOf9 rfl rfl W0 (SR.oaI S0 (by decide) W0)) λo=>qv o (Ag o isAgg9 rfl (PH.le.cell (Lds.le u.ld) (n0 0 _ rfl))) λo=>qa o rfl λo=>re<|tn<|th<|th<|rg<|qm o rfl λo=>qm o rfl λo=>qv o (Ip (ev:=kI) (dv:=0) (m:=C0) (k:=P0) o Nh runUnderlying75 zeroValue3 (Lds.mapO u.ld t0) rfl rfl hmB4) λo=>qv o (Bt o rfl rfl) λo=>re<|?_
 rcases bip hm with ⟨I0,hm⟩ | ⟨I0,hm⟩
 refine tn<|ctv o rfl I0<|th<|rg<|qa o rfl λo=>qa o rfl λo=>re<|tn<|wr<|tr<|br<|tr<|tr<|br<|tr<|?_
 replace u:=St.ds0 u
 obtain rfl:=si hm
 exact r2 o results54 rfl rfl ⟨(.map none),(sepA []),rfl,(.inl ⟨rfl,rfl,rfl⟩),u.endFresh t0⟩
 refine tn<|cfv o rfl I0<|wk<|tn<|rg<|qm o rfl λo=>qm o rfl λo=>ls<|Wl (ev:=kI) (m:=C0) (k:=P0) (v:=5) o u Nh runUnderlying75 rfl rfl rfl t0 hmB4 λG1 I1 w u0 hU=>?_
 replace u:=hU _ .head
 refine re<|bn<|tn<|rg<|qv o (Ap o rfl rfl) λo=>qm o rfl λo=>re<|tn<|?_
 exact ⟨(E0,(Ih P0 5 C0),(IntKind.i64.wrap (M0+1))),⟨G1,I1,hm,o.hs,u,u0⟩,Nat.lt_succ_self _⟩
 refine tn<|th<|cfv o rfl G0<|we<|tx<|tx<|bx<|tn<|?_
 exact ⟨C0,O0,V0,hm,o.has ⟨rfl,trivial⟩,u,hmB4⟩
 rintro a w ⟨T0,K0,U0,hm,o,u,hmA4⟩
 unfold Z7r at hm
 refine th<|rg<|qm o rfl λo=>?_
 iterate 2 refine qa o rfl λo=>?_
 refine re<|tn<|wr<|?_
 obtain rfl:=si hm
 exact r2 o results54 rfl rfl ⟨(.map (some m20)),(Cf kS m20 K0 U0),rfl,(.inr ⟨_,_,_,rfl,rfl,hmA4⟩),u.endFresh t0⟩
theorem Jce (hH:H.le w0) {D0:Option Addr} {C0:Nat} {p1:(List api_Stmt)} (I0:p1.length≤C0) (J0:SR H D0 p1) {r:(List api_Stmt)} (hm:Z7u N p1=some r):Tot Tryz.prog 55 #[SL D0 p1 C0] w0 (λv w'=>∃ (H':PH) (b0:Nat) (F0:Option Addr) (E0:Nat),v=.func (.func 94) #[] #[PT b0]∧H' b0=some (.cells [SL F0 r E0].toArray 46 (0,0))∧r.length≤E0∧SR H' F0 r∧Ext w0 H H'∧H'.le w'∧Keep Nil w0 w'):=by
 unfold Z7u at hm
 refine fn0 func55 rfl ntmps55 rfl rfl λa o=>?_
 have u:St w0 Nil [H] [] w0:=start1 hH
 refine th<|rg<|ls<|Bs (cs:=[SL D0 p1 C0].toArray) o rfl u rfl rfl λb6 w a u o=>qa o rfl λo=>re<|tn<|th<|rg<|qv o (Pf (vs:=[PT b6]) o ⟨rfl,trivial⟩) λo=>qa o rfl λo=>re<|tn<|wr<|?_
 obtain ⟨H9,G0,K0,u⟩:=St.frzB u .head
 obtain rfl:=si hm
 exact r1 o results55 rfl ⟨H9,b6,_,_,rfl,K0,I0,(J0.mono G0.sub),G0,(St.le u),u.keep⟩
theorem Wh (hH:H.le w0) {R0:Option Addr} {J0:Nat} {p1:(List api_Node)} (_:p1.length≤J0) (Y0:SR H R0 p1) {p6:Int} {τ:Type} {y:τ→legal_use→Option (τ×Bool)} {C:τ→PH→List HA→Prop} {lyl:Nat} (hy:YC Tryz.prog lyl C (λ(H:PH) (args:List Value) (x:legal_use)=>∃ (cs0:List Value),args=[.agg cs0.toArray]∧Enc.rep H cs0 x) y) (hCm:∀ s H H' L,(∀ b o,H b=some o→H' b=some o)→C s H L→C s H' L) {s0:τ} {Lc:List HA} (hC:C s0 H Lc) (hO:(sepA [sepA Lc]).ok (hp w0)) (hD:∀ b,(sepA [sepA Lc]).fp b→H b=none) {r:(Bool×τ)} (hm:Z83 N p1 p6 y s0=some r):Tot Tryz.prog 95 #[SL R0 p1 J0,i6 p6,.func (.yield lyl) #[] #[]] w0 (λv w'=>∃ (H':PH) (Lcq:List HA),v=.bool r.1∧C (r.2) H' Lcq∧ExtM w0 (sepA [sepA Lc]).fp H H'∧H'.le w'∧(∀ b,(sepA [sepA Lcq]).fp b→H' b=none)∧Mut w0 (sepA [sepA Lc]) (sepA [sepA Lcq]) w'):=by
 unfold Z83 at hm
 refine fn0 func95 rfl ntmps95 rfl rfl λa o=>?_
 have u:=Cm hH hO hD
 refine th<|rg<|qa o rfl λo=>re<|tn<|th<|th<|rg<|qm o rfl λo=>qv o (Ak (α:=api_Node) (xs:=p1) o runUnderlying49 rfl) λo=>qm o rfl λo=>re<|tn<|Au (λa w=>∃ (T0:τ) (K0:PH) (LcA3:List HA),Z84 T0=some r∧ExtM w0 (sepA [sepA Lc]).fp H K0∧Fr 31 [] a∧St w0 (sepA [sepA Lc]).fp [K0] [sepA LcA3] w∧C T0 K0 LcA3) ?_ ?_
 refine wb<|lp (α:=Nat×Int×τ) (λgh a w=>match gh with | (F0,G0,M0)=>∃ (D0:PH) (LcB4:List HA),(Z86 N Z84 p1 p6 y) F0 G0 M0=some r∧ExtM w0 (sepA [sepA Lc]).fp H D0∧Fr 31 [(1,i6 p6),(2,.func (.yield lyl) #[] #[]),(9,SL R0 p1 J0),(10,i6 (p1.length:Int)),(11,i6 G0)] a∧St w0 (sepA [sepA Lc]).fp [D0] [sepA LcB4] w∧C M0 D0 LcB4) (λgh=>gh.1) (N,0,s0) ⟨H,Lc,hm,(ExtM.refl _ _ _),o.hs,u,hC⟩ ?_
 rintro ⟨F0,G0,M0⟩ a w ⟨D0,LcB4,hm,E0,o,u,hCB5⟩
 obtain _ | F0:=F0
 simp [Z86] at hm
 rw [Z86] at hm
 refine th<|rg<|qv o (Aq o rfl rfl) λo=>re<|?_
 rcases bip hm with ⟨U0,hm⟩ | ⟨U0,hm⟩
 refine tn<|th<|ctv o rfl U0<|wk<|tn<|th<|wb<|th<|?_
 obtain ⟨C0,h9,hm⟩:=bs hm
 obtain ⟨I1,F1,n0⟩:=SR.get Y0 h9
 obtain rfl:=Bm F1
 refine rg<|qv o (An o Tryz.runUnderlying49 Tryz.sizeOf90 rfl rfl h9 (SR.oaI Y0 (by decide) h9)) λo=>qv o (Ay o isAgg90 sizeOf90 rfl rfl (λj v hj=>PH.le.cell (λb o hx=>(Lds.le u.ld) b o (E0.sub b o hx)) (n0 j v hj))) λo=>ls<|Aw (cs:=[i6 0,i6 0,Ac [],i6 0].toArray) o rfl u zeroValue90 rfl λb13 w a u o=>ls<|Ba o u sizeOf90 rfl rfl rfl rfl (Am rfl) .head λw u=>re<|tn<|th<|Au (λa w=>∃ (V0:Bool) (S0:τ) (I0:PH) (LcC4:List HA),(Z85 (Z86 N Z84 p1 p6 y F0) G0) V0 S0=some r∧ExtM w0 (sepA [sepA Lc]).fp D0 I0∧Fr 31 [(1,i6 p6),(2,.func (.yield lyl) #[] #[]),(9,SL R0 p1 J0),(10,i6 (p1.length:Int)),(11,i6 G0),(29,.bool V0)] a∧St w0 (sepA [sepA Lc]).fp [I0] [sepA LcC4] w∧C S0 I0 LcC4) ?_ ?_
 rcases bip hm with ⟨P0,hm⟩ | ⟨P0,hm⟩
 obtain ⟨j0,G1,hm⟩:=bs hm
 refine rg<|qv o (Af o Ck rfl) λo=>qv o (Ag o isAgg3 rfl (u.ld.cellB t0 rfl)) λo=>qv o (Al o rfl rfl) λo=>qv o (As (Ab o rfl) (congrArg Value.bool P0)) λo=>qg o (Ab o rfl) λo=>qg o (Af o Fv rfl) λo=>qg o (Ag o isAgg9 rfl (u.ld.cellB t0 rfl)) λo=>qg o (Af o Fc rfl) λo=>qg o (Ag o isAgg3 rfl (u.ld.cellB t0 rfl)) λo=>qg o (Ab o rfl) λo=>ls<|gy o rfl rfl<|Bl (e:=3) (sz:=1) [i6 p6] o rfl u rfl rfl rfl (λw=>by kernel_rfl) λO0 w a u o=>?_
 have u0:Rows (α:=Int) D0 [i6 p6] ([p6]:List Int):=(.cons (c:=[i6 p6]) rfl .nil)
 refine qg o (Bu [Ac C0.Name,i6 C0.At,.slice (some ⟨O0,0,none⟩) ([p6]:List Int).length 1] [Ac C0.Name,i6 C0.At,.slice (some ⟨O0,0,none⟩) ([p6]:List Int).length 1] o ⟨rfl,rfl,rfl,trivial⟩ (λw=>by kernel_rfl)) λo=>?_
 obtain ⟨H21,W0,B1,C1,u⟩:=St.frzSM u .head u0
 refine JaC (Hj o rfl rfl)<|ly (vs:=[.agg #[Ac C0.Name,i6 C0.At,.slice (some ⟨O0,0,none⟩) ([p6]:List Int).length 1]]) o rfl rfl ⟨rfl,trivial⟩ hy u t1 (hCm _ _ _ _ W0.sub hCB5) ⟨[Ac C0.Name,i6 C0.At,.slice (some ⟨O0,0,none⟩) ([p6]:List Int).length 1],rfl,(show Enc.rep (α:=legal_use) H21 [Ac C0.Name,i6 C0.At,.slice (some ⟨O0,0,none⟩) ([p6]:List Int).length 1] (legal_use.mk C0.Name C0.At ([p6]:List Int)) from ⟨_,_,rfl,rfl,⟨_,_,rfl,rfl,⟨_,_,rfl,C1,B1⟩⟩⟩)⟩ G1 (λa w H27 Lc26 hC25 E1 hU o=>?_)
 replace u:=hU _ (.tail .head)
 refine qg o (Az o rfl) λo=>qv o (Ad o rfl rfl) λo=>re<|tn<|?_
 replace u:=u.pk [1] rfl
 exact ⟨(!j0.2),j0.1,H27,Lc26,hm,(ExtM.trans W0 E1),o.hs,u,hC25⟩
 refine rg<|qv o (Af o Ck rfl) λo=>qv o (Ag o isAgg3 rfl (u.ld.cellB t0 rfl)) λo=>qv o (Al o rfl rfl) λo=>qv o (As (Ab o rfl) (congrArg Value.bool P0)) λo=>?_
 iterate 10 refine qn o λo=>?_
 refine qv o (Ae o rfl rfl) λo=>re<|tn<|?_
 replace u:=u.pk [1] rfl
 exact ⟨false,M0,D0,LcB4,hm,(ExtM.refl _ _ _),o.hs,u,hCB5⟩
 rintro a w ⟨V0,S0,I0,LcC4,hm,hxHC1,o,u,hCC5⟩
 unfold Z85 at hm
 rcases bit hm with ⟨Q0,hm⟩ | ⟨Q0,hm⟩
 refine ctv o rfl Q0<|th<|rg<|qa o rfl λo=>re<|tn<|wr<|br<|tr<|tr<|br<|tr<|?_
 obtain rfl:=si hm
 exact r1 o results95 rfl ⟨I0,LcC4,rfl,hCC5,(ExtM.trans E0 hxHC1),(St.le u),(St.disL (u.pickL (.cons .head .nil))),(u.pickL (.cons .head .nil)).endMut⟩
 refine cfv o rfl Q0<|wk<|bn<|tn<|rg<|qv o (Ap o rfl rfl) λo=>qm o rfl λo=>re<|tn<|?_
 exact ⟨(F0,(IntKind.i64.wrap (G0+1)),S0),⟨I0,LcC4,hm,(ExtM.trans E0 hxHC1),o.hs,u,hCC5⟩,Nat.lt_succ_self _⟩
 refine tn<|th<|cfv o rfl U0<|we<|tx<|tx<|bx<|tn<|?_
 exact ⟨M0,D0,LcB4,hm,E0,o.has trivial,u,hCB5⟩
 rintro a w ⟨T0,K0,LcA3,hm,X0,o,u,hCA4⟩
 unfold Z84 at hm
 refine th<|rg<|qa o rfl λo=>re<|tn<|wr<|?_
 obtain rfl:=si hm
 exact r1 o results95 rfl ⟨K0,LcA3,rfl,hCA4,X0,(St.le u),(St.disL (u.pickL (.cons .head .nil))),(u.pickL (.cons .head .nil)).endMut⟩
set_option maxHeartbeats 4000000 in
theorem JbM (hH:H.le w0) {τ:Type} {y:τ→legal_use→Option (τ×Bool)} {C:τ→PH→List HA→Prop} {lyl:Nat} (hy:YC Tryz.prog lyl C (λ(H:PH) (args:List Value) (x:legal_use)=>∃ (cs0:List Value),args=[.agg cs0.toArray]∧Enc.rep H cs0 x) y) (hCm:∀ s H H' L,(∀ b o,H b=some o→H' b=some o)→C s H L→C s H' L) {s0:τ} {Lc:List HA} (hC:C s0 H Lc) {oa3:Option Addr} {cap4:Nat} {y2:(List api_Stmt)} (_:y2.length≤cap4) (V2:SR H oa3 y2) {b1:Nat} (R3:H b1=some (.cells [SL oa3 y2 cap4].toArray 46 (0,0))) (hO:(sepA [sepA Lc]).ok (hp w0)) (hD:∀ b,(sepA [sepA Lc]).fp b→H b=none) {r:τ} (hm:Z7v N y s0 y2=some r):Tot Tryz.prog 94 #[.func (.yield lyl) #[] #[],PT b1] w0 (λv w'=>∃ (H':PH) (Lcq:List HA),v=.tuple #[]∧C r H' Lcq∧ExtM w0 (sepA [sepA Lc]).fp H H'∧H'.le w'∧(∀ b,(sepA [sepA Lcq]).fp b→H' b=none)∧Mut w0 (sepA [sepA Lc]) (sepA [sepA Lcq]) w'):=by
 unfold Z7v at hm
 refine fn0 func94 rfl ntmps94 rfl rfl λa o=>?_
 have u:=Cm hH hO hD
 refine th<|rg<|qv o (Ag o Tryz.isAgg46 rfl (PH.le.cell (Lds.le u.ld) (Gm R3 rfl))) λo=>qv o (Ak (α:=api_Stmt) (xs:=y2) o runUnderlying46 rfl) λo=>qm o rfl λo=>re<|tn<|wb<|lp (α:=Nat×Int×τ) (λgh a w=>match gh with | (M0,E0,E2)=>∃ (V0:PH) (LcA4:List HA),(Z82 N y y2) M0 E0 E2=some r∧ExtM w0 (sepA [sepA Lc]).fp H V0∧Fr 64 [(0,.func (.yield lyl) #[] #[]),(6,SL oa3 y2 cap4),(7,i6 (y2.length:Int)),(8,i6 E0)] a∧St w0 (sepA [sepA Lc]).fp [V0] [sepA LcA4] w∧C E2 V0 LcA4) (λgh=>gh.1) (N,0,s0) ⟨H,Lc,hm,(ExtM.refl _ _ _),o.hs,u,hC⟩ ?_
 rintro ⟨M0,E0,E2⟩ a w ⟨V0,LcA4,hm,F0,o,u,hCA5⟩
 obtain _ | M0:=M0
 simp [Z82] at hm
 rw [Z82] at hm
 refine th<|rg<|qv o (Aq o rfl rfl) λo=>re<|?_
 rcases bip hm with ⟨F2,hm⟩ | ⟨F2,hm⟩
 refine tn<|th<|ctv o rfl F2<|wk<|tn<|th<|wb<|th<|?_
 obtain ⟨C0,G2,hm⟩:=bs hm
 obtain ⟨Y3,S3,B3⟩:=SR.get V2 G2
 obtain ⟨W0,R0,X0,S0,rfl,I2,J2,C3,D3⟩:=Bn S3
 refine rg<|qv o (An o Tryz.runUnderlying46 Tryz.sizeOf51 rfl rfl G2 (SR.oaI V2 (by decide) G2)) λo=>qv o (Ay o isAgg51 sizeOf51 rfl rfl (λj v hj=>PH.le.cell (λb o hx=>(Lds.le u.ld) b o (F0.sub b o hx)) (B3 j v hj))) λo=>ls<|Aw (cs:=[i6 0,Ac [],Ac [],.slice none 0 0,.slice none 0 0,i6 0,i6 0,i6 0,i6 0].toArray) o rfl u zeroValue51 rfl λQ0 w a u o=>ls<|Ba o u sizeOf51 rfl rfl rfl rfl (Am rfl) .head λw u=>re<|tn<|th<|th<|Au (λa w=>∃ (K2:Bool) (B1:τ) (D0:PH) (LcB4:List HA),(Z7w N (Z82 N y y2 M0) y C0 E0) K2 B1=some r∧ExtM w0 (sepA [sepA Lc]).fp V0 D0∧Fr 64 [(0,.func (.yield lyl) #[] #[]),(4,PT Q0),(6,SL oa3 y2 cap4),(7,i6 (y2.length:Int)),(8,i6 E0),(25,.bool K2)] a∧St w0 (sepA [sepA Lc]).fp [D0] [bk Q0 [i6 C0.Kind,Ac C0.Reg,Ac C0.Name,SL W0 C0.E R0,SL X0 C0.F S0,i6 C0.N,i6 C0.Body,i6 C0.Else,i6 C0.At] 51,sepA LcB4] w∧C B1 D0 LcB4) ?_ ?_
 rcases bip hm with ⟨I1,hm⟩ | ⟨I1,hm⟩
 obtain ⟨W2,T3,hm⟩:=bs hm
 refine rg<|qv o (Af o Cx rfl) λo=>qv o (Ag o isAgg9 rfl (u.ld.cellB t0 rfl)) λo=>qv o (Cu (m:=C0.Reg) (n:=[]) o rfl rfl) λo=>qv o (As (Ab o rfl) (congrArg Value.bool I1)) λo=>qg o (Ab o rfl) λo=>qg o (Af o Cx rfl) λo=>qg o (Ag o isAgg9 rfl (u.ld.cellB t0 rfl)) λo=>qg o (Af o En rfl) λo=>qg o (Ag o isAgg3 rfl (u.ld.cellB t0 rfl)) λo=>ls<|gy o rfl rfl<|Bl (e:=3) (sz:=1) [i6 5] o rfl u rfl rfl rfl (λw=>by kernel_rfl) λC1 w a u o=>?_
 have E3:Rows (α:=Int) V0 [i6 5] ([5]:List Int):=(.cons (c:=[i6 5]) rfl .nil)
 refine qg o (Bu [Ac C0.Reg,i6 C0.At,.slice (some ⟨C1,0,none⟩) ([5]:List Int).length 1] [Ac C0.Reg,i6 C0.At,.slice (some ⟨C1,0,none⟩) ([5]:List Int).length 1] o ⟨rfl,rfl,rfl,trivial⟩ (λw=>by kernel_rfl)) λo=>?_
 obtain ⟨H30,M2,F3,G3,u⟩:=St.frzSM u .head E3
 refine JaC (Hj o rfl rfl)<|ly (vs:=[.agg #[Ac C0.Reg,i6 C0.At,.slice (some ⟨C1,0,none⟩) ([5]:List Int).length 1]]) o rfl rfl ⟨rfl,trivial⟩ hy u t1 (hCm _ _ _ _ M2.sub hCA5) ⟨[Ac C0.Reg,i6 C0.At,.slice (some ⟨C1,0,none⟩) ([5]:List Int).length 1],rfl,(show Enc.rep (α:=legal_use) H30 [Ac C0.Reg,i6 C0.At,.slice (some ⟨C1,0,none⟩) ([5]:List Int).length 1] (legal_use.mk C0.Reg C0.At ([5]:List Int)) from ⟨_,_,rfl,rfl,⟨_,_,rfl,rfl,⟨_,_,rfl,G3,F3⟩⟩⟩)⟩ T3 (λa w H36 Lc35 hC34 I3 hU o=>?_)
 replace u:=hU _ (.tail .head)
 refine qg o (Az o rfl) λo=>qv o (Ad o rfl rfl) λo=>re<|tn<|?_
 exact ⟨(!W2.2),W2.1,H36,Lc35,hm,(ExtM.trans M2 I3),o.hs,u,hC34⟩
 refine rg<|qv o (Af o Cx rfl) λo=>qv o (Ag o isAgg9 rfl (u.ld.cellB t0 rfl)) λo=>qv o (Cu (m:=C0.Reg) (n:=[]) o rfl rfl) λo=>qv o (As (Ab o rfl) (congrArg Value.bool I1)) λo=>?_
 iterate 9 refine qn o λo=>?_
 refine qv o (Ae o rfl rfl) λo=>re<|tn<|?_
 exact ⟨false,E2,V0,LcA4,hm,(ExtM.refl _ _ _),o.hs,u,hCA5⟩
 rintro a w ⟨K2,B1,D0,LcB4,hm,K0,o,u,hCB5⟩
 unfold Z7w at hm
 rcases bit hm with ⟨J1,hm⟩ | ⟨J1,hm⟩
 refine ctv o rfl J1<|wr<|tr<|br<|tr<|tr<|br<|?_
 obtain rfl:=si hm
 exact r0 o results94 ⟨D0,LcB4,rfl,hCB5,(ExtM.trans F0 K0),(St.le u),(St.disL (u.pickL (.cons (.tail .head) .nil))),(u.pickL (.cons (.tail .head) .nil)).endMut⟩
 refine cfv o rfl J1<|wk<|tn<|th<|rg<|ls<|Bl (e:=3) (sz:=1) [i6 1,i6 2] o rfl u rfl rfl rfl (λw=>by kernel_rfl) λE1 w a u o=>?_
 have J3:Rows (α:=Int) D0 [i6 1,i6 2] ([1,2]:List Int):=(.cons (c:=[i6 1]) rfl (.cons (c:=[i6 2]) rfl .nil))
 refine qa o rfl λo=>re<|tn<|th<|th<|rg<|qv o (Af o Cg rfl) λo=>qv o (Ag o isAgg3 rfl (u.ld.cellB t1 rfl)) λo=>re<|tn<|Au (λa w=>∃ (O0:(List Int)) (j0:τ) (P0:Option Addr) (G0:Nat) (M1:List Value) (LcB13:List HA),(Z7x N (Z82 N y y2 M0) y C0 E0) O0 j0=some r∧Fr 64 [(0,.func (.yield lyl) #[] #[]),(4,PT Q0),(5,SL P0 O0 G0),(6,SL oa3 y2 cap4),(7,i6 (y2.length:Int)),(8,i6 E0)] a∧St w0 (sepA [sepA Lc]).fp [D0] [bk Q0 [i6 C0.Kind,Ac C0.Reg,Ac C0.Name,SL W0 C0.E R0,SL X0 C0.F S0,i6 C0.N,i6 C0.Body,i6 C0.Else,i6 C0.At] 51,sla 3 1 P0 O0.length G0 M1,sepA LcB13] w∧Rows D0 M1 O0∧C j0 D0 LcB13) ?_ ?_
 refine wb<|th<|th<|rg<|qv o (Al o rfl rfl) λo=>qa o rfl λo=>re<|tn<|Au (λa w=>∃ (O2:Bool) (Y0:τ) (LcC3:List HA),(Z7y (Z7x N (Z82 N y y2 M0) y C0 E0) C0) O2 Y0=some r∧Fr 64 [(0,.func (.yield lyl) #[] #[]),(4,PT Q0),(5,.slice (some ⟨E1,0,none⟩) ([1,2]:List Int).length 2),(6,SL oa3 y2 cap4),(7,i6 (y2.length:Int)),(8,i6 E0),(28,i6 C0.Kind),(29,.bool O2)] a∧St w0 (sepA [sepA Lc]).fp [D0] [bk Q0 [i6 C0.Kind,Ac C0.Reg,Ac C0.Name,SL W0 C0.E R0,SL X0 C0.F S0,i6 C0.N,i6 C0.Body,i6 C0.Else,i6 C0.At] 51,sla 3 1 (some ⟨E1,0,none⟩) ([1,2]:List Int).length 2 [i6 1,i6 2],sepA LcC3] w∧C Y0 D0 LcC3) ?_ ?_
 rcases bip hm with ⟨O1,hm⟩ | ⟨O1,hm⟩
 refine ctv o rfl O1<|wk<|tn<|?_
 replace u:=u.pk [1,0,0] rfl
 exact ⟨(decide (C0.Kind=5)),B1,LcB4,hm,o.hs,u,hCB5⟩
 refine cfv o rfl O1<|rg<|qv o (Al o rfl rfl) λo=>qa o rfl λo=>re<|tn<|?_
 replace u:=u.pk [1,0,0] rfl
 exact ⟨(decide (C0.Kind=6)),B1,LcB4,hm,o.hs,u,hCB5⟩
 rintro a w ⟨O2,Y0,LcC3,hm,o,u,hCC4⟩
 unfold Z7y at hm
 rcases bit hm with ⟨P1,hm⟩ | ⟨P1,hm⟩
 refine ctv o rfl P1<|rg<|ls<|Bl (e:=3) (sz:=1) [i6 1] o rfl u rfl rfl rfl (λw=>by kernel_rfl) λU3 w a u o=>?_
 have K3:Rows (α:=Int) D0 [i6 1] ([1]:List Int):=(.cons (c:=[i6 1]) rfl .nil)
 refine qa o rfl λo=>re<|bn<|tn<|?_
 replace u:=u.pk [1,0,1] rfl
 exact ⟨([1]:List Int),Y0,(some ⟨U3,0,none⟩),1,[i6 1],LcC3,hm,o.hs,u,K3,hCC4⟩
 refine cfv o rfl P1<|th<|th<|rg<|qv o (Al o rfl rfl) λo=>qa o rfl λo=>re<|tn<|Au (λa w=>∃ (P2:Bool) (F1:τ) (LcC7:List HA),(Z7z (Z7x N (Z82 N y y2 M0) y C0 E0)) P2 F1=some r∧Fr 64 [(0,.func (.yield lyl) #[] #[]),(4,PT Q0),(5,.slice (some ⟨E1,0,none⟩) ([1,2]:List Int).length 2),(6,SL oa3 y2 cap4),(7,i6 (y2.length:Int)),(8,i6 E0),(33,.bool P2)] a∧St w0 (sepA [sepA Lc]).fp [D0] [bk Q0 [i6 C0.Kind,Ac C0.Reg,Ac C0.Name,SL W0 C0.E R0,SL X0 C0.F S0,i6 C0.N,i6 C0.Body,i6 C0.Else,i6 C0.At] 51,sla 3 1 (some ⟨E1,0,none⟩) ([1,2]:List Int).length 2 [i6 1,i6 2],sepA LcC7] w∧C F1 D0 LcC7) ?_ ?_
 rcases bip hm with ⟨Q1,hm⟩ | ⟨Q1,hm⟩
 refine ctv o rfl Q1<|wk<|tn<|?_
 exact ⟨(decide (C0.Kind=9)),Y0,LcC3,hm,o.hs,u,hCC4⟩
 refine cfv o rfl Q1<|rg<|qv o (Al o rfl rfl) λo=>qa o rfl λo=>re<|tn<|?_
 exact ⟨(decide (C0.Kind=10)),Y0,LcC3,hm,o.hs,u,hCC4⟩
 rintro a w ⟨P2,F1,LcC7,hm,o,u,hCC8⟩
 unfold Z7z at hm
 rcases bit hm with ⟨R1,hm⟩ | ⟨R1,hm⟩
 refine ctv o rfl R1<|rg<|ls<|Bl (e:=3) (sz:=1) [i6 3] o rfl u rfl rfl rfl (λw=>by kernel_rfl) λV3 w a u o=>?_
 have L3:Rows (α:=Int) D0 [i6 3] ([3]:List Int):=(.cons (c:=[i6 3]) rfl .nil)
 refine qa o rfl λo=>re<|bn<|tn<|?_
 replace u:=u.pk [1,0,1] rfl
 exact ⟨([3]:List Int),F1,(some ⟨V3,0,none⟩),1,[i6 3],LcC7,hm,o.hs,u,L3,hCC8⟩
 refine cfv o rfl R1<|wk<|bn<|tn<|?_
 exact ⟨([1,2]:List Int),F1,(some ⟨E1,0,none⟩),2,[i6 1,i6 2],LcC7,hm,o.hs,u,J3,hCC8⟩
 rintro a w ⟨O0,j0,P0,G0,M1,LcB13,hm,o,u,U2,hCB14⟩
 unfold Z7x at hm
 refine th<|th<|Au (λa w=>∃ (S1:Bool) (T1:τ) (T0:PH) (LcB18:List HA),(Z80 N (Z82 N y y2 M0) y C0 E0) S1 T1=some r∧ExtM w0 (sepA [sepA Lc]).fp D0 T0∧Fr 64 [(0,.func (.yield lyl) #[] #[]),(4,PT Q0),(6,SL oa3 y2 cap4),(7,i6 (y2.length:Int)),(8,i6 E0),(50,.bool S1)] a∧St w0 (sepA [sepA Lc]).fp [T0] [bk Q0 [i6 C0.Kind,Ac C0.Reg,Ac C0.Name,SL W0 C0.E R0,SL X0 C0.F S0,i6 C0.N,i6 C0.Body,i6 C0.Else,i6 C0.At] 51,sepA LcB18] w∧C T1 T0 LcB18) ?_ ?_
 rcases bip hm with ⟨U1,hm⟩ | ⟨U1,hm⟩
 obtain ⟨X2,W3,hm⟩:=bs hm
 refine rg<|qv o (Af o Du rfl) λo=>qv o (Ag o isAgg9 rfl (u.ld.cellB t0 rfl)) λo=>qv o (Cu (m:=C0.Name) (n:=[]) o rfl rfl) λo=>qv o (As (Ab o rfl) (congrArg Value.bool U1)) λo=>qg o (Ab o rfl) λo=>qg o (Af o Du rfl) λo=>qg o (Ag o isAgg9 rfl (u.ld.cellB t0 rfl)) λo=>qg o (Af o En rfl) λo=>qg o (Ag o isAgg3 rfl (u.ld.cellB t0 rfl)) λo=>qg o (Ab o rfl) λo=>qg o (Bu [Ac C0.Name,i6 C0.At,SL P0 O0 G0] [Ac C0.Name,i6 C0.At,SL P0 O0 G0] o ⟨rfl,rfl,rfl,trivial⟩ (λw=>by kernel_rfl)) λo=>?_
 obtain ⟨H55,Q2,M3,O3,u⟩:=St.frzSM u (.tail .head) U2
 refine JaC (Hj o rfl rfl)<|ly (vs:=[.agg #[Ac C0.Name,i6 C0.At,SL P0 O0 G0]]) o rfl rfl ⟨rfl,trivial⟩ hy u t1 (hCm _ _ _ _ Q2.sub hCB14) ⟨[Ac C0.Name,i6 C0.At,SL P0 O0 G0],rfl,(show Enc.rep (α:=legal_use) H55 [Ac C0.Name,i6 C0.At,SL P0 O0 G0] (legal_use.mk C0.Name C0.At O0) from ⟨_,_,rfl,rfl,⟨_,_,rfl,rfl,⟨_,_,rfl,O3,M3⟩⟩⟩)⟩ W3 (λa w H61 Lc60 hC59 P3 hU o=>?_)
 replace u:=hU _ (.tail .head)
 refine qg o (Az o rfl) λo=>qv o (Ad o rfl rfl) λo=>re<|tn<|?_
 exact ⟨(!X2.2),X2.1,H61,Lc60,hm,(ExtM.trans Q2 P3),o.hs,u,hC59⟩
 refine rg<|qv o (Af o Du rfl) λo=>qv o (Ag o isAgg9 rfl (u.ld.cellB t0 rfl)) λo=>qv o (Cu (m:=C0.Name) (n:=[]) o rfl rfl) λo=>qv o (As (Ab o rfl) (congrArg Value.bool U1)) λo=>?_
 iterate 9 refine qn o λo=>?_
 refine qv o (Ae o rfl rfl) λo=>re<|tn<|?_
 replace u:=u.pk [0,1] rfl
 exact ⟨false,j0,D0,LcB13,hm,(ExtM.refl _ _ _),o.hs,u,hCB14⟩
 rintro a w ⟨S1,T1,T0,LcB18,hm,J0,o,u,hCB19⟩
 unfold Z80 at hm
 rcases bit hm with ⟨V1,hm⟩ | ⟨V1,hm⟩
 refine ctv o rfl V1<|wr<|tr<|br<|tr<|tr<|br<|?_
 obtain rfl:=si hm
 exact r0 o results94 ⟨T0,LcB18,rfl,hCB19,(ExtM.trans F0 (ExtM.trans K0 J0)),(St.le u),(St.disL (u.pickL (.cons (.tail .head) .nil))),(u.pickL (.cons (.tail .head) .nil)).endMut⟩
 refine cfv o rfl V1<|wk<|tn<|th<|Au (λa w=>∃ (X1:Bool) (n0:τ) (U0:PH) (LcB23:List HA),(Z81 (Z82 N y y2 M0) E0) X1 n0=some r∧ExtM w0 (sepA [sepA Lc]).fp T0 U0∧Fr 64 [(0,.func (.yield lyl) #[] #[]),(6,SL oa3 y2 cap4),(7,i6 (y2.length:Int)),(8,i6 E0),(62,.bool X1)] a∧St w0 (sepA [sepA Lc]).fp [U0] [sepA LcB23] w∧C n0 U0 LcB23) ?_ ?_
 obtain ⟨R2,Y2,hm⟩:=bs hm
 rcases bit hm with ⟨Y1,hm⟩ | ⟨Y1,hm⟩
 have Y1':(!R2.1)=false:=by rw [Y1];rfl
 obtain ⟨A3,X3,hm⟩:=bs hm
 refine rg<|qv o (Af o Dx rfl) λo=>qv o (Ag o isAgg49 rfl (u.ld.cellB t0 rfl)) λo=>qm o rfl λo=>?_
 replace u:=u.pk [1,0] rfl
 replace u:=St.sep [sepA LcB18] u
 refine ls<|c1 o rfl call95 (Wh (St.le u) I2 (J2.mono (cp (cp J0.sub K0.sub) F0.sub)) hy hCm hCB19 (St.sepOk u) (St.sepDis u) Y2) ⟨rfl,rfl,rfl,trivial⟩ (λv w a hR o=>?_)
 obtain ⟨H68,Lc69,rfl,hC70,I0,B2,hd67,hk⟩:=hR
 obtain ⟨u,I0⟩:=And.intro (St.mutH u hk I0 B2 hd67) (St.extcMM u I0)
 replace u:=u.unsep
 refine qv o (Az o rfl) λo=>qv o (As (Ab o rfl) (congrArg Value.bool Y1')) λo=>qg o (Af o Jo rfl) λo=>qg o (Ag o isAgg49 rfl (u.ld.cellB t1 rfl)) λo=>qg o (Ab o rfl) λo=>?_
 replace u:=u.pk [0,0] rfl
 replace u:=St.sep [sepA Lc69] u
 refine ls<|gy o rfl rfl<|c1 o rfl call95 (Wh (St.le u) C3 (D3.mono (cp (cp (cp I0.sub J0.sub) K0.sub) F0.sub)) hy hCm hC70 (St.sepOk u) (St.sepDis u) X3) ⟨rfl,rfl,rfl,trivial⟩ (λv w a hR o=>?_)
 obtain ⟨H77,Lc78,rfl,hC79,u0,Q3,hd76,hk⟩:=hR
 obtain ⟨u,u0⟩:=And.intro (St.mutH u hk u0 Q3 hd76) (St.extcMM u u0)
 replace u:=u.unsep
 refine qg o (Az o rfl) λo=>qv o (Ae o rfl rfl) λo=>re<|tn<|?_
 replace u:=u.pk [0] rfl
 exact ⟨(!A3.1),A3.2,H77,Lc78,hm,(ExtM.trans I0 u0),o.hs,u,hC79⟩
 have Y1':(!R2.1)=true:=by rw [Y1];rfl
 refine rg<|qv o (Af o Dx rfl) λo=>qv o (Ag o isAgg49 rfl (u.ld.cellB t0 rfl)) λo=>qm o rfl λo=>?_
 replace u:=u.pk [1,0] rfl
 replace u:=St.sep [sepA LcB18] u
 refine ls<|c1 o rfl call95 (Wh (St.le u) I2 (J2.mono (cp (cp J0.sub K0.sub) F0.sub)) hy hCm hCB19 (St.sepOk u) (St.sepDis u) Y2) ⟨rfl,rfl,rfl,trivial⟩ (λv w a hR o=>?_)
 obtain ⟨H68,Lc69,rfl,hC70,I0,B2,hd67,hk⟩:=hR
 obtain ⟨u,I0⟩:=And.intro (St.mutH u hk I0 B2 hd67) (St.extcMM u I0)
 replace u:=u.unsep
 refine qv o (Az o rfl) λo=>qv o (As (Ab o rfl) (congrArg Value.bool Y1')) λo=>?_
 iterate 5 refine qn o λo=>?_
 refine qv o (Ad o rfl rfl) λo=>re<|tn<|?_
 replace u:=u.pk [0] rfl
 exact ⟨true,R2.2,H68,Lc69,hm,I0,o.hs,u,hC70⟩
 rintro a w ⟨X1,n0,U0,LcB23,hm,G1,o,u,hCB24⟩
 unfold Z81 at hm
 rcases bit hm with ⟨C2,hm⟩ | ⟨C2,hm⟩
 refine ctv o rfl C2<|wr<|br<|tr<|tr<|br<|?_
 obtain rfl:=si hm
 exact r0 o results94 ⟨U0,LcB23,rfl,hCB24,(ExtM.trans F0 (ExtM.trans K0 (ExtM.trans J0 G1))),(St.le u),(St.disL (u.pickL (.cons .head .nil))),(u.pickL (.cons .head .nil)).endMut⟩
 refine cfv o rfl C2<|wk<|bn<|tn<|rg<|qv o (Ap o rfl rfl) λo=>qm o rfl λo=>re<|tn<|?_
 exact ⟨(M0,(IntKind.i64.wrap (E0+1)),n0),⟨U0,LcB23,hm,(ExtM.trans F0 (ExtM.trans K0 (ExtM.trans J0 G1))),o.hs,u,hCB24⟩,Nat.lt_succ_self _⟩
 refine tn<|th<|cfv o rfl F2<|we<|tx<|tx<|bx<|?_
 obtain rfl:=si hm
 exact r0n o results94 ⟨V0,LcA4,rfl,hCA5,F0,(St.le u),(St.disL (u.pickL (.cons .head .nil))),(u.pickL (.cons .head .nil)).endMut⟩
theorem JbU (hH:H.le w0) {G0:Option Addr} {D0:Nat} {p1:(List Int)} (_:p1.length≤D0) (J0:SR H G0 p1) {p6:Int} {r:Int} (hm:Za9 N p1 p6=some r):Tot Tryz.prog 96 #[SL G0 p1 D0,i6 p6] w0 (λv w'=>v=i6 r∧Keep Nil w0 w'):=by
 unfold Za9 at hm
 refine fn0 func96 rfl ntmps96 rfl rfl λa o=>?_
 have u:St w0 Nil [H] [] w0:=start1 hH
 refine th<|rg<|qa o rfl λo=>re<|tn<|th<|th<|rg<|qm o rfl λo=>qv o (Ak (α:=Int) (xs:=p1) o runUnderlying42 rfl) λo=>qm o rfl λo=>re<|tn<|Au (λa w=>Zaa=some r∧Fr 19 [] a∧St w0 Nil [H] [] w) ?_ ?_
 refine wb<|lp (α:=Nat×Int) (λgh a w=>match gh with | (C0,F0)=>(Zab N Zaa p1 p6) C0 F0=some r∧Fr 19 [(0,SL G0 p1 D0),(1,i6 p6),(7,i6 (p1.length:Int)),(8,i6 F0)] a∧St w0 Nil [H] [] w) (λgh=>gh.1) (N,0) ⟨hm,o.hs,u⟩ ?_
 rintro ⟨C0,F0⟩ a w ⟨hm,o,u⟩
 obtain _ | C0:=C0
 simp [Zab] at hm
 rw [Zab] at hm
 refine th<|rg<|qv o (Aq o rfl rfl) λo=>re<|?_
 rcases bip hm with ⟨I0,hm⟩ | ⟨I0,hm⟩
 refine tn<|th<|ctv o rfl I0<|wk<|tn<|th<|wb<|th<|rg<|qm o rfl λo=>qa o rfl λo=>re<|tn<|th<|?_
 obtain ⟨M0,h9,hm⟩:=bs hm
 obtain ⟨O0,P0,K0⟩:=SR.get J0 h9
 obtain rfl:O0=[i6 M0]:=P0
 refine rg<|qm o rfl λo=>?_
 iterate 2 refine qm o rfl λo=>?_
 refine qv o (An o runUnderlying42 sizeOf3 rfl rfl h9 (SR.oaI J0 (by decide) h9)) λo=>qv o (Ag o isAgg3 rfl (PH.le.cell (Lds.le u.ld) (K0 0 _ rfl))) λo=>qv o (Al o rfl rfl) λo=>re<|?_
 rcases bip hm with ⟨E0,hm⟩ | ⟨E0,hm⟩
 refine tn<|ctv o rfl E0<|th<|rg<|qm o rfl λo=>qa o rfl λo=>re<|tn<|wr<|br<|tr<|tr<|br<|tr<|?_
 obtain rfl:=si hm
 exact r1 o results96 rfl ⟨rfl,u.keep⟩
 refine tn<|cfv o rfl E0<|wk<|bn<|tn<|rg<|qv o (Ap o rfl rfl) λo=>qm o rfl λo=>re<|tn<|?_
 exact ⟨(C0,(IntKind.i64.wrap (F0+1))),⟨hm,o.hs,u⟩,Nat.lt_succ_self _⟩
 refine tn<|th<|cfv o rfl I0<|we<|tx<|tx<|bx<|tn<|?_
 exact ⟨hm,o.has trivial,u⟩
 rintro a w ⟨hm,o,u⟩
 unfold Zaa at hm
 refine th<|rg<|qa o rfl λo=>re<|tn<|wr<|?_
 obtain rfl:=si hm
 exact r1 o results96 rfl ⟨rfl,u.keep⟩
theorem Jcu (hH:H.le w0) {D0:Option Addr} {C0:Nat} {p1:(List Int)} (E0:p1.length≤C0) (F0:SR H D0 p1) {p6:Int} {r:Bool} (hm:Z9e N p1 p6=some r):Tot Tryz.prog 56 #[SL D0 p1 C0,i6 p6] w0 (λv w'=>v=.bool r∧Keep Nil w0 w'):=by
 unfold Z9e at hm
 refine fn0 func56 rfl ntmps56 rfl rfl λa o=>?_
 have u:St w0 Nil [H] [] w0:=start1 hH
 refine th<|rg<|qa o rfl λo=>re<|tn<|th<|?_
 obtain ⟨G0,h8,hm⟩:=bs hm
 refine rg<|qm o rfl λo=>qm o rfl λo=>ls<|cr o call96 (JbU (Ai _) E0 (St.srH u F0) h8) u λu o=>qv o (Bi o rfl rfl) λo=>qa o rfl λo=>re<|tn<|wr<|?_
 obtain rfl:=si hm
 exact r1 o results56 rfl ⟨rfl,u.keep⟩
set_option maxHeartbeats 4000000 in
theorem Iy (hH:H.le w0) (hT:Tab H) {cs2:List Value} {p1:api_Prog} (g3:Enc.rep H cs2 p1) {r:(Int×Int)} (hm:Z6k N p1=some r):Tot Tryz.prog 16 #[.agg cs2.toArray] w0 (λv w'=>v=.tuple #[i6 r.1,i6 r.2]∧Keep Nil w0 w'):=by
 unfold Z6k at hm
 refine fnM func16 rfl ntmps16 rfl rfl λa o=>?_
 have u:St w0 Nil [H] [] w0:=start1 hH
 replace u:=St.ds0 u
 obtain ⟨V0,M0,W0,O0,P0,F0,Q0,G0,R0,I0,J0,C0,rfl,G2,I2,G1,I1,J1,M1,O1,P1,Q1,R1,S1,Y0⟩:=Ar g3
 refine th<|rg<|ls<|Bs (cs:=[SL V0 p1.Lines M0,SL W0 p1.Vols O0,SL P0 p1.Locks F0,SL Q0 p1.Threads G0,SL R0 p1.Recover I0,SL J0 p1.Claims C0].toArray) o rfl u rfl rfl λS0 w a u o=>ls<|Aw (cs:=[i6 0].toArray) o rfl u zeroValue29 rfl λD0 w a u o=>ls<|Aw (cs:=[i6 0].toArray) o rfl u zeroValue3 rfl λE0 w a u o=>re<|tn<|th<|?_
 obtain ⟨T0,A6,hm⟩:=bs hm
 refine rg<|qv o (Ay o Tryz.isAgg27 Tryz.sizeOf27 rfl rfl (u.ld.cellsB t2)) λo=>ls<|c1 o rfl call49 (JbF (Ai _) (Enc.mono (St.up u) (show Enc.rep (α:=api_Prog) H [SL V0 p1.Lines M0,SL W0 p1.Vols O0,SL P0 p1.Locks F0,SL Q0 p1.Threads G0,SL R0 p1.Recover I0,SL J0 p1.Claims C0] p1 from ⟨_,_,rfl,⟨_,_,rfl,G2,I2⟩,⟨_,_,rfl,⟨_,_,rfl,G1,I1⟩,⟨_,_,rfl,⟨_,_,rfl,J1,M1⟩,⟨_,_,rfl,⟨_,_,rfl,O1,P1⟩,⟨_,_,rfl,⟨_,_,rfl,Q1,R1⟩,⟨_,_,rfl,S1,Y0⟩⟩⟩⟩⟩⟩)) A6) ⟨rfl,trivial⟩ (λv w a hR o=>?_)
 obtain ⟨m33,j0,n0,rfl,E3,hk⟩:=hR
 replace u:=u.fresh hk
 refine qm o rfl λo=>?_
 iterate 3 refine qv o (Cd o rfl rfl) λo=>?_
 iterate 3 refine qa o rfl λo=>?_
 refine re<|tn<|th<|wb<|th<|?_
 obtain ⟨C7,B6,hm⟩:=bs hm
 refine rg<|qv o (Ay o Tryz.isAgg27 Tryz.sizeOf27 rfl rfl (u.ld.cellsB t3)) λo=>ls<|cr o call50 (Jcw (Ai _) (Tab.mono hT (St.up u)) (Enc.mono (St.up u) (show Enc.rep (α:=api_Prog) H [SL V0 p1.Lines M0,SL W0 p1.Vols O0,SL P0 p1.Locks F0,SL Q0 p1.Threads G0,SL R0 p1.Recover I0,SL J0 p1.Claims C0] p1 from ⟨_,_,rfl,⟨_,_,rfl,G2,I2⟩,⟨_,_,rfl,⟨_,_,rfl,G1,I1⟩,⟨_,_,rfl,⟨_,_,rfl,J1,M1⟩,⟨_,_,rfl,⟨_,_,rfl,O1,P1⟩,⟨_,_,rfl,⟨_,_,rfl,Q1,R1⟩,⟨_,_,rfl,S1,Y0⟩⟩⟩⟩⟩⟩)) B6) u λu o=>qv o (Az o rfl) λo=>qa o rfl λo=>re<|?_
 rcases bit hm with ⟨F3,hm⟩ | ⟨F3,hm⟩
 refine tn<|cfv o rfl (by rw [F3];rfl)<|th<|?_
 obtain ⟨D7,C6,hm⟩:=bs hm
 refine rg<|qv o (Ay o Tryz.isAgg27 Tryz.sizeOf27 rfl rfl (u.ld.cellsB t3)) λo=>ls<|cr o call51 (Jct (Ai _) (Enc.mono (St.up u) (show Enc.rep (α:=api_Prog) H [SL V0 p1.Lines M0,SL W0 p1.Vols O0,SL P0 p1.Locks F0,SL Q0 p1.Threads G0,SL R0 p1.Recover I0,SL J0 p1.Claims C0] p1 from ⟨_,_,rfl,⟨_,_,rfl,G2,I2⟩,⟨_,_,rfl,⟨_,_,rfl,G1,I1⟩,⟨_,_,rfl,⟨_,_,rfl,J1,M1⟩,⟨_,_,rfl,⟨_,_,rfl,O1,P1⟩,⟨_,_,rfl,⟨_,_,rfl,Q1,R1⟩,⟨_,_,rfl,S1,Y0⟩⟩⟩⟩⟩⟩)) C6) u λu o=>qa o rfl λo=>re<|?_
 rcases bit hm with ⟨G3,hm⟩ | ⟨G3,hm⟩
 refine tn<|ctv o rfl G3<|th<|rg<|ls<|Ax o u Tryz.sizeOf29 rfl rfl rfl rfl (.tail (.tail .head)) .zero λw u=>ls<|Ax o u sizeOf3 rfl rfl rfl rfl (.tail .head) .zero λw u=>re<|tn<|wr<|br<|tr<|?_
 obtain rfl:=si hm
 replace u:=u.pk [4,0,0,0,0] rfl
 exact rM (.inl rfl) o u λw u=>⟨_,Jx o rfl rfl rfl isAgg29 isAgg3 (u.ld.cellB t2 rfl) (u.ld.cellB t1 rfl),⟨rfl,u.keep⟩⟩
 refine tn<|cfv o rfl G3<|wk<|bn<|tn<|th<|th<|?_
 obtain ⟨S3,D6,hm⟩:=bs hm
 refine rg<|qv o (Ay o Tryz.isAgg27 Tryz.sizeOf27 rfl rfl (u.ld.cellsB t3)) λo=>ls<|c1 o rfl call52 (Ri (St.le u) (show Enc.rep (α:=api_Prog) H [SL V0 p1.Lines M0,SL W0 p1.Vols O0,SL P0 p1.Locks F0,SL Q0 p1.Threads G0,SL R0 p1.Recover I0,SL J0 p1.Claims C0] p1 from ⟨_,_,rfl,⟨_,_,rfl,G2,I2⟩,⟨_,_,rfl,⟨_,_,rfl,G1,I1⟩,⟨_,_,rfl,⟨_,_,rfl,J1,M1⟩,⟨_,_,rfl,⟨_,_,rfl,O1,P1⟩,⟨_,_,rfl,⟨_,_,rfl,Q1,R1⟩,⟨_,_,rfl,S1,Y0⟩⟩⟩⟩⟩⟩) D6) ⟨rfl,trivial⟩ (λv w a hR o=>?_)
 obtain ⟨H48,C5,M4,rfl,U6,E4,K0,D5,hk⟩:=hR
 obtain ⟨u,K0⟩:=And.intro (St.passH u hk K0 D5) (St.extc u K0)
 refine qv o (Ak (α:=api_Thread) (xs:=S3) o runUnderlying24 rfl) λo=>qm o rfl λo=>re<|tn<|Au (λa w=>(Z6m N p1 T0)=some r∧Fr 128 [(1,PT S0),(2,PT D0),(3,PT E0),(4,.map (some m33)),(5,i6 T0.2.1),(6,.bool T0.2.2)] a∧St w0 Nil [H48] [bk S0 [SL V0 p1.Lines M0,SL W0 p1.Vols O0,SL P0 p1.Locks F0,SL Q0 p1.Threads G0,SL R0 p1.Recover I0,SL J0 p1.Claims C0] 27,bk D0 [i6 0] 29,bk E0 [i6 0] 3,Cf kS m33 j0 n0,dsA []] w) ?_ ?_
 replace u:=u.pk [3,2,1,0,0] rfl
 refine wb<|lp (α:=Nat×Int) (λgh a w=>match gh with | (V2,T3)=>(Z6s N (Z6m N p1 T0) S3) V2 T3=some r∧Fr 128 [(1,PT S0),(2,PT D0),(3,PT E0),(4,.map (some m33)),(5,i6 T0.2.1),(6,.bool T0.2.2),(38,SL C5 S3 M4),(39,i6 (S3.length:Int)),(40,i6 T3)] a∧St w0 Nil [H48] [bk S0 [SL V0 p1.Lines M0,SL W0 p1.Vols O0,SL P0 p1.Locks F0,SL Q0 p1.Threads G0,SL R0 p1.Recover I0,SL J0 p1.Claims C0] 27,bk D0 [i6 0] 29,bk E0 [i6 0] 3,Cf kS m33 j0 n0,dsA []] w) (λgh=>gh.1) (N,0) ⟨hm,o.hs,u⟩ ?_
 rintro ⟨V2,T3⟩ a w ⟨hm,o,u⟩
 obtain _ | V2:=V2
 simp [Z6s] at hm
 rw [Z6s] at hm
 refine th<|rg<|qv o (Aq o rfl rfl) λo=>re<|?_
 rcases bip hm with ⟨I3,hm⟩ | ⟨I3,hm⟩
 refine tn<|th<|ctv o rfl I3<|wk<|tn<|th<|wb<|th<|?_
 obtain ⟨E7,F4,hm⟩:=bs hm
 obtain ⟨F7,E6,E5⟩:=SR.get E4 F4
 obtain ⟨V6,M6,W6,O6,rfl,X6,Y6,F5,G5⟩:=Av E6
 refine rg<|qv o (An o Tryz.runUnderlying24 Tryz.sizeOf48 rfl rfl F4 (SR.oaI E4 (by decide) F4)) λo=>qv o (Ay o isAgg48 sizeOf48 rfl rfl (λj v hj=>PH.le.cell (Lds.le u.ld) (E5 j v hj))) λo=>ls<|Aw (cs:=[Ac [],.slice none 0 0,.slice none 0 0,i6 0].toArray) o rfl u zeroValue48 rfl λG7 w a u o=>ls<|Ba o u sizeOf48 rfl rfl rfl rfl (Am rfl) .head λw u=>re<|tn<|th<|?_
 obtain ⟨I7,F6,hm⟩:=bs hm
 refine rg<|qv o (Af o Hf rfl) λo=>qv o (Ag o isAgg46 rfl (u.ld.cellB t0 rfl)) λo=>ls<|cr o call53 (Jbk _ (Ai _) F5 (St.srH u G5) F6) u λu o=>qm o rfl λo=>?_
 iterate 2 refine qv o (Cd o rfl rfl) λo=>?_
 iterate 2 refine qa o rfl λo=>?_
 refine re<|tn<|th<|rg<|qm o rfl λo=>re<|?_
 rcases bit hm with ⟨J3,hm⟩ | ⟨J3,hm⟩
 refine tn<|ctv o rfl J3<|th<|rg<|qm o rfl λo=>ls<|Ax o u sizeOf29 rfl rfl rfl rfl (.tail (.tail .head)) .zero λw u=>ls<|Ax o u sizeOf3 rfl rfl rfl rfl (.tail (.tail (.tail .head))) .zero λw u=>re<|tn<|wr<|br<|tr<|tr<|br<|tr<|?_
 obtain rfl:=si hm
 replace u:=u.pk [5,0,0,0,0,0] rfl
 exact rM (.inl rfl) o u λw u=>⟨_,Jx o rfl rfl rfl isAgg29 isAgg3 (u.ld.cellB t2 rfl) (u.ld.cellB t3 rfl),⟨rfl,u.keep⟩⟩
 refine tn<|cfv o rfl J3<|wk<|bn<|tn<|rg<|qv o (Ap o rfl rfl) λo=>qm o rfl λo=>re<|tn<|?_
 replace u:=u.pk [1,1,1,1,1] rfl
 exact ⟨(V2,(IntKind.i64.wrap (T3+1))),⟨hm,o.hs,u⟩,Nat.lt_succ_self _⟩
 refine tn<|th<|cfv o rfl I3<|we<|tx<|tx<|bx<|tn<|?_
 exact ⟨hm,o.hs,u⟩
 rintro a w ⟨hm,o,u⟩
 unfold Z6m at hm
 refine th<|th<|rg<|qm o rfl λo=>re<|?_
 rcases bit hm with ⟨K3,hm⟩ | ⟨K3,hm⟩
 refine tn<|ctv o rfl K3<|th<|rg<|qm o rfl λo=>ls<|Ax o u sizeOf29 rfl rfl rfl rfl (.tail .head) .zero λw u=>ls<|Ax o u sizeOf3 rfl rfl rfl rfl (.tail (.tail .head)) .zero λw u=>re<|tn<|wr<|tr<|?_
 obtain rfl:=si hm
 replace u:=u.pk [4,0,0,0,0] rfl
 exact rM (.inl rfl) o u λw u=>⟨_,Jx o rfl rfl rfl isAgg29 isAgg3 (u.ld.cellB t1 rfl) (u.ld.cellB t2 rfl),⟨rfl,u.keep⟩⟩
 refine tn<|cfv o rfl K3<|wk<|tn<|th<|th<|?_
 obtain ⟨U3,G6,hm⟩:=bs hm
 refine rg<|qv o (Ay o Tryz.isAgg27 Tryz.sizeOf27 rfl rfl (u.ld.cellsB t0)) λo=>ls<|c1 o rfl call52 (Ri (St.le u) (show Enc.rep (α:=api_Prog) H48 [SL V0 p1.Lines M0,SL W0 p1.Vols O0,SL P0 p1.Locks F0,SL Q0 p1.Threads G0,SL R0 p1.Recover I0,SL J0 p1.Claims C0] p1 from ⟨_,_,rfl,⟨_,_,rfl,G2,(I2.mono K0.sub)⟩,⟨_,_,rfl,⟨_,_,rfl,G1,(I1.mono K0.sub)⟩,⟨_,_,rfl,⟨_,_,rfl,J1,(M1.mono K0.sub)⟩,⟨_,_,rfl,⟨_,_,rfl,O1,(P1.mono K0.sub)⟩,⟨_,_,rfl,⟨_,_,rfl,Q1,(R1.mono K0.sub)⟩,⟨_,_,rfl,S1,(Y0.mono K0.sub)⟩⟩⟩⟩⟩⟩) G6) ⟨rfl,trivial⟩ (λv w a hR o=>?_)
 obtain ⟨H77,I5,O4,rfl,d6,G4,X0,J5,hk⟩:=hR
 obtain ⟨u,X0⟩:=And.intro (St.passH u hk X0 J5) (St.extc u X0)
 refine qv o (Ak (α:=api_Thread) (xs:=U3) o runUnderlying24 rfl) λo=>qm o rfl λo=>re<|tn<|Au (λa w=>(Z6o N p1 T0)=some r∧Fr 128 [(1,PT S0),(2,PT D0),(3,PT E0),(4,.map (some m33))] a∧St w0 Nil [H77] [bk S0 [SL V0 p1.Lines M0,SL W0 p1.Vols O0,SL P0 p1.Locks F0,SL Q0 p1.Threads G0,SL R0 p1.Recover I0,SL J0 p1.Claims C0] 27,bk D0 [i6 0] 29,bk E0 [i6 0] 3,Cf kS m33 j0 n0,dsA []] w) ?_ ?_
 refine wb<|lp (α:=Nat×Int) (λgh a w=>match gh with | (W2,V3)=>(Z6t N (Z6o N p1 T0) T0 U3) W2 V3=some r∧Fr 128 [(1,PT S0),(2,PT D0),(3,PT E0),(4,.map (some m33)),(56,SL I5 U3 O4),(57,i6 (U3.length:Int)),(58,i6 V3)] a∧St w0 Nil [H77] [bk S0 [SL V0 p1.Lines M0,SL W0 p1.Vols O0,SL P0 p1.Locks F0,SL Q0 p1.Threads G0,SL R0 p1.Recover I0,SL J0 p1.Claims C0] 27,bk D0 [i6 0] 29,bk E0 [i6 0] 3,Cf kS m33 j0 n0,dsA []] w) (λgh=>gh.1) (N,0) ⟨hm,o.hs,u⟩ ?_
 rintro ⟨W2,V3⟩ a w ⟨hm,o,u⟩
 obtain _ | W2:=W2
 simp [Z6t] at hm
 rw [Z6t] at hm
 refine th<|rg<|qv o (Aq o rfl rfl) λo=>re<|?_
 rcases bip hm with ⟨L3,hm⟩ | ⟨L3,hm⟩
 refine tn<|th<|ctv o rfl L3<|wk<|tn<|th<|wb<|th<|?_
 obtain ⟨X2,I4,hm⟩:=bs hm
 obtain ⟨J7,I6,K5⟩:=SR.get G4 I4
 obtain ⟨L5,P4,M5,Q4,rfl,O5,P5,Q5,R5⟩:=Av I6
 refine rg<|qv o (An o Tryz.runUnderlying24 Tryz.sizeOf48 rfl rfl I4 (SR.oaI G4 (by decide) I4)) λo=>qv o (Ay o isAgg48 sizeOf48 rfl rfl (λj v hj=>PH.le.cell (Lds.le u.ld) (K5 j v hj))) λo=>ls<|Aw (cs:=[Ac [],.slice none 0 0,.slice none 0 0,i6 0].toArray) o rfl u zeroValue48 rfl λK7 w a u o=>ls<|Ba o u sizeOf48 rfl rfl rfl rfl (Am rfl) .head λw u=>re<|tn<|th<|?_
 obtain ⟨L7,J6,hm⟩:=bs hm
 refine rg<|qv o (Ay o Tryz.isAgg48 Tryz.sizeOf48 rfl rfl (u.ld.cellsB t0)) λo=>qm o rfl λo=>ls<|c1 o rfl call54 (Yo (Ai _) (Enc.mono (St.up u) (show Enc.rep (α:=api_Thread) H77 [Ac X2.Name,SL L5 X2.Regs P4,SL M5 X2.Body Q4,i6 X2.At] X2 from ⟨_,_,rfl,rfl,⟨_,_,rfl,⟨_,_,rfl,O5,P5⟩,⟨_,_,rfl,⟨_,_,rfl,Q5,R5⟩,rfl⟩⟩⟩)) (St.mapO u t4) E3 (St.mapG u t4) J6) ⟨rfl,rfl,trivial⟩ (λv w a hR o=>?_)
 obtain ⟨vm100,A99,rfl,P6,hk⟩:=hR
 replace u:=u.fresh hk
 refine qm o rfl λo=>?_
 iterate 2 refine qv o (Cd o rfl rfl) λo=>?_
 iterate 2 refine qa o rfl λo=>?_
 refine re<|tn<|th<|rg<|qm o rfl λo=>re<|?_
 rcases bit hm with ⟨J2,hm⟩ | ⟨J2,hm⟩
 refine tn<|ctv o rfl J2<|th<|rdL (Aa t0 (Aa t1 (Aa t2 (Aa t4 (Aa t5 (Aa t6 Ah)))))) 3 u wide λw u=>ds 0 (St.ldsX u i2 (Aa t0 (Aa t1 (Aa t2 (Aa t4 (Aa t5 (Aa t6 Ah))))))) o rfl (Af o Ge rfl) λo=>dq 1 (St.ldsX u i2 (Aa t0 (Aa t1 (Aa t2 (Aa t4 (Aa t5 (Aa t6 Ah))))))) o rfl (λw hl=>Ag o isAgg3 rfl (hl.cellB t1 rfl)) λo=>da1 (i:=2) (by kernel_rfl) ?_
 refine di (i:=2) rfl<|Ax o u sizeOf29 rfl rfl rfl rfl (.tail (.tail (.tail .head))) .zero λw u=>⟨λ_=>(St.ldsX u i2 (Aa t0 (Aa t1 (Aa t2 (Aa t4 (Aa t5 (Aa t6 Ah))))))),?_⟩
 refine da1 (i:=3) (by kernel_rfl) ?_
 refine di (i:=3) rfl<|Ax o u sizeOf3 rfl rfl rfl rfl (.tail (.tail (.tail (.tail .head)))) .zero λw u=>⟨λh=>absurd rfl h,?_⟩
 refine de (by kernel_rfl)<|tn<|wr<|br<|tr<|tr<|br<|tr<|?_
 obtain rfl:=si hm
 replace u:=u.pk [6,0,0,0,0,0,0] rfl
 exact rM (.inl rfl) o u λw u=>⟨_,Jx o rfl rfl rfl isAgg29 isAgg3 (u.ld.cellB t3 rfl) (u.ld.cellB t4 rfl),⟨rfl,u.keep⟩⟩
 refine tn<|cfv o rfl J2<|wk<|bn<|tn<|rg<|qv o (Ap o rfl rfl) λo=>qm o rfl λo=>re<|tn<|?_
 replace u:=u.pk [2,2,2,2,2] rfl
 exact ⟨(W2,(IntKind.i64.wrap (V3+1))),⟨hm,o.hs,u⟩,Nat.lt_succ_self _⟩
 refine tn<|th<|cfv o rfl L3<|we<|tx<|tx<|bx<|tn<|?_
 exact ⟨hm,o.hs,u⟩
 rintro a w ⟨hm,o,u⟩
 unfold Z6o at hm
 refine th<|th<|?_
 obtain ⟨U0,S5,hm⟩:=bs hm
 refine rg<|qv o (Ay o Tryz.isAgg27 Tryz.sizeOf27 rfl rfl (u.ld.cellsB t0)) λo=>ls<|c1 o rfl call52 (Ri (St.le u) (show Enc.rep (α:=api_Prog) H77 [SL V0 p1.Lines M0,SL W0 p1.Vols O0,SL P0 p1.Locks F0,SL Q0 p1.Threads G0,SL R0 p1.Recover I0,SL J0 p1.Claims C0] p1 from ⟨_,_,rfl,⟨_,_,rfl,G2,(I2.mono (cp X0.sub K0.sub))⟩,⟨_,_,rfl,⟨_,_,rfl,G1,(I1.mono (cp X0.sub K0.sub))⟩,⟨_,_,rfl,⟨_,_,rfl,J1,(M1.mono (cp X0.sub K0.sub))⟩,⟨_,_,rfl,⟨_,_,rfl,O1,(P1.mono (cp X0.sub K0.sub))⟩,⟨_,_,rfl,⟨_,_,rfl,Q1,(R1.mono (cp X0.sub K0.sub))⟩,⟨_,_,rfl,S1,(Y0.mono (cp X0.sub K0.sub))⟩⟩⟩⟩⟩⟩) S5) ⟨rfl,trivial⟩ (λv w a hR o=>?_)
 obtain ⟨H108,C1,u0,rfl,Q6,W3,E1,R4,hk⟩:=hR
 obtain ⟨u,E1⟩:=And.intro (St.passH u hk E1 R4) (St.extc u E1)
 refine qv o (Ak (α:=api_Thread) (xs:=U0) o runUnderlying24 rfl) λo=>qm o rfl λo=>re<|tn<|Au (λa w=>∃ (Y1:PH) (dsA2:List Nat),(Z6p N p1 T0)=some r∧Ext w0 H108 Y1∧Fr ⟨128,dsA2⟩ [(1,PT S0),(2,PT D0),(3,PT E0),(4,.map (some m33))] a∧St w0 Nil [Y1] [bk S0 [SL V0 p1.Lines M0,SL W0 p1.Vols O0,SL P0 p1.Locks F0,SL Q0 p1.Threads G0,SL R0 p1.Recover I0,SL J0 p1.Claims C0] 27,bk D0 [i6 0] 29,bk E0 [i6 0] 3,Cf kS m33 j0 n0,dsA dsA2] w) ?_ ?_
 refine wb<|lp (α:=Nat×Int) (λgh a w=>match gh with | (Y2,V1)=>∃ (A3:PH) (dsB5:List Nat),(Z6u N (Z6p N p1 T0) T0 U0) Y2 V1=some r∧Ext w0 H108 A3∧Fr ⟨128,dsB5⟩ [(1,PT S0),(2,PT D0),(3,PT E0),(4,.map (some m33)),(73,SL C1 U0 u0),(74,i6 (U0.length:Int)),(75,i6 V1)] a∧St w0 Nil [A3] [bk S0 [SL V0 p1.Lines M0,SL W0 p1.Vols O0,SL P0 p1.Locks F0,SL Q0 p1.Threads G0,SL R0 p1.Recover I0,SL J0 p1.Claims C0] 27,bk D0 [i6 0] 29,bk E0 [i6 0] 3,Cf kS m33 j0 n0,dsA dsB5] w) (λgh=>gh.1) (N,0) ⟨H108,[],hm,(Ext.refl _ _),o.hs,u⟩ ?_
 rintro ⟨Y2,V1⟩ a w ⟨A3,dsB5,hm,B1,o,u⟩
 obtain _ | Y2:=Y2
 simp [Z6u] at hm
 rw [Z6u] at hm
 refine th<|rg<|qv o (Aq o rfl rfl) λo=>re<|?_
 rcases bip hm with ⟨K2,hm⟩ | ⟨K2,hm⟩
 refine tn<|th<|ctv o rfl K2<|wk<|tn<|th<|wb<|th<|?_
 obtain ⟨B2,M3,hm⟩:=bs hm
 obtain ⟨k6,T5,S4⟩:=SR.get W3 M3
 obtain ⟨T4,J4,U4,K4,rfl,V4,W4,X3,Y3⟩:=Av T5
 refine rg<|qv o (An o Tryz.runUnderlying24 Tryz.sizeOf48 rfl rfl M3 (SR.oaI W3 (by decide) M3)) λo=>qv o (Ay o isAgg48 sizeOf48 rfl rfl (λj v hj=>PH.le.cell (λb o hx=>(Lds.le u.ld) b o (B1.sub b o hx)) (S4 j v hj))) λo=>ls<|Aw (cs:=[Ac [],.slice none 0 0,.slice none 0 0,i6 0].toArray) o rfl u zeroValue48 rfl λn6 w a u o=>ls<|Ba o u sizeOf48 rfl rfl rfl rfl (Am rfl) .head λw u=>re<|tn<|th<|?_
 obtain ⟨O3,U5,hm⟩:=bs hm
 refine rg<|qv o (Ay o Tryz.isAgg48 Tryz.sizeOf48 rfl rfl (u.ld.cellsB t0)) λo=>qm o rfl λo=>ls<|c1 o rfl call54 (Yo (Ai _) (Enc.mono (St.up u) (show Enc.rep (α:=api_Thread) A3 [Ac B2.Name,SL T4 B2.Regs J4,SL U4 B2.Body K4,i6 B2.At] B2 from ⟨_,_,rfl,rfl,⟨_,_,rfl,⟨_,_,rfl,V4,(W4.mono B1.sub)⟩,⟨_,_,rfl,⟨_,_,rfl,X3,(Y3.mono B1.sub)⟩,rfl⟩⟩⟩)) (St.mapO u t4) E3 (St.mapG u t4) U5) ⟨rfl,rfl,trivial⟩ (λv w a hR o=>?_)
 obtain ⟨vm131,A130,rfl,M2,hk⟩:=hR
 replace u:=u.fresh hk
 refine qm o rfl λo=>?_
 iterate 2 refine qv o (Cd o rfl rfl) λo=>?_
 refine ls<|Aw (cs:=[.map none].toArray) o rfl u zeroValue75 rfl λT1 w a u o=>ls<|Ax o u sizeOf75 rfl rfl (OMap.cells M2) (OMap.one M2) .head .zero λw u=>qa o rfl λo=>re<|tn<|th<|?_
 obtain ⟨u6,V5,hm⟩:=bs hm
 refine rg<|qv o (Af o Hf rfl) λo=>qv o (Ag o isAgg46 rfl (u.ld.cellB t2 rfl)) λo=>ls<|c1 o rfl call55 (Jce (St.le u) X3 (Y3.mono B1.sub) V5) ⟨rfl,trivial⟩ (λv w a hR o=>?_)
 obtain ⟨H139,C2,R6,K6,rfl,X4,Y4,d4,X1,k4,hk⟩:=hR
 obtain ⟨u,X1⟩:=And.intro (St.passH u hk X1 k4) (St.extc u X1)
 refine re<|tn<|wb<|?_
 replace o:Fr ⟨128,dsB5⟩ [(1,PT S0),(2,PT D0),(3,PT E0),(4,.map (some m33)),(17,PT T1),(73,SL C1 U0 u0),(74,i6 (U0.length:Int)),(75,i6 V1),(87,.func (.func 94) #[] #[PT C2])] _:=o.hs
 replace u:=u.pk [7,3,3,3,3,1,0] rfl
 obtain ⟨q146,W5,hm⟩:=bs hm
 refine rf (ŝ:=q146) (lb:=[PT C2]) (ps:=[88]) (I:=λ(_:Unit) (B3:PH) (L:List HA)=>L=[bk S0 [SL V0 p1.Lines M0,SL W0 p1.Vols O0,SL P0 p1.Locks F0,SL Q0 p1.Threads G0,SL R0 p1.Recover I0,SL J0 p1.Claims C0] 27,bk D0 [i6 0] 29,bk E0 [i6 0] 3,Cf kS m33 j0 n0,A130,bk T1 [vm131] 75]∧(∀ b o,H139 b=some o→B3 b=some o)) (J:=λ(l3:Int) (c:Code) (L4:PH) (L:List HA)=>c=.ret∧L=[bk D0 [i6 9] 29,bk E0 [i6 l3] 3]∧(∀ b o,H139 b=some o→L4 b=some o)) (λ(s:Unit) (x:legal_use)=>(Z6l N O3) x) (λ(H:PH) (args:List Value) (x:legal_use)=>∃ (cs0:List Value),args=[.agg cs0.toArray]∧Enc.rep H cs0 x) o rfl call94 rfl (by rintro H args x ⟨_,rfl,_⟩;rfl) u ⟨rfl,i2⟩ (by rintro ⟨⟩ H Hn L hs ⟨rfl,hu⟩;exact ⟨rfl,(cp hs hu)⟩) (by rintro l3 _ H Hn L hs ⟨rfl,rfl,hu⟩;exact ⟨rfl,rfl,(cp hs hu)⟩) (λlq C Lc w1 hyc hcm hc hle hok hdis=>Lm (JbM hle hyc hcm hc Y4 d4 X4 (Im hok) (Hg hdis) W5)) ?_ ?_ ?_
 intro l X Y s u3 r B3 Lu args w0 a K Qr hI hex hm o u hK hN hR
 obtain ⟨rfl,hxHC1⟩:=hI
 replace hm:(Z6l N O3) u3=some r:=hm
 unfold Z6l at hm
 obtain ⟨cs207,rfl,X5⟩:=hex
 replace o:Fr 128 [(88,.agg cs207.toArray),(1,PT S0),(2,PT D0),(3,PT E0),(4,.map (some m33)),(17,PT T1),(73,SL C1 U0 u0),(74,i6 (U0.length:Int)),(75,i6 V1),(87,.func (.func 94) #[] #[PT C2])] a:=o
 obtain ⟨S6,L6,rfl,l4,u4⟩:=Ls X5
 refine rg<|ls<|Aw (cs:=[Ac [],i6 0,.slice none 0 0].toArray) o rfl u Tryz.zeroValue87 rfl λv6 w a u o=>ls<|Ba o u sizeOf87 rfl rfl rfl rfl (Am rfl) .head λw u=>re<|?_
 replace u:=u.pk [1,0,0,0,0,0,0,0] rfl
 refine tn<|hK _ _ _ _ u λw u=>wb<|th<|?_
 obtain ⟨y6,Y5,hm⟩:=bs hm
 refine rg<|qv o (Af o Jas rfl) λo=>qv o (Ag o isAgg42 rfl (u.ld.cellB t1 rfl)) λo=>qv o (Ag o isAgg75 rfl (u.ld.cellB t7 rfl)) λo=>qv o (Af o Jaw rfl) λo=>qv o (Ag o isAgg9 rfl (u.ld.cellB t1 rfl)) λo=>qv o (Wu (ev:=kI) (dv:=0) (m:=O3.1) (k:=u3.name) o Nh runUnderlying75 zeroValue3 (u.ld.ok _ t6) rfl rfl M2) λo=>ls<|cr o call56 (Jcu (Ai _) l4 (St.srH u u4) Y5) u λu o=>qv o (Az o rfl) λo=>re<|?_
 rcases bit hm with ⟨O2,hm⟩ | ⟨O2,hm⟩
 refine tn<|cfv o rfl (by rw [O2];rfl)<|wk<|bn<|?_
 obtain rfl:=si hm
 replace u:=u.pk [0,1,1,1,1,1,1] rfl
 exact hN _ _ _ _ _ rfl (ExtM.refl _ _ _) ⟨rfl,hxHC1⟩ u
 refine tn<|ctv o rfl (by rw [O2];rfl)<|th<|rdL (Aa t0 (Aa t1 (Aa t2 (Aa t4 (Aa t5 (Aa t6 (Aa t7 Ah))))))) 3 u wide λw u=>ds 0 (St.ldsX u i2 (Aa t0 (Aa t1 (Aa t2 (Aa t4 (Aa t5 (Aa t6 (Aa t7 Ah)))))))) o rfl (Af o Jag rfl) λo=>dq 1 (St.ldsX u i2 (Aa t0 (Aa t1 (Aa t2 (Aa t4 (Aa t5 (Aa t6 (Aa t7 Ah)))))))) o rfl (λw hl=>Ag o isAgg3 rfl (hl.cellB t1 rfl)) λo=>da1 (i:=2) (by kernel_rfl) ?_
 refine di (i:=2) rfl<|Ax o u sizeOf29 rfl rfl rfl rfl (.tail (.tail (.tail .head))) .zero λw u=>⟨λ_=>(St.ldsX u i2 (Aa t0 (Aa t1 (Aa t2 (Aa t4 (Aa t5 (Aa t6 (Aa t7 Ah)))))))),?_⟩
 refine da1 (i:=3) (by kernel_rfl) ?_
 refine di (i:=3) rfl<|Ax o u sizeOf3 rfl rfl rfl rfl (.tail (.tail (.tail (.tail .head)))) .zero λw u=>⟨λh=>absurd rfl h,?_⟩
 refine de (by kernel_rfl)<|tn<|wr<|br<|?_
 obtain rfl:=si hm
 replace u:=u.pk [0,2,2] rfl
 exact hR _ _ _ _ _ _ _ rfl rfl (ExtM.refl _ _ _) ⟨rfl,rfl,hxHC1⟩ u
 rintro ⟨⟩ D217 B3 Lu a w rfl ⟨rfl,huHC1⟩ P2 o u
 replace P2:=ExtM.nil P2
 try dsimp only at hm
 replace o:Fr ⟨128,(D217 :: dsB5)⟩ [(1,PT S0),(2,PT D0),(3,PT E0),(4,.map (some m33)),(17,PT T1),(73,SL C1 U0 u0),(74,i6 (U0.length:Int)),(75,i6 V1),(87,.func (.func 94) #[] #[PT C2])] a:=o
 replace u:St w0 Nil [B3] [dsA (D217 :: dsB5),bk S0 [SL V0 p1.Lines M0,SL W0 p1.Vols O0,SL P0 p1.Locks F0,SL Q0 p1.Threads G0,SL R0 p1.Recover I0,SL J0 p1.Claims C0] 27,bk D0 [i6 0] 29,bk E0 [i6 0] 3,Cf kS m33 j0 n0,A130,bk T1 [vm131] 75] w:=u
 refine bn<|bn<|tn<|rg<|qv o (Ap o rfl rfl) λo=>qm o rfl λo=>re<|tn<|?_
 replace u:=u.pk [1,1,1,1,0] rfl
 exact ⟨(Y2,(IntKind.i64.wrap (V1+1))),⟨B3,(D217 :: dsB5),hm,(Ext.trans B1 (Ext.trans X1 P2)),o.hs,u⟩,Nat.lt_succ_self _⟩
 rintro l3 _ D219 L4 Lu a w rfl ⟨rfl,rfl,huHC2⟩ A4 o u
 replace A4:=ExtM.nil A4
 try dsimp only at hm
 replace o:Fr ⟨128,(D219 :: dsB5)⟩ [(1,PT S0),(2,PT D0),(3,PT E0),(4,.map (some m33)),(17,PT T1),(73,SL C1 U0 u0),(74,i6 (U0.length:Int)),(75,i6 V1),(87,.func (.func 94) #[] #[PT C2])] a:=o
 replace u:St w0 Nil [L4] [dsA (D219 :: dsB5),bk D0 [i6 9] 29,bk E0 [i6 l3] 3] w:=u
 refine wr<|br<|br<|tr<|tr<|br<|tr<|?_
 obtain rfl:=si hm
 exact rM (.inl rfl) o u λw u=>⟨_,Jx o rfl rfl rfl isAgg29 isAgg3 (u.ld.cellB t0 rfl) (u.ld.cellB t1 rfl),⟨rfl,u.keep⟩⟩
 refine tn<|th<|cfv o rfl K2<|we<|tx<|tx<|bx<|tn<|?_
 exact ⟨A3,dsB5,hm,B1,o.hs,u⟩
 rintro a w ⟨Y1,dsA2,hm,B4,o,u⟩
 unfold Z6p at hm
 refine th<|th<|rg<|qv o (Af o Em rfl) λo=>qv o (Ag o isAgg25 rfl (u.ld.cellB t0 rfl)) λo=>qv o (Ak (α:=api_Claim) (xs:=p1.Claims) o runUnderlying25 rfl) λo=>qm o rfl λo=>re<|tn<|Au (λa w=>Z6q=some r∧Fr ⟨128,dsA2⟩ [(2,PT D0),(3,PT E0)] a∧St w0 Nil [Y1] [bk D0 [i6 0] 29,bk E0 [i6 0] 3,dsA dsA2] w) ?_ ?_
 replace u:=u.pk [1,1,1,1] rfl
 refine wb<|lp (α:=Nat×Int) (λgh a w=>match gh with | (E2,F1)=>(Z6v N Z6q p1 T0) E2 F1=some r∧Fr ⟨128,dsA2⟩ [(2,PT D0),(3,PT E0),(4,.map (some m33)),(101,SL J0 p1.Claims C0),(102,i6 (p1.Claims.length:Int)),(103,i6 F1)] a∧St w0 Nil [Y1] [bk D0 [i6 0] 29,bk E0 [i6 0] 3,Cf kS m33 j0 n0,dsA dsA2] w) (λgh=>gh.1) (N,0) ⟨hm,o.hs,u⟩ ?_
 rintro ⟨E2,F1⟩ a w ⟨hm,o,u⟩
 obtain _ | E2:=E2
 simp [Z6v] at hm
 rw [Z6v] at hm
 refine th<|rg<|qv o (Aq o rfl rfl) λo=>re<|?_
 rcases bip hm with ⟨Q2,hm⟩ | ⟨Q2,hm⟩
 refine tn<|th<|ctv o rfl Q2<|wk<|tn<|th<|Au (λa w=>(Z6n (Z6v N Z6q p1 T0 E2) F1)=some r∧Fr ⟨128,dsA2⟩ [(2,PT D0),(3,PT E0),(4,.map (some m33)),(101,SL J0 p1.Claims C0),(102,i6 (p1.Claims.length:Int)),(103,i6 F1)] a∧St w0 Nil [Y1] [bk D0 [i6 0] 29,bk E0 [i6 0] 3,Cf kS m33 j0 n0,dsA dsA2] w) ?_ ?_
 refine wb<|th<|?_
 obtain ⟨U1,P3,hm⟩:=bs hm
 obtain ⟨z6,k5,A5⟩:=SR.get Y0 P3
 obtain ⟨C4,C3,rfl,T6,D4⟩:=Cn k5
 refine rg<|qv o (An o Tryz.runUnderlying25 Tryz.sizeOf74 rfl rfl P3 (SR.oaI Y0 (by decide) P3)) λo=>qv o (Ay o isAgg74 sizeOf74 rfl rfl (λj v hj=>PH.le.cell (λb o hx=>(Lds.le u.ld) b o ((cp (cp (cp B4.sub E1.sub) X0.sub) K0.sub) b o hx)) (A5 j v hj))) λo=>ls<|Aw (cs:=[.slice none 0 0,i6 0].toArray) o rfl u zeroValue74 rfl λA7 w a u o=>ls<|Ba o u sizeOf74 rfl rfl rfl rfl (Am rfl) .head λw u=>re<|tn<|th<|rg<|qv o (Af o Nv rfl) λo=>qv o (Ag o isAgg49 rfl (u.ld.cellB t0 rfl)) λo=>qv o (Ak (α:=api_Node) (xs:=U1.E) o runUnderlying49 rfl) λo=>qm o rfl λo=>re<|?_
 replace u:=u.pk [1,1,1,1] rfl
 refine tn<|wb<|lp (α:=Nat×Int) (λgh a w=>match gh with | (F2,D3)=>(Z6r N (Z6n (Z6v N Z6q p1 T0 E2) F1) T0 U1) F2 D3=some r∧Fr ⟨128,dsA2⟩ [(2,PT D0),(3,PT E0),(4,.map (some m33)),(101,SL J0 p1.Claims C0),(102,i6 (p1.Claims.length:Int)),(103,i6 F1),(108,SL C4 U1.E C3),(109,i6 (U1.E.length:Int)),(110,i6 D3)] a∧St w0 Nil [Y1] [bk D0 [i6 0] 29,bk E0 [i6 0] 3,Cf kS m33 j0 n0,dsA dsA2] w) (λgh=>gh.1) (N,0) ⟨hm,o.hs,u⟩ ?_
 rintro ⟨F2,D3⟩ a w ⟨hm,o,u⟩
 obtain _ | F2:=F2
 simp [Z6r] at hm
 rw [Z6r] at hm
 refine th<|rg<|qv o (Aq o rfl rfl) λo=>re<|?_
 rcases bip hm with ⟨R2,hm⟩ | ⟨R2,hm⟩
 refine tn<|th<|ctv o rfl R2<|wk<|tn<|th<|wb<|th<|?_
 obtain ⟨Q3,R3,hm⟩:=bs hm
 obtain ⟨B7,n5,B5⟩:=SR.get D4 R3
 obtain rfl:=Bm n5
 refine rg<|qv o (An o Tryz.runUnderlying49 Tryz.sizeOf90 rfl rfl R3 (SR.oaI D4 (by decide) R3)) λo=>qv o (Ay o isAgg90 sizeOf90 rfl rfl (λj v hj=>PH.le.cell (λb o hx=>(Lds.le u.ld) b o ((cp (cp (cp B4.sub E1.sub) X0.sub) K0.sub) b o hx)) (B5 j v hj))) λo=>ls<|Aw (cs:=[i6 0,i6 0,Ac [],i6 0].toArray) o rfl u zeroValue90 rfl λu5 w a u o=>ls<|Ba o u sizeOf90 rfl rfl rfl rfl (Am rfl) .head λw u=>re<|tn<|th<|rg<|qv o (Af o Ck rfl) λo=>qv o (Ag o isAgg3 rfl (u.ld.cellB t0 rfl)) λo=>qv o (Al o rfl rfl) λo=>qm o rfl λo=>gr (Fk:=[(2,PT D0),(3,PT E0),(4,.map (some m33)),(23,PT u5),(101,SL J0 p1.Claims C0),(102,i6 (p1.Claims.length:Int)),(103,i6 F1),(108,SL C4 U1.E C3),(109,i6 (U1.E.length:Int)),(110,i6 D3),(123,.bool ((decide (Q3.Op=2)) && (decide (((Bf Q3.Name T0.1).getD 0)≠1))))]) 117 6 o u ?_ ?_ ?_
 intro hb o key
 exact qg o (Ab o rfl) λo=>qg o (Af o Fv rfl) λo=>qg o (Ag o isAgg9 rfl (u.ld.cellB t0 rfl)) λo=>qg o (Ip (ev:=kI) (dv:=0) (m:=T0.1) (k:=Q3.Name) o Nh runUnderlying75 zeroValue3 (Lds.mapO u.ld t3) rfl rfl E3) λo=>qg o (Bt o rfl rfl) λo=>qk o (Ad o rfl rfl) key u hb
 intro hb o key
 iterate 5 refine qn o λo=>?_
 exact qk o (Ae o rfl rfl) key u hb
 intro a w o u
 refine re<|?_
 rcases bit hm with ⟨U2,hm⟩ | ⟨U2,hm⟩
 refine tn<|ctv o rfl U2<|th<|rdL (Aa t0 (Aa t2 (Aa t3 (Aa t4 Ah)))) 3 u wide λw u=>ds 0 (St.ldsX u i2 (Aa t0 (Aa t2 (Aa t3 (Aa t4 Ah))))) o rfl (Af o Fc rfl) λo=>dq 1 (St.ldsX u i2 (Aa t0 (Aa t2 (Aa t3 (Aa t4 Ah))))) o rfl (λw hl=>Ag o isAgg3 rfl (hl.cellB t0 rfl)) λo=>da1 (i:=2) (by kernel_rfl) ?_
 refine di (i:=2) rfl<|Ax o u sizeOf29 rfl rfl rfl rfl (.tail .head) .zero λw u=>⟨λ_=>(St.ldsX u i2 (Aa t0 (Aa t2 (Aa t3 (Aa t4 Ah))))),?_⟩
 refine da1 (i:=3) (by kernel_rfl) ?_
 refine di (i:=3) rfl<|Ax o u sizeOf3 rfl rfl rfl rfl (.tail (.tail .head)) .zero λw u=>⟨λh=>absurd rfl h,?_⟩
 refine de (by kernel_rfl)<|tn<|wr<|br<|tr<|tr<|br<|br<|tr<|tr<|br<|tr<|?_
 obtain rfl:=si hm
 replace u:=u.pk [4,0,0,0,0] rfl
 exact rM (.inl rfl) o u λw u=>⟨_,Jx o rfl rfl rfl isAgg29 isAgg3 (u.ld.cellB t1 rfl) (u.ld.cellB t2 rfl),⟨rfl,u.keep⟩⟩
 refine tn<|cfv o rfl U2<|wk<|bn<|tn<|rg<|qv o (Ap o rfl rfl) λo=>qm o rfl λo=>re<|tn<|?_
 replace u:=u.pk [1,1,1,1] rfl
 exact ⟨(F2,(IntKind.i64.wrap (D3+1))),⟨hm,o.hs,u⟩,Nat.lt_succ_self _⟩
 refine tn<|th<|cfv o rfl R2<|we<|tx<|tx<|bx<|bn<|tn<|?_
 exact ⟨hm,o.hs,u⟩
 rintro a w ⟨hm,o,u⟩
 unfold Z6n at hm
 refine rg<|qv o (Ap o rfl rfl) λo=>qm o rfl λo=>re<|tn<|?_
 exact ⟨(E2,(IntKind.i64.wrap (F1+1))),⟨hm,o.hs,u⟩,Nat.lt_succ_self _⟩
 refine tn<|th<|cfv o rfl Q2<|we<|tx<|tx<|bx<|tn<|?_
 replace u:=u.pk [0,0,1] rfl
 exact ⟨hm,o.has ⟨rfl,rfl,trivial⟩,u⟩
 rintro a w ⟨hm,o,u⟩
 unfold Z6q at hm
 refine th<|rg<|ls<|Ax o u Tryz.sizeOf29 rfl rfl rfl rfl .head .zero λw u=>ls<|Ax o u sizeOf3 rfl rfl rfl rfl (.tail .head) .zero λw u=>re<|tn<|wr<|?_
 obtain rfl:=si hm
 replace u:=u.pk [2,0,0] rfl
 exact rM (.inl rfl) o u λw u=>⟨_,Jx o rfl rfl rfl isAgg29 isAgg3 (u.ld.cellB t0 rfl) (u.ld.cellB t1 rfl),⟨rfl,u.keep⟩⟩
 refine tn<|ctv o rfl (by rw [F3];rfl)<|th<|rg<|ls<|Ax o u Tryz.sizeOf29 rfl rfl rfl rfl (.tail (.tail .head)) .zero λw u=>ls<|Ax o u sizeOf3 rfl rfl rfl rfl (.tail .head) .zero λw u=>re<|tn<|wr<|br<|tr<|?_
 obtain rfl:=si hm
 replace u:=u.pk [4,0,0,0,0] rfl
 exact rM (.inl rfl) o u λw u=>⟨_,Jx o rfl rfl rfl isAgg29 isAgg3 (u.ld.cellB t2 rfl) (u.ld.cellB t1 rfl),⟨rfl,u.keep⟩⟩
theorem Ko (hH:H.le w0) {p1:Int} {r:Bool} (hm:Z16 N p1=some r):Tot Tryz.prog 136 #[.int .u8 p1] w0 (λv w'=>v=.bool r∧Keep Nil w0 w'):=by
 unfold Z16 at hm
 refine fn0 func136 rfl ntmps136 rfl rfl λa o=>?_
 have u:St w0 Nil [H] [] w0:=start1 hH
 refine th<|rg<|qa o rfl λo=>re<|tn<|th<|rg<|qm o rfl λo=>qv o (Bi o rfl rfl) λo=>qm o rfl λo=>gr (Fk:=[(0,.int .u8 p1),(8,.bool ((decide (97≤p1)) && (decide (p1≤122))))]) 5 3 o u ?_ ?_ ?_
 intro hb o key
 exact qg o (Ab o rfl) λo=>qg o (Cs o rfl rfl) λo=>qk o (Ad o rfl rfl) key u hb
 intro hb o key
 iterate 2 refine qn o λo=>?_
 exact qk o (Ae o rfl rfl) key u hb
 intro a w o u
 refine qm o rfl λo=>gr (Fk:=[(12,.bool (((decide (97≤p1)) && (decide (p1≤122))) || (decide (p1=95))))]) 9 3 o u ?_ ?_ ?_
 intro hb o key
 iterate 2 refine qn o λo=>?_
 exact qk o (Ad o rfl rfl) key u hb
 intro hb o key
 exact qg o (Ab o rfl) λo=>qg o (Al o rfl rfl) λo=>qk o (Ae o rfl rfl) key u hb
 intro a w o u
 refine qa o rfl λo=>re<|tn<|wr<|?_
 obtain rfl:=si hm
 exact r1 o results136 rfl ⟨rfl,u.keep⟩
theorem Jc3 (hH:H.le w0) {p1:Str} {r:Bool} (hm:Zk N p1=some r):Tot Tryz.prog 151 #[Ac p1] w0 (λv w'=>v=.bool r∧Keep Nil w0 w'):=by
 unfold Zk at hm
 refine fn0 func151 rfl ntmps151 rfl rfl λa o=>?_
 have u:St w0 Nil [H] [] w0:=start1 hH
 refine th<|rg<|qa o rfl λo=>re<|tn<|th<|rg<|ls<|Bl (e:=9) (sz:=1) [Ac [108,105,110,101],Ac [118,111,108],Ac [108,111,99,107],Ac [116,104,114,101,97,100],Ac [114,101,103],Ac [108,111,97,100],Ac [115,116,111,114,101],Ac [99,97,115],Ac [102,108,117,115,104],Ac [111,112,116],Ac [115,102,101,110,99,101],Ac [109,102,101,110,99,101],Ac [116,97,107,101],Ac [103,105,118,101],Ac [105,102],Ac [101,108,115,101],Ac [108,111,111,112],Ac [98,114,101,97,107],Ac [99,104,101,99,107],Ac [114,101,99,111,118,101,114],Ac [97,108,119,97,121,115]] o rfl u rfl rfl rfl (λw=>by kernel_rfl) λb3 w a u o=>?_
 have G0:Rows (α:=Str) H [Ac [108,105,110,101],Ac [118,111,108],Ac [108,111,99,107],Ac [116,104,114,101,97,100],Ac [114,101,103],Ac [108,111,97,100],Ac [115,116,111,114,101],Ac [99,97,115],Ac [102,108,117,115,104],Ac [111,112,116],Ac [115,102,101,110,99,101],Ac [109,102,101,110,99,101],Ac [116,97,107,101],Ac [103,105,118,101],Ac [105,102],Ac [101,108,115,101],Ac [108,111,111,112],Ac [98,114,101,97,107],Ac [99,104,101,99,107],Ac [114,101,99,111,118,101,114],Ac [97,108,119,97,121,115]] ([[108,105,110,101],[118,111,108],[108,111,99,107],[116,104,114,101,97,100],[114,101,103],[108,111,97,100],[115,116,111,114,101],[99,97,115],[102,108,117,115,104],[111,112,116],[115,102,101,110,99,101],[109,102,101,110,99,101],[116,97,107,101],[103,105,118,101],[105,102],[101,108,115,101],[108,111,111,112],[98,114,101,97,107],[99,104,101,99,107],[114,101,99,111,118,101,114],[97,108,119,97,121,115]]:List Str):=(.cons (c:=[Ac [108,105,110,101]]) rfl (.cons (c:=[Ac [118,111,108]]) rfl (.cons (c:=[Ac [108,111,99,107]]) rfl (.cons (c:=[Ac [116,104,114,101,97,100]]) rfl (.cons (c:=[Ac [114,101,103]]) rfl (.cons (c:=[Ac [108,111,97,100]]) rfl (.cons (c:=[Ac [115,116,111,114,101]]) rfl (.cons (c:=[Ac [99,97,115]]) rfl (.cons (c:=[Ac [102,108,117,115,104]]) rfl (.cons (c:=[Ac [111,112,116]]) rfl (.cons (c:=[Ac [115,102,101,110,99,101]]) rfl (.cons (c:=[Ac [109,102,101,110,99,101]]) rfl (.cons (c:=[Ac [116,97,107,101]]) rfl (.cons (c:=[Ac [103,105,118,101]]) rfl (.cons (c:=[Ac [105,102]]) rfl (.cons (c:=[Ac [101,108,115,101]]) rfl (.cons (c:=[Ac [108,111,111,112]]) rfl (.cons (c:=[Ac [98,114,101,97,107]]) rfl (.cons (c:=[Ac [99,104,101,99,107]]) rfl (.cons (c:=[Ac [114,101,99,111,118,101,114]]) rfl (.cons (c:=[Ac [97,108,119,97,121,115]]) rfl .nil)))))))))))))))))))))
 refine qa o rfl λo=>re<|tn<|th<|th<|rg<|qa o rfl λo=>re<|tn<|Au (λa w=>Zl=some r∧Fr 18 [] a∧St w0 Nil [H] [] w) ?_ ?_
 refine wb<|lp (α:=Nat×Int) (λgh a w=>match gh with | (C0,E0)=>(Zm N Zl p1) C0 E0=some r∧Fr 18 [(0,Ac p1),(3,.slice (some ⟨b3,0,none⟩) ([[108,105,110,101],[118,111,108],[108,111,99,107],[116,104,114,101,97,100],[114,101,103],[108,111,97,100],[115,116,111,114,101],[99,97,115],[102,108,117,115,104],[111,112,116],[115,102,101,110,99,101],[109,102,101,110,99,101],[116,97,107,101],[103,105,118,101],[105,102],[101,108,115,101],[108,111,111,112],[98,114,101,97,107],[99,104,101,99,107],[114,101,99,111,118,101,114],[97,108,119,97,121,115]]:List Str).length 21),(4,i6 E0)] a∧St w0 Nil [H] [sla 9 1 (some ⟨b3,0,none⟩) ([[108,105,110,101],[118,111,108],[108,111,99,107],[116,104,114,101,97,100],[114,101,103],[108,111,97,100],[115,116,111,114,101],[99,97,115],[102,108,117,115,104],[111,112,116],[115,102,101,110,99,101],[109,102,101,110,99,101],[116,97,107,101],[103,105,118,101],[105,102],[101,108,115,101],[108,111,111,112],[98,114,101,97,107],[99,104,101,99,107],[114,101,99,111,118,101,114],[97,108,119,97,121,115]]:List Str).length 21 [Ac [108,105,110,101],Ac [118,111,108],Ac [108,111,99,107],Ac [116,104,114,101,97,100],Ac [114,101,103],Ac [108,111,97,100],Ac [115,116,111,114,101],Ac [99,97,115],Ac [102,108,117,115,104],Ac [111,112,116],Ac [115,102,101,110,99,101],Ac [109,102,101,110,99,101],Ac [116,97,107,101],Ac [103,105,118,101],Ac [105,102],Ac [101,108,115,101],Ac [108,111,111,112],Ac [98,114,101,97,107],Ac [99,104,101,99,107],Ac [114,101,99,111,118,101,114],Ac [97,108,119,97,121,115]]] w) (λgh=>gh.1) (N,0) ⟨hm,o.hs,u⟩ ?_
 rintro ⟨C0,E0⟩ a w ⟨hm,o,u⟩
 obtain _ | C0:=C0
 simp [Zm] at hm
 rw [Zm] at hm
 refine th<|th<|rg<|qm o rfl λo=>qm o rfl λo=>qv o (Ak (α:=Str) (xs:=([[108,105,110,101],[118,111,108],[108,111,99,107],[116,104,114,101,97,100],[114,101,103],[108,111,97,100],[115,116,111,114,101],[99,97,115],[102,108,117,115,104],[111,112,116],[115,102,101,110,99,101],[109,102,101,110,99,101],[116,97,107,101],[103,105,118,101],[105,102],[101,108,115,101],[108,111,111,112],[98,114,101,97,107],[99,104,101,99,107],[114,101,99,111,118,101,114],[97,108,119,97,121,115]]:List Str)) o runUnderlying36 rfl) λo=>qv o (Aq o rfl rfl) λo=>re<|?_
 rcases bip hm with ⟨F0,hm⟩ | ⟨F0,hm⟩
 refine tn<|ctv o rfl F0<|wk<|tn<|th<|wb<|th<|?_
 obtain ⟨I0,h7,hm⟩:=bs hm
 have K0:=Rd.oaI (u.rdO t0) G0 (by decide) h7
 obtain ⟨cz9,M0,J0⟩:=Rows.getI G0 h7
 obtain rfl:cz9=[Ac I0]:=M0
 refine rg<|qm o rfl λo=>qm o rfl λo=>qv o (An o runUnderlying36 sizeOf9 rfl rfl h7 K0) λo=>qv o (Ag o isAgg9 rfl (u.ld.elO t0 (J0 0 _ rfl))) λo=>qm o rfl λo=>qv o (Dz (m:=I0) (n:=p1) o rfl rfl) λo=>re<|?_
 rcases bip hm with ⟨D0,hm⟩ | ⟨D0,hm⟩
 refine tn<|ctv o rfl D0<|th<|rg<|qa o rfl λo=>re<|tn<|wr<|br<|tr<|tr<|br<|tr<|?_
 obtain rfl:=si hm
 exact r1 o results151 rfl ⟨rfl,u.keep⟩
 refine tn<|cfv o rfl D0<|wk<|bn<|tn<|rg<|qm o rfl λo=>qv o (Ap o rfl rfl) λo=>qa o rfl λo=>re<|tn<|?_
 exact ⟨(C0,(IntKind.i64.wrap (E0+1))),⟨hm,o.hs,u⟩,Nat.lt_succ_self _⟩
 refine tn<|cfv o rfl F0<|we<|tx<|tx<|bx<|tn<|?_
 replace u:=u.pickL .nil
 exact ⟨hm,o.has trivial,u⟩
 rintro a w ⟨hm,o,u⟩
 unfold Zl at hm
 refine th<|rg<|qa o rfl λo=>re<|tn<|wr<|?_
 obtain rfl:=si hm
 exact r1 o results151 rfl ⟨rfl,u.keep⟩
theorem Rv (hH:H.le w0) {p1:Int} {r:Bool} (hm:Z15 N p1=some r):Tot Tryz.prog 137 #[.int .u8 p1] w0 (λv w'=>v=.bool r∧Keep Nil w0 w'):=by
 unfold Z15 at hm
 refine fn0 func137 rfl ntmps137 rfl rfl λa o=>?_
 have u:St w0 Nil [H] [] w0:=start1 hH
 refine th<|rg<|qa o rfl λo=>re<|tn<|th<|rg<|qm o rfl λo=>qv o (Bi o rfl rfl) λo=>qm o rfl λo=>gr (Fk:=[(8,.bool ((decide (48≤p1)) && (decide (p1≤57))))]) 5 3 o u ?_ ?_ ?_
 intro hb o key
 exact qg o (Ab o rfl) λo=>qg o (Cs o rfl rfl) λo=>qk o (Ad o rfl rfl) key u hb
 intro hb o key
 iterate 2 refine qn o λo=>?_
 exact qk o (Ae o rfl rfl) key u hb
 intro a w o u
 refine qa o rfl λo=>re<|tn<|wr<|?_
 obtain rfl:=si hm
 exact r1 o results137 rfl ⟨rfl,u.keep⟩
theorem Jq (hH:H.le w0) {p1:Str} {r:Bool} (hm:Zn N p1=some r):Tot Tryz.prog 114 #[Ac p1] w0 (λv w'=>v=.bool r∧Keep Nil w0 w'):=by
 unfold Zn at hm
 refine fn0 func114 rfl ntmps114 rfl rfl λa o=>?_
 have u:St w0 Nil [H] [] w0:=start1 hH
 refine th<|rg<|qa o rfl λo=>re<|tn<|th<|th<|Au (λa w=>∃ (K0:Bool),(Zo N p1) K0=some r∧Fr 40 [(0,Ac p1),(21,.bool K0)] a∧St w0 Nil [H] [] w) ?_ ?_
 rcases bit hm with ⟨J0,hm⟩ | ⟨J0,hm⟩
 refine rg<|qm o rfl λo=>qv o (Bp (s:=p1) o runUnderlying9 rfl) λo=>qv o (Aq o rfl rfl) λo=>qm o rfl λo=>gr (Fk:=[(0,Ac p1),(11,.bool ((decide ((p1.length:Int) < 1)) || (decide (16 < (p1.length:Int)))))]) 7 4 o u ?_ ?_ ?_
 intro hb o key
 iterate 3 refine qn o λo=>?_
 exact qk o (Ad o rfl rfl) key u hb
 intro hb o key
 exact qg o (Ab o rfl) λo=>qg o (Bp (s:=p1) o runUnderlying9 rfl) λo=>qg o (Be o rfl rfl) λo=>qk o (Ae o rfl rfl) key u hb
 intro a w o u
 refine qv o (As (Ab o rfl) (congrArg Value.bool J0)) λo=>?_
 iterate 4 refine qn o λo=>?_
 refine qv o (Ad o rfl rfl) λo=>qm o rfl λo=>?_
 iterate 2 refine qn o λo=>?_
 refine qv o (Ad o rfl rfl) λo=>re<|tn<|?_
 exact ⟨true,hm,o.has ⟨rfl,rfl,trivial⟩,u⟩
 obtain ⟨X0,h4,hm⟩:=bs hm
 obtain ⟨P0,h6,hm⟩:=bs hm
 rcases bit hm with ⟨M0,hm⟩ | ⟨M0,hm⟩
 have M0':(!P0)=false:=by rw [M0];rfl
 obtain ⟨T0,h9,hm⟩:=bs hm
 refine rg<|qm o rfl λo=>qv o (Bp (s:=p1) o runUnderlying9 rfl) λo=>qv o (Aq o rfl rfl) λo=>qm o rfl λo=>gr (Fk:=[(0,Ac p1),(11,.bool ((decide ((p1.length:Int) < 1)) || (decide (16 < (p1.length:Int)))))]) 7 4 o u ?_ ?_ ?_
 intro hb o key
 iterate 3 refine qn o λo=>?_
 exact qk o (Ad o rfl rfl) key u hb
 intro hb o key
 exact qg o (Ab o rfl) λo=>qg o (Bp (s:=p1) o runUnderlying9 rfl) λo=>qg o (Be o rfl rfl) λo=>qk o (Ae o rfl rfl) key u hb
 intro a w o u
 refine qv o (As (Ab o rfl) (congrArg Value.bool J0)) λo=>qg o (Ab o rfl) λo=>qg o (Co (s:=p1) o runUnderlying9 rfl rfl h4) λo=>ls<|gy o rfl rfl<|cr o call136 (Ko (Ai _) h6) u λu o=>qg o (Az o rfl) λo=>qv o (Ae o rfl rfl) λo=>qv o (As (Ab o rfl) (congrArg Value.bool M0')) λo=>qg o (Ab o rfl) λo=>ls<|gy o rfl rfl<|cr o call151 (Jc3 (Ai _) h9) u λu o=>qv o (Ae o rfl rfl) λo=>re<|tn<|?_
 exact ⟨T0,hm,o.has ⟨rfl,rfl,trivial⟩,u⟩
 have M0':(!P0)=true:=by rw [M0];rfl
 refine rg<|qm o rfl λo=>qv o (Bp (s:=p1) o runUnderlying9 rfl) λo=>qv o (Aq o rfl rfl) λo=>qm o rfl λo=>gr (Fk:=[(0,Ac p1),(11,.bool ((decide ((p1.length:Int) < 1)) || (decide (16 < (p1.length:Int)))))]) 7 4 o u ?_ ?_ ?_
 intro hb o key
 iterate 3 refine qn o λo=>?_
 exact qk o (Ad o rfl rfl) key u hb
 intro hb o key
 exact qg o (Ab o rfl) λo=>qg o (Bp (s:=p1) o runUnderlying9 rfl) λo=>qg o (Be o rfl rfl) λo=>qk o (Ae o rfl rfl) key u hb
 intro a w o u
 refine qv o (As (Ab o rfl) (congrArg Value.bool J0)) λo=>qg o (Ab o rfl) λo=>qg o (Co (s:=p1) o runUnderlying9 rfl rfl h4) λo=>ls<|gy o rfl rfl<|cr o call136 (Ko (Ai _) h6) u λu o=>qg o (Az o rfl) λo=>qv o (Ae o rfl rfl) λo=>qv o (As (Ab o rfl) (congrArg Value.bool M0')) λo=>?_
 iterate 2 refine qn o λo=>?_
 refine qv o (Ad o rfl rfl) λo=>re<|tn<|?_
 exact ⟨true,hm,o.has ⟨rfl,rfl,trivial⟩,u⟩
 rintro a w ⟨K0,hm,o,u⟩
 unfold Zo at hm
 rcases bit hm with ⟨E0,hm⟩ | ⟨E0,hm⟩
 refine ctv o rfl E0<|th<|rg<|qa o rfl λo=>re<|tn<|wr<|tr<|?_
 obtain rfl:=si hm
 exact r1 o results114 rfl ⟨rfl,u.keep⟩
 refine cfv o rfl E0<|wk<|tn<|th<|th<|rg<|qa o rfl λo=>re<|tn<|Au (λa w=>Zp=some r∧Fr 40 [] a∧St w0 Nil [H] [] w) ?_ ?_
 refine wb<|lp (α:=Nat×Int) (λgh a w=>match gh with | (C0,D0)=>(Zr N Zp p1) C0 D0=some r∧Fr 40 [(0,Ac p1),(3,i6 D0)] a∧St w0 Nil [H] [] w) (λgh=>gh.1) (N,0) ⟨hm,o.has ⟨rfl,rfl,trivial⟩,u⟩ ?_
 rintro ⟨C0,D0⟩ a w ⟨hm,o,u⟩
 obtain _ | C0:=C0
 simp [Zr] at hm
 rw [Zr] at hm
 refine th<|th<|rg<|qm o rfl λo=>qm o rfl λo=>qv o (Bp (s:=p1) o runUnderlying9 rfl) λo=>qv o (Aq o rfl rfl) λo=>re<|?_
 rcases bip hm with ⟨F0,hm⟩ | ⟨F0,hm⟩
 refine tn<|ctv o rfl F0<|wk<|tn<|th<|wb<|th<|Au (λa w=>∃ (O0:Bool),(Zq (Zr N Zp p1 C0) D0) O0=some r∧Fr 40 [(0,Ac p1),(3,i6 D0),(39,.bool O0)] a∧St w0 Nil [H] [] w) ?_ ?_
 obtain ⟨Y0,Q0,hm⟩:=bs hm
 obtain ⟨R0,S0,hm⟩:=bs hm
 rcases bit hm with ⟨G0,hm⟩ | ⟨G0,hm⟩
 have G0':(!R0)=false:=by rw [G0];rfl
 refine rg<|qm o rfl λo=>qm o rfl λo=>qv o (Co (s:=p1) o runUnderlying9 rfl rfl Q0) λo=>ls<|cr o call136 (Ko (Ai _) S0) u λu o=>qv o (Az o rfl) λo=>qv o (As (Ab o rfl) (congrArg Value.bool G0')) λo=>?_
 iterate 5 refine qn o λo=>?_
 refine qv o (Ae o rfl rfl) λo=>re<|tn<|?_
 exact ⟨false,hm,o.hs,u⟩
 have G0':(!R0)=true:=by rw [G0];rfl
 obtain ⟨j0,U0,hm⟩:=bs hm
 obtain ⟨V0,W0,hm⟩:=bs hm
 refine rg<|qm o rfl λo=>qm o rfl λo=>qv o (Co (s:=p1) o runUnderlying9 rfl rfl Q0) λo=>ls<|cr o call136 (Ko (Ai _) S0) u λu o=>qv o (Az o rfl) λo=>qv o (As (Ab o rfl) (congrArg Value.bool G0')) λo=>?_
 iterate 2 refine qg o (Ab o rfl) λo=>?_
 refine qg o (Co (s:=p1) o runUnderlying9 rfl rfl U0) λo=>ls<|gy o rfl rfl<|cr o call137 (Rv (Ai _) W0) u λu o=>qg o (Az o rfl) λo=>qv o (Ad o rfl rfl) λo=>re<|tn<|?_
 exact ⟨(!V0),hm,o.hs,u⟩
 rintro a w ⟨O0,hm,o,u⟩
 unfold Zq at hm
 rcases bit hm with ⟨I0,hm⟩ | ⟨I0,hm⟩
 refine ctv o rfl I0<|th<|rg<|qa o rfl λo=>re<|tn<|wr<|br<|tr<|tr<|br<|tr<|?_
 obtain rfl:=si hm
 exact r1 o results114 rfl ⟨rfl,u.keep⟩
 refine cfv o rfl I0<|wk<|bn<|tn<|rg<|qm o rfl λo=>qv o (Ap o rfl rfl) λo=>qa o rfl λo=>re<|tn<|?_
 exact ⟨(C0,(IntKind.i64.wrap (D0+1))),⟨hm,o.has ⟨rfl,rfl,trivial⟩,u⟩,Nat.lt_succ_self _⟩
 refine tn<|cfv o rfl F0<|we<|tx<|tx<|bx<|tn<|?_
 exact ⟨hm,o.has trivial,u⟩
 rintro a w ⟨hm,o,u⟩
 unfold Zp at hm
 refine th<|rg<|qa o rfl λo=>re<|tn<|wr<|?_
 obtain rfl:=si hm
 exact r1 o results114 rfl ⟨rfl,u.keep⟩
theorem Po (hH:H.le w0) {p1:Int} {r:Bool} (hm:Z4r N p1=some r):Tot Tryz.prog 98 #[i6 p1] w0 (λv w'=>v=.bool r∧Keep Nil w0 w'):=by
 unfold Z4r at hm
 refine fn0 func98 rfl ntmps98 rfl rfl λa o=>?_
 have u:St w0 Nil [H] [] w0:=start1 hH
 refine th<|rg<|qa o rfl λo=>re<|tn<|th<|rg<|qm o rfl λo=>qv o (Bi o rfl rfl) λo=>qm o rfl λo=>gr (Fk:=[(8,.bool ((decide (0≤p1)) && (decide (p1≤4000))))]) 5 3 o u ?_ ?_ ?_
 intro hb o key
 exact qg o (Ab o rfl) λo=>qg o (Cs o rfl rfl) λo=>qk o (Ad o rfl rfl) key u hb
 intro hb o key
 iterate 2 refine qn o λo=>?_
 exact qk o (Ae o rfl rfl) key u hb
 intro a w o u
 refine qa o rfl λo=>re<|tn<|wr<|?_
 obtain rfl:=si hm
 exact r1 o results98 rfl ⟨rfl,u.keep⟩
theorem Ka (hH:H.le w0) {F0:Option Addr} {C0:Nat} {p1:(List api_Cell)} (V0:p1.length≤C0) (G0:SR H F0 p1) {p6:Int} {r:Bool} (hm:Z4n N p1 p6=some r):Tot Tryz.prog 97 #[SL F0 p1 C0,i6 p6] w0 (λv w'=>v=.bool r∧Keep Nil w0 w'):=by
 unfold Z4n at hm
 refine fn0 func97 rfl ntmps97 rfl rfl λa o=>?_
 have u:St w0 Nil [H] [] w0:=start1 hH
 refine th<|rg<|qa o rfl λo=>re<|tn<|th<|th<|rg<|qa o rfl λo=>re<|tn<|Au (λa w=>Z4o=some r∧Fr 45 [] a∧St w0 Nil [H] [] w) ?_ ?_
 refine wb<|lp (α:=Nat×Int) (λgh a w=>match gh with | (I0,D0)=>(Z4q N Z4o p1 p6) I0 D0=some r∧Fr 45 [(0,SL F0 p1 C0),(1,i6 p6),(5,i6 D0)] a∧St w0 Nil [H] [] w) (λgh=>gh.1) (N,0) ⟨hm,o.hs,u⟩ ?_
 rintro ⟨I0,D0⟩ a w ⟨hm,o,u⟩
 obtain _ | I0:=I0
 simp [Z4q] at hm
 rw [Z4q] at hm
 refine th<|th<|rg<|qm o rfl λo=>qm o rfl λo=>qv o (Ak (α:=api_Cell) (xs:=p1) o runUnderlying23 rfl) λo=>qv o (Aq o rfl rfl) λo=>re<|?_
 rcases bip hm with ⟨P0,hm⟩ | ⟨P0,hm⟩
 refine tn<|ctv o rfl P0<|wk<|tn<|th<|wb<|th<|Au (λa w=>∃ (Q0:Bool),(Z4p (Z4q N Z4o p1 p6 I0) D0) Q0=some r∧Fr 45 [(0,SL F0 p1 C0),(1,i6 p6),(5,i6 D0),(44,.bool Q0)] a∧St w0 Nil [H] [] w) ?_ ?_
 obtain ⟨J0,h9,hm⟩:=bs hm
 obtain ⟨W0,S0,E0⟩:=SR.get G0 h9
 obtain rfl:=Bj S0
 obtain ⟨O0,R0,hm⟩:=bs hm
 rcases bit hm with ⟨K0,hm⟩ | ⟨K0,hm⟩
 refine rg<|qm o rfl λo=>qm o rfl λo=>qv o (An o runUnderlying23 sizeOf53 rfl rfl h9 (SR.oaI G0 (by decide) h9)) λo=>qv o (Af o Ep rfl) λo=>qv o (Ag o isAgg9 rfl (PH.le.cell (Lds.le u.ld) (E0 0 _ rfl))) λo=>ls<|cr o call114 (Jq (Ai _) R0) u λu o=>qv o (Az o rfl) λo=>qm o rfl λo=>gr (Fk:=[(0,SL F0 p1 C0),(1,i6 p6),(5,i6 D0),(26,.bool ((!O0) || (decide (J0.N < 0))))]) 19 7 o u ?_ ?_ ?_
 intro hb o key
 iterate 6 refine qn o λo=>?_
 exact qk o (Ad o rfl rfl) key u hb
 intro hb o key
 iterate 2 refine qg o (Ab o rfl) λo=>?_
 exact qg o (An o runUnderlying23 sizeOf53 rfl rfl h9 (SR.oaI G0 (by decide) h9)) λo=>qg o (Af o Ft rfl) λo=>qg o (Ag o isAgg3 rfl (PH.le.cell (Lds.le u.ld) (E0 1 _ rfl))) λo=>qg o (Aq o rfl rfl) λo=>qk o (Ae o rfl rfl) key u hb
 intro a w o u
 refine qm o rfl λo=>gr (Fk:=[(0,SL F0 p1 C0),(1,i6 p6),(5,i6 D0),(35,.bool (((!O0) || (decide (J0.N < 0))) || (decide (p6 < J0.N))))]) 27 8 o u ?_ ?_ ?_
 intro hb o key
 iterate 7 refine qn o λo=>?_
 exact qk o (Ad o rfl rfl) key u hb
 intro hb o key
 iterate 2 refine qg o (Ab o rfl) λo=>?_
 exact qg o (An o runUnderlying23 sizeOf53 rfl rfl h9 (SR.oaI G0 (by decide) h9)) λo=>qg o (Af o Ft rfl) λo=>qg o (Ag o isAgg3 rfl (PH.le.cell (Lds.le u.ld) (E0 1 _ rfl))) λo=>qg o (Ab o rfl) λo=>qg o (Be o rfl rfl) λo=>qk o (Ae o rfl rfl) key u hb
 intro a w o u
 refine qv o (As (Ab o rfl) (congrArg Value.bool K0)) λo=>?_
 iterate 7 refine qn o λo=>?_
 refine qv o (Ad o rfl rfl) λo=>re<|tn<|?_
 exact ⟨true,hm,o.hs,u⟩
 obtain ⟨T0,U0,hm⟩:=bs hm
 refine rg<|qm o rfl λo=>qm o rfl λo=>qv o (An o runUnderlying23 sizeOf53 rfl rfl h9 (SR.oaI G0 (by decide) h9)) λo=>qv o (Af o Ep rfl) λo=>qv o (Ag o isAgg9 rfl (PH.le.cell (Lds.le u.ld) (E0 0 _ rfl))) λo=>ls<|cr o call114 (Jq (Ai _) R0) u λu o=>qv o (Az o rfl) λo=>qm o rfl λo=>gr (Fk:=[(0,SL F0 p1 C0),(1,i6 p6),(5,i6 D0),(26,.bool ((!O0) || (decide (J0.N < 0))))]) 19 7 o u ?_ ?_ ?_
 intro hb o key
 iterate 6 refine qn o λo=>?_
 exact qk o (Ad o rfl rfl) key u hb
 intro hb o key
 iterate 2 refine qg o (Ab o rfl) λo=>?_
 exact qg o (An o runUnderlying23 sizeOf53 rfl rfl h9 (SR.oaI G0 (by decide) h9)) λo=>qg o (Af o Ft rfl) λo=>qg o (Ag o isAgg3 rfl (PH.le.cell (Lds.le u.ld) (E0 1 _ rfl))) λo=>qg o (Aq o rfl rfl) λo=>qk o (Ae o rfl rfl) key u hb
 intro a w o u
 refine qm o rfl λo=>gr (Fk:=[(0,SL F0 p1 C0),(1,i6 p6),(5,i6 D0),(35,.bool (((!O0) || (decide (J0.N < 0))) || (decide (p6 < J0.N))))]) 27 8 o u ?_ ?_ ?_
 intro hb o key
 iterate 7 refine qn o λo=>?_
 exact qk o (Ad o rfl rfl) key u hb
 intro hb o key
 iterate 2 refine qg o (Ab o rfl) λo=>?_
 exact qg o (An o runUnderlying23 sizeOf53 rfl rfl h9 (SR.oaI G0 (by decide) h9)) λo=>qg o (Af o Ft rfl) λo=>qg o (Ag o isAgg3 rfl (PH.le.cell (Lds.le u.ld) (E0 1 _ rfl))) λo=>qg o (Ab o rfl) λo=>qg o (Be o rfl rfl) λo=>qk o (Ae o rfl rfl) key u hb
 intro a w o u
 refine qv o (As (Ab o rfl) (congrArg Value.bool K0)) λo=>?_
 iterate 2 refine qg o (Ab o rfl) λo=>?_
 refine qg o (An o runUnderlying23 sizeOf53 rfl rfl h9 (SR.oaI G0 (by decide) h9)) λo=>qg o (Af o Jm rfl) λo=>qg o (Ag o isAgg3 rfl (PH.le.cell (Lds.le u.ld) (E0 2 _ rfl))) λo=>ls<|gy o rfl rfl<|cr o call98 (Po (Ai _) U0) u λu o=>qg o (Az o rfl) λo=>qv o (Ae o rfl rfl) λo=>re<|tn<|?_
 exact ⟨(!T0),hm,o.hs,u⟩
 rintro a w ⟨Q0,hm,o,u⟩
 unfold Z4p at hm
 rcases bit hm with ⟨M0,hm⟩ | ⟨M0,hm⟩
 refine ctv o rfl M0<|th<|rg<|qa o rfl λo=>re<|tn<|wr<|br<|tr<|tr<|br<|tr<|?_
 obtain rfl:=si hm
 exact r1 o results97 rfl ⟨rfl,u.keep⟩
 refine cfv o rfl M0<|wk<|bn<|tn<|rg<|qm o rfl λo=>qv o (Ap o rfl rfl) λo=>qa o rfl λo=>re<|tn<|?_
 exact ⟨(I0,(IntKind.i64.wrap (D0+1))),⟨hm,o.hs,u⟩,Nat.lt_succ_self _⟩
 refine tn<|cfv o rfl P0<|we<|tx<|tx<|bx<|tn<|?_
 exact ⟨hm,o.has trivial,u⟩
 rintro a w ⟨hm,o,u⟩
 unfold Z4o at hm
 refine th<|rg<|qa o rfl λo=>re<|tn<|wr<|?_
 obtain rfl:=si hm
 exact r1 o results97 rfl ⟨rfl,u.keep⟩
theorem Uu (hH:H.le w0) {p1:Int} {r:Int} (hm:Z1r N p1=some r):Tot Tryz.prog 158 #[i6 p1] w0 (λv w'=>v=i6 r∧Keep Nil w0 w'):=by
 unfold Z1r at hm
 refine fn0 func158 rfl ntmps158 rfl rfl λa o=>?_
 have u:St w0 Nil [H] [] w0:=start1 hH
 refine th<|rg<|qa o rfl λo=>re<|tn<|th<|th<|rg<|qm o rfl λo=>qv o (Al o rfl rfl) λo=>qm o rfl λo=>gr (Fk:=[(0,i6 p1),(8,.bool ((decide (p1=1)) || (decide (p1=2))))]) 5 3 o u ?_ ?_ ?_
 intro hb o key
 iterate 2 refine qn o λo=>?_
 exact qk o (Ad o rfl rfl) key u hb
 intro hb o key
 exact qg o (Ab o rfl) λo=>qg o (Al o rfl rfl) λo=>qk o (Ae o rfl rfl) key u hb
 intro a w o u
 refine re<|?_
 rcases bit hm with ⟨C0,hm⟩ | ⟨C0,hm⟩
 refine tn<|ctv o rfl C0<|th<|rg<|qa o rfl λo=>re<|tn<|wr<|tr<|?_
 obtain rfl:=si hm
 exact r1 o results158 rfl ⟨rfl,u.keep⟩
 refine tn<|cfv o rfl C0<|wk<|tn<|th<|th<|rg<|qm o rfl λo=>qv o (Al o rfl rfl) λo=>qm o rfl λo=>gr (Fk:=[(0,i6 p1),(14,.bool ((decide (p1=3)) || (decide (p1=4))))]) 11 3 o u ?_ ?_ ?_
 intro hb o key
 iterate 2 refine qn o λo=>?_
 exact qk o (Ad o rfl rfl) key u hb
 intro hb o key
 exact qg o (Ab o rfl) λo=>qg o (Al o rfl rfl) λo=>qk o (Ae o rfl rfl) key u hb
 intro a w o u
 refine re<|?_
 rcases bit hm with ⟨D0,hm⟩ | ⟨D0,hm⟩
 refine tn<|ctv o rfl D0<|th<|rg<|qa o rfl λo=>re<|tn<|wr<|tr<|?_
 obtain rfl:=si hm
 exact r1 o results158 rfl ⟨rfl,u.keep⟩
 refine tn<|cfv o rfl D0<|wk<|tn<|th<|th<|rg<|qm o rfl λo=>qv o (Bi o rfl rfl) λo=>qm o rfl λo=>gr (Fk:=[(20,.bool ((decide (5≤p1)) && (decide (p1≤15))))]) 17 3 o u ?_ ?_ ?_
 intro hb o key
 exact qg o (Ab o rfl) λo=>qg o (Cs o rfl rfl) λo=>qk o (Ad o rfl rfl) key u hb
 intro hb o key
 iterate 2 refine qn o λo=>?_
 exact qk o (Ae o rfl rfl) key u hb
 intro a w o u
 refine re<|?_
 rcases bit hm with ⟨E0,hm⟩ | ⟨E0,hm⟩
 refine tn<|ctv o rfl E0<|th<|rg<|qa o rfl λo=>re<|tn<|wr<|tr<|?_
 obtain rfl:=si hm
 exact r1 o results158 rfl ⟨rfl,u.keep⟩
 refine tn<|cfv o rfl E0<|wk<|tn<|th<|rg<|qa o rfl λo=>re<|tn<|wr<|?_
 obtain rfl:=si hm
 exact r1 o results158 rfl ⟨rfl,u.keep⟩
end Go.LM.LB
