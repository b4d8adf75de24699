/- Walks, lifted by program. No condition beyond the theorems' own premises. -/
import Derived.Test.YtgdkaddhhpgeiaaGreatDoorLBQ6
namespace Go.LM.LB
open Go Go.LL Go.MD Go.LM Go.Proofs Go.MD.LB Go.Proofs.Tryz
set_option maxRecDepth 100000
variable {N:Nat} {w0:World} {H:PH}
theorem Ja0 (hH:H.le w0) {J0:Option Addr} {D0:Nat} {p1:(List Int)} (_:p1.length≤D0) (P0:SR H J0 p1) {oa7:Option Addr} {cap8:Nat} {p6:(List Int)} (_:p6.length≤cap8) (K0:SR H oa7 p6) {r:Bool} (hm:Z6p N p1 p6=some r):Tot Tryz.prog 29 #[SL J0 p1 D0,SL oa7 p6 cap8] w0 (λv w'=>v=.bool r∧Keep Nil w0 w'):=by
 unfold Z6p at hm
 refine fn0 func29 rfl ntmps29 rfl rfl λa o=>?_
 have u:St w0 Nil [H] [] w0:=start1 hH
 refine th<|rg<|qa o rfl λo=>re<|tn<|th<|th<|rg<|qm o rfl λo=>qv o (Ak (α:=Int) (xs:=p1) o runUnderlying42 rfl) λo=>qm o rfl λo=>qv o (Ak (α:=Int) (xs:=p6) o runUnderlying42 rfl) λo=>qv o (Br o rfl rfl) λo=>re<|?_
 rcases bip hm with ⟨E0,hm⟩ | ⟨E0,hm⟩
 refine tn<|ctv o rfl E0<|th<|rg<|qa o rfl λo=>re<|tn<|wr<|tr<|?_
 obtain rfl:=si hm
 exact r1 o results29 rfl ⟨rfl,u.keep⟩
 refine tn<|cfv o rfl E0<|wk<|tn<|th<|th<|rg<|qa o rfl λo=>re<|tn<|Au (λa w=>Z6q=some r∧Fr 26 [] a∧St w0 Nil [H] [] w) ?_ ?_
 refine wb<|lp (α:=Nat×Int) (λgh a w=>match gh with | (C0,I0)=>(Z6r N Z6q p1 p6) C0 I0=some r∧Fr 26 [(0,SL J0 p1 D0),(1,SL oa7 p6 cap8),(5,i6 I0)] a∧St w0 Nil [H] [] w) (λgh=>gh.1) (N,0) ⟨hm,o.hs,u⟩ ?_
 rintro ⟨C0,I0⟩ a w ⟨hm,o,u⟩
 obtain _ | C0:=C0
 simp [Z6r] at hm
 rw [Z6r] at hm
 refine th<|th<|rg<|qm o rfl λo=>qm o rfl λo=>qv o (Ak (α:=Int) (xs:=p1) o runUnderlying42 rfl) λo=>qv o (Ap o rfl rfl) λo=>re<|?_
 rcases bip hm with ⟨F0,hm⟩ | ⟨F0,hm⟩
 refine tn<|ctv o rfl F0<|wk<|tn<|th<|wb<|th<|?_
 obtain ⟨S0,M0,hm⟩:=bs hm
 obtain ⟨T0,U0,Q0⟩:=SR.get P0 M0
 obtain rfl:T0=[i6 S0]:=U0
 obtain ⟨V0,O0,hm⟩:=bs hm
 obtain ⟨W0,X0,R0⟩:=SR.get K0 O0
 obtain rfl:W0=[i6 V0]:=X0
 refine rxS 9 u wide (by kernel_rfl) λw u=>?_
 iterate 2 refine xq u.ld o (λw hl=>Ab o rfl) λo=>?_
 refine xr u o (Ao o runUnderlying42 sizeOf3 rfl rfl M0 (SR.oaI P0 (by decide) M0)) λo=>xq u.ld o (λw hl=>Ag o isAgg3 rfl (PH.le.cell (Lds.le hl) (Q0 0 _ rfl))) λo=>?_
 iterate 2 refine xq u.ld o (λw hl=>Ab o rfl) λo=>?_
 refine xr u o (Ao o runUnderlying42 sizeOf3 rfl rfl O0 (SR.oaI K0 (by decide) O0)) λo=>xq u.ld o (λw hl=>Ag o isAgg3 rfl (PH.le.cell (Lds.le hl) (R0 0 _ rfl))) λo=>xr u o (Br o rfl rfl) λo=>xe<|?_
 rcases bip hm with ⟨G0,hm⟩ | ⟨G0,hm⟩
 refine tn<|ctv o rfl G0<|th<|rg<|qa o rfl λo=>re<|tn<|wr<|br<|tr<|tr<|br<|tr<|?_
 obtain rfl:=si hm
 exact r1 o results29 rfl ⟨rfl,u.keep⟩
 refine tn<|cfv o rfl G0<|wk<|bn<|tn<|rg<|qm o rfl λo=>qv o (Am o rfl rfl) λo=>qa o rfl λo=>re<|tn<|?_
 exact ⟨(C0,(IntKind.i64.wrap (I0+1))),⟨hm,o.hs,u⟩,Nat.lt_succ_self _⟩
 refine tn<|cfv o rfl F0<|we<|tx<|tx<|bx<|tn<|?_
 exact ⟨hm,o.has trivial,u⟩
 rintro a w ⟨hm,o,u⟩
 unfold Z6q at hm
 refine th<|rg<|qa o rfl λo=>re<|tn<|wr<|?_
 obtain rfl:=si hm
 exact r1 o results29 rfl ⟨rfl,u.keep⟩
theorem JcH (hH:H.le w0)  {r:(Arr 15 Int)} (hm:Zg N  = some r):Tot Tryz.prog 74 #[] w0 (λv w'=>∃ (H':PH) (cs0:List Value),v=.agg cs0.toArray∧Enc.rep H' cs0 r∧Ext w0 H H'∧H'.le w'∧Keep Nil w0 w'):=by
 unfold Zg at hm
 refine fn0 func74 rfl ntmps74 rfl rfl λa o=>?_
 have u:St w0 Nil [H] [] w0:=start1 hH
 refine th<|rg<|ls<|Av (cs:=[i6 0,i6 0,i6 0,i6 0,i6 0,i6 0,i6 0,i6 0,i6 0,i6 0,i6 0,i6 0,i6 0,i6 0,i6 0].toArray) o rfl u Tryz.zeroValue102 rfl λb1 w a u o=>re<|tn<|th<|rg<|qv o (Bq [i6 1,i6 2,i6 1,i6 2,i6 2,i6 2,i6 1,i6 1,i6 1,i6 0] [i6 0,i6 0,i6 1,i6 2,i6 1,i6 2,i6 2,i6 2,i6 1,i6 1,i6 1,i6 0,i6 0,i6 0,i6 0] o ⟨rfl,rfl,rfl,rfl,rfl,rfl,rfl,rfl,rfl,rfl,trivial⟩ (λw=>by kernel_rfl)) λo=>ls<|Aw o u sizeOf102 rfl rfl rfl rfl (Al rfl) .head λw u=>re<|tn<|wr<|?_
 obtain rfl:=si hm
 exact r1c (vs:=[i6 0,i6 0,i6 1,i6 2,i6 1,i6 2,i6 2,i6 2,i6 1,i6 1,i6 1,i6 0,i6 0,i6 0,i6 0]) (.inl rfl) o results74 rfl isAgg102 sizeOf102 rfl (u.ld.cellsB t0) ⟨H,_,rfl,(show Enc.rep (α:=(Arr 15 Int)) H [i6 0,i6 0,i6 1,i6 2,i6 1,i6 2,i6 2,i6 2,i6 1,i6 1,i6 1,i6 0,i6 0,i6 0,i6 0] (⟨[0,0,1,2,1,2,2,2,1,1,1,0,0,0,0],rfl⟩:(Arr 15 Int)) from (.cons (c:=[i6 0]) rfl (.cons (c:=[i6 0]) rfl (.cons (c:=[i6 1]) rfl (.cons (c:=[i6 2]) rfl (.cons (c:=[i6 1]) rfl (.cons (c:=[i6 2]) rfl (.cons (c:=[i6 2]) rfl (.cons (c:=[i6 2]) rfl (.cons (c:=[i6 1]) rfl (.cons (c:=[i6 1]) rfl (.cons (c:=[i6 1]) rfl (.cons (c:=[i6 0]) rfl (.cons (c:=[i6 0]) rfl (.cons (c:=[i6 0]) rfl (.cons (c:=[i6 0]) rfl .nil)))))))))))))))),(Ext.refl _ _),(St.le u),u.keep⟩
theorem Pw (hH:H.le w0) {p1:Int} {r:Int} (hm:Z0 N p1=some r):Tot Tryz.prog 40 #[i6 p1] w0 (λv w'=>v=i6 r∧Keep Nil w0 w'):=by
 unfold Z0 at hm
 refine fn0 func40 rfl ntmps40 rfl rfl λa o=>?_
 have u:St w0 Nil [H] [] w0:=start1 hH
 refine th<|rg<|qa o rfl λo=>re<|tn<|th<|th<|rg<|qm o rfl λo=>qv o (Ap o rfl rfl) λo=>qm o rfl λo=>gr (Fk:=[(0,i6 p1),(8,.bool ((decide (p1 < 0)) || (decide (15≤p1))))]) 5 3 o u ?_ ?_ ?_
 intro hb o key
 iterate 2 refine qn o λo=>?_
 exact qk o (Ad o rfl rfl) key u hb
 intro hb o key
 exact qg o (Ab o rfl) λo=>qg o (Bl o rfl rfl) λo=>qk o (Ae o rfl rfl) key u hb
 intro a w o u
 refine re<|?_
 rcases bit hm with ⟨C0,hm⟩ | ⟨C0,hm⟩
 refine tn<|ctv o rfl C0<|th<|rg<|qa o rfl λo=>re<|tn<|wr<|tr<|?_
 obtain rfl:=si hm
 exact r1 o results40 rfl ⟨rfl,u.keep⟩
 refine tn<|cfv o rfl C0<|wk<|tn<|th<|?_
 obtain ⟨E0,h4,hm⟩:=bs hm
 obtain ⟨J0,F0,hm⟩:=bs hm
 refine rg<|ls<|c1 o rfl Tryz.call74 (JcH (St.le u) h4) trivial (λv w a hR o=>?_)
 obtain ⟨H8,cs9,rfl,K0,D0,M0,hk⟩:=hR
 obtain ⟨u,D0⟩:=And.intro (St.passH u hk D0 M0) (St.extc u D0)
 have G0:Rows H8 cs9 E0.l:=K0
 refine qm o rfl λo=>?_
 obtain ⟨O0,P0,I0⟩:=Rows.getI G0 F0
 obtain rfl:O0=[i6 J0]:=P0
 refine qv o (Ja4 o runUnderlying102 sizeOf3 isAgg3 rfl rfl E0.h F0 (I0 0 _ rfl)) λo=>qa o rfl λo=>re<|tn<|wr<|?_
 obtain rfl:=si hm
 exact r1 o results40 rfl ⟨rfl,u.keep⟩
theorem Ug:∀ (N:Nat) {w0:World} {H:PH} (_:H.le w0) {J0:Option Addr} {E0:Nat} {p1:(List api_Stmt)} (_:p1.length≤E0) (_:SR H J0 p1) {r:Int} (_:Zh N p1=some r),Tot Tryz.prog 70 #[SL J0 p1 E0] w0 (λv w'=>v=i6 r∧Keep Nil w0 w'):=by
 intro N
 induction N with
  | zero=>intros;rename_i hm;simp [Zh] at hm
  | succ N ih=>
 intro w0 H hH J0 E0 p1 G0 K0 r hm
 rw [Zh] at hm
 refine fn0 func70 rfl ntmps70 rfl rfl λa o=>?_
 have u:St w0 Nil [H] [] w0:=start1 hH
 refine th<|rg<|qa o rfl λo=>re<|tn<|th<|rg<|qa o rfl λo=>re<|tn<|th<|th<|rg<|qa o rfl λo=>re<|tn<|Au (λa w=>∃ (Q0:Int),Zi Q0=some r∧Fr 63 [(3,i6 Q0)] a∧St w0 Nil [H] [] w) ?_ ?_
 refine wb<|lp (α:=Nat×Int×Int) (λgh a w=>match gh with | (I0,F0,C0)=>(Zk (Zh N) N Zi p1) I0 F0 C0=some r∧Fr 63 [(0,SL J0 p1 E0),(3,i6 F0),(4,i6 C0)] a∧St w0 Nil [H] [] w) (λgh=>gh.1) (N,0,0) ⟨hm,o.hs,u⟩ ?_
 rintro ⟨I0,F0,C0⟩ a w ⟨hm,o,u⟩
 obtain _ | I0:=I0
 simp [Zk] at hm
 rw [Zk] at hm
 refine th<|th<|rg<|qm o rfl λo=>qm o rfl λo=>qv o (Ak (α:=api_Stmt) (xs:=p1) o runUnderlying46 rfl) λo=>qv o (Ap o rfl rfl) λo=>re<|?_
 rcases bip hm with ⟨R0,hm⟩ | ⟨R0,hm⟩
 refine tn<|ctv o rfl R0<|wk<|tn<|wb<|th<|?_
 obtain ⟨D0,h8,hm⟩:=bs hm
 obtain ⟨cz9,B1,V0⟩:=SR.get K0 h8
 obtain ⟨U1,P1,V1,Q1,rfl,X1,Y1,B2,C2⟩:=Bg B1
 refine rg<|qm o rfl λo=>qm o rfl λo=>qv o (Ao o runUnderlying46 sizeOf51 rfl rfl h8 (SR.oaI K0 (by decide) h8)) λo=>qv o (Ax o isAgg51 sizeOf51 rfl rfl (λj v hj=>PH.le.cell (Lds.le u.ld) (V0 j v hj))) λo=>ls<|Av (cs:=[i6 0,Ac [],Ac [],.slice none 0 0,.slice none 0 0,i6 0,i6 0,i6 0,i6 0].toArray) o rfl u zeroValue51 rfl λI2 w a u o=>ls<|Aw o u sizeOf51 rfl rfl rfl rfl (Al rfl) .head λw u=>re<|tn<|th<|rg<|qm o rfl λo=>qv o (Am o rfl rfl) λo=>qv o (Af o Da rfl) λo=>qv o (Ag o isAgg3 rfl (u.ld.cellB t0 rfl)) λo=>qv o (Am o rfl rfl) λo=>qa o rfl λo=>re<|tn<|th<|rg<|qm o rfl λo=>qv o (Af o Df rfl) λo=>qv o (Ag o isAgg3 rfl (u.ld.cellB t0 rfl)) λo=>qv o (Am o rfl rfl) λo=>qa o rfl λo=>re<|tn<|th<|th<|rg<|qv o (Af o Bm rfl) λo=>qv o (Ag o isAgg3 rfl (u.ld.cellB t0 rfl)) λo=>re<|tn<|Au (λa w=>∃ (P0:Int),(Zj ((Zk (Zh N) N Zi p1) I0) D0 C0) P0=some r∧Fr 63 [(0,SL J0 p1 E0),(3,i6 P0),(7,i6 (IntKind.i64.wrap ((IntKind.i64.wrap ((IntKind.i64.wrap (C0+1))+D0.Body))+D0.Else)))] a∧St w0 Nil [H] [] w) ?_ ?_
 refine wb<|th<|rg<|qv o (An o rfl rfl) λo=>qa o rfl λo=>re<|?_
 rcases bip hm with ⟨M0,hm⟩ | ⟨M0,hm⟩
 refine tn<|ctv o rfl M0<|?_
 obtain ⟨J2,S0,hm⟩:=bs hm
 obtain ⟨E2,R1,e26,e27,W0,X0⟩:=SR.sub (sz:=9) K0 G0 rfl S0
 obtain ⟨C1,E1,hm⟩:=bs hm
 obtain ⟨K2,T0,hm⟩:=bs hm
 obtain ⟨F2,S1,e36,e37,Y0,j0⟩:=SR.sub (sz:=9) K0 G0 rfl T0
 obtain ⟨F1,G1,hm⟩:=bs hm
 refine rdS 15 u wide λw u=>dr 0 u o rfl (Ab o rfl) λo=>dr 1 u o rfl (Ab o rfl) λo=>dr 2 u o rfl (Ab o rfl) λo=>dr 3 u o rfl (Am o rfl rfl) λo=>dr 4 u o rfl (Ab o rfl) λo=>dr 5 u o rfl (Bz (xs:=p1) (vl:=(IntKind.i64.wrap (C0+1))) (vh:=(IntKind.i64.wrap ((IntKind.i64.wrap (C0+1))+D0.Body))) o runUnderlying46 sizeOf51 rfl G0 rfl rfl S0 e26 e27) λo=>dr 7 u o rfl (Ab o rfl) λo=>dr 8 u o rfl (Ab o rfl) λo=>dr 9 u o rfl (Ab o rfl) λo=>dr 10 u o rfl (Bz (xs:=p1) (vl:=(IntKind.i64.wrap ((IntKind.i64.wrap (C0+1))+D0.Body))) (vh:=(IntKind.i64.wrap ((IntKind.i64.wrap ((IntKind.i64.wrap (C0+1))+D0.Body))+D0.Else))) o runUnderlying46 sizeOf51 rfl G0 rfl rfl T0 e36 e37) λo=>da1 (i:=6) (by kernel_rfl) ?_
 refine di (i:=6) rfl<|cr o call70 (ih (Ai _) W0 (St.srH u X0) E1) u λu o=>⟨λ_=>u.ld,?_⟩
 refine da1 (i:=11) (by kernel_rfl) ?_
 refine di (i:=11) rfl<|cr o call70 (ih (Ai _) Y0 (St.srH u j0) G1) u λu o=>⟨λ_=>u.ld,?_⟩
 refine dr 12 u o rfl (Ta o rfl rfl) λo=>dr 13 u o rfl (Am o rfl rfl) λo=>dr 14 u o rfl (Bn o rfl) λo=>de (by kernel_rfl)<|bn<|tn<|?_
 replace u:=u.pickL .nil
 exact ⟨(IntKind.i64.wrap (F0+(max C1 F1))),hm,o.hs,u⟩
 refine tn<|cfv o rfl M0<|th<|rg<|qv o (An o rfl rfl) λo=>qa o rfl λo=>re<|?_
 rcases bip hm with ⟨O0,hm⟩ | ⟨O0,hm⟩
 refine tn<|ctv o rfl O0<|?_
 obtain ⟨M2,U0,hm⟩:=bs hm
 obtain ⟨G2,T1,e47,e48,n0,u0⟩:=SR.sub (sz:=9) K0 G0 rfl U0
 obtain ⟨I1,J1,hm⟩:=bs hm
 refine rdS 12 u wide λw u=>dr 0 u o rfl (Ab o rfl) λo=>dr 1 u o rfl (Af o Em rfl) λo=>dq 2 u.ld o rfl (λw hl=>Ag o isAgg3 rfl (hl.cellB t0 rfl)) λo=>dr 3 u o rfl (Ab o rfl) λo=>dr 4 u o rfl (Ab o rfl) λo=>dr 5 u o rfl (Am o rfl rfl) λo=>dr 6 u o rfl (Ab o rfl) λo=>dr 7 u o rfl (Bz (xs:=p1) (vl:=(IntKind.i64.wrap (C0+1))) (vh:=(IntKind.i64.wrap ((IntKind.i64.wrap (C0+1))+D0.Body))) o runUnderlying46 sizeOf51 rfl G0 rfl rfl U0 e47 e48) λo=>da1 (i:=8) (by kernel_rfl) ?_
 refine di (i:=8) rfl<|cr o call70 (ih (Ai _) n0 (St.srH u u0) J1) u λu o=>⟨λ_=>u.ld,?_⟩
 refine dr 9 u o rfl (Ni o rfl rfl) λo=>dr 10 u o rfl (Am o rfl rfl) λo=>dr 11 u o rfl (Bn o rfl) λo=>de (by kernel_rfl)<|bn<|tn<|?_
 replace u:=u.pickL .nil
 exact ⟨(IntKind.i64.wrap (F0+(IntKind.i64.wrap (D0.N * I1)))),hm,o.hs,u⟩
 refine tn<|cfv o rfl O0<|?_
 obtain ⟨M1,O1,hm⟩:=bs hm
 refine rg<|qm o rfl λo=>qv o (Af o Bm rfl) λo=>qv o (Ag o isAgg3 rfl (u.ld.cellB t0 rfl)) λo=>ls<|cr o call40 (Pw (Ai _) O1) u λu o=>qv o (Am o rfl rfl) λo=>qa o rfl λo=>re<|bn<|tn<|?_
 replace u:=u.pickL .nil
 exact ⟨(IntKind.i64.wrap (F0+M1)),hm,o.hs,u⟩
 rintro a w ⟨P0,hm,o,u⟩
 unfold Zj at hm
 refine rg<|qm o rfl λo=>qa o rfl λo=>re<|bn<|tn<|?_
 exact ⟨(I0,P0,(IntKind.i64.wrap ((IntKind.i64.wrap ((IntKind.i64.wrap (C0+1))+D0.Body))+D0.Else))),⟨hm,o.hs,u⟩,Nat.lt_succ_self _⟩
 refine tn<|cfv o rfl R0<|we<|tx<|tx<|bx<|tn<|?_
 exact ⟨F0,hm,o.has ⟨rfl,trivial⟩,u⟩
 rintro a w ⟨Q0,hm,o,u⟩
 unfold Zi at hm
 refine th<|rg<|qm o rfl λo=>qa o rfl λo=>re<|tn<|wr<|?_
 obtain rfl:=si hm
 exact r1 o results70 rfl ⟨rfl,u.keep⟩
theorem Vq (hH:H.le w0) (hT:Tab H) {E0:Option Addr} {C0:Nat} {p1:(List api_Stmt)} (F0:p1.length≤C0) (G0:SR H E0 p1) {r:Int} (hm:Z8 N p1=some r):Tot Tryz.prog 34 #[SL E0 p1 C0] w0 (λv w'=>v=i6 r∧Keep Nil w0 w'):=by
 unfold Z8 at hm
 refine fn0 func34 rfl ntmps34 rfl rfl λa o=>?_
 have u:St w0 Nil [H] [] w0:=start1 hH
 refine th<|rg<|qa o rfl λo=>re<|tn<|th<|th<|?_
 obtain ⟨J0,h7,hm⟩:=bs hm
 refine rg<|qm o rfl λo=>ls<|cr o call69 (Vy (Ai _) (Tab.mono hT (St.up u)) F0 (St.srH u G0) h7) u λu o=>qv o (Az o rfl) λo=>re<|?_
 rcases bit hm with ⟨D0,hm⟩ | ⟨D0,hm⟩
 refine tn<|cfv o rfl (by rw [D0];rfl)<|wk<|tn<|th<|?_
 obtain ⟨K0,I0,hm⟩:=bs hm
 refine rg<|qm o rfl λo=>ls<|cr o call70 (Ug _ (Ai _) F0 (St.srH u G0) I0) u λu o=>qa o rfl λo=>re<|tn<|wr<|?_
 obtain rfl:=si hm
 exact r1 o results34 rfl ⟨rfl,u.keep⟩
 refine tn<|ctv o rfl (by rw [D0];rfl)<|th<|rg<|qa o rfl λo=>re<|tn<|wr<|tr<|?_
 obtain rfl:=si hm
 exact r1 o results34 rfl ⟨rfl,u.keep⟩
theorem Sm (hH:H.le w0) {p1:Int} {r:Int} (hm:Z7o N p1=some r):Tot Tryz.prog 41 #[i6 p1] w0 (λv w'=>v=i6 r∧Keep Nil w0 w'):=by
 unfold Z7o at hm
 refine fn0 func41 rfl ntmps41 rfl rfl λa o=>?_
 have u:St w0 Nil [H] [] w0:=start1 hH
 refine th<|rg<|qa o rfl λo=>re<|tn<|th<|th<|rg<|qm o rfl λo=>re<|tn<|wb<|th<|th<|rg<|qv o (An o rfl rfl) λo=>qa o rfl λo=>re<|tn<|Au (λa w=>∃ (D0:Bool),(Z7p p1) D0=some r∧Fr 15 [(3,i6 p1),(4,.bool D0)] a∧St w0 Nil [H] [] w) ?_ ?_
 rcases bip hm with ⟨E0,hm⟩ | ⟨E0,hm⟩
 refine ctv o rfl E0<|wk<|tn<|?_
 exact ⟨(decide (p1=2)),hm,o.has ⟨rfl,rfl,trivial⟩,u⟩
 refine cfv o rfl E0<|th<|rg<|qv o (An o rfl rfl) λo=>qa o rfl λo=>re<|?_
 rcases bip hm with ⟨F0,hm⟩ | ⟨F0,hm⟩
 refine tn<|ctv o rfl F0<|wk<|tn<|?_
 exact ⟨(decide (p1=4)),hm,o.has ⟨rfl,rfl,trivial⟩,u⟩
 refine tn<|cfv o rfl F0<|th<|rg<|qv o (An o rfl rfl) λo=>qa o rfl λo=>re<|?_
 rcases bip hm with ⟨G0,hm⟩ | ⟨G0,hm⟩
 refine tn<|ctv o rfl G0<|wk<|tn<|?_
 exact ⟨(decide (p1=8)),hm,o.has ⟨rfl,rfl,trivial⟩,u⟩
 refine tn<|cfv o rfl G0<|th<|rg<|qv o (An o rfl rfl) λo=>qa o rfl λo=>re<|?_
 rcases bip hm with ⟨I0,hm⟩ | ⟨I0,hm⟩
 refine tn<|ctv o rfl I0<|wk<|tn<|?_
 exact ⟨(decide (p1=9)),hm,o.has ⟨rfl,rfl,trivial⟩,u⟩
 refine tn<|cfv o rfl I0<|rg<|qv o (An o rfl rfl) λo=>qa o rfl λo=>re<|tn<|?_
 exact ⟨(decide (p1=10)),hm,o.has ⟨rfl,rfl,trivial⟩,u⟩
 rintro a w ⟨D0,hm,o,u⟩
 unfold Z7p at hm
 rcases bit hm with ⟨J0,hm⟩ | ⟨J0,hm⟩
 refine ctv o rfl J0<|th<|rg<|qa o rfl λo=>re<|tn<|wr<|br<|tr<|?_
 obtain rfl:=si hm
 exact r1 o results41 rfl ⟨rfl,u.keep⟩
 refine cfv o rfl J0<|th<|th<|rg<|qv o (An o rfl rfl) λo=>qa o rfl λo=>re<|tn<|Au (λa w=>∃ (K0:Bool),Z7q K0=some r∧Fr 15 [(10,.bool K0)] a∧St w0 Nil [H] [] w) ?_ ?_
 rcases bip hm with ⟨M0,hm⟩ | ⟨M0,hm⟩
 refine ctv o rfl M0<|wk<|tn<|?_
 exact ⟨(decide (p1=3)),hm,o.has ⟨rfl,trivial⟩,u⟩
 refine cfv o rfl M0<|th<|rg<|qv o (An o rfl rfl) λo=>qa o rfl λo=>re<|?_
 rcases bip hm with ⟨O0,hm⟩ | ⟨O0,hm⟩
 refine tn<|ctv o rfl O0<|wk<|tn<|?_
 exact ⟨(decide (p1=5)),hm,o.has ⟨rfl,trivial⟩,u⟩
 refine tn<|cfv o rfl O0<|th<|rg<|qv o (An o rfl rfl) λo=>qa o rfl λo=>re<|?_
 rcases bip hm with ⟨P0,hm⟩ | ⟨P0,hm⟩
 refine tn<|ctv o rfl P0<|wk<|tn<|?_
 exact ⟨(decide (p1=6)),hm,o.has ⟨rfl,trivial⟩,u⟩
 refine tn<|cfv o rfl P0<|rg<|qv o (An o rfl rfl) λo=>qa o rfl λo=>re<|tn<|?_
 exact ⟨(decide (p1=7)),hm,o.has ⟨rfl,trivial⟩,u⟩
 rintro a w ⟨K0,hm,o,u⟩
 unfold Z7q at hm
 rcases bit hm with ⟨C0,hm⟩ | ⟨C0,hm⟩
 refine ctv o rfl C0<|th<|rg<|qa o rfl λo=>re<|tn<|wr<|br<|tr<|?_
 obtain rfl:=si hm
 exact r1 o results41 rfl ⟨rfl,u.keep⟩
 refine cfv o rfl C0<|wk<|bn<|tn<|th<|rg<|qa o rfl λo=>re<|tn<|wr<|?_
 obtain rfl:=si hm
 exact r1 o results41 rfl ⟨rfl,u.keep⟩
theorem Mo:∀ (N:Nat) {w0:World} {H:PH} (hH:H.le w0) {G0:Option Addr} {E0:Nat} {p1:(List api_Stmt)} (D0:p1.length≤E0) (F0:SR H G0 p1) {r:Int} (hm:Z7w N p1=some r),Tot Tryz.prog 71 #[SL G0 p1 E0] w0 (λv w'=>v=i6 r∧Keep Nil w0 w'):=by
 intro N
 induction N with
  | zero=>intros;rename_i hm;simp [Z7w] at hm
  | succ N ih=>
 intro w0 H hH G0 E0 p1 D0 F0 r hm
 rw [Z7w] at hm
 refine fn0 func71 rfl ntmps71 rfl rfl λa o=>?_
 have u:St w0 Nil [H] [] w0:=start1 hH
 refine th<|rg<|qa o rfl λo=>re<|tn<|th<|th<|rg<|qm o rfl λo=>qv o (Ak (α:=api_Stmt) (xs:=p1) o runUnderlying46 rfl) λo=>qv o (An o rfl rfl) λo=>re<|?_
 rcases bip hm with ⟨M0,hm⟩ | ⟨M0,hm⟩
 refine tn<|ctv o rfl M0<|th<|rg<|qa o rfl λo=>re<|tn<|wr<|tr<|?_
 obtain rfl:=si hm
 exact r1 o results71 rfl ⟨rfl,u.keep⟩
 refine tn<|cfv o rfl M0<|wk<|tn<|th<|?_
 obtain ⟨C0,h8,hm⟩:=bs hm
 obtain ⟨cz9,I1,W0⟩:=SR.get F0 h8
 obtain ⟨X0,P0,Y0,Q0,rfl,C2,E2,F2,G2⟩:=Bg I1
 refine rg<|qm o rfl λo=>qv o (Ao o runUnderlying46 sizeOf51 rfl rfl h8 (SR.oaI F0 (by decide) h8)) λo=>qv o (Ax o isAgg51 sizeOf51 rfl rfl (λj v hj=>PH.le.cell (Lds.le u.ld) (W0 j v hj))) λo=>ls<|Av (cs:=[i6 0,Ac [],Ac [],.slice none 0 0,.slice none 0 0,i6 0,i6 0,i6 0,i6 0].toArray) o rfl u zeroValue51 rfl λR0 w a u o=>ls<|Aw o u sizeOf51 rfl rfl rfl rfl (Al rfl) .head λw u=>re<|tn<|th<|rg<|qv o (Af o Da rfl) λo=>qv o (Ag o isAgg3 rfl (u.ld.cellB t0 rfl)) λo=>qv o (Am o rfl rfl) λo=>qa o rfl λo=>re<|tn<|th<|rg<|qm o rfl λo=>qv o (Af o Df rfl) λo=>qv o (Ag o isAgg3 rfl (u.ld.cellB t0 rfl)) λo=>qv o (Am o rfl rfl) λo=>qa o rfl λo=>re<|tn<|th<|?_
 obtain ⟨J1,M1,hm⟩:=bs hm
 refine rg<|qv o (Af o Bm rfl) λo=>qv o (Ag o isAgg3 rfl (u.ld.cellB t0 rfl)) λo=>ls<|cr o call41 (Sm (Ai _) M1) u λu o=>qa o rfl λo=>re<|tn<|th<|th<|rg<|qv o (Af o Bm rfl) λo=>qv o (Ag o isAgg3 rfl (u.ld.cellB t0 rfl)) λo=>qv o (An o rfl rfl) λo=>re<|tn<|Au (λa w=>∃ (K0:Int),(Z7x (Z7w N) N p1 C0) K0=some r∧Fr 52 [(0,SL G0 p1 E0),(3,PT R0),(4,i6 (IntKind.i64.wrap (1+C0.Body))),(5,i6 (IntKind.i64.wrap ((IntKind.i64.wrap (1+C0.Body))+C0.Else))),(6,i6 K0)] a∧St w0 Nil [H] [bk R0 [i6 C0.Kind,Ac C0.Reg,Ac C0.Name,SL X0 C0.E P0,SL Y0 C0.F Q0,i6 C0.N,i6 C0.Body,i6 C0.Else,i6 C0.At] 51] w) ?_ ?_
 rcases bip hm with ⟨I0,hm⟩ | ⟨I0,hm⟩
 refine ctv o rfl I0<|?_
 obtain ⟨O2,S0,hm⟩:=bs hm
 obtain ⟨I2,V1,e28,e29,j0,n0⟩:=SR.sub (sz:=9) F0 D0 rfl S0
 obtain ⟨O1,P1,hm⟩:=bs hm
 obtain ⟨P2,T0,hm⟩:=bs hm
 obtain ⟨J2,X1,e38,e39,u0,B1⟩:=SR.sub (sz:=9) F0 D0 rfl T0
 obtain ⟨Q1,R1,hm⟩:=bs hm
 refine rdS 11 u wide λw u=>dr 0 u o rfl (Ab o rfl) λo=>dr 1 u o rfl (Ab o rfl) λo=>dr 2 u o rfl (Bz (xs:=p1) (vl:=1) (vh:=(IntKind.i64.wrap (1+C0.Body))) o runUnderlying46 sizeOf51 rfl D0 rfl rfl S0 e28 e29) λo=>dr 4 u o rfl (Ab o rfl) λo=>dr 5 u o rfl (Ab o rfl) λo=>dr 6 u o rfl (Ab o rfl) λo=>dr 7 u o rfl (Bz (xs:=p1) (vl:=(IntKind.i64.wrap (1+C0.Body))) (vh:=(IntKind.i64.wrap ((IntKind.i64.wrap (1+C0.Body))+C0.Else))) o runUnderlying46 sizeOf51 rfl D0 rfl rfl T0 e38 e39) λo=>da1 (i:=3) (by kernel_rfl) ?_
 refine di (i:=3) rfl<|cr o call71 (ih (Ai _) j0 (St.srH u n0) P1) u λu o=>⟨λ_=>u.ld,?_⟩
 refine da1 (i:=8) (by kernel_rfl) ?_
 refine di (i:=8) rfl<|cr o call71 (ih (Ai _) u0 (St.srH u B1) R1) u λu o=>⟨λ_=>u.ld,?_⟩
 refine dr 9 u o rfl (Ta o rfl rfl) λo=>dr 10 u o rfl (Bn o rfl) λo=>de (by kernel_rfl)<|tn<|?_
 exact ⟨(max O1 Q1),hm,o.hs,u⟩
 refine cfv o rfl I0<|wk<|tn<|?_
 exact ⟨J1,hm,o.hs,u⟩
 rintro a w ⟨K0,hm,o,u⟩
 unfold Z7x at hm
 refine th<|th<|rg<|qv o (Af o Bm rfl) λo=>qv o (Ag o isAgg3 rfl (u.ld.cellB t0 rfl)) λo=>qv o (An o rfl rfl) λo=>re<|tn<|Au (λa w=>∃ (O0:Int),(Z7y (Z7w N) p1 C0) O0=some r∧Fr 52 [(0,SL G0 p1 E0),(5,i6 (IntKind.i64.wrap ((IntKind.i64.wrap (1+C0.Body))+C0.Else))),(6,i6 O0)] a∧St w0 Nil [H] [] w) ?_ ?_
 rcases bip hm with ⟨J0,hm⟩ | ⟨J0,hm⟩
 refine ctv o rfl J0<|?_
 obtain ⟨Q2,U0,hm⟩:=bs hm
 obtain ⟨K2,Y1,e49,e50,C1,E1⟩:=SR.sub (sz:=9) F0 D0 rfl U0
 obtain ⟨S1,T1,hm⟩:=bs hm
 refine rdS 8 u wide λw u=>dr 0 u o rfl (Af o Em rfl) λo=>dq 1 u.ld o rfl (λw hl=>Ag o isAgg3 rfl (hl.cellB t0 rfl)) λo=>dr 2 u o rfl (Ab o rfl) λo=>dr 3 u o rfl (Ab o rfl) λo=>dr 4 u o rfl (Bz (xs:=p1) (vl:=1) (vh:=(IntKind.i64.wrap (1+C0.Body))) o runUnderlying46 sizeOf51 rfl D0 rfl rfl U0 e49 e50) λo=>da1 (i:=5) (by kernel_rfl) ?_
 refine di (i:=5) rfl<|cr o call71 (ih (Ai _) C1 (St.srH u E1) T1) u λu o=>⟨λ_=>u.ld,?_⟩
 refine dr 6 u o rfl (Ni o rfl rfl) λo=>dr 7 u o rfl (Bn o rfl) λo=>de (by kernel_rfl)<|tn<|?_
 replace u:=u.pickL .nil
 exact ⟨(IntKind.i64.wrap (C0.N * S1)),hm,o.hs,u⟩
 refine cfv o rfl J0<|wk<|tn<|?_
 replace u:=u.pickL .nil
 exact ⟨K0,hm,o.hs,u⟩
 rintro a w ⟨O0,hm,o,u⟩
 unfold Z7y at hm
 refine th<|?_
 obtain ⟨R2,V0,hm⟩:=bs hm
 obtain ⟨M2,B2,e59,e60,F1,G1⟩:=SR.sub (sz:=9) F0 D0 rfl V0
 obtain ⟨T2,U1,hm⟩:=bs hm
 refine rg<|qm o rfl λo=>?_
 iterate 2 refine qm o rfl λo=>?_
 refine qv o (Bz (xs:=p1) (vl:=(IntKind.i64.wrap ((IntKind.i64.wrap (1+C0.Body))+C0.Else))) (vh:=(p1.length:Int)) o runUnderlying46 sizeOf51 rfl D0 rfl rfl V0 e59 e60) λo=>ls<|cr o call71 (ih (Ai _) F1 (St.srH u G1) U1) u λu o=>qv o (Am o rfl rfl) λo=>qa o rfl λo=>re<|tn<|wr<|?_
 obtain rfl:=si hm
 exact r1 o results71 rfl ⟨rfl,u.keep⟩
theorem Jas (hH:H.le w0) {E0:Option Addr} {C0:Nat} {p1:(List api_Stmt)} (F0:p1.length≤C0) (G0:SR H E0 p1) {r:Int} (hm:Z7v N p1=some r):Tot Tryz.prog 35 #[SL E0 p1 C0] w0 (λv w'=>v=i6 r∧Keep Nil w0 w'):=by
 unfold Z7v at hm
 refine fn0 func35 rfl ntmps35 rfl rfl λa o=>?_
 have u:St w0 Nil [H] [] w0:=start1 hH
 refine th<|rg<|qa o rfl λo=>re<|tn<|th<|th<|?_
 obtain ⟨J0,h7,hm⟩:=bs hm
 refine rg<|qm o rfl λo=>ls<|cr o call44 (Vv (Ai _) F0 (St.srH u G0) h7) u λu o=>qv o (Az o rfl) λo=>re<|?_
 rcases bit hm with ⟨D0,hm⟩ | ⟨D0,hm⟩
 refine tn<|cfv o rfl (by rw [D0];rfl)<|wk<|tn<|th<|?_
 obtain ⟨K0,I0,hm⟩:=bs hm
 refine rg<|qm o rfl λo=>ls<|cr o call71 (Mo _ (Ai _) F0 (St.srH u G0) I0) u λu o=>qa o rfl λo=>re<|tn<|wr<|?_
 obtain rfl:=si hm
 exact r1 o results35 rfl ⟨rfl,u.keep⟩
 refine tn<|ctv o rfl (by rw [D0];rfl)<|th<|rg<|qa o rfl λo=>re<|tn<|wr<|tr<|?_
 obtain rfl:=si hm
 exact r1 o results35 rfl ⟨rfl,u.keep⟩
set_option maxHeartbeats 4000000 in
theorem JcM:∀ (N:Nat) {w0:World} {H:PH} (_:H.le w0) {P0:Option Addr} {K0:Nat} {p1:(List api_Stmt)} (_:p1.length≤K0) (_:SR H P0 p1) {b7:Nat} {p6:(List Int)} {oa8:Option Addr} {cap9:Nat} {vs10:List Value} (_:Rows H vs10 p6) {y14:Int} {b13:Nat} (_:H b13=some (.cells [i6 y14].toArray 3 (0,0))) {J0:Nat} (_:H J0=some (.cells [.func (.func 72) #[] #[PT b7,PT b13,PT J0]].toArray 65 (0,0))) (_:(sepA [bk b7 [SL oa8 p6 cap9] 42,sla 3 1 oa8 p6.length cap9 vs10]).ok (hp w0)) (_:∀ b,(sepA [bk b7 [SL oa8 p6 cap9] 42,sla 3 1 oa8 p6.length cap9 vs10]).fp b→H b=none) {r:(List Int)} (_:Za N p1 p6 y14=some r),Tot Tryz.prog 72 #[SL P0 p1 K0,PT b7,PT b13,PT J0] w0 (λv w'=>∃ (oa1m:Option Addr) (cap1m:Nat) (vs1m:List Value),v=.tuple #[]∧(∀ h,Rows h vs1m r)∧Mut w0 (sepA [bk b7 [SL oa8 p6 cap9] 42,sla 3 1 oa8 p6.length cap9 vs10]) (sepA [bk b7 [SL oa1m r cap1m] 42,sla 3 1 oa1m r.length cap1m vs1m]) w'):=by
 intro N
 induction N with
  | zero=>intros;rename_i hm;simp [Za] at hm
  | succ N ih=>
 intro w0 H hH P0 K0 p1 V1 X1 b7 p6 oa8 cap9 vs10 B3 y14 b13 n0 J0 T0 hO hD r hm
 rw [Za] at hm
 refine fn0 func72 rfl ntmps72 rfl rfl λa o=>?_
 have u:=Cn hH hO hD
 refine th<|rg<|qa o rfl λo=>re<|?_
 replace u:=u.pk [1,0] rfl
 refine tn<|wb<|lp (α:=Nat×(List Int)×Int) (λgh a w=>match gh with | (Q0,E0,G0)=>∃ (F0:Option Addr) (D0:Nat) (I0:List Value),(Ze (Za N) N p1 y14) Q0 E0 G0=some r∧Fr 92 [(0,SL P0 p1 K0),(1,PT b7),(2,PT b13),(3,PT J0),(5,i6 G0)] a∧St w0 (sepA [bk b7 [SL oa8 p6 cap9] 42,sla 3 1 oa8 p6.length cap9 vs10]).fp [H] [sla 3 1 F0 E0.length D0 I0,bk b7 [SL F0 E0 D0] 42] w∧Rows H I0 E0) (λgh=>gh.1) (N,p6,0) ⟨oa8,cap9,vs10,hm,o.hs,u,B3⟩ ?_
 rintro ⟨Q0,E0,G0⟩ a w ⟨F0,D0,I0,hm,o,u,U0⟩
 obtain _ | Q0:=Q0
 simp [Ze] at hm
 rw [Ze] at hm
 refine th<|th<|rg<|qm o rfl λo=>qm o rfl λo=>qv o (Ak (α:=api_Stmt) (xs:=p1) o runUnderlying46 rfl) λo=>qv o (Ap o rfl rfl) λo=>qm o rfl λo=>gr (Fk:=[(0,SL P0 p1 K0),(1,PT b7),(2,PT b13),(3,PT J0),(5,i6 G0),(20,.bool ((decide (G0 < (p1.length:Int))) && (decide ((E0.length:Int) < y14))))]) 15 5 o u ?_ ?_ ?_
 intro hb o key
 exact qg o (Ag o isAgg42 rfl (u.ld.cellB t1 rfl)) λo=>qg o (Ak (α:=Int) (xs:=E0) o runUnderlying42 rfl) λo=>qg o (Ag o isAgg3 rfl (PH.le.cell (Lds.le u.ld) (Dr n0 rfl))) λo=>qg o (Ap o rfl rfl) λo=>qk o (Ad o rfl rfl) key u hb
 intro hb o key
 iterate 4 refine qn o λo=>?_
 exact qk o (Ae o rfl rfl) key u hb
 intro a w o u
 refine re<|?_
 rcases bit hm with ⟨G1,hm⟩ | ⟨G1,hm⟩
 refine tn<|ctv o rfl G1<|wk<|tn<|wb<|th<|?_
 obtain ⟨C0,G2,hm⟩:=bs hm
 obtain ⟨J4,Q3,C3⟩:=SR.get X1 G2
 obtain ⟨I2,Y1,J2,B2,rfl,E4,F4,G4,I4⟩:=Bg Q3
 refine rg<|qm o rfl λo=>qm o rfl λo=>qv o (Ao o runUnderlying46 sizeOf51 rfl rfl G2 (SR.oaI X1 (by decide) G2)) λo=>qv o (Ax o isAgg51 sizeOf51 rfl rfl (λj v hj=>PH.le.cell (Lds.le u.ld) (C3 j v hj))) λo=>ls<|Av (cs:=[i6 0,Ac [],Ac [],.slice none 0 0,.slice none 0 0,i6 0,i6 0,i6 0,i6 0].toArray) o rfl u zeroValue51 rfl λC2 w a u o=>ls<|Aw o u sizeOf51 rfl rfl rfl rfl (Al rfl) .head λw u=>re<|tn<|th<|rg<|qm o rfl λo=>qv o (Am o rfl rfl) λo=>qv o (Af o Da rfl) λo=>qv o (Ag o isAgg3 rfl (u.ld.cellB t0 rfl)) λo=>qv o (Am o rfl rfl) λo=>qa o rfl λo=>re<|tn<|th<|rg<|qm o rfl λo=>qv o (Af o Df rfl) λo=>qv o (Ag o isAgg3 rfl (u.ld.cellB t0 rfl)) λo=>qv o (Am o rfl rfl) λo=>qa o rfl λo=>re<|tn<|th<|?_
 obtain ⟨W0,Y2,hm⟩:=bs hm
 obtain ⟨Y0,R0,e37,e38,u0,B1⟩:=SR.sub (sz:=9) X1 V1 rfl Y2
 obtain ⟨K2,A3,hm⟩:=bs hm
 obtain ⟨M2,E2,e45,e46,O2,P2⟩:=SR.sub (sz:=9) X1 V1 rfl A3
 refine rxS 11 u wide (by kernel_rfl) λw u=>?_
 iterate 2 refine xq u.ld o (λw hl=>Ab o rfl) λo=>?_
 refine xr u o (Am o rfl rfl) λo=>xm u o rfl λo=>xr u o (Bz (xs:=p1) (vl:=(IntKind.i64.wrap (G0+1))) (vh:=(IntKind.i64.wrap ((IntKind.i64.wrap (G0+1))+C0.Body))) o runUnderlying46 sizeOf51 rfl V1 rfl rfl Y2 e37 e38) λo=>?_
 iterate 3 refine xq u.ld o (λw hl=>Ab o rfl) λo=>?_
 refine xr u o (Bz (xs:=p1) (vl:=(IntKind.i64.wrap ((IntKind.i64.wrap (G0+1))+C0.Body))) (vh:=(IntKind.i64.wrap ((IntKind.i64.wrap ((IntKind.i64.wrap (G0+1))+C0.Body))+C0.Else))) o runUnderlying46 sizeOf51 rfl V1 rfl rfl A3 e45 e46) λo=>?_
 iterate 2 refine xq u.ld o (λw hl=>Bn o rfl) λo=>?_
 refine xe<|tn<|th<|Au (λa w=>∃ (j0:(List Int)) (C1:Option Addr) (X0:Nat) (E1:List Value),(Zb ((Ze (Za N) N p1 y14) Q0) C0 G0) j0=some r∧Fr 92 [(0,SL P0 p1 K0),(1,PT b7),(2,PT b13),(3,PT J0),(8,i6 (IntKind.i64.wrap ((IntKind.i64.wrap ((IntKind.i64.wrap (G0+1))+C0.Body))+C0.Else)))] a∧St w0 (sepA [bk b7 [SL oa8 p6 cap9] 42,sla 3 1 oa8 p6.length cap9 vs10]).fp [H] [sla 3 1 C1 j0.length X0 E1,bk b7 [SL C1 j0 X0] 42] w∧Rows H E1 j0) ?_ ?_
 refine wb<|th<|Au (λa w=>∃ (Q2:Bool),(Zc (Za N) N (Zb ((Ze (Za N) N p1 y14) Q0) C0 G0) y14 C0 W0 K2 E0) Q2=some r∧Fr 92 [(0,SL P0 p1 K0),(1,PT b7),(2,PT b13),(3,PT J0),(6,PT C2),(8,i6 (IntKind.i64.wrap ((IntKind.i64.wrap ((IntKind.i64.wrap (G0+1))+C0.Body))+C0.Else))),(9,SL Y0 W0 R0),(10,SL M2 K2 E2),(43,.bool Q2)] a∧St w0 (sepA [bk b7 [SL oa8 p6 cap9] 42,sla 3 1 oa8 p6.length cap9 vs10]).fp [H] [sla 3 1 F0 E0.length D0 I0,bk b7 [SL F0 E0 D0] 42,bk C2 [i6 C0.Kind,Ac C0.Reg,Ac C0.Name,SL I2 C0.E Y1,SL J2 C0.F B2,i6 C0.N,i6 C0.Body,i6 C0.Else,i6 C0.At] 51] w) ?_ ?_
 rcases bip hm with ⟨I1,hm⟩ | ⟨I1,hm⟩
 obtain ⟨R3,S3,hm⟩:=bs hm
 obtain ⟨T3,U3,hm⟩:=bs hm
 refine rg<|qv o (Af o Bm rfl) λo=>qv o (Ag o isAgg3 rfl (u.ld.cellB t0 rfl)) λo=>qv o (An o rfl rfl) λo=>qv o (Aq (Ab o rfl) (congrArg Value.bool I1)) λo=>qg o (Ab o rfl) λo=>ls<|gy o rfl rfl<|cr o call70 (Ug _ (Ai _) O2 (St.srH u P2) S3) u λu o=>qg o (Ab o rfl) λo=>ls<|gy o rfl rfl<|cr o call70 (Ug _ (Ai _) u0 (St.srH u B1) U3) u λu o=>qg o (Bb o rfl rfl) λo=>qv o (Ad o rfl rfl) λo=>qa o rfl λo=>re<|tn<|?_
 replace u:=u.pk [1,1,0] rfl
 exact ⟨(decide (T3 < R3)),hm,o.hs,u⟩
 refine rg<|qv o (Af o Bm rfl) λo=>qv o (Ag o isAgg3 rfl (u.ld.cellB t0 rfl)) λo=>qv o (An o rfl rfl) λo=>qv o (Aq (Ab o rfl) (congrArg Value.bool I1)) λo=>?_
 iterate 5 refine qn o λo=>?_
 refine qv o (Ae o rfl rfl) λo=>qa o rfl λo=>re<|tn<|?_
 replace u:=u.pk [1,1,0] rfl
 exact ⟨false,hm,o.hs,u⟩
 rintro a w ⟨Q2,hm,o,u⟩
 unfold Zc at hm
 rcases bit hm with ⟨J1,hm⟩ | ⟨J1,hm⟩
 refine ctv o rfl J1<|?_
 obtain ⟨V3,W3,hm⟩:=bs hm
 refine rg<|qv o (Ag o Tryz.isAgg65 rfl (PH.le.cell (Lds.le u.ld) (Dr T0 rfl))) λo=>qm o rfl λo=>?_
 replace u:=u.pk [1,0,0] rfl
 replace u:=St.sep [bk b7 [SL F0 E0 D0] 42,sla 3 1 F0 E0.length D0 I0] u
 refine ls<|k1 (vs:=[SL M2 K2 E2]) (caps:=[PT b7,PT b13,PT J0]) o rfl rfl call72 (ih (St.le u) (p6:=E0) (b7:=b7) (oa8:=F0) (cap9:=D0) (vs10:=I0) O2 P2 U0 n0 T0 (St.sepOk u) (St.sepDis u) W3) ⟨rfl,trivial⟩ rfl (λv w a hR o=>?_)
 obtain ⟨D3,U2,E3,rfl,M1,hk⟩:=hR
 replace u:=(u.mut hk .head).unsep
 replace M1:=M1 H
 refine re<|bn<|tn<|?_
 replace u:=u.pk [1,0] rfl
 exact ⟨V3,D3,U2,E3,hm,o.hs,u,M1⟩
 refine cfv o rfl J1<|th<|rg<|qv o (Af o Bm rfl) λo=>qv o (Ag o isAgg3 rfl (u.ld.cellB t2 rfl)) λo=>qv o (An o rfl rfl) λo=>qa o rfl λo=>re<|?_
 rcases bip hm with ⟨O1,hm⟩ | ⟨O1,hm⟩
 refine tn<|ctv o rfl O1<|?_
 obtain ⟨X3,Y3,hm⟩:=bs hm
 refine rg<|qv o (Ag o Tryz.isAgg65 rfl (PH.le.cell (Lds.le u.ld) (Dr T0 rfl))) λo=>qm o rfl λo=>?_
 replace u:=u.pk [1,0,0] rfl
 replace u:=St.sep [bk b7 [SL F0 E0 D0] 42,sla 3 1 F0 E0.length D0 I0] u
 refine ls<|k1 (vs:=[SL Y0 W0 R0]) (caps:=[PT b7,PT b13,PT J0]) o rfl rfl call72 (ih (St.le u) (p6:=E0) (b7:=b7) (oa8:=F0) (cap9:=D0) (vs10:=I0) u0 B1 U0 n0 T0 (St.sepOk u) (St.sepDis u) Y3) ⟨rfl,trivial⟩ rfl (λv w a hR o=>?_)
 obtain ⟨F3,V2,G3,rfl,P1,hk⟩:=hR
 replace u:=(u.mut hk .head).unsep
 replace P1:=P1 H
 refine re<|bn<|tn<|?_
 replace u:=u.pk [1,0] rfl
 exact ⟨X3,F3,V2,G3,hm,o.hs,u,P1⟩
 refine tn<|cfv o rfl O1<|th<|Au (λa w=>∃ (R2:Bool),(Zd (Za N) N (Zb ((Ze (Za N) N p1 y14) Q0) C0 G0) y14 C0 W0 E0) R2=some r∧Fr 92 [(0,SL P0 p1 K0),(1,PT b7),(2,PT b13),(3,PT J0),(6,PT C2),(8,i6 (IntKind.i64.wrap ((IntKind.i64.wrap ((IntKind.i64.wrap (G0+1))+C0.Body))+C0.Else))),(9,SL Y0 W0 R0),(64,.bool R2)] a∧St w0 (sepA [bk b7 [SL oa8 p6 cap9] 42,sla 3 1 oa8 p6.length cap9 vs10]).fp [H] [sla 3 1 F0 E0.length D0 I0,bk b7 [SL F0 E0 D0] 42,bk C2 [i6 C0.Kind,Ac C0.Reg,Ac C0.Name,SL I2 C0.E Y1,SL J2 C0.F B2,i6 C0.N,i6 C0.Body,i6 C0.Else,i6 C0.At] 51] w) ?_ ?_
 rcases bip hm with ⟨Q1,hm⟩ | ⟨Q1,hm⟩
 obtain ⟨l3,n3,hm⟩:=bs hm
 refine rg<|qv o (Af o Bm rfl) λo=>qv o (Ag o isAgg3 rfl (u.ld.cellB t2 rfl)) λo=>qv o (An o rfl rfl) λo=>qv o (Aq (Ab o rfl) (congrArg Value.bool Q1)) λo=>qg o (Ab o rfl) λo=>ls<|gy o rfl rfl<|cr o call70 (Ug _ (Ai _) u0 (St.srH u B1) n3) u λu o=>qg o (Bb o rfl rfl) λo=>qv o (Ad o rfl rfl) λo=>qa o rfl λo=>re<|tn<|?_
 exact ⟨(decide (0 < l3)),hm,o.hs,u⟩
 refine rg<|qv o (Af o Bm rfl) λo=>qv o (Ag o isAgg3 rfl (u.ld.cellB t2 rfl)) λo=>qv o (An o rfl rfl) λo=>qv o (Aq (Ab o rfl) (congrArg Value.bool Q1)) λo=>?_
 iterate 3 refine qn o λo=>?_
 refine qv o (Ae o rfl rfl) λo=>qa o rfl λo=>re<|tn<|?_
 exact ⟨false,hm,o.hs,u⟩
 rintro a w ⟨R2,hm,o,u⟩
 unfold Zd at hm
 rcases bit hm with ⟨R1,hm⟩ | ⟨R1,hm⟩
 refine ctv o rfl R1<|th<|rg<|qv o (Af o Em rfl) λo=>qv o (Ag o isAgg3 rfl (u.ld.cellB t2 rfl)) λo=>qm o rfl λo=>re<|?_
 replace u:=u.pk [0,0] rfl
 refine tn<|wb<|lp (α:=Nat×(List Int)×Int) (λgh a w=>match gh with | (F1,S0,F2)=>∃ (O0:Option Addr) (M0:Nat) (V0:List Value),(Zf (Za N) N (Zb ((Ze (Za N) N p1 y14) Q0) C0 G0) y14 C0 W0) F1 S0 F2=some r∧Fr 92 [(0,SL P0 p1 K0),(1,PT b7),(2,PT b13),(3,PT J0),(8,i6 (IntKind.i64.wrap ((IntKind.i64.wrap ((IntKind.i64.wrap (G0+1))+C0.Body))+C0.Else))),(9,SL Y0 W0 R0),(74,i6 C0.N),(75,i6 F2)] a∧St w0 (sepA [bk b7 [SL oa8 p6 cap9] 42,sla 3 1 oa8 p6.length cap9 vs10]).fp [H] [sla 3 1 O0 S0.length M0 V0,bk b7 [SL O0 S0 M0] 42] w∧Rows H V0 S0) (λgh=>gh.1) (N,E0,0) ⟨F0,D0,I0,hm,o.hs,u,U0⟩ ?_
 rintro ⟨F1,S0,F2⟩ a w ⟨O0,M0,V0,hm,o,u,T2⟩
 obtain _ | F1:=F1
 simp [Zf] at hm
 rw [Zf] at hm
 refine th<|rg<|qv o (Ap o rfl rfl) λo=>re<|?_
 rcases bip hm with ⟨S1,hm⟩ | ⟨S1,hm⟩
 refine tn<|th<|ctv o rfl S1<|wk<|tn<|th<|wb<|?_
 obtain ⟨u3,A4,hm⟩:=bs hm
 refine rg<|qv o (Ag o Tryz.isAgg65 rfl (PH.le.cell (Lds.le u.ld) (Dr T0 rfl))) λo=>qm o rfl λo=>?_
 replace u:=u.pk [1,0] rfl
 replace u:=St.sep [bk b7 [SL O0 S0 M0] 42,sla 3 1 O0 S0.length M0 V0] u
 refine ls<|k1 (vs:=[SL Y0 W0 R0]) (caps:=[PT b7,PT b13,PT J0]) o rfl rfl call72 (ih (St.le u) (p6:=S0) (b7:=b7) (oa8:=O0) (cap9:=M0) (vs10:=V0) u0 B1 T2 n0 T0 (St.sepOk u) (St.sepDis u) A4) ⟨rfl,trivial⟩ rfl (λv w a hR o=>?_)
 obtain ⟨I3,W2,J3,rfl,T1,hk⟩:=hR
 replace u:=(u.mut hk .head).unsep
 replace T1:=T1 H
 refine re<|bn<|tn<|rg<|qv o (Am o rfl rfl) λo=>qm o rfl λo=>re<|tn<|?_
 replace u:=u.pk [1,0] rfl
 exact ⟨(F1,u3,(IntKind.i64.wrap (F2+1))),⟨I3,W2,J3,hm,o.hs,u,T1⟩,Nat.lt_succ_self _⟩
 refine tn<|th<|cfv o rfl S1<|we<|tx<|tx<|bx<|bn<|tn<|?_
 exact ⟨S0,O0,M0,V0,hm,o.hs,u,T2⟩
 refine cfv o rfl R1<|th<|?_
 obtain ⟨K4,B4,hm⟩:=bs hm
 refine rg<|qv o (Af o Bm rfl) λo=>qv o (Ag o isAgg3 rfl (u.ld.cellB t2 rfl)) λo=>ls<|cr o call40 (Pw (Ai _) B4) u λu o=>qv o (Bb o rfl rfl) λo=>qa o rfl λo=>re<|?_
 rcases bip hm with ⟨U1,hm⟩ | ⟨U1,hm⟩
 refine tn<|ctv o rfl U1<|?_
 obtain ⟨C4,D4,hm⟩:=bs hm
 refine rg<|qv o (Ag o Tryz.isAgg42 rfl (u.ld.cellB t1 rfl)) λo=>qv o (Af o Bm rfl) λo=>qv o (Ag o isAgg3 rfl (u.ld.cellB t2 rfl)) λo=>ls<|Bi (e:=3) (sz:=1) [i6 C0.Kind] o rfl u rfl rfl rfl (λw=>by kernel_rfl) λL4 w a u o=>?_
 have K3:Rows (α:=Int) H [i6 C0.Kind] ([C0.Kind]:List Int):=(.cons (c:=[i6 C0.Kind]) rfl .nil)
 refine ls<|Cc (α:=Int) (xs:=E0) (ys:=([C0.Kind]:List Int)) o rfl u underlying42 Xq rfl (by decide) rfl rfl rfl t1 U0 (u.rdO t0) K3 D4 λL3 X2 M3 w a O3 hU o=>?_
 replace u:=hU _ (.tail .head)
 replace u:=u.drop .head
 refine ls<|Ay o u sizeOf42 rfl rfl rfl rfl (.tail .head) .zero λw u=>re<|bn<|tn<|?_
 replace u:=u.pk [0,0] rfl
 exact ⟨C4,L3,X2,M3,hm,o.hs,u,O3⟩
 refine tn<|cfv o rfl U1<|wk<|bn<|tn<|?_
 replace u:=u.pk [0,0] rfl
 exact ⟨E0,F0,D0,I0,hm,o.hs,u,U0⟩
 rintro a w ⟨j0,C1,X0,E1,hm,o,u,P3⟩
 unfold Zb at hm
 refine rg<|qm o rfl λo=>qa o rfl λo=>re<|bn<|tn<|?_
 exact ⟨(Q0,j0,(IntKind.i64.wrap ((IntKind.i64.wrap ((IntKind.i64.wrap (G0+1))+C0.Body))+C0.Else))),⟨C1,X0,E1,hm,o.hs,u,P3⟩,Nat.lt_succ_self _⟩
 refine tn<|cfv o rfl G1<|we<|tx<|tx<|bx<|?_
 obtain rfl:=si hm
 exact r0n o results72 ⟨F0,D0,I0,rfl,(λ_=>Rows.ind U0),(u.pickL (.cons (.tail .head) (.cons .head .nil))).endMut⟩
theorem Jbj (hH:H.le w0) (hT:Tab H) {F0:Option Addr} {C0:Nat} {p1:(List api_Stmt)} (K0:p1.length≤C0) (M0:SR H F0 p1) {p6:Int} {r:(List Int)} (hm:Z9 N p1 p6=some r):Tot Tryz.prog 36 #[SL F0 p1 C0,i6 p6] w0 (λv w'=>∃ (O0:Option Addr) (G0:Nat) (P0:List Value),v=SL O0 r G0∧(∀ h,Rows h P0 r)∧Fresh w0 (sla 3 1 O0 r.length G0 P0) w'):=by
 unfold Z9 at hm
 refine fn0 func36 rfl ntmps36 rfl rfl λa o=>?_
 have u:St w0 Nil [H] [] w0:=start1 hH
 refine th<|rg<|ls<|Bt (cs:=[i6 p6].toArray) o rfl u rfl rfl λb7 w a u o=>qa o rfl λo=>re<|tn<|th<|th<|?_
 obtain ⟨X0,h9,hm⟩:=bs hm
 refine rg<|qm o rfl λo=>ls<|cr o call69 (Vy (Ai _) (Tab.mono hT (St.up u)) K0 (St.srH u M0) h9) u λu o=>qv o (Az o rfl) λo=>re<|?_
 rcases bit hm with ⟨D0,hm⟩ | ⟨D0,hm⟩
 refine tn<|cfv o rfl (by rw [D0];rfl)<|wk<|tn<|th<|rg<|ls<|Av (cs:=[.slice none 0 0].toArray) o rfl u Tryz.zeroValue42 rfl λb11 w a u o=>re<|tn<|th<|rg<|ls<|Av (cs:=[.nilFunc].toArray) o rfl u Tryz.zeroValue65 rfl λQ0 w a u o=>re<|tn<|th<|rg<|qv o (Nb (vs:=[PT b11,PT b7,PT Q0]) o ⟨rfl,rfl,rfl,trivial⟩) λo=>ls<|Ay o u sizeOf65 rfl rfl rfl rfl .head .zero λw u=>re<|tn<|th<|?_
 obtain ⟨H15,R0,S0,u⟩:=St.frzB u (.tail (.tail .head))
 obtain ⟨H18,I0,J0,u⟩:=St.frzB u .head
 obtain ⟨Y0,T0,hm⟩:=bs hm
 refine rg<|qv o (Ag o Tryz.isAgg65 rfl (PH.le.cell (Lds.le u.ld) (Dr J0 rfl))) λo=>qm o rfl λo=>?_
 replace u:=u.nilS 3 1
 replace u:=u.pk [1,0] rfl
 replace u:=St.sep [bk b11 [.slice none 0 0] 42,sla 3 1 none 0 0 []] u
 refine ls<|k1 (vs:=[SL F0 p1 C0]) (caps:=[PT b11,PT b7,PT Q0]) o rfl rfl call72 (JcM _ (St.le u) (p6:=[]) (b7:=b11) (oa8:=none) (cap9:=0) (vs10:=[]) K0 (M0.mono (cp I0.sub R0.sub)) .nil (I0.sub _ _ S0) J0 (St.sepOk u) (St.sepDis u) T0) ⟨rfl,trivial⟩ rfl (λv w a hR o=>?_)
 obtain ⟨V0,U0,W0,rfl,E0,hk⟩:=hR
 replace u:=(u.mut hk .head).unsep
 replace E0:=E0 H18
 refine re<|tn<|th<|rg<|qv o (Ag o Tryz.isAgg42 rfl (u.ld.cellB t0 rfl)) λo=>qa o rfl λo=>re<|tn<|wr<|?_
 obtain rfl:=si hm
 exact r1 o results36 rfl ⟨_,_,_,rfl,(λ_=>Rows.ind E0),u.endFresh t1⟩
 refine tn<|ctv o rfl (by rw [D0];rfl)<|th<|rg<|qa o rfl λo=>re<|tn<|wr<|tr<|?_
 replace u:=u.nilS 3 1
 obtain rfl:=si hm
 exact r1 o results36 rfl ⟨_,_,_,rfl,(λ_=>.nil),u.endFresh t0⟩
set_option maxHeartbeats 4000000 in
theorem Jca:∀ (N:Nat) {w0:World} {H:PH} (hH:H.le w0) {K0:Option Addr} {F0:Nat} {p1:(List api_Stmt)} (D0:p1.length≤F0) (E0:SR H K0 p1) {p6:Int} {oa8:Option Addr} {cap9:Nat} {vs10:List Value} {p7:(List Int)} (G0:Rows H vs10 p7) (hO:(sepA [sla 3 1 oa8 p7.length cap9 vs10]).ok (hp w0)) (hD:∀ b,(sepA [sla 3 1 oa8 p7.length cap9 vs10]).fp b→H b=none) {r:(List Int)} (hm:Z80 N p1 p6 p7=some r),Tot Tryz.prog 73 #[SL K0 p1 F0,i6 p6,SL oa8 p7 cap9] w0 (λv w'=>∃ (O2:Option Addr) (M1:Nat) (P2:List Value),v=SL O2 r M1∧(∀ h,Rows h P2 r)∧Mut w0 (sepA [sla 3 1 oa8 p7.length cap9 vs10]) (sepA [sla 3 1 O2 r.length M1 P2]) w'):=by
 intro N
 induction N with
  | zero=>intros;rename_i hm;simp [Z80] at hm
  | succ N ih=>
 intro w0 H hH K0 F0 p1 D0 E0 p6 oa8 cap9 vs10 p7 G0 hO hD r hm
 rw [Z80] at hm
 refine fn0 func73 rfl ntmps73 rfl rfl λa o=>?_
 have u:=Cn hH hO hD
 refine th<|rg<|qa o rfl λo=>re<|tn<|th<|th<|rg<|qm o rfl λo=>qv o (Ak (α:=api_Stmt) (xs:=p1) o runUnderlying46 rfl) λo=>qv o (An o rfl rfl) λo=>qm o rfl λo=>gr (Fk:=[(0,SL K0 p1 F0),(1,i6 p6),(2,SL oa8 p7 cap9),(19,.bool ((decide ((p1.length:Int)=0)) || (decide (p6≤(p7.length:Int)))))]) 14 5 o u ?_ ?_ ?_
 intro hb o key
 iterate 4 refine qn o λo=>?_
 exact qk o (Ad o rfl rfl) key u hb
 intro hb o key
 exact qg o (Ab o rfl) λo=>qg o (Ak (α:=Int) (xs:=p7) o runUnderlying42 rfl) λo=>qg o (Ab o rfl) λo=>qg o (Bl o rfl rfl) λo=>qk o (Ae o rfl rfl) key u hb
 intro a w o u
 refine re<|?_
 rcases bit hm with ⟨X0,hm⟩ | ⟨X0,hm⟩
 refine tn<|ctv o rfl X0<|th<|rg<|qm o rfl λo=>qa o rfl λo=>re<|tn<|wr<|tr<|?_
 obtain rfl:=si hm
 exact r1 o results73 rfl ⟨_,_,_,rfl,(λ_=>Rows.ind G0),(u.pickL (.cons .head .nil)).endMut⟩
 refine tn<|cfv o rfl X0<|wk<|tn<|th<|?_
 obtain ⟨C0,O1,hm⟩:=bs hm
 obtain ⟨B5,X3,X2⟩:=SR.get E0 O1
 obtain ⟨P1,F1,Q1,G1,rfl,R4,S4,T4,U4⟩:=Bg X3
 refine rg<|qm o rfl λo=>qv o (Ao o runUnderlying46 sizeOf51 rfl rfl O1 (SR.oaI E0 (by decide) O1)) λo=>qv o (Ax o isAgg51 sizeOf51 rfl rfl (λj v hj=>PH.le.cell (Lds.le u.ld) (X2 j v hj))) λo=>ls<|Av (cs:=[i6 0,Ac [],Ac [],.slice none 0 0,.slice none 0 0,i6 0,i6 0,i6 0,i6 0].toArray) o rfl u zeroValue51 rfl λI1 w a u o=>ls<|Aw o u sizeOf51 rfl rfl rfl rfl (Al rfl) .head λw u=>re<|tn<|th<|rg<|qv o (Af o Da rfl) λo=>qv o (Ag o isAgg3 rfl (u.ld.cellB t0 rfl)) λo=>qv o (Am o rfl rfl) λo=>qa o rfl λo=>re<|tn<|th<|rg<|qm o rfl λo=>qv o (Af o Df rfl) λo=>qv o (Ag o isAgg3 rfl (u.ld.cellB t0 rfl)) λo=>qv o (Am o rfl rfl) λo=>qa o rfl λo=>re<|tn<|th<|th<|rg<|qv o (Af o Bm rfl) λo=>qv o (Ag o isAgg3 rfl (u.ld.cellB t0 rfl)) λo=>qv o (An o rfl rfl) λo=>re<|tn<|Au (λa w=>∃ (Q0:(List Int)) (R0:Option Addr) (J0:Nat) (S0:List Value),(Z81 (Z80 N) p1 p6 C0) Q0=some r∧Fr 94 [(0,SL K0 p1 F0),(1,i6 p6),(2,SL R0 Q0 J0),(9,i6 (IntKind.i64.wrap ((IntKind.i64.wrap (1+C0.Body))+C0.Else)))] a∧St w0 (sepA [sla 3 1 oa8 p7.length cap9 vs10]).fp [H] [sla 3 1 R0 Q0.length J0 S0] w∧Rows H S0 Q0) ?_ ?_
 rcases bip hm with ⟨Y0,hm⟩ | ⟨Y0,hm⟩
 refine ctv o rfl Y0<|th<|?_
 obtain ⟨C5,Q2,hm⟩:=bs hm
 obtain ⟨V4,G4,e33,e34,Y2,A3⟩:=SR.sub (sz:=9) E0 D0 rfl Q2
 obtain ⟨D5,Y3,hm⟩:=bs hm
 obtain ⟨E5,R2,hm⟩:=bs hm
 obtain ⟨W4,I4,e43,e44,B3,C3⟩:=SR.sub (sz:=9) E0 D0 rfl R2
 obtain ⟨F5,l3,hm⟩:=bs hm
 refine rdS 10 u wide λw u=>dr 0 u o rfl (Ab o rfl) λo=>dr 1 u o rfl (Ab o rfl) λo=>dr 2 u o rfl (Ab o rfl) λo=>dr 3 u o rfl (Bz (xs:=p1) (vl:=(IntKind.i64.wrap (1+C0.Body))) (vh:=(IntKind.i64.wrap ((IntKind.i64.wrap (1+C0.Body))+C0.Else))) o runUnderlying46 sizeOf51 rfl D0 rfl rfl Q2 e33 e34) λo=>dr 5 u o rfl (Ab o rfl) λo=>dr 6 u o rfl (Ab o rfl) λo=>dr 7 u o rfl (Bz (xs:=p1) (vl:=1) (vh:=(IntKind.i64.wrap (1+C0.Body))) o runUnderlying46 sizeOf51 rfl D0 rfl rfl R2 e43 e44) λo=>da1 (i:=4) (by kernel_rfl) ?_
 refine di (i:=4) rfl<|cr o call71 (Mo _ (Ai _) Y2 (St.srH u A3) Y3) u λu o=>⟨λ_=>u.ld,?_⟩
 refine da1 (i:=8) (by kernel_rfl) ?_
 refine di (i:=8) rfl<|cr o call71 (Mo _ (Ai _) B3 (St.srH u C3) l3) u λu o=>⟨λ_=>u.ld,?_⟩
 refine dr 9 u o rfl (Bb o rfl rfl) λo=>de (by kernel_rfl)<|?_
 rcases bip hm with ⟨j0,hm⟩ | ⟨j0,hm⟩
 refine tn<|ctv o rfl j0<|?_
 obtain ⟨G5,T2,hm⟩:=bs hm
 obtain ⟨X4,J4,e54,e55,D3,E3⟩:=SR.sub (sz:=9) E0 D0 rfl T2
 obtain ⟨n3,u3,hm⟩:=bs hm
 refine rg<|qm o rfl λo=>?_
 iterate 2 refine qm o rfl λo=>?_
 refine qv o (Bz (xs:=p1) (vl:=(IntKind.i64.wrap (1+C0.Body))) (vh:=(IntKind.i64.wrap ((IntKind.i64.wrap (1+C0.Body))+C0.Else))) o runUnderlying46 sizeOf51 rfl D0 rfl rfl T2 e54 e55) λo=>?_
 iterate 2 refine qm o rfl λo=>?_
 replace u:=u.pk [1,0] rfl
 replace u:=St.sep [sla 3 1 oa8 p7.length cap9 vs10] u
 refine ls<|c1 o rfl call73 (ih (St.le u) D3 E3 G0 (St.sepOk u) (St.sepDis u) u3) ⟨rfl,rfl,rfl,trivial⟩ (λv w a hR o=>?_)
 obtain ⟨F3,X1,G3,rfl,n0,hk⟩:=hR
 replace u:=(u.mut hk .head).unsep
 replace n0:=n0 H
 refine qa o rfl λo=>re<|tn<|?_
 replace u:=u.pk [0] rfl
 exact ⟨n3,F3,X1,G3,hm,o.hs,u,n0⟩
 refine tn<|cfv o rfl j0<|?_
 obtain ⟨I5,U2,hm⟩:=bs hm
 obtain ⟨Y4,K4,e69,e70,I3,J3⟩:=SR.sub (sz:=9) E0 D0 rfl U2
 obtain ⟨A4,B4,hm⟩:=bs hm
 refine rg<|qm o rfl λo=>qm o rfl λo=>qv o (Bz (xs:=p1) (vl:=1) (vh:=(IntKind.i64.wrap (1+C0.Body))) o runUnderlying46 sizeOf51 rfl D0 rfl rfl U2 e69 e70) λo=>?_
 iterate 2 refine qm o rfl λo=>?_
 replace u:=u.pk [1,0] rfl
 replace u:=St.sep [sla 3 1 oa8 p7.length cap9 vs10] u
 refine ls<|c1 o rfl call73 (ih (St.le u) I3 J3 G0 (St.sepOk u) (St.sepDis u) B4) ⟨rfl,rfl,rfl,trivial⟩ (λv w a hR o=>?_)
 obtain ⟨K3,Y1,L3,rfl,u0,hk⟩:=hR
 replace u:=(u.mut hk .head).unsep
 replace u0:=u0 H
 refine qa o rfl λo=>re<|tn<|?_
 replace u:=u.pk [0] rfl
 exact ⟨A4,K3,Y1,L3,hm,o.hs,u,u0⟩
 refine cfv o rfl Y0<|th<|Au (λa w=>∃ (R1:Bool),(Z82 (Z80 N) N (Z81 (Z80 N) p1 p6 C0) p1 p6 p7 C0) R1=some r∧Fr 94 [(0,SL K0 p1 F0),(1,i6 p6),(2,SL oa8 p7 cap9),(7,PT I1),(8,i6 (IntKind.i64.wrap (1+C0.Body))),(9,i6 (IntKind.i64.wrap ((IntKind.i64.wrap (1+C0.Body))+C0.Else))),(66,.bool R1)] a∧St w0 (sepA [sla 3 1 oa8 p7.length cap9 vs10]).fp [H] [sla 3 1 oa8 p7.length cap9 vs10,bk I1 [i6 C0.Kind,Ac C0.Reg,Ac C0.Name,SL P1 C0.E F1,SL Q1 C0.F G1,i6 C0.N,i6 C0.Body,i6 C0.Else,i6 C0.At] 51] w) ?_ ?_
 rcases bip hm with ⟨B1,hm⟩ | ⟨B1,hm⟩
 obtain ⟨J5,V2,hm⟩:=bs hm
 obtain ⟨d4,L4,e85,e86,M3,O3⟩:=SR.sub (sz:=9) E0 D0 rfl V2
 obtain ⟨C4,D4,hm⟩:=bs hm
 refine rg<|qv o (Af o Bm rfl) λo=>qv o (Ag o isAgg3 rfl (u.ld.cellB t0 rfl)) λo=>qv o (An o rfl rfl) λo=>qv o (Aq (Ab o rfl) (congrArg Value.bool B1)) λo=>?_
 iterate 2 refine qg o (Ab o rfl) λo=>?_
 refine qg o (Bz (xs:=p1) (vl:=1) (vh:=(IntKind.i64.wrap (1+C0.Body))) o runUnderlying46 sizeOf51 rfl D0 rfl rfl V2 e85 e86) λo=>ls<|gy o rfl rfl<|cr o call71 (Mo _ (Ai _) M3 (St.srH u O3) D4) u λu o=>qg o (Bb o rfl rfl) λo=>qv o (Ad o rfl rfl) λo=>re<|tn<|?_
 replace u:=u.pk [1,0] rfl
 exact ⟨(decide (0 < C4)),hm,o.hs,u⟩
 refine rg<|qv o (Af o Bm rfl) λo=>qv o (Ag o isAgg3 rfl (u.ld.cellB t0 rfl)) λo=>qv o (An o rfl rfl) λo=>qv o (Aq (Ab o rfl) (congrArg Value.bool B1)) λo=>?_
 iterate 5 refine qn o λo=>?_
 refine qv o (Ae o rfl rfl) λo=>re<|tn<|?_
 replace u:=u.pk [1,0] rfl
 exact ⟨false,hm,o.hs,u⟩
 rintro a w ⟨R1,hm,o,u⟩
 unfold Z82 at hm
 rcases bit hm with ⟨C1,hm⟩ | ⟨C1,hm⟩
 refine ctv o rfl C1<|th<|rg<|qa o rfl λo=>re<|tn<|wb<|lp (α:=Nat×(List Int)×Int) (λgh a w=>match gh with | (W0,M0,J1)=>∃ (O0:Option Addr) (I0:Nat) (P0:List Value),(Z83 (Z80 N) N (Z81 (Z80 N) p1 p6 C0) p1 p6 C0) W0 M0 J1=some r∧Fr 94 [(0,SL K0 p1 F0),(1,i6 p6),(2,SL O0 M0 I0),(7,PT I1),(8,i6 (IntKind.i64.wrap (1+C0.Body))),(9,i6 (IntKind.i64.wrap ((IntKind.i64.wrap (1+C0.Body))+C0.Else))),(10,i6 J1)] a∧St w0 (sepA [sla 3 1 oa8 p7.length cap9 vs10]).fp [H] [sla 3 1 O0 M0.length I0 P0,bk I1 [i6 C0.Kind,Ac C0.Reg,Ac C0.Name,SL P1 C0.E F1,SL Q1 C0.F G1,i6 C0.N,i6 C0.Body,i6 C0.Else,i6 C0.At] 51] w∧Rows H P0 M0) (λgh=>gh.1) (N,p7,0) ⟨oa8,cap9,vs10,hm,o.hs,u,G0⟩ ?_
 rintro ⟨W0,M0,J1⟩ a w ⟨O0,I0,P0,hm,o,u,S1⟩
 obtain _ | W0:=W0
 simp [Z83] at hm
 rw [Z83] at hm
 refine th<|th<|rg<|qm o rfl λo=>qv o (Af o Em rfl) λo=>qv o (Ag o isAgg3 rfl (u.ld.cellB t1 rfl)) λo=>qv o (Ap o rfl rfl) λo=>re<|?_
 rcases bip hm with ⟨E1,hm⟩ | ⟨E1,hm⟩
 refine tn<|ctv o rfl E1<|wk<|tn<|th<|wb<|?_
 obtain ⟨K5,W2,hm⟩:=bs hm
 obtain ⟨j4,M4,e97,e98,P3,B2⟩:=SR.sub (sz:=9) E0 D0 rfl W2
 obtain ⟨Q3,R3,hm⟩:=bs hm
 refine rg<|qm o rfl λo=>qm o rfl λo=>qv o (Bz (xs:=p1) (vl:=1) (vh:=(IntKind.i64.wrap (1+C0.Body))) o runUnderlying46 sizeOf51 rfl D0 rfl rfl W2 e97 e98) λo=>?_
 iterate 2 refine qm o rfl λo=>?_
 replace u:=u.pk [0,0] rfl
 replace u:=St.sep [sla 3 1 O0 M0.length I0 P0] u
 refine ls<|c1 o rfl call73 (ih (St.le u) P3 B2 S1 (St.sepOk u) (St.sepDis u) R3) ⟨rfl,rfl,rfl,trivial⟩ (λv w a hR o=>?_)
 obtain ⟨C2,T1,E2,rfl,T0,hk⟩:=hR
 replace u:=(u.mut hk .head).unsep
 replace T0:=T0 H
 refine qa o rfl λo=>re<|bn<|tn<|rg<|qm o rfl λo=>qv o (Am o rfl rfl) λo=>qa o rfl λo=>re<|tn<|?_
 exact ⟨(W0,Q3,(IntKind.i64.wrap (J1+1))),⟨C2,T1,E2,hm,o.hs,u,T0⟩,Nat.lt_succ_self _⟩
 refine tn<|cfv o rfl E1<|we<|tx<|tx<|bx<|tn<|?_
 replace u:=u.pk [0] rfl
 exact ⟨M0,O0,I0,P0,hm,o.hs,u,S1⟩
 refine cfv o rfl C1<|th<|?_
 obtain ⟨k4,S3,hm⟩:=bs hm
 refine rg<|qv o (Af o Bm rfl) λo=>qv o (Ag o isAgg3 rfl (u.ld.cellB t1 rfl)) λo=>ls<|cr o call41 (Sm (Ai _) S3) u λu o=>qv o (Bb o rfl rfl) λo=>re<|?_
 rcases bip hm with ⟨U0,hm⟩ | ⟨U0,hm⟩
 refine tn<|ctv o rfl U0<|?_
 obtain ⟨T3,U3,hm⟩:=bs hm
 refine rg<|qm o rfl λo=>qv o (Af o Bm rfl) λo=>qv o (Ag o isAgg3 rfl (u.ld.cellB t1 rfl)) λo=>ls<|Bi (e:=3) (sz:=1) [i6 C0.Kind] o rfl u rfl rfl rfl (λw=>by kernel_rfl) λl4 w a u o=>?_
 have F2:Rows (α:=Int) H [i6 C0.Kind] ([C0.Kind]:List Int):=(.cons (c:=[i6 C0.Kind]) rfl .nil)
 refine ls<|Cc (α:=Int) (xs:=p7) (ys:=([C0.Kind]:List Int)) o rfl u underlying42 Xq rfl (by decide) rfl rfl rfl t1 G0 (u.rdO t0) F2 U3 λG2 U1 I2 w a J2 hU o=>?_
 replace u:=hU _ (.tail .head)
 replace u:=u.drop .head
 refine qa o rfl λo=>re<|tn<|?_
 replace u:=u.pk [0] rfl
 exact ⟨T3,G2,U1,I2,hm,o.hs,u,J2⟩
 refine tn<|cfv o rfl U0<|wk<|tn<|?_
 replace u:=u.pk [0] rfl
 exact ⟨p7,oa8,cap9,vs10,hm,o.hs,u,G0⟩
 rintro a w ⟨Q0,R0,J0,S0,hm,o,u,V3⟩
 unfold Z81 at hm
 refine th<|?_
 obtain ⟨u4,V1,hm⟩:=bs hm
 obtain ⟨O4,E4,e124,e125,K2,M2⟩:=SR.sub (sz:=9) E0 D0 rfl V1
 obtain ⟨A5,W3,hm⟩:=bs hm
 refine rg<|qm o rfl λo=>qm o rfl λo=>qv o (Bz (xs:=p1) (vl:=(IntKind.i64.wrap ((IntKind.i64.wrap (1+C0.Body))+C0.Else))) (vh:=(p1.length:Int)) o runUnderlying46 sizeOf51 rfl D0 rfl rfl V1 e124 e125) λo=>?_
 iterate 2 refine qm o rfl λo=>?_
 replace u:=u.pk [0] rfl
 replace u:=St.sep [sla 3 1 R0 Q0.length J0 S0] u
 refine ls<|c1 o rfl call73 (ih (St.le u) K2 M2 V3 (St.sepOk u) (St.sepDis u) W3) ⟨rfl,rfl,rfl,trivial⟩ (λv w a hR o=>?_)
 obtain ⟨P4,F4,Q4,rfl,V0,hk⟩:=hR
 replace u:=(u.mut hk .head).unsep
 replace V0:=V0 H
 refine qa o rfl λo=>re<|tn<|wr<|?_
 obtain rfl:=si hm
 exact r1 o results73 rfl ⟨_,_,_,rfl,(λ_=>Rows.ind V0),(u.pickL (.cons .head .nil)).endMut⟩
theorem JbU (hH:H.le w0) {G0:Option Addr} {D0:Nat} {p1:(List api_Stmt)} (I0:p1.length≤D0) (J0:SR H G0 p1) {p6:Int} {r:(List Int)} (hm:Z7z N p1 p6=some r):Tot Tryz.prog 37 #[SL G0 p1 D0,i6 p6] w0 (λv w'=>∃ (K0:Option Addr) (E0:Nat) (M0:List Value),v=SL K0 r E0∧(∀ h,Rows h M0 r)∧Fresh w0 (sla 3 1 K0 r.length E0 M0) w'):=by
 unfold Z7z at hm
 refine fn0 func37 rfl ntmps37 rfl rfl λa o=>?_
 have u:St w0 Nil [H] [] w0:=start1 hH
 refine th<|rg<|qa o rfl λo=>re<|tn<|th<|th<|?_
 obtain ⟨T0,h8,hm⟩:=bs hm
 refine rg<|qm o rfl λo=>ls<|cr o call44 (Vv (Ai _) I0 (St.srH u J0) h8) u λu o=>qv o (Az o rfl) λo=>re<|?_
 rcases bit hm with ⟨F0,hm⟩ | ⟨F0,hm⟩
 refine tn<|cfv o rfl (by rw [F0];rfl)<|wk<|tn<|th<|?_
 obtain ⟨U0,P0,hm⟩:=bs hm
 refine rg<|qm o rfl λo=>qm o rfl λo=>ls<|Bi (e:=3) (sz:=1) [] o rfl u rfl rfl rfl (λw=>by kernel_rfl) λb11 w a u o=>?_
 have O0:Rows (α:=Int) H [] []:=.nil
 replace u:=u.pk [0] rfl
 replace u:=St.sep [sla 3 1 (some ⟨b11,0,none⟩) 0 0 []] u
 refine ls<|c1 o rfl call73 (Jca _ (St.le u) I0 J0 O0 (St.sepOk u) (St.sepDis u) P0) ⟨rfl,rfl,rfl,trivial⟩ (λv w a hR o=>?_)
 obtain ⟨R0,Q0,S0,rfl,C0,hk⟩:=hR
 replace u:=(u.mut hk .head).unsep
 replace C0:=C0 H
 refine qa o rfl λo=>re<|tn<|wr<|?_
 obtain rfl:=si hm
 exact r1 o results37 rfl ⟨_,_,_,rfl,(λ_=>Rows.ind C0),u.endFresh t0⟩
 refine tn<|ctv o rfl (by rw [F0];rfl)<|th<|rg<|qa o rfl λo=>re<|tn<|wr<|tr<|?_
 replace u:=u.nilS 3 1
 obtain rfl:=si hm
 exact r1 o results37 rfl ⟨_,_,_,rfl,(λ_=>.nil),u.endFresh t0⟩
theorem Rr (hH:H.le w0) (hT:Tab H) {cs2:List Value} {p1:api_Prog} (g3:Enc.rep H cs2 p1) {p4:Int} {r:Int} (hm:Z1 N p1 p4=some r):Tot Tryz.prog 38 #[.agg cs2.toArray,i6 p4] w0 (λv w'=>v=i6 r∧Keep Nil w0 w'):=by
 unfold Z1 at hm
 refine fn0 func38 rfl ntmps38 rfl rfl λa o=>?_
 have u:St w0 Nil [H] [] w0:=start1 hH
 obtain ⟨R0,M0,S0,E0,O0,F0,J0,C0,K0,D0,P0,G0,rfl,K2,M2,R1,S1,T1,U1,V1,j0,X1,n0,Y1,B2⟩:=Ba g3
 refine th<|rg<|ls<|Bt (cs:=[SL R0 p1.Lines M0,SL S0 p1.Vols E0,SL O0 p1.Locks F0,SL J0 p1.Threads C0,SL K0 p1.Recover D0,SL P0 p1.Claims G0].toArray) o rfl u rfl rfl λI0 w a u o=>qa o rfl λo=>re<|tn<|th<|th<|?_
 obtain ⟨Q1,O2,hm⟩:=bs hm
 refine rg<|qv o (Ax o Tryz.isAgg27 Tryz.sizeOf27 rfl rfl (u.ld.cellsB t0)) λo=>ls<|cr o call16 (JbT (Ai _) (Tab.mono hT (St.up u)) (Enc.mono (St.up u) (show Enc.rep (α:=api_Prog) H [SL R0 p1.Lines M0,SL S0 p1.Vols E0,SL O0 p1.Locks F0,SL J0 p1.Threads C0,SL K0 p1.Recover D0,SL P0 p1.Claims G0] p1 from ⟨_,_,rfl,⟨_,_,rfl,K2,M2⟩,⟨_,_,rfl,⟨_,_,rfl,R1,S1⟩,⟨_,_,rfl,⟨_,_,rfl,T1,U1⟩,⟨_,_,rfl,⟨_,_,rfl,V1,j0⟩,⟨_,_,rfl,⟨_,_,rfl,X1,n0⟩,⟨_,_,rfl,Y1,B2⟩⟩⟩⟩⟩⟩)) O2) u λu o=>qm o rfl λo=>?_
 iterate 2 refine qv o (Db o rfl rfl) λo=>?_
 iterate 2 refine qa o rfl λo=>?_
 refine re<|tn<|th<|rg<|qm o rfl λo=>qv o (Br o rfl rfl) λo=>qm o rfl λo=>gr (Fk:=[(1,i6 p4),(2,PT I0),(22,.bool ((decide (Q1.1≠0)) || (decide (p4 < 0))))]) 19 3 o u ?_ ?_ ?_
 intro hb o key
 iterate 2 refine qn o λo=>?_
 exact qk o (Ad o rfl rfl) key u hb
 intro hb o key
 exact qg o (Ab o rfl) λo=>qg o (Ap o rfl rfl) λo=>qk o (Ae o rfl rfl) key u hb
 intro a w o u
 refine qm o rfl λo=>gr (Fk:=[(1,i6 p4),(2,PT I0),(26,.bool (((decide (Q1.1≠0)) || (decide (p4 < 0))) || (decide (8 < p4))))]) 23 3 o u ?_ ?_ ?_
 intro hb o key
 iterate 2 refine qn o λo=>?_
 exact qk o (Ad o rfl rfl) key u hb
 intro hb o key
 exact qg o (Ab o rfl) λo=>qg o (Bb o rfl rfl) λo=>qk o (Ae o rfl rfl) key u hb
 intro a w o u
 refine re<|?_
 rcases bit hm with ⟨u0,hm⟩ | ⟨u0,hm⟩
 refine tn<|ctv o rfl u0<|th<|rg<|qa o rfl λo=>re<|tn<|wr<|tr<|?_
 obtain rfl:=si hm
 exact r1 o results38 rfl ⟨rfl,u.keep⟩
 refine tn<|cfv o rfl u0<|wk<|tn<|th<|rg<|qa o rfl λo=>re<|tn<|th<|th<|rg<|qv o (Af o Cf rfl) λo=>qv o (Ag o isAgg24 rfl (u.ld.cellB t0 rfl)) λo=>qv o (Ak (α:=api_Thread) (xs:=p1.Threads) o runUnderlying24 rfl) λo=>qm o rfl λo=>re<|tn<|Au (λa w=>∃ (F1:Int),(Z2 N p1 p4) F1=some r∧Fr 60 [(1,i6 p4),(2,PT I0),(7,i6 F1)] a∧St w0 Nil [H] [bk I0 [SL R0 p1.Lines M0,SL S0 p1.Vols E0,SL O0 p1.Locks F0,SL J0 p1.Threads C0,SL K0 p1.Recover D0,SL P0 p1.Claims G0] 27] w) ?_ ?_
 refine wb<|lp (α:=Nat×Int×Int) (λgh a w=>match gh with | (U0,V0,G1)=>(Z5 N (Z2 N p1 p4) p1) U0 V0 G1=some r∧Fr 60 [(1,i6 p4),(2,PT I0),(7,i6 V0),(28,SL J0 p1.Threads C0),(29,i6 (p1.Threads.length:Int)),(30,i6 G1)] a∧St w0 Nil [H] [bk I0 [SL R0 p1.Lines M0,SL S0 p1.Vols E0,SL O0 p1.Locks F0,SL J0 p1.Threads C0,SL K0 p1.Recover D0,SL P0 p1.Claims G0] 27] w) (λgh=>gh.1) (N,1,0) ⟨hm,o.hs,u⟩ ?_
 rintro ⟨U0,V0,G1⟩ a w ⟨hm,o,u⟩
 obtain _ | U0:=U0
 simp [Z5] at hm
 rw [Z5] at hm
 refine th<|rg<|qv o (Ap o rfl rfl) λo=>re<|?_
 rcases bip hm with ⟨B1,hm⟩ | ⟨B1,hm⟩
 refine tn<|th<|ctv o rfl B1<|wk<|tn<|th<|wb<|th<|?_
 obtain ⟨K3,M1,hm⟩:=bs hm
 obtain ⟨L3,P2,C2⟩:=SR.get j0 M1
 obtain ⟨B3,W2,C3,X2,rfl,D3,E3,E2,F2⟩:=Ar P2
 refine rg<|qv o (Ao o Tryz.runUnderlying24 Tryz.sizeOf48 rfl rfl M1 (SR.oaI j0 (by decide) M1)) λo=>qv o (Ax o isAgg48 sizeOf48 rfl rfl (λj v hj=>PH.le.cell (Lds.le u.ld) (C2 j v hj))) λo=>ls<|Av (cs:=[Ac [],.slice none 0 0,.slice none 0 0,i6 0].toArray) o rfl u zeroValue48 rfl λM3 w a u o=>ls<|Aw o u sizeOf48 rfl rfl rfl rfl (Al rfl) .head λw u=>re<|tn<|?_
 obtain ⟨Q2,R2,hm⟩:=bs hm
 refine rg<|qm o rfl λo=>qv o (Af o Dy rfl) λo=>qv o (Ag o isAgg46 rfl (u.ld.cellB t0 rfl)) λo=>ls<|cr o call70 (Ug _ (Ai _) E2 (St.srH u F2) R2) u λu o=>qv o (Am o rfl rfl) λo=>qa o rfl λo=>re<|bn<|tn<|rg<|qv o (Am o rfl rfl) λo=>qm o rfl λo=>re<|tn<|?_
 replace u:=u.pk [1] rfl
 exact ⟨(U0,(IntKind.i64.wrap (V0+Q2)),(IntKind.i64.wrap (G1+1))),⟨hm,o.hs,u⟩,Nat.lt_succ_self _⟩
 refine tn<|th<|cfv o rfl B1<|we<|tx<|tx<|bx<|tn<|?_
 exact ⟨V0,hm,o.hs,u⟩
 rintro a w ⟨F1,hm,o,u⟩
 unfold Z2 at hm
 refine th<|th<|rg<|qm o rfl λo=>qm o rfl λo=>re<|tn<|Au (λa w=>∃ (O1:Int),Z3 O1=some r∧Fr 60 [(7,i6 O1)] a∧St w0 Nil [H] [] w) ?_ ?_
 refine wb<|lp (α:=Nat×Int×Int) (λgh a w=>match gh with | (T0,W0,Q0)=>(Z6 N Z3 p1 p4) T0 W0 Q0=some r∧Fr 60 [(2,PT I0),(7,i6 W0),(40,i6 p4),(41,i6 Q0)] a∧St w0 Nil [H] [bk I0 [SL R0 p1.Lines M0,SL S0 p1.Vols E0,SL O0 p1.Locks F0,SL J0 p1.Threads C0,SL K0 p1.Recover D0,SL P0 p1.Claims G0] 27] w) (λgh=>gh.1) (N,F1,0) ⟨hm,o.hs,u⟩ ?_
 rintro ⟨T0,W0,Q0⟩ a w ⟨hm,o,u⟩
 obtain _ | T0:=T0
 simp [Z6] at hm
 rw [Z6] at hm
 refine th<|rg<|qv o (Ap o rfl rfl) λo=>re<|?_
 rcases bip hm with ⟨C1,hm⟩ | ⟨C1,hm⟩
 refine tn<|th<|ctv o rfl C1<|wk<|tn<|th<|Au (λa w=>∃ (I1:Int),(Z4 (Z6 N Z3 p1 p4 T0) Q0) I1=some r∧Fr 60 [(2,PT I0),(7,i6 I1),(40,i6 p4),(41,i6 Q0)] a∧St w0 Nil [H] [bk I0 [SL R0 p1.Lines M0,SL S0 p1.Vols E0,SL O0 p1.Locks F0,SL J0 p1.Threads C0,SL K0 p1.Recover D0,SL P0 p1.Claims G0] 27] w) ?_ ?_
 refine wb<|th<|rg<|qm o rfl λo=>qv o (Am o rfl rfl) λo=>qa o rfl λo=>re<|tn<|th<|rg<|qv o (Af o Eo rfl) λo=>qv o (Ag o isAgg24 rfl (u.ld.cellB t0 rfl)) λo=>qv o (Ak (α:=api_Thread) (xs:=p1.Recover) o runUnderlying24 rfl) λo=>qm o rfl λo=>re<|tn<|wb<|lp (α:=Nat×Int×Int) (λgh a w=>match gh with | (X0,Y0,J1)=>(Z7 N (Z4 (Z6 N Z3 p1 p4 T0) Q0) p1) X0 Y0 J1=some r∧Fr 60 [(2,PT I0),(7,i6 Y0),(40,i6 p4),(41,i6 Q0),(46,SL K0 p1.Recover D0),(47,i6 (p1.Recover.length:Int)),(48,i6 J1)] a∧St w0 Nil [H] [bk I0 [SL R0 p1.Lines M0,SL S0 p1.Vols E0,SL O0 p1.Locks F0,SL J0 p1.Threads C0,SL K0 p1.Recover D0,SL P0 p1.Claims G0] 27] w) (λgh=>gh.1) (N,(IntKind.i64.wrap (W0+1)),0) ⟨hm,o.hs,u⟩ ?_
 rintro ⟨X0,Y0,J1⟩ a w ⟨hm,o,u⟩
 obtain _ | X0:=X0
 simp [Z7] at hm
 rw [Z7] at hm
 refine th<|rg<|qv o (Ap o rfl rfl) λo=>re<|?_
 rcases bip hm with ⟨E1,hm⟩ | ⟨E1,hm⟩
 refine tn<|th<|ctv o rfl E1<|wk<|tn<|th<|wb<|th<|?_
 obtain ⟨O3,P1,hm⟩:=bs hm
 obtain ⟨P3,T2,G2⟩:=SR.get n0 P1
 obtain ⟨F3,Y2,G3,A3,rfl,I3,J3,I2,J2⟩:=Ar T2
 refine rg<|qv o (Ao o Tryz.runUnderlying24 Tryz.sizeOf48 rfl rfl P1 (SR.oaI n0 (by decide) P1)) λo=>qv o (Ax o isAgg48 sizeOf48 rfl rfl (λj v hj=>PH.le.cell (Lds.le u.ld) (G2 j v hj))) λo=>ls<|Av (cs:=[Ac [],.slice none 0 0,.slice none 0 0,i6 0].toArray) o rfl u zeroValue48 rfl λQ3 w a u o=>ls<|Aw o u sizeOf48 rfl rfl rfl rfl (Al rfl) .head λw u=>re<|tn<|?_
 obtain ⟨U2,V2,hm⟩:=bs hm
 refine rg<|qm o rfl λo=>qv o (Af o Dy rfl) λo=>qv o (Ag o isAgg46 rfl (u.ld.cellB t0 rfl)) λo=>ls<|cr o call70 (Ug _ (Ai _) I2 (St.srH u J2) V2) u λu o=>qv o (Am o rfl rfl) λo=>qa o rfl λo=>re<|bn<|tn<|rg<|qv o (Am o rfl rfl) λo=>qm o rfl λo=>re<|tn<|?_
 replace u:=u.pk [1] rfl
 exact ⟨(X0,(IntKind.i64.wrap (Y0+U2)),(IntKind.i64.wrap (J1+1))),⟨hm,o.hs,u⟩,Nat.lt_succ_self _⟩
 refine tn<|th<|cfv o rfl E1<|we<|tx<|tx<|bx<|bn<|tn<|?_
 exact ⟨Y0,hm,o.hs,u⟩
 rintro a w ⟨I1,hm,o,u⟩
 unfold Z4 at hm
 refine rg<|qv o (Am o rfl rfl) λo=>qm o rfl λo=>re<|tn<|?_
 exact ⟨(T0,I1,(IntKind.i64.wrap (Q0+1))),⟨hm,o.hs,u⟩,Nat.lt_succ_self _⟩
 refine tn<|th<|cfv o rfl C1<|we<|tx<|tx<|bx<|tn<|?_
 replace u:=u.pickL .nil
 exact ⟨W0,hm,o.has ⟨rfl,trivial⟩,u⟩
 rintro a w ⟨O1,hm,o,u⟩
 unfold Z3 at hm
 refine th<|rg<|qm o rfl λo=>qa o rfl λo=>re<|tn<|wr<|?_
 obtain rfl:=si hm
 exact r1 o results38 rfl ⟨rfl,u.keep⟩
theorem Wy (hH:H.le w0) {cs2:List Value} {p1:api_Prog} (g3:Enc.rep H cs2 p1) {p4:Int} {r:Int} (hm:Z7r N p1 p4=some r):Tot Tryz.prog 39 #[.agg cs2.toArray,i6 p4] w0 (λv w'=>v=i6 r∧Keep Nil w0 w'):=by
 unfold Z7r at hm
 refine fn0 func39 rfl ntmps39 rfl rfl λa o=>?_
 have u:St w0 Nil [H] [] w0:=start1 hH
 obtain ⟨Y0,J0,j0,C0,K0,D0,M0,E0,O0,F0,P0,G0,rfl,Y1,B2,F1,G1,I1,J1,M1,T0,O1,U0,P1,Q1⟩:=Ba g3
 refine th<|rg<|ls<|Bt (cs:=[SL Y0 p1.Lines J0,SL j0 p1.Vols C0,SL K0 p1.Locks D0,SL M0 p1.Threads E0,SL O0 p1.Recover F0,SL P0 p1.Claims G0].toArray) o rfl u rfl rfl λI0 w a u o=>qa o rfl λo=>re<|tn<|th<|?_
 obtain ⟨E1,C2,hm⟩:=bs hm
 refine rg<|qv o (Ax o Tryz.isAgg27 Tryz.sizeOf27 rfl rfl (u.ld.cellsB t0)) λo=>ls<|cr o call17 (Jbp (Ai _) (Enc.mono (St.up u) (show Enc.rep (α:=api_Prog) H [SL Y0 p1.Lines J0,SL j0 p1.Vols C0,SL K0 p1.Locks D0,SL M0 p1.Threads E0,SL O0 p1.Recover F0,SL P0 p1.Claims G0] p1 from ⟨_,_,rfl,⟨_,_,rfl,Y1,B2⟩,⟨_,_,rfl,⟨_,_,rfl,F1,G1⟩,⟨_,_,rfl,⟨_,_,rfl,I1,J1⟩,⟨_,_,rfl,⟨_,_,rfl,M1,T0⟩,⟨_,_,rfl,⟨_,_,rfl,O1,U0⟩,⟨_,_,rfl,P1,Q1⟩⟩⟩⟩⟩⟩)) C2) u λu o=>qm o rfl λo=>?_
 iterate 2 refine qv o (Db o rfl rfl) λo=>?_
 iterate 2 refine qa o rfl λo=>?_
 refine re<|tn<|th<|th<|rg<|qm o rfl λo=>qv o (Br o rfl rfl) λo=>qm o rfl λo=>gr (Fk:=[(1,i6 p4),(2,PT I0),(20,.bool ((decide (E1.1≠0)) || (decide (p4 < 0))))]) 17 3 o u ?_ ?_ ?_
 intro hb o key
 iterate 2 refine qn o λo=>?_
 exact qk o (Ad o rfl rfl) key u hb
 intro hb o key
 exact qg o (Ab o rfl) λo=>qg o (Ap o rfl rfl) λo=>qk o (Ae o rfl rfl) key u hb
 intro a w o u
 refine qm o rfl λo=>gr (Fk:=[(1,i6 p4),(2,PT I0),(24,.bool (((decide (E1.1≠0)) || (decide (p4 < 0))) || (decide (8 < p4))))]) 21 3 o u ?_ ?_ ?_
 intro hb o key
 iterate 2 refine qn o λo=>?_
 exact qk o (Ad o rfl rfl) key u hb
 intro hb o key
 exact qg o (Ab o rfl) λo=>qg o (Bb o rfl rfl) λo=>qk o (Ae o rfl rfl) key u hb
 intro a w o u
 refine re<|?_
 rcases bit hm with ⟨V0,hm⟩ | ⟨V0,hm⟩
 refine tn<|ctv o rfl V0<|th<|rg<|qa o rfl λo=>re<|tn<|wr<|tr<|?_
 obtain rfl:=si hm
 exact r1 o results39 rfl ⟨rfl,u.keep⟩
 refine tn<|cfv o rfl V0<|wk<|tn<|th<|rg<|qa o rfl λo=>re<|tn<|th<|th<|rg<|qa o rfl λo=>re<|tn<|Au (λa w=>∃ (Q0:Int),(Z7s N p1 p4) Q0=some r∧Fr 57 [(1,i6 p4),(2,PT I0),(7,i6 Q0)] a∧St w0 Nil [H] [bk I0 [SL Y0 p1.Lines J0,SL j0 p1.Vols C0,SL K0 p1.Locks D0,SL M0 p1.Threads E0,SL O0 p1.Recover F0,SL P0 p1.Claims G0] 27] w) ?_ ?_
 refine wb<|lp (α:=Nat×Int×Int) (λgh a w=>match gh with | (R0,S0,n0)=>(Z7u N (Z7s N p1 p4) p1) R0 S0 n0=some r∧Fr 57 [(1,i6 p4),(2,PT I0),(7,i6 S0),(8,i6 n0)] a∧St w0 Nil [H] [bk I0 [SL Y0 p1.Lines J0,SL j0 p1.Vols C0,SL K0 p1.Locks D0,SL M0 p1.Threads E0,SL O0 p1.Recover F0,SL P0 p1.Claims G0] 27] w) (λgh=>gh.1) (N,1,0) ⟨hm,o.hs,u⟩ ?_
 rintro ⟨R0,S0,n0⟩ a w ⟨hm,o,u⟩
 obtain _ | R0:=R0
 simp [Z7u] at hm
 rw [Z7u] at hm
 refine th<|th<|rg<|qm o rfl λo=>qv o (Af o Cf rfl) λo=>qv o (Ag o isAgg24 rfl (u.ld.cellB t0 rfl)) λo=>qv o (Ak (α:=api_Thread) (xs:=p1.Threads) o runUnderlying24 rfl) λo=>qv o (Ap o rfl rfl) λo=>re<|?_
 rcases bip hm with ⟨W0,hm⟩ | ⟨W0,hm⟩
 refine tn<|ctv o rfl W0<|wk<|tn<|th<|wb<|?_
 obtain ⟨B3,u0,hm⟩:=bs hm
 obtain ⟨C3,E2,R1⟩:=SR.get T0 u0
 obtain ⟨R2,M2,T2,O2,rfl,U2,V2,S1,T1⟩:=Ar E2
 obtain ⟨F2,G2,hm⟩:=bs hm
 refine rg<|qm o rfl λo=>qv o (Af o Cf rfl) λo=>qv o (Ag o isAgg24 rfl (u.ld.cellB t0 rfl)) λo=>qm o rfl λo=>qv o (Ao o runUnderlying24 sizeOf48 rfl rfl u0 (SR.oaI T0 (by decide) u0)) λo=>qv o (Af o Dy rfl) λo=>qv o (Ag o isAgg46 rfl (PH.le.cell (Lds.le u.ld) (R1 2 _ rfl))) λo=>ls<|cr o call71 (Mo _ (Ai _) S1 (St.srH u T1) G2) u λu o=>qv o (Am o rfl rfl) λo=>qa o rfl λo=>re<|bn<|tn<|rg<|qm o rfl λo=>qv o (Am o rfl rfl) λo=>qa o rfl λo=>re<|tn<|?_
 exact ⟨(R0,(IntKind.i64.wrap (S0+F2)),(IntKind.i64.wrap (n0+1))),⟨hm,o.hs,u⟩,Nat.lt_succ_self _⟩
 refine tn<|cfv o rfl W0<|we<|tx<|tx<|bx<|tn<|?_
 exact ⟨S0,hm,o.hs,u⟩
 rintro a w ⟨Q0,hm,o,u⟩
 unfold Z7s at hm
 refine th<|rg<|qa o rfl λo=>re<|tn<|th<|th<|rg<|qv o (Af o Eo rfl) λo=>qv o (Ag o isAgg24 rfl (u.ld.cellB t0 rfl)) λo=>qv o (Ak (α:=api_Thread) (xs:=p1.Recover) o runUnderlying24 rfl) λo=>qv o (Bb o rfl rfl) λo=>re<|tn<|Au (λa w=>∃ (B1:Int),(Z7t p4 Q0) B1=some r∧Fr 57 [(1,i6 p4),(7,i6 Q0),(9,i6 B1)] a∧St w0 Nil [H] [] w) ?_ ?_
 rcases bip hm with ⟨X0,hm⟩ | ⟨X0,hm⟩
 refine ctv o rfl X0<|?_
 obtain ⟨D3,C1,hm⟩:=bs hm
 obtain ⟨E3,I2,U1⟩:=SR.get U0 C1
 obtain ⟨W2,P2,X2,Q2,rfl,Y2,A3,V1,X1⟩:=Ar I2
 obtain ⟨J2,K2,hm⟩:=bs hm
 refine rg<|qv o (Af o Eo rfl) λo=>qv o (Ag o isAgg24 rfl (u.ld.cellB t0 rfl)) λo=>qv o (Ao o runUnderlying24 sizeOf48 rfl rfl C1 (SR.oaI U0 (by decide) C1)) λo=>qv o (Af o Dy rfl) λo=>qv o (Ag o isAgg46 rfl (PH.le.cell (Lds.le u.ld) (U1 2 _ rfl))) λo=>ls<|cr o call71 (Mo _ (Ai _) V1 (St.srH u X1) K2) u λu o=>qv o (Am o rfl rfl) λo=>qa o rfl λo=>re<|tn<|?_
 replace u:=u.pickL .nil
 exact ⟨(IntKind.i64.wrap (1+J2)),hm,o.hs,u⟩
 refine cfv o rfl X0<|wk<|tn<|?_
 replace u:=u.pickL .nil
 exact ⟨1,hm,o.hs,u⟩
 rintro a w ⟨B1,hm,o,u⟩
 unfold Z7t at hm
 refine th<|rg<|qm o rfl λo=>?_
 iterate 2 refine qm o rfl λo=>?_
 refine qv o (Ni o rfl rfl) λo=>qv o (Am o rfl rfl) λo=>qa o rfl λo=>re<|tn<|wr<|?_
 obtain rfl:=si hm
 exact r1 o results39 rfl ⟨rfl,u.keep⟩
theorem JbP (hH:H.le w0) (hT:Tab H)  {r:Bool} (hm:Z1r N  = some r):Tot Tryz.prog 42 #[] w0 (λv w'=>v=.bool r∧Keep Nil w0 w'):=by
 unfold Z1r at hm
 refine fn0 func42 rfl ntmps42 rfl rfl λa o=>?_
 have u:St w0 Nil [H] [] w0:=start1 hH
 refine th<|rg<|qa o rfl λo=>re<|tn<|th<|?_
 obtain ⟨C0,h2,hm⟩:=bs hm
 refine rg<|ls<|c1 o rfl Tryz.call64 (Jc5 (St.le u) h2) ⟨rfl,trivial⟩ (λv w a hR o=>?_)
 obtain ⟨H6,cs7,rfl,g8,D0,V2,hk⟩:=hR
 obtain ⟨u,D0⟩:=And.intro (St.passH u hk D0 V2) (St.extc u D0)
 obtain ⟨C2,I0,R0,J0,S0,K0,T0,M0,U0,O0,V0,P0,rfl,W0,X0,Y0,j0,n0,u0,B1,F0,C1,E1,F1,G1⟩:=Ba g8
 refine qm o rfl λo=>?_
 iterate 3 refine qv o (Db o rfl rfl) λo=>?_
 refine ls<|Av (cs:=[.slice none 0 0,.slice none 0 0,.slice none 0 0,.slice none 0 0,.slice none 0 0,.slice none 0 0].toArray) o rfl u zeroValue27 rfl λB4 w a u o=>ls<|Aw o u sizeOf27 rfl rfl rfl rfl (Al rfl) .head λw u=>?_
 iterate 2 refine qa o rfl λo=>?_
 refine re<|tn<|th<|th<|rg<|qv o (Af o Cf rfl) λo=>qv o (Ag o isAgg24 rfl (u.ld.cellB t0 rfl)) λo=>qv o (Ak (α:=api_Thread) (xs:=C0.1.Threads) o runUnderlying24 rfl) λo=>qv o (Br o rfl rfl) λo=>re<|?_
 obtain ⟨_,I1,hm⟩:=bs hm
 replace I1:=bnt (Ca I1)
 refine tn<|cfv o rfl I1<|wk<|tn<|th<|?_
 obtain ⟨J2,E2,hm⟩:=bs hm
 obtain ⟨C4,W2,M2⟩:=SR.get F0 E2
 obtain ⟨V3,O3,W3,P3,rfl,X3,Y3,E0,G0⟩:=Ar W2
 refine rg<|qv o (Af o Cf rfl) λo=>qv o (Ag o isAgg24 rfl (u.ld.cellB t0 rfl)) λo=>qv o (Ao o runUnderlying24 sizeOf48 rfl rfl E2 (SR.oaI F0 (by decide) E2)) λo=>qv o (Af o Dy rfl) λo=>qv o (Ag o isAgg46 rfl (PH.le.cell (Lds.le u.ld) (M2 2 _ rfl))) λo=>qa o rfl λo=>re<|tn<|th<|?_
 obtain ⟨D4,X2,hm⟩:=bs hm
 refine rg<|qm o rfl λo=>ls<|c1 o rfl call36 (Jbj (Ai _) (Tab.mono (Tab.mono hT D0.sub) (St.up u)) E0 (St.srH u G0) X2) ⟨rfl,rfl,trivial⟩ (λv w a hR o=>?_)
 obtain ⟨l3,Q3,n3,rfl,J1,hk⟩:=hR
 replace u:=u.fresh hk
 replace J1:=J1 H6
 refine qa o rfl λo=>re<|tn<|th<|?_
 obtain ⟨E4,Y2,hm⟩:=bs hm
 obtain ⟨_,M1,hm⟩:=bs hm
 replace M1:=Ca M1
 obtain ⟨F4,A3,hm⟩:=bs hm
 obtain ⟨_,O1,hm⟩:=bs hm
 replace O1:=Ca O1
 obtain ⟨G4,B3,hm⟩:=bs hm
 obtain ⟨_,P1,hm⟩:=bs hm
 replace P1:=Ca P1
 obtain ⟨I4,C3,hm⟩:=bs hm
 obtain ⟨_,Q1,hm⟩:=bs hm
 replace Q1:=Ca Q1
 obtain ⟨J4,D3,hm⟩:=bs hm
 obtain ⟨_,R1,hm⟩:=bs hm
 replace R1:=Ca R1
 obtain ⟨K4,E3,hm⟩:=bs hm
 obtain ⟨_,S1,hm⟩:=bs hm
 replace S1:=Ca S1
 obtain ⟨L4,F3,hm⟩:=bs hm
 obtain ⟨_,T1,hm⟩:=bs hm
 replace T1:=Ca T1
 obtain ⟨M4,G3,hm⟩:=bs hm
 obtain ⟨_,U1,hm⟩:=bs hm
 replace U1:=Ca U1
 obtain ⟨O4,I3,hm⟩:=bs hm
 obtain ⟨_,V1,hm⟩:=bs hm
 replace V1:=Ca V1
 obtain ⟨P4,J3,hm⟩:=bs hm
 obtain ⟨_,X1,hm⟩:=bs hm
 replace X1:=Ca X1
 obtain ⟨Q4,K2,hm⟩:=bs hm
 obtain ⟨u3,R3,e92,e93,O2,P2⟩:=SR.sub (sz:=9) G0 E0 rfl K2
 obtain ⟨R4,K3,hm⟩:=bs hm
 obtain ⟨_,Y1,hm⟩:=bs hm
 replace Y1:=Ca Y1
 obtain ⟨S4,F2,hm⟩:=bs hm
 obtain ⟨S3,L3,e103,e104,G2,I2⟩:=SR.sub (sz:=9) G0 E0 rfl F2
 obtain ⟨A4,Q2,hm⟩:=bs hm
 obtain ⟨_,Q0,hm⟩:=bs hm
 replace Q0:=Ca Q0
 obtain ⟨R2,T2,hm⟩:=bs hm
 refine rg<|qm o rfl λo=>ls<|cr o call34 (Vq (Ai _) (Tab.mono (Tab.mono hT D0.sub) (St.up u)) E0 (St.srH u G0) Y2) u λu o=>qv o (An o rfl rfl) λo=>qv o (Aq (Ab o rfl) (congrArg Value.bool M1)) λo=>qg o (Ax o isAgg27 sizeOf27 rfl rfl (u.ld.cellsB t1)) λo=>ls<|gy o rfl rfl<|cr o call38 (Rr (Ai _) (Tab.mono (Tab.mono hT D0.sub) (St.up u)) (Enc.mono (St.up u) (show Enc.rep (α:=api_Prog) H6 [SL C2 C0.1.Lines I0,SL R0 C0.1.Vols J0,SL S0 C0.1.Locks K0,SL T0 C0.1.Threads M0,SL U0 C0.1.Recover O0,SL V0 C0.1.Claims P0] C0.1 from ⟨_,_,rfl,⟨_,_,rfl,W0,X0⟩,⟨_,_,rfl,⟨_,_,rfl,Y0,j0⟩,⟨_,_,rfl,⟨_,_,rfl,n0,u0⟩,⟨_,_,rfl,⟨_,_,rfl,B1,F0⟩,⟨_,_,rfl,⟨_,_,rfl,C1,E1⟩,⟨_,_,rfl,F1,G1⟩⟩⟩⟩⟩⟩)) A3) u λu o=>qg o (An o rfl rfl) λo=>qv o (Ad o rfl rfl) λo=>qv o (Aq (Ab o rfl) (congrArg Value.bool O1)) λo=>qg o (Ax o isAgg27 sizeOf27 rfl rfl (u.ld.cellsB t1)) λo=>ls<|gy o rfl rfl<|cr o call38 (Rr (Ai _) (Tab.mono (Tab.mono hT D0.sub) (St.up u)) (Enc.mono (St.up u) (show Enc.rep (α:=api_Prog) H6 [SL C2 C0.1.Lines I0,SL R0 C0.1.Vols J0,SL S0 C0.1.Locks K0,SL T0 C0.1.Threads M0,SL U0 C0.1.Recover O0,SL V0 C0.1.Claims P0] C0.1 from ⟨_,_,rfl,⟨_,_,rfl,W0,X0⟩,⟨_,_,rfl,⟨_,_,rfl,Y0,j0⟩,⟨_,_,rfl,⟨_,_,rfl,n0,u0⟩,⟨_,_,rfl,⟨_,_,rfl,B1,F0⟩,⟨_,_,rfl,⟨_,_,rfl,C1,E1⟩,⟨_,_,rfl,F1,G1⟩⟩⟩⟩⟩⟩)) B3) u λu o=>qg o (An o rfl rfl) λo=>qv o (Ad o rfl rfl) λo=>qv o (Aq (Ab o rfl) (congrArg Value.bool P1)) λo=>qg o (Ax o isAgg27 sizeOf27 rfl rfl (u.ld.cellsB t1)) λo=>ls<|gy o rfl rfl<|cr o call38 (Rr (Ai _) (Tab.mono (Tab.mono hT D0.sub) (St.up u)) (Enc.mono (St.up u) (show Enc.rep (α:=api_Prog) H6 [SL C2 C0.1.Lines I0,SL R0 C0.1.Vols J0,SL S0 C0.1.Locks K0,SL T0 C0.1.Threads M0,SL U0 C0.1.Recover O0,SL V0 C0.1.Claims P0] C0.1 from ⟨_,_,rfl,⟨_,_,rfl,W0,X0⟩,⟨_,_,rfl,⟨_,_,rfl,Y0,j0⟩,⟨_,_,rfl,⟨_,_,rfl,n0,u0⟩,⟨_,_,rfl,⟨_,_,rfl,B1,F0⟩,⟨_,_,rfl,⟨_,_,rfl,C1,E1⟩,⟨_,_,rfl,F1,G1⟩⟩⟩⟩⟩⟩)) C3) u λu o=>qg o (An o rfl rfl) λo=>qv o (Ad o rfl rfl) λo=>qv o (Aq (Ab o rfl) (congrArg Value.bool Q1)) λo=>qg o (Bq [] [.slice none 0 0,.slice none 0 0,.slice none 0 0,.slice none 0 0,.slice none 0 0,.slice none 0 0] o trivial (λw=>by kernel_rfl)) λo=>ls<|gy o rfl rfl<|cr o call38 (Rr (Ai _) (Tab.mono (Tab.mono hT D0.sub) (St.up u)) (Enc.mono (St.up u) (show Enc.rep (α:=api_Prog) H6 [.slice none 0 0,.slice none 0 0,.slice none 0 0,.slice none 0 0,.slice none 0 0,.slice none 0 0] (api_Prog.mk [] [] [] [] [] []) from ⟨_,_,rfl,⟨none,0,rfl,Nat.le_refl _,SR.nil _ _⟩,⟨_,_,rfl,⟨none,0,rfl,Nat.le_refl _,SR.nil _ _⟩,⟨_,_,rfl,⟨none,0,rfl,Nat.le_refl _,SR.nil _ _⟩,⟨_,_,rfl,⟨none,0,rfl,Nat.le_refl _,SR.nil _ _⟩,⟨_,_,rfl,⟨none,0,rfl,Nat.le_refl _,SR.nil _ _⟩,⟨none,0,rfl,Nat.le_refl _,SR.nil _ _⟩⟩⟩⟩⟩⟩)) D3) u λu o=>qg o (An o rfl rfl) λo=>qv o (Ad o rfl rfl) λo=>qv o (Aq (Ab o rfl) (congrArg Value.bool R1)) λo=>qg o (Ab o rfl) λo=>ls<|gy o rfl rfl<|Bi (e:=3) (sz:=1) [i6 3,i6 3,i6 3,i6 8,i6 5] o rfl u rfl rfl rfl (λw=>by kernel_rfl) λT4 w a u o=>?_
 have U2:Rows (α:=Int) H6 [i6 3,i6 3,i6 3,i6 8,i6 5] ([3,3,3,8,5]:List Int):=(.cons (c:=[i6 3]) rfl (.cons (c:=[i6 3]) rfl (.cons (c:=[i6 3]) rfl (.cons (c:=[i6 8]) rfl (.cons (c:=[i6 5]) rfl .nil)))))
 refine ls<|gy o rfl rfl<|cr o call29 (Ja0 (Ai _) (St.capO u t1) (St.srO u t1 J1) (St.capO u t0) (St.srO u t0 U2) E3) u λu o=>qv o (Ad o rfl rfl) λo=>qv o (Aq (Ab o rfl) (congrArg Value.bool S1)) λo=>ls<|gy o rfl rfl<|cr o call40 (Pw (Ai _) F3) u λu o=>qg o (An o rfl rfl) λo=>qv o (Ad o rfl rfl) λo=>qv o (Aq (Ab o rfl) (congrArg Value.bool T1)) λo=>ls<|gy o rfl rfl<|cr o call40 (Pw (Ai _) G3) u λu o=>qg o (An o rfl rfl) λo=>qv o (Ad o rfl rfl) λo=>qv o (Aq (Ab o rfl) (congrArg Value.bool U1)) λo=>ls<|gy o rfl rfl<|cr o call40 (Pw (Ai _) I3) u λu o=>qg o (An o rfl rfl) λo=>qv o (Ad o rfl rfl) λo=>qv o (Aq (Ab o rfl) (congrArg Value.bool V1)) λo=>ls<|gy o rfl rfl<|cr o call40 (Pw (Ai _) J3) u λu o=>qg o (An o rfl rfl) λo=>qv o (Ad o rfl rfl) λo=>qv o (Aq (Ab o rfl) (congrArg Value.bool X1)) λo=>qg o (Ab o rfl) λo=>qg o (Bz (xs:=J2.Body) (vl:=1) (vh:=2) o runUnderlying46 sizeOf51 rfl E0 rfl rfl K2 e92 e93) λo=>ls<|gy o rfl rfl<|cr o call34 (Vq (Ai _) (Tab.mono (Tab.mono hT D0.sub) (St.up u)) O2 (St.srH u P2) K3) u λu o=>qg o (An o rfl rfl) λo=>qv o (Ad o rfl rfl) λo=>qv o (Aq (Ab o rfl) (congrArg Value.bool Y1)) λo=>qg o (Ab o rfl) λo=>qg o (Bz (xs:=J2.Body) (vl:=2) (vh:=3) o runUnderlying46 sizeOf51 rfl E0 rfl rfl F2 e103 e104) λo=>ls<|gy o rfl rfl<|cr o call34 (Vq (Ai _) (Tab.mono (Tab.mono hT D0.sub) (St.up u)) G2 (St.srH u I2) Q2) u λu o=>qg o (An o rfl rfl) λo=>qv o (Ad o rfl rfl) λo=>qv o (Aq (Ab o rfl) (congrArg Value.bool Q0)) λo=>?_
 refine qg o (Ab o rfl) λo=>ls<|gy o rfl rfl<|c1 o rfl call36 (Jbj (Ai _) (Tab.mono (Tab.mono hT D0.sub) (St.up u)) E0 (St.srH u G0) T2) ⟨rfl,rfl,trivial⟩ (λv w a hR o=>?_)
 obtain ⟨T3,M3,U3,rfl,B2,hk⟩:=hR
 replace u:=u.fresh hk
 replace B2:=B2 H6
 refine qg o (Ak (α:=Int) (xs:=R2) o runUnderlying42 rfl) λo=>qg o (An o rfl rfl) λo=>qv o (Ad o rfl rfl) λo=>qa o rfl λo=>re<|tn<|wr<|?_
 obtain rfl:=si hm
 exact r1 o results42 rfl ⟨rfl,u.keep⟩
set_option maxHeartbeats 4000000 in
theorem Jcv (hH:H.le w0) (hT:Tab H) {cs2:List Value} {p1:api_Prog} (g3:Enc.rep H cs2 p1) {p4:Int} {p5:Int} {p6:Int} {r:Bool} (hm:Z1n N p1 p4 p5 p6=some r):Tot Tryz.prog 9 #[.agg cs2.toArray,i6 p4,.agg #[i6 p5,i6 p6]] w0 (λv w'=>v=.bool r∧Keep Nil w0 w'):=by
 unfold Z1n at hm
 refine fn0 func9 rfl ntmps9 rfl rfl λa o=>?_
 have u:St w0 Nil [H] [] w0:=start1 hH
 obtain ⟨oa7,cap8,I2,B2,J2,C2,K2,E2,M2,F2,O2,G2,rfl,M3,W2,X2,Y2,A3,B3,C3,D3,E3,F3,G3,I3⟩:=Ba g3
 refine th<|rg<|ls<|Bt (cs:=[SL oa7 p1.Lines cap8,SL I2 p1.Vols B2,SL J2 p1.Locks C2,SL K2 p1.Threads E2,SL M2 p1.Recover F2,SL O2 p1.Claims G2].toArray) o rfl u rfl rfl λJ1 w a u o=>ls<|Bt (cs:=[i6 p5,i6 p6].toArray) o rfl u rfl rfl λM1 w a u o=>qa o rfl λo=>re<|tn<|th<|?_
 obtain ⟨C0,O3,hm⟩:=bs hm
 refine rg<|qv o (Ax o Tryz.isAgg27 Tryz.sizeOf27 rfl rfl (u.ld.cellsB t1)) λo=>ls<|c1 o rfl call15 (Jcx (St.le u) (show Enc.rep (α:=api_Prog) H [SL oa7 p1.Lines cap8,SL I2 p1.Vols B2,SL J2 p1.Locks C2,SL K2 p1.Threads E2,SL M2 p1.Recover F2,SL O2 p1.Claims G2] p1 from ⟨_,_,rfl,⟨_,_,rfl,M3,W2⟩,⟨_,_,rfl,⟨_,_,rfl,X2,Y2⟩,⟨_,_,rfl,⟨_,_,rfl,A3,B3⟩,⟨_,_,rfl,⟨_,_,rfl,C3,D3⟩,⟨_,_,rfl,⟨_,_,rfl,E3,F3⟩,⟨_,_,rfl,G3,I3⟩⟩⟩⟩⟩⟩) O3) ⟨rfl,trivial⟩ (λv w a hR o=>?_)
 obtain ⟨H38,cs39,rfl,P3,K0,J3,hk⟩:=hR
 obtain ⟨u,K0⟩:=And.intro (St.passH u hk K0 J3) (St.extc u K0)
 obtain ⟨M0,D0,O0,E0,P0,F0,Q0,G0,R0,I0,S0,J0,rfl,U0,V0,W0,X0,Y0,j0,n0,T0,u0,B1,C1,E1⟩:=Ba P3
 refine ls<|Aw o u sizeOf27 rfl rfl rfl rfl (Al rfl) (.tail .head) λw u=>re<|tn<|th<|th<|rg<|qa o rfl λo=>re<|tn<|Au (λa w=>(Z1o N p4 p6 C0)=some r∧Fr 62 [(1,i6 p4),(3,PT J1),(5,PT M1)] a∧St w0 Nil [H38] [bk J1 [SL M0 C0.Lines D0,SL O0 C0.Vols E0,SL P0 C0.Locks F0,SL Q0 C0.Threads G0,SL R0 C0.Recover I0,SL S0 C0.Claims J0] 27,bk M1 [i6 p5,i6 p6] 54] w) ?_ ?_
 replace u:=u.pk [1,0] rfl
 refine wb<|lp (α:=Nat×Int) (λgh a w=>match gh with | (O1,P1)=>(Z1q N (Z1o N p4 p6 C0) p5 C0) O1 P1=some r∧Fr 62 [(1,i6 p4),(3,PT J1),(5,PT M1),(7,i6 P1)] a∧St w0 Nil [H38] [bk J1 [SL M0 C0.Lines D0,SL O0 C0.Vols E0,SL P0 C0.Locks F0,SL Q0 C0.Threads G0,SL R0 C0.Recover I0,SL S0 C0.Claims J0] 27,bk M1 [i6 p5,i6 p6] 54] w) (λgh=>gh.1) (N,0) ⟨hm,o.hs,u⟩ ?_
 rintro ⟨O1,P1⟩ a w ⟨hm,o,u⟩
 obtain _ | O1:=O1
 simp [Z1q] at hm
 rw [Z1q] at hm
 refine th<|th<|rg<|qm o rfl λo=>qv o (Af o Cf rfl) λo=>qv o (Ag o isAgg24 rfl (u.ld.cellB t0 rfl)) λo=>qv o (Ak (α:=api_Thread) (xs:=C0.Threads) o runUnderlying24 rfl) λo=>qv o (Ap o rfl rfl) λo=>re<|?_
 rcases bip hm with ⟨S1,hm⟩ | ⟨S1,hm⟩
 refine tn<|ctv o rfl S1<|wk<|tn<|th<|wb<|th<|?_
 obtain ⟨L4,P2,hm⟩:=bs hm
 obtain ⟨M4,Q3,K3⟩:=SR.get T0 P2
 obtain ⟨l3,V3,n3,W3,rfl,u3,A4,F1,G1⟩:=Ar Q3
 refine rg<|qv o (Af o Cf rfl) λo=>qv o (Ag o isAgg24 rfl (u.ld.cellB t0 rfl)) λo=>qm o rfl λo=>qv o (Ao o runUnderlying24 sizeOf48 rfl rfl P2 (SR.oaI T0 (by decide) P2)) λo=>qv o (Af o Dy rfl) λo=>qv o (Ag o isAgg46 rfl (PH.le.cell (Lds.le u.ld) (K3 2 _ rfl))) λo=>qa o rfl λo=>re<|tn<|th<|rg<|qv o (Pu (i:=0) o Tryz.runUnderlying54 Tryz.sizeOf3 rfl rfl rfl (by decide)) λo=>qv o (Ag o isAgg3 rfl (u.ld.cellB t1 rfl)) λo=>qv o (Lk o rfl rfl) λo=>qa o rfl λo=>re<|tn<|th<|Au (λa w=>∃ (Q2:Bool),(Z1p (Z1q N (Z1o N p4 p6 C0) p5 C0 O1) P1) Q2=some r∧Fr 62 [(1,i6 p4),(3,PT J1),(5,PT M1),(7,i6 P1),(42,.bool Q2)] a∧St w0 Nil [H38] [bk J1 [SL M0 C0.Lines D0,SL O0 C0.Vols E0,SL P0 C0.Locks F0,SL Q0 C0.Threads G0,SL R0 C0.Recover I0,SL S0 C0.Claims J0] 27,bk M1 [i6 p5,i6 p6] 54] w) ?_ ?_
 obtain ⟨O4,U2,hm⟩:=bs hm
 obtain ⟨P4,V2,hm⟩:=bs hm
 rcases bip hm with ⟨T1,hm⟩ | ⟨T1,hm⟩
 refine rg<|qm o rfl λo=>ls<|cr o call34 (Vq (Ai _) (Tab.mono (Tab.mono hT K0.sub) (St.up u)) F1 (St.srH u G1) U2) u λu o=>qm o rfl λo=>ls<|cr o call35 (Jas (Ai _) F1 (St.srH u G1) V2) u λu o=>qv o (Br o rfl rfl) λo=>qv o (Aq (Ab o rfl) (congrArg Value.bool T1)) λo=>?_
 iterate 8 refine qn o λo=>?_
 refine qv o (Ad o rfl rfl) λo=>re<|tn<|?_
 exact ⟨true,hm,o.hs,u⟩
 obtain ⟨Q4,R3,hm⟩:=bs hm
 obtain ⟨R4,S3,hm⟩:=bs hm
 obtain ⟨T3,U3,hm⟩:=bs hm
 refine rg<|qm o rfl λo=>ls<|cr o call34 (Vq (Ai _) (Tab.mono (Tab.mono hT K0.sub) (St.up u)) F1 (St.srH u G1) U2) u λu o=>qm o rfl λo=>ls<|cr o call35 (Jas (Ai _) F1 (St.srH u G1) V2) u λu o=>qv o (Br o rfl rfl) λo=>qv o (Aq (Ab o rfl) (congrArg Value.bool T1)) λo=>?_
 iterate 2 refine qg o (Ab o rfl) λo=>?_
 refine ls<|gy o rfl rfl<|c1 o rfl call36 (Jbj (Ai _) (Tab.mono (Tab.mono hT K0.sub) (St.up u)) F1 (St.srH u G1) R3) ⟨rfl,rfl,trivial⟩ (λv w a hR o=>?_)
 obtain ⟨B4,X3,C4,rfl,U1,hk⟩:=hR
 replace u:=u.fresh hk
 replace U1:=U1 H38
 iterate 2 refine qg o (Ab o rfl) λo=>?_
 refine ls<|gy o rfl rfl<|c1 o rfl call37 (JbU (Ai _) F1 (St.srH u G1) S3) ⟨rfl,rfl,trivial⟩ (λv w a hR o=>?_)
 obtain ⟨D4,Y3,E4,rfl,V1,hk⟩:=hR
 replace u:=u.fresh hk
 replace V1:=V1 H38
 refine ls<|gy o rfl rfl<|cr o call29 (Ja0 (Ai _) (St.capO u t1) (St.srO u t1 U1) (St.capO u t0) (St.srO u t0 V1) U3) u λu o=>qg o (Az o rfl) λo=>qv o (Ae o rfl rfl) λo=>re<|tn<|?_
 replace u:=u.pk [2,2] rfl
 exact ⟨(!T3),hm,o.hs,u⟩
 rintro a w ⟨Q2,hm,o,u⟩
 unfold Z1p at hm
 obtain ⟨_,Q1,hm⟩:=bs hm
 replace Q1:=bnt (Ca Q1)
 refine cfv o rfl Q1<|wk<|bn<|tn<|rg<|qm o rfl λo=>qv o (Am o rfl rfl) λo=>qa o rfl λo=>re<|tn<|?_
 exact ⟨(O1,(IntKind.i64.wrap (P1+1))),⟨hm,o.hs,u⟩,Nat.lt_succ_self _⟩
 refine tn<|cfv o rfl S1<|we<|tx<|tx<|bx<|tn<|?_
 exact ⟨hm,o.hs,u⟩
 rintro a w ⟨hm,o,u⟩
 unfold Z1o at hm
 refine th<|?_
 obtain ⟨F4,X1,hm⟩:=bs hm
 obtain ⟨G4,Y1,hm⟩:=bs hm
 rcases bip hm with ⟨I1,hm⟩ | ⟨I1,hm⟩
 obtain ⟨I4,R2,hm⟩:=bs hm
 obtain ⟨J4,T2,hm⟩:=bs hm
 rcases bip hm with ⟨R1,hm⟩ | ⟨R1,hm⟩
 obtain ⟨K4,L3,hm⟩:=bs hm
 refine rdS 20 u wide λw u=>dq 0 u.ld o rfl (λw hl=>Ax o isAgg27 sizeOf27 rfl rfl (hl.cellsB t0)) λo=>dr 1 u o rfl (Ab o rfl) λo=>dq 3 u.ld o rfl (λw hl=>Ax o isAgg27 sizeOf27 rfl rfl (hl.cellsB t0)) λo=>dr 4 u o rfl (Ab o rfl) λo=>da1 (i:=2) (by kernel_rfl) ?_
 refine di (i:=2) rfl<|cr o call38 (Rr (Ai _) (Tab.mono (Tab.mono hT K0.sub) (St.up u)) (Enc.mono (St.up u) (show Enc.rep (α:=api_Prog) H38 [SL M0 C0.Lines D0,SL O0 C0.Vols E0,SL P0 C0.Locks F0,SL Q0 C0.Threads G0,SL R0 C0.Recover I0,SL S0 C0.Claims J0] C0 from ⟨_,_,rfl,⟨_,_,rfl,U0,V0⟩,⟨_,_,rfl,⟨_,_,rfl,W0,X0⟩,⟨_,_,rfl,⟨_,_,rfl,Y0,j0⟩,⟨_,_,rfl,⟨_,_,rfl,n0,T0⟩,⟨_,_,rfl,⟨_,_,rfl,u0,B1⟩,⟨_,_,rfl,C1,E1⟩⟩⟩⟩⟩⟩)) X1) u λu o=>⟨λ_=>u.ld,?_⟩
 refine da1 (i:=5) (by kernel_rfl) ?_
 refine di (i:=5) rfl<|cr o call39 (Wy (Ai _) (Enc.mono (St.up u) (show Enc.rep (α:=api_Prog) H38 [SL M0 C0.Lines D0,SL O0 C0.Vols E0,SL P0 C0.Locks F0,SL Q0 C0.Threads G0,SL R0 C0.Recover I0,SL S0 C0.Claims J0] C0 from ⟨_,_,rfl,⟨_,_,rfl,U0,V0⟩,⟨_,_,rfl,⟨_,_,rfl,W0,X0⟩,⟨_,_,rfl,⟨_,_,rfl,Y0,j0⟩,⟨_,_,rfl,⟨_,_,rfl,n0,T0⟩,⟨_,_,rfl,⟨_,_,rfl,u0,B1⟩,⟨_,_,rfl,C1,E1⟩⟩⟩⟩⟩⟩)) Y1) u λu o=>⟨λ_=>u.ld,?_⟩
 refine dr 6 u o rfl (An o rfl rfl) λo=>dr 7 u o rfl (Aq (Ab o rfl) (congrArg Value.bool I1)) λo=>dg 8 u.ld o rfl (λw hl=>Pu (i:=1) o runUnderlying54 sizeOf3 rfl rfl rfl (by decide)) λo=>dg 9 u.ld o rfl (λw hl=>Ag o isAgg3 rfl (hl.cellB t1 rfl)) λo=>dg 11 u.ld o rfl (λw hl=>Pu (i:=1) o runUnderlying54 sizeOf3 rfl rfl rfl (by decide)) λo=>dg 12 u.ld o rfl (λw hl=>Ag o isAgg3 rfl (hl.cellB t1 rfl)) λo=>da1 (i:=10) (by kernel_rfl) ?_
 refine di (i:=10) rfl<|gy o rfl rfl<|cr o call40 (Pw (Ai _) R2) u λu o=>⟨λ_=>u.ld,?_⟩
 refine da1 (i:=13) (by kernel_rfl) ?_
 refine di (i:=13) rfl<|gy o rfl rfl<|cr o call41 (Sm (Ai _) T2) u λu o=>⟨λ_=>u.ld,?_⟩
 refine dg 14 u.ld o rfl (λw hl=>An o rfl rfl) λo=>dr 15 u o rfl (Ad o rfl rfl) λo=>dr 16 u o rfl (Aq (Ab o rfl) (congrArg Value.bool R1)) λo=>da1 (i:=17) (by kernel_rfl) ?_
 refine di (i:=17) rfl<|gy o rfl rfl<|c1 o rfl call42 (JbP (Ai _) (Tab.mono (Tab.mono hT K0.sub) (St.up u)) L3) trivial (λv w a hR o=>?_)
 obtain ⟨rfl,hk⟩:=hR
 replace u:=u.pass hk
 refine ⟨λ_=>u.ld,?_⟩
 refine dr 18 u o rfl (Ad o rfl rfl) λo=>dr 19 u o rfl (Bn o rfl) λo=>de (by kernel_rfl)<|tn<|wr<|?_
 obtain rfl:=si hm
 exact r1 o results9 rfl ⟨rfl,u.keep⟩
 refine rdS 20 u wide λw u=>dq 0 u.ld o rfl (λw hl=>Ax o isAgg27 sizeOf27 rfl rfl (hl.cellsB t0)) λo=>dr 1 u o rfl (Ab o rfl) λo=>dq 3 u.ld o rfl (λw hl=>Ax o isAgg27 sizeOf27 rfl rfl (hl.cellsB t0)) λo=>dr 4 u o rfl (Ab o rfl) λo=>da1 (i:=2) (by kernel_rfl) ?_
 refine di (i:=2) rfl<|cr o call38 (Rr (Ai _) (Tab.mono (Tab.mono hT K0.sub) (St.up u)) (Enc.mono (St.up u) (show Enc.rep (α:=api_Prog) H38 [SL M0 C0.Lines D0,SL O0 C0.Vols E0,SL P0 C0.Locks F0,SL Q0 C0.Threads G0,SL R0 C0.Recover I0,SL S0 C0.Claims J0] C0 from ⟨_,_,rfl,⟨_,_,rfl,U0,V0⟩,⟨_,_,rfl,⟨_,_,rfl,W0,X0⟩,⟨_,_,rfl,⟨_,_,rfl,Y0,j0⟩,⟨_,_,rfl,⟨_,_,rfl,n0,T0⟩,⟨_,_,rfl,⟨_,_,rfl,u0,B1⟩,⟨_,_,rfl,C1,E1⟩⟩⟩⟩⟩⟩)) X1) u λu o=>⟨λ_=>u.ld,?_⟩
 refine da1 (i:=5) (by kernel_rfl) ?_
 refine di (i:=5) rfl<|cr o call39 (Wy (Ai _) (Enc.mono (St.up u) (show Enc.rep (α:=api_Prog) H38 [SL M0 C0.Lines D0,SL O0 C0.Vols E0,SL P0 C0.Locks F0,SL Q0 C0.Threads G0,SL R0 C0.Recover I0,SL S0 C0.Claims J0] C0 from ⟨_,_,rfl,⟨_,_,rfl,U0,V0⟩,⟨_,_,rfl,⟨_,_,rfl,W0,X0⟩,⟨_,_,rfl,⟨_,_,rfl,Y0,j0⟩,⟨_,_,rfl,⟨_,_,rfl,n0,T0⟩,⟨_,_,rfl,⟨_,_,rfl,u0,B1⟩,⟨_,_,rfl,C1,E1⟩⟩⟩⟩⟩⟩)) Y1) u λu o=>⟨λ_=>u.ld,?_⟩
 refine dr 6 u o rfl (An o rfl rfl) λo=>dr 7 u o rfl (Aq (Ab o rfl) (congrArg Value.bool I1)) λo=>dg 8 u.ld o rfl (λw hl=>Pu (i:=1) o runUnderlying54 sizeOf3 rfl rfl rfl (by decide)) λo=>dg 9 u.ld o rfl (λw hl=>Ag o isAgg3 rfl (hl.cellB t1 rfl)) λo=>dg 11 u.ld o rfl (λw hl=>Pu (i:=1) o runUnderlying54 sizeOf3 rfl rfl rfl (by decide)) λo=>dg 12 u.ld o rfl (λw hl=>Ag o isAgg3 rfl (hl.cellB t1 rfl)) λo=>da1 (i:=10) (by kernel_rfl) ?_
 refine di (i:=10) rfl<|gy o rfl rfl<|cr o call40 (Pw (Ai _) R2) u λu o=>⟨λ_=>u.ld,?_⟩
 refine da1 (i:=13) (by kernel_rfl) ?_
 refine di (i:=13) rfl<|gy o rfl rfl<|cr o call41 (Sm (Ai _) T2) u λu o=>⟨λ_=>u.ld,?_⟩
 refine dg 14 u.ld o rfl (λw hl=>An o rfl rfl) λo=>dr 15 u o rfl (Ad o rfl rfl) λo=>dr 16 u o rfl (Aq (Ab o rfl) (congrArg Value.bool R1)) λo=>dn 17 u.ld o rfl λo=>dr 18 u o rfl (Ae o rfl rfl) λo=>dr 19 u o rfl (Bn o rfl) λo=>de (by kernel_rfl)<|tn<|wr<|?_
 obtain rfl:=si hm
 exact r1 o results9 rfl ⟨rfl,u.keep⟩
 refine rdS 20 u wide λw u=>dq 0 u.ld o rfl (λw hl=>Ax o isAgg27 sizeOf27 rfl rfl (hl.cellsB t0)) λo=>dr 1 u o rfl (Ab o rfl) λo=>dq 3 u.ld o rfl (λw hl=>Ax o isAgg27 sizeOf27 rfl rfl (hl.cellsB t0)) λo=>dr 4 u o rfl (Ab o rfl) λo=>da1 (i:=2) (by kernel_rfl) ?_
 refine di (i:=2) rfl<|cr o call38 (Rr (Ai _) (Tab.mono (Tab.mono hT K0.sub) (St.up u)) (Enc.mono (St.up u) (show Enc.rep (α:=api_Prog) H38 [SL M0 C0.Lines D0,SL O0 C0.Vols E0,SL P0 C0.Locks F0,SL Q0 C0.Threads G0,SL R0 C0.Recover I0,SL S0 C0.Claims J0] C0 from ⟨_,_,rfl,⟨_,_,rfl,U0,V0⟩,⟨_,_,rfl,⟨_,_,rfl,W0,X0⟩,⟨_,_,rfl,⟨_,_,rfl,Y0,j0⟩,⟨_,_,rfl,⟨_,_,rfl,n0,T0⟩,⟨_,_,rfl,⟨_,_,rfl,u0,B1⟩,⟨_,_,rfl,C1,E1⟩⟩⟩⟩⟩⟩)) X1) u λu o=>⟨λ_=>u.ld,?_⟩
 refine da1 (i:=5) (by kernel_rfl) ?_
 refine di (i:=5) rfl<|cr o call39 (Wy (Ai _) (Enc.mono (St.up u) (show Enc.rep (α:=api_Prog) H38 [SL M0 C0.Lines D0,SL O0 C0.Vols E0,SL P0 C0.Locks F0,SL Q0 C0.Threads G0,SL R0 C0.Recover I0,SL S0 C0.Claims J0] C0 from ⟨_,_,rfl,⟨_,_,rfl,U0,V0⟩,⟨_,_,rfl,⟨_,_,rfl,W0,X0⟩,⟨_,_,rfl,⟨_,_,rfl,Y0,j0⟩,⟨_,_,rfl,⟨_,_,rfl,n0,T0⟩,⟨_,_,rfl,⟨_,_,rfl,u0,B1⟩,⟨_,_,rfl,C1,E1⟩⟩⟩⟩⟩⟩)) Y1) u λu o=>⟨λ_=>u.ld,?_⟩
 refine dr 6 u o rfl (An o rfl rfl) λo=>dr 7 u o rfl (Aq (Ab o rfl) (congrArg Value.bool I1)) λo=>dn 8 u.ld o rfl λo=>dn 9 u.ld o rfl λo=>dn 10 u.ld o rfl λo=>dn 11 u.ld o rfl λo=>dn 12 u.ld o rfl λo=>dn 13 u.ld o rfl λo=>dn 14 u.ld o rfl λo=>dr 15 u o rfl (Ae o rfl rfl) λo=>dr 16 u o rfl (Ab o rfl) λo=>dn 17 u.ld o rfl λo=>dr 18 u o rfl (Ae o rfl rfl) λo=>dr 19 u o rfl (Bn o rfl) λo=>de (by kernel_rfl)<|tn<|wr<|?_
 obtain rfl:=si hm
 exact r1 o results9 rfl ⟨rfl,u.keep⟩
end Go.LM.LB
