/- Walks, lifted by program. No condition beyond the theorems' own premises. -/
import Derived.Test.YtgdkaddhhpgeiaaGreatDoorLBQ4
namespace Go.LM.LB
open Go Go.LL Go.MD Go.LM Go.Proofs Go.MD.LB Go.Proofs.Tryz
set_option maxRecDepth 100000
variable {N:Nat} {w0:World} {H:PH}
set_option maxHeartbeats 4000000 in
theorem JbE:∀ (N:Nat),(∀ {w0:World} {H:PH} (_:H.le w0) {R0:Option Addr} {G0:Nat} {p1:(List api_Token)} (_:p1.length≤G0) (_:SR H R0 p1) {p6:Int} {p7:Int} {r:leadlineref03_Read} (_:Z24 N p1 p6 p7=some r),Tot Tryz.prog 170 #[SL R0 p1 G0,i6 p6,i6 p7] w0 (λv w'=>∃ (H':PH) (cs0:List Value),v=.agg cs0.toArray∧Enc.rep H' cs0 r∧Ext w0 H H'∧H'.le w'∧Keep Nil w0 w'))∧(∀ {w0:World} {H:PH} (_:H.le w0) {R0:Option Addr} {G0:Nat} {p1:(List api_Token)} (_:p1.length≤G0) (_:SR H R0 p1) {p6:Int} {p7:Int} {p8:Int} {r:leadlineref03_Read} (_:Z1l N p1 p6 p7 p8=some r),Tot Tryz.prog 162 #[SL R0 p1 G0,i6 p6,i6 p7,i6 p8] w0 (λv w'=>∃ (H':PH) (cs0:List Value),v=.agg cs0.toArray∧Enc.rep H' cs0 r∧Ext w0 H H'∧H'.le w'∧Keep Nil w0 w')):=by
 intro N
 induction N with
  | zero=>exact ⟨(by intros;rename_i hm;simp [Z24] at hm),(by intros;rename_i hm;simp [Z1l] at hm)⟩
  | succ N ih=>
 obtain ⟨ih_Z24,ih_Z1l⟩:=ih
 refine ⟨?_,?_⟩
 intro w0 H hH R0 G0 p1 S0 D0 p6 p7 r hm
 rw [Z24] at hm
 refine fn0 func170 rfl ntmps170 rfl rfl λa o=>?_
 have u:St w0 Nil [H] [] w0:=start1 hH
 refine th<|rg<|ls<|Aw (cs:=[.slice none 0 0,i6 0,i6 0,i6 0].toArray) o rfl u Tryz.zeroValue174 rfl λb8 w a u o=>re<|tn<|th<|th<|rg<|qm o rfl λo=>qm o rfl λo=>qv o (Ak (α:=api_Token) (xs:=p1) o runUnderlying120 rfl) λo=>qv o (Bi o rfl rfl) λo=>re<|?_
 rcases bip hm with ⟨K4,hm⟩ | ⟨K4,hm⟩
 refine tn<|ctv o rfl K4<|th<|?_
 obtain ⟨G1,I7,hm⟩:=bs hm
 refine rg<|qm o rfl λo=>qm o rfl λo=>ls<|c1 o rfl call178 (Rf (St.le u) S0 D0 I7) ⟨rfl,rfl,rfl,trivial⟩ (λv w a hR o=>?_)
 obtain ⟨H15,cs16,rfl,J7,M2,u5,hk⟩:=hR
 obtain ⟨u,M2⟩:=And.intro (St.passH u hk M2 u5) (St.extc u M2)
 obtain ⟨L4,l3,rfl,A6,B6⟩:=Bd J7
 refine ls<|Ba o u sizeOf174 rfl rfl rfl rfl (Am rfl) .head λw u=>re<|tn<|wr<|tr<|?_
 obtain rfl:=si hm
 exact r1c (vs:=[SL L4 G1.L l3,i6 G1.To,i6 G1.E,i6 G1.At]) (.inl rfl) o results170 rfl isAgg174 sizeOf174 rfl (u.ld.cellsB t0) ⟨H15,_,rfl,(show Enc.rep (α:=leadlineref03_Read) H15 [SL L4 G1.L l3,i6 G1.To,i6 G1.E,i6 G1.At] G1 from ⟨_,_,rfl,⟨_,_,rfl,A6,B6⟩,⟨_,_,rfl,rfl,⟨_,_,rfl,rfl,rfl⟩⟩⟩),M2,(St.le u),u.keep⟩
 refine tn<|cfv o rfl K4<|wk<|tn<|th<|Au (λa w=>∃ (Y1:Bool),(Z25 (Z24 N) (Z1l N) N p1 p6 p7) Y1=some r∧Fr 152 [(0,SL R0 p1 G0),(1,i6 p6),(2,i6 p7),(6,PT b8),(7,.bool Y1)] a∧St w0 Nil [H] [bk b8 [.slice none 0 0,i6 0,i6 0,i6 0] 174] w) ?_ ?_
 obtain ⟨z8,Y5,hm⟩:=bs hm
 rcases bit hm with ⟨J3,hm⟩ | ⟨J3,hm⟩
 refine rg<|qm o rfl λo=>qm o rfl λo=>ls<|cr o call139 (Jt (Ai _) S0 (St.srH u D0) Y5) u λu o=>qv o (As (Ab o rfl) (congrArg Value.bool J3)) λo=>?_
 iterate 3 refine qn o λo=>?_
 refine qv o (Ad o rfl rfl) λo=>qa o rfl λo=>re<|tn<|?_
 exact ⟨true,hm,o.hs,u⟩
 obtain ⟨K7,L7,hm⟩:=bs hm
 refine rg<|qm o rfl λo=>qm o rfl λo=>ls<|cr o call139 (Jt (Ai _) S0 (St.srH u D0) Y5) u λu o=>qv o (As (Ab o rfl) (congrArg Value.bool J3)) λo=>?_
 iterate 2 refine qg o (Ab o rfl) λo=>?_
 refine ls<|gy o rfl rfl<|cr o call139 (Jt (Ai _) S0 (St.srH u D0) L7) u λu o=>qv o (Ae o rfl rfl) λo=>qa o rfl λo=>re<|tn<|?_
 exact ⟨K7,hm,o.hs,u⟩
 rintro a w ⟨Y1,hm,o,u⟩
 unfold Z25 at hm
 refine th<|?_
 obtain ⟨u3,M7,hm⟩:=bs hm
 refine rg<|qm o rfl λo=>qm o rfl λo=>ls<|cr o call139 (Jt (Ai _) S0 (St.srH u D0) M7) u λu o=>qa o rfl λo=>re<|tn<|th<|th<|rg<|qm o rfl λo=>qm o rfl λo=>gr (Fk:=[(0,SL R0 p1 G0),(1,i6 p6),(2,i6 p7),(6,PT b8),(7,.bool Y1),(8,.bool u3),(34,.bool (Y1 || u3))]) 32 2 o u ?_ ?_ ?_
 intro hb o key
 exact qn o λo=>qk o (Ad o rfl rfl) key u hb
 intro hb o key
 exact qg o (Ab o rfl) λo=>qk o (Ae o rfl rfl) key u hb
 intro a w o u
 refine qm o rfl λo=>gr (Fk:=[(0,SL R0 p1 G0),(1,i6 p6),(2,i6 p7),(6,PT b8),(7,.bool Y1),(8,.bool u3),(38,.bool ((Y1 || u3) && (decide (p7=12))))]) 35 3 o u ?_ ?_ ?_
 intro hb o key
 exact qg o (Ab o rfl) λo=>qg o (Al o rfl rfl) λo=>qk o (Ad o rfl rfl) key u hb
 intro hb o key
 iterate 2 refine qn o λo=>?_
 exact qk o (Ae o rfl rfl) key u hb
 intro a w o u
 refine re<|?_
 rcases bit hm with ⟨K3,hm⟩ | ⟨K3,hm⟩
 refine tn<|ctv o rfl K3<|th<|?_
 obtain ⟨I1,O7,hm⟩:=bs hm
 refine rg<|qm o rfl λo=>qm o rfl λo=>ls<|c1 o rfl call178 (Rf (St.le u) S0 D0 O7) ⟨rfl,rfl,rfl,trivial⟩ (λv w a hR o=>?_)
 obtain ⟨H35,cs36,rfl,P7,O2,C6,hk⟩:=hR
 obtain ⟨u,O2⟩:=And.intro (St.passH u hk O2 C6) (St.extc u O2)
 obtain ⟨M4,A4,rfl,D6,E6⟩:=Bd P7
 refine ls<|Ba o u sizeOf174 rfl rfl rfl rfl (Am rfl) .head λw u=>re<|tn<|wr<|tr<|?_
 obtain rfl:=si hm
 exact r1c (vs:=[SL M4 I1.L A4,i6 I1.To,i6 I1.E,i6 I1.At]) (.inl rfl) o results170 rfl isAgg174 sizeOf174 rfl (u.ld.cellsB t0) ⟨H35,_,rfl,(show Enc.rep (α:=leadlineref03_Read) H35 [SL M4 I1.L A4,i6 I1.To,i6 I1.E,i6 I1.At] I1 from ⟨_,_,rfl,⟨_,_,rfl,D6,E6⟩,⟨_,_,rfl,rfl,⟨_,_,rfl,rfl,rfl⟩⟩⟩),O2,(St.le u),u.keep⟩
 refine tn<|cfv o rfl K3<|wk<|tn<|th<|th<|rg<|qm o rfl λo=>re<|?_
 rcases bit hm with ⟨L3,hm⟩ | ⟨L3,hm⟩
 refine tn<|ctv o rfl L3<|th<|?_
 obtain ⟨E0,Q7,hm⟩:=bs hm
 refine rg<|qm o rfl λo=>qm o rfl λo=>qv o (Ap o rfl rfl) λo=>qm o rfl λo=>qv o (Ap o rfl rfl) λo=>ls<|c1 o rfl call170 (ih_Z24 (St.le u) S0 D0 Q7) ⟨rfl,rfl,rfl,trivial⟩ (λv w a hR o=>?_)
 obtain ⟨H48,cs49,rfl,R7,F1,F6,hk⟩:=hR
 obtain ⟨u,F1⟩:=And.intro (St.passH u hk F1 F6) (St.extc u F1)
 obtain ⟨M3,P2,rfl,G6,O4⟩:=Bd R7
 refine ls<|Aw (cs:=[.slice none 0 0,i6 0,i6 0,i6 0].toArray) o rfl u zeroValue174 rfl λk5 w a u o=>ls<|Ba o u sizeOf174 rfl rfl rfl rfl (Am rfl) .head λw u=>re<|tn<|th<|th<|rg<|qv o (Af o Hq rfl) λo=>qv o (Ag o isAgg29 rfl (u.ld.cellB t0 rfl)) λo=>qv o (Bt o rfl rfl) λo=>re<|?_
 rcases bip hm with ⟨O3,hm⟩ | ⟨O3,hm⟩
 refine tn<|ctv o rfl O3<|th<|rg<|qv o (Ay o Tryz.isAgg174 Tryz.sizeOf174 rfl rfl (u.ld.cellsB t0)) λo=>ls<|Ba o u sizeOf174 rfl rfl rfl rfl (Am rfl) (.tail .head) λw u=>re<|tn<|wr<|tr<|tr<|?_
 obtain rfl:=si hm
 exact r1c (vs:=[SL M3 E0.L P2,i6 E0.To,i6 E0.E,i6 E0.At]) (.inl rfl) o results170 rfl isAgg174 sizeOf174 rfl (u.ld.cellsB t1) ⟨H48,_,rfl,(show Enc.rep (α:=leadlineref03_Read) H48 [SL M3 E0.L P2,i6 E0.To,i6 E0.E,i6 E0.At] E0 from ⟨_,_,rfl,⟨_,_,rfl,G6,O4⟩,⟨_,_,rfl,rfl,⟨_,_,rfl,rfl,rfl⟩⟩⟩),F1,(St.le u),u.keep⟩
 refine tn<|cfv o rfl O3<|wk<|tn<|th<|rg<|qa o rfl λo=>re<|tn<|th<|th<|?_
 obtain ⟨J1,D3,hm⟩:=bs hm
 obtain ⟨A9,S7,P4⟩:=SR.get D0 D3
 obtain rfl:=Bb S7
 refine rg<|qm o rfl λo=>qm o rfl λo=>qv o (An o runUnderlying120 sizeOf130 rfl rfl D3 (SR.oaI D0 (by decide) D3)) λo=>qv o (Af o Eh rfl) λo=>qv o (Ag o isAgg9 rfl (PH.le.cell (λb o hx=>(Lds.le u.ld) b o (F1.sub b o hx)) (P4 1 _ rfl))) λo=>qv o (Dz (m:=J1.Text) (n:=[45]) o rfl rfl) λo=>re<|tn<|Au (λa w=>∃ (M0:Int),(Z26 E0 J1) M0=some r∧Fr 152 [(0,SL R0 p1 G0),(1,i6 p6),(6,PT b8),(9,PT k5),(10,i6 M0)] a∧St w0 Nil [H48] [bk b8 [.slice none 0 0,i6 0,i6 0,i6 0] 174,bk k5 [SL M3 E0.L P2,i6 E0.To,i6 E0.E,i6 E0.At] 174] w) ?_ ?_
 rcases bip hm with ⟨P3,hm⟩ | ⟨P3,hm⟩
 refine ctv o rfl P3<|rg<|qa o rfl λo=>re<|tn<|?_
 replace u:=u.pk [1,0] rfl
 exact ⟨3,hm,o.hs,u⟩
 refine cfv o rfl P3<|wk<|tn<|?_
 replace u:=u.pk [1,0] rfl
 exact ⟨4,hm,o.hs,u⟩
 rintro a w ⟨M0,hm,o,u⟩
 unfold Z26 at hm
 refine th<|rg<|qm o rfl λo=>?_
 iterate 2 refine qm o rfl λo=>?_
 refine qv o (An o runUnderlying120 sizeOf130 rfl rfl D3 (SR.oaI D0 (by decide) D3)) λo=>qv o (Af o Dh rfl) λo=>qv o (Ag o isAgg3 rfl (PH.le.cell (λb o hx=>(Lds.le u.ld) b o (F1.sub b o hx)) (P4 3 _ rfl))) λo=>qv o (Bu [i6 M0,i6 J1.At] [i6 M0,i6 0,Ac [],i6 J1.At] o ⟨rfl,rfl,trivial⟩ (λw=>by kernel_rfl)) λo=>ls<|Bl (e:=90) (sz:=4) [i6 M0,i6 0,Ac [],i6 J1.At] o rfl u rfl rfl rfl (λw=>by kernel_rfl) λB9 w a u o=>?_
 have I6:Rows (α:=api_Node) H48 [i6 M0,i6 0,Ac [],i6 J1.At] ([(api_Node.mk M0 0 [] J1.At)]:List api_Node):=(.cons (c:=[i6 M0,i6 0,Ac [],i6 J1.At]) ⟨_,_,rfl,rfl,⟨_,_,rfl,rfl,⟨_,_,rfl,rfl,rfl⟩⟩⟩ .nil)
 refine qa o rfl λo=>re<|tn<|th<|?_
 obtain ⟨Q4,T7,hm⟩:=bs hm
 refine rg<|qm o rfl λo=>qv o (Af o Gl rfl) λo=>qv o (Ag o isAgg49 rfl (u.ld.cellB t2 rfl)) λo=>?_
 obtain ⟨us72,hd73,hu74⟩:=id O4
 refine ls<|Cl (α:=api_Node) (xs:=([(api_Node.mk M0 0 [] J1.At)]:List api_Node)) (ys:=E0.L) o rfl u underlying49 Qy rfl (by decide) rfl rfl rfl t0 I6 (u.rdH t0 hd73) hu74 T7 λR4 B4 V8 w a J6 hU o=>?_
 replace u:=hU _ .head
 refine qa o rfl λo=>re<|tn<|th<|rg<|qm o rfl λo=>qv o (Af o Gl rfl) λo=>ls<|Ax o u sizeOf49 rfl rfl rfl rfl (.tail (.tail .head)) .zero λw u=>re<|tn<|th<|rg<|qv o (Ay o Tryz.isAgg174 Tryz.sizeOf174 rfl rfl (u.ld.cellsB t2)) λo=>ls<|Ba o u sizeOf174 rfl rfl rfl rfl (Am rfl) (.tail .head) λw u=>re<|tn<|wr<|tr<|?_
 obtain ⟨H78,K6,L6,M6,u⟩:=St.frzS u .head J6
 obtain rfl:=si hm
 exact r1c (vs:=[SL R4 Q4 B4,i6 E0.To,i6 E0.E,i6 E0.At]) (.inl rfl) o results170 rfl isAgg174 sizeOf174 rfl (u.ld.cellsB t0) ⟨H78,_,rfl,(show Enc.rep (α:=leadlineref03_Read) H78 [SL R4 Q4 B4,i6 E0.To,i6 E0.E,i6 E0.At] (leadlineref03_Read.mk Q4 E0.To E0.E E0.At) from ⟨_,_,rfl,⟨_,_,rfl,M6,L6⟩,⟨_,_,rfl,rfl,⟨_,_,rfl,rfl,rfl⟩⟩⟩),(Ext.trans F1 K6),(St.le u),u.keep⟩
 refine tn<|cfv o rfl L3<|wk<|tn<|th<|th<|rg<|qm o rfl λo=>re<|?_
 rcases bit hm with ⟨Q3,hm⟩ | ⟨Q3,hm⟩
 refine tn<|ctv o rfl Q3<|th<|?_
 obtain ⟨J0,U7,hm⟩:=bs hm
 refine rg<|qm o rfl λo=>qm o rfl λo=>qv o (Ap o rfl rfl) λo=>qm o rfl λo=>qv o (Ap o rfl rfl) λo=>ls<|c1 o rfl call162 (ih_Z1l (St.le u) S0 D0 U7) ⟨rfl,rfl,rfl,rfl,trivial⟩ (λv w a hR o=>?_)
 obtain ⟨H85,cs86,rfl,V7,n0,O6,hk⟩:=hR
 obtain ⟨u,n0⟩:=And.intro (St.passH u hk n0 O6) (St.extc u n0)
 obtain ⟨Q2,V1,rfl,S4,T4⟩:=Bd V7
 refine ls<|Aw (cs:=[.slice none 0 0,i6 0,i6 0,i6 0].toArray) o rfl u zeroValue174 rfl λC9 w a u o=>ls<|Ba o u sizeOf174 rfl rfl rfl rfl (Am rfl) .head λw u=>re<|tn<|th<|th<|rg<|qv o (Af o Hq rfl) λo=>qv o (Ag o isAgg29 rfl (u.ld.cellB t0 rfl)) λo=>qv o (Bt o rfl rfl) λo=>re<|?_
 rcases bip hm with ⟨R3,hm⟩ | ⟨R3,hm⟩
 refine tn<|ctv o rfl R3<|th<|rg<|qv o (Ay o Tryz.isAgg174 Tryz.sizeOf174 rfl rfl (u.ld.cellsB t0)) λo=>ls<|Ba o u sizeOf174 rfl rfl rfl rfl (Am rfl) (.tail .head) λw u=>re<|tn<|wr<|tr<|tr<|?_
 obtain rfl:=si hm
 exact r1c (vs:=[SL Q2 J0.L V1,i6 J0.To,i6 J0.E,i6 J0.At]) (.inl rfl) o results170 rfl isAgg174 sizeOf174 rfl (u.ld.cellsB t1) ⟨H85,_,rfl,(show Enc.rep (α:=leadlineref03_Read) H85 [SL Q2 J0.L V1,i6 J0.To,i6 J0.E,i6 J0.At] J0 from ⟨_,_,rfl,⟨_,_,rfl,S4,T4⟩,⟨_,_,rfl,rfl,⟨_,_,rfl,rfl,rfl⟩⟩⟩),n0,(St.le u),u.keep⟩
 refine tn<|cfv o rfl R3<|wk<|tn<|th<|th<|?_
 obtain ⟨D9,W7,hm⟩:=bs hm
 refine rg<|qm o rfl λo=>qv o (Af o Ez rfl) λo=>qv o (Ag o isAgg3 rfl (u.ld.cellB t0 rfl)) λo=>ls<|cr o call139 (Jt (Ai _) S0 (St.srH u (D0.mono n0.sub)) W7) u λu o=>qv o (Az o rfl) λo=>re<|?_
 rcases bit hm with ⟨S3,hm⟩ | ⟨S3,hm⟩
 refine tn<|cfv o rfl (by rw [S3];rfl)<|wk<|tn<|th<|rg<|qv o (Af o Ez rfl) λo=>qv o (Ag o isAgg3 rfl (u.ld.cellB t0 rfl)) λo=>qv o (Ap o rfl rfl) λo=>qv o (Af o Ez rfl) λo=>ls<|Ax o u sizeOf3 rfl rfl rfl rfl .head (.succ .zero) λw u=>re<|tn<|th<|rg<|qv o (Ay o Tryz.isAgg174 Tryz.sizeOf174 rfl rfl (u.ld.cellsB t0)) λo=>ls<|Ba o u sizeOf174 rfl rfl rfl rfl (Am rfl) (.tail .head) λw u=>re<|tn<|wr<|tr<|?_
 obtain rfl:=si hm
 exact r1c (vs:=[SL Q2 J0.L V1,i6 (IntKind.i64.wrap (J0.To+1)),i6 J0.E,i6 J0.At]) (.inl rfl) o results170 rfl isAgg174 sizeOf174 rfl (u.ld.cellsB t1) ⟨H85,_,rfl,(show Enc.rep (α:=leadlineref03_Read) H85 [SL Q2 J0.L V1,i6 (IntKind.i64.wrap (J0.To+1)),i6 J0.E,i6 J0.At] (leadlineref03_Read.mk J0.L (IntKind.i64.wrap (J0.To+1)) J0.E J0.At) from ⟨_,_,rfl,⟨_,_,rfl,S4,T4⟩,⟨_,_,rfl,rfl,⟨_,_,rfl,rfl,rfl⟩⟩⟩),n0,(St.le u),u.keep⟩
 refine tn<|ctv o rfl (by rw [S3];rfl)<|th<|?_
 obtain ⟨M1,X7,hm⟩:=bs hm
 refine rg<|qm o rfl λo=>qv o (Af o Ez rfl) λo=>qv o (Ag o isAgg3 rfl (u.ld.cellB t0 rfl)) λo=>ls<|c1 o rfl call178 (Rf (St.le u) S0 (D0.mono n0.sub) X7) ⟨rfl,rfl,rfl,trivial⟩ (λv w a hR o=>?_)
 obtain ⟨H102,cs103,rfl,P6,R2,A5,hk⟩:=hR
 obtain ⟨u,R2⟩:=And.intro (St.passH u hk R2 A5) (St.extc u R2)
 obtain ⟨C4,E3,rfl,B5,C5⟩:=Bd P6
 refine ls<|Ba o u sizeOf174 rfl rfl rfl rfl (Am rfl) (.tail .head) λw u=>re<|tn<|wr<|tr<|tr<|?_
 obtain rfl:=si hm
 exact r1c (vs:=[SL C4 M1.L E3,i6 M1.To,i6 M1.E,i6 M1.At]) (.inl rfl) o results170 rfl isAgg174 sizeOf174 rfl (u.ld.cellsB t1) ⟨H102,_,rfl,(show Enc.rep (α:=leadlineref03_Read) H102 [SL C4 M1.L E3,i6 M1.To,i6 M1.E,i6 M1.At] M1 from ⟨_,_,rfl,⟨_,_,rfl,B5,C5⟩,⟨_,_,rfl,rfl,⟨_,_,rfl,rfl,rfl⟩⟩⟩),(Ext.trans n0 R2),(St.le u),u.keep⟩
 refine tn<|cfv o rfl Q3<|wk<|tn<|th<|th<|?_
 obtain ⟨C0,F0,hm⟩:=bs hm
 obtain ⟨W8,Q6,W0⟩:=SR.get D0 F0
 obtain rfl:=Bb Q6
 refine rg<|qm o rfl λo=>qm o rfl λo=>qv o (An o runUnderlying120 sizeOf130 rfl rfl F0 (SR.oaI D0 (by decide) F0)) λo=>qv o (Af o Cr rfl) λo=>qv o (Ag o isAgg3 rfl (PH.le.cell (Lds.le u.ld) (W0 0 _ rfl))) λo=>qv o (Al o rfl rfl) λo=>re<|?_
 rcases bip hm with ⟨U2,hm⟩ | ⟨U2,hm⟩
 refine tn<|ctv o rfl U2<|th<|rdS 15 u wide λw u=>dr 0 u o rfl (Ab o rfl) λo=>dr 1 u o rfl (Ab o rfl) λo=>dr 2 u o rfl (An o runUnderlying120 sizeOf130 rfl rfl F0 (SR.oaI D0 (by decide) F0)) λo=>dr 3 u o rfl (Af o Gf rfl) λo=>dq 4 u.ld o rfl (λw hl=>Ag o isAgg3 rfl (PH.le.cell (Lds.le hl) (W0 2 _ rfl))) λo=>dr 5 u o rfl (Ab o rfl) λo=>dr 6 u o rfl (Ab o rfl) λo=>dr 7 u o rfl (An o runUnderlying120 sizeOf130 rfl rfl F0 (SR.oaI D0 (by decide) F0)) λo=>dr 8 u o rfl (Af o Dh rfl) λo=>dq 9 u.ld o rfl (λw hl=>Ag o isAgg3 rfl (PH.le.cell (Lds.le hl) (W0 3 _ rfl))) λo=>dq 10 u.ld o rfl (λw hl=>Bu [i6 1,i6 C0.N,i6 C0.At] [i6 1,i6 C0.N,Ac [],i6 C0.At] o ⟨rfl,rfl,rfl,trivial⟩ (λw=>by kernel_rfl)) λo=>dr 12 u o rfl (Ab o rfl) λo=>dr 13 u o rfl (Ap o rfl rfl) λo=>da1 (i:=11) (by kernel_rfl) ?_
 refine di (i:=11) rfl<|Bl (e:=90) (sz:=4) [i6 1,i6 C0.N,Ac [],i6 C0.At] o rfl u rfl rfl rfl (λw=>by kernel_rfl) λV2 w a u o=>?_
 have D5:Rows (α:=api_Node) H [i6 1,i6 C0.N,Ac [],i6 C0.At] ([(api_Node.mk 1 C0.N [] C0.At)]:List api_Node):=(.cons (c:=[i6 1,i6 C0.N,Ac [],i6 C0.At]) ⟨_,_,rfl,rfl,⟨_,_,rfl,rfl,⟨_,_,rfl,rfl,rfl⟩⟩⟩ .nil)
 refine ⟨λ_=>(St.ldsX u i2 ta1),?_⟩
 refine dq 14 (St.ldsX u i2 ta1) o rfl (λw hl=>Bu [.slice (some ⟨V2,0,none⟩) ([(api_Node.mk 1 C0.N [] C0.At)]:List api_Node).length 1,i6 (IntKind.i64.wrap (p6+1))] [.slice (some ⟨V2,0,none⟩) ([(api_Node.mk 1 C0.N [] C0.At)]:List api_Node).length 1,i6 (IntKind.i64.wrap (p6+1)),i6 0,i6 0] o ⟨rfl,rfl,trivial⟩ (λw=>by kernel_rfl)) λo=>da1 (i:=15) (by kernel_rfl) ?_
 refine di (i:=15) rfl<|Ba o u sizeOf174 rfl rfl rfl rfl (Am rfl) (.tail .head) λw u=>⟨λh=>absurd rfl h,?_⟩
 refine de (by kernel_rfl)<|tn<|wr<|tr<|?_
 obtain ⟨H121,E5,F5,G5,u⟩:=St.frzS u .head D5
 obtain rfl:=si hm
 exact r1c (vs:=[.slice (some ⟨V2,0,none⟩) ([(api_Node.mk 1 C0.N [] C0.At)]:List api_Node).length 1,i6 (IntKind.i64.wrap (p6+1)),i6 0,i6 0]) (.inl rfl) o results170 rfl isAgg174 sizeOf174 rfl (u.ld.cellsB t0) ⟨H121,_,rfl,(show Enc.rep (α:=leadlineref03_Read) H121 [.slice (some ⟨V2,0,none⟩) ([(api_Node.mk 1 C0.N [] C0.At)]:List api_Node).length 1,i6 (IntKind.i64.wrap (p6+1)),i6 0,i6 0] (leadlineref03_Read.mk ([(api_Node.mk 1 C0.N [] C0.At)]:List api_Node) (IntKind.i64.wrap (p6+1)) 0 0) from ⟨_,_,rfl,⟨_,_,rfl,G5,F5⟩,⟨_,_,rfl,rfl,⟨_,_,rfl,rfl,rfl⟩⟩⟩),E5,(St.le u),u.keep⟩
 refine tn<|cfv o rfl U2<|wk<|tn<|th<|th<|Au (λa w=>∃ (U4:Bool),(Z27 N p1 p6 C0) U4=some r∧Fr 152 [(0,SL R0 p1 G0),(1,i6 p6),(6,PT b8),(133,.bool U4)] a∧St w0 Nil [H] [bk b8 [.slice none 0 0,i6 0,i6 0,i6 0] 174] w) ?_ ?_
 rcases bip hm with ⟨W2,hm⟩ | ⟨W2,hm⟩
 obtain ⟨R6,S6,hm⟩:=bs hm
 refine rg<|qm o rfl λo=>qm o rfl λo=>qv o (An o runUnderlying120 sizeOf130 rfl rfl F0 (SR.oaI D0 (by decide) F0)) λo=>qv o (Af o Cr rfl) λo=>qv o (Ag o isAgg3 rfl (PH.le.cell (Lds.le u.ld) (W0 0 _ rfl))) λo=>qv o (Al o rfl rfl) λo=>qv o (As (Ab o rfl) (congrArg Value.bool W2)) λo=>?_
 iterate 2 refine qg o (Ab o rfl) λo=>?_
 refine qg o (An o runUnderlying120 sizeOf130 rfl rfl F0 (SR.oaI D0 (by decide) F0)) λo=>qg o (Af o Eh rfl) λo=>qg o (Ag o isAgg9 rfl (PH.le.cell (Lds.le u.ld) (W0 1 _ rfl))) λo=>ls<|gy o rfl rfl<|cr o call114 (Jq (Ai _) S6) u λu o=>qv o (Ad o rfl rfl) λo=>re<|tn<|?_
 exact ⟨R6,hm,o.hs,u⟩
 refine rg<|qm o rfl λo=>qm o rfl λo=>qv o (An o runUnderlying120 sizeOf130 rfl rfl F0 (SR.oaI D0 (by decide) F0)) λo=>qv o (Af o Cr rfl) λo=>qv o (Ag o isAgg3 rfl (PH.le.cell (Lds.le u.ld) (W0 0 _ rfl))) λo=>qv o (Al o rfl rfl) λo=>qv o (As (Ab o rfl) (congrArg Value.bool W2)) λo=>?_
 iterate 6 refine qn o λo=>?_
 refine qv o (Ae o rfl rfl) λo=>re<|tn<|?_
 exact ⟨false,hm,o.hs,u⟩
 rintro a w ⟨U4,hm,o,u⟩
 unfold Z27 at hm
 rcases bit hm with ⟨X2,hm⟩ | ⟨X2,hm⟩
 refine ctv o rfl X2<|th<|rdS 15 u wide λw u=>dr 0 u o rfl (Ab o rfl) λo=>dr 1 u o rfl (Ab o rfl) λo=>dr 2 u o rfl (An o runUnderlying120 sizeOf130 rfl rfl F0 (SR.oaI D0 (by decide) F0)) λo=>dr 3 u o rfl (Af o Eh rfl) λo=>dq 4 u.ld o rfl (λw hl=>Ag o isAgg9 rfl (PH.le.cell (Lds.le hl) (W0 1 _ rfl))) λo=>dr 5 u o rfl (Ab o rfl) λo=>dr 6 u o rfl (Ab o rfl) λo=>dr 7 u o rfl (An o runUnderlying120 sizeOf130 rfl rfl F0 (SR.oaI D0 (by decide) F0)) λo=>dr 8 u o rfl (Af o Dh rfl) λo=>dq 9 u.ld o rfl (λw hl=>Ag o isAgg3 rfl (PH.le.cell (Lds.le hl) (W0 3 _ rfl))) λo=>dq 10 u.ld o rfl (λw hl=>Bu [i6 2,Ac C0.Text,i6 C0.At] [i6 2,i6 0,Ac C0.Text,i6 C0.At] o ⟨rfl,rfl,rfl,trivial⟩ (λw=>by kernel_rfl)) λo=>dr 12 u o rfl (Ab o rfl) λo=>dr 13 u o rfl (Ap o rfl rfl) λo=>da1 (i:=11) (by kernel_rfl) ?_
 refine di (i:=11) rfl<|Bl (e:=90) (sz:=4) [i6 2,i6 0,Ac C0.Text,i6 C0.At] o rfl u rfl rfl rfl (λw=>by kernel_rfl) λY2 w a u o=>?_
 have I5:Rows (α:=api_Node) H [i6 2,i6 0,Ac C0.Text,i6 C0.At] ([(api_Node.mk 2 0 C0.Text C0.At)]:List api_Node):=(.cons (c:=[i6 2,i6 0,Ac C0.Text,i6 C0.At]) ⟨_,_,rfl,rfl,⟨_,_,rfl,rfl,⟨_,_,rfl,rfl,rfl⟩⟩⟩ .nil)
 refine ⟨λ_=>(St.ldsX u i2 ta1),?_⟩
 refine dq 14 (St.ldsX u i2 ta1) o rfl (λw hl=>Bu [.slice (some ⟨Y2,0,none⟩) ([(api_Node.mk 2 0 C0.Text C0.At)]:List api_Node).length 1,i6 (IntKind.i64.wrap (p6+1))] [.slice (some ⟨Y2,0,none⟩) ([(api_Node.mk 2 0 C0.Text C0.At)]:List api_Node).length 1,i6 (IntKind.i64.wrap (p6+1)),i6 0,i6 0] o ⟨rfl,rfl,trivial⟩ (λw=>by kernel_rfl)) λo=>da1 (i:=15) (by kernel_rfl) ?_
 refine di (i:=15) rfl<|Ba o u sizeOf174 rfl rfl rfl rfl (Am rfl) (.tail .head) λw u=>⟨λh=>absurd rfl h,?_⟩
 refine de (by kernel_rfl)<|tn<|wr<|tr<|?_
 obtain ⟨H132,J5,K5,L5,u⟩:=St.frzS u .head I5
 obtain rfl:=si hm
 exact r1c (vs:=[.slice (some ⟨Y2,0,none⟩) ([(api_Node.mk 2 0 C0.Text C0.At)]:List api_Node).length 1,i6 (IntKind.i64.wrap (p6+1)),i6 0,i6 0]) (.inl rfl) o results170 rfl isAgg174 sizeOf174 rfl (u.ld.cellsB t0) ⟨H132,_,rfl,(show Enc.rep (α:=leadlineref03_Read) H132 [.slice (some ⟨Y2,0,none⟩) ([(api_Node.mk 2 0 C0.Text C0.At)]:List api_Node).length 1,i6 (IntKind.i64.wrap (p6+1)),i6 0,i6 0] (leadlineref03_Read.mk ([(api_Node.mk 2 0 C0.Text C0.At)]:List api_Node) (IntKind.i64.wrap (p6+1)) 0 0) from ⟨_,_,rfl,⟨_,_,rfl,L5,K5⟩,⟨_,_,rfl,rfl,⟨_,_,rfl,rfl,rfl⟩⟩⟩),J5,(St.le u),u.keep⟩
 refine cfv o rfl X2<|wk<|tn<|th<|?_
 obtain ⟨j0,T6,hm⟩:=bs hm
 refine rg<|qm o rfl λo=>qm o rfl λo=>ls<|c1 o rfl call178 (Rf (St.le u) S0 D0 T6) ⟨rfl,rfl,rfl,trivial⟩ (λv w a hR o=>?_)
 obtain ⟨H138,cs139,rfl,U6,X1,M5,hk⟩:=hR
 obtain ⟨u,X1⟩:=And.intro (St.passH u hk X1 M5) (St.extc u X1)
 obtain ⟨D4,F3,rfl,O5,P5⟩:=Bd U6
 refine ls<|Ba o u sizeOf174 rfl rfl rfl rfl (Am rfl) .head λw u=>re<|tn<|wr<|?_
 obtain rfl:=si hm
 exact r1c (vs:=[SL D4 j0.L F3,i6 j0.To,i6 j0.E,i6 j0.At]) (.inl rfl) o results170 rfl isAgg174 sizeOf174 rfl (u.ld.cellsB t0) ⟨H138,_,rfl,(show Enc.rep (α:=leadlineref03_Read) H138 [SL D4 j0.L F3,i6 j0.To,i6 j0.E,i6 j0.At] j0 from ⟨_,_,rfl,⟨_,_,rfl,O5,P5⟩,⟨_,_,rfl,rfl,⟨_,_,rfl,rfl,rfl⟩⟩⟩),X1,(St.le u),u.keep⟩
 intro w0 H hH R0 G0 p1 S0 D0 p6 p7 p8 r hm
 rw [Z1l] at hm
 refine fn0 func162 rfl ntmps162 rfl rfl λa o=>?_
 have u:St w0 Nil [H] [] w0:=start1 hH
 refine th<|rg<|ls<|Aw (cs:=[.slice none 0 0,i6 0,i6 0,i6 0].toArray) o rfl u Tryz.zeroValue174 rfl λb9 w a u o=>re<|tn<|th<|th<|rg<|qm o rfl λo=>qv o (Al o rfl rfl) λo=>re<|?_
 rcases bip hm with ⟨T3,hm⟩ | ⟨T3,hm⟩
 refine tn<|ctv o rfl T3<|th<|?_
 obtain ⟨O1,Y7,hm⟩:=bs hm
 refine rg<|qm o rfl λo=>?_
 iterate 2 refine qm o rfl λo=>?_
 refine ls<|c1 o rfl call170 (ih_Z24 (St.le u) S0 D0 Y7) ⟨rfl,rfl,rfl,trivial⟩ (λv w a hR o=>?_)
 obtain ⟨H16,cs17,rfl,k7,A3,V6,hk⟩:=hR
 obtain ⟨u,A3⟩:=And.intro (St.passH u hk A3 V6) (St.extc u A3)
 obtain ⟨V4,E4,rfl,W6,X6⟩:=Bd k7
 refine ls<|Ba o u sizeOf174 rfl rfl rfl rfl (Am rfl) .head λw u=>re<|tn<|wr<|tr<|?_
 obtain rfl:=si hm
 exact r1c (vs:=[SL V4 O1.L E4,i6 O1.To,i6 O1.E,i6 O1.At]) (.inl rfl) o results162 rfl isAgg174 sizeOf174 rfl (u.ld.cellsB t0) ⟨H16,_,rfl,(show Enc.rep (α:=leadlineref03_Read) H16 [SL V4 O1.L E4,i6 O1.To,i6 O1.E,i6 O1.At] O1 from ⟨_,_,rfl,⟨_,_,rfl,W6,X6⟩,⟨_,_,rfl,rfl,⟨_,_,rfl,rfl,rfl⟩⟩⟩),A3,(St.le u),u.keep⟩
 refine tn<|cfv o rfl T3<|wk<|tn<|th<|?_
 obtain ⟨F4,n7,hm⟩:=bs hm
 refine rg<|qm o rfl λo=>?_
 iterate 3 refine qm o rfl λo=>?_
 refine qv o (Ap o rfl rfl) λo=>ls<|c1 o rfl call162 (ih_Z1l (St.le u) S0 D0 n7) ⟨rfl,rfl,rfl,rfl,trivial⟩ (λv w a hR o=>?_)
 obtain ⟨H28,cs29,rfl,u7,Y0,Y6,hk⟩:=hR
 obtain ⟨u,Y0⟩:=And.intro (St.passH u hk Y0 Y6) (St.extc u Y0)
 obtain ⟨d6,Q5,rfl,k6,n6⟩:=Bd u7
 refine ls<|Aw (cs:=[.slice none 0 0,i6 0,i6 0,i6 0].toArray) o rfl u zeroValue174 rfl λC1 w a u o=>ls<|Ba o u sizeOf174 rfl rfl rfl rfl (Am rfl) .head λw u=>re<|tn<|th<|Au (λa w=>∃ (M0:(List api_Node)) (E2:Int) (F2:Int) (G2:Int) (I2:PH) (B2:Option Addr) (P1:Nat),Z1m M0 E2 F2 G2=some r∧Ext w0 H28 I2∧Fr 91 [(8,PT b9),(9,PT C1)] a∧St w0 Nil [I2] [bk b9 [.slice none 0 0,i6 0,i6 0,i6 0] 174,bk C1 [SL B2 M0 P1,i6 E2,i6 F2,i6 G2] 174] w∧M0.length≤P1∧SR I2 B2 M0) ?_ ?_
 replace u:=u.pk [1,0] rfl
 refine wb<|lp (α:=Nat×(List api_Node)×Int×Int×Int) (λgh a w=>match gh with | (T1,I0,K0,P0,Q0)=>∃ (U1:PH) (U0:Option Addr) (O0:Nat),(Z1p (Z1l N) N Z1m p1 p7 p8) T1 I0 K0 P0 Q0=some r∧Ext w0 H28 U1∧Fr 91 [(0,SL R0 p1 G0),(2,i6 p7),(3,i6 p8),(8,PT b9),(9,PT C1)] a∧St w0 Nil [U1] [bk b9 [.slice none 0 0,i6 0,i6 0,i6 0] 174,bk C1 [SL U0 I0 O0,i6 K0,i6 P0,i6 Q0] 174] w∧I0.length≤O0∧SR U1 U0 I0) (λgh=>gh.1) (N,F4.L,F4.To,F4.E,F4.At) ⟨H28,d6,Q5,hm,(Ext.refl _ _),o.hs,u,k6,n6⟩ ?_
 rintro ⟨T1,I0,K0,P0,Q0⟩ a w ⟨U1,U0,O0,hm,X0,o,u,hcB13,hrB14⟩
 obtain _ | T1:=T1
 simp [Z1p] at hm
 rw [Z1p] at hm
 refine th<|th<|rg<|qv o (Af o Hq rfl) λo=>qv o (Ag o isAgg29 rfl (u.ld.cellB t1 rfl)) λo=>qv o (Al o rfl rfl) λo=>re<|?_
 rcases bip hm with ⟨U3,hm⟩ | ⟨U3,hm⟩
 refine tn<|ctv o rfl U3<|wk<|tn<|wb<|th<|rg<|qa o rfl λo=>re<|tn<|th<|th<|rg<|qa o rfl λo=>re<|tn<|Au (λa w=>∃ (E1:Int) (G3:PH),(Z1n (Z1l N) ((Z1p (Z1l N) N Z1m p1 p7 p8) T1) p1 p7 p8 I0 K0 P0 Q0) E1=some r∧Ext w0 U1 G3∧Fr 91 [(0,SL R0 p1 G0),(2,i6 p7),(3,i6 p8),(8,PT b9),(9,PT C1),(10,i6 E1)] a∧St w0 Nil [G3] [bk b9 [.slice none 0 0,i6 0,i6 0,i6 0] 174,bk C1 [SL U0 I0 O0,i6 K0,i6 P0,i6 Q0] 174] w) ?_ ?_
 refine wb<|lp (α:=Nat×Int×Int) (λgh a w=>match gh with | (J2,I3,K2)=>∃ (HD1:PH),(Z1q N (Z1n (Z1l N) ((Z1p (Z1l N) N Z1m p1 p7 p8) T1) p1 p7 p8 I0 K0 P0 Q0) p1 p8 K0) J2 I3 K2=some r∧Ext w0 U1 HD1∧Fr 91 [(0,SL R0 p1 G0),(2,i6 p7),(3,i6 p8),(8,PT b9),(9,PT C1),(10,i6 I3),(11,i6 K2)] a∧St w0 Nil [HD1] [bk b9 [.slice none 0 0,i6 0,i6 0,i6 0] 174,bk C1 [SL U0 I0 O0,i6 K0,i6 P0,i6 Q0] 174] w) (λgh=>gh.1) (N,0,0) ⟨U1,hm,(Ext.refl _ _),o.hs,u⟩ ?_
 rintro ⟨J2,I3,K2⟩ a w ⟨HD1,hm,hxHD1,o,u⟩
 obtain _ | J2:=J2
 simp [Z1q] at hm
 rw [Z1q] at hm
 refine th<|th<|?_
 obtain ⟨v7,z7,hm⟩:=bs hm
 refine rg<|qm o rfl λo=>qm o rfl λo=>ls<|c1 o rfl call171 (Vv (St.le u) z7) ⟨rfl,trivial⟩ (λv w a hR o=>?_)
 obtain ⟨H42,X8,P8,rfl,Y8,d8,R1,u6,hk⟩:=hR
 obtain ⟨u,R1⟩:=And.intro (St.passH u hk R1 u6) (St.extc u R1)
 refine qv o (Ak (α:=Int) (xs:=v7) o runUnderlying42 rfl) λo=>qv o (Aq o rfl rfl) λo=>re<|?_
 rcases bip hm with ⟨V3,hm⟩ | ⟨V3,hm⟩
 refine tn<|ctv o rfl V3<|wk<|tn<|th<|Au (λa w=>∃ (G4:Int) (HE1:PH),(Z1o (Z1q N (Z1n (Z1l N) ((Z1p (Z1l N) N Z1m p1 p7 p8) T1) p1 p7 p8 I0 K0 P0 Q0) p1 p8 K0 J2) K2) G4=some r∧Ext w0 H42 HE1∧Fr 91 [(0,SL R0 p1 G0),(2,i6 p7),(3,i6 p8),(8,PT b9),(9,PT C1),(10,i6 G4),(11,i6 K2)] a∧St w0 Nil [HE1] [bk b9 [.slice none 0 0,i6 0,i6 0,i6 0] 174,bk C1 [SL U0 I0 O0,i6 K0,i6 P0,i6 Q0] 174] w) ?_ ?_
 refine wb<|th<|?_
 obtain ⟨E9,A8,hm⟩:=bs hm
 obtain ⟨B8,W4,hm⟩:=bs hm
 obtain ⟨F9,C8,hm⟩:=bs hm
 obtain ⟨G9,D8,hm⟩:=bs hm
 refine rdS 10 u wide λw u=>dr 0 u o rfl (Ab o rfl) λo=>dr 1 u o rfl (Af o Ez rfl) λo=>dq 2 u.ld o rfl (λw hl=>Ag o isAgg3 rfl (hl.cellB t1 rfl)) λo=>dr 3 u o rfl (Ab o rfl) λo=>dr 5 u o rfl (Ab o rfl) λo=>da1 (i:=4) (by kernel_rfl) ?_
 refine di (i:=4) rfl<|c1 o rfl call171 (Vv (St.le u) A8) ⟨rfl,trivial⟩ (λv w a hR o=>?_)
 obtain ⟨H53,e8,Q8,rfl,k8,X4,V0,v6,hk⟩:=hR
 obtain ⟨u,V0⟩:=And.intro (St.passH u hk V0 v6) (St.extc u V0)
 refine ⟨λ_=>(St.ldsX u V0.sub i1),?_⟩
 refine ds 6 (St.ldsX u V0.sub i1) o rfl (An o runUnderlying42 sizeOf3 rfl rfl W4 (SR.oaI X4 (by decide) W4)) λo=>?_
 obtain ⟨E8,F8,y6⟩:=SR.get X4 W4
 obtain rfl:E8=[i6 B8]:=F8
 refine da1 (i:=7) (by kernel_rfl) ?_
 refine di (i:=7) rfl<|q1 o rfl (Ag o isAgg3 rfl (PH.le.cell (Lds.le u.ld) (y6 0 _ rfl))) λa o=>⟨λ_=>(St.ldsX u V0.sub i1),?_⟩
 refine da1 (i:=8) (by kernel_rfl) ?_
 refine di (i:=8) rfl<|cr o call172 (JbC (Ai _) C8) u λu o=>⟨λ_=>(St.ldsX u V0.sub i1),?_⟩
 refine da1 (i:=9) (by kernel_rfl) ?_
 refine di (i:=9) rfl<|cr o call139 (Jt (Ai _) S0 (St.srH u (D0.mono (cp (cp (cp (cp V0.sub R1.sub) hxHD1.sub) X0.sub) Y0.sub))) D8) u λu o=>⟨λ_=>(St.ldsX u V0.sub i1),?_⟩
 refine de (by kernel_rfl)<|?_
 rcases bit hm with ⟨W3,hm⟩ | ⟨W3,hm⟩
 refine tn<|ctv o rfl W3<|?_
 obtain ⟨I9,G8,hm⟩:=bs hm
 obtain ⟨n5,Y4,hm⟩:=bs hm
 refine rg<|qm o rfl λo=>ls<|c1 o rfl call171 (Vv (St.le u) G8) ⟨rfl,trivial⟩ (λv w a hR o=>?_)
 obtain ⟨H73,l8,R8,rfl,n8,d4,B3,z6,hk⟩:=hR
 obtain ⟨u,B3⟩:=And.intro (St.passH u hk B3 z6) (St.extc u B3)
 refine qm o rfl λo=>qv o (An o runUnderlying42 sizeOf3 rfl rfl Y4 (SR.oaI d4 (by decide) Y4)) λo=>?_
 obtain ⟨I8,J8,A7⟩:=SR.get d4 Y4
 obtain rfl:I8=[i6 n5]:=J8
 refine qv o (Ag o isAgg3 rfl (PH.le.cell (Lds.le u.ld) (A7 0 _ rfl))) λo=>qa o rfl λo=>re<|bn<|tn<|?_
 exact ⟨n5,H73,hm,(Ext.trans V0 B3),o.hs,u⟩
 refine tn<|cfv o rfl W3<|wk<|bn<|tn<|?_
 exact ⟨I3,H53,hm,V0,o.hs,u⟩
 rintro a w ⟨G4,HE1,hm,hxHE1,o,u⟩
 unfold Z1o at hm
 refine rg<|qm o rfl λo=>qv o (Ap o rfl rfl) λo=>qa o rfl λo=>re<|tn<|?_
 exact ⟨(J2,G4,(IntKind.i64.wrap (K2+1))),⟨HE1,hm,(Ext.trans hxHD1 (Ext.trans R1 hxHE1)),o.hs,u⟩,Nat.lt_succ_self _⟩
 refine tn<|cfv o rfl V3<|we<|tx<|tx<|bx<|tn<|?_
 exact ⟨I3,H42,hm,(Ext.trans hxHD1 R1),o.hs,u⟩
 rintro a w ⟨E1,G3,hm,hxHC1,o,u⟩
 unfold Z1n at hm
 refine th<|th<|rg<|qm o rfl λo=>qv o (Al o rfl rfl) λo=>re<|?_
 rcases bip hm with ⟨X3,hm⟩ | ⟨X3,hm⟩
 refine tn<|ctv o rfl X3<|th<|rg<|qv o (Ay o Tryz.isAgg174 Tryz.sizeOf174 rfl rfl (u.ld.cellsB t1)) λo=>ls<|Ba o u sizeOf174 rfl rfl rfl rfl (Am rfl) .head λw u=>re<|tn<|wr<|tr<|br<|tr<|br<|tr<|?_
 obtain rfl:=si hm
 exact r1c (vs:=[SL U0 I0 O0,i6 K0,i6 P0,i6 Q0]) (.inl rfl) o results162 rfl isAgg174 sizeOf174 rfl (u.ld.cellsB t0) ⟨G3,_,rfl,(show Enc.rep (α:=leadlineref03_Read) G3 [SL U0 I0 O0,i6 K0,i6 P0,i6 Q0] (leadlineref03_Read.mk I0 K0 P0 Q0) from ⟨_,_,rfl,⟨_,_,rfl,hcB13,(hrB14.mono hxHC1.sub)⟩,⟨_,_,rfl,rfl,⟨_,_,rfl,rfl,rfl⟩⟩⟩),(Ext.trans Y0 (Ext.trans X0 hxHC1)),(St.le u),u.keep⟩
 refine tn<|cfv o rfl X3<|wk<|tn<|th<|?_
 obtain ⟨T0,K8,hm⟩:=bs hm
 refine rg<|qm o rfl λo=>qv o (Af o Ez rfl) λo=>qv o (Ag o isAgg3 rfl (u.ld.cellB t1 rfl)) λo=>qv o (Ap o rfl rfl) λo=>?_
 iterate 2 refine qm o rfl λo=>?_
 refine qv o (Ap o rfl rfl) λo=>ls<|c1 o rfl call162 (ih_Z1l (St.le u) S0 (D0.mono (cp (cp hxHC1.sub X0.sub) Y0.sub)) K8) ⟨rfl,rfl,rfl,rfl,trivial⟩ (λv w a hR o=>?_)
 obtain ⟨H89,cs90,rfl,L8,u0,B7,hk⟩:=hR
 obtain ⟨u,u0⟩:=And.intro (St.passH u hk u0 B7) (St.extc u u0)
 obtain ⟨k4,I4,rfl,C7,l4⟩:=Bd L8
 refine ls<|Aw (cs:=[.slice none 0 0,i6 0,i6 0,i6 0].toArray) o rfl u zeroValue174 rfl λJ9 w a u o=>ls<|Ba o u sizeOf174 rfl rfl rfl rfl (Am rfl) .head λw u=>re<|tn<|th<|th<|rg<|qv o (Af o Hq rfl) λo=>qv o (Ag o isAgg29 rfl (u.ld.cellB t0 rfl)) λo=>qv o (Bt o rfl rfl) λo=>re<|?_
 rcases bip hm with ⟨Y3,hm⟩ | ⟨Y3,hm⟩
 refine tn<|ctv o rfl Y3<|th<|rg<|qv o (Ay o Tryz.isAgg174 Tryz.sizeOf174 rfl rfl (u.ld.cellsB t0)) λo=>ls<|Ba o u sizeOf174 rfl rfl rfl rfl (Am rfl) (.tail .head) λw u=>re<|tn<|wr<|tr<|br<|tr<|br<|tr<|?_
 obtain rfl:=si hm
 exact r1c (vs:=[SL k4 T0.L I4,i6 T0.To,i6 T0.E,i6 T0.At]) (.inl rfl) o results162 rfl isAgg174 sizeOf174 rfl (u.ld.cellsB t1) ⟨H89,_,rfl,(show Enc.rep (α:=leadlineref03_Read) H89 [SL k4 T0.L I4,i6 T0.To,i6 T0.E,i6 T0.At] T0 from ⟨_,_,rfl,⟨_,_,rfl,C7,l4⟩,⟨_,_,rfl,rfl,⟨_,_,rfl,rfl,rfl⟩⟩⟩),(Ext.trans Y0 (Ext.trans X0 (Ext.trans hxHC1 u0))),(St.le u),u.keep⟩
 refine tn<|cfv o rfl Y3<|wk<|tn<|th<|?_
 obtain ⟨C2,u4,hm⟩:=bs hm
 obtain ⟨v8,D7,R5⟩:=SR.get D0 u4
 obtain rfl:=Bb D7
 refine rg<|qm o rfl λo=>qm o rfl λo=>qv o (Af o Ez rfl) λo=>qv o (Ag o isAgg3 rfl (u.ld.cellB t2 rfl)) λo=>qv o (An o runUnderlying120 sizeOf130 rfl rfl u4 (SR.oaI D0 (by decide) u4)) λo=>qv o (Af o Dh rfl) λo=>qv o (Ag o isAgg3 rfl (PH.le.cell (λb o hx=>(Lds.le u.ld) b o ((cp (cp (cp u0.sub hxHC1.sub) X0.sub) Y0.sub) b o hx)) (R5 3 _ rfl))) λo=>qv o (Bu [i6 E1,i6 C2.At] [i6 E1,i6 0,Ac [],i6 C2.At] o ⟨rfl,rfl,trivial⟩ (λw=>by kernel_rfl)) λo=>ls<|Bl (e:=90) (sz:=4) [i6 E1,i6 0,Ac [],i6 C2.At] o rfl u rfl rfl rfl (λw=>by kernel_rfl) λy8 w a u o=>?_
 have S5:Rows (α:=api_Node) H89 [i6 E1,i6 0,Ac [],i6 C2.At] ([(api_Node.mk E1 0 [] C2.At)]:List api_Node):=(.cons (c:=[i6 E1,i6 0,Ac [],i6 C2.At]) ⟨_,_,rfl,rfl,⟨_,_,rfl,rfl,⟨_,_,rfl,rfl,rfl⟩⟩⟩ .nil)
 refine qa o rfl λo=>re<|tn<|th<|?_
 obtain ⟨E7,F7,hm⟩:=bs hm
 refine rg<|qm o rfl λo=>qv o (Af o Gl rfl) λo=>qv o (Ag o isAgg49 rfl (u.ld.cellB t3 rfl)) λo=>?_
 obtain ⟨us112,hd113,hu114⟩:=id (hrB14.mono (cp u0.sub hxHC1.sub))
 refine ls<|Cl (α:=api_Node) (xs:=([(api_Node.mk E1 0 [] C2.At)]:List api_Node)) (ys:=I0) o rfl u underlying49 Qy rfl (by decide) rfl rfl rfl t0 S5 (u.rdH t0 hd113) hu114 F7 λS8 M8 T8 w a T5 hU o=>?_
 replace u:=hU _ .head
 refine qa o rfl λo=>re<|tn<|th<|?_
 obtain ⟨S1,G7,hm⟩:=bs hm
 refine rg<|qm o rfl λo=>qv o (Af o Gl rfl) λo=>qv o (Ag o isAgg49 rfl (u.ld.cellB t1 rfl)) λo=>?_
 obtain ⟨us121,hd122,hu123⟩:=id l4
 refine ls<|Cl (α:=api_Node) (xs:=E7) (ys:=T0.L) o rfl u underlying49 Qy rfl (by decide) rfl rfl rfl t0 T5 (u.rdH t0 hd122) hu123 G7 λQ1 B1 U8 w a J4 hU o=>?_
 replace u:=hU _ .head
 refine qa o rfl λo=>re<|tn<|th<|rg<|qm o rfl λo=>qv o (Af o Ez rfl) λo=>qv o (Ag o isAgg3 rfl (u.ld.cellB t1 rfl)) λo=>qv o (Bu [SL Q1 S1 B1,i6 T0.To] [SL Q1 S1 B1,i6 T0.To,i6 0,i6 0] o ⟨rfl,rfl,trivial⟩ (λw=>by kernel_rfl)) λo=>ls<|Ba o u sizeOf174 rfl rfl rfl rfl (Am rfl) (.tail (.tail (.tail .head))) λw u=>re<|tn<|th<|rg<|qm o rfl λo=>qv o (Al o rfl rfl) λo=>re<|?_
 rcases bip hm with ⟨C3,hm⟩ | ⟨C3,hm⟩
 refine tn<|ctv o rfl C3<|th<|rg<|qv o (Ay o Tryz.isAgg174 Tryz.sizeOf174 rfl rfl (u.ld.cellsB t3)) λo=>ls<|Ba o u sizeOf174 rfl rfl rfl rfl (Am rfl) (.tail (.tail .head)) λw u=>re<|tn<|wr<|br<|tr<|br<|tr<|?_
 obtain ⟨H128,U5,V5,W5,u⟩:=St.frzS u .head J4
 obtain rfl:=si hm
 exact r1c (vs:=[SL Q1 S1 B1,i6 T0.To,i6 0,i6 0]) (.inl rfl) o results162 rfl isAgg174 sizeOf174 rfl (u.ld.cellsB t1) ⟨H128,_,rfl,(show Enc.rep (α:=leadlineref03_Read) H128 [SL Q1 S1 B1,i6 T0.To,i6 0,i6 0] (leadlineref03_Read.mk S1 T0.To 0 0) from ⟨_,_,rfl,⟨_,_,rfl,W5,V5⟩,⟨_,_,rfl,rfl,⟨_,_,rfl,rfl,rfl⟩⟩⟩),(Ext.trans Y0 (Ext.trans X0 (Ext.trans hxHC1 (Ext.trans u0 U5)))),(St.le u),u.keep⟩
 refine tn<|cfv o rfl C3<|wk<|bn<|tn<|?_
 obtain ⟨O8,hxB5,hrB6,hcB7,u⟩:=St.frzS u .head J4
 replace u:=u.pk [1,1] rfl
 exact ⟨(T1,S1,T0.To,0,0),⟨O8,Q1,B1,hm,(Ext.trans X0 (Ext.trans hxHC1 (Ext.trans u0 hxB5))),o.hs,u,hcB7,hrB6⟩,Nat.lt_succ_self _⟩
 refine tn<|cfv o rfl U3<|we<|tx<|tx<|bx<|tn<|?_
 exact ⟨I0,K0,P0,Q0,U1,U0,O0,hm,X0,o.has ⟨rfl,rfl,trivial⟩,u,hcB13,hrB14⟩
 rintro a w ⟨M0,E2,F2,G2,I2,B2,P1,hm,X5,o,u,hcA5,hrA6⟩
 unfold Z1m at hm
 refine th<|rg<|qv o (Ay o Tryz.isAgg174 Tryz.sizeOf174 rfl rfl (u.ld.cellsB t1)) λo=>ls<|Ba o u sizeOf174 rfl rfl rfl rfl (Am rfl) .head λw u=>re<|tn<|wr<|?_
 obtain rfl:=si hm
 exact r1c (vs:=[SL B2 M0 P1,i6 E2,i6 F2,i6 G2]) (.inl rfl) o results162 rfl isAgg174 sizeOf174 rfl (u.ld.cellsB t0) ⟨I2,_,rfl,(show Enc.rep (α:=leadlineref03_Read) I2 [SL B2 M0 P1,i6 E2,i6 F2,i6 G2] (leadlineref03_Read.mk M0 E2 F2 G2) from ⟨_,_,rfl,⟨_,_,rfl,hcA5,hrA6⟩,⟨_,_,rfl,rfl,⟨_,_,rfl,rfl,rfl⟩⟩⟩),(Ext.trans Y0 X5),(St.le u),u.keep⟩
theorem JbD:∀ (N:Nat) {w0:World} {H:PH} (_:H.le w0) {D0:Option Addr} {C0:Nat} {p1:(List api_Token)} (_:p1.length≤C0) (_:SR H D0 p1) {p6:Int} {p7:Int} {p8:Int} {r:leadlineref03_Read} (_:Z1l N p1 p6 p7 p8=some r),Tot Tryz.prog 162 #[SL D0 p1 C0,i6 p6,i6 p7,i6 p8] w0 (λv w'=>∃ (H':PH) (cs0:List Value),v=.agg cs0.toArray∧Enc.rep H' cs0 r∧Ext w0 H H'∧H'.le w'∧Keep Nil w0 w'):=λN=>(JbE N).2
theorem Ym (hH:H.le w0) {R0:Option Addr} {I0:Nat} {p1:(List api_Token)} (W0:p1.length≤I0) (D0:SR H R0 p1) {p6:Int} {r:((List api_Node)×Int×Int×Int)} (hm:Z1s N p1 p6=some r):Tot Tryz.prog 142 #[SL R0 p1 I0,i6 p6] w0 (λv w'=>∃ (H':PH) (S0:Option Addr) (J0:Nat),v=.tuple #[SL S0 r.1 J0,i6 r.2.1,i6 r.2.2.1,i6 r.2.2.2]∧r.1.length≤J0∧SR H' S0 r.1∧Ext w0 H H'∧H'.le w'∧Keep Nil w0 w'):=by
 unfold Z1s at hm
 refine fn0 func142 rfl ntmps142 rfl rfl λa o=>?_
 have u:St w0 Nil [H] [] w0:=start1 hH
 refine th<|rg<|qa o rfl λo=>?_
 iterate 3 refine qa o rfl λo=>?_
 refine re<|tn<|th<|th<|rg<|qm o rfl λo=>qv o (Aq o rfl rfl) λo=>re<|?_
 rcases bip hm with ⟨K0,hm⟩ | ⟨K0,hm⟩
 refine tn<|ctv o rfl K0<|th<|rg<|qa o rfl λo=>?_
 iterate 3 refine qa o rfl λo=>?_
 refine re<|tn<|wr<|tr<|?_
 obtain rfl:=si hm
 exact Go.LM.r4 o results142 rfl rfl rfl rfl ⟨H,_,_,rfl,(Nat.le_refl 0),(SR.nil _ _),(Ext.refl _ _),(St.le u),u.keep⟩
 refine tn<|cfv o rfl K0<|wk<|tn<|th<|?_
 obtain ⟨X0,h9,hm⟩:=bs hm
 refine rg<|qm o rfl λo=>qm o rfl λo=>ls<|c1 o rfl call162 (JbD _ (St.le u) W0 D0 h9) ⟨rfl,rfl,rfl,rfl,trivial⟩ (λv w a hR o=>?_)
 obtain ⟨H13,cs14,rfl,Y0,C0,T0,hk⟩:=hR
 obtain ⟨u,C0⟩:=And.intro (St.passH u hk C0 T0) (St.extc u C0)
 obtain ⟨C1,B1,rfl,M0,O0⟩:=Bd Y0
 refine ls<|Aw (cs:=[.slice none 0 0,i6 0,i6 0,i6 0].toArray) o rfl u zeroValue174 rfl λE1 w a u o=>ls<|Ba o u sizeOf174 rfl rfl rfl rfl (Am rfl) .head λw u=>re<|tn<|th<|th<|rg<|qv o (Af o Hq rfl) λo=>qv o (Ag o isAgg29 rfl (u.ld.cellB t0 rfl)) λo=>qv o (Bt o rfl rfl) λo=>re<|?_
 rcases bip hm with ⟨E0,hm⟩ | ⟨E0,hm⟩
 refine tn<|ctv o rfl E0<|th<|rxS 8 u wide (by kernel_rfl) λw u=>xr u o (Af o Hq rfl) λo=>xq u.ld o (λw hl=>Ag o isAgg29 rfl (hl.cellB t0 rfl)) λo=>xr u o (Af o Wx rfl) λo=>xq u.ld o (λw hl=>Ag o isAgg3 rfl (hl.cellB t0 rfl)) λo=>?_
 iterate 4 refine xq u.ld o (λw hl=>Bo o rfl) λo=>?_
 refine xe<|tn<|wr<|tr<|?_
 obtain rfl:=si hm
 exact Go.LM.r4 o results142 rfl rfl rfl rfl ⟨H13,_,_,rfl,(Nat.le_refl 0),(SR.nil _ _),C0,(St.le u),u.keep⟩
 refine tn<|cfv o rfl E0<|wk<|tn<|th<|th<|?_
 obtain ⟨F1,j0,hm⟩:=bs hm
 refine rg<|qv o (Af o Gl rfl) λo=>qv o (Ag o isAgg49 rfl (u.ld.cellB t0 rfl)) λo=>ls<|cr o call134 (Yw _ (Ai _) M0 (St.srH u O0) j0) u λu o=>qv o (Be o rfl rfl) λo=>re<|?_
 rcases bip hm with ⟨F0,hm⟩ | ⟨F0,hm⟩
 refine tn<|ctv o rfl F0<|th<|?_
 obtain ⟨G1,P0,hm⟩:=bs hm
 obtain ⟨I1,n0,U0⟩:=SR.get D0 P0
 obtain rfl:=Bb n0
 refine rxS 9 u wide (by kernel_rfl) λw u=>?_
 iterate 2 refine xq u.ld o (λw hl=>Ab o rfl) λo=>?_
 refine xr u o (An o runUnderlying120 sizeOf130 rfl rfl P0 (SR.oaI D0 (by decide) P0)) λo=>xr u o (Af o Dh rfl) λo=>xq u.ld o (λw hl=>Ag o isAgg3 rfl (PH.le.cell (λb o hx=>(Lds.le hl) b o (C0.sub b o hx)) (U0 3 _ rfl))) λo=>?_
 iterate 4 refine xq u.ld o (λw hl=>Bo o rfl) λo=>?_
 refine xe<|tn<|wr<|tr<|?_
 obtain rfl:=si hm
 exact Go.LM.r4 o results142 rfl rfl rfl rfl ⟨H13,_,_,rfl,(Nat.le_refl 0),(SR.nil _ _),C0,(St.le u),u.keep⟩
 refine tn<|cfv o rfl F0<|wk<|tn<|th<|th<|rg<|qv o (Af o Gl rfl) λo=>qv o (Ag o isAgg49 rfl (u.ld.cellB t0 rfl)) λo=>qv o (Ak (α:=api_Node) (xs:=X0.L) o runUnderlying49 rfl) λo=>qv o (Be o rfl rfl) λo=>re<|?_
 rcases bip hm with ⟨G0,hm⟩ | ⟨G0,hm⟩
 refine tn<|ctv o rfl G0<|th<|?_
 obtain ⟨J1,Q0,hm⟩:=bs hm
 obtain ⟨M1,u0,V0⟩:=SR.get D0 Q0
 obtain rfl:=Bb u0
 refine rxS 9 u wide (by kernel_rfl) λw u=>?_
 iterate 2 refine xq u.ld o (λw hl=>Ab o rfl) λo=>?_
 refine xr u o (An o runUnderlying120 sizeOf130 rfl rfl Q0 (SR.oaI D0 (by decide) Q0)) λo=>xr u o (Af o Dh rfl) λo=>xq u.ld o (λw hl=>Ag o isAgg3 rfl (PH.le.cell (λb o hx=>(Lds.le hl) b o (C0.sub b o hx)) (V0 3 _ rfl))) λo=>?_
 iterate 4 refine xq u.ld o (λw hl=>Bo o rfl) λo=>?_
 refine xe<|tn<|wr<|tr<|?_
 obtain rfl:=si hm
 exact Go.LM.r4 o results142 rfl rfl rfl rfl ⟨H13,_,_,rfl,(Nat.le_refl 0),(SR.nil _ _),C0,(St.le u),u.keep⟩
 refine tn<|cfv o rfl G0<|wk<|tn<|th<|rxS 8 u wide (by kernel_rfl) λw u=>xr u o (Af o Gl rfl) λo=>xq u.ld o (λw hl=>Ag o isAgg49 rfl (hl.cellB t0 rfl)) λo=>xr u o (Af o Ez rfl) λo=>xq u.ld o (λw hl=>Ag o isAgg3 rfl (hl.cellB t0 rfl)) λo=>?_
 iterate 4 refine xq u.ld o (λw hl=>Bo o rfl) λo=>?_
 refine xe<|tn<|wr<|?_
 obtain rfl:=si hm
 exact Go.LM.r4 o results142 rfl rfl rfl rfl ⟨H13,_,_,rfl,M0,O0,C0,(St.le u),u.keep⟩
theorem N1 (hH:H.le w0) {b2:Nat} {p1:leadlineref04_P} {oa3:Option Addr} {cap4:Nat} (G0:p1.L.length≤cap4) (I0:SR H oa3 p1.L) {oa7:Option Addr} {cap8:Nat} {vs9:List Value} (D0:Rows H vs9 p1.Out) (hO:(sepA [bk b2 [SL oa3 p1.L cap4,i6 p1.At,i6 p1.E,i6 p1.Pos,SL oa7 p1.Out cap8] 171,sla 51 9 oa7 p1.Out.length cap8 vs9]).ok (hp w0)) (hD:∀ b,(sepA [bk b2 [SL oa3 p1.L cap4,i6 p1.At,i6 p1.E,i6 p1.Pos,SL oa7 p1.Out cap8] 171,sla 51 9 oa7 p1.Out.length cap8 vs9]).fp b→H b=none) {r:((List api_Node)×leadlineref04_P)} (hm:Z2i N p1=some r):Tot Tryz.prog 176 #[PT b2] w0 (λv w'=>∃ (H':PH) (K0:Option Addr) (J0:Nat) (oa1m:Option Addr) (cap1m:Nat) (oa2m:Option Addr) (cap2m:Nat) (vs2m:List Value),v=SL K0 r.1 J0∧r.1.length≤J0∧SR H' K0 r.1∧r.2.L.length≤cap1m∧SR H' oa1m r.2.L∧Rows H' vs2m r.2.Out∧ExtM w0 (sepA [bk b2 [SL oa3 p1.L cap4,i6 p1.At,i6 p1.E,i6 p1.Pos,SL oa7 p1.Out cap8] 171,sla 51 9 oa7 p1.Out.length cap8 vs9]).fp H H'∧H'.le w'∧(∀ b,(sepA [bk b2 [SL oa1m r.2.L cap1m,i6 r.2.At,i6 r.2.E,i6 r.2.Pos,SL oa2m r.2.Out cap2m] 171,sla 51 9 oa2m r.2.Out.length cap2m vs2m]).fp b→H' b=none)∧Mut w0 (sepA [bk b2 [SL oa3 p1.L cap4,i6 p1.At,i6 p1.E,i6 p1.Pos,SL oa7 p1.Out cap8] 171,sla 51 9 oa7 p1.Out.length cap8 vs9]) (sepA [bk b2 [SL oa1m r.2.L cap1m,i6 r.2.At,i6 r.2.E,i6 r.2.Pos,SL oa2m r.2.Out cap2m] 171,sla 51 9 oa2m r.2.Out.length cap2m vs2m]) w'):=by
 unfold Z2i at hm
 refine fn0 func176 rfl ntmps176 rfl rfl λa o=>?_
 have u:=Cm hH hO hD
 refine th<|rg<|qa o rfl λo=>re<|tn<|th<|th<|rg<|qm o rfl λo=>qv o (Aj o rfl) λo=>qv o (Af o Bv rfl) λo=>qv o (Ag o isAgg29 rfl (u.ld.cellB t0 rfl)) λo=>qv o (Bt o rfl rfl) λo=>re<|?_
 rcases bip hm with ⟨E0,hm⟩ | ⟨E0,hm⟩
 refine tn<|ctv o rfl E0<|th<|rg<|qa o rfl λo=>re<|tn<|wr<|tr<|?_
 obtain rfl:=si hm
 exact r1 o results176 rfl ⟨H,_,_,oa3,cap4,oa7,cap8,vs9,rfl,(Nat.le_refl 0),(SR.nil _ _),G0,I0,D0,(ExtM.refl _ _ _),(St.le u),(St.disL (u.pickL (.cons .head (.cons .head .nil)))),(u.pickL (.cons .head (.cons .head .nil))).endMut⟩
 refine tn<|cfv o rfl E0<|wk<|tn<|th<|?_
 obtain ⟨T0,Q0,hm⟩:=bs hm
 refine rdS 18 u wide λw u=>dr 0 u o rfl (Ab o rfl) λo=>dr 1 u o rfl (Aj o rfl) λo=>dr 2 u o rfl (Af o Bw rfl) λo=>dq 3 u.ld o rfl (λw hl=>Ag o isAgg120 rfl (hl.cellB t0 rfl)) λo=>dr 4 u o rfl (Ab o rfl) λo=>dr 5 u o rfl (Aj o rfl) λo=>dr 6 u o rfl (Af o Bg rfl) λo=>dq 7 u.ld o rfl (λw hl=>Ag o isAgg3 rfl (hl.cellB t0 rfl)) λo=>da1 (i:=8) (by kernel_rfl) ?_
 refine di (i:=8) rfl<|c1 o rfl call142 (Ym (St.le u) G0 I0 Q0) ⟨rfl,rfl,trivial⟩ (λv w a hR o=>?_)
 obtain ⟨H18,S0,R0,rfl,M0,O0,C0,P0,hk⟩:=hR
 obtain ⟨u,C0⟩:=And.intro (St.passH u hk C0 P0) (St.extcM u C0)
 refine ⟨λ_=>(St.ldsX u C0.sub i1),?_⟩
 refine ds 9 (St.ldsX u C0.sub i1) o rfl (Ab o rfl) λo=>ds 10 (St.ldsX u C0.sub i1) o rfl (Cd o rfl rfl) λo=>ds 11 (St.ldsX u C0.sub i1) o rfl (Cd o rfl rfl) λo=>ds 12 (St.ldsX u C0.sub i1) o rfl (Cd o rfl rfl) λo=>ds 13 (St.ldsX u C0.sub i1) o rfl (Cd o rfl rfl) λo=>ds 14 (St.ldsX u C0.sub i1) o rfl (Bo o rfl) λo=>ds 15 (St.ldsX u C0.sub i1) o rfl (Bo o rfl) λo=>ds 16 (St.ldsX u C0.sub i1) o rfl (Bo o rfl) λo=>ds 17 (St.ldsX u C0.sub i1) o rfl (Bo o rfl) λo=>de (by kernel_rfl)<|tn<|th<|th<|rg<|qm o rfl λo=>qv o (Bt o rfl rfl) λo=>re<|?_
 rcases bip hm with ⟨F0,hm⟩ | ⟨F0,hm⟩
 refine tn<|ctv o rfl F0<|th<|rg<|qm o rfl λo=>qm o rfl λo=>qv o (Aj o rfl) λo=>qv o (Af o Bv rfl) λo=>ls<|Ax o u sizeOf29 rfl rfl rfl rfl .head (.succ (.succ .zero)) λw u=>re<|tn<|th<|rg<|qm o rfl λo=>qm o rfl λo=>qv o (Aj o rfl) λo=>qv o (Af o Gg rfl) λo=>ls<|Ax o u sizeOf3 rfl rfl rfl rfl .head (.succ (.succ (.succ .zero))) λw u=>re<|tn<|th<|rg<|qa o rfl λo=>re<|tn<|wr<|tr<|?_
 obtain rfl:=si hm
 exact r1 o results176 rfl ⟨H18,_,_,oa3,cap4,oa7,cap8,vs9,rfl,(Nat.le_refl 0),(SR.nil _ _),G0,(I0.mono C0.sub),(D0.mono C0.sub),C0,(St.le u),(St.disL (u.pickL (.cons .head (.cons .head .nil)))),(u.pickL (.cons .head (.cons .head .nil))).endMut⟩
 refine tn<|cfv o rfl F0<|wk<|tn<|th<|rg<|qm o rfl λo=>qm o rfl λo=>qv o (Aj o rfl) λo=>qv o (Af o Bg rfl) λo=>ls<|Ax o u sizeOf3 rfl rfl rfl rfl .head (.succ .zero) λw u=>re<|tn<|th<|rg<|qm o rfl λo=>qa o rfl λo=>re<|tn<|wr<|?_
 obtain rfl:=si hm
 exact r1 o results176 rfl ⟨H18,_,_,oa3,cap4,oa7,cap8,vs9,rfl,M0,O0,G0,(I0.mono C0.sub),(D0.mono C0.sub),C0,(St.le u),(St.disL (u.pickL (.cons .head (.cons .head .nil)))),(u.pickL (.cons .head (.cons .head .nil))).endMut⟩
set_option maxHeartbeats 4000000 in
theorem JbX (hH:H.le w0) {b2:Nat} {p1:leadlineref04_P} {oa3:Option Addr} {cap4:Nat} (K0:p1.L.length≤cap4) (C0:SR H oa3 p1.L) {oa7:Option Addr} {cap8:Nat} {vs9:List Value} (F0:Rows H vs9 p1.Out) (hO:(sepA [bk b2 [SL oa3 p1.L cap4,i6 p1.At,i6 p1.E,i6 p1.Pos,SL oa7 p1.Out cap8] 171,sla 51 9 oa7 p1.Out.length cap8 vs9]).ok (hp w0)) (hD:∀ b,(sepA [bk b2 [SL oa3 p1.L cap4,i6 p1.At,i6 p1.E,i6 p1.Pos,SL oa7 p1.Out cap8] 171,sla 51 9 oa7 p1.Out.length cap8 vs9]).fp b→H b=none) {r:(Int×leadlineref04_P)} (hm:Z30 N p1=some r):Tot Tryz.prog 177 #[PT b2] w0 (λv w'=>∃ (H':PH) (oa1m:Option Addr) (cap1m:Nat) (oa2m:Option Addr) (cap2m:Nat) (vs2m:List Value),v=i6 r.1∧r.2.L.length≤cap1m∧SR H' oa1m r.2.L∧Rows H' vs2m r.2.Out∧ExtM w0 (sepA [bk b2 [SL oa3 p1.L cap4,i6 p1.At,i6 p1.E,i6 p1.Pos,SL oa7 p1.Out cap8] 171,sla 51 9 oa7 p1.Out.length cap8 vs9]).fp H H'∧H'.le w'∧(∀ b,(sepA [bk b2 [SL oa1m r.2.L cap1m,i6 r.2.At,i6 r.2.E,i6 r.2.Pos,SL oa2m r.2.Out cap2m] 171,sla 51 9 oa2m r.2.Out.length cap2m vs2m]).fp b→H' b=none)∧Mut w0 (sepA [bk b2 [SL oa3 p1.L cap4,i6 p1.At,i6 p1.E,i6 p1.Pos,SL oa7 p1.Out cap8] 171,sla 51 9 oa7 p1.Out.length cap8 vs9]) (sepA [bk b2 [SL oa1m r.2.L cap1m,i6 r.2.At,i6 r.2.E,i6 r.2.Pos,SL oa2m r.2.Out cap2m] 171,sla 51 9 oa2m r.2.Out.length cap2m vs2m]) w'):=by
 unfold Z30 at hm
 refine fn0 func177 rfl ntmps177 rfl rfl λa o=>?_
 have u:=Cm hH hO hD
 refine th<|rg<|qa o rfl λo=>re<|tn<|th<|th<|Au (λa w=>∃ (M0:Bool),(Z31 N p1) M0=some r∧Fr 65 [(0,PT b2),(34,.bool M0)] a∧St w0 (sepA [bk b2 [SL oa3 p1.L cap4,i6 p1.At,i6 p1.E,i6 p1.Pos,SL oa7 p1.Out cap8] 171,sla 51 9 oa7 p1.Out.length cap8 vs9]).fp [H] [sla 51 9 oa7 p1.Out.length cap8 vs9,bk b2 [SL oa3 p1.L cap4,i6 p1.At,i6 p1.E,i6 p1.Pos,SL oa7 p1.Out cap8] 171] w) ?_ ?_
 rcases bit hm with ⟨G0,hm⟩ | ⟨G0,hm⟩
 obtain ⟨P1,O0,hm⟩:=bs hm
 obtain ⟨U1,Q1,V0⟩:=SR.get C0 O0
 obtain rfl:=Bb Q1
 refine rxS 31 u wide (by kernel_rfl) λw u=>xm u o rfl λo=>xr u o (Aj o rfl) λo=>xr u o (Af o Bv rfl) λo=>xq u.ld o (λw hl=>Ag o isAgg29 rfl (hl.cellB t0 rfl)) λo=>xr u o (Al o rfl rfl) λo=>xm u o rfl λo=>Jbn (N:=65) (Fk:=[(0,PT b2),(20,.bool ((decide (p1.E=0)) && (decide (p1.At < (p1.L.length:Int)))))]) (b:=(decide (p1.E=0))) 11 u ?_ ?_ ?_
 intro hb key
 replace o:=Fr.as o (t:=9) rfl (congrArg Value.bool hb)
 refine xg u.ld o (λw hl=>Ab o rfl) λo=>xg u.ld o (λw hl=>Aj o rfl) λo=>xg u.ld o (λw hl=>Af o Bg rfl) λo=>xg u.ld o (λw hl=>Ag o isAgg3 rfl (hl.cellB t0 rfl)) λo=>xg u.ld o (λw hl=>Ab o rfl) λo=>xg u.ld o (λw hl=>Aj o rfl) λo=>xg u.ld o (λw hl=>Af o Bw rfl) λo=>xg u.ld o (λw hl=>Ag o isAgg120 rfl (hl.cellB t0 rfl)) λo=>xg u.ld o (λw hl=>Ak (α:=api_Token) (xs:=p1.L) o runUnderlying120 rfl) λo=>xg u.ld o (λw hl=>Aq o rfl rfl) λo=>xr u o (As (v':=.bool ((decide (p1.E=0)) && (decide (p1.At < (p1.L.length:Int))))) (Ad o rfl rfl) (by rw [hb];rfl)) λo=>?_
 exact key _ _ (o.has ⟨rfl,rfl,trivial⟩) u
 intro hb key
 replace o:=Fr.as o (t:=9) rfl (congrArg Value.bool hb)
 iterate 10 refine xn u.ld o λo=>?_
 refine xr u o (As (v':=.bool ((decide (p1.E=0)) && (decide (p1.At < (p1.L.length:Int))))) (Ae o rfl rfl) (by rw [hb];rfl)) λo=>?_
 exact key _ _ (o.has ⟨rfl,rfl,trivial⟩) u
 intro a w o u
 refine xr u o (As (Ab o rfl) (congrArg Value.bool G0)) λo=>xg u.ld o (λw hl=>Ab o rfl) λo=>xg u.ld o (λw hl=>Aj o rfl) λo=>xg u.ld o (λw hl=>Af o Bw rfl) λo=>xg u.ld o (λw hl=>Ag o isAgg120 rfl (hl.cellB t0 rfl)) λo=>xg u.ld o (λw hl=>Ab o rfl) λo=>xg u.ld o (λw hl=>Aj o rfl) λo=>xg u.ld o (λw hl=>Af o Bg rfl) λo=>xg u.ld o (λw hl=>Ag o isAgg3 rfl (hl.cellB t0 rfl)) λo=>xg u.ld o (λw hl=>An o runUnderlying120 sizeOf130 rfl rfl O0 (SR.oaI C0 (by decide) O0)) λo=>xg u.ld o (λw hl=>Af o Cr rfl) λo=>xg u.ld o (λw hl=>Ag o isAgg3 rfl (PH.le.cell (Lds.le hl) (V0 0 _ rfl))) λo=>xg u.ld o (λw hl=>Al o rfl rfl) λo=>xr u o (Ad o rfl rfl) λo=>xe<|tn<|?_
 replace u:=u.pk [1,0] rfl
 exact ⟨(decide (P1.Kind=2)),hm,o.has ⟨rfl,rfl,trivial⟩,u⟩
 refine rxS 31 u wide (by kernel_rfl) λw u=>xm u o rfl λo=>xr u o (Aj o rfl) λo=>xr u o (Af o Bv rfl) λo=>xq u.ld o (λw hl=>Ag o isAgg29 rfl (hl.cellB t0 rfl)) λo=>xr u o (Al o rfl rfl) λo=>xm u o rfl λo=>Jbn (N:=65) (Fk:=[(0,PT b2),(20,.bool ((decide (p1.E=0)) && (decide (p1.At < (p1.L.length:Int)))))]) (b:=(decide (p1.E=0))) 11 u ?_ ?_ ?_
 intro hb key
 replace o:=Fr.as o (t:=9) rfl (congrArg Value.bool hb)
 refine xg u.ld o (λw hl=>Ab o rfl) λo=>xg u.ld o (λw hl=>Aj o rfl) λo=>xg u.ld o (λw hl=>Af o Bg rfl) λo=>xg u.ld o (λw hl=>Ag o isAgg3 rfl (hl.cellB t0 rfl)) λo=>xg u.ld o (λw hl=>Ab o rfl) λo=>xg u.ld o (λw hl=>Aj o rfl) λo=>xg u.ld o (λw hl=>Af o Bw rfl) λo=>xg u.ld o (λw hl=>Ag o isAgg120 rfl (hl.cellB t0 rfl)) λo=>xg u.ld o (λw hl=>Ak (α:=api_Token) (xs:=p1.L) o runUnderlying120 rfl) λo=>xg u.ld o (λw hl=>Aq o rfl rfl) λo=>xr u o (As (v':=.bool ((decide (p1.E=0)) && (decide (p1.At < (p1.L.length:Int))))) (Ad o rfl rfl) (by rw [hb];rfl)) λo=>?_
 exact key _ _ (o.has ⟨rfl,rfl,trivial⟩) u
 intro hb key
 replace o:=Fr.as o (t:=9) rfl (congrArg Value.bool hb)
 iterate 10 refine xn u.ld o λo=>?_
 refine xr u o (As (v':=.bool ((decide (p1.E=0)) && (decide (p1.At < (p1.L.length:Int))))) (Ae o rfl rfl) (by rw [hb];rfl)) λo=>?_
 exact key _ _ (o.has ⟨rfl,rfl,trivial⟩) u
 intro a w o u
 refine xr u o (As (Ab o rfl) (congrArg Value.bool G0)) λo=>?_
 iterate 12 refine xn u.ld o λo=>?_
 refine xr u o (Ae o rfl rfl) λo=>xe<|tn<|?_
 replace u:=u.pk [1,0] rfl
 exact ⟨false,hm,o.has ⟨rfl,rfl,trivial⟩,u⟩
 rintro a w ⟨M0,hm,o,u⟩
 unfold Z31 at hm
 rcases bit hm with ⟨I0,hm⟩ | ⟨I0,hm⟩
 refine ctv o rfl I0<|th<|?_
 obtain ⟨P0,Q0,hm⟩:=bs hm
 obtain ⟨V1,R1,W0⟩:=SR.get C0 Q0
 obtain rfl:=Bb R1
 refine rxS 12 u wide (by kernel_rfl) λw u=>xm u o rfl λo=>xr u o (Aj o rfl) λo=>xr u o (Af o Bw rfl) λo=>xq u.ld o (λw hl=>Ag o isAgg120 rfl (hl.cellB t1 rfl)) λo=>xm u o rfl λo=>xr u o (Aj o rfl) λo=>xr u o (Af o Bg rfl) λo=>xq u.ld o (λw hl=>Ag o isAgg3 rfl (hl.cellB t1 rfl)) λo=>xr u o (An o runUnderlying120 sizeOf130 rfl rfl Q0 (SR.oaI C0 (by decide) Q0)) λo=>xr u o (Af o Gf rfl) λo=>xq u.ld o (λw hl=>Ag o isAgg3 rfl (PH.le.cell (Lds.le hl) (W0 2 _ rfl))) λo=>xr u o (Bo o rfl) λo=>xe<|tn<|th<|th<|rg<|qm o rfl λo=>qv o (Bi o rfl rfl) λo=>qm o rfl λo=>gr (Fk:=[(0,PT b2),(3,i6 P0.N),(51,.bool ((decide (1≤P0.N)) && (decide (P0.N≤8))))]) 48 3 o u ?_ ?_ ?_
 intro hb o key
 exact qg o (Ab o rfl) λo=>qg o (Cs o rfl rfl) λo=>qk o (Ad o rfl rfl) key u hb
 intro hb o key
 iterate 2 refine qn o λo=>?_
 exact qk o (Ae o rfl rfl) key u hb
 intro a w o u
 refine re<|?_
 rcases bit hm with ⟨J0,hm⟩ | ⟨J0,hm⟩
 refine tn<|ctv o rfl J0<|th<|rg<|qm o rfl λo=>qm o rfl λo=>qv o (Aj o rfl) λo=>qv o (Af o Bg rfl) λo=>qv o (Ag o isAgg3 rfl (u.ld.cellB t1 rfl)) λo=>qv o (Ap o rfl rfl) λo=>qv o (Aj o rfl) λo=>qv o (Af o Bg rfl) λo=>ls<|Ax o u sizeOf3 rfl rfl rfl rfl (.tail .head) (.succ .zero) λw u=>re<|tn<|th<|rg<|qm o rfl λo=>qa o rfl λo=>re<|tn<|wr<|tr<|tr<|?_
 obtain rfl:=si hm
 exact r1 o results177 rfl ⟨H,oa3,cap4,oa7,cap8,vs9,rfl,K0,C0,F0,(ExtM.refl _ _ _),(St.le u),(St.disL (u.pickL (.cons (.tail .head) (.cons .head .nil)))),(u.pickL (.cons (.tail .head) (.cons .head .nil))).endMut⟩
 refine tn<|cfv o rfl J0<|wk<|tn<|th<|?_
 obtain ⟨X1,S1,hm⟩:=bs hm
 refine rg<|qm o rfl λo=>?_
 replace u:=u.pk [1,0] rfl
 replace u:=St.sep [bk b2 [SL oa3 p1.L cap4,i6 p1.At,i6 p1.E,i6 p1.Pos,SL oa7 p1.Out cap8] 171,sla 51 9 oa7 p1.Out.length cap8 vs9] u
 refine ls<|c1 o rfl call167 (Mx (St.le u) (p1:=(leadlineref04_P.mk p1.L p1.At p1.E p1.Pos p1.Out)) (b2:=b2) (oa3:=oa3) (cap4:=cap4) (oa7:=oa7) (cap8:=cap8) (vs9:=vs9) K0 C0 F0 (St.sepOk u) (St.sepDis u) S1) ⟨rfl,rfl,trivial⟩ (λv w a hR o=>?_)
 obtain ⟨H30,X0,R0,Y0,S0,j0,rfl,n0,u0,B1,D0,C1,hd29,hk⟩:=hR
 obtain ⟨u,D0⟩:=And.intro (St.mutH u hk D0 C1 hd29) (St.extcMM u D0)
 replace u:=u.unsep
 refine re<|tn<|th<|rg<|qa o rfl λo=>re<|tn<|wr<|tr<|?_
 obtain rfl:=si hm
 exact r1 o results177 rfl ⟨H30,X0,R0,Y0,S0,j0,rfl,n0,u0,B1,D0,(St.le u),(St.disL (u.pickL (.cons .head (.cons .head .nil)))),(u.pickL (.cons .head (.cons .head .nil))).endMut⟩
 refine cfv o rfl I0<|wk<|tn<|th<|?_
 obtain ⟨Y1,T1,hm⟩:=bs hm
 refine rg<|qm o rfl λo=>?_
 replace u:=u.pk [1,0] rfl
 replace u:=St.sep [bk b2 [SL oa3 p1.L cap4,i6 p1.At,i6 p1.E,i6 p1.Pos,SL oa7 p1.Out cap8] 171,sla 51 9 oa7 p1.Out.length cap8 vs9] u
 refine ls<|c1 o rfl call167 (Mx (St.le u) (p1:=(leadlineref04_P.mk p1.L p1.At p1.E p1.Pos p1.Out)) (b2:=b2) (oa3:=oa3) (cap4:=cap4) (oa7:=oa7) (cap8:=cap8) (vs9:=vs9) K0 C0 F0 (St.sepOk u) (St.sepDis u) T1) ⟨rfl,rfl,trivial⟩ (λv w a hR o=>?_)
 obtain ⟨H45,E1,T0,F1,U0,G1,rfl,I1,J1,M1,E0,O1,hd44,hk⟩:=hR
 obtain ⟨u,E0⟩:=And.intro (St.mutH u hk E0 O1 hd44) (St.extcMM u E0)
 replace u:=u.unsep
 refine re<|tn<|th<|rg<|qa o rfl λo=>re<|tn<|wr<|?_
 obtain rfl:=si hm
 exact r1 o results177 rfl ⟨H45,E1,T0,F1,U0,G1,rfl,I1,J1,M1,E0,(St.le u),(St.disL (u.pickL (.cons .head (.cons .head .nil)))),(u.pickL (.cons .head (.cons .head .nil))).endMut⟩
set_option maxHeartbeats 4000000 in
theorem JaQ (hH:H.le w0) {b2:Nat} {p1:leadlineref04_P} {oa3:Option Addr} {cap4:Nat} (T1:p1.L.length≤cap4) (U1:SR H oa3 p1.L) {oa7:Option Addr} {cap8:Nat} {vs9:List Value} (C0:Rows H vs9 p1.Out) {p12:Int} {p13:Int} (hO:(sepA [bk b2 [SL oa3 p1.L cap4,i6 p1.At,i6 p1.E,i6 p1.Pos,SL oa7 p1.Out cap8] 171,sla 51 9 oa7 p1.Out.length cap8 vs9]).ok (hp w0)) (hD:∀ b,(sepA [bk b2 [SL oa3 p1.L cap4,i6 p1.At,i6 p1.E,i6 p1.Pos,SL oa7 p1.Out cap8] 171,sla 51 9 oa7 p1.Out.length cap8 vs9]).fp b→H b=none) {r:(api_Stmt×leadlineref04_P)} (hm:Z2w N p1 p12 p13=some r):Tot Tryz.prog 168 #[PT b2,i6 p12,i6 p13] w0 (λv w'=>∃ (H':PH) (cs0:List Value) (oa1m:Option Addr) (cap1m:Nat) (oa2m:Option Addr) (cap2m:Nat) (vs2m:List Value),v=.agg cs0.toArray∧Enc.rep H' cs0 r.1∧r.2.L.length≤cap1m∧SR H' oa1m r.2.L∧Rows H' vs2m r.2.Out∧ExtM w0 (sepA [bk b2 [SL oa3 p1.L cap4,i6 p1.At,i6 p1.E,i6 p1.Pos,SL oa7 p1.Out cap8] 171,sla 51 9 oa7 p1.Out.length cap8 vs9]).fp H H'∧H'.le w'∧(∀ b,(sepA [bk b2 [SL oa1m r.2.L cap1m,i6 r.2.At,i6 r.2.E,i6 r.2.Pos,SL oa2m r.2.Out cap2m] 171,sla 51 9 oa2m r.2.Out.length cap2m vs2m]).fp b→H' b=none)∧Mut w0 (sepA [bk b2 [SL oa3 p1.L cap4,i6 p1.At,i6 p1.E,i6 p1.Pos,SL oa7 p1.Out cap8] 171,sla 51 9 oa7 p1.Out.length cap8 vs9]) (sepA [bk b2 [SL oa1m r.2.L cap1m,i6 r.2.At,i6 r.2.E,i6 r.2.Pos,SL oa2m r.2.Out cap2m] 171,sla 51 9 oa2m r.2.Out.length cap2m vs2m]) w'):=by
 unfold Z2w at hm
 refine fn0 func168 rfl ntmps168 rfl rfl λa o=>?_
 have u:=Cm hH hO hD
 refine th<|rg<|ls<|Aw (cs:=[i6 0,Ac [],Ac [],.slice none 0 0,.slice none 0 0,i6 0,i6 0,i6 0,i6 0].toArray) o rfl u Tryz.zeroValue51 rfl λD3 w a u o=>re<|tn<|th<|rg<|qm o rfl λo=>qm o rfl λo=>qv o (Bu [i6 p12,i6 p13] [i6 p12,Ac [],Ac [],.slice none 0 0,.slice none 0 0,i6 0,i6 0,i6 0,i6 p13] o ⟨rfl,rfl,trivial⟩ (λw=>by kernel_rfl)) λo=>ls<|Aw (cs:=[i6 0,Ac [],Ac [],.slice none 0 0,.slice none 0 0,i6 0,i6 0,i6 0,i6 0].toArray) o rfl u zeroValue51 rfl λE3 w a u o=>ls<|Ba o u sizeOf51 rfl rfl rfl rfl (Am rfl) .head λw u=>re<|tn<|th<|th<|rg<|qm o rfl λo=>re<|tn<|Au (λa w=>∃ (E4:(List api_Token)) (O5:Int) (P5:Int) (Q5:Int) (K2:(List api_Stmt)) (E1:Str) (F1:Str) (D0:(List api_Node)) (E0:(List api_Node)) (G1:Int) (U0:PH) (I3:Option Addr) (Y1:Nat) (B2:Option Addr) (V0:Nat) (C2:List Value) (W0:Option Addr) (F0:Nat) (X0:Option Addr) (G0:Nat),(Z2x p12 p13) E4 O5 P5 Q5 K2 E1 F1 D0 E0 G1=some r∧ExtM w0 (sepA [bk b2 [SL oa3 p1.L cap4,i6 p1.At,i6 p1.E,i6 p1.Pos,SL oa7 p1.Out cap8] 171,sla 51 9 oa7 p1.Out.length cap8 vs9]).fp H U0∧Fr 82 [(0,PT b2),(6,PT D3),(7,PT E3)] a∧St w0 (sepA [bk b2 [SL oa3 p1.L cap4,i6 p1.At,i6 p1.E,i6 p1.Pos,SL oa7 p1.Out cap8] 171,sla 51 9 oa7 p1.Out.length cap8 vs9]).fp [U0] [sla 51 9 B2 K2.length V0 C2,bk b2 [SL I3 E4 Y1,i6 O5,i6 P5,i6 Q5,SL B2 K2 V0] 171,bk D3 [i6 0,Ac [],Ac [],.slice none 0 0,.slice none 0 0,i6 0,i6 0,i6 0,i6 0] 51,bk E3 [i6 p12,Ac E1,Ac F1,SL W0 D0 F0,SL X0 E0 G0,i6 G1,i6 0,i6 0,i6 p13] 51] w∧E4.length≤Y1∧SR U0 I3 E4∧Rows U0 C2 K2∧D0.length≤F0∧SR U0 W0 D0∧E0.length≤G0∧SR U0 X0 E0) ?_ ?_
 refine wb<|th<|rg<|qv o (Al o rfl rfl) λo=>qa o rfl λo=>re<|?_
 rcases bip hm with ⟨P4,hm⟩ | ⟨P4,hm⟩
 refine tn<|ctv o rfl P4<|th<|?_
 obtain ⟨V1,h18,hm⟩:=bs hm
 refine rg<|qm o rfl λo=>?_
 replace u:=u.pk [2,2,0,0] rfl
 replace u:=St.sep [bk b2 [SL oa3 p1.L cap4,i6 p1.At,i6 p1.E,i6 p1.Pos,SL oa7 p1.Out cap8] 171,sla 51 9 oa7 p1.Out.length cap8 vs9] u
 refine ls<|c1 o rfl call175 (Kk (St.le u) (p1:=p1) (b2:=b2) (oa3:=oa3) (cap4:=cap4) (oa7:=oa7) (cap8:=cap8) (vs9:=vs9) T1 U1 C0 (St.sepOk u) (St.sepDis u) h18) ⟨rfl,trivial⟩ (λv w a hR o=>?_)
 obtain ⟨H22,R5,V4,Q4,J3,S5,rfl,T9,U9,V9,M2,W9,hd21,hk⟩:=hR
 obtain ⟨u,M2⟩:=And.intro (St.mutH u hk M2 W9 hd21) (St.extcMM u M2)
 replace u:=u.unsep
 refine qv o (Af o Cx rfl) λo=>ls<|Ax o u sizeOf9 rfl rfl rfl rfl (.tail (.tail .head)) (.succ .zero) λw u=>re<|tn<|th<|?_
 obtain ⟨O2,h33,hm⟩:=bs hm
 refine rg<|qm o rfl λo=>?_
 replace u:=u.pk [0,0,0,0] rfl
 replace u:=St.sep [bk b2 [SL R5 V1.2.L V4,i6 V1.2.At,i6 V1.2.E,i6 V1.2.Pos,SL Q4 V1.2.Out J3] 171,sla 51 9 Q4 V1.2.Out.length J3 S5] u
 refine ls<|c1 o rfl call161 (Hy (St.le u) (p1:=V1.2) (b2:=b2) (oa3:=R5) (cap4:=V4) (oa7:=Q4) (cap8:=J3) (vs9:=S5) T9 U9 V9 (St.sepOk u) (St.sepDis u) h33) ⟨rfl,rfl,trivial⟩ (λv w a hR o=>?_)
 obtain ⟨H37,T5,W4,R4,K3,U5,rfl,X9,Y9,d9,P2,e9,hd36,hk⟩:=hR
 obtain ⟨u,P2⟩:=And.intro (St.mutH u hk P2 e9 hd36) (St.extcMM u P2)
 replace u:=u.unsep
 refine re<|tn<|?_
 obtain ⟨F3,h48,hm⟩:=bs hm
 refine rg<|qm o rfl λo=>?_
 replace u:=u.pk [0,0,0,0] rfl
 replace u:=St.sep [bk b2 [SL T5 O2.L W4,i6 O2.At,i6 O2.E,i6 O2.Pos,SL R4 O2.Out K3] 171,sla 51 9 R4 O2.Out.length K3 U5] u
 refine ls<|c1 o rfl call176 (N1 (St.le u) (p1:=O2) (b2:=b2) (oa3:=T5) (cap4:=W4) (oa7:=R4) (cap8:=K3) (vs9:=U5) X9 Y9 d9 (St.sepOk u) (St.sepDis u) h48) ⟨rfl,trivial⟩ (λv w a hR o=>?_)
 obtain ⟨H52,k9,R6,l9,S6,n9,T6,o9,rfl,p9,u9,y9,hr60,hv64,Q2,hl50,hd51,hk⟩:=hR
 obtain ⟨u,Q2⟩:=And.intro (St.mutH u hk Q2 hl50 hd51) (St.extcMM u Q2)
 replace u:=u.unsep
 refine qv o (Af o Dx rfl) λo=>ls<|Ax o u sizeOf49 rfl rfl rfl rfl (.tail (.tail .head)) (.succ (.succ (.succ .zero))) λw u=>re<|bn<|tn<|?_
 replace u:=u.pk [1,0,1,0] rfl
 exact ⟨F3.2.L,F3.2.At,F3.2.E,F3.2.Pos,F3.2.Out,V1.1,[],F3.1,[],0,H52,l9,S6,n9,T6,o9,k9,R6,none,0,hm,(ExtM.trans M2 (ExtM.trans P2 Q2)),o.hs,u,y9,hr60,hv64,p9,u9,(Nat.le_refl _),((SR.nil _ _).mono (cp (cp Q2.sub P2.sub) M2.sub))⟩
 refine tn<|cfv o rfl P4<|th<|rg<|qv o (Al o rfl rfl) λo=>qa o rfl λo=>re<|?_
 rcases bip hm with ⟨S4,hm⟩ | ⟨S4,hm⟩
 refine tn<|ctv o rfl S4<|th<|?_
 obtain ⟨X1,h68,hm⟩:=bs hm
 refine rg<|qm o rfl λo=>?_
 replace u:=u.pk [2,2,0,0] rfl
 replace u:=St.sep [bk b2 [SL oa3 p1.L cap4,i6 p1.At,i6 p1.E,i6 p1.Pos,SL oa7 p1.Out cap8] 171,sla 51 9 oa7 p1.Out.length cap8 vs9] u
 refine ls<|c1 o rfl call175 (Kk (St.le u) (p1:=p1) (b2:=b2) (oa3:=oa3) (cap4:=cap4) (oa7:=oa7) (cap8:=cap8) (vs9:=vs9) T1 U1 C0 (St.sepOk u) (St.sepDis u) h68) ⟨rfl,trivial⟩ (λv w a hR o=>?_)
 obtain ⟨H72,V5,X4,T4,L3,W5,rfl,hc75,hr76,hv80,I1,hl70,hd71,hk⟩:=hR
 obtain ⟨u,I1⟩:=And.intro (St.mutH u hk I1 hl70 hd71) (St.extcMM u I1)
 replace u:=u.unsep
 refine qv o (Af o Cx rfl) λo=>ls<|Ax o u sizeOf9 rfl rfl rfl rfl (.tail (.tail .head)) (.succ .zero) λw u=>re<|tn<|th<|?_
 obtain ⟨R2,h83,hm⟩:=bs hm
 refine rg<|qm o rfl λo=>?_
 replace u:=u.pk [0,0,0,0] rfl
 replace u:=St.sep [bk b2 [SL V5 X1.2.L X4,i6 X1.2.At,i6 X1.2.E,i6 X1.2.Pos,SL T4 X1.2.Out L3] 171,sla 51 9 T4 X1.2.Out.length L3 W5] u
 refine ls<|c1 o rfl call161 (Hy (St.le u) (p1:=X1.2) (b2:=b2) (oa3:=V5) (cap4:=X4) (oa7:=T4) (cap8:=L3) (vs9:=W5) hc75 hr76 hv80 (St.sepOk u) (St.sepDis u) h83) ⟨rfl,rfl,trivial⟩ (λv w a hR o=>?_)
 obtain ⟨H87,X5,Y4,U4,M3,Y5,rfl,hc90,hr91,hv95,J1,hl85,hd86,hk⟩:=hR
 obtain ⟨u,J1⟩:=And.intro (St.mutH u hk J1 hl85 hd86) (St.extcMM u J1)
 replace u:=u.unsep
 refine re<|tn<|?_
 obtain ⟨G3,h98,hm⟩:=bs hm
 refine rg<|qm o rfl λo=>?_
 replace u:=u.pk [0,0,0,0] rfl
 replace u:=St.sep [bk b2 [SL X5 R2.L Y4,i6 R2.At,i6 R2.E,i6 R2.Pos,SL U4 R2.Out M3] 171,sla 51 9 U4 R2.Out.length M3 Y5] u
 refine ls<|c1 o rfl call175 (Kk (St.le u) (p1:=R2) (b2:=b2) (oa3:=X5) (cap4:=Y4) (oa7:=U4) (cap8:=M3) (vs9:=Y5) hc90 hr91 hv95 (St.sepOk u) (St.sepDis u) h98) ⟨rfl,trivial⟩ (λv w a hR o=>?_)
 obtain ⟨H102,U6,k5,V6,n5,W6,rfl,X6,Y6,d6,M1,k6,hd101,hk⟩:=hR
 obtain ⟨u,M1⟩:=And.intro (St.mutH u hk M1 k6 hd101) (St.extcMM u M1)
 replace u:=u.unsep
 refine qv o (Af o Du rfl) λo=>ls<|Ax o u sizeOf9 rfl rfl rfl rfl (.tail (.tail .head)) (.succ (.succ .zero)) λw u=>re<|bn<|tn<|?_
 replace u:=u.pk [1,0,1,0] rfl
 exact ⟨G3.2.L,G3.2.At,G3.2.E,G3.2.Pos,G3.2.Out,X1.1,G3.1,[],[],0,H102,U6,k5,V6,n5,W6,none,0,none,0,hm,(ExtM.trans I1 (ExtM.trans J1 M1)),o.hs,u,X6,Y6,d6,(Nat.le_refl _),((SR.nil _ _).mono (cp (cp M1.sub J1.sub) I1.sub)),(Nat.le_refl _),((SR.nil _ _).mono (cp (cp M1.sub J1.sub) I1.sub))⟩
 refine tn<|cfv o rfl S4<|th<|rg<|qv o (Al o rfl rfl) λo=>qa o rfl λo=>re<|?_
 rcases bip hm with ⟨O3,hm⟩ | ⟨O3,hm⟩
 refine tn<|ctv o rfl O3<|th<|?_
 obtain ⟨I0,h114,hm⟩:=bs hm
 refine rg<|qm o rfl λo=>?_
 replace u:=u.pk [2,2,0,0] rfl
 replace u:=St.sep [bk b2 [SL oa3 p1.L cap4,i6 p1.At,i6 p1.E,i6 p1.Pos,SL oa7 p1.Out cap8] 171,sla 51 9 oa7 p1.Out.length cap8 vs9] u
 refine ls<|c1 o rfl call175 (Kk (St.le u) (p1:=p1) (b2:=b2) (oa3:=oa3) (cap4:=cap4) (oa7:=oa7) (cap8:=cap8) (vs9:=vs9) T1 U1 C0 (St.sepOk u) (St.sepDis u) h114) ⟨rfl,trivial⟩ (λv w a hR o=>?_)
 obtain ⟨H118,d4,F4,P3,U2,k4,rfl,n6,u6,v6,Y0,y6,hd117,hk⟩:=hR
 obtain ⟨u,Y0⟩:=And.intro (St.mutH u hk Y0 y6 hd117) (St.extcMM u Y0)
 replace u:=u.unsep
 refine qv o (Af o Du rfl) λo=>ls<|Ax o u sizeOf9 rfl rfl rfl rfl (.tail (.tail .head)) (.succ (.succ .zero)) λw u=>re<|tn<|th<|?_
 obtain ⟨Q0,h129,hm⟩:=bs hm
 refine rg<|qm o rfl λo=>?_
 replace u:=u.pk [0,0,0,0] rfl
 replace u:=St.sep [bk b2 [SL d4 I0.2.L F4,i6 I0.2.At,i6 I0.2.E,i6 I0.2.Pos,SL P3 I0.2.Out U2] 171,sla 51 9 P3 I0.2.Out.length U2 k4] u
 refine ls<|c1 o rfl call161 (Hy (St.le u) (p1:=I0.2) (b2:=b2) (oa3:=d4) (cap4:=F4) (oa7:=P3) (cap8:=U2) (vs9:=k4) n6 u6 v6 (St.sepOk u) (St.sepDis u) h129) ⟨rfl,rfl,trivial⟩ (λv w a hR o=>?_)
 obtain ⟨H133,l4,G4,Q3,V2,u4,rfl,z6,A7,B7,j0,C7,hd132,hk⟩:=hR
 obtain ⟨u,j0⟩:=And.intro (St.mutH u hk j0 C7 hd132) (St.extcMM u j0)
 replace u:=u.unsep
 refine re<|tn<|?_
 obtain ⟨O1,h144,hm⟩:=bs hm
 refine rg<|qm o rfl λo=>?_
 replace u:=u.pk [0,0,0,0] rfl
 replace u:=St.sep [bk b2 [SL l4 Q0.L G4,i6 Q0.At,i6 Q0.E,i6 Q0.Pos,SL Q3 Q0.Out V2] 171,sla 51 9 Q3 Q0.Out.length V2 u4] u
 refine ls<|c1 o rfl call176 (N1 (St.le u) (p1:=Q0) (b2:=b2) (oa3:=l4) (cap4:=G4) (oa7:=Q3) (cap8:=V2) (vs9:=u4) z6 A7 B7 (St.sepOk u) (St.sepDis u) h144) ⟨rfl,trivial⟩ (λv w a hR o=>?_)
 obtain ⟨H148,D7,u5,E7,A6,F7,B6,G7,rfl,I7,J7,K7,L7,M7,n0,O7,hd147,hk⟩:=hR
 obtain ⟨u,n0⟩:=And.intro (St.mutH u hk n0 O7 hd147) (St.extcMM u n0)
 replace u:=u.unsep
 refine qv o (Af o Dx rfl) λo=>ls<|Ax o u sizeOf49 rfl rfl rfl rfl (.tail (.tail .head)) (.succ (.succ (.succ .zero))) λw u=>re<|bn<|tn<|?_
 replace u:=u.pk [1,0,1,0] rfl
 exact ⟨O1.2.L,O1.2.At,O1.2.E,O1.2.Pos,O1.2.Out,[],I0.1,O1.1,[],0,H148,E7,A6,F7,B6,G7,D7,u5,none,0,hm,(ExtM.trans Y0 (ExtM.trans j0 n0)),o.hs,u,K7,L7,M7,I7,J7,(Nat.le_refl _),((SR.nil _ _).mono (cp (cp n0.sub j0.sub) Y0.sub))⟩
 refine tn<|cfv o rfl O3<|th<|rg<|qv o (Al o rfl rfl) λo=>qa o rfl λo=>re<|?_
 rcases bip hm with ⟨R3,hm⟩ | ⟨R3,hm⟩
 refine tn<|ctv o rfl R3<|th<|?_
 obtain ⟨J0,h164,hm⟩:=bs hm
 refine rg<|qm o rfl λo=>?_
 replace u:=u.pk [2,2,0,0] rfl
 replace u:=St.sep [bk b2 [SL oa3 p1.L cap4,i6 p1.At,i6 p1.E,i6 p1.Pos,SL oa7 p1.Out cap8] 171,sla 51 9 oa7 p1.Out.length cap8 vs9] u
 refine ls<|c1 o rfl call175 (Kk (St.le u) (p1:=p1) (b2:=b2) (oa3:=oa3) (cap4:=cap4) (oa7:=oa7) (cap8:=cap8) (vs9:=vs9) T1 U1 C0 (St.sepOk u) (St.sepDis u) h164) ⟨rfl,trivial⟩ (λv w a hR o=>?_)
 obtain ⟨H168,A5,I4,S3,W2,B5,rfl,P7,Q7,R7,E2,S7,hd167,hk⟩:=hR
 obtain ⟨u,E2⟩:=And.intro (St.mutH u hk E2 S7 hd167) (St.extcMM u E2)
 replace u:=u.unsep
 refine qv o (Af o Cx rfl) λo=>ls<|Ax o u sizeOf9 rfl rfl rfl rfl (.tail (.tail .head)) (.succ .zero) λw u=>re<|tn<|th<|?_
 obtain ⟨R0,h179,hm⟩:=bs hm
 refine rg<|qm o rfl λo=>?_
 replace u:=u.pk [0,0,0,0] rfl
 replace u:=St.sep [bk b2 [SL A5 J0.2.L I4,i6 J0.2.At,i6 J0.2.E,i6 J0.2.Pos,SL S3 J0.2.Out W2] 171,sla 51 9 S3 J0.2.Out.length W2 B5] u
 refine ls<|c1 o rfl call161 (Hy (St.le u) (p1:=J0.2) (b2:=b2) (oa3:=A5) (cap4:=I4) (oa7:=S3) (cap8:=W2) (vs9:=B5) P7 Q7 R7 (St.sepOk u) (St.sepDis u) h179) ⟨rfl,rfl,trivial⟩ (λv w a hR o=>?_)
 obtain ⟨H183,C5,J4,T3,X2,D5,rfl,T7,U7,V7,F2,W7,hd182,hk⟩:=hR
 obtain ⟨u,F2⟩:=And.intro (St.mutH u hk F2 W7 hd182) (St.extcMM u F2)
 replace u:=u.unsep
 refine re<|tn<|th<|?_
 obtain ⟨K0,h194,hm⟩:=bs hm
 refine rg<|qm o rfl λo=>?_
 replace u:=u.pk [0,0,0,0] rfl
 replace u:=St.sep [bk b2 [SL C5 R0.L J4,i6 R0.At,i6 R0.E,i6 R0.Pos,SL T3 R0.Out X2] 171,sla 51 9 T3 R0.Out.length X2 D5] u
 refine ls<|c1 o rfl call175 (Kk (St.le u) (p1:=R0) (b2:=b2) (oa3:=C5) (cap4:=J4) (oa7:=T3) (cap8:=X2) (vs9:=D5) T7 U7 V7 (St.sepOk u) (St.sepDis u) h194) ⟨rfl,trivial⟩ (λv w a hR o=>?_)
 obtain ⟨H198,E5,K4,U3,Y2,F5,rfl,X7,Y7,k7,G2,n7,hd197,hk⟩:=hR
 obtain ⟨u,G2⟩:=And.intro (St.mutH u hk G2 n7 hd197) (St.extcMM u G2)
 replace u:=u.unsep
 refine qv o (Af o Du rfl) λo=>ls<|Ax o u sizeOf9 rfl rfl rfl rfl (.tail (.tail .head)) (.succ (.succ .zero)) λw u=>re<|tn<|th<|?_
 obtain ⟨S0,h209,hm⟩:=bs hm
 refine rg<|qm o rfl λo=>?_
 replace u:=u.pk [0,0,0,0] rfl
 replace u:=St.sep [bk b2 [SL E5 K0.2.L K4,i6 K0.2.At,i6 K0.2.E,i6 K0.2.Pos,SL U3 K0.2.Out Y2] 171,sla 51 9 U3 K0.2.Out.length Y2 F5] u
 refine ls<|c1 o rfl call161 (Hy (St.le u) (p1:=K0.2) (b2:=b2) (oa3:=E5) (cap4:=K4) (oa7:=U3) (cap8:=Y2) (vs9:=F5) X7 Y7 k7 (St.sepOk u) (St.sepDis u) h209) ⟨rfl,rfl,trivial⟩ (λv w a hR o=>?_)
 obtain ⟨H213,G5,L4,V3,A3,I5,rfl,u7,v7,z7,I2,A8,hd212,hk⟩:=hR
 obtain ⟨u,I2⟩:=And.intro (St.mutH u hk I2 A8 hd212) (St.extcMM u I2)
 replace u:=u.unsep
 refine re<|tn<|th<|?_
 obtain ⟨M0,h224,hm⟩:=bs hm
 refine rg<|qm o rfl λo=>?_
 replace u:=u.pk [0,0,0,0] rfl
 replace u:=St.sep [bk b2 [SL G5 S0.L L4,i6 S0.At,i6 S0.E,i6 S0.Pos,SL V3 S0.Out A3] 171,sla 51 9 V3 S0.Out.length A3 I5] u
 refine ls<|c1 o rfl call176 (N1 (St.le u) (p1:=S0) (b2:=b2) (oa3:=G5) (cap4:=L4) (oa7:=V3) (cap8:=A3) (vs9:=I5) u7 v7 z7 (St.sepOk u) (St.sepDis u) h224) ⟨rfl,trivial⟩ (λv w a hR o=>?_)
 obtain ⟨H228,B8,C6,J5,M4,W3,B3,K5,rfl,C8,D8,E8,F8,G8,J2,I8,hd227,hk⟩:=hR
 obtain ⟨u,J2⟩:=And.intro (St.mutH u hk J2 I8 hd227) (St.extcMM u J2)
 replace u:=u.unsep
 refine qv o (Af o Dx rfl) λo=>ls<|Ax o u sizeOf49 rfl rfl rfl rfl (.tail (.tail .head)) (.succ (.succ (.succ .zero))) λw u=>re<|tn<|th<|?_
 obtain ⟨T0,h243,hm⟩:=bs hm
 refine rg<|qm o rfl λo=>?_
 replace u:=u.pk [0,0,0,0] rfl
 replace u:=St.sep [bk b2 [SL J5 M0.2.L M4,i6 M0.2.At,i6 M0.2.E,i6 M0.2.Pos,SL W3 M0.2.Out B3] 171,sla 51 9 W3 M0.2.Out.length B3 K5] u
 refine ls<|c1 o rfl call161 (Hy (St.le u) (p1:=M0.2) (b2:=b2) (oa3:=J5) (cap4:=M4) (oa7:=W3) (cap8:=B3) (vs9:=K5) E8 F8 G8 (St.sepOk u) (St.sepDis u) h243) ⟨rfl,rfl,trivial⟩ (λv w a hR o=>?_)
 obtain ⟨H247,L5,O4,X3,C3,M5,rfl,J8,K8,L8,u0,M8,hd246,hk⟩:=hR
 obtain ⟨u,u0⟩:=And.intro (St.mutH u hk u0 M8 hd246) (St.extcMM u u0)
 replace u:=u.unsep
 refine re<|tn<|?_
 obtain ⟨P1,h258,hm⟩:=bs hm
 refine rg<|qm o rfl λo=>?_
 replace u:=u.pk [0,0,0,0] rfl
 replace u:=St.sep [bk b2 [SL L5 T0.L O4,i6 T0.At,i6 T0.E,i6 T0.Pos,SL X3 T0.Out C3] 171,sla 51 9 X3 T0.Out.length C3 M5] u
 refine ls<|c1 o rfl call176 (N1 (St.le u) (p1:=T0) (b2:=b2) (oa3:=L5) (cap4:=O4) (oa7:=X3) (cap8:=C3) (vs9:=M5) J8 K8 L8 (St.sepOk u) (St.sepDis u) h258) ⟨rfl,trivial⟩ (λv w a hR o=>?_)
 obtain ⟨H262,O8,D6,P8,E6,Q8,F6,R8,rfl,S8,T8,U8,V8,W8,B1,X8,hd261,hk⟩:=hR
 obtain ⟨u,B1⟩:=And.intro (St.mutH u hk B1 X8 hd261) (St.extcMM u B1)
 replace u:=u.unsep
 refine qv o (Af o Jo rfl) λo=>ls<|Ax o u sizeOf49 rfl rfl rfl rfl (.tail (.tail .head)) (.succ (.succ (.succ (.succ .zero)))) λw u=>re<|bn<|tn<|?_
 replace u:=u.pk [1,0,1,0] rfl
 exact ⟨P1.2.L,P1.2.At,P1.2.E,P1.2.Pos,P1.2.Out,J0.1,K0.1,M0.1,P1.1,0,H262,P8,E6,Q8,F6,R8,B8,C6,O8,D6,hm,(ExtM.trans E2 (ExtM.trans F2 (ExtM.trans G2 (ExtM.trans I2 (ExtM.trans J2 (ExtM.trans u0 B1)))))),o.hs,u,U8,V8,W8,C8,(D8.mono (cp B1.sub u0.sub)),S8,T8⟩
 refine tn<|cfv o rfl R3<|th<|th<|rg<|qv o (Al o rfl rfl) λo=>qa o rfl λo=>re<|tn<|Au (λa w=>∃ (G6:Bool),(Z2y N (Z2x p12 p13) p1 p12) G6=some r∧Fr 82 [(0,PT b2),(6,PT D3),(7,PT E3),(11,i6 p12),(62,.bool G6)] a∧St w0 (sepA [bk b2 [SL oa3 p1.L cap4,i6 p1.At,i6 p1.E,i6 p1.Pos,SL oa7 p1.Out cap8] 171,sla 51 9 oa7 p1.Out.length cap8 vs9]).fp [H] [sla 51 9 oa7 p1.Out.length cap8 vs9,bk b2 [SL oa3 p1.L cap4,i6 p1.At,i6 p1.E,i6 p1.Pos,SL oa7 p1.Out cap8] 171,bk D3 [i6 0,Ac [],Ac [],.slice none 0 0,.slice none 0 0,i6 0,i6 0,i6 0,i6 0] 51,bk E3 [i6 p12,Ac [],Ac [],.slice none 0 0,.slice none 0 0,i6 0,i6 0,i6 0,i6 p13] 51] w) ?_ ?_
 rcases bip hm with ⟨Y3,hm⟩ | ⟨Y3,hm⟩
 refine ctv o rfl Y3<|wk<|tn<|?_
 replace u:=u.pk [3,2,1,0] rfl
 exact ⟨(decide (p12=5)),hm,o.hs,u⟩
 refine cfv o rfl Y3<|th<|rg<|qv o (Al o rfl rfl) λo=>qa o rfl λo=>re<|?_
 rcases bip hm with ⟨l3,hm⟩ | ⟨l3,hm⟩
 refine tn<|ctv o rfl l3<|wk<|tn<|?_
 replace u:=u.pk [3,2,1,0] rfl
 exact ⟨(decide (p12=6)),hm,o.hs,u⟩
 refine tn<|cfv o rfl l3<|th<|rg<|qv o (Al o rfl rfl) λo=>qa o rfl λo=>re<|?_
 rcases bip hm with ⟨u3,hm⟩ | ⟨u3,hm⟩
 refine tn<|ctv o rfl u3<|wk<|tn<|?_
 replace u:=u.pk [3,2,1,0] rfl
 exact ⟨(decide (p12=9)),hm,o.hs,u⟩
 refine tn<|cfv o rfl u3<|rg<|qv o (Al o rfl rfl) λo=>qa o rfl λo=>re<|tn<|?_
 replace u:=u.pk [3,2,1,0] rfl
 exact ⟨(decide (p12=10)),hm,o.hs,u⟩
 rintro a w ⟨G6,hm,o,u⟩
 unfold Z2y at hm
 rcases bit hm with ⟨A4,hm⟩ | ⟨A4,hm⟩
 refine ctv o rfl A4<|?_
 obtain ⟨Q1,h281,hm⟩:=bs hm
 refine rg<|qm o rfl λo=>?_
 replace u:=u.pk [1,0,0,0] rfl
 replace u:=St.sep [bk b2 [SL oa3 p1.L cap4,i6 p1.At,i6 p1.E,i6 p1.Pos,SL oa7 p1.Out cap8] 171,sla 51 9 oa7 p1.Out.length cap8 vs9] u
 refine ls<|c1 o rfl call175 (Kk (St.le u) (p1:=(leadlineref04_P.mk p1.L p1.At p1.E p1.Pos p1.Out)) (b2:=b2) (oa3:=oa3) (cap4:=cap4) (oa7:=oa7) (cap8:=cap8) (vs9:=vs9) T1 U1 C0 (St.sepOk u) (St.sepDis u) h281) ⟨rfl,trivial⟩ (λv w a hR o=>?_)
 obtain ⟨H285,Y8,I6,d8,J6,e8,rfl,k8,l8,n8,O0,v8,hd284,hk⟩:=hR
 obtain ⟨u,O0⟩:=And.intro (St.mutH u hk O0 v8 hd284) (St.extcMM u O0)
 replace u:=u.unsep
 refine qv o (Af o Du rfl) λo=>ls<|Ax o u sizeOf9 rfl rfl rfl rfl (.tail (.tail (.tail .head))) (.succ (.succ .zero)) λw u=>re<|bn<|tn<|?_
 replace u:=u.pk [1,0,0,0] rfl
 exact ⟨Q1.2.L,Q1.2.At,Q1.2.E,Q1.2.Pos,Q1.2.Out,[],Q1.1,[],[],0,H285,Y8,I6,d8,J6,e8,none,0,none,0,hm,O0,o.hs,u,k8,l8,n8,(Nat.le_refl _),((SR.nil _ _).mono O0.sub),(Nat.le_refl _),((SR.nil _ _).mono O0.sub)⟩
 refine cfv o rfl A4<|th<|th<|rg<|qv o (Al o rfl rfl) λo=>qa o rfl λo=>re<|tn<|Au (λa w=>∃ (K6:Bool),(Z2z N (Z2x p12 p13) p1 p12) K6=some r∧Fr 82 [(0,PT b2),(6,PT D3),(7,PT E3),(11,i6 p12),(70,.bool K6)] a∧St w0 (sepA [bk b2 [SL oa3 p1.L cap4,i6 p1.At,i6 p1.E,i6 p1.Pos,SL oa7 p1.Out cap8] 171,sla 51 9 oa7 p1.Out.length cap8 vs9]).fp [H] [sla 51 9 oa7 p1.Out.length cap8 vs9,bk b2 [SL oa3 p1.L cap4,i6 p1.At,i6 p1.E,i6 p1.Pos,SL oa7 p1.Out cap8] 171,bk D3 [i6 0,Ac [],Ac [],.slice none 0 0,.slice none 0 0,i6 0,i6 0,i6 0,i6 0] 51,bk E3 [i6 p12,Ac [],Ac [],.slice none 0 0,.slice none 0 0,i6 0,i6 0,i6 0,i6 p13] 51] w) ?_ ?_
 rcases bip hm with ⟨B4,hm⟩ | ⟨B4,hm⟩
 refine ctv o rfl B4<|wk<|tn<|?_
 exact ⟨(decide (p12=11)),hm,o.hs,u⟩
 refine cfv o rfl B4<|rg<|qv o (Al o rfl rfl) λo=>qa o rfl λo=>re<|tn<|?_
 exact ⟨(decide (p12=14)),hm,o.hs,u⟩
 rintro a w ⟨K6,hm,o,u⟩
 unfold Z2z at hm
 rcases bit hm with ⟨C4,hm⟩ | ⟨C4,hm⟩
 refine ctv o rfl C4<|?_
 obtain ⟨R1,h298,hm⟩:=bs hm
 refine rg<|qm o rfl λo=>?_
 replace u:=u.pk [1,0,0,0] rfl
 replace u:=St.sep [bk b2 [SL oa3 p1.L cap4,i6 p1.At,i6 p1.E,i6 p1.Pos,SL oa7 p1.Out cap8] 171,sla 51 9 oa7 p1.Out.length cap8 vs9] u
 refine ls<|c1 o rfl call176 (N1 (St.le u) (p1:=(leadlineref04_P.mk p1.L p1.At p1.E p1.Pos p1.Out)) (b2:=b2) (oa3:=oa3) (cap4:=cap4) (oa7:=oa7) (cap8:=cap8) (vs9:=vs9) T1 U1 C0 (St.sepOk u) (St.sepDis u) h298) ⟨rfl,trivial⟩ (λv w a hR o=>?_)
 obtain ⟨H302,y8,L6,z8,M6,A9,O6,B9,rfl,C9,D9,E9,F9,G9,C1,I9,hd301,hk⟩:=hR
 obtain ⟨u,C1⟩:=And.intro (St.mutH u hk C1 I9 hd301) (St.extcMM u C1)
 replace u:=u.unsep
 refine qv o (Af o Dx rfl) λo=>ls<|Ax o u sizeOf49 rfl rfl rfl rfl (.tail (.tail (.tail .head))) (.succ (.succ (.succ .zero))) λw u=>re<|bn<|tn<|?_
 replace u:=u.pk [1,0,0,0] rfl
 exact ⟨R1.2.L,R1.2.At,R1.2.E,R1.2.Pos,R1.2.Out,[],[],R1.1,[],0,H302,z8,M6,A9,O6,B9,y8,L6,none,0,hm,C1,o.hs,u,E9,F9,G9,C9,D9,(Nat.le_refl _),((SR.nil _ _).mono C1.sub)⟩
 refine cfv o rfl C4<|th<|rg<|qv o (Al o rfl rfl) λo=>qa o rfl λo=>re<|?_
 rcases bip hm with ⟨D4,hm⟩ | ⟨D4,hm⟩
 refine tn<|ctv o rfl D4<|?_
 obtain ⟨S1,h318,hm⟩:=bs hm
 refine rg<|qm o rfl λo=>?_
 replace u:=u.pk [1,0,0,0] rfl
 replace u:=St.sep [bk b2 [SL oa3 p1.L cap4,i6 p1.At,i6 p1.E,i6 p1.Pos,SL oa7 p1.Out cap8] 171,sla 51 9 oa7 p1.Out.length cap8 vs9] u
 refine ls<|c1 o rfl call177 (JbX (St.le u) (p1:=(leadlineref04_P.mk p1.L p1.At p1.E p1.Pos p1.Out)) (b2:=b2) (oa3:=oa3) (cap4:=cap4) (oa7:=oa7) (cap8:=cap8) (vs9:=vs9) T1 U1 C0 (St.sepOk u) (St.sepDis u) h318) ⟨rfl,trivial⟩ (λv w a hR o=>?_)
 obtain ⟨H322,J9,P6,K9,Q6,L9,rfl,M9,O9,P9,P0,Q9,hd321,hk⟩:=hR
 obtain ⟨u,P0⟩:=And.intro (St.mutH u hk P0 Q9 hd321) (St.extcMM u P0)
 replace u:=u.unsep
 refine qv o (Af o Gk rfl) λo=>ls<|Ax o u sizeOf3 rfl rfl rfl rfl (.tail (.tail (.tail .head))) (.succ (.succ (.succ (.succ (.succ .zero))))) λw u=>re<|bn<|tn<|?_
 replace u:=u.pk [1,0,0,0] rfl
 exact ⟨S1.2.L,S1.2.At,S1.2.E,S1.2.Pos,S1.2.Out,[],[],[],[],S1.1,H322,J9,P6,K9,Q6,L9,none,0,none,0,hm,P0,o.hs,u,M9,O9,P9,(Nat.le_refl _),((SR.nil _ _).mono P0.sub),(Nat.le_refl _),((SR.nil _ _).mono P0.sub)⟩
 refine tn<|cfv o rfl D4<|wk<|bn<|tn<|?_
 exact ⟨p1.L,p1.At,p1.E,p1.Pos,p1.Out,[],[],[],[],0,H,oa3,cap4,oa7,cap8,vs9,none,0,none,0,hm,(ExtM.refl _ _ _),o.hs,u,T1,U1,C0,(Nat.le_refl _),(SR.nil _ _),(Nat.le_refl _),(SR.nil _ _)⟩
 rintro a w ⟨E4,O5,P5,Q5,K2,E1,F1,D0,E0,G1,U0,I3,Y1,B2,V0,C2,W0,F0,X0,G0,hm,R9,o,u,hcA5,hrA6,S9,hcA21,hrA22,hcA26,hrA27⟩
 unfold Z2x at hm
 refine th<|rg<|qv o (Ay o Tryz.isAgg51 Tryz.sizeOf51 rfl rfl (u.ld.cellsB t3)) λo=>ls<|Ba o u sizeOf51 rfl rfl rfl rfl (Am rfl) (.tail (.tail .head)) λw u=>re<|tn<|wr<|?_
 obtain rfl:=si hm
 exact r1c (vs:=[i6 p12,Ac E1,Ac F1,SL W0 D0 F0,SL X0 E0 G0,i6 G1,i6 0,i6 0,i6 p13]) (.inl rfl) o results168 rfl isAgg51 sizeOf51 rfl (u.ld.cellsB t2) ⟨U0,_,I3,Y1,B2,V0,C2,rfl,(show Enc.rep (α:=api_Stmt) U0 [i6 p12,Ac E1,Ac F1,SL W0 D0 F0,SL X0 E0 G0,i6 G1,i6 0,i6 0,i6 p13] (api_Stmt.mk p12 E1 F1 D0 E0 G1 0 0 p13) from ⟨_,_,rfl,rfl,⟨_,_,rfl,rfl,⟨_,_,rfl,rfl,⟨_,_,rfl,⟨_,_,rfl,hcA21,hrA22⟩,⟨_,_,rfl,⟨_,_,rfl,hcA26,hrA27⟩,⟨_,_,rfl,rfl,⟨_,_,rfl,rfl,⟨_,_,rfl,rfl,rfl⟩⟩⟩⟩⟩⟩⟩⟩),hcA5,hrA6,S9,R9,(St.le u),(St.disL (u.pickL (.cons (.tail .head) (.cons .head .nil)))),(u.pickL (.cons (.tail .head) (.cons .head .nil))).endMut⟩
set_option maxHeartbeats 4000000 in
theorem Jck:∀ (N:Nat),(∀ {w0:World} {H:PH} (_:H.le w0) {b2:Nat} {p1:leadlineref04_P} {oa3:Option Addr} {cap4:Nat} (_:p1.L.length≤cap4) (_:SR H oa3 p1.L) {oa7:Option Addr} {cap8:Nat} {vs9:List Value} (_:Rows H vs9 p1.Out) {p12:Int} {p13:Int} (_:(sepA [bk b2 [SL oa3 p1.L cap4,i6 p1.At,i6 p1.E,i6 p1.Pos,SL oa7 p1.Out cap8] 171,sla 51 9 oa7 p1.Out.length cap8 vs9]).ok (hp w0)) (_:∀ b,(sepA [bk b2 [SL oa3 p1.L cap4,i6 p1.At,i6 p1.E,i6 p1.Pos,SL oa7 p1.Out cap8] 171,sla 51 9 oa7 p1.Out.length cap8 vs9]).fp b→H b=none) {r:(Int×leadlineref04_P)} (_:Z2c N p1 p12 p13=some r),Tot Tryz.prog 169 #[PT b2,i6 p12,i6 p13] w0 (λv w'=>∃ (H':PH) (oa1m:Option Addr) (cap1m:Nat) (oa2m:Option Addr) (cap2m:Nat) (vs2m:List Value),v=i6 r.1∧r.2.L.length≤cap1m∧SR H' oa1m r.2.L∧Rows H' vs2m r.2.Out∧ExtM w0 (sepA [bk b2 [SL oa3 p1.L cap4,i6 p1.At,i6 p1.E,i6 p1.Pos,SL oa7 p1.Out cap8] 171,sla 51 9 oa7 p1.Out.length cap8 vs9]).fp H H'∧H'.le w'∧(∀ b,(sepA [bk b2 [SL oa1m r.2.L cap1m,i6 r.2.At,i6 r.2.E,i6 r.2.Pos,SL oa2m r.2.Out cap2m] 171,sla 51 9 oa2m r.2.Out.length cap2m vs2m]).fp b→H' b=none)∧Mut w0 (sepA [bk b2 [SL oa3 p1.L cap4,i6 p1.At,i6 p1.E,i6 p1.Pos,SL oa7 p1.Out cap8] 171,sla 51 9 oa7 p1.Out.length cap8 vs9]) (sepA [bk b2 [SL oa1m r.2.L cap1m,i6 r.2.At,i6 r.2.E,i6 r.2.Pos,SL oa2m r.2.Out cap2m] 171,sla 51 9 oa2m r.2.Out.length cap2m vs2m]) w'))∧(∀ {w0:World} {H:PH} (_:H.le w0) {b2:Nat} {p1:leadlineref04_P} {oa3:Option Addr} {cap4:Nat} (_:p1.L.length≤cap4) (_:SR H oa3 p1.L) {oa7:Option Addr} {cap8:Nat} {vs9:List Value} (_:Rows H vs9 p1.Out) {p12:Int} {p13:Int} (_:(sepA [bk b2 [SL oa3 p1.L cap4,i6 p1.At,i6 p1.E,i6 p1.Pos,SL oa7 p1.Out cap8] 171,sla 51 9 oa7 p1.Out.length cap8 vs9]).ok (hp w0)) (_:∀ b,(sepA [bk b2 [SL oa3 p1.L cap4,i6 p1.At,i6 p1.E,i6 p1.Pos,SL oa7 p1.Out cap8] 171,sla 51 9 oa7 p1.Out.length cap8 vs9]).fp b→H b=none) {r:leadlineref04_P} (_:Z2n N p1 p12 p13=some r),Tot Tryz.prog 160 #[PT b2,i6 p12,i6 p13] w0 (λv w'=>∃ (H':PH) (oa1m:Option Addr) (cap1m:Nat) (oa2m:Option Addr) (cap2m:Nat) (vs2m:List Value),v=.tuple #[]∧r.L.length≤cap1m∧SR H' oa1m r.L∧Rows H' vs2m r.Out∧ExtM w0 (sepA [bk b2 [SL oa3 p1.L cap4,i6 p1.At,i6 p1.E,i6 p1.Pos,SL oa7 p1.Out cap8] 171,sla 51 9 oa7 p1.Out.length cap8 vs9]).fp H H'∧H'.le w'∧(∀ b,(sepA [bk b2 [SL oa1m r.L cap1m,i6 r.At,i6 r.E,i6 r.Pos,SL oa2m r.Out cap2m] 171,sla 51 9 oa2m r.Out.length cap2m vs2m]).fp b→H' b=none)∧Mut w0 (sepA [bk b2 [SL oa3 p1.L cap4,i6 p1.At,i6 p1.E,i6 p1.Pos,SL oa7 p1.Out cap8] 171,sla 51 9 oa7 p1.Out.length cap8 vs9]) (sepA [bk b2 [SL oa1m r.L cap1m,i6 r.At,i6 r.E,i6 r.Pos,SL oa2m r.Out cap2m] 171,sla 51 9 oa2m r.Out.length cap2m vs2m]) w')):=by
 intro N
 induction N with
  | zero=>exact ⟨(by intros;rename_i hm;simp [Z2c] at hm),(by intros;rename_i hm;simp [Z2n] at hm)⟩
  | succ N ih=>
 obtain ⟨ih_Z2c,ih_Z2n⟩:=ih
 refine ⟨?_,?_⟩
 intro w0 H hH b2 p1 oa3 cap4 J2 K2 oa7 cap8 vs9 X2 p12 p13 hO hD r hm
 rw [Z2c] at hm
 refine fn0 func169 rfl ntmps169 rfl rfl λa o=>?_
 have u:=Cm hH hO hD
 refine th<|rg<|qa o rfl λo=>re<|tn<|th<|rg<|qm o rfl λo=>qv o (Aj o rfl) λo=>qv o (Af o Eg rfl) λo=>qv o (Ag o isAgg46 rfl (u.ld.cellB t0 rfl)) λo=>qv o (Ak (α:=api_Stmt) (xs:=p1.Out) o runUnderlying46 rfl) λo=>qa o rfl λo=>re<|tn<|th<|th<|Au (λa w=>∃ (Q0:Bool),(Z2d (Z2n N) N p1 p12 p13) Q0=some r∧Fr 60 [(0,PT b2),(1,i6 p12),(2,i6 p13),(7,i6 (p1.Out.length:Int)),(25,.bool Q0)] a∧St w0 (sepA [bk b2 [SL oa3 p1.L cap4,i6 p1.At,i6 p1.E,i6 p1.Pos,SL oa7 p1.Out cap8] 171,sla 51 9 oa7 p1.Out.length cap8 vs9]).fp [H] [sla 51 9 oa7 p1.Out.length cap8 vs9,bk b2 [SL oa3 p1.L cap4,i6 p1.At,i6 p1.E,i6 p1.Pos,SL oa7 p1.Out cap8] 171] w) ?_ ?_
 rcases bip hm with ⟨M4,hm⟩ | ⟨M4,hm⟩
 obtain ⟨z7,A8,hm⟩:=bs hm
 refine rdS 13 u wide λw u=>dr 0 u o rfl (Ab o rfl) λo=>dr 1 u o rfl (Be o rfl rfl) λo=>dr 2 u o rfl (As (Ab o rfl) (congrArg Value.bool M4)) λo=>dg 3 u.ld o rfl (λw hl=>Ab o rfl) λo=>dg 4 u.ld o rfl (λw hl=>Aj o rfl) λo=>dg 5 u.ld o rfl (λw hl=>Af o Bw rfl) λo=>dg 6 u.ld o rfl (λw hl=>Ag o isAgg120 rfl (hl.cellB t0 rfl)) λo=>dg 7 u.ld o rfl (λw hl=>Ab o rfl) λo=>dg 8 u.ld o rfl (λw hl=>Aj o rfl) λo=>dg 9 u.ld o rfl (λw hl=>Af o Bg rfl) λo=>dg 10 u.ld o rfl (λw hl=>Ag o isAgg3 rfl (hl.cellB t0 rfl)) λo=>da1 (i:=11) (by kernel_rfl) ?_
 refine di (i:=11) rfl<|gy o rfl rfl<|cr o call139 (Jt (Ai _) J2 (St.srH u K2) A8) u λu o=>⟨λ_=>u.ld,?_⟩
 refine dr 12 u o rfl (Ad o rfl rfl) λo=>de (by kernel_rfl)<|tn<|?_
 replace u:=u.pk [1,0] rfl
 exact ⟨z7,hm,o.hs,u⟩
 refine rxS 13 u wide (by kernel_rfl) λw u=>xm u o rfl λo=>xr u o (Be o rfl rfl) λo=>xr u o (As (Ab o rfl) (congrArg Value.bool M4)) λo=>?_
 iterate 9 refine xn u.ld o λo=>?_
 refine xr u o (Ae o rfl rfl) λo=>xe<|tn<|?_
 replace u:=u.pk [1,0] rfl
 exact ⟨false,hm,o.hs,u⟩
 rintro a w ⟨Q0,hm,o,u⟩
 unfold Z2d at hm
 refine Au (λa w=>∃ (J0:(List api_Token)) (E4:Int) (u0:Int) (Y0:Int) (B1:(List api_Stmt)) (F4:PH) (I0:Option Addr) (D0:Nat) (I1:Option Addr) (V0:Nat) (S1:List Value),(Z2e (Z2n N) N p1 p12 p13) J0 E4 u0 Y0 B1=some r∧ExtM w0 (sepA [bk b2 [SL oa3 p1.L cap4,i6 p1.At,i6 p1.E,i6 p1.Pos,SL oa7 p1.Out cap8] 171,sla 51 9 oa7 p1.Out.length cap8 vs9]).fp H F4∧Fr 60 [(0,PT b2),(1,i6 p12),(2,i6 p13),(7,i6 (p1.Out.length:Int))] a∧St w0 (sepA [bk b2 [SL oa3 p1.L cap4,i6 p1.At,i6 p1.E,i6 p1.Pos,SL oa7 p1.Out cap8] 171,sla 51 9 oa7 p1.Out.length cap8 vs9]).fp [F4] [sla 51 9 I1 B1.length V0 S1,bk b2 [SL I0 J0 D0,i6 E4,i6 u0,i6 Y0,SL I1 B1 V0] 171] w∧J0.length≤D0∧SR F4 I0 J0∧Rows F4 S1 B1) ?_ ?_
 rcases bit hm with ⟨O4,hm⟩ | ⟨O4,hm⟩
 refine ctv o rfl O4<|?_
 obtain ⟨G4,B8,hm⟩:=bs hm
 refine rg<|qm o rfl λo=>?_
 replace u:=u.pk [1,0] rfl
 replace u:=St.sep [bk b2 [SL oa3 p1.L cap4,i6 p1.At,i6 p1.E,i6 p1.Pos,SL oa7 p1.Out cap8] 171,sla 51 9 oa7 p1.Out.length cap8 vs9] u
 refine ls<|c1 o rfl call167 (Mx (St.le u) (p1:=(leadlineref04_P.mk p1.L p1.At p1.E p1.Pos p1.Out)) (b2:=b2) (oa3:=oa3) (cap4:=cap4) (oa7:=oa7) (cap8:=cap8) (vs9:=vs9) J2 K2 X2 (St.sepOk u) (St.sepDis u) B8) ⟨rfl,rfl,trivial⟩ (λv w a hR o=>?_)
 obtain ⟨H23,L6,L5,M6,M5,O6,rfl,P6,Q6,R6,O3,S6,hd22,hk⟩:=hR
 obtain ⟨u,O3⟩:=And.intro (St.mutH u hk O3 S6 hd22) (St.extcMM u O3)
 replace u:=u.unsep
 refine re<|tn<|?_
 replace u:=u.pk [1,0] rfl
 exact ⟨G4.L,G4.At,G4.E,G4.Pos,G4.Out,H23,L6,L5,M6,M5,O6,hm,O3,o.hs,u,P6,Q6,R6⟩
 refine cfv o rfl O4<|wk<|tn<|?_
 exact ⟨p1.L,p1.At,p1.E,p1.Pos,p1.Out,H,oa3,cap4,oa7,cap8,vs9,hm,(ExtM.refl _ _ _),o.hs,u,J2,K2,X2⟩
 rintro a w ⟨J0,E4,u0,Y0,B1,F4,I0,D0,I1,V0,S1,hm,O5,o,u,hcA6,hrA7,P5⟩
 unfold Z2e at hm
 refine th<|?_
 obtain ⟨I4,C8,hm⟩:=bs hm
 refine rg<|qm o rfl λo=>?_
 replace u:=u.pk [1,0] rfl
 replace u:=St.sep [bk b2 [SL I0 J0 D0,i6 E4,i6 u0,i6 Y0,SL I1 B1 V0] 171,sla 51 9 I1 B1.length V0 S1] u
 refine ls<|c1 o rfl call161 (Hy (St.le u) (p1:=(leadlineref04_P.mk J0 E4 u0 Y0 B1)) (b2:=b2) (oa3:=I0) (cap4:=D0) (oa7:=I1) (cap8:=V0) (vs9:=S1) hcA6 hrA7 P5 (St.sepOk u) (St.sepDis u) C8) ⟨rfl,rfl,trivial⟩ (λv w a hR o=>?_)
 obtain ⟨H38,T6,Q5,U6,R5,V6,rfl,W6,X6,Y6,P3,d6,hd37,hk⟩:=hR
 obtain ⟨u,P3⟩:=And.intro (St.mutH u hk P3 d6 hd37) (St.extcMM u P3)
 replace u:=u.unsep
 refine re<|tn<|th<|Au (λa w=>∃ (S0:(List api_Token)) (Y2:Int) (A3:Int) (B3:Int) (K0:(List api_Stmt)) (C3:PH) (T1:Option Addr) (C1:Nat) (J1:Option Addr) (W0:Nat) (U1:List Value),(Z2f N p1) S0 Y2 A3 B3 K0=some r∧ExtM w0 (sepA [bk b2 [SL oa3 p1.L cap4,i6 p1.At,i6 p1.E,i6 p1.Pos,SL oa7 p1.Out cap8] 171,sla 51 9 oa7 p1.Out.length cap8 vs9]).fp H38 C3∧Fr 60 [(0,PT b2),(7,i6 (p1.Out.length:Int))] a∧St w0 (sepA [bk b2 [SL oa3 p1.L cap4,i6 p1.At,i6 p1.E,i6 p1.Pos,SL oa7 p1.Out cap8] 171,sla 51 9 oa7 p1.Out.length cap8 vs9]).fp [C3] [sla 51 9 J1 K0.length W0 U1,bk b2 [SL T1 S0 C1,i6 Y2,i6 A3,i6 B3,SL J1 K0 W0] 171] w∧S0.length≤C1∧SR C3 T1 S0∧Rows C3 U1 K0) ?_ ?_
 replace u:=u.pk [1,0] rfl
 refine wb<|lp (α:=Nat×(List api_Token)×Int×Int×Int×(List api_Stmt)) (λgh a w=>match gh with | (L3,R0,M2,O2,P2,T0)=>∃ (D3:PH) (P1:Option Addr) (j0:Nat) (U0:Option Addr) (M0:Nat) (n0:List Value),(Z2h (Z2n N) N (Z2f N p1) p12 p13) L3 R0 M2 O2 P2 T0=some r∧ExtM w0 (sepA [bk b2 [SL oa3 p1.L cap4,i6 p1.At,i6 p1.E,i6 p1.Pos,SL oa7 p1.Out cap8] 171,sla 51 9 oa7 p1.Out.length cap8 vs9]).fp H38 D3∧Fr 60 [(0,PT b2),(1,i6 p12),(2,i6 p13),(7,i6 (p1.Out.length:Int))] a∧St w0 (sepA [bk b2 [SL oa3 p1.L cap4,i6 p1.At,i6 p1.E,i6 p1.Pos,SL oa7 p1.Out cap8] 171,sla 51 9 oa7 p1.Out.length cap8 vs9]).fp [D3] [sla 51 9 U0 T0.length M0 n0,bk b2 [SL P1 R0 j0,i6 M2,i6 O2,i6 P2,SL U0 T0 M0] 171] w∧R0.length≤j0∧SR D3 P1 R0∧Rows D3 n0 T0) (λgh=>gh.1) (N,I4.L,I4.At,I4.E,I4.Pos,I4.Out) ⟨H38,T6,Q5,U6,R5,V6,hm,(ExtM.refl _ _ _),o.hs,u,W6,X6,Y6⟩ ?_
 rintro ⟨L3,R0,M2,O2,P2,T0⟩ a w ⟨D3,P1,j0,U0,M0,n0,hm,d4,o,u,hcB5,hrB6,k4⟩
 obtain _ | L3:=L3
 simp [Z2h] at hm
 rw [Z2h] at hm
 refine th<|th<|Au (λa w=>∃ (Q2:Bool),(Z2g (Z2n N) (Z2f N p1) ((Z2h (Z2n N) N (Z2f N p1) p12 p13) L3) p12 p13 R0 M2 O2 P2 T0) Q2=some r∧Fr 60 [(0,PT b2),(1,i6 p12),(2,i6 p13),(7,i6 (p1.Out.length:Int)),(46,.bool Q2)] a∧St w0 (sepA [bk b2 [SL oa3 p1.L cap4,i6 p1.At,i6 p1.E,i6 p1.Pos,SL oa7 p1.Out cap8] 171,sla 51 9 oa7 p1.Out.length cap8 vs9]).fp [D3] [sla 51 9 U0 T0.length M0 n0,bk b2 [SL P1 R0 j0,i6 M2,i6 O2,i6 P2,SL U0 T0 M0] 171] w) ?_ ?_
 rcases bip hm with ⟨P4,hm⟩ | ⟨P4,hm⟩
 obtain ⟨D8,E8,hm⟩:=bs hm
 refine rdS 17 u wide λw u=>dr 0 u o rfl (Ab o rfl) λo=>dr 1 u o rfl (Aj o rfl) λo=>dr 2 u o rfl (Af o Bv rfl) λo=>dq 3 u.ld o rfl (λw hl=>Ag o isAgg29 rfl (hl.cellB t1 rfl)) λo=>dr 4 u o rfl (Al o rfl rfl) λo=>dr 5 u o rfl (As (Ab o rfl) (congrArg Value.bool P4)) λo=>dg 6 u.ld o rfl (λw hl=>Ab o rfl) λo=>dg 7 u.ld o rfl (λw hl=>Aj o rfl) λo=>dg 8 u.ld o rfl (λw hl=>Af o Bw rfl) λo=>dg 9 u.ld o rfl (λw hl=>Ag o isAgg120 rfl (hl.cellB t1 rfl)) λo=>dg 10 u.ld o rfl (λw hl=>Ab o rfl) λo=>dg 11 u.ld o rfl (λw hl=>Aj o rfl) λo=>dg 12 u.ld o rfl (λw hl=>Af o Bg rfl) λo=>dg 13 u.ld o rfl (λw hl=>Ag o isAgg3 rfl (hl.cellB t1 rfl)) λo=>da1 (i:=14) (by kernel_rfl) ?_
 refine di (i:=14) rfl<|gy o rfl rfl<|cr o call139 (Jt (Ai _) hcB5 (St.srH u hrB6) E8) u λu o=>⟨λ_=>u.ld,?_⟩
 refine dg 15 u.ld o rfl (λw hl=>Az o rfl) λo=>dr 16 u o rfl (Ad o rfl rfl) λo=>de (by kernel_rfl)<|tn<|?_
 exact ⟨(!D8),hm,o.hs,u⟩
 refine rxS 17 u wide (by kernel_rfl) λw u=>xm u o rfl λo=>xr u o (Aj o rfl) λo=>xr u o (Af o Bv rfl) λo=>xq u.ld o (λw hl=>Ag o isAgg29 rfl (hl.cellB t1 rfl)) λo=>xr u o (Al o rfl rfl) λo=>xr u o (As (Ab o rfl) (congrArg Value.bool P4)) λo=>?_
 iterate 10 refine xn u.ld o λo=>?_
 refine xr u o (Ae o rfl rfl) λo=>xe<|tn<|?_
 exact ⟨false,hm,o.hs,u⟩
 rintro a w ⟨Q2,hm,o,u⟩
 unfold Z2g at hm
 rcases bit hm with ⟨Q4,hm⟩ | ⟨Q4,hm⟩
 refine ctv o rfl Q4<|wk<|tn<|wb<|?_
 obtain ⟨J4,F8,hm⟩:=bs hm
 refine rg<|qm o rfl λo=>?_
 iterate 2 refine qm o rfl λo=>?_
 replace u:=u.pk [1,0] rfl
 replace u:=St.sep [bk b2 [SL P1 R0 j0,i6 M2,i6 O2,i6 P2,SL U0 T0 M0] 171,sla 51 9 U0 T0.length M0 n0] u
 refine ls<|c1 o rfl call160 (ih_Z2n (St.le u) (p1:=(leadlineref04_P.mk R0 M2 O2 P2 T0)) (b2:=b2) (oa3:=P1) (cap4:=j0) (oa7:=U0) (cap8:=M0) (vs9:=n0) hcB5 hrB6 k4 (St.sepOk u) (St.sepDis u) F8) ⟨rfl,rfl,rfl,trivial⟩ (λv w a hR o=>?_)
 obtain ⟨H57,k6,S5,n6,T5,u6,rfl,v6,y6,Q1,Q3,z6,hd56,hk⟩:=hR
 obtain ⟨u,Q3⟩:=And.intro (St.mutH u hk Q3 z6 hd56) (St.extcMM u Q3)
 replace u:=u.unsep
 refine re<|bn<|tn<|?_
 replace u:=u.pk [1,0] rfl
 exact ⟨(L3,J4.L,J4.At,J4.E,J4.Pos,J4.Out),⟨H57,k6,S5,n6,T5,u6,hm,(ExtM.trans d4 Q3),o.hs,u,v6,y6,Q1⟩,Nat.lt_succ_self _⟩
 refine cfv o rfl Q4<|we<|tx<|tx<|bx<|tn<|?_
 exact ⟨R0,M2,O2,P2,T0,D3,P1,j0,U0,M0,n0,hm,d4,o.has ⟨rfl,rfl,trivial⟩,u,hcB5,hrB6,k4⟩
 rintro a w ⟨S0,Y2,A3,B3,K0,C3,T1,C1,J1,W0,U1,hm,A5,o,u,hcA21,hrA22,U5⟩
 unfold Z2f at hm
 refine th<|?_
 obtain ⟨G8,I8,hm⟩:=bs hm
 refine rg<|qm o rfl λo=>?_
 replace u:=u.pk [1,0] rfl
 replace u:=St.sep [bk b2 [SL T1 S0 C1,i6 Y2,i6 A3,i6 B3,SL J1 K0 W0] 171,sla 51 9 J1 K0.length W0 U1] u
 refine ls<|c1 o rfl call161 (Hy (St.le u) (p1:=(leadlineref04_P.mk S0 Y2 A3 B3 K0)) (b2:=b2) (oa3:=T1) (cap4:=C1) (oa7:=J1) (cap8:=W0) (vs9:=U1) hcA21 hrA22 U5 (St.sepOk u) (St.sepDis u) I8) ⟨rfl,rfl,trivial⟩ (λv w a hR o=>?_)
 obtain ⟨H72,A7,V5,B7,W5,C7,rfl,D7,E7,F7,R3,G7,hd71,hk⟩:=hR
 obtain ⟨u,R3⟩:=And.intro (St.mutH u hk R3 G7 hd71) (St.extcMM u R3)
 replace u:=u.unsep
 refine re<|tn<|th<|rg<|qm o rfl λo=>qv o (Aj o rfl) λo=>qv o (Af o Eg rfl) λo=>qv o (Ag o isAgg46 rfl (u.ld.cellB t0 rfl)) λo=>qv o (Ak (α:=api_Stmt) (xs:=G8.Out) o runUnderlying46 rfl) λo=>qm o rfl λo=>qv o (Gp o rfl rfl) λo=>qa o rfl λo=>re<|tn<|wr<|?_
 obtain rfl:=si hm
 exact r1 o results169 rfl ⟨H72,A7,V5,B7,W5,C7,rfl,D7,E7,F7,(ExtM.trans O5 (ExtM.trans P3 (ExtM.trans A5 R3))),(St.le u),(St.disL (u.pickL (.cons .head (.cons .head .nil)))),(u.pickL (.cons .head (.cons .head .nil))).endMut⟩
 intro w0 H hH b2 p1 oa3 cap4 J2 K2 oa7 cap8 vs9 X2 p12 p13 hO hD r hm
 rw [Z2n] at hm
 refine fn0 func160 rfl ntmps160 rfl rfl λa o=>?_
 have u:=Cm hH hO hD
 refine th<|?_
 obtain ⟨V1,J8,hm⟩:=bs hm
 refine rdS 11 u wide λw u=>dr 0 u o rfl (Ab o rfl) λo=>dr 1 u o rfl (Aj o rfl) λo=>dr 2 u o rfl (Af o Bw rfl) λo=>dq 3 u.ld o rfl (λw hl=>Ag o isAgg120 rfl (hl.cellB t0 rfl)) λo=>dr 4 u o rfl (Ab o rfl) λo=>dr 5 u o rfl (Aj o rfl) λo=>dr 6 u o rfl (Af o Bg rfl) λo=>dq 7 u.ld o rfl (λw hl=>Ag o isAgg3 rfl (hl.cellB t0 rfl)) λo=>da1 (i:=8) (by kernel_rfl) ?_
 refine di (i:=8) rfl<|cr o call143 (Kc (Ai _) J2 (St.srH u K2) J8) u λu o=>⟨λ_=>u.ld,?_⟩
 refine dr 9 u o rfl (Bo o rfl) λo=>dr 10 u o rfl (Bo o rfl) λo=>de (by kernel_rfl)<|tn<|th<|th<|rg<|qa o rfl λo=>re<|tn<|Au (λa w=>∃ (Q0:Int),(Z2o (Z2c N) N p1 p12 p13 V1) Q0=some r∧Fr 134 [(0,PT b2),(1,i6 p12),(2,i6 p13),(6,i6 Q0),(7,i6 V1)] a∧St w0 (sepA [bk b2 [SL oa3 p1.L cap4,i6 p1.At,i6 p1.E,i6 p1.Pos,SL oa7 p1.Out cap8] 171,sla 51 9 oa7 p1.Out.length cap8 vs9]).fp [H] [sla 51 9 oa7 p1.Out.length cap8 vs9,bk b2 [SL oa3 p1.L cap4,i6 p1.At,i6 p1.E,i6 p1.Pos,SL oa7 p1.Out cap8] 171] w) ?_ ?_
 replace u:=u.pk [1,0] rfl
 refine wb<|lp (α:=Nat×Int×Int) (λgh a w=>match gh with | (M3,K4,R0)=>(Z2v N (Z2o (Z2c N) N p1 p12 p13 V1) p1) M3 K4 R0=some r∧Fr 134 [(0,PT b2),(1,i6 p12),(2,i6 p13),(6,i6 K4),(7,i6 V1),(8,i6 R0)] a∧St w0 (sepA [bk b2 [SL oa3 p1.L cap4,i6 p1.At,i6 p1.E,i6 p1.Pos,SL oa7 p1.Out cap8] 171,sla 51 9 oa7 p1.Out.length cap8 vs9]).fp [H] [sla 51 9 oa7 p1.Out.length cap8 vs9,bk b2 [SL oa3 p1.L cap4,i6 p1.At,i6 p1.E,i6 p1.Pos,SL oa7 p1.Out cap8] 171] w) (λgh=>gh.1) (N,1,2) ⟨hm,o.hs,u⟩ ?_
 rintro ⟨M3,K4,R0⟩ a w ⟨hm,o,u⟩
 obtain _ | M3:=M3
 simp [Z2v] at hm
 rw [Z2v] at hm
 refine th<|th<|rg<|qm o rfl λo=>qv o (Cs o rfl rfl) λo=>re<|?_
 rcases bip hm with ⟨R4,hm⟩ | ⟨R4,hm⟩
 refine tn<|ctv o rfl R4<|wk<|tn<|th<|Au (λa w=>∃ (Q2:Int),(Z2p (Z2v N (Z2o (Z2c N) N p1 p12 p13 V1) p1 M3) R0) Q2=some r∧Fr 134 [(0,PT b2),(1,i6 p12),(2,i6 p13),(6,i6 Q2),(7,i6 V1),(8,i6 R0)] a∧St w0 (sepA [bk b2 [SL oa3 p1.L cap4,i6 p1.At,i6 p1.E,i6 p1.Pos,SL oa7 p1.Out cap8] 171,sla 51 9 oa7 p1.Out.length cap8 vs9]).fp [H] [sla 51 9 oa7 p1.Out.length cap8 vs9,bk b2 [SL oa3 p1.L cap4,i6 p1.At,i6 p1.E,i6 p1.Pos,SL oa7 p1.Out cap8] 171] w) ?_ ?_
 refine wb<|th<|?_
 obtain ⟨W8,K8,hm⟩:=bs hm
 obtain ⟨X8,L8,hm⟩:=bs hm
 refine rdS 11 u wide λw u=>dr 0 u o rfl (Ab o rfl) λo=>dr 1 u o rfl (Aj o rfl) λo=>dr 2 u o rfl (Af o Bw rfl) λo=>dq 3 u.ld o rfl (λw hl=>Ag o isAgg120 rfl (hl.cellB t1 rfl)) λo=>dr 4 u o rfl (Ab o rfl) λo=>dr 5 u o rfl (Aj o rfl) λo=>dr 6 u o rfl (Af o Bg rfl) λo=>dq 7 u.ld o rfl (λw hl=>Ag o isAgg3 rfl (hl.cellB t1 rfl)) λo=>dr 8 u o rfl (Ab o rfl) λo=>da1 (i:=9) (by kernel_rfl) ?_
 refine di (i:=9) rfl<|cr o call166 (Jcq (Ai _) K8) u λu o=>⟨λ_=>u.ld,?_⟩
 refine da1 (i:=10) (by kernel_rfl) ?_
 refine di (i:=10) rfl<|cr o call139 (Jt (Ai _) J2 (St.srH u K2) L8) u λu o=>⟨λ_=>u.ld,?_⟩
 refine de (by kernel_rfl)<|?_
 rcases bit hm with ⟨S4,hm⟩ | ⟨S4,hm⟩
 refine tn<|ctv o rfl S4<|rg<|qm o rfl λo=>qa o rfl λo=>re<|bn<|tn<|?_
 exact ⟨R0,hm,o.hs,u⟩
 refine tn<|cfv o rfl S4<|wk<|bn<|tn<|?_
 exact ⟨K4,hm,o.hs,u⟩
 rintro a w ⟨Q2,hm,o,u⟩
 unfold Z2p at hm
 refine rg<|qm o rfl λo=>qv o (Ap o rfl rfl) λo=>qa o rfl λo=>re<|tn<|?_
 exact ⟨(M3,Q2,(IntKind.i64.wrap (R0+1))),⟨hm,o.hs,u⟩,Nat.lt_succ_self _⟩
 refine tn<|cfv o rfl R4<|we<|tx<|tx<|bx<|tn<|?_
 exact ⟨K4,hm,o.hs,u⟩
 rintro a w ⟨Q0,hm,o,u⟩
 unfold Z2o at hm
 refine th<|th<|rg<|qm o rfl λo=>qv o (Al o rfl rfl) λo=>qm o rfl λo=>gr (Fk:=[(0,PT b2),(1,i6 p12),(2,i6 p13),(6,i6 Q0),(7,i6 V1),(42,.bool ((decide (Q0=13)) && (decide (p13=0))))]) 39 3 o u ?_ ?_ ?_
 intro hb o key
 exact qg o (Ab o rfl) λo=>qg o (Al o rfl rfl) λo=>qk o (Ad o rfl rfl) key u hb
 intro hb o key
 iterate 2 refine qn o λo=>?_
 exact qk o (Ae o rfl rfl) key u hb
 intro a w o u
 refine re<|?_
 rcases bit hm with ⟨T4,hm⟩ | ⟨T4,hm⟩
 refine tn<|ctv o rfl T4<|th<|?_
 obtain ⟨Y8,M8,hm⟩:=bs hm
 refine rg<|qm o rfl λo=>?_
 replace u:=u.pk [1,0] rfl
 replace u:=St.sep [bk b2 [SL oa3 p1.L cap4,i6 p1.At,i6 p1.E,i6 p1.Pos,SL oa7 p1.Out cap8] 171,sla 51 9 oa7 p1.Out.length cap8 vs9] u
 refine ls<|c1 o rfl call167 (Mx (St.le u) (p1:=(leadlineref04_P.mk p1.L p1.At p1.E p1.Pos p1.Out)) (b2:=b2) (oa3:=oa3) (cap4:=cap4) (oa7:=oa7) (cap8:=cap8) (vs9:=vs9) J2 K2 X2 (St.sepOk u) (St.sepDis u) M8) ⟨rfl,rfl,trivial⟩ (λv w a hR o=>?_)
 obtain ⟨H28,I7,X5,J7,Y5,K7,rfl,L7,M7,O7,S3,P7,hd27,hk⟩:=hR
 obtain ⟨u,S3⟩:=And.intro (St.mutH u hk S3 P7 hd27) (St.extcMM u S3)
 replace u:=u.unsep
 refine re<|tn<|wr<|tr<|?_
 obtain rfl:=si hm
 exact r0 o results160 ⟨H28,I7,X5,J7,Y5,K7,rfl,L7,M7,O7,S3,(St.le u),(St.disL (u.pickL (.cons .head (.cons .head .nil)))),(u.pickL (.cons .head (.cons .head .nil))).endMut⟩
 refine tn<|cfv o rfl T4<|wk<|tn<|th<|th<|rg<|qm o rfl λo=>qv o (Bt o rfl rfl) λo=>re<|tn<|Au (λa w=>∃ (L4:Int),(Z2q (Z2c N) N p1 p12 p13 V1 Q0) L4=some r∧Fr 134 [(0,PT b2),(1,i6 p12),(2,i6 p13),(6,i6 Q0),(7,i6 V1)] a∧St w0 (sepA [bk b2 [SL oa3 p1.L cap4,i6 p1.At,i6 p1.E,i6 p1.Pos,SL oa7 p1.Out cap8] 171,sla 51 9 oa7 p1.Out.length cap8 vs9]).fp [H] [sla 51 9 oa7 p1.Out.length cap8 vs9,bk b2 [SL oa3 p1.L cap4,i6 L4,i6 p1.E,i6 p1.Pos,SL oa7 p1.Out cap8] 171] w) ?_ ?_
 rcases bip hm with ⟨U4,hm⟩ | ⟨U4,hm⟩
 refine ctv o rfl U4<|rg<|qm o rfl λo=>qm o rfl λo=>qv o (Aj o rfl) λo=>qv o (Af o Bg rfl) λo=>qv o (Ag o isAgg3 rfl (u.ld.cellB t1 rfl)) λo=>qv o (Ap o rfl rfl) λo=>qv o (Aj o rfl) λo=>qv o (Af o Bg rfl) λo=>ls<|Ax o u sizeOf3 rfl rfl rfl rfl (.tail .head) (.succ .zero) λw u=>re<|tn<|?_
 exact ⟨(IntKind.i64.wrap (p1.At+1)),hm,o.hs,u⟩
 refine cfv o rfl U4<|wk<|tn<|?_
 exact ⟨p1.At,hm,o.hs,u⟩
 rintro a w ⟨L4,hm,o,u⟩
 unfold Z2q at hm
 refine th<|?_
 obtain ⟨C0,O8,hm⟩:=bs hm
 refine rg<|qm o rfl λo=>?_
 iterate 2 refine qm o rfl λo=>?_
 replace u:=u.pk [1,0] rfl
 replace u:=St.sep [bk b2 [SL oa3 p1.L cap4,i6 L4,i6 p1.E,i6 p1.Pos,SL oa7 p1.Out cap8] 171,sla 51 9 oa7 p1.Out.length cap8 vs9] u
 refine ls<|c1 o rfl call168 (JaQ (St.le u) (p1:=(leadlineref04_P.mk p1.L L4 p1.E p1.Pos p1.Out)) (b2:=b2) (oa3:=oa3) (cap4:=cap4) (oa7:=oa7) (cap8:=cap8) (vs9:=vs9) J2 K2 X2 (St.sepOk u) (St.sepDis u) O8) ⟨rfl,rfl,rfl,trivial⟩ (λv w a hR o=>?_)
 obtain ⟨H44,cs45,E2,M1,T8,S8,U8,rfl,P8,B5,C5,V4,E3,Q7,hd43,hk⟩:=hR
 obtain ⟨u,E3⟩:=And.intro (St.mutH u hk E3 Q7 hd43) (St.extcMM u E3)
 replace u:=u.unsep
 obtain ⟨O0,F0,P0,G0,rfl,T3,U3,V3,W3⟩:=Bn P8
 refine ls<|Aw (cs:=[i6 0,Ac [],Ac [],.slice none 0 0,.slice none 0 0,i6 0,i6 0,i6 0,i6 0].toArray) o rfl u zeroValue51 rfl λX1 w a u o=>ls<|Ba o u sizeOf51 rfl rfl rfl rfl (Am rfl) .head λw u=>re<|tn<|th<|rg<|qm o rfl λo=>qv o (Aj o rfl) λo=>qv o (Af o Eg rfl) λo=>qv o (Ag o isAgg46 rfl (u.ld.cellB t1 rfl)) λo=>qv o (Ak (α:=api_Stmt) (xs:=C0.2.Out) o runUnderlying46 rfl) λo=>qa o rfl λo=>re<|tn<|th<|Au (λa w=>∃ (J0:(List api_Stmt)) (I0:Option Addr) (D0:Nat) (E1:List Value),(Z2r (Z2c N) N p12 p13 Q0 C0) J0=some r∧Fr 134 [(0,PT b2),(1,i6 p12),(2,i6 p13),(6,i6 Q0),(9,PT X1),(10,i6 (C0.2.Out.length:Int))] a∧St w0 (sepA [bk b2 [SL oa3 p1.L cap4,i6 p1.At,i6 p1.E,i6 p1.Pos,SL oa7 p1.Out cap8] 171,sla 51 9 oa7 p1.Out.length cap8 vs9]).fp [H44] [sla 51 9 I0 J0.length D0 E1,bk b2 [SL E2 C0.2.L M1,i6 C0.2.At,i6 C0.2.E,i6 C0.2.Pos,SL I0 J0 D0] 171,bk X1 [i6 C0.1.Kind,Ac C0.1.Reg,Ac C0.1.Name,SL O0 C0.1.E F0,SL P0 C0.1.F G0,i6 C0.1.N,i6 C0.1.Body,i6 C0.1.Else,i6 C0.1.At] 51] w∧Rows H44 E1 J0) ?_ ?_
 obtain ⟨D5,E5,hm⟩:=bs hm
 refine rdL (Aa t0 Ah) 11 u wide λw u=>ds 0 (St.ldsX u i2 (Aa t0 Ah)) o rfl (Ab o rfl) λo=>ds 1 (St.ldsX u i2 (Aa t0 Ah)) o rfl (Ab o rfl) λo=>ds 2 (St.ldsX u i2 (Aa t0 Ah)) o rfl (Aj o rfl) λo=>ds 3 (St.ldsX u i2 (Aa t0 Ah)) o rfl (Af o Eg rfl) λo=>da2 (i:=4) (j:=5) (by kernel_rfl) ?_ ?_
 refine di (i:=4) rfl<|q1 o rfl (Ag o isAgg46 rfl (u.ld.cellB t1 rfl)) λa o=>⟨λ_=>(St.ldsX u i2 (Aa t0 Ah)),?_⟩
 refine dq 5 (St.ldsX u i2 (Aa t0 Ah)) o rfl (λw hl=>Ay o isAgg51 sizeOf51 rfl rfl (hl.cellsB t0)) λo=>da1 (i:=6) (by kernel_rfl) ?_
 refine di (i:=6) rfl<|Bl (e:=51) (sz:=9) [i6 C0.1.Kind,Ac C0.1.Reg,Ac C0.1.Name,SL O0 C0.1.E F0,SL P0 C0.1.F G0,i6 C0.1.N,i6 C0.1.Body,i6 C0.1.Else,i6 C0.1.At] o rfl u rfl rfl rfl (λw=>by kernel_rfl) λK6 w a u o=>?_
 have Q1:Rows (α:=api_Stmt) H44 [i6 C0.1.Kind,Ac C0.1.Reg,Ac C0.1.Name,SL O0 C0.1.E F0,SL P0 C0.1.F G0,i6 C0.1.N,i6 C0.1.Body,i6 C0.1.Else,i6 C0.1.At] ([C0.1]:List api_Stmt):=(.cons (c:=[i6 C0.1.Kind,Ac C0.1.Reg,Ac C0.1.Name,SL O0 C0.1.E F0,SL P0 C0.1.F G0,i6 C0.1.N,i6 C0.1.Body,i6 C0.1.Else,i6 C0.1.At]) ⟨_,_,rfl,rfl,⟨_,_,rfl,rfl,⟨_,_,rfl,rfl,⟨_,_,rfl,⟨_,_,rfl,T3,U3⟩,⟨_,_,rfl,⟨_,_,rfl,V3,W3⟩,⟨_,_,rfl,rfl,⟨_,_,rfl,rfl,⟨_,_,rfl,rfl,rfl⟩⟩⟩⟩⟩⟩⟩⟩ .nil)
 refine ⟨λ_=>(St.ldsX u i2 (Aa t1 Ah)),?_⟩
 refine da1 (i:=7) (by kernel_rfl) ?_
 refine di (i:=7) rfl<|Cl (α:=api_Stmt) (xs:=C0.2.Out) (ys:=([C0.1]:List api_Stmt)) o rfl u underlying46 Qk rfl (by decide) rfl rfl rfl t3 V4 (u.rdO t0) Q1 E5 λF3 Y1 G3 w a I3 hU o=>?_
 replace u:=hU _ (.tail (.tail (.tail .head)))
 replace u:=u.drop .head
 refine ⟨λ_=>(St.ldsX u i2 (Aa t0 Ah)),?_⟩
 refine ds 8 (St.ldsX u i2 (Aa t0 Ah)) o rfl (Aj o rfl) λo=>ds 9 (St.ldsX u i2 (Aa t0 Ah)) o rfl (Af o Eg rfl) λo=>da1 (i:=10) (by kernel_rfl) ?_
 refine di (i:=10) rfl<|Ax o u sizeOf46 rfl rfl rfl rfl (.tail .head) (.succ (.succ (.succ (.succ .zero)))) λw u=>⟨λ_=>(St.ldsX u i2 (Aa t0 Ah)),?_⟩
 refine de (by kernel_rfl)<|tn<|?_
 replace u:=u.pk [2,1,0] rfl
 exact ⟨D5,F3,Y1,G3,hm,o.hs,u,I3⟩
 refine di (i:=5) rfl<|q1 o rfl (Ay o isAgg51 sizeOf51 rfl rfl (u.ld.cellsB t0)) λa o=>⟨λ_=>(St.ldsX u i2 (Aa t0 Ah)),?_⟩
 refine da2 (i:=4) (j:=6) (by kernel_rfl) ?_ ?_
 refine di (i:=4) rfl<|q1 o rfl (Ag o isAgg46 rfl (u.ld.cellB t1 rfl)) λa o=>⟨λ_=>(St.ldsX u i2 (Aa t0 Ah)),?_⟩
 refine da1 (i:=6) (by kernel_rfl) ?_
 refine di (i:=6) rfl<|Bl (e:=51) (sz:=9) [i6 C0.1.Kind,Ac C0.1.Reg,Ac C0.1.Name,SL O0 C0.1.E F0,SL P0 C0.1.F G0,i6 C0.1.N,i6 C0.1.Body,i6 C0.1.Else,i6 C0.1.At] o rfl u rfl rfl rfl (λw=>by kernel_rfl) λK6 w a u o=>?_
 have Q1:Rows (α:=api_Stmt) H44 [i6 C0.1.Kind,Ac C0.1.Reg,Ac C0.1.Name,SL O0 C0.1.E F0,SL P0 C0.1.F G0,i6 C0.1.N,i6 C0.1.Body,i6 C0.1.Else,i6 C0.1.At] ([C0.1]:List api_Stmt):=(.cons (c:=[i6 C0.1.Kind,Ac C0.1.Reg,Ac C0.1.Name,SL O0 C0.1.E F0,SL P0 C0.1.F G0,i6 C0.1.N,i6 C0.1.Body,i6 C0.1.Else,i6 C0.1.At]) ⟨_,_,rfl,rfl,⟨_,_,rfl,rfl,⟨_,_,rfl,rfl,⟨_,_,rfl,⟨_,_,rfl,T3,U3⟩,⟨_,_,rfl,⟨_,_,rfl,V3,W3⟩,⟨_,_,rfl,rfl,⟨_,_,rfl,rfl,⟨_,_,rfl,rfl,rfl⟩⟩⟩⟩⟩⟩⟩⟩ .nil)
 refine ⟨λ_=>(St.ldsX u i2 (Aa t1 Ah)),?_⟩
 refine da1 (i:=7) (by kernel_rfl) ?_
 refine di (i:=7) rfl<|Cl (α:=api_Stmt) (xs:=C0.2.Out) (ys:=([C0.1]:List api_Stmt)) o rfl u underlying46 Qk rfl (by decide) rfl rfl rfl t3 V4 (u.rdO t0) Q1 E5 λF3 Y1 G3 w a I3 hU o=>?_
 replace u:=hU _ (.tail (.tail (.tail .head)))
 replace u:=u.drop .head
 refine ⟨λ_=>(St.ldsX u i2 (Aa t0 Ah)),?_⟩
 refine ds 8 (St.ldsX u i2 (Aa t0 Ah)) o rfl (Aj o rfl) λo=>ds 9 (St.ldsX u i2 (Aa t0 Ah)) o rfl (Af o Eg rfl) λo=>da1 (i:=10) (by kernel_rfl) ?_
 refine di (i:=10) rfl<|Ax o u sizeOf46 rfl rfl rfl rfl (.tail .head) (.succ (.succ (.succ (.succ .zero)))) λw u=>⟨λ_=>(St.ldsX u i2 (Aa t0 Ah)),?_⟩
 refine de (by kernel_rfl)<|tn<|?_
 replace u:=u.pk [2,1,0] rfl
 exact ⟨D5,F3,Y1,G3,hm,o.hs,u,I3⟩
 refine di (i:=6) rfl<|Bl (e:=51) (sz:=9) [i6 C0.1.Kind,Ac C0.1.Reg,Ac C0.1.Name,SL O0 C0.1.E F0,SL P0 C0.1.F G0,i6 C0.1.N,i6 C0.1.Body,i6 C0.1.Else,i6 C0.1.At] o rfl u rfl rfl rfl (λw=>by kernel_rfl) λK6 w a u o=>?_
 have Q1:Rows (α:=api_Stmt) H44 [i6 C0.1.Kind,Ac C0.1.Reg,Ac C0.1.Name,SL O0 C0.1.E F0,SL P0 C0.1.F G0,i6 C0.1.N,i6 C0.1.Body,i6 C0.1.Else,i6 C0.1.At] ([C0.1]:List api_Stmt):=(.cons (c:=[i6 C0.1.Kind,Ac C0.1.Reg,Ac C0.1.Name,SL O0 C0.1.E F0,SL P0 C0.1.F G0,i6 C0.1.N,i6 C0.1.Body,i6 C0.1.Else,i6 C0.1.At]) ⟨_,_,rfl,rfl,⟨_,_,rfl,rfl,⟨_,_,rfl,rfl,⟨_,_,rfl,⟨_,_,rfl,T3,U3⟩,⟨_,_,rfl,⟨_,_,rfl,V3,W3⟩,⟨_,_,rfl,rfl,⟨_,_,rfl,rfl,⟨_,_,rfl,rfl,rfl⟩⟩⟩⟩⟩⟩⟩⟩ .nil)
 refine ⟨λ_=>(St.ldsX u i2 (Aa t1 Ah)),?_⟩
 refine da1 (i:=4) (by kernel_rfl) ?_
 refine di (i:=4) rfl<|q1 o rfl (Ag o isAgg46 rfl (u.ld.cellB t2 rfl)) λa o=>⟨λ_=>(St.ldsX u i2 (Aa t1 Ah)),?_⟩
 refine da1 (i:=7) (by kernel_rfl) ?_
 refine di (i:=7) rfl<|Cl (α:=api_Stmt) (xs:=C0.2.Out) (ys:=([C0.1]:List api_Stmt)) o rfl u underlying46 Qk rfl (by decide) rfl rfl rfl t3 V4 (u.rdO t0) Q1 E5 λF3 Y1 G3 w a I3 hU o=>?_
 replace u:=hU _ (.tail (.tail (.tail .head)))
 replace u:=u.drop .head
 refine ⟨λ_=>(St.ldsX u i2 (Aa t0 Ah)),?_⟩
 refine ds 8 (St.ldsX u i2 (Aa t0 Ah)) o rfl (Aj o rfl) λo=>ds 9 (St.ldsX u i2 (Aa t0 Ah)) o rfl (Af o Eg rfl) λo=>da1 (i:=10) (by kernel_rfl) ?_
 refine di (i:=10) rfl<|Ax o u sizeOf46 rfl rfl rfl rfl (.tail .head) (.succ (.succ (.succ (.succ .zero)))) λw u=>⟨λ_=>(St.ldsX u i2 (Aa t0 Ah)),?_⟩
 refine de (by kernel_rfl)<|tn<|?_
 replace u:=u.pk [2,1,0] rfl
 exact ⟨D5,F3,Y1,G3,hm,o.hs,u,I3⟩
 rintro a w ⟨J0,I0,D0,E1,hm,o,u,F5⟩
 unfold Z2r at hm
 refine th<|th<|rg<|qm o rfl λo=>qv o (Bt o rfl rfl) λo=>qm o rfl λo=>gr (Fk:=[(0,PT b2),(1,i6 p12),(2,i6 p13),(6,i6 Q0),(9,PT X1),(10,i6 (C0.2.Out.length:Int)),(79,.bool ((decide (Q0≠11)) && (decide (Q0≠12))))]) 76 3 o u ?_ ?_ ?_
 intro hb o key
 exact qg o (Ab o rfl) λo=>qg o (Bt o rfl rfl) λo=>qk o (Ad o rfl rfl) key u hb
 intro hb o key
 iterate 2 refine qn o λo=>?_
 exact qk o (Ae o rfl rfl) key u hb
 intro a w o u
 refine re<|?_
 rcases bit hm with ⟨W4,hm⟩ | ⟨W4,hm⟩
 refine tn<|ctv o rfl W4<|th<|?_
 obtain ⟨d8,Q8,hm⟩:=bs hm
 refine rg<|qm o rfl λo=>?_
 replace u:=u.pk [1,0,0] rfl
 replace u:=St.sep [bk b2 [SL E2 C0.2.L M1,i6 C0.2.At,i6 C0.2.E,i6 C0.2.Pos,SL I0 J0 D0] 171,sla 51 9 I0 J0.length D0 E1] u
 refine ls<|c1 o rfl call161 (Hy (St.le u) (p1:=(leadlineref04_P.mk C0.2.L C0.2.At C0.2.E C0.2.Pos J0)) (b2:=b2) (oa3:=E2) (cap4:=M1) (oa7:=I0) (cap8:=D0) (vs9:=E1) B5 C5 F5 (St.sepOk u) (St.sepDis u) Q8) ⟨rfl,rfl,trivial⟩ (λv w a hR o=>?_)
 obtain ⟨H80,R7,k5,S7,n5,T7,rfl,U7,V7,W7,X3,X7,hd79,hk⟩:=hR
 obtain ⟨u,X3⟩:=And.intro (St.mutH u hk X3 X7 hd79) (St.extcMM u X3)
 replace u:=u.unsep
 refine re<|tn<|wr<|tr<|?_
 obtain rfl:=si hm
 exact r0 o results160 ⟨H80,R7,k5,S7,n5,T7,rfl,U7,V7,W7,(ExtM.trans E3 X3),(St.le u),(St.disL (u.pickL (.cons .head (.cons .head .nil)))),(u.pickL (.cons .head (.cons .head .nil))).endMut⟩
 refine tn<|cfv o rfl W4<|wk<|tn<|th<|rg<|qm o rfl λo=>qa o rfl λo=>re<|tn<|th<|th<|rg<|qm o rfl λo=>qv o (Al o rfl rfl) λo=>re<|tn<|Au (λa w=>∃ (u0:Int),(Z2s (Z2c N) N p12 Q0 C0 J0) u0=some r∧Fr 134 [(0,PT b2),(1,i6 p12),(6,i6 Q0),(9,PT X1),(10,i6 (C0.2.Out.length:Int)),(11,i6 u0)] a∧St w0 (sepA [bk b2 [SL oa3 p1.L cap4,i6 p1.At,i6 p1.E,i6 p1.Pos,SL oa7 p1.Out cap8] 171,sla 51 9 oa7 p1.Out.length cap8 vs9]).fp [H44] [sla 51 9 I0 J0.length D0 E1,bk b2 [SL E2 C0.2.L M1,i6 C0.2.At,i6 C0.2.E,i6 C0.2.Pos,SL I0 J0 D0] 171,bk X1 [i6 C0.1.Kind,Ac C0.1.Reg,Ac C0.1.Name,SL O0 C0.1.E F0,SL P0 C0.1.F G0,i6 C0.1.N,i6 C0.1.Body,i6 C0.1.Else,i6 C0.1.At] 51] w) ?_ ?_
 rcases bip hm with ⟨X4,hm⟩ | ⟨X4,hm⟩
 refine ctv o rfl X4<|rg<|qm o rfl λo=>qv o (Ap o rfl rfl) λo=>qa o rfl λo=>re<|tn<|?_
 exact ⟨(IntKind.i64.wrap (p13+1)),hm,o.hs,u⟩
 refine cfv o rfl X4<|wk<|tn<|?_
 exact ⟨p13,hm,o.hs,u⟩
 rintro a w ⟨u0,hm,o,u⟩
 unfold Z2s at hm
 refine th<|?_
 obtain ⟨E0,R8,hm⟩:=bs hm
 refine rg<|qm o rfl λo=>qm o rfl λo=>qv o (Ap o rfl rfl) λo=>qm o rfl λo=>?_
 replace u:=u.pk [1,0,0] rfl
 replace u:=St.sep [bk b2 [SL E2 C0.2.L M1,i6 C0.2.At,i6 C0.2.E,i6 C0.2.Pos,SL I0 J0 D0] 171,sla 51 9 I0 J0.length D0 E1] u
 refine ls<|c1 o rfl call169 (ih_Z2c (St.le u) (p1:=(leadlineref04_P.mk C0.2.L C0.2.At C0.2.E C0.2.Pos J0)) (b2:=b2) (oa3:=E2) (cap4:=M1) (oa7:=I0) (cap8:=D0) (vs9:=E1) B5 C5 F5 (St.sepOk u) (St.sepDis u) R8) ⟨rfl,rfl,rfl,trivial⟩ (λv w a hR o=>?_)
 obtain ⟨H96,Y3,R2,O1,X0,U2,rfl,Y4,l3,l4,F2,Y7,hd95,hk⟩:=hR
 obtain ⟨u,F2⟩:=And.intro (St.mutH u hk F2 Y7 hd95) (St.extcMM u F2)
 replace u:=u.unsep
 refine qv o (Af o Do rfl) λo=>ls<|Ax o u sizeOf3 rfl rfl rfl rfl (.tail (.tail .head)) (.succ (.succ (.succ (.succ (.succ (.succ .zero)))))) λw u=>re<|tn<|th<|th<|Au (λa w=>∃ (Y0:Bool),(Z2t (Z2c N) N p12 C0 u0 E0) Y0=some r∧Fr 134 [(0,PT b2),(1,i6 p12),(9,PT X1),(10,i6 (C0.2.Out.length:Int)),(11,i6 u0),(112,.bool Y0)] a∧St w0 (sepA [bk b2 [SL oa3 p1.L cap4,i6 p1.At,i6 p1.E,i6 p1.Pos,SL oa7 p1.Out cap8] 171,sla 51 9 oa7 p1.Out.length cap8 vs9]).fp [H96] [sla 51 9 O1 E0.2.Out.length X0 U2,bk b2 [SL Y3 E0.2.L R2,i6 E0.2.At,i6 E0.2.E,i6 E0.2.Pos,SL O1 E0.2.Out X0] 171,bk X1 [i6 C0.1.Kind,Ac C0.1.Reg,Ac C0.1.Name,SL O0 C0.1.E F0,SL P0 C0.1.F G0,i6 C0.1.N,i6 E0.1,i6 C0.1.Else,i6 C0.1.At] 51] w) ?_ ?_
 rcases bip hm with ⟨V2,hm⟩ | ⟨V2,hm⟩
 rcases bip hm with ⟨u3,hm⟩ | ⟨u3,hm⟩
 obtain ⟨k7,n7,hm⟩:=bs hm
 refine rdS 20 u wide λw u=>dr 0 u o rfl (Ab o rfl) λo=>dr 1 u o rfl (Al o rfl rfl) λo=>dr 2 u o rfl (As (Ab o rfl) (congrArg Value.bool V2)) λo=>dg 3 u.ld o rfl (λw hl=>Ab o rfl) λo=>dg 4 u.ld o rfl (λw hl=>Aj o rfl) λo=>dg 5 u.ld o rfl (λw hl=>Af o Bv rfl) λo=>dg 6 u.ld o rfl (λw hl=>Ag o isAgg29 rfl (hl.cellB t0 rfl)) λo=>dg 7 u.ld o rfl (λw hl=>Al o rfl rfl) λo=>dr 8 u o rfl (Ad o rfl rfl) λo=>dr 9 u o rfl (As (Ab o rfl) (congrArg Value.bool u3)) λo=>dg 10 u.ld o rfl (λw hl=>Ab o rfl) λo=>dg 11 u.ld o rfl (λw hl=>Aj o rfl) λo=>dg 12 u.ld o rfl (λw hl=>Af o Bw rfl) λo=>dg 13 u.ld o rfl (λw hl=>Ag o isAgg120 rfl (hl.cellB t0 rfl)) λo=>dg 14 u.ld o rfl (λw hl=>Ab o rfl) λo=>dg 15 u.ld o rfl (λw hl=>Aj o rfl) λo=>dg 16 u.ld o rfl (λw hl=>Af o Bg rfl) λo=>dg 17 u.ld o rfl (λw hl=>Ag o isAgg3 rfl (hl.cellB t0 rfl)) λo=>da1 (i:=18) (by kernel_rfl) ?_
 refine di (i:=18) rfl<|gy o rfl rfl<|cr o call139 (Jt (Ai _) Y4 (St.srH u l3) n7) u λu o=>⟨λ_=>u.ld,?_⟩
 refine dr 19 u o rfl (Ad o rfl rfl) λo=>de (by kernel_rfl)<|tn<|?_
 replace u:=u.pk [1,0,0] rfl
 exact ⟨k7,hm,o.hs,u⟩
 refine rxS 20 u wide (by kernel_rfl) λw u=>xm u o rfl λo=>xr u o (Al o rfl rfl) λo=>xr u o (As (Ab o rfl) (congrArg Value.bool V2)) λo=>xg u.ld o (λw hl=>Ab o rfl) λo=>xg u.ld o (λw hl=>Aj o rfl) λo=>xg u.ld o (λw hl=>Af o Bv rfl) λo=>xg u.ld o (λw hl=>Ag o isAgg29 rfl (hl.cellB t0 rfl)) λo=>xg u.ld o (λw hl=>Al o rfl rfl) λo=>xr u o (Ad o rfl rfl) λo=>xr u o (As (Ab o rfl) (congrArg Value.bool u3)) λo=>?_
 iterate 9 refine xn u.ld o λo=>?_
 refine xr u o (Ae o rfl rfl) λo=>xe<|tn<|?_
 replace u:=u.pk [1,0,0] rfl
 exact ⟨false,hm,o.hs,u⟩
 refine rxS 20 u wide (by kernel_rfl) λw u=>xm u o rfl λo=>xr u o (Al o rfl rfl) λo=>xr u o (As (Ab o rfl) (congrArg Value.bool V2)) λo=>?_
 iterate 5 refine xn u.ld o λo=>?_
 refine xr u o (Ae o rfl rfl) λo=>xm u o rfl λo=>?_
 iterate 9 refine xn u.ld o λo=>?_
 refine xr u o (Ae o rfl rfl) λo=>xe<|tn<|?_
 replace u:=u.pk [1,0,0] rfl
 exact ⟨false,hm,o.hs,u⟩
 rintro a w ⟨Y0,hm,o,u⟩
 unfold Z2t at hm
 refine Au (λa w=>∃ (G2:(List api_Token)) (A4:Int) (S0:Int) (B4:Int) (J3:(List api_Stmt)) (K0:Int) (R1:PH) (B2:Option Addr) (F1:Nat) (C2:Option Addr) (G1:Nat) (C4:List Value),(Z2u N C0 E0) G2 A4 S0 B4 J3 K0=some r∧ExtM w0 (sepA [bk b2 [SL oa3 p1.L cap4,i6 p1.At,i6 p1.E,i6 p1.Pos,SL oa7 p1.Out cap8] 171,sla 51 9 oa7 p1.Out.length cap8 vs9]).fp H96 R1∧Fr 134 [(0,PT b2),(9,PT X1),(10,i6 (C0.2.Out.length:Int))] a∧St w0 (sepA [bk b2 [SL oa3 p1.L cap4,i6 p1.At,i6 p1.E,i6 p1.Pos,SL oa7 p1.Out cap8] 171,sla 51 9 oa7 p1.Out.length cap8 vs9]).fp [R1] [sla 51 9 C2 J3.length G1 C4,bk b2 [SL B2 G2 F1,i6 A4,i6 S0,i6 B4,SL C2 J3 G1] 171,bk X1 [i6 C0.1.Kind,Ac C0.1.Reg,Ac C0.1.Name,SL O0 C0.1.E F0,SL P0 C0.1.F G0,i6 C0.1.N,i6 E0.1,i6 K0,i6 C0.1.At] 51] w∧G2.length≤F1∧SR R1 B2 G2∧Rows R1 C4 J3) ?_ ?_
 rcases bit hm with ⟨D4,hm⟩ | ⟨D4,hm⟩
 refine ctv o rfl D4<|th<|rg<|qm o rfl λo=>qm o rfl λo=>qv o (Aj o rfl) λo=>qv o (Af o Bg rfl) λo=>qv o (Ag o isAgg3 rfl (u.ld.cellB t1 rfl)) λo=>qv o (Ap o rfl rfl) λo=>qv o (Aj o rfl) λo=>qv o (Af o Bg rfl) λo=>ls<|Ax o u sizeOf3 rfl rfl rfl rfl (.tail .head) (.succ .zero) λw u=>re<|tn<|?_
 obtain ⟨I2,u7,hm⟩:=bs hm
 refine rg<|qm o rfl λo=>qm o rfl λo=>qv o (Ap o rfl rfl) λo=>qm o rfl λo=>?_
 replace u:=u.pk [1,0,0] rfl
 replace u:=St.sep [bk b2 [SL Y3 E0.2.L R2,i6 (IntKind.i64.wrap (E0.2.At+1)),i6 E0.2.E,i6 E0.2.Pos,SL O1 E0.2.Out X0] 171,sla 51 9 O1 E0.2.Out.length X0 U2] u
 refine ls<|c1 o rfl call169 (ih_Z2c (St.le u) (p1:=(leadlineref04_P.mk E0.2.L (IntKind.i64.wrap (E0.2.At+1)) E0.2.E E0.2.Pos E0.2.Out)) (b2:=b2) (oa3:=Y3) (cap4:=R2) (oa7:=O1) (cap8:=X0) (vs9:=U2) Y4 l3 l4 (St.sepOk u) (St.sepDis u) u7) ⟨rfl,rfl,rfl,trivial⟩ (λv w a hR o=>?_)
 obtain ⟨H116,u5,G5,A6,I5,B6,rfl,C6,D6,E6,W2,F6,hd115,hk⟩:=hR
 obtain ⟨u,W2⟩:=And.intro (St.mutH u hk W2 F6 hd115) (St.extcMM u W2)
 replace u:=u.unsep
 refine qv o (Af o Dw rfl) λo=>ls<|Ax o u sizeOf3 rfl rfl rfl rfl (.tail (.tail .head)) (.succ (.succ (.succ (.succ (.succ (.succ (.succ .zero))))))) λw u=>re<|tn<|?_
 replace u:=u.pk [1,0,0] rfl
 exact ⟨I2.2.L,I2.2.At,I2.2.E,I2.2.Pos,I2.2.Out,I2.1,H116,u5,G5,A6,I5,B6,hm,W2,o.hs,u,C6,D6,E6⟩
 refine cfv o rfl D4<|wk<|tn<|?_
 exact ⟨E0.2.L,E0.2.At,E0.2.E,E0.2.Pos,E0.2.Out,C0.1.Else,H96,Y3,R2,O1,X0,U2,hm,(ExtM.refl _ _ _),o.hs,u,Y4,l3,l4⟩
 rintro a w ⟨G2,A4,S0,B4,J3,K0,R1,B2,F1,C2,G1,C4,hm,K3,o,u,hcA15,hrA16,u4⟩
 unfold Z2u at hm
 obtain ⟨V8,J5,hm⟩:=bs hm
 have G6:=Rd.oaI (u.rdO t0) u4 (by decide) J5
 obtain ⟨v7,K5,hm⟩:=bs hm
 refine rxS 7 u wide (by kernel_rfl) λw u=>xm u o rfl λo=>xr u o (Aj o rfl) λo=>xr u o (Af o Eg rfl) λo=>xq u.ld o (λw hl=>Ag o isAgg46 rfl (hl.cellB t1 rfl)) λo=>xm u o rfl λo=>xq u.ld o (λw hl=>Ay o isAgg51 sizeOf51 rfl rfl (hl.cellsB t2)) λo=>xr u o (An o runUnderlying46 sizeOf51 rfl rfl J5 G6) λo=>?_
 have hn133:=Vn K5
 refine xz rfl<|JbK (α:=api_Stmt) o u sizeOf51 rfl rfl rfl u4 (show Enc.rep (α:=api_Stmt) R1 [i6 C0.1.Kind,Ac C0.1.Reg,Ac C0.1.Name,SL O0 C0.1.E F0,SL P0 C0.1.F G0,i6 C0.1.N,i6 E0.1,i6 K0,i6 C0.1.At] (api_Stmt.mk C0.1.Kind C0.1.Reg C0.1.Name C0.1.E C0.1.F C0.1.N E0.1 K0 C0.1.At) from ⟨_,_,rfl,rfl,⟨_,_,rfl,rfl,⟨_,_,rfl,rfl,⟨_,_,rfl,⟨_,_,rfl,T3,(U3.mono (cp K3.sub F2.sub))⟩,⟨_,_,rfl,⟨_,_,rfl,V3,(W3.mono (cp K3.sub F2.sub))⟩,⟨_,_,rfl,rfl,⟨_,_,rfl,rfl,⟨_,_,rfl,rfl,rfl⟩⟩⟩⟩⟩⟩⟩⟩) K5 t0 λI6 w J6 hU=>?_
 replace u:=hU _ .head
 replace u:=St.eqL u (A':=bk b2 [SL B2 G2 F1,i6 A4,i6 S0,i6 B4,SL C2 v7 G1] 171) (.tail .head) (by simp only [SL,hn133])
 obtain rfl:=si hm
 exact r0n o results160 ⟨R1,B2,F1,C2,G1,I6,rfl,hcA15,hrA16,J6,(ExtM.trans E3 (ExtM.trans F2 K3)),(St.le u),(St.disL (u.pickL (.cons (.tail .head) (.cons .head .nil)))),(u.pickL (.cons (.tail .head) (.cons .head .nil))).endMut⟩
theorem Jbw:∀ (N:Nat) {w0:World} {H:PH} (_:H.le w0) {b2:Nat} {p1:leadlineref04_P} {oa3:Option Addr} {cap4:Nat} (_:p1.L.length≤cap4) (_:SR H oa3 p1.L) {oa7:Option Addr} {cap8:Nat} {vs9:List Value} (_:Rows H vs9 p1.Out) {p12:Int} {p13:Int} (_:(sepA [bk b2 [SL oa3 p1.L cap4,i6 p1.At,i6 p1.E,i6 p1.Pos,SL oa7 p1.Out cap8] 171,sla 51 9 oa7 p1.Out.length cap8 vs9]).ok (hp w0)) (_:∀ b,(sepA [bk b2 [SL oa3 p1.L cap4,i6 p1.At,i6 p1.E,i6 p1.Pos,SL oa7 p1.Out cap8] 171,sla 51 9 oa7 p1.Out.length cap8 vs9]).fp b→H b=none) {r:leadlineref04_P} (_:Z2n N p1 p12 p13=some r),Tot Tryz.prog 160 #[PT b2,i6 p12,i6 p13] w0 (λv w'=>∃ (H':PH) (oa1m:Option Addr) (cap1m:Nat) (oa2m:Option Addr) (cap2m:Nat) (vs2m:List Value),v=.tuple #[]∧r.L.length≤cap1m∧SR H' oa1m r.L∧Rows H' vs2m r.Out∧ExtM w0 (sepA [bk b2 [SL oa3 p1.L cap4,i6 p1.At,i6 p1.E,i6 p1.Pos,SL oa7 p1.Out cap8] 171,sla 51 9 oa7 p1.Out.length cap8 vs9]).fp H H'∧H'.le w'∧(∀ b,(sepA [bk b2 [SL oa1m r.L cap1m,i6 r.At,i6 r.E,i6 r.Pos,SL oa2m r.Out cap2m] 171,sla 51 9 oa2m r.Out.length cap2m vs2m]).fp b→H' b=none)∧Mut w0 (sepA [bk b2 [SL oa3 p1.L cap4,i6 p1.At,i6 p1.E,i6 p1.Pos,SL oa7 p1.Out cap8] 171,sla 51 9 oa7 p1.Out.length cap8 vs9]) (sepA [bk b2 [SL oa1m r.L cap1m,i6 r.At,i6 r.E,i6 r.Pos,SL oa2m r.Out cap2m] 171,sla 51 9 oa2m r.Out.length cap2m vs2m]) w'):=λN=>(Jck N).2
theorem Jba (hH:H.le w0) {R0:Option Addr} {G0:Nat} {p1:(List api_Token)} (W2:p1.length≤G0) (R1:SR H R0 p1) {p6:Int} {p7:Int} {r:((List api_Stmt)×Int×Int×Int)} (hm:Z32 N p1 p6 p7=some r):Tot Tryz.prog 141 #[SL R0 p1 G0,i6 p6,i6 p7] w0 (λv w'=>∃ (H':PH) (C2:Option Addr) (S1:Nat),v=.tuple #[SL C2 r.1 S1,i6 r.2.1,i6 r.2.2.1,i6 r.2.2.2]∧r.1.length≤S1∧SR H' C2 r.1∧Ext w0 H H'∧H'.le w'∧Keep Nil w0 w'):=by
 unfold Z32 at hm
 refine fn0 func141 rfl ntmps141 rfl rfl λa o=>?_
 have u:St w0 Nil [H] [] w0:=start1 hH
 refine th<|rg<|qa o rfl λo=>?_
 iterate 3 refine qa o rfl λo=>?_
 refine re<|tn<|th<|rg<|qm o rfl λo=>qm o rfl λo=>qv o (Bu [SL R0 p1 G0,i6 p6] [SL R0 p1 G0,i6 p6,i6 0,i6 0,.slice none 0 0] o ⟨rfl,rfl,trivial⟩ (λw=>by kernel_rfl)) λo=>ls<|Bs (cs:=[SL R0 p1 G0,i6 p6,i6 0,i6 0,.slice none 0 0].toArray) o rfl u rfl rfl λb8 w a u o=>qa o rfl λo=>re<|tn<|th<|Au (λa w=>∃ (Y0:(List api_Token)) (C1:Int) (E1:Int) (F1:Int) (K0:(List api_Stmt)) (G1:PH) (j0:Option Addr) (S0:Nat) (M0:Option Addr) (F0:Nat) (T0:List Value),(Z33 N p1 p7) Y0 C1 E1 F1 K0=some r∧Ext w0 H G1∧Fr 68 [(0,SL R0 p1 G0),(2,i6 p7),(10,PT b8)] a∧St w0 Nil [G1] [sla 51 9 M0 K0.length F0 T0,bk b8 [SL j0 Y0 S0,i6 C1,i6 E1,i6 F1,SL M0 K0 F0] 171] w∧Y0.length≤S0∧SR G1 j0 Y0∧Rows G1 T0 K0) ?_ ?_
 replace u:=u.nilS 51 9
 refine wb<|lp (α:=Nat×(List api_Token)×Int×Int×Int×(List api_Stmt)) (λgh a w=>match gh with | (u0,O0,U0,V0,W0,D0)=>∃ (n0:PH) (P0:Option Addr) (I0:Nat) (E0:Option Addr) (C0:Nat) (J0:List Value),(Z35 N (Z33 N p1 p7)) u0 O0 U0 V0 W0 D0=some r∧Ext w0 H n0∧Fr 68 [(0,SL R0 p1 G0),(2,i6 p7),(10,PT b8)] a∧St w0 Nil [n0] [sla 51 9 E0 D0.length C0 J0,bk b8 [SL P0 O0 I0,i6 U0,i6 V0,i6 W0,SL E0 D0 C0] 171] w∧O0.length≤I0∧SR n0 P0 O0∧Rows n0 J0 D0) (λgh=>gh.1) (N,p1,p6,0,0,[]) ⟨H,R0,G0,none,0,[],hm,(Ext.refl _ _),o.hs,u,W2,R1,.nil⟩ ?_
 rintro ⟨u0,O0,U0,V0,W0,D0⟩ a w ⟨n0,P0,I0,E0,C0,J0,hm,P1,o,u,hcB5,hrB6,Q1⟩
 obtain _ | u0:=u0
 simp [Z35] at hm
 rw [Z35] at hm
 refine th<|th<|Au (λa w=>∃ (T1:Bool),(Z34 N (Z33 N p1 p7) (Z35 N (Z33 N p1 p7) u0) O0 U0 V0 W0 D0) T1=some r∧Fr 68 [(0,SL R0 p1 G0),(2,i6 p7),(10,PT b8),(31,.bool T1)] a∧St w0 Nil [n0] [sla 51 9 E0 D0.length C0 J0,bk b8 [SL P0 O0 I0,i6 U0,i6 V0,i6 W0,SL E0 D0 C0] 171] w) ?_ ?_
 rcases bip hm with ⟨U1,hm⟩ | ⟨U1,hm⟩
 obtain ⟨X2,Y2,hm⟩:=bs hm
 refine rdS 17 u wide λw u=>dr 0 u o rfl (Ab o rfl) λo=>dr 1 u o rfl (Aj o rfl) λo=>dr 2 u o rfl (Af o Bv rfl) λo=>dq 3 u.ld o rfl (λw hl=>Ag o isAgg29 rfl (hl.cellB t1 rfl)) λo=>dr 4 u o rfl (Al o rfl rfl) λo=>dr 5 u o rfl (As (Ab o rfl) (congrArg Value.bool U1)) λo=>dg 6 u.ld o rfl (λw hl=>Ab o rfl) λo=>dg 7 u.ld o rfl (λw hl=>Aj o rfl) λo=>dg 8 u.ld o rfl (λw hl=>Af o Bw rfl) λo=>dg 9 u.ld o rfl (λw hl=>Ag o isAgg120 rfl (hl.cellB t1 rfl)) λo=>dg 10 u.ld o rfl (λw hl=>Ab o rfl) λo=>dg 11 u.ld o rfl (λw hl=>Aj o rfl) λo=>dg 12 u.ld o rfl (λw hl=>Af o Bg rfl) λo=>dg 13 u.ld o rfl (λw hl=>Ag o isAgg3 rfl (hl.cellB t1 rfl)) λo=>da1 (i:=14) (by kernel_rfl) ?_
 refine di (i:=14) rfl<|gy o rfl rfl<|cr o call139 (Jt (Ai _) hcB5 (St.srH u hrB6) Y2) u λu o=>⟨λ_=>u.ld,?_⟩
 refine dg 15 u.ld o rfl (λw hl=>Az o rfl) λo=>dr 16 u o rfl (Ad o rfl rfl) λo=>de (by kernel_rfl)<|tn<|?_
 exact ⟨(!X2),hm,o.hs,u⟩
 refine rxS 17 u wide (by kernel_rfl) λw u=>xm u o rfl λo=>xr u o (Aj o rfl) λo=>xr u o (Af o Bv rfl) λo=>xq u.ld o (λw hl=>Ag o isAgg29 rfl (hl.cellB t1 rfl)) λo=>xr u o (Al o rfl rfl) λo=>xr u o (As (Ab o rfl) (congrArg Value.bool U1)) λo=>?_
 iterate 10 refine xn u.ld o λo=>?_
 refine xr u o (Ae o rfl rfl) λo=>xe<|tn<|?_
 exact ⟨false,hm,o.hs,u⟩
 rintro a w ⟨T1,hm,o,u⟩
 unfold Z34 at hm
 rcases bit hm with ⟨J1,hm⟩ | ⟨J1,hm⟩
 refine ctv o rfl J1<|wk<|tn<|wb<|?_
 obtain ⟨I1,A3,hm⟩:=bs hm
 refine rg<|qm o rfl λo=>?_
 replace u:=u.pk [1,0] rfl
 replace u:=St.sep [bk b8 [SL P0 O0 I0,i6 U0,i6 V0,i6 W0,SL E0 D0 C0] 171,sla 51 9 E0 D0.length C0 J0] u
 refine ls<|c1 o rfl call160 (Jbw _ (St.le u) (p1:=(leadlineref04_P.mk O0 U0 V0 W0 D0)) (b2:=b8) (oa3:=P0) (cap4:=I0) (oa7:=E0) (cap8:=C0) (vs9:=J0) hcB5 hrB6 Q1 (St.sepOk u) (St.sepDis u) A3) ⟨rfl,rfl,rfl,trivial⟩ (λv w a hR o=>?_)
 obtain ⟨H18,E2,X1,F2,Y1,G2,rfl,I2,J2,K2,B1,M2,hd17,hk⟩:=hR
 obtain ⟨u,B1⟩:=And.intro (St.mutH u hk B1 M2 hd17) (St.extc0 u B1)
 replace u:=u.unsep
 refine re<|bn<|tn<|?_
 replace u:=u.pk [1,0] rfl
 exact ⟨(u0,I1.L,I1.At,I1.E,I1.Pos,I1.Out),⟨H18,E2,X1,F2,Y1,G2,hm,(Ext.trans P1 B1),o.hs,u,I2,J2,K2⟩,Nat.lt_succ_self _⟩
 refine cfv o rfl J1<|we<|tx<|tx<|bx<|tn<|?_
 exact ⟨O0,U0,V0,W0,D0,n0,P0,I0,E0,C0,J0,hm,P1,o.hs,u,hcB5,hrB6,Q1⟩
 rintro a w ⟨Y0,C1,E1,F1,K0,G1,j0,S0,M0,F0,T0,hm,X0,o,u,hcA5,hrA6,B2⟩
 unfold Z33 at hm
 refine th<|?_
 obtain ⟨B3,C3,hm⟩:=bs hm
 refine rg<|qm o rfl λo=>?_
 replace u:=u.pk [1,0] rfl
 replace u:=St.sep [bk b8 [SL j0 Y0 S0,i6 C1,i6 E1,i6 F1,SL M0 K0 F0] 171,sla 51 9 M0 K0.length F0 T0] u
 refine ls<|c1 o rfl call161 (Hy (St.le u) (p1:=(leadlineref04_P.mk Y0 C1 E1 F1 K0)) (b2:=b8) (oa3:=j0) (cap4:=S0) (oa7:=M0) (cap8:=F0) (vs9:=T0) hcA5 hrA6 B2 (St.sepOk u) (St.sepDis u) C3) ⟨rfl,rfl,trivial⟩ (λv w a hR o=>?_)
 obtain ⟨H33,G3,E3,I3,F3,J3,rfl,K3,L3,O2,Q0,P2,hd32,hk⟩:=hR
 obtain ⟨u,Q0⟩:=And.intro (St.mutH u hk Q0 P2 hd32) (St.extc0 u Q0)
 replace u:=u.unsep
 refine re<|tn<|th<|th<|rg<|qm o rfl λo=>qv o (Aj o rfl) λo=>qv o (Af o Bv rfl) λo=>qv o (Ag o isAgg29 rfl (u.ld.cellB t0 rfl)) λo=>qv o (Bt o rfl rfl) λo=>re<|?_
 rcases bip hm with ⟨M1,hm⟩ | ⟨M1,hm⟩
 refine tn<|ctv o rfl M1<|th<|rxS 12 u wide (by kernel_rfl) λw u=>xm u o rfl λo=>xr u o (Aj o rfl) λo=>xr u o (Af o Bv rfl) λo=>xq u.ld o (λw hl=>Ag o isAgg29 rfl (hl.cellB t0 rfl)) λo=>xm u o rfl λo=>xr u o (Aj o rfl) λo=>xr u o (Af o Gg rfl) λo=>xq u.ld o (λw hl=>Ag o isAgg3 rfl (hl.cellB t0 rfl)) λo=>?_
 iterate 4 refine xq u.ld o (λw hl=>Bo o rfl) λo=>?_
 refine xe<|tn<|wr<|tr<|?_
 obtain rfl:=si hm
 exact Go.LM.r4 o results141 rfl rfl rfl rfl ⟨H33,_,_,rfl,(Nat.le_refl 0),(SR.nil _ _),(Ext.trans X0 Q0),(St.le u),u.keep⟩
 refine tn<|cfv o rfl M1<|wk<|tn<|th<|th<|rg<|qm o rfl λo=>qv o (Aj o rfl) λo=>qv o (Af o Eg rfl) λo=>qv o (Ag o isAgg46 rfl (u.ld.cellB t0 rfl)) λo=>qv o (Ak (α:=api_Stmt) (xs:=B3.Out) o runUnderlying46 rfl) λo=>qv o (Be o rfl rfl) λo=>re<|?_
 rcases bip hm with ⟨O1,hm⟩ | ⟨O1,hm⟩
 refine tn<|ctv o rfl O1<|th<|?_
 obtain ⟨M3,V1,hm⟩:=bs hm
 obtain ⟨O3,D3,Q2⟩:=SR.get R1 V1
 obtain rfl:=Bb D3
 refine rxS 9 u wide (by kernel_rfl) λw u=>?_
 iterate 2 refine xq u.ld o (λw hl=>Ab o rfl) λo=>?_
 refine xr u o (An o runUnderlying120 sizeOf130 rfl rfl V1 (SR.oaI R1 (by decide) V1)) λo=>xr u o (Af o Dh rfl) λo=>xq u.ld o (λw hl=>Ag o isAgg3 rfl (PH.le.cell (λb o hx=>(Lds.le hl) b o ((cp Q0.sub X0.sub) b o hx)) (Q2 3 _ rfl))) λo=>?_
 iterate 4 refine xq u.ld o (λw hl=>Bo o rfl) λo=>?_
 refine xe<|tn<|wr<|tr<|?_
 obtain rfl:=si hm
 exact Go.LM.r4 o results141 rfl rfl rfl rfl ⟨H33,_,_,rfl,(Nat.le_refl 0),(SR.nil _ _),(Ext.trans X0 Q0),(St.le u),u.keep⟩
 refine tn<|cfv o rfl O1<|wk<|tn<|th<|rxS 12 u wide (by kernel_rfl) λw u=>xm u o rfl λo=>xr u o (Aj o rfl) λo=>xr u o (Af o Eg rfl) λo=>xq u.ld o (λw hl=>Ag o isAgg46 rfl (hl.cellB t0 rfl)) λo=>xm u o rfl λo=>xr u o (Aj o rfl) λo=>xr u o (Af o Bg rfl) λo=>xq u.ld o (λw hl=>Ag o isAgg3 rfl (hl.cellB t0 rfl)) λo=>?_
 iterate 4 refine xq u.ld o (λw hl=>Bo o rfl) λo=>?_
 refine xe<|tn<|wr<|?_
 obtain ⟨H53,R2,U2,V2,u⟩:=St.frzS u (.tail .head) O2
 obtain rfl:=si hm
 exact Go.LM.r4 o results141 rfl rfl rfl rfl ⟨H53,_,_,rfl,V2,U2,(Ext.trans X0 (Ext.trans Q0 R2)),(St.le u),u.keep⟩
end Go.LM.LB
