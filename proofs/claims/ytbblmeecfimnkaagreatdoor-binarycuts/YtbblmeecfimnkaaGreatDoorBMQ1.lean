/- Walks, lifted by program. No condition beyond the theorems' own premises. -/
import Derived.Test.YtbblmeecfimnkaaGreatDoorBMB
import Derived.Test.YtbblmeecfimnkaaGreatDoorLZ
namespace Go.LM.BINZ
open Go Go.LL Go.MD Go.LM Go.Proofs Go.MD.BINZ Go.Proofs.Tryz
set_option maxRecDepth 100000
variable {N:Nat} {w0:World} {H:PH}
theorem Jdm (hH:H.le w0) {p1:Int} {r:Bool} (hm:Z91 N p1=some r):Tot Tryz.prog 60 #[i6 p1] w0 (λv w'=>v=.bool r∧Keep Nil w0 w'):=by
 unfold Z91 at hm
 refine fn0 func60 rfl ntmps60 rfl rfl λa o=>?_
 have u:St w0 Nil [H] [] w0:=start1 hH
 refine th<|rg<|qa o rfl λo=>re<|tn<|th<|rg<|qm o rfl λo=>qv o (Ak o rfl rfl) λo=>qm o rfl λo=>gr (Fk:=[(8,.bool ((decide (p1 < 0)) || (decide (4294967296 < p1))))]) 5 3 o u ?_ ?_ ?_
 intro hb o key
 iterate 2 refine qn o λo=>?_
 exact qk o (Ac o rfl rfl) key u hb
 intro hb o key
 exact qg o (Ab o rfl) λo=>qg o (Ba o rfl rfl) λo=>qk o (Ad o rfl rfl) key u hb
 intro a w o u
 refine qa o rfl λo=>re<|tn<|wr<|?_
 obtain rfl:=si hm
 exact r1 o results60 rfl ⟨rfl,u.keep⟩
theorem Jdl (hH:H.le w0) {F0:Option Addr} {C0:Nat} {p1:(List Int)} (P0:p1.length≤C0) (I0:SR H F0 p1) {r:Int} (hm:Z9z N p1=some r):Tot Tryz.prog 109 #[SL F0 p1 C0,.func (.func 60) #[] #[]] w0 (λv w'=>v=i6 r∧Keep Nil w0 w'):=by
 unfold Z9z at hm
 refine fn0 func109 rfl ntmps109 rfl rfl λa o=>?_
 have u:St w0 Nil [H] [] w0:=start1 hH
 refine th<|rg<|qa o rfl λo=>re<|tn<|th<|th<|rg<|qm o rfl λo=>qv o (Aj (α:=Int) (xs:=p1) o runUnderlying22 rfl) λo=>qm o rfl λo=>re<|tn<|Av (λa w=>Za0=some r∧Fr 19 [] a∧St w0 Nil [H] [] w) ?_ ?_
 refine wb<|lp (α:=Nat×Int) (λgh a w=>match gh with | (A0,E0)=>(Za1 N Za0 p1) A0 E0=some r∧Fr 19 [(0,SL F0 p1 C0),(1,.func (.func 60) #[] #[]),(7,i6 (p1.length:Int)),(8,i6 E0)] a∧St w0 Nil [H] [] w) (λgh=>gh.1) (N,0) ⟨hm,o.hs,u⟩ ?_
 rintro ⟨A0,E0⟩ a w ⟨hm,o,u⟩
 obtain _ | A0:=A0
 simp [Za1] at hm
 rw [Za1] at hm
 refine th<|rg<|qv o (Ak o rfl rfl) λo=>re<|?_
 rcases bip hm with ⟨G0,hm⟩ | ⟨G0,hm⟩
 refine tn<|th<|ctv o rfl G0<|wk<|tn<|th<|wb<|th<|rg<|qm o rfl λo=>qa o rfl λo=>re<|tn<|th<|?_
 obtain ⟨J0,h8,hm⟩:=bs hm
 obtain ⟨cz9,M0,K0⟩:=SR.get I0 h8
 obtain rfl:cz9=[i6 J0]:=M0
 obtain ⟨Q0,O0,hm⟩:=bs hm
 refine rg<|qm o rfl λo=>?_
 iterate 2 refine qm o rfl λo=>?_
 refine qv o (Al o runUnderlying22 sizeOf3 rfl rfl h8 (SR.oaI I0 (by decide) h8)) λo=>qv o (Af o isAgg3 rfl (PH.le.cell (Lds.le u.ld) (K0 0 _ rfl))) λo=>ls<|k1 (vs:=[i6 J0]) (caps:=[]) o rfl rfl call60 (Jdm (Ah _) O0) ⟨rfl,trivial⟩ rfl (λv w a hR o=>?_)
 obtain ⟨rfl,hk⟩:=hR
 replace u:=u.pass hk
 refine re<|?_
 rcases bit hm with ⟨D0,hm⟩ | ⟨D0,hm⟩
 refine tn<|ctv o rfl D0<|th<|rg<|qm o rfl λo=>qa o rfl λo=>re<|tn<|wr<|br<|tr<|tr<|br<|tr<|?_
 obtain rfl:=si hm
 exact r1 o results109 rfl ⟨rfl,u.keep⟩
 refine tn<|cfv o rfl D0<|wk<|bn<|tn<|rg<|qv o (An o rfl rfl) λo=>qm o rfl λo=>re<|tn<|?_
 exact ⟨(A0,(IntKind.i64.wrap (E0+1))),⟨hm,o.hs,u⟩,Nat.lt_succ_self _⟩
 refine tn<|th<|cfv o rfl G0<|we<|tx<|tx<|bx<|tn<|?_
 exact ⟨hm,o.has trivial,u⟩
 rintro a w ⟨hm,o,u⟩
 unfold Za0 at hm
 refine th<|rg<|qa o rfl λo=>re<|tn<|wr<|?_
 obtain rfl:=si hm
 exact r1 o results109 rfl ⟨rfl,u.keep⟩
theorem Tu (hH:H.le w0) {C0:Option Addr} {A0:Nat} {p1:(List Int)} (D0:p1.length≤A0) (E0:SR H C0 p1) {r:Bool} (hm:Z9l N p1=some r):Tot Tryz.prog 66 #[SL C0 p1 A0,.func (.func 60) #[] #[]] w0 (λv w'=>v=.bool r∧Keep Nil w0 w'):=by
 unfold Z9l at hm
 refine fn0 func66 rfl ntmps66 rfl rfl λa o=>?_
 have u:St w0 Nil [H] [] w0:=start1 hH
 refine th<|rg<|qa o rfl λo=>re<|tn<|th<|?_
 obtain ⟨F0,h7,hm⟩:=bs hm
 refine rg<|qm o rfl λo=>qm o rfl λo=>ls<|cr o call109 (Jdl (Ah _) D0 (St.srH u E0) h7) u λu o=>qv o (Bo o rfl rfl) λo=>qa o rfl λo=>re<|tn<|wr<|?_
 obtain rfl:=si hm
 exact r1 o results66 rfl ⟨rfl,u.keep⟩
theorem JcH (hH:H.le w0) {cs2:List Value} {p1:api_Unit} (g3:Enc.rep H cs2 p1) {r:Int} (hm:Z8z N p1=some r):Tot Tryz.prog 63 #[.agg cs2.toArray] w0 (λv w'=>v=i6 r∧Keep Nil w0 w'):=by
 unfold Z8z at hm
 refine fn0 func63 rfl ntmps63 rfl rfl λa o=>?_
 have u:St w0 Nil [H] [] w0:=start1 hH
 have g4:Enc.rep (α:=(List Int)×Int×(List Int)×Int×(List api_Code)×api_Code×(List (List api_Op))) H cs2 (p1.Lines,p1.Stays,p1.Firsts,p1.Locks,p1.Threads,p1.Recover,p1.Claims):=g3
 obtain ⟨qz5,qz6,rfl,g7,g8⟩:=g4
 obtain ⟨R0,E0,rfl,F1,C0⟩:=g7
 obtain ⟨q13,q14,rfl,S0,T0⟩:=g8
 obtain rfl:q13=[i6 p1.Stays]:=S0
 obtain ⟨q17,q18,rfl,U0,V0⟩:=T0
 obtain ⟨K0,F0,rfl,I1,J1⟩:=U0
 obtain ⟨q25,q26,rfl,W0,X0⟩:=V0
 obtain rfl:q25=[i6 p1.Locks]:=W0
 obtain ⟨q29,q30,rfl,Y0,j0⟩:=X0
 obtain ⟨M0,G0,rfl,O1,P1⟩:=Y0
 obtain ⟨q37,q38,rfl,n0,u0⟩:=j0
 obtain ⟨O0,I0,rfl,Q1,R1⟩:=Am n0
 obtain ⟨P0,J0,rfl,S1,T1⟩:=u0
 refine th<|rg<|ls<|Br (cs:=[SL R0 p1.Lines E0,i6 p1.Stays,SL K0 p1.Firsts F0,i6 p1.Locks,SL M0 p1.Threads G0,i6 p1.Recover.Regs,i6 p1.Recover.Counts,SL O0 p1.Recover.L I0,SL P0 p1.Claims J0].toArray) o rfl u rfl rfl λB1 w a u o=>qa o rfl λo=>re<|tn<|th<|th<|rg<|qv o (Ae o Cr rfl) λo=>qv o (Af o isAgg3 rfl (u.ld.cellB t0 rfl)) λo=>qv o (Ak o rfl rfl) λo=>qm o rfl λo=>gr (Fk:=[(1,PT B1),(13,.bool ((decide (p1.Stays < 1)) || (decide ((p1.Lines.length:Int) < p1.Stays))))]) 6 7 o u ?_ ?_ ?_
 intro hb o key
 iterate 6 refine qn o λo=>?_
 exact qk o (Ac o rfl rfl) key u hb
 intro hb o key
 exact qg o (Ae o Cr rfl) λo=>qg o (Af o isAgg3 rfl (u.ld.cellB t0 rfl)) λo=>qg o (Ae o Cc rfl) λo=>qg o (Af o isAgg22 rfl (u.ld.cellB t0 rfl)) λo=>qg o (Aj (α:=Int) (xs:=p1.Lines) o runUnderlying22 rfl) λo=>qg o (Ba o rfl rfl) λo=>qk o (Ad o rfl rfl) key u hb
 intro a w o u
 refine re<|?_
 rcases bit hm with ⟨A0,hm⟩ | ⟨A0,hm⟩
 refine tn<|ctv o rfl A0<|th<|rg<|qa o rfl λo=>re<|tn<|wr<|tr<|?_
 obtain rfl:=si hm
 exact r1 o results63 rfl ⟨rfl,u.keep⟩
 refine tn<|cfv o rfl A0<|wk<|tn<|th<|?_
 obtain ⟨C1,D0,hm⟩:=bs hm
 obtain ⟨D1,E1,Q0⟩:=SR.get C0 D0
 obtain rfl:D1=[i6 C1]:=E1
 refine rg<|qv o (Ae o Cc rfl) λo=>qv o (Af o isAgg22 rfl (u.ld.cellB t0 rfl)) λo=>qv o (Ae o Cr rfl) λo=>qv o (Af o isAgg3 rfl (u.ld.cellB t0 rfl)) λo=>qv o (En o rfl rfl) λo=>qv o (Al o runUnderlying22 sizeOf3 rfl rfl D0 (SR.oaI C0 (by decide) D0)) λo=>qv o (Af o isAgg3 rfl (PH.le.cell (Lds.le u.ld) (Q0 0 _ rfl))) λo=>qv o (An o rfl rfl) λo=>qa o rfl λo=>re<|tn<|wr<|?_
 obtain rfl:=si hm
 exact r1 o results63 rfl ⟨rfl,u.keep⟩
theorem Jcr (hH:H.le w0)  {r:(Arr 16 Str)} (hm:Z99 N  = some r):Tot Tryz.prog 102 #[] w0 (λv w'=>∃ (H':PH) (cs0:List Value),v=.agg cs0.toArray∧Enc.rep H' cs0 r∧Ext w0 H H'∧H'.le w'∧Keep Nil w0 w'):=by
 unfold Z99 at hm
 refine fn0 func102 rfl ntmps102 rfl rfl λa o=>?_
 have u:St w0 Nil [H] [] w0:=start1 hH
 refine th<|rg<|ls<|As (cs:=[Ag [],Ag [],Ag [],Ag [],Ag [],Ag [],Ag [],Ag [],Ag [],Ag [],Ag [],Ag [],Ag [],Ag [],Ag [],Ag []].toArray) o rfl u Tryz.zeroValue151 rfl λb1 w a u o=>re<|tn<|th<|rg<|qv o (Bt [Ag [114,101],Ag [114,99],Ag [99,101],Ag [114,99,101,102],Ag [108],Ag [108],Ag [109],Ag [109],Ag [116],Ag [101,116],Ag [107,110],Ag [107,116],Ag [101]] [Ag [],Ag [114,101],Ag [114,99],Ag [99,101],Ag [114,99,101,102],Ag [108],Ag [108],Ag [],Ag [],Ag [109],Ag [109],Ag [116],Ag [101,116],Ag [107,110],Ag [107,116],Ag [101]] o ⟨rfl,rfl,rfl,rfl,rfl,rfl,rfl,rfl,rfl,rfl,rfl,rfl,rfl,trivial⟩ (λw=>by kernel_rfl)) λo=>ls<|Bb o u sizeOf151 rfl rfl rfl rfl (Ao rfl) .head λw u=>re<|tn<|wr<|?_
 obtain rfl:=si hm
 exact r1c (vs:=[Ag [],Ag [114,101],Ag [114,99],Ag [99,101],Ag [114,99,101,102],Ag [108],Ag [108],Ag [],Ag [],Ag [109],Ag [109],Ag [116],Ag [101,116],Ag [107,110],Ag [107,116],Ag [101]]) (.inl rfl) o results102 rfl isAgg151 sizeOf151 rfl (u.ld.cellsB t0) ⟨H,_,rfl,(show Enc.rep (α:=(Arr 16 Str)) H [Ag [],Ag [114,101],Ag [114,99],Ag [99,101],Ag [114,99,101,102],Ag [108],Ag [108],Ag [],Ag [],Ag [109],Ag [109],Ag [116],Ag [101,116],Ag [107,110],Ag [107,116],Ag [101]] (⟨[[],[114,101],[114,99],[99,101],[114,99,101,102],[108],[108],[],[],[109],[109],[116],[101,116],[107,110],[107,116],[101]],rfl⟩:(Arr 16 Str)) from (.cons (c:=[Ag []]) rfl (.cons (c:=[Ag [114,101]]) rfl (.cons (c:=[Ag [114,99]]) rfl (.cons (c:=[Ag [99,101]]) rfl (.cons (c:=[Ag [114,99,101,102]]) rfl (.cons (c:=[Ag [108]]) rfl (.cons (c:=[Ag [108]]) rfl (.cons (c:=[Ag []]) rfl (.cons (c:=[Ag []]) rfl (.cons (c:=[Ag [109]]) rfl (.cons (c:=[Ag [109]]) rfl (.cons (c:=[Ag [116]]) rfl (.cons (c:=[Ag [101,116]]) rfl (.cons (c:=[Ag [107,110]]) rfl (.cons (c:=[Ag [107,116]]) rfl (.cons (c:=[Ag [101]]) rfl .nil))))))))))))))))),(Ext.refl _ _),(St.le u),u.keep⟩
theorem Jcs (hH:H.le w0) {F0:Option Addr} {C0:Nat} {p1:(List (IntK .u8))} (P0:p1.length≤C0) (I0:SR H F0 p1) {p6:Int} {r:Int} (hm:Za2 N p1 p6=some r):Tot Tryz.prog 129 #[SL F0 p1 C0,.int .u8 p6] w0 (λv w'=>v=i6 r∧Keep Nil w0 w'):=by
 unfold Za2 at hm
 refine fn0 func129 rfl ntmps129 rfl rfl λa o=>?_
 have u:St w0 Nil [H] [] w0:=start1 hH
 refine th<|rg<|qa o rfl λo=>re<|tn<|th<|th<|rg<|qm o rfl λo=>qv o (Aj (α:=(IntK .u8)) (xs:=p1) o runUnderlying52 rfl) λo=>qm o rfl λo=>re<|tn<|Av (λa w=>Za3=some r∧Fr 19 [] a∧St w0 Nil [H] [] w) ?_ ?_
 refine wb<|lp (α:=Nat×Int) (λgh a w=>match gh with | (A0,E0)=>(Za4 N Za3 p1 p6) A0 E0=some r∧Fr 19 [(0,SL F0 p1 C0),(1,.int .u8 p6),(7,i6 (p1.length:Int)),(8,i6 E0)] a∧St w0 Nil [H] [] w) (λgh=>gh.1) (N,0) ⟨hm,o.hs,u⟩ ?_
 rintro ⟨A0,E0⟩ a w ⟨hm,o,u⟩
 obtain _ | A0:=A0
 simp [Za4] at hm
 rw [Za4] at hm
 refine th<|rg<|qv o (Ak o rfl rfl) λo=>re<|?_
 rcases bip hm with ⟨G0,hm⟩ | ⟨G0,hm⟩
 refine tn<|th<|ctv o rfl G0<|wk<|tn<|th<|wb<|th<|rg<|qm o rfl λo=>qa o rfl λo=>re<|tn<|th<|?_
 obtain ⟨K0,h9,hm⟩:=bs hm
 obtain ⟨M0,O0,J0⟩:=SR.get I0 h9
 obtain rfl:M0=[.int .u8 K0.v]:=O0
 refine rg<|qm o rfl λo=>?_
 iterate 2 refine qm o rfl λo=>?_
 refine qv o (Al o runUnderlying52 sizeOf5 rfl rfl h9 (SR.oaI I0 (by decide) h9)) λo=>qv o (Af o isAgg5 rfl (PH.le.cell (Lds.le u.ld) (J0 0 _ rfl))) λo=>qv o (Aq o rfl rfl) λo=>re<|?_
 rcases bip hm with ⟨D0,hm⟩ | ⟨D0,hm⟩
 refine tn<|ctv o rfl D0<|th<|rg<|qm o rfl λo=>qa o rfl λo=>re<|tn<|wr<|br<|tr<|tr<|br<|tr<|?_
 obtain rfl:=si hm
 exact r1 o results129 rfl ⟨rfl,u.keep⟩
 refine tn<|cfv o rfl D0<|wk<|bn<|tn<|rg<|qv o (An o rfl rfl) λo=>qm o rfl λo=>re<|tn<|?_
 exact ⟨(A0,(IntKind.i64.wrap (E0+1))),⟨hm,o.hs,u⟩,Nat.lt_succ_self _⟩
 refine tn<|th<|cfv o rfl G0<|we<|tx<|tx<|bx<|tn<|?_
 exact ⟨hm,o.has trivial,u⟩
 rintro a w ⟨hm,o,u⟩
 unfold Za3 at hm
 refine th<|rg<|qa o rfl λo=>re<|tn<|wr<|?_
 obtain rfl:=si hm
 exact r1 o results129 rfl ⟨rfl,u.keep⟩
theorem Jcz (hH:H.le w0) {C0:Option Addr} {A0:Nat} {p1:(List (IntK .u8))} (D0:p1.length≤A0) (E0:SR H C0 p1) {p6:Int} {r:Bool} (hm:Z9m N p1 p6=some r):Tot Tryz.prog 101 #[SL C0 p1 A0,.int .u8 p6] w0 (λv w'=>v=.bool r∧Keep Nil w0 w'):=by
 unfold Z9m at hm
 refine fn0 func101 rfl ntmps101 rfl rfl λa o=>?_
 have u:St w0 Nil [H] [] w0:=start1 hH
 refine th<|rg<|qa o rfl λo=>re<|tn<|th<|?_
 obtain ⟨F0,h8,hm⟩:=bs hm
 refine rg<|qm o rfl λo=>qm o rfl λo=>ls<|cr o call129 (Jcs (Ah _) D0 (St.srH u E0) h8) u λu o=>qv o (Bo o rfl rfl) λo=>qa o rfl λo=>re<|tn<|wr<|?_
 obtain rfl:=si hm
 exact r1 o results101 rfl ⟨rfl,u.keep⟩
theorem El (hH:H.le w0) {p1:Int} {cs4:List Value} {y3:api_Instr} (g5:Enc.rep H cs4 y3) {b2:Nat} (P0:H b2=some (.cells cs4.toArray 85 (0,0))) {r:Bool} (hm:Z8r N p1 y3=some r):Tot Tryz.prog 100 #[.int .u8 p1,PT b2] w0 (λv w'=>v=.bool r∧Keep Nil w0 w'):=by
 unfold Z8r at hm
 refine fn0 func100 rfl ntmps100 rfl rfl λa o=>?_
 have u:St w0 Nil [H] [] w0:=start1 hH
 obtain ⟨C1,X0,Y0,V0,rfl,D1,j0,n0,u0⟩:=Au g5
 refine th<|rg<|qa o rfl λo=>re<|tn<|th<|?_
 obtain ⟨D0,Q0,hm⟩:=bs hm
 obtain ⟨E0,F0,hm⟩:=bs hm
 obtain ⟨E1,R0,hm⟩:=bs hm
 refine rdS 8 u wide λw u=>dr 1 u o rfl (Ae o Ca rfl) λo=>dq 2 u.ld o rfl (λw hl=>Af o isAgg3 rfl (PH.le.cell (Lds.le hl) (Hr P0 rfl))) λo=>dr 5 u o rfl (Ab o rfl) λo=>da1 (i:=0) (by kernel_rfl) ?_
 refine di (i:=0) rfl<|c1 o rfl call102 (Jcr (St.le u) Q0) trivial (λv w a hR o=>?_)
 obtain ⟨H20,cs21,rfl,S0,A0,G0,hk⟩:=hR
 obtain ⟨u,A0⟩:=And.intro (St.passH u hk A0 G0) (St.extc u A0)
 have I0:Rows H20 cs21 D0.l:=S0
 refine ⟨λ_=>(St.ldsX u A0.sub i1),?_⟩
 obtain ⟨T0,U0,J0⟩:=Rows.getI I0 F0
 obtain rfl:T0=[Ag E0]:=U0
 refine ds 3 (St.ldsX u A0.sub i1) o rfl (JcI o runUnderlying151 sizeOf9 isAgg9 rfl rfl D0.h F0 (J0 0 _ rfl)) λo=>da1 (i:=4) (by kernel_rfl) ?_
 refine di (i:=4) rfl<|Jdo (s:=E0) o rfl (St.le u) underlying9 underlying52 underlying5 rfl λH35 B1 W0 w a C0 K0 M0 O0 hk o=>?_
 obtain ⟨u,C0⟩:=And.intro (St.passH u hk C0 K0) (St.extc u C0)
 refine ⟨λ_=>(St.ldsX u (cp C0.sub A0.sub) i1),?_⟩
 refine da1 (i:=6) (by kernel_rfl) ?_
 refine di (i:=6) rfl<|cr o call101 (Jcz (Ah _) M0 (St.srH u O0) R0) u λu o=>⟨λ_=>(St.ldsX u (cp C0.sub A0.sub) i1),?_⟩
 refine ds 7 (St.ldsX u (cp C0.sub A0.sub) i1) o rfl (Bp o rfl) λo=>de (by kernel_rfl)<|tn<|wr<|?_
 obtain rfl:=si hm
 exact r1 o results100 rfl ⟨rfl,u.keep⟩
theorem Pg (hH:H.le w0) {p1:Bool} {p2:Int} {p3:Int} {r:Bool} (hm:Z9g N p1 p2 p3=some r):Tot Tryz.prog 103 #[.bool p1,i6 p2,i6 p3] w0 (λv w'=>v=.bool r∧Keep Nil w0 w'):=by
 unfold Z9g at hm
 refine fn0 func103 rfl ntmps103 rfl rfl λa o=>?_
 have u:St w0 Nil [H] [] w0:=start1 hH
 refine th<|rg<|qa o rfl λo=>re<|tn<|th<|th<|rg<|qm o rfl λo=>qv o (A9 o rfl) λo=>re<|?_
 rcases bit hm with ⟨A0,hm⟩ | ⟨A0,hm⟩
 refine tn<|cfv o rfl (by rw [A0];rfl)<|wk<|tn<|th<|rg<|qm o rfl λo=>qv o (Bo o rfl rfl) λo=>qm o rfl λo=>gr (Fk:=[(17,.bool ((decide (0≤p2)) && (decide (p2 < p3))))]) 13 4 o u ?_ ?_ ?_
 intro hb o key
 iterate 2 refine qg o (Ab o rfl) λo=>?_
 exact qg o (Ak o rfl rfl) λo=>qk o (Ac o rfl rfl) key u hb
 intro hb o key
 iterate 3 refine qn o λo=>?_
 exact qk o (Ad o rfl rfl) key u hb
 intro a w o u
 refine qa o rfl λo=>re<|tn<|wr<|?_
 obtain rfl:=si hm
 exact r1 o results103 rfl ⟨rfl,u.keep⟩
 refine tn<|ctv o rfl (by rw [A0];rfl)<|th<|rg<|qm o rfl λo=>qv o (Aq o rfl rfl) λo=>qa o rfl λo=>re<|tn<|wr<|tr<|?_
 obtain rfl:=si hm
 exact r1 o results103 rfl ⟨rfl,u.keep⟩
theorem JcG (hH:H.le w0) {p1:Int} {r:Int} (hm:Z1f N p1=some r):Tot Tryz.prog 132 #[i6 p1] w0 (λv w'=>v=i6 r∧Keep Nil w0 w'):=by
 unfold Z1f at hm
 refine fn0 func132 rfl ntmps132 rfl rfl λa o=>?_
 have u:St w0 Nil [H] [] w0:=start1 hH
 refine th<|rg<|qa o rfl λo=>re<|tn<|th<|wb<|th<|rg<|qm o rfl λo=>qv o (Aq o rfl rfl) λo=>qm o rfl λo=>gr (Fk:=[(0,i6 p1),(9,.bool ((decide (p1=3)) || (decide (p1=4))))]) 6 3 o u ?_ ?_ ?_
 intro hb o key
 iterate 2 refine qn o λo=>?_
 exact qk o (Ac o rfl rfl) key u hb
 intro hb o key
 exact qg o (Ab o rfl) λo=>qg o (Aq o rfl rfl) λo=>qk o (Ad o rfl rfl) key u hb
 intro a w o u
 refine qa o rfl λo=>re<|?_
 rcases bit hm with ⟨A0,hm⟩ | ⟨A0,hm⟩
 refine tn<|ctv o rfl A0<|th<|rg<|qa o rfl λo=>re<|tn<|wr<|br<|tr<|?_
 obtain rfl:=si hm
 exact r1 o results132 rfl ⟨rfl,u.keep⟩
 refine tn<|cfv o rfl A0<|th<|rg<|qm o rfl λo=>qv o (Bo o rfl rfl) λo=>qm o rfl λo=>gr (Fk:=[(16,.bool ((decide (5≤p1)) && (decide (p1≤15))))]) 13 3 o u ?_ ?_ ?_
 intro hb o key
 exact qg o (Ab o rfl) λo=>qg o (Dt o rfl rfl) λo=>qk o (Ac o rfl rfl) key u hb
 intro hb o key
 iterate 2 refine qn o λo=>?_
 exact qk o (Ad o rfl rfl) key u hb
 intro a w o u
 refine qa o rfl λo=>re<|?_
 rcases bit hm with ⟨C0,hm⟩ | ⟨C0,hm⟩
 refine tn<|ctv o rfl C0<|th<|rg<|qa o rfl λo=>re<|tn<|wr<|br<|tr<|?_
 obtain rfl:=si hm
 exact r1 o results132 rfl ⟨rfl,u.keep⟩
 refine tn<|cfv o rfl C0<|wk<|bn<|tn<|th<|rg<|qa o rfl λo=>re<|tn<|wr<|?_
 obtain rfl:=si hm
 exact r1 o results132 rfl ⟨rfl,u.keep⟩
theorem Jc2 (hH:H.le w0) {I0:Option Addr} {E0:Nat} {p1:(List api_Op)} (T0:p1.length≤E0) (O0:SR H I0 p1) {r:(Int×Int×Bool)} (hm:Z1c N p1=some r):Tot Tryz.prog 107 #[SL I0 p1 E0] w0 (λv w'=>v=.tuple #[i6 r.1,i6 r.2.1,.bool r.2.2]∧Keep Nil w0 w'):=by
 unfold Z1c at hm
 refine fn0 func107 rfl ntmps107 rfl rfl λa o=>?_
 have u:St w0 Nil [H] [] w0:=start1 hH
 refine th<|rg<|qa o rfl λo=>?_
 iterate 2 refine qa o rfl λo=>?_
 refine re<|tn<|th<|rg<|qa o rfl λo=>qa o rfl λo=>re<|tn<|th<|th<|rg<|qm o rfl λo=>qv o (Aj (α:=api_Op) (xs:=p1) o runUnderlying54 rfl) λo=>qm o rfl λo=>re<|tn<|Av (λa w=>∃ (J0:Int) (K0:Int),Z1d J0 K0=some r∧Fr 30 [(5,i6 J0),(6,i6 K0)] a∧St w0 Nil [H] [] w) ?_ ?_
 refine wb<|lp (α:=Nat×Int×Int×Int) (λgh a w=>match gh with | (C0,A0,D0,G0)=>(Z1e N Z1d p1) C0 A0 D0 G0=some r∧Fr 30 [(5,i6 A0),(6,i6 D0),(9,SL I0 p1 E0),(10,i6 (p1.length:Int)),(11,i6 G0)] a∧St w0 Nil [H] [] w) (λgh=>gh.1) (N,0,0,0) ⟨hm,o.hs,u⟩ ?_
 rintro ⟨C0,A0,D0,G0⟩ a w ⟨hm,o,u⟩
 obtain _ | C0:=C0
 simp [Z1e] at hm
 rw [Z1e] at hm
 refine th<|rg<|qv o (Ak o rfl rfl) λo=>re<|?_
 rcases bip hm with ⟨M0,hm⟩ | ⟨M0,hm⟩
 refine tn<|th<|ctv o rfl M0<|wk<|tn<|th<|wb<|th<|?_
 obtain ⟨U0,h8,hm⟩:=bs hm
 obtain ⟨cz9,R0,Q0⟩:=SR.get O0 h8
 obtain rfl:=Cs R0
 refine rg<|qv o (Al o Tryz.runUnderlying54 Tryz.sizeOf83 rfl rfl h8 (SR.oaI O0 (by decide) h8)) λo=>qv o (Ar o isAgg83 sizeOf83 rfl rfl (λj v hj=>PH.le.cell (Lds.le u.ld) (Q0 j v hj))) λo=>ls<|As (cs:=[i6 0,i6 0].toArray) o rfl u zeroValue83 rfl λV0 w a u o=>ls<|Bb o u sizeOf83 rfl rfl rfl rfl (Ao rfl) .head λw u=>re<|tn<|th<|?_
 obtain ⟨P0,S0,hm⟩:=bs hm
 refine rg<|qm o rfl λo=>qv o (Ae o Eb rfl) λo=>qv o (Af o isAgg3 rfl (u.ld.cellB t0 rfl)) λo=>ls<|cr o call132 (JcG (Ah _) S0) u λu o=>qv o (En o rfl rfl) λo=>qa o rfl λo=>re<|tn<|th<|th<|rg<|qm o rfl λo=>qv o (Ak o rfl rfl) λo=>re<|?_
 rcases bip hm with ⟨F0,hm⟩ | ⟨F0,hm⟩
 refine tn<|ctv o rfl F0<|th<|rg<|qa o rfl λo=>?_
 iterate 2 refine qa o rfl λo=>?_
 refine re<|tn<|wr<|tr<|br<|tr<|tr<|br<|tr<|?_
 obtain rfl:=si hm
 exact Go.LM.r3 o results107 rfl rfl rfl ⟨rfl,u.keep⟩
 refine tn<|cfv o rfl F0<|wk<|tn<|th<|rg<|qm o rfl λo=>qv o (An o rfl rfl) λo=>qa o rfl λo=>re<|tn<|rg<|qm o rfl λo=>qm o rfl λo=>qv o (Pu o rfl rfl) λo=>qa o rfl λo=>re<|bn<|tn<|rg<|qv o (An o rfl rfl) λo=>qm o rfl λo=>re<|tn<|?_
 replace u:=u.pickL .nil
 exact ⟨(C0,(IntKind.i64.wrap ((IntKind.i64.wrap (A0 - P0))+1)),(max D0 (IntKind.i64.wrap ((IntKind.i64.wrap (A0 - P0))+1))),(IntKind.i64.wrap (G0+1))),⟨hm,o.hs,u⟩,Nat.lt_succ_self _⟩
 refine tn<|th<|cfv o rfl M0<|we<|tx<|tx<|bx<|tn<|?_
 exact ⟨A0,D0,hm,o.has ⟨rfl,rfl,trivial⟩,u⟩
 rintro a w ⟨J0,K0,hm,o,u⟩
 unfold Z1d at hm
 refine th<|rg<|qm o rfl λo=>qm o rfl λo=>?_
 iterate 3 refine qa o rfl λo=>?_
 refine re<|tn<|wr<|?_
 obtain rfl:=si hm
 exact Go.LM.r3 o results107 rfl rfl rfl ⟨rfl,u.keep⟩
theorem Jdp (hH:H.le w0) {p1:api_Op} {y3:Int} {b2:Nat} (D0:H b2=some (.cells [i6 y3].toArray 3 (0,0))) {r:Bool} (hm:Z1b N p1 y3=some r):Tot Tryz.prog 106 #[.agg #[i6 p1.Kind,i6 p1.N],PT b2] w0 (λv w'=>v=.bool r∧Keep Nil w0 w'):=by
 unfold Z1b at hm
 refine fn0 func106 rfl ntmps106 rfl rfl λa o=>?_
 have u:St w0 Nil [H] [] w0:=start1 hH
 refine th<|rg<|ls<|Br (cs:=[i6 p1.Kind,i6 p1.N].toArray) o rfl u rfl rfl λb5 w a u o=>qa o rfl λo=>re<|tn<|th<|wb<|th<|rg<|qv o (Ae o Eb rfl) λo=>qv o (Af o isAgg3 rfl (u.ld.cellB t0 rfl)) λo=>qv o (Aq o rfl rfl) λo=>qa o rfl λo=>re<|?_
 rcases bip hm with ⟨A0,hm⟩ | ⟨A0,hm⟩
 refine tn<|ctv o rfl A0<|th<|rg<|qv o (Ae o F8 rfl) λo=>qv o (Af o isAgg3 rfl (u.ld.cellB t0 rfl)) λo=>qv o (Ak o rfl rfl) λo=>qm o rfl λo=>gr (Fk:=[(15,.bool ((decide (p1.N < 0)) || (decide (4294967296 < p1.N))))]) 11 4 o u ?_ ?_ ?_
 intro hb o key
 iterate 3 refine qn o λo=>?_
 exact qk o (Ac o rfl rfl) key u hb
 intro hb o key
 exact qg o (Ae o F8 rfl) λo=>qg o (Af o isAgg3 rfl (u.ld.cellB t0 rfl)) λo=>qg o (Ba o rfl rfl) λo=>qk o (Ad o rfl rfl) key u hb
 intro a w o u
 refine qa o rfl λo=>re<|tn<|wr<|br<|tr<|?_
 obtain rfl:=si hm
 exact r1 o results106 rfl ⟨rfl,u.keep⟩
 refine tn<|cfv o rfl A0<|th<|rg<|qv o (Ae o Eb rfl) λo=>qv o (Af o isAgg3 rfl (u.ld.cellB t0 rfl)) λo=>qv o (Aq o rfl rfl) λo=>qa o rfl λo=>re<|?_
 rcases bip hm with ⟨C0,hm⟩ | ⟨C0,hm⟩
 refine tn<|ctv o rfl C0<|th<|rg<|qv o (Ae o F8 rfl) λo=>qv o (Af o isAgg3 rfl (u.ld.cellB t0 rfl)) λo=>qv o (Ak o rfl rfl) λo=>qm o rfl λo=>gr (Fk:=[(28,.bool ((decide (p1.N < 0)) || (decide (y3≤p1.N))))]) 23 5 o u ?_ ?_ ?_
 intro hb o key
 iterate 4 refine qn o λo=>?_
 exact qk o (Ac o rfl rfl) key u hb
 intro hb o key
 exact qg o (Ae o F8 rfl) λo=>qg o (Af o isAgg3 rfl (u.ld.cellB t0 rfl)) λo=>qg o (Af o isAgg3 rfl (PH.le.cell (Lds.le u.ld) (Hr D0 rfl))) λo=>qg o (Bo o rfl rfl) λo=>qk o (Ad o rfl rfl) key u hb
 intro a w o u
 refine qa o rfl λo=>re<|tn<|wr<|br<|tr<|?_
 obtain rfl:=si hm
 exact r1 o results106 rfl ⟨rfl,u.keep⟩
 refine tn<|cfv o rfl C0<|wk<|bn<|tn<|th<|rg<|qv o (Ae o F8 rfl) λo=>qv o (Af o isAgg3 rfl (u.ld.cellB t0 rfl)) λo=>qv o (Bh o rfl rfl) λo=>qm o rfl λo=>gr (Fk:=[(2,PT b5),(36,.bool ((decide (p1.N≠0)) || (decide (p1.Kind < 1))))]) 32 4 o u ?_ ?_ ?_
 intro hb o key
 iterate 3 refine qn o λo=>?_
 exact qk o (Ac o rfl rfl) key u hb
 intro hb o key
 exact qg o (Ae o Eb rfl) λo=>qg o (Af o isAgg3 rfl (u.ld.cellB t0 rfl)) λo=>qg o (Ak o rfl rfl) λo=>qk o (Ad o rfl rfl) key u hb
 intro a w o u
 refine qm o rfl λo=>gr (Fk:=[(41,.bool (((decide (p1.N≠0)) || (decide (p1.Kind < 1))) || (decide (16≤p1.Kind))))]) 37 4 o u ?_ ?_ ?_
 intro hb o key
 iterate 3 refine qn o λo=>?_
 exact qk o (Ac o rfl rfl) key u hb
 intro hb o key
 exact qg o (Ae o Eb rfl) λo=>qg o (Af o isAgg3 rfl (u.ld.cellB t0 rfl)) λo=>qg o (Bo o rfl rfl) λo=>qk o (Ad o rfl rfl) key u hb
 intro a w o u
 refine qa o rfl λo=>re<|tn<|wr<|?_
 obtain rfl:=si hm
 exact r1 o results106 rfl ⟨rfl,u.keep⟩
theorem Jdt (hH:H.le w0) {F0:Option Addr} {C0:Nat} {p1:(List api_Op)} (R0:p1.length≤C0) (J0:SR H F0 p1) {y7:Int} {b6:Nat} (O0:H b6=some (.cells [i6 y7].toArray 3 (0,0))) {r:Int} (hm:Z9w N p1 y7=some r):Tot Tryz.prog 133 #[SL F0 p1 C0,.func (.func 106) #[] #[PT b6]] w0 (λv w'=>v=i6 r∧Keep Nil w0 w'):=by
 unfold Z9w at hm
 refine fn0 func133 rfl ntmps133 rfl rfl λa o=>?_
 have u:St w0 Nil [H] [] w0:=start1 hH
 refine th<|rg<|qa o rfl λo=>re<|tn<|th<|th<|rg<|qm o rfl λo=>qv o (Aj (α:=api_Op) (xs:=p1) o runUnderlying54 rfl) λo=>qm o rfl λo=>re<|tn<|Av (λa w=>Z9x=some r∧Fr 19 [] a∧St w0 Nil [H] [] w) ?_ ?_
 refine wb<|lp (α:=Nat×Int) (λgh a w=>match gh with | (A0,E0)=>(Z9y N Z9x p1 y7) A0 E0=some r∧Fr 19 [(0,SL F0 p1 C0),(1,.func (.func 106) #[] #[PT b6]),(7,i6 (p1.length:Int)),(8,i6 E0)] a∧St w0 Nil [H] [] w) (λgh=>gh.1) (N,0) ⟨hm,o.hs,u⟩ ?_
 rintro ⟨A0,E0⟩ a w ⟨hm,o,u⟩
 obtain _ | A0:=A0
 simp [Z9y] at hm
 rw [Z9y] at hm
 refine th<|rg<|qv o (Ak o rfl rfl) λo=>re<|?_
 rcases bip hm with ⟨G0,hm⟩ | ⟨G0,hm⟩
 refine tn<|th<|ctv o rfl G0<|wk<|tn<|th<|wb<|th<|rg<|qm o rfl λo=>qa o rfl λo=>re<|tn<|th<|?_
 obtain ⟨K0,I0,hm⟩:=bs hm
 obtain ⟨S0,P0,M0⟩:=SR.get J0 I0
 obtain rfl:=Cs P0
 obtain ⟨T0,Q0,hm⟩:=bs hm
 refine rg<|qm o rfl λo=>?_
 iterate 2 refine qm o rfl λo=>?_
 refine qv o (Al o runUnderlying54 sizeOf83 rfl rfl I0 (SR.oaI J0 (by decide) I0)) λo=>qv o (Ar o isAgg83 sizeOf83 rfl rfl (λj v hj=>PH.le.cell (Lds.le u.ld) (M0 j v hj))) λo=>ls<|k1 (vs:=[.agg #[i6 K0.Kind,i6 K0.N]]) (caps:=[PT b6]) o rfl rfl call106 (Jdp (Ah _) (St.up u _ _ O0) Q0) ⟨rfl,trivial⟩ rfl (λv w a hR o=>?_)
 obtain ⟨rfl,hk⟩:=hR
 replace u:=u.pass hk
 refine re<|?_
 rcases bit hm with ⟨D0,hm⟩ | ⟨D0,hm⟩
 refine tn<|ctv o rfl D0<|th<|rg<|qm o rfl λo=>qa o rfl λo=>re<|tn<|wr<|br<|tr<|tr<|br<|tr<|?_
 obtain rfl:=si hm
 exact r1 o results133 rfl ⟨rfl,u.keep⟩
 refine tn<|cfv o rfl D0<|wk<|bn<|tn<|rg<|qv o (An o rfl rfl) λo=>qm o rfl λo=>re<|tn<|?_
 exact ⟨(A0,(IntKind.i64.wrap (E0+1))),⟨hm,o.hs,u⟩,Nat.lt_succ_self _⟩
 refine tn<|th<|cfv o rfl G0<|we<|tx<|tx<|bx<|tn<|?_
 exact ⟨hm,o.has trivial,u⟩
 rintro a w ⟨hm,o,u⟩
 unfold Z9x at hm
 refine th<|rg<|qa o rfl λo=>re<|tn<|wr<|?_
 obtain rfl:=si hm
 exact r1 o results133 rfl ⟨rfl,u.keep⟩
theorem Jcg (hH:H.le w0) {C0:Option Addr} {A0:Nat} {p1:(List api_Op)} (D0:p1.length≤A0) (E0:SR H C0 p1) {y7:Int} {b6:Nat} (F0:H b6=some (.cells [i6 y7].toArray 3 (0,0))) {r:Bool} (hm:Z9k N p1 y7=some r):Tot Tryz.prog 108 #[SL C0 p1 A0,.func (.func 106) #[] #[PT b6]] w0 (λv w'=>v=.bool r∧Keep Nil w0 w'):=by
 unfold Z9k at hm
 refine fn0 func108 rfl ntmps108 rfl rfl λa o=>?_
 have u:St w0 Nil [H] [] w0:=start1 hH
 refine th<|rg<|qa o rfl λo=>re<|tn<|th<|?_
 obtain ⟨I0,G0,hm⟩:=bs hm
 refine rg<|qm o rfl λo=>qm o rfl λo=>ls<|cr o call133 (Jdt (Ah _) D0 (St.srH u E0) (St.up u _ _ F0) G0) u λu o=>qv o (Bo o rfl rfl) λo=>qa o rfl λo=>re<|tn<|wr<|?_
 obtain rfl:=si hm
 exact r1 o results108 rfl ⟨rfl,u.keep⟩
theorem Pt (hH:H.le w0) {D0:Option Addr} {A0:Nat} {p1:(List api_Op)} (F0:p1.length≤A0) (G0:SR H D0 p1) {p6:Int} {r:Bool} (hm:Z1a N p1 p6=some r):Tot Tryz.prog 65 #[SL D0 p1 A0,i6 p6] w0 (λv w'=>v=.bool r∧Keep Nil w0 w'):=by
 unfold Z1a at hm
 refine fn0 func65 rfl ntmps65 rfl rfl λa o=>?_
 have u:St w0 Nil [H] [] w0:=start1 hH
 refine th<|rg<|ls<|Br (cs:=[i6 p6].toArray) o rfl u rfl rfl λb7 w a u o=>qa o rfl λo=>re<|tn<|th<|rg<|qv o (Pv (vs:=[PT b7]) o ⟨rfl,trivial⟩) λo=>qa o rfl λo=>re<|tn<|th<|?_
 obtain ⟨C0,h9,hm⟩:=bs hm
 refine rg<|qm o rfl λo=>ls<|cr o call107 (Jc2 (Ah _) F0 (St.srH u G0) h9) u λu o=>qm o rfl λo=>?_
 iterate 3 refine qv o (Dd o rfl rfl) λo=>?_
 iterate 3 refine qa o rfl λo=>?_
 refine re<|tn<|th<|?_
 rcases bit hm with ⟨E0,hm⟩ | ⟨E0,hm⟩
 obtain ⟨J0,I0,hm⟩:=bs hm
 refine rg<|qm o rfl λo=>qv o (Aj (α:=api_Op) (xs:=p1) o runUnderlying54 rfl) λo=>qv o (Dt o rfl rfl) λo=>qm o rfl λo=>gr (Fk:=[(0,SL D0 p1 A0),(5,.func (.func 106) #[] #[PT b7]),(6,i6 C0.1),(21,.bool ((decide ((p1.length:Int)≤40)) && C0.2.2))]) 19 2 o u ?_ ?_ ?_
 intro hb o key
 exact qg o (Ab o rfl) λo=>qk o (Ac o rfl rfl) key u hb
 intro hb o key
 exact qn o λo=>qk o (Ad o rfl rfl) key u hb
 intro a w o u
 refine qm o rfl λo=>gr (Fk:=[(0,SL D0 p1 A0),(5,.func (.func 106) #[] #[PT b7]),(25,.bool (((decide ((p1.length:Int)≤40)) && C0.2.2) && (decide (C0.1=1))))]) 22 3 o u ?_ ?_ ?_
 intro hb o key
 exact qg o (Ab o rfl) λo=>qg o (Aq o rfl rfl) λo=>qk o (Ac o rfl rfl) key u hb
 intro hb o key
 iterate 2 refine qn o λo=>?_
 exact qk o (Ad o rfl rfl) key u hb
 intro a w o u
 refine qv o (Ax (Ab o rfl) (congrArg Value.bool E0)) λo=>?_
 iterate 2 refine qg o (Ab o rfl) λo=>?_
 refine ls<|gy o rfl rfl<|cr o call108 (Jcg (Ah _) F0 (St.srH u G0) (St.blkO u t0) I0) u λu o=>qg o (A9 o rfl) λo=>qv o (Ac o rfl rfl) λo=>qa o rfl λo=>re<|tn<|wr<|?_
 obtain rfl:=si hm
 exact r1 o results65 rfl ⟨rfl,u.keep⟩
 refine rg<|qm o rfl λo=>qv o (Aj (α:=api_Op) (xs:=p1) o runUnderlying54 rfl) λo=>qv o (Dt o rfl rfl) λo=>qm o rfl λo=>gr (Fk:=[(0,SL D0 p1 A0),(5,.func (.func 106) #[] #[PT b7]),(6,i6 C0.1),(21,.bool ((decide ((p1.length:Int)≤40)) && C0.2.2))]) 19 2 o u ?_ ?_ ?_
 intro hb o key
 exact qg o (Ab o rfl) λo=>qk o (Ac o rfl rfl) key u hb
 intro hb o key
 exact qn o λo=>qk o (Ad o rfl rfl) key u hb
 intro a w o u
 refine qm o rfl λo=>gr (Fk:=[(0,SL D0 p1 A0),(5,.func (.func 106) #[] #[PT b7]),(25,.bool (((decide ((p1.length:Int)≤40)) && C0.2.2) && (decide (C0.1=1))))]) 22 3 o u ?_ ?_ ?_
 intro hb o key
 exact qg o (Ab o rfl) λo=>qg o (Aq o rfl rfl) λo=>qk o (Ac o rfl rfl) key u hb
 intro hb o key
 iterate 2 refine qn o λo=>?_
 exact qk o (Ad o rfl rfl) key u hb
 intro a w o u
 refine qv o (Ax (Ab o rfl) (congrArg Value.bool E0)) λo=>?_
 iterate 4 refine qn o λo=>?_
 refine qv o (Ad o rfl rfl) λo=>qa o rfl λo=>re<|tn<|wr<|?_
 obtain rfl:=si hm
 exact r1 o results65 rfl ⟨rfl,u.keep⟩
theorem JcC (hH:H.le w0) {cs2:List Value} {p1:api_Instr} (g3:Enc.rep H cs2 p1) {cs6:List Value} {y5:api_Instr} (g7:Enc.rep H cs6 y5) {b4:Nat} (F0:H b4=some (.cells cs6.toArray 85 (0,0))) {r:Bool} (hm:Z97 N p1 y5=some r):Tot Tryz.prog 131 #[.agg cs2.toArray,PT b4] w0 (λv w'=>v=.bool r∧Keep Nil w0 w'):=by
 unfold Z97 at hm
 refine fn0 func131 rfl ntmps131 rfl rfl λa o=>?_
 have u:St w0 Nil [H] [] w0:=start1 hH
 obtain ⟨U0,G0,J0,I0,rfl,K0,M0,O0,P0⟩:=Au g7
 obtain ⟨D0,A0,E0,C0,rfl,Q0,R0,S0,T0⟩:=Au g3
 refine th<|rg<|ls<|Br (cs:=[i6 p1.Kind,i6 p1.A,i6 p1.B,SL D0 p1.E A0,SL E0 p1.F C0,i6 p1.To].toArray) o rfl u rfl rfl λV0 w a u o=>qa o rfl λo=>re<|tn<|th<|rg<|qv o (Ae o Ca rfl) λo=>qv o (Af o isAgg3 rfl (u.ld.cellB t0 rfl)) λo=>qv o (Aq o rfl rfl) λo=>qm o rfl λo=>gr (Fk:=[(13,.bool ((decide (p1.Kind=13)) && (decide (p1.A=y5.A))))]) 7 6 o u ?_ ?_ ?_
 intro hb o key
 exact qg o (Ae o Ck rfl) λo=>qg o (Af o isAgg3 rfl (u.ld.cellB t0 rfl)) λo=>qg o (Ae o Ck rfl) λo=>qg o (Af o isAgg3 rfl (PH.le.cell (Lds.le u.ld) (Hr F0 rfl))) λo=>qg o (Aq o rfl rfl) λo=>qk o (Ac o rfl rfl) key u hb
 intro hb o key
 iterate 5 refine qn o λo=>?_
 exact qk o (Ad o rfl rfl) key u hb
 intro a w o u
 refine qa o rfl λo=>re<|tn<|wr<|?_
 obtain rfl:=si hm
 exact r1 o results131 rfl ⟨rfl,u.keep⟩
theorem Jdi (hH:H.le w0) {K0:Option Addr} {D0:Nat} {p1:(List api_Instr)} (I1:p1.length≤D0) (S0:SR H K0 p1) {cs8:List Value} {y7:api_Instr} (g9:Enc.rep H cs8 y7) {b6:Nat} (T0:H b6=some (.cells cs8.toArray 85 (0,0))) {r:Int} (hm:Z9t N p1 y7=some r):Tot Tryz.prog 143 #[SL K0 p1 D0,.func (.func 131) #[] #[PT b6]] w0 (λv w'=>v=i6 r∧Keep Nil w0 w'):=by
 unfold Z9t at hm
 refine fn0 func143 rfl ntmps143 rfl rfl λa o=>?_
 have u:St w0 Nil [H] [] w0:=start1 hH
 obtain ⟨U0,Q0,V0,R0,rfl,W0,X0,Y0,j0⟩:=Au g9
 refine th<|rg<|qa o rfl λo=>re<|tn<|th<|th<|rg<|qm o rfl λo=>qv o (Aj (α:=api_Instr) (xs:=p1) o runUnderlying24 rfl) λo=>qm o rfl λo=>re<|tn<|Av (λa w=>Z9u=some r∧Fr 19 [] a∧St w0 Nil [H] [] w) ?_ ?_
 refine wb<|lp (α:=Nat×Int) (λgh a w=>match gh with | (C0,G0)=>(Z9v N Z9u p1 y7) C0 G0=some r∧Fr 19 [(0,SL K0 p1 D0),(1,.func (.func 131) #[] #[PT b6]),(7,i6 (p1.length:Int)),(8,i6 G0)] a∧St w0 Nil [H] [] w) (λgh=>gh.1) (N,0) ⟨hm,o.hs,u⟩ ?_
 rintro ⟨C0,G0⟩ a w ⟨hm,o,u⟩
 obtain _ | C0:=C0
 simp [Z9v] at hm
 rw [Z9v] at hm
 refine th<|rg<|qv o (Ak o rfl rfl) λo=>re<|?_
 rcases bip hm with ⟨E0,hm⟩ | ⟨E0,hm⟩
 refine tn<|th<|ctv o rfl E0<|wk<|tn<|th<|wb<|th<|rg<|qm o rfl λo=>qa o rfl λo=>re<|tn<|th<|?_
 obtain ⟨A0,M0,hm⟩:=bs hm
 obtain ⟨J1,E1,n0⟩:=SR.get S0 M0
 obtain ⟨O0,I0,P0,J0,rfl,u0,B1,C1,D1⟩:=Au E1
 obtain ⟨O1,F1,hm⟩:=bs hm
 refine rg<|qm o rfl λo=>?_
 iterate 2 refine qm o rfl λo=>?_
 refine qv o (Al o runUnderlying24 sizeOf85 rfl rfl M0 (SR.oaI S0 (by decide) M0)) λo=>qv o (Ar o isAgg85 sizeOf85 rfl rfl (λj v hj=>PH.le.cell (Lds.le u.ld) (n0 j v hj))) λo=>ls<|k1 (vs:=[.agg #[i6 A0.Kind,i6 A0.A,i6 A0.B,SL O0 A0.E I0,SL P0 A0.F J0,i6 A0.To]]) (caps:=[PT b6]) o rfl rfl call131 (JcC (Ah _) (Enc.mono (St.up u) (show Enc.rep (α:=api_Instr) H [i6 A0.Kind,i6 A0.A,i6 A0.B,SL O0 A0.E I0,SL P0 A0.F J0,i6 A0.To] A0 from ⟨_,_,rfl,rfl,⟨_,_,rfl,rfl,⟨_,_,rfl,rfl,⟨_,_,rfl,⟨_,_,rfl,u0,B1⟩,⟨_,_,rfl,⟨_,_,rfl,C1,D1⟩,rfl⟩⟩⟩⟩⟩)) (Enc.mono (St.up u) (show Enc.rep (α:=api_Instr) H [i6 y7.Kind,i6 y7.A,i6 y7.B,SL U0 y7.E Q0,SL V0 y7.F R0,i6 y7.To] y7 from ⟨_,_,rfl,rfl,⟨_,_,rfl,rfl,⟨_,_,rfl,rfl,⟨_,_,rfl,⟨_,_,rfl,W0,X0⟩,⟨_,_,rfl,⟨_,_,rfl,Y0,j0⟩,rfl⟩⟩⟩⟩⟩)) (St.up u _ _ T0) F1) ⟨rfl,trivial⟩ rfl (λv w a hR o=>?_)
 obtain ⟨rfl,hk⟩:=hR
 replace u:=u.pass hk
 refine re<|?_
 rcases bit hm with ⟨F0,hm⟩ | ⟨F0,hm⟩
 refine tn<|ctv o rfl F0<|th<|rg<|qm o rfl λo=>qa o rfl λo=>re<|tn<|wr<|br<|tr<|tr<|br<|tr<|?_
 obtain rfl:=si hm
 exact r1 o results143 rfl ⟨rfl,u.keep⟩
 refine tn<|cfv o rfl F0<|wk<|bn<|tn<|rg<|qv o (An o rfl rfl) λo=>qm o rfl λo=>re<|tn<|?_
 exact ⟨(C0,(IntKind.i64.wrap (G0+1))),⟨hm,o.hs,u⟩,Nat.lt_succ_self _⟩
 refine tn<|th<|cfv o rfl E0<|we<|tx<|tx<|bx<|tn<|?_
 exact ⟨hm,o.has trivial,u⟩
 rintro a w ⟨hm,o,u⟩
 unfold Z9u at hm
 refine th<|rg<|qa o rfl λo=>re<|tn<|wr<|?_
 obtain rfl:=si hm
 exact r1 o results143 rfl ⟨rfl,u.keep⟩
theorem Jct (hH:H.le w0) {E0:Option Addr} {A0:Nat} {p1:(List api_Instr)} (P0:p1.length≤A0) (Q0:SR H E0 p1) {cs8:List Value} {y7:api_Instr} (g9:Enc.rep H cs8 y7) {b6:Nat} (F0:H b6=some (.cells cs8.toArray 85 (0,0))) {r:Bool} (hm:Z9j N p1 y7=some r):Tot Tryz.prog 130 #[SL E0 p1 A0,.func (.func 131) #[] #[PT b6]] w0 (λv w'=>v=.bool r∧Keep Nil w0 w'):=by
 unfold Z9j at hm
 refine fn0 func130 rfl ntmps130 rfl rfl λa o=>?_
 have u:St w0 Nil [H] [] w0:=start1 hH
 obtain ⟨G0,C0,I0,D0,rfl,J0,K0,M0,O0⟩:=Au g9
 refine th<|rg<|qa o rfl λo=>re<|tn<|th<|?_
 obtain ⟨S0,R0,hm⟩:=bs hm
 refine rg<|qm o rfl λo=>qm o rfl λo=>ls<|cr o call143 (Jdi (Ah _) P0 (St.srH u Q0) (Enc.mono (St.up u) (show Enc.rep (α:=api_Instr) H [i6 y7.Kind,i6 y7.A,i6 y7.B,SL G0 y7.E C0,SL I0 y7.F D0,i6 y7.To] y7 from ⟨_,_,rfl,rfl,⟨_,_,rfl,rfl,⟨_,_,rfl,rfl,⟨_,_,rfl,⟨_,_,rfl,J0,K0⟩,⟨_,_,rfl,⟨_,_,rfl,M0,O0⟩,rfl⟩⟩⟩⟩⟩)) (St.up u _ _ F0) R0) u λu o=>qv o (Bo o rfl rfl) λo=>qa o rfl λo=>re<|tn<|wr<|?_
 obtain rfl:=si hm
 exact r1 o results130 rfl ⟨rfl,u.keep⟩
theorem JcD (hH:H.le w0) {E0:Option Addr} {D0:Nat} {p1:(List api_Instr)} (T0:p1.length≤D0) (F0:SR H E0 p1) {p6:Int} {r:Bool} (hm:Z96 N p1 p6=some r):Tot Tryz.prog 104 #[SL E0 p1 D0,i6 p6] w0 (λv w'=>v=.bool r∧Keep Nil w0 w'):=by
 unfold Z96 at hm
 refine fn0 func104 rfl ntmps104 rfl rfl λa o=>?_
 have u:St w0 Nil [H] [] w0:=start1 hH
 refine th<|rg<|qa o rfl λo=>re<|tn<|th<|?_
 obtain ⟨A0,h8,hm⟩:=bs hm
 obtain ⟨cz9,B1,V0⟩:=SR.get F0 h8
 obtain ⟨P0,M0,Q0,O0,rfl,W0,X0,Y0,j0⟩:=Au B1
 refine rg<|qm o rfl λo=>qm o rfl λo=>qv o (Al o runUnderlying24 sizeOf85 rfl rfl h8 (SR.oaI F0 (by decide) h8)) λo=>qv o (Ar o isAgg85 sizeOf85 rfl rfl (λj v hj=>PH.le.cell (Lds.le u.ld) (V0 j v hj))) λo=>ls<|As (cs:=[i6 0,i6 0,i6 0,.slice none 0 0,.slice none 0 0,i6 0].toArray) o rfl u zeroValue85 rfl λG0 w a u o=>ls<|Bb o u sizeOf85 rfl rfl rfl rfl (Ao rfl) .head λw u=>re<|tn<|th<|th<|Av (λa w=>∃ (R0:Bool),(Z98 N p1 p6 A0) R0=some r∧Fr 49 [(0,SL E0 p1 D0),(1,i6 p6),(5,PT G0),(40,.bool R0)] a∧St w0 Nil [H] [bk G0 [i6 A0.Kind,i6 A0.A,i6 A0.B,SL P0 A0.E M0,SL Q0 A0.F O0,i6 A0.To] 85] w) ?_ ?_
 rcases bit hm with ⟨J0,hm⟩ | ⟨J0,hm⟩
 refine rxS 31 u wide (by kernel_rfl) λw u=>xr u o (Ae o Bq rfl) λo=>xq u.ld o (λw hl=>Af o isAgg3 rfl (hl.cellB t0 rfl)) λo=>xr u o (Ak o rfl rfl) λo=>xm u o rfl λo=>Tf (N:=49) (Fk:=[(0,SL E0 p1 D0),(1,i6 p6),(5,PT G0),(18,.bool ((decide (A0.To < 1)) || (decide (p6 < A0.To))))]) (b:=(decide (A0.To < 1))) 5 u ?_ ?_ ?_
 intro hb key
 replace o:=Fr.as o (t:=13) rfl (congrArg Value.bool hb)
 iterate 4 refine xn u.ld o λo=>?_
 refine xr u o (Ax (v':=.bool ((decide (A0.To < 1)) || (decide (p6 < A0.To)))) (Ac o rfl rfl) (by rw [hb];rfl)) λo=>?_
 exact key _ _ (o.hs) u
 intro hb key
 replace o:=Fr.as o (t:=13) rfl (congrArg Value.bool hb)
 refine xg u.ld o (λw hl=>Ae o Bq rfl) λo=>xg u.ld o (λw hl=>Af o isAgg3 rfl (hl.cellB t0 rfl)) λo=>xg u.ld o (λw hl=>Ab o rfl) λo=>xg u.ld o (λw hl=>Ba o rfl rfl) λo=>xr u o (Ax (v':=.bool ((decide (A0.To < 1)) || (decide (p6 < A0.To)))) (Ad o rfl rfl) (by rw [hb];rfl)) λo=>?_
 exact key _ _ (o.hs) u
 intro a w o u
 refine xr u o (Ax (Ab o rfl) (congrArg Value.bool J0)) λo=>?_
 iterate 8 refine xn u.ld o λo=>?_
 refine xr u o (Ac o rfl rfl) λo=>xm u o rfl λo=>?_
 iterate 10 refine xn u.ld o λo=>?_
 refine xr u o (Ac o rfl rfl) λo=>xe<|tn<|?_
 exact ⟨true,hm,o.hs,u⟩
 obtain ⟨C0,I0,hm⟩:=bs hm
 obtain ⟨U1,C1,S0⟩:=SR.get F0 I0
 obtain ⟨J1,E1,O1,F1,rfl,P1,Q1,R1,S1⟩:=Au C1
 refine rxS 31 u wide (by kernel_rfl) λw u=>xr u o (Ae o Bq rfl) λo=>xq u.ld o (λw hl=>Af o isAgg3 rfl (hl.cellB t0 rfl)) λo=>xr u o (Ak o rfl rfl) λo=>xm u o rfl λo=>Tf (N:=49) (Fk:=[(0,SL E0 p1 D0),(1,i6 p6),(5,PT G0),(18,.bool ((decide (A0.To < 1)) || (decide (p6 < A0.To))))]) (b:=(decide (A0.To < 1))) 5 u ?_ ?_ ?_
 intro hb key
 replace o:=Fr.as o (t:=13) rfl (congrArg Value.bool hb)
 iterate 4 refine xn u.ld o λo=>?_
 refine xr u o (Ax (v':=.bool ((decide (A0.To < 1)) || (decide (p6 < A0.To)))) (Ac o rfl rfl) (by rw [hb];rfl)) λo=>?_
 exact key _ _ (o.hs) u
 intro hb key
 replace o:=Fr.as o (t:=13) rfl (congrArg Value.bool hb)
 refine xg u.ld o (λw hl=>Ae o Bq rfl) λo=>xg u.ld o (λw hl=>Af o isAgg3 rfl (hl.cellB t0 rfl)) λo=>xg u.ld o (λw hl=>Ab o rfl) λo=>xg u.ld o (λw hl=>Ba o rfl rfl) λo=>xr u o (Ax (v':=.bool ((decide (A0.To < 1)) || (decide (p6 < A0.To)))) (Ad o rfl rfl) (by rw [hb];rfl)) λo=>?_
 exact key _ _ (o.hs) u
 intro a w o u
 refine xr u o (Ax (Ab o rfl) (congrArg Value.bool J0)) λo=>xg u.ld o (λw hl=>Ab o rfl) λo=>xg u.ld o (λw hl=>Ae o Bq rfl) λo=>xg u.ld o (λw hl=>Af o isAgg3 rfl (hl.cellB t0 rfl)) λo=>xg u.ld o (λw hl=>En o rfl rfl) λo=>xg u.ld o (λw hl=>Al o runUnderlying24 sizeOf85 rfl rfl I0 (SR.oaI F0 (by decide) I0)) λo=>xg u.ld o (λw hl=>Ae o Ca rfl) λo=>xg u.ld o (λw hl=>Af o isAgg3 rfl (PH.le.cell (Lds.le hl) (S0 0 _ rfl))) λo=>xg u.ld o (λw hl=>Bh o rfl rfl) λo=>xr u o (Ad o rfl rfl) λo=>xm u o rfl λo=>Tf (N:=49) (Fk:=[(0,SL E0 p1 D0),(1,i6 p6),(5,PT G0),(40,.bool ((decide (C0.Kind≠13)) || (decide (C0.A≠A0.A))))]) (b:=(decide (C0.Kind≠13))) 11 u ?_ ?_ ?_
 intro hb key
 replace o:=Fr.as o (t:=29) rfl (congrArg Value.bool hb)
 iterate 10 refine xn u.ld o λo=>?_
 refine xr u o (Ax (v':=.bool ((decide (C0.Kind≠13)) || (decide (C0.A≠A0.A)))) (Ac o rfl rfl) (by rw [hb];rfl)) λo=>?_
 exact key _ _ (o.hs) u
 intro hb key
 replace o:=Fr.as o (t:=29) rfl (congrArg Value.bool hb)
 refine xg u.ld o (λw hl=>Ab o rfl) λo=>xg u.ld o (λw hl=>Ae o Bq rfl) λo=>xg u.ld o (λw hl=>Af o isAgg3 rfl (hl.cellB t0 rfl)) λo=>xg u.ld o (λw hl=>En o rfl rfl) λo=>xg u.ld o (λw hl=>Al o runUnderlying24 sizeOf85 rfl rfl I0 (SR.oaI F0 (by decide) I0)) λo=>xg u.ld o (λw hl=>Ae o Ck rfl) λo=>xg u.ld o (λw hl=>Af o isAgg3 rfl (PH.le.cell (Lds.le hl) (S0 1 _ rfl))) λo=>xg u.ld o (λw hl=>Ae o Ck rfl) λo=>xg u.ld o (λw hl=>Af o isAgg3 rfl (hl.cellB t0 rfl)) λo=>xg u.ld o (λw hl=>Bh o rfl rfl) λo=>xr u o (Ax (v':=.bool ((decide (C0.Kind≠13)) || (decide (C0.A≠A0.A)))) (Ad o rfl rfl) (by rw [hb];rfl)) λo=>?_
 exact key _ _ (o.hs) u
 intro a w o u
 refine xe<|tn<|?_
 exact ⟨((decide (C0.Kind≠13)) || (decide (C0.A≠A0.A))),hm,o.hs,u⟩
 rintro a w ⟨R0,hm,o,u⟩
 unfold Z98 at hm
 rcases bit hm with ⟨K0,hm⟩ | ⟨K0,hm⟩
 refine ctv o rfl K0<|th<|rg<|qa o rfl λo=>re<|tn<|wr<|tr<|?_
 obtain rfl:=si hm
 exact r1 o results104 rfl ⟨rfl,u.keep⟩
 refine cfv o rfl K0<|wk<|tn<|th<|?_
 obtain ⟨V1,U0,hm⟩:=bs hm
 obtain ⟨T1,I1,e40,e41,n0,u0⟩:=SR.sub (sz:=6) F0 T0 rfl U0
 obtain ⟨X1,D1,hm⟩:=bs hm
 refine rg<|qm o rfl λo=>qv o (Ae o Bq rfl) λo=>qv o (Af o isAgg3 rfl (u.ld.cellB t0 rfl)) λo=>qm o rfl λo=>qv o (Dn (xs:=p1) (vl:=A0.To) (vh:=p6) o runUnderlying24 sizeOf85 rfl T0 rfl rfl U0 e40 e41) λo=>qv o (Pv (vs:=[PT G0]) o ⟨rfl,trivial⟩) λo=>ls<|cr o call130 (Jct (Ah _) n0 (St.srH u u0) (Enc.mono (St.up u) (show Enc.rep (α:=api_Instr) H [i6 A0.Kind,i6 A0.A,i6 A0.B,SL P0 A0.E M0,SL Q0 A0.F O0,i6 A0.To] A0 from ⟨_,_,rfl,rfl,⟨_,_,rfl,rfl,⟨_,_,rfl,rfl,⟨_,_,rfl,⟨_,_,rfl,W0,X0⟩,⟨_,_,rfl,⟨_,_,rfl,Y0,j0⟩,rfl⟩⟩⟩⟩⟩)) (St.blkO u t0) D1) u λu o=>qv o (A9 o rfl) λo=>qa o rfl λo=>re<|tn<|wr<|?_
 obtain rfl:=si hm
 exact r1 o results104 rfl ⟨rfl,u.keep⟩
theorem Jdz (hH:H.le w0) {G0:Option Addr} {E0:Nat} {p1:(List api_Instr)} (W2:p1.length≤E0) (X0:SR H G0 p1) {r:Bool} (hm:Z9a N p1=some r):Tot Tryz.prog 105 #[SL G0 p1 E0] w0 (λv w'=>v=.bool r∧Keep Nil w0 w'):=by
 unfold Z9a at hm
 refine fn0 func105 rfl ntmps105 rfl rfl λa o=>?_
 have u:St w0 Nil [H] [] w0:=start1 hH
 refine th<|rg<|qa o rfl λo=>re<|tn<|th<|rg<|qa o rfl λo=>re<|tn<|th<|th<|rg<|qm o rfl λo=>qv o (Aj (α:=api_Instr) (xs:=p1) o runUnderlying24 rfl) λo=>qm o rfl λo=>re<|tn<|Av (λa w=>Z9b=some r∧Fr 49 [] a∧St w0 Nil [H] [] w) ?_ ?_
 replace u:=u.nilS 3 1
 refine wb<|lp (α:=Nat×(List Int)×Int) (λgh a w=>match gh with | (J0,C0,A0)=>∃ (F0:Option Addr) (D0:Nat) (I0:List Value),(Z9e N Z9b p1) J0 C0 A0=some r∧Fr 49 [(0,SL G0 p1 E0),(3,SL F0 C0 D0),(10,SL G0 p1 E0),(11,i6 (p1.length:Int)),(12,i6 A0)] a∧St w0 Nil [H] [sla 3 1 F0 C0.length D0 I0] w∧Rows H I0 C0) (λgh=>gh.1) (N,[],0) ⟨none,0,[],hm,o.hs,u,.nil⟩ ?_
 rintro ⟨J0,C0,A0⟩ a w ⟨F0,D0,I0,hm,o,u,O0⟩
 obtain _ | J0:=J0
 simp [Z9e] at hm
 rw [Z9e] at hm
 refine th<|rg<|qv o (Ak o rfl rfl) λo=>re<|?_
 rcases bip hm with ⟨Y0,hm⟩ | ⟨Y0,hm⟩
 refine tn<|th<|ctv o rfl Y0<|wk<|tn<|th<|Av (λa w=>∃ (M0:(List Int)) (P0:Option Addr) (K0:Nat) (Q0:List Value),(Z9c (Z9e N Z9b p1 J0) A0) M0=some r∧Fr 49 [(0,SL G0 p1 E0),(3,SL P0 M0 K0),(10,SL G0 p1 E0),(11,i6 (p1.length:Int)),(12,i6 A0)] a∧St w0 Nil [H] [sla 3 1 P0 M0.length K0 Q0] w∧Rows H Q0 M0) ?_ ?_
 refine wb<|th<|?_
 obtain ⟨R0,h8,hm⟩:=bs hm
 obtain ⟨cz9,R1,C1⟩:=SR.get X0 h8
 obtain ⟨F2,u1,G2,B2,rfl,I2,J2,K2,O2⟩:=Au R1
 refine rg<|qm o rfl λo=>qv o (Al o runUnderlying24 sizeOf85 rfl rfl h8 (SR.oaI X0 (by decide) h8)) λo=>qv o (Ar o isAgg85 sizeOf85 rfl rfl (λj v hj=>PH.le.cell (Lds.le u.ld) (C1 j v hj))) λo=>ls<|As (cs:=[i6 0,i6 0,i6 0,.slice none 0 0,.slice none 0 0,i6 0].toArray) o rfl u zeroValue85 rfl λX2 w a u o=>qa o rfl λo=>ls<|Bb o u sizeOf85 rfl rfl rfl rfl (Ao rfl) .head λw u=>re<|tn<|th<|th<|rg<|qv o (Ae o Ca rfl) λo=>qv o (Af o isAgg3 rfl (u.ld.cellB t0 rfl)) λo=>qv o (Bh o rfl rfl) λo=>re<|?_
 rcases bip hm with ⟨U0,hm⟩ | ⟨U0,hm⟩
 refine tn<|ctv o rfl U0<|we<|tx<|bx<|tn<|?_
 replace u:=u.pk [1] rfl
 exact ⟨C0,F0,D0,I0,hm,o.hs,u,O0⟩
 refine tn<|cfv o rfl U0<|wk<|tn<|th<|rg<|qv o (Ae o Bq rfl) λo=>qv o (Af o isAgg3 rfl (u.ld.cellB t0 rfl)) λo=>qv o (En o rfl rfl) λo=>qa o rfl λo=>re<|tn<|th<|th<|rg<|qm o rfl λo=>qv o (Aj (α:=Int) (xs:=C0) o runUnderlying22 rfl) λo=>qm o rfl λo=>re<|tn<|Av (λa w=>(Z9d (Z9c (Z9e N Z9b p1 J0) A0) C0 A0)=some r∧Fr 49 [(0,SL G0 p1 E0),(3,SL F0 C0 D0),(4,i6 A0),(10,SL G0 p1 E0),(11,i6 (p1.length:Int)),(12,i6 A0)] a∧St w0 Nil [H] [sla 3 1 F0 C0.length D0 I0] w) ?_ ?_
 replace u:=u.pk [1] rfl
 refine wb<|lp (α:=Nat×Int) (λgh a w=>match gh with | (S0,T0)=>(Z9f N (Z9d (Z9c (Z9e N Z9b p1 J0) A0) C0 A0) p1 R0 C0) S0 T0=some r∧Fr 49 [(0,SL G0 p1 E0),(3,SL F0 C0 D0),(4,i6 A0),(6,i6 (IntKind.i64.wrap (R0.To - 1))),(10,SL G0 p1 E0),(11,i6 (p1.length:Int)),(12,i6 A0),(23,SL F0 C0 D0),(24,i6 (C0.length:Int)),(25,i6 T0)] a∧St w0 Nil [H] [sla 3 1 F0 C0.length D0 I0] w) (λgh=>gh.1) (N,0) ⟨hm,o.hs,u⟩ ?_
 rintro ⟨S0,T0⟩ a w ⟨hm,o,u⟩
 obtain _ | S0:=S0
 simp [Z9f] at hm
 rw [Z9f] at hm
 refine th<|rg<|qv o (Ak o rfl rfl) λo=>re<|?_
 rcases bip hm with ⟨V0,hm⟩ | ⟨V0,hm⟩
 refine tn<|th<|ctv o rfl V0<|wk<|tn<|th<|wb<|th<|?_
 obtain ⟨B1,j0,hm⟩:=bs hm
 have D1:=Rd.oaI (u.rdO t0) O0 (by decide) j0
 obtain ⟨S1,T1,E1⟩:=Rows.getI O0 j0
 obtain rfl:S1=[i6 B1]:=T1
 refine rg<|qv o (Al o Tryz.runUnderlying22 Tryz.sizeOf3 rfl rfl j0 D1) λo=>qv o (Af o isAgg3 rfl (u.ld.elO t0 (E1 0 _ rfl))) λo=>qa o rfl λo=>re<|tn<|th<|?_
 obtain ⟨U1,n0,hm⟩:=bs hm
 obtain ⟨Y2,V1,F1⟩:=SR.get X0 n0
 obtain ⟨P2,C2,Q2,E2,rfl,R2,T2,U2,V2⟩:=Au V1
 refine rg<|qm o rfl λo=>qm o rfl λo=>qv o (Al o runUnderlying24 sizeOf85 rfl rfl n0 (SR.oaI X0 (by decide) n0)) λo=>qv o (Ae o Bq rfl) λo=>qv o (Af o isAgg3 rfl (PH.le.cell (Lds.le u.ld) (F1 5 _ rfl))) λo=>qv o (En o rfl rfl) λo=>qa o rfl λo=>re<|tn<|th<|rg<|qm o rfl λo=>qm o rfl λo=>qv o (Ak o rfl rfl) λo=>qm o rfl λo=>gr (Fk:=[(0,SL G0 p1 E0),(3,SL F0 C0 D0),(4,i6 A0),(6,i6 (IntKind.i64.wrap (R0.To - 1))),(10,SL G0 p1 E0),(11,i6 (p1.length:Int)),(12,i6 A0),(23,SL F0 C0 D0),(24,i6 (C0.length:Int)),(25,i6 T0),(42,.bool ((decide ((IntKind.i64.wrap (U1.To - 1)) < (IntKind.i64.wrap (R0.To - 1)))) && (decide ((IntKind.i64.wrap (R0.To - 1))≤B1))))]) 38 4 o u ?_ ?_ ?_
 intro hb o key
 iterate 2 refine qg o (Ab o rfl) λo=>?_
 exact qg o (Bo o rfl rfl) λo=>qk o (Ac o rfl rfl) key u hb
 intro hb o key
 iterate 3 refine qn o λo=>?_
 exact qk o (Ad o rfl rfl) key u hb
 intro a w o u
 refine re<|?_
 rcases bit hm with ⟨W0,hm⟩ | ⟨W0,hm⟩
 refine tn<|ctv o rfl W0<|th<|rg<|qa o rfl λo=>re<|tn<|wr<|br<|tr<|tr<|br<|tr<|br<|tr<|tr<|br<|tr<|?_
 obtain rfl:=si hm
 exact r1 o results105 rfl ⟨rfl,u.keep⟩
 refine tn<|cfv o rfl W0<|wk<|bn<|tn<|rg<|qv o (An o rfl rfl) λo=>qm o rfl λo=>re<|tn<|?_
 exact ⟨(S0,(IntKind.i64.wrap (T0+1))),⟨hm,o.hs,u⟩,Nat.lt_succ_self _⟩
 refine tn<|th<|cfv o rfl V0<|we<|tx<|tx<|bx<|tn<|?_
 exact ⟨hm,o.hs,u⟩
 rintro a w ⟨hm,o,u⟩
 unfold Z9d at hm
 obtain ⟨X1,Y1,hm⟩:=bs hm
 refine rg<|qm o rfl λo=>qm o rfl λo=>ls<|Bj (e:=3) (sz:=1) [i6 A0] o rfl u rfl rfl rfl (λw=>by kernel_rfl) λu2 w a u o=>?_
 have I1:Rows (α:=Int) H [i6 A0] ([A0]:List Int):=(.cons (c:=[i6 A0]) rfl .nil)
 refine ls<|Bv (α:=Int) (xs:=C0) (ys:=([A0]:List Int)) o rfl u underlying22 Tw rfl (by decide) rfl rfl rfl t1 O0 (u.rdO t0) I1 Y1 λJ1 u0 O1 w a P1 hU o=>?_
 replace u:=hU _ (.tail .head)
 replace u:=u.drop .head
 refine qa o rfl λo=>re<|bn<|tn<|?_
 exact ⟨X1,J1,u0,O1,hm,o.hs,u,P1⟩
 rintro a w ⟨M0,P0,K0,Q0,hm,o,u,Q1⟩
 unfold Z9c at hm
 refine rg<|qv o (An o rfl rfl) λo=>qm o rfl λo=>re<|tn<|?_
 exact ⟨(J0,M0,(IntKind.i64.wrap (A0+1))),⟨P0,K0,Q0,hm,o.hs,u,Q1⟩,Nat.lt_succ_self _⟩
 refine tn<|th<|cfv o rfl Y0<|we<|tx<|tx<|bx<|tn<|?_
 replace u:=u.pickL .nil
 exact ⟨hm,o.has trivial,u⟩
 rintro a w ⟨hm,o,u⟩
 unfold Z9b at hm
 refine th<|rg<|qa o rfl λo=>re<|tn<|wr<|?_
 obtain rfl:=si hm
 exact r1 o results105 rfl ⟨rfl,u.keep⟩
set_option maxHeartbeats 4000000 in
theorem JcJ (hH:H.le w0) {cs2:List Value} {p1:api_Code} (g3:Enc.rep H cs2 p1) {p4:Int} {p5:Int} {p6:Int} {r:Bool} (hm:Z8q N p1 p4 p5 p6=some r):Tot Tryz.prog 62 #[.agg cs2.toArray,i6 p4,i6 p5,i6 p6] w0 (λv w'=>v=.bool r∧Keep Nil w0 w'):=by
 unfold Z8q at hm
 refine fn0 func62 rfl ntmps62 rfl rfl λa o=>?_
 have u:St w0 Nil [H] [] w0:=start1 hH
 obtain ⟨R0,G0,rfl,X1,Y0⟩:=Am g3
 refine th<|rg<|ls<|Br (cs:=[i6 p1.Regs,i6 p1.Counts,SL R0 p1.L G0].toArray) o rfl u rfl rfl λK0 w a u o=>qa o rfl λo=>re<|tn<|th<|th<|rg<|qv o (Ae o Cz rfl) λo=>qv o (Af o isAgg3 rfl (u.ld.cellB t0 rfl)) λo=>qv o (Ak o rfl rfl) λo=>qm o rfl λo=>gr (Fk:=[(1,i6 p4),(2,i6 p5),(3,i6 p6),(4,PT K0),(24,.bool ((decide (p1.Regs < 0)) || (decide (4 < p1.Regs))))]) 20 4 o u ?_ ?_ ?_
 intro hb o key
 iterate 3 refine qn o λo=>?_
 exact qk o (Ac o rfl rfl) key u hb
 intro hb o key
 exact qg o (Ae o Cz rfl) λo=>qg o (Af o isAgg3 rfl (u.ld.cellB t0 rfl)) λo=>qg o (Ba o rfl rfl) λo=>qk o (Ad o rfl rfl) key u hb
 intro a w o u
 refine qm o rfl λo=>gr (Fk:=[(1,i6 p4),(2,i6 p5),(3,i6 p6),(4,PT K0),(29,.bool (((decide (p1.Regs < 0)) || (decide (4 < p1.Regs))) || (decide (p1.Counts < 0))))]) 25 4 o u ?_ ?_ ?_
 intro hb o key
 iterate 3 refine qn o λo=>?_
 exact qk o (Ac o rfl rfl) key u hb
 intro hb o key
 exact qg o (Ae o Gg rfl) λo=>qg o (Af o isAgg3 rfl (u.ld.cellB t0 rfl)) λo=>qg o (Ak o rfl rfl) λo=>qk o (Ad o rfl rfl) key u hb
 intro a w o u
 refine qm o rfl λo=>gr (Fk:=[(1,i6 p4),(2,i6 p5),(3,i6 p6),(4,PT K0),(34,.bool ((((decide (p1.Regs < 0)) || (decide (4 < p1.Regs))) || (decide (p1.Counts < 0))) || (decide (12 < p1.Counts))))]) 30 4 o u ?_ ?_ ?_
 intro hb o key
 iterate 3 refine qn o λo=>?_
 exact qk o (Ac o rfl rfl) key u hb
 intro hb o key
 exact qg o (Ae o Gg rfl) λo=>qg o (Af o isAgg3 rfl (u.ld.cellB t0 rfl)) λo=>qg o (Ba o rfl rfl) λo=>qk o (Ad o rfl rfl) key u hb
 intro a w o u
 refine re<|?_
 rcases bit hm with ⟨u0,hm⟩ | ⟨u0,hm⟩
 refine tn<|ctv o rfl u0<|th<|rg<|qa o rfl λo=>re<|tn<|wr<|tr<|?_
 obtain rfl:=si hm
 exact r1 o results62 rfl ⟨rfl,u.keep⟩
 refine tn<|cfv o rfl u0<|wk<|tn<|th<|th<|rg<|qv o (Ae o Ch rfl) λo=>qv o (Af o isAgg24 rfl (u.ld.cellB t0 rfl)) λo=>qv o (Aj (α:=api_Instr) (xs:=p1.L) o runUnderlying24 rfl) λo=>qm o rfl λo=>re<|tn<|Av (λa w=>(Z8s N p1)=some r∧Fr 193 [(4,PT K0)] a∧St w0 Nil [H] [bk K0 [i6 p1.Regs,i6 p1.Counts,SL R0 p1.L G0] 26] w) ?_ ?_
 refine wb<|lp (α:=Nat×Int) (λgh a w=>match gh with | (W0,D0)=>(Z8y N (Z8s N p1) p1 p4 p5 p6) W0 D0=some r∧Fr 193 [(1,i6 p4),(2,i6 p5),(3,i6 p6),(4,PT K0),(36,SL R0 p1.L G0),(37,i6 (p1.L.length:Int)),(38,i6 D0)] a∧St w0 Nil [H] [bk K0 [i6 p1.Regs,i6 p1.Counts,SL R0 p1.L G0] 26] w) (λgh=>gh.1) (N,0) ⟨hm,o.hs,u⟩ ?_
 rintro ⟨W0,D0⟩ a w ⟨hm,o,u⟩
 obtain _ | W0:=W0
 simp [Z8y] at hm
 rw [Z8y] at hm
 refine th<|rg<|qv o (Ak o rfl rfl) λo=>re<|?_
 rcases bip hm with ⟨B1,hm⟩ | ⟨B1,hm⟩
 refine tn<|th<|ctv o rfl B1<|wk<|tn<|th<|wb<|th<|?_
 obtain ⟨A0,T1,hm⟩:=bs hm
 obtain ⟨P3,I2,G2⟩:=SR.get Y0 T1
 obtain ⟨I0,E0,J0,F0,rfl,M0,O0,P0,Q0⟩:=Au I2
 refine rg<|qm o rfl λo=>qv o (Al o runUnderlying24 sizeOf85 rfl rfl T1 (SR.oaI Y0 (by decide) T1)) λo=>qv o (Ar o isAgg85 sizeOf85 rfl rfl (λj v hj=>PH.le.cell (Lds.le u.ld) (G2 j v hj))) λo=>ls<|As (cs:=[i6 0,i6 0,i6 0,.slice none 0 0,.slice none 0 0,i6 0].toArray) o rfl u zeroValue85 rfl λC0 w a u o=>qa o rfl λo=>ls<|Bb o u sizeOf85 rfl rfl rfl rfl (Ao rfl) .head λw u=>re<|tn<|th<|th<|rg<|qv o (Ae o Ca rfl) λo=>qv o (Af o isAgg3 rfl (u.ld.cellB t0 rfl)) λo=>qv o (Ak o rfl rfl) λo=>qm o rfl λo=>gr (Fk:=[(1,i6 p4),(2,i6 p5),(3,i6 p6),(4,PT K0),(9,i6 D0),(10,PT C0),(36,SL R0 p1.L G0),(37,i6 (p1.L.length:Int)),(38,i6 D0),(50,.bool ((decide (A0.Kind < 1)) || (decide (16≤A0.Kind))))]) 46 4 o u ?_ ?_ ?_
 intro hb o key
 iterate 3 refine qn o λo=>?_
 exact qk o (Ac o rfl rfl) key u hb
 intro hb o key
 exact qg o (Ae o Ca rfl) λo=>qg o (Af o isAgg3 rfl (u.ld.cellB t0 rfl)) λo=>qg o (Bo o rfl rfl) λo=>qk o (Ad o rfl rfl) key u hb
 intro a w o u
 refine re<|?_
 rcases bit hm with ⟨C1,hm⟩ | ⟨C1,hm⟩
 refine tn<|ctv o rfl C1<|th<|rg<|qa o rfl λo=>re<|tn<|wr<|tr<|br<|tr<|tr<|br<|tr<|?_
 obtain rfl:=si hm
 exact r1 o results62 rfl ⟨rfl,u.keep⟩
 refine tn<|cfv o rfl C1<|wk<|tn<|th<|rg<|qv o (Pv (vs:=[PT C0]) o ⟨rfl,trivial⟩) λo=>qa o rfl λo=>re<|tn<|th<|?_
 obtain ⟨Q3,J2,hm⟩:=bs hm
 obtain ⟨K2,O2,hm⟩:=bs hm
 refine rdS 8 u wide λw u=>dr 0 u o rfl (Ab o rfl) λo=>dr 2 u o rfl (Ae o Ck rfl) λo=>dq 3 u.ld o rfl (λw hl=>Af o isAgg3 rfl (hl.cellB t0 rfl)) λo=>dr 4 u o rfl (Ae o Cz rfl) λo=>dq 5 u.ld o rfl (λw hl=>Af o isAgg3 rfl (hl.cellB t1 rfl)) λo=>da1 (i:=1) (by kernel_rfl) ?_
 refine di (i:=1) rfl<|k1 (vs:=[.int .u8 114]) (caps:=[PT C0]) o rfl rfl call100 (El (Ah _) (Enc.mono (St.up u) (show Enc.rep (α:=api_Instr) H [i6 A0.Kind,i6 A0.A,i6 A0.B,SL I0 A0.E E0,SL J0 A0.F F0,i6 A0.To] A0 from ⟨_,_,rfl,rfl,⟨_,_,rfl,rfl,⟨_,_,rfl,rfl,⟨_,_,rfl,⟨_,_,rfl,M0,O0⟩,⟨_,_,rfl,⟨_,_,rfl,P0,Q0⟩,rfl⟩⟩⟩⟩⟩)) (St.blkO u t0) J2) ⟨rfl,trivial⟩ rfl (λv w a hR o=>?_)
 obtain ⟨rfl,hk⟩:=hR
 replace u:=u.pass hk
 refine ⟨λ_=>u.ld,?_⟩
 refine da1 (i:=6) (by kernel_rfl) ?_
 refine di (i:=6) rfl<|cr o call103 (Pg (Ah _) O2) u λu o=>⟨λ_=>u.ld,?_⟩
 refine dr 7 u o rfl (Bp o rfl) λo=>de (by kernel_rfl)<|tn<|th<|th<|?_
 obtain ⟨R3,P2,hm⟩:=bs hm
 refine rg<|qm o rfl λo=>ls<|k1 (vs:=[.int .u8 107]) (caps:=[PT C0]) o rfl rfl call100 (El (Ah _) (Enc.mono (St.up u) (show Enc.rep (α:=api_Instr) H [i6 A0.Kind,i6 A0.A,i6 A0.B,SL I0 A0.E E0,SL J0 A0.F F0,i6 A0.To] A0 from ⟨_,_,rfl,rfl,⟨_,_,rfl,rfl,⟨_,_,rfl,rfl,⟨_,_,rfl,⟨_,_,rfl,M0,O0⟩,⟨_,_,rfl,⟨_,_,rfl,P0,Q0⟩,rfl⟩⟩⟩⟩⟩)) (St.blkO u t0) P2) ⟨rfl,trivial⟩ rfl (λv w a hR o=>?_)
 obtain ⟨rfl,hk⟩:=hR
 replace u:=u.pass hk
 refine re<|tn<|Av (λa w=>∃ (S0:Bool),(Z8t N (Z8y N (Z8s N p1) p1 p4 p5 p6 W0) p1 p4 p5 p6 A0 D0) S0=some r∧Fr 193 [(1,i6 p4),(2,i6 p5),(3,i6 p6),(4,PT K0),(9,i6 D0),(10,PT C0),(11,.func (.func 100) #[] #[PT C0]),(12,.bool S0),(36,SL R0 p1.L G0),(37,i6 (p1.L.length:Int)),(38,i6 D0)] a∧St w0 Nil [H] [bk K0 [i6 p1.Regs,i6 p1.Counts,SL R0 p1.L G0] 26,bk C0 [i6 A0.Kind,i6 A0.A,i6 A0.B,SL I0 A0.E E0,SL J0 A0.F F0,i6 A0.To] 85] w) ?_ ?_
 rcases bit hm with ⟨D1,hm⟩ | ⟨D1,hm⟩
 refine ctv o rfl D1<|?_
 obtain ⟨Q2,R2,hm⟩:=bs hm
 refine rg<|qv o (Ae o Ck rfl) λo=>qv o (Af o isAgg3 rfl (u.ld.cellB t0 rfl)) λo=>qv o (Ae o Gg rfl) λo=>qv o (Af o isAgg3 rfl (u.ld.cellB t1 rfl)) λo=>ls<|cr o call103 (Pg (Ah _) R2) u λu o=>qa o rfl λo=>re<|tn<|?_
 replace u:=u.pk [1,0] rfl
 exact ⟨Q2,hm,o.hs,u⟩
 refine cfv o rfl D1<|wk<|tn<|?_
 replace u:=u.pk [1,0] rfl
 exact ⟨K2,hm,o.hs,u⟩
 rintro a w ⟨S0,hm,o,u⟩
 unfold Z8t at hm
 refine th<|rg<|qv o (Ae o Ce rfl) λo=>qv o (Af o isAgg3 rfl (u.ld.cellB t1 rfl)) λo=>qv o (Aq o rfl rfl) λo=>qa o rfl λo=>re<|tn<|th<|Av (λa w=>∃ (T0:Bool),(Z8u N (Z8y N (Z8s N p1) p1 p4 p5 p6 W0) p1 A0 S0 D0) T0=some r∧Fr 193 [(1,i6 p4),(2,i6 p5),(3,i6 p6),(4,PT K0),(9,i6 D0),(10,PT C0),(11,.func (.func 100) #[] #[PT C0]),(12,.bool S0),(13,.bool T0),(36,SL R0 p1.L G0),(37,i6 (p1.L.length:Int)),(38,i6 D0)] a∧St w0 Nil [H] [bk K0 [i6 p1.Regs,i6 p1.Counts,SL R0 p1.L G0] 26,bk C0 [i6 A0.Kind,i6 A0.A,i6 A0.B,SL I0 A0.E E0,SL J0 A0.F F0,i6 A0.To] 85] w) ?_ ?_
 refine wb<|th<|?_
 obtain ⟨S3,T2,hm⟩:=bs hm
 refine rg<|qm o rfl λo=>ls<|k1 (vs:=[.int .u8 99]) (caps:=[PT C0]) o rfl rfl call100 (El (Ah _) (Enc.mono (St.up u) (show Enc.rep (α:=api_Instr) H [i6 A0.Kind,i6 A0.A,i6 A0.B,SL I0 A0.E E0,SL J0 A0.F F0,i6 A0.To] A0 from ⟨_,_,rfl,rfl,⟨_,_,rfl,rfl,⟨_,_,rfl,rfl,⟨_,_,rfl,⟨_,_,rfl,M0,O0⟩,⟨_,_,rfl,⟨_,_,rfl,P0,Q0⟩,rfl⟩⟩⟩⟩⟩)) (St.blkO u t1) T2) ⟨rfl,trivial⟩ rfl (λv w a hR o=>?_)
 obtain ⟨rfl,hk⟩:=hR
 replace u:=u.pass hk
 refine qa o rfl λo=>re<|?_
 rcases bit hm with ⟨E1,hm⟩ | ⟨E1,hm⟩
 refine tn<|ctv o rfl E1<|?_
 obtain ⟨U2,V2,hm⟩:=bs hm
 refine rg<|qv o (Ae o Ce rfl) λo=>qv o (Af o isAgg3 rfl (u.ld.cellB t1 rfl)) λo=>qm o rfl λo=>ls<|cr o call103 (Pg (Ah _) V2) u λu o=>qa o rfl λo=>re<|bn<|tn<|?_
 exact ⟨U2,hm,o.hs,u⟩
 refine tn<|cfv o rfl E1<|th<|?_
 obtain ⟨T3,W2,hm⟩:=bs hm
 refine rg<|qm o rfl λo=>ls<|k1 (vs:=[.int .u8 108]) (caps:=[PT C0]) o rfl rfl call100 (El (Ah _) (Enc.mono (St.up u) (show Enc.rep (α:=api_Instr) H [i6 A0.Kind,i6 A0.A,i6 A0.B,SL I0 A0.E E0,SL J0 A0.F F0,i6 A0.To] A0 from ⟨_,_,rfl,rfl,⟨_,_,rfl,rfl,⟨_,_,rfl,rfl,⟨_,_,rfl,⟨_,_,rfl,M0,O0⟩,⟨_,_,rfl,⟨_,_,rfl,P0,Q0⟩,rfl⟩⟩⟩⟩⟩)) (St.blkO u t1) W2) ⟨rfl,trivial⟩ rfl (λv w a hR o=>?_)
 obtain ⟨rfl,hk⟩:=hR
 replace u:=u.pass hk
 refine qa o rfl λo=>re<|?_
 rcases bit hm with ⟨F1,hm⟩ | ⟨F1,hm⟩
 refine tn<|ctv o rfl F1<|?_
 obtain ⟨X2,Y2,hm⟩:=bs hm
 refine rg<|qv o (Ae o Ce rfl) λo=>qv o (Af o isAgg3 rfl (u.ld.cellB t1 rfl)) λo=>qm o rfl λo=>ls<|cr o call103 (Pg (Ah _) Y2) u λu o=>qa o rfl λo=>re<|bn<|tn<|?_
 exact ⟨X2,hm,o.hs,u⟩
 refine tn<|cfv o rfl F1<|th<|?_
 obtain ⟨U3,u2,hm⟩:=bs hm
 refine rg<|qm o rfl λo=>ls<|k1 (vs:=[.int .u8 109]) (caps:=[PT C0]) o rfl rfl call100 (El (Ah _) (Enc.mono (St.up u) (show Enc.rep (α:=api_Instr) H [i6 A0.Kind,i6 A0.A,i6 A0.B,SL I0 A0.E E0,SL J0 A0.F F0,i6 A0.To] A0 from ⟨_,_,rfl,rfl,⟨_,_,rfl,rfl,⟨_,_,rfl,rfl,⟨_,_,rfl,⟨_,_,rfl,M0,O0⟩,⟨_,_,rfl,⟨_,_,rfl,P0,Q0⟩,rfl⟩⟩⟩⟩⟩)) (St.blkO u t1) u2) ⟨rfl,trivial⟩ rfl (λv w a hR o=>?_)
 obtain ⟨rfl,hk⟩:=hR
 replace u:=u.pass hk
 refine qa o rfl λo=>re<|?_
 rcases bit hm with ⟨I1,hm⟩ | ⟨I1,hm⟩
 refine tn<|ctv o rfl I1<|?_
 obtain ⟨A3,B3,hm⟩:=bs hm
 refine rg<|qv o (Ae o Ce rfl) λo=>qv o (Af o isAgg3 rfl (u.ld.cellB t1 rfl)) λo=>qm o rfl λo=>ls<|cr o call103 (Pg (Ah _) B3) u λu o=>qa o rfl λo=>re<|bn<|tn<|?_
 exact ⟨A3,hm,o.hs,u⟩
 refine tn<|cfv o rfl I1<|th<|?_
 obtain ⟨V3,C3,hm⟩:=bs hm
 refine rg<|qm o rfl λo=>ls<|k1 (vs:=[.int .u8 110]) (caps:=[PT C0]) o rfl rfl call100 (El (Ah _) (Enc.mono (St.up u) (show Enc.rep (α:=api_Instr) H [i6 A0.Kind,i6 A0.A,i6 A0.B,SL I0 A0.E E0,SL J0 A0.F F0,i6 A0.To] A0 from ⟨_,_,rfl,rfl,⟨_,_,rfl,rfl,⟨_,_,rfl,rfl,⟨_,_,rfl,⟨_,_,rfl,M0,O0⟩,⟨_,_,rfl,⟨_,_,rfl,P0,Q0⟩,rfl⟩⟩⟩⟩⟩)) (St.blkO u t1) C3) ⟨rfl,trivial⟩ rfl (λv w a hR o=>?_)
 obtain ⟨rfl,hk⟩:=hR
 replace u:=u.pass hk
 refine qa o rfl λo=>re<|?_
 rcases bit hm with ⟨J1,hm⟩ | ⟨J1,hm⟩
 refine tn<|ctv o rfl J1<|rg<|qv o (Ae o Ce rfl) λo=>qv o (Af o isAgg3 rfl (u.ld.cellB t1 rfl)) λo=>qv o (Bo o rfl rfl) λo=>qm o rfl λo=>gr (Fk:=[(1,i6 p4),(2,i6 p5),(3,i6 p6),(4,PT K0),(9,i6 D0),(10,PT C0),(11,.func (.func 100) #[] #[PT C0]),(12,.bool S0),(36,SL R0 p1.L G0),(37,i6 (p1.L.length:Int)),(38,i6 D0),(100,.bool ((decide (1≤A0.B)) && (decide (A0.B≤8))))]) 96 4 o u ?_ ?_ ?_
 intro hb o key
 exact qg o (Ae o Ce rfl) λo=>qg o (Af o isAgg3 rfl (u.ld.cellB t1 rfl)) λo=>qg o (Dt o rfl rfl) λo=>qk o (Ac o rfl rfl) key u hb
 intro hb o key
 iterate 3 refine qn o λo=>?_
 exact qk o (Ad o rfl rfl) key u hb
 intro a w o u
 refine qa o rfl λo=>re<|bn<|tn<|?_
 exact ⟨((decide (1≤A0.B)) && (decide (A0.B≤8))),hm,o.hs,u⟩
 refine tn<|cfv o rfl J1<|wk<|bn<|tn<|?_
 exact ⟨(decide (A0.B=0)),hm,o.hs,u⟩
 rintro a w ⟨T0,hm,o,u⟩
 unfold Z8u at hm
 refine th<|Av (λa w=>∃ (U0:Bool),(Z8v N (Z8y N (Z8s N p1) p1 p4 p5 p6 W0) p1 A0 S0 T0 D0) U0=some r∧Fr 193 [(1,i6 p4),(2,i6 p5),(3,i6 p6),(4,PT K0),(9,i6 D0),(10,PT C0),(11,.func (.func 100) #[] #[PT C0]),(12,.bool S0),(13,.bool T0),(14,.bool U0),(36,SL R0 p1.L G0),(37,i6 (p1.L.length:Int)),(38,i6 D0)] a∧St w0 Nil [H] [bk K0 [i6 p1.Regs,i6 p1.Counts,SL R0 p1.L G0] 26,bk C0 [i6 A0.Kind,i6 A0.A,i6 A0.B,SL I0 A0.E E0,SL J0 A0.F F0,i6 A0.To] 85] w) ?_ ?_
 obtain ⟨W3,U1,hm⟩:=bs hm
 rcases bit hm with ⟨j0,hm⟩ | ⟨j0,hm⟩
 obtain ⟨X3,Y1,hm⟩:=bs hm
 rcases bit hm with ⟨O1,hm⟩ | ⟨O1,hm⟩
 refine rg<|qm o rfl λo=>ls<|k1 (vs:=[.int .u8 101]) (caps:=[PT C0]) o rfl rfl call100 (El (Ah _) (Enc.mono (St.up u) (show Enc.rep (α:=api_Instr) H [i6 A0.Kind,i6 A0.A,i6 A0.B,SL I0 A0.E E0,SL J0 A0.F F0,i6 A0.To] A0 from ⟨_,_,rfl,rfl,⟨_,_,rfl,rfl,⟨_,_,rfl,rfl,⟨_,_,rfl,⟨_,_,rfl,M0,O0⟩,⟨_,_,rfl,⟨_,_,rfl,P0,Q0⟩,rfl⟩⟩⟩⟩⟩)) (St.blkO u t1) U1) ⟨rfl,trivial⟩ rfl (λv w a hR o=>?_)
 obtain ⟨rfl,hk⟩:=hR
 replace u:=u.pass hk
 refine qv o (Ax (Ab o rfl) (congrArg Value.bool j0)) λo=>qg o (Ae o Cv rfl) λo=>qg o (Af o isAgg54 rfl (u.ld.cellB t1 rfl)) λo=>qg o (Ae o Cz rfl) λo=>qg o (Af o isAgg3 rfl (u.ld.cellB t0 rfl)) λo=>ls<|gy o rfl rfl<|cr o call65 (Pt (Ah _) M0 (St.srH u O0) Y1) u λu o=>qv o (Ac o rfl rfl) λo=>qv o (Ax (Ab o rfl) (congrArg Value.bool O1)) λo=>?_
 iterate 4 refine qn o λo=>?_
 iterate 4 refine ls<|gnu o rfl rfl rfl λa o=>?_
 refine qn o λo=>qv o (Ac o rfl rfl) λo=>qa o rfl λo=>re<|tn<|?_
 exact ⟨true,hm,o.hs,u⟩
 obtain ⟨u1,D3,hm⟩:=bs hm
 refine rg<|qm o rfl λo=>ls<|k1 (vs:=[.int .u8 101]) (caps:=[PT C0]) o rfl rfl call100 (El (Ah _) (Enc.mono (St.up u) (show Enc.rep (α:=api_Instr) H [i6 A0.Kind,i6 A0.A,i6 A0.B,SL I0 A0.E E0,SL J0 A0.F F0,i6 A0.To] A0 from ⟨_,_,rfl,rfl,⟨_,_,rfl,rfl,⟨_,_,rfl,rfl,⟨_,_,rfl,⟨_,_,rfl,M0,O0⟩,⟨_,_,rfl,⟨_,_,rfl,P0,Q0⟩,rfl⟩⟩⟩⟩⟩)) (St.blkO u t1) U1) ⟨rfl,trivial⟩ rfl (λv w a hR o=>?_)
 obtain ⟨rfl,hk⟩:=hR
 replace u:=u.pass hk
 refine qv o (Ax (Ab o rfl) (congrArg Value.bool j0)) λo=>qg o (Ae o Cv rfl) λo=>qg o (Af o isAgg54 rfl (u.ld.cellB t1 rfl)) λo=>qg o (Ae o Cz rfl) λo=>qg o (Af o isAgg3 rfl (u.ld.cellB t0 rfl)) λo=>ls<|gy o rfl rfl<|cr o call65 (Pt (Ah _) M0 (St.srH u O0) Y1) u λu o=>qv o (Ac o rfl rfl) λo=>qv o (Ax (Ab o rfl) (congrArg Value.bool O1)) λo=>qg o (Ab o rfl) λo=>ls<|gy o rfl rfl<|k1 (vs:=[.int .u8 101]) (caps:=[PT C0]) o rfl rfl call100 (El (Ah _) (Enc.mono (St.up u) (show Enc.rep (α:=api_Instr) H [i6 A0.Kind,i6 A0.A,i6 A0.B,SL I0 A0.E E0,SL J0 A0.F F0,i6 A0.To] A0 from ⟨_,_,rfl,rfl,⟨_,_,rfl,rfl,⟨_,_,rfl,rfl,⟨_,_,rfl,⟨_,_,rfl,M0,O0⟩,⟨_,_,rfl,⟨_,_,rfl,P0,Q0⟩,rfl⟩⟩⟩⟩⟩)) (St.blkO u t1) D3) ⟨rfl,trivial⟩ rfl (λv w a hR o=>?_)
 obtain ⟨rfl,hk⟩:=hR
 replace u:=u.pass hk
 refine qg o (A9 o rfl) λo=>qg o (Ab o rfl) λo=>gr (Fk:=[(1,i6 p4),(2,i6 p5),(3,i6 p6),(4,PT K0),(9,i6 D0),(10,PT C0),(11,.func (.func 100) #[] #[PT C0]),(12,.bool S0),(13,.bool T0),(36,SL R0 p1.L G0),(37,i6 (p1.L.length:Int)),(38,i6 D0),(110,.bool false),(119,.bool ((!u1) && (decide ((A0.E.length:Int)=0))))]) 114 5 o u ?_ ?_ ?_
 intro hb o key
 exact qg o (Ae o Cv rfl) λo=>qg o (Af o isAgg54 rfl (u.ld.cellB t1 rfl)) λo=>qg o (Aj (α:=api_Op) (xs:=A0.E) o runUnderlying54 rfl) λo=>qg o (Aq o rfl rfl) λo=>ql o (Ac o rfl rfl) key u hb
 intro hb o key
 iterate 4 refine qn o λo=>?_
 exact ql o (Ad o rfl rfl) key u hb
 intro a w o u
 refine qv o (Ad o rfl rfl) λo=>qa o rfl λo=>re<|tn<|?_
 exact ⟨((!u1) && (decide ((A0.E.length:Int)=0))),hm,o.hs,u⟩
 obtain ⟨B2,E3,hm⟩:=bs hm
 refine rg<|qm o rfl λo=>ls<|k1 (vs:=[.int .u8 101]) (caps:=[PT C0]) o rfl rfl call100 (El (Ah _) (Enc.mono (St.up u) (show Enc.rep (α:=api_Instr) H [i6 A0.Kind,i6 A0.A,i6 A0.B,SL I0 A0.E E0,SL J0 A0.F F0,i6 A0.To] A0 from ⟨_,_,rfl,rfl,⟨_,_,rfl,rfl,⟨_,_,rfl,rfl,⟨_,_,rfl,⟨_,_,rfl,M0,O0⟩,⟨_,_,rfl,⟨_,_,rfl,P0,Q0⟩,rfl⟩⟩⟩⟩⟩)) (St.blkO u t1) U1) ⟨rfl,trivial⟩ rfl (λv w a hR o=>?_)
 obtain ⟨rfl,hk⟩:=hR
 replace u:=u.pass hk
 refine qv o (Ax (Ab o rfl) (congrArg Value.bool j0)) λo=>?_
 iterate 5 refine qn o λo=>?_
 refine qv o (Ad o rfl rfl) λo=>qm o rfl λo=>qg o (Ab o rfl) λo=>ls<|gy o rfl rfl<|k1 (vs:=[.int .u8 101]) (caps:=[PT C0]) o rfl rfl call100 (El (Ah _) (Enc.mono (St.up u) (show Enc.rep (α:=api_Instr) H [i6 A0.Kind,i6 A0.A,i6 A0.B,SL I0 A0.E E0,SL J0 A0.F F0,i6 A0.To] A0 from ⟨_,_,rfl,rfl,⟨_,_,rfl,rfl,⟨_,_,rfl,rfl,⟨_,_,rfl,⟨_,_,rfl,M0,O0⟩,⟨_,_,rfl,⟨_,_,rfl,P0,Q0⟩,rfl⟩⟩⟩⟩⟩)) (St.blkO u t1) E3) ⟨rfl,trivial⟩ rfl (λv w a hR o=>?_)
 obtain ⟨rfl,hk⟩:=hR
 replace u:=u.pass hk
 refine qg o (A9 o rfl) λo=>qg o (Ab o rfl) λo=>gr (Fk:=[(1,i6 p4),(2,i6 p5),(3,i6 p6),(4,PT K0),(9,i6 D0),(10,PT C0),(11,.func (.func 100) #[] #[PT C0]),(12,.bool S0),(13,.bool T0),(36,SL R0 p1.L G0),(37,i6 (p1.L.length:Int)),(38,i6 D0),(110,.bool false),(119,.bool ((!B2) && (decide ((A0.E.length:Int)=0))))]) 114 5 o u ?_ ?_ ?_
 intro hb o key
 exact qg o (Ae o Cv rfl) λo=>qg o (Af o isAgg54 rfl (u.ld.cellB t1 rfl)) λo=>qg o (Aj (α:=api_Op) (xs:=A0.E) o runUnderlying54 rfl) λo=>qg o (Aq o rfl rfl) λo=>ql o (Ac o rfl rfl) key u hb
 intro hb o key
 iterate 4 refine qn o λo=>?_
 exact ql o (Ad o rfl rfl) key u hb
 intro a w o u
 refine qv o (Ad o rfl rfl) λo=>qa o rfl λo=>re<|tn<|?_
 exact ⟨((!B2) && (decide ((A0.E.length:Int)=0))),hm,o.hs,u⟩
 rintro a w ⟨U0,hm,o,u⟩
 unfold Z8v at hm
 refine th<|Av (λa w=>∃ (V0:Bool),(Z8w N (Z8y N (Z8s N p1) p1 p4 p5 p6 W0) p1 A0 S0 T0 U0 D0) V0=some r∧Fr 193 [(1,i6 p4),(2,i6 p5),(3,i6 p6),(4,PT K0),(9,i6 D0),(10,PT C0),(11,.func (.func 100) #[] #[PT C0]),(12,.bool S0),(13,.bool T0),(14,.bool U0),(15,.bool V0),(36,SL R0 p1.L G0),(37,i6 (p1.L.length:Int)),(38,i6 D0)] a∧St w0 Nil [H] [bk K0 [i6 p1.Regs,i6 p1.Counts,SL R0 p1.L G0] 26,bk C0 [i6 A0.Kind,i6 A0.A,i6 A0.B,SL I0 A0.E E0,SL J0 A0.F F0,i6 A0.To] 85] w) ?_ ?_
 obtain ⟨Y3,V1,hm⟩:=bs hm
 rcases bit hm with ⟨n0,hm⟩ | ⟨n0,hm⟩
 obtain ⟨l3,C2,hm⟩:=bs hm
 rcases bit hm with ⟨P1,hm⟩ | ⟨P1,hm⟩
 refine rg<|qm o rfl λo=>ls<|k1 (vs:=[.int .u8 102]) (caps:=[PT C0]) o rfl rfl call100 (El (Ah _) (Enc.mono (St.up u) (show Enc.rep (α:=api_Instr) H [i6 A0.Kind,i6 A0.A,i6 A0.B,SL I0 A0.E E0,SL J0 A0.F F0,i6 A0.To] A0 from ⟨_,_,rfl,rfl,⟨_,_,rfl,rfl,⟨_,_,rfl,rfl,⟨_,_,rfl,⟨_,_,rfl,M0,O0⟩,⟨_,_,rfl,⟨_,_,rfl,P0,Q0⟩,rfl⟩⟩⟩⟩⟩)) (St.blkO u t1) V1) ⟨rfl,trivial⟩ rfl (λv w a hR o=>?_)
 obtain ⟨rfl,hk⟩:=hR
 replace u:=u.pass hk
 refine qv o (Ax (Ab o rfl) (congrArg Value.bool n0)) λo=>qg o (Ae o Dv rfl) λo=>qg o (Af o isAgg54 rfl (u.ld.cellB t1 rfl)) λo=>qg o (Ae o Cz rfl) λo=>qg o (Af o isAgg3 rfl (u.ld.cellB t0 rfl)) λo=>ls<|gy o rfl rfl<|cr o call65 (Pt (Ah _) P0 (St.srH u Q0) C2) u λu o=>qv o (Ac o rfl rfl) λo=>qv o (Ax (Ab o rfl) (congrArg Value.bool P1)) λo=>?_
 iterate 4 refine qn o λo=>?_
 iterate 4 refine ls<|gnu o rfl rfl rfl λa o=>?_
 refine qn o λo=>qv o (Ac o rfl rfl) λo=>qa o rfl λo=>re<|tn<|?_
 exact ⟨true,hm,o.hs,u⟩
 obtain ⟨E2,F3,hm⟩:=bs hm
 refine rg<|qm o rfl λo=>ls<|k1 (vs:=[.int .u8 102]) (caps:=[PT C0]) o rfl rfl call100 (El (Ah _) (Enc.mono (St.up u) (show Enc.rep (α:=api_Instr) H [i6 A0.Kind,i6 A0.A,i6 A0.B,SL I0 A0.E E0,SL J0 A0.F F0,i6 A0.To] A0 from ⟨_,_,rfl,rfl,⟨_,_,rfl,rfl,⟨_,_,rfl,rfl,⟨_,_,rfl,⟨_,_,rfl,M0,O0⟩,⟨_,_,rfl,⟨_,_,rfl,P0,Q0⟩,rfl⟩⟩⟩⟩⟩)) (St.blkO u t1) V1) ⟨rfl,trivial⟩ rfl (λv w a hR o=>?_)
 obtain ⟨rfl,hk⟩:=hR
 replace u:=u.pass hk
 refine qv o (Ax (Ab o rfl) (congrArg Value.bool n0)) λo=>qg o (Ae o Dv rfl) λo=>qg o (Af o isAgg54 rfl (u.ld.cellB t1 rfl)) λo=>qg o (Ae o Cz rfl) λo=>qg o (Af o isAgg3 rfl (u.ld.cellB t0 rfl)) λo=>ls<|gy o rfl rfl<|cr o call65 (Pt (Ah _) P0 (St.srH u Q0) C2) u λu o=>qv o (Ac o rfl rfl) λo=>qv o (Ax (Ab o rfl) (congrArg Value.bool P1)) λo=>qg o (Ab o rfl) λo=>ls<|gy o rfl rfl<|k1 (vs:=[.int .u8 102]) (caps:=[PT C0]) o rfl rfl call100 (El (Ah _) (Enc.mono (St.up u) (show Enc.rep (α:=api_Instr) H [i6 A0.Kind,i6 A0.A,i6 A0.B,SL I0 A0.E E0,SL J0 A0.F F0,i6 A0.To] A0 from ⟨_,_,rfl,rfl,⟨_,_,rfl,rfl,⟨_,_,rfl,rfl,⟨_,_,rfl,⟨_,_,rfl,M0,O0⟩,⟨_,_,rfl,⟨_,_,rfl,P0,Q0⟩,rfl⟩⟩⟩⟩⟩)) (St.blkO u t1) F3) ⟨rfl,trivial⟩ rfl (λv w a hR o=>?_)
 obtain ⟨rfl,hk⟩:=hR
 replace u:=u.pass hk
 refine qg o (A9 o rfl) λo=>qg o (Ab o rfl) λo=>gr (Fk:=[(1,i6 p4),(2,i6 p5),(3,i6 p6),(4,PT K0),(9,i6 D0),(10,PT C0),(11,.func (.func 100) #[] #[PT C0]),(12,.bool S0),(13,.bool T0),(14,.bool U0),(36,SL R0 p1.L G0),(37,i6 (p1.L.length:Int)),(38,i6 D0),(130,.bool false),(139,.bool ((!E2) && (decide ((A0.F.length:Int)=0))))]) 134 5 o u ?_ ?_ ?_
 intro hb o key
 exact qg o (Ae o Dv rfl) λo=>qg o (Af o isAgg54 rfl (u.ld.cellB t1 rfl)) λo=>qg o (Aj (α:=api_Op) (xs:=A0.F) o runUnderlying54 rfl) λo=>qg o (Aq o rfl rfl) λo=>ql o (Ac o rfl rfl) key u hb
 intro hb o key
 iterate 4 refine qn o λo=>?_
 exact ql o (Ad o rfl rfl) key u hb
 intro a w o u
 refine qv o (Ad o rfl rfl) λo=>qa o rfl λo=>re<|tn<|?_
 exact ⟨((!E2) && (decide ((A0.F.length:Int)=0))),hm,o.hs,u⟩
 obtain ⟨F2,G3,hm⟩:=bs hm
 refine rg<|qm o rfl λo=>ls<|k1 (vs:=[.int .u8 102]) (caps:=[PT C0]) o rfl rfl call100 (El (Ah _) (Enc.mono (St.up u) (show Enc.rep (α:=api_Instr) H [i6 A0.Kind,i6 A0.A,i6 A0.B,SL I0 A0.E E0,SL J0 A0.F F0,i6 A0.To] A0 from ⟨_,_,rfl,rfl,⟨_,_,rfl,rfl,⟨_,_,rfl,rfl,⟨_,_,rfl,⟨_,_,rfl,M0,O0⟩,⟨_,_,rfl,⟨_,_,rfl,P0,Q0⟩,rfl⟩⟩⟩⟩⟩)) (St.blkO u t1) V1) ⟨rfl,trivial⟩ rfl (λv w a hR o=>?_)
 obtain ⟨rfl,hk⟩:=hR
 replace u:=u.pass hk
 refine qv o (Ax (Ab o rfl) (congrArg Value.bool n0)) λo=>?_
 iterate 5 refine qn o λo=>?_
 refine qv o (Ad o rfl rfl) λo=>qm o rfl λo=>qg o (Ab o rfl) λo=>ls<|gy o rfl rfl<|k1 (vs:=[.int .u8 102]) (caps:=[PT C0]) o rfl rfl call100 (El (Ah _) (Enc.mono (St.up u) (show Enc.rep (α:=api_Instr) H [i6 A0.Kind,i6 A0.A,i6 A0.B,SL I0 A0.E E0,SL J0 A0.F F0,i6 A0.To] A0 from ⟨_,_,rfl,rfl,⟨_,_,rfl,rfl,⟨_,_,rfl,rfl,⟨_,_,rfl,⟨_,_,rfl,M0,O0⟩,⟨_,_,rfl,⟨_,_,rfl,P0,Q0⟩,rfl⟩⟩⟩⟩⟩)) (St.blkO u t1) G3) ⟨rfl,trivial⟩ rfl (λv w a hR o=>?_)
 obtain ⟨rfl,hk⟩:=hR
 replace u:=u.pass hk
 refine qg o (A9 o rfl) λo=>qg o (Ab o rfl) λo=>gr (Fk:=[(1,i6 p4),(2,i6 p5),(3,i6 p6),(4,PT K0),(9,i6 D0),(10,PT C0),(11,.func (.func 100) #[] #[PT C0]),(12,.bool S0),(13,.bool T0),(14,.bool U0),(36,SL R0 p1.L G0),(37,i6 (p1.L.length:Int)),(38,i6 D0),(130,.bool false),(139,.bool ((!F2) && (decide ((A0.F.length:Int)=0))))]) 134 5 o u ?_ ?_ ?_
 intro hb o key
 exact qg o (Ae o Dv rfl) λo=>qg o (Af o isAgg54 rfl (u.ld.cellB t1 rfl)) λo=>qg o (Aj (α:=api_Op) (xs:=A0.F) o runUnderlying54 rfl) λo=>qg o (Aq o rfl rfl) λo=>ql o (Ac o rfl rfl) key u hb
 intro hb o key
 iterate 4 refine qn o λo=>?_
 exact ql o (Ad o rfl rfl) key u hb
 intro a w o u
 refine qv o (Ad o rfl rfl) λo=>qa o rfl λo=>re<|tn<|?_
 exact ⟨((!F2) && (decide ((A0.F.length:Int)=0))),hm,o.hs,u⟩
 rintro a w ⟨V0,hm,o,u⟩
 unfold Z8w at hm
 refine th<|rg<|qv o (Ae o Bq rfl) λo=>qv o (Af o isAgg3 rfl (u.ld.cellB t1 rfl)) λo=>qv o (Aq o rfl rfl) λo=>qa o rfl λo=>re<|tn<|th<|Av (λa w=>∃ (X0:Bool),(Z8x (Z8y N (Z8s N p1) p1 p4 p5 p6 W0) S0 T0 U0 V0 D0) X0=some r∧Fr 193 [(1,i6 p4),(2,i6 p5),(3,i6 p6),(4,PT K0),(12,.bool S0),(13,.bool T0),(14,.bool U0),(15,.bool V0),(16,.bool X0),(36,SL R0 p1.L G0),(37,i6 (p1.L.length:Int)),(38,i6 D0)] a∧St w0 Nil [H] [bk K0 [i6 p1.Regs,i6 p1.Counts,SL R0 p1.L G0] 26] w) ?_ ?_
 refine wb<|th<|?_
 obtain ⟨I3,J3,hm⟩:=bs hm
 refine rg<|qm o rfl λo=>ls<|k1 (vs:=[.int .u8 116]) (caps:=[PT C0]) o rfl rfl call100 (El (Ah _) (Enc.mono (St.up u) (show Enc.rep (α:=api_Instr) H [i6 A0.Kind,i6 A0.A,i6 A0.B,SL I0 A0.E E0,SL J0 A0.F F0,i6 A0.To] A0 from ⟨_,_,rfl,rfl,⟨_,_,rfl,rfl,⟨_,_,rfl,rfl,⟨_,_,rfl,⟨_,_,rfl,M0,O0⟩,⟨_,_,rfl,⟨_,_,rfl,P0,Q0⟩,rfl⟩⟩⟩⟩⟩)) (St.blkO u t1) J3) ⟨rfl,trivial⟩ rfl (λv w a hR o=>?_)
 obtain ⟨rfl,hk⟩:=hR
 replace u:=u.pass hk
 refine qm o rfl λo=>gr (Fk:=[(1,i6 p4),(2,i6 p5),(3,i6 p6),(4,PT K0),(9,i6 D0),(10,PT C0),(11,.func (.func 100) #[] #[PT C0]),(12,.bool S0),(13,.bool T0),(14,.bool U0),(15,.bool V0),(16,.bool (decide (A0.To=0))),(36,SL R0 p1.L G0),(37,i6 (p1.L.length:Int)),(38,i6 D0),(151,.bool (I3 && (decide (A0.Kind=14))))]) 147 4 o u ?_ ?_ ?_
 intro hb o key
 exact qg o (Ae o Ca rfl) λo=>qg o (Af o isAgg3 rfl (u.ld.cellB t1 rfl)) λo=>qg o (Aq o rfl rfl) λo=>qk o (Ac o rfl rfl) key u hb
 intro hb o key
 iterate 3 refine qn o λo=>?_
 exact qk o (Ad o rfl rfl) key u hb
 intro a w o u
 refine qa o rfl λo=>re<|?_
 rcases bit hm with ⟨Q1,hm⟩ | ⟨Q1,hm⟩
 refine tn<|ctv o rfl Q1<|?_
 obtain ⟨K3,L3,hm⟩:=bs hm
 refine rg<|qv o (Ae o Ch rfl) λo=>qv o (Af o isAgg24 rfl (u.ld.cellB t0 rfl)) λo=>qm o rfl λo=>ls<|cr o call104 (JcD (Ah _) X1 (St.srH u Y0) L3) u λu o=>qa o rfl λo=>re<|bn<|tn<|?_
 replace u:=u.pk [0] rfl
 exact ⟨K3,hm,o.hs,u⟩
 refine tn<|cfv o rfl Q1<|th<|?_
 obtain ⟨n3,M3,hm⟩:=bs hm
 refine rg<|qm o rfl λo=>ls<|k1 (vs:=[.int .u8 116]) (caps:=[PT C0]) o rfl rfl call100 (El (Ah _) (Enc.mono (St.up u) (show Enc.rep (α:=api_Instr) H [i6 A0.Kind,i6 A0.A,i6 A0.B,SL I0 A0.E E0,SL J0 A0.F F0,i6 A0.To] A0 from ⟨_,_,rfl,rfl,⟨_,_,rfl,rfl,⟨_,_,rfl,rfl,⟨_,_,rfl,⟨_,_,rfl,M0,O0⟩,⟨_,_,rfl,⟨_,_,rfl,P0,Q0⟩,rfl⟩⟩⟩⟩⟩)) (St.blkO u t1) M3) ⟨rfl,trivial⟩ rfl (λv w a hR o=>?_)
 obtain ⟨rfl,hk⟩:=hR
 replace u:=u.pass hk
 refine qa o rfl λo=>re<|?_
 rcases bit hm with ⟨R1,hm⟩ | ⟨R1,hm⟩
 refine tn<|ctv o rfl R1<|rg<|qv o (Ae o Bq rfl) λo=>qv o (Af o isAgg3 rfl (u.ld.cellB t1 rfl)) λo=>qm o rfl λo=>qv o (Ba o rfl rfl) λo=>qm o rfl λo=>gr (Fk:=[(1,i6 p4),(2,i6 p5),(3,i6 p6),(4,PT K0),(12,.bool S0),(13,.bool T0),(14,.bool U0),(15,.bool V0),(36,SL R0 p1.L G0),(37,i6 (p1.L.length:Int)),(38,i6 D0),(170,.bool ((decide (D0 < A0.To)) && (decide (A0.To≤(p1.L.length:Int)))))]) 163 7 o u ?_ ?_ ?_
 intro hb o key
 exact qg o (Ae o Bq rfl) λo=>qg o (Af o isAgg3 rfl (u.ld.cellB t1 rfl)) λo=>qg o (Ae o Ch rfl) λo=>qg o (Af o isAgg24 rfl (u.ld.cellB t0 rfl)) λo=>qg o (Aj (α:=api_Instr) (xs:=p1.L) o runUnderlying24 rfl) λo=>qg o (Dt o rfl rfl) λo=>qk o (Ac o rfl rfl) key u hb
 intro hb o key
 iterate 6 refine qn o λo=>?_
 exact qk o (Ad o rfl rfl) key u hb
 intro a w o u
 refine qa o rfl λo=>re<|bn<|tn<|?_
 replace u:=u.pk [0] rfl
 exact ⟨((decide (D0 < A0.To)) && (decide (A0.To≤(p1.L.length:Int)))),hm,o.hs,u⟩
 refine tn<|cfv o rfl R1<|wk<|bn<|tn<|?_
 replace u:=u.pk [0] rfl
 exact ⟨(decide (A0.To=0)),hm,o.hs,u⟩
 rintro a w ⟨X0,hm,o,u⟩
 unfold Z8x at hm
 refine th<|rg<|qm o rfl λo=>qv o (A9 o rfl) λo=>qm o rfl λo=>gr (Fk:=[(1,i6 p4),(2,i6 p5),(3,i6 p6),(4,PT K0),(14,.bool U0),(15,.bool V0),(16,.bool X0),(36,SL R0 p1.L G0),(37,i6 (p1.L.length:Int)),(38,i6 D0),(176,.bool ((!S0) || (!T0)))]) 173 3 o u ?_ ?_ ?_
 intro hb o key
 iterate 2 refine qn o λo=>?_
 exact qk o (Ac o rfl rfl) key u hb
 intro hb o key
 exact qg o (Ab o rfl) λo=>qg o (A9 o rfl) λo=>qk o (Ad o rfl rfl) key u hb
 intro a w o u
 refine qm o rfl λo=>gr (Fk:=[(1,i6 p4),(2,i6 p5),(3,i6 p6),(4,PT K0),(15,.bool V0),(16,.bool X0),(36,SL R0 p1.L G0),(37,i6 (p1.L.length:Int)),(38,i6 D0),(180,.bool (((!S0) || (!T0)) || (!U0)))]) 177 3 o u ?_ ?_ ?_
 intro hb o key
 iterate 2 refine qn o λo=>?_
 exact qk o (Ac o rfl rfl) key u hb
 intro hb o key
 exact qg o (Ab o rfl) λo=>qg o (A9 o rfl) λo=>qk o (Ad o rfl rfl) key u hb
 intro a w o u
 refine qm o rfl λo=>gr (Fk:=[(1,i6 p4),(2,i6 p5),(3,i6 p6),(4,PT K0),(16,.bool X0),(36,SL R0 p1.L G0),(37,i6 (p1.L.length:Int)),(38,i6 D0),(184,.bool ((((!S0) || (!T0)) || (!U0)) || (!V0)))]) 181 3 o u ?_ ?_ ?_
 intro hb o key
 iterate 2 refine qn o λo=>?_
 exact qk o (Ac o rfl rfl) key u hb
 intro hb o key
 exact qg o (Ab o rfl) λo=>qg o (A9 o rfl) λo=>qk o (Ad o rfl rfl) key u hb
 intro a w o u
 refine qm o rfl λo=>gr (Fk:=[(1,i6 p4),(2,i6 p5),(3,i6 p6),(4,PT K0),(36,SL R0 p1.L G0),(37,i6 (p1.L.length:Int)),(38,i6 D0),(188,.bool (((((!S0) || (!T0)) || (!U0)) || (!V0)) || (!X0)))]) 185 3 o u ?_ ?_ ?_
 intro hb o key
 iterate 2 refine qn o λo=>?_
 exact qk o (Ac o rfl rfl) key u hb
 intro hb o key
 exact qg o (Ab o rfl) λo=>qg o (A9 o rfl) λo=>qk o (Ad o rfl rfl) key u hb
 intro a w o u
 refine re<|?_
 rcases bit hm with ⟨S1,hm⟩ | ⟨S1,hm⟩
 refine tn<|ctv o rfl S1<|th<|rg<|qa o rfl λo=>re<|tn<|wr<|br<|tr<|tr<|br<|tr<|?_
 obtain rfl:=si hm
 exact r1 o results62 rfl ⟨rfl,u.keep⟩
 refine tn<|cfv o rfl S1<|wk<|bn<|tn<|rg<|qv o (An o rfl rfl) λo=>qm o rfl λo=>re<|tn<|?_
 exact ⟨(W0,(IntKind.i64.wrap (D0+1))),⟨hm,o.hs,u⟩,Nat.lt_succ_self _⟩
 refine tn<|th<|cfv o rfl B1<|we<|tx<|tx<|bx<|tn<|?_
 exact ⟨hm,o.has ⟨rfl,trivial⟩,u⟩
 rintro a w ⟨hm,o,u⟩
 unfold Z8s at hm
 refine th<|?_
 obtain ⟨u3,O3,hm⟩:=bs hm
 refine rg<|qv o (Ae o Ch rfl) λo=>qv o (Af o isAgg24 rfl (u.ld.cellB t0 rfl)) λo=>ls<|cr o call105 (Jdz (Ah _) X1 (St.srH u Y0) O3) u λu o=>qa o rfl λo=>re<|tn<|wr<|?_
 obtain rfl:=si hm
 exact r1 o results62 rfl ⟨rfl,u.keep⟩
theorem Wm (hH:H.le w0) {cs2:List Value} {p1:api_Code} (g3:Enc.rep H cs2 p1) {cs6:List Value} {y5:api_Unit} (g7:Enc.rep H cs6 y5) {b4:Nat} (C0:H b4=some (.cells cs6.toArray 29 (0,0))) {r:Bool} (hm:Z92 N p1 y5=some r):Tot Tryz.prog 61 #[.agg cs2.toArray,PT b4] w0 (λv w'=>v=.bool r∧Keep Nil w0 w'):=by
 unfold Z92 at hm
 refine fn0 func61 rfl ntmps61 rfl rfl λa o=>?_
 have u:St w0 Nil [H] [] w0:=start1 hH
 have g9:Enc.rep (α:=(List Int)×Int×(List Int)×Int×(List api_Code)×api_Code×(List (List api_Op))) H cs6 (y5.Lines,y5.Stays,y5.Firsts,y5.Locks,y5.Threads,y5.Recover,y5.Claims):=g7
 obtain ⟨q10,q11,rfl,C1,D1⟩:=g9
 obtain ⟨K0,E0,rfl,M0,O0⟩:=C1
 obtain ⟨q18,q19,rfl,E1,F1⟩:=D1
 obtain rfl:q18=[i6 y5.Stays]:=E1
 obtain ⟨q22,q23,rfl,I1,J1⟩:=F1
 obtain ⟨P0,F0,rfl,Q0,R0⟩:=I1
 obtain ⟨q30,q31,rfl,O1,P1⟩:=J1
 obtain rfl:q30=[i6 y5.Locks]:=O1
 obtain ⟨q34,q35,rfl,Q1,R1⟩:=P1
 obtain ⟨S0,G0,rfl,T0,U0⟩:=Q1
 obtain ⟨q42,q43,rfl,S1,T1⟩:=R1
 obtain ⟨V0,I0,rfl,W0,X0⟩:=Am S1
 obtain ⟨Y0,J0,rfl,j0,n0⟩:=T1
 obtain ⟨D0,A0,rfl,u0,B1⟩:=Am g3
 refine th<|rg<|ls<|Br (cs:=[i6 p1.Regs,i6 p1.Counts,SL D0 p1.L A0].toArray) o rfl u rfl rfl λX1 w a u o=>qa o rfl λo=>re<|tn<|th<|?_
 obtain ⟨Y1,U1,hm⟩:=bs hm
 obtain ⟨u1,V1,hm⟩:=bs hm
 refine rdS 11 u wide λw u=>dq 0 u.ld o rfl (λw hl=>Ar o isAgg26 sizeOf26 rfl rfl (hl.cellsB t0)) λo=>dr 1 u o rfl (Ae o Cc rfl) λo=>dq 2 u.ld o rfl (λw hl=>Af o isAgg22 rfl (PH.le.cell (Lds.le hl) (Hr C0 rfl))) λo=>dr 3 u o rfl (Aj (α:=Int) (xs:=y5.Lines) o runUnderlying22 rfl) λo=>dq 4 u.ld o rfl (λw hl=>Ar o isAgg29 sizeOf29 rfl rfl (Jb4 (Lds.le hl) C0)) λo=>dr 6 u o rfl (Ae o Fa rfl) λo=>dq 7 u.ld o rfl (λw hl=>Af o isAgg3 rfl (PH.le.cell (Lds.le hl) (Hr C0 rfl))) λo=>da1 (i:=5) (by kernel_rfl) ?_
 refine di (i:=5) rfl<|cr o call63 (JcH (Ah _) (Enc.mono (St.up u) (show Enc.rep (α:=api_Unit) H [SL K0 y5.Lines E0,i6 y5.Stays,SL P0 y5.Firsts F0,i6 y5.Locks,SL S0 y5.Threads G0,i6 y5.Recover.Regs,i6 y5.Recover.Counts,SL V0 y5.Recover.L I0,SL Y0 y5.Claims J0] y5 from ⟨_,_,rfl,⟨_,_,rfl,M0,O0⟩,⟨_,_,rfl,rfl,⟨_,_,rfl,⟨_,_,rfl,Q0,R0⟩,⟨_,_,rfl,rfl,⟨_,_,rfl,⟨_,_,rfl,T0,U0⟩,⟨_,_,rfl,⟨_,_,rfl,rfl,⟨_,_,rfl,rfl,⟨_,_,rfl,W0,X0⟩⟩⟩,⟨_,_,rfl,j0,n0⟩⟩⟩⟩⟩⟩⟩)) U1) u λu o=>⟨λ_=>u.ld,?_⟩
 refine da1 (i:=8) (by kernel_rfl) ?_
 refine di (i:=8) rfl<|cr o call62 (JcJ (Ah _) (Enc.mono (St.up u) (show Enc.rep (α:=api_Code) H [i6 p1.Regs,i6 p1.Counts,SL D0 p1.L A0] p1 from ⟨_,_,rfl,rfl,⟨_,_,rfl,rfl,⟨_,_,rfl,u0,B1⟩⟩⟩)) V1) u λu o=>⟨λ_=>u.ld,?_⟩
 refine dr 9 u o rfl (A9 o rfl) λo=>dr 10 u o rfl (Bp o rfl) λo=>de (by kernel_rfl)<|tn<|wr<|?_
 obtain rfl:=si hm
 exact r1 o results61 rfl ⟨rfl,u.keep⟩
theorem Jdc (hH:H.le w0) {J0:Option Addr} {D0:Nat} {p1:(List api_Code)} (O2:p1.length≤D0) (T0:SR H J0 p1) {cs8:List Value} {y7:api_Unit} (g9:Enc.rep H cs8 y7) {b6:Nat} (U0:H b6=some (.cells cs8.toArray 29 (0,0))) {r:Int} (hm:Z9q N p1 y7=some r):Tot Tryz.prog 110 #[SL J0 p1 D0,.func (.func 61) #[] #[PT b6]] w0 (λv w'=>v=i6 r∧Keep Nil w0 w'):=by
 unfold Z9q at hm
 refine fn0 func110 rfl ntmps110 rfl rfl λa o=>?_
 have u:St w0 Nil [H] [] w0:=start1 hH
 have S1:Enc.rep (α:=(List Int)×Int×(List Int)×Int×(List api_Code)×api_Code×(List (List api_Op))) H cs8 (y7.Lines,y7.Stays,y7.Firsts,y7.Locks,y7.Threads,y7.Recover,y7.Claims):=g9
 obtain ⟨q12,q13,rfl,T1,U1⟩:=S1
 obtain ⟨V0,O0,rfl,W0,X0⟩:=T1
 obtain ⟨q20,q21,rfl,V1,X1⟩:=U1
 obtain rfl:q20=[i6 y7.Stays]:=V1
 obtain ⟨q24,q25,rfl,Y1,u1⟩:=X1
 obtain ⟨Y0,P0,rfl,j0,n0⟩:=Y1
 obtain ⟨q32,q33,rfl,B2,C2⟩:=u1
 obtain rfl:q32=[i6 y7.Locks]:=B2
 obtain ⟨q36,q37,rfl,E2,F2⟩:=C2
 obtain ⟨u0,Q0,rfl,B1,C1⟩:=E2
 obtain ⟨q44,q45,rfl,G2,I2⟩:=F2
 obtain ⟨D1,R0,rfl,E1,F1⟩:=Am G2
 obtain ⟨I1,S0,rfl,J1,O1⟩:=I2
 refine th<|rg<|qa o rfl λo=>re<|tn<|th<|th<|rg<|qm o rfl λo=>qv o (Aj (α:=api_Code) (xs:=p1) o runUnderlying23 rfl) λo=>qm o rfl λo=>re<|tn<|Av (λa w=>Z9r=some r∧Fr 19 [] a∧St w0 Nil [H] [] w) ?_ ?_
 refine wb<|lp (α:=Nat×Int) (λgh a w=>match gh with | (C0,G0)=>(Z9s N Z9r p1 y7) C0 G0=some r∧Fr 19 [(0,SL J0 p1 D0),(1,.func (.func 61) #[] #[PT b6]),(7,i6 (p1.length:Int)),(8,i6 G0)] a∧St w0 Nil [H] [] w) (λgh=>gh.1) (N,0) ⟨hm,o.hs,u⟩ ?_
 rintro ⟨C0,G0⟩ a w ⟨hm,o,u⟩
 obtain _ | C0:=C0
 simp [Z9s] at hm
 rw [Z9s] at hm
 refine th<|rg<|qv o (Ak o rfl rfl) λo=>re<|?_
 rcases bip hm with ⟨E0,hm⟩ | ⟨E0,hm⟩
 refine tn<|th<|ctv o rfl E0<|wk<|tn<|th<|wb<|th<|rg<|qm o rfl λo=>qa o rfl λo=>re<|tn<|th<|?_
 obtain ⟨A0,K0,hm⟩:=bs hm
 obtain ⟨P2,J2,P1⟩:=SR.get T0 K0
 obtain ⟨M0,I0,rfl,Q1,R1⟩:=Am J2
 obtain ⟨Q2,K2,hm⟩:=bs hm
 refine rg<|qm o rfl λo=>?_
 iterate 2 refine qm o rfl λo=>?_
 refine qv o (Al o runUnderlying23 sizeOf26 rfl rfl K0 (SR.oaI T0 (by decide) K0)) λo=>qv o (Ar o isAgg26 sizeOf26 rfl rfl (λj v hj=>PH.le.cell (Lds.le u.ld) (P1 j v hj))) λo=>ls<|k1 (vs:=[.agg #[i6 A0.Regs,i6 A0.Counts,SL M0 A0.L I0]]) (caps:=[PT b6]) o rfl rfl call61 (Wm (Ah _) (Enc.mono (St.up u) (show Enc.rep (α:=api_Code) H [i6 A0.Regs,i6 A0.Counts,SL M0 A0.L I0] A0 from ⟨_,_,rfl,rfl,⟨_,_,rfl,rfl,⟨_,_,rfl,Q1,R1⟩⟩⟩)) (Enc.mono (St.up u) (show Enc.rep (α:=api_Unit) H [SL V0 y7.Lines O0,i6 y7.Stays,SL Y0 y7.Firsts P0,i6 y7.Locks,SL u0 y7.Threads Q0,i6 y7.Recover.Regs,i6 y7.Recover.Counts,SL D1 y7.Recover.L R0,SL I1 y7.Claims S0] y7 from ⟨_,_,rfl,⟨_,_,rfl,W0,X0⟩,⟨_,_,rfl,rfl,⟨_,_,rfl,⟨_,_,rfl,j0,n0⟩,⟨_,_,rfl,rfl,⟨_,_,rfl,⟨_,_,rfl,B1,C1⟩,⟨_,_,rfl,⟨_,_,rfl,rfl,⟨_,_,rfl,rfl,⟨_,_,rfl,E1,F1⟩⟩⟩,⟨_,_,rfl,J1,O1⟩⟩⟩⟩⟩⟩⟩)) (St.up u _ _ U0) K2) ⟨rfl,trivial⟩ rfl (λv w a hR o=>?_)
 obtain ⟨rfl,hk⟩:=hR
 replace u:=u.pass hk
 refine re<|?_
 rcases bit hm with ⟨F0,hm⟩ | ⟨F0,hm⟩
 refine tn<|ctv o rfl F0<|th<|rg<|qm o rfl λo=>qa o rfl λo=>re<|tn<|wr<|br<|tr<|tr<|br<|tr<|?_
 obtain rfl:=si hm
 exact r1 o results110 rfl ⟨rfl,u.keep⟩
 refine tn<|cfv o rfl F0<|wk<|bn<|tn<|rg<|qv o (An o rfl rfl) λo=>qm o rfl λo=>re<|tn<|?_
 exact ⟨(C0,(IntKind.i64.wrap (G0+1))),⟨hm,o.hs,u⟩,Nat.lt_succ_self _⟩
 refine tn<|th<|cfv o rfl E0<|we<|tx<|tx<|bx<|tn<|?_
 exact ⟨hm,o.has trivial,u⟩
 rintro a w ⟨hm,o,u⟩
 unfold Z9r at hm
 refine th<|rg<|qa o rfl λo=>re<|tn<|wr<|?_
 obtain rfl:=si hm
 exact r1 o results110 rfl ⟨rfl,u.keep⟩
theorem Yp (hH:H.le w0) {I0:Option Addr} {A0:Nat} {p1:(List api_Code)} (u0:p1.length≤A0) (B1:SR H I0 p1) {cs8:List Value} {y7:api_Unit} (g9:Enc.rep H cs8 y7) {b6:Nat} (J0:H b6=some (.cells cs8.toArray 29 (0,0))) {r:Bool} (hm:Z9i N p1 y7=some r):Tot Tryz.prog 67 #[SL I0 p1 A0,.func (.func 61) #[] #[PT b6]] w0 (λv w'=>v=.bool r∧Keep Nil w0 w'):=by
 unfold Z9i at hm
 refine fn0 func67 rfl ntmps67 rfl rfl λa o=>?_
 have u:St w0 Nil [H] [] w0:=start1 hH
 have C1:Enc.rep (α:=(List Int)×Int×(List Int)×Int×(List api_Code)×api_Code×(List (List api_Op))) H cs8 (y7.Lines,y7.Stays,y7.Firsts,y7.Locks,y7.Threads,y7.Recover,y7.Claims):=g9
 obtain ⟨q12,q13,rfl,D1,E1⟩:=C1
 obtain ⟨K0,C0,rfl,M0,O0⟩:=D1
 obtain ⟨q20,q21,rfl,F1,I1⟩:=E1
 obtain rfl:q20=[i6 y7.Stays]:=F1
 obtain ⟨q24,q25,rfl,J1,O1⟩:=I1
 obtain ⟨P0,D0,rfl,Q0,R0⟩:=J1
 obtain ⟨q32,q33,rfl,P1,Q1⟩:=O1
 obtain rfl:q32=[i6 y7.Locks]:=P1
 obtain ⟨q36,q37,rfl,R1,S1⟩:=Q1
 obtain ⟨S0,E0,rfl,T0,U0⟩:=R1
 obtain ⟨q44,q45,rfl,T1,U1⟩:=S1
 obtain ⟨V0,F0,rfl,W0,X0⟩:=Am T1
 obtain ⟨Y0,G0,rfl,j0,n0⟩:=U1
 refine th<|rg<|qa o rfl λo=>re<|tn<|th<|?_
 obtain ⟨X1,V1,hm⟩:=bs hm
 refine rg<|qm o rfl λo=>qm o rfl λo=>ls<|cr o call110 (Jdc (Ah _) u0 (St.srH u B1) (Enc.mono (St.up u) (show Enc.rep (α:=api_Unit) H [SL K0 y7.Lines C0,i6 y7.Stays,SL P0 y7.Firsts D0,i6 y7.Locks,SL S0 y7.Threads E0,i6 y7.Recover.Regs,i6 y7.Recover.Counts,SL V0 y7.Recover.L F0,SL Y0 y7.Claims G0] y7 from ⟨_,_,rfl,⟨_,_,rfl,M0,O0⟩,⟨_,_,rfl,rfl,⟨_,_,rfl,⟨_,_,rfl,Q0,R0⟩,⟨_,_,rfl,rfl,⟨_,_,rfl,⟨_,_,rfl,T0,U0⟩,⟨_,_,rfl,⟨_,_,rfl,rfl,⟨_,_,rfl,rfl,⟨_,_,rfl,W0,X0⟩⟩⟩,⟨_,_,rfl,j0,n0⟩⟩⟩⟩⟩⟩⟩)) (St.up u _ _ J0) V1) u λu o=>qv o (Bo o rfl rfl) λo=>qa o rfl λo=>re<|tn<|wr<|?_
 obtain rfl:=si hm
 exact r1 o results67 rfl ⟨rfl,u.keep⟩
theorem Jc6 (hH:H.le w0) {C0:Option Addr} {A0:Nat} {p1:(List api_Op)} (E0:p1.length≤A0) (F0:SR H C0 p1) {cs8:List Value} {y7:api_Unit} (g9:Enc.rep H cs8 y7) {b6:Nat} (D0:H b6=some (.cells cs8.toArray 29 (0,0))) {r:Bool} (hm:Z93 N p1 y7=some r):Tot Tryz.prog 64 #[SL C0 p1 A0,PT b6] w0 (λv w'=>v=.bool r∧Keep Nil w0 w'):=by
 unfold Z93 at hm
 refine fn0 func64 rfl ntmps64 rfl rfl λa o=>?_
 have u:St w0 Nil [H] [] w0:=start1 hH
 have G0:Enc.rep (α:=(List Int)×Int×(List Int)×Int×(List api_Code)×api_Code×(List (List api_Op))) H cs8 (y7.Lines,y7.Stays,y7.Firsts,y7.Locks,y7.Threads,y7.Recover,y7.Claims):=g9
 obtain ⟨q12,q13,rfl,I0,J0⟩:=G0
 obtain ⟨B1,X0,rfl,C1,D1⟩:=I0
 obtain ⟨q20,q21,rfl,K0,M0⟩:=J0
 obtain rfl:q20=[i6 y7.Stays]:=K0
 obtain ⟨q24,q25,rfl,O0,P0⟩:=M0
 obtain ⟨E1,Y0,rfl,F1,I1⟩:=O0
 obtain ⟨q32,q33,rfl,Q0,R0⟩:=P0
 obtain rfl:q32=[i6 y7.Locks]:=Q0
 obtain ⟨q36,q37,rfl,S0,T0⟩:=R0
 obtain ⟨J1,j0,rfl,O1,P1⟩:=S0
 obtain ⟨q44,q45,rfl,U0,V0⟩:=T0
 obtain ⟨Q1,n0,rfl,R1,S1⟩:=Am U0
 obtain ⟨T1,u0,rfl,U1,V1⟩:=V0
 refine th<|rg<|qa o rfl λo=>re<|tn<|th<|?_
 obtain ⟨X1,W0,hm⟩:=bs hm
 refine rg<|qm o rfl λo=>qv o (Ae o Cr rfl) λo=>qv o (Af o isAgg3 rfl (PH.le.cell (Lds.le u.ld) (Hr D0 rfl))) λo=>ls<|cr o call65 (Pt (Ah _) E0 (St.srH u F0) W0) u λu o=>qv o (A9 o rfl) λo=>qa o rfl λo=>re<|tn<|wr<|?_
 obtain rfl:=si hm
 exact r1 o results64 rfl ⟨rfl,u.keep⟩
theorem JcQ (hH:H.le w0) {G0:Option Addr} {C0:Nat} {p1:(List (List api_Op))} (O2:p1.length≤C0) (R0:SR H G0 p1) {cs8:List Value} {y7:api_Unit} (g9:Enc.rep H cs8 y7) {b6:Nat} (S0:H b6=some (.cells cs8.toArray 29 (0,0))) {r:Int} (hm:Z9n N p1 y7=some r):Tot Tryz.prog 111 #[SL G0 p1 C0,.func (.func 64) #[] #[PT b6]] w0 (λv w'=>v=i6 r∧Keep Nil w0 w'):=by
 unfold Z9n at hm
 refine fn0 func111 rfl ntmps111 rfl rfl λa o=>?_
 have u:St w0 Nil [H] [] w0:=start1 hH
 have R1:Enc.rep (α:=(List Int)×Int×(List Int)×Int×(List api_Code)×api_Code×(List (List api_Op))) H cs8 (y7.Lines,y7.Stays,y7.Firsts,y7.Locks,y7.Threads,y7.Recover,y7.Claims):=g9
 obtain ⟨q12,q13,rfl,S1,T1⟩:=R1
 obtain ⟨T0,J0,rfl,U0,V0⟩:=S1
 obtain ⟨q20,q21,rfl,U1,V1⟩:=T1
 obtain rfl:q20=[i6 y7.Stays]:=U1
 obtain ⟨q24,q25,rfl,X1,Y1⟩:=V1
 obtain ⟨W0,K0,rfl,X0,Y0⟩:=X1
 obtain ⟨q32,q33,rfl,u1,B2⟩:=Y1
 obtain rfl:q32=[i6 y7.Locks]:=u1
 obtain ⟨q36,q37,rfl,C2,E2⟩:=B2
 obtain ⟨j0,M0,rfl,n0,u0⟩:=C2
 obtain ⟨q44,q45,rfl,F2,G2⟩:=E2
 obtain ⟨B1,O0,rfl,C1,D1⟩:=Am F2
 obtain ⟨E1,P0,rfl,F1,I1⟩:=G2
 refine th<|rg<|qa o rfl λo=>re<|tn<|th<|th<|rg<|qm o rfl λo=>qv o (Aj (α:=(List api_Op)) (xs:=p1) o runUnderlying27 rfl) λo=>qm o rfl λo=>re<|tn<|Av (λa w=>Z9o=some r∧Fr 19 [] a∧St w0 Nil [H] [] w) ?_ ?_
 refine wb<|lp (α:=Nat×Int) (λgh a w=>match gh with | (A0,F0)=>(Z9p N Z9o p1 y7) A0 F0=some r∧Fr 19 [(0,SL G0 p1 C0),(1,.func (.func 64) #[] #[PT b6]),(7,i6 (p1.length:Int)),(8,i6 F0)] a∧St w0 Nil [H] [] w) (λgh=>gh.1) (N,0) ⟨hm,o.hs,u⟩ ?_
 rintro ⟨A0,F0⟩ a w ⟨hm,o,u⟩
 obtain _ | A0:=A0
 simp [Z9p] at hm
 rw [Z9p] at hm
 refine th<|rg<|qv o (Ak o rfl rfl) λo=>re<|?_
 rcases bip hm with ⟨D0,hm⟩ | ⟨D0,hm⟩
 refine tn<|th<|ctv o rfl D0<|wk<|tn<|th<|wb<|th<|rg<|qm o rfl λo=>qa o rfl λo=>re<|tn<|th<|?_
 obtain ⟨I2,I0,hm⟩:=bs hm
 obtain ⟨P2,J2,J1⟩:=SR.get R0 I0
 obtain ⟨O1,Q0,rfl,P1,Q1⟩:=J2
 obtain ⟨Q2,K2,hm⟩:=bs hm
 refine rg<|qm o rfl λo=>?_
 iterate 2 refine qm o rfl λo=>?_
 refine qv o (Al o runUnderlying27 sizeOf54 rfl rfl I0 (SR.oaI R0 (by decide) I0)) λo=>qv o (Af o isAgg54 rfl (PH.le.cell (Lds.le u.ld) (J1 0 _ rfl))) λo=>ls<|k1 (vs:=[SL O1 I2 Q0]) (caps:=[PT b6]) o rfl rfl call64 (Jc6 (Ah _) P1 (St.srH u Q1) (Enc.mono (St.up u) (show Enc.rep (α:=api_Unit) H [SL T0 y7.Lines J0,i6 y7.Stays,SL W0 y7.Firsts K0,i6 y7.Locks,SL j0 y7.Threads M0,i6 y7.Recover.Regs,i6 y7.Recover.Counts,SL B1 y7.Recover.L O0,SL E1 y7.Claims P0] y7 from ⟨_,_,rfl,⟨_,_,rfl,U0,V0⟩,⟨_,_,rfl,rfl,⟨_,_,rfl,⟨_,_,rfl,X0,Y0⟩,⟨_,_,rfl,rfl,⟨_,_,rfl,⟨_,_,rfl,n0,u0⟩,⟨_,_,rfl,⟨_,_,rfl,rfl,⟨_,_,rfl,rfl,⟨_,_,rfl,C1,D1⟩⟩⟩,⟨_,_,rfl,F1,I1⟩⟩⟩⟩⟩⟩⟩)) (St.up u _ _ S0) K2) ⟨rfl,trivial⟩ rfl (λv w a hR o=>?_)
 obtain ⟨rfl,hk⟩:=hR
 replace u:=u.pass hk
 refine re<|?_
 rcases bit hm with ⟨E0,hm⟩ | ⟨E0,hm⟩
 refine tn<|ctv o rfl E0<|th<|rg<|qm o rfl λo=>qa o rfl λo=>re<|tn<|wr<|br<|tr<|tr<|br<|tr<|?_
 obtain rfl:=si hm
 exact r1 o results111 rfl ⟨rfl,u.keep⟩
 refine tn<|cfv o rfl E0<|wk<|bn<|tn<|rg<|qv o (An o rfl rfl) λo=>qm o rfl λo=>re<|tn<|?_
 exact ⟨(A0,(IntKind.i64.wrap (F0+1))),⟨hm,o.hs,u⟩,Nat.lt_succ_self _⟩
 refine tn<|th<|cfv o rfl D0<|we<|tx<|tx<|bx<|tn<|?_
 exact ⟨hm,o.has trivial,u⟩
 rintro a w ⟨hm,o,u⟩
 unfold Z9o at hm
 refine th<|rg<|qa o rfl λo=>re<|tn<|wr<|?_
 obtain rfl:=si hm
 exact r1 o results111 rfl ⟨rfl,u.keep⟩
theorem Jdd (hH:H.le w0) {I0:Option Addr} {A0:Nat} {p1:(List (List api_Op))} (u0:p1.length≤A0) (B1:SR H I0 p1) {cs8:List Value} {y7:api_Unit} (g9:Enc.rep H cs8 y7) {b6:Nat} (J0:H b6=some (.cells cs8.toArray 29 (0,0))) {r:Bool} (hm:Z9h N p1 y7=some r):Tot Tryz.prog 68 #[SL I0 p1 A0,.func (.func 64) #[] #[PT b6]] w0 (λv w'=>v=.bool r∧Keep Nil w0 w'):=by
 unfold Z9h at hm
 refine fn0 func68 rfl ntmps68 rfl rfl λa o=>?_
 have u:St w0 Nil [H] [] w0:=start1 hH
 have C1:Enc.rep (α:=(List Int)×Int×(List Int)×Int×(List api_Code)×api_Code×(List (List api_Op))) H cs8 (y7.Lines,y7.Stays,y7.Firsts,y7.Locks,y7.Threads,y7.Recover,y7.Claims):=g9
 obtain ⟨q12,q13,rfl,D1,E1⟩:=C1
 obtain ⟨K0,C0,rfl,M0,O0⟩:=D1
 obtain ⟨q20,q21,rfl,F1,I1⟩:=E1
 obtain rfl:q20=[i6 y7.Stays]:=F1
 obtain ⟨q24,q25,rfl,J1,O1⟩:=I1
 obtain ⟨P0,D0,rfl,Q0,R0⟩:=J1
 obtain ⟨q32,q33,rfl,P1,Q1⟩:=O1
 obtain rfl:q32=[i6 y7.Locks]:=P1
 obtain ⟨q36,q37,rfl,R1,S1⟩:=Q1
 obtain ⟨S0,E0,rfl,T0,U0⟩:=R1
 obtain ⟨q44,q45,rfl,T1,U1⟩:=S1
 obtain ⟨V0,F0,rfl,W0,X0⟩:=Am T1
 obtain ⟨Y0,G0,rfl,j0,n0⟩:=U1
 refine th<|rg<|qa o rfl λo=>re<|tn<|th<|?_
 obtain ⟨X1,V1,hm⟩:=bs hm
 refine rg<|qm o rfl λo=>qm o rfl λo=>ls<|cr o call111 (JcQ (Ah _) u0 (St.srH u B1) (Enc.mono (St.up u) (show Enc.rep (α:=api_Unit) H [SL K0 y7.Lines C0,i6 y7.Stays,SL P0 y7.Firsts D0,i6 y7.Locks,SL S0 y7.Threads E0,i6 y7.Recover.Regs,i6 y7.Recover.Counts,SL V0 y7.Recover.L F0,SL Y0 y7.Claims G0] y7 from ⟨_,_,rfl,⟨_,_,rfl,M0,O0⟩,⟨_,_,rfl,rfl,⟨_,_,rfl,⟨_,_,rfl,Q0,R0⟩,⟨_,_,rfl,rfl,⟨_,_,rfl,⟨_,_,rfl,T0,U0⟩,⟨_,_,rfl,⟨_,_,rfl,rfl,⟨_,_,rfl,rfl,⟨_,_,rfl,W0,X0⟩⟩⟩,⟨_,_,rfl,j0,n0⟩⟩⟩⟩⟩⟩⟩)) (St.up u _ _ J0) V1) u λu o=>qv o (Bo o rfl rfl) λo=>qa o rfl λo=>re<|tn<|wr<|?_
 obtain rfl:=si hm
 exact r1 o results68 rfl ⟨rfl,u.keep⟩
set_option maxHeartbeats 4000000 in
theorem JcZ (hH:H.le w0) {cs2:List Value} {p1:api_Unit} (g3:Enc.rep H cs2 p1) {r:Bool} (hm:Z90 N p1=some r):Tot Tryz.prog 21 #[.agg cs2.toArray] w0 (λv w'=>v=.bool r∧Keep Nil w0 w'):=by
 unfold Z90 at hm
 refine fn0 func21 rfl ntmps21 rfl rfl λa o=>?_
 have u:St w0 Nil [H] [] w0:=start1 hH
 have g4:Enc.rep (α:=(List Int)×Int×(List Int)×Int×(List api_Code)×api_Code×(List (List api_Op))) H cs2 (p1.Lines,p1.Stays,p1.Firsts,p1.Locks,p1.Threads,p1.Recover,p1.Claims):=g3
 obtain ⟨qz5,qz6,rfl,g7,g8⟩:=g4
 obtain ⟨J0,A0,rfl,j0,U0⟩:=g7
 obtain ⟨q13,q14,rfl,X1,Y1⟩:=g8
 obtain rfl:q13=[i6 p1.Stays]:=X1
 obtain ⟨q17,q18,rfl,u1,B2⟩:=Y1
 obtain ⟨K0,E0,rfl,P0,Q0⟩:=u1
 obtain ⟨q25,q26,rfl,C2,E2⟩:=B2
 obtain rfl:q25=[i6 p1.Locks]:=C2
 obtain ⟨q29,q30,rfl,F2,G2⟩:=E2
 obtain ⟨M0,F0,rfl,S0,T0⟩:=F2
 obtain ⟨q37,q38,rfl,I2,J2⟩:=G2
 obtain ⟨D0,C0,rfl,V0,W0⟩:=Am I2
 obtain ⟨O0,G0,rfl,X0,Y0⟩:=J2
 refine th<|rg<|ls<|Br (cs:=[SL J0 p1.Lines A0,i6 p1.Stays,SL K0 p1.Firsts E0,i6 p1.Locks,SL M0 p1.Threads F0,i6 p1.Recover.Regs,i6 p1.Recover.Counts,SL D0 p1.Recover.L C0,SL O0 p1.Claims G0].toArray) o rfl u rfl rfl λI0 w a u o=>qa o rfl λo=>re<|tn<|th<|th<|rg<|qv o (Ae o Cc rfl) λo=>qv o (Af o isAgg22 rfl (u.ld.cellB t0 rfl)) λo=>qv o (Aj (α:=Int) (xs:=p1.Lines) o runUnderlying22 rfl) λo=>qv o (Ba o rfl rfl) λo=>qm o rfl λo=>gr (Fk:=[(1,PT I0),(18,.bool ((decide (20 < (p1.Lines.length:Int))) || (decide (p1.Stays < 0))))]) 14 4 o u ?_ ?_ ?_
 intro hb o key
 iterate 3 refine qn o λo=>?_
 exact qk o (Ac o rfl rfl) key u hb
 intro hb o key
 exact qg o (Ae o Cr rfl) λo=>qg o (Af o isAgg3 rfl (u.ld.cellB t0 rfl)) λo=>qg o (Ak o rfl rfl) λo=>qk o (Ad o rfl rfl) key u hb
 intro a w o u
 refine qm o rfl λo=>gr (Fk:=[(1,PT I0),(26,.bool (((decide (20 < (p1.Lines.length:Int))) || (decide (p1.Stays < 0))) || (decide ((p1.Lines.length:Int) < p1.Stays))))]) 19 7 o u ?_ ?_ ?_
 intro hb o key
 iterate 6 refine qn o λo=>?_
 exact qk o (Ac o rfl rfl) key u hb
 intro hb o key
 exact qg o (Ae o Cr rfl) λo=>qg o (Af o isAgg3 rfl (u.ld.cellB t0 rfl)) λo=>qg o (Ae o Cc rfl) λo=>qg o (Af o isAgg22 rfl (u.ld.cellB t0 rfl)) λo=>qg o (Aj (α:=Int) (xs:=p1.Lines) o runUnderlying22 rfl) λo=>qg o (Ba o rfl rfl) λo=>qk o (Ad o rfl rfl) key u hb
 intro a w o u
 refine qm o rfl λo=>gr (Fk:=[(1,PT I0),(35,.bool ((((decide (20 < (p1.Lines.length:Int))) || (decide (p1.Stays < 0))) || (decide ((p1.Lines.length:Int) < p1.Stays))) || (decide ((p1.Firsts.length:Int)≠(p1.Lines.length:Int)))))]) 27 8 o u ?_ ?_ ?_
 intro hb o key
 iterate 7 refine qn o λo=>?_
 exact qk o (Ac o rfl rfl) key u hb
 intro hb o key
 exact qg o (Ae o Ei rfl) λo=>qg o (Af o isAgg22 rfl (u.ld.cellB t0 rfl)) λo=>qg o (Aj (α:=Int) (xs:=p1.Firsts) o runUnderlying22 rfl) λo=>qg o (Ae o Cc rfl) λo=>qg o (Af o isAgg22 rfl (u.ld.cellB t0 rfl)) λo=>qg o (Aj (α:=Int) (xs:=p1.Lines) o runUnderlying22 rfl) λo=>qg o (Bh o rfl rfl) λo=>qk o (Ad o rfl rfl) key u hb
 intro a w o u
 refine qm o rfl λo=>gr (Fk:=[(1,PT I0),(40,.bool (((((decide (20 < (p1.Lines.length:Int))) || (decide (p1.Stays < 0))) || (decide ((p1.Lines.length:Int) < p1.Stays))) || (decide ((p1.Firsts.length:Int)≠(p1.Lines.length:Int)))) || (decide (p1.Locks < 0))))]) 36 4 o u ?_ ?_ ?_
 intro hb o key
 iterate 3 refine qn o λo=>?_
 exact qk o (Ac o rfl rfl) key u hb
 intro hb o key
 exact qg o (Ae o Fa rfl) λo=>qg o (Af o isAgg3 rfl (u.ld.cellB t0 rfl)) λo=>qg o (Ak o rfl rfl) λo=>qk o (Ad o rfl rfl) key u hb
 intro a w o u
 refine qm o rfl λo=>gr (Fk:=[(1,PT I0),(45,.bool ((((((decide (20 < (p1.Lines.length:Int))) || (decide (p1.Stays < 0))) || (decide ((p1.Lines.length:Int) < p1.Stays))) || (decide ((p1.Firsts.length:Int)≠(p1.Lines.length:Int)))) || (decide (p1.Locks < 0))) || (decide (2 < p1.Locks))))]) 41 4 o u ?_ ?_ ?_
 intro hb o key
 iterate 3 refine qn o λo=>?_
 exact qk o (Ac o rfl rfl) key u hb
 intro hb o key
 exact qg o (Ae o Fa rfl) λo=>qg o (Af o isAgg3 rfl (u.ld.cellB t0 rfl)) λo=>qg o (Ba o rfl rfl) λo=>qk o (Ad o rfl rfl) key u hb
 intro a w o u
 refine qm o rfl λo=>gr (Fk:=[(1,PT I0),(51,.bool (((((((decide (20 < (p1.Lines.length:Int))) || (decide (p1.Stays < 0))) || (decide ((p1.Lines.length:Int) < p1.Stays))) || (decide ((p1.Firsts.length:Int)≠(p1.Lines.length:Int)))) || (decide (p1.Locks < 0))) || (decide (2 < p1.Locks))) || (decide ((p1.Threads.length:Int) < 1))))]) 46 5 o u ?_ ?_ ?_
 intro hb o key
 iterate 4 refine qn o λo=>?_
 exact qk o (Ac o rfl rfl) key u hb
 intro hb o key
 exact qg o (Ae o Cg rfl) λo=>qg o (Af o isAgg23 rfl (u.ld.cellB t0 rfl)) λo=>qg o (Aj (α:=api_Code) (xs:=p1.Threads) o runUnderlying23 rfl) λo=>qg o (Ak o rfl rfl) λo=>qk o (Ad o rfl rfl) key u hb
 intro a w o u
 refine qm o rfl λo=>gr (Fk:=[(1,PT I0),(57,.bool ((((((((decide (20 < (p1.Lines.length:Int))) || (decide (p1.Stays < 0))) || (decide ((p1.Lines.length:Int) < p1.Stays))) || (decide ((p1.Firsts.length:Int)≠(p1.Lines.length:Int)))) || (decide (p1.Locks < 0))) || (decide (2 < p1.Locks))) || (decide ((p1.Threads.length:Int) < 1))) || (decide (3 < (p1.Threads.length:Int)))))]) 52 5 o u ?_ ?_ ?_
 intro hb o key
 iterate 4 refine qn o λo=>?_
 exact qk o (Ac o rfl rfl) key u hb
 intro hb o key
 exact qg o (Ae o Cg rfl) λo=>qg o (Af o isAgg23 rfl (u.ld.cellB t0 rfl)) λo=>qg o (Aj (α:=api_Code) (xs:=p1.Threads) o runUnderlying23 rfl) λo=>qg o (Ba o rfl rfl) λo=>qk o (Ad o rfl rfl) key u hb
 intro a w o u
 refine re<|?_
 rcases bit hm with ⟨C1,hm⟩ | ⟨C1,hm⟩
 refine tn<|ctv o rfl C1<|th<|rg<|qa o rfl λo=>re<|tn<|wr<|tr<|?_
 obtain rfl:=si hm
 exact r1 o results21 rfl ⟨rfl,u.keep⟩
 refine tn<|cfv o rfl C1<|wk<|tn<|th<|rg<|qa o rfl λo=>re<|tn<|th<|th<|rg<|qv o (Ae o Cc rfl) λo=>qv o (Af o isAgg22 rfl (u.ld.cellB t0 rfl)) λo=>qv o (Aj (α:=Int) (xs:=p1.Lines) o runUnderlying22 rfl) λo=>qm o rfl λo=>re<|tn<|Av (λa w=>(Z94 N p1)=some r∧Fr 117 [(1,PT I0)] a∧St w0 Nil [H] [bk I0 [SL J0 p1.Lines A0,i6 p1.Stays,SL K0 p1.Firsts E0,i6 p1.Locks,SL M0 p1.Threads F0,i6 p1.Recover.Regs,i6 p1.Recover.Counts,SL D0 p1.Recover.L C0,SL O0 p1.Claims G0] 29] w) ?_ ?_
 refine wb<|lp (α:=Nat×Int×Int) (λgh a w=>match gh with | (B1,n0,R0)=>(Z95 N (Z94 N p1) p1) B1 n0 R0=some r∧Fr 117 [(1,PT I0),(3,i6 n0),(59,SL J0 p1.Lines A0),(60,i6 (p1.Lines.length:Int)),(61,i6 R0)] a∧St w0 Nil [H] [bk I0 [SL J0 p1.Lines A0,i6 p1.Stays,SL K0 p1.Firsts E0,i6 p1.Locks,SL M0 p1.Threads F0,i6 p1.Recover.Regs,i6 p1.Recover.Counts,SL D0 p1.Recover.L C0,SL O0 p1.Claims G0] 29] w) (λgh=>gh.1) (N,(-1),0) ⟨hm,o.hs,u⟩ ?_
 rintro ⟨B1,n0,R0⟩ a w ⟨hm,o,u⟩
 obtain _ | B1:=B1
 simp [Z95] at hm
 rw [Z95] at hm
 refine th<|rg<|qv o (Ak o rfl rfl) λo=>re<|?_
 rcases bip hm with ⟨D1,hm⟩ | ⟨D1,hm⟩
 refine tn<|th<|ctv o rfl D1<|wk<|tn<|th<|wb<|th<|?_
 obtain ⟨u0,P1,hm⟩:=bs hm
 obtain ⟨K2,O2,V1⟩:=SR.get U0 P1
 obtain rfl:K2=[i6 u0]:=O2
 refine rg<|qm o rfl λo=>qv o (Al o runUnderlying22 sizeOf3 rfl rfl P1 (SR.oaI U0 (by decide) P1)) λo=>qv o (Af o isAgg3 rfl (PH.le.cell (Lds.le u.ld) (V1 0 _ rfl))) λo=>?_
 iterate 2 refine qa o rfl λo=>?_
 refine re<|tn<|th<|rg<|qm o rfl λo=>qv o (Ba o rfl rfl) λo=>qm o rfl λo=>gr (Fk:=[(1,PT I0),(3,i6 n0),(5,i6 u0),(59,SL J0 p1.Lines A0),(60,i6 (p1.Lines.length:Int)),(61,i6 R0),(73,.bool ((decide (0 < R0)) && (decide (R0 < p1.Stays))))]) 68 5 o u ?_ ?_ ?_
 intro hb o key
 exact qg o (Ab o rfl) λo=>qg o (Ae o Cr rfl) λo=>qg o (Af o isAgg3 rfl (u.ld.cellB t0 rfl)) λo=>qg o (Ak o rfl rfl) λo=>qk o (Ac o rfl rfl) key u hb
 intro hb o key
 iterate 4 refine qn o λo=>?_
 exact qk o (Ad o rfl rfl) key u hb
 intro a w o u
 refine qm o rfl λo=>gr (Fk:=[(1,PT I0),(3,i6 n0),(5,i6 u0),(59,SL J0 p1.Lines A0),(60,i6 (p1.Lines.length:Int)),(61,i6 R0),(78,.bool (((decide (0 < R0)) && (decide (R0 < p1.Stays))) && (decide (u0=n0))))]) 74 4 o u ?_ ?_ ?_
 intro hb o key
 iterate 2 refine qg o (Ab o rfl) λo=>?_
 exact qg o (Aq o rfl rfl) λo=>qk o (Ac o rfl rfl) key u hb
 intro hb o key
 iterate 3 refine qn o λo=>?_
 exact qk o (Ad o rfl rfl) key u hb
 intro a w o u
 refine qa o rfl λo=>re<|tn<|th<|th<|rg<|qm o rfl λo=>qv o (A9 o rfl) λo=>qm o rfl λo=>gr (Fk:=[(1,PT I0),(5,i6 u0),(59,SL J0 p1.Lines A0),(60,i6 (p1.Lines.length:Int)),(61,i6 R0),(86,.bool ((!(((decide (0 < R0)) && (decide (R0 < p1.Stays))) && (decide (u0=n0)))) && (decide (u0≠(IntKind.i64.wrap (n0+1))))))]) 81 5 o u ?_ ?_ ?_
 intro hb o key
 iterate 2 refine qg o (Ab o rfl) λo=>?_
 exact qg o (An o rfl rfl) λo=>qg o (Bh o rfl rfl) λo=>qk o (Ac o rfl rfl) key u hb
 intro hb o key
 iterate 4 refine qn o λo=>?_
 exact qk o (Ad o rfl rfl) key u hb
 intro a w o u
 refine re<|?_
 rcases bit hm with ⟨E1,hm⟩ | ⟨E1,hm⟩
 refine tn<|ctv o rfl E1<|th<|rg<|qa o rfl λo=>re<|tn<|wr<|tr<|br<|tr<|tr<|br<|tr<|?_
 obtain rfl:=si hm
 exact r1 o results21 rfl ⟨rfl,u.keep⟩
 refine tn<|cfv o rfl E1<|wk<|tn<|rg<|qm o rfl λo=>qa o rfl λo=>re<|bn<|tn<|rg<|qv o (An o rfl rfl) λo=>qm o rfl λo=>re<|tn<|?_
 exact ⟨(B1,u0,(IntKind.i64.wrap (R0+1))),⟨hm,o.hs,u⟩,Nat.lt_succ_self _⟩
 refine tn<|th<|cfv o rfl D1<|we<|tx<|tx<|bx<|tn<|?_
 exact ⟨hm,o.has ⟨rfl,trivial⟩,u⟩
 rintro a w ⟨hm,o,u⟩
 unfold Z94 at hm
 refine th<|rg<|qa o rfl λo=>re<|tn<|th<|rg<|qv o (Pv (vs:=[PT I0]) o ⟨rfl,trivial⟩) λo=>qa o rfl λo=>re<|tn<|th<|rg<|qv o (Pv (vs:=[PT I0]) o ⟨rfl,trivial⟩) λo=>qa o rfl λo=>re<|tn<|th<|?_
 obtain ⟨R1,O1,hm⟩:=bs hm
 rcases bit hm with ⟨F1,hm⟩ | ⟨F1,hm⟩
 have F1':(!R1)=false:=by rw [F1];rfl
 refine rg<|qv o (Ae o Ei rfl) λo=>qv o (Af o isAgg22 rfl (u.ld.cellB t0 rfl)) λo=>qm o rfl λo=>ls<|cr o call66 (Tu (Ah _) P0 (St.srH u Q0) O1) u λu o=>qv o (A9 o rfl) λo=>qv o (Ax (Ab o rfl) (congrArg Value.bool F1')) λo=>?_
 iterate 5 refine qn o λo=>?_
 refine qv o (Ad o rfl rfl) λo=>qm o rfl λo=>?_
 iterate 5 refine qn o λo=>?_
 refine qv o (Ad o rfl rfl) λo=>qm o rfl λo=>?_
 iterate 5 refine qn o λo=>?_
 refine qv o (Ad o rfl rfl) λo=>qa o rfl λo=>re<|tn<|wr<|?_
 obtain rfl:=si hm
 exact r1 o results21 rfl ⟨rfl,u.keep⟩
 have F1':(!R1)=true:=by rw [F1];rfl
 obtain ⟨S1,Q1,hm⟩:=bs hm
 rcases bit hm with ⟨I1,hm⟩ | ⟨I1,hm⟩
 have I1':(!S1)=false:=by rw [I1];rfl
 refine rg<|qv o (Ae o Ei rfl) λo=>qv o (Af o isAgg22 rfl (u.ld.cellB t0 rfl)) λo=>qm o rfl λo=>ls<|cr o call66 (Tu (Ah _) P0 (St.srH u Q0) O1) u λu o=>qv o (A9 o rfl) λo=>qv o (Ax (Ab o rfl) (congrArg Value.bool F1')) λo=>qg o (Ae o Cg rfl) λo=>qg o (Af o isAgg23 rfl (u.ld.cellB t0 rfl)) λo=>qg o (Ab o rfl) λo=>ls<|gy o rfl rfl<|cr o call67 (Yp (Ah _) S0 (St.srH u T0) (Enc.mono (St.up u) (show Enc.rep (α:=api_Unit) H [SL J0 p1.Lines A0,i6 p1.Stays,SL K0 p1.Firsts E0,i6 p1.Locks,SL M0 p1.Threads F0,i6 p1.Recover.Regs,i6 p1.Recover.Counts,SL D0 p1.Recover.L C0,SL O0 p1.Claims G0] p1 from ⟨_,_,rfl,⟨_,_,rfl,j0,U0⟩,⟨_,_,rfl,rfl,⟨_,_,rfl,⟨_,_,rfl,P0,Q0⟩,⟨_,_,rfl,rfl,⟨_,_,rfl,⟨_,_,rfl,S0,T0⟩,⟨_,_,rfl,⟨_,_,rfl,rfl,⟨_,_,rfl,rfl,⟨_,_,rfl,V0,W0⟩⟩⟩,⟨_,_,rfl,X0,Y0⟩⟩⟩⟩⟩⟩⟩)) (St.blkO u t0) Q1) u λu o=>qg o (A9 o rfl) λo=>qv o (Ac o rfl rfl) λo=>qv o (Ax (Ab o rfl) (congrArg Value.bool I1')) λo=>?_
 iterate 5 refine qn o λo=>?_
 refine qv o (Ad o rfl rfl) λo=>qm o rfl λo=>?_
 iterate 5 refine qn o λo=>?_
 refine qv o (Ad o rfl rfl) λo=>qa o rfl λo=>re<|tn<|wr<|?_
 obtain rfl:=si hm
 exact r1 o results21 rfl ⟨rfl,u.keep⟩
 have I1':(!S1)=true:=by rw [I1];rfl
 obtain ⟨T1,U1,hm⟩:=bs hm
 rcases bit hm with ⟨J1,hm⟩ | ⟨J1,hm⟩
 have J1':(!T1)=false:=by rw [J1];rfl
 refine rg<|qv o (Ae o Ei rfl) λo=>qv o (Af o isAgg22 rfl (u.ld.cellB t0 rfl)) λo=>qm o rfl λo=>ls<|cr o call66 (Tu (Ah _) P0 (St.srH u Q0) O1) u λu o=>qv o (A9 o rfl) λo=>qv o (Ax (Ab o rfl) (congrArg Value.bool F1')) λo=>qg o (Ae o Cg rfl) λo=>qg o (Af o isAgg23 rfl (u.ld.cellB t0 rfl)) λo=>qg o (Ab o rfl) λo=>ls<|gy o rfl rfl<|cr o call67 (Yp (Ah _) S0 (St.srH u T0) (Enc.mono (St.up u) (show Enc.rep (α:=api_Unit) H [SL J0 p1.Lines A0,i6 p1.Stays,SL K0 p1.Firsts E0,i6 p1.Locks,SL M0 p1.Threads F0,i6 p1.Recover.Regs,i6 p1.Recover.Counts,SL D0 p1.Recover.L C0,SL O0 p1.Claims G0] p1 from ⟨_,_,rfl,⟨_,_,rfl,j0,U0⟩,⟨_,_,rfl,rfl,⟨_,_,rfl,⟨_,_,rfl,P0,Q0⟩,⟨_,_,rfl,rfl,⟨_,_,rfl,⟨_,_,rfl,S0,T0⟩,⟨_,_,rfl,⟨_,_,rfl,rfl,⟨_,_,rfl,rfl,⟨_,_,rfl,V0,W0⟩⟩⟩,⟨_,_,rfl,X0,Y0⟩⟩⟩⟩⟩⟩⟩)) (St.blkO u t0) Q1) u λu o=>qg o (A9 o rfl) λo=>qv o (Ac o rfl rfl) λo=>qv o (Ax (Ab o rfl) (congrArg Value.bool I1')) λo=>qg o (Ab o rfl) λo=>qg o (Ae o Hk rfl) λo=>qg o (Ar o isAgg26 sizeOf26 rfl rfl (Lds.cellsP (pre:=[SL J0 p1.Lines A0,i6 p1.Stays,SL K0 p1.Firsts E0,i6 p1.Locks,SL M0 p1.Threads F0]) (vs:=[i6 p1.Recover.Regs,i6 p1.Recover.Counts,SL D0 p1.Recover.L C0]) (post:=[SL O0 p1.Claims G0]) u.ld t0)) λo=>ls<|gy o rfl rfl<|k1 (vs:=[.agg #[i6 p1.Recover.Regs,i6 p1.Recover.Counts,SL D0 p1.Recover.L C0]]) (caps:=[PT I0]) o rfl rfl call61 (Wm (Ah _) (Enc.mono (St.up u) (show Enc.rep (α:=api_Code) H [i6 p1.Recover.Regs,i6 p1.Recover.Counts,SL D0 p1.Recover.L C0] p1.Recover from ⟨_,_,rfl,rfl,⟨_,_,rfl,rfl,⟨_,_,rfl,V0,W0⟩⟩⟩)) (Enc.mono (St.up u) (show Enc.rep (α:=api_Unit) H [SL J0 p1.Lines A0,i6 p1.Stays,SL K0 p1.Firsts E0,i6 p1.Locks,SL M0 p1.Threads F0,i6 p1.Recover.Regs,i6 p1.Recover.Counts,SL D0 p1.Recover.L C0,SL O0 p1.Claims G0] p1 from ⟨_,_,rfl,⟨_,_,rfl,j0,U0⟩,⟨_,_,rfl,rfl,⟨_,_,rfl,⟨_,_,rfl,P0,Q0⟩,⟨_,_,rfl,rfl,⟨_,_,rfl,⟨_,_,rfl,S0,T0⟩,⟨_,_,rfl,⟨_,_,rfl,rfl,⟨_,_,rfl,rfl,⟨_,_,rfl,V0,W0⟩⟩⟩,⟨_,_,rfl,X0,Y0⟩⟩⟩⟩⟩⟩⟩)) (St.blkO u t0) U1) ⟨rfl,trivial⟩ rfl (λv w a hR o=>?_)
 obtain ⟨rfl,hk⟩:=hR
 replace u:=u.pass hk
 refine qg o (A9 o rfl) λo=>qv o (Ac o rfl rfl) λo=>qv o (Ax (Ab o rfl) (congrArg Value.bool J1')) λo=>?_
 iterate 5 refine qn o λo=>?_
 refine qv o (Ad o rfl rfl) λo=>qa o rfl λo=>re<|tn<|wr<|?_
 obtain rfl:=si hm
 exact r1 o results21 rfl ⟨rfl,u.keep⟩
 have J1':(!T1)=true:=by rw [J1];rfl
 obtain ⟨Q2,P2,hm⟩:=bs hm
 refine rg<|qv o (Ae o Ei rfl) λo=>qv o (Af o isAgg22 rfl (u.ld.cellB t0 rfl)) λo=>qm o rfl λo=>ls<|cr o call66 (Tu (Ah _) P0 (St.srH u Q0) O1) u λu o=>qv o (A9 o rfl) λo=>qv o (Ax (Ab o rfl) (congrArg Value.bool F1')) λo=>qg o (Ae o Cg rfl) λo=>qg o (Af o isAgg23 rfl (u.ld.cellB t0 rfl)) λo=>qg o (Ab o rfl) λo=>ls<|gy o rfl rfl<|cr o call67 (Yp (Ah _) S0 (St.srH u T0) (Enc.mono (St.up u) (show Enc.rep (α:=api_Unit) H [SL J0 p1.Lines A0,i6 p1.Stays,SL K0 p1.Firsts E0,i6 p1.Locks,SL M0 p1.Threads F0,i6 p1.Recover.Regs,i6 p1.Recover.Counts,SL D0 p1.Recover.L C0,SL O0 p1.Claims G0] p1 from ⟨_,_,rfl,⟨_,_,rfl,j0,U0⟩,⟨_,_,rfl,rfl,⟨_,_,rfl,⟨_,_,rfl,P0,Q0⟩,⟨_,_,rfl,rfl,⟨_,_,rfl,⟨_,_,rfl,S0,T0⟩,⟨_,_,rfl,⟨_,_,rfl,rfl,⟨_,_,rfl,rfl,⟨_,_,rfl,V0,W0⟩⟩⟩,⟨_,_,rfl,X0,Y0⟩⟩⟩⟩⟩⟩⟩)) (St.blkO u t0) Q1) u λu o=>qg o (A9 o rfl) λo=>qv o (Ac o rfl rfl) λo=>qv o (Ax (Ab o rfl) (congrArg Value.bool I1')) λo=>qg o (Ab o rfl) λo=>qg o (Ae o Hk rfl) λo=>qg o (Ar o isAgg26 sizeOf26 rfl rfl (Lds.cellsP (pre:=[SL J0 p1.Lines A0,i6 p1.Stays,SL K0 p1.Firsts E0,i6 p1.Locks,SL M0 p1.Threads F0]) (vs:=[i6 p1.Recover.Regs,i6 p1.Recover.Counts,SL D0 p1.Recover.L C0]) (post:=[SL O0 p1.Claims G0]) u.ld t0)) λo=>ls<|gy o rfl rfl<|k1 (vs:=[.agg #[i6 p1.Recover.Regs,i6 p1.Recover.Counts,SL D0 p1.Recover.L C0]]) (caps:=[PT I0]) o rfl rfl call61 (Wm (Ah _) (Enc.mono (St.up u) (show Enc.rep (α:=api_Code) H [i6 p1.Recover.Regs,i6 p1.Recover.Counts,SL D0 p1.Recover.L C0] p1.Recover from ⟨_,_,rfl,rfl,⟨_,_,rfl,rfl,⟨_,_,rfl,V0,W0⟩⟩⟩)) (Enc.mono (St.up u) (show Enc.rep (α:=api_Unit) H [SL J0 p1.Lines A0,i6 p1.Stays,SL K0 p1.Firsts E0,i6 p1.Locks,SL M0 p1.Threads F0,i6 p1.Recover.Regs,i6 p1.Recover.Counts,SL D0 p1.Recover.L C0,SL O0 p1.Claims G0] p1 from ⟨_,_,rfl,⟨_,_,rfl,j0,U0⟩,⟨_,_,rfl,rfl,⟨_,_,rfl,⟨_,_,rfl,P0,Q0⟩,⟨_,_,rfl,rfl,⟨_,_,rfl,⟨_,_,rfl,S0,T0⟩,⟨_,_,rfl,⟨_,_,rfl,rfl,⟨_,_,rfl,rfl,⟨_,_,rfl,V0,W0⟩⟩⟩,⟨_,_,rfl,X0,Y0⟩⟩⟩⟩⟩⟩⟩)) (St.blkO u t0) U1) ⟨rfl,trivial⟩ rfl (λv w a hR o=>?_)
 obtain ⟨rfl,hk⟩:=hR
 replace u:=u.pass hk
 refine qg o (A9 o rfl) λo=>qv o (Ac o rfl rfl) λo=>qv o (Ax (Ab o rfl) (congrArg Value.bool J1')) λo=>qg o (Ae o Dm rfl) λo=>qg o (Af o isAgg27 rfl (u.ld.cellB t0 rfl)) λo=>qg o (Ab o rfl) λo=>ls<|gy o rfl rfl<|cr o call68 (Jdd (Ah _) X0 (St.srH u Y0) (Enc.mono (St.up u) (show Enc.rep (α:=api_Unit) H [SL J0 p1.Lines A0,i6 p1.Stays,SL K0 p1.Firsts E0,i6 p1.Locks,SL M0 p1.Threads F0,i6 p1.Recover.Regs,i6 p1.Recover.Counts,SL D0 p1.Recover.L C0,SL O0 p1.Claims G0] p1 from ⟨_,_,rfl,⟨_,_,rfl,j0,U0⟩,⟨_,_,rfl,rfl,⟨_,_,rfl,⟨_,_,rfl,P0,Q0⟩,⟨_,_,rfl,rfl,⟨_,_,rfl,⟨_,_,rfl,S0,T0⟩,⟨_,_,rfl,⟨_,_,rfl,rfl,⟨_,_,rfl,rfl,⟨_,_,rfl,V0,W0⟩⟩⟩,⟨_,_,rfl,X0,Y0⟩⟩⟩⟩⟩⟩⟩)) (St.blkO u t0) P2) u λu o=>qg o (A9 o rfl) λo=>qv o (Ac o rfl rfl) λo=>qa o rfl λo=>re<|tn<|wr<|?_
 obtain rfl:=si hm
 exact r1 o results21 rfl ⟨rfl,u.keep⟩
theorem JbW (hH:H.le w0) {p1:Int} {r:Str} (hm:Za N p1=some r):Tot Tryz.prog 43 #[i6 p1] w0 (λv w'=>v=Ag r∧Keep Nil w0 w'):=by
 unfold Za at hm
 refine fn0 func43 rfl ntmps43 rfl rfl λa o=>?_
 have u:St w0 Nil [H] [] w0:=start1 hH
 refine th<|rg<|qa o rfl λo=>re<|tn<|th<|th<|rg<|qm o rfl λo=>qv o (Ak o rfl rfl) λo=>qm o rfl λo=>gr (Fk:=[(0,i6 p1),(9,.bool ((decide (p1 < 0)) || (decide (1099511627776 < p1))))]) 6 3 o u ?_ ?_ ?_
 intro hb o key
 iterate 2 refine qn o λo=>?_
 exact qk o (Ac o rfl rfl) key u hb
 intro hb o key
 exact qg o (Ab o rfl) λo=>qg o (Ba o rfl rfl) λo=>qk o (Ad o rfl rfl) key u hb
 intro a w o u
 refine re<|?_
 rcases bit hm with ⟨I0,hm⟩ | ⟨I0,hm⟩
 refine tn<|ctv o rfl I0<|th<|rg<|qa o rfl λo=>re<|tn<|wr<|tr<|?_
 obtain rfl:=si hm
 exact r1 o results43 rfl ⟨rfl,u.keep⟩
 refine tn<|cfv o rfl I0<|wk<|tn<|th<|rg<|ls<|As (cs:=[.pointer none,.slice none 0 0].toArray) o rfl u Tryz.zeroValue58 rfl λb3 w a u o=>?_
 replace u:=u.bld0 (e:=5)
 refine re<|tn<|th<|Av (λa w=>∃ (J0:Int) (K0:Str) (M0:Option Addr) (E0:Nat) (vpA5:Value),Zb J0 K0=some r∧Fr 23 [(0,i6 J0),(3,PT b3)] a∧St w0 Nil [H] [bldA 58 5 b3 vpA5 M0 E0 K0] w∧BP b3 vpA5) ?_ ?_
 refine wb<|lp (α:=Nat×Int×Str) (λgh a w=>match gh with | (C0,F0,G0)=>∃ (D0:Option Addr) (A0:Nat) (vpB5:Value),(Zc N Zb) C0 F0 G0=some r∧Fr 23 [(0,i6 F0),(3,PT b3)] a∧St w0 Nil [H] [bldA 58 5 b3 vpB5 D0 A0 G0] w∧BP b3 vpB5) (λgh=>gh.1) (N,p1,[]) ⟨none,0,(.pointer none),hm,o.has ⟨rfl,rfl,trivial⟩,u,(.inl rfl)⟩ ?_
 rintro ⟨C0,F0,G0⟩ a w ⟨D0,A0,vpB5,hm,o,u,hbB6⟩
 obtain _ | C0:=C0
 simp [Zc] at hm
 rw [Zc] at hm
 refine th<|th<|rg<|qm o rfl λo=>qv o (Bo o rfl rfl) λo=>re<|?_
 rcases bip hm with ⟨O0,hm⟩ | ⟨O0,hm⟩
 refine tn<|ctv o rfl O0<|wk<|tn<|th<|wb<|?_
 obtain ⟨s5,h6,hm⟩:=bs hm
 refine rg<|qm o rfl λo=>qv o (Uc o rfl rfl (by decide)) λo=>qv o (An o rfl rfl) λo=>qv o (Nv o runUnderlying3 runUnderlying5 rfl) λo=>ls<|c1 o rfl call78 (Jbu u hbB6 h6) ⟨rfl,rfl,trivial⟩ (λv w a hR o=>?_)
 obtain ⟨rfl,Q0,P0,u⟩:=hR
 refine re<|bn<|tn<|?_
 obtain ⟨R0,S0,hm⟩:=bs hm
 refine rg<|qm o rfl λo=>qv o (JbD o rfl rfl S0) λo=>qa o rfl λo=>re<|tn<|?_
 exact ⟨(C0,R0,s5),⟨Q0,P0,(PT b3),hm,o.has ⟨rfl,rfl,trivial⟩,u,(.inr rfl)⟩,Nat.lt_succ_self _⟩
 refine tn<|cfv o rfl O0<|we<|tx<|tx<|bx<|tn<|?_
 exact ⟨F0,G0,D0,A0,vpB5,hm,o.has ⟨rfl,rfl,trivial⟩,u,hbB6⟩
 rintro a w ⟨J0,K0,M0,E0,vpA5,hm,o,u,hbA6⟩
 unfold Zb at hm
 refine th<|?_
 obtain ⟨W0,T0,hm⟩:=bs hm
 refine rg<|qm o rfl λo=>qv o (Nv o runUnderlying3 runUnderlying5 rfl) λo=>ls<|c1 o rfl call78 (Jbu u hbA6 T0) ⟨rfl,rfl,trivial⟩ (λv w a hR o=>?_)
 obtain ⟨rfl,V0,U0,u⟩:=hR
 refine re<|tn<|th<|rg<|ls<|c1 o rfl Tryz.call26 (Xe u (.inr rfl)) ⟨rfl,trivial⟩ (λv w a hR o=>?_)
 obtain ⟨rfl,hk⟩:=hR
 replace u:=(start1 hH).pass hk
 refine qa o rfl λo=>re<|tn<|wr<|?_
 obtain rfl:=si hm
 exact r1 o results43 rfl ⟨rfl,u.keep⟩
theorem Ff (hH:H.le w0) {b2:Nat} {p1:Str} {oa3:Option Addr} {cap4:Nat} {vp5:Value} (D0:BP b2 vp5) {p7:Int} (hO:(sepA [bldA 60 5 b2 vp5 oa3 cap4 p1]).ok (hp w0)) (hD:∀ b,(sepA [bldA 60 5 b2 vp5 oa3 cap4 p1]).fp b→H b=none) {r:Str} (hm:Z15 N p1 p7=some r):Tot Tryz.prog 23 #[PT b2,i6 p7] w0 (λv w'=>∃ (vpm:Value) (oam:Option Addr) (capm:Nat),v=.tuple #[]∧BP b2 vpm∧Mut w0 (sepA [bldA 60 5 b2 vp5 oa3 cap4 p1]) (sepA [bldA 60 5 b2 vpm oam capm r]) w'):=by
 unfold Z15 at hm
 refine fn0 func23 rfl ntmps23 rfl rfl λa o=>?_
 have u:=Gh hH hO hD
 obtain ⟨F0,h9,hm⟩:=bs hm
 obtain ⟨G0,E0,hm⟩:=bs hm
 refine rdL Ai 6 u wide λw u=>ds 0 (St.ldsX u i2 ta1) o rfl (Ab o rfl) λo=>ds 1 (St.ldsX u i2 ta1) o rfl (Ea o rfl) λo=>ds 2 (St.ldsX u i2 ta1) o rfl (Ae o Jal rfl) λo=>ds 3 (St.ldsX u i2 ta1) o rfl (Ab o rfl) λo=>da1 (i:=4) (by kernel_rfl) ?_
 refine di (i:=4) rfl<|cr o call43 (JbW (Ah _) h9) u λu o=>⟨λ_=>(St.ldsX u i2 ta1),?_⟩
 refine da1 (i:=5) (by kernel_rfl) ?_
 refine di (i:=5) rfl<|c1 o rfl call44 (Jax u D0 E0) ⟨rfl,rfl,trivial⟩ (λv w a hR o=>?_)
 obtain ⟨rfl,C0,A0,u⟩:=hR
 refine ⟨λ_=>(St.ldsX u i2 ta1),?_⟩
 refine de (by kernel_rfl)<|?_
 obtain rfl:=si hm
 exact r0n o results23 ⟨(PT b2),C0,A0,rfl,(.inr rfl),(u.pickL (.cons .head .nil)).endMut⟩
theorem Jbg (hH:H.le w0) {b2:Nat} {p1:Str} {oa3:Option Addr} {cap4:Nat} {vp5:Value} (V0:BP b2 vp5) {J0:Option Addr} {F0:Nat} {p7:(List Int)} (C1:p7.length≤F0) (K0:SR H J0 p7) (hO:(sepA [bldA 60 5 b2 vp5 oa3 cap4 p1]).ok (hp w0)) (hD:∀ b,(sepA [bldA 60 5 b2 vp5 oa3 cap4 p1]).fp b→H b=none) {r:Str} (hm:Z16 N p1 p7=some r):Tot Tryz.prog 22 #[PT b2,SL J0 p7 F0] w0 (λv w'=>∃ (vpm:Value) (oam:Option Addr) (capm:Nat),v=.tuple #[]∧BP b2 vpm∧Mut w0 (sepA [bldA 60 5 b2 vp5 oa3 cap4 p1]) (sepA [bldA 60 5 b2 vpm oam capm r]) w'):=by
 unfold Z16 at hm
 refine fn0 func22 rfl ntmps22 rfl rfl λa o=>?_
 have u:=Gh hH hO hD
 refine th<|?_
 obtain ⟨W0,X0,hm⟩:=bs hm
 refine rg<|qm o rfl λo=>qm o rfl λo=>qv o (Aj (α:=Int) (xs:=p7) o runUnderlying22 rfl) λo=>?_
 replace u:=u.pk [0] rfl
 replace u:=St.sep [bldA 60 5 b2 vp5 oa3 cap4 p1] u
 refine ls<|c1 o rfl call23 (Ff (St.le u) (p1:=p1) (b2:=b2) (oa3:=oa3) (cap4:=cap4) (vp5:=vp5) V0 (St.sepOk u) (St.sepDis u) X0) ⟨rfl,rfl,trivial⟩ (λv w a hR o=>?_)
 obtain ⟨vp16,Q0,O0,rfl,R0,hk⟩:=hR
 replace u:=(u.mut hk .head).unsep
 refine re<|tn<|th<|rg<|qm o rfl λo=>qv o (Aj (α:=Int) (xs:=p7) o runUnderlying22 rfl) λo=>qm o rfl λo=>re<|tn<|wb<|lp (α:=Nat×Str×Int) (λgh a w=>match gh with | (D0,E0,I0)=>∃ (C0:Option Addr) (A0:Nat) (vpA4:Value),(Z17 N p7) D0 E0 I0=some r∧Fr 20 [(0,PT b2),(10,SL J0 p7 F0),(11,i6 (p7.length:Int)),(12,i6 I0)] a∧St w0 (sepA [bldA 60 5 b2 vp5 oa3 cap4 p1]).fp [H] [bldA 60 5 b2 vpA4 C0 A0 E0] w∧BP b2 vpA4) (λgh=>gh.1) (N,W0,0) ⟨Q0,O0,vp16,hm,o.hs,u,R0⟩ ?_
 rintro ⟨D0,E0,I0⟩ a w ⟨C0,A0,vpA4,hm,o,u,hbA5⟩
 obtain _ | D0:=D0
 simp [Z17] at hm
 rw [Z17] at hm
 refine th<|rg<|qv o (Ak o rfl rfl) λo=>re<|?_
 rcases bip hm with ⟨G0,hm⟩ | ⟨G0,hm⟩
 refine tn<|th<|ctv o rfl G0<|wk<|tn<|th<|wb<|th<|?_
 obtain ⟨Y0,M0,hm⟩:=bs hm
 obtain ⟨j0,n0,S0⟩:=SR.get K0 M0
 obtain rfl:j0=[i6 Y0]:=n0
 refine rg<|qv o (Al o Tryz.runUnderlying22 Tryz.sizeOf3 rfl rfl M0 (SR.oaI K0 (by decide) M0)) λo=>qv o (Af o isAgg3 rfl (PH.le.cell (Lds.le u.ld) (S0 0 _ rfl))) λo=>qa o rfl λo=>re<|tn<|?_
 obtain ⟨u0,B1,hm⟩:=bs hm
 refine rg<|qm o rfl λo=>qm o rfl λo=>?_
 replace u:=u.pk [0] rfl
 replace u:=St.sep [bldA 60 5 b2 vpA4 C0 A0 E0] u
 refine ls<|c1 o rfl call23 (Ff (St.le u) (p1:=E0) (b2:=b2) (oa3:=C0) (cap4:=A0) (vp5:=vpA4) hbA5 (St.sepOk u) (St.sepDis u) B1) ⟨rfl,rfl,trivial⟩ (λv w a hR o=>?_)
 obtain ⟨vp28,T0,P0,rfl,U0,hk⟩:=hR
 replace u:=(u.mut hk .head).unsep
 refine re<|bn<|tn<|rg<|qv o (An o rfl rfl) λo=>qm o rfl λo=>re<|tn<|?_
 exact ⟨(D0,u0,(IntKind.i64.wrap (I0+1))),⟨T0,P0,vp28,hm,o.hs,u,U0⟩,Nat.lt_succ_self _⟩
 refine tn<|th<|cfv o rfl G0<|we<|tx<|tx<|bx<|?_
 obtain rfl:=si hm
 exact r0n o results22 ⟨vpA4,C0,A0,rfl,hbA5,(u.pickL (.cons .head .nil)).endMut⟩
theorem Yq (hH:H.le w0) {b2:Nat} {p1:Str} {oa3:Option Addr} {cap4:Nat} {vp5:Value} (j0:BP b2 vp5) {K0:Option Addr} {F0:Nat} {p7:(List api_Op)} (F1:p7.length≤F0) (M0:SR H K0 p7) (hO:(sepA [bldA 60 5 b2 vp5 oa3 cap4 p1]).ok (hp w0)) (hD:∀ b,(sepA [bldA 60 5 b2 vp5 oa3 cap4 p1]).fp b→H b=none) {r:Str} (hm:Z18 N p1 p7=some r):Tot Tryz.prog 25 #[PT b2,SL K0 p7 F0] w0 (λv w'=>∃ (vpm:Value) (oam:Option Addr) (capm:Nat),v=.tuple #[]∧BP b2 vpm∧Mut w0 (sepA [bldA 60 5 b2 vp5 oa3 cap4 p1]) (sepA [bldA 60 5 b2 vpm oam capm r]) w'):=by
 unfold Z18 at hm
 refine fn0 func25 rfl ntmps25 rfl rfl λa o=>?_
 have u:=Gh hH hO hD
 refine th<|?_
 obtain ⟨n0,u0,hm⟩:=bs hm
 refine rg<|qm o rfl λo=>qm o rfl λo=>qv o (Aj (α:=api_Op) (xs:=p7) o runUnderlying54 rfl) λo=>?_
 replace u:=u.pk [0] rfl
 replace u:=St.sep [bldA 60 5 b2 vp5 oa3 cap4 p1] u
 refine ls<|c1 o rfl call23 (Ff (St.le u) (p1:=p1) (b2:=b2) (oa3:=oa3) (cap4:=cap4) (vp5:=vp5) j0 (St.sepOk u) (St.sepDis u) u0) ⟨rfl,rfl,trivial⟩ (λv w a hR o=>?_)
 obtain ⟨vp16,T0,Q0,rfl,U0,hk⟩:=hR
 replace u:=(u.mut hk .head).unsep
 refine re<|tn<|th<|rg<|qm o rfl λo=>qv o (Aj (α:=api_Op) (xs:=p7) o runUnderlying54 rfl) λo=>qm o rfl λo=>re<|tn<|wb<|lp (α:=Nat×Str×Int) (λgh a w=>match gh with | (D0,E0,I0)=>∃ (C0:Option Addr) (A0:Nat) (vpA4:Value),(Z19 N p7) D0 E0 I0=some r∧Fr 25 [(0,PT b2),(10,SL K0 p7 F0),(11,i6 (p7.length:Int)),(12,i6 I0)] a∧St w0 (sepA [bldA 60 5 b2 vp5 oa3 cap4 p1]).fp [H] [bldA 60 5 b2 vpA4 C0 A0 E0] w∧BP b2 vpA4) (λgh=>gh.1) (N,n0,0) ⟨T0,Q0,vp16,hm,o.hs,u,U0⟩ ?_
 rintro ⟨D0,E0,I0⟩ a w ⟨C0,A0,vpA4,hm,o,u,hbA5⟩
 obtain _ | D0:=D0
 simp [Z19] at hm
 rw [Z19] at hm
 refine th<|rg<|qv o (Ak o rfl rfl) λo=>re<|?_
 rcases bip hm with ⟨G0,hm⟩ | ⟨G0,hm⟩
 refine tn<|th<|ctv o rfl G0<|wk<|tn<|th<|wb<|th<|?_
 obtain ⟨I1,O0,hm⟩:=bs hm
 obtain ⟨J1,B1,V0⟩:=SR.get M0 O0
 obtain rfl:=Cs B1
 refine rg<|qv o (Al o Tryz.runUnderlying54 Tryz.sizeOf83 rfl rfl O0 (SR.oaI M0 (by decide) O0)) λo=>qv o (Ar o isAgg83 sizeOf83 rfl rfl (λj v hj=>PH.le.cell (Lds.le u.ld) (V0 j v hj))) λo=>ls<|As (cs:=[i6 0,i6 0].toArray) o rfl u zeroValue83 rfl λO1 w a u o=>ls<|Bb o u sizeOf83 rfl rfl rfl rfl (Ao rfl) .head λw u=>re<|tn<|th<|?_
 obtain ⟨S0,C1,hm⟩:=bs hm
 refine rg<|qm o rfl λo=>qv o (Ae o Eb rfl) λo=>qv o (Af o isAgg3 rfl (u.ld.cellB t0 rfl)) λo=>?_
 replace u:=u.pk [1,0] rfl
 replace u:=St.sep [bldA 60 5 b2 vpA4 C0 A0 E0] u
 refine ls<|c1 o rfl call23 (Ff (St.le u) (p1:=E0) (b2:=b2) (oa3:=C0) (cap4:=A0) (vp5:=vpA4) hbA5 (St.sepOk u) (St.sepDis u) C1) ⟨rfl,rfl,trivial⟩ (λv w a hR o=>?_)
 obtain ⟨vp29,P0,J0,rfl,W0,hk⟩:=hR
 replace u:=(u.mut hk .head).unsep
 refine re<|tn<|?_
 obtain ⟨D1,E1,hm⟩:=bs hm
 refine rg<|qm o rfl λo=>qv o (Ae o F8 rfl) λo=>qv o (Af o isAgg3 rfl (u.ld.cellB t1 rfl)) λo=>?_
 replace u:=u.pk [0,0] rfl
 replace u:=St.sep [bldA 60 5 b2 vp29 P0 J0 S0] u
 refine ls<|c1 o rfl call23 (Ff (St.le u) (p1:=S0) (b2:=b2) (oa3:=P0) (cap4:=J0) (vp5:=vp29) W0 (St.sepOk u) (St.sepDis u) E1) ⟨rfl,rfl,trivial⟩ (λv w a hR o=>?_)
 obtain ⟨vp35,X0,R0,rfl,Y0,hk⟩:=hR
 replace u:=(u.mut hk .head).unsep
 refine re<|bn<|tn<|rg<|qv o (An o rfl rfl) λo=>qm o rfl λo=>re<|tn<|?_
 replace u:=u.pk [0] rfl
 exact ⟨(D0,D1,(IntKind.i64.wrap (I0+1))),⟨X0,R0,vp35,hm,o.hs,u,Y0⟩,Nat.lt_succ_self _⟩
 refine tn<|th<|cfv o rfl G0<|we<|tx<|tx<|bx<|?_
 obtain rfl:=si hm
 exact r0n o results25 ⟨vpA4,C0,A0,rfl,hbA5,(u.pickL (.cons .head .nil)).endMut⟩
theorem Jbm (hH:H.le w0) {b2:Nat} {p1:Str} {oa3:Option Addr} {cap4:Nat} {vp5:Value} (K2:BP b2 vp5) {cs8:List Value} {p7:api_Code} (g9:Enc.rep H cs8 p7) (hO:(sepA [bldA 60 5 b2 vp5 oa3 cap4 p1]).ok (hp w0)) (hD:∀ b,(sepA [bldA 60 5 b2 vp5 oa3 cap4 p1]).fp b→H b=none) {r:Str} (hm:Z13 N p1 p7=some r):Tot Tryz.prog 24 #[PT b2,.agg cs8.toArray] w0 (λv w'=>∃ (vpm:Value) (oam:Option Addr) (capm:Nat),v=.tuple #[]∧BP b2 vpm∧Mut w0 (sepA [bldA 60 5 b2 vp5 oa3 cap4 p1]) (sepA [bldA 60 5 b2 vpm oam capm r]) w'):=by
 unfold Z13 at hm
 refine fn0 func24 rfl ntmps24 rfl rfl λa o=>?_
 have u:=Gh hH hO hD
 obtain ⟨S0,G0,rfl,D3,T0⟩:=Am g9
 refine th<|rg<|ls<|Br (cs:=[i6 p7.Regs,i6 p7.Counts,SL S0 p7.L G0].toArray) o rfl u rfl rfl λG3 w a u o=>re<|tn<|th<|?_
 obtain ⟨D1,O2,hm⟩:=bs hm
 refine rg<|qm o rfl λo=>qv o (Ae o Cz rfl) λo=>qv o (Af o isAgg3 rfl (u.ld.cellB t0 rfl)) λo=>?_
 replace u:=u.pk [1,0] rfl
 replace u:=St.sep [bldA 60 5 b2 vp5 oa3 cap4 p1] u
 refine ls<|c1 o rfl call23 (Ff (St.le u) (p1:=p1) (b2:=b2) (oa3:=oa3) (cap4:=cap4) (vp5:=vp5) K2 (St.sepOk u) (St.sepDis u) O2) ⟨rfl,rfl,trivial⟩ (λv w a hR o=>?_)
 obtain ⟨vp19,U0,I0,rfl,Q1,hk⟩:=hR
 replace u:=(u.mut hk .head).unsep
 refine re<|tn<|th<|?_
 obtain ⟨E1,P2,hm⟩:=bs hm
 refine rg<|qm o rfl λo=>qv o (Ae o Gg rfl) λo=>qv o (Af o isAgg3 rfl (u.ld.cellB t1 rfl)) λo=>?_
 replace u:=u.pk [0,0] rfl
 replace u:=St.sep [bldA 60 5 b2 vp19 U0 I0 D1] u
 refine ls<|c1 o rfl call23 (Ff (St.le u) (p1:=D1) (b2:=b2) (oa3:=U0) (cap4:=I0) (vp5:=vp19) Q1 (St.sepOk u) (St.sepDis u) P2) ⟨rfl,rfl,trivial⟩ (λv w a hR o=>?_)
 obtain ⟨vp25,V0,J0,rfl,R1,hk⟩:=hR
 replace u:=(u.mut hk .head).unsep
 refine re<|tn<|th<|?_
 obtain ⟨Q2,R2,hm⟩:=bs hm
 refine rg<|qm o rfl λo=>qv o (Ae o Ch rfl) λo=>qv o (Af o isAgg24 rfl (u.ld.cellB t1 rfl)) λo=>qv o (Aj (α:=api_Instr) (xs:=p7.L) o runUnderlying24 rfl) λo=>?_
 replace u:=u.pk [0,0] rfl
 replace u:=St.sep [bldA 60 5 b2 vp25 V0 J0 E1] u
 refine ls<|c1 o rfl call23 (Ff (St.le u) (p1:=E1) (b2:=b2) (oa3:=V0) (cap4:=J0) (vp5:=vp25) R1 (St.sepOk u) (St.sepDis u) R2) ⟨rfl,rfl,trivial⟩ (λv w a hR o=>?_)
 obtain ⟨vp31,S1,B1,rfl,T1,hk⟩:=hR
 replace u:=(u.mut hk .head).unsep
 refine re<|tn<|th<|rg<|qv o (Ae o Ch rfl) λo=>qv o (Af o isAgg24 rfl (u.ld.cellB t1 rfl)) λo=>qv o (Aj (α:=api_Instr) (xs:=p7.L) o runUnderlying24 rfl) λo=>qm o rfl λo=>re<|?_
 replace u:=u.pk [0] rfl
 refine tn<|wb<|lp (α:=Nat×Str×Int) (λgh a w=>match gh with | (D0,E0,K0)=>∃ (C0:Option Addr) (A0:Nat) (vpA4:Value),(Z14 N p7) D0 E0 K0=some r∧Fr 51 [(0,PT b2),(20,SL S0 p7.L G0),(21,i6 (p7.L.length:Int)),(22,i6 K0)] a∧St w0 (sepA [bldA 60 5 b2 vp5 oa3 cap4 p1]).fp [H] [bldA 60 5 b2 vpA4 C0 A0 E0] w∧BP b2 vpA4) (λgh=>gh.1) (N,Q2,0) ⟨S1,B1,vp31,hm,o.hs,u,T1⟩ ?_
 rintro ⟨D0,E0,K0⟩ a w ⟨C0,A0,vpA4,hm,o,u,hbA5⟩
 obtain _ | D0:=D0
 simp [Z14] at hm
 rw [Z14] at hm
 refine th<|rg<|qv o (Ak o rfl rfl) λo=>re<|?_
 rcases bip hm with ⟨F0,hm⟩ | ⟨F0,hm⟩
 refine tn<|th<|ctv o rfl F0<|wk<|tn<|th<|wb<|th<|?_
 obtain ⟨I3,W0,hm⟩:=bs hm
 obtain ⟨J3,T2,U1⟩:=SR.get T0 W0
 obtain ⟨E3,B3,F3,C3,rfl,V1,X1,Y1,u1⟩:=Au T2
 refine rg<|qv o (Al o Tryz.runUnderlying24 Tryz.sizeOf85 rfl rfl W0 (SR.oaI T0 (by decide) W0)) λo=>qv o (Ar o isAgg85 sizeOf85 rfl rfl (λj v hj=>PH.le.cell (Lds.le u.ld) (U1 j v hj))) λo=>ls<|As (cs:=[i6 0,i6 0,i6 0,.slice none 0 0,.slice none 0 0,i6 0].toArray) o rfl u zeroValue85 rfl λK3 w a u o=>ls<|Bb o u sizeOf85 rfl rfl rfl rfl (Ao rfl) .head λw u=>re<|tn<|th<|?_
 obtain ⟨F1,U2,hm⟩:=bs hm
 refine rg<|qm o rfl λo=>qv o (Ae o Ca rfl) λo=>qv o (Af o isAgg3 rfl (u.ld.cellB t0 rfl)) λo=>?_
 replace u:=u.pk [1,0] rfl
 replace u:=St.sep [bldA 60 5 b2 vpA4 C0 A0 E0] u
 refine ls<|c1 o rfl call23 (Ff (St.le u) (p1:=E0) (b2:=b2) (oa3:=C0) (cap4:=A0) (vp5:=vpA4) hbA5 (St.sepOk u) (St.sepDis u) U2) ⟨rfl,rfl,trivial⟩ (λv w a hR o=>?_)
 obtain ⟨vp52,X0,M0,rfl,B2,hk⟩:=hR
 replace u:=(u.mut hk .head).unsep
 refine re<|tn<|th<|?_
 obtain ⟨I1,V2,hm⟩:=bs hm
 refine rg<|qm o rfl λo=>qv o (Ae o Ck rfl) λo=>qv o (Af o isAgg3 rfl (u.ld.cellB t1 rfl)) λo=>?_
 replace u:=u.pk [0,0] rfl
 replace u:=St.sep [bldA 60 5 b2 vp52 X0 M0 F1] u
 refine ls<|c1 o rfl call23 (Ff (St.le u) (p1:=F1) (b2:=b2) (oa3:=X0) (cap4:=M0) (vp5:=vp52) B2 (St.sepOk u) (St.sepDis u) V2) ⟨rfl,rfl,trivial⟩ (λv w a hR o=>?_)
 obtain ⟨vp58,Y0,O0,rfl,C2,hk⟩:=hR
 replace u:=(u.mut hk .head).unsep
 refine re<|tn<|th<|?_
 obtain ⟨J1,W2,hm⟩:=bs hm
 refine rg<|qm o rfl λo=>qv o (Ae o Ce rfl) λo=>qv o (Af o isAgg3 rfl (u.ld.cellB t1 rfl)) λo=>?_
 replace u:=u.pk [0,0] rfl
 replace u:=St.sep [bldA 60 5 b2 vp58 Y0 O0 I1] u
 refine ls<|c1 o rfl call23 (Ff (St.le u) (p1:=I1) (b2:=b2) (oa3:=Y0) (cap4:=O0) (vp5:=vp58) C2 (St.sepOk u) (St.sepDis u) W2) ⟨rfl,rfl,trivial⟩ (λv w a hR o=>?_)
 obtain ⟨vp64,j0,P0,rfl,E2,hk⟩:=hR
 replace u:=(u.mut hk .head).unsep
 refine re<|tn<|th<|?_
 obtain ⟨O1,X2,hm⟩:=bs hm
 refine rg<|qm o rfl λo=>qv o (Ae o Bq rfl) λo=>qv o (Af o isAgg3 rfl (u.ld.cellB t1 rfl)) λo=>?_
 replace u:=u.pk [0,0] rfl
 replace u:=St.sep [bldA 60 5 b2 vp64 j0 P0 J1] u
 refine ls<|c1 o rfl call23 (Ff (St.le u) (p1:=J1) (b2:=b2) (oa3:=j0) (cap4:=P0) (vp5:=vp64) E2 (St.sepOk u) (St.sepDis u) X2) ⟨rfl,rfl,trivial⟩ (λv w a hR o=>?_)
 obtain ⟨vp70,n0,Q0,rfl,F2,hk⟩:=hR
 replace u:=(u.mut hk .head).unsep
 refine re<|tn<|th<|?_
 obtain ⟨P1,Y2,hm⟩:=bs hm
 refine rg<|qm o rfl λo=>qv o (Ae o Cv rfl) λo=>qv o (Af o isAgg54 rfl (u.ld.cellB t1 rfl)) λo=>?_
 replace u:=u.pk [0,0] rfl
 replace u:=St.sep [bldA 60 5 b2 vp70 n0 Q0 O1] u
 refine ls<|c1 o rfl call25 (Yq (St.le u) (p1:=O1) (b2:=b2) (oa3:=n0) (cap4:=Q0) (vp5:=vp70) F2 V1 X1 (St.sepOk u) (St.sepDis u) Y2) ⟨rfl,rfl,trivial⟩ (λv w a hR o=>?_)
 obtain ⟨vp76,u0,R0,rfl,G2,hk⟩:=hR
 replace u:=(u.mut hk .head).unsep
 refine re<|tn<|?_
 obtain ⟨u2,A3,hm⟩:=bs hm
 refine rg<|qm o rfl λo=>qv o (Ae o Dv rfl) λo=>qv o (Af o isAgg54 rfl (u.ld.cellB t1 rfl)) λo=>?_
 replace u:=u.pk [0,0] rfl
 replace u:=St.sep [bldA 60 5 b2 vp76 u0 R0 P1] u
 refine ls<|c1 o rfl call25 (Yq (St.le u) (p1:=P1) (b2:=b2) (oa3:=u0) (cap4:=R0) (vp5:=vp76) G2 Y1 u1 (St.sepOk u) (St.sepDis u) A3) ⟨rfl,rfl,trivial⟩ (λv w a hR o=>?_)
 obtain ⟨vp82,I2,C1,rfl,J2,hk⟩:=hR
 replace u:=(u.mut hk .head).unsep
 refine re<|bn<|tn<|rg<|qv o (An o rfl rfl) λo=>qm o rfl λo=>re<|tn<|?_
 replace u:=u.pk [0] rfl
 exact ⟨(D0,u2,(IntKind.i64.wrap (K0+1))),⟨I2,C1,vp82,hm,o.hs,u,J2⟩,Nat.lt_succ_self _⟩
 refine tn<|th<|cfv o rfl F0<|we<|tx<|tx<|bx<|?_
 obtain rfl:=si hm
 exact r0n o results24 ⟨vpA4,C0,A0,rfl,hbA5,(u.pickL (.cons .head .nil)).endMut⟩
end Go.LM.BINZ
