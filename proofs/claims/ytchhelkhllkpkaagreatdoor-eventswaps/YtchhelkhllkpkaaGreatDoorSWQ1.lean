/- Walks, lifted by program. No condition beyond the theorems' own premises. -/
import Derived.Test.YtchhelkhllkpkaaGreatDoorSWP
import Derived.Test.YtchhelkhllkpkaaGreatDoorLM
namespace Go.LM.SWAPS
open Go Go.LL Go.MD Go.LM Go.Proofs Go.MD.SWAPS Go.Proofs.Tryz
open Go.IntKind (i64)
set_option maxRecDepth 100000
set_option maxHeartbeats 4000000
variable {N:Nat} {w0:World} {H:PH}
theorem Jbt (hH:H.le w0) {T0:Option Addr} {J0:Nat} {p1:(List api_Cell)} (V1:p1.length≤J0) (j0:SR H T0 p1) {r:(List api_Cell)} (hm:Zy N p1=some r):Tot Tryz.prog 23 #[SL T0 p1 J0] w0 (λv w'=>∃ (n0:Option Addr) (U0:Nat) (C1:List Value),v=SL n0 r U0∧(∀ h,Rows h C1 r)∧Fresh w0 (sla 134 3 n0 r.length U0 C1) w'):=by
 unfold Zy at hm
 refine fn0 func23 rfl ntmps23 rfl rfl λa o=>?_
 have u:St w0 Nil [H] [] w0:=start1 hH
 refine th<|rg<|qa o rfl λo=>re<|tn<|th<|rg<|ls<|bz (e:=134) (sz:=3) [] o u λb7 u o=>?_
 have Q1:Rows (α:=api_Cell) H [] []:=.nil
 refine qa o rfl λo=>re<|tn<|th<|th<|rg<|qa o rfl λo=>re<|tn<|Av (λa w=>∃ (O0:(List api_Cell)) (R0:Option Addr) (K0:Nat) (S0:List Value),Zz O0=some r∧Fr 34 [(3,SL R0 O0 K0)] a∧St w0 Nil [H] [sla 134 3 R0 O0.length K0 S0] w∧Rows H S0 O0) ?_ ?_
 refine wb<|lp (α:=Nat×(List api_Cell)×Int) (λgh a w=>match gh with | (P0,E0,F0)=>∃ (I0:Option Addr) (D0:Nat) (M0:List Value),(Z10 N Zz p1) P0 E0 F0=some r∧Fr 34 [(0,SL T0 p1 J0),(3,SL I0 E0 D0),(4,i6 F0)] a∧St w0 Nil [H] [sla 134 3 I0 E0.length D0 M0] w∧Rows H M0 E0) (λgh=>gh.1) (N,[],0) ⟨(some ⟨b7,0,none⟩),0,[],hm,o.hs,u,Q1⟩ ?_
 rintro ⟨P0,E0,F0⟩ a w ⟨I0,D0,M0,hm,o,u,V0⟩
 obtain _ | P0:=P0
 simp [Z10] at hm
 rw [Z10] at hm
 refine th<|th<|rg<|qm o rfl λo=>qm o rfl λo=>qv o (Aj (α:=api_Cell) (xs:=p1) o Fz rfl) λo=>qv o (Am o rfl rfl) λo=>qm o rfl λo=>gr (Fk:=[(0,SL T0 p1 J0),(3,SL I0 E0 D0),(4,i6 F0),(14,.bool ((decide (F0 < (p1.length:Int))) && (decide (F0 < 8))))]) 11 3 o u ?_ ?_ ?_
 intro hb o key
 exact qg o (Aa o rfl) λo=>qg o (Am o rfl rfl) λo=>qk o (Ab o rfl rfl) key u hb
 intro hb o key
 iterate 2 refine qn o λo=>?_
 exact qk o (Ac o rfl rfl) key u hb
 intro a w o u
 refine re<|?_
 rcases bit hm with ⟨W0,hm⟩ | ⟨W0,hm⟩
 refine tn<|ctv o rfl W0<|wk<|tn<|th<|wb<|th<|?_
 obtain ⟨C0,D1,hm⟩:=bs hm
 obtain ⟨X1,R1,E1⟩:=SR.get j0 D1
 obtain rfl:=Ex R1
 refine rg<|qm o rfl λo=>qm o rfl λo=>qv o (eI o Fz sizeOf134 rfl rfl D1 j0) λo=>qv o (eC o isAgg134 sizeOf134 rfl u.ld E1) λo=>ls<|Aq (cs:=[Ae [],i6 0,i6 0].toArray) o rfl u zeroValue134 rfl λY1 w a u o=>ls<|Ar o u sizeOf134 rfl rfl rfl rfl (Ak rfl) .head λw u=>re<|tn<|th<|?_
 obtain ⟨Q0,S1,hm⟩:=bs hm
 refine rg<|qf o Jw rfl λo=>qB o isAgg9 rfl u t0 rfl λo=>qf o Jw rfl λo=>qB o isAgg9 rfl u t0 rfl λo=>qv o (Ft (s:=C0.Name) o ru9 rfl) λo=>qv o (Tb o rfl rfl) λo=>qv o (Od (s:=C0.Name) (vl:=0) (vh:=(min (C0.Name.length:Int) 40)) o ru9 rfl rfl rfl S1) λo=>qf o Jw rfl λo=>ls<|Bl o u sizeOf9 rfl rfl rfl rfl .head .zero λw u=>re<|tn<|?_
 obtain ⟨T1,U1,hm⟩:=bs hm
 refine rg<|qm o rfl λo=>qv o (An o isAgg134 sizeOf134 rfl rfl (u.ld.cellsB t0)) λo=>ls<|bz (e:=134) (sz:=3) [Ae Q0,i6 C0.N,i6 C0.At] o u λu1 u o=>?_
 have F1:Rows (α:=api_Cell) H [Ae Q0,i6 C0.N,i6 C0.At] ([(api_Cell.mk Q0 C0.N C0.At)]:List api_Cell):=(.cons (c:=[Ae Q0,i6 C0.N,i6 C0.At]) ⟨_,_,rfl,rfl,⟨_,_,rfl,rfl,rfl⟩⟩ .nil)
 refine ls<|Ay (α:=api_Cell) (xs:=E0) (ys:=([(api_Cell.mk Q0 C0.N C0.At)]:List api_Cell)) o rfl u underlying23 Lj rfl (by decide) rfl rfl rfl t2 V0 (u.rdO t0) F1 U1 λI1 Y0 J1 w a O1 hU o=>?_
 replace u:=hU _ (.tail (.tail .head))
 replace u:=u.drop .head
 refine qa o rfl λo=>re<|bn<|tn<|rg<|qm o rfl λo=>qv o (Ao o rfl rfl) λo=>qa o rfl λo=>re<|tn<|?_
 replace u:=u.pk [1] rfl
 exact ⟨(P0,T1,(i64.wrap (F0+1))),⟨I1,Y0,J1,hm,o.hs,u,O1⟩,kxd _⟩
 refine tn<|cfv o rfl W0<|we<|tx<|tx<|bx<|tn<|?_
 exact ⟨E0,I0,D0,M0,hm,o.hs,u,V0⟩
 rintro a w ⟨O0,R0,K0,S0,hm,o,u,P1⟩
 unfold Zz at hm
 refine th<|rg<|qm o rfl λo=>qa o rfl λo=>re<|tn<|wr<|?_
 obtain rfl:=si hm
 exact r1 o results23 rfl ⟨_,_,_,rfl,(λ_=>Rows.ind P1),u.endFresh t0⟩
theorem Jfi (hH:H.le w0) {T0:Option Addr} {J0:Nat} {p1:(List api_Node)} (V1:p1.length≤J0) (j0:SR H T0 p1) {r:(List api_Node)} (hm:Zm N p1=some r):Tot Tryz.prog 25 #[SL T0 p1 J0] w0 (λv w'=>∃ (n0:Option Addr) (U0:Nat) (C1:List Value),v=SL n0 r U0∧(∀ h,Rows h C1 r)∧Fresh w0 (sla 141 4 n0 r.length U0 C1) w'):=by
 unfold Zm at hm
 refine fn0 func25 rfl ntmps25 rfl rfl λa o=>?_
 have u:St w0 Nil [H] [] w0:=start1 hH
 refine th<|rg<|qa o rfl λo=>re<|tn<|th<|rg<|ls<|bz (e:=141) (sz:=4) [] o u λb7 u o=>?_
 have Q1:Rows (α:=api_Node) H [] []:=.nil
 refine qa o rfl λo=>re<|tn<|th<|th<|rg<|qa o rfl λo=>re<|tn<|Av (λa w=>∃ (O0:(List api_Node)) (R0:Option Addr) (K0:Nat) (S0:List Value),Zn O0=some r∧Fr 34 [(3,SL R0 O0 K0)] a∧St w0 Nil [H] [sla 141 4 R0 O0.length K0 S0] w∧Rows H S0 O0) ?_ ?_
 refine wb<|lp (α:=Nat×(List api_Node)×Int) (λgh a w=>match gh with | (P0,E0,F0)=>∃ (I0:Option Addr) (D0:Nat) (M0:List Value),(Zo N Zn p1) P0 E0 F0=some r∧Fr 34 [(0,SL T0 p1 J0),(3,SL I0 E0 D0),(4,i6 F0)] a∧St w0 Nil [H] [sla 141 4 I0 E0.length D0 M0] w∧Rows H M0 E0) (λgh=>gh.1) (N,[],0) ⟨(some ⟨b7,0,none⟩),0,[],hm,o.hs,u,Q1⟩ ?_
 rintro ⟨P0,E0,F0⟩ a w ⟨I0,D0,M0,hm,o,u,V0⟩
 obtain _ | P0:=P0
 simp [Zo] at hm
 rw [Zo] at hm
 refine th<|th<|rg<|qm o rfl λo=>qm o rfl λo=>qv o (Aj (α:=api_Node) (xs:=p1) o Fq rfl) λo=>qv o (Am o rfl rfl) λo=>qm o rfl λo=>gr (Fk:=[(0,SL T0 p1 J0),(3,SL I0 E0 D0),(4,i6 F0),(14,.bool ((decide (F0 < (p1.length:Int))) && (decide (F0 < 60))))]) 11 3 o u ?_ ?_ ?_
 intro hb o key
 exact qg o (Aa o rfl) λo=>qg o (Am o rfl rfl) λo=>qk o (Ab o rfl rfl) key u hb
 intro hb o key
 iterate 2 refine qn o λo=>?_
 exact qk o (Ac o rfl rfl) key u hb
 intro a w o u
 refine re<|?_
 rcases bit hm with ⟨W0,hm⟩ | ⟨W0,hm⟩
 refine tn<|ctv o rfl W0<|wk<|tn<|th<|wb<|th<|?_
 obtain ⟨C0,D1,hm⟩:=bs hm
 obtain ⟨X1,R1,E1⟩:=SR.get j0 D1
 obtain rfl:=Cf R1
 refine rg<|qm o rfl λo=>qm o rfl λo=>qv o (eI o Fq sizeOf141 rfl rfl D1 j0) λo=>qv o (eC o isAgg141 sizeOf141 rfl u.ld E1) λo=>ls<|Aq (cs:=[i6 0,i6 0,Ae [],i6 0].toArray) o rfl u zeroValue141 rfl λY1 w a u o=>ls<|Ar o u sizeOf141 rfl rfl rfl rfl (Ak rfl) .head λw u=>re<|tn<|th<|?_
 obtain ⟨Q0,S1,hm⟩:=bs hm
 refine rg<|qf o Gn rfl λo=>qB o isAgg9 rfl u t0 rfl λo=>qf o Gn rfl λo=>qB o isAgg9 rfl u t0 rfl λo=>qv o (Ft (s:=C0.Name) o ru9 rfl) λo=>qv o (Tb o rfl rfl) λo=>qv o (Od (s:=C0.Name) (vl:=0) (vh:=(min (C0.Name.length:Int) 40)) o ru9 rfl rfl rfl S1) λo=>qf o Gn rfl λo=>ls<|Bl o u sizeOf9 rfl rfl rfl rfl .head (.succ (.succ .zero)) λw u=>re<|tn<|?_
 obtain ⟨T1,U1,hm⟩:=bs hm
 refine rg<|qm o rfl λo=>qv o (An o isAgg141 sizeOf141 rfl rfl (u.ld.cellsB t0)) λo=>ls<|bz (e:=141) (sz:=4) [i6 C0.Op,i6 C0.N,Ae Q0,i6 C0.At] o u λu1 u o=>?_
 have F1:Rows (α:=api_Node) H [i6 C0.Op,i6 C0.N,Ae Q0,i6 C0.At] ([(api_Node.mk C0.Op C0.N Q0 C0.At)]:List api_Node):=(.cons (c:=[i6 C0.Op,i6 C0.N,Ae Q0,i6 C0.At]) ⟨_,_,rfl,rfl,⟨_,_,rfl,rfl,⟨_,_,rfl,rfl,rfl⟩⟩⟩ .nil)
 refine ls<|Ay (α:=api_Node) (xs:=E0) (ys:=([(api_Node.mk C0.Op C0.N Q0 C0.At)]:List api_Node)) o rfl u underlying82 Jdq rfl (by decide) rfl rfl rfl t2 V0 (u.rdO t0) F1 U1 λI1 Y0 J1 w a O1 hU o=>?_
 replace u:=hU _ (.tail (.tail .head))
 replace u:=u.drop .head
 refine qa o rfl λo=>re<|bn<|tn<|rg<|qm o rfl λo=>qv o (Ao o rfl rfl) λo=>qa o rfl λo=>re<|tn<|?_
 replace u:=u.pk [1] rfl
 exact ⟨(P0,T1,(i64.wrap (F0+1))),⟨I1,Y0,J1,hm,o.hs,u,O1⟩,kxd _⟩
 refine tn<|cfv o rfl W0<|we<|tx<|tx<|bx<|tn<|?_
 exact ⟨E0,I0,D0,M0,hm,o.hs,u,V0⟩
 rintro a w ⟨O0,R0,K0,S0,hm,o,u,P1⟩
 unfold Zn at hm
 refine th<|rg<|qm o rfl λo=>qa o rfl λo=>re<|tn<|wr<|?_
 obtain rfl:=si hm
 exact r1 o results25 rfl ⟨_,_,_,rfl,(λ_=>Rows.ind P1),u.endFresh t0⟩
theorem Jgn (hH:H.le w0) {O1:Option Addr} {M0:Nat} {p1:(List api_Stmt)} (S3:p1.length≤M0) (V1:SR H O1 p1) {r:(List api_Stmt)} (hm:Zp N p1=some r):Tot Tryz.prog 64 #[SL O1 p1 M0] w0 (λv w'=>∃ (H':PH) (X1:Option Addr) (Q1:Nat),v=SL X1 r Q1∧r.length≤Q1∧SR H' X1 r∧Ext w0 H H'∧H'.le w'∧Keep Nil w0 w'):=by
 unfold Zp at hm
 refine fn0 func64 rfl ntmps64 rfl rfl λa o=>?_
 have u:St w0 Nil [H] [] w0:=start1 hH
 refine th<|rg<|qa o rfl λo=>re<|tn<|th<|rg<|ls<|bz (e:=130) (sz:=9) [] o u λb7 u o=>?_
 have B3:Rows (α:=api_Stmt) H [] []:=.nil
 refine qa o rfl λo=>re<|tn<|th<|th<|rg<|qa o rfl λo=>re<|tn<|Av (λa w=>∃ (S0:(List api_Stmt)) (P1:PH) (j0:Option Addr) (O0:Nat) (n0:List Value),Zq S0=some r∧Ext w0 H P1∧Fr 50 [(3,SL j0 S0 O0)] a∧St w0 Nil [P1] [sla 130 9 j0 S0.length O0 n0] w∧Rows P1 n0 S0) ?_ ?_
 refine wb<|lp (α:=Nat×(List api_Stmt)×Int) (λgh a w=>match gh with | (T0,F0,I0)=>∃ (J0:PH) (K0:Option Addr) (D0:Nat) (P0:List Value),(Zr N Zq p1) T0 F0 I0=some r∧Ext w0 H J0∧Fr 50 [(0,SL O1 p1 M0),(3,SL K0 F0 D0),(4,i6 I0)] a∧St w0 Nil [J0] [sla 130 9 K0 F0.length D0 P0] w∧Rows J0 P0 F0) (λgh=>gh.1) (N,[],0) ⟨H,(some ⟨b7,0,none⟩),0,[],hm,(Ext.refl _ _),o.hs,u,B3⟩ ?_
 rintro ⟨T0,F0,I0⟩ a w ⟨J0,K0,D0,P0,hm,E0,o,u,R1⟩
 obtain _ | T0:=T0
 simp [Zr] at hm
 rw [Zr] at hm
 refine th<|th<|rg<|qm o rfl λo=>qm o rfl λo=>qv o (Aj (α:=api_Stmt) (xs:=p1) o Ew rfl) λo=>qv o (Am o rfl rfl) λo=>qm o rfl λo=>gr (Fk:=[(0,SL O1 p1 M0),(3,SL K0 F0 D0),(4,i6 I0),(14,.bool ((decide (I0 < (p1.length:Int))) && (decide (I0 < 50))))]) 11 3 o u ?_ ?_ ?_
 intro hb o key
 exact qg o (Aa o rfl) λo=>qg o (Am o rfl rfl) λo=>qk o (Ab o rfl rfl) key u hb
 intro hb o key
 iterate 2 refine qn o λo=>?_
 exact qk o (Ac o rfl rfl) key u hb
 intro a w o u
 refine re<|?_
 rcases bit hm with ⟨S1,hm⟩ | ⟨S1,hm⟩
 refine tn<|ctv o rfl S1<|wk<|tn<|th<|wb<|th<|?_
 obtain ⟨C0,Y1,hm⟩:=bs hm
 obtain ⟨T3,C3,u1⟩:=SR.get V1 Y1
 obtain ⟨O3,L3,P3,M3,rfl,C2,E2,F2,I2⟩:=Cb C3
 refine rg<|qm o rfl λo=>qm o rfl λo=>qv o (eI o Ew sizeOf130 rfl rfl Y1 V1) λo=>qv o (An o isAgg130 sizeOf130 rfl rfl (λj v hj=>PH.le.cell (λb o hx=>(Lds.le u.ld) b o (E0.sub b o hx)) (u1 j v hj))) λo=>ls<|Aq (cs:=[i6 0,Ae [],Ae [],.slice none 0 0,.slice none 0 0,i6 0,i6 0,i6 0,i6 0].toArray) o rfl u zeroValue130 rfl λU3 w a u o=>ls<|Ar o u sizeOf130 rfl rfl rfl rfl (Ak rfl) .head λw u=>re<|tn<|th<|?_
 obtain ⟨U0,D3,hm⟩:=bs hm
 refine rg<|qf o Fl rfl λo=>qB o isAgg9 rfl u t0 rfl λo=>qf o Fl rfl λo=>qB o isAgg9 rfl u t0 rfl λo=>qv o (Ft (s:=C0.Reg) o ru9 rfl) λo=>qv o (Tb o rfl rfl) λo=>qv o (Od (s:=C0.Reg) (vl:=0) (vh:=(min (C0.Reg.length:Int) 40)) o ru9 rfl rfl rfl D3) λo=>qf o Fl rfl λo=>ls<|Bl o u sizeOf9 rfl rfl rfl rfl .head (.succ .zero) λw u=>re<|tn<|th<|?_
 obtain ⟨V0,E3,hm⟩:=bs hm
 refine rg<|qf o Hf rfl λo=>qB o isAgg9 rfl u t0 rfl λo=>qf o Hf rfl λo=>qB o isAgg9 rfl u t0 rfl λo=>qv o (Ft (s:=C0.Name) o ru9 rfl) λo=>qv o (Tb o rfl rfl) λo=>qv o (Od (s:=C0.Name) (vl:=0) (vh:=(min (C0.Name.length:Int) 40)) o ru9 rfl rfl rfl E3) λo=>qf o Hf rfl λo=>ls<|Bl o u sizeOf9 rfl rfl rfl rfl .head (.succ (.succ .zero)) λw u=>re<|tn<|th<|?_
 obtain ⟨W0,F3,hm⟩:=bs hm
 refine rg<|qf o Hr rfl λo=>qB o isAgg82 rfl u t0 rfl λo=>ls<|c1 o rfl call25 (Jfi (Ag _) C2 (St.srH u (E2.mono E0.sub)) F3) ⟨rfl,trivial⟩ (λv w a hR o=>?_)
 obtain ⟨C1,Q0,Q3,rfl,D1,hk⟩:=hR
 replace u:=u.fresh hk
 replace D1:=D1 J0
 refine qf o Hr rfl λo=>ls<|Bl o u sizeOf82 rfl rfl rfl rfl (.tail .head) (.succ (.succ (.succ .zero))) λw u=>re<|tn<|th<|?_
 obtain ⟨Y0,I3,hm⟩:=bs hm
 refine rg<|qf o Li rfl λo=>qB o isAgg82 rfl u t1 rfl λo=>ls<|c1 o rfl call25 (Jfi (Ag _) F2 (St.srH u (I2.mono E0.sub)) I3) ⟨rfl,trivial⟩ (λv w a hR o=>?_)
 obtain ⟨E1,R0,R3,rfl,F1,hk⟩:=hR
 replace u:=u.fresh hk
 replace F1:=F1 J0
 refine qf o Li rfl λo=>ls<|Bl o u sizeOf82 rfl rfl rfl rfl (.tail (.tail .head)) (.succ (.succ (.succ (.succ .zero)))) λw u=>re<|tn<|?_
 obtain ⟨J3,K3,hm⟩:=bs hm
 refine rg<|qm o rfl λo=>qv o (An o isAgg130 sizeOf130 rfl rfl (u.ld.cellsB t2)) λo=>?_
 obtain ⟨H45,I1,J2,K2,u⟩:=St.frzS u (.tail .head) D1
 obtain ⟨H49,J1,O2,P2,u⟩:=St.frzS u .head (F1.mono I1.sub)
 refine ls<|bz (e:=130) (sz:=9) [i6 C0.Kind,Ae U0,Ae V0,SL C1 W0 Q0,SL E1 Y0 R0,i6 C0.N,i6 C0.Body,i6 C0.Else,i6 C0.At] o u λV3 u o=>?_
 have R2:Rows (α:=api_Stmt) H49 [i6 C0.Kind,Ae U0,Ae V0,SL C1 W0 Q0,SL E1 Y0 R0,i6 C0.N,i6 C0.Body,i6 C0.Else,i6 C0.At] ([(api_Stmt.mk C0.Kind U0 V0 W0 Y0 C0.N C0.Body C0.Else C0.At)]:List api_Stmt):=(.cons (c:=[i6 C0.Kind,Ae U0,Ae V0,SL C1 W0 Q0,SL E1 Y0 R0,i6 C0.N,i6 C0.Body,i6 C0.Else,i6 C0.At]) ⟨_,_,rfl,rfl,⟨_,_,rfl,rfl,⟨_,_,rfl,rfl,⟨_,_,rfl,⟨_,_,rfl,K2,(J2.mono J1.sub)⟩,⟨_,_,rfl,⟨_,_,rfl,P2,O2⟩,⟨_,_,rfl,rfl,⟨_,_,rfl,rfl,⟨_,_,rfl,rfl,rfl⟩⟩⟩⟩⟩⟩⟩⟩ .nil)
 refine ls<|Ay (α:=api_Stmt) (xs:=F0) (ys:=([(api_Stmt.mk C0.Kind U0 V0 W0 Y0 C0.N C0.Body C0.Else C0.At)]:List api_Stmt)) o rfl u underlying76 Jdu rfl (by decide) rfl rfl rfl t2 (R1.mono (cp J1.sub I1.sub)) (u.rdO t0) R2 K3 λT2 T1 U2 w a V2 hU o=>?_
 replace u:=hU _ (.tail (.tail .head))
 replace u:=u.drop .head
 refine qa o rfl λo=>re<|bn<|tn<|rg<|qm o rfl λo=>qv o (Ao o rfl rfl) λo=>qa o rfl λo=>re<|tn<|?_
 replace u:=u.pk [1] rfl
 exact ⟨(T0,J3,(i64.wrap (I0+1))),⟨H49,T2,T1,U2,hm,(Ext.trans E0 (Ext.trans I1 J1)),o.hs,u,V2⟩,kxd _⟩
 refine tn<|cfv o rfl S1<|we<|tx<|tx<|bx<|tn<|?_
 exact ⟨F0,J0,K0,D0,P0,hm,E0,o.hs,u,R1⟩
 rintro a w ⟨S0,P1,j0,O0,n0,hm,U1,o,u,W2⟩
 unfold Zq at hm
 refine th<|rg<|qm o rfl λo=>qa o rfl λo=>re<|tn<|wr<|?_
 obtain ⟨H62,X2,Y2,A3,u⟩:=St.frzS u .head W2
 obtain rfl:=si hm
 exact r1 o results64 rfl ⟨H62,_,_,rfl,A3,Y2,(Ext.trans U1 X2),(St.le u),u.keep⟩
theorem Nv (hH:H.le w0) {U0:Option Addr} {O0:Nat} {p1:(List api_Thread)} (D5:p1.length≤O0) (V0:SR H U0 p1) {r:(List api_Thread)} (hm:Z11 N p1=some r):Tot Tryz.prog 24 #[SL U0 p1 O0] w0 (λv w'=>∃ (H':PH) (F3:Option Addr) (T2:Nat),v=SL F3 r T2∧r.length≤T2∧SR H' F3 r∧Ext w0 H H'∧H'.le w'∧Keep Nil w0 w'):=by
 unfold Z11 at hm
 refine fn0 func24 rfl ntmps24 rfl rfl λa o=>?_
 have u:St w0 Nil [H] [] w0:=start1 hH
 refine th<|rg<|qa o rfl λo=>re<|tn<|th<|rg<|ls<|bz (e:=78) (sz:=4) [] o u λb7 u o=>?_
 have B4:Rows (α:=api_Thread) H [] []:=.nil
 refine qa o rfl λo=>re<|tn<|th<|th<|rg<|qa o rfl λo=>re<|tn<|Av (λa w=>∃ (R1:(List api_Thread)) (O2:PH) (X1:Option Addr) (J1:Nat) (Y1:List Value),Z12 R1=some r∧Ext w0 H O2∧Fr 86 [(3,SL X1 R1 J1)] a∧St w0 Nil [O2] [sla 78 4 X1 R1.length J1 Y1] w∧Rows O2 Y1 R1) ?_ ?_
 refine wb<|lp (α:=Nat×(List api_Thread)×Int) (λgh a w=>match gh with | (W0,F0,I0)=>∃ (n0:PH) (J0:Option Addr) (D0:Nat) (S0:List Value),(Z16 N Z12 p1) W0 F0 I0=some r∧Ext w0 H n0∧Fr 86 [(0,SL U0 p1 O0),(3,SL J0 F0 D0),(4,i6 I0)] a∧St w0 Nil [n0] [sla 78 4 J0 F0.length D0 S0] w∧Rows n0 S0 F0) (λgh=>gh.1) (N,[],0) ⟨H,(some ⟨b7,0,none⟩),0,[],hm,(Ext.refl _ _),o.hs,u,B4⟩ ?_
 rintro ⟨W0,F0,I0⟩ a w ⟨n0,J0,D0,S0,hm,C0,o,u,U2⟩
 obtain _ | W0:=W0
 simp [Z16] at hm
 rw [Z16] at hm
 refine th<|th<|rg<|qm o rfl λo=>qm o rfl λo=>qv o (Aj (α:=api_Thread) (xs:=p1) o Da rfl) λo=>qv o (Am o rfl rfl) λo=>qm o rfl λo=>gr (Fk:=[(0,SL U0 p1 O0),(3,SL J0 F0 D0),(4,i6 I0),(15,.bool ((decide (I0 < (p1.length:Int))) && (decide (I0 < 4))))]) 12 3 o u ?_ ?_ ?_
 intro hb o key
 exact qg o (Aa o rfl) λo=>qg o (Am o rfl rfl) λo=>qk o (Ab o rfl rfl) key u hb
 intro hb o key
 iterate 2 refine qn o λo=>?_
 exact qk o (Ac o rfl rfl) key u hb
 intro a w o u
 refine re<|?_
 rcases bit hm with ⟨V2,hm⟩ | ⟨V2,hm⟩
 refine tn<|ctv o rfl V2<|wk<|tn<|th<|Av (λa w=>∃ (E1:(List api_Thread)) (S1:PH) (O1:Option Addr) (j0:Nat) (P1:List Value),(Z13 (Z16 N Z12 p1 W0) I0) E1=some r∧Ext w0 n0 S1∧Fr 86 [(0,SL U0 p1 O0),(3,SL O1 E1 j0),(4,i6 I0)] a∧St w0 Nil [S1] [sla 78 4 O1 E1.length j0 P1] w∧Rows S1 P1 E1) ?_ ?_
 refine wb<|th<|Av (λa w=>∃ (Q0:Str) (K0:(List api_Stmt)) (R0:Int) (HD1:PH) (bD2:Nat) (oaD5:Option Addr) (capD6:Nat),(Z14 N (Z13 (Z16 N Z12 p1 W0) I0) p1 F0 I0) Q0 K0 R0=some r∧Ext w0 n0 HD1∧Fr 86 [(0,SL U0 p1 O0),(3,SL J0 F0 D0),(4,i6 I0),(5,PT bD2)] a∧St w0 Nil [HD1] [sla 78 4 J0 F0.length D0 S0,bk bD2 [Ae Q0,.slice none 0 0,SL oaD5 K0 capD6,i6 R0] 78] w∧K0.length≤capD6∧SR HD1 oaD5 K0) ?_ ?_
 obtain ⟨Y0,T1,hm⟩:=bs hm
 obtain ⟨E5,C4,Q1⟩:=SR.get V0 T1
 obtain ⟨T4,P4,U4,Q4,rfl,V4,W4,W2,X2⟩:=Bm C4
 obtain ⟨F1,D4,hm⟩:=bs hm
 obtain ⟨I1,I3,hm⟩:=bs hm
 refine rdS 26 u wide λw u=>dr 0 u o rfl (Aa o rfl) λo=>dr 1 u o rfl (Aa o rfl) λo=>dr 2 u o rfl (eI o Da sizeOf78 rfl rfl T1 V0) λo=>dr 3 u o rfl (Ad o Jm rfl) λo=>dq 4 u.ld o rfl (λw hl=>Ap o isAgg9 rfl (PH.le.cell (λb o hx=>(Lds.le hl) b o (C0.sub b o hx)) (Q1 0 _ rfl))) λo=>dr 5 u o rfl (Aa o rfl) λo=>dr 6 u o rfl (Aa o rfl) λo=>dr 7 u o rfl (eI o Da sizeOf78 rfl rfl T1 V0) λo=>dr 8 u o rfl (Ad o Jm rfl) λo=>dq 9 u.ld o rfl (λw hl=>Ap o isAgg9 rfl (PH.le.cell (λb o hx=>(Lds.le hl) b o (C0.sub b o hx)) (Q1 0 _ rfl))) λo=>dr 10 u o rfl (Ft (s:=Y0.Name) o ru9 rfl) λo=>dr 11 u o rfl (Tb o rfl rfl) λo=>dr 12 u o rfl (Od (s:=Y0.Name) (vl:=0) (vh:=(min (Y0.Name.length:Int) 40)) o ru9 rfl rfl rfl D4) λo=>dr 13 u o rfl (Aa o rfl) λo=>dr 14 u o rfl (Aa o rfl) λo=>dr 15 u o rfl (eI o Da sizeOf78 rfl rfl T1 V0) λo=>dr 16 u o rfl (Ad o Rj rfl) λo=>dq 17 u.ld o rfl (λw hl=>Ap o isAgg3 rfl (PH.le.cell (λb o hx=>(Lds.le hl) b o (C0.sub b o hx)) (Q1 3 _ rfl))) λo=>dr 18 u o rfl (Aa o rfl) λo=>dr 19 u o rfl (Aa o rfl) λo=>dr 20 u o rfl (eI o Da sizeOf78 rfl rfl T1 V0) λo=>dr 21 u o rfl (Ad o Mt rfl) λo=>dq 22 u.ld o rfl (λw hl=>Ap o isAgg76 rfl (PH.le.cell (λb o hx=>(Lds.le hl) b o (C0.sub b o hx)) (Q1 2 _ rfl))) λo=>da2 (i:=23) (j:=25) (by kernel_rfl) ?_ ?_
 refine dI 23 rfl<|c1 o rfl call64 (Jgn (St.le u) W2 (X2.mono C0.sub) I3) ⟨rfl,trivial⟩ (λv w a hR o=>?_)
 obtain ⟨H30,T0,P0,rfl,u1,C2,E0,E2,hk⟩:=hR
 obtain ⟨u,E0⟩:=And.intro (St.passH u hk E0 E2) (St.extc u E0)
 refine ⟨λ_=>(St.ldsX u E0.sub i1),?_⟩
 refine dq 24 (St.ldsX u E0.sub i1) o rfl (λw hl=>bL [Ae F1,i6 Y0.At,SL T0 I1 P0] [Ae F1,.slice none 0 0,SL T0 I1 P0,i6 Y0.At] o) λo=>dz 25 rfl<|Aq (cs:=[Ae [],.slice none 0 0,.slice none 0 0,i6 0].toArray) o rfl u zeroValue78 rfl λY2 w a u o=>⟨λ_=>(St.ldsX u E0.sub ta1),?_⟩
 refine dz 26 rfl<|Ar o u sizeOf78 rfl rfl rfl rfl (Ak rfl) .head λw u=>⟨λh=>absurd rfl h,?_⟩
 refine dE<|tn<|?_
 replace u:=u.pk [1,0] rfl
 exact ⟨F1,I1,Y0.At,H30,Y2,T0,P0,hm,E0,o.hs,u,u1,C2⟩
 refine dI 25 rfl<|Aq (cs:=[Ae [],.slice none 0 0,.slice none 0 0,i6 0].toArray) o rfl u zeroValue78 rfl λY2 w a u o=>⟨λ_=>(St.ldsX u i2 ta1),?_⟩
 refine dz 23 rfl<|c1 o rfl call64 (Jgn (St.le u) W2 (X2.mono C0.sub) I3) ⟨rfl,trivial⟩ (λv w a hR o=>?_)
 obtain ⟨H30,T0,P0,rfl,u1,C2,E0,E2,hk⟩:=hR
 obtain ⟨u,E0⟩:=And.intro (St.passH u hk E0 E2) (St.extc u E0)
 refine ⟨λ_=>(St.ldsX u E0.sub ta1),?_⟩
 refine dq 24 (St.ldsX u E0.sub ta1) o rfl (λw hl=>bL [Ae F1,i6 Y0.At,SL T0 I1 P0] [Ae F1,.slice none 0 0,SL T0 I1 P0,i6 Y0.At] o) λo=>dz 26 rfl<|Ar o u sizeOf78 rfl rfl rfl rfl (Ak rfl) .head λw u=>⟨λh=>absurd rfl h,?_⟩
 refine dE<|tn<|?_
 replace u:=u.pk [1,0] rfl
 exact ⟨F1,I1,Y0.At,H30,Y2,T0,P0,hm,E0,o.hs,u,u1,C2⟩
 rintro a w ⟨Q0,K0,R0,HD1,bD2,oaD5,capD6,hm,hxHD1,o,u,hcD7,hrD8⟩
 unfold Z14 at hm
 refine th<|th<|rg<|qa o rfl λo=>re<|tn<|Av (λa w=>∃ (M0:(List Str)) (oaD11:Option Addr) (capD12:Nat) (vsD13:List Value),(Z15 (Z13 (Z16 N Z12 p1 W0) I0) Q0 K0 R0 F0) M0=some r∧Fr 86 [(0,SL U0 p1 O0),(3,SL J0 F0 D0),(4,i6 I0),(5,PT bD2)] a∧St w0 Nil [HD1] [sla 78 4 J0 F0.length D0 S0,sla 9 1 oaD11 M0.length capD12 vsD13,bk bD2 [Ae Q0,SL oaD11 M0 capD12,SL oaD5 K0 capD6,i6 R0] 78] w∧Rows HD1 vsD13 M0) ?_ ?_
 replace u:=u.nilS 9 1
 replace u:=u.pk [1,0,0] rfl
 refine wb<|lp (α:=Nat×(List Str)×Int) (λgh a w=>match gh with | (U1,C1,D1)=>∃ (oaE2:Option Addr) (capE3:Nat) (vsE4:List Value),(Z17 N (Z15 (Z13 (Z16 N Z12 p1 W0) I0) Q0 K0 R0 F0) p1 I0) U1 C1 D1=some r∧Fr 86 [(0,SL U0 p1 O0),(3,SL J0 F0 D0),(4,i6 I0),(5,PT bD2),(6,i6 D1)] a∧St w0 Nil [HD1] [sla 78 4 J0 F0.length D0 S0,sla 9 1 oaE2 C1.length capE3 vsE4,bk bD2 [Ae Q0,SL oaE2 C1 capE3,SL oaD5 K0 capD6,i6 R0] 78] w∧Rows HD1 vsE4 C1) (λgh=>gh.1) (N,[],0) ⟨none,0,[],hm,o.hs,u,.nil⟩ ?_
 rintro ⟨U1,C1,D1⟩ a w ⟨oaE2,capE3,vsE4,hm,o,u,hvE5⟩
 obtain _ | U1:=U1
 simp [Z17] at hm
 rw [Z17] at hm
 refine th<|th<|?_
 obtain ⟨J3,P2,hm⟩:=bs hm
 obtain ⟨F5,E4,F2⟩:=SR.get V0 P2
 obtain ⟨X4,R4,Y4,S4,rfl,A5,I2,B5,C5⟩:=Bm E4
 refine rg<|qm o rfl λo=>?_
 iterate 2 refine qm o rfl λo=>?_
 refine qv o (eI o Da sizeOf78 rfl rfl P2 V0) λo=>qf o Ec rfl λo=>qv o (Ap o isAgg75 rfl (PH.le.cell (λb o hx=>(Lds.le u.ld) b o ((cp hxHD1.sub C0.sub) b o hx)) (F2 1 _ rfl))) λo=>qv o (Aj (α:=Str) (xs:=J3.Regs) o Ly rfl) λo=>qv o (Am o rfl rfl) λo=>qm o rfl λo=>gr (Fk:=[(0,SL U0 p1 O0),(3,SL J0 F0 D0),(4,i6 I0),(5,PT bD2),(6,i6 D1),(54,.bool ((decide (D1 < (J3.Regs.length:Int))) && (decide (D1 < 6))))]) 51 3 o u ?_ ?_ ?_
 intro hb o key
 exact qg o (Aa o rfl) λo=>qg o (Am o rfl rfl) λo=>qk o (Ab o rfl rfl) key u hb
 intro hb o key
 iterate 2 refine qn o λo=>?_
 exact qk o (Ac o rfl rfl) key u hb
 intro a w o u
 refine re<|?_
 rcases bit hm with ⟨J2,hm⟩ | ⟨J2,hm⟩
 refine tn<|ctv o rfl J2<|wk<|tn<|th<|wb<|?_
 obtain ⟨R2,A3,hm⟩:=bs hm
 obtain ⟨F4,I4,B3⟩:=SR.get I2 A3
 obtain rfl:F4=[Ae R2]:=I4
 obtain ⟨V1,J4,hm⟩:=bs hm
 obtain ⟨K4,L4,hm⟩:=bs hm
 refine rdL (Bh t0 (Bh t2 Ey)) 24 u wide λw u=>ds 0 (u.lx i2 [0,2] rfl) o rfl (Ad o Ec rfl) λo=>dq 1 (u.lx i2 [0,2] rfl) o rfl (λw hl=>eB o isAgg75 rfl hl t1 rfl) λo=>ds 2 (u.lx i2 [0,2] rfl) o rfl (Aa o rfl) λo=>ds 3 (u.lx i2 [0,2] rfl) o rfl (Aa o rfl) λo=>ds 4 (u.lx i2 [0,2] rfl) o rfl (eI o Da sizeOf78 rfl rfl P2 V0) λo=>ds 5 (u.lx i2 [0,2] rfl) o rfl (Ad o Ec rfl) λo=>dq 6 (u.lx i2 [0,2] rfl) o rfl (λw hl=>Ap o isAgg75 rfl (PH.le.cell (λb o hx=>(Lds.le hl) b o ((cp hxHD1.sub C0.sub) b o hx)) (F2 1 _ rfl))) λo=>ds 7 (u.lx i2 [0,2] rfl) o rfl (Aa o rfl) λo=>ds 8 (u.lx i2 [0,2] rfl) o rfl (eI o Ly sizeOf9 rfl rfl A3 I2) λo=>dq 9 (u.lx i2 [0,2] rfl) o rfl (λw hl=>Ap o isAgg9 rfl (PH.le.cell (λb o hx=>(Lds.le hl) b o ((cp hxHD1.sub C0.sub) b o hx)) (B3 0 _ rfl))) λo=>ds 10 (u.lx i2 [0,2] rfl) o rfl (Aa o rfl) λo=>ds 11 (u.lx i2 [0,2] rfl) o rfl (Aa o rfl) λo=>ds 12 (u.lx i2 [0,2] rfl) o rfl (eI o Da sizeOf78 rfl rfl P2 V0) λo=>ds 13 (u.lx i2 [0,2] rfl) o rfl (Ad o Ec rfl) λo=>dq 14 (u.lx i2 [0,2] rfl) o rfl (λw hl=>Ap o isAgg75 rfl (PH.le.cell (λb o hx=>(Lds.le hl) b o ((cp hxHD1.sub C0.sub) b o hx)) (F2 1 _ rfl))) λo=>ds 15 (u.lx i2 [0,2] rfl) o rfl (Aa o rfl) λo=>ds 16 (u.lx i2 [0,2] rfl) o rfl (eI o Ly sizeOf9 rfl rfl A3 I2) λo=>dq 17 (u.lx i2 [0,2] rfl) o rfl (λw hl=>Ap o isAgg9 rfl (PH.le.cell (λb o hx=>(Lds.le hl) b o ((cp hxHD1.sub C0.sub) b o hx)) (B3 0 _ rfl))) λo=>ds 18 (u.lx i2 [0,2] rfl) o rfl (Ft (s:=R2) o ru9 rfl) λo=>ds 19 (u.lx i2 [0,2] rfl) o rfl (Tb o rfl rfl) λo=>ds 20 (u.lx i2 [0,2] rfl) o rfl (Od (s:=R2) (vl:=0) (vh:=(min (R2.length:Int) 40)) o ru9 rfl rfl rfl J4) λo=>dz 21 rfl<|bz (e:=9) (sz:=1) [Ae V1] o u λI5 u o=>?_
 have K3:Rows (α:=Str) HD1 [Ae V1] ([V1]:List Str):=(.cons (c:=[Ae V1]) rfl .nil)
 refine ⟨λ_=>(u.lx i2 [1,3] rfl),?_⟩
 refine dz 22 rfl<|Ay (α:=Str) (xs:=C1) (ys:=([V1]:List Str)) o rfl u underlying75 JeB rfl (by decide) rfl rfl rfl t2 hvE5 (u.rdO t0) K3 L4 λL3 C3 M3 w a O3 hU o=>?_
 replace u:=hU _ (.tail (.tail .head))
 replace u:=u.drop .head
 refine ⟨λ_=>(u.lx i2 [0,2] rfl),?_⟩
 refine ds 23 (u.lx i2 [0,2] rfl) o rfl (Ad o Ec rfl) λo=>dz 24 rfl<|Bl o u sizeOf75 rfl rfl rfl rfl (.tail (.tail .head)) (.succ .zero) λw u=>⟨λh=>absurd rfl h,?_⟩
 refine dE<|bn<|tn<|rg<|qm o rfl λo=>qv o (Ao o rfl rfl) λo=>qa o rfl λo=>re<|tn<|?_
 exact ⟨(U1,K4,(i64.wrap (D1+1))),⟨L3,C3,M3,hm,o.hs,u,O3⟩,kxd _⟩
 refine tn<|cfv o rfl J2<|we<|tx<|tx<|bx<|tn<|?_
 exact ⟨C1,oaE2,capE3,vsE4,hm,o.hs,u,hvE5⟩
 rintro a w ⟨M0,oaD11,capD12,vsD13,hm,o,u,hvD14⟩
 unfold Z15 at hm
 obtain ⟨M4,O4,hm⟩:=bs hm
 refine rg<|qm o rfl λo=>qv o (An o isAgg78 sizeOf78 rfl rfl (u.ld.cellsB t2)) λo=>?_
 obtain ⟨H69,K2,P3,Q3,u⟩:=St.frzS u (.tail .head) hvD14
 refine ls<|bz (e:=78) (sz:=4) [Ae Q0,SL oaD11 M0 capD12,SL oaD5 K0 capD6,i6 R0] o u λJ5 u o=>?_
 have R3:Rows (α:=api_Thread) H69 [Ae Q0,SL oaD11 M0 capD12,SL oaD5 K0 capD6,i6 R0] ([(api_Thread.mk Q0 M0 K0 R0)]:List api_Thread):=(.cons (c:=[Ae Q0,SL oaD11 M0 capD12,SL oaD5 K0 capD6,i6 R0]) ⟨_,_,rfl,rfl,⟨_,_,rfl,⟨_,_,rfl,Q3,P3⟩,⟨_,_,rfl,⟨_,_,rfl,hcD7,(hrD8.mono K2.sub)⟩,rfl⟩⟩⟩ .nil)
 refine ls<|Ay (α:=api_Thread) (xs:=F0) (ys:=([(api_Thread.mk Q0 M0 K0 R0)]:List api_Thread)) o rfl u underlying24 Jax rfl (by decide) rfl rfl rfl t1 (U2.mono (cp K2.sub hxHD1.sub)) (u.rdO t0) R3 O4 λS3 D3 T3 w a U3 hU o=>?_
 replace u:=hU _ (.tail .head)
 replace u:=u.drop .head
 refine qa o rfl λo=>re<|bn<|tn<|?_
 replace u:=u.pk [0] rfl
 exact ⟨M4,H69,S3,D3,T3,hm,(Ext.trans hxHD1 K2),o.hs,u,U3⟩
 rintro a w ⟨E1,S1,O1,j0,P1,hm,hxHC1,o,u,V3⟩
 unfold Z13 at hm
 refine rg<|qm o rfl λo=>qv o (Ao o rfl rfl) λo=>qa o rfl λo=>re<|tn<|?_
 exact ⟨(W0,E1,(i64.wrap (I0+1))),⟨S1,O1,j0,P1,hm,(Ext.trans C0 hxHC1),o.hs,u,V3⟩,kxd _⟩
 refine tn<|cfv o rfl V2<|we<|tx<|tx<|bx<|tn<|?_
 exact ⟨F0,n0,J0,D0,S0,hm,C0,o.hs,u,U2⟩
 rintro a w ⟨R1,O2,X1,J1,Y1,hm,E3,o,u,W3⟩
 unfold Z12 at hm
 refine th<|rg<|qm o rfl λo=>qa o rfl λo=>re<|tn<|wr<|?_
 obtain ⟨H82,X3,Y3,A4,u⟩:=St.frzS u .head W3
 obtain rfl:=si hm
 exact r1 o results24 rfl ⟨H82,_,_,rfl,A4,Y3,(Ext.trans E3 X3),(St.le u),u.keep⟩
theorem Jh0 (hH:H.le w0) {cs2:List Value} {p1:api_Prog} (g3:Enc.rep H cs2 p1) {r:api_Prog} (hm:Zs N p1=some r):Tot Tryz.prog 5 #[.agg cs2.toArray] w0 (λv w'=>∃ (H':PH) (cs0:List Value),v=.agg cs0.toArray∧Enc.rep H' cs0 r∧Ext w0 H H'∧H'.le w'∧Keep Nil w0 w'):=by
 unfold Zs at hm
 refine fn0 func5 rfl ntmps5 rfl rfl λa o=>?_
 have u:St w0 Nil [H] [] w0:=start1 hH
 obtain ⟨V4,X3,W4,Y3,oa12,cap13,oa16,cap17,A4,I3,B4,J3,rfl,S7,R6,P5,Q5,C5,D5,M4,O4,C4,D4,O7,E5⟩:=Bc g3
 refine th<|rg<|ls<|Bo (cs:=(pgC V4 X3 W4 Y3 oa12 cap13 oa16 cap17 A4 I3 B4 J3 p1).toArray) o rfl u rfl rfl λW2 w a u o=>ls<|Aq (cs:=[.slice none 0 0,.slice none 0 0,.slice none 0 0,.slice none 0 0,.slice none 0 0,.slice none 0 0].toArray) o rfl u zeroValue27 rfl λE2 w a u o=>re<|tn<|th<|Av (λa w=>∃ (V0:(List api_Cell)) (W0:(List api_Cell)) (S0:(List api_Thread)) (T0:(List api_Thread)) (X2:PH) (U1:Nat) (D1:Option Addr) (Q0:Nat) (Y2:List Value) (R0:Option Addr) (K0:Nat) (X1:List Value) (I1:Option Addr) (Y0:Nat) (J1:Option Addr) (j0:Nat),(Zt N p1) V0 W0 S0 T0=some r∧Ext w0 H X2∧Fr 72 [(1,PT W2),(2,PT E2),(3,PT U1)] a∧St w0 Nil [X2] [bk W2 (pgC V4 X3 W4 Y3 oa12 cap13 oa16 cap17 A4 I3 B4 J3 p1) 27,bk E2 [.slice none 0 0,.slice none 0 0,.slice none 0 0,.slice none 0 0,.slice none 0 0,.slice none 0 0] 27,sla 134 3 D1 V0.length Q0 Y2,sla 134 3 R0 W0.length K0 X1,bk U1 [.slice none 0 0,SL D1 V0 Q0,SL R0 W0 K0,SL I1 S0 Y0,SL J1 T0 j0,.slice none 0 0] 27] w∧Rows X2 Y2 V0∧Rows X2 X1 W0∧S0.length≤Y0∧SR X2 I1 S0∧T0.length≤j0∧SR X2 J1 T0) ?_ ?_
 obtain ⟨P1,S6,hm⟩:=bs hm
 obtain ⟨Q1,R5,hm⟩:=bs hm
 obtain ⟨R1,L5,hm⟩:=bs hm
 obtain ⟨S1,X4,hm⟩:=bs hm
 refine rdS 14 u wide λw u=>dr 0 u o rfl (Ad o Km rfl) λo=>dq 1 u.ld o rfl (λw hl=>eB o isAgg23 rfl hl t1 rfl) λo=>dr 3 u o rfl (Ad o Kw rfl) λo=>dq 4 u.ld o rfl (λw hl=>eB o isAgg23 rfl hl t1 rfl) λo=>dr 6 u o rfl (Ad o Ia rfl) λo=>dq 7 u.ld o rfl (λw hl=>eB o isAgg24 rfl hl t1 rfl) λo=>dr 9 u o rfl (Ad o Oe rfl) λo=>dq 10 u.ld o rfl (λw hl=>eB o isAgg24 rfl hl t1 rfl) λo=>da2 (i:=2) (j:=13) (by kernel_rfl) ?_ ?_
 refine dI 2 rfl<|c1 o rfl call23 (Jbt (Ag _) P5 (St.srH u Q5) S6) ⟨rfl,trivial⟩ (λv w a hR o=>?_)
 obtain ⟨U0,J0,S3,rfl,T1,hk⟩:=hR
 replace u:=u.fresh hk
 replace T1:=T1 H
 refine ⟨λ_=>(St.ldsX u i2 ta1),?_⟩
 refine da2 (i:=5) (j:=13) (by kernel_rfl) ?_ ?_
 refine dI 5 rfl<|c1 o rfl call23 (Jbt (Ag _) C5 (St.srH u D5) R5) ⟨rfl,trivial⟩ (λv w a hR o=>?_)
 obtain ⟨P0,I0,A3,rfl,E1,hk⟩:=hR
 replace u:=u.fresh hk
 replace E1:=E1 H
 refine ⟨λ_=>(St.ldsX u i2 ta2),?_⟩
 refine da2 (i:=8) (j:=13) (by kernel_rfl) ?_ ?_
 refine dI 8 rfl<|c1 o rfl call24 (Nv (St.le u) M4 O4 L5) ⟨rfl,trivial⟩ (λv w a hR o=>?_)
 obtain ⟨H49,O0,F0,rfl,F2,I2,C0,B3,hk⟩:=hR
 obtain ⟨u,C0⟩:=And.intro (St.passH u hk C0 B3) (St.extc u C0)
 refine ⟨λ_=>(St.ldsX u C0.sub ta2),?_⟩
 refine da2 (i:=11) (j:=13) (by kernel_rfl) ?_ ?_
 refine dI 11 rfl<|c1 o rfl call24 (Nv (St.le u) C4 (D4.mono C0.sub) X4) ⟨rfl,trivial⟩ (λv w a hR o=>?_)
 obtain ⟨H59,M0,E0,rfl,Y1,u1,D0,C2,hk⟩:=hR
 obtain ⟨u,D0⟩:=And.intro (St.passH u hk D0 C2) (St.extc u D0)
 refine ⟨λ_=>(St.ldsX u (cp D0.sub C0.sub) ta2),?_⟩
 refine dq 12 (St.ldsX u (cp D0.sub C0.sub) ta2) o rfl (λw hl=>bL [SL U0 P1 J0,SL P0 Q1 I0,SL O0 R1 F0,SL M0 S1 E0] [.slice none 0 0,SL U0 P1 J0,SL P0 Q1 I0,SL O0 R1 F0,SL M0 S1 E0,.slice none 0 0] o) λo=>dz 13 rfl<|Aq (cs:=[.slice none 0 0,.slice none 0 0,.slice none 0 0,.slice none 0 0,.slice none 0 0,.slice none 0 0].toArray) o rfl u zeroValue27 rfl λK3 w a u o=>⟨λ_=>(St.ldsX u (cp D0.sub C0.sub) ta3),?_⟩
 refine dz 14 rfl<|Ar o u sizeOf27 rfl rfl rfl rfl (Ak rfl) .head λw u=>⟨λh=>absurd rfl h,?_⟩
 refine dE<|tn<|?_
 replace u:=u.pk [4,3,2,1,0] rfl
 exact ⟨P1,Q1,R1,S1,H59,K3,U0,J0,S3,P0,I0,A3,O0,F0,M0,E0,hm,(Ext.trans C0 D0),o.hs,u,(T1.mono (cp D0.sub C0.sub)),(E1.mono (cp D0.sub C0.sub)),F2,(I2.mono D0.sub),Y1,u1⟩
 refine dI 13 rfl<|Aq (cs:=[.slice none 0 0,.slice none 0 0,.slice none 0 0,.slice none 0 0,.slice none 0 0,.slice none 0 0].toArray) o rfl u zeroValue27 rfl λK3 w a u o=>⟨λ_=>(St.ldsX u C0.sub ta3),?_⟩
 refine dz 11 rfl<|c1 o rfl call24 (Nv (St.le u) C4 (D4.mono C0.sub) X4) ⟨rfl,trivial⟩ (λv w a hR o=>?_)
 obtain ⟨H59,M0,E0,rfl,Y1,u1,D0,C2,hk⟩:=hR
 obtain ⟨u,D0⟩:=And.intro (St.passH u hk D0 C2) (St.extc u D0)
 refine ⟨λ_=>(St.ldsX u (cp D0.sub C0.sub) ta3),?_⟩
 refine dq 12 (St.ldsX u (cp D0.sub C0.sub) ta3) o rfl (λw hl=>bL [SL U0 P1 J0,SL P0 Q1 I0,SL O0 R1 F0,SL M0 S1 E0] [.slice none 0 0,SL U0 P1 J0,SL P0 Q1 I0,SL O0 R1 F0,SL M0 S1 E0,.slice none 0 0] o) λo=>dz 14 rfl<|Ar o u sizeOf27 rfl rfl rfl rfl (Ak rfl) .head λw u=>⟨λh=>absurd rfl h,?_⟩
 refine dE<|tn<|?_
 replace u:=u.pk [4,3,2,1,0] rfl
 exact ⟨P1,Q1,R1,S1,H59,K3,U0,J0,S3,P0,I0,A3,O0,F0,M0,E0,hm,(Ext.trans C0 D0),o.hs,u,(T1.mono (cp D0.sub C0.sub)),(E1.mono (cp D0.sub C0.sub)),F2,(I2.mono D0.sub),Y1,u1⟩
 refine dI 13 rfl<|Aq (cs:=[.slice none 0 0,.slice none 0 0,.slice none 0 0,.slice none 0 0,.slice none 0 0,.slice none 0 0].toArray) o rfl u zeroValue27 rfl λK3 w a u o=>⟨λ_=>(St.ldsX u i2 ta3),?_⟩
 refine dz 8 rfl<|c1 o rfl call24 (Nv (St.le u) M4 O4 L5) ⟨rfl,trivial⟩ (λv w a hR o=>?_)
 obtain ⟨H49,O0,F0,rfl,F2,I2,C0,B3,hk⟩:=hR
 obtain ⟨u,C0⟩:=And.intro (St.passH u hk C0 B3) (St.extc u C0)
 refine ⟨λ_=>(St.ldsX u C0.sub ta3),?_⟩
 refine dz 11 rfl<|c1 o rfl call24 (Nv (St.le u) C4 (D4.mono C0.sub) X4) ⟨rfl,trivial⟩ (λv w a hR o=>?_)
 obtain ⟨H59,M0,E0,rfl,Y1,u1,D0,C2,hk⟩:=hR
 obtain ⟨u,D0⟩:=And.intro (St.passH u hk D0 C2) (St.extc u D0)
 refine ⟨λ_=>(St.ldsX u (cp D0.sub C0.sub) ta3),?_⟩
 refine dq 12 (St.ldsX u (cp D0.sub C0.sub) ta3) o rfl (λw hl=>bL [SL U0 P1 J0,SL P0 Q1 I0,SL O0 R1 F0,SL M0 S1 E0] [.slice none 0 0,SL U0 P1 J0,SL P0 Q1 I0,SL O0 R1 F0,SL M0 S1 E0,.slice none 0 0] o) λo=>dz 14 rfl<|Ar o u sizeOf27 rfl rfl rfl rfl (Ak rfl) .head λw u=>⟨λh=>absurd rfl h,?_⟩
 refine dE<|tn<|?_
 replace u:=u.pk [4,3,2,1,0] rfl
 exact ⟨P1,Q1,R1,S1,H59,K3,U0,J0,S3,P0,I0,A3,O0,F0,M0,E0,hm,(Ext.trans C0 D0),o.hs,u,(T1.mono (cp D0.sub C0.sub)),(E1.mono (cp D0.sub C0.sub)),F2,(I2.mono D0.sub),Y1,u1⟩
 refine dI 13 rfl<|Aq (cs:=[.slice none 0 0,.slice none 0 0,.slice none 0 0,.slice none 0 0,.slice none 0 0,.slice none 0 0].toArray) o rfl u zeroValue27 rfl λK3 w a u o=>⟨λ_=>(St.ldsX u i2 ta2),?_⟩
 refine dz 5 rfl<|c1 o rfl call23 (Jbt (Ag _) C5 (St.srH u D5) R5) ⟨rfl,trivial⟩ (λv w a hR o=>?_)
 obtain ⟨P0,I0,A3,rfl,E1,hk⟩:=hR
 replace u:=u.fresh hk
 replace E1:=E1 H
 refine ⟨λ_=>(St.ldsX u i2 ta3),?_⟩
 refine dz 8 rfl<|c1 o rfl call24 (Nv (St.le u) M4 O4 L5) ⟨rfl,trivial⟩ (λv w a hR o=>?_)
 obtain ⟨H49,O0,F0,rfl,F2,I2,C0,B3,hk⟩:=hR
 obtain ⟨u,C0⟩:=And.intro (St.passH u hk C0 B3) (St.extc u C0)
 refine ⟨λ_=>(St.ldsX u C0.sub ta3),?_⟩
 refine dz 11 rfl<|c1 o rfl call24 (Nv (St.le u) C4 (D4.mono C0.sub) X4) ⟨rfl,trivial⟩ (λv w a hR o=>?_)
 obtain ⟨H59,M0,E0,rfl,Y1,u1,D0,C2,hk⟩:=hR
 obtain ⟨u,D0⟩:=And.intro (St.passH u hk D0 C2) (St.extc u D0)
 refine ⟨λ_=>(St.ldsX u (cp D0.sub C0.sub) ta3),?_⟩
 refine dq 12 (St.ldsX u (cp D0.sub C0.sub) ta3) o rfl (λw hl=>bL [SL U0 P1 J0,SL P0 Q1 I0,SL O0 R1 F0,SL M0 S1 E0] [.slice none 0 0,SL U0 P1 J0,SL P0 Q1 I0,SL O0 R1 F0,SL M0 S1 E0,.slice none 0 0] o) λo=>dz 14 rfl<|Ar o u sizeOf27 rfl rfl rfl rfl (Ak rfl) (.tail .head) λw u=>⟨λh=>absurd rfl h,?_⟩
 refine dE<|tn<|?_
 replace u:=u.pk [4,3,2,0,0] rfl
 exact ⟨P1,Q1,R1,S1,H59,K3,U0,J0,S3,P0,I0,A3,O0,F0,M0,E0,hm,(Ext.trans C0 D0),o.hs,u,(T1.mono (cp D0.sub C0.sub)),(E1.mono (cp D0.sub C0.sub)),F2,(I2.mono D0.sub),Y1,u1⟩
 refine dI 13 rfl<|Aq (cs:=[.slice none 0 0,.slice none 0 0,.slice none 0 0,.slice none 0 0,.slice none 0 0,.slice none 0 0].toArray) o rfl u zeroValue27 rfl λK3 w a u o=>⟨λ_=>(St.ldsX u i2 ta1),?_⟩
 refine dz 2 rfl<|c1 o rfl call23 (Jbt (Ag _) P5 (St.srH u Q5) S6) ⟨rfl,trivial⟩ (λv w a hR o=>?_)
 obtain ⟨U0,J0,S3,rfl,T1,hk⟩:=hR
 replace u:=u.fresh hk
 replace T1:=T1 H
 refine ⟨λ_=>(St.ldsX u i2 ta2),?_⟩
 refine dz 5 rfl<|c1 o rfl call23 (Jbt (Ag _) C5 (St.srH u D5) R5) ⟨rfl,trivial⟩ (λv w a hR o=>?_)
 obtain ⟨P0,I0,A3,rfl,E1,hk⟩:=hR
 replace u:=u.fresh hk
 replace E1:=E1 H
 refine ⟨λ_=>(St.ldsX u i2 ta3),?_⟩
 refine dz 8 rfl<|c1 o rfl call24 (Nv (St.le u) M4 O4 L5) ⟨rfl,trivial⟩ (λv w a hR o=>?_)
 obtain ⟨H49,O0,F0,rfl,F2,I2,C0,B3,hk⟩:=hR
 obtain ⟨u,C0⟩:=And.intro (St.passH u hk C0 B3) (St.extc u C0)
 refine ⟨λ_=>(St.ldsX u C0.sub ta3),?_⟩
 refine dz 11 rfl<|c1 o rfl call24 (Nv (St.le u) C4 (D4.mono C0.sub) X4) ⟨rfl,trivial⟩ (λv w a hR o=>?_)
 obtain ⟨H59,M0,E0,rfl,Y1,u1,D0,C2,hk⟩:=hR
 obtain ⟨u,D0⟩:=And.intro (St.passH u hk D0 C2) (St.extc u D0)
 refine ⟨λ_=>(St.ldsX u (cp D0.sub C0.sub) ta3),?_⟩
 refine dq 12 (St.ldsX u (cp D0.sub C0.sub) ta3) o rfl (λw hl=>bL [SL U0 P1 J0,SL P0 Q1 I0,SL O0 R1 F0,SL M0 S1 E0] [.slice none 0 0,SL U0 P1 J0,SL P0 Q1 I0,SL O0 R1 F0,SL M0 S1 E0,.slice none 0 0] o) λo=>dz 14 rfl<|Ar o u sizeOf27 rfl rfl rfl rfl (Ak rfl) (.tail (.tail .head)) λw u=>⟨λh=>absurd rfl h,?_⟩
 refine dE<|tn<|?_
 replace u:=u.pk [4,3,1,0,0] rfl
 exact ⟨P1,Q1,R1,S1,H59,K3,U0,J0,S3,P0,I0,A3,O0,F0,M0,E0,hm,(Ext.trans C0 D0),o.hs,u,(T1.mono (cp D0.sub C0.sub)),(E1.mono (cp D0.sub C0.sub)),F2,(I2.mono D0.sub),Y1,u1⟩
 rintro a w ⟨V0,W0,S0,T0,X2,U1,D1,Q0,Y2,R0,K0,X1,I1,Y0,J1,j0,hm,P2,o,u,U6,V5,hcA18,hrA19,hcA23,hrA24⟩
 unfold Zt at hm
 refine th<|th<|rg<|qa o rfl λo=>re<|tn<|Av (λa w=>∃ (n0:(List (List api_Cell))) (C3:PH) (O1:Option Addr) (C1:Nat) (L3:List Value),(Zu N p1 V0 W0 S0 T0) n0=some r∧Ext w0 X2 C3∧Fr 72 [(1,PT W2),(2,PT E2),(3,PT U1)] a∧St w0 Nil [C3] [bk W2 (pgC V4 X3 W4 Y3 oa12 cap13 oa16 cap17 A4 I3 B4 J3 p1) 27,bk E2 [.slice none 0 0,.slice none 0 0,.slice none 0 0,.slice none 0 0,.slice none 0 0,.slice none 0 0] 27,sla 23 1 O1 n0.length C1 L3,sla 134 3 D1 V0.length Q0 Y2,sla 134 3 R0 W0.length K0 X1,bk U1 [SL O1 n0 C1,SL D1 V0 Q0,SL R0 W0 K0,SL I1 S0 Y0,SL J1 T0 j0,.slice none 0 0] 27] w∧Rows C3 L3 n0) ?_ ?_
 replace u:=u.nilS 23 1
 replace u:=u.pk [1,1,0,0,0,0] rfl
 refine wb<|lp (α:=Nat×(List (List api_Cell))×Int) (λ(gh:Nat×(List (List api_Cell))×Int) a w=>match gh with | (Y4,E4,F4)=>∃ (K4:PH) (P4:Option Addr) (T3:Nat) (Q4:List Value),(Zw N (Zu N p1 V0 W0 S0 T0) p1) Y4 E4 F4=some r∧Ext w0 X2 K4∧Fr 72 [(1,PT W2),(2,PT E2),(3,PT U1),(4,i6 F4)] a∧St w0 Nil [K4] [bk W2 (pgC V4 X3 W4 Y3 oa12 cap13 oa16 cap17 A4 I3 B4 J3 p1) 27,bk E2 [.slice none 0 0,.slice none 0 0,.slice none 0 0,.slice none 0 0,.slice none 0 0,.slice none 0 0] 27,sla 23 1 P4 E4.length T3 Q4,sla 134 3 D1 V0.length Q0 Y2,sla 134 3 R0 W0.length K0 X1,bk U1 [SL P4 E4 T3,SL D1 V0 Q0,SL R0 W0 K0,SL I1 S0 Y0,SL J1 T0 j0,.slice none 0 0] 27] w∧Rows K4 Q4 E4) (λgh=>gh.1) (N,[],0) ⟨X2,none,0,[],hm,(Ext.refl _ _),o.hs,u,.nil⟩ ?_
 rintro ⟨Y4,E4,F4⟩ a w ⟨K4,P4,T3,Q4,hm,U3,o,u,S5⟩
 obtain _ | Y4:=Y4
 simp [Zw] at hm
 rw [Zw] at hm
 refine th<|th<|rg<|qm o rfl λo=>qf o Ei rfl λo=>qB o isAgg22 rfl u t0 rfl λo=>qv o (Aj (α:=(List api_Cell)) (xs:=p1.Lines) o Ms rfl) λo=>qv o (Am o rfl rfl) λo=>qm o rfl λo=>gr (Fk:=[(1,PT W2),(2,PT E2),(3,PT U1),(4,i6 F4),(27,.bool ((decide (F4 < (p1.Lines.length:Int))) && (decide (F4 < 6))))]) 24 3 o u ?_ ?_ ?_
 intro hb o key
 exact qg o (Aa o rfl) λo=>qg o (Am o rfl rfl) λo=>qk o (Ab o rfl rfl) key u hb
 intro hb o key
 iterate 2 refine qn o λo=>?_
 exact qk o (Ac o rfl rfl) key u hb
 intro a w o u
 refine re<|?_
 rcases bit hm with ⟨F5,hm⟩ | ⟨F5,hm⟩
 refine tn<|ctv o rfl F5<|wk<|tn<|th<|wb<|?_
 obtain ⟨T7,T6,hm⟩:=bs hm
 obtain ⟨U7,C7,V6⟩:=SR.get R6 T6
 obtain ⟨P7,K7,rfl,W6,X6⟩:=C7
 obtain ⟨A5,D7,hm⟩:=bs hm
 obtain ⟨E7,F7,hm⟩:=bs hm
 refine rdL (Bh t0 (Bh t1 (Bh t3 (Bh t4 (Bh t5 Ey))))) 11 u wide λw u=>ds 0 (u.lx i2 [0,1,3,4,5] rfl) o rfl (Ad o Ei rfl) λo=>dq 1 (u.lx i2 [0,1,3,4,5] rfl) o rfl (λw hl=>eB o isAgg22 rfl hl t4 rfl) λo=>ds 2 (u.lx i2 [0,1,3,4,5] rfl) o rfl (Ad o Ei rfl) λo=>dq 3 (u.lx i2 [0,1,3,4,5] rfl) o rfl (λw hl=>eB o isAgg22 rfl hl t0 rfl) λo=>ds 4 (u.lx i2 [0,1,3,4,5] rfl) o rfl (Aa o rfl) λo=>ds 5 (u.lx i2 [0,1,3,4,5] rfl) o rfl (eI o Ms sizeOf23 rfl rfl T6 R6) λo=>dq 6 (u.lx i2 [0,1,3,4,5] rfl) o rfl (λw hl=>Ap o isAgg23 rfl (PH.le.cell (λb o hx=>(Lds.le hl) b o ((cp U3.sub P2.sub) b o hx)) (V6 0 _ rfl))) λo=>dz 7 rfl<|c1 o rfl call23 (Jbt (Ag _) W6 (St.srH u (X6.mono (cp U3.sub P2.sub))) D7) ⟨rfl,trivial⟩ (λv w a hR o=>?_)
 obtain ⟨I5,R4,Q7,rfl,J5,hk⟩:=hR
 replace u:=u.fresh hk
 replace J5:=J5 K4
 refine ⟨λ_=>(u.lx i2 [1,2,4,5,6] rfl),?_⟩
 refine dW 8 ?_
 obtain ⟨H85,I4,Y6,j6,u⟩:=St.frzS u .head J5
 refine dI 8 rfl<|bz (e:=23) (sz:=1) [SL I5 A5 R4] o u λV7 u o=>?_
 have n6:Rows (α:=(List api_Cell)) H85 [SL I5 A5 R4] ([A5]:List (List api_Cell)):=(.cons (c:=[SL I5 A5 R4]) ⟨_,_,rfl,j6,Y6⟩ .nil)
 refine ⟨λ_=>(u.lx I4.sub [1,2,4,5,6] rfl),?_⟩
 refine dz 9 rfl<|Ay (α:=(List api_Cell)) (xs:=E4) (ys:=([A5]:List (List api_Cell))) o rfl u underlying22 JeN rfl (by decide) rfl rfl rfl t3 (S5.mono I4.sub) (u.rdO t0) n6 F7 λu6 W5 v6 w a y6 hU o=>?_
 replace u:=hU _ (.tail (.tail (.tail .head)))
 replace u:=u.drop .head
 refine ⟨λ_=>(u.lx I4.sub [0,1,3,4,5] rfl),?_⟩
 refine ds 10 (u.lx I4.sub [0,1,3,4,5] rfl) o rfl (Ad o Ei rfl) λo=>dz 11 rfl<|Bl o u sizeOf22 rfl rfl rfl rfl (.tail (.tail (.tail (.tail (.tail .head))))) .zero λw u=>⟨λh=>absurd rfl h,?_⟩
 refine dE<|bn<|tn<|rg<|qm o rfl λo=>qv o (Ao o rfl rfl) λo=>qa o rfl λo=>re<|tn<|?_
 exact ⟨(Y4,E7,(i64.wrap (F4+1))),⟨H85,u6,W5,v6,hm,(Ext.trans U3 I4),o.hs,u,y6⟩,kxd _⟩
 refine tn<|cfv o rfl F5<|we<|tx<|tx<|bx<|tn<|?_
 exact ⟨E4,K4,P4,T3,Q4,hm,U3,o.hs,u,S5⟩
 rintro a w ⟨n0,C3,O1,C1,L3,hm,F1,o,u,X5⟩
 unfold Zu at hm
 refine th<|th<|rg<|qa o rfl λo=>re<|tn<|Av (λa w=>∃ (J2:(List api_Claim)) (S4:PH) (M3:Option Addr) (K2:Nat) (T4:List Value),(Zv V0 W0 S0 T0 n0) J2=some r∧Ext w0 C3 S4∧Fr 72 [(2,PT E2),(3,PT U1)] a∧St w0 Nil [S4] [bk E2 [.slice none 0 0,.slice none 0 0,.slice none 0 0,.slice none 0 0,.slice none 0 0,.slice none 0 0] 27,sla 23 1 O1 n0.length C1 L3,sla 134 3 D1 V0.length Q0 Y2,sla 134 3 R0 W0.length K0 X1,sla 84 2 M3 J2.length K2 T4,bk U1 [SL O1 n0 C1,SL D1 V0 Q0,SL R0 W0 K0,SL I1 S0 Y0,SL J1 T0 j0,SL M3 J2 K2] 27] w∧Rows S4 T4 J2) ?_ ?_
 replace u:=u.nilS 84 2
 replace u:=u.pk [1,1,1,1,1,0,0] rfl
 refine wb<|lp (α:=Nat×(List api_Claim)×Int) (λgh a w=>match gh with | (B5,D3,E3)=>∃ (L4:PH) (V3:Option Addr) (O3:Nat) (W3:List Value),(Zx N (Zv V0 W0 S0 T0 n0) p1) B5 D3 E3=some r∧Ext w0 C3 L4∧Fr 72 [(1,PT W2),(2,PT E2),(3,PT U1),(5,i6 E3)] a∧St w0 Nil [L4] [bk W2 (pgC V4 X3 W4 Y3 oa12 cap13 oa16 cap17 A4 I3 B4 J3 p1) 27,bk E2 [.slice none 0 0,.slice none 0 0,.slice none 0 0,.slice none 0 0,.slice none 0 0,.slice none 0 0] 27,sla 23 1 O1 n0.length C1 L3,sla 134 3 D1 V0.length Q0 Y2,sla 134 3 R0 W0.length K0 X1,sla 84 2 V3 D3.length O3 W3,bk U1 [SL O1 n0 C1,SL D1 V0 Q0,SL R0 W0 K0,SL I1 S0 Y0,SL J1 T0 j0,SL V3 D3 O3] 27] w∧Rows L4 W3 D3) (λgh=>gh.1) (N,[],0) ⟨C3,none,0,[],hm,(Ext.refl _ _),o.hs,u,.nil⟩ ?_
 rintro ⟨B5,D3,E3⟩ a w ⟨L4,V3,O3,W3,hm,P3,o,u,M5⟩
 obtain _ | B5:=B5
 simp [Zx] at hm
 rw [Zx] at hm
 refine th<|th<|rg<|qm o rfl λo=>qf o Fw rfl λo=>qB o isAgg25 rfl u t0 rfl λo=>qv o (Aj (α:=api_Claim) (xs:=p1.Claims) o Pp rfl) λo=>qv o (Am o rfl rfl) λo=>qm o rfl λo=>gr (Fk:=[(1,PT W2),(2,PT E2),(3,PT U1),(5,i6 E3),(49,.bool ((decide (E3 < (p1.Claims.length:Int))) && (decide (E3 < 6))))]) 46 3 o u ?_ ?_ ?_
 intro hb o key
 exact qg o (Aa o rfl) λo=>qg o (Am o rfl rfl) λo=>qk o (Ab o rfl rfl) key u hb
 intro hb o key
 iterate 2 refine qn o λo=>?_
 exact qk o (Ac o rfl rfl) key u hb
 intro a w o u
 refine re<|?_
 rcases bit hm with ⟨K5,hm⟩ | ⟨K5,hm⟩
 refine tn<|ctv o rfl K5<|wk<|tn<|th<|wb<|?_
 obtain ⟨J4,T5,hm⟩:=bs hm
 obtain ⟨W7,I7,O5⟩:=SR.get E5 T5
 obtain ⟨L7,J7,rfl,Y5,j5⟩:=Fj I7
 obtain ⟨F3,z6,hm⟩:=bs hm
 obtain ⟨A7,B7,hm⟩:=bs hm
 refine rdL (Bh t0 (Bh t1 (Bh t2 (Bh t3 (Bh t4 (Bh t6 Ey)))))) 19 u wide λw u=>ds 0 (u.lx i2 [0,1,2,3,4,6] rfl) o rfl (Ad o Fw rfl) λo=>dq 1 (u.lx i2 [0,1,2,3,4,6] rfl) o rfl (λw hl=>eB o isAgg25 rfl hl t5 rfl) λo=>ds 2 (u.lx i2 [0,1,2,3,4,6] rfl) o rfl (Ad o Fw rfl) λo=>dq 3 (u.lx i2 [0,1,2,3,4,6] rfl) o rfl (λw hl=>eB o isAgg25 rfl hl t0 rfl) λo=>ds 4 (u.lx i2 [0,1,2,3,4,6] rfl) o rfl (Aa o rfl) λo=>ds 5 (u.lx i2 [0,1,2,3,4,6] rfl) o rfl (eI o Pp sizeOf84 rfl rfl T5 E5) λo=>ds 6 (u.lx i2 [0,1,2,3,4,6] rfl) o rfl (Ad o Ub rfl) λo=>dq 7 (u.lx i2 [0,1,2,3,4,6] rfl) o rfl (λw hl=>Ap o isAgg82 rfl (PH.le.cell (λb o hx=>(Lds.le hl) b o ((cp (cp P3.sub F1.sub) P2.sub) b o hx)) (O5 0 _ rfl))) λo=>ds 9 (u.lx i2 [0,1,2,3,4,6] rfl) o rfl (Ad o Fw rfl) λo=>dq 10 (u.lx i2 [0,1,2,3,4,6] rfl) o rfl (λw hl=>eB o isAgg25 rfl hl t0 rfl) λo=>ds 11 (u.lx i2 [0,1,2,3,4,6] rfl) o rfl (Aa o rfl) λo=>ds 12 (u.lx i2 [0,1,2,3,4,6] rfl) o rfl (eI o Pp sizeOf84 rfl rfl T5 E5) λo=>ds 13 (u.lx i2 [0,1,2,3,4,6] rfl) o rfl (Ad o Ja1 rfl) λo=>dq 14 (u.lx i2 [0,1,2,3,4,6] rfl) o rfl (λw hl=>Ap o isAgg3 rfl (PH.le.cell (λb o hx=>(Lds.le hl) b o ((cp (cp P3.sub F1.sub) P2.sub) b o hx)) (O5 1 _ rfl))) λo=>dz 8 rfl<|c1 o rfl call25 (Jfi (Ag _) Y5 (St.srH u (j5.mono (cp (cp P3.sub F1.sub) P2.sub))) z6) ⟨rfl,trivial⟩ (λv w a hR o=>?_)
 obtain ⟨Q3,O2,M7,rfl,U4,hk⟩:=hR
 replace u:=u.fresh hk
 replace U4:=U4 L4
 refine ⟨λ_=>(u.lx i2 [1,2,3,4,5,7] rfl),?_⟩
 refine dq 15 (u.lx i2 [1,2,3,4,5,7] rfl) o rfl (λw hl=>bL [SL Q3 F3 O2,i6 J4.At] [SL Q3 F3 O2,i6 J4.At] o) λo=>dW 16 ?_
 obtain ⟨H115,R3,u5,A6,u⟩:=St.frzS u .head U4
 refine dI 16 rfl<|bz (e:=84) (sz:=2) [SL Q3 F3 O2,i6 J4.At] o u λR7 u o=>?_
 have B6:Rows (α:=api_Claim) H115 [SL Q3 F3 O2,i6 J4.At] ([(api_Claim.mk F3 J4.At)]:List api_Claim):=(.cons (c:=[SL Q3 F3 O2,i6 J4.At]) ⟨_,_,rfl,⟨_,_,rfl,A6,u5⟩,rfl⟩ .nil)
 refine ⟨λ_=>(u.lx R3.sub [1,2,3,4,5,7] rfl),?_⟩
 refine dz 17 rfl<|Ay (α:=api_Claim) (xs:=D3) (ys:=([(api_Claim.mk F3 J4.At)]:List api_Claim)) o rfl u underlying25 Jfm rfl (by decide) rfl rfl rfl t6 (M5.mono R3.sub) (u.rdO t0) B6 B7 λC6 U5 D6 w a E6 hU o=>?_
 replace u:=hU _ (.tail (.tail (.tail (.tail (.tail (.tail .head))))))
 replace u:=u.drop .head
 refine ⟨λ_=>(u.lx R3.sub [0,1,2,3,4,6] rfl),?_⟩
 refine ds 18 (u.lx R3.sub [0,1,2,3,4,6] rfl) o rfl (Ad o Fw rfl) λo=>dz 19 rfl<|Bl o u sizeOf25 rfl rfl rfl rfl (.tail (.tail (.tail (.tail (.tail (.tail .head)))))) (.succ (.succ (.succ (.succ (.succ .zero))))) λw u=>⟨λh=>absurd rfl h,?_⟩
 refine dE<|bn<|tn<|rg<|qm o rfl λo=>qv o (Ao o rfl rfl) λo=>qa o rfl λo=>re<|tn<|?_
 exact ⟨(B5,A7,(i64.wrap (E3+1))),⟨H115,C6,U5,D6,hm,(Ext.trans P3 R3),o.hs,u,E6⟩,kxd _⟩
 refine tn<|cfv o rfl K5<|we<|tx<|tx<|bx<|tn<|?_
 replace u:=u.pk [1,1,1,1,1,1] rfl
 exact ⟨D3,L4,V3,O3,W3,hm,P3,o.hs,u,M5⟩
 rintro a w ⟨J2,S4,M3,K2,T4,hm,V1,o,u,F6⟩
 unfold Zv at hm
 refine th<|rg<|qv o (An o Tryz.isAgg27 Tryz.sizeOf27 rfl rfl (u.ld.cellsB t5)) λo=>ls<|Ar o u sizeOf27 rfl rfl rfl rfl (Ak rfl) .head λw u=>re<|tn<|wr<|?_
 obtain ⟨H128,R2,I6,J6,u⟩:=St.frzS u (.tail .head) (X5.mono V1.sub)
 obtain ⟨H132,T2,K6,L6,u⟩:=St.frzS u (.tail .head) (U6.mono (cp (cp R2.sub V1.sub) F1.sub))
 obtain ⟨H136,U2,M6,O6,u⟩:=St.frzS u (.tail .head) (V5.mono (cp (cp (cp T2.sub R2.sub) V1.sub) F1.sub))
 obtain ⟨H140,V2,P6,Q6,u⟩:=St.frzS u (.tail .head) (F6.mono (cp (cp U2.sub T2.sub) R2.sub))
 obtain rfl:=si hm
 exact r1c (vs:=[SL O1 n0 C1,SL D1 V0 Q0,SL R0 W0 K0,SL I1 S0 Y0,SL J1 T0 j0,SL M3 J2 K2]) (.inl rfl) o results5 rfl isAgg27 sizeOf27 rfl (u.ld.cellsB t0) ⟨H140,_,rfl,(show Enc.rep (α:=api_Prog) H140 [SL O1 n0 C1,SL D1 V0 Q0,SL R0 W0 K0,SL I1 S0 Y0,SL J1 T0 j0,SL M3 J2 K2] (api_Prog.mk n0 V0 W0 S0 T0 J2) from ⟨_,_,rfl,⟨_,_,rfl,J6,(I6.mono (cp (cp V2.sub U2.sub) T2.sub))⟩,⟨_,_,rfl,⟨_,_,rfl,L6,(K6.mono (cp V2.sub U2.sub))⟩,⟨_,_,rfl,⟨_,_,rfl,O6,(M6.mono V2.sub)⟩,⟨_,_,rfl,⟨_,_,rfl,hcA18,(hrA19.mono (cp (cp (cp (cp (cp V2.sub U2.sub) T2.sub) R2.sub) V1.sub) F1.sub))⟩,⟨_,_,rfl,⟨_,_,rfl,hcA23,(hrA24.mono (cp (cp (cp (cp (cp V2.sub U2.sub) T2.sub) R2.sub) V1.sub) F1.sub))⟩,⟨_,_,rfl,Q6,P6⟩⟩⟩⟩⟩⟩),(Ext.trans P2 (Ext.trans F1 (Ext.trans V1 (Ext.trans R2 (Ext.trans T2 (Ext.trans U2 V2)))))),(St.le u),u.keep⟩
theorem JaQ (hH:H.le w0) {p1:Int} {r:Bool} (hm:Z1m N p1=some r):Tot Tryz.prog 99 #[.int .u8 p1] w0 (λv w'=>v=.bool r∧Keep Nil w0 w'):=by
 unfold Z1m at hm
 refine fn0 func99 rfl ntmps99 rfl rfl λa o=>?_
 have u:St w0 Nil [H] [] w0:=start1 hH
 refine th<|rg<|qa o rfl λo=>re<|tn<|th<|rg<|qm o rfl λo=>qv o (Bw o rfl rfl) λo=>qm o rfl λo=>gr (Fk:=[(0,.int .u8 p1),(8,.bool ((decide (97≤p1)) && (decide (p1≤122))))]) 5 3 o u ?_ ?_ ?_
 intro hb o key
 exact qg o (Aa o rfl) λo=>qg o (Gd o rfl rfl) λo=>qk o (Ab o rfl rfl) key u hb
 intro hb o key
 iterate 2 refine qn o λo=>?_
 exact qk o (Ac o rfl rfl) key u hb
 intro a w o u
 refine qm o rfl λo=>gr (Fk:=[(12,.bool (((decide (97≤p1)) && (decide (p1≤122))) || (decide (p1=95))))]) 9 3 o u ?_ ?_ ?_
 intro hb o key
 iterate 2 refine qn o λo=>?_
 exact qk o (Ab o rfl rfl) key u hb
 intro hb o key
 exact qg o (Aa o rfl) λo=>qg o (Ah o rfl rfl) λo=>qk o (Ac o rfl rfl) key u hb
 intro a w o u
 refine qa o rfl λo=>re<|tn<|wr<|?_
 obtain rfl:=si hm
 exact r1 o results99 rfl ⟨rfl,u.keep⟩
theorem Jhh (hH:H.le w0) {p1:Str} {r:Bool} (hm:Z1d N p1=some r):Tot Tryz.prog 100 #[Ae p1] w0 (λv w'=>v=.bool r∧Keep Nil w0 w'):=by
 unfold Z1d at hm
 refine fn0 func100 rfl ntmps100 rfl rfl λa o=>?_
 have u:St w0 Nil [H] [] w0:=start1 hH
 refine th<|rg<|qa o rfl λo=>re<|tn<|th<|rg<|ls<|bz (e:=9) (sz:=1) [Ae [108,105,110,101],Ae [118,111,108],Ae [108,111,99,107],Ae [116,104,114,101,97,100],Ae [114,101,103],Ae [108,111,97,100],Ae [115,116,111,114,101],Ae [99,97,115],Ae [102,108,117,115,104],Ae [111,112,116],Ae [115,102,101,110,99,101],Ae [109,102,101,110,99,101],Ae [116,97,107,101],Ae [103,105,118,101],Ae [105,102],Ae [101,108,115,101],Ae [108,111,111,112],Ae [98,114,101,97,107],Ae [99,104,101,99,107],Ae [114,101,99,111,118,101,114],Ae [97,108,119,97,121,115]] o u λb3 u o=>?_
 have I0:Rows (α:=Str) H [Ae [108,105,110,101],Ae [118,111,108],Ae [108,111,99,107],Ae [116,104,114,101,97,100],Ae [114,101,103],Ae [108,111,97,100],Ae [115,116,111,114,101],Ae [99,97,115],Ae [102,108,117,115,104],Ae [111,112,116],Ae [115,102,101,110,99,101],Ae [109,102,101,110,99,101],Ae [116,97,107,101],Ae [103,105,118,101],Ae [105,102],Ae [101,108,115,101],Ae [108,111,111,112],Ae [98,114,101,97,107],Ae [99,104,101,99,107],Ae [114,101,99,111,118,101,114],Ae [97,108,119,97,121,115]] ([[108,105,110,101],[118,111,108],[108,111,99,107],[116,104,114,101,97,100],[114,101,103],[108,111,97,100],[115,116,111,114,101],[99,97,115],[102,108,117,115,104],[111,112,116],[115,102,101,110,99,101],[109,102,101,110,99,101],[116,97,107,101],[103,105,118,101],[105,102],[101,108,115,101],[108,111,111,112],[98,114,101,97,107],[99,104,101,99,107],[114,101,99,111,118,101,114],[97,108,119,97,121,115]]:List Str):=(.cons (c:=[Ae [108,105,110,101]]) rfl (.cons (c:=[Ae [118,111,108]]) rfl (.cons (c:=[Ae [108,111,99,107]]) rfl (.cons (c:=[Ae [116,104,114,101,97,100]]) rfl (.cons (c:=[Ae [114,101,103]]) rfl (.cons (c:=[Ae [108,111,97,100]]) rfl (.cons (c:=[Ae [115,116,111,114,101]]) rfl (.cons (c:=[Ae [99,97,115]]) rfl (.cons (c:=[Ae [102,108,117,115,104]]) rfl (.cons (c:=[Ae [111,112,116]]) rfl (.cons (c:=[Ae [115,102,101,110,99,101]]) rfl (.cons (c:=[Ae [109,102,101,110,99,101]]) rfl (.cons (c:=[Ae [116,97,107,101]]) rfl (.cons (c:=[Ae [103,105,118,101]]) rfl (.cons (c:=[Ae [105,102]]) rfl (.cons (c:=[Ae [101,108,115,101]]) rfl (.cons (c:=[Ae [108,111,111,112]]) rfl (.cons (c:=[Ae [98,114,101,97,107]]) rfl (.cons (c:=[Ae [99,104,101,99,107]]) rfl (.cons (c:=[Ae [114,101,99,111,118,101,114]]) rfl (.cons (c:=[Ae [97,108,119,97,121,115]]) rfl .nil)))))))))))))))))))))
 refine qa o rfl λo=>re<|tn<|th<|th<|rg<|qa o rfl λo=>re<|tn<|Av (λa w=>Z1e=some r∧Fr 18 [] a∧St w0 Nil [H] [] w) ?_ ?_
 refine wb<|lp (α:=Nat×Int) (λgh a w=>match gh with | (C0,E0)=>(Z1f N Z1e p1) C0 E0=some r∧Fr 18 [(0,Ae p1),(3,.slice (some ⟨b3,0,none⟩) ([[108,105,110,101],[118,111,108],[108,111,99,107],[116,104,114,101,97,100],[114,101,103],[108,111,97,100],[115,116,111,114,101],[99,97,115],[102,108,117,115,104],[111,112,116],[115,102,101,110,99,101],[109,102,101,110,99,101],[116,97,107,101],[103,105,118,101],[105,102],[101,108,115,101],[108,111,111,112],[98,114,101,97,107],[99,104,101,99,107],[114,101,99,111,118,101,114],[97,108,119,97,121,115]]:List Str).length 21),(4,i6 E0)] a∧St w0 Nil [H] [sla 9 1 (some ⟨b3,0,none⟩) ([[108,105,110,101],[118,111,108],[108,111,99,107],[116,104,114,101,97,100],[114,101,103],[108,111,97,100],[115,116,111,114,101],[99,97,115],[102,108,117,115,104],[111,112,116],[115,102,101,110,99,101],[109,102,101,110,99,101],[116,97,107,101],[103,105,118,101],[105,102],[101,108,115,101],[108,111,111,112],[98,114,101,97,107],[99,104,101,99,107],[114,101,99,111,118,101,114],[97,108,119,97,121,115]]:List Str).length 21 [Ae [108,105,110,101],Ae [118,111,108],Ae [108,111,99,107],Ae [116,104,114,101,97,100],Ae [114,101,103],Ae [108,111,97,100],Ae [115,116,111,114,101],Ae [99,97,115],Ae [102,108,117,115,104],Ae [111,112,116],Ae [115,102,101,110,99,101],Ae [109,102,101,110,99,101],Ae [116,97,107,101],Ae [103,105,118,101],Ae [105,102],Ae [101,108,115,101],Ae [108,111,111,112],Ae [98,114,101,97,107],Ae [99,104,101,99,107],Ae [114,101,99,111,118,101,114],Ae [97,108,119,97,121,115]]] w) (λgh=>gh.1) (N,0) ⟨hm,o.hs,u⟩ ?_
 rintro ⟨C0,E0⟩ a w ⟨hm,o,u⟩
 obtain _ | C0:=C0
 simp [Z1f] at hm
 rw [Z1f] at hm
 refine th<|th<|rg<|qm o rfl λo=>qm o rfl λo=>qv o (Aj (α:=Str) (xs:=([[108,105,110,101],[118,111,108],[108,111,99,107],[116,104,114,101,97,100],[114,101,103],[108,111,97,100],[115,116,111,114,101],[99,97,115],[102,108,117,115,104],[111,112,116],[115,102,101,110,99,101],[109,102,101,110,99,101],[116,97,107,101],[103,105,118,101],[105,102],[101,108,115,101],[108,111,111,112],[98,114,101,97,107],[99,104,101,99,107],[114,101,99,111,118,101,114],[97,108,119,97,121,115]]:List Str)) o Ly rfl) λo=>qv o (Am o rfl rfl) λo=>re<|?_
 rcases bip hm with ⟨F0,hm⟩ | ⟨F0,hm⟩
 refine tn<|ctv o rfl F0<|wk<|tn<|th<|wb<|th<|?_
 obtain ⟨J0,h7,hm⟩:=bs hm
 have M0:=Rd.oaI (u.rdO t0) I0 (by decide) h7
 obtain ⟨cz9,O0,K0⟩:=Rows.getI I0 h7
 obtain rfl:cz9=[Ae J0]:=O0
 refine rg<|qm o rfl λo=>qm o rfl λo=>qv o (Co o Ly sizeOf9 rfl rfl h7 M0) λo=>qv o (Ap o isAgg9 rfl (u.ld.elO t0 (K0 0 _ rfl))) λo=>qm o rfl λo=>qv o (Qp (m:=J0) (n:=p1) o rfl rfl) λo=>re<|?_
 rcases bip hm with ⟨D0,hm⟩ | ⟨D0,hm⟩
 refine tn<|ctv o rfl D0<|th<|rg<|qa o rfl λo=>re<|tn<|wr<|br<|tr<|tr<|br<|tr<|?_
 obtain rfl:=si hm
 exact r1 o results100 rfl ⟨rfl,u.keep⟩
 refine tn<|cfv o rfl D0<|wk<|bn<|tn<|rg<|qm o rfl λo=>qv o (Ao o rfl rfl) λo=>qa o rfl λo=>re<|tn<|?_
 exact ⟨(C0,(i64.wrap (E0+1))),⟨hm,o.hs,u⟩,kxd _⟩
 refine tn<|cfv o rfl F0<|we<|tx<|tx<|bx<|tn<|?_
 replace u:=u.pickL .nil
 exact ⟨hm,o.has trivial,u⟩
 rintro a w ⟨hm,o,u⟩
 unfold Z1e at hm
 refine th<|rg<|qa o rfl λo=>re<|tn<|wr<|?_
 obtain rfl:=si hm
 exact r1 o results100 rfl ⟨rfl,u.keep⟩
theorem Jhn (hH:H.le w0) {p1:Int} {r:Bool} (hm:Z1l N p1=some r):Tot Tryz.prog 101 #[.int .u8 p1] w0 (λv w'=>v=.bool r∧Keep Nil w0 w'):=by
 unfold Z1l at hm
 refine fn0 func101 rfl ntmps101 rfl rfl λa o=>?_
 have u:St w0 Nil [H] [] w0:=start1 hH
 refine th<|rg<|qa o rfl λo=>re<|tn<|th<|rg<|qm o rfl λo=>qv o (Bw o rfl rfl) λo=>qm o rfl λo=>gr (Fk:=[(8,.bool ((decide (48≤p1)) && (decide (p1≤57))))]) 5 3 o u ?_ ?_ ?_
 intro hb o key
 exact qg o (Aa o rfl) λo=>qg o (Gd o rfl rfl) λo=>qk o (Ab o rfl rfl) key u hb
 intro hb o key
 iterate 2 refine qn o λo=>?_
 exact qk o (Ac o rfl rfl) key u hb
 intro a w o u
 refine qa o rfl λo=>re<|tn<|wr<|?_
 obtain rfl:=si hm
 exact r1 o results101 rfl ⟨rfl,u.keep⟩
theorem Mg (hH:H.le w0) {p1:Str} {r:Bool} (hm:Z1g N p1=some r):Tot Tryz.prog 87 #[Ae p1] w0 (λv w'=>v=.bool r∧Keep Nil w0 w'):=by
 unfold Z1g at hm
 refine fn0 func87 rfl ntmps87 rfl rfl λa o=>?_
 have u:St w0 Nil [H] [] w0:=start1 hH
 refine th<|rg<|qa o rfl λo=>re<|tn<|th<|th<|Av (λa w=>∃ (M0:Bool),(Z1h N p1) M0=some r∧Fr 40 [(0,Ae p1),(21,.bool M0)] a∧St w0 Nil [H] [] w) ?_ ?_
 rcases bit hm with ⟨K0,hm⟩ | ⟨K0,hm⟩
 refine rg<|qm o rfl λo=>qv o (Ft (s:=p1) o ru9 rfl) λo=>qv o (Am o rfl rfl) λo=>qm o rfl λo=>gr (Fk:=[(0,Ae p1),(11,.bool ((decide ((p1.length:Int) < 1)) || (decide (16 < (p1.length:Int)))))]) 7 4 o u ?_ ?_ ?_
 intro hb o key
 iterate 3 refine qn o λo=>?_
 exact qk o (Ab o rfl rfl) key u hb
 intro hb o key
 exact qg o (Aa o rfl) λo=>qg o (Ft (s:=p1) o ru9 rfl) λo=>qg o (Ba o rfl rfl) λo=>qk o (Ac o rfl rfl) key u hb
 intro a w o u
 refine qv o (As (Aa o rfl) (congrArg Value.bool K0)) λo=>?_
 iterate 4 refine qn o λo=>?_
 refine qv o (Ab o rfl rfl) λo=>qm o rfl λo=>?_
 iterate 2 refine qn o λo=>?_
 refine qv o (Ab o rfl rfl) λo=>re<|tn<|?_
 exact ⟨true,hm,o.hs,u⟩
 obtain ⟨j0,h4,hm⟩:=bs hm
 obtain ⟨Q0,h6,hm⟩:=bs hm
 rcases bit hm with ⟨O0,hm⟩ | ⟨O0,hm⟩
 have O0':(!Q0)=false:=by rw [O0];rfl
 obtain ⟨U0,h9,hm⟩:=bs hm
 refine rg<|qm o rfl λo=>qv o (Ft (s:=p1) o ru9 rfl) λo=>qv o (Am o rfl rfl) λo=>qm o rfl λo=>gr (Fk:=[(0,Ae p1),(11,.bool ((decide ((p1.length:Int) < 1)) || (decide (16 < (p1.length:Int)))))]) 7 4 o u ?_ ?_ ?_
 intro hb o key
 iterate 3 refine qn o λo=>?_
 exact qk o (Ab o rfl rfl) key u hb
 intro hb o key
 exact qg o (Aa o rfl) λo=>qg o (Ft (s:=p1) o ru9 rfl) λo=>qg o (Ba o rfl rfl) λo=>qk o (Ac o rfl rfl) key u hb
 intro a w o u
 refine qv o (As (Aa o rfl) (congrArg Value.bool K0)) λo=>qg o (Aa o rfl) λo=>qg o (N9 (s:=p1) o ru9 rfl rfl h4) λo=>ls<|gy o rfl rfl<|cr o call99 (JaQ (Ag _) h6) u λu o=>qg o (Bi o rfl) λo=>qv o (Ac o rfl rfl) λo=>qv o (As (Aa o rfl) (congrArg Value.bool O0')) λo=>qg o (Aa o rfl) λo=>ls<|gy o rfl rfl<|cr o call100 (Jhh (Ag _) h9) u λu o=>qv o (Ac o rfl rfl) λo=>re<|tn<|?_
 exact ⟨U0,hm,o.hs,u⟩
 have O0':(!Q0)=true:=by rw [O0];rfl
 refine rg<|qm o rfl λo=>qv o (Ft (s:=p1) o ru9 rfl) λo=>qv o (Am o rfl rfl) λo=>qm o rfl λo=>gr (Fk:=[(0,Ae p1),(11,.bool ((decide ((p1.length:Int) < 1)) || (decide (16 < (p1.length:Int)))))]) 7 4 o u ?_ ?_ ?_
 intro hb o key
 iterate 3 refine qn o λo=>?_
 exact qk o (Ab o rfl rfl) key u hb
 intro hb o key
 exact qg o (Aa o rfl) λo=>qg o (Ft (s:=p1) o ru9 rfl) λo=>qg o (Ba o rfl rfl) λo=>qk o (Ac o rfl rfl) key u hb
 intro a w o u
 refine qv o (As (Aa o rfl) (congrArg Value.bool K0)) λo=>qg o (Aa o rfl) λo=>qg o (N9 (s:=p1) o ru9 rfl rfl h4) λo=>ls<|gy o rfl rfl<|cr o call99 (JaQ (Ag _) h6) u λu o=>qg o (Bi o rfl) λo=>qv o (Ac o rfl rfl) λo=>qv o (As (Aa o rfl) (congrArg Value.bool O0')) λo=>?_
 iterate 2 refine qn o λo=>?_
 refine qv o (Ab o rfl rfl) λo=>re<|tn<|?_
 exact ⟨true,hm,o.hs,u⟩
 rintro a w ⟨M0,hm,o,u⟩
 unfold Z1h at hm
 rcases bit hm with ⟨E0,hm⟩ | ⟨E0,hm⟩
 refine ctv o rfl E0<|th<|rg<|qa o rfl λo=>re<|tn<|wr<|tr<|?_
 obtain rfl:=si hm
 exact r1 o results87 rfl ⟨rfl,u.keep⟩
 refine cfv o rfl E0<|wk<|tn<|th<|th<|rg<|qa o rfl λo=>re<|tn<|Av (λa w=>Z1i=some r∧Fr 40 [] a∧St w0 Nil [H] [] w) ?_ ?_
 refine wb<|lp (α:=Nat×Int) (λgh a w=>match gh with | (C0,D0)=>(Z1k N Z1i p1) C0 D0=some r∧Fr 40 [(0,Ae p1),(3,i6 D0)] a∧St w0 Nil [H] [] w) (λgh=>gh.1) (N,0) ⟨hm,o.hs,u⟩ ?_
 rintro ⟨C0,D0⟩ a w ⟨hm,o,u⟩
 obtain _ | C0:=C0
 simp [Z1k] at hm
 rw [Z1k] at hm
 refine th<|th<|rg<|qm o rfl λo=>qm o rfl λo=>qv o (Ft (s:=p1) o ru9 rfl) λo=>qv o (Am o rfl rfl) λo=>re<|?_
 rcases bip hm with ⟨F0,hm⟩ | ⟨F0,hm⟩
 refine tn<|ctv o rfl F0<|wk<|tn<|th<|wb<|th<|Av (λa w=>∃ (P0:Bool),(Z1j (Z1k N Z1i p1 C0) D0) P0=some r∧Fr 40 [(0,Ae p1),(3,i6 D0),(39,.bool P0)] a∧St w0 Nil [H] [] w) ?_ ?_
 obtain ⟨n0,R0,hm⟩:=bs hm
 obtain ⟨S0,T0,hm⟩:=bs hm
 rcases bit hm with ⟨I0,hm⟩ | ⟨I0,hm⟩
 have I0':(!S0)=false:=by rw [I0];rfl
 refine rg<|qm o rfl λo=>qm o rfl λo=>qv o (N9 (s:=p1) o ru9 rfl rfl R0) λo=>ls<|cr o call99 (JaQ (Ag _) T0) u λu o=>qv o (Bi o rfl) λo=>qv o (As (Aa o rfl) (congrArg Value.bool I0')) λo=>?_
 iterate 5 refine qn o λo=>?_
 refine qv o (Ac o rfl rfl) λo=>re<|tn<|?_
 exact ⟨false,hm,o.hs,u⟩
 have I0':(!S0)=true:=by rw [I0];rfl
 obtain ⟨C1,V0,hm⟩:=bs hm
 obtain ⟨W0,Y0,hm⟩:=bs hm
 refine rg<|qm o rfl λo=>qm o rfl λo=>qv o (N9 (s:=p1) o ru9 rfl rfl R0) λo=>ls<|cr o call99 (JaQ (Ag _) T0) u λu o=>qv o (Bi o rfl) λo=>qv o (As (Aa o rfl) (congrArg Value.bool I0')) λo=>?_
 iterate 2 refine qg o (Aa o rfl) λo=>?_
 refine qg o (N9 (s:=p1) o ru9 rfl rfl V0) λo=>ls<|gy o rfl rfl<|cr o call101 (Jhn (Ag _) Y0) u λu o=>qg o (Bi o rfl) λo=>qv o (Ab o rfl rfl) λo=>re<|tn<|?_
 exact ⟨(!W0),hm,o.hs,u⟩
 rintro a w ⟨P0,hm,o,u⟩
 unfold Z1j at hm
 rcases bit hm with ⟨J0,hm⟩ | ⟨J0,hm⟩
 refine ctv o rfl J0<|th<|rg<|qa o rfl λo=>re<|tn<|wr<|br<|tr<|tr<|br<|tr<|?_
 obtain rfl:=si hm
 exact r1 o results87 rfl ⟨rfl,u.keep⟩
 refine cfv o rfl J0<|wk<|bn<|tn<|rg<|qm o rfl λo=>qv o (Ao o rfl rfl) λo=>qa o rfl λo=>re<|tn<|?_
 exact ⟨(C0,(i64.wrap (D0+1))),⟨hm,o.hs,u⟩,kxd _⟩
 refine tn<|cfv o rfl F0<|we<|tx<|tx<|bx<|tn<|?_
 exact ⟨hm,o.has trivial,u⟩
 rintro a w ⟨hm,o,u⟩
 unfold Z1i at hm
 refine th<|rg<|qa o rfl λo=>re<|tn<|wr<|?_
 obtain rfl:=si hm
 exact r1 o results87 rfl ⟨rfl,u.keep⟩
theorem Xb (hH:H.le w0) {p1:Int} {r:Bool} (hm:Z2q N p1=some r):Tot Tryz.prog 82 #[i6 p1] w0 (λv w'=>v=.bool r∧Keep Nil w0 w'):=by
 unfold Z2q at hm
 refine fn0 func82 rfl ntmps82 rfl rfl λa o=>?_
 have u:St w0 Nil [H] [] w0:=start1 hH
 refine th<|rg<|qa o rfl λo=>re<|tn<|th<|rg<|qm o rfl λo=>qv o (Bw o rfl rfl) λo=>qm o rfl λo=>gr (Fk:=[(8,.bool ((decide (0≤p1)) && (decide (p1≤4000))))]) 5 3 o u ?_ ?_ ?_
 intro hb o key
 exact qg o (Aa o rfl) λo=>qg o (Gd o rfl rfl) λo=>qk o (Ab o rfl rfl) key u hb
 intro hb o key
 iterate 2 refine qn o λo=>?_
 exact qk o (Ac o rfl rfl) key u hb
 intro a w o u
 refine qa o rfl λo=>re<|tn<|wr<|?_
 obtain rfl:=si hm
 exact r1 o results82 rfl ⟨rfl,u.keep⟩
theorem O9 (hH:H.le w0) {F0:Option Addr} {C0:Nat} {p1:(List api_Cell)} (W0:p1.length≤C0) (I0:SR H F0 p1) {p6:Int} {r:Bool} (hm:Z2m N p1 p6=some r):Tot Tryz.prog 81 #[SL F0 p1 C0,i6 p6] w0 (λv w'=>v=.bool r∧Keep Nil w0 w'):=by
 unfold Z2m at hm
 refine fn0 func81 rfl ntmps81 rfl rfl λa o=>?_
 have u:St w0 Nil [H] [] w0:=start1 hH
 refine th<|rg<|qa o rfl λo=>re<|tn<|th<|th<|rg<|qa o rfl λo=>re<|tn<|Av (λa w=>Z2n=some r∧Fr 45 [] a∧St w0 Nil [H] [] w) ?_ ?_
 refine wb<|lp (α:=Nat×Int) (λgh a w=>match gh with | (J0,D0)=>(Z2p N Z2n p1 p6) J0 D0=some r∧Fr 45 [(0,SL F0 p1 C0),(1,i6 p6),(5,i6 D0)] a∧St w0 Nil [H] [] w) (λgh=>gh.1) (N,0) ⟨hm,o.hs,u⟩ ?_
 rintro ⟨J0,D0⟩ a w ⟨hm,o,u⟩
 obtain _ | J0:=J0
 simp [Z2p] at hm
 rw [Z2p] at hm
 refine th<|th<|rg<|qm o rfl λo=>qm o rfl λo=>qv o (Aj (α:=api_Cell) (xs:=p1) o Fz rfl) λo=>qv o (Am o rfl rfl) λo=>re<|?_
 rcases bip hm with ⟨Q0,hm⟩ | ⟨Q0,hm⟩
 refine tn<|ctv o rfl Q0<|wk<|tn<|th<|wb<|th<|Av (λa w=>∃ (R0:Bool),(Z2o (Z2p N Z2n p1 p6 J0) D0) R0=some r∧Fr 45 [(0,SL F0 p1 C0),(1,i6 p6),(5,i6 D0),(44,.bool R0)] a∧St w0 Nil [H] [] w) ?_ ?_
 obtain ⟨K0,h9,hm⟩:=bs hm
 obtain ⟨Y0,T0,E0⟩:=SR.get I0 h9
 obtain rfl:=Ex T0
 obtain ⟨P0,S0,hm⟩:=bs hm
 rcases bit hm with ⟨M0,hm⟩ | ⟨M0,hm⟩
 refine rg<|qm o rfl λo=>qm o rfl λo=>qv o (eI o Fz sizeOf134 rfl rfl h9 I0) λo=>qf o Jw rfl λo=>qv o (eD o isAgg9 rfl u.ld (E0 0 _ rfl)) λo=>ls<|cr o call87 (Mg (Ag _) S0) u λu o=>qv o (Bi o rfl) λo=>qm o rfl λo=>gr (Fk:=[(0,SL F0 p1 C0),(1,i6 p6),(5,i6 D0),(26,.bool ((!P0) || (decide (K0.N < 0))))]) 19 7 o u ?_ ?_ ?_
 intro hb o key
 iterate 6 refine qn o λo=>?_
 exact qk o (Ab o rfl rfl) key u hb
 intro hb o key
 iterate 2 refine qg o (Aa o rfl) λo=>?_
 exact qg o (eI o Fz sizeOf134 rfl rfl h9 I0) λo=>qg o (Ad o Nk rfl) λo=>qg o (eD o isAgg3 rfl u.ld (E0 1 _ rfl)) λo=>qg o (Am o rfl rfl) λo=>qk o (Ac o rfl rfl) key u hb
 intro a w o u
 refine qm o rfl λo=>gr (Fk:=[(0,SL F0 p1 C0),(1,i6 p6),(5,i6 D0),(35,.bool (((!P0) || (decide (K0.N < 0))) || (decide (p6 < K0.N))))]) 27 8 o u ?_ ?_ ?_
 intro hb o key
 iterate 7 refine qn o λo=>?_
 exact qk o (Ab o rfl rfl) key u hb
 intro hb o key
 iterate 2 refine qg o (Aa o rfl) λo=>?_
 exact qg o (eI o Fz sizeOf134 rfl rfl h9 I0) λo=>qg o (Ad o Nk rfl) λo=>qg o (eD o isAgg3 rfl u.ld (E0 1 _ rfl)) λo=>qg o (Aa o rfl) λo=>qg o (Ba o rfl rfl) λo=>qk o (Ac o rfl rfl) key u hb
 intro a w o u
 refine qv o (As (Aa o rfl) (congrArg Value.bool M0)) λo=>?_
 iterate 7 refine qn o λo=>?_
 refine qv o (Ab o rfl rfl) λo=>re<|tn<|?_
 exact ⟨true,hm,o.hs,u⟩
 obtain ⟨U0,V0,hm⟩:=bs hm
 refine rg<|qm o rfl λo=>qm o rfl λo=>qv o (eI o Fz sizeOf134 rfl rfl h9 I0) λo=>qf o Jw rfl λo=>qv o (eD o isAgg9 rfl u.ld (E0 0 _ rfl)) λo=>ls<|cr o call87 (Mg (Ag _) S0) u λu o=>qv o (Bi o rfl) λo=>qm o rfl λo=>gr (Fk:=[(0,SL F0 p1 C0),(1,i6 p6),(5,i6 D0),(26,.bool ((!P0) || (decide (K0.N < 0))))]) 19 7 o u ?_ ?_ ?_
 intro hb o key
 iterate 6 refine qn o λo=>?_
 exact qk o (Ab o rfl rfl) key u hb
 intro hb o key
 iterate 2 refine qg o (Aa o rfl) λo=>?_
 exact qg o (eI o Fz sizeOf134 rfl rfl h9 I0) λo=>qg o (Ad o Nk rfl) λo=>qg o (eD o isAgg3 rfl u.ld (E0 1 _ rfl)) λo=>qg o (Am o rfl rfl) λo=>qk o (Ac o rfl rfl) key u hb
 intro a w o u
 refine qm o rfl λo=>gr (Fk:=[(0,SL F0 p1 C0),(1,i6 p6),(5,i6 D0),(35,.bool (((!P0) || (decide (K0.N < 0))) || (decide (p6 < K0.N))))]) 27 8 o u ?_ ?_ ?_
 intro hb o key
 iterate 7 refine qn o λo=>?_
 exact qk o (Ab o rfl rfl) key u hb
 intro hb o key
 iterate 2 refine qg o (Aa o rfl) λo=>?_
 exact qg o (eI o Fz sizeOf134 rfl rfl h9 I0) λo=>qg o (Ad o Nk rfl) λo=>qg o (eD o isAgg3 rfl u.ld (E0 1 _ rfl)) λo=>qg o (Aa o rfl) λo=>qg o (Ba o rfl rfl) λo=>qk o (Ac o rfl rfl) key u hb
 intro a w o u
 refine qv o (As (Aa o rfl) (congrArg Value.bool M0)) λo=>?_
 iterate 2 refine qg o (Aa o rfl) λo=>?_
 refine qg o (eI o Fz sizeOf134 rfl rfl h9 I0) λo=>qg o (Ad o JaK rfl) λo=>qg o (eD o isAgg3 rfl u.ld (E0 2 _ rfl)) λo=>ls<|gy o rfl rfl<|cr o call82 (Xb (Ag _) V0) u λu o=>qg o (Bi o rfl) λo=>qv o (Ac o rfl rfl) λo=>re<|tn<|?_
 exact ⟨(!U0),hm,o.hs,u⟩
 rintro a w ⟨R0,hm,o,u⟩
 unfold Z2o at hm
 rcases bit hm with ⟨O0,hm⟩ | ⟨O0,hm⟩
 refine ctv o rfl O0<|th<|rg<|qa o rfl λo=>re<|tn<|wr<|br<|tr<|tr<|br<|tr<|?_
 obtain rfl:=si hm
 exact r1 o results81 rfl ⟨rfl,u.keep⟩
 refine cfv o rfl O0<|wk<|bn<|tn<|rg<|qm o rfl λo=>qv o (Ao o rfl rfl) λo=>qa o rfl λo=>re<|tn<|?_
 exact ⟨(J0,(i64.wrap (D0+1))),⟨hm,o.hs,u⟩,kxd _⟩
 refine tn<|cfv o rfl Q0<|we<|tx<|tx<|bx<|tn<|?_
 exact ⟨hm,o.has trivial,u⟩
 rintro a w ⟨hm,o,u⟩
 unfold Z2n at hm
 refine th<|rg<|qa o rfl λo=>re<|tn<|wr<|?_
 obtain rfl:=si hm
 exact r1 o results81 rfl ⟨rfl,u.keep⟩
theorem JaE (hH:H.le w0) {p1:Int} {r:Int} (hm:Z1r N p1=some r):Tot Tryz.prog 89 #[i6 p1] w0 (λv w'=>v=i6 r∧Keep Nil w0 w'):=by
 unfold Z1r at hm
 refine fn0 func89 rfl ntmps89 rfl rfl λa o=>?_
 have u:St w0 Nil [H] [] w0:=start1 hH
 refine th<|rg<|qa o rfl λo=>re<|tn<|th<|th<|rg<|qm o rfl λo=>qv o (Ah o rfl rfl) λo=>qm o rfl λo=>gr (Fk:=[(0,i6 p1),(8,.bool ((decide (p1=1)) || (decide (p1=2))))]) 5 3 o u ?_ ?_ ?_
 intro hb o key
 iterate 2 refine qn o λo=>?_
 exact qk o (Ab o rfl rfl) key u hb
 intro hb o key
 exact qg o (Aa o rfl) λo=>qg o (Ah o rfl rfl) λo=>qk o (Ac o rfl rfl) key u hb
 intro a w o u
 refine re<|?_
 rcases bit hm with ⟨C0,hm⟩ | ⟨C0,hm⟩
 refine tn<|ctv o rfl C0<|th<|rg<|qa o rfl λo=>re<|tn<|wr<|tr<|?_
 obtain rfl:=si hm
 exact r1 o results89 rfl ⟨rfl,u.keep⟩
 refine tn<|cfv o rfl C0<|wk<|tn<|th<|th<|rg<|qm o rfl λo=>qv o (Ah o rfl rfl) λo=>qm o rfl λo=>gr (Fk:=[(0,i6 p1),(14,.bool ((decide (p1=3)) || (decide (p1=4))))]) 11 3 o u ?_ ?_ ?_
 intro hb o key
 iterate 2 refine qn o λo=>?_
 exact qk o (Ab o rfl rfl) key u hb
 intro hb o key
 exact qg o (Aa o rfl) λo=>qg o (Ah o rfl rfl) λo=>qk o (Ac o rfl rfl) key u hb
 intro a w o u
 refine re<|?_
 rcases bit hm with ⟨D0,hm⟩ | ⟨D0,hm⟩
 refine tn<|ctv o rfl D0<|th<|rg<|qa o rfl λo=>re<|tn<|wr<|tr<|?_
 obtain rfl:=si hm
 exact r1 o results89 rfl ⟨rfl,u.keep⟩
 refine tn<|cfv o rfl D0<|wk<|tn<|th<|th<|rg<|qm o rfl λo=>qv o (Bw o rfl rfl) λo=>qm o rfl λo=>gr (Fk:=[(20,.bool ((decide (5≤p1)) && (decide (p1≤15))))]) 17 3 o u ?_ ?_ ?_
 intro hb o key
 exact qg o (Aa o rfl) λo=>qg o (Gd o rfl rfl) λo=>qk o (Ab o rfl rfl) key u hb
 intro hb o key
 iterate 2 refine qn o λo=>?_
 exact qk o (Ac o rfl rfl) key u hb
 intro a w o u
 refine re<|?_
 rcases bit hm with ⟨E0,hm⟩ | ⟨E0,hm⟩
 refine tn<|ctv o rfl E0<|th<|rg<|qa o rfl λo=>re<|tn<|wr<|tr<|?_
 obtain rfl:=si hm
 exact r1 o results89 rfl ⟨rfl,u.keep⟩
 refine tn<|cfv o rfl E0<|wk<|tn<|th<|rg<|qa o rfl λo=>re<|tn<|wr<|?_
 obtain rfl:=si hm
 exact r1 o results89 rfl ⟨rfl,u.keep⟩
theorem Jdd:∀ (N:Nat) {w0:World} {H:PH} (hH:H.le w0) {D0:Option Addr} {C0:Nat} {p1:(List api_Node)} (R0:p1.length≤C0) (E0:SR H D0 p1) {p6:Int} {r:Int} (hm:Z1n N p1 p6=some r),Tot Tryz.prog 86 #[SL D0 p1 C0,i6 p6] w0 (λv w'=>v=i6 r∧Keep Nil w0 w'):=by
 intro N
 induction N with
  | zero=>intros;rename_i hm;simp [Z1n] at hm
  | succ N ih=>
 intro w0 H hH D0 C0 p1 R0 E0 p6 r hm
 rw [Z1n] at hm
 refine fn0 func86 rfl ntmps86 rfl rfl λa o=>?_
 have u:St w0 Nil [H] [] w0:=start1 hH
 refine th<|rg<|qa o rfl λo=>re<|tn<|th<|th<|Av (λa w=>∃ (O0:Bool),(Z1o (Z1n N) N p1 p6) O0=some r∧Fr 44 [(0,SL D0 p1 C0),(1,i6 p6),(23,.bool O0)] a∧St w0 Nil [H] [] w) ?_ ?_
 rcases bit hm with ⟨P0,hm⟩ | ⟨P0,hm⟩
 refine rg<|qm o rfl λo=>qv o (Am o rfl rfl) λo=>qm o rfl λo=>gr (Fk:=[(0,SL D0 p1 C0),(1,i6 p6),(14,.bool ((decide (p6 < 0)) || (decide ((p1.length:Int)≤p6))))]) 9 5 o u ?_ ?_ ?_
 intro hb o key
 iterate 4 refine qn o λo=>?_
 exact qk o (Ab o rfl rfl) key u hb
 intro hb o key
 iterate 2 refine qg o (Aa o rfl) λo=>?_
 exact qg o (Aj (α:=api_Node) (xs:=p1) o Fq rfl) λo=>qg o (Bw o rfl rfl) λo=>qk o (Ac o rfl rfl) key u hb
 intro a w o u
 refine qv o (As (Aa o rfl) (congrArg Value.bool P0)) λo=>?_
 iterate 7 refine qn o λo=>?_
 refine qv o (Ab o rfl rfl) λo=>re<|tn<|?_
 exact ⟨true,hm,o.hs,u⟩
 obtain ⟨F1,h9,hm⟩:=bs hm
 obtain ⟨I1,V0,T0⟩:=SR.get E0 h9
 obtain rfl:=Cf V0
 obtain ⟨W0,Y0,hm⟩:=bs hm
 refine rg<|qm o rfl λo=>qv o (Am o rfl rfl) λo=>qm o rfl λo=>gr (Fk:=[(0,SL D0 p1 C0),(1,i6 p6),(14,.bool ((decide (p6 < 0)) || (decide ((p1.length:Int)≤p6))))]) 9 5 o u ?_ ?_ ?_
 intro hb o key
 iterate 4 refine qn o λo=>?_
 exact qk o (Ab o rfl rfl) key u hb
 intro hb o key
 iterate 2 refine qg o (Aa o rfl) λo=>?_
 exact qg o (Aj (α:=api_Node) (xs:=p1) o Fq rfl) λo=>qg o (Bw o rfl rfl) λo=>qk o (Ac o rfl rfl) key u hb
 intro a w o u
 refine qv o (As (Aa o rfl) (congrArg Value.bool P0)) λo=>?_
 iterate 2 refine qg o (Aa o rfl) λo=>?_
 refine qg o (eI o Fq sizeOf141 rfl rfl h9 E0) λo=>qg o (Ad o Cy rfl) λo=>qg o (eD o isAgg3 rfl u.ld (T0 0 _ rfl)) λo=>ls<|gy o rfl rfl<|cr o call89 (JaE (Ag _) Y0) u λu o=>qg o (Am o rfl rfl) λo=>qv o (Ac o rfl rfl) λo=>re<|tn<|?_
 exact ⟨(decide (W0 < 0)),hm,o.hs,u⟩
 rintro a w ⟨O0,hm,o,u⟩
 unfold Z1o at hm
 rcases bit hm with ⟨K0,hm⟩ | ⟨K0,hm⟩
 refine ctv o rfl K0<|th<|rg<|qa o rfl λo=>re<|tn<|wr<|tr<|?_
 obtain rfl:=si hm
 exact r1 o results86 rfl ⟨rfl,u.keep⟩
 refine cfv o rfl K0<|wk<|tn<|th<|rg<|qm o rfl λo=>qv o (Ao o rfl rfl) λo=>qa o rfl λo=>re<|tn<|th<|th<|rg<|qa o rfl λo=>re<|tn<|Av (λa w=>∃ (Q0:Int),Z1p Q0=some r∧Fr 44 [(5,i6 Q0)] a∧St w0 Nil [H] [] w) ?_ ?_
 refine wb<|lp (α:=Nat×Int×Int) (λgh a w=>match gh with | (J0,F0,I0)=>(Z1q (Z1n N) N Z1p p1 p6) J0 F0 I0=some r∧Fr 44 [(0,SL D0 p1 C0),(1,i6 p6),(5,i6 F0),(6,i6 I0)] a∧St w0 Nil [H] [] w) (λgh=>gh.1) (N,(i64.wrap (p6+1)),0) ⟨hm,o.hs,u⟩ ?_
 rintro ⟨J0,F0,I0⟩ a w ⟨hm,o,u⟩
 obtain _ | J0:=J0
 simp [Z1q] at hm
 rw [Z1q] at hm
 refine th<|th<|?_
 obtain ⟨J1,S0,hm⟩:=bs hm
 obtain ⟨O1,j0,U0⟩:=SR.get E0 S0
 obtain rfl:=Cf j0
 obtain ⟨n0,C1,hm⟩:=bs hm
 refine rg<|qm o rfl λo=>?_
 iterate 2 refine qm o rfl λo=>?_
 refine qv o (eI o Fq sizeOf141 rfl rfl S0 E0) λo=>qf o Cy rfl λo=>qv o (eD o isAgg3 rfl u.ld (U0 0 _ rfl)) λo=>ls<|cr o call89 (JaE (Ag _) C1) u λu o=>qv o (Am o rfl rfl) λo=>qm o rfl λo=>gr (Fk:=[(0,SL D0 p1 C0),(1,i6 p6),(5,i6 F0),(6,i6 I0),(37,.bool ((decide (I0 < n0)) && (decide (0≤F0))))]) 34 3 o u ?_ ?_ ?_
 intro hb o key
 exact qg o (Aa o rfl) λo=>qg o (Bw o rfl rfl) λo=>qk o (Ab o rfl rfl) key u hb
 intro hb o key
 iterate 2 refine qn o λo=>?_
 exact qk o (Ac o rfl rfl) key u hb
 intro a w o u
 refine re<|?_
 rcases bit hm with ⟨M0,hm⟩ | ⟨M0,hm⟩
 refine tn<|ctv o rfl M0<|wk<|tn<|th<|wb<|?_
 obtain ⟨D1,E1,hm⟩:=bs hm
 refine rg<|qm o rfl λo=>qm o rfl λo=>ls<|cr o call86 (ih (Ag _) R0 (St.srH u E0) E1) u λu o=>qa o rfl λo=>re<|bn<|tn<|rg<|qm o rfl λo=>qv o (Ao o rfl rfl) λo=>qa o rfl λo=>re<|tn<|?_
 exact ⟨(J0,D1,(i64.wrap (I0+1))),⟨hm,o.hs,u⟩,kxd _⟩
 refine tn<|cfv o rfl M0<|we<|tx<|tx<|bx<|tn<|?_
 exact ⟨F0,hm,o.hs,u⟩
 rintro a w ⟨Q0,hm,o,u⟩
 unfold Z1p at hm
 refine th<|rg<|qm o rfl λo=>qa o rfl λo=>re<|tn<|wr<|?_
 obtain rfl:=si hm
 exact r1 o results86 rfl ⟨rfl,u.keep⟩
theorem Jge:∀ (N:Nat) {w0:World} {H:PH} (hH:H.le w0) {J0:Option Addr} {C0:Nat} {p1:(List api_Node)} (M0:p1.length≤C0) (D0:SR H J0 p1) {p6:Int} {r:Int} (hm:Z1x N p1 p6=some r),Tot Tryz.prog 88 #[SL J0 p1 C0,i6 p6] w0 (λv w'=>v=i6 r∧Keep Nil w0 w'):=by
 intro N
 induction N with
  | zero=>intros;rename_i hm;simp [Z1x] at hm
  | succ N ih=>
 intro w0 H hH J0 C0 p1 M0 D0 p6 r hm
 rw [Z1x] at hm
 refine fn0 func88 rfl ntmps88 rfl rfl λa o=>?_
 have u:St w0 Nil [H] [] w0:=start1 hH
 refine th<|rg<|qa o rfl λo=>re<|tn<|th<|rg<|qm o rfl λo=>qv o (Ao o rfl rfl) λo=>?_
 iterate 2 refine qa o rfl λo=>?_
 refine re<|tn<|th<|th<|rg<|qa o rfl λo=>re<|tn<|Av (λa w=>∃ (O0:Int),Z1y O0=some r∧Fr 30 [(5,i6 O0)] a∧St w0 Nil [H] [] w) ?_ ?_
 refine wb<|lp (α:=Nat×Int×Int×Int) (λgh a w=>match gh with | (E0,F0,P0,K0)=>(Z1z (Z1x N) N Z1y p1 p6) E0 F0 P0 K0=some r∧Fr 30 [(0,SL J0 p1 C0),(1,i6 p6),(5,i6 F0),(6,i6 P0),(7,i6 K0)] a∧St w0 Nil [H] [] w) (λgh=>gh.1) (N,0,(i64.wrap (p6+1)),0) ⟨hm,o.hs,u⟩ ?_
 rintro ⟨E0,F0,P0,K0⟩ a w ⟨hm,o,u⟩
 obtain _ | E0:=E0
 simp [Z1z] at hm
 rw [Z1z] at hm
 refine th<|th<|?_
 obtain ⟨Y0,h8,hm⟩:=bs hm
 obtain ⟨cz9,R0,Q0⟩:=SR.get D0 h8
 obtain rfl:=Cf R0
 obtain ⟨j0,S0,hm⟩:=bs hm
 refine rg<|qm o rfl λo=>?_
 iterate 2 refine qm o rfl λo=>?_
 refine qv o (eI o Fq sizeOf141 rfl rfl h8 D0) λo=>qf o Cy rfl λo=>qv o (eD o isAgg3 rfl u.ld (Q0 0 _ rfl)) λo=>ls<|cr o call89 (JaE (Ag _) S0) u λu o=>qv o (Am o rfl rfl) λo=>re<|?_
 rcases bip hm with ⟨I0,hm⟩ | ⟨I0,hm⟩
 refine tn<|ctv o rfl I0<|wk<|tn<|th<|wb<|th<|?_
 obtain ⟨T0,U0,hm⟩:=bs hm
 refine rg<|qm o rfl λo=>?_
 iterate 2 refine qm o rfl λo=>?_
 refine ls<|cr o call88 (ih (Ag _) M0 (St.srH u D0) U0) u λu o=>qv o (JaX o rfl rfl) λo=>qa o rfl λo=>re<|tn<|?_
 obtain ⟨V0,W0,hm⟩:=bs hm
 refine rg<|qm o rfl λo=>qm o rfl λo=>ls<|cr o call86 (Jdd _ (Ag _) M0 (St.srH u D0) W0) u λu o=>qa o rfl λo=>re<|bn<|tn<|rg<|qm o rfl λo=>qv o (Ao o rfl rfl) λo=>qa o rfl λo=>re<|tn<|?_
 exact ⟨(E0,(max F0 T0),V0,(i64.wrap (K0+1))),⟨hm,o.hs,u⟩,kxd _⟩
 refine tn<|cfv o rfl I0<|we<|tx<|tx<|bx<|tn<|?_
 exact ⟨F0,hm,o.hs,u⟩
 rintro a w ⟨O0,hm,o,u⟩
 unfold Z1y at hm
 refine th<|rg<|qm o rfl λo=>qv o (Ao o rfl rfl) λo=>qa o rfl λo=>re<|tn<|wr<|?_
 obtain rfl:=si hm
 exact r1 o results88 rfl ⟨rfl,u.keep⟩
theorem Wn (hH:H.le w0) {E0:Option Addr} {D0:Nat} {p1:(List api_Node)} (V0:p1.length≤D0) (Q0:SR H E0 p1) {r:Bool} (hm:Z1s N p1=some r):Tot Tryz.prog 61 #[SL E0 p1 D0] w0 (λv w'=>v=.bool r∧Keep Nil w0 w'):=by
 unfold Z1s at hm
 refine fn0 func61 rfl ntmps61 rfl rfl λa o=>?_
 have u:St w0 Nil [H] [] w0:=start1 hH
 refine th<|rg<|qa o rfl λo=>re<|tn<|th<|th<|Av (λa w=>∃ (R0:Bool),(Z1t N p1) R0=some r∧Fr 77 [(0,SL E0 p1 D0),(14,.bool R0)] a∧St w0 Nil [H] [] w) ?_ ?_
 rcases bip hm with ⟨S0,hm⟩ | ⟨S0,hm⟩
 refine rg<|qm o rfl λo=>qv o (Aj (α:=api_Node) (xs:=p1) o Fq rfl) λo=>qv o (Ba o rfl rfl) λo=>qv o (As (Aa o rfl) (congrArg Value.bool S0)) λo=>?_
 iterate 5 refine qn o λo=>?_
 refine qv o (Ab o rfl rfl) λo=>re<|tn<|?_
 exact ⟨true,hm,o.hs,u⟩
 obtain ⟨j0,h8,hm⟩:=bs hm
 refine rg<|qm o rfl λo=>qv o (Aj (α:=api_Node) (xs:=p1) o Fq rfl) λo=>qv o (Ba o rfl rfl) λo=>qv o (As (Aa o rfl) (congrArg Value.bool S0)) λo=>qg o (Aa o rfl) λo=>ls<|gy o rfl rfl<|cr o call86 (Jdd _ (Ag _) V0 (St.srH u Q0) h8) u λu o=>qg o (Aa o rfl) λo=>qg o (Aj (α:=api_Node) (xs:=p1) o Fq rfl) λo=>qg o (Bg o rfl rfl) λo=>qv o (Ac o rfl rfl) λo=>re<|tn<|?_
 exact ⟨(decide (j0≠(p1.length:Int))),hm,o.hs,u⟩
 rintro a w ⟨R0,hm,o,u⟩
 unfold Z1t at hm
 rcases bit hm with ⟨T0,hm⟩ | ⟨T0,hm⟩
 refine ctv o rfl T0<|th<|rg<|qa o rfl λo=>re<|tn<|wr<|tr<|?_
 obtain rfl:=si hm
 exact r1 o results61 rfl ⟨rfl,u.keep⟩
 refine cfv o rfl T0<|wk<|tn<|th<|th<|rg<|qa o rfl λo=>re<|tn<|Av (λa w=>(Z1u N p1)=some r∧Fr 77 [(0,SL E0 p1 D0)] a∧St w0 Nil [H] [] w) ?_ ?_
 refine wb<|lp (α:=Nat×Int) (λgh a w=>match gh with | (J0,F0)=>(Z1w N (Z1u N p1) p1) J0 F0=some r∧Fr 77 [(0,SL E0 p1 D0),(3,i6 F0)] a∧St w0 Nil [H] [] w) (λgh=>gh.1) (N,0) ⟨hm,o.hs,u⟩ ?_
 rintro ⟨J0,F0⟩ a w ⟨hm,o,u⟩
 obtain _ | J0:=J0
 simp [Z1w] at hm
 rw [Z1w] at hm
 refine th<|th<|rg<|qm o rfl λo=>qm o rfl λo=>qv o (Aj (α:=api_Node) (xs:=p1) o Fq rfl) λo=>qv o (Am o rfl rfl) λo=>re<|?_
 rcases bip hm with ⟨M0,hm⟩ | ⟨M0,hm⟩
 refine tn<|ctv o rfl M0<|wk<|tn<|th<|wb<|th<|?_
 obtain ⟨C0,W0,hm⟩:=bs hm
 obtain ⟨F1,n0,Y0⟩:=SR.get Q0 W0
 obtain rfl:=Cf n0
 refine rg<|qm o rfl λo=>qm o rfl λo=>qv o (eI o Fq sizeOf141 rfl rfl W0 Q0) λo=>qv o (eC o isAgg141 sizeOf141 rfl u.ld Y0) λo=>ls<|Aq (cs:=[i6 0,i6 0,Ae [],i6 0].toArray) o rfl u zeroValue141 rfl λI0 w a u o=>ls<|Ar o u sizeOf141 rfl rfl rfl rfl (Ak rfl) .head λw u=>re<|tn<|th<|Av (λa w=>∃ (U0:Bool),(Z1v (Z1w N (Z1u N p1) p1 J0) F0) U0=some r∧Fr 77 [(0,SL E0 p1 D0),(3,i6 F0),(73,.bool U0)] a∧St w0 Nil [H] [] w) ?_ ?_
 rcases bit hm with ⟨K0,hm⟩ | ⟨K0,hm⟩
 refine rg<|qf o Ji rfl λo=>qB o isAgg3 rfl u t0 rfl λo=>qv o (Am o rfl rfl) λo=>qm o rfl λo=>gr (Fk:=[(0,SL E0 p1 D0),(3,i6 F0),(4,PT I0),(32,.bool ((decide (C0.At < 0)) || (decide (4000 < C0.At))))]) 28 4 o u ?_ ?_ ?_
 intro hb o key
 iterate 3 refine qn o λo=>?_
 exact qk o (Ab o rfl rfl) key u hb
 intro hb o key
 exact qg o (Ad o Ji rfl) λo=>qg o (eB o isAgg3 rfl u.ld t0 rfl) λo=>qg o (Ba o rfl rfl) λo=>qk o (Ac o rfl rfl) key u hb
 intro a w o u
 refine qm o rfl λo=>gr (Fk:=[(0,SL E0 p1 D0),(3,i6 F0),(4,PT I0),(42,.bool (((decide (C0.At < 0)) || (decide (4000 < C0.At))) || ((decide (C0.Op≠1)) && (decide (C0.N≠0)))))]) 33 9 o u ?_ ?_ ?_
 intro hb o key
 iterate 4 refine qn o λo=>?_
 iterate 3 refine ls<|gnu o rfl rfl rfl λa o=>?_
 exact qn o λo=>qk o (Ab o rfl rfl) key u hb
 intro hb o key
 refine qg o (Ad o Cy rfl) λo=>qg o (eB o isAgg3 rfl u.ld t0 rfl) λo=>qg o (Bg o rfl rfl) λo=>qg o (Aa o rfl) λo=>gr (Fk:=[(0,SL E0 p1 D0),(3,i6 F0),(4,PT I0),(33,.bool false),(41,.bool ((decide (C0.Op≠1)) && (decide (C0.N≠0))))]) 37 4 o u ?_ ?_ ?_
 intro hb o key
 exact qg o (Ad o Gp rfl) λo=>qg o (eB o isAgg3 rfl u.ld t0 rfl) λo=>qg o (Bg o rfl rfl) λo=>ql o (Ab o rfl rfl) key u hb
 intro hb o key
 iterate 3 refine qn o λo=>?_
 exact ql o (Ac o rfl rfl) key u hb
 intro a w o u
 exact qk o (Ac o rfl rfl) key u hb
 intro a w o u
 refine qm o rfl λo=>gr (Fk:=[(0,SL E0 p1 D0),(3,i6 F0),(4,PT I0),(52,.bool ((((decide (C0.At < 0)) || (decide (4000 < C0.At))) || ((decide (C0.Op≠1)) && (decide (C0.N≠0)))) || ((decide (C0.Op≠2)) && (decide (C0.Name≠[])))))]) 43 9 o u ?_ ?_ ?_
 intro hb o key
 iterate 4 refine qn o λo=>?_
 iterate 3 refine ls<|gnu o rfl rfl rfl λa o=>?_
 exact qn o λo=>qk o (Ab o rfl rfl) key u hb
 intro hb o key
 refine qg o (Ad o Cy rfl) λo=>qg o (eB o isAgg3 rfl u.ld t0 rfl) λo=>qg o (Bg o rfl rfl) λo=>qg o (Aa o rfl) λo=>gr (Fk:=[(0,SL E0 p1 D0),(3,i6 F0),(4,PT I0),(43,.bool false),(51,.bool ((decide (C0.Op≠2)) && (decide (C0.Name≠[]))))]) 47 4 o u ?_ ?_ ?_
 intro hb o key
 exact qg o (Ad o Gn rfl) λo=>qg o (eB o isAgg9 rfl u.ld t0 rfl) λo=>qg o (H4 (m:=C0.Name) (n:=[]) o rfl rfl) λo=>ql o (Ab o rfl rfl) key u hb
 intro hb o key
 iterate 3 refine qn o λo=>?_
 exact ql o (Ac o rfl rfl) key u hb
 intro a w o u
 exact qk o (Ac o rfl rfl) key u hb
 intro a w o u
 refine qm o rfl λo=>gr (Fk:=[(0,SL E0 p1 D0),(3,i6 F0),(4,PT I0),(57,.bool (((((decide (C0.At < 0)) || (decide (4000 < C0.At))) || ((decide (C0.Op≠1)) && (decide (C0.N≠0)))) || ((decide (C0.Op≠2)) && (decide (C0.Name≠[])))) || (decide (C0.N < 0))))]) 53 4 o u ?_ ?_ ?_
 intro hb o key
 iterate 3 refine qn o λo=>?_
 exact qk o (Ab o rfl rfl) key u hb
 intro hb o key
 exact qg o (Ad o Gp rfl) λo=>qg o (eB o isAgg3 rfl u.ld t0 rfl) λo=>qg o (Am o rfl rfl) λo=>qk o (Ac o rfl rfl) key u hb
 intro a w o u
 refine qm o rfl λo=>gr (Fk:=[(0,SL E0 p1 D0),(3,i6 F0),(4,PT I0),(62,.bool ((((((decide (C0.At < 0)) || (decide (4000 < C0.At))) || ((decide (C0.Op≠1)) && (decide (C0.N≠0)))) || ((decide (C0.Op≠2)) && (decide (C0.Name≠[])))) || (decide (C0.N < 0))) || (decide (4294967296 < C0.N))))]) 58 4 o u ?_ ?_ ?_
 intro hb o key
 iterate 3 refine qn o λo=>?_
 exact qk o (Ab o rfl rfl) key u hb
 intro hb o key
 exact qg o (Ad o Gp rfl) λo=>qg o (eB o isAgg3 rfl u.ld t0 rfl) λo=>qg o (Ba o rfl rfl) λo=>qk o (Ac o rfl rfl) key u hb
 intro a w o u
 refine qv o (As (Aa o rfl) (congrArg Value.bool K0)) λo=>?_
 iterate 4 refine qn o λo=>?_
 iterate 4 refine ls<|gnu o rfl rfl rfl λa o=>?_
 refine qn o λo=>qv o (Ab o rfl rfl) λo=>re<|tn<|?_
 replace u:=u.pickL .nil
 exact ⟨true,hm,o.hs,u⟩
 rcases bip hm with ⟨O0,hm⟩ | ⟨O0,hm⟩
 obtain ⟨C1,D1,hm⟩:=bs hm
 refine rg<|qf o Ji rfl λo=>qB o isAgg3 rfl u t0 rfl λo=>qv o (Am o rfl rfl) λo=>qm o rfl λo=>gr (Fk:=[(0,SL E0 p1 D0),(3,i6 F0),(4,PT I0),(32,.bool ((decide (C0.At < 0)) || (decide (4000 < C0.At))))]) 28 4 o u ?_ ?_ ?_
 intro hb o key
 iterate 3 refine qn o λo=>?_
 exact qk o (Ab o rfl rfl) key u hb
 intro hb o key
 exact qg o (Ad o Ji rfl) λo=>qg o (eB o isAgg3 rfl u.ld t0 rfl) λo=>qg o (Ba o rfl rfl) λo=>qk o (Ac o rfl rfl) key u hb
 intro a w o u
 refine qm o rfl λo=>gr (Fk:=[(0,SL E0 p1 D0),(3,i6 F0),(4,PT I0),(42,.bool (((decide (C0.At < 0)) || (decide (4000 < C0.At))) || ((decide (C0.Op≠1)) && (decide (C0.N≠0)))))]) 33 9 o u ?_ ?_ ?_
 intro hb o key
 iterate 4 refine qn o λo=>?_
 iterate 3 refine ls<|gnu o rfl rfl rfl λa o=>?_
 exact qn o λo=>qk o (Ab o rfl rfl) key u hb
 intro hb o key
 refine qg o (Ad o Cy rfl) λo=>qg o (eB o isAgg3 rfl u.ld t0 rfl) λo=>qg o (Bg o rfl rfl) λo=>qg o (Aa o rfl) λo=>gr (Fk:=[(0,SL E0 p1 D0),(3,i6 F0),(4,PT I0),(33,.bool false),(41,.bool ((decide (C0.Op≠1)) && (decide (C0.N≠0))))]) 37 4 o u ?_ ?_ ?_
 intro hb o key
 exact qg o (Ad o Gp rfl) λo=>qg o (eB o isAgg3 rfl u.ld t0 rfl) λo=>qg o (Bg o rfl rfl) λo=>ql o (Ab o rfl rfl) key u hb
 intro hb o key
 iterate 3 refine qn o λo=>?_
 exact ql o (Ac o rfl rfl) key u hb
 intro a w o u
 exact qk o (Ac o rfl rfl) key u hb
 intro a w o u
 refine qm o rfl λo=>gr (Fk:=[(0,SL E0 p1 D0),(3,i6 F0),(4,PT I0),(52,.bool ((((decide (C0.At < 0)) || (decide (4000 < C0.At))) || ((decide (C0.Op≠1)) && (decide (C0.N≠0)))) || ((decide (C0.Op≠2)) && (decide (C0.Name≠[])))))]) 43 9 o u ?_ ?_ ?_
 intro hb o key
 iterate 4 refine qn o λo=>?_
 iterate 3 refine ls<|gnu o rfl rfl rfl λa o=>?_
 exact qn o λo=>qk o (Ab o rfl rfl) key u hb
 intro hb o key
 refine qg o (Ad o Cy rfl) λo=>qg o (eB o isAgg3 rfl u.ld t0 rfl) λo=>qg o (Bg o rfl rfl) λo=>qg o (Aa o rfl) λo=>gr (Fk:=[(0,SL E0 p1 D0),(3,i6 F0),(4,PT I0),(43,.bool false),(51,.bool ((decide (C0.Op≠2)) && (decide (C0.Name≠[]))))]) 47 4 o u ?_ ?_ ?_
 intro hb o key
 exact qg o (Ad o Gn rfl) λo=>qg o (eB o isAgg9 rfl u.ld t0 rfl) λo=>qg o (H4 (m:=C0.Name) (n:=[]) o rfl rfl) λo=>ql o (Ab o rfl rfl) key u hb
 intro hb o key
 iterate 3 refine qn o λo=>?_
 exact ql o (Ac o rfl rfl) key u hb
 intro a w o u
 exact qk o (Ac o rfl rfl) key u hb
 intro a w o u
 refine qm o rfl λo=>gr (Fk:=[(0,SL E0 p1 D0),(3,i6 F0),(4,PT I0),(57,.bool (((((decide (C0.At < 0)) || (decide (4000 < C0.At))) || ((decide (C0.Op≠1)) && (decide (C0.N≠0)))) || ((decide (C0.Op≠2)) && (decide (C0.Name≠[])))) || (decide (C0.N < 0))))]) 53 4 o u ?_ ?_ ?_
 intro hb o key
 iterate 3 refine qn o λo=>?_
 exact qk o (Ab o rfl rfl) key u hb
 intro hb o key
 exact qg o (Ad o Gp rfl) λo=>qg o (eB o isAgg3 rfl u.ld t0 rfl) λo=>qg o (Am o rfl rfl) λo=>qk o (Ac o rfl rfl) key u hb
 intro a w o u
 refine qm o rfl λo=>gr (Fk:=[(0,SL E0 p1 D0),(3,i6 F0),(4,PT I0),(62,.bool ((((((decide (C0.At < 0)) || (decide (4000 < C0.At))) || ((decide (C0.Op≠1)) && (decide (C0.N≠0)))) || ((decide (C0.Op≠2)) && (decide (C0.Name≠[])))) || (decide (C0.N < 0))) || (decide (4294967296 < C0.N))))]) 58 4 o u ?_ ?_ ?_
 intro hb o key
 iterate 3 refine qn o λo=>?_
 exact qk o (Ab o rfl rfl) key u hb
 intro hb o key
 exact qg o (Ad o Gp rfl) λo=>qg o (eB o isAgg3 rfl u.ld t0 rfl) λo=>qg o (Ba o rfl rfl) λo=>qk o (Ac o rfl rfl) key u hb
 intro a w o u
 refine qv o (As (Aa o rfl) (congrArg Value.bool K0)) λo=>qg o (Ad o Cy rfl) λo=>qg o (eB o isAgg3 rfl u.ld t0 rfl) λo=>qg o (Ah o rfl rfl) λo=>qg o (As (Aa o rfl) (congrArg Value.bool O0)) λo=>qg o (Ad o Gn rfl) λo=>qg o (eB o isAgg9 rfl u.ld t0 rfl) λo=>ls<|gy o rfl rfl<|cr o call87 (Mg (Ag _) D1) u λu o=>qg o (Bi o rfl) λo=>qg o (Ab o rfl rfl) λo=>qv o (Ac o rfl rfl) λo=>re<|tn<|?_
 replace u:=u.pickL .nil
 exact ⟨(!C1),hm,o.hs,u⟩
 refine rg<|qf o Ji rfl λo=>qB o isAgg3 rfl u t0 rfl λo=>qv o (Am o rfl rfl) λo=>qm o rfl λo=>gr (Fk:=[(0,SL E0 p1 D0),(3,i6 F0),(4,PT I0),(32,.bool ((decide (C0.At < 0)) || (decide (4000 < C0.At))))]) 28 4 o u ?_ ?_ ?_
 intro hb o key
 iterate 3 refine qn o λo=>?_
 exact qk o (Ab o rfl rfl) key u hb
 intro hb o key
 exact qg o (Ad o Ji rfl) λo=>qg o (eB o isAgg3 rfl u.ld t0 rfl) λo=>qg o (Ba o rfl rfl) λo=>qk o (Ac o rfl rfl) key u hb
 intro a w o u
 refine qm o rfl λo=>gr (Fk:=[(0,SL E0 p1 D0),(3,i6 F0),(4,PT I0),(42,.bool (((decide (C0.At < 0)) || (decide (4000 < C0.At))) || ((decide (C0.Op≠1)) && (decide (C0.N≠0)))))]) 33 9 o u ?_ ?_ ?_
 intro hb o key
 iterate 4 refine qn o λo=>?_
 iterate 3 refine ls<|gnu o rfl rfl rfl λa o=>?_
 exact qn o λo=>qk o (Ab o rfl rfl) key u hb
 intro hb o key
 refine qg o (Ad o Cy rfl) λo=>qg o (eB o isAgg3 rfl u.ld t0 rfl) λo=>qg o (Bg o rfl rfl) λo=>qg o (Aa o rfl) λo=>gr (Fk:=[(0,SL E0 p1 D0),(3,i6 F0),(4,PT I0),(33,.bool false),(41,.bool ((decide (C0.Op≠1)) && (decide (C0.N≠0))))]) 37 4 o u ?_ ?_ ?_
 intro hb o key
 exact qg o (Ad o Gp rfl) λo=>qg o (eB o isAgg3 rfl u.ld t0 rfl) λo=>qg o (Bg o rfl rfl) λo=>ql o (Ab o rfl rfl) key u hb
 intro hb o key
 iterate 3 refine qn o λo=>?_
 exact ql o (Ac o rfl rfl) key u hb
 intro a w o u
 exact qk o (Ac o rfl rfl) key u hb
 intro a w o u
 refine qm o rfl λo=>gr (Fk:=[(0,SL E0 p1 D0),(3,i6 F0),(4,PT I0),(52,.bool ((((decide (C0.At < 0)) || (decide (4000 < C0.At))) || ((decide (C0.Op≠1)) && (decide (C0.N≠0)))) || ((decide (C0.Op≠2)) && (decide (C0.Name≠[])))))]) 43 9 o u ?_ ?_ ?_
 intro hb o key
 iterate 4 refine qn o λo=>?_
 iterate 3 refine ls<|gnu o rfl rfl rfl λa o=>?_
 exact qn o λo=>qk o (Ab o rfl rfl) key u hb
 intro hb o key
 refine qg o (Ad o Cy rfl) λo=>qg o (eB o isAgg3 rfl u.ld t0 rfl) λo=>qg o (Bg o rfl rfl) λo=>qg o (Aa o rfl) λo=>gr (Fk:=[(0,SL E0 p1 D0),(3,i6 F0),(4,PT I0),(43,.bool false),(51,.bool ((decide (C0.Op≠2)) && (decide (C0.Name≠[]))))]) 47 4 o u ?_ ?_ ?_
 intro hb o key
 exact qg o (Ad o Gn rfl) λo=>qg o (eB o isAgg9 rfl u.ld t0 rfl) λo=>qg o (H4 (m:=C0.Name) (n:=[]) o rfl rfl) λo=>ql o (Ab o rfl rfl) key u hb
 intro hb o key
 iterate 3 refine qn o λo=>?_
 exact ql o (Ac o rfl rfl) key u hb
 intro a w o u
 exact qk o (Ac o rfl rfl) key u hb
 intro a w o u
 refine qm o rfl λo=>gr (Fk:=[(0,SL E0 p1 D0),(3,i6 F0),(4,PT I0),(57,.bool (((((decide (C0.At < 0)) || (decide (4000 < C0.At))) || ((decide (C0.Op≠1)) && (decide (C0.N≠0)))) || ((decide (C0.Op≠2)) && (decide (C0.Name≠[])))) || (decide (C0.N < 0))))]) 53 4 o u ?_ ?_ ?_
 intro hb o key
 iterate 3 refine qn o λo=>?_
 exact qk o (Ab o rfl rfl) key u hb
 intro hb o key
 exact qg o (Ad o Gp rfl) λo=>qg o (eB o isAgg3 rfl u.ld t0 rfl) λo=>qg o (Am o rfl rfl) λo=>qk o (Ac o rfl rfl) key u hb
 intro a w o u
 refine qm o rfl λo=>gr (Fk:=[(0,SL E0 p1 D0),(3,i6 F0),(4,PT I0),(62,.bool ((((((decide (C0.At < 0)) || (decide (4000 < C0.At))) || ((decide (C0.Op≠1)) && (decide (C0.N≠0)))) || ((decide (C0.Op≠2)) && (decide (C0.Name≠[])))) || (decide (C0.N < 0))) || (decide (4294967296 < C0.N))))]) 58 4 o u ?_ ?_ ?_
 intro hb o key
 iterate 3 refine qn o λo=>?_
 exact qk o (Ab o rfl rfl) key u hb
 intro hb o key
 exact qg o (Ad o Gp rfl) λo=>qg o (eB o isAgg3 rfl u.ld t0 rfl) λo=>qg o (Ba o rfl rfl) λo=>qk o (Ac o rfl rfl) key u hb
 intro a w o u
 refine qv o (As (Aa o rfl) (congrArg Value.bool K0)) λo=>qg o (Ad o Cy rfl) λo=>qg o (eB o isAgg3 rfl u.ld t0 rfl) λo=>qg o (Ah o rfl rfl) λo=>qg o (As (Aa o rfl) (congrArg Value.bool O0)) λo=>?_
 iterate 4 refine qn o λo=>?_
 refine qg o (Ac o rfl rfl) λo=>qv o (Ac o rfl rfl) λo=>re<|tn<|?_
 replace u:=u.pickL .nil
 exact ⟨false,hm,o.hs,u⟩
 rintro a w ⟨U0,hm,o,u⟩
 unfold Z1v at hm
 rcases bit hm with ⟨P0,hm⟩ | ⟨P0,hm⟩
 refine ctv o rfl P0<|th<|rg<|qa o rfl λo=>re<|tn<|wr<|br<|tr<|tr<|br<|tr<|?_
 obtain rfl:=si hm
 exact r1 o results61 rfl ⟨rfl,u.keep⟩
 refine cfv o rfl P0<|wk<|bn<|tn<|rg<|qm o rfl λo=>qv o (Ao o rfl rfl) λo=>qa o rfl λo=>re<|tn<|?_
 exact ⟨(J0,(i64.wrap (F0+1))),⟨hm,o.hs,u⟩,kxd _⟩
 refine tn<|cfv o rfl M0<|we<|tx<|tx<|bx<|tn<|?_
 exact ⟨hm,o.hs,u⟩
 rintro a w ⟨hm,o,u⟩
 unfold Z1u at hm
 refine th<|?_
 obtain ⟨I1,E1,hm⟩:=bs hm
 refine rg<|qm o rfl λo=>ls<|cr o call88 (Jge _ (Ag _) V0 (St.srH u Q0) E1) u λu o=>qv o (Gd o rfl rfl) λo=>qa o rfl λo=>re<|tn<|wr<|?_
 obtain rfl:=si hm
 exact r1 o results61 rfl ⟨rfl,u.keep⟩
theorem JgC (hH:H.le w0) {p1:Int} {r:Str} (hm:Z20 N p1=some r):Tot Tryz.prog 111 #[i6 p1] w0 (λv w'=>v=Ae r∧Keep Nil w0 w'):=by
 unfold Z20 at hm
 refine fn0 func111 rfl ntmps111 rfl rfl λa o=>?_
 have u:St w0 Nil [H] [] w0:=start1 hH
 refine th<|rg<|qa o rfl λo=>re<|tn<|th<|th<|rg<|qm o rfl λo=>qv o (Am o rfl rfl) λo=>qm o rfl λo=>gr (Fk:=[(0,i6 p1),(8,.bool ((decide (p1 < 1)) || (decide (14 < p1))))]) 5 3 o u ?_ ?_ ?_
 intro hb o key
 iterate 2 refine qn o λo=>?_
 exact qk o (Ab o rfl rfl) key u hb
 intro hb o key
 exact qg o (Aa o rfl) λo=>qg o (Ba o rfl rfl) λo=>qk o (Ac o rfl rfl) key u hb
 intro a w o u
 refine re<|?_
 rcases bit hm with ⟨C0,hm⟩ | ⟨C0,hm⟩
 refine tn<|ctv o rfl C0<|th<|rg<|qa o rfl λo=>re<|tn<|wr<|tr<|?_
 obtain rfl:=si hm
 exact r1 o results111 rfl ⟨rfl,u.keep⟩
 refine tn<|cfv o rfl C0<|wk<|tn<|th<|?_
 obtain ⟨F0,h7,hm⟩:=bs hm
 refine rg<|ls<|bz (e:=9) (sz:=1) [Ae [],Ae [114,101],Ae [114,110],Ae [110,101],Ae [114,110,101,102],Ae [110],Ae [110],Ae [],Ae [],Ae [110],Ae [110],Ae [101,98],Ae [107,98],Ae [],Ae [101]] o u λb4 u o=>?_
 have D0:Rows (α:=Str) H [Ae [],Ae [114,101],Ae [114,110],Ae [110,101],Ae [114,110,101,102],Ae [110],Ae [110],Ae [],Ae [],Ae [110],Ae [110],Ae [101,98],Ae [107,98],Ae [],Ae [101]] ([[],[114,101],[114,110],[110,101],[114,110,101,102],[110],[110],[],[],[110],[110],[101,98],[107,98],[],[101]]:List Str):=(.cons (c:=[Ae []]) rfl (.cons (c:=[Ae [114,101]]) rfl (.cons (c:=[Ae [114,110]]) rfl (.cons (c:=[Ae [110,101]]) rfl (.cons (c:=[Ae [114,110,101,102]]) rfl (.cons (c:=[Ae [110]]) rfl (.cons (c:=[Ae [110]]) rfl (.cons (c:=[Ae []]) rfl (.cons (c:=[Ae []]) rfl (.cons (c:=[Ae [110]]) rfl (.cons (c:=[Ae [110]]) rfl (.cons (c:=[Ae [101,98]]) rfl (.cons (c:=[Ae [107,98]]) rfl (.cons (c:=[Ae []]) rfl (.cons (c:=[Ae [101]]) rfl .nil)))))))))))))))
 refine qm o rfl λo=>qv o (Co o Ly sizeOf9 rfl rfl h7 (Rd.oaI (u.ld.rdO t0) D0 (by decide) h7)) λo=>?_
 obtain ⟨cz8,g9,E0⟩:=Rows.getI D0 h7
 obtain rfl:cz8=[Ae F0]:=g9
 refine qv o (Ap o isAgg9 rfl (u.ld.elO t0 (E0 0 _ rfl))) λo=>qa o rfl λo=>re<|tn<|wr<|?_
 obtain rfl:=si hm
 exact r1 o results111 rfl ⟨rfl,u.keep⟩
theorem Wr (hH:H.le w0) {p1:Str} {p2:Int} {r:Bool} (hm:Z24 N p1 p2=some r):Tot Tryz.prog 112 #[Ae p1,.int .u8 p2] w0 (λv w'=>v=.bool r∧Keep Nil w0 w'):=by
 unfold Z24 at hm
 refine fn0 func112 rfl ntmps112 rfl rfl λa o=>?_
 have u:St w0 Nil [H] [] w0:=start1 hH
 refine th<|rg<|qa o rfl λo=>re<|tn<|th<|th<|rg<|qa o rfl λo=>re<|tn<|Av (λa w=>Z25=some r∧Fr 17 [] a∧St w0 Nil [H] [] w) ?_ ?_
 refine wb<|lp (α:=Nat×Int) (λgh a w=>match gh with | (C0,D0)=>(Z26 N Z25 p1 p2) C0 D0=some r∧Fr 17 [(0,Ae p1),(1,.int .u8 p2),(5,i6 D0)] a∧St w0 Nil [H] [] w) (λgh=>gh.1) (N,0) ⟨hm,o.hs,u⟩ ?_
 rintro ⟨C0,D0⟩ a w ⟨hm,o,u⟩
 obtain _ | C0:=C0
 simp [Z26] at hm
 rw [Z26] at hm
 refine th<|th<|rg<|qm o rfl λo=>qm o rfl λo=>qv o (Ft (s:=p1) o ru9 rfl) λo=>qv o (Am o rfl rfl) λo=>re<|?_
 rcases bip hm with ⟨E0,hm⟩ | ⟨E0,hm⟩
 refine tn<|ctv o rfl E0<|wk<|tn<|th<|wb<|th<|?_
 obtain ⟨I0,h5,hm⟩:=bs hm
 refine rg<|qm o rfl λo=>qm o rfl λo=>qv o (N9 (s:=p1) o ru9 rfl rfl h5) λo=>qm o rfl λo=>qv o (Ah o rfl rfl) λo=>re<|?_
 rcases bip hm with ⟨F0,hm⟩ | ⟨F0,hm⟩
 refine tn<|ctv o rfl F0<|th<|rg<|qa o rfl λo=>re<|tn<|wr<|br<|tr<|tr<|br<|tr<|?_
 obtain rfl:=si hm
 exact r1 o results112 rfl ⟨rfl,u.keep⟩
 refine tn<|cfv o rfl F0<|wk<|bn<|tn<|rg<|qm o rfl λo=>qv o (Ao o rfl rfl) λo=>qa o rfl λo=>re<|tn<|?_
 exact ⟨(C0,(i64.wrap (D0+1))),⟨hm,o.hs,u⟩,kxd _⟩
 refine tn<|cfv o rfl E0<|we<|tx<|tx<|bx<|tn<|?_
 exact ⟨hm,o.has trivial,u⟩
 rintro a w ⟨hm,o,u⟩
 unfold Z25 at hm
 refine th<|rg<|qa o rfl λo=>re<|tn<|wr<|?_
 obtain rfl:=si hm
 exact r1 o results112 rfl ⟨rfl,u.keep⟩
theorem JgJ (hH:H.le w0) {cs2:List Value} {p1:api_Stmt} (g3:Enc.rep H cs2 p1) {r:Bool} (hm:Z2c N p1=some r):Tot Tryz.prog 106 #[.agg cs2.toArray] w0 (λv w'=>v=.bool r∧Keep Nil w0 w'):=by
 unfold Z2c at hm
 refine fn0 func106 rfl ntmps106 rfl rfl λa o=>?_
 have u:St w0 Nil [H] [] w0:=start1 hH
 obtain ⟨U0,K0,V0,M0,rfl,j0,n0,O1,P1⟩:=Cb g3
 refine th<|rg<|ls<|Bo (cs:=(stC U0 K0 V0 M0 p1).toArray) o rfl u rfl rfl λC0 w a u o=>qa o rfl λo=>re<|tn<|th<|th<|rg<|qf o Cz rfl λo=>qB o isAgg3 rfl u t0 rfl λo=>qv o (Am o rfl rfl) λo=>qm o rfl λo=>gr (Fk:=[(1,PT C0),(15,.bool ((decide (p1.Kind < 1)) || (decide (14 < p1.Kind))))]) 11 4 o u ?_ ?_ ?_
 intro hb o key
 iterate 3 refine qn o λo=>?_
 exact qk o (Ab o rfl rfl) key u hb
 intro hb o key
 exact qg o (Ad o Cz rfl) λo=>qg o (eB o isAgg3 rfl u.ld t0 rfl) λo=>qg o (Ba o rfl rfl) λo=>qk o (Ac o rfl rfl) key u hb
 intro a w o u
 refine qm o rfl λo=>gr (Fk:=[(1,PT C0),(20,.bool (((decide (p1.Kind < 1)) || (decide (14 < p1.Kind))) || (decide (p1.At < 0))))]) 16 4 o u ?_ ?_ ?_
 intro hb o key
 iterate 3 refine qn o λo=>?_
 exact qk o (Ab o rfl rfl) key u hb
 intro hb o key
 exact qg o (Ad o Jx rfl) λo=>qg o (eB o isAgg3 rfl u.ld t0 rfl) λo=>qg o (Am o rfl rfl) λo=>qk o (Ac o rfl rfl) key u hb
 intro a w o u
 refine qm o rfl λo=>gr (Fk:=[(1,PT C0),(25,.bool ((((decide (p1.Kind < 1)) || (decide (14 < p1.Kind))) || (decide (p1.At < 0))) || (decide (4000 < p1.At))))]) 21 4 o u ?_ ?_ ?_
 intro hb o key
 iterate 3 refine qn o λo=>?_
 exact qk o (Ab o rfl rfl) key u hb
 intro hb o key
 exact qg o (Ad o Jx rfl) λo=>qg o (eB o isAgg3 rfl u.ld t0 rfl) λo=>qg o (Ba o rfl rfl) λo=>qk o (Ac o rfl rfl) key u hb
 intro a w o u
 refine re<|?_
 rcases bit hm with ⟨O0,hm⟩ | ⟨O0,hm⟩
 refine tn<|ctv o rfl O0<|th<|rg<|qa o rfl λo=>re<|tn<|wr<|tr<|?_
 obtain rfl:=si hm
 exact r1 o results106 rfl ⟨rfl,u.keep⟩
 refine tn<|cfv o rfl O0<|wk<|tn<|th<|?_
 obtain ⟨E0,Q1,hm⟩:=bs hm
 refine rg<|qf o Cz rfl λo=>qB o isAgg3 rfl u t0 rfl λo=>ls<|cr o call111 (JgC (Ag _) Q1) u λu o=>qa o rfl λo=>re<|tn<|th<|?_
 obtain ⟨J0,R1,hm⟩:=bs hm
 obtain ⟨I0,S1,hm⟩:=bs hm
 obtain ⟨F0,T1,hm⟩:=bs hm
 obtain ⟨D0,U1,hm⟩:=bs hm
 refine rg<|qm o rfl λo=>ls<|cr o call112 (Wr (Ag _) R1) u λu o=>qm o rfl λo=>ls<|cr o call112 (Wr (Ag _) S1) u λu o=>qm o rfl λo=>ls<|cr o call112 (Wr (Ag _) T1) u λu o=>qm o rfl λo=>ls<|cr o call112 (Wr (Ag _) U1) u λu o=>?_
 iterate 4 refine qa o rfl λo=>?_
 refine re<|tn<|th<|th<|Av (λa w=>∃ (W0:Bool),(Z2d N p1 E0 F0 D0) W0=some r∧Fr 112 [(1,PT C0),(3,Ae E0),(6,.bool F0),(7,.bool D0),(66,.bool W0)] a∧St w0 Nil [H] [bk C0 (stC U0 K0 V0 M0 p1) 130] w) ?_ ?_
 obtain ⟨C1,D1,hm⟩:=bs hm
 rcases bit hm with ⟨P0,hm⟩ | ⟨P0,hm⟩
 refine rg<|qm o rfl λo=>qf o Fl rfl λo=>qB o isAgg9 rfl u t0 rfl λo=>ls<|cr o call87 (Mg (Ag _) D1) u λu o=>qv o (Js o ru4 rfl rfl) λo=>qm o rfl λo=>gr (Fk:=[(1,PT C0),(3,Ae E0),(5,.bool I0),(6,.bool F0),(7,.bool D0),(50,.bool ((J0 != C1) || ((!J0) && (decide (p1.Reg≠[])))))]) 42 8 o u ?_ ?_ ?_
 intro hb o key
 iterate 3 refine qn o λo=>?_
 iterate 3 refine ls<|gnu o rfl rfl rfl λa o=>?_
 exact qn o λo=>qk o (Ab o rfl rfl) key u hb
 intro hb o key
 refine qg o (Aa o rfl) λo=>qg o (Bi o rfl) λo=>qg o (Aa o rfl) λo=>gr (Fk:=[(1,PT C0),(3,Ae E0),(5,.bool I0),(6,.bool F0),(7,.bool D0),(42,.bool false),(49,.bool ((!J0) && (decide (p1.Reg≠[]))))]) 45 4 o u ?_ ?_ ?_
 intro hb o key
 exact qg o (Ad o Fl rfl) λo=>qg o (eB o isAgg9 rfl u.ld t0 rfl) λo=>qg o (H4 (m:=p1.Reg) (n:=[]) o rfl rfl) λo=>ql o (Ab o rfl rfl) key u hb
 intro hb o key
 iterate 3 refine qn o λo=>?_
 exact ql o (Ac o rfl rfl) key u hb
 intro a w o u
 exact qk o (Ac o rfl rfl) key u hb
 intro a w o u
 refine qv o (As (Aa o rfl) (congrArg Value.bool P0)) λo=>?_
 iterate 5 refine qn o λo=>?_
 refine qv o (Ab o rfl rfl) λo=>qm o rfl λo=>?_
 iterate 3 refine qn o λo=>?_
 iterate 3 refine ls<|gnu o rfl rfl rfl λa o=>?_
 refine qn o λo=>qv o (Ab o rfl rfl) λo=>re<|tn<|?_
 exact ⟨true,hm,o.hs,u⟩
 obtain ⟨E1,V1,hm⟩:=bs hm
 refine rg<|qm o rfl λo=>qf o Fl rfl λo=>qB o isAgg9 rfl u t0 rfl λo=>ls<|cr o call87 (Mg (Ag _) D1) u λu o=>qv o (Js o ru4 rfl rfl) λo=>qm o rfl λo=>gr (Fk:=[(1,PT C0),(3,Ae E0),(5,.bool I0),(6,.bool F0),(7,.bool D0),(50,.bool ((J0 != C1) || ((!J0) && (decide (p1.Reg≠[])))))]) 42 8 o u ?_ ?_ ?_
 intro hb o key
 iterate 3 refine qn o λo=>?_
 iterate 3 refine ls<|gnu o rfl rfl rfl λa o=>?_
 exact qn o λo=>qk o (Ab o rfl rfl) key u hb
 intro hb o key
 refine qg o (Aa o rfl) λo=>qg o (Bi o rfl) λo=>qg o (Aa o rfl) λo=>gr (Fk:=[(1,PT C0),(3,Ae E0),(5,.bool I0),(6,.bool F0),(7,.bool D0),(42,.bool false),(49,.bool ((!J0) && (decide (p1.Reg≠[]))))]) 45 4 o u ?_ ?_ ?_
 intro hb o key
 exact qg o (Ad o Fl rfl) λo=>qg o (eB o isAgg9 rfl u.ld t0 rfl) λo=>qg o (H4 (m:=p1.Reg) (n:=[]) o rfl rfl) λo=>ql o (Ab o rfl rfl) key u hb
 intro hb o key
 iterate 3 refine qn o λo=>?_
 exact ql o (Ac o rfl rfl) key u hb
 intro a w o u
 exact qk o (Ac o rfl rfl) key u hb
 intro a w o u
 refine qv o (As (Aa o rfl) (congrArg Value.bool P0)) λo=>qg o (Aa o rfl) λo=>qg o (Ad o Hf rfl) λo=>qg o (eB o isAgg9 rfl u.ld t0 rfl) λo=>ls<|gy o rfl rfl<|cr o call87 (Mg (Ag _) V1) u λu o=>qg o (Js o ru4 rfl rfl) λo=>qv o (Ac o rfl rfl) λo=>qm o rfl λo=>gr (Fk:=[(1,PT C0),(3,Ae E0),(6,.bool F0),(7,.bool D0),(66,.bool ((I0 != E1) || ((!I0) && (decide (p1.Name≠[])))))]) 58 8 o u ?_ ?_ ?_
 intro hb o key
 iterate 3 refine qn o λo=>?_
 iterate 3 refine ls<|gnu o rfl rfl rfl λa o=>?_
 exact qn o λo=>qk o (Ab o rfl rfl) key u hb
 intro hb o key
 refine qg o (Aa o rfl) λo=>qg o (Bi o rfl) λo=>qg o (Aa o rfl) λo=>gr (Fk:=[(1,PT C0),(3,Ae E0),(6,.bool F0),(7,.bool D0),(58,.bool false),(65,.bool ((!I0) && (decide (p1.Name≠[]))))]) 61 4 o u ?_ ?_ ?_
 intro hb o key
 exact qg o (Ad o Hf rfl) λo=>qg o (eB o isAgg9 rfl u.ld t0 rfl) λo=>qg o (H4 (m:=p1.Name) (n:=[]) o rfl rfl) λo=>ql o (Ab o rfl rfl) key u hb
 intro hb o key
 iterate 3 refine qn o λo=>?_
 exact ql o (Ac o rfl rfl) key u hb
 intro a w o u
 exact qk o (Ac o rfl rfl) key u hb
 intro a w o u
 refine re<|tn<|?_
 exact ⟨((I0 != E1) || ((!I0) && (decide (p1.Name≠[])))),hm,o.hs,u⟩
 rintro a w ⟨W0,hm,o,u⟩
 unfold Z2d at hm
 rcases bit hm with ⟨Q0,hm⟩ | ⟨Q0,hm⟩
 refine ctv o rfl Q0<|th<|rg<|qa o rfl λo=>re<|tn<|wr<|tr<|?_
 obtain rfl:=si hm
 exact r1 o results106 rfl ⟨rfl,u.keep⟩
 refine cfv o rfl Q0<|wk<|tn<|th<|th<|Av (λa w=>∃ (Y0:Bool),(Z2e N p1 E0) Y0=some r∧Fr 112 [(1,PT C0),(3,Ae E0),(98,.bool Y0)] a∧St w0 Nil [H] [bk C0 (stC U0 K0 V0 M0 p1) 130] w) ?_ ?_
 obtain ⟨F1,I1,hm⟩:=bs hm
 rcases bit hm with ⟨R0,hm⟩ | ⟨R0,hm⟩
 refine rg<|qm o rfl λo=>qf o Hr rfl λo=>qB o isAgg82 rfl u t0 rfl λo=>ls<|cr o call61 (Wn (Ag _) j0 (St.srH u n0) I1) u λu o=>qv o (Js o ru4 rfl rfl) λo=>qm o rfl λo=>gr (Fk:=[(1,PT C0),(3,Ae E0),(7,.bool D0),(81,.bool ((F0 != F1) || ((!F0) && (decide (0 < (p1.E.length:Int))))))]) 72 9 o u ?_ ?_ ?_
 intro hb o key
 iterate 3 refine qn o λo=>?_
 iterate 4 refine ls<|gnu o rfl rfl rfl λa o=>?_
 exact qn o λo=>qk o (Ab o rfl rfl) key u hb
 intro hb o key
 refine qg o (Aa o rfl) λo=>qg o (Bi o rfl) λo=>qg o (Aa o rfl) λo=>gr (Fk:=[(1,PT C0),(3,Ae E0),(7,.bool D0),(72,.bool false),(80,.bool ((!F0) && (decide (0 < (p1.E.length:Int)))))]) 75 5 o u ?_ ?_ ?_
 intro hb o key
 exact qg o (Ad o Hr rfl) λo=>qg o (eB o isAgg82 rfl u.ld t0 rfl) λo=>qg o (Aj (α:=api_Node) (xs:=p1.E) o Fq rfl) λo=>qg o (Ba o rfl rfl) λo=>ql o (Ab o rfl rfl) key u hb
 intro hb o key
 iterate 4 refine qn o λo=>?_
 exact ql o (Ac o rfl rfl) key u hb
 intro a w o u
 exact qk o (Ac o rfl rfl) key u hb
 intro a w o u
 refine qv o (As (Aa o rfl) (congrArg Value.bool R0)) λo=>?_
 iterate 5 refine qn o λo=>?_
 refine qv o (Ab o rfl rfl) λo=>qm o rfl λo=>?_
 iterate 3 refine qn o λo=>?_
 iterate 4 refine ls<|gnu o rfl rfl rfl λa o=>?_
 refine qn o λo=>qv o (Ab o rfl rfl) λo=>re<|tn<|?_
 exact ⟨true,hm,o.hs,u⟩
 obtain ⟨J1,X1,hm⟩:=bs hm
 refine rg<|qm o rfl λo=>qf o Hr rfl λo=>qB o isAgg82 rfl u t0 rfl λo=>ls<|cr o call61 (Wn (Ag _) j0 (St.srH u n0) I1) u λu o=>qv o (Js o ru4 rfl rfl) λo=>qm o rfl λo=>gr (Fk:=[(1,PT C0),(3,Ae E0),(7,.bool D0),(81,.bool ((F0 != F1) || ((!F0) && (decide (0 < (p1.E.length:Int))))))]) 72 9 o u ?_ ?_ ?_
 intro hb o key
 iterate 3 refine qn o λo=>?_
 iterate 4 refine ls<|gnu o rfl rfl rfl λa o=>?_
 exact qn o λo=>qk o (Ab o rfl rfl) key u hb
 intro hb o key
 refine qg o (Aa o rfl) λo=>qg o (Bi o rfl) λo=>qg o (Aa o rfl) λo=>gr (Fk:=[(1,PT C0),(3,Ae E0),(7,.bool D0),(72,.bool false),(80,.bool ((!F0) && (decide (0 < (p1.E.length:Int)))))]) 75 5 o u ?_ ?_ ?_
 intro hb o key
 exact qg o (Ad o Hr rfl) λo=>qg o (eB o isAgg82 rfl u.ld t0 rfl) λo=>qg o (Aj (α:=api_Node) (xs:=p1.E) o Fq rfl) λo=>qg o (Ba o rfl rfl) λo=>ql o (Ab o rfl rfl) key u hb
 intro hb o key
 iterate 4 refine qn o λo=>?_
 exact ql o (Ac o rfl rfl) key u hb
 intro a w o u
 exact qk o (Ac o rfl rfl) key u hb
 intro a w o u
 refine qv o (As (Aa o rfl) (congrArg Value.bool R0)) λo=>qg o (Aa o rfl) λo=>qg o (Ad o Li rfl) λo=>qg o (eB o isAgg82 rfl u.ld t0 rfl) λo=>ls<|gy o rfl rfl<|cr o call61 (Wn (Ag _) O1 (St.srH u P1) X1) u λu o=>qg o (Js o ru4 rfl rfl) λo=>qv o (Ac o rfl rfl) λo=>qm o rfl λo=>gr (Fk:=[(1,PT C0),(3,Ae E0),(98,.bool ((D0 != J1) || ((!D0) && (decide (0 < (p1.F.length:Int))))))]) 89 9 o u ?_ ?_ ?_
 intro hb o key
 iterate 3 refine qn o λo=>?_
 iterate 4 refine ls<|gnu o rfl rfl rfl λa o=>?_
 exact qn o λo=>qk o (Ab o rfl rfl) key u hb
 intro hb o key
 refine qg o (Aa o rfl) λo=>qg o (Bi o rfl) λo=>qg o (Aa o rfl) λo=>gr (Fk:=[(1,PT C0),(3,Ae E0),(89,.bool false),(97,.bool ((!D0) && (decide (0 < (p1.F.length:Int)))))]) 92 5 o u ?_ ?_ ?_
 intro hb o key
 exact qg o (Ad o Li rfl) λo=>qg o (eB o isAgg82 rfl u.ld t0 rfl) λo=>qg o (Aj (α:=api_Node) (xs:=p1.F) o Fq rfl) λo=>qg o (Ba o rfl rfl) λo=>ql o (Ab o rfl rfl) key u hb
 intro hb o key
 iterate 4 refine qn o λo=>?_
 exact ql o (Ac o rfl rfl) key u hb
 intro a w o u
 exact qk o (Ac o rfl rfl) key u hb
 intro a w o u
 refine re<|tn<|?_
 exact ⟨((D0 != J1) || ((!D0) && (decide (0 < (p1.F.length:Int))))),hm,o.hs,u⟩
 rintro a w ⟨Y0,hm,o,u⟩
 unfold Z2e at hm
 rcases bit hm with ⟨S0,hm⟩ | ⟨S0,hm⟩
 refine ctv o rfl S0<|th<|rg<|qa o rfl λo=>re<|tn<|wr<|tr<|?_
 obtain rfl:=si hm
 exact r1 o results106 rfl ⟨rfl,u.keep⟩
 refine cfv o rfl S0<|wk<|tn<|th<|th<|?_
 obtain ⟨u1,Y1,hm⟩:=bs hm
 refine rg<|qm o rfl λo=>ls<|cr o call112 (Wr (Ag _) Y1) u λu o=>re<|?_
 rcases bit hm with ⟨T0,hm⟩ | ⟨T0,hm⟩
 refine tn<|ctv o rfl T0<|th<|rg<|qf o N3 rfl λo=>qB o isAgg3 rfl u t0 rfl λo=>qv o (Bw o rfl rfl) λo=>qm o rfl λo=>gr (Fk:=[(108,.bool ((decide (1≤p1.N)) && (decide (p1.N≤8))))]) 104 4 o u ?_ ?_ ?_
 intro hb o key
 exact qg o (Ad o N3 rfl) λo=>qg o (eB o isAgg3 rfl u.ld t0 rfl) λo=>qg o (Gd o rfl rfl) λo=>qk o (Ab o rfl rfl) key u hb
 intro hb o key
 iterate 3 refine qn o λo=>?_
 exact qk o (Ac o rfl rfl) key u hb
 intro a w o u
 refine qa o rfl λo=>re<|tn<|wr<|tr<|?_
 obtain rfl:=si hm
 exact r1 o results106 rfl ⟨rfl,u.keep⟩
 refine tn<|cfv o rfl T0<|wk<|tn<|th<|rg<|qf o N3 rfl λo=>qB o isAgg3 rfl u t0 rfl λo=>qv o (Ah o rfl rfl) λo=>qa o rfl λo=>re<|tn<|wr<|?_
 obtain rfl:=si hm
 exact r1 o results106 rfl ⟨rfl,u.keep⟩
theorem Jgu:∀ (N:Nat) {w0:World} {H:PH} (hH:H.le w0) {I0:Option Addr} {E0:Nat} {p1:(List api_Stmt)} (M0:p1.length≤E0) (O0:SR H I0 p1) {p6:Int} {r:Int} (hm:Z27 N p1 p6=some r),Tot Tryz.prog 107 #[SL I0 p1 E0,i6 p6] w0 (λv w'=>v=i6 r∧Keep Nil w0 w'):=by
 intro N
 induction N with
  | zero=>intros;rename_i hm;simp [Z27] at hm
  | succ N ih=>
 intro w0 H hH I0 E0 p1 M0 O0 p6 r hm
 rw [Z27] at hm
 refine fn0 func107 rfl ntmps107 rfl rfl λa o=>?_
 have u:St w0 Nil [H] [] w0:=start1 hH
 refine th<|rg<|qa o rfl λo=>re<|tn<|th<|rg<|qa o rfl λo=>qa o rfl λo=>re<|tn<|th<|Av (λa w=>∃ (j0:Int),Z28 j0=some r∧Fr 135 [(5,i6 j0)] a∧St w0 Nil [H] [] w) ?_ ?_
 refine wb<|lp (α:=Nat×Int×Int) (λgh a w=>match gh with | (K0,F0,D0)=>(Z2b (Z27 N) N Z28 p1 p6) K0 F0 D0=some r∧Fr 135 [(0,SL I0 p1 E0),(1,i6 p6),(5,i6 F0),(6,i6 D0)] a∧St w0 Nil [H] [] w) (λgh=>gh.1) (N,0,0) ⟨hm,o.hs,u⟩ ?_
 rintro ⟨K0,F0,D0⟩ a w ⟨hm,o,u⟩
 obtain _ | K0:=K0
 simp [Z2b] at hm
 rw [Z2b] at hm
 refine th<|th<|rg<|qm o rfl λo=>qm o rfl λo=>qv o (Aj (α:=api_Stmt) (xs:=p1) o Ew rfl) λo=>qv o (Am o rfl rfl) λo=>re<|?_
 rcases bip hm with ⟨n0,hm⟩ | ⟨n0,hm⟩
 refine tn<|ctv o rfl n0<|wk<|tn<|wb<|th<|?_
 obtain ⟨C0,h9,hm⟩:=bs hm
 obtain ⟨K2,T1,O1⟩:=SR.get O0 h9
 obtain ⟨C1,U0,D1,V0,rfl,u1,C2,E2,F2⟩:=Cb T1
 refine rg<|qm o rfl λo=>qm o rfl λo=>qv o (eI o Ew sizeOf130 rfl rfl h9 O0) λo=>qv o (eC o isAgg130 sizeOf130 rfl u.ld O1) λo=>ls<|Aq (cs:=[i6 0,Ae [],Ae [],.slice none 0 0,.slice none 0 0,i6 0,i6 0,i6 0,i6 0].toArray) o rfl u zeroValue130 rfl λJ0 w a u o=>ls<|Ar o u sizeOf130 rfl rfl rfl rfl (Ak rfl) .head λw u=>re<|tn<|th<|th<|rg<|qf o Ho rfl λo=>qB o isAgg3 rfl u t0 rfl λo=>qv o (Am o rfl rfl) λo=>qm o rfl λo=>gr (Fk:=[(0,SL I0 p1 E0),(1,i6 p6),(5,i6 F0),(6,i6 D0),(7,PT J0),(27,.bool ((decide (C0.Body < 0)) || (decide (C0.Else < 0))))]) 23 4 o u ?_ ?_ ?_
 intro hb o key
 iterate 3 refine qn o λo=>?_
 exact qk o (Ab o rfl rfl) key u hb
 intro hb o key
 exact qg o (Ad o El rfl) λo=>qg o (eB o isAgg3 rfl u.ld t0 rfl) λo=>qg o (Am o rfl rfl) λo=>qk o (Ac o rfl rfl) key u hb
 intro a w o u
 refine qm o rfl λo=>gr (Fk:=[(0,SL I0 p1 E0),(1,i6 p6),(5,i6 F0),(6,i6 D0),(7,PT J0),(32,.bool (((decide (C0.Body < 0)) || (decide (C0.Else < 0))) || (decide (40 < C0.Body))))]) 28 4 o u ?_ ?_ ?_
 intro hb o key
 iterate 3 refine qn o λo=>?_
 exact qk o (Ab o rfl rfl) key u hb
 intro hb o key
 exact qg o (Ad o Ho rfl) λo=>qg o (eB o isAgg3 rfl u.ld t0 rfl) λo=>qg o (Ba o rfl rfl) λo=>qk o (Ac o rfl rfl) key u hb
 intro a w o u
 refine qm o rfl λo=>gr (Fk:=[(0,SL I0 p1 E0),(1,i6 p6),(5,i6 F0),(6,i6 D0),(7,PT J0),(37,.bool ((((decide (C0.Body < 0)) || (decide (C0.Else < 0))) || (decide (40 < C0.Body))) || (decide (40 < C0.Else))))]) 33 4 o u ?_ ?_ ?_
 intro hb o key
 iterate 3 refine qn o λo=>?_
 exact qk o (Ab o rfl rfl) key u hb
 intro hb o key
 exact qg o (Ad o El rfl) λo=>qg o (eB o isAgg3 rfl u.ld t0 rfl) λo=>qg o (Ba o rfl rfl) λo=>qk o (Ac o rfl rfl) key u hb
 intro a w o u
 refine qm o rfl λo=>gr (Fk:=[(0,SL I0 p1 E0),(1,i6 p6),(5,i6 F0),(6,i6 D0),(7,PT J0),(50,.bool (((((decide (C0.Body < 0)) || (decide (C0.Else < 0))) || (decide (40 < C0.Body))) || (decide (40 < C0.Else))) || (decide ((p1.length:Int) < (i64.wrap ((i64.wrap ((i64.wrap (D0+1))+C0.Body))+C0.Else))))))]) 38 12 o u ?_ ?_ ?_
 intro hb o key
 iterate 11 refine qn o λo=>?_
 exact qk o (Ab o rfl rfl) key u hb
 intro hb o key
 exact qg o (Aa o rfl) λo=>qg o (Ao o rfl rfl) λo=>qg o (Ad o Ho rfl) λo=>qg o (eB o isAgg3 rfl u.ld t0 rfl) λo=>qg o (Ao o rfl rfl) λo=>qg o (Ad o El rfl) λo=>qg o (eB o isAgg3 rfl u.ld t0 rfl) λo=>qg o (Ao o rfl rfl) λo=>qg o (Aa o rfl) λo=>qg o (Aj (α:=api_Stmt) (xs:=p1) o Ew rfl) λo=>qg o (Ba o rfl rfl) λo=>qk o (Ac o rfl rfl) key u hb
 intro a w o u
 refine re<|?_
 rcases bit hm with ⟨P0,hm⟩ | ⟨P0,hm⟩
 refine tn<|ctv o rfl P0<|th<|rg<|qa o rfl λo=>re<|tn<|wr<|tr<|br<|tr<|br<|tr<|?_
 obtain rfl:=si hm
 exact r1 o results107 rfl ⟨rfl,u.keep⟩
 refine tn<|cfv o rfl P0<|wk<|tn<|th<|th<|rg<|qf o Ho rfl λo=>qB o isAgg3 rfl u t0 rfl λo=>qv o (Ba o rfl rfl) λo=>qm o rfl λo=>gr (Fk:=[(0,SL I0 p1 E0),(1,i6 p6),(5,i6 F0),(6,i6 D0),(7,PT J0),(58,.bool ((decide (0 < C0.Body)) && (decide (C0.Kind≠11))))]) 54 4 o u ?_ ?_ ?_
 intro hb o key
 exact qg o (Ad o Cz rfl) λo=>qg o (eB o isAgg3 rfl u.ld t0 rfl) λo=>qg o (Bg o rfl rfl) λo=>qk o (Ab o rfl rfl) key u hb
 intro hb o key
 iterate 3 refine qn o λo=>?_
 exact qk o (Ac o rfl rfl) key u hb
 intro a w o u
 refine qm o rfl λo=>gr (Fk:=[(0,SL I0 p1 E0),(1,i6 p6),(5,i6 F0),(6,i6 D0),(7,PT J0),(63,.bool (((decide (0 < C0.Body)) && (decide (C0.Kind≠11))) && (decide (C0.Kind≠12))))]) 59 4 o u ?_ ?_ ?_
 intro hb o key
 exact qg o (Ad o Cz rfl) λo=>qg o (eB o isAgg3 rfl u.ld t0 rfl) λo=>qg o (Bg o rfl rfl) λo=>qk o (Ab o rfl rfl) key u hb
 intro hb o key
 iterate 3 refine qn o λo=>?_
 exact qk o (Ac o rfl rfl) key u hb
 intro a w o u
 refine qm o rfl λo=>gr (Fk:=[(0,SL I0 p1 E0),(1,i6 p6),(5,i6 F0),(6,i6 D0),(7,PT J0),(73,.bool ((((decide (0 < C0.Body)) && (decide (C0.Kind≠11))) && (decide (C0.Kind≠12))) || ((decide (0 < C0.Else)) && (decide (C0.Kind≠11)))))]) 64 9 o u ?_ ?_ ?_
 intro hb o key
 iterate 4 refine qn o λo=>?_
 iterate 3 refine ls<|gnu o rfl rfl rfl λa o=>?_
 exact qn o λo=>qk o (Ab o rfl rfl) key u hb
 intro hb o key
 refine qg o (Ad o El rfl) λo=>qg o (eB o isAgg3 rfl u.ld t0 rfl) λo=>qg o (Ba o rfl rfl) λo=>qg o (Aa o rfl) λo=>gr (Fk:=[(0,SL I0 p1 E0),(1,i6 p6),(5,i6 F0),(6,i6 D0),(7,PT J0),(64,.bool false),(72,.bool ((decide (0 < C0.Else)) && (decide (C0.Kind≠11))))]) 68 4 o u ?_ ?_ ?_
 intro hb o key
 exact qg o (Ad o Cz rfl) λo=>qg o (eB o isAgg3 rfl u.ld t0 rfl) λo=>qg o (Bg o rfl rfl) λo=>ql o (Ab o rfl rfl) key u hb
 intro hb o key
 iterate 3 refine qn o λo=>?_
 exact ql o (Ac o rfl rfl) key u hb
 intro a w o u
 exact qk o (Ac o rfl rfl) key u hb
 intro a w o u
 refine qm o rfl λo=>gr (Fk:=[(0,SL I0 p1 E0),(1,i6 p6),(5,i6 F0),(6,i6 D0),(7,PT J0),(82,.bool (((((decide (0 < C0.Body)) && (decide (C0.Kind≠11))) && (decide (C0.Kind≠12))) || ((decide (0 < C0.Else)) && (decide (C0.Kind≠11)))) || ((decide (C0.Kind=13)) && (decide (p6=0)))))]) 74 8 o u ?_ ?_ ?_
 intro hb o key
 iterate 4 refine qn o λo=>?_
 iterate 2 refine ls<|gnu o rfl rfl rfl λa o=>?_
 exact qn o λo=>qk o (Ab o rfl rfl) key u hb
 intro hb o key
 refine qg o (Ad o Cz rfl) λo=>qg o (eB o isAgg3 rfl u.ld t0 rfl) λo=>qg o (Ah o rfl rfl) λo=>qg o (Aa o rfl) λo=>gr (Fk:=[(0,SL I0 p1 E0),(1,i6 p6),(5,i6 F0),(6,i6 D0),(7,PT J0),(74,.bool false),(81,.bool ((decide (C0.Kind=13)) && (decide (p6=0))))]) 78 3 o u ?_ ?_ ?_
 intro hb o key
 exact qg o (Aa o rfl) λo=>qg o (Ah o rfl rfl) λo=>ql o (Ab o rfl rfl) key u hb
 intro hb o key
 iterate 2 refine qn o λo=>?_
 exact ql o (Ac o rfl rfl) key u hb
 intro a w o u
 exact qk o (Ac o rfl rfl) key u hb
 intro a w o u
 refine re<|?_
 rcases bit hm with ⟨Q0,hm⟩ | ⟨Q0,hm⟩
 refine tn<|ctv o rfl Q0<|th<|rg<|qa o rfl λo=>re<|tn<|wr<|tr<|br<|tr<|br<|tr<|?_
 obtain rfl:=si hm
 exact r1 o results107 rfl ⟨rfl,u.keep⟩
 refine tn<|cfv o rfl Q0<|wk<|tn<|th<|rxS 8 u wide (by kernel_rfl) λw u=>?_
 iterate 2 refine xq u.ld o (λw hl=>Aa o rfl) λo=>?_
 refine xr u o (Ao o rfl rfl) λo=>xr u o (Ad o Ho rfl) λo=>xq u.ld o (λw hl=>eB o isAgg3 rfl hl t0 rfl) λo=>xr u o (Ao o rfl rfl) λo=>?_
 iterate 2 refine xq u.ld o (λw hl=>Ca o rfl) λo=>?_
 refine xe<|tn<|th<|th<|rg<|qf o Cz rfl λo=>qB o isAgg3 rfl u t0 rfl λo=>qv o (Ah o rfl rfl) λo=>re<|tn<|Av (λa w=>∃ (W0:Int),(Z29 (Z27 N) ((Z2b (Z27 N) N Z28 p1 p6) K0) p1 C0 F0 D0) W0=some r∧Fr 135 [(0,SL I0 p1 E0),(1,i6 p6),(5,i6 F0),(6,i6 D0),(7,PT J0),(8,i6 W0),(9,i6 (i64.wrap ((i64.wrap (D0+1))+C0.Body)))] a∧St w0 Nil [H] [bk J0 (stC C1 U0 D1 V0 C0) 130] w) ?_ ?_
 rcases bip hm with ⟨R0,hm⟩ | ⟨R0,hm⟩
 refine ctv o rfl R0<|rg<|qm o rfl λo=>qv o (Ao o rfl rfl) λo=>qa o rfl λo=>re<|tn<|?_
 exact ⟨(i64.wrap (p6+1)),hm,o.hs,u⟩
 refine cfv o rfl R0<|wk<|tn<|?_
 exact ⟨p6,hm,o.hs,u⟩
 rintro a w ⟨W0,hm,o,u⟩
 unfold Z29 at hm
 refine th<|th<|rg<|qf o Cz rfl λo=>qB o isAgg3 rfl u t0 rfl λo=>qv o (Ah o rfl rfl) λo=>qm o rfl λo=>gr (Fk:=[(0,SL I0 p1 E0),(1,i6 p6),(5,i6 F0),(6,i6 D0),(7,PT J0),(8,i6 W0),(9,i6 (i64.wrap ((i64.wrap (D0+1))+C0.Body))),(101,.bool ((decide (C0.Kind=11)) || (decide (C0.Kind=12))))]) 97 4 o u ?_ ?_ ?_
 intro hb o key
 iterate 3 refine qn o λo=>?_
 exact qk o (Ab o rfl rfl) key u hb
 intro hb o key
 exact qg o (Ad o Cz rfl) λo=>qg o (eB o isAgg3 rfl u.ld t0 rfl) λo=>qg o (Ah o rfl rfl) λo=>qk o (Ac o rfl rfl) key u hb
 intro a w o u
 refine re<|tn<|Av (λa w=>∃ (Y0:Int),(Z2a ((Z2b (Z27 N) N Z28 p1 p6) K0) C0 D0) Y0=some r∧Fr 135 [(0,SL I0 p1 E0),(1,i6 p6),(5,i6 Y0),(7,PT J0),(9,i6 (i64.wrap ((i64.wrap (D0+1))+C0.Body)))] a∧St w0 Nil [H] [bk J0 (stC C1 U0 D1 V0 C0) 130] w) ?_ ?_
 rcases bit hm with ⟨S0,hm⟩ | ⟨S0,hm⟩
 refine ctv o rfl S0<|th<|?_
 obtain ⟨O2,I1,hm⟩:=bs hm
 obtain ⟨I2,X1,e30,e31,P1,Q1⟩:=SR.sub (sz:=9) O0 M0 rfl I1
 obtain ⟨E1,U1,hm⟩:=bs hm
 obtain ⟨P2,J1,hm⟩:=bs hm
 obtain ⟨J2,Y1,e40,e41,R1,S1⟩:=SR.sub (sz:=9) O0 M0 rfl J1
 obtain ⟨F1,V1,hm⟩:=bs hm
 refine rdS 18 u wide λw u=>dr 0 u o rfl (Aa o rfl) λo=>dr 1 u o rfl (Aa o rfl) λo=>dr 2 u o rfl (Ao o rfl rfl) λo=>dr 3 u o rfl (Aa o rfl) λo=>dr 4 u o rfl (Dc (xs:=p1) (vl:=(i64.wrap (D0+1))) (vh:=(i64.wrap ((i64.wrap (D0+1))+C0.Body))) o Ew sizeOf130 rfl M0 rfl rfl I1 e30 e31) λo=>dr 5 u o rfl (Aa o rfl) λo=>dr 7 u o rfl (Aa o rfl) λo=>dr 8 u o rfl (Aa o rfl) λo=>dr 9 u o rfl (Aa o rfl) λo=>dr 10 u o rfl (Ad o El rfl) λo=>dq 11 u.ld o rfl (λw hl=>eB o isAgg3 rfl hl t0 rfl) λo=>dr 12 u o rfl (Ao o rfl rfl) λo=>dr 13 u o rfl (Dc (xs:=p1) (vl:=(i64.wrap ((i64.wrap (D0+1))+C0.Body))) (vh:=(i64.wrap ((i64.wrap ((i64.wrap (D0+1))+C0.Body))+C0.Else))) o Ew sizeOf130 rfl M0 rfl rfl J1 e40 e41) λo=>dr 14 u o rfl (Aa o rfl) λo=>dz 6 rfl<|cr o call107 (ih (Ag _) P1 (St.srH u Q1) U1) u λu o=>⟨λ_=>u.ld,?_⟩
 refine dz 15 rfl<|cr o call107 (ih (Ag _) R1 (St.srH u S1) V1) u λu o=>⟨λ_=>u.ld,?_⟩
 refine dr 16 u o rfl (Ca o rfl) λo=>dr 17 u o rfl (Ca o rfl) λo=>dE<|tn<|th<|th<|rg<|qm o rfl λo=>qv o (Am o rfl rfl) λo=>qm o rfl λo=>gr (Fk:=[(0,SL I0 p1 E0),(1,i6 p6),(5,i6 F0),(7,PT J0),(9,i6 (i64.wrap ((i64.wrap (D0+1))+C0.Body))),(10,i6 E1),(11,i6 F1),(123,.bool ((decide (E1 < 0)) || (decide (F1 < 0))))]) 120 3 o u ?_ ?_ ?_
 intro hb o key
 iterate 2 refine qn o λo=>?_
 exact qk o (Ab o rfl rfl) key u hb
 intro hb o key
 exact qg o (Aa o rfl) λo=>qg o (Am o rfl rfl) λo=>qk o (Ac o rfl rfl) key u hb
 intro a w o u
 refine re<|?_
 rcases bit hm with ⟨T0,hm⟩ | ⟨T0,hm⟩
 refine tn<|ctv o rfl T0<|th<|rg<|qa o rfl λo=>re<|tn<|wr<|tr<|tr<|br<|tr<|br<|tr<|?_
 obtain rfl:=si hm
 exact r1 o results107 rfl ⟨rfl,u.keep⟩
 refine tn<|cfv o rfl T0<|wk<|tn<|rg<|qm o rfl λo=>qm o rfl λo=>qv o (Ao o rfl rfl) λo=>qm o rfl λo=>qv o (Ao o rfl rfl) λo=>qv o (JeV o rfl rfl rfl) λo=>qa o rfl λo=>re<|tn<|?_
 exact ⟨(max (max F0 (i64.wrap (1+E1))) (i64.wrap (1+F1))),hm,o.hs,u⟩
 refine cfv o rfl S0<|wk<|tn<|?_
 exact ⟨F0,hm,o.hs,u⟩
 rintro a w ⟨Y0,hm,o,u⟩
 unfold Z2a at hm
 refine rg<|qm o rfl λo=>qf o El rfl λo=>qB o isAgg3 rfl u t0 rfl λo=>qv o (Ao o rfl rfl) λo=>qa o rfl λo=>re<|bn<|tn<|?_
 replace u:=u.pickL .nil
 exact ⟨(K0,Y0,(i64.wrap ((i64.wrap ((i64.wrap (D0+1))+C0.Body))+C0.Else))),⟨hm,o.hs,u⟩,kxd _⟩
 refine tn<|cfv o rfl n0<|we<|tx<|tx<|bx<|tn<|?_
 exact ⟨F0,hm,o.hs,u⟩
 rintro a w ⟨j0,hm,o,u⟩
 unfold Z28 at hm
 refine th<|rg<|qm o rfl λo=>qa o rfl λo=>re<|tn<|wr<|?_
 obtain rfl:=si hm
 exact r1 o results107 rfl ⟨rfl,u.keep⟩
theorem JgT (hH:H.le w0) {F0:Option Addr} {C0:Nat} {p1:(List api_Stmt)} (n0:p1.length≤C0) (J0:SR H F0 p1) {r:Bool} (hm:Z21 N p1=some r):Tot Tryz.prog 98 #[SL F0 p1 C0] w0 (λv w'=>v=.bool r∧Keep Nil w0 w'):=by
 unfold Z21 at hm
 refine fn0 func98 rfl ntmps98 rfl rfl λa o=>?_
 have u:St w0 Nil [H] [] w0:=start1 hH
 refine th<|rg<|qa o rfl λo=>re<|tn<|th<|th<|rg<|qm o rfl λo=>qv o (Aj (α:=api_Stmt) (xs:=p1) o Ew rfl) λo=>qv o (Ba o rfl rfl) λo=>re<|?_
 rcases bip hm with ⟨K0,hm⟩ | ⟨K0,hm⟩
 refine tn<|ctv o rfl K0<|th<|rg<|qa o rfl λo=>re<|tn<|wr<|tr<|?_
 obtain rfl:=si hm
 exact r1 o results98 rfl ⟨rfl,u.keep⟩
 refine tn<|cfv o rfl K0<|wk<|tn<|th<|th<|rg<|qa o rfl λo=>re<|tn<|Av (λa w=>(Z22 N p1)=some r∧Fr 28 [(0,SL F0 p1 C0)] a∧St w0 Nil [H] [] w) ?_ ?_
 refine wb<|lp (α:=Nat×Int) (λgh a w=>match gh with | (D0,I0)=>(Z23 N (Z22 N p1) p1) D0 I0=some r∧Fr 28 [(0,SL F0 p1 C0),(3,i6 I0)] a∧St w0 Nil [H] [] w) (λgh=>gh.1) (N,0) ⟨hm,o.hs,u⟩ ?_
 rintro ⟨D0,I0⟩ a w ⟨hm,o,u⟩
 obtain _ | D0:=D0
 simp [Z23] at hm
 rw [Z23] at hm
 refine th<|th<|rg<|qm o rfl λo=>qm o rfl λo=>qv o (Aj (α:=api_Stmt) (xs:=p1) o Ew rfl) λo=>qv o (Am o rfl rfl) λo=>re<|?_
 rcases bip hm with ⟨M0,hm⟩ | ⟨M0,hm⟩
 refine tn<|ctv o rfl M0<|wk<|tn<|th<|wb<|th<|?_
 obtain ⟨Q0,h9,hm⟩:=bs hm
 obtain ⟨F1,C1,S0⟩:=SR.get J0 h9
 obtain ⟨T0,O0,U0,P0,rfl,V0,W0,Y0,j0⟩:=Cb C1
 obtain ⟨I1,D1,hm⟩:=bs hm
 refine rg<|qm o rfl λo=>qm o rfl λo=>qv o (eI o Ew sizeOf130 rfl rfl h9 J0) λo=>qv o (eC o isAgg130 sizeOf130 rfl u.ld S0) λo=>ls<|cr o call106 (JgJ (Ag _) (Enc.mono (St.up u) (show Enc.rep (α:=api_Stmt) H (stC T0 O0 U0 P0 Q0) Q0 from ⟨_,_,rfl,rfl,⟨_,_,rfl,rfl,⟨_,_,rfl,rfl,⟨_,_,rfl,⟨_,_,rfl,V0,W0⟩,⟨_,_,rfl,⟨_,_,rfl,Y0,j0⟩,⟨_,_,rfl,rfl,⟨_,_,rfl,rfl,⟨_,_,rfl,rfl,rfl⟩⟩⟩⟩⟩⟩⟩⟩)) D1) u λu o=>qv o (Bi o rfl) λo=>re<|?_
 rcases bit hm with ⟨E0,hm⟩ | ⟨E0,hm⟩
 refine tn<|cfv o rfl (by rw [E0];rfl)<|wk<|bn<|tn<|rg<|qm o rfl λo=>qv o (Ao o rfl rfl) λo=>qa o rfl λo=>re<|tn<|?_
 exact ⟨(D0,(i64.wrap (I0+1))),⟨hm,o.hs,u⟩,kxd _⟩
 refine tn<|ctv o rfl (by rw [E0];rfl)<|th<|rg<|qa o rfl λo=>re<|tn<|wr<|br<|tr<|tr<|br<|tr<|?_
 obtain rfl:=si hm
 exact r1 o results98 rfl ⟨rfl,u.keep⟩
 refine tn<|cfv o rfl M0<|we<|tx<|tx<|bx<|tn<|?_
 exact ⟨hm,o.hs,u⟩
 rintro a w ⟨hm,o,u⟩
 unfold Z22 at hm
 refine th<|?_
 obtain ⟨R0,E1,hm⟩:=bs hm
 refine rg<|qm o rfl λo=>ls<|cr o call107 (Jgu _ (Ag _) n0 (St.srH u J0) E1) u λu o=>qa o rfl λo=>re<|tn<|th<|rg<|qm o rfl λo=>qv o (Bw o rfl rfl) λo=>qm o rfl λo=>gr (Fk:=[(27,.bool ((decide (0≤R0)) && (decide (R0≤12))))]) 24 3 o u ?_ ?_ ?_
 intro hb o key
 exact qg o (Aa o rfl) λo=>qg o (Gd o rfl rfl) λo=>qk o (Ab o rfl rfl) key u hb
 intro hb o key
 iterate 2 refine qn o λo=>?_
 exact qk o (Ac o rfl rfl) key u hb
 intro a w o u
 refine qa o rfl λo=>re<|tn<|wr<|?_
 obtain rfl:=si hm
 exact r1 o results98 rfl ⟨rfl,u.keep⟩
end Go.LM.SWAPS
