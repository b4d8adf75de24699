/- Walks, lifted by program. No condition beyond the theorems' own premises. -/
import Derived.Test.YtgdkaddhhpgeiaaGreatDoorLBQ2
namespace Go.LM.LB
open Go Go.LL Go.MD Go.LM Go.Proofs Go.MD.LB Go.Proofs.Tryz
set_option maxRecDepth 100000
variable {N:Nat} {w0:World} {H:PH}
set_option maxHeartbeats 4000000 in
theorem JaH (hH:H.le w0) {τ:Type} {y:τ→legal_use→Option (τ×Bool)} {C:τ→PH→List HA→Prop} {lyl:Nat} (hy:YC Tryz.prog lyl C (λ(H:PH) (args:List Value) (x:legal_use)=>∃ (cs0:List Value),args=[.agg cs0.toArray]∧Enc.rep H cs0 x) y) (hCm:∀ s H H' L,(∀ b o,H b=some o→H' b=some o)→C s H L→C s H' L) {s0:τ} {Lc:List HA} (hC:C s0 H Lc) {oa3:Option Addr} {cap4:Nat} {y2:(List api_Stmt)} (_:y2.length≤cap4) (T2:SR H oa3 y2) {b1:Nat} (P3:H b1=some (.cells [SL oa3 y2 cap4].toArray 46 (0,0))) (hO:(sepA [sepA Lc]).ok (hp w0)) (hD:∀ b,(sepA [sepA Lc]).fp b→H b=none) {r:τ} (hm:Z6v N y s0 y2=some r):Tot Tryz.prog 94 #[.func (.yield lyl) #[] #[],PT b1] w0 (λv w'=>∃ (H':PH) (Lcq:List HA),v=.tuple #[]∧C r H' Lcq∧ExtM w0 (sepA [sepA Lc]).fp H H'∧H'.le w'∧(∀ b,(sepA [sepA Lcq]).fp b→H' b=none)∧Mut w0 (sepA [sepA Lc]) (sepA [sepA Lcq]) w'):=by
 unfold Z6v at hm
 refine fn0 func94 rfl ntmps94 rfl rfl λa o=>?_
 have u:=Cg hH hO hD
 refine th<|rg<|qv o (Ah o Tryz.isAgg46 rfl (PH.le.cell (Lds.le u.ld) (Fs P3 rfl))) λo=>qv o (Al (α:=api_Stmt) (xs:=y2) o runUnderlying46 rfl) λo=>qm o rfl λo=>re<|tn<|wb<|lp (α:=Nat×Int×τ) (λgh a w=>match gh with | (M0,E0,C2)=>∃ (V0:PH) (LcA4:List HA),(Z72 N y y2) M0 E0 C2=some r∧ExtM w0 (sepA [sepA Lc]).fp H V0∧Fr 64 [(0,.func (.yield lyl) #[] #[]),(6,SL oa3 y2 cap4),(7,i6 (y2.length:Int)),(8,i6 E0)] a∧St w0 (sepA [sepA Lc]).fp [V0] [sepA LcA4] w∧C C2 V0 LcA4) (λgh=>gh.1) (N,0,s0) ⟨H,Lc,hm,(ExtM.refl _ _ _),o.hs,u,hC⟩ ?_
 rintro ⟨M0,E0,C2⟩ a w ⟨V0,LcA4,hm,F0,o,u,hCA5⟩
 obtain _ | M0:=M0
 simp [Z72] at hm
 rw [Z72] at hm
 refine th<|rg<|qv o (Au o rfl rfl) λo=>re<|?_
 rcases bip hm with ⟨E2,hm⟩ | ⟨E2,hm⟩
 refine tn<|th<|ctv o rfl E2<|wk<|tn<|th<|wb<|th<|?_
 obtain ⟨C0,F2,hm⟩:=bs hm
 obtain ⟨W3,Q3,Y2⟩:=SR.get T2 F2
 obtain ⟨W0,R0,X0,S0,rfl,G2,I2,A3,B3⟩:=Ce Q3
 refine rg<|qv o (Aq o Tryz.runUnderlying46 Tryz.sizeOf51 rfl rfl F2 (SR.oaI T2 (by decide) F2)) λo=>qv o (Ar o isAgg51 sizeOf51 rfl rfl (λj v hj=>PH.le.cell (λb o hx=>(Lds.le u.ld) b o (F0.sub b o hx)) (Y2 j v hj))) λo=>ls<|Ap (cs:=[i6 0,Ac [],Ac [],.slice none 0 0,.slice none 0 0,i6 0,i6 0,i6 0,i6 0].toArray) o rfl u zeroValue51 rfl λQ0 w a u o=>ls<|Aw o u sizeOf51 rfl rfl rfl rfl (Ak rfl) .head λw u=>re<|tn<|th<|th<|Ay (λa w=>∃ (J2:Bool) (u0:τ) (D0:PH) (LcB4:List HA),(Z6w N (Z72 N y y2 M0) y C0 E0) J2 u0=some r∧ExtM w0 (sepA [sepA Lc]).fp V0 D0∧Fr 64 [(0,.func (.yield lyl) #[] #[]),(4,PT Q0),(6,SL oa3 y2 cap4),(7,i6 (y2.length:Int)),(8,i6 E0),(25,.bool J2)] a∧St w0 (sepA [sepA Lc]).fp [D0] [bk Q0 [i6 C0.Kind,Ac C0.Reg,Ac C0.Name,SL W0 C0.E R0,SL X0 C0.F S0,i6 C0.N,i6 C0.Body,i6 C0.Else,i6 C0.At] 51,sepA LcB4] w∧C u0 D0 LcB4) ?_ ?_
 rcases bip hm with ⟨G1,hm⟩ | ⟨G1,hm⟩
 obtain ⟨U2,R3,hm⟩:=bs hm
 refine rg<|qv o (Ag o Dn rfl) λo=>qv o (Ah o isAgg9 rfl (u.ld.cellB t0 rfl)) λo=>qv o (Hu (m:=C0.Reg) (n:=[]) o rfl rfl) λo=>qv o (An (Ab o rfl) (congrArg Value.bool G1)) λo=>qg o (Ab o rfl) λo=>qg o (Ag o Dn rfl) λo=>qg o (Ah o isAgg9 rfl (u.ld.cellB t0 rfl)) λo=>qg o (Ag o Kf rfl) λo=>qg o (Ah o isAgg3 rfl (u.ld.cellB t0 rfl)) λo=>ls<|gy o rfl rfl<|Bh (e:=3) (sz:=1) [i6 5] o rfl u rfl rfl rfl (λw=>by kernel_rfl) λB1 w a u o=>?_
 have C3:Rows (α:=Int) V0 [i6 5] ([5]:List Int):=(.cons (c:=[i6 5]) rfl .nil)
 refine qg o (Bi [Ac C0.Reg,i6 C0.At,.slice (some ⟨B1,0,none⟩) ([5]:List Int).length 1] [Ac C0.Reg,i6 C0.At,.slice (some ⟨B1,0,none⟩) ([5]:List Int).length 1] o ⟨rfl,rfl,rfl,trivial⟩ (λw=>by kernel_rfl)) λo=>?_
 obtain ⟨H30,K2,D3,E3,u⟩:=St.frzSM u .head C3
 refine Yi (Ha o rfl rfl)<|ly (vs:=[.agg #[Ac C0.Reg,i6 C0.At,.slice (some ⟨B1,0,none⟩) ([5]:List Int).length 1]]) o rfl rfl ⟨rfl,trivial⟩ hy u t1 (hCm _ _ _ _ K2.sub hCA5) ⟨[Ac C0.Reg,i6 C0.At,.slice (some ⟨B1,0,none⟩) ([5]:List Int).length 1],rfl,(show Enc.rep (α:=legal_use) H30 [Ac C0.Reg,i6 C0.At,.slice (some ⟨B1,0,none⟩) ([5]:List Int).length 1] (legal_use.mk C0.Reg C0.At ([5]:List Int)) from ⟨_,_,rfl,rfl,⟨_,_,rfl,rfl,⟨_,_,rfl,E3,D3⟩⟩⟩)⟩ R3 (λa w H36 Lc35 hC34 F3 hU o=>?_)
 replace u:=hU _ (.tail .head)
 refine qg o (Bc o rfl) λo=>qv o (Ad o rfl rfl) λo=>re<|tn<|?_
 exact ⟨(!U2.2),U2.1,H36,Lc35,hm,(ExtM.trans K2 F3),o.hs,u,hC34⟩
 refine rg<|qv o (Ag o Dn rfl) λo=>qv o (Ah o isAgg9 rfl (u.ld.cellB t0 rfl)) λo=>qv o (Hu (m:=C0.Reg) (n:=[]) o rfl rfl) λo=>qv o (An (Ab o rfl) (congrArg Value.bool G1)) λo=>?_
 iterate 9 refine qn o λo=>?_
 refine qv o (Ae o rfl rfl) λo=>re<|tn<|?_
 exact ⟨false,C2,V0,LcA4,hm,(ExtM.refl _ _ _),o.hs,u,hCA5⟩
 rintro a w ⟨J2,u0,D0,LcB4,hm,K0,o,u,hCB5⟩
 unfold Z6w at hm
 rcases bit hm with ⟨I1,hm⟩ | ⟨I1,hm⟩
 refine ctv o rfl I1<|wr<|tr<|br<|tr<|tr<|br<|?_
 obtain rfl:=si hm
 exact r0 o results94 ⟨D0,LcB4,rfl,hCB5,(ExtM.trans F0 K0),(St.le u),(St.disL (u.pickL (.cons (.tail .head) .nil))),(u.pickL (.cons (.tail .head) .nil)).endMut⟩
 refine cfv o rfl I1<|wk<|tn<|th<|rg<|ls<|Bh (e:=3) (sz:=1) [i6 1,i6 2] o rfl u rfl rfl rfl (λw=>by kernel_rfl) λC1 w a u o=>?_
 have G3:Rows (α:=Int) D0 [i6 1,i6 2] ([1,2]:List Int):=(.cons (c:=[i6 1]) rfl (.cons (c:=[i6 2]) rfl .nil))
 refine qa o rfl λo=>re<|tn<|th<|th<|rg<|qv o (Ag o Eu rfl) λo=>qv o (Ah o isAgg3 rfl (u.ld.cellB t1 rfl)) λo=>re<|tn<|Ay (λa w=>∃ (O0:(List Int)) (j0:τ) (P0:Option Addr) (G0:Nat) (J1:List Value) (LcB13:List HA),(Z6x N (Z72 N y y2 M0) y C0 E0) O0 j0=some r∧Fr 64 [(0,.func (.yield lyl) #[] #[]),(4,PT Q0),(5,SL P0 O0 G0),(6,SL oa3 y2 cap4),(7,i6 (y2.length:Int)),(8,i6 E0)] a∧St w0 (sepA [sepA Lc]).fp [D0] [bk Q0 [i6 C0.Kind,Ac C0.Reg,Ac C0.Name,SL W0 C0.E R0,SL X0 C0.F S0,i6 C0.N,i6 C0.Body,i6 C0.Else,i6 C0.At] 51,sla 3 1 P0 O0.length G0 J1,sepA LcB13] w∧Rows D0 J1 O0∧C j0 D0 LcB13) ?_ ?_
 refine wb<|th<|th<|rg<|qv o (Am o rfl rfl) λo=>qa o rfl λo=>re<|tn<|Ay (λa w=>∃ (M2:Bool) (Y0:τ) (LcC3:List HA),(Z6y (Z6x N (Z72 N y y2 M0) y C0 E0) C0) M2 Y0=some r∧Fr 64 [(0,.func (.yield lyl) #[] #[]),(4,PT Q0),(5,.slice (some ⟨C1,0,none⟩) ([1,2]:List Int).length 2),(6,SL oa3 y2 cap4),(7,i6 (y2.length:Int)),(8,i6 E0),(28,i6 C0.Kind),(29,.bool M2)] a∧St w0 (sepA [sepA Lc]).fp [D0] [bk Q0 [i6 C0.Kind,Ac C0.Reg,Ac C0.Name,SL W0 C0.E R0,SL X0 C0.F S0,i6 C0.N,i6 C0.Body,i6 C0.Else,i6 C0.At] 51,sla 3 1 (some ⟨C1,0,none⟩) ([1,2]:List Int).length 2 [i6 1,i6 2],sepA LcC3] w∧C Y0 D0 LcC3) ?_ ?_
 rcases bip hm with ⟨M1,hm⟩ | ⟨M1,hm⟩
 refine ctv o rfl M1<|wk<|tn<|?_
 replace u:=u.pk [1,0,0] rfl
 exact ⟨(decide (C0.Kind=5)),u0,LcB4,hm,o.hs,u,hCB5⟩
 refine cfv o rfl M1<|rg<|qv o (Am o rfl rfl) λo=>qa o rfl λo=>re<|tn<|?_
 replace u:=u.pk [1,0,0] rfl
 exact ⟨(decide (C0.Kind=6)),u0,LcB4,hm,o.hs,u,hCB5⟩
 rintro a w ⟨M2,Y0,LcC3,hm,o,u,hCC4⟩
 unfold Z6y at hm
 rcases bit hm with ⟨O1,hm⟩ | ⟨O1,hm⟩
 refine ctv o rfl O1<|rg<|ls<|Bh (e:=3) (sz:=1) [i6 1] o rfl u rfl rfl rfl (λw=>by kernel_rfl) λS3 w a u o=>?_
 have I3:Rows (α:=Int) D0 [i6 1] ([1]:List Int):=(.cons (c:=[i6 1]) rfl .nil)
 refine qa o rfl λo=>re<|bn<|tn<|?_
 replace u:=u.pk [1,0,1] rfl
 exact ⟨([1]:List Int),Y0,(some ⟨S3,0,none⟩),1,[i6 1],LcC3,hm,o.hs,u,I3,hCC4⟩
 refine cfv o rfl O1<|th<|th<|rg<|qv o (Am o rfl rfl) λo=>qa o rfl λo=>re<|tn<|Ay (λa w=>∃ (O2:Bool) (E1:τ) (LcC7:List HA),(Z6z (Z6x N (Z72 N y y2 M0) y C0 E0)) O2 E1=some r∧Fr 64 [(0,.func (.yield lyl) #[] #[]),(4,PT Q0),(5,.slice (some ⟨C1,0,none⟩) ([1,2]:List Int).length 2),(6,SL oa3 y2 cap4),(7,i6 (y2.length:Int)),(8,i6 E0),(33,.bool O2)] a∧St w0 (sepA [sepA Lc]).fp [D0] [bk Q0 [i6 C0.Kind,Ac C0.Reg,Ac C0.Name,SL W0 C0.E R0,SL X0 C0.F S0,i6 C0.N,i6 C0.Body,i6 C0.Else,i6 C0.At] 51,sla 3 1 (some ⟨C1,0,none⟩) ([1,2]:List Int).length 2 [i6 1,i6 2],sepA LcC7] w∧C E1 D0 LcC7) ?_ ?_
 rcases bip hm with ⟨P1,hm⟩ | ⟨P1,hm⟩
 refine ctv o rfl P1<|wk<|tn<|?_
 exact ⟨(decide (C0.Kind=9)),Y0,LcC3,hm,o.hs,u,hCC4⟩
 refine cfv o rfl P1<|rg<|qv o (Am o rfl rfl) λo=>qa o rfl λo=>re<|tn<|?_
 exact ⟨(decide (C0.Kind=10)),Y0,LcC3,hm,o.hs,u,hCC4⟩
 rintro a w ⟨O2,E1,LcC7,hm,o,u,hCC8⟩
 unfold Z6z at hm
 rcases bit hm with ⟨Q1,hm⟩ | ⟨Q1,hm⟩
 refine ctv o rfl Q1<|rg<|ls<|Bh (e:=3) (sz:=1) [i6 3] o rfl u rfl rfl rfl (λw=>by kernel_rfl) λT3 w a u o=>?_
 have J3:Rows (α:=Int) D0 [i6 3] ([3]:List Int):=(.cons (c:=[i6 3]) rfl .nil)
 refine qa o rfl λo=>re<|bn<|tn<|?_
 replace u:=u.pk [1,0,1] rfl
 exact ⟨([3]:List Int),E1,(some ⟨T3,0,none⟩),1,[i6 3],LcC7,hm,o.hs,u,J3,hCC8⟩
 refine cfv o rfl Q1<|wk<|bn<|tn<|?_
 exact ⟨([1,2]:List Int),E1,(some ⟨C1,0,none⟩),2,[i6 1,i6 2],LcC7,hm,o.hs,u,G3,hCC8⟩
 rintro a w ⟨O0,j0,P0,G0,J1,LcB13,hm,o,u,R2,hCB14⟩
 unfold Z6x at hm
 refine th<|th<|Ay (λa w=>∃ (R1:Bool) (S1:τ) (T0:PH) (LcB18:List HA),(Z70 N (Z72 N y y2 M0) y C0 E0) R1 S1=some r∧ExtM w0 (sepA [sepA Lc]).fp D0 T0∧Fr 64 [(0,.func (.yield lyl) #[] #[]),(4,PT Q0),(6,SL oa3 y2 cap4),(7,i6 (y2.length:Int)),(8,i6 E0),(50,.bool R1)] a∧St w0 (sepA [sepA Lc]).fp [T0] [bk Q0 [i6 C0.Kind,Ac C0.Reg,Ac C0.Name,SL W0 C0.E R0,SL X0 C0.F S0,i6 C0.N,i6 C0.Body,i6 C0.Else,i6 C0.At] 51,sepA LcB18] w∧C S1 T0 LcB18) ?_ ?_
 rcases bip hm with ⟨T1,hm⟩ | ⟨T1,hm⟩
 obtain ⟨V2,U3,hm⟩:=bs hm
 refine rg<|qv o (Ag o Du rfl) λo=>qv o (Ah o isAgg9 rfl (u.ld.cellB t0 rfl)) λo=>qv o (Hu (m:=C0.Name) (n:=[]) o rfl rfl) λo=>qv o (An (Ab o rfl) (congrArg Value.bool T1)) λo=>qg o (Ab o rfl) λo=>qg o (Ag o Du rfl) λo=>qg o (Ah o isAgg9 rfl (u.ld.cellB t0 rfl)) λo=>qg o (Ag o Kf rfl) λo=>qg o (Ah o isAgg3 rfl (u.ld.cellB t0 rfl)) λo=>qg o (Ab o rfl) λo=>qg o (Bi [Ac C0.Name,i6 C0.At,SL P0 O0 G0] [Ac C0.Name,i6 C0.At,SL P0 O0 G0] o ⟨rfl,rfl,rfl,trivial⟩ (λw=>by kernel_rfl)) λo=>?_
 obtain ⟨H55,P2,K3,L3,u⟩:=St.frzSM u (.tail .head) R2
 refine Yi (Ha o rfl rfl)<|ly (vs:=[.agg #[Ac C0.Name,i6 C0.At,SL P0 O0 G0]]) o rfl rfl ⟨rfl,trivial⟩ hy u t1 (hCm _ _ _ _ P2.sub hCB14) ⟨[Ac C0.Name,i6 C0.At,SL P0 O0 G0],rfl,(show Enc.rep (α:=legal_use) H55 [Ac C0.Name,i6 C0.At,SL P0 O0 G0] (legal_use.mk C0.Name C0.At O0) from ⟨_,_,rfl,rfl,⟨_,_,rfl,rfl,⟨_,_,rfl,L3,K3⟩⟩⟩)⟩ U3 (λa w H61 Lc60 hC59 M3 hU o=>?_)
 replace u:=hU _ (.tail .head)
 refine qg o (Bc o rfl) λo=>qv o (Ad o rfl rfl) λo=>re<|tn<|?_
 exact ⟨(!V2.2),V2.1,H61,Lc60,hm,(ExtM.trans P2 M3),o.hs,u,hC59⟩
 refine rg<|qv o (Ag o Du rfl) λo=>qv o (Ah o isAgg9 rfl (u.ld.cellB t0 rfl)) λo=>qv o (Hu (m:=C0.Name) (n:=[]) o rfl rfl) λo=>qv o (An (Ab o rfl) (congrArg Value.bool T1)) λo=>?_
 iterate 9 refine qn o λo=>?_
 refine qv o (Ae o rfl rfl) λo=>re<|tn<|?_
 replace u:=u.pk [0,1] rfl
 exact ⟨false,j0,D0,LcB13,hm,(ExtM.refl _ _ _),o.hs,u,hCB14⟩
 rintro a w ⟨R1,S1,T0,LcB18,hm,J0,o,u,hCB19⟩
 unfold Z70 at hm
 rcases bit hm with ⟨U1,hm⟩ | ⟨U1,hm⟩
 refine ctv o rfl U1<|wr<|tr<|br<|tr<|tr<|br<|?_
 obtain rfl:=si hm
 exact r0 o results94 ⟨T0,LcB18,rfl,hCB19,(ExtM.trans F0 (ExtM.trans K0 J0)),(St.le u),(St.disL (u.pickL (.cons (.tail .head) .nil))),(u.pickL (.cons (.tail .head) .nil)).endMut⟩
 refine cfv o rfl U1<|wk<|tn<|th<|Ay (λa w=>∃ (V1:Bool) (n0:τ) (U0:PH) (LcB23:List HA),(Z71 (Z72 N y y2 M0) E0) V1 n0=some r∧ExtM w0 (sepA [sepA Lc]).fp T0 U0∧Fr 64 [(0,.func (.yield lyl) #[] #[]),(6,SL oa3 y2 cap4),(7,i6 (y2.length:Int)),(8,i6 E0),(62,.bool V1)] a∧St w0 (sepA [sepA Lc]).fp [U0] [sepA LcB23] w∧C n0 U0 LcB23) ?_ ?_
 obtain ⟨Q2,W2,hm⟩:=bs hm
 rcases bit hm with ⟨X1,hm⟩ | ⟨X1,hm⟩
 have X1':(!Q2.1)=false:=by rw [X1];rfl
 obtain ⟨X2,V3,hm⟩:=bs hm
 refine rg<|qv o (Ag o Ew rfl) λo=>qv o (Ah o isAgg49 rfl (u.ld.cellB t0 rfl)) λo=>qm o rfl λo=>?_
 replace u:=u.pk [1,0] rfl
 replace u:=St.sep [sepA LcB18] u
 refine ls<|c1 o rfl call95 (Un (St.le u) G2 (I2.mono (cp (cp J0.sub K0.sub) F0.sub)) hy hCm hCB19 (St.sepOk u) (St.sepDis u) W2) ⟨rfl,rfl,rfl,trivial⟩ (λv w a hR o=>?_)
 obtain ⟨H68,Lc69,rfl,hC70,I0,Y1,hd67,hk⟩:=hR
 obtain ⟨u,I0⟩:=And.intro (St.mutH u hk I0 Y1 hd67) (St.extcMM u I0)
 replace u:=u.unsep
 refine qv o (Bc o rfl) λo=>qv o (An (Ab o rfl) (congrArg Value.bool X1')) λo=>qg o (Ag o Ll rfl) λo=>qg o (Ah o isAgg49 rfl (u.ld.cellB t1 rfl)) λo=>qg o (Ab o rfl) λo=>?_
 replace u:=u.pk [0,0] rfl
 replace u:=St.sep [sepA Lc69] u
 refine ls<|gy o rfl rfl<|c1 o rfl call95 (Un (St.le u) A3 (B3.mono (cp (cp (cp I0.sub J0.sub) K0.sub) F0.sub)) hy hCm hC70 (St.sepOk u) (St.sepDis u) V3) ⟨rfl,rfl,rfl,trivial⟩ (λv w a hR o=>?_)
 obtain ⟨H77,Lc78,rfl,hC79,p0,O3,hd76,hk⟩:=hR
 obtain ⟨u,p0⟩:=And.intro (St.mutH u hk p0 O3 hd76) (St.extcMM u p0)
 replace u:=u.unsep
 refine qg o (Bc o rfl) λo=>qv o (Ae o rfl rfl) λo=>re<|tn<|?_
 replace u:=u.pk [0] rfl
 exact ⟨(!X2.1),X2.2,H77,Lc78,hm,(ExtM.trans I0 p0),o.hs,u,hC79⟩
 have X1':(!Q2.1)=true:=by rw [X1];rfl
 refine rg<|qv o (Ag o Ew rfl) λo=>qv o (Ah o isAgg49 rfl (u.ld.cellB t0 rfl)) λo=>qm o rfl λo=>?_
 replace u:=u.pk [1,0] rfl
 replace u:=St.sep [sepA LcB18] u
 refine ls<|c1 o rfl call95 (Un (St.le u) G2 (I2.mono (cp (cp J0.sub K0.sub) F0.sub)) hy hCm hCB19 (St.sepOk u) (St.sepDis u) W2) ⟨rfl,rfl,rfl,trivial⟩ (λv w a hR o=>?_)
 obtain ⟨H68,Lc69,rfl,hC70,I0,Y1,hd67,hk⟩:=hR
 obtain ⟨u,I0⟩:=And.intro (St.mutH u hk I0 Y1 hd67) (St.extcMM u I0)
 replace u:=u.unsep
 refine qv o (Bc o rfl) λo=>qv o (An (Ab o rfl) (congrArg Value.bool X1')) λo=>?_
 iterate 5 refine qn o λo=>?_
 refine qv o (Ad o rfl rfl) λo=>re<|tn<|?_
 replace u:=u.pk [0] rfl
 exact ⟨true,Q2.2,H68,Lc69,hm,I0,o.hs,u,hC70⟩
 rintro a w ⟨V1,n0,U0,LcB23,hm,F1,o,u,hCB24⟩
 unfold Z71 at hm
 rcases bit hm with ⟨B2,hm⟩ | ⟨B2,hm⟩
 refine ctv o rfl B2<|wr<|br<|tr<|tr<|br<|?_
 obtain rfl:=si hm
 exact r0 o results94 ⟨U0,LcB23,rfl,hCB24,(ExtM.trans F0 (ExtM.trans K0 (ExtM.trans J0 F1))),(St.le u),(St.disL (u.pickL (.cons .head .nil))),(u.pickL (.cons .head .nil)).endMut⟩
 refine cfv o rfl B2<|wk<|bn<|tn<|rg<|qv o (Ao o rfl rfl) λo=>qm o rfl λo=>re<|tn<|?_
 exact ⟨(M0,(IntKind.i64.wrap (E0+1)),n0),⟨U0,LcB23,hm,(ExtM.trans F0 (ExtM.trans K0 (ExtM.trans J0 F1))),o.hs,u,hCB24⟩,Nat.lt_succ_self _⟩
 refine tn<|th<|cfv o rfl E2<|we<|tx<|tx<|bx<|?_
 obtain rfl:=si hm
 exact r0n o results94 ⟨V0,LcA4,rfl,hCA5,F0,(St.le u),(St.disL (u.pickL (.cons .head .nil))),(u.pickL (.cons .head .nil)).endMut⟩
theorem Jbv (hH:H.le w0) {G0:Option Addr} {D0:Nat} {p1:(List Int)} (_:p1.length≤D0) (J0:SR H G0 p1) {p6:Int} {r:Int} (hm:Z99 N p1 p6=some r):Tot Tryz.prog 96 #[SL G0 p1 D0,i6 p6] w0 (λv w'=>v=i6 r∧Keep Nil w0 w'):=by
 unfold Z99 at hm
 refine fn0 func96 rfl ntmps96 rfl rfl λa o=>?_
 have u:St w0 Nil [H] [] w0:=start1 hH
 refine th<|rg<|qa o rfl λo=>re<|tn<|th<|th<|rg<|qm o rfl λo=>qv o (Al (α:=Int) (xs:=p1) o runUnderlying42 rfl) λo=>qm o rfl λo=>re<|tn<|Ay (λa w=>Z9a=some r∧Fr 19 [] a∧St w0 Nil [H] [] w) ?_ ?_
 refine wb<|lp (α:=Nat×Int) (λgh a w=>match gh with | (C0,F0)=>(Z9b N Z9a p1 p6) C0 F0=some r∧Fr 19 [(0,SL G0 p1 D0),(1,i6 p6),(7,i6 (p1.length:Int)),(8,i6 F0)] a∧St w0 Nil [H] [] w) (λgh=>gh.1) (N,0) ⟨hm,o.hs,u⟩ ?_
 rintro ⟨C0,F0⟩ a w ⟨hm,o,u⟩
 obtain _ | C0:=C0
 simp [Z9b] at hm
 rw [Z9b] at hm
 refine th<|rg<|qv o (Au o rfl rfl) λo=>re<|?_
 rcases bip hm with ⟨I0,hm⟩ | ⟨I0,hm⟩
 refine tn<|th<|ctv o rfl I0<|wk<|tn<|th<|wb<|th<|rg<|qm o rfl λo=>qa o rfl λo=>re<|tn<|th<|?_
 obtain ⟨M0,h9,hm⟩:=bs hm
 obtain ⟨O0,P0,K0⟩:=SR.get J0 h9
 obtain rfl:O0=[i6 M0]:=P0
 refine rg<|qm o rfl λo=>?_
 iterate 2 refine qm o rfl λo=>?_
 refine qv o (Aq o runUnderlying42 sizeOf3 rfl rfl h9 (SR.oaI J0 (by decide) h9)) λo=>qv o (Ah o isAgg3 rfl (PH.le.cell (Lds.le u.ld) (K0 0 _ rfl))) λo=>qv o (Am o rfl rfl) λo=>re<|?_
 rcases bip hm with ⟨E0,hm⟩ | ⟨E0,hm⟩
 refine tn<|ctv o rfl E0<|th<|rg<|qm o rfl λo=>qa o rfl λo=>re<|tn<|wr<|br<|tr<|tr<|br<|tr<|?_
 obtain rfl:=si hm
 exact r1 o results96 rfl ⟨rfl,u.keep⟩
 refine tn<|cfv o rfl E0<|wk<|bn<|tn<|rg<|qv o (Ao o rfl rfl) λo=>qm o rfl λo=>re<|tn<|?_
 exact ⟨(C0,(IntKind.i64.wrap (F0+1))),⟨hm,o.hs,u⟩,Nat.lt_succ_self _⟩
 refine tn<|th<|cfv o rfl I0<|we<|tx<|tx<|bx<|tn<|?_
 exact ⟨hm,o.has trivial,u⟩
 rintro a w ⟨hm,o,u⟩
 unfold Z9a at hm
 refine th<|rg<|qa o rfl λo=>re<|tn<|wr<|?_
 obtain rfl:=si hm
 exact r1 o results96 rfl ⟨rfl,u.keep⟩
theorem JaJ (hH:H.le w0) {D0:Option Addr} {C0:Nat} {p1:(List Int)} (E0:p1.length≤C0) (F0:SR H D0 p1) {p6:Int} {r:Bool} (hm:Z8e N p1 p6=some r):Tot Tryz.prog 56 #[SL D0 p1 C0,i6 p6] w0 (λv w'=>v=.bool r∧Keep Nil w0 w'):=by
 unfold Z8e at hm
 refine fn0 func56 rfl ntmps56 rfl rfl λa o=>?_
 have u:St w0 Nil [H] [] w0:=start1 hH
 refine th<|rg<|qa o rfl λo=>re<|tn<|th<|?_
 obtain ⟨G0,h8,hm⟩:=bs hm
 refine rg<|qm o rfl λo=>qm o rfl λo=>ls<|cr o call96 (Jbv (Ai _) E0 (St.srH u F0) h8) u λu o=>qv o (Bm o rfl rfl) λo=>qa o rfl λo=>re<|tn<|wr<|?_
 obtain rfl:=si hm
 exact r1 o results56 rfl ⟨rfl,u.keep⟩
set_option maxHeartbeats 4000000 in
theorem Hk (hH:H.le w0) (hT:Tab H) {cs2:List Value} {p1:api_Prog} (g3:Enc.rep H cs2 p1) {r:(Int×Int)} (hm:Z5k N p1=some r):Tot Tryz.prog 16 #[.agg cs2.toArray] w0 (λv w'=>v=.tuple #[i6 r.1,i6 r.2]∧Keep Nil w0 w'):=by
 unfold Z5k at hm
 refine fnM func16 rfl ntmps16 rfl rfl λa o=>?_
 have u:St w0 Nil [H] [] w0:=start1 hH
 replace u:=St.ds0 u
 obtain ⟨V0,M0,W0,O0,P0,F0,Q0,G0,R0,I0,J0,C0,rfl,F2,G2,F1,G1,I1,J1,M1,O1,P1,Q1,R1,Y0⟩:=Av g3
 refine th<|rg<|ls<|Bz (cs:=[SL V0 p1.Lines M0,SL W0 p1.Vols O0,SL P0 p1.Locks F0,SL Q0 p1.Threads G0,SL R0 p1.Recover I0,SL J0 p1.Claims C0].toArray) o rfl u rfl rfl λS0 w a u o=>ls<|Ap (cs:=[i6 0].toArray) o rfl u zeroValue29 rfl λD0 w a u o=>ls<|Ap (cs:=[i6 0].toArray) o rfl u zeroValue3 rfl λE0 w a u o=>re<|tn<|th<|?_
 obtain ⟨T0,k5,hm⟩:=bs hm
 refine rg<|qv o (Ar o Tryz.isAgg27 Tryz.sizeOf27 rfl rfl (u.ld.cellsB t2)) λo=>ls<|c1 o rfl call49 (Jap (Ai _) (Enc.mono (St.up u) (show Enc.rep (α:=api_Prog) H [SL V0 p1.Lines M0,SL W0 p1.Vols O0,SL P0 p1.Locks F0,SL Q0 p1.Threads G0,SL R0 p1.Recover I0,SL J0 p1.Claims C0] p1 from ⟨_,_,rfl,⟨_,_,rfl,F2,G2⟩,⟨_,_,rfl,⟨_,_,rfl,F1,G1⟩,⟨_,_,rfl,⟨_,_,rfl,I1,J1⟩,⟨_,_,rfl,⟨_,_,rfl,M1,O1⟩,⟨_,_,rfl,⟨_,_,rfl,P1,Q1⟩,⟨_,_,rfl,R1,Y0⟩⟩⟩⟩⟩⟩)) k5) ⟨rfl,trivial⟩ (λv w a hR o=>?_)
 obtain ⟨m33,j0,n0,rfl,C3,hk⟩:=hR
 replace u:=u.fresh hk
 refine qm o rfl λo=>?_
 iterate 3 refine qv o (Bv o rfl rfl) λo=>?_
 iterate 3 refine qa o rfl λo=>?_
 refine re<|tn<|th<|wb<|th<|?_
 obtain ⟨y6,n5,hm⟩:=bs hm
 refine rg<|qv o (Ar o Tryz.isAgg27 Tryz.sizeOf27 rfl rfl (u.ld.cellsB t3)) λo=>ls<|cr o call50 (JaI (Ai _) (Tab.mono hT (St.up u)) (Enc.mono (St.up u) (show Enc.rep (α:=api_Prog) H [SL V0 p1.Lines M0,SL W0 p1.Vols O0,SL P0 p1.Locks F0,SL Q0 p1.Threads G0,SL R0 p1.Recover I0,SL J0 p1.Claims C0] p1 from ⟨_,_,rfl,⟨_,_,rfl,F2,G2⟩,⟨_,_,rfl,⟨_,_,rfl,F1,G1⟩,⟨_,_,rfl,⟨_,_,rfl,I1,J1⟩,⟨_,_,rfl,⟨_,_,rfl,M1,O1⟩,⟨_,_,rfl,⟨_,_,rfl,P1,Q1⟩,⟨_,_,rfl,R1,Y0⟩⟩⟩⟩⟩⟩)) n5) u λu o=>qv o (Bc o rfl) λo=>qa o rfl λo=>re<|?_
 rcases bit hm with ⟨D3,hm⟩ | ⟨D3,hm⟩
 refine tn<|cfv o rfl (by rw [D3];rfl)<|th<|?_
 obtain ⟨z6,u5,hm⟩:=bs hm
 refine rg<|qv o (Ar o Tryz.isAgg27 Tryz.sizeOf27 rfl rfl (u.ld.cellsB t3)) λo=>ls<|cr o call51 (JaX (Ai _) (Enc.mono (St.up u) (show Enc.rep (α:=api_Prog) H [SL V0 p1.Lines M0,SL W0 p1.Vols O0,SL P0 p1.Locks F0,SL Q0 p1.Threads G0,SL R0 p1.Recover I0,SL J0 p1.Claims C0] p1 from ⟨_,_,rfl,⟨_,_,rfl,F2,G2⟩,⟨_,_,rfl,⟨_,_,rfl,F1,G1⟩,⟨_,_,rfl,⟨_,_,rfl,I1,J1⟩,⟨_,_,rfl,⟨_,_,rfl,M1,O1⟩,⟨_,_,rfl,⟨_,_,rfl,P1,Q1⟩,⟨_,_,rfl,R1,Y0⟩⟩⟩⟩⟩⟩)) u5) u λu o=>qa o rfl λo=>re<|?_
 rcases bit hm with ⟨E3,hm⟩ | ⟨E3,hm⟩
 refine tn<|ctv o rfl E3<|th<|rg<|ls<|As o u Tryz.sizeOf29 rfl rfl rfl rfl (.tail (.tail .head)) .zero λw u=>ls<|As o u sizeOf3 rfl rfl rfl rfl (.tail .head) .zero λw u=>re<|tn<|wr<|br<|tr<|?_
 obtain rfl:=si hm
 replace u:=u.pk [4,0,0,0,0] rfl
 exact rM (.inl rfl) o u λw u=>⟨_,Jj o rfl rfl rfl isAgg29 isAgg3 (u.ld.cellB t2 rfl) (u.ld.cellB t1 rfl),⟨rfl,u.keep⟩⟩
 refine tn<|cfv o rfl E3<|wk<|bn<|tn<|th<|th<|?_
 obtain ⟨Q3,A6,hm⟩:=bs hm
 refine rg<|qv o (Ar o Tryz.isAgg27 Tryz.sizeOf27 rfl rfl (u.ld.cellsB t3)) λo=>ls<|c1 o rfl call52 (Rz (St.le u) (show Enc.rep (α:=api_Prog) H [SL V0 p1.Lines M0,SL W0 p1.Vols O0,SL P0 p1.Locks F0,SL Q0 p1.Threads G0,SL R0 p1.Recover I0,SL J0 p1.Claims C0] p1 from ⟨_,_,rfl,⟨_,_,rfl,F2,G2⟩,⟨_,_,rfl,⟨_,_,rfl,F1,G1⟩,⟨_,_,rfl,⟨_,_,rfl,I1,J1⟩,⟨_,_,rfl,⟨_,_,rfl,M1,O1⟩,⟨_,_,rfl,⟨_,_,rfl,P1,Q1⟩,⟨_,_,rfl,R1,Y0⟩⟩⟩⟩⟩⟩) A6) ⟨rfl,trivial⟩ (λv w a hR o=>?_)
 obtain ⟨H48,B5,L4,rfl,R6,D4,K0,C5,hk⟩:=hR
 obtain ⟨u,K0⟩:=And.intro (St.passH u hk K0 C5) (St.extc u K0)
 refine qv o (Al (α:=api_Thread) (xs:=Q3) o runUnderlying24 rfl) λo=>qm o rfl λo=>re<|tn<|Ay (λa w=>(Z5m N p1 T0)=some r∧Fr 128 [(1,PT S0),(2,PT D0),(3,PT E0),(4,.map (some m33)),(5,i6 T0.2.1),(6,.bool T0.2.2)] a∧St w0 Nil [H48] [bk S0 [SL V0 p1.Lines M0,SL W0 p1.Vols O0,SL P0 p1.Locks F0,SL Q0 p1.Threads G0,SL R0 p1.Recover I0,SL J0 p1.Claims C0] 27,bk D0 [i6 0] 29,bk E0 [i6 0] 3,Bw kS m33 j0 n0,dsA []] w) ?_ ?_
 replace u:=u.pk [3,2,1,0,0] rfl
 refine wb<|lp (α:=Nat×Int) (λgh a w=>match gh with | (T2,R3)=>(Z5s N (Z5m N p1 T0) Q3) T2 R3=some r∧Fr 128 [(1,PT S0),(2,PT D0),(3,PT E0),(4,.map (some m33)),(5,i6 T0.2.1),(6,.bool T0.2.2),(38,SL B5 Q3 L4),(39,i6 (Q3.length:Int)),(40,i6 R3)] a∧St w0 Nil [H48] [bk S0 [SL V0 p1.Lines M0,SL W0 p1.Vols O0,SL P0 p1.Locks F0,SL Q0 p1.Threads G0,SL R0 p1.Recover I0,SL J0 p1.Claims C0] 27,bk D0 [i6 0] 29,bk E0 [i6 0] 3,Bw kS m33 j0 n0,dsA []] w) (λgh=>gh.1) (N,0) ⟨hm,o.hs,u⟩ ?_
 rintro ⟨T2,R3⟩ a w ⟨hm,o,u⟩
 obtain _ | T2:=T2
 simp [Z5s] at hm
 rw [Z5s] at hm
 refine th<|rg<|qv o (Au o rfl rfl) λo=>re<|?_
 rcases bip hm with ⟨F3,hm⟩ | ⟨F3,hm⟩
 refine tn<|th<|ctv o rfl F3<|wk<|tn<|th<|wb<|th<|?_
 obtain ⟨A7,E4,hm⟩:=bs hm
 obtain ⟨B7,B6,D5⟩:=SR.get D4 E4
 obtain ⟨S6,J6,T6,K6,rfl,U6,V6,E5,F5⟩:=Az B6
 refine rg<|qv o (Aq o Tryz.runUnderlying24 Tryz.sizeOf48 rfl rfl E4 (SR.oaI D4 (by decide) E4)) λo=>qv o (Ar o isAgg48 sizeOf48 rfl rfl (λj v hj=>PH.le.cell (Lds.le u.ld) (D5 j v hj))) λo=>ls<|Ap (cs:=[Ac [],.slice none 0 0,.slice none 0 0,i6 0].toArray) o rfl u zeroValue48 rfl λC7 w a u o=>ls<|Aw o u sizeOf48 rfl rfl rfl rfl (Ak rfl) .head λw u=>re<|tn<|th<|?_
 obtain ⟨D7,C6,hm⟩:=bs hm
 refine rg<|qv o (Ag o Lj rfl) λo=>qv o (Ah o isAgg46 rfl (u.ld.cellB t0 rfl)) λo=>ls<|cr o call53 (Jaq _ (Ai _) E5 (St.srH u F5) C6) u λu o=>qm o rfl λo=>?_
 iterate 2 refine qv o (Bv o rfl rfl) λo=>?_
 iterate 2 refine qa o rfl λo=>?_
 refine re<|tn<|th<|rg<|qm o rfl λo=>re<|?_
 rcases bit hm with ⟨G3,hm⟩ | ⟨G3,hm⟩
 refine tn<|ctv o rfl G3<|th<|rg<|qm o rfl λo=>ls<|As o u sizeOf29 rfl rfl rfl rfl (.tail (.tail .head)) .zero λw u=>ls<|As o u sizeOf3 rfl rfl rfl rfl (.tail (.tail (.tail .head))) .zero λw u=>re<|tn<|wr<|br<|tr<|tr<|br<|tr<|?_
 obtain rfl:=si hm
 replace u:=u.pk [5,0,0,0,0,0] rfl
 exact rM (.inl rfl) o u λw u=>⟨_,Jj o rfl rfl rfl isAgg29 isAgg3 (u.ld.cellB t2 rfl) (u.ld.cellB t3 rfl),⟨rfl,u.keep⟩⟩
 refine tn<|cfv o rfl G3<|wk<|bn<|tn<|rg<|qv o (Ao o rfl rfl) λo=>qm o rfl λo=>re<|tn<|?_
 replace u:=u.pk [1,1,1,1,1] rfl
 exact ⟨(T2,(IntKind.i64.wrap (R3+1))),⟨hm,o.hs,u⟩,Nat.lt_succ_self _⟩
 refine tn<|th<|cfv o rfl F3<|we<|tx<|tx<|bx<|tn<|?_
 exact ⟨hm,o.hs,u⟩
 rintro a w ⟨hm,o,u⟩
 unfold Z5m at hm
 refine th<|th<|rg<|qm o rfl λo=>re<|?_
 rcases bit hm with ⟨I3,hm⟩ | ⟨I3,hm⟩
 refine tn<|ctv o rfl I3<|th<|rg<|qm o rfl λo=>ls<|As o u sizeOf29 rfl rfl rfl rfl (.tail .head) .zero λw u=>ls<|As o u sizeOf3 rfl rfl rfl rfl (.tail (.tail .head)) .zero λw u=>re<|tn<|wr<|tr<|?_
 obtain rfl:=si hm
 replace u:=u.pk [4,0,0,0,0] rfl
 exact rM (.inl rfl) o u λw u=>⟨_,Jj o rfl rfl rfl isAgg29 isAgg3 (u.ld.cellB t1 rfl) (u.ld.cellB t2 rfl),⟨rfl,u.keep⟩⟩
 refine tn<|cfv o rfl I3<|wk<|tn<|th<|th<|?_
 obtain ⟨S3,D6,hm⟩:=bs hm
 refine rg<|qv o (Ar o Tryz.isAgg27 Tryz.sizeOf27 rfl rfl (u.ld.cellsB t0)) λo=>ls<|c1 o rfl call52 (Rz (St.le u) (show Enc.rep (α:=api_Prog) H48 [SL V0 p1.Lines M0,SL W0 p1.Vols O0,SL P0 p1.Locks F0,SL Q0 p1.Threads G0,SL R0 p1.Recover I0,SL J0 p1.Claims C0] p1 from ⟨_,_,rfl,⟨_,_,rfl,F2,(G2.mono K0.sub)⟩,⟨_,_,rfl,⟨_,_,rfl,F1,(G1.mono K0.sub)⟩,⟨_,_,rfl,⟨_,_,rfl,I1,(J1.mono K0.sub)⟩,⟨_,_,rfl,⟨_,_,rfl,M1,(O1.mono K0.sub)⟩,⟨_,_,rfl,⟨_,_,rfl,P1,(Q1.mono K0.sub)⟩,⟨_,_,rfl,R1,(Y0.mono K0.sub)⟩⟩⟩⟩⟩⟩) D6) ⟨rfl,trivial⟩ (λv w a hR o=>?_)
 obtain ⟨H77,G5,M4,rfl,W6,F4,X0,I5,hk⟩:=hR
 obtain ⟨u,X0⟩:=And.intro (St.passH u hk X0 I5) (St.extc u X0)
 refine qv o (Al (α:=api_Thread) (xs:=S3) o runUnderlying24 rfl) λo=>qm o rfl λo=>re<|tn<|Ay (λa w=>(Z5o N p1 T0)=some r∧Fr 128 [(1,PT S0),(2,PT D0),(3,PT E0),(4,.map (some m33))] a∧St w0 Nil [H77] [bk S0 [SL V0 p1.Lines M0,SL W0 p1.Vols O0,SL P0 p1.Locks F0,SL Q0 p1.Threads G0,SL R0 p1.Recover I0,SL J0 p1.Claims C0] 27,bk D0 [i6 0] 29,bk E0 [i6 0] 3,Bw kS m33 j0 n0,dsA []] w) ?_ ?_
 refine wb<|lp (α:=Nat×Int) (λgh a w=>match gh with | (U2,T3)=>(Z5t N (Z5o N p1 T0) T0 S3) U2 T3=some r∧Fr 128 [(1,PT S0),(2,PT D0),(3,PT E0),(4,.map (some m33)),(56,SL G5 S3 M4),(57,i6 (S3.length:Int)),(58,i6 T3)] a∧St w0 Nil [H77] [bk S0 [SL V0 p1.Lines M0,SL W0 p1.Vols O0,SL P0 p1.Locks F0,SL Q0 p1.Threads G0,SL R0 p1.Recover I0,SL J0 p1.Claims C0] 27,bk D0 [i6 0] 29,bk E0 [i6 0] 3,Bw kS m33 j0 n0,dsA []] w) (λgh=>gh.1) (N,0) ⟨hm,o.hs,u⟩ ?_
 rintro ⟨U2,T3⟩ a w ⟨hm,o,u⟩
 obtain _ | U2:=U2
 simp [Z5t] at hm
 rw [Z5t] at hm
 refine th<|rg<|qv o (Au o rfl rfl) λo=>re<|?_
 rcases bip hm with ⟨J3,hm⟩ | ⟨J3,hm⟩
 refine tn<|th<|ctv o rfl J3<|wk<|tn<|th<|wb<|th<|?_
 obtain ⟨V2,G4,hm⟩:=bs hm
 obtain ⟨E7,E6,J5⟩:=SR.get F4 G4
 obtain ⟨K5,O4,L5,P4,rfl,M5,O5,P5,Q5⟩:=Az E6
 refine rg<|qv o (Aq o Tryz.runUnderlying24 Tryz.sizeOf48 rfl rfl G4 (SR.oaI F4 (by decide) G4)) λo=>qv o (Ar o isAgg48 sizeOf48 rfl rfl (λj v hj=>PH.le.cell (Lds.le u.ld) (J5 j v hj))) λo=>ls<|Ap (cs:=[Ac [],.slice none 0 0,.slice none 0 0,i6 0].toArray) o rfl u zeroValue48 rfl λF7 w a u o=>ls<|Aw o u sizeOf48 rfl rfl rfl rfl (Ak rfl) .head λw u=>re<|tn<|th<|?_
 obtain ⟨G7,F6,hm⟩:=bs hm
 refine rg<|qv o (Ar o Tryz.isAgg48 Tryz.sizeOf48 rfl rfl (u.ld.cellsB t0)) λo=>qm o rfl λo=>ls<|c1 o rfl call54 (Xh (Ai _) (Enc.mono (St.up u) (show Enc.rep (α:=api_Thread) H77 [Ac V2.Name,SL K5 V2.Regs O4,SL L5 V2.Body P4,i6 V2.At] V2 from ⟨_,_,rfl,rfl,⟨_,_,rfl,⟨_,_,rfl,M5,O5⟩,⟨_,_,rfl,⟨_,_,rfl,P5,Q5⟩,rfl⟩⟩⟩)) (St.mapO u t4) C3 (St.mapG u t4) F6) ⟨rfl,rfl,trivial⟩ (λv w a hR o=>?_)
 obtain ⟨vm100,A99,rfl,L6,hk⟩:=hR
 replace u:=u.fresh hk
 refine qm o rfl λo=>?_
 iterate 2 refine qv o (Bv o rfl rfl) λo=>?_
 iterate 2 refine qa o rfl λo=>?_
 refine re<|tn<|th<|rg<|qm o rfl λo=>re<|?_
 rcases bit hm with ⟨I2,hm⟩ | ⟨I2,hm⟩
 refine tn<|ctv o rfl I2<|th<|rdL (Aa t0 (Aa t1 (Aa t2 (Aa t4 (Aa t5 (Aa t6 Af)))))) 3 u wide λw u=>ds 0 (St.ldsX u i2 (Aa t0 (Aa t1 (Aa t2 (Aa t4 (Aa t5 (Aa t6 Af))))))) o rfl (Ag o Iu rfl) λo=>dq 1 (St.ldsX u i2 (Aa t0 (Aa t1 (Aa t2 (Aa t4 (Aa t5 (Aa t6 Af))))))) o rfl (λw hl=>Ah o isAgg3 rfl (hl.cellB t1 rfl)) λo=>da1 (i:=2) (by kernel_rfl) ?_
 refine di (i:=2) rfl<|As o u sizeOf29 rfl rfl rfl rfl (.tail (.tail (.tail .head))) .zero λw u=>⟨λ_=>(St.ldsX u i2 (Aa t0 (Aa t1 (Aa t2 (Aa t4 (Aa t5 (Aa t6 Af))))))),?_⟩
 refine da1 (i:=3) (by kernel_rfl) ?_
 refine di (i:=3) rfl<|As o u sizeOf3 rfl rfl rfl rfl (.tail (.tail (.tail (.tail .head)))) .zero λw u=>⟨λh=>absurd rfl h,?_⟩
 refine de (by kernel_rfl)<|tn<|wr<|br<|tr<|tr<|br<|tr<|?_
 obtain rfl:=si hm
 replace u:=u.pk [6,0,0,0,0,0,0] rfl
 exact rM (.inl rfl) o u λw u=>⟨_,Jj o rfl rfl rfl isAgg29 isAgg3 (u.ld.cellB t3 rfl) (u.ld.cellB t4 rfl),⟨rfl,u.keep⟩⟩
 refine tn<|cfv o rfl I2<|wk<|bn<|tn<|rg<|qv o (Ao o rfl rfl) λo=>qm o rfl λo=>re<|tn<|?_
 replace u:=u.pk [2,2,2,2,2] rfl
 exact ⟨(U2,(IntKind.i64.wrap (T3+1))),⟨hm,o.hs,u⟩,Nat.lt_succ_self _⟩
 refine tn<|th<|cfv o rfl J3<|we<|tx<|tx<|bx<|tn<|?_
 exact ⟨hm,o.hs,u⟩
 rintro a w ⟨hm,o,u⟩
 unfold Z5o at hm
 refine th<|th<|?_
 obtain ⟨U0,R5,hm⟩:=bs hm
 refine rg<|qv o (Ar o Tryz.isAgg27 Tryz.sizeOf27 rfl rfl (u.ld.cellsB t0)) λo=>ls<|c1 o rfl call52 (Rz (St.le u) (show Enc.rep (α:=api_Prog) H77 [SL V0 p1.Lines M0,SL W0 p1.Vols O0,SL P0 p1.Locks F0,SL Q0 p1.Threads G0,SL R0 p1.Recover I0,SL J0 p1.Claims C0] p1 from ⟨_,_,rfl,⟨_,_,rfl,F2,(G2.mono (cp X0.sub K0.sub))⟩,⟨_,_,rfl,⟨_,_,rfl,F1,(G1.mono (cp X0.sub K0.sub))⟩,⟨_,_,rfl,⟨_,_,rfl,I1,(J1.mono (cp X0.sub K0.sub))⟩,⟨_,_,rfl,⟨_,_,rfl,M1,(O1.mono (cp X0.sub K0.sub))⟩,⟨_,_,rfl,⟨_,_,rfl,P1,(Q1.mono (cp X0.sub K0.sub))⟩,⟨_,_,rfl,R1,(Y0.mono (cp X0.sub K0.sub))⟩⟩⟩⟩⟩⟩) R5) ⟨rfl,trivial⟩ (λv w a hR o=>?_)
 obtain ⟨H108,B1,p0,rfl,M6,U3,C1,Q4,hk⟩:=hR
 obtain ⟨u,C1⟩:=And.intro (St.passH u hk C1 Q4) (St.extc u C1)
 refine qv o (Al (α:=api_Thread) (xs:=U0) o runUnderlying24 rfl) λo=>qm o rfl λo=>re<|tn<|Ay (λa w=>∃ (X1:PH) (dsA2:List Nat),(Z5p N p1 T0)=some r∧Ext w0 H108 X1∧Fr ⟨128,dsA2⟩ [(1,PT S0),(2,PT D0),(3,PT E0),(4,.map (some m33))] a∧St w0 Nil [X1] [bk S0 [SL V0 p1.Lines M0,SL W0 p1.Vols O0,SL P0 p1.Locks F0,SL Q0 p1.Threads G0,SL R0 p1.Recover I0,SL J0 p1.Claims C0] 27,bk D0 [i6 0] 29,bk E0 [i6 0] 3,Bw kS m33 j0 n0,dsA dsA2] w) ?_ ?_
 refine wb<|lp (α:=Nat×Int) (λgh a w=>match gh with | (W2,U1)=>∃ (X2:PH) (dsB5:List Nat),(Z5u N (Z5p N p1 T0) T0 U0) W2 U1=some r∧Ext w0 H108 X2∧Fr ⟨128,dsB5⟩ [(1,PT S0),(2,PT D0),(3,PT E0),(4,.map (some m33)),(73,SL B1 U0 p0),(74,i6 (U0.length:Int)),(75,i6 U1)] a∧St w0 Nil [X2] [bk S0 [SL V0 p1.Lines M0,SL W0 p1.Vols O0,SL P0 p1.Locks F0,SL Q0 p1.Threads G0,SL R0 p1.Recover I0,SL J0 p1.Claims C0] 27,bk D0 [i6 0] 29,bk E0 [i6 0] 3,Bw kS m33 j0 n0,dsA dsB5] w) (λgh=>gh.1) (N,0) ⟨H108,[],hm,(Ext.refl _ _),o.hs,u⟩ ?_
 rintro ⟨W2,U1⟩ a w ⟨X2,dsB5,hm,u0,o,u⟩
 obtain _ | W2:=W2
 simp [Z5u] at hm
 rw [Z5u] at hm
 refine th<|rg<|qv o (Au o rfl rfl) λo=>re<|?_
 rcases bip hm with ⟨J2,hm⟩ | ⟨J2,hm⟩
 refine tn<|th<|ctv o rfl J2<|wk<|tn<|th<|wb<|th<|?_
 obtain ⟨Y1,K3,hm⟩:=bs hm
 obtain ⟨X6,S5,R4⟩:=SR.get U3 K3
 obtain ⟨S4,I4,T4,J4,rfl,U4,V4,V3,W3⟩:=Az S5
 refine rg<|qv o (Aq o Tryz.runUnderlying24 Tryz.sizeOf48 rfl rfl K3 (SR.oaI U3 (by decide) K3)) λo=>qv o (Ar o isAgg48 sizeOf48 rfl rfl (λj v hj=>PH.le.cell (λb o hx=>(Lds.le u.ld) b o (u0.sub b o hx)) (R4 j v hj))) λo=>ls<|Ap (cs:=[Ac [],.slice none 0 0,.slice none 0 0,i6 0].toArray) o rfl u zeroValue48 rfl λY6 w a u o=>ls<|Aw o u sizeOf48 rfl rfl rfl rfl (Ak rfl) .head λw u=>re<|tn<|th<|?_
 obtain ⟨L3,T5,hm⟩:=bs hm
 refine rg<|qv o (Ar o Tryz.isAgg48 Tryz.sizeOf48 rfl rfl (u.ld.cellsB t0)) λo=>qm o rfl λo=>ls<|c1 o rfl call54 (Xh (Ai _) (Enc.mono (St.up u) (show Enc.rep (α:=api_Thread) X2 [Ac Y1.Name,SL S4 Y1.Regs I4,SL T4 Y1.Body J4,i6 Y1.At] Y1 from ⟨_,_,rfl,rfl,⟨_,_,rfl,⟨_,_,rfl,U4,(V4.mono u0.sub)⟩,⟨_,_,rfl,⟨_,_,rfl,V3,(W3.mono u0.sub)⟩,rfl⟩⟩⟩)) (St.mapO u t4) C3 (St.mapG u t4) T5) ⟨rfl,rfl,trivial⟩ (λv w a hR o=>?_)
 obtain ⟨vm131,A130,rfl,K2,hk⟩:=hR
 replace u:=u.fresh hk
 refine qm o rfl λo=>?_
 iterate 2 refine qv o (Bv o rfl rfl) λo=>?_
 refine ls<|Ap (cs:=[.map none].toArray) o rfl u zeroValue75 rfl λS1 w a u o=>ls<|As o u sizeOf75 rfl rfl (OMap.cells K2) (OMap.one K2) .head .zero λw u=>qa o rfl λo=>re<|tn<|th<|?_
 obtain ⟨d6,U5,hm⟩:=bs hm
 refine rg<|qv o (Ag o Lj rfl) λo=>qv o (Ah o isAgg46 rfl (u.ld.cellB t2 rfl)) λo=>ls<|c1 o rfl call55 (Jbp (St.le u) V3 (W3.mono u0.sub) U5) ⟨rfl,trivial⟩ (λv w a hR o=>?_)
 obtain ⟨H139,B2,O6,G6,rfl,W4,X4,Y4,V1,d4,hk⟩:=hR
 obtain ⟨u,V1⟩:=And.intro (St.passH u hk V1 d4) (St.extc u V1)
 refine re<|tn<|wb<|?_
 replace o:Fr ⟨128,dsB5⟩ [(1,PT S0),(2,PT D0),(3,PT E0),(4,.map (some m33)),(17,PT S1),(73,SL B1 U0 p0),(74,i6 (U0.length:Int)),(75,i6 U1),(87,.func (.func 94) #[] #[PT B2])] _:=o.hs
 replace u:=u.pk [7,3,3,3,3,1,0] rfl
 obtain ⟨q146,V5,hm⟩:=bs hm
 refine rf (ŝ:=q146) (lb:=[PT B2]) (ps:=[88]) (I:=λ(_:Unit) (Y2:PH) (L:List HA)=>L=[bk S0 [SL V0 p1.Lines M0,SL W0 p1.Vols O0,SL P0 p1.Locks F0,SL Q0 p1.Threads G0,SL R0 p1.Recover I0,SL J0 p1.Claims C0] 27,bk D0 [i6 0] 29,bk E0 [i6 0] 3,Bw kS m33 j0 n0,A130,bk S1 [vm131] 75]∧(∀ b o,H139 b=some o→Y2 b=some o)) (J:=λ(X3:Int) (c:Code) (K4:PH) (L:List HA)=>c=.ret∧L=[bk D0 [i6 9] 29,bk E0 [i6 X3] 3]∧(∀ b o,H139 b=some o→K4 b=some o)) (λ(s:Unit) (x:legal_use)=>(Z5l N L3) x) (λ(H:PH) (args:List Value) (x:legal_use)=>∃ (cs0:List Value),args=[.agg cs0.toArray]∧Enc.rep H cs0 x) o rfl call94 rfl (by rintro H args x ⟨_,rfl,_⟩;rfl) u ⟨rfl,i2⟩ (by rintro ⟨⟩ H Hn L hs ⟨rfl,hu⟩;exact ⟨rfl,(cp hs hu)⟩) (by rintro X3 _ H Hn L hs ⟨rfl,rfl,hu⟩;exact ⟨rfl,rfl,(cp hs hu)⟩) (λlq C Lc w1 hyc hcm hc hle hok hdis=>Lg (JaH hle hyc hcm hc X4 Y4 W4 (Ie hok) (Fz hdis) V5)) ?_ ?_ ?_
 intro l X Y s Y3 r Y2 Lu args w0 a K Qr hI hex hm o u hK hN hR
 obtain ⟨rfl,hxHC1⟩:=hI
 replace hm:(Z5l N L3) Y3=some r:=hm
 unfold Z5l at hm
 obtain ⟨cs207,rfl,W5⟩:=hex
 replace o:Fr 128 [(88,.agg cs207.toArray),(1,PT S0),(2,PT D0),(3,PT E0),(4,.map (some m33)),(17,PT S1),(73,SL B1 U0 p0),(74,i6 (U0.length:Int)),(75,i6 U1),(87,.func (.func 94) #[] #[PT B2])] a:=o
 obtain ⟨P6,I6,rfl,j4,k4⟩:=Ks W5
 refine rg<|ls<|Ap (cs:=[Ac [],i6 0,.slice none 0 0].toArray) o rfl u Tryz.zeroValue87 rfl λj6 w a u o=>ls<|Aw o u sizeOf87 rfl rfl rfl rfl (Ak rfl) .head λw u=>re<|?_
 replace u:=u.pk [1,0,0,0,0,0,0,0] rfl
 refine tn<|hK _ _ _ _ u λw u=>wb<|th<|?_
 obtain ⟨k6,X5,hm⟩:=bs hm
 refine rg<|qv o (Ag o Yw rfl) λo=>qv o (Ah o isAgg42 rfl (u.ld.cellB t1 rfl)) λo=>qv o (Ah o isAgg75 rfl (u.ld.cellB t7 rfl)) λo=>qv o (Ag o Yr rfl) λo=>qv o (Ah o isAgg9 rfl (u.ld.cellB t1 rfl)) λo=>qv o (Wb (ev:=kI) (dv:=0) (m:=L3.1) (k:=Y3.name) o Np runUnderlying75 zeroValue3 (u.ld.ok _ t6) rfl rfl K2) λo=>ls<|cr o call56 (JaJ (Ai _) j4 (St.srH u k4) X5) u λu o=>qv o (Bc o rfl) λo=>re<|?_
 rcases bit hm with ⟨M2,hm⟩ | ⟨M2,hm⟩
 refine tn<|cfv o rfl (by rw [M2];rfl)<|wk<|bn<|?_
 obtain rfl:=si hm
 replace u:=u.pk [0,1,1,1,1,1,1] rfl
 exact hN _ _ _ _ _ rfl (ExtM.refl _ _ _) ⟨rfl,hxHC1⟩ u
 refine tn<|ctv o rfl (by rw [M2];rfl)<|th<|rdL (Aa t0 (Aa t1 (Aa t2 (Aa t4 (Aa t5 (Aa t6 (Aa t7 Af))))))) 3 u wide λw u=>ds 0 (St.ldsX u i2 (Aa t0 (Aa t1 (Aa t2 (Aa t4 (Aa t5 (Aa t6 (Aa t7 Af)))))))) o rfl (Ag o Jam rfl) λo=>dq 1 (St.ldsX u i2 (Aa t0 (Aa t1 (Aa t2 (Aa t4 (Aa t5 (Aa t6 (Aa t7 Af)))))))) o rfl (λw hl=>Ah o isAgg3 rfl (hl.cellB t1 rfl)) λo=>da1 (i:=2) (by kernel_rfl) ?_
 refine di (i:=2) rfl<|As o u sizeOf29 rfl rfl rfl rfl (.tail (.tail (.tail .head))) .zero λw u=>⟨λ_=>(St.ldsX u i2 (Aa t0 (Aa t1 (Aa t2 (Aa t4 (Aa t5 (Aa t6 (Aa t7 Af)))))))),?_⟩
 refine da1 (i:=3) (by kernel_rfl) ?_
 refine di (i:=3) rfl<|As o u sizeOf3 rfl rfl rfl rfl (.tail (.tail (.tail (.tail .head)))) .zero λw u=>⟨λh=>absurd rfl h,?_⟩
 refine de (by kernel_rfl)<|tn<|wr<|br<|?_
 obtain rfl:=si hm
 replace u:=u.pk [0,2,2] rfl
 exact hR _ _ _ _ _ _ _ rfl rfl (ExtM.refl _ _ _) ⟨rfl,rfl,hxHC1⟩ u
 rintro ⟨⟩ D217 Y2 Lu a w rfl ⟨rfl,huHC1⟩ O2 o u
 replace O2:=ExtM.nil O2
 try dsimp only at hm
 replace o:Fr ⟨128,(D217 :: dsB5)⟩ [(1,PT S0),(2,PT D0),(3,PT E0),(4,.map (some m33)),(17,PT S1),(73,SL B1 U0 p0),(74,i6 (U0.length:Int)),(75,i6 U1),(87,.func (.func 94) #[] #[PT B2])] a:=o
 replace u:St w0 Nil [Y2] [dsA (D217 :: dsB5),bk S0 [SL V0 p1.Lines M0,SL W0 p1.Vols O0,SL P0 p1.Locks F0,SL Q0 p1.Threads G0,SL R0 p1.Recover I0,SL J0 p1.Claims C0] 27,bk D0 [i6 0] 29,bk E0 [i6 0] 3,Bw kS m33 j0 n0,A130,bk S1 [vm131] 75] w:=u
 refine bn<|bn<|tn<|rg<|qv o (Ao o rfl rfl) λo=>qm o rfl λo=>re<|tn<|?_
 replace u:=u.pk [1,1,1,1,0] rfl
 exact ⟨(W2,(IntKind.i64.wrap (U1+1))),⟨Y2,(D217 :: dsB5),hm,(Ext.trans u0 (Ext.trans V1 O2)),o.hs,u⟩,Nat.lt_succ_self _⟩
 rintro X3 _ D219 K4 Lu a w rfl ⟨rfl,rfl,huHC2⟩ l3 o u
 replace l3:=ExtM.nil l3
 try dsimp only at hm
 replace o:Fr ⟨128,(D219 :: dsB5)⟩ [(1,PT S0),(2,PT D0),(3,PT E0),(4,.map (some m33)),(17,PT S1),(73,SL B1 U0 p0),(74,i6 (U0.length:Int)),(75,i6 U1),(87,.func (.func 94) #[] #[PT B2])] a:=o
 replace u:St w0 Nil [K4] [dsA (D219 :: dsB5),bk D0 [i6 9] 29,bk E0 [i6 X3] 3] w:=u
 refine wr<|br<|br<|tr<|tr<|br<|tr<|?_
 obtain rfl:=si hm
 exact rM (.inl rfl) o u λw u=>⟨_,Jj o rfl rfl rfl isAgg29 isAgg3 (u.ld.cellB t0 rfl) (u.ld.cellB t1 rfl),⟨rfl,u.keep⟩⟩
 refine tn<|th<|cfv o rfl J2<|we<|tx<|tx<|bx<|tn<|?_
 exact ⟨X2,dsB5,hm,u0,o.hs,u⟩
 rintro a w ⟨X1,dsA2,hm,A4,o,u⟩
 unfold Z5p at hm
 refine th<|th<|rg<|qv o (Ag o Ev rfl) λo=>qv o (Ah o isAgg25 rfl (u.ld.cellB t0 rfl)) λo=>qv o (Al (α:=api_Claim) (xs:=p1.Claims) o runUnderlying25 rfl) λo=>qm o rfl λo=>re<|tn<|Ay (λa w=>Z5q=some r∧Fr ⟨128,dsA2⟩ [(2,PT D0),(3,PT E0)] a∧St w0 Nil [X1] [bk D0 [i6 0] 29,bk E0 [i6 0] 3,dsA dsA2] w) ?_ ?_
 replace u:=u.pk [1,1,1,1] rfl
 refine wb<|lp (α:=Nat×Int) (λgh a w=>match gh with | (C2,E1)=>(Z5v N Z5q p1 T0) C2 E1=some r∧Fr ⟨128,dsA2⟩ [(2,PT D0),(3,PT E0),(4,.map (some m33)),(101,SL J0 p1.Claims C0),(102,i6 (p1.Claims.length:Int)),(103,i6 E1)] a∧St w0 Nil [X1] [bk D0 [i6 0] 29,bk E0 [i6 0] 3,Bw kS m33 j0 n0,dsA dsA2] w) (λgh=>gh.1) (N,0) ⟨hm,o.hs,u⟩ ?_
 rintro ⟨C2,E1⟩ a w ⟨hm,o,u⟩
 obtain _ | C2:=C2
 simp [Z5v] at hm
 rw [Z5v] at hm
 refine th<|rg<|qv o (Au o rfl rfl) λo=>re<|?_
 rcases bip hm with ⟨P2,hm⟩ | ⟨P2,hm⟩
 refine tn<|th<|ctv o rfl P2<|wk<|tn<|th<|Ay (λa w=>(Z5n (Z5v N Z5q p1 T0 C2) E1)=some r∧Fr ⟨128,dsA2⟩ [(2,PT D0),(3,PT E0),(4,.map (some m33)),(101,SL J0 p1.Claims C0),(102,i6 (p1.Claims.length:Int)),(103,i6 E1)] a∧St w0 Nil [X1] [bk D0 [i6 0] 29,bk E0 [i6 0] 3,Bw kS m33 j0 n0,dsA dsA2] w) ?_ ?_
 refine wb<|th<|?_
 obtain ⟨T1,M3,hm⟩:=bs hm
 obtain ⟨n6,Y5,l4⟩:=SR.get Y0 M3
 obtain ⟨B4,A3,rfl,Q6,C4⟩:=Cp Y5
 refine rg<|qv o (Aq o Tryz.runUnderlying25 Tryz.sizeOf74 rfl rfl M3 (SR.oaI Y0 (by decide) M3)) λo=>qv o (Ar o isAgg74 sizeOf74 rfl rfl (λj v hj=>PH.le.cell (λb o hx=>(Lds.le u.ld) b o ((cp (cp (cp A4.sub C1.sub) X0.sub) K0.sub) b o hx)) (l4 j v hj))) λo=>ls<|Ap (cs:=[.slice none 0 0,i6 0].toArray) o rfl u zeroValue74 rfl λu6 w a u o=>ls<|Aw o u sizeOf74 rfl rfl rfl rfl (Ak rfl) .head λw u=>re<|tn<|th<|rg<|qv o (Ag o Qn rfl) λo=>qv o (Ah o isAgg49 rfl (u.ld.cellB t0 rfl)) λo=>qv o (Al (α:=api_Node) (xs:=T1.E) o runUnderlying49 rfl) λo=>qm o rfl λo=>re<|?_
 replace u:=u.pk [1,1,1,1] rfl
 refine tn<|wb<|lp (α:=Nat×Int) (λgh a w=>match gh with | (E2,B3)=>(Z5r N (Z5n (Z5v N Z5q p1 T0 C2) E1) T0 T1) E2 B3=some r∧Fr ⟨128,dsA2⟩ [(2,PT D0),(3,PT E0),(4,.map (some m33)),(101,SL J0 p1.Claims C0),(102,i6 (p1.Claims.length:Int)),(103,i6 E1),(108,SL B4 T1.E A3),(109,i6 (T1.E.length:Int)),(110,i6 B3)] a∧St w0 Nil [X1] [bk D0 [i6 0] 29,bk E0 [i6 0] 3,Bw kS m33 j0 n0,dsA dsA2] w) (λgh=>gh.1) (N,0) ⟨hm,o.hs,u⟩ ?_
 rintro ⟨E2,B3⟩ a w ⟨hm,o,u⟩
 obtain _ | E2:=E2
 simp [Z5r] at hm
 rw [Z5r] at hm
 refine th<|rg<|qv o (Au o rfl rfl) λo=>re<|?_
 rcases bip hm with ⟨Q2,hm⟩ | ⟨Q2,hm⟩
 refine tn<|th<|ctv o rfl Q2<|wk<|tn<|th<|wb<|th<|?_
 obtain ⟨O3,P3,hm⟩:=bs hm
 obtain ⟨v6,d5,A5⟩:=SR.get C4 P3
 obtain rfl:=Bq d5
 refine rg<|qv o (Aq o Tryz.runUnderlying49 Tryz.sizeOf90 rfl rfl P3 (SR.oaI C4 (by decide) P3)) λo=>qv o (Ar o isAgg90 sizeOf90 rfl rfl (λj v hj=>PH.le.cell (λb o hx=>(Lds.le u.ld) b o ((cp (cp (cp A4.sub C1.sub) X0.sub) K0.sub) b o hx)) (A5 j v hj))) λo=>ls<|Ap (cs:=[i6 0,i6 0,Ac [],i6 0].toArray) o rfl u zeroValue90 rfl λj5 w a u o=>ls<|Aw o u sizeOf90 rfl rfl rfl rfl (Ak rfl) .head λw u=>re<|tn<|th<|rg<|qv o (Ag o Eh rfl) λo=>qv o (Ah o isAgg3 rfl (u.ld.cellB t0 rfl)) λo=>qv o (Am o rfl rfl) λo=>qm o rfl λo=>gr (Fk:=[(2,PT D0),(3,PT E0),(4,.map (some m33)),(23,PT j5),(101,SL J0 p1.Claims C0),(102,i6 (p1.Claims.length:Int)),(103,i6 E1),(108,SL B4 T1.E A3),(109,i6 (T1.E.length:Int)),(110,i6 B3),(123,.bool ((decide (O3.Op=2)) && (decide (((Bd O3.Name T0.1).getD 0)≠1))))]) 117 6 o u ?_ ?_ ?_
 intro hb o key
 exact qg o (Ab o rfl) λo=>qg o (Ag o Gn rfl) λo=>qg o (Ah o isAgg9 rfl (u.ld.cellB t0 rfl)) λo=>qg o (Ih (ev:=kI) (dv:=0) (m:=T0.1) (k:=O3.Name) o Np runUnderlying75 zeroValue3 (Lds.mapO u.ld t3) rfl rfl C3) λo=>qg o (Bu o rfl rfl) λo=>qk o (Ad o rfl rfl) key u hb
 intro hb o key
 iterate 5 refine qn o λo=>?_
 exact qk o (Ae o rfl rfl) key u hb
 intro a w o u
 refine re<|?_
 rcases bit hm with ⟨R2,hm⟩ | ⟨R2,hm⟩
 refine tn<|ctv o rfl R2<|th<|rdL (Aa t0 (Aa t2 (Aa t3 (Aa t4 Af)))) 3 u wide λw u=>ds 0 (St.ldsX u i2 (Aa t0 (Aa t2 (Aa t3 (Aa t4 Af))))) o rfl (Ag o Nw rfl) λo=>dq 1 (St.ldsX u i2 (Aa t0 (Aa t2 (Aa t3 (Aa t4 Af))))) o rfl (λw hl=>Ah o isAgg3 rfl (hl.cellB t0 rfl)) λo=>da1 (i:=2) (by kernel_rfl) ?_
 refine di (i:=2) rfl<|As o u sizeOf29 rfl rfl rfl rfl (.tail .head) .zero λw u=>⟨λ_=>(St.ldsX u i2 (Aa t0 (Aa t2 (Aa t3 (Aa t4 Af))))),?_⟩
 refine da1 (i:=3) (by kernel_rfl) ?_
 refine di (i:=3) rfl<|As o u sizeOf3 rfl rfl rfl rfl (.tail (.tail .head)) .zero λw u=>⟨λh=>absurd rfl h,?_⟩
 refine de (by kernel_rfl)<|tn<|wr<|br<|tr<|tr<|br<|br<|tr<|tr<|br<|tr<|?_
 obtain rfl:=si hm
 replace u:=u.pk [4,0,0,0,0] rfl
 exact rM (.inl rfl) o u λw u=>⟨_,Jj o rfl rfl rfl isAgg29 isAgg3 (u.ld.cellB t1 rfl) (u.ld.cellB t2 rfl),⟨rfl,u.keep⟩⟩
 refine tn<|cfv o rfl R2<|wk<|bn<|tn<|rg<|qv o (Ao o rfl rfl) λo=>qm o rfl λo=>re<|tn<|?_
 replace u:=u.pk [1,1,1,1] rfl
 exact ⟨(E2,(IntKind.i64.wrap (B3+1))),⟨hm,o.hs,u⟩,Nat.lt_succ_self _⟩
 refine tn<|th<|cfv o rfl Q2<|we<|tx<|tx<|bx<|bn<|tn<|?_
 exact ⟨hm,o.hs,u⟩
 rintro a w ⟨hm,o,u⟩
 unfold Z5n at hm
 refine rg<|qv o (Ao o rfl rfl) λo=>qm o rfl λo=>re<|tn<|?_
 exact ⟨(C2,(IntKind.i64.wrap (E1+1))),⟨hm,o.hs,u⟩,Nat.lt_succ_self _⟩
 refine tn<|th<|cfv o rfl P2<|we<|tx<|tx<|bx<|tn<|?_
 replace u:=u.pk [0,0,1] rfl
 exact ⟨hm,o.has ⟨rfl,rfl,trivial⟩,u⟩
 rintro a w ⟨hm,o,u⟩
 unfold Z5q at hm
 refine th<|rg<|ls<|As o u Tryz.sizeOf29 rfl rfl rfl rfl .head .zero λw u=>ls<|As o u sizeOf3 rfl rfl rfl rfl (.tail .head) .zero λw u=>re<|tn<|wr<|?_
 obtain rfl:=si hm
 replace u:=u.pk [2,0,0] rfl
 exact rM (.inl rfl) o u λw u=>⟨_,Jj o rfl rfl rfl isAgg29 isAgg3 (u.ld.cellB t0 rfl) (u.ld.cellB t1 rfl),⟨rfl,u.keep⟩⟩
 refine tn<|ctv o rfl (by rw [D3];rfl)<|th<|rg<|ls<|As o u Tryz.sizeOf29 rfl rfl rfl rfl (.tail (.tail .head)) .zero λw u=>ls<|As o u sizeOf3 rfl rfl rfl rfl (.tail .head) .zero λw u=>re<|tn<|wr<|br<|tr<|?_
 obtain rfl:=si hm
 replace u:=u.pk [4,0,0,0,0] rfl
 exact rM (.inl rfl) o u λw u=>⟨_,Jj o rfl rfl rfl isAgg29 isAgg3 (u.ld.cellB t2 rfl) (u.ld.cellB t1 rfl),⟨rfl,u.keep⟩⟩
theorem Kc (hH:H.le w0) {p1:Int} {r:Bool} (hm:Z20 N p1=some r):Tot Tryz.prog 136 #[.int .u8 p1] w0 (λv w'=>v=.bool r∧Keep Nil w0 w'):=by
 unfold Z20 at hm
 refine fn0 func136 rfl ntmps136 rfl rfl λa o=>?_
 have u:St w0 Nil [H] [] w0:=start1 hH
 refine th<|rg<|qa o rfl λo=>re<|tn<|th<|rg<|qm o rfl λo=>qv o (Bm o rfl rfl) λo=>qm o rfl λo=>gr (Fk:=[(0,.int .u8 p1),(8,.bool ((decide (97≤p1)) && (decide (p1≤122))))]) 5 3 o u ?_ ?_ ?_
 intro hb o key
 exact qg o (Ab o rfl) λo=>qg o (Dk o rfl rfl) λo=>qk o (Ad o rfl rfl) key u hb
 intro hb o key
 iterate 2 refine qn o λo=>?_
 exact qk o (Ae o rfl rfl) key u hb
 intro a w o u
 refine qm o rfl λo=>gr (Fk:=[(12,.bool (((decide (97≤p1)) && (decide (p1≤122))) || (decide (p1=95))))]) 9 3 o u ?_ ?_ ?_
 intro hb o key
 iterate 2 refine qn o λo=>?_
 exact qk o (Ad o rfl rfl) key u hb
 intro hb o key
 exact qg o (Ab o rfl) λo=>qg o (Am o rfl rfl) λo=>qk o (Ae o rfl rfl) key u hb
 intro a w o u
 refine qa o rfl λo=>re<|tn<|wr<|?_
 obtain rfl:=si hm
 exact r1 o results136 rfl ⟨rfl,u.keep⟩
theorem Jbi (hH:H.le w0) {p1:Str} {r:Bool} (hm:Z1e N p1=some r):Tot Tryz.prog 151 #[Ac p1] w0 (λv w'=>v=.bool r∧Keep Nil w0 w'):=by
 unfold Z1e at hm
 refine fn0 func151 rfl ntmps151 rfl rfl λa o=>?_
 have u:St w0 Nil [H] [] w0:=start1 hH
 refine th<|rg<|qa o rfl λo=>re<|tn<|th<|rg<|ls<|Bh (e:=9) (sz:=1) [Ac [108,105,110,101],Ac [118,111,108],Ac [108,111,99,107],Ac [116,104,114,101,97,100],Ac [114,101,103],Ac [108,111,97,100],Ac [115,116,111,114,101],Ac [99,97,115],Ac [102,108,117,115,104],Ac [111,112,116],Ac [115,102,101,110,99,101],Ac [109,102,101,110,99,101],Ac [116,97,107,101],Ac [103,105,118,101],Ac [105,102],Ac [101,108,115,101],Ac [108,111,111,112],Ac [98,114,101,97,107],Ac [99,104,101,99,107],Ac [114,101,99,111,118,101,114],Ac [97,108,119,97,121,115]] o rfl u rfl rfl rfl (λw=>by kernel_rfl) λb3 w a u o=>?_
 have G0:Rows (α:=Str) H [Ac [108,105,110,101],Ac [118,111,108],Ac [108,111,99,107],Ac [116,104,114,101,97,100],Ac [114,101,103],Ac [108,111,97,100],Ac [115,116,111,114,101],Ac [99,97,115],Ac [102,108,117,115,104],Ac [111,112,116],Ac [115,102,101,110,99,101],Ac [109,102,101,110,99,101],Ac [116,97,107,101],Ac [103,105,118,101],Ac [105,102],Ac [101,108,115,101],Ac [108,111,111,112],Ac [98,114,101,97,107],Ac [99,104,101,99,107],Ac [114,101,99,111,118,101,114],Ac [97,108,119,97,121,115]] ([[108,105,110,101],[118,111,108],[108,111,99,107],[116,104,114,101,97,100],[114,101,103],[108,111,97,100],[115,116,111,114,101],[99,97,115],[102,108,117,115,104],[111,112,116],[115,102,101,110,99,101],[109,102,101,110,99,101],[116,97,107,101],[103,105,118,101],[105,102],[101,108,115,101],[108,111,111,112],[98,114,101,97,107],[99,104,101,99,107],[114,101,99,111,118,101,114],[97,108,119,97,121,115]]:List Str):=(.cons (c:=[Ac [108,105,110,101]]) rfl (.cons (c:=[Ac [118,111,108]]) rfl (.cons (c:=[Ac [108,111,99,107]]) rfl (.cons (c:=[Ac [116,104,114,101,97,100]]) rfl (.cons (c:=[Ac [114,101,103]]) rfl (.cons (c:=[Ac [108,111,97,100]]) rfl (.cons (c:=[Ac [115,116,111,114,101]]) rfl (.cons (c:=[Ac [99,97,115]]) rfl (.cons (c:=[Ac [102,108,117,115,104]]) rfl (.cons (c:=[Ac [111,112,116]]) rfl (.cons (c:=[Ac [115,102,101,110,99,101]]) rfl (.cons (c:=[Ac [109,102,101,110,99,101]]) rfl (.cons (c:=[Ac [116,97,107,101]]) rfl (.cons (c:=[Ac [103,105,118,101]]) rfl (.cons (c:=[Ac [105,102]]) rfl (.cons (c:=[Ac [101,108,115,101]]) rfl (.cons (c:=[Ac [108,111,111,112]]) rfl (.cons (c:=[Ac [98,114,101,97,107]]) rfl (.cons (c:=[Ac [99,104,101,99,107]]) rfl (.cons (c:=[Ac [114,101,99,111,118,101,114]]) rfl (.cons (c:=[Ac [97,108,119,97,121,115]]) rfl .nil)))))))))))))))))))))
 refine qa o rfl λo=>re<|tn<|th<|th<|rg<|qa o rfl λo=>re<|tn<|Ay (λa w=>Z1f=some r∧Fr 18 [] a∧St w0 Nil [H] [] w) ?_ ?_
 refine wb<|lp (α:=Nat×Int) (λgh a w=>match gh with | (C0,E0)=>(Z1g N Z1f p1) C0 E0=some r∧Fr 18 [(0,Ac p1),(3,.slice (some ⟨b3,0,none⟩) ([[108,105,110,101],[118,111,108],[108,111,99,107],[116,104,114,101,97,100],[114,101,103],[108,111,97,100],[115,116,111,114,101],[99,97,115],[102,108,117,115,104],[111,112,116],[115,102,101,110,99,101],[109,102,101,110,99,101],[116,97,107,101],[103,105,118,101],[105,102],[101,108,115,101],[108,111,111,112],[98,114,101,97,107],[99,104,101,99,107],[114,101,99,111,118,101,114],[97,108,119,97,121,115]]:List Str).length 21),(4,i6 E0)] a∧St w0 Nil [H] [sla 9 1 (some ⟨b3,0,none⟩) ([[108,105,110,101],[118,111,108],[108,111,99,107],[116,104,114,101,97,100],[114,101,103],[108,111,97,100],[115,116,111,114,101],[99,97,115],[102,108,117,115,104],[111,112,116],[115,102,101,110,99,101],[109,102,101,110,99,101],[116,97,107,101],[103,105,118,101],[105,102],[101,108,115,101],[108,111,111,112],[98,114,101,97,107],[99,104,101,99,107],[114,101,99,111,118,101,114],[97,108,119,97,121,115]]:List Str).length 21 [Ac [108,105,110,101],Ac [118,111,108],Ac [108,111,99,107],Ac [116,104,114,101,97,100],Ac [114,101,103],Ac [108,111,97,100],Ac [115,116,111,114,101],Ac [99,97,115],Ac [102,108,117,115,104],Ac [111,112,116],Ac [115,102,101,110,99,101],Ac [109,102,101,110,99,101],Ac [116,97,107,101],Ac [103,105,118,101],Ac [105,102],Ac [101,108,115,101],Ac [108,111,111,112],Ac [98,114,101,97,107],Ac [99,104,101,99,107],Ac [114,101,99,111,118,101,114],Ac [97,108,119,97,121,115]]] w) (λgh=>gh.1) (N,0) ⟨hm,o.hs,u⟩ ?_
 rintro ⟨C0,E0⟩ a w ⟨hm,o,u⟩
 obtain _ | C0:=C0
 simp [Z1g] at hm
 rw [Z1g] at hm
 refine th<|th<|rg<|qm o rfl λo=>qm o rfl λo=>qv o (Al (α:=Str) (xs:=([[108,105,110,101],[118,111,108],[108,111,99,107],[116,104,114,101,97,100],[114,101,103],[108,111,97,100],[115,116,111,114,101],[99,97,115],[102,108,117,115,104],[111,112,116],[115,102,101,110,99,101],[109,102,101,110,99,101],[116,97,107,101],[103,105,118,101],[105,102],[101,108,115,101],[108,111,111,112],[98,114,101,97,107],[99,104,101,99,107],[114,101,99,111,118,101,114],[97,108,119,97,121,115]]:List Str)) o runUnderlying36 rfl) λo=>qv o (Au o rfl rfl) λo=>re<|?_
 rcases bip hm with ⟨F0,hm⟩ | ⟨F0,hm⟩
 refine tn<|ctv o rfl F0<|wk<|tn<|th<|wb<|th<|?_
 obtain ⟨I0,h7,hm⟩:=bs hm
 have K0:=Rd.oaI (u.rdO t0) G0 (by decide) h7
 obtain ⟨cz9,M0,J0⟩:=Rows.getI G0 h7
 obtain rfl:cz9=[Ac I0]:=M0
 refine rg<|qm o rfl λo=>qm o rfl λo=>qv o (Aq o runUnderlying36 sizeOf9 rfl rfl h7 K0) λo=>qv o (Ah o isAgg9 rfl (u.ld.elO t0 (J0 0 _ rfl))) λo=>qm o rfl λo=>qv o (Dh (m:=I0) (n:=p1) o rfl rfl) λo=>re<|?_
 rcases bip hm with ⟨D0,hm⟩ | ⟨D0,hm⟩
 refine tn<|ctv o rfl D0<|th<|rg<|qa o rfl λo=>re<|tn<|wr<|br<|tr<|tr<|br<|tr<|?_
 obtain rfl:=si hm
 exact r1 o results151 rfl ⟨rfl,u.keep⟩
 refine tn<|cfv o rfl D0<|wk<|bn<|tn<|rg<|qm o rfl λo=>qv o (Ao o rfl rfl) λo=>qa o rfl λo=>re<|tn<|?_
 exact ⟨(C0,(IntKind.i64.wrap (E0+1))),⟨hm,o.hs,u⟩,Nat.lt_succ_self _⟩
 refine tn<|cfv o rfl F0<|we<|tx<|tx<|bx<|tn<|?_
 replace u:=u.pickL .nil
 exact ⟨hm,o.has trivial,u⟩
 rintro a w ⟨hm,o,u⟩
 unfold Z1f at hm
 refine th<|rg<|qa o rfl λo=>re<|tn<|wr<|?_
 obtain rfl:=si hm
 exact r1 o results151 rfl ⟨rfl,u.keep⟩
theorem Rn (hH:H.le w0) {p1:Int} {r:Bool} (hm:Z1z N p1=some r):Tot Tryz.prog 137 #[.int .u8 p1] w0 (λv w'=>v=.bool r∧Keep Nil w0 w'):=by
 unfold Z1z at hm
 refine fn0 func137 rfl ntmps137 rfl rfl λa o=>?_
 have u:St w0 Nil [H] [] w0:=start1 hH
 refine th<|rg<|qa o rfl λo=>re<|tn<|th<|rg<|qm o rfl λo=>qv o (Bm o rfl rfl) λo=>qm o rfl λo=>gr (Fk:=[(8,.bool ((decide (48≤p1)) && (decide (p1≤57))))]) 5 3 o u ?_ ?_ ?_
 intro hb o key
 exact qg o (Ab o rfl) λo=>qg o (Dk o rfl rfl) λo=>qk o (Ad o rfl rfl) key u hb
 intro hb o key
 iterate 2 refine qn o λo=>?_
 exact qk o (Ae o rfl rfl) key u hb
 intro a w o u
 refine qa o rfl λo=>re<|tn<|wr<|?_
 obtain rfl:=si hm
 exact r1 o results137 rfl ⟨rfl,u.keep⟩
theorem Tz (hH:H.le w0) {p1:Str} {r:Bool} (hm:Z1h N p1=some r):Tot Tryz.prog 114 #[Ac p1] w0 (λv w'=>v=.bool r∧Keep Nil w0 w'):=by
 unfold Z1h at hm
 refine fn0 func114 rfl ntmps114 rfl rfl λa o=>?_
 have u:St w0 Nil [H] [] w0:=start1 hH
 refine th<|rg<|qa o rfl λo=>re<|tn<|th<|th<|Ay (λa w=>∃ (K0:Bool),(Z1i N p1) K0=some r∧Fr 40 [(0,Ac p1),(21,.bool K0)] a∧St w0 Nil [H] [] w) ?_ ?_
 rcases bit hm with ⟨J0,hm⟩ | ⟨J0,hm⟩
 refine rg<|qm o rfl λo=>qv o (Bj (s:=p1) o runUnderlying9 rfl) λo=>qv o (Au o rfl rfl) λo=>qm o rfl λo=>gr (Fk:=[(0,Ac p1),(11,.bool ((decide ((p1.length:Int) < 1)) || (decide (16 < (p1.length:Int)))))]) 7 4 o u ?_ ?_ ?_
 intro hb o key
 iterate 3 refine qn o λo=>?_
 exact qk o (Ad o rfl rfl) key u hb
 intro hb o key
 exact qg o (Ab o rfl) λo=>qg o (Bj (s:=p1) o runUnderlying9 rfl) λo=>qg o (Bn o rfl rfl) λo=>qk o (Ae o rfl rfl) key u hb
 intro a w o u
 refine qv o (An (Ab o rfl) (congrArg Value.bool J0)) λo=>?_
 iterate 4 refine qn o λo=>?_
 refine qv o (Ad o rfl rfl) λo=>qm o rfl λo=>?_
 iterate 2 refine qn o λo=>?_
 refine qv o (Ad o rfl rfl) λo=>re<|tn<|?_
 exact ⟨true,hm,o.has ⟨rfl,rfl,trivial⟩,u⟩
 obtain ⟨X0,h4,hm⟩:=bs hm
 obtain ⟨P0,h6,hm⟩:=bs hm
 rcases bit hm with ⟨M0,hm⟩ | ⟨M0,hm⟩
 have M0':(!P0)=false:=by rw [M0];rfl
 obtain ⟨T0,h9,hm⟩:=bs hm
 refine rg<|qm o rfl λo=>qv o (Bj (s:=p1) o runUnderlying9 rfl) λo=>qv o (Au o rfl rfl) λo=>qm o rfl λo=>gr (Fk:=[(0,Ac p1),(11,.bool ((decide ((p1.length:Int) < 1)) || (decide (16 < (p1.length:Int)))))]) 7 4 o u ?_ ?_ ?_
 intro hb o key
 iterate 3 refine qn o λo=>?_
 exact qk o (Ad o rfl rfl) key u hb
 intro hb o key
 exact qg o (Ab o rfl) λo=>qg o (Bj (s:=p1) o runUnderlying9 rfl) λo=>qg o (Bn o rfl rfl) λo=>qk o (Ae o rfl rfl) key u hb
 intro a w o u
 refine qv o (An (Ab o rfl) (congrArg Value.bool J0)) λo=>qg o (Ab o rfl) λo=>qg o (Ci (s:=p1) o runUnderlying9 rfl rfl h4) λo=>ls<|gy o rfl rfl<|cr o call136 (Kc (Ai _) h6) u λu o=>qg o (Bc o rfl) λo=>qv o (Ae o rfl rfl) λo=>qv o (An (Ab o rfl) (congrArg Value.bool M0')) λo=>qg o (Ab o rfl) λo=>ls<|gy o rfl rfl<|cr o call151 (Jbi (Ai _) h9) u λu o=>qv o (Ae o rfl rfl) λo=>re<|tn<|?_
 exact ⟨T0,hm,o.has ⟨rfl,rfl,trivial⟩,u⟩
 have M0':(!P0)=true:=by rw [M0];rfl
 refine rg<|qm o rfl λo=>qv o (Bj (s:=p1) o runUnderlying9 rfl) λo=>qv o (Au o rfl rfl) λo=>qm o rfl λo=>gr (Fk:=[(0,Ac p1),(11,.bool ((decide ((p1.length:Int) < 1)) || (decide (16 < (p1.length:Int)))))]) 7 4 o u ?_ ?_ ?_
 intro hb o key
 iterate 3 refine qn o λo=>?_
 exact qk o (Ad o rfl rfl) key u hb
 intro hb o key
 exact qg o (Ab o rfl) λo=>qg o (Bj (s:=p1) o runUnderlying9 rfl) λo=>qg o (Bn o rfl rfl) λo=>qk o (Ae o rfl rfl) key u hb
 intro a w o u
 refine qv o (An (Ab o rfl) (congrArg Value.bool J0)) λo=>qg o (Ab o rfl) λo=>qg o (Ci (s:=p1) o runUnderlying9 rfl rfl h4) λo=>ls<|gy o rfl rfl<|cr o call136 (Kc (Ai _) h6) u λu o=>qg o (Bc o rfl) λo=>qv o (Ae o rfl rfl) λo=>qv o (An (Ab o rfl) (congrArg Value.bool M0')) λo=>?_
 iterate 2 refine qn o λo=>?_
 refine qv o (Ad o rfl rfl) λo=>re<|tn<|?_
 exact ⟨true,hm,o.has ⟨rfl,rfl,trivial⟩,u⟩
 rintro a w ⟨K0,hm,o,u⟩
 unfold Z1i at hm
 rcases bit hm with ⟨E0,hm⟩ | ⟨E0,hm⟩
 refine ctv o rfl E0<|th<|rg<|qa o rfl λo=>re<|tn<|wr<|tr<|?_
 obtain rfl:=si hm
 exact r1 o results114 rfl ⟨rfl,u.keep⟩
 refine cfv o rfl E0<|wk<|tn<|th<|th<|rg<|qa o rfl λo=>re<|tn<|Ay (λa w=>Z1j=some r∧Fr 40 [] a∧St w0 Nil [H] [] w) ?_ ?_
 refine wb<|lp (α:=Nat×Int) (λgh a w=>match gh with | (C0,D0)=>(Z1l N Z1j p1) C0 D0=some r∧Fr 40 [(0,Ac p1),(3,i6 D0)] a∧St w0 Nil [H] [] w) (λgh=>gh.1) (N,0) ⟨hm,o.has ⟨rfl,rfl,trivial⟩,u⟩ ?_
 rintro ⟨C0,D0⟩ a w ⟨hm,o,u⟩
 obtain _ | C0:=C0
 simp [Z1l] at hm
 rw [Z1l] at hm
 refine th<|th<|rg<|qm o rfl λo=>qm o rfl λo=>qv o (Bj (s:=p1) o runUnderlying9 rfl) λo=>qv o (Au o rfl rfl) λo=>re<|?_
 rcases bip hm with ⟨F0,hm⟩ | ⟨F0,hm⟩
 refine tn<|ctv o rfl F0<|wk<|tn<|th<|wb<|th<|Ay (λa w=>∃ (O0:Bool),(Z1k (Z1l N Z1j p1 C0) D0) O0=some r∧Fr 40 [(0,Ac p1),(3,i6 D0),(39,.bool O0)] a∧St w0 Nil [H] [] w) ?_ ?_
 obtain ⟨Y0,Q0,hm⟩:=bs hm
 obtain ⟨R0,S0,hm⟩:=bs hm
 rcases bit hm with ⟨G0,hm⟩ | ⟨G0,hm⟩
 have G0':(!R0)=false:=by rw [G0];rfl
 refine rg<|qm o rfl λo=>qm o rfl λo=>qv o (Ci (s:=p1) o runUnderlying9 rfl rfl Q0) λo=>ls<|cr o call136 (Kc (Ai _) S0) u λu o=>qv o (Bc o rfl) λo=>qv o (An (Ab o rfl) (congrArg Value.bool G0')) λo=>?_
 iterate 5 refine qn o λo=>?_
 refine qv o (Ae o rfl rfl) λo=>re<|tn<|?_
 exact ⟨false,hm,o.hs,u⟩
 have G0':(!R0)=true:=by rw [G0];rfl
 obtain ⟨j0,U0,hm⟩:=bs hm
 obtain ⟨V0,W0,hm⟩:=bs hm
 refine rg<|qm o rfl λo=>qm o rfl λo=>qv o (Ci (s:=p1) o runUnderlying9 rfl rfl Q0) λo=>ls<|cr o call136 (Kc (Ai _) S0) u λu o=>qv o (Bc o rfl) λo=>qv o (An (Ab o rfl) (congrArg Value.bool G0')) λo=>?_
 iterate 2 refine qg o (Ab o rfl) λo=>?_
 refine qg o (Ci (s:=p1) o runUnderlying9 rfl rfl U0) λo=>ls<|gy o rfl rfl<|cr o call137 (Rn (Ai _) W0) u λu o=>qg o (Bc o rfl) λo=>qv o (Ad o rfl rfl) λo=>re<|tn<|?_
 exact ⟨(!V0),hm,o.hs,u⟩
 rintro a w ⟨O0,hm,o,u⟩
 unfold Z1k at hm
 rcases bit hm with ⟨I0,hm⟩ | ⟨I0,hm⟩
 refine ctv o rfl I0<|th<|rg<|qa o rfl λo=>re<|tn<|wr<|br<|tr<|tr<|br<|tr<|?_
 obtain rfl:=si hm
 exact r1 o results114 rfl ⟨rfl,u.keep⟩
 refine cfv o rfl I0<|wk<|bn<|tn<|rg<|qm o rfl λo=>qv o (Ao o rfl rfl) λo=>qa o rfl λo=>re<|tn<|?_
 exact ⟨(C0,(IntKind.i64.wrap (D0+1))),⟨hm,o.has ⟨rfl,rfl,trivial⟩,u⟩,Nat.lt_succ_self _⟩
 refine tn<|cfv o rfl F0<|we<|tx<|tx<|bx<|tn<|?_
 exact ⟨hm,o.has trivial,u⟩
 rintro a w ⟨hm,o,u⟩
 unfold Z1j at hm
 refine th<|rg<|qa o rfl λo=>re<|tn<|wr<|?_
 obtain rfl:=si hm
 exact r1 o results114 rfl ⟨rfl,u.keep⟩
theorem Uz (hH:H.le w0) {p1:Int} {r:Int} (hm:Z2l N p1=some r):Tot Tryz.prog 158 #[i6 p1] w0 (λv w'=>v=i6 r∧Keep Nil w0 w'):=by
 unfold Z2l at hm
 refine fn0 func158 rfl ntmps158 rfl rfl λa o=>?_
 have u:St w0 Nil [H] [] w0:=start1 hH
 refine th<|rg<|qa o rfl λo=>re<|tn<|th<|th<|rg<|qm o rfl λo=>qv o (Am o rfl rfl) λo=>qm o rfl λo=>gr (Fk:=[(0,i6 p1),(8,.bool ((decide (p1=1)) || (decide (p1=2))))]) 5 3 o u ?_ ?_ ?_
 intro hb o key
 iterate 2 refine qn o λo=>?_
 exact qk o (Ad o rfl rfl) key u hb
 intro hb o key
 exact qg o (Ab o rfl) λo=>qg o (Am o rfl rfl) λo=>qk o (Ae o rfl rfl) key u hb
 intro a w o u
 refine re<|?_
 rcases bit hm with ⟨C0,hm⟩ | ⟨C0,hm⟩
 refine tn<|ctv o rfl C0<|th<|rg<|qa o rfl λo=>re<|tn<|wr<|tr<|?_
 obtain rfl:=si hm
 exact r1 o results158 rfl ⟨rfl,u.keep⟩
 refine tn<|cfv o rfl C0<|wk<|tn<|th<|th<|rg<|qm o rfl λo=>qv o (Am o rfl rfl) λo=>qm o rfl λo=>gr (Fk:=[(0,i6 p1),(14,.bool ((decide (p1=3)) || (decide (p1=4))))]) 11 3 o u ?_ ?_ ?_
 intro hb o key
 iterate 2 refine qn o λo=>?_
 exact qk o (Ad o rfl rfl) key u hb
 intro hb o key
 exact qg o (Ab o rfl) λo=>qg o (Am o rfl rfl) λo=>qk o (Ae o rfl rfl) key u hb
 intro a w o u
 refine re<|?_
 rcases bit hm with ⟨D0,hm⟩ | ⟨D0,hm⟩
 refine tn<|ctv o rfl D0<|th<|rg<|qa o rfl λo=>re<|tn<|wr<|tr<|?_
 obtain rfl:=si hm
 exact r1 o results158 rfl ⟨rfl,u.keep⟩
 refine tn<|cfv o rfl D0<|wk<|tn<|th<|th<|rg<|qm o rfl λo=>qv o (Bm o rfl rfl) λo=>qm o rfl λo=>gr (Fk:=[(20,.bool ((decide (5≤p1)) && (decide (p1≤15))))]) 17 3 o u ?_ ?_ ?_
 intro hb o key
 exact qg o (Ab o rfl) λo=>qg o (Dk o rfl rfl) λo=>qk o (Ad o rfl rfl) key u hb
 intro hb o key
 iterate 2 refine qn o λo=>?_
 exact qk o (Ae o rfl rfl) key u hb
 intro a w o u
 refine re<|?_
 rcases bit hm with ⟨E0,hm⟩ | ⟨E0,hm⟩
 refine tn<|ctv o rfl E0<|th<|rg<|qa o rfl λo=>re<|tn<|wr<|tr<|?_
 obtain rfl:=si hm
 exact r1 o results158 rfl ⟨rfl,u.keep⟩
 refine tn<|cfv o rfl E0<|wk<|tn<|th<|rg<|qa o rfl λo=>re<|tn<|wr<|?_
 obtain rfl:=si hm
 exact r1 o results158 rfl ⟨rfl,u.keep⟩
theorem Jbz:∀ (N:Nat) {w0:World} {H:PH} (_:H.le w0) {D0:Option Addr} {C0:Nat} {p1:(List api_Node)} (_:p1.length≤C0) (_:SR H D0 p1) {p6:Int} {r:Int} (_:Z2b N p1 p6=some r),Tot Tryz.prog 133 #[SL D0 p1 C0,i6 p6] w0 (λv w'=>v=i6 r∧Keep Nil w0 w'):=by
 intro N
 induction N with
  | zero=>intros;rename_i hm;simp [Z2b] at hm
  | succ N ih=>
 intro w0 H hH D0 C0 p1 T0 G0 p6 r hm
 rw [Z2b] at hm
 refine fn0 func133 rfl ntmps133 rfl rfl λa o=>?_
 have u:St w0 Nil [H] [] w0:=start1 hH
 refine th<|rg<|qa o rfl λo=>re<|tn<|th<|th<|Ay (λa w=>∃ (M0:Bool),(Z2c (Z2b N) N p1 p6) M0=some r∧Fr 44 [(0,SL D0 p1 C0),(1,i6 p6),(23,.bool M0)] a∧St w0 Nil [H] [] w) ?_ ?_
 rcases bit hm with ⟨O0,hm⟩ | ⟨O0,hm⟩
 refine rg<|qm o rfl λo=>qv o (Au o rfl rfl) λo=>qm o rfl λo=>gr (Fk:=[(0,SL D0 p1 C0),(1,i6 p6),(14,.bool ((decide (p6 < 0)) || (decide ((p1.length:Int)≤p6))))]) 9 5 o u ?_ ?_ ?_
 intro hb o key
 iterate 4 refine qn o λo=>?_
 exact qk o (Ad o rfl rfl) key u hb
 intro hb o key
 iterate 2 refine qg o (Ab o rfl) λo=>?_
 exact qg o (Al (α:=api_Node) (xs:=p1) o runUnderlying49 rfl) λo=>qg o (Bm o rfl rfl) λo=>qk o (Ae o rfl rfl) key u hb
 intro a w o u
 refine qv o (An (Ab o rfl) (congrArg Value.bool O0)) λo=>?_
 iterate 7 refine qn o λo=>?_
 refine qv o (Ad o rfl rfl) λo=>re<|tn<|?_
 exact ⟨true,hm,o.hs,u⟩
 obtain ⟨u0,h9,hm⟩:=bs hm
 obtain ⟨B1,U0,R0⟩:=SR.get G0 h9
 obtain rfl:=Bq U0
 obtain ⟨V0,W0,hm⟩:=bs hm
 refine rg<|qm o rfl λo=>qv o (Au o rfl rfl) λo=>qm o rfl λo=>gr (Fk:=[(0,SL D0 p1 C0),(1,i6 p6),(14,.bool ((decide (p6 < 0)) || (decide ((p1.length:Int)≤p6))))]) 9 5 o u ?_ ?_ ?_
 intro hb o key
 iterate 4 refine qn o λo=>?_
 exact qk o (Ad o rfl rfl) key u hb
 intro hb o key
 iterate 2 refine qg o (Ab o rfl) λo=>?_
 exact qg o (Al (α:=api_Node) (xs:=p1) o runUnderlying49 rfl) λo=>qg o (Bm o rfl rfl) λo=>qk o (Ae o rfl rfl) key u hb
 intro a w o u
 refine qv o (An (Ab o rfl) (congrArg Value.bool O0)) λo=>?_
 iterate 2 refine qg o (Ab o rfl) λo=>?_
 refine qg o (Aq o runUnderlying49 sizeOf90 rfl rfl h9 (SR.oaI G0 (by decide) h9)) λo=>qg o (Ag o Eh rfl) λo=>qg o (Ah o isAgg3 rfl (PH.le.cell (Lds.le u.ld) (R0 0 _ rfl))) λo=>ls<|gy o rfl rfl<|cr o call158 (Uz (Ai _) W0) u λu o=>qg o (Au o rfl rfl) λo=>qv o (Ae o rfl rfl) λo=>re<|tn<|?_
 exact ⟨(decide (V0 < 0)),hm,o.hs,u⟩
 rintro a w ⟨M0,hm,o,u⟩
 unfold Z2c at hm
 rcases bit hm with ⟨J0,hm⟩ | ⟨J0,hm⟩
 refine ctv o rfl J0<|th<|rg<|qa o rfl λo=>re<|tn<|wr<|tr<|?_
 obtain rfl:=si hm
 exact r1 o results133 rfl ⟨rfl,u.keep⟩
 refine cfv o rfl J0<|wk<|tn<|th<|rg<|qm o rfl λo=>qv o (Ao o rfl rfl) λo=>qa o rfl λo=>re<|tn<|th<|th<|rg<|qa o rfl λo=>re<|tn<|Ay (λa w=>∃ (P0:Int),Z2d P0=some r∧Fr 44 [(5,i6 P0)] a∧St w0 Nil [H] [] w) ?_ ?_
 refine wb<|lp (α:=Nat×Int×Int) (λgh a w=>match gh with | (I0,E0,F0)=>(Z2e (Z2b N) N Z2d p1 p6) I0 E0 F0=some r∧Fr 44 [(0,SL D0 p1 C0),(1,i6 p6),(5,i6 E0),(6,i6 F0)] a∧St w0 Nil [H] [] w) (λgh=>gh.1) (N,(IntKind.i64.wrap (p6+1)),0) ⟨hm,o.hs,u⟩ ?_
 rintro ⟨I0,E0,F0⟩ a w ⟨hm,o,u⟩
 obtain _ | I0:=I0
 simp [Z2e] at hm
 rw [Z2e] at hm
 refine th<|th<|?_
 obtain ⟨C1,Q0,hm⟩:=bs hm
 obtain ⟨E1,X0,S0⟩:=SR.get G0 Q0
 obtain rfl:=Bq X0
 obtain ⟨Y0,j0,hm⟩:=bs hm
 refine rg<|qm o rfl λo=>?_
 iterate 2 refine qm o rfl λo=>?_
 refine qv o (Aq o runUnderlying49 sizeOf90 rfl rfl Q0 (SR.oaI G0 (by decide) Q0)) λo=>qv o (Ag o Eh rfl) λo=>qv o (Ah o isAgg3 rfl (PH.le.cell (Lds.le u.ld) (S0 0 _ rfl))) λo=>ls<|cr o call158 (Uz (Ai _) j0) u λu o=>qv o (Au o rfl rfl) λo=>qm o rfl λo=>gr (Fk:=[(0,SL D0 p1 C0),(1,i6 p6),(5,i6 E0),(6,i6 F0),(37,.bool ((decide (F0 < Y0)) && (decide (0≤E0))))]) 34 3 o u ?_ ?_ ?_
 intro hb o key
 exact qg o (Ab o rfl) λo=>qg o (Bm o rfl rfl) λo=>qk o (Ad o rfl rfl) key u hb
 intro hb o key
 iterate 2 refine qn o λo=>?_
 exact qk o (Ae o rfl rfl) key u hb
 intro a w o u
 refine re<|?_
 rcases bit hm with ⟨K0,hm⟩ | ⟨K0,hm⟩
 refine tn<|ctv o rfl K0<|wk<|tn<|th<|wb<|?_
 obtain ⟨n0,p0,hm⟩:=bs hm
 refine rg<|qm o rfl λo=>qm o rfl λo=>ls<|cr o call133 (ih (Ai _) T0 (St.srH u G0) p0) u λu o=>qa o rfl λo=>re<|bn<|tn<|rg<|qm o rfl λo=>qv o (Ao o rfl rfl) λo=>qa o rfl λo=>re<|tn<|?_
 exact ⟨(I0,n0,(IntKind.i64.wrap (F0+1))),⟨hm,o.hs,u⟩,Nat.lt_succ_self _⟩
 refine tn<|cfv o rfl K0<|we<|tx<|tx<|bx<|tn<|?_
 exact ⟨E0,hm,o.has ⟨rfl,trivial⟩,u⟩
 rintro a w ⟨P0,hm,o,u⟩
 unfold Z2d at hm
 refine th<|rg<|qm o rfl λo=>qa o rfl λo=>re<|tn<|wr<|?_
 obtain rfl:=si hm
 exact r1 o results133 rfl ⟨rfl,u.keep⟩
theorem Jau:∀ (N:Nat) {w0:World} {H:PH} (_:H.le w0) {G0:Option Addr} {C0:Nat} {p1:(List api_Node)} (_:p1.length≤C0) (_:SR H G0 p1) {p6:Int} {r:Int} (_:Z2u N p1 p6=some r),Tot Tryz.prog 134 #[SL G0 p1 C0,i6 p6] w0 (λv w'=>v=i6 r∧Keep Nil w0 w'):=by
 intro N
 induction N with
  | zero=>intros;rename_i hm;simp [Z2u] at hm
  | succ N ih=>
 intro w0 H hH G0 C0 p1 O0 I0 p6 r hm
 rw [Z2u] at hm
 refine fn0 func134 rfl ntmps134 rfl rfl λa o=>?_
 have u:St w0 Nil [H] [] w0:=start1 hH
 refine th<|rg<|qa o rfl λo=>re<|tn<|th<|rg<|qm o rfl λo=>qv o (Ao o rfl rfl) λo=>?_
 iterate 2 refine qa o rfl λo=>?_
 refine re<|tn<|th<|th<|rg<|qa o rfl λo=>re<|tn<|Ay (λa w=>∃ (K0:Int),Z2v K0=some r∧Fr 30 [(5,i6 K0)] a∧St w0 Nil [H] [] w) ?_ ?_
 refine wb<|lp (α:=Nat×Int×Int×Int) (λgh a w=>match gh with | (D0,E0,M0,J0)=>(Z2w (Z2u N) N Z2v p1 p6) D0 E0 M0 J0=some r∧Fr 30 [(0,SL G0 p1 C0),(1,i6 p6),(5,i6 E0),(6,i6 M0),(7,i6 J0)] a∧St w0 Nil [H] [] w) (λgh=>gh.1) (N,0,(IntKind.i64.wrap (p6+1)),0) ⟨hm,o.hs,u⟩ ?_
 rintro ⟨D0,E0,M0,J0⟩ a w ⟨hm,o,u⟩
 obtain _ | D0:=D0
 simp [Z2w] at hm
 rw [Z2w] at hm
 refine th<|th<|?_
 obtain ⟨W0,h8,hm⟩:=bs hm
 obtain ⟨cz9,Q0,P0⟩:=SR.get I0 h8
 obtain rfl:=Bq Q0
 obtain ⟨X0,R0,hm⟩:=bs hm
 refine rg<|qm o rfl λo=>?_
 iterate 2 refine qm o rfl λo=>?_
 refine qv o (Aq o runUnderlying49 sizeOf90 rfl rfl h8 (SR.oaI I0 (by decide) h8)) λo=>qv o (Ag o Eh rfl) λo=>qv o (Ah o isAgg3 rfl (PH.le.cell (Lds.le u.ld) (P0 0 _ rfl))) λo=>ls<|cr o call158 (Uz (Ai _) R0) u λu o=>qv o (Au o rfl rfl) λo=>re<|?_
 rcases bip hm with ⟨F0,hm⟩ | ⟨F0,hm⟩
 refine tn<|ctv o rfl F0<|wk<|tn<|th<|wb<|th<|?_
 obtain ⟨S0,T0,hm⟩:=bs hm
 refine rg<|qm o rfl λo=>?_
 iterate 2 refine qm o rfl λo=>?_
 refine ls<|cr o call134 (ih (Ai _) O0 (St.srH u I0) T0) u λu o=>qv o (Xy o rfl rfl) λo=>qa o rfl λo=>re<|tn<|?_
 obtain ⟨U0,V0,hm⟩:=bs hm
 refine rg<|qm o rfl λo=>qm o rfl λo=>ls<|cr o call133 (Jbz _ (Ai _) O0 (St.srH u I0) V0) u λu o=>qa o rfl λo=>re<|bn<|tn<|rg<|qm o rfl λo=>qv o (Ao o rfl rfl) λo=>qa o rfl λo=>re<|tn<|?_
 exact ⟨(D0,(max E0 S0),U0,(IntKind.i64.wrap (J0+1))),⟨hm,o.hs,u⟩,Nat.lt_succ_self _⟩
 refine tn<|cfv o rfl F0<|we<|tx<|tx<|bx<|tn<|?_
 exact ⟨E0,hm,o.has ⟨rfl,trivial⟩,u⟩
 rintro a w ⟨K0,hm,o,u⟩
 unfold Z2v at hm
 refine th<|rg<|qm o rfl λo=>qv o (Ao o rfl rfl) λo=>qa o rfl λo=>re<|tn<|wr<|?_
 obtain rfl:=si hm
 exact r1 o results134 rfl ⟨rfl,u.keep⟩
theorem Xl (hH:H.le w0) {p1:Str} {p2:Int} {p3:Str} {r:Bool} (hm:Z1y N p1 p2 p3=some r):Tot Tryz.prog 159 #[Ac p1,i6 p2,Ac p3] w0 (λv w'=>v=.bool r∧Keep Nil w0 w'):=by
 unfold Z1y at hm
 refine fn0 func159 rfl ntmps159 rfl rfl λa o=>?_
 have u:St w0 Nil [H] [] w0:=start1 hH
 refine th<|rg<|qa o rfl λo=>re<|tn<|th<|?_
 rcases bip hm with ⟨C0,hm⟩ | ⟨C0,hm⟩
 obtain ⟨s5,h6,hm⟩:=bs hm
 refine rg<|qm o rfl λo=>qm o rfl λo=>qv o (Bj (s:=p3) o runUnderlying9 rfl) λo=>qv o (Ao o rfl rfl) λo=>qm o rfl λo=>qv o (Bj (s:=p1) o runUnderlying9 rfl) λo=>qv o (Dk o rfl rfl) λo=>qv o (An (Ab o rfl) (congrArg Value.bool C0)) λo=>?_
 iterate 4 refine qg o (Ab o rfl) λo=>?_
 refine qg o (Bj (s:=p3) o runUnderlying9 rfl) λo=>qg o (Ao o rfl rfl) λo=>qg o (Gi (s:=p1) (vl:=p2) (vh:=(IntKind.i64.wrap (p2+(p3.length:Int)))) o runUnderlying9 rfl rfl rfl h6) λo=>qg o (Ab o rfl) λo=>qg o (Dh (m:=s5) (n:=p3) o rfl rfl) λo=>qv o (Ad o rfl rfl) λo=>qa o rfl λo=>re<|tn<|wr<|?_
 obtain rfl:=si hm
 exact r1 o results159 rfl ⟨rfl,u.keep⟩
 refine rg<|qm o rfl λo=>qm o rfl λo=>qv o (Bj (s:=p3) o runUnderlying9 rfl) λo=>qv o (Ao o rfl rfl) λo=>qm o rfl λo=>qv o (Bj (s:=p1) o runUnderlying9 rfl) λo=>qv o (Dk o rfl rfl) λo=>qv o (An (Ab o rfl) (congrArg Value.bool C0)) λo=>?_
 iterate 9 refine qn o λo=>?_
 refine qv o (Ae o rfl rfl) λo=>qa o rfl λo=>re<|tn<|wr<|?_
 obtain rfl:=si hm
 exact r1 o results159 rfl ⟨rfl,u.keep⟩
theorem Xw (hH:H.le w0) {p1:Str} {p2:Int} {r:Int} (hm:Z21 N p1 p2=some r):Tot Tryz.prog 135 #[Ac p1,i6 p2] w0 (λv w'=>v=i6 r∧Keep Nil w0 w'):=by
 unfold Z21 at hm
 refine fn0 func135 rfl ntmps135 rfl rfl λa o=>?_
 have u:St w0 Nil [H] [] w0:=start1 hH
 refine th<|rg<|qa o rfl λo=>re<|tn<|th<|Ay (λa w=>∃ (K0:Int),Z22 K0=some r∧Fr 46 [(1,i6 K0)] a∧St w0 Nil [H] [] w) ?_ ?_
 refine wb<|lp (α:=Nat×Int) (λgh a w=>match gh with | (D0,E0)=>(Z24 N Z22 p1) D0 E0=some r∧Fr 46 [(0,Ac p1),(1,i6 E0)] a∧St w0 Nil [H] [] w) (λgh=>gh.1) (N,p2) ⟨hm,o.has ⟨rfl,rfl,trivial⟩,u⟩ ?_
 rintro ⟨D0,E0⟩ a w ⟨hm,o,u⟩
 obtain _ | D0:=D0
 simp [Z24] at hm
 rw [Z24] at hm
 refine th<|th<|rg<|qm o rfl λo=>qm o rfl λo=>qv o (Bj (s:=p1) o runUnderlying9 rfl) λo=>qv o (Au o rfl rfl) λo=>re<|?_
 rcases bip hm with ⟨M0,hm⟩ | ⟨M0,hm⟩
 refine tn<|ctv o rfl M0<|wk<|tn<|wb<|th<|?_
 obtain ⟨C0,h5,hm⟩:=bs hm
 refine rg<|qm o rfl λo=>qm o rfl λo=>qv o (Ci (s:=p1) o runUnderlying9 rfl rfl h5) λo=>qa o rfl λo=>re<|tn<|th<|rg<|qm o rfl λo=>qv o (Am o rfl rfl) λo=>qm o rfl λo=>gr (Fk:=[(0,Ac p1),(1,i6 E0),(5,.int .u8 C0),(18,.bool ((decide (C0=32)) || (decide (C0=9))))]) 15 3 o u ?_ ?_ ?_
 intro hb o key
 iterate 2 refine qn o λo=>?_
 exact qk o (Ad o rfl rfl) key u hb
 intro hb o key
 exact qg o (Ab o rfl) λo=>qg o (Am o rfl rfl) λo=>qk o (Ae o rfl rfl) key u hb
 intro a w o u
 refine qm o rfl λo=>gr (Fk:=[(0,Ac p1),(1,i6 E0),(5,.int .u8 C0),(22,.bool (((decide (C0=32)) || (decide (C0=9))) || (decide (C0=10))))]) 19 3 o u ?_ ?_ ?_
 intro hb o key
 iterate 2 refine qn o λo=>?_
 exact qk o (Ad o rfl rfl) key u hb
 intro hb o key
 exact qg o (Ab o rfl) λo=>qg o (Am o rfl rfl) λo=>qk o (Ae o rfl rfl) key u hb
 intro a w o u
 refine qm o rfl λo=>gr (Fk:=[(0,Ac p1),(1,i6 E0),(26,.bool ((((decide (C0=32)) || (decide (C0=9))) || (decide (C0=10))) || (decide (C0=13))))]) 23 3 o u ?_ ?_ ?_
 intro hb o key
 iterate 2 refine qn o λo=>?_
 exact qk o (Ad o rfl rfl) key u hb
 intro hb o key
 exact qg o (Ab o rfl) λo=>qg o (Am o rfl rfl) λo=>qk o (Ae o rfl rfl) key u hb
 intro a w o u
 refine re<|?_
 rcases bit hm with ⟨O0,hm⟩ | ⟨O0,hm⟩
 refine tn<|ctv o rfl O0<|rg<|qm o rfl λo=>qv o (Ao o rfl rfl) λo=>qa o rfl λo=>re<|bn<|tn<|?_
 exact ⟨(D0,(IntKind.i64.wrap (E0+1))),⟨hm,o.has ⟨rfl,rfl,trivial⟩,u⟩,Nat.lt_succ_self _⟩
 refine tn<|cfv o rfl O0<|th<|?_
 obtain ⟨T0,h8,hm⟩:=bs hm
 refine rg<|qm o rfl λo=>qm o rfl λo=>ls<|cr o call159 (Xl (Ai _) h8) u λu o=>re<|?_
 rcases bit hm with ⟨P0,hm⟩ | ⟨P0,hm⟩
 refine tn<|ctv o rfl P0<|wb<|lp (α:=Nat×Int) (λgh a w=>match gh with | (G0,F0)=>(Z25 N (Z24 N Z22 p1 D0) p1) G0 F0=some r∧Fr 46 [(0,Ac p1),(1,i6 F0)] a∧St w0 Nil [H] [] w) (λgh=>gh.1) (N,E0) ⟨hm,o.has ⟨rfl,rfl,trivial⟩,u⟩ ?_
 rintro ⟨G0,F0⟩ a w ⟨hm,o,u⟩
 obtain _ | G0:=G0
 simp [Z25] at hm
 rw [Z25] at hm
 refine th<|th<|Ay (λa w=>∃ (Q0:Bool),(Z23 (Z24 N Z22 p1 D0) (Z25 N (Z24 N Z22 p1 D0) p1 G0) F0) Q0=some r∧Fr 46 [(0,Ac p1),(1,i6 F0),(41,.bool Q0)] a∧St w0 Nil [H] [] w) ?_ ?_
 rcases bip hm with ⟨I0,hm⟩ | ⟨I0,hm⟩
 obtain ⟨R0,S0,hm⟩:=bs hm
 refine rg<|qm o rfl λo=>qm o rfl λo=>qv o (Bj (s:=p1) o runUnderlying9 rfl) λo=>qv o (Au o rfl rfl) λo=>qv o (An (Ab o rfl) (congrArg Value.bool I0)) λo=>?_
 iterate 2 refine qg o (Ab o rfl) λo=>?_
 refine qg o (Ci (s:=p1) o runUnderlying9 rfl rfl S0) λo=>qg o (Bu o rfl rfl) λo=>qv o (Ad o rfl rfl) λo=>re<|tn<|?_
 exact ⟨(decide (R0≠10)),hm,o.hs,u⟩
 refine rg<|qm o rfl λo=>qm o rfl λo=>qv o (Bj (s:=p1) o runUnderlying9 rfl) λo=>qv o (Au o rfl rfl) λo=>qv o (An (Ab o rfl) (congrArg Value.bool I0)) λo=>?_
 iterate 4 refine qn o λo=>?_
 refine qv o (Ae o rfl rfl) λo=>re<|tn<|?_
 exact ⟨false,hm,o.hs,u⟩
 rintro a w ⟨Q0,hm,o,u⟩
 unfold Z23 at hm
 rcases bit hm with ⟨J0,hm⟩ | ⟨J0,hm⟩
 refine ctv o rfl J0<|wk<|tn<|wb<|rg<|qm o rfl λo=>qv o (Ao o rfl rfl) λo=>qa o rfl λo=>re<|bn<|tn<|?_
 exact ⟨(G0,(IntKind.i64.wrap (F0+1))),⟨hm,o.has ⟨rfl,rfl,trivial⟩,u⟩,Nat.lt_succ_self _⟩
 refine cfv o rfl J0<|we<|tx<|tx<|bx<|bn<|tn<|?_
 exact ⟨(D0,F0),⟨hm,o.has ⟨rfl,rfl,trivial⟩,u⟩,Nat.lt_succ_self _⟩
 refine tn<|cfv o rfl P0<|th<|rg<|qm o rfl λo=>qa o rfl λo=>re<|tn<|wr<|br<|tr<|br<|tr<|?_
 obtain rfl:=si hm
 exact r1 o results135 rfl ⟨rfl,u.keep⟩
 refine tn<|cfv o rfl M0<|we<|tx<|tx<|bx<|tn<|?_
 exact ⟨E0,hm,o.has ⟨rfl,trivial⟩,u⟩
 rintro a w ⟨K0,hm,o,u⟩
 unfold Z22 at hm
 refine th<|rg<|qm o rfl λo=>qa o rfl λo=>re<|tn<|wr<|?_
 obtain rfl:=si hm
 exact r1 o results135 rfl ⟨rfl,u.keep⟩
theorem Ja9 (hH:H.le w0) {p1:Str} {p2:Int} {r:Int} (hm:Z26 N p1 p2=some r):Tot Tryz.prog 138 #[Ac p1,i6 p2] w0 (λv w'=>v=i6 r∧Keep Nil w0 w'):=by
 unfold Z26 at hm
 refine fn0 func138 rfl ntmps138 rfl rfl λa o=>?_
 have u:St w0 Nil [H] [] w0:=start1 hH
 refine th<|rg<|qa o rfl λo=>re<|tn<|th<|rg<|ls<|Bh (e:=9) (sz:=1) [Ac [61,61],Ac [33,61],Ac [60,61],Ac [38,38],Ac [124,124]] o rfl u rfl rfl rfl (λw=>by kernel_rfl) λb4 w a u o=>?_
 have M0:Rows (α:=Str) H [Ac [61,61],Ac [33,61],Ac [60,61],Ac [38,38],Ac [124,124]] ([[61,61],[33,61],[60,61],[38,38],[124,124]]:List Str):=(.cons (c:=[Ac [61,61]]) rfl (.cons (c:=[Ac [33,61]]) rfl (.cons (c:=[Ac [60,61]]) rfl (.cons (c:=[Ac [38,38]]) rfl (.cons (c:=[Ac [124,124]]) rfl .nil)))))
 iterate 2 refine qa o rfl λo=>?_
 refine re<|tn<|th<|th<|rg<|qa o rfl λo=>re<|tn<|Ay (λa w=>(Z27 N p1 p2)=some r∧Fr 36 [(0,Ac p1),(1,i6 p2),(6,Ac [40,41,123,125,59,44,61,60,33,43,45,42,47,37])] a∧St w0 Nil [H] [] w) ?_ ?_
 refine wb<|lp (α:=Nat×Int) (λgh a w=>match gh with | (C0,I0)=>(Z29 N (Z27 N p1 p2) p1 p2) C0 I0=some r∧Fr 36 [(0,Ac p1),(1,i6 p2),(5,.slice (some ⟨b4,0,none⟩) ([[61,61],[33,61],[60,61],[38,38],[124,124]]:List Str).length 5),(6,Ac [40,41,123,125,59,44,61,60,33,43,45,42,47,37]),(7,i6 I0)] a∧St w0 Nil [H] [sla 9 1 (some ⟨b4,0,none⟩) ([[61,61],[33,61],[60,61],[38,38],[124,124]]:List Str).length 5 [Ac [61,61],Ac [33,61],Ac [60,61],Ac [38,38],Ac [124,124]]] w) (λgh=>gh.1) (N,0) ⟨hm,o.hs,u⟩ ?_
 rintro ⟨C0,I0⟩ a w ⟨hm,o,u⟩
 obtain _ | C0:=C0
 simp [Z29] at hm
 rw [Z29] at hm
 refine th<|th<|rg<|qm o rfl λo=>qm o rfl λo=>qv o (Al (α:=Str) (xs:=([[61,61],[33,61],[60,61],[38,38],[124,124]]:List Str)) o runUnderlying36 rfl) λo=>qv o (Au o rfl rfl) λo=>re<|?_
 rcases bip hm with ⟨K0,hm⟩ | ⟨K0,hm⟩
 refine tn<|ctv o rfl K0<|wk<|tn<|th<|wb<|th<|?_
 obtain ⟨P0,h8,hm⟩:=bs hm
 have Q0:=Rd.oaI (u.rdO t0) M0 (by decide) h8
 obtain ⟨R0,S0,O0⟩:=Rows.getI M0 h8
 obtain rfl:R0=[Ac P0]:=S0
 obtain ⟨W0,T0,hm⟩:=bs hm
 refine rg<|qm o rfl λo=>?_
 iterate 3 refine qm o rfl λo=>?_
 refine qv o (Aq o runUnderlying36 sizeOf9 rfl rfl h8 Q0) λo=>qv o (Ah o isAgg9 rfl (u.ld.elO t0 (O0 0 _ rfl))) λo=>ls<|cr o call159 (Xl (Ai _) T0) u λu o=>re<|?_
 rcases bit hm with ⟨E0,hm⟩ | ⟨E0,hm⟩
 refine tn<|ctv o rfl E0<|th<|rg<|qa o rfl λo=>re<|tn<|wr<|br<|tr<|tr<|br<|tr<|?_
 obtain rfl:=si hm
 exact r1 o results138 rfl ⟨rfl,u.keep⟩
 refine tn<|cfv o rfl E0<|wk<|bn<|tn<|rg<|qm o rfl λo=>qv o (Ao o rfl rfl) λo=>qa o rfl λo=>re<|tn<|?_
 exact ⟨(C0,(IntKind.i64.wrap (I0+1))),⟨hm,o.hs,u⟩,Nat.lt_succ_self _⟩
 refine tn<|cfv o rfl K0<|we<|tx<|tx<|bx<|tn<|?_
 replace u:=u.pickL .nil
 exact ⟨hm,o.hs,u⟩
 rintro a w ⟨hm,o,u⟩
 unfold Z27 at hm
 refine th<|th<|rg<|qa o rfl λo=>re<|tn<|Ay (λa w=>Z28=some r∧Fr 36 [] a∧St w0 Nil [H] [] w) ?_ ?_
 refine wb<|lp (α:=Nat×Int) (λgh a w=>match gh with | (D0,J0)=>(Z2a N Z28 p1 p2) D0 J0=some r∧Fr 36 [(0,Ac p1),(1,i6 p2),(6,Ac [40,41,123,125,59,44,61,60,33,43,45,42,47,37]),(8,i6 J0)] a∧St w0 Nil [H] [] w) (λgh=>gh.1) (N,0) ⟨hm,o.hs,u⟩ ?_
 rintro ⟨D0,J0⟩ a w ⟨hm,o,u⟩
 obtain _ | D0:=D0
 simp [Z2a] at hm
 rw [Z2a] at hm
 refine th<|th<|rg<|qm o rfl λo=>qm o rfl λo=>qv o ((An (Bj (s:=[40,41,123,125,59,44,61,60,33,43,45,42,47,37]) o runUnderlying9 rfl) rfl)) λo=>qv o (Au o rfl rfl) λo=>re<|?_
 rcases bip hm with ⟨F0,hm⟩ | ⟨F0,hm⟩
 refine tn<|ctv o rfl F0<|wk<|tn<|th<|wb<|th<|?_
 obtain ⟨X0,U0,hm⟩:=bs hm
 obtain ⟨Y0,V0,hm⟩:=bs hm
 refine rxS 7 u wide (by kernel_rfl) λw u=>?_
 iterate 2 refine xq u.ld o (λw hl=>Ab o rfl) λo=>?_
 refine xr u o (Ci (s:=[40,41,123,125,59,44,61,60,33,43,45,42,47,37]) o runUnderlying9 rfl rfl U0) λo=>?_
 iterate 2 refine xq u.ld o (λw hl=>Ab o rfl) λo=>?_
 refine xr u o (Ci (s:=p1) o runUnderlying9 rfl rfl V0) λo=>xr u o (Am o rfl rfl) λo=>xe<|?_
 rcases bip hm with ⟨G0,hm⟩ | ⟨G0,hm⟩
 refine tn<|ctv o rfl G0<|th<|rg<|qa o rfl λo=>re<|tn<|wr<|br<|tr<|tr<|br<|tr<|?_
 obtain rfl:=si hm
 exact r1 o results138 rfl ⟨rfl,u.keep⟩
 refine tn<|cfv o rfl G0<|wk<|bn<|tn<|rg<|qm o rfl λo=>qv o (Ao o rfl rfl) λo=>qa o rfl λo=>re<|tn<|?_
 exact ⟨(D0,(IntKind.i64.wrap (J0+1))),⟨hm,o.hs,u⟩,Nat.lt_succ_self _⟩
 refine tn<|cfv o rfl F0<|we<|tx<|tx<|bx<|tn<|?_
 exact ⟨hm,o.has trivial,u⟩
 rintro a w ⟨hm,o,u⟩
 unfold Z28 at hm
 refine th<|rg<|qa o rfl λo=>re<|tn<|wr<|?_
 obtain rfl:=si hm
 exact r1 o results138 rfl ⟨rfl,u.keep⟩
set_option maxHeartbeats 4000000 in
theorem Ja6 (hH:H.le w0) {p1:Str} {r:((List api_Token)×Int×Int)} (hm:Z1n N p1=some r):Tot Tryz.prog 101 #[Ac p1] w0 (λv w'=>∃ (T1:Option Addr) (O1:Nat) (U1:List Value),v=.tuple #[SL T1 r.1 O1,i6 r.2.1,i6 r.2.2]∧(∀ h,Rows h U1 r.1)∧Fresh w0 (sla 130 4 T1 r.1.length O1 U1) w'):=by
 unfold Z1n at hm
 refine fn0 func101 rfl ntmps101 rfl rfl λa o=>?_
 have u:St w0 Nil [H] [] w0:=start1 hH
 refine th<|rg<|qa o rfl λo=>?_
 iterate 2 refine qa o rfl λo=>?_
 refine re<|tn<|th<|th<|rg<|qm o rfl λo=>qv o (Bj (s:=p1) o runUnderlying9 rfl) λo=>qv o (Bn o rfl rfl) λo=>re<|?_
 rcases bip hm with ⟨P1,hm⟩ | ⟨P1,hm⟩
 refine tn<|ctv o rfl P1<|th<|rg<|qa o rfl λo=>?_
 iterate 2 refine qa o rfl λo=>?_
 refine re<|tn<|wr<|tr<|?_
 replace u:=u.nilS 130 4
 obtain rfl:=si hm
 exact Go.LM.r3 o results101 rfl rfl rfl ⟨_,_,_,rfl,(λ_=>.nil),u.endFresh t0⟩
 refine tn<|cfv o rfl P1<|wk<|tn<|th<|rg<|ls<|Bh (e:=130) (sz:=4) [] o rfl u rfl rfl rfl (λw=>by kernel_rfl) λb4 w a u o=>?_
 have G2:Rows (α:=api_Token) H [] []:=.nil
 refine qa o rfl λo=>re<|tn<|th<|?_
 obtain ⟨I2,h7,hm⟩:=bs hm
 refine rg<|qm o rfl λo=>ls<|cr o call135 (Xw (Ai _) h7) u λu o=>qa o rfl λo=>re<|tn<|th<|Ay (λa w=>∃ (U0:(List api_Token)) (W0:Option Addr) (S0:Nat) (X0:List Value),Z1o U0=some r∧Fr 107 [(5,SL W0 U0 S0)] a∧St w0 Nil [H] [sla 130 4 W0 U0.length S0 X0] w∧Rows H X0 U0) ?_ ?_
 refine wb<|lp (α:=Nat×(List api_Token)×Int) (λgh a w=>match gh with | (K0,E0,C0)=>∃ (F0:Option Addr) (D0:Nat) (J0:List Value),(Z1v N Z1o p1) K0 E0 C0=some r∧Fr 107 [(0,Ac p1),(5,SL F0 E0 D0),(6,i6 C0)] a∧St w0 Nil [H] [sla 130 4 F0 E0.length D0 J0] w∧Rows H J0 E0) (λgh=>gh.1) (N,[],I2) ⟨(some ⟨b4,0,none⟩),0,[],hm,o.hs,u,G2⟩ ?_
 rintro ⟨K0,E0,C0⟩ a w ⟨F0,D0,J0,hm,o,u,Q1⟩
 obtain _ | K0:=K0
 simp [Z1v] at hm
 rw [Z1v] at hm
 refine th<|th<|rg<|qm o rfl λo=>qm o rfl λo=>qv o (Bj (s:=p1) o runUnderlying9 rfl) λo=>qv o (Au o rfl rfl) λo=>re<|?_
 rcases bip hm with ⟨R1,hm⟩ | ⟨R1,hm⟩
 refine tn<|ctv o rfl R1<|wk<|tn<|wb<|th<|rg<|qm o rfl λo=>qm o rfl λo=>qv o (Bi [i6 C0] [i6 0,Ac [],i6 0,i6 C0] o ⟨rfl,trivial⟩ (λw=>by kernel_rfl)) λo=>ls<|Ap (cs:=[i6 0,Ac [],i6 0,i6 0].toArray) o rfl u zeroValue130 rfl λb9 w a u o=>qa o rfl λo=>ls<|Aw o u sizeOf130 rfl rfl rfl rfl (Ak rfl) .head λw u=>re<|tn<|th<|th<|?_
 obtain ⟨G3,J2,hm⟩:=bs hm
 obtain ⟨I3,K2,hm⟩:=bs hm
 refine rg<|qm o rfl λo=>qm o rfl λo=>qv o (Ci (s:=p1) o runUnderlying9 rfl rfl J2) λo=>ls<|cr o call136 (Kc (Ai _) K2) u λu o=>re<|tn<|Ay (λa w=>∃ (I1:Int) (G0:api_Token),(Z1q N (Z1v N Z1o p1 K0) p1 E0 C0) I1 G0=some r∧Fr 107 [(0,Ac p1),(5,SL F0 E0 D0),(6,i6 C0),(7,i6 I1),(8,PT b9)] a∧St w0 Nil [H] [sla 130 4 F0 E0.length D0 J0,bk b9 [i6 G0.Kind,Ac G0.Text,i6 G0.N,i6 G0.At] 130] w) ?_ ?_
 rcases bit hm with ⟨Y0,hm⟩ | ⟨Y0,hm⟩
 refine ctv o rfl Y0<|th<|rg<|qv o (Ag o Ck rfl) λo=>ls<|As o u sizeOf3 rfl rfl rfl rfl .head .zero λw u=>re<|tn<|th<|Ay (λa w=>∃ (J1:Int),(Z1r (Z1q N (Z1v N Z1o p1 K0) p1 E0 C0) C0) J1=some r∧Fr 107 [(0,Ac p1),(5,SL F0 E0 D0),(6,i6 C0),(7,i6 J1),(8,PT b9)] a∧St w0 Nil [H] [sla 130 4 F0 E0.length D0 J0,bk b9 [i6 1,Ac [],i6 0,i6 C0] 130] w) ?_ ?_
 replace u:=u.pk [1,0] rfl
 refine wb<|lp (α:=Nat×Int) (λgh a w=>match gh with | (R0,O0)=>(Z1w N (Z1r (Z1q N (Z1v N Z1o p1 K0) p1 E0 C0) C0) p1) R0 O0=some r∧Fr 107 [(0,Ac p1),(5,SL F0 E0 D0),(6,i6 C0),(7,i6 O0),(8,PT b9)] a∧St w0 Nil [H] [sla 130 4 F0 E0.length D0 J0,bk b9 [i6 1,Ac [],i6 0,i6 C0] 130] w) (λgh=>gh.1) (N,C0) ⟨hm,o.hs,u⟩ ?_
 rintro ⟨R0,O0⟩ a w ⟨hm,o,u⟩
 obtain _ | R0:=R0
 simp [Z1w] at hm
 rw [Z1w] at hm
 refine th<|th<|Ay (λa w=>∃ (vF1:Bool),(Z1s (Z1r (Z1q N (Z1v N Z1o p1 K0) p1 E0 C0) C0) (Z1w N (Z1r (Z1q N (Z1v N Z1o p1 K0) p1 E0 C0) C0) p1 R0) O0) vF1=some r∧Fr 107 [(0,Ac p1),(5,SL F0 E0 D0),(6,i6 C0),(7,i6 O0),(8,PT b9),(42,.bool vF1)] a∧St w0 Nil [H] [sla 130 4 F0 E0.length D0 J0,bk b9 [i6 1,Ac [],i6 0,i6 C0] 130] w) ?_ ?_
 rcases bip hm with ⟨T0,hm⟩ | ⟨T0,hm⟩
 obtain ⟨J3,V1,hm⟩:=bs hm
 obtain ⟨K3,X1,hm⟩:=bs hm
 rcases bit hm with ⟨j0,hm⟩ | ⟨j0,hm⟩
 refine rg<|qm o rfl λo=>qm o rfl λo=>qv o (Bj (s:=p1) o runUnderlying9 rfl) λo=>qv o (Au o rfl rfl) λo=>qv o (An (Ab o rfl) (congrArg Value.bool T0)) λo=>?_
 iterate 2 refine qg o (Ab o rfl) λo=>?_
 refine qg o (Ci (s:=p1) o runUnderlying9 rfl rfl V1) λo=>ls<|gy o rfl rfl<|cr o call136 (Kc (Ai _) X1) u λu o=>qg o (An (Ab o rfl) (congrArg Value.bool j0)) λo=>?_
 iterate 4 refine qn o λo=>?_
 refine qg o (Ad o rfl rfl) λo=>qv o (Ad o rfl rfl) λo=>re<|tn<|?_
 exact ⟨true,hm,o.hs,u⟩
 obtain ⟨L3,M2,hm⟩:=bs hm
 obtain ⟨O2,P2,hm⟩:=bs hm
 refine rg<|qm o rfl λo=>qm o rfl λo=>qv o (Bj (s:=p1) o runUnderlying9 rfl) λo=>qv o (Au o rfl rfl) λo=>qv o (An (Ab o rfl) (congrArg Value.bool T0)) λo=>?_
 iterate 2 refine qg o (Ab o rfl) λo=>?_
 refine qg o (Ci (s:=p1) o runUnderlying9 rfl rfl V1) λo=>ls<|gy o rfl rfl<|cr o call136 (Kc (Ai _) X1) u λu o=>qg o (An (Ab o rfl) (congrArg Value.bool j0)) λo=>?_
 iterate 2 refine qg o (Ab o rfl) λo=>?_
 refine qg o (Ci (s:=p1) o runUnderlying9 rfl rfl M2) λo=>ls<|gy o rfl rfl<|cr o call137 (Rn (Ai _) P2) u λu o=>qg o (Ae o rfl rfl) λo=>qv o (Ad o rfl rfl) λo=>re<|tn<|?_
 exact ⟨O2,hm,o.hs,u⟩
 refine rg<|qm o rfl λo=>qm o rfl λo=>qv o (Bj (s:=p1) o runUnderlying9 rfl) λo=>qv o (Au o rfl rfl) λo=>qv o (An (Ab o rfl) (congrArg Value.bool T0)) λo=>?_
 iterate 5 refine qn o λo=>?_
 iterate 4 refine ls<|gnu o rfl rfl rfl λa o=>?_
 refine qn o λo=>qv o (Ae o rfl rfl) λo=>re<|tn<|?_
 exact ⟨false,hm,o.hs,u⟩
 rintro a w ⟨vF1,hm,o,u⟩
 unfold Z1s at hm
 rcases bit hm with ⟨n0,hm⟩ | ⟨n0,hm⟩
 refine ctv o rfl n0<|wk<|tn<|wb<|rg<|qm o rfl λo=>qv o (Ao o rfl rfl) λo=>qa o rfl λo=>re<|bn<|tn<|?_
 exact ⟨(R0,(IntKind.i64.wrap (O0+1))),⟨hm,o.hs,u⟩,Nat.lt_succ_self _⟩
 refine cfv o rfl n0<|we<|tx<|tx<|bx<|tn<|?_
 exact ⟨O0,hm,o.hs,u⟩
 rintro a w ⟨J1,hm,o,u⟩
 unfold Z1r at hm
 refine th<|rg<|qm o rfl λo=>qm o rfl λo=>qv o (Gp o rfl rfl) λo=>qv o (Bn o rfl rfl) λo=>re<|?_
 rcases bip hm with ⟨p0,hm⟩ | ⟨p0,hm⟩
 refine tn<|ctv o rfl p0<|th<|rg<|qm o rfl λo=>?_
 iterate 3 refine qa o rfl λo=>?_
 refine re<|tn<|wr<|tr<|br<|tr<|br<|tr<|?_
 replace u:=u.nilS 130 4
 obtain rfl:=si hm
 exact Go.LM.r3 o results101 rfl rfl rfl ⟨_,_,_,rfl,(λ_=>.nil),u.endFresh t0⟩
 refine tn<|cfv o rfl p0<|wk<|tn<|?_
 exact ⟨J1,(api_Token.mk 1 [] 0 C0),hm,o.hs,u⟩
 refine cfv o rfl Y0<|th<|?_
 obtain ⟨M3,Q2,hm⟩:=bs hm
 obtain ⟨O3,R2,hm⟩:=bs hm
 refine rg<|qm o rfl λo=>qm o rfl λo=>qv o (Ci (s:=p1) o runUnderlying9 rfl rfl Q2) λo=>ls<|cr o call137 (Rn (Ai _) R2) u λu o=>re<|?_
 rcases bit hm with ⟨u0,hm⟩ | ⟨u0,hm⟩
 refine tn<|ctv o rfl u0<|th<|rg<|qv o (Ag o Ck rfl) λo=>ls<|As o u sizeOf3 rfl rfl rfl rfl .head .zero λw u=>re<|tn<|th<|Ay (λa w=>∃ (M1:Int) (P0:api_Token),(Z1t N (Z1q N (Z1v N Z1o p1 K0) p1 E0 C0) C0) M1 P0=some r∧Fr 107 [(0,Ac p1),(5,SL F0 E0 D0),(6,i6 C0),(7,i6 M1),(8,PT b9)] a∧St w0 Nil [H] [sla 130 4 F0 E0.length D0 J0,bk b9 [i6 P0.Kind,Ac P0.Text,i6 P0.N,i6 P0.At] 130] w) ?_ ?_
 replace u:=u.pk [1,0] rfl
 refine wb<|lp (α:=Nat×Int×api_Token) (λgh a w=>match gh with | (Q0,M0,I0)=>(Z1x N (Z1t N (Z1q N (Z1v N Z1o p1 K0) p1 E0 C0) C0) p1) Q0 M0 I0=some r∧Fr 107 [(0,Ac p1),(5,SL F0 E0 D0),(6,i6 C0),(7,i6 M0),(8,PT b9)] a∧St w0 Nil [H] [sla 130 4 F0 E0.length D0 J0,bk b9 [i6 I0.Kind,Ac I0.Text,i6 I0.N,i6 I0.At] 130] w) (λgh=>gh.1) (N,C0,(api_Token.mk 2 [] 0 C0)) ⟨hm,o.hs,u⟩ ?_
 rintro ⟨Q0,M0,I0⟩ a w ⟨hm,o,u⟩
 obtain _ | Q0:=Q0
 simp [Z1x] at hm
 rw [Z1x] at hm
 refine th<|th<|Ay (λa w=>∃ (vF2:Bool),(Z1u N (Z1t N (Z1q N (Z1v N Z1o p1 K0) p1 E0 C0) C0) (Z1x N (Z1t N (Z1q N (Z1v N Z1o p1 K0) p1 E0 C0) C0) p1 Q0) p1 M0 I0) vF2=some r∧Fr 107 [(0,Ac p1),(5,SL F0 E0 D0),(6,i6 C0),(7,i6 M0),(8,PT b9),(64,.bool vF2)] a∧St w0 Nil [H] [sla 130 4 F0 E0.length D0 J0,bk b9 [i6 I0.Kind,Ac I0.Text,i6 I0.N,i6 I0.At] 130] w) ?_ ?_
 rcases bip hm with ⟨B1,hm⟩ | ⟨B1,hm⟩
 obtain ⟨P3,T2,hm⟩:=bs hm
 obtain ⟨U2,V2,hm⟩:=bs hm
 refine rg<|qm o rfl λo=>qm o rfl λo=>qv o (Bj (s:=p1) o runUnderlying9 rfl) λo=>qv o (Au o rfl rfl) λo=>qv o (An (Ab o rfl) (congrArg Value.bool B1)) λo=>?_
 iterate 2 refine qg o (Ab o rfl) λo=>?_
 refine qg o (Ci (s:=p1) o runUnderlying9 rfl rfl T2) λo=>ls<|gy o rfl rfl<|cr o call137 (Rn (Ai _) V2) u λu o=>qv o (Ad o rfl rfl) λo=>re<|tn<|?_
 exact ⟨U2,hm,o.hs,u⟩
 refine rg<|qm o rfl λo=>qm o rfl λo=>qv o (Bj (s:=p1) o runUnderlying9 rfl) λo=>qv o (Au o rfl rfl) λo=>qv o (An (Ab o rfl) (congrArg Value.bool B1)) λo=>?_
 iterate 4 refine qn o λo=>?_
 refine qv o (Ae o rfl rfl) λo=>re<|tn<|?_
 exact ⟨false,hm,o.hs,u⟩
 rintro a w ⟨vF2,hm,o,u⟩
 unfold Z1u at hm
 rcases bit hm with ⟨C1,hm⟩ | ⟨C1,hm⟩
 refine ctv o rfl C1<|wk<|tn<|wb<|th<|th<|rg<|qv o (Ag o Fq rfl) λo=>qv o (Ah o isAgg3 rfl (u.ld.cellB t1 rfl)) λo=>qv o (Dk o rfl rfl) λo=>re<|tn<|Ay (λa w=>∃ (vF3:api_Token),(Z1p (Z1x N (Z1t N (Z1q N (Z1v N Z1o p1 K0) p1 E0 C0) C0) p1 Q0) M0) vF3=some r∧Fr 107 [(0,Ac p1),(5,SL F0 E0 D0),(6,i6 C0),(7,i6 M0),(8,PT b9)] a∧St w0 Nil [H] [sla 130 4 F0 E0.length D0 J0,bk b9 [i6 vF3.Kind,Ac vF3.Text,i6 vF3.N,i6 vF3.At] 130] w) ?_ ?_
 rcases bip hm with ⟨E1,hm⟩ | ⟨E1,hm⟩
 refine ctv o rfl E1<|?_
 obtain ⟨W2,X2,hm⟩:=bs hm
 refine rxS 10 u wide (by kernel_rfl) λw u=>xr u o (Ag o Fq rfl) λo=>xq u.ld o (λw hl=>Ah o isAgg3 rfl (hl.cellB t1 rfl)) λo=>xr u o (Xt o rfl rfl) λo=>?_
 iterate 2 refine xq u.ld o (λw hl=>Ab o rfl) λo=>?_
 refine xr u o (Ci (s:=p1) o runUnderlying9 rfl rfl X2) λo=>xr u o (Gp o rfl rfl) λo=>xr u o (JaQ o runUnderlying5 runUnderlying3 rfl) λo=>xr u o (Ao o rfl rfl) λo=>xr u o (Ag o Fq rfl) λo=>xz rfl<|As o u sizeOf3 rfl rfl rfl rfl (.tail .head) (.succ (.succ .zero)) λw u=>tn<|?_
 exact ⟨(api_Token.mk I0.Kind I0.Text (IntKind.i64.wrap ((IntKind.i64.wrap (10 * I0.N))+(IntKind.i64.wrap (IntKind.u8.wrap (W2 - 48))))) I0.At),hm,o.hs,u⟩
 refine cfv o rfl E1<|wk<|tn<|?_
 exact ⟨I0,hm,o.hs,u⟩
 rintro a w ⟨vF3,hm,o,u⟩
 unfold Z1p at hm
 refine rg<|qm o rfl λo=>qv o (Ao o rfl rfl) λo=>qa o rfl λo=>re<|bn<|tn<|?_
 exact ⟨(Q0,(IntKind.i64.wrap (M0+1)),vF3),⟨hm,o.hs,u⟩,Nat.lt_succ_self _⟩
 refine cfv o rfl C1<|we<|tx<|tx<|bx<|tn<|?_
 exact ⟨M0,I0,hm,o.hs,u⟩
 rintro a w ⟨M1,P0,hm,o,u⟩
 unfold Z1t at hm
 refine th<|rg<|qv o (Ag o Fq rfl) λo=>qv o (Ah o isAgg3 rfl (u.ld.cellB t1 rfl)) λo=>qv o (Bn o rfl rfl) λo=>re<|?_
 rcases bip hm with ⟨F1,hm⟩ | ⟨F1,hm⟩
 refine tn<|ctv o rfl F1<|th<|rg<|qm o rfl λo=>?_
 iterate 3 refine qa o rfl λo=>?_
 refine re<|tn<|wr<|tr<|br<|tr<|br<|tr<|?_
 replace u:=u.nilS 130 4
 obtain rfl:=si hm
 exact Go.LM.r3 o results101 rfl rfl rfl ⟨_,_,_,rfl,(λ_=>.nil),u.endFresh t0⟩
 refine tn<|cfv o rfl F1<|wk<|tn<|?_
 exact ⟨M1,P0,hm,o.hs,u⟩
 refine tn<|cfv o rfl u0<|th<|rg<|qv o (Ag o Ck rfl) λo=>ls<|As o u sizeOf3 rfl rfl rfl rfl .head .zero λw u=>re<|tn<|th<|?_
 obtain ⟨Y2,A3,hm⟩:=bs hm
 refine rg<|qm o rfl λo=>?_
 iterate 2 refine qm o rfl λo=>?_
 refine ls<|cr o call138 (Ja9 (Ai _) A3) u λu o=>qv o (Ao o rfl rfl) λo=>qa o rfl λo=>re<|tn<|th<|rg<|qm o rfl λo=>qm o rfl λo=>qv o (Am o rfl rfl) λo=>re<|?_
 rcases bip hm with ⟨G1,hm⟩ | ⟨G1,hm⟩
 refine tn<|ctv o rfl G1<|th<|rg<|qm o rfl λo=>?_
 iterate 3 refine qa o rfl λo=>?_
 refine re<|tn<|wr<|tr<|br<|tr<|br<|tr<|?_
 replace u:=u.nilS 130 4
 obtain rfl:=si hm
 exact Go.LM.r3 o results101 rfl rfl rfl ⟨_,_,_,rfl,(λ_=>.nil),u.endFresh t0⟩
 refine tn<|cfv o rfl G1<|wk<|tn<|?_
 replace u:=u.pk [1,0] rfl
 exact ⟨(IntKind.i64.wrap (C0+Y2)),(api_Token.mk 3 [] 0 C0),hm,o.hs,u⟩
 rintro a w ⟨I1,G0,hm,o,u⟩
 unfold Z1q at hm
 refine th<|?_
 obtain ⟨V0,B3,hm⟩:=bs hm
 refine rg<|qm o rfl λo=>?_
 iterate 2 refine qm o rfl λo=>?_
 refine qv o (Gi (s:=p1) (vl:=C0) (vh:=I1) o runUnderlying9 rfl rfl rfl B3) λo=>qv o (Ag o Dw rfl) λo=>ls<|As o u sizeOf9 rfl rfl rfl rfl (.tail .head) (.succ .zero) λw u=>re<|tn<|th<|?_
 obtain ⟨C3,D3,hm⟩:=bs hm
 refine rg<|qm o rfl λo=>qv o (Ar o isAgg130 sizeOf130 rfl rfl (u.ld.cellsB t1)) λo=>ls<|Bh (e:=130) (sz:=4) [i6 G0.Kind,Ac V0,i6 G0.N,i6 G0.At] o rfl u rfl rfl rfl (λw=>by kernel_rfl) λQ3 w a u o=>?_
 have Y1:Rows (α:=api_Token) H [i6 G0.Kind,Ac V0,i6 G0.N,i6 G0.At] ([(api_Token.mk G0.Kind V0 G0.N G0.At)]:List api_Token):=(.cons (c:=[i6 G0.Kind,Ac V0,i6 G0.N,i6 G0.At]) ⟨_,_,rfl,rfl,⟨_,_,rfl,rfl,⟨_,_,rfl,rfl,rfl⟩⟩⟩ .nil)
 refine ls<|Cc (α:=api_Token) (xs:=E0) (ys:=([(api_Token.mk G0.Kind V0 G0.N G0.At)]:List api_Token)) o rfl u underlying120 Xc rfl (by decide) rfl rfl rfl t1 Q1 (u.rdO t0) Y1 D3 λB2 S1 C2 w a E2 hU o=>?_
 replace u:=hU _ (.tail .head)
 replace u:=u.drop .head
 refine qa o rfl λo=>re<|tn<|?_
 obtain ⟨E3,F3,hm⟩:=bs hm
 refine rg<|qm o rfl λo=>qm o rfl λo=>ls<|cr o call135 (Xw (Ai _) F3) u λu o=>qa o rfl λo=>re<|bn<|tn<|?_
 replace u:=u.pk [0] rfl
 exact ⟨(K0,C3,E3),⟨B2,S1,C2,hm,o.hs,u,E2⟩,Nat.lt_succ_self _⟩
 refine tn<|cfv o rfl R1<|we<|tx<|tx<|bx<|tn<|?_
 exact ⟨E0,F0,D0,J0,hm,o.has ⟨rfl,trivial⟩,u,Q1⟩
 rintro a w ⟨U0,W0,S0,X0,hm,o,u,F2⟩
 unfold Z1o at hm
 refine th<|rg<|qm o rfl λo=>?_
 iterate 3 refine qa o rfl λo=>?_
 refine re<|tn<|wr<|?_
 obtain rfl:=si hm
 exact Go.LM.r3 o results101 rfl rfl rfl ⟨_,_,_,rfl,(λ_=>Rows.ind F2),u.endFresh t0⟩
theorem Fe (hH:H.le w0) {F0:Option Addr} {E0:Nat} {p1:(List api_Token)} (_:p1.length≤E0) (I0:SR H F0 p1) {p6:Int} {p7:Str} {r:Bool} (hm:Z1d N p1 p6 p7=some r):Tot Tryz.prog 139 #[SL F0 p1 E0,i6 p6,Ac p7] w0 (λv w'=>v=.bool r∧Keep Nil w0 w'):=by
 unfold Z1d at hm
 refine fn0 func139 rfl ntmps139 rfl rfl λa o=>?_
 have u:St w0 Nil [H] [] w0:=start1 hH
 refine th<|rg<|qa o rfl λo=>re<|tn<|th<|?_
 rcases bit hm with ⟨J0,hm⟩ | ⟨J0,hm⟩
 obtain ⟨C0,D0,hm⟩:=bs hm
 obtain ⟨M0,K0,G0⟩:=SR.get I0 D0
 obtain rfl:=Ba K0
 refine rg<|qm o rfl λo=>qv o (Bm o rfl rfl) λo=>qm o rfl λo=>gr (Fk:=[(0,SL F0 p1 E0),(1,i6 p6),(2,Ac p7),(14,.bool ((decide (0≤p6)) && (decide (p6 < (p1.length:Int)))))]) 9 5 o u ?_ ?_ ?_
 intro hb o key
 iterate 2 refine qg o (Ab o rfl) λo=>?_
 exact qg o (Al (α:=api_Token) (xs:=p1) o runUnderlying120 rfl) λo=>qg o (Au o rfl rfl) λo=>qk o (Ad o rfl rfl) key u hb
 intro hb o key
 iterate 4 refine qn o λo=>?_
 exact qk o (Ae o rfl rfl) key u hb
 intro a w o u
 refine qv o (An (Ab o rfl) (congrArg Value.bool J0)) λo=>?_
 iterate 2 refine qg o (Ab o rfl) λo=>?_
 refine qg o (Aq o runUnderlying120 sizeOf130 rfl rfl D0 (SR.oaI I0 (by decide) D0)) λo=>qg o (Ag o Dw rfl) λo=>qg o (Ah o isAgg9 rfl (PH.le.cell (Lds.le u.ld) (G0 1 _ rfl))) λo=>qg o (Ab o rfl) λo=>qg o (Dh (m:=C0.Text) (n:=p7) o rfl rfl) λo=>qv o (Ad o rfl rfl) λo=>qm o rfl λo=>gr (Fk:=[(0,SL F0 p1 E0),(1,i6 p6),(31,.bool ((decide (C0.Text=p7)) && (decide (C0.Kind≠2))))]) 24 7 o u ?_ ?_ ?_
 intro hb o key
 iterate 2 refine qg o (Ab o rfl) λo=>?_
 exact qg o (Aq o runUnderlying120 sizeOf130 rfl rfl D0 (SR.oaI I0 (by decide) D0)) λo=>qg o (Ag o Ck rfl) λo=>qg o (Ah o isAgg3 rfl (PH.le.cell (Lds.le u.ld) (G0 0 _ rfl))) λo=>qg o (Bu o rfl rfl) λo=>qk o (Ad o rfl rfl) key u hb
 intro hb o key
 iterate 6 refine qn o λo=>?_
 exact qk o (Ae o rfl rfl) key u hb
 intro a w o u
 refine qm o rfl λo=>gr (Fk:=[(0,SL F0 p1 E0),(1,i6 p6),(39,.bool (((decide (C0.Text=p7)) && (decide (C0.Kind≠2))) && (decide (1≤C0.Kind))))]) 32 7 o u ?_ ?_ ?_
 intro hb o key
 iterate 2 refine qg o (Ab o rfl) λo=>?_
 exact qg o (Aq o runUnderlying120 sizeOf130 rfl rfl D0 (SR.oaI I0 (by decide) D0)) λo=>qg o (Ag o Ck rfl) λo=>qg o (Ah o isAgg3 rfl (PH.le.cell (Lds.le u.ld) (G0 0 _ rfl))) λo=>qg o (Bm o rfl rfl) λo=>qk o (Ad o rfl rfl) key u hb
 intro hb o key
 iterate 6 refine qn o λo=>?_
 exact qk o (Ae o rfl rfl) key u hb
 intro a w o u
 refine qm o rfl λo=>gr (Fk:=[(47,.bool ((((decide (C0.Text=p7)) && (decide (C0.Kind≠2))) && (decide (1≤C0.Kind))) && (decide (C0.Kind≤3))))]) 40 7 o u ?_ ?_ ?_
 intro hb o key
 iterate 2 refine qg o (Ab o rfl) λo=>?_
 exact qg o (Aq o runUnderlying120 sizeOf130 rfl rfl D0 (SR.oaI I0 (by decide) D0)) λo=>qg o (Ag o Ck rfl) λo=>qg o (Ah o isAgg3 rfl (PH.le.cell (Lds.le u.ld) (G0 0 _ rfl))) λo=>qg o (Dk o rfl rfl) λo=>qk o (Ad o rfl rfl) key u hb
 intro hb o key
 iterate 6 refine qn o λo=>?_
 exact qk o (Ae o rfl rfl) key u hb
 intro a w o u
 refine qa o rfl λo=>re<|tn<|wr<|?_
 obtain rfl:=si hm
 exact r1 o results139 rfl ⟨rfl,u.keep⟩
 refine rg<|qm o rfl λo=>qv o (Bm o rfl rfl) λo=>qm o rfl λo=>gr (Fk:=[(0,SL F0 p1 E0),(1,i6 p6),(2,Ac p7),(14,.bool ((decide (0≤p6)) && (decide (p6 < (p1.length:Int)))))]) 9 5 o u ?_ ?_ ?_
 intro hb o key
 iterate 2 refine qg o (Ab o rfl) λo=>?_
 exact qg o (Al (α:=api_Token) (xs:=p1) o runUnderlying120 rfl) λo=>qg o (Au o rfl rfl) λo=>qk o (Ad o rfl rfl) key u hb
 intro hb o key
 iterate 4 refine qn o λo=>?_
 exact qk o (Ae o rfl rfl) key u hb
 intro a w o u
 refine qv o (An (Ab o rfl) (congrArg Value.bool J0)) λo=>?_
 iterate 7 refine qn o λo=>?_
 refine qv o (Ae o rfl rfl) λo=>qm o rfl λo=>?_
 iterate 6 refine qn o λo=>?_
 refine qv o (Ae o rfl rfl) λo=>qm o rfl λo=>?_
 iterate 6 refine qn o λo=>?_
 refine qv o (Ae o rfl rfl) λo=>qm o rfl λo=>?_
 iterate 6 refine qn o λo=>?_
 refine qv o (Ae o rfl rfl) λo=>qa o rfl λo=>re<|tn<|wr<|?_
 obtain rfl:=si hm
 exact r1 o results139 rfl ⟨rfl,u.keep⟩
theorem Hm (hH:H.le w0) {b2:Nat} {p1:leadlineref05_In} {oa3:Option Addr} {cap4:Nat} (D0:p1.L.length≤cap4) (E0:SR H oa3 p1.L) {p7:Str} (hO:(sepA [bk b2 [SL oa3 p1.L cap4,i6 p1.At,i6 p1.E,i6 p1.Pos] 125]).ok (hp w0)) (hD:∀ b,(sepA [bk b2 [SL oa3 p1.L cap4,i6 p1.At,i6 p1.E,i6 p1.Pos] 125]).fp b→H b=none) {r:(Bool×leadlineref05_In)} (hm:Z4i N p1 p7=some r):Tot Tryz.prog 102 #[PT b2,Ac p7] w0 (λv w'=>∃ (oa1m:Option Addr) (cap1m:Nat),v=.bool r.1∧r.2.L.length≤cap1m∧SR H oa1m r.2.L∧Mut w0 (sepA [bk b2 [SL oa3 p1.L cap4,i6 p1.At,i6 p1.E,i6 p1.Pos] 125]) (sepA [bk b2 [SL oa1m r.2.L cap1m,i6 r.2.At,i6 r.2.E,i6 r.2.Pos] 125]) w'):=by
 unfold Z4i at hm
 refine fn0 func102 rfl ntmps102 rfl rfl λa o=>?_
 have u:=Cg hH hO hD
 refine th<|rg<|qa o rfl λo=>re<|tn<|th<|th<|Ay (λa w=>∃ (F0:Bool),(Z4j p1) F0=some r∧Fr 30 [(0,PT b2),(21,.bool F0)] a∧St w0 (sepA [bk b2 [SL oa3 p1.L cap4,i6 p1.At,i6 p1.E,i6 p1.Pos] 125]).fp [H] [bk b2 [SL oa3 p1.L cap4,i6 p1.At,i6 p1.E,i6 p1.Pos] 125] w) ?_ ?_
 rcases bip hm with ⟨G0,hm⟩ | ⟨G0,hm⟩
 obtain ⟨I0,J0,hm⟩:=bs hm
 refine rdS 17 u wide λw u=>dr 0 u o rfl (Ab o rfl) λo=>dr 1 u o rfl (Aj o rfl) λo=>dr 2 u o rfl (Ag o Cj rfl) λo=>dq 3 u.ld o rfl (λw hl=>Ah o isAgg29 rfl (hl.cellB t0 rfl)) λo=>dr 4 u o rfl (Am o rfl rfl) λo=>dr 5 u o rfl (An (Ab o rfl) (congrArg Value.bool G0)) λo=>dg 6 u.ld o rfl (λw hl=>Ab o rfl) λo=>dg 7 u.ld o rfl (λw hl=>Aj o rfl) λo=>dg 8 u.ld o rfl (λw hl=>Ag o Ca rfl) λo=>dg 9 u.ld o rfl (λw hl=>Ah o isAgg120 rfl (hl.cellB t0 rfl)) λo=>dg 10 u.ld o rfl (λw hl=>Ab o rfl) λo=>dg 11 u.ld o rfl (λw hl=>Aj o rfl) λo=>dg 12 u.ld o rfl (λw hl=>Ag o Bg rfl) λo=>dg 13 u.ld o rfl (λw hl=>Ah o isAgg3 rfl (hl.cellB t0 rfl)) λo=>dg 14 u.ld o rfl (λw hl=>Ab o rfl) λo=>da1 (i:=15) (by kernel_rfl) ?_
 refine di (i:=15) rfl<|gy o rfl rfl<|cr o call139 (Fe (Ai _) D0 (St.srH u E0) J0) u λu o=>⟨λ_=>u.ld,?_⟩
 refine dr 16 u o rfl (Ad o rfl rfl) λo=>de (by kernel_rfl)<|tn<|?_
 exact ⟨I0,hm,o.has ⟨rfl,rfl,trivial⟩,u⟩
 refine rxS 17 u wide (by kernel_rfl) λw u=>xm u o rfl λo=>xr u o (Aj o rfl) λo=>xr u o (Ag o Cj rfl) λo=>xq u.ld o (λw hl=>Ah o isAgg29 rfl (hl.cellB t0 rfl)) λo=>xr u o (Am o rfl rfl) λo=>xr u o (An (Ab o rfl) (congrArg Value.bool G0)) λo=>?_
 iterate 10 refine xn u.ld o λo=>?_
 refine xr u o (Ae o rfl rfl) λo=>xe<|tn<|?_
 exact ⟨false,hm,o.has ⟨rfl,rfl,trivial⟩,u⟩
 rintro a w ⟨F0,hm,o,u⟩
 unfold Z4j at hm
 rcases bit hm with ⟨C0,hm⟩ | ⟨C0,hm⟩
 refine ctv o rfl C0<|th<|rg<|qm o rfl λo=>qm o rfl λo=>qv o (Aj o rfl) λo=>qv o (Ag o Bg rfl) λo=>qv o (Ah o isAgg3 rfl (u.ld.cellB t0 rfl)) λo=>qv o (Ao o rfl rfl) λo=>qv o (Aj o rfl) λo=>qv o (Ag o Bg rfl) λo=>ls<|As o u sizeOf3 rfl rfl rfl rfl .head (.succ .zero) λw u=>re<|tn<|th<|rg<|qa o rfl λo=>re<|tn<|wr<|tr<|?_
 obtain rfl:=si hm
 exact r1 o results102 rfl ⟨oa3,cap4,rfl,D0,E0,(u.pickL (.cons .head .nil)).endMut⟩
 refine cfv o rfl C0<|wk<|tn<|th<|rg<|qa o rfl λo=>re<|tn<|wr<|?_
 obtain rfl:=si hm
 exact r1 o results102 rfl ⟨oa3,cap4,rfl,D0,E0,(u.pickL (.cons .head .nil)).endMut⟩
theorem Ft (hH:H.le w0) {G0:Option Addr} {E0:Nat} {p1:(List api_Token)} (_:p1.length≤E0) (C0:SR H G0 p1) {p6:Int} {r:Int} (hm:Z1m N p1 p6=some r):Tot Tryz.prog 143 #[SL G0 p1 E0,i6 p6] w0 (λv w'=>v=i6 r∧Keep Nil w0 w'):=by
 unfold Z1m at hm
 refine fn0 func143 rfl ntmps143 rfl rfl λa o=>?_
 have u:St w0 Nil [H] [] w0:=start1 hH
 refine th<|rg<|qa o rfl λo=>re<|tn<|th<|th<|rg<|qm o rfl λo=>qv o (Bm o rfl rfl) λo=>qm o rfl λo=>gr (Fk:=[(0,SL G0 p1 E0),(1,i6 p6),(12,.bool ((decide (0≤p6)) && (decide (p6 < (p1.length:Int)))))]) 7 5 o u ?_ ?_ ?_
 intro hb o key
 iterate 2 refine qg o (Ab o rfl) λo=>?_
 exact qg o (Al (α:=api_Token) (xs:=p1) o runUnderlying120 rfl) λo=>qg o (Au o rfl rfl) λo=>qk o (Ad o rfl rfl) key u hb
 intro hb o key
 iterate 4 refine qn o λo=>?_
 exact qk o (Ae o rfl rfl) key u hb
 intro a w o u
 refine re<|?_
 rcases bit hm with ⟨I0,hm⟩ | ⟨I0,hm⟩
 refine tn<|ctv o rfl I0<|th<|?_
 obtain ⟨Q0,h9,hm⟩:=bs hm
 obtain ⟨R0,M0,K0⟩:=SR.get C0 h9
 obtain rfl:=Ba M0
 refine rg<|qm o rfl λo=>qm o rfl λo=>qv o (Aq o runUnderlying120 sizeOf130 rfl rfl h9 (SR.oaI C0 (by decide) h9)) λo=>qv o (Ag o Da rfl) λo=>qv o (Ah o isAgg3 rfl (PH.le.cell (Lds.le u.ld) (K0 3 _ rfl))) λo=>qa o rfl λo=>re<|tn<|wr<|tr<|?_
 obtain rfl:=si hm
 exact r1 o results143 rfl ⟨rfl,u.keep⟩
 refine tn<|cfv o rfl I0<|wk<|tn<|th<|th<|rg<|qm o rfl λo=>qv o (Al (α:=api_Token) (xs:=p1) o runUnderlying120 rfl) λo=>qv o (Am o rfl rfl) λo=>re<|?_
 rcases bip hm with ⟨F0,hm⟩ | ⟨F0,hm⟩
 refine tn<|ctv o rfl F0<|th<|rg<|qa o rfl λo=>re<|tn<|wr<|tr<|?_
 obtain rfl:=si hm
 exact r1 o results143 rfl ⟨rfl,u.keep⟩
 refine tn<|cfv o rfl F0<|wk<|tn<|th<|?_
 obtain ⟨O0,D0,hm⟩:=bs hm
 obtain ⟨S0,P0,J0⟩:=SR.get C0 D0
 obtain rfl:=Ba P0
 refine rxS 17 u wide (by kernel_rfl) λw u=>?_
 iterate 2 refine xq u.ld o (λw hl=>Ab o rfl) λo=>?_
 refine xr u o (Al (α:=api_Token) (xs:=p1) o runUnderlying120 rfl) λo=>xr u o (Gp o rfl rfl) λo=>xr u o (Aq o runUnderlying120 sizeOf130 rfl rfl D0 (SR.oaI C0 (by decide) D0)) λo=>xr u o (Ag o Da rfl) λo=>xq u.ld o (λw hl=>Ah o isAgg3 rfl (PH.le.cell (Lds.le hl) (J0 3 _ rfl))) λo=>?_
 iterate 2 refine xq u.ld o (λw hl=>Ab o rfl) λo=>?_
 refine xr u o (Al (α:=api_Token) (xs:=p1) o runUnderlying120 rfl) λo=>xr u o (Gp o rfl rfl) λo=>xr u o (Aq o runUnderlying120 sizeOf130 rfl rfl D0 (SR.oaI C0 (by decide) D0)) λo=>xr u o (Ag o Dw rfl) λo=>xq u.ld o (λw hl=>Ah o isAgg9 rfl (PH.le.cell (Lds.le hl) (J0 1 _ rfl))) λo=>xr u o (Bj (s:=O0.Text) o runUnderlying9 rfl) λo=>xr u o (Ao o rfl rfl) λo=>xr u o (Bo o rfl) λo=>xe<|tn<|wr<|?_
 obtain rfl:=si hm
 exact r1 o results143 rfl ⟨rfl,u.keep⟩
theorem Rc (hH:H.le w0) {b2:Nat} {p1:leadlineref05_In} {oa3:Option Addr} {cap4:Nat} (C0:p1.L.length≤cap4) (D0:SR H oa3 p1.L) (hO:(sepA [bk b2 [SL oa3 p1.L cap4,i6 p1.At,i6 p1.E,i6 p1.Pos] 125]).ok (hp w0)) (hD:∀ b,(sepA [bk b2 [SL oa3 p1.L cap4,i6 p1.At,i6 p1.E,i6 p1.Pos] 125]).fp b→H b=none) {r:leadlineref05_In} (hm:Z4f N p1=some r):Tot Tryz.prog 107 #[PT b2] w0 (λv w'=>∃ (oa1m:Option Addr) (cap1m:Nat),v=.tuple #[]∧r.L.length≤cap1m∧SR H oa1m r.L∧Mut w0 (sepA [bk b2 [SL oa3 p1.L cap4,i6 p1.At,i6 p1.E,i6 p1.Pos] 125]) (sepA [bk b2 [SL oa1m r.L cap1m,i6 r.At,i6 r.E,i6 r.Pos] 125]) w'):=by
 unfold Z4f at hm
 refine fn0 func107 rfl ntmps107 rfl rfl λa o=>?_
 have u:=Cg hH hO hD
 refine th<|rg<|qm o rfl λo=>qv o (Aj o rfl) λo=>qv o (Ag o Cj rfl) λo=>qv o (Ah o isAgg29 rfl (u.ld.cellB t0 rfl)) λo=>qv o (Am o rfl rfl) λo=>re<|?_
 rcases bip hm with ⟨F0,hm⟩ | ⟨F0,hm⟩
 refine tn<|ctv o rfl F0<|th<|rg<|qm o rfl λo=>qv o (Aj o rfl) λo=>qv o (Ag o Cj rfl) λo=>ls<|As o u sizeOf29 rfl rfl rfl rfl .head (.succ (.succ .zero)) λw u=>re<|tn<|th<|th<|rxS 10 u wide (by kernel_rfl) λw u=>xm u o rfl λo=>xr u o (Aj o rfl) λo=>xr u o (Ag o Bg rfl) λo=>xq u.ld o (λw hl=>Ah o isAgg3 rfl (hl.cellB t0 rfl)) λo=>xm u o rfl λo=>xr u o (Aj o rfl) λo=>xr u o (Ag o Ca rfl) λo=>xq u.ld o (λw hl=>Ah o isAgg120 rfl (hl.cellB t0 rfl)) λo=>xr u o (Al (α:=api_Token) (xs:=p1.L) o runUnderlying120 rfl) λo=>xr u o (Bm o rfl rfl) λo=>xe<|tn<|Ay (λa w=>∃ (G0:Int),(Z4g N p1) G0=some r∧Fr 35 [(0,PT b2)] a∧St w0 (sepA [bk b2 [SL oa3 p1.L cap4,i6 p1.At,i6 p1.E,i6 p1.Pos] 125]).fp [H] [bk b2 [SL oa3 p1.L cap4,i6 p1.At,i6 G0,i6 p1.Pos] 125] w) ?_ ?_
 rcases bip hm with ⟨I0,hm⟩ | ⟨I0,hm⟩
 refine ctv o rfl I0<|rg<|qm o rfl λo=>qv o (Aj o rfl) λo=>qv o (Ag o Cj rfl) λo=>ls<|As o u sizeOf29 rfl rfl rfl rfl .head (.succ (.succ .zero)) λw u=>re<|tn<|?_
 exact ⟨6,hm,o.has ⟨rfl,trivial⟩,u⟩
 refine cfv o rfl I0<|wk<|tn<|?_
 exact ⟨5,hm,o.has ⟨rfl,trivial⟩,u⟩
 rintro a w ⟨G0,hm,o,u⟩
 unfold Z4g at hm
 obtain ⟨J0,E0,hm⟩:=bs hm
 refine rdL Af 13 u wide λw u=>ds 0 (St.ldsX u i2 ta1) o rfl (Ab o rfl) λo=>ds 1 (St.ldsX u i2 ta1) o rfl (Ab o rfl) λo=>ds 2 (St.ldsX u i2 ta1) o rfl (Aj o rfl) λo=>ds 3 (St.ldsX u i2 ta1) o rfl (Ag o Ca rfl) λo=>da2 (i:=4) (j:=5) (by kernel_rfl) ?_ ?_
 refine di (i:=4) rfl<|q1 o rfl (Ah o isAgg120 rfl (u.ld.cellB t0 rfl)) λa o=>⟨λ_=>(St.ldsX u i2 ta1),?_⟩
 refine ds 5 (St.ldsX u i2 ta1) o rfl (Ab o rfl) λo=>ds 6 (St.ldsX u i2 ta1) o rfl (Aj o rfl) λo=>ds 7 (St.ldsX u i2 ta1) o rfl (Ag o Bg rfl) λo=>da1 (i:=8) (by kernel_rfl) ?_
 refine di (i:=8) rfl<|q1 o rfl (Ah o isAgg3 rfl (u.ld.cellB t0 rfl)) λa o=>⟨λ_=>(St.ldsX u i2 ta1),?_⟩
 refine da1 (i:=9) (by kernel_rfl) ?_
 refine di (i:=9) rfl<|cr o call143 (Ft (Ai _) C0 (St.srH u D0) E0) u λu o=>⟨λ_=>(St.ldsX u i2 ta1),?_⟩
 refine ds 10 (St.ldsX u i2 ta1) o rfl (Aj o rfl) λo=>ds 11 (St.ldsX u i2 ta1) o rfl (Ag o Ep rfl) λo=>da1 (i:=12) (by kernel_rfl) ?_
 refine di (i:=12) rfl<|As o u sizeOf3 rfl rfl rfl rfl .head (.succ (.succ (.succ .zero))) λw u=>⟨λ_=>(St.ldsX u i2 ta1),?_⟩
 refine de (by kernel_rfl)<|?_
 obtain rfl:=si hm
 exact r0n o results107 ⟨oa3,cap4,rfl,C0,D0,(u.pickL (.cons .head .nil)).endMut⟩
 refine di (i:=5) rfl<|q1 o rfl (Ab o rfl) λa o=>⟨λ_=>(St.ldsX u i2 ta1),?_⟩
 refine da2 (i:=4) (j:=6) (by kernel_rfl) ?_ ?_
 refine di (i:=4) rfl<|q1 o rfl (Ah o isAgg120 rfl (u.ld.cellB t0 rfl)) λa o=>⟨λ_=>(St.ldsX u i2 ta1),?_⟩
 refine ds 6 (St.ldsX u i2 ta1) o rfl (Aj o rfl) λo=>ds 7 (St.ldsX u i2 ta1) o rfl (Ag o Bg rfl) λo=>da1 (i:=8) (by kernel_rfl) ?_
 refine di (i:=8) rfl<|q1 o rfl (Ah o isAgg3 rfl (u.ld.cellB t0 rfl)) λa o=>⟨λ_=>(St.ldsX u i2 ta1),?_⟩
 refine da1 (i:=9) (by kernel_rfl) ?_
 refine di (i:=9) rfl<|cr o call143 (Ft (Ai _) C0 (St.srH u D0) E0) u λu o=>⟨λ_=>(St.ldsX u i2 ta1),?_⟩
 refine ds 10 (St.ldsX u i2 ta1) o rfl (Aj o rfl) λo=>ds 11 (St.ldsX u i2 ta1) o rfl (Ag o Ep rfl) λo=>da1 (i:=12) (by kernel_rfl) ?_
 refine di (i:=12) rfl<|As o u sizeOf3 rfl rfl rfl rfl .head (.succ (.succ (.succ .zero))) λw u=>⟨λ_=>(St.ldsX u i2 ta1),?_⟩
 refine de (by kernel_rfl)<|?_
 obtain rfl:=si hm
 exact r0n o results107 ⟨oa3,cap4,rfl,C0,D0,(u.pickL (.cons .head .nil)).endMut⟩
 refine di (i:=6) rfl<|q1 o rfl (Aj o rfl) λa o=>⟨λ_=>(St.ldsX u i2 ta1),?_⟩
 refine da2 (i:=4) (j:=7) (by kernel_rfl) ?_ ?_
 refine di (i:=4) rfl<|q1 o rfl (Ah o isAgg120 rfl (u.ld.cellB t0 rfl)) λa o=>⟨λ_=>(St.ldsX u i2 ta1),?_⟩
 refine ds 7 (St.ldsX u i2 ta1) o rfl (Ag o Bg rfl) λo=>da1 (i:=8) (by kernel_rfl) ?_
 refine di (i:=8) rfl<|q1 o rfl (Ah o isAgg3 rfl (u.ld.cellB t0 rfl)) λa o=>⟨λ_=>(St.ldsX u i2 ta1),?_⟩
 refine da1 (i:=9) (by kernel_rfl) ?_
 refine di (i:=9) rfl<|cr o call143 (Ft (Ai _) C0 (St.srH u D0) E0) u λu o=>⟨λ_=>(St.ldsX u i2 ta1),?_⟩
 refine ds 10 (St.ldsX u i2 ta1) o rfl (Aj o rfl) λo=>ds 11 (St.ldsX u i2 ta1) o rfl (Ag o Ep rfl) λo=>da1 (i:=12) (by kernel_rfl) ?_
 refine di (i:=12) rfl<|As o u sizeOf3 rfl rfl rfl rfl .head (.succ (.succ (.succ .zero))) λw u=>⟨λ_=>(St.ldsX u i2 ta1),?_⟩
 refine de (by kernel_rfl)<|?_
 obtain rfl:=si hm
 exact r0n o results107 ⟨oa3,cap4,rfl,C0,D0,(u.pickL (.cons .head .nil)).endMut⟩
 refine di (i:=7) rfl<|q1 o rfl (Ag o Bg rfl) λa o=>⟨λ_=>(St.ldsX u i2 ta1),?_⟩
 refine da2 (i:=4) (j:=8) (by kernel_rfl) ?_ ?_
 refine di (i:=4) rfl<|q1 o rfl (Ah o isAgg120 rfl (u.ld.cellB t0 rfl)) λa o=>⟨λ_=>(St.ldsX u i2 ta1),?_⟩
 refine da1 (i:=8) (by kernel_rfl) ?_
 refine di (i:=8) rfl<|q1 o rfl (Ah o isAgg3 rfl (u.ld.cellB t0 rfl)) λa o=>⟨λ_=>(St.ldsX u i2 ta1),?_⟩
 refine da1 (i:=9) (by kernel_rfl) ?_
 refine di (i:=9) rfl<|cr o call143 (Ft (Ai _) C0 (St.srH u D0) E0) u λu o=>⟨λ_=>(St.ldsX u i2 ta1),?_⟩
 refine ds 10 (St.ldsX u i2 ta1) o rfl (Aj o rfl) λo=>ds 11 (St.ldsX u i2 ta1) o rfl (Ag o Ep rfl) λo=>da1 (i:=12) (by kernel_rfl) ?_
 refine di (i:=12) rfl<|As o u sizeOf3 rfl rfl rfl rfl .head (.succ (.succ (.succ .zero))) λw u=>⟨λ_=>(St.ldsX u i2 ta1),?_⟩
 refine de (by kernel_rfl)<|?_
 obtain rfl:=si hm
 exact r0n o results107 ⟨oa3,cap4,rfl,C0,D0,(u.pickL (.cons .head .nil)).endMut⟩
 refine di (i:=8) rfl<|q1 o rfl (Ah o isAgg3 rfl (u.ld.cellB t0 rfl)) λa o=>⟨λ_=>(St.ldsX u i2 ta1),?_⟩
 refine da1 (i:=4) (by kernel_rfl) ?_
 refine di (i:=4) rfl<|q1 o rfl (Ah o isAgg120 rfl (u.ld.cellB t0 rfl)) λa o=>⟨λ_=>(St.ldsX u i2 ta1),?_⟩
 refine da1 (i:=9) (by kernel_rfl) ?_
 refine di (i:=9) rfl<|cr o call143 (Ft (Ai _) C0 (St.srH u D0) E0) u λu o=>⟨λ_=>(St.ldsX u i2 ta1),?_⟩
 refine ds 10 (St.ldsX u i2 ta1) o rfl (Aj o rfl) λo=>ds 11 (St.ldsX u i2 ta1) o rfl (Ag o Ep rfl) λo=>da1 (i:=12) (by kernel_rfl) ?_
 refine di (i:=12) rfl<|As o u sizeOf3 rfl rfl rfl rfl .head (.succ (.succ (.succ .zero))) λw u=>⟨λ_=>(St.ldsX u i2 ta1),?_⟩
 refine de (by kernel_rfl)<|?_
 obtain rfl:=si hm
 exact r0n o results107 ⟨oa3,cap4,rfl,C0,D0,(u.pickL (.cons .head .nil)).endMut⟩
 refine tn<|cfv o rfl F0<|wk<|?_
 obtain rfl:=si hm
 exact r0n o results107 ⟨oa3,cap4,rfl,C0,D0,(u.pickL (.cons .head .nil)).endMut⟩
set_option maxHeartbeats 4000000 in
theorem Xm (hH:H.le w0) {b2:Nat} {p1:leadlineref05_In} {oa3:Option Addr} {cap4:Nat} (R0:p1.L.length≤cap4) (C0:SR H oa3 p1.L) (hO:(sepA [bk b2 [SL oa3 p1.L cap4,i6 p1.At,i6 p1.E,i6 p1.Pos] 125]).ok (hp w0)) (hD:∀ b,(sepA [bk b2 [SL oa3 p1.L cap4,i6 p1.At,i6 p1.E,i6 p1.Pos] 125]).fp b→H b=none) {r:(api_Cell×leadlineref05_In)} (hm:Z4l N p1=some r):Tot Tryz.prog 104 #[PT b2] w0 (λv w'=>∃ (oa1m:Option Addr) (cap1m:Nat),v=.agg #[Ac r.1.Name,i6 r.1.N,i6 r.1.At]∧r.2.L.length≤cap1m∧SR H oa1m r.2.L∧Mut w0 (sepA [bk b2 [SL oa3 p1.L cap4,i6 p1.At,i6 p1.E,i6 p1.Pos] 125]) (sepA [bk b2 [SL oa1m r.2.L cap1m,i6 r.2.At,i6 r.2.E,i6 r.2.Pos] 125]) w'):=by
 unfold Z4l at hm
 refine fn0 func104 rfl ntmps104 rfl rfl λa o=>?_
 have u:=Cg hH hO hD
 refine th<|rg<|ls<|Ap (cs:=[Ac [],i6 0,i6 0].toArray) o rfl u Tryz.zeroValue53 rfl λb7 w a u o=>re<|tn<|th<|th<|Ay (λa w=>∃ (O0:Bool),(Z4m N p1) O0=some r∧Fr 84 [(0,PT b2),(2,PT b7),(47,.bool O0)] a∧St w0 (sepA [bk b2 [SL oa3 p1.L cap4,i6 p1.At,i6 p1.E,i6 p1.Pos] 125]).fp [H] [bk b2 [SL oa3 p1.L cap4,i6 p1.At,i6 p1.E,i6 p1.Pos] 125,bk b7 [Ac [],i6 0,i6 0] 53] w) ?_ ?_
 rcases bip hm with ⟨F0,hm⟩ | ⟨F0,hm⟩
 rcases bip hm with ⟨M0,hm⟩ | ⟨M0,hm⟩
 obtain ⟨n0,D0,hm⟩:=bs hm
 obtain ⟨p0,V0,I0⟩:=SR.get C0 D0
 obtain rfl:=Ba V0
 rcases bip hm with ⟨J0,hm⟩ | ⟨J0,hm⟩
 obtain ⟨W0,X0,hm⟩:=bs hm
 refine rdS 45 u wide λw u=>dr 0 u o rfl (Ab o rfl) λo=>dr 1 u o rfl (Aj o rfl) λo=>dr 2 u o rfl (Ag o Cj rfl) λo=>dq 3 u.ld o rfl (λw hl=>Ah o isAgg29 rfl (hl.cellB t1 rfl)) λo=>dr 4 u o rfl (Am o rfl rfl) λo=>dr 5 u o rfl (An (Ab o rfl) (congrArg Value.bool F0)) λo=>dg 6 u.ld o rfl (λw hl=>Ab o rfl) λo=>dg 7 u.ld o rfl (λw hl=>Aj o rfl) λo=>dg 8 u.ld o rfl (λw hl=>Ag o Bg rfl) λo=>dg 9 u.ld o rfl (λw hl=>Ah o isAgg3 rfl (hl.cellB t1 rfl)) λo=>dg 10 u.ld o rfl (λw hl=>Ab o rfl) λo=>dg 11 u.ld o rfl (λw hl=>Aj o rfl) λo=>dg 12 u.ld o rfl (λw hl=>Ag o Ca rfl) λo=>dg 13 u.ld o rfl (λw hl=>Ah o isAgg120 rfl (hl.cellB t1 rfl)) λo=>dg 14 u.ld o rfl (λw hl=>Al (α:=api_Token) (xs:=p1.L) o runUnderlying120 rfl) λo=>dg 15 u.ld o rfl (λw hl=>Au o rfl rfl) λo=>dr 16 u o rfl (Ad o rfl rfl) λo=>dr 17 u o rfl (An (Ab o rfl) (congrArg Value.bool M0)) λo=>dg 18 u.ld o rfl (λw hl=>Ab o rfl) λo=>dg 19 u.ld o rfl (λw hl=>Aj o rfl) λo=>dg 20 u.ld o rfl (λw hl=>Ag o Ca rfl) λo=>dg 21 u.ld o rfl (λw hl=>Ah o isAgg120 rfl (hl.cellB t1 rfl)) λo=>dg 22 u.ld o rfl (λw hl=>Ab o rfl) λo=>dg 23 u.ld o rfl (λw hl=>Aj o rfl) λo=>dg 24 u.ld o rfl (λw hl=>Ag o Bg rfl) λo=>dg 25 u.ld o rfl (λw hl=>Ah o isAgg3 rfl (hl.cellB t1 rfl)) λo=>dg 26 u.ld o rfl (λw hl=>Aq o runUnderlying120 sizeOf130 rfl rfl D0 (SR.oaI C0 (by decide) D0)) λo=>dg 27 u.ld o rfl (λw hl=>Ag o Ck rfl) λo=>dg 28 u.ld o rfl (λw hl=>Ah o isAgg3 rfl (PH.le.cell (Lds.le hl) (I0 0 _ rfl))) λo=>dg 29 u.ld o rfl (λw hl=>Am o rfl rfl) λo=>?_
 refine dr 30 u o rfl (Ad o rfl rfl) λo=>dr 31 u o rfl (An (Ab o rfl) (congrArg Value.bool J0)) λo=>dg 32 u.ld o rfl (λw hl=>Ab o rfl) λo=>dg 33 u.ld o rfl (λw hl=>Aj o rfl) λo=>dg 34 u.ld o rfl (λw hl=>Ag o Ca rfl) λo=>dg 35 u.ld o rfl (λw hl=>Ah o isAgg120 rfl (hl.cellB t1 rfl)) λo=>dg 36 u.ld o rfl (λw hl=>Ab o rfl) λo=>dg 37 u.ld o rfl (λw hl=>Aj o rfl) λo=>dg 38 u.ld o rfl (λw hl=>Ag o Bg rfl) λo=>dg 39 u.ld o rfl (λw hl=>Ah o isAgg3 rfl (hl.cellB t1 rfl)) λo=>dg 40 u.ld o rfl (λw hl=>Aq o runUnderlying120 sizeOf130 rfl rfl D0 (SR.oaI C0 (by decide) D0)) λo=>dg 41 u.ld o rfl (λw hl=>Ag o Dw rfl) λo=>dg 42 u.ld o rfl (λw hl=>Ah o isAgg9 rfl (PH.le.cell (Lds.le hl) (I0 1 _ rfl))) λo=>da1 (i:=43) (by kernel_rfl) ?_
 refine di (i:=43) rfl<|gy o rfl rfl<|cr o call114 (Tz (Ai _) X0) u λu o=>⟨λ_=>u.ld,?_⟩
 refine dr 44 u o rfl (Ad o rfl rfl) λo=>de (by kernel_rfl)<|tn<|?_
 replace u:=u.pk [1,0] rfl
 exact ⟨W0,hm,o.hs,u⟩
 refine rxS 45 u wide (by kernel_rfl) λw u=>xm u o rfl λo=>xr u o (Aj o rfl) λo=>xr u o (Ag o Cj rfl) λo=>xq u.ld o (λw hl=>Ah o isAgg29 rfl (hl.cellB t1 rfl)) λo=>xr u o (Am o rfl rfl) λo=>xr u o (An (Ab o rfl) (congrArg Value.bool F0)) λo=>xg u.ld o (λw hl=>Ab o rfl) λo=>xg u.ld o (λw hl=>Aj o rfl) λo=>xg u.ld o (λw hl=>Ag o Bg rfl) λo=>xg u.ld o (λw hl=>Ah o isAgg3 rfl (hl.cellB t1 rfl)) λo=>xg u.ld o (λw hl=>Ab o rfl) λo=>xg u.ld o (λw hl=>Aj o rfl) λo=>xg u.ld o (λw hl=>Ag o Ca rfl) λo=>xg u.ld o (λw hl=>Ah o isAgg120 rfl (hl.cellB t1 rfl)) λo=>xg u.ld o (λw hl=>Al (α:=api_Token) (xs:=p1.L) o runUnderlying120 rfl) λo=>xg u.ld o (λw hl=>Au o rfl rfl) λo=>xr u o (Ad o rfl rfl) λo=>xr u o (An (Ab o rfl) (congrArg Value.bool M0)) λo=>xg u.ld o (λw hl=>Ab o rfl) λo=>xg u.ld o (λw hl=>Aj o rfl) λo=>xg u.ld o (λw hl=>Ag o Ca rfl) λo=>xg u.ld o (λw hl=>Ah o isAgg120 rfl (hl.cellB t1 rfl)) λo=>xg u.ld o (λw hl=>Ab o rfl) λo=>xg u.ld o (λw hl=>Aj o rfl) λo=>xg u.ld o (λw hl=>Ag o Bg rfl) λo=>xg u.ld o (λw hl=>Ah o isAgg3 rfl (hl.cellB t1 rfl)) λo=>xg u.ld o (λw hl=>Aq o runUnderlying120 sizeOf130 rfl rfl D0 (SR.oaI C0 (by decide) D0)) λo=>xg u.ld o (λw hl=>Ag o Ck rfl) λo=>xg u.ld o (λw hl=>Ah o isAgg3 rfl (PH.le.cell (Lds.le hl) (I0 0 _ rfl))) λo=>xg u.ld o (λw hl=>Am o rfl rfl) λo=>?_
 refine xr u o (Ad o rfl rfl) λo=>xr u o (An (Ab o rfl) (congrArg Value.bool J0)) λo=>?_
 iterate 12 refine xn u.ld o λo=>?_
 refine xr u o (Ae o rfl rfl) λo=>xe<|tn<|?_
 replace u:=u.pk [1,0] rfl
 exact ⟨false,hm,o.hs,u⟩
 refine rxS 45 u wide (by kernel_rfl) λw u=>xm u o rfl λo=>xr u o (Aj o rfl) λo=>xr u o (Ag o Cj rfl) λo=>xq u.ld o (λw hl=>Ah o isAgg29 rfl (hl.cellB t1 rfl)) λo=>xr u o (Am o rfl rfl) λo=>xr u o (An (Ab o rfl) (congrArg Value.bool F0)) λo=>xg u.ld o (λw hl=>Ab o rfl) λo=>xg u.ld o (λw hl=>Aj o rfl) λo=>xg u.ld o (λw hl=>Ag o Bg rfl) λo=>xg u.ld o (λw hl=>Ah o isAgg3 rfl (hl.cellB t1 rfl)) λo=>xg u.ld o (λw hl=>Ab o rfl) λo=>xg u.ld o (λw hl=>Aj o rfl) λo=>xg u.ld o (λw hl=>Ag o Ca rfl) λo=>xg u.ld o (λw hl=>Ah o isAgg120 rfl (hl.cellB t1 rfl)) λo=>xg u.ld o (λw hl=>Al (α:=api_Token) (xs:=p1.L) o runUnderlying120 rfl) λo=>xg u.ld o (λw hl=>Au o rfl rfl) λo=>xr u o (Ad o rfl rfl) λo=>xr u o (An (Ab o rfl) (congrArg Value.bool M0)) λo=>?_
 iterate 12 refine xn u.ld o λo=>?_
 refine xr u o (Ae o rfl rfl) λo=>xm u o rfl λo=>?_
 iterate 12 refine xn u.ld o λo=>?_
 refine xr u o (Ae o rfl rfl) λo=>xe<|tn<|?_
 replace u:=u.pk [1,0] rfl
 exact ⟨false,hm,o.hs,u⟩
 refine rxS 45 u wide (by kernel_rfl) λw u=>xm u o rfl λo=>xr u o (Aj o rfl) λo=>xr u o (Ag o Cj rfl) λo=>xq u.ld o (λw hl=>Ah o isAgg29 rfl (hl.cellB t1 rfl)) λo=>xr u o (Am o rfl rfl) λo=>xr u o (An (Ab o rfl) (congrArg Value.bool F0)) λo=>?_
 iterate 10 refine xn u.ld o λo=>?_
 refine xr u o (Ae o rfl rfl) λo=>xm u o rfl λo=>?_
 iterate 12 refine xn u.ld o λo=>?_
 refine xr u o (Ae o rfl rfl) λo=>xm u o rfl λo=>?_
 iterate 12 refine xn u.ld o λo=>?_
 refine xr u o (Ae o rfl rfl) λo=>xe<|tn<|?_
 replace u:=u.pk [1,0] rfl
 exact ⟨false,hm,o.hs,u⟩
 rintro a w ⟨O0,hm,o,u⟩
 unfold Z4m at hm
 rcases bit hm with ⟨K0,hm⟩ | ⟨K0,hm⟩
 refine ctv o rfl K0<|th<|rg<|qm o rfl λo=>qm o rfl λo=>qv o (Aj o rfl) λo=>qv o (Ag o Bg rfl) λo=>qv o (Ah o isAgg3 rfl (u.ld.cellB t0 rfl)) λo=>qv o (Ao o rfl rfl) λo=>qv o (Aj o rfl) λo=>qv o (Ag o Bg rfl) λo=>ls<|As o u sizeOf3 rfl rfl rfl rfl .head (.succ .zero) λw u=>re<|tn<|th<|?_
 obtain ⟨E0,G0,hm⟩:=bs hm
 obtain ⟨u0,Y0,P0⟩:=SR.get C0 G0
 obtain rfl:=Ba Y0
 refine rxS 25 u wide (by kernel_rfl) λw u=>xm u o rfl λo=>xr u o (Aj o rfl) λo=>xr u o (Ag o Ca rfl) λo=>xq u.ld o (λw hl=>Ah o isAgg120 rfl (hl.cellB t0 rfl)) λo=>xm u o rfl λo=>xr u o (Aj o rfl) λo=>xr u o (Ag o Bg rfl) λo=>xq u.ld o (λw hl=>Ah o isAgg3 rfl (hl.cellB t0 rfl)) λo=>xr u o (Gp o rfl rfl) λo=>xr u o (Aq o runUnderlying120 sizeOf130 rfl rfl G0 (SR.oaI C0 (by decide) G0)) λo=>xr u o (Ag o Dw rfl) λo=>xq u.ld o (λw hl=>Ah o isAgg9 rfl (PH.le.cell (Lds.le hl) (P0 1 _ rfl))) λo=>xm u o rfl λo=>xr u o (Aj o rfl) λo=>xr u o (Ag o Ca rfl) λo=>xq u.ld o (λw hl=>Ah o isAgg120 rfl (hl.cellB t0 rfl)) λo=>xm u o rfl λo=>xr u o (Aj o rfl) λo=>xr u o (Ag o Bg rfl) λo=>xq u.ld o (λw hl=>Ah o isAgg3 rfl (hl.cellB t0 rfl)) λo=>xr u o (Gp o rfl rfl) λo=>xr u o (Aq o runUnderlying120 sizeOf130 rfl rfl G0 (SR.oaI C0 (by decide) G0)) λo=>xr u o (Ag o Da rfl) λo=>xq u.ld o (λw hl=>Ah o isAgg3 rfl (PH.le.cell (Lds.le hl) (P0 3 _ rfl))) λo=>xq u.ld o (λw hl=>Bi [Ac E0.Text,i6 E0.At] [Ac E0.Text,i6 0,i6 E0.At] o ⟨rfl,rfl,trivial⟩ (λw=>by kernel_rfl)) λo=>xz rfl<|Aw o u sizeOf53 rfl rfl rfl rfl (Ak rfl) (.tail .head) λw u=>tn<|wr<|tr<|?_
 obtain rfl:=si hm
 exact r1c (vs:=[Ac E0.Text,i6 0,i6 E0.At]) (.inl rfl) o results104 rfl isAgg53 sizeOf53 rfl (u.ld.cellsB t1) ⟨oa3,cap4,rfl,R0,C0,(u.pickL (.cons .head .nil)).endMut⟩
 refine cfv o rfl K0<|wk<|tn<|th<|?_
 obtain ⟨B1,j0,hm⟩:=bs hm
 refine rg<|qm o rfl λo=>?_
 replace u:=u.pk [0,0] rfl
 replace u:=St.sep [bk b2 [SL oa3 p1.L cap4,i6 p1.At,i6 p1.E,i6 p1.Pos] 125] u
 refine ls<|c1 o rfl call107 (Rc (St.le u) (p1:=p1) (b2:=b2) (oa3:=oa3) (cap4:=cap4) R0 C0 (St.sepOk u) (St.sepDis u) j0) ⟨rfl,trivial⟩ (λv w a hR o=>?_)
 obtain ⟨S0,Q0,rfl,T0,U0,hk⟩:=hR
 replace u:=(u.mut hk .head).unsep
 refine re<|tn<|th<|rg<|qv o (Bi [] [Ac [],i6 0,i6 0] o trivial (λw=>by kernel_rfl)) λo=>ls<|Aw o u sizeOf53 rfl rfl rfl rfl (Ak rfl) (.tail .head) λw u=>re<|tn<|wr<|?_
 obtain rfl:=si hm
 exact r1c (vs:=[Ac [],i6 0,i6 0]) (.inl rfl) o results104 rfl isAgg53 sizeOf53 rfl (u.ld.cellsB t1) ⟨S0,Q0,rfl,T0,U0,(u.pickL (.cons .head .nil)).endMut⟩
theorem Vg (hH:H.le w0) {b2:Nat} {p1:leadlineref05_In} {oa3:Option Addr} {cap4:Nat} (P0:p1.L.length≤cap4) (Q0:SR H oa3 p1.L) {p7:Str} (hO:(sepA [bk b2 [SL oa3 p1.L cap4,i6 p1.At,i6 p1.E,i6 p1.Pos] 125]).ok (hp w0)) (hD:∀ b,(sepA [bk b2 [SL oa3 p1.L cap4,i6 p1.At,i6 p1.E,i6 p1.Pos] 125]).fp b→H b=none) {r:leadlineref05_In} (hm:Z4k N p1 p7=some r):Tot Tryz.prog 140 #[PT b2,Ac p7] w0 (λv w'=>∃ (oa1m:Option Addr) (cap1m:Nat),v=.tuple #[]∧r.L.length≤cap1m∧SR H oa1m r.L∧Mut w0 (sepA [bk b2 [SL oa3 p1.L cap4,i6 p1.At,i6 p1.E,i6 p1.Pos] 125]) (sepA [bk b2 [SL oa1m r.L cap1m,i6 r.At,i6 r.E,i6 r.Pos] 125]) w'):=by
 unfold Z4k at hm
 refine fn0 func140 rfl ntmps140 rfl rfl λa o=>?_
 have u:=Cg hH hO hD
 refine th<|?_
 obtain ⟨D0,h9,hm⟩:=bs hm
 refine rg<|qm o rfl λo=>qm o rfl λo=>?_
 replace u:=u.pk [0] rfl
 replace u:=St.sep [bk b2 [SL oa3 p1.L cap4,i6 p1.At,i6 p1.E,i6 p1.Pos] 125] u
 refine ls<|c1 o rfl call102 (Hm (St.le u) (p1:=p1) (b2:=b2) (oa3:=oa3) (cap4:=cap4) P0 Q0 (St.sepOk u) (St.sepDis u) h9) ⟨rfl,rfl,trivial⟩ (λv w a hR o=>?_)
 obtain ⟨E0,C0,rfl,G0,I0,hk⟩:=hR
 replace u:=(u.mut hk .head).unsep
 refine qv o (Bc o rfl) λo=>re<|?_
 rcases bit hm with ⟨F0,hm⟩ | ⟨F0,hm⟩
 refine tn<|cfv o rfl (by rw [F0];rfl)<|wk<|?_
 obtain rfl:=si hm
 exact r0n o results140 ⟨E0,C0,rfl,G0,I0,(u.pickL (.cons .head .nil)).endMut⟩
 refine tn<|ctv o rfl (by rw [F0];rfl)<|?_
 obtain ⟨S0,R0,hm⟩:=bs hm
 refine rg<|qm o rfl λo=>?_
 replace u:=u.pk [0] rfl
 replace u:=St.sep [bk b2 [SL E0 D0.2.L C0,i6 D0.2.At,i6 D0.2.E,i6 D0.2.Pos] 125] u
 refine ls<|c1 o rfl call107 (Rc (St.le u) (p1:=D0.2) (b2:=b2) (oa3:=E0) (cap4:=C0) G0 I0 (St.sepOk u) (St.sepDis u) R0) ⟨rfl,trivial⟩ (λv w a hR o=>?_)
 obtain ⟨K0,J0,rfl,M0,O0,hk⟩:=hR
 replace u:=(u.mut hk .head).unsep
 refine re<|?_
 obtain rfl:=si hm
 exact r0n o results140 ⟨K0,J0,rfl,M0,O0,(u.pickL (.cons .head .nil)).endMut⟩
end Go.LM.LB
