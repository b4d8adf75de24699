/- Walks, lifted by program. No condition beyond the theorems' own premises. -/
import Derived.Test.YtgdkaddhhpgeiaaGreatDoorLBQ2
namespace Go.LM.LB
open Go Go.LL Go.MD Go.LM Go.Proofs Go.MD.LB Go.Proofs.Tryz
set_option maxRecDepth 100000
variable {N:Nat} {w0:World} {H:PH}
set_option maxHeartbeats 4000000 in
theorem JbT (hH:H.le w0) {τ:Type} {y:τ→legal_use→Option (τ×Bool)} {C:τ→PH→List HA→Prop} {lyl:Nat} (hy:YC Tryz.prog lyl C (λ(H:PH) (args:List Value) (x:legal_use)=>∃ (cs0:List Value),args=[.agg cs0.toArray]∧Enc.rep H cs0 x) y) (hCm:∀ s H H' L,(∀ b o,H b=some o→H' b=some o)→C s H L→C s H' L) {s0:τ} {Lc:List HA} (hC:C s0 H Lc) {oa3:Option Addr} {cap4:Nat} {y2:(List api_Stmt)} (_:y2.length≤cap4) (T2:SR H oa3 y2) {b1:Nat} (P3:H b1=some (.cells [SL oa3 y2 cap4].toArray 46 (0,0))) (hO:(sepA [sepA Lc]).ok (hp w0)) (hD:∀ b,(sepA [sepA Lc]).fp b→H b=none) {r:τ} (hm:Z8h N y s0 y2=some r):Tot Tryz.prog 94 #[.func (.yield lyl) #[] #[],PT b1] w0 (λv w'=>∃ (H':PH) (Lcq:List HA),v=.tuple #[]∧C r H' Lcq∧ExtM w0 (sepA [sepA Lc]).fp H H'∧H'.le w'∧(∀ b,(sepA [sepA Lcq]).fp b→H' b=none)∧Mut w0 (sepA [sepA Lc]) (sepA [sepA Lcq]) w'):=by
 unfold Z8h at hm
 refine fn0 func94 rfl ntmps94 rfl rfl λa o=>?_
 have u:=Cp hH hO hD
 refine th<|rg<|qv o (Ag o Tryz.isAgg46 rfl (PH.le.cell (Lds.le u.ld) (Gi P3 rfl))) λo=>qv o (Ak (α:=api_Stmt) (xs:=y2) o runUnderlying46 rfl) λo=>qm o rfl λo=>re<|tn<|wb<|lp (α:=Nat×Int×τ) (λgh a w=>match gh with | (M0,E0,C2)=>∃ (V0:PH) (LcA4:List HA),(Z8o N y y2) M0 E0 C2=some r∧ExtM w0 (sepA [sepA Lc]).fp H V0∧Fr 64 [(0,.func (.yield lyl) #[] #[]),(6,SL oa3 y2 cap4),(7,i6 (y2.length:Int)),(8,i6 E0)] a∧St w0 (sepA [sepA Lc]).fp [V0] [sepA LcA4] w∧C C2 V0 LcA4) (λgh=>gh.1) (N,0,s0) ⟨H,Lc,hm,(ExtM.refl _ _ _),o.hs,u,hC⟩ ?_
 rintro ⟨M0,E0,C2⟩ a w ⟨V0,LcA4,hm,F0,o,u,hCA5⟩
 obtain _ | M0:=M0
 simp [Z8o] at hm
 rw [Z8o] at hm
 refine th<|rg<|qv o (Ao o rfl rfl) λo=>re<|?_
 rcases bip hm with ⟨E2,hm⟩ | ⟨E2,hm⟩
 refine tn<|th<|ctv o rfl E2<|wk<|tn<|th<|wb<|th<|?_
 obtain ⟨C0,F2,hm⟩:=bs hm
 obtain ⟨W3,Q3,Y2⟩:=SR.get T2 F2
 obtain ⟨W0,R0,X0,S0,rfl,G2,I2,A3,B3⟩:=Bm Q3
 refine rg<|qv o (Am o Tryz.runUnderlying46 Tryz.sizeOf51 rfl rfl F2 (SR.oaI T2 (by decide) F2)) λo=>qv o (Ay o isAgg51 sizeOf51 rfl rfl (λj v hj=>PH.le.cell (λb o hx=>(Lds.le u.ld) b o (F0.sub b o hx)) (Y2 j v hj))) λo=>ls<|Au (cs:=[i6 0,Ac [],Ac [],.slice none 0 0,.slice none 0 0,i6 0,i6 0,i6 0,i6 0].toArray) o rfl u zeroValue51 rfl λQ0 w a u o=>ls<|Az o u sizeOf51 rfl rfl rfl rfl (Al rfl) .head λw u=>re<|tn<|th<|th<|Av (λa w=>∃ (J2:Bool) (u0:τ) (D0:PH) (LcB4:List HA),(Z8i N (Z8o N y y2 M0) y C0 E0) J2 u0=some r∧ExtM w0 (sepA [sepA Lc]).fp V0 D0∧Fr 64 [(0,.func (.yield lyl) #[] #[]),(4,PT Q0),(6,SL oa3 y2 cap4),(7,i6 (y2.length:Int)),(8,i6 E0),(25,.bool J2)] a∧St w0 (sepA [sepA Lc]).fp [D0] [bk Q0 [i6 C0.Kind,Ac C0.Reg,Ac C0.Name,SL W0 C0.E R0,SL X0 C0.F S0,i6 C0.N,i6 C0.Body,i6 C0.Else,i6 C0.At] 51,sepA LcB4] w∧C u0 D0 LcB4) ?_ ?_
 rcases bip hm with ⟨G1,hm⟩ | ⟨G1,hm⟩
 obtain ⟨U2,R3,hm⟩:=bs hm
 refine rg<|qv o (Af o Cn rfl) λo=>qv o (Ag o isAgg9 rfl (u.ld.cellB t0 rfl)) λo=>qv o (Cx (m:=C0.Reg) (n:=[]) o rfl rfl) λo=>qv o (Ar (Ab o rfl) (congrArg Value.bool G1)) λo=>qg o (Ab o rfl) λo=>qg o (Af o Cn rfl) λo=>qg o (Ag o isAgg9 rfl (u.ld.cellB t0 rfl)) λo=>qg o (Af o Es rfl) λo=>qg o (Ag o isAgg3 rfl (u.ld.cellB t0 rfl)) λo=>ls<|gy o rfl rfl<|Bh (e:=3) (sz:=1) [i6 5] o rfl u rfl rfl rfl (λw=>by kernel_rfl) λB1 w a u o=>?_
 have C3:Rows (α:=Int) V0 [i6 5] ([5]:List Int):=(.cons (c:=[i6 5]) rfl .nil)
 refine qg o (Bp [Ac C0.Reg,i6 C0.At,.slice (some ⟨B1,0,none⟩) ([5]:List Int).length 1] [Ac C0.Reg,i6 C0.At,.slice (some ⟨B1,0,none⟩) ([5]:List Int).length 1] o ⟨rfl,rfl,rfl,trivial⟩ (λw=>by kernel_rfl)) λo=>?_
 obtain ⟨H30,K2,D3,E3,u⟩:=St.frzSM u .head C3
 refine Yy (Ho o rfl rfl)<|ly (vs:=[.agg #[Ac C0.Reg,i6 C0.At,.slice (some ⟨B1,0,none⟩) ([5]:List Int).length 1]]) o rfl rfl ⟨rfl,trivial⟩ hy u t1 (hCm _ _ _ _ K2.sub hCA5) ⟨[Ac C0.Reg,i6 C0.At,.slice (some ⟨B1,0,none⟩) ([5]:List Int).length 1],rfl,(show Enc.rep (α:=legal_use) H30 [Ac C0.Reg,i6 C0.At,.slice (some ⟨B1,0,none⟩) ([5]:List Int).length 1] (legal_use.mk C0.Reg C0.At ([5]:List Int)) from ⟨_,_,rfl,rfl,⟨_,_,rfl,rfl,⟨_,_,rfl,E3,D3⟩⟩⟩)⟩ R3 (λa w H36 Lc35 hC34 F3 hU o=>?_)
 replace u:=hU _ (.tail .head)
 refine qg o (Ba o rfl) λo=>qv o (Ad o rfl rfl) λo=>re<|tn<|?_
 exact ⟨(!U2.2),U2.1,H36,Lc35,hm,(ExtM.trans K2 F3),o.hs,u,hC34⟩
 refine rg<|qv o (Af o Cn rfl) λo=>qv o (Ag o isAgg9 rfl (u.ld.cellB t0 rfl)) λo=>qv o (Cx (m:=C0.Reg) (n:=[]) o rfl rfl) λo=>qv o (Ar (Ab o rfl) (congrArg Value.bool G1)) λo=>?_
 iterate 9 refine qn o λo=>?_
 refine qv o (Ae o rfl rfl) λo=>re<|tn<|?_
 exact ⟨false,C2,V0,LcA4,hm,(ExtM.refl _ _ _),o.hs,u,hCA5⟩
 rintro a w ⟨J2,u0,D0,LcB4,hm,K0,o,u,hCB5⟩
 unfold Z8i at hm
 rcases bit hm with ⟨I1,hm⟩ | ⟨I1,hm⟩
 refine ctv o rfl I1<|wr<|tr<|br<|tr<|tr<|br<|?_
 obtain rfl:=si hm
 exact r0 o results94 ⟨D0,LcB4,rfl,hCB5,(ExtM.trans F0 K0),(St.le u),(St.disL (u.pickL (.cons (.tail .head) .nil))),(u.pickL (.cons (.tail .head) .nil)).endMut⟩
 refine cfv o rfl I1<|wk<|tn<|th<|rg<|ls<|Bh (e:=3) (sz:=1) [i6 1,i6 2] o rfl u rfl rfl rfl (λw=>by kernel_rfl) λC1 w a u o=>?_
 have G3:Rows (α:=Int) D0 [i6 1,i6 2] ([1,2]:List Int):=(.cons (c:=[i6 1]) rfl (.cons (c:=[i6 2]) rfl .nil))
 refine qa o rfl λo=>re<|tn<|th<|th<|rg<|qv o (Af o Cj rfl) λo=>qv o (Ag o isAgg3 rfl (u.ld.cellB t1 rfl)) λo=>re<|tn<|Av (λa w=>∃ (O0:(List Int)) (j0:τ) (P0:Option Addr) (G0:Nat) (J1:List Value) (LcB13:List HA),(Z8j N (Z8o N y y2 M0) y C0 E0) O0 j0=some r∧Fr 64 [(0,.func (.yield lyl) #[] #[]),(4,PT Q0),(5,SL P0 O0 G0),(6,SL oa3 y2 cap4),(7,i6 (y2.length:Int)),(8,i6 E0)] a∧St w0 (sepA [sepA Lc]).fp [D0] [bk Q0 [i6 C0.Kind,Ac C0.Reg,Ac C0.Name,SL W0 C0.E R0,SL X0 C0.F S0,i6 C0.N,i6 C0.Body,i6 C0.Else,i6 C0.At] 51,sla 3 1 P0 O0.length G0 J1,sepA LcB13] w∧Rows D0 J1 O0∧C j0 D0 LcB13) ?_ ?_
 refine wb<|th<|th<|rg<|qv o (An o rfl rfl) λo=>qa o rfl λo=>re<|tn<|Av (λa w=>∃ (M2:Bool) (Y0:τ) (LcC3:List HA),(Z8k (Z8j N (Z8o N y y2 M0) y C0 E0) C0) M2 Y0=some r∧Fr 64 [(0,.func (.yield lyl) #[] #[]),(4,PT Q0),(5,.slice (some ⟨C1,0,none⟩) ([1,2]:List Int).length 2),(6,SL oa3 y2 cap4),(7,i6 (y2.length:Int)),(8,i6 E0),(28,i6 C0.Kind),(29,.bool M2)] a∧St w0 (sepA [sepA Lc]).fp [D0] [bk Q0 [i6 C0.Kind,Ac C0.Reg,Ac C0.Name,SL W0 C0.E R0,SL X0 C0.F S0,i6 C0.N,i6 C0.Body,i6 C0.Else,i6 C0.At] 51,sla 3 1 (some ⟨C1,0,none⟩) ([1,2]:List Int).length 2 [i6 1,i6 2],sepA LcC3] w∧C Y0 D0 LcC3) ?_ ?_
 rcases bip hm with ⟨M1,hm⟩ | ⟨M1,hm⟩
 refine ctv o rfl M1<|wk<|tn<|?_
 replace u:=u.pk [1,0,0] rfl
 exact ⟨(decide (C0.Kind=5)),u0,LcB4,hm,o.hs,u,hCB5⟩
 refine cfv o rfl M1<|rg<|qv o (An o rfl rfl) λo=>qa o rfl λo=>re<|tn<|?_
 replace u:=u.pk [1,0,0] rfl
 exact ⟨(decide (C0.Kind=6)),u0,LcB4,hm,o.hs,u,hCB5⟩
 rintro a w ⟨M2,Y0,LcC3,hm,o,u,hCC4⟩
 unfold Z8k at hm
 rcases bit hm with ⟨O1,hm⟩ | ⟨O1,hm⟩
 refine ctv o rfl O1<|rg<|ls<|Bh (e:=3) (sz:=1) [i6 1] o rfl u rfl rfl rfl (λw=>by kernel_rfl) λS3 w a u o=>?_
 have I3:Rows (α:=Int) D0 [i6 1] ([1]:List Int):=(.cons (c:=[i6 1]) rfl .nil)
 refine qa o rfl λo=>re<|bn<|tn<|?_
 replace u:=u.pk [1,0,1] rfl
 exact ⟨([1]:List Int),Y0,(some ⟨S3,0,none⟩),1,[i6 1],LcC3,hm,o.hs,u,I3,hCC4⟩
 refine cfv o rfl O1<|th<|th<|rg<|qv o (An o rfl rfl) λo=>qa o rfl λo=>re<|tn<|Av (λa w=>∃ (O2:Bool) (E1:τ) (LcC7:List HA),(Z8l (Z8j N (Z8o N y y2 M0) y C0 E0)) O2 E1=some r∧Fr 64 [(0,.func (.yield lyl) #[] #[]),(4,PT Q0),(5,.slice (some ⟨C1,0,none⟩) ([1,2]:List Int).length 2),(6,SL oa3 y2 cap4),(7,i6 (y2.length:Int)),(8,i6 E0),(33,.bool O2)] a∧St w0 (sepA [sepA Lc]).fp [D0] [bk Q0 [i6 C0.Kind,Ac C0.Reg,Ac C0.Name,SL W0 C0.E R0,SL X0 C0.F S0,i6 C0.N,i6 C0.Body,i6 C0.Else,i6 C0.At] 51,sla 3 1 (some ⟨C1,0,none⟩) ([1,2]:List Int).length 2 [i6 1,i6 2],sepA LcC7] w∧C E1 D0 LcC7) ?_ ?_
 rcases bip hm with ⟨P1,hm⟩ | ⟨P1,hm⟩
 refine ctv o rfl P1<|wk<|tn<|?_
 exact ⟨(decide (C0.Kind=9)),Y0,LcC3,hm,o.hs,u,hCC4⟩
 refine cfv o rfl P1<|rg<|qv o (An o rfl rfl) λo=>qa o rfl λo=>re<|tn<|?_
 exact ⟨(decide (C0.Kind=10)),Y0,LcC3,hm,o.hs,u,hCC4⟩
 rintro a w ⟨O2,E1,LcC7,hm,o,u,hCC8⟩
 unfold Z8l at hm
 rcases bit hm with ⟨Q1,hm⟩ | ⟨Q1,hm⟩
 refine ctv o rfl Q1<|rg<|ls<|Bh (e:=3) (sz:=1) [i6 3] o rfl u rfl rfl rfl (λw=>by kernel_rfl) λT3 w a u o=>?_
 have J3:Rows (α:=Int) D0 [i6 3] ([3]:List Int):=(.cons (c:=[i6 3]) rfl .nil)
 refine qa o rfl λo=>re<|bn<|tn<|?_
 replace u:=u.pk [1,0,1] rfl
 exact ⟨([3]:List Int),E1,(some ⟨T3,0,none⟩),1,[i6 3],LcC7,hm,o.hs,u,J3,hCC8⟩
 refine cfv o rfl Q1<|wk<|bn<|tn<|?_
 exact ⟨([1,2]:List Int),E1,(some ⟨C1,0,none⟩),2,[i6 1,i6 2],LcC7,hm,o.hs,u,G3,hCC8⟩
 rintro a w ⟨O0,j0,P0,G0,J1,LcB13,hm,o,u,R2,hCB14⟩
 unfold Z8j at hm
 refine th<|th<|Av (λa w=>∃ (R1:Bool) (S1:τ) (T0:PH) (LcB18:List HA),(Z8m N (Z8o N y y2 M0) y C0 E0) R1 S1=some r∧ExtM w0 (sepA [sepA Lc]).fp D0 T0∧Fr 64 [(0,.func (.yield lyl) #[] #[]),(4,PT Q0),(6,SL oa3 y2 cap4),(7,i6 (y2.length:Int)),(8,i6 E0),(50,.bool R1)] a∧St w0 (sepA [sepA Lc]).fp [T0] [bk Q0 [i6 C0.Kind,Ac C0.Reg,Ac C0.Name,SL W0 C0.E R0,SL X0 C0.F S0,i6 C0.N,i6 C0.Body,i6 C0.Else,i6 C0.At] 51,sepA LcB18] w∧C S1 T0 LcB18) ?_ ?_
 rcases bip hm with ⟨T1,hm⟩ | ⟨T1,hm⟩
 obtain ⟨V2,U3,hm⟩:=bs hm
 refine rg<|qv o (Af o Db rfl) λo=>qv o (Ag o isAgg9 rfl (u.ld.cellB t0 rfl)) λo=>qv o (Cx (m:=C0.Name) (n:=[]) o rfl rfl) λo=>qv o (Ar (Ab o rfl) (congrArg Value.bool T1)) λo=>qg o (Ab o rfl) λo=>qg o (Af o Db rfl) λo=>qg o (Ag o isAgg9 rfl (u.ld.cellB t0 rfl)) λo=>qg o (Af o Es rfl) λo=>qg o (Ag o isAgg3 rfl (u.ld.cellB t0 rfl)) λo=>qg o (Ab o rfl) λo=>qg o (Bp [Ac C0.Name,i6 C0.At,SL P0 O0 G0] [Ac C0.Name,i6 C0.At,SL P0 O0 G0] o ⟨rfl,rfl,rfl,trivial⟩ (λw=>by kernel_rfl)) λo=>?_
 obtain ⟨H55,P2,K3,L3,u⟩:=St.frzSM u (.tail .head) R2
 refine Yy (Ho o rfl rfl)<|ly (vs:=[.agg #[Ac C0.Name,i6 C0.At,SL P0 O0 G0]]) o rfl rfl ⟨rfl,trivial⟩ hy u t1 (hCm _ _ _ _ P2.sub hCB14) ⟨[Ac C0.Name,i6 C0.At,SL P0 O0 G0],rfl,(show Enc.rep (α:=legal_use) H55 [Ac C0.Name,i6 C0.At,SL P0 O0 G0] (legal_use.mk C0.Name C0.At O0) from ⟨_,_,rfl,rfl,⟨_,_,rfl,rfl,⟨_,_,rfl,L3,K3⟩⟩⟩)⟩ U3 (λa w H61 Lc60 hC59 M3 hU o=>?_)
 replace u:=hU _ (.tail .head)
 refine qg o (Ba o rfl) λo=>qv o (Ad o rfl rfl) λo=>re<|tn<|?_
 exact ⟨(!V2.2),V2.1,H61,Lc60,hm,(ExtM.trans P2 M3),o.hs,u,hC59⟩
 refine rg<|qv o (Af o Db rfl) λo=>qv o (Ag o isAgg9 rfl (u.ld.cellB t0 rfl)) λo=>qv o (Cx (m:=C0.Name) (n:=[]) o rfl rfl) λo=>qv o (Ar (Ab o rfl) (congrArg Value.bool T1)) λo=>?_
 iterate 9 refine qn o λo=>?_
 refine qv o (Ae o rfl rfl) λo=>re<|tn<|?_
 replace u:=u.pk [0,1] rfl
 exact ⟨false,j0,D0,LcB13,hm,(ExtM.refl _ _ _),o.hs,u,hCB14⟩
 rintro a w ⟨R1,S1,T0,LcB18,hm,J0,o,u,hCB19⟩
 unfold Z8m at hm
 rcases bit hm with ⟨U1,hm⟩ | ⟨U1,hm⟩
 refine ctv o rfl U1<|wr<|tr<|br<|tr<|tr<|br<|?_
 obtain rfl:=si hm
 exact r0 o results94 ⟨T0,LcB18,rfl,hCB19,(ExtM.trans F0 (ExtM.trans K0 J0)),(St.le u),(St.disL (u.pickL (.cons (.tail .head) .nil))),(u.pickL (.cons (.tail .head) .nil)).endMut⟩
 refine cfv o rfl U1<|wk<|tn<|th<|Av (λa w=>∃ (V1:Bool) (n0:τ) (U0:PH) (LcB23:List HA),(Z8n (Z8o N y y2 M0) E0) V1 n0=some r∧ExtM w0 (sepA [sepA Lc]).fp T0 U0∧Fr 64 [(0,.func (.yield lyl) #[] #[]),(6,SL oa3 y2 cap4),(7,i6 (y2.length:Int)),(8,i6 E0),(62,.bool V1)] a∧St w0 (sepA [sepA Lc]).fp [U0] [sepA LcB23] w∧C n0 U0 LcB23) ?_ ?_
 obtain ⟨Q2,W2,hm⟩:=bs hm
 rcases bit hm with ⟨X1,hm⟩ | ⟨X1,hm⟩
 have X1':(!Q2.1)=false:=by rw [X1];rfl
 obtain ⟨X2,V3,hm⟩:=bs hm
 refine rg<|qv o (Af o Dp rfl) λo=>qv o (Ag o isAgg49 rfl (u.ld.cellB t0 rfl)) λo=>qm o rfl λo=>?_
 replace u:=u.pk [1,0] rfl
 replace u:=St.sep [sepA LcB18] u
 refine ls<|c1 o rfl call95 (Vv (St.le u) G2 (I2.mono (cp (cp J0.sub K0.sub) F0.sub)) hy hCm hCB19 (St.sepOk u) (St.sepDis u) W2) ⟨rfl,rfl,rfl,trivial⟩ (λv w a hR o=>?_)
 obtain ⟨H68,Lc69,rfl,hC70,I0,Y1,hd67,hk⟩:=hR
 obtain ⟨u,I0⟩:=And.intro (St.mutH u hk I0 Y1 hd67) (St.extcMM u I0)
 replace u:=u.unsep
 refine qv o (Ba o rfl) λo=>qv o (Ar (Ab o rfl) (congrArg Value.bool X1')) λo=>qg o (Af o Gy rfl) λo=>qg o (Ag o isAgg49 rfl (u.ld.cellB t1 rfl)) λo=>qg o (Ab o rfl) λo=>?_
 replace u:=u.pk [0,0] rfl
 replace u:=St.sep [sepA Lc69] u
 refine ls<|gy o rfl rfl<|c1 o rfl call95 (Vv (St.le u) A3 (B3.mono (cp (cp (cp I0.sub J0.sub) K0.sub) F0.sub)) hy hCm hC70 (St.sepOk u) (St.sepDis u) V3) ⟨rfl,rfl,rfl,trivial⟩ (λv w a hR o=>?_)
 obtain ⟨H77,Lc78,rfl,hC79,p0,O3,hd76,hk⟩:=hR
 obtain ⟨u,p0⟩:=And.intro (St.mutH u hk p0 O3 hd76) (St.extcMM u p0)
 replace u:=u.unsep
 refine qg o (Ba o rfl) λo=>qv o (Ae o rfl rfl) λo=>re<|tn<|?_
 replace u:=u.pk [0] rfl
 exact ⟨(!X2.1),X2.2,H77,Lc78,hm,(ExtM.trans I0 p0),o.hs,u,hC79⟩
 have X1':(!Q2.1)=true:=by rw [X1];rfl
 refine rg<|qv o (Af o Dp rfl) λo=>qv o (Ag o isAgg49 rfl (u.ld.cellB t0 rfl)) λo=>qm o rfl λo=>?_
 replace u:=u.pk [1,0] rfl
 replace u:=St.sep [sepA LcB18] u
 refine ls<|c1 o rfl call95 (Vv (St.le u) G2 (I2.mono (cp (cp J0.sub K0.sub) F0.sub)) hy hCm hCB19 (St.sepOk u) (St.sepDis u) W2) ⟨rfl,rfl,rfl,trivial⟩ (λv w a hR o=>?_)
 obtain ⟨H68,Lc69,rfl,hC70,I0,Y1,hd67,hk⟩:=hR
 obtain ⟨u,I0⟩:=And.intro (St.mutH u hk I0 Y1 hd67) (St.extcMM u I0)
 replace u:=u.unsep
 refine qv o (Ba o rfl) λo=>qv o (Ar (Ab o rfl) (congrArg Value.bool X1')) λo=>?_
 iterate 5 refine qn o λo=>?_
 refine qv o (Ad o rfl rfl) λo=>re<|tn<|?_
 replace u:=u.pk [0] rfl
 exact ⟨true,Q2.2,H68,Lc69,hm,I0,o.hs,u,hC70⟩
 rintro a w ⟨V1,n0,U0,LcB23,hm,F1,o,u,hCB24⟩
 unfold Z8n at hm
 rcases bit hm with ⟨B2,hm⟩ | ⟨B2,hm⟩
 refine ctv o rfl B2<|wr<|br<|tr<|tr<|br<|?_
 obtain rfl:=si hm
 exact r0 o results94 ⟨U0,LcB23,rfl,hCB24,(ExtM.trans F0 (ExtM.trans K0 (ExtM.trans J0 F1))),(St.le u),(St.disL (u.pickL (.cons .head .nil))),(u.pickL (.cons .head .nil)).endMut⟩
 refine cfv o rfl B2<|wk<|bn<|tn<|rg<|qv o (Ap o rfl rfl) λo=>qm o rfl λo=>re<|tn<|?_
 exact ⟨(M0,(IntKind.i64.wrap (E0+1)),n0),⟨U0,LcB23,hm,(ExtM.trans F0 (ExtM.trans K0 (ExtM.trans J0 F1))),o.hs,u,hCB24⟩,Nat.lt_succ_self _⟩
 refine tn<|th<|cfv o rfl E2<|we<|tx<|tx<|bx<|?_
 obtain rfl:=si hm
 exact r0n o results94 ⟨V0,LcA4,rfl,hCA5,F0,(St.le u),(St.disL (u.pickL (.cons .head .nil))),(u.pickL (.cons .head .nil)).endMut⟩
theorem JaF (hH:H.le w0) {G0:Option Addr} {D0:Nat} {p1:(List Int)} (_:p1.length≤D0) (J0:SR H G0 p1) {p6:Int} {r:Int} (hm:Zav N p1 p6=some r):Tot Tryz.prog 96 #[SL G0 p1 D0,i6 p6] w0 (λv w'=>v=i6 r∧Keep Nil w0 w'):=by
 unfold Zav at hm
 refine fn0 func96 rfl ntmps96 rfl rfl λa o=>?_
 have u:St w0 Nil [H] [] w0:=start1 hH
 refine th<|rg<|qa o rfl λo=>re<|tn<|th<|th<|rg<|qm o rfl λo=>qv o (Ak (α:=Int) (xs:=p1) o runUnderlying42 rfl) λo=>qm o rfl λo=>re<|tn<|Av (λa w=>Zaw=some r∧Fr 19 [] a∧St w0 Nil [H] [] w) ?_ ?_
 refine wb<|lp (α:=Nat×Int) (λgh a w=>match gh with | (C0,F0)=>(Zax N Zaw p1 p6) C0 F0=some r∧Fr 19 [(0,SL G0 p1 D0),(1,i6 p6),(7,i6 (p1.length:Int)),(8,i6 F0)] a∧St w0 Nil [H] [] w) (λgh=>gh.1) (N,0) ⟨hm,o.hs,u⟩ ?_
 rintro ⟨C0,F0⟩ a w ⟨hm,o,u⟩
 obtain _ | C0:=C0
 simp [Zax] at hm
 rw [Zax] at hm
 refine th<|rg<|qv o (Ao o rfl rfl) λo=>re<|?_
 rcases bip hm with ⟨I0,hm⟩ | ⟨I0,hm⟩
 refine tn<|th<|ctv o rfl I0<|wk<|tn<|th<|wb<|th<|rg<|qm o rfl λo=>qa o rfl λo=>re<|tn<|th<|?_
 obtain ⟨M0,h9,hm⟩:=bs hm
 obtain ⟨O0,P0,K0⟩:=SR.get J0 h9
 obtain rfl:O0=[i6 M0]:=P0
 refine rg<|qm o rfl λo=>?_
 iterate 2 refine qm o rfl λo=>?_
 refine qv o (Am o runUnderlying42 sizeOf3 rfl rfl h9 (SR.oaI J0 (by decide) h9)) λo=>qv o (Ag o isAgg3 rfl (PH.le.cell (Lds.le u.ld) (K0 0 _ rfl))) λo=>qv o (An o rfl rfl) λo=>re<|?_
 rcases bip hm with ⟨E0,hm⟩ | ⟨E0,hm⟩
 refine tn<|ctv o rfl E0<|th<|rg<|qm o rfl λo=>qa o rfl λo=>re<|tn<|wr<|br<|tr<|tr<|br<|tr<|?_
 obtain rfl:=si hm
 exact r1 o results96 rfl ⟨rfl,u.keep⟩
 refine tn<|cfv o rfl E0<|wk<|bn<|tn<|rg<|qv o (Ap o rfl rfl) λo=>qm o rfl λo=>re<|tn<|?_
 exact ⟨(C0,(IntKind.i64.wrap (F0+1))),⟨hm,o.hs,u⟩,Nat.lt_succ_self _⟩
 refine tn<|th<|cfv o rfl I0<|we<|tx<|tx<|bx<|tn<|?_
 exact ⟨hm,o.has trivial,u⟩
 rintro a w ⟨hm,o,u⟩
 unfold Zaw at hm
 refine th<|rg<|qa o rfl λo=>re<|tn<|wr<|?_
 obtain rfl:=si hm
 exact r1 o results96 rfl ⟨rfl,u.keep⟩
theorem JbF (hH:H.le w0) {D0:Option Addr} {C0:Nat} {p1:(List Int)} (E0:p1.length≤C0) (F0:SR H D0 p1) {p6:Int} {r:Bool} (hm:Za0 N p1 p6=some r):Tot Tryz.prog 56 #[SL D0 p1 C0,i6 p6] w0 (λv w'=>v=.bool r∧Keep Nil w0 w'):=by
 unfold Za0 at hm
 refine fn0 func56 rfl ntmps56 rfl rfl λa o=>?_
 have u:St w0 Nil [H] [] w0:=start1 hH
 refine th<|rg<|qa o rfl λo=>re<|tn<|th<|?_
 obtain ⟨G0,h8,hm⟩:=bs hm
 refine rg<|qm o rfl λo=>qm o rfl λo=>ls<|cr o call96 (JaF (Ai _) E0 (St.srH u F0) h8) u λu o=>qv o (Bl o rfl rfl) λo=>qa o rfl λo=>re<|tn<|wr<|?_
 obtain rfl:=si hm
 exact r1 o results56 rfl ⟨rfl,u.keep⟩
set_option maxHeartbeats 4000000 in
theorem Iv (hH:H.le w0) (hT:Tab H) {cs2:List Value} {p1:api_Prog} (g3:Enc.rep H cs2 p1) {r:(Int×Int)} (hm:Z76 N p1=some r):Tot Tryz.prog 16 #[.agg cs2.toArray] w0 (λv w'=>v=.tuple #[i6 r.1,i6 r.2]∧Keep Nil w0 w'):=by
 unfold Z76 at hm
 refine fnM func16 rfl ntmps16 rfl rfl λa o=>?_
 have u:St w0 Nil [H] [] w0:=start1 hH
 replace u:=St.ds0 u
 obtain ⟨V0,M0,W0,O0,P0,F0,Q0,G0,R0,I0,J0,C0,rfl,F2,G2,F1,G1,I1,J1,M1,O1,P1,Q1,R1,Y0⟩:=Aq g3
 refine th<|rg<|ls<|Br (cs:=[SL V0 p1.Lines M0,SL W0 p1.Vols O0,SL P0 p1.Locks F0,SL Q0 p1.Threads G0,SL R0 p1.Recover I0,SL J0 p1.Claims C0].toArray) o rfl u rfl rfl λS0 w a u o=>ls<|Au (cs:=[i6 0].toArray) o rfl u zeroValue29 rfl λD0 w a u o=>ls<|Au (cs:=[i6 0].toArray) o rfl u zeroValue3 rfl λE0 w a u o=>re<|tn<|th<|?_
 obtain ⟨T0,Y5,hm⟩:=bs hm
 refine rg<|qv o (Ay o Tryz.isAgg27 Tryz.sizeOf27 rfl rfl (u.ld.cellsB t2)) λo=>ls<|c1 o rfl call49 (Jbf (Ai _) (Enc.mono (St.up u) (show Enc.rep (α:=api_Prog) H [SL V0 p1.Lines M0,SL W0 p1.Vols O0,SL P0 p1.Locks F0,SL Q0 p1.Threads G0,SL R0 p1.Recover I0,SL J0 p1.Claims C0] p1 from ⟨_,_,rfl,⟨_,_,rfl,F2,G2⟩,⟨_,_,rfl,⟨_,_,rfl,F1,G1⟩,⟨_,_,rfl,⟨_,_,rfl,I1,J1⟩,⟨_,_,rfl,⟨_,_,rfl,M1,O1⟩,⟨_,_,rfl,⟨_,_,rfl,P1,Q1⟩,⟨_,_,rfl,R1,Y0⟩⟩⟩⟩⟩⟩)) Y5) ⟨rfl,trivial⟩ (λv w a hR o=>?_)
 obtain ⟨m33,j0,n0,rfl,C3,hk⟩:=hR
 replace u:=u.fresh hk
 refine qm o rfl λo=>?_
 iterate 3 refine qv o (Cd o rfl rfl) λo=>?_
 iterate 3 refine qa o rfl λo=>?_
 refine re<|tn<|th<|wb<|th<|?_
 obtain ⟨n6,d5,hm⟩:=bs hm
 refine rg<|qv o (Ay o Tryz.isAgg27 Tryz.sizeOf27 rfl rfl (u.ld.cellsB t3)) λo=>ls<|cr o call50 (JaM (Ai _) (Tab.mono hT (St.up u)) (Enc.mono (St.up u) (show Enc.rep (α:=api_Prog) H [SL V0 p1.Lines M0,SL W0 p1.Vols O0,SL P0 p1.Locks F0,SL Q0 p1.Threads G0,SL R0 p1.Recover I0,SL J0 p1.Claims C0] p1 from ⟨_,_,rfl,⟨_,_,rfl,F2,G2⟩,⟨_,_,rfl,⟨_,_,rfl,F1,G1⟩,⟨_,_,rfl,⟨_,_,rfl,I1,J1⟩,⟨_,_,rfl,⟨_,_,rfl,M1,O1⟩,⟨_,_,rfl,⟨_,_,rfl,P1,Q1⟩,⟨_,_,rfl,R1,Y0⟩⟩⟩⟩⟩⟩)) d5) u λu o=>qv o (Ba o rfl) λo=>qa o rfl λo=>re<|?_
 rcases bit hm with ⟨D3,hm⟩ | ⟨D3,hm⟩
 refine tn<|cfv o rfl (by rw [D3];rfl)<|th<|?_
 obtain ⟨u6,j5,hm⟩:=bs hm
 refine rg<|qv o (Ay o Tryz.isAgg27 Tryz.sizeOf27 rfl rfl (u.ld.cellsB t3)) λo=>ls<|cr o call51 (JaI (Ai _) (Enc.mono (St.up u) (show Enc.rep (α:=api_Prog) H [SL V0 p1.Lines M0,SL W0 p1.Vols O0,SL P0 p1.Locks F0,SL Q0 p1.Threads G0,SL R0 p1.Recover I0,SL J0 p1.Claims C0] p1 from ⟨_,_,rfl,⟨_,_,rfl,F2,G2⟩,⟨_,_,rfl,⟨_,_,rfl,F1,G1⟩,⟨_,_,rfl,⟨_,_,rfl,I1,J1⟩,⟨_,_,rfl,⟨_,_,rfl,M1,O1⟩,⟨_,_,rfl,⟨_,_,rfl,P1,Q1⟩,⟨_,_,rfl,R1,Y0⟩⟩⟩⟩⟩⟩)) j5) u λu o=>qa o rfl λo=>re<|?_
 rcases bit hm with ⟨E3,hm⟩ | ⟨E3,hm⟩
 refine tn<|ctv o rfl E3<|th<|rg<|ls<|Ax o u Tryz.sizeOf29 rfl rfl rfl rfl (.tail (.tail .head)) .zero λw u=>ls<|Ax o u sizeOf3 rfl rfl rfl rfl (.tail .head) .zero λw u=>re<|tn<|wr<|br<|tr<|?_
 obtain rfl:=si hm
 replace u:=u.pk [4,0,0,0,0] rfl
 exact rM (.inl rfl) o u λw u=>⟨_,Jw o rfl rfl rfl isAgg29 isAgg3 (u.ld.cellB t2 rfl) (u.ld.cellB t1 rfl),⟨rfl,u.keep⟩⟩
 refine tn<|cfv o rfl E3<|wk<|bn<|tn<|th<|th<|?_
 obtain ⟨Q3,k5,hm⟩:=bs hm
 refine rg<|qv o (Ay o Tryz.isAgg27 Tryz.sizeOf27 rfl rfl (u.ld.cellsB t3)) λo=>ls<|c1 o rfl call52 (Rp (St.le u) (show Enc.rep (α:=api_Prog) H [SL V0 p1.Lines M0,SL W0 p1.Vols O0,SL P0 p1.Locks F0,SL Q0 p1.Threads G0,SL R0 p1.Recover I0,SL J0 p1.Claims C0] p1 from ⟨_,_,rfl,⟨_,_,rfl,F2,G2⟩,⟨_,_,rfl,⟨_,_,rfl,F1,G1⟩,⟨_,_,rfl,⟨_,_,rfl,I1,J1⟩,⟨_,_,rfl,⟨_,_,rfl,M1,O1⟩,⟨_,_,rfl,⟨_,_,rfl,P1,Q1⟩,⟨_,_,rfl,R1,Y0⟩⟩⟩⟩⟩⟩) k5) ⟨rfl,trivial⟩ (λv w a hR o=>?_)
 obtain ⟨H48,l4,J4,rfl,O6,B4,K0,u4,hk⟩:=hR
 obtain ⟨u,K0⟩:=And.intro (St.passH u hk K0 u4) (St.extc u K0)
 refine qv o (Ak (α:=api_Thread) (xs:=Q3) o runUnderlying24 rfl) λo=>qm o rfl λo=>re<|tn<|Av (λa w=>(Z78 N p1 T0)=some r∧Fr 128 [(1,PT S0),(2,PT D0),(3,PT E0),(4,.map (some m33)),(5,i6 T0.2.1),(6,.bool T0.2.2)] a∧St w0 Nil [H48] [bk S0 [SL V0 p1.Lines M0,SL W0 p1.Vols O0,SL P0 p1.Locks F0,SL Q0 p1.Threads G0,SL R0 p1.Recover I0,SL J0 p1.Claims C0] 27,bk D0 [i6 0] 29,bk E0 [i6 0] 3,Ch kS m33 j0 n0,dsA []] w) ?_ ?_
 replace u:=u.pk [3,2,1,0,0] rfl
 refine wb<|lp (α:=Nat×Int) (λgh a w=>match gh with | (T2,R3)=>(Z7e N (Z78 N p1 T0) Q3) T2 R3=some r∧Fr 128 [(1,PT S0),(2,PT D0),(3,PT E0),(4,.map (some m33)),(5,i6 T0.2.1),(6,.bool T0.2.2),(38,SL l4 Q3 J4),(39,i6 (Q3.length:Int)),(40,i6 R3)] a∧St w0 Nil [H48] [bk S0 [SL V0 p1.Lines M0,SL W0 p1.Vols O0,SL P0 p1.Locks F0,SL Q0 p1.Threads G0,SL R0 p1.Recover I0,SL J0 p1.Claims C0] 27,bk D0 [i6 0] 29,bk E0 [i6 0] 3,Ch kS m33 j0 n0,dsA []] w) (λgh=>gh.1) (N,0) ⟨hm,o.hs,u⟩ ?_
 rintro ⟨T2,R3⟩ a w ⟨hm,o,u⟩
 obtain _ | T2:=T2
 simp [Z7e] at hm
 rw [Z7e] at hm
 refine th<|rg<|qv o (Ao o rfl rfl) λo=>re<|?_
 rcases bip hm with ⟨F3,hm⟩ | ⟨F3,hm⟩
 refine tn<|th<|ctv o rfl F3<|wk<|tn<|th<|wb<|th<|?_
 obtain ⟨v6,C4,hm⟩:=bs hm
 obtain ⟨y6,n5,A5⟩:=SR.get B4 C4
 obtain ⟨P6,F6,Q6,G6,rfl,R6,S6,B5,C5⟩:=Aw n5
 refine rg<|qv o (Am o Tryz.runUnderlying24 Tryz.sizeOf48 rfl rfl C4 (SR.oaI B4 (by decide) C4)) λo=>qv o (Ay o isAgg48 sizeOf48 rfl rfl (λj v hj=>PH.le.cell (Lds.le u.ld) (A5 j v hj))) λo=>ls<|Au (cs:=[Ac [],.slice none 0 0,.slice none 0 0,i6 0].toArray) o rfl u zeroValue48 rfl λz6 w a u o=>ls<|Az o u sizeOf48 rfl rfl rfl rfl (Al rfl) .head λw u=>re<|tn<|th<|?_
 obtain ⟨A7,u5,hm⟩:=bs hm
 refine rg<|qv o (Af o Gm rfl) λo=>qv o (Ag o isAgg46 rfl (u.ld.cellB t0 rfl)) λo=>ls<|cr o call53 (Jbt _ (Ai _) B5 (St.srH u C5) u5) u λu o=>qm o rfl λo=>?_
 iterate 2 refine qv o (Cd o rfl rfl) λo=>?_
 iterate 2 refine qa o rfl λo=>?_
 refine re<|tn<|th<|rg<|qm o rfl λo=>re<|?_
 rcases bit hm with ⟨G3,hm⟩ | ⟨G3,hm⟩
 refine tn<|ctv o rfl G3<|th<|rg<|qm o rfl λo=>ls<|Ax o u sizeOf29 rfl rfl rfl rfl (.tail (.tail .head)) .zero λw u=>ls<|Ax o u sizeOf3 rfl rfl rfl rfl (.tail (.tail (.tail .head))) .zero λw u=>re<|tn<|wr<|br<|tr<|tr<|br<|tr<|?_
 obtain rfl:=si hm
 replace u:=u.pk [5,0,0,0,0,0] rfl
 exact rM (.inl rfl) o u λw u=>⟨_,Jw o rfl rfl rfl isAgg29 isAgg3 (u.ld.cellB t2 rfl) (u.ld.cellB t3 rfl),⟨rfl,u.keep⟩⟩
 refine tn<|cfv o rfl G3<|wk<|bn<|tn<|rg<|qv o (Ap o rfl rfl) λo=>qm o rfl λo=>re<|tn<|?_
 replace u:=u.pk [1,1,1,1,1] rfl
 exact ⟨(T2,(IntKind.i64.wrap (R3+1))),⟨hm,o.hs,u⟩,Nat.lt_succ_self _⟩
 refine tn<|th<|cfv o rfl F3<|we<|tx<|tx<|bx<|tn<|?_
 exact ⟨hm,o.hs,u⟩
 rintro a w ⟨hm,o,u⟩
 unfold Z78 at hm
 refine th<|th<|rg<|qm o rfl λo=>re<|?_
 rcases bit hm with ⟨I3,hm⟩ | ⟨I3,hm⟩
 refine tn<|ctv o rfl I3<|th<|rg<|qm o rfl λo=>ls<|Ax o u sizeOf29 rfl rfl rfl rfl (.tail .head) .zero λw u=>ls<|Ax o u sizeOf3 rfl rfl rfl rfl (.tail (.tail .head)) .zero λw u=>re<|tn<|wr<|tr<|?_
 obtain rfl:=si hm
 replace u:=u.pk [4,0,0,0,0] rfl
 exact rM (.inl rfl) o u λw u=>⟨_,Jw o rfl rfl rfl isAgg29 isAgg3 (u.ld.cellB t1 rfl) (u.ld.cellB t2 rfl),⟨rfl,u.keep⟩⟩
 refine tn<|cfv o rfl I3<|wk<|tn<|th<|th<|?_
 obtain ⟨S3,A6,hm⟩:=bs hm
 refine rg<|qv o (Ay o Tryz.isAgg27 Tryz.sizeOf27 rfl rfl (u.ld.cellsB t0)) λo=>ls<|c1 o rfl call52 (Rp (St.le u) (show Enc.rep (α:=api_Prog) H48 [SL V0 p1.Lines M0,SL W0 p1.Vols O0,SL P0 p1.Locks F0,SL Q0 p1.Threads G0,SL R0 p1.Recover I0,SL J0 p1.Claims C0] p1 from ⟨_,_,rfl,⟨_,_,rfl,F2,(G2.mono K0.sub)⟩,⟨_,_,rfl,⟨_,_,rfl,F1,(G1.mono K0.sub)⟩,⟨_,_,rfl,⟨_,_,rfl,I1,(J1.mono K0.sub)⟩,⟨_,_,rfl,⟨_,_,rfl,M1,(O1.mono K0.sub)⟩,⟨_,_,rfl,⟨_,_,rfl,P1,(Q1.mono K0.sub)⟩,⟨_,_,rfl,R1,(Y0.mono K0.sub)⟩⟩⟩⟩⟩⟩) A6) ⟨rfl,trivial⟩ (λv w a hR o=>?_)
 obtain ⟨H77,D5,K4,rfl,T6,D4,X0,E5,hk⟩:=hR
 obtain ⟨u,X0⟩:=And.intro (St.passH u hk X0 E5) (St.extc u X0)
 refine qv o (Ak (α:=api_Thread) (xs:=S3) o runUnderlying24 rfl) λo=>qm o rfl λo=>re<|tn<|Av (λa w=>(Z7a N p1 T0)=some r∧Fr 128 [(1,PT S0),(2,PT D0),(3,PT E0),(4,.map (some m33))] a∧St w0 Nil [H77] [bk S0 [SL V0 p1.Lines M0,SL W0 p1.Vols O0,SL P0 p1.Locks F0,SL Q0 p1.Threads G0,SL R0 p1.Recover I0,SL J0 p1.Claims C0] 27,bk D0 [i6 0] 29,bk E0 [i6 0] 3,Ch kS m33 j0 n0,dsA []] w) ?_ ?_
 refine wb<|lp (α:=Nat×Int) (λgh a w=>match gh with | (U2,T3)=>(Z7f N (Z7a N p1 T0) T0 S3) U2 T3=some r∧Fr 128 [(1,PT S0),(2,PT D0),(3,PT E0),(4,.map (some m33)),(56,SL D5 S3 K4),(57,i6 (S3.length:Int)),(58,i6 T3)] a∧St w0 Nil [H77] [bk S0 [SL V0 p1.Lines M0,SL W0 p1.Vols O0,SL P0 p1.Locks F0,SL Q0 p1.Threads G0,SL R0 p1.Recover I0,SL J0 p1.Claims C0] 27,bk D0 [i6 0] 29,bk E0 [i6 0] 3,Ch kS m33 j0 n0,dsA []] w) (λgh=>gh.1) (N,0) ⟨hm,o.hs,u⟩ ?_
 rintro ⟨U2,T3⟩ a w ⟨hm,o,u⟩
 obtain _ | U2:=U2
 simp [Z7f] at hm
 rw [Z7f] at hm
 refine th<|rg<|qv o (Ao o rfl rfl) λo=>re<|?_
 rcases bip hm with ⟨J3,hm⟩ | ⟨J3,hm⟩
 refine tn<|th<|ctv o rfl J3<|wk<|tn<|th<|wb<|th<|?_
 obtain ⟨V2,E4,hm⟩:=bs hm
 obtain ⟨B7,B6,F5⟩:=SR.get D4 E4
 obtain ⟨G5,L4,I5,M4,rfl,J5,K5,L5,M5⟩:=Aw B6
 refine rg<|qv o (Am o Tryz.runUnderlying24 Tryz.sizeOf48 rfl rfl E4 (SR.oaI D4 (by decide) E4)) λo=>qv o (Ay o isAgg48 sizeOf48 rfl rfl (λj v hj=>PH.le.cell (Lds.le u.ld) (F5 j v hj))) λo=>ls<|Au (cs:=[Ac [],.slice none 0 0,.slice none 0 0,i6 0].toArray) o rfl u zeroValue48 rfl λC7 w a u o=>ls<|Az o u sizeOf48 rfl rfl rfl rfl (Al rfl) .head λw u=>re<|tn<|th<|?_
 obtain ⟨D7,C6,hm⟩:=bs hm
 refine rg<|qv o (Ay o Tryz.isAgg48 Tryz.sizeOf48 rfl rfl (u.ld.cellsB t0)) λo=>qm o rfl λo=>ls<|c1 o rfl call54 (Yh (Ai _) (Enc.mono (St.up u) (show Enc.rep (α:=api_Thread) H77 [Ac V2.Name,SL G5 V2.Regs L4,SL I5 V2.Body M4,i6 V2.At] V2 from ⟨_,_,rfl,rfl,⟨_,_,rfl,⟨_,_,rfl,J5,K5⟩,⟨_,_,rfl,⟨_,_,rfl,L5,M5⟩,rfl⟩⟩⟩)) (St.mapO u t4) C3 (St.mapG u t4) C6) ⟨rfl,rfl,trivial⟩ (λv w a hR o=>?_)
 obtain ⟨vm100,A99,rfl,I6,hk⟩:=hR
 replace u:=u.fresh hk
 refine qm o rfl λo=>?_
 iterate 2 refine qv o (Cd o rfl rfl) λo=>?_
 iterate 2 refine qa o rfl λo=>?_
 refine re<|tn<|th<|rg<|qm o rfl λo=>re<|?_
 rcases bit hm with ⟨I2,hm⟩ | ⟨I2,hm⟩
 refine tn<|ctv o rfl I2<|th<|rdL (Aa t0 (Aa t1 (Aa t2 (Aa t4 (Aa t5 (Aa t6 Ah)))))) 3 u wide λw u=>ds 0 (St.ldsX u i2 (Aa t0 (Aa t1 (Aa t2 (Aa t4 (Aa t5 (Aa t6 Ah))))))) o rfl (Af o Ft rfl) λo=>dq 1 (St.ldsX u i2 (Aa t0 (Aa t1 (Aa t2 (Aa t4 (Aa t5 (Aa t6 Ah))))))) o rfl (λw hl=>Ag o isAgg3 rfl (hl.cellB t1 rfl)) λo=>da1 (i:=2) (by kernel_rfl) ?_
 refine di (i:=2) rfl<|Ax o u sizeOf29 rfl rfl rfl rfl (.tail (.tail (.tail .head))) .zero λw u=>⟨λ_=>(St.ldsX u i2 (Aa t0 (Aa t1 (Aa t2 (Aa t4 (Aa t5 (Aa t6 Ah))))))),?_⟩
 refine da1 (i:=3) (by kernel_rfl) ?_
 refine di (i:=3) rfl<|Ax o u sizeOf3 rfl rfl rfl rfl (.tail (.tail (.tail (.tail .head)))) .zero λw u=>⟨λh=>absurd rfl h,?_⟩
 refine de (by kernel_rfl)<|tn<|wr<|br<|tr<|tr<|br<|tr<|?_
 obtain rfl:=si hm
 replace u:=u.pk [6,0,0,0,0,0,0] rfl
 exact rM (.inl rfl) o u λw u=>⟨_,Jw o rfl rfl rfl isAgg29 isAgg3 (u.ld.cellB t3 rfl) (u.ld.cellB t4 rfl),⟨rfl,u.keep⟩⟩
 refine tn<|cfv o rfl I2<|wk<|bn<|tn<|rg<|qv o (Ap o rfl rfl) λo=>qm o rfl λo=>re<|tn<|?_
 replace u:=u.pk [2,2,2,2,2] rfl
 exact ⟨(U2,(IntKind.i64.wrap (T3+1))),⟨hm,o.hs,u⟩,Nat.lt_succ_self _⟩
 refine tn<|th<|cfv o rfl J3<|we<|tx<|tx<|bx<|tn<|?_
 exact ⟨hm,o.hs,u⟩
 rintro a w ⟨hm,o,u⟩
 unfold Z7a at hm
 refine th<|th<|?_
 obtain ⟨U0,O5,hm⟩:=bs hm
 refine rg<|qv o (Ay o Tryz.isAgg27 Tryz.sizeOf27 rfl rfl (u.ld.cellsB t0)) λo=>ls<|c1 o rfl call52 (Rp (St.le u) (show Enc.rep (α:=api_Prog) H77 [SL V0 p1.Lines M0,SL W0 p1.Vols O0,SL P0 p1.Locks F0,SL Q0 p1.Threads G0,SL R0 p1.Recover I0,SL J0 p1.Claims C0] p1 from ⟨_,_,rfl,⟨_,_,rfl,F2,(G2.mono (cp X0.sub K0.sub))⟩,⟨_,_,rfl,⟨_,_,rfl,F1,(G1.mono (cp X0.sub K0.sub))⟩,⟨_,_,rfl,⟨_,_,rfl,I1,(J1.mono (cp X0.sub K0.sub))⟩,⟨_,_,rfl,⟨_,_,rfl,M1,(O1.mono (cp X0.sub K0.sub))⟩,⟨_,_,rfl,⟨_,_,rfl,P1,(Q1.mono (cp X0.sub K0.sub))⟩,⟨_,_,rfl,R1,(Y0.mono (cp X0.sub K0.sub))⟩⟩⟩⟩⟩⟩) O5) ⟨rfl,trivial⟩ (λv w a hR o=>?_)
 obtain ⟨H108,B1,p0,rfl,J6,U3,C1,O4,hk⟩:=hR
 obtain ⟨u,C1⟩:=And.intro (St.passH u hk C1 O4) (St.extc u C1)
 refine qv o (Ak (α:=api_Thread) (xs:=U0) o runUnderlying24 rfl) λo=>qm o rfl λo=>re<|tn<|Av (λa w=>∃ (X1:PH) (dsA2:List Nat),(Z7b N p1 T0)=some r∧Ext w0 H108 X1∧Fr ⟨128,dsA2⟩ [(1,PT S0),(2,PT D0),(3,PT E0),(4,.map (some m33))] a∧St w0 Nil [X1] [bk S0 [SL V0 p1.Lines M0,SL W0 p1.Vols O0,SL P0 p1.Locks F0,SL Q0 p1.Threads G0,SL R0 p1.Recover I0,SL J0 p1.Claims C0] 27,bk D0 [i6 0] 29,bk E0 [i6 0] 3,Ch kS m33 j0 n0,dsA dsA2] w) ?_ ?_
 refine wb<|lp (α:=Nat×Int) (λgh a w=>match gh with | (W2,U1)=>∃ (X2:PH) (dsB5:List Nat),(Z7g N (Z7b N p1 T0) T0 U0) W2 U1=some r∧Ext w0 H108 X2∧Fr ⟨128,dsB5⟩ [(1,PT S0),(2,PT D0),(3,PT E0),(4,.map (some m33)),(73,SL B1 U0 p0),(74,i6 (U0.length:Int)),(75,i6 U1)] a∧St w0 Nil [X2] [bk S0 [SL V0 p1.Lines M0,SL W0 p1.Vols O0,SL P0 p1.Locks F0,SL Q0 p1.Threads G0,SL R0 p1.Recover I0,SL J0 p1.Claims C0] 27,bk D0 [i6 0] 29,bk E0 [i6 0] 3,Ch kS m33 j0 n0,dsA dsB5] w) (λgh=>gh.1) (N,0) ⟨H108,[],hm,(Ext.refl _ _),o.hs,u⟩ ?_
 rintro ⟨W2,U1⟩ a w ⟨X2,dsB5,hm,u0,o,u⟩
 obtain _ | W2:=W2
 simp [Z7g] at hm
 rw [Z7g] at hm
 refine th<|rg<|qv o (Ao o rfl rfl) λo=>re<|?_
 rcases bip hm with ⟨J2,hm⟩ | ⟨J2,hm⟩
 refine tn<|th<|ctv o rfl J2<|wk<|tn<|th<|wb<|th<|?_
 obtain ⟨Y1,K3,hm⟩:=bs hm
 obtain ⟨U6,P5,P4⟩:=SR.get U3 K3
 obtain ⟨Q4,F4,R4,G4,rfl,S4,T4,V3,W3⟩:=Aw P5
 refine rg<|qv o (Am o Tryz.runUnderlying24 Tryz.sizeOf48 rfl rfl K3 (SR.oaI U3 (by decide) K3)) λo=>qv o (Ay o isAgg48 sizeOf48 rfl rfl (λj v hj=>PH.le.cell (λb o hx=>(Lds.le u.ld) b o (u0.sub b o hx)) (P4 j v hj))) λo=>ls<|Au (cs:=[Ac [],.slice none 0 0,.slice none 0 0,i6 0].toArray) o rfl u zeroValue48 rfl λV6 w a u o=>ls<|Az o u sizeOf48 rfl rfl rfl rfl (Al rfl) .head λw u=>re<|tn<|th<|?_
 obtain ⟨L3,Q5,hm⟩:=bs hm
 refine rg<|qv o (Ay o Tryz.isAgg48 Tryz.sizeOf48 rfl rfl (u.ld.cellsB t0)) λo=>qm o rfl λo=>ls<|c1 o rfl call54 (Yh (Ai _) (Enc.mono (St.up u) (show Enc.rep (α:=api_Thread) X2 [Ac Y1.Name,SL Q4 Y1.Regs F4,SL R4 Y1.Body G4,i6 Y1.At] Y1 from ⟨_,_,rfl,rfl,⟨_,_,rfl,⟨_,_,rfl,S4,(T4.mono u0.sub)⟩,⟨_,_,rfl,⟨_,_,rfl,V3,(W3.mono u0.sub)⟩,rfl⟩⟩⟩)) (St.mapO u t4) C3 (St.mapG u t4) Q5) ⟨rfl,rfl,trivial⟩ (λv w a hR o=>?_)
 obtain ⟨vm131,A130,rfl,K2,hk⟩:=hR
 replace u:=u.fresh hk
 refine qm o rfl λo=>?_
 iterate 2 refine qv o (Cd o rfl rfl) λo=>?_
 refine ls<|Au (cs:=[.map none].toArray) o rfl u zeroValue75 rfl λS1 w a u o=>ls<|Ax o u sizeOf75 rfl rfl (OMap.cells K2) (OMap.one K2) .head .zero λw u=>qa o rfl λo=>re<|tn<|th<|?_
 obtain ⟨W6,R5,hm⟩:=bs hm
 refine rg<|qv o (Af o Gm rfl) λo=>qv o (Ag o isAgg46 rfl (u.ld.cellB t2 rfl)) λo=>ls<|c1 o rfl call55 (Jb1 (St.le u) V3 (W3.mono u0.sub) R5) ⟨rfl,trivial⟩ (λv w a hR o=>?_)
 obtain ⟨H139,B2,K6,D6,rfl,U4,V4,W4,V1,X4,hk⟩:=hR
 obtain ⟨u,V1⟩:=And.intro (St.passH u hk V1 X4) (St.extc u V1)
 refine re<|tn<|wb<|?_
 replace o:Fr ⟨128,dsB5⟩ [(1,PT S0),(2,PT D0),(3,PT E0),(4,.map (some m33)),(17,PT S1),(73,SL B1 U0 p0),(74,i6 (U0.length:Int)),(75,i6 U1),(87,.func (.func 94) #[] #[PT B2])] _:=o.hs
 replace u:=u.pk [7,3,3,3,3,1,0] rfl
 obtain ⟨q146,S5,hm⟩:=bs hm
 refine rf (ŝ:=q146) (lb:=[PT B2]) (ps:=[88]) (I:=λ(_:Unit) (Y2:PH) (L:List HA)=>L=[bk S0 [SL V0 p1.Lines M0,SL W0 p1.Vols O0,SL P0 p1.Locks F0,SL Q0 p1.Threads G0,SL R0 p1.Recover I0,SL J0 p1.Claims C0] 27,bk D0 [i6 0] 29,bk E0 [i6 0] 3,Ch kS m33 j0 n0,A130,bk S1 [vm131] 75]∧(∀ b o,H139 b=some o→Y2 b=some o)) (J:=λ(X3:Int) (c:Code) (I4:PH) (L:List HA)=>c=.ret∧L=[bk D0 [i6 9] 29,bk E0 [i6 X3] 3]∧(∀ b o,H139 b=some o→I4 b=some o)) (λ(s:Unit) (x:legal_use)=>(Z77 N L3) x) (λ(H:PH) (args:List Value) (x:legal_use)=>∃ (cs0:List Value),args=[.agg cs0.toArray]∧Enc.rep H cs0 x) o rfl call94 rfl (by rintro H args x ⟨_,rfl,_⟩;rfl) u ⟨rfl,i2⟩ (by rintro ⟨⟩ H Hn L hs ⟨rfl,hu⟩;exact ⟨rfl,(cp hs hu)⟩) (by rintro X3 _ H Hn L hs ⟨rfl,rfl,hu⟩;exact ⟨rfl,rfl,(cp hs hu)⟩) (λlq C Lc w1 hyc hcm hc hle hok hdis=>Kw (JbT hle hyc hcm hc V4 W4 U4 (Iq hok) (Hd hdis) S5)) ?_ ?_ ?_
 intro l X Y s Y3 r Y2 Lu args w0 a K Qr hI hex hm o u hK hN hR
 obtain ⟨rfl,hxHC1⟩:=hI
 replace hm:(Z77 N L3) Y3=some r:=hm
 unfold Z77 at hm
 obtain ⟨cs207,rfl,T5⟩:=hex
 replace o:Fr 128 [(88,.agg cs207.toArray),(1,PT S0),(2,PT D0),(3,PT E0),(4,.map (some m33)),(17,PT S1),(73,SL B1 U0 p0),(74,i6 (U0.length:Int)),(75,i6 U1),(87,.func (.func 94) #[] #[PT B2])] a:=o
 obtain ⟨L6,E6,rfl,Y4,d4⟩:=Kl T5
 refine rg<|ls<|Au (cs:=[Ac [],i6 0,.slice none 0 0].toArray) o rfl u Tryz.zeroValue87 rfl λX6 w a u o=>ls<|Az o u sizeOf87 rfl rfl rfl rfl (Al rfl) .head λw u=>re<|?_
 replace u:=u.pk [1,0,0,0,0,0,0,0] rfl
 refine tn<|hK _ _ _ _ u λw u=>wb<|th<|?_
 obtain ⟨Y6,U5,hm⟩:=bs hm
 refine rg<|qv o (Af o Yp rfl) λo=>qv o (Ag o isAgg42 rfl (u.ld.cellB t1 rfl)) λo=>qv o (Ag o isAgg75 rfl (u.ld.cellB t7 rfl)) λo=>qv o (Af o Jal rfl) λo=>qv o (Ag o isAgg9 rfl (u.ld.cellB t1 rfl)) λo=>qv o (Wq (ev:=kI) (dv:=0) (m:=L3.1) (k:=Y3.name) o Nq runUnderlying75 zeroValue3 (u.ld.ok _ t6) rfl rfl K2) λo=>ls<|cr o call56 (JbF (Ai _) Y4 (St.srH u d4) U5) u λu o=>qv o (Ba o rfl) λo=>re<|?_
 rcases bit hm with ⟨M2,hm⟩ | ⟨M2,hm⟩
 refine tn<|cfv o rfl (by rw [M2];rfl)<|wk<|bn<|?_
 obtain rfl:=si hm
 replace u:=u.pk [0,1,1,1,1,1,1] rfl
 exact hN _ _ _ _ _ rfl (ExtM.refl _ _ _) ⟨rfl,hxHC1⟩ u
 refine tn<|ctv o rfl (by rw [M2];rfl)<|th<|rdL (Aa t0 (Aa t1 (Aa t2 (Aa t4 (Aa t5 (Aa t6 (Aa t7 Ah))))))) 3 u wide λw u=>ds 0 (St.ldsX u i2 (Aa t0 (Aa t1 (Aa t2 (Aa t4 (Aa t5 (Aa t6 (Aa t7 Ah)))))))) o rfl (Af o Ja0 rfl) λo=>dq 1 (St.ldsX u i2 (Aa t0 (Aa t1 (Aa t2 (Aa t4 (Aa t5 (Aa t6 (Aa t7 Ah)))))))) o rfl (λw hl=>Ag o isAgg3 rfl (hl.cellB t1 rfl)) λo=>da1 (i:=2) (by kernel_rfl) ?_
 refine di (i:=2) rfl<|Ax o u sizeOf29 rfl rfl rfl rfl (.tail (.tail (.tail .head))) .zero λw u=>⟨λ_=>(St.ldsX u i2 (Aa t0 (Aa t1 (Aa t2 (Aa t4 (Aa t5 (Aa t6 (Aa t7 Ah)))))))),?_⟩
 refine da1 (i:=3) (by kernel_rfl) ?_
 refine di (i:=3) rfl<|Ax o u sizeOf3 rfl rfl rfl rfl (.tail (.tail (.tail (.tail .head)))) .zero λw u=>⟨λh=>absurd rfl h,?_⟩
 refine de (by kernel_rfl)<|tn<|wr<|br<|?_
 obtain rfl:=si hm
 replace u:=u.pk [0,2,2] rfl
 exact hR _ _ _ _ _ _ _ rfl rfl (ExtM.refl _ _ _) ⟨rfl,rfl,hxHC1⟩ u
 rintro ⟨⟩ D217 Y2 Lu a w rfl ⟨rfl,huHC1⟩ O2 o u
 replace O2:=ExtM.nil O2
 try dsimp only at hm
 replace o:Fr ⟨128,(D217 :: dsB5)⟩ [(1,PT S0),(2,PT D0),(3,PT E0),(4,.map (some m33)),(17,PT S1),(73,SL B1 U0 p0),(74,i6 (U0.length:Int)),(75,i6 U1),(87,.func (.func 94) #[] #[PT B2])] a:=o
 replace u:St w0 Nil [Y2] [dsA (D217 :: dsB5),bk S0 [SL V0 p1.Lines M0,SL W0 p1.Vols O0,SL P0 p1.Locks F0,SL Q0 p1.Threads G0,SL R0 p1.Recover I0,SL J0 p1.Claims C0] 27,bk D0 [i6 0] 29,bk E0 [i6 0] 3,Ch kS m33 j0 n0,A130,bk S1 [vm131] 75] w:=u
 refine bn<|bn<|tn<|rg<|qv o (Ap o rfl rfl) λo=>qm o rfl λo=>re<|tn<|?_
 replace u:=u.pk [1,1,1,1,0] rfl
 exact ⟨(W2,(IntKind.i64.wrap (U1+1))),⟨Y2,(D217 :: dsB5),hm,(Ext.trans u0 (Ext.trans V1 O2)),o.hs,u⟩,Nat.lt_succ_self _⟩
 rintro X3 _ D219 I4 Lu a w rfl ⟨rfl,rfl,huHC2⟩ l3 o u
 replace l3:=ExtM.nil l3
 try dsimp only at hm
 replace o:Fr ⟨128,(D219 :: dsB5)⟩ [(1,PT S0),(2,PT D0),(3,PT E0),(4,.map (some m33)),(17,PT S1),(73,SL B1 U0 p0),(74,i6 (U0.length:Int)),(75,i6 U1),(87,.func (.func 94) #[] #[PT B2])] a:=o
 replace u:St w0 Nil [I4] [dsA (D219 :: dsB5),bk D0 [i6 9] 29,bk E0 [i6 X3] 3] w:=u
 refine wr<|br<|br<|tr<|tr<|br<|tr<|?_
 obtain rfl:=si hm
 exact rM (.inl rfl) o u λw u=>⟨_,Jw o rfl rfl rfl isAgg29 isAgg3 (u.ld.cellB t0 rfl) (u.ld.cellB t1 rfl),⟨rfl,u.keep⟩⟩
 refine tn<|th<|cfv o rfl J2<|we<|tx<|tx<|bx<|tn<|?_
 exact ⟨X2,dsB5,hm,u0,o.hs,u⟩
 rintro a w ⟨X1,dsA2,hm,n3,o,u⟩
 unfold Z7b at hm
 refine th<|th<|rg<|qv o (Af o Cz rfl) λo=>qv o (Ag o isAgg25 rfl (u.ld.cellB t0 rfl)) λo=>qv o (Ak (α:=api_Claim) (xs:=p1.Claims) o runUnderlying25 rfl) λo=>qm o rfl λo=>re<|tn<|Av (λa w=>Z7c=some r∧Fr ⟨128,dsA2⟩ [(2,PT D0),(3,PT E0)] a∧St w0 Nil [X1] [bk D0 [i6 0] 29,bk E0 [i6 0] 3,dsA dsA2] w) ?_ ?_
 replace u:=u.pk [1,1,1,1] rfl
 refine wb<|lp (α:=Nat×Int) (λgh a w=>match gh with | (C2,E1)=>(Z7h N Z7c p1 T0) C2 E1=some r∧Fr ⟨128,dsA2⟩ [(2,PT D0),(3,PT E0),(4,.map (some m33)),(101,SL J0 p1.Claims C0),(102,i6 (p1.Claims.length:Int)),(103,i6 E1)] a∧St w0 Nil [X1] [bk D0 [i6 0] 29,bk E0 [i6 0] 3,Ch kS m33 j0 n0,dsA dsA2] w) (λgh=>gh.1) (N,0) ⟨hm,o.hs,u⟩ ?_
 rintro ⟨C2,E1⟩ a w ⟨hm,o,u⟩
 obtain _ | C2:=C2
 simp [Z7h] at hm
 rw [Z7h] at hm
 refine th<|rg<|qv o (Ao o rfl rfl) λo=>re<|?_
 rcases bip hm with ⟨P2,hm⟩ | ⟨P2,hm⟩
 refine tn<|th<|ctv o rfl P2<|wk<|tn<|th<|Av (λa w=>(Z79 (Z7h N Z7c p1 T0 C2) E1)=some r∧Fr ⟨128,dsA2⟩ [(2,PT D0),(3,PT E0),(4,.map (some m33)),(101,SL J0 p1.Claims C0),(102,i6 (p1.Claims.length:Int)),(103,i6 E1)] a∧St w0 Nil [X1] [bk D0 [i6 0] 29,bk E0 [i6 0] 3,Ch kS m33 j0 n0,dsA dsA2] w) ?_ ?_
 refine wb<|th<|?_
 obtain ⟨T1,M3,hm⟩:=bs hm
 obtain ⟨d6,V5,j4⟩:=SR.get Y0 M3
 obtain ⟨u3,A3,rfl,M6,A4⟩:=Cf V5
 refine rg<|qv o (Am o Tryz.runUnderlying25 Tryz.sizeOf74 rfl rfl M3 (SR.oaI Y0 (by decide) M3)) λo=>qv o (Ay o isAgg74 sizeOf74 rfl rfl (λj v hj=>PH.le.cell (λb o hx=>(Lds.le u.ld) b o ((cp (cp (cp n3.sub C1.sub) X0.sub) K0.sub) b o hx)) (j4 j v hj))) λo=>ls<|Au (cs:=[.slice none 0 0,i6 0].toArray) o rfl u zeroValue74 rfl λj6 w a u o=>ls<|Az o u sizeOf74 rfl rfl rfl rfl (Al rfl) .head λw u=>re<|tn<|th<|rg<|qv o (Af o Ld rfl) λo=>qv o (Ag o isAgg49 rfl (u.ld.cellB t0 rfl)) λo=>qv o (Ak (α:=api_Node) (xs:=T1.E) o runUnderlying49 rfl) λo=>qm o rfl λo=>re<|?_
 replace u:=u.pk [1,1,1,1] rfl
 refine tn<|wb<|lp (α:=Nat×Int) (λgh a w=>match gh with | (E2,B3)=>(Z7d N (Z79 (Z7h N Z7c p1 T0 C2) E1) T0 T1) E2 B3=some r∧Fr ⟨128,dsA2⟩ [(2,PT D0),(3,PT E0),(4,.map (some m33)),(101,SL J0 p1.Claims C0),(102,i6 (p1.Claims.length:Int)),(103,i6 E1),(108,SL u3 T1.E A3),(109,i6 (T1.E.length:Int)),(110,i6 B3)] a∧St w0 Nil [X1] [bk D0 [i6 0] 29,bk E0 [i6 0] 3,Ch kS m33 j0 n0,dsA dsA2] w) (λgh=>gh.1) (N,0) ⟨hm,o.hs,u⟩ ?_
 rintro ⟨E2,B3⟩ a w ⟨hm,o,u⟩
 obtain _ | E2:=E2
 simp [Z7d] at hm
 rw [Z7d] at hm
 refine th<|rg<|qv o (Ao o rfl rfl) λo=>re<|?_
 rcases bip hm with ⟨Q2,hm⟩ | ⟨Q2,hm⟩
 refine tn<|th<|ctv o rfl Q2<|wk<|tn<|th<|wb<|th<|?_
 obtain ⟨O3,P3,hm⟩:=bs hm
 obtain ⟨k6,W5,k4⟩:=SR.get A4 P3
 obtain rfl:=Bn W5
 refine rg<|qv o (Am o Tryz.runUnderlying49 Tryz.sizeOf90 rfl rfl P3 (SR.oaI A4 (by decide) P3)) λo=>qv o (Ay o isAgg90 sizeOf90 rfl rfl (λj v hj=>PH.le.cell (λb o hx=>(Lds.le u.ld) b o ((cp (cp (cp n3.sub C1.sub) X0.sub) K0.sub) b o hx)) (k4 j v hj))) λo=>ls<|Au (cs:=[i6 0,i6 0,Ac [],i6 0].toArray) o rfl u zeroValue90 rfl λX5 w a u o=>ls<|Az o u sizeOf90 rfl rfl rfl rfl (Al rfl) .head λw u=>re<|tn<|th<|rg<|qv o (Af o Cm rfl) λo=>qv o (Ag o isAgg3 rfl (u.ld.cellB t0 rfl)) λo=>qv o (An o rfl rfl) λo=>qm o rfl λo=>gr (Fk:=[(2,PT D0),(3,PT E0),(4,.map (some m33)),(23,PT X5),(101,SL J0 p1.Claims C0),(102,i6 (p1.Claims.length:Int)),(103,i6 E1),(108,SL u3 T1.E A3),(109,i6 (T1.E.length:Int)),(110,i6 B3),(123,.bool ((decide (O3.Op=2)) && (decide (((Be O3.Name T0.1).getD 0)≠1))))]) 117 6 o u ?_ ?_ ?_
 intro hb o key
 exact qg o (Ab o rfl) λo=>qg o (Af o Ek rfl) λo=>qg o (Ag o isAgg9 rfl (u.ld.cellB t0 rfl)) λo=>qg o (Iz (ev:=kI) (dv:=0) (m:=T0.1) (k:=O3.Name) o Nq runUnderlying75 zeroValue3 (Lds.mapO u.ld t3) rfl rfl C3) λo=>qg o (Bt o rfl rfl) λo=>qk o (Ad o rfl rfl) key u hb
 intro hb o key
 iterate 5 refine qn o λo=>?_
 exact qk o (Ae o rfl rfl) key u hb
 intro a w o u
 refine re<|?_
 rcases bit hm with ⟨R2,hm⟩ | ⟨R2,hm⟩
 refine tn<|ctv o rfl R2<|th<|rdL (Aa t0 (Aa t2 (Aa t3 (Aa t4 Ah)))) 3 u wide λw u=>ds 0 (St.ldsX u i2 (Aa t0 (Aa t2 (Aa t3 (Aa t4 Ah))))) o rfl (Af o Fg rfl) λo=>dq 1 (St.ldsX u i2 (Aa t0 (Aa t2 (Aa t3 (Aa t4 Ah))))) o rfl (λw hl=>Ag o isAgg3 rfl (hl.cellB t0 rfl)) λo=>da1 (i:=2) (by kernel_rfl) ?_
 refine di (i:=2) rfl<|Ax o u sizeOf29 rfl rfl rfl rfl (.tail .head) .zero λw u=>⟨λ_=>(St.ldsX u i2 (Aa t0 (Aa t2 (Aa t3 (Aa t4 Ah))))),?_⟩
 refine da1 (i:=3) (by kernel_rfl) ?_
 refine di (i:=3) rfl<|Ax o u sizeOf3 rfl rfl rfl rfl (.tail (.tail .head)) .zero λw u=>⟨λh=>absurd rfl h,?_⟩
 refine de (by kernel_rfl)<|tn<|wr<|br<|tr<|tr<|br<|br<|tr<|tr<|br<|tr<|?_
 obtain rfl:=si hm
 replace u:=u.pk [4,0,0,0,0] rfl
 exact rM (.inl rfl) o u λw u=>⟨_,Jw o rfl rfl rfl isAgg29 isAgg3 (u.ld.cellB t1 rfl) (u.ld.cellB t2 rfl),⟨rfl,u.keep⟩⟩
 refine tn<|cfv o rfl R2<|wk<|bn<|tn<|rg<|qv o (Ap o rfl rfl) λo=>qm o rfl λo=>re<|tn<|?_
 replace u:=u.pk [1,1,1,1] rfl
 exact ⟨(E2,(IntKind.i64.wrap (B3+1))),⟨hm,o.hs,u⟩,Nat.lt_succ_self _⟩
 refine tn<|th<|cfv o rfl Q2<|we<|tx<|tx<|bx<|bn<|tn<|?_
 exact ⟨hm,o.hs,u⟩
 rintro a w ⟨hm,o,u⟩
 unfold Z79 at hm
 refine rg<|qv o (Ap o rfl rfl) λo=>qm o rfl λo=>re<|tn<|?_
 exact ⟨(C2,(IntKind.i64.wrap (E1+1))),⟨hm,o.hs,u⟩,Nat.lt_succ_self _⟩
 refine tn<|th<|cfv o rfl P2<|we<|tx<|tx<|bx<|tn<|?_
 replace u:=u.pk [0,0,1] rfl
 exact ⟨hm,o.has ⟨rfl,rfl,trivial⟩,u⟩
 rintro a w ⟨hm,o,u⟩
 unfold Z7c at hm
 refine th<|rg<|ls<|Ax o u Tryz.sizeOf29 rfl rfl rfl rfl .head .zero λw u=>ls<|Ax o u sizeOf3 rfl rfl rfl rfl (.tail .head) .zero λw u=>re<|tn<|wr<|?_
 obtain rfl:=si hm
 replace u:=u.pk [2,0,0] rfl
 exact rM (.inl rfl) o u λw u=>⟨_,Jw o rfl rfl rfl isAgg29 isAgg3 (u.ld.cellB t0 rfl) (u.ld.cellB t1 rfl),⟨rfl,u.keep⟩⟩
 refine tn<|ctv o rfl (by rw [D3];rfl)<|th<|rg<|ls<|Ax o u Tryz.sizeOf29 rfl rfl rfl rfl (.tail (.tail .head)) .zero λw u=>ls<|Ax o u sizeOf3 rfl rfl rfl rfl (.tail .head) .zero λw u=>re<|tn<|wr<|br<|tr<|?_
 obtain rfl:=si hm
 replace u:=u.pk [4,0,0,0,0] rfl
 exact rM (.inl rfl) o u λw u=>⟨_,Jw o rfl rfl rfl isAgg29 isAgg3 (u.ld.cellB t2 rfl) (u.ld.cellB t1 rfl),⟨rfl,u.keep⟩⟩
theorem Lg (hH:H.le w0) {p1:Int} {r:Bool} (hm:Z1s N p1=some r):Tot Tryz.prog 136 #[.int .u8 p1] w0 (λv w'=>v=.bool r∧Keep Nil w0 w'):=by
 unfold Z1s at hm
 refine fn0 func136 rfl ntmps136 rfl rfl λa o=>?_
 have u:St w0 Nil [H] [] w0:=start1 hH
 refine th<|rg<|qa o rfl λo=>re<|tn<|th<|rg<|qm o rfl λo=>qv o (Bl o rfl rfl) λo=>qm o rfl λo=>gr (Fk:=[(0,.int .u8 p1),(8,.bool ((decide (97≤p1)) && (decide (p1≤122))))]) 5 3 o u ?_ ?_ ?_
 intro hb o key
 exact qg o (Ab o rfl) λo=>qg o (Dc o rfl rfl) λo=>qk o (Ad o rfl rfl) key u hb
 intro hb o key
 iterate 2 refine qn o λo=>?_
 exact qk o (Ae o rfl rfl) key u hb
 intro a w o u
 refine qm o rfl λo=>gr (Fk:=[(12,.bool (((decide (97≤p1)) && (decide (p1≤122))) || (decide (p1=95))))]) 9 3 o u ?_ ?_ ?_
 intro hb o key
 iterate 2 refine qn o λo=>?_
 exact qk o (Ad o rfl rfl) key u hb
 intro hb o key
 exact qg o (Ab o rfl) λo=>qg o (An o rfl rfl) λo=>qk o (Ae o rfl rfl) key u hb
 intro a w o u
 refine qa o rfl λo=>re<|tn<|wr<|?_
 obtain rfl:=si hm
 exact r1 o results136 rfl ⟨rfl,u.keep⟩
theorem JbB (hH:H.le w0) {p1:Str} {r:Bool} (hm:Z16 N p1=some r):Tot Tryz.prog 151 #[Ac p1] w0 (λv w'=>v=.bool r∧Keep Nil w0 w'):=by
 unfold Z16 at hm
 refine fn0 func151 rfl ntmps151 rfl rfl λa o=>?_
 have u:St w0 Nil [H] [] w0:=start1 hH
 refine th<|rg<|qa o rfl λo=>re<|tn<|th<|rg<|ls<|Bh (e:=9) (sz:=1) [Ac [108,105,110,101],Ac [118,111,108],Ac [108,111,99,107],Ac [116,104,114,101,97,100],Ac [114,101,103],Ac [108,111,97,100],Ac [115,116,111,114,101],Ac [99,97,115],Ac [102,108,117,115,104],Ac [111,112,116],Ac [115,102,101,110,99,101],Ac [109,102,101,110,99,101],Ac [116,97,107,101],Ac [103,105,118,101],Ac [105,102],Ac [101,108,115,101],Ac [108,111,111,112],Ac [98,114,101,97,107],Ac [99,104,101,99,107],Ac [114,101,99,111,118,101,114],Ac [97,108,119,97,121,115]] o rfl u rfl rfl rfl (λw=>by kernel_rfl) λb3 w a u o=>?_
 have G0:Rows (α:=Str) H [Ac [108,105,110,101],Ac [118,111,108],Ac [108,111,99,107],Ac [116,104,114,101,97,100],Ac [114,101,103],Ac [108,111,97,100],Ac [115,116,111,114,101],Ac [99,97,115],Ac [102,108,117,115,104],Ac [111,112,116],Ac [115,102,101,110,99,101],Ac [109,102,101,110,99,101],Ac [116,97,107,101],Ac [103,105,118,101],Ac [105,102],Ac [101,108,115,101],Ac [108,111,111,112],Ac [98,114,101,97,107],Ac [99,104,101,99,107],Ac [114,101,99,111,118,101,114],Ac [97,108,119,97,121,115]] ([[108,105,110,101],[118,111,108],[108,111,99,107],[116,104,114,101,97,100],[114,101,103],[108,111,97,100],[115,116,111,114,101],[99,97,115],[102,108,117,115,104],[111,112,116],[115,102,101,110,99,101],[109,102,101,110,99,101],[116,97,107,101],[103,105,118,101],[105,102],[101,108,115,101],[108,111,111,112],[98,114,101,97,107],[99,104,101,99,107],[114,101,99,111,118,101,114],[97,108,119,97,121,115]]:List Str):=(.cons (c:=[Ac [108,105,110,101]]) rfl (.cons (c:=[Ac [118,111,108]]) rfl (.cons (c:=[Ac [108,111,99,107]]) rfl (.cons (c:=[Ac [116,104,114,101,97,100]]) rfl (.cons (c:=[Ac [114,101,103]]) rfl (.cons (c:=[Ac [108,111,97,100]]) rfl (.cons (c:=[Ac [115,116,111,114,101]]) rfl (.cons (c:=[Ac [99,97,115]]) rfl (.cons (c:=[Ac [102,108,117,115,104]]) rfl (.cons (c:=[Ac [111,112,116]]) rfl (.cons (c:=[Ac [115,102,101,110,99,101]]) rfl (.cons (c:=[Ac [109,102,101,110,99,101]]) rfl (.cons (c:=[Ac [116,97,107,101]]) rfl (.cons (c:=[Ac [103,105,118,101]]) rfl (.cons (c:=[Ac [105,102]]) rfl (.cons (c:=[Ac [101,108,115,101]]) rfl (.cons (c:=[Ac [108,111,111,112]]) rfl (.cons (c:=[Ac [98,114,101,97,107]]) rfl (.cons (c:=[Ac [99,104,101,99,107]]) rfl (.cons (c:=[Ac [114,101,99,111,118,101,114]]) rfl (.cons (c:=[Ac [97,108,119,97,121,115]]) rfl .nil)))))))))))))))))))))
 refine qa o rfl λo=>re<|tn<|th<|th<|rg<|qa o rfl λo=>re<|tn<|Av (λa w=>Z17=some r∧Fr 18 [] a∧St w0 Nil [H] [] w) ?_ ?_
 refine wb<|lp (α:=Nat×Int) (λgh a w=>match gh with | (C0,E0)=>(Z18 N Z17 p1) C0 E0=some r∧Fr 18 [(0,Ac p1),(3,.slice (some ⟨b3,0,none⟩) ([[108,105,110,101],[118,111,108],[108,111,99,107],[116,104,114,101,97,100],[114,101,103],[108,111,97,100],[115,116,111,114,101],[99,97,115],[102,108,117,115,104],[111,112,116],[115,102,101,110,99,101],[109,102,101,110,99,101],[116,97,107,101],[103,105,118,101],[105,102],[101,108,115,101],[108,111,111,112],[98,114,101,97,107],[99,104,101,99,107],[114,101,99,111,118,101,114],[97,108,119,97,121,115]]:List Str).length 21),(4,i6 E0)] a∧St w0 Nil [H] [sla 9 1 (some ⟨b3,0,none⟩) ([[108,105,110,101],[118,111,108],[108,111,99,107],[116,104,114,101,97,100],[114,101,103],[108,111,97,100],[115,116,111,114,101],[99,97,115],[102,108,117,115,104],[111,112,116],[115,102,101,110,99,101],[109,102,101,110,99,101],[116,97,107,101],[103,105,118,101],[105,102],[101,108,115,101],[108,111,111,112],[98,114,101,97,107],[99,104,101,99,107],[114,101,99,111,118,101,114],[97,108,119,97,121,115]]:List Str).length 21 [Ac [108,105,110,101],Ac [118,111,108],Ac [108,111,99,107],Ac [116,104,114,101,97,100],Ac [114,101,103],Ac [108,111,97,100],Ac [115,116,111,114,101],Ac [99,97,115],Ac [102,108,117,115,104],Ac [111,112,116],Ac [115,102,101,110,99,101],Ac [109,102,101,110,99,101],Ac [116,97,107,101],Ac [103,105,118,101],Ac [105,102],Ac [101,108,115,101],Ac [108,111,111,112],Ac [98,114,101,97,107],Ac [99,104,101,99,107],Ac [114,101,99,111,118,101,114],Ac [97,108,119,97,121,115]]] w) (λgh=>gh.1) (N,0) ⟨hm,o.hs,u⟩ ?_
 rintro ⟨C0,E0⟩ a w ⟨hm,o,u⟩
 obtain _ | C0:=C0
 simp [Z18] at hm
 rw [Z18] at hm
 refine th<|th<|rg<|qm o rfl λo=>qm o rfl λo=>qv o (Ak (α:=Str) (xs:=([[108,105,110,101],[118,111,108],[108,111,99,107],[116,104,114,101,97,100],[114,101,103],[108,111,97,100],[115,116,111,114,101],[99,97,115],[102,108,117,115,104],[111,112,116],[115,102,101,110,99,101],[109,102,101,110,99,101],[116,97,107,101],[103,105,118,101],[105,102],[101,108,115,101],[108,111,111,112],[98,114,101,97,107],[99,104,101,99,107],[114,101,99,111,118,101,114],[97,108,119,97,121,115]]:List Str)) o runUnderlying36 rfl) λo=>qv o (Ao o rfl rfl) λo=>re<|?_
 rcases bip hm with ⟨F0,hm⟩ | ⟨F0,hm⟩
 refine tn<|ctv o rfl F0<|wk<|tn<|th<|wb<|th<|?_
 obtain ⟨I0,h7,hm⟩:=bs hm
 have K0:=Rd.oaI (u.rdO t0) G0 (by decide) h7
 obtain ⟨cz9,M0,J0⟩:=Rows.getI G0 h7
 obtain rfl:cz9=[Ac I0]:=M0
 refine rg<|qm o rfl λo=>qm o rfl λo=>qv o (Am o runUnderlying36 sizeOf9 rfl rfl h7 K0) λo=>qv o (Ag o isAgg9 rfl (u.ld.elO t0 (J0 0 _ rfl))) λo=>qm o rfl λo=>qv o (Eg (m:=I0) (n:=p1) o rfl rfl) λo=>re<|?_
 rcases bip hm with ⟨D0,hm⟩ | ⟨D0,hm⟩
 refine tn<|ctv o rfl D0<|th<|rg<|qa o rfl λo=>re<|tn<|wr<|br<|tr<|tr<|br<|tr<|?_
 obtain rfl:=si hm
 exact r1 o results151 rfl ⟨rfl,u.keep⟩
 refine tn<|cfv o rfl D0<|wk<|bn<|tn<|rg<|qm o rfl λo=>qv o (Ap o rfl rfl) λo=>qa o rfl λo=>re<|tn<|?_
 exact ⟨(C0,(IntKind.i64.wrap (E0+1))),⟨hm,o.hs,u⟩,Nat.lt_succ_self _⟩
 refine tn<|cfv o rfl F0<|we<|tx<|tx<|bx<|tn<|?_
 replace u:=u.pickL .nil
 exact ⟨hm,o.has trivial,u⟩
 rintro a w ⟨hm,o,u⟩
 unfold Z17 at hm
 refine th<|rg<|qa o rfl λo=>re<|tn<|wr<|?_
 obtain rfl:=si hm
 exact r1 o results151 rfl ⟨rfl,u.keep⟩
theorem Rs (hH:H.le w0) {p1:Int} {r:Bool} (hm:Z1r N p1=some r):Tot Tryz.prog 137 #[.int .u8 p1] w0 (λv w'=>v=.bool r∧Keep Nil w0 w'):=by
 unfold Z1r at hm
 refine fn0 func137 rfl ntmps137 rfl rfl λa o=>?_
 have u:St w0 Nil [H] [] w0:=start1 hH
 refine th<|rg<|qa o rfl λo=>re<|tn<|th<|rg<|qm o rfl λo=>qv o (Bl o rfl rfl) λo=>qm o rfl λo=>gr (Fk:=[(8,.bool ((decide (48≤p1)) && (decide (p1≤57))))]) 5 3 o u ?_ ?_ ?_
 intro hb o key
 exact qg o (Ab o rfl) λo=>qg o (Dc o rfl rfl) λo=>qk o (Ad o rfl rfl) key u hb
 intro hb o key
 iterate 2 refine qn o λo=>?_
 exact qk o (Ae o rfl rfl) key u hb
 intro a w o u
 refine qa o rfl λo=>re<|tn<|wr<|?_
 obtain rfl:=si hm
 exact r1 o results137 rfl ⟨rfl,u.keep⟩
theorem Gd (hH:H.le w0) {p1:Str} {r:Bool} (hm:Z19 N p1=some r):Tot Tryz.prog 114 #[Ac p1] w0 (λv w'=>v=.bool r∧Keep Nil w0 w'):=by
 unfold Z19 at hm
 refine fn0 func114 rfl ntmps114 rfl rfl λa o=>?_
 have u:St w0 Nil [H] [] w0:=start1 hH
 refine th<|rg<|qa o rfl λo=>re<|tn<|th<|th<|Av (λa w=>∃ (K0:Bool),(Z1a N p1) K0=some r∧Fr 40 [(0,Ac p1),(21,.bool K0)] a∧St w0 Nil [H] [] w) ?_ ?_
 rcases bit hm with ⟨J0,hm⟩ | ⟨J0,hm⟩
 refine rg<|qm o rfl λo=>qv o (Bo (s:=p1) o runUnderlying9 rfl) λo=>qv o (Ao o rfl rfl) λo=>qm o rfl λo=>gr (Fk:=[(0,Ac p1),(11,.bool ((decide ((p1.length:Int) < 1)) || (decide (16 < (p1.length:Int)))))]) 7 4 o u ?_ ?_ ?_
 intro hb o key
 iterate 3 refine qn o λo=>?_
 exact qk o (Ad o rfl rfl) key u hb
 intro hb o key
 exact qg o (Ab o rfl) λo=>qg o (Bo (s:=p1) o runUnderlying9 rfl) λo=>qg o (Bd o rfl rfl) λo=>qk o (Ae o rfl rfl) key u hb
 intro a w o u
 refine qv o (Ar (Ab o rfl) (congrArg Value.bool J0)) λo=>?_
 iterate 4 refine qn o λo=>?_
 refine qv o (Ad o rfl rfl) λo=>qm o rfl λo=>?_
 iterate 2 refine qn o λo=>?_
 refine qv o (Ad o rfl rfl) λo=>re<|tn<|?_
 exact ⟨true,hm,o.has ⟨rfl,rfl,trivial⟩,u⟩
 obtain ⟨X0,h4,hm⟩:=bs hm
 obtain ⟨P0,h6,hm⟩:=bs hm
 rcases bit hm with ⟨M0,hm⟩ | ⟨M0,hm⟩
 have M0':(!P0)=false:=by rw [M0];rfl
 obtain ⟨T0,h9,hm⟩:=bs hm
 refine rg<|qm o rfl λo=>qv o (Bo (s:=p1) o runUnderlying9 rfl) λo=>qv o (Ao o rfl rfl) λo=>qm o rfl λo=>gr (Fk:=[(0,Ac p1),(11,.bool ((decide ((p1.length:Int) < 1)) || (decide (16 < (p1.length:Int)))))]) 7 4 o u ?_ ?_ ?_
 intro hb o key
 iterate 3 refine qn o λo=>?_
 exact qk o (Ad o rfl rfl) key u hb
 intro hb o key
 exact qg o (Ab o rfl) λo=>qg o (Bo (s:=p1) o runUnderlying9 rfl) λo=>qg o (Bd o rfl rfl) λo=>qk o (Ae o rfl rfl) key u hb
 intro a w o u
 refine qv o (Ar (Ab o rfl) (congrArg Value.bool J0)) λo=>qg o (Ab o rfl) λo=>qg o (Co (s:=p1) o runUnderlying9 rfl rfl h4) λo=>ls<|gy o rfl rfl<|cr o call136 (Lg (Ai _) h6) u λu o=>qg o (Ba o rfl) λo=>qv o (Ae o rfl rfl) λo=>qv o (Ar (Ab o rfl) (congrArg Value.bool M0')) λo=>qg o (Ab o rfl) λo=>ls<|gy o rfl rfl<|cr o call151 (JbB (Ai _) h9) u λu o=>qv o (Ae o rfl rfl) λo=>re<|tn<|?_
 exact ⟨T0,hm,o.has ⟨rfl,rfl,trivial⟩,u⟩
 have M0':(!P0)=true:=by rw [M0];rfl
 refine rg<|qm o rfl λo=>qv o (Bo (s:=p1) o runUnderlying9 rfl) λo=>qv o (Ao o rfl rfl) λo=>qm o rfl λo=>gr (Fk:=[(0,Ac p1),(11,.bool ((decide ((p1.length:Int) < 1)) || (decide (16 < (p1.length:Int)))))]) 7 4 o u ?_ ?_ ?_
 intro hb o key
 iterate 3 refine qn o λo=>?_
 exact qk o (Ad o rfl rfl) key u hb
 intro hb o key
 exact qg o (Ab o rfl) λo=>qg o (Bo (s:=p1) o runUnderlying9 rfl) λo=>qg o (Bd o rfl rfl) λo=>qk o (Ae o rfl rfl) key u hb
 intro a w o u
 refine qv o (Ar (Ab o rfl) (congrArg Value.bool J0)) λo=>qg o (Ab o rfl) λo=>qg o (Co (s:=p1) o runUnderlying9 rfl rfl h4) λo=>ls<|gy o rfl rfl<|cr o call136 (Lg (Ai _) h6) u λu o=>qg o (Ba o rfl) λo=>qv o (Ae o rfl rfl) λo=>qv o (Ar (Ab o rfl) (congrArg Value.bool M0')) λo=>?_
 iterate 2 refine qn o λo=>?_
 refine qv o (Ad o rfl rfl) λo=>re<|tn<|?_
 exact ⟨true,hm,o.has ⟨rfl,rfl,trivial⟩,u⟩
 rintro a w ⟨K0,hm,o,u⟩
 unfold Z1a at hm
 rcases bit hm with ⟨E0,hm⟩ | ⟨E0,hm⟩
 refine ctv o rfl E0<|th<|rg<|qa o rfl λo=>re<|tn<|wr<|tr<|?_
 obtain rfl:=si hm
 exact r1 o results114 rfl ⟨rfl,u.keep⟩
 refine cfv o rfl E0<|wk<|tn<|th<|th<|rg<|qa o rfl λo=>re<|tn<|Av (λa w=>Z1b=some r∧Fr 40 [] a∧St w0 Nil [H] [] w) ?_ ?_
 refine wb<|lp (α:=Nat×Int) (λgh a w=>match gh with | (C0,D0)=>(Z1d N Z1b p1) C0 D0=some r∧Fr 40 [(0,Ac p1),(3,i6 D0)] a∧St w0 Nil [H] [] w) (λgh=>gh.1) (N,0) ⟨hm,o.has ⟨rfl,rfl,trivial⟩,u⟩ ?_
 rintro ⟨C0,D0⟩ a w ⟨hm,o,u⟩
 obtain _ | C0:=C0
 simp [Z1d] at hm
 rw [Z1d] at hm
 refine th<|th<|rg<|qm o rfl λo=>qm o rfl λo=>qv o (Bo (s:=p1) o runUnderlying9 rfl) λo=>qv o (Ao o rfl rfl) λo=>re<|?_
 rcases bip hm with ⟨F0,hm⟩ | ⟨F0,hm⟩
 refine tn<|ctv o rfl F0<|wk<|tn<|th<|wb<|th<|Av (λa w=>∃ (O0:Bool),(Z1c (Z1d N Z1b p1 C0) D0) O0=some r∧Fr 40 [(0,Ac p1),(3,i6 D0),(39,.bool O0)] a∧St w0 Nil [H] [] w) ?_ ?_
 obtain ⟨Y0,Q0,hm⟩:=bs hm
 obtain ⟨R0,S0,hm⟩:=bs hm
 rcases bit hm with ⟨G0,hm⟩ | ⟨G0,hm⟩
 have G0':(!R0)=false:=by rw [G0];rfl
 refine rg<|qm o rfl λo=>qm o rfl λo=>qv o (Co (s:=p1) o runUnderlying9 rfl rfl Q0) λo=>ls<|cr o call136 (Lg (Ai _) S0) u λu o=>qv o (Ba o rfl) λo=>qv o (Ar (Ab o rfl) (congrArg Value.bool G0')) λo=>?_
 iterate 5 refine qn o λo=>?_
 refine qv o (Ae o rfl rfl) λo=>re<|tn<|?_
 exact ⟨false,hm,o.hs,u⟩
 have G0':(!R0)=true:=by rw [G0];rfl
 obtain ⟨j0,U0,hm⟩:=bs hm
 obtain ⟨V0,W0,hm⟩:=bs hm
 refine rg<|qm o rfl λo=>qm o rfl λo=>qv o (Co (s:=p1) o runUnderlying9 rfl rfl Q0) λo=>ls<|cr o call136 (Lg (Ai _) S0) u λu o=>qv o (Ba o rfl) λo=>qv o (Ar (Ab o rfl) (congrArg Value.bool G0')) λo=>?_
 iterate 2 refine qg o (Ab o rfl) λo=>?_
 refine qg o (Co (s:=p1) o runUnderlying9 rfl rfl U0) λo=>ls<|gy o rfl rfl<|cr o call137 (Rs (Ai _) W0) u λu o=>qg o (Ba o rfl) λo=>qv o (Ad o rfl rfl) λo=>re<|tn<|?_
 exact ⟨(!V0),hm,o.hs,u⟩
 rintro a w ⟨O0,hm,o,u⟩
 unfold Z1c at hm
 rcases bit hm with ⟨I0,hm⟩ | ⟨I0,hm⟩
 refine ctv o rfl I0<|th<|rg<|qa o rfl λo=>re<|tn<|wr<|br<|tr<|tr<|br<|tr<|?_
 obtain rfl:=si hm
 exact r1 o results114 rfl ⟨rfl,u.keep⟩
 refine cfv o rfl I0<|wk<|bn<|tn<|rg<|qm o rfl λo=>qv o (Ap o rfl rfl) λo=>qa o rfl λo=>re<|tn<|?_
 exact ⟨(C0,(IntKind.i64.wrap (D0+1))),⟨hm,o.has ⟨rfl,rfl,trivial⟩,u⟩,Nat.lt_succ_self _⟩
 refine tn<|cfv o rfl F0<|we<|tx<|tx<|bx<|tn<|?_
 exact ⟨hm,o.has trivial,u⟩
 rintro a w ⟨hm,o,u⟩
 unfold Z1b at hm
 refine th<|rg<|qa o rfl λo=>re<|tn<|wr<|?_
 obtain rfl:=si hm
 exact r1 o results114 rfl ⟨rfl,u.keep⟩
theorem Oq (hH:H.le w0) {p1:Int} {r:Bool} (hm:Z5d N p1=some r):Tot Tryz.prog 98 #[i6 p1] w0 (λv w'=>v=.bool r∧Keep Nil w0 w'):=by
 unfold Z5d at hm
 refine fn0 func98 rfl ntmps98 rfl rfl λa o=>?_
 have u:St w0 Nil [H] [] w0:=start1 hH
 refine th<|rg<|qa o rfl λo=>re<|tn<|th<|rg<|qm o rfl λo=>qv o (Bl o rfl rfl) λo=>qm o rfl λo=>gr (Fk:=[(8,.bool ((decide (0≤p1)) && (decide (p1≤4000))))]) 5 3 o u ?_ ?_ ?_
 intro hb o key
 exact qg o (Ab o rfl) λo=>qg o (Dc o rfl rfl) λo=>qk o (Ad o rfl rfl) key u hb
 intro hb o key
 iterate 2 refine qn o λo=>?_
 exact qk o (Ae o rfl rfl) key u hb
 intro a w o u
 refine qa o rfl λo=>re<|tn<|wr<|?_
 obtain rfl:=si hm
 exact r1 o results98 rfl ⟨rfl,u.keep⟩
theorem Jv (hH:H.le w0) {F0:Option Addr} {C0:Nat} {p1:(List api_Cell)} (V0:p1.length≤C0) (G0:SR H F0 p1) {p6:Int} {r:Bool} (hm:Z59 N p1 p6=some r):Tot Tryz.prog 97 #[SL F0 p1 C0,i6 p6] w0 (λv w'=>v=.bool r∧Keep Nil w0 w'):=by
 unfold Z59 at hm
 refine fn0 func97 rfl ntmps97 rfl rfl λa o=>?_
 have u:St w0 Nil [H] [] w0:=start1 hH
 refine th<|rg<|qa o rfl λo=>re<|tn<|th<|th<|rg<|qa o rfl λo=>re<|tn<|Av (λa w=>Z5a=some r∧Fr 45 [] a∧St w0 Nil [H] [] w) ?_ ?_
 refine wb<|lp (α:=Nat×Int) (λgh a w=>match gh with | (I0,D0)=>(Z5c N Z5a p1 p6) I0 D0=some r∧Fr 45 [(0,SL F0 p1 C0),(1,i6 p6),(5,i6 D0)] a∧St w0 Nil [H] [] w) (λgh=>gh.1) (N,0) ⟨hm,o.hs,u⟩ ?_
 rintro ⟨I0,D0⟩ a w ⟨hm,o,u⟩
 obtain _ | I0:=I0
 simp [Z5c] at hm
 rw [Z5c] at hm
 refine th<|th<|rg<|qm o rfl λo=>qm o rfl λo=>qv o (Ak (α:=api_Cell) (xs:=p1) o runUnderlying23 rfl) λo=>qv o (Ao o rfl rfl) λo=>re<|?_
 rcases bip hm with ⟨P0,hm⟩ | ⟨P0,hm⟩
 refine tn<|ctv o rfl P0<|wk<|tn<|th<|wb<|th<|Av (λa w=>∃ (Q0:Bool),(Z5b (Z5c N Z5a p1 p6 I0) D0) Q0=some r∧Fr 45 [(0,SL F0 p1 C0),(1,i6 p6),(5,i6 D0),(44,.bool Q0)] a∧St w0 Nil [H] [] w) ?_ ?_
 obtain ⟨J0,h9,hm⟩:=bs hm
 obtain ⟨W0,S0,E0⟩:=SR.get G0 h9
 obtain rfl:=Bj S0
 obtain ⟨O0,R0,hm⟩:=bs hm
 rcases bit hm with ⟨K0,hm⟩ | ⟨K0,hm⟩
 refine rg<|qm o rfl λo=>qm o rfl λo=>qv o (Am o runUnderlying23 sizeOf53 rfl rfl h9 (SR.oaI G0 (by decide) h9)) λo=>qv o (Af o Dq rfl) λo=>qv o (Ag o isAgg9 rfl (PH.le.cell (Lds.le u.ld) (E0 0 _ rfl))) λo=>ls<|cr o call114 (Gd (Ai _) R0) u λu o=>qv o (Ba o rfl) λo=>qm o rfl λo=>gr (Fk:=[(0,SL F0 p1 C0),(1,i6 p6),(5,i6 D0),(26,.bool ((!O0) || (decide (J0.N < 0))))]) 19 7 o u ?_ ?_ ?_
 intro hb o key
 iterate 6 refine qn o λo=>?_
 exact qk o (Ad o rfl rfl) key u hb
 intro hb o key
 iterate 2 refine qg o (Ab o rfl) λo=>?_
 exact qg o (Am o runUnderlying23 sizeOf53 rfl rfl h9 (SR.oaI G0 (by decide) h9)) λo=>qg o (Af o Fu rfl) λo=>qg o (Ag o isAgg3 rfl (PH.le.cell (Lds.le u.ld) (E0 1 _ rfl))) λo=>qg o (Ao o rfl rfl) λo=>qk o (Ae o rfl rfl) key u hb
 intro a w o u
 refine qm o rfl λo=>gr (Fk:=[(0,SL F0 p1 C0),(1,i6 p6),(5,i6 D0),(35,.bool (((!O0) || (decide (J0.N < 0))) || (decide (p6 < J0.N))))]) 27 8 o u ?_ ?_ ?_
 intro hb o key
 iterate 7 refine qn o λo=>?_
 exact qk o (Ad o rfl rfl) key u hb
 intro hb o key
 iterate 2 refine qg o (Ab o rfl) λo=>?_
 exact qg o (Am o runUnderlying23 sizeOf53 rfl rfl h9 (SR.oaI G0 (by decide) h9)) λo=>qg o (Af o Fu rfl) λo=>qg o (Ag o isAgg3 rfl (PH.le.cell (Lds.le u.ld) (E0 1 _ rfl))) λo=>qg o (Ab o rfl) λo=>qg o (Bd o rfl rfl) λo=>qk o (Ae o rfl rfl) key u hb
 intro a w o u
 refine qv o (Ar (Ab o rfl) (congrArg Value.bool K0)) λo=>?_
 iterate 7 refine qn o λo=>?_
 refine qv o (Ad o rfl rfl) λo=>re<|tn<|?_
 exact ⟨true,hm,o.hs,u⟩
 obtain ⟨T0,U0,hm⟩:=bs hm
 refine rg<|qm o rfl λo=>qm o rfl λo=>qv o (Am o runUnderlying23 sizeOf53 rfl rfl h9 (SR.oaI G0 (by decide) h9)) λo=>qv o (Af o Dq rfl) λo=>qv o (Ag o isAgg9 rfl (PH.le.cell (Lds.le u.ld) (E0 0 _ rfl))) λo=>ls<|cr o call114 (Gd (Ai _) R0) u λu o=>qv o (Ba o rfl) λo=>qm o rfl λo=>gr (Fk:=[(0,SL F0 p1 C0),(1,i6 p6),(5,i6 D0),(26,.bool ((!O0) || (decide (J0.N < 0))))]) 19 7 o u ?_ ?_ ?_
 intro hb o key
 iterate 6 refine qn o λo=>?_
 exact qk o (Ad o rfl rfl) key u hb
 intro hb o key
 iterate 2 refine qg o (Ab o rfl) λo=>?_
 exact qg o (Am o runUnderlying23 sizeOf53 rfl rfl h9 (SR.oaI G0 (by decide) h9)) λo=>qg o (Af o Fu rfl) λo=>qg o (Ag o isAgg3 rfl (PH.le.cell (Lds.le u.ld) (E0 1 _ rfl))) λo=>qg o (Ao o rfl rfl) λo=>qk o (Ae o rfl rfl) key u hb
 intro a w o u
 refine qm o rfl λo=>gr (Fk:=[(0,SL F0 p1 C0),(1,i6 p6),(5,i6 D0),(35,.bool (((!O0) || (decide (J0.N < 0))) || (decide (p6 < J0.N))))]) 27 8 o u ?_ ?_ ?_
 intro hb o key
 iterate 7 refine qn o λo=>?_
 exact qk o (Ad o rfl rfl) key u hb
 intro hb o key
 iterate 2 refine qg o (Ab o rfl) λo=>?_
 exact qg o (Am o runUnderlying23 sizeOf53 rfl rfl h9 (SR.oaI G0 (by decide) h9)) λo=>qg o (Af o Fu rfl) λo=>qg o (Ag o isAgg3 rfl (PH.le.cell (Lds.le u.ld) (E0 1 _ rfl))) λo=>qg o (Ab o rfl) λo=>qg o (Bd o rfl rfl) λo=>qk o (Ae o rfl rfl) key u hb
 intro a w o u
 refine qv o (Ar (Ab o rfl) (congrArg Value.bool K0)) λo=>?_
 iterate 2 refine qg o (Ab o rfl) λo=>?_
 refine qg o (Am o runUnderlying23 sizeOf53 rfl rfl h9 (SR.oaI G0 (by decide) h9)) λo=>qg o (Af o Jm rfl) λo=>qg o (Ag o isAgg3 rfl (PH.le.cell (Lds.le u.ld) (E0 2 _ rfl))) λo=>ls<|gy o rfl rfl<|cr o call98 (Oq (Ai _) U0) u λu o=>qg o (Ba o rfl) λo=>qv o (Ae o rfl rfl) λo=>re<|tn<|?_
 exact ⟨(!T0),hm,o.hs,u⟩
 rintro a w ⟨Q0,hm,o,u⟩
 unfold Z5b at hm
 rcases bit hm with ⟨M0,hm⟩ | ⟨M0,hm⟩
 refine ctv o rfl M0<|th<|rg<|qa o rfl λo=>re<|tn<|wr<|br<|tr<|tr<|br<|tr<|?_
 obtain rfl:=si hm
 exact r1 o results97 rfl ⟨rfl,u.keep⟩
 refine cfv o rfl M0<|wk<|bn<|tn<|rg<|qm o rfl λo=>qv o (Ap o rfl rfl) λo=>qa o rfl λo=>re<|tn<|?_
 exact ⟨(I0,(IntKind.i64.wrap (D0+1))),⟨hm,o.hs,u⟩,Nat.lt_succ_self _⟩
 refine tn<|cfv o rfl P0<|we<|tx<|tx<|bx<|tn<|?_
 exact ⟨hm,o.has trivial,u⟩
 rintro a w ⟨hm,o,u⟩
 unfold Z5a at hm
 refine th<|rg<|qa o rfl λo=>re<|tn<|wr<|?_
 obtain rfl:=si hm
 exact r1 o results97 rfl ⟨rfl,u.keep⟩
theorem Ts (hH:H.le w0) {p1:Int} {r:Int} (hm:Z2d N p1=some r):Tot Tryz.prog 158 #[i6 p1] w0 (λv w'=>v=i6 r∧Keep Nil w0 w'):=by
 unfold Z2d at hm
 refine fn0 func158 rfl ntmps158 rfl rfl λa o=>?_
 have u:St w0 Nil [H] [] w0:=start1 hH
 refine th<|rg<|qa o rfl λo=>re<|tn<|th<|th<|rg<|qm o rfl λo=>qv o (An o rfl rfl) λo=>qm o rfl λo=>gr (Fk:=[(0,i6 p1),(8,.bool ((decide (p1=1)) || (decide (p1=2))))]) 5 3 o u ?_ ?_ ?_
 intro hb o key
 iterate 2 refine qn o λo=>?_
 exact qk o (Ad o rfl rfl) key u hb
 intro hb o key
 exact qg o (Ab o rfl) λo=>qg o (An o rfl rfl) λo=>qk o (Ae o rfl rfl) key u hb
 intro a w o u
 refine re<|?_
 rcases bit hm with ⟨C0,hm⟩ | ⟨C0,hm⟩
 refine tn<|ctv o rfl C0<|th<|rg<|qa o rfl λo=>re<|tn<|wr<|tr<|?_
 obtain rfl:=si hm
 exact r1 o results158 rfl ⟨rfl,u.keep⟩
 refine tn<|cfv o rfl C0<|wk<|tn<|th<|th<|rg<|qm o rfl λo=>qv o (An o rfl rfl) λo=>qm o rfl λo=>gr (Fk:=[(0,i6 p1),(14,.bool ((decide (p1=3)) || (decide (p1=4))))]) 11 3 o u ?_ ?_ ?_
 intro hb o key
 iterate 2 refine qn o λo=>?_
 exact qk o (Ad o rfl rfl) key u hb
 intro hb o key
 exact qg o (Ab o rfl) λo=>qg o (An o rfl rfl) λo=>qk o (Ae o rfl rfl) key u hb
 intro a w o u
 refine re<|?_
 rcases bit hm with ⟨D0,hm⟩ | ⟨D0,hm⟩
 refine tn<|ctv o rfl D0<|th<|rg<|qa o rfl λo=>re<|tn<|wr<|tr<|?_
 obtain rfl:=si hm
 exact r1 o results158 rfl ⟨rfl,u.keep⟩
 refine tn<|cfv o rfl D0<|wk<|tn<|th<|th<|rg<|qm o rfl λo=>qv o (Bl o rfl rfl) λo=>qm o rfl λo=>gr (Fk:=[(20,.bool ((decide (5≤p1)) && (decide (p1≤15))))]) 17 3 o u ?_ ?_ ?_
 intro hb o key
 exact qg o (Ab o rfl) λo=>qg o (Dc o rfl rfl) λo=>qk o (Ad o rfl rfl) key u hb
 intro hb o key
 iterate 2 refine qn o λo=>?_
 exact qk o (Ae o rfl rfl) key u hb
 intro a w o u
 refine re<|?_
 rcases bit hm with ⟨E0,hm⟩ | ⟨E0,hm⟩
 refine tn<|ctv o rfl E0<|th<|rg<|qa o rfl λo=>re<|tn<|wr<|tr<|?_
 obtain rfl:=si hm
 exact r1 o results158 rfl ⟨rfl,u.keep⟩
 refine tn<|cfv o rfl E0<|wk<|tn<|th<|rg<|qa o rfl λo=>re<|tn<|wr<|?_
 obtain rfl:=si hm
 exact r1 o results158 rfl ⟨rfl,u.keep⟩
theorem Yf:∀ (N:Nat) {w0:World} {H:PH} (_:H.le w0) {D0:Option Addr} {C0:Nat} {p1:(List api_Node)} (_:p1.length≤C0) (_:SR H D0 p1) {p6:Int} {r:Int} (_:Z23 N p1 p6=some r),Tot Tryz.prog 133 #[SL D0 p1 C0,i6 p6] w0 (λv w'=>v=i6 r∧Keep Nil w0 w'):=by
 intro N
 induction N with
  | zero=>intros;rename_i hm;simp [Z23] at hm
  | succ N ih=>
 intro w0 H hH D0 C0 p1 T0 G0 p6 r hm
 rw [Z23] at hm
 refine fn0 func133 rfl ntmps133 rfl rfl λa o=>?_
 have u:St w0 Nil [H] [] w0:=start1 hH
 refine th<|rg<|qa o rfl λo=>re<|tn<|th<|th<|Av (λa w=>∃ (M0:Bool),(Z24 (Z23 N) N p1 p6) M0=some r∧Fr 44 [(0,SL D0 p1 C0),(1,i6 p6),(23,.bool M0)] a∧St w0 Nil [H] [] w) ?_ ?_
 rcases bit hm with ⟨O0,hm⟩ | ⟨O0,hm⟩
 refine rg<|qm o rfl λo=>qv o (Ao o rfl rfl) λo=>qm o rfl λo=>gr (Fk:=[(0,SL D0 p1 C0),(1,i6 p6),(14,.bool ((decide (p6 < 0)) || (decide ((p1.length:Int)≤p6))))]) 9 5 o u ?_ ?_ ?_
 intro hb o key
 iterate 4 refine qn o λo=>?_
 exact qk o (Ad o rfl rfl) key u hb
 intro hb o key
 iterate 2 refine qg o (Ab o rfl) λo=>?_
 exact qg o (Ak (α:=api_Node) (xs:=p1) o runUnderlying49 rfl) λo=>qg o (Bl o rfl rfl) λo=>qk o (Ae o rfl rfl) key u hb
 intro a w o u
 refine qv o (Ar (Ab o rfl) (congrArg Value.bool O0)) λo=>?_
 iterate 7 refine qn o λo=>?_
 refine qv o (Ad o rfl rfl) λo=>re<|tn<|?_
 exact ⟨true,hm,o.hs,u⟩
 obtain ⟨u0,h9,hm⟩:=bs hm
 obtain ⟨B1,U0,R0⟩:=SR.get G0 h9
 obtain rfl:=Bn U0
 obtain ⟨V0,W0,hm⟩:=bs hm
 refine rg<|qm o rfl λo=>qv o (Ao o rfl rfl) λo=>qm o rfl λo=>gr (Fk:=[(0,SL D0 p1 C0),(1,i6 p6),(14,.bool ((decide (p6 < 0)) || (decide ((p1.length:Int)≤p6))))]) 9 5 o u ?_ ?_ ?_
 intro hb o key
 iterate 4 refine qn o λo=>?_
 exact qk o (Ad o rfl rfl) key u hb
 intro hb o key
 iterate 2 refine qg o (Ab o rfl) λo=>?_
 exact qg o (Ak (α:=api_Node) (xs:=p1) o runUnderlying49 rfl) λo=>qg o (Bl o rfl rfl) λo=>qk o (Ae o rfl rfl) key u hb
 intro a w o u
 refine qv o (Ar (Ab o rfl) (congrArg Value.bool O0)) λo=>?_
 iterate 2 refine qg o (Ab o rfl) λo=>?_
 refine qg o (Am o runUnderlying49 sizeOf90 rfl rfl h9 (SR.oaI G0 (by decide) h9)) λo=>qg o (Af o Cm rfl) λo=>qg o (Ag o isAgg3 rfl (PH.le.cell (Lds.le u.ld) (R0 0 _ rfl))) λo=>ls<|gy o rfl rfl<|cr o call158 (Ts (Ai _) W0) u λu o=>qg o (Ao o rfl rfl) λo=>qv o (Ae o rfl rfl) λo=>re<|tn<|?_
 exact ⟨(decide (V0 < 0)),hm,o.hs,u⟩
 rintro a w ⟨M0,hm,o,u⟩
 unfold Z24 at hm
 rcases bit hm with ⟨J0,hm⟩ | ⟨J0,hm⟩
 refine ctv o rfl J0<|th<|rg<|qa o rfl λo=>re<|tn<|wr<|tr<|?_
 obtain rfl:=si hm
 exact r1 o results133 rfl ⟨rfl,u.keep⟩
 refine cfv o rfl J0<|wk<|tn<|th<|rg<|qm o rfl λo=>qv o (Ap o rfl rfl) λo=>qa o rfl λo=>re<|tn<|th<|th<|rg<|qa o rfl λo=>re<|tn<|Av (λa w=>∃ (P0:Int),Z25 P0=some r∧Fr 44 [(5,i6 P0)] a∧St w0 Nil [H] [] w) ?_ ?_
 refine wb<|lp (α:=Nat×Int×Int) (λgh a w=>match gh with | (I0,E0,F0)=>(Z26 (Z23 N) N Z25 p1 p6) I0 E0 F0=some r∧Fr 44 [(0,SL D0 p1 C0),(1,i6 p6),(5,i6 E0),(6,i6 F0)] a∧St w0 Nil [H] [] w) (λgh=>gh.1) (N,(IntKind.i64.wrap (p6+1)),0) ⟨hm,o.hs,u⟩ ?_
 rintro ⟨I0,E0,F0⟩ a w ⟨hm,o,u⟩
 obtain _ | I0:=I0
 simp [Z26] at hm
 rw [Z26] at hm
 refine th<|th<|?_
 obtain ⟨C1,Q0,hm⟩:=bs hm
 obtain ⟨E1,X0,S0⟩:=SR.get G0 Q0
 obtain rfl:=Bn X0
 obtain ⟨Y0,j0,hm⟩:=bs hm
 refine rg<|qm o rfl λo=>?_
 iterate 2 refine qm o rfl λo=>?_
 refine qv o (Am o runUnderlying49 sizeOf90 rfl rfl Q0 (SR.oaI G0 (by decide) Q0)) λo=>qv o (Af o Cm rfl) λo=>qv o (Ag o isAgg3 rfl (PH.le.cell (Lds.le u.ld) (S0 0 _ rfl))) λo=>ls<|cr o call158 (Ts (Ai _) j0) u λu o=>qv o (Ao o rfl rfl) λo=>qm o rfl λo=>gr (Fk:=[(0,SL D0 p1 C0),(1,i6 p6),(5,i6 E0),(6,i6 F0),(37,.bool ((decide (F0 < Y0)) && (decide (0≤E0))))]) 34 3 o u ?_ ?_ ?_
 intro hb o key
 exact qg o (Ab o rfl) λo=>qg o (Bl o rfl rfl) λo=>qk o (Ad o rfl rfl) key u hb
 intro hb o key
 iterate 2 refine qn o λo=>?_
 exact qk o (Ae o rfl rfl) key u hb
 intro a w o u
 refine re<|?_
 rcases bit hm with ⟨K0,hm⟩ | ⟨K0,hm⟩
 refine tn<|ctv o rfl K0<|wk<|tn<|th<|wb<|?_
 obtain ⟨n0,p0,hm⟩:=bs hm
 refine rg<|qm o rfl λo=>qm o rfl λo=>ls<|cr o call133 (ih (Ai _) T0 (St.srH u G0) p0) u λu o=>qa o rfl λo=>re<|bn<|tn<|rg<|qm o rfl λo=>qv o (Ap o rfl rfl) λo=>qa o rfl λo=>re<|tn<|?_
 exact ⟨(I0,n0,(IntKind.i64.wrap (F0+1))),⟨hm,o.hs,u⟩,Nat.lt_succ_self _⟩
 refine tn<|cfv o rfl K0<|we<|tx<|tx<|bx<|tn<|?_
 exact ⟨E0,hm,o.has ⟨rfl,trivial⟩,u⟩
 rintro a w ⟨P0,hm,o,u⟩
 unfold Z25 at hm
 refine th<|rg<|qm o rfl λo=>qa o rfl λo=>re<|tn<|wr<|?_
 obtain rfl:=si hm
 exact r1 o results133 rfl ⟨rfl,u.keep⟩
theorem Yb:∀ (N:Nat) {w0:World} {H:PH} (_:H.le w0) {G0:Option Addr} {C0:Nat} {p1:(List api_Node)} (_:p1.length≤C0) (_:SR H G0 p1) {p6:Int} {r:Int} (_:Z2m N p1 p6=some r),Tot Tryz.prog 134 #[SL G0 p1 C0,i6 p6] w0 (λv w'=>v=i6 r∧Keep Nil w0 w'):=by
 intro N
 induction N with
  | zero=>intros;rename_i hm;simp [Z2m] at hm
  | succ N ih=>
 intro w0 H hH G0 C0 p1 O0 I0 p6 r hm
 rw [Z2m] at hm
 refine fn0 func134 rfl ntmps134 rfl rfl λa o=>?_
 have u:St w0 Nil [H] [] w0:=start1 hH
 refine th<|rg<|qa o rfl λo=>re<|tn<|th<|rg<|qm o rfl λo=>qv o (Ap o rfl rfl) λo=>?_
 iterate 2 refine qa o rfl λo=>?_
 refine re<|tn<|th<|th<|rg<|qa o rfl λo=>re<|tn<|Av (λa w=>∃ (K0:Int),Z2n K0=some r∧Fr 30 [(5,i6 K0)] a∧St w0 Nil [H] [] w) ?_ ?_
 refine wb<|lp (α:=Nat×Int×Int×Int) (λgh a w=>match gh with | (D0,E0,M0,J0)=>(Z2o (Z2m N) N Z2n p1 p6) D0 E0 M0 J0=some r∧Fr 30 [(0,SL G0 p1 C0),(1,i6 p6),(5,i6 E0),(6,i6 M0),(7,i6 J0)] a∧St w0 Nil [H] [] w) (λgh=>gh.1) (N,0,(IntKind.i64.wrap (p6+1)),0) ⟨hm,o.hs,u⟩ ?_
 rintro ⟨D0,E0,M0,J0⟩ a w ⟨hm,o,u⟩
 obtain _ | D0:=D0
 simp [Z2o] at hm
 rw [Z2o] at hm
 refine th<|th<|?_
 obtain ⟨W0,h8,hm⟩:=bs hm
 obtain ⟨cz9,Q0,P0⟩:=SR.get I0 h8
 obtain rfl:=Bn Q0
 obtain ⟨X0,R0,hm⟩:=bs hm
 refine rg<|qm o rfl λo=>?_
 iterate 2 refine qm o rfl λo=>?_
 refine qv o (Am o runUnderlying49 sizeOf90 rfl rfl h8 (SR.oaI I0 (by decide) h8)) λo=>qv o (Af o Cm rfl) λo=>qv o (Ag o isAgg3 rfl (PH.le.cell (Lds.le u.ld) (P0 0 _ rfl))) λo=>ls<|cr o call158 (Ts (Ai _) R0) u λu o=>qv o (Ao o rfl rfl) λo=>re<|?_
 rcases bip hm with ⟨F0,hm⟩ | ⟨F0,hm⟩
 refine tn<|ctv o rfl F0<|wk<|tn<|th<|wb<|th<|?_
 obtain ⟨S0,T0,hm⟩:=bs hm
 refine rg<|qm o rfl λo=>?_
 iterate 2 refine qm o rfl λo=>?_
 refine ls<|cr o call134 (ih (Ai _) O0 (St.srH u I0) T0) u λu o=>qv o (Xo o rfl rfl) λo=>qa o rfl λo=>re<|tn<|?_
 obtain ⟨U0,V0,hm⟩:=bs hm
 refine rg<|qm o rfl λo=>qm o rfl λo=>ls<|cr o call133 (Yf _ (Ai _) O0 (St.srH u I0) V0) u λu o=>qa o rfl λo=>re<|bn<|tn<|rg<|qm o rfl λo=>qv o (Ap o rfl rfl) λo=>qa o rfl λo=>re<|tn<|?_
 exact ⟨(D0,(max E0 S0),U0,(IntKind.i64.wrap (J0+1))),⟨hm,o.hs,u⟩,Nat.lt_succ_self _⟩
 refine tn<|cfv o rfl F0<|we<|tx<|tx<|bx<|tn<|?_
 exact ⟨E0,hm,o.has ⟨rfl,trivial⟩,u⟩
 rintro a w ⟨K0,hm,o,u⟩
 unfold Z2n at hm
 refine th<|rg<|qm o rfl λo=>qv o (Ap o rfl rfl) λo=>qa o rfl λo=>re<|tn<|wr<|?_
 obtain rfl:=si hm
 exact r1 o results134 rfl ⟨rfl,u.keep⟩
set_option maxHeartbeats 4000000 in
theorem Rm (hH:H.le w0) {E0:Option Addr} {D0:Nat} {p1:(List api_Node)} (V0:p1.length≤D0) (P0:SR H E0 p1) {r:Bool} (hm:Z2f N p1=some r):Tot Tryz.prog 99 #[SL E0 p1 D0] w0 (λv w'=>v=.bool r∧Keep Nil w0 w'):=by
 unfold Z2f at hm
 refine fn0 func99 rfl ntmps99 rfl rfl λa o=>?_
 have u:St w0 Nil [H] [] w0:=start1 hH
 refine th<|rg<|qa o rfl λo=>re<|tn<|th<|th<|Av (λa w=>∃ (Q0:Bool),(Z2g N p1) Q0=some r∧Fr 77 [(0,SL E0 p1 D0),(14,.bool Q0)] a∧St w0 Nil [H] [] w) ?_ ?_
 rcases bip hm with ⟨R0,hm⟩ | ⟨R0,hm⟩
 refine rg<|qm o rfl λo=>qv o (Ak (α:=api_Node) (xs:=p1) o runUnderlying49 rfl) λo=>qv o (Bd o rfl rfl) λo=>qv o (Ar (Ab o rfl) (congrArg Value.bool R0)) λo=>?_
 iterate 5 refine qn o λo=>?_
 refine qv o (Ad o rfl rfl) λo=>re<|tn<|?_
 exact ⟨true,hm,o.has ⟨rfl,rfl,trivial⟩,u⟩
 obtain ⟨X0,h8,hm⟩:=bs hm
 refine rg<|qm o rfl λo=>qv o (Ak (α:=api_Node) (xs:=p1) o runUnderlying49 rfl) λo=>qv o (Bd o rfl rfl) λo=>qv o (Ar (Ab o rfl) (congrArg Value.bool R0)) λo=>qg o (Ab o rfl) λo=>ls<|gy o rfl rfl<|cr o call133 (Yf _ (Ai _) V0 (St.srH u P0) h8) u λu o=>qg o (Ab o rfl) λo=>qg o (Ak (α:=api_Node) (xs:=p1) o runUnderlying49 rfl) λo=>qg o (Bt o rfl rfl) λo=>qv o (Ae o rfl rfl) λo=>re<|tn<|?_
 exact ⟨(decide (X0≠(p1.length:Int))),hm,o.has ⟨rfl,rfl,trivial⟩,u⟩
 rintro a w ⟨Q0,hm,o,u⟩
 unfold Z2g at hm
 rcases bit hm with ⟨S0,hm⟩ | ⟨S0,hm⟩
 refine ctv o rfl S0<|th<|rg<|qa o rfl λo=>re<|tn<|wr<|tr<|?_
 obtain rfl:=si hm
 exact r1 o results99 rfl ⟨rfl,u.keep⟩
 refine cfv o rfl S0<|wk<|tn<|th<|th<|rg<|qa o rfl λo=>re<|tn<|Av (λa w=>(Z2h N p1)=some r∧Fr 77 [(0,SL E0 p1 D0)] a∧St w0 Nil [H] [] w) ?_ ?_
 refine wb<|lp (α:=Nat×Int) (λgh a w=>match gh with | (I0,F0)=>(Z2j N (Z2h N p1) p1) I0 F0=some r∧Fr 77 [(0,SL E0 p1 D0),(3,i6 F0)] a∧St w0 Nil [H] [] w) (λgh=>gh.1) (N,0) ⟨hm,o.has ⟨rfl,rfl,trivial⟩,u⟩ ?_
 rintro ⟨I0,F0⟩ a w ⟨hm,o,u⟩
 obtain _ | I0:=I0
 simp [Z2j] at hm
 rw [Z2j] at hm
 refine th<|th<|rg<|qm o rfl λo=>qm o rfl λo=>qv o (Ak (α:=api_Node) (xs:=p1) o runUnderlying49 rfl) λo=>qv o (Ao o rfl rfl) λo=>re<|?_
 rcases bip hm with ⟨K0,hm⟩ | ⟨K0,hm⟩
 refine tn<|ctv o rfl K0<|wk<|tn<|th<|wb<|th<|?_
 obtain ⟨C0,T0,hm⟩:=bs hm
 obtain ⟨u0,Y0,W0⟩:=SR.get P0 T0
 obtain rfl:=Bn Y0
 refine rg<|qm o rfl λo=>qm o rfl λo=>qv o (Am o runUnderlying49 sizeOf90 rfl rfl T0 (SR.oaI P0 (by decide) T0)) λo=>qv o (Ay o isAgg90 sizeOf90 rfl rfl (λj v hj=>PH.le.cell (Lds.le u.ld) (W0 j v hj))) λo=>ls<|Au (cs:=[i6 0,i6 0,Ac [],i6 0].toArray) o rfl u zeroValue90 rfl λG0 w a u o=>ls<|Az o u sizeOf90 rfl rfl rfl rfl (Al rfl) .head λw u=>re<|tn<|th<|Av (λa w=>∃ (U0:Bool),(Z2i (Z2j N (Z2h N p1) p1 I0) F0) U0=some r∧Fr 77 [(0,SL E0 p1 D0),(3,i6 F0),(73,.bool U0)] a∧St w0 Nil [H] [] w) ?_ ?_
 rcases bit hm with ⟨J0,hm⟩ | ⟨J0,hm⟩
 refine rg<|qv o (Af o Fg rfl) λo=>qv o (Ag o isAgg3 rfl (u.ld.cellB t0 rfl)) λo=>qv o (Ao o rfl rfl) λo=>qm o rfl λo=>gr (Fk:=[(0,SL E0 p1 D0),(3,i6 F0),(4,PT G0),(32,.bool ((decide (C0.At < 0)) || (decide (4000 < C0.At))))]) 28 4 o u ?_ ?_ ?_
 intro hb o key
 iterate 3 refine qn o λo=>?_
 exact qk o (Ad o rfl rfl) key u hb
 intro hb o key
 exact qg o (Af o Fg rfl) λo=>qg o (Ag o isAgg3 rfl (u.ld.cellB t0 rfl)) λo=>qg o (Bd o rfl rfl) λo=>qk o (Ae o rfl rfl) key u hb
 intro a w o u
 refine qm o rfl λo=>gr (Fk:=[(0,SL E0 p1 D0),(3,i6 F0),(4,PT G0),(42,.bool (((decide (C0.At < 0)) || (decide (4000 < C0.At))) || ((decide (C0.Op≠1)) && (decide (C0.N≠0)))))]) 33 9 o u ?_ ?_ ?_
 intro hb o key
 iterate 4 refine qn o λo=>?_
 iterate 3 refine ls<|gnu o rfl rfl rfl λa o=>?_
 exact qn o λo=>qk o (Ad o rfl rfl) key u hb
 intro hb o key
 refine qg o (Af o Cm rfl) λo=>qg o (Ag o isAgg3 rfl (u.ld.cellB t0 rfl)) λo=>qg o (Bt o rfl rfl) λo=>qg o (Ab o rfl) λo=>gr (Fk:=[(0,SL E0 p1 D0),(3,i6 F0),(4,PT G0),(33,.bool false),(41,.bool ((decide (C0.Op≠1)) && (decide (C0.N≠0))))]) 37 4 o u ?_ ?_ ?_
 intro hb o key
 exact qg o (Af o Ec rfl) λo=>qg o (Ag o isAgg3 rfl (u.ld.cellB t0 rfl)) λo=>qg o (Bt o rfl rfl) λo=>ql o (Ad o rfl rfl) key u hb
 intro hb o key
 iterate 3 refine qn o λo=>?_
 exact ql o (Ae o rfl rfl) key u hb
 intro a w o u
 exact qk o (Ae o rfl rfl) key u hb
 intro a w o u
 refine qm o rfl λo=>gr (Fk:=[(0,SL E0 p1 D0),(3,i6 F0),(4,PT G0),(52,.bool ((((decide (C0.At < 0)) || (decide (4000 < C0.At))) || ((decide (C0.Op≠1)) && (decide (C0.N≠0)))) || ((decide (C0.Op≠2)) && (decide (C0.Name≠[])))))]) 43 9 o u ?_ ?_ ?_
 intro hb o key
 iterate 4 refine qn o λo=>?_
 iterate 3 refine ls<|gnu o rfl rfl rfl λa o=>?_
 exact qn o λo=>qk o (Ad o rfl rfl) key u hb
 intro hb o key
 refine qg o (Af o Cm rfl) λo=>qg o (Ag o isAgg3 rfl (u.ld.cellB t0 rfl)) λo=>qg o (Bt o rfl rfl) λo=>qg o (Ab o rfl) λo=>gr (Fk:=[(0,SL E0 p1 D0),(3,i6 F0),(4,PT G0),(43,.bool false),(51,.bool ((decide (C0.Op≠2)) && (decide (C0.Name≠[]))))]) 47 4 o u ?_ ?_ ?_
 intro hb o key
 exact qg o (Af o Ek rfl) λo=>qg o (Ag o isAgg9 rfl (u.ld.cellB t0 rfl)) λo=>qg o (Cx (m:=C0.Name) (n:=[]) o rfl rfl) λo=>ql o (Ad o rfl rfl) key u hb
 intro hb o key
 iterate 3 refine qn o λo=>?_
 exact ql o (Ae o rfl rfl) key u hb
 intro a w o u
 exact qk o (Ae o rfl rfl) key u hb
 intro a w o u
 refine qm o rfl λo=>gr (Fk:=[(0,SL E0 p1 D0),(3,i6 F0),(4,PT G0),(57,.bool (((((decide (C0.At < 0)) || (decide (4000 < C0.At))) || ((decide (C0.Op≠1)) && (decide (C0.N≠0)))) || ((decide (C0.Op≠2)) && (decide (C0.Name≠[])))) || (decide (C0.N < 0))))]) 53 4 o u ?_ ?_ ?_
 intro hb o key
 iterate 3 refine qn o λo=>?_
 exact qk o (Ad o rfl rfl) key u hb
 intro hb o key
 exact qg o (Af o Ec rfl) λo=>qg o (Ag o isAgg3 rfl (u.ld.cellB t0 rfl)) λo=>qg o (Ao o rfl rfl) λo=>qk o (Ae o rfl rfl) key u hb
 intro a w o u
 refine qm o rfl λo=>gr (Fk:=[(0,SL E0 p1 D0),(3,i6 F0),(4,PT G0),(62,.bool ((((((decide (C0.At < 0)) || (decide (4000 < C0.At))) || ((decide (C0.Op≠1)) && (decide (C0.N≠0)))) || ((decide (C0.Op≠2)) && (decide (C0.Name≠[])))) || (decide (C0.N < 0))) || (decide (4294967296 < C0.N))))]) 58 4 o u ?_ ?_ ?_
 intro hb o key
 iterate 3 refine qn o λo=>?_
 exact qk o (Ad o rfl rfl) key u hb
 intro hb o key
 exact qg o (Af o Ec rfl) λo=>qg o (Ag o isAgg3 rfl (u.ld.cellB t0 rfl)) λo=>qg o (Bd o rfl rfl) λo=>qk o (Ae o rfl rfl) key u hb
 intro a w o u
 refine qv o (Ar (Ab o rfl) (congrArg Value.bool J0)) λo=>?_
 iterate 4 refine qn o λo=>?_
 iterate 4 refine ls<|gnu o rfl rfl rfl λa o=>?_
 refine qn o λo=>qv o (Ad o rfl rfl) λo=>re<|tn<|?_
 replace u:=u.pickL .nil
 exact ⟨true,hm,o.hs,u⟩
 rcases bip hm with ⟨M0,hm⟩ | ⟨M0,hm⟩
 obtain ⟨j0,n0,hm⟩:=bs hm
 refine rg<|qv o (Af o Fg rfl) λo=>qv o (Ag o isAgg3 rfl (u.ld.cellB t0 rfl)) λo=>qv o (Ao o rfl rfl) λo=>qm o rfl λo=>gr (Fk:=[(0,SL E0 p1 D0),(3,i6 F0),(4,PT G0),(32,.bool ((decide (C0.At < 0)) || (decide (4000 < C0.At))))]) 28 4 o u ?_ ?_ ?_
 intro hb o key
 iterate 3 refine qn o λo=>?_
 exact qk o (Ad o rfl rfl) key u hb
 intro hb o key
 exact qg o (Af o Fg rfl) λo=>qg o (Ag o isAgg3 rfl (u.ld.cellB t0 rfl)) λo=>qg o (Bd o rfl rfl) λo=>qk o (Ae o rfl rfl) key u hb
 intro a w o u
 refine qm o rfl λo=>gr (Fk:=[(0,SL E0 p1 D0),(3,i6 F0),(4,PT G0),(42,.bool (((decide (C0.At < 0)) || (decide (4000 < C0.At))) || ((decide (C0.Op≠1)) && (decide (C0.N≠0)))))]) 33 9 o u ?_ ?_ ?_
 intro hb o key
 iterate 4 refine qn o λo=>?_
 iterate 3 refine ls<|gnu o rfl rfl rfl λa o=>?_
 exact qn o λo=>qk o (Ad o rfl rfl) key u hb
 intro hb o key
 refine qg o (Af o Cm rfl) λo=>qg o (Ag o isAgg3 rfl (u.ld.cellB t0 rfl)) λo=>qg o (Bt o rfl rfl) λo=>qg o (Ab o rfl) λo=>gr (Fk:=[(0,SL E0 p1 D0),(3,i6 F0),(4,PT G0),(33,.bool false),(41,.bool ((decide (C0.Op≠1)) && (decide (C0.N≠0))))]) 37 4 o u ?_ ?_ ?_
 intro hb o key
 exact qg o (Af o Ec rfl) λo=>qg o (Ag o isAgg3 rfl (u.ld.cellB t0 rfl)) λo=>qg o (Bt o rfl rfl) λo=>ql o (Ad o rfl rfl) key u hb
 intro hb o key
 iterate 3 refine qn o λo=>?_
 exact ql o (Ae o rfl rfl) key u hb
 intro a w o u
 exact qk o (Ae o rfl rfl) key u hb
 intro a w o u
 refine qm o rfl λo=>gr (Fk:=[(0,SL E0 p1 D0),(3,i6 F0),(4,PT G0),(52,.bool ((((decide (C0.At < 0)) || (decide (4000 < C0.At))) || ((decide (C0.Op≠1)) && (decide (C0.N≠0)))) || ((decide (C0.Op≠2)) && (decide (C0.Name≠[])))))]) 43 9 o u ?_ ?_ ?_
 intro hb o key
 iterate 4 refine qn o λo=>?_
 iterate 3 refine ls<|gnu o rfl rfl rfl λa o=>?_
 exact qn o λo=>qk o (Ad o rfl rfl) key u hb
 intro hb o key
 refine qg o (Af o Cm rfl) λo=>qg o (Ag o isAgg3 rfl (u.ld.cellB t0 rfl)) λo=>qg o (Bt o rfl rfl) λo=>qg o (Ab o rfl) λo=>gr (Fk:=[(0,SL E0 p1 D0),(3,i6 F0),(4,PT G0),(43,.bool false),(51,.bool ((decide (C0.Op≠2)) && (decide (C0.Name≠[]))))]) 47 4 o u ?_ ?_ ?_
 intro hb o key
 exact qg o (Af o Ek rfl) λo=>qg o (Ag o isAgg9 rfl (u.ld.cellB t0 rfl)) λo=>qg o (Cx (m:=C0.Name) (n:=[]) o rfl rfl) λo=>ql o (Ad o rfl rfl) key u hb
 intro hb o key
 iterate 3 refine qn o λo=>?_
 exact ql o (Ae o rfl rfl) key u hb
 intro a w o u
 exact qk o (Ae o rfl rfl) key u hb
 intro a w o u
 refine qm o rfl λo=>gr (Fk:=[(0,SL E0 p1 D0),(3,i6 F0),(4,PT G0),(57,.bool (((((decide (C0.At < 0)) || (decide (4000 < C0.At))) || ((decide (C0.Op≠1)) && (decide (C0.N≠0)))) || ((decide (C0.Op≠2)) && (decide (C0.Name≠[])))) || (decide (C0.N < 0))))]) 53 4 o u ?_ ?_ ?_
 intro hb o key
 iterate 3 refine qn o λo=>?_
 exact qk o (Ad o rfl rfl) key u hb
 intro hb o key
 exact qg o (Af o Ec rfl) λo=>qg o (Ag o isAgg3 rfl (u.ld.cellB t0 rfl)) λo=>qg o (Ao o rfl rfl) λo=>qk o (Ae o rfl rfl) key u hb
 intro a w o u
 refine qm o rfl λo=>gr (Fk:=[(0,SL E0 p1 D0),(3,i6 F0),(4,PT G0),(62,.bool ((((((decide (C0.At < 0)) || (decide (4000 < C0.At))) || ((decide (C0.Op≠1)) && (decide (C0.N≠0)))) || ((decide (C0.Op≠2)) && (decide (C0.Name≠[])))) || (decide (C0.N < 0))) || (decide (4294967296 < C0.N))))]) 58 4 o u ?_ ?_ ?_
 intro hb o key
 iterate 3 refine qn o λo=>?_
 exact qk o (Ad o rfl rfl) key u hb
 intro hb o key
 exact qg o (Af o Ec rfl) λo=>qg o (Ag o isAgg3 rfl (u.ld.cellB t0 rfl)) λo=>qg o (Bd o rfl rfl) λo=>qk o (Ae o rfl rfl) key u hb
 intro a w o u
 refine qv o (Ar (Ab o rfl) (congrArg Value.bool J0)) λo=>qg o (Af o Cm rfl) λo=>qg o (Ag o isAgg3 rfl (u.ld.cellB t0 rfl)) λo=>qg o (An o rfl rfl) λo=>qg o (Ar (Ab o rfl) (congrArg Value.bool M0)) λo=>qg o (Af o Ek rfl) λo=>qg o (Ag o isAgg9 rfl (u.ld.cellB t0 rfl)) λo=>ls<|gy o rfl rfl<|cr o call114 (Gd (Ai _) n0) u λu o=>qg o (Ba o rfl) λo=>qg o (Ad o rfl rfl) λo=>qv o (Ae o rfl rfl) λo=>re<|tn<|?_
 replace u:=u.pickL .nil
 exact ⟨(!j0),hm,o.hs,u⟩
 refine rg<|qv o (Af o Fg rfl) λo=>qv o (Ag o isAgg3 rfl (u.ld.cellB t0 rfl)) λo=>qv o (Ao o rfl rfl) λo=>qm o rfl λo=>gr (Fk:=[(0,SL E0 p1 D0),(3,i6 F0),(4,PT G0),(32,.bool ((decide (C0.At < 0)) || (decide (4000 < C0.At))))]) 28 4 o u ?_ ?_ ?_
 intro hb o key
 iterate 3 refine qn o λo=>?_
 exact qk o (Ad o rfl rfl) key u hb
 intro hb o key
 exact qg o (Af o Fg rfl) λo=>qg o (Ag o isAgg3 rfl (u.ld.cellB t0 rfl)) λo=>qg o (Bd o rfl rfl) λo=>qk o (Ae o rfl rfl) key u hb
 intro a w o u
 refine qm o rfl λo=>gr (Fk:=[(0,SL E0 p1 D0),(3,i6 F0),(4,PT G0),(42,.bool (((decide (C0.At < 0)) || (decide (4000 < C0.At))) || ((decide (C0.Op≠1)) && (decide (C0.N≠0)))))]) 33 9 o u ?_ ?_ ?_
 intro hb o key
 iterate 4 refine qn o λo=>?_
 iterate 3 refine ls<|gnu o rfl rfl rfl λa o=>?_
 exact qn o λo=>qk o (Ad o rfl rfl) key u hb
 intro hb o key
 refine qg o (Af o Cm rfl) λo=>qg o (Ag o isAgg3 rfl (u.ld.cellB t0 rfl)) λo=>qg o (Bt o rfl rfl) λo=>qg o (Ab o rfl) λo=>gr (Fk:=[(0,SL E0 p1 D0),(3,i6 F0),(4,PT G0),(33,.bool false),(41,.bool ((decide (C0.Op≠1)) && (decide (C0.N≠0))))]) 37 4 o u ?_ ?_ ?_
 intro hb o key
 exact qg o (Af o Ec rfl) λo=>qg o (Ag o isAgg3 rfl (u.ld.cellB t0 rfl)) λo=>qg o (Bt o rfl rfl) λo=>ql o (Ad o rfl rfl) key u hb
 intro hb o key
 iterate 3 refine qn o λo=>?_
 exact ql o (Ae o rfl rfl) key u hb
 intro a w o u
 exact qk o (Ae o rfl rfl) key u hb
 intro a w o u
 refine qm o rfl λo=>gr (Fk:=[(0,SL E0 p1 D0),(3,i6 F0),(4,PT G0),(52,.bool ((((decide (C0.At < 0)) || (decide (4000 < C0.At))) || ((decide (C0.Op≠1)) && (decide (C0.N≠0)))) || ((decide (C0.Op≠2)) && (decide (C0.Name≠[])))))]) 43 9 o u ?_ ?_ ?_
 intro hb o key
 iterate 4 refine qn o λo=>?_
 iterate 3 refine ls<|gnu o rfl rfl rfl λa o=>?_
 exact qn o λo=>qk o (Ad o rfl rfl) key u hb
 intro hb o key
 refine qg o (Af o Cm rfl) λo=>qg o (Ag o isAgg3 rfl (u.ld.cellB t0 rfl)) λo=>qg o (Bt o rfl rfl) λo=>qg o (Ab o rfl) λo=>gr (Fk:=[(0,SL E0 p1 D0),(3,i6 F0),(4,PT G0),(43,.bool false),(51,.bool ((decide (C0.Op≠2)) && (decide (C0.Name≠[]))))]) 47 4 o u ?_ ?_ ?_
 intro hb o key
 exact qg o (Af o Ek rfl) λo=>qg o (Ag o isAgg9 rfl (u.ld.cellB t0 rfl)) λo=>qg o (Cx (m:=C0.Name) (n:=[]) o rfl rfl) λo=>ql o (Ad o rfl rfl) key u hb
 intro hb o key
 iterate 3 refine qn o λo=>?_
 exact ql o (Ae o rfl rfl) key u hb
 intro a w o u
 exact qk o (Ae o rfl rfl) key u hb
 intro a w o u
 refine qm o rfl λo=>gr (Fk:=[(0,SL E0 p1 D0),(3,i6 F0),(4,PT G0),(57,.bool (((((decide (C0.At < 0)) || (decide (4000 < C0.At))) || ((decide (C0.Op≠1)) && (decide (C0.N≠0)))) || ((decide (C0.Op≠2)) && (decide (C0.Name≠[])))) || (decide (C0.N < 0))))]) 53 4 o u ?_ ?_ ?_
 intro hb o key
 iterate 3 refine qn o λo=>?_
 exact qk o (Ad o rfl rfl) key u hb
 intro hb o key
 exact qg o (Af o Ec rfl) λo=>qg o (Ag o isAgg3 rfl (u.ld.cellB t0 rfl)) λo=>qg o (Ao o rfl rfl) λo=>qk o (Ae o rfl rfl) key u hb
 intro a w o u
 refine qm o rfl λo=>gr (Fk:=[(0,SL E0 p1 D0),(3,i6 F0),(4,PT G0),(62,.bool ((((((decide (C0.At < 0)) || (decide (4000 < C0.At))) || ((decide (C0.Op≠1)) && (decide (C0.N≠0)))) || ((decide (C0.Op≠2)) && (decide (C0.Name≠[])))) || (decide (C0.N < 0))) || (decide (4294967296 < C0.N))))]) 58 4 o u ?_ ?_ ?_
 intro hb o key
 iterate 3 refine qn o λo=>?_
 exact qk o (Ad o rfl rfl) key u hb
 intro hb o key
 exact qg o (Af o Ec rfl) λo=>qg o (Ag o isAgg3 rfl (u.ld.cellB t0 rfl)) λo=>qg o (Bd o rfl rfl) λo=>qk o (Ae o rfl rfl) key u hb
 intro a w o u
 refine qv o (Ar (Ab o rfl) (congrArg Value.bool J0)) λo=>qg o (Af o Cm rfl) λo=>qg o (Ag o isAgg3 rfl (u.ld.cellB t0 rfl)) λo=>qg o (An o rfl rfl) λo=>qg o (Ar (Ab o rfl) (congrArg Value.bool M0)) λo=>?_
 iterate 4 refine qn o λo=>?_
 refine qg o (Ae o rfl rfl) λo=>qv o (Ae o rfl rfl) λo=>re<|tn<|?_
 replace u:=u.pickL .nil
 exact ⟨false,hm,o.hs,u⟩
 rintro a w ⟨U0,hm,o,u⟩
 unfold Z2i at hm
 rcases bit hm with ⟨O0,hm⟩ | ⟨O0,hm⟩
 refine ctv o rfl O0<|th<|rg<|qa o rfl λo=>re<|tn<|wr<|br<|tr<|tr<|br<|tr<|?_
 obtain rfl:=si hm
 exact r1 o results99 rfl ⟨rfl,u.keep⟩
 refine cfv o rfl O0<|wk<|bn<|tn<|rg<|qm o rfl λo=>qv o (Ap o rfl rfl) λo=>qa o rfl λo=>re<|tn<|?_
 exact ⟨(I0,(IntKind.i64.wrap (F0+1))),⟨hm,o.has ⟨rfl,rfl,trivial⟩,u⟩,Nat.lt_succ_self _⟩
 refine tn<|cfv o rfl K0<|we<|tx<|tx<|bx<|tn<|?_
 exact ⟨hm,o.has ⟨rfl,trivial⟩,u⟩
 rintro a w ⟨hm,o,u⟩
 unfold Z2h at hm
 refine th<|?_
 obtain ⟨B1,p0,hm⟩:=bs hm
 refine rg<|qm o rfl λo=>ls<|cr o call134 (Yb _ (Ai _) V0 (St.srH u P0) p0) u λu o=>qv o (Dc o rfl rfl) λo=>qa o rfl λo=>re<|tn<|wr<|?_
 obtain rfl:=si hm
 exact r1 o results99 rfl ⟨rfl,u.keep⟩
theorem Jbj (hH:H.le w0) {p1:Int} {r:Str} (hm:Z2v N p1=some r):Tot Tryz.prog 112 #[i6 p1] w0 (λv w'=>v=Ac r∧Keep Nil w0 w'):=by
 unfold Z2v at hm
 refine fn0 func112 rfl ntmps112 rfl rfl λa o=>?_
 have u:St w0 Nil [H] [] w0:=start1 hH
 refine th<|rg<|qa o rfl λo=>re<|tn<|th<|th<|rg<|qm o rfl λo=>qv o (Ao o rfl rfl) λo=>qm o rfl λo=>gr (Fk:=[(0,i6 p1),(8,.bool ((decide (p1 < 1)) || (decide (14 < p1))))]) 5 3 o u ?_ ?_ ?_
 intro hb o key
 iterate 2 refine qn o λo=>?_
 exact qk o (Ad o rfl rfl) key u hb
 intro hb o key
 exact qg o (Ab o rfl) λo=>qg o (Bd o rfl rfl) λo=>qk o (Ae o rfl rfl) key u hb
 intro a w o u
 refine re<|?_
 rcases bit hm with ⟨C0,hm⟩ | ⟨C0,hm⟩
 refine tn<|ctv o rfl C0<|th<|rg<|qa o rfl λo=>re<|tn<|wr<|tr<|?_
 obtain rfl:=si hm
 exact r1 o results112 rfl ⟨rfl,u.keep⟩
 refine tn<|cfv o rfl C0<|wk<|tn<|th<|?_
 obtain ⟨F0,h7,hm⟩:=bs hm
 refine rg<|ls<|Bh (e:=9) (sz:=1) [Ac [],Ac [114,101],Ac [114,110],Ac [110,101],Ac [114,110,101,102],Ac [110],Ac [110],Ac [],Ac [],Ac [110],Ac [110],Ac [101,98],Ac [107,98],Ac [],Ac [101]] o rfl u rfl rfl rfl (λw=>by kernel_rfl) λb4 w a u o=>?_
 have D0:Rows (α:=Str) H [Ac [],Ac [114,101],Ac [114,110],Ac [110,101],Ac [114,110,101,102],Ac [110],Ac [110],Ac [],Ac [],Ac [110],Ac [110],Ac [101,98],Ac [107,98],Ac [],Ac [101]] ([[],[114,101],[114,110],[110,101],[114,110,101,102],[110],[110],[],[],[110],[110],[101,98],[107,98],[],[101]]:List Str):=(.cons (c:=[Ac []]) rfl (.cons (c:=[Ac [114,101]]) rfl (.cons (c:=[Ac [114,110]]) rfl (.cons (c:=[Ac [110,101]]) rfl (.cons (c:=[Ac [114,110,101,102]]) rfl (.cons (c:=[Ac [110]]) rfl (.cons (c:=[Ac [110]]) rfl (.cons (c:=[Ac []]) rfl (.cons (c:=[Ac []]) rfl (.cons (c:=[Ac [110]]) rfl (.cons (c:=[Ac [110]]) rfl (.cons (c:=[Ac [101,98]]) rfl (.cons (c:=[Ac [107,98]]) rfl (.cons (c:=[Ac []]) rfl (.cons (c:=[Ac [101]]) rfl .nil)))))))))))))))
 refine qm o rfl λo=>qv o (Am o runUnderlying36 sizeOf9 rfl rfl h7 (Rd.oaI (u.ld.rdO t0) D0 (by decide) h7)) λo=>?_
 obtain ⟨cz8,g9,E0⟩:=Rows.getI D0 h7
 obtain rfl:cz8=[Ac F0]:=g9
 refine qv o (Ag o isAgg9 rfl (u.ld.elO t0 (E0 0 _ rfl))) λo=>qa o rfl λo=>re<|tn<|wr<|?_
 obtain rfl:=si hm
 exact r1 o results112 rfl ⟨rfl,u.keep⟩
theorem N4 (hH:H.le w0) {p1:Str} {p2:Int} {r:Bool} (hm:Z3w N p1 p2=some r):Tot Tryz.prog 113 #[Ac p1,.int .u8 p2] w0 (λv w'=>v=.bool r∧Keep Nil w0 w'):=by
 unfold Z3w at hm
 refine fn0 func113 rfl ntmps113 rfl rfl λa o=>?_
 have u:St w0 Nil [H] [] w0:=start1 hH
 refine th<|rg<|qa o rfl λo=>re<|tn<|th<|th<|rg<|qa o rfl λo=>re<|tn<|Av (λa w=>Z3x=some r∧Fr 17 [] a∧St w0 Nil [H] [] w) ?_ ?_
 refine wb<|lp (α:=Nat×Int) (λgh a w=>match gh with | (C0,D0)=>(Z3y N Z3x p1 p2) C0 D0=some r∧Fr 17 [(0,Ac p1),(1,.int .u8 p2),(5,i6 D0)] a∧St w0 Nil [H] [] w) (λgh=>gh.1) (N,0) ⟨hm,o.hs,u⟩ ?_
 rintro ⟨C0,D0⟩ a w ⟨hm,o,u⟩
 obtain _ | C0:=C0
 simp [Z3y] at hm
 rw [Z3y] at hm
 refine th<|th<|rg<|qm o rfl λo=>qm o rfl λo=>qv o (Bo (s:=p1) o runUnderlying9 rfl) λo=>qv o (Ao o rfl rfl) λo=>re<|?_
 rcases bip hm with ⟨E0,hm⟩ | ⟨E0,hm⟩
 refine tn<|ctv o rfl E0<|wk<|tn<|th<|wb<|th<|?_
 obtain ⟨G0,h5,hm⟩:=bs hm
 refine rg<|qm o rfl λo=>qm o rfl λo=>qv o (Co (s:=p1) o runUnderlying9 rfl rfl h5) λo=>qm o rfl λo=>qv o (An o rfl rfl) λo=>re<|?_
 rcases bip hm with ⟨F0,hm⟩ | ⟨F0,hm⟩
 refine tn<|ctv o rfl F0<|th<|rg<|qa o rfl λo=>re<|tn<|wr<|br<|tr<|tr<|br<|tr<|?_
 obtain rfl:=si hm
 exact r1 o results113 rfl ⟨rfl,u.keep⟩
 refine tn<|cfv o rfl F0<|wk<|bn<|tn<|rg<|qm o rfl λo=>qv o (Ap o rfl rfl) λo=>qa o rfl λo=>re<|tn<|?_
 exact ⟨(C0,(IntKind.i64.wrap (D0+1))),⟨hm,o.hs,u⟩,Nat.lt_succ_self _⟩
 refine tn<|cfv o rfl E0<|we<|tx<|tx<|bx<|tn<|?_
 exact ⟨hm,o.has trivial,u⟩
 rintro a w ⟨hm,o,u⟩
 unfold Z3x at hm
 refine th<|rg<|qa o rfl λo=>re<|tn<|wr<|?_
 obtain rfl:=si hm
 exact r1 o results113 rfl ⟨rfl,u.keep⟩
set_option maxHeartbeats 4000000 in
theorem Jbr (hH:H.le w0) {cs2:List Value} {p1:api_Stmt} (g3:Enc.rep H cs2 p1) {r:Bool} (hm:Z44 N p1=some r):Tot Tryz.prog 75 #[.agg cs2.toArray] w0 (λv w'=>v=.bool r∧Keep Nil w0 w'):=by
 unfold Z44 at hm
 refine fn0 func75 rfl ntmps75 rfl rfl λa o=>?_
 have u:St w0 Nil [H] [] w0:=start1 hH
 obtain ⟨T0,J0,U0,K0,rfl,X0,Y0,E1,F1⟩:=Bm g3
 refine th<|rg<|ls<|Br (cs:=[i6 p1.Kind,Ac p1.Reg,Ac p1.Name,SL T0 p1.E J0,SL U0 p1.F K0,i6 p1.N,i6 p1.Body,i6 p1.Else,i6 p1.At].toArray) o rfl u rfl rfl λC0 w a u o=>qa o rfl λo=>re<|tn<|th<|th<|rg<|qv o (Af o Cj rfl) λo=>qv o (Ag o isAgg3 rfl (u.ld.cellB t0 rfl)) λo=>qv o (Ao o rfl rfl) λo=>qm o rfl λo=>gr (Fk:=[(1,PT C0),(15,.bool ((decide (p1.Kind < 1)) || (decide (14 < p1.Kind))))]) 11 4 o u ?_ ?_ ?_
 intro hb o key
 iterate 3 refine qn o λo=>?_
 exact qk o (Ad o rfl rfl) key u hb
 intro hb o key
 exact qg o (Af o Cj rfl) λo=>qg o (Ag o isAgg3 rfl (u.ld.cellB t0 rfl)) λo=>qg o (Bd o rfl rfl) λo=>qk o (Ae o rfl rfl) key u hb
 intro a w o u
 refine qm o rfl λo=>gr (Fk:=[(1,PT C0),(20,.bool (((decide (p1.Kind < 1)) || (decide (14 < p1.Kind))) || (decide (p1.At < 0))))]) 16 4 o u ?_ ?_ ?_
 intro hb o key
 iterate 3 refine qn o λo=>?_
 exact qk o (Ad o rfl rfl) key u hb
 intro hb o key
 exact qg o (Af o Es rfl) λo=>qg o (Ag o isAgg3 rfl (u.ld.cellB t0 rfl)) λo=>qg o (Ao o rfl rfl) λo=>qk o (Ae o rfl rfl) key u hb
 intro a w o u
 refine qm o rfl λo=>gr (Fk:=[(1,PT C0),(25,.bool ((((decide (p1.Kind < 1)) || (decide (14 < p1.Kind))) || (decide (p1.At < 0))) || (decide (4000 < p1.At))))]) 21 4 o u ?_ ?_ ?_
 intro hb o key
 iterate 3 refine qn o λo=>?_
 exact qk o (Ad o rfl rfl) key u hb
 intro hb o key
 exact qg o (Af o Es rfl) λo=>qg o (Ag o isAgg3 rfl (u.ld.cellB t0 rfl)) λo=>qg o (Bd o rfl rfl) λo=>qk o (Ae o rfl rfl) key u hb
 intro a w o u
 refine re<|?_
 rcases bit hm with ⟨M0,hm⟩ | ⟨M0,hm⟩
 refine tn<|ctv o rfl M0<|th<|rg<|qa o rfl λo=>re<|tn<|wr<|tr<|?_
 obtain rfl:=si hm
 exact r1 o results75 rfl ⟨rfl,u.keep⟩
 refine tn<|cfv o rfl M0<|wk<|tn<|th<|?_
 obtain ⟨E0,G1,hm⟩:=bs hm
 refine rg<|qv o (Af o Cj rfl) λo=>qv o (Ag o isAgg3 rfl (u.ld.cellB t0 rfl)) λo=>ls<|cr o call112 (Jbj (Ai _) G1) u λu o=>qa o rfl λo=>re<|tn<|th<|?_
 obtain ⟨I0,I1,hm⟩:=bs hm
 obtain ⟨G0,J1,hm⟩:=bs hm
 obtain ⟨F0,M1,hm⟩:=bs hm
 obtain ⟨D0,O1,hm⟩:=bs hm
 refine rg<|qm o rfl λo=>ls<|cr o call113 (N4 (Ai _) I1) u λu o=>qm o rfl λo=>ls<|cr o call113 (N4 (Ai _) J1) u λu o=>qm o rfl λo=>ls<|cr o call113 (N4 (Ai _) M1) u λu o=>qm o rfl λo=>ls<|cr o call113 (N4 (Ai _) O1) u λu o=>?_
 iterate 4 refine qa o rfl λo=>?_
 refine re<|tn<|th<|th<|Av (λa w=>∃ (V0:Bool),(Z45 N p1 E0 F0 D0) V0=some r∧Fr 112 [(1,PT C0),(3,Ac E0),(6,.bool F0),(7,.bool D0),(66,.bool V0)] a∧St w0 Nil [H] [bk C0 [i6 p1.Kind,Ac p1.Reg,Ac p1.Name,SL T0 p1.E J0,SL U0 p1.F K0,i6 p1.N,i6 p1.Body,i6 p1.Else,i6 p1.At] 51] w) ?_ ?_
 obtain ⟨j0,n0,hm⟩:=bs hm
 rcases bit hm with ⟨O0,hm⟩ | ⟨O0,hm⟩
 refine rg<|qm o rfl λo=>qv o (Af o Cn rfl) λo=>qv o (Ag o isAgg9 rfl (u.ld.cellB t0 rfl)) λo=>ls<|cr o call114 (Gd (Ai _) n0) u λu o=>qv o (Gn o runUnderlying4 rfl rfl) λo=>qm o rfl λo=>gr (Fk:=[(1,PT C0),(3,Ac E0),(5,.bool G0),(6,.bool F0),(7,.bool D0),(50,.bool ((I0 != j0) || ((!I0) && (decide (p1.Reg≠[])))))]) 42 8 o u ?_ ?_ ?_
 intro hb o key
 iterate 3 refine qn o λo=>?_
 iterate 3 refine ls<|gnu o rfl rfl rfl λa o=>?_
 exact qn o λo=>qk o (Ad o rfl rfl) key u hb
 intro hb o key
 refine qg o (Ab o rfl) λo=>qg o (Ba o rfl) λo=>qg o (Ab o rfl) λo=>gr (Fk:=[(1,PT C0),(3,Ac E0),(5,.bool G0),(6,.bool F0),(7,.bool D0),(42,.bool false),(49,.bool ((!I0) && (decide (p1.Reg≠[]))))]) 45 4 o u ?_ ?_ ?_
 intro hb o key
 exact qg o (Af o Cn rfl) λo=>qg o (Ag o isAgg9 rfl (u.ld.cellB t0 rfl)) λo=>qg o (Cx (m:=p1.Reg) (n:=[]) o rfl rfl) λo=>ql o (Ad o rfl rfl) key u hb
 intro hb o key
 iterate 3 refine qn o λo=>?_
 exact ql o (Ae o rfl rfl) key u hb
 intro a w o u
 exact qk o (Ae o rfl rfl) key u hb
 intro a w o u
 refine qv o (Ar (Ab o rfl) (congrArg Value.bool O0)) λo=>?_
 iterate 5 refine qn o λo=>?_
 refine qv o (Ad o rfl rfl) λo=>qm o rfl λo=>?_
 iterate 3 refine qn o λo=>?_
 iterate 3 refine ls<|gnu o rfl rfl rfl λa o=>?_
 refine qn o λo=>qv o (Ad o rfl rfl) λo=>re<|tn<|?_
 exact ⟨true,hm,o.hs,u⟩
 obtain ⟨p0,P1,hm⟩:=bs hm
 refine rg<|qm o rfl λo=>qv o (Af o Cn rfl) λo=>qv o (Ag o isAgg9 rfl (u.ld.cellB t0 rfl)) λo=>ls<|cr o call114 (Gd (Ai _) n0) u λu o=>qv o (Gn o runUnderlying4 rfl rfl) λo=>qm o rfl λo=>gr (Fk:=[(1,PT C0),(3,Ac E0),(5,.bool G0),(6,.bool F0),(7,.bool D0),(50,.bool ((I0 != j0) || ((!I0) && (decide (p1.Reg≠[])))))]) 42 8 o u ?_ ?_ ?_
 intro hb o key
 iterate 3 refine qn o λo=>?_
 iterate 3 refine ls<|gnu o rfl rfl rfl λa o=>?_
 exact qn o λo=>qk o (Ad o rfl rfl) key u hb
 intro hb o key
 refine qg o (Ab o rfl) λo=>qg o (Ba o rfl) λo=>qg o (Ab o rfl) λo=>gr (Fk:=[(1,PT C0),(3,Ac E0),(5,.bool G0),(6,.bool F0),(7,.bool D0),(42,.bool false),(49,.bool ((!I0) && (decide (p1.Reg≠[]))))]) 45 4 o u ?_ ?_ ?_
 intro hb o key
 exact qg o (Af o Cn rfl) λo=>qg o (Ag o isAgg9 rfl (u.ld.cellB t0 rfl)) λo=>qg o (Cx (m:=p1.Reg) (n:=[]) o rfl rfl) λo=>ql o (Ad o rfl rfl) key u hb
 intro hb o key
 iterate 3 refine qn o λo=>?_
 exact ql o (Ae o rfl rfl) key u hb
 intro a w o u
 exact qk o (Ae o rfl rfl) key u hb
 intro a w o u
 refine qv o (Ar (Ab o rfl) (congrArg Value.bool O0)) λo=>qg o (Ab o rfl) λo=>qg o (Af o Db rfl) λo=>qg o (Ag o isAgg9 rfl (u.ld.cellB t0 rfl)) λo=>ls<|gy o rfl rfl<|cr o call114 (Gd (Ai _) P1) u λu o=>qg o (Gn o runUnderlying4 rfl rfl) λo=>qv o (Ae o rfl rfl) λo=>qm o rfl λo=>gr (Fk:=[(1,PT C0),(3,Ac E0),(6,.bool F0),(7,.bool D0),(66,.bool ((G0 != p0) || ((!G0) && (decide (p1.Name≠[])))))]) 58 8 o u ?_ ?_ ?_
 intro hb o key
 iterate 3 refine qn o λo=>?_
 iterate 3 refine ls<|gnu o rfl rfl rfl λa o=>?_
 exact qn o λo=>qk o (Ad o rfl rfl) key u hb
 intro hb o key
 refine qg o (Ab o rfl) λo=>qg o (Ba o rfl) λo=>qg o (Ab o rfl) λo=>gr (Fk:=[(1,PT C0),(3,Ac E0),(6,.bool F0),(7,.bool D0),(58,.bool false),(65,.bool ((!G0) && (decide (p1.Name≠[]))))]) 61 4 o u ?_ ?_ ?_
 intro hb o key
 exact qg o (Af o Db rfl) λo=>qg o (Ag o isAgg9 rfl (u.ld.cellB t0 rfl)) λo=>qg o (Cx (m:=p1.Name) (n:=[]) o rfl rfl) λo=>ql o (Ad o rfl rfl) key u hb
 intro hb o key
 iterate 3 refine qn o λo=>?_
 exact ql o (Ae o rfl rfl) key u hb
 intro a w o u
 exact qk o (Ae o rfl rfl) key u hb
 intro a w o u
 refine re<|tn<|?_
 exact ⟨((G0 != p0) || ((!G0) && (decide (p1.Name≠[])))),hm,o.hs,u⟩
 rintro a w ⟨V0,hm,o,u⟩
 unfold Z45 at hm
 rcases bit hm with ⟨P0,hm⟩ | ⟨P0,hm⟩
 refine ctv o rfl P0<|th<|rg<|qa o rfl λo=>re<|tn<|wr<|tr<|?_
 obtain rfl:=si hm
 exact r1 o results75 rfl ⟨rfl,u.keep⟩
 refine cfv o rfl P0<|wk<|tn<|th<|th<|Av (λa w=>∃ (W0:Bool),(Z46 N p1 E0) W0=some r∧Fr 112 [(1,PT C0),(3,Ac E0),(98,.bool W0)] a∧St w0 Nil [H] [bk C0 [i6 p1.Kind,Ac p1.Reg,Ac p1.Name,SL T0 p1.E J0,SL U0 p1.F K0,i6 p1.N,i6 p1.Body,i6 p1.Else,i6 p1.At] 51] w) ?_ ?_
 obtain ⟨u0,B1,hm⟩:=bs hm
 rcases bit hm with ⟨Q0,hm⟩ | ⟨Q0,hm⟩
 refine rg<|qm o rfl λo=>qv o (Af o Dp rfl) λo=>qv o (Ag o isAgg49 rfl (u.ld.cellB t0 rfl)) λo=>ls<|cr o call99 (Rm (Ai _) X0 (St.srH u Y0) B1) u λu o=>qv o (Gn o runUnderlying4 rfl rfl) λo=>qm o rfl λo=>gr (Fk:=[(1,PT C0),(3,Ac E0),(7,.bool D0),(81,.bool ((F0 != u0) || ((!F0) && (decide (0 < (p1.E.length:Int))))))]) 72 9 o u ?_ ?_ ?_
 intro hb o key
 iterate 3 refine qn o λo=>?_
 iterate 4 refine ls<|gnu o rfl rfl rfl λa o=>?_
 exact qn o λo=>qk o (Ad o rfl rfl) key u hb
 intro hb o key
 refine qg o (Ab o rfl) λo=>qg o (Ba o rfl) λo=>qg o (Ab o rfl) λo=>gr (Fk:=[(1,PT C0),(3,Ac E0),(7,.bool D0),(72,.bool false),(80,.bool ((!F0) && (decide (0 < (p1.E.length:Int)))))]) 75 5 o u ?_ ?_ ?_
 intro hb o key
 exact qg o (Af o Dp rfl) λo=>qg o (Ag o isAgg49 rfl (u.ld.cellB t0 rfl)) λo=>qg o (Ak (α:=api_Node) (xs:=p1.E) o runUnderlying49 rfl) λo=>qg o (Bd o rfl rfl) λo=>ql o (Ad o rfl rfl) key u hb
 intro hb o key
 iterate 4 refine qn o λo=>?_
 exact ql o (Ae o rfl rfl) key u hb
 intro a w o u
 exact qk o (Ae o rfl rfl) key u hb
 intro a w o u
 refine qv o (Ar (Ab o rfl) (congrArg Value.bool Q0)) λo=>?_
 iterate 5 refine qn o λo=>?_
 refine qv o (Ad o rfl rfl) λo=>qm o rfl λo=>?_
 iterate 3 refine qn o λo=>?_
 iterate 4 refine ls<|gnu o rfl rfl rfl λa o=>?_
 refine qn o λo=>qv o (Ad o rfl rfl) λo=>re<|tn<|?_
 exact ⟨true,hm,o.hs,u⟩
 obtain ⟨C1,Q1,hm⟩:=bs hm
 refine rg<|qm o rfl λo=>qv o (Af o Dp rfl) λo=>qv o (Ag o isAgg49 rfl (u.ld.cellB t0 rfl)) λo=>ls<|cr o call99 (Rm (Ai _) X0 (St.srH u Y0) B1) u λu o=>qv o (Gn o runUnderlying4 rfl rfl) λo=>qm o rfl λo=>gr (Fk:=[(1,PT C0),(3,Ac E0),(7,.bool D0),(81,.bool ((F0 != u0) || ((!F0) && (decide (0 < (p1.E.length:Int))))))]) 72 9 o u ?_ ?_ ?_
 intro hb o key
 iterate 3 refine qn o λo=>?_
 iterate 4 refine ls<|gnu o rfl rfl rfl λa o=>?_
 exact qn o λo=>qk o (Ad o rfl rfl) key u hb
 intro hb o key
 refine qg o (Ab o rfl) λo=>qg o (Ba o rfl) λo=>qg o (Ab o rfl) λo=>gr (Fk:=[(1,PT C0),(3,Ac E0),(7,.bool D0),(72,.bool false),(80,.bool ((!F0) && (decide (0 < (p1.E.length:Int)))))]) 75 5 o u ?_ ?_ ?_
 intro hb o key
 exact qg o (Af o Dp rfl) λo=>qg o (Ag o isAgg49 rfl (u.ld.cellB t0 rfl)) λo=>qg o (Ak (α:=api_Node) (xs:=p1.E) o runUnderlying49 rfl) λo=>qg o (Bd o rfl rfl) λo=>ql o (Ad o rfl rfl) key u hb
 intro hb o key
 iterate 4 refine qn o λo=>?_
 exact ql o (Ae o rfl rfl) key u hb
 intro a w o u
 exact qk o (Ae o rfl rfl) key u hb
 intro a w o u
 refine qv o (Ar (Ab o rfl) (congrArg Value.bool Q0)) λo=>qg o (Ab o rfl) λo=>qg o (Af o Gy rfl) λo=>qg o (Ag o isAgg49 rfl (u.ld.cellB t0 rfl)) λo=>ls<|gy o rfl rfl<|cr o call99 (Rm (Ai _) E1 (St.srH u F1) Q1) u λu o=>qg o (Gn o runUnderlying4 rfl rfl) λo=>qv o (Ae o rfl rfl) λo=>qm o rfl λo=>gr (Fk:=[(1,PT C0),(3,Ac E0),(98,.bool ((D0 != C1) || ((!D0) && (decide (0 < (p1.F.length:Int))))))]) 89 9 o u ?_ ?_ ?_
 intro hb o key
 iterate 3 refine qn o λo=>?_
 iterate 4 refine ls<|gnu o rfl rfl rfl λa o=>?_
 exact qn o λo=>qk o (Ad o rfl rfl) key u hb
 intro hb o key
 refine qg o (Ab o rfl) λo=>qg o (Ba o rfl) λo=>qg o (Ab o rfl) λo=>gr (Fk:=[(1,PT C0),(3,Ac E0),(89,.bool false),(97,.bool ((!D0) && (decide (0 < (p1.F.length:Int)))))]) 92 5 o u ?_ ?_ ?_
 intro hb o key
 exact qg o (Af o Gy rfl) λo=>qg o (Ag o isAgg49 rfl (u.ld.cellB t0 rfl)) λo=>qg o (Ak (α:=api_Node) (xs:=p1.F) o runUnderlying49 rfl) λo=>qg o (Bd o rfl rfl) λo=>ql o (Ad o rfl rfl) key u hb
 intro hb o key
 iterate 4 refine qn o λo=>?_
 exact ql o (Ae o rfl rfl) key u hb
 intro a w o u
 exact qk o (Ae o rfl rfl) key u hb
 intro a w o u
 refine re<|tn<|?_
 exact ⟨((D0 != C1) || ((!D0) && (decide (0 < (p1.F.length:Int))))),hm,o.hs,u⟩
 rintro a w ⟨W0,hm,o,u⟩
 unfold Z46 at hm
 rcases bit hm with ⟨R0,hm⟩ | ⟨R0,hm⟩
 refine ctv o rfl R0<|th<|rg<|qa o rfl λo=>re<|tn<|wr<|tr<|?_
 obtain rfl:=si hm
 exact r1 o results75 rfl ⟨rfl,u.keep⟩
 refine cfv o rfl R0<|wk<|tn<|th<|th<|?_
 obtain ⟨S1,R1,hm⟩:=bs hm
 refine rg<|qm o rfl λo=>ls<|cr o call113 (N4 (Ai _) R1) u λu o=>re<|?_
 rcases bit hm with ⟨S0,hm⟩ | ⟨S0,hm⟩
 refine tn<|ctv o rfl S0<|th<|rg<|qv o (Af o Gk rfl) λo=>qv o (Ag o isAgg3 rfl (u.ld.cellB t0 rfl)) λo=>qv o (Bl o rfl rfl) λo=>qm o rfl λo=>gr (Fk:=[(108,.bool ((decide (1≤p1.N)) && (decide (p1.N≤8))))]) 104 4 o u ?_ ?_ ?_
 intro hb o key
 exact qg o (Af o Gk rfl) λo=>qg o (Ag o isAgg3 rfl (u.ld.cellB t0 rfl)) λo=>qg o (Dc o rfl rfl) λo=>qk o (Ad o rfl rfl) key u hb
 intro hb o key
 iterate 3 refine qn o λo=>?_
 exact qk o (Ae o rfl rfl) key u hb
 intro a w o u
 refine qa o rfl λo=>re<|tn<|wr<|tr<|?_
 obtain rfl:=si hm
 exact r1 o results75 rfl ⟨rfl,u.keep⟩
 refine tn<|cfv o rfl S0<|wk<|tn<|th<|rg<|qv o (Af o Gk rfl) λo=>qv o (Ag o isAgg3 rfl (u.ld.cellB t0 rfl)) λo=>qv o (An o rfl rfl) λo=>qa o rfl λo=>re<|tn<|wr<|?_
 obtain rfl:=si hm
 exact r1 o results75 rfl ⟨rfl,u.keep⟩
set_option maxHeartbeats 4000000 in
theorem JaJ:∀ (N:Nat) {w0:World} {H:PH} (hH:H.le w0) {G0:Option Addr} {E0:Nat} {p1:(List api_Stmt)} (K0:p1.length≤E0) (M0:SR H G0 p1) {p6:Int} {r:Int} (hm:Z3z N p1 p6=some r),Tot Tryz.prog 76 #[SL G0 p1 E0,i6 p6] w0 (λv w'=>v=i6 r∧Keep Nil w0 w'):=by
 intro N
 induction N with
  | zero=>intros;rename_i hm;simp [Z3z] at hm
  | succ N ih=>
 intro w0 H hH G0 E0 p1 K0 M0 p6 r hm
 rw [Z3z] at hm
 refine fn0 func76 rfl ntmps76 rfl rfl λa o=>?_
 have u:St w0 Nil [H] [] w0:=start1 hH
 refine th<|rg<|qa o rfl λo=>re<|tn<|th<|rg<|qa o rfl λo=>qa o rfl λo=>re<|tn<|th<|Av (λa w=>∃ (X0:Int),Z40 X0=some r∧Fr 135 [(5,i6 X0)] a∧St w0 Nil [H] [] w) ?_ ?_
 refine wb<|lp (α:=Nat×Int×Int) (λgh a w=>match gh with | (J0,F0,D0)=>(Z43 (Z3z N) N Z40 p1 p6) J0 F0 D0=some r∧Fr 135 [(0,SL G0 p1 E0),(1,i6 p6),(5,i6 F0),(6,i6 D0)] a∧St w0 Nil [H] [] w) (λgh=>gh.1) (N,0,0) ⟨hm,o.hs,u⟩ ?_
 rintro ⟨J0,F0,D0⟩ a w ⟨hm,o,u⟩
 obtain _ | J0:=J0
 simp [Z43] at hm
 rw [Z43] at hm
 refine th<|th<|rg<|qm o rfl λo=>qm o rfl λo=>qv o (Ak (α:=api_Stmt) (xs:=p1) o runUnderlying46 rfl) λo=>qv o (Ao o rfl rfl) λo=>re<|?_
 rcases bip hm with ⟨Y0,hm⟩ | ⟨Y0,hm⟩
 refine tn<|ctv o rfl Y0<|wk<|tn<|wb<|th<|?_
 obtain ⟨C0,h9,hm⟩:=bs hm
 obtain ⟨B2,M1,E1⟩:=SR.get M0 h9
 obtain ⟨j0,T0,n0,U0,rfl,S1,T1,U1,V1⟩:=Bm M1
 refine rg<|qm o rfl λo=>qm o rfl λo=>qv o (Am o runUnderlying46 sizeOf51 rfl rfl h9 (SR.oaI M0 (by decide) h9)) λo=>qv o (Ay o isAgg51 sizeOf51 rfl rfl (λj v hj=>PH.le.cell (Lds.le u.ld) (E1 j v hj))) λo=>ls<|Au (cs:=[i6 0,Ac [],Ac [],.slice none 0 0,.slice none 0 0,i6 0,i6 0,i6 0,i6 0].toArray) o rfl u zeroValue51 rfl λI0 w a u o=>ls<|Az o u sizeOf51 rfl rfl rfl rfl (Al rfl) .head λw u=>re<|tn<|th<|th<|rg<|qv o (Af o Dx rfl) λo=>qv o (Ag o isAgg3 rfl (u.ld.cellB t0 rfl)) λo=>qv o (Ao o rfl rfl) λo=>qm o rfl λo=>gr (Fk:=[(0,SL G0 p1 E0),(1,i6 p6),(5,i6 F0),(6,i6 D0),(7,PT I0),(27,.bool ((decide (C0.Body < 0)) || (decide (C0.Else < 0))))]) 23 4 o u ?_ ?_ ?_
 intro hb o key
 iterate 3 refine qn o λo=>?_
 exact qk o (Ad o rfl rfl) key u hb
 intro hb o key
 exact qg o (Af o Ei rfl) λo=>qg o (Ag o isAgg3 rfl (u.ld.cellB t0 rfl)) λo=>qg o (Ao o rfl rfl) λo=>qk o (Ae o rfl rfl) key u hb
 intro a w o u
 refine qm o rfl λo=>gr (Fk:=[(0,SL G0 p1 E0),(1,i6 p6),(5,i6 F0),(6,i6 D0),(7,PT I0),(32,.bool (((decide (C0.Body < 0)) || (decide (C0.Else < 0))) || (decide (40 < C0.Body))))]) 28 4 o u ?_ ?_ ?_
 intro hb o key
 iterate 3 refine qn o λo=>?_
 exact qk o (Ad o rfl rfl) key u hb
 intro hb o key
 exact qg o (Af o Dx rfl) λo=>qg o (Ag o isAgg3 rfl (u.ld.cellB t0 rfl)) λo=>qg o (Bd o rfl rfl) λo=>qk o (Ae o rfl rfl) key u hb
 intro a w o u
 refine qm o rfl λo=>gr (Fk:=[(0,SL G0 p1 E0),(1,i6 p6),(5,i6 F0),(6,i6 D0),(7,PT I0),(37,.bool ((((decide (C0.Body < 0)) || (decide (C0.Else < 0))) || (decide (40 < C0.Body))) || (decide (40 < C0.Else))))]) 33 4 o u ?_ ?_ ?_
 intro hb o key
 iterate 3 refine qn o λo=>?_
 exact qk o (Ad o rfl rfl) key u hb
 intro hb o key
 exact qg o (Af o Ei rfl) λo=>qg o (Ag o isAgg3 rfl (u.ld.cellB t0 rfl)) λo=>qg o (Bd o rfl rfl) λo=>qk o (Ae o rfl rfl) key u hb
 intro a w o u
 refine qm o rfl λo=>gr (Fk:=[(0,SL G0 p1 E0),(1,i6 p6),(5,i6 F0),(6,i6 D0),(7,PT I0),(50,.bool (((((decide (C0.Body < 0)) || (decide (C0.Else < 0))) || (decide (40 < C0.Body))) || (decide (40 < C0.Else))) || (decide ((p1.length:Int) < (IntKind.i64.wrap ((IntKind.i64.wrap ((IntKind.i64.wrap (D0+1))+C0.Body))+C0.Else))))))]) 38 12 o u ?_ ?_ ?_
 intro hb o key
 iterate 11 refine qn o λo=>?_
 exact qk o (Ad o rfl rfl) key u hb
 intro hb o key
 exact qg o (Ab o rfl) λo=>qg o (Ap o rfl rfl) λo=>qg o (Af o Dx rfl) λo=>qg o (Ag o isAgg3 rfl (u.ld.cellB t0 rfl)) λo=>qg o (Ap o rfl rfl) λo=>qg o (Af o Ei rfl) λo=>qg o (Ag o isAgg3 rfl (u.ld.cellB t0 rfl)) λo=>qg o (Ap o rfl rfl) λo=>qg o (Ab o rfl) λo=>qg o (Ak (α:=api_Stmt) (xs:=p1) o runUnderlying46 rfl) λo=>qg o (Bd o rfl rfl) λo=>qk o (Ae o rfl rfl) key u hb
 intro a w o u
 refine re<|?_
 rcases bit hm with ⟨O0,hm⟩ | ⟨O0,hm⟩
 refine tn<|ctv o rfl O0<|th<|rg<|qa o rfl λo=>re<|tn<|wr<|tr<|br<|tr<|br<|tr<|?_
 obtain rfl:=si hm
 exact r1 o results76 rfl ⟨rfl,u.keep⟩
 refine tn<|cfv o rfl O0<|wk<|tn<|th<|th<|rg<|qv o (Af o Dx rfl) λo=>qv o (Ag o isAgg3 rfl (u.ld.cellB t0 rfl)) λo=>qv o (Bd o rfl rfl) λo=>qm o rfl λo=>gr (Fk:=[(0,SL G0 p1 E0),(1,i6 p6),(5,i6 F0),(6,i6 D0),(7,PT I0),(58,.bool ((decide (0 < C0.Body)) && (decide (C0.Kind≠11))))]) 54 4 o u ?_ ?_ ?_
 intro hb o key
 exact qg o (Af o Cj rfl) λo=>qg o (Ag o isAgg3 rfl (u.ld.cellB t0 rfl)) λo=>qg o (Bt o rfl rfl) λo=>qk o (Ad o rfl rfl) key u hb
 intro hb o key
 iterate 3 refine qn o λo=>?_
 exact qk o (Ae o rfl rfl) key u hb
 intro a w o u
 refine qm o rfl λo=>gr (Fk:=[(0,SL G0 p1 E0),(1,i6 p6),(5,i6 F0),(6,i6 D0),(7,PT I0),(63,.bool (((decide (0 < C0.Body)) && (decide (C0.Kind≠11))) && (decide (C0.Kind≠12))))]) 59 4 o u ?_ ?_ ?_
 intro hb o key
 exact qg o (Af o Cj rfl) λo=>qg o (Ag o isAgg3 rfl (u.ld.cellB t0 rfl)) λo=>qg o (Bt o rfl rfl) λo=>qk o (Ad o rfl rfl) key u hb
 intro hb o key
 iterate 3 refine qn o λo=>?_
 exact qk o (Ae o rfl rfl) key u hb
 intro a w o u
 refine qm o rfl λo=>gr (Fk:=[(0,SL G0 p1 E0),(1,i6 p6),(5,i6 F0),(6,i6 D0),(7,PT I0),(73,.bool ((((decide (0 < C0.Body)) && (decide (C0.Kind≠11))) && (decide (C0.Kind≠12))) || ((decide (0 < C0.Else)) && (decide (C0.Kind≠11)))))]) 64 9 o u ?_ ?_ ?_
 intro hb o key
 iterate 4 refine qn o λo=>?_
 iterate 3 refine ls<|gnu o rfl rfl rfl λa o=>?_
 exact qn o λo=>qk o (Ad o rfl rfl) key u hb
 intro hb o key
 refine qg o (Af o Ei rfl) λo=>qg o (Ag o isAgg3 rfl (u.ld.cellB t0 rfl)) λo=>qg o (Bd o rfl rfl) λo=>qg o (Ab o rfl) λo=>gr (Fk:=[(0,SL G0 p1 E0),(1,i6 p6),(5,i6 F0),(6,i6 D0),(7,PT I0),(64,.bool false),(72,.bool ((decide (0 < C0.Else)) && (decide (C0.Kind≠11))))]) 68 4 o u ?_ ?_ ?_
 intro hb o key
 exact qg o (Af o Cj rfl) λo=>qg o (Ag o isAgg3 rfl (u.ld.cellB t0 rfl)) λo=>qg o (Bt o rfl rfl) λo=>ql o (Ad o rfl rfl) key u hb
 intro hb o key
 iterate 3 refine qn o λo=>?_
 exact ql o (Ae o rfl rfl) key u hb
 intro a w o u
 exact qk o (Ae o rfl rfl) key u hb
 intro a w o u
 refine qm o rfl λo=>gr (Fk:=[(0,SL G0 p1 E0),(1,i6 p6),(5,i6 F0),(6,i6 D0),(7,PT I0),(82,.bool (((((decide (0 < C0.Body)) && (decide (C0.Kind≠11))) && (decide (C0.Kind≠12))) || ((decide (0 < C0.Else)) && (decide (C0.Kind≠11)))) || ((decide (C0.Kind=13)) && (decide (p6=0)))))]) 74 8 o u ?_ ?_ ?_
 intro hb o key
 iterate 4 refine qn o λo=>?_
 iterate 2 refine ls<|gnu o rfl rfl rfl λa o=>?_
 exact qn o λo=>qk o (Ad o rfl rfl) key u hb
 intro hb o key
 refine qg o (Af o Cj rfl) λo=>qg o (Ag o isAgg3 rfl (u.ld.cellB t0 rfl)) λo=>qg o (An o rfl rfl) λo=>qg o (Ab o rfl) λo=>gr (Fk:=[(0,SL G0 p1 E0),(1,i6 p6),(5,i6 F0),(6,i6 D0),(7,PT I0),(74,.bool false),(81,.bool ((decide (C0.Kind=13)) && (decide (p6=0))))]) 78 3 o u ?_ ?_ ?_
 intro hb o key
 exact qg o (Ab o rfl) λo=>qg o (An o rfl rfl) λo=>ql o (Ad o rfl rfl) key u hb
 intro hb o key
 iterate 2 refine qn o λo=>?_
 exact ql o (Ae o rfl rfl) key u hb
 intro a w o u
 exact qk o (Ae o rfl rfl) key u hb
 intro a w o u
 refine re<|?_
 rcases bit hm with ⟨P0,hm⟩ | ⟨P0,hm⟩
 refine tn<|ctv o rfl P0<|th<|rg<|qa o rfl λo=>re<|tn<|wr<|tr<|br<|tr<|br<|tr<|?_
 obtain rfl:=si hm
 exact r1 o results76 rfl ⟨rfl,u.keep⟩
 refine tn<|cfv o rfl P0<|wk<|tn<|th<|rxS 8 u wide (by kernel_rfl) λw u=>?_
 iterate 2 refine xq u.ld o (λw hl=>Ab o rfl) λo=>?_
 refine xr u o (Ap o rfl rfl) λo=>xr u o (Af o Dx rfl) λo=>xq u.ld o (λw hl=>Ag o isAgg3 rfl (hl.cellB t0 rfl)) λo=>xr u o (Ap o rfl rfl) λo=>?_
 iterate 2 refine xq u.ld o (λw hl=>Bq o rfl) λo=>?_
 refine xe<|tn<|th<|th<|rg<|qv o (Af o Cj rfl) λo=>qv o (Ag o isAgg3 rfl (u.ld.cellB t0 rfl)) λo=>qv o (An o rfl rfl) λo=>re<|tn<|Av (λa w=>∃ (V0:Int),(Z41 (Z3z N) ((Z43 (Z3z N) N Z40 p1 p6) J0) p1 C0 F0 D0) V0=some r∧Fr 135 [(0,SL G0 p1 E0),(1,i6 p6),(5,i6 F0),(6,i6 D0),(7,PT I0),(8,i6 V0),(9,i6 (IntKind.i64.wrap ((IntKind.i64.wrap (D0+1))+C0.Body)))] a∧St w0 Nil [H] [bk I0 [i6 C0.Kind,Ac C0.Reg,Ac C0.Name,SL j0 C0.E T0,SL n0 C0.F U0,i6 C0.N,i6 C0.Body,i6 C0.Else,i6 C0.At] 51] w) ?_ ?_
 rcases bip hm with ⟨Q0,hm⟩ | ⟨Q0,hm⟩
 refine ctv o rfl Q0<|rg<|qm o rfl λo=>qv o (Ap o rfl rfl) λo=>qa o rfl λo=>re<|tn<|?_
 exact ⟨(IntKind.i64.wrap (p6+1)),hm,o.hs,u⟩
 refine cfv o rfl Q0<|wk<|tn<|?_
 exact ⟨p6,hm,o.hs,u⟩
 rintro a w ⟨V0,hm,o,u⟩
 unfold Z41 at hm
 refine th<|th<|rg<|qv o (Af o Cj rfl) λo=>qv o (Ag o isAgg3 rfl (u.ld.cellB t0 rfl)) λo=>qv o (An o rfl rfl) λo=>qm o rfl λo=>gr (Fk:=[(0,SL G0 p1 E0),(1,i6 p6),(5,i6 F0),(6,i6 D0),(7,PT I0),(8,i6 V0),(9,i6 (IntKind.i64.wrap ((IntKind.i64.wrap (D0+1))+C0.Body))),(101,.bool ((decide (C0.Kind=11)) || (decide (C0.Kind=12))))]) 97 4 o u ?_ ?_ ?_
 intro hb o key
 iterate 3 refine qn o λo=>?_
 exact qk o (Ad o rfl rfl) key u hb
 intro hb o key
 exact qg o (Af o Cj rfl) λo=>qg o (Ag o isAgg3 rfl (u.ld.cellB t0 rfl)) λo=>qg o (An o rfl rfl) λo=>qk o (Ae o rfl rfl) key u hb
 intro a w o u
 refine re<|tn<|Av (λa w=>∃ (W0:Int),(Z42 ((Z43 (Z3z N) N Z40 p1 p6) J0) C0 D0) W0=some r∧Fr 135 [(0,SL G0 p1 E0),(1,i6 p6),(5,i6 W0),(7,PT I0),(9,i6 (IntKind.i64.wrap ((IntKind.i64.wrap (D0+1))+C0.Body)))] a∧St w0 Nil [H] [bk I0 [i6 C0.Kind,Ac C0.Reg,Ac C0.Name,SL j0 C0.E T0,SL n0 C0.F U0,i6 C0.N,i6 C0.Body,i6 C0.Else,i6 C0.At] 51] w) ?_ ?_
 rcases bit hm with ⟨R0,hm⟩ | ⟨R0,hm⟩
 refine ctv o rfl R0<|th<|?_
 obtain ⟨C2,B1,hm⟩:=bs hm
 obtain ⟨X1,Q1,e30,e31,F1,G1⟩:=SR.sub (sz:=9) M0 K0 rfl B1
 obtain ⟨p0,O1,hm⟩:=bs hm
 obtain ⟨E2,C1,hm⟩:=bs hm
 obtain ⟨Y1,R1,e40,e41,I1,J1⟩:=SR.sub (sz:=9) M0 K0 rfl C1
 obtain ⟨u0,P1,hm⟩:=bs hm
 refine rdS 18 u wide λw u=>dr 0 u o rfl (Ab o rfl) λo=>dr 1 u o rfl (Ab o rfl) λo=>dr 2 u o rfl (Ap o rfl rfl) λo=>dr 3 u o rfl (Ab o rfl) λo=>dr 4 u o rfl (Hc (xs:=p1) (vl:=(IntKind.i64.wrap (D0+1))) (vh:=(IntKind.i64.wrap ((IntKind.i64.wrap (D0+1))+C0.Body))) o runUnderlying46 sizeOf51 rfl K0 rfl rfl B1 e30 e31) λo=>dr 5 u o rfl (Ab o rfl) λo=>dr 7 u o rfl (Ab o rfl) λo=>dr 8 u o rfl (Ab o rfl) λo=>dr 9 u o rfl (Ab o rfl) λo=>dr 10 u o rfl (Af o Ei rfl) λo=>dq 11 u.ld o rfl (λw hl=>Ag o isAgg3 rfl (hl.cellB t0 rfl)) λo=>dr 12 u o rfl (Ap o rfl rfl) λo=>dr 13 u o rfl (Hc (xs:=p1) (vl:=(IntKind.i64.wrap ((IntKind.i64.wrap (D0+1))+C0.Body))) (vh:=(IntKind.i64.wrap ((IntKind.i64.wrap ((IntKind.i64.wrap (D0+1))+C0.Body))+C0.Else))) o runUnderlying46 sizeOf51 rfl K0 rfl rfl C1 e40 e41) λo=>dr 14 u o rfl (Ab o rfl) λo=>da1 (i:=6) (by kernel_rfl) ?_
 refine di (i:=6) rfl<|cr o call76 (ih (Ai _) F1 (St.srH u G1) O1) u λu o=>⟨λ_=>u.ld,?_⟩
 refine da1 (i:=15) (by kernel_rfl) ?_
 refine di (i:=15) rfl<|cr o call76 (ih (Ai _) I1 (St.srH u J1) P1) u λu o=>⟨λ_=>u.ld,?_⟩
 refine dr 16 u o rfl (Bq o rfl) λo=>dr 17 u o rfl (Bq o rfl) λo=>de (by kernel_rfl)<|tn<|th<|th<|rg<|qm o rfl λo=>qv o (Ao o rfl rfl) λo=>qm o rfl λo=>gr (Fk:=[(0,SL G0 p1 E0),(1,i6 p6),(5,i6 F0),(7,PT I0),(9,i6 (IntKind.i64.wrap ((IntKind.i64.wrap (D0+1))+C0.Body))),(10,i6 p0),(11,i6 u0),(123,.bool ((decide (p0 < 0)) || (decide (u0 < 0))))]) 120 3 o u ?_ ?_ ?_
 intro hb o key
 iterate 2 refine qn o λo=>?_
 exact qk o (Ad o rfl rfl) key u hb
 intro hb o key
 exact qg o (Ab o rfl) λo=>qg o (Ao o rfl rfl) λo=>qk o (Ae o rfl rfl) key u hb
 intro a w o u
 refine re<|?_
 rcases bit hm with ⟨S0,hm⟩ | ⟨S0,hm⟩
 refine tn<|ctv o rfl S0<|th<|rg<|qa o rfl λo=>re<|tn<|wr<|tr<|tr<|br<|tr<|br<|tr<|?_
 obtain rfl:=si hm
 exact r1 o results76 rfl ⟨rfl,u.keep⟩
 refine tn<|cfv o rfl S0<|wk<|tn<|rg<|qm o rfl λo=>qm o rfl λo=>qv o (Ap o rfl rfl) λo=>qm o rfl λo=>qv o (Ap o rfl rfl) λo=>qv o (Ty o rfl rfl rfl) λo=>qa o rfl λo=>re<|tn<|?_
 exact ⟨(max (max F0 (IntKind.i64.wrap (1+p0))) (IntKind.i64.wrap (1+u0))),hm,o.hs,u⟩
 refine cfv o rfl R0<|wk<|tn<|?_
 exact ⟨F0,hm,o.hs,u⟩
 rintro a w ⟨W0,hm,o,u⟩
 unfold Z42 at hm
 refine rg<|qm o rfl λo=>qv o (Af o Ei rfl) λo=>qv o (Ag o isAgg3 rfl (u.ld.cellB t0 rfl)) λo=>qv o (Ap o rfl rfl) λo=>qa o rfl λo=>re<|bn<|tn<|?_
 replace u:=u.pickL .nil
 exact ⟨(J0,W0,(IntKind.i64.wrap ((IntKind.i64.wrap ((IntKind.i64.wrap (D0+1))+C0.Body))+C0.Else))),⟨hm,o.hs,u⟩,Nat.lt_succ_self _⟩
 refine tn<|cfv o rfl Y0<|we<|tx<|tx<|bx<|tn<|?_
 exact ⟨F0,hm,o.has ⟨rfl,trivial⟩,u⟩
 rintro a w ⟨X0,hm,o,u⟩
 unfold Z40 at hm
 refine th<|rg<|qm o rfl λo=>qa o rfl λo=>re<|tn<|wr<|?_
 obtain rfl:=si hm
 exact r1 o results76 rfl ⟨rfl,u.keep⟩
theorem JaK (hH:H.le w0) {G0:Option Addr} {D0:Nat} {p1:(List api_Stmt)} (Y0:p1.length≤D0) (J0:SR H G0 p1) {r:Bool} (hm:Z3s N p1=some r):Tot Tryz.prog 44 #[SL G0 p1 D0] w0 (λv w'=>v=.bool r∧Keep Nil w0 w'):=by
 unfold Z3s at hm
 refine fn0 func44 rfl ntmps44 rfl rfl λa o=>?_
 have u:St w0 Nil [H] [] w0:=start1 hH
 refine th<|rg<|qa o rfl λo=>re<|tn<|th<|th<|rg<|qm o rfl λo=>qv o (Ak (α:=api_Stmt) (xs:=p1) o runUnderlying46 rfl) λo=>qv o (Bd o rfl rfl) λo=>re<|?_
 rcases bip hm with ⟨K0,hm⟩ | ⟨K0,hm⟩
 refine tn<|ctv o rfl K0<|th<|rg<|qa o rfl λo=>re<|tn<|wr<|tr<|?_
 obtain rfl:=si hm
 exact r1 o results44 rfl ⟨rfl,u.keep⟩
 refine tn<|cfv o rfl K0<|wk<|tn<|th<|th<|rg<|qa o rfl λo=>re<|tn<|Av (λa w=>(Z3t N p1)=some r∧Fr 28 [(0,SL G0 p1 D0)] a∧St w0 Nil [H] [] w) ?_ ?_
 refine wb<|lp (α:=Nat×Int) (λgh a w=>match gh with | (E0,I0)=>(Z3u N (Z3t N p1) p1) E0 I0=some r∧Fr 28 [(0,SL G0 p1 D0),(3,i6 I0)] a∧St w0 Nil [H] [] w) (λgh=>gh.1) (N,0) ⟨hm,o.has ⟨rfl,rfl,trivial⟩,u⟩ ?_
 rintro ⟨E0,I0⟩ a w ⟨hm,o,u⟩
 obtain _ | E0:=E0
 simp [Z3u] at hm
 rw [Z3u] at hm
 refine th<|th<|rg<|qm o rfl λo=>qm o rfl λo=>qv o (Ak (α:=api_Stmt) (xs:=p1) o runUnderlying46 rfl) λo=>qv o (Ao o rfl rfl) λo=>re<|?_
 rcases bip hm with ⟨M0,hm⟩ | ⟨M0,hm⟩
 refine tn<|ctv o rfl M0<|wk<|tn<|th<|wb<|th<|?_
 obtain ⟨C0,h9,hm⟩:=bs hm
 obtain ⟨u0,j0,R0⟩:=SR.get J0 h9
 obtain ⟨S0,O0,T0,P0,rfl,U0,V0,W0,X0⟩:=Bm j0
 obtain ⟨B1,n0,hm⟩:=bs hm
 refine rg<|qm o rfl λo=>qm o rfl λo=>qv o (Am o runUnderlying46 sizeOf51 rfl rfl h9 (SR.oaI J0 (by decide) h9)) λo=>qv o (Ay o isAgg51 sizeOf51 rfl rfl (λj v hj=>PH.le.cell (Lds.le u.ld) (R0 j v hj))) λo=>ls<|cr o call75 (Jbr (Ai _) (Enc.mono (St.up u) (show Enc.rep (α:=api_Stmt) H [i6 C0.Kind,Ac C0.Reg,Ac C0.Name,SL S0 C0.E O0,SL T0 C0.F P0,i6 C0.N,i6 C0.Body,i6 C0.Else,i6 C0.At] C0 from ⟨_,_,rfl,rfl,⟨_,_,rfl,rfl,⟨_,_,rfl,rfl,⟨_,_,rfl,⟨_,_,rfl,U0,V0⟩,⟨_,_,rfl,⟨_,_,rfl,W0,X0⟩,⟨_,_,rfl,rfl,⟨_,_,rfl,rfl,⟨_,_,rfl,rfl,rfl⟩⟩⟩⟩⟩⟩⟩⟩)) n0) u λu o=>qv o (Ba o rfl) λo=>re<|?_
 rcases bit hm with ⟨F0,hm⟩ | ⟨F0,hm⟩
 refine tn<|cfv o rfl (by rw [F0];rfl)<|wk<|bn<|tn<|rg<|qm o rfl λo=>qv o (Ap o rfl rfl) λo=>qa o rfl λo=>re<|tn<|?_
 exact ⟨(E0,(IntKind.i64.wrap (I0+1))),⟨hm,o.has ⟨rfl,rfl,trivial⟩,u⟩,Nat.lt_succ_self _⟩
 refine tn<|ctv o rfl (by rw [F0];rfl)<|th<|rg<|qa o rfl λo=>re<|tn<|wr<|br<|tr<|tr<|br<|tr<|?_
 obtain rfl:=si hm
 exact r1 o results44 rfl ⟨rfl,u.keep⟩
 refine tn<|cfv o rfl M0<|we<|tx<|tx<|bx<|tn<|?_
 exact ⟨hm,o.has ⟨rfl,trivial⟩,u⟩
 rintro a w ⟨hm,o,u⟩
 unfold Z3t at hm
 refine th<|?_
 obtain ⟨Q0,p0,hm⟩:=bs hm
 refine rg<|qm o rfl λo=>ls<|cr o call76 (JaJ _ (Ai _) Y0 (St.srH u J0) p0) u λu o=>qa o rfl λo=>re<|tn<|th<|rg<|qm o rfl λo=>qv o (Bl o rfl rfl) λo=>qm o rfl λo=>gr (Fk:=[(27,.bool ((decide (0≤Q0)) && (decide (Q0≤12))))]) 24 3 o u ?_ ?_ ?_
 intro hb o key
 exact qg o (Ab o rfl) λo=>qg o (Dc o rfl rfl) λo=>qk o (Ad o rfl rfl) key u hb
 intro hb o key
 iterate 2 refine qn o λo=>?_
 exact qk o (Ae o rfl rfl) key u hb
 intro a w o u
 refine qa o rfl λo=>re<|tn<|wr<|?_
 obtain rfl:=si hm
 exact r1 o results44 rfl ⟨rfl,u.keep⟩
end Go.LM.LB
