/- Walks, lifted by program. No condition beyond the theorems' own premises. -/
import Derived.Test.YtgdkaddhhpgeiaaGreatDoorLBQ4
namespace Go.LM.LB
open Go Go.LL Go.MD Go.LM Go.Proofs Go.MD.LB Go.Proofs.Tryz
set_option maxRecDepth 100000
variable {N:Nat} {w0:World} {H:PH}
theorem Ic (hH:H.le w0) {b2:Nat} {p1:leadlineref05_In} {oa3:Option Addr} {cap4:Nat} (D0:p1.L.length≤cap4) (E0:SR H oa3 p1.L) {p7:Str} (hO:(sepA [bk b2 [SL oa3 p1.L cap4,i6 p1.At,i6 p1.E,i6 p1.Pos] 125]).ok (hp w0)) (hD:∀ b,(sepA [bk b2 [SL oa3 p1.L cap4,i6 p1.At,i6 p1.E,i6 p1.Pos] 125]).fp b→H b=none) {r:(Bool×leadlineref05_In)} (hm:Z4a N p1 p7=some r):Tot Tryz.prog 102 #[PT b2,Ac p7] w0 (λv w'=>∃ (oa1m:Option Addr) (cap1m:Nat),v=.bool r.1∧r.2.L.length≤cap1m∧SR H oa1m r.2.L∧Mut w0 (sepA [bk b2 [SL oa3 p1.L cap4,i6 p1.At,i6 p1.E,i6 p1.Pos] 125]) (sepA [bk b2 [SL oa1m r.2.L cap1m,i6 r.2.At,i6 r.2.E,i6 r.2.Pos] 125]) w'):=by
 unfold Z4a at hm
 refine fn0 func102 rfl ntmps102 rfl rfl λa o=>?_
 have u:=Cp hH hO hD
 refine th<|rg<|qa o rfl λo=>re<|tn<|th<|th<|Av (λa w=>∃ (F0:Bool),(Z4b p1) F0=some r∧Fr 30 [(0,PT b2),(21,.bool F0)] a∧St w0 (sepA [bk b2 [SL oa3 p1.L cap4,i6 p1.At,i6 p1.E,i6 p1.Pos] 125]).fp [H] [bk b2 [SL oa3 p1.L cap4,i6 p1.At,i6 p1.E,i6 p1.Pos] 125] w) ?_ ?_
 rcases bip hm with ⟨G0,hm⟩ | ⟨G0,hm⟩
 obtain ⟨I0,J0,hm⟩:=bs hm
 refine rdS 17 u wide λw u=>dr 0 u o rfl (Ab o rfl) λo=>dr 1 u o rfl (Aj o rfl) λo=>dr 2 u o rfl (Af o Cs rfl) λo=>dq 3 u.ld o rfl (λw hl=>Ag o isAgg29 rfl (hl.cellB t0 rfl)) λo=>dr 4 u o rfl (An o rfl rfl) λo=>dr 5 u o rfl (Ar (Ab o rfl) (congrArg Value.bool G0)) λo=>dg 6 u.ld o rfl (λw hl=>Ab o rfl) λo=>dg 7 u.ld o rfl (λw hl=>Aj o rfl) λo=>dg 8 u.ld o rfl (λw hl=>Af o Ck rfl) λo=>dg 9 u.ld o rfl (λw hl=>Ag o isAgg120 rfl (hl.cellB t0 rfl)) λo=>dg 10 u.ld o rfl (λw hl=>Ab o rfl) λo=>dg 11 u.ld o rfl (λw hl=>Aj o rfl) λo=>dg 12 u.ld o rfl (λw hl=>Af o Bi rfl) λo=>dg 13 u.ld o rfl (λw hl=>Ag o isAgg3 rfl (hl.cellB t0 rfl)) λo=>dg 14 u.ld o rfl (λw hl=>Ab o rfl) λo=>da1 (i:=15) (by kernel_rfl) ?_
 refine di (i:=15) rfl<|gy o rfl rfl<|cr o call139 (Ge (Ai _) D0 (St.srH u E0) J0) u λu o=>⟨λ_=>u.ld,?_⟩
 refine dr 16 u o rfl (Ad o rfl rfl) λo=>de (by kernel_rfl)<|tn<|?_
 exact ⟨I0,hm,o.has ⟨rfl,rfl,trivial⟩,u⟩
 refine rxS 17 u wide (by kernel_rfl) λw u=>xm u o rfl λo=>xr u o (Aj o rfl) λo=>xr u o (Af o Cs rfl) λo=>xq u.ld o (λw hl=>Ag o isAgg29 rfl (hl.cellB t0 rfl)) λo=>xr u o (An o rfl rfl) λo=>xr u o (Ar (Ab o rfl) (congrArg Value.bool G0)) λo=>?_
 iterate 10 refine xn u.ld o λo=>?_
 refine xr u o (Ae o rfl rfl) λo=>xe<|tn<|?_
 exact ⟨false,hm,o.has ⟨rfl,rfl,trivial⟩,u⟩
 rintro a w ⟨F0,hm,o,u⟩
 unfold Z4b at hm
 rcases bit hm with ⟨C0,hm⟩ | ⟨C0,hm⟩
 refine ctv o rfl C0<|th<|rg<|qm o rfl λo=>qm o rfl λo=>qv o (Aj o rfl) λo=>qv o (Af o Bi rfl) λo=>qv o (Ag o isAgg3 rfl (u.ld.cellB t0 rfl)) λo=>qv o (Ap o rfl rfl) λo=>qv o (Aj o rfl) λo=>qv o (Af o Bi rfl) λo=>ls<|Ax o u sizeOf3 rfl rfl rfl rfl .head (.succ .zero) λw u=>re<|tn<|th<|rg<|qa o rfl λo=>re<|tn<|wr<|tr<|?_
 obtain rfl:=si hm
 exact r1 o results102 rfl ⟨oa3,cap4,rfl,D0,E0,(u.pickL (.cons .head .nil)).endMut⟩
 refine cfv o rfl C0<|wk<|tn<|th<|rg<|qa o rfl λo=>re<|tn<|wr<|?_
 obtain rfl:=si hm
 exact r1 o results102 rfl ⟨oa3,cap4,rfl,D0,E0,(u.pickL (.cons .head .nil)).endMut⟩
theorem Gr (hH:H.le w0) {G0:Option Addr} {E0:Nat} {p1:(List api_Token)} (_:p1.length≤E0) (C0:SR H G0 p1) {p6:Int} {r:Int} (hm:Z1e N p1 p6=some r):Tot Tryz.prog 143 #[SL G0 p1 E0,i6 p6] w0 (λv w'=>v=i6 r∧Keep Nil w0 w'):=by
 unfold Z1e at hm
 refine fn0 func143 rfl ntmps143 rfl rfl λa o=>?_
 have u:St w0 Nil [H] [] w0:=start1 hH
 refine th<|rg<|qa o rfl λo=>re<|tn<|th<|th<|rg<|qm o rfl λo=>qv o (Bl o rfl rfl) λo=>qm o rfl λo=>gr (Fk:=[(0,SL G0 p1 E0),(1,i6 p6),(12,.bool ((decide (0≤p6)) && (decide (p6 < (p1.length:Int)))))]) 7 5 o u ?_ ?_ ?_
 intro hb o key
 iterate 2 refine qg o (Ab o rfl) λo=>?_
 exact qg o (Ak (α:=api_Token) (xs:=p1) o runUnderlying120 rfl) λo=>qg o (Ao o rfl rfl) λo=>qk o (Ad o rfl rfl) key u hb
 intro hb o key
 iterate 4 refine qn o λo=>?_
 exact qk o (Ae o rfl rfl) key u hb
 intro a w o u
 refine re<|?_
 rcases bit hm with ⟨I0,hm⟩ | ⟨I0,hm⟩
 refine tn<|ctv o rfl I0<|th<|?_
 obtain ⟨Q0,h9,hm⟩:=bs hm
 obtain ⟨R0,M0,K0⟩:=SR.get C0 h9
 obtain rfl:=Bb M0
 refine rg<|qm o rfl λo=>qm o rfl λo=>qv o (Am o runUnderlying120 sizeOf130 rfl rfl h9 (SR.oaI C0 (by decide) h9)) λo=>qv o (Af o Dl rfl) λo=>qv o (Ag o isAgg3 rfl (PH.le.cell (Lds.le u.ld) (K0 3 _ rfl))) λo=>qa o rfl λo=>re<|tn<|wr<|tr<|?_
 obtain rfl:=si hm
 exact r1 o results143 rfl ⟨rfl,u.keep⟩
 refine tn<|cfv o rfl I0<|wk<|tn<|th<|th<|rg<|qm o rfl λo=>qv o (Ak (α:=api_Token) (xs:=p1) o runUnderlying120 rfl) λo=>qv o (An o rfl rfl) λo=>re<|?_
 rcases bip hm with ⟨F0,hm⟩ | ⟨F0,hm⟩
 refine tn<|ctv o rfl F0<|th<|rg<|qa o rfl λo=>re<|tn<|wr<|tr<|?_
 obtain rfl:=si hm
 exact r1 o results143 rfl ⟨rfl,u.keep⟩
 refine tn<|cfv o rfl F0<|wk<|tn<|th<|?_
 obtain ⟨O0,D0,hm⟩:=bs hm
 obtain ⟨S0,P0,J0⟩:=SR.get C0 D0
 obtain rfl:=Bb P0
 refine rxS 17 u wide (by kernel_rfl) λw u=>?_
 iterate 2 refine xq u.ld o (λw hl=>Ab o rfl) λo=>?_
 refine xr u o (Ak (α:=api_Token) (xs:=p1) o runUnderlying120 rfl) λo=>xr u o (Gs o rfl rfl) λo=>xr u o (Am o runUnderlying120 sizeOf130 rfl rfl D0 (SR.oaI C0 (by decide) D0)) λo=>xr u o (Af o Dl rfl) λo=>xq u.ld o (λw hl=>Ag o isAgg3 rfl (PH.le.cell (Lds.le hl) (J0 3 _ rfl))) λo=>?_
 iterate 2 refine xq u.ld o (λw hl=>Ab o rfl) λo=>?_
 refine xr u o (Ak (α:=api_Token) (xs:=p1) o runUnderlying120 rfl) λo=>xr u o (Gs o rfl rfl) λo=>xr u o (Am o runUnderlying120 sizeOf130 rfl rfl D0 (SR.oaI C0 (by decide) D0)) λo=>xr u o (Af o Em rfl) λo=>xq u.ld o (λw hl=>Ag o isAgg9 rfl (PH.le.cell (Lds.le hl) (J0 1 _ rfl))) λo=>xr u o (Bo (s:=O0.Text) o runUnderlying9 rfl) λo=>xr u o (Ap o rfl rfl) λo=>xr u o (Bq o rfl) λo=>xe<|tn<|wr<|?_
 obtain rfl:=si hm
 exact r1 o results143 rfl ⟨rfl,u.keep⟩
theorem Rk (hH:H.le w0) {b2:Nat} {p1:leadlineref05_In} {oa3:Option Addr} {cap4:Nat} (C0:p1.L.length≤cap4) (D0:SR H oa3 p1.L) (hO:(sepA [bk b2 [SL oa3 p1.L cap4,i6 p1.At,i6 p1.E,i6 p1.Pos] 125]).ok (hp w0)) (hD:∀ b,(sepA [bk b2 [SL oa3 p1.L cap4,i6 p1.At,i6 p1.E,i6 p1.Pos] 125]).fp b→H b=none) {r:leadlineref05_In} (hm:Z47 N p1=some r):Tot Tryz.prog 107 #[PT b2] w0 (λv w'=>∃ (oa1m:Option Addr) (cap1m:Nat),v=.tuple #[]∧r.L.length≤cap1m∧SR H oa1m r.L∧Mut w0 (sepA [bk b2 [SL oa3 p1.L cap4,i6 p1.At,i6 p1.E,i6 p1.Pos] 125]) (sepA [bk b2 [SL oa1m r.L cap1m,i6 r.At,i6 r.E,i6 r.Pos] 125]) w'):=by
 unfold Z47 at hm
 refine fn0 func107 rfl ntmps107 rfl rfl λa o=>?_
 have u:=Cp hH hO hD
 refine th<|rg<|qm o rfl λo=>qv o (Aj o rfl) λo=>qv o (Af o Cs rfl) λo=>qv o (Ag o isAgg29 rfl (u.ld.cellB t0 rfl)) λo=>qv o (An o rfl rfl) λo=>re<|?_
 rcases bip hm with ⟨F0,hm⟩ | ⟨F0,hm⟩
 refine tn<|ctv o rfl F0<|th<|rg<|qm o rfl λo=>qv o (Aj o rfl) λo=>qv o (Af o Cs rfl) λo=>ls<|Ax o u sizeOf29 rfl rfl rfl rfl .head (.succ (.succ .zero)) λw u=>re<|tn<|th<|th<|rxS 10 u wide (by kernel_rfl) λw u=>xm u o rfl λo=>xr u o (Aj o rfl) λo=>xr u o (Af o Bi rfl) λo=>xq u.ld o (λw hl=>Ag o isAgg3 rfl (hl.cellB t0 rfl)) λo=>xm u o rfl λo=>xr u o (Aj o rfl) λo=>xr u o (Af o Ck rfl) λo=>xq u.ld o (λw hl=>Ag o isAgg120 rfl (hl.cellB t0 rfl)) λo=>xr u o (Ak (α:=api_Token) (xs:=p1.L) o runUnderlying120 rfl) λo=>xr u o (Bl o rfl rfl) λo=>xe<|tn<|Av (λa w=>∃ (G0:Int),(Z48 N p1) G0=some r∧Fr 35 [(0,PT b2)] a∧St w0 (sepA [bk b2 [SL oa3 p1.L cap4,i6 p1.At,i6 p1.E,i6 p1.Pos] 125]).fp [H] [bk b2 [SL oa3 p1.L cap4,i6 p1.At,i6 G0,i6 p1.Pos] 125] w) ?_ ?_
 rcases bip hm with ⟨I0,hm⟩ | ⟨I0,hm⟩
 refine ctv o rfl I0<|rg<|qm o rfl λo=>qv o (Aj o rfl) λo=>qv o (Af o Cs rfl) λo=>ls<|Ax o u sizeOf29 rfl rfl rfl rfl .head (.succ (.succ .zero)) λw u=>re<|tn<|?_
 exact ⟨6,hm,o.has ⟨rfl,trivial⟩,u⟩
 refine cfv o rfl I0<|wk<|tn<|?_
 exact ⟨5,hm,o.has ⟨rfl,trivial⟩,u⟩
 rintro a w ⟨G0,hm,o,u⟩
 unfold Z48 at hm
 obtain ⟨J0,E0,hm⟩:=bs hm
 refine rdL Ah 13 u wide λw u=>ds 0 (St.ldsX u i2 ta1) o rfl (Ab o rfl) λo=>ds 1 (St.ldsX u i2 ta1) o rfl (Ab o rfl) λo=>ds 2 (St.ldsX u i2 ta1) o rfl (Aj o rfl) λo=>ds 3 (St.ldsX u i2 ta1) o rfl (Af o Ck rfl) λo=>da2 (i:=4) (j:=5) (by kernel_rfl) ?_ ?_
 refine di (i:=4) rfl<|q1 o rfl (Ag o isAgg120 rfl (u.ld.cellB t0 rfl)) λa o=>⟨λ_=>(St.ldsX u i2 ta1),?_⟩
 refine ds 5 (St.ldsX u i2 ta1) o rfl (Ab o rfl) λo=>ds 6 (St.ldsX u i2 ta1) o rfl (Aj o rfl) λo=>ds 7 (St.ldsX u i2 ta1) o rfl (Af o Bi rfl) λo=>da1 (i:=8) (by kernel_rfl) ?_
 refine di (i:=8) rfl<|q1 o rfl (Ag o isAgg3 rfl (u.ld.cellB t0 rfl)) λa o=>⟨λ_=>(St.ldsX u i2 ta1),?_⟩
 refine da1 (i:=9) (by kernel_rfl) ?_
 refine di (i:=9) rfl<|cr o call143 (Gr (Ai _) C0 (St.srH u D0) E0) u λu o=>⟨λ_=>(St.ldsX u i2 ta1),?_⟩
 refine ds 10 (St.ldsX u i2 ta1) o rfl (Aj o rfl) λo=>ds 11 (St.ldsX u i2 ta1) o rfl (Af o Fo rfl) λo=>da1 (i:=12) (by kernel_rfl) ?_
 refine di (i:=12) rfl<|Ax o u sizeOf3 rfl rfl rfl rfl .head (.succ (.succ (.succ .zero))) λw u=>⟨λ_=>(St.ldsX u i2 ta1),?_⟩
 refine de (by kernel_rfl)<|?_
 obtain rfl:=si hm
 exact r0n o results107 ⟨oa3,cap4,rfl,C0,D0,(u.pickL (.cons .head .nil)).endMut⟩
 refine di (i:=5) rfl<|q1 o rfl (Ab o rfl) λa o=>⟨λ_=>(St.ldsX u i2 ta1),?_⟩
 refine da2 (i:=4) (j:=6) (by kernel_rfl) ?_ ?_
 refine di (i:=4) rfl<|q1 o rfl (Ag o isAgg120 rfl (u.ld.cellB t0 rfl)) λa o=>⟨λ_=>(St.ldsX u i2 ta1),?_⟩
 refine ds 6 (St.ldsX u i2 ta1) o rfl (Aj o rfl) λo=>ds 7 (St.ldsX u i2 ta1) o rfl (Af o Bi rfl) λo=>da1 (i:=8) (by kernel_rfl) ?_
 refine di (i:=8) rfl<|q1 o rfl (Ag o isAgg3 rfl (u.ld.cellB t0 rfl)) λa o=>⟨λ_=>(St.ldsX u i2 ta1),?_⟩
 refine da1 (i:=9) (by kernel_rfl) ?_
 refine di (i:=9) rfl<|cr o call143 (Gr (Ai _) C0 (St.srH u D0) E0) u λu o=>⟨λ_=>(St.ldsX u i2 ta1),?_⟩
 refine ds 10 (St.ldsX u i2 ta1) o rfl (Aj o rfl) λo=>ds 11 (St.ldsX u i2 ta1) o rfl (Af o Fo rfl) λo=>da1 (i:=12) (by kernel_rfl) ?_
 refine di (i:=12) rfl<|Ax o u sizeOf3 rfl rfl rfl rfl .head (.succ (.succ (.succ .zero))) λw u=>⟨λ_=>(St.ldsX u i2 ta1),?_⟩
 refine de (by kernel_rfl)<|?_
 obtain rfl:=si hm
 exact r0n o results107 ⟨oa3,cap4,rfl,C0,D0,(u.pickL (.cons .head .nil)).endMut⟩
 refine di (i:=6) rfl<|q1 o rfl (Aj o rfl) λa o=>⟨λ_=>(St.ldsX u i2 ta1),?_⟩
 refine da2 (i:=4) (j:=7) (by kernel_rfl) ?_ ?_
 refine di (i:=4) rfl<|q1 o rfl (Ag o isAgg120 rfl (u.ld.cellB t0 rfl)) λa o=>⟨λ_=>(St.ldsX u i2 ta1),?_⟩
 refine ds 7 (St.ldsX u i2 ta1) o rfl (Af o Bi rfl) λo=>da1 (i:=8) (by kernel_rfl) ?_
 refine di (i:=8) rfl<|q1 o rfl (Ag o isAgg3 rfl (u.ld.cellB t0 rfl)) λa o=>⟨λ_=>(St.ldsX u i2 ta1),?_⟩
 refine da1 (i:=9) (by kernel_rfl) ?_
 refine di (i:=9) rfl<|cr o call143 (Gr (Ai _) C0 (St.srH u D0) E0) u λu o=>⟨λ_=>(St.ldsX u i2 ta1),?_⟩
 refine ds 10 (St.ldsX u i2 ta1) o rfl (Aj o rfl) λo=>ds 11 (St.ldsX u i2 ta1) o rfl (Af o Fo rfl) λo=>da1 (i:=12) (by kernel_rfl) ?_
 refine di (i:=12) rfl<|Ax o u sizeOf3 rfl rfl rfl rfl .head (.succ (.succ (.succ .zero))) λw u=>⟨λ_=>(St.ldsX u i2 ta1),?_⟩
 refine de (by kernel_rfl)<|?_
 obtain rfl:=si hm
 exact r0n o results107 ⟨oa3,cap4,rfl,C0,D0,(u.pickL (.cons .head .nil)).endMut⟩
 refine di (i:=7) rfl<|q1 o rfl (Af o Bi rfl) λa o=>⟨λ_=>(St.ldsX u i2 ta1),?_⟩
 refine da2 (i:=4) (j:=8) (by kernel_rfl) ?_ ?_
 refine di (i:=4) rfl<|q1 o rfl (Ag o isAgg120 rfl (u.ld.cellB t0 rfl)) λa o=>⟨λ_=>(St.ldsX u i2 ta1),?_⟩
 refine da1 (i:=8) (by kernel_rfl) ?_
 refine di (i:=8) rfl<|q1 o rfl (Ag o isAgg3 rfl (u.ld.cellB t0 rfl)) λa o=>⟨λ_=>(St.ldsX u i2 ta1),?_⟩
 refine da1 (i:=9) (by kernel_rfl) ?_
 refine di (i:=9) rfl<|cr o call143 (Gr (Ai _) C0 (St.srH u D0) E0) u λu o=>⟨λ_=>(St.ldsX u i2 ta1),?_⟩
 refine ds 10 (St.ldsX u i2 ta1) o rfl (Aj o rfl) λo=>ds 11 (St.ldsX u i2 ta1) o rfl (Af o Fo rfl) λo=>da1 (i:=12) (by kernel_rfl) ?_
 refine di (i:=12) rfl<|Ax o u sizeOf3 rfl rfl rfl rfl .head (.succ (.succ (.succ .zero))) λw u=>⟨λ_=>(St.ldsX u i2 ta1),?_⟩
 refine de (by kernel_rfl)<|?_
 obtain rfl:=si hm
 exact r0n o results107 ⟨oa3,cap4,rfl,C0,D0,(u.pickL (.cons .head .nil)).endMut⟩
 refine di (i:=8) rfl<|q1 o rfl (Ag o isAgg3 rfl (u.ld.cellB t0 rfl)) λa o=>⟨λ_=>(St.ldsX u i2 ta1),?_⟩
 refine da1 (i:=4) (by kernel_rfl) ?_
 refine di (i:=4) rfl<|q1 o rfl (Ag o isAgg120 rfl (u.ld.cellB t0 rfl)) λa o=>⟨λ_=>(St.ldsX u i2 ta1),?_⟩
 refine da1 (i:=9) (by kernel_rfl) ?_
 refine di (i:=9) rfl<|cr o call143 (Gr (Ai _) C0 (St.srH u D0) E0) u λu o=>⟨λ_=>(St.ldsX u i2 ta1),?_⟩
 refine ds 10 (St.ldsX u i2 ta1) o rfl (Aj o rfl) λo=>ds 11 (St.ldsX u i2 ta1) o rfl (Af o Fo rfl) λo=>da1 (i:=12) (by kernel_rfl) ?_
 refine di (i:=12) rfl<|Ax o u sizeOf3 rfl rfl rfl rfl .head (.succ (.succ (.succ .zero))) λw u=>⟨λ_=>(St.ldsX u i2 ta1),?_⟩
 refine de (by kernel_rfl)<|?_
 obtain rfl:=si hm
 exact r0n o results107 ⟨oa3,cap4,rfl,C0,D0,(u.pickL (.cons .head .nil)).endMut⟩
 refine tn<|cfv o rfl F0<|wk<|?_
 obtain rfl:=si hm
 exact r0n o results107 ⟨oa3,cap4,rfl,C0,D0,(u.pickL (.cons .head .nil)).endMut⟩
set_option maxHeartbeats 4000000 in
theorem Xk (hH:H.le w0) {b2:Nat} {p1:leadlineref05_In} {oa3:Option Addr} {cap4:Nat} (R0:p1.L.length≤cap4) (C0:SR H oa3 p1.L) (hO:(sepA [bk b2 [SL oa3 p1.L cap4,i6 p1.At,i6 p1.E,i6 p1.Pos] 125]).ok (hp w0)) (hD:∀ b,(sepA [bk b2 [SL oa3 p1.L cap4,i6 p1.At,i6 p1.E,i6 p1.Pos] 125]).fp b→H b=none) {r:(api_Cell×leadlineref05_In)} (hm:Z4d N p1=some r):Tot Tryz.prog 104 #[PT b2] w0 (λv w'=>∃ (oa1m:Option Addr) (cap1m:Nat),v=.agg #[Ac r.1.Name,i6 r.1.N,i6 r.1.At]∧r.2.L.length≤cap1m∧SR H oa1m r.2.L∧Mut w0 (sepA [bk b2 [SL oa3 p1.L cap4,i6 p1.At,i6 p1.E,i6 p1.Pos] 125]) (sepA [bk b2 [SL oa1m r.2.L cap1m,i6 r.2.At,i6 r.2.E,i6 r.2.Pos] 125]) w'):=by
 unfold Z4d at hm
 refine fn0 func104 rfl ntmps104 rfl rfl λa o=>?_
 have u:=Cp hH hO hD
 refine th<|rg<|ls<|Au (cs:=[Ac [],i6 0,i6 0].toArray) o rfl u Tryz.zeroValue53 rfl λb7 w a u o=>re<|tn<|th<|th<|Av (λa w=>∃ (O0:Bool),(Z4e N p1) O0=some r∧Fr 84 [(0,PT b2),(2,PT b7),(47,.bool O0)] a∧St w0 (sepA [bk b2 [SL oa3 p1.L cap4,i6 p1.At,i6 p1.E,i6 p1.Pos] 125]).fp [H] [bk b2 [SL oa3 p1.L cap4,i6 p1.At,i6 p1.E,i6 p1.Pos] 125,bk b7 [Ac [],i6 0,i6 0] 53] w) ?_ ?_
 rcases bip hm with ⟨F0,hm⟩ | ⟨F0,hm⟩
 rcases bip hm with ⟨M0,hm⟩ | ⟨M0,hm⟩
 obtain ⟨n0,D0,hm⟩:=bs hm
 obtain ⟨p0,V0,I0⟩:=SR.get C0 D0
 obtain rfl:=Bb V0
 rcases bip hm with ⟨J0,hm⟩ | ⟨J0,hm⟩
 obtain ⟨W0,X0,hm⟩:=bs hm
 refine rdS 45 u wide λw u=>dr 0 u o rfl (Ab o rfl) λo=>dr 1 u o rfl (Aj o rfl) λo=>dr 2 u o rfl (Af o Cs rfl) λo=>dq 3 u.ld o rfl (λw hl=>Ag o isAgg29 rfl (hl.cellB t1 rfl)) λo=>dr 4 u o rfl (An o rfl rfl) λo=>dr 5 u o rfl (Ar (Ab o rfl) (congrArg Value.bool F0)) λo=>dg 6 u.ld o rfl (λw hl=>Ab o rfl) λo=>dg 7 u.ld o rfl (λw hl=>Aj o rfl) λo=>dg 8 u.ld o rfl (λw hl=>Af o Bi rfl) λo=>dg 9 u.ld o rfl (λw hl=>Ag o isAgg3 rfl (hl.cellB t1 rfl)) λo=>dg 10 u.ld o rfl (λw hl=>Ab o rfl) λo=>dg 11 u.ld o rfl (λw hl=>Aj o rfl) λo=>dg 12 u.ld o rfl (λw hl=>Af o Ck rfl) λo=>dg 13 u.ld o rfl (λw hl=>Ag o isAgg120 rfl (hl.cellB t1 rfl)) λo=>dg 14 u.ld o rfl (λw hl=>Ak (α:=api_Token) (xs:=p1.L) o runUnderlying120 rfl) λo=>dg 15 u.ld o rfl (λw hl=>Ao o rfl rfl) λo=>dr 16 u o rfl (Ad o rfl rfl) λo=>dr 17 u o rfl (Ar (Ab o rfl) (congrArg Value.bool M0)) λo=>dg 18 u.ld o rfl (λw hl=>Ab o rfl) λo=>dg 19 u.ld o rfl (λw hl=>Aj o rfl) λo=>dg 20 u.ld o rfl (λw hl=>Af o Ck rfl) λo=>dg 21 u.ld o rfl (λw hl=>Ag o isAgg120 rfl (hl.cellB t1 rfl)) λo=>dg 22 u.ld o rfl (λw hl=>Ab o rfl) λo=>dg 23 u.ld o rfl (λw hl=>Aj o rfl) λo=>dg 24 u.ld o rfl (λw hl=>Af o Bi rfl) λo=>dg 25 u.ld o rfl (λw hl=>Ag o isAgg3 rfl (hl.cellB t1 rfl)) λo=>dg 26 u.ld o rfl (λw hl=>Am o runUnderlying120 sizeOf130 rfl rfl D0 (SR.oaI C0 (by decide) D0)) λo=>dg 27 u.ld o rfl (λw hl=>Af o Cr rfl) λo=>dg 28 u.ld o rfl (λw hl=>Ag o isAgg3 rfl (PH.le.cell (Lds.le hl) (I0 0 _ rfl))) λo=>dg 29 u.ld o rfl (λw hl=>An o rfl rfl) λo=>?_
 refine dr 30 u o rfl (Ad o rfl rfl) λo=>dr 31 u o rfl (Ar (Ab o rfl) (congrArg Value.bool J0)) λo=>dg 32 u.ld o rfl (λw hl=>Ab o rfl) λo=>dg 33 u.ld o rfl (λw hl=>Aj o rfl) λo=>dg 34 u.ld o rfl (λw hl=>Af o Ck rfl) λo=>dg 35 u.ld o rfl (λw hl=>Ag o isAgg120 rfl (hl.cellB t1 rfl)) λo=>dg 36 u.ld o rfl (λw hl=>Ab o rfl) λo=>dg 37 u.ld o rfl (λw hl=>Aj o rfl) λo=>dg 38 u.ld o rfl (λw hl=>Af o Bi rfl) λo=>dg 39 u.ld o rfl (λw hl=>Ag o isAgg3 rfl (hl.cellB t1 rfl)) λo=>dg 40 u.ld o rfl (λw hl=>Am o runUnderlying120 sizeOf130 rfl rfl D0 (SR.oaI C0 (by decide) D0)) λo=>dg 41 u.ld o rfl (λw hl=>Af o Em rfl) λo=>dg 42 u.ld o rfl (λw hl=>Ag o isAgg9 rfl (PH.le.cell (Lds.le hl) (I0 1 _ rfl))) λo=>da1 (i:=43) (by kernel_rfl) ?_
 refine di (i:=43) rfl<|gy o rfl rfl<|cr o call114 (Gd (Ai _) X0) u λu o=>⟨λ_=>u.ld,?_⟩
 refine dr 44 u o rfl (Ad o rfl rfl) λo=>de (by kernel_rfl)<|tn<|?_
 replace u:=u.pk [1,0] rfl
 exact ⟨W0,hm,o.hs,u⟩
 refine rxS 45 u wide (by kernel_rfl) λw u=>xm u o rfl λo=>xr u o (Aj o rfl) λo=>xr u o (Af o Cs rfl) λo=>xq u.ld o (λw hl=>Ag o isAgg29 rfl (hl.cellB t1 rfl)) λo=>xr u o (An o rfl rfl) λo=>xr u o (Ar (Ab o rfl) (congrArg Value.bool F0)) λo=>xg u.ld o (λw hl=>Ab o rfl) λo=>xg u.ld o (λw hl=>Aj o rfl) λo=>xg u.ld o (λw hl=>Af o Bi rfl) λo=>xg u.ld o (λw hl=>Ag o isAgg3 rfl (hl.cellB t1 rfl)) λo=>xg u.ld o (λw hl=>Ab o rfl) λo=>xg u.ld o (λw hl=>Aj o rfl) λo=>xg u.ld o (λw hl=>Af o Ck rfl) λo=>xg u.ld o (λw hl=>Ag o isAgg120 rfl (hl.cellB t1 rfl)) λo=>xg u.ld o (λw hl=>Ak (α:=api_Token) (xs:=p1.L) o runUnderlying120 rfl) λo=>xg u.ld o (λw hl=>Ao o rfl rfl) λo=>xr u o (Ad o rfl rfl) λo=>xr u o (Ar (Ab o rfl) (congrArg Value.bool M0)) λo=>xg u.ld o (λw hl=>Ab o rfl) λo=>xg u.ld o (λw hl=>Aj o rfl) λo=>xg u.ld o (λw hl=>Af o Ck rfl) λo=>xg u.ld o (λw hl=>Ag o isAgg120 rfl (hl.cellB t1 rfl)) λo=>xg u.ld o (λw hl=>Ab o rfl) λo=>xg u.ld o (λw hl=>Aj o rfl) λo=>xg u.ld o (λw hl=>Af o Bi rfl) λo=>xg u.ld o (λw hl=>Ag o isAgg3 rfl (hl.cellB t1 rfl)) λo=>xg u.ld o (λw hl=>Am o runUnderlying120 sizeOf130 rfl rfl D0 (SR.oaI C0 (by decide) D0)) λo=>xg u.ld o (λw hl=>Af o Cr rfl) λo=>xg u.ld o (λw hl=>Ag o isAgg3 rfl (PH.le.cell (Lds.le hl) (I0 0 _ rfl))) λo=>xg u.ld o (λw hl=>An o rfl rfl) λo=>?_
 refine xr u o (Ad o rfl rfl) λo=>xr u o (Ar (Ab o rfl) (congrArg Value.bool J0)) λo=>?_
 iterate 12 refine xn u.ld o λo=>?_
 refine xr u o (Ae o rfl rfl) λo=>xe<|tn<|?_
 replace u:=u.pk [1,0] rfl
 exact ⟨false,hm,o.hs,u⟩
 refine rxS 45 u wide (by kernel_rfl) λw u=>xm u o rfl λo=>xr u o (Aj o rfl) λo=>xr u o (Af o Cs rfl) λo=>xq u.ld o (λw hl=>Ag o isAgg29 rfl (hl.cellB t1 rfl)) λo=>xr u o (An o rfl rfl) λo=>xr u o (Ar (Ab o rfl) (congrArg Value.bool F0)) λo=>xg u.ld o (λw hl=>Ab o rfl) λo=>xg u.ld o (λw hl=>Aj o rfl) λo=>xg u.ld o (λw hl=>Af o Bi rfl) λo=>xg u.ld o (λw hl=>Ag o isAgg3 rfl (hl.cellB t1 rfl)) λo=>xg u.ld o (λw hl=>Ab o rfl) λo=>xg u.ld o (λw hl=>Aj o rfl) λo=>xg u.ld o (λw hl=>Af o Ck rfl) λo=>xg u.ld o (λw hl=>Ag o isAgg120 rfl (hl.cellB t1 rfl)) λo=>xg u.ld o (λw hl=>Ak (α:=api_Token) (xs:=p1.L) o runUnderlying120 rfl) λo=>xg u.ld o (λw hl=>Ao o rfl rfl) λo=>xr u o (Ad o rfl rfl) λo=>xr u o (Ar (Ab o rfl) (congrArg Value.bool M0)) λo=>?_
 iterate 12 refine xn u.ld o λo=>?_
 refine xr u o (Ae o rfl rfl) λo=>xm u o rfl λo=>?_
 iterate 12 refine xn u.ld o λo=>?_
 refine xr u o (Ae o rfl rfl) λo=>xe<|tn<|?_
 replace u:=u.pk [1,0] rfl
 exact ⟨false,hm,o.hs,u⟩
 refine rxS 45 u wide (by kernel_rfl) λw u=>xm u o rfl λo=>xr u o (Aj o rfl) λo=>xr u o (Af o Cs rfl) λo=>xq u.ld o (λw hl=>Ag o isAgg29 rfl (hl.cellB t1 rfl)) λo=>xr u o (An o rfl rfl) λo=>xr u o (Ar (Ab o rfl) (congrArg Value.bool F0)) λo=>?_
 iterate 10 refine xn u.ld o λo=>?_
 refine xr u o (Ae o rfl rfl) λo=>xm u o rfl λo=>?_
 iterate 12 refine xn u.ld o λo=>?_
 refine xr u o (Ae o rfl rfl) λo=>xm u o rfl λo=>?_
 iterate 12 refine xn u.ld o λo=>?_
 refine xr u o (Ae o rfl rfl) λo=>xe<|tn<|?_
 replace u:=u.pk [1,0] rfl
 exact ⟨false,hm,o.hs,u⟩
 rintro a w ⟨O0,hm,o,u⟩
 unfold Z4e at hm
 rcases bit hm with ⟨K0,hm⟩ | ⟨K0,hm⟩
 refine ctv o rfl K0<|th<|rg<|qm o rfl λo=>qm o rfl λo=>qv o (Aj o rfl) λo=>qv o (Af o Bi rfl) λo=>qv o (Ag o isAgg3 rfl (u.ld.cellB t0 rfl)) λo=>qv o (Ap o rfl rfl) λo=>qv o (Aj o rfl) λo=>qv o (Af o Bi rfl) λo=>ls<|Ax o u sizeOf3 rfl rfl rfl rfl .head (.succ .zero) λw u=>re<|tn<|th<|?_
 obtain ⟨E0,G0,hm⟩:=bs hm
 obtain ⟨u0,Y0,P0⟩:=SR.get C0 G0
 obtain rfl:=Bb Y0
 refine rxS 25 u wide (by kernel_rfl) λw u=>xm u o rfl λo=>xr u o (Aj o rfl) λo=>xr u o (Af o Ck rfl) λo=>xq u.ld o (λw hl=>Ag o isAgg120 rfl (hl.cellB t0 rfl)) λo=>xm u o rfl λo=>xr u o (Aj o rfl) λo=>xr u o (Af o Bi rfl) λo=>xq u.ld o (λw hl=>Ag o isAgg3 rfl (hl.cellB t0 rfl)) λo=>xr u o (Gs o rfl rfl) λo=>xr u o (Am o runUnderlying120 sizeOf130 rfl rfl G0 (SR.oaI C0 (by decide) G0)) λo=>xr u o (Af o Em rfl) λo=>xq u.ld o (λw hl=>Ag o isAgg9 rfl (PH.le.cell (Lds.le hl) (P0 1 _ rfl))) λo=>xm u o rfl λo=>xr u o (Aj o rfl) λo=>xr u o (Af o Ck rfl) λo=>xq u.ld o (λw hl=>Ag o isAgg120 rfl (hl.cellB t0 rfl)) λo=>xm u o rfl λo=>xr u o (Aj o rfl) λo=>xr u o (Af o Bi rfl) λo=>xq u.ld o (λw hl=>Ag o isAgg3 rfl (hl.cellB t0 rfl)) λo=>xr u o (Gs o rfl rfl) λo=>xr u o (Am o runUnderlying120 sizeOf130 rfl rfl G0 (SR.oaI C0 (by decide) G0)) λo=>xr u o (Af o Dl rfl) λo=>xq u.ld o (λw hl=>Ag o isAgg3 rfl (PH.le.cell (Lds.le hl) (P0 3 _ rfl))) λo=>xq u.ld o (λw hl=>Bp [Ac E0.Text,i6 E0.At] [Ac E0.Text,i6 0,i6 E0.At] o ⟨rfl,rfl,trivial⟩ (λw=>by kernel_rfl)) λo=>xz rfl<|Az o u sizeOf53 rfl rfl rfl rfl (Al rfl) (.tail .head) λw u=>tn<|wr<|tr<|?_
 obtain rfl:=si hm
 exact r1c (vs:=[Ac E0.Text,i6 0,i6 E0.At]) (.inl rfl) o results104 rfl isAgg53 sizeOf53 rfl (u.ld.cellsB t1) ⟨oa3,cap4,rfl,R0,C0,(u.pickL (.cons .head .nil)).endMut⟩
 refine cfv o rfl K0<|wk<|tn<|th<|?_
 obtain ⟨B1,j0,hm⟩:=bs hm
 refine rg<|qm o rfl λo=>?_
 replace u:=u.pk [0,0] rfl
 replace u:=St.sep [bk b2 [SL oa3 p1.L cap4,i6 p1.At,i6 p1.E,i6 p1.Pos] 125] u
 refine ls<|c1 o rfl call107 (Rk (St.le u) (p1:=p1) (b2:=b2) (oa3:=oa3) (cap4:=cap4) R0 C0 (St.sepOk u) (St.sepDis u) j0) ⟨rfl,trivial⟩ (λv w a hR o=>?_)
 obtain ⟨S0,Q0,rfl,T0,U0,hk⟩:=hR
 replace u:=(u.mut hk .head).unsep
 refine re<|tn<|th<|rg<|qv o (Bp [] [Ac [],i6 0,i6 0] o trivial (λw=>by kernel_rfl)) λo=>ls<|Az o u sizeOf53 rfl rfl rfl rfl (Al rfl) (.tail .head) λw u=>re<|tn<|wr<|?_
 obtain rfl:=si hm
 exact r1c (vs:=[Ac [],i6 0,i6 0]) (.inl rfl) o results104 rfl isAgg53 sizeOf53 rfl (u.ld.cellsB t1) ⟨S0,Q0,rfl,T0,U0,(u.pickL (.cons .head .nil)).endMut⟩
theorem Uy (hH:H.le w0) {b2:Nat} {p1:leadlineref05_In} {oa3:Option Addr} {cap4:Nat} (P0:p1.L.length≤cap4) (Q0:SR H oa3 p1.L) {p7:Str} (hO:(sepA [bk b2 [SL oa3 p1.L cap4,i6 p1.At,i6 p1.E,i6 p1.Pos] 125]).ok (hp w0)) (hD:∀ b,(sepA [bk b2 [SL oa3 p1.L cap4,i6 p1.At,i6 p1.E,i6 p1.Pos] 125]).fp b→H b=none) {r:leadlineref05_In} (hm:Z4c N p1 p7=some r):Tot Tryz.prog 140 #[PT b2,Ac p7] w0 (λv w'=>∃ (oa1m:Option Addr) (cap1m:Nat),v=.tuple #[]∧r.L.length≤cap1m∧SR H oa1m r.L∧Mut w0 (sepA [bk b2 [SL oa3 p1.L cap4,i6 p1.At,i6 p1.E,i6 p1.Pos] 125]) (sepA [bk b2 [SL oa1m r.L cap1m,i6 r.At,i6 r.E,i6 r.Pos] 125]) w'):=by
 unfold Z4c at hm
 refine fn0 func140 rfl ntmps140 rfl rfl λa o=>?_
 have u:=Cp hH hO hD
 refine th<|?_
 obtain ⟨D0,h9,hm⟩:=bs hm
 refine rg<|qm o rfl λo=>qm o rfl λo=>?_
 replace u:=u.pk [0] rfl
 replace u:=St.sep [bk b2 [SL oa3 p1.L cap4,i6 p1.At,i6 p1.E,i6 p1.Pos] 125] u
 refine ls<|c1 o rfl call102 (Ic (St.le u) (p1:=p1) (b2:=b2) (oa3:=oa3) (cap4:=cap4) P0 Q0 (St.sepOk u) (St.sepDis u) h9) ⟨rfl,rfl,trivial⟩ (λv w a hR o=>?_)
 obtain ⟨E0,C0,rfl,G0,I0,hk⟩:=hR
 replace u:=(u.mut hk .head).unsep
 refine qv o (Ba o rfl) λo=>re<|?_
 rcases bit hm with ⟨F0,hm⟩ | ⟨F0,hm⟩
 refine tn<|cfv o rfl (by rw [F0];rfl)<|wk<|?_
 obtain rfl:=si hm
 exact r0n o results140 ⟨E0,C0,rfl,G0,I0,(u.pickL (.cons .head .nil)).endMut⟩
 refine tn<|ctv o rfl (by rw [F0];rfl)<|?_
 obtain ⟨S0,R0,hm⟩:=bs hm
 refine rg<|qm o rfl λo=>?_
 replace u:=u.pk [0] rfl
 replace u:=St.sep [bk b2 [SL E0 D0.2.L C0,i6 D0.2.At,i6 D0.2.E,i6 D0.2.Pos] 125] u
 refine ls<|c1 o rfl call107 (Rk (St.le u) (p1:=D0.2) (b2:=b2) (oa3:=E0) (cap4:=C0) G0 I0 (St.sepOk u) (St.sepDis u) R0) ⟨rfl,trivial⟩ (λv w a hR o=>?_)
 obtain ⟨K0,J0,rfl,M0,O0,hk⟩:=hR
 replace u:=(u.mut hk .head).unsep
 refine re<|?_
 obtain rfl:=si hm
 exact r0n o results140 ⟨K0,J0,rfl,M0,O0,(u.pickL (.cons .head .nil)).endMut⟩
set_option maxHeartbeats 4000000 in
theorem Rl (hH:H.le w0) {b2:Nat} {p1:leadlineref05_In} {oa3:Option Addr} {cap4:Nat} (W3:p1.L.length≤cap4) (X3:SR H oa3 p1.L) {p7:Bool} (hO:(sepA [bk b2 [SL oa3 p1.L cap4,i6 p1.At,i6 p1.E,i6 p1.Pos] 125]).ok (hp w0)) (hD:∀ b,(sepA [bk b2 [SL oa3 p1.L cap4,i6 p1.At,i6 p1.E,i6 p1.Pos] 125]).fp b→H b=none) {r:((List api_Cell)×leadlineref05_In)} (hm:Z4f N p1 p7=some r):Tot Tryz.prog 103 #[PT b2,.bool p7] w0 (λv w'=>∃ (A3:Option Addr) (J2:Nat) (B3:List Value) (oa1m:Option Addr) (cap1m:Nat),v=SL A3 r.1 J2∧(∀ h,Rows h B3 r.1)∧r.2.L.length≤cap1m∧SR H oa1m r.2.L∧Mut w0 (sepA [bk b2 [SL oa3 p1.L cap4,i6 p1.At,i6 p1.E,i6 p1.Pos] 125]) (sepA [bk b2 [SL oa1m r.2.L cap1m,i6 r.2.At,i6 r.2.E,i6 r.2.Pos] 125,sla 53 3 A3 r.1.length J2 B3]) w'):=by
 unfold Z4f at hm
 refine fn0 func103 rfl ntmps103 rfl rfl λa o=>?_
 have u:=Cp hH hO hD
 refine th<|rg<|qa o rfl λo=>re<|tn<|th<|rg<|ls<|Bh (e:=53) (sz:=3) [] o rfl u rfl rfl rfl (λw=>by kernel_rfl) λb9 w a u o=>?_
 have Y3:Rows (α:=api_Cell) H [] []:=.nil
 refine qa o rfl λo=>re<|tn<|th<|th<|rg<|qa o rfl λo=>re<|tn<|Av (λa w=>∃ (j0:(List api_Token)) (Q1:Int) (R1:Int) (S1:Int) (T1:(List api_Cell)) (n0:Option Addr) (R0:Nat) (J1:Option Addr) (p0:Nat) (M1:List Value),(Z4g N) j0 Q1 R1 S1 T1=some r∧Fr 79 [(0,PT b2),(5,SL J1 T1 p0)] a∧St w0 (sepA [bk b2 [SL oa3 p1.L cap4,i6 p1.At,i6 p1.E,i6 p1.Pos] 125]).fp [H] [bk b2 [SL n0 j0 R0,i6 Q1,i6 R1,i6 S1] 125,sla 53 3 J1 T1.length p0 M1] w∧j0.length≤R0∧SR H n0 j0∧Rows H M1 T1) ?_ ?_
 replace u:=u.pk [1,0] rfl
 refine wb<|lp (α:=Nat×(List api_Token)×Int×Int×Int×(List api_Cell)×Bool) (λgh a w=>match gh with | (X0,Y0,F1,u0,G1,G0,O1)=>∃ (W0:Option Addr) (P0:Nat) (F0:Option Addr) (C0:Nat) (K0:List Value),(Z4k N (Z4g N) p7) X0 Y0 F1 u0 G1 G0 O1=some r∧Fr 79 [(0,PT b2),(1,.bool p7),(5,SL F0 G0 C0),(6,.bool O1)] a∧St w0 (sepA [bk b2 [SL oa3 p1.L cap4,i6 p1.At,i6 p1.E,i6 p1.Pos] 125]).fp [H] [bk b2 [SL W0 Y0 P0,i6 F1,i6 u0,i6 G1] 125,sla 53 3 F0 G0.length C0 K0] w∧Y0.length≤P0∧SR H W0 Y0∧Rows H K0 G0) (λgh=>gh.1) (N,p1.L,p1.At,p1.E,p1.Pos,[],true) ⟨oa3,cap4,(some ⟨b9,0,none⟩),0,[],hm,o.hs,u,W3,X3,Y3⟩ ?_
 rintro ⟨X0,Y0,F1,u0,G1,G0,O1⟩ a w ⟨W0,P0,F0,C0,K0,hm,o,u,hcB4,hrB5,G2⟩
 obtain _ | X0:=X0
 simp [Z4k] at hm
 rw [Z4k] at hm
 refine th<|th<|rg<|qm o rfl λo=>qm o rfl λo=>gr (Fk:=[(0,PT b2),(1,.bool p7),(5,SL F0 G0 C0),(16,.bool (O1 && (decide (u0=0))))]) 10 6 o u ?_ ?_ ?_
 intro hb o key
 exact qg o (Ab o rfl) λo=>qg o (Aj o rfl) λo=>qg o (Af o Cs rfl) λo=>qg o (Ag o isAgg29 rfl (u.ld.cellB t0 rfl)) λo=>qg o (An o rfl rfl) λo=>qk o (Ad o rfl rfl) key u hb
 intro hb o key
 iterate 5 refine qn o λo=>?_
 exact qk o (Ae o rfl rfl) key u hb
 intro a w o u
 refine re<|?_
 rcases bit hm with ⟨X1,hm⟩ | ⟨X1,hm⟩
 refine tn<|ctv o rfl X1<|wk<|tn<|th<|wb<|th<|?_
 obtain ⟨E0,l3,hm⟩:=bs hm
 refine rg<|qm o rfl λo=>?_
 replace u:=u.pk [0,0] rfl
 replace u:=St.sep [bk b2 [SL W0 Y0 P0,i6 F1,i6 u0,i6 G1] 125] u
 refine ls<|c1 o rfl call104 (Xk (St.le u) (p1:=(leadlineref05_In.mk Y0 F1 u0 G1)) (b2:=b2) (oa3:=W0) (cap4:=P0) hcB4 hrB5 (St.sepOk u) (St.sepDis u) l3) ⟨rfl,trivial⟩ (λv w a hR o=>?_)
 obtain ⟨Y1,P1,rfl,K2,M2,hk⟩:=hR
 replace u:=(u.mut hk .head).unsep
 refine ls<|Au (cs:=[Ac [],i6 0,i6 0].toArray) o rfl u zeroValue53 rfl λI1 w a u o=>ls<|Az o u sizeOf53 rfl rfl rfl rfl (Al rfl) .head λw u=>re<|tn<|th<|th<|Av (λa w=>∃ (J0:(List api_Token)) (S0:Int) (T0:Int) (U0:Int) (O2:Bool) (M0:Option Addr) (I0:Nat),(Z4h N (Z4k N (Z4g N) p7 X0) E0 G0) J0 S0 T0 U0 O2=some r∧Fr 79 [(0,PT b2),(1,.bool p7),(5,SL F0 G0 C0),(7,PT I1),(25,.bool O2)] a∧St w0 (sepA [bk b2 [SL oa3 p1.L cap4,i6 p1.At,i6 p1.E,i6 p1.Pos] 125]).fp [H] [bk b2 [SL M0 J0 I0,i6 S0,i6 T0,i6 U0] 125,sla 53 3 F0 G0.length C0 K0,bk I1 [Ac E0.1.Name,i6 E0.1.N,i6 E0.1.At] 53] w∧J0.length≤I0∧SR H M0 J0) ?_ ?_
 rcases bit hm with ⟨B2,hm⟩ | ⟨B2,hm⟩
 obtain ⟨U1,n3,hm⟩:=bs hm
 refine rg<|qm o rfl λo=>qv o (Ar (Ab o rfl) (congrArg Value.bool B2)) λo=>qg o (Ab o rfl) λo=>?_
 replace u:=u.pk [1,0,0] rfl
 replace u:=St.sep [bk b2 [SL Y1 E0.2.L P1,i6 E0.2.At,i6 E0.2.E,i6 E0.2.Pos] 125] u
 refine ls<|gy o rfl rfl<|c1 o rfl call102 (Ic (St.le u) (p1:=E0.2) (b2:=b2) (oa3:=Y1) (cap4:=P1) K2 M2 (St.sepOk u) (St.sepDis u) n3) ⟨rfl,rfl,trivial⟩ (λv w a hR o=>?_)
 obtain ⟨C3,T2,rfl,D3,E3,hk⟩:=hR
 replace u:=(u.mut hk .head).unsep
 refine qv o (Ad o rfl rfl) λo=>re<|tn<|?_
 replace u:=u.pk [0,1,0] rfl
 exact ⟨U1.2.L,U1.2.At,U1.2.E,U1.2.Pos,U1.1,C3,T2,hm,o.hs,u,D3,E3⟩
 refine rg<|qm o rfl λo=>qv o (Ar (Ab o rfl) (congrArg Value.bool B2)) λo=>?_
 iterate 2 refine qn o λo=>?_
 refine qv o (Ae o rfl rfl) λo=>re<|tn<|?_
 replace u:=u.pk [1,1,0] rfl
 exact ⟨E0.2.L,E0.2.At,E0.2.E,E0.2.Pos,false,Y1,P1,hm,o.hs,u,K2,M2⟩
 rintro a w ⟨J0,S0,T0,U0,O2,M0,I0,hm,o,u,hcC4,hrC5⟩
 unfold Z4h at hm
 refine Av (λa w=>∃ (Q0:(List api_Token)) (B1:Int) (C1:Int) (E1:Int) (D0:api_Cell) (V0:Option Addr) (O0:Nat),(Z4i N (Z4k N (Z4g N) p7 X0) G0) Q0 B1 C1 E1 D0=some r∧Fr 79 [(0,PT b2),(1,.bool p7),(5,SL F0 G0 C0),(7,PT I1)] a∧St w0 (sepA [bk b2 [SL oa3 p1.L cap4,i6 p1.At,i6 p1.E,i6 p1.Pos] 125]).fp [H] [bk b2 [SL V0 Q0 O0,i6 B1,i6 C1,i6 E1] 125,sla 53 3 F0 G0.length C0 K0,bk I1 [Ac D0.Name,i6 D0.N,i6 D0.At] 53] w∧Q0.length≤O0∧SR H V0 Q0) ?_ ?_
 rcases bit hm with ⟨C2,hm⟩ | ⟨C2,hm⟩
 refine ctv o rfl C2<|th<|Av (λa w=>∃ (P2:Bool),(Z4j N (Z4i N (Z4k N (Z4g N) p7 X0) G0) E0 J0 S0 T0 U0) P2=some r∧Fr 79 [(0,PT b2),(1,.bool p7),(5,SL F0 G0 C0),(7,PT I1),(49,.bool P2)] a∧St w0 (sepA [bk b2 [SL oa3 p1.L cap4,i6 p1.At,i6 p1.E,i6 p1.Pos] 125]).fp [H] [bk b2 [SL M0 J0 I0,i6 S0,i6 T0,i6 U0] 125,sla 53 3 F0 G0.length C0 K0,bk I1 [Ac E0.1.Name,i6 E0.1.N,i6 E0.1.At] 53] w) ?_ ?_
 rcases bip hm with ⟨E2,hm⟩ | ⟨E2,hm⟩
 obtain ⟨u3,Q2,hm⟩:=bs hm
 obtain ⟨J4,A4,F3⟩:=SR.get hrC5 Q2
 obtain rfl:=Bb A4
 refine rxS 24 u wide (by kernel_rfl) λw u=>xm u o rfl λo=>xr u o (Aj o rfl) λo=>xr u o (Af o Bi rfl) λo=>xq u.ld o (λw hl=>Ag o isAgg3 rfl (hl.cellB t0 rfl)) λo=>xm u o rfl λo=>xr u o (Aj o rfl) λo=>xr u o (Af o Ck rfl) λo=>xq u.ld o (λw hl=>Ag o isAgg120 rfl (hl.cellB t0 rfl)) λo=>xr u o (Ak (α:=api_Token) (xs:=J0) o runUnderlying120 rfl) λo=>xr u o (Ao o rfl rfl) λo=>xr u o (Ar (Ab o rfl) (congrArg Value.bool E2)) λo=>xg u.ld o (λw hl=>Ab o rfl) λo=>xg u.ld o (λw hl=>Aj o rfl) λo=>xg u.ld o (λw hl=>Af o Ck rfl) λo=>xg u.ld o (λw hl=>Ag o isAgg120 rfl (hl.cellB t0 rfl)) λo=>xg u.ld o (λw hl=>Ab o rfl) λo=>xg u.ld o (λw hl=>Aj o rfl) λo=>xg u.ld o (λw hl=>Af o Bi rfl) λo=>xg u.ld o (λw hl=>Ag o isAgg3 rfl (hl.cellB t0 rfl)) λo=>xg u.ld o (λw hl=>Am o runUnderlying120 sizeOf130 rfl rfl Q2 (SR.oaI hrC5 (by decide) Q2)) λo=>xg u.ld o (λw hl=>Af o Cr rfl) λo=>xg u.ld o (λw hl=>Ag o isAgg3 rfl (PH.le.cell (Lds.le hl) (F3 0 _ rfl))) λo=>xg u.ld o (λw hl=>An o rfl rfl) λo=>xr u o (Ad o rfl rfl) λo=>xe<|tn<|?_
 exact ⟨(decide (u3.Kind=2)),hm,o.hs,u⟩
 refine rxS 24 u wide (by kernel_rfl) λw u=>xm u o rfl λo=>xr u o (Aj o rfl) λo=>xr u o (Af o Bi rfl) λo=>xq u.ld o (λw hl=>Ag o isAgg3 rfl (hl.cellB t0 rfl)) λo=>xm u o rfl λo=>xr u o (Aj o rfl) λo=>xr u o (Af o Ck rfl) λo=>xq u.ld o (λw hl=>Ag o isAgg120 rfl (hl.cellB t0 rfl)) λo=>xr u o (Ak (α:=api_Token) (xs:=J0) o runUnderlying120 rfl) λo=>xr u o (Ao o rfl rfl) λo=>xr u o (Ar (Ab o rfl) (congrArg Value.bool E2)) λo=>?_
 iterate 12 refine xn u.ld o λo=>?_
 refine xr u o (Ae o rfl rfl) λo=>xe<|tn<|?_
 exact ⟨false,hm,o.hs,u⟩
 rintro a w ⟨P2,hm,o,u⟩
 unfold Z4j at hm
 rcases bit hm with ⟨F2,hm⟩ | ⟨F2,hm⟩
 refine ctv o rfl F2<|th<|?_
 obtain ⟨B4,R2,hm⟩:=bs hm
 obtain ⟨K4,C4,G3⟩:=SR.get hrC5 R2
 obtain rfl:=Bb C4
 refine rxS 12 u wide (by kernel_rfl) λw u=>xm u o rfl λo=>xr u o (Aj o rfl) λo=>xr u o (Af o Ck rfl) λo=>xq u.ld o (λw hl=>Ag o isAgg120 rfl (hl.cellB t0 rfl)) λo=>xm u o rfl λo=>xr u o (Aj o rfl) λo=>xr u o (Af o Bi rfl) λo=>xq u.ld o (λw hl=>Ag o isAgg3 rfl (hl.cellB t0 rfl)) λo=>xr u o (Am o runUnderlying120 sizeOf130 rfl rfl R2 (SR.oaI hrC5 (by decide) R2)) λo=>xr u o (Af o Gj rfl) λo=>xq u.ld o (λw hl=>Ag o isAgg3 rfl (PH.le.cell (Lds.le hl) (G3 2 _ rfl))) λo=>xr u o (Af o Fu rfl) λo=>xz rfl<|Ax o u sizeOf3 rfl rfl rfl rfl (.tail (.tail .head)) (.succ .zero) λw u=>tn<|rg<|qm o rfl λo=>qm o rfl λo=>qv o (Aj o rfl) λo=>qv o (Af o Bi rfl) λo=>qv o (Ag o isAgg3 rfl (u.ld.cellB t0 rfl)) λo=>qv o (Ap o rfl rfl) λo=>qv o (Aj o rfl) λo=>qv o (Af o Bi rfl) λo=>ls<|Ax o u sizeOf3 rfl rfl rfl rfl .head (.succ .zero) λw u=>re<|tn<|?_
 exact ⟨J0,(IntKind.i64.wrap (S0+1)),T0,U0,(api_Cell.mk E0.1.Name B4.N E0.1.At),M0,I0,hm,o.hs,u,hcC4,hrC5⟩
 refine cfv o rfl F2<|?_
 obtain ⟨I2,D4,hm⟩:=bs hm
 refine rg<|qm o rfl λo=>?_
 replace u:=u.pk [0,0,0] rfl
 replace u:=St.sep [bk b2 [SL M0 J0 I0,i6 S0,i6 T0,i6 U0] 125] u
 refine ls<|c1 o rfl call107 (Rk (St.le u) (p1:=(leadlineref05_In.mk J0 S0 T0 U0)) (b2:=b2) (oa3:=M0) (cap4:=I0) hcC4 hrC5 (St.sepOk u) (St.sepDis u) D4) ⟨rfl,trivial⟩ (λv w a hR o=>?_)
 obtain ⟨I3,U2,rfl,J3,K3,hk⟩:=hR
 replace u:=(u.mut hk .head).unsep
 refine re<|tn<|?_
 exact ⟨I2.L,I2.At,I2.E,I2.Pos,E0.1,I3,U2,hm,o.hs,u,J3,K3⟩
 refine cfv o rfl C2<|wk<|tn<|?_
 exact ⟨J0,S0,T0,U0,E0.1,M0,I0,hm,o.hs,u,hcC4,hrC5⟩
 rintro a w ⟨Q0,B1,C1,E1,D0,V0,O0,hm,o,u,hcC13,hrC14⟩
 unfold Z4i at hm
 obtain ⟨E4,F4,hm⟩:=bs hm
 refine rg<|qm o rfl λo=>qv o (Ay o isAgg53 sizeOf53 rfl rfl (u.ld.cellsB t2)) λo=>ls<|Bh (e:=53) (sz:=3) [Ac D0.Name,i6 D0.N,i6 D0.At] o rfl u rfl rfl rfl (λw=>by kernel_rfl) λL4 w a u o=>?_
 have L3:Rows (α:=api_Cell) H [Ac D0.Name,i6 D0.N,i6 D0.At] ([D0]:List api_Cell):=(.cons (c:=[Ac D0.Name,i6 D0.N,i6 D0.At]) ⟨_,_,rfl,rfl,⟨_,_,rfl,rfl,rfl⟩⟩ .nil)
 refine ls<|Bw (α:=api_Cell) (xs:=G0) (ys:=([D0]:List api_Cell)) o rfl u underlying23 Gq rfl (by decide) rfl rfl rfl t2 G2 (u.rdO t0) L3 F4 λM3 V2 O3 w a P3 hU o=>?_
 replace u:=hU _ (.tail (.tail .head))
 replace u:=u.drop .head
 refine qa o rfl λo=>re<|bn<|tn<|?_
 obtain ⟨V1,G4,hm⟩:=bs hm
 refine rg<|qm o rfl λo=>?_
 replace u:=u.pk [0,0,0] rfl
 replace u:=St.sep [bk b2 [SL V0 Q0 O0,i6 B1,i6 C1,i6 E1] 125] u
 refine ls<|c1 o rfl call102 (Ic (St.le u) (p1:=(leadlineref05_In.mk Q0 B1 C1 E1)) (b2:=b2) (oa3:=V0) (cap4:=O0) hcC13 hrC14 (St.sepOk u) (St.sepDis u) G4) ⟨rfl,rfl,trivial⟩ (λv w a hR o=>?_)
 obtain ⟨Q3,W2,rfl,R3,S3,hk⟩:=hR
 replace u:=(u.mut hk .head).unsep
 refine qa o rfl λo=>re<|tn<|?_
 replace u:=u.pk [0,0] rfl
 exact ⟨(X0,V1.2.L,V1.2.At,V1.2.E,V1.2.Pos,E4,V1.1),⟨Q3,W2,M3,V2,O3,hm,o.hs,u,R3,S3,P3⟩,Nat.lt_succ_self _⟩
 refine tn<|cfv o rfl X1<|we<|tx<|tx<|bx<|tn<|?_
 exact ⟨Y0,F1,u0,G1,G0,W0,P0,F0,C0,K0,hm,o.has ⟨rfl,rfl,trivial⟩,u,hcB4,hrB5,G2⟩
 rintro a w ⟨j0,Q1,R1,S1,T1,n0,R0,J1,p0,M1,hm,o,u,hcA4,hrA5,X2⟩
 unfold Z4g at hm
 refine th<|?_
 obtain ⟨M4,I4,hm⟩:=bs hm
 refine rg<|qm o rfl λo=>?_
 replace u:=u.pk [0,0] rfl
 replace u:=St.sep [bk b2 [SL n0 j0 R0,i6 Q1,i6 R1,i6 S1] 125] u
 refine ls<|c1 o rfl call140 (Uy (St.le u) (p1:=(leadlineref05_In.mk j0 Q1 R1 S1)) (b2:=b2) (oa3:=n0) (cap4:=R0) hcA4 hrA5 (St.sepOk u) (St.sepDis u) I4) ⟨rfl,rfl,trivial⟩ (λv w a hR o=>?_)
 obtain ⟨T3,Y2,rfl,U3,V3,hk⟩:=hR
 replace u:=(u.mut hk .head).unsep
 refine re<|tn<|th<|rg<|qm o rfl λo=>qa o rfl λo=>re<|tn<|wr<|?_
 obtain rfl:=si hm
 exact r1 o results103 rfl ⟨_,_,_,T3,Y2,rfl,(λ_=>Rows.ind X2),U3,V3,(u.pickL (.cons .head (.cons .head .nil))).endMut⟩
theorem JbE (hH:H.le w0) {p1:Int} {r:Str} (hm:Z3v N p1=some r):Tot Tryz.prog 166 #[i6 p1] w0 (λv w'=>v=Ac r∧Keep Nil w0 w'):=by
 unfold Z3v at hm
 refine fn0 func166 rfl ntmps166 rfl rfl λa o=>?_
 have u:St w0 Nil [H] [] w0:=start1 hH
 refine th<|rg<|qa o rfl λo=>re<|tn<|th<|?_
 obtain ⟨D0,h6,hm⟩:=bs hm
 refine rg<|ls<|Bh (e:=9) (sz:=1) [Ac [],Ac [],Ac [108,111,97,100],Ac [115,116,111,114,101],Ac [99,97,115],Ac [102,108,117,115,104],Ac [111,112,116],Ac [115,102,101,110,99,101],Ac [109,102,101,110,99,101],Ac [116,97,107,101],Ac [103,105,118,101],Ac [105,102],Ac [108,111,111,112],Ac [98,114,101,97,107],Ac [99,104,101,99,107]] o rfl u rfl rfl rfl (λw=>by kernel_rfl) λb3 w a u o=>?_
 have C0:Rows (α:=Str) H [Ac [],Ac [],Ac [108,111,97,100],Ac [115,116,111,114,101],Ac [99,97,115],Ac [102,108,117,115,104],Ac [111,112,116],Ac [115,102,101,110,99,101],Ac [109,102,101,110,99,101],Ac [116,97,107,101],Ac [103,105,118,101],Ac [105,102],Ac [108,111,111,112],Ac [98,114,101,97,107],Ac [99,104,101,99,107]] ([[],[],[108,111,97,100],[115,116,111,114,101],[99,97,115],[102,108,117,115,104],[111,112,116],[115,102,101,110,99,101],[109,102,101,110,99,101],[116,97,107,101],[103,105,118,101],[105,102],[108,111,111,112],[98,114,101,97,107],[99,104,101,99,107]]:List Str):=(.cons (c:=[Ac []]) rfl (.cons (c:=[Ac []]) rfl (.cons (c:=[Ac [108,111,97,100]]) rfl (.cons (c:=[Ac [115,116,111,114,101]]) rfl (.cons (c:=[Ac [99,97,115]]) rfl (.cons (c:=[Ac [102,108,117,115,104]]) rfl (.cons (c:=[Ac [111,112,116]]) rfl (.cons (c:=[Ac [115,102,101,110,99,101]]) rfl (.cons (c:=[Ac [109,102,101,110,99,101]]) rfl (.cons (c:=[Ac [116,97,107,101]]) rfl (.cons (c:=[Ac [103,105,118,101]]) rfl (.cons (c:=[Ac [105,102]]) rfl (.cons (c:=[Ac [108,111,111,112]]) rfl (.cons (c:=[Ac [98,114,101,97,107]]) rfl (.cons (c:=[Ac [99,104,101,99,107]]) rfl .nil)))))))))))))))
 refine qm o rfl λo=>qv o (Am o runUnderlying36 sizeOf9 rfl rfl h6 (Rd.oaI (u.ld.rdO t0) C0 (by decide) h6)) λo=>?_
 obtain ⟨cz7,g8,E0⟩:=Rows.getI C0 h6
 obtain rfl:cz7=[Ac D0]:=g8
 refine qv o (Ag o isAgg9 rfl (u.ld.elO t0 (E0 0 _ rfl))) λo=>qa o rfl λo=>re<|tn<|wr<|?_
 obtain rfl:=si hm
 exact r1 o results166 rfl ⟨rfl,u.keep⟩
theorem Mo (hH:H.le w0) {b2:Nat} {p1:leadlineref04_P} {oa3:Option Addr} {cap4:Nat} (C0:p1.L.length≤cap4) (D0:SR H oa3 p1.L) {oa7:Option Addr} {cap8:Nat} {vs9:List Value} (E0:Rows H vs9 p1.Out) {p12:Int} (hO:(sepA [bk b2 [SL oa3 p1.L cap4,i6 p1.At,i6 p1.E,i6 p1.Pos,SL oa7 p1.Out cap8] 171,sla 51 9 oa7 p1.Out.length cap8 vs9]).ok (hp w0)) (hD:∀ b,(sepA [bk b2 [SL oa3 p1.L cap4,i6 p1.At,i6 p1.E,i6 p1.Pos,SL oa7 p1.Out cap8] 171,sla 51 9 oa7 p1.Out.length cap8 vs9]).fp b→H b=none) {r:leadlineref04_P} (hm:Z2w N p1 p12=some r):Tot Tryz.prog 167 #[PT b2,i6 p12] w0 (λv w'=>∃ (H':PH) (oa1m:Option Addr) (cap1m:Nat) (oa2m:Option Addr) (cap2m:Nat) (vs2m:List Value),v=.tuple #[]∧r.L.length≤cap1m∧SR H' oa1m r.L∧Rows H' vs2m r.Out∧ExtM w0 (sepA [bk b2 [SL oa3 p1.L cap4,i6 p1.At,i6 p1.E,i6 p1.Pos,SL oa7 p1.Out cap8] 171,sla 51 9 oa7 p1.Out.length cap8 vs9]).fp H H'∧H'.le w'∧(∀ b,(sepA [bk b2 [SL oa1m r.L cap1m,i6 r.At,i6 r.E,i6 r.Pos,SL oa2m r.Out cap2m] 171,sla 51 9 oa2m r.Out.length cap2m vs2m]).fp b→H' b=none)∧Mut w0 (sepA [bk b2 [SL oa3 p1.L cap4,i6 p1.At,i6 p1.E,i6 p1.Pos,SL oa7 p1.Out cap8] 171,sla 51 9 oa7 p1.Out.length cap8 vs9]) (sepA [bk b2 [SL oa1m r.L cap1m,i6 r.At,i6 r.E,i6 r.Pos,SL oa2m r.Out cap2m] 171,sla 51 9 oa2m r.Out.length cap2m vs2m]) w'):=by
 unfold Z2w at hm
 refine fn0 func167 rfl ntmps167 rfl rfl λa o=>?_
 have u:=Cp hH hO hD
 refine th<|rg<|qm o rfl λo=>qv o (Aj o rfl) λo=>qv o (Af o Bu rfl) λo=>qv o (Ag o isAgg29 rfl (u.ld.cellB t0 rfl)) λo=>qv o (An o rfl rfl) λo=>re<|?_
 rcases bip hm with ⟨G0,hm⟩ | ⟨G0,hm⟩
 refine tn<|ctv o rfl G0<|th<|rg<|qm o rfl λo=>qm o rfl λo=>qv o (Aj o rfl) λo=>qv o (Af o Bu rfl) λo=>ls<|Ax o u sizeOf29 rfl rfl rfl rfl .head (.succ (.succ .zero)) λw u=>re<|tn<|th<|th<|rxS 10 u wide (by kernel_rfl) λw u=>xm u o rfl λo=>xr u o (Aj o rfl) λo=>xr u o (Af o Bg rfl) λo=>xq u.ld o (λw hl=>Ag o isAgg3 rfl (hl.cellB t0 rfl)) λo=>xm u o rfl λo=>xr u o (Aj o rfl) λo=>xr u o (Af o Bv rfl) λo=>xq u.ld o (λw hl=>Ag o isAgg120 rfl (hl.cellB t0 rfl)) λo=>xr u o (Ak (α:=api_Token) (xs:=p1.L) o runUnderlying120 rfl) λo=>xr u o (Bl o rfl rfl) λo=>xe<|tn<|Av (λa w=>∃ (J0:Int),(Z2x N p1) J0=some r∧Fr 38 [(0,PT b2)] a∧St w0 (sepA [bk b2 [SL oa3 p1.L cap4,i6 p1.At,i6 p1.E,i6 p1.Pos,SL oa7 p1.Out cap8] 171,sla 51 9 oa7 p1.Out.length cap8 vs9]).fp [H] [sla 51 9 oa7 p1.Out.length cap8 vs9,bk b2 [SL oa3 p1.L cap4,i6 p1.At,i6 J0,i6 p1.Pos,SL oa7 p1.Out cap8] 171] w) ?_ ?_
 rcases bip hm with ⟨I0,hm⟩ | ⟨I0,hm⟩
 refine ctv o rfl I0<|rg<|qm o rfl λo=>qv o (Aj o rfl) λo=>qv o (Af o Bu rfl) λo=>ls<|Ax o u sizeOf29 rfl rfl rfl rfl .head (.succ (.succ .zero)) λw u=>re<|tn<|?_
 replace u:=u.pk [1,0] rfl
 exact ⟨6,hm,o.has ⟨rfl,trivial⟩,u⟩
 refine cfv o rfl I0<|wk<|tn<|?_
 replace u:=u.pk [1,0] rfl
 exact ⟨p12,hm,o.has ⟨rfl,trivial⟩,u⟩
 rintro a w ⟨J0,hm,o,u⟩
 unfold Z2x at hm
 obtain ⟨K0,F0,hm⟩:=bs hm
 refine rdL (Aa t0 Ah) 13 u wide λw u=>ds 0 (St.ldsX u i2 (Aa t0 Ah)) o rfl (Ab o rfl) λo=>ds 1 (St.ldsX u i2 (Aa t0 Ah)) o rfl (Ab o rfl) λo=>ds 2 (St.ldsX u i2 (Aa t0 Ah)) o rfl (Aj o rfl) λo=>ds 3 (St.ldsX u i2 (Aa t0 Ah)) o rfl (Af o Bv rfl) λo=>da2 (i:=4) (j:=5) (by kernel_rfl) ?_ ?_
 refine di (i:=4) rfl<|q1 o rfl (Ag o isAgg120 rfl (u.ld.cellB t1 rfl)) λa o=>⟨λ_=>(St.ldsX u i2 (Aa t0 Ah)),?_⟩
 refine ds 5 (St.ldsX u i2 (Aa t0 Ah)) o rfl (Ab o rfl) λo=>ds 6 (St.ldsX u i2 (Aa t0 Ah)) o rfl (Aj o rfl) λo=>ds 7 (St.ldsX u i2 (Aa t0 Ah)) o rfl (Af o Bg rfl) λo=>da1 (i:=8) (by kernel_rfl) ?_
 refine di (i:=8) rfl<|q1 o rfl (Ag o isAgg3 rfl (u.ld.cellB t1 rfl)) λa o=>⟨λ_=>(St.ldsX u i2 (Aa t0 Ah)),?_⟩
 refine da1 (i:=9) (by kernel_rfl) ?_
 refine di (i:=9) rfl<|cr o call143 (Gr (Ai _) C0 (St.srH u D0) F0) u λu o=>⟨λ_=>(St.ldsX u i2 (Aa t0 Ah)),?_⟩
 refine ds 10 (St.ldsX u i2 (Aa t0 Ah)) o rfl (Aj o rfl) λo=>ds 11 (St.ldsX u i2 (Aa t0 Ah)) o rfl (Af o Gl rfl) λo=>da1 (i:=12) (by kernel_rfl) ?_
 refine di (i:=12) rfl<|Ax o u sizeOf3 rfl rfl rfl rfl (.tail .head) (.succ (.succ (.succ .zero))) λw u=>⟨λ_=>(St.ldsX u i2 (Aa t0 Ah)),?_⟩
 refine de (by kernel_rfl)<|?_
 obtain rfl:=si hm
 exact r0n o results167 ⟨H,oa3,cap4,oa7,cap8,vs9,rfl,C0,D0,E0,(ExtM.refl _ _ _),(St.le u),(St.disL (u.pickL (.cons (.tail .head) (.cons .head .nil)))),(u.pickL (.cons (.tail .head) (.cons .head .nil))).endMut⟩
 refine di (i:=5) rfl<|q1 o rfl (Ab o rfl) λa o=>⟨λ_=>(St.ldsX u i2 (Aa t0 Ah)),?_⟩
 refine da2 (i:=4) (j:=6) (by kernel_rfl) ?_ ?_
 refine di (i:=4) rfl<|q1 o rfl (Ag o isAgg120 rfl (u.ld.cellB t1 rfl)) λa o=>⟨λ_=>(St.ldsX u i2 (Aa t0 Ah)),?_⟩
 refine ds 6 (St.ldsX u i2 (Aa t0 Ah)) o rfl (Aj o rfl) λo=>ds 7 (St.ldsX u i2 (Aa t0 Ah)) o rfl (Af o Bg rfl) λo=>da1 (i:=8) (by kernel_rfl) ?_
 refine di (i:=8) rfl<|q1 o rfl (Ag o isAgg3 rfl (u.ld.cellB t1 rfl)) λa o=>⟨λ_=>(St.ldsX u i2 (Aa t0 Ah)),?_⟩
 refine da1 (i:=9) (by kernel_rfl) ?_
 refine di (i:=9) rfl<|cr o call143 (Gr (Ai _) C0 (St.srH u D0) F0) u λu o=>⟨λ_=>(St.ldsX u i2 (Aa t0 Ah)),?_⟩
 refine ds 10 (St.ldsX u i2 (Aa t0 Ah)) o rfl (Aj o rfl) λo=>ds 11 (St.ldsX u i2 (Aa t0 Ah)) o rfl (Af o Gl rfl) λo=>da1 (i:=12) (by kernel_rfl) ?_
 refine di (i:=12) rfl<|Ax o u sizeOf3 rfl rfl rfl rfl (.tail .head) (.succ (.succ (.succ .zero))) λw u=>⟨λ_=>(St.ldsX u i2 (Aa t0 Ah)),?_⟩
 refine de (by kernel_rfl)<|?_
 obtain rfl:=si hm
 exact r0n o results167 ⟨H,oa3,cap4,oa7,cap8,vs9,rfl,C0,D0,E0,(ExtM.refl _ _ _),(St.le u),(St.disL (u.pickL (.cons (.tail .head) (.cons .head .nil)))),(u.pickL (.cons (.tail .head) (.cons .head .nil))).endMut⟩
 refine di (i:=6) rfl<|q1 o rfl (Aj o rfl) λa o=>⟨λ_=>(St.ldsX u i2 (Aa t0 Ah)),?_⟩
 refine da2 (i:=4) (j:=7) (by kernel_rfl) ?_ ?_
 refine di (i:=4) rfl<|q1 o rfl (Ag o isAgg120 rfl (u.ld.cellB t1 rfl)) λa o=>⟨λ_=>(St.ldsX u i2 (Aa t0 Ah)),?_⟩
 refine ds 7 (St.ldsX u i2 (Aa t0 Ah)) o rfl (Af o Bg rfl) λo=>da1 (i:=8) (by kernel_rfl) ?_
 refine di (i:=8) rfl<|q1 o rfl (Ag o isAgg3 rfl (u.ld.cellB t1 rfl)) λa o=>⟨λ_=>(St.ldsX u i2 (Aa t0 Ah)),?_⟩
 refine da1 (i:=9) (by kernel_rfl) ?_
 refine di (i:=9) rfl<|cr o call143 (Gr (Ai _) C0 (St.srH u D0) F0) u λu o=>⟨λ_=>(St.ldsX u i2 (Aa t0 Ah)),?_⟩
 refine ds 10 (St.ldsX u i2 (Aa t0 Ah)) o rfl (Aj o rfl) λo=>ds 11 (St.ldsX u i2 (Aa t0 Ah)) o rfl (Af o Gl rfl) λo=>da1 (i:=12) (by kernel_rfl) ?_
 refine di (i:=12) rfl<|Ax o u sizeOf3 rfl rfl rfl rfl (.tail .head) (.succ (.succ (.succ .zero))) λw u=>⟨λ_=>(St.ldsX u i2 (Aa t0 Ah)),?_⟩
 refine de (by kernel_rfl)<|?_
 obtain rfl:=si hm
 exact r0n o results167 ⟨H,oa3,cap4,oa7,cap8,vs9,rfl,C0,D0,E0,(ExtM.refl _ _ _),(St.le u),(St.disL (u.pickL (.cons (.tail .head) (.cons .head .nil)))),(u.pickL (.cons (.tail .head) (.cons .head .nil))).endMut⟩
 refine di (i:=7) rfl<|q1 o rfl (Af o Bg rfl) λa o=>⟨λ_=>(St.ldsX u i2 (Aa t0 Ah)),?_⟩
 refine da2 (i:=4) (j:=8) (by kernel_rfl) ?_ ?_
 refine di (i:=4) rfl<|q1 o rfl (Ag o isAgg120 rfl (u.ld.cellB t1 rfl)) λa o=>⟨λ_=>(St.ldsX u i2 (Aa t0 Ah)),?_⟩
 refine da1 (i:=8) (by kernel_rfl) ?_
 refine di (i:=8) rfl<|q1 o rfl (Ag o isAgg3 rfl (u.ld.cellB t1 rfl)) λa o=>⟨λ_=>(St.ldsX u i2 (Aa t0 Ah)),?_⟩
 refine da1 (i:=9) (by kernel_rfl) ?_
 refine di (i:=9) rfl<|cr o call143 (Gr (Ai _) C0 (St.srH u D0) F0) u λu o=>⟨λ_=>(St.ldsX u i2 (Aa t0 Ah)),?_⟩
 refine ds 10 (St.ldsX u i2 (Aa t0 Ah)) o rfl (Aj o rfl) λo=>ds 11 (St.ldsX u i2 (Aa t0 Ah)) o rfl (Af o Gl rfl) λo=>da1 (i:=12) (by kernel_rfl) ?_
 refine di (i:=12) rfl<|Ax o u sizeOf3 rfl rfl rfl rfl (.tail .head) (.succ (.succ (.succ .zero))) λw u=>⟨λ_=>(St.ldsX u i2 (Aa t0 Ah)),?_⟩
 refine de (by kernel_rfl)<|?_
 obtain rfl:=si hm
 exact r0n o results167 ⟨H,oa3,cap4,oa7,cap8,vs9,rfl,C0,D0,E0,(ExtM.refl _ _ _),(St.le u),(St.disL (u.pickL (.cons (.tail .head) (.cons .head .nil)))),(u.pickL (.cons (.tail .head) (.cons .head .nil))).endMut⟩
 refine di (i:=8) rfl<|q1 o rfl (Ag o isAgg3 rfl (u.ld.cellB t1 rfl)) λa o=>⟨λ_=>(St.ldsX u i2 (Aa t0 Ah)),?_⟩
 refine da1 (i:=4) (by kernel_rfl) ?_
 refine di (i:=4) rfl<|q1 o rfl (Ag o isAgg120 rfl (u.ld.cellB t1 rfl)) λa o=>⟨λ_=>(St.ldsX u i2 (Aa t0 Ah)),?_⟩
 refine da1 (i:=9) (by kernel_rfl) ?_
 refine di (i:=9) rfl<|cr o call143 (Gr (Ai _) C0 (St.srH u D0) F0) u λu o=>⟨λ_=>(St.ldsX u i2 (Aa t0 Ah)),?_⟩
 refine ds 10 (St.ldsX u i2 (Aa t0 Ah)) o rfl (Aj o rfl) λo=>ds 11 (St.ldsX u i2 (Aa t0 Ah)) o rfl (Af o Gl rfl) λo=>da1 (i:=12) (by kernel_rfl) ?_
 refine di (i:=12) rfl<|Ax o u sizeOf3 rfl rfl rfl rfl (.tail .head) (.succ (.succ (.succ .zero))) λw u=>⟨λ_=>(St.ldsX u i2 (Aa t0 Ah)),?_⟩
 refine de (by kernel_rfl)<|?_
 obtain rfl:=si hm
 exact r0n o results167 ⟨H,oa3,cap4,oa7,cap8,vs9,rfl,C0,D0,E0,(ExtM.refl _ _ _),(St.le u),(St.disL (u.pickL (.cons (.tail .head) (.cons .head .nil)))),(u.pickL (.cons (.tail .head) (.cons .head .nil))).endMut⟩
 refine tn<|cfv o rfl G0<|wk<|?_
 obtain rfl:=si hm
 exact r0n o results167 ⟨H,oa3,cap4,oa7,cap8,vs9,rfl,C0,D0,E0,(ExtM.refl _ _ _),(St.le u),(St.disL (u.pickL (.cons .head (.cons .head .nil)))),(u.pickL (.cons .head (.cons .head .nil))).endMut⟩
set_option maxHeartbeats 4000000 in
theorem Lh (hH:H.le w0) {b2:Nat} {p1:leadlineref04_P} {oa3:Option Addr} {cap4:Nat} (S0:p1.L.length≤cap4) (C0:SR H oa3 p1.L) {oa7:Option Addr} {cap8:Nat} {vs9:List Value} (M0:Rows H vs9 p1.Out) (hO:(sepA [bk b2 [SL oa3 p1.L cap4,i6 p1.At,i6 p1.E,i6 p1.Pos,SL oa7 p1.Out cap8] 171,sla 51 9 oa7 p1.Out.length cap8 vs9]).ok (hp w0)) (hD:∀ b,(sepA [bk b2 [SL oa3 p1.L cap4,i6 p1.At,i6 p1.E,i6 p1.Pos,SL oa7 p1.Out cap8] 171,sla 51 9 oa7 p1.Out.length cap8 vs9]).fp b→H b=none) {r:(Str×leadlineref04_P)} (hm:Z37 N p1=some r):Tot Tryz.prog 175 #[PT b2] w0 (λv w'=>∃ (H':PH) (oa1m:Option Addr) (cap1m:Nat) (oa2m:Option Addr) (cap2m:Nat) (vs2m:List Value),v=Ac r.1∧r.2.L.length≤cap1m∧SR H' oa1m r.2.L∧Rows H' vs2m r.2.Out∧ExtM w0 (sepA [bk b2 [SL oa3 p1.L cap4,i6 p1.At,i6 p1.E,i6 p1.Pos,SL oa7 p1.Out cap8] 171,sla 51 9 oa7 p1.Out.length cap8 vs9]).fp H H'∧H'.le w'∧(∀ b,(sepA [bk b2 [SL oa1m r.2.L cap1m,i6 r.2.At,i6 r.2.E,i6 r.2.Pos,SL oa2m r.2.Out cap2m] 171,sla 51 9 oa2m r.2.Out.length cap2m vs2m]).fp b→H' b=none)∧Mut w0 (sepA [bk b2 [SL oa3 p1.L cap4,i6 p1.At,i6 p1.E,i6 p1.Pos,SL oa7 p1.Out cap8] 171,sla 51 9 oa7 p1.Out.length cap8 vs9]) (sepA [bk b2 [SL oa1m r.2.L cap1m,i6 r.2.At,i6 r.2.E,i6 r.2.Pos,SL oa2m r.2.Out cap2m] 171,sla 51 9 oa2m r.2.Out.length cap2m vs2m]) w'):=by
 unfold Z37 at hm
 refine fn0 func175 rfl ntmps175 rfl rfl λa o=>?_
 have u:=Cp hH hO hD
 refine th<|rg<|qa o rfl λo=>re<|tn<|th<|th<|Av (λa w=>∃ (O0:Bool),(Z38 N p1) O0=some r∧Fr 70 [(0,PT b2),(47,.bool O0)] a∧St w0 (sepA [bk b2 [SL oa3 p1.L cap4,i6 p1.At,i6 p1.E,i6 p1.Pos,SL oa7 p1.Out cap8] 171,sla 51 9 oa7 p1.Out.length cap8 vs9]).fp [H] [sla 51 9 oa7 p1.Out.length cap8 vs9,bk b2 [SL oa3 p1.L cap4,i6 p1.At,i6 p1.E,i6 p1.Pos,SL oa7 p1.Out cap8] 171] w) ?_ ?_
 rcases bip hm with ⟨D0,hm⟩ | ⟨D0,hm⟩
 rcases bip hm with ⟨F0,hm⟩ | ⟨F0,hm⟩
 obtain ⟨F1,E0,hm⟩:=bs hm
 obtain ⟨G1,p0,I0⟩:=SR.get C0 E0
 obtain rfl:=Bb p0
 rcases bip hm with ⟨J0,hm⟩ | ⟨J0,hm⟩
 obtain ⟨u0,B1,hm⟩:=bs hm
 refine rdS 45 u wide λw u=>dr 0 u o rfl (Ab o rfl) λo=>dr 1 u o rfl (Aj o rfl) λo=>dr 2 u o rfl (Af o Bu rfl) λo=>dq 3 u.ld o rfl (λw hl=>Ag o isAgg29 rfl (hl.cellB t0 rfl)) λo=>dr 4 u o rfl (An o rfl rfl) λo=>dr 5 u o rfl (Ar (Ab o rfl) (congrArg Value.bool D0)) λo=>dg 6 u.ld o rfl (λw hl=>Ab o rfl) λo=>dg 7 u.ld o rfl (λw hl=>Aj o rfl) λo=>dg 8 u.ld o rfl (λw hl=>Af o Bg rfl) λo=>dg 9 u.ld o rfl (λw hl=>Ag o isAgg3 rfl (hl.cellB t0 rfl)) λo=>dg 10 u.ld o rfl (λw hl=>Ab o rfl) λo=>dg 11 u.ld o rfl (λw hl=>Aj o rfl) λo=>dg 12 u.ld o rfl (λw hl=>Af o Bv rfl) λo=>dg 13 u.ld o rfl (λw hl=>Ag o isAgg120 rfl (hl.cellB t0 rfl)) λo=>dg 14 u.ld o rfl (λw hl=>Ak (α:=api_Token) (xs:=p1.L) o runUnderlying120 rfl) λo=>dg 15 u.ld o rfl (λw hl=>Ao o rfl rfl) λo=>dr 16 u o rfl (Ad o rfl rfl) λo=>dr 17 u o rfl (Ar (Ab o rfl) (congrArg Value.bool F0)) λo=>dg 18 u.ld o rfl (λw hl=>Ab o rfl) λo=>dg 19 u.ld o rfl (λw hl=>Aj o rfl) λo=>dg 20 u.ld o rfl (λw hl=>Af o Bv rfl) λo=>dg 21 u.ld o rfl (λw hl=>Ag o isAgg120 rfl (hl.cellB t0 rfl)) λo=>dg 22 u.ld o rfl (λw hl=>Ab o rfl) λo=>dg 23 u.ld o rfl (λw hl=>Aj o rfl) λo=>dg 24 u.ld o rfl (λw hl=>Af o Bg rfl) λo=>dg 25 u.ld o rfl (λw hl=>Ag o isAgg3 rfl (hl.cellB t0 rfl)) λo=>dg 26 u.ld o rfl (λw hl=>Am o runUnderlying120 sizeOf130 rfl rfl E0 (SR.oaI C0 (by decide) E0)) λo=>dg 27 u.ld o rfl (λw hl=>Af o Cr rfl) λo=>dg 28 u.ld o rfl (λw hl=>Ag o isAgg3 rfl (PH.le.cell (Lds.le hl) (I0 0 _ rfl))) λo=>dg 29 u.ld o rfl (λw hl=>An o rfl rfl) λo=>?_
 refine dr 30 u o rfl (Ad o rfl rfl) λo=>dr 31 u o rfl (Ar (Ab o rfl) (congrArg Value.bool J0)) λo=>dg 32 u.ld o rfl (λw hl=>Ab o rfl) λo=>dg 33 u.ld o rfl (λw hl=>Aj o rfl) λo=>dg 34 u.ld o rfl (λw hl=>Af o Bv rfl) λo=>dg 35 u.ld o rfl (λw hl=>Ag o isAgg120 rfl (hl.cellB t0 rfl)) λo=>dg 36 u.ld o rfl (λw hl=>Ab o rfl) λo=>dg 37 u.ld o rfl (λw hl=>Aj o rfl) λo=>dg 38 u.ld o rfl (λw hl=>Af o Bg rfl) λo=>dg 39 u.ld o rfl (λw hl=>Ag o isAgg3 rfl (hl.cellB t0 rfl)) λo=>dg 40 u.ld o rfl (λw hl=>Am o runUnderlying120 sizeOf130 rfl rfl E0 (SR.oaI C0 (by decide) E0)) λo=>dg 41 u.ld o rfl (λw hl=>Af o Em rfl) λo=>dg 42 u.ld o rfl (λw hl=>Ag o isAgg9 rfl (PH.le.cell (Lds.le hl) (I0 1 _ rfl))) λo=>da1 (i:=43) (by kernel_rfl) ?_
 refine di (i:=43) rfl<|gy o rfl rfl<|cr o call114 (Gd (Ai _) B1) u λu o=>⟨λ_=>u.ld,?_⟩
 refine dr 44 u o rfl (Ad o rfl rfl) λo=>de (by kernel_rfl)<|tn<|?_
 replace u:=u.pk [1,0] rfl
 exact ⟨u0,hm,o.has ⟨rfl,rfl,trivial⟩,u⟩
 refine rxS 45 u wide (by kernel_rfl) λw u=>xm u o rfl λo=>xr u o (Aj o rfl) λo=>xr u o (Af o Bu rfl) λo=>xq u.ld o (λw hl=>Ag o isAgg29 rfl (hl.cellB t0 rfl)) λo=>xr u o (An o rfl rfl) λo=>xr u o (Ar (Ab o rfl) (congrArg Value.bool D0)) λo=>xg u.ld o (λw hl=>Ab o rfl) λo=>xg u.ld o (λw hl=>Aj o rfl) λo=>xg u.ld o (λw hl=>Af o Bg rfl) λo=>xg u.ld o (λw hl=>Ag o isAgg3 rfl (hl.cellB t0 rfl)) λo=>xg u.ld o (λw hl=>Ab o rfl) λo=>xg u.ld o (λw hl=>Aj o rfl) λo=>xg u.ld o (λw hl=>Af o Bv rfl) λo=>xg u.ld o (λw hl=>Ag o isAgg120 rfl (hl.cellB t0 rfl)) λo=>xg u.ld o (λw hl=>Ak (α:=api_Token) (xs:=p1.L) o runUnderlying120 rfl) λo=>xg u.ld o (λw hl=>Ao o rfl rfl) λo=>xr u o (Ad o rfl rfl) λo=>xr u o (Ar (Ab o rfl) (congrArg Value.bool F0)) λo=>xg u.ld o (λw hl=>Ab o rfl) λo=>xg u.ld o (λw hl=>Aj o rfl) λo=>xg u.ld o (λw hl=>Af o Bv rfl) λo=>xg u.ld o (λw hl=>Ag o isAgg120 rfl (hl.cellB t0 rfl)) λo=>xg u.ld o (λw hl=>Ab o rfl) λo=>xg u.ld o (λw hl=>Aj o rfl) λo=>xg u.ld o (λw hl=>Af o Bg rfl) λo=>xg u.ld o (λw hl=>Ag o isAgg3 rfl (hl.cellB t0 rfl)) λo=>xg u.ld o (λw hl=>Am o runUnderlying120 sizeOf130 rfl rfl E0 (SR.oaI C0 (by decide) E0)) λo=>xg u.ld o (λw hl=>Af o Cr rfl) λo=>xg u.ld o (λw hl=>Ag o isAgg3 rfl (PH.le.cell (Lds.le hl) (I0 0 _ rfl))) λo=>xg u.ld o (λw hl=>An o rfl rfl) λo=>?_
 refine xr u o (Ad o rfl rfl) λo=>xr u o (Ar (Ab o rfl) (congrArg Value.bool J0)) λo=>?_
 iterate 12 refine xn u.ld o λo=>?_
 refine xr u o (Ae o rfl rfl) λo=>xe<|tn<|?_
 replace u:=u.pk [1,0] rfl
 exact ⟨false,hm,o.has ⟨rfl,rfl,trivial⟩,u⟩
 refine rxS 45 u wide (by kernel_rfl) λw u=>xm u o rfl λo=>xr u o (Aj o rfl) λo=>xr u o (Af o Bu rfl) λo=>xq u.ld o (λw hl=>Ag o isAgg29 rfl (hl.cellB t0 rfl)) λo=>xr u o (An o rfl rfl) λo=>xr u o (Ar (Ab o rfl) (congrArg Value.bool D0)) λo=>xg u.ld o (λw hl=>Ab o rfl) λo=>xg u.ld o (λw hl=>Aj o rfl) λo=>xg u.ld o (λw hl=>Af o Bg rfl) λo=>xg u.ld o (λw hl=>Ag o isAgg3 rfl (hl.cellB t0 rfl)) λo=>xg u.ld o (λw hl=>Ab o rfl) λo=>xg u.ld o (λw hl=>Aj o rfl) λo=>xg u.ld o (λw hl=>Af o Bv rfl) λo=>xg u.ld o (λw hl=>Ag o isAgg120 rfl (hl.cellB t0 rfl)) λo=>xg u.ld o (λw hl=>Ak (α:=api_Token) (xs:=p1.L) o runUnderlying120 rfl) λo=>xg u.ld o (λw hl=>Ao o rfl rfl) λo=>xr u o (Ad o rfl rfl) λo=>xr u o (Ar (Ab o rfl) (congrArg Value.bool F0)) λo=>?_
 iterate 12 refine xn u.ld o λo=>?_
 refine xr u o (Ae o rfl rfl) λo=>xm u o rfl λo=>?_
 iterate 12 refine xn u.ld o λo=>?_
 refine xr u o (Ae o rfl rfl) λo=>xe<|tn<|?_
 replace u:=u.pk [1,0] rfl
 exact ⟨false,hm,o.has ⟨rfl,rfl,trivial⟩,u⟩
 refine rxS 45 u wide (by kernel_rfl) λw u=>xm u o rfl λo=>xr u o (Aj o rfl) λo=>xr u o (Af o Bu rfl) λo=>xq u.ld o (λw hl=>Ag o isAgg29 rfl (hl.cellB t0 rfl)) λo=>xr u o (An o rfl rfl) λo=>xr u o (Ar (Ab o rfl) (congrArg Value.bool D0)) λo=>?_
 iterate 10 refine xn u.ld o λo=>?_
 refine xr u o (Ae o rfl rfl) λo=>xm u o rfl λo=>?_
 iterate 12 refine xn u.ld o λo=>?_
 refine xr u o (Ae o rfl rfl) λo=>xm u o rfl λo=>?_
 iterate 12 refine xn u.ld o λo=>?_
 refine xr u o (Ae o rfl rfl) λo=>xe<|tn<|?_
 replace u:=u.pk [1,0] rfl
 exact ⟨false,hm,o.has ⟨rfl,rfl,trivial⟩,u⟩
 rintro a w ⟨O0,hm,o,u⟩
 unfold Z38 at hm
 rcases bit hm with ⟨K0,hm⟩ | ⟨K0,hm⟩
 refine ctv o rfl K0<|th<|rg<|qm o rfl λo=>qm o rfl λo=>qv o (Aj o rfl) λo=>qv o (Af o Bg rfl) λo=>qv o (Ag o isAgg3 rfl (u.ld.cellB t1 rfl)) λo=>qv o (Ap o rfl rfl) λo=>qv o (Aj o rfl) λo=>qv o (Af o Bg rfl) λo=>ls<|Ax o u sizeOf3 rfl rfl rfl rfl (.tail .head) (.succ .zero) λw u=>re<|tn<|th<|?_
 obtain ⟨I1,P0,hm⟩:=bs hm
 obtain ⟨J1,C1,T0⟩:=SR.get C0 P0
 obtain rfl:=Bb C1
 refine rxS 13 u wide (by kernel_rfl) λw u=>xm u o rfl λo=>xr u o (Aj o rfl) λo=>xr u o (Af o Bv rfl) λo=>xq u.ld o (λw hl=>Ag o isAgg120 rfl (hl.cellB t1 rfl)) λo=>xm u o rfl λo=>xr u o (Aj o rfl) λo=>xr u o (Af o Bg rfl) λo=>xq u.ld o (λw hl=>Ag o isAgg3 rfl (hl.cellB t1 rfl)) λo=>xr u o (Gs o rfl rfl) λo=>xr u o (Am o runUnderlying120 sizeOf130 rfl rfl P0 (SR.oaI C0 (by decide) P0)) λo=>xr u o (Af o Em rfl) λo=>xq u.ld o (λw hl=>Ag o isAgg9 rfl (PH.le.cell (Lds.le hl) (T0 1 _ rfl))) λo=>xr u o (Bq o rfl) λo=>xe<|tn<|wr<|tr<|?_
 obtain rfl:=si hm
 exact r1 o results175 rfl ⟨H,oa3,cap4,oa7,cap8,vs9,rfl,S0,C0,M0,(ExtM.refl _ _ _),(St.le u),(St.disL (u.pickL (.cons (.tail .head) (.cons .head .nil)))),(u.pickL (.cons (.tail .head) (.cons .head .nil))).endMut⟩
 refine cfv o rfl K0<|wk<|tn<|th<|?_
 obtain ⟨M1,E1,hm⟩:=bs hm
 refine rg<|qm o rfl λo=>?_
 replace u:=u.pk [1,0] rfl
 replace u:=St.sep [bk b2 [SL oa3 p1.L cap4,i6 p1.At,i6 p1.E,i6 p1.Pos,SL oa7 p1.Out cap8] 171,sla 51 9 oa7 p1.Out.length cap8 vs9] u
 refine ls<|c1 o rfl call167 (Mo (St.le u) (p1:=(leadlineref04_P.mk p1.L p1.At p1.E p1.Pos p1.Out)) (b2:=b2) (oa3:=oa3) (cap4:=cap4) (oa7:=oa7) (cap8:=cap8) (vs9:=vs9) S0 C0 M0 (St.sepOk u) (St.sepDis u) E1) ⟨rfl,rfl,trivial⟩ (λv w a hR o=>?_)
 obtain ⟨H33,U0,Q0,V0,R0,W0,rfl,X0,Y0,j0,G0,n0,hd32,hk⟩:=hR
 obtain ⟨u,G0⟩:=And.intro (St.mutH u hk G0 n0 hd32) (St.extcMM u G0)
 replace u:=u.unsep
 refine re<|tn<|th<|rg<|qa o rfl λo=>re<|tn<|wr<|?_
 obtain rfl:=si hm
 exact r1 o results175 rfl ⟨H33,U0,Q0,V0,R0,W0,rfl,X0,Y0,j0,G0,(St.le u),(St.disL (u.pickL (.cons .head (.cons .head .nil)))),(u.pickL (.cons .head (.cons .head .nil))).endMut⟩
theorem H7 (hH:H.le w0) {b2:Nat} {p1:leadlineref04_P} {oa3:Option Addr} {cap4:Nat} (F0:p1.L.length≤cap4) (G0:SR H oa3 p1.L) {oa7:Option Addr} {cap8:Nat} {vs9:List Value} (I0:Rows H vs9 p1.Out) {p12:Str} (hO:(sepA [bk b2 [SL oa3 p1.L cap4,i6 p1.At,i6 p1.E,i6 p1.Pos,SL oa7 p1.Out cap8] 171,sla 51 9 oa7 p1.Out.length cap8 vs9]).ok (hp w0)) (hD:∀ b,(sepA [bk b2 [SL oa3 p1.L cap4,i6 p1.At,i6 p1.E,i6 p1.Pos,SL oa7 p1.Out cap8] 171,sla 51 9 oa7 p1.Out.length cap8 vs9]).fp b→H b=none) {r:leadlineref04_P} (hm:Z35 N p1 p12=some r):Tot Tryz.prog 161 #[PT b2,Ac p12] w0 (λv w'=>∃ (H':PH) (oa1m:Option Addr) (cap1m:Nat) (oa2m:Option Addr) (cap2m:Nat) (vs2m:List Value),v=.tuple #[]∧r.L.length≤cap1m∧SR H' oa1m r.L∧Rows H' vs2m r.Out∧ExtM w0 (sepA [bk b2 [SL oa3 p1.L cap4,i6 p1.At,i6 p1.E,i6 p1.Pos,SL oa7 p1.Out cap8] 171,sla 51 9 oa7 p1.Out.length cap8 vs9]).fp H H'∧H'.le w'∧(∀ b,(sepA [bk b2 [SL oa1m r.L cap1m,i6 r.At,i6 r.E,i6 r.Pos,SL oa2m r.Out cap2m] 171,sla 51 9 oa2m r.Out.length cap2m vs2m]).fp b→H' b=none)∧Mut w0 (sepA [bk b2 [SL oa3 p1.L cap4,i6 p1.At,i6 p1.E,i6 p1.Pos,SL oa7 p1.Out cap8] 171,sla 51 9 oa7 p1.Out.length cap8 vs9]) (sepA [bk b2 [SL oa1m r.L cap1m,i6 r.At,i6 r.E,i6 r.Pos,SL oa2m r.Out cap2m] 171,sla 51 9 oa2m r.Out.length cap2m vs2m]) w'):=by
 unfold Z35 at hm
 refine fn0 func161 rfl ntmps161 rfl rfl λa o=>?_
 have u:=Cp hH hO hD
 refine th<|Av (λa w=>∃ (J0:Bool),(Z36 N p1) J0=some r∧Fr 31 [(0,PT b2),(20,.bool J0)] a∧St w0 (sepA [bk b2 [SL oa3 p1.L cap4,i6 p1.At,i6 p1.E,i6 p1.Pos,SL oa7 p1.Out cap8] 171,sla 51 9 oa7 p1.Out.length cap8 vs9]).fp [H] [sla 51 9 oa7 p1.Out.length cap8 vs9,bk b2 [SL oa3 p1.L cap4,i6 p1.At,i6 p1.E,i6 p1.Pos,SL oa7 p1.Out cap8] 171] w) ?_ ?_
 rcases bip hm with ⟨D0,hm⟩ | ⟨D0,hm⟩
 obtain ⟨V0,W0,hm⟩:=bs hm
 refine rdS 17 u wide λw u=>dr 0 u o rfl (Ab o rfl) λo=>dr 1 u o rfl (Aj o rfl) λo=>dr 2 u o rfl (Af o Bu rfl) λo=>dq 3 u.ld o rfl (λw hl=>Ag o isAgg29 rfl (hl.cellB t0 rfl)) λo=>dr 4 u o rfl (An o rfl rfl) λo=>dr 5 u o rfl (Ar (Ab o rfl) (congrArg Value.bool D0)) λo=>dg 6 u.ld o rfl (λw hl=>Ab o rfl) λo=>dg 7 u.ld o rfl (λw hl=>Aj o rfl) λo=>dg 8 u.ld o rfl (λw hl=>Af o Bv rfl) λo=>dg 9 u.ld o rfl (λw hl=>Ag o isAgg120 rfl (hl.cellB t0 rfl)) λo=>dg 10 u.ld o rfl (λw hl=>Ab o rfl) λo=>dg 11 u.ld o rfl (λw hl=>Aj o rfl) λo=>dg 12 u.ld o rfl (λw hl=>Af o Bg rfl) λo=>dg 13 u.ld o rfl (λw hl=>Ag o isAgg3 rfl (hl.cellB t0 rfl)) λo=>dg 14 u.ld o rfl (λw hl=>Ab o rfl) λo=>da1 (i:=15) (by kernel_rfl) ?_
 refine di (i:=15) rfl<|gy o rfl rfl<|cr o call139 (Ge (Ai _) F0 (St.srH u G0) W0) u λu o=>⟨λ_=>u.ld,?_⟩
 refine dr 16 u o rfl (Ad o rfl rfl) λo=>de (by kernel_rfl)<|tn<|?_
 replace u:=u.pk [1,0] rfl
 exact ⟨V0,hm,o.has ⟨rfl,rfl,trivial⟩,u⟩
 refine rxS 17 u wide (by kernel_rfl) λw u=>xm u o rfl λo=>xr u o (Aj o rfl) λo=>xr u o (Af o Bu rfl) λo=>xq u.ld o (λw hl=>Ag o isAgg29 rfl (hl.cellB t0 rfl)) λo=>xr u o (An o rfl rfl) λo=>xr u o (Ar (Ab o rfl) (congrArg Value.bool D0)) λo=>?_
 iterate 10 refine xn u.ld o λo=>?_
 refine xr u o (Ae o rfl rfl) λo=>xe<|tn<|?_
 replace u:=u.pk [1,0] rfl
 exact ⟨false,hm,o.has ⟨rfl,rfl,trivial⟩,u⟩
 rintro a w ⟨J0,hm,o,u⟩
 unfold Z36 at hm
 rcases bit hm with ⟨E0,hm⟩ | ⟨E0,hm⟩
 refine ctv o rfl E0<|rg<|qm o rfl λo=>qm o rfl λo=>qv o (Aj o rfl) λo=>qv o (Af o Bg rfl) λo=>qv o (Ag o isAgg3 rfl (u.ld.cellB t1 rfl)) λo=>qv o (Ap o rfl rfl) λo=>qv o (Aj o rfl) λo=>qv o (Af o Bg rfl) λo=>ls<|Ax o u sizeOf3 rfl rfl rfl rfl (.tail .head) (.succ .zero) λw u=>re<|?_
 obtain rfl:=si hm
 exact r0n o results161 ⟨H,oa3,cap4,oa7,cap8,vs9,rfl,F0,G0,I0,(ExtM.refl _ _ _),(St.le u),(St.disL (u.pickL (.cons (.tail .head) (.cons .head .nil)))),(u.pickL (.cons (.tail .head) (.cons .head .nil))).endMut⟩
 refine cfv o rfl E0<|?_
 obtain ⟨Y0,X0,hm⟩:=bs hm
 refine rg<|qm o rfl λo=>?_
 replace u:=u.pk [1,0] rfl
 replace u:=St.sep [bk b2 [SL oa3 p1.L cap4,i6 p1.At,i6 p1.E,i6 p1.Pos,SL oa7 p1.Out cap8] 171,sla 51 9 oa7 p1.Out.length cap8 vs9] u
 refine ls<|c1 o rfl call167 (Mo (St.le u) (p1:=(leadlineref04_P.mk p1.L p1.At p1.E p1.Pos p1.Out)) (b2:=b2) (oa3:=oa3) (cap4:=cap4) (oa7:=oa7) (cap8:=cap8) (vs9:=vs9) F0 G0 I0 (St.sepOk u) (St.sepDis u) X0) ⟨rfl,rfl,trivial⟩ (λv w a hR o=>?_)
 obtain ⟨H22,O0,K0,P0,M0,Q0,rfl,R0,S0,T0,C0,U0,hd21,hk⟩:=hR
 obtain ⟨u,C0⟩:=And.intro (St.mutH u hk C0 U0 hd21) (St.extcMM u C0)
 replace u:=u.unsep
 refine re<|?_
 obtain rfl:=si hm
 exact r0n o results161 ⟨H22,O0,K0,P0,M0,Q0,rfl,R0,S0,T0,C0,(St.le u),(St.disL (u.pickL (.cons .head (.cons .head .nil)))),(u.pickL (.cons .head (.cons .head .nil))).endMut⟩
theorem Sc (hH:H.le w0) {F0:Option Addr} {E0:Nat} {p1:(List api_Token)} (I0:p1.length≤E0) (J0:SR H F0 p1) {p6:Int} {p7:Int} {r:leadlineref03_Read} (hm:Z2k N p1 p6 p7=some r):Tot Tryz.prog 178 #[SL F0 p1 E0,i6 p6,i6 p7] w0 (λv w'=>∃ (H':PH) (cs0:List Value),v=.agg cs0.toArray∧Enc.rep H' cs0 r∧Ext w0 H H'∧H'.le w'∧Keep Nil w0 w'):=by
 unfold Z2k at hm
 refine fn0 func178 rfl ntmps178 rfl rfl λa o=>?_
 have u:St w0 Nil [H] [] w0:=start1 hH
 refine th<|rg<|ls<|Au (cs:=[.slice none 0 0,i6 0,i6 0,i6 0].toArray) o rfl u Tryz.zeroValue174 rfl λb8 w a u o=>re<|tn<|th<|th<|rg<|qm o rfl λo=>qm o rfl λo=>qv o (Ak (α:=api_Token) (xs:=p1) o runUnderlying120 rfl) λo=>qv o (Bl o rfl rfl) λo=>re<|tn<|Av (λa w=>∃ (C0:Int),(Z2l N p1 p6) C0=some r∧Fr 16 [(0,SL F0 p1 E0),(1,i6 p6),(2,i6 C0),(6,PT b8)] a∧St w0 Nil [H] [bk b8 [.slice none 0 0,i6 0,i6 0,i6 0] 174] w) ?_ ?_
 rcases bip hm with ⟨G0,hm⟩ | ⟨G0,hm⟩
 refine ctv o rfl G0<|rg<|qa o rfl λo=>re<|tn<|?_
 exact ⟨6,hm,o.hs,u⟩
 refine cfv o rfl G0<|wk<|tn<|?_
 exact ⟨p7,hm,o.hs,u⟩
 rintro a w ⟨C0,hm,o,u⟩
 unfold Z2l at hm
 refine th<|?_
 obtain ⟨D0,K0,hm⟩:=bs hm
 refine rg<|qm o rfl λo=>?_
 iterate 2 refine qm o rfl λo=>?_
 refine ls<|cr o call143 (Gr (Ai _) I0 (St.srH u J0) K0) u λu o=>qv o (Bp [i6 C0,i6 D0] [.slice none 0 0,i6 0,i6 C0,i6 D0] o ⟨rfl,rfl,trivial⟩ (λw=>by kernel_rfl)) λo=>ls<|Az o u sizeOf174 rfl rfl rfl rfl (Al rfl) .head λw u=>re<|tn<|wr<|?_
 obtain rfl:=si hm
 exact r1c (vs:=[.slice none 0 0,i6 0,i6 C0,i6 D0]) (.inl rfl) o results178 rfl isAgg174 sizeOf174 rfl (u.ld.cellsB t0) ⟨H,_,rfl,(show Enc.rep (α:=leadlineref03_Read) H [.slice none 0 0,i6 0,i6 C0,i6 D0] (leadlineref03_Read.mk [] 0 C0 D0) from ⟨_,_,rfl,⟨none,0,rfl,Nat.le_refl _,SR.nil _ _⟩,⟨_,_,rfl,rfl,⟨_,_,rfl,rfl,rfl⟩⟩⟩),(Ext.refl _ _),(St.le u),u.keep⟩
theorem Uj (hH:H.le w0) {p1:Int} {r:(List Int)} (hm:Z2p N p1=some r):Tot Tryz.prog 171 #[i6 p1] w0 (λv w'=>∃ (H':PH) (P0:Option Addr) (I0:Nat),v=SL P0 r I0∧r.length≤I0∧SR H' P0 r∧Ext w0 H H'∧H'.le w'∧Keep Nil w0 w'):=by
 unfold Z2p at hm
 refine fn0 func171 rfl ntmps171 rfl rfl λa o=>?_
 have u:St w0 Nil [H] [] w0:=start1 hH
 refine th<|rg<|qa o rfl λo=>re<|tn<|th<|?_
 obtain ⟨O1,J0,hm⟩:=bs hm
 refine rg<|ls<|Bh (e:=3) (sz:=1) [i6 15] o rfl u rfl rfl rfl (λw=>by kernel_rfl) λb3 w a u o=>?_
 have E1:Rows (α:=Int) H [i6 15] ([15]:List Int):=(.cons (c:=[i6 15]) rfl .nil)
 refine ls<|Bh (e:=3) (sz:=1) [i6 14] o rfl u rfl rfl rfl (λw=>by kernel_rfl) λb6 w a u o=>?_
 have F1:Rows (α:=Int) H [i6 14] ([14]:List Int):=(.cons (c:=[i6 14]) rfl .nil)
 refine ls<|Bh (e:=3) (sz:=1) [i6 10,i6 11,i6 12,i6 13] o rfl u rfl rfl rfl (λw=>by kernel_rfl) λb9 w a u o=>?_
 have G1:Rows (α:=Int) H [i6 10,i6 11,i6 12,i6 13] ([10,11,12,13]:List Int):=(.cons (c:=[i6 10]) rfl (.cons (c:=[i6 11]) rfl (.cons (c:=[i6 12]) rfl (.cons (c:=[i6 13]) rfl .nil))))
 refine ls<|Bh (e:=3) (sz:=1) [i6 5,i6 6] o rfl u rfl rfl rfl (λw=>by kernel_rfl) λK0 w a u o=>?_
 have Q0:Rows (α:=Int) H [i6 5,i6 6] ([5,6]:List Int):=(.cons (c:=[i6 5]) rfl (.cons (c:=[i6 6]) rfl .nil))
 refine ls<|Bh (e:=3) (sz:=1) [i6 7,i6 8,i6 9] o rfl u rfl rfl rfl (λw=>by kernel_rfl) λM0 w a u o=>?_
 have R0:Rows (α:=Int) H [i6 7,i6 8,i6 9] ([7,8,9]:List Int):=(.cons (c:=[i6 7]) rfl (.cons (c:=[i6 8]) rfl (.cons (c:=[i6 9]) rfl .nil)))
 obtain ⟨H20,C0,S0,T0,u⟩:=St.frzS u (.tail (.tail (.tail (.tail .head)))) E1
 obtain ⟨H24,D0,U0,V0,u⟩:=St.frzS u (.tail (.tail (.tail .head))) (F1.mono C0.sub)
 obtain ⟨H28,E0,W0,X0,u⟩:=St.frzS u (.tail (.tail .head)) (G1.mono (cp D0.sub C0.sub))
 obtain ⟨H32,F0,Y0,j0,u⟩:=St.frzS u (.tail .head) (Q0.mono (cp (cp E0.sub D0.sub) C0.sub))
 obtain ⟨H36,G0,n0,p0,u⟩:=St.frzS u .head (R0.mono (cp (cp (cp F0.sub E0.sub) D0.sub) C0.sub))
 refine ls<|Bh (e:=42) (sz:=1) [.slice (some ⟨b3,0,none⟩) ([15]:List Int).length 1,.slice (some ⟨b6,0,none⟩) ([14]:List Int).length 1,.slice (some ⟨b9,0,none⟩) ([10,11,12,13]:List Int).length 4,.slice (some ⟨K0,0,none⟩) ([5,6]:List Int).length 2,.slice (some ⟨M0,0,none⟩) ([7,8,9]:List Int).length 3] o rfl u rfl rfl rfl (λw=>by kernel_rfl) λP1 w a u o=>?_
 have O0:Rows (α:=(List Int)) H36 [.slice (some ⟨b3,0,none⟩) ([15]:List Int).length 1,.slice (some ⟨b6,0,none⟩) ([14]:List Int).length 1,.slice (some ⟨b9,0,none⟩) ([10,11,12,13]:List Int).length 4,.slice (some ⟨K0,0,none⟩) ([5,6]:List Int).length 2,.slice (some ⟨M0,0,none⟩) ([7,8,9]:List Int).length 3] ([([15]:List Int),([14]:List Int),([10,11,12,13]:List Int),([5,6]:List Int),([7,8,9]:List Int)]:List (List Int)):=(.cons (c:=[.slice (some ⟨b3,0,none⟩) ([15]:List Int).length 1]) ⟨_,_,rfl,T0,(S0.mono (cp (cp (cp G0.sub F0.sub) E0.sub) D0.sub))⟩ (.cons (c:=[.slice (some ⟨b6,0,none⟩) ([14]:List Int).length 1]) ⟨_,_,rfl,V0,(U0.mono (cp (cp G0.sub F0.sub) E0.sub))⟩ (.cons (c:=[.slice (some ⟨b9,0,none⟩) ([10,11,12,13]:List Int).length 4]) ⟨_,_,rfl,X0,(W0.mono (cp G0.sub F0.sub))⟩ (.cons (c:=[.slice (some ⟨K0,0,none⟩) ([5,6]:List Int).length 2]) ⟨_,_,rfl,j0,(Y0.mono G0.sub)⟩ (.cons (c:=[.slice (some ⟨M0,0,none⟩) ([7,8,9]:List Int).length 3]) ⟨_,_,rfl,p0,n0⟩ .nil)))))
 refine qm o rfl λo=>qv o (Am o runUnderlying190 sizeOf42 rfl rfl J0 (Rd.oaI (u.ld.rdO t0) O0 (by decide) J0)) λo=>?_
 obtain ⟨Q1,I1,u0⟩:=Rows.getI O0 J0
 obtain ⟨M1,J1,rfl,B1,C1⟩:=I1
 refine qv o (Ag o isAgg42 rfl (u.ld.elO t0 (u0 0 _ rfl))) λo=>qa o rfl λo=>re<|tn<|wr<|?_
 obtain rfl:=si hm
 exact r1 o results171 rfl ⟨H36,_,_,rfl,B1,C1,(Ext.trans C0 (Ext.trans D0 (Ext.trans E0 (Ext.trans F0 G0)))),(St.le u),u.keep⟩
theorem Jbu (hH:H.le w0) {p1:Int} {r:Str} (hm:Z2u N p1=some r):Tot Tryz.prog 172 #[i6 p1] w0 (λv w'=>v=Ac r∧Keep Nil w0 w'):=by
 unfold Z2u at hm
 refine fn0 func172 rfl ntmps172 rfl rfl λa o=>?_
 have u:St w0 Nil [H] [] w0:=start1 hH
 refine th<|rg<|qa o rfl λo=>re<|tn<|th<|?_
 obtain ⟨D0,h6,hm⟩:=bs hm
 refine rg<|ls<|Bh (e:=9) (sz:=1) [Ac [],Ac [],Ac [],Ac [45],Ac [33],Ac [43],Ac [45],Ac [42],Ac [47],Ac [37],Ac [61,61],Ac [33,61],Ac [60],Ac [60,61],Ac [38,38],Ac [124,124]] o rfl u rfl rfl rfl (λw=>by kernel_rfl) λb3 w a u o=>?_
 have C0:Rows (α:=Str) H [Ac [],Ac [],Ac [],Ac [45],Ac [33],Ac [43],Ac [45],Ac [42],Ac [47],Ac [37],Ac [61,61],Ac [33,61],Ac [60],Ac [60,61],Ac [38,38],Ac [124,124]] ([[],[],[],[45],[33],[43],[45],[42],[47],[37],[61,61],[33,61],[60],[60,61],[38,38],[124,124]]:List Str):=(.cons (c:=[Ac []]) rfl (.cons (c:=[Ac []]) rfl (.cons (c:=[Ac []]) rfl (.cons (c:=[Ac [45]]) rfl (.cons (c:=[Ac [33]]) rfl (.cons (c:=[Ac [43]]) rfl (.cons (c:=[Ac [45]]) rfl (.cons (c:=[Ac [42]]) rfl (.cons (c:=[Ac [47]]) rfl (.cons (c:=[Ac [37]]) rfl (.cons (c:=[Ac [61,61]]) rfl (.cons (c:=[Ac [33,61]]) rfl (.cons (c:=[Ac [60]]) rfl (.cons (c:=[Ac [60,61]]) rfl (.cons (c:=[Ac [38,38]]) rfl (.cons (c:=[Ac [124,124]]) rfl .nil))))))))))))))))
 refine qm o rfl λo=>qv o (Am o runUnderlying36 sizeOf9 rfl rfl h6 (Rd.oaI (u.ld.rdO t0) C0 (by decide) h6)) λo=>?_
 obtain ⟨cz7,g8,E0⟩:=Rows.getI C0 h6
 obtain rfl:cz7=[Ac D0]:=g8
 refine qv o (Ag o isAgg9 rfl (u.ld.elO t0 (E0 0 _ rfl))) λo=>qa o rfl λo=>re<|tn<|wr<|?_
 obtain rfl:=si hm
 exact r1 o results172 rfl ⟨rfl,u.keep⟩
set_option maxHeartbeats 4000000 in
theorem JaL:∀ (N:Nat),(∀ {w0:World} {H:PH} (_:H.le w0) {R0:Option Addr} {G0:Nat} {p1:(List api_Token)} (_:p1.length≤G0) (_:SR H R0 p1) {p6:Int} {p7:Int} {r:leadlineref03_Read} (_:Z2q N p1 p6 p7=some r),Tot Tryz.prog 170 #[SL R0 p1 G0,i6 p6,i6 p7] w0 (λv w'=>∃ (H':PH) (cs0:List Value),v=.agg cs0.toArray∧Enc.rep H' cs0 r∧Ext w0 H H'∧H'.le w'∧Keep Nil w0 w'))∧(∀ {w0:World} {H:PH} (_:H.le w0) {R0:Option Addr} {G0:Nat} {p1:(List api_Token)} (_:p1.length≤G0) (_:SR H R0 p1) {p6:Int} {p7:Int} {p8:Int} {r:leadlineref03_Read} (_:Z27 N p1 p6 p7 p8=some r),Tot Tryz.prog 162 #[SL R0 p1 G0,i6 p6,i6 p7,i6 p8] w0 (λv w'=>∃ (H':PH) (cs0:List Value),v=.agg cs0.toArray∧Enc.rep H' cs0 r∧Ext w0 H H'∧H'.le w'∧Keep Nil w0 w')):=by
 intro N
 induction N with
  | zero=>exact ⟨(by intros;rename_i hm;simp [Z2q] at hm),(by intros;rename_i hm;simp [Z27] at hm)⟩
  | succ N ih=>
 obtain ⟨ih_Z2q,ih_Z27⟩:=ih
 refine ⟨?_,?_⟩
 intro w0 H hH R0 G0 p1 S0 D0 p6 p7 r hm
 rw [Z2q] at hm
 refine fn0 func170 rfl ntmps170 rfl rfl λa o=>?_
 have u:St w0 Nil [H] [] w0:=start1 hH
 refine th<|rg<|ls<|Au (cs:=[.slice none 0 0,i6 0,i6 0,i6 0].toArray) o rfl u Tryz.zeroValue174 rfl λb8 w a u o=>re<|tn<|th<|th<|rg<|qm o rfl λo=>qm o rfl λo=>qv o (Ak (α:=api_Token) (xs:=p1) o runUnderlying120 rfl) λo=>qv o (Bl o rfl rfl) λo=>re<|?_
 rcases bip hm with ⟨G4,hm⟩ | ⟨G4,hm⟩
 refine tn<|ctv o rfl G4<|th<|?_
 obtain ⟨F1,A7,hm⟩:=bs hm
 refine rg<|qm o rfl λo=>qm o rfl λo=>ls<|c1 o rfl call178 (Sc (St.le u) S0 D0 A7) ⟨rfl,rfl,rfl,trivial⟩ (λv w a hR o=>?_)
 obtain ⟨H15,cs16,rfl,B7,K2,X5,hk⟩:=hR
 obtain ⟨u,K2⟩:=And.intro (St.passH u hk K2 X5) (St.extc u K2)
 obtain ⟨I4,X3,rfl,Y5,d5⟩:=Bc B7
 refine ls<|Az o u sizeOf174 rfl rfl rfl rfl (Al rfl) .head λw u=>re<|tn<|wr<|tr<|?_
 obtain rfl:=si hm
 exact r1c (vs:=[SL I4 F1.L X3,i6 F1.To,i6 F1.E,i6 F1.At]) (.inl rfl) o results170 rfl isAgg174 sizeOf174 rfl (u.ld.cellsB t0) ⟨H15,_,rfl,(show Enc.rep (α:=leadlineref03_Read) H15 [SL I4 F1.L X3,i6 F1.To,i6 F1.E,i6 F1.At] F1 from ⟨_,_,rfl,⟨_,_,rfl,Y5,d5⟩,⟨_,_,rfl,rfl,⟨_,_,rfl,rfl,rfl⟩⟩⟩),K2,(St.le u),u.keep⟩
 refine tn<|cfv o rfl G4<|wk<|tn<|th<|Av (λa w=>∃ (X1:Bool),(Z2r (Z2q N) (Z27 N) N p1 p6 p7) X1=some r∧Fr 152 [(0,SL R0 p1 G0),(1,i6 p6),(2,i6 p7),(6,PT b8),(7,.bool X1)] a∧St w0 Nil [H] [bk b8 [.slice none 0 0,i6 0,i6 0,i6 0] 174] w) ?_ ?_
 obtain ⟨X8,U5,hm⟩:=bs hm
 rcases bit hm with ⟨G3,hm⟩ | ⟨G3,hm⟩
 refine rg<|qm o rfl λo=>qm o rfl λo=>ls<|cr o call139 (Ge (Ai _) S0 (St.srH u D0) U5) u λu o=>qv o (Ar (Ab o rfl) (congrArg Value.bool G3)) λo=>?_
 iterate 3 refine qn o λo=>?_
 refine qv o (Ad o rfl rfl) λo=>qa o rfl λo=>re<|tn<|?_
 exact ⟨true,hm,o.hs,u⟩
 obtain ⟨C7,D7,hm⟩:=bs hm
 refine rg<|qm o rfl λo=>qm o rfl λo=>ls<|cr o call139 (Ge (Ai _) S0 (St.srH u D0) U5) u λu o=>qv o (Ar (Ab o rfl) (congrArg Value.bool G3)) λo=>?_
 iterate 2 refine qg o (Ab o rfl) λo=>?_
 refine ls<|gy o rfl rfl<|cr o call139 (Ge (Ai _) S0 (St.srH u D0) D7) u λu o=>qv o (Ae o rfl rfl) λo=>qa o rfl λo=>re<|tn<|?_
 exact ⟨C7,hm,o.hs,u⟩
 rintro a w ⟨X1,hm,o,u⟩
 unfold Z2r at hm
 refine th<|?_
 obtain ⟨Y3,E7,hm⟩:=bs hm
 refine rg<|qm o rfl λo=>qm o rfl λo=>ls<|cr o call139 (Ge (Ai _) S0 (St.srH u D0) E7) u λu o=>qa o rfl λo=>re<|tn<|th<|th<|rg<|qm o rfl λo=>qm o rfl λo=>gr (Fk:=[(0,SL R0 p1 G0),(1,i6 p6),(2,i6 p7),(6,PT b8),(7,.bool X1),(8,.bool Y3),(34,.bool (X1 || Y3))]) 32 2 o u ?_ ?_ ?_
 intro hb o key
 exact qn o λo=>qk o (Ad o rfl rfl) key u hb
 intro hb o key
 exact qg o (Ab o rfl) λo=>qk o (Ae o rfl rfl) key u hb
 intro a w o u
 refine qm o rfl λo=>gr (Fk:=[(0,SL R0 p1 G0),(1,i6 p6),(2,i6 p7),(6,PT b8),(7,.bool X1),(8,.bool Y3),(38,.bool ((X1 || Y3) && (decide (p7=12))))]) 35 3 o u ?_ ?_ ?_
 intro hb o key
 exact qg o (Ab o rfl) λo=>qg o (An o rfl rfl) λo=>qk o (Ad o rfl rfl) key u hb
 intro hb o key
 iterate 2 refine qn o λo=>?_
 exact qk o (Ae o rfl rfl) key u hb
 intro a w o u
 refine re<|?_
 rcases bit hm with ⟨I3,hm⟩ | ⟨I3,hm⟩
 refine tn<|ctv o rfl I3<|th<|?_
 obtain ⟨G1,F7,hm⟩:=bs hm
 refine rg<|qm o rfl λo=>qm o rfl λo=>ls<|c1 o rfl call178 (Sc (St.le u) S0 D0 F7) ⟨rfl,rfl,rfl,trivial⟩ (λv w a hR o=>?_)
 obtain ⟨H35,cs36,rfl,G7,M2,j5,hk⟩:=hR
 obtain ⟨u,M2⟩:=And.intro (St.passH u hk M2 j5) (St.extc u M2)
 obtain ⟨J4,l3,rfl,k5,n5⟩:=Bc G7
 refine ls<|Az o u sizeOf174 rfl rfl rfl rfl (Al rfl) .head λw u=>re<|tn<|wr<|tr<|?_
 obtain rfl:=si hm
 exact r1c (vs:=[SL J4 G1.L l3,i6 G1.To,i6 G1.E,i6 G1.At]) (.inl rfl) o results170 rfl isAgg174 sizeOf174 rfl (u.ld.cellsB t0) ⟨H35,_,rfl,(show Enc.rep (α:=leadlineref03_Read) H35 [SL J4 G1.L l3,i6 G1.To,i6 G1.E,i6 G1.At] G1 from ⟨_,_,rfl,⟨_,_,rfl,k5,n5⟩,⟨_,_,rfl,rfl,⟨_,_,rfl,rfl,rfl⟩⟩⟩),M2,(St.le u),u.keep⟩
 refine tn<|cfv o rfl I3<|wk<|tn<|th<|th<|rg<|qm o rfl λo=>re<|?_
 rcases bit hm with ⟨J3,hm⟩ | ⟨J3,hm⟩
 refine tn<|ctv o rfl J3<|th<|?_
 obtain ⟨E0,I7,hm⟩:=bs hm
 refine rg<|qm o rfl λo=>qm o rfl λo=>qv o (Ap o rfl rfl) λo=>qm o rfl λo=>qv o (Ap o rfl rfl) λo=>ls<|c1 o rfl call170 (ih_Z2q (St.le u) S0 D0 I7) ⟨rfl,rfl,rfl,trivial⟩ (λv w a hR o=>?_)
 obtain ⟨H48,cs49,rfl,J7,E1,u5,hk⟩:=hR
 obtain ⟨u,E1⟩:=And.intro (St.passH u hk E1 u5) (St.extc u E1)
 obtain ⟨K3,O2,rfl,A6,K4⟩:=Bc J7
 refine ls<|Au (cs:=[.slice none 0 0,i6 0,i6 0,i6 0].toArray) o rfl u zeroValue174 rfl λV5 w a u o=>ls<|Az o u sizeOf174 rfl rfl rfl rfl (Al rfl) .head λw u=>re<|tn<|th<|th<|rg<|qv o (Af o Hr rfl) λo=>qv o (Ag o isAgg29 rfl (u.ld.cellB t0 rfl)) λo=>qv o (Bt o rfl rfl) λo=>re<|?_
 rcases bip hm with ⟨L3,hm⟩ | ⟨L3,hm⟩
 refine tn<|ctv o rfl L3<|th<|rg<|qv o (Ay o Tryz.isAgg174 Tryz.sizeOf174 rfl rfl (u.ld.cellsB t0)) λo=>ls<|Az o u sizeOf174 rfl rfl rfl rfl (Al rfl) (.tail .head) λw u=>re<|tn<|wr<|tr<|tr<|?_
 obtain rfl:=si hm
 exact r1c (vs:=[SL K3 E0.L O2,i6 E0.To,i6 E0.E,i6 E0.At]) (.inl rfl) o results170 rfl isAgg174 sizeOf174 rfl (u.ld.cellsB t1) ⟨H48,_,rfl,(show Enc.rep (α:=leadlineref03_Read) H48 [SL K3 E0.L O2,i6 E0.To,i6 E0.E,i6 E0.At] E0 from ⟨_,_,rfl,⟨_,_,rfl,A6,K4⟩,⟨_,_,rfl,rfl,⟨_,_,rfl,rfl,rfl⟩⟩⟩),E1,(St.le u),u.keep⟩
 refine tn<|cfv o rfl L3<|wk<|tn<|th<|rg<|qa o rfl λo=>re<|tn<|th<|th<|?_
 obtain ⟨I1,B3,hm⟩:=bs hm
 obtain ⟨Y8,K7,L4⟩:=SR.get D0 B3
 obtain rfl:=Bb K7
 refine rg<|qm o rfl λo=>qm o rfl λo=>qv o (Am o runUnderlying120 sizeOf130 rfl rfl B3 (SR.oaI D0 (by decide) B3)) λo=>qv o (Af o Em rfl) λo=>qv o (Ag o isAgg9 rfl (PH.le.cell (λb o hx=>(Lds.le u.ld) b o (E1.sub b o hx)) (L4 1 _ rfl))) λo=>qv o (Eg (m:=I1.Text) (n:=[45]) o rfl rfl) λo=>re<|tn<|Av (λa w=>∃ (M0:Int),(Z2s E0 I1) M0=some r∧Fr 152 [(0,SL R0 p1 G0),(1,i6 p6),(6,PT b8),(9,PT V5),(10,i6 M0)] a∧St w0 Nil [H48] [bk b8 [.slice none 0 0,i6 0,i6 0,i6 0] 174,bk V5 [SL K3 E0.L O2,i6 E0.To,i6 E0.E,i6 E0.At] 174] w) ?_ ?_
 rcases bip hm with ⟨M3,hm⟩ | ⟨M3,hm⟩
 refine ctv o rfl M3<|rg<|qa o rfl λo=>re<|tn<|?_
 replace u:=u.pk [1,0] rfl
 exact ⟨3,hm,o.hs,u⟩
 refine cfv o rfl M3<|wk<|tn<|?_
 replace u:=u.pk [1,0] rfl
 exact ⟨4,hm,o.hs,u⟩
 rintro a w ⟨M0,hm,o,u⟩
 unfold Z2s at hm
 refine th<|rg<|qm o rfl λo=>?_
 iterate 2 refine qm o rfl λo=>?_
 refine qv o (Am o runUnderlying120 sizeOf130 rfl rfl B3 (SR.oaI D0 (by decide) B3)) λo=>qv o (Af o Dl rfl) λo=>qv o (Ag o isAgg3 rfl (PH.le.cell (λb o hx=>(Lds.le u.ld) b o (E1.sub b o hx)) (L4 3 _ rfl))) λo=>qv o (Bp [i6 M0,i6 I1.At] [i6 M0,i6 0,Ac [],i6 I1.At] o ⟨rfl,rfl,trivial⟩ (λw=>by kernel_rfl)) λo=>ls<|Bh (e:=90) (sz:=4) [i6 M0,i6 0,Ac [],i6 I1.At] o rfl u rfl rfl rfl (λw=>by kernel_rfl) λd8 w a u o=>?_
 have B6:Rows (α:=api_Node) H48 [i6 M0,i6 0,Ac [],i6 I1.At] ([(api_Node.mk M0 0 [] I1.At)]:List api_Node):=(.cons (c:=[i6 M0,i6 0,Ac [],i6 I1.At]) ⟨_,_,rfl,rfl,⟨_,_,rfl,rfl,⟨_,_,rfl,rfl,rfl⟩⟩⟩ .nil)
 refine qa o rfl λo=>re<|tn<|th<|?_
 obtain ⟨M4,L7,hm⟩:=bs hm
 refine rg<|qm o rfl λo=>qv o (Af o Gp rfl) λo=>qv o (Ag o isAgg49 rfl (u.ld.cellB t2 rfl)) λo=>?_
 obtain ⟨us72,hd73,hu74⟩:=id K4
 refine ls<|Bw (α:=api_Node) (xs:=([(api_Node.mk M0 0 [] I1.At)]:List api_Node)) (ys:=E0.L) o rfl u underlying49 Ny rfl (by decide) rfl rfl rfl t0 B6 (u.rdH t0 hd73) hu74 L7 λO4 n3 L8 w a C6 hU o=>?_
 replace u:=hU _ .head
 refine qa o rfl λo=>re<|tn<|th<|rg<|qm o rfl λo=>qv o (Af o Gp rfl) λo=>ls<|Ax o u sizeOf49 rfl rfl rfl rfl (.tail (.tail .head)) .zero λw u=>re<|tn<|th<|rg<|qv o (Ay o Tryz.isAgg174 Tryz.sizeOf174 rfl rfl (u.ld.cellsB t2)) λo=>ls<|Az o u sizeOf174 rfl rfl rfl rfl (Al rfl) (.tail .head) λw u=>re<|tn<|wr<|tr<|?_
 obtain ⟨H78,D6,E6,F6,u⟩:=St.frzS u .head C6
 obtain rfl:=si hm
 exact r1c (vs:=[SL O4 M4 n3,i6 E0.To,i6 E0.E,i6 E0.At]) (.inl rfl) o results170 rfl isAgg174 sizeOf174 rfl (u.ld.cellsB t0) ⟨H78,_,rfl,(show Enc.rep (α:=leadlineref03_Read) H78 [SL O4 M4 n3,i6 E0.To,i6 E0.E,i6 E0.At] (leadlineref03_Read.mk M4 E0.To E0.E E0.At) from ⟨_,_,rfl,⟨_,_,rfl,F6,E6⟩,⟨_,_,rfl,rfl,⟨_,_,rfl,rfl,rfl⟩⟩⟩),(Ext.trans E1 D6),(St.le u),u.keep⟩
 refine tn<|cfv o rfl J3<|wk<|tn<|th<|th<|rg<|qm o rfl λo=>re<|?_
 rcases bit hm with ⟨O3,hm⟩ | ⟨O3,hm⟩
 refine tn<|ctv o rfl O3<|th<|?_
 obtain ⟨J0,M7,hm⟩:=bs hm
 refine rg<|qm o rfl λo=>qm o rfl λo=>qv o (Ap o rfl rfl) λo=>qm o rfl λo=>qv o (Ap o rfl rfl) λo=>ls<|c1 o rfl call162 (ih_Z27 (St.le u) S0 D0 M7) ⟨rfl,rfl,rfl,rfl,trivial⟩ (λv w a hR o=>?_)
 obtain ⟨H85,cs86,rfl,O7,n0,G6,hk⟩:=hR
 obtain ⟨u,n0⟩:=And.intro (St.passH u hk n0 G6) (St.extc u n0)
 obtain ⟨P2,U1,rfl,P4,Q4⟩:=Bc O7
 refine ls<|Au (cs:=[.slice none 0 0,i6 0,i6 0,i6 0].toArray) o rfl u zeroValue174 rfl λe8 w a u o=>ls<|Az o u sizeOf174 rfl rfl rfl rfl (Al rfl) .head λw u=>re<|tn<|th<|th<|rg<|qv o (Af o Hr rfl) λo=>qv o (Ag o isAgg29 rfl (u.ld.cellB t0 rfl)) λo=>qv o (Bt o rfl rfl) λo=>re<|?_
 rcases bip hm with ⟨P3,hm⟩ | ⟨P3,hm⟩
 refine tn<|ctv o rfl P3<|th<|rg<|qv o (Ay o Tryz.isAgg174 Tryz.sizeOf174 rfl rfl (u.ld.cellsB t0)) λo=>ls<|Az o u sizeOf174 rfl rfl rfl rfl (Al rfl) (.tail .head) λw u=>re<|tn<|wr<|tr<|tr<|?_
 obtain rfl:=si hm
 exact r1c (vs:=[SL P2 J0.L U1,i6 J0.To,i6 J0.E,i6 J0.At]) (.inl rfl) o results170 rfl isAgg174 sizeOf174 rfl (u.ld.cellsB t1) ⟨H85,_,rfl,(show Enc.rep (α:=leadlineref03_Read) H85 [SL P2 J0.L U1,i6 J0.To,i6 J0.E,i6 J0.At] J0 from ⟨_,_,rfl,⟨_,_,rfl,P4,Q4⟩,⟨_,_,rfl,rfl,⟨_,_,rfl,rfl,rfl⟩⟩⟩),n0,(St.le u),u.keep⟩
 refine tn<|cfv o rfl P3<|wk<|tn<|th<|th<|?_
 obtain ⟨j8,P7,hm⟩:=bs hm
 refine rg<|qm o rfl λo=>qv o (Af o Ex rfl) λo=>qv o (Ag o isAgg3 rfl (u.ld.cellB t0 rfl)) λo=>ls<|cr o call139 (Ge (Ai _) S0 (St.srH u (D0.mono n0.sub)) P7) u λu o=>qv o (Ba o rfl) λo=>re<|?_
 rcases bit hm with ⟨Q3,hm⟩ | ⟨Q3,hm⟩
 refine tn<|cfv o rfl (by rw [Q3];rfl)<|wk<|tn<|th<|rg<|qv o (Af o Ex rfl) λo=>qv o (Ag o isAgg3 rfl (u.ld.cellB t0 rfl)) λo=>qv o (Ap o rfl rfl) λo=>qv o (Af o Ex rfl) λo=>ls<|Ax o u sizeOf3 rfl rfl rfl rfl .head (.succ .zero) λw u=>re<|tn<|th<|rg<|qv o (Ay o Tryz.isAgg174 Tryz.sizeOf174 rfl rfl (u.ld.cellsB t0)) λo=>ls<|Az o u sizeOf174 rfl rfl rfl rfl (Al rfl) (.tail .head) λw u=>re<|tn<|wr<|tr<|?_
 obtain rfl:=si hm
 exact r1c (vs:=[SL P2 J0.L U1,i6 (IntKind.i64.wrap (J0.To+1)),i6 J0.E,i6 J0.At]) (.inl rfl) o results170 rfl isAgg174 sizeOf174 rfl (u.ld.cellsB t1) ⟨H85,_,rfl,(show Enc.rep (α:=leadlineref03_Read) H85 [SL P2 J0.L U1,i6 (IntKind.i64.wrap (J0.To+1)),i6 J0.E,i6 J0.At] (leadlineref03_Read.mk J0.L (IntKind.i64.wrap (J0.To+1)) J0.E J0.At) from ⟨_,_,rfl,⟨_,_,rfl,P4,Q4⟩,⟨_,_,rfl,rfl,⟨_,_,rfl,rfl,rfl⟩⟩⟩),n0,(St.le u),u.keep⟩
 refine tn<|ctv o rfl (by rw [Q3];rfl)<|th<|?_
 obtain ⟨J1,Q7,hm⟩:=bs hm
 refine rg<|qm o rfl λo=>qv o (Af o Ex rfl) λo=>qv o (Ag o isAgg3 rfl (u.ld.cellB t0 rfl)) λo=>ls<|c1 o rfl call178 (Sc (St.le u) S0 (D0.mono n0.sub) Q7) ⟨rfl,rfl,rfl,trivial⟩ (λv w a hR o=>?_)
 obtain ⟨H102,cs103,rfl,I6,Q2,j4,hk⟩:=hR
 obtain ⟨u,Q2⟩:=And.intro (St.passH u hk Q2 j4) (St.extc u Q2)
 obtain ⟨u3,C3,rfl,k4,l4⟩:=Bc I6
 refine ls<|Az o u sizeOf174 rfl rfl rfl rfl (Al rfl) (.tail .head) λw u=>re<|tn<|wr<|tr<|tr<|?_
 obtain rfl:=si hm
 exact r1c (vs:=[SL u3 J1.L C3,i6 J1.To,i6 J1.E,i6 J1.At]) (.inl rfl) o results170 rfl isAgg174 sizeOf174 rfl (u.ld.cellsB t1) ⟨H102,_,rfl,(show Enc.rep (α:=leadlineref03_Read) H102 [SL u3 J1.L C3,i6 J1.To,i6 J1.E,i6 J1.At] J1 from ⟨_,_,rfl,⟨_,_,rfl,k4,l4⟩,⟨_,_,rfl,rfl,⟨_,_,rfl,rfl,rfl⟩⟩⟩),(Ext.trans n0 Q2),(St.le u),u.keep⟩
 refine tn<|cfv o rfl O3<|wk<|tn<|th<|th<|?_
 obtain ⟨C0,F0,hm⟩:=bs hm
 obtain ⟨M8,J6,W0⟩:=SR.get D0 F0
 obtain rfl:=Bb J6
 refine rg<|qm o rfl λo=>qm o rfl λo=>qv o (Am o runUnderlying120 sizeOf130 rfl rfl F0 (SR.oaI D0 (by decide) F0)) λo=>qv o (Af o Cr rfl) λo=>qv o (Ag o isAgg3 rfl (PH.le.cell (Lds.le u.ld) (W0 0 _ rfl))) λo=>qv o (An o rfl rfl) λo=>re<|?_
 rcases bip hm with ⟨R2,hm⟩ | ⟨R2,hm⟩
 refine tn<|ctv o rfl R2<|th<|rdS 15 u wide λw u=>dr 0 u o rfl (Ab o rfl) λo=>dr 1 u o rfl (Ab o rfl) λo=>dr 2 u o rfl (Am o runUnderlying120 sizeOf130 rfl rfl F0 (SR.oaI D0 (by decide) F0)) λo=>dr 3 u o rfl (Af o Gj rfl) λo=>dq 4 u.ld o rfl (λw hl=>Ag o isAgg3 rfl (PH.le.cell (Lds.le hl) (W0 2 _ rfl))) λo=>dr 5 u o rfl (Ab o rfl) λo=>dr 6 u o rfl (Ab o rfl) λo=>dr 7 u o rfl (Am o runUnderlying120 sizeOf130 rfl rfl F0 (SR.oaI D0 (by decide) F0)) λo=>dr 8 u o rfl (Af o Dl rfl) λo=>dq 9 u.ld o rfl (λw hl=>Ag o isAgg3 rfl (PH.le.cell (Lds.le hl) (W0 3 _ rfl))) λo=>dq 10 u.ld o rfl (λw hl=>Bp [i6 1,i6 C0.N,i6 C0.At] [i6 1,i6 C0.N,Ac [],i6 C0.At] o ⟨rfl,rfl,rfl,trivial⟩ (λw=>by kernel_rfl)) λo=>dr 12 u o rfl (Ab o rfl) λo=>dr 13 u o rfl (Ap o rfl rfl) λo=>da1 (i:=11) (by kernel_rfl) ?_
 refine di (i:=11) rfl<|Bh (e:=90) (sz:=4) [i6 1,i6 C0.N,Ac [],i6 C0.At] o rfl u rfl rfl rfl (λw=>by kernel_rfl) λT2 w a u o=>?_
 have u4:Rows (α:=api_Node) H [i6 1,i6 C0.N,Ac [],i6 C0.At] ([(api_Node.mk 1 C0.N [] C0.At)]:List api_Node):=(.cons (c:=[i6 1,i6 C0.N,Ac [],i6 C0.At]) ⟨_,_,rfl,rfl,⟨_,_,rfl,rfl,⟨_,_,rfl,rfl,rfl⟩⟩⟩ .nil)
 refine ⟨λ_=>(St.ldsX u i2 ta1),?_⟩
 refine dq 14 (St.ldsX u i2 ta1) o rfl (λw hl=>Bp [.slice (some ⟨T2,0,none⟩) ([(api_Node.mk 1 C0.N [] C0.At)]:List api_Node).length 1,i6 (IntKind.i64.wrap (p6+1))] [.slice (some ⟨T2,0,none⟩) ([(api_Node.mk 1 C0.N [] C0.At)]:List api_Node).length 1,i6 (IntKind.i64.wrap (p6+1)),i6 0,i6 0] o ⟨rfl,rfl,trivial⟩ (λw=>by kernel_rfl)) λo=>da1 (i:=15) (by kernel_rfl) ?_
 refine di (i:=15) rfl<|Az o u sizeOf174 rfl rfl rfl rfl (Al rfl) (.tail .head) λw u=>⟨λh=>absurd rfl h,?_⟩
 refine de (by kernel_rfl)<|tn<|wr<|tr<|?_
 obtain ⟨H121,A5,B5,C5,u⟩:=St.frzS u .head u4
 obtain rfl:=si hm
 exact r1c (vs:=[.slice (some ⟨T2,0,none⟩) ([(api_Node.mk 1 C0.N [] C0.At)]:List api_Node).length 1,i6 (IntKind.i64.wrap (p6+1)),i6 0,i6 0]) (.inl rfl) o results170 rfl isAgg174 sizeOf174 rfl (u.ld.cellsB t0) ⟨H121,_,rfl,(show Enc.rep (α:=leadlineref03_Read) H121 [.slice (some ⟨T2,0,none⟩) ([(api_Node.mk 1 C0.N [] C0.At)]:List api_Node).length 1,i6 (IntKind.i64.wrap (p6+1)),i6 0,i6 0] (leadlineref03_Read.mk ([(api_Node.mk 1 C0.N [] C0.At)]:List api_Node) (IntKind.i64.wrap (p6+1)) 0 0) from ⟨_,_,rfl,⟨_,_,rfl,C5,B5⟩,⟨_,_,rfl,rfl,⟨_,_,rfl,rfl,rfl⟩⟩⟩),A5,(St.le u),u.keep⟩
 refine tn<|cfv o rfl R2<|wk<|tn<|th<|th<|Av (λa w=>∃ (R4:Bool),(Z2t N p1 p6 C0) R4=some r∧Fr 152 [(0,SL R0 p1 G0),(1,i6 p6),(6,PT b8),(133,.bool R4)] a∧St w0 Nil [H] [bk b8 [.slice none 0 0,i6 0,i6 0,i6 0] 174] w) ?_ ?_
 rcases bip hm with ⟨U2,hm⟩ | ⟨U2,hm⟩
 obtain ⟨K6,L6,hm⟩:=bs hm
 refine rg<|qm o rfl λo=>qm o rfl λo=>qv o (Am o runUnderlying120 sizeOf130 rfl rfl F0 (SR.oaI D0 (by decide) F0)) λo=>qv o (Af o Cr rfl) λo=>qv o (Ag o isAgg3 rfl (PH.le.cell (Lds.le u.ld) (W0 0 _ rfl))) λo=>qv o (An o rfl rfl) λo=>qv o (Ar (Ab o rfl) (congrArg Value.bool U2)) λo=>?_
 iterate 2 refine qg o (Ab o rfl) λo=>?_
 refine qg o (Am o runUnderlying120 sizeOf130 rfl rfl F0 (SR.oaI D0 (by decide) F0)) λo=>qg o (Af o Em rfl) λo=>qg o (Ag o isAgg9 rfl (PH.le.cell (Lds.le u.ld) (W0 1 _ rfl))) λo=>ls<|gy o rfl rfl<|cr o call114 (Gd (Ai _) L6) u λu o=>qv o (Ad o rfl rfl) λo=>re<|tn<|?_
 exact ⟨K6,hm,o.hs,u⟩
 refine rg<|qm o rfl λo=>qm o rfl λo=>qv o (Am o runUnderlying120 sizeOf130 rfl rfl F0 (SR.oaI D0 (by decide) F0)) λo=>qv o (Af o Cr rfl) λo=>qv o (Ag o isAgg3 rfl (PH.le.cell (Lds.le u.ld) (W0 0 _ rfl))) λo=>qv o (An o rfl rfl) λo=>qv o (Ar (Ab o rfl) (congrArg Value.bool U2)) λo=>?_
 iterate 6 refine qn o λo=>?_
 refine qv o (Ae o rfl rfl) λo=>re<|tn<|?_
 exact ⟨false,hm,o.hs,u⟩
 rintro a w ⟨R4,hm,o,u⟩
 unfold Z2t at hm
 rcases bit hm with ⟨V2,hm⟩ | ⟨V2,hm⟩
 refine ctv o rfl V2<|th<|rdS 15 u wide λw u=>dr 0 u o rfl (Ab o rfl) λo=>dr 1 u o rfl (Ab o rfl) λo=>dr 2 u o rfl (Am o runUnderlying120 sizeOf130 rfl rfl F0 (SR.oaI D0 (by decide) F0)) λo=>dr 3 u o rfl (Af o Em rfl) λo=>dq 4 u.ld o rfl (λw hl=>Ag o isAgg9 rfl (PH.le.cell (Lds.le hl) (W0 1 _ rfl))) λo=>dr 5 u o rfl (Ab o rfl) λo=>dr 6 u o rfl (Ab o rfl) λo=>dr 7 u o rfl (Am o runUnderlying120 sizeOf130 rfl rfl F0 (SR.oaI D0 (by decide) F0)) λo=>dr 8 u o rfl (Af o Dl rfl) λo=>dq 9 u.ld o rfl (λw hl=>Ag o isAgg3 rfl (PH.le.cell (Lds.le hl) (W0 3 _ rfl))) λo=>dq 10 u.ld o rfl (λw hl=>Bp [i6 2,Ac C0.Text,i6 C0.At] [i6 2,i6 0,Ac C0.Text,i6 C0.At] o ⟨rfl,rfl,rfl,trivial⟩ (λw=>by kernel_rfl)) λo=>dr 12 u o rfl (Ab o rfl) λo=>dr 13 u o rfl (Ap o rfl rfl) λo=>da1 (i:=11) (by kernel_rfl) ?_
 refine di (i:=11) rfl<|Bh (e:=90) (sz:=4) [i6 2,i6 0,Ac C0.Text,i6 C0.At] o rfl u rfl rfl rfl (λw=>by kernel_rfl) λW2 w a u o=>?_
 have D5:Rows (α:=api_Node) H [i6 2,i6 0,Ac C0.Text,i6 C0.At] ([(api_Node.mk 2 0 C0.Text C0.At)]:List api_Node):=(.cons (c:=[i6 2,i6 0,Ac C0.Text,i6 C0.At]) ⟨_,_,rfl,rfl,⟨_,_,rfl,rfl,⟨_,_,rfl,rfl,rfl⟩⟩⟩ .nil)
 refine ⟨λ_=>(St.ldsX u i2 ta1),?_⟩
 refine dq 14 (St.ldsX u i2 ta1) o rfl (λw hl=>Bp [.slice (some ⟨W2,0,none⟩) ([(api_Node.mk 2 0 C0.Text C0.At)]:List api_Node).length 1,i6 (IntKind.i64.wrap (p6+1))] [.slice (some ⟨W2,0,none⟩) ([(api_Node.mk 2 0 C0.Text C0.At)]:List api_Node).length 1,i6 (IntKind.i64.wrap (p6+1)),i6 0,i6 0] o ⟨rfl,rfl,trivial⟩ (λw=>by kernel_rfl)) λo=>da1 (i:=15) (by kernel_rfl) ?_
 refine di (i:=15) rfl<|Az o u sizeOf174 rfl rfl rfl rfl (Al rfl) (.tail .head) λw u=>⟨λh=>absurd rfl h,?_⟩
 refine de (by kernel_rfl)<|tn<|wr<|tr<|?_
 obtain ⟨H132,E5,F5,G5,u⟩:=St.frzS u .head D5
 obtain rfl:=si hm
 exact r1c (vs:=[.slice (some ⟨W2,0,none⟩) ([(api_Node.mk 2 0 C0.Text C0.At)]:List api_Node).length 1,i6 (IntKind.i64.wrap (p6+1)),i6 0,i6 0]) (.inl rfl) o results170 rfl isAgg174 sizeOf174 rfl (u.ld.cellsB t0) ⟨H132,_,rfl,(show Enc.rep (α:=leadlineref03_Read) H132 [.slice (some ⟨W2,0,none⟩) ([(api_Node.mk 2 0 C0.Text C0.At)]:List api_Node).length 1,i6 (IntKind.i64.wrap (p6+1)),i6 0,i6 0] (leadlineref03_Read.mk ([(api_Node.mk 2 0 C0.Text C0.At)]:List api_Node) (IntKind.i64.wrap (p6+1)) 0 0) from ⟨_,_,rfl,⟨_,_,rfl,G5,F5⟩,⟨_,_,rfl,rfl,⟨_,_,rfl,rfl,rfl⟩⟩⟩),E5,(St.le u),u.keep⟩
 refine cfv o rfl V2<|wk<|tn<|th<|?_
 obtain ⟨j0,M6,hm⟩:=bs hm
 refine rg<|qm o rfl λo=>qm o rfl λo=>ls<|c1 o rfl call178 (Sc (St.le u) S0 D0 M6) ⟨rfl,rfl,rfl,trivial⟩ (λv w a hR o=>?_)
 obtain ⟨H138,cs139,rfl,O6,V1,I5,hk⟩:=hR
 obtain ⟨u,V1⟩:=And.intro (St.passH u hk V1 I5) (St.extc u V1)
 obtain ⟨A4,D3,rfl,J5,K5⟩:=Bc O6
 refine ls<|Az o u sizeOf174 rfl rfl rfl rfl (Al rfl) .head λw u=>re<|tn<|wr<|?_
 obtain rfl:=si hm
 exact r1c (vs:=[SL A4 j0.L D3,i6 j0.To,i6 j0.E,i6 j0.At]) (.inl rfl) o results170 rfl isAgg174 sizeOf174 rfl (u.ld.cellsB t0) ⟨H138,_,rfl,(show Enc.rep (α:=leadlineref03_Read) H138 [SL A4 j0.L D3,i6 j0.To,i6 j0.E,i6 j0.At] j0 from ⟨_,_,rfl,⟨_,_,rfl,J5,K5⟩,⟨_,_,rfl,rfl,⟨_,_,rfl,rfl,rfl⟩⟩⟩),V1,(St.le u),u.keep⟩
 intro w0 H hH R0 G0 p1 S0 D0 p6 p7 p8 r hm
 rw [Z27] at hm
 refine fn0 func162 rfl ntmps162 rfl rfl λa o=>?_
 have u:St w0 Nil [H] [] w0:=start1 hH
 refine th<|rg<|ls<|Au (cs:=[.slice none 0 0,i6 0,i6 0,i6 0].toArray) o rfl u Tryz.zeroValue174 rfl λb9 w a u o=>re<|tn<|th<|th<|rg<|qm o rfl λo=>qv o (An o rfl rfl) λo=>re<|?_
 rcases bip hm with ⟨R3,hm⟩ | ⟨R3,hm⟩
 refine tn<|ctv o rfl R3<|th<|?_
 obtain ⟨M1,R7,hm⟩:=bs hm
 refine rg<|qm o rfl λo=>?_
 iterate 2 refine qm o rfl λo=>?_
 refine ls<|c1 o rfl call170 (ih_Z2q (St.le u) S0 D0 R7) ⟨rfl,rfl,rfl,trivial⟩ (λv w a hR o=>?_)
 obtain ⟨H16,cs17,rfl,S7,X2,P6,hk⟩:=hR
 obtain ⟨u,X2⟩:=And.intro (St.passH u hk X2 P6) (St.extc u X2)
 obtain ⟨S4,B4,rfl,Q6,R6⟩:=Bc S7
 refine ls<|Az o u sizeOf174 rfl rfl rfl rfl (Al rfl) .head λw u=>re<|tn<|wr<|tr<|?_
 obtain rfl:=si hm
 exact r1c (vs:=[SL S4 M1.L B4,i6 M1.To,i6 M1.E,i6 M1.At]) (.inl rfl) o results162 rfl isAgg174 sizeOf174 rfl (u.ld.cellsB t0) ⟨H16,_,rfl,(show Enc.rep (α:=leadlineref03_Read) H16 [SL S4 M1.L B4,i6 M1.To,i6 M1.E,i6 M1.At] M1 from ⟨_,_,rfl,⟨_,_,rfl,Q6,R6⟩,⟨_,_,rfl,rfl,⟨_,_,rfl,rfl,rfl⟩⟩⟩),X2,(St.le u),u.keep⟩
 refine tn<|cfv o rfl R3<|wk<|tn<|th<|?_
 obtain ⟨C4,T7,hm⟩:=bs hm
 refine rg<|qm o rfl λo=>?_
 iterate 3 refine qm o rfl λo=>?_
 refine qv o (Ap o rfl rfl) λo=>ls<|c1 o rfl call162 (ih_Z27 (St.le u) S0 D0 T7) ⟨rfl,rfl,rfl,rfl,trivial⟩ (λv w a hR o=>?_)
 obtain ⟨H28,cs29,rfl,U7,Y0,S6,hk⟩:=hR
 obtain ⟨u,Y0⟩:=And.intro (St.passH u hk Y0 S6) (St.extc u Y0)
 obtain ⟨T6,L5,rfl,U6,V6⟩:=Bc U7
 refine ls<|Au (cs:=[.slice none 0 0,i6 0,i6 0,i6 0].toArray) o rfl u zeroValue174 rfl λB1 w a u o=>ls<|Az o u sizeOf174 rfl rfl rfl rfl (Al rfl) .head λw u=>re<|tn<|th<|Av (λa w=>∃ (M0:(List api_Node)) (C2:Int) (E2:Int) (F2:Int) (G2:PH) (Y1:Option Addr) (O1:Nat),Z28 M0 C2 E2 F2=some r∧Ext w0 H28 G2∧Fr 91 [(8,PT b9),(9,PT B1)] a∧St w0 Nil [G2] [bk b9 [.slice none 0 0,i6 0,i6 0,i6 0] 174,bk B1 [SL Y1 M0 O1,i6 C2,i6 E2,i6 F2] 174] w∧M0.length≤O1∧SR G2 Y1 M0) ?_ ?_
 replace u:=u.pk [1,0] rfl
 refine wb<|lp (α:=Nat×(List api_Node)×Int×Int×Int) (λgh a w=>match gh with | (S1,I0,K0,P0,Q0)=>∃ (T1:PH) (U0:Option Addr) (O0:Nat),(Z2b (Z27 N) N Z28 p1 p7 p8) S1 I0 K0 P0 Q0=some r∧Ext w0 H28 T1∧Fr 91 [(0,SL R0 p1 G0),(2,i6 p7),(3,i6 p8),(8,PT b9),(9,PT B1)] a∧St w0 Nil [T1] [bk b9 [.slice none 0 0,i6 0,i6 0,i6 0] 174,bk B1 [SL U0 I0 O0,i6 K0,i6 P0,i6 Q0] 174] w∧I0.length≤O0∧SR T1 U0 I0) (λgh=>gh.1) (N,C4.L,C4.To,C4.E,C4.At) ⟨H28,T6,L5,hm,(Ext.refl _ _),o.hs,u,U6,V6⟩ ?_
 rintro ⟨S1,I0,K0,P0,Q0⟩ a w ⟨T1,U0,O0,hm,X0,o,u,hcB13,hrB14⟩
 obtain _ | S1:=S1
 simp [Z2b] at hm
 rw [Z2b] at hm
 refine th<|th<|rg<|qv o (Af o Hr rfl) λo=>qv o (Ag o isAgg29 rfl (u.ld.cellB t1 rfl)) λo=>qv o (An o rfl rfl) λo=>re<|?_
 rcases bip hm with ⟨S3,hm⟩ | ⟨S3,hm⟩
 refine tn<|ctv o rfl S3<|wk<|tn<|wb<|th<|rg<|qa o rfl λo=>re<|tn<|th<|th<|rg<|qa o rfl λo=>re<|tn<|Av (λa w=>∃ (C1:Int) (E3:PH),(Z29 (Z27 N) ((Z2b (Z27 N) N Z28 p1 p7 p8) S1) p1 p7 p8 I0 K0 P0 Q0) C1=some r∧Ext w0 T1 E3∧Fr 91 [(0,SL R0 p1 G0),(2,i6 p7),(3,i6 p8),(8,PT b9),(9,PT B1),(10,i6 C1)] a∧St w0 Nil [E3] [bk b9 [.slice none 0 0,i6 0,i6 0,i6 0] 174,bk B1 [SL U0 I0 O0,i6 K0,i6 P0,i6 Q0] 174] w) ?_ ?_
 refine wb<|lp (α:=Nat×Int×Int) (λgh a w=>match gh with | (I2,F3,J2)=>∃ (HD1:PH),(Z2c N (Z29 (Z27 N) ((Z2b (Z27 N) N Z28 p1 p7 p8) S1) p1 p7 p8 I0 K0 P0 Q0) p1 p8 K0) I2 F3 J2=some r∧Ext w0 T1 HD1∧Fr 91 [(0,SL R0 p1 G0),(2,i6 p7),(3,i6 p8),(8,PT b9),(9,PT B1),(10,i6 F3),(11,i6 J2)] a∧St w0 Nil [HD1] [bk b9 [.slice none 0 0,i6 0,i6 0,i6 0] 174,bk B1 [SL U0 I0 O0,i6 K0,i6 P0,i6 Q0] 174] w) (λgh=>gh.1) (N,0,0) ⟨T1,hm,(Ext.refl _ _),o.hs,u⟩ ?_
 rintro ⟨I2,F3,J2⟩ a w ⟨HD1,hm,hxHD1,o,u⟩
 obtain _ | I2:=I2
 simp [Z2c] at hm
 rw [Z2c] at hm
 refine th<|th<|?_
 obtain ⟨V7,W7,hm⟩:=bs hm
 refine rg<|qm o rfl λo=>qm o rfl λo=>ls<|c1 o rfl call171 (Uj (St.le u) W7) ⟨rfl,trivial⟩ (λv w a hR o=>?_)
 obtain ⟨H42,O8,E8,rfl,P8,Q8,Q1,W6,hk⟩:=hR
 obtain ⟨u,Q1⟩:=And.intro (St.passH u hk Q1 W6) (St.extc u Q1)
 refine qv o (Ak (α:=Int) (xs:=V7) o runUnderlying42 rfl) λo=>qv o (Ao o rfl rfl) λo=>re<|?_
 rcases bip hm with ⟨T3,hm⟩ | ⟨T3,hm⟩
 refine tn<|ctv o rfl T3<|wk<|tn<|th<|Av (λa w=>∃ (D4:Int) (HE1:PH),(Z2a (Z2c N (Z29 (Z27 N) ((Z2b (Z27 N) N Z28 p1 p7 p8) S1) p1 p7 p8 I0 K0 P0 Q0) p1 p8 K0 I2) J2) D4=some r∧Ext w0 H42 HE1∧Fr 91 [(0,SL R0 p1 G0),(2,i6 p7),(3,i6 p8),(8,PT b9),(9,PT B1),(10,i6 D4),(11,i6 J2)] a∧St w0 Nil [HE1] [bk b9 [.slice none 0 0,i6 0,i6 0,i6 0] 174,bk B1 [SL U0 I0 O0,i6 K0,i6 P0,i6 Q0] 174] w) ?_ ?_
 refine wb<|th<|?_
 obtain ⟨k8,X7,hm⟩:=bs hm
 obtain ⟨Y7,T4,hm⟩:=bs hm
 obtain ⟨l8,d7,hm⟩:=bs hm
 obtain ⟨n8,j7,hm⟩:=bs hm
 refine rdS 10 u wide λw u=>dr 0 u o rfl (Ab o rfl) λo=>dr 1 u o rfl (Af o Ex rfl) λo=>dq 2 u.ld o rfl (λw hl=>Ag o isAgg3 rfl (hl.cellB t1 rfl)) λo=>dr 3 u o rfl (Ab o rfl) λo=>dr 5 u o rfl (Ab o rfl) λo=>da1 (i:=4) (by kernel_rfl) ?_
 refine di (i:=4) rfl<|c1 o rfl call171 (Uj (St.le u) X7) ⟨rfl,trivial⟩ (λv w a hR o=>?_)
 obtain ⟨H53,R8,F8,rfl,S8,U4,V0,X6,hk⟩:=hR
 obtain ⟨u,V0⟩:=And.intro (St.passH u hk V0 X6) (St.extc u V0)
 refine ⟨λ_=>(St.ldsX u V0.sub i1),?_⟩
 refine ds 6 (St.ldsX u V0.sub i1) o rfl (Am o runUnderlying42 sizeOf3 rfl rfl T4 (SR.oaI U4 (by decide) T4)) λo=>?_
 obtain ⟨k7,n7,Y6⟩:=SR.get U4 T4
 obtain rfl:k7=[i6 Y7]:=n7
 refine da1 (i:=7) (by kernel_rfl) ?_
 refine di (i:=7) rfl<|q1 o rfl (Ag o isAgg3 rfl (PH.le.cell (Lds.le u.ld) (Y6 0 _ rfl))) λa o=>⟨λ_=>(St.ldsX u V0.sub i1),?_⟩
 refine da1 (i:=8) (by kernel_rfl) ?_
 refine di (i:=8) rfl<|cr o call172 (Jbu (Ai _) d7) u λu o=>⟨λ_=>(St.ldsX u V0.sub i1),?_⟩
 refine da1 (i:=9) (by kernel_rfl) ?_
 refine di (i:=9) rfl<|cr o call139 (Ge (Ai _) S0 (St.srH u (D0.mono (cp (cp (cp (cp V0.sub Q1.sub) hxHD1.sub) X0.sub) Y0.sub))) j7) u λu o=>⟨λ_=>(St.ldsX u V0.sub i1),?_⟩
 refine de (by kernel_rfl)<|?_
 rcases bit hm with ⟨U3,hm⟩ | ⟨U3,hm⟩
 refine tn<|ctv o rfl U3<|?_
 obtain ⟨v8,u7,hm⟩:=bs hm
 obtain ⟨W5,V4,hm⟩:=bs hm
 refine rg<|qm o rfl λo=>ls<|c1 o rfl call171 (Uj (St.le u) u7) ⟨rfl,trivial⟩ (λv w a hR o=>?_)
 obtain ⟨H73,T8,G8,rfl,U8,W4,Y2,d6,hk⟩:=hR
 obtain ⟨u,Y2⟩:=And.intro (St.passH u hk Y2 d6) (St.extc u Y2)
 refine qm o rfl λo=>qv o (Am o runUnderlying42 sizeOf3 rfl rfl V4 (SR.oaI W4 (by decide) V4)) λo=>?_
 obtain ⟨v7,z7,j6⟩:=SR.get W4 V4
 obtain rfl:v7=[i6 W5]:=z7
 refine qv o (Ag o isAgg3 rfl (PH.le.cell (Lds.le u.ld) (j6 0 _ rfl))) λo=>qa o rfl λo=>re<|bn<|tn<|?_
 exact ⟨W5,H73,hm,(Ext.trans V0 Y2),o.hs,u⟩
 refine tn<|cfv o rfl U3<|wk<|bn<|tn<|?_
 exact ⟨F3,H53,hm,V0,o.hs,u⟩
 rintro a w ⟨D4,HE1,hm,hxHE1,o,u⟩
 unfold Z2a at hm
 refine rg<|qm o rfl λo=>qv o (Ap o rfl rfl) λo=>qa o rfl λo=>re<|tn<|?_
 exact ⟨(I2,D4,(IntKind.i64.wrap (J2+1))),⟨HE1,hm,(Ext.trans hxHD1 (Ext.trans Q1 hxHE1)),o.hs,u⟩,Nat.lt_succ_self _⟩
 refine tn<|cfv o rfl T3<|we<|tx<|tx<|bx<|tn<|?_
 exact ⟨F3,H42,hm,(Ext.trans hxHD1 Q1),o.hs,u⟩
 rintro a w ⟨C1,E3,hm,hxHC1,o,u⟩
 unfold Z29 at hm
 refine th<|th<|rg<|qm o rfl λo=>qv o (An o rfl rfl) λo=>re<|?_
 rcases bip hm with ⟨V3,hm⟩ | ⟨V3,hm⟩
 refine tn<|ctv o rfl V3<|th<|rg<|qv o (Ay o Tryz.isAgg174 Tryz.sizeOf174 rfl rfl (u.ld.cellsB t1)) λo=>ls<|Az o u sizeOf174 rfl rfl rfl rfl (Al rfl) .head λw u=>re<|tn<|wr<|tr<|br<|tr<|br<|tr<|?_
 obtain rfl:=si hm
 exact r1c (vs:=[SL U0 I0 O0,i6 K0,i6 P0,i6 Q0]) (.inl rfl) o results162 rfl isAgg174 sizeOf174 rfl (u.ld.cellsB t0) ⟨E3,_,rfl,(show Enc.rep (α:=leadlineref03_Read) E3 [SL U0 I0 O0,i6 K0,i6 P0,i6 Q0] (leadlineref03_Read.mk I0 K0 P0 Q0) from ⟨_,_,rfl,⟨_,_,rfl,hcB13,(hrB14.mono hxHC1.sub)⟩,⟨_,_,rfl,rfl,⟨_,_,rfl,rfl,rfl⟩⟩⟩),(Ext.trans Y0 (Ext.trans X0 hxHC1)),(St.le u),u.keep⟩
 refine tn<|cfv o rfl V3<|wk<|tn<|th<|?_
 obtain ⟨T0,A8,hm⟩:=bs hm
 refine rg<|qm o rfl λo=>qv o (Af o Ex rfl) λo=>qv o (Ag o isAgg3 rfl (u.ld.cellB t1 rfl)) λo=>qv o (Ap o rfl rfl) λo=>?_
 iterate 2 refine qm o rfl λo=>?_
 refine qv o (Ap o rfl rfl) λo=>ls<|c1 o rfl call162 (ih_Z27 (St.le u) S0 (D0.mono (cp (cp hxHC1.sub X0.sub) Y0.sub)) A8) ⟨rfl,rfl,rfl,rfl,trivial⟩ (λv w a hR o=>?_)
 obtain ⟨H89,cs90,rfl,B8,p0,k6,hk⟩:=hR
 obtain ⟨u,p0⟩:=And.intro (St.passH u hk p0 k6) (St.extc u p0)
 obtain ⟨X4,E4,rfl,n6,Y4⟩:=Bc B8
 refine ls<|Au (cs:=[.slice none 0 0,i6 0,i6 0,i6 0].toArray) o rfl u zeroValue174 rfl λy8 w a u o=>ls<|Az o u sizeOf174 rfl rfl rfl rfl (Al rfl) .head λw u=>re<|tn<|th<|th<|rg<|qv o (Af o Hr rfl) λo=>qv o (Ag o isAgg29 rfl (u.ld.cellB t0 rfl)) λo=>qv o (Bt o rfl rfl) λo=>re<|?_
 rcases bip hm with ⟨W3,hm⟩ | ⟨W3,hm⟩
 refine tn<|ctv o rfl W3<|th<|rg<|qv o (Ay o Tryz.isAgg174 Tryz.sizeOf174 rfl rfl (u.ld.cellsB t0)) λo=>ls<|Az o u sizeOf174 rfl rfl rfl rfl (Al rfl) (.tail .head) λw u=>re<|tn<|wr<|tr<|br<|tr<|br<|tr<|?_
 obtain rfl:=si hm
 exact r1c (vs:=[SL X4 T0.L E4,i6 T0.To,i6 T0.E,i6 T0.At]) (.inl rfl) o results162 rfl isAgg174 sizeOf174 rfl (u.ld.cellsB t1) ⟨H89,_,rfl,(show Enc.rep (α:=leadlineref03_Read) H89 [SL X4 T0.L E4,i6 T0.To,i6 T0.E,i6 T0.At] T0 from ⟨_,_,rfl,⟨_,_,rfl,n6,Y4⟩,⟨_,_,rfl,rfl,⟨_,_,rfl,rfl,rfl⟩⟩⟩),(Ext.trans Y0 (Ext.trans X0 (Ext.trans hxHC1 p0))),(St.le u),u.keep⟩
 refine tn<|cfv o rfl W3<|wk<|tn<|th<|?_
 obtain ⟨B2,d4,hm⟩:=bs hm
 obtain ⟨V8,u6,M5⟩:=SR.get D0 d4
 obtain rfl:=Bb u6
 refine rg<|qm o rfl λo=>qm o rfl λo=>qv o (Af o Ex rfl) λo=>qv o (Ag o isAgg3 rfl (u.ld.cellB t2 rfl)) λo=>qv o (Am o runUnderlying120 sizeOf130 rfl rfl d4 (SR.oaI D0 (by decide) d4)) λo=>qv o (Af o Dl rfl) λo=>qv o (Ag o isAgg3 rfl (PH.le.cell (λb o hx=>(Lds.le u.ld) b o ((cp (cp (cp p0.sub hxHC1.sub) X0.sub) Y0.sub) b o hx)) (M5 3 _ rfl))) λo=>qv o (Bp [i6 C1,i6 B2.At] [i6 C1,i6 0,Ac [],i6 B2.At] o ⟨rfl,rfl,trivial⟩ (λw=>by kernel_rfl)) λo=>ls<|Bh (e:=90) (sz:=4) [i6 C1,i6 0,Ac [],i6 B2.At] o rfl u rfl rfl rfl (λw=>by kernel_rfl) λW8 w a u o=>?_
 have O5:Rows (α:=api_Node) H89 [i6 C1,i6 0,Ac [],i6 B2.At] ([(api_Node.mk C1 0 [] B2.At)]:List api_Node):=(.cons (c:=[i6 C1,i6 0,Ac [],i6 B2.At]) ⟨_,_,rfl,rfl,⟨_,_,rfl,rfl,⟨_,_,rfl,rfl,rfl⟩⟩⟩ .nil)
 refine qa o rfl λo=>re<|tn<|th<|?_
 obtain ⟨v6,y6,hm⟩:=bs hm
 refine rg<|qm o rfl λo=>qv o (Af o Gp rfl) λo=>qv o (Ag o isAgg49 rfl (u.ld.cellB t3 rfl)) λo=>?_
 obtain ⟨us112,hd113,hu114⟩:=id (hrB14.mono (cp p0.sub hxHC1.sub))
 refine ls<|Bw (α:=api_Node) (xs:=([(api_Node.mk C1 0 [] B2.At)]:List api_Node)) (ys:=I0) o rfl u underlying49 Ny rfl (by decide) rfl rfl rfl t0 O5 (u.rdH t0 hd113) hu114 y6 λI8 C8 J8 w a P5 hU o=>?_
 replace u:=hU _ .head
 refine qa o rfl λo=>re<|tn<|th<|?_
 obtain ⟨R1,z6,hm⟩:=bs hm
 refine rg<|qm o rfl λo=>qv o (Af o Gp rfl) λo=>qv o (Ag o isAgg49 rfl (u.ld.cellB t1 rfl)) λo=>?_
 obtain ⟨us121,hd122,hu123⟩:=id Y4
 refine ls<|Bw (α:=api_Node) (xs:=v6) (ys:=T0.L) o rfl u underlying49 Ny rfl (by decide) rfl rfl rfl t0 P5 (u.rdH t0 hd122) hu123 z6 λP1 u0 K8 w a F4 hU o=>?_
 replace u:=hU _ .head
 refine qa o rfl λo=>re<|tn<|th<|rg<|qm o rfl λo=>qv o (Af o Ex rfl) λo=>qv o (Ag o isAgg3 rfl (u.ld.cellB t1 rfl)) λo=>qv o (Bp [SL P1 R1 u0,i6 T0.To] [SL P1 R1 u0,i6 T0.To,i6 0,i6 0] o ⟨rfl,rfl,trivial⟩ (λw=>by kernel_rfl)) λo=>ls<|Az o u sizeOf174 rfl rfl rfl rfl (Al rfl) (.tail (.tail (.tail .head))) λw u=>re<|tn<|th<|rg<|qm o rfl λo=>qv o (An o rfl rfl) λo=>re<|?_
 rcases bip hm with ⟨A3,hm⟩ | ⟨A3,hm⟩
 refine tn<|ctv o rfl A3<|th<|rg<|qv o (Ay o Tryz.isAgg174 Tryz.sizeOf174 rfl rfl (u.ld.cellsB t3)) λo=>ls<|Az o u sizeOf174 rfl rfl rfl rfl (Al rfl) (.tail (.tail .head)) λw u=>re<|tn<|wr<|br<|tr<|br<|tr<|?_
 obtain ⟨H128,Q5,R5,S5,u⟩:=St.frzS u .head F4
 obtain rfl:=si hm
 exact r1c (vs:=[SL P1 R1 u0,i6 T0.To,i6 0,i6 0]) (.inl rfl) o results162 rfl isAgg174 sizeOf174 rfl (u.ld.cellsB t1) ⟨H128,_,rfl,(show Enc.rep (α:=leadlineref03_Read) H128 [SL P1 R1 u0,i6 T0.To,i6 0,i6 0] (leadlineref03_Read.mk R1 T0.To 0 0) from ⟨_,_,rfl,⟨_,_,rfl,S5,R5⟩,⟨_,_,rfl,rfl,⟨_,_,rfl,rfl,rfl⟩⟩⟩),(Ext.trans Y0 (Ext.trans X0 (Ext.trans hxHC1 (Ext.trans p0 Q5)))),(St.le u),u.keep⟩
 refine tn<|cfv o rfl A3<|wk<|bn<|tn<|?_
 obtain ⟨D8,hxB5,hrB6,hcB7,u⟩:=St.frzS u .head F4
 replace u:=u.pk [1,1] rfl
 exact ⟨(S1,R1,T0.To,0,0),⟨D8,P1,u0,hm,(Ext.trans X0 (Ext.trans hxHC1 (Ext.trans p0 hxB5))),o.hs,u,hcB7,hrB6⟩,Nat.lt_succ_self _⟩
 refine tn<|cfv o rfl S3<|we<|tx<|tx<|bx<|tn<|?_
 exact ⟨I0,K0,P0,Q0,T1,U0,O0,hm,X0,o.has ⟨rfl,rfl,trivial⟩,u,hcB13,hrB14⟩
 rintro a w ⟨M0,C2,E2,F2,G2,Y1,O1,hm,T5,o,u,hcA5,hrA6⟩
 unfold Z28 at hm
 refine th<|rg<|qv o (Ay o Tryz.isAgg174 Tryz.sizeOf174 rfl rfl (u.ld.cellsB t1)) λo=>ls<|Az o u sizeOf174 rfl rfl rfl rfl (Al rfl) .head λw u=>re<|tn<|wr<|?_
 obtain rfl:=si hm
 exact r1c (vs:=[SL Y1 M0 O1,i6 C2,i6 E2,i6 F2]) (.inl rfl) o results162 rfl isAgg174 sizeOf174 rfl (u.ld.cellsB t0) ⟨G2,_,rfl,(show Enc.rep (α:=leadlineref03_Read) G2 [SL Y1 M0 O1,i6 C2,i6 E2,i6 F2] (leadlineref03_Read.mk M0 C2 E2 F2) from ⟨_,_,rfl,⟨_,_,rfl,hcA5,hrA6⟩,⟨_,_,rfl,rfl,⟨_,_,rfl,rfl,rfl⟩⟩⟩),(Ext.trans Y0 T5),(St.le u),u.keep⟩
theorem JaG:∀ (N:Nat) {w0:World} {H:PH} (_:H.le w0) {D0:Option Addr} {C0:Nat} {p1:(List api_Token)} (_:p1.length≤C0) (_:SR H D0 p1) {p6:Int} {p7:Int} {p8:Int} {r:leadlineref03_Read} (_:Z27 N p1 p6 p7 p8=some r),Tot Tryz.prog 162 #[SL D0 p1 C0,i6 p6,i6 p7,i6 p8] w0 (λv w'=>∃ (H':PH) (cs0:List Value),v=.agg cs0.toArray∧Enc.rep H' cs0 r∧Ext w0 H H'∧H'.le w'∧Keep Nil w0 w'):=λN=>(JaL N).2
theorem Xq (hH:H.le w0) {R0:Option Addr} {I0:Nat} {p1:(List api_Token)} (W0:p1.length≤I0) (D0:SR H R0 p1) {p6:Int} {r:((List api_Node)×Int×Int×Int)} (hm:Z2e N p1 p6=some r):Tot Tryz.prog 142 #[SL R0 p1 I0,i6 p6] w0 (λv w'=>∃ (H':PH) (S0:Option Addr) (J0:Nat),v=.tuple #[SL S0 r.1 J0,i6 r.2.1,i6 r.2.2.1,i6 r.2.2.2]∧r.1.length≤J0∧SR H' S0 r.1∧Ext w0 H H'∧H'.le w'∧Keep Nil w0 w'):=by
 unfold Z2e at hm
 refine fn0 func142 rfl ntmps142 rfl rfl λa o=>?_
 have u:St w0 Nil [H] [] w0:=start1 hH
 refine th<|rg<|qa o rfl λo=>?_
 iterate 3 refine qa o rfl λo=>?_
 refine re<|tn<|th<|th<|rg<|qm o rfl λo=>qv o (Ao o rfl rfl) λo=>re<|?_
 rcases bip hm with ⟨K0,hm⟩ | ⟨K0,hm⟩
 refine tn<|ctv o rfl K0<|th<|rg<|qa o rfl λo=>?_
 iterate 3 refine qa o rfl λo=>?_
 refine re<|tn<|wr<|tr<|?_
 obtain rfl:=si hm
 exact Go.LM.r4 o results142 rfl rfl rfl rfl ⟨H,_,_,rfl,(Nat.le_refl 0),(SR.nil _ _),(Ext.refl _ _),(St.le u),u.keep⟩
 refine tn<|cfv o rfl K0<|wk<|tn<|th<|?_
 obtain ⟨X0,h9,hm⟩:=bs hm
 refine rg<|qm o rfl λo=>qm o rfl λo=>ls<|c1 o rfl call162 (JaG _ (St.le u) W0 D0 h9) ⟨rfl,rfl,rfl,rfl,trivial⟩ (λv w a hR o=>?_)
 obtain ⟨H13,cs14,rfl,Y0,C0,T0,hk⟩:=hR
 obtain ⟨u,C0⟩:=And.intro (St.passH u hk C0 T0) (St.extc u C0)
 obtain ⟨B1,u0,rfl,M0,O0⟩:=Bc Y0
 refine ls<|Au (cs:=[.slice none 0 0,i6 0,i6 0,i6 0].toArray) o rfl u zeroValue174 rfl λC1 w a u o=>ls<|Az o u sizeOf174 rfl rfl rfl rfl (Al rfl) .head λw u=>re<|tn<|th<|th<|rg<|qv o (Af o Hr rfl) λo=>qv o (Ag o isAgg29 rfl (u.ld.cellB t0 rfl)) λo=>qv o (Bt o rfl rfl) λo=>re<|?_
 rcases bip hm with ⟨E0,hm⟩ | ⟨E0,hm⟩
 refine tn<|ctv o rfl E0<|th<|rxS 8 u wide (by kernel_rfl) λw u=>xr u o (Af o Hr rfl) λo=>xq u.ld o (λw hl=>Ag o isAgg29 rfl (hl.cellB t0 rfl)) λo=>xr u o (Af o Wm rfl) λo=>xq u.ld o (λw hl=>Ag o isAgg3 rfl (hl.cellB t0 rfl)) λo=>?_
 iterate 4 refine xq u.ld o (λw hl=>Bq o rfl) λo=>?_
 refine xe<|tn<|wr<|tr<|?_
 obtain rfl:=si hm
 exact Go.LM.r4 o results142 rfl rfl rfl rfl ⟨H13,_,_,rfl,(Nat.le_refl 0),(SR.nil _ _),C0,(St.le u),u.keep⟩
 refine tn<|cfv o rfl E0<|wk<|tn<|th<|th<|?_
 obtain ⟨E1,j0,hm⟩:=bs hm
 refine rg<|qv o (Af o Gp rfl) λo=>qv o (Ag o isAgg49 rfl (u.ld.cellB t0 rfl)) λo=>ls<|cr o call134 (Yb _ (Ai _) M0 (St.srH u O0) j0) u λu o=>qv o (Bd o rfl rfl) λo=>re<|?_
 rcases bip hm with ⟨F0,hm⟩ | ⟨F0,hm⟩
 refine tn<|ctv o rfl F0<|th<|?_
 obtain ⟨F1,P0,hm⟩:=bs hm
 obtain ⟨G1,n0,U0⟩:=SR.get D0 P0
 obtain rfl:=Bb n0
 refine rxS 9 u wide (by kernel_rfl) λw u=>?_
 iterate 2 refine xq u.ld o (λw hl=>Ab o rfl) λo=>?_
 refine xr u o (Am o runUnderlying120 sizeOf130 rfl rfl P0 (SR.oaI D0 (by decide) P0)) λo=>xr u o (Af o Dl rfl) λo=>xq u.ld o (λw hl=>Ag o isAgg3 rfl (PH.le.cell (λb o hx=>(Lds.le hl) b o (C0.sub b o hx)) (U0 3 _ rfl))) λo=>?_
 iterate 4 refine xq u.ld o (λw hl=>Bq o rfl) λo=>?_
 refine xe<|tn<|wr<|tr<|?_
 obtain rfl:=si hm
 exact Go.LM.r4 o results142 rfl rfl rfl rfl ⟨H13,_,_,rfl,(Nat.le_refl 0),(SR.nil _ _),C0,(St.le u),u.keep⟩
 refine tn<|cfv o rfl F0<|wk<|tn<|th<|th<|rg<|qv o (Af o Gp rfl) λo=>qv o (Ag o isAgg49 rfl (u.ld.cellB t0 rfl)) λo=>qv o (Ak (α:=api_Node) (xs:=X0.L) o runUnderlying49 rfl) λo=>qv o (Bd o rfl rfl) λo=>re<|?_
 rcases bip hm with ⟨G0,hm⟩ | ⟨G0,hm⟩
 refine tn<|ctv o rfl G0<|th<|?_
 obtain ⟨I1,Q0,hm⟩:=bs hm
 obtain ⟨J1,p0,V0⟩:=SR.get D0 Q0
 obtain rfl:=Bb p0
 refine rxS 9 u wide (by kernel_rfl) λw u=>?_
 iterate 2 refine xq u.ld o (λw hl=>Ab o rfl) λo=>?_
 refine xr u o (Am o runUnderlying120 sizeOf130 rfl rfl Q0 (SR.oaI D0 (by decide) Q0)) λo=>xr u o (Af o Dl rfl) λo=>xq u.ld o (λw hl=>Ag o isAgg3 rfl (PH.le.cell (λb o hx=>(Lds.le hl) b o (C0.sub b o hx)) (V0 3 _ rfl))) λo=>?_
 iterate 4 refine xq u.ld o (λw hl=>Bq o rfl) λo=>?_
 refine xe<|tn<|wr<|tr<|?_
 obtain rfl:=si hm
 exact Go.LM.r4 o results142 rfl rfl rfl rfl ⟨H13,_,_,rfl,(Nat.le_refl 0),(SR.nil _ _),C0,(St.le u),u.keep⟩
 refine tn<|cfv o rfl G0<|wk<|tn<|th<|rxS 8 u wide (by kernel_rfl) λw u=>xr u o (Af o Gp rfl) λo=>xq u.ld o (λw hl=>Ag o isAgg49 rfl (hl.cellB t0 rfl)) λo=>xr u o (Af o Ex rfl) λo=>xq u.ld o (λw hl=>Ag o isAgg3 rfl (hl.cellB t0 rfl)) λo=>?_
 iterate 4 refine xq u.ld o (λw hl=>Bq o rfl) λo=>?_
 refine xe<|tn<|wr<|?_
 obtain rfl:=si hm
 exact Go.LM.r4 o results142 rfl rfl rfl rfl ⟨H13,_,_,rfl,M0,O0,C0,(St.le u),u.keep⟩
theorem N0 (hH:H.le w0) {b2:Nat} {p1:leadlineref04_P} {oa3:Option Addr} {cap4:Nat} (G0:p1.L.length≤cap4) (I0:SR H oa3 p1.L) {oa7:Option Addr} {cap8:Nat} {vs9:List Value} (D0:Rows H vs9 p1.Out) (hO:(sepA [bk b2 [SL oa3 p1.L cap4,i6 p1.At,i6 p1.E,i6 p1.Pos,SL oa7 p1.Out cap8] 171,sla 51 9 oa7 p1.Out.length cap8 vs9]).ok (hp w0)) (hD:∀ b,(sepA [bk b2 [SL oa3 p1.L cap4,i6 p1.At,i6 p1.E,i6 p1.Pos,SL oa7 p1.Out cap8] 171,sla 51 9 oa7 p1.Out.length cap8 vs9]).fp b→H b=none) {r:((List api_Node)×leadlineref04_P)} (hm:Z34 N p1=some r):Tot Tryz.prog 176 #[PT b2] w0 (λv w'=>∃ (H':PH) (K0:Option Addr) (J0:Nat) (oa1m:Option Addr) (cap1m:Nat) (oa2m:Option Addr) (cap2m:Nat) (vs2m:List Value),v=SL K0 r.1 J0∧r.1.length≤J0∧SR H' K0 r.1∧r.2.L.length≤cap1m∧SR H' oa1m r.2.L∧Rows H' vs2m r.2.Out∧ExtM w0 (sepA [bk b2 [SL oa3 p1.L cap4,i6 p1.At,i6 p1.E,i6 p1.Pos,SL oa7 p1.Out cap8] 171,sla 51 9 oa7 p1.Out.length cap8 vs9]).fp H H'∧H'.le w'∧(∀ b,(sepA [bk b2 [SL oa1m r.2.L cap1m,i6 r.2.At,i6 r.2.E,i6 r.2.Pos,SL oa2m r.2.Out cap2m] 171,sla 51 9 oa2m r.2.Out.length cap2m vs2m]).fp b→H' b=none)∧Mut w0 (sepA [bk b2 [SL oa3 p1.L cap4,i6 p1.At,i6 p1.E,i6 p1.Pos,SL oa7 p1.Out cap8] 171,sla 51 9 oa7 p1.Out.length cap8 vs9]) (sepA [bk b2 [SL oa1m r.2.L cap1m,i6 r.2.At,i6 r.2.E,i6 r.2.Pos,SL oa2m r.2.Out cap2m] 171,sla 51 9 oa2m r.2.Out.length cap2m vs2m]) w'):=by
 unfold Z34 at hm
 refine fn0 func176 rfl ntmps176 rfl rfl λa o=>?_
 have u:=Cp hH hO hD
 refine th<|rg<|qa o rfl λo=>re<|tn<|th<|th<|rg<|qm o rfl λo=>qv o (Aj o rfl) λo=>qv o (Af o Bu rfl) λo=>qv o (Ag o isAgg29 rfl (u.ld.cellB t0 rfl)) λo=>qv o (Bt o rfl rfl) λo=>re<|?_
 rcases bip hm with ⟨E0,hm⟩ | ⟨E0,hm⟩
 refine tn<|ctv o rfl E0<|th<|rg<|qa o rfl λo=>re<|tn<|wr<|tr<|?_
 obtain rfl:=si hm
 exact r1 o results176 rfl ⟨H,_,_,oa3,cap4,oa7,cap8,vs9,rfl,(Nat.le_refl 0),(SR.nil _ _),G0,I0,D0,(ExtM.refl _ _ _),(St.le u),(St.disL (u.pickL (.cons .head (.cons .head .nil)))),(u.pickL (.cons .head (.cons .head .nil))).endMut⟩
 refine tn<|cfv o rfl E0<|wk<|tn<|th<|?_
 obtain ⟨T0,Q0,hm⟩:=bs hm
 refine rdS 18 u wide λw u=>dr 0 u o rfl (Ab o rfl) λo=>dr 1 u o rfl (Aj o rfl) λo=>dr 2 u o rfl (Af o Bv rfl) λo=>dq 3 u.ld o rfl (λw hl=>Ag o isAgg120 rfl (hl.cellB t0 rfl)) λo=>dr 4 u o rfl (Ab o rfl) λo=>dr 5 u o rfl (Aj o rfl) λo=>dr 6 u o rfl (Af o Bg rfl) λo=>dq 7 u.ld o rfl (λw hl=>Ag o isAgg3 rfl (hl.cellB t0 rfl)) λo=>da1 (i:=8) (by kernel_rfl) ?_
 refine di (i:=8) rfl<|c1 o rfl call142 (Xq (St.le u) G0 I0 Q0) ⟨rfl,rfl,trivial⟩ (λv w a hR o=>?_)
 obtain ⟨H18,S0,R0,rfl,M0,O0,C0,P0,hk⟩:=hR
 obtain ⟨u,C0⟩:=And.intro (St.passH u hk C0 P0) (St.extcM u C0)
 refine ⟨λ_=>(St.ldsX u C0.sub i1),?_⟩
 refine ds 9 (St.ldsX u C0.sub i1) o rfl (Ab o rfl) λo=>ds 10 (St.ldsX u C0.sub i1) o rfl (Cd o rfl rfl) λo=>ds 11 (St.ldsX u C0.sub i1) o rfl (Cd o rfl rfl) λo=>ds 12 (St.ldsX u C0.sub i1) o rfl (Cd o rfl rfl) λo=>ds 13 (St.ldsX u C0.sub i1) o rfl (Cd o rfl rfl) λo=>ds 14 (St.ldsX u C0.sub i1) o rfl (Bq o rfl) λo=>ds 15 (St.ldsX u C0.sub i1) o rfl (Bq o rfl) λo=>ds 16 (St.ldsX u C0.sub i1) o rfl (Bq o rfl) λo=>ds 17 (St.ldsX u C0.sub i1) o rfl (Bq o rfl) λo=>de (by kernel_rfl)<|tn<|th<|th<|rg<|qm o rfl λo=>qv o (Bt o rfl rfl) λo=>re<|?_
 rcases bip hm with ⟨F0,hm⟩ | ⟨F0,hm⟩
 refine tn<|ctv o rfl F0<|th<|rg<|qm o rfl λo=>qm o rfl λo=>qv o (Aj o rfl) λo=>qv o (Af o Bu rfl) λo=>ls<|Ax o u sizeOf29 rfl rfl rfl rfl .head (.succ (.succ .zero)) λw u=>re<|tn<|th<|rg<|qm o rfl λo=>qm o rfl λo=>qv o (Aj o rfl) λo=>qv o (Af o Gl rfl) λo=>ls<|Ax o u sizeOf3 rfl rfl rfl rfl .head (.succ (.succ (.succ .zero))) λw u=>re<|tn<|th<|rg<|qa o rfl λo=>re<|tn<|wr<|tr<|?_
 obtain rfl:=si hm
 exact r1 o results176 rfl ⟨H18,_,_,oa3,cap4,oa7,cap8,vs9,rfl,(Nat.le_refl 0),(SR.nil _ _),G0,(I0.mono C0.sub),(D0.mono C0.sub),C0,(St.le u),(St.disL (u.pickL (.cons .head (.cons .head .nil)))),(u.pickL (.cons .head (.cons .head .nil))).endMut⟩
 refine tn<|cfv o rfl F0<|wk<|tn<|th<|rg<|qm o rfl λo=>qm o rfl λo=>qv o (Aj o rfl) λo=>qv o (Af o Bg rfl) λo=>ls<|Ax o u sizeOf3 rfl rfl rfl rfl .head (.succ .zero) λw u=>re<|tn<|th<|rg<|qm o rfl λo=>qa o rfl λo=>re<|tn<|wr<|?_
 obtain rfl:=si hm
 exact r1 o results176 rfl ⟨H18,_,_,oa3,cap4,oa7,cap8,vs9,rfl,M0,O0,G0,(I0.mono C0.sub),(D0.mono C0.sub),C0,(St.le u),(St.disL (u.pickL (.cons .head (.cons .head .nil)))),(u.pickL (.cons .head (.cons .head .nil))).endMut⟩
set_option maxHeartbeats 4000000 in
theorem JbA (hH:H.le w0) {b2:Nat} {p1:leadlineref04_P} {oa3:Option Addr} {cap4:Nat} (K0:p1.L.length≤cap4) (C0:SR H oa3 p1.L) {oa7:Option Addr} {cap8:Nat} {vs9:List Value} (F0:Rows H vs9 p1.Out) (hO:(sepA [bk b2 [SL oa3 p1.L cap4,i6 p1.At,i6 p1.E,i6 p1.Pos,SL oa7 p1.Out cap8] 171,sla 51 9 oa7 p1.Out.length cap8 vs9]).ok (hp w0)) (hD:∀ b,(sepA [bk b2 [SL oa3 p1.L cap4,i6 p1.At,i6 p1.E,i6 p1.Pos,SL oa7 p1.Out cap8] 171,sla 51 9 oa7 p1.Out.length cap8 vs9]).fp b→H b=none) {r:(Int×leadlineref04_P)} (hm:Z3m N p1=some r):Tot Tryz.prog 177 #[PT b2] w0 (λv w'=>∃ (H':PH) (oa1m:Option Addr) (cap1m:Nat) (oa2m:Option Addr) (cap2m:Nat) (vs2m:List Value),v=i6 r.1∧r.2.L.length≤cap1m∧SR H' oa1m r.2.L∧Rows H' vs2m r.2.Out∧ExtM w0 (sepA [bk b2 [SL oa3 p1.L cap4,i6 p1.At,i6 p1.E,i6 p1.Pos,SL oa7 p1.Out cap8] 171,sla 51 9 oa7 p1.Out.length cap8 vs9]).fp H H'∧H'.le w'∧(∀ b,(sepA [bk b2 [SL oa1m r.2.L cap1m,i6 r.2.At,i6 r.2.E,i6 r.2.Pos,SL oa2m r.2.Out cap2m] 171,sla 51 9 oa2m r.2.Out.length cap2m vs2m]).fp b→H' b=none)∧Mut w0 (sepA [bk b2 [SL oa3 p1.L cap4,i6 p1.At,i6 p1.E,i6 p1.Pos,SL oa7 p1.Out cap8] 171,sla 51 9 oa7 p1.Out.length cap8 vs9]) (sepA [bk b2 [SL oa1m r.2.L cap1m,i6 r.2.At,i6 r.2.E,i6 r.2.Pos,SL oa2m r.2.Out cap2m] 171,sla 51 9 oa2m r.2.Out.length cap2m vs2m]) w'):=by
 unfold Z3m at hm
 refine fn0 func177 rfl ntmps177 rfl rfl λa o=>?_
 have u:=Cp hH hO hD
 refine th<|rg<|qa o rfl λo=>re<|tn<|th<|th<|Av (λa w=>∃ (M0:Bool),(Z3n N p1) M0=some r∧Fr 65 [(0,PT b2),(34,.bool M0)] a∧St w0 (sepA [bk b2 [SL oa3 p1.L cap4,i6 p1.At,i6 p1.E,i6 p1.Pos,SL oa7 p1.Out cap8] 171,sla 51 9 oa7 p1.Out.length cap8 vs9]).fp [H] [sla 51 9 oa7 p1.Out.length cap8 vs9,bk b2 [SL oa3 p1.L cap4,i6 p1.At,i6 p1.E,i6 p1.Pos,SL oa7 p1.Out cap8] 171] w) ?_ ?_
 rcases bit hm with ⟨G0,hm⟩ | ⟨G0,hm⟩
 obtain ⟨O1,O0,hm⟩:=bs hm
 obtain ⟨T1,P1,V0⟩:=SR.get C0 O0
 obtain rfl:=Bb P1
 refine rxS 31 u wide (by kernel_rfl) λw u=>xm u o rfl λo=>xr u o (Aj o rfl) λo=>xr u o (Af o Bu rfl) λo=>xq u.ld o (λw hl=>Ag o isAgg29 rfl (hl.cellB t0 rfl)) λo=>xr u o (An o rfl rfl) λo=>xm u o rfl λo=>JaW (N:=65) (Fk:=[(0,PT b2),(20,.bool ((decide (p1.E=0)) && (decide (p1.At < (p1.L.length:Int)))))]) (b:=(decide (p1.E=0))) 11 u ?_ ?_ ?_
 intro hb key
 replace o:=Fr.as o (t:=9) rfl (congrArg Value.bool hb)
 refine xg u.ld o (λw hl=>Ab o rfl) λo=>xg u.ld o (λw hl=>Aj o rfl) λo=>xg u.ld o (λw hl=>Af o Bg rfl) λo=>xg u.ld o (λw hl=>Ag o isAgg3 rfl (hl.cellB t0 rfl)) λo=>xg u.ld o (λw hl=>Ab o rfl) λo=>xg u.ld o (λw hl=>Aj o rfl) λo=>xg u.ld o (λw hl=>Af o Bv rfl) λo=>xg u.ld o (λw hl=>Ag o isAgg120 rfl (hl.cellB t0 rfl)) λo=>xg u.ld o (λw hl=>Ak (α:=api_Token) (xs:=p1.L) o runUnderlying120 rfl) λo=>xg u.ld o (λw hl=>Ao o rfl rfl) λo=>xr u o (Ar (v':=.bool ((decide (p1.E=0)) && (decide (p1.At < (p1.L.length:Int))))) (Ad o rfl rfl) (by rw [hb];rfl)) λo=>?_
 exact key _ _ (o.has ⟨rfl,rfl,trivial⟩) u
 intro hb key
 replace o:=Fr.as o (t:=9) rfl (congrArg Value.bool hb)
 iterate 10 refine xn u.ld o λo=>?_
 refine xr u o (Ar (v':=.bool ((decide (p1.E=0)) && (decide (p1.At < (p1.L.length:Int))))) (Ae o rfl rfl) (by rw [hb];rfl)) λo=>?_
 exact key _ _ (o.has ⟨rfl,rfl,trivial⟩) u
 intro a w o u
 refine xr u o (Ar (Ab o rfl) (congrArg Value.bool G0)) λo=>xg u.ld o (λw hl=>Ab o rfl) λo=>xg u.ld o (λw hl=>Aj o rfl) λo=>xg u.ld o (λw hl=>Af o Bv rfl) λo=>xg u.ld o (λw hl=>Ag o isAgg120 rfl (hl.cellB t0 rfl)) λo=>xg u.ld o (λw hl=>Ab o rfl) λo=>xg u.ld o (λw hl=>Aj o rfl) λo=>xg u.ld o (λw hl=>Af o Bg rfl) λo=>xg u.ld o (λw hl=>Ag o isAgg3 rfl (hl.cellB t0 rfl)) λo=>xg u.ld o (λw hl=>Am o runUnderlying120 sizeOf130 rfl rfl O0 (SR.oaI C0 (by decide) O0)) λo=>xg u.ld o (λw hl=>Af o Cr rfl) λo=>xg u.ld o (λw hl=>Ag o isAgg3 rfl (PH.le.cell (Lds.le hl) (V0 0 _ rfl))) λo=>xg u.ld o (λw hl=>An o rfl rfl) λo=>xr u o (Ad o rfl rfl) λo=>xe<|tn<|?_
 replace u:=u.pk [1,0] rfl
 exact ⟨(decide (O1.Kind=2)),hm,o.has ⟨rfl,rfl,trivial⟩,u⟩
 refine rxS 31 u wide (by kernel_rfl) λw u=>xm u o rfl λo=>xr u o (Aj o rfl) λo=>xr u o (Af o Bu rfl) λo=>xq u.ld o (λw hl=>Ag o isAgg29 rfl (hl.cellB t0 rfl)) λo=>xr u o (An o rfl rfl) λo=>xm u o rfl λo=>JaW (N:=65) (Fk:=[(0,PT b2),(20,.bool ((decide (p1.E=0)) && (decide (p1.At < (p1.L.length:Int)))))]) (b:=(decide (p1.E=0))) 11 u ?_ ?_ ?_
 intro hb key
 replace o:=Fr.as o (t:=9) rfl (congrArg Value.bool hb)
 refine xg u.ld o (λw hl=>Ab o rfl) λo=>xg u.ld o (λw hl=>Aj o rfl) λo=>xg u.ld o (λw hl=>Af o Bg rfl) λo=>xg u.ld o (λw hl=>Ag o isAgg3 rfl (hl.cellB t0 rfl)) λo=>xg u.ld o (λw hl=>Ab o rfl) λo=>xg u.ld o (λw hl=>Aj o rfl) λo=>xg u.ld o (λw hl=>Af o Bv rfl) λo=>xg u.ld o (λw hl=>Ag o isAgg120 rfl (hl.cellB t0 rfl)) λo=>xg u.ld o (λw hl=>Ak (α:=api_Token) (xs:=p1.L) o runUnderlying120 rfl) λo=>xg u.ld o (λw hl=>Ao o rfl rfl) λo=>xr u o (Ar (v':=.bool ((decide (p1.E=0)) && (decide (p1.At < (p1.L.length:Int))))) (Ad o rfl rfl) (by rw [hb];rfl)) λo=>?_
 exact key _ _ (o.has ⟨rfl,rfl,trivial⟩) u
 intro hb key
 replace o:=Fr.as o (t:=9) rfl (congrArg Value.bool hb)
 iterate 10 refine xn u.ld o λo=>?_
 refine xr u o (Ar (v':=.bool ((decide (p1.E=0)) && (decide (p1.At < (p1.L.length:Int))))) (Ae o rfl rfl) (by rw [hb];rfl)) λo=>?_
 exact key _ _ (o.has ⟨rfl,rfl,trivial⟩) u
 intro a w o u
 refine xr u o (Ar (Ab o rfl) (congrArg Value.bool G0)) λo=>?_
 iterate 12 refine xn u.ld o λo=>?_
 refine xr u o (Ae o rfl rfl) λo=>xe<|tn<|?_
 replace u:=u.pk [1,0] rfl
 exact ⟨false,hm,o.has ⟨rfl,rfl,trivial⟩,u⟩
 rintro a w ⟨M0,hm,o,u⟩
 unfold Z3n at hm
 rcases bit hm with ⟨I0,hm⟩ | ⟨I0,hm⟩
 refine ctv o rfl I0<|th<|?_
 obtain ⟨P0,Q0,hm⟩:=bs hm
 obtain ⟨U1,Q1,W0⟩:=SR.get C0 Q0
 obtain rfl:=Bb Q1
 refine rxS 12 u wide (by kernel_rfl) λw u=>xm u o rfl λo=>xr u o (Aj o rfl) λo=>xr u o (Af o Bv rfl) λo=>xq u.ld o (λw hl=>Ag o isAgg120 rfl (hl.cellB t1 rfl)) λo=>xm u o rfl λo=>xr u o (Aj o rfl) λo=>xr u o (Af o Bg rfl) λo=>xq u.ld o (λw hl=>Ag o isAgg3 rfl (hl.cellB t1 rfl)) λo=>xr u o (Am o runUnderlying120 sizeOf130 rfl rfl Q0 (SR.oaI C0 (by decide) Q0)) λo=>xr u o (Af o Gj rfl) λo=>xq u.ld o (λw hl=>Ag o isAgg3 rfl (PH.le.cell (Lds.le hl) (W0 2 _ rfl))) λo=>xr u o (Bq o rfl) λo=>xe<|tn<|th<|th<|rg<|qm o rfl λo=>qv o (Bl o rfl rfl) λo=>qm o rfl λo=>gr (Fk:=[(0,PT b2),(3,i6 P0.N),(51,.bool ((decide (1≤P0.N)) && (decide (P0.N≤8))))]) 48 3 o u ?_ ?_ ?_
 intro hb o key
 exact qg o (Ab o rfl) λo=>qg o (Dc o rfl rfl) λo=>qk o (Ad o rfl rfl) key u hb
 intro hb o key
 iterate 2 refine qn o λo=>?_
 exact qk o (Ae o rfl rfl) key u hb
 intro a w o u
 refine re<|?_
 rcases bit hm with ⟨J0,hm⟩ | ⟨J0,hm⟩
 refine tn<|ctv o rfl J0<|th<|rg<|qm o rfl λo=>qm o rfl λo=>qv o (Aj o rfl) λo=>qv o (Af o Bg rfl) λo=>qv o (Ag o isAgg3 rfl (u.ld.cellB t1 rfl)) λo=>qv o (Ap o rfl rfl) λo=>qv o (Aj o rfl) λo=>qv o (Af o Bg rfl) λo=>ls<|Ax o u sizeOf3 rfl rfl rfl rfl (.tail .head) (.succ .zero) λw u=>re<|tn<|th<|rg<|qm o rfl λo=>qa o rfl λo=>re<|tn<|wr<|tr<|tr<|?_
 obtain rfl:=si hm
 exact r1 o results177 rfl ⟨H,oa3,cap4,oa7,cap8,vs9,rfl,K0,C0,F0,(ExtM.refl _ _ _),(St.le u),(St.disL (u.pickL (.cons (.tail .head) (.cons .head .nil)))),(u.pickL (.cons (.tail .head) (.cons .head .nil))).endMut⟩
 refine tn<|cfv o rfl J0<|wk<|tn<|th<|?_
 obtain ⟨V1,R1,hm⟩:=bs hm
 refine rg<|qm o rfl λo=>?_
 replace u:=u.pk [1,0] rfl
 replace u:=St.sep [bk b2 [SL oa3 p1.L cap4,i6 p1.At,i6 p1.E,i6 p1.Pos,SL oa7 p1.Out cap8] 171,sla 51 9 oa7 p1.Out.length cap8 vs9] u
 refine ls<|c1 o rfl call167 (Mo (St.le u) (p1:=(leadlineref04_P.mk p1.L p1.At p1.E p1.Pos p1.Out)) (b2:=b2) (oa3:=oa3) (cap4:=cap4) (oa7:=oa7) (cap8:=cap8) (vs9:=vs9) K0 C0 F0 (St.sepOk u) (St.sepDis u) R1) ⟨rfl,rfl,trivial⟩ (λv w a hR o=>?_)
 obtain ⟨H30,X0,R0,Y0,S0,j0,rfl,n0,p0,u0,D0,B1,hd29,hk⟩:=hR
 obtain ⟨u,D0⟩:=And.intro (St.mutH u hk D0 B1 hd29) (St.extcMM u D0)
 replace u:=u.unsep
 refine re<|tn<|th<|rg<|qa o rfl λo=>re<|tn<|wr<|tr<|?_
 obtain rfl:=si hm
 exact r1 o results177 rfl ⟨H30,X0,R0,Y0,S0,j0,rfl,n0,p0,u0,D0,(St.le u),(St.disL (u.pickL (.cons .head (.cons .head .nil)))),(u.pickL (.cons .head (.cons .head .nil))).endMut⟩
 refine cfv o rfl I0<|wk<|tn<|th<|?_
 obtain ⟨X1,S1,hm⟩:=bs hm
 refine rg<|qm o rfl λo=>?_
 replace u:=u.pk [1,0] rfl
 replace u:=St.sep [bk b2 [SL oa3 p1.L cap4,i6 p1.At,i6 p1.E,i6 p1.Pos,SL oa7 p1.Out cap8] 171,sla 51 9 oa7 p1.Out.length cap8 vs9] u
 refine ls<|c1 o rfl call167 (Mo (St.le u) (p1:=(leadlineref04_P.mk p1.L p1.At p1.E p1.Pos p1.Out)) (b2:=b2) (oa3:=oa3) (cap4:=cap4) (oa7:=oa7) (cap8:=cap8) (vs9:=vs9) K0 C0 F0 (St.sepOk u) (St.sepDis u) S1) ⟨rfl,rfl,trivial⟩ (λv w a hR o=>?_)
 obtain ⟨H45,C1,T0,E1,U0,F1,rfl,G1,I1,J1,E0,M1,hd44,hk⟩:=hR
 obtain ⟨u,E0⟩:=And.intro (St.mutH u hk E0 M1 hd44) (St.extcMM u E0)
 replace u:=u.unsep
 refine re<|tn<|th<|rg<|qa o rfl λo=>re<|tn<|wr<|?_
 obtain rfl:=si hm
 exact r1 o results177 rfl ⟨H45,C1,T0,E1,U0,F1,rfl,G1,I1,J1,E0,(St.le u),(St.disL (u.pickL (.cons .head (.cons .head .nil)))),(u.pickL (.cons .head (.cons .head .nil))).endMut⟩
end Go.LM.LB
