/- Walks, lifted by program. No condition beyond the theorems' own premises. -/
import Derived.Test.YtgdkaddhhpgeiaaGreatDoorLBQ5
namespace Go.LM.LB
open Go Go.LL Go.MD Go.LM Go.Proofs Go.MD.LB Go.Proofs.Tryz
set_option maxRecDepth 100000
variable {N:Nat} {w0:World} {H:PH}
set_option maxHeartbeats 4000000 in
theorem Z3m_g:∀ (N:Nat),(∀ {w0:World} {H:PH} (_:H.le w0) {b2:Nat} {p1:leadlineref04_P} {oa3:Option Addr} {cap4:Nat} (_:p1.L.length≤cap4) (_:SR H oa3 p1.L) {oa7:Option Addr} {cap8:Nat} {vs9:List Value} (_:Rows H vs9 p1.Out) {p12:Int} {p13:Int} (_:(sepA [blk b2 (.cells [.slice oa3 p1.L.length cap4,i6 p1.At,i6 p1.E,i6 p1.Pos,.slice oa7 p1.Out.length cap8].toArray 171 (0,0)),sla 51 9 oa7 p1.Out.length cap8 vs9]).ok (hp w0)) (_:∀ b,(sepA [blk b2 (.cells [.slice oa3 p1.L.length cap4,i6 p1.At,i6 p1.E,i6 p1.Pos,.slice oa7 p1.Out.length cap8].toArray 171 (0,0)),sla 51 9 oa7 p1.Out.length cap8 vs9]).fp b→H b=none) {r:(Int×leadlineref04_P)} (_:Z3b N p1 p12 p13=some r),Tot Tryz.prog 169 #[.pointer (some ⟨b2,0,none⟩),i6 p12,i6 p13] w0 (fun v w'=>∃ (H':PH) (oa1m:Option Addr) (cap1m:Nat) (oa2m:Option Addr) (cap2m:Nat) (vs2m:List Value),v=i6 r.1∧r.2.L.length≤cap1m∧SR H' oa1m r.2.L∧Rows H' vs2m r.2.Out∧ExtM w0 (sepA [blk b2 (.cells [.slice oa3 p1.L.length cap4,i6 p1.At,i6 p1.E,i6 p1.Pos,.slice oa7 p1.Out.length cap8].toArray 171 (0,0)),sla 51 9 oa7 p1.Out.length cap8 vs9]).fp H H'∧H'.le w'∧(∀ b,(sepA [blk b2 (.cells [.slice oa1m r.2.L.length cap1m,i6 r.2.At,i6 r.2.E,i6 r.2.Pos,.slice oa2m r.2.Out.length cap2m].toArray 171 (0,0)),sla 51 9 oa2m r.2.Out.length cap2m vs2m]).fp b→H' b=none)∧Mut w0 (sepA [blk b2 (.cells [.slice oa3 p1.L.length cap4,i6 p1.At,i6 p1.E,i6 p1.Pos,.slice oa7 p1.Out.length cap8].toArray 171 (0,0)),sla 51 9 oa7 p1.Out.length cap8 vs9]) (sepA [blk b2 (.cells [.slice oa1m r.2.L.length cap1m,i6 r.2.At,i6 r.2.E,i6 r.2.Pos,.slice oa2m r.2.Out.length cap2m].toArray 171 (0,0)),sla 51 9 oa2m r.2.Out.length cap2m vs2m]) w'))∧(∀ {w0:World} {H:PH} (_:H.le w0) {b2:Nat} {p1:leadlineref04_P} {oa3:Option Addr} {cap4:Nat} (_:p1.L.length≤cap4) (_:SR H oa3 p1.L) {oa7:Option Addr} {cap8:Nat} {vs9:List Value} (_:Rows H vs9 p1.Out) {p12:Int} {p13:Int} (_:(sepA [blk b2 (.cells [.slice oa3 p1.L.length cap4,i6 p1.At,i6 p1.E,i6 p1.Pos,.slice oa7 p1.Out.length cap8].toArray 171 (0,0)),sla 51 9 oa7 p1.Out.length cap8 vs9]).ok (hp w0)) (_:∀ b,(sepA [blk b2 (.cells [.slice oa3 p1.L.length cap4,i6 p1.At,i6 p1.E,i6 p1.Pos,.slice oa7 p1.Out.length cap8].toArray 171 (0,0)),sla 51 9 oa7 p1.Out.length cap8 vs9]).fp b→H b=none) {r:leadlineref04_P} (_:Z3m N p1 p12 p13=some r),Tot Tryz.prog 160 #[.pointer (some ⟨b2,0,none⟩),i6 p12,i6 p13] w0 (fun v w'=>∃ (H':PH) (oa1m:Option Addr) (cap1m:Nat) (oa2m:Option Addr) (cap2m:Nat) (vs2m:List Value),v=.tuple #[]∧r.L.length≤cap1m∧SR H' oa1m r.L∧Rows H' vs2m r.Out∧ExtM w0 (sepA [blk b2 (.cells [.slice oa3 p1.L.length cap4,i6 p1.At,i6 p1.E,i6 p1.Pos,.slice oa7 p1.Out.length cap8].toArray 171 (0,0)),sla 51 9 oa7 p1.Out.length cap8 vs9]).fp H H'∧H'.le w'∧(∀ b,(sepA [blk b2 (.cells [.slice oa1m r.L.length cap1m,i6 r.At,i6 r.E,i6 r.Pos,.slice oa2m r.Out.length cap2m].toArray 171 (0,0)),sla 51 9 oa2m r.Out.length cap2m vs2m]).fp b→H' b=none)∧Mut w0 (sepA [blk b2 (.cells [.slice oa3 p1.L.length cap4,i6 p1.At,i6 p1.E,i6 p1.Pos,.slice oa7 p1.Out.length cap8].toArray 171 (0,0)),sla 51 9 oa7 p1.Out.length cap8 vs9]) (sepA [blk b2 (.cells [.slice oa1m r.L.length cap1m,i6 r.At,i6 r.E,i6 r.Pos,.slice oa2m r.Out.length cap2m].toArray 171 (0,0)),sla 51 9 oa2m r.Out.length cap2m vs2m]) w')):=by
 intro N
 induction N with
  | zero=>exact ⟨(by intros;rename_i hm;simp [Z3b] at hm),(by intros;rename_i hm;simp [Z3m] at hm)⟩
  | succ N ih=>
 obtain ⟨ih_Z3b,ih_Z3m⟩:=ih
 refine ⟨?_,?_⟩
 intro w0 H hH b2 p1 oa3 cap4 hc5 hr6 oa7 cap8 vs9 hv10 p12 p13 hO hD r hm
 rw [Z3b] at hm
 refine fn0 func169 rfl ntmps169 rfl rfl fun a o=>?_
 have u:=startM hH hO hD
 refine th<|rg<|qa o rfl fun a o=>re<|tn<|th<|rg<|qm o rfl fun a o=>qv o (e_nilp o rfl) fun a o=>qv o (e_fa o fa171_4 rfl) fun a o=>qv o (e_ld o isAgg46 rfl ((St.ld u).cellB t0 rfl)) fun a o=>qv o (e_lenL (α:=api_Stmt) (xs:=p1.Out) o runUnderlying46 rfl) fun a o=>qa o rfl fun a o=>re<|tn<|th<|th<|midK (fun a w=>∃ (vA1:Bool),(Z3c (Z3m N) N p1 p12 p13) vA1=some r∧Fr 60 [(0,.pointer (some ⟨b2,0,none⟩)),(1,i6 p12),(2,i6 p13),(7,i6 (p1.Out.length:Int)),(25,.bool vA1)] a∧St w0 (sepA [blk b2 (.cells [.slice oa3 p1.L.length cap4,i6 p1.At,i6 p1.E,i6 p1.Pos,.slice oa7 p1.Out.length cap8].toArray 171 (0,0)),sla 51 9 oa7 p1.Out.length cap8 vs9]).fp [H] [sla 51 9 oa7 p1.Out.length cap8 vs9,blk b2 (.cells [.slice oa3 p1.L.length cap4,i6 p1.At,i6 p1.E,i6 p1.Pos,.slice oa7 p1.Out.length cap8].toArray 171 (0,0))] w) ?_ ?_
 rcases bdich (decide (12 < p12)) with hb14 | hb14
 replace hm:=itp_t hm hb14
 obtain ⟨r15,h16,hm⟩:=bs hm
 refine rdS 13 u wide fun w u=>dr 0 u o rfl (e_move o rfl) fun a o=>dr 1 u o rfl (e_gtr o rfl rfl) fun a o=>dr 2 u o rfl (e_as (e_move o rfl) (congrArg Value.bool hb14)) fun a o=>dg 3 (St.ld u) o rfl (fun w hl=>e_move o rfl) fun a o=>dg 4 (St.ld u) o rfl (fun w hl=>e_nilp o rfl) fun a o=>dg 5 (St.ld u) o rfl (fun w hl=>e_fa o fa171_0 rfl) fun a o=>dg 6 (St.ld u) o rfl (fun w hl=>e_ld o isAgg120 rfl (hl.cellB t0 rfl)) fun a o=>dg 7 (St.ld u) o rfl (fun w hl=>e_move o rfl) fun a o=>dg 8 (St.ld u) o rfl (fun w hl=>e_nilp o rfl) fun a o=>dg 9 (St.ld u) o rfl (fun w hl=>e_fa o fa171_1 rfl) fun a o=>dg 10 (St.ld u) o rfl (fun w hl=>e_ld o isAgg3 rfl (hl.cellB t0 rfl)) fun a o=>da1 (i:=11) (by kernel_rfl) ?_
 refine di (i:=11) rfl<|gy o rfl rfl<|cq o call139 (Z1i_c (hp_le _) hc5 (St.srH u hr6) h16) ⟨rfl,rfl,rfl,trivial⟩ u fun w a u o=>⟨fun _=>(St.ld u),?_⟩
 refine dr 12 u o rfl (e_pickT o rfl rfl) fun a o=>de (by kernel_rfl)<|tn<|?_
 replace u:=u.pk [1,0] rfl
 exact ⟨r15,hm,o.hs,u⟩
 replace hm:=itp_f hm hb14
 refine rxS 13 u wide (by kernel_rfl) fun w u=>xm u o rfl fun a o=>xr u o (e_gtr o rfl rfl) fun a o=>xr u o (e_as (e_move o rfl) (congrArg Value.bool hb14)) fun a o=>?_
 iterate 9 refine xn (St.ld u) o fun a o=>?_
 refine xr u o (e_pickF o rfl rfl) fun a o=>xe<|tn<|?_
 replace u:=u.pk [1,0] rfl
 exact ⟨false,hm,o.hs,u⟩
 rintro a w ⟨vA1,hm,o,u⟩
 unfold Z3c at hm
 refine midK (fun a w=>∃ (vA3:(List api_Token)) (vA8:Int) (vA9:Int) (vA10:Int) (vA11:(List api_Stmt)) (HA2:PH) (oaA4:Option Addr) (capA5:Nat) (oaA12:Option Addr) (capA13:Nat) (vsA14:List Value),(Z3d (Z3m N) N p1 p12 p13) vA3 vA8 vA9 vA10 vA11=some r∧ExtM w0 (sepA [blk b2 (.cells [.slice oa3 p1.L.length cap4,i6 p1.At,i6 p1.E,i6 p1.Pos,.slice oa7 p1.Out.length cap8].toArray 171 (0,0)),sla 51 9 oa7 p1.Out.length cap8 vs9]).fp H HA2∧Fr 60 [(0,.pointer (some ⟨b2,0,none⟩)),(1,i6 p12),(2,i6 p13),(7,i6 (p1.Out.length:Int))] a∧St w0 (sepA [blk b2 (.cells [.slice oa3 p1.L.length cap4,i6 p1.At,i6 p1.E,i6 p1.Pos,.slice oa7 p1.Out.length cap8].toArray 171 (0,0)),sla 51 9 oa7 p1.Out.length cap8 vs9]).fp [HA2] [sla 51 9 oaA12 vA11.length capA13 vsA14,blk b2 (.cells [.slice oaA4 vA3.length capA5,i6 vA8,i6 vA9,i6 vA10,.slice oaA12 vA11.length capA13].toArray 171 (0,0))] w∧vA3.length≤capA5∧SR HA2 oaA4 vA3∧Rows HA2 vsA14 vA11) ?_ ?_
 rcases bdich vA1 with hb17 | hb17
 replace hm:=ite_t hm hb17
 refine ctv o rfl hb17<|?_
 obtain ⟨r18,h19,hm⟩:=bs hm
 refine rg<|qm o rfl fun a o=>?_
 replace u:=u.pk [1,0] rfl
 replace u:=St.sep [blk b2 (.cells [.slice oa3 p1.L.length cap4,i6 p1.At,i6 p1.E,i6 p1.Pos,.slice oa7 p1.Out.length cap8].toArray 171 (0,0)),sla 51 9 oa7 p1.Out.length cap8 vs9] u
 refine ls<|c1 o rfl call167 (Z39_c (St.le u) (p1:=(leadlineref04_P.mk p1.L p1.At p1.E p1.Pos p1.Out)) (b2:=b2) (oa3:=oa3) (cap4:=cap4) (oa7:=oa7) (cap8:=cap8) (vs9:=vs9) hc5 hr6 hv10 (St.sepOk u) (St.sepDis u) h19) ⟨rfl,rfl,trivial⟩ (fun v w a hR o=>?_)
 obtain ⟨H23,oa24,cap25,oa28,cap29,vs30,rfl,hc26,hr27,hv31,hx20,hl21,hd22,hk⟩:=hR
 obtain ⟨u,hx20⟩:=And.intro (St.mutH u hk hx20 hl21 hd22) (St.extcMM u hx20)
 replace u:=u.unsep
 refine re<|tn<|?_
 replace u:=u.pk [1,0] rfl
 exact ⟨r18.L,r18.At,r18.E,r18.Pos,r18.Out,H23,oa24,cap25,oa28,cap29,vs30,hm,hx20,o.hs,u,hc26,hr27,hv31⟩
 replace hm:=ite_f hm hb17
 refine cfv o rfl hb17<|wk<|tn<|?_
 exact ⟨p1.L,p1.At,p1.E,p1.Pos,p1.Out,H,oa3,cap4,oa7,cap8,vs9,hm,(ExtM.refl _ _ _),o.hs,u,hc5,hr6,hv10⟩
 rintro a w ⟨vA3,vA8,vA9,vA10,vA11,HA2,oaA4,capA5,oaA12,capA13,vsA14,hm,hxHA2,o,u,hcA6,hrA7,hvA15⟩
 unfold Z3d at hm
 refine th<|?_
 obtain ⟨r33,h34,hm⟩:=bs hm
 refine rg<|qm o rfl fun a o=>?_
 replace u:=u.pk [1,0] rfl
 replace u:=St.sep [blk b2 (.cells [.slice oaA4 vA3.length capA5,i6 vA8,i6 vA9,i6 vA10,.slice oaA12 vA11.length capA13].toArray 171 (0,0)),sla 51 9 oaA12 vA11.length capA13 vsA14] u
 refine ls<|c1 o rfl call161 (Z3i_c (St.le u) (p1:=(leadlineref04_P.mk vA3 vA8 vA9 vA10 vA11)) (b2:=b2) (oa3:=oaA4) (cap4:=capA5) (oa7:=oaA12) (cap8:=capA13) (vs9:=vsA14) hcA6 hrA7 hvA15 (St.sepOk u) (St.sepDis u) h34) ⟨rfl,rfl,trivial⟩ (fun v w a hR o=>?_)
 obtain ⟨H38,oa39,cap40,oa43,cap44,vs45,rfl,hc41,hr42,hv46,hx35,hl36,hd37,hk⟩:=hR
 obtain ⟨u,hx35⟩:=And.intro (St.mutH u hk hx35 hl36 hd37) (St.extcMM u hx35)
 replace u:=u.unsep
 refine re<|tn<|th<|midK (fun a w=>∃ (vA18:(List api_Token)) (vA23:Int) (vA24:Int) (vA25:Int) (vA26:(List api_Stmt)) (HA17:PH) (oaA19:Option Addr) (capA20:Nat) (oaA27:Option Addr) (capA28:Nat) (vsA29:List Value),(Z3e N p1) vA18 vA23 vA24 vA25 vA26=some r∧ExtM w0 (sepA [blk b2 (.cells [.slice oa3 p1.L.length cap4,i6 p1.At,i6 p1.E,i6 p1.Pos,.slice oa7 p1.Out.length cap8].toArray 171 (0,0)),sla 51 9 oa7 p1.Out.length cap8 vs9]).fp H38 HA17∧Fr 60 [(0,.pointer (some ⟨b2,0,none⟩)),(7,i6 (p1.Out.length:Int))] a∧St w0 (sepA [blk b2 (.cells [.slice oa3 p1.L.length cap4,i6 p1.At,i6 p1.E,i6 p1.Pos,.slice oa7 p1.Out.length cap8].toArray 171 (0,0)),sla 51 9 oa7 p1.Out.length cap8 vs9]).fp [HA17] [sla 51 9 oaA27 vA26.length capA28 vsA29,blk b2 (.cells [.slice oaA19 vA18.length capA20,i6 vA23,i6 vA24,i6 vA25,.slice oaA27 vA26.length capA28].toArray 171 (0,0))] w∧vA18.length≤capA20∧SR HA17 oaA19 vA18∧Rows HA17 vsA29 vA26) ?_ ?_
 replace u:=u.pk [1,0] rfl
 refine wb<|lp (α:=Nat×(List api_Token)×Int×Int×Int×(List api_Stmt)) (fun gh a w=>match gh with | (nn4,vB2,vB7,vB8,vB9,vB10)=>∃ (HB1:PH) (oaB3:Option Addr) (capB4:Nat) (oaB11:Option Addr) (capB12:Nat) (vsB13:List Value),(Z3g (Z3m N) N (Z3e N p1) p12 p13) nn4 vB2 vB7 vB8 vB9 vB10=some r∧ExtM w0 (sepA [blk b2 (.cells [.slice oa3 p1.L.length cap4,i6 p1.At,i6 p1.E,i6 p1.Pos,.slice oa7 p1.Out.length cap8].toArray 171 (0,0)),sla 51 9 oa7 p1.Out.length cap8 vs9]).fp H38 HB1∧Fr 60 [(0,.pointer (some ⟨b2,0,none⟩)),(1,i6 p12),(2,i6 p13),(7,i6 (p1.Out.length:Int))] a∧St w0 (sepA [blk b2 (.cells [.slice oa3 p1.L.length cap4,i6 p1.At,i6 p1.E,i6 p1.Pos,.slice oa7 p1.Out.length cap8].toArray 171 (0,0)),sla 51 9 oa7 p1.Out.length cap8 vs9]).fp [HB1] [sla 51 9 oaB11 vB10.length capB12 vsB13,blk b2 (.cells [.slice oaB3 vB2.length capB4,i6 vB7,i6 vB8,i6 vB9,.slice oaB11 vB10.length capB12].toArray 171 (0,0))] w∧vB2.length≤capB4∧SR HB1 oaB3 vB2∧Rows HB1 vsB13 vB10) (fun gh=>gh.1) (N,r33.L,r33.At,r33.E,r33.Pos,r33.Out) ⟨H38,oa39,cap40,oa43,cap44,vs45,hm,(ExtM.refl _ _ _),o.hs,u,hc41,hr42,hv46⟩ ?_
 rintro ⟨nn4,vB2,vB7,vB8,vB9,vB10⟩ a w ⟨HB1,oaB3,capB4,oaB11,capB12,vsB13,hm,hxHB1,o,u,hcB5,hrB6,hvB14⟩
 obtain _ | nn4:=nn4
 simp [Z3g] at hm
 rw [Z3g] at hm
 refine th<|th<|midK (fun a w=>∃ (vC1:Bool),(Z3f (Z3m N) (Z3e N p1) ((Z3g (Z3m N) N (Z3e N p1) p12 p13) nn4) p12 p13 vB2 vB7 vB8 vB9 vB10) vC1=some r∧Fr 60 [(0,.pointer (some ⟨b2,0,none⟩)),(1,i6 p12),(2,i6 p13),(7,i6 (p1.Out.length:Int)),(46,.bool vC1)] a∧St w0 (sepA [blk b2 (.cells [.slice oa3 p1.L.length cap4,i6 p1.At,i6 p1.E,i6 p1.Pos,.slice oa7 p1.Out.length cap8].toArray 171 (0,0)),sla 51 9 oa7 p1.Out.length cap8 vs9]).fp [HB1] [sla 51 9 oaB11 vB10.length capB12 vsB13,blk b2 (.cells [.slice oaB3 vB2.length capB4,i6 vB7,i6 vB8,i6 vB9,.slice oaB11 vB10.length capB12].toArray 171 (0,0))] w) ?_ ?_
 rcases bdich (decide (vB8=0)) with hb48 | hb48
 replace hm:=itp_t hm hb48
 obtain ⟨r49,h50,hm⟩:=bs hm
 refine rdS 17 u wide fun w u=>dr 0 u o rfl (e_move o rfl) fun a o=>dr 1 u o rfl (e_nilp o rfl) fun a o=>dr 2 u o rfl (e_fa o fa171_2 rfl) fun a o=>dq 3 (St.ld u) o rfl (fun w hl=>e_ld o isAgg29 rfl (hl.cellB t1 rfl)) fun a o=>dr 4 u o rfl (e_eql o rfl rfl) fun a o=>dr 5 u o rfl (e_as (e_move o rfl) (congrArg Value.bool hb48)) fun a o=>dg 6 (St.ld u) o rfl (fun w hl=>e_move o rfl) fun a o=>dg 7 (St.ld u) o rfl (fun w hl=>e_nilp o rfl) fun a o=>dg 8 (St.ld u) o rfl (fun w hl=>e_fa o fa171_0 rfl) fun a o=>dg 9 (St.ld u) o rfl (fun w hl=>e_ld o isAgg120 rfl (hl.cellB t1 rfl)) fun a o=>dg 10 (St.ld u) o rfl (fun w hl=>e_move o rfl) fun a o=>dg 11 (St.ld u) o rfl (fun w hl=>e_nilp o rfl) fun a o=>dg 12 (St.ld u) o rfl (fun w hl=>e_fa o fa171_1 rfl) fun a o=>dg 13 (St.ld u) o rfl (fun w hl=>e_ld o isAgg3 rfl (hl.cellB t1 rfl)) fun a o=>da1 (i:=14) (by kernel_rfl) ?_
 refine di (i:=14) rfl<|gy o rfl rfl<|cq o call139 (Z1i_c (hp_le _) hcB5 (St.srH u hrB6) h50) ⟨rfl,rfl,rfl,trivial⟩ u fun w a u o=>⟨fun _=>(St.ld u),?_⟩
 refine dg 15 (St.ld u) o rfl (fun w hl=>e_not o rfl) fun a o=>dr 16 u o rfl (e_pickT o rfl rfl) fun a o=>de (by kernel_rfl)<|tn<|?_
 exact ⟨(!r49),hm,o.hs,u⟩
 replace hm:=itp_f hm hb48
 refine rxS 17 u wide (by kernel_rfl) fun w u=>xm u o rfl fun a o=>xr u o (e_nilp o rfl) fun a o=>xr u o (e_fa o fa171_2 rfl) fun a o=>xq (St.ld u) o (fun w hl=>e_ld o isAgg29 rfl (hl.cellB t1 rfl)) fun a o=>xr u o (e_eql o rfl rfl) fun a o=>xr u o (e_as (e_move o rfl) (congrArg Value.bool hb48)) fun a o=>?_
 iterate 10 refine xn (St.ld u) o fun a o=>?_
 refine xr u o (e_pickF o rfl rfl) fun a o=>xe<|tn<|?_
 exact ⟨false,hm,o.hs,u⟩
 rintro a w ⟨vC1,hm,o,u⟩
 unfold Z3f at hm
 rcases bdich vC1 with hb51 | hb51
 replace hm:=ite_t hm hb51
 refine ctv o rfl hb51<|wk<|tn<|wb<|?_
 obtain ⟨r52,h53,hm⟩:=bs hm
 refine rg<|qm o rfl fun a o=>?_
 iterate 2 refine qm o rfl fun a o=>?_
 replace u:=u.pk [1,0] rfl
 replace u:=St.sep [blk b2 (.cells [.slice oaB3 vB2.length capB4,i6 vB7,i6 vB8,i6 vB9,.slice oaB11 vB10.length capB12].toArray 171 (0,0)),sla 51 9 oaB11 vB10.length capB12 vsB13] u
 refine ls<|c1 o rfl call160 (ih_Z3m (St.le u) (p1:=(leadlineref04_P.mk vB2 vB7 vB8 vB9 vB10)) (b2:=b2) (oa3:=oaB3) (cap4:=capB4) (oa7:=oaB11) (cap8:=capB12) (vs9:=vsB13) hcB5 hrB6 hvB14 (St.sepOk u) (St.sepDis u) h53) ⟨rfl,rfl,rfl,trivial⟩ (fun v w a hR o=>?_)
 obtain ⟨H57,oa58,cap59,oa62,cap63,vs64,rfl,hc60,hr61,hv65,hx54,hl55,hd56,hk⟩:=hR
 obtain ⟨u,hx54⟩:=And.intro (St.mutH u hk hx54 hl55 hd56) (St.extcMM u hx54)
 replace u:=u.unsep
 refine re<|bn<|tn<|?_
 replace u:=u.pk [1,0] rfl
 exact ⟨(nn4,r52.L,r52.At,r52.E,r52.Pos,r52.Out),⟨H57,oa58,cap59,oa62,cap63,vs64,hm,(ExtM.trans hxHB1 hx54),o.hs,u,hc60,hr61,hv65⟩,Nat.lt_succ_self _⟩
 replace hm:=ite_f hm hb51
 refine cfv o rfl hb51<|we<|tx<|tx<|bx<|tn<|?_
 exact ⟨vB2,vB7,vB8,vB9,vB10,HB1,oaB3,capB4,oaB11,capB12,vsB13,hm,hxHB1,o.has ⟨rfl,rfl,trivial⟩,u,hcB5,hrB6,hvB14⟩
 rintro a w ⟨vA18,vA23,vA24,vA25,vA26,HA17,oaA19,capA20,oaA27,capA28,vsA29,hm,hxHA17,o,u,hcA21,hrA22,hvA30⟩
 unfold Z3e at hm
 refine th<|?_
 obtain ⟨r67,h68,hm⟩:=bs hm
 refine rg<|qm o rfl fun a o=>?_
 replace u:=u.pk [1,0] rfl
 replace u:=St.sep [blk b2 (.cells [.slice oaA19 vA18.length capA20,i6 vA23,i6 vA24,i6 vA25,.slice oaA27 vA26.length capA28].toArray 171 (0,0)),sla 51 9 oaA27 vA26.length capA28 vsA29] u
 refine ls<|c1 o rfl call161 (Z3i_c (St.le u) (p1:=(leadlineref04_P.mk vA18 vA23 vA24 vA25 vA26)) (b2:=b2) (oa3:=oaA19) (cap4:=capA20) (oa7:=oaA27) (cap8:=capA28) (vs9:=vsA29) hcA21 hrA22 hvA30 (St.sepOk u) (St.sepDis u) h68) ⟨rfl,rfl,trivial⟩ (fun v w a hR o=>?_)
 obtain ⟨H72,oa73,cap74,oa77,cap78,vs79,rfl,hc75,hr76,hv80,hx69,hl70,hd71,hk⟩:=hR
 obtain ⟨u,hx69⟩:=And.intro (St.mutH u hk hx69 hl70 hd71) (St.extcMM u hx69)
 replace u:=u.unsep
 refine re<|tn<|th<|rg<|qm o rfl fun a o=>qv o (e_nilp o rfl) fun a o=>qv o (e_fa o fa171_4 rfl) fun a o=>qv o (e_ld o isAgg46 rfl ((St.ld u).cellB t0 rfl)) fun a o=>qv o (e_lenL (α:=api_Stmt) (xs:=r67.Out) o runUnderlying46 rfl) fun a o=>qm o rfl fun a o=>qv o (e_sub o rfl rfl) fun a o=>qa o rfl fun a o=>re<|tn<|wr<|?_
 obtain rfl:=si hm
 exact r1 o results169 rfl ⟨H72,oa73,cap74,oa77,cap78,vs79,rfl,hc75,hr76,hv80,(ExtM.trans hxHA2 (ExtM.trans hx35 (ExtM.trans hxHA17 hx69))),(St.le u),(St.disL (u.pickL (.cons .head (.cons .head .nil)))),(u.pickL (.cons .head (.cons .head .nil))).endMut⟩
 intro w0 H hH b2 p1 oa3 cap4 hc5 hr6 oa7 cap8 vs9 hv10 p12 p13 hO hD r hm
 rw [Z3m] at hm
 refine fn0 func160 rfl ntmps160 rfl rfl fun a o=>?_
 have u:=startM hH hO hD
 refine th<|?_
 obtain ⟨r14,h15,hm⟩:=bs hm
 refine rdS 11 u wide fun w u=>dr 0 u o rfl (e_move o rfl) fun a o=>dr 1 u o rfl (e_nilp o rfl) fun a o=>dr 2 u o rfl (e_fa o fa171_0 rfl) fun a o=>dq 3 (St.ld u) o rfl (fun w hl=>e_ld o isAgg120 rfl (hl.cellB t0 rfl)) fun a o=>dr 4 u o rfl (e_move o rfl) fun a o=>dr 5 u o rfl (e_nilp o rfl) fun a o=>dr 6 u o rfl (e_fa o fa171_1 rfl) fun a o=>dq 7 (St.ld u) o rfl (fun w hl=>e_ld o isAgg3 rfl (hl.cellB t0 rfl)) fun a o=>da1 (i:=8) (by kernel_rfl) ?_
 refine di (i:=8) rfl<|cq o call143 (Z1r_c (hp_le _) hc5 (St.srH u hr6) h15) ⟨rfl,rfl,trivial⟩ u fun w a u o=>⟨fun _=>(St.ld u),?_⟩
 refine dr 9 u o rfl (e_asg o rfl) fun a o=>dr 10 u o rfl (e_asg o rfl) fun a o=>de (by kernel_rfl)<|tn<|th<|th<|rg<|qa o rfl fun a o=>re<|tn<|midK (fun a w=>∃ (vA1:Int),(Z3n (Z3b N) N p1 p12 p13 r14) vA1=some r∧Fr 134 [(0,.pointer (some ⟨b2,0,none⟩)),(1,i6 p12),(2,i6 p13),(6,i6 vA1),(7,i6 r14)] a∧St w0 (sepA [blk b2 (.cells [.slice oa3 p1.L.length cap4,i6 p1.At,i6 p1.E,i6 p1.Pos,.slice oa7 p1.Out.length cap8].toArray 171 (0,0)),sla 51 9 oa7 p1.Out.length cap8 vs9]).fp [H] [sla 51 9 oa7 p1.Out.length cap8 vs9,blk b2 (.cells [.slice oa3 p1.L.length cap4,i6 p1.At,i6 p1.E,i6 p1.Pos,.slice oa7 p1.Out.length cap8].toArray 171 (0,0))] w) ?_ ?_
 replace u:=u.pk [1,0] rfl
 refine wb<|lp (α:=Nat×Int×Int) (fun gh a w=>match gh with | (nn2,vB1,vB2)=>(Z3u N (Z3n (Z3b N) N p1 p12 p13 r14) p1) nn2 vB1 vB2=some r∧Fr 134 [(0,.pointer (some ⟨b2,0,none⟩)),(1,i6 p12),(2,i6 p13),(6,i6 vB1),(7,i6 r14),(8,i6 vB2)] a∧St w0 (sepA [blk b2 (.cells [.slice oa3 p1.L.length cap4,i6 p1.At,i6 p1.E,i6 p1.Pos,.slice oa7 p1.Out.length cap8].toArray 171 (0,0)),sla 51 9 oa7 p1.Out.length cap8 vs9]).fp [H] [sla 51 9 oa7 p1.Out.length cap8 vs9,blk b2 (.cells [.slice oa3 p1.L.length cap4,i6 p1.At,i6 p1.E,i6 p1.Pos,.slice oa7 p1.Out.length cap8].toArray 171 (0,0))] w) (fun gh=>gh.1) (N,1,2) ⟨hm,o.hs,u⟩ ?_
 rintro ⟨nn2,vB1,vB2⟩ a w ⟨hm,o,u⟩
 obtain _ | nn2:=nn2
 simp [Z3u] at hm
 rw [Z3u] at hm
 refine th<|th<|rg<|qm o rfl fun a o=>qv o (e_leq o rfl rfl) fun a o=>re<|?_
 rcases bdich (decide (vB2≤14)) with hb16 | hb16
 replace hm:=itp_t hm hb16
 refine tn<|ctv o rfl hb16<|wk<|tn<|th<|midK (fun a w=>∃ (vC1:Int),(Z3o (Z3u N (Z3n (Z3b N) N p1 p12 p13 r14) p1 nn2) vB2) vC1=some r∧Fr 134 [(0,.pointer (some ⟨b2,0,none⟩)),(1,i6 p12),(2,i6 p13),(6,i6 vC1),(7,i6 r14),(8,i6 vB2)] a∧St w0 (sepA [blk b2 (.cells [.slice oa3 p1.L.length cap4,i6 p1.At,i6 p1.E,i6 p1.Pos,.slice oa7 p1.Out.length cap8].toArray 171 (0,0)),sla 51 9 oa7 p1.Out.length cap8 vs9]).fp [H] [sla 51 9 oa7 p1.Out.length cap8 vs9,blk b2 (.cells [.slice oa3 p1.L.length cap4,i6 p1.At,i6 p1.E,i6 p1.Pos,.slice oa7 p1.Out.length cap8].toArray 171 (0,0))] w) ?_ ?_
 refine wb<|th<|?_
 obtain ⟨r17,h18,hm⟩:=bs hm
 obtain ⟨r19,h20,hm⟩:=bs hm
 refine rdS 11 u wide fun w u=>dr 0 u o rfl (e_move o rfl) fun a o=>dr 1 u o rfl (e_nilp o rfl) fun a o=>dr 2 u o rfl (e_fa o fa171_0 rfl) fun a o=>dq 3 (St.ld u) o rfl (fun w hl=>e_ld o isAgg120 rfl (hl.cellB t1 rfl)) fun a o=>dr 4 u o rfl (e_move o rfl) fun a o=>dr 5 u o rfl (e_nilp o rfl) fun a o=>dr 6 u o rfl (e_fa o fa171_1 rfl) fun a o=>dq 7 (St.ld u) o rfl (fun w hl=>e_ld o isAgg3 rfl (hl.cellB t1 rfl)) fun a o=>dr 8 u o rfl (e_move o rfl) fun a o=>da1 (i:=9) (by kernel_rfl) ?_
 refine di (i:=9) rfl<|cq o call166 (Z48_c (hp_le _) h18) ⟨rfl,trivial⟩ u fun w a u o=>⟨fun _=>(St.ld u),?_⟩
 refine da1 (i:=10) (by kernel_rfl) ?_
 refine di (i:=10) rfl<|cq o call139 (Z1i_c (hp_le _) hc5 (St.srH u hr6) h20) ⟨rfl,rfl,rfl,trivial⟩ u fun w a u o=>⟨fun _=>(St.ld u),?_⟩
 refine de (by kernel_rfl)<|?_
 rcases bdich r19 with hb21 | hb21
 replace hm:=ite_t hm hb21
 refine tn<|ctv o rfl hb21<|rg<|qm o rfl fun a o=>qa o rfl fun a o=>re<|bn<|tn<|?_
 exact ⟨vB2,hm,o.hs,u⟩
 replace hm:=ite_f hm hb21
 refine tn<|cfv o rfl hb21<|wk<|bn<|tn<|?_
 exact ⟨vB1,hm,o.hs,u⟩
 rintro a w ⟨vC1,hm,o,u⟩
 unfold Z3o at hm
 refine rg<|qm o rfl fun a o=>qv o (e_add o rfl rfl) fun a o=>qa o rfl fun a o=>re<|tn<|?_
 exact ⟨(nn2,vC1,(IntKind.i64.wrap (vB2+1))),⟨hm,o.hs,u⟩,Nat.lt_succ_self _⟩
 replace hm:=itp_f hm hb16
 refine tn<|cfv o rfl hb16<|we<|tx<|tx<|bx<|tn<|?_
 exact ⟨vB1,hm,o.hs,u⟩
 rintro a w ⟨vA1,hm,o,u⟩
 unfold Z3n at hm
 refine th<|th<|rg<|qm o rfl fun a o=>qv o (e_eql o rfl rfl) fun a o=>qm o rfl fun a o=>grp (N:=134) (Fk:=[(0,.pointer (some ⟨b2,0,none⟩)),(1,i6 p12),(2,i6 p13),(6,i6 vA1),(7,i6 r14),(42,.bool ((decide (vA1=13)) && (decide (p13=0))))]) (b:=(decide (vA1=13))) 3 u ?_ ?_ ?_
 intro hb key
 replace o:=Fr.as o (t:=39) rfl (congrArg Value.bool hb)
 refine qg o (e_move o rfl) fun a o=>qg o (e_eql o rfl rfl) fun a o=>qv o (e_as (v':=.bool ((decide (vA1=13)) && (decide (p13=0)))) (e_pickT o rfl rfl) (by rw [hb];rfl)) fun a o=>?_
 exact key _ _ (o.hs) u
 intro hb key
 replace o:=Fr.as o (t:=39) rfl (congrArg Value.bool hb)
 iterate 2 refine qn o fun a o=>?_
 refine qv o (e_as (v':=.bool ((decide (vA1=13)) && (decide (p13=0)))) (e_pickF o rfl rfl) (by rw [hb];rfl)) fun a o=>?_
 exact key _ _ (o.hs) u
 intro a w o u
 refine re<|?_
 rcases bdich ((decide (vA1=13)) && (decide (p13=0))) with hb22 | hb22
 replace hm:=ite_t hm hb22
 refine tn<|ctv o rfl hb22<|th<|?_
 obtain ⟨r23,h24,hm⟩:=bs hm
 refine rg<|qm o rfl fun a o=>?_
 replace u:=u.pk [1,0] rfl
 replace u:=St.sep [blk b2 (.cells [.slice oa3 p1.L.length cap4,i6 p1.At,i6 p1.E,i6 p1.Pos,.slice oa7 p1.Out.length cap8].toArray 171 (0,0)),sla 51 9 oa7 p1.Out.length cap8 vs9] u
 refine ls<|c1 o rfl call167 (Z39_c (St.le u) (p1:=(leadlineref04_P.mk p1.L p1.At p1.E p1.Pos p1.Out)) (b2:=b2) (oa3:=oa3) (cap4:=cap4) (oa7:=oa7) (cap8:=cap8) (vs9:=vs9) hc5 hr6 hv10 (St.sepOk u) (St.sepDis u) h24) ⟨rfl,rfl,trivial⟩ (fun v w a hR o=>?_)
 obtain ⟨H28,oa29,cap30,oa33,cap34,vs35,rfl,hc31,hr32,hv36,hx25,hl26,hd27,hk⟩:=hR
 obtain ⟨u,hx25⟩:=And.intro (St.mutH u hk hx25 hl26 hd27) (St.extcMM u hx25)
 replace u:=u.unsep
 refine re<|tn<|wr<|tr<|?_
 obtain rfl:=si hm
 exact r0 o results160 ⟨H28,oa29,cap30,oa33,cap34,vs35,rfl,hc31,hr32,hv36,hx25,(St.le u),(St.disL (u.pickL (.cons .head (.cons .head .nil)))),(u.pickL (.cons .head (.cons .head .nil))).endMut⟩
 replace hm:=ite_f hm hb22
 refine tn<|cfv o rfl hb22<|wk<|tn<|th<|th<|rg<|qm o rfl fun a o=>qv o (e_neq o rfl rfl) fun a o=>re<|tn<|midK (fun a w=>∃ (vA2:Int),(Z3p (Z3b N) N p1 p12 p13 r14 vA1) vA2=some r∧Fr 134 [(0,.pointer (some ⟨b2,0,none⟩)),(1,i6 p12),(2,i6 p13),(6,i6 vA1),(7,i6 r14)] a∧St w0 (sepA [blk b2 (.cells [.slice oa3 p1.L.length cap4,i6 p1.At,i6 p1.E,i6 p1.Pos,.slice oa7 p1.Out.length cap8].toArray 171 (0,0)),sla 51 9 oa7 p1.Out.length cap8 vs9]).fp [H] [sla 51 9 oa7 p1.Out.length cap8 vs9,blk b2 (.cells [.slice oa3 p1.L.length cap4,i6 vA2,i6 p1.E,i6 p1.Pos,.slice oa7 p1.Out.length cap8].toArray 171 (0,0))] w) ?_ ?_
 rcases bdich (decide (vA1≠1)) with hb38 | hb38
 replace hm:=itp_t hm hb38
 refine ctv o rfl hb38<|rg<|qm o rfl fun a o=>qm o rfl fun a o=>qv o (e_nilp o rfl) fun a o=>qv o (e_fa o fa171_1 rfl) fun a o=>qv o (e_ld o isAgg3 rfl ((St.ld u).cellB t1 rfl)) fun a o=>qv o (e_add o rfl rfl) fun a o=>qv o (e_nilp o rfl) fun a o=>qv o (e_fa o fa171_1 rfl) fun a o=>ls<|s_blk o u sizeOf3 rfl rfl rfl rfl (.tail .head) (.succ .zero) fun w u=>re<|tn<|?_
 exact ⟨(IntKind.i64.wrap (p1.At+1)),hm,o.hs,u⟩
 replace hm:=itp_f hm hb38
 refine cfv o rfl hb38<|wk<|tn<|?_
 exact ⟨p1.At,hm,o.hs,u⟩
 rintro a w ⟨vA2,hm,o,u⟩
 unfold Z3p at hm
 refine th<|?_
 obtain ⟨r39,h40,hm⟩:=bs hm
 refine rg<|qm o rfl fun a o=>?_
 iterate 2 refine qm o rfl fun a o=>?_
 replace u:=u.pk [1,0] rfl
 replace u:=St.sep [blk b2 (.cells [.slice oa3 p1.L.length cap4,i6 vA2,i6 p1.E,i6 p1.Pos,.slice oa7 p1.Out.length cap8].toArray 171 (0,0)),sla 51 9 oa7 p1.Out.length cap8 vs9] u
 refine ls<|c1 o rfl call168 (Z3v_c (St.le u) (p1:=(leadlineref04_P.mk p1.L vA2 p1.E p1.Pos p1.Out)) (b2:=b2) (oa3:=oa3) (cap4:=cap4) (oa7:=oa7) (cap8:=cap8) (vs9:=vs9) hc5 hr6 hv10 (St.sepOk u) (St.sepDis u) h40) ⟨rfl,rfl,rfl,trivial⟩ (fun v w a hR o=>?_)
 obtain ⟨H44,cs45,oa55,cap56,oa59,cap60,vs61,rfl,g46,hc57,hr58,hv62,hx41,hl42,hd43,hk⟩:=hR
 obtain ⟨u,hx41⟩:=And.intro (St.mutH u hk hx41 hl42 hd43) (St.extcMM u hx41)
 replace u:=u.unsep
 obtain ⟨oa47,cap48,oa51,cap52,rfl,hc49,hr50,hc53,hr54⟩:=api_Stmt_open g46
 refine ls<|a_alloc (cs:=[i6 0,strv [],strv [],.slice none 0 0,.slice none 0 0,i6 0,i6 0,i6 0,i6 0].toArray) o rfl u zeroValue51 rfl fun b64 w a u o=>ls<|s_blkA o u sizeOf51 rfl rfl rfl rfl (one_cells rfl) .head fun w u=>re<|tn<|th<|rg<|qm o rfl fun a o=>qv o (e_nilp o rfl) fun a o=>qv o (e_fa o fa171_4 rfl) fun a o=>qv o (e_ld o isAgg46 rfl ((St.ld u).cellB t1 rfl)) fun a o=>qv o (e_lenL (α:=api_Stmt) (xs:=r39.2.Out) o runUnderlying46 rfl) fun a o=>qa o rfl fun a o=>re<|tn<|th<|midK (fun a w=>∃ (vA3:(List api_Stmt)) (oaA4:Option Addr) (capA5:Nat) (vsA6:List Value),(Z3q (Z3b N) N p12 p13 vA1 r39) vA3=some r∧Fr 134 [(0,.pointer (some ⟨b2,0,none⟩)),(1,i6 p12),(2,i6 p13),(6,i6 vA1),(9,.pointer (some ⟨b64,0,none⟩)),(10,i6 (r39.2.Out.length:Int))] a∧St w0 (sepA [blk b2 (.cells [.slice oa3 p1.L.length cap4,i6 p1.At,i6 p1.E,i6 p1.Pos,.slice oa7 p1.Out.length cap8].toArray 171 (0,0)),sla 51 9 oa7 p1.Out.length cap8 vs9]).fp [H44] [sla 51 9 oaA4 vA3.length capA5 vsA6,blk b2 (.cells [.slice oa55 r39.2.L.length cap56,i6 r39.2.At,i6 r39.2.E,i6 r39.2.Pos,.slice oaA4 vA3.length capA5].toArray 171 (0,0)),blk b64 (.cells [i6 r39.1.Kind,strv r39.1.Reg,strv r39.1.Name,.slice oa47 r39.1.E.length cap48,.slice oa51 r39.1.F.length cap52,i6 r39.1.N,i6 r39.1.Body,i6 r39.1.Else,i6 r39.1.At].toArray 51 (0,0))] w∧Rows H44 vsA6 vA3) ?_ ?_
 obtain ⟨l68,h69,hm⟩:=bs hm
 refine rdL (sub_cons t0 sub_nil) 11 u wide fun w u=>ds 0 (St.ldsX u i2 (sub_cons t0 sub_nil)) o rfl (e_move o rfl) fun a o=>ds 1 (St.ldsX u i2 (sub_cons t0 sub_nil)) o rfl (e_move o rfl) fun a o=>ds 2 (St.ldsX u i2 (sub_cons t0 sub_nil)) o rfl (e_nilp o rfl) fun a o=>ds 3 (St.ldsX u i2 (sub_cons t0 sub_nil)) o rfl (e_fa o fa171_4 rfl) fun a o=>da2 (i:=4) (j:=5) (by kernel_rfl) ?_ ?_
 refine di (i:=4) rfl<|q1 o rfl (e_ld o isAgg46 rfl ((St.ld u).cellB t1 rfl)) fun a o=>⟨fun _=>(St.ldsX u i2 (sub_cons t0 sub_nil)),?_⟩
 refine dq 5 (St.ldsX u i2 (sub_cons t0 sub_nil)) o rfl (fun w hl=>e_ldA o isAgg51 sizeOf51 rfl rfl (hl.cellsB t0)) fun a o=>da1 (i:=6) (by kernel_rfl) ?_
 refine di (i:=6) rfl<|a_bsl (e:=51) (sz:=9) [i6 r39.1.Kind,strv r39.1.Reg,strv r39.1.Name,.slice oa47 r39.1.E.length cap48,.slice oa51 r39.1.F.length cap52,i6 r39.1.N,i6 r39.1.Body,i6 r39.1.Else,i6 r39.1.At] o rfl u rfl rfl rfl (fun w=>by kernel_rfl) fun b66 w a u o=>?_
 have hv65:Rows (α:=api_Stmt) H44 [i6 r39.1.Kind,strv r39.1.Reg,strv r39.1.Name,.slice oa47 r39.1.E.length cap48,.slice oa51 r39.1.F.length cap52,i6 r39.1.N,i6 r39.1.Body,i6 r39.1.Else,i6 r39.1.At] ([r39.1]:List api_Stmt):=(.cons (c:=[i6 r39.1.Kind,strv r39.1.Reg,strv r39.1.Name,.slice oa47 r39.1.E.length cap48,.slice oa51 r39.1.F.length cap52,i6 r39.1.N,i6 r39.1.Body,i6 r39.1.Else,i6 r39.1.At]) ⟨_,_,rfl,rfl,⟨_,_,rfl,rfl,⟨_,_,rfl,rfl,⟨_,_,rfl,⟨_,_,rfl,hc49,hr50⟩,⟨_,_,rfl,⟨_,_,rfl,hc53,hr54⟩,⟨_,_,rfl,rfl,⟨_,_,rfl,rfl,⟨_,_,rfl,rfl,rfl⟩⟩⟩⟩⟩⟩⟩⟩ .nil)
 refine ⟨fun _=>(St.ldsX u i2 (sub_cons t1 sub_nil)),?_⟩
 refine da1 (i:=7) (by kernel_rfl) ?_
 refine di (i:=7) rfl<|m_app (α:=api_Stmt) (xs:=r39.2.Out) (ys:=([r39.1]:List api_Stmt)) o rfl u underlying46 info51 rfl (by decide) rfl rfl rfl t3 hv62 (u.rdO t0) hv65 h69 fun oa70 cap71 vs72 w a hv73 hU o=>?_
 replace u:=hU _ (.tail (.tail (.tail .head)))
 replace u:=u.drop .head
 refine ⟨fun _=>(St.ldsX u i2 (sub_cons t0 sub_nil)),?_⟩
 refine ds 8 (St.ldsX u i2 (sub_cons t0 sub_nil)) o rfl (e_nilp o rfl) fun a o=>ds 9 (St.ldsX u i2 (sub_cons t0 sub_nil)) o rfl (e_fa o fa171_4 rfl) fun a o=>da1 (i:=10) (by kernel_rfl) ?_
 refine di (i:=10) rfl<|s_blk o u sizeOf46 rfl rfl rfl rfl (.tail .head) (.succ (.succ (.succ (.succ .zero)))) fun w u=>⟨fun _=>(St.ldsX u i2 (sub_cons t0 sub_nil)),?_⟩
 refine de (by kernel_rfl)<|tn<|?_
 replace u:=u.pk [2,1,0] rfl
 exact ⟨l68,oa70,cap71,vs72,hm,o.hs,u,hv73⟩
 refine di (i:=5) rfl<|q1 o rfl (e_ldA o isAgg51 sizeOf51 rfl rfl ((St.ld u).cellsB t0)) fun a o=>⟨fun _=>(St.ldsX u i2 (sub_cons t0 sub_nil)),?_⟩
 refine da2 (i:=4) (j:=6) (by kernel_rfl) ?_ ?_
 refine di (i:=4) rfl<|q1 o rfl (e_ld o isAgg46 rfl ((St.ld u).cellB t1 rfl)) fun a o=>⟨fun _=>(St.ldsX u i2 (sub_cons t0 sub_nil)),?_⟩
 refine da1 (i:=6) (by kernel_rfl) ?_
 refine di (i:=6) rfl<|a_bsl (e:=51) (sz:=9) [i6 r39.1.Kind,strv r39.1.Reg,strv r39.1.Name,.slice oa47 r39.1.E.length cap48,.slice oa51 r39.1.F.length cap52,i6 r39.1.N,i6 r39.1.Body,i6 r39.1.Else,i6 r39.1.At] o rfl u rfl rfl rfl (fun w=>by kernel_rfl) fun b66 w a u o=>?_
 have hv65:Rows (α:=api_Stmt) H44 [i6 r39.1.Kind,strv r39.1.Reg,strv r39.1.Name,.slice oa47 r39.1.E.length cap48,.slice oa51 r39.1.F.length cap52,i6 r39.1.N,i6 r39.1.Body,i6 r39.1.Else,i6 r39.1.At] ([r39.1]:List api_Stmt):=(.cons (c:=[i6 r39.1.Kind,strv r39.1.Reg,strv r39.1.Name,.slice oa47 r39.1.E.length cap48,.slice oa51 r39.1.F.length cap52,i6 r39.1.N,i6 r39.1.Body,i6 r39.1.Else,i6 r39.1.At]) ⟨_,_,rfl,rfl,⟨_,_,rfl,rfl,⟨_,_,rfl,rfl,⟨_,_,rfl,⟨_,_,rfl,hc49,hr50⟩,⟨_,_,rfl,⟨_,_,rfl,hc53,hr54⟩,⟨_,_,rfl,rfl,⟨_,_,rfl,rfl,⟨_,_,rfl,rfl,rfl⟩⟩⟩⟩⟩⟩⟩⟩ .nil)
 refine ⟨fun _=>(St.ldsX u i2 (sub_cons t1 sub_nil)),?_⟩
 refine da1 (i:=7) (by kernel_rfl) ?_
 refine di (i:=7) rfl<|m_app (α:=api_Stmt) (xs:=r39.2.Out) (ys:=([r39.1]:List api_Stmt)) o rfl u underlying46 info51 rfl (by decide) rfl rfl rfl t3 hv62 (u.rdO t0) hv65 h69 fun oa70 cap71 vs72 w a hv73 hU o=>?_
 replace u:=hU _ (.tail (.tail (.tail .head)))
 replace u:=u.drop .head
 refine ⟨fun _=>(St.ldsX u i2 (sub_cons t0 sub_nil)),?_⟩
 refine ds 8 (St.ldsX u i2 (sub_cons t0 sub_nil)) o rfl (e_nilp o rfl) fun a o=>ds 9 (St.ldsX u i2 (sub_cons t0 sub_nil)) o rfl (e_fa o fa171_4 rfl) fun a o=>da1 (i:=10) (by kernel_rfl) ?_
 refine di (i:=10) rfl<|s_blk o u sizeOf46 rfl rfl rfl rfl (.tail .head) (.succ (.succ (.succ (.succ .zero)))) fun w u=>⟨fun _=>(St.ldsX u i2 (sub_cons t0 sub_nil)),?_⟩
 refine de (by kernel_rfl)<|tn<|?_
 replace u:=u.pk [2,1,0] rfl
 exact ⟨l68,oa70,cap71,vs72,hm,o.hs,u,hv73⟩
 refine di (i:=6) rfl<|a_bsl (e:=51) (sz:=9) [i6 r39.1.Kind,strv r39.1.Reg,strv r39.1.Name,.slice oa47 r39.1.E.length cap48,.slice oa51 r39.1.F.length cap52,i6 r39.1.N,i6 r39.1.Body,i6 r39.1.Else,i6 r39.1.At] o rfl u rfl rfl rfl (fun w=>by kernel_rfl) fun b66 w a u o=>?_
 have hv65:Rows (α:=api_Stmt) H44 [i6 r39.1.Kind,strv r39.1.Reg,strv r39.1.Name,.slice oa47 r39.1.E.length cap48,.slice oa51 r39.1.F.length cap52,i6 r39.1.N,i6 r39.1.Body,i6 r39.1.Else,i6 r39.1.At] ([r39.1]:List api_Stmt):=(.cons (c:=[i6 r39.1.Kind,strv r39.1.Reg,strv r39.1.Name,.slice oa47 r39.1.E.length cap48,.slice oa51 r39.1.F.length cap52,i6 r39.1.N,i6 r39.1.Body,i6 r39.1.Else,i6 r39.1.At]) ⟨_,_,rfl,rfl,⟨_,_,rfl,rfl,⟨_,_,rfl,rfl,⟨_,_,rfl,⟨_,_,rfl,hc49,hr50⟩,⟨_,_,rfl,⟨_,_,rfl,hc53,hr54⟩,⟨_,_,rfl,rfl,⟨_,_,rfl,rfl,⟨_,_,rfl,rfl,rfl⟩⟩⟩⟩⟩⟩⟩⟩ .nil)
 refine ⟨fun _=>(St.ldsX u i2 (sub_cons t1 sub_nil)),?_⟩
 refine da1 (i:=4) (by kernel_rfl) ?_
 refine di (i:=4) rfl<|q1 o rfl (e_ld o isAgg46 rfl ((St.ld u).cellB t2 rfl)) fun a o=>⟨fun _=>(St.ldsX u i2 (sub_cons t1 sub_nil)),?_⟩
 refine da1 (i:=7) (by kernel_rfl) ?_
 refine di (i:=7) rfl<|m_app (α:=api_Stmt) (xs:=r39.2.Out) (ys:=([r39.1]:List api_Stmt)) o rfl u underlying46 info51 rfl (by decide) rfl rfl rfl t3 hv62 (u.rdO t0) hv65 h69 fun oa70 cap71 vs72 w a hv73 hU o=>?_
 replace u:=hU _ (.tail (.tail (.tail .head)))
 replace u:=u.drop .head
 refine ⟨fun _=>(St.ldsX u i2 (sub_cons t0 sub_nil)),?_⟩
 refine ds 8 (St.ldsX u i2 (sub_cons t0 sub_nil)) o rfl (e_nilp o rfl) fun a o=>ds 9 (St.ldsX u i2 (sub_cons t0 sub_nil)) o rfl (e_fa o fa171_4 rfl) fun a o=>da1 (i:=10) (by kernel_rfl) ?_
 refine di (i:=10) rfl<|s_blk o u sizeOf46 rfl rfl rfl rfl (.tail .head) (.succ (.succ (.succ (.succ .zero)))) fun w u=>⟨fun _=>(St.ldsX u i2 (sub_cons t0 sub_nil)),?_⟩
 refine de (by kernel_rfl)<|tn<|?_
 replace u:=u.pk [2,1,0] rfl
 exact ⟨l68,oa70,cap71,vs72,hm,o.hs,u,hv73⟩
 rintro a w ⟨vA3,oaA4,capA5,vsA6,hm,o,u,hvA7⟩
 unfold Z3q at hm
 refine th<|th<|rg<|qm o rfl fun a o=>qv o (e_neq o rfl rfl) fun a o=>qm o rfl fun a o=>grp (N:=134) (Fk:=[(0,.pointer (some ⟨b2,0,none⟩)),(1,i6 p12),(2,i6 p13),(6,i6 vA1),(9,.pointer (some ⟨b64,0,none⟩)),(10,i6 (r39.2.Out.length:Int)),(79,.bool ((decide (vA1≠11)) && (decide (vA1≠12))))]) (b:=(decide (vA1≠11))) 3 u ?_ ?_ ?_
 intro hb key
 replace o:=Fr.as o (t:=76) rfl (congrArg Value.bool hb)
 refine qg o (e_move o rfl) fun a o=>qg o (e_neq o rfl rfl) fun a o=>qv o (e_as (v':=.bool ((decide (vA1≠11)) && (decide (vA1≠12)))) (e_pickT o rfl rfl) (by rw [hb];rfl)) fun a o=>?_
 exact key _ _ (o.hs) u
 intro hb key
 replace o:=Fr.as o (t:=76) rfl (congrArg Value.bool hb)
 iterate 2 refine qn o fun a o=>?_
 refine qv o (e_as (v':=.bool ((decide (vA1≠11)) && (decide (vA1≠12)))) (e_pickF o rfl rfl) (by rw [hb];rfl)) fun a o=>?_
 exact key _ _ (o.hs) u
 intro a w o u
 refine re<|?_
 rcases bdich ((decide (vA1≠11)) && (decide (vA1≠12))) with hb74 | hb74
 replace hm:=ite_t hm hb74
 refine tn<|ctv o rfl hb74<|th<|?_
 obtain ⟨r75,h76,hm⟩:=bs hm
 refine rg<|qm o rfl fun a o=>?_
 replace u:=u.pk [1,0,0] rfl
 replace u:=St.sep [blk b2 (.cells [.slice oa55 r39.2.L.length cap56,i6 r39.2.At,i6 r39.2.E,i6 r39.2.Pos,.slice oaA4 vA3.length capA5].toArray 171 (0,0)),sla 51 9 oaA4 vA3.length capA5 vsA6] u
 refine ls<|c1 o rfl call161 (Z3i_c (St.le u) (p1:=(leadlineref04_P.mk r39.2.L r39.2.At r39.2.E r39.2.Pos vA3)) (b2:=b2) (oa3:=oa55) (cap4:=cap56) (oa7:=oaA4) (cap8:=capA5) (vs9:=vsA6) hc57 hr58 hvA7 (St.sepOk u) (St.sepDis u) h76) ⟨rfl,rfl,trivial⟩ (fun v w a hR o=>?_)
 obtain ⟨H80,oa81,cap82,oa85,cap86,vs87,rfl,hc83,hr84,hv88,hx77,hl78,hd79,hk⟩:=hR
 obtain ⟨u,hx77⟩:=And.intro (St.mutH u hk hx77 hl78 hd79) (St.extcMM u hx77)
 replace u:=u.unsep
 refine re<|tn<|wr<|tr<|?_
 obtain rfl:=si hm
 exact r0 o results160 ⟨H80,oa81,cap82,oa85,cap86,vs87,rfl,hc83,hr84,hv88,(ExtM.trans hx41 hx77),(St.le u),(St.disL (u.pickL (.cons .head (.cons .head .nil)))),(u.pickL (.cons .head (.cons .head .nil))).endMut⟩
 replace hm:=ite_f hm hb74
 refine tn<|cfv o rfl hb74<|wk<|tn<|th<|rg<|qm o rfl fun a o=>qa o rfl fun a o=>re<|tn<|th<|th<|rg<|qm o rfl fun a o=>qv o (e_eql o rfl rfl) fun a o=>re<|tn<|midK (fun a w=>∃ (vA9:Int),(Z3r (Z3b N) N p12 vA1 r39 vA3) vA9=some r∧Fr 134 [(0,.pointer (some ⟨b2,0,none⟩)),(1,i6 p12),(6,i6 vA1),(9,.pointer (some ⟨b64,0,none⟩)),(10,i6 (r39.2.Out.length:Int)),(11,i6 vA9)] a∧St w0 (sepA [blk b2 (.cells [.slice oa3 p1.L.length cap4,i6 p1.At,i6 p1.E,i6 p1.Pos,.slice oa7 p1.Out.length cap8].toArray 171 (0,0)),sla 51 9 oa7 p1.Out.length cap8 vs9]).fp [H44] [sla 51 9 oaA4 vA3.length capA5 vsA6,blk b2 (.cells [.slice oa55 r39.2.L.length cap56,i6 r39.2.At,i6 r39.2.E,i6 r39.2.Pos,.slice oaA4 vA3.length capA5].toArray 171 (0,0)),blk b64 (.cells [i6 r39.1.Kind,strv r39.1.Reg,strv r39.1.Name,.slice oa47 r39.1.E.length cap48,.slice oa51 r39.1.F.length cap52,i6 r39.1.N,i6 r39.1.Body,i6 r39.1.Else,i6 r39.1.At].toArray 51 (0,0))] w) ?_ ?_
 rcases bdich (decide (vA1=12)) with hb90 | hb90
 replace hm:=itp_t hm hb90
 refine ctv o rfl hb90<|rg<|qm o rfl fun a o=>qv o (e_add o rfl rfl) fun a o=>qa o rfl fun a o=>re<|tn<|?_
 exact ⟨(IntKind.i64.wrap (p13+1)),hm,o.hs,u⟩
 replace hm:=itp_f hm hb90
 refine cfv o rfl hb90<|wk<|tn<|?_
 exact ⟨p13,hm,o.hs,u⟩
 rintro a w ⟨vA9,hm,o,u⟩
 unfold Z3r at hm
 refine th<|?_
 obtain ⟨r91,h92,hm⟩:=bs hm
 refine rg<|qm o rfl fun a o=>qm o rfl fun a o=>qv o (e_add o rfl rfl) fun a o=>qm o rfl fun a o=>?_
 replace u:=u.pk [1,0,0] rfl
 replace u:=St.sep [blk b2 (.cells [.slice oa55 r39.2.L.length cap56,i6 r39.2.At,i6 r39.2.E,i6 r39.2.Pos,.slice oaA4 vA3.length capA5].toArray 171 (0,0)),sla 51 9 oaA4 vA3.length capA5 vsA6] u
 refine ls<|c1 o rfl call169 (ih_Z3b (St.le u) (p1:=(leadlineref04_P.mk r39.2.L r39.2.At r39.2.E r39.2.Pos vA3)) (b2:=b2) (oa3:=oa55) (cap4:=cap56) (oa7:=oaA4) (cap8:=capA5) (vs9:=vsA6) hc57 hr58 hvA7 (St.sepOk u) (St.sepDis u) h92) ⟨rfl,rfl,rfl,trivial⟩ (fun v w a hR o=>?_)
 obtain ⟨H96,oa97,cap98,oa101,cap102,vs103,rfl,hc99,hr100,hv104,hx93,hl94,hd95,hk⟩:=hR
 obtain ⟨u,hx93⟩:=And.intro (St.mutH u hk hx93 hl94 hd95) (St.extcMM u hx93)
 replace u:=u.unsep
 refine qv o (e_fa o fa51_6 rfl) fun a o=>ls<|s_blk o u sizeOf3 rfl rfl rfl rfl (.tail (.tail .head)) (.succ (.succ (.succ (.succ (.succ (.succ .zero)))))) fun w u=>re<|tn<|th<|th<|midK (fun a w=>∃ (vA10:Bool),(Z3s (Z3b N) N p12 r39 vA9 r91) vA10=some r∧Fr 134 [(0,.pointer (some ⟨b2,0,none⟩)),(1,i6 p12),(9,.pointer (some ⟨b64,0,none⟩)),(10,i6 (r39.2.Out.length:Int)),(11,i6 vA9),(112,.bool vA10)] a∧St w0 (sepA [blk b2 (.cells [.slice oa3 p1.L.length cap4,i6 p1.At,i6 p1.E,i6 p1.Pos,.slice oa7 p1.Out.length cap8].toArray 171 (0,0)),sla 51 9 oa7 p1.Out.length cap8 vs9]).fp [H96] [sla 51 9 oa101 r91.2.Out.length cap102 vs103,blk b2 (.cells [.slice oa97 r91.2.L.length cap98,i6 r91.2.At,i6 r91.2.E,i6 r91.2.Pos,.slice oa101 r91.2.Out.length cap102].toArray 171 (0,0)),blk b64 (.cells [i6 r39.1.Kind,strv r39.1.Reg,strv r39.1.Name,.slice oa47 r39.1.E.length cap48,.slice oa51 r39.1.F.length cap52,i6 r39.1.N,i6 r91.1,i6 r39.1.Else,i6 r39.1.At].toArray 51 (0,0))] w) ?_ ?_
 rcases bdich (decide (vA1=11)) with hb106 | hb106
 replace hm:=itp_t hm hb106
 rcases bdich (decide (r91.2.E=0)) with hb107 | hb107
 replace hm:=itp_t hm hb107
 obtain ⟨r108,h109,hm⟩:=bs hm
 refine rdS 20 u wide fun w u=>dr 0 u o rfl (e_move o rfl) fun a o=>dr 1 u o rfl (e_eql o rfl rfl) fun a o=>dr 2 u o rfl (e_as (e_move o rfl) (congrArg Value.bool hb106)) fun a o=>dg 3 (St.ld u) o rfl (fun w hl=>e_move o rfl) fun a o=>dg 4 (St.ld u) o rfl (fun w hl=>e_nilp o rfl) fun a o=>dg 5 (St.ld u) o rfl (fun w hl=>e_fa o fa171_2 rfl) fun a o=>dg 6 (St.ld u) o rfl (fun w hl=>e_ld o isAgg29 rfl (hl.cellB t0 rfl)) fun a o=>dg 7 (St.ld u) o rfl (fun w hl=>e_eql o rfl rfl) fun a o=>dr 8 u o rfl (e_pickT o rfl rfl) fun a o=>dr 9 u o rfl (e_as (e_move o rfl) (congrArg Value.bool hb107)) fun a o=>dg 10 (St.ld u) o rfl (fun w hl=>e_move o rfl) fun a o=>dg 11 (St.ld u) o rfl (fun w hl=>e_nilp o rfl) fun a o=>dg 12 (St.ld u) o rfl (fun w hl=>e_fa o fa171_0 rfl) fun a o=>dg 13 (St.ld u) o rfl (fun w hl=>e_ld o isAgg120 rfl (hl.cellB t0 rfl)) fun a o=>dg 14 (St.ld u) o rfl (fun w hl=>e_move o rfl) fun a o=>dg 15 (St.ld u) o rfl (fun w hl=>e_nilp o rfl) fun a o=>dg 16 (St.ld u) o rfl (fun w hl=>e_fa o fa171_1 rfl) fun a o=>dg 17 (St.ld u) o rfl (fun w hl=>e_ld o isAgg3 rfl (hl.cellB t0 rfl)) fun a o=>da1 (i:=18) (by kernel_rfl) ?_
 refine di (i:=18) rfl<|gy o rfl rfl<|cq o call139 (Z1i_c (hp_le _) hc99 (St.srH u hr100) h109) ⟨rfl,rfl,rfl,trivial⟩ u fun w a u o=>⟨fun _=>(St.ld u),?_⟩
 refine dr 19 u o rfl (e_pickT o rfl rfl) fun a o=>de (by kernel_rfl)<|tn<|?_
 replace u:=u.pk [1,0,0] rfl
 exact ⟨r108,hm,o.hs,u⟩
 replace hm:=itp_f hm hb107
 refine rxS 20 u wide (by kernel_rfl) fun w u=>xm u o rfl fun a o=>xr u o (e_eql o rfl rfl) fun a o=>xr u o (e_as (e_move o rfl) (congrArg Value.bool hb106)) fun a o=>xg (St.ld u) o (fun w hl=>e_move o rfl) fun a o=>xg (St.ld u) o (fun w hl=>e_nilp o rfl) fun a o=>xg (St.ld u) o (fun w hl=>e_fa o fa171_2 rfl) fun a o=>xg (St.ld u) o (fun w hl=>e_ld o isAgg29 rfl (hl.cellB t0 rfl)) fun a o=>xg (St.ld u) o (fun w hl=>e_eql o rfl rfl) fun a o=>xr u o (e_pickT o rfl rfl) fun a o=>xr u o (e_as (e_move o rfl) (congrArg Value.bool hb107)) fun a o=>?_
 iterate 9 refine xn (St.ld u) o fun a o=>?_
 refine xr u o (e_pickF o rfl rfl) fun a o=>xe<|tn<|?_
 replace u:=u.pk [1,0,0] rfl
 exact ⟨false,hm,o.hs,u⟩
 replace hm:=itp_f hm hb106
 refine rxS 20 u wide (by kernel_rfl) fun w u=>xm u o rfl fun a o=>xr u o (e_eql o rfl rfl) fun a o=>xr u o (e_as (e_move o rfl) (congrArg Value.bool hb106)) fun a o=>?_
 iterate 5 refine xn (St.ld u) o fun a o=>?_
 refine xr u o (e_pickF o rfl rfl) fun a o=>xm u o rfl fun a o=>?_
 iterate 9 refine xn (St.ld u) o fun a o=>?_
 refine xr u o (e_pickF o rfl rfl) fun a o=>xe<|tn<|?_
 replace u:=u.pk [1,0,0] rfl
 exact ⟨false,hm,o.hs,u⟩
 rintro a w ⟨vA10,hm,o,u⟩
 unfold Z3s at hm
 refine midK (fun a w=>∃ (vA12:(List api_Token)) (vA17:Int) (vA18:Int) (vA19:Int) (vA20:(List api_Stmt)) (vA26:Int) (HA11:PH) (oaA13:Option Addr) (capA14:Nat) (oaA21:Option Addr) (capA22:Nat) (vsA23:List Value),(Z3t N r39 r91) vA12 vA17 vA18 vA19 vA20 vA26=some r∧ExtM w0 (sepA [blk b2 (.cells [.slice oa3 p1.L.length cap4,i6 p1.At,i6 p1.E,i6 p1.Pos,.slice oa7 p1.Out.length cap8].toArray 171 (0,0)),sla 51 9 oa7 p1.Out.length cap8 vs9]).fp H96 HA11∧Fr 134 [(0,.pointer (some ⟨b2,0,none⟩)),(9,.pointer (some ⟨b64,0,none⟩)),(10,i6 (r39.2.Out.length:Int))] a∧St w0 (sepA [blk b2 (.cells [.slice oa3 p1.L.length cap4,i6 p1.At,i6 p1.E,i6 p1.Pos,.slice oa7 p1.Out.length cap8].toArray 171 (0,0)),sla 51 9 oa7 p1.Out.length cap8 vs9]).fp [HA11] [sla 51 9 oaA21 vA20.length capA22 vsA23,blk b2 (.cells [.slice oaA13 vA12.length capA14,i6 vA17,i6 vA18,i6 vA19,.slice oaA21 vA20.length capA22].toArray 171 (0,0)),blk b64 (.cells [i6 r39.1.Kind,strv r39.1.Reg,strv r39.1.Name,.slice oa47 r39.1.E.length cap48,.slice oa51 r39.1.F.length cap52,i6 r39.1.N,i6 r91.1,i6 vA26,i6 r39.1.At].toArray 51 (0,0))] w∧vA12.length≤capA14∧SR HA11 oaA13 vA12∧Rows HA11 vsA23 vA20) ?_ ?_
 rcases bdich vA10 with hb110 | hb110
 replace hm:=ite_t hm hb110
 refine ctv o rfl hb110<|th<|rg<|qm o rfl fun a o=>qm o rfl fun a o=>qv o (e_nilp o rfl) fun a o=>qv o (e_fa o fa171_1 rfl) fun a o=>qv o (e_ld o isAgg3 rfl ((St.ld u).cellB t1 rfl)) fun a o=>qv o (e_add o rfl rfl) fun a o=>qv o (e_nilp o rfl) fun a o=>qv o (e_fa o fa171_1 rfl) fun a o=>ls<|s_blk o u sizeOf3 rfl rfl rfl rfl (.tail .head) (.succ .zero) fun w u=>re<|tn<|?_
 obtain ⟨r111,h112,hm⟩:=bs hm
 refine rg<|qm o rfl fun a o=>qm o rfl fun a o=>qv o (e_add o rfl rfl) fun a o=>qm o rfl fun a o=>?_
 replace u:=u.pk [1,0,0] rfl
 replace u:=St.sep [blk b2 (.cells [.slice oa97 r91.2.L.length cap98,i6 (IntKind.i64.wrap (r91.2.At+1)),i6 r91.2.E,i6 r91.2.Pos,.slice oa101 r91.2.Out.length cap102].toArray 171 (0,0)),sla 51 9 oa101 r91.2.Out.length cap102 vs103] u
 refine ls<|c1 o rfl call169 (ih_Z3b (St.le u) (p1:=(leadlineref04_P.mk r91.2.L (IntKind.i64.wrap (r91.2.At+1)) r91.2.E r91.2.Pos r91.2.Out)) (b2:=b2) (oa3:=oa97) (cap4:=cap98) (oa7:=oa101) (cap8:=cap102) (vs9:=vs103) hc99 hr100 hv104 (St.sepOk u) (St.sepDis u) h112) ⟨rfl,rfl,rfl,trivial⟩ (fun v w a hR o=>?_)
 obtain ⟨H116,oa117,cap118,oa121,cap122,vs123,rfl,hc119,hr120,hv124,hx113,hl114,hd115,hk⟩:=hR
 obtain ⟨u,hx113⟩:=And.intro (St.mutH u hk hx113 hl114 hd115) (St.extcMM u hx113)
 replace u:=u.unsep
 refine qv o (e_fa o fa51_7 rfl) fun a o=>ls<|s_blk o u sizeOf3 rfl rfl rfl rfl (.tail (.tail .head)) (.succ (.succ (.succ (.succ (.succ (.succ (.succ .zero))))))) fun w u=>re<|tn<|?_
 replace u:=u.pk [1,0,0] rfl
 exact ⟨r111.2.L,r111.2.At,r111.2.E,r111.2.Pos,r111.2.Out,r111.1,H116,oa117,cap118,oa121,cap122,vs123,hm,hx113,o.hs,u,hc119,hr120,hv124⟩
 replace hm:=ite_f hm hb110
 refine cfv o rfl hb110<|wk<|tn<|?_
 exact ⟨r91.2.L,r91.2.At,r91.2.E,r91.2.Pos,r91.2.Out,r39.1.Else,H96,oa97,cap98,oa101,cap102,vs103,hm,(ExtM.refl _ _ _),o.hs,u,hc99,hr100,hv104⟩
 rintro a w ⟨vA12,vA17,vA18,vA19,vA20,vA26,HA11,oaA13,capA14,oaA21,capA22,vsA23,hm,hxHA11,o,u,hcA15,hrA16,hvA24⟩
 unfold Z3t at hm
 obtain ⟨x126,h127,hm⟩:=bs hm
 have ho128:=Rd.oaI (u.rdO t0) hvA24 (by decide) h127
 obtain ⟨l129,h130,hm⟩:=bs hm
 refine rxS 7 u wide (by kernel_rfl) fun w u=>xm u o rfl fun a o=>xr u o (e_nilp o rfl) fun a o=>xr u o (e_fa o fa171_4 rfl) fun a o=>xq (St.ld u) o (fun w hl=>e_ld o isAgg46 rfl (hl.cellB t1 rfl)) fun a o=>xm u o rfl fun a o=>xq (St.ld u) o (fun w hl=>e_ldA o isAgg51 sizeOf51 rfl rfl (hl.cellsB t2)) fun a o=>xr u o (e_iaI o runUnderlying46 sizeOf51 rfl rfl h127 ho128) fun a o=>?_
 have hn133:=setI_len h130
 refine xz rfl<|s_slW (α:=api_Stmt) o u sizeOf51 rfl rfl rfl hvA24 (show Enc.rep (α:=api_Stmt) HA11 [i6 r39.1.Kind,strv r39.1.Reg,strv r39.1.Name,.slice oa47 r39.1.E.length cap48,.slice oa51 r39.1.F.length cap52,i6 r39.1.N,i6 r91.1,i6 vA26,i6 r39.1.At] (api_Stmt.mk r39.1.Kind r39.1.Reg r39.1.Name r39.1.E r39.1.F r39.1.N r91.1 vA26 r39.1.At) from ⟨_,_,rfl,rfl,⟨_,_,rfl,rfl,⟨_,_,rfl,rfl,⟨_,_,rfl,⟨_,_,rfl,hc49,(hr50.mono (cp hxHA11.sub hx93.sub))⟩,⟨_,_,rfl,⟨_,_,rfl,hc53,(hr54.mono (cp hxHA11.sub hx93.sub))⟩,⟨_,_,rfl,rfl,⟨_,_,rfl,rfl,⟨_,_,rfl,rfl,rfl⟩⟩⟩⟩⟩⟩⟩⟩) h130 t0 fun vs131 w hv132 hU=>?_
 replace u:=hU _ .head
 replace u:=St.eqL u (A':=blk b2 (.cells [.slice oaA13 vA12.length capA14,i6 vA17,i6 vA18,i6 vA19,.slice oaA21 l129.length capA22].toArray 171 (0,0))) (.tail .head) (by rw [hn133])
 obtain rfl:=si hm
 exact r0n o results160 ⟨HA11,oaA13,capA14,oaA21,capA22,vs131,rfl,hcA15,hrA16,hv132,(ExtM.trans hx41 (ExtM.trans hx93 hxHA11)),(St.le u),(St.disL (u.pickL (.cons (.tail .head) (.cons .head .nil)))),(u.pickL (.cons (.tail .head) (.cons .head .nil))).endMut⟩
theorem Z3m_c:∀ (N:Nat) {w0:World} {H:PH} (_:H.le w0) {b2:Nat} {p1:leadlineref04_P} {oa3:Option Addr} {cap4:Nat} (_:p1.L.length≤cap4) (_:SR H oa3 p1.L) {oa7:Option Addr} {cap8:Nat} {vs9:List Value} (_:Rows H vs9 p1.Out) {p12:Int} {p13:Int} (_:(sepA [blk b2 (.cells [.slice oa3 p1.L.length cap4,i6 p1.At,i6 p1.E,i6 p1.Pos,.slice oa7 p1.Out.length cap8].toArray 171 (0,0)),sla 51 9 oa7 p1.Out.length cap8 vs9]).ok (hp w0)) (_:∀ b,(sepA [blk b2 (.cells [.slice oa3 p1.L.length cap4,i6 p1.At,i6 p1.E,i6 p1.Pos,.slice oa7 p1.Out.length cap8].toArray 171 (0,0)),sla 51 9 oa7 p1.Out.length cap8 vs9]).fp b→H b=none) {r:leadlineref04_P} (_:Z3m N p1 p12 p13=some r),Tot Tryz.prog 160 #[.pointer (some ⟨b2,0,none⟩),i6 p12,i6 p13] w0 (fun v w'=>∃ (H':PH) (oa1m:Option Addr) (cap1m:Nat) (oa2m:Option Addr) (cap2m:Nat) (vs2m:List Value),v=.tuple #[]∧r.L.length≤cap1m∧SR H' oa1m r.L∧Rows H' vs2m r.Out∧ExtM w0 (sepA [blk b2 (.cells [.slice oa3 p1.L.length cap4,i6 p1.At,i6 p1.E,i6 p1.Pos,.slice oa7 p1.Out.length cap8].toArray 171 (0,0)),sla 51 9 oa7 p1.Out.length cap8 vs9]).fp H H'∧H'.le w'∧(∀ b,(sepA [blk b2 (.cells [.slice oa1m r.L.length cap1m,i6 r.At,i6 r.E,i6 r.Pos,.slice oa2m r.Out.length cap2m].toArray 171 (0,0)),sla 51 9 oa2m r.Out.length cap2m vs2m]).fp b→H' b=none)∧Mut w0 (sepA [blk b2 (.cells [.slice oa3 p1.L.length cap4,i6 p1.At,i6 p1.E,i6 p1.Pos,.slice oa7 p1.Out.length cap8].toArray 171 (0,0)),sla 51 9 oa7 p1.Out.length cap8 vs9]) (sepA [blk b2 (.cells [.slice oa1m r.L.length cap1m,i6 r.At,i6 r.E,i6 r.Pos,.slice oa2m r.Out.length cap2m].toArray 171 (0,0)),sla 51 9 oa2m r.Out.length cap2m vs2m]) w'):=fun N=>(Z3m_g N).2
theorem Z41_c (hH:H.le w0) {oa2:Option Addr} {cap3:Nat} {p1:(List api_Token)} (hc4:p1.length≤cap3) (hr5:SR H oa2 p1) {p6:Int} {p7:Int} {r:((List api_Stmt)×Int×Int×Int)} (hm:Z41 N p1 p6 p7=some r):Tot Tryz.prog 141 #[.slice oa2 p1.length cap3,i6 p6,i6 p7] w0 (fun v w'=>∃ (H':PH) (oa0:Option Addr) (cap0:Nat),v=.tuple #[.slice oa0 r.1.length cap0,i6 r.2.1,i6 r.2.2.1,i6 r.2.2.2]∧r.1.length≤cap0∧SR H' oa0 r.1∧Ext w0 H H'∧H'.le w'∧Keep Nil w0 w'):=by
 unfold Z41 at hm
 refine fn0 func141 rfl ntmps141 rfl rfl fun a o=>?_
 have u:St w0 Nil [H] [] w0:=start1 hH
 refine th<|rg<|qa o rfl fun a o=>?_
 iterate 3 refine qa o rfl fun a o=>?_
 refine re<|tn<|th<|rg<|qm o rfl fun a o=>qm o rfl fun a o=>qv o (e_bldK [.slice oa2 p1.length cap3,i6 p6] [.slice oa2 p1.length cap3,i6 p6,i6 0,i6 0,.slice none 0 0] o ⟨rfl,rfl,trivial⟩ (fun w=>by kernel_rfl)) fun a o=>ls<|a_box (cs:=[.slice oa2 p1.length cap3,i6 p6,i6 0,i6 0,.slice none 0 0].toArray) o rfl u rfl rfl fun b8 w a u o=>qa o rfl fun a o=>re<|tn<|th<|midK (fun a w=>∃ (vA2:(List api_Token)) (vA7:Int) (vA8:Int) (vA9:Int) (vA10:(List api_Stmt)) (HA1:PH) (oaA3:Option Addr) (capA4:Nat) (oaA11:Option Addr) (capA12:Nat) (vsA13:List Value),(Z42 N p1 p7) vA2 vA7 vA8 vA9 vA10=some r∧Ext w0 H HA1∧Fr 68 [(0,.slice oa2 p1.length cap3),(2,i6 p7),(10,.pointer (some ⟨b8,0,none⟩))] a∧St w0 Nil [HA1] [sla 51 9 oaA11 vA10.length capA12 vsA13,blk b8 (.cells [.slice oaA3 vA2.length capA4,i6 vA7,i6 vA8,i6 vA9,.slice oaA11 vA10.length capA12].toArray 171 (0,0))] w∧vA2.length≤capA4∧SR HA1 oaA3 vA2∧Rows HA1 vsA13 vA10) ?_ ?_
 replace u:=St.nilS u 51 9
 refine wb<|lp (α:=Nat×(List api_Token)×Int×Int×Int×(List api_Stmt)) (fun gh a w=>match gh with | (nn2,vB2,vB7,vB8,vB9,vB10)=>∃ (HB1:PH) (oaB3:Option Addr) (capB4:Nat) (oaB11:Option Addr) (capB12:Nat) (vsB13:List Value),(Z44 N (Z42 N p1 p7)) nn2 vB2 vB7 vB8 vB9 vB10=some r∧Ext w0 H HB1∧Fr 68 [(0,.slice oa2 p1.length cap3),(2,i6 p7),(10,.pointer (some ⟨b8,0,none⟩))] a∧St w0 Nil [HB1] [sla 51 9 oaB11 vB10.length capB12 vsB13,blk b8 (.cells [.slice oaB3 vB2.length capB4,i6 vB7,i6 vB8,i6 vB9,.slice oaB11 vB10.length capB12].toArray 171 (0,0))] w∧vB2.length≤capB4∧SR HB1 oaB3 vB2∧Rows HB1 vsB13 vB10) (fun gh=>gh.1) (N,p1,p6,0,0,[]) ⟨H,oa2,cap3,none,0,[],hm,(Ext.refl _ _),o.hs,u,hc4,hr5,.nil⟩ ?_
 rintro ⟨nn2,vB2,vB7,vB8,vB9,vB10⟩ a w ⟨HB1,oaB3,capB4,oaB11,capB12,vsB13,hm,hxHB1,o,u,hcB5,hrB6,hvB14⟩
 obtain _ | nn2:=nn2
 simp [Z44] at hm
 rw [Z44] at hm
 refine th<|th<|midK (fun a w=>∃ (vC1:Bool),(Z43 N (Z42 N p1 p7) (Z44 N (Z42 N p1 p7) nn2) vB2 vB7 vB8 vB9 vB10) vC1=some r∧Fr 68 [(0,.slice oa2 p1.length cap3),(2,i6 p7),(10,.pointer (some ⟨b8,0,none⟩)),(31,.bool vC1)] a∧St w0 Nil [HB1] [sla 51 9 oaB11 vB10.length capB12 vsB13,blk b8 (.cells [.slice oaB3 vB2.length capB4,i6 vB7,i6 vB8,i6 vB9,.slice oaB11 vB10.length capB12].toArray 171 (0,0))] w) ?_ ?_
 rcases bdich (decide (vB8=0)) with hb9 | hb9
 replace hm:=itp_t hm hb9
 obtain ⟨r10,h11,hm⟩:=bs hm
 refine rdS 17 u wide fun w u=>dr 0 u o rfl (e_move o rfl) fun a o=>dr 1 u o rfl (e_nilp o rfl) fun a o=>dr 2 u o rfl (e_fa o fa171_2 rfl) fun a o=>dq 3 (St.ld u) o rfl (fun w hl=>e_ld o isAgg29 rfl (hl.cellB t1 rfl)) fun a o=>dr 4 u o rfl (e_eql o rfl rfl) fun a o=>dr 5 u o rfl (e_as (e_move o rfl) (congrArg Value.bool hb9)) fun a o=>dg 6 (St.ld u) o rfl (fun w hl=>e_move o rfl) fun a o=>dg 7 (St.ld u) o rfl (fun w hl=>e_nilp o rfl) fun a o=>dg 8 (St.ld u) o rfl (fun w hl=>e_fa o fa171_0 rfl) fun a o=>dg 9 (St.ld u) o rfl (fun w hl=>e_ld o isAgg120 rfl (hl.cellB t1 rfl)) fun a o=>dg 10 (St.ld u) o rfl (fun w hl=>e_move o rfl) fun a o=>dg 11 (St.ld u) o rfl (fun w hl=>e_nilp o rfl) fun a o=>dg 12 (St.ld u) o rfl (fun w hl=>e_fa o fa171_1 rfl) fun a o=>dg 13 (St.ld u) o rfl (fun w hl=>e_ld o isAgg3 rfl (hl.cellB t1 rfl)) fun a o=>da1 (i:=14) (by kernel_rfl) ?_
 refine di (i:=14) rfl<|gy o rfl rfl<|cq o call139 (Z1i_c (hp_le _) hcB5 (St.srH u hrB6) h11) ⟨rfl,rfl,rfl,trivial⟩ u fun w a u o=>⟨fun _=>(St.ld u),?_⟩
 refine dg 15 (St.ld u) o rfl (fun w hl=>e_not o rfl) fun a o=>dr 16 u o rfl (e_pickT o rfl rfl) fun a o=>de (by kernel_rfl)<|tn<|?_
 exact ⟨(!r10),hm,o.hs,u⟩
 replace hm:=itp_f hm hb9
 refine rxS 17 u wide (by kernel_rfl) fun w u=>xm u o rfl fun a o=>xr u o (e_nilp o rfl) fun a o=>xr u o (e_fa o fa171_2 rfl) fun a o=>xq (St.ld u) o (fun w hl=>e_ld o isAgg29 rfl (hl.cellB t1 rfl)) fun a o=>xr u o (e_eql o rfl rfl) fun a o=>xr u o (e_as (e_move o rfl) (congrArg Value.bool hb9)) fun a o=>?_
 iterate 10 refine xn (St.ld u) o fun a o=>?_
 refine xr u o (e_pickF o rfl rfl) fun a o=>xe<|tn<|?_
 exact ⟨false,hm,o.hs,u⟩
 rintro a w ⟨vC1,hm,o,u⟩
 unfold Z43 at hm
 rcases bdich vC1 with hb12 | hb12
 replace hm:=ite_t hm hb12
 refine ctv o rfl hb12<|wk<|tn<|wb<|?_
 obtain ⟨r13,h14,hm⟩:=bs hm
 refine rg<|qm o rfl fun a o=>?_
 replace u:=u.pk [1,0] rfl
 replace u:=St.sep [blk b8 (.cells [.slice oaB3 vB2.length capB4,i6 vB7,i6 vB8,i6 vB9,.slice oaB11 vB10.length capB12].toArray 171 (0,0)),sla 51 9 oaB11 vB10.length capB12 vsB13] u
 refine ls<|c1 o rfl call160 (Z3m_c _ (St.le u) (p1:=(leadlineref04_P.mk vB2 vB7 vB8 vB9 vB10)) (b2:=b8) (oa3:=oaB3) (cap4:=capB4) (oa7:=oaB11) (cap8:=capB12) (vs9:=vsB13) hcB5 hrB6 hvB14 (St.sepOk u) (St.sepDis u) h14) ⟨rfl,rfl,rfl,trivial⟩ (fun v w a hR o=>?_)
 obtain ⟨H18,oa19,cap20,oa23,cap24,vs25,rfl,hc21,hr22,hv26,hx15,hl16,hd17,hk⟩:=hR
 obtain ⟨u,hx15⟩:=And.intro (St.mutH u hk hx15 hl16 hd17) (St.extc0 u hx15)
 replace u:=u.unsep
 refine re<|bn<|tn<|?_
 replace u:=u.pk [1,0] rfl
 exact ⟨(nn2,r13.L,r13.At,r13.E,r13.Pos,r13.Out),⟨H18,oa19,cap20,oa23,cap24,vs25,hm,(Ext.trans hxHB1 hx15),o.hs,u,hc21,hr22,hv26⟩,Nat.lt_succ_self _⟩
 replace hm:=ite_f hm hb12
 refine cfv o rfl hb12<|we<|tx<|tx<|bx<|tn<|?_
 exact ⟨vB2,vB7,vB8,vB9,vB10,HB1,oaB3,capB4,oaB11,capB12,vsB13,hm,hxHB1,o.hs,u,hcB5,hrB6,hvB14⟩
 rintro a w ⟨vA2,vA7,vA8,vA9,vA10,HA1,oaA3,capA4,oaA11,capA12,vsA13,hm,hxHA1,o,u,hcA5,hrA6,hvA14⟩
 unfold Z42 at hm
 refine th<|?_
 obtain ⟨r28,h29,hm⟩:=bs hm
 refine rg<|qm o rfl fun a o=>?_
 replace u:=u.pk [1,0] rfl
 replace u:=St.sep [blk b8 (.cells [.slice oaA3 vA2.length capA4,i6 vA7,i6 vA8,i6 vA9,.slice oaA11 vA10.length capA12].toArray 171 (0,0)),sla 51 9 oaA11 vA10.length capA12 vsA13] u
 refine ls<|c1 o rfl call161 (Z3i_c (St.le u) (p1:=(leadlineref04_P.mk vA2 vA7 vA8 vA9 vA10)) (b2:=b8) (oa3:=oaA3) (cap4:=capA4) (oa7:=oaA11) (cap8:=capA12) (vs9:=vsA13) hcA5 hrA6 hvA14 (St.sepOk u) (St.sepDis u) h29) ⟨rfl,rfl,trivial⟩ (fun v w a hR o=>?_)
 obtain ⟨H33,oa34,cap35,oa38,cap39,vs40,rfl,hc36,hr37,hv41,hx30,hl31,hd32,hk⟩:=hR
 obtain ⟨u,hx30⟩:=And.intro (St.mutH u hk hx30 hl31 hd32) (St.extc0 u hx30)
 replace u:=u.unsep
 refine re<|tn<|th<|th<|rg<|qm o rfl fun a o=>qv o (e_nilp o rfl) fun a o=>qv o (e_fa o fa171_2 rfl) fun a o=>qv o (e_ld o isAgg29 rfl ((St.ld u).cellB t0 rfl)) fun a o=>qv o (e_neq o rfl rfl) fun a o=>re<|?_
 rcases bdich (decide (r28.E≠0)) with hb43 | hb43
 replace hm:=itp_t hm hb43
 refine tn<|ctv o rfl hb43<|th<|rxS 12 u wide (by kernel_rfl) fun w u=>xm u o rfl fun a o=>xr u o (e_nilp o rfl) fun a o=>xr u o (e_fa o fa171_2 rfl) fun a o=>xq (St.ld u) o (fun w hl=>e_ld o isAgg29 rfl (hl.cellB t0 rfl)) fun a o=>xm u o rfl fun a o=>xr u o (e_nilp o rfl) fun a o=>xr u o (e_fa o fa171_3 rfl) fun a o=>xq (St.ld u) o (fun w hl=>e_ld o isAgg3 rfl (hl.cellB t0 rfl)) fun a o=>?_
 iterate 4 refine xq (St.ld u) o (fun w hl=>e_asg o rfl) fun a o=>?_
 refine xe<|tn<|wr<|tr<|?_
 obtain rfl:=si hm
 exact Go.LM.r4 o results141 rfl rfl rfl rfl ⟨H33,_,_,rfl,(Nat.le_refl 0),(SR.nil _ _),(Ext.trans hxHA1 hx30),(St.le u),u.keep⟩
 replace hm:=itp_f hm hb43
 refine tn<|cfv o rfl hb43<|wk<|tn<|th<|th<|rg<|qm o rfl fun a o=>qv o (e_nilp o rfl) fun a o=>qv o (e_fa o fa171_4 rfl) fun a o=>qv o (e_ld o isAgg46 rfl ((St.ld u).cellB t0 rfl)) fun a o=>qv o (e_lenL (α:=api_Stmt) (xs:=r28.Out) o runUnderlying46 rfl) fun a o=>qv o (e_gtr o rfl rfl) fun a o=>re<|?_
 rcases bdich (decide (40 < (r28.Out.length:Int))) with hb44 | hb44
 replace hm:=itp_t hm hb44
 refine tn<|ctv o rfl hb44<|th<|?_
 obtain ⟨x45,h46,hm⟩:=bs hm
 obtain ⟨c47,g48,hl49⟩:=SR.get hr5 h46
 obtain rfl:=api_Token_open g48
 refine rxS 9 u wide (by kernel_rfl) fun w u=>?_
 iterate 2 refine xq (St.ld u) o (fun w hl=>e_move o rfl) fun a o=>?_
 refine xr u o (e_iaI o runUnderlying120 sizeOf130 rfl rfl h46 (SR.oaI hr5 (by decide) h46)) fun a o=>xr u o (e_fa o fa130_3 rfl) fun a o=>xq (St.ld u) o (fun w hl=>e_ld o isAgg3 rfl (PH.le.cell (fun b o hx=>(Lds.le hl) b o ((cp hx30.sub hxHA1.sub) b o hx)) (hl49 3 _ rfl))) fun a o=>?_
 iterate 4 refine xq (St.ld u) o (fun w hl=>e_asg o rfl) fun a o=>?_
 refine xe<|tn<|wr<|tr<|?_
 obtain rfl:=si hm
 exact Go.LM.r4 o results141 rfl rfl rfl rfl ⟨H33,_,_,rfl,(Nat.le_refl 0),(SR.nil _ _),(Ext.trans hxHA1 hx30),(St.le u),u.keep⟩
 replace hm:=itp_f hm hb44
 refine tn<|cfv o rfl hb44<|wk<|tn<|th<|rxS 12 u wide (by kernel_rfl) fun w u=>xm u o rfl fun a o=>xr u o (e_nilp o rfl) fun a o=>xr u o (e_fa o fa171_4 rfl) fun a o=>xq (St.ld u) o (fun w hl=>e_ld o isAgg46 rfl (hl.cellB t0 rfl)) fun a o=>xm u o rfl fun a o=>xr u o (e_nilp o rfl) fun a o=>xr u o (e_fa o fa171_1 rfl) fun a o=>xq (St.ld u) o (fun w hl=>e_ld o isAgg3 rfl (hl.cellB t0 rfl)) fun a o=>?_
 iterate 4 refine xq (St.ld u) o (fun w hl=>e_asg o rfl) fun a o=>?_
 refine xe<|tn<|wr<|?_
 obtain ⟨H53,hx50,hr51,hc52,u⟩:=St.frzS u (.tail .head) hv41
 obtain rfl:=si hm
 exact Go.LM.r4 o results141 rfl rfl rfl rfl ⟨H53,_,_,rfl,hc52,hr51,(Ext.trans hxHA1 (Ext.trans hx30 hx50)),(St.le u),u.keep⟩
set_option maxHeartbeats 4000000 in
theorem Z4y_c (hH:H.le w0) {b2:Nat} {p1:leadlineref05_In} {oa3:Option Addr} {cap4:Nat} (hc5:p1.L.length≤cap4) (hr6:SR H oa3 p1.L) {p7:Str} {oa9:Option Addr} {cap10:Nat} {p8:(List api_Stmt)} (hc11:p8.length≤cap10) (hr12:SR H oa9 p8) {p13:Int} (hO:(sepA [blk b2 (.cells [.slice oa3 p1.L.length cap4,i6 p1.At,i6 p1.E,i6 p1.Pos].toArray 125 (0,0))]).ok (hp w0)) (hD:∀ b,(sepA [blk b2 (.cells [.slice oa3 p1.L.length cap4,i6 p1.At,i6 p1.E,i6 p1.Pos].toArray 125 (0,0))]).fp b→H b=none) {r:(api_Thread×leadlineref05_In)} (hm:Z4y N p1 p7 p8 p13=some r):Tot Tryz.prog 105 #[.pointer (some ⟨b2,0,none⟩),.agg #[strv p7,.slice none 0 0,.slice oa9 p8.length cap10,i6 p13]] w0 (fun v w'=>∃ (H':PH) (cs0:List Value) (oa1m:Option Addr) (cap1m:Nat),v=.agg cs0.toArray∧Enc.rep H' cs0 r.1∧r.2.L.length≤cap1m∧SR H' oa1m r.2.L∧ExtM w0 (sepA [blk b2 (.cells [.slice oa3 p1.L.length cap4,i6 p1.At,i6 p1.E,i6 p1.Pos].toArray 125 (0,0))]).fp H H'∧H'.le w'∧(∀ b,(sepA [blk b2 (.cells [.slice oa1m r.2.L.length cap1m,i6 r.2.At,i6 r.2.E,i6 r.2.Pos].toArray 125 (0,0))]).fp b→H' b=none)∧Mut w0 (sepA [blk b2 (.cells [.slice oa3 p1.L.length cap4,i6 p1.At,i6 p1.E,i6 p1.Pos].toArray 125 (0,0))]) (sepA [blk b2 (.cells [.slice oa1m r.2.L.length cap1m,i6 r.2.At,i6 r.2.E,i6 r.2.Pos].toArray 125 (0,0))]) w'):=by
 unfold Z4y at hm
 refine fn0 func105 rfl ntmps105 rfl rfl fun a o=>?_
 have u:=startM hH hO hD
 refine th<|rg<|ls<|a_box (cs:=[strv p7,.slice none 0 0,.slice oa9 p8.length cap10,i6 p13].toArray) o rfl u rfl rfl fun b14 w a u o=>ls<|a_alloc (cs:=[strv [],.slice none 0 0,.slice none 0 0,i6 0].toArray) o rfl u zeroValue48 rfl fun b15 w a u o=>re<|tn<|th<|rg<|qm o rfl fun a o=>qv o (e_nilp o rfl) fun a o=>qv o (e_fa o fa125_1 rfl) fun a o=>qv o (e_ld o isAgg3 rfl ((St.ld u).cellB t2 rfl)) fun a o=>qa o rfl fun a o=>re<|tn<|th<|?_
 obtain ⟨r16,h17,hm⟩:=bs hm
 refine rg<|qm o rfl fun a o=>?_
 replace u:=u.pk [2,0,0] rfl
 replace u:=St.sep [blk b2 (.cells [.slice oa3 p1.L.length cap4,i6 p1.At,i6 p1.E,i6 p1.Pos].toArray 125 (0,0))] u
 refine ls<|c1 o rfl call140 (Z4p_c (St.le u) (p1:=p1) (b2:=b2) (oa3:=oa3) (cap4:=cap4) hc5 hr6 (St.sepOk u) (St.sepDis u) h17) ⟨rfl,rfl,trivial⟩ (fun v w a hR o=>?_)
 obtain ⟨oa18,cap19,rfl,hc20,hr21,hk⟩:=hR
 replace u:=(u.mut hk .head).unsep
 refine re<|tn<|th<|th<|?_
 obtain ⟨r22,h23,hm⟩:=bs hm
 refine rg<|qm o rfl fun a o=>?_
 replace u:=u.pk [0,0,0] rfl
 replace u:=St.sep [blk b2 (.cells [.slice oa18 r16.L.length cap19,i6 r16.At,i6 r16.E,i6 r16.Pos].toArray 125 (0,0))] u
 refine ls<|c1 o rfl call102 (Z4n_c (St.le u) (p1:=r16) (b2:=b2) (oa3:=oa18) (cap4:=cap19) hc20 hr21 (St.sepOk u) (St.sepDis u) h23) ⟨rfl,rfl,trivial⟩ (fun v w a hR o=>?_)
 obtain ⟨oa24,cap25,rfl,hc26,hr27,hk⟩:=hR
 replace u:=(u.mut hk .head).unsep
 refine re<|tn<|midK (fun a w=>∃ (vA1:(List api_Token)) (vA6:Int) (vA7:Int) (vA8:Int) (vA9:(List Str)) (oaA2:Option Addr) (capA3:Nat) (oaA10:Option Addr) (capA11:Nat) (vsA12:List Value),(Z4z N p1 p7 p8 p13) vA1 vA6 vA7 vA8 vA9=some r∧Fr 73 [(0,.pointer (some ⟨b2,0,none⟩)),(3,.pointer (some ⟨b14,0,none⟩)),(4,.pointer (some ⟨b15,0,none⟩)),(5,i6 p1.At)] a∧St w0 (sepA [blk b2 (.cells [.slice oa3 p1.L.length cap4,i6 p1.At,i6 p1.E,i6 p1.Pos].toArray 125 (0,0))]).fp [H] [blk b2 (.cells [.slice oaA2 vA1.length capA3,i6 vA6,i6 vA7,i6 vA8].toArray 125 (0,0)),sla 9 1 oaA10 vA9.length capA11 vsA12,blk b14 (.cells [strv p7,.slice oaA10 vA9.length capA11,.slice oa9 p8.length cap10,i6 p13].toArray 48 (0,0)),blk b15 (.cells [strv [],.slice none 0 0,.slice none 0 0,i6 0].toArray 48 (0,0))] w∧vA1.length≤capA3∧SR H oaA2 vA1∧Rows H vsA12 vA9) ?_ ?_
 rcases bdich r22.1 with hb28 | hb28
 replace hm:=ite_t hm hb28
 refine ctv o rfl hb28<|th<|?_
 obtain ⟨r29,h30,hm⟩:=bs hm
 refine rg<|qm o rfl fun a o=>?_
 replace u:=u.pk [0,0,0] rfl
 replace u:=St.sep [blk b2 (.cells [.slice oa24 r22.2.L.length cap25,i6 r22.2.At,i6 r22.2.E,i6 r22.2.Pos].toArray 125 (0,0))] u
 refine ls<|c1 o rfl call103 (Z4s_c (St.le u) (p1:=r22.2) (b2:=b2) (oa3:=oa24) (cap4:=cap25) hc26 hr27 (St.sepOk u) (St.sepDis u) h30) ⟨rfl,rfl,trivial⟩ (fun v w a hR o=>?_)
 obtain ⟨oa31,cap32,vs33,oa36,cap37,rfl,hv34,hc38,hr39,hk⟩:=hR
 replace u:=(u.mut hk .head).unsep
 replace hv34:=hv34 H
 refine qa o rfl fun a o=>re<|tn<|th<|rg<|qa o rfl fun a o=>re<|?_
 replace u:=St.nilS u 9 1
 replace u:=u.pk [1,0,2,1,0] rfl
 refine tn<|wb<|lp (α:=Nat×(List Str)×Int) (fun gh a w=>match gh with | (nn2,vB1,vB7)=>∃ (oaB2:Option Addr) (capB3:Nat) (vsB4:List Value),(Z51 N (Z4z N p1 p7 p8 p13) r29) nn2 vB1 vB7=some r∧Fr 73 [(0,.pointer (some ⟨b2,0,none⟩)),(3,.pointer (some ⟨b14,0,none⟩)),(4,.pointer (some ⟨b15,0,none⟩)),(5,i6 p1.At),(6,.slice oa31 r29.1.length cap32),(7,i6 vB7)] a∧St w0 (sepA [blk b2 (.cells [.slice oa3 p1.L.length cap4,i6 p1.At,i6 p1.E,i6 p1.Pos].toArray 125 (0,0))]).fp [H] [blk b2 (.cells [.slice oa36 r29.2.L.length cap37,i6 r29.2.At,i6 r29.2.E,i6 r29.2.Pos].toArray 125 (0,0)),sla 9 1 oaB2 vB1.length capB3 vsB4,blk b14 (.cells [strv p7,.slice oaB2 vB1.length capB3,.slice oa9 p8.length cap10,i6 p13].toArray 48 (0,0)),blk b15 (.cells [strv [],.slice none 0 0,.slice none 0 0,i6 0].toArray 48 (0,0)),sla 53 3 oa31 r29.1.length cap32 vs33] w∧Rows H vsB4 vB1) (fun gh=>gh.1) (N,[],0) ⟨none,0,[],hm,o.hs,u,.nil⟩ ?_
 rintro ⟨nn2,vB1,vB7⟩ a w ⟨oaB2,capB3,vsB4,hm,o,u,hvB5⟩
 obtain _ | nn2:=nn2
 simp [Z51] at hm
 rw [Z51] at hm
 refine th<|th<|rg<|qm o rfl fun a o=>qm o rfl fun a o=>qv o (e_lenL (α:=api_Cell) (xs:=r29.1) o runUnderlying23 rfl) fun a o=>qv o (e_lss o rfl rfl) fun a o=>re<|?_
 rcases bdich (decide (vB7 < (r29.1.length:Int))) with hb40 | hb40
 replace hm:=itp_t hm hb40
 refine tn<|ctv o rfl hb40<|wk<|tn<|th<|wb<|?_
 obtain ⟨x41,h42,hm⟩:=bs hm
 have ho43:=Rd.oaI (u.rdO t4) hv34 (by decide) h42
 obtain ⟨c44,g45,hl46⟩:=Rows.getI hv34 h42
 obtain rfl:=api_Cell_open g45
 obtain ⟨l50,h51,hm⟩:=bs hm
 refine rdL (sub_cons t0 (sub_cons t2 (sub_cons t3 (sub_cons t4 sub_nil)))) 10 u wide fun w u=>ds 0 (St.ldsX u i2 (sub_cons t0 (sub_cons t2 (sub_cons t3 (sub_cons t4 sub_nil))))) o rfl (e_fa o fa48_1 rfl) fun a o=>dq 1 (St.ldsX u i2 (sub_cons t0 (sub_cons t2 (sub_cons t3 (sub_cons t4 sub_nil))))) o rfl (fun w hl=>e_ld o isAgg36 rfl (hl.cellB t1 rfl)) fun a o=>ds 2 (St.ldsX u i2 (sub_cons t0 (sub_cons t2 (sub_cons t3 (sub_cons t4 sub_nil))))) o rfl (e_move o rfl) fun a o=>ds 3 (St.ldsX u i2 (sub_cons t0 (sub_cons t2 (sub_cons t3 (sub_cons t4 sub_nil))))) o rfl (e_move o rfl) fun a o=>ds 4 (St.ldsX u i2 (sub_cons t0 (sub_cons t2 (sub_cons t3 (sub_cons t4 sub_nil))))) o rfl (e_iaI o runUnderlying23 sizeOf53 rfl rfl h42 ho43) fun a o=>ds 5 (St.ldsX u i2 (sub_cons t0 (sub_cons t2 (sub_cons t3 (sub_cons t4 sub_nil))))) o rfl (e_fa o fa53_0 rfl) fun a o=>dq 6 (St.ldsX u i2 (sub_cons t0 (sub_cons t2 (sub_cons t3 (sub_cons t4 sub_nil))))) o rfl (fun w hl=>e_ld o isAgg9 rfl (hl.elO2 t3 (hl46 0 _ rfl))) fun a o=>da1 (i:=7) (by kernel_rfl) ?_
 refine di (i:=7) rfl<|a_bsl (e:=9) (sz:=1) [strv x41.Name] o rfl u rfl rfl rfl (fun w=>by kernel_rfl) fun b48 w a u o=>?_
 have hv47:Rows (α:=Str) H [strv x41.Name] ([x41.Name]:List Str):=(.cons (c:=[strv x41.Name]) rfl .nil)
 refine ⟨fun _=>(St.ldsX u i2 (sub_cons t1 (sub_cons t3 (sub_cons t4 (sub_cons t5 sub_nil))))),?_⟩
 refine da1 (i:=8) (by kernel_rfl) ?_
 refine di (i:=8) rfl<|m_app (α:=Str) (xs:=vB1) (ys:=([x41.Name]:List Str)) o rfl u underlying36 info9 rfl (by decide) rfl rfl rfl t2 hvB5 (u.rdO t0) hv47 h51 fun oa52 cap53 vs54 w a hv55 hU o=>?_
 replace u:=hU _ (.tail (.tail .head))
 replace u:=u.drop .head
 refine ⟨fun _=>(St.ldsX u i2 (sub_cons t0 (sub_cons t2 (sub_cons t3 (sub_cons t4 sub_nil))))),?_⟩
 refine ds 9 (St.ldsX u i2 (sub_cons t0 (sub_cons t2 (sub_cons t3 (sub_cons t4 sub_nil))))) o rfl (e_fa o fa48_1 rfl) fun a o=>da1 (i:=10) (by kernel_rfl) ?_
 refine di (i:=10) rfl<|s_blk o u sizeOf36 rfl rfl rfl rfl (.tail (.tail .head)) (.succ .zero) fun w u=>⟨fun h=>absurd rfl h,?_⟩
 refine de (by kernel_rfl)<|bn<|tn<|rg<|qm o rfl fun a o=>qv o (e_add o rfl rfl) fun a o=>qa o rfl fun a o=>re<|tn<|?_
 exact ⟨(nn2,l50,(IntKind.i64.wrap (vB7+1))),⟨oa52,cap53,vs54,hm,o.hs,u,hv55⟩,Nat.lt_succ_self _⟩
 replace hm:=itp_f hm hb40
 refine tn<|cfv o rfl hb40<|we<|tx<|tx<|bx<|tn<|?_
 replace u:=u.pk [0,0,0,0] rfl
 exact ⟨r29.2.L,r29.2.At,r29.2.E,r29.2.Pos,vB1,oa36,cap37,oaB2,capB3,vsB4,hm,o.hs,u,hc38,hr39,hvB5⟩
 replace hm:=ite_f hm hb28
 refine cfv o rfl hb28<|wk<|tn<|?_
 replace u:=St.nilS u 9 1
 replace u:=u.pk [1,0,1,0] rfl
 exact ⟨r22.2.L,r22.2.At,r22.2.E,r22.2.Pos,[],oa24,cap25,none,0,[],hm,o.hs,u,hc26,hr27,.nil⟩
 rintro a w ⟨vA1,vA6,vA7,vA8,vA9,oaA2,capA3,oaA10,capA11,vsA12,hm,o,u,hcA4,hrA5,hvA13⟩
 unfold Z4z at hm
 refine th<|th<|rg<|qm o rfl fun a o=>qv o (e_nilp o rfl) fun a o=>qv o (e_fa o fa125_2 rfl) fun a o=>qv o (e_ld o isAgg29 rfl ((St.ld u).cellB t0 rfl)) fun a o=>qv o (e_eql o rfl rfl) fun a o=>re<|tn<|midK (fun a w=>∃ (vA16:Int) (vA17:Int) (vA18:Int) (vA19:(List api_Stmt)) (HA15:PH) (oaA20:Option Addr) (capA21:Nat),(Z50 p7 p13 vA1 vA9) vA16 vA17 vA18 vA19=some r∧ExtM w0 (sepA [blk b2 (.cells [.slice oa3 p1.L.length cap4,i6 p1.At,i6 p1.E,i6 p1.Pos].toArray 125 (0,0))]).fp H HA15∧Fr 73 [(0,.pointer (some ⟨b2,0,none⟩)),(3,.pointer (some ⟨b14,0,none⟩)),(4,.pointer (some ⟨b15,0,none⟩))] a∧St w0 (sepA [blk b2 (.cells [.slice oa3 p1.L.length cap4,i6 p1.At,i6 p1.E,i6 p1.Pos].toArray 125 (0,0))]).fp [HA15] [blk b2 (.cells [.slice oaA2 vA1.length capA3,i6 vA16,i6 vA17,i6 vA18].toArray 125 (0,0)),sla 9 1 oaA10 vA9.length capA11 vsA12,blk b14 (.cells [strv p7,.slice oaA10 vA9.length capA11,.slice oaA20 vA19.length capA21,i6 p13].toArray 48 (0,0)),blk b15 (.cells [strv [],.slice none 0 0,.slice none 0 0,i6 0].toArray 48 (0,0))] w∧vA19.length≤capA21∧SR HA15 oaA20 vA19) ?_ ?_
 rcases bdich (decide (vA7=0)) with hb56 | hb56
 replace hm:=itp_t hm hb56
 refine ctv o rfl hb56<|th<|?_
 obtain ⟨r57,h58,hm⟩:=bs hm
 refine rdS 19 u wide fun w u=>dr 0 u o rfl (e_move o rfl) fun a o=>dr 1 u o rfl (e_nilp o rfl) fun a o=>dr 2 u o rfl (e_fa o fa125_0 rfl) fun a o=>dq 3 (St.ld u) o rfl (fun w hl=>e_ld o isAgg120 rfl (hl.cellB t0 rfl)) fun a o=>dr 4 u o rfl (e_move o rfl) fun a o=>dr 5 u o rfl (e_nilp o rfl) fun a o=>dr 6 u o rfl (e_fa o fa125_1 rfl) fun a o=>dq 7 (St.ld u) o rfl (fun w hl=>e_ld o isAgg3 rfl (hl.cellB t0 rfl)) fun a o=>dr 8 u o rfl (e_move o rfl) fun a o=>da1 (i:=9) (by kernel_rfl) ?_
 refine di (i:=9) rfl<|c1 o rfl call141 (Z41_c (St.le u) hcA4 hrA5 h58) ⟨rfl,rfl,rfl,trivial⟩ (fun v w a hR o=>?_)
 obtain ⟨H62,oa63,cap64,rfl,hc65,hr66,hx59,hl60,hk⟩:=hR
 obtain ⟨u,hx59⟩:=And.intro (St.passH u hk hx59 hl60) (St.extcM u hx59)
 refine ⟨fun _=>(St.ldsX u hx59.sub i1),?_⟩
 refine ds 10 (St.ldsX u hx59.sub i1) o rfl (e_move o rfl) fun a o=>ds 11 (St.ldsX u hx59.sub i1) o rfl (e_ext o rfl rfl) fun a o=>ds 12 (St.ldsX u hx59.sub i1) o rfl (e_ext o rfl rfl) fun a o=>ds 13 (St.ldsX u hx59.sub i1) o rfl (e_ext o rfl rfl) fun a o=>ds 14 (St.ldsX u hx59.sub i1) o rfl (e_ext o rfl rfl) fun a o=>ds 15 (St.ldsX u hx59.sub i1) o rfl (e_asg o rfl) fun a o=>ds 16 (St.ldsX u hx59.sub i1) o rfl (e_asg o rfl) fun a o=>ds 17 (St.ldsX u hx59.sub i1) o rfl (e_asg o rfl) fun a o=>ds 18 (St.ldsX u hx59.sub i1) o rfl (e_asg o rfl) fun a o=>de (by kernel_rfl)<|tn<|th<|rg<|qm o rfl fun a o=>qv o (e_fa o fa48_2 rfl) fun a o=>ls<|s_blk o u sizeOf46 rfl rfl rfl rfl (.tail (.tail .head)) (.succ (.succ .zero)) fun w u=>re<|tn<|th<|rg<|qm o rfl fun a o=>qm o rfl fun a o=>qv o (e_nilp o rfl) fun a o=>qv o (e_fa o fa125_1 rfl) fun a o=>ls<|s_blk o u sizeOf3 rfl rfl rfl rfl .head (.succ .zero) fun w u=>re<|tn<|th<|rg<|qm o rfl fun a o=>qm o rfl fun a o=>qv o (e_nilp o rfl) fun a o=>qv o (e_fa o fa125_2 rfl) fun a o=>ls<|s_blk o u sizeOf29 rfl rfl rfl rfl .head (.succ (.succ .zero)) fun w u=>re<|tn<|rg<|qm o rfl fun a o=>qm o rfl fun a o=>qv o (e_nilp o rfl) fun a o=>qv o (e_fa o fa125_3 rfl) fun a o=>ls<|s_blk o u sizeOf3 rfl rfl rfl rfl .head (.succ (.succ (.succ .zero))) fun w u=>re<|tn<|?_
 exact ⟨r57.2.1,r57.2.2.1,r57.2.2.2,r57.1,H62,oa63,cap64,hm,hx59,o.hs,u,hc65,hr66⟩
 replace hm:=itp_f hm hb56
 refine cfv o rfl hb56<|wk<|tn<|?_
 exact ⟨vA6,vA7,vA8,p8,H,oa9,cap10,hm,(ExtM.refl _ _ _),o.hs,u,hc11,hr12⟩
 rintro a w ⟨vA16,vA17,vA18,vA19,HA15,oaA20,capA21,hm,hxHA15,o,u,hcA22,hrA23⟩
 unfold Z50 at hm
 refine th<|rg<|qv o (e_ldA o Tryz.isAgg48 Tryz.sizeOf48 rfl rfl ((St.ld u).cellsB t2)) fun a o=>ls<|s_blkA o u sizeOf48 rfl rfl rfl rfl (one_cells rfl) (.tail (.tail (.tail .head))) fun w u=>re<|tn<|wr<|?_
 obtain ⟨H70,hx67,hr68,hc69,u⟩:=St.frzSM u (.tail .head) (hvA13.mono hxHA15.sub)
 obtain rfl:=si hm
 exact r1c (vs:=[strv p7,.slice oaA10 vA9.length capA11,.slice oaA20 vA19.length capA21,i6 p13]) (.inl rfl) o results105 rfl isAgg48 sizeOf48 rfl ((St.ld u).cellsB t2) ⟨H70,_,oaA2,capA3,rfl,(show Enc.rep (α:=api_Thread) H70 [strv p7,.slice oaA10 vA9.length capA11,.slice oaA20 vA19.length capA21,i6 p13] (api_Thread.mk p7 vA9 vA19 p13) from ⟨_,_,rfl,rfl,⟨_,_,rfl,⟨_,_,rfl,hc69,hr68⟩,⟨_,_,rfl,⟨_,_,rfl,hcA22,(hrA23.mono hx67.sub)⟩,rfl⟩⟩⟩),hcA4,(hrA5.mono (cp hx67.sub hxHA15.sub)),(ExtM.trans hxHA15 hx67),(St.le u),(St.disL (u.pickL (.cons .head .nil))),(u.pickL (.cons .head .nil)).endMut⟩
theorem Z4m_c (hH:H.le w0) {b2:Nat} {p1:leadlineref05_In} {oa3:Option Addr} {cap4:Nat} (hc5:p1.L.length≤cap4) (hr6:SR H oa3 p1.L) {p7:Int} (hO:(sepA [blk b2 (.cells [.slice oa3 p1.L.length cap4,i6 p1.At,i6 p1.E,i6 p1.Pos].toArray 125 (0,0))]).ok (hp w0)) (hD:∀ b,(sepA [blk b2 (.cells [.slice oa3 p1.L.length cap4,i6 p1.At,i6 p1.E,i6 p1.Pos].toArray 125 (0,0))]).fp b→H b=none) {r:(api_Claim×leadlineref05_In)} (hm:Z4m N p1 p7=some r):Tot Tryz.prog 106 #[.pointer (some ⟨b2,0,none⟩),i6 p7] w0 (fun v w'=>∃ (H':PH) (cs0:List Value) (oa1m:Option Addr) (cap1m:Nat),v=.agg cs0.toArray∧Enc.rep H' cs0 r.1∧r.2.L.length≤cap1m∧SR H' oa1m r.2.L∧ExtM w0 (sepA [blk b2 (.cells [.slice oa3 p1.L.length cap4,i6 p1.At,i6 p1.E,i6 p1.Pos].toArray 125 (0,0))]).fp H H'∧H'.le w'∧(∀ b,(sepA [blk b2 (.cells [.slice oa1m r.2.L.length cap1m,i6 r.2.At,i6 r.2.E,i6 r.2.Pos].toArray 125 (0,0))]).fp b→H' b=none)∧Mut w0 (sepA [blk b2 (.cells [.slice oa3 p1.L.length cap4,i6 p1.At,i6 p1.E,i6 p1.Pos].toArray 125 (0,0))]) (sepA [blk b2 (.cells [.slice oa1m r.2.L.length cap1m,i6 r.2.At,i6 r.2.E,i6 r.2.Pos].toArray 125 (0,0))]) w'):=by
 unfold Z4m at hm
 refine fn0 func106 rfl ntmps106 rfl rfl fun a o=>?_
 have u:=startM hH hO hD
 refine th<|rg<|ls<|a_alloc (cs:=[.slice none 0 0,i6 0].toArray) o rfl u Tryz.zeroValue74 rfl fun b8 w a u o=>re<|tn<|th<|?_
 obtain ⟨rz9,h10,hm⟩:=bs hm
 refine rdS 18 u wide fun w u=>dr 0 u o rfl (e_move o rfl) fun a o=>dr 1 u o rfl (e_nilp o rfl) fun a o=>dr 2 u o rfl (e_fa o fa125_0 rfl) fun a o=>dq 3 (St.ld u) o rfl (fun w hl=>e_ld o isAgg120 rfl (hl.cellB t1 rfl)) fun a o=>dr 4 u o rfl (e_move o rfl) fun a o=>dr 5 u o rfl (e_nilp o rfl) fun a o=>dr 6 u o rfl (e_fa o fa125_1 rfl) fun a o=>dq 7 (St.ld u) o rfl (fun w hl=>e_ld o isAgg3 rfl (hl.cellB t1 rfl)) fun a o=>da1 (i:=8) (by kernel_rfl) ?_
 refine di (i:=8) rfl<|c1 o rfl call142 (Z2r_c (St.le u) hc5 hr6 h10) ⟨rfl,rfl,trivial⟩ (fun v w a hR o=>?_)
 obtain ⟨H14,oa15,cap16,rfl,hc17,hr18,hx11,hl12,hk⟩:=hR
 obtain ⟨u,hx11⟩:=And.intro (St.passH u hk hx11 hl12) (St.extcM u hx11)
 refine ⟨fun _=>(St.ldsX u hx11.sub i1),?_⟩
 refine ds 9 (St.ldsX u hx11.sub i1) o rfl (e_move o rfl) fun a o=>ds 10 (St.ldsX u hx11.sub i1) o rfl (e_ext o rfl rfl) fun a o=>ds 11 (St.ldsX u hx11.sub i1) o rfl (e_ext o rfl rfl) fun a o=>ds 12 (St.ldsX u hx11.sub i1) o rfl (e_ext o rfl rfl) fun a o=>ds 13 (St.ldsX u hx11.sub i1) o rfl (e_ext o rfl rfl) fun a o=>ds 14 (St.ldsX u hx11.sub i1) o rfl (e_asg o rfl) fun a o=>ds 15 (St.ldsX u hx11.sub i1) o rfl (e_asg o rfl) fun a o=>ds 16 (St.ldsX u hx11.sub i1) o rfl (e_asg o rfl) fun a o=>ds 17 (St.ldsX u hx11.sub i1) o rfl (e_asg o rfl) fun a o=>de (by kernel_rfl)<|tn<|th<|th<|rg<|qm o rfl fun a o=>qv o (e_neq o rfl rfl) fun a o=>re<|?_
 rcases bdich (decide (rz9.2.2.1≠0)) with hb19 | hb19
 replace hm:=itp_t hm hb19
 refine tn<|ctv o rfl hb19<|th<|rg<|qm o rfl fun a o=>qm o rfl fun a o=>qv o (e_nilp o rfl) fun a o=>qv o (e_fa o fa125_2 rfl) fun a o=>ls<|s_blk o u sizeOf29 rfl rfl rfl rfl (.tail .head) (.succ (.succ .zero)) fun w u=>re<|tn<|th<|rg<|qm o rfl fun a o=>qm o rfl fun a o=>qv o (e_nilp o rfl) fun a o=>qv o (e_fa o fa125_3 rfl) fun a o=>ls<|s_blk o u sizeOf3 rfl rfl rfl rfl (.tail .head) (.succ (.succ (.succ .zero))) fun w u=>re<|tn<|th<|rg<|qv o (e_bldK [] [.slice none 0 0,i6 0] o trivial (fun w=>by kernel_rfl)) fun a o=>ls<|s_blkA o u sizeOf74 rfl rfl rfl rfl (one_cells rfl) .head fun w u=>re<|tn<|wr<|tr<|?_
 obtain rfl:=si hm
 exact r1c (vs:=[.slice none 0 0,i6 0]) (.inl rfl) o results106 rfl isAgg74 sizeOf74 rfl ((St.ld u).cellsB t0) ⟨H14,_,oa3,cap4,rfl,(show Enc.rep (α:=api_Claim) H14 [.slice none 0 0,i6 0] (api_Claim.mk [] 0) from ⟨_,_,rfl,⟨none,0,rfl,Nat.le_refl _,SR.nil _ _⟩,rfl⟩),hc5,(hr6.mono hx11.sub),hx11,(St.le u),(St.disL (u.pickL (.cons (.tail .head) .nil))),(u.pickL (.cons (.tail .head) .nil)).endMut⟩
 replace hm:=itp_f hm hb19
 refine tn<|cfv o rfl hb19<|wk<|tn<|th<|rg<|qm o rfl fun a o=>qm o rfl fun a o=>qv o (e_nilp o rfl) fun a o=>qv o (e_fa o fa125_1 rfl) fun a o=>ls<|s_blk o u sizeOf3 rfl rfl rfl rfl (.tail .head) (.succ .zero) fun w u=>re<|tn<|th<|?_
 obtain ⟨r20,h21,hm⟩:=bs hm
 refine rg<|qm o rfl fun a o=>?_
 replace u:=u.pk [1,0] rfl
 replace u:=St.sep [blk b2 (.cells [.slice oa3 p1.L.length cap4,i6 rz9.2.1,i6 p1.E,i6 p1.Pos].toArray 125 (0,0))] u
 refine ls<|c1 o rfl call140 (Z4p_c (St.le u) (p1:=(leadlineref05_In.mk p1.L rz9.2.1 p1.E p1.Pos)) (b2:=b2) (oa3:=oa3) (cap4:=cap4) hc5 (hr6.mono hx11.sub) (St.sepOk u) (St.sepDis u) h21) ⟨rfl,rfl,trivial⟩ (fun v w a hR o=>?_)
 obtain ⟨oa22,cap23,rfl,hc24,hr25,hk⟩:=hR
 replace u:=(u.mut hk .head).unsep
 refine re<|tn<|th<|rg<|qm o rfl fun a o=>qm o rfl fun a o=>qv o (e_bldK [.slice oa15 rz9.1.length cap16,i6 p7] [.slice oa15 rz9.1.length cap16,i6 p7] o ⟨rfl,rfl,trivial⟩ (fun w=>by kernel_rfl)) fun a o=>ls<|s_blkA o u sizeOf74 rfl rfl rfl rfl (one_cells rfl) (.tail .head) fun w u=>re<|tn<|wr<|?_
 obtain rfl:=si hm
 exact r1c (vs:=[.slice oa15 rz9.1.length cap16,i6 p7]) (.inl rfl) o results106 rfl isAgg74 sizeOf74 rfl ((St.ld u).cellsB t1) ⟨H14,_,oa22,cap23,rfl,(show Enc.rep (α:=api_Claim) H14 [.slice oa15 rz9.1.length cap16,i6 p7] (api_Claim.mk rz9.1 p7) from ⟨_,_,rfl,⟨_,_,rfl,hc17,hr18⟩,rfl⟩),hc24,hr25,hx11,(St.le u),(St.disL (u.pickL (.cons .head .nil))),(u.pickL (.cons .head .nil)).endMut⟩
set_option maxHeartbeats 4000000 in
theorem Z52_c (hH:H.le w0) {p1:Str} {r:(api_Prog×Int×Int)} (hm:Z52 N p1=some r):Tot Tryz.prog 64 #[strv p1] w0 (fun v w'=>∃ (H':PH) (cs0:List Value),v=.tuple #[.agg cs0.toArray,i6 r.2.1,i6 r.2.2]∧Enc.rep H' cs0 r.1∧Ext w0 H H'∧H'.le w'∧Keep Nil w0 w'):=by
 unfold Z52 at hm
 refine fn0 func64 rfl ntmps64 rfl rfl fun a o=>?_
 have u:St w0 Nil [H] [] w0:=start1 hH
 refine th<|rg<|ls<|a_alloc (cs:=[.slice none 0 0,.slice none 0 0,.slice none 0 0,.slice none 0 0,.slice none 0 0,.slice none 0 0].toArray) o rfl u Tryz.zeroValue27 rfl fun b2 w a u o=>?_
 iterate 2 refine qa o rfl fun a o=>?_
 refine re<|tn<|th<|?_
 obtain ⟨rz3,h4,hm⟩:=bs hm
 refine rg<|qm o rfl fun a o=>ls<|c1 o rfl call101 (Z1s_c (hp_le _) h4) ⟨rfl,trivial⟩ (fun v w a hR o=>?_)
 obtain ⟨oa5,cap6,vs7,rfl,hv8,hk⟩:=hR
 replace u:=u.fresh hk
 replace hv8:=hv8 H
 refine qm o rfl fun a o=>?_
 iterate 3 refine qv o (e_ext o rfl rfl) fun a o=>?_
 iterate 3 refine qa o rfl fun a o=>?_
 refine re<|tn<|th<|th<|rg<|qm o rfl fun a o=>qv o (e_neq o rfl rfl) fun a o=>re<|?_
 rcases bdich (decide (rz3.2.1≠0)) with hb10 | hb10
 replace hm:=itp_t hm hb10
 refine tn<|ctv o rfl hb10<|th<|rg<|qv o (e_bldK [] [.slice none 0 0,.slice none 0 0,.slice none 0 0,.slice none 0 0,.slice none 0 0,.slice none 0 0] o trivial (fun w=>by kernel_rfl)) fun a o=>?_
 iterate 2 refine qm o rfl fun a o=>?_
 refine ls<|s_blkA o u sizeOf27 rfl rfl rfl rfl (one_cells rfl) (.tail .head) fun w u=>?_
 iterate 2 refine qa o rfl fun a o=>?_
 refine re<|tn<|wr<|tr<|?_
 obtain rfl:=si hm
 exact r3c (vs:=[.slice none 0 0,.slice none 0 0,.slice none 0 0,.slice none 0 0,.slice none 0 0,.slice none 0 0]) (.inl rfl) o results64 rfl rfl rfl isAgg27 sizeOf27 rfl ((St.ld u).cellsB t1) ⟨H,_,rfl,(show Enc.rep (α:=api_Prog) H [.slice none 0 0,.slice none 0 0,.slice none 0 0,.slice none 0 0,.slice none 0 0,.slice none 0 0] (api_Prog.mk [] [] [] [] [] []) from ⟨_,_,rfl,⟨none,0,rfl,Nat.le_refl _,SR.nil _ _⟩,⟨_,_,rfl,⟨none,0,rfl,Nat.le_refl _,SR.nil _ _⟩,⟨_,_,rfl,⟨none,0,rfl,Nat.le_refl _,SR.nil _ _⟩,⟨_,_,rfl,⟨none,0,rfl,Nat.le_refl _,SR.nil _ _⟩,⟨_,_,rfl,⟨none,0,rfl,Nat.le_refl _,SR.nil _ _⟩,⟨none,0,rfl,Nat.le_refl _,SR.nil _ _⟩⟩⟩⟩⟩⟩),(Ext.refl _ _),(St.le u),u.keep⟩
 replace hm:=itp_f hm hb10
 refine tn<|cfv o rfl hb10<|wk<|tn<|th<|?_
 obtain ⟨H14,hx11,hr12,hc13,u⟩:=St.frzS u .head hv8
 refine rg<|qm o rfl fun a o=>qv o (e_bldK [.slice oa5 rz3.1.length cap6] [.slice oa5 rz3.1.length cap6,i6 0,i6 0,i6 0] o ⟨rfl,trivial⟩ (fun w=>by kernel_rfl)) fun a o=>ls<|a_box (cs:=[.slice oa5 rz3.1.length cap6,i6 0,i6 0,i6 0].toArray) o rfl u rfl rfl fun b15 w a u o=>qv o (e_bldK [] [.slice none 0 0,.slice none 0 0,.slice none 0 0,.slice none 0 0,.slice none 0 0,.slice none 0 0] o trivial (fun w=>by kernel_rfl)) fun a o=>ls<|a_alloc (cs:=[.slice none 0 0,.slice none 0 0,.slice none 0 0,.slice none 0 0,.slice none 0 0,.slice none 0 0].toArray) o rfl u zeroValue27 rfl fun b16 w a u o=>qa o rfl fun a o=>ls<|s_blkA o u sizeOf27 rfl rfl rfl rfl (one_cells rfl) .head fun w u=>re<|tn<|th<|midK (fun a w=>∃ (vA2:(List api_Token)) (vA7:Int) (vA8:Int) (vA9:Int) (vA10:(List (List api_Cell))) (HA1:PH) (oaA3:Option Addr) (capA4:Nat) (oaA11:Option Addr) (capA12:Nat) (vsA13:List Value),(Z53 N rz3) vA2 vA7 vA8 vA9 vA10=some r∧Ext w0 H14 HA1∧Fr 128 [(2,.pointer (some ⟨b2,0,none⟩)),(5,.slice oa5 rz3.1.length cap6),(8,.pointer (some ⟨b15,0,none⟩)),(9,.pointer (some ⟨b16,0,none⟩))] a∧St w0 Nil [HA1] [blk b2 (.cells [.slice none 0 0,.slice none 0 0,.slice none 0 0,.slice none 0 0,.slice none 0 0,.slice none 0 0].toArray 27 (0,0)),blk b15 (.cells [.slice oaA3 vA2.length capA4,i6 vA7,i6 vA8,i6 vA9].toArray 125 (0,0)),sla 23 1 oaA11 vA10.length capA12 vsA13,blk b16 (.cells [.slice oaA11 vA10.length capA12,.slice none 0 0,.slice none 0 0,.slice none 0 0,.slice none 0 0,.slice none 0 0].toArray 27 (0,0))] w∧vA2.length≤capA4∧SR HA1 oaA3 vA2∧Rows HA1 vsA13 vA10) ?_ ?_
 replace u:=St.nilS u 23 1
 replace u:=u.pk [3,2,0,0] rfl
 refine wb<|lp (α:=Nat×(List api_Token)×Int×Int×Int×(List (List api_Cell))) (fun (gh:Nat×(List api_Token)×Int×Int×Int×(List (List api_Cell))) a w=>match gh with | (nn2,vB2,vB7,vB8,vB9,vB10)=>∃ (HB1:PH) (oaB3:Option Addr) (capB4:Nat) (oaB11:Option Addr) (capB12:Nat) (vsB13:List Value),(Z5b N (Z53 N rz3)) nn2 vB2 vB7 vB8 vB9 vB10=some r∧Ext w0 H14 HB1∧Fr 128 [(2,.pointer (some ⟨b2,0,none⟩)),(5,.slice oa5 rz3.1.length cap6),(8,.pointer (some ⟨b15,0,none⟩)),(9,.pointer (some ⟨b16,0,none⟩))] a∧St w0 Nil [HB1] [blk b2 (.cells [.slice none 0 0,.slice none 0 0,.slice none 0 0,.slice none 0 0,.slice none 0 0,.slice none 0 0].toArray 27 (0,0)),blk b15 (.cells [.slice oaB3 vB2.length capB4,i6 vB7,i6 vB8,i6 vB9].toArray 125 (0,0)),sla 23 1 oaB11 vB10.length capB12 vsB13,blk b16 (.cells [.slice oaB11 vB10.length capB12,.slice none 0 0,.slice none 0 0,.slice none 0 0,.slice none 0 0,.slice none 0 0].toArray 27 (0,0))] w∧vB2.length≤capB4∧SR HB1 oaB3 vB2∧Rows HB1 vsB13 vB10) (fun gh=>gh.1) (N,rz3.1,0,0,0,[]) ⟨H14,oa5,cap6,none,0,[],hm,(Ext.refl _ _),o.hs,u,hc13,hr12,.nil⟩ ?_
 rintro ⟨nn2,vB2,vB7,vB8,vB9,vB10⟩ a w ⟨HB1,oaB3,capB4,oaB11,capB12,vsB13,hm,hxHB1,o,u,hcB5,hrB6,hvB14⟩
 obtain _ | nn2:=nn2
 simp [Z5b] at hm
 rw [Z5b] at hm
 refine th<|th<|?_
 obtain ⟨r17,h18,hm⟩:=bs hm
 refine rg<|qm o rfl fun a o=>?_
 replace u:=u.pk [1,0,0,0] rfl
 replace u:=St.sep [blk b15 (.cells [.slice oaB3 vB2.length capB4,i6 vB7,i6 vB8,i6 vB9].toArray 125 (0,0))] u
 refine ls<|c1 o rfl call102 (Z4n_c (St.le u) (p1:=(leadlineref05_In.mk vB2 vB7 vB8 vB9)) (b2:=b15) (oa3:=oaB3) (cap4:=capB4) hcB5 hrB6 (St.sepOk u) (St.sepDis u) h18) ⟨rfl,rfl,trivial⟩ (fun v w a hR o=>?_)
 obtain ⟨oa19,cap20,rfl,hc21,hr22,hk⟩:=hR
 replace u:=(u.mut hk .head).unsep
 refine re<|?_
 rcases bdich r17.1 with hb23 | hb23
 replace hm:=ite_t hm hb23
 refine tn<|ctv o rfl hb23<|wk<|tn<|wb<|?_
 obtain ⟨r24,h25,hm⟩:=bs hm
 obtain ⟨l42,h43,hm⟩:=bs hm
 refine rdL (sub_cons t1 (sub_cons t3 sub_nil)) 7 u wide fun w u=>ds 0 (St.ldsX u i2 (sub_cons t1 (sub_cons t3 sub_nil))) o rfl (e_fa o fa27_0 rfl) fun a o=>dq 1 (St.ldsX u i2 (sub_cons t1 (sub_cons t3 sub_nil))) o rfl (fun w hl=>e_ld o isAgg22 rfl (hl.cellB t1 rfl)) fun a o=>ds 2 (St.ldsX u i2 (sub_cons t1 (sub_cons t3 sub_nil))) o rfl (e_move o rfl) fun a o=>da1 (i:=3) (by kernel_rfl) ?_
 replace u:=u.pk [0,0,0,0] rfl
 replace u:=St.sep [blk b15 (.cells [.slice oa19 r17.2.L.length cap20,i6 r17.2.At,i6 r17.2.E,i6 r17.2.Pos].toArray 125 (0,0))] u
 refine di (i:=3) rfl<|c1 o rfl call103 (Z4s_c (St.le u) (p1:=r17.2) (b2:=b15) (oa3:=oa19) (cap4:=cap20) hc21 hr22 (St.sepOk u) (St.sepDis u) h25) ⟨rfl,rfl,trivial⟩ (fun v w a hR o=>?_)
 obtain ⟨oa26,cap27,vs28,oa31,cap32,rfl,hv29,hc33,hr34,hk⟩:=hR
 replace u:=(u.mut hk .head).unsep
 replace hv29:=hv29 HB1
 refine ⟨fun _=>(St.ldsX u i2 (sub_cons t2 (sub_cons t4 sub_nil))),?_⟩
 refine da1 (i:=4) (by kernel_rfl) ?_
 obtain ⟨H38,hx35,hr36,hc37,u⟩:=St.frzS u (.tail .head) hv29
 refine di (i:=4) rfl<|a_bsl (e:=23) (sz:=1) [.slice oa26 r24.1.length cap27] o rfl u rfl rfl rfl (fun w=>by kernel_rfl) fun b40 w a u o=>?_
 have hv39:Rows (α:=(List api_Cell)) H38 [.slice oa26 r24.1.length cap27] ([r24.1]:List (List api_Cell)):=(.cons (c:=[.slice oa26 r24.1.length cap27]) ⟨_,_,rfl,hc37,hr36⟩ .nil)
 refine ⟨fun _=>(St.ldsX u hx35.sub (sub_cons t2 (sub_cons t4 sub_nil))),?_⟩
 refine da1 (i:=5) (by kernel_rfl) ?_
 refine di (i:=5) rfl<|m_app (α:=(List api_Cell)) (xs:=vB10) (ys:=([r24.1]:List (List api_Cell))) o rfl u underlying22 info23 rfl (by decide) rfl rfl rfl t3 (hvB14.mono hx35.sub) (u.rdO t0) hv39 h43 fun oa44 cap45 vs46 w a hv47 hU o=>?_
 replace u:=hU _ (.tail (.tail (.tail .head)))
 replace u:=u.drop .head
 refine ⟨fun _=>(St.ldsX u hx35.sub (sub_cons t1 (sub_cons t3 sub_nil))),?_⟩
 refine ds 6 (St.ldsX u hx35.sub (sub_cons t1 (sub_cons t3 sub_nil))) o rfl (e_fa o fa27_0 rfl) fun a o=>da1 (i:=7) (by kernel_rfl) ?_
 refine di (i:=7) rfl<|s_blk o u sizeOf22 rfl rfl rfl rfl (.tail (.tail (.tail .head))) .zero fun w u=>⟨fun h=>absurd rfl h,?_⟩
 refine de (by kernel_rfl)<|bn<|tn<|?_
 replace u:=u.pk [1,0,0,0] rfl
 exact ⟨(nn2,r24.2.L,r24.2.At,r24.2.E,r24.2.Pos,l42),⟨H38,oa31,cap32,oa44,cap45,vs46,hm,(Ext.trans hxHB1 hx35),o.hs,u,hc33,(hr34.mono hx35.sub),hv47⟩,Nat.lt_succ_self _⟩
 replace hm:=ite_f hm hb23
 refine tn<|cfv o rfl hb23<|we<|tx<|tx<|bx<|tn<|?_
 replace u:=u.pk [1,0,0,0] rfl
 exact ⟨r17.2.L,r17.2.At,r17.2.E,r17.2.Pos,vB10,HB1,oa19,cap20,oaB11,capB12,vsB13,hm,hxHB1,o.hs,u,hc21,hr22,hvB14⟩
 rintro a w ⟨vA2,vA7,vA8,vA9,vA10,HA1,oaA3,capA4,oaA11,capA12,vsA13,hm,hxHA1,o,u,hcA5,hrA6,hvA14⟩
 unfold Z53 at hm
 refine th<|midK (fun a w=>∃ (vA16:(List api_Token)) (vA21:Int) (vA22:Int) (vA23:Int) (vA24:(List api_Cell)) (oaA17:Option Addr) (capA18:Nat) (oaA25:Option Addr) (capA26:Nat) (vsA27:List Value),(Z56 N rz3 vA10) vA16 vA21 vA22 vA23 vA24=some r∧Fr 128 [(2,.pointer (some ⟨b2,0,none⟩)),(5,.slice oa5 rz3.1.length cap6),(8,.pointer (some ⟨b15,0,none⟩)),(9,.pointer (some ⟨b16,0,none⟩))] a∧St w0 Nil [HA1] [blk b2 (.cells [.slice none 0 0,.slice none 0 0,.slice none 0 0,.slice none 0 0,.slice none 0 0,.slice none 0 0].toArray 27 (0,0)),blk b15 (.cells [.slice oaA17 vA16.length capA18,i6 vA21,i6 vA22,i6 vA23].toArray 125 (0,0)),sla 23 1 oaA11 vA10.length capA12 vsA13,sla 53 3 oaA25 vA24.length capA26 vsA27,blk b16 (.cells [.slice oaA11 vA10.length capA12,.slice oaA25 vA24.length capA26,.slice none 0 0,.slice none 0 0,.slice none 0 0,.slice none 0 0].toArray 27 (0,0))] w∧vA16.length≤capA18∧SR HA1 oaA17 vA16∧Rows HA1 vsA27 vA24) ?_ ?_
 replace u:=St.nilS u 53 3
 replace u:=u.pk [1,1,1,0,0] rfl
 refine wb<|lp (α:=Nat×(List api_Token)×Int×Int×Int×(List api_Cell)) (fun gh a w=>match gh with | (nn4,vB16,vB21,vB22,vB23,vB24)=>∃ (oaB17:Option Addr) (capB18:Nat) (oaB25:Option Addr) (capB26:Nat) (vsB27:List Value),(Z5c N (Z56 N rz3 vA10)) nn4 vB16 vB21 vB22 vB23 vB24=some r∧Fr 128 [(2,.pointer (some ⟨b2,0,none⟩)),(5,.slice oa5 rz3.1.length cap6),(8,.pointer (some ⟨b15,0,none⟩)),(9,.pointer (some ⟨b16,0,none⟩))] a∧St w0 Nil [HA1] [blk b2 (.cells [.slice none 0 0,.slice none 0 0,.slice none 0 0,.slice none 0 0,.slice none 0 0,.slice none 0 0].toArray 27 (0,0)),blk b15 (.cells [.slice oaB17 vB16.length capB18,i6 vB21,i6 vB22,i6 vB23].toArray 125 (0,0)),sla 23 1 oaA11 vA10.length capA12 vsA13,sla 53 3 oaB25 vB24.length capB26 vsB27,blk b16 (.cells [.slice oaA11 vA10.length capA12,.slice oaB25 vB24.length capB26,.slice none 0 0,.slice none 0 0,.slice none 0 0,.slice none 0 0].toArray 27 (0,0))] w∧vB16.length≤capB18∧SR HA1 oaB17 vB16∧Rows HA1 vsB27 vB24) (fun gh=>gh.1) (N,vA2,vA7,vA8,vA9,[]) ⟨oaA3,capA4,none,0,[],hm,o.hs,u,hcA5,hrA6,.nil⟩ ?_
 rintro ⟨nn4,vB16,vB21,vB22,vB23,vB24⟩ a w ⟨oaB17,capB18,oaB25,capB26,vsB27,hm,o,u,hcB19,hrB20,hvB28⟩
 obtain _ | nn4:=nn4
 simp [Z5c] at hm
 rw [Z5c] at hm
 refine th<|th<|?_
 obtain ⟨r48,h49,hm⟩:=bs hm
 refine rg<|qm o rfl fun a o=>?_
 replace u:=u.pk [1,0,0,0,0] rfl
 replace u:=St.sep [blk b15 (.cells [.slice oaB17 vB16.length capB18,i6 vB21,i6 vB22,i6 vB23].toArray 125 (0,0))] u
 refine ls<|c1 o rfl call102 (Z4n_c (St.le u) (p1:=(leadlineref05_In.mk vB16 vB21 vB22 vB23)) (b2:=b15) (oa3:=oaB17) (cap4:=capB18) hcB19 hrB20 (St.sepOk u) (St.sepDis u) h49) ⟨rfl,rfl,trivial⟩ (fun v w a hR o=>?_)
 obtain ⟨oa50,cap51,rfl,hc52,hr53,hk⟩:=hR
 replace u:=(u.mut hk .head).unsep
 refine re<|?_
 rcases bdich r48.1 with hb54 | hb54
 replace hm:=ite_t hm hb54
 refine tn<|ctv o rfl hb54<|wk<|tn<|wb<|?_
 obtain ⟨r55,h56,hm⟩:=bs hm
 obtain ⟨l66,h67,hm⟩:=bs hm
 refine rdL (sub_cons t1 (sub_cons t2 (sub_cons t4 sub_nil))) 6 u wide fun w u=>ds 0 (St.ldsX u i2 (sub_cons t1 (sub_cons t2 (sub_cons t4 sub_nil)))) o rfl (e_fa o fa27_1 rfl) fun a o=>dq 1 (St.ldsX u i2 (sub_cons t1 (sub_cons t2 (sub_cons t4 sub_nil)))) o rfl (fun w hl=>e_ld o isAgg23 rfl (hl.cellB t2 rfl)) fun a o=>ds 2 (St.ldsX u i2 (sub_cons t1 (sub_cons t2 (sub_cons t4 sub_nil)))) o rfl (e_move o rfl) fun a o=>da1 (i:=3) (by kernel_rfl) ?_
 replace u:=u.pk [0,0,0,0,0] rfl
 replace u:=St.sep [blk b15 (.cells [.slice oa50 r48.2.L.length cap51,i6 r48.2.At,i6 r48.2.E,i6 r48.2.Pos].toArray 125 (0,0))] u
 refine di (i:=3) rfl<|c1 o rfl call103 (Z4s_c (St.le u) (p1:=r48.2) (b2:=b15) (oa3:=oa50) (cap4:=cap51) hc52 hr53 (St.sepOk u) (St.sepDis u) h56) ⟨rfl,rfl,trivial⟩ (fun v w a hR o=>?_)
 obtain ⟨oa57,cap58,vs59,oa62,cap63,rfl,hv60,hc64,hr65,hk⟩:=hR
 replace u:=(u.mut hk .head).unsep
 replace hv60:=hv60 HA1
 refine ⟨fun _=>(St.ldsX u i2 (sub_cons t2 (sub_cons t3 (sub_cons t5 sub_nil)))),?_⟩
 refine da1 (i:=4) (by kernel_rfl) ?_
 refine di (i:=4) rfl<|m_app (α:=api_Cell) (xs:=vB24) (ys:=r55.1) o rfl u underlying23 info53 rfl (by decide) rfl rfl rfl t4 hvB28 (u.rdO t1) hv60 h67 fun oa68 cap69 vs70 w a hv71 hU o=>?_
 replace u:=hU _ (.tail (.tail (.tail (.tail .head))))
 refine ⟨fun _=>(St.ldsX u i2 (sub_cons t2 (sub_cons t3 (sub_cons t5 sub_nil)))),?_⟩
 refine ds 5 (St.ldsX u i2 (sub_cons t2 (sub_cons t3 (sub_cons t5 sub_nil)))) o rfl (e_fa o fa27_1 rfl) fun a o=>da1 (i:=6) (by kernel_rfl) ?_
 refine di (i:=6) rfl<|s_blk o u sizeOf23 rfl rfl rfl rfl (.tail (.tail (.tail (.tail (.tail .head))))) (.succ .zero) fun w u=>⟨fun h=>absurd rfl h,?_⟩
 refine de (by kernel_rfl)<|bn<|tn<|?_
 replace u:=u.pk [2,0,1,1,1] rfl
 exact ⟨(nn4,r55.2.L,r55.2.At,r55.2.E,r55.2.Pos,l66),⟨oa62,cap63,oa68,cap69,vs70,hm,o.hs,u,hc64,hr65,hv71⟩,Nat.lt_succ_self _⟩
 replace hm:=ite_f hm hb54
 refine tn<|cfv o rfl hb54<|we<|tx<|tx<|bx<|tn<|?_
 replace u:=u.pk [1,0,0,0,0] rfl
 exact ⟨r48.2.L,r48.2.At,r48.2.E,r48.2.Pos,vB24,oa50,cap51,oaB25,capB26,vsB27,hm,o.hs,u,hc52,hr53,hvB28⟩
 rintro a w ⟨vA16,vA21,vA22,vA23,vA24,oaA17,capA18,oaA25,capA26,vsA27,hm,o,u,hcA19,hrA20,hvA28⟩
 unfold Z56 at hm
 refine th<|midK (fun a w=>∃ (vA30:(List api_Token)) (vA35:Int) (vA36:Int) (vA37:Int) (vA38:(List api_Cell)) (oaA31:Option Addr) (capA32:Nat) (oaA39:Option Addr) (capA40:Nat) (vsA41:List Value),(Z57 N rz3 vA10 vA24) vA30 vA35 vA36 vA37 vA38=some r∧Fr 128 [(2,.pointer (some ⟨b2,0,none⟩)),(5,.slice oa5 rz3.1.length cap6),(8,.pointer (some ⟨b15,0,none⟩)),(9,.pointer (some ⟨b16,0,none⟩))] a∧St w0 Nil [HA1] [blk b2 (.cells [.slice none 0 0,.slice none 0 0,.slice none 0 0,.slice none 0 0,.slice none 0 0,.slice none 0 0].toArray 27 (0,0)),blk b15 (.cells [.slice oaA31 vA30.length capA32,i6 vA35,i6 vA36,i6 vA37].toArray 125 (0,0)),sla 23 1 oaA11 vA10.length capA12 vsA13,sla 53 3 oaA25 vA24.length capA26 vsA27,sla 53 3 oaA39 vA38.length capA40 vsA41,blk b16 (.cells [.slice oaA11 vA10.length capA12,.slice oaA25 vA24.length capA26,.slice oaA39 vA38.length capA40,.slice none 0 0,.slice none 0 0,.slice none 0 0].toArray 27 (0,0))] w∧vA30.length≤capA32∧SR HA1 oaA31 vA30∧Rows HA1 vsA41 vA38) ?_ ?_
 replace u:=St.nilS u 53 3
 replace u:=u.pk [1,1,1,1,0,0] rfl
 refine wb<|lp (α:=Nat×(List api_Token)×Int×Int×Int×(List api_Cell)) (fun gh a w=>match gh with | (nn6,vB30,vB35,vB36,vB37,vB38)=>∃ (oaB31:Option Addr) (capB32:Nat) (oaB39:Option Addr) (capB40:Nat) (vsB41:List Value),(Z5d N (Z57 N rz3 vA10 vA24)) nn6 vB30 vB35 vB36 vB37 vB38=some r∧Fr 128 [(2,.pointer (some ⟨b2,0,none⟩)),(5,.slice oa5 rz3.1.length cap6),(8,.pointer (some ⟨b15,0,none⟩)),(9,.pointer (some ⟨b16,0,none⟩))] a∧St w0 Nil [HA1] [blk b2 (.cells [.slice none 0 0,.slice none 0 0,.slice none 0 0,.slice none 0 0,.slice none 0 0,.slice none 0 0].toArray 27 (0,0)),blk b15 (.cells [.slice oaB31 vB30.length capB32,i6 vB35,i6 vB36,i6 vB37].toArray 125 (0,0)),sla 23 1 oaA11 vA10.length capA12 vsA13,sla 53 3 oaA25 vA24.length capA26 vsA27,sla 53 3 oaB39 vB38.length capB40 vsB41,blk b16 (.cells [.slice oaA11 vA10.length capA12,.slice oaA25 vA24.length capA26,.slice oaB39 vB38.length capB40,.slice none 0 0,.slice none 0 0,.slice none 0 0].toArray 27 (0,0))] w∧vB30.length≤capB32∧SR HA1 oaB31 vB30∧Rows HA1 vsB41 vB38) (fun gh=>gh.1) (N,vA16,vA21,vA22,vA23,[]) ⟨oaA17,capA18,none,0,[],hm,o.hs,u,hcA19,hrA20,.nil⟩ ?_
 rintro ⟨nn6,vB30,vB35,vB36,vB37,vB38⟩ a w ⟨oaB31,capB32,oaB39,capB40,vsB41,hm,o,u,hcB33,hrB34,hvB42⟩
 obtain _ | nn6:=nn6
 simp [Z5d] at hm
 rw [Z5d] at hm
 refine th<|th<|?_
 obtain ⟨r72,h73,hm⟩:=bs hm
 refine rg<|qm o rfl fun a o=>?_
 replace u:=u.pk [1,0,0,0,0,0] rfl
 replace u:=St.sep [blk b15 (.cells [.slice oaB31 vB30.length capB32,i6 vB35,i6 vB36,i6 vB37].toArray 125 (0,0))] u
 refine ls<|c1 o rfl call102 (Z4n_c (St.le u) (p1:=(leadlineref05_In.mk vB30 vB35 vB36 vB37)) (b2:=b15) (oa3:=oaB31) (cap4:=capB32) hcB33 hrB34 (St.sepOk u) (St.sepDis u) h73) ⟨rfl,rfl,trivial⟩ (fun v w a hR o=>?_)
 obtain ⟨oa74,cap75,rfl,hc76,hr77,hk⟩:=hR
 replace u:=(u.mut hk .head).unsep
 refine re<|?_
 rcases bdich r72.1 with hb78 | hb78
 replace hm:=ite_t hm hb78
 refine tn<|ctv o rfl hb78<|wk<|tn<|wb<|?_
 obtain ⟨r79,h80,hm⟩:=bs hm
 obtain ⟨l90,h91,hm⟩:=bs hm
 refine rdL (sub_cons t1 (sub_cons t2 (sub_cons t3 (sub_cons t5 sub_nil)))) 6 u wide fun w u=>ds 0 (St.ldsX u i2 (sub_cons t1 (sub_cons t2 (sub_cons t3 (sub_cons t5 sub_nil))))) o rfl (e_fa o fa27_2 rfl) fun a o=>dq 1 (St.ldsX u i2 (sub_cons t1 (sub_cons t2 (sub_cons t3 (sub_cons t5 sub_nil))))) o rfl (fun w hl=>e_ld o isAgg23 rfl (hl.cellB t3 rfl)) fun a o=>ds 2 (St.ldsX u i2 (sub_cons t1 (sub_cons t2 (sub_cons t3 (sub_cons t5 sub_nil))))) o rfl (e_move o rfl) fun a o=>da1 (i:=3) (by kernel_rfl) ?_
 replace u:=u.pk [0,0,0,0,0,0] rfl
 replace u:=St.sep [blk b15 (.cells [.slice oa74 r72.2.L.length cap75,i6 r72.2.At,i6 r72.2.E,i6 r72.2.Pos].toArray 125 (0,0))] u
 refine di (i:=3) rfl<|c1 o rfl call103 (Z4s_c (St.le u) (p1:=r72.2) (b2:=b15) (oa3:=oa74) (cap4:=cap75) hc76 hr77 (St.sepOk u) (St.sepDis u) h80) ⟨rfl,rfl,trivial⟩ (fun v w a hR o=>?_)
 obtain ⟨oa81,cap82,vs83,oa86,cap87,rfl,hv84,hc88,hr89,hk⟩:=hR
 replace u:=(u.mut hk .head).unsep
 replace hv84:=hv84 HA1
 refine ⟨fun _=>(St.ldsX u i2 (sub_cons t2 (sub_cons t3 (sub_cons t4 (sub_cons t6 sub_nil))))),?_⟩
 refine da1 (i:=4) (by kernel_rfl) ?_
 refine di (i:=4) rfl<|m_app (α:=api_Cell) (xs:=vB38) (ys:=r79.1) o rfl u underlying23 info53 rfl (by decide) rfl rfl rfl t5 hvB42 (u.rdO t1) hv84 h91 fun oa92 cap93 vs94 w a hv95 hU o=>?_
 replace u:=hU _ (.tail (.tail (.tail (.tail (.tail .head)))))
 refine ⟨fun _=>(St.ldsX u i2 (sub_cons t2 (sub_cons t3 (sub_cons t4 (sub_cons t6 sub_nil))))),?_⟩
 refine ds 5 (St.ldsX u i2 (sub_cons t2 (sub_cons t3 (sub_cons t4 (sub_cons t6 sub_nil))))) o rfl (e_fa o fa27_2 rfl) fun a o=>da1 (i:=6) (by kernel_rfl) ?_
 refine di (i:=6) rfl<|s_blk o u sizeOf23 rfl rfl rfl rfl (.tail (.tail (.tail (.tail (.tail (.tail .head)))))) (.succ (.succ .zero)) fun w u=>⟨fun h=>absurd rfl h,?_⟩
 refine de (by kernel_rfl)<|bn<|tn<|?_
 replace u:=u.pk [2,0,1,1,1,1] rfl
 exact ⟨(nn6,r79.2.L,r79.2.At,r79.2.E,r79.2.Pos,l90),⟨oa86,cap87,oa92,cap93,vs94,hm,o.hs,u,hc88,hr89,hv95⟩,Nat.lt_succ_self _⟩
 replace hm:=ite_f hm hb78
 refine tn<|cfv o rfl hb78<|we<|tx<|tx<|bx<|tn<|?_
 replace u:=u.pk [1,0,0,0,0,0] rfl
 exact ⟨r72.2.L,r72.2.At,r72.2.E,r72.2.Pos,vB38,oa74,cap75,oaB39,capB40,vsB41,hm,o.hs,u,hc76,hr77,hvB42⟩
 rintro a w ⟨vA30,vA35,vA36,vA37,vA38,oaA31,capA32,oaA39,capA40,vsA41,hm,o,u,hcA33,hrA34,hvA42⟩
 unfold Z57 at hm
 refine th<|midK (fun a w=>∃ (vA45:(List api_Token)) (vA50:Int) (vA51:Int) (vA52:Int) (vA53:(List api_Thread)) (HA44:PH) (oaA46:Option Addr) (capA47:Nat) (oaA54:Option Addr) (capA55:Nat) (vsA56:List Value),(Z58 N rz3 vA10 vA24 vA38) vA45 vA50 vA51 vA52 vA53=some r∧Ext w0 HA1 HA44∧Fr 128 [(2,.pointer (some ⟨b2,0,none⟩)),(5,.slice oa5 rz3.1.length cap6),(8,.pointer (some ⟨b15,0,none⟩)),(9,.pointer (some ⟨b16,0,none⟩))] a∧St w0 Nil [HA44] [blk b2 (.cells [.slice none 0 0,.slice none 0 0,.slice none 0 0,.slice none 0 0,.slice none 0 0,.slice none 0 0].toArray 27 (0,0)),blk b15 (.cells [.slice oaA46 vA45.length capA47,i6 vA50,i6 vA51,i6 vA52].toArray 125 (0,0)),sla 23 1 oaA11 vA10.length capA12 vsA13,sla 53 3 oaA25 vA24.length capA26 vsA27,sla 53 3 oaA39 vA38.length capA40 vsA41,sla 48 4 oaA54 vA53.length capA55 vsA56,blk b16 (.cells [.slice oaA11 vA10.length capA12,.slice oaA25 vA24.length capA26,.slice oaA39 vA38.length capA40,.slice oaA54 vA53.length capA55,.slice none 0 0,.slice none 0 0].toArray 27 (0,0))] w∧vA45.length≤capA47∧SR HA44 oaA46 vA45∧Rows HA44 vsA56 vA53) ?_ ?_
 replace u:=St.nilS u 48 4
 replace u:=u.pk [1,1,1,1,1,0,0] rfl
 refine wb<|lp (α:=Nat×(List api_Token)×Int×Int×Int×(List api_Thread)) (fun gh a w=>match gh with | (nn8,vB45,vB50,vB51,vB52,vB53)=>∃ (HB44:PH) (oaB46:Option Addr) (capB47:Nat) (oaB54:Option Addr) (capB55:Nat) (vsB56:List Value),(Z5e N (Z58 N rz3 vA10 vA24 vA38)) nn8 vB45 vB50 vB51 vB52 vB53=some r∧Ext w0 HA1 HB44∧Fr 128 [(2,.pointer (some ⟨b2,0,none⟩)),(5,.slice oa5 rz3.1.length cap6),(8,.pointer (some ⟨b15,0,none⟩)),(9,.pointer (some ⟨b16,0,none⟩))] a∧St w0 Nil [HB44] [blk b2 (.cells [.slice none 0 0,.slice none 0 0,.slice none 0 0,.slice none 0 0,.slice none 0 0,.slice none 0 0].toArray 27 (0,0)),blk b15 (.cells [.slice oaB46 vB45.length capB47,i6 vB50,i6 vB51,i6 vB52].toArray 125 (0,0)),sla 23 1 oaA11 vA10.length capA12 vsA13,sla 53 3 oaA25 vA24.length capA26 vsA27,sla 53 3 oaA39 vA38.length capA40 vsA41,sla 48 4 oaB54 vB53.length capB55 vsB56,blk b16 (.cells [.slice oaA11 vA10.length capA12,.slice oaA25 vA24.length capA26,.slice oaA39 vA38.length capA40,.slice oaB54 vB53.length capB55,.slice none 0 0,.slice none 0 0].toArray 27 (0,0))] w∧vB45.length≤capB47∧SR HB44 oaB46 vB45∧Rows HB44 vsB56 vB53) (fun gh=>gh.1) (N,vA30,vA35,vA36,vA37,[]) ⟨HA1,oaA31,capA32,none,0,[],hm,(Ext.refl _ _),o.hs,u,hcA33,hrA34,.nil⟩ ?_
 rintro ⟨nn8,vB45,vB50,vB51,vB52,vB53⟩ a w ⟨HB44,oaB46,capB47,oaB54,capB55,vsB56,hm,hxHB44,o,u,hcB48,hrB49,hvB57⟩
 obtain _ | nn8:=nn8
 simp [Z5e] at hm
 rw [Z5e] at hm
 refine th<|th<|?_
 obtain ⟨r96,h97,hm⟩:=bs hm
 refine rg<|qm o rfl fun a o=>?_
 replace u:=u.pk [1,0,0,0,0,0,0] rfl
 replace u:=St.sep [blk b15 (.cells [.slice oaB46 vB45.length capB47,i6 vB50,i6 vB51,i6 vB52].toArray 125 (0,0))] u
 refine ls<|c1 o rfl call102 (Z4n_c (St.le u) (p1:=(leadlineref05_In.mk vB45 vB50 vB51 vB52)) (b2:=b15) (oa3:=oaB46) (cap4:=capB47) hcB48 hrB49 (St.sepOk u) (St.sepDis u) h97) ⟨rfl,rfl,trivial⟩ (fun v w a hR o=>?_)
 obtain ⟨oa98,cap99,rfl,hc100,hr101,hk⟩:=hR
 replace u:=(u.mut hk .head).unsep
 refine re<|?_
 rcases bdich r96.1 with hb102 | hb102
 replace hm:=ite_t hm hb102
 refine tn<|ctv o rfl hb102<|wk<|tn<|wb<|th<|?_
 obtain ⟨r103,h104,hm⟩:=bs hm
 refine rg<|qm o rfl fun a o=>?_
 replace u:=u.pk [0,0,0,0,0,0,0] rfl
 replace u:=St.sep [blk b15 (.cells [.slice oa98 r96.2.L.length cap99,i6 r96.2.At,i6 r96.2.E,i6 r96.2.Pos].toArray 125 (0,0))] u
 refine ls<|c1 o rfl call104 (Z4q_c (St.le u) (p1:=r96.2) (b2:=b15) (oa3:=oa98) (cap4:=cap99) hc100 hr101 (St.sepOk u) (St.sepDis u) h104) ⟨rfl,trivial⟩ (fun v w a hR o=>?_)
 obtain ⟨oa105,cap106,rfl,hc107,hr108,hk⟩:=hR
 replace u:=(u.mut hk .head).unsep
 refine ls<|a_alloc (cs:=[strv [],i6 0,i6 0].toArray) o rfl u zeroValue53 rfl fun b109 w a u o=>ls<|s_blkA o u sizeOf53 rfl rfl rfl rfl (one_cells rfl) .head fun w u=>re<|tn<|?_
 obtain ⟨r110,h111,hm⟩:=bs hm
 obtain ⟨l133,h134,hm⟩:=bs hm
 refine rdL (sub_cons t0 (sub_cons t2 (sub_cons t3 (sub_cons t4 (sub_cons t5 (sub_cons t7 sub_nil)))))) 12 u wide fun w u=>ds 0 (St.ldsX u i2 (sub_cons t0 (sub_cons t2 (sub_cons t3 (sub_cons t4 (sub_cons t5 (sub_cons t7 sub_nil))))))) o rfl (e_fa o fa27_3 rfl) fun a o=>dq 1 (St.ldsX u i2 (sub_cons t0 (sub_cons t2 (sub_cons t3 (sub_cons t4 (sub_cons t5 (sub_cons t7 sub_nil))))))) o rfl (fun w hl=>e_ld o isAgg24 rfl (hl.cellB t5 rfl)) fun a o=>ds 2 (St.ldsX u i2 (sub_cons t0 (sub_cons t2 (sub_cons t3 (sub_cons t4 (sub_cons t5 (sub_cons t7 sub_nil))))))) o rfl (e_move o rfl) fun a o=>ds 3 (St.ldsX u i2 (sub_cons t0 (sub_cons t2 (sub_cons t3 (sub_cons t4 (sub_cons t5 (sub_cons t7 sub_nil))))))) o rfl (e_fa o fa53_0 rfl) fun a o=>dq 4 (St.ldsX u i2 (sub_cons t0 (sub_cons t2 (sub_cons t3 (sub_cons t4 (sub_cons t5 (sub_cons t7 sub_nil))))))) o rfl (fun w hl=>e_ld o isAgg9 rfl (hl.cellB t0 rfl)) fun a o=>ds 5 (St.ldsX u i2 (sub_cons t0 (sub_cons t2 (sub_cons t3 (sub_cons t4 (sub_cons t5 (sub_cons t7 sub_nil))))))) o rfl (e_fa o fa53_2 rfl) fun a o=>dq 6 (St.ldsX u i2 (sub_cons t0 (sub_cons t2 (sub_cons t3 (sub_cons t4 (sub_cons t5 (sub_cons t7 sub_nil))))))) o rfl (fun w hl=>e_ld o isAgg3 rfl (hl.cellB t0 rfl)) fun a o=>dq 7 (St.ldsX u i2 (sub_cons t0 (sub_cons t2 (sub_cons t3 (sub_cons t4 (sub_cons t5 (sub_cons t7 sub_nil))))))) o rfl (fun w hl=>e_bldK [strv r103.1.Name,i6 r103.1.At] [strv r103.1.Name,.slice none 0 0,.slice none 0 0,i6 r103.1.At] o ⟨rfl,rfl,trivial⟩ (fun w=>by kernel_rfl)) fun a o=>da1 (i:=8) (by kernel_rfl) ?_
 replace u:=u.pk [1,0,0,0,0,0,0,0] rfl
 replace u:=St.sep [blk b15 (.cells [.slice oa105 r103.2.L.length cap106,i6 r103.2.At,i6 r103.2.E,i6 r103.2.Pos].toArray 125 (0,0))] u
 refine di (i:=8) rfl<|c1 o rfl call105 (Z4y_c (St.le u) (p1:=r103.2) (b2:=b15) (oa3:=oa105) (cap4:=cap106) hc107 hr108 (Nat.le_refl _) (SR.nil _ none) (St.sepOk u) (St.sepDis u) h111) ⟨rfl,rfl,trivial⟩ (fun v w a hR o=>?_)
 obtain ⟨H115,cs116,oa126,cap127,rfl,g117,hc128,hr129,hx112,hl113,hd114,hk⟩:=hR
 obtain ⟨u,hx112⟩:=And.intro (St.mutH u hk hx112 hl113 hd114) (St.extc0 u hx112)
 replace u:=u.unsep
 obtain ⟨oa118,cap119,oa122,cap123,rfl,hc120,hr121,hc124,hr125⟩:=api_Thread_open g117
 refine ⟨fun _=>(St.ldsX u hx112.sub (sub_cons t1 (sub_cons t2 (sub_cons t3 (sub_cons t4 (sub_cons t5 (sub_cons t7 sub_nil))))))),?_⟩
 refine da1 (i:=9) (by kernel_rfl) ?_
 refine di (i:=9) rfl<|a_bsl (e:=48) (sz:=4) [strv r110.1.Name,.slice oa118 r110.1.Regs.length cap119,.slice oa122 r110.1.Body.length cap123,i6 r110.1.At] o rfl u rfl rfl rfl (fun w=>by kernel_rfl) fun b131 w a u o=>?_
 have hv130:Rows (α:=api_Thread) H115 [strv r110.1.Name,.slice oa118 r110.1.Regs.length cap119,.slice oa122 r110.1.Body.length cap123,i6 r110.1.At] ([r110.1]:List api_Thread):=(.cons (c:=[strv r110.1.Name,.slice oa118 r110.1.Regs.length cap119,.slice oa122 r110.1.Body.length cap123,i6 r110.1.At]) ⟨_,_,rfl,rfl,⟨_,_,rfl,⟨_,_,rfl,hc120,hr121⟩,⟨_,_,rfl,⟨_,_,rfl,hc124,hr125⟩,rfl⟩⟩⟩ .nil)
 refine ⟨fun _=>(St.ldsX u hx112.sub (sub_cons t2 (sub_cons t3 (sub_cons t4 (sub_cons t5 (sub_cons t6 (sub_cons t8 sub_nil))))))),?_⟩
 refine da1 (i:=10) (by kernel_rfl) ?_
 refine di (i:=10) rfl<|m_app (α:=api_Thread) (xs:=vB53) (ys:=([r110.1]:List api_Thread)) o rfl u underlying24 info48 rfl (by decide) rfl rfl rfl t7 (hvB57.mono hx112.sub) (u.rdO t0) hv130 h134 fun oa135 cap136 vs137 w a hv138 hU o=>?_
 replace u:=hU _ (.tail (.tail (.tail (.tail (.tail (.tail (.tail .head)))))))
 replace u:=u.drop .head
 refine ⟨fun _=>(St.ldsX u hx112.sub (sub_cons t1 (sub_cons t2 (sub_cons t3 (sub_cons t4 (sub_cons t5 (sub_cons t7 sub_nil))))))),?_⟩
 refine ds 11 (St.ldsX u hx112.sub (sub_cons t1 (sub_cons t2 (sub_cons t3 (sub_cons t4 (sub_cons t5 (sub_cons t7 sub_nil))))))) o rfl (e_fa o fa27_3 rfl) fun a o=>da1 (i:=12) (by kernel_rfl) ?_
 refine di (i:=12) rfl<|s_blk o u sizeOf24 rfl rfl rfl rfl (.tail (.tail (.tail (.tail (.tail (.tail (.tail .head))))))) (.succ (.succ (.succ .zero))) fun w u=>⟨fun h=>absurd rfl h,?_⟩
 refine de (by kernel_rfl)<|bn<|tn<|?_
 replace u:=u.pk [2,0,1,1,1,1,1] rfl
 exact ⟨(nn8,r110.2.L,r110.2.At,r110.2.E,r110.2.Pos,l133),⟨H115,oa126,cap127,oa135,cap136,vs137,hm,(Ext.trans hxHB44 hx112),o.hs,u,hc128,hr129,hv138⟩,Nat.lt_succ_self _⟩
 replace hm:=ite_f hm hb102
 refine tn<|cfv o rfl hb102<|we<|tx<|tx<|bx<|tn<|?_
 replace u:=u.pk [1,0,0,0,0,0,0] rfl
 exact ⟨r96.2.L,r96.2.At,r96.2.E,r96.2.Pos,vB53,HB44,oa98,cap99,oaB54,capB55,vsB56,hm,hxHB44,o.hs,u,hc100,hr101,hvB57⟩
 rintro a w ⟨vA45,vA50,vA51,vA52,vA53,HA44,oaA46,capA47,oaA54,capA55,vsA56,hm,hxHA44,o,u,hcA48,hrA49,hvA57⟩
 unfold Z58 at hm
 refine th<|th<|?_
 obtain ⟨r139,h140,hm⟩:=bs hm
 refine rg<|qm o rfl fun a o=>?_
 replace u:=u.pk [1,0,0,0,0,0,0] rfl
 replace u:=St.sep [blk b15 (.cells [.slice oaA46 vA45.length capA47,i6 vA50,i6 vA51,i6 vA52].toArray 125 (0,0))] u
 refine ls<|c1 o rfl call102 (Z4n_c (St.le u) (p1:=(leadlineref05_In.mk vA45 vA50 vA51 vA52)) (b2:=b15) (oa3:=oaA46) (cap4:=capA47) hcA48 hrA49 (St.sepOk u) (St.sepDis u) h140) ⟨rfl,rfl,trivial⟩ (fun v w a hR o=>?_)
 obtain ⟨oa141,cap142,rfl,hc143,hr144,hk⟩:=hR
 replace u:=(u.mut hk .head).unsep
 refine re<|tn<|midK (fun a w=>∃ (vA60:(List api_Token)) (vA65:Int) (vA66:Int) (vA67:Int) (vA68:(List api_Thread)) (HA59:PH) (oaA61:Option Addr) (capA62:Nat) (oaA69:Option Addr) (capA70:Nat) (vsA71:List Value),(Z59 N rz3 vA10 vA24 vA38 vA53) vA60 vA65 vA66 vA67 vA68=some r∧Ext w0 HA44 HA59∧Fr 128 [(2,.pointer (some ⟨b2,0,none⟩)),(5,.slice oa5 rz3.1.length cap6),(8,.pointer (some ⟨b15,0,none⟩)),(9,.pointer (some ⟨b16,0,none⟩))] a∧St w0 Nil [HA59] [blk b2 (.cells [.slice none 0 0,.slice none 0 0,.slice none 0 0,.slice none 0 0,.slice none 0 0,.slice none 0 0].toArray 27 (0,0)),blk b15 (.cells [.slice oaA61 vA60.length capA62,i6 vA65,i6 vA66,i6 vA67].toArray 125 (0,0)),sla 23 1 oaA11 vA10.length capA12 vsA13,sla 53 3 oaA25 vA24.length capA26 vsA27,sla 53 3 oaA39 vA38.length capA40 vsA41,sla 48 4 oaA54 vA53.length capA55 vsA56,sla 48 4 oaA69 vA68.length capA70 vsA71,blk b16 (.cells [.slice oaA11 vA10.length capA12,.slice oaA25 vA24.length capA26,.slice oaA39 vA38.length capA40,.slice oaA54 vA53.length capA55,.slice oaA69 vA68.length capA70,.slice none 0 0].toArray 27 (0,0))] w∧vA60.length≤capA62∧SR HA59 oaA61 vA60∧Rows HA59 vsA71 vA68) ?_ ?_
 rcases bdich r139.1 with hb145 | hb145
 replace hm:=ite_t hm hb145
 refine ctv o rfl hb145<|?_
 obtain ⟨x146,h147,hm⟩:=bs hm
 obtain ⟨c148,g149,hl150⟩:=SR.get hr12 h147
 obtain rfl:=api_Token_open g149
 obtain ⟨r151,h152,hm⟩:=bs hm
 obtain ⟨l174,h175,hm⟩:=bs hm
 refine rdL (sub_cons t1 (sub_cons t2 (sub_cons t3 (sub_cons t4 (sub_cons t5 (sub_cons t6 sub_nil)))))) 17 u wide fun w u=>ds 0 (St.ldsX u i2 ta1) o rfl (e_fa o fa27_4 rfl) fun a o=>dq 1 (St.ldsX u i2 ta1) o rfl (fun w hl=>e_ld o isAgg24 rfl (hl.cellB t5 rfl)) fun a o=>ds 2 (St.ldsX u i2 ta1) o rfl (e_move o rfl) fun a o=>ds 3 (St.ldsX u i2 ta1) o rfl (e_move o rfl) fun a o=>ds 4 (St.ldsX u i2 ta1) o rfl (e_move o rfl) fun a o=>ds 5 (St.ldsX u i2 ta1) o rfl (e_nilp o rfl) fun a o=>ds 6 (St.ldsX u i2 ta1) o rfl (e_fa o fa125_1 rfl) fun a o=>da1 (i:=7) (by kernel_rfl) ?_
 refine di (i:=7) rfl<|q1 o rfl (e_ld o isAgg3 rfl ((St.ld u).cellB t0 rfl)) fun a o=>⟨fun _=>(St.ldsX u i2 ta1),?_⟩
 refine ds 8 (St.ldsX u i2 ta1) o rfl (e_sub o rfl rfl) fun a o=>ds 9 (St.ldsX u i2 ta1) o rfl (e_iaI o runUnderlying120 sizeOf130 rfl rfl h147 (SR.oaI hr12 (by decide) h147)) fun a o=>ds 10 (St.ldsX u i2 ta1) o rfl (e_fa o fa130_3 rfl) fun a o=>dq 11 (St.ldsX u i2 ta1) o rfl (fun w hl=>e_ld o isAgg3 rfl (PH.le.cell (fun b o hx=>(Lds.le hl) b o ((cp hxHA44.sub hxHA1.sub) b o hx)) (hl150 3 _ rfl))) fun a o=>dq 12 (St.ldsX u i2 ta1) o rfl (fun w hl=>e_bldK [i6 x146.At] [strv [],.slice none 0 0,.slice none 0 0,i6 x146.At] o ⟨rfl,trivial⟩ (fun w=>by kernel_rfl)) fun a o=>da1 (i:=13) (by kernel_rfl) ?_
 replace u:=u.pk [0,0,0,0,0,0,0] rfl
 replace u:=St.sep [blk b15 (.cells [.slice oa141 r139.2.L.length cap142,i6 r139.2.At,i6 r139.2.E,i6 r139.2.Pos].toArray 125 (0,0))] u
 refine di (i:=13) rfl<|c1 o rfl call105 (Z4y_c (St.le u) (p1:=r139.2) (b2:=b15) (oa3:=oa141) (cap4:=cap142) hc143 hr144 (Nat.le_refl _) (SR.nil _ none) (St.sepOk u) (St.sepDis u) h152) ⟨rfl,rfl,trivial⟩ (fun v w a hR o=>?_)
 obtain ⟨H156,cs157,oa167,cap168,rfl,g158,hc169,hr170,hx153,hl154,hd155,hk⟩:=hR
 obtain ⟨u,hx153⟩:=And.intro (St.mutH u hk hx153 hl154 hd155) (St.extc0 u hx153)
 replace u:=u.unsep
 obtain ⟨oa159,cap160,oa163,cap164,rfl,hc161,hr162,hc165,hr166⟩:=api_Thread_open g158
 refine ⟨fun _=>(St.ldsX u hx153.sub ta1),?_⟩
 refine da1 (i:=14) (by kernel_rfl) ?_
 refine di (i:=14) rfl<|a_bsl (e:=48) (sz:=4) [strv r151.1.Name,.slice oa159 r151.1.Regs.length cap160,.slice oa163 r151.1.Body.length cap164,i6 r151.1.At] o rfl u rfl rfl rfl (fun w=>by kernel_rfl) fun b172 w a u o=>?_
 have hv171:Rows (α:=api_Thread) H156 [strv r151.1.Name,.slice oa159 r151.1.Regs.length cap160,.slice oa163 r151.1.Body.length cap164,i6 r151.1.At] ([r151.1]:List api_Thread):=(.cons (c:=[strv r151.1.Name,.slice oa159 r151.1.Regs.length cap160,.slice oa163 r151.1.Body.length cap164,i6 r151.1.At]) ⟨_,_,rfl,rfl,⟨_,_,rfl,⟨_,_,rfl,hc161,hr162⟩,⟨_,_,rfl,⟨_,_,rfl,hc165,hr166⟩,rfl⟩⟩⟩ .nil)
 refine ⟨fun _=>(St.ldsX u hx153.sub ta2),?_⟩
 refine da1 (i:=15) (by kernel_rfl) ?_
 replace u:=St.nilS u 48 4
 refine di (i:=15) rfl<|m_app (α:=api_Thread) (xs:=[]) (ys:=([r151.1]:List api_Thread)) o rfl u underlying24 info48 rfl (by decide) rfl rfl rfl t0 .nil (u.rdO t1) hv171 h175 fun oa176 cap177 vs178 w a hv179 hU o=>?_
 replace u:=hU _ .head
 replace u:=u.drop (.tail .head)
 refine ⟨fun _=>(St.ldsX u hx153.sub ta2),?_⟩
 refine ds 16 (St.ldsX u hx153.sub ta2) o rfl (e_fa o fa27_4 rfl) fun a o=>da1 (i:=17) (by kernel_rfl) ?_
 refine di (i:=17) rfl<|s_blk o u sizeOf24 rfl rfl rfl rfl (.tail (.tail (.tail (.tail (.tail (.tail (.tail .head))))))) (.succ (.succ (.succ (.succ .zero)))) fun w u=>⟨fun h=>absurd rfl h,?_⟩
 refine de (by kernel_rfl)<|tn<|?_
 replace u:=u.pk [2,1,1,1,1,1,0,0] rfl
 exact ⟨r151.2.L,r151.2.At,r151.2.E,r151.2.Pos,l174,H156,oa167,cap168,oa176,cap177,vs178,hm,hx153,o.hs,u,hc169,hr170,hv179⟩
 replace hm:=ite_f hm hb145
 refine cfv o rfl hb145<|wk<|tn<|?_
 replace u:=St.nilS u 48 4
 replace u:=u.pk [2,1,1,1,1,1,0,0] rfl
 exact ⟨r139.2.L,r139.2.At,r139.2.E,r139.2.Pos,[],HA44,oa141,cap142,none,0,[],hm,(Ext.refl _ _),o.hs,u,hc143,hr144,.nil⟩
 rintro a w ⟨vA60,vA65,vA66,vA67,vA68,HA59,oaA61,capA62,oaA69,capA70,vsA71,hm,hxHA59,o,u,hcA63,hrA64,hvA72⟩
 unfold Z59 at hm
 refine th<|midK (fun a w=>∃ (vA75:(List api_Token)) (vA80:Int) (vA81:Int) (vA82:Int) (vA83:(List api_Claim)) (HA74:PH) (oaA76:Option Addr) (capA77:Nat) (oaA84:Option Addr) (capA85:Nat) (vsA86:List Value),(Z54 N rz3 vA10 vA24 vA38 vA53 vA68) vA75 vA80 vA81 vA82 vA83=some r∧Ext w0 HA59 HA74∧Fr 128 [(2,.pointer (some ⟨b2,0,none⟩)),(5,.slice oa5 rz3.1.length cap6),(8,.pointer (some ⟨b15,0,none⟩)),(9,.pointer (some ⟨b16,0,none⟩))] a∧St w0 Nil [HA74] [blk b2 (.cells [.slice none 0 0,.slice none 0 0,.slice none 0 0,.slice none 0 0,.slice none 0 0,.slice none 0 0].toArray 27 (0,0)),blk b15 (.cells [.slice oaA76 vA75.length capA77,i6 vA80,i6 vA81,i6 vA82].toArray 125 (0,0)),sla 23 1 oaA11 vA10.length capA12 vsA13,sla 53 3 oaA25 vA24.length capA26 vsA27,sla 53 3 oaA39 vA38.length capA40 vsA41,sla 48 4 oaA54 vA53.length capA55 vsA56,sla 48 4 oaA69 vA68.length capA70 vsA71,sla 74 2 oaA84 vA83.length capA85 vsA86,blk b16 (.cells [.slice oaA11 vA10.length capA12,.slice oaA25 vA24.length capA26,.slice oaA39 vA38.length capA40,.slice oaA54 vA53.length capA55,.slice oaA69 vA68.length capA70,.slice oaA84 vA83.length capA85].toArray 27 (0,0))] w∧vA75.length≤capA77∧SR HA74 oaA76 vA75∧Rows HA74 vsA86 vA83) ?_ ?_
 replace u:=St.nilS u 74 2
 replace u:=u.pk [1,1,1,1,1,1,1,0,0] rfl
 refine wb<|lp (α:=Nat×(List api_Token)×Int×Int×Int×(List api_Claim)) (fun gh a w=>match gh with | (nn11,vB60,vB65,vB66,vB67,vB68)=>∃ (HB59:PH) (oaB61:Option Addr) (capB62:Nat) (oaB69:Option Addr) (capB70:Nat) (vsB71:List Value),(Z5a N (Z54 N rz3 vA10 vA24 vA38 vA53 vA68) rz3) nn11 vB60 vB65 vB66 vB67 vB68=some r∧Ext w0 HA59 HB59∧Fr 128 [(2,.pointer (some ⟨b2,0,none⟩)),(5,.slice oa5 rz3.1.length cap6),(8,.pointer (some ⟨b15,0,none⟩)),(9,.pointer (some ⟨b16,0,none⟩))] a∧St w0 Nil [HB59] [blk b2 (.cells [.slice none 0 0,.slice none 0 0,.slice none 0 0,.slice none 0 0,.slice none 0 0,.slice none 0 0].toArray 27 (0,0)),blk b15 (.cells [.slice oaB61 vB60.length capB62,i6 vB65,i6 vB66,i6 vB67].toArray 125 (0,0)),sla 23 1 oaA11 vA10.length capA12 vsA13,sla 53 3 oaA25 vA24.length capA26 vsA27,sla 53 3 oaA39 vA38.length capA40 vsA41,sla 48 4 oaA54 vA53.length capA55 vsA56,sla 48 4 oaA69 vA68.length capA70 vsA71,sla 74 2 oaB69 vB68.length capB70 vsB71,blk b16 (.cells [.slice oaA11 vA10.length capA12,.slice oaA25 vA24.length capA26,.slice oaA39 vA38.length capA40,.slice oaA54 vA53.length capA55,.slice oaA69 vA68.length capA70,.slice oaB69 vB68.length capB70].toArray 27 (0,0))] w∧vB60.length≤capB62∧SR HB59 oaB61 vB60∧Rows HB59 vsB71 vB68) (fun gh=>gh.1) (N,vA60,vA65,vA66,vA67,[]) ⟨HA59,oaA61,capA62,none,0,[],hm,(Ext.refl _ _),o.hs,u,hcA63,hrA64,.nil⟩ ?_
 rintro ⟨nn11,vB60,vB65,vB66,vB67,vB68⟩ a w ⟨HB59,oaB61,capB62,oaB69,capB70,vsB71,hm,hxHB59,o,u,hcB63,hrB64,hvB72⟩
 obtain _ | nn11:=nn11
 simp [Z5a] at hm
 rw [Z5a] at hm
 refine th<|th<|?_
 obtain ⟨r181,h182,hm⟩:=bs hm
 refine rg<|qm o rfl fun a o=>?_
 replace u:=u.pk [1,0,0,0,0,0,0,0,0] rfl
 replace u:=St.sep [blk b15 (.cells [.slice oaB61 vB60.length capB62,i6 vB65,i6 vB66,i6 vB67].toArray 125 (0,0))] u
 refine ls<|c1 o rfl call102 (Z4n_c (St.le u) (p1:=(leadlineref05_In.mk vB60 vB65 vB66 vB67)) (b2:=b15) (oa3:=oaB61) (cap4:=capB62) hcB63 hrB64 (St.sepOk u) (St.sepDis u) h182) ⟨rfl,rfl,trivial⟩ (fun v w a hR o=>?_)
 obtain ⟨oa183,cap184,rfl,hc185,hr186,hk⟩:=hR
 replace u:=(u.mut hk .head).unsep
 refine re<|?_
 rcases bdich r181.1 with hb187 | hb187
 replace hm:=ite_t hm hb187
 refine tn<|ctv o rfl hb187<|wk<|tn<|wb<|?_
 obtain ⟨x188,h189,hm⟩:=bs hm
 obtain ⟨c190,g191,hl192⟩:=SR.get hr12 h189
 obtain rfl:=api_Token_open g191
 obtain ⟨r193,h194,hm⟩:=bs hm
 obtain ⟨l212,h213,hm⟩:=bs hm
 refine rdL (sub_cons t1 (sub_cons t2 (sub_cons t3 (sub_cons t4 (sub_cons t5 (sub_cons t6 (sub_cons t8 sub_nil))))))) 16 u wide fun w u=>ds 0 (St.ldsX u i2 (sub_cons t1 (sub_cons t2 (sub_cons t3 (sub_cons t4 (sub_cons t5 (sub_cons t6 (sub_cons t8 sub_nil)))))))) o rfl (e_fa o fa27_5 rfl) fun a o=>dq 1 (St.ldsX u i2 (sub_cons t1 (sub_cons t2 (sub_cons t3 (sub_cons t4 (sub_cons t5 (sub_cons t6 (sub_cons t8 sub_nil)))))))) o rfl (fun w hl=>e_ld o isAgg25 rfl (hl.cellB t6 rfl)) fun a o=>ds 2 (St.ldsX u i2 (sub_cons t1 (sub_cons t2 (sub_cons t3 (sub_cons t4 (sub_cons t5 (sub_cons t6 (sub_cons t8 sub_nil)))))))) o rfl (e_move o rfl) fun a o=>ds 3 (St.ldsX u i2 (sub_cons t1 (sub_cons t2 (sub_cons t3 (sub_cons t4 (sub_cons t5 (sub_cons t6 (sub_cons t8 sub_nil)))))))) o rfl (e_move o rfl) fun a o=>ds 4 (St.ldsX u i2 (sub_cons t1 (sub_cons t2 (sub_cons t3 (sub_cons t4 (sub_cons t5 (sub_cons t6 (sub_cons t8 sub_nil)))))))) o rfl (e_move o rfl) fun a o=>ds 5 (St.ldsX u i2 (sub_cons t1 (sub_cons t2 (sub_cons t3 (sub_cons t4 (sub_cons t5 (sub_cons t6 (sub_cons t8 sub_nil)))))))) o rfl (e_nilp o rfl) fun a o=>ds 6 (St.ldsX u i2 (sub_cons t1 (sub_cons t2 (sub_cons t3 (sub_cons t4 (sub_cons t5 (sub_cons t6 (sub_cons t8 sub_nil)))))))) o rfl (e_fa o fa125_1 rfl) fun a o=>da1 (i:=7) (by kernel_rfl) ?_
 refine di (i:=7) rfl<|q1 o rfl (e_ld o isAgg3 rfl ((St.ld u).cellB t0 rfl)) fun a o=>⟨fun _=>(St.ldsX u i2 (sub_cons t1 (sub_cons t2 (sub_cons t3 (sub_cons t4 (sub_cons t5 (sub_cons t6 (sub_cons t8 sub_nil)))))))),?_⟩
 refine ds 8 (St.ldsX u i2 (sub_cons t1 (sub_cons t2 (sub_cons t3 (sub_cons t4 (sub_cons t5 (sub_cons t6 (sub_cons t8 sub_nil)))))))) o rfl (e_sub o rfl rfl) fun a o=>ds 9 (St.ldsX u i2 (sub_cons t1 (sub_cons t2 (sub_cons t3 (sub_cons t4 (sub_cons t5 (sub_cons t6 (sub_cons t8 sub_nil)))))))) o rfl (e_iaI o runUnderlying120 sizeOf130 rfl rfl h189 (SR.oaI hr12 (by decide) h189)) fun a o=>ds 10 (St.ldsX u i2 (sub_cons t1 (sub_cons t2 (sub_cons t3 (sub_cons t4 (sub_cons t5 (sub_cons t6 (sub_cons t8 sub_nil)))))))) o rfl (e_fa o fa130_3 rfl) fun a o=>dq 11 (St.ldsX u i2 (sub_cons t1 (sub_cons t2 (sub_cons t3 (sub_cons t4 (sub_cons t5 (sub_cons t6 (sub_cons t8 sub_nil)))))))) o rfl (fun w hl=>e_ld o isAgg3 rfl (PH.le.cell (fun b o hx=>(Lds.le hl) b o ((cp (cp (cp hxHB59.sub hxHA59.sub) hxHA44.sub) hxHA1.sub) b o hx)) (hl192 3 _ rfl))) fun a o=>da1 (i:=12) (by kernel_rfl) ?_
 replace u:=u.pk [0,0,0,0,0,0,0,0,0] rfl
 replace u:=St.sep [blk b15 (.cells [.slice oa183 r181.2.L.length cap184,i6 r181.2.At,i6 r181.2.E,i6 r181.2.Pos].toArray 125 (0,0))] u
 refine di (i:=12) rfl<|c1 o rfl call106 (Z4m_c (St.le u) (p1:=r181.2) (b2:=b15) (oa3:=oa183) (cap4:=cap184) hc185 hr186 (St.sepOk u) (St.sepDis u) h194) ⟨rfl,rfl,trivial⟩ (fun v w a hR o=>?_)
 obtain ⟨H198,cs199,oa205,cap206,rfl,g200,hc207,hr208,hx195,hl196,hd197,hk⟩:=hR
 obtain ⟨u,hx195⟩:=And.intro (St.mutH u hk hx195 hl196 hd197) (St.extc0 u hx195)
 replace u:=u.unsep
 obtain ⟨oa201,cap202,rfl,hc203,hr204⟩:=api_Claim_open g200
 refine ⟨fun _=>(St.ldsX u hx195.sub (sub_cons t1 (sub_cons t2 (sub_cons t3 (sub_cons t4 (sub_cons t5 (sub_cons t6 (sub_cons t8 sub_nil)))))))),?_⟩
 refine da1 (i:=13) (by kernel_rfl) ?_
 refine di (i:=13) rfl<|a_bsl (e:=74) (sz:=2) [.slice oa201 r193.1.E.length cap202,i6 r193.1.At] o rfl u rfl rfl rfl (fun w=>by kernel_rfl) fun b210 w a u o=>?_
 have hv209:Rows (α:=api_Claim) H198 [.slice oa201 r193.1.E.length cap202,i6 r193.1.At] ([r193.1]:List api_Claim):=(.cons (c:=[.slice oa201 r193.1.E.length cap202,i6 r193.1.At]) ⟨_,_,rfl,⟨_,_,rfl,hc203,hr204⟩,rfl⟩ .nil)
 refine ⟨fun _=>(St.ldsX u hx195.sub (sub_cons t2 (sub_cons t3 (sub_cons t4 (sub_cons t5 (sub_cons t6 (sub_cons t7 (sub_cons t9 sub_nil)))))))),?_⟩
 refine da1 (i:=14) (by kernel_rfl) ?_
 refine di (i:=14) rfl<|m_app (α:=api_Claim) (xs:=vB68) (ys:=([r193.1]:List api_Claim)) o rfl u underlying25 info74 rfl (by decide) rfl rfl rfl t8 (hvB72.mono hx195.sub) (u.rdO t0) hv209 h213 fun oa214 cap215 vs216 w a hv217 hU o=>?_
 replace u:=hU _ (.tail (.tail (.tail (.tail (.tail (.tail (.tail (.tail .head))))))))
 replace u:=u.drop .head
 refine ⟨fun _=>(St.ldsX u hx195.sub (sub_cons t1 (sub_cons t2 (sub_cons t3 (sub_cons t4 (sub_cons t5 (sub_cons t6 (sub_cons t8 sub_nil)))))))),?_⟩
 refine ds 15 (St.ldsX u hx195.sub (sub_cons t1 (sub_cons t2 (sub_cons t3 (sub_cons t4 (sub_cons t5 (sub_cons t6 (sub_cons t8 sub_nil)))))))) o rfl (e_fa o fa27_5 rfl) fun a o=>da1 (i:=16) (by kernel_rfl) ?_
 refine di (i:=16) rfl<|s_blk o u sizeOf25 rfl rfl rfl rfl (.tail (.tail (.tail (.tail (.tail (.tail (.tail (.tail .head)))))))) (.succ (.succ (.succ (.succ (.succ .zero))))) fun w u=>⟨fun h=>absurd rfl h,?_⟩
 refine de (by kernel_rfl)<|bn<|tn<|?_
 replace u:=u.pk [1,0,0,0,0,0,0,0,0] rfl
 exact ⟨(nn11,r193.2.L,r193.2.At,r193.2.E,r193.2.Pos,l212),⟨H198,oa205,cap206,oa214,cap215,vs216,hm,(Ext.trans hxHB59 hx195),o.hs,u,hc207,hr208,hv217⟩,Nat.lt_succ_self _⟩
 replace hm:=ite_f hm hb187
 refine tn<|cfv o rfl hb187<|we<|tx<|tx<|bx<|tn<|?_
 replace u:=u.pk [1,0,0,0,0,0,0,0,0] rfl
 exact ⟨r181.2.L,r181.2.At,r181.2.E,r181.2.Pos,vB68,HB59,oa183,cap184,oaB69,capB70,vsB71,hm,hxHB59,o.hs,u,hc185,hr186,hvB72⟩
 rintro a w ⟨vA75,vA80,vA81,vA82,vA83,HA74,oaA76,capA77,oaA84,capA85,vsA86,hm,hxHA74,o,u,hcA78,hrA79,hvA87⟩
 unfold Z54 at hm
 refine th<|th<|rg<|qm o rfl fun a o=>qv o (e_nilp o rfl) fun a o=>qv o (e_fa o fa125_1 rfl) fun a o=>qv o (e_ld o isAgg3 rfl ((St.ld u).cellB t1 rfl)) fun a o=>qm o rfl fun a o=>qv o (e_lenL (α:=api_Token) (xs:=rz3.1) o runUnderlying120 rfl) fun a o=>qv o (e_lss o rfl rfl) fun a o=>re<|tn<|midK (fun a w=>∃ (vA89:(List api_Token)) (vA94:Int) (vA95:Int) (vA96:Int) (oaA90:Option Addr) (capA91:Nat),(Z55 vA10 vA24 vA38 vA53 vA68 vA83) vA89 vA94 vA95 vA96=some r∧Fr 128 [(2,.pointer (some ⟨b2,0,none⟩)),(8,.pointer (some ⟨b15,0,none⟩)),(9,.pointer (some ⟨b16,0,none⟩))] a∧St w0 Nil [HA74] [blk b2 (.cells [.slice none 0 0,.slice none 0 0,.slice none 0 0,.slice none 0 0,.slice none 0 0,.slice none 0 0].toArray 27 (0,0)),blk b15 (.cells [.slice oaA90 vA89.length capA91,i6 vA94,i6 vA95,i6 vA96].toArray 125 (0,0)),sla 23 1 oaA11 vA10.length capA12 vsA13,sla 53 3 oaA25 vA24.length capA26 vsA27,sla 53 3 oaA39 vA38.length capA40 vsA41,sla 48 4 oaA54 vA53.length capA55 vsA56,sla 48 4 oaA69 vA68.length capA70 vsA71,sla 74 2 oaA84 vA83.length capA85 vsA86,blk b16 (.cells [.slice oaA11 vA10.length capA12,.slice oaA25 vA24.length capA26,.slice oaA39 vA38.length capA40,.slice oaA54 vA53.length capA55,.slice oaA69 vA68.length capA70,.slice oaA84 vA83.length capA85].toArray 27 (0,0))] w∧vA89.length≤capA91∧SR HA74 oaA90 vA89) ?_ ?_
 rcases bdich (decide (vA80 < (rz3.1.length:Int))) with hb218 | hb218
 replace hm:=itp_t hm hb218
 refine ctv o rfl hb218<|?_
 obtain ⟨r219,h220,hm⟩:=bs hm
 refine rg<|qm o rfl fun a o=>?_
 replace u:=u.pk [1,0,0,0,0,0,0,0,0] rfl
 replace u:=St.sep [blk b15 (.cells [.slice oaA76 vA75.length capA77,i6 vA80,i6 vA81,i6 vA82].toArray 125 (0,0))] u
 refine ls<|c1 o rfl call107 (Z4k_c (St.le u) (p1:=(leadlineref05_In.mk vA75 vA80 vA81 vA82)) (b2:=b15) (oa3:=oaA76) (cap4:=capA77) hcA78 hrA79 (St.sepOk u) (St.sepDis u) h220) ⟨rfl,trivial⟩ (fun v w a hR o=>?_)
 obtain ⟨oa221,cap222,rfl,hc223,hr224,hk⟩:=hR
 replace u:=(u.mut hk .head).unsep
 refine re<|tn<|?_
 replace u:=u.pk [1,0,0,0,0,0,0,0,0] rfl
 exact ⟨r219.L,r219.At,r219.E,r219.Pos,oa221,cap222,hm,o.hs,u,hc223,hr224⟩
 replace hm:=itp_f hm hb218
 refine cfv o rfl hb218<|wk<|tn<|?_
 exact ⟨vA75,vA80,vA81,vA82,oaA76,capA77,hm,o.hs,u,hcA78,hrA79⟩
 rintro a w ⟨vA89,vA94,vA95,vA96,oaA90,capA91,hm,o,u,hcA92,hrA93⟩
 unfold Z55 at hm
 refine th<|th<|rg<|qm o rfl fun a o=>qv o (e_nilp o rfl) fun a o=>qv o (e_fa o fa125_2 rfl) fun a o=>qv o (e_ld o isAgg29 rfl ((St.ld u).cellB t1 rfl)) fun a o=>qv o (e_neq o rfl rfl) fun a o=>re<|?_
 rcases bdich (decide (vA95≠0)) with hb225 | hb225
 replace hm:=itp_t hm hb225
 refine tn<|ctv o rfl hb225<|th<|rdL (sub_cons t1 (sub_cons t2 (sub_cons t3 (sub_cons t4 (sub_cons t5 (sub_cons t6 (sub_cons t7 (sub_cons t8 sub_nil)))))))) 12 u wide fun w u=>dq 0 (St.ldsX u i2 ta1) o rfl (fun w hl=>e_bldK [] [.slice none 0 0,.slice none 0 0,.slice none 0 0,.slice none 0 0,.slice none 0 0,.slice none 0 0] o trivial (fun w=>by kernel_rfl)) fun a o=>ds 1 (St.ldsX u i2 ta1) o rfl (e_move o rfl) fun a o=>ds 2 (St.ldsX u i2 ta1) o rfl (e_nilp o rfl) fun a o=>ds 3 (St.ldsX u i2 ta1) o rfl (e_fa o fa125_2 rfl) fun a o=>dq 4 (St.ldsX u i2 ta1) o rfl (fun w hl=>e_ld o isAgg29 rfl (hl.cellB t0 rfl)) fun a o=>ds 5 (St.ldsX u i2 ta1) o rfl (e_move o rfl) fun a o=>ds 6 (St.ldsX u i2 ta1) o rfl (e_nilp o rfl) fun a o=>ds 7 (St.ldsX u i2 ta1) o rfl (e_fa o fa125_3 rfl) fun a o=>dq 8 (St.ldsX u i2 ta1) o rfl (fun w hl=>e_ld o isAgg3 rfl (hl.cellB t0 rfl)) fun a o=>da1 (i:=9) (by kernel_rfl) ?_
 refine di (i:=9) rfl<|s_blkA o u sizeOf27 rfl rfl rfl rfl (one_cells rfl) .head fun w u=>⟨fun _=>(St.ldsX u i2 ta1),?_⟩
 refine ds 10 (St.ldsX u i2 ta1) o rfl (e_asg o rfl) fun a o=>ds 11 (St.ldsX u i2 ta1) o rfl (e_asg o rfl) fun a o=>de (by kernel_rfl)<|tn<|wr<|tr<|?_
 obtain rfl:=si hm
 exact r3c (vs:=[.slice none 0 0,.slice none 0 0,.slice none 0 0,.slice none 0 0,.slice none 0 0,.slice none 0 0]) (.inl rfl) o results64 rfl rfl rfl isAgg27 sizeOf27 rfl ((St.ld u).cellsB t0) ⟨HA74,_,rfl,(show Enc.rep (α:=api_Prog) HA74 [.slice none 0 0,.slice none 0 0,.slice none 0 0,.slice none 0 0,.slice none 0 0,.slice none 0 0] (api_Prog.mk [] [] [] [] [] []) from ⟨_,_,rfl,⟨none,0,rfl,Nat.le_refl _,SR.nil _ _⟩,⟨_,_,rfl,⟨none,0,rfl,Nat.le_refl _,SR.nil _ _⟩,⟨_,_,rfl,⟨none,0,rfl,Nat.le_refl _,SR.nil _ _⟩,⟨_,_,rfl,⟨none,0,rfl,Nat.le_refl _,SR.nil _ _⟩,⟨_,_,rfl,⟨none,0,rfl,Nat.le_refl _,SR.nil _ _⟩,⟨none,0,rfl,Nat.le_refl _,SR.nil _ _⟩⟩⟩⟩⟩⟩),(Ext.trans hx11 (Ext.trans hxHA1 (Ext.trans hxHA44 (Ext.trans hxHA59 hxHA74)))),(St.le u),u.keep⟩
 replace hm:=itp_f hm hb225
 refine tn<|cfv o rfl hb225<|wk<|tn<|th<|rg<|qv o (e_ldA o Tryz.isAgg27 Tryz.sizeOf27 rfl rfl ((St.ld u).cellsB t8)) fun a o=>ls<|s_blkA o u sizeOf27 rfl rfl rfl rfl (one_cells rfl) .head fun w u=>?_
 iterate 2 refine qa o rfl fun a o=>?_
 refine re<|tn<|wr<|?_
 obtain ⟨H229,hx226,hr227,hc228,u⟩:=St.frzS u (.tail (.tail .head)) (hvA14.mono (cp (cp hxHA74.sub hxHA59.sub) hxHA44.sub))
 obtain ⟨H233,hx230,hr231,hc232,u⟩:=St.frzS u (.tail (.tail .head)) (hvA28.mono (cp (cp (cp hx226.sub hxHA74.sub) hxHA59.sub) hxHA44.sub))
 obtain ⟨H237,hx234,hr235,hc236,u⟩:=St.frzS u (.tail (.tail .head)) (hvA42.mono (cp (cp (cp (cp hx230.sub hx226.sub) hxHA74.sub) hxHA59.sub) hxHA44.sub))
 obtain ⟨H241,hx238,hr239,hc240,u⟩:=St.frzS u (.tail (.tail .head)) (hvA57.mono (cp (cp (cp (cp hx234.sub hx230.sub) hx226.sub) hxHA74.sub) hxHA59.sub))
 obtain ⟨H245,hx242,hr243,hc244,u⟩:=St.frzS u (.tail (.tail .head)) (hvA72.mono (cp (cp (cp (cp hx238.sub hx234.sub) hx230.sub) hx226.sub) hxHA74.sub))
 obtain ⟨H249,hx246,hr247,hc248,u⟩:=St.frzS u (.tail (.tail .head)) (hvA87.mono (cp (cp (cp (cp hx242.sub hx238.sub) hx234.sub) hx230.sub) hx226.sub))
 obtain rfl:=si hm
 exact r3c (vs:=[.slice oaA11 vA10.length capA12,.slice oaA25 vA24.length capA26,.slice oaA39 vA38.length capA40,.slice oaA54 vA53.length capA55,.slice oaA69 vA68.length capA70,.slice oaA84 vA83.length capA85]) (.inl rfl) o results64 rfl rfl rfl isAgg27 sizeOf27 rfl ((St.ld u).cellsB t0) ⟨H249,_,rfl,(show Enc.rep (α:=api_Prog) H249 [.slice oaA11 vA10.length capA12,.slice oaA25 vA24.length capA26,.slice oaA39 vA38.length capA40,.slice oaA54 vA53.length capA55,.slice oaA69 vA68.length capA70,.slice oaA84 vA83.length capA85] (api_Prog.mk vA10 vA24 vA38 vA53 vA68 vA83) from ⟨_,_,rfl,⟨_,_,rfl,hc228,(hr227.mono (cp (cp (cp (cp hx246.sub hx242.sub) hx238.sub) hx234.sub) hx230.sub))⟩,⟨_,_,rfl,⟨_,_,rfl,hc232,(hr231.mono (cp (cp (cp hx246.sub hx242.sub) hx238.sub) hx234.sub))⟩,⟨_,_,rfl,⟨_,_,rfl,hc236,(hr235.mono (cp (cp hx246.sub hx242.sub) hx238.sub))⟩,⟨_,_,rfl,⟨_,_,rfl,hc240,(hr239.mono (cp hx246.sub hx242.sub))⟩,⟨_,_,rfl,⟨_,_,rfl,hc244,(hr243.mono hx246.sub)⟩,⟨_,_,rfl,hc248,hr247⟩⟩⟩⟩⟩⟩),(Ext.trans hx11 (Ext.trans hxHA1 (Ext.trans hxHA44 (Ext.trans hxHA59 (Ext.trans hxHA74 (Ext.trans hx226 (Ext.trans hx230 (Ext.trans hx234 (Ext.trans hx238 (Ext.trans hx242 hx246)))))))))),(St.le u),u.keep⟩
theorem Z1h_c (hH:H.le w0) {p1:Str} {r:api_Prog} (hm:Z1h N p1=some r):Tot Tryz.prog 19 #[strv p1] w0 (fun v w'=>∃ (H':PH) (cs0:List Value),v=.agg cs0.toArray∧Enc.rep H' cs0 r∧Ext w0 H H'∧H'.le w'∧Keep Nil w0 w'):=by
 unfold Z1h at hm
 refine fn0 func19 rfl ntmps19 rfl rfl fun a o=>?_
 have u:St w0 Nil [H] [] w0:=start1 hH
 refine th<|rg<|ls<|a_alloc (cs:=[.slice none 0 0,.slice none 0 0,.slice none 0 0,.slice none 0 0,.slice none 0 0,.slice none 0 0].toArray) o rfl u Tryz.zeroValue27 rfl fun b2 w a u o=>re<|tn<|th<|?_
 obtain ⟨rz3,h4,hm⟩:=bs hm
 refine rg<|qm o rfl fun a o=>ls<|c1 o rfl call64 (Z52_c (St.le u) h4) ⟨rfl,trivial⟩ (fun v w a hR o=>?_)
 obtain ⟨H8,cs9,rfl,g10,hx5,hl6,hk⟩:=hR
 obtain ⟨u,hx5⟩:=And.intro (St.passH u hk hx5 hl6) (St.extc u hx5)
 obtain ⟨oa11,cap12,oa15,cap16,oa19,cap20,oa23,cap24,oa27,cap28,oa31,cap32,rfl,hc13,hr14,hc17,hr18,hc21,hr22,hc25,hr26,hc29,hr30,hc33,hr34⟩:=api_Prog_open g10
 refine qm o rfl fun a o=>?_
 iterate 3 refine qv o (e_ext o rfl rfl) fun a o=>?_
 refine ls<|a_alloc (cs:=[.slice none 0 0,.slice none 0 0,.slice none 0 0,.slice none 0 0,.slice none 0 0,.slice none 0 0].toArray) o rfl u zeroValue27 rfl fun b35 w a u o=>ls<|s_blkA o u sizeOf27 rfl rfl rfl rfl (one_cells rfl) .head fun w u=>?_
 iterate 2 refine qa o rfl fun a o=>?_
 refine re<|tn<|th<|rg<|qv o (e_ldA o Tryz.isAgg27 Tryz.sizeOf27 rfl rfl ((St.ld u).cellsB t0)) fun a o=>ls<|s_blkA o u sizeOf27 rfl rfl rfl rfl (one_cells rfl) (.tail .head) fun w u=>re<|tn<|wr<|?_
 obtain rfl:=si hm
 exact r1c (vs:=[.slice oa11 rz3.1.Lines.length cap12,.slice oa15 rz3.1.Vols.length cap16,.slice oa19 rz3.1.Locks.length cap20,.slice oa23 rz3.1.Threads.length cap24,.slice oa27 rz3.1.Recover.length cap28,.slice oa31 rz3.1.Claims.length cap32]) (.inl rfl) o results19 rfl isAgg27 sizeOf27 rfl ((St.ld u).cellsB t1) ⟨H8,_,rfl,(show Enc.rep (α:=api_Prog) H8 [.slice oa11 rz3.1.Lines.length cap12,.slice oa15 rz3.1.Vols.length cap16,.slice oa19 rz3.1.Locks.length cap20,.slice oa23 rz3.1.Threads.length cap24,.slice oa27 rz3.1.Recover.length cap28,.slice oa31 rz3.1.Claims.length cap32] rz3.1 from ⟨_,_,rfl,⟨_,_,rfl,hc13,hr14⟩,⟨_,_,rfl,⟨_,_,rfl,hc17,hr18⟩,⟨_,_,rfl,⟨_,_,rfl,hc21,hr22⟩,⟨_,_,rfl,⟨_,_,rfl,hc25,hr26⟩,⟨_,_,rfl,⟨_,_,rfl,hc29,hr30⟩,⟨_,_,rfl,hc33,hr34⟩⟩⟩⟩⟩⟩),hx5,(St.le u),u.keep⟩
end Go.LM.LB
