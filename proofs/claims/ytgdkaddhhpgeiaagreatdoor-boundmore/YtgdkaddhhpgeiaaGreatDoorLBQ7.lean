/- Walks, lifted by program. No condition beyond the theorems' own premises. -/
import Derived.Test.YtgdkaddhhpgeiaaGreatDoorLBQ6
namespace Go.LM.LB
open Go Go.LL Go.MD Go.LM Go.Proofs Go.MD.LB Go.Proofs.Tryz
set_option maxRecDepth 100000
variable {N:Nat} {w0:World} {H:PH}
theorem Z6p_c (hH:H.le w0) {oa2:Option Addr} {cap3:Nat} {p1:(List Int)} (_:p1.length≤cap3) (hr5:SR H oa2 p1) {oa7:Option Addr} {cap8:Nat} {p6:(List Int)} (_:p6.length≤cap8) (hr10:SR H oa7 p6) {r:Bool} (hm:Z6p N p1 p6=some r):Tot Tryz.prog 29 #[.slice oa2 p1.length cap3,.slice oa7 p6.length cap8] w0 (fun v w'=>v=.bool r∧Keep Nil w0 w'):=by
 unfold Z6p at hm
 refine fn0 func29 rfl ntmps29 rfl rfl fun a o=>?_
 have u:St w0 Nil [H] [] w0:=start1 hH
 refine th<|rg<|qa o rfl fun a o=>re<|tn<|th<|th<|rg<|qm o rfl fun a o=>qv o (e_lenL (α:=Int) (xs:=p1) o runUnderlying42 rfl) fun a o=>qm o rfl fun a o=>qv o (e_lenL (α:=Int) (xs:=p6) o runUnderlying42 rfl) fun a o=>qv o (e_neq o rfl rfl) fun a o=>re<|?_
 rcases bdich (decide ((p1.length:Int)≠(p6.length:Int))) with hb11 | hb11
 replace hm:=itp_t hm hb11
 refine tn<|ctv o rfl hb11<|th<|rg<|qa o rfl fun a o=>re<|tn<|wr<|tr<|?_
 obtain rfl:=si hm
 exact r1 o results29 rfl ⟨rfl,u.keep⟩
 replace hm:=itp_f hm hb11
 refine tn<|cfv o rfl hb11<|wk<|tn<|th<|th<|rg<|qa o rfl fun a o=>re<|tn<|midK (fun a w=>Z6q=some r∧Fr 26 [] a∧St w0 Nil [H] [] w) ?_ ?_
 refine wb<|lp (α:=Nat×Int) (fun gh a w=>match gh with | (nn2,vB1)=>(Z6r N Z6q p1 p6) nn2 vB1=some r∧Fr 26 [(0,.slice oa2 p1.length cap3),(1,.slice oa7 p6.length cap8),(5,i6 vB1)] a∧St w0 Nil [H] [] w) (fun gh=>gh.1) (N,0) ⟨hm,o.hs,u⟩ ?_
 rintro ⟨nn2,vB1⟩ a w ⟨hm,o,u⟩
 obtain _ | nn2:=nn2
 simp [Z6r] at hm
 rw [Z6r] at hm
 refine th<|th<|rg<|qm o rfl fun a o=>qm o rfl fun a o=>qv o (e_lenL (α:=Int) (xs:=p1) o runUnderlying42 rfl) fun a o=>qv o (e_lss o rfl rfl) fun a o=>re<|?_
 rcases bdich (decide (vB1 < (p1.length:Int))) with hb12 | hb12
 replace hm:=itp_t hm hb12
 refine tn<|ctv o rfl hb12<|wk<|tn<|th<|wb<|th<|?_
 obtain ⟨x13,h14,hm⟩:=bs hm
 obtain ⟨c15,g16,hl17⟩:=SR.get hr5 h14
 obtain rfl:c15=[i6 x13]:=g16
 obtain ⟨x18,h19,hm⟩:=bs hm
 obtain ⟨c20,g21,hl22⟩:=SR.get hr10 h19
 obtain rfl:c20=[i6 x18]:=g21
 refine rxS 9 u wide (by kernel_rfl) fun w u=>?_
 iterate 2 refine xq (St.ld u) o (fun w hl=>e_move o rfl) fun a o=>?_
 refine xr u o (e_iaI o runUnderlying42 sizeOf3 rfl rfl h14 (SR.oaI hr5 (by decide) h14)) fun a o=>xq (St.ld u) o (fun w hl=>e_ld o isAgg3 rfl (PH.le.cell (Lds.le hl) (hl17 0 _ rfl))) fun a o=>?_
 iterate 2 refine xq (St.ld u) o (fun w hl=>e_move o rfl) fun a o=>?_
 refine xr u o (e_iaI o runUnderlying42 sizeOf3 rfl rfl h19 (SR.oaI hr10 (by decide) h19)) fun a o=>xq (St.ld u) o (fun w hl=>e_ld o isAgg3 rfl (PH.le.cell (Lds.le hl) (hl22 0 _ rfl))) fun a o=>xr u o (e_neq o rfl rfl) fun a o=>xe<|?_
 rcases bdich (decide (x13≠x18)) with hb23 | hb23
 replace hm:=itp_t hm hb23
 refine tn<|ctv o rfl hb23<|th<|rg<|qa o rfl fun a o=>re<|tn<|wr<|br<|tr<|tr<|br<|tr<|?_
 obtain rfl:=si hm
 exact r1 o results29 rfl ⟨rfl,u.keep⟩
 replace hm:=itp_f hm hb23
 refine tn<|cfv o rfl hb23<|wk<|bn<|tn<|rg<|qm o rfl fun a o=>qv o (e_add o rfl rfl) fun a o=>qa o rfl fun a o=>re<|tn<|?_
 exact ⟨(nn2,(IntKind.i64.wrap (vB1+1))),⟨hm,o.hs,u⟩,Nat.lt_succ_self _⟩
 replace hm:=itp_f hm hb12
 refine tn<|cfv o rfl hb12<|we<|tx<|tx<|bx<|tn<|?_
 exact ⟨hm,o.has trivial,u⟩
 rintro a w ⟨hm,o,u⟩
 unfold Z6q at hm
 refine th<|rg<|qa o rfl fun a o=>re<|tn<|wr<|?_
 obtain rfl:=si hm
 exact r1 o results29 rfl ⟨rfl,u.keep⟩
theorem Zg_c (hH:H.le w0)  {r:(Arr 15 Int)} (hm:Zg N  = some r):Tot Tryz.prog 74 #[] w0 (fun v w'=>∃ (H':PH) (cs0:List Value),v=.agg cs0.toArray∧Enc.rep H' cs0 r∧Ext w0 H H'∧H'.le w'∧Keep Nil w0 w'):=by
 unfold Zg at hm
 refine fn0 func74 rfl ntmps74 rfl rfl fun a o=>?_
 have u:St w0 Nil [H] [] w0:=start1 hH
 refine th<|rg<|ls<|a_alloc (cs:=[i6 0,i6 0,i6 0,i6 0,i6 0,i6 0,i6 0,i6 0,i6 0,i6 0,i6 0,i6 0,i6 0,i6 0,i6 0].toArray) o rfl u Tryz.zeroValue102 rfl fun b1 w a u o=>re<|tn<|th<|rg<|qv o (e_bldK [i6 1,i6 2,i6 1,i6 2,i6 2,i6 2,i6 1,i6 1,i6 1,i6 0] [i6 0,i6 0,i6 1,i6 2,i6 1,i6 2,i6 2,i6 2,i6 1,i6 1,i6 1,i6 0,i6 0,i6 0,i6 0] o ⟨rfl,rfl,rfl,rfl,rfl,rfl,rfl,rfl,rfl,rfl,trivial⟩ (fun w=>by kernel_rfl)) fun a o=>ls<|s_blkA o u sizeOf102 rfl rfl rfl rfl (one_cells rfl) .head fun w u=>re<|tn<|wr<|?_
 obtain rfl:=si hm
 exact r1c (vs:=[i6 0,i6 0,i6 1,i6 2,i6 1,i6 2,i6 2,i6 2,i6 1,i6 1,i6 1,i6 0,i6 0,i6 0,i6 0]) (.inl rfl) o results74 rfl isAgg102 sizeOf102 rfl ((St.ld u).cellsB t0) ⟨H,_,rfl,(show Enc.rep (α:=(Arr 15 Int)) H [i6 0,i6 0,i6 1,i6 2,i6 1,i6 2,i6 2,i6 2,i6 1,i6 1,i6 1,i6 0,i6 0,i6 0,i6 0] (⟨[0,0,1,2,1,2,2,2,1,1,1,0,0,0,0],rfl⟩:(Arr 15 Int)) from (.cons (c:=[i6 0]) rfl (.cons (c:=[i6 0]) rfl (.cons (c:=[i6 1]) rfl (.cons (c:=[i6 2]) rfl (.cons (c:=[i6 1]) rfl (.cons (c:=[i6 2]) rfl (.cons (c:=[i6 2]) rfl (.cons (c:=[i6 2]) rfl (.cons (c:=[i6 1]) rfl (.cons (c:=[i6 1]) rfl (.cons (c:=[i6 1]) rfl (.cons (c:=[i6 0]) rfl (.cons (c:=[i6 0]) rfl (.cons (c:=[i6 0]) rfl (.cons (c:=[i6 0]) rfl .nil)))))))))))))))),(Ext.refl _ _),(St.le u),u.keep⟩
theorem Z0_c (hH:H.le w0) {p1:Int} {r:Int} (hm:Z0 N p1=some r):Tot Tryz.prog 40 #[i6 p1] w0 (fun v w'=>v=i6 r∧Keep Nil w0 w'):=by
 unfold Z0 at hm
 refine fn0 func40 rfl ntmps40 rfl rfl fun a o=>?_
 have u:St w0 Nil [H] [] w0:=start1 hH
 refine th<|rg<|qa o rfl fun a o=>re<|tn<|th<|th<|rg<|qm o rfl fun a o=>qv o (e_lss o rfl rfl) fun a o=>qm o rfl fun a o=>grp (N:=12) (Fk:=[(0,i6 p1),(8,.bool ((decide (p1 < 0)) || (decide (15≤p1))))]) (b:=(decide (p1 < 0))) 3 u ?_ ?_ ?_
 intro hb key
 replace o:=Fr.as o (t:=5) rfl (congrArg Value.bool hb)
 iterate 2 refine qn o fun a o=>?_
 refine qv o (e_as (v':=.bool ((decide (p1 < 0)) || (decide (15≤p1)))) (e_pickT o rfl rfl) (by rw [hb];rfl)) fun a o=>?_
 exact key _ _ (o.has ⟨rfl,rfl,trivial⟩) u
 intro hb key
 replace o:=Fr.as o (t:=5) rfl (congrArg Value.bool hb)
 refine qg o (e_move o rfl) fun a o=>qg o (e_geq o rfl rfl) fun a o=>qv o (e_as (v':=.bool ((decide (p1 < 0)) || (decide (15≤p1)))) (e_pickF o rfl rfl) (by rw [hb];rfl)) fun a o=>?_
 exact key _ _ (o.has ⟨rfl,rfl,trivial⟩) u
 intro a w o u
 refine re<|?_
 rcases bdich ((decide (p1 < 0)) || (decide (15≤p1))) with hb2 | hb2
 replace hm:=ite_t hm hb2
 refine tn<|ctv o rfl hb2<|th<|rg<|qa o rfl fun a o=>re<|tn<|wr<|tr<|?_
 obtain rfl:=si hm
 exact r1 o results40 rfl ⟨rfl,u.keep⟩
 replace hm:=ite_f hm hb2
 refine tn<|cfv o rfl hb2<|wk<|tn<|th<|?_
 obtain ⟨rz3,h4,hm⟩:=bs hm
 obtain ⟨x12,h13,hm⟩:=bs hm
 refine rg<|ls<|c1 o rfl Tryz.call74 (Zg_c (St.le u) h4) trivial (fun v w a hR o=>?_)
 obtain ⟨H8,cs9,rfl,g10,hx5,hl6,hk⟩:=hR
 obtain ⟨u,hx5⟩:=And.intro (St.passH u hk hx5 hl6) (St.extc u hx5)
 have hv11:Rows H8 cs9 rz3.l:=g10
 refine qm o rfl fun a o=>?_
 obtain ⟨c14,g15,hl16⟩:=Rows.getI hv11 h13
 obtain rfl:c14=[i6 x12]:=g15
 refine qv o (e_ix1 o runUnderlying102 sizeOf3 isAgg3 rfl rfl rz3.h h13 (hl16 0 _ rfl)) fun a o=>qa o rfl fun a o=>re<|tn<|wr<|?_
 obtain rfl:=si hm
 exact r1 o results40 rfl ⟨rfl,u.keep⟩
theorem Zh_c:∀ (N:Nat) {w0:World} {H:PH} (_:H.le w0) {oa2:Option Addr} {cap3:Nat} {p1:(List api_Stmt)} (_:p1.length≤cap3) (_:SR H oa2 p1) {r:Int} (_:Zh N p1=some r),Tot Tryz.prog 70 #[.slice oa2 p1.length cap3] w0 (fun v w'=>v=i6 r∧Keep Nil w0 w'):=by
 intro N
 induction N with
  | zero=>intros;rename_i hm;simp [Zh] at hm
  | succ N ih=>
 intro w0 H hH oa2 cap3 p1 hc4 hr5 r hm
 rw [Zh] at hm
 refine fn0 func70 rfl ntmps70 rfl rfl fun a o=>?_
 have u:St w0 Nil [H] [] w0:=start1 hH
 refine th<|rg<|qa o rfl fun a o=>re<|tn<|th<|rg<|qa o rfl fun a o=>re<|tn<|th<|th<|rg<|qa o rfl fun a o=>re<|tn<|midK (fun a w=>∃ (vA1:Int),Zi vA1=some r∧Fr 63 [(3,i6 vA1)] a∧St w0 Nil [H] [] w) ?_ ?_
 refine wb<|lp (α:=Nat×Int×Int) (fun gh a w=>match gh with | (nn2,vB1,vB2)=>(Zk (Zh N) N Zi p1) nn2 vB1 vB2=some r∧Fr 63 [(0,.slice oa2 p1.length cap3),(3,i6 vB1),(4,i6 vB2)] a∧St w0 Nil [H] [] w) (fun gh=>gh.1) (N,0,0) ⟨hm,o.hs,u⟩ ?_
 rintro ⟨nn2,vB1,vB2⟩ a w ⟨hm,o,u⟩
 obtain _ | nn2:=nn2
 simp [Zk] at hm
 rw [Zk] at hm
 refine th<|th<|rg<|qm o rfl fun a o=>qm o rfl fun a o=>qv o (e_lenL (α:=api_Stmt) (xs:=p1) o runUnderlying46 rfl) fun a o=>qv o (e_lss o rfl rfl) fun a o=>re<|?_
 rcases bdich (decide (vB2 < (p1.length:Int))) with hb6 | hb6
 replace hm:=itp_t hm hb6
 refine tn<|ctv o rfl hb6<|wk<|tn<|wb<|th<|?_
 obtain ⟨xz7,h8,hm⟩:=bs hm
 obtain ⟨cz9,g10,hl11⟩:=SR.get hr5 h8
 obtain ⟨oa12,cap13,oa16,cap17,rfl,hc14,hr15,hc18,hr19⟩:=api_Stmt_open g10
 refine rg<|qm o rfl fun a o=>qm o rfl fun a o=>qv o (e_iaI o runUnderlying46 sizeOf51 rfl rfl h8 (SR.oaI hr5 (by decide) h8)) fun a o=>qv o (e_ldA o isAgg51 sizeOf51 rfl rfl (fun j v hj=>PH.le.cell (Lds.le (St.ld u)) (hl11 j v hj))) fun a o=>ls<|a_alloc (cs:=[i6 0,strv [],strv [],.slice none 0 0,.slice none 0 0,i6 0,i6 0,i6 0,i6 0].toArray) o rfl u zeroValue51 rfl fun b20 w a u o=>ls<|s_blkA o u sizeOf51 rfl rfl rfl rfl (one_cells rfl) .head fun w u=>re<|tn<|th<|rg<|qm o rfl fun a o=>qv o (e_add o rfl rfl) fun a o=>qv o (e_fa o fa51_6 rfl) fun a o=>qv o (e_ld o isAgg3 rfl ((St.ld u).cellB t0 rfl)) fun a o=>qv o (e_add o rfl rfl) fun a o=>qa o rfl fun a o=>re<|tn<|th<|rg<|qm o rfl fun a o=>qv o (e_fa o fa51_7 rfl) fun a o=>qv o (e_ld o isAgg3 rfl ((St.ld u).cellB t0 rfl)) fun a o=>qv o (e_add o rfl rfl) fun a o=>qa o rfl fun a o=>re<|tn<|th<|th<|rg<|qv o (e_fa o fa51_0 rfl) fun a o=>qv o (e_ld o isAgg3 rfl ((St.ld u).cellB t0 rfl)) fun a o=>re<|tn<|midK (fun a w=>∃ (vC1:Int),(Zj ((Zk (Zh N) N Zi p1) nn2) xz7 vB2) vC1=some r∧Fr 63 [(0,.slice oa2 p1.length cap3),(3,i6 vC1),(7,i6 (IntKind.i64.wrap ((IntKind.i64.wrap ((IntKind.i64.wrap (vB2+1))+xz7.Body))+xz7.Else)))] a∧St w0 Nil [H] [] w) ?_ ?_
 refine wb<|th<|rg<|qv o (e_eql o rfl rfl) fun a o=>qa o rfl fun a o=>re<|?_
 rcases bdich (decide (xz7.Kind=11)) with hb21 | hb21
 replace hm:=itp_t hm hb21
 refine tn<|ctv o rfl hb21<|?_
 obtain ⟨l22,h23,hm⟩:=bs hm
 obtain ⟨oa24,cap25,e26,e27,hc28,hr29⟩:=SR.sub (sz:=9) hr5 hc4 rfl h23
 obtain ⟨r30,h31,hm⟩:=bs hm
 obtain ⟨l32,h33,hm⟩:=bs hm
 obtain ⟨oa34,cap35,e36,e37,hc38,hr39⟩:=SR.sub (sz:=9) hr5 hc4 rfl h33
 obtain ⟨r40,h41,hm⟩:=bs hm
 refine rdS 15 u wide fun w u=>dr 0 u o rfl (e_move o rfl) fun a o=>dr 1 u o rfl (e_move o rfl) fun a o=>dr 2 u o rfl (e_move o rfl) fun a o=>dr 3 u o rfl (e_add o rfl rfl) fun a o=>dr 4 u o rfl (e_move o rfl) fun a o=>dr 5 u o rfl (e_subL (xs:=p1) (vl:=(IntKind.i64.wrap (vB2+1))) (vh:=(IntKind.i64.wrap ((IntKind.i64.wrap (vB2+1))+xz7.Body))) o runUnderlying46 sizeOf51 rfl hc4 rfl rfl h23 e26 e27) fun a o=>dr 7 u o rfl (e_move o rfl) fun a o=>dr 8 u o rfl (e_move o rfl) fun a o=>dr 9 u o rfl (e_move o rfl) fun a o=>dr 10 u o rfl (e_subL (xs:=p1) (vl:=(IntKind.i64.wrap ((IntKind.i64.wrap (vB2+1))+xz7.Body))) (vh:=(IntKind.i64.wrap ((IntKind.i64.wrap ((IntKind.i64.wrap (vB2+1))+xz7.Body))+xz7.Else))) o runUnderlying46 sizeOf51 rfl hc4 rfl rfl h33 e36 e37) fun a o=>da1 (i:=6) (by kernel_rfl) ?_
 refine di (i:=6) rfl<|cq o call70 (ih (hp_le _) hc28 (St.srH u hr29) h31) ⟨rfl,trivial⟩ u fun w a u o=>⟨fun _=>(St.ld u),?_⟩
 refine da1 (i:=11) (by kernel_rfl) ?_
 refine di (i:=11) rfl<|cq o call70 (ih (hp_le _) hc38 (St.srH u hr39) h41) ⟨rfl,trivial⟩ u fun w a u o=>⟨fun _=>(St.ld u),?_⟩
 refine dr 12 u o rfl (e_max o rfl rfl) fun a o=>dr 13 u o rfl (e_add o rfl rfl) fun a o=>dr 14 u o rfl (e_asg o rfl) fun a o=>de (by kernel_rfl)<|bn<|tn<|?_
 replace u:=u.pickL .nil
 exact ⟨(IntKind.i64.wrap (vB1+(max r30 r40))),hm,o.hs,u⟩
 replace hm:=itp_f hm hb21
 refine tn<|cfv o rfl hb21<|th<|rg<|qv o (e_eql o rfl rfl) fun a o=>qa o rfl fun a o=>re<|?_
 rcases bdich (decide (xz7.Kind=12)) with hb42 | hb42
 replace hm:=itp_t hm hb42
 refine tn<|ctv o rfl hb42<|?_
 obtain ⟨l43,h44,hm⟩:=bs hm
 obtain ⟨oa45,cap46,e47,e48,hc49,hr50⟩:=SR.sub (sz:=9) hr5 hc4 rfl h44
 obtain ⟨r51,h52,hm⟩:=bs hm
 refine rdS 12 u wide fun w u=>dr 0 u o rfl (e_move o rfl) fun a o=>dr 1 u o rfl (e_fa o fa51_5 rfl) fun a o=>dq 2 (St.ld u) o rfl (fun w hl=>e_ld o isAgg3 rfl (hl.cellB t0 rfl)) fun a o=>dr 3 u o rfl (e_move o rfl) fun a o=>dr 4 u o rfl (e_move o rfl) fun a o=>dr 5 u o rfl (e_add o rfl rfl) fun a o=>dr 6 u o rfl (e_move o rfl) fun a o=>dr 7 u o rfl (e_subL (xs:=p1) (vl:=(IntKind.i64.wrap (vB2+1))) (vh:=(IntKind.i64.wrap ((IntKind.i64.wrap (vB2+1))+xz7.Body))) o runUnderlying46 sizeOf51 rfl hc4 rfl rfl h44 e47 e48) fun a o=>da1 (i:=8) (by kernel_rfl) ?_
 refine di (i:=8) rfl<|cq o call70 (ih (hp_le _) hc49 (St.srH u hr50) h52) ⟨rfl,trivial⟩ u fun w a u o=>⟨fun _=>(St.ld u),?_⟩
 refine dr 9 u o rfl (e_mul o rfl rfl) fun a o=>dr 10 u o rfl (e_add o rfl rfl) fun a o=>dr 11 u o rfl (e_asg o rfl) fun a o=>de (by kernel_rfl)<|bn<|tn<|?_
 replace u:=u.pickL .nil
 exact ⟨(IntKind.i64.wrap (vB1+(IntKind.i64.wrap (xz7.N * r51)))),hm,o.hs,u⟩
 replace hm:=itp_f hm hb42
 refine tn<|cfv o rfl hb42<|?_
 obtain ⟨r53,h54,hm⟩:=bs hm
 refine rg<|qm o rfl fun a o=>qv o (e_fa o fa51_0 rfl) fun a o=>qv o (e_ld o isAgg3 rfl ((St.ld u).cellB t0 rfl)) fun a o=>ls<|cq o call40 (Z0_c (hp_le _) h54) ⟨rfl,trivial⟩ u fun w a u o=>qv o (e_add o rfl rfl) fun a o=>qa o rfl fun a o=>re<|bn<|tn<|?_
 replace u:=u.pickL .nil
 exact ⟨(IntKind.i64.wrap (vB1+r53)),hm,o.hs,u⟩
 rintro a w ⟨vC1,hm,o,u⟩
 unfold Zj at hm
 refine rg<|qm o rfl fun a o=>qa o rfl fun a o=>re<|bn<|tn<|?_
 exact ⟨(nn2,vC1,(IntKind.i64.wrap ((IntKind.i64.wrap ((IntKind.i64.wrap (vB2+1))+xz7.Body))+xz7.Else))),⟨hm,o.hs,u⟩,Nat.lt_succ_self _⟩
 replace hm:=itp_f hm hb6
 refine tn<|cfv o rfl hb6<|we<|tx<|tx<|bx<|tn<|?_
 exact ⟨vB1,hm,o.has ⟨rfl,trivial⟩,u⟩
 rintro a w ⟨vA1,hm,o,u⟩
 unfold Zi at hm
 refine th<|rg<|qm o rfl fun a o=>qa o rfl fun a o=>re<|tn<|wr<|?_
 obtain rfl:=si hm
 exact r1 o results70 rfl ⟨rfl,u.keep⟩
theorem Z8_c (hH:H.le w0) (hT:Tab H) {oa2:Option Addr} {cap3:Nat} {p1:(List api_Stmt)} (hc4:p1.length≤cap3) (hr5:SR H oa2 p1) {r:Int} (hm:Z8 N p1=some r):Tot Tryz.prog 34 #[.slice oa2 p1.length cap3] w0 (fun v w'=>v=i6 r∧Keep Nil w0 w'):=by
 unfold Z8 at hm
 refine fn0 func34 rfl ntmps34 rfl rfl fun a o=>?_
 have u:St w0 Nil [H] [] w0:=start1 hH
 refine th<|rg<|qa o rfl fun a o=>re<|tn<|th<|th<|?_
 obtain ⟨rz6,h7,hm⟩:=bs hm
 refine rg<|qm o rfl fun a o=>ls<|cq o call69 (Zbg_c (hp_le _) (Tab.mono hT (St.up u)) hc4 (St.srH u hr5) h7) ⟨rfl,trivial⟩ u fun w a u o=>qv o (e_not o rfl) fun a o=>re<|?_
 rcases bdich rz6 with hb8 | hb8
 replace hm:=ite_t hm hb8
 refine tn<|cfv o rfl (by rw [hb8];rfl)<|wk<|tn<|th<|?_
 obtain ⟨rz9,h10,hm⟩:=bs hm
 refine rg<|qm o rfl fun a o=>ls<|cq o call70 (Zh_c _ (hp_le _) hc4 (St.srH u hr5) h10) ⟨rfl,trivial⟩ u fun w a u o=>qa o rfl fun a o=>re<|tn<|wr<|?_
 obtain rfl:=si hm
 exact r1 o results34 rfl ⟨rfl,u.keep⟩
 replace hm:=ite_f hm hb8
 refine tn<|ctv o rfl (by rw [hb8];rfl)<|th<|rg<|qa o rfl fun a o=>re<|tn<|wr<|tr<|?_
 obtain rfl:=si hm
 exact r1 o results34 rfl ⟨rfl,u.keep⟩
set_option maxHeartbeats 4000000 in
theorem Za_c:∀ (N:Nat) {w0:World} {H:PH} (_:H.le w0) {oa2:Option Addr} {cap3:Nat} {p1:(List api_Stmt)} (_:p1.length≤cap3) (_:SR H oa2 p1) {b7:Nat} {p6:(List Int)} {oa8:Option Addr} {cap9:Nat} {vs10:List Value} (_:Rows H vs10 p6) {y14:Int} {b13:Nat} (_:H b13=some (.cells [i6 y14].toArray 3 (0,0))) {b16:Nat} (_:H b16=some (.cells [.func (.func 72) #[] #[.pointer (some ⟨b7,0,none⟩),.pointer (some ⟨b13,0,none⟩),.pointer (some ⟨b16,0,none⟩)]].toArray 65 (0,0))) (_:(sepA [blk b7 (.cells [.slice oa8 p6.length cap9].toArray 42 (0,0)),sla 3 1 oa8 p6.length cap9 vs10]).ok (hp w0)) (_:∀ b,(sepA [blk b7 (.cells [.slice oa8 p6.length cap9].toArray 42 (0,0)),sla 3 1 oa8 p6.length cap9 vs10]).fp b→H b=none) {r:(List Int)} (_:Za N p1 p6 y14=some r),Tot Tryz.prog 72 #[.slice oa2 p1.length cap3,.pointer (some ⟨b7,0,none⟩),.pointer (some ⟨b13,0,none⟩),.pointer (some ⟨b16,0,none⟩)] w0 (fun v w'=>∃ (oa1m:Option Addr) (cap1m:Nat) (vs1m:List Value),v=.tuple #[]∧(∀ h,Rows h vs1m r)∧Mut w0 (sepA [blk b7 (.cells [.slice oa8 p6.length cap9].toArray 42 (0,0)),sla 3 1 oa8 p6.length cap9 vs10]) (sepA [blk b7 (.cells [.slice oa1m r.length cap1m].toArray 42 (0,0)),sla 3 1 oa1m r.length cap1m vs1m]) w'):=by
 intro N
 induction N with
  | zero=>intros;rename_i hm;simp [Za] at hm
  | succ N ih=>
 intro w0 H hH oa2 cap3 p1 hc4 hr5 b7 p6 oa8 cap9 vs10 hv11 y14 b13 hb15 b16 hb17 hO hD r hm
 rw [Za] at hm
 refine fn0 func72 rfl ntmps72 rfl rfl fun a o=>?_
 have u:=startM hH hO hD
 refine th<|rg<|qa o rfl fun a o=>re<|?_
 replace u:=u.pk [1,0] rfl
 refine tn<|wb<|lp (α:=Nat×(List Int)×Int) (fun gh a w=>match gh with | (nn1,vA1,vA7)=>∃ (oaA2:Option Addr) (capA3:Nat) (vsA4:List Value),(Ze (Za N) N p1 y14) nn1 vA1 vA7=some r∧Fr 92 [(0,.slice oa2 p1.length cap3),(1,.pointer (some ⟨b7,0,none⟩)),(2,.pointer (some ⟨b13,0,none⟩)),(3,.pointer (some ⟨b16,0,none⟩)),(5,i6 vA7)] a∧St w0 (sepA [blk b7 (.cells [.slice oa8 p6.length cap9].toArray 42 (0,0)),sla 3 1 oa8 p6.length cap9 vs10]).fp [H] [sla 3 1 oaA2 vA1.length capA3 vsA4,blk b7 (.cells [.slice oaA2 vA1.length capA3].toArray 42 (0,0))] w∧Rows H vsA4 vA1) (fun gh=>gh.1) (N,p6,0) ⟨oa8,cap9,vs10,hm,o.hs,u,hv11⟩ ?_
 rintro ⟨nn1,vA1,vA7⟩ a w ⟨oaA2,capA3,vsA4,hm,o,u,hvA5⟩
 obtain _ | nn1:=nn1
 simp [Ze] at hm
 rw [Ze] at hm
 refine th<|th<|rg<|qm o rfl fun a o=>qm o rfl fun a o=>qv o (e_lenL (α:=api_Stmt) (xs:=p1) o runUnderlying46 rfl) fun a o=>qv o (e_lss o rfl rfl) fun a o=>qm o rfl fun a o=>grp (N:=92) (Fk:=[(0,.slice oa2 p1.length cap3),(1,.pointer (some ⟨b7,0,none⟩)),(2,.pointer (some ⟨b13,0,none⟩)),(3,.pointer (some ⟨b16,0,none⟩)),(5,i6 vA7),(20,.bool ((decide (vA7 < (p1.length:Int))) && (decide ((vA1.length:Int) < y14))))]) (b:=(decide (vA7 < (p1.length:Int)))) 5 u ?_ ?_ ?_
 intro hb key
 replace o:=Fr.as o (t:=15) rfl (congrArg Value.bool hb)
 refine qg o (e_ld o isAgg42 rfl ((St.ld u).cellB t1 rfl)) fun a o=>qg o (e_lenL (α:=Int) (xs:=vA1) o runUnderlying42 rfl) fun a o=>qg o (e_ld o isAgg3 rfl (PH.le.cell (Lds.le (St.ld u)) (ph_cell hb15 rfl))) fun a o=>qg o (e_lss o rfl rfl) fun a o=>qv o (e_as (v':=.bool ((decide (vA7 < (p1.length:Int))) && (decide ((vA1.length:Int) < y14)))) (e_pickT o rfl rfl) (by rw [hb];rfl)) fun a o=>?_
 exact key _ _ (o.hs) u
 intro hb key
 replace o:=Fr.as o (t:=15) rfl (congrArg Value.bool hb)
 iterate 4 refine qn o fun a o=>?_
 refine qv o (e_as (v':=.bool ((decide (vA7 < (p1.length:Int))) && (decide ((vA1.length:Int) < y14)))) (e_pickF o rfl rfl) (by rw [hb];rfl)) fun a o=>?_
 exact key _ _ (o.hs) u
 intro a w o u
 refine re<|?_
 rcases bdich ((decide (vA7 < (p1.length:Int))) && (decide ((vA1.length:Int) < y14))) with hb18 | hb18
 replace hm:=ite_t hm hb18
 refine tn<|ctv o rfl hb18<|wk<|tn<|wb<|th<|?_
 obtain ⟨x19,h20,hm⟩:=bs hm
 obtain ⟨c21,g22,hl23⟩:=SR.get hr5 h20
 obtain ⟨oa24,cap25,oa28,cap29,rfl,hc26,hr27,hc30,hr31⟩:=api_Stmt_open g22
 refine rg<|qm o rfl fun a o=>qm o rfl fun a o=>qv o (e_iaI o runUnderlying46 sizeOf51 rfl rfl h20 (SR.oaI hr5 (by decide) h20)) fun a o=>qv o (e_ldA o isAgg51 sizeOf51 rfl rfl (fun j v hj=>PH.le.cell (Lds.le (St.ld u)) (hl23 j v hj))) fun a o=>ls<|a_alloc (cs:=[i6 0,strv [],strv [],.slice none 0 0,.slice none 0 0,i6 0,i6 0,i6 0,i6 0].toArray) o rfl u zeroValue51 rfl fun b32 w a u o=>ls<|s_blkA o u sizeOf51 rfl rfl rfl rfl (one_cells rfl) .head fun w u=>re<|tn<|th<|rg<|qm o rfl fun a o=>qv o (e_add o rfl rfl) fun a o=>qv o (e_fa o fa51_6 rfl) fun a o=>qv o (e_ld o isAgg3 rfl ((St.ld u).cellB t0 rfl)) fun a o=>qv o (e_add o rfl rfl) fun a o=>qa o rfl fun a o=>re<|tn<|th<|rg<|qm o rfl fun a o=>qv o (e_fa o fa51_7 rfl) fun a o=>qv o (e_ld o isAgg3 rfl ((St.ld u).cellB t0 rfl)) fun a o=>qv o (e_add o rfl rfl) fun a o=>qa o rfl fun a o=>re<|tn<|th<|?_
 obtain ⟨l33,h34,hm⟩:=bs hm
 obtain ⟨oa35,cap36,e37,e38,hc39,hr40⟩:=SR.sub (sz:=9) hr5 hc4 rfl h34
 obtain ⟨l41,h42,hm⟩:=bs hm
 obtain ⟨oa43,cap44,e45,e46,hc47,hr48⟩:=SR.sub (sz:=9) hr5 hc4 rfl h42
 refine rxS 11 u wide (by kernel_rfl) fun w u=>?_
 iterate 2 refine xq (St.ld u) o (fun w hl=>e_move o rfl) fun a o=>?_
 refine xr u o (e_add o rfl rfl) fun a o=>xm u o rfl fun a o=>xr u o (e_subL (xs:=p1) (vl:=(IntKind.i64.wrap (vA7+1))) (vh:=(IntKind.i64.wrap ((IntKind.i64.wrap (vA7+1))+x19.Body))) o runUnderlying46 sizeOf51 rfl hc4 rfl rfl h34 e37 e38) fun a o=>?_
 iterate 3 refine xq (St.ld u) o (fun w hl=>e_move o rfl) fun a o=>?_
 refine xr u o (e_subL (xs:=p1) (vl:=(IntKind.i64.wrap ((IntKind.i64.wrap (vA7+1))+x19.Body))) (vh:=(IntKind.i64.wrap ((IntKind.i64.wrap ((IntKind.i64.wrap (vA7+1))+x19.Body))+x19.Else))) o runUnderlying46 sizeOf51 rfl hc4 rfl rfl h42 e45 e46) fun a o=>?_
 iterate 2 refine xq (St.ld u) o (fun w hl=>e_asg o rfl) fun a o=>?_
 refine xe<|tn<|th<|midK (fun a w=>∃ (vB1:(List Int)) (oaB2:Option Addr) (capB3:Nat) (vsB4:List Value),(Zb ((Ze (Za N) N p1 y14) nn1) x19 vA7) vB1=some r∧Fr 92 [(0,.slice oa2 p1.length cap3),(1,.pointer (some ⟨b7,0,none⟩)),(2,.pointer (some ⟨b13,0,none⟩)),(3,.pointer (some ⟨b16,0,none⟩)),(8,i6 (IntKind.i64.wrap ((IntKind.i64.wrap ((IntKind.i64.wrap (vA7+1))+x19.Body))+x19.Else)))] a∧St w0 (sepA [blk b7 (.cells [.slice oa8 p6.length cap9].toArray 42 (0,0)),sla 3 1 oa8 p6.length cap9 vs10]).fp [H] [sla 3 1 oaB2 vB1.length capB3 vsB4,blk b7 (.cells [.slice oaB2 vB1.length capB3].toArray 42 (0,0))] w∧Rows H vsB4 vB1) ?_ ?_
 refine wb<|th<|midK (fun a w=>∃ (vC1:Bool),(Zc (Za N) N (Zb ((Ze (Za N) N p1 y14) nn1) x19 vA7) y14 x19 l33 l41 vA1) vC1=some r∧Fr 92 [(0,.slice oa2 p1.length cap3),(1,.pointer (some ⟨b7,0,none⟩)),(2,.pointer (some ⟨b13,0,none⟩)),(3,.pointer (some ⟨b16,0,none⟩)),(6,.pointer (some ⟨b32,0,none⟩)),(8,i6 (IntKind.i64.wrap ((IntKind.i64.wrap ((IntKind.i64.wrap (vA7+1))+x19.Body))+x19.Else))),(9,.slice oa35 l33.length cap36),(10,.slice oa43 l41.length cap44),(43,.bool vC1)] a∧St w0 (sepA [blk b7 (.cells [.slice oa8 p6.length cap9].toArray 42 (0,0)),sla 3 1 oa8 p6.length cap9 vs10]).fp [H] [sla 3 1 oaA2 vA1.length capA3 vsA4,blk b7 (.cells [.slice oaA2 vA1.length capA3].toArray 42 (0,0)),blk b32 (.cells [i6 x19.Kind,strv x19.Reg,strv x19.Name,.slice oa24 x19.E.length cap25,.slice oa28 x19.F.length cap29,i6 x19.N,i6 x19.Body,i6 x19.Else,i6 x19.At].toArray 51 (0,0))] w) ?_ ?_
 rcases bdich (decide (x19.Kind=11)) with hb49 | hb49
 replace hm:=itp_t hm hb49
 obtain ⟨r50,h51,hm⟩:=bs hm
 obtain ⟨r52,h53,hm⟩:=bs hm
 refine rg<|qv o (e_fa o fa51_0 rfl) fun a o=>qv o (e_ld o isAgg3 rfl ((St.ld u).cellB t0 rfl)) fun a o=>qv o (e_eql o rfl rfl) fun a o=>qv o (e_as (e_move o rfl) (congrArg Value.bool hb49)) fun a o=>qg o (e_move o rfl) fun a o=>ls<|gy o rfl rfl<|cq o call70 (Zh_c _ (hp_le _) hc47 (St.srH u hr48) h51) ⟨rfl,trivial⟩ u fun w a u o=>qg o (e_move o rfl) fun a o=>ls<|gy o rfl rfl<|cq o call70 (Zh_c _ (hp_le _) hc39 (St.srH u hr40) h53) ⟨rfl,trivial⟩ u fun w a u o=>qg o (e_gtr o rfl rfl) fun a o=>qv o (e_pickT o rfl rfl) fun a o=>qa o rfl fun a o=>re<|tn<|?_
 replace u:=u.pk [1,1,0] rfl
 exact ⟨(decide (r52 < r50)),hm,o.hs,u⟩
 replace hm:=itp_f hm hb49
 refine rg<|qv o (e_fa o fa51_0 rfl) fun a o=>qv o (e_ld o isAgg3 rfl ((St.ld u).cellB t0 rfl)) fun a o=>qv o (e_eql o rfl rfl) fun a o=>qv o (e_as (e_move o rfl) (congrArg Value.bool hb49)) fun a o=>?_
 iterate 5 refine qn o fun a o=>?_
 refine qv o (e_pickF o rfl rfl) fun a o=>qa o rfl fun a o=>re<|tn<|?_
 replace u:=u.pk [1,1,0] rfl
 exact ⟨false,hm,o.hs,u⟩
 rintro a w ⟨vC1,hm,o,u⟩
 unfold Zc at hm
 rcases bdich vC1 with hb54 | hb54
 replace hm:=ite_t hm hb54
 refine ctv o rfl hb54<|?_
 obtain ⟨r55,h56,hm⟩:=bs hm
 refine rg<|qv o (e_ld o Tryz.isAgg65 rfl (PH.le.cell (Lds.le (St.ld u)) (ph_cell hb17 rfl))) fun a o=>qm o rfl fun a o=>?_
 replace u:=u.pk [1,0,0] rfl
 replace u:=St.sep [blk b7 (.cells [.slice oaA2 vA1.length capA3].toArray 42 (0,0)),sla 3 1 oaA2 vA1.length capA3 vsA4] u
 refine ls<|k1 (vs:=[.slice oa43 l41.length cap44]) (caps:=[.pointer (some ⟨b7,0,none⟩),.pointer (some ⟨b13,0,none⟩),.pointer (some ⟨b16,0,none⟩)]) o rfl rfl call72 (ih (St.le u) (p6:=vA1) (b7:=b7) (oa8:=oaA2) (cap9:=capA3) (vs10:=vsA4) hc47 hr48 hvA5 hb15 hb17 (St.sepOk u) (St.sepDis u) h56) ⟨rfl,trivial⟩ rfl (fun v w a hR o=>?_)
 obtain ⟨oa57,cap58,vs59,rfl,hv60,hk⟩:=hR
 replace u:=(u.mut hk .head).unsep
 replace hv60:=hv60 H
 refine re<|bn<|tn<|?_
 replace u:=u.pk [1,0] rfl
 exact ⟨r55,oa57,cap58,vs59,hm,o.hs,u,hv60⟩
 replace hm:=ite_f hm hb54
 refine cfv o rfl hb54<|th<|rg<|qv o (e_fa o fa51_0 rfl) fun a o=>qv o (e_ld o isAgg3 rfl ((St.ld u).cellB t2 rfl)) fun a o=>qv o (e_eql o rfl rfl) fun a o=>qa o rfl fun a o=>re<|?_
 rcases bdich (decide (x19.Kind=11)) with hb62 | hb62
 replace hm:=itp_t hm hb62
 refine tn<|ctv o rfl hb62<|?_
 obtain ⟨r63,h64,hm⟩:=bs hm
 refine rg<|qv o (e_ld o Tryz.isAgg65 rfl (PH.le.cell (Lds.le (St.ld u)) (ph_cell hb17 rfl))) fun a o=>qm o rfl fun a o=>?_
 replace u:=u.pk [1,0,0] rfl
 replace u:=St.sep [blk b7 (.cells [.slice oaA2 vA1.length capA3].toArray 42 (0,0)),sla 3 1 oaA2 vA1.length capA3 vsA4] u
 refine ls<|k1 (vs:=[.slice oa35 l33.length cap36]) (caps:=[.pointer (some ⟨b7,0,none⟩),.pointer (some ⟨b13,0,none⟩),.pointer (some ⟨b16,0,none⟩)]) o rfl rfl call72 (ih (St.le u) (p6:=vA1) (b7:=b7) (oa8:=oaA2) (cap9:=capA3) (vs10:=vsA4) hc39 hr40 hvA5 hb15 hb17 (St.sepOk u) (St.sepDis u) h64) ⟨rfl,trivial⟩ rfl (fun v w a hR o=>?_)
 obtain ⟨oa65,cap66,vs67,rfl,hv68,hk⟩:=hR
 replace u:=(u.mut hk .head).unsep
 replace hv68:=hv68 H
 refine re<|bn<|tn<|?_
 replace u:=u.pk [1,0] rfl
 exact ⟨r63,oa65,cap66,vs67,hm,o.hs,u,hv68⟩
 replace hm:=itp_f hm hb62
 refine tn<|cfv o rfl hb62<|th<|midK (fun a w=>∃ (vC2:Bool),(Zd (Za N) N (Zb ((Ze (Za N) N p1 y14) nn1) x19 vA7) y14 x19 l33 vA1) vC2=some r∧Fr 92 [(0,.slice oa2 p1.length cap3),(1,.pointer (some ⟨b7,0,none⟩)),(2,.pointer (some ⟨b13,0,none⟩)),(3,.pointer (some ⟨b16,0,none⟩)),(6,.pointer (some ⟨b32,0,none⟩)),(8,i6 (IntKind.i64.wrap ((IntKind.i64.wrap ((IntKind.i64.wrap (vA7+1))+x19.Body))+x19.Else))),(9,.slice oa35 l33.length cap36),(64,.bool vC2)] a∧St w0 (sepA [blk b7 (.cells [.slice oa8 p6.length cap9].toArray 42 (0,0)),sla 3 1 oa8 p6.length cap9 vs10]).fp [H] [sla 3 1 oaA2 vA1.length capA3 vsA4,blk b7 (.cells [.slice oaA2 vA1.length capA3].toArray 42 (0,0)),blk b32 (.cells [i6 x19.Kind,strv x19.Reg,strv x19.Name,.slice oa24 x19.E.length cap25,.slice oa28 x19.F.length cap29,i6 x19.N,i6 x19.Body,i6 x19.Else,i6 x19.At].toArray 51 (0,0))] w) ?_ ?_
 rcases bdich (decide (x19.Kind=12)) with hb70 | hb70
 replace hm:=itp_t hm hb70
 obtain ⟨r71,h72,hm⟩:=bs hm
 refine rg<|qv o (e_fa o fa51_0 rfl) fun a o=>qv o (e_ld o isAgg3 rfl ((St.ld u).cellB t2 rfl)) fun a o=>qv o (e_eql o rfl rfl) fun a o=>qv o (e_as (e_move o rfl) (congrArg Value.bool hb70)) fun a o=>qg o (e_move o rfl) fun a o=>ls<|gy o rfl rfl<|cq o call70 (Zh_c _ (hp_le _) hc39 (St.srH u hr40) h72) ⟨rfl,trivial⟩ u fun w a u o=>qg o (e_gtr o rfl rfl) fun a o=>qv o (e_pickT o rfl rfl) fun a o=>qa o rfl fun a o=>re<|tn<|?_
 exact ⟨(decide (0 < r71)),hm,o.hs,u⟩
 replace hm:=itp_f hm hb70
 refine rg<|qv o (e_fa o fa51_0 rfl) fun a o=>qv o (e_ld o isAgg3 rfl ((St.ld u).cellB t2 rfl)) fun a o=>qv o (e_eql o rfl rfl) fun a o=>qv o (e_as (e_move o rfl) (congrArg Value.bool hb70)) fun a o=>?_
 iterate 3 refine qn o fun a o=>?_
 refine qv o (e_pickF o rfl rfl) fun a o=>qa o rfl fun a o=>re<|tn<|?_
 exact ⟨false,hm,o.hs,u⟩
 rintro a w ⟨vC2,hm,o,u⟩
 unfold Zd at hm
 rcases bdich vC2 with hb73 | hb73
 replace hm:=ite_t hm hb73
 refine ctv o rfl hb73<|th<|rg<|qv o (e_fa o fa51_5 rfl) fun a o=>qv o (e_ld o isAgg3 rfl ((St.ld u).cellB t2 rfl)) fun a o=>qm o rfl fun a o=>re<|?_
 replace u:=u.pk [0,0] rfl
 refine tn<|wb<|lp (α:=Nat×(List Int)×Int) (fun gh a w=>match gh with | (nn5,vC3,vC9)=>∃ (oaC4:Option Addr) (capC5:Nat) (vsC6:List Value),(Zf (Za N) N (Zb ((Ze (Za N) N p1 y14) nn1) x19 vA7) y14 x19 l33) nn5 vC3 vC9=some r∧Fr 92 [(0,.slice oa2 p1.length cap3),(1,.pointer (some ⟨b7,0,none⟩)),(2,.pointer (some ⟨b13,0,none⟩)),(3,.pointer (some ⟨b16,0,none⟩)),(8,i6 (IntKind.i64.wrap ((IntKind.i64.wrap ((IntKind.i64.wrap (vA7+1))+x19.Body))+x19.Else))),(9,.slice oa35 l33.length cap36),(74,i6 x19.N),(75,i6 vC9)] a∧St w0 (sepA [blk b7 (.cells [.slice oa8 p6.length cap9].toArray 42 (0,0)),sla 3 1 oa8 p6.length cap9 vs10]).fp [H] [sla 3 1 oaC4 vC3.length capC5 vsC6,blk b7 (.cells [.slice oaC4 vC3.length capC5].toArray 42 (0,0))] w∧Rows H vsC6 vC3) (fun gh=>gh.1) (N,vA1,0) ⟨oaA2,capA3,vsA4,hm,o.hs,u,hvA5⟩ ?_
 rintro ⟨nn5,vC3,vC9⟩ a w ⟨oaC4,capC5,vsC6,hm,o,u,hvC7⟩
 obtain _ | nn5:=nn5
 simp [Zf] at hm
 rw [Zf] at hm
 refine th<|rg<|qv o (e_lss o rfl rfl) fun a o=>re<|?_
 rcases bdich (decide (vC9 < x19.N)) with hb74 | hb74
 replace hm:=itp_t hm hb74
 refine tn<|th<|ctv o rfl hb74<|wk<|tn<|th<|wb<|?_
 obtain ⟨r75,h76,hm⟩:=bs hm
 refine rg<|qv o (e_ld o Tryz.isAgg65 rfl (PH.le.cell (Lds.le (St.ld u)) (ph_cell hb17 rfl))) fun a o=>qm o rfl fun a o=>?_
 replace u:=u.pk [1,0] rfl
 replace u:=St.sep [blk b7 (.cells [.slice oaC4 vC3.length capC5].toArray 42 (0,0)),sla 3 1 oaC4 vC3.length capC5 vsC6] u
 refine ls<|k1 (vs:=[.slice oa35 l33.length cap36]) (caps:=[.pointer (some ⟨b7,0,none⟩),.pointer (some ⟨b13,0,none⟩),.pointer (some ⟨b16,0,none⟩)]) o rfl rfl call72 (ih (St.le u) (p6:=vC3) (b7:=b7) (oa8:=oaC4) (cap9:=capC5) (vs10:=vsC6) hc39 hr40 hvC7 hb15 hb17 (St.sepOk u) (St.sepDis u) h76) ⟨rfl,trivial⟩ rfl (fun v w a hR o=>?_)
 obtain ⟨oa77,cap78,vs79,rfl,hv80,hk⟩:=hR
 replace u:=(u.mut hk .head).unsep
 replace hv80:=hv80 H
 refine re<|bn<|tn<|rg<|qv o (e_add o rfl rfl) fun a o=>qm o rfl fun a o=>re<|tn<|?_
 replace u:=u.pk [1,0] rfl
 exact ⟨(nn5,r75,(IntKind.i64.wrap (vC9+1))),⟨oa77,cap78,vs79,hm,o.hs,u,hv80⟩,Nat.lt_succ_self _⟩
 replace hm:=itp_f hm hb74
 refine tn<|th<|cfv o rfl hb74<|we<|tx<|tx<|bx<|bn<|tn<|?_
 exact ⟨vC3,oaC4,capC5,vsC6,hm,o.hs,u,hvC7⟩
 replace hm:=ite_f hm hb73
 refine cfv o rfl hb73<|th<|?_
 obtain ⟨r82,h83,hm⟩:=bs hm
 refine rg<|qv o (e_fa o fa51_0 rfl) fun a o=>qv o (e_ld o isAgg3 rfl ((St.ld u).cellB t2 rfl)) fun a o=>ls<|cq o call40 (Z0_c (hp_le _) h83) ⟨rfl,trivial⟩ u fun w a u o=>qv o (e_gtr o rfl rfl) fun a o=>qa o rfl fun a o=>re<|?_
 rcases bdich (decide (0 < r82)) with hb84 | hb84
 replace hm:=itp_t hm hb84
 refine tn<|ctv o rfl hb84<|?_
 obtain ⟨l88,h89,hm⟩:=bs hm
 refine rg<|qv o (e_ld o Tryz.isAgg42 rfl ((St.ld u).cellB t1 rfl)) fun a o=>qv o (e_fa o fa51_0 rfl) fun a o=>qv o (e_ld o isAgg3 rfl ((St.ld u).cellB t2 rfl)) fun a o=>ls<|a_bsl (e:=3) (sz:=1) [i6 x19.Kind] o rfl u rfl rfl rfl (fun w=>by kernel_rfl) fun b86 w a u o=>?_
 have hv85:Rows (α:=Int) H [i6 x19.Kind] ([x19.Kind]:List Int):=(.cons (c:=[i6 x19.Kind]) rfl .nil)
 refine ls<|m_app (α:=Int) (xs:=vA1) (ys:=([x19.Kind]:List Int)) o rfl u underlying42 info3 rfl (by decide) rfl rfl rfl t1 hvA5 (u.rdO t0) hv85 h89 fun oa90 cap91 vs92 w a hv93 hU o=>?_
 replace u:=hU _ (.tail .head)
 replace u:=u.drop .head
 refine ls<|s_blk o u sizeOf42 rfl rfl rfl rfl (.tail .head) .zero fun w u=>re<|bn<|tn<|?_
 replace u:=u.pk [0,0] rfl
 exact ⟨l88,oa90,cap91,vs92,hm,o.hs,u,hv93⟩
 replace hm:=itp_f hm hb84
 refine tn<|cfv o rfl hb84<|wk<|bn<|tn<|?_
 replace u:=u.pk [0,0] rfl
 exact ⟨vA1,oaA2,capA3,vsA4,hm,o.hs,u,hvA5⟩
 rintro a w ⟨vB1,oaB2,capB3,vsB4,hm,o,u,hvB5⟩
 unfold Zb at hm
 refine rg<|qm o rfl fun a o=>qa o rfl fun a o=>re<|bn<|tn<|?_
 exact ⟨(nn1,vB1,(IntKind.i64.wrap ((IntKind.i64.wrap ((IntKind.i64.wrap (vA7+1))+x19.Body))+x19.Else))),⟨oaB2,capB3,vsB4,hm,o.hs,u,hvB5⟩,Nat.lt_succ_self _⟩
 replace hm:=ite_f hm hb18
 refine tn<|cfv o rfl hb18<|we<|tx<|tx<|bx<|?_
 obtain rfl:=si hm
 exact r0n o results72 ⟨oaA2,capA3,vsA4,rfl,(fun _=>Rows.ind hvA5),(u.pickL (.cons (.tail .head) (.cons .head .nil))).endMut⟩
theorem Z9_c (hH:H.le w0) (hT:Tab H) {oa2:Option Addr} {cap3:Nat} {p1:(List api_Stmt)} (hc4:p1.length≤cap3) (hr5:SR H oa2 p1) {p6:Int} {r:(List Int)} (hm:Z9 N p1 p6=some r):Tot Tryz.prog 36 #[.slice oa2 p1.length cap3,i6 p6] w0 (fun v w'=>∃ (oa0:Option Addr) (cap0:Nat) (vs0:List Value),v=.slice oa0 r.length cap0∧(∀ h,Rows h vs0 r)∧Fresh w0 (sla 3 1 oa0 r.length cap0 vs0) w'):=by
 unfold Z9 at hm
 refine fn0 func36 rfl ntmps36 rfl rfl fun a o=>?_
 have u:St w0 Nil [H] [] w0:=start1 hH
 refine th<|rg<|ls<|a_box (cs:=[i6 p6].toArray) o rfl u rfl rfl fun b7 w a u o=>qa o rfl fun a o=>re<|tn<|th<|th<|?_
 obtain ⟨rz8,h9,hm⟩:=bs hm
 refine rg<|qm o rfl fun a o=>ls<|cq o call69 (Zbg_c (hp_le _) (Tab.mono hT (St.up u)) hc4 (St.srH u hr5) h9) ⟨rfl,trivial⟩ u fun w a u o=>qv o (e_not o rfl) fun a o=>re<|?_
 rcases bdich rz8 with hb10 | hb10
 replace hm:=ite_t hm hb10
 refine tn<|cfv o rfl (by rw [hb10];rfl)<|wk<|tn<|th<|rg<|ls<|a_alloc (cs:=[.slice none 0 0].toArray) o rfl u Tryz.zeroValue42 rfl fun b11 w a u o=>re<|tn<|th<|rg<|ls<|a_alloc (cs:=[.nilFunc].toArray) o rfl u Tryz.zeroValue65 rfl fun b12 w a u o=>re<|tn<|th<|rg<|qv o (e_mkf (vs:=[.pointer (some ⟨b11,0,none⟩),.pointer (some ⟨b7,0,none⟩),.pointer (some ⟨b12,0,none⟩)]) o ⟨rfl,rfl,rfl,trivial⟩) fun a o=>ls<|s_blk o u sizeOf65 rfl rfl rfl rfl .head .zero fun w u=>re<|tn<|th<|?_
 obtain ⟨H15,hx13,hb14,u⟩:=St.frzB u (.tail (.tail .head))
 obtain ⟨H18,hx16,hb17,u⟩:=St.frzB u .head
 obtain ⟨r20,h21,hm⟩:=bs hm
 refine rg<|qv o (e_ld o Tryz.isAgg65 rfl (PH.le.cell (Lds.le (St.ld u)) (ph_cell hb17 rfl))) fun a o=>qm o rfl fun a o=>?_
 replace u:=St.nilS u 3 1
 replace u:=u.pk [1,0] rfl
 replace u:=St.sep [blk b11 (.cells [.slice none 0 0].toArray 42 (0,0)),sla 3 1 none 0 0 []] u
 refine ls<|k1 (vs:=[.slice oa2 p1.length cap3]) (caps:=[.pointer (some ⟨b11,0,none⟩),.pointer (some ⟨b7,0,none⟩),.pointer (some ⟨b12,0,none⟩)]) o rfl rfl call72 (Za_c _ (St.le u) (p6:=[]) (b7:=b11) (oa8:=none) (cap9:=0) (vs10:=[]) hc4 (hr5.mono (cp hx16.sub hx13.sub)) .nil (hx16.sub _ _ hb14) hb17 (St.sepOk u) (St.sepDis u) h21) ⟨rfl,trivial⟩ rfl (fun v w a hR o=>?_)
 obtain ⟨oa22,cap23,vs24,rfl,hv25,hk⟩:=hR
 replace u:=(u.mut hk .head).unsep
 replace hv25:=hv25 H18
 refine re<|tn<|th<|rg<|qv o (e_ld o Tryz.isAgg42 rfl ((St.ld u).cellB t0 rfl)) fun a o=>qa o rfl fun a o=>re<|tn<|wr<|?_
 obtain rfl:=si hm
 exact r1 o results36 rfl ⟨_,_,_,rfl,(fun _=>Rows.ind hv25),u.endFresh t1⟩
 replace hm:=ite_f hm hb10
 refine tn<|ctv o rfl (by rw [hb10];rfl)<|th<|rg<|qa o rfl fun a o=>re<|tn<|wr<|tr<|?_
 replace u:=St.nilS u 3 1
 obtain rfl:=si hm
 exact r1 o results36 rfl ⟨_,_,_,rfl,(fun _=>.nil),u.endFresh t0⟩
theorem Z1_c (hH:H.le w0) (hT:Tab H) {cs2:List Value} {p1:api_Prog} (g3:Enc.rep H cs2 p1) {p4:Int} {r:Int} (hm:Z1 N p1 p4=some r):Tot Tryz.prog 38 #[.agg cs2.toArray,i6 p4] w0 (fun v w'=>v=i6 r∧Keep Nil w0 w'):=by
 unfold Z1 at hm
 refine fn0 func38 rfl ntmps38 rfl rfl fun a o=>?_
 have u:St w0 Nil [H] [] w0:=start1 hH
 obtain ⟨oa5,cap6,oa9,cap10,oa13,cap14,oa17,cap18,oa21,cap22,oa25,cap26,rfl,hc7,hr8,hc11,hr12,hc15,hr16,hc19,hr20,hc23,hr24,hc27,hr28⟩:=api_Prog_open g3
 refine th<|rg<|ls<|a_box (cs:=[.slice oa5 p1.Lines.length cap6,.slice oa9 p1.Vols.length cap10,.slice oa13 p1.Locks.length cap14,.slice oa17 p1.Threads.length cap18,.slice oa21 p1.Recover.length cap22,.slice oa25 p1.Claims.length cap26].toArray) o rfl u rfl rfl fun b29 w a u o=>qa o rfl fun a o=>re<|tn<|th<|th<|?_
 obtain ⟨r30,h31,hm⟩:=bs hm
 refine rg<|qv o (e_ldA o Tryz.isAgg27 Tryz.sizeOf27 rfl rfl ((St.ld u).cellsB t0)) fun a o=>ls<|cq o call16 (Z7y_c (hp_le _) (Tab.mono hT (St.up u)) (Enc.mono (St.up u) (show Enc.rep (α:=api_Prog) H [.slice oa5 p1.Lines.length cap6,.slice oa9 p1.Vols.length cap10,.slice oa13 p1.Locks.length cap14,.slice oa17 p1.Threads.length cap18,.slice oa21 p1.Recover.length cap22,.slice oa25 p1.Claims.length cap26] p1 from ⟨_,_,rfl,⟨_,_,rfl,hc7,hr8⟩,⟨_,_,rfl,⟨_,_,rfl,hc11,hr12⟩,⟨_,_,rfl,⟨_,_,rfl,hc15,hr16⟩,⟨_,_,rfl,⟨_,_,rfl,hc19,hr20⟩,⟨_,_,rfl,⟨_,_,rfl,hc23,hr24⟩,⟨_,_,rfl,hc27,hr28⟩⟩⟩⟩⟩⟩)) h31) ⟨rfl,trivial⟩ u fun w a u o=>qm o rfl fun a o=>?_
 iterate 2 refine qv o (e_ext o rfl rfl) fun a o=>?_
 iterate 2 refine qa o rfl fun a o=>?_
 refine re<|tn<|th<|rg<|qm o rfl fun a o=>qv o (e_neq o rfl rfl) fun a o=>qm o rfl fun a o=>grp (N:=60) (Fk:=[(1,i6 p4),(2,.pointer (some ⟨b29,0,none⟩)),(22,.bool ((decide (r30.1≠0)) || (decide (p4 < 0))))]) (b:=(decide (r30.1≠0))) 3 u ?_ ?_ ?_
 intro hb key
 replace o:=Fr.as o (t:=19) rfl (congrArg Value.bool hb)
 iterate 2 refine qn o fun a o=>?_
 refine qv o (e_as (v':=.bool ((decide (r30.1≠0)) || (decide (p4 < 0)))) (e_pickT o rfl rfl) (by rw [hb];rfl)) fun a o=>?_
 exact key _ _ (o.hs) u
 intro hb key
 replace o:=Fr.as o (t:=19) rfl (congrArg Value.bool hb)
 refine qg o (e_move o rfl) fun a o=>qg o (e_lss o rfl rfl) fun a o=>qv o (e_as (v':=.bool ((decide (r30.1≠0)) || (decide (p4 < 0)))) (e_pickF o rfl rfl) (by rw [hb];rfl)) fun a o=>?_
 exact key _ _ (o.hs) u
 intro a w o u
 refine qm o rfl fun a o=>grp (N:=60) (Fk:=[(1,i6 p4),(2,.pointer (some ⟨b29,0,none⟩)),(26,.bool (((decide (r30.1≠0)) || (decide (p4 < 0))) || (decide (8 < p4))))]) (b:=((decide (r30.1≠0)) || (decide (p4 < 0)))) 3 u ?_ ?_ ?_
 intro hb key
 replace o:=Fr.as o (t:=23) rfl (congrArg Value.bool hb)
 iterate 2 refine qn o fun a o=>?_
 refine qv o (e_as (v':=.bool (((decide (r30.1≠0)) || (decide (p4 < 0))) || (decide (8 < p4)))) (e_pickT o rfl rfl) (by rw [hb];rfl)) fun a o=>?_
 exact key _ _ (o.hs) u
 intro hb key
 replace o:=Fr.as o (t:=23) rfl (congrArg Value.bool hb)
 refine qg o (e_move o rfl) fun a o=>qg o (e_gtr o rfl rfl) fun a o=>qv o (e_as (v':=.bool (((decide (r30.1≠0)) || (decide (p4 < 0))) || (decide (8 < p4)))) (e_pickF o rfl rfl) (by rw [hb];rfl)) fun a o=>?_
 exact key _ _ (o.hs) u
 intro a w o u
 refine re<|?_
 rcases bdich (((decide (r30.1≠0)) || (decide (p4 < 0))) || (decide (8 < p4))) with hb32 | hb32
 replace hm:=ite_t hm hb32
 refine tn<|ctv o rfl hb32<|th<|rg<|qa o rfl fun a o=>re<|tn<|wr<|tr<|?_
 obtain rfl:=si hm
 exact r1 o results38 rfl ⟨rfl,u.keep⟩
 replace hm:=ite_f hm hb32
 refine tn<|cfv o rfl hb32<|wk<|tn<|th<|rg<|qa o rfl fun a o=>re<|tn<|th<|th<|rg<|qv o (e_fa o fa27_3 rfl) fun a o=>qv o (e_ld o isAgg24 rfl ((St.ld u).cellB t0 rfl)) fun a o=>qv o (e_lenL (α:=api_Thread) (xs:=p1.Threads) o runUnderlying24 rfl) fun a o=>qm o rfl fun a o=>re<|tn<|midK (fun a w=>∃ (vA1:Int),(Z2 N p1 p4) vA1=some r∧Fr 60 [(1,i6 p4),(2,.pointer (some ⟨b29,0,none⟩)),(7,i6 vA1)] a∧St w0 Nil [H] [blk b29 (.cells [.slice oa5 p1.Lines.length cap6,.slice oa9 p1.Vols.length cap10,.slice oa13 p1.Locks.length cap14,.slice oa17 p1.Threads.length cap18,.slice oa21 p1.Recover.length cap22,.slice oa25 p1.Claims.length cap26].toArray 27 (0,0))] w) ?_ ?_
 refine wb<|lp (α:=Nat×Int×Int) (fun gh a w=>match gh with | (nn2,vB1,vB2)=>(Z5 N (Z2 N p1 p4) p1) nn2 vB1 vB2=some r∧Fr 60 [(1,i6 p4),(2,.pointer (some ⟨b29,0,none⟩)),(7,i6 vB1),(28,.slice oa17 p1.Threads.length cap18),(29,i6 (p1.Threads.length:Int)),(30,i6 vB2)] a∧St w0 Nil [H] [blk b29 (.cells [.slice oa5 p1.Lines.length cap6,.slice oa9 p1.Vols.length cap10,.slice oa13 p1.Locks.length cap14,.slice oa17 p1.Threads.length cap18,.slice oa21 p1.Recover.length cap22,.slice oa25 p1.Claims.length cap26].toArray 27 (0,0))] w) (fun gh=>gh.1) (N,1,0) ⟨hm,o.hs,u⟩ ?_
 rintro ⟨nn2,vB1,vB2⟩ a w ⟨hm,o,u⟩
 obtain _ | nn2:=nn2
 simp [Z5] at hm
 rw [Z5] at hm
 refine th<|rg<|qv o (e_lss o rfl rfl) fun a o=>re<|?_
 rcases bdich (decide (vB2 < (p1.Threads.length:Int))) with hb33 | hb33
 replace hm:=itp_t hm hb33
 refine tn<|th<|ctv o rfl hb33<|wk<|tn<|th<|wb<|th<|?_
 obtain ⟨x34,h35,hm⟩:=bs hm
 obtain ⟨c36,g37,hl38⟩:=SR.get hr20 h35
 obtain ⟨oa39,cap40,oa43,cap44,rfl,hc41,hr42,hc45,hr46⟩:=api_Thread_open g37
 refine rg<|qv o (e_iaI o Tryz.runUnderlying24 Tryz.sizeOf48 rfl rfl h35 (SR.oaI hr20 (by decide) h35)) fun a o=>qv o (e_ldA o isAgg48 sizeOf48 rfl rfl (fun j v hj=>PH.le.cell (Lds.le (St.ld u)) (hl38 j v hj))) fun a o=>ls<|a_alloc (cs:=[strv [],.slice none 0 0,.slice none 0 0,i6 0].toArray) o rfl u zeroValue48 rfl fun b47 w a u o=>ls<|s_blkA o u sizeOf48 rfl rfl rfl rfl (one_cells rfl) .head fun w u=>re<|tn<|?_
 obtain ⟨r48,h49,hm⟩:=bs hm
 refine rg<|qm o rfl fun a o=>qv o (e_fa o fa48_2 rfl) fun a o=>qv o (e_ld o isAgg46 rfl ((St.ld u).cellB t0 rfl)) fun a o=>ls<|cq o call70 (Zh_c _ (hp_le _) hc45 (St.srH u hr46) h49) ⟨rfl,trivial⟩ u fun w a u o=>qv o (e_add o rfl rfl) fun a o=>qa o rfl fun a o=>re<|bn<|tn<|rg<|qv o (e_add o rfl rfl) fun a o=>qm o rfl fun a o=>re<|tn<|?_
 replace u:=u.pk [1] rfl
 exact ⟨(nn2,(IntKind.i64.wrap (vB1+r48)),(IntKind.i64.wrap (vB2+1))),⟨hm,o.hs,u⟩,Nat.lt_succ_self _⟩
 replace hm:=itp_f hm hb33
 refine tn<|th<|cfv o rfl hb33<|we<|tx<|tx<|bx<|tn<|?_
 exact ⟨vB1,hm,o.hs,u⟩
 rintro a w ⟨vA1,hm,o,u⟩
 unfold Z2 at hm
 refine th<|th<|rg<|qm o rfl fun a o=>qm o rfl fun a o=>re<|tn<|midK (fun a w=>∃ (vA2:Int),Z3 vA2=some r∧Fr 60 [(7,i6 vA2)] a∧St w0 Nil [H] [] w) ?_ ?_
 refine wb<|lp (α:=Nat×Int×Int) (fun gh a w=>match gh with | (nn4,vB3,vB4)=>(Z6 N Z3 p1 p4) nn4 vB3 vB4=some r∧Fr 60 [(2,.pointer (some ⟨b29,0,none⟩)),(7,i6 vB3),(40,i6 p4),(41,i6 vB4)] a∧St w0 Nil [H] [blk b29 (.cells [.slice oa5 p1.Lines.length cap6,.slice oa9 p1.Vols.length cap10,.slice oa13 p1.Locks.length cap14,.slice oa17 p1.Threads.length cap18,.slice oa21 p1.Recover.length cap22,.slice oa25 p1.Claims.length cap26].toArray 27 (0,0))] w) (fun gh=>gh.1) (N,vA1,0) ⟨hm,o.hs,u⟩ ?_
 rintro ⟨nn4,vB3,vB4⟩ a w ⟨hm,o,u⟩
 obtain _ | nn4:=nn4
 simp [Z6] at hm
 rw [Z6] at hm
 refine th<|rg<|qv o (e_lss o rfl rfl) fun a o=>re<|?_
 rcases bdich (decide (vB4 < p4)) with hb50 | hb50
 replace hm:=itp_t hm hb50
 refine tn<|th<|ctv o rfl hb50<|wk<|tn<|th<|midK (fun a w=>∃ (vC1:Int),(Z4 (Z6 N Z3 p1 p4 nn4) vB4) vC1=some r∧Fr 60 [(2,.pointer (some ⟨b29,0,none⟩)),(7,i6 vC1),(40,i6 p4),(41,i6 vB4)] a∧St w0 Nil [H] [blk b29 (.cells [.slice oa5 p1.Lines.length cap6,.slice oa9 p1.Vols.length cap10,.slice oa13 p1.Locks.length cap14,.slice oa17 p1.Threads.length cap18,.slice oa21 p1.Recover.length cap22,.slice oa25 p1.Claims.length cap26].toArray 27 (0,0))] w) ?_ ?_
 refine wb<|th<|rg<|qm o rfl fun a o=>qv o (e_add o rfl rfl) fun a o=>qa o rfl fun a o=>re<|tn<|th<|rg<|qv o (e_fa o fa27_4 rfl) fun a o=>qv o (e_ld o isAgg24 rfl ((St.ld u).cellB t0 rfl)) fun a o=>qv o (e_lenL (α:=api_Thread) (xs:=p1.Recover) o runUnderlying24 rfl) fun a o=>qm o rfl fun a o=>re<|tn<|wb<|lp (α:=Nat×Int×Int) (fun gh a w=>match gh with | (nn6,vD1,vD2)=>(Z7 N (Z4 (Z6 N Z3 p1 p4 nn4) vB4) p1) nn6 vD1 vD2=some r∧Fr 60 [(2,.pointer (some ⟨b29,0,none⟩)),(7,i6 vD1),(40,i6 p4),(41,i6 vB4),(46,.slice oa21 p1.Recover.length cap22),(47,i6 (p1.Recover.length:Int)),(48,i6 vD2)] a∧St w0 Nil [H] [blk b29 (.cells [.slice oa5 p1.Lines.length cap6,.slice oa9 p1.Vols.length cap10,.slice oa13 p1.Locks.length cap14,.slice oa17 p1.Threads.length cap18,.slice oa21 p1.Recover.length cap22,.slice oa25 p1.Claims.length cap26].toArray 27 (0,0))] w) (fun gh=>gh.1) (N,(IntKind.i64.wrap (vB3+1)),0) ⟨hm,o.hs,u⟩ ?_
 rintro ⟨nn6,vD1,vD2⟩ a w ⟨hm,o,u⟩
 obtain _ | nn6:=nn6
 simp [Z7] at hm
 rw [Z7] at hm
 refine th<|rg<|qv o (e_lss o rfl rfl) fun a o=>re<|?_
 rcases bdich (decide (vD2 < (p1.Recover.length:Int))) with hb51 | hb51
 replace hm:=itp_t hm hb51
 refine tn<|th<|ctv o rfl hb51<|wk<|tn<|th<|wb<|th<|?_
 obtain ⟨x52,h53,hm⟩:=bs hm
 obtain ⟨c54,g55,hl56⟩:=SR.get hr24 h53
 obtain ⟨oa57,cap58,oa61,cap62,rfl,hc59,hr60,hc63,hr64⟩:=api_Thread_open g55
 refine rg<|qv o (e_iaI o Tryz.runUnderlying24 Tryz.sizeOf48 rfl rfl h53 (SR.oaI hr24 (by decide) h53)) fun a o=>qv o (e_ldA o isAgg48 sizeOf48 rfl rfl (fun j v hj=>PH.le.cell (Lds.le (St.ld u)) (hl56 j v hj))) fun a o=>ls<|a_alloc (cs:=[strv [],.slice none 0 0,.slice none 0 0,i6 0].toArray) o rfl u zeroValue48 rfl fun b65 w a u o=>ls<|s_blkA o u sizeOf48 rfl rfl rfl rfl (one_cells rfl) .head fun w u=>re<|tn<|?_
 obtain ⟨r66,h67,hm⟩:=bs hm
 refine rg<|qm o rfl fun a o=>qv o (e_fa o fa48_2 rfl) fun a o=>qv o (e_ld o isAgg46 rfl ((St.ld u).cellB t0 rfl)) fun a o=>ls<|cq o call70 (Zh_c _ (hp_le _) hc63 (St.srH u hr64) h67) ⟨rfl,trivial⟩ u fun w a u o=>qv o (e_add o rfl rfl) fun a o=>qa o rfl fun a o=>re<|bn<|tn<|rg<|qv o (e_add o rfl rfl) fun a o=>qm o rfl fun a o=>re<|tn<|?_
 replace u:=u.pk [1] rfl
 exact ⟨(nn6,(IntKind.i64.wrap (vD1+r66)),(IntKind.i64.wrap (vD2+1))),⟨hm,o.hs,u⟩,Nat.lt_succ_self _⟩
 replace hm:=itp_f hm hb51
 refine tn<|th<|cfv o rfl hb51<|we<|tx<|tx<|bx<|bn<|tn<|?_
 exact ⟨vD1,hm,o.hs,u⟩
 rintro a w ⟨vC1,hm,o,u⟩
 unfold Z4 at hm
 refine rg<|qv o (e_add o rfl rfl) fun a o=>qm o rfl fun a o=>re<|tn<|?_
 exact ⟨(nn4,vC1,(IntKind.i64.wrap (vB4+1))),⟨hm,o.hs,u⟩,Nat.lt_succ_self _⟩
 replace hm:=itp_f hm hb50
 refine tn<|th<|cfv o rfl hb50<|we<|tx<|tx<|bx<|tn<|?_
 replace u:=u.pickL .nil
 exact ⟨vB3,hm,o.has ⟨rfl,trivial⟩,u⟩
 rintro a w ⟨vA2,hm,o,u⟩
 unfold Z3 at hm
 refine th<|rg<|qm o rfl fun a o=>qa o rfl fun a o=>re<|tn<|wr<|?_
 obtain rfl:=si hm
 exact r1 o results38 rfl ⟨rfl,u.keep⟩
theorem Z1r_c (hH:H.le w0) (hT:Tab H)  {r:Bool} (hm:Z1r N  = some r):Tot Tryz.prog 42 #[] w0 (fun v w'=>v=.bool r∧Keep Nil w0 w'):=by
 unfold Z1r at hm
 refine fn0 func42 rfl ntmps42 rfl rfl fun a o=>?_
 have u:St w0 Nil [H] [] w0:=start1 hH
 refine th<|rg<|qa o rfl fun a o=>re<|tn<|th<|?_
 obtain ⟨rz1,h2,hm⟩:=bs hm
 refine rg<|ls<|c1 o rfl Tryz.call64 (Z5c_c (St.le u) h2) ⟨rfl,trivial⟩ (fun v w a hR o=>?_)
 obtain ⟨H6,cs7,rfl,g8,hx3,hl4,hk⟩:=hR
 obtain ⟨u,hx3⟩:=And.intro (St.passH u hk hx3 hl4) (St.extc u hx3)
 obtain ⟨oa9,cap10,oa13,cap14,oa17,cap18,oa21,cap22,oa25,cap26,oa29,cap30,rfl,hc11,hr12,hc15,hr16,hc19,hr20,hc23,hr24,hc27,hr28,hc31,hr32⟩:=api_Prog_open g8
 refine qm o rfl fun a o=>?_
 iterate 3 refine qv o (e_ext o rfl rfl) fun a o=>?_
 refine ls<|a_alloc (cs:=[.slice none 0 0,.slice none 0 0,.slice none 0 0,.slice none 0 0,.slice none 0 0,.slice none 0 0].toArray) o rfl u zeroValue27 rfl fun b33 w a u o=>ls<|s_blkA o u sizeOf27 rfl rfl rfl rfl (one_cells rfl) .head fun w u=>?_
 iterate 2 refine qa o rfl fun a o=>?_
 refine re<|tn<|th<|th<|rg<|qv o (e_fa o fa27_3 rfl) fun a o=>qv o (e_ld o isAgg24 rfl ((St.ld u).cellB t0 rfl)) fun a o=>qv o (e_lenL (α:=api_Thread) (xs:=rz1.1.Threads) o runUnderlying24 rfl) fun a o=>qv o (e_neq o rfl rfl) fun a o=>re<|?_
 obtain ⟨_,hb34,hm⟩:=bs hm
 replace hb34:=bnt (sure_some hb34)
 refine tn<|cfv o rfl hb34<|wk<|tn<|th<|?_
 obtain ⟨x35,h36,hm⟩:=bs hm
 obtain ⟨c37,g38,hl39⟩:=SR.get hr24 h36
 obtain ⟨oa40,cap41,oa44,cap45,rfl,hc42,hr43,hc46,hr47⟩:=api_Thread_open g38
 refine rg<|qv o (e_fa o fa27_3 rfl) fun a o=>qv o (e_ld o isAgg24 rfl ((St.ld u).cellB t0 rfl)) fun a o=>qv o (e_iaI o runUnderlying24 sizeOf48 rfl rfl h36 (SR.oaI hr24 (by decide) h36)) fun a o=>qv o (e_fa o fa48_2 rfl) fun a o=>qv o (e_ld o isAgg46 rfl (PH.le.cell (Lds.le (St.ld u)) (hl39 2 _ rfl))) fun a o=>qa o rfl fun a o=>re<|tn<|th<|?_
 obtain ⟨r48,h49,hm⟩:=bs hm
 refine rg<|qm o rfl fun a o=>ls<|c1 o rfl call36 (Z9_c (hp_le _) (Tab.mono (Tab.mono hT hx3.sub) (St.up u)) hc46 (St.srH u hr47) h49) ⟨rfl,rfl,trivial⟩ (fun v w a hR o=>?_)
 obtain ⟨oa50,cap51,vs52,rfl,hv53,hk⟩:=hR
 replace u:=u.fresh hk
 replace hv53:=hv53 H6
 refine qa o rfl fun a o=>re<|tn<|th<|?_
 obtain ⟨r55,h56,hm⟩:=bs hm
 obtain ⟨_,hb57,hm⟩:=bs hm
 replace hb57:=sure_some hb57
 obtain ⟨r58,h59,hm⟩:=bs hm
 obtain ⟨_,hb60,hm⟩:=bs hm
 replace hb60:=sure_some hb60
 obtain ⟨r61,h62,hm⟩:=bs hm
 obtain ⟨_,hb63,hm⟩:=bs hm
 replace hb63:=sure_some hb63
 obtain ⟨r64,h65,hm⟩:=bs hm
 obtain ⟨_,hb66,hm⟩:=bs hm
 replace hb66:=sure_some hb66
 obtain ⟨r67,h68,hm⟩:=bs hm
 obtain ⟨_,hb69,hm⟩:=bs hm
 replace hb69:=sure_some hb69
 obtain ⟨r73,h74,hm⟩:=bs hm
 obtain ⟨_,hb75,hm⟩:=bs hm
 replace hb75:=sure_some hb75
 obtain ⟨r76,h77,hm⟩:=bs hm
 obtain ⟨_,hb78,hm⟩:=bs hm
 replace hb78:=sure_some hb78
 obtain ⟨r79,h80,hm⟩:=bs hm
 obtain ⟨_,hb81,hm⟩:=bs hm
 replace hb81:=sure_some hb81
 obtain ⟨r82,h83,hm⟩:=bs hm
 obtain ⟨_,hb84,hm⟩:=bs hm
 replace hb84:=sure_some hb84
 obtain ⟨r85,h86,hm⟩:=bs hm
 obtain ⟨_,hb87,hm⟩:=bs hm
 replace hb87:=sure_some hb87
 obtain ⟨l88,h89,hm⟩:=bs hm
 obtain ⟨oa90,cap91,e92,e93,hc94,hr95⟩:=SR.sub (sz:=9) hr47 hc46 rfl h89
 obtain ⟨r96,h97,hm⟩:=bs hm
 obtain ⟨_,hb98,hm⟩:=bs hm
 replace hb98:=sure_some hb98
 obtain ⟨l99,h100,hm⟩:=bs hm
 obtain ⟨oa101,cap102,e103,e104,hc105,hr106⟩:=SR.sub (sz:=9) hr47 hc46 rfl h100
 obtain ⟨r107,h108,hm⟩:=bs hm
 obtain ⟨_,hb109,hm⟩:=bs hm
 replace hb109:=sure_some hb109
 obtain ⟨r110,h111,hm⟩:=bs hm
 refine rg<|qm o rfl fun a o=>ls<|cq o call34 (Z8_c (hp_le _) (Tab.mono (Tab.mono hT hx3.sub) (St.up u)) hc46 (St.srH u hr47) h56) ⟨rfl,trivial⟩ u fun w a u o=>qv o (e_eql o rfl rfl) fun a o=>qv o (e_as (e_move o rfl) (congrArg Value.bool hb57)) fun a o=>qg o (e_ldA o isAgg27 sizeOf27 rfl rfl ((St.ld u).cellsB t1)) fun a o=>ls<|gy o rfl rfl<|cq o call38 (Z1_c (hp_le _) (Tab.mono (Tab.mono hT hx3.sub) (St.up u)) (Enc.mono (St.up u) (show Enc.rep (α:=api_Prog) H6 [.slice oa9 rz1.1.Lines.length cap10,.slice oa13 rz1.1.Vols.length cap14,.slice oa17 rz1.1.Locks.length cap18,.slice oa21 rz1.1.Threads.length cap22,.slice oa25 rz1.1.Recover.length cap26,.slice oa29 rz1.1.Claims.length cap30] rz1.1 from ⟨_,_,rfl,⟨_,_,rfl,hc11,hr12⟩,⟨_,_,rfl,⟨_,_,rfl,hc15,hr16⟩,⟨_,_,rfl,⟨_,_,rfl,hc19,hr20⟩,⟨_,_,rfl,⟨_,_,rfl,hc23,hr24⟩,⟨_,_,rfl,⟨_,_,rfl,hc27,hr28⟩,⟨_,_,rfl,hc31,hr32⟩⟩⟩⟩⟩⟩)) h59) ⟨rfl,rfl,trivial⟩ u fun w a u o=>qg o (e_eql o rfl rfl) fun a o=>qv o (e_pickT o rfl rfl) fun a o=>qv o (e_as (e_move o rfl) (congrArg Value.bool hb60)) fun a o=>qg o (e_ldA o isAgg27 sizeOf27 rfl rfl ((St.ld u).cellsB t1)) fun a o=>ls<|gy o rfl rfl<|cq o call38 (Z1_c (hp_le _) (Tab.mono (Tab.mono hT hx3.sub) (St.up u)) (Enc.mono (St.up u) (show Enc.rep (α:=api_Prog) H6 [.slice oa9 rz1.1.Lines.length cap10,.slice oa13 rz1.1.Vols.length cap14,.slice oa17 rz1.1.Locks.length cap18,.slice oa21 rz1.1.Threads.length cap22,.slice oa25 rz1.1.Recover.length cap26,.slice oa29 rz1.1.Claims.length cap30] rz1.1 from ⟨_,_,rfl,⟨_,_,rfl,hc11,hr12⟩,⟨_,_,rfl,⟨_,_,rfl,hc15,hr16⟩,⟨_,_,rfl,⟨_,_,rfl,hc19,hr20⟩,⟨_,_,rfl,⟨_,_,rfl,hc23,hr24⟩,⟨_,_,rfl,⟨_,_,rfl,hc27,hr28⟩,⟨_,_,rfl,hc31,hr32⟩⟩⟩⟩⟩⟩)) h62) ⟨rfl,rfl,trivial⟩ u fun w a u o=>qg o (e_eql o rfl rfl) fun a o=>qv o (e_pickT o rfl rfl) fun a o=>qv o (e_as (e_move o rfl) (congrArg Value.bool hb63)) fun a o=>qg o (e_ldA o isAgg27 sizeOf27 rfl rfl ((St.ld u).cellsB t1)) fun a o=>ls<|gy o rfl rfl<|cq o call38 (Z1_c (hp_le _) (Tab.mono (Tab.mono hT hx3.sub) (St.up u)) (Enc.mono (St.up u) (show Enc.rep (α:=api_Prog) H6 [.slice oa9 rz1.1.Lines.length cap10,.slice oa13 rz1.1.Vols.length cap14,.slice oa17 rz1.1.Locks.length cap18,.slice oa21 rz1.1.Threads.length cap22,.slice oa25 rz1.1.Recover.length cap26,.slice oa29 rz1.1.Claims.length cap30] rz1.1 from ⟨_,_,rfl,⟨_,_,rfl,hc11,hr12⟩,⟨_,_,rfl,⟨_,_,rfl,hc15,hr16⟩,⟨_,_,rfl,⟨_,_,rfl,hc19,hr20⟩,⟨_,_,rfl,⟨_,_,rfl,hc23,hr24⟩,⟨_,_,rfl,⟨_,_,rfl,hc27,hr28⟩,⟨_,_,rfl,hc31,hr32⟩⟩⟩⟩⟩⟩)) h65) ⟨rfl,rfl,trivial⟩ u fun w a u o=>qg o (e_eql o rfl rfl) fun a o=>qv o (e_pickT o rfl rfl) fun a o=>qv o (e_as (e_move o rfl) (congrArg Value.bool hb66)) fun a o=>qg o (e_bldK [] [.slice none 0 0,.slice none 0 0,.slice none 0 0,.slice none 0 0,.slice none 0 0,.slice none 0 0] o trivial (fun w=>by kernel_rfl)) fun a o=>ls<|gy o rfl rfl<|cq o call38 (Z1_c (hp_le _) (Tab.mono (Tab.mono hT hx3.sub) (St.up u)) (Enc.mono (St.up u) (show Enc.rep (α:=api_Prog) H6 [.slice none 0 0,.slice none 0 0,.slice none 0 0,.slice none 0 0,.slice none 0 0,.slice none 0 0] (api_Prog.mk [] [] [] [] [] []) from ⟨_,_,rfl,⟨none,0,rfl,Nat.le_refl _,SR.nil _ _⟩,⟨_,_,rfl,⟨none,0,rfl,Nat.le_refl _,SR.nil _ _⟩,⟨_,_,rfl,⟨none,0,rfl,Nat.le_refl _,SR.nil _ _⟩,⟨_,_,rfl,⟨none,0,rfl,Nat.le_refl _,SR.nil _ _⟩,⟨_,_,rfl,⟨none,0,rfl,Nat.le_refl _,SR.nil _ _⟩,⟨none,0,rfl,Nat.le_refl _,SR.nil _ _⟩⟩⟩⟩⟩⟩)) h68) ⟨rfl,rfl,trivial⟩ u fun w a u o=>qg o (e_eql o rfl rfl) fun a o=>qv o (e_pickT o rfl rfl) fun a o=>qv o (e_as (e_move o rfl) (congrArg Value.bool hb69)) fun a o=>qg o (e_move o rfl) fun a o=>ls<|gy o rfl rfl<|a_bsl (e:=3) (sz:=1) [i6 3,i6 3,i6 3,i6 8,i6 5] o rfl u rfl rfl rfl (fun w=>by kernel_rfl) fun b71 w a u o=>?_
 have hv70:Rows (α:=Int) H6 [i6 3,i6 3,i6 3,i6 8,i6 5] ([3,3,3,8,5]:List Int):=(.cons (c:=[i6 3]) rfl (.cons (c:=[i6 3]) rfl (.cons (c:=[i6 3]) rfl (.cons (c:=[i6 8]) rfl (.cons (c:=[i6 5]) rfl .nil)))))
 refine ls<|gy o rfl rfl<|cq o call29 (Z6p_c (hp_le _) (St.capO u t1) (St.srO u t1 hv53) (St.capO u t0) (St.srO u t0 hv70) h74) ⟨rfl,rfl,trivial⟩ u fun w a u o=>qv o (e_pickT o rfl rfl) fun a o=>qv o (e_as (e_move o rfl) (congrArg Value.bool hb75)) fun a o=>ls<|gy o rfl rfl<|cq o call40 (Z0_c (hp_le _) h77) ⟨rfl,trivial⟩ u fun w a u o=>qg o (e_eql o rfl rfl) fun a o=>qv o (e_pickT o rfl rfl) fun a o=>qv o (e_as (e_move o rfl) (congrArg Value.bool hb78)) fun a o=>ls<|gy o rfl rfl<|cq o call40 (Z0_c (hp_le _) h80) ⟨rfl,trivial⟩ u fun w a u o=>qg o (e_eql o rfl rfl) fun a o=>qv o (e_pickT o rfl rfl) fun a o=>qv o (e_as (e_move o rfl) (congrArg Value.bool hb81)) fun a o=>ls<|gy o rfl rfl<|cq o call40 (Z0_c (hp_le _) h83) ⟨rfl,trivial⟩ u fun w a u o=>qg o (e_eql o rfl rfl) fun a o=>qv o (e_pickT o rfl rfl) fun a o=>qv o (e_as (e_move o rfl) (congrArg Value.bool hb84)) fun a o=>ls<|gy o rfl rfl<|cq o call40 (Z0_c (hp_le _) h86) ⟨rfl,trivial⟩ u fun w a u o=>qg o (e_eql o rfl rfl) fun a o=>qv o (e_pickT o rfl rfl) fun a o=>qv o (e_as (e_move o rfl) (congrArg Value.bool hb87)) fun a o=>qg o (e_move o rfl) fun a o=>qg o (e_subL (xs:=x35.Body) (vl:=1) (vh:=2) o runUnderlying46 sizeOf51 rfl hc46 rfl rfl h89 e92 e93) fun a o=>ls<|gy o rfl rfl<|cq o call34 (Z8_c (hp_le _) (Tab.mono (Tab.mono hT hx3.sub) (St.up u)) hc94 (St.srH u hr95) h97) ⟨rfl,trivial⟩ u fun w a u o=>qg o (e_eql o rfl rfl) fun a o=>qv o (e_pickT o rfl rfl) fun a o=>qv o (e_as (e_move o rfl) (congrArg Value.bool hb98)) fun a o=>qg o (e_move o rfl) fun a o=>qg o (e_subL (xs:=x35.Body) (vl:=2) (vh:=3) o runUnderlying46 sizeOf51 rfl hc46 rfl rfl h100 e103 e104) fun a o=>ls<|gy o rfl rfl<|cq o call34 (Z8_c (hp_le _) (Tab.mono (Tab.mono hT hx3.sub) (St.up u)) hc105 (St.srH u hr106) h108) ⟨rfl,trivial⟩ u fun w a u o=>qg o (e_eql o rfl rfl) fun a o=>qv o (e_pickT o rfl rfl) fun a o=>qv o (e_as (e_move o rfl) (congrArg Value.bool hb109)) fun a o=>?_
 refine qg o (e_move o rfl) fun a o=>ls<|gy o rfl rfl<|c1 o rfl call36 (Z9_c (hp_le _) (Tab.mono (Tab.mono hT hx3.sub) (St.up u)) hc46 (St.srH u hr47) h111) ⟨rfl,rfl,trivial⟩ (fun v w a hR o=>?_)
 obtain ⟨oa112,cap113,vs114,rfl,hv115,hk⟩:=hR
 replace u:=u.fresh hk
 replace hv115:=hv115 H6
 refine qg o (e_lenL (α:=Int) (xs:=r110) o runUnderlying42 rfl) fun a o=>qg o (e_eql o rfl rfl) fun a o=>qv o (e_pickT o rfl rfl) fun a o=>qa o rfl fun a o=>re<|tn<|wr<|?_
 obtain rfl:=si hm
 exact r1 o results42 rfl ⟨rfl,u.keep⟩
set_option maxHeartbeats 4000000 in
theorem Z1n_c (hH:H.le w0) (hT:Tab H) {cs2:List Value} {p1:api_Prog} (g3:Enc.rep H cs2 p1) {p4:Int} {r:Bool} (hm:Z1n N p1 p4=some r):Tot Tryz.prog 12 #[.agg cs2.toArray,i6 p4] w0 (fun v w'=>v=.bool r∧Keep Nil w0 w'):=by
 unfold Z1n at hm
 refine fn0 func12 rfl ntmps12 rfl rfl fun a o=>?_
 have u:St w0 Nil [H] [] w0:=start1 hH
 obtain ⟨oa5,cap6,oa9,cap10,oa13,cap14,oa17,cap18,oa21,cap22,oa25,cap26,rfl,hc7,hr8,hc11,hr12,hc15,hr16,hc19,hr20,hc23,hr24,hc27,hr28⟩:=api_Prog_open g3
 refine th<|rg<|ls<|a_box (cs:=[.slice oa5 p1.Lines.length cap6,.slice oa9 p1.Vols.length cap10,.slice oa13 p1.Locks.length cap14,.slice oa17 p1.Threads.length cap18,.slice oa21 p1.Recover.length cap22,.slice oa25 p1.Claims.length cap26].toArray) o rfl u rfl rfl fun b29 w a u o=>qa o rfl fun a o=>re<|tn<|th<|?_
 obtain ⟨r30,h31,hm⟩:=bs hm
 refine rg<|qv o (e_ldA o Tryz.isAgg27 Tryz.sizeOf27 rfl rfl ((St.ld u).cellsB t0)) fun a o=>ls<|c1 o rfl call15 (Z17_c (St.le u) (show Enc.rep (α:=api_Prog) H [.slice oa5 p1.Lines.length cap6,.slice oa9 p1.Vols.length cap10,.slice oa13 p1.Locks.length cap14,.slice oa17 p1.Threads.length cap18,.slice oa21 p1.Recover.length cap22,.slice oa25 p1.Claims.length cap26] p1 from ⟨_,_,rfl,⟨_,_,rfl,hc7,hr8⟩,⟨_,_,rfl,⟨_,_,rfl,hc11,hr12⟩,⟨_,_,rfl,⟨_,_,rfl,hc15,hr16⟩,⟨_,_,rfl,⟨_,_,rfl,hc19,hr20⟩,⟨_,_,rfl,⟨_,_,rfl,hc23,hr24⟩,⟨_,_,rfl,hc27,hr28⟩⟩⟩⟩⟩⟩) h31) ⟨rfl,trivial⟩ (fun v w a hR o=>?_)
 obtain ⟨H35,cs36,rfl,g37,hx32,hl33,hk⟩:=hR
 obtain ⟨u,hx32⟩:=And.intro (St.passH u hk hx32 hl33) (St.extc u hx32)
 obtain ⟨oa38,cap39,oa42,cap43,oa46,cap47,oa50,cap51,oa54,cap55,oa58,cap59,rfl,hc40,hr41,hc44,hr45,hc48,hr49,hc52,hr53,hc56,hr57,hc60,hr61⟩:=api_Prog_open g37
 refine ls<|s_blkA o u sizeOf27 rfl rfl rfl rfl (one_cells rfl) .head fun w u=>re<|tn<|th<|rg<|qm o rfl fun a o=>qv o (e_band o rfl rfl) fun a o=>qa o rfl fun a o=>re<|tn<|th<|?_
 obtain ⟨r62,h63,hm⟩:=bs hm
 obtain ⟨r64,h65,hm⟩:=bs hm
 refine rdS 9 u wide fun w u=>dq 0 (St.ld u) o rfl (fun w hl=>e_ldA o isAgg27 sizeOf27 rfl rfl (hl.cellsB t0)) fun a o=>dr 1 u o rfl (e_move o rfl) fun a o=>dq 3 (St.ld u) o rfl (fun w hl=>e_ldA o isAgg27 sizeOf27 rfl rfl (hl.cellsB t0)) fun a o=>dr 4 u o rfl (e_move o rfl) fun a o=>dr 5 u o rfl (e_add o rfl rfl) fun a o=>da1 (i:=2) (by kernel_rfl) ?_
 refine di (i:=2) rfl<|cq o call38 (Z1_c (hp_le _) (Tab.mono (Tab.mono hT hx32.sub) (St.up u)) (Enc.mono (St.up u) (show Enc.rep (α:=api_Prog) H35 [.slice oa38 r30.Lines.length cap39,.slice oa42 r30.Vols.length cap43,.slice oa46 r30.Locks.length cap47,.slice oa50 r30.Threads.length cap51,.slice oa54 r30.Recover.length cap55,.slice oa58 r30.Claims.length cap59] r30 from ⟨_,_,rfl,⟨_,_,rfl,hc40,hr41⟩,⟨_,_,rfl,⟨_,_,rfl,hc44,hr45⟩,⟨_,_,rfl,⟨_,_,rfl,hc48,hr49⟩,⟨_,_,rfl,⟨_,_,rfl,hc52,hr53⟩,⟨_,_,rfl,⟨_,_,rfl,hc56,hr57⟩,⟨_,_,rfl,hc60,hr61⟩⟩⟩⟩⟩⟩)) h63) ⟨rfl,rfl,trivial⟩ u fun w a u o=>⟨fun _=>(St.ld u),?_⟩
 refine da1 (i:=6) (by kernel_rfl) ?_
 refine di (i:=6) rfl<|cq o call38 (Z1_c (hp_le _) (Tab.mono (Tab.mono hT hx32.sub) (St.up u)) (Enc.mono (St.up u) (show Enc.rep (α:=api_Prog) H35 [.slice oa38 r30.Lines.length cap39,.slice oa42 r30.Vols.length cap43,.slice oa46 r30.Locks.length cap47,.slice oa50 r30.Threads.length cap51,.slice oa54 r30.Recover.length cap55,.slice oa58 r30.Claims.length cap59] r30 from ⟨_,_,rfl,⟨_,_,rfl,hc40,hr41⟩,⟨_,_,rfl,⟨_,_,rfl,hc44,hr45⟩,⟨_,_,rfl,⟨_,_,rfl,hc48,hr49⟩,⟨_,_,rfl,⟨_,_,rfl,hc52,hr53⟩,⟨_,_,rfl,⟨_,_,rfl,hc56,hr57⟩,⟨_,_,rfl,hc60,hr61⟩⟩⟩⟩⟩⟩)) h65) ⟨rfl,rfl,trivial⟩ u fun w a u o=>⟨fun _=>(St.ld u),?_⟩
 refine dr 7 u o rfl (e_asg o rfl) fun a o=>dr 8 u o rfl (e_asg o rfl) fun a o=>de (by kernel_rfl)<|tn<|th<|th<|rg<|qm o rfl fun a o=>qv o (e_lss o rfl rfl) fun a o=>re<|?_
 rcases bdich (decide (r62 < 0)) with hb66 | hb66
 replace hm:=itp_t hm hb66
 refine tn<|ctv o rfl hb66<|th<|?_
 rcases bdich (decide (r64 < 0)) with hb67 | hb67
 replace hm:=itp_t hm hb67
 obtain ⟨r68,h69,hm⟩:=bs hm
 refine rg<|qm o rfl fun a o=>qv o (e_lss o rfl rfl) fun a o=>qv o (e_as (e_move o rfl) (congrArg Value.bool hb67)) fun a o=>ls<|gy o rfl rfl<|c1 o rfl call42 (Z1r_c (hp_le _) (Tab.mono (Tab.mono hT hx32.sub) (St.up u)) h69) trivial (fun v w a hR o=>?_)
 obtain ⟨rfl,hk⟩:=hR
 replace u:=u.pass hk
 refine qv o (e_pickT o rfl rfl) fun a o=>qa o rfl fun a o=>re<|tn<|wr<|tr<|?_
 obtain rfl:=si hm
 exact r1 o results12 rfl ⟨rfl,u.keep⟩
 replace hm:=itp_f hm hb67
 refine rg<|qm o rfl fun a o=>qv o (e_lss o rfl rfl) fun a o=>qv o (e_as (e_move o rfl) (congrArg Value.bool hb67)) fun a o=>qn o fun a o=>qv o (e_pickF o rfl rfl) fun a o=>qa o rfl fun a o=>re<|tn<|wr<|tr<|?_
 obtain rfl:=si hm
 exact r1 o results12 rfl ⟨rfl,u.keep⟩
 replace hm:=itp_f hm hb66
 refine tn<|cfv o rfl hb66<|wk<|tn<|th<|rg<|qa o rfl fun a o=>qa o rfl fun a o=>re<|tn<|th<|th<|rg<|qv o (e_fa o fa27_4 rfl) fun a o=>qv o (e_ld o isAgg24 rfl ((St.ld u).cellB t0 rfl)) fun a o=>qv o (e_lenL (α:=api_Thread) (xs:=r30.Recover) o runUnderlying24 rfl) fun a o=>qv o (e_gtr o rfl rfl) fun a o=>re<|tn<|midK (fun a w=>∃ (vA1:Int),(Z1o N r30 r62 r64) vA1=some r∧Fr 70 [(2,.pointer (some ⟨b29,0,none⟩)),(6,i6 r62),(7,i6 r64),(8,i6 vA1),(9,i6 1)] a∧St w0 Nil [H35] [blk b29 (.cells [.slice oa38 r30.Lines.length cap39,.slice oa42 r30.Vols.length cap43,.slice oa46 r30.Locks.length cap47,.slice oa50 r30.Threads.length cap51,.slice oa54 r30.Recover.length cap55,.slice oa58 r30.Claims.length cap59].toArray 27 (0,0))] w) ?_ ?_
 rcases bdich (decide (0 < (r30.Recover.length:Int))) with hb70 | hb70
 replace hm:=itp_t hm hb70
 refine ctv o rfl hb70<|?_
 obtain ⟨x71,h72,hm⟩:=bs hm
 obtain ⟨c73,g74,hl75⟩:=SR.get hr57 h72
 obtain ⟨oa76,cap77,oa80,cap81,rfl,hc78,hr79,hc82,hr83⟩:=api_Thread_open g74
 obtain ⟨r84,h85,hm⟩:=bs hm
 refine rg<|qv o (e_fa o fa27_4 rfl) fun a o=>qv o (e_ld o isAgg24 rfl ((St.ld u).cellB t0 rfl)) fun a o=>qv o (e_iaI o runUnderlying24 sizeOf48 rfl rfl h72 (SR.oaI hr57 (by decide) h72)) fun a o=>qv o (e_fa o fa48_2 rfl) fun a o=>qv o (e_ld o isAgg46 rfl (PH.le.cell (Lds.le (St.ld u)) (hl75 2 _ rfl))) fun a o=>ls<|cq o call34 (Z8_c (hp_le _) (Tab.mono (Tab.mono hT hx32.sub) (St.up u)) hc82 (St.srH u hr83) h85) ⟨rfl,trivial⟩ u fun w a u o=>qa o rfl fun a o=>re<|tn<|?_
 exact ⟨r84,hm,o.hs,u⟩
 replace hm:=itp_f hm hb70
 refine cfv o rfl hb70<|wk<|tn<|?_
 exact ⟨0,hm,o.hs,u⟩
 rintro a w ⟨vA1,hm,o,u⟩
 unfold Z1o at hm
 refine th<|th<|rg<|qa o rfl fun a o=>re<|tn<|midK (fun a w=>∃ (vA2:Int),(Z1p N r30 r62 r64 vA1) vA2=some r∧Fr 70 [(2,.pointer (some ⟨b29,0,none⟩)),(6,i6 r62),(7,i6 r64),(8,i6 vA1),(9,i6 vA2)] a∧St w0 Nil [H35] [blk b29 (.cells [.slice oa38 r30.Lines.length cap39,.slice oa42 r30.Vols.length cap43,.slice oa46 r30.Locks.length cap47,.slice oa50 r30.Threads.length cap51,.slice oa54 r30.Recover.length cap55,.slice oa58 r30.Claims.length cap59].toArray 27 (0,0))] w) ?_ ?_
 refine wb<|lp (α:=Nat×Int×Int) (fun gh a w=>match gh with | (nn3,vB1,vB2)=>(Z1q N (Z1p N r30 r62 r64 vA1) r30) nn3 vB1 vB2=some r∧Fr 70 [(2,.pointer (some ⟨b29,0,none⟩)),(6,i6 r62),(7,i6 r64),(8,i6 vA1),(9,i6 vB1),(10,i6 vB2)] a∧St w0 Nil [H35] [blk b29 (.cells [.slice oa38 r30.Lines.length cap39,.slice oa42 r30.Vols.length cap43,.slice oa46 r30.Locks.length cap47,.slice oa50 r30.Threads.length cap51,.slice oa54 r30.Recover.length cap55,.slice oa58 r30.Claims.length cap59].toArray 27 (0,0))] w) (fun gh=>gh.1) (N,1,0) ⟨hm,o.hs,u⟩ ?_
 rintro ⟨nn3,vB1,vB2⟩ a w ⟨hm,o,u⟩
 obtain _ | nn3:=nn3
 simp [Z1q] at hm
 rw [Z1q] at hm
 refine th<|th<|rg<|qm o rfl fun a o=>qv o (e_fa o fa27_3 rfl) fun a o=>qv o (e_ld o isAgg24 rfl ((St.ld u).cellB t0 rfl)) fun a o=>qv o (e_lenL (α:=api_Thread) (xs:=r30.Threads) o runUnderlying24 rfl) fun a o=>qv o (e_lss o rfl rfl) fun a o=>re<|?_
 rcases bdich (decide (vB2 < (r30.Threads.length:Int))) with hb86 | hb86
 replace hm:=itp_t hm hb86
 refine tn<|ctv o rfl hb86<|wk<|tn<|th<|wb<|?_
 obtain ⟨x87,h88,hm⟩:=bs hm
 obtain ⟨c89,g90,hl91⟩:=SR.get hr53 h88
 obtain ⟨oa92,cap93,oa96,cap97,rfl,hc94,hr95,hc98,hr99⟩:=api_Thread_open g90
 obtain ⟨r100,h101,hm⟩:=bs hm
 refine rg<|qm o rfl fun a o=>qv o (e_fa o fa27_3 rfl) fun a o=>qv o (e_ld o isAgg24 rfl ((St.ld u).cellB t0 rfl)) fun a o=>qm o rfl fun a o=>qv o (e_iaI o runUnderlying24 sizeOf48 rfl rfl h88 (SR.oaI hr53 (by decide) h88)) fun a o=>qv o (e_fa o fa48_2 rfl) fun a o=>qv o (e_ld o isAgg46 rfl (PH.le.cell (Lds.le (St.ld u)) (hl91 2 _ rfl))) fun a o=>ls<|cq o call34 (Z8_c (hp_le _) (Tab.mono (Tab.mono hT hx32.sub) (St.up u)) hc98 (St.srH u hr99) h101) ⟨rfl,trivial⟩ u fun w a u o=>qv o (e_add o rfl rfl) fun a o=>qa o rfl fun a o=>re<|bn<|tn<|rg<|qm o rfl fun a o=>qv o (e_add o rfl rfl) fun a o=>qa o rfl fun a o=>re<|tn<|?_
 exact ⟨(nn3,(IntKind.i64.wrap (vB1+r100)),(IntKind.i64.wrap (vB2+1))),⟨hm,o.hs,u⟩,Nat.lt_succ_self _⟩
 replace hm:=itp_f hm hb86
 refine tn<|cfv o rfl hb86<|we<|tx<|tx<|bx<|tn<|?_
 exact ⟨vB1,hm,o.hs,u⟩
 rintro a w ⟨vA2,hm,o,u⟩
 unfold Z1p at hm
 refine th<|?_
 rcases bdich (decide (r64=(IntKind.i64.wrap ((IntKind.i64.wrap (r62+vA1))+1)))) with hb102 | hb102
 replace hm:=itp_t hm hb102
 obtain ⟨r103,h104,hm⟩:=bs hm
 rcases bdich (decide (r103=vA2)) with hb105 | hb105
 replace hm:=itp_t hm hb105
 obtain ⟨r106,h107,hm⟩:=bs hm
 refine rg<|qm o rfl fun a o=>?_
 iterate 2 refine qm o rfl fun a o=>?_
 iterate 2 refine qv o (e_add o rfl rfl) fun a o=>?_
 refine qv o (e_eql o rfl rfl) fun a o=>qv o (e_as (e_move o rfl) (congrArg Value.bool hb102)) fun a o=>qg o (e_ldA o isAgg27 sizeOf27 rfl rfl ((St.ld u).cellsB t0)) fun a o=>ls<|gy o rfl rfl<|cq o call38 (Z1_c (hp_le _) (Tab.mono (Tab.mono hT hx32.sub) (St.up u)) (Enc.mono (St.up u) (show Enc.rep (α:=api_Prog) H35 [.slice oa38 r30.Lines.length cap39,.slice oa42 r30.Vols.length cap43,.slice oa46 r30.Locks.length cap47,.slice oa50 r30.Threads.length cap51,.slice oa54 r30.Recover.length cap55,.slice oa58 r30.Claims.length cap59] r30 from ⟨_,_,rfl,⟨_,_,rfl,hc40,hr41⟩,⟨_,_,rfl,⟨_,_,rfl,hc44,hr45⟩,⟨_,_,rfl,⟨_,_,rfl,hc48,hr49⟩,⟨_,_,rfl,⟨_,_,rfl,hc52,hr53⟩,⟨_,_,rfl,⟨_,_,rfl,hc56,hr57⟩,⟨_,_,rfl,hc60,hr61⟩⟩⟩⟩⟩⟩)) h104) ⟨rfl,rfl,trivial⟩ u fun w a u o=>qg o (e_move o rfl) fun a o=>qg o (e_eql o rfl rfl) fun a o=>qv o (e_pickT o rfl rfl) fun a o=>qv o (e_as (e_move o rfl) (congrArg Value.bool hb105)) fun a o=>ls<|gy o rfl rfl<|c1 o rfl call42 (Z1r_c (hp_le _) (Tab.mono (Tab.mono hT hx32.sub) (St.up u)) h107) trivial (fun v w a hR o=>?_)
 obtain ⟨rfl,hk⟩:=hR
 replace u:=u.pass hk
 refine qv o (e_pickT o rfl rfl) fun a o=>qa o rfl fun a o=>re<|tn<|wr<|?_
 obtain rfl:=si hm
 exact r1 o results12 rfl ⟨rfl,u.keep⟩
 replace hm:=itp_f hm hb105
 refine rg<|qm o rfl fun a o=>?_
 iterate 2 refine qm o rfl fun a o=>?_
 iterate 2 refine qv o (e_add o rfl rfl) fun a o=>?_
 refine qv o (e_eql o rfl rfl) fun a o=>qv o (e_as (e_move o rfl) (congrArg Value.bool hb102)) fun a o=>qg o (e_ldA o isAgg27 sizeOf27 rfl rfl ((St.ld u).cellsB t0)) fun a o=>ls<|gy o rfl rfl<|cq o call38 (Z1_c (hp_le _) (Tab.mono (Tab.mono hT hx32.sub) (St.up u)) (Enc.mono (St.up u) (show Enc.rep (α:=api_Prog) H35 [.slice oa38 r30.Lines.length cap39,.slice oa42 r30.Vols.length cap43,.slice oa46 r30.Locks.length cap47,.slice oa50 r30.Threads.length cap51,.slice oa54 r30.Recover.length cap55,.slice oa58 r30.Claims.length cap59] r30 from ⟨_,_,rfl,⟨_,_,rfl,hc40,hr41⟩,⟨_,_,rfl,⟨_,_,rfl,hc44,hr45⟩,⟨_,_,rfl,⟨_,_,rfl,hc48,hr49⟩,⟨_,_,rfl,⟨_,_,rfl,hc52,hr53⟩,⟨_,_,rfl,⟨_,_,rfl,hc56,hr57⟩,⟨_,_,rfl,hc60,hr61⟩⟩⟩⟩⟩⟩)) h104) ⟨rfl,rfl,trivial⟩ u fun w a u o=>qg o (e_move o rfl) fun a o=>qg o (e_eql o rfl rfl) fun a o=>qv o (e_pickT o rfl rfl) fun a o=>qv o (e_as (e_move o rfl) (congrArg Value.bool hb105)) fun a o=>qn o fun a o=>qv o (e_pickF o rfl rfl) fun a o=>qa o rfl fun a o=>re<|tn<|wr<|?_
 obtain rfl:=si hm
 exact r1 o results12 rfl ⟨rfl,u.keep⟩
 replace hm:=itp_f hm hb102
 refine rg<|qm o rfl fun a o=>?_
 iterate 2 refine qm o rfl fun a o=>?_
 iterate 2 refine qv o (e_add o rfl rfl) fun a o=>?_
 refine qv o (e_eql o rfl rfl) fun a o=>qv o (e_as (e_move o rfl) (congrArg Value.bool hb102)) fun a o=>?_
 iterate 4 refine qn o fun a o=>?_
 refine qv o (e_pickF o rfl rfl) fun a o=>qm o rfl fun a o=>qn o fun a o=>qv o (e_pickF o rfl rfl) fun a o=>qa o rfl fun a o=>re<|tn<|wr<|?_
 obtain rfl:=si hm
 exact r1 o results12 rfl ⟨rfl,u.keep⟩
end Go.LM.LB
