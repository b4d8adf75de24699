/- Walks, lifted by program. No condition beyond the theorems' own premises. -/
import Derived.Test.YtgdkaddhhpgeiaaGreatDoorLBQ1
namespace Go.LM.LB
open Go Go.LL Go.MD Go.LM Go.Proofs Go.MD.LB Go.Proofs.Tryz
set_option maxRecDepth 100000
variable {N:Nat} {w0:World} {H:PH}
theorem Z7m_c (hH:H.le w0) (hT:Tab H) {oa2:Option Addr} {cap3:Nat} {p1:(List api_Cell)} (hc4:p1.length≤cap3) (hr5:SR H oa2 p1) {p6:Int} {r:Bool} (hm:Z7m N p1 p6=some r):Tot Tryz.prog 80 #[.slice oa2 p1.length cap3,i6 p6] w0 (fun v w'=>v=.bool r∧Keep Nil w0 w'):=by
 unfold Z7m at hm
 refine fn0 func80 rfl ntmps80 rfl rfl fun a o=>?_
 have u:St w0 Nil [H] [] w0:=start1 hH
 refine th<|rg<|ls<|a_box (cs:=[i6 p6].toArray) o rfl u rfl rfl fun b7 w a u o=>qa o rfl fun a o=>re<|tn<|th<|?_
 obtain ⟨rz8,h9,hm⟩:=bs hm
 refine rg<|qm o rfl fun a o=>qv o (e_mkf (vs:=[.pointer (some ⟨b7,0,none⟩)]) o ⟨rfl,trivial⟩) fun a o=>ls<|cq o call115 (Z8b_c (hp_le _) (Tab.mono hT (St.up u)) hc4 (St.srH u hr5) (St.blkO u t0) h9) ⟨rfl,rfl,trivial⟩ u fun w a u o=>qv o (e_not o rfl) fun a o=>qa o rfl fun a o=>re<|tn<|wr<|?_
 obtain rfl:=si hm
 exact r1 o results80 rfl ⟨rfl,u.keep⟩
theorem Z7h_c (hH:H.le w0) (hT:Tab H) {oa2:Option Addr} {cap3:Nat} {p1:(List api_Cell)} (hc4:p1.length≤cap3) (hr5:SR H oa2 p1) {r:Bool} (hm:Z7h N p1=some r):Tot Tryz.prog 79 #[.slice oa2 p1.length cap3] w0 (fun v w'=>v=.bool r∧Keep Nil w0 w'):=by
 unfold Z7h at hm
 refine fn0 func79 rfl ntmps79 rfl rfl fun a o=>?_
 have u:St w0 Nil [H] [] w0:=start1 hH
 refine th<|rg<|qa o rfl fun a o=>re<|tn<|th<|?_
 rcases bdich (decide ((p1.length:Int)=0)) with hb6 | hb6
 replace hm:=itp_t hm hb6
 refine rg<|qm o rfl fun a o=>qv o (e_lenL (α:=api_Cell) (xs:=p1) o runUnderlying23 rfl) fun a o=>qv o (e_eql o rfl rfl) fun a o=>qv o (e_as (e_move o rfl) (congrArg Value.bool hb6)) fun a o=>?_
 iterate 3 refine qn o fun a o=>?_
 refine qv o (e_pickT o rfl rfl) fun a o=>qa o rfl fun a o=>re<|tn<|wr<|?_
 obtain rfl:=si hm
 exact r1 o results79 rfl ⟨rfl,u.keep⟩
 replace hm:=itp_f hm hb6
 obtain ⟨rz7,h8,hm⟩:=bs hm
 refine rg<|qm o rfl fun a o=>qv o (e_lenL (α:=api_Cell) (xs:=p1) o runUnderlying23 rfl) fun a o=>qv o (e_eql o rfl rfl) fun a o=>qv o (e_as (e_move o rfl) (congrArg Value.bool hb6)) fun a o=>qg o (e_move o rfl) fun a o=>ls<|gy o rfl rfl<|cq o call80 (Z7m_c (hp_le _) (Tab.mono hT (St.up u)) hc4 (St.srH u hr5) h8) ⟨rfl,rfl,trivial⟩ u fun w a u o=>qg o (e_not o rfl) fun a o=>qv o (e_pickF o rfl rfl) fun a o=>qa o rfl fun a o=>re<|tn<|wr<|?_
 obtain rfl:=si hm
 exact r1 o results79 rfl ⟨rfl,u.keep⟩
theorem Z8k_c (hH:H.le w0) (hT:Tab H) {oa2:Option Addr} {cap3:Nat} {p1:(List (List api_Cell))} (_:p1.length≤cap3) (hr5:SR H oa2 p1) {r:Int} (hm:Z8k N p1=some r):Tot Tryz.prog 129 #[.slice oa2 p1.length cap3,.func (.func 79) #[] #[]] w0 (fun v w'=>v=i6 r∧Keep Nil w0 w'):=by
 unfold Z8k at hm
 refine fn0 func129 rfl ntmps129 rfl rfl fun a o=>?_
 have u:St w0 Nil [H] [] w0:=start1 hH
 refine th<|rg<|qa o rfl fun a o=>re<|tn<|th<|th<|rg<|qm o rfl fun a o=>qv o (e_lenL (α:=(List api_Cell)) (xs:=p1) o runUnderlying22 rfl) fun a o=>qm o rfl fun a o=>re<|tn<|midK (fun a w=>Z8l=some r∧Fr 19 [] a∧St w0 Nil [H] [] w) ?_ ?_
 refine wb<|lp (α:=Nat×Int) (fun gh a w=>match gh with | (nn2,vB1)=>(Z8m N Z8l p1) nn2 vB1=some r∧Fr 19 [(0,.slice oa2 p1.length cap3),(1,.func (.func 79) #[] #[]),(7,i6 (p1.length:Int)),(8,i6 vB1)] a∧St w0 Nil [H] [] w) (fun gh=>gh.1) (N,0) ⟨hm,o.hs,u⟩ ?_
 rintro ⟨nn2,vB1⟩ a w ⟨hm,o,u⟩
 obtain _ | nn2:=nn2
 simp [Z8m] at hm
 rw [Z8m] at hm
 refine th<|rg<|qv o (e_lss o rfl rfl) fun a o=>re<|?_
 rcases bdich (decide (vB1 < (p1.length:Int))) with hb6 | hb6
 replace hm:=itp_t hm hb6
 refine tn<|th<|ctv o rfl hb6<|wk<|tn<|th<|wb<|th<|rg<|qm o rfl fun a o=>qa o rfl fun a o=>re<|tn<|th<|?_
 obtain ⟨xz7,h8,hm⟩:=bs hm
 obtain ⟨cz9,g10,hl11⟩:=SR.get hr5 h8
 obtain ⟨oa12,cap13,rfl,hc14,hr15⟩:=g10
 obtain ⟨r16,h17,hm⟩:=bs hm
 refine rg<|qm o rfl fun a o=>?_
 iterate 2 refine qm o rfl fun a o=>?_
 refine qv o (e_iaI o runUnderlying22 sizeOf23 rfl rfl h8 (SR.oaI hr5 (by decide) h8)) fun a o=>qv o (e_ld o isAgg23 rfl (PH.le.cell (Lds.le (St.ld u)) (hl11 0 _ rfl))) fun a o=>ls<|k1 (vs:=[.slice oa12 xz7.length cap13]) (caps:=[]) o rfl rfl call79 (Z7h_c (hp_le _) (Tab.mono hT (St.up u)) hc14 (St.srH u hr15) h17) ⟨rfl,trivial⟩ rfl (fun v w a hR o=>?_)
 obtain ⟨rfl,hk⟩:=hR
 replace u:=u.pass hk
 refine re<|?_
 rcases bdich r16 with hb18 | hb18
 replace hm:=ite_t hm hb18
 refine tn<|ctv o rfl hb18<|th<|rg<|qm o rfl fun a o=>qa o rfl fun a o=>re<|tn<|wr<|br<|tr<|tr<|br<|tr<|?_
 obtain rfl:=si hm
 exact r1 o results129 rfl ⟨rfl,u.keep⟩
 replace hm:=ite_f hm hb18
 refine tn<|cfv o rfl hb18<|wk<|bn<|tn<|rg<|qv o (e_add o rfl rfl) fun a o=>qm o rfl fun a o=>re<|tn<|?_
 exact ⟨(nn2,(IntKind.i64.wrap (vB1+1))),⟨hm,o.hs,u⟩,Nat.lt_succ_self _⟩
 replace hm:=itp_f hm hb6
 refine tn<|th<|cfv o rfl hb6<|we<|tx<|tx<|bx<|tn<|?_
 exact ⟨hm,o.has trivial,u⟩
 rintro a w ⟨hm,o,u⟩
 unfold Z8l at hm
 refine th<|rg<|qa o rfl fun a o=>re<|tn<|wr<|?_
 obtain rfl:=si hm
 exact r1 o results129 rfl ⟨rfl,u.keep⟩
theorem Z89_c (hH:H.le w0) (hT:Tab H) {oa2:Option Addr} {cap3:Nat} {p1:(List (List api_Cell))} (hc4:p1.length≤cap3) (hr5:SR H oa2 p1) {r:Bool} (hm:Z89 N p1=some r):Tot Tryz.prog 88 #[.slice oa2 p1.length cap3,.func (.func 79) #[] #[]] w0 (fun v w'=>v=.bool r∧Keep Nil w0 w'):=by
 unfold Z89 at hm
 refine fn0 func88 rfl ntmps88 rfl rfl fun a o=>?_
 have u:St w0 Nil [H] [] w0:=start1 hH
 refine th<|rg<|qa o rfl fun a o=>re<|tn<|th<|?_
 obtain ⟨rz6,h7,hm⟩:=bs hm
 refine rg<|qm o rfl fun a o=>qm o rfl fun a o=>ls<|cq o call129 (Z8k_c (hp_le _) (Tab.mono hT (St.up u)) hc4 (St.srH u hr5) h7) ⟨rfl,rfl,trivial⟩ u fun w a u o=>qv o (e_geq o rfl rfl) fun a o=>qa o rfl fun a o=>re<|tn<|wr<|?_
 obtain rfl:=si hm
 exact r1 o results88 rfl ⟨rfl,u.keep⟩
theorem Z7q_c (hH:H.le w0) (hT:Tab H) {p1:Str} {r:Bool} (hm:Z7q N p1=some r):Tot Tryz.prog 122 #[strv p1] w0 (fun v w'=>v=.bool r∧Keep Nil w0 w'):=by
 unfold Z7q at hm
 refine fn0 func122 rfl ntmps122 rfl rfl fun a o=>?_
 have u:St w0 Nil [H] [] w0:=start1 hH
 refine th<|rg<|qa o rfl fun a o=>re<|tn<|th<|?_
 obtain ⟨rz2,h3,hm⟩:=bs hm
 refine rg<|qm o rfl fun a o=>ls<|cq o call82 (Z7s_c (hp_le _) (Tab.mono hT (St.up u)) h3) ⟨rfl,trivial⟩ u fun w a u o=>qv o (e_not o rfl) fun a o=>qa o rfl fun a o=>re<|tn<|wr<|?_
 obtain rfl:=si hm
 exact r1 o results122 rfl ⟨rfl,u.keep⟩
theorem Z9b_c (hH:H.le w0) (hT:Tab H) {oa2:Option Addr} {cap3:Nat} {p1:(List Str)} (_:p1.length≤cap3) (hr5:SR H oa2 p1) {r:Int} (hm:Z9b N p1=some r):Tot Tryz.prog 154 #[.slice oa2 p1.length cap3,.func (.func 122) #[] #[]] w0 (fun v w'=>v=i6 r∧Keep Nil w0 w'):=by
 unfold Z9b at hm
 refine fn0 func154 rfl ntmps154 rfl rfl fun a o=>?_
 have u:St w0 Nil [H] [] w0:=start1 hH
 refine th<|rg<|qa o rfl fun a o=>re<|tn<|th<|th<|rg<|qm o rfl fun a o=>qv o (e_lenL (α:=Str) (xs:=p1) o runUnderlying36 rfl) fun a o=>qm o rfl fun a o=>re<|tn<|midK (fun a w=>Z9c=some r∧Fr 19 [] a∧St w0 Nil [H] [] w) ?_ ?_
 refine wb<|lp (α:=Nat×Int) (fun gh a w=>match gh with | (nn2,vB1)=>(Z9d N Z9c p1) nn2 vB1=some r∧Fr 19 [(0,.slice oa2 p1.length cap3),(1,.func (.func 122) #[] #[]),(7,i6 (p1.length:Int)),(8,i6 vB1)] a∧St w0 Nil [H] [] w) (fun gh=>gh.1) (N,0) ⟨hm,o.hs,u⟩ ?_
 rintro ⟨nn2,vB1⟩ a w ⟨hm,o,u⟩
 obtain _ | nn2:=nn2
 simp [Z9d] at hm
 rw [Z9d] at hm
 refine th<|rg<|qv o (e_lss o rfl rfl) fun a o=>re<|?_
 rcases bdich (decide (vB1 < (p1.length:Int))) with hb6 | hb6
 replace hm:=itp_t hm hb6
 refine tn<|th<|ctv o rfl hb6<|wk<|tn<|th<|wb<|th<|rg<|qm o rfl fun a o=>qa o rfl fun a o=>re<|tn<|th<|?_
 obtain ⟨xz7,h8,hm⟩:=bs hm
 obtain ⟨cz9,g10,hl11⟩:=SR.get hr5 h8
 obtain rfl:cz9=[strv xz7]:=g10
 obtain ⟨r12,h13,hm⟩:=bs hm
 refine rg<|qm o rfl fun a o=>?_
 iterate 2 refine qm o rfl fun a o=>?_
 refine qv o (e_iaI o runUnderlying36 sizeOf9 rfl rfl h8 (SR.oaI hr5 (by decide) h8)) fun a o=>qv o (e_ld o isAgg9 rfl (PH.le.cell (Lds.le (St.ld u)) (hl11 0 _ rfl))) fun a o=>ls<|k1 (vs:=[strv xz7]) (caps:=[]) o rfl rfl call122 (Z7q_c (hp_le _) (Tab.mono hT (St.up u)) h13) ⟨rfl,trivial⟩ rfl (fun v w a hR o=>?_)
 obtain ⟨rfl,hk⟩:=hR
 replace u:=u.pass hk
 refine re<|?_
 rcases bdich r12 with hb14 | hb14
 replace hm:=ite_t hm hb14
 refine tn<|ctv o rfl hb14<|th<|rg<|qm o rfl fun a o=>qa o rfl fun a o=>re<|tn<|wr<|br<|tr<|tr<|br<|tr<|?_
 obtain rfl:=si hm
 exact r1 o results154 rfl ⟨rfl,u.keep⟩
 replace hm:=ite_f hm hb14
 refine tn<|cfv o rfl hb14<|wk<|bn<|tn<|rg<|qv o (e_add o rfl rfl) fun a o=>qm o rfl fun a o=>re<|tn<|?_
 exact ⟨(nn2,(IntKind.i64.wrap (vB1+1))),⟨hm,o.hs,u⟩,Nat.lt_succ_self _⟩
 replace hm:=itp_f hm hb6
 refine tn<|th<|cfv o rfl hb6<|we<|tx<|tx<|bx<|tn<|?_
 exact ⟨hm,o.has trivial,u⟩
 rintro a w ⟨hm,o,u⟩
 unfold Z9c at hm
 refine th<|rg<|qa o rfl fun a o=>re<|tn<|wr<|?_
 obtain rfl:=si hm
 exact r1 o results154 rfl ⟨rfl,u.keep⟩
theorem Z8i_c (hH:H.le w0) (hT:Tab H) {oa2:Option Addr} {cap3:Nat} {p1:(List Str)} (hc4:p1.length≤cap3) (hr5:SR H oa2 p1) {r:Bool} (hm:Z8i N p1=some r):Tot Tryz.prog 123 #[.slice oa2 p1.length cap3,.func (.func 122) #[] #[]] w0 (fun v w'=>v=.bool r∧Keep Nil w0 w'):=by
 unfold Z8i at hm
 refine fn0 func123 rfl ntmps123 rfl rfl fun a o=>?_
 have u:St w0 Nil [H] [] w0:=start1 hH
 refine th<|rg<|qa o rfl fun a o=>re<|tn<|th<|?_
 obtain ⟨rz6,h7,hm⟩:=bs hm
 refine rg<|qm o rfl fun a o=>qm o rfl fun a o=>ls<|cq o call154 (Z9b_c (hp_le _) (Tab.mono hT (St.up u)) hc4 (St.srH u hr5) h7) ⟨rfl,rfl,trivial⟩ u fun w a u o=>qv o (e_geq o rfl rfl) fun a o=>qa o rfl fun a o=>re<|tn<|wr<|?_
 obtain rfl:=si hm
 exact r1 o results123 rfl ⟨rfl,u.keep⟩
theorem Z9s_c (hH:H.le w0)  {r:(Arr 15 Str)} (hm:Z9s N  = some r):Tot Tryz.prog 163 #[] w0 (fun v w'=>∃ (H':PH) (cs0:List Value),v=.agg cs0.toArray∧Enc.rep H' cs0 r∧Ext w0 H H'∧H'.le w'∧Keep Nil w0 w'):=by
 unfold Z9s at hm
 refine fn0 func163 rfl ntmps163 rfl rfl fun a o=>?_
 have u:St w0 Nil [H] [] w0:=start1 hH
 refine th<|rg<|ls<|a_alloc (cs:=[strv [],strv [],strv [],strv [],strv [],strv [],strv [],strv [],strv [],strv [],strv [],strv [],strv [],strv [],strv []].toArray) o rfl u Tryz.zeroValue176 rfl fun b1 w a u o=>re<|tn<|th<|rg<|qv o (e_bldK [strv [114,101],strv [114,110],strv [110,101],strv [114,110,101,102],strv [110],strv [110],strv [110],strv [110],strv [101,98],strv [107,98],strv [101]] [strv [],strv [114,101],strv [114,110],strv [110,101],strv [114,110,101,102],strv [110],strv [110],strv [],strv [],strv [110],strv [110],strv [101,98],strv [107,98],strv [],strv [101]] o ⟨rfl,rfl,rfl,rfl,rfl,rfl,rfl,rfl,rfl,rfl,rfl,trivial⟩ (fun w=>by kernel_rfl)) fun a o=>ls<|s_blkA o u sizeOf176 rfl rfl rfl rfl (one_cells rfl) .head fun w u=>re<|tn<|wr<|?_
 obtain rfl:=si hm
 exact r1c (vs:=[strv [],strv [114,101],strv [114,110],strv [110,101],strv [114,110,101,102],strv [110],strv [110],strv [],strv [],strv [110],strv [110],strv [101,98],strv [107,98],strv [],strv [101]]) (.inl rfl) o results163 rfl isAgg176 sizeOf176 rfl ((St.ld u).cellsB t0) ⟨H,_,rfl,(show Enc.rep (α:=(Arr 15 Str)) H [strv [],strv [114,101],strv [114,110],strv [110,101],strv [114,110,101,102],strv [110],strv [110],strv [],strv [],strv [110],strv [110],strv [101,98],strv [107,98],strv [],strv [101]] (⟨[[],[114,101],[114,110],[110,101],[114,110,101,102],[110],[110],[],[],[110],[110],[101,98],[107,98],[],[101]],rfl⟩:(Arr 15 Str)) from (.cons (c:=[strv []]) rfl (.cons (c:=[strv [114,101]]) rfl (.cons (c:=[strv [114,110]]) rfl (.cons (c:=[strv [110,101]]) rfl (.cons (c:=[strv [114,110,101,102]]) rfl (.cons (c:=[strv [110]]) rfl (.cons (c:=[strv [110]]) rfl (.cons (c:=[strv []]) rfl (.cons (c:=[strv []]) rfl (.cons (c:=[strv [110]]) rfl (.cons (c:=[strv [110]]) rfl (.cons (c:=[strv [101,98]]) rfl (.cons (c:=[strv [107,98]]) rfl (.cons (c:=[strv []]) rfl (.cons (c:=[strv [101]]) rfl .nil)))))))))))))))),(Ext.refl _ _),(St.le u),u.keep⟩
theorem Z9k_c (hH:H.le w0) {p1:Int} {r:Str} (hm:Z9k N p1=some r):Tot Tryz.prog 145 #[i6 p1] w0 (fun v w'=>v=strv r∧Keep Nil w0 w'):=by
 unfold Z9k at hm
 refine fn0 func145 rfl ntmps145 rfl rfl fun a o=>?_
 have u:St w0 Nil [H] [] w0:=start1 hH
 refine th<|rg<|qa o rfl fun a o=>re<|tn<|th<|th<|rg<|qm o rfl fun a o=>qv o (e_lss o rfl rfl) fun a o=>qm o rfl fun a o=>grp (N:=12) (Fk:=[(0,i6 p1),(8,.bool ((decide (p1 < 0)) || (decide (15≤p1))))]) (b:=(decide (p1 < 0))) 3 u ?_ ?_ ?_
 intro hb key
 replace o:=Fr.as o (t:=5) rfl (congrArg Value.bool hb)
 iterate 2 refine qn o fun a o=>?_
 refine qv o (e_as (v':=.bool ((decide (p1 < 0)) || (decide (15≤p1)))) (e_pickT o rfl rfl) (by rw [hb];rfl)) fun a o=>?_
 exact key _ _ (o.has ⟨rfl,rfl,trivial⟩) u
 intro hb key
 replace o:=Fr.as o (t:=5) rfl (congrArg Value.bool hb)
 refine qg o (e_move o rfl) fun a o=>qg o (e_geq o rfl rfl) fun a o=>qv o (e_as (v':=.bool ((decide (p1 < 0)) || (decide (15≤p1)))) (e_pickF o rfl rfl) (by rw [hb];rfl)) fun a o=>?_
 exact key _ _ (o.has ⟨rfl,rfl,trivial⟩) u
 intro a w o u
 refine re<|?_
 rcases bdich ((decide (p1 < 0)) || (decide (15≤p1))) with hb2 | hb2
 replace hm:=ite_t hm hb2
 refine tn<|ctv o rfl hb2<|th<|rg<|qa o rfl fun a o=>re<|tn<|wr<|tr<|?_
 obtain rfl:=si hm
 exact r1 o results145 rfl ⟨rfl,u.keep⟩
 replace hm:=ite_f hm hb2
 refine tn<|cfv o rfl hb2<|wk<|tn<|th<|?_
 obtain ⟨rz3,h4,hm⟩:=bs hm
 obtain ⟨x12,h13,hm⟩:=bs hm
 refine rg<|ls<|c1 o rfl Tryz.call163 (Z9s_c (St.le u) h4) trivial (fun v w a hR o=>?_)
 obtain ⟨H8,cs9,rfl,g10,hx5,hl6,hk⟩:=hR
 obtain ⟨u,hx5⟩:=And.intro (St.passH u hk hx5 hl6) (St.extc u hx5)
 have hv11:Rows H8 cs9 rz3.l:=g10
 refine qm o rfl fun a o=>?_
 obtain ⟨c14,g15,hl16⟩:=Rows.getI hv11 h13
 obtain rfl:c14=[strv x12]:=g15
 refine qv o (e_ix1 o runUnderlying176 sizeOf9 isAgg9 rfl rfl rz3.h h13 (hl16 0 _ rfl)) fun a o=>qa o rfl fun a o=>re<|tn<|wr<|?_
 obtain rfl:=si hm
 exact r1 o results145 rfl ⟨rfl,u.keep⟩
theorem Z9u_c (hH:H.le w0) (hT:Tab H) {p1:Str} {y3:Str} {b2:Nat} (hb4:H b2=some (.cells [strv y3].toArray 9 (0,0))) {r:Bool} (hm:Z9u N p1 y3=some r):Tot Tryz.prog 146 #[strv p1,.pointer (some ⟨b2,0,none⟩)] w0 (fun v w'=>v=.bool r∧Keep Nil w0 w'):=by
 unfold Z9u at hm
 refine fn0 func146 rfl ntmps146 rfl rfl fun a o=>?_
 have u:St w0 Nil [H] [] w0:=start1 hH
 refine th<|rg<|qa o rfl fun a o=>re<|tn<|th<|?_
 obtain ⟨rz5,h6,hm⟩:=bs hm
 refine rg<|qv o (e_ld o Tryz.isAgg9 rfl (PH.le.cell (Lds.le (St.ld u)) (ph_cell hb4 rfl))) fun a o=>qm o rfl fun a o=>ls<|cq o call147 (Z0_c (hp_le _) (Tab.mono hT (St.up u)) h6) ⟨rfl,rfl,trivial⟩ u fun w a u o=>qa o rfl fun a o=>re<|tn<|wr<|?_
 obtain rfl:=si hm
 exact r1 o results146 rfl ⟨rfl,u.keep⟩
theorem Z9v_c (hH:H.le w0) (hT:Tab H) {p1:Bool} {p2:Str} {r:Bool} (hm:Z9v N p1 p2=some r):Tot Tryz.prog 148 #[.bool p1,strv p2] w0 (fun v w'=>v=.bool r∧Keep Nil w0 w'):=by
 unfold Z9v at hm
 refine fn0 func148 rfl ntmps148 rfl rfl fun a o=>?_
 have u:St w0 Nil [H] [] w0:=start1 hH
 refine th<|rg<|qa o rfl fun a o=>re<|tn<|th<|?_
 rcases bdich p1 with hb3 | hb3
 replace hm:=ite_t hm hb3
 obtain ⟨rz4,h5,hm⟩:=bs hm
 refine rg<|qm o rfl fun a o=>qv o (e_as (e_move o rfl) (congrArg Value.bool hb3)) fun a o=>qg o (e_move o rfl) fun a o=>ls<|gy o rfl rfl<|cq o call82 (Z7s_c (hp_le _) (Tab.mono hT (St.up u)) h5) ⟨rfl,trivial⟩ u fun w a u o=>qv o (e_pickT o rfl rfl) fun a o=>qm o rfl fun a o=>grp (N:=18) (Fk:=[(17,.bool (rz4 || ((!p1) && (decide (p2=[])))))]) (b:=rz4) 7 u ?_ ?_ ?_
 intro hb key
 replace o:=Fr.as o (t:=10) rfl (congrArg Value.bool hb)
 iterate 3 refine qn o fun a o=>?_
 iterate 2 refine ls<|gnu o rfl rfl rfl fun a o=>?_
 refine qn o fun a o=>qv o (e_as (v':=.bool (rz4 || ((!p1) && (decide (p2=[]))))) (e_pickT o rfl rfl) (by rw [hb];rfl)) fun a o=>?_
 exact key _ _ (o.has ⟨rfl,trivial⟩) u
 intro hb key
 replace o:=Fr.as o (t:=10) rfl (congrArg Value.bool hb)
 refine qg o (e_move o rfl) fun a o=>qg o (e_not o rfl) fun a o=>qg o (e_move o rfl) fun a o=>grp (N:=18) (Fk:=[(10,.bool false),(16,.bool ((!p1) && (decide (p2=[]))))]) (b:=(!p1)) 3 u ?_ ?_ ?_
 intro hb key
 replace o:=Fr.as o (t:=13) rfl (congrArg Value.bool hb)
 refine qg o (e_move o rfl) fun a o=>qg o (e_eqlU (m:=p2) (n:=[]) o rfl rfl) fun a o=>qg o (e_as (v':=.bool ((!p1) && (decide (p2=[])))) (e_pickT o rfl rfl) (by rw [hb];rfl)) fun a o=>?_
 exact key _ _ (o.has ⟨rfl,rfl,trivial⟩) u
 intro hb key
 replace o:=Fr.as o (t:=13) rfl (congrArg Value.bool hb)
 iterate 2 refine qn o fun a o=>?_
 refine qg o (e_as (v':=.bool ((!p1) && (decide (p2=[])))) (e_pickF o rfl rfl) (by rw [hb];rfl)) fun a o=>?_
 exact key _ _ (o.has ⟨rfl,rfl,trivial⟩) u
 intro a w o u
 refine qv o (e_as (v':=.bool (rz4 || ((!p1) && (decide (p2=[]))))) (e_pickF o rfl rfl) (by rw [hb];rfl)) fun a o=>?_
 exact key _ _ (o.has ⟨rfl,trivial⟩) u
 intro a w o u
 refine qa o rfl fun a o=>re<|tn<|wr<|?_
 obtain rfl:=si hm
 exact r1 o results148 rfl ⟨rfl,u.keep⟩
 replace hm:=ite_f hm hb3
 refine rg<|qm o rfl fun a o=>qv o (e_as (e_move o rfl) (congrArg Value.bool hb3)) fun a o=>?_
 iterate 2 refine qn o fun a o=>?_
 refine qv o (e_pickF o rfl rfl) fun a o=>qm o rfl fun a o=>qg o (e_move o rfl) fun a o=>qg o (e_not o rfl) fun a o=>qg o (e_move o rfl) fun a o=>grp (N:=18) (Fk:=[(10,.bool false),(16,.bool ((!p1) && (decide (p2=[]))))]) (b:=(!p1)) 3 u ?_ ?_ ?_
 intro hb key
 replace o:=Fr.as o (t:=13) rfl (congrArg Value.bool hb)
 refine qg o (e_move o rfl) fun a o=>qg o (e_eqlU (m:=p2) (n:=[]) o rfl rfl) fun a o=>qg o (e_as (v':=.bool ((!p1) && (decide (p2=[])))) (e_pickT o rfl rfl) (by rw [hb];rfl)) fun a o=>?_
 exact key _ _ (o.has ⟨rfl,rfl,trivial⟩) u
 intro hb key
 replace o:=Fr.as o (t:=13) rfl (congrArg Value.bool hb)
 iterate 2 refine qn o fun a o=>?_
 refine qg o (e_as (v':=.bool ((!p1) && (decide (p2=[])))) (e_pickF o rfl rfl) (by rw [hb];rfl)) fun a o=>?_
 exact key _ _ (o.has ⟨rfl,rfl,trivial⟩) u
 intro a w o u
 refine qv o (e_pickF o rfl rfl) fun a o=>qa o rfl fun a o=>re<|tn<|wr<|?_
 obtain rfl:=si hm
 exact r1 o results148 rfl ⟨rfl,u.keep⟩
theorem Zc_c (hH:H.le w0) (hT:Tab H) {p1:api_Node} {r:Bool} (hm:Zc N p1=some r):Tot Tryz.prog 125 #[.agg #[i6 p1.Op,i6 p1.N,strv p1.Name,i6 p1.At]] w0 (fun v w'=>v=.bool r∧Keep Nil w0 w'):=by
 unfold Zc at hm
 refine fn0 func125 rfl ntmps125 rfl rfl fun a o=>?_
 have u:St w0 Nil [H] [] w0:=start1 hH
 refine th<|rg<|ls<|a_box (cs:=[i6 p1.Op,i6 p1.N,strv p1.Name,i6 p1.At].toArray) o rfl u rfl rfl fun b2 w a u o=>qa o rfl fun a o=>re<|tn<|th<|wb<|th<|rg<|qv o (e_fa o fa90_3 rfl) fun a o=>qv o (e_ld o isAgg3 rfl ((St.ld u).cellB t0 rfl)) fun a o=>qv o (e_lss o rfl rfl) fun a o=>qm o rfl fun a o=>grp (N:=49) (Fk:=[(1,.pointer (some ⟨b2,0,none⟩)),(11,.bool ((decide (p1.At < 0)) || (decide (4000 < p1.At))))]) (b:=(decide (p1.At < 0))) 4 u ?_ ?_ ?_
 intro hb key
 replace o:=Fr.as o (t:=7) rfl (congrArg Value.bool hb)
 iterate 3 refine qn o fun a o=>?_
 refine qv o (e_as (v':=.bool ((decide (p1.At < 0)) || (decide (4000 < p1.At)))) (e_pickT o rfl rfl) (by rw [hb];rfl)) fun a o=>?_
 exact key _ _ (o.has ⟨rfl,rfl,trivial⟩) u
 intro hb key
 replace o:=Fr.as o (t:=7) rfl (congrArg Value.bool hb)
 refine qg o (e_fa o fa90_3 rfl) fun a o=>qg o (e_ld o isAgg3 rfl ((St.ld u).cellB t0 rfl)) fun a o=>qg o (e_gtr o rfl rfl) fun a o=>qv o (e_as (v':=.bool ((decide (p1.At < 0)) || (decide (4000 < p1.At)))) (e_pickF o rfl rfl) (by rw [hb];rfl)) fun a o=>?_
 exact key _ _ (o.has ⟨rfl,rfl,trivial⟩) u
 intro a w o u
 refine qa o rfl fun a o=>re<|?_
 rcases bdich ((decide (p1.At < 0)) || (decide (4000 < p1.At))) with hb3 | hb3
 replace hm:=ite_t hm hb3
 refine tn<|ctv o rfl hb3<|th<|rg<|qa o rfl fun a o=>re<|tn<|wr<|br<|tr<|?_
 obtain rfl:=si hm
 exact r1 o results125 rfl ⟨rfl,u.keep⟩
 replace hm:=ite_f hm hb3
 refine tn<|cfv o rfl hb3<|th<|rg<|qv o (e_fa o fa90_0 rfl) fun a o=>qv o (e_ld o isAgg3 rfl ((St.ld u).cellB t0 rfl)) fun a o=>qv o (e_eql o rfl rfl) fun a o=>qa o rfl fun a o=>re<|?_
 rcases bdich (decide (p1.Op=1)) with hb4 | hb4
 replace hm:=itp_t hm hb4
 refine tn<|ctv o rfl hb4<|th<|rg<|qv o (e_fa o fa90_1 rfl) fun a o=>qv o (e_ld o isAgg3 rfl ((St.ld u).cellB t0 rfl)) fun a o=>qv o (e_geq o rfl rfl) fun a o=>qm o rfl fun a o=>grp (N:=49) (Fk:=[(1,.pointer (some ⟨b2,0,none⟩)),(23,.bool ((decide (0≤p1.N)) && (decide (p1.N≤4294967296))))]) (b:=(decide (0≤p1.N))) 4 u ?_ ?_ ?_
 intro hb key
 replace o:=Fr.as o (t:=19) rfl (congrArg Value.bool hb)
 refine qg o (e_fa o fa90_1 rfl) fun a o=>qg o (e_ld o isAgg3 rfl ((St.ld u).cellB t0 rfl)) fun a o=>qg o (e_leq o rfl rfl) fun a o=>qv o (e_as (v':=.bool ((decide (0≤p1.N)) && (decide (p1.N≤4294967296)))) (e_pickT o rfl rfl) (by rw [hb];rfl)) fun a o=>?_
 exact key _ _ (o.has ⟨rfl,rfl,trivial⟩) u
 intro hb key
 replace o:=Fr.as o (t:=19) rfl (congrArg Value.bool hb)
 iterate 3 refine qn o fun a o=>?_
 refine qv o (e_as (v':=.bool ((decide (0≤p1.N)) && (decide (p1.N≤4294967296)))) (e_pickF o rfl rfl) (by rw [hb];rfl)) fun a o=>?_
 exact key _ _ (o.has ⟨rfl,rfl,trivial⟩) u
 intro a w o u
 refine qm o rfl fun a o=>grp (N:=49) (Fk:=[(28,.bool (((decide (0≤p1.N)) && (decide (p1.N≤4294967296))) && (decide (p1.Name=[]))))]) (b:=((decide (0≤p1.N)) && (decide (p1.N≤4294967296)))) 4 u ?_ ?_ ?_
 intro hb key
 replace o:=Fr.as o (t:=24) rfl (congrArg Value.bool hb)
 refine qg o (e_fa o fa90_2 rfl) fun a o=>qg o (e_ld o isAgg9 rfl ((St.ld u).cellB t0 rfl)) fun a o=>qg o (e_eqlU (m:=p1.Name) (n:=[]) o rfl rfl) fun a o=>qv o (e_as (v':=.bool (((decide (0≤p1.N)) && (decide (p1.N≤4294967296))) && (decide (p1.Name=[])))) (e_pickT o rfl rfl) (by rw [hb];rfl)) fun a o=>?_
 exact key _ _ (o.has ⟨rfl,trivial⟩) u
 intro hb key
 replace o:=Fr.as o (t:=24) rfl (congrArg Value.bool hb)
 iterate 3 refine qn o fun a o=>?_
 refine qv o (e_as (v':=.bool (((decide (0≤p1.N)) && (decide (p1.N≤4294967296))) && (decide (p1.Name=[])))) (e_pickF o rfl rfl) (by rw [hb];rfl)) fun a o=>?_
 exact key _ _ (o.has ⟨rfl,trivial⟩) u
 intro a w o u
 refine qa o rfl fun a o=>re<|tn<|wr<|br<|tr<|?_
 obtain rfl:=si hm
 exact r1 o results125 rfl ⟨rfl,u.keep⟩
 replace hm:=itp_f hm hb4
 refine tn<|cfv o rfl hb4<|th<|rg<|qv o (e_fa o fa90_0 rfl) fun a o=>qv o (e_ld o isAgg3 rfl ((St.ld u).cellB t0 rfl)) fun a o=>qv o (e_eql o rfl rfl) fun a o=>qa o rfl fun a o=>re<|?_
 rcases bdich (decide (p1.Op=2)) with hb5 | hb5
 replace hm:=itp_t hm hb5
 refine tn<|ctv o rfl hb5<|th<|?_
 rcases bdich (decide (p1.N=0)) with hb6 | hb6
 replace hm:=itp_t hm hb6
 obtain ⟨rz7,h8,hm⟩:=bs hm
 refine rg<|qv o (e_fa o fa90_1 rfl) fun a o=>qv o (e_ld o isAgg3 rfl ((St.ld u).cellB t0 rfl)) fun a o=>qv o (e_eql o rfl rfl) fun a o=>qv o (e_as (e_move o rfl) (congrArg Value.bool hb6)) fun a o=>qg o (e_fa o fa90_2 rfl) fun a o=>qg o (e_ld o isAgg9 rfl ((St.ld u).cellB t0 rfl)) fun a o=>ls<|gy o rfl rfl<|cq o call82 (Z7s_c (hp_le _) (Tab.mono hT (St.up u)) h8) ⟨rfl,trivial⟩ u fun w a u o=>qv o (e_pickT o rfl rfl) fun a o=>qa o rfl fun a o=>re<|tn<|wr<|br<|tr<|?_
 obtain rfl:=si hm
 exact r1 o results125 rfl ⟨rfl,u.keep⟩
 replace hm:=itp_f hm hb6
 refine rg<|qv o (e_fa o fa90_1 rfl) fun a o=>qv o (e_ld o isAgg3 rfl ((St.ld u).cellB t0 rfl)) fun a o=>qv o (e_eql o rfl rfl) fun a o=>qv o (e_as (e_move o rfl) (congrArg Value.bool hb6)) fun a o=>?_
 iterate 3 refine qn o fun a o=>?_
 refine qv o (e_pickF o rfl rfl) fun a o=>qa o rfl fun a o=>re<|tn<|wr<|br<|tr<|?_
 obtain rfl:=si hm
 exact r1 o results125 rfl ⟨rfl,u.keep⟩
 replace hm:=itp_f hm hb5
 refine tn<|cfv o rfl hb5<|wk<|bn<|tn<|th<|rg<|qv o (e_fa o fa90_1 rfl) fun a o=>qv o (e_ld o isAgg3 rfl ((St.ld u).cellB t0 rfl)) fun a o=>qv o (e_eql o rfl rfl) fun a o=>qm o rfl fun a o=>grp (N:=49) (Fk:=[(48,.bool ((decide (p1.N=0)) && (decide (p1.Name=[]))))]) (b:=(decide (p1.N=0))) 4 u ?_ ?_ ?_
 intro hb key
 replace o:=Fr.as o (t:=44) rfl (congrArg Value.bool hb)
 refine qg o (e_fa o fa90_2 rfl) fun a o=>qg o (e_ld o isAgg9 rfl ((St.ld u).cellB t0 rfl)) fun a o=>qg o (e_eqlU (m:=p1.Name) (n:=[]) o rfl rfl) fun a o=>qv o (e_as (v':=.bool ((decide (p1.N=0)) && (decide (p1.Name=[])))) (e_pickT o rfl rfl) (by rw [hb];rfl)) fun a o=>?_
 exact key _ _ (o.has ⟨rfl,trivial⟩) u
 intro hb key
 replace o:=Fr.as o (t:=44) rfl (congrArg Value.bool hb)
 iterate 3 refine qn o fun a o=>?_
 refine qv o (e_as (v':=.bool ((decide (p1.N=0)) && (decide (p1.Name=[])))) (e_pickF o rfl rfl) (by rw [hb];rfl)) fun a o=>?_
 exact key _ _ (o.has ⟨rfl,trivial⟩) u
 intro a w o u
 refine qa o rfl fun a o=>re<|tn<|wr<|?_
 obtain rfl:=si hm
 exact r1 o results125 rfl ⟨rfl,u.keep⟩
theorem Z6_c (hH:H.le w0) (hT:Tab H) {p1:api_Node} {r:Bool} (hm:Z6 N p1=some r):Tot Tryz.prog 124 #[.agg #[i6 p1.Op,i6 p1.N,strv p1.Name,i6 p1.At]] w0 (fun v w'=>v=.bool r∧Keep Nil w0 w'):=by
 unfold Z6 at hm
 refine fn0 func124 rfl ntmps124 rfl rfl fun a o=>?_
 have u:St w0 Nil [H] [] w0:=start1 hH
 refine th<|rg<|ls<|a_box (cs:=[i6 p1.Op,i6 p1.N,strv p1.Name,i6 p1.At].toArray) o rfl u rfl rfl fun b2 w a u o=>qa o rfl fun a o=>re<|tn<|th<|?_
 obtain ⟨rz3,h4,hm⟩:=bs hm
 refine rg<|qv o (e_ldA o Tryz.isAgg90 Tryz.sizeOf90 rfl rfl ((St.ld u).cellsB t0)) fun a o=>ls<|cq o call125 (Zc_c (hp_le _) (Tab.mono hT (St.up u)) h4) ⟨rfl,trivial⟩ u fun w a u o=>qv o (e_not o rfl) fun a o=>qa o rfl fun a o=>re<|tn<|wr<|?_
 obtain rfl:=si hm
 exact r1 o results124 rfl ⟨rfl,u.keep⟩
theorem Z8w_c (hH:H.le w0) (hT:Tab H) {oa2:Option Addr} {cap3:Nat} {p1:(List api_Node)} (_:p1.length≤cap3) (hr5:SR H oa2 p1) {r:Int} (hm:Z8w N p1=some r):Tot Tryz.prog 155 #[.slice oa2 p1.length cap3,.func (.func 124) #[] #[]] w0 (fun v w'=>v=i6 r∧Keep Nil w0 w'):=by
 unfold Z8w at hm
 refine fn0 func155 rfl ntmps155 rfl rfl fun a o=>?_
 have u:St w0 Nil [H] [] w0:=start1 hH
 refine th<|rg<|qa o rfl fun a o=>re<|tn<|th<|th<|rg<|qm o rfl fun a o=>qv o (e_lenL (α:=api_Node) (xs:=p1) o runUnderlying49 rfl) fun a o=>qm o rfl fun a o=>re<|tn<|midK (fun a w=>Z8x=some r∧Fr 19 [] a∧St w0 Nil [H] [] w) ?_ ?_
 refine wb<|lp (α:=Nat×Int) (fun gh a w=>match gh with | (nn2,vB1)=>(Z8y N Z8x p1) nn2 vB1=some r∧Fr 19 [(0,.slice oa2 p1.length cap3),(1,.func (.func 124) #[] #[]),(7,i6 (p1.length:Int)),(8,i6 vB1)] a∧St w0 Nil [H] [] w) (fun gh=>gh.1) (N,0) ⟨hm,o.hs,u⟩ ?_
 rintro ⟨nn2,vB1⟩ a w ⟨hm,o,u⟩
 obtain _ | nn2:=nn2
 simp [Z8y] at hm
 rw [Z8y] at hm
 refine th<|rg<|qv o (e_lss o rfl rfl) fun a o=>re<|?_
 rcases bdich (decide (vB1 < (p1.length:Int))) with hb6 | hb6
 replace hm:=itp_t hm hb6
 refine tn<|th<|ctv o rfl hb6<|wk<|tn<|th<|wb<|th<|rg<|qm o rfl fun a o=>qa o rfl fun a o=>re<|tn<|th<|?_
 obtain ⟨xz7,h8,hm⟩:=bs hm
 obtain ⟨cz9,g10,hl11⟩:=SR.get hr5 h8
 obtain rfl:=api_Node_open g10
 obtain ⟨r12,h13,hm⟩:=bs hm
 refine rg<|qm o rfl fun a o=>?_
 iterate 2 refine qm o rfl fun a o=>?_
 refine qv o (e_iaI o runUnderlying49 sizeOf90 rfl rfl h8 (SR.oaI hr5 (by decide) h8)) fun a o=>qv o (e_ldA o isAgg90 sizeOf90 rfl rfl (fun j v hj=>PH.le.cell (Lds.le (St.ld u)) (hl11 j v hj))) fun a o=>ls<|k1 (vs:=[.agg #[i6 xz7.Op,i6 xz7.N,strv xz7.Name,i6 xz7.At]]) (caps:=[]) o rfl rfl call124 (Z6_c (hp_le _) (Tab.mono hT (St.up u)) h13) ⟨rfl,trivial⟩ rfl (fun v w a hR o=>?_)
 obtain ⟨rfl,hk⟩:=hR
 replace u:=u.pass hk
 refine re<|?_
 rcases bdich r12 with hb14 | hb14
 replace hm:=ite_t hm hb14
 refine tn<|ctv o rfl hb14<|th<|rg<|qm o rfl fun a o=>qa o rfl fun a o=>re<|tn<|wr<|br<|tr<|tr<|br<|tr<|?_
 obtain rfl:=si hm
 exact r1 o results155 rfl ⟨rfl,u.keep⟩
 replace hm:=ite_f hm hb14
 refine tn<|cfv o rfl hb14<|wk<|bn<|tn<|rg<|qv o (e_add o rfl rfl) fun a o=>qm o rfl fun a o=>re<|tn<|?_
 exact ⟨(nn2,(IntKind.i64.wrap (vB1+1))),⟨hm,o.hs,u⟩,Nat.lt_succ_self _⟩
 replace hm:=itp_f hm hb6
 refine tn<|th<|cfv o rfl hb6<|we<|tx<|tx<|bx<|tn<|?_
 exact ⟨hm,o.has trivial,u⟩
 rintro a w ⟨hm,o,u⟩
 unfold Z8x at hm
 refine th<|rg<|qa o rfl fun a o=>re<|tn<|wr<|?_
 obtain rfl:=si hm
 exact r1 o results155 rfl ⟨rfl,u.keep⟩
theorem Z8d_c (hH:H.le w0) (hT:Tab H) {oa2:Option Addr} {cap3:Nat} {p1:(List api_Node)} (hc4:p1.length≤cap3) (hr5:SR H oa2 p1) {r:Bool} (hm:Z8d N p1=some r):Tot Tryz.prog 126 #[.slice oa2 p1.length cap3,.func (.func 124) #[] #[]] w0 (fun v w'=>v=.bool r∧Keep Nil w0 w'):=by
 unfold Z8d at hm
 refine fn0 func126 rfl ntmps126 rfl rfl fun a o=>?_
 have u:St w0 Nil [H] [] w0:=start1 hH
 refine th<|rg<|qa o rfl fun a o=>re<|tn<|th<|?_
 obtain ⟨rz6,h7,hm⟩:=bs hm
 refine rg<|qm o rfl fun a o=>qm o rfl fun a o=>ls<|cq o call155 (Z8w_c (hp_le _) (Tab.mono hT (St.up u)) hc4 (St.srH u hr5) h7) ⟨rfl,rfl,trivial⟩ u fun w a u o=>qv o (e_geq o rfl rfl) fun a o=>qa o rfl fun a o=>re<|tn<|wr<|?_
 obtain rfl:=si hm
 exact r1 o results126 rfl ⟨rfl,u.keep⟩
theorem Zb_c (hH:H.le w0) {p1:Int} {r:Int} (hm:Zb N p1=some r):Tot Tryz.prog 156 #[i6 p1] w0 (fun v w'=>v=i6 r∧Keep Nil w0 w'):=by
 unfold Zb at hm
 refine fn0 func156 rfl ntmps156 rfl rfl fun a o=>?_
 have u:St w0 Nil [H] [] w0:=start1 hH
 refine th<|rg<|qa o rfl fun a o=>re<|tn<|th<|wb<|th<|rg<|qm o rfl fun a o=>qv o (e_eql o rfl rfl) fun a o=>qm o rfl fun a o=>grp (N:=24) (Fk:=[(0,i6 p1),(9,.bool ((decide (p1=1)) || (decide (p1=2))))]) (b:=(decide (p1=1))) 3 u ?_ ?_ ?_
 intro hb key
 replace o:=Fr.as o (t:=6) rfl (congrArg Value.bool hb)
 iterate 2 refine qn o fun a o=>?_
 refine qv o (e_as (v':=.bool ((decide (p1=1)) || (decide (p1=2)))) (e_pickT o rfl rfl) (by rw [hb];rfl)) fun a o=>?_
 exact key _ _ (o.has ⟨rfl,rfl,trivial⟩) u
 intro hb key
 replace o:=Fr.as o (t:=6) rfl (congrArg Value.bool hb)
 refine qg o (e_move o rfl) fun a o=>qg o (e_eql o rfl rfl) fun a o=>qv o (e_as (v':=.bool ((decide (p1=1)) || (decide (p1=2)))) (e_pickF o rfl rfl) (by rw [hb];rfl)) fun a o=>?_
 exact key _ _ (o.has ⟨rfl,rfl,trivial⟩) u
 intro a w o u
 refine qa o rfl fun a o=>re<|?_
 rcases bdich ((decide (p1=1)) || (decide (p1=2))) with hb2 | hb2
 replace hm:=ite_t hm hb2
 refine tn<|ctv o rfl hb2<|th<|rg<|qa o rfl fun a o=>re<|tn<|wr<|br<|tr<|?_
 obtain rfl:=si hm
 exact r1 o results156 rfl ⟨rfl,u.keep⟩
 replace hm:=ite_f hm hb2
 refine tn<|cfv o rfl hb2<|th<|rg<|qm o rfl fun a o=>qv o (e_eql o rfl rfl) fun a o=>qm o rfl fun a o=>grp (N:=24) (Fk:=[(0,i6 p1),(16,.bool ((decide (p1=3)) || (decide (p1=4))))]) (b:=(decide (p1=3))) 3 u ?_ ?_ ?_
 intro hb key
 replace o:=Fr.as o (t:=13) rfl (congrArg Value.bool hb)
 iterate 2 refine qn o fun a o=>?_
 refine qv o (e_as (v':=.bool ((decide (p1=3)) || (decide (p1=4)))) (e_pickT o rfl rfl) (by rw [hb];rfl)) fun a o=>?_
 exact key _ _ (o.has ⟨rfl,rfl,trivial⟩) u
 intro hb key
 replace o:=Fr.as o (t:=13) rfl (congrArg Value.bool hb)
 refine qg o (e_move o rfl) fun a o=>qg o (e_eql o rfl rfl) fun a o=>qv o (e_as (v':=.bool ((decide (p1=3)) || (decide (p1=4)))) (e_pickF o rfl rfl) (by rw [hb];rfl)) fun a o=>?_
 exact key _ _ (o.has ⟨rfl,rfl,trivial⟩) u
 intro a w o u
 refine qa o rfl fun a o=>re<|?_
 rcases bdich ((decide (p1=3)) || (decide (p1=4))) with hb3 | hb3
 replace hm:=ite_t hm hb3
 refine tn<|ctv o rfl hb3<|th<|rg<|qa o rfl fun a o=>re<|tn<|wr<|br<|tr<|?_
 obtain rfl:=si hm
 exact r1 o results156 rfl ⟨rfl,u.keep⟩
 replace hm:=ite_f hm hb3
 refine tn<|cfv o rfl hb3<|th<|rg<|qm o rfl fun a o=>qv o (e_geq o rfl rfl) fun a o=>qm o rfl fun a o=>grp (N:=24) (Fk:=[(23,.bool ((decide (5≤p1)) && (decide (p1≤15))))]) (b:=(decide (5≤p1))) 3 u ?_ ?_ ?_
 intro hb key
 replace o:=Fr.as o (t:=20) rfl (congrArg Value.bool hb)
 refine qg o (e_move o rfl) fun a o=>qg o (e_leq o rfl rfl) fun a o=>qv o (e_as (v':=.bool ((decide (5≤p1)) && (decide (p1≤15)))) (e_pickT o rfl rfl) (by rw [hb];rfl)) fun a o=>?_
 exact key _ _ (o.has ⟨rfl,trivial⟩) u
 intro hb key
 replace o:=Fr.as o (t:=20) rfl (congrArg Value.bool hb)
 iterate 2 refine qn o fun a o=>?_
 refine qv o (e_as (v':=.bool ((decide (5≤p1)) && (decide (p1≤15)))) (e_pickF o rfl rfl) (by rw [hb];rfl)) fun a o=>?_
 exact key _ _ (o.has ⟨rfl,trivial⟩) u
 intro a w o u
 refine qa o rfl fun a o=>re<|?_
 rcases bdich ((decide (5≤p1)) && (decide (p1≤15))) with hb4 | hb4
 replace hm:=ite_t hm hb4
 refine tn<|ctv o rfl hb4<|th<|rg<|qa o rfl fun a o=>re<|tn<|wr<|br<|tr<|?_
 obtain rfl:=si hm
 exact r1 o results156 rfl ⟨rfl,u.keep⟩
 replace hm:=ite_f hm hb4
 refine tn<|cfv o rfl hb4<|wk<|bn<|tn<|th<|rg<|qa o rfl fun a o=>re<|tn<|wr<|?_
 obtain rfl:=si hm
 exact r1 o results156 rfl ⟨rfl,u.keep⟩
theorem Z1_c (hH:H.le w0) {oa2:Option Addr} {cap3:Nat} {p1:(List api_Node)} (_:p1.length≤cap3) (hr5:SR H oa2 p1) {p6:Int} {r:Int} (hm:Z1 N p1 p6=some r):Tot Tryz.prog 127 #[.slice oa2 p1.length cap3,i6 p6] w0 (fun v w'=>v=i6 r∧Keep Nil w0 w'):=by
 unfold Z1 at hm
 refine fn0 func127 rfl ntmps127 rfl rfl fun a o=>?_
 have u:St w0 Nil [H] [] w0:=start1 hH
 refine th<|rg<|qa o rfl fun a o=>re<|tn<|th<|th<|rg<|qa o rfl fun a o=>re<|tn<|midK (fun a w=>∃ (vA1:Int),Z2 vA1=some r∧Fr 38 [(1,i6 vA1)] a∧St w0 Nil [H] [] w) ?_ ?_
 refine wb<|lp (α:=Nat×Int×Int) (fun gh a w=>match gh with | (nn2,vB1,vB2)=>(Z4 N Z2 p1) nn2 vB1 vB2=some r∧Fr 38 [(0,.slice oa2 p1.length cap3),(1,i6 vB1),(5,i6 vB2)] a∧St w0 Nil [H] [] w) (fun gh=>gh.1) (N,p6,1) ⟨hm,o.hs,u⟩ ?_
 rintro ⟨nn2,vB1,vB2⟩ a w ⟨hm,o,u⟩
 obtain _ | nn2:=nn2
 simp [Z4] at hm
 rw [Z4] at hm
 refine th<|th<|rg<|qm o rfl fun a o=>qv o (e_gtr o rfl rfl) fun a o=>re<|?_
 rcases bdich (decide (0 < vB2)) with hb7 | hb7
 replace hm:=itp_t hm hb7
 refine tn<|ctv o rfl hb7<|wk<|tn<|th<|wb<|th<|th<|midK (fun a w=>∃ (vC1:Bool),(Z3 N (Z4 N Z2 p1 nn2) p1 vB1 vB2) vC1=some r∧Fr 38 [(0,.slice oa2 p1.length cap3),(1,i6 vB1),(5,i6 vB2),(26,.bool vC1)] a∧St w0 Nil [H] [] w) ?_ ?_
 rcases bdich ((decide (vB1 < 0)) || (decide ((p1.length:Int)≤vB1))) with hb8 | hb8
 replace hm:=ite_t hm hb8
 refine rg<|qm o rfl fun a o=>qv o (e_lss o rfl rfl) fun a o=>qm o rfl fun a o=>grp (N:=38) (Fk:=[(0,.slice oa2 p1.length cap3),(1,i6 vB1),(5,i6 vB2),(17,.bool ((decide (vB1 < 0)) || (decide ((p1.length:Int)≤vB1))))]) (b:=(decide (vB1 < 0))) 5 u ?_ ?_ ?_
 intro hb key
 replace o:=Fr.as o (t:=12) rfl (congrArg Value.bool hb)
 iterate 4 refine qn o fun a o=>?_
 refine qv o (e_as (v':=.bool ((decide (vB1 < 0)) || (decide ((p1.length:Int)≤vB1)))) (e_pickT o rfl rfl) (by rw [hb];rfl)) fun a o=>?_
 exact key _ _ (o.hs) u
 intro hb key
 replace o:=Fr.as o (t:=12) rfl (congrArg Value.bool hb)
 iterate 2 refine qg o (e_move o rfl) fun a o=>?_
 refine qg o (e_lenL (α:=api_Node) (xs:=p1) o runUnderlying49 rfl) fun a o=>qg o (e_geq o rfl rfl) fun a o=>qv o (e_as (v':=.bool ((decide (vB1 < 0)) || (decide ((p1.length:Int)≤vB1)))) (e_pickF o rfl rfl) (by rw [hb];rfl)) fun a o=>?_
 exact key _ _ (o.hs) u
 intro a w o u
 refine qv o (e_as (e_move o rfl) (congrArg Value.bool hb8)) fun a o=>?_
 iterate 7 refine qn o fun a o=>?_
 refine qv o (e_pickT o rfl rfl) fun a o=>re<|tn<|?_
 exact ⟨true,hm,o.hs,u⟩
 replace hm:=ite_f hm hb8
 obtain ⟨xz9,h10,hm⟩:=bs hm
 obtain ⟨c11,g12,hl13⟩:=SR.get hr5 h10
 obtain rfl:=api_Node_open g12
 obtain ⟨r14,h15,hm⟩:=bs hm
 refine rg<|qm o rfl fun a o=>qv o (e_lss o rfl rfl) fun a o=>qm o rfl fun a o=>grp (N:=38) (Fk:=[(0,.slice oa2 p1.length cap3),(1,i6 vB1),(5,i6 vB2),(17,.bool ((decide (vB1 < 0)) || (decide ((p1.length:Int)≤vB1))))]) (b:=(decide (vB1 < 0))) 5 u ?_ ?_ ?_
 intro hb key
 replace o:=Fr.as o (t:=12) rfl (congrArg Value.bool hb)
 iterate 4 refine qn o fun a o=>?_
 refine qv o (e_as (v':=.bool ((decide (vB1 < 0)) || (decide ((p1.length:Int)≤vB1)))) (e_pickT o rfl rfl) (by rw [hb];rfl)) fun a o=>?_
 exact key _ _ (o.hs) u
 intro hb key
 replace o:=Fr.as o (t:=12) rfl (congrArg Value.bool hb)
 iterate 2 refine qg o (e_move o rfl) fun a o=>?_
 refine qg o (e_lenL (α:=api_Node) (xs:=p1) o runUnderlying49 rfl) fun a o=>qg o (e_geq o rfl rfl) fun a o=>qv o (e_as (v':=.bool ((decide (vB1 < 0)) || (decide ((p1.length:Int)≤vB1)))) (e_pickF o rfl rfl) (by rw [hb];rfl)) fun a o=>?_
 exact key _ _ (o.hs) u
 intro a w o u
 refine qv o (e_as (e_move o rfl) (congrArg Value.bool hb8)) fun a o=>?_
 iterate 2 refine qg o (e_move o rfl) fun a o=>?_
 refine qg o (e_iaI o runUnderlying49 sizeOf90 rfl rfl h10 (SR.oaI hr5 (by decide) h10)) fun a o=>qg o (e_fa o fa90_0 rfl) fun a o=>qg o (e_ld o isAgg3 rfl (PH.le.cell (Lds.le (St.ld u)) (hl13 0 _ rfl))) fun a o=>ls<|gy o rfl rfl<|cq o call156 (Zb_c (hp_le _) h15) ⟨rfl,trivial⟩ u fun w a u o=>qg o (e_eql o rfl rfl) fun a o=>qv o (e_pickF o rfl rfl) fun a o=>re<|tn<|?_
 exact ⟨(decide (r14=(-1))),hm,o.hs,u⟩
 rintro a w ⟨vC1,hm,o,u⟩
 unfold Z3 at hm
 rcases bdich vC1 with hb16 | hb16
 replace hm:=ite_t hm hb16
 refine ctv o rfl hb16<|th<|rg<|qa o rfl fun a o=>re<|tn<|wr<|tr<|br<|tr<|tr<|br<|tr<|?_
 obtain rfl:=si hm
 exact r1 o results127 rfl ⟨rfl,u.keep⟩
 replace hm:=ite_f hm hb16
 refine cfv o rfl hb16<|wk<|tn<|th<|?_
 obtain ⟨x17,h18,hm⟩:=bs hm
 obtain ⟨c19,g20,hl21⟩:=SR.get hr5 h18
 obtain rfl:=api_Node_open g20
 obtain ⟨r22,h23,hm⟩:=bs hm
 refine rg<|qm o rfl fun a o=>?_
 iterate 2 refine qm o rfl fun a o=>?_
 refine qv o (e_iaI o runUnderlying49 sizeOf90 rfl rfl h18 (SR.oaI hr5 (by decide) h18)) fun a o=>qv o (e_fa o fa90_0 rfl) fun a o=>qv o (e_ld o isAgg3 rfl (PH.le.cell (Lds.le (St.ld u)) (hl21 0 _ rfl))) fun a o=>ls<|cq o call156 (Zb_c (hp_le _) h23) ⟨rfl,trivial⟩ u fun w a u o=>qv o (e_add o rfl rfl) fun a o=>qa o rfl fun a o=>re<|tn<|rg<|qm o rfl fun a o=>qv o (e_add o rfl rfl) fun a o=>qa o rfl fun a o=>re<|bn<|tn<|rg<|qm o rfl fun a o=>qv o (e_sub o rfl rfl) fun a o=>qa o rfl fun a o=>re<|tn<|?_
 exact ⟨(nn2,(IntKind.i64.wrap (vB1+1)),(IntKind.i64.wrap ((IntKind.i64.wrap (vB2+r22)) - 1))),⟨hm,o.hs,u⟩,Nat.lt_succ_self _⟩
 replace hm:=itp_f hm hb7
 refine tn<|cfv o rfl hb7<|we<|tx<|tx<|bx<|tn<|?_
 exact ⟨vB1,hm,o.has ⟨rfl,trivial⟩,u⟩
 rintro a w ⟨vA1,hm,o,u⟩
 unfold Z2 at hm
 refine th<|rg<|qm o rfl fun a o=>qa o rfl fun a o=>re<|tn<|wr<|?_
 obtain rfl:=si hm
 exact r1 o results127 rfl ⟨rfl,u.keep⟩
theorem Zd_c (hH:H.le w0) {oa2:Option Addr} {cap3:Nat} {p1:(List api_Node)} (hc4:p1.length≤cap3) (hr5:SR H oa2 p1) {p6:Int} {r:(List Int)} (hm:Zd N p1 p6=some r):Tot Tryz.prog 157 #[.slice oa2 p1.length cap3,i6 p6] w0 (fun v w'=>∃ (oa0:Option Addr) (cap0:Nat) (vs0:List Value),v=.slice oa0 r.length cap0∧(∀ h,Rows h vs0 r)∧Fresh w0 (sla 3 1 oa0 r.length cap0 vs0) w'):=by
 unfold Zd at hm
 refine fn0 func157 rfl ntmps157 rfl rfl fun a o=>?_
 have u:St w0 Nil [H] [] w0:=start1 hH
 refine th<|rg<|qa o rfl fun a o=>re<|tn<|th<|rg<|qa o rfl fun a o=>re<|tn<|th<|rg<|qm o rfl fun a o=>qv o (e_add o rfl rfl) fun a o=>qa o rfl fun a o=>re<|tn<|th<|th<|?_
 obtain ⟨xz7,h8,hm⟩:=bs hm
 obtain ⟨cz9,g10,hl11⟩:=SR.get hr5 h8
 obtain rfl:=api_Node_open g10
 obtain ⟨r12,h13,hm⟩:=bs hm
 refine rg<|qm o rfl fun a o=>qm o rfl fun a o=>qv o (e_iaI o runUnderlying49 sizeOf90 rfl rfl h8 (SR.oaI hr5 (by decide) h8)) fun a o=>qv o (e_fa o fa90_0 rfl) fun a o=>qv o (e_ld o isAgg3 rfl (PH.le.cell (Lds.le (St.ld u)) (hl11 0 _ rfl))) fun a o=>ls<|cq o call156 (Zb_c (hp_le _) h13) ⟨rfl,trivial⟩ u fun w a u o=>qm o rfl fun a o=>re<|tn<|midK (fun a w=>∃ (vA1:(List Int)) (oaA2:Option Addr) (capA3:Nat) (vsA4:List Value),Ze vA1=some r∧Fr 26 [(5,.slice oaA2 vA1.length capA3)] a∧St w0 Nil [H] [sla 3 1 oaA2 vA1.length capA3 vsA4] w∧Rows H vsA4 vA1) ?_ ?_
 replace u:=St.nilS u 3 1
 refine wb<|lp (α:=Nat×(List Int)×Int×Int) (fun gh a w=>match gh with | (nn2,vB1,vB7,vB8)=>∃ (oaB2:Option Addr) (capB3:Nat) (vsB4:List Value),(Zf N Ze p1 r12) nn2 vB1 vB7 vB8=some r∧Fr 26 [(0,.slice oa2 p1.length cap3),(5,.slice oaB2 vB1.length capB3),(6,i6 vB7),(14,i6 r12),(15,i6 vB8)] a∧St w0 Nil [H] [sla 3 1 oaB2 vB1.length capB3 vsB4] w∧Rows H vsB4 vB1) (fun gh=>gh.1) (N,[],(IntKind.i64.wrap (p6+1)),0) ⟨none,0,[],hm,o.hs,u,.nil⟩ ?_
 rintro ⟨nn2,vB1,vB7,vB8⟩ a w ⟨oaB2,capB3,vsB4,hm,o,u,hvB5⟩
 obtain _ | nn2:=nn2
 simp [Zf] at hm
 rw [Zf] at hm
 refine th<|rg<|qv o (e_lss o rfl rfl) fun a o=>re<|?_
 rcases bdich (decide (vB8 < r12)) with hb14 | hb14
 replace hm:=itp_t hm hb14
 refine tn<|th<|ctv o rfl hb14<|wk<|tn<|th<|wb<|th<|?_
 obtain ⟨l18,h19,hm⟩:=bs hm
 refine rg<|qm o rfl fun a o=>qm o rfl fun a o=>ls<|a_bsl (e:=3) (sz:=1) [i6 vB7] o rfl u rfl rfl rfl (fun w=>by kernel_rfl) fun b16 w a u o=>?_
 have hv15:Rows (α:=Int) H [i6 vB7] ([vB7]:List Int):=(.cons (c:=[i6 vB7]) rfl .nil)
 refine ls<|m_app (α:=Int) (xs:=vB1) (ys:=([vB7]:List Int)) o rfl u underlying42 info3 rfl (by decide) rfl rfl rfl t1 hvB5 (u.rdO t0) hv15 h19 fun oa20 cap21 vs22 w a hv23 hU o=>?_
 replace u:=hU _ (.tail .head)
 replace u:=u.drop .head
 refine qa o rfl fun a o=>re<|tn<|?_
 obtain ⟨r24,h25,hm⟩:=bs hm
 refine rg<|qm o rfl fun a o=>qm o rfl fun a o=>ls<|cq o call127 (Z1_c (hp_le _) hc4 (St.srH u hr5) h25) ⟨rfl,rfl,trivial⟩ u fun w a u o=>qa o rfl fun a o=>re<|bn<|tn<|rg<|qv o (e_add o rfl rfl) fun a o=>qm o rfl fun a o=>re<|tn<|?_
 exact ⟨(nn2,l18,r24,(IntKind.i64.wrap (vB8+1))),⟨oa20,cap21,vs22,hm,o.hs,u,hv23⟩,Nat.lt_succ_self _⟩
 replace hm:=itp_f hm hb14
 refine tn<|th<|cfv o rfl hb14<|we<|tx<|tx<|bx<|tn<|?_
 exact ⟨vB1,oaB2,capB3,vsB4,hm,o.has ⟨rfl,trivial⟩,u,hvB5⟩
 rintro a w ⟨vA1,oaA2,capA3,vsA4,hm,o,u,hvA5⟩
 unfold Ze at hm
 refine th<|rg<|qm o rfl fun a o=>qa o rfl fun a o=>re<|tn<|wr<|?_
 obtain rfl:=si hm
 exact r1 o results157 rfl ⟨_,_,_,rfl,(fun _=>Rows.ind hvA5),u.endFresh t0⟩
theorem Z8_c:∀ (N:Nat) {w0:World} {H:PH} (_:H.le w0) {oa2:Option Addr} {cap3:Nat} {p1:(List api_Node)} (_:p1.length≤cap3) (_:SR H oa2 p1) {p6:Int} {r:Int} (_:Z8 N p1 p6=some r),Tot Tryz.prog 128 #[.slice oa2 p1.length cap3,i6 p6] w0 (fun v w'=>v=i6 r∧Keep Nil w0 w'):=by
 intro N
 induction N with
  | zero=>intros;rename_i hm;simp [Z8] at hm
  | succ N ih=>
 intro w0 H hH oa2 cap3 p1 hc4 hr5 p6 r hm
 rw [Z8] at hm
 refine fn0 func128 rfl ntmps128 rfl rfl fun a o=>?_
 have u:St w0 Nil [H] [] w0:=start1 hH
 refine th<|rg<|qa o rfl fun a o=>re<|tn<|th<|rg<|qa o rfl fun a o=>re<|tn<|th<|th<|?_
 obtain ⟨rz7,h8,hm⟩:=bs hm
 refine rg<|qm o rfl fun a o=>qm o rfl fun a o=>ls<|c1 o rfl call157 (Zd_c (hp_le _) hc4 (St.srH u hr5) h8) ⟨rfl,rfl,trivial⟩ (fun v w a hR o=>?_)
 obtain ⟨oa9,cap10,vs11,rfl,hv12,hk⟩:=hR
 replace u:=u.fresh hk
 replace hv12:=hv12 H
 refine qv o (e_lenL (α:=Int) (xs:=rz7) o runUnderlying42 rfl) fun a o=>qm o rfl fun a o=>re<|tn<|midK (fun a w=>∃ (vA1:Int),Z9 vA1=some r∧Fr 24 [(5,i6 vA1)] a∧St w0 Nil [H] [] w) ?_ ?_
 refine wb<|lp (α:=Nat×Int×Int) (fun gh a w=>match gh with | (nn2,vB1,vB2)=>(Za (Z8 N) N Z9 p1 rz7) nn2 vB1 vB2=some r∧Fr 24 [(0,.slice oa2 p1.length cap3),(5,i6 vB1),(10,.slice oa9 rz7.length cap10),(11,i6 (rz7.length:Int)),(12,i6 vB2)] a∧St w0 Nil [H] [sla 3 1 oa9 rz7.length cap10 vs11] w) (fun gh=>gh.1) (N,0,0) ⟨hm,o.hs,u⟩ ?_
 rintro ⟨nn2,vB1,vB2⟩ a w ⟨hm,o,u⟩
 obtain _ | nn2:=nn2
 simp [Za] at hm
 rw [Za] at hm
 refine th<|rg<|qv o (e_lss o rfl rfl) fun a o=>re<|?_
 rcases bdich (decide (vB2 < (rz7.length:Int))) with hb14 | hb14
 replace hm:=itp_t hm hb14
 refine tn<|th<|ctv o rfl hb14<|wk<|tn<|th<|wb<|th<|?_
 obtain ⟨x15,h16,hm⟩:=bs hm
 have ho17:=Rd.oaI (u.rdO t0) hv12 (by decide) h16
 obtain ⟨c18,g19,hl20⟩:=Rows.getI hv12 h16
 obtain rfl:c18=[i6 x15]:=g19
 refine rg<|qv o (e_iaI o Tryz.runUnderlying42 Tryz.sizeOf3 rfl rfl h16 ho17) fun a o=>qv o (e_ld o isAgg3 rfl ((St.ld u).elO t0 (hl20 0 _ rfl))) fun a o=>qa o rfl fun a o=>re<|tn<|?_
 obtain ⟨r21,h22,hm⟩:=bs hm
 refine rg<|qm o rfl fun a o=>?_
 iterate 2 refine qm o rfl fun a o=>?_
 refine ls<|cq o call128 (ih (hp_le _) hc4 (St.srH u hr5) h22) ⟨rfl,rfl,trivial⟩ u fun w a u o=>qv o (e_max o rfl rfl) fun a o=>qa o rfl fun a o=>re<|bn<|tn<|rg<|qv o (e_add o rfl rfl) fun a o=>qm o rfl fun a o=>re<|tn<|?_
 exact ⟨(nn2,(max vB1 r21),(IntKind.i64.wrap (vB2+1))),⟨hm,o.hs,u⟩,Nat.lt_succ_self _⟩
 replace hm:=itp_f hm hb14
 refine tn<|th<|cfv o rfl hb14<|we<|tx<|tx<|bx<|tn<|?_
 replace u:=u.pickL .nil
 exact ⟨vB1,hm,o.has ⟨rfl,trivial⟩,u⟩
 rintro a w ⟨vA1,hm,o,u⟩
 unfold Z9 at hm
 refine th<|rg<|qm o rfl fun a o=>qv o (e_add o rfl rfl) fun a o=>qa o rfl fun a o=>re<|tn<|wr<|?_
 obtain rfl:=si hm
 exact r1 o results128 rfl ⟨rfl,u.keep⟩
theorem Z5_c (hH:H.le w0) (hT:Tab H) {oa2:Option Addr} {cap3:Nat} {p1:(List api_Node)} (hc4:p1.length≤cap3) (hr5:SR H oa2 p1) {r:Bool} (hm:Z5 N p1=some r):Tot Tryz.prog 87 #[.slice oa2 p1.length cap3] w0 (fun v w'=>v=.bool r∧Keep Nil w0 w'):=by
 unfold Z5 at hm
 refine fn0 func87 rfl ntmps87 rfl rfl fun a o=>?_
 have u:St w0 Nil [H] [] w0:=start1 hH
 refine th<|rg<|qa o rfl fun a o=>re<|tn<|th<|rg<|qa o rfl fun a o=>re<|tn<|th<|th<|midK (fun a w=>∃ (vA1:Bool),(Z7 N p1) vA1=some r∧Fr 27 [(0,.slice oa2 p1.length cap3),(23,.bool vA1)] a∧St w0 Nil [H] [] w) ?_ ?_
 rcases bdich ((decide ((p1.length:Int)=0)) || (decide (40 < (p1.length:Int)))) with hb6 | hb6
 replace hm:=ite_t hm hb6
 refine rg<|qm o rfl fun a o=>qv o (e_lenL (α:=api_Node) (xs:=p1) o runUnderlying49 rfl) fun a o=>qv o (e_eql o rfl rfl) fun a o=>qm o rfl fun a o=>grp (N:=27) (Fk:=[(0,.slice oa2 p1.length cap3),(3,.func (.func 124) #[] #[]),(11,.bool ((decide ((p1.length:Int)=0)) || (decide (40 < (p1.length:Int)))))]) (b:=(decide ((p1.length:Int)=0))) 4 u ?_ ?_ ?_
 intro hb key
 replace o:=Fr.as o (t:=7) rfl (congrArg Value.bool hb)
 iterate 3 refine qn o fun a o=>?_
 refine qv o (e_as (v':=.bool ((decide ((p1.length:Int)=0)) || (decide (40 < (p1.length:Int))))) (e_pickT o rfl rfl) (by rw [hb];rfl)) fun a o=>?_
 exact key _ _ (o.hs) u
 intro hb key
 replace o:=Fr.as o (t:=7) rfl (congrArg Value.bool hb)
 refine qg o (e_move o rfl) fun a o=>qg o (e_lenL (α:=api_Node) (xs:=p1) o runUnderlying49 rfl) fun a o=>qg o (e_gtr o rfl rfl) fun a o=>qv o (e_as (v':=.bool ((decide ((p1.length:Int)=0)) || (decide (40 < (p1.length:Int))))) (e_pickF o rfl rfl) (by rw [hb];rfl)) fun a o=>?_
 exact key _ _ (o.hs) u
 intro a w o u
 refine qv o (e_as (e_move o rfl) (congrArg Value.bool hb6)) fun a o=>?_
 iterate 3 refine qn o fun a o=>?_
 refine qv o (e_pickT o rfl rfl) fun a o=>qm o rfl fun a o=>?_
 iterate 5 refine qn o fun a o=>?_
 refine qv o (e_pickT o rfl rfl) fun a o=>re<|tn<|?_
 exact ⟨true,hm,o.has ⟨rfl,rfl,trivial⟩,u⟩
 replace hm:=ite_f hm hb6
 obtain ⟨rz7,h8,hm⟩:=bs hm
 rcases bdich rz7 with hb9 | hb9
 replace hm:=ite_t hm hb9
 refine rg<|qm o rfl fun a o=>qv o (e_lenL (α:=api_Node) (xs:=p1) o runUnderlying49 rfl) fun a o=>qv o (e_eql o rfl rfl) fun a o=>qm o rfl fun a o=>grp (N:=27) (Fk:=[(0,.slice oa2 p1.length cap3),(3,.func (.func 124) #[] #[]),(11,.bool ((decide ((p1.length:Int)=0)) || (decide (40 < (p1.length:Int)))))]) (b:=(decide ((p1.length:Int)=0))) 4 u ?_ ?_ ?_
 intro hb key
 replace o:=Fr.as o (t:=7) rfl (congrArg Value.bool hb)
 iterate 3 refine qn o fun a o=>?_
 refine qv o (e_as (v':=.bool ((decide ((p1.length:Int)=0)) || (decide (40 < (p1.length:Int))))) (e_pickT o rfl rfl) (by rw [hb];rfl)) fun a o=>?_
 exact key _ _ (o.hs) u
 intro hb key
 replace o:=Fr.as o (t:=7) rfl (congrArg Value.bool hb)
 refine qg o (e_move o rfl) fun a o=>qg o (e_lenL (α:=api_Node) (xs:=p1) o runUnderlying49 rfl) fun a o=>qg o (e_gtr o rfl rfl) fun a o=>qv o (e_as (v':=.bool ((decide ((p1.length:Int)=0)) || (decide (40 < (p1.length:Int))))) (e_pickF o rfl rfl) (by rw [hb];rfl)) fun a o=>?_
 exact key _ _ (o.hs) u
 intro a w o u
 refine qv o (e_as (e_move o rfl) (congrArg Value.bool hb6)) fun a o=>?_
 iterate 2 refine qg o (e_move o rfl) fun a o=>?_
 refine ls<|gy o rfl rfl<|cq o call126 (Z8d_c (hp_le _) (Tab.mono hT (St.up u)) hc4 (St.srH u hr5) h8) ⟨rfl,rfl,trivial⟩ u fun w a u o=>qv o (e_pickF o rfl rfl) fun a o=>qv o (e_as (e_move o rfl) (congrArg Value.bool hb9)) fun a o=>?_
 iterate 5 refine qn o fun a o=>?_
 refine qv o (e_pickT o rfl rfl) fun a o=>re<|tn<|?_
 exact ⟨true,hm,o.has ⟨rfl,rfl,trivial⟩,u⟩
 replace hm:=ite_f hm hb9
 obtain ⟨r10,h11,hm⟩:=bs hm
 refine rg<|qm o rfl fun a o=>qv o (e_lenL (α:=api_Node) (xs:=p1) o runUnderlying49 rfl) fun a o=>qv o (e_eql o rfl rfl) fun a o=>qm o rfl fun a o=>grp (N:=27) (Fk:=[(0,.slice oa2 p1.length cap3),(3,.func (.func 124) #[] #[]),(11,.bool ((decide ((p1.length:Int)=0)) || (decide (40 < (p1.length:Int)))))]) (b:=(decide ((p1.length:Int)=0))) 4 u ?_ ?_ ?_
 intro hb key
 replace o:=Fr.as o (t:=7) rfl (congrArg Value.bool hb)
 iterate 3 refine qn o fun a o=>?_
 refine qv o (e_as (v':=.bool ((decide ((p1.length:Int)=0)) || (decide (40 < (p1.length:Int))))) (e_pickT o rfl rfl) (by rw [hb];rfl)) fun a o=>?_
 exact key _ _ (o.hs) u
 intro hb key
 replace o:=Fr.as o (t:=7) rfl (congrArg Value.bool hb)
 refine qg o (e_move o rfl) fun a o=>qg o (e_lenL (α:=api_Node) (xs:=p1) o runUnderlying49 rfl) fun a o=>qg o (e_gtr o rfl rfl) fun a o=>qv o (e_as (v':=.bool ((decide ((p1.length:Int)=0)) || (decide (40 < (p1.length:Int))))) (e_pickF o rfl rfl) (by rw [hb];rfl)) fun a o=>?_
 exact key _ _ (o.hs) u
 intro a w o u
 refine qv o (e_as (e_move o rfl) (congrArg Value.bool hb6)) fun a o=>?_
 iterate 2 refine qg o (e_move o rfl) fun a o=>?_
 refine ls<|gy o rfl rfl<|cq o call126 (Z8d_c (hp_le _) (Tab.mono hT (St.up u)) hc4 (St.srH u hr5) h8) ⟨rfl,rfl,trivial⟩ u fun w a u o=>qv o (e_pickF o rfl rfl) fun a o=>qv o (e_as (e_move o rfl) (congrArg Value.bool hb9)) fun a o=>qg o (e_move o rfl) fun a o=>ls<|gy o rfl rfl<|cq o call127 (Z1_c (hp_le _) hc4 (St.srH u hr5) h11) ⟨rfl,rfl,trivial⟩ u fun w a u o=>qg o (e_move o rfl) fun a o=>qg o (e_lenL (α:=api_Node) (xs:=p1) o runUnderlying49 rfl) fun a o=>qg o (e_neq o rfl rfl) fun a o=>qv o (e_pickF o rfl rfl) fun a o=>re<|tn<|?_
 exact ⟨(decide (r10≠(p1.length:Int))),hm,o.has ⟨rfl,rfl,trivial⟩,u⟩
 rintro a w ⟨vA1,hm,o,u⟩
 unfold Z7 at hm
 rcases bdich vA1 with hb12 | hb12
 replace hm:=ite_t hm hb12
 refine ctv o rfl hb12<|th<|rg<|qa o rfl fun a o=>re<|tn<|wr<|tr<|?_
 obtain rfl:=si hm
 exact r1 o results87 rfl ⟨rfl,u.keep⟩
 replace hm:=ite_f hm hb12
 refine cfv o rfl hb12<|wk<|tn<|th<|?_
 obtain ⟨r13,h14,hm⟩:=bs hm
 refine rg<|qm o rfl fun a o=>ls<|cq o call128 (Z8_c _ (hp_le _) hc4 (St.srH u hr5) h14) ⟨rfl,rfl,trivial⟩ u fun w a u o=>qv o (e_leq o rfl rfl) fun a o=>qa o rfl fun a o=>re<|tn<|wr<|?_
 obtain rfl:=si hm
 exact r1 o results87 rfl ⟨rfl,u.keep⟩
theorem Z9w_c (hH:H.le w0) (hT:Tab H) {p1:Bool} {oa3:Option Addr} {cap4:Nat} {p2:(List api_Node)} (hc5:p2.length≤cap4) (hr6:SR H oa3 p2) {r:Bool} (hm:Z9w N p1 p2=some r):Tot Tryz.prog 149 #[.bool p1,.slice oa3 p2.length cap4] w0 (fun v w'=>v=.bool r∧Keep Nil w0 w'):=by
 unfold Z9w at hm
 refine fn0 func149 rfl ntmps149 rfl rfl fun a o=>?_
 have u:St w0 Nil [H] [] w0:=start1 hH
 refine th<|rg<|qa o rfl fun a o=>re<|tn<|th<|?_
 rcases bdich p1 with hb7 | hb7
 replace hm:=ite_t hm hb7
 obtain ⟨rz8,h9,hm⟩:=bs hm
 refine rg<|qm o rfl fun a o=>qv o (e_as (e_move o rfl) (congrArg Value.bool hb7)) fun a o=>qg o (e_move o rfl) fun a o=>ls<|gy o rfl rfl<|cq o call87 (Z5_c (hp_le _) (Tab.mono hT (St.up u)) hc5 (St.srH u hr6) h9) ⟨rfl,trivial⟩ u fun w a u o=>qv o (e_pickT o rfl rfl) fun a o=>qm o rfl fun a o=>grp (N:=19) (Fk:=[(18,.bool (rz8 || ((!p1) && (decide ((p2.length:Int)=0)))))]) (b:=rz8) 8 u ?_ ?_ ?_
 intro hb key
 replace o:=Fr.as o (t:=10) rfl (congrArg Value.bool hb)
 iterate 3 refine qn o fun a o=>?_
 iterate 3 refine ls<|gnu o rfl rfl rfl fun a o=>?_
 refine qn o fun a o=>qv o (e_as (v':=.bool (rz8 || ((!p1) && (decide ((p2.length:Int)=0))))) (e_pickT o rfl rfl) (by rw [hb];rfl)) fun a o=>?_
 exact key _ _ (o.has ⟨rfl,trivial⟩) u
 intro hb key
 replace o:=Fr.as o (t:=10) rfl (congrArg Value.bool hb)
 refine qg o (e_move o rfl) fun a o=>qg o (e_not o rfl) fun a o=>qg o (e_move o rfl) fun a o=>grp (N:=19) (Fk:=[(10,.bool false),(17,.bool ((!p1) && (decide ((p2.length:Int)=0))))]) (b:=(!p1)) 4 u ?_ ?_ ?_
 intro hb key
 replace o:=Fr.as o (t:=13) rfl (congrArg Value.bool hb)
 refine qg o (e_move o rfl) fun a o=>qg o (e_lenL (α:=api_Node) (xs:=p2) o runUnderlying49 rfl) fun a o=>qg o (e_eql o rfl rfl) fun a o=>qg o (e_as (v':=.bool ((!p1) && (decide ((p2.length:Int)=0)))) (e_pickT o rfl rfl) (by rw [hb];rfl)) fun a o=>?_
 exact key _ _ (o.has ⟨rfl,rfl,trivial⟩) u
 intro hb key
 replace o:=Fr.as o (t:=13) rfl (congrArg Value.bool hb)
 iterate 3 refine qn o fun a o=>?_
 refine qg o (e_as (v':=.bool ((!p1) && (decide ((p2.length:Int)=0)))) (e_pickF o rfl rfl) (by rw [hb];rfl)) fun a o=>?_
 exact key _ _ (o.has ⟨rfl,rfl,trivial⟩) u
 intro a w o u
 refine qv o (e_as (v':=.bool (rz8 || ((!p1) && (decide ((p2.length:Int)=0))))) (e_pickF o rfl rfl) (by rw [hb];rfl)) fun a o=>?_
 exact key _ _ (o.has ⟨rfl,trivial⟩) u
 intro a w o u
 refine qa o rfl fun a o=>re<|tn<|wr<|?_
 obtain rfl:=si hm
 exact r1 o results149 rfl ⟨rfl,u.keep⟩
 replace hm:=ite_f hm hb7
 refine rg<|qm o rfl fun a o=>qv o (e_as (e_move o rfl) (congrArg Value.bool hb7)) fun a o=>?_
 iterate 2 refine qn o fun a o=>?_
 refine qv o (e_pickF o rfl rfl) fun a o=>qm o rfl fun a o=>qg o (e_move o rfl) fun a o=>qg o (e_not o rfl) fun a o=>qg o (e_move o rfl) fun a o=>grp (N:=19) (Fk:=[(10,.bool false),(17,.bool ((!p1) && (decide ((p2.length:Int)=0))))]) (b:=(!p1)) 4 u ?_ ?_ ?_
 intro hb key
 replace o:=Fr.as o (t:=13) rfl (congrArg Value.bool hb)
 refine qg o (e_move o rfl) fun a o=>qg o (e_lenL (α:=api_Node) (xs:=p2) o runUnderlying49 rfl) fun a o=>qg o (e_eql o rfl rfl) fun a o=>qg o (e_as (v':=.bool ((!p1) && (decide ((p2.length:Int)=0)))) (e_pickT o rfl rfl) (by rw [hb];rfl)) fun a o=>?_
 exact key _ _ (o.has ⟨rfl,rfl,trivial⟩) u
 intro hb key
 replace o:=Fr.as o (t:=13) rfl (congrArg Value.bool hb)
 iterate 3 refine qn o fun a o=>?_
 refine qg o (e_as (v':=.bool ((!p1) && (decide ((p2.length:Int)=0)))) (e_pickF o rfl rfl) (by rw [hb];rfl)) fun a o=>?_
 exact key _ _ (o.has ⟨rfl,rfl,trivial⟩) u
 intro a w o u
 refine qv o (e_pickF o rfl rfl) fun a o=>qa o rfl fun a o=>re<|tn<|wr<|?_
 obtain rfl:=si hm
 exact r1 o results149 rfl ⟨rfl,u.keep⟩
set_option maxHeartbeats 4000000 in
theorem Z9t_c (hH:H.le w0) (hT:Tab H) {cs2:List Value} {p1:api_Stmt} (g3:Enc.rep H cs2 p1) {r:Bool} (hm:Z9t N p1=some r):Tot Tryz.prog 110 #[.agg cs2.toArray] w0 (fun v w'=>v=.bool r∧Keep Nil w0 w'):=by
 unfold Z9t at hm
 refine fn0 func110 rfl ntmps110 rfl rfl fun a o=>?_
 have u:St w0 Nil [H] [] w0:=start1 hH
 obtain ⟨oa4,cap5,oa8,cap9,rfl,hc6,hr7,hc10,hr11⟩:=api_Stmt_open g3
 refine th<|rg<|ls<|a_box (cs:=[i6 p1.Kind,strv p1.Reg,strv p1.Name,.slice oa4 p1.E.length cap5,.slice oa8 p1.F.length cap9,i6 p1.N,i6 p1.Body,i6 p1.Else,i6 p1.At].toArray) o rfl u rfl rfl fun b12 w a u o=>qa o rfl fun a o=>re<|tn<|th<|?_
 obtain ⟨r13,h14,hm⟩:=bs hm
 refine rg<|qv o (e_fa o fa51_0 rfl) fun a o=>qv o (e_ld o isAgg3 rfl ((St.ld u).cellB t0 rfl)) fun a o=>ls<|cq o call145 (Z9k_c (hp_le _) h14) ⟨rfl,trivial⟩ u fun w a u o=>ls<|a_alloc (cs:=[strv []].toArray) o rfl u zeroValue9 rfl fun b15 w a u o=>ls<|s_blk o u sizeOf9 rfl rfl rfl rfl .head .zero fun w u=>re<|tn<|th<|rg<|qv o (e_mkf (vs:=[.pointer (some ⟨b15,0,none⟩)]) o ⟨rfl,trivial⟩) fun a o=>qa o rfl fun a o=>?_
 iterate 2 refine re<|tn<|th<|rg<|qa o rfl fun a o=>?_
 refine re<|tn<|th<|rg<|qv o (e_fa o fa51_5 rfl) fun a o=>qv o (e_ld o isAgg3 rfl ((St.ld u).cellB t1 rfl)) fun a o=>qv o (e_eql o rfl rfl) fun a o=>qa o rfl fun a o=>re<|tn<|th<|th<|?_
 obtain ⟨r16,h17,hm⟩:=bs hm
 refine rg<|qm o rfl fun a o=>ls<|k1 (vs:=[strv [107]]) (caps:=[.pointer (some ⟨b15,0,none⟩)]) o rfl rfl call146 (Z9u_c (hp_le _) (Tab.mono hT (St.up u)) (St.blkO u t0) h17) ⟨rfl,trivial⟩ rfl (fun v w a hR o=>?_)
 obtain ⟨rfl,hk⟩:=hR
 replace u:=u.pass hk
 refine re<|tn<|midK (fun a w=>∃ (vA1:Bool),(Z9x N p1 r13) vA1=some r∧Fr 85 [(1,.pointer (some ⟨b12,0,none⟩)),(4,.func (.func 146) #[] #[.pointer (some ⟨b15,0,none⟩)]),(5,.func (.func 148) #[] #[]),(6,.func (.func 149) #[] #[]),(7,.bool vA1)] a∧St w0 Nil [H] [blk b12 (.cells [i6 p1.Kind,strv p1.Reg,strv p1.Name,.slice oa4 p1.E.length cap5,.slice oa8 p1.F.length cap9,i6 p1.N,i6 p1.Body,i6 p1.Else,i6 p1.At].toArray 51 (0,0)),blk b15 (.cells [strv r13].toArray 9 (0,0))] w) ?_ ?_
 rcases bdich r16 with hb18 | hb18
 replace hm:=ite_t hm hb18
 refine ctv o rfl hb18<|rg<|qv o (e_fa o fa51_5 rfl) fun a o=>qv o (e_ld o isAgg3 rfl ((St.ld u).cellB t1 rfl)) fun a o=>qv o (e_geq o rfl rfl) fun a o=>qm o rfl fun a o=>grp (N:=85) (Fk:=[(1,.pointer (some ⟨b12,0,none⟩)),(4,.func (.func 146) #[] #[.pointer (some ⟨b15,0,none⟩)]),(5,.func (.func 148) #[] #[]),(6,.func (.func 149) #[] #[]),(25,.bool ((decide (1≤p1.N)) && (decide (p1.N≤8))))]) (b:=(decide (1≤p1.N))) 4 u ?_ ?_ ?_
 intro hb key
 replace o:=Fr.as o (t:=21) rfl (congrArg Value.bool hb)
 refine qg o (e_fa o fa51_5 rfl) fun a o=>qg o (e_ld o isAgg3 rfl ((St.ld u).cellB t1 rfl)) fun a o=>qg o (e_leq o rfl rfl) fun a o=>qv o (e_as (v':=.bool ((decide (1≤p1.N)) && (decide (p1.N≤8)))) (e_pickT o rfl rfl) (by rw [hb];rfl)) fun a o=>?_
 exact key _ _ (o.hs) u
 intro hb key
 replace o:=Fr.as o (t:=21) rfl (congrArg Value.bool hb)
 iterate 3 refine qn o fun a o=>?_
 refine qv o (e_as (v':=.bool ((decide (1≤p1.N)) && (decide (p1.N≤8)))) (e_pickF o rfl rfl) (by rw [hb];rfl)) fun a o=>?_
 exact key _ _ (o.hs) u
 intro a w o u
 refine qa o rfl fun a o=>re<|tn<|?_
 replace u:=u.pk [1,0] rfl
 exact ⟨((decide (1≤p1.N)) && (decide (p1.N≤8))),hm,o.hs,u⟩
 replace hm:=ite_f hm hb18
 refine cfv o rfl hb18<|wk<|tn<|?_
 replace u:=u.pk [1,0] rfl
 exact ⟨(decide (p1.N=0)),hm,o.hs,u⟩
 rintro a w ⟨vA1,hm,o,u⟩
 unfold Z9x at hm
 refine th<|rg<|qv o (e_fa o fa51_0 rfl) fun a o=>qv o (e_ld o isAgg3 rfl ((St.ld u).cellB t0 rfl)) fun a o=>qv o (e_geq o rfl rfl) fun a o=>qm o rfl fun a o=>grp (N:=85) (Fk:=[(1,.pointer (some ⟨b12,0,none⟩)),(4,.func (.func 146) #[] #[.pointer (some ⟨b15,0,none⟩)]),(5,.func (.func 148) #[] #[]),(6,.func (.func 149) #[] #[]),(7,.bool vA1),(33,.bool ((decide (1≤p1.Kind)) && (decide (p1.Kind < 15))))]) (b:=(decide (1≤p1.Kind))) 4 u ?_ ?_ ?_
 intro hb key
 replace o:=Fr.as o (t:=29) rfl (congrArg Value.bool hb)
 refine qg o (e_fa o fa51_0 rfl) fun a o=>qg o (e_ld o isAgg3 rfl ((St.ld u).cellB t0 rfl)) fun a o=>qg o (e_lss o rfl rfl) fun a o=>qv o (e_as (v':=.bool ((decide (1≤p1.Kind)) && (decide (p1.Kind < 15)))) (e_pickT o rfl rfl) (by rw [hb];rfl)) fun a o=>?_
 exact key _ _ (o.hs) u
 intro hb key
 replace o:=Fr.as o (t:=29) rfl (congrArg Value.bool hb)
 iterate 3 refine qn o fun a o=>?_
 refine qv o (e_as (v':=.bool ((decide (1≤p1.Kind)) && (decide (p1.Kind < 15)))) (e_pickF o rfl rfl) (by rw [hb];rfl)) fun a o=>?_
 exact key _ _ (o.hs) u
 intro a w o u
 refine qm o rfl fun a o=>grp (N:=85) (Fk:=[(1,.pointer (some ⟨b12,0,none⟩)),(4,.func (.func 146) #[] #[.pointer (some ⟨b15,0,none⟩)]),(5,.func (.func 148) #[] #[]),(6,.func (.func 149) #[] #[]),(7,.bool vA1),(38,.bool (((decide (1≤p1.Kind)) && (decide (p1.Kind < 15))) && (decide (0≤p1.At))))]) (b:=((decide (1≤p1.Kind)) && (decide (p1.Kind < 15)))) 4 u ?_ ?_ ?_
 intro hb key
 replace o:=Fr.as o (t:=34) rfl (congrArg Value.bool hb)
 refine qg o (e_fa o fa51_8 rfl) fun a o=>qg o (e_ld o isAgg3 rfl ((St.ld u).cellB t0 rfl)) fun a o=>qg o (e_geq o rfl rfl) fun a o=>qv o (e_as (v':=.bool (((decide (1≤p1.Kind)) && (decide (p1.Kind < 15))) && (decide (0≤p1.At)))) (e_pickT o rfl rfl) (by rw [hb];rfl)) fun a o=>?_
 exact key _ _ (o.hs) u
 intro hb key
 replace o:=Fr.as o (t:=34) rfl (congrArg Value.bool hb)
 iterate 3 refine qn o fun a o=>?_
 refine qv o (e_as (v':=.bool (((decide (1≤p1.Kind)) && (decide (p1.Kind < 15))) && (decide (0≤p1.At)))) (e_pickF o rfl rfl) (by rw [hb];rfl)) fun a o=>?_
 exact key _ _ (o.hs) u
 intro a w o u
 refine qm o rfl fun a o=>grp (N:=85) (Fk:=[(1,.pointer (some ⟨b12,0,none⟩)),(4,.func (.func 146) #[] #[.pointer (some ⟨b15,0,none⟩)]),(5,.func (.func 148) #[] #[]),(6,.func (.func 149) #[] #[]),(7,.bool vA1),(43,.bool ((((decide (1≤p1.Kind)) && (decide (p1.Kind < 15))) && (decide (0≤p1.At))) && (decide (p1.At≤4000))))]) (b:=(((decide (1≤p1.Kind)) && (decide (p1.Kind < 15))) && (decide (0≤p1.At)))) 4 u ?_ ?_ ?_
 intro hb key
 replace o:=Fr.as o (t:=39) rfl (congrArg Value.bool hb)
 refine qg o (e_fa o fa51_8 rfl) fun a o=>qg o (e_ld o isAgg3 rfl ((St.ld u).cellB t0 rfl)) fun a o=>qg o (e_leq o rfl rfl) fun a o=>qv o (e_as (v':=.bool ((((decide (1≤p1.Kind)) && (decide (p1.Kind < 15))) && (decide (0≤p1.At))) && (decide (p1.At≤4000)))) (e_pickT o rfl rfl) (by rw [hb];rfl)) fun a o=>?_
 exact key _ _ (o.hs) u
 intro hb key
 replace o:=Fr.as o (t:=39) rfl (congrArg Value.bool hb)
 iterate 3 refine qn o fun a o=>?_
 refine qv o (e_as (v':=.bool ((((decide (1≤p1.Kind)) && (decide (p1.Kind < 15))) && (decide (0≤p1.At))) && (decide (p1.At≤4000)))) (e_pickF o rfl rfl) (by rw [hb];rfl)) fun a o=>?_
 exact key _ _ (o.hs) u
 intro a w o u
 refine qm o rfl fun a o=>grp (N:=85) (Fk:=[(1,.pointer (some ⟨b12,0,none⟩)),(4,.func (.func 146) #[] #[.pointer (some ⟨b15,0,none⟩)]),(5,.func (.func 148) #[] #[]),(6,.func (.func 149) #[] #[]),(46,.bool (((((decide (1≤p1.Kind)) && (decide (p1.Kind < 15))) && (decide (0≤p1.At))) && (decide (p1.At≤4000))) && vA1))]) (b:=((((decide (1≤p1.Kind)) && (decide (p1.Kind < 15))) && (decide (0≤p1.At))) && (decide (p1.At≤4000)))) 2 u ?_ ?_ ?_
 intro hb key
 replace o:=Fr.as o (t:=44) rfl (congrArg Value.bool hb)
 refine qg o (e_move o rfl) fun a o=>qv o (e_as (v':=.bool (((((decide (1≤p1.Kind)) && (decide (p1.Kind < 15))) && (decide (0≤p1.At))) && (decide (p1.At≤4000))) && vA1)) (e_pickT o rfl rfl) (by rw [hb];rfl)) fun a o=>?_
 exact key _ _ (o.hs) u
 intro hb key
 replace o:=Fr.as o (t:=44) rfl (congrArg Value.bool hb)
 refine qn o fun a o=>qv o (e_as (v':=.bool (((((decide (1≤p1.Kind)) && (decide (p1.Kind < 15))) && (decide (0≤p1.At))) && (decide (p1.At≤4000))) && vA1)) (e_pickF o rfl rfl) (by rw [hb];rfl)) fun a o=>?_
 exact key _ _ (o.hs) u
 intro a w o u
 refine qa o rfl fun a o=>re<|tn<|th<|?_
 rcases bdich (((((decide (1≤p1.Kind)) && (decide (p1.Kind < 15))) && (decide (0≤p1.At))) && (decide (p1.At≤4000))) && vA1) with hb19 | hb19
 replace hm:=ite_t hm hb19
 have hb19':(!(((((decide (1≤p1.Kind)) && (decide (p1.Kind < 15))) && (decide (0≤p1.At))) && (decide (p1.At≤4000))) && vA1))=false:=by rw [hb19];rfl
 obtain ⟨r20,h21,hm⟩:=bs hm
 obtain ⟨r22,h23,hm⟩:=bs hm
 rcases bdich r22 with hb24 | hb24
 replace hm:=ite_t hm hb24
 have hb24':(!r22)=false:=by rw [hb24];rfl
 obtain ⟨r25,h26,hm⟩:=bs hm
 obtain ⟨r27,h28,hm⟩:=bs hm
 rcases bdich r27 with hb29 | hb29
 replace hm:=ite_t hm hb29
 have hb29':(!r27)=false:=by rw [hb29];rfl
 obtain ⟨r30,h31,hm⟩:=bs hm
 obtain ⟨r32,h33,hm⟩:=bs hm
 rcases bdich r32 with hb34 | hb34
 replace hm:=ite_t hm hb34
 have hb34':(!r32)=false:=by rw [hb34];rfl
 obtain ⟨r35,h36,hm⟩:=bs hm
 obtain ⟨r37,h38,hm⟩:=bs hm
 refine rdS 39 u wide fun w u=>dr 0 u o rfl (e_move o rfl) fun a o=>dr 1 u o rfl (e_not o rfl) fun a o=>dr 2 u o rfl (e_as (e_move o rfl) (congrArg Value.bool hb19')) fun a o=>dg 3 (St.ld u) o rfl (fun w hl=>e_move o rfl) fun a o=>dg 4 (St.ld u) o rfl (fun w hl=>e_move o rfl) fun a o=>dg 6 (St.ld u) o rfl (fun w hl=>e_fa o fa51_1 rfl) fun a o=>dg 7 (St.ld u) o rfl (fun w hl=>e_ld o isAgg9 rfl (hl.cellB t0 rfl)) fun a o=>da1 (i:=5) (by kernel_rfl) ?_
 refine di (i:=5) rfl<|gy o rfl rfl<|k1 (vs:=[strv [114]]) (caps:=[.pointer (some ⟨b15,0,none⟩)]) o rfl rfl call146 (Z9u_c (hp_le _) (Tab.mono hT (St.up u)) (St.blkO u t1) h21) ⟨rfl,trivial⟩ rfl (fun v w a hR o=>?_)
 obtain ⟨rfl,hk⟩:=hR
 replace u:=u.pass hk
 refine ⟨fun _=>(St.ld u),?_⟩
 refine da1 (i:=8) (by kernel_rfl) ?_
 refine di (i:=8) rfl<|gy o rfl rfl<|k1 (vs:=[.bool r20,strv p1.Reg]) (caps:=[]) o rfl rfl call148 (Z9v_c (hp_le _) (Tab.mono hT (St.up u)) h23) ⟨rfl,rfl,trivial⟩ rfl (fun v w a hR o=>?_)
 obtain ⟨rfl,hk⟩:=hR
 replace u:=u.pass hk
 refine ⟨fun _=>(St.ld u),?_⟩
 refine dg 9 (St.ld u) o rfl (fun w hl=>e_not o rfl) fun a o=>dr 10 u o rfl (e_pickF o rfl rfl) fun a o=>dr 11 u o rfl (e_as (e_move o rfl) (congrArg Value.bool hb24')) fun a o=>dg 12 (St.ld u) o rfl (fun w hl=>e_move o rfl) fun a o=>dg 13 (St.ld u) o rfl (fun w hl=>e_move o rfl) fun a o=>dg 15 (St.ld u) o rfl (fun w hl=>e_fa o fa51_2 rfl) fun a o=>dg 16 (St.ld u) o rfl (fun w hl=>e_ld o isAgg9 rfl (hl.cellB t0 rfl)) fun a o=>da1 (i:=14) (by kernel_rfl) ?_
 refine di (i:=14) rfl<|gy o rfl rfl<|k1 (vs:=[strv [110]]) (caps:=[.pointer (some ⟨b15,0,none⟩)]) o rfl rfl call146 (Z9u_c (hp_le _) (Tab.mono hT (St.up u)) (St.blkO u t1) h26) ⟨rfl,trivial⟩ rfl (fun v w a hR o=>?_)
 obtain ⟨rfl,hk⟩:=hR
 replace u:=u.pass hk
 refine ⟨fun _=>(St.ld u),?_⟩
 refine da1 (i:=17) (by kernel_rfl) ?_
 refine di (i:=17) rfl<|gy o rfl rfl<|k1 (vs:=[.bool r25,strv p1.Name]) (caps:=[]) o rfl rfl call148 (Z9v_c (hp_le _) (Tab.mono hT (St.up u)) h28) ⟨rfl,rfl,trivial⟩ rfl (fun v w a hR o=>?_)
 obtain ⟨rfl,hk⟩:=hR
 replace u:=u.pass hk
 refine ⟨fun _=>(St.ld u),?_⟩
 refine dg 18 (St.ld u) o rfl (fun w hl=>e_not o rfl) fun a o=>dr 19 u o rfl (e_pickF o rfl rfl) fun a o=>dr 20 u o rfl (e_as (e_move o rfl) (congrArg Value.bool hb29')) fun a o=>dg 21 (St.ld u) o rfl (fun w hl=>e_move o rfl) fun a o=>dg 22 (St.ld u) o rfl (fun w hl=>e_move o rfl) fun a o=>dg 24 (St.ld u) o rfl (fun w hl=>e_fa o fa51_3 rfl) fun a o=>dg 25 (St.ld u) o rfl (fun w hl=>e_ld o isAgg49 rfl (hl.cellB t0 rfl)) fun a o=>da1 (i:=23) (by kernel_rfl) ?_
 refine di (i:=23) rfl<|gy o rfl rfl<|k1 (vs:=[strv [101]]) (caps:=[.pointer (some ⟨b15,0,none⟩)]) o rfl rfl call146 (Z9u_c (hp_le _) (Tab.mono hT (St.up u)) (St.blkO u t1) h31) ⟨rfl,trivial⟩ rfl (fun v w a hR o=>?_)
 obtain ⟨rfl,hk⟩:=hR
 replace u:=u.pass hk
 refine ⟨fun _=>(St.ld u),?_⟩
 refine da1 (i:=26) (by kernel_rfl) ?_
 refine di (i:=26) rfl<|gy o rfl rfl<|k1 (vs:=[.bool r30,.slice oa4 p1.E.length cap5]) (caps:=[]) o rfl rfl call149 (Z9w_c (hp_le _) (Tab.mono hT (St.up u)) hc6 (St.srH u hr7) h33) ⟨rfl,rfl,trivial⟩ rfl (fun v w a hR o=>?_)
 obtain ⟨rfl,hk⟩:=hR
 replace u:=u.pass hk
 refine ⟨fun _=>(St.ld u),?_⟩
 refine dg 27 (St.ld u) o rfl (fun w hl=>e_not o rfl) fun a o=>dr 28 u o rfl (e_pickF o rfl rfl) fun a o=>dr 29 u o rfl (e_as (e_move o rfl) (congrArg Value.bool hb34')) fun a o=>dg 30 (St.ld u) o rfl (fun w hl=>e_move o rfl) fun a o=>dg 31 (St.ld u) o rfl (fun w hl=>e_move o rfl) fun a o=>dg 33 (St.ld u) o rfl (fun w hl=>e_fa o fa51_4 rfl) fun a o=>dg 34 (St.ld u) o rfl (fun w hl=>e_ld o isAgg49 rfl (hl.cellB t0 rfl)) fun a o=>da1 (i:=32) (by kernel_rfl) ?_
 refine di (i:=32) rfl<|gy o rfl rfl<|k1 (vs:=[strv [102]]) (caps:=[.pointer (some ⟨b15,0,none⟩)]) o rfl rfl call146 (Z9u_c (hp_le _) (Tab.mono hT (St.up u)) (St.blkO u t1) h36) ⟨rfl,trivial⟩ rfl (fun v w a hR o=>?_)
 obtain ⟨rfl,hk⟩:=hR
 replace u:=u.pass hk
 refine ⟨fun _=>(St.ld u),?_⟩
 refine da1 (i:=35) (by kernel_rfl) ?_
 refine di (i:=35) rfl<|gy o rfl rfl<|k1 (vs:=[.bool r35,.slice oa8 p1.F.length cap9]) (caps:=[]) o rfl rfl call149 (Z9w_c (hp_le _) (Tab.mono hT (St.up u)) hc10 (St.srH u hr11) h38) ⟨rfl,rfl,trivial⟩ rfl (fun v w a hR o=>?_)
 obtain ⟨rfl,hk⟩:=hR
 replace u:=u.pass hk
 refine ⟨fun _=>(St.ld u),?_⟩
 refine dg 36 (St.ld u) o rfl (fun w hl=>e_not o rfl) fun a o=>dr 37 u o rfl (e_pickF o rfl rfl) fun a o=>dr 38 u o rfl (e_asg o rfl) fun a o=>de (by kernel_rfl)<|tn<|wr<|?_
 obtain rfl:=si hm
 exact r1 o results110 rfl ⟨rfl,u.keep⟩
 replace hm:=ite_f hm hb34
 have hb34':(!r32)=true:=by rw [hb34];rfl
 refine rdS 39 u wide fun w u=>dr 0 u o rfl (e_move o rfl) fun a o=>dr 1 u o rfl (e_not o rfl) fun a o=>dr 2 u o rfl (e_as (e_move o rfl) (congrArg Value.bool hb19')) fun a o=>dg 3 (St.ld u) o rfl (fun w hl=>e_move o rfl) fun a o=>dg 4 (St.ld u) o rfl (fun w hl=>e_move o rfl) fun a o=>dg 6 (St.ld u) o rfl (fun w hl=>e_fa o fa51_1 rfl) fun a o=>dg 7 (St.ld u) o rfl (fun w hl=>e_ld o isAgg9 rfl (hl.cellB t0 rfl)) fun a o=>da1 (i:=5) (by kernel_rfl) ?_
 refine di (i:=5) rfl<|gy o rfl rfl<|k1 (vs:=[strv [114]]) (caps:=[.pointer (some ⟨b15,0,none⟩)]) o rfl rfl call146 (Z9u_c (hp_le _) (Tab.mono hT (St.up u)) (St.blkO u t1) h21) ⟨rfl,trivial⟩ rfl (fun v w a hR o=>?_)
 obtain ⟨rfl,hk⟩:=hR
 replace u:=u.pass hk
 refine ⟨fun _=>(St.ld u),?_⟩
 refine da1 (i:=8) (by kernel_rfl) ?_
 refine di (i:=8) rfl<|gy o rfl rfl<|k1 (vs:=[.bool r20,strv p1.Reg]) (caps:=[]) o rfl rfl call148 (Z9v_c (hp_le _) (Tab.mono hT (St.up u)) h23) ⟨rfl,rfl,trivial⟩ rfl (fun v w a hR o=>?_)
 obtain ⟨rfl,hk⟩:=hR
 replace u:=u.pass hk
 refine ⟨fun _=>(St.ld u),?_⟩
 refine dg 9 (St.ld u) o rfl (fun w hl=>e_not o rfl) fun a o=>dr 10 u o rfl (e_pickF o rfl rfl) fun a o=>dr 11 u o rfl (e_as (e_move o rfl) (congrArg Value.bool hb24')) fun a o=>dg 12 (St.ld u) o rfl (fun w hl=>e_move o rfl) fun a o=>dg 13 (St.ld u) o rfl (fun w hl=>e_move o rfl) fun a o=>dg 15 (St.ld u) o rfl (fun w hl=>e_fa o fa51_2 rfl) fun a o=>dg 16 (St.ld u) o rfl (fun w hl=>e_ld o isAgg9 rfl (hl.cellB t0 rfl)) fun a o=>da1 (i:=14) (by kernel_rfl) ?_
 refine di (i:=14) rfl<|gy o rfl rfl<|k1 (vs:=[strv [110]]) (caps:=[.pointer (some ⟨b15,0,none⟩)]) o rfl rfl call146 (Z9u_c (hp_le _) (Tab.mono hT (St.up u)) (St.blkO u t1) h26) ⟨rfl,trivial⟩ rfl (fun v w a hR o=>?_)
 obtain ⟨rfl,hk⟩:=hR
 replace u:=u.pass hk
 refine ⟨fun _=>(St.ld u),?_⟩
 refine da1 (i:=17) (by kernel_rfl) ?_
 refine di (i:=17) rfl<|gy o rfl rfl<|k1 (vs:=[.bool r25,strv p1.Name]) (caps:=[]) o rfl rfl call148 (Z9v_c (hp_le _) (Tab.mono hT (St.up u)) h28) ⟨rfl,rfl,trivial⟩ rfl (fun v w a hR o=>?_)
 obtain ⟨rfl,hk⟩:=hR
 replace u:=u.pass hk
 refine ⟨fun _=>(St.ld u),?_⟩
 refine dg 18 (St.ld u) o rfl (fun w hl=>e_not o rfl) fun a o=>dr 19 u o rfl (e_pickF o rfl rfl) fun a o=>dr 20 u o rfl (e_as (e_move o rfl) (congrArg Value.bool hb29')) fun a o=>dg 21 (St.ld u) o rfl (fun w hl=>e_move o rfl) fun a o=>dg 22 (St.ld u) o rfl (fun w hl=>e_move o rfl) fun a o=>dg 24 (St.ld u) o rfl (fun w hl=>e_fa o fa51_3 rfl) fun a o=>dg 25 (St.ld u) o rfl (fun w hl=>e_ld o isAgg49 rfl (hl.cellB t0 rfl)) fun a o=>da1 (i:=23) (by kernel_rfl) ?_
 refine di (i:=23) rfl<|gy o rfl rfl<|k1 (vs:=[strv [101]]) (caps:=[.pointer (some ⟨b15,0,none⟩)]) o rfl rfl call146 (Z9u_c (hp_le _) (Tab.mono hT (St.up u)) (St.blkO u t1) h31) ⟨rfl,trivial⟩ rfl (fun v w a hR o=>?_)
 obtain ⟨rfl,hk⟩:=hR
 replace u:=u.pass hk
 refine ⟨fun _=>(St.ld u),?_⟩
 refine da1 (i:=26) (by kernel_rfl) ?_
 refine di (i:=26) rfl<|gy o rfl rfl<|k1 (vs:=[.bool r30,.slice oa4 p1.E.length cap5]) (caps:=[]) o rfl rfl call149 (Z9w_c (hp_le _) (Tab.mono hT (St.up u)) hc6 (St.srH u hr7) h33) ⟨rfl,rfl,trivial⟩ rfl (fun v w a hR o=>?_)
 obtain ⟨rfl,hk⟩:=hR
 replace u:=u.pass hk
 refine ⟨fun _=>(St.ld u),?_⟩
 refine dg 27 (St.ld u) o rfl (fun w hl=>e_not o rfl) fun a o=>dr 28 u o rfl (e_pickF o rfl rfl) fun a o=>dr 29 u o rfl (e_as (e_move o rfl) (congrArg Value.bool hb34')) fun a o=>dn 30 (St.ld u) o rfl fun a o=>dn 31 (St.ld u) o rfl fun a o=>dn 32 (St.ld u) o rfl fun a o=>dn 33 (St.ld u) o rfl fun a o=>dn 34 (St.ld u) o rfl fun a o=>dn 35 (St.ld u) o rfl fun a o=>dn 36 (St.ld u) o rfl fun a o=>dr 37 u o rfl (e_pickT o rfl rfl) fun a o=>dr 38 u o rfl (e_asg o rfl) fun a o=>de (by kernel_rfl)<|tn<|wr<|?_
 obtain rfl:=si hm
 exact r1 o results110 rfl ⟨rfl,u.keep⟩
 replace hm:=ite_f hm hb29
 have hb29':(!r27)=true:=by rw [hb29];rfl
 refine rdS 39 u wide fun w u=>dr 0 u o rfl (e_move o rfl) fun a o=>dr 1 u o rfl (e_not o rfl) fun a o=>dr 2 u o rfl (e_as (e_move o rfl) (congrArg Value.bool hb19')) fun a o=>dg 3 (St.ld u) o rfl (fun w hl=>e_move o rfl) fun a o=>dg 4 (St.ld u) o rfl (fun w hl=>e_move o rfl) fun a o=>dg 6 (St.ld u) o rfl (fun w hl=>e_fa o fa51_1 rfl) fun a o=>dg 7 (St.ld u) o rfl (fun w hl=>e_ld o isAgg9 rfl (hl.cellB t0 rfl)) fun a o=>da1 (i:=5) (by kernel_rfl) ?_
 refine di (i:=5) rfl<|gy o rfl rfl<|k1 (vs:=[strv [114]]) (caps:=[.pointer (some ⟨b15,0,none⟩)]) o rfl rfl call146 (Z9u_c (hp_le _) (Tab.mono hT (St.up u)) (St.blkO u t1) h21) ⟨rfl,trivial⟩ rfl (fun v w a hR o=>?_)
 obtain ⟨rfl,hk⟩:=hR
 replace u:=u.pass hk
 refine ⟨fun _=>(St.ld u),?_⟩
 refine da1 (i:=8) (by kernel_rfl) ?_
 refine di (i:=8) rfl<|gy o rfl rfl<|k1 (vs:=[.bool r20,strv p1.Reg]) (caps:=[]) o rfl rfl call148 (Z9v_c (hp_le _) (Tab.mono hT (St.up u)) h23) ⟨rfl,rfl,trivial⟩ rfl (fun v w a hR o=>?_)
 obtain ⟨rfl,hk⟩:=hR
 replace u:=u.pass hk
 refine ⟨fun _=>(St.ld u),?_⟩
 refine dg 9 (St.ld u) o rfl (fun w hl=>e_not o rfl) fun a o=>dr 10 u o rfl (e_pickF o rfl rfl) fun a o=>dr 11 u o rfl (e_as (e_move o rfl) (congrArg Value.bool hb24')) fun a o=>dg 12 (St.ld u) o rfl (fun w hl=>e_move o rfl) fun a o=>dg 13 (St.ld u) o rfl (fun w hl=>e_move o rfl) fun a o=>dg 15 (St.ld u) o rfl (fun w hl=>e_fa o fa51_2 rfl) fun a o=>dg 16 (St.ld u) o rfl (fun w hl=>e_ld o isAgg9 rfl (hl.cellB t0 rfl)) fun a o=>da1 (i:=14) (by kernel_rfl) ?_
 refine di (i:=14) rfl<|gy o rfl rfl<|k1 (vs:=[strv [110]]) (caps:=[.pointer (some ⟨b15,0,none⟩)]) o rfl rfl call146 (Z9u_c (hp_le _) (Tab.mono hT (St.up u)) (St.blkO u t1) h26) ⟨rfl,trivial⟩ rfl (fun v w a hR o=>?_)
 obtain ⟨rfl,hk⟩:=hR
 replace u:=u.pass hk
 refine ⟨fun _=>(St.ld u),?_⟩
 refine da1 (i:=17) (by kernel_rfl) ?_
 refine di (i:=17) rfl<|gy o rfl rfl<|k1 (vs:=[.bool r25,strv p1.Name]) (caps:=[]) o rfl rfl call148 (Z9v_c (hp_le _) (Tab.mono hT (St.up u)) h28) ⟨rfl,rfl,trivial⟩ rfl (fun v w a hR o=>?_)
 obtain ⟨rfl,hk⟩:=hR
 replace u:=u.pass hk
 refine ⟨fun _=>(St.ld u),?_⟩
 refine dg 18 (St.ld u) o rfl (fun w hl=>e_not o rfl) fun a o=>dr 19 u o rfl (e_pickF o rfl rfl) fun a o=>dr 20 u o rfl (e_as (e_move o rfl) (congrArg Value.bool hb29')) fun a o=>dn 21 (St.ld u) o rfl fun a o=>dn 22 (St.ld u) o rfl fun a o=>dn 23 (St.ld u) o rfl fun a o=>dn 24 (St.ld u) o rfl fun a o=>dn 25 (St.ld u) o rfl fun a o=>dn 26 (St.ld u) o rfl fun a o=>dn 27 (St.ld u) o rfl fun a o=>dr 28 u o rfl (e_pickT o rfl rfl) fun a o=>dr 29 u o rfl (e_move o rfl) fun a o=>dn 30 (St.ld u) o rfl fun a o=>dn 31 (St.ld u) o rfl fun a o=>dn 32 (St.ld u) o rfl fun a o=>dn 33 (St.ld u) o rfl fun a o=>dn 34 (St.ld u) o rfl fun a o=>dn 35 (St.ld u) o rfl fun a o=>dn 36 (St.ld u) o rfl fun a o=>dr 37 u o rfl (e_pickT o rfl rfl) fun a o=>dr 38 u o rfl (e_asg o rfl) fun a o=>de (by kernel_rfl)<|tn<|wr<|?_
 obtain rfl:=si hm
 exact r1 o results110 rfl ⟨rfl,u.keep⟩
 replace hm:=ite_f hm hb24
 have hb24':(!r22)=true:=by rw [hb24];rfl
 refine rdS 39 u wide fun w u=>dr 0 u o rfl (e_move o rfl) fun a o=>dr 1 u o rfl (e_not o rfl) fun a o=>dr 2 u o rfl (e_as (e_move o rfl) (congrArg Value.bool hb19')) fun a o=>dg 3 (St.ld u) o rfl (fun w hl=>e_move o rfl) fun a o=>dg 4 (St.ld u) o rfl (fun w hl=>e_move o rfl) fun a o=>dg 6 (St.ld u) o rfl (fun w hl=>e_fa o fa51_1 rfl) fun a o=>dg 7 (St.ld u) o rfl (fun w hl=>e_ld o isAgg9 rfl (hl.cellB t0 rfl)) fun a o=>da1 (i:=5) (by kernel_rfl) ?_
 refine di (i:=5) rfl<|gy o rfl rfl<|k1 (vs:=[strv [114]]) (caps:=[.pointer (some ⟨b15,0,none⟩)]) o rfl rfl call146 (Z9u_c (hp_le _) (Tab.mono hT (St.up u)) (St.blkO u t1) h21) ⟨rfl,trivial⟩ rfl (fun v w a hR o=>?_)
 obtain ⟨rfl,hk⟩:=hR
 replace u:=u.pass hk
 refine ⟨fun _=>(St.ld u),?_⟩
 refine da1 (i:=8) (by kernel_rfl) ?_
 refine di (i:=8) rfl<|gy o rfl rfl<|k1 (vs:=[.bool r20,strv p1.Reg]) (caps:=[]) o rfl rfl call148 (Z9v_c (hp_le _) (Tab.mono hT (St.up u)) h23) ⟨rfl,rfl,trivial⟩ rfl (fun v w a hR o=>?_)
 obtain ⟨rfl,hk⟩:=hR
 replace u:=u.pass hk
 refine ⟨fun _=>(St.ld u),?_⟩
 refine dg 9 (St.ld u) o rfl (fun w hl=>e_not o rfl) fun a o=>dr 10 u o rfl (e_pickF o rfl rfl) fun a o=>dr 11 u o rfl (e_as (e_move o rfl) (congrArg Value.bool hb24')) fun a o=>dn 12 (St.ld u) o rfl fun a o=>dn 13 (St.ld u) o rfl fun a o=>dn 14 (St.ld u) o rfl fun a o=>dn 15 (St.ld u) o rfl fun a o=>dn 16 (St.ld u) o rfl fun a o=>dn 17 (St.ld u) o rfl fun a o=>dn 18 (St.ld u) o rfl fun a o=>dr 19 u o rfl (e_pickT o rfl rfl) fun a o=>dr 20 u o rfl (e_move o rfl) fun a o=>dn 21 (St.ld u) o rfl fun a o=>dn 22 (St.ld u) o rfl fun a o=>dn 23 (St.ld u) o rfl fun a o=>dn 24 (St.ld u) o rfl fun a o=>dn 25 (St.ld u) o rfl fun a o=>dn 26 (St.ld u) o rfl fun a o=>dn 27 (St.ld u) o rfl fun a o=>dr 28 u o rfl (e_pickT o rfl rfl) fun a o=>dr 29 u o rfl (e_move o rfl) fun a o=>dn 30 (St.ld u) o rfl fun a o=>dn 31 (St.ld u) o rfl fun a o=>dn 32 (St.ld u) o rfl fun a o=>dn 33 (St.ld u) o rfl fun a o=>dn 34 (St.ld u) o rfl fun a o=>dn 35 (St.ld u) o rfl fun a o=>dn 36 (St.ld u) o rfl fun a o=>dr 37 u o rfl (e_pickT o rfl rfl) fun a o=>dr 38 u o rfl (e_asg o rfl) fun a o=>de (by kernel_rfl)<|?_
 refine tn<|wr<|?_
 obtain rfl:=si hm
 exact r1 o results110 rfl ⟨rfl,u.keep⟩
 replace hm:=ite_f hm hb19
 have hb19':(!(((((decide (1≤p1.Kind)) && (decide (p1.Kind < 15))) && (decide (0≤p1.At))) && (decide (p1.At≤4000))) && vA1))=true:=by rw [hb19];rfl
 refine rxS 39 u wide (by kernel_rfl) fun w u=>xm u o rfl fun a o=>xr u o (e_not o rfl) fun a o=>xr u o (e_as (e_move o rfl) (congrArg Value.bool hb19')) fun a o=>?_
 iterate 7 refine xn (St.ld u) o fun a o=>?_
 refine xr u o (e_pickT o rfl rfl) fun a o=>xm u o rfl fun a o=>?_
 iterate 7 refine xn (St.ld u) o fun a o=>?_
 refine xr u o (e_pickT o rfl rfl) fun a o=>xm u o rfl fun a o=>?_
 iterate 7 refine xn (St.ld u) o fun a o=>?_
 refine xr u o (e_pickT o rfl rfl) fun a o=>xm u o rfl fun a o=>?_
 iterate 7 refine xn (St.ld u) o fun a o=>?_
 refine xr u o (e_pickT o rfl rfl) fun a o=>xr u o (e_asg o rfl) fun a o=>xe<|tn<|wr<|?_
 obtain rfl:=si hm
 exact r1 o results110 rfl ⟨rfl,u.keep⟩
theorem Z8z_c (hH:H.le w0) (hT:Tab H) {oa2:Option Addr} {cap3:Nat} {p1:(List api_Stmt)} (_:p1.length≤cap3) (hr5:SR H oa2 p1) {r:Int} (hm:Z8z N p1=some r):Tot Tryz.prog 144 #[.slice oa2 p1.length cap3,.func (.func 110) #[] #[]] w0 (fun v w'=>v=i6 r∧Keep Nil w0 w'):=by
 unfold Z8z at hm
 refine fn0 func144 rfl ntmps144 rfl rfl fun a o=>?_
 have u:St w0 Nil [H] [] w0:=start1 hH
 refine th<|rg<|qa o rfl fun a o=>re<|tn<|th<|th<|rg<|qm o rfl fun a o=>qv o (e_lenL (α:=api_Stmt) (xs:=p1) o runUnderlying46 rfl) fun a o=>qm o rfl fun a o=>re<|tn<|midK (fun a w=>Z90=some r∧Fr 19 [] a∧St w0 Nil [H] [] w) ?_ ?_
 refine wb<|lp (α:=Nat×Int) (fun gh a w=>match gh with | (nn2,vB1)=>(Z91 N Z90 p1) nn2 vB1=some r∧Fr 19 [(0,.slice oa2 p1.length cap3),(1,.func (.func 110) #[] #[]),(7,i6 (p1.length:Int)),(8,i6 vB1)] a∧St w0 Nil [H] [] w) (fun gh=>gh.1) (N,0) ⟨hm,o.hs,u⟩ ?_
 rintro ⟨nn2,vB1⟩ a w ⟨hm,o,u⟩
 obtain _ | nn2:=nn2
 simp [Z91] at hm
 rw [Z91] at hm
 refine th<|rg<|qv o (e_lss o rfl rfl) fun a o=>re<|?_
 rcases bdich (decide (vB1 < (p1.length:Int))) with hb6 | hb6
 replace hm:=itp_t hm hb6
 refine tn<|th<|ctv o rfl hb6<|wk<|tn<|th<|wb<|th<|rg<|qm o rfl fun a o=>qa o rfl fun a o=>re<|tn<|th<|?_
 obtain ⟨xz7,h8,hm⟩:=bs hm
 obtain ⟨cz9,g10,hl11⟩:=SR.get hr5 h8
 obtain ⟨oa12,cap13,oa16,cap17,rfl,hc14,hr15,hc18,hr19⟩:=api_Stmt_open g10
 obtain ⟨r20,h21,hm⟩:=bs hm
 refine rg<|qm o rfl fun a o=>?_
 iterate 2 refine qm o rfl fun a o=>?_
 refine qv o (e_iaI o runUnderlying46 sizeOf51 rfl rfl h8 (SR.oaI hr5 (by decide) h8)) fun a o=>qv o (e_ldA o isAgg51 sizeOf51 rfl rfl (fun j v hj=>PH.le.cell (Lds.le (St.ld u)) (hl11 j v hj))) fun a o=>ls<|k1 (vs:=[.agg #[i6 xz7.Kind,strv xz7.Reg,strv xz7.Name,.slice oa12 xz7.E.length cap13,.slice oa16 xz7.F.length cap17,i6 xz7.N,i6 xz7.Body,i6 xz7.Else,i6 xz7.At]]) (caps:=[]) o rfl rfl call110 (Z9t_c (hp_le _) (Tab.mono hT (St.up u)) (Enc.mono (St.up u) (show Enc.rep (α:=api_Stmt) H [i6 xz7.Kind,strv xz7.Reg,strv xz7.Name,.slice oa12 xz7.E.length cap13,.slice oa16 xz7.F.length cap17,i6 xz7.N,i6 xz7.Body,i6 xz7.Else,i6 xz7.At] xz7 from ⟨_,_,rfl,rfl,⟨_,_,rfl,rfl,⟨_,_,rfl,rfl,⟨_,_,rfl,⟨_,_,rfl,hc14,hr15⟩,⟨_,_,rfl,⟨_,_,rfl,hc18,hr19⟩,⟨_,_,rfl,rfl,⟨_,_,rfl,rfl,⟨_,_,rfl,rfl,rfl⟩⟩⟩⟩⟩⟩⟩⟩)) h21) ⟨rfl,trivial⟩ rfl (fun v w a hR o=>?_)
 obtain ⟨rfl,hk⟩:=hR
 replace u:=u.pass hk
 refine re<|?_
 rcases bdich r20 with hb22 | hb22
 replace hm:=ite_t hm hb22
 refine tn<|ctv o rfl hb22<|th<|rg<|qm o rfl fun a o=>qa o rfl fun a o=>re<|tn<|wr<|br<|tr<|tr<|br<|tr<|?_
 obtain rfl:=si hm
 exact r1 o results144 rfl ⟨rfl,u.keep⟩
 replace hm:=ite_f hm hb22
 refine tn<|cfv o rfl hb22<|wk<|bn<|tn<|rg<|qv o (e_add o rfl rfl) fun a o=>qm o rfl fun a o=>re<|tn<|?_
 exact ⟨(nn2,(IntKind.i64.wrap (vB1+1))),⟨hm,o.hs,u⟩,Nat.lt_succ_self _⟩
 replace hm:=itp_f hm hb6
 refine tn<|th<|cfv o rfl hb6<|we<|tx<|tx<|bx<|tn<|?_
 exact ⟨hm,o.has trivial,u⟩
 rintro a w ⟨hm,o,u⟩
 unfold Z90 at hm
 refine th<|rg<|qa o rfl fun a o=>re<|tn<|wr<|?_
 obtain rfl:=si hm
 exact r1 o results144 rfl ⟨rfl,u.keep⟩
theorem Z8e_c (hH:H.le w0) (hT:Tab H) {oa2:Option Addr} {cap3:Nat} {p1:(List api_Stmt)} (hc4:p1.length≤cap3) (hr5:SR H oa2 p1) {r:Bool} (hm:Z8e N p1=some r):Tot Tryz.prog 109 #[.slice oa2 p1.length cap3,.func (.func 110) #[] #[]] w0 (fun v w'=>v=.bool r∧Keep Nil w0 w'):=by
 unfold Z8e at hm
 refine fn0 func109 rfl ntmps109 rfl rfl fun a o=>?_
 have u:St w0 Nil [H] [] w0:=start1 hH
 refine th<|rg<|qa o rfl fun a o=>re<|tn<|th<|?_
 obtain ⟨rz6,h7,hm⟩:=bs hm
 refine rg<|qm o rfl fun a o=>qm o rfl fun a o=>ls<|cq o call144 (Z8z_c (hp_le _) (Tab.mono hT (St.up u)) hc4 (St.srH u hr5) h7) ⟨rfl,rfl,trivial⟩ u fun w a u o=>qv o (e_geq o rfl rfl) fun a o=>qa o rfl fun a o=>re<|tn<|wr<|?_
 obtain rfl:=si hm
 exact r1 o results109 rfl ⟨rfl,u.keep⟩
theorem Z9y_c (hH:H.le w0) {p1:Bool} {r:Int} (hm:Z9y N p1=some r):Tot Tryz.prog 150 #[.bool p1] w0 (fun v w'=>v=i6 r∧Keep Nil w0 w'):=by
 unfold Z9y at hm
 refine fn0 func150 rfl ntmps150 rfl rfl fun a o=>?_
 have u:St w0 Nil [H] [] w0:=start1 hH
 refine th<|rg<|qa o rfl fun a o=>re<|tn<|th<|th<|rg<|qm o rfl fun a o=>re<|?_
 rcases bdich p1 with hb2 | hb2
 replace hm:=ite_t hm hb2
 refine tn<|ctv o rfl hb2<|th<|rg<|qa o rfl fun a o=>re<|tn<|wr<|tr<|?_
 obtain rfl:=si hm
 exact r1 o results150 rfl ⟨rfl,u.keep⟩
 replace hm:=ite_f hm hb2
 refine tn<|cfv o rfl hb2<|wk<|tn<|th<|rg<|qa o rfl fun a o=>re<|tn<|wr<|?_
 obtain rfl:=si hm
 exact r1 o results150 rfl ⟨rfl,u.keep⟩
set_option maxHeartbeats 4000000 in
theorem Z9n_c:∀ (N:Nat) {w0:World} {H:PH} (_:H.le w0) {oa2:Option Addr} {cap3:Nat} {p1:(List api_Stmt)} (_:p1.length≤cap3) (_:SR H oa2 p1) {p6:Int} {r:Int} (_:Z9n N p1 p6=some r),Tot Tryz.prog 111 #[.slice oa2 p1.length cap3,i6 p6] w0 (fun v w'=>v=i6 r∧Keep Nil w0 w'):=by
 intro N
 induction N with
  | zero=>intros;rename_i hm;simp [Z9n] at hm
  | succ N ih=>
 intro w0 H hH oa2 cap3 p1 hc4 hr5 p6 r hm
 rw [Z9n] at hm
 refine fn0 func111 rfl ntmps111 rfl rfl fun a o=>?_
 have u:St w0 Nil [H] [] w0:=start1 hH
 refine th<|rg<|qa o rfl fun a o=>re<|tn<|th<|rg<|qa o rfl fun a o=>re<|tn<|th<|th<|rg<|qa o rfl fun a o=>re<|tn<|midK (fun a w=>∃ (vA1:Int),Z9o vA1=some r∧Fr 131 [(5,i6 vA1)] a∧St w0 Nil [H] [] w) ?_ ?_
 refine wb<|lp (α:=Nat×Int×Int) (fun gh a w=>match gh with | (nn2,vB1,vB2)=>(Z9r (Z9n N) N Z9o p1 p6) nn2 vB1 vB2=some r∧Fr 131 [(0,.slice oa2 p1.length cap3),(1,i6 p6),(5,i6 vB1),(6,i6 vB2)] a∧St w0 Nil [H] [] w) (fun gh=>gh.1) (N,0,0) ⟨hm,o.hs,u⟩ ?_
 rintro ⟨nn2,vB1,vB2⟩ a w ⟨hm,o,u⟩
 obtain _ | nn2:=nn2
 simp [Z9r] at hm
 rw [Z9r] at hm
 refine th<|th<|rg<|qm o rfl fun a o=>qm o rfl fun a o=>qv o (e_lenL (α:=api_Stmt) (xs:=p1) o runUnderlying46 rfl) fun a o=>qv o (e_lss o rfl rfl) fun a o=>re<|?_
 rcases bdich (decide (vB2 < (p1.length:Int))) with hb7 | hb7
 replace hm:=itp_t hm hb7
 refine tn<|ctv o rfl hb7<|wk<|tn<|wb<|th<|?_
 obtain ⟨xz8,h9,hm⟩:=bs hm
 obtain ⟨c10,g11,hl12⟩:=SR.get hr5 h9
 obtain ⟨oa13,cap14,oa17,cap18,rfl,hc15,hr16,hc19,hr20⟩:=api_Stmt_open g11
 refine rg<|qm o rfl fun a o=>qm o rfl fun a o=>qv o (e_iaI o runUnderlying46 sizeOf51 rfl rfl h9 (SR.oaI hr5 (by decide) h9)) fun a o=>qv o (e_ldA o isAgg51 sizeOf51 rfl rfl (fun j v hj=>PH.le.cell (Lds.le (St.ld u)) (hl12 j v hj))) fun a o=>ls<|a_alloc (cs:=[i6 0,strv [],strv [],.slice none 0 0,.slice none 0 0,i6 0,i6 0,i6 0,i6 0].toArray) o rfl u zeroValue51 rfl fun b21 w a u o=>ls<|s_blkA o u sizeOf51 rfl rfl rfl rfl (one_cells rfl) .head fun w u=>re<|tn<|th<|rg<|qm o rfl fun a o=>qv o (e_add o rfl rfl) fun a o=>qv o (e_fa o fa51_6 rfl) fun a o=>qv o (e_ld o isAgg3 rfl ((St.ld u).cellB t0 rfl)) fun a o=>qv o (e_add o rfl rfl) fun a o=>qv o (e_fa o fa51_7 rfl) fun a o=>qv o (e_ld o isAgg3 rfl ((St.ld u).cellB t0 rfl)) fun a o=>qv o (e_add o rfl rfl) fun a o=>qa o rfl fun a o=>re<|tn<|th<|rg<|qv o (e_fa o fa51_0 rfl) fun a o=>qv o (e_ld o isAgg3 rfl ((St.ld u).cellB t0 rfl)) fun a o=>qv o (e_eql o rfl rfl) fun a o=>qm o rfl fun a o=>grp (N:=131) (Fk:=[(0,.slice oa2 p1.length cap3),(1,i6 p6),(5,i6 vB1),(6,i6 vB2),(7,.pointer (some ⟨b21,0,none⟩)),(8,i6 (IntKind.i64.wrap ((IntKind.i64.wrap ((IntKind.i64.wrap (vB2+1))+xz8.Body))+xz8.Else))),(36,.bool ((decide (xz8.Kind=11)) || (decide (xz8.Kind=12))))]) (b:=(decide (xz8.Kind=11))) 4 u ?_ ?_ ?_
 intro hb key
 replace o:=Fr.as o (t:=32) rfl (congrArg Value.bool hb)
 iterate 3 refine qn o fun a o=>?_
 refine qv o (e_as (v':=.bool ((decide (xz8.Kind=11)) || (decide (xz8.Kind=12)))) (e_pickT o rfl rfl) (by rw [hb];rfl)) fun a o=>?_
 exact key _ _ (o.hs) u
 intro hb key
 replace o:=Fr.as o (t:=32) rfl (congrArg Value.bool hb)
 refine qg o (e_fa o fa51_0 rfl) fun a o=>qg o (e_ld o isAgg3 rfl ((St.ld u).cellB t0 rfl)) fun a o=>qg o (e_eql o rfl rfl) fun a o=>qv o (e_as (v':=.bool ((decide (xz8.Kind=11)) || (decide (xz8.Kind=12)))) (e_pickF o rfl rfl) (by rw [hb];rfl)) fun a o=>?_
 exact key _ _ (o.hs) u
 intro a w o u
 refine qa o rfl fun a o=>re<|tn<|th<|wb<|th<|rg<|qv o (e_fa o fa51_6 rfl) fun a o=>qv o (e_ld o isAgg3 rfl ((St.ld u).cellB t0 rfl)) fun a o=>qv o (e_lss o rfl rfl) fun a o=>qm o rfl fun a o=>grp (N:=131) (Fk:=[(0,.slice oa2 p1.length cap3),(1,i6 p6),(5,i6 vB1),(6,i6 vB2),(7,.pointer (some ⟨b21,0,none⟩)),(8,i6 (IntKind.i64.wrap ((IntKind.i64.wrap ((IntKind.i64.wrap (vB2+1))+xz8.Body))+xz8.Else))),(9,.bool ((decide (xz8.Kind=11)) || (decide (xz8.Kind=12)))),(45,.bool ((decide (xz8.Body < 0)) || (decide (xz8.Else < 0))))]) (b:=(decide (xz8.Body < 0))) 4 u ?_ ?_ ?_
 intro hb key
 replace o:=Fr.as o (t:=41) rfl (congrArg Value.bool hb)
 iterate 3 refine qn o fun a o=>?_
 refine qv o (e_as (v':=.bool ((decide (xz8.Body < 0)) || (decide (xz8.Else < 0)))) (e_pickT o rfl rfl) (by rw [hb];rfl)) fun a o=>?_
 exact key _ _ (o.hs) u
 intro hb key
 replace o:=Fr.as o (t:=41) rfl (congrArg Value.bool hb)
 refine qg o (e_fa o fa51_7 rfl) fun a o=>qg o (e_ld o isAgg3 rfl ((St.ld u).cellB t0 rfl)) fun a o=>qg o (e_lss o rfl rfl) fun a o=>qv o (e_as (v':=.bool ((decide (xz8.Body < 0)) || (decide (xz8.Else < 0)))) (e_pickF o rfl rfl) (by rw [hb];rfl)) fun a o=>?_
 exact key _ _ (o.hs) u
 intro a w o u
 refine qm o rfl fun a o=>grp (N:=131) (Fk:=[(0,.slice oa2 p1.length cap3),(1,i6 p6),(5,i6 vB1),(6,i6 vB2),(7,.pointer (some ⟨b21,0,none⟩)),(8,i6 (IntKind.i64.wrap ((IntKind.i64.wrap ((IntKind.i64.wrap (vB2+1))+xz8.Body))+xz8.Else))),(9,.bool ((decide (xz8.Kind=11)) || (decide (xz8.Kind=12)))),(52,.bool (((decide (xz8.Body < 0)) || (decide (xz8.Else < 0))) || (decide ((p1.length:Int) < xz8.Body))))]) (b:=((decide (xz8.Body < 0)) || (decide (xz8.Else < 0)))) 6 u ?_ ?_ ?_
 intro hb key
 replace o:=Fr.as o (t:=46) rfl (congrArg Value.bool hb)
 iterate 5 refine qn o fun a o=>?_
 refine qv o (e_as (v':=.bool (((decide (xz8.Body < 0)) || (decide (xz8.Else < 0))) || (decide ((p1.length:Int) < xz8.Body)))) (e_pickT o rfl rfl) (by rw [hb];rfl)) fun a o=>?_
 exact key _ _ (o.hs) u
 intro hb key
 replace o:=Fr.as o (t:=46) rfl (congrArg Value.bool hb)
 refine qg o (e_fa o fa51_6 rfl) fun a o=>qg o (e_ld o isAgg3 rfl ((St.ld u).cellB t0 rfl)) fun a o=>qg o (e_move o rfl) fun a o=>qg o (e_lenL (α:=api_Stmt) (xs:=p1) o runUnderlying46 rfl) fun a o=>qg o (e_gtr o rfl rfl) fun a o=>qv o (e_as (v':=.bool (((decide (xz8.Body < 0)) || (decide (xz8.Else < 0))) || (decide ((p1.length:Int) < xz8.Body)))) (e_pickF o rfl rfl) (by rw [hb];rfl)) fun a o=>?_
 exact key _ _ (o.hs) u
 intro a w o u
 refine qm o rfl fun a o=>grp (N:=131) (Fk:=[(0,.slice oa2 p1.length cap3),(1,i6 p6),(5,i6 vB1),(6,i6 vB2),(7,.pointer (some ⟨b21,0,none⟩)),(8,i6 (IntKind.i64.wrap ((IntKind.i64.wrap ((IntKind.i64.wrap (vB2+1))+xz8.Body))+xz8.Else))),(9,.bool ((decide (xz8.Kind=11)) || (decide (xz8.Kind=12)))),(59,.bool ((((decide (xz8.Body < 0)) || (decide (xz8.Else < 0))) || (decide ((p1.length:Int) < xz8.Body))) || (decide ((p1.length:Int) < xz8.Else))))]) (b:=(((decide (xz8.Body < 0)) || (decide (xz8.Else < 0))) || (decide ((p1.length:Int) < xz8.Body)))) 6 u ?_ ?_ ?_
 intro hb key
 replace o:=Fr.as o (t:=53) rfl (congrArg Value.bool hb)
 iterate 5 refine qn o fun a o=>?_
 refine qv o (e_as (v':=.bool ((((decide (xz8.Body < 0)) || (decide (xz8.Else < 0))) || (decide ((p1.length:Int) < xz8.Body))) || (decide ((p1.length:Int) < xz8.Else)))) (e_pickT o rfl rfl) (by rw [hb];rfl)) fun a o=>?_
 exact key _ _ (o.hs) u
 intro hb key
 replace o:=Fr.as o (t:=53) rfl (congrArg Value.bool hb)
 refine qg o (e_fa o fa51_7 rfl) fun a o=>qg o (e_ld o isAgg3 rfl ((St.ld u).cellB t0 rfl)) fun a o=>qg o (e_move o rfl) fun a o=>qg o (e_lenL (α:=api_Stmt) (xs:=p1) o runUnderlying46 rfl) fun a o=>qg o (e_gtr o rfl rfl) fun a o=>qv o (e_as (v':=.bool ((((decide (xz8.Body < 0)) || (decide (xz8.Else < 0))) || (decide ((p1.length:Int) < xz8.Body))) || (decide ((p1.length:Int) < xz8.Else)))) (e_pickF o rfl rfl) (by rw [hb];rfl)) fun a o=>?_
 exact key _ _ (o.hs) u
 intro a w o u
 refine qm o rfl fun a o=>grp (N:=131) (Fk:=[(0,.slice oa2 p1.length cap3),(1,i6 p6),(5,i6 vB1),(6,i6 vB2),(7,.pointer (some ⟨b21,0,none⟩)),(8,i6 (IntKind.i64.wrap ((IntKind.i64.wrap ((IntKind.i64.wrap (vB2+1))+xz8.Body))+xz8.Else))),(9,.bool ((decide (xz8.Kind=11)) || (decide (xz8.Kind=12)))),(65,.bool (((((decide (xz8.Body < 0)) || (decide (xz8.Else < 0))) || (decide ((p1.length:Int) < xz8.Body))) || (decide ((p1.length:Int) < xz8.Else))) || (decide ((p1.length:Int) < (IntKind.i64.wrap ((IntKind.i64.wrap ((IntKind.i64.wrap (vB2+1))+xz8.Body))+xz8.Else))))))]) (b:=((((decide (xz8.Body < 0)) || (decide (xz8.Else < 0))) || (decide ((p1.length:Int) < xz8.Body))) || (decide ((p1.length:Int) < xz8.Else)))) 5 u ?_ ?_ ?_
 intro hb key
 replace o:=Fr.as o (t:=60) rfl (congrArg Value.bool hb)
 iterate 4 refine qn o fun a o=>?_
 refine qv o (e_as (v':=.bool (((((decide (xz8.Body < 0)) || (decide (xz8.Else < 0))) || (decide ((p1.length:Int) < xz8.Body))) || (decide ((p1.length:Int) < xz8.Else))) || (decide ((p1.length:Int) < (IntKind.i64.wrap ((IntKind.i64.wrap ((IntKind.i64.wrap (vB2+1))+xz8.Body))+xz8.Else)))))) (e_pickT o rfl rfl) (by rw [hb];rfl)) fun a o=>?_
 exact key _ _ (o.hs) u
 intro hb key
 replace o:=Fr.as o (t:=60) rfl (congrArg Value.bool hb)
 iterate 2 refine qg o (e_move o rfl) fun a o=>?_
 refine qg o (e_lenL (α:=api_Stmt) (xs:=p1) o runUnderlying46 rfl) fun a o=>qg o (e_gtr o rfl rfl) fun a o=>qv o (e_as (v':=.bool (((((decide (xz8.Body < 0)) || (decide (xz8.Else < 0))) || (decide ((p1.length:Int) < xz8.Body))) || (decide ((p1.length:Int) < xz8.Else))) || (decide ((p1.length:Int) < (IntKind.i64.wrap ((IntKind.i64.wrap ((IntKind.i64.wrap (vB2+1))+xz8.Body))+xz8.Else)))))) (e_pickF o rfl rfl) (by rw [hb];rfl)) fun a o=>?_
 exact key _ _ (o.hs) u
 intro a w o u
 refine qa o rfl fun a o=>re<|?_
 rcases bdich (((((decide (xz8.Body < 0)) || (decide (xz8.Else < 0))) || (decide ((p1.length:Int) < xz8.Body))) || (decide ((p1.length:Int) < xz8.Else))) || (decide ((p1.length:Int) < (IntKind.i64.wrap ((IntKind.i64.wrap ((IntKind.i64.wrap (vB2+1))+xz8.Body))+xz8.Else))))) with hb22 | hb22
 replace hm:=ite_t hm hb22
 refine tn<|ctv o rfl hb22<|th<|rg<|qa o rfl fun a o=>re<|tn<|wr<|br<|tr<|br<|tr<|br<|tr<|?_
 obtain rfl:=si hm
 exact r1 o results111 rfl ⟨rfl,u.keep⟩
 replace hm:=ite_f hm hb22
 refine tn<|cfv o rfl hb22<|th<|th<|rg<|qm o rfl fun a o=>qv o (e_not o rfl) fun a o=>qm o rfl fun a o=>grp (N:=131) (Fk:=[(0,.slice oa2 p1.length cap3),(1,i6 p6),(5,i6 vB1),(6,i6 vB2),(7,.pointer (some ⟨b21,0,none⟩)),(8,i6 (IntKind.i64.wrap ((IntKind.i64.wrap ((IntKind.i64.wrap (vB2+1))+xz8.Body))+xz8.Else))),(9,.bool ((decide (xz8.Kind=11)) || (decide (xz8.Kind=12)))),(73,.bool ((!((decide (xz8.Kind=11)) || (decide (xz8.Kind=12)))) && (decide (0 < xz8.Body))))]) (b:=(!((decide (xz8.Kind=11)) || (decide (xz8.Kind=12))))) 4 u ?_ ?_ ?_
 intro hb key
 replace o:=Fr.as o (t:=69) rfl (congrArg Value.bool hb)
 refine qg o (e_fa o fa51_6 rfl) fun a o=>qg o (e_ld o isAgg3 rfl ((St.ld u).cellB t0 rfl)) fun a o=>qg o (e_gtr o rfl rfl) fun a o=>qv o (e_as (v':=.bool ((!((decide (xz8.Kind=11)) || (decide (xz8.Kind=12)))) && (decide (0 < xz8.Body)))) (e_pickT o rfl rfl) (by rw [hb];rfl)) fun a o=>?_
 exact key _ _ (o.hs) u
 intro hb key
 replace o:=Fr.as o (t:=69) rfl (congrArg Value.bool hb)
 iterate 3 refine qn o fun a o=>?_
 refine qv o (e_as (v':=.bool ((!((decide (xz8.Kind=11)) || (decide (xz8.Kind=12)))) && (decide (0 < xz8.Body)))) (e_pickF o rfl rfl) (by rw [hb];rfl)) fun a o=>?_
 exact key _ _ (o.hs) u
 intro a w o u
 refine qa o rfl fun a o=>re<|tn<|midK (fun a w=>∃ (vC1:Bool),(Z9p (Z9n N) N ((Z9r (Z9n N) N Z9o p1 p6) nn2) p1 p6 xz8 vB1 vB2) vC1=some r∧Fr 131 [(0,.slice oa2 p1.length cap3),(1,i6 p6),(5,i6 vB1),(6,i6 vB2),(7,.pointer (some ⟨b21,0,none⟩)),(8,i6 (IntKind.i64.wrap ((IntKind.i64.wrap ((IntKind.i64.wrap (vB2+1))+xz8.Body))+xz8.Else))),(9,.bool ((decide (xz8.Kind=11)) || (decide (xz8.Kind=12)))),(66,.bool vC1)] a∧St w0 Nil [H] [blk b21 (.cells [i6 xz8.Kind,strv xz8.Reg,strv xz8.Name,.slice oa13 xz8.E.length cap14,.slice oa17 xz8.F.length cap18,i6 xz8.N,i6 xz8.Body,i6 xz8.Else,i6 xz8.At].toArray 51 (0,0))] w) ?_ ?_
 rcases bdich ((!((decide (xz8.Kind=11)) || (decide (xz8.Kind=12)))) && (decide (0 < xz8.Body))) with hb23 | hb23
 replace hm:=ite_t hm hb23
 refine ctv o rfl hb23<|wk<|tn<|?_
 exact ⟨((!((decide (xz8.Kind=11)) || (decide (xz8.Kind=12)))) && (decide (0 < xz8.Body))),hm,o.hs,u⟩
 replace hm:=ite_f hm hb23
 refine cfv o rfl hb23<|th<|rg<|qv o (e_fa o fa51_0 rfl) fun a o=>qv o (e_ld o isAgg3 rfl ((St.ld u).cellB t0 rfl)) fun a o=>qv o (e_neq o rfl rfl) fun a o=>qm o rfl fun a o=>grp (N:=131) (Fk:=[(0,.slice oa2 p1.length cap3),(1,i6 p6),(5,i6 vB1),(6,i6 vB2),(7,.pointer (some ⟨b21,0,none⟩)),(8,i6 (IntKind.i64.wrap ((IntKind.i64.wrap ((IntKind.i64.wrap (vB2+1))+xz8.Body))+xz8.Else))),(9,.bool ((decide (xz8.Kind=11)) || (decide (xz8.Kind=12)))),(81,.bool ((decide (xz8.Kind≠11)) && (decide (0 < xz8.Else))))]) (b:=(decide (xz8.Kind≠11))) 4 u ?_ ?_ ?_
 intro hb key
 replace o:=Fr.as o (t:=77) rfl (congrArg Value.bool hb)
 refine qg o (e_fa o fa51_7 rfl) fun a o=>qg o (e_ld o isAgg3 rfl ((St.ld u).cellB t0 rfl)) fun a o=>qg o (e_gtr o rfl rfl) fun a o=>qv o (e_as (v':=.bool ((decide (xz8.Kind≠11)) && (decide (0 < xz8.Else)))) (e_pickT o rfl rfl) (by rw [hb];rfl)) fun a o=>?_
 exact key _ _ (o.hs) u
 intro hb key
 replace o:=Fr.as o (t:=77) rfl (congrArg Value.bool hb)
 iterate 3 refine qn o fun a o=>?_
 refine qv o (e_as (v':=.bool ((decide (xz8.Kind≠11)) && (decide (0 < xz8.Else)))) (e_pickF o rfl rfl) (by rw [hb];rfl)) fun a o=>?_
 exact key _ _ (o.hs) u
 intro a w o u
 refine qa o rfl fun a o=>re<|?_
 rcases bdich ((decide (xz8.Kind≠11)) && (decide (0 < xz8.Else))) with hb24 | hb24
 replace hm:=ite_t hm hb24
 refine tn<|ctv o rfl hb24<|wk<|tn<|?_
 exact ⟨((decide (xz8.Kind≠11)) && (decide (0 < xz8.Else))),hm,o.hs,u⟩
 replace hm:=ite_f hm hb24
 refine tn<|cfv o rfl hb24<|rg<|qv o (e_fa o fa51_0 rfl) fun a o=>qv o (e_ld o isAgg3 rfl ((St.ld u).cellB t0 rfl)) fun a o=>qv o (e_eql o rfl rfl) fun a o=>qm o rfl fun a o=>grp (N:=131) (Fk:=[(0,.slice oa2 p1.length cap3),(1,i6 p6),(5,i6 vB1),(6,i6 vB2),(7,.pointer (some ⟨b21,0,none⟩)),(8,i6 (IntKind.i64.wrap ((IntKind.i64.wrap ((IntKind.i64.wrap (vB2+1))+xz8.Body))+xz8.Else))),(9,.bool ((decide (xz8.Kind=11)) || (decide (xz8.Kind=12)))),(88,.bool ((decide (xz8.Kind=13)) && (decide (p6=0))))]) (b:=(decide (xz8.Kind=13))) 3 u ?_ ?_ ?_
 intro hb key
 replace o:=Fr.as o (t:=85) rfl (congrArg Value.bool hb)
 refine qg o (e_move o rfl) fun a o=>qg o (e_eql o rfl rfl) fun a o=>qv o (e_as (v':=.bool ((decide (xz8.Kind=13)) && (decide (p6=0)))) (e_pickT o rfl rfl) (by rw [hb];rfl)) fun a o=>?_
 exact key _ _ (o.hs) u
 intro hb key
 replace o:=Fr.as o (t:=85) rfl (congrArg Value.bool hb)
 iterate 2 refine qn o fun a o=>?_
 refine qv o (e_as (v':=.bool ((decide (xz8.Kind=13)) && (decide (p6=0)))) (e_pickF o rfl rfl) (by rw [hb];rfl)) fun a o=>?_
 exact key _ _ (o.hs) u
 intro a w o u
 refine qa o rfl fun a o=>re<|tn<|?_
 exact ⟨((decide (xz8.Kind=13)) && (decide (p6=0))),hm,o.hs,u⟩
 rintro a w ⟨vC1,hm,o,u⟩
 unfold Z9p at hm
 rcases bdich vC1 with hb25 | hb25
 replace hm:=ite_t hm hb25
 refine ctv o rfl hb25<|th<|rg<|qa o rfl fun a o=>re<|tn<|wr<|br<|tr<|br<|tr<|br<|tr<|?_
 obtain rfl:=si hm
 exact r1 o results111 rfl ⟨rfl,u.keep⟩
 replace hm:=ite_f hm hb25
 refine cfv o rfl hb25<|wk<|bn<|tn<|th<|th<|rg<|qm o rfl fun a o=>re<|tn<|midK (fun a w=>∃ (vC2:Int),(Z9q ((Z9r (Z9n N) N Z9o p1 p6) nn2) xz8 vB2) vC2=some r∧Fr 131 [(0,.slice oa2 p1.length cap3),(1,i6 p6),(5,i6 vC2),(8,i6 (IntKind.i64.wrap ((IntKind.i64.wrap ((IntKind.i64.wrap (vB2+1))+xz8.Body))+xz8.Else)))] a∧St w0 Nil [H] [] w) ?_ ?_
 rcases bdich ((decide (xz8.Kind=11)) || (decide (xz8.Kind=12))) with hb26 | hb26
 replace hm:=ite_t hm hb26
 refine ctv o rfl hb26<|th<|?_
 obtain ⟨r27,h28,hm⟩:=bs hm
 refine rg<|qm o rfl fun a o=>qv o (e_fa o fa51_0 rfl) fun a o=>qv o (e_ld o isAgg3 rfl ((St.ld u).cellB t0 rfl)) fun a o=>qv o (e_eql o rfl rfl) fun a o=>ls<|cq o call150 (Z9y_c (hp_le _) h28) ⟨rfl,trivial⟩ u fun w a u o=>qv o (e_add o rfl rfl) fun a o=>qa o rfl fun a o=>re<|tn<|th<|?_
 obtain ⟨l29,h30,hm⟩:=bs hm
 obtain ⟨oa31,cap32,e33,e34,hc35,hr36⟩:=SR.sub (sz:=9) hr5 hc4 rfl h30
 obtain ⟨r37,h38,hm⟩:=bs hm
 obtain ⟨l39,h40,hm⟩:=bs hm
 obtain ⟨oa41,cap42,e43,e44,hc45,hr46⟩:=SR.sub (sz:=9) hr5 hc4 rfl h40
 obtain ⟨r47,h48,hm⟩:=bs hm
 refine rdS 23 u wide fun w u=>dr 0 u o rfl (e_move o rfl) fun a o=>dr 1 u o rfl (e_move o rfl) fun a o=>dr 2 u o rfl (e_add o rfl rfl) fun a o=>dr 3 u o rfl (e_move o rfl) fun a o=>dr 4 u o rfl (e_add o rfl rfl) fun a o=>dr 5 u o rfl (e_fa o fa51_6 rfl) fun a o=>dq 6 (St.ld u) o rfl (fun w hl=>e_ld o isAgg3 rfl (hl.cellB t0 rfl)) fun a o=>dr 7 u o rfl (e_add o rfl rfl) fun a o=>dr 8 u o rfl (e_subL (xs:=p1) (vl:=(IntKind.i64.wrap (vB2+1))) (vh:=(IntKind.i64.wrap ((IntKind.i64.wrap (vB2+1))+xz8.Body))) o runUnderlying46 sizeOf51 rfl hc4 rfl rfl h30 e33 e34) fun a o=>dr 9 u o rfl (e_move o rfl) fun a o=>dr 11 u o rfl (e_move o rfl) fun a o=>dr 12 u o rfl (e_move o rfl) fun a o=>dr 13 u o rfl (e_add o rfl rfl) fun a o=>dr 14 u o rfl (e_fa o fa51_6 rfl) fun a o=>dq 15 (St.ld u) o rfl (fun w hl=>e_ld o isAgg3 rfl (hl.cellB t0 rfl)) fun a o=>dr 16 u o rfl (e_add o rfl rfl) fun a o=>dr 17 u o rfl (e_move o rfl) fun a o=>dr 18 u o rfl (e_subL (xs:=p1) (vl:=(IntKind.i64.wrap ((IntKind.i64.wrap (vB2+1))+xz8.Body))) (vh:=(IntKind.i64.wrap ((IntKind.i64.wrap ((IntKind.i64.wrap (vB2+1))+xz8.Body))+xz8.Else))) o runUnderlying46 sizeOf51 rfl hc4 rfl rfl h40 e43 e44) fun a o=>dr 19 u o rfl (e_move o rfl) fun a o=>da1 (i:=10) (by kernel_rfl) ?_
 refine di (i:=10) rfl<|cq o call111 (ih (hp_le _) hc35 (St.srH u hr36) h38) ⟨rfl,rfl,trivial⟩ u fun w a u o=>⟨fun _=>(St.ld u),?_⟩
 refine da1 (i:=20) (by kernel_rfl) ?_
 refine di (i:=20) rfl<|cq o call111 (ih (hp_le _) hc45 (St.srH u hr46) h48) ⟨rfl,rfl,trivial⟩ u fun w a u o=>⟨fun _=>(St.ld u),?_⟩
 refine dr 21 u o rfl (e_asg o rfl) fun a o=>dr 22 u o rfl (e_asg o rfl) fun a o=>de (by kernel_rfl)<|tn<|th<|th<|rg<|qm o rfl fun a o=>qv o (e_eql o rfl rfl) fun a o=>qm o rfl fun a o=>grp (N:=131) (Fk:=[(0,.slice oa2 p1.length cap3),(1,i6 p6),(5,i6 vB1),(8,i6 (IntKind.i64.wrap ((IntKind.i64.wrap ((IntKind.i64.wrap (vB2+1))+xz8.Body))+xz8.Else))),(11,i6 r37),(12,i6 r47),(122,.bool ((decide (r37=(-1))) || (decide (r47=(-1)))))]) (b:=(decide (r37=(-1)))) 3 u ?_ ?_ ?_
 intro hb key
 replace o:=Fr.as o (t:=119) rfl (congrArg Value.bool hb)
 iterate 2 refine qn o fun a o=>?_
 refine qv o (e_as (v':=.bool ((decide (r37=(-1))) || (decide (r47=(-1))))) (e_pickT o rfl rfl) (by rw [hb];rfl)) fun a o=>?_
 exact key _ _ (o.hs) u
 intro hb key
 replace o:=Fr.as o (t:=119) rfl (congrArg Value.bool hb)
 refine qg o (e_move o rfl) fun a o=>qg o (e_eql o rfl rfl) fun a o=>qv o (e_as (v':=.bool ((decide (r37=(-1))) || (decide (r47=(-1))))) (e_pickF o rfl rfl) (by rw [hb];rfl)) fun a o=>?_
 exact key _ _ (o.hs) u
 intro a w o u
 refine re<|?_
 rcases bdich ((decide (r37=(-1))) || (decide (r47=(-1)))) with hb49 | hb49
 replace hm:=ite_t hm hb49
 refine tn<|ctv o rfl hb49<|th<|rg<|qa o rfl fun a o=>re<|tn<|wr<|tr<|tr<|br<|tr<|br<|tr<|?_
 obtain rfl:=si hm
 exact r1 o results111 rfl ⟨rfl,u.keep⟩
 replace hm:=ite_f hm hb49
 refine tn<|cfv o rfl hb49<|wk<|tn<|rg<|qm o rfl fun a o=>qm o rfl fun a o=>qv o (e_add o rfl rfl) fun a o=>qm o rfl fun a o=>qv o (e_add o rfl rfl) fun a o=>qv o (e_max3 o rfl rfl rfl) fun a o=>qa o rfl fun a o=>re<|tn<|?_
 replace u:=u.pickL .nil
 exact ⟨(max (max vB1 (IntKind.i64.wrap (r37+1))) (IntKind.i64.wrap (r47+1))),hm,o.hs,u⟩
 replace hm:=ite_f hm hb26
 refine cfv o rfl hb26<|wk<|tn<|?_
 replace u:=u.pickL .nil
 exact ⟨vB1,hm,o.hs,u⟩
 rintro a w ⟨vC2,hm,o,u⟩
 unfold Z9q at hm
 refine rg<|qm o rfl fun a o=>qa o rfl fun a o=>re<|bn<|tn<|?_
 exact ⟨(nn2,vC2,(IntKind.i64.wrap ((IntKind.i64.wrap ((IntKind.i64.wrap (vB2+1))+xz8.Body))+xz8.Else))),⟨hm,o.hs,u⟩,Nat.lt_succ_self _⟩
 replace hm:=itp_f hm hb7
 refine tn<|cfv o rfl hb7<|we<|tx<|tx<|bx<|tn<|?_
 exact ⟨vB1,hm,o.has ⟨rfl,trivial⟩,u⟩
 rintro a w ⟨vA1,hm,o,u⟩
 unfold Z9o at hm
 refine th<|rg<|qm o rfl fun a o=>qa o rfl fun a o=>re<|tn<|wr<|?_
 obtain rfl:=si hm
 exact r1 o results111 rfl ⟨rfl,u.keep⟩
theorem Z9l_c (hH:H.le w0) (hT:Tab H) {oa2:Option Addr} {cap3:Nat} {p1:(List api_Stmt)} (hc4:p1.length≤cap3) (hr5:SR H oa2 p1) {r:Bool} (hm:Z9l N p1=some r):Tot Tryz.prog 69 #[.slice oa2 p1.length cap3] w0 (fun v w'=>v=.bool r∧Keep Nil w0 w'):=by
 unfold Z9l at hm
 refine fn0 func69 rfl ntmps69 rfl rfl fun a o=>?_
 have u:St w0 Nil [H] [] w0:=start1 hH
 refine th<|rg<|qa o rfl fun a o=>re<|tn<|th<|th<|midK (fun a w=>∃ (vA1:Bool),(Z9m N p1) vA1=some r∧Fr 19 [(0,.slice oa2 p1.length cap3),(10,.bool vA1)] a∧St w0 Nil [H] [] w) ?_ ?_
 rcases bdich (decide (40 < (p1.length:Int))) with hb6 | hb6
 replace hm:=itp_t hm hb6
 refine rg<|qm o rfl fun a o=>qv o (e_lenL (α:=api_Stmt) (xs:=p1) o runUnderlying46 rfl) fun a o=>qv o (e_gtr o rfl rfl) fun a o=>qv o (e_as (e_move o rfl) (congrArg Value.bool hb6)) fun a o=>?_
 iterate 2 refine qn o fun a o=>?_
 refine qv o (e_pickT o rfl rfl) fun a o=>re<|tn<|?_
 exact ⟨true,hm,o.has ⟨rfl,rfl,trivial⟩,u⟩
 replace hm:=itp_f hm hb6
 obtain ⟨rz7,h8,hm⟩:=bs hm
 refine rg<|qm o rfl fun a o=>qv o (e_lenL (α:=api_Stmt) (xs:=p1) o runUnderlying46 rfl) fun a o=>qv o (e_gtr o rfl rfl) fun a o=>qv o (e_as (e_move o rfl) (congrArg Value.bool hb6)) fun a o=>qg o (e_move o rfl) fun a o=>ls<|gy o rfl rfl<|cq o call109 (Z8e_c (hp_le _) (Tab.mono hT (St.up u)) hc4 (St.srH u hr5) h8) ⟨rfl,rfl,trivial⟩ u fun w a u o=>qv o (e_pickF o rfl rfl) fun a o=>re<|tn<|?_
 exact ⟨rz7,hm,o.has ⟨rfl,rfl,trivial⟩,u⟩
 rintro a w ⟨vA1,hm,o,u⟩
 unfold Z9m at hm
 rcases bdich vA1 with hb9 | hb9
 replace hm:=ite_t hm hb9
 refine ctv o rfl hb9<|th<|rg<|qa o rfl fun a o=>re<|tn<|wr<|tr<|?_
 obtain rfl:=si hm
 exact r1 o results69 rfl ⟨rfl,u.keep⟩
 replace hm:=ite_f hm hb9
 refine cfv o rfl hb9<|wk<|tn<|th<|?_
 obtain ⟨r10,h11,hm⟩:=bs hm
 refine rg<|qm o rfl fun a o=>ls<|cq o call111 (Z9n_c _ (hp_le _) hc4 (St.srH u hr5) h11) ⟨rfl,rfl,trivial⟩ u fun w a u o=>qa o rfl fun a o=>re<|tn<|th<|rg<|qm o rfl fun a o=>qv o (e_neq o rfl rfl) fun a o=>qm o rfl fun a o=>grp (N:=19) (Fk:=[(18,.bool ((decide (r10≠(-1))) && (decide (r10≤12))))]) (b:=(decide (r10≠(-1)))) 3 u ?_ ?_ ?_
 intro hb key
 replace o:=Fr.as o (t:=15) rfl (congrArg Value.bool hb)
 refine qg o (e_move o rfl) fun a o=>qg o (e_leq o rfl rfl) fun a o=>qv o (e_as (v':=.bool ((decide (r10≠(-1))) && (decide (r10≤12)))) (e_pickT o rfl rfl) (by rw [hb];rfl)) fun a o=>?_
 exact key _ _ (o.has ⟨rfl,trivial⟩) u
 intro hb key
 replace o:=Fr.as o (t:=15) rfl (congrArg Value.bool hb)
 iterate 2 refine qn o fun a o=>?_
 refine qv o (e_as (v':=.bool ((decide (r10≠(-1))) && (decide (r10≤12)))) (e_pickF o rfl rfl) (by rw [hb];rfl)) fun a o=>?_
 exact key _ _ (o.has ⟨rfl,trivial⟩) u
 intro a w o u
 refine qa o rfl fun a o=>re<|tn<|wr<|?_
 obtain rfl:=si hm
 exact r1 o results69 rfl ⟨rfl,u.keep⟩
theorem Z7p_c (hH:H.le w0) (hT:Tab H) {cs2:List Value} {p1:api_Thread} (g3:Enc.rep H cs2 p1) {r:Bool} (hm:Z7p N p1=some r):Tot Tryz.prog 83 #[.agg cs2.toArray] w0 (fun v w'=>v=.bool r∧Keep Nil w0 w'):=by
 unfold Z7p at hm
 refine fn0 func83 rfl ntmps83 rfl rfl fun a o=>?_
 have u:St w0 Nil [H] [] w0:=start1 hH
 obtain ⟨oa4,cap5,oa8,cap9,rfl,hc6,hr7,hc10,hr11⟩:=api_Thread_open g3
 refine th<|rg<|ls<|a_box (cs:=[strv p1.Name,.slice oa4 p1.Regs.length cap5,.slice oa8 p1.Body.length cap9,i6 p1.At].toArray) o rfl u rfl rfl fun b12 w a u o=>qa o rfl fun a o=>re<|tn<|th<|rg<|qa o rfl fun a o=>re<|tn<|th<|?_
 obtain ⟨r13,h14,hm⟩:=bs hm
 rcases bdich r13 with hb15 | hb15
 replace hm:=ite_t hm hb15
 obtain ⟨r16,h17,hm⟩:=bs hm
 rcases bdich r16 with hb18 | hb18
 replace hm:=ite_t hm hb18
 have hb18':(!r16)=false:=by rw [hb18];rfl
 refine rg<|qv o (e_fa o fa48_3 rfl) fun a o=>qv o (e_ld o isAgg3 rfl ((St.ld u).cellB t0 rfl)) fun a o=>ls<|cq o call86 (Z7o_c (hp_le _) h14) ⟨rfl,trivial⟩ u fun w a u o=>qv o (e_as (e_move o rfl) (congrArg Value.bool hb15)) fun a o=>qg o (e_fa o fa48_1 rfl) fun a o=>qg o (e_ld o isAgg36 rfl ((St.ld u).cellB t0 rfl)) fun a o=>qg o (e_move o rfl) fun a o=>ls<|gy o rfl rfl<|cq o call123 (Z8i_c (hp_le _) (Tab.mono hT (St.up u)) hc6 (St.srH u hr7) h17) ⟨rfl,rfl,trivial⟩ u fun w a u o=>qg o (e_not o rfl) fun a o=>qv o (e_pickT o rfl rfl) fun a o=>qv o (e_as (e_move o rfl) (congrArg Value.bool hb18')) fun a o=>?_
 iterate 3 refine qn o fun a o=>?_
 refine qv o (e_pickF o rfl rfl) fun a o=>qa o rfl fun a o=>re<|tn<|wr<|?_
 obtain rfl:=si hm
 exact r1 o results83 rfl ⟨rfl,u.keep⟩
 replace hm:=ite_f hm hb18
 have hb18':(!r16)=true:=by rw [hb18];rfl
 obtain ⟨r19,h20,hm⟩:=bs hm
 refine rg<|qv o (e_fa o fa48_3 rfl) fun a o=>qv o (e_ld o isAgg3 rfl ((St.ld u).cellB t0 rfl)) fun a o=>ls<|cq o call86 (Z7o_c (hp_le _) h14) ⟨rfl,trivial⟩ u fun w a u o=>qv o (e_as (e_move o rfl) (congrArg Value.bool hb15)) fun a o=>qg o (e_fa o fa48_1 rfl) fun a o=>qg o (e_ld o isAgg36 rfl ((St.ld u).cellB t0 rfl)) fun a o=>qg o (e_move o rfl) fun a o=>ls<|gy o rfl rfl<|cq o call123 (Z8i_c (hp_le _) (Tab.mono hT (St.up u)) hc6 (St.srH u hr7) h17) ⟨rfl,rfl,trivial⟩ u fun w a u o=>qg o (e_not o rfl) fun a o=>qv o (e_pickT o rfl rfl) fun a o=>qv o (e_as (e_move o rfl) (congrArg Value.bool hb18')) fun a o=>qg o (e_fa o fa48_2 rfl) fun a o=>qg o (e_ld o isAgg46 rfl ((St.ld u).cellB t0 rfl)) fun a o=>ls<|gy o rfl rfl<|cq o call69 (Z9l_c (hp_le _) (Tab.mono hT (St.up u)) hc10 (St.srH u hr11) h20) ⟨rfl,trivial⟩ u fun w a u o=>qv o (e_pickT o rfl rfl) fun a o=>qa o rfl fun a o=>re<|tn<|wr<|?_
 obtain rfl:=si hm
 exact r1 o results83 rfl ⟨rfl,u.keep⟩
 replace hm:=ite_f hm hb15
 refine rg<|qv o (e_fa o fa48_3 rfl) fun a o=>qv o (e_ld o isAgg3 rfl ((St.ld u).cellB t0 rfl)) fun a o=>ls<|cq o call86 (Z7o_c (hp_le _) h14) ⟨rfl,trivial⟩ u fun w a u o=>qv o (e_as (e_move o rfl) (congrArg Value.bool hb15)) fun a o=>?_
 iterate 5 refine qn o fun a o=>?_
 refine qv o (e_pickF o rfl rfl) fun a o=>qm o rfl fun a o=>?_
 iterate 3 refine qn o fun a o=>?_
 refine qv o (e_pickF o rfl rfl) fun a o=>qa o rfl fun a o=>re<|tn<|wr<|?_
 obtain rfl:=si hm
 exact r1 o results83 rfl ⟨rfl,u.keep⟩
theorem Z7i_c (hH:H.le w0) (hT:Tab H) {cs2:List Value} {p1:api_Thread} (g3:Enc.rep H cs2 p1) {r:Bool} (hm:Z7i N p1=some r):Tot Tryz.prog 81 #[.agg cs2.toArray] w0 (fun v w'=>v=.bool r∧Keep Nil w0 w'):=by
 unfold Z7i at hm
 refine fn0 func81 rfl ntmps81 rfl rfl fun a o=>?_
 have u:St w0 Nil [H] [] w0:=start1 hH
 obtain ⟨oa4,cap5,oa8,cap9,rfl,hc6,hr7,hc10,hr11⟩:=api_Thread_open g3
 refine th<|rg<|ls<|a_box (cs:=[strv p1.Name,.slice oa4 p1.Regs.length cap5,.slice oa8 p1.Body.length cap9,i6 p1.At].toArray) o rfl u rfl rfl fun b12 w a u o=>qa o rfl fun a o=>re<|tn<|th<|?_
 obtain ⟨r13,h14,hm⟩:=bs hm
 rcases bdich r13 with hb15 | hb15
 replace hm:=ite_t hm hb15
 have hb15':(!r13)=false:=by rw [hb15];rfl
 obtain ⟨r16,h17,hm⟩:=bs hm
 refine rg<|qv o (e_fa o fa48_0 rfl) fun a o=>qv o (e_ld o isAgg9 rfl ((St.ld u).cellB t0 rfl)) fun a o=>ls<|cq o call82 (Z7s_c (hp_le _) (Tab.mono hT (St.up u)) h14) ⟨rfl,trivial⟩ u fun w a u o=>qv o (e_not o rfl) fun a o=>qv o (e_as (e_move o rfl) (congrArg Value.bool hb15')) fun a o=>qg o (e_ldA o isAgg48 sizeOf48 rfl rfl ((St.ld u).cellsB t0)) fun a o=>ls<|gy o rfl rfl<|cq o call83 (Z7p_c (hp_le _) (Tab.mono hT (St.up u)) (Enc.mono (St.up u) (show Enc.rep (α:=api_Thread) H [strv p1.Name,.slice oa4 p1.Regs.length cap5,.slice oa8 p1.Body.length cap9,i6 p1.At] p1 from ⟨_,_,rfl,rfl,⟨_,_,rfl,⟨_,_,rfl,hc6,hr7⟩,⟨_,_,rfl,⟨_,_,rfl,hc10,hr11⟩,rfl⟩⟩⟩)) h17) ⟨rfl,trivial⟩ u fun w a u o=>qg o (e_not o rfl) fun a o=>qv o (e_pickF o rfl rfl) fun a o=>qa o rfl fun a o=>re<|tn<|wr<|?_
 obtain rfl:=si hm
 exact r1 o results81 rfl ⟨rfl,u.keep⟩
 replace hm:=ite_f hm hb15
 have hb15':(!r13)=true:=by rw [hb15];rfl
 refine rg<|qv o (e_fa o fa48_0 rfl) fun a o=>qv o (e_ld o isAgg9 rfl ((St.ld u).cellB t0 rfl)) fun a o=>ls<|cq o call82 (Z7s_c (hp_le _) (Tab.mono hT (St.up u)) h14) ⟨rfl,trivial⟩ u fun w a u o=>qv o (e_not o rfl) fun a o=>qv o (e_as (e_move o rfl) (congrArg Value.bool hb15')) fun a o=>?_
 iterate 3 refine qn o fun a o=>?_
 refine qv o (e_pickT o rfl rfl) fun a o=>qa o rfl fun a o=>re<|tn<|wr<|?_
 obtain rfl:=si hm
 exact r1 o results81 rfl ⟨rfl,u.keep⟩
theorem Z92_c (hH:H.le w0) (hT:Tab H) {oa2:Option Addr} {cap3:Nat} {p1:(List api_Thread)} (_:p1.length≤cap3) (hr5:SR H oa2 p1) {r:Int} (hm:Z92 N p1=some r):Tot Tryz.prog 130 #[.slice oa2 p1.length cap3,.func (.func 81) #[] #[]] w0 (fun v w'=>v=i6 r∧Keep Nil w0 w'):=by
 unfold Z92 at hm
 refine fn0 func130 rfl ntmps130 rfl rfl fun a o=>?_
 have u:St w0 Nil [H] [] w0:=start1 hH
 refine th<|rg<|qa o rfl fun a o=>re<|tn<|th<|th<|rg<|qm o rfl fun a o=>qv o (e_lenL (α:=api_Thread) (xs:=p1) o runUnderlying24 rfl) fun a o=>qm o rfl fun a o=>re<|tn<|midK (fun a w=>Z93=some r∧Fr 19 [] a∧St w0 Nil [H] [] w) ?_ ?_
 refine wb<|lp (α:=Nat×Int) (fun gh a w=>match gh with | (nn2,vB1)=>(Z94 N Z93 p1) nn2 vB1=some r∧Fr 19 [(0,.slice oa2 p1.length cap3),(1,.func (.func 81) #[] #[]),(7,i6 (p1.length:Int)),(8,i6 vB1)] a∧St w0 Nil [H] [] w) (fun gh=>gh.1) (N,0) ⟨hm,o.hs,u⟩ ?_
 rintro ⟨nn2,vB1⟩ a w ⟨hm,o,u⟩
 obtain _ | nn2:=nn2
 simp [Z94] at hm
 rw [Z94] at hm
 refine th<|rg<|qv o (e_lss o rfl rfl) fun a o=>re<|?_
 rcases bdich (decide (vB1 < (p1.length:Int))) with hb6 | hb6
 replace hm:=itp_t hm hb6
 refine tn<|th<|ctv o rfl hb6<|wk<|tn<|th<|wb<|th<|rg<|qm o rfl fun a o=>qa o rfl fun a o=>re<|tn<|th<|?_
 obtain ⟨xz7,h8,hm⟩:=bs hm
 obtain ⟨cz9,g10,hl11⟩:=SR.get hr5 h8
 obtain ⟨oa12,cap13,oa16,cap17,rfl,hc14,hr15,hc18,hr19⟩:=api_Thread_open g10
 obtain ⟨r20,h21,hm⟩:=bs hm
 refine rg<|qm o rfl fun a o=>?_
 iterate 2 refine qm o rfl fun a o=>?_
 refine qv o (e_iaI o runUnderlying24 sizeOf48 rfl rfl h8 (SR.oaI hr5 (by decide) h8)) fun a o=>qv o (e_ldA o isAgg48 sizeOf48 rfl rfl (fun j v hj=>PH.le.cell (Lds.le (St.ld u)) (hl11 j v hj))) fun a o=>ls<|k1 (vs:=[.agg #[strv xz7.Name,.slice oa12 xz7.Regs.length cap13,.slice oa16 xz7.Body.length cap17,i6 xz7.At]]) (caps:=[]) o rfl rfl call81 (Z7i_c (hp_le _) (Tab.mono hT (St.up u)) (Enc.mono (St.up u) (show Enc.rep (α:=api_Thread) H [strv xz7.Name,.slice oa12 xz7.Regs.length cap13,.slice oa16 xz7.Body.length cap17,i6 xz7.At] xz7 from ⟨_,_,rfl,rfl,⟨_,_,rfl,⟨_,_,rfl,hc14,hr15⟩,⟨_,_,rfl,⟨_,_,rfl,hc18,hr19⟩,rfl⟩⟩⟩)) h21) ⟨rfl,trivial⟩ rfl (fun v w a hR o=>?_)
 obtain ⟨rfl,hk⟩:=hR
 replace u:=u.pass hk
 refine re<|?_
 rcases bdich r20 with hb22 | hb22
 replace hm:=ite_t hm hb22
 refine tn<|ctv o rfl hb22<|th<|rg<|qm o rfl fun a o=>qa o rfl fun a o=>re<|tn<|wr<|br<|tr<|tr<|br<|tr<|?_
 obtain rfl:=si hm
 exact r1 o results130 rfl ⟨rfl,u.keep⟩
 replace hm:=ite_f hm hb22
 refine tn<|cfv o rfl hb22<|wk<|bn<|tn<|rg<|qv o (e_add o rfl rfl) fun a o=>qm o rfl fun a o=>re<|tn<|?_
 exact ⟨(nn2,(IntKind.i64.wrap (vB1+1))),⟨hm,o.hs,u⟩,Nat.lt_succ_self _⟩
 replace hm:=itp_f hm hb6
 refine tn<|th<|cfv o rfl hb6<|we<|tx<|tx<|bx<|tn<|?_
 exact ⟨hm,o.has trivial,u⟩
 rintro a w ⟨hm,o,u⟩
 unfold Z93 at hm
 refine th<|rg<|qa o rfl fun a o=>re<|tn<|wr<|?_
 obtain rfl:=si hm
 exact r1 o results130 rfl ⟨rfl,u.keep⟩
theorem Z8f_c (hH:H.le w0) (hT:Tab H) {oa2:Option Addr} {cap3:Nat} {p1:(List api_Thread)} (hc4:p1.length≤cap3) (hr5:SR H oa2 p1) {r:Bool} (hm:Z8f N p1=some r):Tot Tryz.prog 89 #[.slice oa2 p1.length cap3,.func (.func 81) #[] #[]] w0 (fun v w'=>v=.bool r∧Keep Nil w0 w'):=by
 unfold Z8f at hm
 refine fn0 func89 rfl ntmps89 rfl rfl fun a o=>?_
 have u:St w0 Nil [H] [] w0:=start1 hH
 refine th<|rg<|qa o rfl fun a o=>re<|tn<|th<|?_
 obtain ⟨rz6,h7,hm⟩:=bs hm
 refine rg<|qm o rfl fun a o=>qm o rfl fun a o=>ls<|cq o call130 (Z92_c (hp_le _) (Tab.mono hT (St.up u)) hc4 (St.srH u hr5) h7) ⟨rfl,rfl,trivial⟩ u fun w a u o=>qv o (e_geq o rfl rfl) fun a o=>qa o rfl fun a o=>re<|tn<|wr<|?_
 obtain rfl:=si hm
 exact r1 o results89 rfl ⟨rfl,u.keep⟩
theorem Z7j_c (hH:H.le w0) (hT:Tab H) {cs2:List Value} {p1:api_Thread} (g3:Enc.rep H cs2 p1) {r:Bool} (hm:Z7j N p1=some r):Tot Tryz.prog 84 #[.agg cs2.toArray] w0 (fun v w'=>v=.bool r∧Keep Nil w0 w'):=by
 unfold Z7j at hm
 refine fn0 func84 rfl ntmps84 rfl rfl fun a o=>?_
 have u:St w0 Nil [H] [] w0:=start1 hH
 obtain ⟨oa4,cap5,oa8,cap9,rfl,hc6,hr7,hc10,hr11⟩:=api_Thread_open g3
 refine th<|rg<|ls<|a_box (cs:=[strv p1.Name,.slice oa4 p1.Regs.length cap5,.slice oa8 p1.Body.length cap9,i6 p1.At].toArray) o rfl u rfl rfl fun b12 w a u o=>qa o rfl fun a o=>re<|tn<|th<|?_
 rcases bdich (decide (p1.Name≠[])) with hb13 | hb13
 replace hm:=itp_t hm hb13
 refine rg<|qv o (e_fa o fa48_0 rfl) fun a o=>qv o (e_ld o isAgg9 rfl ((St.ld u).cellB t0 rfl)) fun a o=>qv o (e_neqU (m:=p1.Name) (n:=[]) o rfl rfl) fun a o=>qv o (e_as (e_move o rfl) (congrArg Value.bool hb13)) fun a o=>?_
 iterate 3 refine qn o fun a o=>?_
 refine qv o (e_pickT o rfl rfl) fun a o=>qa o rfl fun a o=>re<|tn<|wr<|?_
 obtain rfl:=si hm
 exact r1 o results84 rfl ⟨rfl,u.keep⟩
 replace hm:=itp_f hm hb13
 obtain ⟨r14,h15,hm⟩:=bs hm
 refine rg<|qv o (e_fa o fa48_0 rfl) fun a o=>qv o (e_ld o isAgg9 rfl ((St.ld u).cellB t0 rfl)) fun a o=>qv o (e_neqU (m:=p1.Name) (n:=[]) o rfl rfl) fun a o=>qv o (e_as (e_move o rfl) (congrArg Value.bool hb13)) fun a o=>qg o (e_ldA o isAgg48 sizeOf48 rfl rfl ((St.ld u).cellsB t0)) fun a o=>ls<|gy o rfl rfl<|cq o call83 (Z7p_c (hp_le _) (Tab.mono hT (St.up u)) (Enc.mono (St.up u) (show Enc.rep (α:=api_Thread) H [strv p1.Name,.slice oa4 p1.Regs.length cap5,.slice oa8 p1.Body.length cap9,i6 p1.At] p1 from ⟨_,_,rfl,rfl,⟨_,_,rfl,⟨_,_,rfl,hc6,hr7⟩,⟨_,_,rfl,⟨_,_,rfl,hc10,hr11⟩,rfl⟩⟩⟩)) h15) ⟨rfl,trivial⟩ u fun w a u o=>qg o (e_not o rfl) fun a o=>qv o (e_pickF o rfl rfl) fun a o=>qa o rfl fun a o=>re<|tn<|wr<|?_
 obtain rfl:=si hm
 exact r1 o results84 rfl ⟨rfl,u.keep⟩
theorem Z95_c (hH:H.le w0) (hT:Tab H) {oa2:Option Addr} {cap3:Nat} {p1:(List api_Thread)} (_:p1.length≤cap3) (hr5:SR H oa2 p1) {r:Int} (hm:Z95 N p1=some r):Tot Tryz.prog 130 #[.slice oa2 p1.length cap3,.func (.func 84) #[] #[]] w0 (fun v w'=>v=i6 r∧Keep Nil w0 w'):=by
 unfold Z95 at hm
 refine fn0 func130 rfl ntmps130 rfl rfl fun a o=>?_
 have u:St w0 Nil [H] [] w0:=start1 hH
 refine th<|rg<|qa o rfl fun a o=>re<|tn<|th<|th<|rg<|qm o rfl fun a o=>qv o (e_lenL (α:=api_Thread) (xs:=p1) o runUnderlying24 rfl) fun a o=>qm o rfl fun a o=>re<|tn<|midK (fun a w=>Z96=some r∧Fr 19 [] a∧St w0 Nil [H] [] w) ?_ ?_
 refine wb<|lp (α:=Nat×Int) (fun gh a w=>match gh with | (nn2,vB1)=>(Z97 N Z96 p1) nn2 vB1=some r∧Fr 19 [(0,.slice oa2 p1.length cap3),(1,.func (.func 84) #[] #[]),(7,i6 (p1.length:Int)),(8,i6 vB1)] a∧St w0 Nil [H] [] w) (fun gh=>gh.1) (N,0) ⟨hm,o.hs,u⟩ ?_
 rintro ⟨nn2,vB1⟩ a w ⟨hm,o,u⟩
 obtain _ | nn2:=nn2
 simp [Z97] at hm
 rw [Z97] at hm
 refine th<|rg<|qv o (e_lss o rfl rfl) fun a o=>re<|?_
 rcases bdich (decide (vB1 < (p1.length:Int))) with hb6 | hb6
 replace hm:=itp_t hm hb6
 refine tn<|th<|ctv o rfl hb6<|wk<|tn<|th<|wb<|th<|rg<|qm o rfl fun a o=>qa o rfl fun a o=>re<|tn<|th<|?_
 obtain ⟨xz7,h8,hm⟩:=bs hm
 obtain ⟨cz9,g10,hl11⟩:=SR.get hr5 h8
 obtain ⟨oa12,cap13,oa16,cap17,rfl,hc14,hr15,hc18,hr19⟩:=api_Thread_open g10
 obtain ⟨r20,h21,hm⟩:=bs hm
 refine rg<|qm o rfl fun a o=>?_
 iterate 2 refine qm o rfl fun a o=>?_
 refine qv o (e_iaI o runUnderlying24 sizeOf48 rfl rfl h8 (SR.oaI hr5 (by decide) h8)) fun a o=>qv o (e_ldA o isAgg48 sizeOf48 rfl rfl (fun j v hj=>PH.le.cell (Lds.le (St.ld u)) (hl11 j v hj))) fun a o=>ls<|k1 (vs:=[.agg #[strv xz7.Name,.slice oa12 xz7.Regs.length cap13,.slice oa16 xz7.Body.length cap17,i6 xz7.At]]) (caps:=[]) o rfl rfl call84 (Z7j_c (hp_le _) (Tab.mono hT (St.up u)) (Enc.mono (St.up u) (show Enc.rep (α:=api_Thread) H [strv xz7.Name,.slice oa12 xz7.Regs.length cap13,.slice oa16 xz7.Body.length cap17,i6 xz7.At] xz7 from ⟨_,_,rfl,rfl,⟨_,_,rfl,⟨_,_,rfl,hc14,hr15⟩,⟨_,_,rfl,⟨_,_,rfl,hc18,hr19⟩,rfl⟩⟩⟩)) h21) ⟨rfl,trivial⟩ rfl (fun v w a hR o=>?_)
 obtain ⟨rfl,hk⟩:=hR
 replace u:=u.pass hk
 refine re<|?_
 rcases bdich r20 with hb22 | hb22
 replace hm:=ite_t hm hb22
 refine tn<|ctv o rfl hb22<|th<|rg<|qm o rfl fun a o=>qa o rfl fun a o=>re<|tn<|wr<|br<|tr<|tr<|br<|tr<|?_
 obtain rfl:=si hm
 exact r1 o results130 rfl ⟨rfl,u.keep⟩
 replace hm:=ite_f hm hb22
 refine tn<|cfv o rfl hb22<|wk<|bn<|tn<|rg<|qv o (e_add o rfl rfl) fun a o=>qm o rfl fun a o=>re<|tn<|?_
 exact ⟨(nn2,(IntKind.i64.wrap (vB1+1))),⟨hm,o.hs,u⟩,Nat.lt_succ_self _⟩
 replace hm:=itp_f hm hb6
 refine tn<|th<|cfv o rfl hb6<|we<|tx<|tx<|bx<|tn<|?_
 exact ⟨hm,o.has trivial,u⟩
 rintro a w ⟨hm,o,u⟩
 unfold Z96 at hm
 refine th<|rg<|qa o rfl fun a o=>re<|tn<|wr<|?_
 obtain rfl:=si hm
 exact r1 o results130 rfl ⟨rfl,u.keep⟩
theorem Z8g_c (hH:H.le w0) (hT:Tab H) {oa2:Option Addr} {cap3:Nat} {p1:(List api_Thread)} (hc4:p1.length≤cap3) (hr5:SR H oa2 p1) {r:Bool} (hm:Z8g N p1=some r):Tot Tryz.prog 89 #[.slice oa2 p1.length cap3,.func (.func 84) #[] #[]] w0 (fun v w'=>v=.bool r∧Keep Nil w0 w'):=by
 unfold Z8g at hm
 refine fn0 func89 rfl ntmps89 rfl rfl fun a o=>?_
 have u:St w0 Nil [H] [] w0:=start1 hH
 refine th<|rg<|qa o rfl fun a o=>re<|tn<|th<|?_
 obtain ⟨rz6,h7,hm⟩:=bs hm
 refine rg<|qm o rfl fun a o=>qm o rfl fun a o=>ls<|cq o call130 (Z95_c (hp_le _) (Tab.mono hT (St.up u)) hc4 (St.srH u hr5) h7) ⟨rfl,rfl,trivial⟩ u fun w a u o=>qv o (e_geq o rfl rfl) fun a o=>qa o rfl fun a o=>re<|tn<|wr<|?_
 obtain rfl:=si hm
 exact r1 o results89 rfl ⟨rfl,u.keep⟩
theorem Z7k_c (hH:H.le w0) (hT:Tab H) {cs2:List Value} {p1:api_Claim} (g3:Enc.rep H cs2 p1) {r:Bool} (hm:Z7k N p1=some r):Tot Tryz.prog 85 #[.agg cs2.toArray] w0 (fun v w'=>v=.bool r∧Keep Nil w0 w'):=by
 unfold Z7k at hm
 refine fn0 func85 rfl ntmps85 rfl rfl fun a o=>?_
 have u:St w0 Nil [H] [] w0:=start1 hH
 obtain ⟨oa4,cap5,rfl,hc6,hr7⟩:=api_Claim_open g3
 refine th<|rg<|ls<|a_box (cs:=[.slice oa4 p1.E.length cap5,i6 p1.At].toArray) o rfl u rfl rfl fun b8 w a u o=>qa o rfl fun a o=>re<|tn<|th<|?_
 obtain ⟨rz9,h10,hm⟩:=bs hm
 rcases bdich rz9 with hb11 | hb11
 replace hm:=ite_t hm hb11
 have hb11':(!rz9)=false:=by rw [hb11];rfl
 obtain ⟨r12,h13,hm⟩:=bs hm
 refine rg<|qv o (e_fa o fa74_1 rfl) fun a o=>qv o (e_ld o isAgg3 rfl ((St.ld u).cellB t0 rfl)) fun a o=>ls<|cq o call86 (Z7o_c (hp_le _) h10) ⟨rfl,trivial⟩ u fun w a u o=>qv o (e_not o rfl) fun a o=>qv o (e_as (e_move o rfl) (congrArg Value.bool hb11')) fun a o=>qg o (e_fa o fa74_0 rfl) fun a o=>qg o (e_ld o isAgg49 rfl ((St.ld u).cellB t0 rfl)) fun a o=>ls<|gy o rfl rfl<|cq o call87 (Z5_c (hp_le _) (Tab.mono hT (St.up u)) hc6 (St.srH u hr7) h13) ⟨rfl,trivial⟩ u fun w a u o=>qg o (e_not o rfl) fun a o=>qv o (e_pickF o rfl rfl) fun a o=>qa o rfl fun a o=>re<|tn<|wr<|?_
 obtain rfl:=si hm
 exact r1 o results85 rfl ⟨rfl,u.keep⟩
 replace hm:=ite_f hm hb11
 have hb11':(!rz9)=true:=by rw [hb11];rfl
 refine rg<|qv o (e_fa o fa74_1 rfl) fun a o=>qv o (e_ld o isAgg3 rfl ((St.ld u).cellB t0 rfl)) fun a o=>ls<|cq o call86 (Z7o_c (hp_le _) h10) ⟨rfl,trivial⟩ u fun w a u o=>qv o (e_not o rfl) fun a o=>qv o (e_as (e_move o rfl) (congrArg Value.bool hb11')) fun a o=>?_
 iterate 4 refine qn o fun a o=>?_
 refine qv o (e_pickT o rfl rfl) fun a o=>qa o rfl fun a o=>re<|tn<|wr<|?_
 obtain rfl:=si hm
 exact r1 o results85 rfl ⟨rfl,u.keep⟩
theorem Z8t_c (hH:H.le w0) (hT:Tab H) {oa2:Option Addr} {cap3:Nat} {p1:(List api_Claim)} (_:p1.length≤cap3) (hr5:SR H oa2 p1) {r:Int} (hm:Z8t N p1=some r):Tot Tryz.prog 131 #[.slice oa2 p1.length cap3,.func (.func 85) #[] #[]] w0 (fun v w'=>v=i6 r∧Keep Nil w0 w'):=by
 unfold Z8t at hm
 refine fn0 func131 rfl ntmps131 rfl rfl fun a o=>?_
 have u:St w0 Nil [H] [] w0:=start1 hH
 refine th<|rg<|qa o rfl fun a o=>re<|tn<|th<|th<|rg<|qm o rfl fun a o=>qv o (e_lenL (α:=api_Claim) (xs:=p1) o runUnderlying25 rfl) fun a o=>qm o rfl fun a o=>re<|tn<|midK (fun a w=>Z8u=some r∧Fr 19 [] a∧St w0 Nil [H] [] w) ?_ ?_
 refine wb<|lp (α:=Nat×Int) (fun gh a w=>match gh with | (nn2,vB1)=>(Z8v N Z8u p1) nn2 vB1=some r∧Fr 19 [(0,.slice oa2 p1.length cap3),(1,.func (.func 85) #[] #[]),(7,i6 (p1.length:Int)),(8,i6 vB1)] a∧St w0 Nil [H] [] w) (fun gh=>gh.1) (N,0) ⟨hm,o.hs,u⟩ ?_
 rintro ⟨nn2,vB1⟩ a w ⟨hm,o,u⟩
 obtain _ | nn2:=nn2
 simp [Z8v] at hm
 rw [Z8v] at hm
 refine th<|rg<|qv o (e_lss o rfl rfl) fun a o=>re<|?_
 rcases bdich (decide (vB1 < (p1.length:Int))) with hb6 | hb6
 replace hm:=itp_t hm hb6
 refine tn<|th<|ctv o rfl hb6<|wk<|tn<|th<|wb<|th<|rg<|qm o rfl fun a o=>qa o rfl fun a o=>re<|tn<|th<|?_
 obtain ⟨xz7,h8,hm⟩:=bs hm
 obtain ⟨cz9,g10,hl11⟩:=SR.get hr5 h8
 obtain ⟨oa12,cap13,rfl,hc14,hr15⟩:=api_Claim_open g10
 obtain ⟨r16,h17,hm⟩:=bs hm
 refine rg<|qm o rfl fun a o=>?_
 iterate 2 refine qm o rfl fun a o=>?_
 refine qv o (e_iaI o runUnderlying25 sizeOf74 rfl rfl h8 (SR.oaI hr5 (by decide) h8)) fun a o=>qv o (e_ldA o isAgg74 sizeOf74 rfl rfl (fun j v hj=>PH.le.cell (Lds.le (St.ld u)) (hl11 j v hj))) fun a o=>ls<|k1 (vs:=[.agg #[.slice oa12 xz7.E.length cap13,i6 xz7.At]]) (caps:=[]) o rfl rfl call85 (Z7k_c (hp_le _) (Tab.mono hT (St.up u)) (Enc.mono (St.up u) (show Enc.rep (α:=api_Claim) H [.slice oa12 xz7.E.length cap13,i6 xz7.At] xz7 from ⟨_,_,rfl,⟨_,_,rfl,hc14,hr15⟩,rfl⟩)) h17) ⟨rfl,trivial⟩ rfl (fun v w a hR o=>?_)
 obtain ⟨rfl,hk⟩:=hR
 replace u:=u.pass hk
 refine re<|?_
 rcases bdich r16 with hb18 | hb18
 replace hm:=ite_t hm hb18
 refine tn<|ctv o rfl hb18<|th<|rg<|qm o rfl fun a o=>qa o rfl fun a o=>re<|tn<|wr<|br<|tr<|tr<|br<|tr<|?_
 obtain rfl:=si hm
 exact r1 o results131 rfl ⟨rfl,u.keep⟩
 replace hm:=ite_f hm hb18
 refine tn<|cfv o rfl hb18<|wk<|bn<|tn<|rg<|qv o (e_add o rfl rfl) fun a o=>qm o rfl fun a o=>re<|tn<|?_
 exact ⟨(nn2,(IntKind.i64.wrap (vB1+1))),⟨hm,o.hs,u⟩,Nat.lt_succ_self _⟩
 replace hm:=itp_f hm hb6
 refine tn<|th<|cfv o rfl hb6<|we<|tx<|tx<|bx<|tn<|?_
 exact ⟨hm,o.has trivial,u⟩
 rintro a w ⟨hm,o,u⟩
 unfold Z8u at hm
 refine th<|rg<|qa o rfl fun a o=>re<|tn<|wr<|?_
 obtain rfl:=si hm
 exact r1 o results131 rfl ⟨rfl,u.keep⟩
theorem Z8c_c (hH:H.le w0) (hT:Tab H) {oa2:Option Addr} {cap3:Nat} {p1:(List api_Claim)} (hc4:p1.length≤cap3) (hr5:SR H oa2 p1) {r:Bool} (hm:Z8c N p1=some r):Tot Tryz.prog 90 #[.slice oa2 p1.length cap3,.func (.func 85) #[] #[]] w0 (fun v w'=>v=.bool r∧Keep Nil w0 w'):=by
 unfold Z8c at hm
 refine fn0 func90 rfl ntmps90 rfl rfl fun a o=>?_
 have u:St w0 Nil [H] [] w0:=start1 hH
 refine th<|rg<|qa o rfl fun a o=>re<|tn<|th<|?_
 obtain ⟨rz6,h7,hm⟩:=bs hm
 refine rg<|qm o rfl fun a o=>qm o rfl fun a o=>ls<|cq o call131 (Z8t_c (hp_le _) (Tab.mono hT (St.up u)) hc4 (St.srH u hr5) h7) ⟨rfl,rfl,trivial⟩ u fun w a u o=>qv o (e_geq o rfl rfl) fun a o=>qa o rfl fun a o=>re<|tn<|wr<|?_
 obtain rfl:=si hm
 exact r1 o results90 rfl ⟨rfl,u.keep⟩
end Go.LM.LB
