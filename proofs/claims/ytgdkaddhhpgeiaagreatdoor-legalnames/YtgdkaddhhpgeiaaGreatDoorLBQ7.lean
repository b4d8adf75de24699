/- Walks, lifted by program. No condition beyond the theorems' own premises. -/
import Derived.Test.YtgdkaddhhpgeiaaGreatDoorLBQ6
namespace Go.LM.LB
open Go Go.LL Go.MD Go.LM Go.Proofs Go.MD.LB Go.Proofs.Tryz
set_option maxRecDepth 100000
variable {N:Nat} {w0:World} {H:PH}
theorem Z5n_c (hH:H.le w0) {cs2:List Value} {p1:api_Prog} (g3:Enc.rep H cs2 p1) {r:(List Str)} (hm:Z5n N p1=some r):Tot Tryz.prog 20 #[.agg cs2.toArray] w0 (fun v w'=>∃ (oa0:Option Addr) (cap0:Nat) (vs0:List Value),v=.slice oa0 r.length cap0∧(∀ h,Rows h vs0 r)∧Fresh w0 (sla 9 1 oa0 r.length cap0 vs0) w'):=by
 unfold Z5n at hm
 refine fnM func20 rfl ntmps20 rfl rfl fun a o=>?_
 have u:St w0 Nil [H] [] w0:=start1 hH
 replace u:=St.ds0 u
 obtain ⟨oa4,cap5,oa8,cap9,oa12,cap13,oa16,cap17,oa20,cap21,oa24,cap25,rfl,hc6,hr7,hc10,hr11,hc14,hr15,hc18,hr19,hc22,hr23,hc26,hr27⟩:=api_Prog_open g3
 refine th<|rg<|ls<|a_box (cs:=[.slice oa4 p1.Lines.length cap5,.slice oa8 p1.Vols.length cap9,.slice oa12 p1.Locks.length cap13,.slice oa16 p1.Threads.length cap17,.slice oa20 p1.Recover.length cap21,.slice oa24 p1.Claims.length cap25].toArray) o rfl u rfl rfl fun b28 w a u o=>qa o rfl fun a o=>re<|tn<|th<|rg<|ls<|a_alloc (cs:=[.slice none 0 0].toArray) o rfl u Tryz.zeroValue36 rfl fun b29 w a u o=>re<|tn<|th<|th<|?_
 obtain ⟨r30,h31,hm⟩:=bs hm
 refine rg<|qv o (e_ldA o Tryz.isAgg27 Tryz.sizeOf27 rfl rfl ((St.ld u).cellsB t1)) fun a o=>ls<|c1 o rfl call65 (Z6c_c (St.le u) (show Enc.rep (α:=api_Prog) H [.slice oa4 p1.Lines.length cap5,.slice oa8 p1.Vols.length cap9,.slice oa12 p1.Locks.length cap13,.slice oa16 p1.Threads.length cap17,.slice oa20 p1.Recover.length cap21,.slice oa24 p1.Claims.length cap25] p1 from ⟨_,_,rfl,⟨_,_,rfl,hc6,hr7⟩,⟨_,_,rfl,⟨_,_,rfl,hc10,hr11⟩,⟨_,_,rfl,⟨_,_,rfl,hc14,hr15⟩,⟨_,_,rfl,⟨_,_,rfl,hc18,hr19⟩,⟨_,_,rfl,⟨_,_,rfl,hc22,hr23⟩,⟨_,_,rfl,hc26,hr27⟩⟩⟩⟩⟩⟩) h31) ⟨rfl,trivial⟩ (fun v w a hR o=>?_)
 obtain ⟨H35,b36,cs38,rfl,hb37,g39,hx32,hl33,hk⟩:=hR
 obtain ⟨u,hx32⟩:=And.intro (St.passH u hk hx32 hl33) (St.extc u hx32)
 obtain ⟨oa40,cap41,oa44,cap45,oa48,cap49,oa52,cap53,oa56,cap57,oa60,cap61,rfl,hc42,hr43,hc46,hr47,hc50,hr51,hc54,hr55,hc58,hr59,hc62,hr63⟩:=api_Prog_open g39
 refine re<|tn<|wb<|?_
 replace o:Fr 15 [(3,.pointer (some ⟨b29,0,none⟩)),(6,.func (.func 108) #[] #[.pointer (some ⟨b36,0,none⟩)])] _:=o.has ⟨rfl,rfl,trivial⟩
 replace u:=St.nilS u 9 1
 replace u:=u.pk [3,0,0] rfl
 obtain ⟨q64,h65,hm⟩:=bs hm
 refine rf (ŝ:=q64) (lb:=[.pointer (some ⟨b36,0,none⟩)]) (ps:=[7,8]) (I:=fun (vA2:(List Str)) (HA1:PH) (L:List HA)=>∃ (oaA3:Option Addr) (capA4:Nat) (vsA5:List Value),L=[sla 9 1 oaA3 vA2.length capA4 vsA5,blk b29 (.cells [.slice oaA3 vA2.length capA4].toArray 36 (0,0))]∧(∀ b o,H35 b=some o→HA1 b=some o)∧Rows HA1 vsA5 vA2) (J:=fun (_:Empty) (_:Code) (_:PH) (_:List HA)=>False) (fun (s:(List Str)) (x:(api_Cell×Int))=>Z5o s x) (fun (H:PH) (args:List Value) (x:api_Cell×Int)=>∃ (cs0:List Value),args=[.agg cs0.toArray,i6 x.2]∧Enc.rep H cs0 x.1) o rfl call108 rfl (by rintro H args x ⟨_,rfl,_⟩;rfl) u ⟨none,0,[],rfl,i2,.nil⟩ (by rintro vA2 H Hn L hs ⟨oaA3,capA4,vsA5,rfl,hu,hvA6⟩;exact ⟨_,_,_,rfl,(cp hs hu),(hvA6.mono hs)⟩) (fun t=>t.elim) (fun lq C Lc w1 hyc hcm hc hle hok hdis=>hit_of (Z6d_c hle hyc hcm hc (show Enc.rep (α:=api_Prog) H35 [.slice oa40 r30.Lines.length cap41,.slice oa44 r30.Vols.length cap45,.slice oa48 r30.Locks.length cap49,.slice oa52 r30.Threads.length cap53,.slice oa56 r30.Recover.length cap57,.slice oa60 r30.Claims.length cap61] r30 from ⟨_,_,rfl,⟨_,_,rfl,hc42,hr43⟩,⟨_,_,rfl,⟨_,_,rfl,hc46,hr47⟩,⟨_,_,rfl,⟨_,_,rfl,hc50,hr51⟩,⟨_,_,rfl,⟨_,_,rfl,hc54,hr55⟩,⟨_,_,rfl,⟨_,_,rfl,hc58,hr59⟩,⟨_,_,rfl,hc62,hr63⟩⟩⟩⟩⟩⟩) hb37 (sep1_ok hok) (sep1_dis hdis) h65)) ?_ ?_ ?_
 intro l X Y s xe124 r HA1 Lu args w0 a K Qr hI hex hm o u hK hN hR
 obtain ⟨vA2,hsq⟩:∃ v,v=s:=⟨_,rfl⟩
 subst hsq
 obtain ⟨oaA3,capA4,vsA5,rfl,hxHA1,hvA6⟩:=hI
 replace hm:Z5o vA2 xe124=some r:=hm
 unfold Z5o at hm
 obtain ⟨cs125,rfl,g126⟩:=hex
 replace o:Fr 15 [(8,i6 xe124.2),(7,.agg cs125.toArray),(3,.pointer (some ⟨b29,0,none⟩)),(6,.func (.func 108) #[] #[.pointer (some ⟨b36,0,none⟩)])] a:=o
 obtain rfl:=api_Cell_open g126
 refine rg<|ls<|a_alloc (cs:=[strv [],i6 0,i6 0].toArray) o rfl u Tryz.zeroValue53 rfl fun b127 w a u o=>ls<|s_blkA o u sizeOf53 rfl rfl rfl rfl (one_cells rfl) .head fun w u=>re<|?_
 replace u:=u.pk [1,0,0,0] rfl
 refine tn<|hK _ _ _ _ u fun w u=>wb<|?_
 obtain ⟨l131,h132,hm⟩:=bs hm
 refine rg<|qv o (e_ld o Tryz.isAgg36 rfl ((St.ld u).cellB t3 rfl)) fun a o=>qv o (e_fa o fa53_0 rfl) fun a o=>qv o (e_ld o isAgg9 rfl ((St.ld u).cellB t1 rfl)) fun a o=>ls<|a_bsl (e:=9) (sz:=1) [strv xe124.1.Name] o rfl u rfl rfl rfl (fun w=>by kernel_rfl) fun b129 w a u o=>?_
 have hv128:Rows (α:=Str) HA1 [strv xe124.1.Name] ([xe124.1.Name]:List Str):=(.cons (c:=[strv xe124.1.Name]) rfl .nil)
 refine ls<|m_app (α:=Str) (xs:=vA2) (ys:=([xe124.1.Name]:List Str)) o rfl u underlying36 info9 rfl (by decide) rfl rfl rfl t3 hvA6 (u.rdO t0) hv128 h132 fun oa133 cap134 vs135 w a hv136 hU o=>?_
 replace u:=hU _ (.tail (.tail (.tail .head)))
 replace u:=u.drop .head
 refine ls<|s_blk o u sizeOf36 rfl rfl rfl rfl (.tail (.tail (.tail .head))) .zero fun w u=>re<|bn<|?_
 obtain rfl:=si hm
 replace u:=u.pk [0,1,1] rfl
 exact hN _ _ _ _ _ rfl (ExtM.refl _ _ _) ⟨oa133,cap134,vs135,rfl,hxHA1,hv136⟩ u
 rintro vA2 D137 HA1 Lu a w rfl ⟨oaA3,capA4,vsA5,rfl,huHA1,hvA6⟩ hx138 o u
 replace hx138:=ExtM.nil hx138
 try dsimp only at hm
 replace o:Fr ⟨15,(D137 :: [])⟩ [(3,.pointer (some ⟨b29,0,none⟩)),(6,.func (.func 108) #[] #[.pointer (some ⟨b36,0,none⟩)])] a:=o
 replace u:St w0 Nil [HA1] [dsA (D137 :: []),sla 9 1 oaA3 vA2.length capA4 vsA5,blk b29 (.cells [.slice oaA3 vA2.length capA4].toArray 36 (0,0))] w:=u
 refine bn<|tn<|th<|rg<|qv o (e_ld o Tryz.isAgg36 rfl ((St.ld u).cellB t2 rfl)) fun a o=>qa o rfl fun a o=>re<|tn<|wr<|?_
 obtain rfl:=si hm
 exact rM (.inl rfl) o u fun w u=>⟨_,res1t o rfl rfl,⟨_,_,_,rfl,(fun _=>Rows.ind hvA6),u.endFresh t0⟩⟩
 exact fun t=>t.elim
theorem Z5i_c (hH:H.le w0) {oa2:Option Addr} {cap3:Nat} {p1:(List Str)} (hc4:p1.length≤cap3) (hr5:SR H oa2 p1) {oa7:Option Addr} {cap8:Nat} {p6:(List Str)} (hc9:p6.length≤cap8) (hr10:SR H oa7 p6) {r:Bool} (hm:Z5i N p1 p6=some r):Tot Tryz.prog 21 #[.slice oa2 p1.length cap3,.slice oa7 p6.length cap8] w0 (fun v w'=>v=.bool r∧Keep Nil w0 w'):=by
 unfold Z5i at hm
 refine fn0 func21 rfl ntmps21 rfl rfl fun a o=>?_
 have u:St w0 Nil [H] [] w0:=start1 hH
 refine th<|rg<|qa o rfl fun a o=>re<|tn<|th<|th<|rg<|qm o rfl fun a o=>qv o (e_lenL (α:=Str) (xs:=p1) o runUnderlying36 rfl) fun a o=>qm o rfl fun a o=>qv o (e_lenL (α:=Str) (xs:=p6) o runUnderlying36 rfl) fun a o=>qv o (e_neq o rfl rfl) fun a o=>re<|?_
 rcases bdich (decide ((p1.length:Int)≠(p6.length:Int))) with hb11 | hb11
 replace hm:=itp_t hm hb11
 refine tn<|ctv o rfl hb11<|th<|rg<|qa o rfl fun a o=>re<|tn<|wr<|tr<|?_
 obtain rfl:=si hm
 exact r1 o results21 rfl ⟨rfl,u.keep⟩
 replace hm:=itp_f hm hb11
 refine tn<|cfv o rfl hb11<|wk<|tn<|th<|th<|rg<|qa o rfl fun a o=>re<|tn<|midK (fun a w=>Z5j=some r∧Fr 26 [] a∧St w0 Nil [H] [] w) ?_ ?_
 refine wb<|lp (α:=Nat×Int) (fun gh a w=>match gh with | (nn2,vB1)=>(Z5k N Z5j p1 p6) nn2 vB1=some r∧Fr 26 [(0,.slice oa2 p1.length cap3),(1,.slice oa7 p6.length cap8),(5,i6 vB1)] a∧St w0 Nil [H] [] w) (fun gh=>gh.1) (N,0) ⟨hm,o.hs,u⟩ ?_
 rintro ⟨nn2,vB1⟩ a w ⟨hm,o,u⟩
 obtain _ | nn2:=nn2
 simp [Z5k] at hm
 rw [Z5k] at hm
 refine th<|th<|rg<|qm o rfl fun a o=>qm o rfl fun a o=>qv o (e_lenL (α:=Str) (xs:=p1) o runUnderlying36 rfl) fun a o=>qv o (e_lss o rfl rfl) fun a o=>re<|?_
 rcases bdich (decide (vB1 < (p1.length:Int))) with hb12 | hb12
 replace hm:=itp_t hm hb12
 refine tn<|ctv o rfl hb12<|wk<|tn<|th<|wb<|th<|?_
 obtain ⟨x13,h14,hm⟩:=bs hm
 obtain ⟨c15,g16,hl17⟩:=SR.get hr5 h14
 obtain rfl:c15=[strv x13]:=g16
 obtain ⟨x18,h19,hm⟩:=bs hm
 obtain ⟨c20,g21,hl22⟩:=SR.get hr10 h19
 obtain rfl:c20=[strv x18]:=g21
 refine rxS 9 u wide (by kernel_rfl) fun w u=>?_
 iterate 2 refine xq (St.ld u) o (fun w hl=>e_move o rfl) fun a o=>?_
 refine xr u o (e_iaI o runUnderlying36 sizeOf9 rfl rfl h14 (SR.oaI hr5 (by decide) h14)) fun a o=>xq (St.ld u) o (fun w hl=>e_ld o isAgg9 rfl (PH.le.cell (Lds.le hl) (hl17 0 _ rfl))) fun a o=>?_
 iterate 2 refine xq (St.ld u) o (fun w hl=>e_move o rfl) fun a o=>?_
 refine xr u o (e_iaI o runUnderlying36 sizeOf9 rfl rfl h19 (SR.oaI hr10 (by decide) h19)) fun a o=>xq (St.ld u) o (fun w hl=>e_ld o isAgg9 rfl (PH.le.cell (Lds.le hl) (hl22 0 _ rfl))) fun a o=>xr u o (e_neqU (m:=x13) (n:=x18) o rfl rfl) fun a o=>xe<|?_
 rcases bdich (decide (x13≠x18)) with hb23 | hb23
 replace hm:=itp_t hm hb23
 refine tn<|ctv o rfl hb23<|th<|rg<|qa o rfl fun a o=>re<|tn<|wr<|br<|tr<|tr<|br<|tr<|?_
 obtain rfl:=si hm
 exact r1 o results21 rfl ⟨rfl,u.keep⟩
 replace hm:=itp_f hm hb23
 refine tn<|cfv o rfl hb23<|wk<|bn<|tn<|rg<|qm o rfl fun a o=>qv o (e_add o rfl rfl) fun a o=>qa o rfl fun a o=>re<|tn<|?_
 exact ⟨(nn2,(IntKind.i64.wrap (vB1+1))),⟨hm,o.hs,u⟩,Nat.lt_succ_self _⟩
 replace hm:=itp_f hm hb12
 refine tn<|cfv o rfl hb12<|we<|tx<|tx<|bx<|tn<|?_
 exact ⟨hm,o.has trivial,u⟩
 rintro a w ⟨hm,o,u⟩
 unfold Z5j at hm
 refine th<|rg<|qa o rfl fun a o=>re<|tn<|wr<|?_
 obtain rfl:=si hm
 exact r1 o results21 rfl ⟨rfl,u.keep⟩
theorem Z69_c (hH:H.le w0) {cs2:List Value} {p1:api_Prog} (g3:Enc.rep H cs2 p1) {r:Int} (hm:Z69 N p1=some r):Tot Tryz.prog 23 #[.agg cs2.toArray] w0 (fun v w'=>v=i6 r∧Keep Nil w0 w'):=by
 unfold Z69 at hm
 refine fn0 func23 rfl ntmps23 rfl rfl fun a o=>?_
 have u:St w0 Nil [H] [] w0:=start1 hH
 obtain ⟨oa4,cap5,oa8,cap9,oa12,cap13,oa16,cap17,oa20,cap21,oa24,cap25,rfl,hc6,hr7,hc10,hr11,hc14,hr15,hc18,hr19,hc22,hr23,hc26,hr27⟩:=api_Prog_open g3
 refine th<|rg<|ls<|a_box (cs:=[.slice oa4 p1.Lines.length cap5,.slice oa8 p1.Vols.length cap9,.slice oa12 p1.Locks.length cap13,.slice oa16 p1.Threads.length cap17,.slice oa20 p1.Recover.length cap21,.slice oa24 p1.Claims.length cap25].toArray) o rfl u rfl rfl fun b28 w a u o=>qa o rfl fun a o=>re<|tn<|th<|rg<|qa o rfl fun a o=>re<|tn<|th<|th<|rg<|qv o (e_fa o fa27_0 rfl) fun a o=>qv o (e_ld o isAgg22 rfl ((St.ld u).cellB t0 rfl)) fun a o=>qv o (e_lenL (α:=(List api_Cell)) (xs:=p1.Lines) o runUnderlying22 rfl) fun a o=>qm o rfl fun a o=>re<|tn<|midK (fun a w=>∃ (vA1:Int),Z6a vA1=some r∧Fr 19 [(3,i6 vA1)] a∧St w0 Nil [H] [] w) ?_ ?_
 replace u:=u.pickL .nil
 refine wb<|lp (α:=Nat×Int×Int) (fun gh a w=>match gh with | (nn2,vB1,vB2)=>(Z6b N Z6a p1) nn2 vB1 vB2=some r∧Fr 19 [(3,i6 vB1),(7,.slice oa4 p1.Lines.length cap5),(8,i6 (p1.Lines.length:Int)),(9,i6 vB2)] a∧St w0 Nil [H] [] w) (fun gh=>gh.1) (N,0,0) ⟨hm,o.hs,u⟩ ?_
 rintro ⟨nn2,vB1,vB2⟩ a w ⟨hm,o,u⟩
 obtain _ | nn2:=nn2
 simp [Z6b] at hm
 rw [Z6b] at hm
 refine th<|rg<|qv o (e_lss o rfl rfl) fun a o=>re<|?_
 rcases bdich (decide (vB2 < (p1.Lines.length:Int))) with hb29 | hb29
 replace hm:=itp_t hm hb29
 refine tn<|th<|ctv o rfl hb29<|wk<|tn<|th<|wb<|th<|?_
 obtain ⟨x30,h31,hm⟩:=bs hm
 obtain ⟨c32,g33,hl34⟩:=SR.get hr7 h31
 obtain ⟨oa35,cap36,rfl,hc37,hr38⟩:=g33
 refine rg<|qv o (e_iaI o Tryz.runUnderlying22 Tryz.sizeOf23 rfl rfl h31 (SR.oaI hr7 (by decide) h31)) fun a o=>qv o (e_ld o isAgg23 rfl (PH.le.cell (Lds.le (St.ld u)) (hl34 0 _ rfl))) fun a o=>qa o rfl fun a o=>re<|tn<|rg<|qm o rfl fun a o=>qm o rfl fun a o=>qv o (e_lenL (α:=api_Cell) (xs:=x30) o runUnderlying23 rfl) fun a o=>qv o (e_add o rfl rfl) fun a o=>qa o rfl fun a o=>re<|bn<|tn<|rg<|qv o (e_add o rfl rfl) fun a o=>qm o rfl fun a o=>re<|tn<|?_
 exact ⟨(nn2,(IntKind.i64.wrap (vB1+(x30.length:Int))),(IntKind.i64.wrap (vB2+1))),⟨hm,o.hs,u⟩,Nat.lt_succ_self _⟩
 replace hm:=itp_f hm hb29
 refine tn<|th<|cfv o rfl hb29<|we<|tx<|tx<|bx<|tn<|?_
 exact ⟨vB1,hm,o.has ⟨rfl,trivial⟩,u⟩
 rintro a w ⟨vA1,hm,o,u⟩
 unfold Z6a at hm
 refine th<|rg<|qm o rfl fun a o=>qa o rfl fun a o=>re<|tn<|wr<|?_
 obtain rfl:=si hm
 exact r1 o results23 rfl ⟨rfl,u.keep⟩
theorem Z63_c (hH:H.le w0) {cs2:List Value} {p1:api_Prog} (g3:Enc.rep H cs2 p1) {p4:Int} {r:Int} (hm:Z63 N p1 p4=some r):Tot Tryz.prog 25 #[.agg cs2.toArray,i6 p4] w0 (fun v w'=>v=i6 r∧Keep Nil w0 w'):=by
 unfold Z63 at hm
 refine fnM func25 rfl ntmps25 rfl rfl fun a o=>?_
 have u:St w0 Nil [H] [] w0:=start1 hH
 replace u:=St.ds0 u
 obtain ⟨oa5,cap6,oa9,cap10,oa13,cap14,oa17,cap18,oa21,cap22,oa25,cap26,rfl,hc7,hr8,hc11,hr12,hc15,hr16,hc19,hr20,hc23,hr24,hc27,hr28⟩:=api_Prog_open g3
 refine th<|rg<|ls<|a_box (cs:=[.slice oa5 p1.Lines.length cap6,.slice oa9 p1.Vols.length cap10,.slice oa13 p1.Locks.length cap14,.slice oa17 p1.Threads.length cap18,.slice oa21 p1.Recover.length cap22,.slice oa25 p1.Claims.length cap26].toArray) o rfl u rfl rfl fun b29 w a u o=>ls<|a_box (cs:=[i6 p4].toArray) o rfl u rfl rfl fun b30 w a u o=>ls<|a_alloc (cs:=[i6 0].toArray) o rfl u zeroValue3 rfl fun b31 w a u o=>re<|tn<|th<|rg<|ls<|a_alloc (cs:=[i6 0].toArray) o rfl u Tryz.zeroValue3 rfl fun b32 w a u o=>ls<|s_blk o u sizeOf3 rfl rfl rfl rfl .head .zero fun w u=>re<|tn<|th<|th<|?_
 obtain ⟨r33,h34,hm⟩:=bs hm
 refine rg<|qv o (e_ldA o Tryz.isAgg27 Tryz.sizeOf27 rfl rfl ((St.ld u).cellsB t3)) fun a o=>ls<|c1 o rfl call65 (Z6c_c (St.le u) (show Enc.rep (α:=api_Prog) H [.slice oa5 p1.Lines.length cap6,.slice oa9 p1.Vols.length cap10,.slice oa13 p1.Locks.length cap14,.slice oa17 p1.Threads.length cap18,.slice oa21 p1.Recover.length cap22,.slice oa25 p1.Claims.length cap26] p1 from ⟨_,_,rfl,⟨_,_,rfl,hc7,hr8⟩,⟨_,_,rfl,⟨_,_,rfl,hc11,hr12⟩,⟨_,_,rfl,⟨_,_,rfl,hc15,hr16⟩,⟨_,_,rfl,⟨_,_,rfl,hc19,hr20⟩,⟨_,_,rfl,⟨_,_,rfl,hc23,hr24⟩,⟨_,_,rfl,hc27,hr28⟩⟩⟩⟩⟩⟩) h34) ⟨rfl,trivial⟩ (fun v w a hR o=>?_)
 obtain ⟨H38,b39,cs41,rfl,hb40,g42,hx35,hl36,hk⟩:=hR
 obtain ⟨u,hx35⟩:=And.intro (St.passH u hk hx35 hl36) (St.extc u hx35)
 obtain ⟨oa43,cap44,oa47,cap48,oa51,cap52,oa55,cap56,oa59,cap60,oa63,cap64,rfl,hc45,hr46,hc49,hr50,hc53,hr54,hc57,hr58,hc61,hr62,hc65,hr66⟩:=api_Prog_open g42
 refine re<|tn<|wb<|?_
 replace o:Fr 18 [(3,.pointer (some ⟨b30,0,none⟩)),(4,.pointer (some ⟨b31,0,none⟩)),(5,.pointer (some ⟨b32,0,none⟩)),(9,.func (.func 108) #[] #[.pointer (some ⟨b39,0,none⟩)])] _:=o.hs
 replace u:=u.pk [4,2,1,0] rfl
 obtain ⟨q67,h68,hm⟩:=bs hm
 refine rf (ŝ:=q67) (lb:=[.pointer (some ⟨b39,0,none⟩)]) (ps:=[10,11]) (I:=fun (vA2:Int) (HA1:PH) (L:List HA)=>L=[blk b30 (.cells [i6 p4].toArray 3 (0,0)),blk b31 (.cells [i6 0].toArray 3 (0,0)),blk b32 (.cells [i6 vA2].toArray 3 (0,0))]∧(∀ b o,H38 b=some o→HA1 b=some o)) (J:=fun (vA4:Int) (c:Code) (HA3:PH) (L:List HA)=>c=.ret∧L=[blk b31 (.cells [i6 vA4].toArray 3 (0,0))]∧(∀ b o,H38 b=some o→HA3 b=some o)) (fun (s:Int) (x:(api_Cell×Int))=>(Z64 p4) s x) (fun (H:PH) (args:List Value) (x:api_Cell×Int)=>∃ (cs0:List Value),args=[.agg cs0.toArray,i6 x.2]∧Enc.rep H cs0 x.1) o rfl call108 rfl (by rintro H args x ⟨_,rfl,_⟩;rfl) u ⟨rfl,i2⟩ (by rintro vA2 H Hn L hs ⟨rfl,hu⟩;exact ⟨rfl,(cp hs hu)⟩) (by rintro vA4 _ H Hn L hs ⟨rfl,rfl,hu⟩;exact ⟨rfl,rfl,(cp hs hu)⟩) (fun lq C Lc w1 hyc hcm hc hle hok hdis=>hit_of (Z6d_c hle hyc hcm hc (show Enc.rep (α:=api_Prog) H38 [.slice oa43 r33.Lines.length cap44,.slice oa47 r33.Vols.length cap48,.slice oa51 r33.Locks.length cap52,.slice oa55 r33.Threads.length cap56,.slice oa59 r33.Recover.length cap60,.slice oa63 r33.Claims.length cap64] r33 from ⟨_,_,rfl,⟨_,_,rfl,hc45,hr46⟩,⟨_,_,rfl,⟨_,_,rfl,hc49,hr50⟩,⟨_,_,rfl,⟨_,_,rfl,hc53,hr54⟩,⟨_,_,rfl,⟨_,_,rfl,hc57,hr58⟩,⟨_,_,rfl,⟨_,_,rfl,hc61,hr62⟩,⟨_,_,rfl,hc65,hr66⟩⟩⟩⟩⟩⟩) hb40 (sep1_ok hok) (sep1_dis hdis) h68)) ?_ ?_ ?_
 intro l X Y s xe127 r HA1 Lu args w0 a K Qr hI hex hm o u hK hN hR
 obtain ⟨vA2,hsq⟩:∃ v,v=s:=⟨_,rfl⟩
 subst hsq
 obtain ⟨rfl,hxHA1⟩:=hI
 replace hm:(Z64 p4) vA2 xe127=some r:=hm
 unfold Z64 at hm
 obtain ⟨cs128,rfl,g129⟩:=hex
 replace o:Fr 18 [(11,i6 xe127.2),(10,.agg cs128.toArray),(3,.pointer (some ⟨b30,0,none⟩)),(4,.pointer (some ⟨b31,0,none⟩)),(5,.pointer (some ⟨b32,0,none⟩)),(9,.func (.func 108) #[] #[.pointer (some ⟨b39,0,none⟩)])] a:=o
 obtain rfl:=api_Cell_open g129
 refine rg<|qa o rfl fun a o=>re<|tn<|hK _ _ _ _ u fun w u=>wb<|th<|th<|rg<|qv o (e_ld o Tryz.isAgg3 rfl ((St.ld u).cellB t3 rfl)) fun a o=>qv o (e_ld o isAgg3 rfl ((St.ld u).cellB t1 rfl)) fun a o=>qv o (e_eql o rfl rfl) fun a o=>re<|?_
 rcases bdich (decide (vA2=p4)) with hb130 | hb130
 replace hm:=itp_t hm hb130
 refine tn<|ctv o rfl hb130<|th<|rg<|qm o rfl fun a o=>ls<|s_blk o u sizeOf3 rfl rfl rfl rfl (.tail (.tail .head)) .zero fun w u=>re<|tn<|wr<|tr<|br<|?_
 obtain rfl:=si hm
 replace u:=u.pk [0,1] rfl
 exact hR _ _ _ _ _ _ _ rfl rfl (ExtM.refl _ _ _) ⟨rfl,rfl,hxHA1⟩ u
 replace hm:=itp_f hm hb130
 refine tn<|cfv o rfl hb130<|wk<|tn<|rg<|qv o (e_ld o Tryz.isAgg3 rfl ((St.ld u).cellB t3 rfl)) fun a o=>qv o (e_add o rfl rfl) fun a o=>ls<|s_blk o u sizeOf3 rfl rfl rfl rfl (.tail (.tail (.tail .head))) .zero fun w u=>re<|bn<|?_
 obtain rfl:=si hm
 exact hN _ _ _ _ _ rfl (ExtM.refl _ _ _) ⟨rfl,hxHA1⟩ u
 rintro vA2 D131 HA1 Lu a w rfl ⟨rfl,huHA1⟩ hx132 o u
 replace hx132:=ExtM.nil hx132
 try dsimp only at hm
 replace o:Fr ⟨18,(D131 :: [])⟩ [(3,.pointer (some ⟨b30,0,none⟩)),(4,.pointer (some ⟨b31,0,none⟩)),(5,.pointer (some ⟨b32,0,none⟩)),(9,.func (.func 108) #[] #[.pointer (some ⟨b39,0,none⟩)])] a:=o
 replace u:St w0 Nil [HA1] [dsA (D131 :: []),blk b30 (.cells [i6 p4].toArray 3 (0,0)),blk b31 (.cells [i6 0].toArray 3 (0,0)),blk b32 (.cells [i6 vA2].toArray 3 (0,0))] w:=u
 refine bn<|tn<|th<|rg<|ls<|s_blk o u Tryz.sizeOf3 rfl rfl rfl rfl (.tail (.tail .head)) .zero fun w u=>re<|tn<|wr<|?_
 obtain rfl:=si hm
 exact rM (.inl rfl) o u fun w u=>⟨_,res1k o rfl rfl isAgg3 ((St.ld u).cellB t1 rfl),⟨rfl,u.keep⟩⟩
 rintro vA4 _ D133 HA3 Lu a w rfl ⟨rfl,rfl,huHA3⟩ hx134 o u
 replace hx134:=ExtM.nil hx134
 try dsimp only at hm
 replace o:Fr ⟨18,(D133 :: [])⟩ [(3,.pointer (some ⟨b30,0,none⟩)),(4,.pointer (some ⟨b31,0,none⟩)),(5,.pointer (some ⟨b32,0,none⟩)),(9,.func (.func 108) #[] #[.pointer (some ⟨b39,0,none⟩)])] a:=o
 replace u:St w0 Nil [HA3] [dsA (D133 :: []),blk b31 (.cells [i6 vA4].toArray 3 (0,0))] w:=u
 refine wr<|br<|tr<|?_
 obtain rfl:=si hm
 exact rM (.inl rfl) o u fun w u=>⟨_,res1k o rfl rfl isAgg3 ((St.ld u).cellB t0 rfl),⟨rfl,u.keep⟩⟩
theorem Z65_c (hH:H.le w0) {cs2:List Value} {p1:api_Prog} (g3:Enc.rep H cs2 p1) {r:(List Str)} (hm:Z65 N p1=some r):Tot Tryz.prog 27 #[.agg cs2.toArray] w0 (fun v w'=>∃ (oa0:Option Addr) (cap0:Nat) (vs0:List Value),v=.slice oa0 r.length cap0∧(∀ h,Rows h vs0 r)∧Fresh w0 (sla 9 1 oa0 r.length cap0 vs0) w'):=by
 unfold Z65 at hm
 refine fn0 func27 rfl ntmps27 rfl rfl fun a o=>?_
 have u:St w0 Nil [H] [] w0:=start1 hH
 obtain ⟨oa4,cap5,oa8,cap9,oa12,cap13,oa16,cap17,oa20,cap21,oa24,cap25,rfl,hc6,hr7,hc10,hr11,hc14,hr15,hc18,hr19,hc22,hr23,hc26,hr27⟩:=api_Prog_open g3
 refine th<|rg<|ls<|a_box (cs:=[.slice oa4 p1.Lines.length cap5,.slice oa8 p1.Vols.length cap9,.slice oa12 p1.Locks.length cap13,.slice oa16 p1.Threads.length cap17,.slice oa20 p1.Recover.length cap21,.slice oa24 p1.Claims.length cap25].toArray) o rfl u rfl rfl fun b28 w a u o=>qa o rfl fun a o=>re<|tn<|th<|rg<|qa o rfl fun a o=>re<|tn<|th<|th<|rg<|qv o (e_fa o fa27_2 rfl) fun a o=>qv o (e_ld o isAgg23 rfl ((St.ld u).cellB t0 rfl)) fun a o=>qv o (e_lenL (α:=api_Cell) (xs:=p1.Locks) o runUnderlying23 rfl) fun a o=>qm o rfl fun a o=>re<|tn<|midK (fun a w=>∃ (vA1:(List Str)) (oaA2:Option Addr) (capA3:Nat) (vsA4:List Value),Z66 vA1=some r∧Fr 20 [(3,.slice oaA2 vA1.length capA3)] a∧St w0 Nil [H] [sla 9 1 oaA2 vA1.length capA3 vsA4] w∧Rows H vsA4 vA1) ?_ ?_
 replace u:=St.nilS u 9 1
 replace u:=u.pk [0] rfl
 refine wb<|lp (α:=Nat×(List Str)×Int) (fun gh a w=>match gh with | (nn2,vB1,vB7)=>∃ (oaB2:Option Addr) (capB3:Nat) (vsB4:List Value),(Z67 N Z66 p1) nn2 vB1 vB7=some r∧Fr 20 [(3,.slice oaB2 vB1.length capB3),(7,.slice oa12 p1.Locks.length cap13),(8,i6 (p1.Locks.length:Int)),(9,i6 vB7)] a∧St w0 Nil [H] [sla 9 1 oaB2 vB1.length capB3 vsB4] w∧Rows H vsB4 vB1) (fun gh=>gh.1) (N,[],0) ⟨none,0,[],hm,o.hs,u,.nil⟩ ?_
 rintro ⟨nn2,vB1,vB7⟩ a w ⟨oaB2,capB3,vsB4,hm,o,u,hvB5⟩
 obtain _ | nn2:=nn2
 simp [Z67] at hm
 rw [Z67] at hm
 refine th<|rg<|qv o (e_lss o rfl rfl) fun a o=>re<|?_
 rcases bdich (decide (vB7 < (p1.Locks.length:Int))) with hb29 | hb29
 replace hm:=itp_t hm hb29
 refine tn<|th<|ctv o rfl hb29<|wk<|tn<|th<|wb<|th<|?_
 obtain ⟨x30,h31,hm⟩:=bs hm
 obtain ⟨c32,g33,hl34⟩:=SR.get hr15 h31
 obtain rfl:=api_Cell_open g33
 refine rg<|qv o (e_iaI o Tryz.runUnderlying23 Tryz.sizeOf53 rfl rfl h31 (SR.oaI hr15 (by decide) h31)) fun a o=>qv o (e_ldA o isAgg53 sizeOf53 rfl rfl (fun j v hj=>PH.le.cell (Lds.le (St.ld u)) (hl34 j v hj))) fun a o=>ls<|a_alloc (cs:=[strv [],i6 0,i6 0].toArray) o rfl u zeroValue53 rfl fun b35 w a u o=>ls<|s_blkA o u sizeOf53 rfl rfl rfl rfl (one_cells rfl) .head fun w u=>re<|tn<|?_
 obtain ⟨l39,h40,hm⟩:=bs hm
 refine rg<|qm o rfl fun a o=>qv o (e_fa o fa53_0 rfl) fun a o=>qv o (e_ld o isAgg9 rfl ((St.ld u).cellB t0 rfl)) fun a o=>ls<|a_bsl (e:=9) (sz:=1) [strv x30.Name] o rfl u rfl rfl rfl (fun w=>by kernel_rfl) fun b37 w a u o=>?_
 have hv36:Rows (α:=Str) H [strv x30.Name] ([x30.Name]:List Str):=(.cons (c:=[strv x30.Name]) rfl .nil)
 refine ls<|m_app (α:=Str) (xs:=vB1) (ys:=([x30.Name]:List Str)) o rfl u underlying36 info9 rfl (by decide) rfl rfl rfl t2 hvB5 (u.rdO t0) hv36 h40 fun oa41 cap42 vs43 w a hv44 hU o=>?_
 replace u:=hU _ (.tail (.tail .head))
 replace u:=u.drop .head
 refine qa o rfl fun a o=>re<|bn<|tn<|rg<|qv o (e_add o rfl rfl) fun a o=>qm o rfl fun a o=>re<|tn<|?_
 replace u:=u.pk [1] rfl
 exact ⟨(nn2,l39,(IntKind.i64.wrap (vB7+1))),⟨oa41,cap42,vs43,hm,o.hs,u,hv44⟩,Nat.lt_succ_self _⟩
 replace hm:=itp_f hm hb29
 refine tn<|th<|cfv o rfl hb29<|we<|tx<|tx<|bx<|tn<|?_
 exact ⟨vB1,oaB2,capB3,vsB4,hm,o.has ⟨rfl,trivial⟩,u,hvB5⟩
 rintro a w ⟨vA1,oaA2,capA3,vsA4,hm,o,u,hvA5⟩
 unfold Z66 at hm
 refine th<|rg<|qm o rfl fun a o=>qa o rfl fun a o=>re<|tn<|wr<|?_
 obtain rfl:=si hm
 exact r1 o results27 rfl ⟨_,_,_,rfl,(fun _=>Rows.ind hvA5),u.endFresh t0⟩
theorem Z61_c (hH:H.le w0) {cs2:List Value} {p1:api_Prog} (g3:Enc.rep H cs2 p1) {r:(List Int)} (hm:Z61 N p1=some r):Tot Tryz.prog 30 #[.agg cs2.toArray] w0 (fun v w'=>∃ (oa0:Option Addr) (cap0:Nat) (vs0:List Value),v=.slice oa0 r.length cap0∧(∀ h,Rows h vs0 r)∧Fresh w0 (sla 3 1 oa0 r.length cap0 vs0) w'):=by
 unfold Z61 at hm
 refine fnM func30 rfl ntmps30 rfl rfl fun a o=>?_
 have u:St w0 Nil [H] [] w0:=start1 hH
 replace u:=St.ds0 u
 obtain ⟨oa4,cap5,oa8,cap9,oa12,cap13,oa16,cap17,oa20,cap21,oa24,cap25,rfl,hc6,hr7,hc10,hr11,hc14,hr15,hc18,hr19,hc22,hr23,hc26,hr27⟩:=api_Prog_open g3
 refine th<|rg<|ls<|a_box (cs:=[.slice oa4 p1.Lines.length cap5,.slice oa8 p1.Vols.length cap9,.slice oa12 p1.Locks.length cap13,.slice oa16 p1.Threads.length cap17,.slice oa20 p1.Recover.length cap21,.slice oa24 p1.Claims.length cap25].toArray) o rfl u rfl rfl fun b28 w a u o=>qa o rfl fun a o=>re<|tn<|th<|rg<|ls<|a_alloc (cs:=[.slice none 0 0].toArray) o rfl u Tryz.zeroValue42 rfl fun b29 w a u o=>re<|tn<|th<|th<|?_
 obtain ⟨r30,h31,hm⟩:=bs hm
 refine rg<|qv o (e_ldA o Tryz.isAgg27 Tryz.sizeOf27 rfl rfl ((St.ld u).cellsB t1)) fun a o=>ls<|c1 o rfl call65 (Z6c_c (St.le u) (show Enc.rep (α:=api_Prog) H [.slice oa4 p1.Lines.length cap5,.slice oa8 p1.Vols.length cap9,.slice oa12 p1.Locks.length cap13,.slice oa16 p1.Threads.length cap17,.slice oa20 p1.Recover.length cap21,.slice oa24 p1.Claims.length cap25] p1 from ⟨_,_,rfl,⟨_,_,rfl,hc6,hr7⟩,⟨_,_,rfl,⟨_,_,rfl,hc10,hr11⟩,⟨_,_,rfl,⟨_,_,rfl,hc14,hr15⟩,⟨_,_,rfl,⟨_,_,rfl,hc18,hr19⟩,⟨_,_,rfl,⟨_,_,rfl,hc22,hr23⟩,⟨_,_,rfl,hc26,hr27⟩⟩⟩⟩⟩⟩) h31) ⟨rfl,trivial⟩ (fun v w a hR o=>?_)
 obtain ⟨H35,b36,cs38,rfl,hb37,g39,hx32,hl33,hk⟩:=hR
 obtain ⟨u,hx32⟩:=And.intro (St.passH u hk hx32 hl33) (St.extc u hx32)
 obtain ⟨oa40,cap41,oa44,cap45,oa48,cap49,oa52,cap53,oa56,cap57,oa60,cap61,rfl,hc42,hr43,hc46,hr47,hc50,hr51,hc54,hr55,hc58,hr59,hc62,hr63⟩:=api_Prog_open g39
 refine re<|tn<|wb<|?_
 replace o:Fr 15 [(3,.pointer (some ⟨b29,0,none⟩)),(6,.func (.func 108) #[] #[.pointer (some ⟨b36,0,none⟩)])] _:=o.has ⟨rfl,rfl,trivial⟩
 replace u:=St.nilS u 3 1
 replace u:=u.pk [3,0,0] rfl
 obtain ⟨q64,h65,hm⟩:=bs hm
 refine rf (ŝ:=q64) (lb:=[.pointer (some ⟨b36,0,none⟩)]) (ps:=[7,8]) (I:=fun (vA2:(List Int)) (HA1:PH) (L:List HA)=>∃ (oaA3:Option Addr) (capA4:Nat) (vsA5:List Value),L=[sla 3 1 oaA3 vA2.length capA4 vsA5,blk b29 (.cells [.slice oaA3 vA2.length capA4].toArray 42 (0,0))]∧(∀ b o,H35 b=some o→HA1 b=some o)∧Rows HA1 vsA5 vA2) (J:=fun (_:Empty) (_:Code) (_:PH) (_:List HA)=>False) (fun (s:(List Int)) (x:(api_Cell×Int))=>(Z62 N) s x) (fun (H:PH) (args:List Value) (x:api_Cell×Int)=>∃ (cs0:List Value),args=[.agg cs0.toArray,i6 x.2]∧Enc.rep H cs0 x.1) o rfl call108 rfl (by rintro H args x ⟨_,rfl,_⟩;rfl) u ⟨none,0,[],rfl,i2,.nil⟩ (by rintro vA2 H Hn L hs ⟨oaA3,capA4,vsA5,rfl,hu,hvA6⟩;exact ⟨_,_,_,rfl,(cp hs hu),(hvA6.mono hs)⟩) (fun t=>t.elim) (fun lq C Lc w1 hyc hcm hc hle hok hdis=>hit_of (Z6d_c hle hyc hcm hc (show Enc.rep (α:=api_Prog) H35 [.slice oa40 r30.Lines.length cap41,.slice oa44 r30.Vols.length cap45,.slice oa48 r30.Locks.length cap49,.slice oa52 r30.Threads.length cap53,.slice oa56 r30.Recover.length cap57,.slice oa60 r30.Claims.length cap61] r30 from ⟨_,_,rfl,⟨_,_,rfl,hc42,hr43⟩,⟨_,_,rfl,⟨_,_,rfl,hc46,hr47⟩,⟨_,_,rfl,⟨_,_,rfl,hc50,hr51⟩,⟨_,_,rfl,⟨_,_,rfl,hc54,hr55⟩,⟨_,_,rfl,⟨_,_,rfl,hc58,hr59⟩,⟨_,_,rfl,hc62,hr63⟩⟩⟩⟩⟩⟩) hb37 (sep1_ok hok) (sep1_dis hdis) h65)) ?_ ?_ ?_
 intro l X Y s xe124 r HA1 Lu args w0 a K Qr hI hex hm o u hK hN hR
 obtain ⟨vA2,hsq⟩:∃ v,v=s:=⟨_,rfl⟩
 subst hsq
 obtain ⟨oaA3,capA4,vsA5,rfl,hxHA1,hvA6⟩:=hI
 replace hm:(Z62 N) vA2 xe124=some r:=hm
 unfold Z62 at hm
 obtain ⟨cs125,rfl,g126⟩:=hex
 replace o:Fr 15 [(8,i6 xe124.2),(7,.agg cs125.toArray),(3,.pointer (some ⟨b29,0,none⟩)),(6,.func (.func 108) #[] #[.pointer (some ⟨b36,0,none⟩)])] a:=o
 obtain rfl:=api_Cell_open g126
 refine rg<|ls<|a_alloc (cs:=[strv [],i6 0,i6 0].toArray) o rfl u Tryz.zeroValue53 rfl fun b127 w a u o=>ls<|s_blkA o u sizeOf53 rfl rfl rfl rfl (one_cells rfl) .head fun w u=>re<|?_
 replace u:=u.pk [1,0,0,0] rfl
 refine tn<|hK _ _ _ _ u fun w u=>wb<|?_
 obtain ⟨l131,h132,hm⟩:=bs hm
 refine rg<|qv o (e_ld o Tryz.isAgg42 rfl ((St.ld u).cellB t3 rfl)) fun a o=>qv o (e_fa o fa53_1 rfl) fun a o=>qv o (e_ld o isAgg3 rfl ((St.ld u).cellB t1 rfl)) fun a o=>ls<|a_bsl (e:=3) (sz:=1) [i6 xe124.1.N] o rfl u rfl rfl rfl (fun w=>by kernel_rfl) fun b129 w a u o=>?_
 have hv128:Rows (α:=Int) HA1 [i6 xe124.1.N] ([xe124.1.N]:List Int):=(.cons (c:=[i6 xe124.1.N]) rfl .nil)
 refine ls<|m_app (α:=Int) (xs:=vA2) (ys:=([xe124.1.N]:List Int)) o rfl u underlying42 info3 rfl (by decide) rfl rfl rfl t3 hvA6 (u.rdO t0) hv128 h132 fun oa133 cap134 vs135 w a hv136 hU o=>?_
 replace u:=hU _ (.tail (.tail (.tail .head)))
 replace u:=u.drop .head
 refine ls<|s_blk o u sizeOf42 rfl rfl rfl rfl (.tail (.tail (.tail .head))) .zero fun w u=>re<|bn<|?_
 obtain rfl:=si hm
 replace u:=u.pk [0,1,1] rfl
 exact hN _ _ _ _ _ rfl (ExtM.refl _ _ _) ⟨oa133,cap134,vs135,rfl,hxHA1,hv136⟩ u
 rintro vA2 D137 HA1 Lu a w rfl ⟨oaA3,capA4,vsA5,rfl,huHA1,hvA6⟩ hx138 o u
 replace hx138:=ExtM.nil hx138
 try dsimp only at hm
 replace o:Fr ⟨15,(D137 :: [])⟩ [(3,.pointer (some ⟨b29,0,none⟩)),(6,.func (.func 108) #[] #[.pointer (some ⟨b36,0,none⟩)])] a:=o
 replace u:St w0 Nil [HA1] [dsA (D137 :: []),sla 3 1 oaA3 vA2.length capA4 vsA5,blk b29 (.cells [.slice oaA3 vA2.length capA4].toArray 42 (0,0))] w:=u
 refine bn<|tn<|th<|rg<|qv o (e_ld o Tryz.isAgg42 rfl ((St.ld u).cellB t2 rfl)) fun a o=>qa o rfl fun a o=>re<|tn<|wr<|?_
 obtain rfl:=si hm
 exact rM (.inl rfl) o u fun w u=>⟨_,res1t o rfl rfl,⟨_,_,_,rfl,(fun _=>Rows.ind hvA6),u.endFresh t0⟩⟩
 exact fun t=>t.elim
theorem Z5f_c (hH:H.le w0) {oa2:Option Addr} {cap3:Nat} {p1:(List Int)} (_:p1.length≤cap3) (hr5:SR H oa2 p1) {oa7:Option Addr} {cap8:Nat} {p6:(List Int)} (_:p6.length≤cap8) (hr10:SR H oa7 p6) {r:Bool} (hm:Z5f N p1 p6=some r):Tot Tryz.prog 29 #[.slice oa2 p1.length cap3,.slice oa7 p6.length cap8] w0 (fun v w'=>v=.bool r∧Keep Nil w0 w'):=by
 unfold Z5f at hm
 refine fn0 func29 rfl ntmps29 rfl rfl fun a o=>?_
 have u:St w0 Nil [H] [] w0:=start1 hH
 refine th<|rg<|qa o rfl fun a o=>re<|tn<|th<|th<|rg<|qm o rfl fun a o=>qv o (e_lenL (α:=Int) (xs:=p1) o runUnderlying42 rfl) fun a o=>qm o rfl fun a o=>qv o (e_lenL (α:=Int) (xs:=p6) o runUnderlying42 rfl) fun a o=>qv o (e_neq o rfl rfl) fun a o=>re<|?_
 rcases bdich (decide ((p1.length:Int)≠(p6.length:Int))) with hb11 | hb11
 replace hm:=itp_t hm hb11
 refine tn<|ctv o rfl hb11<|th<|rg<|qa o rfl fun a o=>re<|tn<|wr<|tr<|?_
 obtain rfl:=si hm
 exact r1 o results29 rfl ⟨rfl,u.keep⟩
 replace hm:=itp_f hm hb11
 refine tn<|cfv o rfl hb11<|wk<|tn<|th<|th<|rg<|qa o rfl fun a o=>re<|tn<|midK (fun a w=>Z5g=some r∧Fr 26 [] a∧St w0 Nil [H] [] w) ?_ ?_
 refine wb<|lp (α:=Nat×Int) (fun gh a w=>match gh with | (nn2,vB1)=>(Z5h N Z5g p1 p6) nn2 vB1=some r∧Fr 26 [(0,.slice oa2 p1.length cap3),(1,.slice oa7 p6.length cap8),(5,i6 vB1)] a∧St w0 Nil [H] [] w) (fun gh=>gh.1) (N,0) ⟨hm,o.hs,u⟩ ?_
 rintro ⟨nn2,vB1⟩ a w ⟨hm,o,u⟩
 obtain _ | nn2:=nn2
 simp [Z5h] at hm
 rw [Z5h] at hm
 refine th<|th<|rg<|qm o rfl fun a o=>qm o rfl fun a o=>qv o (e_lenL (α:=Int) (xs:=p1) o runUnderlying42 rfl) fun a o=>qv o (e_lss o rfl rfl) fun a o=>re<|?_
 rcases bdich (decide (vB1 < (p1.length:Int))) with hb12 | hb12
 replace hm:=itp_t hm hb12
 refine tn<|ctv o rfl hb12<|wk<|tn<|th<|wb<|th<|?_
 obtain ⟨x13,h14,hm⟩:=bs hm
 obtain ⟨c15,g16,hl17⟩:=SR.get hr5 h14
 obtain rfl:c15=[i6 x13]:=g16
 obtain ⟨x18,h19,hm⟩:=bs hm
 obtain ⟨c20,g21,hl22⟩:=SR.get hr10 h19
 obtain rfl:c20=[i6 x18]:=g21
 refine rxS 9 u wide (by kernel_rfl) fun w u=>?_
 iterate 2 refine xq (St.ld u) o (fun w hl=>e_move o rfl) fun a o=>?_
 refine xr u o (e_iaI o runUnderlying42 sizeOf3 rfl rfl h14 (SR.oaI hr5 (by decide) h14)) fun a o=>xq (St.ld u) o (fun w hl=>e_ld o isAgg3 rfl (PH.le.cell (Lds.le hl) (hl17 0 _ rfl))) fun a o=>?_
 iterate 2 refine xq (St.ld u) o (fun w hl=>e_move o rfl) fun a o=>?_
 refine xr u o (e_iaI o runUnderlying42 sizeOf3 rfl rfl h19 (SR.oaI hr10 (by decide) h19)) fun a o=>xq (St.ld u) o (fun w hl=>e_ld o isAgg3 rfl (PH.le.cell (Lds.le hl) (hl22 0 _ rfl))) fun a o=>xr u o (e_neq o rfl rfl) fun a o=>xe<|?_
 rcases bdich (decide (x13≠x18)) with hb23 | hb23
 replace hm:=itp_t hm hb23
 refine tn<|ctv o rfl hb23<|th<|rg<|qa o rfl fun a o=>re<|tn<|wr<|br<|tr<|tr<|br<|tr<|?_
 obtain rfl:=si hm
 exact r1 o results29 rfl ⟨rfl,u.keep⟩
 replace hm:=itp_f hm hb23
 refine tn<|cfv o rfl hb23<|wk<|bn<|tn<|rg<|qm o rfl fun a o=>qv o (e_add o rfl rfl) fun a o=>qa o rfl fun a o=>re<|tn<|?_
 exact ⟨(nn2,(IntKind.i64.wrap (vB1+1))),⟨hm,o.hs,u⟩,Nat.lt_succ_self _⟩
 replace hm:=itp_f hm hb12
 refine tn<|cfv o rfl hb12<|we<|tx<|tx<|bx<|tn<|?_
 exact ⟨hm,o.has trivial,u⟩
 rintro a w ⟨hm,o,u⟩
 unfold Z5g at hm
 refine th<|rg<|qa o rfl fun a o=>re<|tn<|wr<|?_
 obtain rfl:=si hm
 exact r1 o results29 rfl ⟨rfl,u.keep⟩
theorem Z9h_c (hH:H.le w0) {oa2:Option Addr} {cap3:Nat} {p1:(List Str)} (hc4:p1.length≤cap3) (hr5:SR H oa2 p1) {p6:Str} {r:Int} (hm:Z9h N p1 p6=some r):Tot Tryz.prog 68 #[.slice oa2 p1.length cap3,strv p6] w0 (fun v w'=>v=i6 r∧Keep Nil w0 w'):=by
 unfold Z9h at hm
 refine fn0 func68 rfl ntmps68 rfl rfl fun a o=>?_
 have u:St w0 Nil [H] [] w0:=start1 hH
 refine th<|rg<|qa o rfl fun a o=>re<|tn<|th<|th<|rg<|qm o rfl fun a o=>qv o (e_lenL (α:=Str) (xs:=p1) o runUnderlying36 rfl) fun a o=>qm o rfl fun a o=>re<|tn<|midK (fun a w=>Z9i=some r∧Fr 19 [] a∧St w0 Nil [H] [] w) ?_ ?_
 refine wb<|lp (α:=Nat×Int) (fun gh a w=>match gh with | (nn2,vB1)=>(Z9j N Z9i p1 p6) nn2 vB1=some r∧Fr 19 [(0,.slice oa2 p1.length cap3),(1,strv p6),(7,i6 (p1.length:Int)),(8,i6 vB1)] a∧St w0 Nil [H] [] w) (fun gh=>gh.1) (N,0) ⟨hm,o.hs,u⟩ ?_
 rintro ⟨nn2,vB1⟩ a w ⟨hm,o,u⟩
 obtain _ | nn2:=nn2
 simp [Z9j] at hm
 rw [Z9j] at hm
 refine th<|rg<|qv o (e_lss o rfl rfl) fun a o=>re<|?_
 rcases bdich (decide (vB1 < (p1.length:Int))) with hb7 | hb7
 replace hm:=itp_t hm hb7
 refine tn<|th<|ctv o rfl hb7<|wk<|tn<|th<|wb<|th<|rg<|qm o rfl fun a o=>qa o rfl fun a o=>re<|tn<|th<|?_
 obtain ⟨xz8,h9,hm⟩:=bs hm
 obtain ⟨c10,g11,hl12⟩:=SR.get hr5 h9
 obtain rfl:c10=[strv xz8]:=g11
 refine rg<|qm o rfl fun a o=>?_
 iterate 2 refine qm o rfl fun a o=>?_
 refine qv o (e_iaI o runUnderlying36 sizeOf9 rfl rfl h9 (SR.oaI hr5 (by decide) h9)) fun a o=>qv o (e_ld o isAgg9 rfl (PH.le.cell (Lds.le (St.ld u)) (hl12 0 _ rfl))) fun a o=>qv o (e_eqlU (m:=p6) (n:=xz8) o rfl rfl) fun a o=>re<|?_
 rcases bdich (decide (p6=xz8)) with hb13 | hb13
 replace hm:=itp_t hm hb13
 refine tn<|ctv o rfl hb13<|th<|rg<|qm o rfl fun a o=>qa o rfl fun a o=>re<|tn<|wr<|br<|tr<|tr<|br<|tr<|?_
 obtain rfl:=si hm
 exact r1 o results68 rfl ⟨rfl,u.keep⟩
 replace hm:=itp_f hm hb13
 refine tn<|cfv o rfl hb13<|wk<|bn<|tn<|rg<|qv o (e_add o rfl rfl) fun a o=>qm o rfl fun a o=>re<|tn<|?_
 exact ⟨(nn2,(IntKind.i64.wrap (vB1+1))),⟨hm,o.hs,u⟩,Nat.lt_succ_self _⟩
 replace hm:=itp_f hm hb7
 refine tn<|th<|cfv o rfl hb7<|we<|tx<|tx<|bx<|tn<|?_
 exact ⟨hm,o.has trivial,u⟩
 rintro a w ⟨hm,o,u⟩
 unfold Z9i at hm
 refine th<|rg<|qa o rfl fun a o=>re<|tn<|wr<|?_
 obtain rfl:=si hm
 exact r1 o results68 rfl ⟨rfl,u.keep⟩
theorem Z68_c (hH:H.le w0) {oa2:Option Addr} {cap3:Nat} {p1:(List Str)} (hc4:p1.length≤cap3) (hr5:SR H oa2 p1) {p6:Str} {r:Int} (hm:Z68 N p1 p6=some r):Tot Tryz.prog 32 #[.slice oa2 p1.length cap3,strv p6] w0 (fun v w'=>v=i6 r∧Keep Nil w0 w'):=by
 unfold Z68 at hm
 refine fn0 func32 rfl ntmps32 rfl rfl fun a o=>?_
 have u:St w0 Nil [H] [] w0:=start1 hH
 refine th<|rg<|qa o rfl fun a o=>re<|tn<|th<|?_
 obtain ⟨rz7,h8,hm⟩:=bs hm
 refine rg<|qm o rfl fun a o=>qm o rfl fun a o=>ls<|cq o call68 (Z9h_c (hp_le _) hc4 (St.srH u hr5) h8) ⟨rfl,rfl,trivial⟩ u fun w a u o=>qa o rfl fun a o=>re<|tn<|wr<|?_
 obtain rfl:=si hm
 exact r1 o results32 rfl ⟨rfl,u.keep⟩
set_option maxHeartbeats 4000000 in
theorem Z1g_c (hH:H.le w0) (hT:Tab H)  {r:Bool} (hm:Z1g N  = some r):Tot Tryz.prog 18 #[] w0 (fun v w'=>v=.bool r∧Keep Nil w0 w'):=by
 unfold Z1g at hm
 refine fn0 func18 rfl ntmps18 rfl rfl fun a o=>?_
 have u:St w0 Nil [H] [] w0:=start1 hH
 refine th<|rg<|qa o rfl fun a o=>re<|tn<|th<|?_
 obtain ⟨rz1,h2,hm⟩:=bs hm
 refine rg<|ls<|c1 o rfl Tryz.call19 (Z1h_c (St.le u) h2) ⟨rfl,trivial⟩ (fun v w a hR o=>?_)
 obtain ⟨H6,cs7,rfl,g8,hx3,hl4,hk⟩:=hR
 obtain ⟨u,hx3⟩:=And.intro (St.passH u hk hx3 hl4) (St.extc u hx3)
 obtain ⟨oa9,cap10,oa13,cap14,oa17,cap18,oa21,cap22,oa25,cap26,oa29,cap30,rfl,hc11,hr12,hc15,hr16,hc19,hr20,hc23,hr24,hc27,hr28,hc31,hr32⟩:=api_Prog_open g8
 refine ls<|a_alloc (cs:=[.slice none 0 0,.slice none 0 0,.slice none 0 0,.slice none 0 0,.slice none 0 0,.slice none 0 0].toArray) o rfl u zeroValue27 rfl fun b33 w a u o=>ls<|s_blkA o u sizeOf27 rfl rfl rfl rfl (one_cells rfl) .head fun w u=>re<|tn<|th<|?_
 obtain ⟨r34,h35,hm⟩:=bs hm
 refine rg<|qv o (e_ldA o Tryz.isAgg27 Tryz.sizeOf27 rfl rfl ((St.ld u).cellsB t0)) fun a o=>ls<|cq o call16 (Z5p_c (hp_le _) (Tab.mono (Tab.mono hT hx3.sub) (St.up u)) (Enc.mono (St.up u) (show Enc.rep (α:=api_Prog) H6 [.slice oa9 rz1.Lines.length cap10,.slice oa13 rz1.Vols.length cap14,.slice oa17 rz1.Locks.length cap18,.slice oa21 rz1.Threads.length cap22,.slice oa25 rz1.Recover.length cap26,.slice oa29 rz1.Claims.length cap30] rz1 from ⟨_,_,rfl,⟨_,_,rfl,hc11,hr12⟩,⟨_,_,rfl,⟨_,_,rfl,hc15,hr16⟩,⟨_,_,rfl,⟨_,_,rfl,hc19,hr20⟩,⟨_,_,rfl,⟨_,_,rfl,hc23,hr24⟩,⟨_,_,rfl,⟨_,_,rfl,hc27,hr28⟩,⟨_,_,rfl,hc31,hr32⟩⟩⟩⟩⟩⟩)) h35) ⟨rfl,trivial⟩ u fun w a u o=>qm o rfl fun a o=>?_
 iterate 2 refine qv o (e_ext o rfl rfl) fun a o=>?_
 iterate 2 refine qa o rfl fun a o=>?_
 refine re<|tn<|th<|?_
 obtain ⟨r36,h37,hm⟩:=bs hm
 obtain ⟨r68,h69,hm⟩:=bs hm
 refine rg<|ls<|c1 o rfl Tryz.call19 (Z1h_c (St.le u) h37) ⟨rfl,trivial⟩ (fun v w a hR o=>?_)
 obtain ⟨H41,cs42,rfl,g43,hx38,hl39,hk⟩:=hR
 obtain ⟨u,hx38⟩:=And.intro (St.passH u hk hx38 hl39) (St.extc u hx38)
 obtain ⟨oa44,cap45,oa48,cap49,oa52,cap53,oa56,cap57,oa60,cap61,oa64,cap65,rfl,hc46,hr47,hc50,hr51,hc54,hr55,hc58,hr59,hc62,hr63,hc66,hr67⟩:=api_Prog_open g43
 refine ls<|cq o call16 (Z5p_c (hp_le _) (Tab.mono (Tab.mono hT (cp hx38.sub hx3.sub)) (St.up u)) (Enc.mono (St.up u) (show Enc.rep (α:=api_Prog) H41 [.slice oa44 r36.Lines.length cap45,.slice oa48 r36.Vols.length cap49,.slice oa52 r36.Locks.length cap53,.slice oa56 r36.Threads.length cap57,.slice oa60 r36.Recover.length cap61,.slice oa64 r36.Claims.length cap65] r36 from ⟨_,_,rfl,⟨_,_,rfl,hc46,hr47⟩,⟨_,_,rfl,⟨_,_,rfl,hc50,hr51⟩,⟨_,_,rfl,⟨_,_,rfl,hc54,hr55⟩,⟨_,_,rfl,⟨_,_,rfl,hc58,hr59⟩,⟨_,_,rfl,⟨_,_,rfl,hc62,hr63⟩,⟨_,_,rfl,hc66,hr67⟩⟩⟩⟩⟩⟩)) h69) ⟨rfl,trivial⟩ u fun w a u o=>qm o rfl fun a o=>?_
 iterate 2 refine qv o (e_ext o rfl rfl) fun a o=>?_
 iterate 2 refine qa o rfl fun a o=>?_
 refine re<|tn<|th<|?_
 obtain ⟨r70,h71,hm⟩:=bs hm
 obtain ⟨r102,h103,hm⟩:=bs hm
 refine rg<|ls<|c1 o rfl Tryz.call19 (Z1h_c (St.le u) h71) ⟨rfl,trivial⟩ (fun v w a hR o=>?_)
 obtain ⟨H75,cs76,rfl,g77,hx72,hl73,hk⟩:=hR
 obtain ⟨u,hx72⟩:=And.intro (St.passH u hk hx72 hl73) (St.extc u hx72)
 obtain ⟨oa78,cap79,oa82,cap83,oa86,cap87,oa90,cap91,oa94,cap95,oa98,cap99,rfl,hc80,hr81,hc84,hr85,hc88,hr89,hc92,hr93,hc96,hr97,hc100,hr101⟩:=api_Prog_open g77
 refine ls<|cq o call16 (Z5p_c (hp_le _) (Tab.mono (Tab.mono hT (cp (cp hx72.sub hx38.sub) hx3.sub)) (St.up u)) (Enc.mono (St.up u) (show Enc.rep (α:=api_Prog) H75 [.slice oa78 r70.Lines.length cap79,.slice oa82 r70.Vols.length cap83,.slice oa86 r70.Locks.length cap87,.slice oa90 r70.Threads.length cap91,.slice oa94 r70.Recover.length cap95,.slice oa98 r70.Claims.length cap99] r70 from ⟨_,_,rfl,⟨_,_,rfl,hc80,hr81⟩,⟨_,_,rfl,⟨_,_,rfl,hc84,hr85⟩,⟨_,_,rfl,⟨_,_,rfl,hc88,hr89⟩,⟨_,_,rfl,⟨_,_,rfl,hc92,hr93⟩,⟨_,_,rfl,⟨_,_,rfl,hc96,hr97⟩,⟨_,_,rfl,hc100,hr101⟩⟩⟩⟩⟩⟩)) h103) ⟨rfl,trivial⟩ u fun w a u o=>qm o rfl fun a o=>?_
 iterate 2 refine qv o (e_ext o rfl rfl) fun a o=>?_
 iterate 2 refine qa o rfl fun a o=>?_
 refine re<|tn<|th<|?_
 obtain ⟨r104,h105,hm⟩:=bs hm
 obtain ⟨r136,h137,hm⟩:=bs hm
 refine rg<|ls<|c1 o rfl Tryz.call19 (Z1h_c (St.le u) h105) ⟨rfl,trivial⟩ (fun v w a hR o=>?_)
 obtain ⟨H109,cs110,rfl,g111,hx106,hl107,hk⟩:=hR
 obtain ⟨u,hx106⟩:=And.intro (St.passH u hk hx106 hl107) (St.extc u hx106)
 obtain ⟨oa112,cap113,oa116,cap117,oa120,cap121,oa124,cap125,oa128,cap129,oa132,cap133,rfl,hc114,hr115,hc118,hr119,hc122,hr123,hc126,hr127,hc130,hr131,hc134,hr135⟩:=api_Prog_open g111
 refine ls<|cq o call16 (Z5p_c (hp_le _) (Tab.mono (Tab.mono hT (cp (cp (cp hx106.sub hx72.sub) hx38.sub) hx3.sub)) (St.up u)) (Enc.mono (St.up u) (show Enc.rep (α:=api_Prog) H109 [.slice oa112 r104.Lines.length cap113,.slice oa116 r104.Vols.length cap117,.slice oa120 r104.Locks.length cap121,.slice oa124 r104.Threads.length cap125,.slice oa128 r104.Recover.length cap129,.slice oa132 r104.Claims.length cap133] r104 from ⟨_,_,rfl,⟨_,_,rfl,hc114,hr115⟩,⟨_,_,rfl,⟨_,_,rfl,hc118,hr119⟩,⟨_,_,rfl,⟨_,_,rfl,hc122,hr123⟩,⟨_,_,rfl,⟨_,_,rfl,hc126,hr127⟩,⟨_,_,rfl,⟨_,_,rfl,hc130,hr131⟩,⟨_,_,rfl,hc134,hr135⟩⟩⟩⟩⟩⟩)) h137) ⟨rfl,trivial⟩ u fun w a u o=>qm o rfl fun a o=>?_
 iterate 2 refine qv o (e_ext o rfl rfl) fun a o=>?_
 iterate 2 refine qa o rfl fun a o=>?_
 refine re<|tn<|th<|?_
 obtain ⟨r138,h139,hm⟩:=bs hm
 obtain ⟨r170,h171,hm⟩:=bs hm
 refine rg<|ls<|c1 o rfl Tryz.call19 (Z1h_c (St.le u) h139) ⟨rfl,trivial⟩ (fun v w a hR o=>?_)
 obtain ⟨H143,cs144,rfl,g145,hx140,hl141,hk⟩:=hR
 obtain ⟨u,hx140⟩:=And.intro (St.passH u hk hx140 hl141) (St.extc u hx140)
 obtain ⟨oa146,cap147,oa150,cap151,oa154,cap155,oa158,cap159,oa162,cap163,oa166,cap167,rfl,hc148,hr149,hc152,hr153,hc156,hr157,hc160,hr161,hc164,hr165,hc168,hr169⟩:=api_Prog_open g145
 refine ls<|cq o call16 (Z5p_c (hp_le _) (Tab.mono (Tab.mono hT (cp (cp (cp (cp hx140.sub hx106.sub) hx72.sub) hx38.sub) hx3.sub)) (St.up u)) (Enc.mono (St.up u) (show Enc.rep (α:=api_Prog) H143 [.slice oa146 r138.Lines.length cap147,.slice oa150 r138.Vols.length cap151,.slice oa154 r138.Locks.length cap155,.slice oa158 r138.Threads.length cap159,.slice oa162 r138.Recover.length cap163,.slice oa166 r138.Claims.length cap167] r138 from ⟨_,_,rfl,⟨_,_,rfl,hc148,hr149⟩,⟨_,_,rfl,⟨_,_,rfl,hc152,hr153⟩,⟨_,_,rfl,⟨_,_,rfl,hc156,hr157⟩,⟨_,_,rfl,⟨_,_,rfl,hc160,hr161⟩,⟨_,_,rfl,⟨_,_,rfl,hc164,hr165⟩,⟨_,_,rfl,hc168,hr169⟩⟩⟩⟩⟩⟩)) h171) ⟨rfl,trivial⟩ u fun w a u o=>qm o rfl fun a o=>?_
 iterate 2 refine qv o (e_ext o rfl rfl) fun a o=>?_
 iterate 2 refine qa o rfl fun a o=>?_
 refine re<|tn<|th<|?_
 obtain ⟨r172,h173,hm⟩:=bs hm
 obtain ⟨r204,h205,hm⟩:=bs hm
 refine rg<|ls<|c1 o rfl Tryz.call19 (Z1h_c (St.le u) h173) ⟨rfl,trivial⟩ (fun v w a hR o=>?_)
 obtain ⟨H177,cs178,rfl,g179,hx174,hl175,hk⟩:=hR
 obtain ⟨u,hx174⟩:=And.intro (St.passH u hk hx174 hl175) (St.extc u hx174)
 obtain ⟨oa180,cap181,oa184,cap185,oa188,cap189,oa192,cap193,oa196,cap197,oa200,cap201,rfl,hc182,hr183,hc186,hr187,hc190,hr191,hc194,hr195,hc198,hr199,hc202,hr203⟩:=api_Prog_open g179
 refine ls<|cq o call16 (Z5p_c (hp_le _) (Tab.mono (Tab.mono hT (cp (cp (cp (cp (cp hx174.sub hx140.sub) hx106.sub) hx72.sub) hx38.sub) hx3.sub)) (St.up u)) (Enc.mono (St.up u) (show Enc.rep (α:=api_Prog) H177 [.slice oa180 r172.Lines.length cap181,.slice oa184 r172.Vols.length cap185,.slice oa188 r172.Locks.length cap189,.slice oa192 r172.Threads.length cap193,.slice oa196 r172.Recover.length cap197,.slice oa200 r172.Claims.length cap201] r172 from ⟨_,_,rfl,⟨_,_,rfl,hc182,hr183⟩,⟨_,_,rfl,⟨_,_,rfl,hc186,hr187⟩,⟨_,_,rfl,⟨_,_,rfl,hc190,hr191⟩,⟨_,_,rfl,⟨_,_,rfl,hc194,hr195⟩,⟨_,_,rfl,⟨_,_,rfl,hc198,hr199⟩,⟨_,_,rfl,hc202,hr203⟩⟩⟩⟩⟩⟩)) h205) ⟨rfl,trivial⟩ u fun w a u o=>qm o rfl fun a o=>?_
 iterate 2 refine qv o (e_ext o rfl rfl) fun a o=>?_
 iterate 2 refine qa o rfl fun a o=>?_
 refine re<|tn<|th<|?_
 obtain ⟨r206,h207,hm⟩:=bs hm
 obtain ⟨r238,h239,hm⟩:=bs hm
 refine rg<|ls<|c1 o rfl Tryz.call19 (Z1h_c (St.le u) h207) ⟨rfl,trivial⟩ (fun v w a hR o=>?_)
 obtain ⟨H211,cs212,rfl,g213,hx208,hl209,hk⟩:=hR
 obtain ⟨u,hx208⟩:=And.intro (St.passH u hk hx208 hl209) (St.extc u hx208)
 obtain ⟨oa214,cap215,oa218,cap219,oa222,cap223,oa226,cap227,oa230,cap231,oa234,cap235,rfl,hc216,hr217,hc220,hr221,hc224,hr225,hc228,hr229,hc232,hr233,hc236,hr237⟩:=api_Prog_open g213
 refine ls<|cq o call16 (Z5p_c (hp_le _) (Tab.mono (Tab.mono hT (cp (cp (cp (cp (cp (cp hx208.sub hx174.sub) hx140.sub) hx106.sub) hx72.sub) hx38.sub) hx3.sub)) (St.up u)) (Enc.mono (St.up u) (show Enc.rep (α:=api_Prog) H211 [.slice oa214 r206.Lines.length cap215,.slice oa218 r206.Vols.length cap219,.slice oa222 r206.Locks.length cap223,.slice oa226 r206.Threads.length cap227,.slice oa230 r206.Recover.length cap231,.slice oa234 r206.Claims.length cap235] r206 from ⟨_,_,rfl,⟨_,_,rfl,hc216,hr217⟩,⟨_,_,rfl,⟨_,_,rfl,hc220,hr221⟩,⟨_,_,rfl,⟨_,_,rfl,hc224,hr225⟩,⟨_,_,rfl,⟨_,_,rfl,hc228,hr229⟩,⟨_,_,rfl,⟨_,_,rfl,hc232,hr233⟩,⟨_,_,rfl,hc236,hr237⟩⟩⟩⟩⟩⟩)) h239) ⟨rfl,trivial⟩ u fun w a u o=>qm o rfl fun a o=>?_
 iterate 2 refine qv o (e_ext o rfl rfl) fun a o=>?_
 iterate 2 refine qa o rfl fun a o=>?_
 refine re<|tn<|th<|?_
 obtain ⟨r247,h248,hm⟩:=bs hm
 refine rg<|qv o (e_bldK [] [strv [],i6 0,i6 0] o trivial (fun w=>by kernel_rfl)) fun a o=>ls<|a_bsl (e:=53) (sz:=3) [strv [],i6 0,i6 0] o rfl u rfl rfl rfl (fun w=>by kernel_rfl) fun b241 w a u o=>?_
 have hv240:Rows (α:=api_Cell) H211 [strv [],i6 0,i6 0] ([(api_Cell.mk [] 0 0)]:List api_Cell):=(.cons (c:=[strv [],i6 0,i6 0]) ⟨_,_,rfl,rfl,⟨_,_,rfl,rfl,rfl⟩⟩ .nil)
 refine qv o (e_bldK [.slice (some ⟨b241,0,none⟩) ([(api_Cell.mk [] 0 0)]:List api_Cell).length 1] [.slice none 0 0,.slice none 0 0,.slice (some ⟨b241,0,none⟩) ([(api_Cell.mk [] 0 0)]:List api_Cell).length 1,.slice none 0 0,.slice none 0 0,.slice none 0 0] o ⟨rfl,trivial⟩ (fun w=>by kernel_rfl)) fun a o=>?_
 obtain ⟨H246,hx243,hr244,hc245,u⟩:=St.frzS u .head hv240
 refine ls<|cq o call16 (Z5p_c (hp_le _) (Tab.mono (Tab.mono hT (cp (cp (cp (cp (cp (cp (cp hx243.sub hx208.sub) hx174.sub) hx140.sub) hx106.sub) hx72.sub) hx38.sub) hx3.sub)) (St.up u)) (Enc.mono (St.up u) (show Enc.rep (α:=api_Prog) H246 [.slice none 0 0,.slice none 0 0,.slice (some ⟨b241,0,none⟩) ([(api_Cell.mk [] 0 0)]:List api_Cell).length 1,.slice none 0 0,.slice none 0 0,.slice none 0 0] (api_Prog.mk [] [] ([(api_Cell.mk [] 0 0)]:List api_Cell) [] [] []) from ⟨_,_,rfl,⟨none,0,rfl,Nat.le_refl _,SR.nil _ _⟩,⟨_,_,rfl,⟨none,0,rfl,Nat.le_refl _,SR.nil _ _⟩,⟨_,_,rfl,⟨_,_,rfl,hc245,hr244⟩,⟨_,_,rfl,⟨none,0,rfl,Nat.le_refl _,SR.nil _ _⟩,⟨_,_,rfl,⟨none,0,rfl,Nat.le_refl _,SR.nil _ _⟩,⟨none,0,rfl,Nat.le_refl _,SR.nil _ _⟩⟩⟩⟩⟩⟩)) h248) ⟨rfl,trivial⟩ u fun w a u o=>qm o rfl fun a o=>?_
 iterate 2 refine qv o (e_ext o rfl rfl) fun a o=>?_
 iterate 2 refine qa o rfl fun a o=>?_
 refine re<|tn<|th<|?_
 obtain ⟨_,hb249,hm⟩:=bs hm
 replace hb249:=sure_some hb249
 obtain ⟨r250,h251,hm⟩:=bs hm
 obtain ⟨r260,h261,hm⟩:=bs hm
 obtain ⟨_,hb262,hm⟩:=bs hm
 replace hb262:=sure_some hb262
 obtain ⟨r263,h264,hm⟩:=bs hm
 obtain ⟨_,hb265,hm⟩:=bs hm
 replace hb265:=sure_some hb265
 obtain ⟨r266,h267,hm⟩:=bs hm
 obtain ⟨_,hb268,hm⟩:=bs hm
 replace hb268:=sure_some hb268
 obtain ⟨r269,h270,hm⟩:=bs hm
 obtain ⟨_,hb271,hm⟩:=bs hm
 replace hb271:=sure_some hb271
 obtain ⟨r272,h273,hm⟩:=bs hm
 obtain ⟨_,hb274,hm⟩:=bs hm
 replace hb274:=sure_some hb274
 obtain ⟨r275,h276,hm⟩:=bs hm
 obtain ⟨_,hb277,hm⟩:=bs hm
 replace hb277:=sure_some hb277
 obtain ⟨r278,h279,hm⟩:=bs hm
 obtain ⟨r288,h289,hm⟩:=bs hm
 obtain ⟨_,hb290,hm⟩:=bs hm
 replace hb290:=sure_some hb290
 obtain ⟨r291,h292,hm⟩:=bs hm
 obtain ⟨r301,h302,hm⟩:=bs hm
 obtain ⟨_,hb303,hm⟩:=bs hm
 replace hb303:=sure_some hb303
 obtain ⟨r304,h305,hm⟩:=bs hm
 obtain ⟨r311,h312,hm⟩:=bs hm
 obtain ⟨_,hb313,hm⟩:=bs hm
 replace hb313:=sure_some hb313
 obtain ⟨r314,h315,hm⟩:=bs hm
 refine rg<|qm o rfl fun a o=>qv o (e_eql o rfl rfl) fun a o=>qm o rfl fun a o=>grp (N:=164) (Fk:=[(1,.pointer (some ⟨b33,0,none⟩)),(5,i6 r68.2),(6,i6 r102.1),(7,i6 r102.2),(8,i6 r136.1),(9,i6 r136.2),(10,i6 r170.1),(12,i6 r204.1),(13,i6 r204.2),(14,i6 r238.1),(15,i6 r238.2),(16,i6 r247.1),(66,.bool ((decide (r34.1=0)) && (decide (r68.1=9))))]) (b:=(decide (r34.1=0))) 3 u ?_ ?_ ?_
 intro hb key
 replace o:=Fr.as o (t:=63) rfl (congrArg Value.bool hb)
 refine qg o (e_move o rfl) fun a o=>qg o (e_eql o rfl rfl) fun a o=>qv o (e_as (v':=.bool ((decide (r34.1=0)) && (decide (r68.1=9)))) (e_pickT o rfl rfl) (by rw [hb];rfl)) fun a o=>?_
 exact key _ _ (o.hs) u
 intro hb key
 replace o:=Fr.as o (t:=63) rfl (congrArg Value.bool hb)
 iterate 2 refine qn o fun a o=>?_
 refine qv o (e_as (v':=.bool ((decide (r34.1=0)) && (decide (r68.1=9)))) (e_pickF o rfl rfl) (by rw [hb];rfl)) fun a o=>?_
 exact key _ _ (o.hs) u
 intro a w o u
 refine qm o rfl fun a o=>grp (N:=164) (Fk:=[(1,.pointer (some ⟨b33,0,none⟩)),(6,i6 r102.1),(7,i6 r102.2),(8,i6 r136.1),(9,i6 r136.2),(10,i6 r170.1),(12,i6 r204.1),(13,i6 r204.2),(14,i6 r238.1),(15,i6 r238.2),(16,i6 r247.1),(70,.bool (((decide (r34.1=0)) && (decide (r68.1=9))) && (decide (r68.2=28))))]) (b:=((decide (r34.1=0)) && (decide (r68.1=9)))) 3 u ?_ ?_ ?_
 intro hb key
 replace o:=Fr.as o (t:=67) rfl (congrArg Value.bool hb)
 refine qg o (e_move o rfl) fun a o=>qg o (e_eql o rfl rfl) fun a o=>qv o (e_as (v':=.bool (((decide (r34.1=0)) && (decide (r68.1=9))) && (decide (r68.2=28)))) (e_pickT o rfl rfl) (by rw [hb];rfl)) fun a o=>?_
 exact key _ _ (o.hs) u
 intro hb key
 replace o:=Fr.as o (t:=67) rfl (congrArg Value.bool hb)
 iterate 2 refine qn o fun a o=>?_
 refine qv o (e_as (v':=.bool (((decide (r34.1=0)) && (decide (r68.1=9))) && (decide (r68.2=28)))) (e_pickF o rfl rfl) (by rw [hb];rfl)) fun a o=>?_
 exact key _ _ (o.hs) u
 intro a w o u
 refine qm o rfl fun a o=>grp (N:=164) (Fk:=[(1,.pointer (some ⟨b33,0,none⟩)),(7,i6 r102.2),(8,i6 r136.1),(9,i6 r136.2),(10,i6 r170.1),(12,i6 r204.1),(13,i6 r204.2),(14,i6 r238.1),(15,i6 r238.2),(16,i6 r247.1),(74,.bool ((((decide (r34.1=0)) && (decide (r68.1=9))) && (decide (r68.2=28))) && (decide (r102.1=10))))]) (b:=(((decide (r34.1=0)) && (decide (r68.1=9))) && (decide (r68.2=28)))) 3 u ?_ ?_ ?_
 intro hb key
 replace o:=Fr.as o (t:=71) rfl (congrArg Value.bool hb)
 refine qg o (e_move o rfl) fun a o=>qg o (e_eql o rfl rfl) fun a o=>qv o (e_as (v':=.bool ((((decide (r34.1=0)) && (decide (r68.1=9))) && (decide (r68.2=28))) && (decide (r102.1=10)))) (e_pickT o rfl rfl) (by rw [hb];rfl)) fun a o=>?_
 exact key _ _ (o.hs) u
 intro hb key
 replace o:=Fr.as o (t:=71) rfl (congrArg Value.bool hb)
 iterate 2 refine qn o fun a o=>?_
 refine qv o (e_as (v':=.bool ((((decide (r34.1=0)) && (decide (r68.1=9))) && (decide (r68.2=28))) && (decide (r102.1=10)))) (e_pickF o rfl rfl) (by rw [hb];rfl)) fun a o=>?_
 exact key _ _ (o.hs) u
 intro a w o u
 refine qm o rfl fun a o=>grp (N:=164) (Fk:=[(1,.pointer (some ⟨b33,0,none⟩)),(8,i6 r136.1),(9,i6 r136.2),(10,i6 r170.1),(12,i6 r204.1),(13,i6 r204.2),(14,i6 r238.1),(15,i6 r238.2),(16,i6 r247.1),(78,.bool (((((decide (r34.1=0)) && (decide (r68.1=9))) && (decide (r68.2=28))) && (decide (r102.1=10))) && (decide (r102.2=12))))]) (b:=((((decide (r34.1=0)) && (decide (r68.1=9))) && (decide (r68.2=28))) && (decide (r102.1=10)))) 3 u ?_ ?_ ?_
 intro hb key
 replace o:=Fr.as o (t:=75) rfl (congrArg Value.bool hb)
 refine qg o (e_move o rfl) fun a o=>qg o (e_eql o rfl rfl) fun a o=>qv o (e_as (v':=.bool (((((decide (r34.1=0)) && (decide (r68.1=9))) && (decide (r68.2=28))) && (decide (r102.1=10))) && (decide (r102.2=12)))) (e_pickT o rfl rfl) (by rw [hb];rfl)) fun a o=>?_
 exact key _ _ (o.hs) u
 intro hb key
 replace o:=Fr.as o (t:=75) rfl (congrArg Value.bool hb)
 iterate 2 refine qn o fun a o=>?_
 refine qv o (e_as (v':=.bool (((((decide (r34.1=0)) && (decide (r68.1=9))) && (decide (r68.2=28))) && (decide (r102.1=10))) && (decide (r102.2=12)))) (e_pickF o rfl rfl) (by rw [hb];rfl)) fun a o=>?_
 exact key _ _ (o.hs) u
 intro a w o u
 refine qm o rfl fun a o=>grp (N:=164) (Fk:=[(1,.pointer (some ⟨b33,0,none⟩)),(9,i6 r136.2),(10,i6 r170.1),(12,i6 r204.1),(13,i6 r204.2),(14,i6 r238.1),(15,i6 r238.2),(16,i6 r247.1),(82,.bool ((((((decide (r34.1=0)) && (decide (r68.1=9))) && (decide (r68.2=28))) && (decide (r102.1=10))) && (decide (r102.2=12))) && (decide (r136.1=10))))]) (b:=(((((decide (r34.1=0)) && (decide (r68.1=9))) && (decide (r68.2=28))) && (decide (r102.1=10))) && (decide (r102.2=12)))) 3 u ?_ ?_ ?_
 intro hb key
 replace o:=Fr.as o (t:=79) rfl (congrArg Value.bool hb)
 refine qg o (e_move o rfl) fun a o=>qg o (e_eql o rfl rfl) fun a o=>qv o (e_as (v':=.bool ((((((decide (r34.1=0)) && (decide (r68.1=9))) && (decide (r68.2=28))) && (decide (r102.1=10))) && (decide (r102.2=12))) && (decide (r136.1=10)))) (e_pickT o rfl rfl) (by rw [hb];rfl)) fun a o=>?_
 exact key _ _ (o.hs) u
 intro hb key
 replace o:=Fr.as o (t:=79) rfl (congrArg Value.bool hb)
 iterate 2 refine qn o fun a o=>?_
 refine qv o (e_as (v':=.bool ((((((decide (r34.1=0)) && (decide (r68.1=9))) && (decide (r68.2=28))) && (decide (r102.1=10))) && (decide (r102.2=12))) && (decide (r136.1=10)))) (e_pickF o rfl rfl) (by rw [hb];rfl)) fun a o=>?_
 exact key _ _ (o.hs) u
 intro a w o u
 refine qm o rfl fun a o=>grp (N:=164) (Fk:=[(1,.pointer (some ⟨b33,0,none⟩)),(10,i6 r170.1),(12,i6 r204.1),(13,i6 r204.2),(14,i6 r238.1),(15,i6 r238.2),(16,i6 r247.1),(86,.bool (((((((decide (r34.1=0)) && (decide (r68.1=9))) && (decide (r68.2=28))) && (decide (r102.1=10))) && (decide (r102.2=12))) && (decide (r136.1=10))) && (decide (r136.2=15))))]) (b:=((((((decide (r34.1=0)) && (decide (r68.1=9))) && (decide (r68.2=28))) && (decide (r102.1=10))) && (decide (r102.2=12))) && (decide (r136.1=10)))) 3 u ?_ ?_ ?_
 intro hb key
 replace o:=Fr.as o (t:=83) rfl (congrArg Value.bool hb)
 refine qg o (e_move o rfl) fun a o=>qg o (e_eql o rfl rfl) fun a o=>qv o (e_as (v':=.bool (((((((decide (r34.1=0)) && (decide (r68.1=9))) && (decide (r68.2=28))) && (decide (r102.1=10))) && (decide (r102.2=12))) && (decide (r136.1=10))) && (decide (r136.2=15)))) (e_pickT o rfl rfl) (by rw [hb];rfl)) fun a o=>?_
 exact key _ _ (o.hs) u
 intro hb key
 replace o:=Fr.as o (t:=83) rfl (congrArg Value.bool hb)
 iterate 2 refine qn o fun a o=>?_
 refine qv o (e_as (v':=.bool (((((((decide (r34.1=0)) && (decide (r68.1=9))) && (decide (r68.2=28))) && (decide (r102.1=10))) && (decide (r102.2=12))) && (decide (r136.1=10))) && (decide (r136.2=15)))) (e_pickF o rfl rfl) (by rw [hb];rfl)) fun a o=>?_
 exact key _ _ (o.hs) u
 intro a w o u
 refine qm o rfl fun a o=>grp (N:=164) (Fk:=[(1,.pointer (some ⟨b33,0,none⟩)),(12,i6 r204.1),(13,i6 r204.2),(14,i6 r238.1),(15,i6 r238.2),(16,i6 r247.1),(90,.bool ((((((((decide (r34.1=0)) && (decide (r68.1=9))) && (decide (r68.2=28))) && (decide (r102.1=10))) && (decide (r102.2=12))) && (decide (r136.1=10))) && (decide (r136.2=15))) && (decide (r170.1=2))))]) (b:=(((((((decide (r34.1=0)) && (decide (r68.1=9))) && (decide (r68.2=28))) && (decide (r102.1=10))) && (decide (r102.2=12))) && (decide (r136.1=10))) && (decide (r136.2=15)))) 3 u ?_ ?_ ?_
 intro hb key
 replace o:=Fr.as o (t:=87) rfl (congrArg Value.bool hb)
 refine qg o (e_move o rfl) fun a o=>qg o (e_eql o rfl rfl) fun a o=>qv o (e_as (v':=.bool ((((((((decide (r34.1=0)) && (decide (r68.1=9))) && (decide (r68.2=28))) && (decide (r102.1=10))) && (decide (r102.2=12))) && (decide (r136.1=10))) && (decide (r136.2=15))) && (decide (r170.1=2)))) (e_pickT o rfl rfl) (by rw [hb];rfl)) fun a o=>?_
 exact key _ _ (o.hs) u
 intro hb key
 replace o:=Fr.as o (t:=87) rfl (congrArg Value.bool hb)
 iterate 2 refine qn o fun a o=>?_
 refine qv o (e_as (v':=.bool ((((((((decide (r34.1=0)) && (decide (r68.1=9))) && (decide (r68.2=28))) && (decide (r102.1=10))) && (decide (r102.2=12))) && (decide (r136.1=10))) && (decide (r136.2=15))) && (decide (r170.1=2)))) (e_pickF o rfl rfl) (by rw [hb];rfl)) fun a o=>?_
 exact key _ _ (o.hs) u
 intro a w o u
 refine qm o rfl fun a o=>grp (N:=164) (Fk:=[(1,.pointer (some ⟨b33,0,none⟩)),(13,i6 r204.2),(14,i6 r238.1),(15,i6 r238.2),(16,i6 r247.1),(94,.bool (((((((((decide (r34.1=0)) && (decide (r68.1=9))) && (decide (r68.2=28))) && (decide (r102.1=10))) && (decide (r102.2=12))) && (decide (r136.1=10))) && (decide (r136.2=15))) && (decide (r170.1=2))) && (decide (r204.1=9))))]) (b:=((((((((decide (r34.1=0)) && (decide (r68.1=9))) && (decide (r68.2=28))) && (decide (r102.1=10))) && (decide (r102.2=12))) && (decide (r136.1=10))) && (decide (r136.2=15))) && (decide (r170.1=2)))) 3 u ?_ ?_ ?_
 intro hb key
 replace o:=Fr.as o (t:=91) rfl (congrArg Value.bool hb)
 refine qg o (e_move o rfl) fun a o=>qg o (e_eql o rfl rfl) fun a o=>qv o (e_as (v':=.bool (((((((((decide (r34.1=0)) && (decide (r68.1=9))) && (decide (r68.2=28))) && (decide (r102.1=10))) && (decide (r102.2=12))) && (decide (r136.1=10))) && (decide (r136.2=15))) && (decide (r170.1=2))) && (decide (r204.1=9)))) (e_pickT o rfl rfl) (by rw [hb];rfl)) fun a o=>?_
 exact key _ _ (o.hs) u
 intro hb key
 replace o:=Fr.as o (t:=91) rfl (congrArg Value.bool hb)
 iterate 2 refine qn o fun a o=>?_
 refine qv o (e_as (v':=.bool (((((((((decide (r34.1=0)) && (decide (r68.1=9))) && (decide (r68.2=28))) && (decide (r102.1=10))) && (decide (r102.2=12))) && (decide (r136.1=10))) && (decide (r136.2=15))) && (decide (r170.1=2))) && (decide (r204.1=9)))) (e_pickF o rfl rfl) (by rw [hb];rfl)) fun a o=>?_
 exact key _ _ (o.hs) u
 intro a w o u
 refine qm o rfl fun a o=>grp (N:=164) (Fk:=[(1,.pointer (some ⟨b33,0,none⟩)),(14,i6 r238.1),(15,i6 r238.2),(16,i6 r247.1),(98,.bool ((((((((((decide (r34.1=0)) && (decide (r68.1=9))) && (decide (r68.2=28))) && (decide (r102.1=10))) && (decide (r102.2=12))) && (decide (r136.1=10))) && (decide (r136.2=15))) && (decide (r170.1=2))) && (decide (r204.1=9))) && (decide (r204.2=18))))]) (b:=(((((((((decide (r34.1=0)) && (decide (r68.1=9))) && (decide (r68.2=28))) && (decide (r102.1=10))) && (decide (r102.2=12))) && (decide (r136.1=10))) && (decide (r136.2=15))) && (decide (r170.1=2))) && (decide (r204.1=9)))) 3 u ?_ ?_ ?_
 intro hb key
 replace o:=Fr.as o (t:=95) rfl (congrArg Value.bool hb)
 refine qg o (e_move o rfl) fun a o=>qg o (e_eql o rfl rfl) fun a o=>qv o (e_as (v':=.bool ((((((((((decide (r34.1=0)) && (decide (r68.1=9))) && (decide (r68.2=28))) && (decide (r102.1=10))) && (decide (r102.2=12))) && (decide (r136.1=10))) && (decide (r136.2=15))) && (decide (r170.1=2))) && (decide (r204.1=9))) && (decide (r204.2=18)))) (e_pickT o rfl rfl) (by rw [hb];rfl)) fun a o=>?_
 exact key _ _ (o.hs) u
 intro hb key
 replace o:=Fr.as o (t:=95) rfl (congrArg Value.bool hb)
 iterate 2 refine qn o fun a o=>?_
 refine qv o (e_as (v':=.bool ((((((((((decide (r34.1=0)) && (decide (r68.1=9))) && (decide (r68.2=28))) && (decide (r102.1=10))) && (decide (r102.2=12))) && (decide (r136.1=10))) && (decide (r136.2=15))) && (decide (r170.1=2))) && (decide (r204.1=9))) && (decide (r204.2=18)))) (e_pickF o rfl rfl) (by rw [hb];rfl)) fun a o=>?_
 exact key _ _ (o.hs) u
 intro a w o u
 refine qm o rfl fun a o=>grp (N:=164) (Fk:=[(1,.pointer (some ⟨b33,0,none⟩)),(15,i6 r238.2),(16,i6 r247.1),(102,.bool (((((((((((decide (r34.1=0)) && (decide (r68.1=9))) && (decide (r68.2=28))) && (decide (r102.1=10))) && (decide (r102.2=12))) && (decide (r136.1=10))) && (decide (r136.2=15))) && (decide (r170.1=2))) && (decide (r204.1=9))) && (decide (r204.2=18))) && (decide (r238.1=9))))]) (b:=((((((((((decide (r34.1=0)) && (decide (r68.1=9))) && (decide (r68.2=28))) && (decide (r102.1=10))) && (decide (r102.2=12))) && (decide (r136.1=10))) && (decide (r136.2=15))) && (decide (r170.1=2))) && (decide (r204.1=9))) && (decide (r204.2=18)))) 3 u ?_ ?_ ?_
 intro hb key
 replace o:=Fr.as o (t:=99) rfl (congrArg Value.bool hb)
 refine qg o (e_move o rfl) fun a o=>qg o (e_eql o rfl rfl) fun a o=>qv o (e_as (v':=.bool (((((((((((decide (r34.1=0)) && (decide (r68.1=9))) && (decide (r68.2=28))) && (decide (r102.1=10))) && (decide (r102.2=12))) && (decide (r136.1=10))) && (decide (r136.2=15))) && (decide (r170.1=2))) && (decide (r204.1=9))) && (decide (r204.2=18))) && (decide (r238.1=9)))) (e_pickT o rfl rfl) (by rw [hb];rfl)) fun a o=>?_
 exact key _ _ (o.hs) u
 intro hb key
 replace o:=Fr.as o (t:=99) rfl (congrArg Value.bool hb)
 iterate 2 refine qn o fun a o=>?_
 refine qv o (e_as (v':=.bool (((((((((((decide (r34.1=0)) && (decide (r68.1=9))) && (decide (r68.2=28))) && (decide (r102.1=10))) && (decide (r102.2=12))) && (decide (r136.1=10))) && (decide (r136.2=15))) && (decide (r170.1=2))) && (decide (r204.1=9))) && (decide (r204.2=18))) && (decide (r238.1=9)))) (e_pickF o rfl rfl) (by rw [hb];rfl)) fun a o=>?_
 exact key _ _ (o.hs) u
 intro a w o u
 refine qm o rfl fun a o=>grp (N:=164) (Fk:=[(1,.pointer (some ⟨b33,0,none⟩)),(16,i6 r247.1),(106,.bool ((((((((((((decide (r34.1=0)) && (decide (r68.1=9))) && (decide (r68.2=28))) && (decide (r102.1=10))) && (decide (r102.2=12))) && (decide (r136.1=10))) && (decide (r136.2=15))) && (decide (r170.1=2))) && (decide (r204.1=9))) && (decide (r204.2=18))) && (decide (r238.1=9))) && (decide (r238.2=27))))]) (b:=(((((((((((decide (r34.1=0)) && (decide (r68.1=9))) && (decide (r68.2=28))) && (decide (r102.1=10))) && (decide (r102.2=12))) && (decide (r136.1=10))) && (decide (r136.2=15))) && (decide (r170.1=2))) && (decide (r204.1=9))) && (decide (r204.2=18))) && (decide (r238.1=9)))) 3 u ?_ ?_ ?_
 intro hb key
 replace o:=Fr.as o (t:=103) rfl (congrArg Value.bool hb)
 refine qg o (e_move o rfl) fun a o=>qg o (e_eql o rfl rfl) fun a o=>qv o (e_as (v':=.bool ((((((((((((decide (r34.1=0)) && (decide (r68.1=9))) && (decide (r68.2=28))) && (decide (r102.1=10))) && (decide (r102.2=12))) && (decide (r136.1=10))) && (decide (r136.2=15))) && (decide (r170.1=2))) && (decide (r204.1=9))) && (decide (r204.2=18))) && (decide (r238.1=9))) && (decide (r238.2=27)))) (e_pickT o rfl rfl) (by rw [hb];rfl)) fun a o=>?_
 exact key _ _ (o.hs) u
 intro hb key
 replace o:=Fr.as o (t:=103) rfl (congrArg Value.bool hb)
 iterate 2 refine qn o fun a o=>?_
 refine qv o (e_as (v':=.bool ((((((((((((decide (r34.1=0)) && (decide (r68.1=9))) && (decide (r68.2=28))) && (decide (r102.1=10))) && (decide (r102.2=12))) && (decide (r136.1=10))) && (decide (r136.2=15))) && (decide (r170.1=2))) && (decide (r204.1=9))) && (decide (r204.2=18))) && (decide (r238.1=9))) && (decide (r238.2=27)))) (e_pickF o rfl rfl) (by rw [hb];rfl)) fun a o=>?_
 exact key _ _ (o.hs) u
 intro a w o u
 refine qm o rfl fun a o=>grp (N:=164) (Fk:=[(1,.pointer (some ⟨b33,0,none⟩)),(110,.bool (((((((((((((decide (r34.1=0)) && (decide (r68.1=9))) && (decide (r68.2=28))) && (decide (r102.1=10))) && (decide (r102.2=12))) && (decide (r136.1=10))) && (decide (r136.2=15))) && (decide (r170.1=2))) && (decide (r204.1=9))) && (decide (r204.2=18))) && (decide (r238.1=9))) && (decide (r238.2=27))) && (decide (r247.1=8))))]) (b:=((((((((((((decide (r34.1=0)) && (decide (r68.1=9))) && (decide (r68.2=28))) && (decide (r102.1=10))) && (decide (r102.2=12))) && (decide (r136.1=10))) && (decide (r136.2=15))) && (decide (r170.1=2))) && (decide (r204.1=9))) && (decide (r204.2=18))) && (decide (r238.1=9))) && (decide (r238.2=27)))) 3 u ?_ ?_ ?_
 intro hb key
 replace o:=Fr.as o (t:=107) rfl (congrArg Value.bool hb)
 refine qg o (e_move o rfl) fun a o=>qg o (e_eql o rfl rfl) fun a o=>qv o (e_as (v':=.bool (((((((((((((decide (r34.1=0)) && (decide (r68.1=9))) && (decide (r68.2=28))) && (decide (r102.1=10))) && (decide (r102.2=12))) && (decide (r136.1=10))) && (decide (r136.2=15))) && (decide (r170.1=2))) && (decide (r204.1=9))) && (decide (r204.2=18))) && (decide (r238.1=9))) && (decide (r238.2=27))) && (decide (r247.1=8)))) (e_pickT o rfl rfl) (by rw [hb];rfl)) fun a o=>?_
 exact key _ _ (o.has ⟨rfl,rfl,trivial⟩) u
 intro hb key
 replace o:=Fr.as o (t:=107) rfl (congrArg Value.bool hb)
 iterate 2 refine qn o fun a o=>?_
 refine qv o (e_as (v':=.bool (((((((((((((decide (r34.1=0)) && (decide (r68.1=9))) && (decide (r68.2=28))) && (decide (r102.1=10))) && (decide (r102.2=12))) && (decide (r136.1=10))) && (decide (r136.2=15))) && (decide (r170.1=2))) && (decide (r204.1=9))) && (decide (r204.2=18))) && (decide (r238.1=9))) && (decide (r238.2=27))) && (decide (r247.1=8)))) (e_pickF o rfl rfl) (by rw [hb];rfl)) fun a o=>?_
 exact key _ _ (o.has ⟨rfl,rfl,trivial⟩) u
 intro a w o u
 refine qv o (e_as (e_move o rfl) (congrArg Value.bool hb249)) fun a o=>qg o (e_ldA o isAgg27 sizeOf27 rfl rfl ((St.ld u).cellsB t0)) fun a o=>ls<|gy o rfl rfl<|c1 o rfl call20 (Z5n_c (hp_le _) (Enc.mono (St.up u) (show Enc.rep (α:=api_Prog) H246 [.slice oa9 rz1.Lines.length cap10,.slice oa13 rz1.Vols.length cap14,.slice oa17 rz1.Locks.length cap18,.slice oa21 rz1.Threads.length cap22,.slice oa25 rz1.Recover.length cap26,.slice oa29 rz1.Claims.length cap30] rz1 from ⟨_,_,rfl,⟨_,_,rfl,hc11,(hr12.mono (cp (cp (cp (cp (cp (cp hx243.sub hx208.sub) hx174.sub) hx140.sub) hx106.sub) hx72.sub) hx38.sub))⟩,⟨_,_,rfl,⟨_,_,rfl,hc15,(hr16.mono (cp (cp (cp (cp (cp (cp hx243.sub hx208.sub) hx174.sub) hx140.sub) hx106.sub) hx72.sub) hx38.sub))⟩,⟨_,_,rfl,⟨_,_,rfl,hc19,(hr20.mono (cp (cp (cp (cp (cp (cp hx243.sub hx208.sub) hx174.sub) hx140.sub) hx106.sub) hx72.sub) hx38.sub))⟩,⟨_,_,rfl,⟨_,_,rfl,hc23,(hr24.mono (cp (cp (cp (cp (cp (cp hx243.sub hx208.sub) hx174.sub) hx140.sub) hx106.sub) hx72.sub) hx38.sub))⟩,⟨_,_,rfl,⟨_,_,rfl,hc27,(hr28.mono (cp (cp (cp (cp (cp (cp hx243.sub hx208.sub) hx174.sub) hx140.sub) hx106.sub) hx72.sub) hx38.sub))⟩,⟨_,_,rfl,hc31,(hr32.mono (cp (cp (cp (cp (cp (cp hx243.sub hx208.sub) hx174.sub) hx140.sub) hx106.sub) hx72.sub) hx38.sub))⟩⟩⟩⟩⟩⟩)) h251) ⟨rfl,trivial⟩ (fun v w a hR o=>?_)
 obtain ⟨oa252,cap253,vs254,rfl,hv255,hk⟩:=hR
 replace u:=u.fresh hk
 replace hv255:=hv255 H246
 refine ls<|gy o rfl rfl<|a_bsl (e:=9) (sz:=1) [strv [97],strv [98],strv [99],strv [120]] o rfl u rfl rfl rfl (fun w=>by kernel_rfl) fun b258 w a u o=>?_
 have hv257:Rows (α:=Str) H246 [strv [97],strv [98],strv [99],strv [120]] ([[97],[98],[99],[120]]:List Str):=(.cons (c:=[strv [97]]) rfl (.cons (c:=[strv [98]]) rfl (.cons (c:=[strv [99]]) rfl (.cons (c:=[strv [120]]) rfl .nil))))
 refine ls<|gy o rfl rfl<|cq o call21 (Z5i_c (hp_le _) (St.capO u t1) (St.srO u t1 hv255) (St.capO u t0) (St.srO u t0 hv257) h261) ⟨rfl,rfl,trivial⟩ u fun w a u o=>qv o (e_pickT o rfl rfl) fun a o=>qv o (e_as (e_move o rfl) (congrArg Value.bool hb262)) fun a o=>qg o (e_ldA o isAgg27 sizeOf27 rfl rfl ((St.ld u).cellsB t2)) fun a o=>ls<|gy o rfl rfl<|cq o call23 (Z69_c (hp_le _) (Enc.mono (St.up u) (show Enc.rep (α:=api_Prog) H246 [.slice oa9 rz1.Lines.length cap10,.slice oa13 rz1.Vols.length cap14,.slice oa17 rz1.Locks.length cap18,.slice oa21 rz1.Threads.length cap22,.slice oa25 rz1.Recover.length cap26,.slice oa29 rz1.Claims.length cap30] rz1 from ⟨_,_,rfl,⟨_,_,rfl,hc11,(hr12.mono (cp (cp (cp (cp (cp (cp hx243.sub hx208.sub) hx174.sub) hx140.sub) hx106.sub) hx72.sub) hx38.sub))⟩,⟨_,_,rfl,⟨_,_,rfl,hc15,(hr16.mono (cp (cp (cp (cp (cp (cp hx243.sub hx208.sub) hx174.sub) hx140.sub) hx106.sub) hx72.sub) hx38.sub))⟩,⟨_,_,rfl,⟨_,_,rfl,hc19,(hr20.mono (cp (cp (cp (cp (cp (cp hx243.sub hx208.sub) hx174.sub) hx140.sub) hx106.sub) hx72.sub) hx38.sub))⟩,⟨_,_,rfl,⟨_,_,rfl,hc23,(hr24.mono (cp (cp (cp (cp (cp (cp hx243.sub hx208.sub) hx174.sub) hx140.sub) hx106.sub) hx72.sub) hx38.sub))⟩,⟨_,_,rfl,⟨_,_,rfl,hc27,(hr28.mono (cp (cp (cp (cp (cp (cp hx243.sub hx208.sub) hx174.sub) hx140.sub) hx106.sub) hx72.sub) hx38.sub))⟩,⟨_,_,rfl,hc31,(hr32.mono (cp (cp (cp (cp (cp (cp hx243.sub hx208.sub) hx174.sub) hx140.sub) hx106.sub) hx72.sub) hx38.sub))⟩⟩⟩⟩⟩⟩)) h264) ⟨rfl,trivial⟩ u fun w a u o=>qg o (e_eql o rfl rfl) fun a o=>qv o (e_pickT o rfl rfl) fun a o=>qv o (e_as (e_move o rfl) (congrArg Value.bool hb265)) fun a o=>qg o (e_ldA o isAgg27 sizeOf27 rfl rfl ((St.ld u).cellsB t2)) fun a o=>ls<|gy o rfl rfl<|cq o call25 (Z63_c (hp_le _) (Enc.mono (St.up u) (show Enc.rep (α:=api_Prog) H246 [.slice oa9 rz1.Lines.length cap10,.slice oa13 rz1.Vols.length cap14,.slice oa17 rz1.Locks.length cap18,.slice oa21 rz1.Threads.length cap22,.slice oa25 rz1.Recover.length cap26,.slice oa29 rz1.Claims.length cap30] rz1 from ⟨_,_,rfl,⟨_,_,rfl,hc11,(hr12.mono (cp (cp (cp (cp (cp (cp hx243.sub hx208.sub) hx174.sub) hx140.sub) hx106.sub) hx72.sub) hx38.sub))⟩,⟨_,_,rfl,⟨_,_,rfl,hc15,(hr16.mono (cp (cp (cp (cp (cp (cp hx243.sub hx208.sub) hx174.sub) hx140.sub) hx106.sub) hx72.sub) hx38.sub))⟩,⟨_,_,rfl,⟨_,_,rfl,hc19,(hr20.mono (cp (cp (cp (cp (cp (cp hx243.sub hx208.sub) hx174.sub) hx140.sub) hx106.sub) hx72.sub) hx38.sub))⟩,⟨_,_,rfl,⟨_,_,rfl,hc23,(hr24.mono (cp (cp (cp (cp (cp (cp hx243.sub hx208.sub) hx174.sub) hx140.sub) hx106.sub) hx72.sub) hx38.sub))⟩,⟨_,_,rfl,⟨_,_,rfl,hc27,(hr28.mono (cp (cp (cp (cp (cp (cp hx243.sub hx208.sub) hx174.sub) hx140.sub) hx106.sub) hx72.sub) hx38.sub))⟩,⟨_,_,rfl,hc31,(hr32.mono (cp (cp (cp (cp (cp (cp hx243.sub hx208.sub) hx174.sub) hx140.sub) hx106.sub) hx72.sub) hx38.sub))⟩⟩⟩⟩⟩⟩)) h267) ⟨rfl,rfl,trivial⟩ u fun w a u o=>qg o (e_eql o rfl rfl) fun a o=>qv o (e_pickT o rfl rfl) fun a o=>qv o (e_as (e_move o rfl) (congrArg Value.bool hb268)) fun a o=>qg o (e_ldA o isAgg27 sizeOf27 rfl rfl ((St.ld u).cellsB t2)) fun a o=>ls<|gy o rfl rfl<|cq o call25 (Z63_c (hp_le _) (Enc.mono (St.up u) (show Enc.rep (α:=api_Prog) H246 [.slice oa9 rz1.Lines.length cap10,.slice oa13 rz1.Vols.length cap14,.slice oa17 rz1.Locks.length cap18,.slice oa21 rz1.Threads.length cap22,.slice oa25 rz1.Recover.length cap26,.slice oa29 rz1.Claims.length cap30] rz1 from ⟨_,_,rfl,⟨_,_,rfl,hc11,(hr12.mono (cp (cp (cp (cp (cp (cp hx243.sub hx208.sub) hx174.sub) hx140.sub) hx106.sub) hx72.sub) hx38.sub))⟩,⟨_,_,rfl,⟨_,_,rfl,hc15,(hr16.mono (cp (cp (cp (cp (cp (cp hx243.sub hx208.sub) hx174.sub) hx140.sub) hx106.sub) hx72.sub) hx38.sub))⟩,⟨_,_,rfl,⟨_,_,rfl,hc19,(hr20.mono (cp (cp (cp (cp (cp (cp hx243.sub hx208.sub) hx174.sub) hx140.sub) hx106.sub) hx72.sub) hx38.sub))⟩,⟨_,_,rfl,⟨_,_,rfl,hc23,(hr24.mono (cp (cp (cp (cp (cp (cp hx243.sub hx208.sub) hx174.sub) hx140.sub) hx106.sub) hx72.sub) hx38.sub))⟩,⟨_,_,rfl,⟨_,_,rfl,hc27,(hr28.mono (cp (cp (cp (cp (cp (cp hx243.sub hx208.sub) hx174.sub) hx140.sub) hx106.sub) hx72.sub) hx38.sub))⟩,⟨_,_,rfl,hc31,(hr32.mono (cp (cp (cp (cp (cp (cp hx243.sub hx208.sub) hx174.sub) hx140.sub) hx106.sub) hx72.sub) hx38.sub))⟩⟩⟩⟩⟩⟩)) h270) ⟨rfl,rfl,trivial⟩ u fun w a u o=>qg o (e_eql o rfl rfl) fun a o=>qv o (e_pickT o rfl rfl) fun a o=>qv o (e_as (e_move o rfl) (congrArg Value.bool hb271)) fun a o=>qg o (e_ldA o isAgg27 sizeOf27 rfl rfl ((St.ld u).cellsB t2)) fun a o=>ls<|gy o rfl rfl<|cq o call25 (Z63_c (hp_le _) (Enc.mono (St.up u) (show Enc.rep (α:=api_Prog) H246 [.slice oa9 rz1.Lines.length cap10,.slice oa13 rz1.Vols.length cap14,.slice oa17 rz1.Locks.length cap18,.slice oa21 rz1.Threads.length cap22,.slice oa25 rz1.Recover.length cap26,.slice oa29 rz1.Claims.length cap30] rz1 from ⟨_,_,rfl,⟨_,_,rfl,hc11,(hr12.mono (cp (cp (cp (cp (cp (cp hx243.sub hx208.sub) hx174.sub) hx140.sub) hx106.sub) hx72.sub) hx38.sub))⟩,⟨_,_,rfl,⟨_,_,rfl,hc15,(hr16.mono (cp (cp (cp (cp (cp (cp hx243.sub hx208.sub) hx174.sub) hx140.sub) hx106.sub) hx72.sub) hx38.sub))⟩,⟨_,_,rfl,⟨_,_,rfl,hc19,(hr20.mono (cp (cp (cp (cp (cp (cp hx243.sub hx208.sub) hx174.sub) hx140.sub) hx106.sub) hx72.sub) hx38.sub))⟩,⟨_,_,rfl,⟨_,_,rfl,hc23,(hr24.mono (cp (cp (cp (cp (cp (cp hx243.sub hx208.sub) hx174.sub) hx140.sub) hx106.sub) hx72.sub) hx38.sub))⟩,⟨_,_,rfl,⟨_,_,rfl,hc27,(hr28.mono (cp (cp (cp (cp (cp (cp hx243.sub hx208.sub) hx174.sub) hx140.sub) hx106.sub) hx72.sub) hx38.sub))⟩,⟨_,_,rfl,hc31,(hr32.mono (cp (cp (cp (cp (cp (cp hx243.sub hx208.sub) hx174.sub) hx140.sub) hx106.sub) hx72.sub) hx38.sub))⟩⟩⟩⟩⟩⟩)) h273) ⟨rfl,rfl,trivial⟩ u fun w a u o=>qg o (e_eql o rfl rfl) fun a o=>qv o (e_pickT o rfl rfl) fun a o=>qv o (e_as (e_move o rfl) (congrArg Value.bool hb274)) fun a o=>qg o (e_ldA o isAgg27 sizeOf27 rfl rfl ((St.ld u).cellsB t2)) fun a o=>ls<|gy o rfl rfl<|cq o call25 (Z63_c (hp_le _) (Enc.mono (St.up u) (show Enc.rep (α:=api_Prog) H246 [.slice oa9 rz1.Lines.length cap10,.slice oa13 rz1.Vols.length cap14,.slice oa17 rz1.Locks.length cap18,.slice oa21 rz1.Threads.length cap22,.slice oa25 rz1.Recover.length cap26,.slice oa29 rz1.Claims.length cap30] rz1 from ⟨_,_,rfl,⟨_,_,rfl,hc11,(hr12.mono (cp (cp (cp (cp (cp (cp hx243.sub hx208.sub) hx174.sub) hx140.sub) hx106.sub) hx72.sub) hx38.sub))⟩,⟨_,_,rfl,⟨_,_,rfl,hc15,(hr16.mono (cp (cp (cp (cp (cp (cp hx243.sub hx208.sub) hx174.sub) hx140.sub) hx106.sub) hx72.sub) hx38.sub))⟩,⟨_,_,rfl,⟨_,_,rfl,hc19,(hr20.mono (cp (cp (cp (cp (cp (cp hx243.sub hx208.sub) hx174.sub) hx140.sub) hx106.sub) hx72.sub) hx38.sub))⟩,⟨_,_,rfl,⟨_,_,rfl,hc23,(hr24.mono (cp (cp (cp (cp (cp (cp hx243.sub hx208.sub) hx174.sub) hx140.sub) hx106.sub) hx72.sub) hx38.sub))⟩,⟨_,_,rfl,⟨_,_,rfl,hc27,(hr28.mono (cp (cp (cp (cp (cp (cp hx243.sub hx208.sub) hx174.sub) hx140.sub) hx106.sub) hx72.sub) hx38.sub))⟩,⟨_,_,rfl,hc31,(hr32.mono (cp (cp (cp (cp (cp (cp hx243.sub hx208.sub) hx174.sub) hx140.sub) hx106.sub) hx72.sub) hx38.sub))⟩⟩⟩⟩⟩⟩)) h276) ⟨rfl,rfl,trivial⟩ u fun w a u o=>qg o (e_eql o rfl rfl) fun a o=>qv o (e_pickT o rfl rfl) fun a o=>qv o (e_as (e_move o rfl) (congrArg Value.bool hb277)) fun a o=>qg o (e_ldA o isAgg27 sizeOf27 rfl rfl ((St.ld u).cellsB t2)) fun a o=>ls<|gy o rfl rfl<|c1 o rfl call27 (Z65_c (hp_le _) (Enc.mono (St.up u) (show Enc.rep (α:=api_Prog) H246 [.slice oa9 rz1.Lines.length cap10,.slice oa13 rz1.Vols.length cap14,.slice oa17 rz1.Locks.length cap18,.slice oa21 rz1.Threads.length cap22,.slice oa25 rz1.Recover.length cap26,.slice oa29 rz1.Claims.length cap30] rz1 from ⟨_,_,rfl,⟨_,_,rfl,hc11,(hr12.mono (cp (cp (cp (cp (cp (cp hx243.sub hx208.sub) hx174.sub) hx140.sub) hx106.sub) hx72.sub) hx38.sub))⟩,⟨_,_,rfl,⟨_,_,rfl,hc15,(hr16.mono (cp (cp (cp (cp (cp (cp hx243.sub hx208.sub) hx174.sub) hx140.sub) hx106.sub) hx72.sub) hx38.sub))⟩,⟨_,_,rfl,⟨_,_,rfl,hc19,(hr20.mono (cp (cp (cp (cp (cp (cp hx243.sub hx208.sub) hx174.sub) hx140.sub) hx106.sub) hx72.sub) hx38.sub))⟩,⟨_,_,rfl,⟨_,_,rfl,hc23,(hr24.mono (cp (cp (cp (cp (cp (cp hx243.sub hx208.sub) hx174.sub) hx140.sub) hx106.sub) hx72.sub) hx38.sub))⟩,⟨_,_,rfl,⟨_,_,rfl,hc27,(hr28.mono (cp (cp (cp (cp (cp (cp hx243.sub hx208.sub) hx174.sub) hx140.sub) hx106.sub) hx72.sub) hx38.sub))⟩,⟨_,_,rfl,hc31,(hr32.mono (cp (cp (cp (cp (cp (cp hx243.sub hx208.sub) hx174.sub) hx140.sub) hx106.sub) hx72.sub) hx38.sub))⟩⟩⟩⟩⟩⟩)) h279) ⟨rfl,trivial⟩ (fun v w a hR o=>?_)
 obtain ⟨oa280,cap281,vs282,rfl,hv283,hk⟩:=hR
 replace u:=u.fresh hk
 replace hv283:=hv283 H246
 refine ls<|gy o rfl rfl<|a_bsl (e:=9) (sz:=1) [strv [109]] o rfl u rfl rfl rfl (fun w=>by kernel_rfl) fun b286 w a u o=>?_
 have hv285:Rows (α:=Str) H246 [strv [109]] ([[109]]:List Str):=(.cons (c:=[strv [109]]) rfl .nil)
 refine ls<|gy o rfl rfl<|cq o call21 (Z5i_c (hp_le _) (St.capO u t1) (St.srO u t1 hv283) (St.capO u t0) (St.srO u t0 hv285) h289) ⟨rfl,rfl,trivial⟩ u fun w a u o=>qv o (e_pickT o rfl rfl) fun a o=>qv o (e_as (e_move o rfl) (congrArg Value.bool hb290)) fun a o=>qg o (e_ldA o isAgg27 sizeOf27 rfl rfl ((St.ld u).cellsB t4)) fun a o=>ls<|gy o rfl rfl<|c1 o rfl call30 (Z61_c (hp_le _) (Enc.mono (St.up u) (show Enc.rep (α:=api_Prog) H246 [.slice oa9 rz1.Lines.length cap10,.slice oa13 rz1.Vols.length cap14,.slice oa17 rz1.Locks.length cap18,.slice oa21 rz1.Threads.length cap22,.slice oa25 rz1.Recover.length cap26,.slice oa29 rz1.Claims.length cap30] rz1 from ⟨_,_,rfl,⟨_,_,rfl,hc11,(hr12.mono (cp (cp (cp (cp (cp (cp hx243.sub hx208.sub) hx174.sub) hx140.sub) hx106.sub) hx72.sub) hx38.sub))⟩,⟨_,_,rfl,⟨_,_,rfl,hc15,(hr16.mono (cp (cp (cp (cp (cp (cp hx243.sub hx208.sub) hx174.sub) hx140.sub) hx106.sub) hx72.sub) hx38.sub))⟩,⟨_,_,rfl,⟨_,_,rfl,hc19,(hr20.mono (cp (cp (cp (cp (cp (cp hx243.sub hx208.sub) hx174.sub) hx140.sub) hx106.sub) hx72.sub) hx38.sub))⟩,⟨_,_,rfl,⟨_,_,rfl,hc23,(hr24.mono (cp (cp (cp (cp (cp (cp hx243.sub hx208.sub) hx174.sub) hx140.sub) hx106.sub) hx72.sub) hx38.sub))⟩,⟨_,_,rfl,⟨_,_,rfl,hc27,(hr28.mono (cp (cp (cp (cp (cp (cp hx243.sub hx208.sub) hx174.sub) hx140.sub) hx106.sub) hx72.sub) hx38.sub))⟩,⟨_,_,rfl,hc31,(hr32.mono (cp (cp (cp (cp (cp (cp hx243.sub hx208.sub) hx174.sub) hx140.sub) hx106.sub) hx72.sub) hx38.sub))⟩⟩⟩⟩⟩⟩)) h292) ⟨rfl,trivial⟩ (fun v w a hR o=>?_)
 obtain ⟨oa293,cap294,vs295,rfl,hv296,hk⟩:=hR
 replace u:=u.fresh hk
 replace hv296:=hv296 H246
 refine ls<|gy o rfl rfl<|a_bsl (e:=3) (sz:=1) [i6 1,i6 0,i6 0,i6 7] o rfl u rfl rfl rfl (fun w=>by kernel_rfl) fun b299 w a u o=>?_
 have hv298:Rows (α:=Int) H246 [i6 1,i6 0,i6 0,i6 7] ([1,0,0,7]:List Int):=(.cons (c:=[i6 1]) rfl (.cons (c:=[i6 0]) rfl (.cons (c:=[i6 0]) rfl (.cons (c:=[i6 7]) rfl .nil))))
 refine ls<|gy o rfl rfl<|cq o call29 (Z5f_c (hp_le _) (St.capO u t1) (St.srO u t1 hv296) (St.capO u t0) (St.srO u t0 hv298) h302) ⟨rfl,rfl,trivial⟩ u fun w a u o=>qv o (e_pickT o rfl rfl) fun a o=>qv o (e_as (e_move o rfl) (congrArg Value.bool hb303)) fun a o=>qg o (e_ldA o isAgg27 sizeOf27 rfl rfl ((St.ld u).cellsB t6)) fun a o=>ls<|gy o rfl rfl<|c1 o rfl call20 (Z5n_c (hp_le _) (Enc.mono (St.up u) (show Enc.rep (α:=api_Prog) H246 [.slice oa9 rz1.Lines.length cap10,.slice oa13 rz1.Vols.length cap14,.slice oa17 rz1.Locks.length cap18,.slice oa21 rz1.Threads.length cap22,.slice oa25 rz1.Recover.length cap26,.slice oa29 rz1.Claims.length cap30] rz1 from ⟨_,_,rfl,⟨_,_,rfl,hc11,(hr12.mono (cp (cp (cp (cp (cp (cp hx243.sub hx208.sub) hx174.sub) hx140.sub) hx106.sub) hx72.sub) hx38.sub))⟩,⟨_,_,rfl,⟨_,_,rfl,hc15,(hr16.mono (cp (cp (cp (cp (cp (cp hx243.sub hx208.sub) hx174.sub) hx140.sub) hx106.sub) hx72.sub) hx38.sub))⟩,⟨_,_,rfl,⟨_,_,rfl,hc19,(hr20.mono (cp (cp (cp (cp (cp (cp hx243.sub hx208.sub) hx174.sub) hx140.sub) hx106.sub) hx72.sub) hx38.sub))⟩,⟨_,_,rfl,⟨_,_,rfl,hc23,(hr24.mono (cp (cp (cp (cp (cp (cp hx243.sub hx208.sub) hx174.sub) hx140.sub) hx106.sub) hx72.sub) hx38.sub))⟩,⟨_,_,rfl,⟨_,_,rfl,hc27,(hr28.mono (cp (cp (cp (cp (cp (cp hx243.sub hx208.sub) hx174.sub) hx140.sub) hx106.sub) hx72.sub) hx38.sub))⟩,⟨_,_,rfl,hc31,(hr32.mono (cp (cp (cp (cp (cp (cp hx243.sub hx208.sub) hx174.sub) hx140.sub) hx106.sub) hx72.sub) hx38.sub))⟩⟩⟩⟩⟩⟩)) h305) ⟨rfl,trivial⟩ (fun v w a hR o=>?_)
 obtain ⟨oa306,cap307,vs308,rfl,hv309,hk⟩:=hR
 replace u:=u.fresh hk
 replace hv309:=hv309 H246
 refine ls<|gy o rfl rfl<|cq o call32 (Z68_c (hp_le _) (St.capO u t0) (St.srO u t0 hv309) h312) ⟨rfl,rfl,trivial⟩ u fun w a u o=>qg o (e_eql o rfl rfl) fun a o=>qv o (e_pickT o rfl rfl) fun a o=>qv o (e_as (e_move o rfl) (congrArg Value.bool hb313)) fun a o=>ls<|gy o rfl rfl<|cq o call32 (Z68_c (hp_le _) (Nat.le_refl _) (SR.nil _ none) h315) ⟨rfl,rfl,trivial⟩ u fun w a u o=>qg o (e_eql o rfl rfl) fun a o=>qv o (e_pickT o rfl rfl) fun a o=>qa o rfl fun a o=>re<|tn<|wr<|?_
 obtain rfl:=si hm
 exact r1 o results18 rfl ⟨rfl,u.keep⟩
set_option maxHeartbeats 4000000 in
theorem Z12_c (hH:H.le w0) (hT:Tab H) {cs2:List Value} {p1:api_Prog} (g3:Enc.rep H cs2 p1) {r:Bool} (hm:Z12 N p1=some r):Tot Tryz.prog 6 #[.agg cs2.toArray] w0 (fun v w'=>v=.bool r∧Keep Nil w0 w'):=by
 unfold Z12 at hm
 refine fn0 func6 rfl ntmps6 rfl rfl fun a o=>?_
 have u:St w0 Nil [H] [] w0:=start1 hH
 obtain ⟨oa4,cap5,oa8,cap9,oa12,cap13,oa16,cap17,oa20,cap21,oa24,cap25,rfl,hc6,hr7,hc10,hr11,hc14,hr15,hc18,hr19,hc22,hr23,hc26,hr27⟩:=api_Prog_open g3
 refine th<|rg<|ls<|a_box (cs:=[.slice oa4 p1.Lines.length cap5,.slice oa8 p1.Vols.length cap9,.slice oa12 p1.Locks.length cap13,.slice oa16 p1.Threads.length cap17,.slice oa20 p1.Recover.length cap21,.slice oa24 p1.Claims.length cap25].toArray) o rfl u rfl rfl fun b28 w a u o=>qa o rfl fun a o=>re<|tn<|th<|?_
 obtain ⟨r29,h30,hm⟩:=bs hm
 refine rg<|qv o (e_ldA o Tryz.isAgg27 Tryz.sizeOf27 rfl rfl ((St.ld u).cellsB t0)) fun a o=>ls<|c1 o rfl call15 (Zm_c (St.le u) (show Enc.rep (α:=api_Prog) H [.slice oa4 p1.Lines.length cap5,.slice oa8 p1.Vols.length cap9,.slice oa12 p1.Locks.length cap13,.slice oa16 p1.Threads.length cap17,.slice oa20 p1.Recover.length cap21,.slice oa24 p1.Claims.length cap25] p1 from ⟨_,_,rfl,⟨_,_,rfl,hc6,hr7⟩,⟨_,_,rfl,⟨_,_,rfl,hc10,hr11⟩,⟨_,_,rfl,⟨_,_,rfl,hc14,hr15⟩,⟨_,_,rfl,⟨_,_,rfl,hc18,hr19⟩,⟨_,_,rfl,⟨_,_,rfl,hc22,hr23⟩,⟨_,_,rfl,hc26,hr27⟩⟩⟩⟩⟩⟩) h30) ⟨rfl,trivial⟩ (fun v w a hR o=>?_)
 obtain ⟨H34,cs35,rfl,g36,hx31,hl32,hk⟩:=hR
 obtain ⟨u,hx31⟩:=And.intro (St.passH u hk hx31 hl32) (St.extc u hx31)
 obtain ⟨oa37,cap38,oa41,cap42,oa45,cap46,oa49,cap50,oa53,cap54,oa57,cap58,rfl,hc39,hr40,hc43,hr44,hc47,hr48,hc51,hr52,hc55,hr56,hc59,hr60⟩:=api_Prog_open g36
 refine ls<|s_blkA o u sizeOf27 rfl rfl rfl rfl (one_cells rfl) .head fun w u=>re<|tn<|th<|?_
 obtain ⟨r61,h62,hm⟩:=bs hm
 refine rg<|qv o (e_ldA o Tryz.isAgg27 Tryz.sizeOf27 rfl rfl ((St.ld u).cellsB t0)) fun a o=>ls<|cq o call16 (Z5p_c (hp_le _) (Tab.mono (Tab.mono hT hx31.sub) (St.up u)) (Enc.mono (St.up u) (show Enc.rep (α:=api_Prog) H34 [.slice oa37 r29.Lines.length cap38,.slice oa41 r29.Vols.length cap42,.slice oa45 r29.Locks.length cap46,.slice oa49 r29.Threads.length cap50,.slice oa53 r29.Recover.length cap54,.slice oa57 r29.Claims.length cap58] r29 from ⟨_,_,rfl,⟨_,_,rfl,hc39,hr40⟩,⟨_,_,rfl,⟨_,_,rfl,hc43,hr44⟩,⟨_,_,rfl,⟨_,_,rfl,hc47,hr48⟩,⟨_,_,rfl,⟨_,_,rfl,hc51,hr52⟩,⟨_,_,rfl,⟨_,_,rfl,hc55,hr56⟩,⟨_,_,rfl,hc59,hr60⟩⟩⟩⟩⟩⟩)) h62) ⟨rfl,trivial⟩ u fun w a u o=>qm o rfl fun a o=>?_
 iterate 2 refine qv o (e_ext o rfl rfl) fun a o=>?_
 iterate 2 refine qa o rfl fun a o=>?_
 refine re<|tn<|th<|th<|rg<|qm o rfl fun a o=>qv o (e_neq o rfl rfl) fun a o=>re<|?_
 rcases bdich (decide (r61.1≠0)) with hb63 | hb63
 replace hm:=itp_t hm hb63
 refine tn<|ctv o rfl hb63<|th<|?_
 obtain ⟨r64,h65,hm⟩:=bs hm
 refine rg<|ls<|c1 o rfl Tryz.call18 (Z1g_c (hp_le _) (Tab.mono (Tab.mono hT hx31.sub) (St.up u)) h65) trivial (fun v w a hR o=>?_)
 obtain ⟨rfl,hk⟩:=hR
 replace u:=u.pass hk
 refine qa o rfl fun a o=>re<|tn<|wr<|tr<|?_
 obtain rfl:=si hm
 exact r1 o results6 rfl ⟨rfl,u.keep⟩
 replace hm:=itp_f hm hb63
 refine tn<|cfv o rfl hb63<|wk<|tn<|th<|?_
 obtain ⟨r66,h67,hm⟩:=bs hm
 obtain ⟨r73,h74,hm⟩:=bs hm
 refine rdS 6 u wide fun w u=>dq 0 (St.ld u) o rfl (fun w hl=>e_ldA o isAgg27 sizeOf27 rfl rfl (hl.cellsB t0)) fun a o=>dq 2 (St.ld u) o rfl (fun w hl=>e_ldA o isAgg27 sizeOf27 rfl rfl (hl.cellsB t0)) fun a o=>da1 (i:=1) (by kernel_rfl) ?_
 refine di (i:=1) rfl<|c1 o rfl call20 (Z5n_c (hp_le _) (Enc.mono (St.up u) (show Enc.rep (α:=api_Prog) H34 [.slice oa37 r29.Lines.length cap38,.slice oa41 r29.Vols.length cap42,.slice oa45 r29.Locks.length cap46,.slice oa49 r29.Threads.length cap50,.slice oa53 r29.Recover.length cap54,.slice oa57 r29.Claims.length cap58] r29 from ⟨_,_,rfl,⟨_,_,rfl,hc39,hr40⟩,⟨_,_,rfl,⟨_,_,rfl,hc43,hr44⟩,⟨_,_,rfl,⟨_,_,rfl,hc47,hr48⟩,⟨_,_,rfl,⟨_,_,rfl,hc51,hr52⟩,⟨_,_,rfl,⟨_,_,rfl,hc55,hr56⟩,⟨_,_,rfl,hc59,hr60⟩⟩⟩⟩⟩⟩)) h67) ⟨rfl,trivial⟩ (fun v w a hR o=>?_)
 obtain ⟨oa68,cap69,vs70,rfl,hv71,hk⟩:=hR
 replace u:=u.fresh hk
 replace hv71:=hv71 H34
 refine ⟨fun _=>(St.ldsX u i2 ta1),?_⟩
 refine da1 (i:=3) (by kernel_rfl) ?_
 refine di (i:=3) rfl<|c1 o rfl call27 (Z65_c (hp_le _) (Enc.mono (St.up u) (show Enc.rep (α:=api_Prog) H34 [.slice oa37 r29.Lines.length cap38,.slice oa41 r29.Vols.length cap42,.slice oa45 r29.Locks.length cap46,.slice oa49 r29.Threads.length cap50,.slice oa53 r29.Recover.length cap54,.slice oa57 r29.Claims.length cap58] r29 from ⟨_,_,rfl,⟨_,_,rfl,hc39,hr40⟩,⟨_,_,rfl,⟨_,_,rfl,hc43,hr44⟩,⟨_,_,rfl,⟨_,_,rfl,hc47,hr48⟩,⟨_,_,rfl,⟨_,_,rfl,hc51,hr52⟩,⟨_,_,rfl,⟨_,_,rfl,hc55,hr56⟩,⟨_,_,rfl,hc59,hr60⟩⟩⟩⟩⟩⟩)) h74) ⟨rfl,trivial⟩ (fun v w a hR o=>?_)
 obtain ⟨oa75,cap76,vs77,rfl,hv78,hk⟩:=hR
 replace u:=u.fresh hk
 replace hv78:=hv78 H34
 refine ⟨fun _=>(St.ldsX u i2 ta2),?_⟩
 refine ds 4 (St.ldsX u i2 ta2) o rfl (e_asg o rfl) fun a o=>ds 5 (St.ldsX u i2 ta2) o rfl (e_asg o rfl) fun a o=>de (by kernel_rfl)<|tn<|th<|th<|rg<|qa o rfl fun a o=>re<|tn<|midK (fun a w=>(Z13 N r29 r66 r73)=some r∧Fr 137 [(1,.pointer (some ⟨b28,0,none⟩)),(5,.slice oa68 r66.length cap69),(6,.slice oa75 r73.length cap76)] a∧St w0 Nil [H34] [blk b28 (.cells [.slice oa37 r29.Lines.length cap38,.slice oa41 r29.Vols.length cap42,.slice oa45 r29.Locks.length cap46,.slice oa49 r29.Threads.length cap50,.slice oa53 r29.Recover.length cap54,.slice oa57 r29.Claims.length cap58].toArray 27 (0,0)),sla 9 1 oa68 r66.length cap69 vs70,sla 9 1 oa75 r73.length cap76 vs77] w) ?_ ?_
 replace u:=u.pk [2,1,0] rfl
 refine wb<|lp (α:=Nat×Int) (fun gh a w=>match gh with | (nn2,vB1)=>(Z1d N (Z13 N r29 r66 r73) r29 r66 r73) nn2 vB1=some r∧Fr 137 [(1,.pointer (some ⟨b28,0,none⟩)),(5,.slice oa68 r66.length cap69),(6,.slice oa75 r73.length cap76),(7,i6 vB1)] a∧St w0 Nil [H34] [blk b28 (.cells [.slice oa37 r29.Lines.length cap38,.slice oa41 r29.Vols.length cap42,.slice oa45 r29.Locks.length cap46,.slice oa49 r29.Threads.length cap50,.slice oa53 r29.Recover.length cap54,.slice oa57 r29.Claims.length cap58].toArray 27 (0,0)),sla 9 1 oa68 r66.length cap69 vs70,sla 9 1 oa75 r73.length cap76 vs77] w) (fun gh=>gh.1) (N,0) ⟨hm,o.hs,u⟩ ?_
 rintro ⟨nn2,vB1⟩ a w ⟨hm,o,u⟩
 obtain _ | nn2:=nn2
 simp [Z1d] at hm
 rw [Z1d] at hm
 refine th<|th<|rg<|qm o rfl fun a o=>qm o rfl fun a o=>qv o (e_lenL (α:=Str) (xs:=r66) o runUnderlying36 rfl) fun a o=>qv o (e_lss o rfl rfl) fun a o=>re<|?_
 rcases bdich (decide (vB1 < (r66.length:Int))) with hb80 | hb80
 replace hm:=itp_t hm hb80
 refine tn<|ctv o rfl hb80<|wk<|tn<|th<|wb<|th<|midK (fun a w=>∃ (vC1:Bool),(Z18 (Z1d N (Z13 N r29 r66 r73) r29 r66 r73 nn2) vB1) vC1=some r∧Fr 137 [(1,.pointer (some ⟨b28,0,none⟩)),(5,.slice oa68 r66.length cap69),(6,.slice oa75 r73.length cap76),(7,i6 vB1),(54,.bool vC1)] a∧St w0 Nil [H34] [blk b28 (.cells [.slice oa37 r29.Lines.length cap38,.slice oa41 r29.Vols.length cap42,.slice oa45 r29.Locks.length cap46,.slice oa49 r29.Threads.length cap50,.slice oa53 r29.Recover.length cap54,.slice oa57 r29.Claims.length cap58].toArray 27 (0,0)),sla 9 1 oa68 r66.length cap69 vs70,sla 9 1 oa75 r73.length cap76 vs77] w) ?_ ?_
 obtain ⟨x81,h82,hm⟩:=bs hm
 have ho83:=Rd.oaI (u.rdO t1) hv71 (by decide) h82
 obtain ⟨c84,g85,hl86⟩:=Rows.getI hv71 h82
 obtain rfl:c84=[strv x81]:=g85
 obtain ⟨r87,h88,hm⟩:=bs hm
 rcases bdich (decide (r87≠vB1)) with hb89 | hb89
 replace hm:=itp_t hm hb89
 refine rg<|qm o rfl fun a o=>?_
 iterate 2 refine qm o rfl fun a o=>?_
 refine qv o (e_iaI o runUnderlying36 sizeOf9 rfl rfl h82 ho83) fun a o=>qv o (e_ld o isAgg9 rfl ((St.ld u).elO t1 (hl86 0 _ rfl))) fun a o=>ls<|cq o call32 (Z68_c (hp_le _) (St.capO u t1) (St.srO u t1 hv71) h88) ⟨rfl,rfl,trivial⟩ u fun w a u o=>qm o rfl fun a o=>qv o (e_neq o rfl rfl) fun a o=>qv o (e_as (e_move o rfl) (congrArg Value.bool hb89)) fun a o=>?_
 iterate 7 refine qn o fun a o=>?_
 refine qv o (e_pickT o rfl rfl) fun a o=>qm o rfl fun a o=>?_
 iterate 4 refine qn o fun a o=>?_
 refine qv o (e_pickT o rfl rfl) fun a o=>re<|tn<|?_
 exact ⟨true,hm,o.hs,u⟩
 replace hm:=itp_f hm hb89
 have ho90:=Rd.oaI (u.rdO t1) hv71 (by decide) h82
 obtain ⟨r91,h92,hm⟩:=bs hm
 rcases bdich (decide (r91≠(-1))) with hb93 | hb93
 replace hm:=itp_t hm hb93
 refine rg<|qm o rfl fun a o=>?_
 iterate 2 refine qm o rfl fun a o=>?_
 refine qv o (e_iaI o runUnderlying36 sizeOf9 rfl rfl h82 ho83) fun a o=>qv o (e_ld o isAgg9 rfl ((St.ld u).elO t1 (hl86 0 _ rfl))) fun a o=>ls<|cq o call32 (Z68_c (hp_le _) (St.capO u t1) (St.srO u t1 hv71) h88) ⟨rfl,rfl,trivial⟩ u fun w a u o=>qm o rfl fun a o=>qv o (e_neq o rfl rfl) fun a o=>qv o (e_as (e_move o rfl) (congrArg Value.bool hb89)) fun a o=>?_
 iterate 3 refine qg o (e_move o rfl) fun a o=>?_
 refine qg o (e_iaI o runUnderlying36 sizeOf9 rfl rfl h82 ho90) fun a o=>qg o (e_ld o isAgg9 rfl ((St.ld u).elO t1 (hl86 0 _ rfl))) fun a o=>ls<|gy o rfl rfl<|cq o call32 (Z68_c (hp_le _) (St.capO u t2) (St.srO u t2 hv78) h92) ⟨rfl,rfl,trivial⟩ u fun w a u o=>qg o (e_neq o rfl rfl) fun a o=>qv o (e_pickF o rfl rfl) fun a o=>qv o (e_as (e_move o rfl) (congrArg Value.bool hb93)) fun a o=>?_
 iterate 4 refine qn o fun a o=>?_
 refine qv o (e_pickT o rfl rfl) fun a o=>re<|tn<|?_
 exact ⟨true,hm,o.hs,u⟩
 replace hm:=itp_f hm hb93
 obtain ⟨r94,h95,hm⟩:=bs hm
 refine rg<|qm o rfl fun a o=>?_
 iterate 2 refine qm o rfl fun a o=>?_
 refine qv o (e_iaI o runUnderlying36 sizeOf9 rfl rfl h82 ho83) fun a o=>qv o (e_ld o isAgg9 rfl ((St.ld u).elO t1 (hl86 0 _ rfl))) fun a o=>ls<|cq o call32 (Z68_c (hp_le _) (St.capO u t1) (St.srO u t1 hv71) h88) ⟨rfl,rfl,trivial⟩ u fun w a u o=>qm o rfl fun a o=>qv o (e_neq o rfl rfl) fun a o=>qv o (e_as (e_move o rfl) (congrArg Value.bool hb89)) fun a o=>?_
 iterate 3 refine qg o (e_move o rfl) fun a o=>?_
 refine qg o (e_iaI o runUnderlying36 sizeOf9 rfl rfl h82 ho90) fun a o=>qg o (e_ld o isAgg9 rfl ((St.ld u).elO t1 (hl86 0 _ rfl))) fun a o=>ls<|gy o rfl rfl<|cq o call32 (Z68_c (hp_le _) (St.capO u t2) (St.srO u t2 hv78) h92) ⟨rfl,rfl,trivial⟩ u fun w a u o=>qg o (e_neq o rfl rfl) fun a o=>qv o (e_pickF o rfl rfl) fun a o=>qv o (e_as (e_move o rfl) (congrArg Value.bool hb93)) fun a o=>qg o (e_ldA o isAgg27 sizeOf27 rfl rfl ((St.ld u).cellsB t0)) fun a o=>qg o (e_move o rfl) fun a o=>ls<|gy o rfl rfl<|cq o call25 (Z63_c (hp_le _) (Enc.mono (St.up u) (show Enc.rep (α:=api_Prog) H34 [.slice oa37 r29.Lines.length cap38,.slice oa41 r29.Vols.length cap42,.slice oa45 r29.Locks.length cap46,.slice oa49 r29.Threads.length cap50,.slice oa53 r29.Recover.length cap54,.slice oa57 r29.Claims.length cap58] r29 from ⟨_,_,rfl,⟨_,_,rfl,hc39,hr40⟩,⟨_,_,rfl,⟨_,_,rfl,hc43,hr44⟩,⟨_,_,rfl,⟨_,_,rfl,hc47,hr48⟩,⟨_,_,rfl,⟨_,_,rfl,hc51,hr52⟩,⟨_,_,rfl,⟨_,_,rfl,hc55,hr56⟩,⟨_,_,rfl,hc59,hr60⟩⟩⟩⟩⟩⟩)) h95) ⟨rfl,rfl,trivial⟩ u fun w a u o=>qg o (e_lss o rfl rfl) fun a o=>qv o (e_pickF o rfl rfl) fun a o=>re<|tn<|?_
 exact ⟨(decide (r94 < 0)),hm,o.hs,u⟩
 rintro a w ⟨vC1,hm,o,u⟩
 unfold Z18 at hm
 obtain ⟨_,hb96,hm⟩:=bs hm
 replace hb96:=bnt (sure_some hb96)
 refine cfv o rfl hb96<|wk<|bn<|tn<|rg<|qm o rfl fun a o=>qv o (e_add o rfl rfl) fun a o=>qa o rfl fun a o=>re<|tn<|?_
 exact ⟨(nn2,(IntKind.i64.wrap (vB1+1))),⟨hm,o.hs,u⟩,Nat.lt_succ_self _⟩
 replace hm:=itp_f hm hb80
 refine tn<|cfv o rfl hb80<|we<|tx<|tx<|bx<|tn<|?_
 exact ⟨hm,o.hs,u⟩
 rintro a w ⟨hm,o,u⟩
 unfold Z13 at hm
 refine th<|th<|rg<|qa o rfl fun a o=>re<|tn<|midK (fun a w=>(Z19 N r29 r66)=some r∧Fr 137 [(1,.pointer (some ⟨b28,0,none⟩)),(5,.slice oa68 r66.length cap69)] a∧St w0 Nil [H34] [blk b28 (.cells [.slice oa37 r29.Lines.length cap38,.slice oa41 r29.Vols.length cap42,.slice oa45 r29.Locks.length cap46,.slice oa49 r29.Threads.length cap50,.slice oa53 r29.Recover.length cap54,.slice oa57 r29.Claims.length cap58].toArray 27 (0,0)),sla 9 1 oa68 r66.length cap69 vs70] w) ?_ ?_
 refine wb<|lp (α:=Nat×Int) (fun gh a w=>match gh with | (nn5,vB2)=>(Z1e N (Z19 N r29 r66) r29 r66 r73) nn5 vB2=some r∧Fr 137 [(1,.pointer (some ⟨b28,0,none⟩)),(5,.slice oa68 r66.length cap69),(6,.slice oa75 r73.length cap76),(8,i6 vB2)] a∧St w0 Nil [H34] [blk b28 (.cells [.slice oa37 r29.Lines.length cap38,.slice oa41 r29.Vols.length cap42,.slice oa45 r29.Locks.length cap46,.slice oa49 r29.Threads.length cap50,.slice oa53 r29.Recover.length cap54,.slice oa57 r29.Claims.length cap58].toArray 27 (0,0)),sla 9 1 oa68 r66.length cap69 vs70,sla 9 1 oa75 r73.length cap76 vs77] w) (fun gh=>gh.1) (N,0) ⟨hm,o.hs,u⟩ ?_
 rintro ⟨nn5,vB2⟩ a w ⟨hm,o,u⟩
 obtain _ | nn5:=nn5
 simp [Z1e] at hm
 rw [Z1e] at hm
 refine th<|th<|rg<|qm o rfl fun a o=>qv o (e_fa o fa27_3 rfl) fun a o=>qv o (e_ld o isAgg24 rfl ((St.ld u).cellB t0 rfl)) fun a o=>qv o (e_lenL (α:=api_Thread) (xs:=r29.Threads) o runUnderlying24 rfl) fun a o=>qv o (e_lss o rfl rfl) fun a o=>re<|?_
 rcases bdich (decide (vB2 < (r29.Threads.length:Int))) with hb97 | hb97
 replace hm:=itp_t hm hb97
 refine tn<|ctv o rfl hb97<|wk<|tn<|th<|midK (fun a w=>(Z1a (Z1e N (Z19 N r29 r66) r29 r66 r73 nn5) vB2)=some r∧Fr 137 [(1,.pointer (some ⟨b28,0,none⟩)),(5,.slice oa68 r66.length cap69),(6,.slice oa75 r73.length cap76),(8,i6 vB2)] a∧St w0 Nil [H34] [blk b28 (.cells [.slice oa37 r29.Lines.length cap38,.slice oa41 r29.Vols.length cap42,.slice oa45 r29.Locks.length cap46,.slice oa49 r29.Threads.length cap50,.slice oa53 r29.Recover.length cap54,.slice oa57 r29.Claims.length cap58].toArray 27 (0,0)),sla 9 1 oa68 r66.length cap69 vs70,sla 9 1 oa75 r73.length cap76 vs77] w) ?_ ?_
 refine wb<|th<|rg<|qa o rfl fun a o=>re<|tn<|wb<|lp (α:=Nat×Int) (fun gh a w=>match gh with | (nn7,vD1)=>(Z1f N (Z1a (Z1e N (Z19 N r29 r66) r29 r66 r73 nn5) vB2) r29 r66 r73 vB2) nn7 vD1=some r∧Fr 137 [(1,.pointer (some ⟨b28,0,none⟩)),(5,.slice oa68 r66.length cap69),(6,.slice oa75 r73.length cap76),(8,i6 vB2),(9,i6 vD1)] a∧St w0 Nil [H34] [blk b28 (.cells [.slice oa37 r29.Lines.length cap38,.slice oa41 r29.Vols.length cap42,.slice oa45 r29.Locks.length cap46,.slice oa49 r29.Threads.length cap50,.slice oa53 r29.Recover.length cap54,.slice oa57 r29.Claims.length cap58].toArray 27 (0,0)),sla 9 1 oa68 r66.length cap69 vs70,sla 9 1 oa75 r73.length cap76 vs77] w) (fun gh=>gh.1) (N,0) ⟨hm,o.hs,u⟩ ?_
 rintro ⟨nn7,vD1⟩ a w ⟨hm,o,u⟩
 obtain _ | nn7:=nn7
 simp [Z1f] at hm
 rw [Z1f] at hm
 refine th<|th<|?_
 obtain ⟨x98,h99,hm⟩:=bs hm
 obtain ⟨c100,g101,hl102⟩:=SR.get hr52 h99
 obtain ⟨oa103,cap104,oa107,cap108,rfl,hc105,hr106,hc109,hr110⟩:=api_Thread_open g101
 refine rg<|qm o rfl fun a o=>qv o (e_fa o fa27_3 rfl) fun a o=>qv o (e_ld o isAgg24 rfl ((St.ld u).cellB t0 rfl)) fun a o=>qm o rfl fun a o=>qv o (e_iaI o runUnderlying24 sizeOf48 rfl rfl h99 (SR.oaI hr52 (by decide) h99)) fun a o=>qv o (e_fa o fa48_2 rfl) fun a o=>qv o (e_ld o isAgg46 rfl (PH.le.cell (Lds.le (St.ld u)) (hl102 2 _ rfl))) fun a o=>qv o (e_lenL (α:=api_Stmt) (xs:=x98.Body) o runUnderlying46 rfl) fun a o=>qv o (e_lss o rfl rfl) fun a o=>re<|?_
 rcases bdich (decide (vD1 < (x98.Body.length:Int))) with hb111 | hb111
 replace hm:=itp_t hm hb111
 refine tn<|ctv o rfl hb111<|wk<|tn<|th<|wb<|th<|?_
 obtain ⟨x112,h113,hm⟩:=bs hm
 obtain ⟨c114,g115,hl116⟩:=SR.get hr110 h113
 obtain ⟨oa117,cap118,oa121,cap122,rfl,hc119,hr120,hc123,hr124⟩:=api_Stmt_open g115
 refine rg<|qv o (e_fa o fa27_3 rfl) fun a o=>qv o (e_ld o isAgg24 rfl ((St.ld u).cellB t0 rfl)) fun a o=>qm o rfl fun a o=>qv o (e_iaI o runUnderlying24 sizeOf48 rfl rfl h99 (SR.oaI hr52 (by decide) h99)) fun a o=>qv o (e_fa o fa48_2 rfl) fun a o=>qv o (e_ld o isAgg46 rfl (PH.le.cell (Lds.le (St.ld u)) (hl102 2 _ rfl))) fun a o=>qm o rfl fun a o=>qv o (e_iaI o runUnderlying46 sizeOf51 rfl rfl h113 (SR.oaI hr110 (by decide) h113)) fun a o=>qv o (e_ldA o isAgg51 sizeOf51 rfl rfl (fun j v hj=>PH.le.cell (Lds.le (St.ld u)) (hl116 j v hj))) fun a o=>ls<|a_alloc (cs:=[i6 0,strv [],strv [],.slice none 0 0,.slice none 0 0,i6 0,i6 0,i6 0,i6 0].toArray) o rfl u zeroValue51 rfl fun b125 w a u o=>ls<|s_blkA o u sizeOf51 rfl rfl rfl rfl (one_cells rfl) .head fun w u=>re<|tn<|th<|?_
 obtain ⟨r126,h127,hm⟩:=bs hm
 refine rg<|qm o rfl fun a o=>qv o (e_fa o fa51_2 rfl) fun a o=>qv o (e_ld o isAgg9 rfl ((St.ld u).cellB t0 rfl)) fun a o=>ls<|cq o call32 (Z68_c (hp_le _) (St.capO u t2) (St.srO u t2 hv71) h127) ⟨rfl,rfl,trivial⟩ u fun w a u o=>qa o rfl fun a o=>re<|tn<|th<|th<|rg<|qv o (e_fa o fa51_0 rfl) fun a o=>qv o (e_ld o isAgg3 rfl ((St.ld u).cellB t0 rfl)) fun a o=>re<|tn<|midK (fun a w=>(Z1b N (Z1f N (Z1a (Z1e N (Z19 N r29 r66) r29 r66 r73 nn5) vB2) r29 r66 r73 vB2 nn7) vD1 x98 x112)=some r∧Fr 137 [(1,.pointer (some ⟨b28,0,none⟩)),(5,.slice oa68 r66.length cap69),(6,.slice oa75 r73.length cap76),(8,i6 vB2),(9,i6 vD1),(10,.pointer (some ⟨b125,0,none⟩))] a∧St w0 Nil [H34] [blk b28 (.cells [.slice oa37 r29.Lines.length cap38,.slice oa41 r29.Vols.length cap42,.slice oa45 r29.Locks.length cap46,.slice oa49 r29.Threads.length cap50,.slice oa53 r29.Recover.length cap54,.slice oa57 r29.Claims.length cap58].toArray 27 (0,0)),sla 9 1 oa68 r66.length cap69 vs70,sla 9 1 oa75 r73.length cap76 vs77,blk b125 (.cells [i6 x112.Kind,strv x112.Reg,strv x112.Name,.slice oa117 x112.E.length cap118,.slice oa121 x112.F.length cap122,i6 x112.N,i6 x112.Body,i6 x112.Else,i6 x112.At].toArray 51 (0,0))] w) ?_ ?_
 refine wb<|th<|th<|rg<|qv o (e_eql o rfl rfl) fun a o=>qa o rfl fun a o=>re<|tn<|midK (fun a w=>∃ (vF1:Bool),(Z1c N (Z1b N (Z1f N (Z1a (Z1e N (Z19 N r29 r66) r29 r66 r73 nn5) vB2) r29 r66 r73 vB2 nn7) vD1 x98 x112) r29 r73 x112 r126) vF1=some r∧Fr 137 [(1,.pointer (some ⟨b28,0,none⟩)),(5,.slice oa68 r66.length cap69),(6,.slice oa75 r73.length cap76),(8,i6 vB2),(9,i6 vD1),(10,.pointer (some ⟨b125,0,none⟩)),(11,i6 r126),(87,i6 x112.Kind),(88,.bool vF1)] a∧St w0 Nil [H34] [blk b28 (.cells [.slice oa37 r29.Lines.length cap38,.slice oa41 r29.Vols.length cap42,.slice oa45 r29.Locks.length cap46,.slice oa49 r29.Threads.length cap50,.slice oa53 r29.Recover.length cap54,.slice oa57 r29.Claims.length cap58].toArray 27 (0,0)),sla 9 1 oa68 r66.length cap69 vs70,sla 9 1 oa75 r73.length cap76 vs77,blk b125 (.cells [i6 x112.Kind,strv x112.Reg,strv x112.Name,.slice oa117 x112.E.length cap118,.slice oa121 x112.F.length cap122,i6 x112.N,i6 x112.Body,i6 x112.Else,i6 x112.At].toArray 51 (0,0))] w) ?_ ?_
 rcases bdich (decide (x112.Kind=2)) with hb128 | hb128
 replace hm:=itp_t hm hb128
 refine ctv o rfl hb128<|wk<|tn<|?_
 replace u:=u.pk [1,1,1,0] rfl
 exact ⟨(decide (x112.Kind=2)),hm,o.hs,u⟩
 replace hm:=itp_f hm hb128
 refine cfv o rfl hb128<|th<|rg<|qv o (e_eql o rfl rfl) fun a o=>qa o rfl fun a o=>re<|?_
 rcases bdich (decide (x112.Kind=3)) with hb129 | hb129
 replace hm:=itp_t hm hb129
 refine tn<|ctv o rfl hb129<|wk<|tn<|?_
 replace u:=u.pk [1,1,1,0] rfl
 exact ⟨(decide (x112.Kind=3)),hm,o.hs,u⟩
 replace hm:=itp_f hm hb129
 refine tn<|cfv o rfl hb129<|rg<|qv o (e_eql o rfl rfl) fun a o=>qa o rfl fun a o=>re<|tn<|?_
 replace u:=u.pk [1,1,1,0] rfl
 exact ⟨(decide (x112.Kind=4)),hm,o.hs,u⟩
 rintro a w ⟨vF1,hm,o,u⟩
 unfold Z1c at hm
 rcases bdich vF1 with hb130 | hb130
 replace hm:=ite_t hm hb130
 refine ctv o rfl hb130<|th<|rg<|qm o rfl fun a o=>qv o (e_lss o rfl rfl) fun a o=>re<|?_
 obtain ⟨_,hb131,hm⟩:=bs hm
 replace hb131:=bnt (sure_some hb131)
 refine tn<|cfv o rfl hb131<|wk<|bn<|tn<|?_
 exact ⟨hm,o.hs,u⟩
 replace hm:=ite_f hm hb130
 refine cfv o rfl hb130<|th<|th<|rg<|qv o (e_eql o rfl rfl) fun a o=>qa o rfl fun a o=>re<|tn<|midK (fun a w=>∃ (vF2:Bool),(Z14 N (Z1b N (Z1f N (Z1a (Z1e N (Z19 N r29 r66) r29 r66 r73 nn5) vB2) r29 r66 r73 vB2 nn7) vD1 x98 x112) r29 r73 x112 r126) vF2=some r∧Fr 137 [(1,.pointer (some ⟨b28,0,none⟩)),(5,.slice oa68 r66.length cap69),(6,.slice oa75 r73.length cap76),(8,i6 vB2),(9,i6 vD1),(10,.pointer (some ⟨b125,0,none⟩)),(11,i6 r126),(87,i6 x112.Kind),(94,.bool vF2)] a∧St w0 Nil [H34] [blk b28 (.cells [.slice oa37 r29.Lines.length cap38,.slice oa41 r29.Vols.length cap42,.slice oa45 r29.Locks.length cap46,.slice oa49 r29.Threads.length cap50,.slice oa53 r29.Recover.length cap54,.slice oa57 r29.Claims.length cap58].toArray 27 (0,0)),sla 9 1 oa68 r66.length cap69 vs70,sla 9 1 oa75 r73.length cap76 vs77,blk b125 (.cells [i6 x112.Kind,strv x112.Reg,strv x112.Name,.slice oa117 x112.E.length cap118,.slice oa121 x112.F.length cap122,i6 x112.N,i6 x112.Body,i6 x112.Else,i6 x112.At].toArray 51 (0,0))] w) ?_ ?_
 rcases bdich (decide (x112.Kind=5)) with hb132 | hb132
 replace hm:=itp_t hm hb132
 refine ctv o rfl hb132<|wk<|tn<|?_
 exact ⟨(decide (x112.Kind=5)),hm,o.hs,u⟩
 replace hm:=itp_f hm hb132
 refine cfv o rfl hb132<|rg<|qv o (e_eql o rfl rfl) fun a o=>qa o rfl fun a o=>re<|tn<|?_
 exact ⟨(decide (x112.Kind=6)),hm,o.hs,u⟩
 rintro a w ⟨vF2,hm,o,u⟩
 unfold Z14 at hm
 rcases bdich vF2 with hb133 | hb133
 replace hm:=ite_t hm hb133
 refine ctv o rfl hb133<|th<|midK (fun a w=>∃ (vF3:Bool),(Z15 (Z1b N (Z1f N (Z1a (Z1e N (Z19 N r29 r66) r29 r66 r73 nn5) vB2) r29 r66 r73 vB2 nn7) vD1 x98 x112)) vF3=some r∧Fr 137 [(1,.pointer (some ⟨b28,0,none⟩)),(5,.slice oa68 r66.length cap69),(6,.slice oa75 r73.length cap76),(8,i6 vB2),(9,i6 vD1),(10,.pointer (some ⟨b125,0,none⟩)),(104,.bool vF3)] a∧St w0 Nil [H34] [blk b28 (.cells [.slice oa37 r29.Lines.length cap38,.slice oa41 r29.Vols.length cap42,.slice oa45 r29.Locks.length cap46,.slice oa49 r29.Threads.length cap50,.slice oa53 r29.Recover.length cap54,.slice oa57 r29.Claims.length cap58].toArray 27 (0,0)),sla 9 1 oa68 r66.length cap69 vs70,sla 9 1 oa75 r73.length cap76 vs77,blk b125 (.cells [i6 x112.Kind,strv x112.Reg,strv x112.Name,.slice oa117 x112.E.length cap118,.slice oa121 x112.F.length cap122,i6 x112.N,i6 x112.Body,i6 x112.Else,i6 x112.At].toArray 51 (0,0))] w) ?_ ?_
 rcases bdich (decide (r126 < 0)) with hb134 | hb134
 replace hm:=itp_t hm hb134
 refine rg<|qm o rfl fun a o=>qv o (e_lss o rfl rfl) fun a o=>qv o (e_as (e_move o rfl) (congrArg Value.bool hb134)) fun a o=>?_
 iterate 4 refine qn o fun a o=>?_
 refine qv o (e_pickT o rfl rfl) fun a o=>re<|tn<|?_
 exact ⟨true,hm,o.hs,u⟩
 replace hm:=itp_f hm hb134
 obtain ⟨r135,h136,hm⟩:=bs hm
 refine rg<|qm o rfl fun a o=>qv o (e_lss o rfl rfl) fun a o=>qv o (e_as (e_move o rfl) (congrArg Value.bool hb134)) fun a o=>qg o (e_move o rfl) fun a o=>qg o (e_ldA o isAgg27 sizeOf27 rfl rfl ((St.ld u).cellsB t0)) fun a o=>ls<|gy o rfl rfl<|cq o call23 (Z69_c (hp_le _) (Enc.mono (St.up u) (show Enc.rep (α:=api_Prog) H34 [.slice oa37 r29.Lines.length cap38,.slice oa41 r29.Vols.length cap42,.slice oa45 r29.Locks.length cap46,.slice oa49 r29.Threads.length cap50,.slice oa53 r29.Recover.length cap54,.slice oa57 r29.Claims.length cap58] r29 from ⟨_,_,rfl,⟨_,_,rfl,hc39,hr40⟩,⟨_,_,rfl,⟨_,_,rfl,hc43,hr44⟩,⟨_,_,rfl,⟨_,_,rfl,hc47,hr48⟩,⟨_,_,rfl,⟨_,_,rfl,hc51,hr52⟩,⟨_,_,rfl,⟨_,_,rfl,hc55,hr56⟩,⟨_,_,rfl,hc59,hr60⟩⟩⟩⟩⟩⟩)) h136) ⟨rfl,trivial⟩ u fun w a u o=>qg o (e_geq o rfl rfl) fun a o=>qv o (e_pickF o rfl rfl) fun a o=>re<|tn<|?_
 exact ⟨(decide (r135≤r126)),hm,o.hs,u⟩
 rintro a w ⟨vF3,hm,o,u⟩
 unfold Z15 at hm
 obtain ⟨_,hb137,hm⟩:=bs hm
 replace hb137:=bnt (sure_some hb137)
 refine cfv o rfl hb137<|wk<|bn<|tn<|?_
 exact ⟨hm,o.hs,u⟩
 replace hm:=ite_f hm hb133
 refine cfv o rfl hb133<|th<|th<|rg<|qv o (e_eql o rfl rfl) fun a o=>qa o rfl fun a o=>re<|tn<|midK (fun a w=>∃ (vF4:Bool),(Z16 N (Z1b N (Z1f N (Z1a (Z1e N (Z19 N r29 r66) r29 r66 r73 nn5) vB2) r29 r66 r73 vB2 nn7) vD1 x98 x112) r73 x112) vF4=some r∧Fr 137 [(1,.pointer (some ⟨b28,0,none⟩)),(5,.slice oa68 r66.length cap69),(6,.slice oa75 r73.length cap76),(8,i6 vB2),(9,i6 vD1),(10,.pointer (some ⟨b125,0,none⟩)),(105,.bool vF4)] a∧St w0 Nil [H34] [blk b28 (.cells [.slice oa37 r29.Lines.length cap38,.slice oa41 r29.Vols.length cap42,.slice oa45 r29.Locks.length cap46,.slice oa49 r29.Threads.length cap50,.slice oa53 r29.Recover.length cap54,.slice oa57 r29.Claims.length cap58].toArray 27 (0,0)),sla 9 1 oa68 r66.length cap69 vs70,sla 9 1 oa75 r73.length cap76 vs77,blk b125 (.cells [i6 x112.Kind,strv x112.Reg,strv x112.Name,.slice oa117 x112.E.length cap118,.slice oa121 x112.F.length cap122,i6 x112.N,i6 x112.Body,i6 x112.Else,i6 x112.At].toArray 51 (0,0))] w) ?_ ?_
 rcases bdich (decide (x112.Kind=9)) with hb138 | hb138
 replace hm:=itp_t hm hb138
 refine ctv o rfl hb138<|wk<|tn<|?_
 exact ⟨(decide (x112.Kind=9)),hm,o.hs,u⟩
 replace hm:=itp_f hm hb138
 refine cfv o rfl hb138<|rg<|qv o (e_eql o rfl rfl) fun a o=>qa o rfl fun a o=>re<|tn<|?_
 exact ⟨(decide (x112.Kind=10)),hm,o.hs,u⟩
 rintro a w ⟨vF4,hm,o,u⟩
 unfold Z16 at hm
 rcases bdich vF4 with hb139 | hb139
 replace hm:=ite_t hm hb139
 refine ctv o rfl hb139<|th<|?_
 obtain ⟨r140,h141,hm⟩:=bs hm
 refine rg<|qm o rfl fun a o=>qv o (e_fa o fa51_2 rfl) fun a o=>qv o (e_ld o isAgg9 rfl ((St.ld u).cellB t3 rfl)) fun a o=>ls<|cq o call32 (Z68_c (hp_le _) (St.capO u t2) (St.srO u t2 hv78) h141) ⟨rfl,rfl,trivial⟩ u fun w a u o=>qv o (e_lss o rfl rfl) fun a o=>re<|?_
 obtain ⟨_,hb142,hm⟩:=bs hm
 replace hb142:=bnt (sure_some hb142)
 refine tn<|cfv o rfl hb142<|wk<|bn<|tn<|?_
 exact ⟨hm,o.hs,u⟩
 replace hm:=ite_f hm hb139
 refine cfv o rfl hb139<|wk<|bn<|tn<|?_
 exact ⟨hm,o.hs,u⟩
 rintro a w ⟨hm,o,u⟩
 unfold Z1b at hm
 refine th<|midK (fun a w=>∃ (vE1:Bool),(Z17 (Z1f N (Z1a (Z1e N (Z19 N r29 r66) r29 r66 r73 nn5) vB2) r29 r66 r73 vB2 nn7) vD1) vE1=some r∧Fr 137 [(1,.pointer (some ⟨b28,0,none⟩)),(5,.slice oa68 r66.length cap69),(6,.slice oa75 r73.length cap76),(8,i6 vB2),(9,i6 vD1),(127,.bool vE1)] a∧St w0 Nil [H34] [blk b28 (.cells [.slice oa37 r29.Lines.length cap38,.slice oa41 r29.Vols.length cap42,.slice oa45 r29.Locks.length cap46,.slice oa49 r29.Threads.length cap50,.slice oa53 r29.Recover.length cap54,.slice oa57 r29.Claims.length cap58].toArray 27 (0,0)),sla 9 1 oa68 r66.length cap69 vs70,sla 9 1 oa75 r73.length cap76 vs77] w) ?_ ?_
 rcases bdich (decide (x112.Reg≠[])) with hb143 | hb143
 replace hm:=itp_t hm hb143
 obtain ⟨r144,h145,hm⟩:=bs hm
 refine rdS 15 u wide fun w u=>dr 0 u o rfl (e_fa o fa51_1 rfl) fun a o=>dq 1 (St.ld u) o rfl (fun w hl=>e_ld o isAgg9 rfl (hl.cellB t3 rfl)) fun a o=>dr 2 u o rfl (e_neqU (m:=x112.Reg) (n:=[]) o rfl rfl) fun a o=>dr 3 u o rfl (e_as (e_move o rfl) (congrArg Value.bool hb143)) fun a o=>dg 4 (St.ld u) o rfl (fun w hl=>e_fa o fa27_3 rfl) fun a o=>dg 5 (St.ld u) o rfl (fun w hl=>e_ld o isAgg24 rfl (hl.cellB t0 rfl)) fun a o=>dg 6 (St.ld u) o rfl (fun w hl=>e_move o rfl) fun a o=>dg 7 (St.ld u) o rfl (fun w hl=>e_iaI o runUnderlying24 sizeOf48 rfl rfl h99 (SR.oaI hr52 (by decide) h99)) fun a o=>dg 8 (St.ld u) o rfl (fun w hl=>e_fa o fa48_1 rfl) fun a o=>dg 9 (St.ld u) o rfl (fun w hl=>e_ld o isAgg36 rfl (PH.le.cell (Lds.le hl) (hl102 1 _ rfl))) fun a o=>dg 10 (St.ld u) o rfl (fun w hl=>e_fa o fa51_1 rfl) fun a o=>dg 11 (St.ld u) o rfl (fun w hl=>e_ld o isAgg9 rfl (hl.cellB t3 rfl)) fun a o=>da1 (i:=12) (by kernel_rfl) ?_
 refine di (i:=12) rfl<|gy o rfl rfl<|cq o call32 (Z68_c (hp_le _) hc105 (St.srH u hr106) h145) ⟨rfl,rfl,trivial⟩ u fun w a u o=>⟨fun _=>(St.ld u),?_⟩
 refine dg 13 (St.ld u) o rfl (fun w hl=>e_lss o rfl rfl) fun a o=>dr 14 u o rfl (e_pickT o rfl rfl) fun a o=>de (by kernel_rfl)<|tn<|?_
 replace u:=u.pk [0,0,0] rfl
 exact ⟨(decide (r144 < 0)),hm,o.hs,u⟩
 replace hm:=itp_f hm hb143
 refine rxS 15 u wide (by kernel_rfl) fun w u=>xr u o (e_fa o fa51_1 rfl) fun a o=>xq (St.ld u) o (fun w hl=>e_ld o isAgg9 rfl (hl.cellB t3 rfl)) fun a o=>xr u o (e_neqU (m:=x112.Reg) (n:=[]) o rfl rfl) fun a o=>xr u o (e_as (e_move o rfl) (congrArg Value.bool hb143)) fun a o=>?_
 iterate 10 refine xn (St.ld u) o fun a o=>?_
 refine xr u o (e_pickF o rfl rfl) fun a o=>xe<|tn<|?_
 replace u:=u.pk [0,0,0] rfl
 exact ⟨false,hm,o.hs,u⟩
 rintro a w ⟨vE1,hm,o,u⟩
 unfold Z17 at hm
 obtain ⟨_,hb146,hm⟩:=bs hm
 replace hb146:=bnt (sure_some hb146)
 refine cfv o rfl hb146<|wk<|bn<|tn<|rg<|qm o rfl fun a o=>qv o (e_add o rfl rfl) fun a o=>qa o rfl fun a o=>re<|tn<|?_
 exact ⟨(nn7,(IntKind.i64.wrap (vD1+1))),⟨hm,o.hs,u⟩,Nat.lt_succ_self _⟩
 replace hm:=itp_f hm hb111
 refine tn<|cfv o rfl hb111<|we<|tx<|tx<|bx<|bn<|tn<|?_
 exact ⟨hm,o.hs,u⟩
 rintro a w ⟨hm,o,u⟩
 unfold Z1a at hm
 refine rg<|qm o rfl fun a o=>qv o (e_add o rfl rfl) fun a o=>qa o rfl fun a o=>re<|tn<|?_
 exact ⟨(nn5,(IntKind.i64.wrap (vB2+1))),⟨hm,o.hs,u⟩,Nat.lt_succ_self _⟩
 replace hm:=itp_f hm hb97
 refine tn<|cfv o rfl hb97<|we<|tx<|tx<|bx<|tn<|?_
 replace u:=u.pk [0,0] rfl
 exact ⟨hm,o.has ⟨rfl,rfl,trivial⟩,u⟩
 rintro a w ⟨hm,o,u⟩
 unfold Z19 at hm
 refine th<|?_
 obtain ⟨r147,h148,hm⟩:=bs hm
 rcases bdich (decide ((r66.length:Int)=(r147.length:Int))) with hb154 | hb154
 replace hm:=itp_t hm hb154
 obtain ⟨r155,h156,hm⟩:=bs hm
 refine rg<|qm o rfl fun a o=>qv o (e_lenL (α:=Str) (xs:=r66) o runUnderlying36 rfl) fun a o=>qv o (e_ldA o isAgg27 sizeOf27 rfl rfl ((St.ld u).cellsB t0)) fun a o=>ls<|c1 o rfl call30 (Z61_c (hp_le _) (Enc.mono (St.up u) (show Enc.rep (α:=api_Prog) H34 [.slice oa37 r29.Lines.length cap38,.slice oa41 r29.Vols.length cap42,.slice oa45 r29.Locks.length cap46,.slice oa49 r29.Threads.length cap50,.slice oa53 r29.Recover.length cap54,.slice oa57 r29.Claims.length cap58] r29 from ⟨_,_,rfl,⟨_,_,rfl,hc39,hr40⟩,⟨_,_,rfl,⟨_,_,rfl,hc43,hr44⟩,⟨_,_,rfl,⟨_,_,rfl,hc47,hr48⟩,⟨_,_,rfl,⟨_,_,rfl,hc51,hr52⟩,⟨_,_,rfl,⟨_,_,rfl,hc55,hr56⟩,⟨_,_,rfl,hc59,hr60⟩⟩⟩⟩⟩⟩)) h148) ⟨rfl,trivial⟩ (fun v w a hR o=>?_)
 obtain ⟨oa149,cap150,vs151,rfl,hv152,hk⟩:=hR
 replace u:=u.fresh hk
 replace hv152:=hv152 H34
 refine qv o (e_lenL (α:=Int) (xs:=r147) o runUnderlying42 rfl) fun a o=>qv o (e_eql o rfl rfl) fun a o=>qv o (e_as (e_move o rfl) (congrArg Value.bool hb154)) fun a o=>ls<|gy o rfl rfl<|c1 o rfl call18 (Z1g_c (hp_le _) (Tab.mono (Tab.mono hT hx31.sub) (St.up u)) h156) trivial (fun v w a hR o=>?_)
 obtain ⟨rfl,hk⟩:=hR
 replace u:=u.pass hk
 refine qv o (e_pickT o rfl rfl) fun a o=>qa o rfl fun a o=>re<|tn<|wr<|?_
 obtain rfl:=si hm
 exact r1 o results6 rfl ⟨rfl,u.keep⟩
 replace hm:=itp_f hm hb154
 refine rg<|qm o rfl fun a o=>qv o (e_lenL (α:=Str) (xs:=r66) o runUnderlying36 rfl) fun a o=>qv o (e_ldA o isAgg27 sizeOf27 rfl rfl ((St.ld u).cellsB t0)) fun a o=>ls<|c1 o rfl call30 (Z61_c (hp_le _) (Enc.mono (St.up u) (show Enc.rep (α:=api_Prog) H34 [.slice oa37 r29.Lines.length cap38,.slice oa41 r29.Vols.length cap42,.slice oa45 r29.Locks.length cap46,.slice oa49 r29.Threads.length cap50,.slice oa53 r29.Recover.length cap54,.slice oa57 r29.Claims.length cap58] r29 from ⟨_,_,rfl,⟨_,_,rfl,hc39,hr40⟩,⟨_,_,rfl,⟨_,_,rfl,hc43,hr44⟩,⟨_,_,rfl,⟨_,_,rfl,hc47,hr48⟩,⟨_,_,rfl,⟨_,_,rfl,hc51,hr52⟩,⟨_,_,rfl,⟨_,_,rfl,hc55,hr56⟩,⟨_,_,rfl,hc59,hr60⟩⟩⟩⟩⟩⟩)) h148) ⟨rfl,trivial⟩ (fun v w a hR o=>?_)
 obtain ⟨oa149,cap150,vs151,rfl,hv152,hk⟩:=hR
 replace u:=u.fresh hk
 replace hv152:=hv152 H34
 refine qv o (e_lenL (α:=Int) (xs:=r147) o runUnderlying42 rfl) fun a o=>qv o (e_eql o rfl rfl) fun a o=>qv o (e_as (e_move o rfl) (congrArg Value.bool hb154)) fun a o=>qn o fun a o=>qv o (e_pickF o rfl rfl) fun a o=>qa o rfl fun a o=>re<|tn<|wr<|?_
 obtain rfl:=si hm
 exact r1 o results6 rfl ⟨rfl,u.keep⟩
end Go.LM.LB
