/- Walks, lifted by program. No condition beyond the theorems' own premises. -/
import Derived.Test.YtgdkaddhhpgeiaaGreatDoorLBQ1
namespace Go.LM.LB
open Go Go.LL Go.MD Go.LM Go.Proofs Go.MD.LB Go.Proofs.Tryz
set_option maxRecDepth 100000
variable {N:Nat} {w0:World} {H:PH}
theorem Z94_c (hH:H.le w0) (hT:Tab H) {p1:Bool} {oa3:Option Addr} {cap4:Nat} {p2:(List api_Node)} (hc5:p2.length≤cap4) (hr6:SR H oa3 p2) {r:Bool} (hm:Z94 N p1 p2=some r):Tot Tryz.prog 149 #[.bool p1,.slice oa3 p2.length cap4] w0 (fun v w'=>v=.bool r∧Keep Nil w0 w'):=by
 unfold Z94 at hm
 refine fn0 func149 rfl ntmps149 rfl rfl fun a o=>?_
 have u:St w0 Nil [H] [] w0:=start1 hH
 refine th<|rg<|qa o rfl fun a o=>re<|tn<|th<|?_
 rcases bdich p1 with hb7 | hb7
 replace hm:=ite_t hm hb7
 obtain ⟨rz8,h9,hm⟩:=bs hm
 refine rg<|qm o rfl fun a o=>qv o (e_as (e_move o rfl) (congrArg Value.bool hb7)) fun a o=>qg o (e_move o rfl) fun a o=>ls<|gy o rfl rfl<|cq o call87 (Zq_c (hp_le _) (Tab.mono hT (St.up u)) hc5 (St.srH u hr6) h9) ⟨rfl,trivial⟩ u fun w a u o=>qv o (e_pickT o rfl rfl) fun a o=>qm o rfl fun a o=>grp (N:=19) (Fk:=[(18,.bool (rz8 || ((!p1) && (decide ((p2.length:Int)=0)))))]) (b:=rz8) 8 u ?_ ?_ ?_
 intro hb key
 replace o:=Fr.as o (t:=10) rfl (congrArg Value.bool hb)
 iterate 3 refine qn o fun a o=>?_
 iterate 3 refine ls<|gnu o rfl rfl rfl fun a o=>?_
 refine qn o fun a o=>qv o (e_as (v':=.bool (rz8 || ((!p1) && (decide ((p2.length:Int)=0))))) (e_pickT o rfl rfl) (by rw [hb];rfl)) fun a o=>?_
 exact key _ _ (o.has ⟨rfl,trivial⟩) u
 intro hb key
 replace o:=Fr.as o (t:=10) rfl (congrArg Value.bool hb)
 refine qg o (e_move o rfl) fun a o=>qg o (e_not o rfl) fun a o=>qg o (e_move o rfl) fun a o=>grp (N:=19) (Fk:=[(10,.bool false),(17,.bool ((!p1) && (decide ((p2.length:Int)=0))))]) (b:=(!p1)) 4 u ?_ ?_ ?_
 intro hb key
 replace o:=Fr.as o (t:=13) rfl (congrArg Value.bool hb)
 refine qg o (e_move o rfl) fun a o=>qg o (e_lenL (α:=api_Node) (xs:=p2) o runUnderlying49 rfl) fun a o=>qg o (e_eql o rfl rfl) fun a o=>qg o (e_as (v':=.bool ((!p1) && (decide ((p2.length:Int)=0)))) (e_pickT o rfl rfl) (by rw [hb];rfl)) fun a o=>?_
 exact key _ _ (o.has ⟨rfl,rfl,trivial⟩) u
 intro hb key
 replace o:=Fr.as o (t:=13) rfl (congrArg Value.bool hb)
 iterate 3 refine qn o fun a o=>?_
 refine qg o (e_as (v':=.bool ((!p1) && (decide ((p2.length:Int)=0)))) (e_pickF o rfl rfl) (by rw [hb];rfl)) fun a o=>?_
 exact key _ _ (o.has ⟨rfl,rfl,trivial⟩) u
 intro a w o u
 refine qv o (e_as (v':=.bool (rz8 || ((!p1) && (decide ((p2.length:Int)=0))))) (e_pickF o rfl rfl) (by rw [hb];rfl)) fun a o=>?_
 exact key _ _ (o.has ⟨rfl,trivial⟩) u
 intro a w o u
 refine qa o rfl fun a o=>re<|tn<|wr<|?_
 obtain rfl:=si hm
 exact r1 o results149 rfl ⟨rfl,u.keep⟩
 replace hm:=ite_f hm hb7
 refine rg<|qm o rfl fun a o=>qv o (e_as (e_move o rfl) (congrArg Value.bool hb7)) fun a o=>?_
 iterate 2 refine qn o fun a o=>?_
 refine qv o (e_pickF o rfl rfl) fun a o=>qm o rfl fun a o=>qg o (e_move o rfl) fun a o=>qg o (e_not o rfl) fun a o=>qg o (e_move o rfl) fun a o=>grp (N:=19) (Fk:=[(10,.bool false),(17,.bool ((!p1) && (decide ((p2.length:Int)=0))))]) (b:=(!p1)) 4 u ?_ ?_ ?_
 intro hb key
 replace o:=Fr.as o (t:=13) rfl (congrArg Value.bool hb)
 refine qg o (e_move o rfl) fun a o=>qg o (e_lenL (α:=api_Node) (xs:=p2) o runUnderlying49 rfl) fun a o=>qg o (e_eql o rfl rfl) fun a o=>qg o (e_as (v':=.bool ((!p1) && (decide ((p2.length:Int)=0)))) (e_pickT o rfl rfl) (by rw [hb];rfl)) fun a o=>?_
 exact key _ _ (o.has ⟨rfl,rfl,trivial⟩) u
 intro hb key
 replace o:=Fr.as o (t:=13) rfl (congrArg Value.bool hb)
 iterate 3 refine qn o fun a o=>?_
 refine qg o (e_as (v':=.bool ((!p1) && (decide ((p2.length:Int)=0)))) (e_pickF o rfl rfl) (by rw [hb];rfl)) fun a o=>?_
 exact key _ _ (o.has ⟨rfl,rfl,trivial⟩) u
 intro a w o u
 refine qv o (e_pickF o rfl rfl) fun a o=>qa o rfl fun a o=>re<|tn<|wr<|?_
 obtain rfl:=si hm
 exact r1 o results149 rfl ⟨rfl,u.keep⟩
set_option maxHeartbeats 4000000 in
theorem Z91_c (hH:H.le w0) (hT:Tab H) {cs2:List Value} {p1:api_Stmt} (g3:Enc.rep H cs2 p1) {r:Bool} (hm:Z91 N p1=some r):Tot Tryz.prog 110 #[.agg cs2.toArray] w0 (fun v w'=>v=.bool r∧Keep Nil w0 w'):=by
 unfold Z91 at hm
 refine fn0 func110 rfl ntmps110 rfl rfl fun a o=>?_
 have u:St w0 Nil [H] [] w0:=start1 hH
 obtain ⟨oa4,cap5,oa8,cap9,rfl,hc6,hr7,hc10,hr11⟩:=api_Stmt_open g3
 refine th<|rg<|ls<|a_box (cs:=[i6 p1.Kind,strv p1.Reg,strv p1.Name,.slice oa4 p1.E.length cap5,.slice oa8 p1.F.length cap9,i6 p1.N,i6 p1.Body,i6 p1.Else,i6 p1.At].toArray) o rfl u rfl rfl fun b12 w a u o=>qa o rfl fun a o=>re<|tn<|th<|?_
 obtain ⟨r13,h14,hm⟩:=bs hm
 refine rg<|qv o (e_fa o fa51_0 rfl) fun a o=>qv o (e_ld o isAgg3 rfl ((St.ld u).cellB t0 rfl)) fun a o=>ls<|cq o call145 (Z8s_c (hp_le _) h14) ⟨rfl,trivial⟩ u fun w a u o=>ls<|a_alloc (cs:=[strv []].toArray) o rfl u zeroValue9 rfl fun b15 w a u o=>ls<|s_blk o u sizeOf9 rfl rfl rfl rfl .head .zero fun w u=>re<|tn<|th<|rg<|qv o (e_mkf (vs:=[.pointer (some ⟨b15,0,none⟩)]) o ⟨rfl,trivial⟩) fun a o=>qa o rfl fun a o=>?_
 iterate 2 refine re<|tn<|th<|rg<|qa o rfl fun a o=>?_
 refine re<|tn<|th<|rg<|qv o (e_fa o fa51_5 rfl) fun a o=>qv o (e_ld o isAgg3 rfl ((St.ld u).cellB t1 rfl)) fun a o=>qv o (e_eql o rfl rfl) fun a o=>qa o rfl fun a o=>re<|tn<|th<|th<|?_
 obtain ⟨r16,h17,hm⟩:=bs hm
 refine rg<|qm o rfl fun a o=>ls<|k1 (vs:=[strv [107]]) (caps:=[.pointer (some ⟨b15,0,none⟩)]) o rfl rfl call146 (Z92_c (hp_le _) (Tab.mono hT (St.up u)) (St.blkO u t0) h17) ⟨rfl,trivial⟩ rfl (fun v w a hR o=>?_)
 obtain ⟨rfl,hk⟩:=hR
 replace u:=u.pass hk
 refine re<|tn<|midK (fun a w=>∃ (vA1:Bool),(Z95 N p1 r13) vA1=some r∧Fr 85 [(1,.pointer (some ⟨b12,0,none⟩)),(4,.func (.func 146) #[] #[.pointer (some ⟨b15,0,none⟩)]),(5,.func (.func 148) #[] #[]),(6,.func (.func 149) #[] #[]),(7,.bool vA1)] a∧St w0 Nil [H] [blk b12 (.cells [i6 p1.Kind,strv p1.Reg,strv p1.Name,.slice oa4 p1.E.length cap5,.slice oa8 p1.F.length cap9,i6 p1.N,i6 p1.Body,i6 p1.Else,i6 p1.At].toArray 51 (0,0)),blk b15 (.cells [strv r13].toArray 9 (0,0))] w) ?_ ?_
 rcases bdich r16 with hb18 | hb18
 replace hm:=ite_t hm hb18
 refine ctv o rfl hb18<|rg<|qv o (e_fa o fa51_5 rfl) fun a o=>qv o (e_ld o isAgg3 rfl ((St.ld u).cellB t1 rfl)) fun a o=>qv o (e_geq o rfl rfl) fun a o=>qm o rfl fun a o=>grp (N:=85) (Fk:=[(1,.pointer (some ⟨b12,0,none⟩)),(4,.func (.func 146) #[] #[.pointer (some ⟨b15,0,none⟩)]),(5,.func (.func 148) #[] #[]),(6,.func (.func 149) #[] #[]),(25,.bool ((decide (1≤p1.N)) && (decide (p1.N≤8))))]) (b:=(decide (1≤p1.N))) 4 u ?_ ?_ ?_
 intro hb key
 replace o:=Fr.as o (t:=21) rfl (congrArg Value.bool hb)
 refine qg o (e_fa o fa51_5 rfl) fun a o=>qg o (e_ld o isAgg3 rfl ((St.ld u).cellB t1 rfl)) fun a o=>qg o (e_leq o rfl rfl) fun a o=>qv o (e_as (v':=.bool ((decide (1≤p1.N)) && (decide (p1.N≤8)))) (e_pickT o rfl rfl) (by rw [hb];rfl)) fun a o=>?_
 exact key _ _ (o.hs) u
 intro hb key
 replace o:=Fr.as o (t:=21) rfl (congrArg Value.bool hb)
 iterate 3 refine qn o fun a o=>?_
 refine qv o (e_as (v':=.bool ((decide (1≤p1.N)) && (decide (p1.N≤8)))) (e_pickF o rfl rfl) (by rw [hb];rfl)) fun a o=>?_
 exact key _ _ (o.hs) u
 intro a w o u
 refine qa o rfl fun a o=>re<|tn<|?_
 replace u:=u.pk [1,0] rfl
 exact ⟨((decide (1≤p1.N)) && (decide (p1.N≤8))),hm,o.hs,u⟩
 replace hm:=ite_f hm hb18
 refine cfv o rfl hb18<|wk<|tn<|?_
 replace u:=u.pk [1,0] rfl
 exact ⟨(decide (p1.N=0)),hm,o.hs,u⟩
 rintro a w ⟨vA1,hm,o,u⟩
 unfold Z95 at hm
 refine th<|rg<|qv o (e_fa o fa51_0 rfl) fun a o=>qv o (e_ld o isAgg3 rfl ((St.ld u).cellB t0 rfl)) fun a o=>qv o (e_geq o rfl rfl) fun a o=>qm o rfl fun a o=>grp (N:=85) (Fk:=[(1,.pointer (some ⟨b12,0,none⟩)),(4,.func (.func 146) #[] #[.pointer (some ⟨b15,0,none⟩)]),(5,.func (.func 148) #[] #[]),(6,.func (.func 149) #[] #[]),(7,.bool vA1),(33,.bool ((decide (1≤p1.Kind)) && (decide (p1.Kind < 15))))]) (b:=(decide (1≤p1.Kind))) 4 u ?_ ?_ ?_
 intro hb key
 replace o:=Fr.as o (t:=29) rfl (congrArg Value.bool hb)
 refine qg o (e_fa o fa51_0 rfl) fun a o=>qg o (e_ld o isAgg3 rfl ((St.ld u).cellB t0 rfl)) fun a o=>qg o (e_lss o rfl rfl) fun a o=>qv o (e_as (v':=.bool ((decide (1≤p1.Kind)) && (decide (p1.Kind < 15)))) (e_pickT o rfl rfl) (by rw [hb];rfl)) fun a o=>?_
 exact key _ _ (o.hs) u
 intro hb key
 replace o:=Fr.as o (t:=29) rfl (congrArg Value.bool hb)
 iterate 3 refine qn o fun a o=>?_
 refine qv o (e_as (v':=.bool ((decide (1≤p1.Kind)) && (decide (p1.Kind < 15)))) (e_pickF o rfl rfl) (by rw [hb];rfl)) fun a o=>?_
 exact key _ _ (o.hs) u
 intro a w o u
 refine qm o rfl fun a o=>grp (N:=85) (Fk:=[(1,.pointer (some ⟨b12,0,none⟩)),(4,.func (.func 146) #[] #[.pointer (some ⟨b15,0,none⟩)]),(5,.func (.func 148) #[] #[]),(6,.func (.func 149) #[] #[]),(7,.bool vA1),(38,.bool (((decide (1≤p1.Kind)) && (decide (p1.Kind < 15))) && (decide (0≤p1.At))))]) (b:=((decide (1≤p1.Kind)) && (decide (p1.Kind < 15)))) 4 u ?_ ?_ ?_
 intro hb key
 replace o:=Fr.as o (t:=34) rfl (congrArg Value.bool hb)
 refine qg o (e_fa o fa51_8 rfl) fun a o=>qg o (e_ld o isAgg3 rfl ((St.ld u).cellB t0 rfl)) fun a o=>qg o (e_geq o rfl rfl) fun a o=>qv o (e_as (v':=.bool (((decide (1≤p1.Kind)) && (decide (p1.Kind < 15))) && (decide (0≤p1.At)))) (e_pickT o rfl rfl) (by rw [hb];rfl)) fun a o=>?_
 exact key _ _ (o.hs) u
 intro hb key
 replace o:=Fr.as o (t:=34) rfl (congrArg Value.bool hb)
 iterate 3 refine qn o fun a o=>?_
 refine qv o (e_as (v':=.bool (((decide (1≤p1.Kind)) && (decide (p1.Kind < 15))) && (decide (0≤p1.At)))) (e_pickF o rfl rfl) (by rw [hb];rfl)) fun a o=>?_
 exact key _ _ (o.hs) u
 intro a w o u
 refine qm o rfl fun a o=>grp (N:=85) (Fk:=[(1,.pointer (some ⟨b12,0,none⟩)),(4,.func (.func 146) #[] #[.pointer (some ⟨b15,0,none⟩)]),(5,.func (.func 148) #[] #[]),(6,.func (.func 149) #[] #[]),(7,.bool vA1),(43,.bool ((((decide (1≤p1.Kind)) && (decide (p1.Kind < 15))) && (decide (0≤p1.At))) && (decide (p1.At≤4000))))]) (b:=(((decide (1≤p1.Kind)) && (decide (p1.Kind < 15))) && (decide (0≤p1.At)))) 4 u ?_ ?_ ?_
 intro hb key
 replace o:=Fr.as o (t:=39) rfl (congrArg Value.bool hb)
 refine qg o (e_fa o fa51_8 rfl) fun a o=>qg o (e_ld o isAgg3 rfl ((St.ld u).cellB t0 rfl)) fun a o=>qg o (e_leq o rfl rfl) fun a o=>qv o (e_as (v':=.bool ((((decide (1≤p1.Kind)) && (decide (p1.Kind < 15))) && (decide (0≤p1.At))) && (decide (p1.At≤4000)))) (e_pickT o rfl rfl) (by rw [hb];rfl)) fun a o=>?_
 exact key _ _ (o.hs) u
 intro hb key
 replace o:=Fr.as o (t:=39) rfl (congrArg Value.bool hb)
 iterate 3 refine qn o fun a o=>?_
 refine qv o (e_as (v':=.bool ((((decide (1≤p1.Kind)) && (decide (p1.Kind < 15))) && (decide (0≤p1.At))) && (decide (p1.At≤4000)))) (e_pickF o rfl rfl) (by rw [hb];rfl)) fun a o=>?_
 exact key _ _ (o.hs) u
 intro a w o u
 refine qm o rfl fun a o=>grp (N:=85) (Fk:=[(1,.pointer (some ⟨b12,0,none⟩)),(4,.func (.func 146) #[] #[.pointer (some ⟨b15,0,none⟩)]),(5,.func (.func 148) #[] #[]),(6,.func (.func 149) #[] #[]),(46,.bool (((((decide (1≤p1.Kind)) && (decide (p1.Kind < 15))) && (decide (0≤p1.At))) && (decide (p1.At≤4000))) && vA1))]) (b:=((((decide (1≤p1.Kind)) && (decide (p1.Kind < 15))) && (decide (0≤p1.At))) && (decide (p1.At≤4000)))) 2 u ?_ ?_ ?_
 intro hb key
 replace o:=Fr.as o (t:=44) rfl (congrArg Value.bool hb)
 refine qg o (e_move o rfl) fun a o=>qv o (e_as (v':=.bool (((((decide (1≤p1.Kind)) && (decide (p1.Kind < 15))) && (decide (0≤p1.At))) && (decide (p1.At≤4000))) && vA1)) (e_pickT o rfl rfl) (by rw [hb];rfl)) fun a o=>?_
 exact key _ _ (o.hs) u
 intro hb key
 replace o:=Fr.as o (t:=44) rfl (congrArg Value.bool hb)
 refine qn o fun a o=>qv o (e_as (v':=.bool (((((decide (1≤p1.Kind)) && (decide (p1.Kind < 15))) && (decide (0≤p1.At))) && (decide (p1.At≤4000))) && vA1)) (e_pickF o rfl rfl) (by rw [hb];rfl)) fun a o=>?_
 exact key _ _ (o.hs) u
 intro a w o u
 refine qa o rfl fun a o=>re<|tn<|th<|?_
 rcases bdich (((((decide (1≤p1.Kind)) && (decide (p1.Kind < 15))) && (decide (0≤p1.At))) && (decide (p1.At≤4000))) && vA1) with hb19 | hb19
 replace hm:=ite_t hm hb19
 have hb19':(!(((((decide (1≤p1.Kind)) && (decide (p1.Kind < 15))) && (decide (0≤p1.At))) && (decide (p1.At≤4000))) && vA1))=false:=by rw [hb19];rfl
 obtain ⟨r20,h21,hm⟩:=bs hm
 obtain ⟨r22,h23,hm⟩:=bs hm
 rcases bdich r22 with hb24 | hb24
 replace hm:=ite_t hm hb24
 have hb24':(!r22)=false:=by rw [hb24];rfl
 obtain ⟨r25,h26,hm⟩:=bs hm
 obtain ⟨r27,h28,hm⟩:=bs hm
 rcases bdich r27 with hb29 | hb29
 replace hm:=ite_t hm hb29
 have hb29':(!r27)=false:=by rw [hb29];rfl
 obtain ⟨r30,h31,hm⟩:=bs hm
 obtain ⟨r32,h33,hm⟩:=bs hm
 rcases bdich r32 with hb34 | hb34
 replace hm:=ite_t hm hb34
 have hb34':(!r32)=false:=by rw [hb34];rfl
 obtain ⟨r35,h36,hm⟩:=bs hm
 obtain ⟨r37,h38,hm⟩:=bs hm
 refine rdS 39 u wide fun w u=>dr 0 u o rfl (e_move o rfl) fun a o=>dr 1 u o rfl (e_not o rfl) fun a o=>dr 2 u o rfl (e_as (e_move o rfl) (congrArg Value.bool hb19')) fun a o=>dg 3 (St.ld u) o rfl (fun w hl=>e_move o rfl) fun a o=>dg 4 (St.ld u) o rfl (fun w hl=>e_move o rfl) fun a o=>dg 6 (St.ld u) o rfl (fun w hl=>e_fa o fa51_1 rfl) fun a o=>dg 7 (St.ld u) o rfl (fun w hl=>e_ld o isAgg9 rfl (hl.cellB t0 rfl)) fun a o=>da1 (i:=5) (by kernel_rfl) ?_
 refine di (i:=5) rfl<|gy o rfl rfl<|k1 (vs:=[strv [114]]) (caps:=[.pointer (some ⟨b15,0,none⟩)]) o rfl rfl call146 (Z92_c (hp_le _) (Tab.mono hT (St.up u)) (St.blkO u t1) h21) ⟨rfl,trivial⟩ rfl (fun v w a hR o=>?_)
 obtain ⟨rfl,hk⟩:=hR
 replace u:=u.pass hk
 refine ⟨fun _=>(St.ld u),?_⟩
 refine da1 (i:=8) (by kernel_rfl) ?_
 refine di (i:=8) rfl<|gy o rfl rfl<|k1 (vs:=[.bool r20,strv p1.Reg]) (caps:=[]) o rfl rfl call148 (Z93_c (hp_le _) (Tab.mono hT (St.up u)) h23) ⟨rfl,rfl,trivial⟩ rfl (fun v w a hR o=>?_)
 obtain ⟨rfl,hk⟩:=hR
 replace u:=u.pass hk
 refine ⟨fun _=>(St.ld u),?_⟩
 refine dg 9 (St.ld u) o rfl (fun w hl=>e_not o rfl) fun a o=>dr 10 u o rfl (e_pickF o rfl rfl) fun a o=>dr 11 u o rfl (e_as (e_move o rfl) (congrArg Value.bool hb24')) fun a o=>dg 12 (St.ld u) o rfl (fun w hl=>e_move o rfl) fun a o=>dg 13 (St.ld u) o rfl (fun w hl=>e_move o rfl) fun a o=>dg 15 (St.ld u) o rfl (fun w hl=>e_fa o fa51_2 rfl) fun a o=>dg 16 (St.ld u) o rfl (fun w hl=>e_ld o isAgg9 rfl (hl.cellB t0 rfl)) fun a o=>da1 (i:=14) (by kernel_rfl) ?_
 refine di (i:=14) rfl<|gy o rfl rfl<|k1 (vs:=[strv [110]]) (caps:=[.pointer (some ⟨b15,0,none⟩)]) o rfl rfl call146 (Z92_c (hp_le _) (Tab.mono hT (St.up u)) (St.blkO u t1) h26) ⟨rfl,trivial⟩ rfl (fun v w a hR o=>?_)
 obtain ⟨rfl,hk⟩:=hR
 replace u:=u.pass hk
 refine ⟨fun _=>(St.ld u),?_⟩
 refine da1 (i:=17) (by kernel_rfl) ?_
 refine di (i:=17) rfl<|gy o rfl rfl<|k1 (vs:=[.bool r25,strv p1.Name]) (caps:=[]) o rfl rfl call148 (Z93_c (hp_le _) (Tab.mono hT (St.up u)) h28) ⟨rfl,rfl,trivial⟩ rfl (fun v w a hR o=>?_)
 obtain ⟨rfl,hk⟩:=hR
 replace u:=u.pass hk
 refine ⟨fun _=>(St.ld u),?_⟩
 refine dg 18 (St.ld u) o rfl (fun w hl=>e_not o rfl) fun a o=>dr 19 u o rfl (e_pickF o rfl rfl) fun a o=>dr 20 u o rfl (e_as (e_move o rfl) (congrArg Value.bool hb29')) fun a o=>dg 21 (St.ld u) o rfl (fun w hl=>e_move o rfl) fun a o=>dg 22 (St.ld u) o rfl (fun w hl=>e_move o rfl) fun a o=>dg 24 (St.ld u) o rfl (fun w hl=>e_fa o fa51_3 rfl) fun a o=>dg 25 (St.ld u) o rfl (fun w hl=>e_ld o isAgg49 rfl (hl.cellB t0 rfl)) fun a o=>da1 (i:=23) (by kernel_rfl) ?_
 refine di (i:=23) rfl<|gy o rfl rfl<|k1 (vs:=[strv [101]]) (caps:=[.pointer (some ⟨b15,0,none⟩)]) o rfl rfl call146 (Z92_c (hp_le _) (Tab.mono hT (St.up u)) (St.blkO u t1) h31) ⟨rfl,trivial⟩ rfl (fun v w a hR o=>?_)
 obtain ⟨rfl,hk⟩:=hR
 replace u:=u.pass hk
 refine ⟨fun _=>(St.ld u),?_⟩
 refine da1 (i:=26) (by kernel_rfl) ?_
 refine di (i:=26) rfl<|gy o rfl rfl<|k1 (vs:=[.bool r30,.slice oa4 p1.E.length cap5]) (caps:=[]) o rfl rfl call149 (Z94_c (hp_le _) (Tab.mono hT (St.up u)) hc6 (St.srH u hr7) h33) ⟨rfl,rfl,trivial⟩ rfl (fun v w a hR o=>?_)
 obtain ⟨rfl,hk⟩:=hR
 replace u:=u.pass hk
 refine ⟨fun _=>(St.ld u),?_⟩
 refine dg 27 (St.ld u) o rfl (fun w hl=>e_not o rfl) fun a o=>dr 28 u o rfl (e_pickF o rfl rfl) fun a o=>dr 29 u o rfl (e_as (e_move o rfl) (congrArg Value.bool hb34')) fun a o=>dg 30 (St.ld u) o rfl (fun w hl=>e_move o rfl) fun a o=>dg 31 (St.ld u) o rfl (fun w hl=>e_move o rfl) fun a o=>dg 33 (St.ld u) o rfl (fun w hl=>e_fa o fa51_4 rfl) fun a o=>dg 34 (St.ld u) o rfl (fun w hl=>e_ld o isAgg49 rfl (hl.cellB t0 rfl)) fun a o=>da1 (i:=32) (by kernel_rfl) ?_
 refine di (i:=32) rfl<|gy o rfl rfl<|k1 (vs:=[strv [102]]) (caps:=[.pointer (some ⟨b15,0,none⟩)]) o rfl rfl call146 (Z92_c (hp_le _) (Tab.mono hT (St.up u)) (St.blkO u t1) h36) ⟨rfl,trivial⟩ rfl (fun v w a hR o=>?_)
 obtain ⟨rfl,hk⟩:=hR
 replace u:=u.pass hk
 refine ⟨fun _=>(St.ld u),?_⟩
 refine da1 (i:=35) (by kernel_rfl) ?_
 refine di (i:=35) rfl<|gy o rfl rfl<|k1 (vs:=[.bool r35,.slice oa8 p1.F.length cap9]) (caps:=[]) o rfl rfl call149 (Z94_c (hp_le _) (Tab.mono hT (St.up u)) hc10 (St.srH u hr11) h38) ⟨rfl,rfl,trivial⟩ rfl (fun v w a hR o=>?_)
 obtain ⟨rfl,hk⟩:=hR
 replace u:=u.pass hk
 refine ⟨fun _=>(St.ld u),?_⟩
 refine dg 36 (St.ld u) o rfl (fun w hl=>e_not o rfl) fun a o=>dr 37 u o rfl (e_pickF o rfl rfl) fun a o=>dr 38 u o rfl (e_asg o rfl) fun a o=>de (by kernel_rfl)<|tn<|wr<|?_
 obtain rfl:=si hm
 exact r1 o results110 rfl ⟨rfl,u.keep⟩
 replace hm:=ite_f hm hb34
 have hb34':(!r32)=true:=by rw [hb34];rfl
 refine rdS 39 u wide fun w u=>dr 0 u o rfl (e_move o rfl) fun a o=>dr 1 u o rfl (e_not o rfl) fun a o=>dr 2 u o rfl (e_as (e_move o rfl) (congrArg Value.bool hb19')) fun a o=>dg 3 (St.ld u) o rfl (fun w hl=>e_move o rfl) fun a o=>dg 4 (St.ld u) o rfl (fun w hl=>e_move o rfl) fun a o=>dg 6 (St.ld u) o rfl (fun w hl=>e_fa o fa51_1 rfl) fun a o=>dg 7 (St.ld u) o rfl (fun w hl=>e_ld o isAgg9 rfl (hl.cellB t0 rfl)) fun a o=>da1 (i:=5) (by kernel_rfl) ?_
 refine di (i:=5) rfl<|gy o rfl rfl<|k1 (vs:=[strv [114]]) (caps:=[.pointer (some ⟨b15,0,none⟩)]) o rfl rfl call146 (Z92_c (hp_le _) (Tab.mono hT (St.up u)) (St.blkO u t1) h21) ⟨rfl,trivial⟩ rfl (fun v w a hR o=>?_)
 obtain ⟨rfl,hk⟩:=hR
 replace u:=u.pass hk
 refine ⟨fun _=>(St.ld u),?_⟩
 refine da1 (i:=8) (by kernel_rfl) ?_
 refine di (i:=8) rfl<|gy o rfl rfl<|k1 (vs:=[.bool r20,strv p1.Reg]) (caps:=[]) o rfl rfl call148 (Z93_c (hp_le _) (Tab.mono hT (St.up u)) h23) ⟨rfl,rfl,trivial⟩ rfl (fun v w a hR o=>?_)
 obtain ⟨rfl,hk⟩:=hR
 replace u:=u.pass hk
 refine ⟨fun _=>(St.ld u),?_⟩
 refine dg 9 (St.ld u) o rfl (fun w hl=>e_not o rfl) fun a o=>dr 10 u o rfl (e_pickF o rfl rfl) fun a o=>dr 11 u o rfl (e_as (e_move o rfl) (congrArg Value.bool hb24')) fun a o=>dg 12 (St.ld u) o rfl (fun w hl=>e_move o rfl) fun a o=>dg 13 (St.ld u) o rfl (fun w hl=>e_move o rfl) fun a o=>dg 15 (St.ld u) o rfl (fun w hl=>e_fa o fa51_2 rfl) fun a o=>dg 16 (St.ld u) o rfl (fun w hl=>e_ld o isAgg9 rfl (hl.cellB t0 rfl)) fun a o=>da1 (i:=14) (by kernel_rfl) ?_
 refine di (i:=14) rfl<|gy o rfl rfl<|k1 (vs:=[strv [110]]) (caps:=[.pointer (some ⟨b15,0,none⟩)]) o rfl rfl call146 (Z92_c (hp_le _) (Tab.mono hT (St.up u)) (St.blkO u t1) h26) ⟨rfl,trivial⟩ rfl (fun v w a hR o=>?_)
 obtain ⟨rfl,hk⟩:=hR
 replace u:=u.pass hk
 refine ⟨fun _=>(St.ld u),?_⟩
 refine da1 (i:=17) (by kernel_rfl) ?_
 refine di (i:=17) rfl<|gy o rfl rfl<|k1 (vs:=[.bool r25,strv p1.Name]) (caps:=[]) o rfl rfl call148 (Z93_c (hp_le _) (Tab.mono hT (St.up u)) h28) ⟨rfl,rfl,trivial⟩ rfl (fun v w a hR o=>?_)
 obtain ⟨rfl,hk⟩:=hR
 replace u:=u.pass hk
 refine ⟨fun _=>(St.ld u),?_⟩
 refine dg 18 (St.ld u) o rfl (fun w hl=>e_not o rfl) fun a o=>dr 19 u o rfl (e_pickF o rfl rfl) fun a o=>dr 20 u o rfl (e_as (e_move o rfl) (congrArg Value.bool hb29')) fun a o=>dg 21 (St.ld u) o rfl (fun w hl=>e_move o rfl) fun a o=>dg 22 (St.ld u) o rfl (fun w hl=>e_move o rfl) fun a o=>dg 24 (St.ld u) o rfl (fun w hl=>e_fa o fa51_3 rfl) fun a o=>dg 25 (St.ld u) o rfl (fun w hl=>e_ld o isAgg49 rfl (hl.cellB t0 rfl)) fun a o=>da1 (i:=23) (by kernel_rfl) ?_
 refine di (i:=23) rfl<|gy o rfl rfl<|k1 (vs:=[strv [101]]) (caps:=[.pointer (some ⟨b15,0,none⟩)]) o rfl rfl call146 (Z92_c (hp_le _) (Tab.mono hT (St.up u)) (St.blkO u t1) h31) ⟨rfl,trivial⟩ rfl (fun v w a hR o=>?_)
 obtain ⟨rfl,hk⟩:=hR
 replace u:=u.pass hk
 refine ⟨fun _=>(St.ld u),?_⟩
 refine da1 (i:=26) (by kernel_rfl) ?_
 refine di (i:=26) rfl<|gy o rfl rfl<|k1 (vs:=[.bool r30,.slice oa4 p1.E.length cap5]) (caps:=[]) o rfl rfl call149 (Z94_c (hp_le _) (Tab.mono hT (St.up u)) hc6 (St.srH u hr7) h33) ⟨rfl,rfl,trivial⟩ rfl (fun v w a hR o=>?_)
 obtain ⟨rfl,hk⟩:=hR
 replace u:=u.pass hk
 refine ⟨fun _=>(St.ld u),?_⟩
 refine dg 27 (St.ld u) o rfl (fun w hl=>e_not o rfl) fun a o=>dr 28 u o rfl (e_pickF o rfl rfl) fun a o=>dr 29 u o rfl (e_as (e_move o rfl) (congrArg Value.bool hb34')) fun a o=>dn 30 (St.ld u) o rfl fun a o=>dn 31 (St.ld u) o rfl fun a o=>dn 32 (St.ld u) o rfl fun a o=>dn 33 (St.ld u) o rfl fun a o=>dn 34 (St.ld u) o rfl fun a o=>dn 35 (St.ld u) o rfl fun a o=>dn 36 (St.ld u) o rfl fun a o=>dr 37 u o rfl (e_pickT o rfl rfl) fun a o=>dr 38 u o rfl (e_asg o rfl) fun a o=>de (by kernel_rfl)<|tn<|wr<|?_
 obtain rfl:=si hm
 exact r1 o results110 rfl ⟨rfl,u.keep⟩
 replace hm:=ite_f hm hb29
 have hb29':(!r27)=true:=by rw [hb29];rfl
 refine rdS 39 u wide fun w u=>dr 0 u o rfl (e_move o rfl) fun a o=>dr 1 u o rfl (e_not o rfl) fun a o=>dr 2 u o rfl (e_as (e_move o rfl) (congrArg Value.bool hb19')) fun a o=>dg 3 (St.ld u) o rfl (fun w hl=>e_move o rfl) fun a o=>dg 4 (St.ld u) o rfl (fun w hl=>e_move o rfl) fun a o=>dg 6 (St.ld u) o rfl (fun w hl=>e_fa o fa51_1 rfl) fun a o=>dg 7 (St.ld u) o rfl (fun w hl=>e_ld o isAgg9 rfl (hl.cellB t0 rfl)) fun a o=>da1 (i:=5) (by kernel_rfl) ?_
 refine di (i:=5) rfl<|gy o rfl rfl<|k1 (vs:=[strv [114]]) (caps:=[.pointer (some ⟨b15,0,none⟩)]) o rfl rfl call146 (Z92_c (hp_le _) (Tab.mono hT (St.up u)) (St.blkO u t1) h21) ⟨rfl,trivial⟩ rfl (fun v w a hR o=>?_)
 obtain ⟨rfl,hk⟩:=hR
 replace u:=u.pass hk
 refine ⟨fun _=>(St.ld u),?_⟩
 refine da1 (i:=8) (by kernel_rfl) ?_
 refine di (i:=8) rfl<|gy o rfl rfl<|k1 (vs:=[.bool r20,strv p1.Reg]) (caps:=[]) o rfl rfl call148 (Z93_c (hp_le _) (Tab.mono hT (St.up u)) h23) ⟨rfl,rfl,trivial⟩ rfl (fun v w a hR o=>?_)
 obtain ⟨rfl,hk⟩:=hR
 replace u:=u.pass hk
 refine ⟨fun _=>(St.ld u),?_⟩
 refine dg 9 (St.ld u) o rfl (fun w hl=>e_not o rfl) fun a o=>dr 10 u o rfl (e_pickF o rfl rfl) fun a o=>dr 11 u o rfl (e_as (e_move o rfl) (congrArg Value.bool hb24')) fun a o=>dg 12 (St.ld u) o rfl (fun w hl=>e_move o rfl) fun a o=>dg 13 (St.ld u) o rfl (fun w hl=>e_move o rfl) fun a o=>dg 15 (St.ld u) o rfl (fun w hl=>e_fa o fa51_2 rfl) fun a o=>dg 16 (St.ld u) o rfl (fun w hl=>e_ld o isAgg9 rfl (hl.cellB t0 rfl)) fun a o=>da1 (i:=14) (by kernel_rfl) ?_
 refine di (i:=14) rfl<|gy o rfl rfl<|k1 (vs:=[strv [110]]) (caps:=[.pointer (some ⟨b15,0,none⟩)]) o rfl rfl call146 (Z92_c (hp_le _) (Tab.mono hT (St.up u)) (St.blkO u t1) h26) ⟨rfl,trivial⟩ rfl (fun v w a hR o=>?_)
 obtain ⟨rfl,hk⟩:=hR
 replace u:=u.pass hk
 refine ⟨fun _=>(St.ld u),?_⟩
 refine da1 (i:=17) (by kernel_rfl) ?_
 refine di (i:=17) rfl<|gy o rfl rfl<|k1 (vs:=[.bool r25,strv p1.Name]) (caps:=[]) o rfl rfl call148 (Z93_c (hp_le _) (Tab.mono hT (St.up u)) h28) ⟨rfl,rfl,trivial⟩ rfl (fun v w a hR o=>?_)
 obtain ⟨rfl,hk⟩:=hR
 replace u:=u.pass hk
 refine ⟨fun _=>(St.ld u),?_⟩
 refine dg 18 (St.ld u) o rfl (fun w hl=>e_not o rfl) fun a o=>dr 19 u o rfl (e_pickF o rfl rfl) fun a o=>dr 20 u o rfl (e_as (e_move o rfl) (congrArg Value.bool hb29')) fun a o=>dn 21 (St.ld u) o rfl fun a o=>dn 22 (St.ld u) o rfl fun a o=>dn 23 (St.ld u) o rfl fun a o=>dn 24 (St.ld u) o rfl fun a o=>dn 25 (St.ld u) o rfl fun a o=>dn 26 (St.ld u) o rfl fun a o=>dn 27 (St.ld u) o rfl fun a o=>dr 28 u o rfl (e_pickT o rfl rfl) fun a o=>dr 29 u o rfl (e_move o rfl) fun a o=>dn 30 (St.ld u) o rfl fun a o=>dn 31 (St.ld u) o rfl fun a o=>dn 32 (St.ld u) o rfl fun a o=>dn 33 (St.ld u) o rfl fun a o=>dn 34 (St.ld u) o rfl fun a o=>dn 35 (St.ld u) o rfl fun a o=>dn 36 (St.ld u) o rfl fun a o=>dr 37 u o rfl (e_pickT o rfl rfl) fun a o=>dr 38 u o rfl (e_asg o rfl) fun a o=>de (by kernel_rfl)<|tn<|wr<|?_
 obtain rfl:=si hm
 exact r1 o results110 rfl ⟨rfl,u.keep⟩
 replace hm:=ite_f hm hb24
 have hb24':(!r22)=true:=by rw [hb24];rfl
 refine rdS 39 u wide fun w u=>dr 0 u o rfl (e_move o rfl) fun a o=>dr 1 u o rfl (e_not o rfl) fun a o=>dr 2 u o rfl (e_as (e_move o rfl) (congrArg Value.bool hb19')) fun a o=>dg 3 (St.ld u) o rfl (fun w hl=>e_move o rfl) fun a o=>dg 4 (St.ld u) o rfl (fun w hl=>e_move o rfl) fun a o=>dg 6 (St.ld u) o rfl (fun w hl=>e_fa o fa51_1 rfl) fun a o=>dg 7 (St.ld u) o rfl (fun w hl=>e_ld o isAgg9 rfl (hl.cellB t0 rfl)) fun a o=>da1 (i:=5) (by kernel_rfl) ?_
 refine di (i:=5) rfl<|gy o rfl rfl<|k1 (vs:=[strv [114]]) (caps:=[.pointer (some ⟨b15,0,none⟩)]) o rfl rfl call146 (Z92_c (hp_le _) (Tab.mono hT (St.up u)) (St.blkO u t1) h21) ⟨rfl,trivial⟩ rfl (fun v w a hR o=>?_)
 obtain ⟨rfl,hk⟩:=hR
 replace u:=u.pass hk
 refine ⟨fun _=>(St.ld u),?_⟩
 refine da1 (i:=8) (by kernel_rfl) ?_
 refine di (i:=8) rfl<|gy o rfl rfl<|k1 (vs:=[.bool r20,strv p1.Reg]) (caps:=[]) o rfl rfl call148 (Z93_c (hp_le _) (Tab.mono hT (St.up u)) h23) ⟨rfl,rfl,trivial⟩ rfl (fun v w a hR o=>?_)
 obtain ⟨rfl,hk⟩:=hR
 replace u:=u.pass hk
 refine ⟨fun _=>(St.ld u),?_⟩
 refine dg 9 (St.ld u) o rfl (fun w hl=>e_not o rfl) fun a o=>dr 10 u o rfl (e_pickF o rfl rfl) fun a o=>dr 11 u o rfl (e_as (e_move o rfl) (congrArg Value.bool hb24')) fun a o=>dn 12 (St.ld u) o rfl fun a o=>dn 13 (St.ld u) o rfl fun a o=>dn 14 (St.ld u) o rfl fun a o=>dn 15 (St.ld u) o rfl fun a o=>dn 16 (St.ld u) o rfl fun a o=>dn 17 (St.ld u) o rfl fun a o=>dn 18 (St.ld u) o rfl fun a o=>dr 19 u o rfl (e_pickT o rfl rfl) fun a o=>dr 20 u o rfl (e_move o rfl) fun a o=>dn 21 (St.ld u) o rfl fun a o=>dn 22 (St.ld u) o rfl fun a o=>dn 23 (St.ld u) o rfl fun a o=>dn 24 (St.ld u) o rfl fun a o=>dn 25 (St.ld u) o rfl fun a o=>dn 26 (St.ld u) o rfl fun a o=>dn 27 (St.ld u) o rfl fun a o=>dr 28 u o rfl (e_pickT o rfl rfl) fun a o=>dr 29 u o rfl (e_move o rfl) fun a o=>dn 30 (St.ld u) o rfl fun a o=>dn 31 (St.ld u) o rfl fun a o=>dn 32 (St.ld u) o rfl fun a o=>dn 33 (St.ld u) o rfl fun a o=>dn 34 (St.ld u) o rfl fun a o=>dn 35 (St.ld u) o rfl fun a o=>dn 36 (St.ld u) o rfl fun a o=>dr 37 u o rfl (e_pickT o rfl rfl) fun a o=>dr 38 u o rfl (e_asg o rfl) fun a o=>de (by kernel_rfl)<|?_
 refine tn<|wr<|?_
 obtain rfl:=si hm
 exact r1 o results110 rfl ⟨rfl,u.keep⟩
 replace hm:=ite_f hm hb19
 have hb19':(!(((((decide (1≤p1.Kind)) && (decide (p1.Kind < 15))) && (decide (0≤p1.At))) && (decide (p1.At≤4000))) && vA1))=true:=by rw [hb19];rfl
 refine rxS 39 u wide (by kernel_rfl) fun w u=>xm u o rfl fun a o=>xr u o (e_not o rfl) fun a o=>xr u o (e_as (e_move o rfl) (congrArg Value.bool hb19')) fun a o=>?_
 iterate 7 refine xn (St.ld u) o fun a o=>?_
 refine xr u o (e_pickT o rfl rfl) fun a o=>xm u o rfl fun a o=>?_
 iterate 7 refine xn (St.ld u) o fun a o=>?_
 refine xr u o (e_pickT o rfl rfl) fun a o=>xm u o rfl fun a o=>?_
 iterate 7 refine xn (St.ld u) o fun a o=>?_
 refine xr u o (e_pickT o rfl rfl) fun a o=>xm u o rfl fun a o=>?_
 iterate 7 refine xn (St.ld u) o fun a o=>?_
 refine xr u o (e_pickT o rfl rfl) fun a o=>xr u o (e_asg o rfl) fun a o=>xe<|tn<|wr<|?_
 obtain rfl:=si hm
 exact r1 o results110 rfl ⟨rfl,u.keep⟩
theorem Z8a_c (hH:H.le w0) (hT:Tab H) {oa2:Option Addr} {cap3:Nat} {p1:(List api_Stmt)} (_:p1.length≤cap3) (hr5:SR H oa2 p1) {r:Int} (hm:Z8a N p1=some r):Tot Tryz.prog 144 #[.slice oa2 p1.length cap3,.func (.func 110) #[] #[]] w0 (fun v w'=>v=i6 r∧Keep Nil w0 w'):=by
 unfold Z8a at hm
 refine fn0 func144 rfl ntmps144 rfl rfl fun a o=>?_
 have u:St w0 Nil [H] [] w0:=start1 hH
 refine th<|rg<|qa o rfl fun a o=>re<|tn<|th<|th<|rg<|qm o rfl fun a o=>qv o (e_lenL (α:=api_Stmt) (xs:=p1) o runUnderlying46 rfl) fun a o=>qm o rfl fun a o=>re<|tn<|midK (fun a w=>Z8b=some r∧Fr 19 [] a∧St w0 Nil [H] [] w) ?_ ?_
 refine wb<|lp (α:=Nat×Int) (fun gh a w=>match gh with | (nn2,vB1)=>(Z8c N Z8b p1) nn2 vB1=some r∧Fr 19 [(0,.slice oa2 p1.length cap3),(1,.func (.func 110) #[] #[]),(7,i6 (p1.length:Int)),(8,i6 vB1)] a∧St w0 Nil [H] [] w) (fun gh=>gh.1) (N,0) ⟨hm,o.hs,u⟩ ?_
 rintro ⟨nn2,vB1⟩ a w ⟨hm,o,u⟩
 obtain _ | nn2:=nn2
 simp [Z8c] at hm
 rw [Z8c] at hm
 refine th<|rg<|qv o (e_lss o rfl rfl) fun a o=>re<|?_
 rcases bdich (decide (vB1 < (p1.length:Int))) with hb6 | hb6
 replace hm:=itp_t hm hb6
 refine tn<|th<|ctv o rfl hb6<|wk<|tn<|th<|wb<|th<|rg<|qm o rfl fun a o=>qa o rfl fun a o=>re<|tn<|th<|?_
 obtain ⟨xz7,h8,hm⟩:=bs hm
 obtain ⟨cz9,g10,hl11⟩:=SR.get hr5 h8
 obtain ⟨oa12,cap13,oa16,cap17,rfl,hc14,hr15,hc18,hr19⟩:=api_Stmt_open g10
 obtain ⟨r20,h21,hm⟩:=bs hm
 refine rg<|qm o rfl fun a o=>?_
 iterate 2 refine qm o rfl fun a o=>?_
 refine qv o (e_iaI o runUnderlying46 sizeOf51 rfl rfl h8 (SR.oaI hr5 (by decide) h8)) fun a o=>qv o (e_ldA o isAgg51 sizeOf51 rfl rfl (fun j v hj=>PH.le.cell (Lds.le (St.ld u)) (hl11 j v hj))) fun a o=>ls<|k1 (vs:=[.agg #[i6 xz7.Kind,strv xz7.Reg,strv xz7.Name,.slice oa12 xz7.E.length cap13,.slice oa16 xz7.F.length cap17,i6 xz7.N,i6 xz7.Body,i6 xz7.Else,i6 xz7.At]]) (caps:=[]) o rfl rfl call110 (Z91_c (hp_le _) (Tab.mono hT (St.up u)) (Enc.mono (St.up u) (show Enc.rep (α:=api_Stmt) H [i6 xz7.Kind,strv xz7.Reg,strv xz7.Name,.slice oa12 xz7.E.length cap13,.slice oa16 xz7.F.length cap17,i6 xz7.N,i6 xz7.Body,i6 xz7.Else,i6 xz7.At] xz7 from ⟨_,_,rfl,rfl,⟨_,_,rfl,rfl,⟨_,_,rfl,rfl,⟨_,_,rfl,⟨_,_,rfl,hc14,hr15⟩,⟨_,_,rfl,⟨_,_,rfl,hc18,hr19⟩,⟨_,_,rfl,rfl,⟨_,_,rfl,rfl,⟨_,_,rfl,rfl,rfl⟩⟩⟩⟩⟩⟩⟩⟩)) h21) ⟨rfl,trivial⟩ rfl (fun v w a hR o=>?_)
 obtain ⟨rfl,hk⟩:=hR
 replace u:=u.pass hk
 refine re<|?_
 rcases bdich r20 with hb22 | hb22
 replace hm:=ite_t hm hb22
 refine tn<|ctv o rfl hb22<|th<|rg<|qm o rfl fun a o=>qa o rfl fun a o=>re<|tn<|wr<|br<|tr<|tr<|br<|tr<|?_
 obtain rfl:=si hm
 exact r1 o results144 rfl ⟨rfl,u.keep⟩
 replace hm:=ite_f hm hb22
 refine tn<|cfv o rfl hb22<|wk<|bn<|tn<|rg<|qv o (e_add o rfl rfl) fun a o=>qm o rfl fun a o=>re<|tn<|?_
 exact ⟨(nn2,(IntKind.i64.wrap (vB1+1))),⟨hm,o.hs,u⟩,Nat.lt_succ_self _⟩
 replace hm:=itp_f hm hb6
 refine tn<|th<|cfv o rfl hb6<|we<|tx<|tx<|bx<|tn<|?_
 exact ⟨hm,o.has trivial,u⟩
 rintro a w ⟨hm,o,u⟩
 unfold Z8b at hm
 refine th<|rg<|qa o rfl fun a o=>re<|tn<|wr<|?_
 obtain rfl:=si hm
 exact r1 o results144 rfl ⟨rfl,u.keep⟩
theorem Z7p_c (hH:H.le w0) (hT:Tab H) {oa2:Option Addr} {cap3:Nat} {p1:(List api_Stmt)} (hc4:p1.length≤cap3) (hr5:SR H oa2 p1) {r:Bool} (hm:Z7p N p1=some r):Tot Tryz.prog 109 #[.slice oa2 p1.length cap3,.func (.func 110) #[] #[]] w0 (fun v w'=>v=.bool r∧Keep Nil w0 w'):=by
 unfold Z7p at hm
 refine fn0 func109 rfl ntmps109 rfl rfl fun a o=>?_
 have u:St w0 Nil [H] [] w0:=start1 hH
 refine th<|rg<|qa o rfl fun a o=>re<|tn<|th<|?_
 obtain ⟨rz6,h7,hm⟩:=bs hm
 refine rg<|qm o rfl fun a o=>qm o rfl fun a o=>ls<|cq o call144 (Z8a_c (hp_le _) (Tab.mono hT (St.up u)) hc4 (St.srH u hr5) h7) ⟨rfl,rfl,trivial⟩ u fun w a u o=>qv o (e_geq o rfl rfl) fun a o=>qa o rfl fun a o=>re<|tn<|wr<|?_
 obtain rfl:=si hm
 exact r1 o results109 rfl ⟨rfl,u.keep⟩
theorem Z96_c (hH:H.le w0) {p1:Bool} {r:Int} (hm:Z96 N p1=some r):Tot Tryz.prog 150 #[.bool p1] w0 (fun v w'=>v=i6 r∧Keep Nil w0 w'):=by
 unfold Z96 at hm
 refine fn0 func150 rfl ntmps150 rfl rfl fun a o=>?_
 have u:St w0 Nil [H] [] w0:=start1 hH
 refine th<|rg<|qa o rfl fun a o=>re<|tn<|th<|th<|rg<|qm o rfl fun a o=>re<|?_
 rcases bdich p1 with hb2 | hb2
 replace hm:=ite_t hm hb2
 refine tn<|ctv o rfl hb2<|th<|rg<|qa o rfl fun a o=>re<|tn<|wr<|tr<|?_
 obtain rfl:=si hm
 exact r1 o results150 rfl ⟨rfl,u.keep⟩
 replace hm:=ite_f hm hb2
 refine tn<|cfv o rfl hb2<|wk<|tn<|th<|rg<|qa o rfl fun a o=>re<|tn<|wr<|?_
 obtain rfl:=si hm
 exact r1 o results150 rfl ⟨rfl,u.keep⟩
set_option maxHeartbeats 4000000 in
theorem Z8v_c:∀ (N:Nat) {w0:World} {H:PH} (_:H.le w0) {oa2:Option Addr} {cap3:Nat} {p1:(List api_Stmt)} (_:p1.length≤cap3) (_:SR H oa2 p1) {p6:Int} {r:Int} (_:Z8v N p1 p6=some r),Tot Tryz.prog 111 #[.slice oa2 p1.length cap3,i6 p6] w0 (fun v w'=>v=i6 r∧Keep Nil w0 w'):=by
 intro N
 induction N with
  | zero=>intros;rename_i hm;simp [Z8v] at hm
  | succ N ih=>
 intro w0 H hH oa2 cap3 p1 hc4 hr5 p6 r hm
 rw [Z8v] at hm
 refine fn0 func111 rfl ntmps111 rfl rfl fun a o=>?_
 have u:St w0 Nil [H] [] w0:=start1 hH
 refine th<|rg<|qa o rfl fun a o=>re<|tn<|th<|rg<|qa o rfl fun a o=>re<|tn<|th<|th<|rg<|qa o rfl fun a o=>re<|tn<|midK (fun a w=>∃ (vA1:Int),Z8w vA1=some r∧Fr 131 [(5,i6 vA1)] a∧St w0 Nil [H] [] w) ?_ ?_
 refine wb<|lp (α:=Nat×Int×Int) (fun gh a w=>match gh with | (nn2,vB1,vB2)=>(Z8z (Z8v N) N Z8w p1 p6) nn2 vB1 vB2=some r∧Fr 131 [(0,.slice oa2 p1.length cap3),(1,i6 p6),(5,i6 vB1),(6,i6 vB2)] a∧St w0 Nil [H] [] w) (fun gh=>gh.1) (N,0,0) ⟨hm,o.hs,u⟩ ?_
 rintro ⟨nn2,vB1,vB2⟩ a w ⟨hm,o,u⟩
 obtain _ | nn2:=nn2
 simp [Z8z] at hm
 rw [Z8z] at hm
 refine th<|th<|rg<|qm o rfl fun a o=>qm o rfl fun a o=>qv o (e_lenL (α:=api_Stmt) (xs:=p1) o runUnderlying46 rfl) fun a o=>qv o (e_lss o rfl rfl) fun a o=>re<|?_
 rcases bdich (decide (vB2 < (p1.length:Int))) with hb7 | hb7
 replace hm:=itp_t hm hb7
 refine tn<|ctv o rfl hb7<|wk<|tn<|wb<|th<|?_
 obtain ⟨xz8,h9,hm⟩:=bs hm
 obtain ⟨c10,g11,hl12⟩:=SR.get hr5 h9
 obtain ⟨oa13,cap14,oa17,cap18,rfl,hc15,hr16,hc19,hr20⟩:=api_Stmt_open g11
 refine rg<|qm o rfl fun a o=>qm o rfl fun a o=>qv o (e_iaI o runUnderlying46 sizeOf51 rfl rfl h9 (SR.oaI hr5 (by decide) h9)) fun a o=>qv o (e_ldA o isAgg51 sizeOf51 rfl rfl (fun j v hj=>PH.le.cell (Lds.le (St.ld u)) (hl12 j v hj))) fun a o=>ls<|a_alloc (cs:=[i6 0,strv [],strv [],.slice none 0 0,.slice none 0 0,i6 0,i6 0,i6 0,i6 0].toArray) o rfl u zeroValue51 rfl fun b21 w a u o=>ls<|s_blkA o u sizeOf51 rfl rfl rfl rfl (one_cells rfl) .head fun w u=>re<|tn<|th<|rg<|qm o rfl fun a o=>qv o (e_add o rfl rfl) fun a o=>qv o (e_fa o fa51_6 rfl) fun a o=>qv o (e_ld o isAgg3 rfl ((St.ld u).cellB t0 rfl)) fun a o=>qv o (e_add o rfl rfl) fun a o=>qv o (e_fa o fa51_7 rfl) fun a o=>qv o (e_ld o isAgg3 rfl ((St.ld u).cellB t0 rfl)) fun a o=>qv o (e_add o rfl rfl) fun a o=>qa o rfl fun a o=>re<|tn<|th<|rg<|qv o (e_fa o fa51_0 rfl) fun a o=>qv o (e_ld o isAgg3 rfl ((St.ld u).cellB t0 rfl)) fun a o=>qv o (e_eql o rfl rfl) fun a o=>qm o rfl fun a o=>grp (N:=131) (Fk:=[(0,.slice oa2 p1.length cap3),(1,i6 p6),(5,i6 vB1),(6,i6 vB2),(7,.pointer (some ⟨b21,0,none⟩)),(8,i6 (IntKind.i64.wrap ((IntKind.i64.wrap ((IntKind.i64.wrap (vB2+1))+xz8.Body))+xz8.Else))),(36,.bool ((decide (xz8.Kind=11)) || (decide (xz8.Kind=12))))]) (b:=(decide (xz8.Kind=11))) 4 u ?_ ?_ ?_
 intro hb key
 replace o:=Fr.as o (t:=32) rfl (congrArg Value.bool hb)
 iterate 3 refine qn o fun a o=>?_
 refine qv o (e_as (v':=.bool ((decide (xz8.Kind=11)) || (decide (xz8.Kind=12)))) (e_pickT o rfl rfl) (by rw [hb];rfl)) fun a o=>?_
 exact key _ _ (o.hs) u
 intro hb key
 replace o:=Fr.as o (t:=32) rfl (congrArg Value.bool hb)
 refine qg o (e_fa o fa51_0 rfl) fun a o=>qg o (e_ld o isAgg3 rfl ((St.ld u).cellB t0 rfl)) fun a o=>qg o (e_eql o rfl rfl) fun a o=>qv o (e_as (v':=.bool ((decide (xz8.Kind=11)) || (decide (xz8.Kind=12)))) (e_pickF o rfl rfl) (by rw [hb];rfl)) fun a o=>?_
 exact key _ _ (o.hs) u
 intro a w o u
 refine qa o rfl fun a o=>re<|tn<|th<|wb<|th<|rg<|qv o (e_fa o fa51_6 rfl) fun a o=>qv o (e_ld o isAgg3 rfl ((St.ld u).cellB t0 rfl)) fun a o=>qv o (e_lss o rfl rfl) fun a o=>qm o rfl fun a o=>grp (N:=131) (Fk:=[(0,.slice oa2 p1.length cap3),(1,i6 p6),(5,i6 vB1),(6,i6 vB2),(7,.pointer (some ⟨b21,0,none⟩)),(8,i6 (IntKind.i64.wrap ((IntKind.i64.wrap ((IntKind.i64.wrap (vB2+1))+xz8.Body))+xz8.Else))),(9,.bool ((decide (xz8.Kind=11)) || (decide (xz8.Kind=12)))),(45,.bool ((decide (xz8.Body < 0)) || (decide (xz8.Else < 0))))]) (b:=(decide (xz8.Body < 0))) 4 u ?_ ?_ ?_
 intro hb key
 replace o:=Fr.as o (t:=41) rfl (congrArg Value.bool hb)
 iterate 3 refine qn o fun a o=>?_
 refine qv o (e_as (v':=.bool ((decide (xz8.Body < 0)) || (decide (xz8.Else < 0)))) (e_pickT o rfl rfl) (by rw [hb];rfl)) fun a o=>?_
 exact key _ _ (o.hs) u
 intro hb key
 replace o:=Fr.as o (t:=41) rfl (congrArg Value.bool hb)
 refine qg o (e_fa o fa51_7 rfl) fun a o=>qg o (e_ld o isAgg3 rfl ((St.ld u).cellB t0 rfl)) fun a o=>qg o (e_lss o rfl rfl) fun a o=>qv o (e_as (v':=.bool ((decide (xz8.Body < 0)) || (decide (xz8.Else < 0)))) (e_pickF o rfl rfl) (by rw [hb];rfl)) fun a o=>?_
 exact key _ _ (o.hs) u
 intro a w o u
 refine qm o rfl fun a o=>grp (N:=131) (Fk:=[(0,.slice oa2 p1.length cap3),(1,i6 p6),(5,i6 vB1),(6,i6 vB2),(7,.pointer (some ⟨b21,0,none⟩)),(8,i6 (IntKind.i64.wrap ((IntKind.i64.wrap ((IntKind.i64.wrap (vB2+1))+xz8.Body))+xz8.Else))),(9,.bool ((decide (xz8.Kind=11)) || (decide (xz8.Kind=12)))),(52,.bool (((decide (xz8.Body < 0)) || (decide (xz8.Else < 0))) || (decide ((p1.length:Int) < xz8.Body))))]) (b:=((decide (xz8.Body < 0)) || (decide (xz8.Else < 0)))) 6 u ?_ ?_ ?_
 intro hb key
 replace o:=Fr.as o (t:=46) rfl (congrArg Value.bool hb)
 iterate 5 refine qn o fun a o=>?_
 refine qv o (e_as (v':=.bool (((decide (xz8.Body < 0)) || (decide (xz8.Else < 0))) || (decide ((p1.length:Int) < xz8.Body)))) (e_pickT o rfl rfl) (by rw [hb];rfl)) fun a o=>?_
 exact key _ _ (o.hs) u
 intro hb key
 replace o:=Fr.as o (t:=46) rfl (congrArg Value.bool hb)
 refine qg o (e_fa o fa51_6 rfl) fun a o=>qg o (e_ld o isAgg3 rfl ((St.ld u).cellB t0 rfl)) fun a o=>qg o (e_move o rfl) fun a o=>qg o (e_lenL (α:=api_Stmt) (xs:=p1) o runUnderlying46 rfl) fun a o=>qg o (e_gtr o rfl rfl) fun a o=>qv o (e_as (v':=.bool (((decide (xz8.Body < 0)) || (decide (xz8.Else < 0))) || (decide ((p1.length:Int) < xz8.Body)))) (e_pickF o rfl rfl) (by rw [hb];rfl)) fun a o=>?_
 exact key _ _ (o.hs) u
 intro a w o u
 refine qm o rfl fun a o=>grp (N:=131) (Fk:=[(0,.slice oa2 p1.length cap3),(1,i6 p6),(5,i6 vB1),(6,i6 vB2),(7,.pointer (some ⟨b21,0,none⟩)),(8,i6 (IntKind.i64.wrap ((IntKind.i64.wrap ((IntKind.i64.wrap (vB2+1))+xz8.Body))+xz8.Else))),(9,.bool ((decide (xz8.Kind=11)) || (decide (xz8.Kind=12)))),(59,.bool ((((decide (xz8.Body < 0)) || (decide (xz8.Else < 0))) || (decide ((p1.length:Int) < xz8.Body))) || (decide ((p1.length:Int) < xz8.Else))))]) (b:=(((decide (xz8.Body < 0)) || (decide (xz8.Else < 0))) || (decide ((p1.length:Int) < xz8.Body)))) 6 u ?_ ?_ ?_
 intro hb key
 replace o:=Fr.as o (t:=53) rfl (congrArg Value.bool hb)
 iterate 5 refine qn o fun a o=>?_
 refine qv o (e_as (v':=.bool ((((decide (xz8.Body < 0)) || (decide (xz8.Else < 0))) || (decide ((p1.length:Int) < xz8.Body))) || (decide ((p1.length:Int) < xz8.Else)))) (e_pickT o rfl rfl) (by rw [hb];rfl)) fun a o=>?_
 exact key _ _ (o.hs) u
 intro hb key
 replace o:=Fr.as o (t:=53) rfl (congrArg Value.bool hb)
 refine qg o (e_fa o fa51_7 rfl) fun a o=>qg o (e_ld o isAgg3 rfl ((St.ld u).cellB t0 rfl)) fun a o=>qg o (e_move o rfl) fun a o=>qg o (e_lenL (α:=api_Stmt) (xs:=p1) o runUnderlying46 rfl) fun a o=>qg o (e_gtr o rfl rfl) fun a o=>qv o (e_as (v':=.bool ((((decide (xz8.Body < 0)) || (decide (xz8.Else < 0))) || (decide ((p1.length:Int) < xz8.Body))) || (decide ((p1.length:Int) < xz8.Else)))) (e_pickF o rfl rfl) (by rw [hb];rfl)) fun a o=>?_
 exact key _ _ (o.hs) u
 intro a w o u
 refine qm o rfl fun a o=>grp (N:=131) (Fk:=[(0,.slice oa2 p1.length cap3),(1,i6 p6),(5,i6 vB1),(6,i6 vB2),(7,.pointer (some ⟨b21,0,none⟩)),(8,i6 (IntKind.i64.wrap ((IntKind.i64.wrap ((IntKind.i64.wrap (vB2+1))+xz8.Body))+xz8.Else))),(9,.bool ((decide (xz8.Kind=11)) || (decide (xz8.Kind=12)))),(65,.bool (((((decide (xz8.Body < 0)) || (decide (xz8.Else < 0))) || (decide ((p1.length:Int) < xz8.Body))) || (decide ((p1.length:Int) < xz8.Else))) || (decide ((p1.length:Int) < (IntKind.i64.wrap ((IntKind.i64.wrap ((IntKind.i64.wrap (vB2+1))+xz8.Body))+xz8.Else))))))]) (b:=((((decide (xz8.Body < 0)) || (decide (xz8.Else < 0))) || (decide ((p1.length:Int) < xz8.Body))) || (decide ((p1.length:Int) < xz8.Else)))) 5 u ?_ ?_ ?_
 intro hb key
 replace o:=Fr.as o (t:=60) rfl (congrArg Value.bool hb)
 iterate 4 refine qn o fun a o=>?_
 refine qv o (e_as (v':=.bool (((((decide (xz8.Body < 0)) || (decide (xz8.Else < 0))) || (decide ((p1.length:Int) < xz8.Body))) || (decide ((p1.length:Int) < xz8.Else))) || (decide ((p1.length:Int) < (IntKind.i64.wrap ((IntKind.i64.wrap ((IntKind.i64.wrap (vB2+1))+xz8.Body))+xz8.Else)))))) (e_pickT o rfl rfl) (by rw [hb];rfl)) fun a o=>?_
 exact key _ _ (o.hs) u
 intro hb key
 replace o:=Fr.as o (t:=60) rfl (congrArg Value.bool hb)
 iterate 2 refine qg o (e_move o rfl) fun a o=>?_
 refine qg o (e_lenL (α:=api_Stmt) (xs:=p1) o runUnderlying46 rfl) fun a o=>qg o (e_gtr o rfl rfl) fun a o=>qv o (e_as (v':=.bool (((((decide (xz8.Body < 0)) || (decide (xz8.Else < 0))) || (decide ((p1.length:Int) < xz8.Body))) || (decide ((p1.length:Int) < xz8.Else))) || (decide ((p1.length:Int) < (IntKind.i64.wrap ((IntKind.i64.wrap ((IntKind.i64.wrap (vB2+1))+xz8.Body))+xz8.Else)))))) (e_pickF o rfl rfl) (by rw [hb];rfl)) fun a o=>?_
 exact key _ _ (o.hs) u
 intro a w o u
 refine qa o rfl fun a o=>re<|?_
 rcases bdich (((((decide (xz8.Body < 0)) || (decide (xz8.Else < 0))) || (decide ((p1.length:Int) < xz8.Body))) || (decide ((p1.length:Int) < xz8.Else))) || (decide ((p1.length:Int) < (IntKind.i64.wrap ((IntKind.i64.wrap ((IntKind.i64.wrap (vB2+1))+xz8.Body))+xz8.Else))))) with hb22 | hb22
 replace hm:=ite_t hm hb22
 refine tn<|ctv o rfl hb22<|th<|rg<|qa o rfl fun a o=>re<|tn<|wr<|br<|tr<|br<|tr<|br<|tr<|?_
 obtain rfl:=si hm
 exact r1 o results111 rfl ⟨rfl,u.keep⟩
 replace hm:=ite_f hm hb22
 refine tn<|cfv o rfl hb22<|th<|th<|rg<|qm o rfl fun a o=>qv o (e_not o rfl) fun a o=>qm o rfl fun a o=>grp (N:=131) (Fk:=[(0,.slice oa2 p1.length cap3),(1,i6 p6),(5,i6 vB1),(6,i6 vB2),(7,.pointer (some ⟨b21,0,none⟩)),(8,i6 (IntKind.i64.wrap ((IntKind.i64.wrap ((IntKind.i64.wrap (vB2+1))+xz8.Body))+xz8.Else))),(9,.bool ((decide (xz8.Kind=11)) || (decide (xz8.Kind=12)))),(73,.bool ((!((decide (xz8.Kind=11)) || (decide (xz8.Kind=12)))) && (decide (0 < xz8.Body))))]) (b:=(!((decide (xz8.Kind=11)) || (decide (xz8.Kind=12))))) 4 u ?_ ?_ ?_
 intro hb key
 replace o:=Fr.as o (t:=69) rfl (congrArg Value.bool hb)
 refine qg o (e_fa o fa51_6 rfl) fun a o=>qg o (e_ld o isAgg3 rfl ((St.ld u).cellB t0 rfl)) fun a o=>qg o (e_gtr o rfl rfl) fun a o=>qv o (e_as (v':=.bool ((!((decide (xz8.Kind=11)) || (decide (xz8.Kind=12)))) && (decide (0 < xz8.Body)))) (e_pickT o rfl rfl) (by rw [hb];rfl)) fun a o=>?_
 exact key _ _ (o.hs) u
 intro hb key
 replace o:=Fr.as o (t:=69) rfl (congrArg Value.bool hb)
 iterate 3 refine qn o fun a o=>?_
 refine qv o (e_as (v':=.bool ((!((decide (xz8.Kind=11)) || (decide (xz8.Kind=12)))) && (decide (0 < xz8.Body)))) (e_pickF o rfl rfl) (by rw [hb];rfl)) fun a o=>?_
 exact key _ _ (o.hs) u
 intro a w o u
 refine qa o rfl fun a o=>re<|tn<|midK (fun a w=>∃ (vC1:Bool),(Z8x (Z8v N) N ((Z8z (Z8v N) N Z8w p1 p6) nn2) p1 p6 xz8 vB1 vB2) vC1=some r∧Fr 131 [(0,.slice oa2 p1.length cap3),(1,i6 p6),(5,i6 vB1),(6,i6 vB2),(7,.pointer (some ⟨b21,0,none⟩)),(8,i6 (IntKind.i64.wrap ((IntKind.i64.wrap ((IntKind.i64.wrap (vB2+1))+xz8.Body))+xz8.Else))),(9,.bool ((decide (xz8.Kind=11)) || (decide (xz8.Kind=12)))),(66,.bool vC1)] a∧St w0 Nil [H] [blk b21 (.cells [i6 xz8.Kind,strv xz8.Reg,strv xz8.Name,.slice oa13 xz8.E.length cap14,.slice oa17 xz8.F.length cap18,i6 xz8.N,i6 xz8.Body,i6 xz8.Else,i6 xz8.At].toArray 51 (0,0))] w) ?_ ?_
 rcases bdich ((!((decide (xz8.Kind=11)) || (decide (xz8.Kind=12)))) && (decide (0 < xz8.Body))) with hb23 | hb23
 replace hm:=ite_t hm hb23
 refine ctv o rfl hb23<|wk<|tn<|?_
 exact ⟨((!((decide (xz8.Kind=11)) || (decide (xz8.Kind=12)))) && (decide (0 < xz8.Body))),hm,o.hs,u⟩
 replace hm:=ite_f hm hb23
 refine cfv o rfl hb23<|th<|rg<|qv o (e_fa o fa51_0 rfl) fun a o=>qv o (e_ld o isAgg3 rfl ((St.ld u).cellB t0 rfl)) fun a o=>qv o (e_neq o rfl rfl) fun a o=>qm o rfl fun a o=>grp (N:=131) (Fk:=[(0,.slice oa2 p1.length cap3),(1,i6 p6),(5,i6 vB1),(6,i6 vB2),(7,.pointer (some ⟨b21,0,none⟩)),(8,i6 (IntKind.i64.wrap ((IntKind.i64.wrap ((IntKind.i64.wrap (vB2+1))+xz8.Body))+xz8.Else))),(9,.bool ((decide (xz8.Kind=11)) || (decide (xz8.Kind=12)))),(81,.bool ((decide (xz8.Kind≠11)) && (decide (0 < xz8.Else))))]) (b:=(decide (xz8.Kind≠11))) 4 u ?_ ?_ ?_
 intro hb key
 replace o:=Fr.as o (t:=77) rfl (congrArg Value.bool hb)
 refine qg o (e_fa o fa51_7 rfl) fun a o=>qg o (e_ld o isAgg3 rfl ((St.ld u).cellB t0 rfl)) fun a o=>qg o (e_gtr o rfl rfl) fun a o=>qv o (e_as (v':=.bool ((decide (xz8.Kind≠11)) && (decide (0 < xz8.Else)))) (e_pickT o rfl rfl) (by rw [hb];rfl)) fun a o=>?_
 exact key _ _ (o.hs) u
 intro hb key
 replace o:=Fr.as o (t:=77) rfl (congrArg Value.bool hb)
 iterate 3 refine qn o fun a o=>?_
 refine qv o (e_as (v':=.bool ((decide (xz8.Kind≠11)) && (decide (0 < xz8.Else)))) (e_pickF o rfl rfl) (by rw [hb];rfl)) fun a o=>?_
 exact key _ _ (o.hs) u
 intro a w o u
 refine qa o rfl fun a o=>re<|?_
 rcases bdich ((decide (xz8.Kind≠11)) && (decide (0 < xz8.Else))) with hb24 | hb24
 replace hm:=ite_t hm hb24
 refine tn<|ctv o rfl hb24<|wk<|tn<|?_
 exact ⟨((decide (xz8.Kind≠11)) && (decide (0 < xz8.Else))),hm,o.hs,u⟩
 replace hm:=ite_f hm hb24
 refine tn<|cfv o rfl hb24<|rg<|qv o (e_fa o fa51_0 rfl) fun a o=>qv o (e_ld o isAgg3 rfl ((St.ld u).cellB t0 rfl)) fun a o=>qv o (e_eql o rfl rfl) fun a o=>qm o rfl fun a o=>grp (N:=131) (Fk:=[(0,.slice oa2 p1.length cap3),(1,i6 p6),(5,i6 vB1),(6,i6 vB2),(7,.pointer (some ⟨b21,0,none⟩)),(8,i6 (IntKind.i64.wrap ((IntKind.i64.wrap ((IntKind.i64.wrap (vB2+1))+xz8.Body))+xz8.Else))),(9,.bool ((decide (xz8.Kind=11)) || (decide (xz8.Kind=12)))),(88,.bool ((decide (xz8.Kind=13)) && (decide (p6=0))))]) (b:=(decide (xz8.Kind=13))) 3 u ?_ ?_ ?_
 intro hb key
 replace o:=Fr.as o (t:=85) rfl (congrArg Value.bool hb)
 refine qg o (e_move o rfl) fun a o=>qg o (e_eql o rfl rfl) fun a o=>qv o (e_as (v':=.bool ((decide (xz8.Kind=13)) && (decide (p6=0)))) (e_pickT o rfl rfl) (by rw [hb];rfl)) fun a o=>?_
 exact key _ _ (o.hs) u
 intro hb key
 replace o:=Fr.as o (t:=85) rfl (congrArg Value.bool hb)
 iterate 2 refine qn o fun a o=>?_
 refine qv o (e_as (v':=.bool ((decide (xz8.Kind=13)) && (decide (p6=0)))) (e_pickF o rfl rfl) (by rw [hb];rfl)) fun a o=>?_
 exact key _ _ (o.hs) u
 intro a w o u
 refine qa o rfl fun a o=>re<|tn<|?_
 exact ⟨((decide (xz8.Kind=13)) && (decide (p6=0))),hm,o.hs,u⟩
 rintro a w ⟨vC1,hm,o,u⟩
 unfold Z8x at hm
 rcases bdich vC1 with hb25 | hb25
 replace hm:=ite_t hm hb25
 refine ctv o rfl hb25<|th<|rg<|qa o rfl fun a o=>re<|tn<|wr<|br<|tr<|br<|tr<|br<|tr<|?_
 obtain rfl:=si hm
 exact r1 o results111 rfl ⟨rfl,u.keep⟩
 replace hm:=ite_f hm hb25
 refine cfv o rfl hb25<|wk<|bn<|tn<|th<|th<|rg<|qm o rfl fun a o=>re<|tn<|midK (fun a w=>∃ (vC2:Int),(Z8y ((Z8z (Z8v N) N Z8w p1 p6) nn2) xz8 vB2) vC2=some r∧Fr 131 [(0,.slice oa2 p1.length cap3),(1,i6 p6),(5,i6 vC2),(8,i6 (IntKind.i64.wrap ((IntKind.i64.wrap ((IntKind.i64.wrap (vB2+1))+xz8.Body))+xz8.Else)))] a∧St w0 Nil [H] [] w) ?_ ?_
 rcases bdich ((decide (xz8.Kind=11)) || (decide (xz8.Kind=12))) with hb26 | hb26
 replace hm:=ite_t hm hb26
 refine ctv o rfl hb26<|th<|?_
 obtain ⟨r27,h28,hm⟩:=bs hm
 refine rg<|qm o rfl fun a o=>qv o (e_fa o fa51_0 rfl) fun a o=>qv o (e_ld o isAgg3 rfl ((St.ld u).cellB t0 rfl)) fun a o=>qv o (e_eql o rfl rfl) fun a o=>ls<|cq o call150 (Z96_c (hp_le _) h28) ⟨rfl,trivial⟩ u fun w a u o=>qv o (e_add o rfl rfl) fun a o=>qa o rfl fun a o=>re<|tn<|th<|?_
 obtain ⟨l29,h30,hm⟩:=bs hm
 obtain ⟨oa31,cap32,e33,e34,hc35,hr36⟩:=SR.sub (sz:=9) hr5 hc4 rfl h30
 obtain ⟨r37,h38,hm⟩:=bs hm
 obtain ⟨l39,h40,hm⟩:=bs hm
 obtain ⟨oa41,cap42,e43,e44,hc45,hr46⟩:=SR.sub (sz:=9) hr5 hc4 rfl h40
 obtain ⟨r47,h48,hm⟩:=bs hm
 refine rdS 23 u wide fun w u=>dr 0 u o rfl (e_move o rfl) fun a o=>dr 1 u o rfl (e_move o rfl) fun a o=>dr 2 u o rfl (e_add o rfl rfl) fun a o=>dr 3 u o rfl (e_move o rfl) fun a o=>dr 4 u o rfl (e_add o rfl rfl) fun a o=>dr 5 u o rfl (e_fa o fa51_6 rfl) fun a o=>dq 6 (St.ld u) o rfl (fun w hl=>e_ld o isAgg3 rfl (hl.cellB t0 rfl)) fun a o=>dr 7 u o rfl (e_add o rfl rfl) fun a o=>dr 8 u o rfl (e_subL (xs:=p1) (vl:=(IntKind.i64.wrap (vB2+1))) (vh:=(IntKind.i64.wrap ((IntKind.i64.wrap (vB2+1))+xz8.Body))) o runUnderlying46 sizeOf51 rfl hc4 rfl rfl h30 e33 e34) fun a o=>dr 9 u o rfl (e_move o rfl) fun a o=>dr 11 u o rfl (e_move o rfl) fun a o=>dr 12 u o rfl (e_move o rfl) fun a o=>dr 13 u o rfl (e_add o rfl rfl) fun a o=>dr 14 u o rfl (e_fa o fa51_6 rfl) fun a o=>dq 15 (St.ld u) o rfl (fun w hl=>e_ld o isAgg3 rfl (hl.cellB t0 rfl)) fun a o=>dr 16 u o rfl (e_add o rfl rfl) fun a o=>dr 17 u o rfl (e_move o rfl) fun a o=>dr 18 u o rfl (e_subL (xs:=p1) (vl:=(IntKind.i64.wrap ((IntKind.i64.wrap (vB2+1))+xz8.Body))) (vh:=(IntKind.i64.wrap ((IntKind.i64.wrap ((IntKind.i64.wrap (vB2+1))+xz8.Body))+xz8.Else))) o runUnderlying46 sizeOf51 rfl hc4 rfl rfl h40 e43 e44) fun a o=>dr 19 u o rfl (e_move o rfl) fun a o=>da1 (i:=10) (by kernel_rfl) ?_
 refine di (i:=10) rfl<|cq o call111 (ih (hp_le _) hc35 (St.srH u hr36) h38) ⟨rfl,rfl,trivial⟩ u fun w a u o=>⟨fun _=>(St.ld u),?_⟩
 refine da1 (i:=20) (by kernel_rfl) ?_
 refine di (i:=20) rfl<|cq o call111 (ih (hp_le _) hc45 (St.srH u hr46) h48) ⟨rfl,rfl,trivial⟩ u fun w a u o=>⟨fun _=>(St.ld u),?_⟩
 refine dr 21 u o rfl (e_asg o rfl) fun a o=>dr 22 u o rfl (e_asg o rfl) fun a o=>de (by kernel_rfl)<|tn<|th<|th<|rg<|qm o rfl fun a o=>qv o (e_eql o rfl rfl) fun a o=>qm o rfl fun a o=>grp (N:=131) (Fk:=[(0,.slice oa2 p1.length cap3),(1,i6 p6),(5,i6 vB1),(8,i6 (IntKind.i64.wrap ((IntKind.i64.wrap ((IntKind.i64.wrap (vB2+1))+xz8.Body))+xz8.Else))),(11,i6 r37),(12,i6 r47),(122,.bool ((decide (r37=(-1))) || (decide (r47=(-1)))))]) (b:=(decide (r37=(-1)))) 3 u ?_ ?_ ?_
 intro hb key
 replace o:=Fr.as o (t:=119) rfl (congrArg Value.bool hb)
 iterate 2 refine qn o fun a o=>?_
 refine qv o (e_as (v':=.bool ((decide (r37=(-1))) || (decide (r47=(-1))))) (e_pickT o rfl rfl) (by rw [hb];rfl)) fun a o=>?_
 exact key _ _ (o.hs) u
 intro hb key
 replace o:=Fr.as o (t:=119) rfl (congrArg Value.bool hb)
 refine qg o (e_move o rfl) fun a o=>qg o (e_eql o rfl rfl) fun a o=>qv o (e_as (v':=.bool ((decide (r37=(-1))) || (decide (r47=(-1))))) (e_pickF o rfl rfl) (by rw [hb];rfl)) fun a o=>?_
 exact key _ _ (o.hs) u
 intro a w o u
 refine re<|?_
 rcases bdich ((decide (r37=(-1))) || (decide (r47=(-1)))) with hb49 | hb49
 replace hm:=ite_t hm hb49
 refine tn<|ctv o rfl hb49<|th<|rg<|qa o rfl fun a o=>re<|tn<|wr<|tr<|tr<|br<|tr<|br<|tr<|?_
 obtain rfl:=si hm
 exact r1 o results111 rfl ⟨rfl,u.keep⟩
 replace hm:=ite_f hm hb49
 refine tn<|cfv o rfl hb49<|wk<|tn<|rg<|qm o rfl fun a o=>qm o rfl fun a o=>qv o (e_add o rfl rfl) fun a o=>qm o rfl fun a o=>qv o (e_add o rfl rfl) fun a o=>qv o (e_max3 o rfl rfl rfl) fun a o=>qa o rfl fun a o=>re<|tn<|?_
 replace u:=u.pickL .nil
 exact ⟨(max (max vB1 (IntKind.i64.wrap (r37+1))) (IntKind.i64.wrap (r47+1))),hm,o.hs,u⟩
 replace hm:=ite_f hm hb26
 refine cfv o rfl hb26<|wk<|tn<|?_
 replace u:=u.pickL .nil
 exact ⟨vB1,hm,o.hs,u⟩
 rintro a w ⟨vC2,hm,o,u⟩
 unfold Z8y at hm
 refine rg<|qm o rfl fun a o=>qa o rfl fun a o=>re<|bn<|tn<|?_
 exact ⟨(nn2,vC2,(IntKind.i64.wrap ((IntKind.i64.wrap ((IntKind.i64.wrap (vB2+1))+xz8.Body))+xz8.Else))),⟨hm,o.hs,u⟩,Nat.lt_succ_self _⟩
 replace hm:=itp_f hm hb7
 refine tn<|cfv o rfl hb7<|we<|tx<|tx<|bx<|tn<|?_
 exact ⟨vB1,hm,o.has ⟨rfl,trivial⟩,u⟩
 rintro a w ⟨vA1,hm,o,u⟩
 unfold Z8w at hm
 refine th<|rg<|qm o rfl fun a o=>qa o rfl fun a o=>re<|tn<|wr<|?_
 obtain rfl:=si hm
 exact r1 o results111 rfl ⟨rfl,u.keep⟩
theorem Z8t_c (hH:H.le w0) (hT:Tab H) {oa2:Option Addr} {cap3:Nat} {p1:(List api_Stmt)} (hc4:p1.length≤cap3) (hr5:SR H oa2 p1) {r:Bool} (hm:Z8t N p1=some r):Tot Tryz.prog 69 #[.slice oa2 p1.length cap3] w0 (fun v w'=>v=.bool r∧Keep Nil w0 w'):=by
 unfold Z8t at hm
 refine fn0 func69 rfl ntmps69 rfl rfl fun a o=>?_
 have u:St w0 Nil [H] [] w0:=start1 hH
 refine th<|rg<|qa o rfl fun a o=>re<|tn<|th<|th<|midK (fun a w=>∃ (vA1:Bool),(Z8u N p1) vA1=some r∧Fr 19 [(0,.slice oa2 p1.length cap3),(10,.bool vA1)] a∧St w0 Nil [H] [] w) ?_ ?_
 rcases bdich (decide (40 < (p1.length:Int))) with hb6 | hb6
 replace hm:=itp_t hm hb6
 refine rg<|qm o rfl fun a o=>qv o (e_lenL (α:=api_Stmt) (xs:=p1) o runUnderlying46 rfl) fun a o=>qv o (e_gtr o rfl rfl) fun a o=>qv o (e_as (e_move o rfl) (congrArg Value.bool hb6)) fun a o=>?_
 iterate 2 refine qn o fun a o=>?_
 refine qv o (e_pickT o rfl rfl) fun a o=>re<|tn<|?_
 exact ⟨true,hm,o.has ⟨rfl,rfl,trivial⟩,u⟩
 replace hm:=itp_f hm hb6
 obtain ⟨rz7,h8,hm⟩:=bs hm
 refine rg<|qm o rfl fun a o=>qv o (e_lenL (α:=api_Stmt) (xs:=p1) o runUnderlying46 rfl) fun a o=>qv o (e_gtr o rfl rfl) fun a o=>qv o (e_as (e_move o rfl) (congrArg Value.bool hb6)) fun a o=>qg o (e_move o rfl) fun a o=>ls<|gy o rfl rfl<|cq o call109 (Z7p_c (hp_le _) (Tab.mono hT (St.up u)) hc4 (St.srH u hr5) h8) ⟨rfl,rfl,trivial⟩ u fun w a u o=>qv o (e_pickF o rfl rfl) fun a o=>re<|tn<|?_
 exact ⟨rz7,hm,o.has ⟨rfl,rfl,trivial⟩,u⟩
 rintro a w ⟨vA1,hm,o,u⟩
 unfold Z8u at hm
 rcases bdich vA1 with hb9 | hb9
 replace hm:=ite_t hm hb9
 refine ctv o rfl hb9<|th<|rg<|qa o rfl fun a o=>re<|tn<|wr<|tr<|?_
 obtain rfl:=si hm
 exact r1 o results69 rfl ⟨rfl,u.keep⟩
 replace hm:=ite_f hm hb9
 refine cfv o rfl hb9<|wk<|tn<|th<|?_
 obtain ⟨r10,h11,hm⟩:=bs hm
 refine rg<|qm o rfl fun a o=>ls<|cq o call111 (Z8v_c _ (hp_le _) hc4 (St.srH u hr5) h11) ⟨rfl,rfl,trivial⟩ u fun w a u o=>qa o rfl fun a o=>re<|tn<|th<|rg<|qm o rfl fun a o=>qv o (e_neq o rfl rfl) fun a o=>qm o rfl fun a o=>grp (N:=19) (Fk:=[(18,.bool ((decide (r10≠(-1))) && (decide (r10≤12))))]) (b:=(decide (r10≠(-1)))) 3 u ?_ ?_ ?_
 intro hb key
 replace o:=Fr.as o (t:=15) rfl (congrArg Value.bool hb)
 refine qg o (e_move o rfl) fun a o=>qg o (e_leq o rfl rfl) fun a o=>qv o (e_as (v':=.bool ((decide (r10≠(-1))) && (decide (r10≤12)))) (e_pickT o rfl rfl) (by rw [hb];rfl)) fun a o=>?_
 exact key _ _ (o.has ⟨rfl,trivial⟩) u
 intro hb key
 replace o:=Fr.as o (t:=15) rfl (congrArg Value.bool hb)
 iterate 2 refine qn o fun a o=>?_
 refine qv o (e_as (v':=.bool ((decide (r10≠(-1))) && (decide (r10≤12)))) (e_pickF o rfl rfl) (by rw [hb];rfl)) fun a o=>?_
 exact key _ _ (o.has ⟨rfl,trivial⟩) u
 intro a w o u
 refine qa o rfl fun a o=>re<|tn<|wr<|?_
 obtain rfl:=si hm
 exact r1 o results69 rfl ⟨rfl,u.keep⟩
theorem Z70_c (hH:H.le w0) (hT:Tab H) {cs2:List Value} {p1:api_Thread} (g3:Enc.rep H cs2 p1) {r:Bool} (hm:Z70 N p1=some r):Tot Tryz.prog 83 #[.agg cs2.toArray] w0 (fun v w'=>v=.bool r∧Keep Nil w0 w'):=by
 unfold Z70 at hm
 refine fn0 func83 rfl ntmps83 rfl rfl fun a o=>?_
 have u:St w0 Nil [H] [] w0:=start1 hH
 obtain ⟨oa4,cap5,oa8,cap9,rfl,hc6,hr7,hc10,hr11⟩:=api_Thread_open g3
 refine th<|rg<|ls<|a_box (cs:=[strv p1.Name,.slice oa4 p1.Regs.length cap5,.slice oa8 p1.Body.length cap9,i6 p1.At].toArray) o rfl u rfl rfl fun b12 w a u o=>qa o rfl fun a o=>re<|tn<|th<|rg<|qa o rfl fun a o=>re<|tn<|th<|?_
 obtain ⟨r13,h14,hm⟩:=bs hm
 rcases bdich r13 with hb15 | hb15
 replace hm:=ite_t hm hb15
 obtain ⟨r16,h17,hm⟩:=bs hm
 rcases bdich r16 with hb18 | hb18
 replace hm:=ite_t hm hb18
 have hb18':(!r16)=false:=by rw [hb18];rfl
 refine rg<|qv o (e_fa o fa48_3 rfl) fun a o=>qv o (e_ld o isAgg3 rfl ((St.ld u).cellB t0 rfl)) fun a o=>ls<|cq o call86 (Z6z_c (hp_le _) h14) ⟨rfl,trivial⟩ u fun w a u o=>qv o (e_as (e_move o rfl) (congrArg Value.bool hb15)) fun a o=>qg o (e_fa o fa48_1 rfl) fun a o=>qg o (e_ld o isAgg36 rfl ((St.ld u).cellB t0 rfl)) fun a o=>qg o (e_move o rfl) fun a o=>ls<|gy o rfl rfl<|cq o call123 (Z7t_c (hp_le _) (Tab.mono hT (St.up u)) hc6 (St.srH u hr7) h17) ⟨rfl,rfl,trivial⟩ u fun w a u o=>qg o (e_not o rfl) fun a o=>qv o (e_pickT o rfl rfl) fun a o=>qv o (e_as (e_move o rfl) (congrArg Value.bool hb18')) fun a o=>?_
 iterate 3 refine qn o fun a o=>?_
 refine qv o (e_pickF o rfl rfl) fun a o=>qa o rfl fun a o=>re<|tn<|wr<|?_
 obtain rfl:=si hm
 exact r1 o results83 rfl ⟨rfl,u.keep⟩
 replace hm:=ite_f hm hb18
 have hb18':(!r16)=true:=by rw [hb18];rfl
 obtain ⟨r19,h20,hm⟩:=bs hm
 refine rg<|qv o (e_fa o fa48_3 rfl) fun a o=>qv o (e_ld o isAgg3 rfl ((St.ld u).cellB t0 rfl)) fun a o=>ls<|cq o call86 (Z6z_c (hp_le _) h14) ⟨rfl,trivial⟩ u fun w a u o=>qv o (e_as (e_move o rfl) (congrArg Value.bool hb15)) fun a o=>qg o (e_fa o fa48_1 rfl) fun a o=>qg o (e_ld o isAgg36 rfl ((St.ld u).cellB t0 rfl)) fun a o=>qg o (e_move o rfl) fun a o=>ls<|gy o rfl rfl<|cq o call123 (Z7t_c (hp_le _) (Tab.mono hT (St.up u)) hc6 (St.srH u hr7) h17) ⟨rfl,rfl,trivial⟩ u fun w a u o=>qg o (e_not o rfl) fun a o=>qv o (e_pickT o rfl rfl) fun a o=>qv o (e_as (e_move o rfl) (congrArg Value.bool hb18')) fun a o=>qg o (e_fa o fa48_2 rfl) fun a o=>qg o (e_ld o isAgg46 rfl ((St.ld u).cellB t0 rfl)) fun a o=>ls<|gy o rfl rfl<|cq o call69 (Z8t_c (hp_le _) (Tab.mono hT (St.up u)) hc10 (St.srH u hr11) h20) ⟨rfl,trivial⟩ u fun w a u o=>qv o (e_pickT o rfl rfl) fun a o=>qa o rfl fun a o=>re<|tn<|wr<|?_
 obtain rfl:=si hm
 exact r1 o results83 rfl ⟨rfl,u.keep⟩
 replace hm:=ite_f hm hb15
 refine rg<|qv o (e_fa o fa48_3 rfl) fun a o=>qv o (e_ld o isAgg3 rfl ((St.ld u).cellB t0 rfl)) fun a o=>ls<|cq o call86 (Z6z_c (hp_le _) h14) ⟨rfl,trivial⟩ u fun w a u o=>qv o (e_as (e_move o rfl) (congrArg Value.bool hb15)) fun a o=>?_
 iterate 5 refine qn o fun a o=>?_
 refine qv o (e_pickF o rfl rfl) fun a o=>qm o rfl fun a o=>?_
 iterate 3 refine qn o fun a o=>?_
 refine qv o (e_pickF o rfl rfl) fun a o=>qa o rfl fun a o=>re<|tn<|wr<|?_
 obtain rfl:=si hm
 exact r1 o results83 rfl ⟨rfl,u.keep⟩
theorem Z6t_c (hH:H.le w0) (hT:Tab H) {cs2:List Value} {p1:api_Thread} (g3:Enc.rep H cs2 p1) {r:Bool} (hm:Z6t N p1=some r):Tot Tryz.prog 81 #[.agg cs2.toArray] w0 (fun v w'=>v=.bool r∧Keep Nil w0 w'):=by
 unfold Z6t at hm
 refine fn0 func81 rfl ntmps81 rfl rfl fun a o=>?_
 have u:St w0 Nil [H] [] w0:=start1 hH
 obtain ⟨oa4,cap5,oa8,cap9,rfl,hc6,hr7,hc10,hr11⟩:=api_Thread_open g3
 refine th<|rg<|ls<|a_box (cs:=[strv p1.Name,.slice oa4 p1.Regs.length cap5,.slice oa8 p1.Body.length cap9,i6 p1.At].toArray) o rfl u rfl rfl fun b12 w a u o=>qa o rfl fun a o=>re<|tn<|th<|?_
 obtain ⟨r13,h14,hm⟩:=bs hm
 rcases bdich r13 with hb15 | hb15
 replace hm:=ite_t hm hb15
 have hb15':(!r13)=false:=by rw [hb15];rfl
 obtain ⟨r16,h17,hm⟩:=bs hm
 refine rg<|qv o (e_fa o fa48_0 rfl) fun a o=>qv o (e_ld o isAgg9 rfl ((St.ld u).cellB t0 rfl)) fun a o=>ls<|cq o call82 (Z73_c (hp_le _) (Tab.mono hT (St.up u)) h14) ⟨rfl,trivial⟩ u fun w a u o=>qv o (e_not o rfl) fun a o=>qv o (e_as (e_move o rfl) (congrArg Value.bool hb15')) fun a o=>qg o (e_ldA o isAgg48 sizeOf48 rfl rfl ((St.ld u).cellsB t0)) fun a o=>ls<|gy o rfl rfl<|cq o call83 (Z70_c (hp_le _) (Tab.mono hT (St.up u)) (Enc.mono (St.up u) (show Enc.rep (α:=api_Thread) H [strv p1.Name,.slice oa4 p1.Regs.length cap5,.slice oa8 p1.Body.length cap9,i6 p1.At] p1 from ⟨_,_,rfl,rfl,⟨_,_,rfl,⟨_,_,rfl,hc6,hr7⟩,⟨_,_,rfl,⟨_,_,rfl,hc10,hr11⟩,rfl⟩⟩⟩)) h17) ⟨rfl,trivial⟩ u fun w a u o=>qg o (e_not o rfl) fun a o=>qv o (e_pickF o rfl rfl) fun a o=>qa o rfl fun a o=>re<|tn<|wr<|?_
 obtain rfl:=si hm
 exact r1 o results81 rfl ⟨rfl,u.keep⟩
 replace hm:=ite_f hm hb15
 have hb15':(!r13)=true:=by rw [hb15];rfl
 refine rg<|qv o (e_fa o fa48_0 rfl) fun a o=>qv o (e_ld o isAgg9 rfl ((St.ld u).cellB t0 rfl)) fun a o=>ls<|cq o call82 (Z73_c (hp_le _) (Tab.mono hT (St.up u)) h14) ⟨rfl,trivial⟩ u fun w a u o=>qv o (e_not o rfl) fun a o=>qv o (e_as (e_move o rfl) (congrArg Value.bool hb15')) fun a o=>?_
 iterate 3 refine qn o fun a o=>?_
 refine qv o (e_pickT o rfl rfl) fun a o=>qa o rfl fun a o=>re<|tn<|wr<|?_
 obtain rfl:=si hm
 exact r1 o results81 rfl ⟨rfl,u.keep⟩
theorem Z8d_c (hH:H.le w0) (hT:Tab H) {oa2:Option Addr} {cap3:Nat} {p1:(List api_Thread)} (_:p1.length≤cap3) (hr5:SR H oa2 p1) {r:Int} (hm:Z8d N p1=some r):Tot Tryz.prog 130 #[.slice oa2 p1.length cap3,.func (.func 81) #[] #[]] w0 (fun v w'=>v=i6 r∧Keep Nil w0 w'):=by
 unfold Z8d at hm
 refine fn0 func130 rfl ntmps130 rfl rfl fun a o=>?_
 have u:St w0 Nil [H] [] w0:=start1 hH
 refine th<|rg<|qa o rfl fun a o=>re<|tn<|th<|th<|rg<|qm o rfl fun a o=>qv o (e_lenL (α:=api_Thread) (xs:=p1) o runUnderlying24 rfl) fun a o=>qm o rfl fun a o=>re<|tn<|midK (fun a w=>Z8e=some r∧Fr 19 [] a∧St w0 Nil [H] [] w) ?_ ?_
 refine wb<|lp (α:=Nat×Int) (fun gh a w=>match gh with | (nn2,vB1)=>(Z8f N Z8e p1) nn2 vB1=some r∧Fr 19 [(0,.slice oa2 p1.length cap3),(1,.func (.func 81) #[] #[]),(7,i6 (p1.length:Int)),(8,i6 vB1)] a∧St w0 Nil [H] [] w) (fun gh=>gh.1) (N,0) ⟨hm,o.hs,u⟩ ?_
 rintro ⟨nn2,vB1⟩ a w ⟨hm,o,u⟩
 obtain _ | nn2:=nn2
 simp [Z8f] at hm
 rw [Z8f] at hm
 refine th<|rg<|qv o (e_lss o rfl rfl) fun a o=>re<|?_
 rcases bdich (decide (vB1 < (p1.length:Int))) with hb6 | hb6
 replace hm:=itp_t hm hb6
 refine tn<|th<|ctv o rfl hb6<|wk<|tn<|th<|wb<|th<|rg<|qm o rfl fun a o=>qa o rfl fun a o=>re<|tn<|th<|?_
 obtain ⟨xz7,h8,hm⟩:=bs hm
 obtain ⟨cz9,g10,hl11⟩:=SR.get hr5 h8
 obtain ⟨oa12,cap13,oa16,cap17,rfl,hc14,hr15,hc18,hr19⟩:=api_Thread_open g10
 obtain ⟨r20,h21,hm⟩:=bs hm
 refine rg<|qm o rfl fun a o=>?_
 iterate 2 refine qm o rfl fun a o=>?_
 refine qv o (e_iaI o runUnderlying24 sizeOf48 rfl rfl h8 (SR.oaI hr5 (by decide) h8)) fun a o=>qv o (e_ldA o isAgg48 sizeOf48 rfl rfl (fun j v hj=>PH.le.cell (Lds.le (St.ld u)) (hl11 j v hj))) fun a o=>ls<|k1 (vs:=[.agg #[strv xz7.Name,.slice oa12 xz7.Regs.length cap13,.slice oa16 xz7.Body.length cap17,i6 xz7.At]]) (caps:=[]) o rfl rfl call81 (Z6t_c (hp_le _) (Tab.mono hT (St.up u)) (Enc.mono (St.up u) (show Enc.rep (α:=api_Thread) H [strv xz7.Name,.slice oa12 xz7.Regs.length cap13,.slice oa16 xz7.Body.length cap17,i6 xz7.At] xz7 from ⟨_,_,rfl,rfl,⟨_,_,rfl,⟨_,_,rfl,hc14,hr15⟩,⟨_,_,rfl,⟨_,_,rfl,hc18,hr19⟩,rfl⟩⟩⟩)) h21) ⟨rfl,trivial⟩ rfl (fun v w a hR o=>?_)
 obtain ⟨rfl,hk⟩:=hR
 replace u:=u.pass hk
 refine re<|?_
 rcases bdich r20 with hb22 | hb22
 replace hm:=ite_t hm hb22
 refine tn<|ctv o rfl hb22<|th<|rg<|qm o rfl fun a o=>qa o rfl fun a o=>re<|tn<|wr<|br<|tr<|tr<|br<|tr<|?_
 obtain rfl:=si hm
 exact r1 o results130 rfl ⟨rfl,u.keep⟩
 replace hm:=ite_f hm hb22
 refine tn<|cfv o rfl hb22<|wk<|bn<|tn<|rg<|qv o (e_add o rfl rfl) fun a o=>qm o rfl fun a o=>re<|tn<|?_
 exact ⟨(nn2,(IntKind.i64.wrap (vB1+1))),⟨hm,o.hs,u⟩,Nat.lt_succ_self _⟩
 replace hm:=itp_f hm hb6
 refine tn<|th<|cfv o rfl hb6<|we<|tx<|tx<|bx<|tn<|?_
 exact ⟨hm,o.has trivial,u⟩
 rintro a w ⟨hm,o,u⟩
 unfold Z8e at hm
 refine th<|rg<|qa o rfl fun a o=>re<|tn<|wr<|?_
 obtain rfl:=si hm
 exact r1 o results130 rfl ⟨rfl,u.keep⟩
theorem Z7q_c (hH:H.le w0) (hT:Tab H) {oa2:Option Addr} {cap3:Nat} {p1:(List api_Thread)} (hc4:p1.length≤cap3) (hr5:SR H oa2 p1) {r:Bool} (hm:Z7q N p1=some r):Tot Tryz.prog 89 #[.slice oa2 p1.length cap3,.func (.func 81) #[] #[]] w0 (fun v w'=>v=.bool r∧Keep Nil w0 w'):=by
 unfold Z7q at hm
 refine fn0 func89 rfl ntmps89 rfl rfl fun a o=>?_
 have u:St w0 Nil [H] [] w0:=start1 hH
 refine th<|rg<|qa o rfl fun a o=>re<|tn<|th<|?_
 obtain ⟨rz6,h7,hm⟩:=bs hm
 refine rg<|qm o rfl fun a o=>qm o rfl fun a o=>ls<|cq o call130 (Z8d_c (hp_le _) (Tab.mono hT (St.up u)) hc4 (St.srH u hr5) h7) ⟨rfl,rfl,trivial⟩ u fun w a u o=>qv o (e_geq o rfl rfl) fun a o=>qa o rfl fun a o=>re<|tn<|wr<|?_
 obtain rfl:=si hm
 exact r1 o results89 rfl ⟨rfl,u.keep⟩
theorem Z6u_c (hH:H.le w0) (hT:Tab H) {cs2:List Value} {p1:api_Thread} (g3:Enc.rep H cs2 p1) {r:Bool} (hm:Z6u N p1=some r):Tot Tryz.prog 84 #[.agg cs2.toArray] w0 (fun v w'=>v=.bool r∧Keep Nil w0 w'):=by
 unfold Z6u at hm
 refine fn0 func84 rfl ntmps84 rfl rfl fun a o=>?_
 have u:St w0 Nil [H] [] w0:=start1 hH
 obtain ⟨oa4,cap5,oa8,cap9,rfl,hc6,hr7,hc10,hr11⟩:=api_Thread_open g3
 refine th<|rg<|ls<|a_box (cs:=[strv p1.Name,.slice oa4 p1.Regs.length cap5,.slice oa8 p1.Body.length cap9,i6 p1.At].toArray) o rfl u rfl rfl fun b12 w a u o=>qa o rfl fun a o=>re<|tn<|th<|?_
 rcases bdich (decide (p1.Name≠[])) with hb13 | hb13
 replace hm:=itp_t hm hb13
 refine rg<|qv o (e_fa o fa48_0 rfl) fun a o=>qv o (e_ld o isAgg9 rfl ((St.ld u).cellB t0 rfl)) fun a o=>qv o (e_neqU (m:=p1.Name) (n:=[]) o rfl rfl) fun a o=>qv o (e_as (e_move o rfl) (congrArg Value.bool hb13)) fun a o=>?_
 iterate 3 refine qn o fun a o=>?_
 refine qv o (e_pickT o rfl rfl) fun a o=>qa o rfl fun a o=>re<|tn<|wr<|?_
 obtain rfl:=si hm
 exact r1 o results84 rfl ⟨rfl,u.keep⟩
 replace hm:=itp_f hm hb13
 obtain ⟨r14,h15,hm⟩:=bs hm
 refine rg<|qv o (e_fa o fa48_0 rfl) fun a o=>qv o (e_ld o isAgg9 rfl ((St.ld u).cellB t0 rfl)) fun a o=>qv o (e_neqU (m:=p1.Name) (n:=[]) o rfl rfl) fun a o=>qv o (e_as (e_move o rfl) (congrArg Value.bool hb13)) fun a o=>qg o (e_ldA o isAgg48 sizeOf48 rfl rfl ((St.ld u).cellsB t0)) fun a o=>ls<|gy o rfl rfl<|cq o call83 (Z70_c (hp_le _) (Tab.mono hT (St.up u)) (Enc.mono (St.up u) (show Enc.rep (α:=api_Thread) H [strv p1.Name,.slice oa4 p1.Regs.length cap5,.slice oa8 p1.Body.length cap9,i6 p1.At] p1 from ⟨_,_,rfl,rfl,⟨_,_,rfl,⟨_,_,rfl,hc6,hr7⟩,⟨_,_,rfl,⟨_,_,rfl,hc10,hr11⟩,rfl⟩⟩⟩)) h15) ⟨rfl,trivial⟩ u fun w a u o=>qg o (e_not o rfl) fun a o=>qv o (e_pickF o rfl rfl) fun a o=>qa o rfl fun a o=>re<|tn<|wr<|?_
 obtain rfl:=si hm
 exact r1 o results84 rfl ⟨rfl,u.keep⟩
theorem Z8g_c (hH:H.le w0) (hT:Tab H) {oa2:Option Addr} {cap3:Nat} {p1:(List api_Thread)} (_:p1.length≤cap3) (hr5:SR H oa2 p1) {r:Int} (hm:Z8g N p1=some r):Tot Tryz.prog 130 #[.slice oa2 p1.length cap3,.func (.func 84) #[] #[]] w0 (fun v w'=>v=i6 r∧Keep Nil w0 w'):=by
 unfold Z8g at hm
 refine fn0 func130 rfl ntmps130 rfl rfl fun a o=>?_
 have u:St w0 Nil [H] [] w0:=start1 hH
 refine th<|rg<|qa o rfl fun a o=>re<|tn<|th<|th<|rg<|qm o rfl fun a o=>qv o (e_lenL (α:=api_Thread) (xs:=p1) o runUnderlying24 rfl) fun a o=>qm o rfl fun a o=>re<|tn<|midK (fun a w=>Z8h=some r∧Fr 19 [] a∧St w0 Nil [H] [] w) ?_ ?_
 refine wb<|lp (α:=Nat×Int) (fun gh a w=>match gh with | (nn2,vB1)=>(Z8i N Z8h p1) nn2 vB1=some r∧Fr 19 [(0,.slice oa2 p1.length cap3),(1,.func (.func 84) #[] #[]),(7,i6 (p1.length:Int)),(8,i6 vB1)] a∧St w0 Nil [H] [] w) (fun gh=>gh.1) (N,0) ⟨hm,o.hs,u⟩ ?_
 rintro ⟨nn2,vB1⟩ a w ⟨hm,o,u⟩
 obtain _ | nn2:=nn2
 simp [Z8i] at hm
 rw [Z8i] at hm
 refine th<|rg<|qv o (e_lss o rfl rfl) fun a o=>re<|?_
 rcases bdich (decide (vB1 < (p1.length:Int))) with hb6 | hb6
 replace hm:=itp_t hm hb6
 refine tn<|th<|ctv o rfl hb6<|wk<|tn<|th<|wb<|th<|rg<|qm o rfl fun a o=>qa o rfl fun a o=>re<|tn<|th<|?_
 obtain ⟨xz7,h8,hm⟩:=bs hm
 obtain ⟨cz9,g10,hl11⟩:=SR.get hr5 h8
 obtain ⟨oa12,cap13,oa16,cap17,rfl,hc14,hr15,hc18,hr19⟩:=api_Thread_open g10
 obtain ⟨r20,h21,hm⟩:=bs hm
 refine rg<|qm o rfl fun a o=>?_
 iterate 2 refine qm o rfl fun a o=>?_
 refine qv o (e_iaI o runUnderlying24 sizeOf48 rfl rfl h8 (SR.oaI hr5 (by decide) h8)) fun a o=>qv o (e_ldA o isAgg48 sizeOf48 rfl rfl (fun j v hj=>PH.le.cell (Lds.le (St.ld u)) (hl11 j v hj))) fun a o=>ls<|k1 (vs:=[.agg #[strv xz7.Name,.slice oa12 xz7.Regs.length cap13,.slice oa16 xz7.Body.length cap17,i6 xz7.At]]) (caps:=[]) o rfl rfl call84 (Z6u_c (hp_le _) (Tab.mono hT (St.up u)) (Enc.mono (St.up u) (show Enc.rep (α:=api_Thread) H [strv xz7.Name,.slice oa12 xz7.Regs.length cap13,.slice oa16 xz7.Body.length cap17,i6 xz7.At] xz7 from ⟨_,_,rfl,rfl,⟨_,_,rfl,⟨_,_,rfl,hc14,hr15⟩,⟨_,_,rfl,⟨_,_,rfl,hc18,hr19⟩,rfl⟩⟩⟩)) h21) ⟨rfl,trivial⟩ rfl (fun v w a hR o=>?_)
 obtain ⟨rfl,hk⟩:=hR
 replace u:=u.pass hk
 refine re<|?_
 rcases bdich r20 with hb22 | hb22
 replace hm:=ite_t hm hb22
 refine tn<|ctv o rfl hb22<|th<|rg<|qm o rfl fun a o=>qa o rfl fun a o=>re<|tn<|wr<|br<|tr<|tr<|br<|tr<|?_
 obtain rfl:=si hm
 exact r1 o results130 rfl ⟨rfl,u.keep⟩
 replace hm:=ite_f hm hb22
 refine tn<|cfv o rfl hb22<|wk<|bn<|tn<|rg<|qv o (e_add o rfl rfl) fun a o=>qm o rfl fun a o=>re<|tn<|?_
 exact ⟨(nn2,(IntKind.i64.wrap (vB1+1))),⟨hm,o.hs,u⟩,Nat.lt_succ_self _⟩
 replace hm:=itp_f hm hb6
 refine tn<|th<|cfv o rfl hb6<|we<|tx<|tx<|bx<|tn<|?_
 exact ⟨hm,o.has trivial,u⟩
 rintro a w ⟨hm,o,u⟩
 unfold Z8h at hm
 refine th<|rg<|qa o rfl fun a o=>re<|tn<|wr<|?_
 obtain rfl:=si hm
 exact r1 o results130 rfl ⟨rfl,u.keep⟩
theorem Z7r_c (hH:H.le w0) (hT:Tab H) {oa2:Option Addr} {cap3:Nat} {p1:(List api_Thread)} (hc4:p1.length≤cap3) (hr5:SR H oa2 p1) {r:Bool} (hm:Z7r N p1=some r):Tot Tryz.prog 89 #[.slice oa2 p1.length cap3,.func (.func 84) #[] #[]] w0 (fun v w'=>v=.bool r∧Keep Nil w0 w'):=by
 unfold Z7r at hm
 refine fn0 func89 rfl ntmps89 rfl rfl fun a o=>?_
 have u:St w0 Nil [H] [] w0:=start1 hH
 refine th<|rg<|qa o rfl fun a o=>re<|tn<|th<|?_
 obtain ⟨rz6,h7,hm⟩:=bs hm
 refine rg<|qm o rfl fun a o=>qm o rfl fun a o=>ls<|cq o call130 (Z8g_c (hp_le _) (Tab.mono hT (St.up u)) hc4 (St.srH u hr5) h7) ⟨rfl,rfl,trivial⟩ u fun w a u o=>qv o (e_geq o rfl rfl) fun a o=>qa o rfl fun a o=>re<|tn<|wr<|?_
 obtain rfl:=si hm
 exact r1 o results89 rfl ⟨rfl,u.keep⟩
theorem Z6v_c (hH:H.le w0) (hT:Tab H) {cs2:List Value} {p1:api_Claim} (g3:Enc.rep H cs2 p1) {r:Bool} (hm:Z6v N p1=some r):Tot Tryz.prog 85 #[.agg cs2.toArray] w0 (fun v w'=>v=.bool r∧Keep Nil w0 w'):=by
 unfold Z6v at hm
 refine fn0 func85 rfl ntmps85 rfl rfl fun a o=>?_
 have u:St w0 Nil [H] [] w0:=start1 hH
 obtain ⟨oa4,cap5,rfl,hc6,hr7⟩:=api_Claim_open g3
 refine th<|rg<|ls<|a_box (cs:=[.slice oa4 p1.E.length cap5,i6 p1.At].toArray) o rfl u rfl rfl fun b8 w a u o=>qa o rfl fun a o=>re<|tn<|th<|?_
 obtain ⟨rz9,h10,hm⟩:=bs hm
 rcases bdich rz9 with hb11 | hb11
 replace hm:=ite_t hm hb11
 have hb11':(!rz9)=false:=by rw [hb11];rfl
 obtain ⟨r12,h13,hm⟩:=bs hm
 refine rg<|qv o (e_fa o fa74_1 rfl) fun a o=>qv o (e_ld o isAgg3 rfl ((St.ld u).cellB t0 rfl)) fun a o=>ls<|cq o call86 (Z6z_c (hp_le _) h10) ⟨rfl,trivial⟩ u fun w a u o=>qv o (e_not o rfl) fun a o=>qv o (e_as (e_move o rfl) (congrArg Value.bool hb11')) fun a o=>qg o (e_fa o fa74_0 rfl) fun a o=>qg o (e_ld o isAgg49 rfl ((St.ld u).cellB t0 rfl)) fun a o=>ls<|gy o rfl rfl<|cq o call87 (Zq_c (hp_le _) (Tab.mono hT (St.up u)) hc6 (St.srH u hr7) h13) ⟨rfl,trivial⟩ u fun w a u o=>qg o (e_not o rfl) fun a o=>qv o (e_pickF o rfl rfl) fun a o=>qa o rfl fun a o=>re<|tn<|wr<|?_
 obtain rfl:=si hm
 exact r1 o results85 rfl ⟨rfl,u.keep⟩
 replace hm:=ite_f hm hb11
 have hb11':(!rz9)=true:=by rw [hb11];rfl
 refine rg<|qv o (e_fa o fa74_1 rfl) fun a o=>qv o (e_ld o isAgg3 rfl ((St.ld u).cellB t0 rfl)) fun a o=>ls<|cq o call86 (Z6z_c (hp_le _) h10) ⟨rfl,trivial⟩ u fun w a u o=>qv o (e_not o rfl) fun a o=>qv o (e_as (e_move o rfl) (congrArg Value.bool hb11')) fun a o=>?_
 iterate 4 refine qn o fun a o=>?_
 refine qv o (e_pickT o rfl rfl) fun a o=>qa o rfl fun a o=>re<|tn<|wr<|?_
 obtain rfl:=si hm
 exact r1 o results85 rfl ⟨rfl,u.keep⟩
theorem Z84_c (hH:H.le w0) (hT:Tab H) {oa2:Option Addr} {cap3:Nat} {p1:(List api_Claim)} (_:p1.length≤cap3) (hr5:SR H oa2 p1) {r:Int} (hm:Z84 N p1=some r):Tot Tryz.prog 131 #[.slice oa2 p1.length cap3,.func (.func 85) #[] #[]] w0 (fun v w'=>v=i6 r∧Keep Nil w0 w'):=by
 unfold Z84 at hm
 refine fn0 func131 rfl ntmps131 rfl rfl fun a o=>?_
 have u:St w0 Nil [H] [] w0:=start1 hH
 refine th<|rg<|qa o rfl fun a o=>re<|tn<|th<|th<|rg<|qm o rfl fun a o=>qv o (e_lenL (α:=api_Claim) (xs:=p1) o runUnderlying25 rfl) fun a o=>qm o rfl fun a o=>re<|tn<|midK (fun a w=>Z85=some r∧Fr 19 [] a∧St w0 Nil [H] [] w) ?_ ?_
 refine wb<|lp (α:=Nat×Int) (fun gh a w=>match gh with | (nn2,vB1)=>(Z86 N Z85 p1) nn2 vB1=some r∧Fr 19 [(0,.slice oa2 p1.length cap3),(1,.func (.func 85) #[] #[]),(7,i6 (p1.length:Int)),(8,i6 vB1)] a∧St w0 Nil [H] [] w) (fun gh=>gh.1) (N,0) ⟨hm,o.hs,u⟩ ?_
 rintro ⟨nn2,vB1⟩ a w ⟨hm,o,u⟩
 obtain _ | nn2:=nn2
 simp [Z86] at hm
 rw [Z86] at hm
 refine th<|rg<|qv o (e_lss o rfl rfl) fun a o=>re<|?_
 rcases bdich (decide (vB1 < (p1.length:Int))) with hb6 | hb6
 replace hm:=itp_t hm hb6
 refine tn<|th<|ctv o rfl hb6<|wk<|tn<|th<|wb<|th<|rg<|qm o rfl fun a o=>qa o rfl fun a o=>re<|tn<|th<|?_
 obtain ⟨xz7,h8,hm⟩:=bs hm
 obtain ⟨cz9,g10,hl11⟩:=SR.get hr5 h8
 obtain ⟨oa12,cap13,rfl,hc14,hr15⟩:=api_Claim_open g10
 obtain ⟨r16,h17,hm⟩:=bs hm
 refine rg<|qm o rfl fun a o=>?_
 iterate 2 refine qm o rfl fun a o=>?_
 refine qv o (e_iaI o runUnderlying25 sizeOf74 rfl rfl h8 (SR.oaI hr5 (by decide) h8)) fun a o=>qv o (e_ldA o isAgg74 sizeOf74 rfl rfl (fun j v hj=>PH.le.cell (Lds.le (St.ld u)) (hl11 j v hj))) fun a o=>ls<|k1 (vs:=[.agg #[.slice oa12 xz7.E.length cap13,i6 xz7.At]]) (caps:=[]) o rfl rfl call85 (Z6v_c (hp_le _) (Tab.mono hT (St.up u)) (Enc.mono (St.up u) (show Enc.rep (α:=api_Claim) H [.slice oa12 xz7.E.length cap13,i6 xz7.At] xz7 from ⟨_,_,rfl,⟨_,_,rfl,hc14,hr15⟩,rfl⟩)) h17) ⟨rfl,trivial⟩ rfl (fun v w a hR o=>?_)
 obtain ⟨rfl,hk⟩:=hR
 replace u:=u.pass hk
 refine re<|?_
 rcases bdich r16 with hb18 | hb18
 replace hm:=ite_t hm hb18
 refine tn<|ctv o rfl hb18<|th<|rg<|qm o rfl fun a o=>qa o rfl fun a o=>re<|tn<|wr<|br<|tr<|tr<|br<|tr<|?_
 obtain rfl:=si hm
 exact r1 o results131 rfl ⟨rfl,u.keep⟩
 replace hm:=ite_f hm hb18
 refine tn<|cfv o rfl hb18<|wk<|bn<|tn<|rg<|qv o (e_add o rfl rfl) fun a o=>qm o rfl fun a o=>re<|tn<|?_
 exact ⟨(nn2,(IntKind.i64.wrap (vB1+1))),⟨hm,o.hs,u⟩,Nat.lt_succ_self _⟩
 replace hm:=itp_f hm hb6
 refine tn<|th<|cfv o rfl hb6<|we<|tx<|tx<|bx<|tn<|?_
 exact ⟨hm,o.has trivial,u⟩
 rintro a w ⟨hm,o,u⟩
 unfold Z85 at hm
 refine th<|rg<|qa o rfl fun a o=>re<|tn<|wr<|?_
 obtain rfl:=si hm
 exact r1 o results131 rfl ⟨rfl,u.keep⟩
theorem Z7n_c (hH:H.le w0) (hT:Tab H) {oa2:Option Addr} {cap3:Nat} {p1:(List api_Claim)} (hc4:p1.length≤cap3) (hr5:SR H oa2 p1) {r:Bool} (hm:Z7n N p1=some r):Tot Tryz.prog 90 #[.slice oa2 p1.length cap3,.func (.func 85) #[] #[]] w0 (fun v w'=>v=.bool r∧Keep Nil w0 w'):=by
 unfold Z7n at hm
 refine fn0 func90 rfl ntmps90 rfl rfl fun a o=>?_
 have u:St w0 Nil [H] [] w0:=start1 hH
 refine th<|rg<|qa o rfl fun a o=>re<|tn<|th<|?_
 obtain ⟨rz6,h7,hm⟩:=bs hm
 refine rg<|qm o rfl fun a o=>qm o rfl fun a o=>ls<|cq o call131 (Z84_c (hp_le _) (Tab.mono hT (St.up u)) hc4 (St.srH u hr5) h7) ⟨rfl,rfl,trivial⟩ u fun w a u o=>qv o (e_geq o rfl rfl) fun a o=>qa o rfl fun a o=>re<|tn<|wr<|?_
 obtain rfl:=si hm
 exact r1 o results90 rfl ⟨rfl,u.keep⟩
theorem Z6r_c (hH:H.le w0) (hT:Tab H) {cs2:List Value} {p1:api_Prog} (g3:Enc.rep H cs2 p1) {r:Bool} (hm:Z6r N p1=some r):Tot Tryz.prog 50 #[.agg cs2.toArray] w0 (fun v w'=>v=.bool r∧Keep Nil w0 w'):=by
 unfold Z6r at hm
 refine fn0 func50 rfl ntmps50 rfl rfl fun a o=>?_
 have u:St w0 Nil [H] [] w0:=start1 hH
 obtain ⟨oa4,cap5,oa8,cap9,oa12,cap13,oa16,cap17,oa20,cap21,oa24,cap25,rfl,hc6,hr7,hc10,hr11,hc14,hr15,hc18,hr19,hc22,hr23,hc26,hr27⟩:=api_Prog_open g3
 refine th<|rg<|ls<|a_box (cs:=[.slice oa4 p1.Lines.length cap5,.slice oa8 p1.Vols.length cap9,.slice oa12 p1.Locks.length cap13,.slice oa16 p1.Threads.length cap17,.slice oa20 p1.Recover.length cap21,.slice oa24 p1.Claims.length cap25].toArray) o rfl u rfl rfl fun b28 w a u o=>qa o rfl fun a o=>?_
 iterate 4 refine re<|tn<|th<|rg<|qa o rfl fun a o=>?_
 refine re<|tn<|th<|wb<|th<|th<|?_
 obtain ⟨r29,h30,hm⟩:=bs hm
 refine rg<|qv o (e_fa o fa27_0 rfl) fun a o=>qv o (e_ld o isAgg22 rfl ((St.ld u).cellB t0 rfl)) fun a o=>qm o rfl fun a o=>ls<|cq o call88 (Z7k_c (hp_le _) (Tab.mono hT (St.up u)) hc6 (St.srH u hr7) h30) ⟨rfl,rfl,trivial⟩ u fun w a u o=>qa o rfl fun a o=>re<|tn<|midK (fun a w=>∃ (vA1:Bool),(Z6w N p1) vA1=some r∧Fr 43 [(1,.pointer (some ⟨b28,0,none⟩)),(4,.func (.func 81) #[] #[]),(5,.func (.func 84) #[] #[]),(6,.func (.func 85) #[] #[]),(7,.bool vA1)] a∧St w0 Nil [H] [blk b28 (.cells [.slice oa4 p1.Lines.length cap5,.slice oa8 p1.Vols.length cap9,.slice oa12 p1.Locks.length cap13,.slice oa16 p1.Threads.length cap17,.slice oa20 p1.Recover.length cap21,.slice oa24 p1.Claims.length cap25].toArray 27 (0,0))] w) ?_ ?_
 rcases bdich r29 with hb31 | hb31
 replace hm:=ite_t hm hb31
 refine ctv o rfl hb31<|wk<|tn<|?_
 exact ⟨r29,hm,o.hs,u⟩
 replace hm:=ite_f hm hb31
 refine cfv o rfl hb31<|th<|?_
 obtain ⟨r32,h33,hm⟩:=bs hm
 refine rg<|qv o (e_fa o fa27_1 rfl) fun a o=>qv o (e_ld o isAgg23 rfl ((St.ld u).cellB t0 rfl)) fun a o=>ls<|cq o call80 (Z6x_c (hp_le _) (Tab.mono hT (St.up u)) hc10 (St.srH u hr11) h33) ⟨rfl,rfl,trivial⟩ u fun w a u o=>qv o (e_not o rfl) fun a o=>qa o rfl fun a o=>re<|?_
 rcases bdich r32 with hb34 | hb34
 replace hm:=ite_t hm hb34
 refine tn<|cfv o rfl (by rw [hb34];rfl)<|th<|?_
 obtain ⟨r35,h36,hm⟩:=bs hm
 refine rg<|qv o (e_fa o fa27_2 rfl) fun a o=>qv o (e_ld o isAgg23 rfl ((St.ld u).cellB t0 rfl)) fun a o=>ls<|cq o call80 (Z6x_c (hp_le _) (Tab.mono hT (St.up u)) hc14 (St.srH u hr15) h36) ⟨rfl,rfl,trivial⟩ u fun w a u o=>qv o (e_not o rfl) fun a o=>qa o rfl fun a o=>re<|?_
 rcases bdich r35 with hb37 | hb37
 replace hm:=ite_t hm hb37
 refine tn<|cfv o rfl (by rw [hb37];rfl)<|rg<|qv o (e_fa o fa27_4 rfl) fun a o=>qv o (e_ld o isAgg24 rfl ((St.ld u).cellB t0 rfl)) fun a o=>qv o (e_lenL (α:=api_Thread) (xs:=p1.Recover) o runUnderlying24 rfl) fun a o=>qv o (e_gtr o rfl rfl) fun a o=>qa o rfl fun a o=>re<|tn<|?_
 exact ⟨(decide (1 < (p1.Recover.length:Int))),hm,o.hs,u⟩
 replace hm:=ite_f hm hb37
 refine tn<|ctv o rfl (by rw [hb37];rfl)<|wk<|tn<|?_
 exact ⟨(!r35),hm,o.hs,u⟩
 replace hm:=ite_f hm hb34
 refine tn<|ctv o rfl (by rw [hb34];rfl)<|wk<|tn<|?_
 exact ⟨(!r32),hm,o.hs,u⟩
 rintro a w ⟨vA1,hm,o,u⟩
 unfold Z6w at hm
 rcases bdich vA1 with hb38 | hb38
 replace hm:=ite_t hm hb38
 refine ctv o rfl hb38<|th<|rg<|qa o rfl fun a o=>re<|tn<|wr<|br<|tr<|?_
 obtain rfl:=si hm
 exact r1 o results50 rfl ⟨rfl,u.keep⟩
 replace hm:=ite_f hm hb38
 refine cfv o rfl hb38<|wk<|bn<|tn<|th<|?_
 obtain ⟨r39,h40,hm⟩:=bs hm
 rcases bdich r39 with hb41 | hb41
 replace hm:=ite_t hm hb41
 have hb41':(!r39)=false:=by rw [hb41];rfl
 refine rg<|qv o (e_fa o fa27_3 rfl) fun a o=>qv o (e_ld o isAgg24 rfl ((St.ld u).cellB t0 rfl)) fun a o=>qm o rfl fun a o=>ls<|cq o call89 (Z7q_c (hp_le _) (Tab.mono hT (St.up u)) hc18 (St.srH u hr19) h40) ⟨rfl,rfl,trivial⟩ u fun w a u o=>qv o (e_not o rfl) fun a o=>qv o (e_as (e_move o rfl) (congrArg Value.bool hb41')) fun a o=>?_
 iterate 5 refine qn o fun a o=>?_
 refine qv o (e_pickF o rfl rfl) fun a o=>qm o rfl fun a o=>?_
 iterate 5 refine qn o fun a o=>?_
 refine qv o (e_pickF o rfl rfl) fun a o=>qa o rfl fun a o=>re<|tn<|wr<|?_
 obtain rfl:=si hm
 exact r1 o results50 rfl ⟨rfl,u.keep⟩
 replace hm:=ite_f hm hb41
 have hb41':(!r39)=true:=by rw [hb41];rfl
 obtain ⟨r42,h43,hm⟩:=bs hm
 rcases bdich r42 with hb44 | hb44
 replace hm:=ite_t hm hb44
 have hb44':(!r42)=false:=by rw [hb44];rfl
 refine rg<|qv o (e_fa o fa27_3 rfl) fun a o=>qv o (e_ld o isAgg24 rfl ((St.ld u).cellB t0 rfl)) fun a o=>qm o rfl fun a o=>ls<|cq o call89 (Z7q_c (hp_le _) (Tab.mono hT (St.up u)) hc18 (St.srH u hr19) h40) ⟨rfl,rfl,trivial⟩ u fun w a u o=>qv o (e_not o rfl) fun a o=>qv o (e_as (e_move o rfl) (congrArg Value.bool hb41')) fun a o=>qg o (e_fa o fa27_4 rfl) fun a o=>qg o (e_ld o isAgg24 rfl ((St.ld u).cellB t0 rfl)) fun a o=>qg o (e_move o rfl) fun a o=>ls<|gy o rfl rfl<|cq o call89 (Z7r_c (hp_le _) (Tab.mono hT (St.up u)) hc22 (St.srH u hr23) h43) ⟨rfl,rfl,trivial⟩ u fun w a u o=>qg o (e_not o rfl) fun a o=>qv o (e_pickT o rfl rfl) fun a o=>qv o (e_as (e_move o rfl) (congrArg Value.bool hb44')) fun a o=>?_
 iterate 5 refine qn o fun a o=>?_
 refine qv o (e_pickF o rfl rfl) fun a o=>qa o rfl fun a o=>re<|tn<|wr<|?_
 obtain rfl:=si hm
 exact r1 o results50 rfl ⟨rfl,u.keep⟩
 replace hm:=ite_f hm hb44
 have hb44':(!r42)=true:=by rw [hb44];rfl
 obtain ⟨r45,h46,hm⟩:=bs hm
 refine rg<|qv o (e_fa o fa27_3 rfl) fun a o=>qv o (e_ld o isAgg24 rfl ((St.ld u).cellB t0 rfl)) fun a o=>qm o rfl fun a o=>ls<|cq o call89 (Z7q_c (hp_le _) (Tab.mono hT (St.up u)) hc18 (St.srH u hr19) h40) ⟨rfl,rfl,trivial⟩ u fun w a u o=>qv o (e_not o rfl) fun a o=>qv o (e_as (e_move o rfl) (congrArg Value.bool hb41')) fun a o=>qg o (e_fa o fa27_4 rfl) fun a o=>qg o (e_ld o isAgg24 rfl ((St.ld u).cellB t0 rfl)) fun a o=>qg o (e_move o rfl) fun a o=>ls<|gy o rfl rfl<|cq o call89 (Z7r_c (hp_le _) (Tab.mono hT (St.up u)) hc22 (St.srH u hr23) h43) ⟨rfl,rfl,trivial⟩ u fun w a u o=>qg o (e_not o rfl) fun a o=>qv o (e_pickT o rfl rfl) fun a o=>qv o (e_as (e_move o rfl) (congrArg Value.bool hb44')) fun a o=>qg o (e_fa o fa27_5 rfl) fun a o=>qg o (e_ld o isAgg25 rfl ((St.ld u).cellB t0 rfl)) fun a o=>qg o (e_move o rfl) fun a o=>ls<|gy o rfl rfl<|cq o call90 (Z7n_c (hp_le _) (Tab.mono hT (St.up u)) hc26 (St.srH u hr27) h46) ⟨rfl,rfl,trivial⟩ u fun w a u o=>qg o (e_not o rfl) fun a o=>qv o (e_pickT o rfl rfl) fun a o=>qa o rfl fun a o=>re<|tn<|wr<|?_
 obtain rfl:=si hm
 exact r1 o results50 rfl ⟨rfl,u.keep⟩
theorem Z5v_c (hH:H.le w0) {oa2:Option Addr} {cap3:Nat} {p1:(List api_Cell)} (_:p1.length≤cap3) (_:SR H oa2 p1) {r:Bool} (hm:Z5v N p1=some r):Tot Tryz.prog 91 #[.slice oa2 p1.length cap3] w0 (fun v w'=>v=.bool r∧Keep Nil w0 w'):=by
 unfold Z5v at hm
 refine fn0 func91 rfl ntmps91 rfl rfl fun a o=>?_
 have u:St w0 Nil [H] [] w0:=start1 hH
 refine th<|rg<|qa o rfl fun a o=>re<|tn<|th<|rg<|qm o rfl fun a o=>qv o (e_lenL (α:=api_Cell) (xs:=p1) o runUnderlying23 rfl) fun a o=>qv o (e_gtr o rfl rfl) fun a o=>qa o rfl fun a o=>re<|tn<|wr<|?_
 obtain rfl:=si hm
 exact r1 o results91 rfl ⟨rfl,u.keep⟩
theorem Z7y_c (hH:H.le w0) {oa2:Option Addr} {cap3:Nat} {p1:(List (List api_Cell))} (_:p1.length≤cap3) (hr5:SR H oa2 p1) {r:Int} (hm:Z7y N p1=some r):Tot Tryz.prog 129 #[.slice oa2 p1.length cap3,.func (.func 91) #[] #[]] w0 (fun v w'=>v=i6 r∧Keep Nil w0 w'):=by
 unfold Z7y at hm
 refine fn0 func129 rfl ntmps129 rfl rfl fun a o=>?_
 have u:St w0 Nil [H] [] w0:=start1 hH
 refine th<|rg<|qa o rfl fun a o=>re<|tn<|th<|th<|rg<|qm o rfl fun a o=>qv o (e_lenL (α:=(List api_Cell)) (xs:=p1) o runUnderlying22 rfl) fun a o=>qm o rfl fun a o=>re<|tn<|midK (fun a w=>Z7z=some r∧Fr 19 [] a∧St w0 Nil [H] [] w) ?_ ?_
 refine wb<|lp (α:=Nat×Int) (fun gh a w=>match gh with | (nn2,vB1)=>(Z80 N Z7z p1) nn2 vB1=some r∧Fr 19 [(0,.slice oa2 p1.length cap3),(1,.func (.func 91) #[] #[]),(7,i6 (p1.length:Int)),(8,i6 vB1)] a∧St w0 Nil [H] [] w) (fun gh=>gh.1) (N,0) ⟨hm,o.hs,u⟩ ?_
 rintro ⟨nn2,vB1⟩ a w ⟨hm,o,u⟩
 obtain _ | nn2:=nn2
 simp [Z80] at hm
 rw [Z80] at hm
 refine th<|rg<|qv o (e_lss o rfl rfl) fun a o=>re<|?_
 rcases bdich (decide (vB1 < (p1.length:Int))) with hb6 | hb6
 replace hm:=itp_t hm hb6
 refine tn<|th<|ctv o rfl hb6<|wk<|tn<|th<|wb<|th<|rg<|qm o rfl fun a o=>qa o rfl fun a o=>re<|tn<|th<|?_
 obtain ⟨xz7,h8,hm⟩:=bs hm
 obtain ⟨cz9,g10,hl11⟩:=SR.get hr5 h8
 obtain ⟨oa12,cap13,rfl,hc14,hr15⟩:=g10
 obtain ⟨r16,h17,hm⟩:=bs hm
 refine rg<|qm o rfl fun a o=>?_
 iterate 2 refine qm o rfl fun a o=>?_
 refine qv o (e_iaI o runUnderlying22 sizeOf23 rfl rfl h8 (SR.oaI hr5 (by decide) h8)) fun a o=>qv o (e_ld o isAgg23 rfl (PH.le.cell (Lds.le (St.ld u)) (hl11 0 _ rfl))) fun a o=>ls<|k1 (vs:=[.slice oa12 xz7.length cap13]) (caps:=[]) o rfl rfl call91 (Z5v_c (hp_le _) hc14 (St.srH u hr15) h17) ⟨rfl,trivial⟩ rfl (fun v w a hR o=>?_)
 obtain ⟨rfl,hk⟩:=hR
 replace u:=u.pass hk
 refine re<|?_
 rcases bdich r16 with hb18 | hb18
 replace hm:=ite_t hm hb18
 refine tn<|ctv o rfl hb18<|th<|rg<|qm o rfl fun a o=>qa o rfl fun a o=>re<|tn<|wr<|br<|tr<|tr<|br<|tr<|?_
 obtain rfl:=si hm
 exact r1 o results129 rfl ⟨rfl,u.keep⟩
 replace hm:=ite_f hm hb18
 refine tn<|cfv o rfl hb18<|wk<|bn<|tn<|rg<|qv o (e_add o rfl rfl) fun a o=>qm o rfl fun a o=>re<|tn<|?_
 exact ⟨(nn2,(IntKind.i64.wrap (vB1+1))),⟨hm,o.hs,u⟩,Nat.lt_succ_self _⟩
 replace hm:=itp_f hm hb6
 refine tn<|th<|cfv o rfl hb6<|we<|tx<|tx<|bx<|tn<|?_
 exact ⟨hm,o.has trivial,u⟩
 rintro a w ⟨hm,o,u⟩
 unfold Z7z at hm
 refine th<|rg<|qa o rfl fun a o=>re<|tn<|wr<|?_
 obtain rfl:=si hm
 exact r1 o results129 rfl ⟨rfl,u.keep⟩
theorem Z7l_c (hH:H.le w0) {oa2:Option Addr} {cap3:Nat} {p1:(List (List api_Cell))} (hc4:p1.length≤cap3) (hr5:SR H oa2 p1) {r:Bool} (hm:Z7l N p1=some r):Tot Tryz.prog 88 #[.slice oa2 p1.length cap3,.func (.func 91) #[] #[]] w0 (fun v w'=>v=.bool r∧Keep Nil w0 w'):=by
 unfold Z7l at hm
 refine fn0 func88 rfl ntmps88 rfl rfl fun a o=>?_
 have u:St w0 Nil [H] [] w0:=start1 hH
 refine th<|rg<|qa o rfl fun a o=>re<|tn<|th<|?_
 obtain ⟨rz6,h7,hm⟩:=bs hm
 refine rg<|qm o rfl fun a o=>qm o rfl fun a o=>ls<|cq o call129 (Z7y_c (hp_le _) hc4 (St.srH u hr5) h7) ⟨rfl,rfl,trivial⟩ u fun w a u o=>qv o (e_geq o rfl rfl) fun a o=>qa o rfl fun a o=>re<|tn<|wr<|?_
 obtain rfl:=si hm
 exact r1 o results88 rfl ⟨rfl,u.keep⟩
theorem Z7f_c (hH:H.le w0) {oa2:Option Addr} {cap3:Nat} {p1:(List (List api_Thread))} (_:p1.length≤cap3) (hr5:SR H oa2 p1) {r:(List api_Thread)} (hm:Z7f N p1=some r):Tot Tryz.prog 93 #[.slice oa2 p1.length cap3] w0 (fun v w'=>∃ (H':PH) (oa0:Option Addr) (cap0:Nat),v=.slice oa0 r.length cap0∧r.length≤cap0∧SR H' oa0 r∧Ext w0 H H'∧H'.le w'∧Keep Nil w0 w'):=by
 unfold Z7f at hm
 refine fn0 func93 rfl ntmps93 rfl rfl fun a o=>?_
 have u:St w0 Nil [H] [] w0:=start1 hH
 refine th<|rg<|qa o rfl fun a o=>re<|tn<|th<|rg<|qa o rfl fun a o=>re<|tn<|th<|th<|rg<|qm o rfl fun a o=>qv o (e_lenL (α:=(List api_Thread)) (xs:=p1) o runUnderlying147 rfl) fun a o=>qm o rfl fun a o=>re<|tn<|midK (fun a w=>∃ (vA1:Int),(Z7g N p1) vA1=some r∧Fr 36 [(0,.slice oa2 p1.length cap3),(3,i6 vA1)] a∧St w0 Nil [H] [] w) ?_ ?_
 refine wb<|lp (α:=Nat×Int×Int) (fun gh a w=>match gh with | (nn2,vB1,vB2)=>(Z7i N (Z7g N p1) p1) nn2 vB1 vB2=some r∧Fr 36 [(0,.slice oa2 p1.length cap3),(3,i6 vB1),(9,.slice oa2 p1.length cap3),(10,i6 (p1.length:Int)),(11,i6 vB2)] a∧St w0 Nil [H] [] w) (fun gh=>gh.1) (N,0,0) ⟨hm,o.hs,u⟩ ?_
 rintro ⟨nn2,vB1,vB2⟩ a w ⟨hm,o,u⟩
 obtain _ | nn2:=nn2
 simp [Z7i] at hm
 rw [Z7i] at hm
 refine th<|rg<|qv o (e_lss o rfl rfl) fun a o=>re<|?_
 rcases bdich (decide (vB2 < (p1.length:Int))) with hb6 | hb6
 replace hm:=itp_t hm hb6
 refine tn<|th<|ctv o rfl hb6<|wk<|tn<|th<|wb<|th<|?_
 obtain ⟨xz7,h8,hm⟩:=bs hm
 obtain ⟨cz9,g10,hl11⟩:=SR.get hr5 h8
 obtain ⟨oa12,cap13,rfl,hc14,hr15⟩:=g10
 refine rg<|qv o (e_iaI o Tryz.runUnderlying147 Tryz.sizeOf24 rfl rfl h8 (SR.oaI hr5 (by decide) h8)) fun a o=>qv o (e_ld o isAgg24 rfl (PH.le.cell (Lds.le (St.ld u)) (hl11 0 _ rfl))) fun a o=>qa o rfl fun a o=>re<|tn<|th<|rg<|qm o rfl fun a o=>qm o rfl fun a o=>qv o (e_lenL (α:=api_Thread) (xs:=xz7) o runUnderlying24 rfl) fun a o=>qv o (e_add o rfl rfl) fun a o=>qa o rfl fun a o=>re<|tn<|th<|rg<|qm o rfl fun a o=>qv o (e_lss o rfl rfl) fun a o=>re<|?_
 rcases bdich (decide ((IntKind.i64.wrap (vB1+(xz7.length:Int))) < 0)) with hb16 | hb16
 replace hm:=itp_t hm hb16
 refine tn<|ctv o rfl hb16<|?_
 cases hm
 replace hm:=itp_f hm hb16
 refine tn<|cfv o rfl hb16<|wk<|bn<|tn<|rg<|qv o (e_add o rfl rfl) fun a o=>qm o rfl fun a o=>re<|tn<|?_
 exact ⟨(nn2,(IntKind.i64.wrap (vB1+(xz7.length:Int))),(IntKind.i64.wrap (vB2+1))),⟨hm,o.hs,u⟩,Nat.lt_succ_self _⟩
 replace hm:=itp_f hm hb6
 refine tn<|th<|cfv o rfl hb6<|we<|tx<|tx<|bx<|tn<|?_
 exact ⟨vB1,hm,o.has ⟨rfl,rfl,trivial⟩,u⟩
 rintro a w ⟨vA1,hm,o,u⟩
 unfold Z7g at hm
 refine th<|?_
 obtain ⟨x17,h18,hm⟩:=bs hm
 refine rg<|qm o rfl fun a o=>ls<|c1 o rfl call132 (grow_c grow132 rfl rfl info48 rfl (by decide) h18) ⟨rfl,rfl,trivial⟩ (fun v w a hR o=>?_)
 obtain ⟨oa19,cap20,rfl,hk⟩:=hR
 replace u:=u.fresh hk
 have hv21:Rows H [] ([]:List api_Thread):=.nil
 refine qa o rfl fun a o=>re<|tn<|th<|th<|rg<|qm o rfl fun a o=>qv o (e_lenL (α:=(List api_Thread)) (xs:=p1) o runUnderlying147 rfl) fun a o=>qm o rfl fun a o=>re<|tn<|midK (fun a w=>∃ (vA2:(List api_Thread)) (oaA3:Option Addr) (capA4:Nat) (vsA5:List Value),Z7h vA2=some r∧Fr 36 [(6,.slice oaA3 vA2.length capA4)] a∧St w0 Nil [H] [sla 48 4 oaA3 vA2.length capA4 vsA5] w∧Rows H vsA5 vA2) ?_ ?_
 refine wb<|lp (α:=Nat×(List api_Thread)×Int) (fun gh a w=>match gh with | (nn4,vB3,vB9)=>∃ (oaB4:Option Addr) (capB5:Nat) (vsB6:List Value),(Z7j N Z7h p1) nn4 vB3 vB9=some r∧Fr 36 [(6,.slice oaB4 vB3.length capB5),(25,.slice oa2 p1.length cap3),(26,i6 (p1.length:Int)),(27,i6 vB9)] a∧St w0 Nil [H] [sla 48 4 oaB4 vB3.length capB5 vsB6] w∧Rows H vsB6 vB3) (fun gh=>gh.1) (N,[],0) ⟨oa19,cap20,[],hm,o.hs,u,hv21⟩ ?_
 rintro ⟨nn4,vB3,vB9⟩ a w ⟨oaB4,capB5,vsB6,hm,o,u,hvB7⟩
 obtain _ | nn4:=nn4
 simp [Z7j] at hm
 rw [Z7j] at hm
 refine th<|rg<|qv o (e_lss o rfl rfl) fun a o=>re<|?_
 rcases bdich (decide (vB9 < (p1.length:Int))) with hb23 | hb23
 replace hm:=itp_t hm hb23
 refine tn<|th<|ctv o rfl hb23<|wk<|tn<|th<|wb<|th<|?_
 obtain ⟨x24,h25,hm⟩:=bs hm
 obtain ⟨c26,g27,hl28⟩:=SR.get hr5 h25
 obtain ⟨oa29,cap30,rfl,hc31,hr32⟩:=g27
 refine rg<|qv o (e_iaI o Tryz.runUnderlying147 Tryz.sizeOf24 rfl rfl h25 (SR.oaI hr5 (by decide) h25)) fun a o=>qv o (e_ld o isAgg24 rfl (PH.le.cell (Lds.le (St.ld u)) (hl28 0 _ rfl))) fun a o=>qa o rfl fun a o=>re<|tn<|?_
 obtain ⟨l33,h34,hm⟩:=bs hm
 refine rg<|qm o rfl fun a o=>qm o rfl fun a o=>?_
 obtain ⟨us39,hd40,hu41⟩:=id hr32
 refine ls<|m_app (α:=api_Thread) (xs:=vB3) (ys:=x24) o rfl u underlying24 info48 rfl (by decide) rfl rfl rfl t0 hvB7 (u.rdH t0 hd40) hu41 h34 fun oa35 cap36 vs37 w a hv38 hU o=>?_
 replace u:=hU _ .head
 refine qa o rfl fun a o=>re<|bn<|tn<|rg<|qv o (e_add o rfl rfl) fun a o=>qm o rfl fun a o=>re<|tn<|?_
 exact ⟨(nn4,l33,(IntKind.i64.wrap (vB9+1))),⟨oa35,cap36,vs37,hm,o.hs,u,hv38⟩,Nat.lt_succ_self _⟩
 replace hm:=itp_f hm hb23
 refine tn<|th<|cfv o rfl hb23<|we<|tx<|tx<|bx<|tn<|?_
 exact ⟨vB3,oaB4,capB5,vsB6,hm,o.has ⟨rfl,trivial⟩,u,hvB7⟩
 rintro a w ⟨vA2,oaA3,capA4,vsA5,hm,o,u,hvA6⟩
 unfold Z7h at hm
 refine th<|rg<|qm o rfl fun a o=>qa o rfl fun a o=>re<|tn<|wr<|?_
 obtain ⟨H45,hx42,hr43,hc44,u⟩:=St.frzS u .head hvA6
 obtain rfl:=si hm
 exact r1 o results93 rfl ⟨H45,_,_,rfl,hc44,hr43,hx42,(St.le u),u.keep⟩
theorem Z69_c (hH:H.le w0) {cs2:List Value} {p1:api_Prog} (g3:Enc.rep H cs2 p1) {r:(List api_Thread)} (hm:Z69 N p1=some r):Tot Tryz.prog 52 #[.agg cs2.toArray] w0 (fun v w'=>∃ (H':PH) (oa0:Option Addr) (cap0:Nat),v=.slice oa0 r.length cap0∧r.length≤cap0∧SR H' oa0 r∧Ext w0 H H'∧H'.le w'∧Keep Nil w0 w'):=by
 unfold Z69 at hm
 refine fn0 func52 rfl ntmps52 rfl rfl fun a o=>?_
 have u:St w0 Nil [H] [] w0:=start1 hH
 obtain ⟨oa4,cap5,oa8,cap9,oa12,cap13,oa16,cap17,oa20,cap21,oa24,cap25,rfl,hc6,hr7,hc10,hr11,hc14,hr15,hc18,hr19,hc22,hr23,hc26,hr27⟩:=api_Prog_open g3
 refine th<|rg<|ls<|a_box (cs:=[.slice oa4 p1.Lines.length cap5,.slice oa8 p1.Vols.length cap9,.slice oa12 p1.Locks.length cap13,.slice oa16 p1.Threads.length cap17,.slice oa20 p1.Recover.length cap21,.slice oa24 p1.Claims.length cap25].toArray) o rfl u rfl rfl fun b28 w a u o=>qa o rfl fun a o=>re<|tn<|th<|?_
 obtain ⟨r36,h37,hm⟩:=bs hm
 refine rg<|qv o (e_fa o fa27_3 rfl) fun a o=>qv o (e_ld o isAgg24 rfl ((St.ld u).cellB t0 rfl)) fun a o=>qv o (e_fa o fa27_4 rfl) fun a o=>qv o (e_ld o isAgg24 rfl ((St.ld u).cellB t0 rfl)) fun a o=>ls<|a_bsl (e:=24) (sz:=1) [.slice oa16 p1.Threads.length cap17,.slice oa20 p1.Recover.length cap21] o rfl u rfl rfl rfl (fun w=>by kernel_rfl) fun b30 w a u o=>?_
 have hv29:Rows (α:=(List api_Thread)) H [.slice oa16 p1.Threads.length cap17,.slice oa20 p1.Recover.length cap21] ([p1.Threads,p1.Recover]:List (List api_Thread)):=(.cons (c:=[.slice oa16 p1.Threads.length cap17]) ⟨_,_,rfl,hc18,hr19⟩ (.cons (c:=[.slice oa20 p1.Recover.length cap21]) ⟨_,_,rfl,hc22,hr23⟩ .nil))
 obtain ⟨H35,hx32,hr33,hc34,u⟩:=St.frzS u .head hv29
 refine ls<|c1 o rfl call93 (Z7f_c (St.le u) hc34 hr33 h37) ⟨rfl,trivial⟩ (fun v w a hR o=>?_)
 obtain ⟨H41,oa42,cap43,rfl,hc44,hr45,hx38,hl39,hk⟩:=hR
 obtain ⟨u,hx38⟩:=And.intro (St.passH u hk hx38 hl39) (St.extc u hx38)
 refine qa o rfl fun a o=>re<|tn<|wr<|?_
 obtain rfl:=si hm
 exact r1 o results52 rfl ⟨H41,_,_,rfl,hc44,hr45,(Ext.trans hx32 hx38),(St.le u),u.keep⟩
theorem Z5w_c (hH:H.le w0) {cs2:List Value} {p1:api_Thread} (g3:Enc.rep H cs2 p1) {r:Bool} (hm:Z5w N p1=some r):Tot Tryz.prog 92 #[.agg cs2.toArray] w0 (fun v w'=>v=.bool r∧Keep Nil w0 w'):=by
 unfold Z5w at hm
 refine fn0 func92 rfl ntmps92 rfl rfl fun a o=>?_
 have u:St w0 Nil [H] [] w0:=start1 hH
 obtain ⟨oa4,cap5,oa8,cap9,rfl,hc6,hr7,hc10,hr11⟩:=api_Thread_open g3
 refine th<|rg<|ls<|a_box (cs:=[strv p1.Name,.slice oa4 p1.Regs.length cap5,.slice oa8 p1.Body.length cap9,i6 p1.At].toArray) o rfl u rfl rfl fun b12 w a u o=>qa o rfl fun a o=>re<|tn<|th<|rg<|qv o (e_fa o fa48_1 rfl) fun a o=>qv o (e_ld o isAgg36 rfl ((St.ld u).cellB t0 rfl)) fun a o=>qv o (e_lenL (α:=Str) (xs:=p1.Regs) o runUnderlying36 rfl) fun a o=>qv o (e_gtr o rfl rfl) fun a o=>qa o rfl fun a o=>re<|tn<|wr<|?_
 obtain rfl:=si hm
 exact r1 o results92 rfl ⟨rfl,u.keep⟩
theorem Z8j_c (hH:H.le w0) {oa2:Option Addr} {cap3:Nat} {p1:(List api_Thread)} (_:p1.length≤cap3) (hr5:SR H oa2 p1) {r:Int} (hm:Z8j N p1=some r):Tot Tryz.prog 130 #[.slice oa2 p1.length cap3,.func (.func 92) #[] #[]] w0 (fun v w'=>v=i6 r∧Keep Nil w0 w'):=by
 unfold Z8j at hm
 refine fn0 func130 rfl ntmps130 rfl rfl fun a o=>?_
 have u:St w0 Nil [H] [] w0:=start1 hH
 refine th<|rg<|qa o rfl fun a o=>re<|tn<|th<|th<|rg<|qm o rfl fun a o=>qv o (e_lenL (α:=api_Thread) (xs:=p1) o runUnderlying24 rfl) fun a o=>qm o rfl fun a o=>re<|tn<|midK (fun a w=>Z8k=some r∧Fr 19 [] a∧St w0 Nil [H] [] w) ?_ ?_
 refine wb<|lp (α:=Nat×Int) (fun gh a w=>match gh with | (nn2,vB1)=>(Z8l N Z8k p1) nn2 vB1=some r∧Fr 19 [(0,.slice oa2 p1.length cap3),(1,.func (.func 92) #[] #[]),(7,i6 (p1.length:Int)),(8,i6 vB1)] a∧St w0 Nil [H] [] w) (fun gh=>gh.1) (N,0) ⟨hm,o.hs,u⟩ ?_
 rintro ⟨nn2,vB1⟩ a w ⟨hm,o,u⟩
 obtain _ | nn2:=nn2
 simp [Z8l] at hm
 rw [Z8l] at hm
 refine th<|rg<|qv o (e_lss o rfl rfl) fun a o=>re<|?_
 rcases bdich (decide (vB1 < (p1.length:Int))) with hb6 | hb6
 replace hm:=itp_t hm hb6
 refine tn<|th<|ctv o rfl hb6<|wk<|tn<|th<|wb<|th<|rg<|qm o rfl fun a o=>qa o rfl fun a o=>re<|tn<|th<|?_
 obtain ⟨xz7,h8,hm⟩:=bs hm
 obtain ⟨cz9,g10,hl11⟩:=SR.get hr5 h8
 obtain ⟨oa12,cap13,oa16,cap17,rfl,hc14,hr15,hc18,hr19⟩:=api_Thread_open g10
 obtain ⟨r20,h21,hm⟩:=bs hm
 refine rg<|qm o rfl fun a o=>?_
 iterate 2 refine qm o rfl fun a o=>?_
 refine qv o (e_iaI o runUnderlying24 sizeOf48 rfl rfl h8 (SR.oaI hr5 (by decide) h8)) fun a o=>qv o (e_ldA o isAgg48 sizeOf48 rfl rfl (fun j v hj=>PH.le.cell (Lds.le (St.ld u)) (hl11 j v hj))) fun a o=>ls<|k1 (vs:=[.agg #[strv xz7.Name,.slice oa12 xz7.Regs.length cap13,.slice oa16 xz7.Body.length cap17,i6 xz7.At]]) (caps:=[]) o rfl rfl call92 (Z5w_c (hp_le _) (Enc.mono (St.up u) (show Enc.rep (α:=api_Thread) H [strv xz7.Name,.slice oa12 xz7.Regs.length cap13,.slice oa16 xz7.Body.length cap17,i6 xz7.At] xz7 from ⟨_,_,rfl,rfl,⟨_,_,rfl,⟨_,_,rfl,hc14,hr15⟩,⟨_,_,rfl,⟨_,_,rfl,hc18,hr19⟩,rfl⟩⟩⟩)) h21) ⟨rfl,trivial⟩ rfl (fun v w a hR o=>?_)
 obtain ⟨rfl,hk⟩:=hR
 replace u:=u.pass hk
 refine re<|?_
 rcases bdich r20 with hb22 | hb22
 replace hm:=ite_t hm hb22
 refine tn<|ctv o rfl hb22<|th<|rg<|qm o rfl fun a o=>qa o rfl fun a o=>re<|tn<|wr<|br<|tr<|tr<|br<|tr<|?_
 obtain rfl:=si hm
 exact r1 o results130 rfl ⟨rfl,u.keep⟩
 replace hm:=ite_f hm hb22
 refine tn<|cfv o rfl hb22<|wk<|bn<|tn<|rg<|qv o (e_add o rfl rfl) fun a o=>qm o rfl fun a o=>re<|tn<|?_
 exact ⟨(nn2,(IntKind.i64.wrap (vB1+1))),⟨hm,o.hs,u⟩,Nat.lt_succ_self _⟩
 replace hm:=itp_f hm hb6
 refine tn<|th<|cfv o rfl hb6<|we<|tx<|tx<|bx<|tn<|?_
 exact ⟨hm,o.has trivial,u⟩
 rintro a w ⟨hm,o,u⟩
 unfold Z8k at hm
 refine th<|rg<|qa o rfl fun a o=>re<|tn<|wr<|?_
 obtain rfl:=si hm
 exact r1 o results130 rfl ⟨rfl,u.keep⟩
theorem Z7s_c (hH:H.le w0) {oa2:Option Addr} {cap3:Nat} {p1:(List api_Thread)} (hc4:p1.length≤cap3) (hr5:SR H oa2 p1) {r:Bool} (hm:Z7s N p1=some r):Tot Tryz.prog 89 #[.slice oa2 p1.length cap3,.func (.func 92) #[] #[]] w0 (fun v w'=>v=.bool r∧Keep Nil w0 w'):=by
 unfold Z7s at hm
 refine fn0 func89 rfl ntmps89 rfl rfl fun a o=>?_
 have u:St w0 Nil [H] [] w0:=start1 hH
 refine th<|rg<|qa o rfl fun a o=>re<|tn<|th<|?_
 obtain ⟨rz6,h7,hm⟩:=bs hm
 refine rg<|qm o rfl fun a o=>qm o rfl fun a o=>ls<|cq o call130 (Z8j_c (hp_le _) hc4 (St.srH u hr5) h7) ⟨rfl,rfl,trivial⟩ u fun w a u o=>qv o (e_geq o rfl rfl) fun a o=>qa o rfl fun a o=>re<|tn<|wr<|?_
 obtain rfl:=si hm
 exact r1 o results89 rfl ⟨rfl,u.keep⟩
set_option maxHeartbeats 4000000 in
theorem Z5u_c (hH:H.le w0) {cs2:List Value} {p1:api_Prog} (g3:Enc.rep H cs2 p1) {r:Bool} (hm:Z5u N p1=some r):Tot Tryz.prog 51 #[.agg cs2.toArray] w0 (fun v w'=>v=.bool r∧Keep Nil w0 w'):=by
 unfold Z5u at hm
 refine fn0 func51 rfl ntmps51 rfl rfl fun a o=>?_
 have u:St w0 Nil [H] [] w0:=start1 hH
 obtain ⟨oa4,cap5,oa8,cap9,oa12,cap13,oa16,cap17,oa20,cap21,oa24,cap25,rfl,hc6,hr7,hc10,hr11,hc14,hr15,hc18,hr19,hc22,hr23,hc26,hr27⟩:=api_Prog_open g3
 refine th<|rg<|ls<|a_box (cs:=[.slice oa4 p1.Lines.length cap5,.slice oa8 p1.Vols.length cap9,.slice oa12 p1.Locks.length cap13,.slice oa16 p1.Threads.length cap17,.slice oa20 p1.Recover.length cap21,.slice oa24 p1.Claims.length cap25].toArray) o rfl u rfl rfl fun b28 w a u o=>qa o rfl fun a o=>?_
 iterate 2 refine re<|tn<|th<|rg<|qa o rfl fun a o=>?_
 refine re<|tn<|th<|rg<|qv o (e_fa o fa27_3 rfl) fun a o=>qv o (e_ld o isAgg24 rfl ((St.ld u).cellB t0 rfl)) fun a o=>qv o (e_lenL (α:=api_Thread) (xs:=p1.Threads) o runUnderlying24 rfl) fun a o=>qa o rfl fun a o=>re<|tn<|th<|?_
 rcases bdich (decide (4 < (p1.Lines.length:Int))) with hb29 | hb29
 replace hm:=itp_t hm hb29
 refine rg<|qv o (e_fa o fa27_0 rfl) fun a o=>qv o (e_ld o isAgg22 rfl ((St.ld u).cellB t0 rfl)) fun a o=>qv o (e_lenL (α:=(List api_Cell)) (xs:=p1.Lines) o runUnderlying22 rfl) fun a o=>qv o (e_gtr o rfl rfl) fun a o=>qv o (e_as (e_move o rfl) (congrArg Value.bool hb29)) fun a o=>?_
 iterate 4 refine qn o fun a o=>?_
 refine qv o (e_pickT o rfl rfl) fun a o=>qm o rfl fun a o=>?_
 iterate 4 refine qn o fun a o=>?_
 refine qv o (e_pickT o rfl rfl) fun a o=>qm o rfl fun a o=>?_
 iterate 4 refine qn o fun a o=>?_
 refine qv o (e_pickT o rfl rfl) fun a o=>qm o rfl fun a o=>?_
 iterate 2 refine qn o fun a o=>?_
 refine qv o (e_pickT o rfl rfl) fun a o=>qm o rfl fun a o=>?_
 iterate 2 refine qn o fun a o=>?_
 refine qv o (e_pickT o rfl rfl) fun a o=>qm o rfl fun a o=>?_
 iterate 4 refine qn o fun a o=>?_
 refine qv o (e_pickT o rfl rfl) fun a o=>qm o rfl fun a o=>?_
 iterate 4 refine qn o fun a o=>?_
 refine qv o (e_pickT o rfl rfl) fun a o=>qa o rfl fun a o=>re<|tn<|wr<|?_
 obtain rfl:=si hm
 exact r1 o results51 rfl ⟨rfl,u.keep⟩
 replace hm:=itp_f hm hb29
 obtain ⟨r30,h31,hm⟩:=bs hm
 rcases bdich ((((r30 || (decide (4 < (p1.Vols.length:Int)))) || (decide (2 < (p1.Locks.length:Int)))) || (decide ((p1.Threads.length:Int)=0))) || (decide (3 < (p1.Threads.length:Int)))) with hb32 | hb32
 replace hm:=ite_t hm hb32
 refine rg<|qv o (e_fa o fa27_0 rfl) fun a o=>qv o (e_ld o isAgg22 rfl ((St.ld u).cellB t0 rfl)) fun a o=>qv o (e_lenL (α:=(List api_Cell)) (xs:=p1.Lines) o runUnderlying22 rfl) fun a o=>qv o (e_gtr o rfl rfl) fun a o=>qv o (e_as (e_move o rfl) (congrArg Value.bool hb29)) fun a o=>qg o (e_fa o fa27_0 rfl) fun a o=>qg o (e_ld o isAgg22 rfl ((St.ld u).cellB t0 rfl)) fun a o=>qg o (e_move o rfl) fun a o=>ls<|gy o rfl rfl<|cq o call88 (Z7l_c (hp_le _) hc6 (St.srH u hr7) h31) ⟨rfl,rfl,trivial⟩ u fun w a u o=>qv o (e_pickF o rfl rfl) fun a o=>qm o rfl fun a o=>grp (N:=51) (Fk:=[(1,.pointer (some ⟨b28,0,none⟩)),(4,.func (.func 92) #[] #[]),(5,i6 (p1.Threads.length:Int)),(24,.bool (r30 || (decide (4 < (p1.Vols.length:Int)))))]) (b:=r30) 5 u ?_ ?_ ?_
 intro hb key
 replace o:=Fr.as o (t:=19) rfl (congrArg Value.bool hb)
 iterate 4 refine qn o fun a o=>?_
 refine qv o (e_as (v':=.bool (r30 || (decide (4 < (p1.Vols.length:Int))))) (e_pickT o rfl rfl) (by rw [hb];rfl)) fun a o=>?_
 exact key _ _ (o.hs) u
 intro hb key
 replace o:=Fr.as o (t:=19) rfl (congrArg Value.bool hb)
 refine qg o (e_fa o fa27_1 rfl) fun a o=>qg o (e_ld o isAgg23 rfl ((St.ld u).cellB t0 rfl)) fun a o=>qg o (e_lenL (α:=api_Cell) (xs:=p1.Vols) o runUnderlying23 rfl) fun a o=>qg o (e_gtr o rfl rfl) fun a o=>qv o (e_as (v':=.bool (r30 || (decide (4 < (p1.Vols.length:Int))))) (e_pickF o rfl rfl) (by rw [hb];rfl)) fun a o=>?_
 exact key _ _ (o.hs) u
 intro a w o u
 refine qm o rfl fun a o=>grp (N:=51) (Fk:=[(1,.pointer (some ⟨b28,0,none⟩)),(4,.func (.func 92) #[] #[]),(5,i6 (p1.Threads.length:Int)),(30,.bool ((r30 || (decide (4 < (p1.Vols.length:Int)))) || (decide (2 < (p1.Locks.length:Int)))))]) (b:=(r30 || (decide (4 < (p1.Vols.length:Int))))) 5 u ?_ ?_ ?_
 intro hb key
 replace o:=Fr.as o (t:=25) rfl (congrArg Value.bool hb)
 iterate 4 refine qn o fun a o=>?_
 refine qv o (e_as (v':=.bool ((r30 || (decide (4 < (p1.Vols.length:Int)))) || (decide (2 < (p1.Locks.length:Int))))) (e_pickT o rfl rfl) (by rw [hb];rfl)) fun a o=>?_
 exact key _ _ (o.hs) u
 intro hb key
 replace o:=Fr.as o (t:=25) rfl (congrArg Value.bool hb)
 refine qg o (e_fa o fa27_2 rfl) fun a o=>qg o (e_ld o isAgg23 rfl ((St.ld u).cellB t0 rfl)) fun a o=>qg o (e_lenL (α:=api_Cell) (xs:=p1.Locks) o runUnderlying23 rfl) fun a o=>qg o (e_gtr o rfl rfl) fun a o=>qv o (e_as (v':=.bool ((r30 || (decide (4 < (p1.Vols.length:Int)))) || (decide (2 < (p1.Locks.length:Int))))) (e_pickF o rfl rfl) (by rw [hb];rfl)) fun a o=>?_
 exact key _ _ (o.hs) u
 intro a w o u
 refine qm o rfl fun a o=>grp (N:=51) (Fk:=[(1,.pointer (some ⟨b28,0,none⟩)),(4,.func (.func 92) #[] #[]),(5,i6 (p1.Threads.length:Int)),(34,.bool (((r30 || (decide (4 < (p1.Vols.length:Int)))) || (decide (2 < (p1.Locks.length:Int)))) || (decide ((p1.Threads.length:Int)=0))))]) (b:=((r30 || (decide (4 < (p1.Vols.length:Int)))) || (decide (2 < (p1.Locks.length:Int))))) 3 u ?_ ?_ ?_
 intro hb key
 replace o:=Fr.as o (t:=31) rfl (congrArg Value.bool hb)
 iterate 2 refine qn o fun a o=>?_
 refine qv o (e_as (v':=.bool (((r30 || (decide (4 < (p1.Vols.length:Int)))) || (decide (2 < (p1.Locks.length:Int)))) || (decide ((p1.Threads.length:Int)=0)))) (e_pickT o rfl rfl) (by rw [hb];rfl)) fun a o=>?_
 exact key _ _ (o.hs) u
 intro hb key
 replace o:=Fr.as o (t:=31) rfl (congrArg Value.bool hb)
 refine qg o (e_move o rfl) fun a o=>qg o (e_eql o rfl rfl) fun a o=>qv o (e_as (v':=.bool (((r30 || (decide (4 < (p1.Vols.length:Int)))) || (decide (2 < (p1.Locks.length:Int)))) || (decide ((p1.Threads.length:Int)=0)))) (e_pickF o rfl rfl) (by rw [hb];rfl)) fun a o=>?_
 exact key _ _ (o.hs) u
 intro a w o u
 refine qm o rfl fun a o=>grp (N:=51) (Fk:=[(1,.pointer (some ⟨b28,0,none⟩)),(4,.func (.func 92) #[] #[]),(38,.bool ((((r30 || (decide (4 < (p1.Vols.length:Int)))) || (decide (2 < (p1.Locks.length:Int)))) || (decide ((p1.Threads.length:Int)=0))) || (decide (3 < (p1.Threads.length:Int)))))]) (b:=(((r30 || (decide (4 < (p1.Vols.length:Int)))) || (decide (2 < (p1.Locks.length:Int)))) || (decide ((p1.Threads.length:Int)=0)))) 3 u ?_ ?_ ?_
 intro hb key
 replace o:=Fr.as o (t:=35) rfl (congrArg Value.bool hb)
 iterate 2 refine qn o fun a o=>?_
 refine qv o (e_as (v':=.bool ((((r30 || (decide (4 < (p1.Vols.length:Int)))) || (decide (2 < (p1.Locks.length:Int)))) || (decide ((p1.Threads.length:Int)=0))) || (decide (3 < (p1.Threads.length:Int))))) (e_pickT o rfl rfl) (by rw [hb];rfl)) fun a o=>?_
 exact key _ _ (o.hs) u
 intro hb key
 replace o:=Fr.as o (t:=35) rfl (congrArg Value.bool hb)
 refine qg o (e_move o rfl) fun a o=>qg o (e_gtr o rfl rfl) fun a o=>qv o (e_as (v':=.bool ((((r30 || (decide (4 < (p1.Vols.length:Int)))) || (decide (2 < (p1.Locks.length:Int)))) || (decide ((p1.Threads.length:Int)=0))) || (decide (3 < (p1.Threads.length:Int))))) (e_pickF o rfl rfl) (by rw [hb];rfl)) fun a o=>?_
 exact key _ _ (o.hs) u
 intro a w o u
 refine qv o (e_as (e_move o rfl) (congrArg Value.bool hb32)) fun a o=>?_
 iterate 4 refine qn o fun a o=>?_
 refine qv o (e_pickT o rfl rfl) fun a o=>qm o rfl fun a o=>?_
 iterate 4 refine qn o fun a o=>?_
 refine qv o (e_pickT o rfl rfl) fun a o=>qa o rfl fun a o=>re<|tn<|wr<|?_
 obtain rfl:=si hm
 exact r1 o results51 rfl ⟨rfl,u.keep⟩
 replace hm:=ite_f hm hb32
 obtain ⟨r33,h34,hm⟩:=bs hm
 obtain ⟨r43,h44,hm⟩:=bs hm
 refine rg<|qv o (e_fa o fa27_0 rfl) fun a o=>qv o (e_ld o isAgg22 rfl ((St.ld u).cellB t0 rfl)) fun a o=>qv o (e_lenL (α:=(List api_Cell)) (xs:=p1.Lines) o runUnderlying22 rfl) fun a o=>qv o (e_gtr o rfl rfl) fun a o=>qv o (e_as (e_move o rfl) (congrArg Value.bool hb29)) fun a o=>qg o (e_fa o fa27_0 rfl) fun a o=>qg o (e_ld o isAgg22 rfl ((St.ld u).cellB t0 rfl)) fun a o=>qg o (e_move o rfl) fun a o=>ls<|gy o rfl rfl<|cq o call88 (Z7l_c (hp_le _) hc6 (St.srH u hr7) h31) ⟨rfl,rfl,trivial⟩ u fun w a u o=>qv o (e_pickF o rfl rfl) fun a o=>qm o rfl fun a o=>grp (N:=51) (Fk:=[(1,.pointer (some ⟨b28,0,none⟩)),(4,.func (.func 92) #[] #[]),(5,i6 (p1.Threads.length:Int)),(24,.bool (r30 || (decide (4 < (p1.Vols.length:Int)))))]) (b:=r30) 5 u ?_ ?_ ?_
 intro hb key
 replace o:=Fr.as o (t:=19) rfl (congrArg Value.bool hb)
 iterate 4 refine qn o fun a o=>?_
 refine qv o (e_as (v':=.bool (r30 || (decide (4 < (p1.Vols.length:Int))))) (e_pickT o rfl rfl) (by rw [hb];rfl)) fun a o=>?_
 exact key _ _ (o.hs) u
 intro hb key
 replace o:=Fr.as o (t:=19) rfl (congrArg Value.bool hb)
 refine qg o (e_fa o fa27_1 rfl) fun a o=>qg o (e_ld o isAgg23 rfl ((St.ld u).cellB t0 rfl)) fun a o=>qg o (e_lenL (α:=api_Cell) (xs:=p1.Vols) o runUnderlying23 rfl) fun a o=>qg o (e_gtr o rfl rfl) fun a o=>qv o (e_as (v':=.bool (r30 || (decide (4 < (p1.Vols.length:Int))))) (e_pickF o rfl rfl) (by rw [hb];rfl)) fun a o=>?_
 exact key _ _ (o.hs) u
 intro a w o u
 refine qm o rfl fun a o=>grp (N:=51) (Fk:=[(1,.pointer (some ⟨b28,0,none⟩)),(4,.func (.func 92) #[] #[]),(5,i6 (p1.Threads.length:Int)),(30,.bool ((r30 || (decide (4 < (p1.Vols.length:Int)))) || (decide (2 < (p1.Locks.length:Int)))))]) (b:=(r30 || (decide (4 < (p1.Vols.length:Int))))) 5 u ?_ ?_ ?_
 intro hb key
 replace o:=Fr.as o (t:=25) rfl (congrArg Value.bool hb)
 iterate 4 refine qn o fun a o=>?_
 refine qv o (e_as (v':=.bool ((r30 || (decide (4 < (p1.Vols.length:Int)))) || (decide (2 < (p1.Locks.length:Int))))) (e_pickT o rfl rfl) (by rw [hb];rfl)) fun a o=>?_
 exact key _ _ (o.hs) u
 intro hb key
 replace o:=Fr.as o (t:=25) rfl (congrArg Value.bool hb)
 refine qg o (e_fa o fa27_2 rfl) fun a o=>qg o (e_ld o isAgg23 rfl ((St.ld u).cellB t0 rfl)) fun a o=>qg o (e_lenL (α:=api_Cell) (xs:=p1.Locks) o runUnderlying23 rfl) fun a o=>qg o (e_gtr o rfl rfl) fun a o=>qv o (e_as (v':=.bool ((r30 || (decide (4 < (p1.Vols.length:Int)))) || (decide (2 < (p1.Locks.length:Int))))) (e_pickF o rfl rfl) (by rw [hb];rfl)) fun a o=>?_
 exact key _ _ (o.hs) u
 intro a w o u
 refine qm o rfl fun a o=>grp (N:=51) (Fk:=[(1,.pointer (some ⟨b28,0,none⟩)),(4,.func (.func 92) #[] #[]),(5,i6 (p1.Threads.length:Int)),(34,.bool (((r30 || (decide (4 < (p1.Vols.length:Int)))) || (decide (2 < (p1.Locks.length:Int)))) || (decide ((p1.Threads.length:Int)=0))))]) (b:=((r30 || (decide (4 < (p1.Vols.length:Int)))) || (decide (2 < (p1.Locks.length:Int))))) 3 u ?_ ?_ ?_
 intro hb key
 replace o:=Fr.as o (t:=31) rfl (congrArg Value.bool hb)
 iterate 2 refine qn o fun a o=>?_
 refine qv o (e_as (v':=.bool (((r30 || (decide (4 < (p1.Vols.length:Int)))) || (decide (2 < (p1.Locks.length:Int)))) || (decide ((p1.Threads.length:Int)=0)))) (e_pickT o rfl rfl) (by rw [hb];rfl)) fun a o=>?_
 exact key _ _ (o.hs) u
 intro hb key
 replace o:=Fr.as o (t:=31) rfl (congrArg Value.bool hb)
 refine qg o (e_move o rfl) fun a o=>qg o (e_eql o rfl rfl) fun a o=>qv o (e_as (v':=.bool (((r30 || (decide (4 < (p1.Vols.length:Int)))) || (decide (2 < (p1.Locks.length:Int)))) || (decide ((p1.Threads.length:Int)=0)))) (e_pickF o rfl rfl) (by rw [hb];rfl)) fun a o=>?_
 exact key _ _ (o.hs) u
 intro a w o u
 refine qm o rfl fun a o=>grp (N:=51) (Fk:=[(1,.pointer (some ⟨b28,0,none⟩)),(4,.func (.func 92) #[] #[]),(38,.bool ((((r30 || (decide (4 < (p1.Vols.length:Int)))) || (decide (2 < (p1.Locks.length:Int)))) || (decide ((p1.Threads.length:Int)=0))) || (decide (3 < (p1.Threads.length:Int)))))]) (b:=(((r30 || (decide (4 < (p1.Vols.length:Int)))) || (decide (2 < (p1.Locks.length:Int)))) || (decide ((p1.Threads.length:Int)=0)))) 3 u ?_ ?_ ?_
 intro hb key
 replace o:=Fr.as o (t:=35) rfl (congrArg Value.bool hb)
 iterate 2 refine qn o fun a o=>?_
 refine qv o (e_as (v':=.bool ((((r30 || (decide (4 < (p1.Vols.length:Int)))) || (decide (2 < (p1.Locks.length:Int)))) || (decide ((p1.Threads.length:Int)=0))) || (decide (3 < (p1.Threads.length:Int))))) (e_pickT o rfl rfl) (by rw [hb];rfl)) fun a o=>?_
 exact key _ _ (o.hs) u
 intro hb key
 replace o:=Fr.as o (t:=35) rfl (congrArg Value.bool hb)
 refine qg o (e_move o rfl) fun a o=>qg o (e_gtr o rfl rfl) fun a o=>qv o (e_as (v':=.bool ((((r30 || (decide (4 < (p1.Vols.length:Int)))) || (decide (2 < (p1.Locks.length:Int)))) || (decide ((p1.Threads.length:Int)=0))) || (decide (3 < (p1.Threads.length:Int))))) (e_pickF o rfl rfl) (by rw [hb];rfl)) fun a o=>?_
 exact key _ _ (o.hs) u
 intro a w o u
 refine qv o (e_as (e_move o rfl) (congrArg Value.bool hb32)) fun a o=>qg o (e_ldA o isAgg27 sizeOf27 rfl rfl ((St.ld u).cellsB t0)) fun a o=>ls<|gy o rfl rfl<|c1 o rfl call52 (Z69_c (St.le u) (show Enc.rep (α:=api_Prog) H [.slice oa4 p1.Lines.length cap5,.slice oa8 p1.Vols.length cap9,.slice oa12 p1.Locks.length cap13,.slice oa16 p1.Threads.length cap17,.slice oa20 p1.Recover.length cap21,.slice oa24 p1.Claims.length cap25] p1 from ⟨_,_,rfl,⟨_,_,rfl,hc6,hr7⟩,⟨_,_,rfl,⟨_,_,rfl,hc10,hr11⟩,⟨_,_,rfl,⟨_,_,rfl,hc14,hr15⟩,⟨_,_,rfl,⟨_,_,rfl,hc18,hr19⟩,⟨_,_,rfl,⟨_,_,rfl,hc22,hr23⟩,⟨_,_,rfl,hc26,hr27⟩⟩⟩⟩⟩⟩) h34) ⟨rfl,trivial⟩ (fun v w a hR o=>?_)
 obtain ⟨H38,oa39,cap40,rfl,hc41,hr42,hx35,hl36,hk⟩:=hR
 obtain ⟨u,hx35⟩:=And.intro (St.passH u hk hx35 hl36) (St.extc u hx35)
 refine qg o (e_move o rfl) fun a o=>ls<|gy o rfl rfl<|cq o call89 (Z7s_c (hp_le _) hc41 (St.srH u hr42) h44) ⟨rfl,rfl,trivial⟩ u fun w a u o=>qv o (e_pickF o rfl rfl) fun a o=>qm o rfl fun a o=>grp (N:=51) (Fk:=[(50,.bool (r43 || (decide (4 < (p1.Claims.length:Int)))))]) (b:=r43) 5 u ?_ ?_ ?_
 intro hb key
 replace o:=Fr.as o (t:=45) rfl (congrArg Value.bool hb)
 iterate 4 refine qn o fun a o=>?_
 refine qv o (e_as (v':=.bool (r43 || (decide (4 < (p1.Claims.length:Int))))) (e_pickT o rfl rfl) (by rw [hb];rfl)) fun a o=>?_
 exact key _ _ (o.has ⟨rfl,trivial⟩) u
 intro hb key
 replace o:=Fr.as o (t:=45) rfl (congrArg Value.bool hb)
 refine qg o (e_fa o fa27_5 rfl) fun a o=>qg o (e_ld o isAgg25 rfl ((St.ld u).cellB t0 rfl)) fun a o=>qg o (e_lenL (α:=api_Claim) (xs:=p1.Claims) o runUnderlying25 rfl) fun a o=>qg o (e_gtr o rfl rfl) fun a o=>qv o (e_as (v':=.bool (r43 || (decide (4 < (p1.Claims.length:Int))))) (e_pickF o rfl rfl) (by rw [hb];rfl)) fun a o=>?_
 exact key _ _ (o.has ⟨rfl,trivial⟩) u
 intro a w o u
 refine qa o rfl fun a o=>re<|tn<|wr<|?_
 obtain rfl:=si hm
 exact r1 o results51 rfl ⟨rfl,u.keep⟩
theorem Z6n_c:∀ (N:Nat) {w0:World} {H:PH} (_:H.le w0) {oa2:Option Addr} {cap3:Nat} {p1:(List api_Stmt)} (_:p1.length≤cap3) (_:SR H oa2 p1) {p6:Int} {r:(Int×Bool)} (_:Z6n N p1 p6=some r),Tot Tryz.prog 53 #[.slice oa2 p1.length cap3,i6 p6] w0 (fun v w'=>v=.tuple #[i6 r.1,.bool r.2]∧Keep Nil w0 w'):=by
 intro N
 induction N with
  | zero=>intros;rename_i hm;simp [Z6n] at hm
  | succ N ih=>
 intro w0 H hH oa2 cap3 p1 hc4 hr5 p6 r hm
 rw [Z6n] at hm
 refine fn0 func53 rfl ntmps53 rfl rfl fun a o=>?_
 have u:St w0 Nil [H] [] w0:=start1 hH
 refine th<|rg<|qa o rfl fun a o=>qa o rfl fun a o=>re<|tn<|th<|th<|rg<|qa o rfl fun a o=>re<|tn<|midK (fun a w=>Z6o=some r∧Fr 53 [] a∧St w0 Nil [H] [] w) ?_ ?_
 refine wb<|lp (α:=Nat×Int) (fun gh a w=>match gh with | (nn2,vB1)=>(Z6q (Z6n N) N Z6o p1 p6) nn2 vB1=some r∧Fr 53 [(0,.slice oa2 p1.length cap3),(1,i6 p6),(6,i6 vB1)] a∧St w0 Nil [H] [] w) (fun gh=>gh.1) (N,0) ⟨hm,o.hs,u⟩ ?_
 rintro ⟨nn2,vB1⟩ a w ⟨hm,o,u⟩
 obtain _ | nn2:=nn2
 simp [Z6q] at hm
 rw [Z6q] at hm
 refine th<|th<|rg<|qm o rfl fun a o=>qm o rfl fun a o=>qv o (e_lenL (α:=api_Stmt) (xs:=p1) o runUnderlying46 rfl) fun a o=>qv o (e_lss o rfl rfl) fun a o=>re<|?_
 rcases bdich (decide (vB1 < (p1.length:Int))) with hb7 | hb7
 replace hm:=itp_t hm hb7
 refine tn<|ctv o rfl hb7<|wk<|tn<|wb<|th<|?_
 obtain ⟨xz8,h9,hm⟩:=bs hm
 obtain ⟨c10,g11,hl12⟩:=SR.get hr5 h9
 obtain ⟨oa13,cap14,oa17,cap18,rfl,hc15,hr16,hc19,hr20⟩:=api_Stmt_open g11
 refine rg<|qm o rfl fun a o=>qm o rfl fun a o=>qv o (e_iaI o runUnderlying46 sizeOf51 rfl rfl h9 (SR.oaI hr5 (by decide) h9)) fun a o=>qv o (e_ldA o isAgg51 sizeOf51 rfl rfl (fun j v hj=>PH.le.cell (Lds.le (St.ld u)) (hl12 j v hj))) fun a o=>ls<|a_alloc (cs:=[i6 0,strv [],strv [],.slice none 0 0,.slice none 0 0,i6 0,i6 0,i6 0,i6 0].toArray) o rfl u zeroValue51 rfl fun b21 w a u o=>ls<|s_blkA o u sizeOf51 rfl rfl rfl rfl (one_cells rfl) .head fun w u=>re<|tn<|th<|rg<|qm o rfl fun a o=>qv o (e_add o rfl rfl) fun a o=>qv o (e_fa o fa51_6 rfl) fun a o=>qv o (e_ld o isAgg3 rfl ((St.ld u).cellB t0 rfl)) fun a o=>qv o (e_add o rfl rfl) fun a o=>qv o (e_fa o fa51_7 rfl) fun a o=>qv o (e_ld o isAgg3 rfl ((St.ld u).cellB t0 rfl)) fun a o=>qv o (e_add o rfl rfl) fun a o=>qa o rfl fun a o=>re<|tn<|th<|rg<|qm o rfl fun a o=>qa o rfl fun a o=>re<|tn<|th<|th<|rg<|qv o (e_fa o fa51_0 rfl) fun a o=>qv o (e_ld o isAgg3 rfl ((St.ld u).cellB t0 rfl)) fun a o=>qv o (e_eql o rfl rfl) fun a o=>re<|tn<|midK (fun a w=>∃ (vC1:Int),(Z6p (Z6n N) ((Z6q (Z6n N) N Z6o p1 p6) nn2) p1 xz8 vB1) vC1=some r∧Fr 53 [(0,.slice oa2 p1.length cap3),(1,i6 p6),(6,i6 vB1),(7,.pointer (some ⟨b21,0,none⟩)),(8,i6 (IntKind.i64.wrap ((IntKind.i64.wrap ((IntKind.i64.wrap (vB1+1))+xz8.Body))+xz8.Else))),(9,i6 vC1)] a∧St w0 Nil [H] [blk b21 (.cells [i6 xz8.Kind,strv xz8.Reg,strv xz8.Name,.slice oa13 xz8.E.length cap14,.slice oa17 xz8.F.length cap18,i6 xz8.N,i6 xz8.Body,i6 xz8.Else,i6 xz8.At].toArray 51 (0,0))] w) ?_ ?_
 rcases bdich (decide (xz8.Kind=12)) with hb22 | hb22
 replace hm:=itp_t hm hb22
 refine ctv o rfl hb22<|rg<|qm o rfl fun a o=>qv o (e_fa o fa51_5 rfl) fun a o=>qv o (e_ld o isAgg3 rfl ((St.ld u).cellB t0 rfl)) fun a o=>qv o (e_mul o rfl rfl) fun a o=>qa o rfl fun a o=>re<|tn<|?_
 exact ⟨(IntKind.i64.wrap (p6 * xz8.N)),hm,o.hs,u⟩
 replace hm:=itp_f hm hb22
 refine cfv o rfl hb22<|wk<|tn<|?_
 exact ⟨p6,hm,o.hs,u⟩
 rintro a w ⟨vC1,hm,o,u⟩
 unfold Z6p at hm
 refine th<|th<|rg<|qm o rfl fun a o=>qv o (e_gtr o rfl rfl) fun a o=>re<|?_
 rcases bdich (decide (64 < vC1)) with hb23 | hb23
 replace hm:=itp_t hm hb23
 refine tn<|ctv o rfl hb23<|th<|rg<|qv o (e_fa o fa51_8 rfl) fun a o=>qv o (e_ld o isAgg3 rfl ((St.ld u).cellB t0 rfl)) fun a o=>?_
 iterate 2 refine qa o rfl fun a o=>?_
 refine re<|tn<|wr<|tr<|br<|tr<|br<|tr<|?_
 obtain rfl:=si hm
 exact r2 o results53 rfl rfl ⟨rfl,u.keep⟩
 replace hm:=itp_f hm hb23
 refine tn<|cfv o rfl hb23<|wk<|tn<|th<|th<|?_
 obtain ⟨l24,h25,hm⟩:=bs hm
 obtain ⟨oa26,cap27,e28,e29,hc30,hr31⟩:=SR.sub (sz:=9) hr5 hc4 rfl h25
 obtain ⟨r32,h33,hm⟩:=bs hm
 refine rg<|qm o rfl fun a o=>qm o rfl fun a o=>qv o (e_add o rfl rfl) fun a o=>qm o rfl fun a o=>qv o (e_subL (xs:=p1) (vl:=(IntKind.i64.wrap (vB1+1))) (vh:=(IntKind.i64.wrap ((IntKind.i64.wrap ((IntKind.i64.wrap (vB1+1))+xz8.Body))+xz8.Else))) o runUnderlying46 sizeOf51 rfl hc4 rfl rfl h25 e28 e29) fun a o=>qm o rfl fun a o=>ls<|cq o call53 (ih (hp_le _) hc30 (St.srH u hr31) h33) ⟨rfl,rfl,trivial⟩ u fun w a u o=>qm o rfl fun a o=>?_
 iterate 2 refine qv o (e_ext o rfl rfl) fun a o=>?_
 iterate 2 refine qa o rfl fun a o=>?_
 refine re<|tn<|th<|rg<|qm o rfl fun a o=>re<|?_
 rcases bdich r32.2 with hb34 | hb34
 replace hm:=ite_t hm hb34
 refine tn<|ctv o rfl hb34<|th<|rg<|qm o rfl fun a o=>?_
 iterate 2 refine qa o rfl fun a o=>?_
 refine re<|tn<|wr<|tr<|br<|tr<|br<|tr<|?_
 obtain rfl:=si hm
 exact r2 o results53 rfl rfl ⟨rfl,u.keep⟩
 replace hm:=ite_f hm hb34
 refine tn<|cfv o rfl hb34<|wk<|tn<|rg<|qm o rfl fun a o=>qa o rfl fun a o=>re<|bn<|tn<|?_
 replace u:=u.pickL .nil
 exact ⟨(nn2,(IntKind.i64.wrap ((IntKind.i64.wrap ((IntKind.i64.wrap (vB1+1))+xz8.Body))+xz8.Else))),⟨hm,o.hs,u⟩,Nat.lt_succ_self _⟩
 replace hm:=itp_f hm hb7
 refine tn<|cfv o rfl hb7<|we<|tx<|tx<|bx<|tn<|?_
 exact ⟨hm,o.has trivial,u⟩
 rintro a w ⟨hm,o,u⟩
 unfold Z6o at hm
 refine th<|rg<|qa o rfl fun a o=>qa o rfl fun a o=>re<|tn<|wr<|?_
 obtain rfl:=si hm
 exact r2 o results53 rfl rfl ⟨rfl,u.keep⟩
theorem Z66_c (hH:H.le w0) {cs2:List Value} {p1:api_Thread} (g3:Enc.rep H cs2 p1) {mz5 cz7:Nat} {l6:List (Str×Value×Nat)} {p4:(List (Str×Int))} (hf9:H mz5=some (.map (l6.map (toE kS)).toArray cz7)) (hm8:MRel kI l6 p4) (hg10:MGood l6 cz7) {r:((List (Str×Int))×Bool)} (hm:Z66 N p1 p4=some r):Tot Tryz.prog 54 #[.agg cs2.toArray,.map (some mz5)] w0 (fun v w'=>∃ (vm0:Value) (A0:HA),v=.tuple #[vm0,.bool r.2]∧OMap kS kI vm0 A0 r.1∧Fresh w0 (A0) w'):=by
 unfold Z66 at hm
 refine fn0 func54 rfl ntmps54 rfl rfl fun a o=>?_
 have u:St w0 Nil [H] [] w0:=start1 hH
 obtain ⟨oa11,cap12,oa15,cap16,rfl,hc13,hr14,hc17,hr18⟩:=api_Thread_open g3
 refine th<|rg<|ls<|a_box (cs:=[strv p1.Name,.slice oa11 p1.Regs.length cap12,.slice oa15 p1.Body.length cap16,i6 p1.At].toArray) o rfl u rfl rfl fun b19 w a u o=>?_
 iterate 2 refine qa o rfl fun a o=>?_
 refine re<|tn<|th<|rg<|ls<|a_map o rfl u fun m20 w a u o=>?_
 replace u:=St.gmap0 (kv:=kS) u
 have hm21:MRel (κ:=Str) (β:=Int) kI [] []:=MRel.nil _
 refine qa o rfl fun a o=>re<|tn<|th<|th<|rg<|qm o rfl fun a o=>ls<|m_range o rfl u underlying75 rfl ((Lds.le (St.ld u)) _ _ hf9) fun r22 w a u o=>re<|tn<|wb<|lp (α:=Array Nat) (fun (seen:Array Nat) a w=>∃ (lq:List (Str×Value×Nat)) (cq:Nat),Fr 39 [(13,.pointer (some ⟨r22,0,none⟩)),(2,.pointer (some ⟨b19,0,none⟩)),(6,.map (some m20))] a∧St w0 Nil [H] [itr r22 mz5 cz7 seen cz7,gmap kS m20 lq cq,blk b19 (.cells [strv p1.Name,.slice oa11 p1.Regs.length cap12,.slice oa15 p1.Body.length cap16,i6 p1.At].toArray 48 (0,0))] w∧MFil (kI 4) seen l6 lq) (fun seen=>lft l6 seen) #[] ⟨[],0,o.hs,u,MFil.start⟩ ?_
 rintro seen a w ⟨l23,c24,o,u,hfil⟩
 refine th<|rg<|ls<|m_next o rfl u rfl ((Lds.le (St.ld u)) _ _ hf9) hg10 t0 ?_ ?_
 intro e he hs a w hU o
 replace u:=hU _ .head
 obtain ⟨y,hy⟩:=hm8.val he
 refine qv o (e_ext o rfl rfl) fun a o=>re<|tn<|th<|ct o rfl<|wk<|tn<|wb<|th<|rg<|qv o (e_as (v':=.tuple #[kS e.1,kI y]) (e_entry o rfl (St.blkO u t0) ((Lds.le (St.ld u)) _ _ hf9) hg10 he) (by rw [hy])) fun a o=>?_
 iterate 2 refine qv o (e_ext o rfl rfl) fun a o=>?_
 iterate 2 refine qa o rfl fun a o=>?_
 refine re<|tn<|th<|rg<|qm o rfl fun a o=>qv o (e_neq (m:=y) (n:=4) o rfl rfl) fun a o=>re<|tn<|?_
 rcases bdich (decide (y≠4)) with hb | hb
 refine ctv o rfl hb<|rg<|?_
 iterate 3 refine qm o rfl fun a o=>?_
 refine ls<|m_putR (kv:=kS) (k:=e.1) (v:=e.2.1) o u key9 runUnderlying75 rfl rfl (by rw [hy];rfl) (.tail .head) fun w u=>re<|bn<|tn<|?_
 exact ⟨seen.push e.2.2,⟨_,_,o.hs,u,hfil.keep hm8.dl hg10 he (by rw [hy];exact fun h=>of_decide_eq_true hb (by injection h))⟩,lft_lt he hs⟩
 refine cfv o rfl hb<|wk<|bn<|tn<|?_
 exact ⟨seen.push e.2.2,⟨_,_,o.hs,u,hfil.skip hg10 he (by rw [hy,show y=4 from Classical.byContradiction fun h=>of_decide_eq_false hb h])⟩,lft_lt he hs⟩
 intro hall a o
 refine qv o (e_ext o rfl rfl) fun a o=>?_
 have hm25:=MFil.done (x:=4) (fun _ _ h=>by injection h) hm8 hfil hall
 replace u:=u.drop .head
 refine re<|tn<|th<|cf o rfl<|we<|tx<|tx<|bx<|tn<|th<|th<|rg<|qv o (e_fa o fa48_1 rfl) fun a o=>qv o (e_ld o isAgg36 rfl ((St.ld u).cellB t1 rfl)) fun a o=>qv o (e_lenL (α:=Str) (xs:=p1.Regs) o runUnderlying36 rfl) fun a o=>qm o rfl fun a o=>re<|tn<|midK (fun a w=>∃ (vA1:(List (Str×Int))) (lA2:List (Str×Value×Nat)) (cA3:Nat),Z67 vA1=some r∧Fr 39 [(6,.map (some m20))] a∧St w0 Nil [H] [gmap kS m20 lA2 cA3] w∧MRel kI lA2 vA1) ?_ ?_
 replace u:=u.pk [0] rfl
 refine wb<|lp (α:=Nat×(List (Str×Int))×Int) (fun (gh:Nat×(List (Str×Int))×Int) a w=>match gh with | (nn2,vB1,vB5)=>∃ (lB2:List (Str×Value×Nat)) (cB3:Nat),(Z68 N Z67 p1) nn2 vB1 vB5=some r∧Fr 39 [(6,.map (some m20)),(25,.slice oa11 p1.Regs.length cap12),(26,i6 (p1.Regs.length:Int)),(27,i6 vB5)] a∧St w0 Nil [H] [gmap kS m20 lB2 cB3] w∧MRel kI lB2 vB1) (fun gh=>gh.1) (N,(p4.filter fun q=>decide (q.2≠4)),0) ⟨l23,c24,hm,o.hs,u,hm25⟩ ?_
 rintro ⟨nn2,vB1,vB5⟩ a w ⟨lB2,cB3,hm,o,u,hmB4⟩
 obtain _ | nn2:=nn2
 simp [Z68] at hm
 rw [Z68] at hm
 refine th<|rg<|qv o (e_lss o rfl rfl) fun a o=>re<|?_
 rcases bdich (decide (vB5 < (p1.Regs.length:Int))) with hb26 | hb26
 replace hm:=itp_t hm hb26
 refine tn<|th<|ctv o rfl hb26<|wk<|tn<|th<|wb<|th<|?_
 obtain ⟨x27,h28,hm⟩:=bs hm
 obtain ⟨c29,g30,hl31⟩:=SR.get hr14 h28
 obtain rfl:c29=[strv x27]:=g30
 refine rg<|qv o (e_iaI o Tryz.runUnderlying36 Tryz.sizeOf9 rfl rfl h28 (SR.oaI hr14 (by decide) h28)) fun a o=>qv o (e_ld o isAgg9 rfl (PH.le.cell (Lds.le (St.ld u)) (hl31 0 _ rfl))) fun a o=>qa o rfl fun a o=>re<|tn<|th<|th<|rg<|qm o rfl fun a o=>qm o rfl fun a o=>qv o (e_lookM (ev:=kI) (dv:=0) (m:=vB1) (k:=x27) o key9 runUnderlying75 zeroValue3 (Lds.mapO (St.ld u) t0) rfl rfl hmB4) fun a o=>qv o (e_neq o rfl rfl) fun a o=>re<|?_
 rcases bdich (decide (((plook x27 vB1).getD 0)≠0)) with hb32 | hb32
 replace hm:=itp_t hm hb32
 refine tn<|ctv o rfl hb32<|th<|rg<|qa o rfl fun a o=>qa o rfl fun a o=>re<|tn<|wr<|tr<|br<|tr<|tr<|br<|tr<|?_
 replace u:=St.ds0 u
 obtain rfl:=si hm
 exact r2 o results54 rfl rfl ⟨(.map none),(sepA []),rfl,(.inl ⟨rfl,rfl,rfl⟩),u.endFresh t0⟩
 replace hm:=itp_f hm hb32
 refine tn<|cfv o rfl hb32<|wk<|tn<|rg<|qm o rfl fun a o=>qm o rfl fun a o=>ls<|m_put (ev:=kI) (m:=vB1) (k:=x27) (v:=5) o u key9 runUnderlying75 rfl rfl rfl t0 hmB4 fun l33 c34 w hm35 hU=>?_
 replace u:=hU _ .head
 refine re<|bn<|tn<|rg<|qv o (e_add o rfl rfl) fun a o=>qm o rfl fun a o=>re<|tn<|?_
 exact ⟨(nn2,(pput x27 5 vB1),(IntKind.i64.wrap (vB5+1))),⟨l33,c34,hm,o.hs,u,hm35⟩,Nat.lt_succ_self _⟩
 replace hm:=itp_f hm hb26
 refine tn<|th<|cfv o rfl hb26<|we<|tx<|tx<|bx<|tn<|?_
 exact ⟨vB1,lB2,cB3,hm,o.has ⟨rfl,trivial⟩,u,hmB4⟩
 rintro a w ⟨vA1,lA2,cA3,hm,o,u,hmA4⟩
 unfold Z67 at hm
 refine th<|rg<|qm o rfl fun a o=>?_
 iterate 2 refine qa o rfl fun a o=>?_
 refine re<|tn<|wr<|?_
 obtain rfl:=si hm
 exact r2 o results54 rfl rfl ⟨(.map (some m20)),(gmap kS m20 lA2 cA3),rfl,(.inr ⟨_,_,_,rfl,rfl,hmA4⟩),u.endFresh t0⟩
theorem Z6a_c (hH:H.le w0) {oa2:Option Addr} {cap3:Nat} {p1:(List api_Stmt)} (hc4:p1.length≤cap3) (hr5:SR H oa2 p1) {r:(List api_Stmt)} (hm:Z6a N p1=some r):Tot Tryz.prog 55 #[.slice oa2 p1.length cap3] w0 (fun v w'=>∃ (H':PH) (b0:Nat) (oa0:Option Addr) (cap0:Nat),v=.func (.func 94) #[] #[.pointer (some ⟨b0,0,none⟩)]∧H' b0=some (.cells [.slice oa0 r.length cap0].toArray 46 (0,0))∧r.length≤cap0∧SR H' oa0 r∧Ext w0 H H'∧H'.le w'∧Keep Nil w0 w'):=by
 unfold Z6a at hm
 refine fn0 func55 rfl ntmps55 rfl rfl fun a o=>?_
 have u:St w0 Nil [H] [] w0:=start1 hH
 refine th<|rg<|ls<|a_box (cs:=[.slice oa2 p1.length cap3].toArray) o rfl u rfl rfl fun b6 w a u o=>qa o rfl fun a o=>re<|tn<|th<|rg<|qv o (e_mkf (vs:=[.pointer (some ⟨b6,0,none⟩)]) o ⟨rfl,trivial⟩) fun a o=>qa o rfl fun a o=>re<|tn<|wr<|?_
 obtain ⟨H9,hx7,hb8,u⟩:=St.frzB u .head
 obtain rfl:=si hm
 exact r1 o results55 rfl ⟨H9,b6,_,_,rfl,hb8,hc4,(hr5.mono hx7.sub),hx7,(St.le u),u.keep⟩
end Go.LM.LB
