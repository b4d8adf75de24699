/- Walks, lifted by program. No condition beyond the theorems' own premises. -/
import Derived.Test.YtgdkaddhhpgeiaaGreatDoorLBQ3
namespace Go.LM.LB
open Go Go.LL Go.MD Go.LM Go.Proofs Go.MD.LB Go.Proofs.Tryz
set_option maxRecDepth 100000
variable {N:Nat} {w0:World} {H:PH}
theorem Z1m_c (hH:H.le w0) {p1:Str} {r:Bool} (hm:Z1m N p1=some r):Tot Tryz.prog 114 #[strv p1] w0 (fun v w'=>v=.bool r∧Keep Nil w0 w'):=by
 unfold Z1m at hm
 refine fn0 func114 rfl ntmps114 rfl rfl fun a o=>?_
 have u:St w0 Nil [H] [] w0:=start1 hH
 refine th<|rg<|qa o rfl fun a o=>re<|tn<|th<|th<|midK (fun a w=>∃ (vA1:Bool),(Z1n N p1) vA1=some r∧Fr 40 [(0,strv p1),(21,.bool vA1)] a∧St w0 Nil [H] [] w) ?_ ?_
 rcases bdich ((decide ((p1.length:Int) < 1)) || (decide (16 < (p1.length:Int)))) with hb2 | hb2
 replace hm:=ite_t hm hb2
 refine rg<|qm o rfl fun a o=>qv o (e_lenU (s:=p1) o runUnderlying9 rfl) fun a o=>qv o (e_lss o rfl rfl) fun a o=>qm o rfl fun a o=>grp (N:=40) (Fk:=[(0,strv p1),(11,.bool ((decide ((p1.length:Int) < 1)) || (decide (16 < (p1.length:Int)))))]) (b:=(decide ((p1.length:Int) < 1))) 4 u ?_ ?_ ?_
 intro hb key
 replace o:=Fr.as o (t:=7) rfl (congrArg Value.bool hb)
 iterate 3 refine qn o fun a o=>?_
 refine qv o (e_as (v':=.bool ((decide ((p1.length:Int) < 1)) || (decide (16 < (p1.length:Int))))) (e_pickT o rfl rfl) (by rw [hb];rfl)) fun a o=>?_
 exact key _ _ (o.has ⟨rfl,rfl,trivial⟩) u
 intro hb key
 replace o:=Fr.as o (t:=7) rfl (congrArg Value.bool hb)
 refine qg o (e_move o rfl) fun a o=>qg o (e_lenU (s:=p1) o runUnderlying9 rfl) fun a o=>qg o (e_gtr o rfl rfl) fun a o=>qv o (e_as (v':=.bool ((decide ((p1.length:Int) < 1)) || (decide (16 < (p1.length:Int))))) (e_pickF o rfl rfl) (by rw [hb];rfl)) fun a o=>?_
 exact key _ _ (o.has ⟨rfl,rfl,trivial⟩) u
 intro a w o u
 refine qv o (e_as (e_move o rfl) (congrArg Value.bool hb2)) fun a o=>?_
 iterate 4 refine qn o fun a o=>?_
 refine qv o (e_pickT o rfl rfl) fun a o=>qm o rfl fun a o=>?_
 iterate 2 refine qn o fun a o=>?_
 refine qv o (e_pickT o rfl rfl) fun a o=>re<|tn<|?_
 exact ⟨true,hm,o.has ⟨rfl,rfl,trivial⟩,u⟩
 replace hm:=ite_f hm hb2
 obtain ⟨xz3,h4,hm⟩:=bs hm
 obtain ⟨rz5,h6,hm⟩:=bs hm
 rcases bdich rz5 with hb7 | hb7
 replace hm:=ite_t hm hb7
 have hb7':(!rz5)=false:=by rw [hb7];rfl
 obtain ⟨rz8,h9,hm⟩:=bs hm
 refine rg<|qm o rfl fun a o=>qv o (e_lenU (s:=p1) o runUnderlying9 rfl) fun a o=>qv o (e_lss o rfl rfl) fun a o=>qm o rfl fun a o=>grp (N:=40) (Fk:=[(0,strv p1),(11,.bool ((decide ((p1.length:Int) < 1)) || (decide (16 < (p1.length:Int)))))]) (b:=(decide ((p1.length:Int) < 1))) 4 u ?_ ?_ ?_
 intro hb key
 replace o:=Fr.as o (t:=7) rfl (congrArg Value.bool hb)
 iterate 3 refine qn o fun a o=>?_
 refine qv o (e_as (v':=.bool ((decide ((p1.length:Int) < 1)) || (decide (16 < (p1.length:Int))))) (e_pickT o rfl rfl) (by rw [hb];rfl)) fun a o=>?_
 exact key _ _ (o.has ⟨rfl,rfl,trivial⟩) u
 intro hb key
 replace o:=Fr.as o (t:=7) rfl (congrArg Value.bool hb)
 refine qg o (e_move o rfl) fun a o=>qg o (e_lenU (s:=p1) o runUnderlying9 rfl) fun a o=>qg o (e_gtr o rfl rfl) fun a o=>qv o (e_as (v':=.bool ((decide ((p1.length:Int) < 1)) || (decide (16 < (p1.length:Int))))) (e_pickF o rfl rfl) (by rw [hb];rfl)) fun a o=>?_
 exact key _ _ (o.has ⟨rfl,rfl,trivial⟩) u
 intro a w o u
 refine qv o (e_as (e_move o rfl) (congrArg Value.bool hb2)) fun a o=>qg o (e_move o rfl) fun a o=>qg o (e_byte (s:=p1) o runUnderlying9 rfl rfl h4) fun a o=>ls<|gy o rfl rfl<|cq o call136 (Z25_c (hp_le _) h6) ⟨rfl,trivial⟩ u fun w a u o=>qg o (e_not o rfl) fun a o=>qv o (e_pickF o rfl rfl) fun a o=>qv o (e_as (e_move o rfl) (congrArg Value.bool hb7')) fun a o=>qg o (e_move o rfl) fun a o=>ls<|gy o rfl rfl<|cq o call151 (Z1j_c (hp_le _) h9) ⟨rfl,trivial⟩ u fun w a u o=>qv o (e_pickF o rfl rfl) fun a o=>re<|tn<|?_
 exact ⟨rz8,hm,o.has ⟨rfl,rfl,trivial⟩,u⟩
 replace hm:=ite_f hm hb7
 have hb7':(!rz5)=true:=by rw [hb7];rfl
 refine rg<|qm o rfl fun a o=>qv o (e_lenU (s:=p1) o runUnderlying9 rfl) fun a o=>qv o (e_lss o rfl rfl) fun a o=>qm o rfl fun a o=>grp (N:=40) (Fk:=[(0,strv p1),(11,.bool ((decide ((p1.length:Int) < 1)) || (decide (16 < (p1.length:Int)))))]) (b:=(decide ((p1.length:Int) < 1))) 4 u ?_ ?_ ?_
 intro hb key
 replace o:=Fr.as o (t:=7) rfl (congrArg Value.bool hb)
 iterate 3 refine qn o fun a o=>?_
 refine qv o (e_as (v':=.bool ((decide ((p1.length:Int) < 1)) || (decide (16 < (p1.length:Int))))) (e_pickT o rfl rfl) (by rw [hb];rfl)) fun a o=>?_
 exact key _ _ (o.has ⟨rfl,rfl,trivial⟩) u
 intro hb key
 replace o:=Fr.as o (t:=7) rfl (congrArg Value.bool hb)
 refine qg o (e_move o rfl) fun a o=>qg o (e_lenU (s:=p1) o runUnderlying9 rfl) fun a o=>qg o (e_gtr o rfl rfl) fun a o=>qv o (e_as (v':=.bool ((decide ((p1.length:Int) < 1)) || (decide (16 < (p1.length:Int))))) (e_pickF o rfl rfl) (by rw [hb];rfl)) fun a o=>?_
 exact key _ _ (o.has ⟨rfl,rfl,trivial⟩) u
 intro a w o u
 refine qv o (e_as (e_move o rfl) (congrArg Value.bool hb2)) fun a o=>qg o (e_move o rfl) fun a o=>qg o (e_byte (s:=p1) o runUnderlying9 rfl rfl h4) fun a o=>ls<|gy o rfl rfl<|cq o call136 (Z25_c (hp_le _) h6) ⟨rfl,trivial⟩ u fun w a u o=>qg o (e_not o rfl) fun a o=>qv o (e_pickF o rfl rfl) fun a o=>qv o (e_as (e_move o rfl) (congrArg Value.bool hb7')) fun a o=>?_
 iterate 2 refine qn o fun a o=>?_
 refine qv o (e_pickT o rfl rfl) fun a o=>re<|tn<|?_
 exact ⟨true,hm,o.has ⟨rfl,rfl,trivial⟩,u⟩
 rintro a w ⟨vA1,hm,o,u⟩
 unfold Z1n at hm
 rcases bdich vA1 with hb10 | hb10
 replace hm:=ite_t hm hb10
 refine ctv o rfl hb10<|th<|rg<|qa o rfl fun a o=>re<|tn<|wr<|tr<|?_
 obtain rfl:=si hm
 exact r1 o results114 rfl ⟨rfl,u.keep⟩
 replace hm:=ite_f hm hb10
 refine cfv o rfl hb10<|wk<|tn<|th<|th<|rg<|qa o rfl fun a o=>re<|tn<|midK (fun a w=>Z1o=some r∧Fr 40 [] a∧St w0 Nil [H] [] w) ?_ ?_
 refine wb<|lp (α:=Nat×Int) (fun gh a w=>match gh with | (nn3,vB1)=>(Z1q N Z1o p1) nn3 vB1=some r∧Fr 40 [(0,strv p1),(3,i6 vB1)] a∧St w0 Nil [H] [] w) (fun gh=>gh.1) (N,0) ⟨hm,o.has ⟨rfl,rfl,trivial⟩,u⟩ ?_
 rintro ⟨nn3,vB1⟩ a w ⟨hm,o,u⟩
 obtain _ | nn3:=nn3
 simp [Z1q] at hm
 rw [Z1q] at hm
 refine th<|th<|rg<|qm o rfl fun a o=>qm o rfl fun a o=>qv o (e_lenU (s:=p1) o runUnderlying9 rfl) fun a o=>qv o (e_lss o rfl rfl) fun a o=>re<|?_
 rcases bdich (decide (vB1 < (p1.length:Int))) with hb11 | hb11
 replace hm:=itp_t hm hb11
 refine tn<|ctv o rfl hb11<|wk<|tn<|th<|wb<|th<|midK (fun a w=>∃ (vC1:Bool),(Z1p (Z1q N Z1o p1 nn3) vB1) vC1=some r∧Fr 40 [(0,strv p1),(3,i6 vB1),(39,.bool vC1)] a∧St w0 Nil [H] [] w) ?_ ?_
 obtain ⟨x12,h13,hm⟩:=bs hm
 obtain ⟨r14,h15,hm⟩:=bs hm
 rcases bdich r14 with hb16 | hb16
 replace hm:=ite_t hm hb16
 have hb16':(!r14)=false:=by rw [hb16];rfl
 refine rg<|qm o rfl fun a o=>qm o rfl fun a o=>qv o (e_byte (s:=p1) o runUnderlying9 rfl rfl h13) fun a o=>ls<|cq o call136 (Z25_c (hp_le _) h15) ⟨rfl,trivial⟩ u fun w a u o=>qv o (e_not o rfl) fun a o=>qv o (e_as (e_move o rfl) (congrArg Value.bool hb16')) fun a o=>?_
 iterate 5 refine qn o fun a o=>?_
 refine qv o (e_pickF o rfl rfl) fun a o=>re<|tn<|?_
 exact ⟨false,hm,o.hs,u⟩
 replace hm:=ite_f hm hb16
 have hb16':(!r14)=true:=by rw [hb16];rfl
 obtain ⟨x17,h18,hm⟩:=bs hm
 obtain ⟨r19,h20,hm⟩:=bs hm
 refine rg<|qm o rfl fun a o=>qm o rfl fun a o=>qv o (e_byte (s:=p1) o runUnderlying9 rfl rfl h13) fun a o=>ls<|cq o call136 (Z25_c (hp_le _) h15) ⟨rfl,trivial⟩ u fun w a u o=>qv o (e_not o rfl) fun a o=>qv o (e_as (e_move o rfl) (congrArg Value.bool hb16')) fun a o=>?_
 iterate 2 refine qg o (e_move o rfl) fun a o=>?_
 refine qg o (e_byte (s:=p1) o runUnderlying9 rfl rfl h18) fun a o=>ls<|gy o rfl rfl<|cq o call137 (Z24_c (hp_le _) h20) ⟨rfl,trivial⟩ u fun w a u o=>qg o (e_not o rfl) fun a o=>qv o (e_pickT o rfl rfl) fun a o=>re<|tn<|?_
 exact ⟨(!r19),hm,o.hs,u⟩
 rintro a w ⟨vC1,hm,o,u⟩
 unfold Z1p at hm
 rcases bdich vC1 with hb21 | hb21
 replace hm:=ite_t hm hb21
 refine ctv o rfl hb21<|th<|rg<|qa o rfl fun a o=>re<|tn<|wr<|br<|tr<|tr<|br<|tr<|?_
 obtain rfl:=si hm
 exact r1 o results114 rfl ⟨rfl,u.keep⟩
 replace hm:=ite_f hm hb21
 refine cfv o rfl hb21<|wk<|bn<|tn<|rg<|qm o rfl fun a o=>qv o (e_add o rfl rfl) fun a o=>qa o rfl fun a o=>re<|tn<|?_
 exact ⟨(nn3,(IntKind.i64.wrap (vB1+1))),⟨hm,o.has ⟨rfl,rfl,trivial⟩,u⟩,Nat.lt_succ_self _⟩
 replace hm:=itp_f hm hb11
 refine tn<|cfv o rfl hb11<|we<|tx<|tx<|bx<|tn<|?_
 exact ⟨hm,o.has trivial,u⟩
 rintro a w ⟨hm,o,u⟩
 unfold Z1o at hm
 refine th<|rg<|qa o rfl fun a o=>re<|tn<|wr<|?_
 obtain rfl:=si hm
 exact r1 o results114 rfl ⟨rfl,u.keep⟩
theorem Z2q_c (hH:H.le w0) {p1:Int} {r:Int} (hm:Z2q N p1=some r):Tot Tryz.prog 158 #[i6 p1] w0 (fun v w'=>v=i6 r∧Keep Nil w0 w'):=by
 unfold Z2q at hm
 refine fn0 func158 rfl ntmps158 rfl rfl fun a o=>?_
 have u:St w0 Nil [H] [] w0:=start1 hH
 refine th<|rg<|qa o rfl fun a o=>re<|tn<|th<|th<|rg<|qm o rfl fun a o=>qv o (e_eql o rfl rfl) fun a o=>qm o rfl fun a o=>grp (N:=21) (Fk:=[(0,i6 p1),(8,.bool ((decide (p1=1)) || (decide (p1=2))))]) (b:=(decide (p1=1))) 3 u ?_ ?_ ?_
 intro hb key
 replace o:=Fr.as o (t:=5) rfl (congrArg Value.bool hb)
 iterate 2 refine qn o fun a o=>?_
 refine qv o (e_as (v':=.bool ((decide (p1=1)) || (decide (p1=2)))) (e_pickT o rfl rfl) (by rw [hb];rfl)) fun a o=>?_
 exact key _ _ (o.has ⟨rfl,rfl,trivial⟩) u
 intro hb key
 replace o:=Fr.as o (t:=5) rfl (congrArg Value.bool hb)
 refine qg o (e_move o rfl) fun a o=>qg o (e_eql o rfl rfl) fun a o=>qv o (e_as (v':=.bool ((decide (p1=1)) || (decide (p1=2)))) (e_pickF o rfl rfl) (by rw [hb];rfl)) fun a o=>?_
 exact key _ _ (o.has ⟨rfl,rfl,trivial⟩) u
 intro a w o u
 refine re<|?_
 rcases bdich ((decide (p1=1)) || (decide (p1=2))) with hb2 | hb2
 replace hm:=ite_t hm hb2
 refine tn<|ctv o rfl hb2<|th<|rg<|qa o rfl fun a o=>re<|tn<|wr<|tr<|?_
 obtain rfl:=si hm
 exact r1 o results158 rfl ⟨rfl,u.keep⟩
 replace hm:=ite_f hm hb2
 refine tn<|cfv o rfl hb2<|wk<|tn<|th<|th<|rg<|qm o rfl fun a o=>qv o (e_eql o rfl rfl) fun a o=>qm o rfl fun a o=>grp (N:=21) (Fk:=[(0,i6 p1),(14,.bool ((decide (p1=3)) || (decide (p1=4))))]) (b:=(decide (p1=3))) 3 u ?_ ?_ ?_
 intro hb key
 replace o:=Fr.as o (t:=11) rfl (congrArg Value.bool hb)
 iterate 2 refine qn o fun a o=>?_
 refine qv o (e_as (v':=.bool ((decide (p1=3)) || (decide (p1=4)))) (e_pickT o rfl rfl) (by rw [hb];rfl)) fun a o=>?_
 exact key _ _ (o.has ⟨rfl,rfl,trivial⟩) u
 intro hb key
 replace o:=Fr.as o (t:=11) rfl (congrArg Value.bool hb)
 refine qg o (e_move o rfl) fun a o=>qg o (e_eql o rfl rfl) fun a o=>qv o (e_as (v':=.bool ((decide (p1=3)) || (decide (p1=4)))) (e_pickF o rfl rfl) (by rw [hb];rfl)) fun a o=>?_
 exact key _ _ (o.has ⟨rfl,rfl,trivial⟩) u
 intro a w o u
 refine re<|?_
 rcases bdich ((decide (p1=3)) || (decide (p1=4))) with hb3 | hb3
 replace hm:=ite_t hm hb3
 refine tn<|ctv o rfl hb3<|th<|rg<|qa o rfl fun a o=>re<|tn<|wr<|tr<|?_
 obtain rfl:=si hm
 exact r1 o results158 rfl ⟨rfl,u.keep⟩
 replace hm:=ite_f hm hb3
 refine tn<|cfv o rfl hb3<|wk<|tn<|th<|th<|rg<|qm o rfl fun a o=>qv o (e_geq o rfl rfl) fun a o=>qm o rfl fun a o=>grp (N:=21) (Fk:=[(20,.bool ((decide (5≤p1)) && (decide (p1≤15))))]) (b:=(decide (5≤p1))) 3 u ?_ ?_ ?_
 intro hb key
 replace o:=Fr.as o (t:=17) rfl (congrArg Value.bool hb)
 refine qg o (e_move o rfl) fun a o=>qg o (e_leq o rfl rfl) fun a o=>qv o (e_as (v':=.bool ((decide (5≤p1)) && (decide (p1≤15)))) (e_pickT o rfl rfl) (by rw [hb];rfl)) fun a o=>?_
 exact key _ _ (o.has ⟨rfl,trivial⟩) u
 intro hb key
 replace o:=Fr.as o (t:=17) rfl (congrArg Value.bool hb)
 iterate 2 refine qn o fun a o=>?_
 refine qv o (e_as (v':=.bool ((decide (5≤p1)) && (decide (p1≤15)))) (e_pickF o rfl rfl) (by rw [hb];rfl)) fun a o=>?_
 exact key _ _ (o.has ⟨rfl,trivial⟩) u
 intro a w o u
 refine re<|?_
 rcases bdich ((decide (5≤p1)) && (decide (p1≤15))) with hb4 | hb4
 replace hm:=ite_t hm hb4
 refine tn<|ctv o rfl hb4<|th<|rg<|qa o rfl fun a o=>re<|tn<|wr<|tr<|?_
 obtain rfl:=si hm
 exact r1 o results158 rfl ⟨rfl,u.keep⟩
 replace hm:=ite_f hm hb4
 refine tn<|cfv o rfl hb4<|wk<|tn<|th<|rg<|qa o rfl fun a o=>re<|tn<|wr<|?_
 obtain rfl:=si hm
 exact r1 o results158 rfl ⟨rfl,u.keep⟩
theorem Z2g_c:∀ (N:Nat) {w0:World} {H:PH} (_:H.le w0) {oa2:Option Addr} {cap3:Nat} {p1:(List api_Node)} (_:p1.length≤cap3) (_:SR H oa2 p1) {p6:Int} {r:Int} (_:Z2g N p1 p6=some r),Tot Tryz.prog 133 #[.slice oa2 p1.length cap3,i6 p6] w0 (fun v w'=>v=i6 r∧Keep Nil w0 w'):=by
 intro N
 induction N with
  | zero=>intros;rename_i hm;simp [Z2g] at hm
  | succ N ih=>
 intro w0 H hH oa2 cap3 p1 hc4 hr5 p6 r hm
 rw [Z2g] at hm
 refine fn0 func133 rfl ntmps133 rfl rfl fun a o=>?_
 have u:St w0 Nil [H] [] w0:=start1 hH
 refine th<|rg<|qa o rfl fun a o=>re<|tn<|th<|th<|midK (fun a w=>∃ (vA1:Bool),(Z2h (Z2g N) N p1 p6) vA1=some r∧Fr 44 [(0,.slice oa2 p1.length cap3),(1,i6 p6),(23,.bool vA1)] a∧St w0 Nil [H] [] w) ?_ ?_
 rcases bdich ((decide (p6 < 0)) || (decide ((p1.length:Int)≤p6))) with hb7 | hb7
 replace hm:=ite_t hm hb7
 refine rg<|qm o rfl fun a o=>qv o (e_lss o rfl rfl) fun a o=>qm o rfl fun a o=>grp (N:=44) (Fk:=[(0,.slice oa2 p1.length cap3),(1,i6 p6),(14,.bool ((decide (p6 < 0)) || (decide ((p1.length:Int)≤p6))))]) (b:=(decide (p6 < 0))) 5 u ?_ ?_ ?_
 intro hb key
 replace o:=Fr.as o (t:=9) rfl (congrArg Value.bool hb)
 iterate 4 refine qn o fun a o=>?_
 refine qv o (e_as (v':=.bool ((decide (p6 < 0)) || (decide ((p1.length:Int)≤p6)))) (e_pickT o rfl rfl) (by rw [hb];rfl)) fun a o=>?_
 exact key _ _ (o.hs) u
 intro hb key
 replace o:=Fr.as o (t:=9) rfl (congrArg Value.bool hb)
 iterate 2 refine qg o (e_move o rfl) fun a o=>?_
 refine qg o (e_lenL (α:=api_Node) (xs:=p1) o runUnderlying49 rfl) fun a o=>qg o (e_geq o rfl rfl) fun a o=>qv o (e_as (v':=.bool ((decide (p6 < 0)) || (decide ((p1.length:Int)≤p6)))) (e_pickF o rfl rfl) (by rw [hb];rfl)) fun a o=>?_
 exact key _ _ (o.hs) u
 intro a w o u
 refine qv o (e_as (e_move o rfl) (congrArg Value.bool hb7)) fun a o=>?_
 iterate 7 refine qn o fun a o=>?_
 refine qv o (e_pickT o rfl rfl) fun a o=>re<|tn<|?_
 exact ⟨true,hm,o.hs,u⟩
 replace hm:=ite_f hm hb7
 obtain ⟨xz8,h9,hm⟩:=bs hm
 obtain ⟨c10,g11,hl12⟩:=SR.get hr5 h9
 obtain rfl:=api_Node_open g11
 obtain ⟨r13,h14,hm⟩:=bs hm
 refine rg<|qm o rfl fun a o=>qv o (e_lss o rfl rfl) fun a o=>qm o rfl fun a o=>grp (N:=44) (Fk:=[(0,.slice oa2 p1.length cap3),(1,i6 p6),(14,.bool ((decide (p6 < 0)) || (decide ((p1.length:Int)≤p6))))]) (b:=(decide (p6 < 0))) 5 u ?_ ?_ ?_
 intro hb key
 replace o:=Fr.as o (t:=9) rfl (congrArg Value.bool hb)
 iterate 4 refine qn o fun a o=>?_
 refine qv o (e_as (v':=.bool ((decide (p6 < 0)) || (decide ((p1.length:Int)≤p6)))) (e_pickT o rfl rfl) (by rw [hb];rfl)) fun a o=>?_
 exact key _ _ (o.hs) u
 intro hb key
 replace o:=Fr.as o (t:=9) rfl (congrArg Value.bool hb)
 iterate 2 refine qg o (e_move o rfl) fun a o=>?_
 refine qg o (e_lenL (α:=api_Node) (xs:=p1) o runUnderlying49 rfl) fun a o=>qg o (e_geq o rfl rfl) fun a o=>qv o (e_as (v':=.bool ((decide (p6 < 0)) || (decide ((p1.length:Int)≤p6)))) (e_pickF o rfl rfl) (by rw [hb];rfl)) fun a o=>?_
 exact key _ _ (o.hs) u
 intro a w o u
 refine qv o (e_as (e_move o rfl) (congrArg Value.bool hb7)) fun a o=>?_
 iterate 2 refine qg o (e_move o rfl) fun a o=>?_
 refine qg o (e_iaI o runUnderlying49 sizeOf90 rfl rfl h9 (SR.oaI hr5 (by decide) h9)) fun a o=>qg o (e_fa o fa90_0 rfl) fun a o=>qg o (e_ld o isAgg3 rfl (PH.le.cell (Lds.le (St.ld u)) (hl12 0 _ rfl))) fun a o=>ls<|gy o rfl rfl<|cq o call158 (Z2q_c (hp_le _) h14) ⟨rfl,trivial⟩ u fun w a u o=>qg o (e_lss o rfl rfl) fun a o=>qv o (e_pickF o rfl rfl) fun a o=>re<|tn<|?_
 exact ⟨(decide (r13 < 0)),hm,o.hs,u⟩
 rintro a w ⟨vA1,hm,o,u⟩
 unfold Z2h at hm
 rcases bdich vA1 with hb15 | hb15
 replace hm:=ite_t hm hb15
 refine ctv o rfl hb15<|th<|rg<|qa o rfl fun a o=>re<|tn<|wr<|tr<|?_
 obtain rfl:=si hm
 exact r1 o results133 rfl ⟨rfl,u.keep⟩
 replace hm:=ite_f hm hb15
 refine cfv o rfl hb15<|wk<|tn<|th<|rg<|qm o rfl fun a o=>qv o (e_add o rfl rfl) fun a o=>qa o rfl fun a o=>re<|tn<|th<|th<|rg<|qa o rfl fun a o=>re<|tn<|midK (fun a w=>∃ (vA2:Int),Z2i vA2=some r∧Fr 44 [(5,i6 vA2)] a∧St w0 Nil [H] [] w) ?_ ?_
 refine wb<|lp (α:=Nat×Int×Int) (fun gh a w=>match gh with | (nn3,vB1,vB2)=>(Z2j (Z2g N) N Z2i p1 p6) nn3 vB1 vB2=some r∧Fr 44 [(0,.slice oa2 p1.length cap3),(1,i6 p6),(5,i6 vB1),(6,i6 vB2)] a∧St w0 Nil [H] [] w) (fun gh=>gh.1) (N,(IntKind.i64.wrap (p6+1)),0) ⟨hm,o.hs,u⟩ ?_
 rintro ⟨nn3,vB1,vB2⟩ a w ⟨hm,o,u⟩
 obtain _ | nn3:=nn3
 simp [Z2j] at hm
 rw [Z2j] at hm
 refine th<|th<|?_
 obtain ⟨x16,h17,hm⟩:=bs hm
 obtain ⟨c18,g19,hl20⟩:=SR.get hr5 h17
 obtain rfl:=api_Node_open g19
 obtain ⟨r21,h22,hm⟩:=bs hm
 refine rg<|qm o rfl fun a o=>?_
 iterate 2 refine qm o rfl fun a o=>?_
 refine qv o (e_iaI o runUnderlying49 sizeOf90 rfl rfl h17 (SR.oaI hr5 (by decide) h17)) fun a o=>qv o (e_fa o fa90_0 rfl) fun a o=>qv o (e_ld o isAgg3 rfl (PH.le.cell (Lds.le (St.ld u)) (hl20 0 _ rfl))) fun a o=>ls<|cq o call158 (Z2q_c (hp_le _) h22) ⟨rfl,trivial⟩ u fun w a u o=>qv o (e_lss o rfl rfl) fun a o=>qm o rfl fun a o=>grp (N:=44) (Fk:=[(0,.slice oa2 p1.length cap3),(1,i6 p6),(5,i6 vB1),(6,i6 vB2),(37,.bool ((decide (vB2 < r21)) && (decide (0≤vB1))))]) (b:=(decide (vB2 < r21))) 3 u ?_ ?_ ?_
 intro hb key
 replace o:=Fr.as o (t:=34) rfl (congrArg Value.bool hb)
 refine qg o (e_move o rfl) fun a o=>qg o (e_geq o rfl rfl) fun a o=>qv o (e_as (v':=.bool ((decide (vB2 < r21)) && (decide (0≤vB1)))) (e_pickT o rfl rfl) (by rw [hb];rfl)) fun a o=>?_
 exact key _ _ (o.hs) u
 intro hb key
 replace o:=Fr.as o (t:=34) rfl (congrArg Value.bool hb)
 iterate 2 refine qn o fun a o=>?_
 refine qv o (e_as (v':=.bool ((decide (vB2 < r21)) && (decide (0≤vB1)))) (e_pickF o rfl rfl) (by rw [hb];rfl)) fun a o=>?_
 exact key _ _ (o.hs) u
 intro a w o u
 refine re<|?_
 rcases bdich ((decide (vB2 < r21)) && (decide (0≤vB1))) with hb23 | hb23
 replace hm:=ite_t hm hb23
 refine tn<|ctv o rfl hb23<|wk<|tn<|th<|wb<|?_
 obtain ⟨r24,h25,hm⟩:=bs hm
 refine rg<|qm o rfl fun a o=>qm o rfl fun a o=>ls<|cq o call133 (ih (hp_le _) hc4 (St.srH u hr5) h25) ⟨rfl,rfl,trivial⟩ u fun w a u o=>qa o rfl fun a o=>re<|bn<|tn<|rg<|qm o rfl fun a o=>qv o (e_add o rfl rfl) fun a o=>qa o rfl fun a o=>re<|tn<|?_
 exact ⟨(nn3,r24,(IntKind.i64.wrap (vB2+1))),⟨hm,o.hs,u⟩,Nat.lt_succ_self _⟩
 replace hm:=ite_f hm hb23
 refine tn<|cfv o rfl hb23<|we<|tx<|tx<|bx<|tn<|?_
 exact ⟨vB1,hm,o.has ⟨rfl,trivial⟩,u⟩
 rintro a w ⟨vA2,hm,o,u⟩
 unfold Z2i at hm
 refine th<|rg<|qm o rfl fun a o=>qa o rfl fun a o=>re<|tn<|wr<|?_
 obtain rfl:=si hm
 exact r1 o results133 rfl ⟨rfl,u.keep⟩
theorem Z2z_c:∀ (N:Nat) {w0:World} {H:PH} (_:H.le w0) {oa2:Option Addr} {cap3:Nat} {p1:(List api_Node)} (_:p1.length≤cap3) (_:SR H oa2 p1) {p6:Int} {r:Int} (_:Z2z N p1 p6=some r),Tot Tryz.prog 134 #[.slice oa2 p1.length cap3,i6 p6] w0 (fun v w'=>v=i6 r∧Keep Nil w0 w'):=by
 intro N
 induction N with
  | zero=>intros;rename_i hm;simp [Z2z] at hm
  | succ N ih=>
 intro w0 H hH oa2 cap3 p1 hc4 hr5 p6 r hm
 rw [Z2z] at hm
 refine fn0 func134 rfl ntmps134 rfl rfl fun a o=>?_
 have u:St w0 Nil [H] [] w0:=start1 hH
 refine th<|rg<|qa o rfl fun a o=>re<|tn<|th<|rg<|qm o rfl fun a o=>qv o (e_add o rfl rfl) fun a o=>?_
 iterate 2 refine qa o rfl fun a o=>?_
 refine re<|tn<|th<|th<|rg<|qa o rfl fun a o=>re<|tn<|midK (fun a w=>∃ (vA1:Int),Z30 vA1=some r∧Fr 30 [(5,i6 vA1)] a∧St w0 Nil [H] [] w) ?_ ?_
 refine wb<|lp (α:=Nat×Int×Int×Int) (fun gh a w=>match gh with | (nn2,vB1,vB2,vB3)=>(Z31 (Z2z N) N Z30 p1 p6) nn2 vB1 vB2 vB3=some r∧Fr 30 [(0,.slice oa2 p1.length cap3),(1,i6 p6),(5,i6 vB1),(6,i6 vB2),(7,i6 vB3)] a∧St w0 Nil [H] [] w) (fun gh=>gh.1) (N,0,(IntKind.i64.wrap (p6+1)),0) ⟨hm,o.hs,u⟩ ?_
 rintro ⟨nn2,vB1,vB2,vB3⟩ a w ⟨hm,o,u⟩
 obtain _ | nn2:=nn2
 simp [Z31] at hm
 rw [Z31] at hm
 refine th<|th<|?_
 obtain ⟨xz7,h8,hm⟩:=bs hm
 obtain ⟨cz9,g10,hl11⟩:=SR.get hr5 h8
 obtain rfl:=api_Node_open g10
 obtain ⟨r12,h13,hm⟩:=bs hm
 refine rg<|qm o rfl fun a o=>?_
 iterate 2 refine qm o rfl fun a o=>?_
 refine qv o (e_iaI o runUnderlying49 sizeOf90 rfl rfl h8 (SR.oaI hr5 (by decide) h8)) fun a o=>qv o (e_fa o fa90_0 rfl) fun a o=>qv o (e_ld o isAgg3 rfl (PH.le.cell (Lds.le (St.ld u)) (hl11 0 _ rfl))) fun a o=>ls<|cq o call158 (Z2q_c (hp_le _) h13) ⟨rfl,trivial⟩ u fun w a u o=>qv o (e_lss o rfl rfl) fun a o=>re<|?_
 rcases bdich (decide (vB3 < r12)) with hb14 | hb14
 replace hm:=itp_t hm hb14
 refine tn<|ctv o rfl hb14<|wk<|tn<|th<|wb<|th<|?_
 obtain ⟨r15,h16,hm⟩:=bs hm
 refine rg<|qm o rfl fun a o=>?_
 iterate 2 refine qm o rfl fun a o=>?_
 refine ls<|cq o call134 (ih (hp_le _) hc4 (St.srH u hr5) h16) ⟨rfl,rfl,trivial⟩ u fun w a u o=>qv o (e_max o rfl rfl) fun a o=>qa o rfl fun a o=>re<|tn<|?_
 obtain ⟨r17,h18,hm⟩:=bs hm
 refine rg<|qm o rfl fun a o=>qm o rfl fun a o=>ls<|cq o call133 (Z2g_c _ (hp_le _) hc4 (St.srH u hr5) h18) ⟨rfl,rfl,trivial⟩ u fun w a u o=>qa o rfl fun a o=>re<|bn<|tn<|rg<|qm o rfl fun a o=>qv o (e_add o rfl rfl) fun a o=>qa o rfl fun a o=>re<|tn<|?_
 exact ⟨(nn2,(max vB1 r15),r17,(IntKind.i64.wrap (vB3+1))),⟨hm,o.hs,u⟩,Nat.lt_succ_self _⟩
 replace hm:=itp_f hm hb14
 refine tn<|cfv o rfl hb14<|we<|tx<|tx<|bx<|tn<|?_
 exact ⟨vB1,hm,o.has ⟨rfl,trivial⟩,u⟩
 rintro a w ⟨vA1,hm,o,u⟩
 unfold Z30 at hm
 refine th<|rg<|qm o rfl fun a o=>qv o (e_add o rfl rfl) fun a o=>qa o rfl fun a o=>re<|tn<|wr<|?_
 obtain rfl:=si hm
 exact r1 o results134 rfl ⟨rfl,u.keep⟩
theorem Z23_c (hH:H.le w0) {p1:Str} {p2:Int} {p3:Str} {r:Bool} (hm:Z23 N p1 p2 p3=some r):Tot Tryz.prog 159 #[strv p1,i6 p2,strv p3] w0 (fun v w'=>v=.bool r∧Keep Nil w0 w'):=by
 unfold Z23 at hm
 refine fn0 func159 rfl ntmps159 rfl rfl fun a o=>?_
 have u:St w0 Nil [H] [] w0:=start1 hH
 refine th<|rg<|qa o rfl fun a o=>re<|tn<|th<|?_
 rcases bdich (decide ((IntKind.i64.wrap (p2+(p3.length:Int)))≤(p1.length:Int))) with hb4 | hb4
 replace hm:=itp_t hm hb4
 obtain ⟨s5,h6,hm⟩:=bs hm
 refine rg<|qm o rfl fun a o=>qm o rfl fun a o=>qv o (e_lenU (s:=p3) o runUnderlying9 rfl) fun a o=>qv o (e_add o rfl rfl) fun a o=>qm o rfl fun a o=>qv o (e_lenU (s:=p1) o runUnderlying9 rfl) fun a o=>qv o (e_leq o rfl rfl) fun a o=>qv o (e_as (e_move o rfl) (congrArg Value.bool hb4)) fun a o=>?_
 iterate 4 refine qg o (e_move o rfl) fun a o=>?_
 refine qg o (e_lenU (s:=p3) o runUnderlying9 rfl) fun a o=>qg o (e_add o rfl rfl) fun a o=>qg o (e_subU (s:=p1) (vl:=p2) (vh:=(IntKind.i64.wrap (p2+(p3.length:Int)))) o runUnderlying9 rfl rfl rfl h6) fun a o=>qg o (e_move o rfl) fun a o=>qg o (e_eqlU (m:=s5) (n:=p3) o rfl rfl) fun a o=>qv o (e_pickT o rfl rfl) fun a o=>qa o rfl fun a o=>re<|tn<|wr<|?_
 obtain rfl:=si hm
 exact r1 o results159 rfl ⟨rfl,u.keep⟩
 replace hm:=itp_f hm hb4
 refine rg<|qm o rfl fun a o=>qm o rfl fun a o=>qv o (e_lenU (s:=p3) o runUnderlying9 rfl) fun a o=>qv o (e_add o rfl rfl) fun a o=>qm o rfl fun a o=>qv o (e_lenU (s:=p1) o runUnderlying9 rfl) fun a o=>qv o (e_leq o rfl rfl) fun a o=>qv o (e_as (e_move o rfl) (congrArg Value.bool hb4)) fun a o=>?_
 iterate 9 refine qn o fun a o=>?_
 refine qv o (e_pickF o rfl rfl) fun a o=>qa o rfl fun a o=>re<|tn<|wr<|?_
 obtain rfl:=si hm
 exact r1 o results159 rfl ⟨rfl,u.keep⟩
theorem Z26_c (hH:H.le w0) {p1:Str} {p2:Int} {r:Int} (hm:Z26 N p1 p2=some r):Tot Tryz.prog 135 #[strv p1,i6 p2] w0 (fun v w'=>v=i6 r∧Keep Nil w0 w'):=by
 unfold Z26 at hm
 refine fn0 func135 rfl ntmps135 rfl rfl fun a o=>?_
 have u:St w0 Nil [H] [] w0:=start1 hH
 refine th<|rg<|qa o rfl fun a o=>re<|tn<|th<|midK (fun a w=>∃ (vA1:Int),Z27 vA1=some r∧Fr 46 [(1,i6 vA1)] a∧St w0 Nil [H] [] w) ?_ ?_
 refine wb<|lp (α:=Nat×Int) (fun gh a w=>match gh with | (nn2,vB1)=>(Z29 N Z27 p1) nn2 vB1=some r∧Fr 46 [(0,strv p1),(1,i6 vB1)] a∧St w0 Nil [H] [] w) (fun gh=>gh.1) (N,p2) ⟨hm,o.has ⟨rfl,rfl,trivial⟩,u⟩ ?_
 rintro ⟨nn2,vB1⟩ a w ⟨hm,o,u⟩
 obtain _ | nn2:=nn2
 simp [Z29] at hm
 rw [Z29] at hm
 refine th<|th<|rg<|qm o rfl fun a o=>qm o rfl fun a o=>qv o (e_lenU (s:=p1) o runUnderlying9 rfl) fun a o=>qv o (e_lss o rfl rfl) fun a o=>re<|?_
 rcases bdich (decide (vB1 < (p1.length:Int))) with hb3 | hb3
 replace hm:=itp_t hm hb3
 refine tn<|ctv o rfl hb3<|wk<|tn<|wb<|th<|?_
 obtain ⟨xz4,h5,hm⟩:=bs hm
 refine rg<|qm o rfl fun a o=>qm o rfl fun a o=>qv o (e_byte (s:=p1) o runUnderlying9 rfl rfl h5) fun a o=>qa o rfl fun a o=>re<|tn<|th<|rg<|qm o rfl fun a o=>qv o (e_eql o rfl rfl) fun a o=>qm o rfl fun a o=>grp (N:=46) (Fk:=[(0,strv p1),(1,i6 vB1),(5,.int .u8 xz4),(18,.bool ((decide (xz4=32)) || (decide (xz4=9))))]) (b:=(decide (xz4=32))) 3 u ?_ ?_ ?_
 intro hb key
 replace o:=Fr.as o (t:=15) rfl (congrArg Value.bool hb)
 iterate 2 refine qn o fun a o=>?_
 refine qv o (e_as (v':=.bool ((decide (xz4=32)) || (decide (xz4=9)))) (e_pickT o rfl rfl) (by rw [hb];rfl)) fun a o=>?_
 exact key _ _ (o.hs) u
 intro hb key
 replace o:=Fr.as o (t:=15) rfl (congrArg Value.bool hb)
 refine qg o (e_move o rfl) fun a o=>qg o (e_eql o rfl rfl) fun a o=>qv o (e_as (v':=.bool ((decide (xz4=32)) || (decide (xz4=9)))) (e_pickF o rfl rfl) (by rw [hb];rfl)) fun a o=>?_
 exact key _ _ (o.hs) u
 intro a w o u
 refine qm o rfl fun a o=>grp (N:=46) (Fk:=[(0,strv p1),(1,i6 vB1),(5,.int .u8 xz4),(22,.bool (((decide (xz4=32)) || (decide (xz4=9))) || (decide (xz4=10))))]) (b:=((decide (xz4=32)) || (decide (xz4=9)))) 3 u ?_ ?_ ?_
 intro hb key
 replace o:=Fr.as o (t:=19) rfl (congrArg Value.bool hb)
 iterate 2 refine qn o fun a o=>?_
 refine qv o (e_as (v':=.bool (((decide (xz4=32)) || (decide (xz4=9))) || (decide (xz4=10)))) (e_pickT o rfl rfl) (by rw [hb];rfl)) fun a o=>?_
 exact key _ _ (o.hs) u
 intro hb key
 replace o:=Fr.as o (t:=19) rfl (congrArg Value.bool hb)
 refine qg o (e_move o rfl) fun a o=>qg o (e_eql o rfl rfl) fun a o=>qv o (e_as (v':=.bool (((decide (xz4=32)) || (decide (xz4=9))) || (decide (xz4=10)))) (e_pickF o rfl rfl) (by rw [hb];rfl)) fun a o=>?_
 exact key _ _ (o.hs) u
 intro a w o u
 refine qm o rfl fun a o=>grp (N:=46) (Fk:=[(0,strv p1),(1,i6 vB1),(26,.bool ((((decide (xz4=32)) || (decide (xz4=9))) || (decide (xz4=10))) || (decide (xz4=13))))]) (b:=(((decide (xz4=32)) || (decide (xz4=9))) || (decide (xz4=10)))) 3 u ?_ ?_ ?_
 intro hb key
 replace o:=Fr.as o (t:=23) rfl (congrArg Value.bool hb)
 iterate 2 refine qn o fun a o=>?_
 refine qv o (e_as (v':=.bool ((((decide (xz4=32)) || (decide (xz4=9))) || (decide (xz4=10))) || (decide (xz4=13)))) (e_pickT o rfl rfl) (by rw [hb];rfl)) fun a o=>?_
 exact key _ _ (o.hs) u
 intro hb key
 replace o:=Fr.as o (t:=23) rfl (congrArg Value.bool hb)
 refine qg o (e_move o rfl) fun a o=>qg o (e_eql o rfl rfl) fun a o=>qv o (e_as (v':=.bool ((((decide (xz4=32)) || (decide (xz4=9))) || (decide (xz4=10))) || (decide (xz4=13)))) (e_pickF o rfl rfl) (by rw [hb];rfl)) fun a o=>?_
 exact key _ _ (o.hs) u
 intro a w o u
 refine re<|?_
 rcases bdich ((((decide (xz4=32)) || (decide (xz4=9))) || (decide (xz4=10))) || (decide (xz4=13))) with hb6 | hb6
 replace hm:=ite_t hm hb6
 refine tn<|ctv o rfl hb6<|rg<|qm o rfl fun a o=>qv o (e_add o rfl rfl) fun a o=>qa o rfl fun a o=>re<|bn<|tn<|?_
 exact ⟨(nn2,(IntKind.i64.wrap (vB1+1))),⟨hm,o.has ⟨rfl,rfl,trivial⟩,u⟩,Nat.lt_succ_self _⟩
 replace hm:=ite_f hm hb6
 refine tn<|cfv o rfl hb6<|th<|?_
 obtain ⟨rz7,h8,hm⟩:=bs hm
 refine rg<|qm o rfl fun a o=>qm o rfl fun a o=>ls<|cq o call159 (Z23_c (hp_le _) h8) ⟨rfl,rfl,rfl,trivial⟩ u fun w a u o=>re<|?_
 rcases bdich rz7 with hb9 | hb9
 replace hm:=ite_t hm hb9
 refine tn<|ctv o rfl hb9<|wb<|lp (α:=Nat×Int) (fun gh a w=>match gh with | (nn3,vC1)=>(Z2a N (Z29 N Z27 p1 nn2) p1) nn3 vC1=some r∧Fr 46 [(0,strv p1),(1,i6 vC1)] a∧St w0 Nil [H] [] w) (fun gh=>gh.1) (N,vB1) ⟨hm,o.has ⟨rfl,rfl,trivial⟩,u⟩ ?_
 rintro ⟨nn3,vC1⟩ a w ⟨hm,o,u⟩
 obtain _ | nn3:=nn3
 simp [Z2a] at hm
 rw [Z2a] at hm
 refine th<|th<|midK (fun a w=>∃ (vD1:Bool),(Z28 (Z29 N Z27 p1 nn2) (Z2a N (Z29 N Z27 p1 nn2) p1 nn3) vC1) vD1=some r∧Fr 46 [(0,strv p1),(1,i6 vC1),(41,.bool vD1)] a∧St w0 Nil [H] [] w) ?_ ?_
 rcases bdich (decide (vC1 < (p1.length:Int))) with hb10 | hb10
 replace hm:=itp_t hm hb10
 obtain ⟨x11,h12,hm⟩:=bs hm
 refine rg<|qm o rfl fun a o=>qm o rfl fun a o=>qv o (e_lenU (s:=p1) o runUnderlying9 rfl) fun a o=>qv o (e_lss o rfl rfl) fun a o=>qv o (e_as (e_move o rfl) (congrArg Value.bool hb10)) fun a o=>?_
 iterate 2 refine qg o (e_move o rfl) fun a o=>?_
 refine qg o (e_byte (s:=p1) o runUnderlying9 rfl rfl h12) fun a o=>qg o (e_neq o rfl rfl) fun a o=>qv o (e_pickT o rfl rfl) fun a o=>re<|tn<|?_
 exact ⟨(decide (x11≠10)),hm,o.hs,u⟩
 replace hm:=itp_f hm hb10
 refine rg<|qm o rfl fun a o=>qm o rfl fun a o=>qv o (e_lenU (s:=p1) o runUnderlying9 rfl) fun a o=>qv o (e_lss o rfl rfl) fun a o=>qv o (e_as (e_move o rfl) (congrArg Value.bool hb10)) fun a o=>?_
 iterate 4 refine qn o fun a o=>?_
 refine qv o (e_pickF o rfl rfl) fun a o=>re<|tn<|?_
 exact ⟨false,hm,o.hs,u⟩
 rintro a w ⟨vD1,hm,o,u⟩
 unfold Z28 at hm
 rcases bdich vD1 with hb13 | hb13
 replace hm:=ite_t hm hb13
 refine ctv o rfl hb13<|wk<|tn<|wb<|rg<|qm o rfl fun a o=>qv o (e_add o rfl rfl) fun a o=>qa o rfl fun a o=>re<|bn<|tn<|?_
 exact ⟨(nn3,(IntKind.i64.wrap (vC1+1))),⟨hm,o.has ⟨rfl,rfl,trivial⟩,u⟩,Nat.lt_succ_self _⟩
 replace hm:=ite_f hm hb13
 refine cfv o rfl hb13<|we<|tx<|tx<|bx<|bn<|tn<|?_
 exact ⟨(nn2,vC1),⟨hm,o.has ⟨rfl,rfl,trivial⟩,u⟩,Nat.lt_succ_self _⟩
 replace hm:=ite_f hm hb9
 refine tn<|cfv o rfl hb9<|th<|rg<|qm o rfl fun a o=>qa o rfl fun a o=>re<|tn<|wr<|br<|tr<|br<|tr<|?_
 obtain rfl:=si hm
 exact r1 o results135 rfl ⟨rfl,u.keep⟩
 replace hm:=itp_f hm hb3
 refine tn<|cfv o rfl hb3<|we<|tx<|tx<|bx<|tn<|?_
 exact ⟨vB1,hm,o.has ⟨rfl,trivial⟩,u⟩
 rintro a w ⟨vA1,hm,o,u⟩
 unfold Z27 at hm
 refine th<|rg<|qm o rfl fun a o=>qa o rfl fun a o=>re<|tn<|wr<|?_
 obtain rfl:=si hm
 exact r1 o results135 rfl ⟨rfl,u.keep⟩
theorem Z2b_c (hH:H.le w0) {p1:Str} {p2:Int} {r:Int} (hm:Z2b N p1 p2=some r):Tot Tryz.prog 138 #[strv p1,i6 p2] w0 (fun v w'=>v=i6 r∧Keep Nil w0 w'):=by
 unfold Z2b at hm
 refine fn0 func138 rfl ntmps138 rfl rfl fun a o=>?_
 have u:St w0 Nil [H] [] w0:=start1 hH
 refine th<|rg<|qa o rfl fun a o=>re<|tn<|th<|rg<|ls<|a_bsl (e:=9) (sz:=1) [strv [61,61],strv [33,61],strv [60,61],strv [38,38],strv [124,124]] o rfl u rfl rfl rfl (fun w=>by kernel_rfl) fun b4 w a u o=>?_
 have hv3:Rows (α:=Str) H [strv [61,61],strv [33,61],strv [60,61],strv [38,38],strv [124,124]] ([[61,61],[33,61],[60,61],[38,38],[124,124]]:List Str):=(.cons (c:=[strv [61,61]]) rfl (.cons (c:=[strv [33,61]]) rfl (.cons (c:=[strv [60,61]]) rfl (.cons (c:=[strv [38,38]]) rfl (.cons (c:=[strv [124,124]]) rfl .nil)))))
 iterate 2 refine qa o rfl fun a o=>?_
 refine re<|tn<|th<|th<|rg<|qa o rfl fun a o=>re<|tn<|midK (fun a w=>(Z2c N p1 p2)=some r∧Fr 36 [(0,strv p1),(1,i6 p2),(6,strv [40,41,123,125,59,44,61,60,33,43,45,42,47,37])] a∧St w0 Nil [H] [] w) ?_ ?_
 refine wb<|lp (α:=Nat×Int) (fun gh a w=>match gh with | (nn2,vB1)=>(Z2e N (Z2c N p1 p2) p1 p2) nn2 vB1=some r∧Fr 36 [(0,strv p1),(1,i6 p2),(5,.slice (some ⟨b4,0,none⟩) ([[61,61],[33,61],[60,61],[38,38],[124,124]]:List Str).length 5),(6,strv [40,41,123,125,59,44,61,60,33,43,45,42,47,37]),(7,i6 vB1)] a∧St w0 Nil [H] [sla 9 1 (some ⟨b4,0,none⟩) ([[61,61],[33,61],[60,61],[38,38],[124,124]]:List Str).length 5 [strv [61,61],strv [33,61],strv [60,61],strv [38,38],strv [124,124]]] w) (fun gh=>gh.1) (N,0) ⟨hm,o.hs,u⟩ ?_
 rintro ⟨nn2,vB1⟩ a w ⟨hm,o,u⟩
 obtain _ | nn2:=nn2
 simp [Z2e] at hm
 rw [Z2e] at hm
 refine th<|th<|rg<|qm o rfl fun a o=>qm o rfl fun a o=>qv o (e_lenL (α:=Str) (xs:=([[61,61],[33,61],[60,61],[38,38],[124,124]]:List Str)) o runUnderlying36 rfl) fun a o=>qv o (e_lss o rfl rfl) fun a o=>re<|?_
 rcases bdich (decide (vB1 < (([[61,61],[33,61],[60,61],[38,38],[124,124]]:List Str).length:Int))) with hb6 | hb6
 replace hm:=itp_t hm hb6
 refine tn<|ctv o rfl hb6<|wk<|tn<|th<|wb<|th<|?_
 obtain ⟨xz7,h8,hm⟩:=bs hm
 have ho9:=Rd.oaI (u.rdO t0) hv3 (by decide) h8
 obtain ⟨c10,g11,hl12⟩:=Rows.getI hv3 h8
 obtain rfl:c10=[strv xz7]:=g11
 obtain ⟨r13,h14,hm⟩:=bs hm
 refine rg<|qm o rfl fun a o=>?_
 iterate 3 refine qm o rfl fun a o=>?_
 refine qv o (e_iaI o runUnderlying36 sizeOf9 rfl rfl h8 ho9) fun a o=>qv o (e_ld o isAgg9 rfl ((St.ld u).elO t0 (hl12 0 _ rfl))) fun a o=>ls<|cq o call159 (Z23_c (hp_le _) h14) ⟨rfl,rfl,rfl,trivial⟩ u fun w a u o=>re<|?_
 rcases bdich r13 with hb15 | hb15
 replace hm:=ite_t hm hb15
 refine tn<|ctv o rfl hb15<|th<|rg<|qa o rfl fun a o=>re<|tn<|wr<|br<|tr<|tr<|br<|tr<|?_
 obtain rfl:=si hm
 exact r1 o results138 rfl ⟨rfl,u.keep⟩
 replace hm:=ite_f hm hb15
 refine tn<|cfv o rfl hb15<|wk<|bn<|tn<|rg<|qm o rfl fun a o=>qv o (e_add o rfl rfl) fun a o=>qa o rfl fun a o=>re<|tn<|?_
 exact ⟨(nn2,(IntKind.i64.wrap (vB1+1))),⟨hm,o.hs,u⟩,Nat.lt_succ_self _⟩
 replace hm:=itp_f hm hb6
 refine tn<|cfv o rfl hb6<|we<|tx<|tx<|bx<|tn<|?_
 replace u:=u.pickL .nil
 exact ⟨hm,o.hs,u⟩
 rintro a w ⟨hm,o,u⟩
 unfold Z2c at hm
 refine th<|th<|rg<|qa o rfl fun a o=>re<|tn<|midK (fun a w=>Z2d=some r∧Fr 36 [] a∧St w0 Nil [H] [] w) ?_ ?_
 refine wb<|lp (α:=Nat×Int) (fun gh a w=>match gh with | (nn4,vB2)=>(Z2f N Z2d p1 p2) nn4 vB2=some r∧Fr 36 [(0,strv p1),(1,i6 p2),(6,strv [40,41,123,125,59,44,61,60,33,43,45,42,47,37]),(8,i6 vB2)] a∧St w0 Nil [H] [] w) (fun gh=>gh.1) (N,0) ⟨hm,o.hs,u⟩ ?_
 rintro ⟨nn4,vB2⟩ a w ⟨hm,o,u⟩
 obtain _ | nn4:=nn4
 simp [Z2f] at hm
 rw [Z2f] at hm
 refine th<|th<|rg<|qm o rfl fun a o=>qm o rfl fun a o=>qv o ((e_as (e_lenU (s:=[40,41,123,125,59,44,61,60,33,43,45,42,47,37]) o runUnderlying9 rfl) rfl)) fun a o=>qv o (e_lss o rfl rfl) fun a o=>re<|?_
 rcases bdich (decide (vB2 < 14)) with hb16 | hb16
 replace hm:=itp_t hm hb16
 refine tn<|ctv o rfl hb16<|wk<|tn<|th<|wb<|th<|?_
 obtain ⟨x17,h18,hm⟩:=bs hm
 obtain ⟨x19,h20,hm⟩:=bs hm
 refine rxS 7 u wide (by kernel_rfl) fun w u=>?_
 iterate 2 refine xq (St.ld u) o (fun w hl=>e_move o rfl) fun a o=>?_
 refine xr u o (e_byte (s:=[40,41,123,125,59,44,61,60,33,43,45,42,47,37]) o runUnderlying9 rfl rfl h18) fun a o=>?_
 iterate 2 refine xq (St.ld u) o (fun w hl=>e_move o rfl) fun a o=>?_
 refine xr u o (e_byte (s:=p1) o runUnderlying9 rfl rfl h20) fun a o=>xr u o (e_eql o rfl rfl) fun a o=>xe<|?_
 rcases bdich (decide (x17=x19)) with hb21 | hb21
 replace hm:=itp_t hm hb21
 refine tn<|ctv o rfl hb21<|th<|rg<|qa o rfl fun a o=>re<|tn<|wr<|br<|tr<|tr<|br<|tr<|?_
 obtain rfl:=si hm
 exact r1 o results138 rfl ⟨rfl,u.keep⟩
 replace hm:=itp_f hm hb21
 refine tn<|cfv o rfl hb21<|wk<|bn<|tn<|rg<|qm o rfl fun a o=>qv o (e_add o rfl rfl) fun a o=>qa o rfl fun a o=>re<|tn<|?_
 exact ⟨(nn4,(IntKind.i64.wrap (vB2+1))),⟨hm,o.hs,u⟩,Nat.lt_succ_self _⟩
 replace hm:=itp_f hm hb16
 refine tn<|cfv o rfl hb16<|we<|tx<|tx<|bx<|tn<|?_
 exact ⟨hm,o.has trivial,u⟩
 rintro a w ⟨hm,o,u⟩
 unfold Z2d at hm
 refine th<|rg<|qa o rfl fun a o=>re<|tn<|wr<|?_
 obtain rfl:=si hm
 exact r1 o results138 rfl ⟨rfl,u.keep⟩
set_option maxHeartbeats 4000000 in
theorem Z1s_c (hH:H.le w0) {p1:Str} {r:((List api_Token)×Int×Int)} (hm:Z1s N p1=some r):Tot Tryz.prog 101 #[strv p1] w0 (fun v w'=>∃ (oa0:Option Addr) (cap0:Nat) (vs0:List Value),v=.tuple #[.slice oa0 r.1.length cap0,i6 r.2.1,i6 r.2.2]∧(∀ h,Rows h vs0 r.1)∧Fresh w0 (sla 130 4 oa0 r.1.length cap0 vs0) w'):=by
 unfold Z1s at hm
 refine fn0 func101 rfl ntmps101 rfl rfl fun a o=>?_
 have u:St w0 Nil [H] [] w0:=start1 hH
 refine th<|rg<|qa o rfl fun a o=>?_
 iterate 2 refine qa o rfl fun a o=>?_
 refine re<|tn<|th<|th<|rg<|qm o rfl fun a o=>qv o (e_lenU (s:=p1) o runUnderlying9 rfl) fun a o=>qv o (e_gtr o rfl rfl) fun a o=>re<|?_
 rcases bdich (decide (4000 < (p1.length:Int))) with hb2 | hb2
 replace hm:=itp_t hm hb2
 refine tn<|ctv o rfl hb2<|th<|rg<|qa o rfl fun a o=>?_
 iterate 2 refine qa o rfl fun a o=>?_
 refine re<|tn<|wr<|tr<|?_
 replace u:=St.nilS u 130 4
 obtain rfl:=si hm
 exact Go.LM.r3 o results101 rfl rfl rfl ⟨_,_,_,rfl,(fun _=>.nil),u.endFresh t0⟩
 replace hm:=itp_f hm hb2
 refine tn<|cfv o rfl hb2<|wk<|tn<|th<|rg<|ls<|a_bsl (e:=130) (sz:=4) [] o rfl u rfl rfl rfl (fun w=>by kernel_rfl) fun b4 w a u o=>?_
 have hv3:Rows (α:=api_Token) H [] []:=.nil
 refine qa o rfl fun a o=>re<|tn<|th<|?_
 obtain ⟨rz6,h7,hm⟩:=bs hm
 refine rg<|qm o rfl fun a o=>ls<|cq o call135 (Z26_c (hp_le _) h7) ⟨rfl,rfl,trivial⟩ u fun w a u o=>qa o rfl fun a o=>re<|tn<|th<|midK (fun a w=>∃ (vA1:(List api_Token)) (oaA2:Option Addr) (capA3:Nat) (vsA4:List Value),Z1t vA1=some r∧Fr 107 [(5,.slice oaA2 vA1.length capA3)] a∧St w0 Nil [H] [sla 130 4 oaA2 vA1.length capA3 vsA4] w∧Rows H vsA4 vA1) ?_ ?_
 refine wb<|lp (α:=Nat×(List api_Token)×Int) (fun gh a w=>match gh with | (nn2,vB1,vB7)=>∃ (oaB2:Option Addr) (capB3:Nat) (vsB4:List Value),(Z20 N Z1t p1) nn2 vB1 vB7=some r∧Fr 107 [(0,strv p1),(5,.slice oaB2 vB1.length capB3),(6,i6 vB7)] a∧St w0 Nil [H] [sla 130 4 oaB2 vB1.length capB3 vsB4] w∧Rows H vsB4 vB1) (fun gh=>gh.1) (N,[],rz6) ⟨(some ⟨b4,0,none⟩),0,[],hm,o.hs,u,hv3⟩ ?_
 rintro ⟨nn2,vB1,vB7⟩ a w ⟨oaB2,capB3,vsB4,hm,o,u,hvB5⟩
 obtain _ | nn2:=nn2
 simp [Z20] at hm
 rw [Z20] at hm
 refine th<|th<|rg<|qm o rfl fun a o=>qm o rfl fun a o=>qv o (e_lenU (s:=p1) o runUnderlying9 rfl) fun a o=>qv o (e_lss o rfl rfl) fun a o=>re<|?_
 rcases bdich (decide (vB7 < (p1.length:Int))) with hb8 | hb8
 replace hm:=itp_t hm hb8
 refine tn<|ctv o rfl hb8<|wk<|tn<|wb<|th<|rg<|qm o rfl fun a o=>qm o rfl fun a o=>qv o (e_bldK [i6 vB7] [i6 0,strv [],i6 0,i6 vB7] o ⟨rfl,trivial⟩ (fun w=>by kernel_rfl)) fun a o=>ls<|a_alloc (cs:=[i6 0,strv [],i6 0,i6 0].toArray) o rfl u zeroValue130 rfl fun b9 w a u o=>qa o rfl fun a o=>ls<|s_blkA o u sizeOf130 rfl rfl rfl rfl (one_cells rfl) .head fun w u=>re<|tn<|th<|th<|?_
 obtain ⟨x10,h11,hm⟩:=bs hm
 obtain ⟨r12,h13,hm⟩:=bs hm
 refine rg<|qm o rfl fun a o=>qm o rfl fun a o=>qv o (e_byte (s:=p1) o runUnderlying9 rfl rfl h11) fun a o=>ls<|cq o call136 (Z25_c (hp_le _) h13) ⟨rfl,trivial⟩ u fun w a u o=>re<|tn<|midK (fun a w=>∃ (vC1:Int) (vC2:api_Token),(Z1v N (Z20 N Z1t p1 nn2) p1 vB1 vB7) vC1 vC2=some r∧Fr 107 [(0,strv p1),(5,.slice oaB2 vB1.length capB3),(6,i6 vB7),(7,i6 vC1),(8,.pointer (some ⟨b9,0,none⟩))] a∧St w0 Nil [H] [sla 130 4 oaB2 vB1.length capB3 vsB4,blk b9 (.cells [i6 vC2.Kind,strv vC2.Text,i6 vC2.N,i6 vC2.At].toArray 130 (0,0))] w) ?_ ?_
 rcases bdich r12 with hb14 | hb14
 replace hm:=ite_t hm hb14
 refine ctv o rfl hb14<|th<|rg<|qv o (e_fa o fa130_0 rfl) fun a o=>ls<|s_blk o u sizeOf3 rfl rfl rfl rfl .head .zero fun w u=>re<|tn<|th<|midK (fun a w=>∃ (vD1:Int),(Z1w (Z1v N (Z20 N Z1t p1 nn2) p1 vB1 vB7) vB7) vD1=some r∧Fr 107 [(0,strv p1),(5,.slice oaB2 vB1.length capB3),(6,i6 vB7),(7,i6 vD1),(8,.pointer (some ⟨b9,0,none⟩))] a∧St w0 Nil [H] [sla 130 4 oaB2 vB1.length capB3 vsB4,blk b9 (.cells [i6 1,strv [],i6 0,i6 vB7].toArray 130 (0,0))] w) ?_ ?_
 replace u:=u.pk [1,0] rfl
 refine wb<|lp (α:=Nat×Int) (fun gh a w=>match gh with | (nn5,vE1)=>(Z21 N (Z1w (Z1v N (Z20 N Z1t p1 nn2) p1 vB1 vB7) vB7) p1) nn5 vE1=some r∧Fr 107 [(0,strv p1),(5,.slice oaB2 vB1.length capB3),(6,i6 vB7),(7,i6 vE1),(8,.pointer (some ⟨b9,0,none⟩))] a∧St w0 Nil [H] [sla 130 4 oaB2 vB1.length capB3 vsB4,blk b9 (.cells [i6 1,strv [],i6 0,i6 vB7].toArray 130 (0,0))] w) (fun gh=>gh.1) (N,vB7) ⟨hm,o.hs,u⟩ ?_
 rintro ⟨nn5,vE1⟩ a w ⟨hm,o,u⟩
 obtain _ | nn5:=nn5
 simp [Z21] at hm
 rw [Z21] at hm
 refine th<|th<|midK (fun a w=>∃ (vF1:Bool),(Z1x (Z1w (Z1v N (Z20 N Z1t p1 nn2) p1 vB1 vB7) vB7) (Z21 N (Z1w (Z1v N (Z20 N Z1t p1 nn2) p1 vB1 vB7) vB7) p1 nn5) vE1) vF1=some r∧Fr 107 [(0,strv p1),(5,.slice oaB2 vB1.length capB3),(6,i6 vB7),(7,i6 vE1),(8,.pointer (some ⟨b9,0,none⟩)),(42,.bool vF1)] a∧St w0 Nil [H] [sla 130 4 oaB2 vB1.length capB3 vsB4,blk b9 (.cells [i6 1,strv [],i6 0,i6 vB7].toArray 130 (0,0))] w) ?_ ?_
 rcases bdich (decide (vE1 < (p1.length:Int))) with hb15 | hb15
 replace hm:=itp_t hm hb15
 obtain ⟨x16,h17,hm⟩:=bs hm
 obtain ⟨r18,h19,hm⟩:=bs hm
 rcases bdich r18 with hb20 | hb20
 replace hm:=ite_t hm hb20
 refine rg<|qm o rfl fun a o=>qm o rfl fun a o=>qv o (e_lenU (s:=p1) o runUnderlying9 rfl) fun a o=>qv o (e_lss o rfl rfl) fun a o=>qv o (e_as (e_move o rfl) (congrArg Value.bool hb15)) fun a o=>?_
 iterate 2 refine qg o (e_move o rfl) fun a o=>?_
 refine qg o (e_byte (s:=p1) o runUnderlying9 rfl rfl h17) fun a o=>ls<|gy o rfl rfl<|cq o call136 (Z25_c (hp_le _) h19) ⟨rfl,trivial⟩ u fun w a u o=>qg o (e_as (e_move o rfl) (congrArg Value.bool hb20)) fun a o=>?_
 iterate 4 refine qn o fun a o=>?_
 refine qg o (e_pickT o rfl rfl) fun a o=>qv o (e_pickT o rfl rfl) fun a o=>re<|tn<|?_
 exact ⟨true,hm,o.hs,u⟩
 replace hm:=ite_f hm hb20
 obtain ⟨x21,h22,hm⟩:=bs hm
 obtain ⟨r23,h24,hm⟩:=bs hm
 refine rg<|qm o rfl fun a o=>qm o rfl fun a o=>qv o (e_lenU (s:=p1) o runUnderlying9 rfl) fun a o=>qv o (e_lss o rfl rfl) fun a o=>qv o (e_as (e_move o rfl) (congrArg Value.bool hb15)) fun a o=>?_
 iterate 2 refine qg o (e_move o rfl) fun a o=>?_
 refine qg o (e_byte (s:=p1) o runUnderlying9 rfl rfl h17) fun a o=>ls<|gy o rfl rfl<|cq o call136 (Z25_c (hp_le _) h19) ⟨rfl,trivial⟩ u fun w a u o=>qg o (e_as (e_move o rfl) (congrArg Value.bool hb20)) fun a o=>?_
 iterate 2 refine qg o (e_move o rfl) fun a o=>?_
 refine qg o (e_byte (s:=p1) o runUnderlying9 rfl rfl h22) fun a o=>ls<|gy o rfl rfl<|cq o call137 (Z24_c (hp_le _) h24) ⟨rfl,trivial⟩ u fun w a u o=>qg o (e_pickF o rfl rfl) fun a o=>qv o (e_pickT o rfl rfl) fun a o=>re<|tn<|?_
 exact ⟨r23,hm,o.hs,u⟩
 replace hm:=itp_f hm hb15
 refine rg<|qm o rfl fun a o=>qm o rfl fun a o=>qv o (e_lenU (s:=p1) o runUnderlying9 rfl) fun a o=>qv o (e_lss o rfl rfl) fun a o=>qv o (e_as (e_move o rfl) (congrArg Value.bool hb15)) fun a o=>?_
 iterate 5 refine qn o fun a o=>?_
 iterate 4 refine ls<|gnu o rfl rfl rfl fun a o=>?_
 refine qn o fun a o=>qv o (e_pickF o rfl rfl) fun a o=>re<|tn<|?_
 exact ⟨false,hm,o.hs,u⟩
 rintro a w ⟨vF1,hm,o,u⟩
 unfold Z1x at hm
 rcases bdich vF1 with hb25 | hb25
 replace hm:=ite_t hm hb25
 refine ctv o rfl hb25<|wk<|tn<|wb<|rg<|qm o rfl fun a o=>qv o (e_add o rfl rfl) fun a o=>qa o rfl fun a o=>re<|bn<|tn<|?_
 exact ⟨(nn5,(IntKind.i64.wrap (vE1+1))),⟨hm,o.hs,u⟩,Nat.lt_succ_self _⟩
 replace hm:=ite_f hm hb25
 refine cfv o rfl hb25<|we<|tx<|tx<|bx<|tn<|?_
 exact ⟨vE1,hm,o.hs,u⟩
 rintro a w ⟨vD1,hm,o,u⟩
 unfold Z1w at hm
 refine th<|rg<|qm o rfl fun a o=>qm o rfl fun a o=>qv o (e_sub o rfl rfl) fun a o=>qv o (e_gtr o rfl rfl) fun a o=>re<|?_
 rcases bdich (decide (16 < (IntKind.i64.wrap (vD1 - vB7)))) with hb26 | hb26
 replace hm:=itp_t hm hb26
 refine tn<|ctv o rfl hb26<|th<|rg<|qm o rfl fun a o=>?_
 iterate 3 refine qa o rfl fun a o=>?_
 refine re<|tn<|wr<|tr<|br<|tr<|br<|tr<|?_
 replace u:=St.nilS u 130 4
 obtain rfl:=si hm
 exact Go.LM.r3 o results101 rfl rfl rfl ⟨_,_,_,rfl,(fun _=>.nil),u.endFresh t0⟩
 replace hm:=itp_f hm hb26
 refine tn<|cfv o rfl hb26<|wk<|tn<|?_
 exact ⟨vD1,(api_Token.mk 1 [] 0 vB7),hm,o.hs,u⟩
 replace hm:=ite_f hm hb14
 refine cfv o rfl hb14<|th<|?_
 obtain ⟨x27,h28,hm⟩:=bs hm
 obtain ⟨r29,h30,hm⟩:=bs hm
 refine rg<|qm o rfl fun a o=>qm o rfl fun a o=>qv o (e_byte (s:=p1) o runUnderlying9 rfl rfl h28) fun a o=>ls<|cq o call137 (Z24_c (hp_le _) h30) ⟨rfl,trivial⟩ u fun w a u o=>re<|?_
 rcases bdich r29 with hb31 | hb31
 replace hm:=ite_t hm hb31
 refine tn<|ctv o rfl hb31<|th<|rg<|qv o (e_fa o fa130_0 rfl) fun a o=>ls<|s_blk o u sizeOf3 rfl rfl rfl rfl .head .zero fun w u=>re<|tn<|th<|midK (fun a w=>∃ (vD2:Int) (vD3:api_Token),(Z1y N (Z1v N (Z20 N Z1t p1 nn2) p1 vB1 vB7) vB7) vD2 vD3=some r∧Fr 107 [(0,strv p1),(5,.slice oaB2 vB1.length capB3),(6,i6 vB7),(7,i6 vD2),(8,.pointer (some ⟨b9,0,none⟩))] a∧St w0 Nil [H] [sla 130 4 oaB2 vB1.length capB3 vsB4,blk b9 (.cells [i6 vD3.Kind,strv vD3.Text,i6 vD3.N,i6 vD3.At].toArray 130 (0,0))] w) ?_ ?_
 replace u:=u.pk [1,0] rfl
 refine wb<|lp (α:=Nat×Int×api_Token) (fun gh a w=>match gh with | (nn8,vE2,vE3)=>(Z22 N (Z1y N (Z1v N (Z20 N Z1t p1 nn2) p1 vB1 vB7) vB7) p1) nn8 vE2 vE3=some r∧Fr 107 [(0,strv p1),(5,.slice oaB2 vB1.length capB3),(6,i6 vB7),(7,i6 vE2),(8,.pointer (some ⟨b9,0,none⟩))] a∧St w0 Nil [H] [sla 130 4 oaB2 vB1.length capB3 vsB4,blk b9 (.cells [i6 vE3.Kind,strv vE3.Text,i6 vE3.N,i6 vE3.At].toArray 130 (0,0))] w) (fun gh=>gh.1) (N,vB7,(api_Token.mk 2 [] 0 vB7)) ⟨hm,o.hs,u⟩ ?_
 rintro ⟨nn8,vE2,vE3⟩ a w ⟨hm,o,u⟩
 obtain _ | nn8:=nn8
 simp [Z22] at hm
 rw [Z22] at hm
 refine th<|th<|midK (fun a w=>∃ (vF2:Bool),(Z1z N (Z1y N (Z1v N (Z20 N Z1t p1 nn2) p1 vB1 vB7) vB7) (Z22 N (Z1y N (Z1v N (Z20 N Z1t p1 nn2) p1 vB1 vB7) vB7) p1 nn8) p1 vE2 vE3) vF2=some r∧Fr 107 [(0,strv p1),(5,.slice oaB2 vB1.length capB3),(6,i6 vB7),(7,i6 vE2),(8,.pointer (some ⟨b9,0,none⟩)),(64,.bool vF2)] a∧St w0 Nil [H] [sla 130 4 oaB2 vB1.length capB3 vsB4,blk b9 (.cells [i6 vE3.Kind,strv vE3.Text,i6 vE3.N,i6 vE3.At].toArray 130 (0,0))] w) ?_ ?_
 rcases bdich (decide (vE2 < (p1.length:Int))) with hb32 | hb32
 replace hm:=itp_t hm hb32
 obtain ⟨x33,h34,hm⟩:=bs hm
 obtain ⟨r35,h36,hm⟩:=bs hm
 refine rg<|qm o rfl fun a o=>qm o rfl fun a o=>qv o (e_lenU (s:=p1) o runUnderlying9 rfl) fun a o=>qv o (e_lss o rfl rfl) fun a o=>qv o (e_as (e_move o rfl) (congrArg Value.bool hb32)) fun a o=>?_
 iterate 2 refine qg o (e_move o rfl) fun a o=>?_
 refine qg o (e_byte (s:=p1) o runUnderlying9 rfl rfl h34) fun a o=>ls<|gy o rfl rfl<|cq o call137 (Z24_c (hp_le _) h36) ⟨rfl,trivial⟩ u fun w a u o=>qv o (e_pickT o rfl rfl) fun a o=>re<|tn<|?_
 exact ⟨r35,hm,o.hs,u⟩
 replace hm:=itp_f hm hb32
 refine rg<|qm o rfl fun a o=>qm o rfl fun a o=>qv o (e_lenU (s:=p1) o runUnderlying9 rfl) fun a o=>qv o (e_lss o rfl rfl) fun a o=>qv o (e_as (e_move o rfl) (congrArg Value.bool hb32)) fun a o=>?_
 iterate 4 refine qn o fun a o=>?_
 refine qv o (e_pickF o rfl rfl) fun a o=>re<|tn<|?_
 exact ⟨false,hm,o.hs,u⟩
 rintro a w ⟨vF2,hm,o,u⟩
 unfold Z1z at hm
 rcases bdich vF2 with hb37 | hb37
 replace hm:=ite_t hm hb37
 refine ctv o rfl hb37<|wk<|tn<|wb<|th<|th<|rg<|qv o (e_fa o fa130_2 rfl) fun a o=>qv o (e_ld o isAgg3 rfl ((St.ld u).cellB t1 rfl)) fun a o=>qv o (e_leq o rfl rfl) fun a o=>re<|tn<|midK (fun a w=>∃ (vF3:api_Token),(Z1u (Z22 N (Z1y N (Z1v N (Z20 N Z1t p1 nn2) p1 vB1 vB7) vB7) p1 nn8) vE2) vF3=some r∧Fr 107 [(0,strv p1),(5,.slice oaB2 vB1.length capB3),(6,i6 vB7),(7,i6 vE2),(8,.pointer (some ⟨b9,0,none⟩))] a∧St w0 Nil [H] [sla 130 4 oaB2 vB1.length capB3 vsB4,blk b9 (.cells [i6 vF3.Kind,strv vF3.Text,i6 vF3.N,i6 vF3.At].toArray 130 (0,0))] w) ?_ ?_
 rcases bdich (decide (vE3.N≤4294967296)) with hb38 | hb38
 replace hm:=itp_t hm hb38
 refine ctv o rfl hb38<|?_
 obtain ⟨x39,h40,hm⟩:=bs hm
 refine rxS 10 u wide (by kernel_rfl) fun w u=>xr u o (e_fa o fa130_2 rfl) fun a o=>xq (St.ld u) o (fun w hl=>e_ld o isAgg3 rfl (hl.cellB t1 rfl)) fun a o=>xr u o (e_mul o rfl rfl) fun a o=>?_
 iterate 2 refine xq (St.ld u) o (fun w hl=>e_move o rfl) fun a o=>?_
 refine xr u o (e_byte (s:=p1) o runUnderlying9 rfl rfl h40) fun a o=>xr u o (e_sub o rfl rfl) fun a o=>xr u o (e_cvt o runUnderlying5 runUnderlying3 rfl) fun a o=>xr u o (e_add o rfl rfl) fun a o=>xr u o (e_fa o fa130_2 rfl) fun a o=>xz rfl<|s_blk o u sizeOf3 rfl rfl rfl rfl (.tail .head) (.succ (.succ .zero)) fun w u=>tn<|?_
 exact ⟨(api_Token.mk vE3.Kind vE3.Text (IntKind.i64.wrap ((IntKind.i64.wrap (10 * vE3.N))+(IntKind.i64.wrap (IntKind.u8.wrap (x39 - 48))))) vE3.At),hm,o.hs,u⟩
 replace hm:=itp_f hm hb38
 refine cfv o rfl hb38<|wk<|tn<|?_
 exact ⟨vE3,hm,o.hs,u⟩
 rintro a w ⟨vF3,hm,o,u⟩
 unfold Z1u at hm
 refine rg<|qm o rfl fun a o=>qv o (e_add o rfl rfl) fun a o=>qa o rfl fun a o=>re<|bn<|tn<|?_
 exact ⟨(nn8,(IntKind.i64.wrap (vE2+1)),vF3),⟨hm,o.hs,u⟩,Nat.lt_succ_self _⟩
 replace hm:=ite_f hm hb37
 refine cfv o rfl hb37<|we<|tx<|tx<|bx<|tn<|?_
 exact ⟨vE2,vE3,hm,o.hs,u⟩
 rintro a w ⟨vD2,vD3,hm,o,u⟩
 unfold Z1y at hm
 refine th<|rg<|qv o (e_fa o fa130_2 rfl) fun a o=>qv o (e_ld o isAgg3 rfl ((St.ld u).cellB t1 rfl)) fun a o=>qv o (e_gtr o rfl rfl) fun a o=>re<|?_
 rcases bdich (decide (4294967296 < vD3.N)) with hb41 | hb41
 replace hm:=itp_t hm hb41
 refine tn<|ctv o rfl hb41<|th<|rg<|qm o rfl fun a o=>?_
 iterate 3 refine qa o rfl fun a o=>?_
 refine re<|tn<|wr<|tr<|br<|tr<|br<|tr<|?_
 replace u:=St.nilS u 130 4
 obtain rfl:=si hm
 exact Go.LM.r3 o results101 rfl rfl rfl ⟨_,_,_,rfl,(fun _=>.nil),u.endFresh t0⟩
 replace hm:=itp_f hm hb41
 refine tn<|cfv o rfl hb41<|wk<|tn<|?_
 exact ⟨vD2,vD3,hm,o.hs,u⟩
 replace hm:=ite_f hm hb31
 refine tn<|cfv o rfl hb31<|th<|rg<|qv o (e_fa o fa130_0 rfl) fun a o=>ls<|s_blk o u sizeOf3 rfl rfl rfl rfl .head .zero fun w u=>re<|tn<|th<|?_
 obtain ⟨r42,h43,hm⟩:=bs hm
 refine rg<|qm o rfl fun a o=>?_
 iterate 2 refine qm o rfl fun a o=>?_
 refine ls<|cq o call138 (Z2b_c (hp_le _) h43) ⟨rfl,rfl,trivial⟩ u fun w a u o=>qv o (e_add o rfl rfl) fun a o=>qa o rfl fun a o=>re<|tn<|th<|rg<|qm o rfl fun a o=>qm o rfl fun a o=>qv o (e_eql o rfl rfl) fun a o=>re<|?_
 rcases bdich (decide ((IntKind.i64.wrap (vB7+r42))=vB7)) with hb44 | hb44
 replace hm:=itp_t hm hb44
 refine tn<|ctv o rfl hb44<|th<|rg<|qm o rfl fun a o=>?_
 iterate 3 refine qa o rfl fun a o=>?_
 refine re<|tn<|wr<|tr<|br<|tr<|br<|tr<|?_
 replace u:=St.nilS u 130 4
 obtain rfl:=si hm
 exact Go.LM.r3 o results101 rfl rfl rfl ⟨_,_,_,rfl,(fun _=>.nil),u.endFresh t0⟩
 replace hm:=itp_f hm hb44
 refine tn<|cfv o rfl hb44<|wk<|tn<|?_
 replace u:=u.pk [1,0] rfl
 exact ⟨(IntKind.i64.wrap (vB7+r42)),(api_Token.mk 3 [] 0 vB7),hm,o.hs,u⟩
 rintro a w ⟨vC1,vC2,hm,o,u⟩
 unfold Z1v at hm
 refine th<|?_
 obtain ⟨s45,h46,hm⟩:=bs hm
 refine rg<|qm o rfl fun a o=>?_
 iterate 2 refine qm o rfl fun a o=>?_
 refine qv o (e_subU (s:=p1) (vl:=vB7) (vh:=vC1) o runUnderlying9 rfl rfl rfl h46) fun a o=>qv o (e_fa o fa130_1 rfl) fun a o=>ls<|s_blk o u sizeOf9 rfl rfl rfl rfl (.tail .head) (.succ .zero) fun w u=>re<|tn<|th<|?_
 obtain ⟨l50,h51,hm⟩:=bs hm
 refine rg<|qm o rfl fun a o=>qv o (e_ldA o isAgg130 sizeOf130 rfl rfl ((St.ld u).cellsB t1)) fun a o=>ls<|a_bsl (e:=130) (sz:=4) [i6 vC2.Kind,strv s45,i6 vC2.N,i6 vC2.At] o rfl u rfl rfl rfl (fun w=>by kernel_rfl) fun b48 w a u o=>?_
 have hv47:Rows (α:=api_Token) H [i6 vC2.Kind,strv s45,i6 vC2.N,i6 vC2.At] ([(api_Token.mk vC2.Kind s45 vC2.N vC2.At)]:List api_Token):=(.cons (c:=[i6 vC2.Kind,strv s45,i6 vC2.N,i6 vC2.At]) ⟨_,_,rfl,rfl,⟨_,_,rfl,rfl,⟨_,_,rfl,rfl,rfl⟩⟩⟩ .nil)
 refine ls<|m_app (α:=api_Token) (xs:=vB1) (ys:=([(api_Token.mk vC2.Kind s45 vC2.N vC2.At)]:List api_Token)) o rfl u underlying120 info130 rfl (by decide) rfl rfl rfl t1 hvB5 (u.rdO t0) hv47 h51 fun oa52 cap53 vs54 w a hv55 hU o=>?_
 replace u:=hU _ (.tail .head)
 replace u:=u.drop .head
 refine qa o rfl fun a o=>re<|tn<|?_
 obtain ⟨r56,h57,hm⟩:=bs hm
 refine rg<|qm o rfl fun a o=>qm o rfl fun a o=>ls<|cq o call135 (Z26_c (hp_le _) h57) ⟨rfl,rfl,trivial⟩ u fun w a u o=>qa o rfl fun a o=>re<|bn<|tn<|?_
 replace u:=u.pk [0] rfl
 exact ⟨(nn2,l50,r56),⟨oa52,cap53,vs54,hm,o.hs,u,hv55⟩,Nat.lt_succ_self _⟩
 replace hm:=itp_f hm hb8
 refine tn<|cfv o rfl hb8<|we<|tx<|tx<|bx<|tn<|?_
 exact ⟨vB1,oaB2,capB3,vsB4,hm,o.has ⟨rfl,trivial⟩,u,hvB5⟩
 rintro a w ⟨vA1,oaA2,capA3,vsA4,hm,o,u,hvA5⟩
 unfold Z1t at hm
 refine th<|rg<|qm o rfl fun a o=>?_
 iterate 3 refine qa o rfl fun a o=>?_
 refine re<|tn<|wr<|?_
 obtain rfl:=si hm
 exact Go.LM.r3 o results101 rfl rfl rfl ⟨_,_,_,rfl,(fun _=>Rows.ind hvA5),u.endFresh t0⟩
theorem Z1i_c (hH:H.le w0) {oa2:Option Addr} {cap3:Nat} {p1:(List api_Token)} (_:p1.length≤cap3) (hr5:SR H oa2 p1) {p6:Int} {p7:Str} {r:Bool} (hm:Z1i N p1 p6 p7=some r):Tot Tryz.prog 139 #[.slice oa2 p1.length cap3,i6 p6,strv p7] w0 (fun v w'=>v=.bool r∧Keep Nil w0 w'):=by
 unfold Z1i at hm
 refine fn0 func139 rfl ntmps139 rfl rfl fun a o=>?_
 have u:St w0 Nil [H] [] w0:=start1 hH
 refine th<|rg<|qa o rfl fun a o=>re<|tn<|th<|?_
 rcases bdich ((decide (0≤p6)) && (decide (p6 < (p1.length:Int)))) with hb8 | hb8
 replace hm:=ite_t hm hb8
 obtain ⟨xz9,h10,hm⟩:=bs hm
 obtain ⟨c11,g12,hl13⟩:=SR.get hr5 h10
 obtain rfl:=api_Token_open g12
 refine rg<|qm o rfl fun a o=>qv o (e_geq o rfl rfl) fun a o=>qm o rfl fun a o=>grp (N:=48) (Fk:=[(0,.slice oa2 p1.length cap3),(1,i6 p6),(2,strv p7),(14,.bool ((decide (0≤p6)) && (decide (p6 < (p1.length:Int)))))]) (b:=(decide (0≤p6))) 5 u ?_ ?_ ?_
 intro hb key
 replace o:=Fr.as o (t:=9) rfl (congrArg Value.bool hb)
 iterate 2 refine qg o (e_move o rfl) fun a o=>?_
 refine qg o (e_lenL (α:=api_Token) (xs:=p1) o runUnderlying120 rfl) fun a o=>qg o (e_lss o rfl rfl) fun a o=>qv o (e_as (v':=.bool ((decide (0≤p6)) && (decide (p6 < (p1.length:Int))))) (e_pickT o rfl rfl) (by rw [hb];rfl)) fun a o=>?_
 exact key _ _ (o.hs) u
 intro hb key
 replace o:=Fr.as o (t:=9) rfl (congrArg Value.bool hb)
 iterate 4 refine qn o fun a o=>?_
 refine qv o (e_as (v':=.bool ((decide (0≤p6)) && (decide (p6 < (p1.length:Int))))) (e_pickF o rfl rfl) (by rw [hb];rfl)) fun a o=>?_
 exact key _ _ (o.hs) u
 intro a w o u
 refine qv o (e_as (e_move o rfl) (congrArg Value.bool hb8)) fun a o=>?_
 iterate 2 refine qg o (e_move o rfl) fun a o=>?_
 refine qg o (e_iaI o runUnderlying120 sizeOf130 rfl rfl h10 (SR.oaI hr5 (by decide) h10)) fun a o=>qg o (e_fa o fa130_1 rfl) fun a o=>qg o (e_ld o isAgg9 rfl (PH.le.cell (Lds.le (St.ld u)) (hl13 1 _ rfl))) fun a o=>qg o (e_move o rfl) fun a o=>qg o (e_eqlU (m:=xz9.Text) (n:=p7) o rfl rfl) fun a o=>qv o (e_pickT o rfl rfl) fun a o=>qm o rfl fun a o=>grp (N:=48) (Fk:=[(0,.slice oa2 p1.length cap3),(1,i6 p6),(31,.bool ((decide (xz9.Text=p7)) && (decide (xz9.Kind≠2))))]) (b:=(decide (xz9.Text=p7))) 7 u ?_ ?_ ?_
 intro hb key
 replace o:=Fr.as o (t:=24) rfl (congrArg Value.bool hb)
 iterate 2 refine qg o (e_move o rfl) fun a o=>?_
 refine qg o (e_iaI o runUnderlying120 sizeOf130 rfl rfl h10 (SR.oaI hr5 (by decide) h10)) fun a o=>qg o (e_fa o fa130_0 rfl) fun a o=>qg o (e_ld o isAgg3 rfl (PH.le.cell (Lds.le (St.ld u)) (hl13 0 _ rfl))) fun a o=>qg o (e_neq o rfl rfl) fun a o=>qv o (e_as (v':=.bool ((decide (xz9.Text=p7)) && (decide (xz9.Kind≠2)))) (e_pickT o rfl rfl) (by rw [hb];rfl)) fun a o=>?_
 exact key _ _ (o.hs) u
 intro hb key
 replace o:=Fr.as o (t:=24) rfl (congrArg Value.bool hb)
 iterate 6 refine qn o fun a o=>?_
 refine qv o (e_as (v':=.bool ((decide (xz9.Text=p7)) && (decide (xz9.Kind≠2)))) (e_pickF o rfl rfl) (by rw [hb];rfl)) fun a o=>?_
 exact key _ _ (o.hs) u
 intro a w o u
 refine qm o rfl fun a o=>grp (N:=48) (Fk:=[(0,.slice oa2 p1.length cap3),(1,i6 p6),(39,.bool (((decide (xz9.Text=p7)) && (decide (xz9.Kind≠2))) && (decide (1≤xz9.Kind))))]) (b:=((decide (xz9.Text=p7)) && (decide (xz9.Kind≠2)))) 7 u ?_ ?_ ?_
 intro hb key
 replace o:=Fr.as o (t:=32) rfl (congrArg Value.bool hb)
 iterate 2 refine qg o (e_move o rfl) fun a o=>?_
 refine qg o (e_iaI o runUnderlying120 sizeOf130 rfl rfl h10 (SR.oaI hr5 (by decide) h10)) fun a o=>qg o (e_fa o fa130_0 rfl) fun a o=>qg o (e_ld o isAgg3 rfl (PH.le.cell (Lds.le (St.ld u)) (hl13 0 _ rfl))) fun a o=>qg o (e_geq o rfl rfl) fun a o=>qv o (e_as (v':=.bool (((decide (xz9.Text=p7)) && (decide (xz9.Kind≠2))) && (decide (1≤xz9.Kind)))) (e_pickT o rfl rfl) (by rw [hb];rfl)) fun a o=>?_
 exact key _ _ (o.hs) u
 intro hb key
 replace o:=Fr.as o (t:=32) rfl (congrArg Value.bool hb)
 iterate 6 refine qn o fun a o=>?_
 refine qv o (e_as (v':=.bool (((decide (xz9.Text=p7)) && (decide (xz9.Kind≠2))) && (decide (1≤xz9.Kind)))) (e_pickF o rfl rfl) (by rw [hb];rfl)) fun a o=>?_
 exact key _ _ (o.hs) u
 intro a w o u
 refine qm o rfl fun a o=>grp (N:=48) (Fk:=[(47,.bool ((((decide (xz9.Text=p7)) && (decide (xz9.Kind≠2))) && (decide (1≤xz9.Kind))) && (decide (xz9.Kind≤3))))]) (b:=(((decide (xz9.Text=p7)) && (decide (xz9.Kind≠2))) && (decide (1≤xz9.Kind)))) 7 u ?_ ?_ ?_
 intro hb key
 replace o:=Fr.as o (t:=40) rfl (congrArg Value.bool hb)
 iterate 2 refine qg o (e_move o rfl) fun a o=>?_
 refine qg o (e_iaI o runUnderlying120 sizeOf130 rfl rfl h10 (SR.oaI hr5 (by decide) h10)) fun a o=>qg o (e_fa o fa130_0 rfl) fun a o=>qg o (e_ld o isAgg3 rfl (PH.le.cell (Lds.le (St.ld u)) (hl13 0 _ rfl))) fun a o=>qg o (e_leq o rfl rfl) fun a o=>qv o (e_as (v':=.bool ((((decide (xz9.Text=p7)) && (decide (xz9.Kind≠2))) && (decide (1≤xz9.Kind))) && (decide (xz9.Kind≤3)))) (e_pickT o rfl rfl) (by rw [hb];rfl)) fun a o=>?_
 exact key _ _ (o.has ⟨rfl,trivial⟩) u
 intro hb key
 replace o:=Fr.as o (t:=40) rfl (congrArg Value.bool hb)
 iterate 6 refine qn o fun a o=>?_
 refine qv o (e_as (v':=.bool ((((decide (xz9.Text=p7)) && (decide (xz9.Kind≠2))) && (decide (1≤xz9.Kind))) && (decide (xz9.Kind≤3)))) (e_pickF o rfl rfl) (by rw [hb];rfl)) fun a o=>?_
 exact key _ _ (o.has ⟨rfl,trivial⟩) u
 intro a w o u
 refine qa o rfl fun a o=>re<|tn<|wr<|?_
 obtain rfl:=si hm
 exact r1 o results139 rfl ⟨rfl,u.keep⟩
 replace hm:=ite_f hm hb8
 refine rg<|qm o rfl fun a o=>qv o (e_geq o rfl rfl) fun a o=>qm o rfl fun a o=>grp (N:=48) (Fk:=[(0,.slice oa2 p1.length cap3),(1,i6 p6),(2,strv p7),(14,.bool ((decide (0≤p6)) && (decide (p6 < (p1.length:Int)))))]) (b:=(decide (0≤p6))) 5 u ?_ ?_ ?_
 intro hb key
 replace o:=Fr.as o (t:=9) rfl (congrArg Value.bool hb)
 iterate 2 refine qg o (e_move o rfl) fun a o=>?_
 refine qg o (e_lenL (α:=api_Token) (xs:=p1) o runUnderlying120 rfl) fun a o=>qg o (e_lss o rfl rfl) fun a o=>qv o (e_as (v':=.bool ((decide (0≤p6)) && (decide (p6 < (p1.length:Int))))) (e_pickT o rfl rfl) (by rw [hb];rfl)) fun a o=>?_
 exact key _ _ (o.hs) u
 intro hb key
 replace o:=Fr.as o (t:=9) rfl (congrArg Value.bool hb)
 iterate 4 refine qn o fun a o=>?_
 refine qv o (e_as (v':=.bool ((decide (0≤p6)) && (decide (p6 < (p1.length:Int))))) (e_pickF o rfl rfl) (by rw [hb];rfl)) fun a o=>?_
 exact key _ _ (o.hs) u
 intro a w o u
 refine qv o (e_as (e_move o rfl) (congrArg Value.bool hb8)) fun a o=>?_
 iterate 7 refine qn o fun a o=>?_
 refine qv o (e_pickF o rfl rfl) fun a o=>qm o rfl fun a o=>?_
 iterate 6 refine qn o fun a o=>?_
 refine qv o (e_pickF o rfl rfl) fun a o=>qm o rfl fun a o=>?_
 iterate 6 refine qn o fun a o=>?_
 refine qv o (e_pickF o rfl rfl) fun a o=>qm o rfl fun a o=>?_
 iterate 6 refine qn o fun a o=>?_
 refine qv o (e_pickF o rfl rfl) fun a o=>qa o rfl fun a o=>re<|tn<|wr<|?_
 obtain rfl:=si hm
 exact r1 o results139 rfl ⟨rfl,u.keep⟩
theorem Z4n_c (hH:H.le w0) {b2:Nat} {p1:leadlineref05_In} {oa3:Option Addr} {cap4:Nat} (hc5:p1.L.length≤cap4) (hr6:SR H oa3 p1.L) {p7:Str} (hO:(sepA [blk b2 (.cells [.slice oa3 p1.L.length cap4,i6 p1.At,i6 p1.E,i6 p1.Pos].toArray 125 (0,0))]).ok (hp w0)) (hD:∀ b,(sepA [blk b2 (.cells [.slice oa3 p1.L.length cap4,i6 p1.At,i6 p1.E,i6 p1.Pos].toArray 125 (0,0))]).fp b→H b=none) {r:(Bool×leadlineref05_In)} (hm:Z4n N p1 p7=some r):Tot Tryz.prog 102 #[.pointer (some ⟨b2,0,none⟩),strv p7] w0 (fun v w'=>∃ (oa1m:Option Addr) (cap1m:Nat),v=.bool r.1∧r.2.L.length≤cap1m∧SR H oa1m r.2.L∧Mut w0 (sepA [blk b2 (.cells [.slice oa3 p1.L.length cap4,i6 p1.At,i6 p1.E,i6 p1.Pos].toArray 125 (0,0))]) (sepA [blk b2 (.cells [.slice oa1m r.2.L.length cap1m,i6 r.2.At,i6 r.2.E,i6 r.2.Pos].toArray 125 (0,0))]) w'):=by
 unfold Z4n at hm
 refine fn0 func102 rfl ntmps102 rfl rfl fun a o=>?_
 have u:=startM hH hO hD
 refine th<|rg<|qa o rfl fun a o=>re<|tn<|th<|th<|midK (fun a w=>∃ (vA1:Bool),(Z4o p1) vA1=some r∧Fr 30 [(0,.pointer (some ⟨b2,0,none⟩)),(21,.bool vA1)] a∧St w0 (sepA [blk b2 (.cells [.slice oa3 p1.L.length cap4,i6 p1.At,i6 p1.E,i6 p1.Pos].toArray 125 (0,0))]).fp [H] [blk b2 (.cells [.slice oa3 p1.L.length cap4,i6 p1.At,i6 p1.E,i6 p1.Pos].toArray 125 (0,0))] w) ?_ ?_
 rcases bdich (decide (p1.E=0)) with hb8 | hb8
 replace hm:=itp_t hm hb8
 obtain ⟨rz9,h10,hm⟩:=bs hm
 refine rdS 17 u wide fun w u=>dr 0 u o rfl (e_move o rfl) fun a o=>dr 1 u o rfl (e_nilp o rfl) fun a o=>dr 2 u o rfl (e_fa o fa125_2 rfl) fun a o=>dq 3 (St.ld u) o rfl (fun w hl=>e_ld o isAgg29 rfl (hl.cellB t0 rfl)) fun a o=>dr 4 u o rfl (e_eql o rfl rfl) fun a o=>dr 5 u o rfl (e_as (e_move o rfl) (congrArg Value.bool hb8)) fun a o=>dg 6 (St.ld u) o rfl (fun w hl=>e_move o rfl) fun a o=>dg 7 (St.ld u) o rfl (fun w hl=>e_nilp o rfl) fun a o=>dg 8 (St.ld u) o rfl (fun w hl=>e_fa o fa125_0 rfl) fun a o=>dg 9 (St.ld u) o rfl (fun w hl=>e_ld o isAgg120 rfl (hl.cellB t0 rfl)) fun a o=>dg 10 (St.ld u) o rfl (fun w hl=>e_move o rfl) fun a o=>dg 11 (St.ld u) o rfl (fun w hl=>e_nilp o rfl) fun a o=>dg 12 (St.ld u) o rfl (fun w hl=>e_fa o fa125_1 rfl) fun a o=>dg 13 (St.ld u) o rfl (fun w hl=>e_ld o isAgg3 rfl (hl.cellB t0 rfl)) fun a o=>dg 14 (St.ld u) o rfl (fun w hl=>e_move o rfl) fun a o=>da1 (i:=15) (by kernel_rfl) ?_
 refine di (i:=15) rfl<|gy o rfl rfl<|cq o call139 (Z1i_c (hp_le _) hc5 (St.srH u hr6) h10) ⟨rfl,rfl,rfl,trivial⟩ u fun w a u o=>⟨fun _=>(St.ld u),?_⟩
 refine dr 16 u o rfl (e_pickT o rfl rfl) fun a o=>de (by kernel_rfl)<|tn<|?_
 exact ⟨rz9,hm,o.has ⟨rfl,rfl,trivial⟩,u⟩
 replace hm:=itp_f hm hb8
 refine rxS 17 u wide (by kernel_rfl) fun w u=>xm u o rfl fun a o=>xr u o (e_nilp o rfl) fun a o=>xr u o (e_fa o fa125_2 rfl) fun a o=>xq (St.ld u) o (fun w hl=>e_ld o isAgg29 rfl (hl.cellB t0 rfl)) fun a o=>xr u o (e_eql o rfl rfl) fun a o=>xr u o (e_as (e_move o rfl) (congrArg Value.bool hb8)) fun a o=>?_
 iterate 10 refine xn (St.ld u) o fun a o=>?_
 refine xr u o (e_pickF o rfl rfl) fun a o=>xe<|tn<|?_
 exact ⟨false,hm,o.has ⟨rfl,rfl,trivial⟩,u⟩
 rintro a w ⟨vA1,hm,o,u⟩
 unfold Z4o at hm
 rcases bdich vA1 with hb11 | hb11
 replace hm:=ite_t hm hb11
 refine ctv o rfl hb11<|th<|rg<|qm o rfl fun a o=>qm o rfl fun a o=>qv o (e_nilp o rfl) fun a o=>qv o (e_fa o fa125_1 rfl) fun a o=>qv o (e_ld o isAgg3 rfl ((St.ld u).cellB t0 rfl)) fun a o=>qv o (e_add o rfl rfl) fun a o=>qv o (e_nilp o rfl) fun a o=>qv o (e_fa o fa125_1 rfl) fun a o=>ls<|s_blk o u sizeOf3 rfl rfl rfl rfl .head (.succ .zero) fun w u=>re<|tn<|th<|rg<|qa o rfl fun a o=>re<|tn<|wr<|tr<|?_
 obtain rfl:=si hm
 exact r1 o results102 rfl ⟨oa3,cap4,rfl,hc5,hr6,(u.pickL (.cons .head .nil)).endMut⟩
 replace hm:=ite_f hm hb11
 refine cfv o rfl hb11<|wk<|tn<|th<|rg<|qa o rfl fun a o=>re<|tn<|wr<|?_
 obtain rfl:=si hm
 exact r1 o results102 rfl ⟨oa3,cap4,rfl,hc5,hr6,(u.pickL (.cons .head .nil)).endMut⟩
theorem Z1r_c (hH:H.le w0) {oa2:Option Addr} {cap3:Nat} {p1:(List api_Token)} (_:p1.length≤cap3) (hr5:SR H oa2 p1) {p6:Int} {r:Int} (hm:Z1r N p1 p6=some r):Tot Tryz.prog 143 #[.slice oa2 p1.length cap3,i6 p6] w0 (fun v w'=>v=i6 r∧Keep Nil w0 w'):=by
 unfold Z1r at hm
 refine fn0 func143 rfl ntmps143 rfl rfl fun a o=>?_
 have u:St w0 Nil [H] [] w0:=start1 hH
 refine th<|rg<|qa o rfl fun a o=>re<|tn<|th<|th<|rg<|qm o rfl fun a o=>qv o (e_geq o rfl rfl) fun a o=>qm o rfl fun a o=>grp (N:=37) (Fk:=[(0,.slice oa2 p1.length cap3),(1,i6 p6),(12,.bool ((decide (0≤p6)) && (decide (p6 < (p1.length:Int)))))]) (b:=(decide (0≤p6))) 5 u ?_ ?_ ?_
 intro hb key
 replace o:=Fr.as o (t:=7) rfl (congrArg Value.bool hb)
 iterate 2 refine qg o (e_move o rfl) fun a o=>?_
 refine qg o (e_lenL (α:=api_Token) (xs:=p1) o runUnderlying120 rfl) fun a o=>qg o (e_lss o rfl rfl) fun a o=>qv o (e_as (v':=.bool ((decide (0≤p6)) && (decide (p6 < (p1.length:Int))))) (e_pickT o rfl rfl) (by rw [hb];rfl)) fun a o=>?_
 exact key _ _ (o.hs) u
 intro hb key
 replace o:=Fr.as o (t:=7) rfl (congrArg Value.bool hb)
 iterate 4 refine qn o fun a o=>?_
 refine qv o (e_as (v':=.bool ((decide (0≤p6)) && (decide (p6 < (p1.length:Int))))) (e_pickF o rfl rfl) (by rw [hb];rfl)) fun a o=>?_
 exact key _ _ (o.hs) u
 intro a w o u
 refine re<|?_
 rcases bdich ((decide (0≤p6)) && (decide (p6 < (p1.length:Int)))) with hb7 | hb7
 replace hm:=ite_t hm hb7
 refine tn<|ctv o rfl hb7<|th<|?_
 obtain ⟨xz8,h9,hm⟩:=bs hm
 obtain ⟨c10,g11,hl12⟩:=SR.get hr5 h9
 obtain rfl:=api_Token_open g11
 refine rg<|qm o rfl fun a o=>qm o rfl fun a o=>qv o (e_iaI o runUnderlying120 sizeOf130 rfl rfl h9 (SR.oaI hr5 (by decide) h9)) fun a o=>qv o (e_fa o fa130_3 rfl) fun a o=>qv o (e_ld o isAgg3 rfl (PH.le.cell (Lds.le (St.ld u)) (hl12 3 _ rfl))) fun a o=>qa o rfl fun a o=>re<|tn<|wr<|tr<|?_
 obtain rfl:=si hm
 exact r1 o results143 rfl ⟨rfl,u.keep⟩
 replace hm:=ite_f hm hb7
 refine tn<|cfv o rfl hb7<|wk<|tn<|th<|th<|rg<|qm o rfl fun a o=>qv o (e_lenL (α:=api_Token) (xs:=p1) o runUnderlying120 rfl) fun a o=>qv o (e_eql o rfl rfl) fun a o=>re<|?_
 rcases bdich (decide ((p1.length:Int)=0)) with hb13 | hb13
 replace hm:=itp_t hm hb13
 refine tn<|ctv o rfl hb13<|th<|rg<|qa o rfl fun a o=>re<|tn<|wr<|tr<|?_
 obtain rfl:=si hm
 exact r1 o results143 rfl ⟨rfl,u.keep⟩
 replace hm:=itp_f hm hb13
 refine tn<|cfv o rfl hb13<|wk<|tn<|th<|?_
 obtain ⟨x14,h15,hm⟩:=bs hm
 obtain ⟨c16,g17,hl18⟩:=SR.get hr5 h15
 obtain rfl:=api_Token_open g17
 refine rxS 17 u wide (by kernel_rfl) fun w u=>?_
 iterate 2 refine xq (St.ld u) o (fun w hl=>e_move o rfl) fun a o=>?_
 refine xr u o (e_lenL (α:=api_Token) (xs:=p1) o runUnderlying120 rfl) fun a o=>xr u o (e_sub o rfl rfl) fun a o=>xr u o (e_iaI o runUnderlying120 sizeOf130 rfl rfl h15 (SR.oaI hr5 (by decide) h15)) fun a o=>xr u o (e_fa o fa130_3 rfl) fun a o=>xq (St.ld u) o (fun w hl=>e_ld o isAgg3 rfl (PH.le.cell (Lds.le hl) (hl18 3 _ rfl))) fun a o=>?_
 iterate 2 refine xq (St.ld u) o (fun w hl=>e_move o rfl) fun a o=>?_
 refine xr u o (e_lenL (α:=api_Token) (xs:=p1) o runUnderlying120 rfl) fun a o=>xr u o (e_sub o rfl rfl) fun a o=>xr u o (e_iaI o runUnderlying120 sizeOf130 rfl rfl h15 (SR.oaI hr5 (by decide) h15)) fun a o=>xr u o (e_fa o fa130_1 rfl) fun a o=>xq (St.ld u) o (fun w hl=>e_ld o isAgg9 rfl (PH.le.cell (Lds.le hl) (hl18 1 _ rfl))) fun a o=>xr u o (e_lenU (s:=x14.Text) o runUnderlying9 rfl) fun a o=>xr u o (e_add o rfl rfl) fun a o=>xr u o (e_asg o rfl) fun a o=>xe<|tn<|wr<|?_
 obtain rfl:=si hm
 exact r1 o results143 rfl ⟨rfl,u.keep⟩
theorem Z4k_c (hH:H.le w0) {b2:Nat} {p1:leadlineref05_In} {oa3:Option Addr} {cap4:Nat} (hc5:p1.L.length≤cap4) (hr6:SR H oa3 p1.L) (hO:(sepA [blk b2 (.cells [.slice oa3 p1.L.length cap4,i6 p1.At,i6 p1.E,i6 p1.Pos].toArray 125 (0,0))]).ok (hp w0)) (hD:∀ b,(sepA [blk b2 (.cells [.slice oa3 p1.L.length cap4,i6 p1.At,i6 p1.E,i6 p1.Pos].toArray 125 (0,0))]).fp b→H b=none) {r:leadlineref05_In} (hm:Z4k N p1=some r):Tot Tryz.prog 107 #[.pointer (some ⟨b2,0,none⟩)] w0 (fun v w'=>∃ (oa1m:Option Addr) (cap1m:Nat),v=.tuple #[]∧r.L.length≤cap1m∧SR H oa1m r.L∧Mut w0 (sepA [blk b2 (.cells [.slice oa3 p1.L.length cap4,i6 p1.At,i6 p1.E,i6 p1.Pos].toArray 125 (0,0))]) (sepA [blk b2 (.cells [.slice oa1m r.L.length cap1m,i6 r.At,i6 r.E,i6 r.Pos].toArray 125 (0,0))]) w'):=by
 unfold Z4k at hm
 refine fn0 func107 rfl ntmps107 rfl rfl fun a o=>?_
 have u:=startM hH hO hD
 refine th<|rg<|qm o rfl fun a o=>qv o (e_nilp o rfl) fun a o=>qv o (e_fa o fa125_2 rfl) fun a o=>qv o (e_ld o isAgg29 rfl ((St.ld u).cellB t0 rfl)) fun a o=>qv o (e_eql o rfl rfl) fun a o=>re<|?_
 rcases bdich (decide (p1.E=0)) with hb7 | hb7
 replace hm:=itp_t hm hb7
 refine tn<|ctv o rfl hb7<|th<|rg<|qm o rfl fun a o=>qv o (e_nilp o rfl) fun a o=>qv o (e_fa o fa125_2 rfl) fun a o=>ls<|s_blk o u sizeOf29 rfl rfl rfl rfl .head (.succ (.succ .zero)) fun w u=>re<|tn<|th<|th<|rxS 10 u wide (by kernel_rfl) fun w u=>xm u o rfl fun a o=>xr u o (e_nilp o rfl) fun a o=>xr u o (e_fa o fa125_1 rfl) fun a o=>xq (St.ld u) o (fun w hl=>e_ld o isAgg3 rfl (hl.cellB t0 rfl)) fun a o=>xm u o rfl fun a o=>xr u o (e_nilp o rfl) fun a o=>xr u o (e_fa o fa125_0 rfl) fun a o=>xq (St.ld u) o (fun w hl=>e_ld o isAgg120 rfl (hl.cellB t0 rfl)) fun a o=>xr u o (e_lenL (α:=api_Token) (xs:=p1.L) o runUnderlying120 rfl) fun a o=>xr u o (e_geq o rfl rfl) fun a o=>xe<|tn<|midK (fun a w=>∃ (vA1:Int),(Z4l N p1) vA1=some r∧Fr 35 [(0,.pointer (some ⟨b2,0,none⟩))] a∧St w0 (sepA [blk b2 (.cells [.slice oa3 p1.L.length cap4,i6 p1.At,i6 p1.E,i6 p1.Pos].toArray 125 (0,0))]).fp [H] [blk b2 (.cells [.slice oa3 p1.L.length cap4,i6 p1.At,i6 vA1,i6 p1.Pos].toArray 125 (0,0))] w) ?_ ?_
 rcases bdich (decide ((p1.L.length:Int)≤p1.At)) with hb8 | hb8
 replace hm:=itp_t hm hb8
 refine ctv o rfl hb8<|rg<|qm o rfl fun a o=>qv o (e_nilp o rfl) fun a o=>qv o (e_fa o fa125_2 rfl) fun a o=>ls<|s_blk o u sizeOf29 rfl rfl rfl rfl .head (.succ (.succ .zero)) fun w u=>re<|tn<|?_
 exact ⟨6,hm,o.has ⟨rfl,trivial⟩,u⟩
 replace hm:=itp_f hm hb8
 refine cfv o rfl hb8<|wk<|tn<|?_
 exact ⟨5,hm,o.has ⟨rfl,trivial⟩,u⟩
 rintro a w ⟨vA1,hm,o,u⟩
 unfold Z4l at hm
 obtain ⟨rz9,h10,hm⟩:=bs hm
 refine rdL sub_nil 13 u wide fun w u=>ds 0 (St.ldsX u i2 ta1) o rfl (e_move o rfl) fun a o=>ds 1 (St.ldsX u i2 ta1) o rfl (e_move o rfl) fun a o=>ds 2 (St.ldsX u i2 ta1) o rfl (e_nilp o rfl) fun a o=>ds 3 (St.ldsX u i2 ta1) o rfl (e_fa o fa125_0 rfl) fun a o=>da2 (i:=4) (j:=5) (by kernel_rfl) ?_ ?_
 refine di (i:=4) rfl<|q1 o rfl (e_ld o isAgg120 rfl ((St.ld u).cellB t0 rfl)) fun a o=>⟨fun _=>(St.ldsX u i2 ta1),?_⟩
 refine ds 5 (St.ldsX u i2 ta1) o rfl (e_move o rfl) fun a o=>ds 6 (St.ldsX u i2 ta1) o rfl (e_nilp o rfl) fun a o=>ds 7 (St.ldsX u i2 ta1) o rfl (e_fa o fa125_1 rfl) fun a o=>da1 (i:=8) (by kernel_rfl) ?_
 refine di (i:=8) rfl<|q1 o rfl (e_ld o isAgg3 rfl ((St.ld u).cellB t0 rfl)) fun a o=>⟨fun _=>(St.ldsX u i2 ta1),?_⟩
 refine da1 (i:=9) (by kernel_rfl) ?_
 refine di (i:=9) rfl<|cq o call143 (Z1r_c (hp_le _) hc5 (St.srH u hr6) h10) ⟨rfl,rfl,trivial⟩ u fun w a u o=>⟨fun _=>(St.ldsX u i2 ta1),?_⟩
 refine ds 10 (St.ldsX u i2 ta1) o rfl (e_nilp o rfl) fun a o=>ds 11 (St.ldsX u i2 ta1) o rfl (e_fa o fa125_3 rfl) fun a o=>da1 (i:=12) (by kernel_rfl) ?_
 refine di (i:=12) rfl<|s_blk o u sizeOf3 rfl rfl rfl rfl .head (.succ (.succ (.succ .zero))) fun w u=>⟨fun _=>(St.ldsX u i2 ta1),?_⟩
 refine de (by kernel_rfl)<|?_
 obtain rfl:=si hm
 exact r0n o results107 ⟨oa3,cap4,rfl,hc5,hr6,(u.pickL (.cons .head .nil)).endMut⟩
 refine di (i:=5) rfl<|q1 o rfl (e_move o rfl) fun a o=>⟨fun _=>(St.ldsX u i2 ta1),?_⟩
 refine da2 (i:=4) (j:=6) (by kernel_rfl) ?_ ?_
 refine di (i:=4) rfl<|q1 o rfl (e_ld o isAgg120 rfl ((St.ld u).cellB t0 rfl)) fun a o=>⟨fun _=>(St.ldsX u i2 ta1),?_⟩
 refine ds 6 (St.ldsX u i2 ta1) o rfl (e_nilp o rfl) fun a o=>ds 7 (St.ldsX u i2 ta1) o rfl (e_fa o fa125_1 rfl) fun a o=>da1 (i:=8) (by kernel_rfl) ?_
 refine di (i:=8) rfl<|q1 o rfl (e_ld o isAgg3 rfl ((St.ld u).cellB t0 rfl)) fun a o=>⟨fun _=>(St.ldsX u i2 ta1),?_⟩
 refine da1 (i:=9) (by kernel_rfl) ?_
 refine di (i:=9) rfl<|cq o call143 (Z1r_c (hp_le _) hc5 (St.srH u hr6) h10) ⟨rfl,rfl,trivial⟩ u fun w a u o=>⟨fun _=>(St.ldsX u i2 ta1),?_⟩
 refine ds 10 (St.ldsX u i2 ta1) o rfl (e_nilp o rfl) fun a o=>ds 11 (St.ldsX u i2 ta1) o rfl (e_fa o fa125_3 rfl) fun a o=>da1 (i:=12) (by kernel_rfl) ?_
 refine di (i:=12) rfl<|s_blk o u sizeOf3 rfl rfl rfl rfl .head (.succ (.succ (.succ .zero))) fun w u=>⟨fun _=>(St.ldsX u i2 ta1),?_⟩
 refine de (by kernel_rfl)<|?_
 obtain rfl:=si hm
 exact r0n o results107 ⟨oa3,cap4,rfl,hc5,hr6,(u.pickL (.cons .head .nil)).endMut⟩
 refine di (i:=6) rfl<|q1 o rfl (e_nilp o rfl) fun a o=>⟨fun _=>(St.ldsX u i2 ta1),?_⟩
 refine da2 (i:=4) (j:=7) (by kernel_rfl) ?_ ?_
 refine di (i:=4) rfl<|q1 o rfl (e_ld o isAgg120 rfl ((St.ld u).cellB t0 rfl)) fun a o=>⟨fun _=>(St.ldsX u i2 ta1),?_⟩
 refine ds 7 (St.ldsX u i2 ta1) o rfl (e_fa o fa125_1 rfl) fun a o=>da1 (i:=8) (by kernel_rfl) ?_
 refine di (i:=8) rfl<|q1 o rfl (e_ld o isAgg3 rfl ((St.ld u).cellB t0 rfl)) fun a o=>⟨fun _=>(St.ldsX u i2 ta1),?_⟩
 refine da1 (i:=9) (by kernel_rfl) ?_
 refine di (i:=9) rfl<|cq o call143 (Z1r_c (hp_le _) hc5 (St.srH u hr6) h10) ⟨rfl,rfl,trivial⟩ u fun w a u o=>⟨fun _=>(St.ldsX u i2 ta1),?_⟩
 refine ds 10 (St.ldsX u i2 ta1) o rfl (e_nilp o rfl) fun a o=>ds 11 (St.ldsX u i2 ta1) o rfl (e_fa o fa125_3 rfl) fun a o=>da1 (i:=12) (by kernel_rfl) ?_
 refine di (i:=12) rfl<|s_blk o u sizeOf3 rfl rfl rfl rfl .head (.succ (.succ (.succ .zero))) fun w u=>⟨fun _=>(St.ldsX u i2 ta1),?_⟩
 refine de (by kernel_rfl)<|?_
 obtain rfl:=si hm
 exact r0n o results107 ⟨oa3,cap4,rfl,hc5,hr6,(u.pickL (.cons .head .nil)).endMut⟩
 refine di (i:=7) rfl<|q1 o rfl (e_fa o fa125_1 rfl) fun a o=>⟨fun _=>(St.ldsX u i2 ta1),?_⟩
 refine da2 (i:=4) (j:=8) (by kernel_rfl) ?_ ?_
 refine di (i:=4) rfl<|q1 o rfl (e_ld o isAgg120 rfl ((St.ld u).cellB t0 rfl)) fun a o=>⟨fun _=>(St.ldsX u i2 ta1),?_⟩
 refine da1 (i:=8) (by kernel_rfl) ?_
 refine di (i:=8) rfl<|q1 o rfl (e_ld o isAgg3 rfl ((St.ld u).cellB t0 rfl)) fun a o=>⟨fun _=>(St.ldsX u i2 ta1),?_⟩
 refine da1 (i:=9) (by kernel_rfl) ?_
 refine di (i:=9) rfl<|cq o call143 (Z1r_c (hp_le _) hc5 (St.srH u hr6) h10) ⟨rfl,rfl,trivial⟩ u fun w a u o=>⟨fun _=>(St.ldsX u i2 ta1),?_⟩
 refine ds 10 (St.ldsX u i2 ta1) o rfl (e_nilp o rfl) fun a o=>ds 11 (St.ldsX u i2 ta1) o rfl (e_fa o fa125_3 rfl) fun a o=>da1 (i:=12) (by kernel_rfl) ?_
 refine di (i:=12) rfl<|s_blk o u sizeOf3 rfl rfl rfl rfl .head (.succ (.succ (.succ .zero))) fun w u=>⟨fun _=>(St.ldsX u i2 ta1),?_⟩
 refine de (by kernel_rfl)<|?_
 obtain rfl:=si hm
 exact r0n o results107 ⟨oa3,cap4,rfl,hc5,hr6,(u.pickL (.cons .head .nil)).endMut⟩
 refine di (i:=8) rfl<|q1 o rfl (e_ld o isAgg3 rfl ((St.ld u).cellB t0 rfl)) fun a o=>⟨fun _=>(St.ldsX u i2 ta1),?_⟩
 refine da1 (i:=4) (by kernel_rfl) ?_
 refine di (i:=4) rfl<|q1 o rfl (e_ld o isAgg120 rfl ((St.ld u).cellB t0 rfl)) fun a o=>⟨fun _=>(St.ldsX u i2 ta1),?_⟩
 refine da1 (i:=9) (by kernel_rfl) ?_
 refine di (i:=9) rfl<|cq o call143 (Z1r_c (hp_le _) hc5 (St.srH u hr6) h10) ⟨rfl,rfl,trivial⟩ u fun w a u o=>⟨fun _=>(St.ldsX u i2 ta1),?_⟩
 refine ds 10 (St.ldsX u i2 ta1) o rfl (e_nilp o rfl) fun a o=>ds 11 (St.ldsX u i2 ta1) o rfl (e_fa o fa125_3 rfl) fun a o=>da1 (i:=12) (by kernel_rfl) ?_
 refine di (i:=12) rfl<|s_blk o u sizeOf3 rfl rfl rfl rfl .head (.succ (.succ (.succ .zero))) fun w u=>⟨fun _=>(St.ldsX u i2 ta1),?_⟩
 refine de (by kernel_rfl)<|?_
 obtain rfl:=si hm
 exact r0n o results107 ⟨oa3,cap4,rfl,hc5,hr6,(u.pickL (.cons .head .nil)).endMut⟩
 replace hm:=itp_f hm hb7
 refine tn<|cfv o rfl hb7<|wk<|?_
 obtain rfl:=si hm
 exact r0n o results107 ⟨oa3,cap4,rfl,hc5,hr6,(u.pickL (.cons .head .nil)).endMut⟩
set_option maxHeartbeats 4000000 in
theorem Z4q_c (hH:H.le w0) {b2:Nat} {p1:leadlineref05_In} {oa3:Option Addr} {cap4:Nat} (hc5:p1.L.length≤cap4) (hr6:SR H oa3 p1.L) (hO:(sepA [blk b2 (.cells [.slice oa3 p1.L.length cap4,i6 p1.At,i6 p1.E,i6 p1.Pos].toArray 125 (0,0))]).ok (hp w0)) (hD:∀ b,(sepA [blk b2 (.cells [.slice oa3 p1.L.length cap4,i6 p1.At,i6 p1.E,i6 p1.Pos].toArray 125 (0,0))]).fp b→H b=none) {r:(api_Cell×leadlineref05_In)} (hm:Z4q N p1=some r):Tot Tryz.prog 104 #[.pointer (some ⟨b2,0,none⟩)] w0 (fun v w'=>∃ (oa1m:Option Addr) (cap1m:Nat),v=.agg #[strv r.1.Name,i6 r.1.N,i6 r.1.At]∧r.2.L.length≤cap1m∧SR H oa1m r.2.L∧Mut w0 (sepA [blk b2 (.cells [.slice oa3 p1.L.length cap4,i6 p1.At,i6 p1.E,i6 p1.Pos].toArray 125 (0,0))]) (sepA [blk b2 (.cells [.slice oa1m r.2.L.length cap1m,i6 r.2.At,i6 r.2.E,i6 r.2.Pos].toArray 125 (0,0))]) w'):=by
 unfold Z4q at hm
 refine fn0 func104 rfl ntmps104 rfl rfl fun a o=>?_
 have u:=startM hH hO hD
 refine th<|rg<|ls<|a_alloc (cs:=[strv [],i6 0,i6 0].toArray) o rfl u Tryz.zeroValue53 rfl fun b7 w a u o=>re<|tn<|th<|th<|midK (fun a w=>∃ (vA1:Bool),(Z4r N p1) vA1=some r∧Fr 84 [(0,.pointer (some ⟨b2,0,none⟩)),(2,.pointer (some ⟨b7,0,none⟩)),(47,.bool vA1)] a∧St w0 (sepA [blk b2 (.cells [.slice oa3 p1.L.length cap4,i6 p1.At,i6 p1.E,i6 p1.Pos].toArray 125 (0,0))]).fp [H] [blk b2 (.cells [.slice oa3 p1.L.length cap4,i6 p1.At,i6 p1.E,i6 p1.Pos].toArray 125 (0,0)),blk b7 (.cells [strv [],i6 0,i6 0].toArray 53 (0,0))] w) ?_ ?_
 rcases bdich (decide (p1.E=0)) with hb8 | hb8
 replace hm:=itp_t hm hb8
 rcases bdich (decide (p1.At < (p1.L.length:Int))) with hb9 | hb9
 replace hm:=itp_t hm hb9
 obtain ⟨x10,h11,hm⟩:=bs hm
 obtain ⟨c12,g13,hl14⟩:=SR.get hr6 h11
 obtain rfl:=api_Token_open g13
 rcases bdich (decide (x10.Kind=1)) with hb15 | hb15
 replace hm:=itp_t hm hb15
 obtain ⟨r16,h17,hm⟩:=bs hm
 refine rdS 45 u wide fun w u=>dr 0 u o rfl (e_move o rfl) fun a o=>dr 1 u o rfl (e_nilp o rfl) fun a o=>dr 2 u o rfl (e_fa o fa125_2 rfl) fun a o=>dq 3 (St.ld u) o rfl (fun w hl=>e_ld o isAgg29 rfl (hl.cellB t1 rfl)) fun a o=>dr 4 u o rfl (e_eql o rfl rfl) fun a o=>dr 5 u o rfl (e_as (e_move o rfl) (congrArg Value.bool hb8)) fun a o=>dg 6 (St.ld u) o rfl (fun w hl=>e_move o rfl) fun a o=>dg 7 (St.ld u) o rfl (fun w hl=>e_nilp o rfl) fun a o=>dg 8 (St.ld u) o rfl (fun w hl=>e_fa o fa125_1 rfl) fun a o=>dg 9 (St.ld u) o rfl (fun w hl=>e_ld o isAgg3 rfl (hl.cellB t1 rfl)) fun a o=>dg 10 (St.ld u) o rfl (fun w hl=>e_move o rfl) fun a o=>dg 11 (St.ld u) o rfl (fun w hl=>e_nilp o rfl) fun a o=>dg 12 (St.ld u) o rfl (fun w hl=>e_fa o fa125_0 rfl) fun a o=>dg 13 (St.ld u) o rfl (fun w hl=>e_ld o isAgg120 rfl (hl.cellB t1 rfl)) fun a o=>dg 14 (St.ld u) o rfl (fun w hl=>e_lenL (α:=api_Token) (xs:=p1.L) o runUnderlying120 rfl) fun a o=>dg 15 (St.ld u) o rfl (fun w hl=>e_lss o rfl rfl) fun a o=>dr 16 u o rfl (e_pickT o rfl rfl) fun a o=>dr 17 u o rfl (e_as (e_move o rfl) (congrArg Value.bool hb9)) fun a o=>dg 18 (St.ld u) o rfl (fun w hl=>e_move o rfl) fun a o=>dg 19 (St.ld u) o rfl (fun w hl=>e_nilp o rfl) fun a o=>dg 20 (St.ld u) o rfl (fun w hl=>e_fa o fa125_0 rfl) fun a o=>dg 21 (St.ld u) o rfl (fun w hl=>e_ld o isAgg120 rfl (hl.cellB t1 rfl)) fun a o=>dg 22 (St.ld u) o rfl (fun w hl=>e_move o rfl) fun a o=>dg 23 (St.ld u) o rfl (fun w hl=>e_nilp o rfl) fun a o=>dg 24 (St.ld u) o rfl (fun w hl=>e_fa o fa125_1 rfl) fun a o=>dg 25 (St.ld u) o rfl (fun w hl=>e_ld o isAgg3 rfl (hl.cellB t1 rfl)) fun a o=>dg 26 (St.ld u) o rfl (fun w hl=>e_iaI o runUnderlying120 sizeOf130 rfl rfl h11 (SR.oaI hr6 (by decide) h11)) fun a o=>dg 27 (St.ld u) o rfl (fun w hl=>e_fa o fa130_0 rfl) fun a o=>dg 28 (St.ld u) o rfl (fun w hl=>e_ld o isAgg3 rfl (PH.le.cell (Lds.le hl) (hl14 0 _ rfl))) fun a o=>dg 29 (St.ld u) o rfl (fun w hl=>e_eql o rfl rfl) fun a o=>?_
 refine dr 30 u o rfl (e_pickT o rfl rfl) fun a o=>dr 31 u o rfl (e_as (e_move o rfl) (congrArg Value.bool hb15)) fun a o=>dg 32 (St.ld u) o rfl (fun w hl=>e_move o rfl) fun a o=>dg 33 (St.ld u) o rfl (fun w hl=>e_nilp o rfl) fun a o=>dg 34 (St.ld u) o rfl (fun w hl=>e_fa o fa125_0 rfl) fun a o=>dg 35 (St.ld u) o rfl (fun w hl=>e_ld o isAgg120 rfl (hl.cellB t1 rfl)) fun a o=>dg 36 (St.ld u) o rfl (fun w hl=>e_move o rfl) fun a o=>dg 37 (St.ld u) o rfl (fun w hl=>e_nilp o rfl) fun a o=>dg 38 (St.ld u) o rfl (fun w hl=>e_fa o fa125_1 rfl) fun a o=>dg 39 (St.ld u) o rfl (fun w hl=>e_ld o isAgg3 rfl (hl.cellB t1 rfl)) fun a o=>dg 40 (St.ld u) o rfl (fun w hl=>e_iaI o runUnderlying120 sizeOf130 rfl rfl h11 (SR.oaI hr6 (by decide) h11)) fun a o=>dg 41 (St.ld u) o rfl (fun w hl=>e_fa o fa130_1 rfl) fun a o=>dg 42 (St.ld u) o rfl (fun w hl=>e_ld o isAgg9 rfl (PH.le.cell (Lds.le hl) (hl14 1 _ rfl))) fun a o=>da1 (i:=43) (by kernel_rfl) ?_
 refine di (i:=43) rfl<|gy o rfl rfl<|cq o call114 (Z1m_c (hp_le _) h17) ⟨rfl,trivial⟩ u fun w a u o=>⟨fun _=>(St.ld u),?_⟩
 refine dr 44 u o rfl (e_pickT o rfl rfl) fun a o=>de (by kernel_rfl)<|tn<|?_
 replace u:=u.pk [1,0] rfl
 exact ⟨r16,hm,o.hs,u⟩
 replace hm:=itp_f hm hb15
 refine rxS 45 u wide (by kernel_rfl) fun w u=>xm u o rfl fun a o=>xr u o (e_nilp o rfl) fun a o=>xr u o (e_fa o fa125_2 rfl) fun a o=>xq (St.ld u) o (fun w hl=>e_ld o isAgg29 rfl (hl.cellB t1 rfl)) fun a o=>xr u o (e_eql o rfl rfl) fun a o=>xr u o (e_as (e_move o rfl) (congrArg Value.bool hb8)) fun a o=>xg (St.ld u) o (fun w hl=>e_move o rfl) fun a o=>xg (St.ld u) o (fun w hl=>e_nilp o rfl) fun a o=>xg (St.ld u) o (fun w hl=>e_fa o fa125_1 rfl) fun a o=>xg (St.ld u) o (fun w hl=>e_ld o isAgg3 rfl (hl.cellB t1 rfl)) fun a o=>xg (St.ld u) o (fun w hl=>e_move o rfl) fun a o=>xg (St.ld u) o (fun w hl=>e_nilp o rfl) fun a o=>xg (St.ld u) o (fun w hl=>e_fa o fa125_0 rfl) fun a o=>xg (St.ld u) o (fun w hl=>e_ld o isAgg120 rfl (hl.cellB t1 rfl)) fun a o=>xg (St.ld u) o (fun w hl=>e_lenL (α:=api_Token) (xs:=p1.L) o runUnderlying120 rfl) fun a o=>xg (St.ld u) o (fun w hl=>e_lss o rfl rfl) fun a o=>xr u o (e_pickT o rfl rfl) fun a o=>xr u o (e_as (e_move o rfl) (congrArg Value.bool hb9)) fun a o=>xg (St.ld u) o (fun w hl=>e_move o rfl) fun a o=>xg (St.ld u) o (fun w hl=>e_nilp o rfl) fun a o=>xg (St.ld u) o (fun w hl=>e_fa o fa125_0 rfl) fun a o=>xg (St.ld u) o (fun w hl=>e_ld o isAgg120 rfl (hl.cellB t1 rfl)) fun a o=>xg (St.ld u) o (fun w hl=>e_move o rfl) fun a o=>xg (St.ld u) o (fun w hl=>e_nilp o rfl) fun a o=>xg (St.ld u) o (fun w hl=>e_fa o fa125_1 rfl) fun a o=>xg (St.ld u) o (fun w hl=>e_ld o isAgg3 rfl (hl.cellB t1 rfl)) fun a o=>xg (St.ld u) o (fun w hl=>e_iaI o runUnderlying120 sizeOf130 rfl rfl h11 (SR.oaI hr6 (by decide) h11)) fun a o=>xg (St.ld u) o (fun w hl=>e_fa o fa130_0 rfl) fun a o=>xg (St.ld u) o (fun w hl=>e_ld o isAgg3 rfl (PH.le.cell (Lds.le hl) (hl14 0 _ rfl))) fun a o=>xg (St.ld u) o (fun w hl=>e_eql o rfl rfl) fun a o=>?_
 refine xr u o (e_pickT o rfl rfl) fun a o=>xr u o (e_as (e_move o rfl) (congrArg Value.bool hb15)) fun a o=>?_
 iterate 12 refine xn (St.ld u) o fun a o=>?_
 refine xr u o (e_pickF o rfl rfl) fun a o=>xe<|tn<|?_
 replace u:=u.pk [1,0] rfl
 exact ⟨false,hm,o.hs,u⟩
 replace hm:=itp_f hm hb9
 refine rxS 45 u wide (by kernel_rfl) fun w u=>xm u o rfl fun a o=>xr u o (e_nilp o rfl) fun a o=>xr u o (e_fa o fa125_2 rfl) fun a o=>xq (St.ld u) o (fun w hl=>e_ld o isAgg29 rfl (hl.cellB t1 rfl)) fun a o=>xr u o (e_eql o rfl rfl) fun a o=>xr u o (e_as (e_move o rfl) (congrArg Value.bool hb8)) fun a o=>xg (St.ld u) o (fun w hl=>e_move o rfl) fun a o=>xg (St.ld u) o (fun w hl=>e_nilp o rfl) fun a o=>xg (St.ld u) o (fun w hl=>e_fa o fa125_1 rfl) fun a o=>xg (St.ld u) o (fun w hl=>e_ld o isAgg3 rfl (hl.cellB t1 rfl)) fun a o=>xg (St.ld u) o (fun w hl=>e_move o rfl) fun a o=>xg (St.ld u) o (fun w hl=>e_nilp o rfl) fun a o=>xg (St.ld u) o (fun w hl=>e_fa o fa125_0 rfl) fun a o=>xg (St.ld u) o (fun w hl=>e_ld o isAgg120 rfl (hl.cellB t1 rfl)) fun a o=>xg (St.ld u) o (fun w hl=>e_lenL (α:=api_Token) (xs:=p1.L) o runUnderlying120 rfl) fun a o=>xg (St.ld u) o (fun w hl=>e_lss o rfl rfl) fun a o=>xr u o (e_pickT o rfl rfl) fun a o=>xr u o (e_as (e_move o rfl) (congrArg Value.bool hb9)) fun a o=>?_
 iterate 12 refine xn (St.ld u) o fun a o=>?_
 refine xr u o (e_pickF o rfl rfl) fun a o=>xm u o rfl fun a o=>?_
 iterate 12 refine xn (St.ld u) o fun a o=>?_
 refine xr u o (e_pickF o rfl rfl) fun a o=>xe<|tn<|?_
 replace u:=u.pk [1,0] rfl
 exact ⟨false,hm,o.hs,u⟩
 replace hm:=itp_f hm hb8
 refine rxS 45 u wide (by kernel_rfl) fun w u=>xm u o rfl fun a o=>xr u o (e_nilp o rfl) fun a o=>xr u o (e_fa o fa125_2 rfl) fun a o=>xq (St.ld u) o (fun w hl=>e_ld o isAgg29 rfl (hl.cellB t1 rfl)) fun a o=>xr u o (e_eql o rfl rfl) fun a o=>xr u o (e_as (e_move o rfl) (congrArg Value.bool hb8)) fun a o=>?_
 iterate 10 refine xn (St.ld u) o fun a o=>?_
 refine xr u o (e_pickF o rfl rfl) fun a o=>xm u o rfl fun a o=>?_
 iterate 12 refine xn (St.ld u) o fun a o=>?_
 refine xr u o (e_pickF o rfl rfl) fun a o=>xm u o rfl fun a o=>?_
 iterate 12 refine xn (St.ld u) o fun a o=>?_
 refine xr u o (e_pickF o rfl rfl) fun a o=>xe<|tn<|?_
 replace u:=u.pk [1,0] rfl
 exact ⟨false,hm,o.hs,u⟩
 rintro a w ⟨vA1,hm,o,u⟩
 unfold Z4r at hm
 rcases bdich vA1 with hb18 | hb18
 replace hm:=ite_t hm hb18
 refine ctv o rfl hb18<|th<|rg<|qm o rfl fun a o=>qm o rfl fun a o=>qv o (e_nilp o rfl) fun a o=>qv o (e_fa o fa125_1 rfl) fun a o=>qv o (e_ld o isAgg3 rfl ((St.ld u).cellB t0 rfl)) fun a o=>qv o (e_add o rfl rfl) fun a o=>qv o (e_nilp o rfl) fun a o=>qv o (e_fa o fa125_1 rfl) fun a o=>ls<|s_blk o u sizeOf3 rfl rfl rfl rfl .head (.succ .zero) fun w u=>re<|tn<|th<|?_
 obtain ⟨x19,h20,hm⟩:=bs hm
 obtain ⟨c21,g22,hl23⟩:=SR.get hr6 h20
 obtain rfl:=api_Token_open g22
 refine rxS 25 u wide (by kernel_rfl) fun w u=>xm u o rfl fun a o=>xr u o (e_nilp o rfl) fun a o=>xr u o (e_fa o fa125_0 rfl) fun a o=>xq (St.ld u) o (fun w hl=>e_ld o isAgg120 rfl (hl.cellB t0 rfl)) fun a o=>xm u o rfl fun a o=>xr u o (e_nilp o rfl) fun a o=>xr u o (e_fa o fa125_1 rfl) fun a o=>xq (St.ld u) o (fun w hl=>e_ld o isAgg3 rfl (hl.cellB t0 rfl)) fun a o=>xr u o (e_sub o rfl rfl) fun a o=>xr u o (e_iaI o runUnderlying120 sizeOf130 rfl rfl h20 (SR.oaI hr6 (by decide) h20)) fun a o=>xr u o (e_fa o fa130_1 rfl) fun a o=>xq (St.ld u) o (fun w hl=>e_ld o isAgg9 rfl (PH.le.cell (Lds.le hl) (hl23 1 _ rfl))) fun a o=>xm u o rfl fun a o=>xr u o (e_nilp o rfl) fun a o=>xr u o (e_fa o fa125_0 rfl) fun a o=>xq (St.ld u) o (fun w hl=>e_ld o isAgg120 rfl (hl.cellB t0 rfl)) fun a o=>xm u o rfl fun a o=>xr u o (e_nilp o rfl) fun a o=>xr u o (e_fa o fa125_1 rfl) fun a o=>xq (St.ld u) o (fun w hl=>e_ld o isAgg3 rfl (hl.cellB t0 rfl)) fun a o=>xr u o (e_sub o rfl rfl) fun a o=>xr u o (e_iaI o runUnderlying120 sizeOf130 rfl rfl h20 (SR.oaI hr6 (by decide) h20)) fun a o=>xr u o (e_fa o fa130_3 rfl) fun a o=>xq (St.ld u) o (fun w hl=>e_ld o isAgg3 rfl (PH.le.cell (Lds.le hl) (hl23 3 _ rfl))) fun a o=>xq (St.ld u) o (fun w hl=>e_bldK [strv x19.Text,i6 x19.At] [strv x19.Text,i6 0,i6 x19.At] o ⟨rfl,rfl,trivial⟩ (fun w=>by kernel_rfl)) fun a o=>xz rfl<|s_blkA o u sizeOf53 rfl rfl rfl rfl (one_cells rfl) (.tail .head) fun w u=>tn<|wr<|tr<|?_
 obtain rfl:=si hm
 exact r1c (vs:=[strv x19.Text,i6 0,i6 x19.At]) (.inl rfl) o results104 rfl isAgg53 sizeOf53 rfl ((St.ld u).cellsB t1) ⟨oa3,cap4,rfl,hc5,hr6,(u.pickL (.cons .head .nil)).endMut⟩
 replace hm:=ite_f hm hb18
 refine cfv o rfl hb18<|wk<|tn<|th<|?_
 obtain ⟨r24,h25,hm⟩:=bs hm
 refine rg<|qm o rfl fun a o=>?_
 replace u:=u.pk [0,0] rfl
 replace u:=St.sep [blk b2 (.cells [.slice oa3 p1.L.length cap4,i6 p1.At,i6 p1.E,i6 p1.Pos].toArray 125 (0,0))] u
 refine ls<|c1 o rfl call107 (Z4k_c (St.le u) (p1:=p1) (b2:=b2) (oa3:=oa3) (cap4:=cap4) hc5 hr6 (St.sepOk u) (St.sepDis u) h25) ⟨rfl,trivial⟩ (fun v w a hR o=>?_)
 obtain ⟨oa26,cap27,rfl,hc28,hr29,hk⟩:=hR
 replace u:=(u.mut hk .head).unsep
 refine re<|tn<|th<|rg<|qv o (e_bldK [] [strv [],i6 0,i6 0] o trivial (fun w=>by kernel_rfl)) fun a o=>ls<|s_blkA o u sizeOf53 rfl rfl rfl rfl (one_cells rfl) (.tail .head) fun w u=>re<|tn<|wr<|?_
 obtain rfl:=si hm
 exact r1c (vs:=[strv [],i6 0,i6 0]) (.inl rfl) o results104 rfl isAgg53 sizeOf53 rfl ((St.ld u).cellsB t1) ⟨oa26,cap27,rfl,hc28,hr29,(u.pickL (.cons .head .nil)).endMut⟩
theorem Z4p_c (hH:H.le w0) {b2:Nat} {p1:leadlineref05_In} {oa3:Option Addr} {cap4:Nat} (hc5:p1.L.length≤cap4) (hr6:SR H oa3 p1.L) {p7:Str} (hO:(sepA [blk b2 (.cells [.slice oa3 p1.L.length cap4,i6 p1.At,i6 p1.E,i6 p1.Pos].toArray 125 (0,0))]).ok (hp w0)) (hD:∀ b,(sepA [blk b2 (.cells [.slice oa3 p1.L.length cap4,i6 p1.At,i6 p1.E,i6 p1.Pos].toArray 125 (0,0))]).fp b→H b=none) {r:leadlineref05_In} (hm:Z4p N p1 p7=some r):Tot Tryz.prog 140 #[.pointer (some ⟨b2,0,none⟩),strv p7] w0 (fun v w'=>∃ (oa1m:Option Addr) (cap1m:Nat),v=.tuple #[]∧r.L.length≤cap1m∧SR H oa1m r.L∧Mut w0 (sepA [blk b2 (.cells [.slice oa3 p1.L.length cap4,i6 p1.At,i6 p1.E,i6 p1.Pos].toArray 125 (0,0))]) (sepA [blk b2 (.cells [.slice oa1m r.L.length cap1m,i6 r.At,i6 r.E,i6 r.Pos].toArray 125 (0,0))]) w'):=by
 unfold Z4p at hm
 refine fn0 func140 rfl ntmps140 rfl rfl fun a o=>?_
 have u:=startM hH hO hD
 refine th<|?_
 obtain ⟨rz8,h9,hm⟩:=bs hm
 refine rg<|qm o rfl fun a o=>qm o rfl fun a o=>?_
 replace u:=u.pk [0] rfl
 replace u:=St.sep [blk b2 (.cells [.slice oa3 p1.L.length cap4,i6 p1.At,i6 p1.E,i6 p1.Pos].toArray 125 (0,0))] u
 refine ls<|c1 o rfl call102 (Z4n_c (St.le u) (p1:=p1) (b2:=b2) (oa3:=oa3) (cap4:=cap4) hc5 hr6 (St.sepOk u) (St.sepDis u) h9) ⟨rfl,rfl,trivial⟩ (fun v w a hR o=>?_)
 obtain ⟨oa10,cap11,rfl,hc12,hr13,hk⟩:=hR
 replace u:=(u.mut hk .head).unsep
 refine qv o (e_not o rfl) fun a o=>re<|?_
 rcases bdich rz8.1 with hb14 | hb14
 replace hm:=ite_t hm hb14
 refine tn<|cfv o rfl (by rw [hb14];rfl)<|wk<|?_
 obtain rfl:=si hm
 exact r0n o results140 ⟨oa10,cap11,rfl,hc12,hr13,(u.pickL (.cons .head .nil)).endMut⟩
 replace hm:=ite_f hm hb14
 refine tn<|ctv o rfl (by rw [hb14];rfl)<|?_
 obtain ⟨r15,h16,hm⟩:=bs hm
 refine rg<|qm o rfl fun a o=>?_
 replace u:=u.pk [0] rfl
 replace u:=St.sep [blk b2 (.cells [.slice oa10 rz8.2.L.length cap11,i6 rz8.2.At,i6 rz8.2.E,i6 rz8.2.Pos].toArray 125 (0,0))] u
 refine ls<|c1 o rfl call107 (Z4k_c (St.le u) (p1:=rz8.2) (b2:=b2) (oa3:=oa10) (cap4:=cap11) hc12 hr13 (St.sepOk u) (St.sepDis u) h16) ⟨rfl,trivial⟩ (fun v w a hR o=>?_)
 obtain ⟨oa17,cap18,rfl,hc19,hr20,hk⟩:=hR
 replace u:=(u.mut hk .head).unsep
 refine re<|?_
 obtain rfl:=si hm
 exact r0n o results140 ⟨oa17,cap18,rfl,hc19,hr20,(u.pickL (.cons .head .nil)).endMut⟩
set_option maxHeartbeats 4000000 in
theorem Z4s_c (hH:H.le w0) {b2:Nat} {p1:leadlineref05_In} {oa3:Option Addr} {cap4:Nat} (hc5:p1.L.length≤cap4) (hr6:SR H oa3 p1.L) {p7:Bool} (hO:(sepA [blk b2 (.cells [.slice oa3 p1.L.length cap4,i6 p1.At,i6 p1.E,i6 p1.Pos].toArray 125 (0,0))]).ok (hp w0)) (hD:∀ b,(sepA [blk b2 (.cells [.slice oa3 p1.L.length cap4,i6 p1.At,i6 p1.E,i6 p1.Pos].toArray 125 (0,0))]).fp b→H b=none) {r:((List api_Cell)×leadlineref05_In)} (hm:Z4s N p1 p7=some r):Tot Tryz.prog 103 #[.pointer (some ⟨b2,0,none⟩),.bool p7] w0 (fun v w'=>∃ (oa0:Option Addr) (cap0:Nat) (vs0:List Value) (oa1m:Option Addr) (cap1m:Nat),v=.slice oa0 r.1.length cap0∧(∀ h,Rows h vs0 r.1)∧r.2.L.length≤cap1m∧SR H oa1m r.2.L∧Mut w0 (sepA [blk b2 (.cells [.slice oa3 p1.L.length cap4,i6 p1.At,i6 p1.E,i6 p1.Pos].toArray 125 (0,0))]) (sepA [blk b2 (.cells [.slice oa1m r.2.L.length cap1m,i6 r.2.At,i6 r.2.E,i6 r.2.Pos].toArray 125 (0,0)),sla 53 3 oa0 r.1.length cap0 vs0]) w'):=by
 unfold Z4s at hm
 refine fn0 func103 rfl ntmps103 rfl rfl fun a o=>?_
 have u:=startM hH hO hD
 refine th<|rg<|qa o rfl fun a o=>re<|tn<|th<|rg<|ls<|a_bsl (e:=53) (sz:=3) [] o rfl u rfl rfl rfl (fun w=>by kernel_rfl) fun b9 w a u o=>?_
 have hv8:Rows (α:=api_Cell) H [] []:=.nil
 refine qa o rfl fun a o=>re<|tn<|th<|th<|rg<|qa o rfl fun a o=>re<|tn<|midK (fun a w=>∃ (vA1:(List api_Token)) (vA6:Int) (vA7:Int) (vA8:Int) (vA9:(List api_Cell)) (oaA2:Option Addr) (capA3:Nat) (oaA10:Option Addr) (capA11:Nat) (vsA12:List Value),(Z4t N) vA1 vA6 vA7 vA8 vA9=some r∧Fr 79 [(0,.pointer (some ⟨b2,0,none⟩)),(5,.slice oaA10 vA9.length capA11)] a∧St w0 (sepA [blk b2 (.cells [.slice oa3 p1.L.length cap4,i6 p1.At,i6 p1.E,i6 p1.Pos].toArray 125 (0,0))]).fp [H] [blk b2 (.cells [.slice oaA2 vA1.length capA3,i6 vA6,i6 vA7,i6 vA8].toArray 125 (0,0)),sla 53 3 oaA10 vA9.length capA11 vsA12] w∧vA1.length≤capA3∧SR H oaA2 vA1∧Rows H vsA12 vA9) ?_ ?_
 replace u:=u.pk [1,0] rfl
 refine wb<|lp (α:=Nat×(List api_Token)×Int×Int×Int×(List api_Cell)×Bool) (fun gh a w=>match gh with | (nn2,vB1,vB6,vB7,vB8,vB9,vB15)=>∃ (oaB2:Option Addr) (capB3:Nat) (oaB10:Option Addr) (capB11:Nat) (vsB12:List Value),(Z4x N (Z4t N) p7) nn2 vB1 vB6 vB7 vB8 vB9 vB15=some r∧Fr 79 [(0,.pointer (some ⟨b2,0,none⟩)),(1,.bool p7),(5,.slice oaB10 vB9.length capB11),(6,.bool vB15)] a∧St w0 (sepA [blk b2 (.cells [.slice oa3 p1.L.length cap4,i6 p1.At,i6 p1.E,i6 p1.Pos].toArray 125 (0,0))]).fp [H] [blk b2 (.cells [.slice oaB2 vB1.length capB3,i6 vB6,i6 vB7,i6 vB8].toArray 125 (0,0)),sla 53 3 oaB10 vB9.length capB11 vsB12] w∧vB1.length≤capB3∧SR H oaB2 vB1∧Rows H vsB12 vB9) (fun gh=>gh.1) (N,p1.L,p1.At,p1.E,p1.Pos,[],true) ⟨oa3,cap4,(some ⟨b9,0,none⟩),0,[],hm,o.hs,u,hc5,hr6,hv8⟩ ?_
 rintro ⟨nn2,vB1,vB6,vB7,vB8,vB9,vB15⟩ a w ⟨oaB2,capB3,oaB10,capB11,vsB12,hm,o,u,hcB4,hrB5,hvB13⟩
 obtain _ | nn2:=nn2
 simp [Z4x] at hm
 rw [Z4x] at hm
 refine th<|th<|rg<|qm o rfl fun a o=>qm o rfl fun a o=>grp (N:=79) (Fk:=[(0,.pointer (some ⟨b2,0,none⟩)),(1,.bool p7),(5,.slice oaB10 vB9.length capB11),(16,.bool (vB15 && (decide (vB7=0))))]) (b:=vB15) 6 u ?_ ?_ ?_
 intro hb key
 replace o:=Fr.as o (t:=10) rfl (congrArg Value.bool hb)
 refine qg o (e_move o rfl) fun a o=>qg o (e_nilp o rfl) fun a o=>qg o (e_fa o fa125_2 rfl) fun a o=>qg o (e_ld o isAgg29 rfl ((St.ld u).cellB t0 rfl)) fun a o=>qg o (e_eql o rfl rfl) fun a o=>qv o (e_as (v':=.bool (vB15 && (decide (vB7=0)))) (e_pickT o rfl rfl) (by rw [hb];rfl)) fun a o=>?_
 exact key _ _ (o.hs) u
 intro hb key
 replace o:=Fr.as o (t:=10) rfl (congrArg Value.bool hb)
 iterate 5 refine qn o fun a o=>?_
 refine qv o (e_as (v':=.bool (vB15 && (decide (vB7=0)))) (e_pickF o rfl rfl) (by rw [hb];rfl)) fun a o=>?_
 exact key _ _ (o.hs) u
 intro a w o u
 refine re<|?_
 rcases bdich (vB15 && (decide (vB7=0))) with hb11 | hb11
 replace hm:=ite_t hm hb11
 refine tn<|ctv o rfl hb11<|wk<|tn<|th<|wb<|th<|?_
 obtain ⟨r12,h13,hm⟩:=bs hm
 refine rg<|qm o rfl fun a o=>?_
 replace u:=u.pk [0,0] rfl
 replace u:=St.sep [blk b2 (.cells [.slice oaB2 vB1.length capB3,i6 vB6,i6 vB7,i6 vB8].toArray 125 (0,0))] u
 refine ls<|c1 o rfl call104 (Z4q_c (St.le u) (p1:=(leadlineref05_In.mk vB1 vB6 vB7 vB8)) (b2:=b2) (oa3:=oaB2) (cap4:=capB3) hcB4 hrB5 (St.sepOk u) (St.sepDis u) h13) ⟨rfl,trivial⟩ (fun v w a hR o=>?_)
 obtain ⟨oa14,cap15,rfl,hc16,hr17,hk⟩:=hR
 replace u:=(u.mut hk .head).unsep
 refine ls<|a_alloc (cs:=[strv [],i6 0,i6 0].toArray) o rfl u zeroValue53 rfl fun b18 w a u o=>ls<|s_blkA o u sizeOf53 rfl rfl rfl rfl (one_cells rfl) .head fun w u=>re<|tn<|th<|th<|midK (fun a w=>∃ (vC1:(List api_Token)) (vC6:Int) (vC7:Int) (vC8:Int) (vC9:Bool) (oaC2:Option Addr) (capC3:Nat),(Z4u N (Z4x N (Z4t N) p7 nn2) r12 vB9) vC1 vC6 vC7 vC8 vC9=some r∧Fr 79 [(0,.pointer (some ⟨b2,0,none⟩)),(1,.bool p7),(5,.slice oaB10 vB9.length capB11),(7,.pointer (some ⟨b18,0,none⟩)),(25,.bool vC9)] a∧St w0 (sepA [blk b2 (.cells [.slice oa3 p1.L.length cap4,i6 p1.At,i6 p1.E,i6 p1.Pos].toArray 125 (0,0))]).fp [H] [blk b2 (.cells [.slice oaC2 vC1.length capC3,i6 vC6,i6 vC7,i6 vC8].toArray 125 (0,0)),sla 53 3 oaB10 vB9.length capB11 vsB12,blk b18 (.cells [strv r12.1.Name,i6 r12.1.N,i6 r12.1.At].toArray 53 (0,0))] w∧vC1.length≤capC3∧SR H oaC2 vC1) ?_ ?_
 rcases bdich p7 with hb19 | hb19
 replace hm:=ite_t hm hb19
 obtain ⟨r20,h21,hm⟩:=bs hm
 refine rg<|qm o rfl fun a o=>qv o (e_as (e_move o rfl) (congrArg Value.bool hb19)) fun a o=>qg o (e_move o rfl) fun a o=>?_
 replace u:=u.pk [1,0,0] rfl
 replace u:=St.sep [blk b2 (.cells [.slice oa14 r12.2.L.length cap15,i6 r12.2.At,i6 r12.2.E,i6 r12.2.Pos].toArray 125 (0,0))] u
 refine ls<|gy o rfl rfl<|c1 o rfl call102 (Z4n_c (St.le u) (p1:=r12.2) (b2:=b2) (oa3:=oa14) (cap4:=cap15) hc16 hr17 (St.sepOk u) (St.sepDis u) h21) ⟨rfl,rfl,trivial⟩ (fun v w a hR o=>?_)
 obtain ⟨oa22,cap23,rfl,hc24,hr25,hk⟩:=hR
 replace u:=(u.mut hk .head).unsep
 refine qv o (e_pickT o rfl rfl) fun a o=>re<|tn<|?_
 replace u:=u.pk [0,1,0] rfl
 exact ⟨r20.2.L,r20.2.At,r20.2.E,r20.2.Pos,r20.1,oa22,cap23,hm,o.hs,u,hc24,hr25⟩
 replace hm:=ite_f hm hb19
 refine rg<|qm o rfl fun a o=>qv o (e_as (e_move o rfl) (congrArg Value.bool hb19)) fun a o=>?_
 iterate 2 refine qn o fun a o=>?_
 refine qv o (e_pickF o rfl rfl) fun a o=>re<|tn<|?_
 replace u:=u.pk [1,1,0] rfl
 exact ⟨r12.2.L,r12.2.At,r12.2.E,r12.2.Pos,false,oa14,cap15,hm,o.hs,u,hc16,hr17⟩
 rintro a w ⟨vC1,vC6,vC7,vC8,vC9,oaC2,capC3,hm,o,u,hcC4,hrC5⟩
 unfold Z4u at hm
 refine midK (fun a w=>∃ (vC10:(List api_Token)) (vC15:Int) (vC16:Int) (vC17:Int) (vC18:api_Cell) (oaC11:Option Addr) (capC12:Nat),(Z4v N (Z4x N (Z4t N) p7 nn2) vB9) vC10 vC15 vC16 vC17 vC18=some r∧Fr 79 [(0,.pointer (some ⟨b2,0,none⟩)),(1,.bool p7),(5,.slice oaB10 vB9.length capB11),(7,.pointer (some ⟨b18,0,none⟩))] a∧St w0 (sepA [blk b2 (.cells [.slice oa3 p1.L.length cap4,i6 p1.At,i6 p1.E,i6 p1.Pos].toArray 125 (0,0))]).fp [H] [blk b2 (.cells [.slice oaC11 vC10.length capC12,i6 vC15,i6 vC16,i6 vC17].toArray 125 (0,0)),sla 53 3 oaB10 vB9.length capB11 vsB12,blk b18 (.cells [strv vC18.Name,i6 vC18.N,i6 vC18.At].toArray 53 (0,0))] w∧vC10.length≤capC12∧SR H oaC11 vC10) ?_ ?_
 rcases bdich vC9 with hb26 | hb26
 replace hm:=ite_t hm hb26
 refine ctv o rfl hb26<|th<|midK (fun a w=>∃ (vD1:Bool),(Z4w N (Z4v N (Z4x N (Z4t N) p7 nn2) vB9) r12 vC1 vC6 vC7 vC8) vD1=some r∧Fr 79 [(0,.pointer (some ⟨b2,0,none⟩)),(1,.bool p7),(5,.slice oaB10 vB9.length capB11),(7,.pointer (some ⟨b18,0,none⟩)),(49,.bool vD1)] a∧St w0 (sepA [blk b2 (.cells [.slice oa3 p1.L.length cap4,i6 p1.At,i6 p1.E,i6 p1.Pos].toArray 125 (0,0))]).fp [H] [blk b2 (.cells [.slice oaC2 vC1.length capC3,i6 vC6,i6 vC7,i6 vC8].toArray 125 (0,0)),sla 53 3 oaB10 vB9.length capB11 vsB12,blk b18 (.cells [strv r12.1.Name,i6 r12.1.N,i6 r12.1.At].toArray 53 (0,0))] w) ?_ ?_
 rcases bdich (decide (vC6 < (vC1.length:Int))) with hb27 | hb27
 replace hm:=itp_t hm hb27
 obtain ⟨x28,h29,hm⟩:=bs hm
 obtain ⟨c30,g31,hl32⟩:=SR.get hrC5 h29
 obtain rfl:=api_Token_open g31
 refine rxS 24 u wide (by kernel_rfl) fun w u=>xm u o rfl fun a o=>xr u o (e_nilp o rfl) fun a o=>xr u o (e_fa o fa125_1 rfl) fun a o=>xq (St.ld u) o (fun w hl=>e_ld o isAgg3 rfl (hl.cellB t0 rfl)) fun a o=>xm u o rfl fun a o=>xr u o (e_nilp o rfl) fun a o=>xr u o (e_fa o fa125_0 rfl) fun a o=>xq (St.ld u) o (fun w hl=>e_ld o isAgg120 rfl (hl.cellB t0 rfl)) fun a o=>xr u o (e_lenL (α:=api_Token) (xs:=vC1) o runUnderlying120 rfl) fun a o=>xr u o (e_lss o rfl rfl) fun a o=>xr u o (e_as (e_move o rfl) (congrArg Value.bool hb27)) fun a o=>xg (St.ld u) o (fun w hl=>e_move o rfl) fun a o=>xg (St.ld u) o (fun w hl=>e_nilp o rfl) fun a o=>xg (St.ld u) o (fun w hl=>e_fa o fa125_0 rfl) fun a o=>xg (St.ld u) o (fun w hl=>e_ld o isAgg120 rfl (hl.cellB t0 rfl)) fun a o=>xg (St.ld u) o (fun w hl=>e_move o rfl) fun a o=>xg (St.ld u) o (fun w hl=>e_nilp o rfl) fun a o=>xg (St.ld u) o (fun w hl=>e_fa o fa125_1 rfl) fun a o=>xg (St.ld u) o (fun w hl=>e_ld o isAgg3 rfl (hl.cellB t0 rfl)) fun a o=>xg (St.ld u) o (fun w hl=>e_iaI o runUnderlying120 sizeOf130 rfl rfl h29 (SR.oaI hrC5 (by decide) h29)) fun a o=>xg (St.ld u) o (fun w hl=>e_fa o fa130_0 rfl) fun a o=>xg (St.ld u) o (fun w hl=>e_ld o isAgg3 rfl (PH.le.cell (Lds.le hl) (hl32 0 _ rfl))) fun a o=>xg (St.ld u) o (fun w hl=>e_eql o rfl rfl) fun a o=>xr u o (e_pickT o rfl rfl) fun a o=>xe<|tn<|?_
 exact ⟨(decide (x28.Kind=2)),hm,o.hs,u⟩
 replace hm:=itp_f hm hb27
 refine rxS 24 u wide (by kernel_rfl) fun w u=>xm u o rfl fun a o=>xr u o (e_nilp o rfl) fun a o=>xr u o (e_fa o fa125_1 rfl) fun a o=>xq (St.ld u) o (fun w hl=>e_ld o isAgg3 rfl (hl.cellB t0 rfl)) fun a o=>xm u o rfl fun a o=>xr u o (e_nilp o rfl) fun a o=>xr u o (e_fa o fa125_0 rfl) fun a o=>xq (St.ld u) o (fun w hl=>e_ld o isAgg120 rfl (hl.cellB t0 rfl)) fun a o=>xr u o (e_lenL (α:=api_Token) (xs:=vC1) o runUnderlying120 rfl) fun a o=>xr u o (e_lss o rfl rfl) fun a o=>xr u o (e_as (e_move o rfl) (congrArg Value.bool hb27)) fun a o=>?_
 iterate 12 refine xn (St.ld u) o fun a o=>?_
 refine xr u o (e_pickF o rfl rfl) fun a o=>xe<|tn<|?_
 exact ⟨false,hm,o.hs,u⟩
 rintro a w ⟨vD1,hm,o,u⟩
 unfold Z4w at hm
 rcases bdich vD1 with hb33 | hb33
 replace hm:=ite_t hm hb33
 refine ctv o rfl hb33<|th<|?_
 obtain ⟨x34,h35,hm⟩:=bs hm
 obtain ⟨c36,g37,hl38⟩:=SR.get hrC5 h35
 obtain rfl:=api_Token_open g37
 refine rxS 12 u wide (by kernel_rfl) fun w u=>xm u o rfl fun a o=>xr u o (e_nilp o rfl) fun a o=>xr u o (e_fa o fa125_0 rfl) fun a o=>xq (St.ld u) o (fun w hl=>e_ld o isAgg120 rfl (hl.cellB t0 rfl)) fun a o=>xm u o rfl fun a o=>xr u o (e_nilp o rfl) fun a o=>xr u o (e_fa o fa125_1 rfl) fun a o=>xq (St.ld u) o (fun w hl=>e_ld o isAgg3 rfl (hl.cellB t0 rfl)) fun a o=>xr u o (e_iaI o runUnderlying120 sizeOf130 rfl rfl h35 (SR.oaI hrC5 (by decide) h35)) fun a o=>xr u o (e_fa o fa130_2 rfl) fun a o=>xq (St.ld u) o (fun w hl=>e_ld o isAgg3 rfl (PH.le.cell (Lds.le hl) (hl38 2 _ rfl))) fun a o=>xr u o (e_fa o fa53_1 rfl) fun a o=>xz rfl<|s_blk o u sizeOf3 rfl rfl rfl rfl (.tail (.tail .head)) (.succ .zero) fun w u=>tn<|rg<|qm o rfl fun a o=>qm o rfl fun a o=>qv o (e_nilp o rfl) fun a o=>qv o (e_fa o fa125_1 rfl) fun a o=>qv o (e_ld o isAgg3 rfl ((St.ld u).cellB t0 rfl)) fun a o=>qv o (e_add o rfl rfl) fun a o=>qv o (e_nilp o rfl) fun a o=>qv o (e_fa o fa125_1 rfl) fun a o=>ls<|s_blk o u sizeOf3 rfl rfl rfl rfl .head (.succ .zero) fun w u=>re<|tn<|?_
 exact ⟨vC1,(IntKind.i64.wrap (vC6+1)),vC7,vC8,(api_Cell.mk r12.1.Name x34.N r12.1.At),oaC2,capC3,hm,o.hs,u,hcC4,hrC5⟩
 replace hm:=ite_f hm hb33
 refine cfv o rfl hb33<|?_
 obtain ⟨r39,h40,hm⟩:=bs hm
 refine rg<|qm o rfl fun a o=>?_
 replace u:=u.pk [0,0,0] rfl
 replace u:=St.sep [blk b2 (.cells [.slice oaC2 vC1.length capC3,i6 vC6,i6 vC7,i6 vC8].toArray 125 (0,0))] u
 refine ls<|c1 o rfl call107 (Z4k_c (St.le u) (p1:=(leadlineref05_In.mk vC1 vC6 vC7 vC8)) (b2:=b2) (oa3:=oaC2) (cap4:=capC3) hcC4 hrC5 (St.sepOk u) (St.sepDis u) h40) ⟨rfl,trivial⟩ (fun v w a hR o=>?_)
 obtain ⟨oa41,cap42,rfl,hc43,hr44,hk⟩:=hR
 replace u:=(u.mut hk .head).unsep
 refine re<|tn<|?_
 exact ⟨r39.L,r39.At,r39.E,r39.Pos,r12.1,oa41,cap42,hm,o.hs,u,hc43,hr44⟩
 replace hm:=ite_f hm hb26
 refine cfv o rfl hb26<|wk<|tn<|?_
 exact ⟨vC1,vC6,vC7,vC8,r12.1,oaC2,capC3,hm,o.hs,u,hcC4,hrC5⟩
 rintro a w ⟨vC10,vC15,vC16,vC17,vC18,oaC11,capC12,hm,o,u,hcC13,hrC14⟩
 unfold Z4v at hm
 obtain ⟨l48,h49,hm⟩:=bs hm
 refine rg<|qm o rfl fun a o=>qv o (e_ldA o isAgg53 sizeOf53 rfl rfl ((St.ld u).cellsB t2)) fun a o=>ls<|a_bsl (e:=53) (sz:=3) [strv vC18.Name,i6 vC18.N,i6 vC18.At] o rfl u rfl rfl rfl (fun w=>by kernel_rfl) fun b46 w a u o=>?_
 have hv45:Rows (α:=api_Cell) H [strv vC18.Name,i6 vC18.N,i6 vC18.At] ([vC18]:List api_Cell):=(.cons (c:=[strv vC18.Name,i6 vC18.N,i6 vC18.At]) ⟨_,_,rfl,rfl,⟨_,_,rfl,rfl,rfl⟩⟩ .nil)
 refine ls<|m_app (α:=api_Cell) (xs:=vB9) (ys:=([vC18]:List api_Cell)) o rfl u underlying23 info53 rfl (by decide) rfl rfl rfl t2 hvB13 (u.rdO t0) hv45 h49 fun oa50 cap51 vs52 w a hv53 hU o=>?_
 replace u:=hU _ (.tail (.tail .head))
 replace u:=u.drop .head
 refine qa o rfl fun a o=>re<|bn<|tn<|?_
 obtain ⟨r54,h55,hm⟩:=bs hm
 refine rg<|qm o rfl fun a o=>?_
 replace u:=u.pk [0,0,0] rfl
 replace u:=St.sep [blk b2 (.cells [.slice oaC11 vC10.length capC12,i6 vC15,i6 vC16,i6 vC17].toArray 125 (0,0))] u
 refine ls<|c1 o rfl call102 (Z4n_c (St.le u) (p1:=(leadlineref05_In.mk vC10 vC15 vC16 vC17)) (b2:=b2) (oa3:=oaC11) (cap4:=capC12) hcC13 hrC14 (St.sepOk u) (St.sepDis u) h55) ⟨rfl,rfl,trivial⟩ (fun v w a hR o=>?_)
 obtain ⟨oa56,cap57,rfl,hc58,hr59,hk⟩:=hR
 replace u:=(u.mut hk .head).unsep
 refine qa o rfl fun a o=>re<|tn<|?_
 replace u:=u.pk [0,0] rfl
 exact ⟨(nn2,r54.2.L,r54.2.At,r54.2.E,r54.2.Pos,l48,r54.1),⟨oa56,cap57,oa50,cap51,vs52,hm,o.hs,u,hc58,hr59,hv53⟩,Nat.lt_succ_self _⟩
 replace hm:=ite_f hm hb11
 refine tn<|cfv o rfl hb11<|we<|tx<|tx<|bx<|tn<|?_
 exact ⟨vB1,vB6,vB7,vB8,vB9,oaB2,capB3,oaB10,capB11,vsB12,hm,o.has ⟨rfl,rfl,trivial⟩,u,hcB4,hrB5,hvB13⟩
 rintro a w ⟨vA1,vA6,vA7,vA8,vA9,oaA2,capA3,oaA10,capA11,vsA12,hm,o,u,hcA4,hrA5,hvA13⟩
 unfold Z4t at hm
 refine th<|?_
 obtain ⟨r60,h61,hm⟩:=bs hm
 refine rg<|qm o rfl fun a o=>?_
 replace u:=u.pk [0,0] rfl
 replace u:=St.sep [blk b2 (.cells [.slice oaA2 vA1.length capA3,i6 vA6,i6 vA7,i6 vA8].toArray 125 (0,0))] u
 refine ls<|c1 o rfl call140 (Z4p_c (St.le u) (p1:=(leadlineref05_In.mk vA1 vA6 vA7 vA8)) (b2:=b2) (oa3:=oaA2) (cap4:=capA3) hcA4 hrA5 (St.sepOk u) (St.sepDis u) h61) ⟨rfl,rfl,trivial⟩ (fun v w a hR o=>?_)
 obtain ⟨oa62,cap63,rfl,hc64,hr65,hk⟩:=hR
 replace u:=(u.mut hk .head).unsep
 refine re<|tn<|th<|rg<|qm o rfl fun a o=>qa o rfl fun a o=>re<|tn<|wr<|?_
 obtain rfl:=si hm
 exact r1 o results103 rfl ⟨_,_,_,oa62,cap63,rfl,(fun _=>Rows.ind hvA13),hc64,hr65,(u.pickL (.cons .head (.cons .head .nil))).endMut⟩
theorem Z48_c (hH:H.le w0) {p1:Int} {r:Str} (hm:Z48 N p1=some r):Tot Tryz.prog 166 #[i6 p1] w0 (fun v w'=>v=strv r∧Keep Nil w0 w'):=by
 unfold Z48 at hm
 refine fn0 func166 rfl ntmps166 rfl rfl fun a o=>?_
 have u:St w0 Nil [H] [] w0:=start1 hH
 refine th<|rg<|qa o rfl fun a o=>re<|tn<|th<|?_
 obtain ⟨xz5,h6,hm⟩:=bs hm
 refine rg<|ls<|a_bsl (e:=9) (sz:=1) [strv [],strv [],strv [108,111,97,100],strv [115,116,111,114,101],strv [99,97,115],strv [102,108,117,115,104],strv [111,112,116],strv [115,102,101,110,99,101],strv [109,102,101,110,99,101],strv [116,97,107,101],strv [103,105,118,101],strv [105,102],strv [108,111,111,112],strv [98,114,101,97,107],strv [99,104,101,99,107]] o rfl u rfl rfl rfl (fun w=>by kernel_rfl) fun b3 w a u o=>?_
 have hv2:Rows (α:=Str) H [strv [],strv [],strv [108,111,97,100],strv [115,116,111,114,101],strv [99,97,115],strv [102,108,117,115,104],strv [111,112,116],strv [115,102,101,110,99,101],strv [109,102,101,110,99,101],strv [116,97,107,101],strv [103,105,118,101],strv [105,102],strv [108,111,111,112],strv [98,114,101,97,107],strv [99,104,101,99,107]] ([[],[],[108,111,97,100],[115,116,111,114,101],[99,97,115],[102,108,117,115,104],[111,112,116],[115,102,101,110,99,101],[109,102,101,110,99,101],[116,97,107,101],[103,105,118,101],[105,102],[108,111,111,112],[98,114,101,97,107],[99,104,101,99,107]]:List Str):=(.cons (c:=[strv []]) rfl (.cons (c:=[strv []]) rfl (.cons (c:=[strv [108,111,97,100]]) rfl (.cons (c:=[strv [115,116,111,114,101]]) rfl (.cons (c:=[strv [99,97,115]]) rfl (.cons (c:=[strv [102,108,117,115,104]]) rfl (.cons (c:=[strv [111,112,116]]) rfl (.cons (c:=[strv [115,102,101,110,99,101]]) rfl (.cons (c:=[strv [109,102,101,110,99,101]]) rfl (.cons (c:=[strv [116,97,107,101]]) rfl (.cons (c:=[strv [103,105,118,101]]) rfl (.cons (c:=[strv [105,102]]) rfl (.cons (c:=[strv [108,111,111,112]]) rfl (.cons (c:=[strv [98,114,101,97,107]]) rfl (.cons (c:=[strv [99,104,101,99,107]]) rfl .nil)))))))))))))))
 refine qm o rfl fun a o=>qv o (e_iaI o runUnderlying36 sizeOf9 rfl rfl h6 (Rd.oaI ((St.ld u).rdO t0) hv2 (by decide) h6)) fun a o=>?_
 obtain ⟨cz7,g8,hl9⟩:=Rows.getI hv2 h6
 obtain rfl:cz7=[strv xz5]:=g8
 refine qv o (e_ld o isAgg9 rfl ((St.ld u).elO t0 (hl9 0 _ rfl))) fun a o=>qa o rfl fun a o=>re<|tn<|wr<|?_
 obtain rfl:=si hm
 exact r1 o results166 rfl ⟨rfl,u.keep⟩
theorem Z39_c (hH:H.le w0) {b2:Nat} {p1:leadlineref04_P} {oa3:Option Addr} {cap4:Nat} (hc5:p1.L.length≤cap4) (hr6:SR H oa3 p1.L) {oa7:Option Addr} {cap8:Nat} {vs9:List Value} (hv10:Rows H vs9 p1.Out) {p12:Int} (hO:(sepA [blk b2 (.cells [.slice oa3 p1.L.length cap4,i6 p1.At,i6 p1.E,i6 p1.Pos,.slice oa7 p1.Out.length cap8].toArray 171 (0,0)),sla 51 9 oa7 p1.Out.length cap8 vs9]).ok (hp w0)) (hD:∀ b,(sepA [blk b2 (.cells [.slice oa3 p1.L.length cap4,i6 p1.At,i6 p1.E,i6 p1.Pos,.slice oa7 p1.Out.length cap8].toArray 171 (0,0)),sla 51 9 oa7 p1.Out.length cap8 vs9]).fp b→H b=none) {r:leadlineref04_P} (hm:Z39 N p1 p12=some r):Tot Tryz.prog 167 #[.pointer (some ⟨b2,0,none⟩),i6 p12] w0 (fun v w'=>∃ (H':PH) (oa1m:Option Addr) (cap1m:Nat) (oa2m:Option Addr) (cap2m:Nat) (vs2m:List Value),v=.tuple #[]∧r.L.length≤cap1m∧SR H' oa1m r.L∧Rows H' vs2m r.Out∧ExtM w0 (sepA [blk b2 (.cells [.slice oa3 p1.L.length cap4,i6 p1.At,i6 p1.E,i6 p1.Pos,.slice oa7 p1.Out.length cap8].toArray 171 (0,0)),sla 51 9 oa7 p1.Out.length cap8 vs9]).fp H H'∧H'.le w'∧(∀ b,(sepA [blk b2 (.cells [.slice oa1m r.L.length cap1m,i6 r.At,i6 r.E,i6 r.Pos,.slice oa2m r.Out.length cap2m].toArray 171 (0,0)),sla 51 9 oa2m r.Out.length cap2m vs2m]).fp b→H' b=none)∧Mut w0 (sepA [blk b2 (.cells [.slice oa3 p1.L.length cap4,i6 p1.At,i6 p1.E,i6 p1.Pos,.slice oa7 p1.Out.length cap8].toArray 171 (0,0)),sla 51 9 oa7 p1.Out.length cap8 vs9]) (sepA [blk b2 (.cells [.slice oa1m r.L.length cap1m,i6 r.At,i6 r.E,i6 r.Pos,.slice oa2m r.Out.length cap2m].toArray 171 (0,0)),sla 51 9 oa2m r.Out.length cap2m vs2m]) w'):=by
 unfold Z39 at hm
 refine fn0 func167 rfl ntmps167 rfl rfl fun a o=>?_
 have u:=startM hH hO hD
 refine th<|rg<|qm o rfl fun a o=>qv o (e_nilp o rfl) fun a o=>qv o (e_fa o fa171_2 rfl) fun a o=>qv o (e_ld o isAgg29 rfl ((St.ld u).cellB t0 rfl)) fun a o=>qv o (e_eql o rfl rfl) fun a o=>re<|?_
 rcases bdich (decide (p1.E=0)) with hb13 | hb13
 replace hm:=itp_t hm hb13
 refine tn<|ctv o rfl hb13<|th<|rg<|qm o rfl fun a o=>qm o rfl fun a o=>qv o (e_nilp o rfl) fun a o=>qv o (e_fa o fa171_2 rfl) fun a o=>ls<|s_blk o u sizeOf29 rfl rfl rfl rfl .head (.succ (.succ .zero)) fun w u=>re<|tn<|th<|th<|rxS 10 u wide (by kernel_rfl) fun w u=>xm u o rfl fun a o=>xr u o (e_nilp o rfl) fun a o=>xr u o (e_fa o fa171_1 rfl) fun a o=>xq (St.ld u) o (fun w hl=>e_ld o isAgg3 rfl (hl.cellB t0 rfl)) fun a o=>xm u o rfl fun a o=>xr u o (e_nilp o rfl) fun a o=>xr u o (e_fa o fa171_0 rfl) fun a o=>xq (St.ld u) o (fun w hl=>e_ld o isAgg120 rfl (hl.cellB t0 rfl)) fun a o=>xr u o (e_lenL (α:=api_Token) (xs:=p1.L) o runUnderlying120 rfl) fun a o=>xr u o (e_geq o rfl rfl) fun a o=>xe<|tn<|midK (fun a w=>∃ (vA1:Int),(Z3a N p1) vA1=some r∧Fr 38 [(0,.pointer (some ⟨b2,0,none⟩))] a∧St w0 (sepA [blk b2 (.cells [.slice oa3 p1.L.length cap4,i6 p1.At,i6 p1.E,i6 p1.Pos,.slice oa7 p1.Out.length cap8].toArray 171 (0,0)),sla 51 9 oa7 p1.Out.length cap8 vs9]).fp [H] [sla 51 9 oa7 p1.Out.length cap8 vs9,blk b2 (.cells [.slice oa3 p1.L.length cap4,i6 p1.At,i6 vA1,i6 p1.Pos,.slice oa7 p1.Out.length cap8].toArray 171 (0,0))] w) ?_ ?_
 rcases bdich (decide ((p1.L.length:Int)≤p1.At)) with hb14 | hb14
 replace hm:=itp_t hm hb14
 refine ctv o rfl hb14<|rg<|qm o rfl fun a o=>qv o (e_nilp o rfl) fun a o=>qv o (e_fa o fa171_2 rfl) fun a o=>ls<|s_blk o u sizeOf29 rfl rfl rfl rfl .head (.succ (.succ .zero)) fun w u=>re<|tn<|?_
 replace u:=u.pk [1,0] rfl
 exact ⟨6,hm,o.has ⟨rfl,trivial⟩,u⟩
 replace hm:=itp_f hm hb14
 refine cfv o rfl hb14<|wk<|tn<|?_
 replace u:=u.pk [1,0] rfl
 exact ⟨p12,hm,o.has ⟨rfl,trivial⟩,u⟩
 rintro a w ⟨vA1,hm,o,u⟩
 unfold Z3a at hm
 obtain ⟨r15,h16,hm⟩:=bs hm
 refine rdL (sub_cons t0 sub_nil) 13 u wide fun w u=>ds 0 (St.ldsX u i2 (sub_cons t0 sub_nil)) o rfl (e_move o rfl) fun a o=>ds 1 (St.ldsX u i2 (sub_cons t0 sub_nil)) o rfl (e_move o rfl) fun a o=>ds 2 (St.ldsX u i2 (sub_cons t0 sub_nil)) o rfl (e_nilp o rfl) fun a o=>ds 3 (St.ldsX u i2 (sub_cons t0 sub_nil)) o rfl (e_fa o fa171_0 rfl) fun a o=>da2 (i:=4) (j:=5) (by kernel_rfl) ?_ ?_
 refine di (i:=4) rfl<|q1 o rfl (e_ld o isAgg120 rfl ((St.ld u).cellB t1 rfl)) fun a o=>⟨fun _=>(St.ldsX u i2 (sub_cons t0 sub_nil)),?_⟩
 refine ds 5 (St.ldsX u i2 (sub_cons t0 sub_nil)) o rfl (e_move o rfl) fun a o=>ds 6 (St.ldsX u i2 (sub_cons t0 sub_nil)) o rfl (e_nilp o rfl) fun a o=>ds 7 (St.ldsX u i2 (sub_cons t0 sub_nil)) o rfl (e_fa o fa171_1 rfl) fun a o=>da1 (i:=8) (by kernel_rfl) ?_
 refine di (i:=8) rfl<|q1 o rfl (e_ld o isAgg3 rfl ((St.ld u).cellB t1 rfl)) fun a o=>⟨fun _=>(St.ldsX u i2 (sub_cons t0 sub_nil)),?_⟩
 refine da1 (i:=9) (by kernel_rfl) ?_
 refine di (i:=9) rfl<|cq o call143 (Z1r_c (hp_le _) hc5 (St.srH u hr6) h16) ⟨rfl,rfl,trivial⟩ u fun w a u o=>⟨fun _=>(St.ldsX u i2 (sub_cons t0 sub_nil)),?_⟩
 refine ds 10 (St.ldsX u i2 (sub_cons t0 sub_nil)) o rfl (e_nilp o rfl) fun a o=>ds 11 (St.ldsX u i2 (sub_cons t0 sub_nil)) o rfl (e_fa o fa171_3 rfl) fun a o=>da1 (i:=12) (by kernel_rfl) ?_
 refine di (i:=12) rfl<|s_blk o u sizeOf3 rfl rfl rfl rfl (.tail .head) (.succ (.succ (.succ .zero))) fun w u=>⟨fun _=>(St.ldsX u i2 (sub_cons t0 sub_nil)),?_⟩
 refine de (by kernel_rfl)<|?_
 obtain rfl:=si hm
 exact r0n o results167 ⟨H,oa3,cap4,oa7,cap8,vs9,rfl,hc5,hr6,hv10,(ExtM.refl _ _ _),(St.le u),(St.disL (u.pickL (.cons (.tail .head) (.cons .head .nil)))),(u.pickL (.cons (.tail .head) (.cons .head .nil))).endMut⟩
 refine di (i:=5) rfl<|q1 o rfl (e_move o rfl) fun a o=>⟨fun _=>(St.ldsX u i2 (sub_cons t0 sub_nil)),?_⟩
 refine da2 (i:=4) (j:=6) (by kernel_rfl) ?_ ?_
 refine di (i:=4) rfl<|q1 o rfl (e_ld o isAgg120 rfl ((St.ld u).cellB t1 rfl)) fun a o=>⟨fun _=>(St.ldsX u i2 (sub_cons t0 sub_nil)),?_⟩
 refine ds 6 (St.ldsX u i2 (sub_cons t0 sub_nil)) o rfl (e_nilp o rfl) fun a o=>ds 7 (St.ldsX u i2 (sub_cons t0 sub_nil)) o rfl (e_fa o fa171_1 rfl) fun a o=>da1 (i:=8) (by kernel_rfl) ?_
 refine di (i:=8) rfl<|q1 o rfl (e_ld o isAgg3 rfl ((St.ld u).cellB t1 rfl)) fun a o=>⟨fun _=>(St.ldsX u i2 (sub_cons t0 sub_nil)),?_⟩
 refine da1 (i:=9) (by kernel_rfl) ?_
 refine di (i:=9) rfl<|cq o call143 (Z1r_c (hp_le _) hc5 (St.srH u hr6) h16) ⟨rfl,rfl,trivial⟩ u fun w a u o=>⟨fun _=>(St.ldsX u i2 (sub_cons t0 sub_nil)),?_⟩
 refine ds 10 (St.ldsX u i2 (sub_cons t0 sub_nil)) o rfl (e_nilp o rfl) fun a o=>ds 11 (St.ldsX u i2 (sub_cons t0 sub_nil)) o rfl (e_fa o fa171_3 rfl) fun a o=>da1 (i:=12) (by kernel_rfl) ?_
 refine di (i:=12) rfl<|s_blk o u sizeOf3 rfl rfl rfl rfl (.tail .head) (.succ (.succ (.succ .zero))) fun w u=>⟨fun _=>(St.ldsX u i2 (sub_cons t0 sub_nil)),?_⟩
 refine de (by kernel_rfl)<|?_
 obtain rfl:=si hm
 exact r0n o results167 ⟨H,oa3,cap4,oa7,cap8,vs9,rfl,hc5,hr6,hv10,(ExtM.refl _ _ _),(St.le u),(St.disL (u.pickL (.cons (.tail .head) (.cons .head .nil)))),(u.pickL (.cons (.tail .head) (.cons .head .nil))).endMut⟩
 refine di (i:=6) rfl<|q1 o rfl (e_nilp o rfl) fun a o=>⟨fun _=>(St.ldsX u i2 (sub_cons t0 sub_nil)),?_⟩
 refine da2 (i:=4) (j:=7) (by kernel_rfl) ?_ ?_
 refine di (i:=4) rfl<|q1 o rfl (e_ld o isAgg120 rfl ((St.ld u).cellB t1 rfl)) fun a o=>⟨fun _=>(St.ldsX u i2 (sub_cons t0 sub_nil)),?_⟩
 refine ds 7 (St.ldsX u i2 (sub_cons t0 sub_nil)) o rfl (e_fa o fa171_1 rfl) fun a o=>da1 (i:=8) (by kernel_rfl) ?_
 refine di (i:=8) rfl<|q1 o rfl (e_ld o isAgg3 rfl ((St.ld u).cellB t1 rfl)) fun a o=>⟨fun _=>(St.ldsX u i2 (sub_cons t0 sub_nil)),?_⟩
 refine da1 (i:=9) (by kernel_rfl) ?_
 refine di (i:=9) rfl<|cq o call143 (Z1r_c (hp_le _) hc5 (St.srH u hr6) h16) ⟨rfl,rfl,trivial⟩ u fun w a u o=>⟨fun _=>(St.ldsX u i2 (sub_cons t0 sub_nil)),?_⟩
 refine ds 10 (St.ldsX u i2 (sub_cons t0 sub_nil)) o rfl (e_nilp o rfl) fun a o=>ds 11 (St.ldsX u i2 (sub_cons t0 sub_nil)) o rfl (e_fa o fa171_3 rfl) fun a o=>da1 (i:=12) (by kernel_rfl) ?_
 refine di (i:=12) rfl<|s_blk o u sizeOf3 rfl rfl rfl rfl (.tail .head) (.succ (.succ (.succ .zero))) fun w u=>⟨fun _=>(St.ldsX u i2 (sub_cons t0 sub_nil)),?_⟩
 refine de (by kernel_rfl)<|?_
 obtain rfl:=si hm
 exact r0n o results167 ⟨H,oa3,cap4,oa7,cap8,vs9,rfl,hc5,hr6,hv10,(ExtM.refl _ _ _),(St.le u),(St.disL (u.pickL (.cons (.tail .head) (.cons .head .nil)))),(u.pickL (.cons (.tail .head) (.cons .head .nil))).endMut⟩
 refine di (i:=7) rfl<|q1 o rfl (e_fa o fa171_1 rfl) fun a o=>⟨fun _=>(St.ldsX u i2 (sub_cons t0 sub_nil)),?_⟩
 refine da2 (i:=4) (j:=8) (by kernel_rfl) ?_ ?_
 refine di (i:=4) rfl<|q1 o rfl (e_ld o isAgg120 rfl ((St.ld u).cellB t1 rfl)) fun a o=>⟨fun _=>(St.ldsX u i2 (sub_cons t0 sub_nil)),?_⟩
 refine da1 (i:=8) (by kernel_rfl) ?_
 refine di (i:=8) rfl<|q1 o rfl (e_ld o isAgg3 rfl ((St.ld u).cellB t1 rfl)) fun a o=>⟨fun _=>(St.ldsX u i2 (sub_cons t0 sub_nil)),?_⟩
 refine da1 (i:=9) (by kernel_rfl) ?_
 refine di (i:=9) rfl<|cq o call143 (Z1r_c (hp_le _) hc5 (St.srH u hr6) h16) ⟨rfl,rfl,trivial⟩ u fun w a u o=>⟨fun _=>(St.ldsX u i2 (sub_cons t0 sub_nil)),?_⟩
 refine ds 10 (St.ldsX u i2 (sub_cons t0 sub_nil)) o rfl (e_nilp o rfl) fun a o=>ds 11 (St.ldsX u i2 (sub_cons t0 sub_nil)) o rfl (e_fa o fa171_3 rfl) fun a o=>da1 (i:=12) (by kernel_rfl) ?_
 refine di (i:=12) rfl<|s_blk o u sizeOf3 rfl rfl rfl rfl (.tail .head) (.succ (.succ (.succ .zero))) fun w u=>⟨fun _=>(St.ldsX u i2 (sub_cons t0 sub_nil)),?_⟩
 refine de (by kernel_rfl)<|?_
 obtain rfl:=si hm
 exact r0n o results167 ⟨H,oa3,cap4,oa7,cap8,vs9,rfl,hc5,hr6,hv10,(ExtM.refl _ _ _),(St.le u),(St.disL (u.pickL (.cons (.tail .head) (.cons .head .nil)))),(u.pickL (.cons (.tail .head) (.cons .head .nil))).endMut⟩
 refine di (i:=8) rfl<|q1 o rfl (e_ld o isAgg3 rfl ((St.ld u).cellB t1 rfl)) fun a o=>⟨fun _=>(St.ldsX u i2 (sub_cons t0 sub_nil)),?_⟩
 refine da1 (i:=4) (by kernel_rfl) ?_
 refine di (i:=4) rfl<|q1 o rfl (e_ld o isAgg120 rfl ((St.ld u).cellB t1 rfl)) fun a o=>⟨fun _=>(St.ldsX u i2 (sub_cons t0 sub_nil)),?_⟩
 refine da1 (i:=9) (by kernel_rfl) ?_
 refine di (i:=9) rfl<|cq o call143 (Z1r_c (hp_le _) hc5 (St.srH u hr6) h16) ⟨rfl,rfl,trivial⟩ u fun w a u o=>⟨fun _=>(St.ldsX u i2 (sub_cons t0 sub_nil)),?_⟩
 refine ds 10 (St.ldsX u i2 (sub_cons t0 sub_nil)) o rfl (e_nilp o rfl) fun a o=>ds 11 (St.ldsX u i2 (sub_cons t0 sub_nil)) o rfl (e_fa o fa171_3 rfl) fun a o=>da1 (i:=12) (by kernel_rfl) ?_
 refine di (i:=12) rfl<|s_blk o u sizeOf3 rfl rfl rfl rfl (.tail .head) (.succ (.succ (.succ .zero))) fun w u=>⟨fun _=>(St.ldsX u i2 (sub_cons t0 sub_nil)),?_⟩
 refine de (by kernel_rfl)<|?_
 obtain rfl:=si hm
 exact r0n o results167 ⟨H,oa3,cap4,oa7,cap8,vs9,rfl,hc5,hr6,hv10,(ExtM.refl _ _ _),(St.le u),(St.disL (u.pickL (.cons (.tail .head) (.cons .head .nil)))),(u.pickL (.cons (.tail .head) (.cons .head .nil))).endMut⟩
 replace hm:=itp_f hm hb13
 refine tn<|cfv o rfl hb13<|wk<|?_
 obtain rfl:=si hm
 exact r0n o results167 ⟨H,oa3,cap4,oa7,cap8,vs9,rfl,hc5,hr6,hv10,(ExtM.refl _ _ _),(St.le u),(St.disL (u.pickL (.cons .head (.cons .head .nil)))),(u.pickL (.cons .head (.cons .head .nil))).endMut⟩
end Go.LM.LB
