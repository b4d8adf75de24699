/- Walks, lifted by program. No condition beyond the theorems' own premises. -/
import Derived.Test.YtbblmeecfimnkaaGreatDoorBMQ1
namespace Go.LM.BINZ
open Go Go.LL Go.MD Go.LM Go.Proofs Go.MD.BINZ
set_option maxRecDepth 100000
set_option maxRecDepth 100000 in
theorem Z4s_c {N:Nat} {w0:World} {H:PH} (hH:H.le w0) {oa2:Option Addr} {cap3:Nat} {p1:(List api_Instr)} (hc4:p1.length≤cap3) (hr5:SR H oa2 p1) {p6:Int} {r:Bool} (hm:Z4s N p1 p6=some r):Tot Tryz.prog 104 #[.slice oa2 p1.length cap3,.int .i64 p6] w0 (fun v w'=>v=.bool r∧Keep Nil w0 w'):=by
  unfold Z4s at hm
  refine fn0 (args:=[.slice oa2 p1.length cap3,.int .i64 p6]) (F:=[(0,.slice oa2 p1.length cap3),(1,.int .i64 p6)]) Tryz.func104 rfl Tryz.ntmps104 rfl rfl fun a hF=>?_
  have hS:St w0 Nil [H] [] w0:=start1 hH
  refine th<|?_
  refine rg<|?_
  refine ls<|q1 hF rfl (e_asg hF rfl) fun a hF=>?_
  refine re<|?_
  refine tn<|th<|?_
  replace hm:=bind_some hm
  obtain ⟨xz7,h8,hm⟩:=hm
  obtain ⟨cz9,g10,hl11⟩:=SR.get hr5 h8
  obtain ⟨oa12,cap13,oa16,cap17,rfl,hc14,hr15,hc18,hr19⟩:=api_Instr_open g10
  refine rg<|?_
  refine ls<|q1 hF rfl (e_move hF rfl) fun a hF=>?_
  refine ls<|q1 hF rfl (e_move hF rfl) fun a hF=>?_
  refine ls<|q1 hF rfl (e_iaI hF Tryz.runUnderlying24 Tryz.sizeOf85 rfl rfl h8 (SR.oaI hr5 (by decide) h8)) fun a hF=>?_
  refine ls<|q1 hF rfl (e_ldA hF Tryz.isAgg85 Tryz.sizeOf85 rfl rfl (fun j v hj=>PH.le.cell (Lds.le (St.ld hS)) (hl11 j v hj))) fun a hF=>?_
  refine ls<|a_alloc (cs:=[.int .i64 0,.int .i64 0,.int .i64 0,.slice none 0 0,.slice none 0 0,.int .i64 0].toArray) hF rfl hS Tryz.zeroValue85 rfl fun b20 w a hS hF=>?_
  refine ls<|s_blkA hF hS Tryz.sizeOf85 rfl rfl rfl rfl (one_cells rfl) .head fun w hS=>?_
  refine re<|?_
  refine tn<|th<|th<|midK (fun a w=>∃ (vA1:Bool),(Z4u N p1 p6 xz7) vA1=some r∧Fr 49 [(0,.slice oa2 p1.length cap3),(1,.int .i64 p6),(5,.pointer (some ⟨b20,0,none⟩)),(40,.bool vA1)] a∧St w0 Nil [H] [blk b20 (.cells [.int .i64 xz7.Kind,.int .i64 xz7.A,.int .i64 xz7.B,.slice oa12 xz7.E.length cap13,.slice oa16 xz7.F.length cap17,.int .i64 xz7.To].toArray 85 (0,0))] w) ?_ ?_
  ·
    rcases bdich ((decide (xz7.To < 1)) || (decide (p6 < xz7.To))) with hb21 | hb21
    ·
      replace hm:=ite_t hm hb21
      refine rxS 31 hS wide (by kernel_rfl) fun w hS=>?_
      refine x1 (St.ld hS) hF rfl rfl (fun _ _ _ h=>h) (fun w hl=>(e_fa hF fa85_5 rfl)) fun a hF=>?_
      refine x1 (St.ld hS) hF rfl rfl (fun _ _ _ h=>h) (fun w hl=>(e_ld hF Tryz.isAgg3 rfl (hl.cellB (.head _) rfl))) fun a hF=>?_
      refine x1 (St.ld hS) hF rfl rfl (fun _ _ _ h=>h) (fun w hl=>(e_lss hF rfl rfl)) fun a hF=>?_
      refine x1 (St.ld hS) hF rfl rfl (fun _ _ _ h=>h) (fun w hl=>(e_move hF rfl)) fun a hF=>?_
      refine grpX (N:=49) (Fk:=[(0,.slice oa2 p1.length cap3),(1,.int .i64 p6),(5,.pointer (some ⟨b20,0,none⟩)),(18,.bool ((decide (xz7.To < 1)) || (decide (p6 < xz7.To))))]) (b:=(decide (xz7.To < 1))) 5 hS ?_ ?_ ?_
      ·
        intro hb key
        replace hF:=Fr.as hF (t:=13) rfl (congrArg Value.bool hb)
        refine x1n (St.ld hS) hF rfl rfl rfl rfl rfl (fun _ _ _ h=>h) fun a hF=>?_
        refine x1n (St.ld hS) hF rfl rfl rfl rfl rfl (fun _ _ _ h=>h) fun a hF=>?_
        refine x1n (St.ld hS) hF rfl rfl rfl rfl rfl (fun _ _ _ h=>h) fun a hF=>?_
        refine x1n (St.ld hS) hF rfl rfl rfl rfl rfl (fun _ _ _ h=>h) fun a hF=>?_
        refine x1 (St.ld hS) hF rfl rfl (fun _ _ _ h=>h) (fun w hl=>(e_as (v':=.bool ((decide (xz7.To < 1)) || (decide (p6 < xz7.To)))) (e_pickT hF rfl rfl) (by rw [hb];rfl))) fun a hF=>?_
        exact key _ _ (hF.has ⟨rfl,rfl,rfl,rfl,trivial⟩) hS
      ·
        intro hb key
        replace hF:=Fr.as hF (t:=13) rfl (congrArg Value.bool hb)
        refine x1g (St.ld hS) hF rfl rfl rfl rfl (fun _ _ _ h=>h) (fun w hl=>(e_fa hF fa85_5 rfl)) fun a hF=>?_
        refine x1g (St.ld hS) hF rfl rfl rfl rfl (fun _ _ _ h=>h) (fun w hl=>(e_ld hF Tryz.isAgg3 rfl (hl.cellB (.head _) rfl))) fun a hF=>?_
        refine x1g (St.ld hS) hF rfl rfl rfl rfl (fun _ _ _ h=>h) (fun w hl=>(e_move hF rfl)) fun a hF=>?_
        refine x1g (St.ld hS) hF rfl rfl rfl rfl (fun _ _ _ h=>h) (fun w hl=>(e_gtr hF rfl rfl)) fun a hF=>?_
        refine x1 (St.ld hS) hF rfl rfl (fun _ _ _ h=>h) (fun w hl=>(e_as (v':=.bool ((decide (xz7.To < 1)) || (decide (p6 < xz7.To)))) (e_pickF hF rfl rfl) (by rw [hb];rfl))) fun a hF=>?_
        exact key _ _ (hF.has ⟨rfl,rfl,rfl,rfl,trivial⟩) hS
      intro a w hF hS
      refine x1 (St.ld hS) hF rfl rfl (fun _ _ _ h=>h) (fun w hl=>(e_as (e_move hF rfl) (congrArg Value.bool hb21))) fun a hF=>?_
      refine x1n (St.ld hS) hF rfl rfl rfl rfl rfl (fun _ _ _ h=>h) fun a hF=>?_
      refine x1n (St.ld hS) hF rfl rfl rfl rfl rfl (fun _ _ _ h=>h) fun a hF=>?_
      refine x1n (St.ld hS) hF rfl rfl rfl rfl rfl (fun _ _ _ h=>h) fun a hF=>?_
      refine x1n (St.ld hS) hF rfl rfl rfl rfl rfl (fun _ _ _ h=>h) fun a hF=>?_
      refine x1n (St.ld hS) hF rfl rfl rfl rfl rfl (fun _ _ _ h=>h) fun a hF=>?_
      refine x1n (St.ld hS) hF rfl rfl rfl rfl rfl (fun _ _ _ h=>h) fun a hF=>?_
      refine x1n (St.ld hS) hF rfl rfl rfl rfl rfl (fun _ _ _ h=>h) fun a hF=>?_
      refine x1n (St.ld hS) hF rfl rfl rfl rfl rfl (fun _ _ _ h=>h) fun a hF=>?_
      refine x1 (St.ld hS) hF rfl rfl (fun _ _ _ h=>h) (fun w hl=>(e_pickT hF rfl rfl)) fun a hF=>?_
      refine x1 (St.ld hS) hF rfl rfl (fun _ _ _ h=>h) (fun w hl=>(e_move hF rfl)) fun a hF=>?_
      refine x1n (St.ld hS) hF rfl rfl rfl rfl rfl (fun _ _ _ h=>h) fun a hF=>?_
      refine x1n (St.ld hS) hF rfl rfl rfl rfl rfl (fun _ _ _ h=>h) fun a hF=>?_
      refine x1n (St.ld hS) hF rfl rfl rfl rfl rfl (fun _ _ _ h=>h) fun a hF=>?_
      refine x1n (St.ld hS) hF rfl rfl rfl rfl rfl (fun _ _ _ h=>h) fun a hF=>?_
      refine x1n (St.ld hS) hF rfl rfl rfl rfl rfl (fun _ _ _ h=>h) fun a hF=>?_
      refine x1n (St.ld hS) hF rfl rfl rfl rfl rfl (fun _ _ _ h=>h) fun a hF=>?_
      refine x1n (St.ld hS) hF rfl rfl rfl rfl rfl (fun _ _ _ h=>h) fun a hF=>?_
      refine x1n (St.ld hS) hF rfl rfl rfl rfl rfl (fun _ _ _ h=>h) fun a hF=>?_
      refine x1n (St.ld hS) hF rfl rfl rfl rfl rfl (fun _ _ _ h=>h) fun a hF=>?_
      refine x1n (St.ld hS) hF rfl rfl rfl rfl rfl (fun _ _ _ h=>h) fun a hF=>?_
      refine x1 (St.ld hS) hF rfl rfl (fun _ _ _ h=>h) (fun w hl=>(e_pickT hF rfl rfl)) fun a hF=>?_
      refine xe<|?_
      refine tn<|?_
      exact ⟨true,hm,hF.has ⟨rfl,rfl,rfl,rfl,trivial⟩,hS⟩
    ·
      replace hm:=ite_f hm hb21
      replace hm:=bind_some hm
      obtain ⟨x22,h23,hm⟩:=hm
      obtain ⟨c24,g25,hl26⟩:=SR.get hr5 h23
      obtain ⟨oa27,cap28,oa31,cap32,rfl,hc29,hr30,hc33,hr34⟩:=api_Instr_open g25
      refine rxS 31 hS wide (by kernel_rfl) fun w hS=>?_
      refine x1 (St.ld hS) hF rfl rfl (fun _ _ _ h=>h) (fun w hl=>(e_fa hF fa85_5 rfl)) fun a hF=>?_
      refine x1 (St.ld hS) hF rfl rfl (fun _ _ _ h=>h) (fun w hl=>(e_ld hF Tryz.isAgg3 rfl (hl.cellB (.head _) rfl))) fun a hF=>?_
      refine x1 (St.ld hS) hF rfl rfl (fun _ _ _ h=>h) (fun w hl=>(e_lss hF rfl rfl)) fun a hF=>?_
      refine x1 (St.ld hS) hF rfl rfl (fun _ _ _ h=>h) (fun w hl=>(e_move hF rfl)) fun a hF=>?_
      refine grpX (N:=49) (Fk:=[(0,.slice oa2 p1.length cap3),(1,.int .i64 p6),(5,.pointer (some ⟨b20,0,none⟩)),(18,.bool ((decide (xz7.To < 1)) || (decide (p6 < xz7.To))))]) (b:=(decide (xz7.To < 1))) 5 hS ?_ ?_ ?_
      ·
        intro hb key
        replace hF:=Fr.as hF (t:=13) rfl (congrArg Value.bool hb)
        refine x1n (St.ld hS) hF rfl rfl rfl rfl rfl (fun _ _ _ h=>h) fun a hF=>?_
        refine x1n (St.ld hS) hF rfl rfl rfl rfl rfl (fun _ _ _ h=>h) fun a hF=>?_
        refine x1n (St.ld hS) hF rfl rfl rfl rfl rfl (fun _ _ _ h=>h) fun a hF=>?_
        refine x1n (St.ld hS) hF rfl rfl rfl rfl rfl (fun _ _ _ h=>h) fun a hF=>?_
        refine x1 (St.ld hS) hF rfl rfl (fun _ _ _ h=>h) (fun w hl=>(e_as (v':=.bool ((decide (xz7.To < 1)) || (decide (p6 < xz7.To)))) (e_pickT hF rfl rfl) (by rw [hb];rfl))) fun a hF=>?_
        exact key _ _ (hF.has ⟨rfl,rfl,rfl,rfl,trivial⟩) hS
      ·
        intro hb key
        replace hF:=Fr.as hF (t:=13) rfl (congrArg Value.bool hb)
        refine x1g (St.ld hS) hF rfl rfl rfl rfl (fun _ _ _ h=>h) (fun w hl=>(e_fa hF fa85_5 rfl)) fun a hF=>?_
        refine x1g (St.ld hS) hF rfl rfl rfl rfl (fun _ _ _ h=>h) (fun w hl=>(e_ld hF Tryz.isAgg3 rfl (hl.cellB (.head _) rfl))) fun a hF=>?_
        refine x1g (St.ld hS) hF rfl rfl rfl rfl (fun _ _ _ h=>h) (fun w hl=>(e_move hF rfl)) fun a hF=>?_
        refine x1g (St.ld hS) hF rfl rfl rfl rfl (fun _ _ _ h=>h) (fun w hl=>(e_gtr hF rfl rfl)) fun a hF=>?_
        refine x1 (St.ld hS) hF rfl rfl (fun _ _ _ h=>h) (fun w hl=>(e_as (v':=.bool ((decide (xz7.To < 1)) || (decide (p6 < xz7.To)))) (e_pickF hF rfl rfl) (by rw [hb];rfl))) fun a hF=>?_
        exact key _ _ (hF.has ⟨rfl,rfl,rfl,rfl,trivial⟩) hS
      intro a w hF hS
      refine x1 (St.ld hS) hF rfl rfl (fun _ _ _ h=>h) (fun w hl=>(e_as (e_move hF rfl) (congrArg Value.bool hb21))) fun a hF=>?_
      refine x1g (St.ld hS) hF rfl rfl rfl rfl (fun _ _ _ h=>h) (fun w hl=>(e_move hF rfl)) fun a hF=>?_
      refine x1g (St.ld hS) hF rfl rfl rfl rfl (fun _ _ _ h=>h) (fun w hl=>(e_fa hF fa85_5 rfl)) fun a hF=>?_
      refine x1g (St.ld hS) hF rfl rfl rfl rfl (fun _ _ _ h=>h) (fun w hl=>(e_ld hF Tryz.isAgg3 rfl (hl.cellB (.head _) rfl))) fun a hF=>?_
      refine x1g (St.ld hS) hF rfl rfl rfl rfl (fun _ _ _ h=>h) (fun w hl=>(e_sub hF rfl rfl)) fun a hF=>?_
      refine x1g (St.ld hS) hF rfl rfl rfl rfl (fun _ _ _ h=>h) (fun w hl=>(e_iaI hF Tryz.runUnderlying24 Tryz.sizeOf85 rfl rfl h23 (SR.oaI hr5 (by decide) h23))) fun a hF=>?_
      refine x1g (St.ld hS) hF rfl rfl rfl rfl (fun _ _ _ h=>h) (fun w hl=>(e_fa hF fa85_0 rfl)) fun a hF=>?_
      refine x1g (St.ld hS) hF rfl rfl rfl rfl (fun _ _ _ h=>h) (fun w hl=>(e_ld hF Tryz.isAgg3 rfl (PH.le.cell (Lds.le hl) (hl26 0 _ rfl)))) fun a hF=>?_
      refine x1g (St.ld hS) hF rfl rfl rfl rfl (fun _ _ _ h=>h) (fun w hl=>(e_neq hF rfl rfl)) fun a hF=>?_
      refine x1 (St.ld hS) hF rfl rfl (fun _ _ _ h=>h) (fun w hl=>(e_pickF hF rfl rfl)) fun a hF=>?_
      refine x1 (St.ld hS) hF rfl rfl (fun _ _ _ h=>h) (fun w hl=>(e_move hF rfl)) fun a hF=>?_
      refine grpX (N:=49) (Fk:=[(0,.slice oa2 p1.length cap3),(1,.int .i64 p6),(5,.pointer (some ⟨b20,0,none⟩)),(40,.bool ((decide (x22.Kind≠13)) || (decide (x22.A≠xz7.A))))]) (b:=(decide (x22.Kind≠13))) 11 hS ?_ ?_ ?_
      ·
        intro hb key
        replace hF:=Fr.as hF (t:=29) rfl (congrArg Value.bool hb)
        refine x1n (St.ld hS) hF rfl rfl rfl rfl rfl (fun _ _ _ h=>h) fun a hF=>?_
        refine x1n (St.ld hS) hF rfl rfl rfl rfl rfl (fun _ _ _ h=>h) fun a hF=>?_
        refine x1n (St.ld hS) hF rfl rfl rfl rfl rfl (fun _ _ _ h=>h) fun a hF=>?_
        refine x1n (St.ld hS) hF rfl rfl rfl rfl rfl (fun _ _ _ h=>h) fun a hF=>?_
        refine x1n (St.ld hS) hF rfl rfl rfl rfl rfl (fun _ _ _ h=>h) fun a hF=>?_
        refine x1n (St.ld hS) hF rfl rfl rfl rfl rfl (fun _ _ _ h=>h) fun a hF=>?_
        refine x1n (St.ld hS) hF rfl rfl rfl rfl rfl (fun _ _ _ h=>h) fun a hF=>?_
        refine x1n (St.ld hS) hF rfl rfl rfl rfl rfl (fun _ _ _ h=>h) fun a hF=>?_
        refine x1n (St.ld hS) hF rfl rfl rfl rfl rfl (fun _ _ _ h=>h) fun a hF=>?_
        refine x1n (St.ld hS) hF rfl rfl rfl rfl rfl (fun _ _ _ h=>h) fun a hF=>?_
        refine x1 (St.ld hS) hF rfl rfl (fun _ _ _ h=>h) (fun w hl=>(e_as (v':=.bool ((decide (x22.Kind≠13)) || (decide (x22.A≠xz7.A)))) (e_pickT hF rfl rfl) (by rw [hb];rfl))) fun a hF=>?_
        exact key _ _ (hF.has ⟨rfl,rfl,rfl,rfl,trivial⟩) hS
      ·
        intro hb key
        replace hF:=Fr.as hF (t:=29) rfl (congrArg Value.bool hb)
        refine x1g (St.ld hS) hF rfl rfl rfl rfl (fun _ _ _ h=>h) (fun w hl=>(e_move hF rfl)) fun a hF=>?_
        refine x1g (St.ld hS) hF rfl rfl rfl rfl (fun _ _ _ h=>h) (fun w hl=>(e_fa hF fa85_5 rfl)) fun a hF=>?_
        refine x1g (St.ld hS) hF rfl rfl rfl rfl (fun _ _ _ h=>h) (fun w hl=>(e_ld hF Tryz.isAgg3 rfl (hl.cellB (.head _) rfl))) fun a hF=>?_
        refine x1g (St.ld hS) hF rfl rfl rfl rfl (fun _ _ _ h=>h) (fun w hl=>(e_sub hF rfl rfl)) fun a hF=>?_
        refine x1g (St.ld hS) hF rfl rfl rfl rfl (fun _ _ _ h=>h) (fun w hl=>(e_iaI hF Tryz.runUnderlying24 Tryz.sizeOf85 rfl rfl h23 (SR.oaI hr5 (by decide) h23))) fun a hF=>?_
        refine x1g (St.ld hS) hF rfl rfl rfl rfl (fun _ _ _ h=>h) (fun w hl=>(e_fa hF fa85_1 rfl)) fun a hF=>?_
        refine x1g (St.ld hS) hF rfl rfl rfl rfl (fun _ _ _ h=>h) (fun w hl=>(e_ld hF Tryz.isAgg3 rfl (PH.le.cell (Lds.le hl) (hl26 1 _ rfl)))) fun a hF=>?_
        refine x1g (St.ld hS) hF rfl rfl rfl rfl (fun _ _ _ h=>h) (fun w hl=>(e_fa hF fa85_1 rfl)) fun a hF=>?_
        refine x1g (St.ld hS) hF rfl rfl rfl rfl (fun _ _ _ h=>h) (fun w hl=>(e_ld hF Tryz.isAgg3 rfl (hl.cellB (.head _) rfl))) fun a hF=>?_
        refine x1g (St.ld hS) hF rfl rfl rfl rfl (fun _ _ _ h=>h) (fun w hl=>(e_neq hF rfl rfl)) fun a hF=>?_
        refine x1 (St.ld hS) hF rfl rfl (fun _ _ _ h=>h) (fun w hl=>(e_as (v':=.bool ((decide (x22.Kind≠13)) || (decide (x22.A≠xz7.A)))) (e_pickF hF rfl rfl) (by rw [hb];rfl))) fun a hF=>?_
        exact key _ _ (hF.has ⟨rfl,rfl,rfl,rfl,trivial⟩) hS
      intro a w hF hS
      refine xe<|?_
      refine tn<|?_
      exact ⟨((decide (x22.Kind≠13)) || (decide (x22.A≠xz7.A))),hm,hF.has ⟨rfl,rfl,rfl,rfl,trivial⟩,hS⟩
  clear hm hF hS
  rintro a w ⟨vA1,hm,hF,hS⟩
  unfold Z4u at hm
  rcases bdich vA1 with hb35 | hb35
  ·
    replace hm:=ite_t hm hb35
    refine ctv hF rfl hb35<|th<|?_
    refine rg<|?_
    refine ls<|q1 hF rfl (e_asg hF rfl) fun a hF=>?_
    refine re<|?_
    refine tn<|?_
    refine wr<|tr<|?_
    obtain rfl:=Option.some.inj hm
    exact r1 hF Tryz.results104 rfl ⟨rfl,hS.keep⟩
  ·
    replace hm:=ite_f hm hb35
    refine cfv hF rfl hb35<|wk<|?_
    refine tn<|th<|?_
    replace hm:=bind_some hm
    obtain ⟨l36,h37,hm⟩:=hm
    obtain ⟨oa38,cap39,e40,e41,hc42,hr43⟩:=SR.sub (sz:=6) hr5 hc4 rfl h37
    replace hm:=bind_some hm
    obtain ⟨r44,h45,hm⟩:=hm
    refine rg<|?_
    refine ls<|q1 hF rfl (e_move hF rfl) fun a hF=>?_
    refine ls<|q1 hF rfl (e_fa hF fa85_5 rfl) fun a hF=>?_
    refine ls<|q1 hF rfl (e_ld hF Tryz.isAgg3 rfl ((St.ld hS).cellB (.head _) rfl)) fun a hF=>?_
    refine ls<|q1 hF rfl (e_move hF rfl) fun a hF=>?_
    refine ls<|q1 hF rfl (e_subL (xs:=p1) (vl:=xz7.To) (vh:=p6) hF Tryz.runUnderlying24 Tryz.sizeOf85 rfl hc4 rfl rfl h37 e40 e41) fun a hF=>?_
    refine ls<|q1 hF rfl (e_mkf (vs:=[.pointer (some ⟨b20,0,none⟩)]) hF ⟨rfl,trivial⟩) fun a hF=>?_
    refine ls<|c1 hF rfl Tryz.call130 (Z55_c (hp_le _) hc42 (St.srH hS hr43) (Enc.mono (St.up hS) (show Enc.rep (α:=api_Instr) H [.int .i64 xz7.Kind,.int .i64 xz7.A,.int .i64 xz7.B,.slice oa12 xz7.E.length cap13,.slice oa16 xz7.F.length cap17,.int .i64 xz7.To] xz7 from ⟨_,_,rfl,rfl,⟨_,_,rfl,rfl,⟨_,_,rfl,rfl,⟨_,_,rfl,⟨_,_,rfl,hc14,hr15⟩,⟨_,_,rfl,⟨_,_,rfl,hc18,hr19⟩,rfl⟩⟩⟩⟩⟩)) (St.blkO hS (.head _)) h45) ⟨rfl,rfl,trivial⟩ (fun v w a hR hF=>?_)
    obtain ⟨rfl,hk⟩:=hR
    replace hS:=hS.pass hk
    clear hk
    refine ls<|q1 hF rfl (e_not hF rfl) fun a hF=>?_
    refine ls<|q1 hF rfl (e_asg hF rfl) fun a hF=>?_
    refine re<|?_
    refine tn<|?_
    refine wr<|?_
    obtain rfl:=Option.some.inj hm
    exact r1 hF Tryz.results104 rfl ⟨rfl,hS.keep⟩
set_option maxRecDepth 100000 in
theorem Z4w_c {N:Nat} {w0:World} {H:PH} (hH:H.le w0) {oa2:Option Addr} {cap3:Nat} {p1:(List api_Instr)} (hc4:p1.length≤cap3) (hr5:SR H oa2 p1) {r:Bool} (hm:Z4w N p1=some r):Tot Tryz.prog 105 #[.slice oa2 p1.length cap3] w0 (fun v w'=>v=.bool r∧Keep Nil w0 w'):=by
  unfold Z4w at hm
  refine fn0 (args:=[.slice oa2 p1.length cap3]) (F:=[(0,.slice oa2 p1.length cap3)]) Tryz.func105 rfl Tryz.ntmps105 rfl rfl fun a hF=>?_
  have hS:St w0 Nil [H] [] w0:=start1 hH
  refine th<|?_
  refine rg<|?_
  refine ls<|q1 hF rfl (e_asg hF rfl) fun a hF=>?_
  refine re<|?_
  refine tn<|th<|?_
  refine rg<|?_
  refine ls<|q1 hF rfl (e_asg hF rfl) fun a hF=>?_
  refine re<|?_
  refine tn<|th<|th<|?_
  refine rg<|?_
  refine ls<|q1 hF rfl (e_move hF rfl) fun a hF=>?_
  refine ls<|q1 hF rfl (e_lenL (α:=api_Instr) (xs:=p1) hF Tryz.runUnderlying24 rfl) fun a hF=>?_
  refine ls<|q1 hF rfl (e_move hF rfl) fun a hF=>?_
  refine re<|?_
  refine tn<|midK (fun a w=>Z4x=some r∧Fr 49 [] a∧St w0 Nil [H] [] w) ?_ ?_
  ·
    replace hS:=St.nilS hS 3 1
    refine wb<|lp (α:=Nat×(List Int)×Int) (fun (gh:Nat×(List Int)×Int) a w=>match gh with | (nn2,vB1,vB7)=>∃ (oaB2:Option Addr) (capB3:Nat) (vsB4:List Value),(Z50 N Z4x p1) nn2 vB1 vB7=some r∧Fr 49 [(0,.slice oa2 p1.length cap3),(3,.slice oaB2 vB1.length capB3),(10,.slice oa2 p1.length cap3),(11,.int .i64 (p1.length:Int)),(12,.int .i64 vB7)] a∧St w0 Nil [H] [sla 3 1 oaB2 vB1.length capB3 vsB4] w∧Rows H vsB4 vB1) (fun gh=>gh.1) (N,[],0) ⟨none,0,[],hm,hF.has ⟨rfl,rfl,rfl,rfl,rfl,trivial⟩,hS,.nil⟩ ?_
    clear hm hF hS
    rintro ⟨nn2,vB1,vB7⟩ a w ⟨oaB2,capB3,vsB4,hm,hF,hS,hvB5⟩
    obtain _ | nn2:=nn2
    · simp [Z50] at hm
    rw [Z50] at hm
    refine th<|?_
    refine rg<|?_
    refine ls<|q1 hF rfl (e_lss hF rfl rfl) fun a hF=>?_
    refine re<|?_
    rcases bdich (decide (vB7 < (p1.length:Int))) with hb6 | hb6
    ·
      replace hm:=itp_t hm hb6
      refine tn<|th<|ctv hF rfl hb6<|wk<|?_
      refine tn<|th<|midK (fun a w=>∃ (vC1:(List Int)) (oaC2:Option Addr) (capC3:Nat) (vsC4:List Value),(Z4y (Z50 N Z4x p1 nn2) vB7) vC1=some r∧Fr 49 [(0,.slice oa2 p1.length cap3),(3,.slice oaC2 vC1.length capC3),(10,.slice oa2 p1.length cap3),(11,.int .i64 (p1.length:Int)),(12,.int .i64 vB7)] a∧St w0 Nil [H] [sla 3 1 oaC2 vC1.length capC3 vsC4] w∧Rows H vsC4 vC1) ?_ ?_
      ·
        refine wb<|th<|?_
        replace hm:=bind_some hm
        obtain ⟨xz7,h8,hm⟩:=hm
        obtain ⟨cz9,g10,hl11⟩:=SR.get hr5 h8
        obtain ⟨oa12,cap13,oa16,cap17,rfl,hc14,hr15,hc18,hr19⟩:=api_Instr_open g10
        refine rg<|?_
        refine ls<|q1 hF rfl (e_move hF rfl) fun a hF=>?_
        refine ls<|q1 hF rfl (e_iaI hF Tryz.runUnderlying24 Tryz.sizeOf85 rfl rfl h8 (SR.oaI hr5 (by decide) h8)) fun a hF=>?_
        refine ls<|q1 hF rfl (e_ldA hF Tryz.isAgg85 Tryz.sizeOf85 rfl rfl (fun j v hj=>PH.le.cell (Lds.le (St.ld hS)) (hl11 j v hj))) fun a hF=>?_
        refine ls<|a_alloc (cs:=[.int .i64 0,.int .i64 0,.int .i64 0,.slice none 0 0,.slice none 0 0,.int .i64 0].toArray) hF rfl hS Tryz.zeroValue85 rfl fun b20 w a hS hF=>?_
        refine ls<|q1 hF rfl (e_asg hF rfl) fun a hF=>?_
        refine ls<|s_blkA hF hS Tryz.sizeOf85 rfl rfl rfl rfl (one_cells rfl) .head fun w hS=>?_
        refine re<|?_
        refine tn<|th<|th<|?_
        refine rg<|?_
        refine ls<|q1 hF rfl (e_fa hF fa85_0 rfl) fun a hF=>?_
        refine ls<|q1 hF rfl (e_ld hF Tryz.isAgg3 rfl ((St.ld hS).cellB (.head _) rfl)) fun a hF=>?_
        refine ls<|q1 hF rfl (e_neq hF rfl rfl) fun a hF=>?_
        refine re<|?_
        rcases bdich (decide (xz7.Kind≠14)) with hb21 | hb21
        ·
          replace hm:=itp_t hm hb21
          refine tn<|ctv hF rfl hb21<|?_
          refine we<|tx<|bx<|?_
          refine tn<|?_
          replace hS:=hS.pickL (.cons (.tail .head) .nil)
          exact ⟨vB1,oaB2,capB3,vsB4,hm,hF.has ⟨rfl,rfl,rfl,rfl,rfl,trivial⟩,hS,hvB5⟩
        ·
          replace hm:=itp_f hm hb21
          refine tn<|cfv hF rfl hb21<|wk<|?_
          refine tn<|th<|?_
          refine rg<|?_
          refine ls<|q1 hF rfl (e_fa hF fa85_5 rfl) fun a hF=>?_
          refine ls<|q1 hF rfl (e_ld hF Tryz.isAgg3 rfl ((St.ld hS).cellB (.head _) rfl)) fun a hF=>?_
          refine ls<|q1 hF rfl (e_sub hF rfl rfl) fun a hF=>?_
          refine ls<|q1 hF rfl (e_asg hF rfl) fun a hF=>?_
          refine re<|?_
          refine tn<|th<|th<|?_
          refine rg<|?_
          refine ls<|q1 hF rfl (e_move hF rfl) fun a hF=>?_
          refine ls<|q1 hF rfl (e_lenL (α:=Int) (xs:=vB1) hF Tryz.runUnderlying22 rfl) fun a hF=>?_
          refine ls<|q1 hF rfl (e_move hF rfl) fun a hF=>?_
          refine re<|?_
          refine tn<|midK (fun a w=>(Z4z (Z4y (Z50 N Z4x p1 nn2) vB7) vB1 vB7)=some r∧Fr 49 [(0,.slice oa2 p1.length cap3),(3,.slice oaB2 vB1.length capB3),(4,.int .i64 vB7),(10,.slice oa2 p1.length cap3),(11,.int .i64 (p1.length:Int)),(12,.int .i64 vB7)] a∧St w0 Nil [H] [sla 3 1 oaB2 vB1.length capB3 vsB4] w) ?_ ?_
          ·
            replace hS:=hS.pickL (.cons (.tail .head) .nil)
            refine wb<|lp (α:=Nat×Int) (fun (gh:Nat×Int) a w=>match gh with | (nn5,vE1)=>(Z51 N (Z4z (Z4y (Z50 N Z4x p1 nn2) vB7) vB1 vB7) p1 xz7 vB1) nn5 vE1=some r∧Fr 49 [(0,.slice oa2 p1.length cap3),(3,.slice oaB2 vB1.length capB3),(4,.int .i64 vB7),(6,.int .i64 (IntKind.i64.wrap (xz7.To - 1))),(10,.slice oa2 p1.length cap3),(11,.int .i64 (p1.length:Int)),(12,.int .i64 vB7),(23,.slice oaB2 vB1.length capB3),(24,.int .i64 (vB1.length:Int)),(25,.int .i64 vE1)] a∧St w0 Nil [H] [sla 3 1 oaB2 vB1.length capB3 vsB4] w) (fun gh=>gh.1) (N,0) ⟨hm,hF.has ⟨rfl,rfl,rfl,rfl,rfl,rfl,rfl,rfl,rfl,rfl,trivial⟩,hS⟩ ?_
            clear hm hF hS
            rintro ⟨nn5,vE1⟩ a w ⟨hm,hF,hS⟩
            obtain _ | nn5:=nn5
            · simp [Z51] at hm
            rw [Z51] at hm
            refine th<|?_
            refine rg<|?_
            refine ls<|q1 hF rfl (e_lss hF rfl rfl) fun a hF=>?_
            refine re<|?_
            rcases bdich (decide (vE1 < (vB1.length:Int))) with hb22 | hb22
            ·
              replace hm:=itp_t hm hb22
              refine tn<|th<|ctv hF rfl hb22<|wk<|?_
              refine tn<|th<|wb<|th<|?_
              replace hm:=bind_some hm
              obtain ⟨x23,h24,hm⟩:=hm
              have ho25:=Rd.oaI (hS.rdO (.head _)) hvB5 (by decide) h24
              obtain ⟨c26,g27,hl28⟩:=Rows.getI hvB5 h24
              obtain rfl:c26=[.int .i64 x23]:=g27
              refine rg<|?_
              refine ls<|q1 hF rfl (e_iaI hF Tryz.runUnderlying22 Tryz.sizeOf3 rfl rfl h24 ho25) fun a hF=>?_
              refine ls<|q1 hF rfl (e_ld hF Tryz.isAgg3 rfl ((St.ld hS).elO (.head _) (hl28 0 _ rfl))) fun a hF=>?_
              refine ls<|q1 hF rfl (e_asg hF rfl) fun a hF=>?_
              refine re<|?_
              refine tn<|th<|?_
              replace hm:=bind_some hm
              obtain ⟨x29,h30,hm⟩:=hm
              obtain ⟨c31,g32,hl33⟩:=SR.get hr5 h30
              obtain ⟨oa34,cap35,oa38,cap39,rfl,hc36,hr37,hc40,hr41⟩:=api_Instr_open g32
              refine rg<|?_
              refine ls<|q1 hF rfl (e_move hF rfl) fun a hF=>?_
              refine ls<|q1 hF rfl (e_move hF rfl) fun a hF=>?_
              refine ls<|q1 hF rfl (e_iaI hF Tryz.runUnderlying24 Tryz.sizeOf85 rfl rfl h30 (SR.oaI hr5 (by decide) h30)) fun a hF=>?_
              refine ls<|q1 hF rfl (e_fa hF fa85_5 rfl) fun a hF=>?_
              refine ls<|q1 hF rfl (e_ld hF Tryz.isAgg3 rfl (PH.le.cell (Lds.le (St.ld hS)) (hl33 5 _ rfl))) fun a hF=>?_
              refine ls<|q1 hF rfl (e_sub hF rfl rfl) fun a hF=>?_
              refine ls<|q1 hF rfl (e_asg hF rfl) fun a hF=>?_
              refine re<|?_
              refine tn<|th<|?_
              refine rg<|?_
              refine ls<|q1 hF rfl (e_move hF rfl) fun a hF=>?_
              refine ls<|q1 hF rfl (e_move hF rfl) fun a hF=>?_
              refine ls<|q1 hF rfl (e_lss hF rfl rfl) fun a hF=>?_
              refine ls<|q1 hF rfl (e_move hF rfl) fun a hF=>?_
              refine grp (N:=49) (Fk:=[(0,.slice oa2 p1.length cap3),(3,.slice oaB2 vB1.length capB3),(4,.int .i64 vB7),(6,.int .i64 (IntKind.i64.wrap (xz7.To - 1))),(10,.slice oa2 p1.length cap3),(11,.int .i64 (p1.length:Int)),(12,.int .i64 vB7),(23,.slice oaB2 vB1.length capB3),(24,.int .i64 (vB1.length:Int)),(25,.int .i64 vE1),(42,.bool ((decide ((IntKind.i64.wrap (x29.To - 1)) < (IntKind.i64.wrap (xz7.To - 1)))) && (decide ((IntKind.i64.wrap (xz7.To - 1))≤x23))))]) (b:=(decide ((IntKind.i64.wrap (x29.To - 1)) < (IntKind.i64.wrap (xz7.To - 1))))) 4 hS ?_ ?_ ?_
              ·
                intro hb key
                replace hF:=Fr.as hF (t:=38) rfl (congrArg Value.bool hb)
                refine ls<|gy hF rfl rfl<|q1 hF rfl (e_move hF rfl) fun a hF=>?_
                refine ls<|gy hF rfl rfl<|q1 hF rfl (e_move hF rfl) fun a hF=>?_
                refine ls<|gy hF rfl rfl<|q1 hF rfl (e_geq hF rfl rfl) fun a hF=>?_
                refine ls<|q1 hF rfl (e_as (v':=.bool ((decide ((IntKind.i64.wrap (x29.To - 1)) < (IntKind.i64.wrap (xz7.To - 1)))) && (decide ((IntKind.i64.wrap (xz7.To - 1))≤x23)))) (e_pickT hF rfl rfl) (by rw [hb];rfl)) fun a hF=>?_
                exact key _ _ (hF.has ⟨rfl,rfl,rfl,rfl,rfl,rfl,rfl,rfl,rfl,rfl,rfl,trivial⟩) hS
              ·
                intro hb key
                replace hF:=Fr.as hF (t:=38) rfl (congrArg Value.bool hb)
                refine ls<|gn hF rfl rfl rfl rfl fun a hF=>?_
                refine ls<|gn hF rfl rfl rfl rfl fun a hF=>?_
                refine ls<|gn hF rfl rfl rfl rfl fun a hF=>?_
                refine ls<|q1 hF rfl (e_as (v':=.bool ((decide ((IntKind.i64.wrap (x29.To - 1)) < (IntKind.i64.wrap (xz7.To - 1)))) && (decide ((IntKind.i64.wrap (xz7.To - 1))≤x23)))) (e_pickF hF rfl rfl) (by rw [hb];rfl)) fun a hF=>?_
                exact key _ _ (hF.has ⟨rfl,rfl,rfl,rfl,rfl,rfl,rfl,rfl,rfl,rfl,rfl,trivial⟩) hS
              intro a w hF hS
              refine re<|?_
              rcases bdich ((decide ((IntKind.i64.wrap (x29.To - 1)) < (IntKind.i64.wrap (xz7.To - 1)))) && (decide ((IntKind.i64.wrap (xz7.To - 1))≤x23))) with hb42 | hb42
              ·
                replace hm:=ite_t hm hb42
                refine tn<|ctv hF rfl hb42<|th<|?_
                refine rg<|?_
                refine ls<|q1 hF rfl (e_asg hF rfl) fun a hF=>?_
                refine re<|?_
                refine tn<|?_
                refine wr<|br<|tr<|tr<|br<|tr<|br<|tr<|tr<|br<|tr<|?_
                obtain rfl:=Option.some.inj hm
                exact r1 hF Tryz.results105 rfl ⟨rfl,hS.keep⟩
              ·
                replace hm:=ite_f hm hb42
                refine tn<|cfv hF rfl hb42<|wk<|?_
                refine bn<|tn<|?_
                refine rg<|?_
                refine ls<|q1 hF rfl (e_add hF rfl rfl) fun a hF=>?_
                refine ls<|q1 hF rfl (e_move hF rfl) fun a hF=>?_
                refine re<|?_
                refine tn<|?_
                exact ⟨(nn5,(IntKind.i64.wrap (vE1+1))),⟨hm,hF.has ⟨rfl,rfl,rfl,rfl,rfl,rfl,rfl,rfl,rfl,rfl,trivial⟩,hS⟩,Nat.lt_succ_self _⟩
            ·
              replace hm:=itp_f hm hb22
              refine tn<|th<|cfv hF rfl hb22<|?_
              refine we<|tx<|tx<|bx<|?_
              refine tn<|?_
              exact ⟨hm,hF.has ⟨rfl,rfl,rfl,rfl,rfl,rfl,trivial⟩,hS⟩
          clear hm hF hS
          rintro a w ⟨hm,hF,hS⟩
          unfold Z4z at hm
          replace hm:=bind_some hm
          obtain ⟨l46,h47,hm⟩:=hm
          refine rg<|?_
          refine ls<|q1 hF rfl (e_move hF rfl) fun a hF=>?_
          refine ls<|q1 hF rfl (e_move hF rfl) fun a hF=>?_
          refine ls<|a_bsl (e:=3) (sz:=1) [.int .i64 vB7] hF rfl hS rfl rfl rfl (fun w=>by kernel_rfl) fun b44 w a hS hF=>?_
          have hv43:Rows (α:=Int) H [.int .i64 vB7] ([vB7]:List Int):=(.cons (c:=[.int .i64 vB7]) rfl .nil)
          refine ls<|m_app (α:=Int) (xs:=vB1) (ys:=([vB7]:List Int)) hF rfl hS Tryz.underlying22 info3 rfl (by decide) rfl rfl rfl (.tail _ (.head _)) hvB5 (hS.rdO (.head _)) hv43 h47 fun oa48 cap49 vs50 w a hv51 hU hF=>?_
          replace hS:=hU _ (.tail .head)
          clear hU
          replace hS:=hS.drop .head
          refine ls<|q1 hF rfl (e_asg hF rfl) fun a hF=>?_
          refine re<|?_
          refine bn<|tn<|?_
          exact ⟨l46,oa48,cap49,vs50,hm,hF.has ⟨rfl,rfl,rfl,rfl,rfl,trivial⟩,hS,hv51⟩
      clear hm hF hS
      rintro a w ⟨vC1,oaC2,capC3,vsC4,hm,hF,hS,hvC5⟩
      unfold Z4y at hm
      refine rg<|?_
      refine ls<|q1 hF rfl (e_add hF rfl rfl) fun a hF=>?_
      refine ls<|q1 hF rfl (e_move hF rfl) fun a hF=>?_
      refine re<|?_
      refine tn<|?_
      exact ⟨(nn2,vC1,(IntKind.i64.wrap (vB7+1))),⟨oaC2,capC3,vsC4,hm,hF.has ⟨rfl,rfl,rfl,rfl,rfl,trivial⟩,hS,hvC5⟩,Nat.lt_succ_self _⟩
    ·
      replace hm:=itp_f hm hb6
      refine tn<|th<|cfv hF rfl hb6<|?_
      refine we<|tx<|tx<|bx<|?_
      refine tn<|?_
      replace hS:=hS.pickL .nil
      exact ⟨hm,hF.has trivial,hS⟩
  clear hm hF hS
  rintro a w ⟨hm,hF,hS⟩
  unfold Z4x at hm
  refine th<|?_
  refine rg<|?_
  refine ls<|q1 hF rfl (e_asg hF rfl) fun a hF=>?_
  refine re<|?_
  refine tn<|?_
  refine wr<|?_
  obtain rfl:=Option.some.inj hm
  exact r1 hF Tryz.results105 rfl ⟨rfl,hS.keep⟩
set_option maxHeartbeats 4000000 in
set_option maxRecDepth 100000 in
theorem Z4c_c {N:Nat} {w0:World} {H:PH} (hH:H.le w0) {cs2:List Value} {p1:api_Code} (g3:Enc.rep H cs2 p1) {p4:Int} {p5:Int} {p6:Int} {r:Bool} (hm:Z4c N p1 p4 p5 p6=some r):Tot Tryz.prog 62 #[.agg cs2.toArray,.int .i64 p4,.int .i64 p5,.int .i64 p6] w0 (fun v w'=>v=.bool r∧Keep Nil w0 w'):=by
  unfold Z4c at hm
  refine fn0 (args:=[.agg cs2.toArray,.int .i64 p4,.int .i64 p5,.int .i64 p6]) (F:=[(0,.agg cs2.toArray),(1,.int .i64 p4),(2,.int .i64 p5),(3,.int .i64 p6)]) Tryz.func62 rfl Tryz.ntmps62 rfl rfl fun a hF=>?_
  have hS:St w0 Nil [H] [] w0:=start1 hH
  obtain ⟨oa7,cap8,rfl,hc9,hr10⟩:=api_Code_open g3
  refine th<|?_
  refine rg<|?_
  refine ls<|a_box (cs:=[.int .i64 p1.Regs,.int .i64 p1.Counts,.slice oa7 p1.L.length cap8].toArray) hF rfl hS rfl rfl fun b11 w a hS hF=>?_
  refine ls<|q1 hF rfl (e_asg hF rfl) fun a hF=>?_
  refine re<|?_
  refine tn<|th<|th<|?_
  refine rg<|?_
  refine ls<|q1 hF rfl (e_fa hF fa26_0 rfl) fun a hF=>?_
  refine ls<|q1 hF rfl (e_ld hF Tryz.isAgg3 rfl ((St.ld hS).cellB (.head _) rfl)) fun a hF=>?_
  refine ls<|q1 hF rfl (e_lss hF rfl rfl) fun a hF=>?_
  refine ls<|q1 hF rfl (e_move hF rfl) fun a hF=>?_
  refine grp (N:=193) (Fk:=[(1,.int .i64 p4),(2,.int .i64 p5),(3,.int .i64 p6),(4,.pointer (some ⟨b11,0,none⟩)),(24,.bool ((decide (p1.Regs < 0)) || (decide (4 < p1.Regs))))]) (b:=(decide (p1.Regs < 0))) 4 hS ?_ ?_ ?_
  ·
    intro hb key
    replace hF:=Fr.as hF (t:=20) rfl (congrArg Value.bool hb)
    refine ls<|gn hF rfl rfl rfl rfl fun a hF=>?_
    refine ls<|gn hF rfl rfl rfl rfl fun a hF=>?_
    refine ls<|gn hF rfl rfl rfl rfl fun a hF=>?_
    refine ls<|q1 hF rfl (e_as (v':=.bool ((decide (p1.Regs < 0)) || (decide (4 < p1.Regs)))) (e_pickT hF rfl rfl) (by rw [hb];rfl)) fun a hF=>?_
    exact key _ _ (hF.has ⟨rfl,rfl,rfl,rfl,rfl,trivial⟩) hS
  ·
    intro hb key
    replace hF:=Fr.as hF (t:=20) rfl (congrArg Value.bool hb)
    refine ls<|gy hF rfl rfl<|q1 hF rfl (e_fa hF fa26_0 rfl) fun a hF=>?_
    refine ls<|gy hF rfl rfl<|q1 hF rfl (e_ld hF Tryz.isAgg3 rfl ((St.ld hS).cellB (.head _) rfl)) fun a hF=>?_
    refine ls<|gy hF rfl rfl<|q1 hF rfl (e_gtr hF rfl rfl) fun a hF=>?_
    refine ls<|q1 hF rfl (e_as (v':=.bool ((decide (p1.Regs < 0)) || (decide (4 < p1.Regs)))) (e_pickF hF rfl rfl) (by rw [hb];rfl)) fun a hF=>?_
    exact key _ _ (hF.has ⟨rfl,rfl,rfl,rfl,rfl,trivial⟩) hS
  intro a w hF hS
  refine ls<|q1 hF rfl (e_move hF rfl) fun a hF=>?_
  refine grp (N:=193) (Fk:=[(1,.int .i64 p4),(2,.int .i64 p5),(3,.int .i64 p6),(4,.pointer (some ⟨b11,0,none⟩)),(29,.bool (((decide (p1.Regs < 0)) || (decide (4 < p1.Regs))) || (decide (p1.Counts < 0))))]) (b:=((decide (p1.Regs < 0)) || (decide (4 < p1.Regs)))) 4 hS ?_ ?_ ?_
  ·
    intro hb key
    replace hF:=Fr.as hF (t:=25) rfl (congrArg Value.bool hb)
    refine ls<|gn hF rfl rfl rfl rfl fun a hF=>?_
    refine ls<|gn hF rfl rfl rfl rfl fun a hF=>?_
    refine ls<|gn hF rfl rfl rfl rfl fun a hF=>?_
    refine ls<|q1 hF rfl (e_as (v':=.bool (((decide (p1.Regs < 0)) || (decide (4 < p1.Regs))) || (decide (p1.Counts < 0)))) (e_pickT hF rfl rfl) (by rw [hb];rfl)) fun a hF=>?_
    exact key _ _ (hF.has ⟨rfl,rfl,rfl,rfl,rfl,trivial⟩) hS
  ·
    intro hb key
    replace hF:=Fr.as hF (t:=25) rfl (congrArg Value.bool hb)
    refine ls<|gy hF rfl rfl<|q1 hF rfl (e_fa hF fa26_1 rfl) fun a hF=>?_
    refine ls<|gy hF rfl rfl<|q1 hF rfl (e_ld hF Tryz.isAgg3 rfl ((St.ld hS).cellB (.head _) rfl)) fun a hF=>?_
    refine ls<|gy hF rfl rfl<|q1 hF rfl (e_lss hF rfl rfl) fun a hF=>?_
    refine ls<|q1 hF rfl (e_as (v':=.bool (((decide (p1.Regs < 0)) || (decide (4 < p1.Regs))) || (decide (p1.Counts < 0)))) (e_pickF hF rfl rfl) (by rw [hb];rfl)) fun a hF=>?_
    exact key _ _ (hF.has ⟨rfl,rfl,rfl,rfl,rfl,trivial⟩) hS
  intro a w hF hS
  refine ls<|q1 hF rfl (e_move hF rfl) fun a hF=>?_
  refine grp (N:=193) (Fk:=[(1,.int .i64 p4),(2,.int .i64 p5),(3,.int .i64 p6),(4,.pointer (some ⟨b11,0,none⟩)),(34,.bool ((((decide (p1.Regs < 0)) || (decide (4 < p1.Regs))) || (decide (p1.Counts < 0))) || (decide (12 < p1.Counts))))]) (b:=(((decide (p1.Regs < 0)) || (decide (4 < p1.Regs))) || (decide (p1.Counts < 0)))) 4 hS ?_ ?_ ?_
  ·
    intro hb key
    replace hF:=Fr.as hF (t:=30) rfl (congrArg Value.bool hb)
    refine ls<|gn hF rfl rfl rfl rfl fun a hF=>?_
    refine ls<|gn hF rfl rfl rfl rfl fun a hF=>?_
    refine ls<|gn hF rfl rfl rfl rfl fun a hF=>?_
    refine ls<|q1 hF rfl (e_as (v':=.bool ((((decide (p1.Regs < 0)) || (decide (4 < p1.Regs))) || (decide (p1.Counts < 0))) || (decide (12 < p1.Counts)))) (e_pickT hF rfl rfl) (by rw [hb];rfl)) fun a hF=>?_
    exact key _ _ (hF.has ⟨rfl,rfl,rfl,rfl,rfl,trivial⟩) hS
  ·
    intro hb key
    replace hF:=Fr.as hF (t:=30) rfl (congrArg Value.bool hb)
    refine ls<|gy hF rfl rfl<|q1 hF rfl (e_fa hF fa26_1 rfl) fun a hF=>?_
    refine ls<|gy hF rfl rfl<|q1 hF rfl (e_ld hF Tryz.isAgg3 rfl ((St.ld hS).cellB (.head _) rfl)) fun a hF=>?_
    refine ls<|gy hF rfl rfl<|q1 hF rfl (e_gtr hF rfl rfl) fun a hF=>?_
    refine ls<|q1 hF rfl (e_as (v':=.bool ((((decide (p1.Regs < 0)) || (decide (4 < p1.Regs))) || (decide (p1.Counts < 0))) || (decide (12 < p1.Counts)))) (e_pickF hF rfl rfl) (by rw [hb];rfl)) fun a hF=>?_
    exact key _ _ (hF.has ⟨rfl,rfl,rfl,rfl,rfl,trivial⟩) hS
  intro a w hF hS
  refine re<|?_
  rcases bdich ((((decide (p1.Regs < 0)) || (decide (4 < p1.Regs))) || (decide (p1.Counts < 0))) || (decide (12 < p1.Counts))) with hb12 | hb12
  ·
    replace hm:=ite_t hm hb12
    refine tn<|ctv hF rfl hb12<|th<|?_
    refine rg<|?_
    refine ls<|q1 hF rfl (e_asg hF rfl) fun a hF=>?_
    refine re<|?_
    refine tn<|?_
    refine wr<|tr<|?_
    obtain rfl:=Option.some.inj hm
    exact r1 hF Tryz.results62 rfl ⟨rfl,hS.keep⟩
  ·
    replace hm:=ite_f hm hb12
    refine tn<|cfv hF rfl hb12<|wk<|?_
    refine tn<|th<|th<|?_
    refine rg<|?_
    refine ls<|q1 hF rfl (e_fa hF fa26_2 rfl) fun a hF=>?_
    refine ls<|q1 hF rfl (e_ld hF Tryz.isAgg24 rfl ((St.ld hS).cellB (.head _) rfl)) fun a hF=>?_
    refine ls<|q1 hF rfl (e_lenL (α:=api_Instr) (xs:=p1.L) hF Tryz.runUnderlying24 rfl) fun a hF=>?_
    refine ls<|q1 hF rfl (e_move hF rfl) fun a hF=>?_
    refine re<|?_
    refine tn<|midK (fun a w=>(Z4e N p1)=some r∧Fr 193 [(4,.pointer (some ⟨b11,0,none⟩))] a∧St w0 Nil [H] [blk b11 (.cells [.int .i64 p1.Regs,.int .i64 p1.Counts,.slice oa7 p1.L.length cap8].toArray 26 (0,0))] w) ?_ ?_
    ·
      refine wb<|lp (α:=Nat×Int) (fun (gh:Nat×Int) a w=>match gh with | (nn2,vB1)=>(Z4k N (Z4e N p1) p1 p4 p5 p6) nn2 vB1=some r∧Fr 193 [(1,.int .i64 p4),(2,.int .i64 p5),(3,.int .i64 p6),(4,.pointer (some ⟨b11,0,none⟩)),(36,.slice oa7 p1.L.length cap8),(37,.int .i64 (p1.L.length:Int)),(38,.int .i64 vB1)] a∧St w0 Nil [H] [blk b11 (.cells [.int .i64 p1.Regs,.int .i64 p1.Counts,.slice oa7 p1.L.length cap8].toArray 26 (0,0))] w) (fun gh=>gh.1) (N,0) ⟨hm,hF.has ⟨rfl,rfl,rfl,rfl,rfl,rfl,rfl,trivial⟩,hS⟩ ?_
      clear hm hF hS
      rintro ⟨nn2,vB1⟩ a w ⟨hm,hF,hS⟩
      obtain _ | nn2:=nn2
      · simp [Z4k] at hm
      rw [Z4k] at hm
      refine th<|?_
      refine rg<|?_
      refine ls<|q1 hF rfl (e_lss hF rfl rfl) fun a hF=>?_
      refine re<|?_
      rcases bdich (decide (vB1 < (p1.L.length:Int))) with hb13 | hb13
      ·
        replace hm:=itp_t hm hb13
        refine tn<|th<|ctv hF rfl hb13<|wk<|?_
        refine tn<|th<|wb<|th<|?_
        replace hm:=bind_some hm
        obtain ⟨x14,h15,hm⟩:=hm
        obtain ⟨c16,g17,hl18⟩:=SR.get hr10 h15
        obtain ⟨oa19,cap20,oa23,cap24,rfl,hc21,hr22,hc25,hr26⟩:=api_Instr_open g17
        refine rg<|?_
        refine ls<|q1 hF rfl (e_move hF rfl) fun a hF=>?_
        refine ls<|q1 hF rfl (e_iaI hF Tryz.runUnderlying24 Tryz.sizeOf85 rfl rfl h15 (SR.oaI hr10 (by decide) h15)) fun a hF=>?_
        refine ls<|q1 hF rfl (e_ldA hF Tryz.isAgg85 Tryz.sizeOf85 rfl rfl (fun j v hj=>PH.le.cell (Lds.le (St.ld hS)) (hl18 j v hj))) fun a hF=>?_
        refine ls<|a_alloc (cs:=[.int .i64 0,.int .i64 0,.int .i64 0,.slice none 0 0,.slice none 0 0,.int .i64 0].toArray) hF rfl hS Tryz.zeroValue85 rfl fun b27 w a hS hF=>?_
        refine ls<|q1 hF rfl (e_asg hF rfl) fun a hF=>?_
        refine ls<|s_blkA hF hS Tryz.sizeOf85 rfl rfl rfl rfl (one_cells rfl) .head fun w hS=>?_
        refine re<|?_
        refine tn<|th<|th<|?_
        refine rg<|?_
        refine ls<|q1 hF rfl (e_fa hF fa85_0 rfl) fun a hF=>?_
        refine ls<|q1 hF rfl (e_ld hF Tryz.isAgg3 rfl ((St.ld hS).cellB (.head _) rfl)) fun a hF=>?_
        refine ls<|q1 hF rfl (e_lss hF rfl rfl) fun a hF=>?_
        refine ls<|q1 hF rfl (e_move hF rfl) fun a hF=>?_
        refine grp (N:=193) (Fk:=[(1,.int .i64 p4),(2,.int .i64 p5),(3,.int .i64 p6),(4,.pointer (some ⟨b11,0,none⟩)),(9,.int .i64 vB1),(10,.pointer (some ⟨b27,0,none⟩)),(36,.slice oa7 p1.L.length cap8),(37,.int .i64 (p1.L.length:Int)),(38,.int .i64 vB1),(50,.bool ((decide (x14.Kind < 1)) || (decide (16≤x14.Kind))))]) (b:=(decide (x14.Kind < 1))) 4 hS ?_ ?_ ?_
        ·
          intro hb key
          replace hF:=Fr.as hF (t:=46) rfl (congrArg Value.bool hb)
          refine ls<|gn hF rfl rfl rfl rfl fun a hF=>?_
          refine ls<|gn hF rfl rfl rfl rfl fun a hF=>?_
          refine ls<|gn hF rfl rfl rfl rfl fun a hF=>?_
          refine ls<|q1 hF rfl (e_as (v':=.bool ((decide (x14.Kind < 1)) || (decide (16≤x14.Kind)))) (e_pickT hF rfl rfl) (by rw [hb];rfl)) fun a hF=>?_
          exact key _ _ (hF.has ⟨rfl,rfl,rfl,rfl,rfl,rfl,rfl,rfl,rfl,rfl,trivial⟩) hS
        ·
          intro hb key
          replace hF:=Fr.as hF (t:=46) rfl (congrArg Value.bool hb)
          refine ls<|gy hF rfl rfl<|q1 hF rfl (e_fa hF fa85_0 rfl) fun a hF=>?_
          refine ls<|gy hF rfl rfl<|q1 hF rfl (e_ld hF Tryz.isAgg3 rfl ((St.ld hS).cellB (.head _) rfl)) fun a hF=>?_
          refine ls<|gy hF rfl rfl<|q1 hF rfl (e_geq hF rfl rfl) fun a hF=>?_
          refine ls<|q1 hF rfl (e_as (v':=.bool ((decide (x14.Kind < 1)) || (decide (16≤x14.Kind)))) (e_pickF hF rfl rfl) (by rw [hb];rfl)) fun a hF=>?_
          exact key _ _ (hF.has ⟨rfl,rfl,rfl,rfl,rfl,rfl,rfl,rfl,rfl,rfl,trivial⟩) hS
        intro a w hF hS
        refine re<|?_
        rcases bdich ((decide (x14.Kind < 1)) || (decide (16≤x14.Kind))) with hb28 | hb28
        ·
          replace hm:=ite_t hm hb28
          refine tn<|ctv hF rfl hb28<|th<|?_
          refine rg<|?_
          refine ls<|q1 hF rfl (e_asg hF rfl) fun a hF=>?_
          refine re<|?_
          refine tn<|?_
          refine wr<|tr<|br<|tr<|tr<|br<|tr<|?_
          obtain rfl:=Option.some.inj hm
          exact r1 hF Tryz.results62 rfl ⟨rfl,hS.keep⟩
        ·
          replace hm:=ite_f hm hb28
          refine tn<|cfv hF rfl hb28<|wk<|?_
          refine tn<|th<|?_
          refine rg<|?_
          refine ls<|q1 hF rfl (e_mkf (vs:=[.pointer (some ⟨b27,0,none⟩)]) hF ⟨rfl,trivial⟩) fun a hF=>?_
          refine ls<|q1 hF rfl (e_asg hF rfl) fun a hF=>?_
          refine re<|?_
          refine tn<|th<|?_
          replace hm:=bind_some hm
          obtain ⟨r29,h30,hm⟩:=hm
          replace hm:=bind_some hm
          obtain ⟨r31,h32,hm⟩:=hm
          refine rdS 8 hS wide fun w hS=>?_
          refine d1 (i:=0) rfl (by kernel_rfl) (by kernel_rfl) (St.ld hS) hF rfl (fun _ _ _ h=>h) (fun w hl=>(e_move hF rfl)) fun a hF=>?_
          refine d1 (i:=2) rfl (by kernel_rfl) (by kernel_rfl) (St.ld hS) hF rfl (fun _ _ _ h=>h) (fun w hl=>(e_fa hF fa85_1 rfl)) fun a hF=>?_
          refine d1 (i:=3) rfl (by kernel_rfl) (by kernel_rfl) (St.ld hS) hF rfl (fun _ _ _ h=>h) (fun w hl=>(e_ld hF Tryz.isAgg3 rfl (hl.cellB (.head _) rfl))) fun a hF=>?_
          refine d1 (i:=4) rfl (by kernel_rfl) (by kernel_rfl) (St.ld hS) hF rfl (fun _ _ _ h=>h) (fun w hl=>(e_fa hF fa26_0 rfl)) fun a hF=>?_
          refine d1 (i:=5) rfl (by kernel_rfl) (by kernel_rfl) (St.ld hS) hF rfl (fun _ _ _ h=>h) (fun w hl=>(e_ld hF Tryz.isAgg3 rfl (hl.cellB (.tail _ (.head _)) rfl))) fun a hF=>?_
          refine da1 (i:=1) (by kernel_rfl) ?_
          refine di (i:=1) rfl<|k1 (vs:=[.int .u8 114]) (caps:=[.pointer (some ⟨b27,0,none⟩)]) hF rfl rfl Tryz.call100 (Z4d_c (hp_le _) (Enc.mono (St.up hS) (show Enc.rep (α:=api_Instr) H [.int .i64 x14.Kind,.int .i64 x14.A,.int .i64 x14.B,.slice oa19 x14.E.length cap20,.slice oa23 x14.F.length cap24,.int .i64 x14.To] x14 from ⟨_,_,rfl,rfl,⟨_,_,rfl,rfl,⟨_,_,rfl,rfl,⟨_,_,rfl,⟨_,_,rfl,hc21,hr22⟩,⟨_,_,rfl,⟨_,_,rfl,hc25,hr26⟩,rfl⟩⟩⟩⟩⟩)) (St.blkO hS (.head _)) h30) ⟨rfl,trivial⟩ rfl (fun v w a hR hF=>?_)
          obtain ⟨rfl,hk⟩:=hR
          replace hS:=hS.pass hk
          clear hk
          refine ⟨fun _=>(St.ld hS),?_⟩
          refine da1 (i:=6) (by kernel_rfl) ?_
          refine di (i:=6) rfl<|c1 hF rfl Tryz.call103 (Z52_c (hp_le _) h32) ⟨rfl,rfl,rfl,trivial⟩ (fun v w a hR hF=>?_)
          obtain ⟨rfl,hk⟩:=hR
          replace hS:=hS.pass hk
          clear hk
          refine ⟨fun _=>(St.ld hS),?_⟩
          refine d1 (i:=7) rfl (by kernel_rfl) (by kernel_rfl) (St.ld hS) hF rfl (fun _ _ _ h=>h) (fun w hl=>(e_asg hF rfl)) fun a hF=>?_
          refine de (by kernel_rfl)<|?_
          refine tn<|th<|th<|?_
          replace hm:=bind_some hm
          obtain ⟨r33,h34,hm⟩:=hm
          refine rg<|?_
          refine ls<|q1 hF rfl (e_move hF rfl) fun a hF=>?_
          refine ls<|k1 (vs:=[.int .u8 107]) (caps:=[.pointer (some ⟨b27,0,none⟩)]) hF rfl rfl Tryz.call100 (Z4d_c (hp_le _) (Enc.mono (St.up hS) (show Enc.rep (α:=api_Instr) H [.int .i64 x14.Kind,.int .i64 x14.A,.int .i64 x14.B,.slice oa19 x14.E.length cap20,.slice oa23 x14.F.length cap24,.int .i64 x14.To] x14 from ⟨_,_,rfl,rfl,⟨_,_,rfl,rfl,⟨_,_,rfl,rfl,⟨_,_,rfl,⟨_,_,rfl,hc21,hr22⟩,⟨_,_,rfl,⟨_,_,rfl,hc25,hr26⟩,rfl⟩⟩⟩⟩⟩)) (St.blkO hS (.head _)) h34) ⟨rfl,trivial⟩ rfl (fun v w a hR hF=>?_)
          obtain ⟨rfl,hk⟩:=hR
          replace hS:=hS.pass hk
          clear hk
          refine re<|?_
          refine tn<|midK (fun a w=>∃ (vC1:Bool),(Z4f N (Z4k N (Z4e N p1) p1 p4 p5 p6 nn2) p1 p4 p5 p6 x14 vB1) vC1=some r∧Fr 193 [(1,.int .i64 p4),(2,.int .i64 p5),(3,.int .i64 p6),(4,.pointer (some ⟨b11,0,none⟩)),(9,.int .i64 vB1),(10,.pointer (some ⟨b27,0,none⟩)),(11,.func (.func 100) #[] #[.pointer (some ⟨b27,0,none⟩)]),(12,.bool vC1),(36,.slice oa7 p1.L.length cap8),(37,.int .i64 (p1.L.length:Int)),(38,.int .i64 vB1)] a∧St w0 Nil [H] [blk b11 (.cells [.int .i64 p1.Regs,.int .i64 p1.Counts,.slice oa7 p1.L.length cap8].toArray 26 (0,0)),blk b27 (.cells [.int .i64 x14.Kind,.int .i64 x14.A,.int .i64 x14.B,.slice oa19 x14.E.length cap20,.slice oa23 x14.F.length cap24,.int .i64 x14.To].toArray 85 (0,0))] w) ?_ ?_
          ·
            rcases bdich r33 with hb35 | hb35
            ·
              replace hm:=ite_t hm hb35
              refine ctv hF rfl hb35<|?_
              replace hm:=bind_some hm
              obtain ⟨r36,h37,hm⟩:=hm
              refine rg<|?_
              refine ls<|q1 hF rfl (e_fa hF fa85_1 rfl) fun a hF=>?_
              refine ls<|q1 hF rfl (e_ld hF Tryz.isAgg3 rfl ((St.ld hS).cellB (.head _) rfl)) fun a hF=>?_
              refine ls<|q1 hF rfl (e_fa hF fa26_1 rfl) fun a hF=>?_
              refine ls<|q1 hF rfl (e_ld hF Tryz.isAgg3 rfl ((St.ld hS).cellB (.tail _ (.head _)) rfl)) fun a hF=>?_
              refine ls<|c1 hF rfl Tryz.call103 (Z52_c (hp_le _) h37) ⟨rfl,rfl,rfl,trivial⟩ (fun v w a hR hF=>?_)
              obtain ⟨rfl,hk⟩:=hR
              replace hS:=hS.pass hk
              clear hk
              refine ls<|q1 hF rfl (e_asg hF rfl) fun a hF=>?_
              refine re<|?_
              refine tn<|?_
              replace hS:=hS.pickL (.cons (.tail .head) (.cons .head .nil))
              exact ⟨r36,hm,hF.has ⟨rfl,rfl,rfl,rfl,rfl,rfl,rfl,rfl,rfl,rfl,rfl,trivial⟩,hS⟩
            ·
              replace hm:=ite_f hm hb35
              refine cfv hF rfl hb35<|wk<|?_
              refine tn<|?_
              replace hS:=hS.pickL (.cons (.tail .head) (.cons .head .nil))
              exact ⟨r31,hm,hF.has ⟨rfl,rfl,rfl,rfl,rfl,rfl,rfl,rfl,rfl,rfl,rfl,trivial⟩,hS⟩
          clear hm hF hS
          rintro a w ⟨vC1,hm,hF,hS⟩
          unfold Z4f at hm
          refine th<|?_
          refine rg<|?_
          refine ls<|q1 hF rfl (e_fa hF fa85_2 rfl) fun a hF=>?_
          refine ls<|q1 hF rfl (e_ld hF Tryz.isAgg3 rfl ((St.ld hS).cellB (.tail _ (.head _)) rfl)) fun a hF=>?_
          refine ls<|q1 hF rfl (e_eql hF rfl rfl) fun a hF=>?_
          refine ls<|q1 hF rfl (e_asg hF rfl) fun a hF=>?_
          refine re<|?_
          refine tn<|th<|midK (fun a w=>∃ (vC2:Bool),(Z4g N (Z4k N (Z4e N p1) p1 p4 p5 p6 nn2) p1 x14 vC1 vB1) vC2=some r∧Fr 193 [(1,.int .i64 p4),(2,.int .i64 p5),(3,.int .i64 p6),(4,.pointer (some ⟨b11,0,none⟩)),(9,.int .i64 vB1),(10,.pointer (some ⟨b27,0,none⟩)),(11,.func (.func 100) #[] #[.pointer (some ⟨b27,0,none⟩)]),(12,.bool vC1),(13,.bool vC2),(36,.slice oa7 p1.L.length cap8),(37,.int .i64 (p1.L.length:Int)),(38,.int .i64 vB1)] a∧St w0 Nil [H] [blk b11 (.cells [.int .i64 p1.Regs,.int .i64 p1.Counts,.slice oa7 p1.L.length cap8].toArray 26 (0,0)),blk b27 (.cells [.int .i64 x14.Kind,.int .i64 x14.A,.int .i64 x14.B,.slice oa19 x14.E.length cap20,.slice oa23 x14.F.length cap24,.int .i64 x14.To].toArray 85 (0,0))] w) ?_ ?_
          ·
            refine wb<|th<|?_
            replace hm:=bind_some hm
            obtain ⟨r38,h39,hm⟩:=hm
            refine rg<|?_
            refine ls<|q1 hF rfl (e_move hF rfl) fun a hF=>?_
            refine ls<|k1 (vs:=[.int .u8 99]) (caps:=[.pointer (some ⟨b27,0,none⟩)]) hF rfl rfl Tryz.call100 (Z4d_c (hp_le _) (Enc.mono (St.up hS) (show Enc.rep (α:=api_Instr) H [.int .i64 x14.Kind,.int .i64 x14.A,.int .i64 x14.B,.slice oa19 x14.E.length cap20,.slice oa23 x14.F.length cap24,.int .i64 x14.To] x14 from ⟨_,_,rfl,rfl,⟨_,_,rfl,rfl,⟨_,_,rfl,rfl,⟨_,_,rfl,⟨_,_,rfl,hc21,hr22⟩,⟨_,_,rfl,⟨_,_,rfl,hc25,hr26⟩,rfl⟩⟩⟩⟩⟩)) (St.blkO hS (.tail _ (.head _))) h39) ⟨rfl,trivial⟩ rfl (fun v w a hR hF=>?_)
            obtain ⟨rfl,hk⟩:=hR
            replace hS:=hS.pass hk
            clear hk
            refine ls<|q1 hF rfl (e_asg hF rfl) fun a hF=>?_
            refine re<|?_
            rcases bdich r38 with hb40 | hb40
            ·
              replace hm:=ite_t hm hb40
              refine tn<|ctv hF rfl hb40<|?_
              replace hm:=bind_some hm
              obtain ⟨r41,h42,hm⟩:=hm
              refine rg<|?_
              refine ls<|q1 hF rfl (e_fa hF fa85_2 rfl) fun a hF=>?_
              refine ls<|q1 hF rfl (e_ld hF Tryz.isAgg3 rfl ((St.ld hS).cellB (.tail _ (.head _)) rfl)) fun a hF=>?_
              refine ls<|q1 hF rfl (e_move hF rfl) fun a hF=>?_
              refine ls<|c1 hF rfl Tryz.call103 (Z52_c (hp_le _) h42) ⟨rfl,rfl,rfl,trivial⟩ (fun v w a hR hF=>?_)
              obtain ⟨rfl,hk⟩:=hR
              replace hS:=hS.pass hk
              clear hk
              refine ls<|q1 hF rfl (e_asg hF rfl) fun a hF=>?_
              refine re<|?_
              refine bn<|tn<|?_
              exact ⟨r41,hm,hF.has ⟨rfl,rfl,rfl,rfl,rfl,rfl,rfl,rfl,rfl,rfl,rfl,rfl,trivial⟩,hS⟩
            ·
              replace hm:=ite_f hm hb40
              refine tn<|cfv hF rfl hb40<|th<|?_
              replace hm:=bind_some hm
              obtain ⟨r43,h44,hm⟩:=hm
              refine rg<|?_
              refine ls<|q1 hF rfl (e_move hF rfl) fun a hF=>?_
              refine ls<|k1 (vs:=[.int .u8 108]) (caps:=[.pointer (some ⟨b27,0,none⟩)]) hF rfl rfl Tryz.call100 (Z4d_c (hp_le _) (Enc.mono (St.up hS) (show Enc.rep (α:=api_Instr) H [.int .i64 x14.Kind,.int .i64 x14.A,.int .i64 x14.B,.slice oa19 x14.E.length cap20,.slice oa23 x14.F.length cap24,.int .i64 x14.To] x14 from ⟨_,_,rfl,rfl,⟨_,_,rfl,rfl,⟨_,_,rfl,rfl,⟨_,_,rfl,⟨_,_,rfl,hc21,hr22⟩,⟨_,_,rfl,⟨_,_,rfl,hc25,hr26⟩,rfl⟩⟩⟩⟩⟩)) (St.blkO hS (.tail _ (.head _))) h44) ⟨rfl,trivial⟩ rfl (fun v w a hR hF=>?_)
              obtain ⟨rfl,hk⟩:=hR
              replace hS:=hS.pass hk
              clear hk
              refine ls<|q1 hF rfl (e_asg hF rfl) fun a hF=>?_
              refine re<|?_
              rcases bdich r43 with hb45 | hb45
              ·
                replace hm:=ite_t hm hb45
                refine tn<|ctv hF rfl hb45<|?_
                replace hm:=bind_some hm
                obtain ⟨r46,h47,hm⟩:=hm
                refine rg<|?_
                refine ls<|q1 hF rfl (e_fa hF fa85_2 rfl) fun a hF=>?_
                refine ls<|q1 hF rfl (e_ld hF Tryz.isAgg3 rfl ((St.ld hS).cellB (.tail _ (.head _)) rfl)) fun a hF=>?_
                refine ls<|q1 hF rfl (e_move hF rfl) fun a hF=>?_
                refine ls<|c1 hF rfl Tryz.call103 (Z52_c (hp_le _) h47) ⟨rfl,rfl,rfl,trivial⟩ (fun v w a hR hF=>?_)
                obtain ⟨rfl,hk⟩:=hR
                replace hS:=hS.pass hk
                clear hk
                refine ls<|q1 hF rfl (e_asg hF rfl) fun a hF=>?_
                refine re<|?_
                refine bn<|tn<|?_
                exact ⟨r46,hm,hF.has ⟨rfl,rfl,rfl,rfl,rfl,rfl,rfl,rfl,rfl,rfl,rfl,rfl,trivial⟩,hS⟩
              ·
                replace hm:=ite_f hm hb45
                refine tn<|cfv hF rfl hb45<|th<|?_
                replace hm:=bind_some hm
                obtain ⟨r48,h49,hm⟩:=hm
                refine rg<|?_
                refine ls<|q1 hF rfl (e_move hF rfl) fun a hF=>?_
                refine ls<|k1 (vs:=[.int .u8 109]) (caps:=[.pointer (some ⟨b27,0,none⟩)]) hF rfl rfl Tryz.call100 (Z4d_c (hp_le _) (Enc.mono (St.up hS) (show Enc.rep (α:=api_Instr) H [.int .i64 x14.Kind,.int .i64 x14.A,.int .i64 x14.B,.slice oa19 x14.E.length cap20,.slice oa23 x14.F.length cap24,.int .i64 x14.To] x14 from ⟨_,_,rfl,rfl,⟨_,_,rfl,rfl,⟨_,_,rfl,rfl,⟨_,_,rfl,⟨_,_,rfl,hc21,hr22⟩,⟨_,_,rfl,⟨_,_,rfl,hc25,hr26⟩,rfl⟩⟩⟩⟩⟩)) (St.blkO hS (.tail _ (.head _))) h49) ⟨rfl,trivial⟩ rfl (fun v w a hR hF=>?_)
                obtain ⟨rfl,hk⟩:=hR
                replace hS:=hS.pass hk
                clear hk
                refine ls<|q1 hF rfl (e_asg hF rfl) fun a hF=>?_
                refine re<|?_
                rcases bdich r48 with hb50 | hb50
                ·
                  replace hm:=ite_t hm hb50
                  refine tn<|ctv hF rfl hb50<|?_
                  replace hm:=bind_some hm
                  obtain ⟨r51,h52,hm⟩:=hm
                  refine rg<|?_
                  refine ls<|q1 hF rfl (e_fa hF fa85_2 rfl) fun a hF=>?_
                  refine ls<|q1 hF rfl (e_ld hF Tryz.isAgg3 rfl ((St.ld hS).cellB (.tail _ (.head _)) rfl)) fun a hF=>?_
                  refine ls<|q1 hF rfl (e_move hF rfl) fun a hF=>?_
                  refine ls<|c1 hF rfl Tryz.call103 (Z52_c (hp_le _) h52) ⟨rfl,rfl,rfl,trivial⟩ (fun v w a hR hF=>?_)
                  obtain ⟨rfl,hk⟩:=hR
                  replace hS:=hS.pass hk
                  clear hk
                  refine ls<|q1 hF rfl (e_asg hF rfl) fun a hF=>?_
                  refine re<|?_
                  refine bn<|tn<|?_
                  exact ⟨r51,hm,hF.has ⟨rfl,rfl,rfl,rfl,rfl,rfl,rfl,rfl,rfl,rfl,rfl,rfl,trivial⟩,hS⟩
                ·
                  replace hm:=ite_f hm hb50
                  refine tn<|cfv hF rfl hb50<|th<|?_
                  replace hm:=bind_some hm
                  obtain ⟨r53,h54,hm⟩:=hm
                  refine rg<|?_
                  refine ls<|q1 hF rfl (e_move hF rfl) fun a hF=>?_
                  refine ls<|k1 (vs:=[.int .u8 110]) (caps:=[.pointer (some ⟨b27,0,none⟩)]) hF rfl rfl Tryz.call100 (Z4d_c (hp_le _) (Enc.mono (St.up hS) (show Enc.rep (α:=api_Instr) H [.int .i64 x14.Kind,.int .i64 x14.A,.int .i64 x14.B,.slice oa19 x14.E.length cap20,.slice oa23 x14.F.length cap24,.int .i64 x14.To] x14 from ⟨_,_,rfl,rfl,⟨_,_,rfl,rfl,⟨_,_,rfl,rfl,⟨_,_,rfl,⟨_,_,rfl,hc21,hr22⟩,⟨_,_,rfl,⟨_,_,rfl,hc25,hr26⟩,rfl⟩⟩⟩⟩⟩)) (St.blkO hS (.tail _ (.head _))) h54) ⟨rfl,trivial⟩ rfl (fun v w a hR hF=>?_)
                  obtain ⟨rfl,hk⟩:=hR
                  replace hS:=hS.pass hk
                  clear hk
                  refine ls<|q1 hF rfl (e_asg hF rfl) fun a hF=>?_
                  refine re<|?_
                  rcases bdich r53 with hb55 | hb55
                  ·
                    replace hm:=ite_t hm hb55
                    refine tn<|ctv hF rfl hb55<|?_
                    refine rg<|?_
                    refine ls<|q1 hF rfl (e_fa hF fa85_2 rfl) fun a hF=>?_
                    refine ls<|q1 hF rfl (e_ld hF Tryz.isAgg3 rfl ((St.ld hS).cellB (.tail _ (.head _)) rfl)) fun a hF=>?_
                    refine ls<|q1 hF rfl (e_geq hF rfl rfl) fun a hF=>?_
                    refine ls<|q1 hF rfl (e_move hF rfl) fun a hF=>?_
                    refine grp (N:=193) (Fk:=[(1,.int .i64 p4),(2,.int .i64 p5),(3,.int .i64 p6),(4,.pointer (some ⟨b11,0,none⟩)),(9,.int .i64 vB1),(10,.pointer (some ⟨b27,0,none⟩)),(11,.func (.func 100) #[] #[.pointer (some ⟨b27,0,none⟩)]),(12,.bool vC1),(36,.slice oa7 p1.L.length cap8),(37,.int .i64 (p1.L.length:Int)),(38,.int .i64 vB1),(100,.bool ((decide (1≤x14.B)) && (decide (x14.B≤8))))]) (b:=(decide (1≤x14.B))) 4 hS ?_ ?_ ?_
                    ·
                      intro hb key
                      replace hF:=Fr.as hF (t:=96) rfl (congrArg Value.bool hb)
                      refine ls<|gy hF rfl rfl<|q1 hF rfl (e_fa hF fa85_2 rfl) fun a hF=>?_
                      refine ls<|gy hF rfl rfl<|q1 hF rfl (e_ld hF Tryz.isAgg3 rfl ((St.ld hS).cellB (.tail _ (.head _)) rfl)) fun a hF=>?_
                      refine ls<|gy hF rfl rfl<|q1 hF rfl (e_leq hF rfl rfl) fun a hF=>?_
                      refine ls<|q1 hF rfl (e_as (v':=.bool ((decide (1≤x14.B)) && (decide (x14.B≤8)))) (e_pickT hF rfl rfl) (by rw [hb];rfl)) fun a hF=>?_
                      exact key _ _ (hF.has ⟨rfl,rfl,rfl,rfl,rfl,rfl,rfl,rfl,rfl,rfl,rfl,rfl,trivial⟩) hS
                    ·
                      intro hb key
                      replace hF:=Fr.as hF (t:=96) rfl (congrArg Value.bool hb)
                      refine ls<|gn hF rfl rfl rfl rfl fun a hF=>?_
                      refine ls<|gn hF rfl rfl rfl rfl fun a hF=>?_
                      refine ls<|gn hF rfl rfl rfl rfl fun a hF=>?_
                      refine ls<|q1 hF rfl (e_as (v':=.bool ((decide (1≤x14.B)) && (decide (x14.B≤8)))) (e_pickF hF rfl rfl) (by rw [hb];rfl)) fun a hF=>?_
                      exact key _ _ (hF.has ⟨rfl,rfl,rfl,rfl,rfl,rfl,rfl,rfl,rfl,rfl,rfl,rfl,trivial⟩) hS
                    intro a w hF hS
                    refine ls<|q1 hF rfl (e_asg hF rfl) fun a hF=>?_
                    refine re<|?_
                    refine bn<|tn<|?_
                    exact ⟨((decide (1≤x14.B)) && (decide (x14.B≤8))),hm,hF.has ⟨rfl,rfl,rfl,rfl,rfl,rfl,rfl,rfl,rfl,rfl,rfl,rfl,trivial⟩,hS⟩
                  ·
                    replace hm:=ite_f hm hb55
                    refine tn<|cfv hF rfl hb55<|wk<|?_
                    refine bn<|tn<|?_
                    exact ⟨(decide (x14.B=0)),hm,hF.has ⟨rfl,rfl,rfl,rfl,rfl,rfl,rfl,rfl,rfl,rfl,rfl,rfl,trivial⟩,hS⟩
          clear hm hF hS
          rintro a w ⟨vC2,hm,hF,hS⟩
          unfold Z4g at hm
          refine th<|midK (fun a w=>∃ (vC3:Bool),(Z4h N (Z4k N (Z4e N p1) p1 p4 p5 p6 nn2) p1 x14 vC1 vC2 vB1) vC3=some r∧Fr 193 [(1,.int .i64 p4),(2,.int .i64 p5),(3,.int .i64 p6),(4,.pointer (some ⟨b11,0,none⟩)),(9,.int .i64 vB1),(10,.pointer (some ⟨b27,0,none⟩)),(11,.func (.func 100) #[] #[.pointer (some ⟨b27,0,none⟩)]),(12,.bool vC1),(13,.bool vC2),(14,.bool vC3),(36,.slice oa7 p1.L.length cap8),(37,.int .i64 (p1.L.length:Int)),(38,.int .i64 vB1)] a∧St w0 Nil [H] [blk b11 (.cells [.int .i64 p1.Regs,.int .i64 p1.Counts,.slice oa7 p1.L.length cap8].toArray 26 (0,0)),blk b27 (.cells [.int .i64 x14.Kind,.int .i64 x14.A,.int .i64 x14.B,.slice oa19 x14.E.length cap20,.slice oa23 x14.F.length cap24,.int .i64 x14.To].toArray 85 (0,0))] w) ?_ ?_
          ·
            replace hm:=bind_some hm
            obtain ⟨r56,h57,hm⟩:=hm
            rcases bdich r56 with hb58 | hb58
            ·
              replace hm:=ite_t hm hb58
              replace hm:=bind_some hm
              obtain ⟨r59,h60,hm⟩:=hm
              rcases bdich r59 with hb61 | hb61
              ·
                replace hm:=ite_t hm hb61
                refine rg<|?_
                refine ls<|q1 hF rfl (e_move hF rfl) fun a hF=>?_
                refine ls<|k1 (vs:=[.int .u8 101]) (caps:=[.pointer (some ⟨b27,0,none⟩)]) hF rfl rfl Tryz.call100 (Z4d_c (hp_le _) (Enc.mono (St.up hS) (show Enc.rep (α:=api_Instr) H [.int .i64 x14.Kind,.int .i64 x14.A,.int .i64 x14.B,.slice oa19 x14.E.length cap20,.slice oa23 x14.F.length cap24,.int .i64 x14.To] x14 from ⟨_,_,rfl,rfl,⟨_,_,rfl,rfl,⟨_,_,rfl,rfl,⟨_,_,rfl,⟨_,_,rfl,hc21,hr22⟩,⟨_,_,rfl,⟨_,_,rfl,hc25,hr26⟩,rfl⟩⟩⟩⟩⟩)) (St.blkO hS (.tail _ (.head _))) h57) ⟨rfl,trivial⟩ rfl (fun v w a hR hF=>?_)
                obtain ⟨rfl,hk⟩:=hR
                replace hS:=hS.pass hk
                clear hk
                refine ls<|q1 hF rfl (e_as (e_move hF rfl) (congrArg Value.bool hb58)) fun a hF=>?_
                refine ls<|gy hF rfl rfl<|q1 hF rfl (e_fa hF fa85_3 rfl) fun a hF=>?_
                refine ls<|gy hF rfl rfl<|q1 hF rfl (e_ld hF Tryz.isAgg54 rfl ((St.ld hS).cellB (.tail _ (.head _)) rfl)) fun a hF=>?_
                refine ls<|gy hF rfl rfl<|q1 hF rfl (e_fa hF fa26_0 rfl) fun a hF=>?_
                refine ls<|gy hF rfl rfl<|q1 hF rfl (e_ld hF Tryz.isAgg3 rfl ((St.ld hS).cellB (.head _) rfl)) fun a hF=>?_
                refine ls<|gy hF rfl rfl<|c1 hF rfl Tryz.call65 (Z1a_c (hp_le _) hc21 (St.srH hS hr22) h60) ⟨rfl,rfl,trivial⟩ (fun v w a hR hF=>?_)
                obtain ⟨rfl,hk⟩:=hR
                replace hS:=hS.pass hk
                clear hk
                refine ls<|q1 hF rfl (e_pickT hF rfl rfl) fun a hF=>?_
                refine ls<|q1 hF rfl (e_as (e_move hF rfl) (congrArg Value.bool hb61)) fun a hF=>?_
                refine ls<|gn hF rfl rfl rfl rfl fun a hF=>?_
                refine ls<|gn hF rfl rfl rfl rfl fun a hF=>?_
                refine ls<|gn hF rfl rfl rfl rfl fun a hF=>?_
                refine ls<|gn hF rfl rfl rfl rfl fun a hF=>?_
                refine ls<|gnu hF rfl rfl rfl fun a hF=>?_
                refine ls<|gnu hF rfl rfl rfl fun a hF=>?_
                refine ls<|gnu hF rfl rfl rfl fun a hF=>?_
                refine ls<|gnu hF rfl rfl rfl fun a hF=>?_
                refine ls<|gn hF rfl rfl rfl rfl fun a hF=>?_
                refine ls<|q1 hF rfl (e_pickT hF rfl rfl) fun a hF=>?_
                refine ls<|q1 hF rfl (e_asg hF rfl) fun a hF=>?_
                refine re<|?_
                refine tn<|?_
                exact ⟨true,hm,hF.has ⟨rfl,rfl,rfl,rfl,rfl,rfl,rfl,rfl,rfl,rfl,rfl,rfl,rfl,trivial⟩,hS⟩
              ·
                replace hm:=ite_f hm hb61
                replace hm:=bind_some hm
                obtain ⟨r62,h63,hm⟩:=hm
                refine rg<|?_
                refine ls<|q1 hF rfl (e_move hF rfl) fun a hF=>?_
                refine ls<|k1 (vs:=[.int .u8 101]) (caps:=[.pointer (some ⟨b27,0,none⟩)]) hF rfl rfl Tryz.call100 (Z4d_c (hp_le _) (Enc.mono (St.up hS) (show Enc.rep (α:=api_Instr) H [.int .i64 x14.Kind,.int .i64 x14.A,.int .i64 x14.B,.slice oa19 x14.E.length cap20,.slice oa23 x14.F.length cap24,.int .i64 x14.To] x14 from ⟨_,_,rfl,rfl,⟨_,_,rfl,rfl,⟨_,_,rfl,rfl,⟨_,_,rfl,⟨_,_,rfl,hc21,hr22⟩,⟨_,_,rfl,⟨_,_,rfl,hc25,hr26⟩,rfl⟩⟩⟩⟩⟩)) (St.blkO hS (.tail _ (.head _))) h57) ⟨rfl,trivial⟩ rfl (fun v w a hR hF=>?_)
                obtain ⟨rfl,hk⟩:=hR
                replace hS:=hS.pass hk
                clear hk
                refine ls<|q1 hF rfl (e_as (e_move hF rfl) (congrArg Value.bool hb58)) fun a hF=>?_
                refine ls<|gy hF rfl rfl<|q1 hF rfl (e_fa hF fa85_3 rfl) fun a hF=>?_
                refine ls<|gy hF rfl rfl<|q1 hF rfl (e_ld hF Tryz.isAgg54 rfl ((St.ld hS).cellB (.tail _ (.head _)) rfl)) fun a hF=>?_
                refine ls<|gy hF rfl rfl<|q1 hF rfl (e_fa hF fa26_0 rfl) fun a hF=>?_
                refine ls<|gy hF rfl rfl<|q1 hF rfl (e_ld hF Tryz.isAgg3 rfl ((St.ld hS).cellB (.head _) rfl)) fun a hF=>?_
                refine ls<|gy hF rfl rfl<|c1 hF rfl Tryz.call65 (Z1a_c (hp_le _) hc21 (St.srH hS hr22) h60) ⟨rfl,rfl,trivial⟩ (fun v w a hR hF=>?_)
                obtain ⟨rfl,hk⟩:=hR
                replace hS:=hS.pass hk
                clear hk
                refine ls<|q1 hF rfl (e_pickT hF rfl rfl) fun a hF=>?_
                refine ls<|q1 hF rfl (e_as (e_move hF rfl) (congrArg Value.bool hb61)) fun a hF=>?_
                refine ls<|gy hF rfl rfl<|q1 hF rfl (e_move hF rfl) fun a hF=>?_
                refine ls<|gy hF rfl rfl<|k1 (vs:=[.int .u8 101]) (caps:=[.pointer (some ⟨b27,0,none⟩)]) hF rfl rfl Tryz.call100 (Z4d_c (hp_le _) (Enc.mono (St.up hS) (show Enc.rep (α:=api_Instr) H [.int .i64 x14.Kind,.int .i64 x14.A,.int .i64 x14.B,.slice oa19 x14.E.length cap20,.slice oa23 x14.F.length cap24,.int .i64 x14.To] x14 from ⟨_,_,rfl,rfl,⟨_,_,rfl,rfl,⟨_,_,rfl,rfl,⟨_,_,rfl,⟨_,_,rfl,hc21,hr22⟩,⟨_,_,rfl,⟨_,_,rfl,hc25,hr26⟩,rfl⟩⟩⟩⟩⟩)) (St.blkO hS (.tail _ (.head _))) h63) ⟨rfl,trivial⟩ rfl (fun v w a hR hF=>?_)
                obtain ⟨rfl,hk⟩:=hR
                replace hS:=hS.pass hk
                clear hk
                refine ls<|gy hF rfl rfl<|q1 hF rfl (e_not hF rfl) fun a hF=>?_
                refine ls<|gy hF rfl rfl<|q1 hF rfl (e_move hF rfl) fun a hF=>?_
                refine grp (N:=193) (Fk:=[(1,.int .i64 p4),(2,.int .i64 p5),(3,.int .i64 p6),(4,.pointer (some ⟨b11,0,none⟩)),(9,.int .i64 vB1),(10,.pointer (some ⟨b27,0,none⟩)),(11,.func (.func 100) #[] #[.pointer (some ⟨b27,0,none⟩)]),(12,.bool vC1),(13,.bool vC2),(36,.slice oa7 p1.L.length cap8),(37,.int .i64 (p1.L.length:Int)),(38,.int .i64 vB1),(110,.bool false),(119,.bool ((!r62) && (decide ((x14.E.length:Int)=0))))]) (b:=(!r62)) 5 hS ?_ ?_ ?_
                ·
                  intro hb key
                  replace hF:=Fr.as hF (t:=114) rfl (congrArg Value.bool hb)
                  refine ls<|gy hF rfl rfl<|q1 hF rfl (e_fa hF fa85_3 rfl) fun a hF=>?_
                  refine ls<|gy hF rfl rfl<|q1 hF rfl (e_ld hF Tryz.isAgg54 rfl ((St.ld hS).cellB (.tail _ (.head _)) rfl)) fun a hF=>?_
                  refine ls<|gy hF rfl rfl<|q1 hF rfl (e_lenL (α:=api_Op) (xs:=x14.E) hF Tryz.runUnderlying54 rfl) fun a hF=>?_
                  refine ls<|gy hF rfl rfl<|q1 hF rfl (e_eql hF rfl rfl) fun a hF=>?_
                  refine ls<|gy hF rfl rfl<|q1 hF rfl (e_as (v':=.bool ((!r62) && (decide ((x14.E.length:Int)=0)))) (e_pickT hF rfl rfl) (by rw [hb];rfl)) fun a hF=>?_
                  exact key _ _ (hF.has ⟨rfl,rfl,rfl,rfl,rfl,rfl,rfl,rfl,rfl,rfl,rfl,rfl,rfl,rfl,trivial⟩) hS
                ·
                  intro hb key
                  replace hF:=Fr.as hF (t:=114) rfl (congrArg Value.bool hb)
                  refine ls<|gn hF rfl rfl rfl rfl fun a hF=>?_
                  refine ls<|gn hF rfl rfl rfl rfl fun a hF=>?_
                  refine ls<|gn hF rfl rfl rfl rfl fun a hF=>?_
                  refine ls<|gn hF rfl rfl rfl rfl fun a hF=>?_
                  refine ls<|gy hF rfl rfl<|q1 hF rfl (e_as (v':=.bool ((!r62) && (decide ((x14.E.length:Int)=0)))) (e_pickF hF rfl rfl) (by rw [hb];rfl)) fun a hF=>?_
                  exact key _ _ (hF.has ⟨rfl,rfl,rfl,rfl,rfl,rfl,rfl,rfl,rfl,rfl,rfl,rfl,rfl,rfl,trivial⟩) hS
                intro a w hF hS
                refine ls<|q1 hF rfl (e_pickF hF rfl rfl) fun a hF=>?_
                refine ls<|q1 hF rfl (e_asg hF rfl) fun a hF=>?_
                refine re<|?_
                refine tn<|?_
                exact ⟨((!r62) && (decide ((x14.E.length:Int)=0))),hm,hF.has ⟨rfl,rfl,rfl,rfl,rfl,rfl,rfl,rfl,rfl,rfl,rfl,rfl,rfl,trivial⟩,hS⟩
            ·
              replace hm:=ite_f hm hb58
              replace hm:=bind_some hm
              obtain ⟨r64,h65,hm⟩:=hm
              refine rg<|?_
              refine ls<|q1 hF rfl (e_move hF rfl) fun a hF=>?_
              refine ls<|k1 (vs:=[.int .u8 101]) (caps:=[.pointer (some ⟨b27,0,none⟩)]) hF rfl rfl Tryz.call100 (Z4d_c (hp_le _) (Enc.mono (St.up hS) (show Enc.rep (α:=api_Instr) H [.int .i64 x14.Kind,.int .i64 x14.A,.int .i64 x14.B,.slice oa19 x14.E.length cap20,.slice oa23 x14.F.length cap24,.int .i64 x14.To] x14 from ⟨_,_,rfl,rfl,⟨_,_,rfl,rfl,⟨_,_,rfl,rfl,⟨_,_,rfl,⟨_,_,rfl,hc21,hr22⟩,⟨_,_,rfl,⟨_,_,rfl,hc25,hr26⟩,rfl⟩⟩⟩⟩⟩)) (St.blkO hS (.tail _ (.head _))) h57) ⟨rfl,trivial⟩ rfl (fun v w a hR hF=>?_)
              obtain ⟨rfl,hk⟩:=hR
              replace hS:=hS.pass hk
              clear hk
              refine ls<|q1 hF rfl (e_as (e_move hF rfl) (congrArg Value.bool hb58)) fun a hF=>?_
              refine ls<|gn hF rfl rfl rfl rfl fun a hF=>?_
              refine ls<|gn hF rfl rfl rfl rfl fun a hF=>?_
              refine ls<|gn hF rfl rfl rfl rfl fun a hF=>?_
              refine ls<|gn hF rfl rfl rfl rfl fun a hF=>?_
              refine ls<|gn hF rfl rfl rfl rfl fun a hF=>?_
              refine ls<|q1 hF rfl (e_pickF hF rfl rfl) fun a hF=>?_
              refine ls<|q1 hF rfl (e_move hF rfl) fun a hF=>?_
              refine ls<|gy hF rfl rfl<|q1 hF rfl (e_move hF rfl) fun a hF=>?_
              refine ls<|gy hF rfl rfl<|k1 (vs:=[.int .u8 101]) (caps:=[.pointer (some ⟨b27,0,none⟩)]) hF rfl rfl Tryz.call100 (Z4d_c (hp_le _) (Enc.mono (St.up hS) (show Enc.rep (α:=api_Instr) H [.int .i64 x14.Kind,.int .i64 x14.A,.int .i64 x14.B,.slice oa19 x14.E.length cap20,.slice oa23 x14.F.length cap24,.int .i64 x14.To] x14 from ⟨_,_,rfl,rfl,⟨_,_,rfl,rfl,⟨_,_,rfl,rfl,⟨_,_,rfl,⟨_,_,rfl,hc21,hr22⟩,⟨_,_,rfl,⟨_,_,rfl,hc25,hr26⟩,rfl⟩⟩⟩⟩⟩)) (St.blkO hS (.tail _ (.head _))) h65) ⟨rfl,trivial⟩ rfl (fun v w a hR hF=>?_)
              obtain ⟨rfl,hk⟩:=hR
              replace hS:=hS.pass hk
              clear hk
              refine ls<|gy hF rfl rfl<|q1 hF rfl (e_not hF rfl) fun a hF=>?_
              refine ls<|gy hF rfl rfl<|q1 hF rfl (e_move hF rfl) fun a hF=>?_
              refine grp (N:=193) (Fk:=[(1,.int .i64 p4),(2,.int .i64 p5),(3,.int .i64 p6),(4,.pointer (some ⟨b11,0,none⟩)),(9,.int .i64 vB1),(10,.pointer (some ⟨b27,0,none⟩)),(11,.func (.func 100) #[] #[.pointer (some ⟨b27,0,none⟩)]),(12,.bool vC1),(13,.bool vC2),(36,.slice oa7 p1.L.length cap8),(37,.int .i64 (p1.L.length:Int)),(38,.int .i64 vB1),(110,.bool false),(119,.bool ((!r64) && (decide ((x14.E.length:Int)=0))))]) (b:=(!r64)) 5 hS ?_ ?_ ?_
              ·
                intro hb key
                replace hF:=Fr.as hF (t:=114) rfl (congrArg Value.bool hb)
                refine ls<|gy hF rfl rfl<|q1 hF rfl (e_fa hF fa85_3 rfl) fun a hF=>?_
                refine ls<|gy hF rfl rfl<|q1 hF rfl (e_ld hF Tryz.isAgg54 rfl ((St.ld hS).cellB (.tail _ (.head _)) rfl)) fun a hF=>?_
                refine ls<|gy hF rfl rfl<|q1 hF rfl (e_lenL (α:=api_Op) (xs:=x14.E) hF Tryz.runUnderlying54 rfl) fun a hF=>?_
                refine ls<|gy hF rfl rfl<|q1 hF rfl (e_eql hF rfl rfl) fun a hF=>?_
                refine ls<|gy hF rfl rfl<|q1 hF rfl (e_as (v':=.bool ((!r64) && (decide ((x14.E.length:Int)=0)))) (e_pickT hF rfl rfl) (by rw [hb];rfl)) fun a hF=>?_
                exact key _ _ (hF.has ⟨rfl,rfl,rfl,rfl,rfl,rfl,rfl,rfl,rfl,rfl,rfl,rfl,rfl,rfl,trivial⟩) hS
              ·
                intro hb key
                replace hF:=Fr.as hF (t:=114) rfl (congrArg Value.bool hb)
                refine ls<|gn hF rfl rfl rfl rfl fun a hF=>?_
                refine ls<|gn hF rfl rfl rfl rfl fun a hF=>?_
                refine ls<|gn hF rfl rfl rfl rfl fun a hF=>?_
                refine ls<|gn hF rfl rfl rfl rfl fun a hF=>?_
                refine ls<|gy hF rfl rfl<|q1 hF rfl (e_as (v':=.bool ((!r64) && (decide ((x14.E.length:Int)=0)))) (e_pickF hF rfl rfl) (by rw [hb];rfl)) fun a hF=>?_
                exact key _ _ (hF.has ⟨rfl,rfl,rfl,rfl,rfl,rfl,rfl,rfl,rfl,rfl,rfl,rfl,rfl,rfl,trivial⟩) hS
              intro a w hF hS
              refine ls<|q1 hF rfl (e_pickF hF rfl rfl) fun a hF=>?_
              refine ls<|q1 hF rfl (e_asg hF rfl) fun a hF=>?_
              refine re<|?_
              refine tn<|?_
              exact ⟨((!r64) && (decide ((x14.E.length:Int)=0))),hm,hF.has ⟨rfl,rfl,rfl,rfl,rfl,rfl,rfl,rfl,rfl,rfl,rfl,rfl,rfl,trivial⟩,hS⟩
          clear hm hF hS
          rintro a w ⟨vC3,hm,hF,hS⟩
          unfold Z4h at hm
          refine th<|midK (fun a w=>∃ (vC4:Bool),(Z4i N (Z4k N (Z4e N p1) p1 p4 p5 p6 nn2) p1 x14 vC1 vC2 vC3 vB1) vC4=some r∧Fr 193 [(1,.int .i64 p4),(2,.int .i64 p5),(3,.int .i64 p6),(4,.pointer (some ⟨b11,0,none⟩)),(9,.int .i64 vB1),(10,.pointer (some ⟨b27,0,none⟩)),(11,.func (.func 100) #[] #[.pointer (some ⟨b27,0,none⟩)]),(12,.bool vC1),(13,.bool vC2),(14,.bool vC3),(15,.bool vC4),(36,.slice oa7 p1.L.length cap8),(37,.int .i64 (p1.L.length:Int)),(38,.int .i64 vB1)] a∧St w0 Nil [H] [blk b11 (.cells [.int .i64 p1.Regs,.int .i64 p1.Counts,.slice oa7 p1.L.length cap8].toArray 26 (0,0)),blk b27 (.cells [.int .i64 x14.Kind,.int .i64 x14.A,.int .i64 x14.B,.slice oa19 x14.E.length cap20,.slice oa23 x14.F.length cap24,.int .i64 x14.To].toArray 85 (0,0))] w) ?_ ?_
          ·
            replace hm:=bind_some hm
            obtain ⟨r66,h67,hm⟩:=hm
            rcases bdich r66 with hb68 | hb68
            ·
              replace hm:=ite_t hm hb68
              replace hm:=bind_some hm
              obtain ⟨r69,h70,hm⟩:=hm
              rcases bdich r69 with hb71 | hb71
              ·
                replace hm:=ite_t hm hb71
                refine rg<|?_
                refine ls<|q1 hF rfl (e_move hF rfl) fun a hF=>?_
                refine ls<|k1 (vs:=[.int .u8 102]) (caps:=[.pointer (some ⟨b27,0,none⟩)]) hF rfl rfl Tryz.call100 (Z4d_c (hp_le _) (Enc.mono (St.up hS) (show Enc.rep (α:=api_Instr) H [.int .i64 x14.Kind,.int .i64 x14.A,.int .i64 x14.B,.slice oa19 x14.E.length cap20,.slice oa23 x14.F.length cap24,.int .i64 x14.To] x14 from ⟨_,_,rfl,rfl,⟨_,_,rfl,rfl,⟨_,_,rfl,rfl,⟨_,_,rfl,⟨_,_,rfl,hc21,hr22⟩,⟨_,_,rfl,⟨_,_,rfl,hc25,hr26⟩,rfl⟩⟩⟩⟩⟩)) (St.blkO hS (.tail _ (.head _))) h67) ⟨rfl,trivial⟩ rfl (fun v w a hR hF=>?_)
                obtain ⟨rfl,hk⟩:=hR
                replace hS:=hS.pass hk
                clear hk
                refine ls<|q1 hF rfl (e_as (e_move hF rfl) (congrArg Value.bool hb68)) fun a hF=>?_
                refine ls<|gy hF rfl rfl<|q1 hF rfl (e_fa hF fa85_4 rfl) fun a hF=>?_
                refine ls<|gy hF rfl rfl<|q1 hF rfl (e_ld hF Tryz.isAgg54 rfl ((St.ld hS).cellB (.tail _ (.head _)) rfl)) fun a hF=>?_
                refine ls<|gy hF rfl rfl<|q1 hF rfl (e_fa hF fa26_0 rfl) fun a hF=>?_
                refine ls<|gy hF rfl rfl<|q1 hF rfl (e_ld hF Tryz.isAgg3 rfl ((St.ld hS).cellB (.head _) rfl)) fun a hF=>?_
                refine ls<|gy hF rfl rfl<|c1 hF rfl Tryz.call65 (Z1a_c (hp_le _) hc25 (St.srH hS hr26) h70) ⟨rfl,rfl,trivial⟩ (fun v w a hR hF=>?_)
                obtain ⟨rfl,hk⟩:=hR
                replace hS:=hS.pass hk
                clear hk
                refine ls<|q1 hF rfl (e_pickT hF rfl rfl) fun a hF=>?_
                refine ls<|q1 hF rfl (e_as (e_move hF rfl) (congrArg Value.bool hb71)) fun a hF=>?_
                refine ls<|gn hF rfl rfl rfl rfl fun a hF=>?_
                refine ls<|gn hF rfl rfl rfl rfl fun a hF=>?_
                refine ls<|gn hF rfl rfl rfl rfl fun a hF=>?_
                refine ls<|gn hF rfl rfl rfl rfl fun a hF=>?_
                refine ls<|gnu hF rfl rfl rfl fun a hF=>?_
                refine ls<|gnu hF rfl rfl rfl fun a hF=>?_
                refine ls<|gnu hF rfl rfl rfl fun a hF=>?_
                refine ls<|gnu hF rfl rfl rfl fun a hF=>?_
                refine ls<|gn hF rfl rfl rfl rfl fun a hF=>?_
                refine ls<|q1 hF rfl (e_pickT hF rfl rfl) fun a hF=>?_
                refine ls<|q1 hF rfl (e_asg hF rfl) fun a hF=>?_
                refine re<|?_
                refine tn<|?_
                exact ⟨true,hm,hF.has ⟨rfl,rfl,rfl,rfl,rfl,rfl,rfl,rfl,rfl,rfl,rfl,rfl,rfl,rfl,trivial⟩,hS⟩
              ·
                replace hm:=ite_f hm hb71
                replace hm:=bind_some hm
                obtain ⟨r72,h73,hm⟩:=hm
                refine rg<|?_
                refine ls<|q1 hF rfl (e_move hF rfl) fun a hF=>?_
                refine ls<|k1 (vs:=[.int .u8 102]) (caps:=[.pointer (some ⟨b27,0,none⟩)]) hF rfl rfl Tryz.call100 (Z4d_c (hp_le _) (Enc.mono (St.up hS) (show Enc.rep (α:=api_Instr) H [.int .i64 x14.Kind,.int .i64 x14.A,.int .i64 x14.B,.slice oa19 x14.E.length cap20,.slice oa23 x14.F.length cap24,.int .i64 x14.To] x14 from ⟨_,_,rfl,rfl,⟨_,_,rfl,rfl,⟨_,_,rfl,rfl,⟨_,_,rfl,⟨_,_,rfl,hc21,hr22⟩,⟨_,_,rfl,⟨_,_,rfl,hc25,hr26⟩,rfl⟩⟩⟩⟩⟩)) (St.blkO hS (.tail _ (.head _))) h67) ⟨rfl,trivial⟩ rfl (fun v w a hR hF=>?_)
                obtain ⟨rfl,hk⟩:=hR
                replace hS:=hS.pass hk
                clear hk
                refine ls<|q1 hF rfl (e_as (e_move hF rfl) (congrArg Value.bool hb68)) fun a hF=>?_
                refine ls<|gy hF rfl rfl<|q1 hF rfl (e_fa hF fa85_4 rfl) fun a hF=>?_
                refine ls<|gy hF rfl rfl<|q1 hF rfl (e_ld hF Tryz.isAgg54 rfl ((St.ld hS).cellB (.tail _ (.head _)) rfl)) fun a hF=>?_
                refine ls<|gy hF rfl rfl<|q1 hF rfl (e_fa hF fa26_0 rfl) fun a hF=>?_
                refine ls<|gy hF rfl rfl<|q1 hF rfl (e_ld hF Tryz.isAgg3 rfl ((St.ld hS).cellB (.head _) rfl)) fun a hF=>?_
                refine ls<|gy hF rfl rfl<|c1 hF rfl Tryz.call65 (Z1a_c (hp_le _) hc25 (St.srH hS hr26) h70) ⟨rfl,rfl,trivial⟩ (fun v w a hR hF=>?_)
                obtain ⟨rfl,hk⟩:=hR
                replace hS:=hS.pass hk
                clear hk
                refine ls<|q1 hF rfl (e_pickT hF rfl rfl) fun a hF=>?_
                refine ls<|q1 hF rfl (e_as (e_move hF rfl) (congrArg Value.bool hb71)) fun a hF=>?_
                refine ls<|gy hF rfl rfl<|q1 hF rfl (e_move hF rfl) fun a hF=>?_
                refine ls<|gy hF rfl rfl<|k1 (vs:=[.int .u8 102]) (caps:=[.pointer (some ⟨b27,0,none⟩)]) hF rfl rfl Tryz.call100 (Z4d_c (hp_le _) (Enc.mono (St.up hS) (show Enc.rep (α:=api_Instr) H [.int .i64 x14.Kind,.int .i64 x14.A,.int .i64 x14.B,.slice oa19 x14.E.length cap20,.slice oa23 x14.F.length cap24,.int .i64 x14.To] x14 from ⟨_,_,rfl,rfl,⟨_,_,rfl,rfl,⟨_,_,rfl,rfl,⟨_,_,rfl,⟨_,_,rfl,hc21,hr22⟩,⟨_,_,rfl,⟨_,_,rfl,hc25,hr26⟩,rfl⟩⟩⟩⟩⟩)) (St.blkO hS (.tail _ (.head _))) h73) ⟨rfl,trivial⟩ rfl (fun v w a hR hF=>?_)
                obtain ⟨rfl,hk⟩:=hR
                replace hS:=hS.pass hk
                clear hk
                refine ls<|gy hF rfl rfl<|q1 hF rfl (e_not hF rfl) fun a hF=>?_
                refine ls<|gy hF rfl rfl<|q1 hF rfl (e_move hF rfl) fun a hF=>?_
                refine grp (N:=193) (Fk:=[(1,.int .i64 p4),(2,.int .i64 p5),(3,.int .i64 p6),(4,.pointer (some ⟨b11,0,none⟩)),(9,.int .i64 vB1),(10,.pointer (some ⟨b27,0,none⟩)),(11,.func (.func 100) #[] #[.pointer (some ⟨b27,0,none⟩)]),(12,.bool vC1),(13,.bool vC2),(14,.bool vC3),(36,.slice oa7 p1.L.length cap8),(37,.int .i64 (p1.L.length:Int)),(38,.int .i64 vB1),(130,.bool false),(139,.bool ((!r72) && (decide ((x14.F.length:Int)=0))))]) (b:=(!r72)) 5 hS ?_ ?_ ?_
                ·
                  intro hb key
                  replace hF:=Fr.as hF (t:=134) rfl (congrArg Value.bool hb)
                  refine ls<|gy hF rfl rfl<|q1 hF rfl (e_fa hF fa85_4 rfl) fun a hF=>?_
                  refine ls<|gy hF rfl rfl<|q1 hF rfl (e_ld hF Tryz.isAgg54 rfl ((St.ld hS).cellB (.tail _ (.head _)) rfl)) fun a hF=>?_
                  refine ls<|gy hF rfl rfl<|q1 hF rfl (e_lenL (α:=api_Op) (xs:=x14.F) hF Tryz.runUnderlying54 rfl) fun a hF=>?_
                  refine ls<|gy hF rfl rfl<|q1 hF rfl (e_eql hF rfl rfl) fun a hF=>?_
                  refine ls<|gy hF rfl rfl<|q1 hF rfl (e_as (v':=.bool ((!r72) && (decide ((x14.F.length:Int)=0)))) (e_pickT hF rfl rfl) (by rw [hb];rfl)) fun a hF=>?_
                  exact key _ _ (hF.has ⟨rfl,rfl,rfl,rfl,rfl,rfl,rfl,rfl,rfl,rfl,rfl,rfl,rfl,rfl,rfl,trivial⟩) hS
                ·
                  intro hb key
                  replace hF:=Fr.as hF (t:=134) rfl (congrArg Value.bool hb)
                  refine ls<|gn hF rfl rfl rfl rfl fun a hF=>?_
                  refine ls<|gn hF rfl rfl rfl rfl fun a hF=>?_
                  refine ls<|gn hF rfl rfl rfl rfl fun a hF=>?_
                  refine ls<|gn hF rfl rfl rfl rfl fun a hF=>?_
                  refine ls<|gy hF rfl rfl<|q1 hF rfl (e_as (v':=.bool ((!r72) && (decide ((x14.F.length:Int)=0)))) (e_pickF hF rfl rfl) (by rw [hb];rfl)) fun a hF=>?_
                  exact key _ _ (hF.has ⟨rfl,rfl,rfl,rfl,rfl,rfl,rfl,rfl,rfl,rfl,rfl,rfl,rfl,rfl,rfl,trivial⟩) hS
                intro a w hF hS
                refine ls<|q1 hF rfl (e_pickF hF rfl rfl) fun a hF=>?_
                refine ls<|q1 hF rfl (e_asg hF rfl) fun a hF=>?_
                refine re<|?_
                refine tn<|?_
                exact ⟨((!r72) && (decide ((x14.F.length:Int)=0))),hm,hF.has ⟨rfl,rfl,rfl,rfl,rfl,rfl,rfl,rfl,rfl,rfl,rfl,rfl,rfl,rfl,trivial⟩,hS⟩
            ·
              replace hm:=ite_f hm hb68
              replace hm:=bind_some hm
              obtain ⟨r74,h75,hm⟩:=hm
              refine rg<|?_
              refine ls<|q1 hF rfl (e_move hF rfl) fun a hF=>?_
              refine ls<|k1 (vs:=[.int .u8 102]) (caps:=[.pointer (some ⟨b27,0,none⟩)]) hF rfl rfl Tryz.call100 (Z4d_c (hp_le _) (Enc.mono (St.up hS) (show Enc.rep (α:=api_Instr) H [.int .i64 x14.Kind,.int .i64 x14.A,.int .i64 x14.B,.slice oa19 x14.E.length cap20,.slice oa23 x14.F.length cap24,.int .i64 x14.To] x14 from ⟨_,_,rfl,rfl,⟨_,_,rfl,rfl,⟨_,_,rfl,rfl,⟨_,_,rfl,⟨_,_,rfl,hc21,hr22⟩,⟨_,_,rfl,⟨_,_,rfl,hc25,hr26⟩,rfl⟩⟩⟩⟩⟩)) (St.blkO hS (.tail _ (.head _))) h67) ⟨rfl,trivial⟩ rfl (fun v w a hR hF=>?_)
              obtain ⟨rfl,hk⟩:=hR
              replace hS:=hS.pass hk
              clear hk
              refine ls<|q1 hF rfl (e_as (e_move hF rfl) (congrArg Value.bool hb68)) fun a hF=>?_
              refine ls<|gn hF rfl rfl rfl rfl fun a hF=>?_
              refine ls<|gn hF rfl rfl rfl rfl fun a hF=>?_
              refine ls<|gn hF rfl rfl rfl rfl fun a hF=>?_
              refine ls<|gn hF rfl rfl rfl rfl fun a hF=>?_
              refine ls<|gn hF rfl rfl rfl rfl fun a hF=>?_
              refine ls<|q1 hF rfl (e_pickF hF rfl rfl) fun a hF=>?_
              refine ls<|q1 hF rfl (e_move hF rfl) fun a hF=>?_
              refine ls<|gy hF rfl rfl<|q1 hF rfl (e_move hF rfl) fun a hF=>?_
              refine ls<|gy hF rfl rfl<|k1 (vs:=[.int .u8 102]) (caps:=[.pointer (some ⟨b27,0,none⟩)]) hF rfl rfl Tryz.call100 (Z4d_c (hp_le _) (Enc.mono (St.up hS) (show Enc.rep (α:=api_Instr) H [.int .i64 x14.Kind,.int .i64 x14.A,.int .i64 x14.B,.slice oa19 x14.E.length cap20,.slice oa23 x14.F.length cap24,.int .i64 x14.To] x14 from ⟨_,_,rfl,rfl,⟨_,_,rfl,rfl,⟨_,_,rfl,rfl,⟨_,_,rfl,⟨_,_,rfl,hc21,hr22⟩,⟨_,_,rfl,⟨_,_,rfl,hc25,hr26⟩,rfl⟩⟩⟩⟩⟩)) (St.blkO hS (.tail _ (.head _))) h75) ⟨rfl,trivial⟩ rfl (fun v w a hR hF=>?_)
              obtain ⟨rfl,hk⟩:=hR
              replace hS:=hS.pass hk
              clear hk
              refine ls<|gy hF rfl rfl<|q1 hF rfl (e_not hF rfl) fun a hF=>?_
              refine ls<|gy hF rfl rfl<|q1 hF rfl (e_move hF rfl) fun a hF=>?_
              refine grp (N:=193) (Fk:=[(1,.int .i64 p4),(2,.int .i64 p5),(3,.int .i64 p6),(4,.pointer (some ⟨b11,0,none⟩)),(9,.int .i64 vB1),(10,.pointer (some ⟨b27,0,none⟩)),(11,.func (.func 100) #[] #[.pointer (some ⟨b27,0,none⟩)]),(12,.bool vC1),(13,.bool vC2),(14,.bool vC3),(36,.slice oa7 p1.L.length cap8),(37,.int .i64 (p1.L.length:Int)),(38,.int .i64 vB1),(130,.bool false),(139,.bool ((!r74) && (decide ((x14.F.length:Int)=0))))]) (b:=(!r74)) 5 hS ?_ ?_ ?_
              ·
                intro hb key
                replace hF:=Fr.as hF (t:=134) rfl (congrArg Value.bool hb)
                refine ls<|gy hF rfl rfl<|q1 hF rfl (e_fa hF fa85_4 rfl) fun a hF=>?_
                refine ls<|gy hF rfl rfl<|q1 hF rfl (e_ld hF Tryz.isAgg54 rfl ((St.ld hS).cellB (.tail _ (.head _)) rfl)) fun a hF=>?_
                refine ls<|gy hF rfl rfl<|q1 hF rfl (e_lenL (α:=api_Op) (xs:=x14.F) hF Tryz.runUnderlying54 rfl) fun a hF=>?_
                refine ls<|gy hF rfl rfl<|q1 hF rfl (e_eql hF rfl rfl) fun a hF=>?_
                refine ls<|gy hF rfl rfl<|q1 hF rfl (e_as (v':=.bool ((!r74) && (decide ((x14.F.length:Int)=0)))) (e_pickT hF rfl rfl) (by rw [hb];rfl)) fun a hF=>?_
                exact key _ _ (hF.has ⟨rfl,rfl,rfl,rfl,rfl,rfl,rfl,rfl,rfl,rfl,rfl,rfl,rfl,rfl,rfl,trivial⟩) hS
              ·
                intro hb key
                replace hF:=Fr.as hF (t:=134) rfl (congrArg Value.bool hb)
                refine ls<|gn hF rfl rfl rfl rfl fun a hF=>?_
                refine ls<|gn hF rfl rfl rfl rfl fun a hF=>?_
                refine ls<|gn hF rfl rfl rfl rfl fun a hF=>?_
                refine ls<|gn hF rfl rfl rfl rfl fun a hF=>?_
                refine ls<|gy hF rfl rfl<|q1 hF rfl (e_as (v':=.bool ((!r74) && (decide ((x14.F.length:Int)=0)))) (e_pickF hF rfl rfl) (by rw [hb];rfl)) fun a hF=>?_
                exact key _ _ (hF.has ⟨rfl,rfl,rfl,rfl,rfl,rfl,rfl,rfl,rfl,rfl,rfl,rfl,rfl,rfl,rfl,trivial⟩) hS
              intro a w hF hS
              refine ls<|q1 hF rfl (e_pickF hF rfl rfl) fun a hF=>?_
              refine ls<|q1 hF rfl (e_asg hF rfl) fun a hF=>?_
              refine re<|?_
              refine tn<|?_
              exact ⟨((!r74) && (decide ((x14.F.length:Int)=0))),hm,hF.has ⟨rfl,rfl,rfl,rfl,rfl,rfl,rfl,rfl,rfl,rfl,rfl,rfl,rfl,rfl,trivial⟩,hS⟩
          clear hm hF hS
          rintro a w ⟨vC4,hm,hF,hS⟩
          unfold Z4i at hm
          refine th<|?_
          refine rg<|?_
          refine ls<|q1 hF rfl (e_fa hF fa85_5 rfl) fun a hF=>?_
          refine ls<|q1 hF rfl (e_ld hF Tryz.isAgg3 rfl ((St.ld hS).cellB (.tail _ (.head _)) rfl)) fun a hF=>?_
          refine ls<|q1 hF rfl (e_eql hF rfl rfl) fun a hF=>?_
          refine ls<|q1 hF rfl (e_asg hF rfl) fun a hF=>?_
          refine re<|?_
          refine tn<|th<|midK (fun a w=>∃ (vC5:Bool),(Z4j (Z4k N (Z4e N p1) p1 p4 p5 p6 nn2) vC1 vC2 vC3 vC4 vB1) vC5=some r∧Fr 193 [(1,.int .i64 p4),(2,.int .i64 p5),(3,.int .i64 p6),(4,.pointer (some ⟨b11,0,none⟩)),(12,.bool vC1),(13,.bool vC2),(14,.bool vC3),(15,.bool vC4),(16,.bool vC5),(36,.slice oa7 p1.L.length cap8),(37,.int .i64 (p1.L.length:Int)),(38,.int .i64 vB1)] a∧St w0 Nil [H] [blk b11 (.cells [.int .i64 p1.Regs,.int .i64 p1.Counts,.slice oa7 p1.L.length cap8].toArray 26 (0,0))] w) ?_ ?_
          ·
            refine wb<|th<|?_
            replace hm:=bind_some hm
            obtain ⟨r76,h77,hm⟩:=hm
            refine rg<|?_
            refine ls<|q1 hF rfl (e_move hF rfl) fun a hF=>?_
            refine ls<|k1 (vs:=[.int .u8 116]) (caps:=[.pointer (some ⟨b27,0,none⟩)]) hF rfl rfl Tryz.call100 (Z4d_c (hp_le _) (Enc.mono (St.up hS) (show Enc.rep (α:=api_Instr) H [.int .i64 x14.Kind,.int .i64 x14.A,.int .i64 x14.B,.slice oa19 x14.E.length cap20,.slice oa23 x14.F.length cap24,.int .i64 x14.To] x14 from ⟨_,_,rfl,rfl,⟨_,_,rfl,rfl,⟨_,_,rfl,rfl,⟨_,_,rfl,⟨_,_,rfl,hc21,hr22⟩,⟨_,_,rfl,⟨_,_,rfl,hc25,hr26⟩,rfl⟩⟩⟩⟩⟩)) (St.blkO hS (.tail _ (.head _))) h77) ⟨rfl,trivial⟩ rfl (fun v w a hR hF=>?_)
            obtain ⟨rfl,hk⟩:=hR
            replace hS:=hS.pass hk
            clear hk
            refine ls<|q1 hF rfl (e_move hF rfl) fun a hF=>?_
            refine grp (N:=193) (Fk:=[(1,.int .i64 p4),(2,.int .i64 p5),(3,.int .i64 p6),(4,.pointer (some ⟨b11,0,none⟩)),(9,.int .i64 vB1),(10,.pointer (some ⟨b27,0,none⟩)),(11,.func (.func 100) #[] #[.pointer (some ⟨b27,0,none⟩)]),(12,.bool vC1),(13,.bool vC2),(14,.bool vC3),(15,.bool vC4),(16,.bool (decide (x14.To=0))),(36,.slice oa7 p1.L.length cap8),(37,.int .i64 (p1.L.length:Int)),(38,.int .i64 vB1),(151,.bool (r76 && (decide (x14.Kind=14))))]) (b:=r76) 4 hS ?_ ?_ ?_
            ·
              intro hb key
              replace hF:=Fr.as hF (t:=147) rfl (congrArg Value.bool hb)
              refine ls<|gy hF rfl rfl<|q1 hF rfl (e_fa hF fa85_0 rfl) fun a hF=>?_
              refine ls<|gy hF rfl rfl<|q1 hF rfl (e_ld hF Tryz.isAgg3 rfl ((St.ld hS).cellB (.tail _ (.head _)) rfl)) fun a hF=>?_
              refine ls<|gy hF rfl rfl<|q1 hF rfl (e_eql hF rfl rfl) fun a hF=>?_
              refine ls<|q1 hF rfl (e_as (v':=.bool (r76 && (decide (x14.Kind=14)))) (e_pickT hF rfl rfl) (by rw [hb];rfl)) fun a hF=>?_
              exact key _ _ (hF.has ⟨rfl,rfl,rfl,rfl,rfl,rfl,rfl,rfl,rfl,rfl,rfl,rfl,rfl,rfl,rfl,rfl,trivial⟩) hS
            ·
              intro hb key
              replace hF:=Fr.as hF (t:=147) rfl (congrArg Value.bool hb)
              refine ls<|gn hF rfl rfl rfl rfl fun a hF=>?_
              refine ls<|gn hF rfl rfl rfl rfl fun a hF=>?_
              refine ls<|gn hF rfl rfl rfl rfl fun a hF=>?_
              refine ls<|q1 hF rfl (e_as (v':=.bool (r76 && (decide (x14.Kind=14)))) (e_pickF hF rfl rfl) (by rw [hb];rfl)) fun a hF=>?_
              exact key _ _ (hF.has ⟨rfl,rfl,rfl,rfl,rfl,rfl,rfl,rfl,rfl,rfl,rfl,rfl,rfl,rfl,rfl,rfl,trivial⟩) hS
            intro a w hF hS
            refine ls<|q1 hF rfl (e_asg hF rfl) fun a hF=>?_
            refine re<|?_
            rcases bdich (r76 && (decide (x14.Kind=14))) with hb78 | hb78
            ·
              replace hm:=ite_t hm hb78
              refine tn<|ctv hF rfl hb78<|?_
              replace hm:=bind_some hm
              obtain ⟨r79,h80,hm⟩:=hm
              refine rg<|?_
              refine ls<|q1 hF rfl (e_fa hF fa26_2 rfl) fun a hF=>?_
              refine ls<|q1 hF rfl (e_ld hF Tryz.isAgg24 rfl ((St.ld hS).cellB (.head _) rfl)) fun a hF=>?_
              refine ls<|q1 hF rfl (e_move hF rfl) fun a hF=>?_
              refine ls<|c1 hF rfl Tryz.call104 (Z4s_c (hp_le _) hc9 (St.srH hS hr10) h80) ⟨rfl,rfl,trivial⟩ (fun v w a hR hF=>?_)
              obtain ⟨rfl,hk⟩:=hR
              replace hS:=hS.pass hk
              clear hk
              refine ls<|q1 hF rfl (e_asg hF rfl) fun a hF=>?_
              refine re<|?_
              refine bn<|tn<|?_
              replace hS:=hS.pickL (.cons .head .nil)
              exact ⟨r79,hm,hF.has ⟨rfl,rfl,rfl,rfl,rfl,rfl,rfl,rfl,rfl,rfl,rfl,rfl,trivial⟩,hS⟩
            ·
              replace hm:=ite_f hm hb78
              refine tn<|cfv hF rfl hb78<|th<|?_
              replace hm:=bind_some hm
              obtain ⟨r81,h82,hm⟩:=hm
              refine rg<|?_
              refine ls<|q1 hF rfl (e_move hF rfl) fun a hF=>?_
              refine ls<|k1 (vs:=[.int .u8 116]) (caps:=[.pointer (some ⟨b27,0,none⟩)]) hF rfl rfl Tryz.call100 (Z4d_c (hp_le _) (Enc.mono (St.up hS) (show Enc.rep (α:=api_Instr) H [.int .i64 x14.Kind,.int .i64 x14.A,.int .i64 x14.B,.slice oa19 x14.E.length cap20,.slice oa23 x14.F.length cap24,.int .i64 x14.To] x14 from ⟨_,_,rfl,rfl,⟨_,_,rfl,rfl,⟨_,_,rfl,rfl,⟨_,_,rfl,⟨_,_,rfl,hc21,hr22⟩,⟨_,_,rfl,⟨_,_,rfl,hc25,hr26⟩,rfl⟩⟩⟩⟩⟩)) (St.blkO hS (.tail _ (.head _))) h82) ⟨rfl,trivial⟩ rfl (fun v w a hR hF=>?_)
              obtain ⟨rfl,hk⟩:=hR
              replace hS:=hS.pass hk
              clear hk
              refine ls<|q1 hF rfl (e_asg hF rfl) fun a hF=>?_
              refine re<|?_
              rcases bdich r81 with hb83 | hb83
              ·
                replace hm:=ite_t hm hb83
                refine tn<|ctv hF rfl hb83<|?_
                refine rg<|?_
                refine ls<|q1 hF rfl (e_fa hF fa85_5 rfl) fun a hF=>?_
                refine ls<|q1 hF rfl (e_ld hF Tryz.isAgg3 rfl ((St.ld hS).cellB (.tail _ (.head _)) rfl)) fun a hF=>?_
                refine ls<|q1 hF rfl (e_move hF rfl) fun a hF=>?_
                refine ls<|q1 hF rfl (e_gtr hF rfl rfl) fun a hF=>?_
                refine ls<|q1 hF rfl (e_move hF rfl) fun a hF=>?_
                refine grp (N:=193) (Fk:=[(1,.int .i64 p4),(2,.int .i64 p5),(3,.int .i64 p6),(4,.pointer (some ⟨b11,0,none⟩)),(12,.bool vC1),(13,.bool vC2),(14,.bool vC3),(15,.bool vC4),(36,.slice oa7 p1.L.length cap8),(37,.int .i64 (p1.L.length:Int)),(38,.int .i64 vB1),(170,.bool ((decide (vB1 < x14.To)) && (decide (x14.To≤(p1.L.length:Int)))))]) (b:=(decide (vB1 < x14.To))) 7 hS ?_ ?_ ?_
                ·
                  intro hb key
                  replace hF:=Fr.as hF (t:=163) rfl (congrArg Value.bool hb)
                  refine ls<|gy hF rfl rfl<|q1 hF rfl (e_fa hF fa85_5 rfl) fun a hF=>?_
                  refine ls<|gy hF rfl rfl<|q1 hF rfl (e_ld hF Tryz.isAgg3 rfl ((St.ld hS).cellB (.tail _ (.head _)) rfl)) fun a hF=>?_
                  refine ls<|gy hF rfl rfl<|q1 hF rfl (e_fa hF fa26_2 rfl) fun a hF=>?_
                  refine ls<|gy hF rfl rfl<|q1 hF rfl (e_ld hF Tryz.isAgg24 rfl ((St.ld hS).cellB (.head _) rfl)) fun a hF=>?_
                  refine ls<|gy hF rfl rfl<|q1 hF rfl (e_lenL (α:=api_Instr) (xs:=p1.L) hF Tryz.runUnderlying24 rfl) fun a hF=>?_
                  refine ls<|gy hF rfl rfl<|q1 hF rfl (e_leq hF rfl rfl) fun a hF=>?_
                  refine ls<|q1 hF rfl (e_as (v':=.bool ((decide (vB1 < x14.To)) && (decide (x14.To≤(p1.L.length:Int))))) (e_pickT hF rfl rfl) (by rw [hb];rfl)) fun a hF=>?_
                  exact key _ _ (hF.has ⟨rfl,rfl,rfl,rfl,rfl,rfl,rfl,rfl,rfl,rfl,rfl,rfl,trivial⟩) hS
                ·
                  intro hb key
                  replace hF:=Fr.as hF (t:=163) rfl (congrArg Value.bool hb)
                  refine ls<|gn hF rfl rfl rfl rfl fun a hF=>?_
                  refine ls<|gn hF rfl rfl rfl rfl fun a hF=>?_
                  refine ls<|gn hF rfl rfl rfl rfl fun a hF=>?_
                  refine ls<|gn hF rfl rfl rfl rfl fun a hF=>?_
                  refine ls<|gn hF rfl rfl rfl rfl fun a hF=>?_
                  refine ls<|gn hF rfl rfl rfl rfl fun a hF=>?_
                  refine ls<|q1 hF rfl (e_as (v':=.bool ((decide (vB1 < x14.To)) && (decide (x14.To≤(p1.L.length:Int))))) (e_pickF hF rfl rfl) (by rw [hb];rfl)) fun a hF=>?_
                  exact key _ _ (hF.has ⟨rfl,rfl,rfl,rfl,rfl,rfl,rfl,rfl,rfl,rfl,rfl,rfl,trivial⟩) hS
                intro a w hF hS
                refine ls<|q1 hF rfl (e_asg hF rfl) fun a hF=>?_
                refine re<|?_
                refine bn<|tn<|?_
                replace hS:=hS.pickL (.cons .head .nil)
                exact ⟨((decide (vB1 < x14.To)) && (decide (x14.To≤(p1.L.length:Int)))),hm,hF.has ⟨rfl,rfl,rfl,rfl,rfl,rfl,rfl,rfl,rfl,rfl,rfl,rfl,trivial⟩,hS⟩
              ·
                replace hm:=ite_f hm hb83
                refine tn<|cfv hF rfl hb83<|wk<|?_
                refine bn<|tn<|?_
                replace hS:=hS.pickL (.cons .head .nil)
                exact ⟨(decide (x14.To=0)),hm,hF.has ⟨rfl,rfl,rfl,rfl,rfl,rfl,rfl,rfl,rfl,rfl,rfl,rfl,trivial⟩,hS⟩
          clear hm hF hS
          rintro a w ⟨vC5,hm,hF,hS⟩
          unfold Z4j at hm
          refine th<|?_
          refine rg<|?_
          refine ls<|q1 hF rfl (e_move hF rfl) fun a hF=>?_
          refine ls<|q1 hF rfl (e_not hF rfl) fun a hF=>?_
          refine ls<|q1 hF rfl (e_move hF rfl) fun a hF=>?_
          refine grp (N:=193) (Fk:=[(1,.int .i64 p4),(2,.int .i64 p5),(3,.int .i64 p6),(4,.pointer (some ⟨b11,0,none⟩)),(14,.bool vC3),(15,.bool vC4),(16,.bool vC5),(36,.slice oa7 p1.L.length cap8),(37,.int .i64 (p1.L.length:Int)),(38,.int .i64 vB1),(176,.bool ((!vC1) || (!vC2)))]) (b:=(!vC1)) 3 hS ?_ ?_ ?_
          ·
            intro hb key
            replace hF:=Fr.as hF (t:=173) rfl (congrArg Value.bool hb)
            refine ls<|gn hF rfl rfl rfl rfl fun a hF=>?_
            refine ls<|gn hF rfl rfl rfl rfl fun a hF=>?_
            refine ls<|q1 hF rfl (e_as (v':=.bool ((!vC1) || (!vC2))) (e_pickT hF rfl rfl) (by rw [hb];rfl)) fun a hF=>?_
            exact key _ _ (hF.has ⟨rfl,rfl,rfl,rfl,rfl,rfl,rfl,rfl,rfl,rfl,rfl,trivial⟩) hS
          ·
            intro hb key
            replace hF:=Fr.as hF (t:=173) rfl (congrArg Value.bool hb)
            refine ls<|gy hF rfl rfl<|q1 hF rfl (e_move hF rfl) fun a hF=>?_
            refine ls<|gy hF rfl rfl<|q1 hF rfl (e_not hF rfl) fun a hF=>?_
            refine ls<|q1 hF rfl (e_as (v':=.bool ((!vC1) || (!vC2))) (e_pickF hF rfl rfl) (by rw [hb];rfl)) fun a hF=>?_
            exact key _ _ (hF.has ⟨rfl,rfl,rfl,rfl,rfl,rfl,rfl,rfl,rfl,rfl,rfl,trivial⟩) hS
          intro a w hF hS
          refine ls<|q1 hF rfl (e_move hF rfl) fun a hF=>?_
          refine grp (N:=193) (Fk:=[(1,.int .i64 p4),(2,.int .i64 p5),(3,.int .i64 p6),(4,.pointer (some ⟨b11,0,none⟩)),(15,.bool vC4),(16,.bool vC5),(36,.slice oa7 p1.L.length cap8),(37,.int .i64 (p1.L.length:Int)),(38,.int .i64 vB1),(180,.bool (((!vC1) || (!vC2)) || (!vC3)))]) (b:=((!vC1) || (!vC2))) 3 hS ?_ ?_ ?_
          ·
            intro hb key
            replace hF:=Fr.as hF (t:=177) rfl (congrArg Value.bool hb)
            refine ls<|gn hF rfl rfl rfl rfl fun a hF=>?_
            refine ls<|gn hF rfl rfl rfl rfl fun a hF=>?_
            refine ls<|q1 hF rfl (e_as (v':=.bool (((!vC1) || (!vC2)) || (!vC3))) (e_pickT hF rfl rfl) (by rw [hb];rfl)) fun a hF=>?_
            exact key _ _ (hF.has ⟨rfl,rfl,rfl,rfl,rfl,rfl,rfl,rfl,rfl,rfl,trivial⟩) hS
          ·
            intro hb key
            replace hF:=Fr.as hF (t:=177) rfl (congrArg Value.bool hb)
            refine ls<|gy hF rfl rfl<|q1 hF rfl (e_move hF rfl) fun a hF=>?_
            refine ls<|gy hF rfl rfl<|q1 hF rfl (e_not hF rfl) fun a hF=>?_
            refine ls<|q1 hF rfl (e_as (v':=.bool (((!vC1) || (!vC2)) || (!vC3))) (e_pickF hF rfl rfl) (by rw [hb];rfl)) fun a hF=>?_
            exact key _ _ (hF.has ⟨rfl,rfl,rfl,rfl,rfl,rfl,rfl,rfl,rfl,rfl,trivial⟩) hS
          intro a w hF hS
          refine ls<|q1 hF rfl (e_move hF rfl) fun a hF=>?_
          refine grp (N:=193) (Fk:=[(1,.int .i64 p4),(2,.int .i64 p5),(3,.int .i64 p6),(4,.pointer (some ⟨b11,0,none⟩)),(16,.bool vC5),(36,.slice oa7 p1.L.length cap8),(37,.int .i64 (p1.L.length:Int)),(38,.int .i64 vB1),(184,.bool ((((!vC1) || (!vC2)) || (!vC3)) || (!vC4)))]) (b:=(((!vC1) || (!vC2)) || (!vC3))) 3 hS ?_ ?_ ?_
          ·
            intro hb key
            replace hF:=Fr.as hF (t:=181) rfl (congrArg Value.bool hb)
            refine ls<|gn hF rfl rfl rfl rfl fun a hF=>?_
            refine ls<|gn hF rfl rfl rfl rfl fun a hF=>?_
            refine ls<|q1 hF rfl (e_as (v':=.bool ((((!vC1) || (!vC2)) || (!vC3)) || (!vC4))) (e_pickT hF rfl rfl) (by rw [hb];rfl)) fun a hF=>?_
            exact key _ _ (hF.has ⟨rfl,rfl,rfl,rfl,rfl,rfl,rfl,rfl,rfl,trivial⟩) hS
          ·
            intro hb key
            replace hF:=Fr.as hF (t:=181) rfl (congrArg Value.bool hb)
            refine ls<|gy hF rfl rfl<|q1 hF rfl (e_move hF rfl) fun a hF=>?_
            refine ls<|gy hF rfl rfl<|q1 hF rfl (e_not hF rfl) fun a hF=>?_
            refine ls<|q1 hF rfl (e_as (v':=.bool ((((!vC1) || (!vC2)) || (!vC3)) || (!vC4))) (e_pickF hF rfl rfl) (by rw [hb];rfl)) fun a hF=>?_
            exact key _ _ (hF.has ⟨rfl,rfl,rfl,rfl,rfl,rfl,rfl,rfl,rfl,trivial⟩) hS
          intro a w hF hS
          refine ls<|q1 hF rfl (e_move hF rfl) fun a hF=>?_
          refine grp (N:=193) (Fk:=[(1,.int .i64 p4),(2,.int .i64 p5),(3,.int .i64 p6),(4,.pointer (some ⟨b11,0,none⟩)),(36,.slice oa7 p1.L.length cap8),(37,.int .i64 (p1.L.length:Int)),(38,.int .i64 vB1),(188,.bool (((((!vC1) || (!vC2)) || (!vC3)) || (!vC4)) || (!vC5)))]) (b:=((((!vC1) || (!vC2)) || (!vC3)) || (!vC4))) 3 hS ?_ ?_ ?_
          ·
            intro hb key
            replace hF:=Fr.as hF (t:=185) rfl (congrArg Value.bool hb)
            refine ls<|gn hF rfl rfl rfl rfl fun a hF=>?_
            refine ls<|gn hF rfl rfl rfl rfl fun a hF=>?_
            refine ls<|q1 hF rfl (e_as (v':=.bool (((((!vC1) || (!vC2)) || (!vC3)) || (!vC4)) || (!vC5))) (e_pickT hF rfl rfl) (by rw [hb];rfl)) fun a hF=>?_
            exact key _ _ (hF.has ⟨rfl,rfl,rfl,rfl,rfl,rfl,rfl,rfl,trivial⟩) hS
          ·
            intro hb key
            replace hF:=Fr.as hF (t:=185) rfl (congrArg Value.bool hb)
            refine ls<|gy hF rfl rfl<|q1 hF rfl (e_move hF rfl) fun a hF=>?_
            refine ls<|gy hF rfl rfl<|q1 hF rfl (e_not hF rfl) fun a hF=>?_
            refine ls<|q1 hF rfl (e_as (v':=.bool (((((!vC1) || (!vC2)) || (!vC3)) || (!vC4)) || (!vC5))) (e_pickF hF rfl rfl) (by rw [hb];rfl)) fun a hF=>?_
            exact key _ _ (hF.has ⟨rfl,rfl,rfl,rfl,rfl,rfl,rfl,rfl,trivial⟩) hS
          intro a w hF hS
          refine re<|?_
          rcases bdich (((((!vC1) || (!vC2)) || (!vC3)) || (!vC4)) || (!vC5)) with hb84 | hb84
          ·
            replace hm:=ite_t hm hb84
            refine tn<|ctv hF rfl hb84<|th<|?_
            refine rg<|?_
            refine ls<|q1 hF rfl (e_asg hF rfl) fun a hF=>?_
            refine re<|?_
            refine tn<|?_
            refine wr<|br<|tr<|tr<|br<|tr<|?_
            obtain rfl:=Option.some.inj hm
            exact r1 hF Tryz.results62 rfl ⟨rfl,hS.keep⟩
          ·
            replace hm:=ite_f hm hb84
            refine tn<|cfv hF rfl hb84<|wk<|?_
            refine bn<|tn<|?_
            refine rg<|?_
            refine ls<|q1 hF rfl (e_add hF rfl rfl) fun a hF=>?_
            refine ls<|q1 hF rfl (e_move hF rfl) fun a hF=>?_
            refine re<|?_
            refine tn<|?_
            exact ⟨(nn2,(IntKind.i64.wrap (vB1+1))),⟨hm,hF.has ⟨rfl,rfl,rfl,rfl,rfl,rfl,rfl,trivial⟩,hS⟩,Nat.lt_succ_self _⟩
      ·
        replace hm:=itp_f hm hb13
        refine tn<|th<|cfv hF rfl hb13<|?_
        refine we<|tx<|tx<|bx<|?_
        refine tn<|?_
        exact ⟨hm,hF.has ⟨rfl,trivial⟩,hS⟩
    clear hm hF hS
    rintro a w ⟨hm,hF,hS⟩
    unfold Z4e at hm
    refine th<|?_
    replace hm:=bind_some hm
    obtain ⟨r85,h86,hm⟩:=hm
    refine rg<|?_
    refine ls<|q1 hF rfl (e_fa hF fa26_2 rfl) fun a hF=>?_
    refine ls<|q1 hF rfl (e_ld hF Tryz.isAgg24 rfl ((St.ld hS).cellB (.head _) rfl)) fun a hF=>?_
    refine ls<|c1 hF rfl Tryz.call105 (Z4w_c (hp_le _) hc9 (St.srH hS hr10) h86) ⟨rfl,trivial⟩ (fun v w a hR hF=>?_)
    obtain ⟨rfl,hk⟩:=hR
    replace hS:=hS.pass hk
    clear hk
    refine ls<|q1 hF rfl (e_asg hF rfl) fun a hF=>?_
    refine re<|?_
    refine tn<|?_
    refine wr<|?_
    obtain rfl:=Option.some.inj hm
    exact r1 hF Tryz.results62 rfl ⟨rfl,hS.keep⟩
set_option maxRecDepth 100000 in
theorem Z4o_c {N:Nat} {w0:World} {H:PH} (hH:H.le w0) {cs2:List Value} {p1:api_Code} (g3:Enc.rep H cs2 p1) {cs6:List Value} {y5:api_Unit} (g7:Enc.rep H cs6 y5) {b4:Nat} (hb8:H b4=some (.cells cs6.toArray 29 (0,0))) {r:Bool} (hm:Z4o N p1 y5=some r):Tot Tryz.prog 61 #[.agg cs2.toArray,.pointer (some ⟨b4,0,none⟩)] w0 (fun v w'=>v=.bool r∧Keep Nil w0 w'):=by
  unfold Z4o at hm
  refine fn0 (args:=[.agg cs2.toArray,.pointer (some ⟨b4,0,none⟩)]) (F:=[(0,.agg cs2.toArray),(1,.pointer (some ⟨b4,0,none⟩))]) Tryz.func61 rfl Tryz.ntmps61 rfl rfl fun a hF=>?_
  have hS:St w0 Nil [H] [] w0:=start1 hH
  have g9:Enc.rep (α:=(List Int)×Int×(List Int)×Int×(List api_Code)×api_Code×(List (List api_Op))) H cs6 (y5.Lines,y5.Stays,y5.Firsts,y5.Locks,y5.Threads,y5.Recover,y5.Claims):=g7
  obtain ⟨q10,q11,rfl,g12,g13⟩:=g9
  obtain ⟨oa14,cap15,rfl,hc16,hr17⟩:=g12
  obtain ⟨q18,q19,rfl,g20,g21⟩:=g13
  obtain rfl:q18=[.int .i64 y5.Stays]:=g20
  obtain ⟨q22,q23,rfl,g24,g25⟩:=g21
  obtain ⟨oa26,cap27,rfl,hc28,hr29⟩:=g24
  obtain ⟨q30,q31,rfl,g32,g33⟩:=g25
  obtain rfl:q30=[.int .i64 y5.Locks]:=g32
  obtain ⟨q34,q35,rfl,g36,g37⟩:=g33
  obtain ⟨oa38,cap39,rfl,hc40,hr41⟩:=g36
  obtain ⟨q42,q43,rfl,g44,g45⟩:=g37
  obtain ⟨oa46,cap47,rfl,hc48,hr49⟩:=api_Code_open g44
  obtain ⟨oa50,cap51,rfl,hc52,hr53⟩:=g45
  obtain ⟨oa54,cap55,rfl,hc56,hr57⟩:=api_Code_open g3
  refine th<|?_
  refine rg<|?_
  refine ls<|a_box (cs:=[.int .i64 p1.Regs,.int .i64 p1.Counts,.slice oa54 p1.L.length cap55].toArray) hF rfl hS rfl rfl fun b58 w a hS hF=>?_
  refine ls<|q1 hF rfl (e_asg hF rfl) fun a hF=>?_
  refine re<|?_
  refine tn<|th<|?_
  replace hm:=bind_some hm
  obtain ⟨r59,h60,hm⟩:=hm
  replace hm:=bind_some hm
  obtain ⟨r61,h62,hm⟩:=hm
  refine rdS 11 hS wide fun w hS=>?_
  refine d1 (i:=0) rfl (by kernel_rfl) (by kernel_rfl) (St.ld hS) hF rfl (fun _ _ _ h=>h) (fun w hl=>(e_ldA hF Tryz.isAgg26 Tryz.sizeOf26 rfl rfl (hl.cellsB (.head _)))) fun a hF=>?_
  refine d1 (i:=1) rfl (by kernel_rfl) (by kernel_rfl) (St.ld hS) hF rfl (fun _ _ _ h=>h) (fun w hl=>(e_fa hF fa29_0 rfl)) fun a hF=>?_
  refine d1 (i:=2) rfl (by kernel_rfl) (by kernel_rfl) (St.ld hS) hF rfl (fun _ _ _ h=>h) (fun w hl=>(e_ld hF Tryz.isAgg22 rfl (PH.le.cell (Lds.le hl) (ph_cell hb8 rfl)))) fun a hF=>?_
  refine d1 (i:=3) rfl (by kernel_rfl) (by kernel_rfl) (St.ld hS) hF rfl (fun _ _ _ h=>h) (fun w hl=>(e_lenL (α:=Int) (xs:=y5.Lines) hF Tryz.runUnderlying22 rfl)) fun a hF=>?_
  refine d1 (i:=4) rfl (by kernel_rfl) (by kernel_rfl) (St.ld hS) hF rfl (fun _ _ _ h=>h) (fun w hl=>(e_ldA hF Tryz.isAgg29 Tryz.sizeOf29 rfl rfl (cellsR (Lds.le hl) hb8))) fun a hF=>?_
  refine d1 (i:=6) rfl (by kernel_rfl) (by kernel_rfl) (St.ld hS) hF rfl (fun _ _ _ h=>h) (fun w hl=>(e_fa hF fa29_3 rfl)) fun a hF=>?_
  refine d1 (i:=7) rfl (by kernel_rfl) (by kernel_rfl) (St.ld hS) hF rfl (fun _ _ _ h=>h) (fun w hl=>(e_ld hF Tryz.isAgg3 rfl (PH.le.cell (Lds.le hl) (ph_cell hb8 rfl)))) fun a hF=>?_
  refine da1 (i:=5) (by kernel_rfl) ?_
  refine di (i:=5) rfl<|c1 hF rfl Tryz.call63 (Z4l_c (hp_le _) (Enc.mono (St.up hS) (show Enc.rep (α:=api_Unit) H [.slice oa14 y5.Lines.length cap15,.int .i64 y5.Stays,.slice oa26 y5.Firsts.length cap27,.int .i64 y5.Locks,.slice oa38 y5.Threads.length cap39,.int .i64 y5.Recover.Regs,.int .i64 y5.Recover.Counts,.slice oa46 y5.Recover.L.length cap47,.slice oa50 y5.Claims.length cap51] y5 from ⟨_,_,rfl,⟨_,_,rfl,hc16,hr17⟩,⟨_,_,rfl,rfl,⟨_,_,rfl,⟨_,_,rfl,hc28,hr29⟩,⟨_,_,rfl,rfl,⟨_,_,rfl,⟨_,_,rfl,hc40,hr41⟩,⟨_,_,rfl,⟨_,_,rfl,rfl,⟨_,_,rfl,rfl,⟨_,_,rfl,hc48,hr49⟩⟩⟩,⟨_,_,rfl,hc52,hr53⟩⟩⟩⟩⟩⟩⟩)) h60) ⟨rfl,trivial⟩ (fun v w a hR hF=>?_)
  obtain ⟨rfl,hk⟩:=hR
  replace hS:=hS.pass hk
  clear hk
  refine ⟨fun _=>(St.ld hS),?_⟩
  refine da1 (i:=8) (by kernel_rfl) ?_
  refine di (i:=8) rfl<|c1 hF rfl Tryz.call62 (Z4c_c (hp_le _) (Enc.mono (St.up hS) (show Enc.rep (α:=api_Code) H [.int .i64 p1.Regs,.int .i64 p1.Counts,.slice oa54 p1.L.length cap55] p1 from ⟨_,_,rfl,rfl,⟨_,_,rfl,rfl,⟨_,_,rfl,hc56,hr57⟩⟩⟩)) h62) ⟨rfl,rfl,rfl,rfl,trivial⟩ (fun v w a hR hF=>?_)
  obtain ⟨rfl,hk⟩:=hR
  replace hS:=hS.pass hk
  clear hk
  refine ⟨fun _=>(St.ld hS),?_⟩
  refine d1 (i:=9) rfl (by kernel_rfl) (by kernel_rfl) (St.ld hS) hF rfl (fun _ _ _ h=>h) (fun w hl=>(e_not hF rfl)) fun a hF=>?_
  refine d1 (i:=10) rfl (by kernel_rfl) (by kernel_rfl) (St.ld hS) hF rfl (fun _ _ _ h=>h) (fun w hl=>(e_asg hF rfl)) fun a hF=>?_
  refine de (by kernel_rfl)<|?_
  refine tn<|?_
  refine wr<|?_
  obtain rfl:=Option.some.inj hm
  exact r1 hF Tryz.results61 rfl ⟨rfl,hS.keep⟩
set_option maxRecDepth 100000 in
theorem Z5c_c {N:Nat} {w0:World} {H:PH} (hH:H.le w0) {oa2:Option Addr} {cap3:Nat} {p1:(List api_Code)} (hc4:p1.length≤cap3) (hr5:SR H oa2 p1) {cs8:List Value} {y7:api_Unit} (g9:Enc.rep H cs8 y7) {b6:Nat} (hb10:H b6=some (.cells cs8.toArray 29 (0,0))) {r:Int} (hm:Z5c N p1 y7=some r):Tot Tryz.prog 110 #[.slice oa2 p1.length cap3,.func (.func 61) #[] #[.pointer (some ⟨b6,0,none⟩)]] w0 (fun v w'=>v=.int .i64 r∧Keep Nil w0 w'):=by
  unfold Z5c at hm
  refine fn0 (args:=[.slice oa2 p1.length cap3,.func (.func 61) #[] #[.pointer (some ⟨b6,0,none⟩)]]) (F:=[(0,.slice oa2 p1.length cap3),(1,.func (.func 61) #[] #[.pointer (some ⟨b6,0,none⟩)])]) Tryz.func110 rfl Tryz.ntmps110 rfl rfl fun a hF=>?_
  have hS:St w0 Nil [H] [] w0:=start1 hH
  have g11:Enc.rep (α:=(List Int)×Int×(List Int)×Int×(List api_Code)×api_Code×(List (List api_Op))) H cs8 (y7.Lines,y7.Stays,y7.Firsts,y7.Locks,y7.Threads,y7.Recover,y7.Claims):=g9
  obtain ⟨q12,q13,rfl,g14,g15⟩:=g11
  obtain ⟨oa16,cap17,rfl,hc18,hr19⟩:=g14
  obtain ⟨q20,q21,rfl,g22,g23⟩:=g15
  obtain rfl:q20=[.int .i64 y7.Stays]:=g22
  obtain ⟨q24,q25,rfl,g26,g27⟩:=g23
  obtain ⟨oa28,cap29,rfl,hc30,hr31⟩:=g26
  obtain ⟨q32,q33,rfl,g34,g35⟩:=g27
  obtain rfl:q32=[.int .i64 y7.Locks]:=g34
  obtain ⟨q36,q37,rfl,g38,g39⟩:=g35
  obtain ⟨oa40,cap41,rfl,hc42,hr43⟩:=g38
  obtain ⟨q44,q45,rfl,g46,g47⟩:=g39
  obtain ⟨oa48,cap49,rfl,hc50,hr51⟩:=api_Code_open g46
  obtain ⟨oa52,cap53,rfl,hc54,hr55⟩:=g47
  refine th<|?_
  refine rg<|?_
  refine ls<|q1 hF rfl (e_asg hF rfl) fun a hF=>?_
  refine re<|?_
  refine tn<|th<|th<|?_
  refine rg<|?_
  refine ls<|q1 hF rfl (e_move hF rfl) fun a hF=>?_
  refine ls<|q1 hF rfl (e_lenL (α:=api_Code) (xs:=p1) hF Tryz.runUnderlying23 rfl) fun a hF=>?_
  refine ls<|q1 hF rfl (e_move hF rfl) fun a hF=>?_
  refine re<|?_
  refine tn<|midK (fun a w=>Z5d=some r∧Fr 19 [] a∧St w0 Nil [H] [] w) ?_ ?_
  ·
    refine wb<|lp (α:=Nat×Int) (fun (gh:Nat×Int) a w=>match gh with | (nn2,vB1)=>(Z5e N Z5d p1 y7) nn2 vB1=some r∧Fr 19 [(0,.slice oa2 p1.length cap3),(1,.func (.func 61) #[] #[.pointer (some ⟨b6,0,none⟩)]),(7,.int .i64 (p1.length:Int)),(8,.int .i64 vB1)] a∧St w0 Nil [H] [] w) (fun gh=>gh.1) (N,0) ⟨hm,hF.has ⟨rfl,rfl,rfl,rfl,trivial⟩,hS⟩ ?_
    clear hm hF hS
    rintro ⟨nn2,vB1⟩ a w ⟨hm,hF,hS⟩
    obtain _ | nn2:=nn2
    · simp [Z5e] at hm
    rw [Z5e] at hm
    refine th<|?_
    refine rg<|?_
    refine ls<|q1 hF rfl (e_lss hF rfl rfl) fun a hF=>?_
    refine re<|?_
    rcases bdich (decide (vB1 < (p1.length:Int))) with hb56 | hb56
    ·
      replace hm:=itp_t hm hb56
      refine tn<|th<|ctv hF rfl hb56<|wk<|?_
      refine tn<|th<|wb<|th<|?_
      refine rg<|?_
      refine ls<|q1 hF rfl (e_move hF rfl) fun a hF=>?_
      refine ls<|q1 hF rfl (e_asg hF rfl) fun a hF=>?_
      refine re<|?_
      refine tn<|th<|?_
      replace hm:=bind_some hm
      obtain ⟨x57,h58,hm⟩:=hm
      obtain ⟨c59,g60,hl61⟩:=SR.get hr5 h58
      obtain ⟨oa62,cap63,rfl,hc64,hr65⟩:=api_Code_open g60
      replace hm:=bind_some hm
      obtain ⟨r66,h67,hm⟩:=hm
      refine rg<|?_
      refine ls<|q1 hF rfl (e_move hF rfl) fun a hF=>?_
      refine ls<|q1 hF rfl (e_move hF rfl) fun a hF=>?_
      refine ls<|q1 hF rfl (e_move hF rfl) fun a hF=>?_
      refine ls<|q1 hF rfl (e_iaI hF Tryz.runUnderlying23 Tryz.sizeOf26 rfl rfl h58 (SR.oaI hr5 (by decide) h58)) fun a hF=>?_
      refine ls<|q1 hF rfl (e_ldA hF Tryz.isAgg26 Tryz.sizeOf26 rfl rfl (fun j v hj=>PH.le.cell (Lds.le (St.ld hS)) (hl61 j v hj))) fun a hF=>?_
      refine ls<|k1 (vs:=[.agg #[.int .i64 x57.Regs,.int .i64 x57.Counts,.slice oa62 x57.L.length cap63]]) (caps:=[.pointer (some ⟨b6,0,none⟩)]) hF rfl rfl Tryz.call61 (Z4o_c (hp_le _) (Enc.mono (St.up hS) (show Enc.rep (α:=api_Code) H [.int .i64 x57.Regs,.int .i64 x57.Counts,.slice oa62 x57.L.length cap63] x57 from ⟨_,_,rfl,rfl,⟨_,_,rfl,rfl,⟨_,_,rfl,hc64,hr65⟩⟩⟩)) (Enc.mono (St.up hS) (show Enc.rep (α:=api_Unit) H [.slice oa16 y7.Lines.length cap17,.int .i64 y7.Stays,.slice oa28 y7.Firsts.length cap29,.int .i64 y7.Locks,.slice oa40 y7.Threads.length cap41,.int .i64 y7.Recover.Regs,.int .i64 y7.Recover.Counts,.slice oa48 y7.Recover.L.length cap49,.slice oa52 y7.Claims.length cap53] y7 from ⟨_,_,rfl,⟨_,_,rfl,hc18,hr19⟩,⟨_,_,rfl,rfl,⟨_,_,rfl,⟨_,_,rfl,hc30,hr31⟩,⟨_,_,rfl,rfl,⟨_,_,rfl,⟨_,_,rfl,hc42,hr43⟩,⟨_,_,rfl,⟨_,_,rfl,rfl,⟨_,_,rfl,rfl,⟨_,_,rfl,hc50,hr51⟩⟩⟩,⟨_,_,rfl,hc54,hr55⟩⟩⟩⟩⟩⟩⟩)) (St.up hS _ _ hb10) h67) ⟨rfl,trivial⟩ rfl (fun v w a hR hF=>?_)
      obtain ⟨rfl,hk⟩:=hR
      replace hS:=hS.pass hk
      clear hk
      refine re<|?_
      rcases bdich r66 with hb68 | hb68
      ·
        replace hm:=ite_t hm hb68
        refine tn<|ctv hF rfl hb68<|th<|?_
        refine rg<|?_
        refine ls<|q1 hF rfl (e_move hF rfl) fun a hF=>?_
        refine ls<|q1 hF rfl (e_asg hF rfl) fun a hF=>?_
        refine re<|?_
        refine tn<|?_
        refine wr<|br<|tr<|tr<|br<|tr<|?_
        obtain rfl:=Option.some.inj hm
        exact r1 hF Tryz.results110 rfl ⟨rfl,hS.keep⟩
      ·
        replace hm:=ite_f hm hb68
        refine tn<|cfv hF rfl hb68<|wk<|?_
        refine bn<|tn<|?_
        refine rg<|?_
        refine ls<|q1 hF rfl (e_add hF rfl rfl) fun a hF=>?_
        refine ls<|q1 hF rfl (e_move hF rfl) fun a hF=>?_
        refine re<|?_
        refine tn<|?_
        exact ⟨(nn2,(IntKind.i64.wrap (vB1+1))),⟨hm,hF.has ⟨rfl,rfl,rfl,rfl,trivial⟩,hS⟩,Nat.lt_succ_self _⟩
    ·
      replace hm:=itp_f hm hb56
      refine tn<|th<|cfv hF rfl hb56<|?_
      refine we<|tx<|tx<|bx<|?_
      refine tn<|?_
      exact ⟨hm,hF.has trivial,hS⟩
  clear hm hF hS
  rintro a w ⟨hm,hF,hS⟩
  unfold Z5d at hm
  refine th<|?_
  refine rg<|?_
  refine ls<|q1 hF rfl (e_asg hF rfl) fun a hF=>?_
  refine re<|?_
  refine tn<|?_
  refine wr<|?_
  obtain rfl:=Option.some.inj hm
  exact r1 hF Tryz.results110 rfl ⟨rfl,hS.keep⟩
set_option maxRecDepth 100000 in
theorem Z54_c {N:Nat} {w0:World} {H:PH} (hH:H.le w0) {oa2:Option Addr} {cap3:Nat} {p1:(List api_Code)} (hc4:p1.length≤cap3) (hr5:SR H oa2 p1) {cs8:List Value} {y7:api_Unit} (g9:Enc.rep H cs8 y7) {b6:Nat} (hb10:H b6=some (.cells cs8.toArray 29 (0,0))) {r:Bool} (hm:Z54 N p1 y7=some r):Tot Tryz.prog 67 #[.slice oa2 p1.length cap3,.func (.func 61) #[] #[.pointer (some ⟨b6,0,none⟩)]] w0 (fun v w'=>v=.bool r∧Keep Nil w0 w'):=by
  unfold Z54 at hm
  refine fn0 (args:=[.slice oa2 p1.length cap3,.func (.func 61) #[] #[.pointer (some ⟨b6,0,none⟩)]]) (F:=[(0,.slice oa2 p1.length cap3),(1,.func (.func 61) #[] #[.pointer (some ⟨b6,0,none⟩)])]) Tryz.func67 rfl Tryz.ntmps67 rfl rfl fun a hF=>?_
  have hS:St w0 Nil [H] [] w0:=start1 hH
  have g11:Enc.rep (α:=(List Int)×Int×(List Int)×Int×(List api_Code)×api_Code×(List (List api_Op))) H cs8 (y7.Lines,y7.Stays,y7.Firsts,y7.Locks,y7.Threads,y7.Recover,y7.Claims):=g9
  obtain ⟨q12,q13,rfl,g14,g15⟩:=g11
  obtain ⟨oa16,cap17,rfl,hc18,hr19⟩:=g14
  obtain ⟨q20,q21,rfl,g22,g23⟩:=g15
  obtain rfl:q20=[.int .i64 y7.Stays]:=g22
  obtain ⟨q24,q25,rfl,g26,g27⟩:=g23
  obtain ⟨oa28,cap29,rfl,hc30,hr31⟩:=g26
  obtain ⟨q32,q33,rfl,g34,g35⟩:=g27
  obtain rfl:q32=[.int .i64 y7.Locks]:=g34
  obtain ⟨q36,q37,rfl,g38,g39⟩:=g35
  obtain ⟨oa40,cap41,rfl,hc42,hr43⟩:=g38
  obtain ⟨q44,q45,rfl,g46,g47⟩:=g39
  obtain ⟨oa48,cap49,rfl,hc50,hr51⟩:=api_Code_open g46
  obtain ⟨oa52,cap53,rfl,hc54,hr55⟩:=g47
  refine th<|?_
  refine rg<|?_
  refine ls<|q1 hF rfl (e_asg hF rfl) fun a hF=>?_
  refine re<|?_
  refine tn<|th<|?_
  replace hm:=bind_some hm
  obtain ⟨r56,h57,hm⟩:=hm
  refine rg<|?_
  refine ls<|q1 hF rfl (e_move hF rfl) fun a hF=>?_
  refine ls<|q1 hF rfl (e_move hF rfl) fun a hF=>?_
  refine ls<|c1 hF rfl Tryz.call110 (Z5c_c (hp_le _) hc4 (St.srH hS hr5) (Enc.mono (St.up hS) (show Enc.rep (α:=api_Unit) H [.slice oa16 y7.Lines.length cap17,.int .i64 y7.Stays,.slice oa28 y7.Firsts.length cap29,.int .i64 y7.Locks,.slice oa40 y7.Threads.length cap41,.int .i64 y7.Recover.Regs,.int .i64 y7.Recover.Counts,.slice oa48 y7.Recover.L.length cap49,.slice oa52 y7.Claims.length cap53] y7 from ⟨_,_,rfl,⟨_,_,rfl,hc18,hr19⟩,⟨_,_,rfl,rfl,⟨_,_,rfl,⟨_,_,rfl,hc30,hr31⟩,⟨_,_,rfl,rfl,⟨_,_,rfl,⟨_,_,rfl,hc42,hr43⟩,⟨_,_,rfl,⟨_,_,rfl,rfl,⟨_,_,rfl,rfl,⟨_,_,rfl,hc50,hr51⟩⟩⟩,⟨_,_,rfl,hc54,hr55⟩⟩⟩⟩⟩⟩⟩)) (St.up hS _ _ hb10) h57) ⟨rfl,rfl,trivial⟩ (fun v w a hR hF=>?_)
  obtain ⟨rfl,hk⟩:=hR
  replace hS:=hS.pass hk
  clear hk
  refine ls<|q1 hF rfl (e_geq hF rfl rfl) fun a hF=>?_
  refine ls<|q1 hF rfl (e_asg hF rfl) fun a hF=>?_
  refine re<|?_
  refine tn<|?_
  refine wr<|?_
  obtain rfl:=Option.some.inj hm
  exact r1 hF Tryz.results67 rfl ⟨rfl,hS.keep⟩
set_option maxRecDepth 100000 in
theorem Z4p_c {N:Nat} {w0:World} {H:PH} (hH:H.le w0) {oa2:Option Addr} {cap3:Nat} {p1:(List api_Op)} (hc4:p1.length≤cap3) (hr5:SR H oa2 p1) {cs8:List Value} {y7:api_Unit} (g9:Enc.rep H cs8 y7) {b6:Nat} (hb10:H b6=some (.cells cs8.toArray 29 (0,0))) {r:Bool} (hm:Z4p N p1 y7=some r):Tot Tryz.prog 64 #[.slice oa2 p1.length cap3,.pointer (some ⟨b6,0,none⟩)] w0 (fun v w'=>v=.bool r∧Keep Nil w0 w'):=by
  unfold Z4p at hm
  refine fn0 (args:=[.slice oa2 p1.length cap3,.pointer (some ⟨b6,0,none⟩)]) (F:=[(0,.slice oa2 p1.length cap3),(1,.pointer (some ⟨b6,0,none⟩))]) Tryz.func64 rfl Tryz.ntmps64 rfl rfl fun a hF=>?_
  have hS:St w0 Nil [H] [] w0:=start1 hH
  have g11:Enc.rep (α:=(List Int)×Int×(List Int)×Int×(List api_Code)×api_Code×(List (List api_Op))) H cs8 (y7.Lines,y7.Stays,y7.Firsts,y7.Locks,y7.Threads,y7.Recover,y7.Claims):=g9
  obtain ⟨q12,q13,rfl,g14,g15⟩:=g11
  obtain ⟨oa16,cap17,rfl,hc18,hr19⟩:=g14
  obtain ⟨q20,q21,rfl,g22,g23⟩:=g15
  obtain rfl:q20=[.int .i64 y7.Stays]:=g22
  obtain ⟨q24,q25,rfl,g26,g27⟩:=g23
  obtain ⟨oa28,cap29,rfl,hc30,hr31⟩:=g26
  obtain ⟨q32,q33,rfl,g34,g35⟩:=g27
  obtain rfl:q32=[.int .i64 y7.Locks]:=g34
  obtain ⟨q36,q37,rfl,g38,g39⟩:=g35
  obtain ⟨oa40,cap41,rfl,hc42,hr43⟩:=g38
  obtain ⟨q44,q45,rfl,g46,g47⟩:=g39
  obtain ⟨oa48,cap49,rfl,hc50,hr51⟩:=api_Code_open g46
  obtain ⟨oa52,cap53,rfl,hc54,hr55⟩:=g47
  refine th<|?_
  refine rg<|?_
  refine ls<|q1 hF rfl (e_asg hF rfl) fun a hF=>?_
  refine re<|?_
  refine tn<|th<|?_
  replace hm:=bind_some hm
  obtain ⟨r56,h57,hm⟩:=hm
  refine rg<|?_
  refine ls<|q1 hF rfl (e_move hF rfl) fun a hF=>?_
  refine ls<|q1 hF rfl (e_fa hF fa29_1 rfl) fun a hF=>?_
  refine ls<|q1 hF rfl (e_ld hF Tryz.isAgg3 rfl (PH.le.cell (Lds.le (St.ld hS)) (ph_cell hb10 rfl))) fun a hF=>?_
  refine ls<|c1 hF rfl Tryz.call65 (Z1a_c (hp_le _) hc4 (St.srH hS hr5) h57) ⟨rfl,rfl,trivial⟩ (fun v w a hR hF=>?_)
  obtain ⟨rfl,hk⟩:=hR
  replace hS:=hS.pass hk
  clear hk
  refine ls<|q1 hF rfl (e_not hF rfl) fun a hF=>?_
  refine ls<|q1 hF rfl (e_asg hF rfl) fun a hF=>?_
  refine re<|?_
  refine tn<|?_
  refine wr<|?_
  obtain rfl:=Option.some.inj hm
  exact r1 hF Tryz.results64 rfl ⟨rfl,hS.keep⟩
set_option maxRecDepth 100000 in
theorem Z59_c {N:Nat} {w0:World} {H:PH} (hH:H.le w0) {oa2:Option Addr} {cap3:Nat} {p1:(List (List api_Op))} (hc4:p1.length≤cap3) (hr5:SR H oa2 p1) {cs8:List Value} {y7:api_Unit} (g9:Enc.rep H cs8 y7) {b6:Nat} (hb10:H b6=some (.cells cs8.toArray 29 (0,0))) {r:Int} (hm:Z59 N p1 y7=some r):Tot Tryz.prog 111 #[.slice oa2 p1.length cap3,.func (.func 64) #[] #[.pointer (some ⟨b6,0,none⟩)]] w0 (fun v w'=>v=.int .i64 r∧Keep Nil w0 w'):=by
  unfold Z59 at hm
  refine fn0 (args:=[.slice oa2 p1.length cap3,.func (.func 64) #[] #[.pointer (some ⟨b6,0,none⟩)]]) (F:=[(0,.slice oa2 p1.length cap3),(1,.func (.func 64) #[] #[.pointer (some ⟨b6,0,none⟩)])]) Tryz.func111 rfl Tryz.ntmps111 rfl rfl fun a hF=>?_
  have hS:St w0 Nil [H] [] w0:=start1 hH
  have g11:Enc.rep (α:=(List Int)×Int×(List Int)×Int×(List api_Code)×api_Code×(List (List api_Op))) H cs8 (y7.Lines,y7.Stays,y7.Firsts,y7.Locks,y7.Threads,y7.Recover,y7.Claims):=g9
  obtain ⟨q12,q13,rfl,g14,g15⟩:=g11
  obtain ⟨oa16,cap17,rfl,hc18,hr19⟩:=g14
  obtain ⟨q20,q21,rfl,g22,g23⟩:=g15
  obtain rfl:q20=[.int .i64 y7.Stays]:=g22
  obtain ⟨q24,q25,rfl,g26,g27⟩:=g23
  obtain ⟨oa28,cap29,rfl,hc30,hr31⟩:=g26
  obtain ⟨q32,q33,rfl,g34,g35⟩:=g27
  obtain rfl:q32=[.int .i64 y7.Locks]:=g34
  obtain ⟨q36,q37,rfl,g38,g39⟩:=g35
  obtain ⟨oa40,cap41,rfl,hc42,hr43⟩:=g38
  obtain ⟨q44,q45,rfl,g46,g47⟩:=g39
  obtain ⟨oa48,cap49,rfl,hc50,hr51⟩:=api_Code_open g46
  obtain ⟨oa52,cap53,rfl,hc54,hr55⟩:=g47
  refine th<|?_
  refine rg<|?_
  refine ls<|q1 hF rfl (e_asg hF rfl) fun a hF=>?_
  refine re<|?_
  refine tn<|th<|th<|?_
  refine rg<|?_
  refine ls<|q1 hF rfl (e_move hF rfl) fun a hF=>?_
  refine ls<|q1 hF rfl (e_lenL (α:=(List api_Op)) (xs:=p1) hF Tryz.runUnderlying27 rfl) fun a hF=>?_
  refine ls<|q1 hF rfl (e_move hF rfl) fun a hF=>?_
  refine re<|?_
  refine tn<|midK (fun a w=>Z5a=some r∧Fr 19 [] a∧St w0 Nil [H] [] w) ?_ ?_
  ·
    refine wb<|lp (α:=Nat×Int) (fun (gh:Nat×Int) a w=>match gh with | (nn2,vB1)=>(Z5b N Z5a p1 y7) nn2 vB1=some r∧Fr 19 [(0,.slice oa2 p1.length cap3),(1,.func (.func 64) #[] #[.pointer (some ⟨b6,0,none⟩)]),(7,.int .i64 (p1.length:Int)),(8,.int .i64 vB1)] a∧St w0 Nil [H] [] w) (fun gh=>gh.1) (N,0) ⟨hm,hF.has ⟨rfl,rfl,rfl,rfl,trivial⟩,hS⟩ ?_
    clear hm hF hS
    rintro ⟨nn2,vB1⟩ a w ⟨hm,hF,hS⟩
    obtain _ | nn2:=nn2
    · simp [Z5b] at hm
    rw [Z5b] at hm
    refine th<|?_
    refine rg<|?_
    refine ls<|q1 hF rfl (e_lss hF rfl rfl) fun a hF=>?_
    refine re<|?_
    rcases bdich (decide (vB1 < (p1.length:Int))) with hb56 | hb56
    ·
      replace hm:=itp_t hm hb56
      refine tn<|th<|ctv hF rfl hb56<|wk<|?_
      refine tn<|th<|wb<|th<|?_
      refine rg<|?_
      refine ls<|q1 hF rfl (e_move hF rfl) fun a hF=>?_
      refine ls<|q1 hF rfl (e_asg hF rfl) fun a hF=>?_
      refine re<|?_
      refine tn<|th<|?_
      replace hm:=bind_some hm
      obtain ⟨x57,h58,hm⟩:=hm
      obtain ⟨c59,g60,hl61⟩:=SR.get hr5 h58
      obtain ⟨oa62,cap63,rfl,hc64,hr65⟩:=g60
      replace hm:=bind_some hm
      obtain ⟨r66,h67,hm⟩:=hm
      refine rg<|?_
      refine ls<|q1 hF rfl (e_move hF rfl) fun a hF=>?_
      refine ls<|q1 hF rfl (e_move hF rfl) fun a hF=>?_
      refine ls<|q1 hF rfl (e_move hF rfl) fun a hF=>?_
      refine ls<|q1 hF rfl (e_iaI hF Tryz.runUnderlying27 Tryz.sizeOf54 rfl rfl h58 (SR.oaI hr5 (by decide) h58)) fun a hF=>?_
      refine ls<|q1 hF rfl (e_ld hF Tryz.isAgg54 rfl (PH.le.cell (Lds.le (St.ld hS)) (hl61 0 _ rfl))) fun a hF=>?_
      refine ls<|k1 (vs:=[.slice oa62 x57.length cap63]) (caps:=[.pointer (some ⟨b6,0,none⟩)]) hF rfl rfl Tryz.call64 (Z4p_c (hp_le _) hc64 (St.srH hS hr65) (Enc.mono (St.up hS) (show Enc.rep (α:=api_Unit) H [.slice oa16 y7.Lines.length cap17,.int .i64 y7.Stays,.slice oa28 y7.Firsts.length cap29,.int .i64 y7.Locks,.slice oa40 y7.Threads.length cap41,.int .i64 y7.Recover.Regs,.int .i64 y7.Recover.Counts,.slice oa48 y7.Recover.L.length cap49,.slice oa52 y7.Claims.length cap53] y7 from ⟨_,_,rfl,⟨_,_,rfl,hc18,hr19⟩,⟨_,_,rfl,rfl,⟨_,_,rfl,⟨_,_,rfl,hc30,hr31⟩,⟨_,_,rfl,rfl,⟨_,_,rfl,⟨_,_,rfl,hc42,hr43⟩,⟨_,_,rfl,⟨_,_,rfl,rfl,⟨_,_,rfl,rfl,⟨_,_,rfl,hc50,hr51⟩⟩⟩,⟨_,_,rfl,hc54,hr55⟩⟩⟩⟩⟩⟩⟩)) (St.up hS _ _ hb10) h67) ⟨rfl,trivial⟩ rfl (fun v w a hR hF=>?_)
      obtain ⟨rfl,hk⟩:=hR
      replace hS:=hS.pass hk
      clear hk
      refine re<|?_
      rcases bdich r66 with hb68 | hb68
      ·
        replace hm:=ite_t hm hb68
        refine tn<|ctv hF rfl hb68<|th<|?_
        refine rg<|?_
        refine ls<|q1 hF rfl (e_move hF rfl) fun a hF=>?_
        refine ls<|q1 hF rfl (e_asg hF rfl) fun a hF=>?_
        refine re<|?_
        refine tn<|?_
        refine wr<|br<|tr<|tr<|br<|tr<|?_
        obtain rfl:=Option.some.inj hm
        exact r1 hF Tryz.results111 rfl ⟨rfl,hS.keep⟩
      ·
        replace hm:=ite_f hm hb68
        refine tn<|cfv hF rfl hb68<|wk<|?_
        refine bn<|tn<|?_
        refine rg<|?_
        refine ls<|q1 hF rfl (e_add hF rfl rfl) fun a hF=>?_
        refine ls<|q1 hF rfl (e_move hF rfl) fun a hF=>?_
        refine re<|?_
        refine tn<|?_
        exact ⟨(nn2,(IntKind.i64.wrap (vB1+1))),⟨hm,hF.has ⟨rfl,rfl,rfl,rfl,trivial⟩,hS⟩,Nat.lt_succ_self _⟩
    ·
      replace hm:=itp_f hm hb56
      refine tn<|th<|cfv hF rfl hb56<|?_
      refine we<|tx<|tx<|bx<|?_
      refine tn<|?_
      exact ⟨hm,hF.has trivial,hS⟩
  clear hm hF hS
  rintro a w ⟨hm,hF,hS⟩
  unfold Z5a at hm
  refine th<|?_
  refine rg<|?_
  refine ls<|q1 hF rfl (e_asg hF rfl) fun a hF=>?_
  refine re<|?_
  refine tn<|?_
  refine wr<|?_
  obtain rfl:=Option.some.inj hm
  exact r1 hF Tryz.results111 rfl ⟨rfl,hS.keep⟩
set_option maxRecDepth 100000 in
theorem Z53_c {N:Nat} {w0:World} {H:PH} (hH:H.le w0) {oa2:Option Addr} {cap3:Nat} {p1:(List (List api_Op))} (hc4:p1.length≤cap3) (hr5:SR H oa2 p1) {cs8:List Value} {y7:api_Unit} (g9:Enc.rep H cs8 y7) {b6:Nat} (hb10:H b6=some (.cells cs8.toArray 29 (0,0))) {r:Bool} (hm:Z53 N p1 y7=some r):Tot Tryz.prog 68 #[.slice oa2 p1.length cap3,.func (.func 64) #[] #[.pointer (some ⟨b6,0,none⟩)]] w0 (fun v w'=>v=.bool r∧Keep Nil w0 w'):=by
  unfold Z53 at hm
  refine fn0 (args:=[.slice oa2 p1.length cap3,.func (.func 64) #[] #[.pointer (some ⟨b6,0,none⟩)]]) (F:=[(0,.slice oa2 p1.length cap3),(1,.func (.func 64) #[] #[.pointer (some ⟨b6,0,none⟩)])]) Tryz.func68 rfl Tryz.ntmps68 rfl rfl fun a hF=>?_
  have hS:St w0 Nil [H] [] w0:=start1 hH
  have g11:Enc.rep (α:=(List Int)×Int×(List Int)×Int×(List api_Code)×api_Code×(List (List api_Op))) H cs8 (y7.Lines,y7.Stays,y7.Firsts,y7.Locks,y7.Threads,y7.Recover,y7.Claims):=g9
  obtain ⟨q12,q13,rfl,g14,g15⟩:=g11
  obtain ⟨oa16,cap17,rfl,hc18,hr19⟩:=g14
  obtain ⟨q20,q21,rfl,g22,g23⟩:=g15
  obtain rfl:q20=[.int .i64 y7.Stays]:=g22
  obtain ⟨q24,q25,rfl,g26,g27⟩:=g23
  obtain ⟨oa28,cap29,rfl,hc30,hr31⟩:=g26
  obtain ⟨q32,q33,rfl,g34,g35⟩:=g27
  obtain rfl:q32=[.int .i64 y7.Locks]:=g34
  obtain ⟨q36,q37,rfl,g38,g39⟩:=g35
  obtain ⟨oa40,cap41,rfl,hc42,hr43⟩:=g38
  obtain ⟨q44,q45,rfl,g46,g47⟩:=g39
  obtain ⟨oa48,cap49,rfl,hc50,hr51⟩:=api_Code_open g46
  obtain ⟨oa52,cap53,rfl,hc54,hr55⟩:=g47
  refine th<|?_
  refine rg<|?_
  refine ls<|q1 hF rfl (e_asg hF rfl) fun a hF=>?_
  refine re<|?_
  refine tn<|th<|?_
  replace hm:=bind_some hm
  obtain ⟨r56,h57,hm⟩:=hm
  refine rg<|?_
  refine ls<|q1 hF rfl (e_move hF rfl) fun a hF=>?_
  refine ls<|q1 hF rfl (e_move hF rfl) fun a hF=>?_
  refine ls<|c1 hF rfl Tryz.call111 (Z59_c (hp_le _) hc4 (St.srH hS hr5) (Enc.mono (St.up hS) (show Enc.rep (α:=api_Unit) H [.slice oa16 y7.Lines.length cap17,.int .i64 y7.Stays,.slice oa28 y7.Firsts.length cap29,.int .i64 y7.Locks,.slice oa40 y7.Threads.length cap41,.int .i64 y7.Recover.Regs,.int .i64 y7.Recover.Counts,.slice oa48 y7.Recover.L.length cap49,.slice oa52 y7.Claims.length cap53] y7 from ⟨_,_,rfl,⟨_,_,rfl,hc18,hr19⟩,⟨_,_,rfl,rfl,⟨_,_,rfl,⟨_,_,rfl,hc30,hr31⟩,⟨_,_,rfl,rfl,⟨_,_,rfl,⟨_,_,rfl,hc42,hr43⟩,⟨_,_,rfl,⟨_,_,rfl,rfl,⟨_,_,rfl,rfl,⟨_,_,rfl,hc50,hr51⟩⟩⟩,⟨_,_,rfl,hc54,hr55⟩⟩⟩⟩⟩⟩⟩)) (St.up hS _ _ hb10) h57) ⟨rfl,rfl,trivial⟩ (fun v w a hR hF=>?_)
  obtain ⟨rfl,hk⟩:=hR
  replace hS:=hS.pass hk
  clear hk
  refine ls<|q1 hF rfl (e_geq hF rfl rfl) fun a hF=>?_
  refine ls<|q1 hF rfl (e_asg hF rfl) fun a hF=>?_
  refine re<|?_
  refine tn<|?_
  refine wr<|?_
  obtain rfl:=Option.some.inj hm
  exact r1 hF Tryz.results68 rfl ⟨rfl,hS.keep⟩
end Go.LM.BINZ
