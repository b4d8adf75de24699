/- Walks, lifted by program. No condition beyond the theorems' own premises. -/
import Derived.Test.YtbblmeecfimnkaaGreatDoorBMB
namespace Go.LM.BINZ
open Go Go.LL Go.MD Go.LM Go.Proofs Go.MD.BINZ
set_option maxRecDepth 100000
set_option maxRecDepth 100000 in
theorem Z1i_c {N:Nat} {w0:World} {H:PH} (hH:H.le w0) {cs2:List Value} {p1:api_Code} (g3:Enc.rep H cs2 p1) {r:api_Code} (hm:Z1i N p1=some r):Tot Tryz.prog 14 #[.agg cs2.toArray] w0 (fun v w'=>∃ (H':PH) (cs0:List Value),v=.agg cs0.toArray∧Enc.rep H' cs0 r∧Ext w0 H H'∧H'.le w'∧Keep Nil w0 w'):=by
  unfold Z1i at hm
  refine fn0 (args:=[.agg cs2.toArray]) (F:=[(0,.agg cs2.toArray)]) Tryz.func14 rfl Tryz.ntmps14 rfl rfl fun a hF=>?_
  have hS:St w0 Nil [H] [] w0:=start1 hH
  obtain ⟨oa4,cap5,rfl,hc6,hr7⟩:=api_Code_open g3
  refine th<|?_
  refine rg<|?_
  refine ls<|a_box (cs:=[.int .i64 p1.Regs,.int .i64 p1.Counts,.slice oa4 p1.L.length cap5].toArray) hF rfl hS rfl rfl fun b8 w a hS hF=>?_
  refine ls<|a_alloc (cs:=[.int .i64 0,.int .i64 0,.slice none 0 0].toArray) hF rfl hS Tryz.zeroValue26 rfl fun b9 w a hS hF=>?_
  refine re<|?_
  refine tn<|th<|?_
  refine rg<|?_
  refine ls<|q1 hF rfl (e_fa hF fa26_0 rfl) fun a hF=>?_
  refine ls<|q1 hF rfl (e_ld hF Tryz.isAgg3 rfl ((St.ld hS).cellB (.tail _ (.head _)) rfl)) fun a hF=>?_
  refine ls<|q1 hF rfl (e_fa hF fa26_1 rfl) fun a hF=>?_
  refine ls<|q1 hF rfl (e_ld hF Tryz.isAgg3 rfl ((St.ld hS).cellB (.tail _ (.head _)) rfl)) fun a hF=>?_
  refine ls<|q1 hF rfl (e_bldK [.int .i64 p1.Regs,.int .i64 p1.Counts] [.int .i64 p1.Regs,.int .i64 p1.Counts,.slice none 0 0] hF ⟨rfl,rfl,trivial⟩ (fun w=>by kernel_rfl)) fun a hF=>?_
  refine ls<|a_alloc (cs:=[.int .i64 0,.int .i64 0,.slice none 0 0].toArray) hF rfl hS Tryz.zeroValue26 rfl fun b10 w a hS hF=>?_
  refine ls<|s_blkA hF hS Tryz.sizeOf26 rfl rfl rfl rfl (one_cells rfl) .head fun w hS=>?_
  refine re<|?_
  refine tn<|th<|th<|?_
  refine rg<|?_
  refine ls<|q1 hF rfl (e_asg hF rfl) fun a hF=>?_
  refine re<|?_
  refine tn<|midK (fun a w=>∃ (vA2:(List api_Instr)) (HA1:PH) (oaA3:Option Addr) (capA4:Nat) (vsA5:List Value),(Z1j p1) vA2=some r∧Ext w0 H HA1∧Fr 54 [(2,.pointer (some ⟨b9,0,none⟩)),(3,.pointer (some ⟨b10,0,none⟩))] a∧St w0 Nil [HA1] [blk b9 (.cells [.int .i64 0,.int .i64 0,.slice none 0 0].toArray 26 (0,0)),sla 85 6 oaA3 vA2.length capA4 vsA5,blk b10 (.cells [.int .i64 p1.Regs,.int .i64 p1.Counts,.slice oaA3 vA2.length capA4].toArray 26 (0,0))] w∧Rows HA1 vsA5 vA2) ?_ ?_
  ·
    replace hS:=St.nilS hS 85 6
    replace hS:=hS.pickL (.cons (.tail (.tail (.tail .head))) (.cons (.tail (.tail .head)) (.cons .head (.cons .head .nil))))
    refine wb<|lp (α:=Nat×(List api_Instr)×Int) (fun (gh:Nat×(List api_Instr)×Int) a w=>match gh with | (nn2,vB2,vB8)=>∃ (HB1:PH) (oaB3:Option Addr) (capB4:Nat) (vsB5:List Value),(Z1k N (Z1j p1) p1) nn2 vB2 vB8=some r∧Ext w0 H HB1∧Fr 54 [(1,.pointer (some ⟨b8,0,none⟩)),(2,.pointer (some ⟨b9,0,none⟩)),(3,.pointer (some ⟨b10,0,none⟩)),(4,.int .i64 vB8)] a∧St w0 Nil [HB1] [blk b8 (.cells [.int .i64 p1.Regs,.int .i64 p1.Counts,.slice oa4 p1.L.length cap5].toArray 26 (0,0)),blk b9 (.cells [.int .i64 0,.int .i64 0,.slice none 0 0].toArray 26 (0,0)),sla 85 6 oaB3 vB2.length capB4 vsB5,blk b10 (.cells [.int .i64 p1.Regs,.int .i64 p1.Counts,.slice oaB3 vB2.length capB4].toArray 26 (0,0))] w∧Rows HB1 vsB5 vB2) (fun gh=>gh.1) (N,[],0) ⟨H,none,0,[],hm,(Ext.refl _ _),hF.has ⟨rfl,rfl,rfl,rfl,trivial⟩,hS,.nil⟩ ?_
    clear hm hF hS
    rintro ⟨nn2,vB2,vB8⟩ a w ⟨HB1,oaB3,capB4,vsB5,hm,hxHB1,hF,hS,hvB6⟩
    obtain _ | nn2:=nn2
    · simp [Z1k] at hm
    rw [Z1k] at hm
    refine th<|th<|?_
    refine rg<|?_
    refine ls<|q1 hF rfl (e_move hF rfl) fun a hF=>?_
    refine ls<|q1 hF rfl (e_fa hF fa26_2 rfl) fun a hF=>?_
    refine ls<|q1 hF rfl (e_ld hF Tryz.isAgg24 rfl ((St.ld hS).cellB (.head _) rfl)) fun a hF=>?_
    refine ls<|q1 hF rfl (e_lenL (α:=api_Instr) (xs:=p1.L) hF Tryz.runUnderlying24 rfl) fun a hF=>?_
    refine ls<|q1 hF rfl (e_lss hF rfl rfl) fun a hF=>?_
    refine ls<|q1 hF rfl (e_move hF rfl) fun a hF=>?_
    refine grp (N:=54) (Fk:=[(1,.pointer (some ⟨b8,0,none⟩)),(2,.pointer (some ⟨b9,0,none⟩)),(3,.pointer (some ⟨b10,0,none⟩)),(4,.int .i64 vB8),(19,.bool ((decide (vB8 < (p1.L.length:Int))) && (decide (vB8 < 60))))]) (b:=(decide (vB8 < (p1.L.length:Int)))) 3 hS ?_ ?_ ?_
    ·
      intro hb key
      replace hF:=Fr.as hF (t:=16) rfl (congrArg Value.bool hb)
      refine ls<|gy hF rfl rfl<|q1 hF rfl (e_move hF rfl) fun a hF=>?_
      refine ls<|gy hF rfl rfl<|q1 hF rfl (e_lss hF rfl rfl) fun a hF=>?_
      refine ls<|q1 hF rfl (e_as (v':=.bool ((decide (vB8 < (p1.L.length:Int))) && (decide (vB8 < 60)))) (e_pickT hF rfl rfl) (by rw [hb];rfl)) fun a hF=>?_
      exact key _ _ (hF.has ⟨rfl,rfl,rfl,rfl,rfl,trivial⟩) hS
    ·
      intro hb key
      replace hF:=Fr.as hF (t:=16) rfl (congrArg Value.bool hb)
      refine ls<|gn hF rfl rfl rfl rfl fun a hF=>?_
      refine ls<|gn hF rfl rfl rfl rfl fun a hF=>?_
      refine ls<|q1 hF rfl (e_as (v':=.bool ((decide (vB8 < (p1.L.length:Int))) && (decide (vB8 < 60)))) (e_pickF hF rfl rfl) (by rw [hb];rfl)) fun a hF=>?_
      exact key _ _ (hF.has ⟨rfl,rfl,rfl,rfl,rfl,trivial⟩) hS
    intro a w hF hS
    refine re<|?_
    rcases bdich ((decide (vB8 < (p1.L.length:Int))) && (decide (vB8 < 60))) with hb11 | hb11
    ·
      replace hm:=ite_t hm hb11
      refine tn<|ctv hF rfl hb11<|wk<|?_
      refine tn<|th<|wb<|th<|?_
      replace hm:=bind_some hm
      obtain ⟨x12,h13,hm⟩:=hm
      obtain ⟨c14,g15,hl16⟩:=SR.get hr7 h13
      obtain ⟨oa17,cap18,oa21,cap22,rfl,hc19,hr20,hc23,hr24⟩:=api_Instr_open g15
      refine rg<|?_
      refine ls<|q1 hF rfl (e_fa hF fa26_2 rfl) fun a hF=>?_
      refine ls<|q1 hF rfl (e_ld hF Tryz.isAgg24 rfl ((St.ld hS).cellB (.head _) rfl)) fun a hF=>?_
      refine ls<|q1 hF rfl (e_move hF rfl) fun a hF=>?_
      refine ls<|q1 hF rfl (e_iaI hF Tryz.runUnderlying24 Tryz.sizeOf85 rfl rfl h13 (SR.oaI hr7 (by decide) h13)) fun a hF=>?_
      refine ls<|q1 hF rfl (e_ldA hF Tryz.isAgg85 Tryz.sizeOf85 rfl rfl (fun j v hj=>PH.le.cell (fun b o hx=>(Lds.le (St.ld hS)) b o (hxHB1.sub b o hx)) (hl16 j v hj))) fun a hF=>?_
      refine ls<|a_alloc (cs:=[.int .i64 0,.int .i64 0,.int .i64 0,.slice none 0 0,.slice none 0 0,.int .i64 0].toArray) hF rfl hS Tryz.zeroValue85 rfl fun b25 w a hS hF=>?_
      refine ls<|s_blkA hF hS Tryz.sizeOf85 rfl rfl rfl rfl (one_cells rfl) .head fun w hS=>?_
      refine re<|?_
      refine tn<|th<|?_
      replace hm:=bind_some hm
      obtain ⟨l29,h30,hm⟩:=hm
      obtain ⟨oa31,cap32,e33,e34,hc35,hr36⟩:=SR.sub (sz:=2) hr20 hc19 rfl h30
      replace hm:=bind_some hm
      obtain ⟨l37,h38,hm⟩:=hm
      refine rg<|?_
      refine ls<|a_bsl (e:=83) (sz:=2) [] hF rfl hS rfl rfl rfl (fun w=>by kernel_rfl) fun b27 w a hS hF=>?_
      have hv26:Rows (α:=api_Op) HB1 [] []:=.nil
      refine ls<|q1 hF rfl (e_fa hF fa85_3 rfl) fun a hF=>?_
      refine ls<|q1 hF rfl (e_ld hF Tryz.isAgg54 rfl ((St.ld hS).cellB (.tail _ (.head _)) rfl)) fun a hF=>?_
      refine ls<|q1 hF rfl (e_fa hF fa85_3 rfl) fun a hF=>?_
      refine ls<|q1 hF rfl (e_ld hF Tryz.isAgg54 rfl ((St.ld hS).cellB (.tail _ (.head _)) rfl)) fun a hF=>?_
      refine ls<|q1 hF rfl (e_lenL (α:=api_Op) (xs:=x12.E) hF Tryz.runUnderlying54 rfl) fun a hF=>?_
      refine ls<|q1 hF rfl (e_min hF rfl rfl) fun a hF=>?_
      refine ls<|q1 hF rfl (e_subL (xs:=x12.E) (vl:=0) (vh:=(min (x12.E.length:Int) 50)) hF Tryz.runUnderlying54 Tryz.sizeOf83 rfl hc19 rfl rfl h30 e33 e34) fun a hF=>?_
      obtain ⟨us43,hd44,hu45⟩:=id (hr36.mono hxHB1.sub)
      refine ls<|m_app (α:=api_Op) (xs:=[]) (ys:=l29) hF rfl hS Tryz.underlying54 info83 rfl (by decide) rfl rfl rfl (.head _) hv26 (hS.rdH (.head _) hd44) hu45 h38 fun oa39 cap40 vs41 w a hv42 hU hF=>?_
      replace hS:=hU _ .head
      clear hU
      refine ls<|q1 hF rfl (e_fa hF fa85_3 rfl) fun a hF=>?_
      refine ls<|s_blk hF hS Tryz.sizeOf54 rfl rfl rfl rfl (.tail .head) (.succ (.succ (.succ .zero))) fun w hS=>?_
      refine re<|?_
      refine tn<|th<|?_
      replace hm:=bind_some hm
      obtain ⟨l49,h50,hm⟩:=hm
      obtain ⟨oa51,cap52,e53,e54,hc55,hr56⟩:=SR.sub (sz:=2) hr24 hc23 rfl h50
      replace hm:=bind_some hm
      obtain ⟨l57,h58,hm⟩:=hm
      refine rg<|?_
      refine ls<|a_bsl (e:=83) (sz:=2) [] hF rfl hS rfl rfl rfl (fun w=>by kernel_rfl) fun b47 w a hS hF=>?_
      have hv46:Rows (α:=api_Op) HB1 [] []:=.nil
      refine ls<|q1 hF rfl (e_fa hF fa85_4 rfl) fun a hF=>?_
      refine ls<|q1 hF rfl (e_ld hF Tryz.isAgg54 rfl ((St.ld hS).cellB (.tail _ (.tail _ (.head _))) rfl)) fun a hF=>?_
      refine ls<|q1 hF rfl (e_fa hF fa85_4 rfl) fun a hF=>?_
      refine ls<|q1 hF rfl (e_ld hF Tryz.isAgg54 rfl ((St.ld hS).cellB (.tail _ (.tail _ (.head _))) rfl)) fun a hF=>?_
      refine ls<|q1 hF rfl (e_lenL (α:=api_Op) (xs:=x12.F) hF Tryz.runUnderlying54 rfl) fun a hF=>?_
      refine ls<|q1 hF rfl (e_min hF rfl rfl) fun a hF=>?_
      refine ls<|q1 hF rfl (e_subL (xs:=x12.F) (vl:=0) (vh:=(min (x12.F.length:Int) 50)) hF Tryz.runUnderlying54 Tryz.sizeOf83 rfl hc23 rfl rfl h50 e53 e54) fun a hF=>?_
      obtain ⟨us63,hd64,hu65⟩:=id (hr56.mono hxHB1.sub)
      refine ls<|m_app (α:=api_Op) (xs:=[]) (ys:=l49) hF rfl hS Tryz.underlying54 info83 rfl (by decide) rfl rfl rfl (.head _) hv46 (hS.rdH (.head _) hd64) hu65 h58 fun oa59 cap60 vs61 w a hv62 hU hF=>?_
      replace hS:=hU _ .head
      clear hU
      refine ls<|q1 hF rfl (e_fa hF fa85_4 rfl) fun a hF=>?_
      refine ls<|s_blk hF hS Tryz.sizeOf54 rfl rfl rfl rfl (.tail (.tail .head)) (.succ (.succ (.succ (.succ .zero)))) fun w hS=>?_
      refine re<|?_
      refine tn<|?_
      replace hm:=bind_some hm
      obtain ⟨l77,h78,hm⟩:=hm
      refine rg<|?_
      refine ls<|q1 hF rfl (e_fa hF fa26_2 rfl) fun a hF=>?_
      refine ls<|q1 hF rfl (e_ld hF Tryz.isAgg24 rfl ((St.ld hS).cellB (.tail _ (.tail _ (.tail _ (.tail _ (.tail _ (.tail _ (.head _))))))) rfl)) fun a hF=>?_
      refine ls<|q1 hF rfl (e_ldA hF Tryz.isAgg85 Tryz.sizeOf85 rfl rfl ((St.ld hS).cellsB (.tail _ (.tail _ (.head _))))) fun a hF=>?_
      obtain ⟨H69,hx66,hr67,hc68,hS⟩:=St.frzS hS (.tail .head) hv42
      obtain ⟨H73,hx70,hr71,hc72,hS⟩:=St.frzS hS .head (hv62.mono hx66.sub)
      refine ls<|a_bsl (e:=85) (sz:=6) [.int .i64 x12.Kind,.int .i64 x12.A,.int .i64 x12.B,.slice oa39 l37.length cap40,.slice oa59 l57.length cap60,.int .i64 x12.To] hF rfl hS rfl rfl rfl (fun w=>by kernel_rfl) fun b75 w a hS hF=>?_
      have hv74:Rows (α:=api_Instr) H73 [.int .i64 x12.Kind,.int .i64 x12.A,.int .i64 x12.B,.slice oa39 l37.length cap40,.slice oa59 l57.length cap60,.int .i64 x12.To] ([(api_Instr.mk x12.Kind x12.A x12.B l37 l57 x12.To)]:List api_Instr):=(.cons (c:=[.int .i64 x12.Kind,.int .i64 x12.A,.int .i64 x12.B,.slice oa39 l37.length cap40,.slice oa59 l57.length cap60,.int .i64 x12.To]) ⟨_,_,rfl,rfl,⟨_,_,rfl,rfl,⟨_,_,rfl,rfl,⟨_,_,rfl,⟨_,_,rfl,hc68,(hr67.mono hx70.sub)⟩,⟨_,_,rfl,⟨_,_,rfl,hc72,hr71⟩,rfl⟩⟩⟩⟩⟩ .nil)
      refine ls<|m_app (α:=api_Instr) (xs:=vB2) (ys:=([(api_Instr.mk x12.Kind x12.A x12.B l37 l57 x12.To)]:List api_Instr)) hF rfl hS Tryz.underlying24 info85 rfl (by decide) rfl rfl rfl (.tail _ (.tail _ (.tail _ (.tail _ (.head _))))) (hvB6.mono (fun b o h=>hx70.sub b o (hx66.sub b o h))) (hS.rdO (.head _)) hv74 h78 fun oa79 cap80 vs81 w a hv82 hU hF=>?_
      replace hS:=hU _ (.tail (.tail (.tail (.tail .head))))
      clear hU
      replace hS:=hS.drop .head
      refine ls<|q1 hF rfl (e_fa hF fa26_2 rfl) fun a hF=>?_
      refine ls<|s_blk hF hS Tryz.sizeOf24 rfl rfl rfl rfl (.tail (.tail (.tail (.tail .head)))) (.succ (.succ .zero)) fun w hS=>?_
      refine re<|?_
      refine bn<|tn<|?_
      refine rg<|?_
      refine ls<|q1 hF rfl (e_move hF rfl) fun a hF=>?_
      refine ls<|q1 hF rfl (e_add hF rfl rfl) fun a hF=>?_
      refine ls<|q1 hF rfl (e_asg hF rfl) fun a hF=>?_
      refine re<|?_
      refine tn<|?_
      replace hS:=hS.pickL (.cons (.tail .head) (.cons (.tail .head) (.cons (.tail .head) (.cons (.tail .head) .nil))))
      exact ⟨(nn2,l77,(IntKind.i64.wrap (vB8+1))),⟨H73,oa79,cap80,vs81,hm,(Ext.trans hxHB1 (Ext.trans hx66 hx70)),hF.has ⟨rfl,rfl,rfl,rfl,trivial⟩,hS,hv82⟩,Nat.lt_succ_self _⟩
    ·
      replace hm:=ite_f hm hb11
      refine tn<|cfv hF rfl hb11<|?_
      refine we<|tx<|tx<|bx<|?_
      refine tn<|?_
      replace hS:=hS.pickL (.cons (.tail .head) (.cons (.tail .head) (.cons (.tail .head) .nil)))
      exact ⟨vB2,HB1,oaB3,capB4,vsB5,hm,hxHB1,hF.has ⟨rfl,rfl,trivial⟩,hS,hvB6⟩
  clear hm hF hS
  rintro a w ⟨vA2,HA1,oaA3,capA4,vsA5,hm,hxHA1,hF,hS,hvA6⟩
  unfold Z1j at hm
  refine th<|?_
  refine rg<|?_
  refine ls<|q1 hF rfl (e_ldA hF Tryz.isAgg26 Tryz.sizeOf26 rfl rfl ((St.ld hS).cellsB (.tail _ (.tail _ (.head _))))) fun a hF=>?_
  refine ls<|s_blkA hF hS Tryz.sizeOf26 rfl rfl rfl rfl (one_cells rfl) .head fun w hS=>?_
  refine re<|?_
  refine tn<|?_
  refine wr<|?_
  obtain ⟨H86,hx83,hr84,hc85,hS⟩:=St.frzS hS (.tail .head) hvA6
  obtain rfl:=Option.some.inj hm
  exact r1c (vs:=[.int .i64 p1.Regs,.int .i64 p1.Counts,.slice oaA3 vA2.length capA4]) (.inl rfl) hF Tryz.results14 rfl Tryz.isAgg26 Tryz.sizeOf26 rfl ((St.ld hS).cellsB (.head _)) ⟨H86,_,rfl,(show Enc.rep (α:=api_Code) H86 [.int .i64 p1.Regs,.int .i64 p1.Counts,.slice oaA3 vA2.length capA4] (api_Code.mk p1.Regs p1.Counts vA2) from ⟨_,_,rfl,rfl,⟨_,_,rfl,rfl,⟨_,_,rfl,hc85,hr84⟩⟩⟩),(Ext.trans hxHA1 hx83),(St.le hS),hS.keep⟩
set_option maxHeartbeats 4000000 in
set_option maxRecDepth 100000 in
theorem Z1h_c {N:Nat} {w0:World} {H:PH} (hH:H.le w0) {cs2:List Value} {p1:api_Unit} (g3:Enc.rep H cs2 p1) {r:api_Unit} (hm:Z1h N p1=some r):Tot Tryz.prog 7 #[.agg cs2.toArray] w0 (fun v w'=>∃ (H':PH) (cs0:List Value),v=.agg cs0.toArray∧Enc.rep H' cs0 r∧Ext w0 H H'∧H'.le w'∧Keep Nil w0 w'):=by
  unfold Z1h at hm
  refine fn0 (args:=[.agg cs2.toArray]) (F:=[(0,.agg cs2.toArray)]) Tryz.func7 rfl Tryz.ntmps7 rfl rfl fun a hF=>?_
  have hS:St w0 Nil [H] [] w0:=start1 hH
  have g4:Enc.rep (α:=(List Int)×Int×(List Int)×Int×(List api_Code)×api_Code×(List (List api_Op))) H cs2 (p1.Lines,p1.Stays,p1.Firsts,p1.Locks,p1.Threads,p1.Recover,p1.Claims):=g3
  obtain ⟨qz5,qz6,rfl,g7,g8⟩:=g4
  obtain ⟨oa9,cap10,rfl,hc11,hr12⟩:=g7
  obtain ⟨q13,q14,rfl,g15,g16⟩:=g8
  obtain rfl:q13=[.int .i64 p1.Stays]:=g15
  obtain ⟨q17,q18,rfl,g19,g20⟩:=g16
  obtain ⟨oa21,cap22,rfl,hc23,hr24⟩:=g19
  obtain ⟨q25,q26,rfl,g27,g28⟩:=g20
  obtain rfl:q25=[.int .i64 p1.Locks]:=g27
  obtain ⟨q29,q30,rfl,g31,g32⟩:=g28
  obtain ⟨oa33,cap34,rfl,hc35,hr36⟩:=g31
  obtain ⟨q37,q38,rfl,g39,g40⟩:=g32
  obtain ⟨oa41,cap42,rfl,hc43,hr44⟩:=api_Code_open g39
  obtain ⟨oa45,cap46,rfl,hc47,hr48⟩:=g40
  refine th<|?_
  refine rg<|?_
  refine ls<|a_box (cs:=[.slice oa9 p1.Lines.length cap10,.int .i64 p1.Stays,.slice oa21 p1.Firsts.length cap22,.int .i64 p1.Locks,.slice oa33 p1.Threads.length cap34,.int .i64 p1.Recover.Regs,.int .i64 p1.Recover.Counts,.slice oa41 p1.Recover.L.length cap42,.slice oa45 p1.Claims.length cap46].toArray) hF rfl hS rfl rfl fun b49 w a hS hF=>?_
  refine ls<|a_alloc (cs:=[.slice none 0 0,.int .i64 0,.slice none 0 0,.int .i64 0,.slice none 0 0,.int .i64 0,.int .i64 0,.slice none 0 0,.slice none 0 0].toArray) hF rfl hS Tryz.zeroValue29 rfl fun b50 w a hS hF=>?_
  refine re<|?_
  refine tn<|th<|midK (fun a w=>∃ (vA3:(List Int)) (vA8:(List Int)) (vA13:Int) (vA14:Int) (vA15:(List api_Instr)) (HA1:PH) (bA2:Nat) (oaA4:Option Addr) (capA5:Nat) (oaA9:Option Addr) (capA10:Nat) (oaA16:Option Addr) (capA17:Nat),(Z1l N p1) vA3 vA8 vA13 vA14 vA15=some r∧Ext w0 H HA1∧Fr 80 [(1,.pointer (some ⟨b49,0,none⟩)),(2,.pointer (some ⟨b50,0,none⟩)),(3,.pointer (some ⟨bA2,0,none⟩))] a∧St w0 Nil [HA1] [blk b49 (.cells [.slice oa9 p1.Lines.length cap10,.int .i64 p1.Stays,.slice oa21 p1.Firsts.length cap22,.int .i64 p1.Locks,.slice oa33 p1.Threads.length cap34,.int .i64 p1.Recover.Regs,.int .i64 p1.Recover.Counts,.slice oa41 p1.Recover.L.length cap42,.slice oa45 p1.Claims.length cap46].toArray 29 (0,0)),blk b50 (.cells [.slice none 0 0,.int .i64 0,.slice none 0 0,.int .i64 0,.slice none 0 0,.int .i64 0,.int .i64 0,.slice none 0 0,.slice none 0 0].toArray 29 (0,0)),blk bA2 (.cells [.slice oaA4 vA3.length capA5,.int .i64 p1.Stays,.slice oaA9 vA8.length capA10,.int .i64 p1.Locks,.slice none 0 0,.int .i64 vA13,.int .i64 vA14,.slice oaA16 vA15.length capA17,.slice none 0 0].toArray 29 (0,0))] w∧vA3.length≤capA5∧SR HA1 oaA4 vA3∧vA8.length≤capA10∧SR HA1 oaA9 vA8∧vA15.length≤capA17∧SR HA1 oaA16 vA15) ?_ ?_
  ·
    replace hm:=bind_some hm
    obtain ⟨l51,h52,hm⟩:=hm
    obtain ⟨oa53,cap54,e55,e56,hc57,hr58⟩:=SR.sub (sz:=1) hr12 hc11 rfl h52
    replace hm:=bind_some hm
    obtain ⟨l59,h60,hm⟩:=hm
    obtain ⟨oa61,cap62,e63,e64,hc65,hr66⟩:=SR.sub (sz:=1) hr24 hc23 rfl h60
    replace hm:=bind_some hm
    obtain ⟨r67,h68,hm⟩:=hm
    refine rdS 23 hS wide fun w hS=>?_
    refine d1 (i:=0) rfl (by kernel_rfl) (by kernel_rfl) (St.ld hS) hF rfl (fun _ _ _ h=>h) (fun w hl=>(e_fa hF fa29_0 rfl)) fun a hF=>?_
    refine d1 (i:=1) rfl (by kernel_rfl) (by kernel_rfl) (St.ld hS) hF rfl (fun _ _ _ h=>h) (fun w hl=>(e_ld hF Tryz.isAgg22 rfl (hl.cellB (.tail _ (.head _)) rfl))) fun a hF=>?_
    refine d1 (i:=2) rfl (by kernel_rfl) (by kernel_rfl) (St.ld hS) hF rfl (fun _ _ _ h=>h) (fun w hl=>(e_fa hF fa29_0 rfl)) fun a hF=>?_
    refine d1 (i:=3) rfl (by kernel_rfl) (by kernel_rfl) (St.ld hS) hF rfl (fun _ _ _ h=>h) (fun w hl=>(e_ld hF Tryz.isAgg22 rfl (hl.cellB (.tail _ (.head _)) rfl))) fun a hF=>?_
    refine d1 (i:=4) rfl (by kernel_rfl) (by kernel_rfl) (St.ld hS) hF rfl (fun _ _ _ h=>h) (fun w hl=>(e_lenL (α:=Int) (xs:=p1.Lines) hF Tryz.runUnderlying22 rfl)) fun a hF=>?_
    refine d1 (i:=5) rfl (by kernel_rfl) (by kernel_rfl) (St.ld hS) hF rfl (fun _ _ _ h=>h) (fun w hl=>(e_min hF rfl rfl)) fun a hF=>?_
    refine d1 (i:=6) rfl (by kernel_rfl) (by kernel_rfl) (St.ld hS) hF rfl (fun _ _ _ h=>h) (fun w hl=>(e_subL (xs:=p1.Lines) (vl:=0) (vh:=(min (p1.Lines.length:Int) 10)) hF Tryz.runUnderlying22 Tryz.sizeOf3 rfl hc11 rfl rfl h52 e55 e56)) fun a hF=>?_
    refine d1 (i:=7) rfl (by kernel_rfl) (by kernel_rfl) (St.ld hS) hF rfl (fun _ _ _ h=>h) (fun w hl=>(e_fa hF fa29_1 rfl)) fun a hF=>?_
    refine d1 (i:=8) rfl (by kernel_rfl) (by kernel_rfl) (St.ld hS) hF rfl (fun _ _ _ h=>h) (fun w hl=>(e_ld hF Tryz.isAgg3 rfl (hl.cellB (.tail _ (.head _)) rfl))) fun a hF=>?_
    refine d1 (i:=9) rfl (by kernel_rfl) (by kernel_rfl) (St.ld hS) hF rfl (fun _ _ _ h=>h) (fun w hl=>(e_fa hF fa29_2 rfl)) fun a hF=>?_
    refine d1 (i:=10) rfl (by kernel_rfl) (by kernel_rfl) (St.ld hS) hF rfl (fun _ _ _ h=>h) (fun w hl=>(e_ld hF Tryz.isAgg22 rfl (hl.cellB (.tail _ (.head _)) rfl))) fun a hF=>?_
    refine d1 (i:=11) rfl (by kernel_rfl) (by kernel_rfl) (St.ld hS) hF rfl (fun _ _ _ h=>h) (fun w hl=>(e_fa hF fa29_2 rfl)) fun a hF=>?_
    refine d1 (i:=12) rfl (by kernel_rfl) (by kernel_rfl) (St.ld hS) hF rfl (fun _ _ _ h=>h) (fun w hl=>(e_ld hF Tryz.isAgg22 rfl (hl.cellB (.tail _ (.head _)) rfl))) fun a hF=>?_
    refine d1 (i:=13) rfl (by kernel_rfl) (by kernel_rfl) (St.ld hS) hF rfl (fun _ _ _ h=>h) (fun w hl=>(e_lenL (α:=Int) (xs:=p1.Firsts) hF Tryz.runUnderlying22 rfl)) fun a hF=>?_
    refine d1 (i:=14) rfl (by kernel_rfl) (by kernel_rfl) (St.ld hS) hF rfl (fun _ _ _ h=>h) (fun w hl=>(e_min hF rfl rfl)) fun a hF=>?_
    refine d1 (i:=15) rfl (by kernel_rfl) (by kernel_rfl) (St.ld hS) hF rfl (fun _ _ _ h=>h) (fun w hl=>(e_subL (xs:=p1.Firsts) (vl:=0) (vh:=(min (p1.Firsts.length:Int) 10)) hF Tryz.runUnderlying22 Tryz.sizeOf3 rfl hc23 rfl rfl h60 e63 e64)) fun a hF=>?_
    refine d1 (i:=16) rfl (by kernel_rfl) (by kernel_rfl) (St.ld hS) hF rfl (fun _ _ _ h=>h) (fun w hl=>(e_fa hF fa29_3 rfl)) fun a hF=>?_
    refine d1 (i:=17) rfl (by kernel_rfl) (by kernel_rfl) (St.ld hS) hF rfl (fun _ _ _ h=>h) (fun w hl=>(e_ld hF Tryz.isAgg3 rfl (hl.cellB (.tail _ (.head _)) rfl))) fun a hF=>?_
    refine d1 (i:=18) rfl (by kernel_rfl) (by kernel_rfl) (St.ld hS) hF rfl (fun _ _ _ h=>h) (fun w hl=>(e_fa hF fa29_5 rfl)) fun a hF=>?_
    refine d1 (i:=19) rfl (by kernel_rfl) (by kernel_rfl) (St.ld hS) hF rfl (fun _ _ _ h=>h) (fun w hl=>(e_ldA hF Tryz.isAgg26 Tryz.sizeOf26 rfl rfl (Lds.cellsP (pre:=[.slice oa9 p1.Lines.length cap10,.int .i64 p1.Stays,.slice oa21 p1.Firsts.length cap22,.int .i64 p1.Locks,.slice oa33 p1.Threads.length cap34]) (vs:=[.int .i64 p1.Recover.Regs,.int .i64 p1.Recover.Counts,.slice oa41 p1.Recover.L.length cap42]) (post:=[.slice oa45 p1.Claims.length cap46]) hl (.tail _ (.head _))))) fun a hF=>?_
    refine da2 (i:=20) (j:=22) (by kernel_rfl) ?_ ?_
    ·
      refine di (i:=20) rfl<|c1 hF rfl Tryz.call14 (Z1i_c (St.le hS) (show Enc.rep (α:=api_Code) H [.int .i64 p1.Recover.Regs,.int .i64 p1.Recover.Counts,.slice oa41 p1.Recover.L.length cap42] p1.Recover from ⟨_,_,rfl,rfl,⟨_,_,rfl,rfl,⟨_,_,rfl,hc43,hr44⟩⟩⟩) h68) ⟨rfl,trivial⟩ (fun v w a hR hF=>?_)
      obtain ⟨H72,cs73,rfl,g74,hx69,hl70,hk⟩:=hR
      obtain ⟨hS,hx69⟩:=And.intro (St.passH hS hk hx69 hl70) (St.extc hS hx69)
      clear hk
      obtain ⟨oa75,cap76,rfl,hc77,hr78⟩:=api_Code_open g74
      refine ⟨fun _=>(St.ldsX hS hx69.sub (fun _ h=>h)),?_⟩
      refine d1 (i:=21) rfl (by kernel_rfl) (by kernel_rfl) (St.ldsX hS hx69.sub (fun _ h=>h)) hF rfl (fun _ _ _ h=>h) (fun w hl=>(e_bldK [.slice oa53 l51.length cap54,.int .i64 p1.Stays,.slice oa61 l59.length cap62,.int .i64 p1.Locks,.agg #[.int .i64 r67.Regs,.int .i64 r67.Counts,.slice oa75 r67.L.length cap76]] [.slice oa53 l51.length cap54,.int .i64 p1.Stays,.slice oa61 l59.length cap62,.int .i64 p1.Locks,.slice none 0 0,.int .i64 r67.Regs,.int .i64 r67.Counts,.slice oa75 r67.L.length cap76,.slice none 0 0] hF ⟨rfl,rfl,rfl,rfl,rfl,trivial⟩ (fun w=>by kernel_rfl))) fun a hF=>?_
      refine da1 (i:=22) (by kernel_rfl) ?_
      refine di (i:=22) rfl<|a_alloc (cs:=[.slice none 0 0,.int .i64 0,.slice none 0 0,.int .i64 0,.slice none 0 0,.int .i64 0,.int .i64 0,.slice none 0 0,.slice none 0 0].toArray) hF rfl hS Tryz.zeroValue29 rfl fun b79 w a hS hF=>?_
      refine ⟨fun _=>(St.ldsX hS hx69.sub (fun _ h=>(.tail _ h))),?_⟩
      refine da1 (i:=23) (by kernel_rfl) ?_
      refine di (i:=23) rfl<|s_blkA hF hS Tryz.sizeOf29 rfl rfl rfl rfl (one_cells rfl) .head fun w hS=>?_
      refine ⟨fun h=>absurd rfl h,?_⟩
      refine de (by kernel_rfl)<|?_
      refine tn<|?_
      replace hS:=hS.pickL (.cons (.tail (.tail .head)) (.cons (.tail .head) (.cons .head .nil)))
      exact ⟨l51,l59,r67.Regs,r67.Counts,r67.L,H72,b79,oa53,cap54,oa61,cap62,oa75,cap76,hm,hx69,hF.has ⟨rfl,rfl,rfl,trivial⟩,hS,hc57,(hr58.mono hx69.sub),hc65,(hr66.mono hx69.sub),hc77,hr78⟩
    ·
      refine di (i:=22) rfl<|a_alloc (cs:=[.slice none 0 0,.int .i64 0,.slice none 0 0,.int .i64 0,.slice none 0 0,.int .i64 0,.int .i64 0,.slice none 0 0,.slice none 0 0].toArray) hF rfl hS Tryz.zeroValue29 rfl fun b79 w a hS hF=>?_
      refine ⟨fun _=>(St.ldsX hS (fun _ _ h=>h) (fun _ h=>(.tail _ h))),?_⟩
      refine da1 (i:=20) (by kernel_rfl) ?_
      refine di (i:=20) rfl<|c1 hF rfl Tryz.call14 (Z1i_c (St.le hS) (show Enc.rep (α:=api_Code) H [.int .i64 p1.Recover.Regs,.int .i64 p1.Recover.Counts,.slice oa41 p1.Recover.L.length cap42] p1.Recover from ⟨_,_,rfl,rfl,⟨_,_,rfl,rfl,⟨_,_,rfl,hc43,hr44⟩⟩⟩) h68) ⟨rfl,trivial⟩ (fun v w a hR hF=>?_)
      obtain ⟨H72,cs73,rfl,g74,hx69,hl70,hk⟩:=hR
      obtain ⟨hS,hx69⟩:=And.intro (St.passH hS hk hx69 hl70) (St.extc hS hx69)
      clear hk
      obtain ⟨oa75,cap76,rfl,hc77,hr78⟩:=api_Code_open g74
      refine ⟨fun _=>(St.ldsX hS hx69.sub (fun _ h=>(.tail _ h))),?_⟩
      refine d1 (i:=21) rfl (by kernel_rfl) (by kernel_rfl) (St.ldsX hS hx69.sub (fun _ h=>(.tail _ h))) hF rfl (fun _ _ _ h=>h) (fun w hl=>(e_bldK [.slice oa53 l51.length cap54,.int .i64 p1.Stays,.slice oa61 l59.length cap62,.int .i64 p1.Locks,.agg #[.int .i64 r67.Regs,.int .i64 r67.Counts,.slice oa75 r67.L.length cap76]] [.slice oa53 l51.length cap54,.int .i64 p1.Stays,.slice oa61 l59.length cap62,.int .i64 p1.Locks,.slice none 0 0,.int .i64 r67.Regs,.int .i64 r67.Counts,.slice oa75 r67.L.length cap76,.slice none 0 0] hF ⟨rfl,rfl,rfl,rfl,rfl,trivial⟩ (fun w=>by kernel_rfl))) fun a hF=>?_
      refine da1 (i:=23) (by kernel_rfl) ?_
      refine di (i:=23) rfl<|s_blkA hF hS Tryz.sizeOf29 rfl rfl rfl rfl (one_cells rfl) .head fun w hS=>?_
      refine ⟨fun h=>absurd rfl h,?_⟩
      refine de (by kernel_rfl)<|?_
      refine tn<|?_
      replace hS:=hS.pickL (.cons (.tail (.tail .head)) (.cons (.tail .head) (.cons .head .nil)))
      exact ⟨l51,l59,r67.Regs,r67.Counts,r67.L,H72,b79,oa53,cap54,oa61,cap62,oa75,cap76,hm,hx69,hF.has ⟨rfl,rfl,rfl,trivial⟩,hS,hc57,(hr58.mono hx69.sub),hc65,(hr66.mono hx69.sub),hc77,hr78⟩
  clear hm hF hS
  rintro a w ⟨vA3,vA8,vA13,vA14,vA15,HA1,bA2,oaA4,capA5,oaA9,capA10,oaA16,capA17,hm,hxHA1,hF,hS,hcA6,hrA7,hcA11,hrA12,hcA18,hrA19⟩
  unfold Z1l at hm
  refine th<|th<|?_
  refine rg<|?_
  refine ls<|q1 hF rfl (e_asg hF rfl) fun a hF=>?_
  refine re<|?_
  refine tn<|midK (fun a w=>∃ (vA21:(List api_Code)) (HA20:PH) (oaA22:Option Addr) (capA23:Nat) (vsA24:List Value),(Z1m N p1 vA3 vA8 vA13 vA14 vA15) vA21=some r∧Ext w0 HA1 HA20∧Fr 80 [(1,.pointer (some ⟨b49,0,none⟩)),(2,.pointer (some ⟨b50,0,none⟩)),(3,.pointer (some ⟨bA2,0,none⟩))] a∧St w0 Nil [HA20] [blk b49 (.cells [.slice oa9 p1.Lines.length cap10,.int .i64 p1.Stays,.slice oa21 p1.Firsts.length cap22,.int .i64 p1.Locks,.slice oa33 p1.Threads.length cap34,.int .i64 p1.Recover.Regs,.int .i64 p1.Recover.Counts,.slice oa41 p1.Recover.L.length cap42,.slice oa45 p1.Claims.length cap46].toArray 29 (0,0)),blk b50 (.cells [.slice none 0 0,.int .i64 0,.slice none 0 0,.int .i64 0,.slice none 0 0,.int .i64 0,.int .i64 0,.slice none 0 0,.slice none 0 0].toArray 29 (0,0)),sla 26 3 oaA22 vA21.length capA23 vsA24,blk bA2 (.cells [.slice oaA4 vA3.length capA5,.int .i64 p1.Stays,.slice oaA9 vA8.length capA10,.int .i64 p1.Locks,.slice oaA22 vA21.length capA23,.int .i64 vA13,.int .i64 vA14,.slice oaA16 vA15.length capA17,.slice none 0 0].toArray 29 (0,0))] w∧Rows HA20 vsA24 vA21) ?_ ?_
  ·
    replace hS:=St.nilS hS 26 3
    replace hS:=hS.pickL (.cons (.tail .head) (.cons (.tail .head) (.cons .head (.cons .head .nil))))
    refine wb<|lp (α:=Nat×(List api_Code)×Int) (fun (gh:Nat×(List api_Code)×Int) a w=>match gh with | (nn3,vB2,vB8)=>∃ (HB1:PH) (oaB3:Option Addr) (capB4:Nat) (vsB5:List Value),(Z1o N (Z1m N p1 vA3 vA8 vA13 vA14 vA15) p1) nn3 vB2 vB8=some r∧Ext w0 HA1 HB1∧Fr 80 [(1,.pointer (some ⟨b49,0,none⟩)),(2,.pointer (some ⟨b50,0,none⟩)),(3,.pointer (some ⟨bA2,0,none⟩)),(4,.int .i64 vB8)] a∧St w0 Nil [HB1] [blk b49 (.cells [.slice oa9 p1.Lines.length cap10,.int .i64 p1.Stays,.slice oa21 p1.Firsts.length cap22,.int .i64 p1.Locks,.slice oa33 p1.Threads.length cap34,.int .i64 p1.Recover.Regs,.int .i64 p1.Recover.Counts,.slice oa41 p1.Recover.L.length cap42,.slice oa45 p1.Claims.length cap46].toArray 29 (0,0)),blk b50 (.cells [.slice none 0 0,.int .i64 0,.slice none 0 0,.int .i64 0,.slice none 0 0,.int .i64 0,.int .i64 0,.slice none 0 0,.slice none 0 0].toArray 29 (0,0)),sla 26 3 oaB3 vB2.length capB4 vsB5,blk bA2 (.cells [.slice oaA4 vA3.length capA5,.int .i64 p1.Stays,.slice oaA9 vA8.length capA10,.int .i64 p1.Locks,.slice oaB3 vB2.length capB4,.int .i64 vA13,.int .i64 vA14,.slice oaA16 vA15.length capA17,.slice none 0 0].toArray 29 (0,0))] w∧Rows HB1 vsB5 vB2) (fun gh=>gh.1) (N,[],0) ⟨HA1,none,0,[],hm,(Ext.refl _ _),hF.has ⟨rfl,rfl,rfl,rfl,trivial⟩,hS,.nil⟩ ?_
    clear hm hF hS
    rintro ⟨nn3,vB2,vB8⟩ a w ⟨HB1,oaB3,capB4,vsB5,hm,hxHB1,hF,hS,hvB6⟩
    obtain _ | nn3:=nn3
    · simp [Z1o] at hm
    rw [Z1o] at hm
    refine th<|th<|?_
    refine rg<|?_
    refine ls<|q1 hF rfl (e_move hF rfl) fun a hF=>?_
    refine ls<|q1 hF rfl (e_fa hF fa29_4 rfl) fun a hF=>?_
    refine ls<|q1 hF rfl (e_ld hF Tryz.isAgg23 rfl ((St.ld hS).cellB (.head _) rfl)) fun a hF=>?_
    refine ls<|q1 hF rfl (e_lenL (α:=api_Code) (xs:=p1.Threads) hF Tryz.runUnderlying23 rfl) fun a hF=>?_
    refine ls<|q1 hF rfl (e_lss hF rfl rfl) fun a hF=>?_
    refine ls<|q1 hF rfl (e_move hF rfl) fun a hF=>?_
    refine grp (N:=80) (Fk:=[(1,.pointer (some ⟨b49,0,none⟩)),(2,.pointer (some ⟨b50,0,none⟩)),(3,.pointer (some ⟨bA2,0,none⟩)),(4,.int .i64 vB8),(36,.bool ((decide (vB8 < (p1.Threads.length:Int))) && (decide (vB8 < 4))))]) (b:=(decide (vB8 < (p1.Threads.length:Int)))) 3 hS ?_ ?_ ?_
    ·
      intro hb key
      replace hF:=Fr.as hF (t:=33) rfl (congrArg Value.bool hb)
      refine ls<|gy hF rfl rfl<|q1 hF rfl (e_move hF rfl) fun a hF=>?_
      refine ls<|gy hF rfl rfl<|q1 hF rfl (e_lss hF rfl rfl) fun a hF=>?_
      refine ls<|q1 hF rfl (e_as (v':=.bool ((decide (vB8 < (p1.Threads.length:Int))) && (decide (vB8 < 4)))) (e_pickT hF rfl rfl) (by rw [hb];rfl)) fun a hF=>?_
      exact key _ _ (hF.has ⟨rfl,rfl,rfl,rfl,rfl,trivial⟩) hS
    ·
      intro hb key
      replace hF:=Fr.as hF (t:=33) rfl (congrArg Value.bool hb)
      refine ls<|gn hF rfl rfl rfl rfl fun a hF=>?_
      refine ls<|gn hF rfl rfl rfl rfl fun a hF=>?_
      refine ls<|q1 hF rfl (e_as (v':=.bool ((decide (vB8 < (p1.Threads.length:Int))) && (decide (vB8 < 4)))) (e_pickF hF rfl rfl) (by rw [hb];rfl)) fun a hF=>?_
      exact key _ _ (hF.has ⟨rfl,rfl,rfl,rfl,rfl,trivial⟩) hS
    intro a w hF hS
    refine re<|?_
    rcases bdich ((decide (vB8 < (p1.Threads.length:Int))) && (decide (vB8 < 4))) with hb80 | hb80
    ·
      replace hm:=ite_t hm hb80
      refine tn<|ctv hF rfl hb80<|wk<|?_
      refine tn<|th<|wb<|?_
      replace hm:=bind_some hm
      obtain ⟨x81,h82,hm⟩:=hm
      obtain ⟨c83,g84,hl85⟩:=SR.get hr36 h82
      obtain ⟨oa86,cap87,rfl,hc88,hr89⟩:=api_Code_open g84
      replace hm:=bind_some hm
      obtain ⟨r90,h91,hm⟩:=hm
      replace hm:=bind_some hm
      obtain ⟨l105,h106,hm⟩:=hm
      refine rdL (sub_cons (.head _) (sub_cons (.tail _ (.head _)) (sub_cons (.tail _ (.tail _ (.tail _ (.head _)))) sub_nil))) 11 hS wide fun w hS=>?_
      refine d1 (i:=0) rfl (by kernel_rfl) (by kernel_rfl) (St.ldsX hS (fun _ _ h=>h) (sub_cons (.head _) (sub_cons (.tail _ (.head _)) (sub_cons (.tail _ (.tail _ (.tail _ (.head _)))) sub_nil)))) hF rfl (fun _ _ _ h=>h) (fun w hl=>(e_fa hF fa29_4 rfl)) fun a hF=>?_
      refine d1 (i:=1) rfl (by kernel_rfl) (by kernel_rfl) (St.ldsX hS (fun _ _ h=>h) (sub_cons (.head _) (sub_cons (.tail _ (.head _)) (sub_cons (.tail _ (.tail _ (.tail _ (.head _)))) sub_nil)))) hF rfl (fun _ _ _ h=>h) (fun w hl=>(e_ld hF Tryz.isAgg23 rfl (hl.cellB (.tail _ (.tail _ (.head _))) rfl))) fun a hF=>?_
      refine d1 (i:=2) rfl (by kernel_rfl) (by kernel_rfl) (St.ldsX hS (fun _ _ h=>h) (sub_cons (.head _) (sub_cons (.tail _ (.head _)) (sub_cons (.tail _ (.tail _ (.tail _ (.head _)))) sub_nil)))) hF rfl (fun _ _ _ h=>h) (fun w hl=>(e_fa hF fa29_4 rfl)) fun a hF=>?_
      refine d1 (i:=3) rfl (by kernel_rfl) (by kernel_rfl) (St.ldsX hS (fun _ _ h=>h) (sub_cons (.head _) (sub_cons (.tail _ (.head _)) (sub_cons (.tail _ (.tail _ (.tail _ (.head _)))) sub_nil)))) hF rfl (fun _ _ _ h=>h) (fun w hl=>(e_ld hF Tryz.isAgg23 rfl (hl.cellB (.head _) rfl))) fun a hF=>?_
      refine d1 (i:=4) rfl (by kernel_rfl) (by kernel_rfl) (St.ldsX hS (fun _ _ h=>h) (sub_cons (.head _) (sub_cons (.tail _ (.head _)) (sub_cons (.tail _ (.tail _ (.tail _ (.head _)))) sub_nil)))) hF rfl (fun _ _ _ h=>h) (fun w hl=>(e_move hF rfl)) fun a hF=>?_
      refine d1 (i:=5) rfl (by kernel_rfl) (by kernel_rfl) (St.ldsX hS (fun _ _ h=>h) (sub_cons (.head _) (sub_cons (.tail _ (.head _)) (sub_cons (.tail _ (.tail _ (.tail _ (.head _)))) sub_nil)))) hF rfl (fun _ _ _ h=>h) (fun w hl=>(e_iaI hF Tryz.runUnderlying23 Tryz.sizeOf26 rfl rfl h82 (SR.oaI hr36 (by decide) h82))) fun a hF=>?_
      refine d1 (i:=6) rfl (by kernel_rfl) (by kernel_rfl) (St.ldsX hS (fun _ _ h=>h) (sub_cons (.head _) (sub_cons (.tail _ (.head _)) (sub_cons (.tail _ (.tail _ (.tail _ (.head _)))) sub_nil)))) hF rfl (fun _ _ _ h=>h) (fun w hl=>(e_ldA hF Tryz.isAgg26 Tryz.sizeOf26 rfl rfl (fun j v hj=>PH.le.cell (fun b o hx=>(Lds.le hl) b o ((fun b o h=>hxHB1.sub b o (hxHA1.sub b o h)) b o hx)) (hl85 j v hj)))) fun a hF=>?_
      refine da1 (i:=7) (by kernel_rfl) ?_
      refine di (i:=7) rfl<|c1 hF rfl Tryz.call14 (Z1i_c (St.le hS) (show Enc.rep (α:=api_Code) HB1 [.int .i64 x81.Regs,.int .i64 x81.Counts,.slice oa86 x81.L.length cap87] x81 from ⟨_,_,rfl,rfl,⟨_,_,rfl,rfl,⟨_,_,rfl,hc88,(hr89.mono (fun b o h=>hxHB1.sub b o (hxHA1.sub b o h)))⟩⟩⟩) h91) ⟨rfl,trivial⟩ (fun v w a hR hF=>?_)
      obtain ⟨H95,cs96,rfl,g97,hx92,hl93,hk⟩:=hR
      obtain ⟨hS,hx92⟩:=And.intro (St.passH hS hk hx92 hl93) (St.extc hS hx92)
      clear hk
      obtain ⟨oa98,cap99,rfl,hc100,hr101⟩:=api_Code_open g97
      refine ⟨fun _=>(St.ldsX hS hx92.sub (sub_cons (.head _) (sub_cons (.tail _ (.head _)) (sub_cons (.tail _ (.tail _ (.tail _ (.head _)))) sub_nil)))),?_⟩
      refine da1 (i:=8) (by kernel_rfl) ?_
      refine di (i:=8) rfl<|a_bsl (e:=26) (sz:=3) [.int .i64 r90.Regs,.int .i64 r90.Counts,.slice oa98 r90.L.length cap99] hF rfl hS rfl rfl rfl (fun w=>by kernel_rfl) fun b103 w a hS hF=>?_
      have hv102:Rows (α:=api_Code) H95 [.int .i64 r90.Regs,.int .i64 r90.Counts,.slice oa98 r90.L.length cap99] ([r90]:List api_Code):=(.cons (c:=[.int .i64 r90.Regs,.int .i64 r90.Counts,.slice oa98 r90.L.length cap99]) ⟨_,_,rfl,rfl,⟨_,_,rfl,rfl,⟨_,_,rfl,hc100,hr101⟩⟩⟩ .nil)
      refine ⟨fun _=>(St.ldsX hS hx92.sub (sub_cons (.tail _ (.head _)) (sub_cons (.tail _ (.tail _ (.head _))) (sub_cons (.tail _ (.tail _ (.tail _ (.tail _ (.head _))))) sub_nil)))),?_⟩
      refine da1 (i:=9) (by kernel_rfl) ?_
      refine di (i:=9) rfl<|m_app (α:=api_Code) (xs:=vB2) (ys:=([r90]:List api_Code)) hF rfl hS Tryz.underlying23 info26 rfl (by decide) rfl rfl rfl (.tail _ (.tail _ (.tail _ (.head _)))) (hvB6.mono hx92.sub) (hS.rdO (.head _)) hv102 h106 fun oa107 cap108 vs109 w a hv110 hU hF=>?_
      replace hS:=hU _ (.tail (.tail (.tail .head)))
      clear hU
      replace hS:=hS.drop .head
      refine ⟨fun _=>(St.ldsX hS hx92.sub (sub_cons (.head _) (sub_cons (.tail _ (.head _)) (sub_cons (.tail _ (.tail _ (.tail _ (.head _)))) sub_nil)))),?_⟩
      refine d1 (i:=10) rfl (by kernel_rfl) (by kernel_rfl) (St.ldsX hS hx92.sub (sub_cons (.head _) (sub_cons (.tail _ (.head _)) (sub_cons (.tail _ (.tail _ (.tail _ (.head _)))) sub_nil)))) hF rfl (fun _ _ _ h=>h) (fun w hl=>(e_fa hF fa29_4 rfl)) fun a hF=>?_
      refine da1 (i:=11) (by kernel_rfl) ?_
      refine di (i:=11) rfl<|s_blk hF hS Tryz.sizeOf23 rfl rfl rfl rfl (.tail (.tail (.tail .head))) (.succ (.succ (.succ (.succ .zero)))) fun w hS=>?_
      refine ⟨fun h=>absurd rfl h,?_⟩
      refine de (by kernel_rfl)<|?_
      refine bn<|tn<|?_
      refine rg<|?_
      refine ls<|q1 hF rfl (e_move hF rfl) fun a hF=>?_
      refine ls<|q1 hF rfl (e_add hF rfl rfl) fun a hF=>?_
      refine ls<|q1 hF rfl (e_asg hF rfl) fun a hF=>?_
      refine re<|?_
      refine tn<|?_
      exact ⟨(nn3,l105,(IntKind.i64.wrap (vB8+1))),⟨H95,oa107,cap108,vs109,hm,(Ext.trans hxHB1 hx92),hF.has ⟨rfl,rfl,rfl,rfl,trivial⟩,hS,hv110⟩,Nat.lt_succ_self _⟩
    ·
      replace hm:=ite_f hm hb80
      refine tn<|cfv hF rfl hb80<|?_
      refine we<|tx<|tx<|bx<|?_
      refine tn<|?_
      exact ⟨vB2,HB1,oaB3,capB4,vsB5,hm,hxHB1,hF.has ⟨rfl,rfl,rfl,trivial⟩,hS,hvB6⟩
  clear hm hF hS
  rintro a w ⟨vA21,HA20,oaA22,capA23,vsA24,hm,hxHA20,hF,hS,hvA25⟩
  unfold Z1m at hm
  refine th<|th<|?_
  refine rg<|?_
  refine ls<|q1 hF rfl (e_asg hF rfl) fun a hF=>?_
  refine re<|?_
  refine tn<|midK (fun a w=>∃ (vA27:(List (List api_Op))) (oaA28:Option Addr) (capA29:Nat) (vsA30:List Value),(Z1n p1 vA3 vA8 vA13 vA14 vA15 vA21) vA27=some r∧Fr 80 [(2,.pointer (some ⟨b50,0,none⟩)),(3,.pointer (some ⟨bA2,0,none⟩))] a∧St w0 Nil [HA20] [blk b50 (.cells [.slice none 0 0,.int .i64 0,.slice none 0 0,.int .i64 0,.slice none 0 0,.int .i64 0,.int .i64 0,.slice none 0 0,.slice none 0 0].toArray 29 (0,0)),sla 26 3 oaA22 vA21.length capA23 vsA24,sla 54 1 oaA28 vA27.length capA29 vsA30,blk bA2 (.cells [.slice oaA4 vA3.length capA5,.int .i64 p1.Stays,.slice oaA9 vA8.length capA10,.int .i64 p1.Locks,.slice oaA22 vA21.length capA23,.int .i64 vA13,.int .i64 vA14,.slice oaA16 vA15.length capA17,.slice oaA28 vA27.length capA29].toArray 29 (0,0))] w∧Rows HA20 vsA30 vA27) ?_ ?_
  ·
    replace hS:=St.nilS hS 54 1
    replace hS:=hS.pickL (.cons (.tail .head) (.cons (.tail .head) (.cons (.tail .head) (.cons .head (.cons .head .nil)))))
    refine wb<|lp (α:=Nat×(List (List api_Op))×Int) (fun (gh:Nat×(List (List api_Op))×Int) a w=>match gh with | (nn5,vB9,vB15)=>∃ (oaB10:Option Addr) (capB11:Nat) (vsB12:List Value),(Z1p N (Z1n p1 vA3 vA8 vA13 vA14 vA15 vA21) p1) nn5 vB9 vB15=some r∧Fr 80 [(1,.pointer (some ⟨b49,0,none⟩)),(2,.pointer (some ⟨b50,0,none⟩)),(3,.pointer (some ⟨bA2,0,none⟩)),(5,.int .i64 vB15)] a∧St w0 Nil [HA20] [blk b49 (.cells [.slice oa9 p1.Lines.length cap10,.int .i64 p1.Stays,.slice oa21 p1.Firsts.length cap22,.int .i64 p1.Locks,.slice oa33 p1.Threads.length cap34,.int .i64 p1.Recover.Regs,.int .i64 p1.Recover.Counts,.slice oa41 p1.Recover.L.length cap42,.slice oa45 p1.Claims.length cap46].toArray 29 (0,0)),blk b50 (.cells [.slice none 0 0,.int .i64 0,.slice none 0 0,.int .i64 0,.slice none 0 0,.int .i64 0,.int .i64 0,.slice none 0 0,.slice none 0 0].toArray 29 (0,0)),sla 26 3 oaA22 vA21.length capA23 vsA24,sla 54 1 oaB10 vB9.length capB11 vsB12,blk bA2 (.cells [.slice oaA4 vA3.length capA5,.int .i64 p1.Stays,.slice oaA9 vA8.length capA10,.int .i64 p1.Locks,.slice oaA22 vA21.length capA23,.int .i64 vA13,.int .i64 vA14,.slice oaA16 vA15.length capA17,.slice oaB10 vB9.length capB11].toArray 29 (0,0))] w∧Rows HA20 vsB12 vB9) (fun gh=>gh.1) (N,[],0) ⟨none,0,[],hm,hF.has ⟨rfl,rfl,rfl,rfl,trivial⟩,hS,.nil⟩ ?_
    clear hm hF hS
    rintro ⟨nn5,vB9,vB15⟩ a w ⟨oaB10,capB11,vsB12,hm,hF,hS,hvB13⟩
    obtain _ | nn5:=nn5
    · simp [Z1p] at hm
    rw [Z1p] at hm
    refine th<|th<|?_
    refine rg<|?_
    refine ls<|q1 hF rfl (e_move hF rfl) fun a hF=>?_
    refine ls<|q1 hF rfl (e_fa hF fa29_6 rfl) fun a hF=>?_
    refine ls<|q1 hF rfl (e_ld hF Tryz.isAgg27 rfl ((St.ld hS).cellB (.head _) rfl)) fun a hF=>?_
    refine ls<|q1 hF rfl (e_lenL (α:=(List api_Op)) (xs:=p1.Claims) hF Tryz.runUnderlying27 rfl) fun a hF=>?_
    refine ls<|q1 hF rfl (e_lss hF rfl rfl) fun a hF=>?_
    refine ls<|q1 hF rfl (e_move hF rfl) fun a hF=>?_
    refine grp (N:=80) (Fk:=[(1,.pointer (some ⟨b49,0,none⟩)),(2,.pointer (some ⟨b50,0,none⟩)),(3,.pointer (some ⟨bA2,0,none⟩)),(5,.int .i64 vB15),(58,.bool ((decide (vB15 < (p1.Claims.length:Int))) && (decide (vB15 < 5))))]) (b:=(decide (vB15 < (p1.Claims.length:Int)))) 3 hS ?_ ?_ ?_
    ·
      intro hb key
      replace hF:=Fr.as hF (t:=55) rfl (congrArg Value.bool hb)
      refine ls<|gy hF rfl rfl<|q1 hF rfl (e_move hF rfl) fun a hF=>?_
      refine ls<|gy hF rfl rfl<|q1 hF rfl (e_lss hF rfl rfl) fun a hF=>?_
      refine ls<|q1 hF rfl (e_as (v':=.bool ((decide (vB15 < (p1.Claims.length:Int))) && (decide (vB15 < 5)))) (e_pickT hF rfl rfl) (by rw [hb];rfl)) fun a hF=>?_
      exact key _ _ (hF.has ⟨rfl,rfl,rfl,rfl,rfl,trivial⟩) hS
    ·
      intro hb key
      replace hF:=Fr.as hF (t:=55) rfl (congrArg Value.bool hb)
      refine ls<|gn hF rfl rfl rfl rfl fun a hF=>?_
      refine ls<|gn hF rfl rfl rfl rfl fun a hF=>?_
      refine ls<|q1 hF rfl (e_as (v':=.bool ((decide (vB15 < (p1.Claims.length:Int))) && (decide (vB15 < 5)))) (e_pickF hF rfl rfl) (by rw [hb];rfl)) fun a hF=>?_
      exact key _ _ (hF.has ⟨rfl,rfl,rfl,rfl,rfl,trivial⟩) hS
    intro a w hF hS
    refine re<|?_
    rcases bdich ((decide (vB15 < (p1.Claims.length:Int))) && (decide (vB15 < 5))) with hb111 | hb111
    ·
      replace hm:=ite_t hm hb111
      refine tn<|ctv hF rfl hb111<|wk<|?_
      refine tn<|th<|wb<|?_
      replace hm:=bind_some hm
      obtain ⟨x112,h113,hm⟩:=hm
      obtain ⟨c114,g115,hl116⟩:=SR.get hr48 h113
      obtain ⟨oa117,cap118,rfl,hc119,hr120⟩:=g115
      replace hm:=bind_some hm
      obtain ⟨l121,h122,hm⟩:=hm
      obtain ⟨oa123,cap124,e125,e126,hc127,hr128⟩:=SR.sub (sz:=2) hr120 hc119 rfl h122
      replace hm:=bind_some hm
      obtain ⟨l132,h133,hm⟩:=hm
      refine rdL (sub_cons (.head _) (sub_cons (.tail _ (.head _)) (sub_cons (.tail _ (.tail _ (.head _))) (sub_cons (.tail _ (.tail _ (.tail _ (.tail _ (.head _))))) sub_nil)))) 18 hS wide fun w hS=>?_
      refine d1 (i:=0) rfl (by kernel_rfl) (by kernel_rfl) (St.ldsX hS (fun _ _ h=>h) (sub_cons (.head _) (sub_cons (.tail _ (.head _)) (sub_cons (.tail _ (.tail _ (.head _))) (sub_cons (.tail _ (.tail _ (.tail _ (.tail _ (.head _))))) sub_nil))))) hF rfl (fun _ _ _ h=>h) (fun w hl=>(e_fa hF fa29_6 rfl)) fun a hF=>?_
      refine d1 (i:=1) rfl (by kernel_rfl) (by kernel_rfl) (St.ldsX hS (fun _ _ h=>h) (sub_cons (.head _) (sub_cons (.tail _ (.head _)) (sub_cons (.tail _ (.tail _ (.head _))) (sub_cons (.tail _ (.tail _ (.tail _ (.tail _ (.head _))))) sub_nil))))) hF rfl (fun _ _ _ h=>h) (fun w hl=>(e_ld hF Tryz.isAgg27 rfl (hl.cellB (.tail _ (.tail _ (.tail _ (.head _)))) rfl))) fun a hF=>?_
      refine d1 (i:=2) rfl (by kernel_rfl) (by kernel_rfl) (St.ldsX hS (fun _ _ h=>h) (sub_cons (.head _) (sub_cons (.tail _ (.head _)) (sub_cons (.tail _ (.tail _ (.head _))) (sub_cons (.tail _ (.tail _ (.tail _ (.tail _ (.head _))))) sub_nil))))) hF rfl (fun _ _ _ h=>h) (fun w hl=>(e_fa hF fa29_6 rfl)) fun a hF=>?_
      refine d1 (i:=3) rfl (by kernel_rfl) (by kernel_rfl) (St.ldsX hS (fun _ _ h=>h) (sub_cons (.head _) (sub_cons (.tail _ (.head _)) (sub_cons (.tail _ (.tail _ (.head _))) (sub_cons (.tail _ (.tail _ (.tail _ (.tail _ (.head _))))) sub_nil))))) hF rfl (fun _ _ _ h=>h) (fun w hl=>(e_ld hF Tryz.isAgg27 rfl (hl.cellB (.head _) rfl))) fun a hF=>?_
      refine d1 (i:=4) rfl (by kernel_rfl) (by kernel_rfl) (St.ldsX hS (fun _ _ h=>h) (sub_cons (.head _) (sub_cons (.tail _ (.head _)) (sub_cons (.tail _ (.tail _ (.head _))) (sub_cons (.tail _ (.tail _ (.tail _ (.tail _ (.head _))))) sub_nil))))) hF rfl (fun _ _ _ h=>h) (fun w hl=>(e_move hF rfl)) fun a hF=>?_
      refine d1 (i:=5) rfl (by kernel_rfl) (by kernel_rfl) (St.ldsX hS (fun _ _ h=>h) (sub_cons (.head _) (sub_cons (.tail _ (.head _)) (sub_cons (.tail _ (.tail _ (.head _))) (sub_cons (.tail _ (.tail _ (.tail _ (.tail _ (.head _))))) sub_nil))))) hF rfl (fun _ _ _ h=>h) (fun w hl=>(e_iaI hF Tryz.runUnderlying27 Tryz.sizeOf54 rfl rfl h113 (SR.oaI hr48 (by decide) h113))) fun a hF=>?_
      refine d1 (i:=6) rfl (by kernel_rfl) (by kernel_rfl) (St.ldsX hS (fun _ _ h=>h) (sub_cons (.head _) (sub_cons (.tail _ (.head _)) (sub_cons (.tail _ (.tail _ (.head _))) (sub_cons (.tail _ (.tail _ (.tail _ (.tail _ (.head _))))) sub_nil))))) hF rfl (fun _ _ _ h=>h) (fun w hl=>(e_ld hF Tryz.isAgg54 rfl (PH.le.cell (fun b o hx=>(Lds.le hl) b o ((fun b o h=>hxHA20.sub b o (hxHA1.sub b o h)) b o hx)) (hl116 0 _ rfl)))) fun a hF=>?_
      refine d1 (i:=7) rfl (by kernel_rfl) (by kernel_rfl) (St.ldsX hS (fun _ _ h=>h) (sub_cons (.head _) (sub_cons (.tail _ (.head _)) (sub_cons (.tail _ (.tail _ (.head _))) (sub_cons (.tail _ (.tail _ (.tail _ (.tail _ (.head _))))) sub_nil))))) hF rfl (fun _ _ _ h=>h) (fun w hl=>(e_fa hF fa29_6 rfl)) fun a hF=>?_
      refine d1 (i:=8) rfl (by kernel_rfl) (by kernel_rfl) (St.ldsX hS (fun _ _ h=>h) (sub_cons (.head _) (sub_cons (.tail _ (.head _)) (sub_cons (.tail _ (.tail _ (.head _))) (sub_cons (.tail _ (.tail _ (.tail _ (.tail _ (.head _))))) sub_nil))))) hF rfl (fun _ _ _ h=>h) (fun w hl=>(e_ld hF Tryz.isAgg27 rfl (hl.cellB (.head _) rfl))) fun a hF=>?_
      refine d1 (i:=9) rfl (by kernel_rfl) (by kernel_rfl) (St.ldsX hS (fun _ _ h=>h) (sub_cons (.head _) (sub_cons (.tail _ (.head _)) (sub_cons (.tail _ (.tail _ (.head _))) (sub_cons (.tail _ (.tail _ (.tail _ (.tail _ (.head _))))) sub_nil))))) hF rfl (fun _ _ _ h=>h) (fun w hl=>(e_move hF rfl)) fun a hF=>?_
      refine d1 (i:=10) rfl (by kernel_rfl) (by kernel_rfl) (St.ldsX hS (fun _ _ h=>h) (sub_cons (.head _) (sub_cons (.tail _ (.head _)) (sub_cons (.tail _ (.tail _ (.head _))) (sub_cons (.tail _ (.tail _ (.tail _ (.tail _ (.head _))))) sub_nil))))) hF rfl (fun _ _ _ h=>h) (fun w hl=>(e_iaI hF Tryz.runUnderlying27 Tryz.sizeOf54 rfl rfl h113 (SR.oaI hr48 (by decide) h113))) fun a hF=>?_
      refine d1 (i:=11) rfl (by kernel_rfl) (by kernel_rfl) (St.ldsX hS (fun _ _ h=>h) (sub_cons (.head _) (sub_cons (.tail _ (.head _)) (sub_cons (.tail _ (.tail _ (.head _))) (sub_cons (.tail _ (.tail _ (.tail _ (.tail _ (.head _))))) sub_nil))))) hF rfl (fun _ _ _ h=>h) (fun w hl=>(e_ld hF Tryz.isAgg54 rfl (PH.le.cell (fun b o hx=>(Lds.le hl) b o ((fun b o h=>hxHA20.sub b o (hxHA1.sub b o h)) b o hx)) (hl116 0 _ rfl)))) fun a hF=>?_
      refine d1 (i:=12) rfl (by kernel_rfl) (by kernel_rfl) (St.ldsX hS (fun _ _ h=>h) (sub_cons (.head _) (sub_cons (.tail _ (.head _)) (sub_cons (.tail _ (.tail _ (.head _))) (sub_cons (.tail _ (.tail _ (.tail _ (.tail _ (.head _))))) sub_nil))))) hF rfl (fun _ _ _ h=>h) (fun w hl=>(e_lenL (α:=api_Op) (xs:=x112) hF Tryz.runUnderlying54 rfl)) fun a hF=>?_
      refine d1 (i:=13) rfl (by kernel_rfl) (by kernel_rfl) (St.ldsX hS (fun _ _ h=>h) (sub_cons (.head _) (sub_cons (.tail _ (.head _)) (sub_cons (.tail _ (.tail _ (.head _))) (sub_cons (.tail _ (.tail _ (.tail _ (.tail _ (.head _))))) sub_nil))))) hF rfl (fun _ _ _ h=>h) (fun w hl=>(e_min hF rfl rfl)) fun a hF=>?_
      refine d1 (i:=14) rfl (by kernel_rfl) (by kernel_rfl) (St.ldsX hS (fun _ _ h=>h) (sub_cons (.head _) (sub_cons (.tail _ (.head _)) (sub_cons (.tail _ (.tail _ (.head _))) (sub_cons (.tail _ (.tail _ (.tail _ (.tail _ (.head _))))) sub_nil))))) hF rfl (fun _ _ _ h=>h) (fun w hl=>(e_subL (xs:=x112) (vl:=0) (vh:=(min (x112.length:Int) 50)) hF Tryz.runUnderlying54 Tryz.sizeOf83 rfl hc119 rfl rfl h122 e125 e126)) fun a hF=>?_
      refine da1 (i:=15) (by kernel_rfl) ?_
      refine di (i:=15) rfl<|a_bsl (e:=54) (sz:=1) [.slice oa123 l121.length cap124] hF rfl hS rfl rfl rfl (fun w=>by kernel_rfl) fun b130 w a hS hF=>?_
      have hv129:Rows (α:=(List api_Op)) HA20 [.slice oa123 l121.length cap124] ([l121]:List (List api_Op)):=(.cons (c:=[.slice oa123 l121.length cap124]) ⟨_,_,rfl,hc127,(hr128.mono (fun b o h=>hxHA20.sub b o (hxHA1.sub b o h)))⟩ .nil)
      refine ⟨fun _=>(St.ldsX hS (fun _ _ h=>h) (sub_cons (.tail _ (.head _)) (sub_cons (.tail _ (.tail _ (.head _))) (sub_cons (.tail _ (.tail _ (.tail _ (.head _)))) (sub_cons (.tail _ (.tail _ (.tail _ (.tail _ (.tail _ (.head _)))))) sub_nil))))),?_⟩
      refine da1 (i:=16) (by kernel_rfl) ?_
      refine di (i:=16) rfl<|m_app (α:=(List api_Op)) (xs:=vB9) (ys:=([l121]:List (List api_Op))) hF rfl hS Tryz.underlying27 info54 rfl (by decide) rfl rfl rfl (.tail _ (.tail _ (.tail _ (.tail _ (.head _))))) hvB13 (hS.rdO (.head _)) hv129 h133 fun oa134 cap135 vs136 w a hv137 hU hF=>?_
      replace hS:=hU _ (.tail (.tail (.tail (.tail .head))))
      clear hU
      replace hS:=hS.drop .head
      refine ⟨fun _=>(St.ldsX hS (fun _ _ h=>h) (sub_cons (.head _) (sub_cons (.tail _ (.head _)) (sub_cons (.tail _ (.tail _ (.head _))) (sub_cons (.tail _ (.tail _ (.tail _ (.tail _ (.head _))))) sub_nil))))),?_⟩
      refine d1 (i:=17) rfl (by kernel_rfl) (by kernel_rfl) (St.ldsX hS (fun _ _ h=>h) (sub_cons (.head _) (sub_cons (.tail _ (.head _)) (sub_cons (.tail _ (.tail _ (.head _))) (sub_cons (.tail _ (.tail _ (.tail _ (.tail _ (.head _))))) sub_nil))))) hF rfl (fun _ _ _ h=>h) (fun w hl=>(e_fa hF fa29_6 rfl)) fun a hF=>?_
      refine da1 (i:=18) (by kernel_rfl) ?_
      refine di (i:=18) rfl<|s_blk hF hS Tryz.sizeOf27 rfl rfl rfl rfl (.tail (.tail (.tail (.tail .head)))) (.succ (.succ (.succ (.succ (.succ (.succ (.succ (.succ .zero)))))))) fun w hS=>?_
      refine ⟨fun h=>absurd rfl h,?_⟩
      refine de (by kernel_rfl)<|?_
      refine bn<|tn<|?_
      refine rg<|?_
      refine ls<|q1 hF rfl (e_move hF rfl) fun a hF=>?_
      refine ls<|q1 hF rfl (e_add hF rfl rfl) fun a hF=>?_
      refine ls<|q1 hF rfl (e_asg hF rfl) fun a hF=>?_
      refine re<|?_
      refine tn<|?_
      exact ⟨(nn5,l132,(IntKind.i64.wrap (vB15+1))),⟨oa134,cap135,vs136,hm,hF.has ⟨rfl,rfl,rfl,rfl,trivial⟩,hS,hv137⟩,Nat.lt_succ_self _⟩
    ·
      replace hm:=ite_f hm hb111
      refine tn<|cfv hF rfl hb111<|?_
      refine we<|tx<|tx<|bx<|?_
      refine tn<|?_
      replace hS:=hS.pickL (.cons (.tail .head) (.cons (.tail .head) (.cons (.tail .head) (.cons (.tail .head) .nil))))
      exact ⟨vB9,oaB10,capB11,vsB12,hm,hF.has ⟨rfl,rfl,trivial⟩,hS,hvB13⟩
  clear hm hF hS
  rintro a w ⟨vA27,oaA28,capA29,vsA30,hm,hF,hS,hvA31⟩
  unfold Z1n at hm
  refine th<|?_
  refine rg<|?_
  refine ls<|q1 hF rfl (e_ldA hF Tryz.isAgg29 Tryz.sizeOf29 rfl rfl ((St.ld hS).cellsB (.tail _ (.tail _ (.tail _ (.head _)))))) fun a hF=>?_
  refine ls<|s_blkA hF hS Tryz.sizeOf29 rfl rfl rfl rfl (one_cells rfl) .head fun w hS=>?_
  refine re<|?_
  refine tn<|?_
  refine wr<|?_
  obtain ⟨H141,hx138,hr139,hc140,hS⟩:=St.frzS hS (.tail .head) hvA25
  obtain ⟨H145,hx142,hr143,hc144,hS⟩:=St.frzS hS (.tail .head) (hvA31.mono hx138.sub)
  obtain rfl:=Option.some.inj hm
  exact r1c (vs:=[.slice oaA4 vA3.length capA5,.int .i64 p1.Stays,.slice oaA9 vA8.length capA10,.int .i64 p1.Locks,.slice oaA22 vA21.length capA23,.int .i64 vA13,.int .i64 vA14,.slice oaA16 vA15.length capA17,.slice oaA28 vA27.length capA29]) (.inl rfl) hF Tryz.results7 rfl Tryz.isAgg29 Tryz.sizeOf29 rfl ((St.ld hS).cellsB (.head _)) ⟨H145,_,rfl,(show Enc.rep (α:=api_Unit) H145 [.slice oaA4 vA3.length capA5,.int .i64 p1.Stays,.slice oaA9 vA8.length capA10,.int .i64 p1.Locks,.slice oaA22 vA21.length capA23,.int .i64 vA13,.int .i64 vA14,.slice oaA16 vA15.length capA17,.slice oaA28 vA27.length capA29] (api_Unit.mk vA3 p1.Stays vA8 p1.Locks vA21 (api_Code.mk vA13 vA14 vA15) vA27) from ⟨_,_,rfl,⟨_,_,rfl,hcA6,(hrA7.mono (fun b o h=>(fun b o h=>hx142.sub b o (hx138.sub b o h)) b o (hxHA20.sub b o h)))⟩,⟨_,_,rfl,rfl,⟨_,_,rfl,⟨_,_,rfl,hcA11,(hrA12.mono (fun b o h=>(fun b o h=>hx142.sub b o (hx138.sub b o h)) b o (hxHA20.sub b o h)))⟩,⟨_,_,rfl,rfl,⟨_,_,rfl,⟨_,_,rfl,hc140,(hr139.mono hx142.sub)⟩,⟨_,_,rfl,⟨_,_,rfl,rfl,⟨_,_,rfl,rfl,⟨_,_,rfl,hcA18,(hrA19.mono (fun b o h=>(fun b o h=>hx142.sub b o (hx138.sub b o h)) b o (hxHA20.sub b o h)))⟩⟩⟩,⟨_,_,rfl,hc144,hr143⟩⟩⟩⟩⟩⟩⟩),(Ext.trans hxHA1 (Ext.trans hxHA20 (Ext.trans hx138 hx142))),(St.le hS),hS.keep⟩
set_option maxRecDepth 100000 in
theorem Z4n_c {N:Nat} {w0:World} {H:PH} (hH:H.le w0) {p1:Int} {r:Bool} (hm:Z4n N p1=some r):Tot Tryz.prog 60 #[.int .i64 p1] w0 (fun v w'=>v=.bool r∧Keep Nil w0 w'):=by
  unfold Z4n at hm
  refine fn0 (args:=[.int .i64 p1]) (F:=[(0,.int .i64 p1)]) Tryz.func60 rfl Tryz.ntmps60 rfl rfl fun a hF=>?_
  have hS:St w0 Nil [H] [] w0:=start1 hH
  refine th<|?_
  refine rg<|?_
  refine ls<|q1 hF rfl (e_asg hF rfl) fun a hF=>?_
  refine re<|?_
  refine tn<|th<|?_
  refine rg<|?_
  refine ls<|q1 hF rfl (e_move hF rfl) fun a hF=>?_
  refine ls<|q1 hF rfl (e_lss hF rfl rfl) fun a hF=>?_
  refine ls<|q1 hF rfl (e_move hF rfl) fun a hF=>?_
  refine grp (N:=9) (Fk:=[(8,.bool ((decide (p1 < 0)) || (decide (4294967296 < p1))))]) (b:=(decide (p1 < 0))) 3 hS ?_ ?_ ?_
  ·
    intro hb key
    replace hF:=Fr.as hF (t:=5) rfl (congrArg Value.bool hb)
    refine ls<|gn hF rfl rfl rfl rfl fun a hF=>?_
    refine ls<|gn hF rfl rfl rfl rfl fun a hF=>?_
    refine ls<|q1 hF rfl (e_as (v':=.bool ((decide (p1 < 0)) || (decide (4294967296 < p1)))) (e_pickT hF rfl rfl) (by rw [hb];rfl)) fun a hF=>?_
    exact key _ _ (hF.has ⟨rfl,trivial⟩) hS
  ·
    intro hb key
    replace hF:=Fr.as hF (t:=5) rfl (congrArg Value.bool hb)
    refine ls<|gy hF rfl rfl<|q1 hF rfl (e_move hF rfl) fun a hF=>?_
    refine ls<|gy hF rfl rfl<|q1 hF rfl (e_gtr hF rfl rfl) fun a hF=>?_
    refine ls<|q1 hF rfl (e_as (v':=.bool ((decide (p1 < 0)) || (decide (4294967296 < p1)))) (e_pickF hF rfl rfl) (by rw [hb];rfl)) fun a hF=>?_
    exact key _ _ (hF.has ⟨rfl,trivial⟩) hS
  intro a w hF hS
  refine ls<|q1 hF rfl (e_asg hF rfl) fun a hF=>?_
  refine re<|?_
  refine tn<|?_
  refine wr<|?_
  obtain rfl:=Option.some.inj hm
  exact r1 hF Tryz.results60 rfl ⟨rfl,hS.keep⟩
set_option maxRecDepth 100000 in
theorem Z5l_c {N:Nat} {w0:World} {H:PH} (hH:H.le w0) {oa2:Option Addr} {cap3:Nat} {p1:(List Int)} (hc4:p1.length≤cap3) (hr5:SR H oa2 p1) {r:Int} (hm:Z5l N p1=some r):Tot Tryz.prog 109 #[.slice oa2 p1.length cap3,.func (.func 60) #[] #[]] w0 (fun v w'=>v=.int .i64 r∧Keep Nil w0 w'):=by
  unfold Z5l at hm
  refine fn0 (args:=[.slice oa2 p1.length cap3,.func (.func 60) #[] #[]]) (F:=[(0,.slice oa2 p1.length cap3),(1,.func (.func 60) #[] #[])]) Tryz.func109 rfl Tryz.ntmps109 rfl rfl fun a hF=>?_
  have hS:St w0 Nil [H] [] w0:=start1 hH
  refine th<|?_
  refine rg<|?_
  refine ls<|q1 hF rfl (e_asg hF rfl) fun a hF=>?_
  refine re<|?_
  refine tn<|th<|th<|?_
  refine rg<|?_
  refine ls<|q1 hF rfl (e_move hF rfl) fun a hF=>?_
  refine ls<|q1 hF rfl (e_lenL (α:=Int) (xs:=p1) hF Tryz.runUnderlying22 rfl) fun a hF=>?_
  refine ls<|q1 hF rfl (e_move hF rfl) fun a hF=>?_
  refine re<|?_
  refine tn<|midK (fun a w=>Z5m=some r∧Fr 19 [] a∧St w0 Nil [H] [] w) ?_ ?_
  ·
    refine wb<|lp (α:=Nat×Int) (fun (gh:Nat×Int) a w=>match gh with | (nn2,vB1)=>(Z5n N Z5m p1) nn2 vB1=some r∧Fr 19 [(0,.slice oa2 p1.length cap3),(1,.func (.func 60) #[] #[]),(7,.int .i64 (p1.length:Int)),(8,.int .i64 vB1)] a∧St w0 Nil [H] [] w) (fun gh=>gh.1) (N,0) ⟨hm,hF.has ⟨rfl,rfl,rfl,rfl,trivial⟩,hS⟩ ?_
    clear hm hF hS
    rintro ⟨nn2,vB1⟩ a w ⟨hm,hF,hS⟩
    obtain _ | nn2:=nn2
    · simp [Z5n] at hm
    rw [Z5n] at hm
    refine th<|?_
    refine rg<|?_
    refine ls<|q1 hF rfl (e_lss hF rfl rfl) fun a hF=>?_
    refine re<|?_
    rcases bdich (decide (vB1 < (p1.length:Int))) with hb6 | hb6
    ·
      replace hm:=itp_t hm hb6
      refine tn<|th<|ctv hF rfl hb6<|wk<|?_
      refine tn<|th<|wb<|th<|?_
      refine rg<|?_
      refine ls<|q1 hF rfl (e_move hF rfl) fun a hF=>?_
      refine ls<|q1 hF rfl (e_asg hF rfl) fun a hF=>?_
      refine re<|?_
      refine tn<|th<|?_
      replace hm:=bind_some hm
      obtain ⟨xz7,h8,hm⟩:=hm
      obtain ⟨cz9,g10,hl11⟩:=SR.get hr5 h8
      obtain rfl:cz9=[.int .i64 xz7]:=g10
      replace hm:=bind_some hm
      obtain ⟨r12,h13,hm⟩:=hm
      refine rg<|?_
      refine ls<|q1 hF rfl (e_move hF rfl) fun a hF=>?_
      refine ls<|q1 hF rfl (e_move hF rfl) fun a hF=>?_
      refine ls<|q1 hF rfl (e_move hF rfl) fun a hF=>?_
      refine ls<|q1 hF rfl (e_iaI hF Tryz.runUnderlying22 Tryz.sizeOf3 rfl rfl h8 (SR.oaI hr5 (by decide) h8)) fun a hF=>?_
      refine ls<|q1 hF rfl (e_ld hF Tryz.isAgg3 rfl (PH.le.cell (Lds.le (St.ld hS)) (hl11 0 _ rfl))) fun a hF=>?_
      refine ls<|k1 (vs:=[.int .i64 xz7]) (caps:=[]) hF rfl rfl Tryz.call60 (Z4n_c (hp_le _) h13) ⟨rfl,trivial⟩ rfl (fun v w a hR hF=>?_)
      obtain ⟨rfl,hk⟩:=hR
      replace hS:=hS.pass hk
      clear hk
      refine re<|?_
      rcases bdich r12 with hb14 | hb14
      ·
        replace hm:=ite_t hm hb14
        refine tn<|ctv hF rfl hb14<|th<|?_
        refine rg<|?_
        refine ls<|q1 hF rfl (e_move hF rfl) fun a hF=>?_
        refine ls<|q1 hF rfl (e_asg hF rfl) fun a hF=>?_
        refine re<|?_
        refine tn<|?_
        refine wr<|br<|tr<|tr<|br<|tr<|?_
        obtain rfl:=Option.some.inj hm
        exact r1 hF Tryz.results109 rfl ⟨rfl,hS.keep⟩
      ·
        replace hm:=ite_f hm hb14
        refine tn<|cfv hF rfl hb14<|wk<|?_
        refine bn<|tn<|?_
        refine rg<|?_
        refine ls<|q1 hF rfl (e_add hF rfl rfl) fun a hF=>?_
        refine ls<|q1 hF rfl (e_move hF rfl) fun a hF=>?_
        refine re<|?_
        refine tn<|?_
        exact ⟨(nn2,(IntKind.i64.wrap (vB1+1))),⟨hm,hF.has ⟨rfl,rfl,rfl,rfl,trivial⟩,hS⟩,Nat.lt_succ_self _⟩
    ·
      replace hm:=itp_f hm hb6
      refine tn<|th<|cfv hF rfl hb6<|?_
      refine we<|tx<|tx<|bx<|?_
      refine tn<|?_
      exact ⟨hm,hF.has trivial,hS⟩
  clear hm hF hS
  rintro a w ⟨hm,hF,hS⟩
  unfold Z5m at hm
  refine th<|?_
  refine rg<|?_
  refine ls<|q1 hF rfl (e_asg hF rfl) fun a hF=>?_
  refine re<|?_
  refine tn<|?_
  refine wr<|?_
  obtain rfl:=Option.some.inj hm
  exact r1 hF Tryz.results109 rfl ⟨rfl,hS.keep⟩
set_option maxRecDepth 100000 in
theorem Z57_c {N:Nat} {w0:World} {H:PH} (hH:H.le w0) {oa2:Option Addr} {cap3:Nat} {p1:(List Int)} (hc4:p1.length≤cap3) (hr5:SR H oa2 p1) {r:Bool} (hm:Z57 N p1=some r):Tot Tryz.prog 66 #[.slice oa2 p1.length cap3,.func (.func 60) #[] #[]] w0 (fun v w'=>v=.bool r∧Keep Nil w0 w'):=by
  unfold Z57 at hm
  refine fn0 (args:=[.slice oa2 p1.length cap3,.func (.func 60) #[] #[]]) (F:=[(0,.slice oa2 p1.length cap3),(1,.func (.func 60) #[] #[])]) Tryz.func66 rfl Tryz.ntmps66 rfl rfl fun a hF=>?_
  have hS:St w0 Nil [H] [] w0:=start1 hH
  refine th<|?_
  refine rg<|?_
  refine ls<|q1 hF rfl (e_asg hF rfl) fun a hF=>?_
  refine re<|?_
  refine tn<|th<|?_
  replace hm:=bind_some hm
  obtain ⟨rz6,h7,hm⟩:=hm
  refine rg<|?_
  refine ls<|q1 hF rfl (e_move hF rfl) fun a hF=>?_
  refine ls<|q1 hF rfl (e_move hF rfl) fun a hF=>?_
  refine ls<|c1 hF rfl Tryz.call109 (Z5l_c (hp_le _) hc4 (St.srH hS hr5) h7) ⟨rfl,rfl,trivial⟩ (fun v w a hR hF=>?_)
  obtain ⟨rfl,hk⟩:=hR
  replace hS:=hS.pass hk
  clear hk
  refine ls<|q1 hF rfl (e_geq hF rfl rfl) fun a hF=>?_
  refine ls<|q1 hF rfl (e_asg hF rfl) fun a hF=>?_
  refine re<|?_
  refine tn<|?_
  refine wr<|?_
  obtain rfl:=Option.some.inj hm
  exact r1 hF Tryz.results66 rfl ⟨rfl,hS.keep⟩
set_option maxRecDepth 100000 in
theorem Z4l_c {N:Nat} {w0:World} {H:PH} (hH:H.le w0) {cs2:List Value} {p1:api_Unit} (g3:Enc.rep H cs2 p1) {r:Int} (hm:Z4l N p1=some r):Tot Tryz.prog 63 #[.agg cs2.toArray] w0 (fun v w'=>v=.int .i64 r∧Keep Nil w0 w'):=by
  unfold Z4l at hm
  refine fn0 (args:=[.agg cs2.toArray]) (F:=[(0,.agg cs2.toArray)]) Tryz.func63 rfl Tryz.ntmps63 rfl rfl fun a hF=>?_
  have hS:St w0 Nil [H] [] w0:=start1 hH
  have g4:Enc.rep (α:=(List Int)×Int×(List Int)×Int×(List api_Code)×api_Code×(List (List api_Op))) H cs2 (p1.Lines,p1.Stays,p1.Firsts,p1.Locks,p1.Threads,p1.Recover,p1.Claims):=g3
  obtain ⟨qz5,qz6,rfl,g7,g8⟩:=g4
  obtain ⟨oa9,cap10,rfl,hc11,hr12⟩:=g7
  obtain ⟨q13,q14,rfl,g15,g16⟩:=g8
  obtain rfl:q13=[.int .i64 p1.Stays]:=g15
  obtain ⟨q17,q18,rfl,g19,g20⟩:=g16
  obtain ⟨oa21,cap22,rfl,hc23,hr24⟩:=g19
  obtain ⟨q25,q26,rfl,g27,g28⟩:=g20
  obtain rfl:q25=[.int .i64 p1.Locks]:=g27
  obtain ⟨q29,q30,rfl,g31,g32⟩:=g28
  obtain ⟨oa33,cap34,rfl,hc35,hr36⟩:=g31
  obtain ⟨q37,q38,rfl,g39,g40⟩:=g32
  obtain ⟨oa41,cap42,rfl,hc43,hr44⟩:=api_Code_open g39
  obtain ⟨oa45,cap46,rfl,hc47,hr48⟩:=g40
  refine th<|?_
  refine rg<|?_
  refine ls<|a_box (cs:=[.slice oa9 p1.Lines.length cap10,.int .i64 p1.Stays,.slice oa21 p1.Firsts.length cap22,.int .i64 p1.Locks,.slice oa33 p1.Threads.length cap34,.int .i64 p1.Recover.Regs,.int .i64 p1.Recover.Counts,.slice oa41 p1.Recover.L.length cap42,.slice oa45 p1.Claims.length cap46].toArray) hF rfl hS rfl rfl fun b49 w a hS hF=>?_
  refine ls<|q1 hF rfl (e_asg hF rfl) fun a hF=>?_
  refine re<|?_
  refine tn<|th<|th<|?_
  refine rg<|?_
  refine ls<|q1 hF rfl (e_fa hF fa29_1 rfl) fun a hF=>?_
  refine ls<|q1 hF rfl (e_ld hF Tryz.isAgg3 rfl ((St.ld hS).cellB (.head _) rfl)) fun a hF=>?_
  refine ls<|q1 hF rfl (e_lss hF rfl rfl) fun a hF=>?_
  refine ls<|q1 hF rfl (e_move hF rfl) fun a hF=>?_
  refine grp (N:=22) (Fk:=[(1,.pointer (some ⟨b49,0,none⟩)),(13,.bool ((decide (p1.Stays < 1)) || (decide ((p1.Lines.length:Int) < p1.Stays))))]) (b:=(decide (p1.Stays < 1))) 7 hS ?_ ?_ ?_
  ·
    intro hb key
    replace hF:=Fr.as hF (t:=6) rfl (congrArg Value.bool hb)
    refine ls<|gn hF rfl rfl rfl rfl fun a hF=>?_
    refine ls<|gn hF rfl rfl rfl rfl fun a hF=>?_
    refine ls<|gn hF rfl rfl rfl rfl fun a hF=>?_
    refine ls<|gn hF rfl rfl rfl rfl fun a hF=>?_
    refine ls<|gn hF rfl rfl rfl rfl fun a hF=>?_
    refine ls<|gn hF rfl rfl rfl rfl fun a hF=>?_
    refine ls<|q1 hF rfl (e_as (v':=.bool ((decide (p1.Stays < 1)) || (decide ((p1.Lines.length:Int) < p1.Stays)))) (e_pickT hF rfl rfl) (by rw [hb];rfl)) fun a hF=>?_
    exact key _ _ (hF.has ⟨rfl,rfl,trivial⟩) hS
  ·
    intro hb key
    replace hF:=Fr.as hF (t:=6) rfl (congrArg Value.bool hb)
    refine ls<|gy hF rfl rfl<|q1 hF rfl (e_fa hF fa29_1 rfl) fun a hF=>?_
    refine ls<|gy hF rfl rfl<|q1 hF rfl (e_ld hF Tryz.isAgg3 rfl ((St.ld hS).cellB (.head _) rfl)) fun a hF=>?_
    refine ls<|gy hF rfl rfl<|q1 hF rfl (e_fa hF fa29_0 rfl) fun a hF=>?_
    refine ls<|gy hF rfl rfl<|q1 hF rfl (e_ld hF Tryz.isAgg22 rfl ((St.ld hS).cellB (.head _) rfl)) fun a hF=>?_
    refine ls<|gy hF rfl rfl<|q1 hF rfl (e_lenL (α:=Int) (xs:=p1.Lines) hF Tryz.runUnderlying22 rfl) fun a hF=>?_
    refine ls<|gy hF rfl rfl<|q1 hF rfl (e_gtr hF rfl rfl) fun a hF=>?_
    refine ls<|q1 hF rfl (e_as (v':=.bool ((decide (p1.Stays < 1)) || (decide ((p1.Lines.length:Int) < p1.Stays)))) (e_pickF hF rfl rfl) (by rw [hb];rfl)) fun a hF=>?_
    exact key _ _ (hF.has ⟨rfl,rfl,trivial⟩) hS
  intro a w hF hS
  refine re<|?_
  rcases bdich ((decide (p1.Stays < 1)) || (decide ((p1.Lines.length:Int) < p1.Stays))) with hb50 | hb50
  ·
    replace hm:=ite_t hm hb50
    refine tn<|ctv hF rfl hb50<|th<|?_
    refine rg<|?_
    refine ls<|q1 hF rfl (e_asg hF rfl) fun a hF=>?_
    refine re<|?_
    refine tn<|?_
    refine wr<|tr<|?_
    obtain rfl:=Option.some.inj hm
    exact r1 hF Tryz.results63 rfl ⟨rfl,hS.keep⟩
  ·
    replace hm:=ite_f hm hb50
    refine tn<|cfv hF rfl hb50<|wk<|?_
    refine tn<|th<|?_
    replace hm:=bind_some hm
    obtain ⟨x51,h52,hm⟩:=hm
    obtain ⟨c53,g54,hl55⟩:=SR.get hr12 h52
    obtain rfl:c53=[.int .i64 x51]:=g54
    refine rg<|?_
    refine ls<|q1 hF rfl (e_fa hF fa29_0 rfl) fun a hF=>?_
    refine ls<|q1 hF rfl (e_ld hF Tryz.isAgg22 rfl ((St.ld hS).cellB (.head _) rfl)) fun a hF=>?_
    refine ls<|q1 hF rfl (e_fa hF fa29_1 rfl) fun a hF=>?_
    refine ls<|q1 hF rfl (e_ld hF Tryz.isAgg3 rfl ((St.ld hS).cellB (.head _) rfl)) fun a hF=>?_
    refine ls<|q1 hF rfl (e_sub hF rfl rfl) fun a hF=>?_
    refine ls<|q1 hF rfl (e_iaI hF Tryz.runUnderlying22 Tryz.sizeOf3 rfl rfl h52 (SR.oaI hr12 (by decide) h52)) fun a hF=>?_
    refine ls<|q1 hF rfl (e_ld hF Tryz.isAgg3 rfl (PH.le.cell (Lds.le (St.ld hS)) (hl55 0 _ rfl))) fun a hF=>?_
    refine ls<|q1 hF rfl (e_add hF rfl rfl) fun a hF=>?_
    refine ls<|q1 hF rfl (e_asg hF rfl) fun a hF=>?_
    refine re<|?_
    refine tn<|?_
    refine wr<|?_
    obtain rfl:=Option.some.inj hm
    exact r1 hF Tryz.results63 rfl ⟨rfl,hS.keep⟩
set_option maxRecDepth 100000 in
theorem Z4v_c {N:Nat} {w0:World} {H:PH} (hH:H.le w0)  {r:(Arr 16 Str)} (hm:Z4v N  = some r):Tot Tryz.prog 102 #[] w0 (fun v w'=>∃ (H':PH) (cs0:List Value),v=.agg cs0.toArray∧Enc.rep H' cs0 r∧Ext w0 H H'∧H'.le w'∧Keep Nil w0 w'):=by
  unfold Z4v at hm
  refine fn0 (args:=[]) (F:=[]) Tryz.func102 rfl Tryz.ntmps102 rfl rfl fun a hF=>?_
  have hS:St w0 Nil [H] [] w0:=start1 hH
  refine th<|?_
  refine rg<|?_
  refine ls<|a_alloc (cs:=[strv [],strv [],strv [],strv [],strv [],strv [],strv [],strv [],strv [],strv [],strv [],strv [],strv [],strv [],strv [],strv []].toArray) hF rfl hS Tryz.zeroValue151 rfl fun b1 w a hS hF=>?_
  refine re<|?_
  refine tn<|th<|?_
  refine rg<|?_
  refine ls<|q1 hF rfl (e_bldK [strv [114,101],strv [114,99],strv [99,101],strv [114,99,101,102],strv [108],strv [108],strv [109],strv [109],strv [116],strv [101,116],strv [107,110],strv [107,116],strv [101]] [strv [],strv [114,101],strv [114,99],strv [99,101],strv [114,99,101,102],strv [108],strv [108],strv [],strv [],strv [109],strv [109],strv [116],strv [101,116],strv [107,110],strv [107,116],strv [101]] hF ⟨rfl,rfl,rfl,rfl,rfl,rfl,rfl,rfl,rfl,rfl,rfl,rfl,rfl,trivial⟩ (fun w=>by kernel_rfl)) fun a hF=>?_
  refine ls<|s_blkA hF hS Tryz.sizeOf151 rfl rfl rfl rfl (one_cells rfl) .head fun w hS=>?_
  refine re<|?_
  refine tn<|?_
  refine wr<|?_
  obtain rfl:=Option.some.inj hm
  exact r1c (vs:=[strv [],strv [114,101],strv [114,99],strv [99,101],strv [114,99,101,102],strv [108],strv [108],strv [],strv [],strv [109],strv [109],strv [116],strv [101,116],strv [107,110],strv [107,116],strv [101]]) (.inl rfl) hF Tryz.results102 rfl Tryz.isAgg151 Tryz.sizeOf151 rfl ((St.ld hS).cellsB (.head _)) ⟨H,_,rfl,(show Enc.rep (α:=(Arr 16 Str)) H [strv [],strv [114,101],strv [114,99],strv [99,101],strv [114,99,101,102],strv [108],strv [108],strv [],strv [],strv [109],strv [109],strv [116],strv [101,116],strv [107,110],strv [107,116],strv [101]] (⟨[[],[114,101],[114,99],[99,101],[114,99,101,102],[108],[108],[],[],[109],[109],[116],[101,116],[107,110],[107,116],[101]],rfl⟩:(Arr 16 Str)) from (.cons (c:=[strv []]) rfl (.cons (c:=[strv [114,101]]) rfl (.cons (c:=[strv [114,99]]) rfl (.cons (c:=[strv [99,101]]) rfl (.cons (c:=[strv [114,99,101,102]]) rfl (.cons (c:=[strv [108]]) rfl (.cons (c:=[strv [108]]) rfl (.cons (c:=[strv []]) rfl (.cons (c:=[strv []]) rfl (.cons (c:=[strv [109]]) rfl (.cons (c:=[strv [109]]) rfl (.cons (c:=[strv [116]]) rfl (.cons (c:=[strv [101,116]]) rfl (.cons (c:=[strv [107,110]]) rfl (.cons (c:=[strv [107,116]]) rfl (.cons (c:=[strv [101]]) rfl .nil))))))))))))))))),(Ext.refl _ _),(St.le hS),hS.keep⟩
set_option maxRecDepth 100000 in
theorem Z5o_c {N:Nat} {w0:World} {H:PH} (hH:H.le w0) {oa2:Option Addr} {cap3:Nat} {p1:(List (IntK .u8))} (hc4:p1.length≤cap3) (hr5:SR H oa2 p1) {p6:Int} {r:Int} (hm:Z5o N p1 p6=some r):Tot Tryz.prog 129 #[.slice oa2 p1.length cap3,.int .u8 p6] w0 (fun v w'=>v=.int .i64 r∧Keep Nil w0 w'):=by
  unfold Z5o at hm
  refine fn0 (args:=[.slice oa2 p1.length cap3,.int .u8 p6]) (F:=[(0,.slice oa2 p1.length cap3),(1,.int .u8 p6)]) Tryz.func129 rfl Tryz.ntmps129 rfl rfl fun a hF=>?_
  have hS:St w0 Nil [H] [] w0:=start1 hH
  refine th<|?_
  refine rg<|?_
  refine ls<|q1 hF rfl (e_asg hF rfl) fun a hF=>?_
  refine re<|?_
  refine tn<|th<|th<|?_
  refine rg<|?_
  refine ls<|q1 hF rfl (e_move hF rfl) fun a hF=>?_
  refine ls<|q1 hF rfl (e_lenL (α:=(IntK .u8)) (xs:=p1) hF Tryz.runUnderlying52 rfl) fun a hF=>?_
  refine ls<|q1 hF rfl (e_move hF rfl) fun a hF=>?_
  refine re<|?_
  refine tn<|midK (fun a w=>Z5p=some r∧Fr 19 [] a∧St w0 Nil [H] [] w) ?_ ?_
  ·
    refine wb<|lp (α:=Nat×Int) (fun (gh:Nat×Int) a w=>match gh with | (nn2,vB1)=>(Z5q N Z5p p1 p6) nn2 vB1=some r∧Fr 19 [(0,.slice oa2 p1.length cap3),(1,.int .u8 p6),(7,.int .i64 (p1.length:Int)),(8,.int .i64 vB1)] a∧St w0 Nil [H] [] w) (fun gh=>gh.1) (N,0) ⟨hm,hF.has ⟨rfl,rfl,rfl,rfl,trivial⟩,hS⟩ ?_
    clear hm hF hS
    rintro ⟨nn2,vB1⟩ a w ⟨hm,hF,hS⟩
    obtain _ | nn2:=nn2
    · simp [Z5q] at hm
    rw [Z5q] at hm
    refine th<|?_
    refine rg<|?_
    refine ls<|q1 hF rfl (e_lss hF rfl rfl) fun a hF=>?_
    refine re<|?_
    rcases bdich (decide (vB1 < (p1.length:Int))) with hb7 | hb7
    ·
      replace hm:=itp_t hm hb7
      refine tn<|th<|ctv hF rfl hb7<|wk<|?_
      refine tn<|th<|wb<|th<|?_
      refine rg<|?_
      refine ls<|q1 hF rfl (e_move hF rfl) fun a hF=>?_
      refine ls<|q1 hF rfl (e_asg hF rfl) fun a hF=>?_
      refine re<|?_
      refine tn<|th<|?_
      replace hm:=bind_some hm
      obtain ⟨xz8,h9,hm⟩:=hm
      obtain ⟨c10,g11,hl12⟩:=SR.get hr5 h9
      obtain rfl:c10=[.int .u8 xz8.v]:=g11
      refine rg<|?_
      refine ls<|q1 hF rfl (e_move hF rfl) fun a hF=>?_
      refine ls<|q1 hF rfl (e_move hF rfl) fun a hF=>?_
      refine ls<|q1 hF rfl (e_move hF rfl) fun a hF=>?_
      refine ls<|q1 hF rfl (e_iaI hF Tryz.runUnderlying52 Tryz.sizeOf5 rfl rfl h9 (SR.oaI hr5 (by decide) h9)) fun a hF=>?_
      refine ls<|q1 hF rfl (e_ld hF Tryz.isAgg5 rfl (PH.le.cell (Lds.le (St.ld hS)) (hl12 0 _ rfl))) fun a hF=>?_
      refine ls<|q1 hF rfl (e_eql hF rfl rfl) fun a hF=>?_
      refine re<|?_
      rcases bdich (decide (p6=xz8.v)) with hb13 | hb13
      ·
        replace hm:=itp_t hm hb13
        refine tn<|ctv hF rfl hb13<|th<|?_
        refine rg<|?_
        refine ls<|q1 hF rfl (e_move hF rfl) fun a hF=>?_
        refine ls<|q1 hF rfl (e_asg hF rfl) fun a hF=>?_
        refine re<|?_
        refine tn<|?_
        refine wr<|br<|tr<|tr<|br<|tr<|?_
        obtain rfl:=Option.some.inj hm
        exact r1 hF Tryz.results129 rfl ⟨rfl,hS.keep⟩
      ·
        replace hm:=itp_f hm hb13
        refine tn<|cfv hF rfl hb13<|wk<|?_
        refine bn<|tn<|?_
        refine rg<|?_
        refine ls<|q1 hF rfl (e_add hF rfl rfl) fun a hF=>?_
        refine ls<|q1 hF rfl (e_move hF rfl) fun a hF=>?_
        refine re<|?_
        refine tn<|?_
        exact ⟨(nn2,(IntKind.i64.wrap (vB1+1))),⟨hm,hF.has ⟨rfl,rfl,rfl,rfl,trivial⟩,hS⟩,Nat.lt_succ_self _⟩
    ·
      replace hm:=itp_f hm hb7
      refine tn<|th<|cfv hF rfl hb7<|?_
      refine we<|tx<|tx<|bx<|?_
      refine tn<|?_
      exact ⟨hm,hF.has trivial,hS⟩
  clear hm hF hS
  rintro a w ⟨hm,hF,hS⟩
  unfold Z5p at hm
  refine th<|?_
  refine rg<|?_
  refine ls<|q1 hF rfl (e_asg hF rfl) fun a hF=>?_
  refine re<|?_
  refine tn<|?_
  refine wr<|?_
  obtain rfl:=Option.some.inj hm
  exact r1 hF Tryz.results129 rfl ⟨rfl,hS.keep⟩
set_option maxRecDepth 100000 in
theorem Z58_c {N:Nat} {w0:World} {H:PH} (hH:H.le w0) {oa2:Option Addr} {cap3:Nat} {p1:(List (IntK .u8))} (hc4:p1.length≤cap3) (hr5:SR H oa2 p1) {p6:Int} {r:Bool} (hm:Z58 N p1 p6=some r):Tot Tryz.prog 101 #[.slice oa2 p1.length cap3,.int .u8 p6] w0 (fun v w'=>v=.bool r∧Keep Nil w0 w'):=by
  unfold Z58 at hm
  refine fn0 (args:=[.slice oa2 p1.length cap3,.int .u8 p6]) (F:=[(0,.slice oa2 p1.length cap3),(1,.int .u8 p6)]) Tryz.func101 rfl Tryz.ntmps101 rfl rfl fun a hF=>?_
  have hS:St w0 Nil [H] [] w0:=start1 hH
  refine th<|?_
  refine rg<|?_
  refine ls<|q1 hF rfl (e_asg hF rfl) fun a hF=>?_
  refine re<|?_
  refine tn<|th<|?_
  replace hm:=bind_some hm
  obtain ⟨rz7,h8,hm⟩:=hm
  refine rg<|?_
  refine ls<|q1 hF rfl (e_move hF rfl) fun a hF=>?_
  refine ls<|q1 hF rfl (e_move hF rfl) fun a hF=>?_
  refine ls<|c1 hF rfl Tryz.call129 (Z5o_c (hp_le _) hc4 (St.srH hS hr5) h8) ⟨rfl,rfl,trivial⟩ (fun v w a hR hF=>?_)
  obtain ⟨rfl,hk⟩:=hR
  replace hS:=hS.pass hk
  clear hk
  refine ls<|q1 hF rfl (e_geq hF rfl rfl) fun a hF=>?_
  refine ls<|q1 hF rfl (e_asg hF rfl) fun a hF=>?_
  refine re<|?_
  refine tn<|?_
  refine wr<|?_
  obtain rfl:=Option.some.inj hm
  exact r1 hF Tryz.results101 rfl ⟨rfl,hS.keep⟩
set_option maxRecDepth 100000 in
theorem Z4d_c {N:Nat} {w0:World} {H:PH} (hH:H.le w0) {p1:Int} {cs4:List Value} {y3:api_Instr} (g5:Enc.rep H cs4 y3) {b2:Nat} (hb6:H b2=some (.cells cs4.toArray 85 (0,0))) {r:Bool} (hm:Z4d N p1 y3=some r):Tot Tryz.prog 100 #[.int .u8 p1,.pointer (some ⟨b2,0,none⟩)] w0 (fun v w'=>v=.bool r∧Keep Nil w0 w'):=by
  unfold Z4d at hm
  refine fn0 (args:=[.int .u8 p1,.pointer (some ⟨b2,0,none⟩)]) (F:=[(0,.int .u8 p1),(1,.pointer (some ⟨b2,0,none⟩))]) Tryz.func100 rfl Tryz.ntmps100 rfl rfl fun a hF=>?_
  have hS:St w0 Nil [H] [] w0:=start1 hH
  obtain ⟨oa7,cap8,oa11,cap12,rfl,hc9,hr10,hc13,hr14⟩:=api_Instr_open g5
  refine th<|?_
  refine rg<|?_
  refine ls<|q1 hF rfl (e_asg hF rfl) fun a hF=>?_
  refine re<|?_
  refine tn<|th<|?_
  replace hm:=bind_some hm
  obtain ⟨r15,h16,hm⟩:=hm
  replace hm:=bind_some hm
  obtain ⟨x24,h25,hm⟩:=hm
  replace hm:=bind_some hm
  obtain ⟨r36,h37,hm⟩:=hm
  refine rdS 8 hS wide fun w hS=>?_
  refine d1 (i:=1) rfl (by kernel_rfl) (by kernel_rfl) (St.ld hS) hF rfl (fun _ _ _ h=>h) (fun w hl=>(e_fa hF fa85_0 rfl)) fun a hF=>?_
  refine d1 (i:=2) rfl (by kernel_rfl) (by kernel_rfl) (St.ld hS) hF rfl (fun _ _ _ h=>h) (fun w hl=>(e_ld hF Tryz.isAgg3 rfl (PH.le.cell (Lds.le hl) (ph_cell hb6 rfl)))) fun a hF=>?_
  refine d1 (i:=5) rfl (by kernel_rfl) (by kernel_rfl) (St.ld hS) hF rfl (fun _ _ _ h=>h) (fun w hl=>(e_move hF rfl)) fun a hF=>?_
  refine da1 (i:=0) (by kernel_rfl) ?_
  refine di (i:=0) rfl<|c1 hF rfl Tryz.call102 (Z4v_c (St.le hS) h16) trivial (fun v w a hR hF=>?_)
  obtain ⟨H20,cs21,rfl,g22,hx17,hl18,hk⟩:=hR
  obtain ⟨hS,hx17⟩:=And.intro (St.passH hS hk hx17 hl18) (St.extc hS hx17)
  clear hk
  have hv23:Rows H20 cs21 r15.l:=g22
  refine ⟨fun _=>(St.ldsX hS hx17.sub (fun _ h=>h)),?_⟩
  obtain ⟨c26,g27,hl28⟩:=Rows.getI hv23 h25
  obtain rfl:c26=[strv x24]:=g27
  refine d1 (i:=3) rfl (by kernel_rfl) (by kernel_rfl) (St.ldsX hS hx17.sub (fun _ h=>h)) hF rfl (fun _ _ _ h=>h) (fun w hl=>(e_ix1 hF Tryz.runUnderlying151 Tryz.sizeOf9 Tryz.isAgg9 rfl rfl r15.h h25 (hl28 0 _ rfl))) fun a hF=>?_
  refine da1 (i:=4) (by kernel_rfl) ?_
  refine di (i:=4) rfl<|m_s2b (s:=x24) hF rfl (St.le hS) Tryz.underlying9 Tryz.underlying52 Tryz.underlying5 rfl fun H35 oa33 cap34 w a hx29 hl30 hc32 hr31 hk hF=>?_
  obtain ⟨hS,hx29⟩:=And.intro (St.passH hS hk hx29 hl30) (St.extc hS hx29)
  clear hk
  refine ⟨fun _=>(St.ldsX hS (fun b o h=>hx29.sub b o (hx17.sub b o h)) (fun _ h=>h)),?_⟩
  refine da1 (i:=6) (by kernel_rfl) ?_
  refine di (i:=6) rfl<|c1 hF rfl Tryz.call101 (Z58_c (hp_le _) hc32 (St.srH hS hr31) h37) ⟨rfl,rfl,trivial⟩ (fun v w a hR hF=>?_)
  obtain ⟨rfl,hk⟩:=hR
  replace hS:=hS.pass hk
  clear hk
  refine ⟨fun _=>(St.ldsX hS (fun b o h=>hx29.sub b o (hx17.sub b o h)) (fun _ h=>h)),?_⟩
  refine d1 (i:=7) rfl (by kernel_rfl) (by kernel_rfl) (St.ldsX hS (fun b o h=>hx29.sub b o (hx17.sub b o h)) (fun _ h=>h)) hF rfl (fun _ _ _ h=>h) (fun w hl=>(e_asg hF rfl)) fun a hF=>?_
  refine de (by kernel_rfl)<|?_
  refine tn<|?_
  refine wr<|?_
  obtain rfl:=Option.some.inj hm
  exact r1 hF Tryz.results100 rfl ⟨rfl,hS.keep⟩
set_option maxRecDepth 100000 in
theorem Z52_c {N:Nat} {w0:World} {H:PH} (hH:H.le w0) {p1:Bool} {p2:Int} {p3:Int} {r:Bool} (hm:Z52 N p1 p2 p3=some r):Tot Tryz.prog 103 #[.bool p1,.int .i64 p2,.int .i64 p3] w0 (fun v w'=>v=.bool r∧Keep Nil w0 w'):=by
  unfold Z52 at hm
  refine fn0 (args:=[.bool p1,.int .i64 p2,.int .i64 p3]) (F:=[(0,.bool p1),(1,.int .i64 p2),(2,.int .i64 p3)]) Tryz.func103 rfl Tryz.ntmps103 rfl rfl fun a hF=>?_
  have hS:St w0 Nil [H] [] w0:=start1 hH
  refine th<|?_
  refine rg<|?_
  refine ls<|q1 hF rfl (e_asg hF rfl) fun a hF=>?_
  refine re<|?_
  refine tn<|th<|th<|?_
  refine rg<|?_
  refine ls<|q1 hF rfl (e_move hF rfl) fun a hF=>?_
  refine ls<|q1 hF rfl (e_not hF rfl) fun a hF=>?_
  refine re<|?_
  rcases bdich p1 with hb4 | hb4
  ·
    replace hm:=ite_t hm hb4
    refine tn<|cfv hF rfl (by rw [hb4];rfl)<|wk<|?_
    refine tn<|th<|?_
    refine rg<|?_
    refine ls<|q1 hF rfl (e_move hF rfl) fun a hF=>?_
    refine ls<|q1 hF rfl (e_geq hF rfl rfl) fun a hF=>?_
    refine ls<|q1 hF rfl (e_move hF rfl) fun a hF=>?_
    refine grp (N:=18) (Fk:=[(17,.bool ((decide (0≤p2)) && (decide (p2 < p3))))]) (b:=(decide (0≤p2))) 4 hS ?_ ?_ ?_
    ·
      intro hb key
      replace hF:=Fr.as hF (t:=13) rfl (congrArg Value.bool hb)
      refine ls<|gy hF rfl rfl<|q1 hF rfl (e_move hF rfl) fun a hF=>?_
      refine ls<|gy hF rfl rfl<|q1 hF rfl (e_move hF rfl) fun a hF=>?_
      refine ls<|gy hF rfl rfl<|q1 hF rfl (e_lss hF rfl rfl) fun a hF=>?_
      refine ls<|q1 hF rfl (e_as (v':=.bool ((decide (0≤p2)) && (decide (p2 < p3)))) (e_pickT hF rfl rfl) (by rw [hb];rfl)) fun a hF=>?_
      exact key _ _ (hF.has ⟨rfl,trivial⟩) hS
    ·
      intro hb key
      replace hF:=Fr.as hF (t:=13) rfl (congrArg Value.bool hb)
      refine ls<|gn hF rfl rfl rfl rfl fun a hF=>?_
      refine ls<|gn hF rfl rfl rfl rfl fun a hF=>?_
      refine ls<|gn hF rfl rfl rfl rfl fun a hF=>?_
      refine ls<|q1 hF rfl (e_as (v':=.bool ((decide (0≤p2)) && (decide (p2 < p3)))) (e_pickF hF rfl rfl) (by rw [hb];rfl)) fun a hF=>?_
      exact key _ _ (hF.has ⟨rfl,trivial⟩) hS
    intro a w hF hS
    refine ls<|q1 hF rfl (e_asg hF rfl) fun a hF=>?_
    refine re<|?_
    refine tn<|?_
    refine wr<|?_
    obtain rfl:=Option.some.inj hm
    exact r1 hF Tryz.results103 rfl ⟨rfl,hS.keep⟩
  ·
    replace hm:=ite_f hm hb4
    refine tn<|ctv hF rfl (by rw [hb4];rfl)<|th<|?_
    refine rg<|?_
    refine ls<|q1 hF rfl (e_move hF rfl) fun a hF=>?_
    refine ls<|q1 hF rfl (e_eql hF rfl rfl) fun a hF=>?_
    refine ls<|q1 hF rfl (e_asg hF rfl) fun a hF=>?_
    refine re<|?_
    refine tn<|?_
    refine wr<|tr<|?_
    obtain rfl:=Option.some.inj hm
    exact r1 hF Tryz.results103 rfl ⟨rfl,hS.keep⟩
set_option maxRecDepth 100000 in
theorem Z1f_c {N:Nat} {w0:World} {H:PH} (hH:H.le w0) {p1:Int} {r:Int} (hm:Z1f N p1=some r):Tot Tryz.prog 132 #[.int .i64 p1] w0 (fun v w'=>v=.int .i64 r∧Keep Nil w0 w'):=by
  unfold Z1f at hm
  refine fn0 (args:=[.int .i64 p1]) (F:=[(0,.int .i64 p1)]) Tryz.func132 rfl Tryz.ntmps132 rfl rfl fun a hF=>?_
  have hS:St w0 Nil [H] [] w0:=start1 hH
  refine th<|?_
  refine rg<|?_
  refine ls<|q1 hF rfl (e_asg hF rfl) fun a hF=>?_
  refine re<|?_
  refine tn<|th<|wb<|th<|?_
  refine rg<|?_
  refine ls<|q1 hF rfl (e_move hF rfl) fun a hF=>?_
  refine ls<|q1 hF rfl (e_eql hF rfl rfl) fun a hF=>?_
  refine ls<|q1 hF rfl (e_move hF rfl) fun a hF=>?_
  refine grp (N:=17) (Fk:=[(0,.int .i64 p1),(9,.bool ((decide (p1=3)) || (decide (p1=4))))]) (b:=(decide (p1=3))) 3 hS ?_ ?_ ?_
  ·
    intro hb key
    replace hF:=Fr.as hF (t:=6) rfl (congrArg Value.bool hb)
    refine ls<|gn hF rfl rfl rfl rfl fun a hF=>?_
    refine ls<|gn hF rfl rfl rfl rfl fun a hF=>?_
    refine ls<|q1 hF rfl (e_as (v':=.bool ((decide (p1=3)) || (decide (p1=4)))) (e_pickT hF rfl rfl) (by rw [hb];rfl)) fun a hF=>?_
    exact key _ _ (hF.has ⟨rfl,rfl,trivial⟩) hS
  ·
    intro hb key
    replace hF:=Fr.as hF (t:=6) rfl (congrArg Value.bool hb)
    refine ls<|gy hF rfl rfl<|q1 hF rfl (e_move hF rfl) fun a hF=>?_
    refine ls<|gy hF rfl rfl<|q1 hF rfl (e_eql hF rfl rfl) fun a hF=>?_
    refine ls<|q1 hF rfl (e_as (v':=.bool ((decide (p1=3)) || (decide (p1=4)))) (e_pickF hF rfl rfl) (by rw [hb];rfl)) fun a hF=>?_
    exact key _ _ (hF.has ⟨rfl,rfl,trivial⟩) hS
  intro a w hF hS
  refine ls<|q1 hF rfl (e_asg hF rfl) fun a hF=>?_
  refine re<|?_
  rcases bdich ((decide (p1=3)) || (decide (p1=4))) with hb2 | hb2
  ·
    replace hm:=ite_t hm hb2
    refine tn<|ctv hF rfl hb2<|th<|?_
    refine rg<|?_
    refine ls<|q1 hF rfl (e_asg hF rfl) fun a hF=>?_
    refine re<|?_
    refine tn<|?_
    refine wr<|br<|tr<|?_
    obtain rfl:=Option.some.inj hm
    exact r1 hF Tryz.results132 rfl ⟨rfl,hS.keep⟩
  ·
    replace hm:=ite_f hm hb2
    refine tn<|cfv hF rfl hb2<|th<|?_
    refine rg<|?_
    refine ls<|q1 hF rfl (e_move hF rfl) fun a hF=>?_
    refine ls<|q1 hF rfl (e_geq hF rfl rfl) fun a hF=>?_
    refine ls<|q1 hF rfl (e_move hF rfl) fun a hF=>?_
    refine grp (N:=17) (Fk:=[(16,.bool ((decide (5≤p1)) && (decide (p1≤15))))]) (b:=(decide (5≤p1))) 3 hS ?_ ?_ ?_
    ·
      intro hb key
      replace hF:=Fr.as hF (t:=13) rfl (congrArg Value.bool hb)
      refine ls<|gy hF rfl rfl<|q1 hF rfl (e_move hF rfl) fun a hF=>?_
      refine ls<|gy hF rfl rfl<|q1 hF rfl (e_leq hF rfl rfl) fun a hF=>?_
      refine ls<|q1 hF rfl (e_as (v':=.bool ((decide (5≤p1)) && (decide (p1≤15)))) (e_pickT hF rfl rfl) (by rw [hb];rfl)) fun a hF=>?_
      exact key _ _ (hF.has ⟨rfl,trivial⟩) hS
    ·
      intro hb key
      replace hF:=Fr.as hF (t:=13) rfl (congrArg Value.bool hb)
      refine ls<|gn hF rfl rfl rfl rfl fun a hF=>?_
      refine ls<|gn hF rfl rfl rfl rfl fun a hF=>?_
      refine ls<|q1 hF rfl (e_as (v':=.bool ((decide (5≤p1)) && (decide (p1≤15)))) (e_pickF hF rfl rfl) (by rw [hb];rfl)) fun a hF=>?_
      exact key _ _ (hF.has ⟨rfl,trivial⟩) hS
    intro a w hF hS
    refine ls<|q1 hF rfl (e_asg hF rfl) fun a hF=>?_
    refine re<|?_
    rcases bdich ((decide (5≤p1)) && (decide (p1≤15))) with hb3 | hb3
    ·
      replace hm:=ite_t hm hb3
      refine tn<|ctv hF rfl hb3<|th<|?_
      refine rg<|?_
      refine ls<|q1 hF rfl (e_asg hF rfl) fun a hF=>?_
      refine re<|?_
      refine tn<|?_
      refine wr<|br<|tr<|?_
      obtain rfl:=Option.some.inj hm
      exact r1 hF Tryz.results132 rfl ⟨rfl,hS.keep⟩
    ·
      replace hm:=ite_f hm hb3
      refine tn<|cfv hF rfl hb3<|wk<|?_
      refine bn<|tn<|th<|?_
      refine rg<|?_
      refine ls<|q1 hF rfl (e_asg hF rfl) fun a hF=>?_
      refine re<|?_
      refine tn<|?_
      refine wr<|?_
      obtain rfl:=Option.some.inj hm
      exact r1 hF Tryz.results132 rfl ⟨rfl,hS.keep⟩
set_option maxRecDepth 100000 in
theorem Z1c_c {N:Nat} {w0:World} {H:PH} (hH:H.le w0) {oa2:Option Addr} {cap3:Nat} {p1:(List api_Op)} (hc4:p1.length≤cap3) (hr5:SR H oa2 p1) {r:(Int×Int×Bool)} (hm:Z1c N p1=some r):Tot Tryz.prog 107 #[.slice oa2 p1.length cap3] w0 (fun v w'=>v=.tuple #[.int .i64 r.1,.int .i64 r.2.1,.bool r.2.2]∧Keep Nil w0 w'):=by
  unfold Z1c at hm
  refine fn0 (args:=[.slice oa2 p1.length cap3]) (F:=[(0,.slice oa2 p1.length cap3)]) Tryz.func107 rfl Tryz.ntmps107 rfl rfl fun a hF=>?_
  have hS:St w0 Nil [H] [] w0:=start1 hH
  refine th<|?_
  refine rg<|?_
  refine ls<|q1 hF rfl (e_asg hF rfl) fun a hF=>?_
  refine ls<|q1 hF rfl (e_asg hF rfl) fun a hF=>?_
  refine ls<|q1 hF rfl (e_asg hF rfl) fun a hF=>?_
  refine re<|?_
  refine tn<|th<|?_
  refine rg<|?_
  refine ls<|q1 hF rfl (e_asg hF rfl) fun a hF=>?_
  refine ls<|q1 hF rfl (e_asg hF rfl) fun a hF=>?_
  refine re<|?_
  refine tn<|th<|th<|?_
  refine rg<|?_
  refine ls<|q1 hF rfl (e_move hF rfl) fun a hF=>?_
  refine ls<|q1 hF rfl (e_lenL (α:=api_Op) (xs:=p1) hF Tryz.runUnderlying54 rfl) fun a hF=>?_
  refine ls<|q1 hF rfl (e_move hF rfl) fun a hF=>?_
  refine re<|?_
  refine tn<|midK (fun a w=>∃ (vA1:Int) (vA2:Int),Z1d vA1 vA2=some r∧Fr 30 [(5,.int .i64 vA1),(6,.int .i64 vA2)] a∧St w0 Nil [H] [] w) ?_ ?_
  ·
    refine wb<|lp (α:=Nat×Int×Int×Int) (fun (gh:Nat×Int×Int×Int) a w=>match gh with | (nn2,vB1,vB2,vB3)=>(Z1e N Z1d p1) nn2 vB1 vB2 vB3=some r∧Fr 30 [(5,.int .i64 vB1),(6,.int .i64 vB2),(9,.slice oa2 p1.length cap3),(10,.int .i64 (p1.length:Int)),(11,.int .i64 vB3)] a∧St w0 Nil [H] [] w) (fun gh=>gh.1) (N,0,0,0) ⟨hm,hF.has ⟨rfl,rfl,rfl,rfl,rfl,trivial⟩,hS⟩ ?_
    clear hm hF hS
    rintro ⟨nn2,vB1,vB2,vB3⟩ a w ⟨hm,hF,hS⟩
    obtain _ | nn2:=nn2
    · simp [Z1e] at hm
    rw [Z1e] at hm
    refine th<|?_
    refine rg<|?_
    refine ls<|q1 hF rfl (e_lss hF rfl rfl) fun a hF=>?_
    refine re<|?_
    rcases bdich (decide (vB3 < (p1.length:Int))) with hb6 | hb6
    ·
      replace hm:=itp_t hm hb6
      refine tn<|th<|ctv hF rfl hb6<|wk<|?_
      refine tn<|th<|wb<|th<|?_
      replace hm:=bind_some hm
      obtain ⟨xz7,h8,hm⟩:=hm
      obtain ⟨cz9,g10,hl11⟩:=SR.get hr5 h8
      obtain rfl:=api_Op_open g10
      refine rg<|?_
      refine ls<|q1 hF rfl (e_iaI hF Tryz.runUnderlying54 Tryz.sizeOf83 rfl rfl h8 (SR.oaI hr5 (by decide) h8)) fun a hF=>?_
      refine ls<|q1 hF rfl (e_ldA hF Tryz.isAgg83 Tryz.sizeOf83 rfl rfl (fun j v hj=>PH.le.cell (Lds.le (St.ld hS)) (hl11 j v hj))) fun a hF=>?_
      refine ls<|a_alloc (cs:=[.int .i64 0,.int .i64 0].toArray) hF rfl hS Tryz.zeroValue83 rfl fun b12 w a hS hF=>?_
      refine ls<|s_blkA hF hS Tryz.sizeOf83 rfl rfl rfl rfl (one_cells rfl) .head fun w hS=>?_
      refine re<|?_
      refine tn<|th<|?_
      replace hm:=bind_some hm
      obtain ⟨r13,h14,hm⟩:=hm
      refine rg<|?_
      refine ls<|q1 hF rfl (e_move hF rfl) fun a hF=>?_
      refine ls<|q1 hF rfl (e_fa hF fa83_0 rfl) fun a hF=>?_
      refine ls<|q1 hF rfl (e_ld hF Tryz.isAgg3 rfl ((St.ld hS).cellB (.head _) rfl)) fun a hF=>?_
      refine ls<|c1 hF rfl Tryz.call132 (Z1f_c (hp_le _) h14) ⟨rfl,trivial⟩ (fun v w a hR hF=>?_)
      obtain ⟨rfl,hk⟩:=hR
      replace hS:=hS.pass hk
      clear hk
      refine ls<|q1 hF rfl (e_sub hF rfl rfl) fun a hF=>?_
      refine ls<|q1 hF rfl (e_asg hF rfl) fun a hF=>?_
      refine re<|?_
      refine tn<|th<|th<|?_
      refine rg<|?_
      refine ls<|q1 hF rfl (e_move hF rfl) fun a hF=>?_
      refine ls<|q1 hF rfl (e_lss hF rfl rfl) fun a hF=>?_
      refine re<|?_
      rcases bdich (decide ((IntKind.i64.wrap (vB1 - r13)) < 0)) with hb15 | hb15
      ·
        replace hm:=itp_t hm hb15
        refine tn<|ctv hF rfl hb15<|th<|?_
        refine rg<|?_
        refine ls<|q1 hF rfl (e_asg hF rfl) fun a hF=>?_
        refine ls<|q1 hF rfl (e_asg hF rfl) fun a hF=>?_
        refine ls<|q1 hF rfl (e_asg hF rfl) fun a hF=>?_
        refine re<|?_
        refine tn<|?_
        refine wr<|tr<|br<|tr<|tr<|br<|tr<|?_
        obtain rfl:=Option.some.inj hm
        exact Go.LM.r3 hF Tryz.results107 rfl rfl rfl ⟨rfl,hS.keep⟩
      ·
        replace hm:=itp_f hm hb15
        refine tn<|cfv hF rfl hb15<|wk<|?_
        refine tn<|th<|?_
        refine rg<|?_
        refine ls<|q1 hF rfl (e_move hF rfl) fun a hF=>?_
        refine ls<|q1 hF rfl (e_add hF rfl rfl) fun a hF=>?_
        refine ls<|q1 hF rfl (e_asg hF rfl) fun a hF=>?_
        refine re<|?_
        refine tn<|?_
        refine rg<|?_
        refine ls<|q1 hF rfl (e_move hF rfl) fun a hF=>?_
        refine ls<|q1 hF rfl (e_move hF rfl) fun a hF=>?_
        refine ls<|q1 hF rfl (e_max hF rfl rfl) fun a hF=>?_
        refine ls<|q1 hF rfl (e_asg hF rfl) fun a hF=>?_
        refine re<|?_
        refine bn<|tn<|?_
        refine rg<|?_
        refine ls<|q1 hF rfl (e_add hF rfl rfl) fun a hF=>?_
        refine ls<|q1 hF rfl (e_move hF rfl) fun a hF=>?_
        refine re<|?_
        refine tn<|?_
        replace hS:=hS.pickL .nil
        exact ⟨(nn2,(IntKind.i64.wrap ((IntKind.i64.wrap (vB1 - r13))+1)),(max vB2 (IntKind.i64.wrap ((IntKind.i64.wrap (vB1 - r13))+1))),(IntKind.i64.wrap (vB3+1))),⟨hm,hF.has ⟨rfl,rfl,rfl,rfl,rfl,trivial⟩,hS⟩,Nat.lt_succ_self _⟩
    ·
      replace hm:=itp_f hm hb6
      refine tn<|th<|cfv hF rfl hb6<|?_
      refine we<|tx<|tx<|bx<|?_
      refine tn<|?_
      exact ⟨vB1,vB2,hm,hF.has ⟨rfl,rfl,trivial⟩,hS⟩
  clear hm hF hS
  rintro a w ⟨vA1,vA2,hm,hF,hS⟩
  unfold Z1d at hm
  refine th<|?_
  refine rg<|?_
  refine ls<|q1 hF rfl (e_move hF rfl) fun a hF=>?_
  refine ls<|q1 hF rfl (e_move hF rfl) fun a hF=>?_
  refine ls<|q1 hF rfl (e_asg hF rfl) fun a hF=>?_
  refine ls<|q1 hF rfl (e_asg hF rfl) fun a hF=>?_
  refine ls<|q1 hF rfl (e_asg hF rfl) fun a hF=>?_
  refine re<|?_
  refine tn<|?_
  refine wr<|?_
  obtain rfl:=Option.some.inj hm
  exact Go.LM.r3 hF Tryz.results107 rfl rfl rfl ⟨rfl,hS.keep⟩
set_option maxRecDepth 100000 in
theorem Z1b_c {N:Nat} {w0:World} {H:PH} (hH:H.le w0) {p1:api_Op} {y3:Int} {b2:Nat} (hb4:H b2=some (.cells [.int .i64 y3].toArray 3 (0,0))) {r:Bool} (hm:Z1b N p1 y3=some r):Tot Tryz.prog 106 #[.agg #[.int .i64 p1.Kind,.int .i64 p1.N],.pointer (some ⟨b2,0,none⟩)] w0 (fun v w'=>v=.bool r∧Keep Nil w0 w'):=by
  unfold Z1b at hm
  refine fn0 (args:=[.agg #[.int .i64 p1.Kind,.int .i64 p1.N],.pointer (some ⟨b2,0,none⟩)]) (F:=[(0,.agg #[.int .i64 p1.Kind,.int .i64 p1.N]),(1,.pointer (some ⟨b2,0,none⟩))]) Tryz.func106 rfl Tryz.ntmps106 rfl rfl fun a hF=>?_
  have hS:St w0 Nil [H] [] w0:=start1 hH
  refine th<|?_
  refine rg<|?_
  refine ls<|a_box (cs:=[.int .i64 p1.Kind,.int .i64 p1.N].toArray) hF rfl hS rfl rfl fun b5 w a hS hF=>?_
  refine ls<|q1 hF rfl (e_asg hF rfl) fun a hF=>?_
  refine re<|?_
  refine tn<|th<|wb<|th<|?_
  refine rg<|?_
  refine ls<|q1 hF rfl (e_fa hF fa83_0 rfl) fun a hF=>?_
  refine ls<|q1 hF rfl (e_ld hF Tryz.isAgg3 rfl ((St.ld hS).cellB (.head _) rfl)) fun a hF=>?_
  refine ls<|q1 hF rfl (e_eql hF rfl rfl) fun a hF=>?_
  refine ls<|q1 hF rfl (e_asg hF rfl) fun a hF=>?_
  refine re<|?_
  rcases bdich (decide (p1.Kind=1)) with hb6 | hb6
  ·
    replace hm:=itp_t hm hb6
    refine tn<|ctv hF rfl hb6<|th<|?_
    refine rg<|?_
    refine ls<|q1 hF rfl (e_fa hF fa83_1 rfl) fun a hF=>?_
    refine ls<|q1 hF rfl (e_ld hF Tryz.isAgg3 rfl ((St.ld hS).cellB (.head _) rfl)) fun a hF=>?_
    refine ls<|q1 hF rfl (e_lss hF rfl rfl) fun a hF=>?_
    refine ls<|q1 hF rfl (e_move hF rfl) fun a hF=>?_
    refine grp (N:=42) (Fk:=[(15,.bool ((decide (p1.N < 0)) || (decide (4294967296 < p1.N))))]) (b:=(decide (p1.N < 0))) 4 hS ?_ ?_ ?_
    ·
      intro hb key
      replace hF:=Fr.as hF (t:=11) rfl (congrArg Value.bool hb)
      refine ls<|gn hF rfl rfl rfl rfl fun a hF=>?_
      refine ls<|gn hF rfl rfl rfl rfl fun a hF=>?_
      refine ls<|gn hF rfl rfl rfl rfl fun a hF=>?_
      refine ls<|q1 hF rfl (e_as (v':=.bool ((decide (p1.N < 0)) || (decide (4294967296 < p1.N)))) (e_pickT hF rfl rfl) (by rw [hb];rfl)) fun a hF=>?_
      exact key _ _ (hF.has ⟨rfl,trivial⟩) hS
    ·
      intro hb key
      replace hF:=Fr.as hF (t:=11) rfl (congrArg Value.bool hb)
      refine ls<|gy hF rfl rfl<|q1 hF rfl (e_fa hF fa83_1 rfl) fun a hF=>?_
      refine ls<|gy hF rfl rfl<|q1 hF rfl (e_ld hF Tryz.isAgg3 rfl ((St.ld hS).cellB (.head _) rfl)) fun a hF=>?_
      refine ls<|gy hF rfl rfl<|q1 hF rfl (e_gtr hF rfl rfl) fun a hF=>?_
      refine ls<|q1 hF rfl (e_as (v':=.bool ((decide (p1.N < 0)) || (decide (4294967296 < p1.N)))) (e_pickF hF rfl rfl) (by rw [hb];rfl)) fun a hF=>?_
      exact key _ _ (hF.has ⟨rfl,trivial⟩) hS
    intro a w hF hS
    refine ls<|q1 hF rfl (e_asg hF rfl) fun a hF=>?_
    refine re<|?_
    refine tn<|?_
    refine wr<|br<|tr<|?_
    obtain rfl:=Option.some.inj hm
    exact r1 hF Tryz.results106 rfl ⟨rfl,hS.keep⟩
  ·
    replace hm:=itp_f hm hb6
    refine tn<|cfv hF rfl hb6<|th<|?_
    refine rg<|?_
    refine ls<|q1 hF rfl (e_fa hF fa83_0 rfl) fun a hF=>?_
    refine ls<|q1 hF rfl (e_ld hF Tryz.isAgg3 rfl ((St.ld hS).cellB (.head _) rfl)) fun a hF=>?_
    refine ls<|q1 hF rfl (e_eql hF rfl rfl) fun a hF=>?_
    refine ls<|q1 hF rfl (e_asg hF rfl) fun a hF=>?_
    refine re<|?_
    rcases bdich (decide (p1.Kind=2)) with hb7 | hb7
    ·
      replace hm:=itp_t hm hb7
      refine tn<|ctv hF rfl hb7<|th<|?_
      refine rg<|?_
      refine ls<|q1 hF rfl (e_fa hF fa83_1 rfl) fun a hF=>?_
      refine ls<|q1 hF rfl (e_ld hF Tryz.isAgg3 rfl ((St.ld hS).cellB (.head _) rfl)) fun a hF=>?_
      refine ls<|q1 hF rfl (e_lss hF rfl rfl) fun a hF=>?_
      refine ls<|q1 hF rfl (e_move hF rfl) fun a hF=>?_
      refine grp (N:=42) (Fk:=[(28,.bool ((decide (p1.N < 0)) || (decide (y3≤p1.N))))]) (b:=(decide (p1.N < 0))) 5 hS ?_ ?_ ?_
      ·
        intro hb key
        replace hF:=Fr.as hF (t:=23) rfl (congrArg Value.bool hb)
        refine ls<|gn hF rfl rfl rfl rfl fun a hF=>?_
        refine ls<|gn hF rfl rfl rfl rfl fun a hF=>?_
        refine ls<|gn hF rfl rfl rfl rfl fun a hF=>?_
        refine ls<|gn hF rfl rfl rfl rfl fun a hF=>?_
        refine ls<|q1 hF rfl (e_as (v':=.bool ((decide (p1.N < 0)) || (decide (y3≤p1.N)))) (e_pickT hF rfl rfl) (by rw [hb];rfl)) fun a hF=>?_
        exact key _ _ (hF.has ⟨rfl,trivial⟩) hS
      ·
        intro hb key
        replace hF:=Fr.as hF (t:=23) rfl (congrArg Value.bool hb)
        refine ls<|gy hF rfl rfl<|q1 hF rfl (e_fa hF fa83_1 rfl) fun a hF=>?_
        refine ls<|gy hF rfl rfl<|q1 hF rfl (e_ld hF Tryz.isAgg3 rfl ((St.ld hS).cellB (.head _) rfl)) fun a hF=>?_
        refine ls<|gy hF rfl rfl<|q1 hF rfl (e_ld hF Tryz.isAgg3 rfl (PH.le.cell (Lds.le (St.ld hS)) (ph_cell hb4 rfl))) fun a hF=>?_
        refine ls<|gy hF rfl rfl<|q1 hF rfl (e_geq hF rfl rfl) fun a hF=>?_
        refine ls<|q1 hF rfl (e_as (v':=.bool ((decide (p1.N < 0)) || (decide (y3≤p1.N)))) (e_pickF hF rfl rfl) (by rw [hb];rfl)) fun a hF=>?_
        exact key _ _ (hF.has ⟨rfl,trivial⟩) hS
      intro a w hF hS
      refine ls<|q1 hF rfl (e_asg hF rfl) fun a hF=>?_
      refine re<|?_
      refine tn<|?_
      refine wr<|br<|tr<|?_
      obtain rfl:=Option.some.inj hm
      exact r1 hF Tryz.results106 rfl ⟨rfl,hS.keep⟩
    ·
      replace hm:=itp_f hm hb7
      refine tn<|cfv hF rfl hb7<|wk<|?_
      refine bn<|tn<|th<|?_
      refine rg<|?_
      refine ls<|q1 hF rfl (e_fa hF fa83_1 rfl) fun a hF=>?_
      refine ls<|q1 hF rfl (e_ld hF Tryz.isAgg3 rfl ((St.ld hS).cellB (.head _) rfl)) fun a hF=>?_
      refine ls<|q1 hF rfl (e_neq hF rfl rfl) fun a hF=>?_
      refine ls<|q1 hF rfl (e_move hF rfl) fun a hF=>?_
      refine grp (N:=42) (Fk:=[(2,.pointer (some ⟨b5,0,none⟩)),(36,.bool ((decide (p1.N≠0)) || (decide (p1.Kind < 1))))]) (b:=(decide (p1.N≠0))) 4 hS ?_ ?_ ?_
      ·
        intro hb key
        replace hF:=Fr.as hF (t:=32) rfl (congrArg Value.bool hb)
        refine ls<|gn hF rfl rfl rfl rfl fun a hF=>?_
        refine ls<|gn hF rfl rfl rfl rfl fun a hF=>?_
        refine ls<|gn hF rfl rfl rfl rfl fun a hF=>?_
        refine ls<|q1 hF rfl (e_as (v':=.bool ((decide (p1.N≠0)) || (decide (p1.Kind < 1)))) (e_pickT hF rfl rfl) (by rw [hb];rfl)) fun a hF=>?_
        exact key _ _ (hF.has ⟨rfl,rfl,trivial⟩) hS
      ·
        intro hb key
        replace hF:=Fr.as hF (t:=32) rfl (congrArg Value.bool hb)
        refine ls<|gy hF rfl rfl<|q1 hF rfl (e_fa hF fa83_0 rfl) fun a hF=>?_
        refine ls<|gy hF rfl rfl<|q1 hF rfl (e_ld hF Tryz.isAgg3 rfl ((St.ld hS).cellB (.head _) rfl)) fun a hF=>?_
        refine ls<|gy hF rfl rfl<|q1 hF rfl (e_lss hF rfl rfl) fun a hF=>?_
        refine ls<|q1 hF rfl (e_as (v':=.bool ((decide (p1.N≠0)) || (decide (p1.Kind < 1)))) (e_pickF hF rfl rfl) (by rw [hb];rfl)) fun a hF=>?_
        exact key _ _ (hF.has ⟨rfl,rfl,trivial⟩) hS
      intro a w hF hS
      refine ls<|q1 hF rfl (e_move hF rfl) fun a hF=>?_
      refine grp (N:=42) (Fk:=[(41,.bool (((decide (p1.N≠0)) || (decide (p1.Kind < 1))) || (decide (16≤p1.Kind))))]) (b:=((decide (p1.N≠0)) || (decide (p1.Kind < 1)))) 4 hS ?_ ?_ ?_
      ·
        intro hb key
        replace hF:=Fr.as hF (t:=37) rfl (congrArg Value.bool hb)
        refine ls<|gn hF rfl rfl rfl rfl fun a hF=>?_
        refine ls<|gn hF rfl rfl rfl rfl fun a hF=>?_
        refine ls<|gn hF rfl rfl rfl rfl fun a hF=>?_
        refine ls<|q1 hF rfl (e_as (v':=.bool (((decide (p1.N≠0)) || (decide (p1.Kind < 1))) || (decide (16≤p1.Kind)))) (e_pickT hF rfl rfl) (by rw [hb];rfl)) fun a hF=>?_
        exact key _ _ (hF.has ⟨rfl,trivial⟩) hS
      ·
        intro hb key
        replace hF:=Fr.as hF (t:=37) rfl (congrArg Value.bool hb)
        refine ls<|gy hF rfl rfl<|q1 hF rfl (e_fa hF fa83_0 rfl) fun a hF=>?_
        refine ls<|gy hF rfl rfl<|q1 hF rfl (e_ld hF Tryz.isAgg3 rfl ((St.ld hS).cellB (.head _) rfl)) fun a hF=>?_
        refine ls<|gy hF rfl rfl<|q1 hF rfl (e_geq hF rfl rfl) fun a hF=>?_
        refine ls<|q1 hF rfl (e_as (v':=.bool (((decide (p1.N≠0)) || (decide (p1.Kind < 1))) || (decide (16≤p1.Kind)))) (e_pickF hF rfl rfl) (by rw [hb];rfl)) fun a hF=>?_
        exact key _ _ (hF.has ⟨rfl,trivial⟩) hS
      intro a w hF hS
      refine ls<|q1 hF rfl (e_asg hF rfl) fun a hF=>?_
      refine re<|?_
      refine tn<|?_
      refine wr<|?_
      obtain rfl:=Option.some.inj hm
      exact r1 hF Tryz.results106 rfl ⟨rfl,hS.keep⟩
set_option maxRecDepth 100000 in
theorem Z5i_c {N:Nat} {w0:World} {H:PH} (hH:H.le w0) {oa2:Option Addr} {cap3:Nat} {p1:(List api_Op)} (hc4:p1.length≤cap3) (hr5:SR H oa2 p1) {y7:Int} {b6:Nat} (hb8:H b6=some (.cells [.int .i64 y7].toArray 3 (0,0))) {r:Int} (hm:Z5i N p1 y7=some r):Tot Tryz.prog 133 #[.slice oa2 p1.length cap3,.func (.func 106) #[] #[.pointer (some ⟨b6,0,none⟩)]] w0 (fun v w'=>v=.int .i64 r∧Keep Nil w0 w'):=by
  unfold Z5i at hm
  refine fn0 (args:=[.slice oa2 p1.length cap3,.func (.func 106) #[] #[.pointer (some ⟨b6,0,none⟩)]]) (F:=[(0,.slice oa2 p1.length cap3),(1,.func (.func 106) #[] #[.pointer (some ⟨b6,0,none⟩)])]) Tryz.func133 rfl Tryz.ntmps133 rfl rfl fun a hF=>?_
  have hS:St w0 Nil [H] [] w0:=start1 hH
  refine th<|?_
  refine rg<|?_
  refine ls<|q1 hF rfl (e_asg hF rfl) fun a hF=>?_
  refine re<|?_
  refine tn<|th<|th<|?_
  refine rg<|?_
  refine ls<|q1 hF rfl (e_move hF rfl) fun a hF=>?_
  refine ls<|q1 hF rfl (e_lenL (α:=api_Op) (xs:=p1) hF Tryz.runUnderlying54 rfl) fun a hF=>?_
  refine ls<|q1 hF rfl (e_move hF rfl) fun a hF=>?_
  refine re<|?_
  refine tn<|midK (fun a w=>Z5j=some r∧Fr 19 [] a∧St w0 Nil [H] [] w) ?_ ?_
  ·
    refine wb<|lp (α:=Nat×Int) (fun (gh:Nat×Int) a w=>match gh with | (nn2,vB1)=>(Z5k N Z5j p1 y7) nn2 vB1=some r∧Fr 19 [(0,.slice oa2 p1.length cap3),(1,.func (.func 106) #[] #[.pointer (some ⟨b6,0,none⟩)]),(7,.int .i64 (p1.length:Int)),(8,.int .i64 vB1)] a∧St w0 Nil [H] [] w) (fun gh=>gh.1) (N,0) ⟨hm,hF.has ⟨rfl,rfl,rfl,rfl,trivial⟩,hS⟩ ?_
    clear hm hF hS
    rintro ⟨nn2,vB1⟩ a w ⟨hm,hF,hS⟩
    obtain _ | nn2:=nn2
    · simp [Z5k] at hm
    rw [Z5k] at hm
    refine th<|?_
    refine rg<|?_
    refine ls<|q1 hF rfl (e_lss hF rfl rfl) fun a hF=>?_
    refine re<|?_
    rcases bdich (decide (vB1 < (p1.length:Int))) with hb9 | hb9
    ·
      replace hm:=itp_t hm hb9
      refine tn<|th<|ctv hF rfl hb9<|wk<|?_
      refine tn<|th<|wb<|th<|?_
      refine rg<|?_
      refine ls<|q1 hF rfl (e_move hF rfl) fun a hF=>?_
      refine ls<|q1 hF rfl (e_asg hF rfl) fun a hF=>?_
      refine re<|?_
      refine tn<|th<|?_
      replace hm:=bind_some hm
      obtain ⟨x10,h11,hm⟩:=hm
      obtain ⟨c12,g13,hl14⟩:=SR.get hr5 h11
      obtain rfl:=api_Op_open g13
      replace hm:=bind_some hm
      obtain ⟨r15,h16,hm⟩:=hm
      refine rg<|?_
      refine ls<|q1 hF rfl (e_move hF rfl) fun a hF=>?_
      refine ls<|q1 hF rfl (e_move hF rfl) fun a hF=>?_
      refine ls<|q1 hF rfl (e_move hF rfl) fun a hF=>?_
      refine ls<|q1 hF rfl (e_iaI hF Tryz.runUnderlying54 Tryz.sizeOf83 rfl rfl h11 (SR.oaI hr5 (by decide) h11)) fun a hF=>?_
      refine ls<|q1 hF rfl (e_ldA hF Tryz.isAgg83 Tryz.sizeOf83 rfl rfl (fun j v hj=>PH.le.cell (Lds.le (St.ld hS)) (hl14 j v hj))) fun a hF=>?_
      refine ls<|k1 (vs:=[.agg #[.int .i64 x10.Kind,.int .i64 x10.N]]) (caps:=[.pointer (some ⟨b6,0,none⟩)]) hF rfl rfl Tryz.call106 (Z1b_c (hp_le _) (St.up hS _ _ hb8) h16) ⟨rfl,trivial⟩ rfl (fun v w a hR hF=>?_)
      obtain ⟨rfl,hk⟩:=hR
      replace hS:=hS.pass hk
      clear hk
      refine re<|?_
      rcases bdich r15 with hb17 | hb17
      ·
        replace hm:=ite_t hm hb17
        refine tn<|ctv hF rfl hb17<|th<|?_
        refine rg<|?_
        refine ls<|q1 hF rfl (e_move hF rfl) fun a hF=>?_
        refine ls<|q1 hF rfl (e_asg hF rfl) fun a hF=>?_
        refine re<|?_
        refine tn<|?_
        refine wr<|br<|tr<|tr<|br<|tr<|?_
        obtain rfl:=Option.some.inj hm
        exact r1 hF Tryz.results133 rfl ⟨rfl,hS.keep⟩
      ·
        replace hm:=ite_f hm hb17
        refine tn<|cfv hF rfl hb17<|wk<|?_
        refine bn<|tn<|?_
        refine rg<|?_
        refine ls<|q1 hF rfl (e_add hF rfl rfl) fun a hF=>?_
        refine ls<|q1 hF rfl (e_move hF rfl) fun a hF=>?_
        refine re<|?_
        refine tn<|?_
        exact ⟨(nn2,(IntKind.i64.wrap (vB1+1))),⟨hm,hF.has ⟨rfl,rfl,rfl,rfl,trivial⟩,hS⟩,Nat.lt_succ_self _⟩
    ·
      replace hm:=itp_f hm hb9
      refine tn<|th<|cfv hF rfl hb9<|?_
      refine we<|tx<|tx<|bx<|?_
      refine tn<|?_
      exact ⟨hm,hF.has trivial,hS⟩
  clear hm hF hS
  rintro a w ⟨hm,hF,hS⟩
  unfold Z5j at hm
  refine th<|?_
  refine rg<|?_
  refine ls<|q1 hF rfl (e_asg hF rfl) fun a hF=>?_
  refine re<|?_
  refine tn<|?_
  refine wr<|?_
  obtain rfl:=Option.some.inj hm
  exact r1 hF Tryz.results133 rfl ⟨rfl,hS.keep⟩
set_option maxRecDepth 100000 in
theorem Z56_c {N:Nat} {w0:World} {H:PH} (hH:H.le w0) {oa2:Option Addr} {cap3:Nat} {p1:(List api_Op)} (hc4:p1.length≤cap3) (hr5:SR H oa2 p1) {y7:Int} {b6:Nat} (hb8:H b6=some (.cells [.int .i64 y7].toArray 3 (0,0))) {r:Bool} (hm:Z56 N p1 y7=some r):Tot Tryz.prog 108 #[.slice oa2 p1.length cap3,.func (.func 106) #[] #[.pointer (some ⟨b6,0,none⟩)]] w0 (fun v w'=>v=.bool r∧Keep Nil w0 w'):=by
  unfold Z56 at hm
  refine fn0 (args:=[.slice oa2 p1.length cap3,.func (.func 106) #[] #[.pointer (some ⟨b6,0,none⟩)]]) (F:=[(0,.slice oa2 p1.length cap3),(1,.func (.func 106) #[] #[.pointer (some ⟨b6,0,none⟩)])]) Tryz.func108 rfl Tryz.ntmps108 rfl rfl fun a hF=>?_
  have hS:St w0 Nil [H] [] w0:=start1 hH
  refine th<|?_
  refine rg<|?_
  refine ls<|q1 hF rfl (e_asg hF rfl) fun a hF=>?_
  refine re<|?_
  refine tn<|th<|?_
  replace hm:=bind_some hm
  obtain ⟨rz9,h10,hm⟩:=hm
  refine rg<|?_
  refine ls<|q1 hF rfl (e_move hF rfl) fun a hF=>?_
  refine ls<|q1 hF rfl (e_move hF rfl) fun a hF=>?_
  refine ls<|c1 hF rfl Tryz.call133 (Z5i_c (hp_le _) hc4 (St.srH hS hr5) (St.up hS _ _ hb8) h10) ⟨rfl,rfl,trivial⟩ (fun v w a hR hF=>?_)
  obtain ⟨rfl,hk⟩:=hR
  replace hS:=hS.pass hk
  clear hk
  refine ls<|q1 hF rfl (e_geq hF rfl rfl) fun a hF=>?_
  refine ls<|q1 hF rfl (e_asg hF rfl) fun a hF=>?_
  refine re<|?_
  refine tn<|?_
  refine wr<|?_
  obtain rfl:=Option.some.inj hm
  exact r1 hF Tryz.results108 rfl ⟨rfl,hS.keep⟩
set_option maxRecDepth 100000 in
theorem Z1a_c {N:Nat} {w0:World} {H:PH} (hH:H.le w0) {oa2:Option Addr} {cap3:Nat} {p1:(List api_Op)} (hc4:p1.length≤cap3) (hr5:SR H oa2 p1) {p6:Int} {r:Bool} (hm:Z1a N p1 p6=some r):Tot Tryz.prog 65 #[.slice oa2 p1.length cap3,.int .i64 p6] w0 (fun v w'=>v=.bool r∧Keep Nil w0 w'):=by
  unfold Z1a at hm
  refine fn0 (args:=[.slice oa2 p1.length cap3,.int .i64 p6]) (F:=[(0,.slice oa2 p1.length cap3),(1,.int .i64 p6)]) Tryz.func65 rfl Tryz.ntmps65 rfl rfl fun a hF=>?_
  have hS:St w0 Nil [H] [] w0:=start1 hH
  refine th<|?_
  refine rg<|?_
  refine ls<|a_box (cs:=[.int .i64 p6].toArray) hF rfl hS rfl rfl fun b7 w a hS hF=>?_
  refine ls<|q1 hF rfl (e_asg hF rfl) fun a hF=>?_
  refine re<|?_
  refine tn<|th<|?_
  refine rg<|?_
  refine ls<|q1 hF rfl (e_mkf (vs:=[.pointer (some ⟨b7,0,none⟩)]) hF ⟨rfl,trivial⟩) fun a hF=>?_
  refine ls<|q1 hF rfl (e_asg hF rfl) fun a hF=>?_
  refine re<|?_
  refine tn<|th<|?_
  replace hm:=bind_some hm
  obtain ⟨rz8,h9,hm⟩:=hm
  refine rg<|?_
  refine ls<|q1 hF rfl (e_move hF rfl) fun a hF=>?_
  refine ls<|c1 hF rfl Tryz.call107 (Z1c_c (hp_le _) hc4 (St.srH hS hr5) h9) ⟨rfl,trivial⟩ (fun v w a hR hF=>?_)
  obtain ⟨rfl,hk⟩:=hR
  replace hS:=hS.pass hk
  clear hk
  refine ls<|q1 hF rfl (e_move hF rfl) fun a hF=>?_
  refine ls<|q1 hF rfl (e_ext hF rfl rfl) fun a hF=>?_
  refine ls<|q1 hF rfl (e_ext hF rfl rfl) fun a hF=>?_
  refine ls<|q1 hF rfl (e_ext hF rfl rfl) fun a hF=>?_
  refine ls<|q1 hF rfl (e_asg hF rfl) fun a hF=>?_
  refine ls<|q1 hF rfl (e_asg hF rfl) fun a hF=>?_
  refine ls<|q1 hF rfl (e_asg hF rfl) fun a hF=>?_
  refine re<|?_
  refine tn<|th<|?_
  rcases bdich (((decide ((p1.length:Int)≤40)) && rz8.2.2) && (decide (rz8.1=1))) with hb10 | hb10
  ·
    replace hm:=ite_t hm hb10
    replace hm:=bind_some hm
    obtain ⟨r11,h12,hm⟩:=hm
    refine rg<|?_
    refine ls<|q1 hF rfl (e_move hF rfl) fun a hF=>?_
    refine ls<|q1 hF rfl (e_lenL (α:=api_Op) (xs:=p1) hF Tryz.runUnderlying54 rfl) fun a hF=>?_
    refine ls<|q1 hF rfl (e_leq hF rfl rfl) fun a hF=>?_
    refine ls<|q1 hF rfl (e_move hF rfl) fun a hF=>?_
    refine grp (N:=32) (Fk:=[(0,.slice oa2 p1.length cap3),(5,.func (.func 106) #[] #[.pointer (some ⟨b7,0,none⟩)]),(6,.int .i64 rz8.1),(21,.bool ((decide ((p1.length:Int)≤40)) && rz8.2.2))]) (b:=(decide ((p1.length:Int)≤40))) 2 hS ?_ ?_ ?_
    ·
      intro hb key
      replace hF:=Fr.as hF (t:=19) rfl (congrArg Value.bool hb)
      refine ls<|gy hF rfl rfl<|q1 hF rfl (e_move hF rfl) fun a hF=>?_
      refine ls<|q1 hF rfl (e_as (v':=.bool ((decide ((p1.length:Int)≤40)) && rz8.2.2)) (e_pickT hF rfl rfl) (by rw [hb];rfl)) fun a hF=>?_
      exact key _ _ (hF.has ⟨rfl,rfl,rfl,rfl,trivial⟩) hS
    ·
      intro hb key
      replace hF:=Fr.as hF (t:=19) rfl (congrArg Value.bool hb)
      refine ls<|gn hF rfl rfl rfl rfl fun a hF=>?_
      refine ls<|q1 hF rfl (e_as (v':=.bool ((decide ((p1.length:Int)≤40)) && rz8.2.2)) (e_pickF hF rfl rfl) (by rw [hb];rfl)) fun a hF=>?_
      exact key _ _ (hF.has ⟨rfl,rfl,rfl,rfl,trivial⟩) hS
    intro a w hF hS
    refine ls<|q1 hF rfl (e_move hF rfl) fun a hF=>?_
    refine grp (N:=32) (Fk:=[(0,.slice oa2 p1.length cap3),(5,.func (.func 106) #[] #[.pointer (some ⟨b7,0,none⟩)]),(25,.bool (((decide ((p1.length:Int)≤40)) && rz8.2.2) && (decide (rz8.1=1))))]) (b:=((decide ((p1.length:Int)≤40)) && rz8.2.2)) 3 hS ?_ ?_ ?_
    ·
      intro hb key
      replace hF:=Fr.as hF (t:=22) rfl (congrArg Value.bool hb)
      refine ls<|gy hF rfl rfl<|q1 hF rfl (e_move hF rfl) fun a hF=>?_
      refine ls<|gy hF rfl rfl<|q1 hF rfl (e_eql hF rfl rfl) fun a hF=>?_
      refine ls<|q1 hF rfl (e_as (v':=.bool (((decide ((p1.length:Int)≤40)) && rz8.2.2) && (decide (rz8.1=1)))) (e_pickT hF rfl rfl) (by rw [hb];rfl)) fun a hF=>?_
      exact key _ _ (hF.has ⟨rfl,rfl,rfl,trivial⟩) hS
    ·
      intro hb key
      replace hF:=Fr.as hF (t:=22) rfl (congrArg Value.bool hb)
      refine ls<|gn hF rfl rfl rfl rfl fun a hF=>?_
      refine ls<|gn hF rfl rfl rfl rfl fun a hF=>?_
      refine ls<|q1 hF rfl (e_as (v':=.bool (((decide ((p1.length:Int)≤40)) && rz8.2.2) && (decide (rz8.1=1)))) (e_pickF hF rfl rfl) (by rw [hb];rfl)) fun a hF=>?_
      exact key _ _ (hF.has ⟨rfl,rfl,rfl,trivial⟩) hS
    intro a w hF hS
    refine ls<|q1 hF rfl (e_as (e_move hF rfl) (congrArg Value.bool hb10)) fun a hF=>?_
    refine ls<|gy hF rfl rfl<|q1 hF rfl (e_move hF rfl) fun a hF=>?_
    refine ls<|gy hF rfl rfl<|q1 hF rfl (e_move hF rfl) fun a hF=>?_
    refine ls<|gy hF rfl rfl<|c1 hF rfl Tryz.call108 (Z56_c (hp_le _) hc4 (St.srH hS hr5) (St.blkO hS (.head _)) h12) ⟨rfl,rfl,trivial⟩ (fun v w a hR hF=>?_)
    obtain ⟨rfl,hk⟩:=hR
    replace hS:=hS.pass hk
    clear hk
    refine ls<|gy hF rfl rfl<|q1 hF rfl (e_not hF rfl) fun a hF=>?_
    refine ls<|q1 hF rfl (e_pickT hF rfl rfl) fun a hF=>?_
    refine ls<|q1 hF rfl (e_asg hF rfl) fun a hF=>?_
    refine re<|?_
    refine tn<|?_
    refine wr<|?_
    obtain rfl:=Option.some.inj hm
    exact r1 hF Tryz.results65 rfl ⟨rfl,hS.keep⟩
  ·
    replace hm:=ite_f hm hb10
    refine rg<|?_
    refine ls<|q1 hF rfl (e_move hF rfl) fun a hF=>?_
    refine ls<|q1 hF rfl (e_lenL (α:=api_Op) (xs:=p1) hF Tryz.runUnderlying54 rfl) fun a hF=>?_
    refine ls<|q1 hF rfl (e_leq hF rfl rfl) fun a hF=>?_
    refine ls<|q1 hF rfl (e_move hF rfl) fun a hF=>?_
    refine grp (N:=32) (Fk:=[(0,.slice oa2 p1.length cap3),(5,.func (.func 106) #[] #[.pointer (some ⟨b7,0,none⟩)]),(6,.int .i64 rz8.1),(21,.bool ((decide ((p1.length:Int)≤40)) && rz8.2.2))]) (b:=(decide ((p1.length:Int)≤40))) 2 hS ?_ ?_ ?_
    ·
      intro hb key
      replace hF:=Fr.as hF (t:=19) rfl (congrArg Value.bool hb)
      refine ls<|gy hF rfl rfl<|q1 hF rfl (e_move hF rfl) fun a hF=>?_
      refine ls<|q1 hF rfl (e_as (v':=.bool ((decide ((p1.length:Int)≤40)) && rz8.2.2)) (e_pickT hF rfl rfl) (by rw [hb];rfl)) fun a hF=>?_
      exact key _ _ (hF.has ⟨rfl,rfl,rfl,rfl,trivial⟩) hS
    ·
      intro hb key
      replace hF:=Fr.as hF (t:=19) rfl (congrArg Value.bool hb)
      refine ls<|gn hF rfl rfl rfl rfl fun a hF=>?_
      refine ls<|q1 hF rfl (e_as (v':=.bool ((decide ((p1.length:Int)≤40)) && rz8.2.2)) (e_pickF hF rfl rfl) (by rw [hb];rfl)) fun a hF=>?_
      exact key _ _ (hF.has ⟨rfl,rfl,rfl,rfl,trivial⟩) hS
    intro a w hF hS
    refine ls<|q1 hF rfl (e_move hF rfl) fun a hF=>?_
    refine grp (N:=32) (Fk:=[(0,.slice oa2 p1.length cap3),(5,.func (.func 106) #[] #[.pointer (some ⟨b7,0,none⟩)]),(25,.bool (((decide ((p1.length:Int)≤40)) && rz8.2.2) && (decide (rz8.1=1))))]) (b:=((decide ((p1.length:Int)≤40)) && rz8.2.2)) 3 hS ?_ ?_ ?_
    ·
      intro hb key
      replace hF:=Fr.as hF (t:=22) rfl (congrArg Value.bool hb)
      refine ls<|gy hF rfl rfl<|q1 hF rfl (e_move hF rfl) fun a hF=>?_
      refine ls<|gy hF rfl rfl<|q1 hF rfl (e_eql hF rfl rfl) fun a hF=>?_
      refine ls<|q1 hF rfl (e_as (v':=.bool (((decide ((p1.length:Int)≤40)) && rz8.2.2) && (decide (rz8.1=1)))) (e_pickT hF rfl rfl) (by rw [hb];rfl)) fun a hF=>?_
      exact key _ _ (hF.has ⟨rfl,rfl,rfl,trivial⟩) hS
    ·
      intro hb key
      replace hF:=Fr.as hF (t:=22) rfl (congrArg Value.bool hb)
      refine ls<|gn hF rfl rfl rfl rfl fun a hF=>?_
      refine ls<|gn hF rfl rfl rfl rfl fun a hF=>?_
      refine ls<|q1 hF rfl (e_as (v':=.bool (((decide ((p1.length:Int)≤40)) && rz8.2.2) && (decide (rz8.1=1)))) (e_pickF hF rfl rfl) (by rw [hb];rfl)) fun a hF=>?_
      exact key _ _ (hF.has ⟨rfl,rfl,rfl,trivial⟩) hS
    intro a w hF hS
    refine ls<|q1 hF rfl (e_as (e_move hF rfl) (congrArg Value.bool hb10)) fun a hF=>?_
    refine ls<|gn hF rfl rfl rfl rfl fun a hF=>?_
    refine ls<|gn hF rfl rfl rfl rfl fun a hF=>?_
    refine ls<|gn hF rfl rfl rfl rfl fun a hF=>?_
    refine ls<|gn hF rfl rfl rfl rfl fun a hF=>?_
    refine ls<|q1 hF rfl (e_pickF hF rfl rfl) fun a hF=>?_
    refine ls<|q1 hF rfl (e_asg hF rfl) fun a hF=>?_
    refine re<|?_
    refine tn<|?_
    refine wr<|?_
    obtain rfl:=Option.some.inj hm
    exact r1 hF Tryz.results65 rfl ⟨rfl,hS.keep⟩
set_option maxRecDepth 100000 in
theorem Z4t_c {N:Nat} {w0:World} {H:PH} (hH:H.le w0) {cs2:List Value} {p1:api_Instr} (g3:Enc.rep H cs2 p1) {cs6:List Value} {y5:api_Instr} (g7:Enc.rep H cs6 y5) {b4:Nat} (hb8:H b4=some (.cells cs6.toArray 85 (0,0))) {r:Bool} (hm:Z4t N p1 y5=some r):Tot Tryz.prog 131 #[.agg cs2.toArray,.pointer (some ⟨b4,0,none⟩)] w0 (fun v w'=>v=.bool r∧Keep Nil w0 w'):=by
  unfold Z4t at hm
  refine fn0 (args:=[.agg cs2.toArray,.pointer (some ⟨b4,0,none⟩)]) (F:=[(0,.agg cs2.toArray),(1,.pointer (some ⟨b4,0,none⟩))]) Tryz.func131 rfl Tryz.ntmps131 rfl rfl fun a hF=>?_
  have hS:St w0 Nil [H] [] w0:=start1 hH
  obtain ⟨oa9,cap10,oa13,cap14,rfl,hc11,hr12,hc15,hr16⟩:=api_Instr_open g7
  obtain ⟨oa17,cap18,oa21,cap22,rfl,hc19,hr20,hc23,hr24⟩:=api_Instr_open g3
  refine th<|?_
  refine rg<|?_
  refine ls<|a_box (cs:=[.int .i64 p1.Kind,.int .i64 p1.A,.int .i64 p1.B,.slice oa17 p1.E.length cap18,.slice oa21 p1.F.length cap22,.int .i64 p1.To].toArray) hF rfl hS rfl rfl fun b25 w a hS hF=>?_
  refine ls<|q1 hF rfl (e_asg hF rfl) fun a hF=>?_
  refine re<|?_
  refine tn<|th<|?_
  refine rg<|?_
  refine ls<|q1 hF rfl (e_fa hF fa85_0 rfl) fun a hF=>?_
  refine ls<|q1 hF rfl (e_ld hF Tryz.isAgg3 rfl ((St.ld hS).cellB (.head _) rfl)) fun a hF=>?_
  refine ls<|q1 hF rfl (e_eql hF rfl rfl) fun a hF=>?_
  refine ls<|q1 hF rfl (e_move hF rfl) fun a hF=>?_
  refine grp (N:=14) (Fk:=[(13,.bool ((decide (p1.Kind=13)) && (decide (p1.A=y5.A))))]) (b:=(decide (p1.Kind=13))) 6 hS ?_ ?_ ?_
  ·
    intro hb key
    replace hF:=Fr.as hF (t:=7) rfl (congrArg Value.bool hb)
    refine ls<|gy hF rfl rfl<|q1 hF rfl (e_fa hF fa85_1 rfl) fun a hF=>?_
    refine ls<|gy hF rfl rfl<|q1 hF rfl (e_ld hF Tryz.isAgg3 rfl ((St.ld hS).cellB (.head _) rfl)) fun a hF=>?_
    refine ls<|gy hF rfl rfl<|q1 hF rfl (e_fa hF fa85_1 rfl) fun a hF=>?_
    refine ls<|gy hF rfl rfl<|q1 hF rfl (e_ld hF Tryz.isAgg3 rfl (PH.le.cell (Lds.le (St.ld hS)) (ph_cell hb8 rfl))) fun a hF=>?_
    refine ls<|gy hF rfl rfl<|q1 hF rfl (e_eql hF rfl rfl) fun a hF=>?_
    refine ls<|q1 hF rfl (e_as (v':=.bool ((decide (p1.Kind=13)) && (decide (p1.A=y5.A)))) (e_pickT hF rfl rfl) (by rw [hb];rfl)) fun a hF=>?_
    exact key _ _ (hF.has ⟨rfl,trivial⟩) hS
  ·
    intro hb key
    replace hF:=Fr.as hF (t:=7) rfl (congrArg Value.bool hb)
    refine ls<|gn hF rfl rfl rfl rfl fun a hF=>?_
    refine ls<|gn hF rfl rfl rfl rfl fun a hF=>?_
    refine ls<|gn hF rfl rfl rfl rfl fun a hF=>?_
    refine ls<|gn hF rfl rfl rfl rfl fun a hF=>?_
    refine ls<|gn hF rfl rfl rfl rfl fun a hF=>?_
    refine ls<|q1 hF rfl (e_as (v':=.bool ((decide (p1.Kind=13)) && (decide (p1.A=y5.A)))) (e_pickF hF rfl rfl) (by rw [hb];rfl)) fun a hF=>?_
    exact key _ _ (hF.has ⟨rfl,trivial⟩) hS
  intro a w hF hS
  refine ls<|q1 hF rfl (e_asg hF rfl) fun a hF=>?_
  refine re<|?_
  refine tn<|?_
  refine wr<|?_
  obtain rfl:=Option.some.inj hm
  exact r1 hF Tryz.results131 rfl ⟨rfl,hS.keep⟩
set_option maxRecDepth 100000 in
theorem Z5f_c {N:Nat} {w0:World} {H:PH} (hH:H.le w0) {oa2:Option Addr} {cap3:Nat} {p1:(List api_Instr)} (hc4:p1.length≤cap3) (hr5:SR H oa2 p1) {cs8:List Value} {y7:api_Instr} (g9:Enc.rep H cs8 y7) {b6:Nat} (hb10:H b6=some (.cells cs8.toArray 85 (0,0))) {r:Int} (hm:Z5f N p1 y7=some r):Tot Tryz.prog 143 #[.slice oa2 p1.length cap3,.func (.func 131) #[] #[.pointer (some ⟨b6,0,none⟩)]] w0 (fun v w'=>v=.int .i64 r∧Keep Nil w0 w'):=by
  unfold Z5f at hm
  refine fn0 (args:=[.slice oa2 p1.length cap3,.func (.func 131) #[] #[.pointer (some ⟨b6,0,none⟩)]]) (F:=[(0,.slice oa2 p1.length cap3),(1,.func (.func 131) #[] #[.pointer (some ⟨b6,0,none⟩)])]) Tryz.func143 rfl Tryz.ntmps143 rfl rfl fun a hF=>?_
  have hS:St w0 Nil [H] [] w0:=start1 hH
  obtain ⟨oa11,cap12,oa15,cap16,rfl,hc13,hr14,hc17,hr18⟩:=api_Instr_open g9
  refine th<|?_
  refine rg<|?_
  refine ls<|q1 hF rfl (e_asg hF rfl) fun a hF=>?_
  refine re<|?_
  refine tn<|th<|th<|?_
  refine rg<|?_
  refine ls<|q1 hF rfl (e_move hF rfl) fun a hF=>?_
  refine ls<|q1 hF rfl (e_lenL (α:=api_Instr) (xs:=p1) hF Tryz.runUnderlying24 rfl) fun a hF=>?_
  refine ls<|q1 hF rfl (e_move hF rfl) fun a hF=>?_
  refine re<|?_
  refine tn<|midK (fun a w=>Z5g=some r∧Fr 19 [] a∧St w0 Nil [H] [] w) ?_ ?_
  ·
    refine wb<|lp (α:=Nat×Int) (fun (gh:Nat×Int) a w=>match gh with | (nn2,vB1)=>(Z5h N Z5g p1 y7) nn2 vB1=some r∧Fr 19 [(0,.slice oa2 p1.length cap3),(1,.func (.func 131) #[] #[.pointer (some ⟨b6,0,none⟩)]),(7,.int .i64 (p1.length:Int)),(8,.int .i64 vB1)] a∧St w0 Nil [H] [] w) (fun gh=>gh.1) (N,0) ⟨hm,hF.has ⟨rfl,rfl,rfl,rfl,trivial⟩,hS⟩ ?_
    clear hm hF hS
    rintro ⟨nn2,vB1⟩ a w ⟨hm,hF,hS⟩
    obtain _ | nn2:=nn2
    · simp [Z5h] at hm
    rw [Z5h] at hm
    refine th<|?_
    refine rg<|?_
    refine ls<|q1 hF rfl (e_lss hF rfl rfl) fun a hF=>?_
    refine re<|?_
    rcases bdich (decide (vB1 < (p1.length:Int))) with hb19 | hb19
    ·
      replace hm:=itp_t hm hb19
      refine tn<|th<|ctv hF rfl hb19<|wk<|?_
      refine tn<|th<|wb<|th<|?_
      refine rg<|?_
      refine ls<|q1 hF rfl (e_move hF rfl) fun a hF=>?_
      refine ls<|q1 hF rfl (e_asg hF rfl) fun a hF=>?_
      refine re<|?_
      refine tn<|th<|?_
      replace hm:=bind_some hm
      obtain ⟨x20,h21,hm⟩:=hm
      obtain ⟨c22,g23,hl24⟩:=SR.get hr5 h21
      obtain ⟨oa25,cap26,oa29,cap30,rfl,hc27,hr28,hc31,hr32⟩:=api_Instr_open g23
      replace hm:=bind_some hm
      obtain ⟨r33,h34,hm⟩:=hm
      refine rg<|?_
      refine ls<|q1 hF rfl (e_move hF rfl) fun a hF=>?_
      refine ls<|q1 hF rfl (e_move hF rfl) fun a hF=>?_
      refine ls<|q1 hF rfl (e_move hF rfl) fun a hF=>?_
      refine ls<|q1 hF rfl (e_iaI hF Tryz.runUnderlying24 Tryz.sizeOf85 rfl rfl h21 (SR.oaI hr5 (by decide) h21)) fun a hF=>?_
      refine ls<|q1 hF rfl (e_ldA hF Tryz.isAgg85 Tryz.sizeOf85 rfl rfl (fun j v hj=>PH.le.cell (Lds.le (St.ld hS)) (hl24 j v hj))) fun a hF=>?_
      refine ls<|k1 (vs:=[.agg #[.int .i64 x20.Kind,.int .i64 x20.A,.int .i64 x20.B,.slice oa25 x20.E.length cap26,.slice oa29 x20.F.length cap30,.int .i64 x20.To]]) (caps:=[.pointer (some ⟨b6,0,none⟩)]) hF rfl rfl Tryz.call131 (Z4t_c (hp_le _) (Enc.mono (St.up hS) (show Enc.rep (α:=api_Instr) H [.int .i64 x20.Kind,.int .i64 x20.A,.int .i64 x20.B,.slice oa25 x20.E.length cap26,.slice oa29 x20.F.length cap30,.int .i64 x20.To] x20 from ⟨_,_,rfl,rfl,⟨_,_,rfl,rfl,⟨_,_,rfl,rfl,⟨_,_,rfl,⟨_,_,rfl,hc27,hr28⟩,⟨_,_,rfl,⟨_,_,rfl,hc31,hr32⟩,rfl⟩⟩⟩⟩⟩)) (Enc.mono (St.up hS) (show Enc.rep (α:=api_Instr) H [.int .i64 y7.Kind,.int .i64 y7.A,.int .i64 y7.B,.slice oa11 y7.E.length cap12,.slice oa15 y7.F.length cap16,.int .i64 y7.To] y7 from ⟨_,_,rfl,rfl,⟨_,_,rfl,rfl,⟨_,_,rfl,rfl,⟨_,_,rfl,⟨_,_,rfl,hc13,hr14⟩,⟨_,_,rfl,⟨_,_,rfl,hc17,hr18⟩,rfl⟩⟩⟩⟩⟩)) (St.up hS _ _ hb10) h34) ⟨rfl,trivial⟩ rfl (fun v w a hR hF=>?_)
      obtain ⟨rfl,hk⟩:=hR
      replace hS:=hS.pass hk
      clear hk
      refine re<|?_
      rcases bdich r33 with hb35 | hb35
      ·
        replace hm:=ite_t hm hb35
        refine tn<|ctv hF rfl hb35<|th<|?_
        refine rg<|?_
        refine ls<|q1 hF rfl (e_move hF rfl) fun a hF=>?_
        refine ls<|q1 hF rfl (e_asg hF rfl) fun a hF=>?_
        refine re<|?_
        refine tn<|?_
        refine wr<|br<|tr<|tr<|br<|tr<|?_
        obtain rfl:=Option.some.inj hm
        exact r1 hF Tryz.results143 rfl ⟨rfl,hS.keep⟩
      ·
        replace hm:=ite_f hm hb35
        refine tn<|cfv hF rfl hb35<|wk<|?_
        refine bn<|tn<|?_
        refine rg<|?_
        refine ls<|q1 hF rfl (e_add hF rfl rfl) fun a hF=>?_
        refine ls<|q1 hF rfl (e_move hF rfl) fun a hF=>?_
        refine re<|?_
        refine tn<|?_
        exact ⟨(nn2,(IntKind.i64.wrap (vB1+1))),⟨hm,hF.has ⟨rfl,rfl,rfl,rfl,trivial⟩,hS⟩,Nat.lt_succ_self _⟩
    ·
      replace hm:=itp_f hm hb19
      refine tn<|th<|cfv hF rfl hb19<|?_
      refine we<|tx<|tx<|bx<|?_
      refine tn<|?_
      exact ⟨hm,hF.has trivial,hS⟩
  clear hm hF hS
  rintro a w ⟨hm,hF,hS⟩
  unfold Z5g at hm
  refine th<|?_
  refine rg<|?_
  refine ls<|q1 hF rfl (e_asg hF rfl) fun a hF=>?_
  refine re<|?_
  refine tn<|?_
  refine wr<|?_
  obtain rfl:=Option.some.inj hm
  exact r1 hF Tryz.results143 rfl ⟨rfl,hS.keep⟩
set_option maxRecDepth 100000 in
theorem Z55_c {N:Nat} {w0:World} {H:PH} (hH:H.le w0) {oa2:Option Addr} {cap3:Nat} {p1:(List api_Instr)} (hc4:p1.length≤cap3) (hr5:SR H oa2 p1) {cs8:List Value} {y7:api_Instr} (g9:Enc.rep H cs8 y7) {b6:Nat} (hb10:H b6=some (.cells cs8.toArray 85 (0,0))) {r:Bool} (hm:Z55 N p1 y7=some r):Tot Tryz.prog 130 #[.slice oa2 p1.length cap3,.func (.func 131) #[] #[.pointer (some ⟨b6,0,none⟩)]] w0 (fun v w'=>v=.bool r∧Keep Nil w0 w'):=by
  unfold Z55 at hm
  refine fn0 (args:=[.slice oa2 p1.length cap3,.func (.func 131) #[] #[.pointer (some ⟨b6,0,none⟩)]]) (F:=[(0,.slice oa2 p1.length cap3),(1,.func (.func 131) #[] #[.pointer (some ⟨b6,0,none⟩)])]) Tryz.func130 rfl Tryz.ntmps130 rfl rfl fun a hF=>?_
  have hS:St w0 Nil [H] [] w0:=start1 hH
  obtain ⟨oa11,cap12,oa15,cap16,rfl,hc13,hr14,hc17,hr18⟩:=api_Instr_open g9
  refine th<|?_
  refine rg<|?_
  refine ls<|q1 hF rfl (e_asg hF rfl) fun a hF=>?_
  refine re<|?_
  refine tn<|th<|?_
  replace hm:=bind_some hm
  obtain ⟨r19,h20,hm⟩:=hm
  refine rg<|?_
  refine ls<|q1 hF rfl (e_move hF rfl) fun a hF=>?_
  refine ls<|q1 hF rfl (e_move hF rfl) fun a hF=>?_
  refine ls<|c1 hF rfl Tryz.call143 (Z5f_c (hp_le _) hc4 (St.srH hS hr5) (Enc.mono (St.up hS) (show Enc.rep (α:=api_Instr) H [.int .i64 y7.Kind,.int .i64 y7.A,.int .i64 y7.B,.slice oa11 y7.E.length cap12,.slice oa15 y7.F.length cap16,.int .i64 y7.To] y7 from ⟨_,_,rfl,rfl,⟨_,_,rfl,rfl,⟨_,_,rfl,rfl,⟨_,_,rfl,⟨_,_,rfl,hc13,hr14⟩,⟨_,_,rfl,⟨_,_,rfl,hc17,hr18⟩,rfl⟩⟩⟩⟩⟩)) (St.up hS _ _ hb10) h20) ⟨rfl,rfl,trivial⟩ (fun v w a hR hF=>?_)
  obtain ⟨rfl,hk⟩:=hR
  replace hS:=hS.pass hk
  clear hk
  refine ls<|q1 hF rfl (e_geq hF rfl rfl) fun a hF=>?_
  refine ls<|q1 hF rfl (e_asg hF rfl) fun a hF=>?_
  refine re<|?_
  refine tn<|?_
  refine wr<|?_
  obtain rfl:=Option.some.inj hm
  exact r1 hF Tryz.results130 rfl ⟨rfl,hS.keep⟩
end Go.LM.BINZ
