/- Walks, lifted by program. No condition beyond the theorems' own premises. -/
import Derived.Test.YtbblmeecfimnkaaGreatDoorBMQ7
namespace Go.LM.BINZ
open Go Go.LL Go.MD Go.LM Go.Proofs Go.MD.BINZ
set_option maxRecDepth 100000
set_option maxHeartbeats 4000000 in
set_option maxRecDepth 100000 in
theorem Z35_c {N:Nat} {w0:World} {H:PH} (hH:H.le w0) {cs2:List Value} {p1:api_Code} (g3:Enc.rep H cs2 p1) {cs5:List Value} {p4:api_Code} (g6:Enc.rep H cs5 p4) {r:Bool} (hm:Z35 N p1 p4=some r):Tot Tryz.prog 40 #[.agg cs2.toArray,.agg cs5.toArray] w0 (fun v w'=>v=.bool r∧Keep Nil w0 w'):=by
  unfold Z35 at hm
  refine fn0 (args:=[.agg cs2.toArray,.agg cs5.toArray]) (F:=[(0,.agg cs2.toArray),(1,.agg cs5.toArray)]) Tryz.func40 rfl Tryz.ntmps40 rfl rfl fun a hF=>?_
  have hS:St w0 Nil [H] [] w0:=start1 hH
  obtain ⟨oa7,cap8,rfl,hc9,hr10⟩:=api_Code_open g3
  obtain ⟨oa11,cap12,rfl,hc13,hr14⟩:=api_Code_open g6
  refine th<|?_
  refine rg<|?_
  refine ls<|a_box (cs:=[.int .i64 p1.Regs,.int .i64 p1.Counts,.slice oa7 p1.L.length cap8].toArray) hF rfl hS rfl rfl fun b15 w a hS hF=>?_
  refine ls<|a_box (cs:=[.int .i64 p4.Regs,.int .i64 p4.Counts,.slice oa11 p4.L.length cap12].toArray) hF rfl hS rfl rfl fun b16 w a hS hF=>?_
  refine ls<|q1 hF rfl (e_asg hF rfl) fun a hF=>?_
  refine re<|?_
  refine tn<|th<|th<|?_
  refine rg<|?_
  refine ls<|q1 hF rfl (e_fa hF fa26_0 rfl) fun a hF=>?_
  refine ls<|q1 hF rfl (e_ld hF Tryz.isAgg3 rfl ((St.ld hS).cellB (.tail _ (.head _)) rfl)) fun a hF=>?_
  refine ls<|q1 hF rfl (e_fa hF fa26_0 rfl) fun a hF=>?_
  refine ls<|q1 hF rfl (e_ld hF Tryz.isAgg3 rfl ((St.ld hS).cellB (.head _) rfl)) fun a hF=>?_
  refine ls<|q1 hF rfl (e_neq hF rfl rfl) fun a hF=>?_
  refine ls<|q1 hF rfl (e_move hF rfl) fun a hF=>?_
  refine grp (N:=88) (Fk:=[(2,.pointer (some ⟨b15,0,none⟩)),(3,.pointer (some ⟨b16,0,none⟩)),(19,.bool ((decide (p1.Regs≠p4.Regs)) || (decide (p1.Counts≠p4.Counts))))]) (b:=(decide (p1.Regs≠p4.Regs))) 6 hS ?_ ?_ ?_
  ·
    intro hb key
    replace hF:=Fr.as hF (t:=13) rfl (congrArg Value.bool hb)
    refine ls<|gn hF rfl rfl rfl rfl fun a hF=>?_
    refine ls<|gn hF rfl rfl rfl rfl fun a hF=>?_
    refine ls<|gn hF rfl rfl rfl rfl fun a hF=>?_
    refine ls<|gn hF rfl rfl rfl rfl fun a hF=>?_
    refine ls<|gn hF rfl rfl rfl rfl fun a hF=>?_
    refine ls<|q1 hF rfl (e_as (v':=.bool ((decide (p1.Regs≠p4.Regs)) || (decide (p1.Counts≠p4.Counts)))) (e_pickT hF rfl rfl) (by rw [hb];rfl)) fun a hF=>?_
    exact key _ _ (hF.has ⟨rfl,rfl,rfl,trivial⟩) hS
  ·
    intro hb key
    replace hF:=Fr.as hF (t:=13) rfl (congrArg Value.bool hb)
    refine ls<|gy hF rfl rfl<|q1 hF rfl (e_fa hF fa26_1 rfl) fun a hF=>?_
    refine ls<|gy hF rfl rfl<|q1 hF rfl (e_ld hF Tryz.isAgg3 rfl ((St.ld hS).cellB (.tail _ (.head _)) rfl)) fun a hF=>?_
    refine ls<|gy hF rfl rfl<|q1 hF rfl (e_fa hF fa26_1 rfl) fun a hF=>?_
    refine ls<|gy hF rfl rfl<|q1 hF rfl (e_ld hF Tryz.isAgg3 rfl ((St.ld hS).cellB (.head _) rfl)) fun a hF=>?_
    refine ls<|gy hF rfl rfl<|q1 hF rfl (e_neq hF rfl rfl) fun a hF=>?_
    refine ls<|q1 hF rfl (e_as (v':=.bool ((decide (p1.Regs≠p4.Regs)) || (decide (p1.Counts≠p4.Counts)))) (e_pickF hF rfl rfl) (by rw [hb];rfl)) fun a hF=>?_
    exact key _ _ (hF.has ⟨rfl,rfl,rfl,trivial⟩) hS
  intro a w hF hS
  refine ls<|q1 hF rfl (e_move hF rfl) fun a hF=>?_
  refine grp (N:=88) (Fk:=[(2,.pointer (some ⟨b15,0,none⟩)),(3,.pointer (some ⟨b16,0,none⟩)),(28,.bool (((decide (p1.Regs≠p4.Regs)) || (decide (p1.Counts≠p4.Counts))) || (decide ((p1.L.length:Int)≠(p4.L.length:Int)))))]) (b:=((decide (p1.Regs≠p4.Regs)) || (decide (p1.Counts≠p4.Counts)))) 8 hS ?_ ?_ ?_
  ·
    intro hb key
    replace hF:=Fr.as hF (t:=20) rfl (congrArg Value.bool hb)
    refine ls<|gn hF rfl rfl rfl rfl fun a hF=>?_
    refine ls<|gn hF rfl rfl rfl rfl fun a hF=>?_
    refine ls<|gn hF rfl rfl rfl rfl fun a hF=>?_
    refine ls<|gn hF rfl rfl rfl rfl fun a hF=>?_
    refine ls<|gn hF rfl rfl rfl rfl fun a hF=>?_
    refine ls<|gn hF rfl rfl rfl rfl fun a hF=>?_
    refine ls<|gn hF rfl rfl rfl rfl fun a hF=>?_
    refine ls<|q1 hF rfl (e_as (v':=.bool (((decide (p1.Regs≠p4.Regs)) || (decide (p1.Counts≠p4.Counts))) || (decide ((p1.L.length:Int)≠(p4.L.length:Int))))) (e_pickT hF rfl rfl) (by rw [hb];rfl)) fun a hF=>?_
    exact key _ _ (hF.has ⟨rfl,rfl,rfl,trivial⟩) hS
  ·
    intro hb key
    replace hF:=Fr.as hF (t:=20) rfl (congrArg Value.bool hb)
    refine ls<|gy hF rfl rfl<|q1 hF rfl (e_fa hF fa26_2 rfl) fun a hF=>?_
    refine ls<|gy hF rfl rfl<|q1 hF rfl (e_ld hF Tryz.isAgg24 rfl ((St.ld hS).cellB (.tail _ (.head _)) rfl)) fun a hF=>?_
    refine ls<|gy hF rfl rfl<|q1 hF rfl (e_lenL (α:=api_Instr) (xs:=p1.L) hF Tryz.runUnderlying24 rfl) fun a hF=>?_
    refine ls<|gy hF rfl rfl<|q1 hF rfl (e_fa hF fa26_2 rfl) fun a hF=>?_
    refine ls<|gy hF rfl rfl<|q1 hF rfl (e_ld hF Tryz.isAgg24 rfl ((St.ld hS).cellB (.head _) rfl)) fun a hF=>?_
    refine ls<|gy hF rfl rfl<|q1 hF rfl (e_lenL (α:=api_Instr) (xs:=p4.L) hF Tryz.runUnderlying24 rfl) fun a hF=>?_
    refine ls<|gy hF rfl rfl<|q1 hF rfl (e_neq hF rfl rfl) fun a hF=>?_
    refine ls<|q1 hF rfl (e_as (v':=.bool (((decide (p1.Regs≠p4.Regs)) || (decide (p1.Counts≠p4.Counts))) || (decide ((p1.L.length:Int)≠(p4.L.length:Int))))) (e_pickF hF rfl rfl) (by rw [hb];rfl)) fun a hF=>?_
    exact key _ _ (hF.has ⟨rfl,rfl,rfl,trivial⟩) hS
  intro a w hF hS
  refine re<|?_
  rcases bdich (((decide (p1.Regs≠p4.Regs)) || (decide (p1.Counts≠p4.Counts))) || (decide ((p1.L.length:Int)≠(p4.L.length:Int)))) with hb17 | hb17
  ·
    replace hm:=ite_t hm hb17
    refine tn<|ctv hF rfl hb17<|th<|?_
    refine rg<|?_
    refine ls<|q1 hF rfl (e_asg hF rfl) fun a hF=>?_
    refine re<|?_
    refine tn<|?_
    refine wr<|tr<|?_
    obtain rfl:=Option.some.inj hm
    exact r1 hF Tryz.results40 rfl ⟨rfl,hS.keep⟩
  ·
    replace hm:=ite_f hm hb17
    refine tn<|cfv hF rfl hb17<|wk<|?_
    refine tn<|th<|th<|?_
    refine rg<|?_
    refine ls<|q1 hF rfl (e_asg hF rfl) fun a hF=>?_
    refine re<|?_
    refine tn<|midK (fun a w=>Z36=some r∧Fr 88 [] a∧St w0 Nil [H] [] w) ?_ ?_
    ·
      replace hS:=hS.pickL (.cons (.tail .head) (.cons .head .nil))
      refine wb<|lp (α:=Nat×Int) (fun (gh:Nat×Int) a w=>match gh with | (nn2,vB1)=>(Z39 N Z36 p1 p4) nn2 vB1=some r∧Fr 88 [(2,.pointer (some ⟨b15,0,none⟩)),(3,.pointer (some ⟨b16,0,none⟩)),(5,.int .i64 vB1)] a∧St w0 Nil [H] [blk b15 (.cells [.int .i64 p1.Regs,.int .i64 p1.Counts,.slice oa7 p1.L.length cap8].toArray 26 (0,0)),blk b16 (.cells [.int .i64 p4.Regs,.int .i64 p4.Counts,.slice oa11 p4.L.length cap12].toArray 26 (0,0))] w) (fun gh=>gh.1) (N,0) ⟨hm,hF.has ⟨rfl,rfl,rfl,trivial⟩,hS⟩ ?_
      clear hm hF hS
      rintro ⟨nn2,vB1⟩ a w ⟨hm,hF,hS⟩
      obtain _ | nn2:=nn2
      · simp [Z39] at hm
      rw [Z39] at hm
      refine th<|th<|?_
      refine rg<|?_
      refine ls<|q1 hF rfl (e_move hF rfl) fun a hF=>?_
      refine ls<|q1 hF rfl (e_fa hF fa26_2 rfl) fun a hF=>?_
      refine ls<|q1 hF rfl (e_ld hF Tryz.isAgg24 rfl ((St.ld hS).cellB (.head _) rfl)) fun a hF=>?_
      refine ls<|q1 hF rfl (e_lenL (α:=api_Instr) (xs:=p1.L) hF Tryz.runUnderlying24 rfl) fun a hF=>?_
      refine ls<|q1 hF rfl (e_lss hF rfl rfl) fun a hF=>?_
      refine re<|?_
      rcases bdich (decide (vB1 < (p1.L.length:Int))) with hb18 | hb18
      ·
        replace hm:=itp_t hm hb18
        refine tn<|ctv hF rfl hb18<|wk<|?_
        refine tn<|th<|wb<|th<|midK (fun a w=>∃ (vC2:Int) (vC3:Int) (vC4:Int) (vC5:(List api_Op)) (vC10:(List api_Op)) (vC15:Int) (vC17:Int) (vC18:Int) (vC19:Int) (vC20:(List api_Op)) (vC25:(List api_Op)) (vC30:Int) (bC1:Nat) (oaC6:Option Addr) (capC7:Nat) (oaC11:Option Addr) (capC12:Nat) (bC16:Nat) (oaC21:Option Addr) (capC22:Nat) (oaC26:Option Addr) (capC27:Nat),(Z37 N (Z39 N Z36 p1 p4 nn2) vB1) vC2 vC3 vC4 vC5 vC10 vC15 vC17 vC18 vC19 vC20 vC25 vC30=some r∧Fr 88 [(2,.pointer (some ⟨b15,0,none⟩)),(3,.pointer (some ⟨b16,0,none⟩)),(5,.int .i64 vB1),(6,.pointer (some ⟨bC1,0,none⟩)),(7,.pointer (some ⟨bC16,0,none⟩))] a∧St w0 Nil [H] [blk b15 (.cells [.int .i64 p1.Regs,.int .i64 p1.Counts,.slice oa7 p1.L.length cap8].toArray 26 (0,0)),blk b16 (.cells [.int .i64 p4.Regs,.int .i64 p4.Counts,.slice oa11 p4.L.length cap12].toArray 26 (0,0)),blk bC1 (.cells [.int .i64 vC2,.int .i64 vC3,.int .i64 vC4,.slice oaC6 vC5.length capC7,.slice oaC11 vC10.length capC12,.int .i64 vC15].toArray 85 (0,0)),blk bC16 (.cells [.int .i64 vC17,.int .i64 vC18,.int .i64 vC19,.slice oaC21 vC20.length capC22,.slice oaC26 vC25.length capC27,.int .i64 vC30].toArray 85 (0,0))] w∧vC5.length≤capC7∧SR H oaC6 vC5∧vC10.length≤capC12∧SR H oaC11 vC10∧vC20.length≤capC22∧SR H oaC21 vC20∧vC25.length≤capC27∧SR H oaC26 vC25) ?_ ?_
        ·
          replace hm:=bind_some hm
          obtain ⟨x19,h20,hm⟩:=hm
          obtain ⟨c21,g22,hl23⟩:=SR.get hr10 h20
          obtain ⟨oa24,cap25,oa28,cap29,rfl,hc26,hr27,hc30,hr31⟩:=api_Instr_open g22
          replace hm:=bind_some hm
          obtain ⟨x32,h33,hm⟩:=hm
          obtain ⟨c34,g35,hl36⟩:=SR.get hr14 h33
          obtain ⟨oa37,cap38,oa41,cap42,rfl,hc39,hr40,hc43,hr44⟩:=api_Instr_open g35
          refine rdS 13 hS wide fun w hS=>?_
          refine d1 (i:=0) rfl (by kernel_rfl) (by kernel_rfl) (St.ld hS) hF rfl (fun _ _ _ h=>h) (fun w hl=>(e_fa hF fa26_2 rfl)) fun a hF=>?_
          refine d1 (i:=1) rfl (by kernel_rfl) (by kernel_rfl) (St.ld hS) hF rfl (fun _ _ _ h=>h) (fun w hl=>(e_ld hF Tryz.isAgg24 rfl (hl.cellB (.head _) rfl))) fun a hF=>?_
          refine d1 (i:=2) rfl (by kernel_rfl) (by kernel_rfl) (St.ld hS) hF rfl (fun _ _ _ h=>h) (fun w hl=>(e_move hF rfl)) fun a hF=>?_
          refine d1 (i:=3) rfl (by kernel_rfl) (by kernel_rfl) (St.ld hS) hF rfl (fun _ _ _ h=>h) (fun w hl=>(e_iaI hF Tryz.runUnderlying24 Tryz.sizeOf85 rfl rfl h20 (SR.oaI hr10 (by decide) h20))) fun a hF=>?_
          refine d1 (i:=4) rfl (by kernel_rfl) (by kernel_rfl) (St.ld hS) hF rfl (fun _ _ _ h=>h) (fun w hl=>(e_ldA hF Tryz.isAgg85 Tryz.sizeOf85 rfl rfl (fun j v hj=>PH.le.cell (Lds.le hl) (hl23 j v hj)))) fun a hF=>?_
          refine d1 (i:=5) rfl (by kernel_rfl) (by kernel_rfl) (St.ld hS) hF rfl (fun _ _ _ h=>h) (fun w hl=>(e_fa hF fa26_2 rfl)) fun a hF=>?_
          refine d1 (i:=6) rfl (by kernel_rfl) (by kernel_rfl) (St.ld hS) hF rfl (fun _ _ _ h=>h) (fun w hl=>(e_ld hF Tryz.isAgg24 rfl (hl.cellB (.tail _ (.head _)) rfl))) fun a hF=>?_
          refine d1 (i:=7) rfl (by kernel_rfl) (by kernel_rfl) (St.ld hS) hF rfl (fun _ _ _ h=>h) (fun w hl=>(e_move hF rfl)) fun a hF=>?_
          refine d1 (i:=8) rfl (by kernel_rfl) (by kernel_rfl) (St.ld hS) hF rfl (fun _ _ _ h=>h) (fun w hl=>(e_iaI hF Tryz.runUnderlying24 Tryz.sizeOf85 rfl rfl h33 (SR.oaI hr14 (by decide) h33))) fun a hF=>?_
          refine d1 (i:=9) rfl (by kernel_rfl) (by kernel_rfl) (St.ld hS) hF rfl (fun _ _ _ h=>h) (fun w hl=>(e_ldA hF Tryz.isAgg85 Tryz.sizeOf85 rfl rfl (fun j v hj=>PH.le.cell (Lds.le hl) (hl36 j v hj)))) fun a hF=>?_
          refine da2 (i:=10) (j:=11) (by kernel_rfl) ?_ ?_
          ·
            refine di (i:=10) rfl<|a_alloc (cs:=[.int .i64 0,.int .i64 0,.int .i64 0,.slice none 0 0,.slice none 0 0,.int .i64 0].toArray) hF rfl hS Tryz.zeroValue85 rfl fun b45 w a hS hF=>?_
            refine ⟨fun _=>(St.ldsX hS (fun _ _ h=>h) (fun _ h=>(.tail _ h))),?_⟩
            refine da1 (i:=11) (by kernel_rfl) ?_
            refine di (i:=11) rfl<|a_alloc (cs:=[.int .i64 0,.int .i64 0,.int .i64 0,.slice none 0 0,.slice none 0 0,.int .i64 0].toArray) hF rfl hS Tryz.zeroValue85 rfl fun b46 w a hS hF=>?_
            refine ⟨fun _=>(St.ldsX hS (fun _ _ h=>h) (fun _ h=>(.tail _ (.tail _ h)))),?_⟩
            refine da1 (i:=12) (by kernel_rfl) ?_
            refine di (i:=12) rfl<|s_blkA hF hS Tryz.sizeOf85 rfl rfl rfl rfl (one_cells rfl) (.tail .head) fun w hS=>?_
            refine ⟨fun _=>(St.ldsX hS (fun _ _ h=>h) (fun _ h=>(.tail _ (.tail _ h)))),?_⟩
            refine da1 (i:=13) (by kernel_rfl) ?_
            refine di (i:=13) rfl<|s_blkA hF hS Tryz.sizeOf85 rfl rfl rfl rfl (one_cells rfl) .head fun w hS=>?_
            refine ⟨fun h=>absurd rfl h,?_⟩
            refine de (by kernel_rfl)<|?_
            refine tn<|?_
            replace hS:=hS.pickL (.cons (.tail (.tail .head)) (.cons (.tail (.tail .head)) (.cons (.tail .head) (.cons .head .nil))))
            exact ⟨x19.Kind,x19.A,x19.B,x19.E,x19.F,x19.To,x32.Kind,x32.A,x32.B,x32.E,x32.F,x32.To,b45,oa24,cap25,oa28,cap29,b46,oa37,cap38,oa41,cap42,hm,hF.has ⟨rfl,rfl,rfl,rfl,rfl,trivial⟩,hS,hc26,hr27,hc30,hr31,hc39,hr40,hc43,hr44⟩
          ·
            refine di (i:=11) rfl<|a_alloc (cs:=[.int .i64 0,.int .i64 0,.int .i64 0,.slice none 0 0,.slice none 0 0,.int .i64 0].toArray) hF rfl hS Tryz.zeroValue85 rfl fun b46 w a hS hF=>?_
            refine ⟨fun _=>(St.ldsX hS (fun _ _ h=>h) (fun _ h=>(.tail _ h))),?_⟩
            refine da1 (i:=10) (by kernel_rfl) ?_
            refine di (i:=10) rfl<|a_alloc (cs:=[.int .i64 0,.int .i64 0,.int .i64 0,.slice none 0 0,.slice none 0 0,.int .i64 0].toArray) hF rfl hS Tryz.zeroValue85 rfl fun b45 w a hS hF=>?_
            refine ⟨fun _=>(St.ldsX hS (fun _ _ h=>h) (fun _ h=>(.tail _ (.tail _ h)))),?_⟩
            refine da1 (i:=12) (by kernel_rfl) ?_
            refine di (i:=12) rfl<|s_blkA hF hS Tryz.sizeOf85 rfl rfl rfl rfl (one_cells rfl) .head fun w hS=>?_
            refine ⟨fun _=>(St.ldsX hS (fun _ _ h=>h) (fun _ h=>(.tail _ (.tail _ h)))),?_⟩
            refine da1 (i:=13) (by kernel_rfl) ?_
            refine di (i:=13) rfl<|s_blkA hF hS Tryz.sizeOf85 rfl rfl rfl rfl (one_cells rfl) (.tail .head) fun w hS=>?_
            refine ⟨fun h=>absurd rfl h,?_⟩
            refine de (by kernel_rfl)<|?_
            refine tn<|?_
            replace hS:=hS.pickL (.cons (.tail (.tail .head)) (.cons (.tail (.tail .head)) (.cons .head (.cons .head .nil))))
            exact ⟨x19.Kind,x19.A,x19.B,x19.E,x19.F,x19.To,x32.Kind,x32.A,x32.B,x32.E,x32.F,x32.To,b45,oa24,cap25,oa28,cap29,b46,oa37,cap38,oa41,cap42,hm,hF.has ⟨rfl,rfl,rfl,rfl,rfl,trivial⟩,hS,hc26,hr27,hc30,hr31,hc39,hr40,hc43,hr44⟩
        clear hm hF hS
        rintro a w ⟨vC2,vC3,vC4,vC5,vC10,vC15,vC17,vC18,vC19,vC20,vC25,vC30,bC1,oaC6,capC7,oaC11,capC12,bC16,oaC21,capC22,oaC26,capC27,hm,hF,hS,hcC8,hrC9,hcC13,hrC14,hcC23,hrC24,hcC28,hrC29⟩
        unfold Z37 at hm
        refine th<|midK (fun a w=>∃ (vC31:Bool),(Z38 (Z39 N Z36 p1 p4 nn2) vB1) vC31=some r∧Fr 88 [(2,.pointer (some ⟨b15,0,none⟩)),(3,.pointer (some ⟨b16,0,none⟩)),(5,.int .i64 vB1),(87,.bool vC31)] a∧St w0 Nil [H] [blk b15 (.cells [.int .i64 p1.Regs,.int .i64 p1.Counts,.slice oa7 p1.L.length cap8].toArray 26 (0,0)),blk b16 (.cells [.int .i64 p4.Regs,.int .i64 p4.Counts,.slice oa11 p4.L.length cap12].toArray 26 (0,0))] w) ?_ ?_
        ·
          rcases bdich ((((decide (vC2≠vC17)) || (decide (vC3≠vC18))) || (decide (vC4≠vC19))) || (decide (vC15≠vC30))) with hb47 | hb47
          ·
            replace hm:=ite_t hm hb47
            refine rg<|?_
            refine ls<|q1 hF rfl (e_fa hF fa85_0 rfl) fun a hF=>?_
            refine ls<|q1 hF rfl (e_ld hF Tryz.isAgg3 rfl ((St.ld hS).cellB (.tail _ (.tail _ (.head _))) rfl)) fun a hF=>?_
            refine ls<|q1 hF rfl (e_fa hF fa85_0 rfl) fun a hF=>?_
            refine ls<|q1 hF rfl (e_ld hF Tryz.isAgg3 rfl ((St.ld hS).cellB (.tail _ (.tail _ (.tail _ (.head _)))) rfl)) fun a hF=>?_
            refine ls<|q1 hF rfl (e_neq hF rfl rfl) fun a hF=>?_
            refine ls<|q1 hF rfl (e_move hF rfl) fun a hF=>?_
            refine grp (N:=88) (Fk:=[(2,.pointer (some ⟨b15,0,none⟩)),(3,.pointer (some ⟨b16,0,none⟩)),(5,.int .i64 vB1),(6,.pointer (some ⟨bC1,0,none⟩)),(7,.pointer (some ⟨bC16,0,none⟩)),(57,.bool ((decide (vC2≠vC17)) || (decide (vC3≠vC18))))]) (b:=(decide (vC2≠vC17))) 6 hS ?_ ?_ ?_
            ·
              intro hb key
              replace hF:=Fr.as hF (t:=51) rfl (congrArg Value.bool hb)
              refine ls<|gn hF rfl rfl rfl rfl fun a hF=>?_
              refine ls<|gn hF rfl rfl rfl rfl fun a hF=>?_
              refine ls<|gn hF rfl rfl rfl rfl fun a hF=>?_
              refine ls<|gn hF rfl rfl rfl rfl fun a hF=>?_
              refine ls<|gn hF rfl rfl rfl rfl fun a hF=>?_
              refine ls<|q1 hF rfl (e_as (v':=.bool ((decide (vC2≠vC17)) || (decide (vC3≠vC18)))) (e_pickT hF rfl rfl) (by rw [hb];rfl)) fun a hF=>?_
              exact key _ _ (hF.has ⟨rfl,rfl,rfl,rfl,rfl,rfl,trivial⟩) hS
            ·
              intro hb key
              replace hF:=Fr.as hF (t:=51) rfl (congrArg Value.bool hb)
              refine ls<|gy hF rfl rfl<|q1 hF rfl (e_fa hF fa85_1 rfl) fun a hF=>?_
              refine ls<|gy hF rfl rfl<|q1 hF rfl (e_ld hF Tryz.isAgg3 rfl ((St.ld hS).cellB (.tail _ (.tail _ (.head _))) rfl)) fun a hF=>?_
              refine ls<|gy hF rfl rfl<|q1 hF rfl (e_fa hF fa85_1 rfl) fun a hF=>?_
              refine ls<|gy hF rfl rfl<|q1 hF rfl (e_ld hF Tryz.isAgg3 rfl ((St.ld hS).cellB (.tail _ (.tail _ (.tail _ (.head _)))) rfl)) fun a hF=>?_
              refine ls<|gy hF rfl rfl<|q1 hF rfl (e_neq hF rfl rfl) fun a hF=>?_
              refine ls<|q1 hF rfl (e_as (v':=.bool ((decide (vC2≠vC17)) || (decide (vC3≠vC18)))) (e_pickF hF rfl rfl) (by rw [hb];rfl)) fun a hF=>?_
              exact key _ _ (hF.has ⟨rfl,rfl,rfl,rfl,rfl,rfl,trivial⟩) hS
            intro a w hF hS
            refine ls<|q1 hF rfl (e_move hF rfl) fun a hF=>?_
            refine grp (N:=88) (Fk:=[(2,.pointer (some ⟨b15,0,none⟩)),(3,.pointer (some ⟨b16,0,none⟩)),(5,.int .i64 vB1),(6,.pointer (some ⟨bC1,0,none⟩)),(7,.pointer (some ⟨bC16,0,none⟩)),(64,.bool (((decide (vC2≠vC17)) || (decide (vC3≠vC18))) || (decide (vC4≠vC19))))]) (b:=((decide (vC2≠vC17)) || (decide (vC3≠vC18)))) 6 hS ?_ ?_ ?_
            ·
              intro hb key
              replace hF:=Fr.as hF (t:=58) rfl (congrArg Value.bool hb)
              refine ls<|gn hF rfl rfl rfl rfl fun a hF=>?_
              refine ls<|gn hF rfl rfl rfl rfl fun a hF=>?_
              refine ls<|gn hF rfl rfl rfl rfl fun a hF=>?_
              refine ls<|gn hF rfl rfl rfl rfl fun a hF=>?_
              refine ls<|gn hF rfl rfl rfl rfl fun a hF=>?_
              refine ls<|q1 hF rfl (e_as (v':=.bool (((decide (vC2≠vC17)) || (decide (vC3≠vC18))) || (decide (vC4≠vC19)))) (e_pickT hF rfl rfl) (by rw [hb];rfl)) fun a hF=>?_
              exact key _ _ (hF.has ⟨rfl,rfl,rfl,rfl,rfl,rfl,trivial⟩) hS
            ·
              intro hb key
              replace hF:=Fr.as hF (t:=58) rfl (congrArg Value.bool hb)
              refine ls<|gy hF rfl rfl<|q1 hF rfl (e_fa hF fa85_2 rfl) fun a hF=>?_
              refine ls<|gy hF rfl rfl<|q1 hF rfl (e_ld hF Tryz.isAgg3 rfl ((St.ld hS).cellB (.tail _ (.tail _ (.head _))) rfl)) fun a hF=>?_
              refine ls<|gy hF rfl rfl<|q1 hF rfl (e_fa hF fa85_2 rfl) fun a hF=>?_
              refine ls<|gy hF rfl rfl<|q1 hF rfl (e_ld hF Tryz.isAgg3 rfl ((St.ld hS).cellB (.tail _ (.tail _ (.tail _ (.head _)))) rfl)) fun a hF=>?_
              refine ls<|gy hF rfl rfl<|q1 hF rfl (e_neq hF rfl rfl) fun a hF=>?_
              refine ls<|q1 hF rfl (e_as (v':=.bool (((decide (vC2≠vC17)) || (decide (vC3≠vC18))) || (decide (vC4≠vC19)))) (e_pickF hF rfl rfl) (by rw [hb];rfl)) fun a hF=>?_
              exact key _ _ (hF.has ⟨rfl,rfl,rfl,rfl,rfl,rfl,trivial⟩) hS
            intro a w hF hS
            refine ls<|q1 hF rfl (e_move hF rfl) fun a hF=>?_
            refine grp (N:=88) (Fk:=[(2,.pointer (some ⟨b15,0,none⟩)),(3,.pointer (some ⟨b16,0,none⟩)),(5,.int .i64 vB1),(6,.pointer (some ⟨bC1,0,none⟩)),(7,.pointer (some ⟨bC16,0,none⟩)),(71,.bool ((((decide (vC2≠vC17)) || (decide (vC3≠vC18))) || (decide (vC4≠vC19))) || (decide (vC15≠vC30))))]) (b:=(((decide (vC2≠vC17)) || (decide (vC3≠vC18))) || (decide (vC4≠vC19)))) 6 hS ?_ ?_ ?_
            ·
              intro hb key
              replace hF:=Fr.as hF (t:=65) rfl (congrArg Value.bool hb)
              refine ls<|gn hF rfl rfl rfl rfl fun a hF=>?_
              refine ls<|gn hF rfl rfl rfl rfl fun a hF=>?_
              refine ls<|gn hF rfl rfl rfl rfl fun a hF=>?_
              refine ls<|gn hF rfl rfl rfl rfl fun a hF=>?_
              refine ls<|gn hF rfl rfl rfl rfl fun a hF=>?_
              refine ls<|q1 hF rfl (e_as (v':=.bool ((((decide (vC2≠vC17)) || (decide (vC3≠vC18))) || (decide (vC4≠vC19))) || (decide (vC15≠vC30)))) (e_pickT hF rfl rfl) (by rw [hb];rfl)) fun a hF=>?_
              exact key _ _ (hF.has ⟨rfl,rfl,rfl,rfl,rfl,rfl,trivial⟩) hS
            ·
              intro hb key
              replace hF:=Fr.as hF (t:=65) rfl (congrArg Value.bool hb)
              refine ls<|gy hF rfl rfl<|q1 hF rfl (e_fa hF fa85_5 rfl) fun a hF=>?_
              refine ls<|gy hF rfl rfl<|q1 hF rfl (e_ld hF Tryz.isAgg3 rfl ((St.ld hS).cellB (.tail _ (.tail _ (.head _))) rfl)) fun a hF=>?_
              refine ls<|gy hF rfl rfl<|q1 hF rfl (e_fa hF fa85_5 rfl) fun a hF=>?_
              refine ls<|gy hF rfl rfl<|q1 hF rfl (e_ld hF Tryz.isAgg3 rfl ((St.ld hS).cellB (.tail _ (.tail _ (.tail _ (.head _)))) rfl)) fun a hF=>?_
              refine ls<|gy hF rfl rfl<|q1 hF rfl (e_neq hF rfl rfl) fun a hF=>?_
              refine ls<|q1 hF rfl (e_as (v':=.bool ((((decide (vC2≠vC17)) || (decide (vC3≠vC18))) || (decide (vC4≠vC19))) || (decide (vC15≠vC30)))) (e_pickF hF rfl rfl) (by rw [hb];rfl)) fun a hF=>?_
              exact key _ _ (hF.has ⟨rfl,rfl,rfl,rfl,rfl,rfl,trivial⟩) hS
            intro a w hF hS
            refine ls<|q1 hF rfl (e_as (e_move hF rfl) (congrArg Value.bool hb47)) fun a hF=>?_
            refine ls<|gn hF rfl rfl rfl rfl fun a hF=>?_
            refine ls<|gn hF rfl rfl rfl rfl fun a hF=>?_
            refine ls<|gn hF rfl rfl rfl rfl fun a hF=>?_
            refine ls<|gn hF rfl rfl rfl rfl fun a hF=>?_
            refine ls<|gn hF rfl rfl rfl rfl fun a hF=>?_
            refine ls<|gn hF rfl rfl rfl rfl fun a hF=>?_
            refine ls<|q1 hF rfl (e_pickT hF rfl rfl) fun a hF=>?_
            refine ls<|q1 hF rfl (e_move hF rfl) fun a hF=>?_
            refine ls<|gn hF rfl rfl rfl rfl fun a hF=>?_
            refine ls<|gn hF rfl rfl rfl rfl fun a hF=>?_
            refine ls<|gn hF rfl rfl rfl rfl fun a hF=>?_
            refine ls<|gn hF rfl rfl rfl rfl fun a hF=>?_
            refine ls<|gn hF rfl rfl rfl rfl fun a hF=>?_
            refine ls<|gn hF rfl rfl rfl rfl fun a hF=>?_
            refine ls<|q1 hF rfl (e_pickT hF rfl rfl) fun a hF=>?_
            refine re<|?_
            refine tn<|?_
            replace hS:=hS.pickL (.cons .head (.cons .head .nil))
            exact ⟨true,hm,hF.has ⟨rfl,rfl,rfl,rfl,trivial⟩,hS⟩
          ·
            replace hm:=ite_f hm hb47
            replace hm:=bind_some hm
            obtain ⟨r48,h49,hm⟩:=hm
            rcases bdich r48 with hb50 | hb50
            ·
              replace hm:=ite_t hm hb50
              have hb50':(!r48)=false:=by rw [hb50];rfl
              replace hm:=bind_some hm
              obtain ⟨r51,h52,hm⟩:=hm
              refine rg<|?_
              refine ls<|q1 hF rfl (e_fa hF fa85_0 rfl) fun a hF=>?_
              refine ls<|q1 hF rfl (e_ld hF Tryz.isAgg3 rfl ((St.ld hS).cellB (.tail _ (.tail _ (.head _))) rfl)) fun a hF=>?_
              refine ls<|q1 hF rfl (e_fa hF fa85_0 rfl) fun a hF=>?_
              refine ls<|q1 hF rfl (e_ld hF Tryz.isAgg3 rfl ((St.ld hS).cellB (.tail _ (.tail _ (.tail _ (.head _)))) rfl)) fun a hF=>?_
              refine ls<|q1 hF rfl (e_neq hF rfl rfl) fun a hF=>?_
              refine ls<|q1 hF rfl (e_move hF rfl) fun a hF=>?_
              refine grp (N:=88) (Fk:=[(2,.pointer (some ⟨b15,0,none⟩)),(3,.pointer (some ⟨b16,0,none⟩)),(5,.int .i64 vB1),(6,.pointer (some ⟨bC1,0,none⟩)),(7,.pointer (some ⟨bC16,0,none⟩)),(57,.bool ((decide (vC2≠vC17)) || (decide (vC3≠vC18))))]) (b:=(decide (vC2≠vC17))) 6 hS ?_ ?_ ?_
              ·
                intro hb key
                replace hF:=Fr.as hF (t:=51) rfl (congrArg Value.bool hb)
                refine ls<|gn hF rfl rfl rfl rfl fun a hF=>?_
                refine ls<|gn hF rfl rfl rfl rfl fun a hF=>?_
                refine ls<|gn hF rfl rfl rfl rfl fun a hF=>?_
                refine ls<|gn hF rfl rfl rfl rfl fun a hF=>?_
                refine ls<|gn hF rfl rfl rfl rfl fun a hF=>?_
                refine ls<|q1 hF rfl (e_as (v':=.bool ((decide (vC2≠vC17)) || (decide (vC3≠vC18)))) (e_pickT hF rfl rfl) (by rw [hb];rfl)) fun a hF=>?_
                exact key _ _ (hF.has ⟨rfl,rfl,rfl,rfl,rfl,rfl,trivial⟩) hS
              ·
                intro hb key
                replace hF:=Fr.as hF (t:=51) rfl (congrArg Value.bool hb)
                refine ls<|gy hF rfl rfl<|q1 hF rfl (e_fa hF fa85_1 rfl) fun a hF=>?_
                refine ls<|gy hF rfl rfl<|q1 hF rfl (e_ld hF Tryz.isAgg3 rfl ((St.ld hS).cellB (.tail _ (.tail _ (.head _))) rfl)) fun a hF=>?_
                refine ls<|gy hF rfl rfl<|q1 hF rfl (e_fa hF fa85_1 rfl) fun a hF=>?_
                refine ls<|gy hF rfl rfl<|q1 hF rfl (e_ld hF Tryz.isAgg3 rfl ((St.ld hS).cellB (.tail _ (.tail _ (.tail _ (.head _)))) rfl)) fun a hF=>?_
                refine ls<|gy hF rfl rfl<|q1 hF rfl (e_neq hF rfl rfl) fun a hF=>?_
                refine ls<|q1 hF rfl (e_as (v':=.bool ((decide (vC2≠vC17)) || (decide (vC3≠vC18)))) (e_pickF hF rfl rfl) (by rw [hb];rfl)) fun a hF=>?_
                exact key _ _ (hF.has ⟨rfl,rfl,rfl,rfl,rfl,rfl,trivial⟩) hS
              intro a w hF hS
              refine ls<|q1 hF rfl (e_move hF rfl) fun a hF=>?_
              refine grp (N:=88) (Fk:=[(2,.pointer (some ⟨b15,0,none⟩)),(3,.pointer (some ⟨b16,0,none⟩)),(5,.int .i64 vB1),(6,.pointer (some ⟨bC1,0,none⟩)),(7,.pointer (some ⟨bC16,0,none⟩)),(64,.bool (((decide (vC2≠vC17)) || (decide (vC3≠vC18))) || (decide (vC4≠vC19))))]) (b:=((decide (vC2≠vC17)) || (decide (vC3≠vC18)))) 6 hS ?_ ?_ ?_
              ·
                intro hb key
                replace hF:=Fr.as hF (t:=58) rfl (congrArg Value.bool hb)
                refine ls<|gn hF rfl rfl rfl rfl fun a hF=>?_
                refine ls<|gn hF rfl rfl rfl rfl fun a hF=>?_
                refine ls<|gn hF rfl rfl rfl rfl fun a hF=>?_
                refine ls<|gn hF rfl rfl rfl rfl fun a hF=>?_
                refine ls<|gn hF rfl rfl rfl rfl fun a hF=>?_
                refine ls<|q1 hF rfl (e_as (v':=.bool (((decide (vC2≠vC17)) || (decide (vC3≠vC18))) || (decide (vC4≠vC19)))) (e_pickT hF rfl rfl) (by rw [hb];rfl)) fun a hF=>?_
                exact key _ _ (hF.has ⟨rfl,rfl,rfl,rfl,rfl,rfl,trivial⟩) hS
              ·
                intro hb key
                replace hF:=Fr.as hF (t:=58) rfl (congrArg Value.bool hb)
                refine ls<|gy hF rfl rfl<|q1 hF rfl (e_fa hF fa85_2 rfl) fun a hF=>?_
                refine ls<|gy hF rfl rfl<|q1 hF rfl (e_ld hF Tryz.isAgg3 rfl ((St.ld hS).cellB (.tail _ (.tail _ (.head _))) rfl)) fun a hF=>?_
                refine ls<|gy hF rfl rfl<|q1 hF rfl (e_fa hF fa85_2 rfl) fun a hF=>?_
                refine ls<|gy hF rfl rfl<|q1 hF rfl (e_ld hF Tryz.isAgg3 rfl ((St.ld hS).cellB (.tail _ (.tail _ (.tail _ (.head _)))) rfl)) fun a hF=>?_
                refine ls<|gy hF rfl rfl<|q1 hF rfl (e_neq hF rfl rfl) fun a hF=>?_
                refine ls<|q1 hF rfl (e_as (v':=.bool (((decide (vC2≠vC17)) || (decide (vC3≠vC18))) || (decide (vC4≠vC19)))) (e_pickF hF rfl rfl) (by rw [hb];rfl)) fun a hF=>?_
                exact key _ _ (hF.has ⟨rfl,rfl,rfl,rfl,rfl,rfl,trivial⟩) hS
              intro a w hF hS
              refine ls<|q1 hF rfl (e_move hF rfl) fun a hF=>?_
              refine grp (N:=88) (Fk:=[(2,.pointer (some ⟨b15,0,none⟩)),(3,.pointer (some ⟨b16,0,none⟩)),(5,.int .i64 vB1),(6,.pointer (some ⟨bC1,0,none⟩)),(7,.pointer (some ⟨bC16,0,none⟩)),(71,.bool ((((decide (vC2≠vC17)) || (decide (vC3≠vC18))) || (decide (vC4≠vC19))) || (decide (vC15≠vC30))))]) (b:=(((decide (vC2≠vC17)) || (decide (vC3≠vC18))) || (decide (vC4≠vC19)))) 6 hS ?_ ?_ ?_
              ·
                intro hb key
                replace hF:=Fr.as hF (t:=65) rfl (congrArg Value.bool hb)
                refine ls<|gn hF rfl rfl rfl rfl fun a hF=>?_
                refine ls<|gn hF rfl rfl rfl rfl fun a hF=>?_
                refine ls<|gn hF rfl rfl rfl rfl fun a hF=>?_
                refine ls<|gn hF rfl rfl rfl rfl fun a hF=>?_
                refine ls<|gn hF rfl rfl rfl rfl fun a hF=>?_
                refine ls<|q1 hF rfl (e_as (v':=.bool ((((decide (vC2≠vC17)) || (decide (vC3≠vC18))) || (decide (vC4≠vC19))) || (decide (vC15≠vC30)))) (e_pickT hF rfl rfl) (by rw [hb];rfl)) fun a hF=>?_
                exact key _ _ (hF.has ⟨rfl,rfl,rfl,rfl,rfl,rfl,trivial⟩) hS
              ·
                intro hb key
                replace hF:=Fr.as hF (t:=65) rfl (congrArg Value.bool hb)
                refine ls<|gy hF rfl rfl<|q1 hF rfl (e_fa hF fa85_5 rfl) fun a hF=>?_
                refine ls<|gy hF rfl rfl<|q1 hF rfl (e_ld hF Tryz.isAgg3 rfl ((St.ld hS).cellB (.tail _ (.tail _ (.head _))) rfl)) fun a hF=>?_
                refine ls<|gy hF rfl rfl<|q1 hF rfl (e_fa hF fa85_5 rfl) fun a hF=>?_
                refine ls<|gy hF rfl rfl<|q1 hF rfl (e_ld hF Tryz.isAgg3 rfl ((St.ld hS).cellB (.tail _ (.tail _ (.tail _ (.head _)))) rfl)) fun a hF=>?_
                refine ls<|gy hF rfl rfl<|q1 hF rfl (e_neq hF rfl rfl) fun a hF=>?_
                refine ls<|q1 hF rfl (e_as (v':=.bool ((((decide (vC2≠vC17)) || (decide (vC3≠vC18))) || (decide (vC4≠vC19))) || (decide (vC15≠vC30)))) (e_pickF hF rfl rfl) (by rw [hb];rfl)) fun a hF=>?_
                exact key _ _ (hF.has ⟨rfl,rfl,rfl,rfl,rfl,rfl,trivial⟩) hS
              intro a w hF hS
              refine ls<|q1 hF rfl (e_as (e_move hF rfl) (congrArg Value.bool hb47)) fun a hF=>?_
              refine ls<|gy hF rfl rfl<|q1 hF rfl (e_fa hF fa85_3 rfl) fun a hF=>?_
              refine ls<|gy hF rfl rfl<|q1 hF rfl (e_ld hF Tryz.isAgg54 rfl ((St.ld hS).cellB (.tail _ (.tail _ (.head _))) rfl)) fun a hF=>?_
              refine ls<|gy hF rfl rfl<|q1 hF rfl (e_fa hF fa85_3 rfl) fun a hF=>?_
              refine ls<|gy hF rfl rfl<|q1 hF rfl (e_ld hF Tryz.isAgg54 rfl ((St.ld hS).cellB (.tail _ (.tail _ (.tail _ (.head _)))) rfl)) fun a hF=>?_
              refine ls<|gy hF rfl rfl<|c1 hF rfl Tryz.call41 (Z1y_c (hp_le _) hcC8 (St.srH hS hrC9) hcC23 (St.srH hS hrC24) h49) ⟨rfl,rfl,trivial⟩ (fun v w a hR hF=>?_)
              obtain ⟨rfl,hk⟩:=hR
              replace hS:=hS.pass hk
              clear hk
              refine ls<|gy hF rfl rfl<|q1 hF rfl (e_not hF rfl) fun a hF=>?_
              refine ls<|q1 hF rfl (e_pickF hF rfl rfl) fun a hF=>?_
              refine ls<|q1 hF rfl (e_as (e_move hF rfl) (congrArg Value.bool hb50')) fun a hF=>?_
              refine ls<|gy hF rfl rfl<|q1 hF rfl (e_fa hF fa85_4 rfl) fun a hF=>?_
              refine ls<|gy hF rfl rfl<|q1 hF rfl (e_ld hF Tryz.isAgg54 rfl ((St.ld hS).cellB (.tail _ (.tail _ (.head _))) rfl)) fun a hF=>?_
              refine ls<|gy hF rfl rfl<|q1 hF rfl (e_fa hF fa85_4 rfl) fun a hF=>?_
              refine ls<|gy hF rfl rfl<|q1 hF rfl (e_ld hF Tryz.isAgg54 rfl ((St.ld hS).cellB (.tail _ (.tail _ (.tail _ (.head _)))) rfl)) fun a hF=>?_
              refine ls<|gy hF rfl rfl<|c1 hF rfl Tryz.call41 (Z1y_c (hp_le _) hcC13 (St.srH hS hrC14) hcC28 (St.srH hS hrC29) h52) ⟨rfl,rfl,trivial⟩ (fun v w a hR hF=>?_)
              obtain ⟨rfl,hk⟩:=hR
              replace hS:=hS.pass hk
              clear hk
              refine ls<|gy hF rfl rfl<|q1 hF rfl (e_not hF rfl) fun a hF=>?_
              refine ls<|q1 hF rfl (e_pickF hF rfl rfl) fun a hF=>?_
              refine re<|?_
              refine tn<|?_
              replace hS:=hS.pickL (.cons .head (.cons .head .nil))
              exact ⟨(!r51),hm,hF.has ⟨rfl,rfl,rfl,rfl,trivial⟩,hS⟩
            ·
              replace hm:=ite_f hm hb50
              have hb50':(!r48)=true:=by rw [hb50];rfl
              refine rg<|?_
              refine ls<|q1 hF rfl (e_fa hF fa85_0 rfl) fun a hF=>?_
              refine ls<|q1 hF rfl (e_ld hF Tryz.isAgg3 rfl ((St.ld hS).cellB (.tail _ (.tail _ (.head _))) rfl)) fun a hF=>?_
              refine ls<|q1 hF rfl (e_fa hF fa85_0 rfl) fun a hF=>?_
              refine ls<|q1 hF rfl (e_ld hF Tryz.isAgg3 rfl ((St.ld hS).cellB (.tail _ (.tail _ (.tail _ (.head _)))) rfl)) fun a hF=>?_
              refine ls<|q1 hF rfl (e_neq hF rfl rfl) fun a hF=>?_
              refine ls<|q1 hF rfl (e_move hF rfl) fun a hF=>?_
              refine grp (N:=88) (Fk:=[(2,.pointer (some ⟨b15,0,none⟩)),(3,.pointer (some ⟨b16,0,none⟩)),(5,.int .i64 vB1),(6,.pointer (some ⟨bC1,0,none⟩)),(7,.pointer (some ⟨bC16,0,none⟩)),(57,.bool ((decide (vC2≠vC17)) || (decide (vC3≠vC18))))]) (b:=(decide (vC2≠vC17))) 6 hS ?_ ?_ ?_
              ·
                intro hb key
                replace hF:=Fr.as hF (t:=51) rfl (congrArg Value.bool hb)
                refine ls<|gn hF rfl rfl rfl rfl fun a hF=>?_
                refine ls<|gn hF rfl rfl rfl rfl fun a hF=>?_
                refine ls<|gn hF rfl rfl rfl rfl fun a hF=>?_
                refine ls<|gn hF rfl rfl rfl rfl fun a hF=>?_
                refine ls<|gn hF rfl rfl rfl rfl fun a hF=>?_
                refine ls<|q1 hF rfl (e_as (v':=.bool ((decide (vC2≠vC17)) || (decide (vC3≠vC18)))) (e_pickT hF rfl rfl) (by rw [hb];rfl)) fun a hF=>?_
                exact key _ _ (hF.has ⟨rfl,rfl,rfl,rfl,rfl,rfl,trivial⟩) hS
              ·
                intro hb key
                replace hF:=Fr.as hF (t:=51) rfl (congrArg Value.bool hb)
                refine ls<|gy hF rfl rfl<|q1 hF rfl (e_fa hF fa85_1 rfl) fun a hF=>?_
                refine ls<|gy hF rfl rfl<|q1 hF rfl (e_ld hF Tryz.isAgg3 rfl ((St.ld hS).cellB (.tail _ (.tail _ (.head _))) rfl)) fun a hF=>?_
                refine ls<|gy hF rfl rfl<|q1 hF rfl (e_fa hF fa85_1 rfl) fun a hF=>?_
                refine ls<|gy hF rfl rfl<|q1 hF rfl (e_ld hF Tryz.isAgg3 rfl ((St.ld hS).cellB (.tail _ (.tail _ (.tail _ (.head _)))) rfl)) fun a hF=>?_
                refine ls<|gy hF rfl rfl<|q1 hF rfl (e_neq hF rfl rfl) fun a hF=>?_
                refine ls<|q1 hF rfl (e_as (v':=.bool ((decide (vC2≠vC17)) || (decide (vC3≠vC18)))) (e_pickF hF rfl rfl) (by rw [hb];rfl)) fun a hF=>?_
                exact key _ _ (hF.has ⟨rfl,rfl,rfl,rfl,rfl,rfl,trivial⟩) hS
              intro a w hF hS
              refine ls<|q1 hF rfl (e_move hF rfl) fun a hF=>?_
              refine grp (N:=88) (Fk:=[(2,.pointer (some ⟨b15,0,none⟩)),(3,.pointer (some ⟨b16,0,none⟩)),(5,.int .i64 vB1),(6,.pointer (some ⟨bC1,0,none⟩)),(7,.pointer (some ⟨bC16,0,none⟩)),(64,.bool (((decide (vC2≠vC17)) || (decide (vC3≠vC18))) || (decide (vC4≠vC19))))]) (b:=((decide (vC2≠vC17)) || (decide (vC3≠vC18)))) 6 hS ?_ ?_ ?_
              ·
                intro hb key
                replace hF:=Fr.as hF (t:=58) rfl (congrArg Value.bool hb)
                refine ls<|gn hF rfl rfl rfl rfl fun a hF=>?_
                refine ls<|gn hF rfl rfl rfl rfl fun a hF=>?_
                refine ls<|gn hF rfl rfl rfl rfl fun a hF=>?_
                refine ls<|gn hF rfl rfl rfl rfl fun a hF=>?_
                refine ls<|gn hF rfl rfl rfl rfl fun a hF=>?_
                refine ls<|q1 hF rfl (e_as (v':=.bool (((decide (vC2≠vC17)) || (decide (vC3≠vC18))) || (decide (vC4≠vC19)))) (e_pickT hF rfl rfl) (by rw [hb];rfl)) fun a hF=>?_
                exact key _ _ (hF.has ⟨rfl,rfl,rfl,rfl,rfl,rfl,trivial⟩) hS
              ·
                intro hb key
                replace hF:=Fr.as hF (t:=58) rfl (congrArg Value.bool hb)
                refine ls<|gy hF rfl rfl<|q1 hF rfl (e_fa hF fa85_2 rfl) fun a hF=>?_
                refine ls<|gy hF rfl rfl<|q1 hF rfl (e_ld hF Tryz.isAgg3 rfl ((St.ld hS).cellB (.tail _ (.tail _ (.head _))) rfl)) fun a hF=>?_
                refine ls<|gy hF rfl rfl<|q1 hF rfl (e_fa hF fa85_2 rfl) fun a hF=>?_
                refine ls<|gy hF rfl rfl<|q1 hF rfl (e_ld hF Tryz.isAgg3 rfl ((St.ld hS).cellB (.tail _ (.tail _ (.tail _ (.head _)))) rfl)) fun a hF=>?_
                refine ls<|gy hF rfl rfl<|q1 hF rfl (e_neq hF rfl rfl) fun a hF=>?_
                refine ls<|q1 hF rfl (e_as (v':=.bool (((decide (vC2≠vC17)) || (decide (vC3≠vC18))) || (decide (vC4≠vC19)))) (e_pickF hF rfl rfl) (by rw [hb];rfl)) fun a hF=>?_
                exact key _ _ (hF.has ⟨rfl,rfl,rfl,rfl,rfl,rfl,trivial⟩) hS
              intro a w hF hS
              refine ls<|q1 hF rfl (e_move hF rfl) fun a hF=>?_
              refine grp (N:=88) (Fk:=[(2,.pointer (some ⟨b15,0,none⟩)),(3,.pointer (some ⟨b16,0,none⟩)),(5,.int .i64 vB1),(6,.pointer (some ⟨bC1,0,none⟩)),(7,.pointer (some ⟨bC16,0,none⟩)),(71,.bool ((((decide (vC2≠vC17)) || (decide (vC3≠vC18))) || (decide (vC4≠vC19))) || (decide (vC15≠vC30))))]) (b:=(((decide (vC2≠vC17)) || (decide (vC3≠vC18))) || (decide (vC4≠vC19)))) 6 hS ?_ ?_ ?_
              ·
                intro hb key
                replace hF:=Fr.as hF (t:=65) rfl (congrArg Value.bool hb)
                refine ls<|gn hF rfl rfl rfl rfl fun a hF=>?_
                refine ls<|gn hF rfl rfl rfl rfl fun a hF=>?_
                refine ls<|gn hF rfl rfl rfl rfl fun a hF=>?_
                refine ls<|gn hF rfl rfl rfl rfl fun a hF=>?_
                refine ls<|gn hF rfl rfl rfl rfl fun a hF=>?_
                refine ls<|q1 hF rfl (e_as (v':=.bool ((((decide (vC2≠vC17)) || (decide (vC3≠vC18))) || (decide (vC4≠vC19))) || (decide (vC15≠vC30)))) (e_pickT hF rfl rfl) (by rw [hb];rfl)) fun a hF=>?_
                exact key _ _ (hF.has ⟨rfl,rfl,rfl,rfl,rfl,rfl,trivial⟩) hS
              ·
                intro hb key
                replace hF:=Fr.as hF (t:=65) rfl (congrArg Value.bool hb)
                refine ls<|gy hF rfl rfl<|q1 hF rfl (e_fa hF fa85_5 rfl) fun a hF=>?_
                refine ls<|gy hF rfl rfl<|q1 hF rfl (e_ld hF Tryz.isAgg3 rfl ((St.ld hS).cellB (.tail _ (.tail _ (.head _))) rfl)) fun a hF=>?_
                refine ls<|gy hF rfl rfl<|q1 hF rfl (e_fa hF fa85_5 rfl) fun a hF=>?_
                refine ls<|gy hF rfl rfl<|q1 hF rfl (e_ld hF Tryz.isAgg3 rfl ((St.ld hS).cellB (.tail _ (.tail _ (.tail _ (.head _)))) rfl)) fun a hF=>?_
                refine ls<|gy hF rfl rfl<|q1 hF rfl (e_neq hF rfl rfl) fun a hF=>?_
                refine ls<|q1 hF rfl (e_as (v':=.bool ((((decide (vC2≠vC17)) || (decide (vC3≠vC18))) || (decide (vC4≠vC19))) || (decide (vC15≠vC30)))) (e_pickF hF rfl rfl) (by rw [hb];rfl)) fun a hF=>?_
                exact key _ _ (hF.has ⟨rfl,rfl,rfl,rfl,rfl,rfl,trivial⟩) hS
              intro a w hF hS
              refine ls<|q1 hF rfl (e_as (e_move hF rfl) (congrArg Value.bool hb47)) fun a hF=>?_
              refine ls<|gy hF rfl rfl<|q1 hF rfl (e_fa hF fa85_3 rfl) fun a hF=>?_
              refine ls<|gy hF rfl rfl<|q1 hF rfl (e_ld hF Tryz.isAgg54 rfl ((St.ld hS).cellB (.tail _ (.tail _ (.head _))) rfl)) fun a hF=>?_
              refine ls<|gy hF rfl rfl<|q1 hF rfl (e_fa hF fa85_3 rfl) fun a hF=>?_
              refine ls<|gy hF rfl rfl<|q1 hF rfl (e_ld hF Tryz.isAgg54 rfl ((St.ld hS).cellB (.tail _ (.tail _ (.tail _ (.head _)))) rfl)) fun a hF=>?_
              refine ls<|gy hF rfl rfl<|c1 hF rfl Tryz.call41 (Z1y_c (hp_le _) hcC8 (St.srH hS hrC9) hcC23 (St.srH hS hrC24) h49) ⟨rfl,rfl,trivial⟩ (fun v w a hR hF=>?_)
              obtain ⟨rfl,hk⟩:=hR
              replace hS:=hS.pass hk
              clear hk
              refine ls<|gy hF rfl rfl<|q1 hF rfl (e_not hF rfl) fun a hF=>?_
              refine ls<|q1 hF rfl (e_pickF hF rfl rfl) fun a hF=>?_
              refine ls<|q1 hF rfl (e_as (e_move hF rfl) (congrArg Value.bool hb50')) fun a hF=>?_
              refine ls<|gn hF rfl rfl rfl rfl fun a hF=>?_
              refine ls<|gn hF rfl rfl rfl rfl fun a hF=>?_
              refine ls<|gn hF rfl rfl rfl rfl fun a hF=>?_
              refine ls<|gn hF rfl rfl rfl rfl fun a hF=>?_
              refine ls<|gn hF rfl rfl rfl rfl fun a hF=>?_
              refine ls<|gn hF rfl rfl rfl rfl fun a hF=>?_
              refine ls<|q1 hF rfl (e_pickT hF rfl rfl) fun a hF=>?_
              refine re<|?_
              refine tn<|?_
              replace hS:=hS.pickL (.cons .head (.cons .head .nil))
              exact ⟨true,hm,hF.has ⟨rfl,rfl,rfl,rfl,trivial⟩,hS⟩
        clear hm hF hS
        rintro a w ⟨vC31,hm,hF,hS⟩
        unfold Z38 at hm
        rcases bdich vC31 with hb53 | hb53
        ·
          replace hm:=ite_t hm hb53
          refine ctv hF rfl hb53<|th<|?_
          refine rg<|?_
          refine ls<|q1 hF rfl (e_asg hF rfl) fun a hF=>?_
          refine re<|?_
          refine tn<|?_
          refine wr<|br<|tr<|tr<|br<|tr<|?_
          obtain rfl:=Option.some.inj hm
          exact r1 hF Tryz.results40 rfl ⟨rfl,hS.keep⟩
        ·
          replace hm:=ite_f hm hb53
          refine cfv hF rfl hb53<|wk<|?_
          refine bn<|tn<|?_
          refine rg<|?_
          refine ls<|q1 hF rfl (e_move hF rfl) fun a hF=>?_
          refine ls<|q1 hF rfl (e_add hF rfl rfl) fun a hF=>?_
          refine ls<|q1 hF rfl (e_asg hF rfl) fun a hF=>?_
          refine re<|?_
          refine tn<|?_
          exact ⟨(nn2,(IntKind.i64.wrap (vB1+1))),⟨hm,hF.has ⟨rfl,rfl,rfl,trivial⟩,hS⟩,Nat.lt_succ_self _⟩
      ·
        replace hm:=itp_f hm hb18
        refine tn<|cfv hF rfl hb18<|?_
        refine we<|tx<|tx<|bx<|?_
        refine tn<|?_
        replace hS:=hS.pickL .nil
        exact ⟨hm,hF.has trivial,hS⟩
    clear hm hF hS
    rintro a w ⟨hm,hF,hS⟩
    unfold Z36 at hm
    refine th<|?_
    refine rg<|?_
    refine ls<|q1 hF rfl (e_asg hF rfl) fun a hF=>?_
    refine re<|?_
    refine tn<|?_
    refine wr<|?_
    obtain rfl:=Option.some.inj hm
    exact r1 hF Tryz.results40 rfl ⟨rfl,hS.keep⟩
set_option maxHeartbeats 4000000 in
set_option maxRecDepth 100000 in
theorem Z2p_c {N:Nat} {w0:World} {H:PH} (hH:H.le w0) {cs2:List Value} {p1:api_Unit} (g3:Enc.rep H cs2 p1) {cs5:List Value} {p4:api_Unit} (g6:Enc.rep H cs5 p4) {r:Bool} (hm:Z2p N p1 p4=some r):Tot Tryz.prog 12 #[.agg cs2.toArray,.agg cs5.toArray] w0 (fun v w'=>v=.bool r∧Keep Nil w0 w'):=by
  unfold Z2p at hm
  refine fn0 (args:=[.agg cs2.toArray,.agg cs5.toArray]) (F:=[(0,.agg cs2.toArray),(1,.agg cs5.toArray)]) Tryz.func12 rfl Tryz.ntmps12 rfl rfl fun a hF=>?_
  have hS:St w0 Nil [H] [] w0:=start1 hH
  have g7:Enc.rep (α:=(List Int)×Int×(List Int)×Int×(List api_Code)×api_Code×(List (List api_Op))) H cs2 (p1.Lines,p1.Stays,p1.Firsts,p1.Locks,p1.Threads,p1.Recover,p1.Claims):=g3
  obtain ⟨qz8,qz9,rfl,g10,g11⟩:=g7
  obtain ⟨oa12,cap13,rfl,hc14,hr15⟩:=g10
  obtain ⟨q16,q17,rfl,g18,g19⟩:=g11
  obtain rfl:q16=[.int .i64 p1.Stays]:=g18
  obtain ⟨q20,q21,rfl,g22,g23⟩:=g19
  obtain ⟨oa24,cap25,rfl,hc26,hr27⟩:=g22
  obtain ⟨q28,q29,rfl,g30,g31⟩:=g23
  obtain rfl:q28=[.int .i64 p1.Locks]:=g30
  obtain ⟨q32,q33,rfl,g34,g35⟩:=g31
  obtain ⟨oa36,cap37,rfl,hc38,hr39⟩:=g34
  obtain ⟨q40,q41,rfl,g42,g43⟩:=g35
  obtain ⟨oa44,cap45,rfl,hc46,hr47⟩:=api_Code_open g42
  obtain ⟨oa48,cap49,rfl,hc50,hr51⟩:=g43
  have g52:Enc.rep (α:=(List Int)×Int×(List Int)×Int×(List api_Code)×api_Code×(List (List api_Op))) H cs5 (p4.Lines,p4.Stays,p4.Firsts,p4.Locks,p4.Threads,p4.Recover,p4.Claims):=g6
  obtain ⟨q53,q54,rfl,g55,g56⟩:=g52
  obtain ⟨oa57,cap58,rfl,hc59,hr60⟩:=g55
  obtain ⟨q61,q62,rfl,g63,g64⟩:=g56
  obtain rfl:q61=[.int .i64 p4.Stays]:=g63
  obtain ⟨q65,q66,rfl,g67,g68⟩:=g64
  obtain ⟨oa69,cap70,rfl,hc71,hr72⟩:=g67
  obtain ⟨q73,q74,rfl,g75,g76⟩:=g68
  obtain rfl:q73=[.int .i64 p4.Locks]:=g75
  obtain ⟨q77,q78,rfl,g79,g80⟩:=g76
  obtain ⟨oa81,cap82,rfl,hc83,hr84⟩:=g79
  obtain ⟨q85,q86,rfl,g87,g88⟩:=g80
  obtain ⟨oa89,cap90,rfl,hc91,hr92⟩:=api_Code_open g87
  obtain ⟨oa93,cap94,rfl,hc95,hr96⟩:=g88
  refine th<|?_
  refine rg<|?_
  refine ls<|a_box (cs:=[.slice oa12 p1.Lines.length cap13,.int .i64 p1.Stays,.slice oa24 p1.Firsts.length cap25,.int .i64 p1.Locks,.slice oa36 p1.Threads.length cap37,.int .i64 p1.Recover.Regs,.int .i64 p1.Recover.Counts,.slice oa44 p1.Recover.L.length cap45,.slice oa48 p1.Claims.length cap49].toArray) hF rfl hS rfl rfl fun b97 w a hS hF=>?_
  refine ls<|a_box (cs:=[.slice oa57 p4.Lines.length cap58,.int .i64 p4.Stays,.slice oa69 p4.Firsts.length cap70,.int .i64 p4.Locks,.slice oa81 p4.Threads.length cap82,.int .i64 p4.Recover.Regs,.int .i64 p4.Recover.Counts,.slice oa89 p4.Recover.L.length cap90,.slice oa93 p4.Claims.length cap94].toArray) hF rfl hS rfl rfl fun b98 w a hS hF=>?_
  refine ls<|q1 hF rfl (e_asg hF rfl) fun a hF=>?_
  refine re<|?_
  refine tn<|th<|th<|midK (fun a w=>∃ (vA1:Bool),(Z2q N p1 p4) vA1=some r∧Fr 96 [(2,.pointer (some ⟨b97,0,none⟩)),(3,.pointer (some ⟨b98,0,none⟩)),(52,.bool vA1)] a∧St w0 Nil [H] [blk b97 (.cells [.slice oa12 p1.Lines.length cap13,.int .i64 p1.Stays,.slice oa24 p1.Firsts.length cap25,.int .i64 p1.Locks,.slice oa36 p1.Threads.length cap37,.int .i64 p1.Recover.Regs,.int .i64 p1.Recover.Counts,.slice oa44 p1.Recover.L.length cap45,.slice oa48 p1.Claims.length cap49].toArray 29 (0,0)),blk b98 (.cells [.slice oa57 p4.Lines.length cap58,.int .i64 p4.Stays,.slice oa69 p4.Firsts.length cap70,.int .i64 p4.Locks,.slice oa81 p4.Threads.length cap82,.int .i64 p4.Recover.Regs,.int .i64 p4.Recover.Counts,.slice oa89 p4.Recover.L.length cap90,.slice oa93 p4.Claims.length cap94].toArray 29 (0,0))] w) ?_ ?_
  ·
    replace hm:=bind_some hm
    obtain ⟨r99,h100,hm⟩:=hm
    rcases bdich ((!r99) || (decide (p1.Stays≠p4.Stays))) with hb101 | hb101
    ·
      replace hm:=ite_t hm hb101
      refine rg<|?_
      refine ls<|q1 hF rfl (e_fa hF fa29_0 rfl) fun a hF=>?_
      refine ls<|q1 hF rfl (e_ld hF Tryz.isAgg22 rfl ((St.ld hS).cellB (.tail _ (.head _)) rfl)) fun a hF=>?_
      refine ls<|q1 hF rfl (e_fa hF fa29_0 rfl) fun a hF=>?_
      refine ls<|q1 hF rfl (e_ld hF Tryz.isAgg22 rfl ((St.ld hS).cellB (.head _) rfl)) fun a hF=>?_
      refine ls<|c1 hF rfl Tryz.call39 (Z1s_c (hp_le _) hc14 (St.srH hS hr15) hc59 (St.srH hS hr60) h100) ⟨rfl,rfl,trivial⟩ (fun v w a hR hF=>?_)
      obtain ⟨rfl,hk⟩:=hR
      replace hS:=hS.pass hk
      clear hk
      refine ls<|q1 hF rfl (e_not hF rfl) fun a hF=>?_
      refine ls<|q1 hF rfl (e_move hF rfl) fun a hF=>?_
      refine grp (N:=96) (Fk:=[(2,.pointer (some ⟨b97,0,none⟩)),(3,.pointer (some ⟨b98,0,none⟩)),(19,.bool ((!r99) || (decide (p1.Stays≠p4.Stays))))]) (b:=(!r99)) 6 hS ?_ ?_ ?_
      ·
        intro hb key
        replace hF:=Fr.as hF (t:=13) rfl (congrArg Value.bool hb)
        refine ls<|gn hF rfl rfl rfl rfl fun a hF=>?_
        refine ls<|gn hF rfl rfl rfl rfl fun a hF=>?_
        refine ls<|gn hF rfl rfl rfl rfl fun a hF=>?_
        refine ls<|gn hF rfl rfl rfl rfl fun a hF=>?_
        refine ls<|gn hF rfl rfl rfl rfl fun a hF=>?_
        refine ls<|q1 hF rfl (e_as (v':=.bool ((!r99) || (decide (p1.Stays≠p4.Stays)))) (e_pickT hF rfl rfl) (by rw [hb];rfl)) fun a hF=>?_
        exact key _ _ (hF.has ⟨rfl,rfl,rfl,trivial⟩) hS
      ·
        intro hb key
        replace hF:=Fr.as hF (t:=13) rfl (congrArg Value.bool hb)
        refine ls<|gy hF rfl rfl<|q1 hF rfl (e_fa hF fa29_1 rfl) fun a hF=>?_
        refine ls<|gy hF rfl rfl<|q1 hF rfl (e_ld hF Tryz.isAgg3 rfl ((St.ld hS).cellB (.tail _ (.head _)) rfl)) fun a hF=>?_
        refine ls<|gy hF rfl rfl<|q1 hF rfl (e_fa hF fa29_1 rfl) fun a hF=>?_
        refine ls<|gy hF rfl rfl<|q1 hF rfl (e_ld hF Tryz.isAgg3 rfl ((St.ld hS).cellB (.head _) rfl)) fun a hF=>?_
        refine ls<|gy hF rfl rfl<|q1 hF rfl (e_neq hF rfl rfl) fun a hF=>?_
        refine ls<|q1 hF rfl (e_as (v':=.bool ((!r99) || (decide (p1.Stays≠p4.Stays)))) (e_pickF hF rfl rfl) (by rw [hb];rfl)) fun a hF=>?_
        exact key _ _ (hF.has ⟨rfl,rfl,rfl,trivial⟩) hS
      intro a w hF hS
      refine ls<|q1 hF rfl (e_as (e_move hF rfl) (congrArg Value.bool hb101)) fun a hF=>?_
      refine ls<|gn hF rfl rfl rfl rfl fun a hF=>?_
      refine ls<|gn hF rfl rfl rfl rfl fun a hF=>?_
      refine ls<|gn hF rfl rfl rfl rfl fun a hF=>?_
      refine ls<|gn hF rfl rfl rfl rfl fun a hF=>?_
      refine ls<|gn hF rfl rfl rfl rfl fun a hF=>?_
      refine ls<|gn hF rfl rfl rfl rfl fun a hF=>?_
      refine ls<|q1 hF rfl (e_pickT hF rfl rfl) fun a hF=>?_
      refine ls<|q1 hF rfl (e_move hF rfl) fun a hF=>?_
      refine ls<|gn hF rfl rfl rfl rfl fun a hF=>?_
      refine ls<|gn hF rfl rfl rfl rfl fun a hF=>?_
      refine ls<|gn hF rfl rfl rfl rfl fun a hF=>?_
      refine ls<|gn hF rfl rfl rfl rfl fun a hF=>?_
      refine ls<|gn hF rfl rfl rfl rfl fun a hF=>?_
      refine ls<|q1 hF rfl (e_pickT hF rfl rfl) fun a hF=>?_
      refine ls<|q1 hF rfl (e_move hF rfl) fun a hF=>?_
      refine ls<|gn hF rfl rfl rfl rfl fun a hF=>?_
      refine ls<|gn hF rfl rfl rfl rfl fun a hF=>?_
      refine ls<|gn hF rfl rfl rfl rfl fun a hF=>?_
      refine ls<|gn hF rfl rfl rfl rfl fun a hF=>?_
      refine ls<|gn hF rfl rfl rfl rfl fun a hF=>?_
      refine ls<|gn hF rfl rfl rfl rfl fun a hF=>?_
      refine ls<|gn hF rfl rfl rfl rfl fun a hF=>?_
      refine ls<|q1 hF rfl (e_pickT hF rfl rfl) fun a hF=>?_
      refine ls<|q1 hF rfl (e_move hF rfl) fun a hF=>?_
      refine ls<|gn hF rfl rfl rfl rfl fun a hF=>?_
      refine ls<|gn hF rfl rfl rfl rfl fun a hF=>?_
      refine ls<|gn hF rfl rfl rfl rfl fun a hF=>?_
      refine ls<|gn hF rfl rfl rfl rfl fun a hF=>?_
      refine ls<|gn hF rfl rfl rfl rfl fun a hF=>?_
      refine ls<|gn hF rfl rfl rfl rfl fun a hF=>?_
      refine ls<|gn hF rfl rfl rfl rfl fun a hF=>?_
      refine ls<|q1 hF rfl (e_pickT hF rfl rfl) fun a hF=>?_
      refine re<|?_
      refine tn<|?_
      replace hS:=hS.pickL (.cons (.tail .head) (.cons .head .nil))
      exact ⟨true,hm,hF.has ⟨rfl,rfl,rfl,trivial⟩,hS⟩
    ·
      replace hm:=ite_f hm hb101
      replace hm:=bind_some hm
      obtain ⟨r102,h103,hm⟩:=hm
      refine rg<|?_
      refine ls<|q1 hF rfl (e_fa hF fa29_0 rfl) fun a hF=>?_
      refine ls<|q1 hF rfl (e_ld hF Tryz.isAgg22 rfl ((St.ld hS).cellB (.tail _ (.head _)) rfl)) fun a hF=>?_
      refine ls<|q1 hF rfl (e_fa hF fa29_0 rfl) fun a hF=>?_
      refine ls<|q1 hF rfl (e_ld hF Tryz.isAgg22 rfl ((St.ld hS).cellB (.head _) rfl)) fun a hF=>?_
      refine ls<|c1 hF rfl Tryz.call39 (Z1s_c (hp_le _) hc14 (St.srH hS hr15) hc59 (St.srH hS hr60) h100) ⟨rfl,rfl,trivial⟩ (fun v w a hR hF=>?_)
      obtain ⟨rfl,hk⟩:=hR
      replace hS:=hS.pass hk
      clear hk
      refine ls<|q1 hF rfl (e_not hF rfl) fun a hF=>?_
      refine ls<|q1 hF rfl (e_move hF rfl) fun a hF=>?_
      refine grp (N:=96) (Fk:=[(2,.pointer (some ⟨b97,0,none⟩)),(3,.pointer (some ⟨b98,0,none⟩)),(19,.bool ((!r99) || (decide (p1.Stays≠p4.Stays))))]) (b:=(!r99)) 6 hS ?_ ?_ ?_
      ·
        intro hb key
        replace hF:=Fr.as hF (t:=13) rfl (congrArg Value.bool hb)
        refine ls<|gn hF rfl rfl rfl rfl fun a hF=>?_
        refine ls<|gn hF rfl rfl rfl rfl fun a hF=>?_
        refine ls<|gn hF rfl rfl rfl rfl fun a hF=>?_
        refine ls<|gn hF rfl rfl rfl rfl fun a hF=>?_
        refine ls<|gn hF rfl rfl rfl rfl fun a hF=>?_
        refine ls<|q1 hF rfl (e_as (v':=.bool ((!r99) || (decide (p1.Stays≠p4.Stays)))) (e_pickT hF rfl rfl) (by rw [hb];rfl)) fun a hF=>?_
        exact key _ _ (hF.has ⟨rfl,rfl,rfl,trivial⟩) hS
      ·
        intro hb key
        replace hF:=Fr.as hF (t:=13) rfl (congrArg Value.bool hb)
        refine ls<|gy hF rfl rfl<|q1 hF rfl (e_fa hF fa29_1 rfl) fun a hF=>?_
        refine ls<|gy hF rfl rfl<|q1 hF rfl (e_ld hF Tryz.isAgg3 rfl ((St.ld hS).cellB (.tail _ (.head _)) rfl)) fun a hF=>?_
        refine ls<|gy hF rfl rfl<|q1 hF rfl (e_fa hF fa29_1 rfl) fun a hF=>?_
        refine ls<|gy hF rfl rfl<|q1 hF rfl (e_ld hF Tryz.isAgg3 rfl ((St.ld hS).cellB (.head _) rfl)) fun a hF=>?_
        refine ls<|gy hF rfl rfl<|q1 hF rfl (e_neq hF rfl rfl) fun a hF=>?_
        refine ls<|q1 hF rfl (e_as (v':=.bool ((!r99) || (decide (p1.Stays≠p4.Stays)))) (e_pickF hF rfl rfl) (by rw [hb];rfl)) fun a hF=>?_
        exact key _ _ (hF.has ⟨rfl,rfl,rfl,trivial⟩) hS
      intro a w hF hS
      refine ls<|q1 hF rfl (e_as (e_move hF rfl) (congrArg Value.bool hb101)) fun a hF=>?_
      refine ls<|gy hF rfl rfl<|q1 hF rfl (e_fa hF fa29_2 rfl) fun a hF=>?_
      refine ls<|gy hF rfl rfl<|q1 hF rfl (e_ld hF Tryz.isAgg22 rfl ((St.ld hS).cellB (.tail _ (.head _)) rfl)) fun a hF=>?_
      refine ls<|gy hF rfl rfl<|q1 hF rfl (e_fa hF fa29_2 rfl) fun a hF=>?_
      refine ls<|gy hF rfl rfl<|q1 hF rfl (e_ld hF Tryz.isAgg22 rfl ((St.ld hS).cellB (.head _) rfl)) fun a hF=>?_
      refine ls<|gy hF rfl rfl<|c1 hF rfl Tryz.call39 (Z1s_c (hp_le _) hc26 (St.srH hS hr27) hc71 (St.srH hS hr72) h103) ⟨rfl,rfl,trivial⟩ (fun v w a hR hF=>?_)
      obtain ⟨rfl,hk⟩:=hR
      replace hS:=hS.pass hk
      clear hk
      refine ls<|gy hF rfl rfl<|q1 hF rfl (e_not hF rfl) fun a hF=>?_
      refine ls<|q1 hF rfl (e_pickF hF rfl rfl) fun a hF=>?_
      refine ls<|q1 hF rfl (e_move hF rfl) fun a hF=>?_
      refine grp (N:=96) (Fk:=[(2,.pointer (some ⟨b97,0,none⟩)),(3,.pointer (some ⟨b98,0,none⟩)),(34,.bool ((!r102) || (decide (p1.Locks≠p4.Locks))))]) (b:=(!r102)) 6 hS ?_ ?_ ?_
      ·
        intro hb key
        replace hF:=Fr.as hF (t:=28) rfl (congrArg Value.bool hb)
        refine ls<|gn hF rfl rfl rfl rfl fun a hF=>?_
        refine ls<|gn hF rfl rfl rfl rfl fun a hF=>?_
        refine ls<|gn hF rfl rfl rfl rfl fun a hF=>?_
        refine ls<|gn hF rfl rfl rfl rfl fun a hF=>?_
        refine ls<|gn hF rfl rfl rfl rfl fun a hF=>?_
        refine ls<|q1 hF rfl (e_as (v':=.bool ((!r102) || (decide (p1.Locks≠p4.Locks)))) (e_pickT hF rfl rfl) (by rw [hb];rfl)) fun a hF=>?_
        exact key _ _ (hF.has ⟨rfl,rfl,rfl,trivial⟩) hS
      ·
        intro hb key
        replace hF:=Fr.as hF (t:=28) rfl (congrArg Value.bool hb)
        refine ls<|gy hF rfl rfl<|q1 hF rfl (e_fa hF fa29_3 rfl) fun a hF=>?_
        refine ls<|gy hF rfl rfl<|q1 hF rfl (e_ld hF Tryz.isAgg3 rfl ((St.ld hS).cellB (.tail _ (.head _)) rfl)) fun a hF=>?_
        refine ls<|gy hF rfl rfl<|q1 hF rfl (e_fa hF fa29_3 rfl) fun a hF=>?_
        refine ls<|gy hF rfl rfl<|q1 hF rfl (e_ld hF Tryz.isAgg3 rfl ((St.ld hS).cellB (.head _) rfl)) fun a hF=>?_
        refine ls<|gy hF rfl rfl<|q1 hF rfl (e_neq hF rfl rfl) fun a hF=>?_
        refine ls<|q1 hF rfl (e_as (v':=.bool ((!r102) || (decide (p1.Locks≠p4.Locks)))) (e_pickF hF rfl rfl) (by rw [hb];rfl)) fun a hF=>?_
        exact key _ _ (hF.has ⟨rfl,rfl,rfl,trivial⟩) hS
      intro a w hF hS
      refine ls<|q1 hF rfl (e_move hF rfl) fun a hF=>?_
      refine grp (N:=96) (Fk:=[(2,.pointer (some ⟨b97,0,none⟩)),(3,.pointer (some ⟨b98,0,none⟩)),(43,.bool (((!r102) || (decide (p1.Locks≠p4.Locks))) || (decide ((p1.Threads.length:Int)≠(p4.Threads.length:Int)))))]) (b:=((!r102) || (decide (p1.Locks≠p4.Locks)))) 8 hS ?_ ?_ ?_
      ·
        intro hb key
        replace hF:=Fr.as hF (t:=35) rfl (congrArg Value.bool hb)
        refine ls<|gn hF rfl rfl rfl rfl fun a hF=>?_
        refine ls<|gn hF rfl rfl rfl rfl fun a hF=>?_
        refine ls<|gn hF rfl rfl rfl rfl fun a hF=>?_
        refine ls<|gn hF rfl rfl rfl rfl fun a hF=>?_
        refine ls<|gn hF rfl rfl rfl rfl fun a hF=>?_
        refine ls<|gn hF rfl rfl rfl rfl fun a hF=>?_
        refine ls<|gn hF rfl rfl rfl rfl fun a hF=>?_
        refine ls<|q1 hF rfl (e_as (v':=.bool (((!r102) || (decide (p1.Locks≠p4.Locks))) || (decide ((p1.Threads.length:Int)≠(p4.Threads.length:Int))))) (e_pickT hF rfl rfl) (by rw [hb];rfl)) fun a hF=>?_
        exact key _ _ (hF.has ⟨rfl,rfl,rfl,trivial⟩) hS
      ·
        intro hb key
        replace hF:=Fr.as hF (t:=35) rfl (congrArg Value.bool hb)
        refine ls<|gy hF rfl rfl<|q1 hF rfl (e_fa hF fa29_4 rfl) fun a hF=>?_
        refine ls<|gy hF rfl rfl<|q1 hF rfl (e_ld hF Tryz.isAgg23 rfl ((St.ld hS).cellB (.tail _ (.head _)) rfl)) fun a hF=>?_
        refine ls<|gy hF rfl rfl<|q1 hF rfl (e_lenL (α:=api_Code) (xs:=p1.Threads) hF Tryz.runUnderlying23 rfl) fun a hF=>?_
        refine ls<|gy hF rfl rfl<|q1 hF rfl (e_fa hF fa29_4 rfl) fun a hF=>?_
        refine ls<|gy hF rfl rfl<|q1 hF rfl (e_ld hF Tryz.isAgg23 rfl ((St.ld hS).cellB (.head _) rfl)) fun a hF=>?_
        refine ls<|gy hF rfl rfl<|q1 hF rfl (e_lenL (α:=api_Code) (xs:=p4.Threads) hF Tryz.runUnderlying23 rfl) fun a hF=>?_
        refine ls<|gy hF rfl rfl<|q1 hF rfl (e_neq hF rfl rfl) fun a hF=>?_
        refine ls<|q1 hF rfl (e_as (v':=.bool (((!r102) || (decide (p1.Locks≠p4.Locks))) || (decide ((p1.Threads.length:Int)≠(p4.Threads.length:Int))))) (e_pickF hF rfl rfl) (by rw [hb];rfl)) fun a hF=>?_
        exact key _ _ (hF.has ⟨rfl,rfl,rfl,trivial⟩) hS
      intro a w hF hS
      refine ls<|q1 hF rfl (e_move hF rfl) fun a hF=>?_
      refine grp (N:=96) (Fk:=[(2,.pointer (some ⟨b97,0,none⟩)),(3,.pointer (some ⟨b98,0,none⟩)),(52,.bool ((((!r102) || (decide (p1.Locks≠p4.Locks))) || (decide ((p1.Threads.length:Int)≠(p4.Threads.length:Int)))) || (decide ((p1.Claims.length:Int)≠(p4.Claims.length:Int)))))]) (b:=(((!r102) || (decide (p1.Locks≠p4.Locks))) || (decide ((p1.Threads.length:Int)≠(p4.Threads.length:Int))))) 8 hS ?_ ?_ ?_
      ·
        intro hb key
        replace hF:=Fr.as hF (t:=44) rfl (congrArg Value.bool hb)
        refine ls<|gn hF rfl rfl rfl rfl fun a hF=>?_
        refine ls<|gn hF rfl rfl rfl rfl fun a hF=>?_
        refine ls<|gn hF rfl rfl rfl rfl fun a hF=>?_
        refine ls<|gn hF rfl rfl rfl rfl fun a hF=>?_
        refine ls<|gn hF rfl rfl rfl rfl fun a hF=>?_
        refine ls<|gn hF rfl rfl rfl rfl fun a hF=>?_
        refine ls<|gn hF rfl rfl rfl rfl fun a hF=>?_
        refine ls<|q1 hF rfl (e_as (v':=.bool ((((!r102) || (decide (p1.Locks≠p4.Locks))) || (decide ((p1.Threads.length:Int)≠(p4.Threads.length:Int)))) || (decide ((p1.Claims.length:Int)≠(p4.Claims.length:Int))))) (e_pickT hF rfl rfl) (by rw [hb];rfl)) fun a hF=>?_
        exact key _ _ (hF.has ⟨rfl,rfl,rfl,trivial⟩) hS
      ·
        intro hb key
        replace hF:=Fr.as hF (t:=44) rfl (congrArg Value.bool hb)
        refine ls<|gy hF rfl rfl<|q1 hF rfl (e_fa hF fa29_6 rfl) fun a hF=>?_
        refine ls<|gy hF rfl rfl<|q1 hF rfl (e_ld hF Tryz.isAgg27 rfl ((St.ld hS).cellB (.tail _ (.head _)) rfl)) fun a hF=>?_
        refine ls<|gy hF rfl rfl<|q1 hF rfl (e_lenL (α:=(List api_Op)) (xs:=p1.Claims) hF Tryz.runUnderlying27 rfl) fun a hF=>?_
        refine ls<|gy hF rfl rfl<|q1 hF rfl (e_fa hF fa29_6 rfl) fun a hF=>?_
        refine ls<|gy hF rfl rfl<|q1 hF rfl (e_ld hF Tryz.isAgg27 rfl ((St.ld hS).cellB (.head _) rfl)) fun a hF=>?_
        refine ls<|gy hF rfl rfl<|q1 hF rfl (e_lenL (α:=(List api_Op)) (xs:=p4.Claims) hF Tryz.runUnderlying27 rfl) fun a hF=>?_
        refine ls<|gy hF rfl rfl<|q1 hF rfl (e_neq hF rfl rfl) fun a hF=>?_
        refine ls<|q1 hF rfl (e_as (v':=.bool ((((!r102) || (decide (p1.Locks≠p4.Locks))) || (decide ((p1.Threads.length:Int)≠(p4.Threads.length:Int)))) || (decide ((p1.Claims.length:Int)≠(p4.Claims.length:Int))))) (e_pickF hF rfl rfl) (by rw [hb];rfl)) fun a hF=>?_
        exact key _ _ (hF.has ⟨rfl,rfl,rfl,trivial⟩) hS
      intro a w hF hS
      refine re<|?_
      refine tn<|?_
      replace hS:=hS.pickL (.cons (.tail .head) (.cons .head .nil))
      exact ⟨((((!r102) || (decide (p1.Locks≠p4.Locks))) || (decide ((p1.Threads.length:Int)≠(p4.Threads.length:Int)))) || (decide ((p1.Claims.length:Int)≠(p4.Claims.length:Int)))),hm,hF.has ⟨rfl,rfl,rfl,trivial⟩,hS⟩
  clear hm hF hS
  rintro a w ⟨vA1,hm,hF,hS⟩
  unfold Z2q at hm
  rcases bdich vA1 with hb104 | hb104
  ·
    replace hm:=ite_t hm hb104
    refine ctv hF rfl hb104<|th<|?_
    refine rg<|?_
    refine ls<|q1 hF rfl (e_asg hF rfl) fun a hF=>?_
    refine re<|?_
    refine tn<|?_
    refine wr<|tr<|?_
    obtain rfl:=Option.some.inj hm
    exact r1 hF Tryz.results12 rfl ⟨rfl,hS.keep⟩
  ·
    replace hm:=ite_f hm hb104
    refine cfv hF rfl hb104<|wk<|?_
    refine tn<|th<|th<|?_
    refine rg<|?_
    refine ls<|q1 hF rfl (e_asg hF rfl) fun a hF=>?_
    refine re<|?_
    refine tn<|midK (fun a w=>(Z2r N p1 p4)=some r∧Fr 96 [(2,.pointer (some ⟨b97,0,none⟩)),(3,.pointer (some ⟨b98,0,none⟩))] a∧St w0 Nil [H] [blk b97 (.cells [.slice oa12 p1.Lines.length cap13,.int .i64 p1.Stays,.slice oa24 p1.Firsts.length cap25,.int .i64 p1.Locks,.slice oa36 p1.Threads.length cap37,.int .i64 p1.Recover.Regs,.int .i64 p1.Recover.Counts,.slice oa44 p1.Recover.L.length cap45,.slice oa48 p1.Claims.length cap49].toArray 29 (0,0)),blk b98 (.cells [.slice oa57 p4.Lines.length cap58,.int .i64 p4.Stays,.slice oa69 p4.Firsts.length cap70,.int .i64 p4.Locks,.slice oa81 p4.Threads.length cap82,.int .i64 p4.Recover.Regs,.int .i64 p4.Recover.Counts,.slice oa89 p4.Recover.L.length cap90,.slice oa93 p4.Claims.length cap94].toArray 29 (0,0))] w) ?_ ?_
    ·
      refine wb<|lp (α:=Nat×Int) (fun (gh:Nat×Int) a w=>match gh with | (nn3,vB1)=>(Z2t N (Z2r N p1 p4) p1 p4) nn3 vB1=some r∧Fr 96 [(2,.pointer (some ⟨b97,0,none⟩)),(3,.pointer (some ⟨b98,0,none⟩)),(5,.int .i64 vB1)] a∧St w0 Nil [H] [blk b97 (.cells [.slice oa12 p1.Lines.length cap13,.int .i64 p1.Stays,.slice oa24 p1.Firsts.length cap25,.int .i64 p1.Locks,.slice oa36 p1.Threads.length cap37,.int .i64 p1.Recover.Regs,.int .i64 p1.Recover.Counts,.slice oa44 p1.Recover.L.length cap45,.slice oa48 p1.Claims.length cap49].toArray 29 (0,0)),blk b98 (.cells [.slice oa57 p4.Lines.length cap58,.int .i64 p4.Stays,.slice oa69 p4.Firsts.length cap70,.int .i64 p4.Locks,.slice oa81 p4.Threads.length cap82,.int .i64 p4.Recover.Regs,.int .i64 p4.Recover.Counts,.slice oa89 p4.Recover.L.length cap90,.slice oa93 p4.Claims.length cap94].toArray 29 (0,0))] w) (fun gh=>gh.1) (N,0) ⟨hm,hF.has ⟨rfl,rfl,rfl,trivial⟩,hS⟩ ?_
      clear hm hF hS
      rintro ⟨nn3,vB1⟩ a w ⟨hm,hF,hS⟩
      obtain _ | nn3:=nn3
      · simp [Z2t] at hm
      rw [Z2t] at hm
      refine th<|th<|?_
      refine rg<|?_
      refine ls<|q1 hF rfl (e_move hF rfl) fun a hF=>?_
      refine ls<|q1 hF rfl (e_fa hF fa29_4 rfl) fun a hF=>?_
      refine ls<|q1 hF rfl (e_ld hF Tryz.isAgg23 rfl ((St.ld hS).cellB (.head _) rfl)) fun a hF=>?_
      refine ls<|q1 hF rfl (e_lenL (α:=api_Code) (xs:=p1.Threads) hF Tryz.runUnderlying23 rfl) fun a hF=>?_
      refine ls<|q1 hF rfl (e_lss hF rfl rfl) fun a hF=>?_
      refine re<|?_
      rcases bdich (decide (vB1 < (p1.Threads.length:Int))) with hb105 | hb105
      ·
        replace hm:=itp_t hm hb105
        refine tn<|ctv hF rfl hb105<|wk<|?_
        refine tn<|th<|wb<|th<|?_
        replace hm:=bind_some hm
        obtain ⟨x106,h107,hm⟩:=hm
        obtain ⟨c108,g109,hl110⟩:=SR.get hr39 h107
        obtain ⟨oa111,cap112,rfl,hc113,hr114⟩:=api_Code_open g109
        replace hm:=bind_some hm
        obtain ⟨x115,h116,hm⟩:=hm
        obtain ⟨c117,g118,hl119⟩:=SR.get hr84 h116
        obtain ⟨oa120,cap121,rfl,hc122,hr123⟩:=api_Code_open g118
        replace hm:=bind_some hm
        obtain ⟨r124,h125,hm⟩:=hm
        refine rdS 12 hS wide fun w hS=>?_
        refine d1 (i:=0) rfl (by kernel_rfl) (by kernel_rfl) (St.ld hS) hF rfl (fun _ _ _ h=>h) (fun w hl=>(e_fa hF fa29_4 rfl)) fun a hF=>?_
        refine d1 (i:=1) rfl (by kernel_rfl) (by kernel_rfl) (St.ld hS) hF rfl (fun _ _ _ h=>h) (fun w hl=>(e_ld hF Tryz.isAgg23 rfl (hl.cellB (.head _) rfl))) fun a hF=>?_
        refine d1 (i:=2) rfl (by kernel_rfl) (by kernel_rfl) (St.ld hS) hF rfl (fun _ _ _ h=>h) (fun w hl=>(e_move hF rfl)) fun a hF=>?_
        refine d1 (i:=3) rfl (by kernel_rfl) (by kernel_rfl) (St.ld hS) hF rfl (fun _ _ _ h=>h) (fun w hl=>(e_iaI hF Tryz.runUnderlying23 Tryz.sizeOf26 rfl rfl h107 (SR.oaI hr39 (by decide) h107))) fun a hF=>?_
        refine d1 (i:=4) rfl (by kernel_rfl) (by kernel_rfl) (St.ld hS) hF rfl (fun _ _ _ h=>h) (fun w hl=>(e_ldA hF Tryz.isAgg26 Tryz.sizeOf26 rfl rfl (fun j v hj=>PH.le.cell (Lds.le hl) (hl110 j v hj)))) fun a hF=>?_
        refine d1 (i:=5) rfl (by kernel_rfl) (by kernel_rfl) (St.ld hS) hF rfl (fun _ _ _ h=>h) (fun w hl=>(e_fa hF fa29_4 rfl)) fun a hF=>?_
        refine d1 (i:=6) rfl (by kernel_rfl) (by kernel_rfl) (St.ld hS) hF rfl (fun _ _ _ h=>h) (fun w hl=>(e_ld hF Tryz.isAgg23 rfl (hl.cellB (.tail _ (.head _)) rfl))) fun a hF=>?_
        refine d1 (i:=7) rfl (by kernel_rfl) (by kernel_rfl) (St.ld hS) hF rfl (fun _ _ _ h=>h) (fun w hl=>(e_move hF rfl)) fun a hF=>?_
        refine d1 (i:=8) rfl (by kernel_rfl) (by kernel_rfl) (St.ld hS) hF rfl (fun _ _ _ h=>h) (fun w hl=>(e_iaI hF Tryz.runUnderlying23 Tryz.sizeOf26 rfl rfl h116 (SR.oaI hr84 (by decide) h116))) fun a hF=>?_
        refine d1 (i:=9) rfl (by kernel_rfl) (by kernel_rfl) (St.ld hS) hF rfl (fun _ _ _ h=>h) (fun w hl=>(e_ldA hF Tryz.isAgg26 Tryz.sizeOf26 rfl rfl (fun j v hj=>PH.le.cell (Lds.le hl) (hl119 j v hj)))) fun a hF=>?_
        refine da1 (i:=10) (by kernel_rfl) ?_
        refine di (i:=10) rfl<|c1 hF rfl Tryz.call40 (Z35_c (hp_le _) (Enc.mono (St.up hS) (show Enc.rep (α:=api_Code) H [.int .i64 x106.Regs,.int .i64 x106.Counts,.slice oa111 x106.L.length cap112] x106 from ⟨_,_,rfl,rfl,⟨_,_,rfl,rfl,⟨_,_,rfl,hc113,hr114⟩⟩⟩)) (Enc.mono (St.up hS) (show Enc.rep (α:=api_Code) H [.int .i64 x115.Regs,.int .i64 x115.Counts,.slice oa120 x115.L.length cap121] x115 from ⟨_,_,rfl,rfl,⟨_,_,rfl,rfl,⟨_,_,rfl,hc122,hr123⟩⟩⟩)) h125) ⟨rfl,rfl,trivial⟩ (fun v w a hR hF=>?_)
        obtain ⟨rfl,hk⟩:=hR
        replace hS:=hS.pass hk
        clear hk
        refine ⟨fun _=>(St.ld hS),?_⟩
        refine d1 (i:=11) rfl (by kernel_rfl) (by kernel_rfl) (St.ld hS) hF rfl (fun _ _ _ h=>h) (fun w hl=>(e_not hF rfl)) fun a hF=>?_
        refine de (by kernel_rfl)<|?_
        rcases bdich r124 with hb126 | hb126
        ·
          replace hm:=ite_t hm hb126
          refine tn<|cfv hF rfl (by rw [hb126];rfl)<|wk<|?_
          refine bn<|tn<|?_
          refine rg<|?_
          refine ls<|q1 hF rfl (e_move hF rfl) fun a hF=>?_
          refine ls<|q1 hF rfl (e_add hF rfl rfl) fun a hF=>?_
          refine ls<|q1 hF rfl (e_asg hF rfl) fun a hF=>?_
          refine re<|?_
          refine tn<|?_
          exact ⟨(nn3,(IntKind.i64.wrap (vB1+1))),⟨hm,hF.has ⟨rfl,rfl,rfl,trivial⟩,hS⟩,Nat.lt_succ_self _⟩
        ·
          replace hm:=ite_f hm hb126
          refine tn<|ctv hF rfl (by rw [hb126];rfl)<|th<|?_
          refine rg<|?_
          refine ls<|q1 hF rfl (e_asg hF rfl) fun a hF=>?_
          refine re<|?_
          refine tn<|?_
          refine wr<|br<|tr<|tr<|br<|tr<|?_
          obtain rfl:=Option.some.inj hm
          exact r1 hF Tryz.results12 rfl ⟨rfl,hS.keep⟩
      ·
        replace hm:=itp_f hm hb105
        refine tn<|cfv hF rfl hb105<|?_
        refine we<|tx<|tx<|bx<|?_
        refine tn<|?_
        exact ⟨hm,hF.has ⟨rfl,rfl,trivial⟩,hS⟩
    clear hm hF hS
    rintro a w ⟨hm,hF,hS⟩
    unfold Z2r at hm
    refine th<|th<|?_
    refine rg<|?_
    refine ls<|q1 hF rfl (e_asg hF rfl) fun a hF=>?_
    refine re<|?_
    refine tn<|midK (fun a w=>(Z2s N p1 p4)=some r∧Fr 96 [(2,.pointer (some ⟨b97,0,none⟩)),(3,.pointer (some ⟨b98,0,none⟩))] a∧St w0 Nil [H] [blk b97 (.cells [.slice oa12 p1.Lines.length cap13,.int .i64 p1.Stays,.slice oa24 p1.Firsts.length cap25,.int .i64 p1.Locks,.slice oa36 p1.Threads.length cap37,.int .i64 p1.Recover.Regs,.int .i64 p1.Recover.Counts,.slice oa44 p1.Recover.L.length cap45,.slice oa48 p1.Claims.length cap49].toArray 29 (0,0)),blk b98 (.cells [.slice oa57 p4.Lines.length cap58,.int .i64 p4.Stays,.slice oa69 p4.Firsts.length cap70,.int .i64 p4.Locks,.slice oa81 p4.Threads.length cap82,.int .i64 p4.Recover.Regs,.int .i64 p4.Recover.Counts,.slice oa89 p4.Recover.L.length cap90,.slice oa93 p4.Claims.length cap94].toArray 29 (0,0))] w) ?_ ?_
    ·
      refine wb<|lp (α:=Nat×Int) (fun (gh:Nat×Int) a w=>match gh with | (nn5,vB2)=>(Z2u N (Z2s N p1 p4) p1 p4) nn5 vB2=some r∧Fr 96 [(2,.pointer (some ⟨b97,0,none⟩)),(3,.pointer (some ⟨b98,0,none⟩)),(6,.int .i64 vB2)] a∧St w0 Nil [H] [blk b97 (.cells [.slice oa12 p1.Lines.length cap13,.int .i64 p1.Stays,.slice oa24 p1.Firsts.length cap25,.int .i64 p1.Locks,.slice oa36 p1.Threads.length cap37,.int .i64 p1.Recover.Regs,.int .i64 p1.Recover.Counts,.slice oa44 p1.Recover.L.length cap45,.slice oa48 p1.Claims.length cap49].toArray 29 (0,0)),blk b98 (.cells [.slice oa57 p4.Lines.length cap58,.int .i64 p4.Stays,.slice oa69 p4.Firsts.length cap70,.int .i64 p4.Locks,.slice oa81 p4.Threads.length cap82,.int .i64 p4.Recover.Regs,.int .i64 p4.Recover.Counts,.slice oa89 p4.Recover.L.length cap90,.slice oa93 p4.Claims.length cap94].toArray 29 (0,0))] w) (fun gh=>gh.1) (N,0) ⟨hm,hF.has ⟨rfl,rfl,rfl,trivial⟩,hS⟩ ?_
      clear hm hF hS
      rintro ⟨nn5,vB2⟩ a w ⟨hm,hF,hS⟩
      obtain _ | nn5:=nn5
      · simp [Z2u] at hm
      rw [Z2u] at hm
      refine th<|th<|?_
      refine rg<|?_
      refine ls<|q1 hF rfl (e_move hF rfl) fun a hF=>?_
      refine ls<|q1 hF rfl (e_fa hF fa29_6 rfl) fun a hF=>?_
      refine ls<|q1 hF rfl (e_ld hF Tryz.isAgg27 rfl ((St.ld hS).cellB (.head _) rfl)) fun a hF=>?_
      refine ls<|q1 hF rfl (e_lenL (α:=(List api_Op)) (xs:=p1.Claims) hF Tryz.runUnderlying27 rfl) fun a hF=>?_
      refine ls<|q1 hF rfl (e_lss hF rfl rfl) fun a hF=>?_
      refine re<|?_
      rcases bdich (decide (vB2 < (p1.Claims.length:Int))) with hb127 | hb127
      ·
        replace hm:=itp_t hm hb127
        refine tn<|ctv hF rfl hb127<|wk<|?_
        refine tn<|th<|wb<|th<|?_
        replace hm:=bind_some hm
        obtain ⟨x128,h129,hm⟩:=hm
        obtain ⟨c130,g131,hl132⟩:=SR.get hr51 h129
        obtain ⟨oa133,cap134,rfl,hc135,hr136⟩:=g131
        replace hm:=bind_some hm
        obtain ⟨x137,h138,hm⟩:=hm
        obtain ⟨c139,g140,hl141⟩:=SR.get hr96 h138
        obtain ⟨oa142,cap143,rfl,hc144,hr145⟩:=g140
        replace hm:=bind_some hm
        obtain ⟨r146,h147,hm⟩:=hm
        refine rdS 12 hS wide fun w hS=>?_
        refine d1 (i:=0) rfl (by kernel_rfl) (by kernel_rfl) (St.ld hS) hF rfl (fun _ _ _ h=>h) (fun w hl=>(e_fa hF fa29_6 rfl)) fun a hF=>?_
        refine d1 (i:=1) rfl (by kernel_rfl) (by kernel_rfl) (St.ld hS) hF rfl (fun _ _ _ h=>h) (fun w hl=>(e_ld hF Tryz.isAgg27 rfl (hl.cellB (.head _) rfl))) fun a hF=>?_
        refine d1 (i:=2) rfl (by kernel_rfl) (by kernel_rfl) (St.ld hS) hF rfl (fun _ _ _ h=>h) (fun w hl=>(e_move hF rfl)) fun a hF=>?_
        refine d1 (i:=3) rfl (by kernel_rfl) (by kernel_rfl) (St.ld hS) hF rfl (fun _ _ _ h=>h) (fun w hl=>(e_iaI hF Tryz.runUnderlying27 Tryz.sizeOf54 rfl rfl h129 (SR.oaI hr51 (by decide) h129))) fun a hF=>?_
        refine d1 (i:=4) rfl (by kernel_rfl) (by kernel_rfl) (St.ld hS) hF rfl (fun _ _ _ h=>h) (fun w hl=>(e_ld hF Tryz.isAgg54 rfl (PH.le.cell (Lds.le hl) (hl132 0 _ rfl)))) fun a hF=>?_
        refine d1 (i:=5) rfl (by kernel_rfl) (by kernel_rfl) (St.ld hS) hF rfl (fun _ _ _ h=>h) (fun w hl=>(e_fa hF fa29_6 rfl)) fun a hF=>?_
        refine d1 (i:=6) rfl (by kernel_rfl) (by kernel_rfl) (St.ld hS) hF rfl (fun _ _ _ h=>h) (fun w hl=>(e_ld hF Tryz.isAgg27 rfl (hl.cellB (.tail _ (.head _)) rfl))) fun a hF=>?_
        refine d1 (i:=7) rfl (by kernel_rfl) (by kernel_rfl) (St.ld hS) hF rfl (fun _ _ _ h=>h) (fun w hl=>(e_move hF rfl)) fun a hF=>?_
        refine d1 (i:=8) rfl (by kernel_rfl) (by kernel_rfl) (St.ld hS) hF rfl (fun _ _ _ h=>h) (fun w hl=>(e_iaI hF Tryz.runUnderlying27 Tryz.sizeOf54 rfl rfl h138 (SR.oaI hr96 (by decide) h138))) fun a hF=>?_
        refine d1 (i:=9) rfl (by kernel_rfl) (by kernel_rfl) (St.ld hS) hF rfl (fun _ _ _ h=>h) (fun w hl=>(e_ld hF Tryz.isAgg54 rfl (PH.le.cell (Lds.le hl) (hl141 0 _ rfl)))) fun a hF=>?_
        refine da1 (i:=10) (by kernel_rfl) ?_
        refine di (i:=10) rfl<|c1 hF rfl Tryz.call41 (Z1y_c (hp_le _) hc135 (St.srH hS hr136) hc144 (St.srH hS hr145) h147) ⟨rfl,rfl,trivial⟩ (fun v w a hR hF=>?_)
        obtain ⟨rfl,hk⟩:=hR
        replace hS:=hS.pass hk
        clear hk
        refine ⟨fun _=>(St.ld hS),?_⟩
        refine d1 (i:=11) rfl (by kernel_rfl) (by kernel_rfl) (St.ld hS) hF rfl (fun _ _ _ h=>h) (fun w hl=>(e_not hF rfl)) fun a hF=>?_
        refine de (by kernel_rfl)<|?_
        rcases bdich r146 with hb148 | hb148
        ·
          replace hm:=ite_t hm hb148
          refine tn<|cfv hF rfl (by rw [hb148];rfl)<|wk<|?_
          refine bn<|tn<|?_
          refine rg<|?_
          refine ls<|q1 hF rfl (e_move hF rfl) fun a hF=>?_
          refine ls<|q1 hF rfl (e_add hF rfl rfl) fun a hF=>?_
          refine ls<|q1 hF rfl (e_asg hF rfl) fun a hF=>?_
          refine re<|?_
          refine tn<|?_
          exact ⟨(nn5,(IntKind.i64.wrap (vB2+1))),⟨hm,hF.has ⟨rfl,rfl,rfl,trivial⟩,hS⟩,Nat.lt_succ_self _⟩
        ·
          replace hm:=ite_f hm hb148
          refine tn<|ctv hF rfl (by rw [hb148];rfl)<|th<|?_
          refine rg<|?_
          refine ls<|q1 hF rfl (e_asg hF rfl) fun a hF=>?_
          refine re<|?_
          refine tn<|?_
          refine wr<|br<|tr<|tr<|br<|tr<|?_
          obtain rfl:=Option.some.inj hm
          exact r1 hF Tryz.results12 rfl ⟨rfl,hS.keep⟩
      ·
        replace hm:=itp_f hm hb127
        refine tn<|cfv hF rfl hb127<|?_
        refine we<|tx<|tx<|bx<|?_
        refine tn<|?_
        exact ⟨hm,hF.has ⟨rfl,rfl,trivial⟩,hS⟩
    clear hm hF hS
    rintro a w ⟨hm,hF,hS⟩
    unfold Z2s at hm
    refine th<|?_
    replace hm:=bind_some hm
    obtain ⟨r149,h150,hm⟩:=hm
    refine rg<|?_
    refine ls<|q1 hF rfl (e_fa hF fa29_5 rfl) fun a hF=>?_
    refine ls<|q1 hF rfl (e_ldA hF Tryz.isAgg26 Tryz.sizeOf26 rfl rfl (Lds.cellsP (pre:=[.slice oa12 p1.Lines.length cap13,.int .i64 p1.Stays,.slice oa24 p1.Firsts.length cap25,.int .i64 p1.Locks,.slice oa36 p1.Threads.length cap37]) (vs:=[.int .i64 p1.Recover.Regs,.int .i64 p1.Recover.Counts,.slice oa44 p1.Recover.L.length cap45]) (post:=[.slice oa48 p1.Claims.length cap49]) (St.ld hS) (.head _))) fun a hF=>?_
    refine ls<|q1 hF rfl (e_fa hF fa29_5 rfl) fun a hF=>?_
    refine ls<|q1 hF rfl (e_ldA hF Tryz.isAgg26 Tryz.sizeOf26 rfl rfl (Lds.cellsP (pre:=[.slice oa57 p4.Lines.length cap58,.int .i64 p4.Stays,.slice oa69 p4.Firsts.length cap70,.int .i64 p4.Locks,.slice oa81 p4.Threads.length cap82]) (vs:=[.int .i64 p4.Recover.Regs,.int .i64 p4.Recover.Counts,.slice oa89 p4.Recover.L.length cap90]) (post:=[.slice oa93 p4.Claims.length cap94]) (St.ld hS) (.tail _ (.head _)))) fun a hF=>?_
    refine ls<|c1 hF rfl Tryz.call40 (Z35_c (hp_le _) (Enc.mono (St.up hS) (show Enc.rep (α:=api_Code) H [.int .i64 p1.Recover.Regs,.int .i64 p1.Recover.Counts,.slice oa44 p1.Recover.L.length cap45] p1.Recover from ⟨_,_,rfl,rfl,⟨_,_,rfl,rfl,⟨_,_,rfl,hc46,hr47⟩⟩⟩)) (Enc.mono (St.up hS) (show Enc.rep (α:=api_Code) H [.int .i64 p4.Recover.Regs,.int .i64 p4.Recover.Counts,.slice oa89 p4.Recover.L.length cap90] p4.Recover from ⟨_,_,rfl,rfl,⟨_,_,rfl,rfl,⟨_,_,rfl,hc91,hr92⟩⟩⟩)) h150) ⟨rfl,rfl,trivial⟩ (fun v w a hR hF=>?_)
    obtain ⟨rfl,hk⟩:=hR
    replace hS:=hS.pass hk
    clear hk
    refine ls<|q1 hF rfl (e_asg hF rfl) fun a hF=>?_
    refine re<|?_
    refine tn<|?_
    refine wr<|?_
    obtain rfl:=Option.some.inj hm
    exact r1 hF Tryz.results12 rfl ⟨rfl,hS.keep⟩
set_option maxRecDepth 100000 in
theorem Zg_c {N:Nat} {w0:World} {H:PH} (hH:H.le w0) (hT:Tab H) {p1:Int} {r:Str} (hm:Zg N p1=some r):Tot Tryz.prog 17 #[.int .i64 p1] w0 (fun v w'=>v=strv r∧Keep Nil w0 w'):=by
  unfold Zg at hm
  refine fn0 (args:=[.int .i64 p1]) (F:=[(0,.int .i64 p1)]) Tryz.func17 rfl Tryz.ntmps17 rfl rfl fun a hF=>?_
  have hS:St w0 Nil [H] [] w0:=start1 hH
  refine th<|?_
  refine rg<|?_
  refine ls<|q1 hF rfl (e_asg hF rfl) fun a hF=>?_
  refine re<|?_
  refine tn<|th<|th<|?_
  refine rg<|?_
  refine ls<|q1 hF rfl (e_move hF rfl) fun a hF=>?_
  refine ls<|q1 hF rfl (e_lss hF rfl rfl) fun a hF=>?_
  refine ls<|q1 hF rfl (e_move hF rfl) fun a hF=>?_
  refine grp (N:=14) (Fk:=[(0,.int .i64 p1),(8,.bool ((decide (p1 < 1)) || (decide (16≤p1))))]) (b:=(decide (p1 < 1))) 3 hS ?_ ?_ ?_
  ·
    intro hb key
    replace hF:=Fr.as hF (t:=5) rfl (congrArg Value.bool hb)
    refine ls<|gn hF rfl rfl rfl rfl fun a hF=>?_
    refine ls<|gn hF rfl rfl rfl rfl fun a hF=>?_
    refine ls<|q1 hF rfl (e_as (v':=.bool ((decide (p1 < 1)) || (decide (16≤p1)))) (e_pickT hF rfl rfl) (by rw [hb];rfl)) fun a hF=>?_
    exact key _ _ (hF.has ⟨rfl,rfl,trivial⟩) hS
  ·
    intro hb key
    replace hF:=Fr.as hF (t:=5) rfl (congrArg Value.bool hb)
    refine ls<|gy hF rfl rfl<|q1 hF rfl (e_move hF rfl) fun a hF=>?_
    refine ls<|gy hF rfl rfl<|q1 hF rfl (e_geq hF rfl rfl) fun a hF=>?_
    refine ls<|q1 hF rfl (e_as (v':=.bool ((decide (p1 < 1)) || (decide (16≤p1)))) (e_pickF hF rfl rfl) (by rw [hb];rfl)) fun a hF=>?_
    exact key _ _ (hF.has ⟨rfl,rfl,trivial⟩) hS
  intro a w hF hS
  refine re<|?_
  rcases bdich ((decide (p1 < 1)) || (decide (16≤p1))) with hb2 | hb2
  ·
    replace hm:=ite_t hm hb2
    refine tn<|ctv hF rfl hb2<|th<|?_
    refine rg<|?_
    refine ls<|q1 hF rfl (e_asg hF rfl) fun a hF=>?_
    refine re<|?_
    refine tn<|?_
    refine wr<|tr<|?_
    obtain rfl:=Option.some.inj hm
    exact r1 hF Tryz.results17 rfl ⟨rfl,hS.keep⟩
  ·
    replace hm:=ite_f hm hb2
    refine tn<|cfv hF rfl hb2<|wk<|?_
    refine tn<|th<|?_
    replace hm:=bind_some hm
    obtain ⟨rz3,h4,hm⟩:=hm
    replace hm:=bind_some hm
    obtain ⟨x10,h11,hm⟩:=hm
    refine rg<|?_
    refine ls<|c1 hF rfl Tryz.call49 (Z1g_c (hp_le _) (Tab.mono hT (St.up hS)) h4) ⟨rfl,trivial⟩ (fun v w a hR hF=>?_)
    obtain ⟨oa5,cap6,vs7,rfl,hv8,hk⟩:=hR
    replace hS:=hS.fresh hk
    clear hk
    replace hv8:=hv8 H
    refine ls<|q1 hF rfl (e_move hF rfl) fun a hF=>?_
    refine ls<|q1 hF rfl (e_sub hF rfl rfl) fun a hF=>?_
    refine ls<|q1 hF rfl (e_iaI hF Tryz.runUnderlying92 Tryz.sizeOf9 rfl rfl h11 (Rd.oaI ((St.ld hS).rdO (.head _)) hv8 (by decide) h11)) fun a hF=>?_
    obtain ⟨c12,g13,hl14⟩:=Rows.getI hv8 h11
    obtain rfl:c12=[strv x10]:=g13
    refine ls<|q1 hF rfl (e_ld hF Tryz.isAgg9 rfl ((St.ld hS).elO (.head _) (hl14 0 _ rfl))) fun a hF=>?_
    refine ls<|q1 hF rfl (e_asg hF rfl) fun a hF=>?_
    refine re<|?_
    refine tn<|?_
    refine wr<|?_
    obtain rfl:=Option.some.inj hm
    exact r1 hF Tryz.results17 rfl ⟨rfl,hS.keep⟩
set_option maxRecDepth 100000 in
theorem Z5r_c {N:Nat} {w0:World} {H:PH} (hH:H.le w0) (hT:Tab H) {p1:Int} {r:Str} (hm:Z5r N p1=some r):Tot Tryz.prog 45 #[.int .i64 p1] w0 (fun v w'=>v=strv r∧Keep Nil w0 w'):=by
  unfold Z5r at hm
  refine fn0 (args:=[.int .i64 p1]) (F:=[(0,.int .i64 p1)]) Tryz.func45 rfl Tryz.ntmps45 rfl rfl fun a hF=>?_
  have hS:St w0 Nil [H] [] w0:=start1 hH
  refine th<|?_
  refine rg<|?_
  refine ls<|q1 hF rfl (e_asg hF rfl) fun a hF=>?_
  refine re<|?_
  refine tn<|th<|?_
  replace hm:=bind_some hm
  obtain ⟨rz2,h3,hm⟩:=hm
  refine rg<|?_
  refine ls<|q1 hF rfl (e_move hF rfl) fun a hF=>?_
  refine ls<|c1 hF rfl Tryz.call80 (itoaM_c (hp_le _) (Tab.mono hT (St.up hS)) h3) ⟨rfl,trivial⟩ (fun v w a hR hF=>?_)
  obtain ⟨rfl,hk⟩:=hR
  replace hS:=hS.pass hk
  clear hk
  refine ls<|q1 hF rfl (e_asg hF rfl) fun a hF=>?_
  refine re<|?_
  refine tn<|?_
  refine wr<|?_
  obtain rfl:=Option.some.inj hm
  exact r1 hF Tryz.results45 rfl ⟨rfl,hS.keep⟩
set_option maxRecDepth 100000 in
theorem Zz_c {N:Nat} {w0:World} {H:PH} (hH:H.le w0) (hT:Tab H) {oa2:Option Addr} {cap3:Nat} {p1:(List api_Op)} (hc4:p1.length≤cap3) (hr5:SR H oa2 p1) {r:Str} (hm:Zz N p1=some r):Tot Tryz.prog 46 #[.slice oa2 p1.length cap3] w0 (fun v w'=>v=strv r∧Keep Nil w0 w'):=by
  unfold Zz at hm
  refine fn0 (args:=[.slice oa2 p1.length cap3]) (F:=[(0,.slice oa2 p1.length cap3)]) Tryz.func46 rfl Tryz.ntmps46 rfl rfl fun a hF=>?_
  have hS:St w0 Nil [H] [] w0:=start1 hH
  refine th<|?_
  refine rg<|?_
  refine ls<|q1 hF rfl (e_asg hF rfl) fun a hF=>?_
  refine re<|?_
  refine tn<|th<|th<|?_
  refine rg<|?_
  refine ls<|q1 hF rfl (e_move hF rfl) fun a hF=>?_
  refine ls<|q1 hF rfl (e_lenL (α:=api_Op) (xs:=p1) hF Tryz.runUnderlying54 rfl) fun a hF=>?_
  refine ls<|q1 hF rfl (e_eql hF rfl rfl) fun a hF=>?_
  refine re<|?_
  rcases bdich (decide ((p1.length:Int)=0)) with hb6 | hb6
  ·
    replace hm:=itp_t hm hb6
    refine tn<|ctv hF rfl hb6<|th<|?_
    refine rg<|?_
    refine ls<|q1 hF rfl (e_asg hF rfl) fun a hF=>?_
    refine re<|?_
    refine tn<|?_
    refine wr<|tr<|?_
    obtain rfl:=Option.some.inj hm
    exact r1 hF Tryz.results46 rfl ⟨rfl,hS.keep⟩
  ·
    replace hm:=itp_f hm hb6
    refine tn<|cfv hF rfl hb6<|wk<|?_
    refine tn<|th<|?_
    refine rg<|?_
    refine ls<|q1 hF rfl (e_asg hF rfl) fun a hF=>?_
    refine re<|?_
    refine tn<|th<|th<|?_
    refine rg<|?_
    refine ls<|q1 hF rfl (e_move hF rfl) fun a hF=>?_
    refine ls<|q1 hF rfl (e_lenL (α:=api_Op) (xs:=p1) hF Tryz.runUnderlying54 rfl) fun a hF=>?_
    refine ls<|q1 hF rfl (e_move hF rfl) fun a hF=>?_
    refine re<|?_
    refine tn<|midK (fun a w=>∃ (vA1:(List Str)) (oaA2:Option Addr) (capA3:Nat) (vsA4:List Value),Z10 vA1=some r∧Fr 47 [(3,.slice oaA2 vA1.length capA3)] a∧St w0 Nil [H] [sla 9 1 oaA2 vA1.length capA3 vsA4] w∧Rows H vsA4 vA1) ?_ ?_
    ·
      replace hS:=St.nilS hS 9 1
      refine wb<|lp (α:=Nat×(List Str)×Int) (fun (gh:Nat×(List Str)×Int) a w=>match gh with | (nn2,vB1,vB7)=>∃ (oaB2:Option Addr) (capB3:Nat) (vsB4:List Value),(Z12 N Z10 p1) nn2 vB1 vB7=some r∧Fr 47 [(3,.slice oaB2 vB1.length capB3),(9,.slice oa2 p1.length cap3),(10,.int .i64 (p1.length:Int)),(11,.int .i64 vB7)] a∧St w0 Nil [H] [sla 9 1 oaB2 vB1.length capB3 vsB4] w∧Rows H vsB4 vB1) (fun gh=>gh.1) (N,[],0) ⟨none,0,[],hm,hF.has ⟨rfl,rfl,rfl,rfl,trivial⟩,hS,.nil⟩ ?_
      clear hm hF hS
      rintro ⟨nn2,vB1,vB7⟩ a w ⟨oaB2,capB3,vsB4,hm,hF,hS,hvB5⟩
      obtain _ | nn2:=nn2
      · simp [Z12] at hm
      rw [Z12] at hm
      refine th<|?_
      refine rg<|?_
      refine ls<|q1 hF rfl (e_lss hF rfl rfl) fun a hF=>?_
      refine re<|?_
      rcases bdich (decide (vB7 < (p1.length:Int))) with hb7 | hb7
      ·
        replace hm:=itp_t hm hb7
        refine tn<|th<|ctv hF rfl hb7<|wk<|?_
        refine tn<|th<|midK (fun a w=>∃ (vC1:(List Str)) (oaC2:Option Addr) (capC3:Nat) (vsC4:List Value),(Z11 (Z12 N Z10 p1 nn2) vB7) vC1=some r∧Fr 47 [(3,.slice oaC2 vC1.length capC3),(9,.slice oa2 p1.length cap3),(10,.int .i64 (p1.length:Int)),(11,.int .i64 vB7)] a∧St w0 Nil [H] [sla 9 1 oaC2 vC1.length capC3 vsC4] w∧Rows H vsC4 vC1) ?_ ?_
        ·
          refine wb<|th<|?_
          replace hm:=bind_some hm
          obtain ⟨xz8,h9,hm⟩:=hm
          obtain ⟨c10,g11,hl12⟩:=SR.get hr5 h9
          obtain rfl:=api_Op_open g11
          refine rg<|?_
          refine ls<|q1 hF rfl (e_iaI hF Tryz.runUnderlying54 Tryz.sizeOf83 rfl rfl h9 (SR.oaI hr5 (by decide) h9)) fun a hF=>?_
          refine ls<|q1 hF rfl (e_ldA hF Tryz.isAgg83 Tryz.sizeOf83 rfl rfl (fun j v hj=>PH.le.cell (Lds.le (St.ld hS)) (hl12 j v hj))) fun a hF=>?_
          refine ls<|a_alloc (cs:=[.int .i64 0,.int .i64 0].toArray) hF rfl hS Tryz.zeroValue83 rfl fun b13 w a hS hF=>?_
          refine ls<|s_blkA hF hS Tryz.sizeOf83 rfl rfl rfl rfl (one_cells rfl) .head fun w hS=>?_
          refine re<|?_
          refine tn<|th<|?_
          refine rg<|?_
          refine ls<|q1 hF rfl (e_fa hF fa83_0 rfl) fun a hF=>?_
          refine ls<|q1 hF rfl (e_ld hF Tryz.isAgg3 rfl ((St.ld hS).cellB (.head _) rfl)) fun a hF=>?_
          refine re<|?_
          refine tn<|wb<|th<|?_
          refine rg<|?_
          refine ls<|q1 hF rfl (e_eql hF rfl rfl) fun a hF=>?_
          refine ls<|q1 hF rfl (e_asg hF rfl) fun a hF=>?_
          refine re<|?_
          rcases bdich (decide (xz8.Kind=1)) with hb14 | hb14
          ·
            replace hm:=itp_t hm hb14
            refine tn<|ctv hF rfl hb14<|?_
            replace hm:=bind_some hm
            obtain ⟨r15,h16,hm⟩:=hm
            replace hm:=bind_some hm
            obtain ⟨s17,h18,hm⟩:=hm
            replace hm:=bind_some hm
            obtain ⟨l22,h23,hm⟩:=hm
            refine rg<|?_
            refine ls<|q1 hF rfl (e_move hF rfl) fun a hF=>?_
            refine ls<|q1 hF rfl (e_fa hF fa83_1 rfl) fun a hF=>?_
            refine ls<|q1 hF rfl (e_ld hF Tryz.isAgg3 rfl ((St.ld hS).cellB (.head _) rfl)) fun a hF=>?_
            refine ls<|c1 hF rfl Tryz.call45 (Z5r_c (hp_le _) (Tab.mono hT (St.up hS)) h16) ⟨rfl,trivial⟩ (fun v w a hR hF=>?_)
            obtain ⟨rfl,hk⟩:=hR
            replace hS:=hS.pass hk
            clear hk
            refine ls<|q1 hF rfl (e_catU hF rfl rfl h18) fun a hF=>?_
            refine ls<|a_bsl (e:=9) (sz:=1) [strv s17] hF rfl hS rfl rfl rfl (fun w=>by kernel_rfl) fun b20 w a hS hF=>?_
            have hv19:Rows (α:=Str) H [strv s17] ([s17]:List Str):=(.cons (c:=[strv s17]) rfl .nil)
            refine ls<|m_app (α:=Str) (xs:=vB1) (ys:=([s17]:List Str)) hF rfl hS Tryz.underlying92 info9 rfl (by decide) rfl rfl rfl (.tail _ (.tail _ (.head _))) hvB5 (hS.rdO (.head _)) hv19 h23 fun oa24 cap25 vs26 w a hv27 hU hF=>?_
            replace hS:=hU _ (.tail (.tail .head))
            clear hU
            replace hS:=hS.drop .head
            refine ls<|q1 hF rfl (e_asg hF rfl) fun a hF=>?_
            refine re<|?_
            refine bn<|bn<|tn<|?_
            replace hS:=hS.pickL (.cons (.tail .head) .nil)
            exact ⟨l22,oa24,cap25,vs26,hm,hF.has ⟨rfl,rfl,rfl,rfl,trivial⟩,hS,hv27⟩
          ·
            replace hm:=itp_f hm hb14
            refine tn<|cfv hF rfl hb14<|th<|?_
            refine rg<|?_
            refine ls<|q1 hF rfl (e_eql hF rfl rfl) fun a hF=>?_
            refine ls<|q1 hF rfl (e_asg hF rfl) fun a hF=>?_
            refine re<|?_
            rcases bdich (decide (xz8.Kind=2)) with hb28 | hb28
            ·
              replace hm:=itp_t hm hb28
              refine tn<|ctv hF rfl hb28<|?_
              replace hm:=bind_some hm
              obtain ⟨r29,h30,hm⟩:=hm
              replace hm:=bind_some hm
              obtain ⟨s31,h32,hm⟩:=hm
              replace hm:=bind_some hm
              obtain ⟨l36,h37,hm⟩:=hm
              refine rg<|?_
              refine ls<|q1 hF rfl (e_move hF rfl) fun a hF=>?_
              refine ls<|q1 hF rfl (e_fa hF fa83_1 rfl) fun a hF=>?_
              refine ls<|q1 hF rfl (e_ld hF Tryz.isAgg3 rfl ((St.ld hS).cellB (.head _) rfl)) fun a hF=>?_
              refine ls<|c1 hF rfl Tryz.call45 (Z5r_c (hp_le _) (Tab.mono hT (St.up hS)) h30) ⟨rfl,trivial⟩ (fun v w a hR hF=>?_)
              obtain ⟨rfl,hk⟩:=hR
              replace hS:=hS.pass hk
              clear hk
              refine ls<|q1 hF rfl (e_catU hF rfl rfl h32) fun a hF=>?_
              refine ls<|a_bsl (e:=9) (sz:=1) [strv s31] hF rfl hS rfl rfl rfl (fun w=>by kernel_rfl) fun b34 w a hS hF=>?_
              have hv33:Rows (α:=Str) H [strv s31] ([s31]:List Str):=(.cons (c:=[strv s31]) rfl .nil)
              refine ls<|m_app (α:=Str) (xs:=vB1) (ys:=([s31]:List Str)) hF rfl hS Tryz.underlying92 info9 rfl (by decide) rfl rfl rfl (.tail _ (.tail _ (.head _))) hvB5 (hS.rdO (.head _)) hv33 h37 fun oa38 cap39 vs40 w a hv41 hU hF=>?_
              replace hS:=hU _ (.tail (.tail .head))
              clear hU
              replace hS:=hS.drop .head
              refine ls<|q1 hF rfl (e_asg hF rfl) fun a hF=>?_
              refine re<|?_
              refine bn<|bn<|tn<|?_
              replace hS:=hS.pickL (.cons (.tail .head) .nil)
              exact ⟨l36,oa38,cap39,vs40,hm,hF.has ⟨rfl,rfl,rfl,rfl,trivial⟩,hS,hv41⟩
            ·
              replace hm:=itp_f hm hb28
              refine tn<|cfv hF rfl hb28<|?_
              replace hm:=bind_some hm
              obtain ⟨r42,h43,hm⟩:=hm
              replace hm:=bind_some hm
              obtain ⟨s44,h45,hm⟩:=hm
              replace hm:=bind_some hm
              obtain ⟨l49,h50,hm⟩:=hm
              refine rg<|?_
              refine ls<|q1 hF rfl (e_move hF rfl) fun a hF=>?_
              refine ls<|q1 hF rfl (e_fa hF fa83_0 rfl) fun a hF=>?_
              refine ls<|q1 hF rfl (e_ld hF Tryz.isAgg3 rfl ((St.ld hS).cellB (.head _) rfl)) fun a hF=>?_
              refine ls<|c1 hF rfl Tryz.call45 (Z5r_c (hp_le _) (Tab.mono hT (St.up hS)) h43) ⟨rfl,trivial⟩ (fun v w a hR hF=>?_)
              obtain ⟨rfl,hk⟩:=hR
              replace hS:=hS.pass hk
              clear hk
              refine ls<|q1 hF rfl (e_catU hF rfl rfl h45) fun a hF=>?_
              refine ls<|a_bsl (e:=9) (sz:=1) [strv s44] hF rfl hS rfl rfl rfl (fun w=>by kernel_rfl) fun b47 w a hS hF=>?_
              have hv46:Rows (α:=Str) H [strv s44] ([s44]:List Str):=(.cons (c:=[strv s44]) rfl .nil)
              refine ls<|m_app (α:=Str) (xs:=vB1) (ys:=([s44]:List Str)) hF rfl hS Tryz.underlying92 info9 rfl (by decide) rfl rfl rfl (.tail _ (.tail _ (.head _))) hvB5 (hS.rdO (.head _)) hv46 h50 fun oa51 cap52 vs53 w a hv54 hU hF=>?_
              replace hS:=hU _ (.tail (.tail .head))
              clear hU
              replace hS:=hS.drop .head
              refine ls<|q1 hF rfl (e_asg hF rfl) fun a hF=>?_
              refine re<|?_
              refine bn<|bn<|tn<|?_
              replace hS:=hS.pickL (.cons (.tail .head) .nil)
              exact ⟨l49,oa51,cap52,vs53,hm,hF.has ⟨rfl,rfl,rfl,rfl,trivial⟩,hS,hv54⟩
        clear hm hF hS
        rintro a w ⟨vC1,oaC2,capC3,vsC4,hm,hF,hS,hvC5⟩
        unfold Z11 at hm
        refine rg<|?_
        refine ls<|q1 hF rfl (e_add hF rfl rfl) fun a hF=>?_
        refine ls<|q1 hF rfl (e_move hF rfl) fun a hF=>?_
        refine re<|?_
        refine tn<|?_
        exact ⟨(nn2,vC1,(IntKind.i64.wrap (vB7+1))),⟨oaC2,capC3,vsC4,hm,hF.has ⟨rfl,rfl,rfl,rfl,trivial⟩,hS,hvC5⟩,Nat.lt_succ_self _⟩
      ·
        replace hm:=itp_f hm hb7
        refine tn<|th<|cfv hF rfl hb7<|?_
        refine we<|tx<|tx<|bx<|?_
        refine tn<|?_
        exact ⟨vB1,oaB2,capB3,vsB4,hm,hF.has ⟨rfl,trivial⟩,hS,hvB5⟩
    clear hm hF hS
    rintro a w ⟨vA1,oaA2,capA3,vsA4,hm,hF,hS,hvA5⟩
    unfold Z10 at hm
    refine th<|?_
    replace hm:=bind_some hm
    obtain ⟨r55,h56,hm⟩:=hm
    replace hm:=bind_some hm
    obtain ⟨s57,h58,hm⟩:=hm
    replace hm:=bind_some hm
    obtain ⟨s59,h60,hm⟩:=hm
    refine rg<|?_
    refine ls<|q1 hF rfl (e_move hF rfl) fun a hF=>?_
    refine ls<|c1 hF rfl Tryz.call81 (joinM_c (hp_le _) (St.capO hS (.head _)) (St.srO hS (.head _) hvA5) h56) ⟨rfl,rfl,trivial⟩ (fun v w a hR hF=>?_)
    obtain ⟨rfl,hk⟩:=hR
    replace hS:=hS.pass hk
    clear hk
    refine ls<|q1 hF rfl (e_catU hF rfl rfl h58) fun a hF=>?_
    refine ls<|q1 hF rfl (e_catU hF rfl rfl h60) fun a hF=>?_
    refine ls<|q1 hF rfl (e_asg hF rfl) fun a hF=>?_
    refine re<|?_
    refine tn<|?_
    refine wr<|?_
    obtain rfl:=Option.some.inj hm
    exact r1 hF Tryz.results46 rfl ⟨rfl,hS.keep⟩
set_option maxRecDepth 100000 in
theorem Zd_c {N:Nat} {w0:World} {H:PH} (hH:H.le w0) (hT:Tab H) {cs2:List Value} {p1:api_Code} (g3:Enc.rep H cs2 p1) {r:Str} (hm:Zd N p1=some r):Tot Tryz.prog 15 #[.agg cs2.toArray] w0 (fun v w'=>v=strv r∧Keep Nil w0 w'):=by
  unfold Zd at hm
  refine fn0 (args:=[.agg cs2.toArray]) (F:=[(0,.agg cs2.toArray)]) Tryz.func15 rfl Tryz.ntmps15 rfl rfl fun a hF=>?_
  have hS:St w0 Nil [H] [] w0:=start1 hH
  obtain ⟨oa4,cap5,rfl,hc6,hr7⟩:=api_Code_open g3
  refine th<|?_
  refine rg<|?_
  refine ls<|a_box (cs:=[.int .i64 p1.Regs,.int .i64 p1.Counts,.slice oa4 p1.L.length cap5].toArray) hF rfl hS rfl rfl fun b8 w a hS hF=>?_
  refine ls<|q1 hF rfl (e_asg hF rfl) fun a hF=>?_
  refine re<|?_
  refine tn<|th<|?_
  refine rg<|?_
  refine ls<|a_alloc (cs:=[.pointer none,.slice none 0 0].toArray) hF rfl hS Tryz.zeroValue58 rfl fun b9 w a hS hF=>?_
  replace hS:=hS.bld0 (e:=5)
  refine re<|?_
  refine tn<|th<|th<|?_
  refine rg<|?_
  refine ls<|q1 hF rfl (e_fa hF fa26_2 rfl) fun a hF=>?_
  refine ls<|q1 hF rfl (e_ld hF Tryz.isAgg24 rfl ((St.ld hS).cellB (.tail _ (.head _)) rfl)) fun a hF=>?_
  refine ls<|q1 hF rfl (e_lenL (α:=api_Instr) (xs:=p1.L) hF Tryz.runUnderlying24 rfl) fun a hF=>?_
  refine ls<|q1 hF rfl (e_move hF rfl) fun a hF=>?_
  refine re<|?_
  refine tn<|midK (fun a w=>∃ (vA1:Str) (oaA2:Option Addr) (capA3:Nat) (vpA4:Value),Ze vA1=some r∧Fr 48 [(3,.pointer (some ⟨b9,0,none⟩))] a∧St w0 Nil [H] [bldA 58 5 b9 vpA4 oaA2 capA3 vA1] w∧BP b9 vpA4) ?_ ?_
  ·
    replace hS:=hS.pickL (.cons .head .nil)
    refine wb<|lp (α:=Nat×Str×Int) (fun (gh:Nat×Str×Int) a w=>match gh with | (nn2,vB1,vB6)=>∃ (oaB2:Option Addr) (capB3:Nat) (vpB4:Value),(Zf N Ze p1) nn2 vB1 vB6=some r∧Fr 48 [(3,.pointer (some ⟨b9,0,none⟩)),(7,.slice oa4 p1.L.length cap5),(8,.int .i64 (p1.L.length:Int)),(9,.int .i64 vB6)] a∧St w0 Nil [H] [bldA 58 5 b9 vpB4 oaB2 capB3 vB1] w∧BP b9 vpB4) (fun gh=>gh.1) (N,[],0) ⟨none,0,(.pointer none),hm,hF.has ⟨rfl,rfl,rfl,rfl,trivial⟩,hS,(.inl rfl)⟩ ?_
    clear hm hF hS
    rintro ⟨nn2,vB1,vB6⟩ a w ⟨oaB2,capB3,vpB4,hm,hF,hS,hbB5⟩
    obtain _ | nn2:=nn2
    · simp [Zf] at hm
    rw [Zf] at hm
    refine th<|?_
    refine rg<|?_
    refine ls<|q1 hF rfl (e_lss hF rfl rfl) fun a hF=>?_
    refine re<|?_
    rcases bdich (decide (vB6 < (p1.L.length:Int))) with hb10 | hb10
    ·
      replace hm:=itp_t hm hb10
      refine tn<|th<|ctv hF rfl hb10<|wk<|?_
      refine tn<|th<|wb<|th<|?_
      replace hm:=bind_some hm
      obtain ⟨x11,h12,hm⟩:=hm
      obtain ⟨c13,g14,hl15⟩:=SR.get hr7 h12
      obtain ⟨oa16,cap17,oa20,cap21,rfl,hc18,hr19,hc22,hr23⟩:=api_Instr_open g14
      refine rg<|?_
      refine ls<|q1 hF rfl (e_move hF rfl) fun a hF=>?_
      refine ls<|q1 hF rfl (e_iaI hF Tryz.runUnderlying24 Tryz.sizeOf85 rfl rfl h12 (SR.oaI hr7 (by decide) h12)) fun a hF=>?_
      refine ls<|q1 hF rfl (e_ldA hF Tryz.isAgg85 Tryz.sizeOf85 rfl rfl (fun j v hj=>PH.le.cell (Lds.le (St.ld hS)) (hl15 j v hj))) fun a hF=>?_
      refine ls<|a_alloc (cs:=[.int .i64 0,.int .i64 0,.int .i64 0,.slice none 0 0,.slice none 0 0,.int .i64 0].toArray) hF rfl hS Tryz.zeroValue85 rfl fun b24 w a hS hF=>?_
      refine ls<|q1 hF rfl (e_asg hF rfl) fun a hF=>?_
      refine ls<|s_blkA hF hS Tryz.sizeOf85 rfl rfl rfl rfl (one_cells rfl) .head fun w hS=>?_
      refine re<|?_
      refine tn<|?_
      replace hm:=bind_some hm
      obtain ⟨r25,h26,hm⟩:=hm
      replace hm:=bind_some hm
      obtain ⟨s27,h28,hm⟩:=hm
      replace hm:=bind_some hm
      obtain ⟨r29,h30,hm⟩:=hm
      replace hm:=bind_some hm
      obtain ⟨s31,h32,hm⟩:=hm
      replace hm:=bind_some hm
      obtain ⟨s33,h34,hm⟩:=hm
      replace hm:=bind_some hm
      obtain ⟨r35,h36,hm⟩:=hm
      replace hm:=bind_some hm
      obtain ⟨s37,h38,hm⟩:=hm
      replace hm:=bind_some hm
      obtain ⟨s39,h40,hm⟩:=hm
      replace hm:=bind_some hm
      obtain ⟨r41,h42,hm⟩:=hm
      replace hm:=bind_some hm
      obtain ⟨s43,h44,hm⟩:=hm
      replace hm:=bind_some hm
      obtain ⟨s45,h46,hm⟩:=hm
      replace hm:=bind_some hm
      obtain ⟨r47,h48,hm⟩:=hm
      replace hm:=bind_some hm
      obtain ⟨s49,h50,hm⟩:=hm
      replace hm:=bind_some hm
      obtain ⟨r51,h52,hm⟩:=hm
      replace hm:=bind_some hm
      obtain ⟨s53,h54,hm⟩:=hm
      replace hm:=bind_some hm
      obtain ⟨r55,h56,hm⟩:=hm
      replace hm:=bind_some hm
      obtain ⟨s57,h58,hm⟩:=hm
      replace hm:=bind_some hm
      obtain ⟨s59,h60,hm⟩:=hm
      replace hm:=bind_some hm
      obtain ⟨s61,h62,hm⟩:=hm
      refine rdL (sub_cons (.head _) sub_nil) 32 hS wide fun w hS=>?_
      refine d1 (i:=0) rfl (by kernel_rfl) (by kernel_rfl) (St.ldsX hS (fun _ _ h=>h) (sub_cons (.head _) sub_nil)) hF rfl (fun _ _ _ h=>h) (fun w hl=>(e_move hF rfl)) fun a hF=>?_
      refine d1 (i:=3) rfl (by kernel_rfl) (by kernel_rfl) (St.ldsX hS (fun _ _ h=>h) (sub_cons (.head _) sub_nil)) hF rfl (fun _ _ _ h=>h) (fun w hl=>(e_fa hF fa85_0 rfl)) fun a hF=>?_
      refine d1 (i:=4) rfl (by kernel_rfl) (by kernel_rfl) (St.ldsX hS (fun _ _ h=>h) (sub_cons (.head _) sub_nil)) hF rfl (fun _ _ _ h=>h) (fun w hl=>(e_ld hF Tryz.isAgg3 rfl (hl.cellB (.head _) rfl))) fun a hF=>?_
      refine d1 (i:=8) rfl (by kernel_rfl) (by kernel_rfl) (St.ldsX hS (fun _ _ h=>h) (sub_cons (.head _) sub_nil)) hF rfl (fun _ _ _ h=>h) (fun w hl=>(e_fa hF fa85_1 rfl)) fun a hF=>?_
      refine d1 (i:=9) rfl (by kernel_rfl) (by kernel_rfl) (St.ldsX hS (fun _ _ h=>h) (sub_cons (.head _) sub_nil)) hF rfl (fun _ _ _ h=>h) (fun w hl=>(e_ld hF Tryz.isAgg3 rfl (hl.cellB (.head _) rfl))) fun a hF=>?_
      refine d1 (i:=13) rfl (by kernel_rfl) (by kernel_rfl) (St.ldsX hS (fun _ _ h=>h) (sub_cons (.head _) sub_nil)) hF rfl (fun _ _ _ h=>h) (fun w hl=>(e_fa hF fa85_2 rfl)) fun a hF=>?_
      refine d1 (i:=14) rfl (by kernel_rfl) (by kernel_rfl) (St.ldsX hS (fun _ _ h=>h) (sub_cons (.head _) sub_nil)) hF rfl (fun _ _ _ h=>h) (fun w hl=>(e_ld hF Tryz.isAgg3 rfl (hl.cellB (.head _) rfl))) fun a hF=>?_
      refine d1 (i:=18) rfl (by kernel_rfl) (by kernel_rfl) (St.ldsX hS (fun _ _ h=>h) (sub_cons (.head _) sub_nil)) hF rfl (fun _ _ _ h=>h) (fun w hl=>(e_fa hF fa85_5 rfl)) fun a hF=>?_
      refine d1 (i:=19) rfl (by kernel_rfl) (by kernel_rfl) (St.ldsX hS (fun _ _ h=>h) (sub_cons (.head _) sub_nil)) hF rfl (fun _ _ _ h=>h) (fun w hl=>(e_ld hF Tryz.isAgg3 rfl (hl.cellB (.head _) rfl))) fun a hF=>?_
      refine d1 (i:=22) rfl (by kernel_rfl) (by kernel_rfl) (St.ldsX hS (fun _ _ h=>h) (sub_cons (.head _) sub_nil)) hF rfl (fun _ _ _ h=>h) (fun w hl=>(e_fa hF fa85_3 rfl)) fun a hF=>?_
      refine d1 (i:=23) rfl (by kernel_rfl) (by kernel_rfl) (St.ldsX hS (fun _ _ h=>h) (sub_cons (.head _) sub_nil)) hF rfl (fun _ _ _ h=>h) (fun w hl=>(e_ld hF Tryz.isAgg54 rfl (hl.cellB (.head _) rfl))) fun a hF=>?_
      refine d1 (i:=26) rfl (by kernel_rfl) (by kernel_rfl) (St.ldsX hS (fun _ _ h=>h) (sub_cons (.head _) sub_nil)) hF rfl (fun _ _ _ h=>h) (fun w hl=>(e_fa hF fa85_4 rfl)) fun a hF=>?_
      refine d1 (i:=27) rfl (by kernel_rfl) (by kernel_rfl) (St.ldsX hS (fun _ _ h=>h) (sub_cons (.head _) sub_nil)) hF rfl (fun _ _ _ h=>h) (fun w hl=>(e_ld hF Tryz.isAgg54 rfl (hl.cellB (.head _) rfl))) fun a hF=>?_
      refine da1 (i:=1) (by kernel_rfl) ?_
      refine di (i:=1) rfl<|c1 hF rfl Tryz.call45 (Z5r_c (hp_le _) (Tab.mono hT (St.up hS)) h26) ⟨rfl,trivial⟩ (fun v w a hR hF=>?_)
      obtain ⟨rfl,hk⟩:=hR
      replace hS:=hS.pass hk
      clear hk
      refine ⟨fun _=>(St.ldsX hS (fun _ _ h=>h) (sub_cons (.head _) sub_nil)),?_⟩
      refine d1 (i:=2) rfl (by kernel_rfl) (by kernel_rfl) (St.ldsX hS (fun _ _ h=>h) (sub_cons (.head _) sub_nil)) hF rfl (fun _ _ _ h=>h) (fun w hl=>(e_catU hF rfl rfl h28)) fun a hF=>?_
      refine da1 (i:=5) (by kernel_rfl) ?_
      refine di (i:=5) rfl<|c1 hF rfl Tryz.call17 (Zg_c (hp_le _) (Tab.mono hT (St.up hS)) h30) ⟨rfl,trivial⟩ (fun v w a hR hF=>?_)
      obtain ⟨rfl,hk⟩:=hR
      replace hS:=hS.pass hk
      clear hk
      refine ⟨fun _=>(St.ldsX hS (fun _ _ h=>h) (sub_cons (.head _) sub_nil)),?_⟩
      refine d1 (i:=6) rfl (by kernel_rfl) (by kernel_rfl) (St.ldsX hS (fun _ _ h=>h) (sub_cons (.head _) sub_nil)) hF rfl (fun _ _ _ h=>h) (fun w hl=>(e_catU hF rfl rfl h32)) fun a hF=>?_
      refine d1 (i:=7) rfl (by kernel_rfl) (by kernel_rfl) (St.ldsX hS (fun _ _ h=>h) (sub_cons (.head _) sub_nil)) hF rfl (fun _ _ _ h=>h) (fun w hl=>(e_catU hF rfl rfl h34)) fun a hF=>?_
      refine da1 (i:=10) (by kernel_rfl) ?_
      refine di (i:=10) rfl<|c1 hF rfl Tryz.call45 (Z5r_c (hp_le _) (Tab.mono hT (St.up hS)) h36) ⟨rfl,trivial⟩ (fun v w a hR hF=>?_)
      obtain ⟨rfl,hk⟩:=hR
      replace hS:=hS.pass hk
      clear hk
      refine ⟨fun _=>(St.ldsX hS (fun _ _ h=>h) (sub_cons (.head _) sub_nil)),?_⟩
      refine d1 (i:=11) rfl (by kernel_rfl) (by kernel_rfl) (St.ldsX hS (fun _ _ h=>h) (sub_cons (.head _) sub_nil)) hF rfl (fun _ _ _ h=>h) (fun w hl=>(e_catU hF rfl rfl h38)) fun a hF=>?_
      refine d1 (i:=12) rfl (by kernel_rfl) (by kernel_rfl) (St.ldsX hS (fun _ _ h=>h) (sub_cons (.head _) sub_nil)) hF rfl (fun _ _ _ h=>h) (fun w hl=>(e_catU hF rfl rfl h40)) fun a hF=>?_
      refine da1 (i:=15) (by kernel_rfl) ?_
      refine di (i:=15) rfl<|c1 hF rfl Tryz.call45 (Z5r_c (hp_le _) (Tab.mono hT (St.up hS)) h42) ⟨rfl,trivial⟩ (fun v w a hR hF=>?_)
      obtain ⟨rfl,hk⟩:=hR
      replace hS:=hS.pass hk
      clear hk
      refine ⟨fun _=>(St.ldsX hS (fun _ _ h=>h) (sub_cons (.head _) sub_nil)),?_⟩
      refine d1 (i:=16) rfl (by kernel_rfl) (by kernel_rfl) (St.ldsX hS (fun _ _ h=>h) (sub_cons (.head _) sub_nil)) hF rfl (fun _ _ _ h=>h) (fun w hl=>(e_catU hF rfl rfl h44)) fun a hF=>?_
      refine d1 (i:=17) rfl (by kernel_rfl) (by kernel_rfl) (St.ldsX hS (fun _ _ h=>h) (sub_cons (.head _) sub_nil)) hF rfl (fun _ _ _ h=>h) (fun w hl=>(e_catU hF rfl rfl h46)) fun a hF=>?_
      refine da1 (i:=20) (by kernel_rfl) ?_
      refine di (i:=20) rfl<|c1 hF rfl Tryz.call45 (Z5r_c (hp_le _) (Tab.mono hT (St.up hS)) h48) ⟨rfl,trivial⟩ (fun v w a hR hF=>?_)
      obtain ⟨rfl,hk⟩:=hR
      replace hS:=hS.pass hk
      clear hk
      refine ⟨fun _=>(St.ldsX hS (fun _ _ h=>h) (sub_cons (.head _) sub_nil)),?_⟩
      refine d1 (i:=21) rfl (by kernel_rfl) (by kernel_rfl) (St.ldsX hS (fun _ _ h=>h) (sub_cons (.head _) sub_nil)) hF rfl (fun _ _ _ h=>h) (fun w hl=>(e_catU hF rfl rfl h50)) fun a hF=>?_
      refine da1 (i:=24) (by kernel_rfl) ?_
      refine di (i:=24) rfl<|c1 hF rfl Tryz.call46 (Zz_c (hp_le _) (Tab.mono hT (St.up hS)) hc18 (St.srH hS hr19) h52) ⟨rfl,trivial⟩ (fun v w a hR hF=>?_)
      obtain ⟨rfl,hk⟩:=hR
      replace hS:=hS.pass hk
      clear hk
      refine ⟨fun _=>(St.ldsX hS (fun _ _ h=>h) (sub_cons (.head _) sub_nil)),?_⟩
      refine d1 (i:=25) rfl (by kernel_rfl) (by kernel_rfl) (St.ldsX hS (fun _ _ h=>h) (sub_cons (.head _) sub_nil)) hF rfl (fun _ _ _ h=>h) (fun w hl=>(e_catU hF rfl rfl h54)) fun a hF=>?_
      refine da1 (i:=28) (by kernel_rfl) ?_
      refine di (i:=28) rfl<|c1 hF rfl Tryz.call46 (Zz_c (hp_le _) (Tab.mono hT (St.up hS)) hc22 (St.srH hS hr23) h56) ⟨rfl,trivial⟩ (fun v w a hR hF=>?_)
      obtain ⟨rfl,hk⟩:=hR
      replace hS:=hS.pass hk
      clear hk
      refine ⟨fun _=>(St.ldsX hS (fun _ _ h=>h) (sub_cons (.head _) sub_nil)),?_⟩
      refine d1 (i:=29) rfl (by kernel_rfl) (by kernel_rfl) (St.ldsX hS (fun _ _ h=>h) (sub_cons (.head _) sub_nil)) hF rfl (fun _ _ _ h=>h) (fun w hl=>(e_catU hF rfl rfl h58)) fun a hF=>?_
      refine d1 (i:=30) rfl (by kernel_rfl) (by kernel_rfl) (St.ldsX hS (fun _ _ h=>h) (sub_cons (.head _) sub_nil)) hF rfl (fun _ _ _ h=>h) (fun w hl=>(e_catU hF rfl rfl h60)) fun a hF=>?_
      refine da1 (i:=31) (by kernel_rfl) ?_
      replace hS:=hS.pickL (.cons (.tail .head) (.cons .head .nil))
      refine di (i:=31) rfl<|c1 hF rfl Tryz.call44 (bws_c hS hbB5 h62) ⟨rfl,rfl,trivial⟩ (fun v w a hR hF=>?_)
      obtain ⟨rfl,oa63,cap64,hS⟩:=hR
      refine ⟨fun _=>(St.ldsX hS (fun _ _ h=>h) (fun _ h=>(.tail _ h))),?_⟩
      refine de (by kernel_rfl)<|?_
      refine bn<|tn<|?_
      refine rg<|?_
      refine ls<|q1 hF rfl (e_add hF rfl rfl) fun a hF=>?_
      refine ls<|q1 hF rfl (e_move hF rfl) fun a hF=>?_
      refine re<|?_
      refine tn<|?_
      replace hS:=hS.pickL (.cons .head .nil)
      exact ⟨(nn2,s61,(IntKind.i64.wrap (vB6+1))),⟨oa63,cap64,(.pointer (some ⟨b9,0,none⟩)),hm,hF.has ⟨rfl,rfl,rfl,rfl,trivial⟩,hS,(.inr rfl)⟩,Nat.lt_succ_self _⟩
    ·
      replace hm:=itp_f hm hb10
      refine tn<|th<|cfv hF rfl hb10<|?_
      refine we<|tx<|tx<|bx<|?_
      refine tn<|?_
      exact ⟨vB1,oaB2,capB3,vpB4,hm,hF.has ⟨rfl,trivial⟩,hS,hbB5⟩
  clear hm hF hS
  rintro a w ⟨vA1,oaA2,capA3,vpA4,hm,hF,hS,hbA5⟩
  unfold Ze at hm
  refine th<|?_
  refine rg<|?_
  refine ls<|c1 hF rfl Tryz.call26 (bstr_c hS hbA5) ⟨rfl,trivial⟩ (fun v w a hR hF=>?_)
  obtain ⟨rfl,hk⟩:=hR
  replace hS:=(start1 hH).pass hk
  clear hk
  refine ls<|q1 hF rfl (e_asg hF rfl) fun a hF=>?_
  refine re<|?_
  refine tn<|?_
  refine wr<|?_
  obtain rfl:=Option.some.inj hm
  exact r1 hF Tryz.results15 rfl ⟨rfl,hS.keep⟩
end Go.LM.BINZ
