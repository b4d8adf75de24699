/- Walks, lifted by program. No condition beyond the theorems' own premises. -/
import Derived.Test.YtbblmeecfimnkaaGreatDoorBMQ6
namespace Go.LM.BINZ
open Go Go.LL Go.MD Go.LM Go.Proofs Go.MD.BINZ
set_option maxRecDepth 100000
set_option maxRecDepth 100000 in
theorem Z3v_c {N:Nat} {w0:World} {H:PH} (hH:H.le w0) {b2:Nat} {p1:leadlineref10_In} (hO:(sepA [blk b2 (.cells [strv p1.S,.int .i64 p1.At,.bool p1.Bad].toArray 74 (0,0))]).ok (hp w0)) (hD:∀ b,(sepA [blk b2 (.cells [strv p1.S,.int .i64 p1.At,.bool p1.Bad].toArray 74 (0,0))]).fp b→H b=none) {r:(Int×leadlineref10_In)} (hm:Z3v N p1=some r):Tot Tryz.prog 35 #[.pointer (some ⟨b2,0,none⟩)] w0 (fun v w'=>v=.int .i64 r.1∧Mut w0 (sepA [blk b2 (.cells [strv p1.S,.int .i64 p1.At,.bool p1.Bad].toArray 74 (0,0))]) (sepA [blk b2 (.cells [strv r.2.S,.int .i64 r.2.At,.bool r.2.Bad].toArray 74 (0,0))]) w'):=by
  unfold Z3v at hm
  refine fn0 (args:=[.pointer (some ⟨b2,0,none⟩)]) (F:=[(0,.pointer (some ⟨b2,0,none⟩))]) Tryz.func35 rfl Tryz.ntmps35 rfl rfl fun a hF=>?_
  have hS:=startM hH hO hD
  refine th<|?_
  refine rg<|?_
  refine ls<|q1 hF rfl (e_asg hF rfl) fun a hF=>?_
  refine re<|?_
  refine tn<|th<|?_
  replace hm:=bind_some hm
  obtain ⟨rz3,h4,hm⟩:=hm
  refine rdS 16 hS wide fun w hS=>?_
  refine d1 (i:=0) rfl (by kernel_rfl) (by kernel_rfl) (St.ld hS) hF rfl (fun _ _ _ h=>h) (fun w hl=>(e_move hF rfl)) fun a hF=>?_
  refine d1 (i:=1) rfl (by kernel_rfl) (by kernel_rfl) (St.ld hS) hF rfl (fun _ _ _ h=>h) (fun w hl=>(e_nilp hF rfl)) fun a hF=>?_
  refine d1 (i:=2) rfl (by kernel_rfl) (by kernel_rfl) (St.ld hS) hF rfl (fun _ _ _ h=>h) (fun w hl=>(e_fa hF fa74_0 rfl)) fun a hF=>?_
  refine d1 (i:=3) rfl (by kernel_rfl) (by kernel_rfl) (St.ld hS) hF rfl (fun _ _ _ h=>h) (fun w hl=>(e_ld hF Tryz.isAgg9 rfl (hl.cellB (.head _) rfl))) fun a hF=>?_
  refine d1 (i:=4) rfl (by kernel_rfl) (by kernel_rfl) (St.ld hS) hF rfl (fun _ _ _ h=>h) (fun w hl=>(e_move hF rfl)) fun a hF=>?_
  refine d1 (i:=5) rfl (by kernel_rfl) (by kernel_rfl) (St.ld hS) hF rfl (fun _ _ _ h=>h) (fun w hl=>(e_nilp hF rfl)) fun a hF=>?_
  refine d1 (i:=6) rfl (by kernel_rfl) (by kernel_rfl) (St.ld hS) hF rfl (fun _ _ _ h=>h) (fun w hl=>(e_fa hF fa74_1 rfl)) fun a hF=>?_
  refine d1 (i:=7) rfl (by kernel_rfl) (by kernel_rfl) (St.ld hS) hF rfl (fun _ _ _ h=>h) (fun w hl=>(e_ld hF Tryz.isAgg3 rfl (hl.cellB (.head _) rfl))) fun a hF=>?_
  refine da1 (i:=8) (by kernel_rfl) ?_
  refine di (i:=8) rfl<|c1 hF rfl Tryz.call77 (Z3o_c (hp_le _) h4) ⟨rfl,rfl,trivial⟩ (fun v w a hR hF=>?_)
  obtain ⟨rfl,hk⟩:=hR
  replace hS:=hS.pass hk
  clear hk
  refine ⟨fun _=>(St.ld hS),?_⟩
  refine d1 (i:=9) rfl (by kernel_rfl) (by kernel_rfl) (St.ld hS) hF rfl (fun _ _ _ h=>h) (fun w hl=>(e_move hF rfl)) fun a hF=>?_
  refine d1 (i:=10) rfl (by kernel_rfl) (by kernel_rfl) (St.ld hS) hF rfl (fun _ _ _ h=>h) (fun w hl=>(e_ext hF rfl rfl)) fun a hF=>?_
  refine d1 (i:=11) rfl (by kernel_rfl) (by kernel_rfl) (St.ld hS) hF rfl (fun _ _ _ h=>h) (fun w hl=>(e_ext hF rfl rfl)) fun a hF=>?_
  refine d1 (i:=12) rfl (by kernel_rfl) (by kernel_rfl) (St.ld hS) hF rfl (fun _ _ _ h=>h) (fun w hl=>(e_ext hF rfl rfl)) fun a hF=>?_
  refine d1 (i:=13) rfl (by kernel_rfl) (by kernel_rfl) (St.ld hS) hF rfl (fun _ _ _ h=>h) (fun w hl=>(e_asg hF rfl)) fun a hF=>?_
  refine d1 (i:=14) rfl (by kernel_rfl) (by kernel_rfl) (St.ld hS) hF rfl (fun _ _ _ h=>h) (fun w hl=>(e_asg hF rfl)) fun a hF=>?_
  refine d1 (i:=15) rfl (by kernel_rfl) (by kernel_rfl) (St.ld hS) hF rfl (fun _ _ _ h=>h) (fun w hl=>(e_asg hF rfl)) fun a hF=>?_
  refine de (by kernel_rfl)<|?_
  refine tn<|th<|th<|?_
  refine rg<|?_
  refine ls<|q1 hF rfl (e_move hF rfl) fun a hF=>?_
  refine ls<|q1 hF rfl (e_nilp hF rfl) fun a hF=>?_
  refine ls<|q1 hF rfl (e_fa hF fa74_2 rfl) fun a hF=>?_
  refine ls<|q1 hF rfl (e_ld hF Tryz.isAgg4 rfl ((St.ld hS).cellB (.head _) rfl)) fun a hF=>?_
  refine ls<|q1 hF rfl (e_move hF rfl) fun a hF=>?_
  refine grp (N:=35) (Fk:=[(0,.pointer (some ⟨b2,0,none⟩)),(3,.int .i64 rz3.1),(4,.int .i64 rz3.2.1),(26,.bool (p1.Bad || (decide (rz3.2.2≠0))))]) (b:=p1.Bad) 3 hS ?_ ?_ ?_
  ·
    intro hb key
    replace hF:=Fr.as hF (t:=23) rfl (congrArg Value.bool hb)
    refine ls<|gn hF rfl rfl rfl rfl fun a hF=>?_
    refine ls<|gn hF rfl rfl rfl rfl fun a hF=>?_
    refine ls<|q1 hF rfl (e_as (v':=.bool (p1.Bad || (decide (rz3.2.2≠0)))) (e_pickT hF rfl rfl) (by rw [hb];rfl)) fun a hF=>?_
    exact key _ _ (hF.has ⟨rfl,rfl,rfl,rfl,trivial⟩) hS
  ·
    intro hb key
    replace hF:=Fr.as hF (t:=23) rfl (congrArg Value.bool hb)
    refine ls<|gy hF rfl rfl<|q1 hF rfl (e_move hF rfl) fun a hF=>?_
    refine ls<|gy hF rfl rfl<|q1 hF rfl (e_neq hF rfl rfl) fun a hF=>?_
    refine ls<|q1 hF rfl (e_as (v':=.bool (p1.Bad || (decide (rz3.2.2≠0)))) (e_pickF hF rfl rfl) (by rw [hb];rfl)) fun a hF=>?_
    exact key _ _ (hF.has ⟨rfl,rfl,rfl,rfl,trivial⟩) hS
  intro a w hF hS
  refine re<|?_
  rcases bdich (p1.Bad || (decide (rz3.2.2≠0))) with hb5 | hb5
  ·
    replace hm:=ite_t hm hb5
    refine tn<|ctv hF rfl hb5<|th<|?_
    refine rg<|?_
    refine ls<|q1 hF rfl (e_move hF rfl) fun a hF=>?_
    refine ls<|q1 hF rfl (e_nilp hF rfl) fun a hF=>?_
    refine ls<|q1 hF rfl (e_fa hF fa74_2 rfl) fun a hF=>?_
    refine ls<|s_blk hF hS Tryz.sizeOf4 rfl rfl rfl rfl .head (.succ (.succ .zero)) fun w hS=>?_
    refine re<|?_
    refine tn<|th<|?_
    refine rg<|?_
    refine ls<|q1 hF rfl (e_asg hF rfl) fun a hF=>?_
    refine re<|?_
    refine tn<|?_
    refine wr<|tr<|?_
    obtain rfl:=Option.some.inj hm
    exact r1 hF Tryz.results35 rfl ⟨rfl,(hS.pickL (.cons .head .nil)).endMut⟩
  ·
    replace hm:=ite_f hm hb5
    refine tn<|cfv hF rfl hb5<|wk<|?_
    refine tn<|th<|?_
    refine rg<|?_
    refine ls<|q1 hF rfl (e_move hF rfl) fun a hF=>?_
    refine ls<|q1 hF rfl (e_move hF rfl) fun a hF=>?_
    refine ls<|q1 hF rfl (e_nilp hF rfl) fun a hF=>?_
    refine ls<|q1 hF rfl (e_fa hF fa74_1 rfl) fun a hF=>?_
    refine ls<|s_blk hF hS Tryz.sizeOf3 rfl rfl rfl rfl .head (.succ .zero) fun w hS=>?_
    refine re<|?_
    refine tn<|th<|?_
    refine rg<|?_
    refine ls<|q1 hF rfl (e_move hF rfl) fun a hF=>?_
    refine ls<|q1 hF rfl (e_asg hF rfl) fun a hF=>?_
    refine re<|?_
    refine tn<|?_
    refine wr<|?_
    obtain rfl:=Option.some.inj hm
    exact r1 hF Tryz.results35 rfl ⟨rfl,(hS.pickL (.cons .head .nil)).endMut⟩
set_option maxRecDepth 100000 in
theorem Z3u_c {N:Nat} {w0:World} {H:PH} (hH:H.le w0) {b2:Nat} {p1:leadlineref10_In} (hO:(sepA [blk b2 (.cells [strv p1.S,.int .i64 p1.At,.bool p1.Bad].toArray 74 (0,0))]).ok (hp w0)) (hD:∀ b,(sepA [blk b2 (.cells [strv p1.S,.int .i64 p1.At,.bool p1.Bad].toArray 74 (0,0))]).fp b→H b=none) {r:(Int×leadlineref10_In)} (hm:Z3u N p1=some r):Tot Tryz.prog 36 #[.pointer (some ⟨b2,0,none⟩)] w0 (fun v w'=>v=.int .i64 r.1∧Mut w0 (sepA [blk b2 (.cells [strv p1.S,.int .i64 p1.At,.bool p1.Bad].toArray 74 (0,0))]) (sepA [blk b2 (.cells [strv r.2.S,.int .i64 r.2.At,.bool r.2.Bad].toArray 74 (0,0))]) w'):=by
  unfold Z3u at hm
  refine fn0 (args:=[.pointer (some ⟨b2,0,none⟩)]) (F:=[(0,.pointer (some ⟨b2,0,none⟩))]) Tryz.func36 rfl Tryz.ntmps36 rfl rfl fun a hF=>?_
  have hS:=startM hH hO hD
  refine th<|?_
  refine rg<|?_
  refine ls<|q1 hF rfl (e_asg hF rfl) fun a hF=>?_
  refine re<|?_
  refine tn<|th<|?_
  replace hm:=bind_some hm
  obtain ⟨rz3,h4,hm⟩:=hm
  refine rg<|?_
  refine ls<|q1 hF rfl (e_move hF rfl) fun a hF=>?_
  replace hS:=hS.pickL (.cons .head .nil)
  replace hS:=St.sep [blk b2 (.cells [strv p1.S,.int .i64 p1.At,.bool p1.Bad].toArray 74 (0,0))] hS
  refine ls<|c1 hF rfl Tryz.call35 (Z3v_c (St.le hS) (p1:=p1) (b2:=b2) (St.sepOk hS) (St.sepDis hS) h4) ⟨rfl,trivial⟩ (fun v w a hR hF=>?_)
  obtain ⟨rfl,hk⟩:=hR
  replace hS:=(hS.mut hk .head).unsep
  clear hk
  refine ls<|q1 hF rfl (e_asg hF rfl) fun a hF=>?_
  refine re<|?_
  refine tn<|th<|th<|?_
  refine rg<|?_
  refine ls<|q1 hF rfl (e_move hF rfl) fun a hF=>?_
  refine ls<|q1 hF rfl (e_move hF rfl) fun a hF=>?_
  refine ls<|q1 hF rfl (e_nilp hF rfl) fun a hF=>?_
  refine ls<|q1 hF rfl (e_fa hF fa74_0 rfl) fun a hF=>?_
  refine ls<|q1 hF rfl (e_ld hF Tryz.isAgg9 rfl ((St.ld hS).cellB (.head _) rfl)) fun a hF=>?_
  refine ls<|q1 hF rfl (e_lenU (s:=rz3.2.S) hF Tryz.runUnderlying9 rfl) fun a hF=>?_
  refine ls<|q1 hF rfl (e_gtr hF rfl rfl) fun a hF=>?_
  refine re<|?_
  rcases bdich (decide ((rz3.2.S.length:Int) < rz3.1)) with hb5 | hb5
  ·
    replace hm:=itp_t hm hb5
    refine tn<|ctv hF rfl hb5<|th<|?_
    refine rg<|?_
    refine ls<|q1 hF rfl (e_move hF rfl) fun a hF=>?_
    refine ls<|q1 hF rfl (e_nilp hF rfl) fun a hF=>?_
    refine ls<|q1 hF rfl (e_fa hF fa74_2 rfl) fun a hF=>?_
    refine ls<|s_blk hF hS Tryz.sizeOf4 rfl rfl rfl rfl .head (.succ (.succ .zero)) fun w hS=>?_
    refine re<|?_
    refine tn<|th<|?_
    refine rg<|?_
    refine ls<|q1 hF rfl (e_asg hF rfl) fun a hF=>?_
    refine re<|?_
    refine tn<|?_
    refine wr<|tr<|?_
    obtain rfl:=Option.some.inj hm
    exact r1 hF Tryz.results36 rfl ⟨rfl,(hS.pickL (.cons .head .nil)).endMut⟩
  ·
    replace hm:=itp_f hm hb5
    refine tn<|cfv hF rfl hb5<|wk<|?_
    refine tn<|th<|?_
    refine rg<|?_
    refine ls<|q1 hF rfl (e_move hF rfl) fun a hF=>?_
    refine ls<|q1 hF rfl (e_asg hF rfl) fun a hF=>?_
    refine re<|?_
    refine tn<|?_
    refine wr<|?_
    obtain rfl:=Option.some.inj hm
    exact r1 hF Tryz.results36 rfl ⟨rfl,(hS.pickL (.cons .head .nil)).endMut⟩
set_option maxRecDepth 100000 in
theorem Z3w_c {N:Nat} {w0:World} {H:PH} (hH:H.le w0) {b2:Nat} {p1:leadlineref10_In} (hO:(sepA [blk b2 (.cells [strv p1.S,.int .i64 p1.At,.bool p1.Bad].toArray 74 (0,0))]).ok (hp w0)) (hD:∀ b,(sepA [blk b2 (.cells [strv p1.S,.int .i64 p1.At,.bool p1.Bad].toArray 74 (0,0))]).fp b→H b=none) {r:((List Int)×leadlineref10_In)} (hm:Z3w N p1=some r):Tot Tryz.prog 34 #[.pointer (some ⟨b2,0,none⟩)] w0 (fun v w'=>∃ (oa0:Option Addr) (cap0:Nat) (vs0:List Value),v=.slice oa0 r.1.length cap0∧(∀ h,Rows h vs0 r.1)∧Mut w0 (sepA [blk b2 (.cells [strv p1.S,.int .i64 p1.At,.bool p1.Bad].toArray 74 (0,0))]) (sepA [blk b2 (.cells [strv r.2.S,.int .i64 r.2.At,.bool r.2.Bad].toArray 74 (0,0)),sla 3 1 oa0 r.1.length cap0 vs0]) w'):=by
  unfold Z3w at hm
  refine fn0 (args:=[.pointer (some ⟨b2,0,none⟩)]) (F:=[(0,.pointer (some ⟨b2,0,none⟩))]) Tryz.func34 rfl Tryz.ntmps34 rfl rfl fun a hF=>?_
  have hS:=startM hH hO hD
  refine th<|?_
  refine rg<|?_
  refine ls<|q1 hF rfl (e_asg hF rfl) fun a hF=>?_
  refine re<|?_
  refine tn<|th<|?_
  replace hm:=bind_some hm
  obtain ⟨rz6,h7,hm⟩:=hm
  refine rg<|?_
  refine ls<|a_bsl (e:=3) (sz:=1) [] hF rfl hS rfl rfl rfl (fun w=>by kernel_rfl) fun b4 w a hS hF=>?_
  have hv3:Rows (α:=Int) H [] []:=.nil
  refine ls<|q1 hF rfl (e_move hF rfl) fun a hF=>?_
  replace hS:=hS.pickL (.cons (.tail .head) (.cons .head .nil))
  replace hS:=St.sep [blk b2 (.cells [strv p1.S,.int .i64 p1.At,.bool p1.Bad].toArray 74 (0,0))] hS
  refine ls<|c1 hF rfl Tryz.call36 (Z3u_c (St.le hS) (p1:=p1) (b2:=b2) (St.sepOk hS) (St.sepDis hS) h7) ⟨rfl,trivial⟩ (fun v w a hR hF=>?_)
  obtain ⟨rfl,hk⟩:=hR
  replace hS:=(hS.mut hk .head).unsep
  clear hk
  refine ls<|q1 hF rfl (e_asg hF rfl) fun a hF=>?_
  refine ls<|q1 hF rfl (e_asg hF rfl) fun a hF=>?_
  refine re<|?_
  refine tn<|th<|th<|?_
  refine rg<|?_
  refine ls<|q1 hF rfl (e_asg hF rfl) fun a hF=>?_
  refine re<|?_
  refine tn<|midK (fun a w=>∃ (vA1:leadlineref10_In) (vA2:(List Int)) (oaA3:Option Addr) (capA4:Nat) (vsA5:List Value),Z3x vA1 vA2=some r∧Fr 27 [(0,.pointer (some ⟨b2,0,none⟩)),(3,.slice oaA3 vA2.length capA4)] a∧St w0 (sepA [blk b2 (.cells [strv p1.S,.int .i64 p1.At,.bool p1.Bad].toArray 74 (0,0))]).fp [H] [blk b2 (.cells [strv vA1.S,.int .i64 vA1.At,.bool vA1.Bad].toArray 74 (0,0)),sla 3 1 oaA3 vA2.length capA4 vsA5] w∧Rows H vsA5 vA2) ?_ ?_
  ·
    refine wb<|lp (α:=Nat×leadlineref10_In×(List Int)×Int) (fun (gh:Nat×leadlineref10_In×(List Int)×Int) a w=>match gh with | (nn2,vB1,vB2,vB8)=>∃ (oaB3:Option Addr) (capB4:Nat) (vsB5:List Value),(Z3y N Z3x rz6) nn2 vB1 vB2 vB8=some r∧Fr 27 [(0,.pointer (some ⟨b2,0,none⟩)),(3,.slice oaB3 vB2.length capB4),(4,.int .i64 rz6.1),(5,.int .i64 vB8)] a∧St w0 (sepA [blk b2 (.cells [strv p1.S,.int .i64 p1.At,.bool p1.Bad].toArray 74 (0,0))]).fp [H] [blk b2 (.cells [strv vB1.S,.int .i64 vB1.At,.bool vB1.Bad].toArray 74 (0,0)),sla 3 1 oaB3 vB2.length capB4 vsB5] w∧Rows H vsB5 vB2) (fun gh=>gh.1) (N,rz6.2,[],0) ⟨(some ⟨b4,0,none⟩),0,[],hm,hF.has ⟨rfl,rfl,rfl,rfl,trivial⟩,hS,hv3⟩ ?_
    clear hm hF hS
    rintro ⟨nn2,vB1,vB2,vB8⟩ a w ⟨oaB3,capB4,vsB5,hm,hF,hS,hvB6⟩
    obtain _ | nn2:=nn2
    · simp [Z3y] at hm
    rw [Z3y] at hm
    refine th<|th<|?_
    refine rg<|?_
    refine ls<|q1 hF rfl (e_move hF rfl) fun a hF=>?_
    refine ls<|q1 hF rfl (e_move hF rfl) fun a hF=>?_
    refine ls<|q1 hF rfl (e_lss hF rfl rfl) fun a hF=>?_
    refine ls<|q1 hF rfl (e_move hF rfl) fun a hF=>?_
    refine grp (N:=27) (Fk:=[(0,.pointer (some ⟨b2,0,none⟩)),(3,.slice oaB3 vB2.length capB4),(4,.int .i64 rz6.1),(5,.int .i64 vB8),(18,.bool ((decide (vB8 < rz6.1)) && (!vB1.Bad)))]) (b:=(decide (vB8 < rz6.1))) 6 hS ?_ ?_ ?_
    ·
      intro hb key
      replace hF:=Fr.as hF (t:=12) rfl (congrArg Value.bool hb)
      refine ls<|gy hF rfl rfl<|q1 hF rfl (e_move hF rfl) fun a hF=>?_
      refine ls<|gy hF rfl rfl<|q1 hF rfl (e_nilp hF rfl) fun a hF=>?_
      refine ls<|gy hF rfl rfl<|q1 hF rfl (e_fa hF fa74_2 rfl) fun a hF=>?_
      refine ls<|gy hF rfl rfl<|q1 hF rfl (e_ld hF Tryz.isAgg4 rfl ((St.ld hS).cellB (.head _) rfl)) fun a hF=>?_
      refine ls<|gy hF rfl rfl<|q1 hF rfl (e_not hF rfl) fun a hF=>?_
      refine ls<|q1 hF rfl (e_as (v':=.bool ((decide (vB8 < rz6.1)) && (!vB1.Bad))) (e_pickT hF rfl rfl) (by rw [hb];rfl)) fun a hF=>?_
      exact key _ _ (hF.has ⟨rfl,rfl,rfl,rfl,rfl,trivial⟩) hS
    ·
      intro hb key
      replace hF:=Fr.as hF (t:=12) rfl (congrArg Value.bool hb)
      refine ls<|gn hF rfl rfl rfl rfl fun a hF=>?_
      refine ls<|gn hF rfl rfl rfl rfl fun a hF=>?_
      refine ls<|gn hF rfl rfl rfl rfl fun a hF=>?_
      refine ls<|gn hF rfl rfl rfl rfl fun a hF=>?_
      refine ls<|gn hF rfl rfl rfl rfl fun a hF=>?_
      refine ls<|q1 hF rfl (e_as (v':=.bool ((decide (vB8 < rz6.1)) && (!vB1.Bad))) (e_pickF hF rfl rfl) (by rw [hb];rfl)) fun a hF=>?_
      exact key _ _ (hF.has ⟨rfl,rfl,rfl,rfl,rfl,trivial⟩) hS
    intro a w hF hS
    refine re<|?_
    rcases bdich ((decide (vB8 < rz6.1)) && (!vB1.Bad)) with hb8 | hb8
    ·
      replace hm:=ite_t hm hb8
      refine tn<|ctv hF rfl hb8<|wk<|?_
      refine tn<|th<|wb<|?_
      replace hm:=bind_some hm
      obtain ⟨rz9,h10,hm⟩:=hm
      replace hm:=bind_some hm
      obtain ⟨l14,h15,hm⟩:=hm
      refine rg<|?_
      refine ls<|q1 hF rfl (e_move hF rfl) fun a hF=>?_
      refine ls<|q1 hF rfl (e_move hF rfl) fun a hF=>?_
      replace hS:=hS.pickL (.cons .head (.cons .head .nil))
      replace hS:=St.sep [blk b2 (.cells [strv vB1.S,.int .i64 vB1.At,.bool vB1.Bad].toArray 74 (0,0))] hS
      refine ls<|c1 hF rfl Tryz.call35 (Z3v_c (St.le hS) (p1:=vB1) (b2:=b2) (St.sepOk hS) (St.sepDis hS) h10) ⟨rfl,trivial⟩ (fun v w a hR hF=>?_)
      obtain ⟨rfl,hk⟩:=hR
      replace hS:=(hS.mut hk .head).unsep
      clear hk
      refine ls<|a_bsl (e:=3) (sz:=1) [.int .i64 rz9.1] hF rfl hS rfl rfl rfl (fun w=>by kernel_rfl) fun b12 w a hS hF=>?_
      have hv11:Rows (α:=Int) H [.int .i64 rz9.1] ([rz9.1]:List Int):=(.cons (c:=[.int .i64 rz9.1]) rfl .nil)
      refine ls<|m_app (α:=Int) (xs:=vB2) (ys:=([rz9.1]:List Int)) hF rfl hS Tryz.underlying22 info3 rfl (by decide) rfl rfl rfl (.tail _ (.tail _ (.head _))) hvB6 (hS.rdO (.head _)) hv11 h15 fun oa16 cap17 vs18 w a hv19 hU hF=>?_
      replace hS:=hU _ (.tail (.tail .head))
      clear hU
      replace hS:=hS.drop .head
      refine ls<|q1 hF rfl (e_asg hF rfl) fun a hF=>?_
      refine re<|?_
      refine bn<|tn<|?_
      refine rg<|?_
      refine ls<|q1 hF rfl (e_move hF rfl) fun a hF=>?_
      refine ls<|q1 hF rfl (e_add hF rfl rfl) fun a hF=>?_
      refine ls<|q1 hF rfl (e_asg hF rfl) fun a hF=>?_
      refine re<|?_
      refine tn<|?_
      exact ⟨(nn2,rz9.2,l14,(IntKind.i64.wrap (vB8+1))),⟨oa16,cap17,vs18,hm,hF.has ⟨rfl,rfl,rfl,rfl,trivial⟩,hS,hv19⟩,Nat.lt_succ_self _⟩
    ·
      replace hm:=ite_f hm hb8
      refine tn<|cfv hF rfl hb8<|?_
      refine we<|tx<|tx<|bx<|?_
      refine tn<|?_
      exact ⟨vB1,vB2,oaB3,capB4,vsB5,hm,hF.has ⟨rfl,rfl,trivial⟩,hS,hvB6⟩
  clear hm hF hS
  rintro a w ⟨vA1,vA2,oaA3,capA4,vsA5,hm,hF,hS,hvA6⟩
  unfold Z3x at hm
  refine th<|?_
  refine rg<|?_
  refine ls<|q1 hF rfl (e_move hF rfl) fun a hF=>?_
  refine ls<|q1 hF rfl (e_asg hF rfl) fun a hF=>?_
  refine re<|?_
  refine tn<|?_
  refine wr<|?_
  obtain rfl:=Option.some.inj hm
  exact r1 hF Tryz.results34 rfl ⟨_,_,_,rfl,(fun _=>Rows.ind hvA6),(hS.pickL (.cons .head (.cons .head .nil))).endMut⟩
set_option maxRecDepth 100000 in
theorem Z3z_c {N:Nat} {w0:World} {H:PH} (hH:H.le w0) {b2:Nat} {p1:leadlineref10_In} (hO:(sepA [blk b2 (.cells [strv p1.S,.int .i64 p1.At,.bool p1.Bad].toArray 74 (0,0))]).ok (hp w0)) (hD:∀ b,(sepA [blk b2 (.cells [strv p1.S,.int .i64 p1.At,.bool p1.Bad].toArray 74 (0,0))]).fp b→H b=none) {r:((List api_Op)×leadlineref10_In)} (hm:Z3z N p1=some r):Tot Tryz.prog 38 #[.pointer (some ⟨b2,0,none⟩)] w0 (fun v w'=>∃ (oa0:Option Addr) (cap0:Nat) (vs0:List Value),v=.slice oa0 r.1.length cap0∧(∀ h,Rows h vs0 r.1)∧Mut w0 (sepA [blk b2 (.cells [strv p1.S,.int .i64 p1.At,.bool p1.Bad].toArray 74 (0,0))]) (sepA [blk b2 (.cells [strv r.2.S,.int .i64 r.2.At,.bool r.2.Bad].toArray 74 (0,0)),sla 83 2 oa0 r.1.length cap0 vs0]) w'):=by
  unfold Z3z at hm
  refine fn0 (args:=[.pointer (some ⟨b2,0,none⟩)]) (F:=[(0,.pointer (some ⟨b2,0,none⟩))]) Tryz.func38 rfl Tryz.ntmps38 rfl rfl fun a hF=>?_
  have hS:=startM hH hO hD
  refine th<|?_
  refine rg<|?_
  refine ls<|q1 hF rfl (e_asg hF rfl) fun a hF=>?_
  refine re<|?_
  refine tn<|th<|?_
  replace hm:=bind_some hm
  obtain ⟨rz6,h7,hm⟩:=hm
  refine rg<|?_
  refine ls<|a_bsl (e:=83) (sz:=2) [] hF rfl hS rfl rfl rfl (fun w=>by kernel_rfl) fun b4 w a hS hF=>?_
  have hv3:Rows (α:=api_Op) H [] []:=.nil
  refine ls<|q1 hF rfl (e_move hF rfl) fun a hF=>?_
  replace hS:=hS.pickL (.cons (.tail .head) (.cons .head .nil))
  replace hS:=St.sep [blk b2 (.cells [strv p1.S,.int .i64 p1.At,.bool p1.Bad].toArray 74 (0,0))] hS
  refine ls<|c1 hF rfl Tryz.call36 (Z3u_c (St.le hS) (p1:=p1) (b2:=b2) (St.sepOk hS) (St.sepDis hS) h7) ⟨rfl,trivial⟩ (fun v w a hR hF=>?_)
  obtain ⟨rfl,hk⟩:=hR
  replace hS:=(hS.mut hk .head).unsep
  clear hk
  refine ls<|q1 hF rfl (e_asg hF rfl) fun a hF=>?_
  refine ls<|q1 hF rfl (e_asg hF rfl) fun a hF=>?_
  refine re<|?_
  refine tn<|th<|th<|?_
  refine rg<|?_
  refine ls<|q1 hF rfl (e_asg hF rfl) fun a hF=>?_
  refine re<|?_
  refine tn<|midK (fun a w=>∃ (vA1:leadlineref10_In) (vA2:(List api_Op)) (oaA3:Option Addr) (capA4:Nat) (vsA5:List Value),Z40 vA1 vA2=some r∧Fr 33 [(0,.pointer (some ⟨b2,0,none⟩)),(3,.slice oaA3 vA2.length capA4)] a∧St w0 (sepA [blk b2 (.cells [strv p1.S,.int .i64 p1.At,.bool p1.Bad].toArray 74 (0,0))]).fp [H] [blk b2 (.cells [strv vA1.S,.int .i64 vA1.At,.bool vA1.Bad].toArray 74 (0,0)),sla 83 2 oaA3 vA2.length capA4 vsA5] w∧Rows H vsA5 vA2) ?_ ?_
  ·
    refine wb<|lp (α:=Nat×leadlineref10_In×(List api_Op)×Int) (fun (gh:Nat×leadlineref10_In×(List api_Op)×Int) a w=>match gh with | (nn2,vB1,vB2,vB8)=>∃ (oaB3:Option Addr) (capB4:Nat) (vsB5:List Value),(Z41 N Z40 rz6) nn2 vB1 vB2 vB8=some r∧Fr 33 [(0,.pointer (some ⟨b2,0,none⟩)),(3,.slice oaB3 vB2.length capB4),(4,.int .i64 rz6.1),(5,.int .i64 vB8)] a∧St w0 (sepA [blk b2 (.cells [strv p1.S,.int .i64 p1.At,.bool p1.Bad].toArray 74 (0,0))]).fp [H] [blk b2 (.cells [strv vB1.S,.int .i64 vB1.At,.bool vB1.Bad].toArray 74 (0,0)),sla 83 2 oaB3 vB2.length capB4 vsB5] w∧Rows H vsB5 vB2) (fun gh=>gh.1) (N,rz6.2,[],0) ⟨(some ⟨b4,0,none⟩),0,[],hm,hF.has ⟨rfl,rfl,rfl,rfl,trivial⟩,hS,hv3⟩ ?_
    clear hm hF hS
    rintro ⟨nn2,vB1,vB2,vB8⟩ a w ⟨oaB3,capB4,vsB5,hm,hF,hS,hvB6⟩
    obtain _ | nn2:=nn2
    · simp [Z41] at hm
    rw [Z41] at hm
    refine th<|th<|?_
    refine rg<|?_
    refine ls<|q1 hF rfl (e_move hF rfl) fun a hF=>?_
    refine ls<|q1 hF rfl (e_move hF rfl) fun a hF=>?_
    refine ls<|q1 hF rfl (e_lss hF rfl rfl) fun a hF=>?_
    refine ls<|q1 hF rfl (e_move hF rfl) fun a hF=>?_
    refine grp (N:=33) (Fk:=[(0,.pointer (some ⟨b2,0,none⟩)),(3,.slice oaB3 vB2.length capB4),(4,.int .i64 rz6.1),(5,.int .i64 vB8),(19,.bool ((decide (vB8 < rz6.1)) && (!vB1.Bad)))]) (b:=(decide (vB8 < rz6.1))) 6 hS ?_ ?_ ?_
    ·
      intro hb key
      replace hF:=Fr.as hF (t:=13) rfl (congrArg Value.bool hb)
      refine ls<|gy hF rfl rfl<|q1 hF rfl (e_move hF rfl) fun a hF=>?_
      refine ls<|gy hF rfl rfl<|q1 hF rfl (e_nilp hF rfl) fun a hF=>?_
      refine ls<|gy hF rfl rfl<|q1 hF rfl (e_fa hF fa74_2 rfl) fun a hF=>?_
      refine ls<|gy hF rfl rfl<|q1 hF rfl (e_ld hF Tryz.isAgg4 rfl ((St.ld hS).cellB (.head _) rfl)) fun a hF=>?_
      refine ls<|gy hF rfl rfl<|q1 hF rfl (e_not hF rfl) fun a hF=>?_
      refine ls<|q1 hF rfl (e_as (v':=.bool ((decide (vB8 < rz6.1)) && (!vB1.Bad))) (e_pickT hF rfl rfl) (by rw [hb];rfl)) fun a hF=>?_
      exact key _ _ (hF.has ⟨rfl,rfl,rfl,rfl,rfl,trivial⟩) hS
    ·
      intro hb key
      replace hF:=Fr.as hF (t:=13) rfl (congrArg Value.bool hb)
      refine ls<|gn hF rfl rfl rfl rfl fun a hF=>?_
      refine ls<|gn hF rfl rfl rfl rfl fun a hF=>?_
      refine ls<|gn hF rfl rfl rfl rfl fun a hF=>?_
      refine ls<|gn hF rfl rfl rfl rfl fun a hF=>?_
      refine ls<|gn hF rfl rfl rfl rfl fun a hF=>?_
      refine ls<|q1 hF rfl (e_as (v':=.bool ((decide (vB8 < rz6.1)) && (!vB1.Bad))) (e_pickF hF rfl rfl) (by rw [hb];rfl)) fun a hF=>?_
      exact key _ _ (hF.has ⟨rfl,rfl,rfl,rfl,rfl,trivial⟩) hS
    intro a w hF hS
    refine re<|?_
    rcases bdich ((decide (vB8 < rz6.1)) && (!vB1.Bad)) with hb8 | hb8
    ·
      replace hm:=ite_t hm hb8
      refine tn<|ctv hF rfl hb8<|wk<|?_
      refine tn<|th<|wb<|th<|?_
      replace hm:=bind_some hm
      obtain ⟨rz9,h10,hm⟩:=hm
      refine rg<|?_
      refine ls<|q1 hF rfl (e_move hF rfl) fun a hF=>?_
      replace hS:=hS.pickL (.cons .head (.cons .head .nil))
      replace hS:=St.sep [blk b2 (.cells [strv vB1.S,.int .i64 vB1.At,.bool vB1.Bad].toArray 74 (0,0))] hS
      refine ls<|c1 hF rfl Tryz.call35 (Z3v_c (St.le hS) (p1:=vB1) (b2:=b2) (St.sepOk hS) (St.sepDis hS) h10) ⟨rfl,trivial⟩ (fun v w a hR hF=>?_)
      obtain ⟨rfl,hk⟩:=hR
      replace hS:=(hS.mut hk .head).unsep
      clear hk
      refine ls<|q1 hF rfl (e_bldK [.int .i64 rz9.1] [.int .i64 rz9.1,.int .i64 0] hF ⟨rfl,trivial⟩ (fun w=>by kernel_rfl)) fun a hF=>?_
      refine ls<|a_alloc (cs:=[.int .i64 0,.int .i64 0].toArray) hF rfl hS Tryz.zeroValue83 rfl fun b11 w a hS hF=>?_
      refine ls<|s_blkA hF hS Tryz.sizeOf83 rfl rfl rfl rfl (one_cells rfl) .head fun w hS=>?_
      refine re<|?_
      refine tn<|th<|?_
      replace hm:=bind_some hm
      obtain ⟨r12,h13,hm⟩:=hm
      refine rg<|?_
      refine ls<|q1 hF rfl (e_move hF rfl) fun a hF=>?_
      replace hS:=hS.pickL (.cons (.tail .head) (.cons .head (.cons .head .nil)))
      replace hS:=St.sep [blk b2 (.cells [strv rz9.2.S,.int .i64 rz9.2.At,.bool rz9.2.Bad].toArray 74 (0,0))] hS
      refine ls<|c1 hF rfl Tryz.call35 (Z3v_c (St.le hS) (p1:=rz9.2) (b2:=b2) (St.sepOk hS) (St.sepDis hS) h13) ⟨rfl,trivial⟩ (fun v w a hR hF=>?_)
      obtain ⟨rfl,hk⟩:=hR
      replace hS:=(hS.mut hk .head).unsep
      clear hk
      refine ls<|q1 hF rfl (e_fa hF fa83_1 rfl) fun a hF=>?_
      refine ls<|s_blk hF hS Tryz.sizeOf3 rfl rfl rfl rfl (.tail .head) (.succ .zero) fun w hS=>?_
      refine re<|?_
      refine tn<|?_
      replace hm:=bind_some hm
      obtain ⟨l17,h18,hm⟩:=hm
      refine rg<|?_
      refine ls<|q1 hF rfl (e_move hF rfl) fun a hF=>?_
      refine ls<|q1 hF rfl (e_ldA hF Tryz.isAgg83 Tryz.sizeOf83 rfl rfl ((St.ld hS).cellsB (.tail _ (.head _)))) fun a hF=>?_
      refine ls<|a_bsl (e:=83) (sz:=2) [.int .i64 rz9.1,.int .i64 r12.1] hF rfl hS rfl rfl rfl (fun w=>by kernel_rfl) fun b15 w a hS hF=>?_
      have hv14:Rows (α:=api_Op) H [.int .i64 rz9.1,.int .i64 r12.1] ([(api_Op.mk rz9.1 r12.1)]:List api_Op):=(.cons (c:=[.int .i64 rz9.1,.int .i64 r12.1]) ⟨_,_,rfl,rfl,rfl⟩ .nil)
      refine ls<|m_app (α:=api_Op) (xs:=vB2) (ys:=([(api_Op.mk rz9.1 r12.1)]:List api_Op)) hF rfl hS Tryz.underlying54 info83 rfl (by decide) rfl rfl rfl (.tail _ (.tail _ (.tail _ (.head _)))) hvB6 (hS.rdO (.head _)) hv14 h18 fun oa19 cap20 vs21 w a hv22 hU hF=>?_
      replace hS:=hU _ (.tail (.tail (.tail .head)))
      clear hU
      replace hS:=hS.drop .head
      refine ls<|q1 hF rfl (e_asg hF rfl) fun a hF=>?_
      refine re<|?_
      refine bn<|tn<|?_
      refine rg<|?_
      refine ls<|q1 hF rfl (e_move hF rfl) fun a hF=>?_
      refine ls<|q1 hF rfl (e_add hF rfl rfl) fun a hF=>?_
      refine ls<|q1 hF rfl (e_asg hF rfl) fun a hF=>?_
      refine re<|?_
      refine tn<|?_
      replace hS:=hS.pickL (.cons .head (.cons (.tail .head) .nil))
      exact ⟨(nn2,r12.2,l17,(IntKind.i64.wrap (vB8+1))),⟨oa19,cap20,vs21,hm,hF.has ⟨rfl,rfl,rfl,rfl,trivial⟩,hS,hv22⟩,Nat.lt_succ_self _⟩
    ·
      replace hm:=ite_f hm hb8
      refine tn<|cfv hF rfl hb8<|?_
      refine we<|tx<|tx<|bx<|?_
      refine tn<|?_
      exact ⟨vB1,vB2,oaB3,capB4,vsB5,hm,hF.has ⟨rfl,rfl,trivial⟩,hS,hvB6⟩
  clear hm hF hS
  rintro a w ⟨vA1,vA2,oaA3,capA4,vsA5,hm,hF,hS,hvA6⟩
  unfold Z40 at hm
  refine th<|?_
  refine rg<|?_
  refine ls<|q1 hF rfl (e_move hF rfl) fun a hF=>?_
  refine ls<|q1 hF rfl (e_asg hF rfl) fun a hF=>?_
  refine re<|?_
  refine tn<|?_
  refine wr<|?_
  obtain rfl:=Option.some.inj hm
  exact r1 hF Tryz.results38 rfl ⟨_,_,_,rfl,(fun _=>Rows.ind hvA6),(hS.pickL (.cons .head (.cons .head .nil))).endMut⟩
set_option maxRecDepth 100000 in
theorem Z3r_c {N:Nat} {w0:World} {H:PH} (hH:H.le w0) {b2:Nat} {p1:leadlineref10_In} (hO:(sepA [blk b2 (.cells [strv p1.S,.int .i64 p1.At,.bool p1.Bad].toArray 74 (0,0))]).ok (hp w0)) (hD:∀ b,(sepA [blk b2 (.cells [strv p1.S,.int .i64 p1.At,.bool p1.Bad].toArray 74 (0,0))]).fp b→H b=none) {r:(api_Code×leadlineref10_In)} (hm:Z3r N p1=some r):Tot Tryz.prog 37 #[.pointer (some ⟨b2,0,none⟩)] w0 (fun v w'=>∃ (H':PH) (cs0:List Value),v=.agg cs0.toArray∧Enc.rep H' cs0 r.1∧ExtM w0 (sepA [blk b2 (.cells [strv p1.S,.int .i64 p1.At,.bool p1.Bad].toArray 74 (0,0))]).fp H H'∧H'.le w'∧(∀ b,(sepA [blk b2 (.cells [strv r.2.S,.int .i64 r.2.At,.bool r.2.Bad].toArray 74 (0,0))]).fp b→H' b=none)∧Mut w0 (sepA [blk b2 (.cells [strv p1.S,.int .i64 p1.At,.bool p1.Bad].toArray 74 (0,0))]) (sepA [blk b2 (.cells [strv r.2.S,.int .i64 r.2.At,.bool r.2.Bad].toArray 74 (0,0))]) w'):=by
  unfold Z3r at hm
  refine fn0 (args:=[.pointer (some ⟨b2,0,none⟩)]) (F:=[(0,.pointer (some ⟨b2,0,none⟩))]) Tryz.func37 rfl Tryz.ntmps37 rfl rfl fun a hF=>?_
  have hS:=startM hH hO hD
  refine th<|?_
  refine rg<|?_
  refine ls<|a_alloc (cs:=[.int .i64 0,.int .i64 0,.slice none 0 0].toArray) hF rfl hS Tryz.zeroValue26 rfl fun b3 w a hS hF=>?_
  refine re<|?_
  refine tn<|th<|?_
  replace hm:=bind_some hm
  obtain ⟨rz4,h5,hm⟩:=hm
  refine rg<|?_
  refine ls<|q1 hF rfl (e_move hF rfl) fun a hF=>?_
  replace hS:=hS.pickL (.cons (.tail .head) (.cons .head .nil))
  replace hS:=St.sep [blk b2 (.cells [strv p1.S,.int .i64 p1.At,.bool p1.Bad].toArray 74 (0,0))] hS
  refine ls<|c1 hF rfl Tryz.call35 (Z3v_c (St.le hS) (p1:=p1) (b2:=b2) (St.sepOk hS) (St.sepDis hS) h5) ⟨rfl,trivial⟩ (fun v w a hR hF=>?_)
  obtain ⟨rfl,hk⟩:=hR
  replace hS:=(hS.mut hk .head).unsep
  clear hk
  refine ls<|q1 hF rfl (e_bldK [.int .i64 rz4.1] [.int .i64 rz4.1,.int .i64 0,.slice none 0 0] hF ⟨rfl,trivial⟩ (fun w=>by kernel_rfl)) fun a hF=>?_
  refine ls<|a_alloc (cs:=[.int .i64 0,.int .i64 0,.slice none 0 0].toArray) hF rfl hS Tryz.zeroValue26 rfl fun b6 w a hS hF=>?_
  refine ls<|s_blkA hF hS Tryz.sizeOf26 rfl rfl rfl rfl (one_cells rfl) .head fun w hS=>?_
  refine re<|?_
  refine tn<|th<|?_
  replace hm:=bind_some hm
  obtain ⟨rz7,h8,hm⟩:=hm
  refine rg<|?_
  refine ls<|q1 hF rfl (e_move hF rfl) fun a hF=>?_
  replace hS:=hS.pickL (.cons (.tail .head) (.cons .head (.cons .head .nil)))
  replace hS:=St.sep [blk b2 (.cells [strv rz4.2.S,.int .i64 rz4.2.At,.bool rz4.2.Bad].toArray 74 (0,0))] hS
  refine ls<|c1 hF rfl Tryz.call35 (Z3v_c (St.le hS) (p1:=rz4.2) (b2:=b2) (St.sepOk hS) (St.sepDis hS) h8) ⟨rfl,trivial⟩ (fun v w a hR hF=>?_)
  obtain ⟨rfl,hk⟩:=hR
  replace hS:=(hS.mut hk .head).unsep
  clear hk
  refine ls<|q1 hF rfl (e_fa hF fa26_1 rfl) fun a hF=>?_
  refine ls<|s_blk hF hS Tryz.sizeOf3 rfl rfl rfl rfl (.tail .head) (.succ .zero) fun w hS=>?_
  refine re<|?_
  refine tn<|th<|?_
  replace hm:=bind_some hm
  obtain ⟨rz9,h10,hm⟩:=hm
  refine rg<|?_
  refine ls<|q1 hF rfl (e_move hF rfl) fun a hF=>?_
  replace hS:=hS.pickL (.cons .head (.cons .head (.cons .head .nil)))
  replace hS:=St.sep [blk b2 (.cells [strv rz7.2.S,.int .i64 rz7.2.At,.bool rz7.2.Bad].toArray 74 (0,0))] hS
  refine ls<|c1 hF rfl Tryz.call36 (Z3u_c (St.le hS) (p1:=rz7.2) (b2:=b2) (St.sepOk hS) (St.sepDis hS) h10) ⟨rfl,trivial⟩ (fun v w a hR hF=>?_)
  obtain ⟨rfl,hk⟩:=hR
  replace hS:=(hS.mut hk .head).unsep
  clear hk
  refine ls<|q1 hF rfl (e_asg hF rfl) fun a hF=>?_
  refine re<|?_
  refine tn<|th<|th<|?_
  refine rg<|?_
  refine ls<|q1 hF rfl (e_asg hF rfl) fun a hF=>?_
  refine re<|?_
  refine tn<|midK (fun a w=>∃ (vA2:leadlineref10_In) (vA3:(List api_Instr)) (HA1:PH) (oaA4:Option Addr) (capA5:Nat) (vsA6:List Value),(Z3s rz4 rz7) vA2 vA3=some r∧ExtM w0 (sepA [blk b2 (.cells [strv p1.S,.int .i64 p1.At,.bool p1.Bad].toArray 74 (0,0))]).fp H HA1∧Fr 52 [(0,.pointer (some ⟨b2,0,none⟩)),(2,.pointer (some ⟨b3,0,none⟩)),(3,.pointer (some ⟨b6,0,none⟩))] a∧St w0 (sepA [blk b2 (.cells [strv p1.S,.int .i64 p1.At,.bool p1.Bad].toArray 74 (0,0))]).fp [HA1] [blk b2 (.cells [strv vA2.S,.int .i64 vA2.At,.bool vA2.Bad].toArray 74 (0,0)),blk b3 (.cells [.int .i64 0,.int .i64 0,.slice none 0 0].toArray 26 (0,0)),sla 85 6 oaA4 vA3.length capA5 vsA6,blk b6 (.cells [.int .i64 rz4.1,.int .i64 rz7.1,.slice oaA4 vA3.length capA5].toArray 26 (0,0))] w∧Rows HA1 vsA6 vA3) ?_ ?_
  ·
    replace hS:=St.nilS hS 85 6
    replace hS:=hS.pickL (.cons (.tail .head) (.cons (.tail (.tail .head)) (.cons .head (.cons .head .nil))))
    refine wb<|lp (α:=Nat×leadlineref10_In×(List api_Instr)×Int) (fun (gh:Nat×leadlineref10_In×(List api_Instr)×Int) a w=>match gh with | (nn2,vB2,vB3,vB9)=>∃ (HB1:PH) (oaB4:Option Addr) (capB5:Nat) (vsB6:List Value),(Z3t N (Z3s rz4 rz7) rz9) nn2 vB2 vB3 vB9=some r∧ExtM w0 (sepA [blk b2 (.cells [strv p1.S,.int .i64 p1.At,.bool p1.Bad].toArray 74 (0,0))]).fp H HB1∧Fr 52 [(0,.pointer (some ⟨b2,0,none⟩)),(2,.pointer (some ⟨b3,0,none⟩)),(3,.pointer (some ⟨b6,0,none⟩)),(4,.int .i64 rz9.1),(5,.int .i64 vB9)] a∧St w0 (sepA [blk b2 (.cells [strv p1.S,.int .i64 p1.At,.bool p1.Bad].toArray 74 (0,0))]).fp [HB1] [blk b2 (.cells [strv vB2.S,.int .i64 vB2.At,.bool vB2.Bad].toArray 74 (0,0)),blk b3 (.cells [.int .i64 0,.int .i64 0,.slice none 0 0].toArray 26 (0,0)),sla 85 6 oaB4 vB3.length capB5 vsB6,blk b6 (.cells [.int .i64 rz4.1,.int .i64 rz7.1,.slice oaB4 vB3.length capB5].toArray 26 (0,0))] w∧Rows HB1 vsB6 vB3) (fun gh=>gh.1) (N,rz9.2,[],0) ⟨H,none,0,[],hm,(ExtM.refl _ _ _),hF.has ⟨rfl,rfl,rfl,rfl,rfl,trivial⟩,hS,.nil⟩ ?_
    clear hm hF hS
    rintro ⟨nn2,vB2,vB3,vB9⟩ a w ⟨HB1,oaB4,capB5,vsB6,hm,hxHB1,hF,hS,hvB7⟩
    obtain _ | nn2:=nn2
    · simp [Z3t] at hm
    rw [Z3t] at hm
    refine th<|th<|?_
    refine rg<|?_
    refine ls<|q1 hF rfl (e_move hF rfl) fun a hF=>?_
    refine ls<|q1 hF rfl (e_move hF rfl) fun a hF=>?_
    refine ls<|q1 hF rfl (e_lss hF rfl rfl) fun a hF=>?_
    refine ls<|q1 hF rfl (e_move hF rfl) fun a hF=>?_
    refine grp (N:=52) (Fk:=[(0,.pointer (some ⟨b2,0,none⟩)),(2,.pointer (some ⟨b3,0,none⟩)),(3,.pointer (some ⟨b6,0,none⟩)),(4,.int .i64 rz9.1),(5,.int .i64 vB9),(24,.bool ((decide (vB9 < rz9.1)) && (!vB2.Bad)))]) (b:=(decide (vB9 < rz9.1))) 6 hS ?_ ?_ ?_
    ·
      intro hb key
      replace hF:=Fr.as hF (t:=18) rfl (congrArg Value.bool hb)
      refine ls<|gy hF rfl rfl<|q1 hF rfl (e_move hF rfl) fun a hF=>?_
      refine ls<|gy hF rfl rfl<|q1 hF rfl (e_nilp hF rfl) fun a hF=>?_
      refine ls<|gy hF rfl rfl<|q1 hF rfl (e_fa hF fa74_2 rfl) fun a hF=>?_
      refine ls<|gy hF rfl rfl<|q1 hF rfl (e_ld hF Tryz.isAgg4 rfl ((St.ld hS).cellB (.head _) rfl)) fun a hF=>?_
      refine ls<|gy hF rfl rfl<|q1 hF rfl (e_not hF rfl) fun a hF=>?_
      refine ls<|q1 hF rfl (e_as (v':=.bool ((decide (vB9 < rz9.1)) && (!vB2.Bad))) (e_pickT hF rfl rfl) (by rw [hb];rfl)) fun a hF=>?_
      exact key _ _ (hF.has ⟨rfl,rfl,rfl,rfl,rfl,rfl,trivial⟩) hS
    ·
      intro hb key
      replace hF:=Fr.as hF (t:=18) rfl (congrArg Value.bool hb)
      refine ls<|gn hF rfl rfl rfl rfl fun a hF=>?_
      refine ls<|gn hF rfl rfl rfl rfl fun a hF=>?_
      refine ls<|gn hF rfl rfl rfl rfl fun a hF=>?_
      refine ls<|gn hF rfl rfl rfl rfl fun a hF=>?_
      refine ls<|gn hF rfl rfl rfl rfl fun a hF=>?_
      refine ls<|q1 hF rfl (e_as (v':=.bool ((decide (vB9 < rz9.1)) && (!vB2.Bad))) (e_pickF hF rfl rfl) (by rw [hb];rfl)) fun a hF=>?_
      exact key _ _ (hF.has ⟨rfl,rfl,rfl,rfl,rfl,rfl,trivial⟩) hS
    intro a w hF hS
    refine re<|?_
    rcases bdich ((decide (vB9 < rz9.1)) && (!vB2.Bad)) with hb11 | hb11
    ·
      replace hm:=ite_t hm hb11
      refine tn<|ctv hF rfl hb11<|wk<|?_
      refine tn<|th<|wb<|th<|?_
      replace hm:=bind_some hm
      obtain ⟨r12,h13,hm⟩:=hm
      refine rg<|?_
      refine ls<|q1 hF rfl (e_move hF rfl) fun a hF=>?_
      replace hS:=hS.pickL (.cons .head (.cons .head (.cons .head (.cons .head .nil))))
      replace hS:=St.sep [blk b2 (.cells [strv vB2.S,.int .i64 vB2.At,.bool vB2.Bad].toArray 74 (0,0))] hS
      refine ls<|c1 hF rfl Tryz.call35 (Z3v_c (St.le hS) (p1:=vB2) (b2:=b2) (St.sepOk hS) (St.sepDis hS) h13) ⟨rfl,trivial⟩ (fun v w a hR hF=>?_)
      obtain ⟨rfl,hk⟩:=hR
      replace hS:=(hS.mut hk .head).unsep
      clear hk
      refine ls<|q1 hF rfl (e_bldK [.int .i64 r12.1] [.int .i64 r12.1,.int .i64 0,.int .i64 0,.slice none 0 0,.slice none 0 0,.int .i64 0] hF ⟨rfl,trivial⟩ (fun w=>by kernel_rfl)) fun a hF=>?_
      refine ls<|a_alloc (cs:=[.int .i64 0,.int .i64 0,.int .i64 0,.slice none 0 0,.slice none 0 0,.int .i64 0].toArray) hF rfl hS Tryz.zeroValue85 rfl fun b14 w a hS hF=>?_
      refine ls<|s_blkA hF hS Tryz.sizeOf85 rfl rfl rfl rfl (one_cells rfl) .head fun w hS=>?_
      refine re<|?_
      refine tn<|th<|?_
      replace hm:=bind_some hm
      obtain ⟨r15,h16,hm⟩:=hm
      refine rg<|?_
      refine ls<|q1 hF rfl (e_move hF rfl) fun a hF=>?_
      replace hS:=hS.pickL (.cons (.tail .head) (.cons .head (.cons .head (.cons .head (.cons .head .nil)))))
      replace hS:=St.sep [blk b2 (.cells [strv r12.2.S,.int .i64 r12.2.At,.bool r12.2.Bad].toArray 74 (0,0))] hS
      refine ls<|c1 hF rfl Tryz.call35 (Z3v_c (St.le hS) (p1:=r12.2) (b2:=b2) (St.sepOk hS) (St.sepDis hS) h16) ⟨rfl,trivial⟩ (fun v w a hR hF=>?_)
      obtain ⟨rfl,hk⟩:=hR
      replace hS:=(hS.mut hk .head).unsep
      clear hk
      refine ls<|q1 hF rfl (e_fa hF fa85_1 rfl) fun a hF=>?_
      refine ls<|s_blk hF hS Tryz.sizeOf3 rfl rfl rfl rfl (.tail .head) (.succ .zero) fun w hS=>?_
      refine re<|?_
      refine tn<|th<|?_
      replace hm:=bind_some hm
      obtain ⟨r17,h18,hm⟩:=hm
      refine rg<|?_
      refine ls<|q1 hF rfl (e_move hF rfl) fun a hF=>?_
      replace hS:=hS.pickL (.cons .head (.cons .head (.cons .head (.cons .head (.cons .head .nil)))))
      replace hS:=St.sep [blk b2 (.cells [strv r15.2.S,.int .i64 r15.2.At,.bool r15.2.Bad].toArray 74 (0,0))] hS
      refine ls<|c1 hF rfl Tryz.call35 (Z3v_c (St.le hS) (p1:=r15.2) (b2:=b2) (St.sepOk hS) (St.sepDis hS) h18) ⟨rfl,trivial⟩ (fun v w a hR hF=>?_)
      obtain ⟨rfl,hk⟩:=hR
      replace hS:=(hS.mut hk .head).unsep
      clear hk
      refine ls<|q1 hF rfl (e_fa hF fa85_2 rfl) fun a hF=>?_
      refine ls<|s_blk hF hS Tryz.sizeOf3 rfl rfl rfl rfl (.tail .head) (.succ (.succ .zero)) fun w hS=>?_
      refine re<|?_
      refine tn<|th<|?_
      replace hm:=bind_some hm
      obtain ⟨r19,h20,hm⟩:=hm
      refine rg<|?_
      refine ls<|q1 hF rfl (e_move hF rfl) fun a hF=>?_
      replace hS:=hS.pickL (.cons .head (.cons .head (.cons .head (.cons .head (.cons .head .nil)))))
      replace hS:=St.sep [blk b2 (.cells [strv r17.2.S,.int .i64 r17.2.At,.bool r17.2.Bad].toArray 74 (0,0))] hS
      refine ls<|c1 hF rfl Tryz.call35 (Z3v_c (St.le hS) (p1:=r17.2) (b2:=b2) (St.sepOk hS) (St.sepDis hS) h20) ⟨rfl,trivial⟩ (fun v w a hR hF=>?_)
      obtain ⟨rfl,hk⟩:=hR
      replace hS:=(hS.mut hk .head).unsep
      clear hk
      refine ls<|q1 hF rfl (e_fa hF fa85_5 rfl) fun a hF=>?_
      refine ls<|s_blk hF hS Tryz.sizeOf3 rfl rfl rfl rfl (.tail .head) (.succ (.succ (.succ (.succ (.succ .zero))))) fun w hS=>?_
      refine re<|?_
      refine tn<|th<|?_
      replace hm:=bind_some hm
      obtain ⟨r21,h22,hm⟩:=hm
      refine rg<|?_
      refine ls<|q1 hF rfl (e_move hF rfl) fun a hF=>?_
      replace hS:=hS.pickL (.cons .head (.cons .head (.cons .head (.cons .head (.cons .head .nil)))))
      replace hS:=St.sep [blk b2 (.cells [strv r19.2.S,.int .i64 r19.2.At,.bool r19.2.Bad].toArray 74 (0,0))] hS
      refine ls<|c1 hF rfl Tryz.call38 (Z3z_c (St.le hS) (p1:=r19.2) (b2:=b2) (St.sepOk hS) (St.sepDis hS) h22) ⟨rfl,trivial⟩ (fun v w a hR hF=>?_)
      obtain ⟨oa23,cap24,vs25,rfl,hv26,hk⟩:=hR
      replace hS:=(hS.mut hk .head).unsep
      clear hk
      replace hv26:=hv26 HB1
      refine ls<|q1 hF rfl (e_fa hF fa85_3 rfl) fun a hF=>?_
      refine ls<|s_blk hF hS Tryz.sizeOf54 rfl rfl rfl rfl (.tail (.tail .head)) (.succ (.succ (.succ .zero))) fun w hS=>?_
      refine re<|?_
      refine tn<|th<|?_
      replace hm:=bind_some hm
      obtain ⟨r28,h29,hm⟩:=hm
      refine rg<|?_
      refine ls<|q1 hF rfl (e_move hF rfl) fun a hF=>?_
      replace hS:=hS.pickL (.cons .head (.cons .head (.cons .head (.cons .head (.cons .head (.cons .head .nil))))))
      replace hS:=St.sep [blk b2 (.cells [strv r21.2.S,.int .i64 r21.2.At,.bool r21.2.Bad].toArray 74 (0,0))] hS
      refine ls<|c1 hF rfl Tryz.call38 (Z3z_c (St.le hS) (p1:=r21.2) (b2:=b2) (St.sepOk hS) (St.sepDis hS) h29) ⟨rfl,trivial⟩ (fun v w a hR hF=>?_)
      obtain ⟨oa30,cap31,vs32,rfl,hv33,hk⟩:=hR
      replace hS:=(hS.mut hk .head).unsep
      clear hk
      replace hv33:=hv33 HB1
      refine ls<|q1 hF rfl (e_fa hF fa85_4 rfl) fun a hF=>?_
      refine ls<|s_blk hF hS Tryz.sizeOf54 rfl rfl rfl rfl (.tail (.tail (.tail .head))) (.succ (.succ (.succ (.succ .zero)))) fun w hS=>?_
      refine re<|?_
      refine tn<|?_
      replace hm:=bind_some hm
      obtain ⟨l46,h47,hm⟩:=hm
      refine rg<|?_
      refine ls<|q1 hF rfl (e_fa hF fa26_2 rfl) fun a hF=>?_
      refine ls<|q1 hF rfl (e_ld hF Tryz.isAgg24 rfl ((St.ld hS).cellB (.tail _ (.tail _ (.tail _ (.tail _ (.tail _ (.tail _ (.head _))))))) rfl)) fun a hF=>?_
      refine ls<|q1 hF rfl (e_ldA hF Tryz.isAgg85 Tryz.sizeOf85 rfl rfl ((St.ld hS).cellsB (.tail _ (.tail _ (.tail _ (.head _)))))) fun a hF=>?_
      obtain ⟨H38,hx35,hr36,hc37,hS⟩:=St.frzSM hS (.tail (.tail .head)) hv26
      obtain ⟨H42,hx39,hr40,hc41,hS⟩:=St.frzSM hS (.tail .head) (hv33.mono hx35.sub)
      refine ls<|a_bsl (e:=85) (sz:=6) [.int .i64 r12.1,.int .i64 r15.1,.int .i64 r17.1,.slice oa23 r21.1.length cap24,.slice oa30 r28.1.length cap31,.int .i64 r19.1] hF rfl hS rfl rfl rfl (fun w=>by kernel_rfl) fun b44 w a hS hF=>?_
      have hv43:Rows (α:=api_Instr) H42 [.int .i64 r12.1,.int .i64 r15.1,.int .i64 r17.1,.slice oa23 r21.1.length cap24,.slice oa30 r28.1.length cap31,.int .i64 r19.1] ([(api_Instr.mk r12.1 r15.1 r17.1 r21.1 r28.1 r19.1)]:List api_Instr):=(.cons (c:=[.int .i64 r12.1,.int .i64 r15.1,.int .i64 r17.1,.slice oa23 r21.1.length cap24,.slice oa30 r28.1.length cap31,.int .i64 r19.1]) ⟨_,_,rfl,rfl,⟨_,_,rfl,rfl,⟨_,_,rfl,rfl,⟨_,_,rfl,⟨_,_,rfl,hc37,(hr36.mono hx39.sub)⟩,⟨_,_,rfl,⟨_,_,rfl,hc41,hr40⟩,rfl⟩⟩⟩⟩⟩ .nil)
      refine ls<|m_app (α:=api_Instr) (xs:=vB3) (ys:=([(api_Instr.mk r12.1 r15.1 r17.1 r21.1 r28.1 r19.1)]:List api_Instr)) hF rfl hS Tryz.underlying24 info85 rfl (by decide) rfl rfl rfl (.tail _ (.tail _ (.tail _ (.tail _ (.head _))))) (hvB7.mono (fun b o h=>hx39.sub b o (hx35.sub b o h))) (hS.rdO (.head _)) hv43 h47 fun oa48 cap49 vs50 w a hv51 hU hF=>?_
      replace hS:=hU _ (.tail (.tail (.tail (.tail .head))))
      clear hU
      replace hS:=hS.drop .head
      refine ls<|q1 hF rfl (e_fa hF fa26_2 rfl) fun a hF=>?_
      refine ls<|s_blk hF hS Tryz.sizeOf24 rfl rfl rfl rfl (.tail (.tail (.tail (.tail .head)))) (.succ (.succ .zero)) fun w hS=>?_
      refine re<|?_
      refine bn<|tn<|?_
      refine rg<|?_
      refine ls<|q1 hF rfl (e_move hF rfl) fun a hF=>?_
      refine ls<|q1 hF rfl (e_add hF rfl rfl) fun a hF=>?_
      refine ls<|q1 hF rfl (e_asg hF rfl) fun a hF=>?_
      refine re<|?_
      refine tn<|?_
      replace hS:=hS.pickL (.cons .head (.cons (.tail .head) (.cons (.tail .head) (.cons (.tail .head) .nil))))
      exact ⟨(nn2,r28.2,l46,(IntKind.i64.wrap (vB9+1))),⟨H42,oa48,cap49,vs50,hm,(ExtM.trans hxHB1 (ExtM.trans hx35 hx39)),hF.has ⟨rfl,rfl,rfl,rfl,rfl,trivial⟩,hS,hv51⟩,Nat.lt_succ_self _⟩
    ·
      replace hm:=ite_f hm hb11
      refine tn<|cfv hF rfl hb11<|?_
      refine we<|tx<|tx<|bx<|?_
      refine tn<|?_
      exact ⟨vB2,vB3,HB1,oaB4,capB5,vsB6,hm,hxHB1,hF.has ⟨rfl,rfl,rfl,trivial⟩,hS,hvB7⟩
  clear hm hF hS
  rintro a w ⟨vA2,vA3,HA1,oaA4,capA5,vsA6,hm,hxHA1,hF,hS,hvA7⟩
  unfold Z3s at hm
  refine th<|?_
  refine rg<|?_
  refine ls<|q1 hF rfl (e_ldA hF Tryz.isAgg26 Tryz.sizeOf26 rfl rfl ((St.ld hS).cellsB (.tail _ (.tail _ (.tail _ (.head _)))))) fun a hF=>?_
  refine ls<|s_blkA hF hS Tryz.sizeOf26 rfl rfl rfl rfl (one_cells rfl) (.tail .head) fun w hS=>?_
  refine re<|?_
  refine tn<|?_
  refine wr<|?_
  obtain ⟨H55,hx52,hr53,hc54,hS⟩:=St.frzSM hS (.tail (.tail .head)) hvA7
  obtain rfl:=Option.some.inj hm
  exact r1c (vs:=[.int .i64 rz4.1,.int .i64 rz7.1,.slice oaA4 vA3.length capA5]) (.inl rfl) hF Tryz.results37 rfl Tryz.isAgg26 Tryz.sizeOf26 rfl ((St.ld hS).cellsB (.tail _ (.head _))) ⟨H55,_,rfl,(show Enc.rep (α:=api_Code) H55 [.int .i64 rz4.1,.int .i64 rz7.1,.slice oaA4 vA3.length capA5] (api_Code.mk rz4.1 rz7.1 vA3) from ⟨_,_,rfl,rfl,⟨_,_,rfl,rfl,⟨_,_,rfl,hc54,hr53⟩⟩⟩),(ExtM.trans hxHA1 hx52),(St.le hS),(St.disL (hS.pickL (.cons .head .nil))),(hS.pickL (.cons .head .nil)).endMut⟩
set_option maxHeartbeats 4000000 in
set_option maxRecDepth 100000 in
theorem Z3e_c {N:Nat} {w0:World} {H:PH} (hH:H.le w0) {p1:Str} {r:(api_Unit×Int)} (hm:Z3e N p1=some r):Tot Tryz.prog 11 #[strv p1] w0 (fun v w'=>∃ (H':PH) (cs0:List Value),v=.tuple #[.agg cs0.toArray,.int .i64 r.2]∧Enc.rep H' cs0 r.1∧Ext w0 H H'∧H'.le w'∧Keep Nil w0 w'):=by
  unfold Z3e at hm
  refine fn0 (args:=[strv p1]) (F:=[(0,strv p1)]) Tryz.func11 rfl Tryz.ntmps11 rfl rfl fun a hF=>?_
  have hS:St w0 Nil [H] [] w0:=start1 hH
  refine th<|?_
  refine rg<|?_
  refine ls<|a_alloc (cs:=[.slice none 0 0,.int .i64 0,.slice none 0 0,.int .i64 0,.slice none 0 0,.int .i64 0,.int .i64 0,.slice none 0 0,.slice none 0 0].toArray) hF rfl hS Tryz.zeroValue29 rfl fun b2 w a hS hF=>?_
  refine ls<|q1 hF rfl (e_asg hF rfl) fun a hF=>?_
  refine re<|?_
  refine tn<|th<|?_
  refine rg<|?_
  refine ls<|q1 hF rfl (e_move hF rfl) fun a hF=>?_
  refine ls<|q1 hF rfl (e_bldK [strv p1] [strv p1,.int .i64 0,.bool false] hF ⟨rfl,trivial⟩ (fun w=>by kernel_rfl)) fun a hF=>?_
  refine ls<|a_box (cs:=[strv p1,.int .i64 0,.bool false].toArray) hF rfl hS rfl rfl fun b3 w a hS hF=>?_
  refine ls<|q1 hF rfl (e_asg hF rfl) fun a hF=>?_
  refine re<|?_
  refine tn<|th<|?_
  replace hm:=bind_some hm
  obtain ⟨rz4,h5,hm⟩:=hm
  refine rg<|?_
  refine ls<|q1 hF rfl (e_move hF rfl) fun a hF=>?_
  replace hS:=hS.pickL (.cons .head (.cons .head .nil))
  replace hS:=St.sep [blk b3 (.cells [strv p1,.int .i64 0,.bool false].toArray 74 (0,0))] hS
  refine ls<|c1 hF rfl Tryz.call34 (Z3w_c (St.le hS) (p1:=(leadlineref10_In.mk p1 0 false)) (b2:=b3) (St.sepOk hS) (St.sepDis hS) h5) ⟨rfl,trivial⟩ (fun v w a hR hF=>?_)
  obtain ⟨oa6,cap7,vs8,rfl,hv9,hk⟩:=hR
  replace hS:=(hS.mut hk .head).unsep
  clear hk
  replace hv9:=hv9 H
  refine ls<|q1 hF rfl (e_bldK [.slice oa6 rz4.1.length cap7] [.slice oa6 rz4.1.length cap7,.int .i64 0,.slice none 0 0,.int .i64 0,.slice none 0 0,.int .i64 0,.int .i64 0,.slice none 0 0,.slice none 0 0] hF ⟨rfl,trivial⟩ (fun w=>by kernel_rfl)) fun a hF=>?_
  refine ls<|a_alloc (cs:=[.slice none 0 0,.int .i64 0,.slice none 0 0,.int .i64 0,.slice none 0 0,.int .i64 0,.int .i64 0,.slice none 0 0,.slice none 0 0].toArray) hF rfl hS Tryz.zeroValue29 rfl fun b11 w a hS hF=>?_
  refine ls<|s_blkA hF hS Tryz.sizeOf29 rfl rfl rfl rfl (one_cells rfl) .head fun w hS=>?_
  refine re<|?_
  refine tn<|th<|?_
  replace hm:=bind_some hm
  obtain ⟨r12,h13,hm⟩:=hm
  refine rg<|?_
  refine ls<|q1 hF rfl (e_move hF rfl) fun a hF=>?_
  replace hS:=hS.pickL (.cons (.tail .head) (.cons .head (.cons .head (.cons .head .nil))))
  replace hS:=St.sep [blk b3 (.cells [strv rz4.2.S,.int .i64 rz4.2.At,.bool rz4.2.Bad].toArray 74 (0,0))] hS
  refine ls<|c1 hF rfl Tryz.call35 (Z3v_c (St.le hS) (p1:=rz4.2) (b2:=b3) (St.sepOk hS) (St.sepDis hS) h13) ⟨rfl,trivial⟩ (fun v w a hR hF=>?_)
  obtain ⟨rfl,hk⟩:=hR
  replace hS:=(hS.mut hk .head).unsep
  clear hk
  refine ls<|q1 hF rfl (e_fa hF fa29_1 rfl) fun a hF=>?_
  refine ls<|s_blk hF hS Tryz.sizeOf3 rfl rfl rfl rfl (.tail .head) (.succ .zero) fun w hS=>?_
  refine re<|?_
  refine tn<|th<|?_
  replace hm:=bind_some hm
  obtain ⟨r14,h15,hm⟩:=hm
  refine rg<|?_
  refine ls<|q1 hF rfl (e_move hF rfl) fun a hF=>?_
  replace hS:=hS.pickL (.cons .head (.cons .head (.cons .head (.cons .head .nil))))
  replace hS:=St.sep [blk b3 (.cells [strv r12.2.S,.int .i64 r12.2.At,.bool r12.2.Bad].toArray 74 (0,0))] hS
  refine ls<|c1 hF rfl Tryz.call34 (Z3w_c (St.le hS) (p1:=r12.2) (b2:=b3) (St.sepOk hS) (St.sepDis hS) h15) ⟨rfl,trivial⟩ (fun v w a hR hF=>?_)
  obtain ⟨oa16,cap17,vs18,rfl,hv19,hk⟩:=hR
  replace hS:=(hS.mut hk .head).unsep
  clear hk
  replace hv19:=hv19 H
  refine ls<|q1 hF rfl (e_fa hF fa29_2 rfl) fun a hF=>?_
  refine ls<|s_blk hF hS Tryz.sizeOf22 rfl rfl rfl rfl (.tail (.tail .head)) (.succ (.succ .zero)) fun w hS=>?_
  refine re<|?_
  refine tn<|th<|?_
  replace hm:=bind_some hm
  obtain ⟨r21,h22,hm⟩:=hm
  refine rg<|?_
  refine ls<|q1 hF rfl (e_move hF rfl) fun a hF=>?_
  replace hS:=hS.pickL (.cons .head (.cons .head (.cons .head (.cons .head (.cons .head .nil)))))
  replace hS:=St.sep [blk b3 (.cells [strv r14.2.S,.int .i64 r14.2.At,.bool r14.2.Bad].toArray 74 (0,0))] hS
  refine ls<|c1 hF rfl Tryz.call35 (Z3v_c (St.le hS) (p1:=r14.2) (b2:=b3) (St.sepOk hS) (St.sepDis hS) h22) ⟨rfl,trivial⟩ (fun v w a hR hF=>?_)
  obtain ⟨rfl,hk⟩:=hR
  replace hS:=(hS.mut hk .head).unsep
  clear hk
  refine ls<|q1 hF rfl (e_fa hF fa29_3 rfl) fun a hF=>?_
  refine ls<|s_blk hF hS Tryz.sizeOf3 rfl rfl rfl rfl (.tail (.tail .head)) (.succ (.succ (.succ .zero))) fun w hS=>?_
  refine re<|?_
  refine tn<|th<|?_
  replace hm:=bind_some hm
  obtain ⟨r23,h24,hm⟩:=hm
  refine rg<|?_
  refine ls<|q1 hF rfl (e_move hF rfl) fun a hF=>?_
  replace hS:=hS.pickL (.cons .head (.cons .head (.cons .head (.cons .head (.cons .head .nil)))))
  replace hS:=St.sep [blk b3 (.cells [strv r21.2.S,.int .i64 r21.2.At,.bool r21.2.Bad].toArray 74 (0,0))] hS
  refine ls<|c1 hF rfl Tryz.call36 (Z3u_c (St.le hS) (p1:=r21.2) (b2:=b3) (St.sepOk hS) (St.sepDis hS) h24) ⟨rfl,trivial⟩ (fun v w a hR hF=>?_)
  obtain ⟨rfl,hk⟩:=hR
  replace hS:=(hS.mut hk .head).unsep
  clear hk
  refine ls<|q1 hF rfl (e_asg hF rfl) fun a hF=>?_
  refine re<|?_
  refine tn<|th<|th<|?_
  refine rg<|?_
  refine ls<|q1 hF rfl (e_asg hF rfl) fun a hF=>?_
  refine re<|?_
  refine tn<|midK (fun a w=>∃ (vA2:leadlineref10_In) (vA3:(List api_Code)) (HA1:PH) (oaA4:Option Addr) (capA5:Nat) (vsA6:List Value),(Z3f N p1 rz4 r12 r14 r21) vA2 vA3=some r∧Ext w0 H HA1∧Fr 91 [(0,strv p1),(2,.pointer (some ⟨b2,0,none⟩)),(4,.pointer (some ⟨b3,0,none⟩)),(5,.pointer (some ⟨b11,0,none⟩))] a∧St w0 Nil [HA1] [blk b2 (.cells [.slice none 0 0,.int .i64 0,.slice none 0 0,.int .i64 0,.slice none 0 0,.int .i64 0,.int .i64 0,.slice none 0 0,.slice none 0 0].toArray 29 (0,0)),blk b3 (.cells [strv vA2.S,.int .i64 vA2.At,.bool vA2.Bad].toArray 74 (0,0)),sla 3 1 oa6 rz4.1.length cap7 vs8,sla 3 1 oa16 r14.1.length cap17 vs18,sla 26 3 oaA4 vA3.length capA5 vsA6,blk b11 (.cells [.slice oa6 rz4.1.length cap7,.int .i64 r12.1,.slice oa16 r14.1.length cap17,.int .i64 r21.1,.slice oaA4 vA3.length capA5,.int .i64 0,.int .i64 0,.slice none 0 0,.slice none 0 0].toArray 29 (0,0))] w∧Rows HA1 vsA6 vA3) ?_ ?_
  ·
    replace hS:=St.nilS hS 26 3
    replace hS:=hS.pickL (.cons (.tail (.tail (.tail (.tail (.tail .head))))) (.cons (.tail .head) (.cons (.tail (.tail (.tail .head))) (.cons (.tail .head) (.cons .head (.cons .head .nil))))))
    refine wb<|lp (α:=Nat×leadlineref10_In×(List api_Code)×Int) (fun (gh:Nat×leadlineref10_In×(List api_Code)×Int) a w=>match gh with | (nn2,vB2,vB3,vB9)=>∃ (HB1:PH) (oaB4:Option Addr) (capB5:Nat) (vsB6:List Value),(Z3h N (Z3f N p1 rz4 r12 r14 r21) r23) nn2 vB2 vB3 vB9=some r∧Ext w0 H HB1∧Fr 91 [(0,strv p1),(2,.pointer (some ⟨b2,0,none⟩)),(4,.pointer (some ⟨b3,0,none⟩)),(5,.pointer (some ⟨b11,0,none⟩)),(6,.int .i64 r23.1),(7,.int .i64 vB9)] a∧St w0 Nil [HB1] [blk b2 (.cells [.slice none 0 0,.int .i64 0,.slice none 0 0,.int .i64 0,.slice none 0 0,.int .i64 0,.int .i64 0,.slice none 0 0,.slice none 0 0].toArray 29 (0,0)),blk b3 (.cells [strv vB2.S,.int .i64 vB2.At,.bool vB2.Bad].toArray 74 (0,0)),sla 3 1 oa6 rz4.1.length cap7 vs8,sla 3 1 oa16 r14.1.length cap17 vs18,sla 26 3 oaB4 vB3.length capB5 vsB6,blk b11 (.cells [.slice oa6 rz4.1.length cap7,.int .i64 r12.1,.slice oa16 r14.1.length cap17,.int .i64 r21.1,.slice oaB4 vB3.length capB5,.int .i64 0,.int .i64 0,.slice none 0 0,.slice none 0 0].toArray 29 (0,0))] w∧Rows HB1 vsB6 vB3) (fun gh=>gh.1) (N,r23.2,[],0) ⟨H,none,0,[],hm,(Ext.refl _ _),hF.has ⟨rfl,rfl,rfl,rfl,rfl,rfl,trivial⟩,hS,.nil⟩ ?_
    clear hm hF hS
    rintro ⟨nn2,vB2,vB3,vB9⟩ a w ⟨HB1,oaB4,capB5,vsB6,hm,hxHB1,hF,hS,hvB7⟩
    obtain _ | nn2:=nn2
    · simp [Z3h] at hm
    rw [Z3h] at hm
    refine th<|th<|?_
    refine rg<|?_
    refine ls<|q1 hF rfl (e_move hF rfl) fun a hF=>?_
    refine ls<|q1 hF rfl (e_move hF rfl) fun a hF=>?_
    refine ls<|q1 hF rfl (e_lss hF rfl rfl) fun a hF=>?_
    refine ls<|q1 hF rfl (e_move hF rfl) fun a hF=>?_
    refine grp (N:=91) (Fk:=[(0,strv p1),(2,.pointer (some ⟨b2,0,none⟩)),(4,.pointer (some ⟨b3,0,none⟩)),(5,.pointer (some ⟨b11,0,none⟩)),(6,.int .i64 r23.1),(7,.int .i64 vB9),(37,.bool ((decide (vB9 < r23.1)) && (!vB2.Bad)))]) (b:=(decide (vB9 < r23.1))) 6 hS ?_ ?_ ?_
    ·
      intro hb key
      replace hF:=Fr.as hF (t:=31) rfl (congrArg Value.bool hb)
      refine ls<|gy hF rfl rfl<|q1 hF rfl (e_move hF rfl) fun a hF=>?_
      refine ls<|gy hF rfl rfl<|q1 hF rfl (e_nilp hF rfl) fun a hF=>?_
      refine ls<|gy hF rfl rfl<|q1 hF rfl (e_fa hF fa74_2 rfl) fun a hF=>?_
      refine ls<|gy hF rfl rfl<|q1 hF rfl (e_ld hF Tryz.isAgg4 rfl ((St.ld hS).cellB (.tail _ (.head _)) rfl)) fun a hF=>?_
      refine ls<|gy hF rfl rfl<|q1 hF rfl (e_not hF rfl) fun a hF=>?_
      refine ls<|q1 hF rfl (e_as (v':=.bool ((decide (vB9 < r23.1)) && (!vB2.Bad))) (e_pickT hF rfl rfl) (by rw [hb];rfl)) fun a hF=>?_
      exact key _ _ (hF.has ⟨rfl,rfl,rfl,rfl,rfl,rfl,rfl,trivial⟩) hS
    ·
      intro hb key
      replace hF:=Fr.as hF (t:=31) rfl (congrArg Value.bool hb)
      refine ls<|gn hF rfl rfl rfl rfl fun a hF=>?_
      refine ls<|gn hF rfl rfl rfl rfl fun a hF=>?_
      refine ls<|gn hF rfl rfl rfl rfl fun a hF=>?_
      refine ls<|gn hF rfl rfl rfl rfl fun a hF=>?_
      refine ls<|gn hF rfl rfl rfl rfl fun a hF=>?_
      refine ls<|q1 hF rfl (e_as (v':=.bool ((decide (vB9 < r23.1)) && (!vB2.Bad))) (e_pickF hF rfl rfl) (by rw [hb];rfl)) fun a hF=>?_
      exact key _ _ (hF.has ⟨rfl,rfl,rfl,rfl,rfl,rfl,rfl,trivial⟩) hS
    intro a w hF hS
    refine re<|?_
    rcases bdich ((decide (vB9 < r23.1)) && (!vB2.Bad)) with hb25 | hb25
    ·
      replace hm:=ite_t hm hb25
      refine tn<|ctv hF rfl hb25<|wk<|?_
      refine tn<|th<|wb<|?_
      replace hm:=bind_some hm
      obtain ⟨r26,h27,hm⟩:=hm
      replace hm:=bind_some hm
      obtain ⟨l41,h42,hm⟩:=hm
      refine rdL (sub_cons (.head _) (sub_cons (.tail _ (.tail _ (.head _))) (sub_cons (.tail _ (.tail _ (.tail _ (.head _)))) (sub_cons (.tail _ (.tail _ (.tail _ (.tail _ (.tail _ (.head _)))))) sub_nil)))) 7 hS wide fun w hS=>?_
      refine d1 (i:=0) rfl (by kernel_rfl) (by kernel_rfl) (St.ldsX hS (fun _ _ h=>h) (sub_cons (.head _) (sub_cons (.tail _ (.tail _ (.head _))) (sub_cons (.tail _ (.tail _ (.tail _ (.head _)))) (sub_cons (.tail _ (.tail _ (.tail _ (.tail _ (.tail _ (.head _)))))) sub_nil))))) hF rfl (fun _ _ _ h=>h) (fun w hl=>(e_fa hF fa29_4 rfl)) fun a hF=>?_
      refine d1 (i:=1) rfl (by kernel_rfl) (by kernel_rfl) (St.ldsX hS (fun _ _ h=>h) (sub_cons (.head _) (sub_cons (.tail _ (.tail _ (.head _))) (sub_cons (.tail _ (.tail _ (.tail _ (.head _)))) (sub_cons (.tail _ (.tail _ (.tail _ (.tail _ (.tail _ (.head _)))))) sub_nil))))) hF rfl (fun _ _ _ h=>h) (fun w hl=>(e_ld hF Tryz.isAgg23 rfl (hl.cellB (.tail _ (.tail _ (.tail _ (.head _)))) rfl))) fun a hF=>?_
      refine d1 (i:=2) rfl (by kernel_rfl) (by kernel_rfl) (St.ldsX hS (fun _ _ h=>h) (sub_cons (.head _) (sub_cons (.tail _ (.tail _ (.head _))) (sub_cons (.tail _ (.tail _ (.tail _ (.head _)))) (sub_cons (.tail _ (.tail _ (.tail _ (.tail _ (.tail _ (.head _)))))) sub_nil))))) hF rfl (fun _ _ _ h=>h) (fun w hl=>(e_move hF rfl)) fun a hF=>?_
      refine da1 (i:=3) (by kernel_rfl) ?_
      replace hS:=hS.pickL (.cons (.tail .head) (.cons .head (.cons .head (.cons .head (.cons .head (.cons .head .nil))))))
      replace hS:=St.sep [blk b3 (.cells [strv vB2.S,.int .i64 vB2.At,.bool vB2.Bad].toArray 74 (0,0))] hS
      refine di (i:=3) rfl<|c1 hF rfl Tryz.call37 (Z3r_c (St.le hS) (p1:=vB2) (b2:=b3) (St.sepOk hS) (St.sepDis hS) h27) ⟨rfl,trivial⟩ (fun v w a hR hF=>?_)
      obtain ⟨H31,cs32,rfl,g33,hx28,hl29,hd30,hk⟩:=hR
      obtain ⟨hS,hx28⟩:=And.intro (St.mutH hS hk hx28 hl29 hd30) (St.extc0 hS hx28)
      replace hS:=hS.unsep
      clear hk
      obtain ⟨oa34,cap35,rfl,hc36,hr37⟩:=api_Code_open g33
      refine ⟨fun _=>(St.ldsX hS hx28.sub (sub_cons (.tail _ (.head _)) (sub_cons (.tail _ (.tail _ (.head _))) (sub_cons (.tail _ (.tail _ (.tail _ (.head _)))) (sub_cons (.tail _ (.tail _ (.tail _ (.tail _ (.tail _ (.head _)))))) sub_nil))))),?_⟩
      refine da1 (i:=4) (by kernel_rfl) ?_
      refine di (i:=4) rfl<|a_bsl (e:=26) (sz:=3) [.int .i64 r26.1.Regs,.int .i64 r26.1.Counts,.slice oa34 r26.1.L.length cap35] hF rfl hS rfl rfl rfl (fun w=>by kernel_rfl) fun b39 w a hS hF=>?_
      have hv38:Rows (α:=api_Code) H31 [.int .i64 r26.1.Regs,.int .i64 r26.1.Counts,.slice oa34 r26.1.L.length cap35] ([r26.1]:List api_Code):=(.cons (c:=[.int .i64 r26.1.Regs,.int .i64 r26.1.Counts,.slice oa34 r26.1.L.length cap35]) ⟨_,_,rfl,rfl,⟨_,_,rfl,rfl,⟨_,_,rfl,hc36,hr37⟩⟩⟩ .nil)
      refine ⟨fun _=>(St.ldsX hS hx28.sub (sub_cons (.tail _ (.tail _ (.head _))) (sub_cons (.tail _ (.tail _ (.tail _ (.head _)))) (sub_cons (.tail _ (.tail _ (.tail _ (.tail _ (.head _))))) (sub_cons (.tail _ (.tail _ (.tail _ (.tail _ (.tail _ (.tail _ (.head _))))))) sub_nil))))),?_⟩
      refine da1 (i:=5) (by kernel_rfl) ?_
      refine di (i:=5) rfl<|m_app (α:=api_Code) (xs:=vB3) (ys:=([r26.1]:List api_Code)) hF rfl hS Tryz.underlying23 info26 rfl (by decide) rfl rfl rfl (.tail _ (.tail _ (.tail _ (.tail _ (.tail _ (.head _)))))) (hvB7.mono hx28.sub) (hS.rdO (.head _)) hv38 h42 fun oa43 cap44 vs45 w a hv46 hU hF=>?_
      replace hS:=hU _ (.tail (.tail (.tail (.tail (.tail .head)))))
      clear hU
      replace hS:=hS.drop .head
      refine ⟨fun _=>(St.ldsX hS hx28.sub (sub_cons (.tail _ (.head _)) (sub_cons (.tail _ (.tail _ (.head _))) (sub_cons (.tail _ (.tail _ (.tail _ (.head _)))) (sub_cons (.tail _ (.tail _ (.tail _ (.tail _ (.tail _ (.head _)))))) sub_nil))))),?_⟩
      refine d1 (i:=6) rfl (by kernel_rfl) (by kernel_rfl) (St.ldsX hS hx28.sub (sub_cons (.tail _ (.head _)) (sub_cons (.tail _ (.tail _ (.head _))) (sub_cons (.tail _ (.tail _ (.tail _ (.head _)))) (sub_cons (.tail _ (.tail _ (.tail _ (.tail _ (.tail _ (.head _)))))) sub_nil))))) hF rfl (fun _ _ _ h=>h) (fun w hl=>(e_fa hF fa29_4 rfl)) fun a hF=>?_
      refine da1 (i:=7) (by kernel_rfl) ?_
      refine di (i:=7) rfl<|s_blk hF hS Tryz.sizeOf23 rfl rfl rfl rfl (.tail (.tail (.tail (.tail (.tail .head))))) (.succ (.succ (.succ (.succ .zero)))) fun w hS=>?_
      refine ⟨fun h=>absurd rfl h,?_⟩
      refine de (by kernel_rfl)<|?_
      refine bn<|tn<|?_
      refine rg<|?_
      refine ls<|q1 hF rfl (e_move hF rfl) fun a hF=>?_
      refine ls<|q1 hF rfl (e_add hF rfl rfl) fun a hF=>?_
      refine ls<|q1 hF rfl (e_asg hF rfl) fun a hF=>?_
      refine re<|?_
      refine tn<|?_
      replace hS:=hS.pickL (.cons (.tail .head) (.cons .head (.cons .head (.cons .head (.cons .head (.cons .head .nil))))))
      exact ⟨(nn2,r26.2,l41,(IntKind.i64.wrap (vB9+1))),⟨H31,oa43,cap44,vs45,hm,(Ext.trans hxHB1 hx28),hF.has ⟨rfl,rfl,rfl,rfl,rfl,rfl,trivial⟩,hS,hv46⟩,Nat.lt_succ_self _⟩
    ·
      replace hm:=ite_f hm hb25
      refine tn<|cfv hF rfl hb25<|?_
      refine we<|tx<|tx<|bx<|?_
      refine tn<|?_
      exact ⟨vB2,vB3,HB1,oaB4,capB5,vsB6,hm,hxHB1,hF.has ⟨rfl,rfl,rfl,rfl,trivial⟩,hS,hvB7⟩
  clear hm hF hS
  rintro a w ⟨vA2,vA3,HA1,oaA4,capA5,vsA6,hm,hxHA1,hF,hS,hvA7⟩
  unfold Z3f at hm
  refine th<|?_
  replace hm:=bind_some hm
  obtain ⟨r47,h48,hm⟩:=hm
  refine rg<|?_
  refine ls<|q1 hF rfl (e_move hF rfl) fun a hF=>?_
  replace hS:=hS.pickL (.cons (.tail .head) (.cons .head (.cons .head (.cons .head (.cons .head (.cons .head .nil))))))
  replace hS:=St.sep [blk b3 (.cells [strv vA2.S,.int .i64 vA2.At,.bool vA2.Bad].toArray 74 (0,0))] hS
  refine ls<|c1 hF rfl Tryz.call37 (Z3r_c (St.le hS) (p1:=vA2) (b2:=b3) (St.sepOk hS) (St.sepDis hS) h48) ⟨rfl,trivial⟩ (fun v w a hR hF=>?_)
  obtain ⟨H52,cs53,rfl,g54,hx49,hl50,hd51,hk⟩:=hR
  obtain ⟨hS,hx49⟩:=And.intro (St.mutH hS hk hx49 hl50 hd51) (St.extc0 hS hx49)
  replace hS:=hS.unsep
  clear hk
  obtain ⟨oa55,cap56,rfl,hc57,hr58⟩:=api_Code_open g54
  refine ls<|q1 hF rfl (e_fa hF fa29_5 rfl) fun a hF=>?_
  refine ls<|s_blkP [.slice oa6 rz4.1.length cap7,.int .i64 r12.1,.slice oa16 r14.1.length cap17,.int .i64 r21.1,.slice oaA4 vA3.length capA5] [.int .i64 0,.int .i64 0,.slice none 0 0] [.int .i64 r47.1.Regs,.int .i64 r47.1.Counts,.slice oa55 r47.1.L.length cap56] [.slice none 0 0] (c:=[.slice oa6 rz4.1.length cap7,.int .i64 r12.1,.slice oa16 r14.1.length cap17,.int .i64 r21.1,.slice oaA4 vA3.length capA5,.int .i64 0,.int .i64 0,.slice none 0 0,.slice none 0 0]) (c':=[.slice oa6 rz4.1.length cap7,.int .i64 r12.1,.slice oa16 r14.1.length cap17,.int .i64 r21.1,.slice oaA4 vA3.length capA5,.int .i64 r47.1.Regs,.int .i64 r47.1.Counts,.slice oa55 r47.1.L.length cap56,.slice none 0 0]) hF hS Tryz.sizeOf26 rfl rfl rfl rfl rfl (one_cells rfl) rfl rfl (.tail (.tail (.tail (.tail (.tail .head))))) fun w hS=>?_
  refine re<|?_
  refine tn<|th<|?_
  replace hm:=bind_some hm
  obtain ⟨r59,h60,hm⟩:=hm
  refine rg<|?_
  refine ls<|q1 hF rfl (e_move hF rfl) fun a hF=>?_
  replace hS:=hS.pickL (.cons .head (.cons .head (.cons .head (.cons .head (.cons .head (.cons .head .nil))))))
  replace hS:=St.sep [blk b3 (.cells [strv r47.2.S,.int .i64 r47.2.At,.bool r47.2.Bad].toArray 74 (0,0))] hS
  refine ls<|c1 hF rfl Tryz.call36 (Z3u_c (St.le hS) (p1:=r47.2) (b2:=b3) (St.sepOk hS) (St.sepDis hS) h60) ⟨rfl,trivial⟩ (fun v w a hR hF=>?_)
  obtain ⟨rfl,hk⟩:=hR
  replace hS:=(hS.mut hk .head).unsep
  clear hk
  refine ls<|q1 hF rfl (e_asg hF rfl) fun a hF=>?_
  refine re<|?_
  refine tn<|th<|th<|?_
  refine rg<|?_
  refine ls<|q1 hF rfl (e_asg hF rfl) fun a hF=>?_
  refine re<|?_
  refine tn<|midK (fun a w=>∃ (vA10:leadlineref10_In) (vA11:(List (List api_Op))) (HA9:PH) (oaA12:Option Addr) (capA13:Nat) (vsA14:List Value),(Z3g N p1 rz4 r12 r14 r21 vA3 r47) vA10 vA11=some r∧Ext w0 H52 HA9∧Fr 91 [(0,strv p1),(2,.pointer (some ⟨b2,0,none⟩)),(4,.pointer (some ⟨b3,0,none⟩)),(5,.pointer (some ⟨b11,0,none⟩))] a∧St w0 Nil [HA9] [blk b2 (.cells [.slice none 0 0,.int .i64 0,.slice none 0 0,.int .i64 0,.slice none 0 0,.int .i64 0,.int .i64 0,.slice none 0 0,.slice none 0 0].toArray 29 (0,0)),blk b3 (.cells [strv vA10.S,.int .i64 vA10.At,.bool vA10.Bad].toArray 74 (0,0)),sla 3 1 oa6 rz4.1.length cap7 vs8,sla 3 1 oa16 r14.1.length cap17 vs18,sla 26 3 oaA4 vA3.length capA5 vsA6,sla 54 1 oaA12 vA11.length capA13 vsA14,blk b11 (.cells [.slice oa6 rz4.1.length cap7,.int .i64 r12.1,.slice oa16 r14.1.length cap17,.int .i64 r21.1,.slice oaA4 vA3.length capA5,.int .i64 r47.1.Regs,.int .i64 r47.1.Counts,.slice oa55 r47.1.L.length cap56,.slice oaA12 vA11.length capA13].toArray 29 (0,0))] w∧Rows HA9 vsA14 vA11) ?_ ?_
  ·
    replace hS:=St.nilS hS 54 1
    replace hS:=hS.pickL (.cons (.tail (.tail .head)) (.cons (.tail .head) (.cons (.tail .head) (.cons (.tail .head) (.cons (.tail .head) (.cons .head (.cons .head .nil)))))))
    refine wb<|lp (α:=Nat×leadlineref10_In×(List (List api_Op))×Int) (fun (gh:Nat×leadlineref10_In×(List (List api_Op))×Int) a w=>match gh with | (nn4,vB11,vB12,vB18)=>∃ (HB10:PH) (oaB13:Option Addr) (capB14:Nat) (vsB15:List Value),(Z3i N (Z3g N p1 rz4 r12 r14 r21 vA3 r47) r59) nn4 vB11 vB12 vB18=some r∧Ext w0 H52 HB10∧Fr 91 [(0,strv p1),(2,.pointer (some ⟨b2,0,none⟩)),(4,.pointer (some ⟨b3,0,none⟩)),(5,.pointer (some ⟨b11,0,none⟩)),(6,.int .i64 r59.1),(8,.int .i64 vB18)] a∧St w0 Nil [HB10] [blk b2 (.cells [.slice none 0 0,.int .i64 0,.slice none 0 0,.int .i64 0,.slice none 0 0,.int .i64 0,.int .i64 0,.slice none 0 0,.slice none 0 0].toArray 29 (0,0)),blk b3 (.cells [strv vB11.S,.int .i64 vB11.At,.bool vB11.Bad].toArray 74 (0,0)),sla 3 1 oa6 rz4.1.length cap7 vs8,sla 3 1 oa16 r14.1.length cap17 vs18,sla 26 3 oaA4 vA3.length capA5 vsA6,sla 54 1 oaB13 vB12.length capB14 vsB15,blk b11 (.cells [.slice oa6 rz4.1.length cap7,.int .i64 r12.1,.slice oa16 r14.1.length cap17,.int .i64 r21.1,.slice oaA4 vA3.length capA5,.int .i64 r47.1.Regs,.int .i64 r47.1.Counts,.slice oa55 r47.1.L.length cap56,.slice oaB13 vB12.length capB14].toArray 29 (0,0))] w∧Rows HB10 vsB15 vB12) (fun gh=>gh.1) (N,r59.2,[],0) ⟨H52,none,0,[],hm,(Ext.refl _ _),hF.has ⟨rfl,rfl,rfl,rfl,rfl,rfl,trivial⟩,hS,.nil⟩ ?_
    clear hm hF hS
    rintro ⟨nn4,vB11,vB12,vB18⟩ a w ⟨HB10,oaB13,capB14,vsB15,hm,hxHB10,hF,hS,hvB16⟩
    obtain _ | nn4:=nn4
    · simp [Z3i] at hm
    rw [Z3i] at hm
    refine th<|th<|?_
    refine rg<|?_
    refine ls<|q1 hF rfl (e_move hF rfl) fun a hF=>?_
    refine ls<|q1 hF rfl (e_move hF rfl) fun a hF=>?_
    refine ls<|q1 hF rfl (e_lss hF rfl rfl) fun a hF=>?_
    refine ls<|q1 hF rfl (e_move hF rfl) fun a hF=>?_
    refine grp (N:=91) (Fk:=[(0,strv p1),(2,.pointer (some ⟨b2,0,none⟩)),(4,.pointer (some ⟨b3,0,none⟩)),(5,.pointer (some ⟨b11,0,none⟩)),(6,.int .i64 r59.1),(8,.int .i64 vB18),(61,.bool ((decide (vB18 < r59.1)) && (!vB11.Bad)))]) (b:=(decide (vB18 < r59.1))) 6 hS ?_ ?_ ?_
    ·
      intro hb key
      replace hF:=Fr.as hF (t:=55) rfl (congrArg Value.bool hb)
      refine ls<|gy hF rfl rfl<|q1 hF rfl (e_move hF rfl) fun a hF=>?_
      refine ls<|gy hF rfl rfl<|q1 hF rfl (e_nilp hF rfl) fun a hF=>?_
      refine ls<|gy hF rfl rfl<|q1 hF rfl (e_fa hF fa74_2 rfl) fun a hF=>?_
      refine ls<|gy hF rfl rfl<|q1 hF rfl (e_ld hF Tryz.isAgg4 rfl ((St.ld hS).cellB (.tail _ (.head _)) rfl)) fun a hF=>?_
      refine ls<|gy hF rfl rfl<|q1 hF rfl (e_not hF rfl) fun a hF=>?_
      refine ls<|q1 hF rfl (e_as (v':=.bool ((decide (vB18 < r59.1)) && (!vB11.Bad))) (e_pickT hF rfl rfl) (by rw [hb];rfl)) fun a hF=>?_
      exact key _ _ (hF.has ⟨rfl,rfl,rfl,rfl,rfl,rfl,rfl,trivial⟩) hS
    ·
      intro hb key
      replace hF:=Fr.as hF (t:=55) rfl (congrArg Value.bool hb)
      refine ls<|gn hF rfl rfl rfl rfl fun a hF=>?_
      refine ls<|gn hF rfl rfl rfl rfl fun a hF=>?_
      refine ls<|gn hF rfl rfl rfl rfl fun a hF=>?_
      refine ls<|gn hF rfl rfl rfl rfl fun a hF=>?_
      refine ls<|gn hF rfl rfl rfl rfl fun a hF=>?_
      refine ls<|q1 hF rfl (e_as (v':=.bool ((decide (vB18 < r59.1)) && (!vB11.Bad))) (e_pickF hF rfl rfl) (by rw [hb];rfl)) fun a hF=>?_
      exact key _ _ (hF.has ⟨rfl,rfl,rfl,rfl,rfl,rfl,rfl,trivial⟩) hS
    intro a w hF hS
    refine re<|?_
    rcases bdich ((decide (vB18 < r59.1)) && (!vB11.Bad)) with hb61 | hb61
    ·
      replace hm:=ite_t hm hb61
      refine tn<|ctv hF rfl hb61<|wk<|?_
      refine tn<|th<|wb<|?_
      replace hm:=bind_some hm
      obtain ⟨r62,h63,hm⟩:=hm
      replace hm:=bind_some hm
      obtain ⟨l76,h77,hm⟩:=hm
      refine rdL (sub_cons (.head _) (sub_cons (.tail _ (.tail _ (.head _))) (sub_cons (.tail _ (.tail _ (.tail _ (.head _)))) (sub_cons (.tail _ (.tail _ (.tail _ (.tail _ (.head _))))) (sub_cons (.tail _ (.tail _ (.tail _ (.tail _ (.tail _ (.tail _ (.head _))))))) sub_nil))))) 7 hS wide fun w hS=>?_
      refine d1 (i:=0) rfl (by kernel_rfl) (by kernel_rfl) (St.ldsX hS (fun _ _ h=>h) (sub_cons (.head _) (sub_cons (.tail _ (.tail _ (.head _))) (sub_cons (.tail _ (.tail _ (.tail _ (.head _)))) (sub_cons (.tail _ (.tail _ (.tail _ (.tail _ (.head _))))) (sub_cons (.tail _ (.tail _ (.tail _ (.tail _ (.tail _ (.tail _ (.head _))))))) sub_nil)))))) hF rfl (fun _ _ _ h=>h) (fun w hl=>(e_fa hF fa29_6 rfl)) fun a hF=>?_
      refine d1 (i:=1) rfl (by kernel_rfl) (by kernel_rfl) (St.ldsX hS (fun _ _ h=>h) (sub_cons (.head _) (sub_cons (.tail _ (.tail _ (.head _))) (sub_cons (.tail _ (.tail _ (.tail _ (.head _)))) (sub_cons (.tail _ (.tail _ (.tail _ (.tail _ (.head _))))) (sub_cons (.tail _ (.tail _ (.tail _ (.tail _ (.tail _ (.tail _ (.head _))))))) sub_nil)))))) hF rfl (fun _ _ _ h=>h) (fun w hl=>(e_ld hF Tryz.isAgg27 rfl (hl.cellB (.tail _ (.tail _ (.tail _ (.tail _ (.head _))))) rfl))) fun a hF=>?_
      refine d1 (i:=2) rfl (by kernel_rfl) (by kernel_rfl) (St.ldsX hS (fun _ _ h=>h) (sub_cons (.head _) (sub_cons (.tail _ (.tail _ (.head _))) (sub_cons (.tail _ (.tail _ (.tail _ (.head _)))) (sub_cons (.tail _ (.tail _ (.tail _ (.tail _ (.head _))))) (sub_cons (.tail _ (.tail _ (.tail _ (.tail _ (.tail _ (.tail _ (.head _))))))) sub_nil)))))) hF rfl (fun _ _ _ h=>h) (fun w hl=>(e_move hF rfl)) fun a hF=>?_
      refine da1 (i:=3) (by kernel_rfl) ?_
      replace hS:=hS.pickL (.cons (.tail .head) (.cons .head (.cons .head (.cons .head (.cons .head (.cons .head (.cons .head .nil)))))))
      replace hS:=St.sep [blk b3 (.cells [strv vB11.S,.int .i64 vB11.At,.bool vB11.Bad].toArray 74 (0,0))] hS
      refine di (i:=3) rfl<|c1 hF rfl Tryz.call38 (Z3z_c (St.le hS) (p1:=vB11) (b2:=b3) (St.sepOk hS) (St.sepDis hS) h63) ⟨rfl,trivial⟩ (fun v w a hR hF=>?_)
      obtain ⟨oa64,cap65,vs66,rfl,hv67,hk⟩:=hR
      replace hS:=(hS.mut hk .head).unsep
      clear hk
      replace hv67:=hv67 HB10
      refine ⟨fun _=>(St.ldsX hS (fun _ _ h=>h) (sub_cons (.tail _ (.tail _ (.head _))) (sub_cons (.tail _ (.tail _ (.tail _ (.head _)))) (sub_cons (.tail _ (.tail _ (.tail _ (.tail _ (.head _))))) (sub_cons (.tail _ (.tail _ (.tail _ (.tail _ (.tail _ (.head _)))))) (sub_cons (.tail _ (.tail _ (.tail _ (.tail _ (.tail _ (.tail _ (.tail _ (.head _)))))))) sub_nil)))))),?_⟩
      refine da1 (i:=4) (by kernel_rfl) ?_
      obtain ⟨H72,hx69,hr70,hc71,hS⟩:=St.frzS hS (.tail .head) hv67
      refine di (i:=4) rfl<|a_bsl (e:=54) (sz:=1) [.slice oa64 r62.1.length cap65] hF rfl hS rfl rfl rfl (fun w=>by kernel_rfl) fun b74 w a hS hF=>?_
      have hv73:Rows (α:=(List api_Op)) H72 [.slice oa64 r62.1.length cap65] ([r62.1]:List (List api_Op)):=(.cons (c:=[.slice oa64 r62.1.length cap65]) ⟨_,_,rfl,hc71,hr70⟩ .nil)
      refine ⟨fun _=>(St.ldsX hS hx69.sub (sub_cons (.tail _ (.tail _ (.head _))) (sub_cons (.tail _ (.tail _ (.tail _ (.head _)))) (sub_cons (.tail _ (.tail _ (.tail _ (.tail _ (.head _))))) (sub_cons (.tail _ (.tail _ (.tail _ (.tail _ (.tail _ (.head _)))))) (sub_cons (.tail _ (.tail _ (.tail _ (.tail _ (.tail _ (.tail _ (.tail _ (.head _)))))))) sub_nil)))))),?_⟩
      refine da1 (i:=5) (by kernel_rfl) ?_
      refine di (i:=5) rfl<|m_app (α:=(List api_Op)) (xs:=vB12) (ys:=([r62.1]:List (List api_Op))) hF rfl hS Tryz.underlying27 info54 rfl (by decide) rfl rfl rfl (.tail _ (.tail _ (.tail _ (.tail _ (.tail _ (.tail _ (.head _))))))) (hvB16.mono hx69.sub) (hS.rdO (.head _)) hv73 h77 fun oa78 cap79 vs80 w a hv81 hU hF=>?_
      replace hS:=hU _ (.tail (.tail (.tail (.tail (.tail (.tail .head))))))
      clear hU
      replace hS:=hS.drop .head
      refine ⟨fun _=>(St.ldsX hS hx69.sub (sub_cons (.tail _ (.head _)) (sub_cons (.tail _ (.tail _ (.head _))) (sub_cons (.tail _ (.tail _ (.tail _ (.head _)))) (sub_cons (.tail _ (.tail _ (.tail _ (.tail _ (.head _))))) (sub_cons (.tail _ (.tail _ (.tail _ (.tail _ (.tail _ (.tail _ (.head _))))))) sub_nil)))))),?_⟩
      refine d1 (i:=6) rfl (by kernel_rfl) (by kernel_rfl) (St.ldsX hS hx69.sub (sub_cons (.tail _ (.head _)) (sub_cons (.tail _ (.tail _ (.head _))) (sub_cons (.tail _ (.tail _ (.tail _ (.head _)))) (sub_cons (.tail _ (.tail _ (.tail _ (.tail _ (.head _))))) (sub_cons (.tail _ (.tail _ (.tail _ (.tail _ (.tail _ (.tail _ (.head _))))))) sub_nil)))))) hF rfl (fun _ _ _ h=>h) (fun w hl=>(e_fa hF fa29_6 rfl)) fun a hF=>?_
      refine da1 (i:=7) (by kernel_rfl) ?_
      refine di (i:=7) rfl<|s_blk hF hS Tryz.sizeOf27 rfl rfl rfl rfl (.tail (.tail (.tail (.tail (.tail (.tail .head)))))) (.succ (.succ (.succ (.succ (.succ (.succ (.succ (.succ .zero)))))))) fun w hS=>?_
      refine ⟨fun h=>absurd rfl h,?_⟩
      refine de (by kernel_rfl)<|?_
      refine bn<|tn<|?_
      refine rg<|?_
      refine ls<|q1 hF rfl (e_move hF rfl) fun a hF=>?_
      refine ls<|q1 hF rfl (e_add hF rfl rfl) fun a hF=>?_
      refine ls<|q1 hF rfl (e_asg hF rfl) fun a hF=>?_
      refine re<|?_
      refine tn<|?_
      replace hS:=hS.pickL (.cons (.tail .head) (.cons .head (.cons .head (.cons .head (.cons .head (.cons .head (.cons .head .nil)))))))
      exact ⟨(nn4,r62.2,l76,(IntKind.i64.wrap (vB18+1))),⟨H72,oa78,cap79,vs80,hm,(Ext.trans hxHB10 hx69),hF.has ⟨rfl,rfl,rfl,rfl,rfl,rfl,trivial⟩,hS,hv81⟩,Nat.lt_succ_self _⟩
    ·
      replace hm:=ite_f hm hb61
      refine tn<|cfv hF rfl hb61<|?_
      refine we<|tx<|tx<|bx<|?_
      refine tn<|?_
      exact ⟨vB11,vB12,HB10,oaB13,capB14,vsB15,hm,hxHB10,hF.has ⟨rfl,rfl,rfl,rfl,trivial⟩,hS,hvB16⟩
  clear hm hF hS
  rintro a w ⟨vA10,vA11,HA9,oaA12,capA13,vsA14,hm,hxHA9,hF,hS,hvA15⟩
  unfold Z3g at hm
  refine th<|?_
  replace hm:=bind_some hm
  obtain ⟨r98,h99,hm⟩:=hm
  refine rg<|?_
  refine ls<|q1 hF rfl (e_ldA hF Tryz.isAgg29 Tryz.sizeOf29 rfl rfl ((St.ld hS).cellsB (.tail _ (.tail _ (.tail _ (.tail _ (.tail _ (.tail _ (.head _))))))))) fun a hF=>?_
  obtain ⟨H85,hx82,hr83,hc84,hS⟩:=St.frzS hS (.tail (.tail .head)) (hv9.mono (fun b o h=>(fun b o h=>hxHA9.sub b o (hx49.sub b o h)) b o (hxHA1.sub b o h)))
  obtain ⟨H89,hx86,hr87,hc88,hS⟩:=St.frzS hS (.tail (.tail .head)) (hv19.mono (fun b o h=>(fun b o h=>(fun b o h=>hx82.sub b o (hxHA9.sub b o h)) b o (hx49.sub b o h)) b o (hxHA1.sub b o h)))
  obtain ⟨H93,hx90,hr91,hc92,hS⟩:=St.frzS hS (.tail (.tail .head)) (hvA7.mono (fun b o h=>(fun b o h=>(fun b o h=>hx86.sub b o (hx82.sub b o h)) b o (hxHA9.sub b o h)) b o (hx49.sub b o h)))
  obtain ⟨H97,hx94,hr95,hc96,hS⟩:=St.frzS hS (.tail (.tail .head)) (hvA15.mono (fun b o h=>(fun b o h=>hx90.sub b o (hx86.sub b o h)) b o (hx82.sub b o h)))
  refine ls<|c1 hF rfl Tryz.call9 (Z3j_c (hp_le _) (Enc.mono (St.up hS) (show Enc.rep (α:=api_Unit) H97 [.slice oa6 rz4.1.length cap7,.int .i64 r12.1,.slice oa16 r14.1.length cap17,.int .i64 r21.1,.slice oaA4 vA3.length capA5,.int .i64 r47.1.Regs,.int .i64 r47.1.Counts,.slice oa55 r47.1.L.length cap56,.slice oaA12 vA11.length capA13] (api_Unit.mk rz4.1 r12.1 r14.1 r21.1 vA3 r47.1 vA11) from ⟨_,_,rfl,⟨_,_,rfl,hc84,(hr83.mono (fun b o h=>(fun b o h=>hx94.sub b o (hx90.sub b o h)) b o (hx86.sub b o h)))⟩,⟨_,_,rfl,rfl,⟨_,_,rfl,⟨_,_,rfl,hc88,(hr87.mono (fun b o h=>hx94.sub b o (hx90.sub b o h)))⟩,⟨_,_,rfl,rfl,⟨_,_,rfl,⟨_,_,rfl,hc92,(hr91.mono hx94.sub)⟩,⟨_,_,rfl,⟨_,_,rfl,rfl,⟨_,_,rfl,rfl,⟨_,_,rfl,hc57,(hr58.mono (fun b o h=>(fun b o h=>(fun b o h=>(fun b o h=>hx94.sub b o (hx90.sub b o h)) b o (hx86.sub b o h)) b o (hx82.sub b o h)) b o (hxHA9.sub b o h)))⟩⟩⟩,⟨_,_,rfl,hc96,hr95⟩⟩⟩⟩⟩⟩⟩)) h99) ⟨rfl,trivial⟩ (fun v w a hR hF=>?_)
  obtain ⟨rfl,hk⟩:=hR
  replace hS:=hS.pass hk
  clear hk
  refine ls<|q1 hF rfl (e_move hF rfl) fun a hF=>?_
  refine ls<|q1 hF rfl (e_ext hF rfl rfl) fun a hF=>?_
  refine ls<|q1 hF rfl (e_ext hF rfl rfl) fun a hF=>?_
  refine ls<|q1 hF rfl (e_asg hF rfl) fun a hF=>?_
  refine ls<|q1 hF rfl (e_asg hF rfl) fun a hF=>?_
  refine re<|?_
  refine tn<|th<|th<|?_
  refine rg<|?_
  refine ls<|q1 hF rfl (e_move hF rfl) fun a hF=>?_
  refine ls<|q1 hF rfl (e_nilp hF rfl) fun a hF=>?_
  refine ls<|q1 hF rfl (e_fa hF fa74_2 rfl) fun a hF=>?_
  refine ls<|q1 hF rfl (e_ld hF Tryz.isAgg4 rfl ((St.ld hS).cellB (.tail _ (.head _)) rfl)) fun a hF=>?_
  refine ls<|q1 hF rfl (e_move hF rfl) fun a hF=>?_
  refine grp (N:=91) (Fk:=[(0,strv p1),(2,.pointer (some ⟨b2,0,none⟩)),(5,.pointer (some ⟨b11,0,none⟩)),(9,strv r98.1),(83,.bool (vA10.Bad || (decide (r98.2≠0))))]) (b:=vA10.Bad) 3 hS ?_ ?_ ?_
  ·
    intro hb key
    replace hF:=Fr.as hF (t:=80) rfl (congrArg Value.bool hb)
    refine ls<|gn hF rfl rfl rfl rfl fun a hF=>?_
    refine ls<|gn hF rfl rfl rfl rfl fun a hF=>?_
    refine ls<|q1 hF rfl (e_as (v':=.bool (vA10.Bad || (decide (r98.2≠0)))) (e_pickT hF rfl rfl) (by rw [hb];rfl)) fun a hF=>?_
    exact key _ _ (hF.has ⟨rfl,rfl,rfl,rfl,rfl,trivial⟩) hS
  ·
    intro hb key
    replace hF:=Fr.as hF (t:=80) rfl (congrArg Value.bool hb)
    refine ls<|gy hF rfl rfl<|q1 hF rfl (e_move hF rfl) fun a hF=>?_
    refine ls<|gy hF rfl rfl<|q1 hF rfl (e_neq hF rfl rfl) fun a hF=>?_
    refine ls<|q1 hF rfl (e_as (v':=.bool (vA10.Bad || (decide (r98.2≠0)))) (e_pickF hF rfl rfl) (by rw [hb];rfl)) fun a hF=>?_
    exact key _ _ (hF.has ⟨rfl,rfl,rfl,rfl,rfl,trivial⟩) hS
  intro a w hF hS
  refine ls<|q1 hF rfl (e_move hF rfl) fun a hF=>?_
  refine grp (N:=91) (Fk:=[(2,.pointer (some ⟨b2,0,none⟩)),(5,.pointer (some ⟨b11,0,none⟩)),(88,.bool ((vA10.Bad || (decide (r98.2≠0))) || (decide (r98.1≠p1))))]) (b:=(vA10.Bad || (decide (r98.2≠0)))) 4 hS ?_ ?_ ?_
  ·
    intro hb key
    replace hF:=Fr.as hF (t:=84) rfl (congrArg Value.bool hb)
    refine ls<|gn hF rfl rfl rfl rfl fun a hF=>?_
    refine ls<|gn hF rfl rfl rfl rfl fun a hF=>?_
    refine ls<|gn hF rfl rfl rfl rfl fun a hF=>?_
    refine ls<|q1 hF rfl (e_as (v':=.bool ((vA10.Bad || (decide (r98.2≠0))) || (decide (r98.1≠p1)))) (e_pickT hF rfl rfl) (by rw [hb];rfl)) fun a hF=>?_
    exact key _ _ (hF.has ⟨rfl,rfl,rfl,trivial⟩) hS
  ·
    intro hb key
    replace hF:=Fr.as hF (t:=84) rfl (congrArg Value.bool hb)
    refine ls<|gy hF rfl rfl<|q1 hF rfl (e_move hF rfl) fun a hF=>?_
    refine ls<|gy hF rfl rfl<|q1 hF rfl (e_move hF rfl) fun a hF=>?_
    refine ls<|gy hF rfl rfl<|q1 hF rfl (e_neqU (m:=r98.1) (n:=p1) hF rfl rfl) fun a hF=>?_
    refine ls<|q1 hF rfl (e_as (v':=.bool ((vA10.Bad || (decide (r98.2≠0))) || (decide (r98.1≠p1)))) (e_pickF hF rfl rfl) (by rw [hb];rfl)) fun a hF=>?_
    exact key _ _ (hF.has ⟨rfl,rfl,rfl,trivial⟩) hS
  intro a w hF hS
  refine re<|?_
  rcases bdich ((vA10.Bad || (decide (r98.2≠0))) || (decide (r98.1≠p1))) with hb100 | hb100
  ·
    replace hm:=ite_t hm hb100
    refine tn<|ctv hF rfl hb100<|th<|?_
    refine rg<|?_
    refine ls<|q1 hF rfl (e_bldK [] [.slice none 0 0,.int .i64 0,.slice none 0 0,.int .i64 0,.slice none 0 0,.int .i64 0,.int .i64 0,.slice none 0 0,.slice none 0 0] hF trivial (fun w=>by kernel_rfl)) fun a hF=>?_
    refine ls<|s_blkA hF hS Tryz.sizeOf29 rfl rfl rfl rfl (one_cells rfl) .head fun w hS=>?_
    refine ls<|q1 hF rfl (e_asg hF rfl) fun a hF=>?_
    refine re<|?_
    refine tn<|?_
    refine wr<|tr<|?_
    obtain rfl:=Option.some.inj hm
    exact r2c (vs:=[.slice none 0 0,.int .i64 0,.slice none 0 0,.int .i64 0,.slice none 0 0,.int .i64 0,.int .i64 0,.slice none 0 0,.slice none 0 0]) (.inl rfl) hF Tryz.results11 rfl rfl Tryz.isAgg29 Tryz.sizeOf29 rfl ((St.ld hS).cellsB (.head _)) ⟨H97,_,rfl,(show Enc.rep (α:=api_Unit) H97 [.slice none 0 0,.int .i64 0,.slice none 0 0,.int .i64 0,.slice none 0 0,.int .i64 0,.int .i64 0,.slice none 0 0,.slice none 0 0] (api_Unit.mk [] 0 [] 0 [] (api_Code.mk 0 0 []) []) from ⟨_,_,rfl,⟨none,0,rfl,Nat.le_refl _,SR.nil _ _⟩,⟨_,_,rfl,rfl,⟨_,_,rfl,⟨none,0,rfl,Nat.le_refl _,SR.nil _ _⟩,⟨_,_,rfl,rfl,⟨_,_,rfl,⟨none,0,rfl,Nat.le_refl _,SR.nil _ _⟩,⟨_,_,rfl,⟨_,_,rfl,rfl,⟨_,_,rfl,rfl,⟨none,0,rfl,Nat.le_refl _,SR.nil _ _⟩⟩⟩,⟨none,0,rfl,Nat.le_refl _,SR.nil _ _⟩⟩⟩⟩⟩⟩⟩),(Ext.trans hxHA1 (Ext.trans hx49 (Ext.trans hxHA9 (Ext.trans hx82 (Ext.trans hx86 (Ext.trans hx90 hx94)))))),(St.le hS),hS.keep⟩
  ·
    replace hm:=ite_f hm hb100
    refine tn<|cfv hF rfl hb100<|wk<|?_
    refine tn<|th<|?_
    refine rg<|?_
    refine ls<|q1 hF rfl (e_ldA hF Tryz.isAgg29 Tryz.sizeOf29 rfl rfl ((St.ld hS).cellsB (.tail _ (.tail _ (.head _))))) fun a hF=>?_
    refine ls<|s_blkA hF hS Tryz.sizeOf29 rfl rfl rfl rfl (one_cells rfl) .head fun w hS=>?_
    refine ls<|q1 hF rfl (e_asg hF rfl) fun a hF=>?_
    refine re<|?_
    refine tn<|?_
    refine wr<|?_
    obtain rfl:=Option.some.inj hm
    exact r2c (vs:=[.slice oa6 rz4.1.length cap7,.int .i64 r12.1,.slice oa16 r14.1.length cap17,.int .i64 r21.1,.slice oaA4 vA3.length capA5,.int .i64 r47.1.Regs,.int .i64 r47.1.Counts,.slice oa55 r47.1.L.length cap56,.slice oaA12 vA11.length capA13]) (.inl rfl) hF Tryz.results11 rfl rfl Tryz.isAgg29 Tryz.sizeOf29 rfl ((St.ld hS).cellsB (.head _)) ⟨H97,_,rfl,(show Enc.rep (α:=api_Unit) H97 [.slice oa6 rz4.1.length cap7,.int .i64 r12.1,.slice oa16 r14.1.length cap17,.int .i64 r21.1,.slice oaA4 vA3.length capA5,.int .i64 r47.1.Regs,.int .i64 r47.1.Counts,.slice oa55 r47.1.L.length cap56,.slice oaA12 vA11.length capA13] (api_Unit.mk rz4.1 r12.1 r14.1 r21.1 vA3 r47.1 vA11) from ⟨_,_,rfl,⟨_,_,rfl,hc84,(hr83.mono (fun b o h=>(fun b o h=>hx94.sub b o (hx90.sub b o h)) b o (hx86.sub b o h)))⟩,⟨_,_,rfl,rfl,⟨_,_,rfl,⟨_,_,rfl,hc88,(hr87.mono (fun b o h=>hx94.sub b o (hx90.sub b o h)))⟩,⟨_,_,rfl,rfl,⟨_,_,rfl,⟨_,_,rfl,hc92,(hr91.mono hx94.sub)⟩,⟨_,_,rfl,⟨_,_,rfl,rfl,⟨_,_,rfl,rfl,⟨_,_,rfl,hc57,(hr58.mono (fun b o h=>(fun b o h=>(fun b o h=>(fun b o h=>hx94.sub b o (hx90.sub b o h)) b o (hx86.sub b o h)) b o (hx82.sub b o h)) b o (hxHA9.sub b o h)))⟩⟩⟩,⟨_,_,rfl,hc96,hr95⟩⟩⟩⟩⟩⟩⟩),(Ext.trans hxHA1 (Ext.trans hx49 (Ext.trans hxHA9 (Ext.trans hx82 (Ext.trans hx86 (Ext.trans hx90 hx94)))))),(St.le hS),hS.keep⟩
set_option maxRecDepth 100000 in
theorem Z1s_c {N:Nat} {w0:World} {H:PH} (hH:H.le w0) {oa2:Option Addr} {cap3:Nat} {p1:(List Int)} (hc4:p1.length≤cap3) (hr5:SR H oa2 p1) {oa7:Option Addr} {cap8:Nat} {p6:(List Int)} (hc9:p6.length≤cap8) (hr10:SR H oa7 p6) {r:Bool} (hm:Z1s N p1 p6=some r):Tot Tryz.prog 39 #[.slice oa2 p1.length cap3,.slice oa7 p6.length cap8] w0 (fun v w'=>v=.bool r∧Keep Nil w0 w'):=by
  unfold Z1s at hm
  refine fn0 (args:=[.slice oa2 p1.length cap3,.slice oa7 p6.length cap8]) (F:=[(0,.slice oa2 p1.length cap3),(1,.slice oa7 p6.length cap8)]) Tryz.func39 rfl Tryz.ntmps39 rfl rfl fun a hF=>?_
  have hS:St w0 Nil [H] [] w0:=start1 hH
  refine th<|?_
  refine rg<|?_
  refine ls<|q1 hF rfl (e_asg hF rfl) fun a hF=>?_
  refine re<|?_
  refine tn<|th<|th<|?_
  refine rg<|?_
  refine ls<|q1 hF rfl (e_move hF rfl) fun a hF=>?_
  refine ls<|q1 hF rfl (e_lenL (α:=Int) (xs:=p1) hF Tryz.runUnderlying22 rfl) fun a hF=>?_
  refine ls<|q1 hF rfl (e_move hF rfl) fun a hF=>?_
  refine ls<|q1 hF rfl (e_lenL (α:=Int) (xs:=p6) hF Tryz.runUnderlying22 rfl) fun a hF=>?_
  refine ls<|q1 hF rfl (e_neq hF rfl rfl) fun a hF=>?_
  refine re<|?_
  rcases bdich (decide ((p1.length:Int)≠(p6.length:Int))) with hb11 | hb11
  ·
    replace hm:=itp_t hm hb11
    refine tn<|ctv hF rfl hb11<|th<|?_
    refine rg<|?_
    refine ls<|q1 hF rfl (e_asg hF rfl) fun a hF=>?_
    refine re<|?_
    refine tn<|?_
    refine wr<|tr<|?_
    obtain rfl:=Option.some.inj hm
    exact r1 hF Tryz.results39 rfl ⟨rfl,hS.keep⟩
  ·
    replace hm:=itp_f hm hb11
    refine tn<|cfv hF rfl hb11<|wk<|?_
    refine tn<|th<|th<|?_
    refine rg<|?_
    refine ls<|q1 hF rfl (e_asg hF rfl) fun a hF=>?_
    refine re<|?_
    refine tn<|midK (fun a w=>Z1t=some r∧Fr 26 [] a∧St w0 Nil [H] [] w) ?_ ?_
    ·
      refine wb<|lp (α:=Nat×Int) (fun (gh:Nat×Int) a w=>match gh with | (nn2,vB1)=>(Z1u N Z1t p1 p6) nn2 vB1=some r∧Fr 26 [(0,.slice oa2 p1.length cap3),(1,.slice oa7 p6.length cap8),(5,.int .i64 vB1)] a∧St w0 Nil [H] [] w) (fun gh=>gh.1) (N,0) ⟨hm,hF.has ⟨rfl,rfl,rfl,trivial⟩,hS⟩ ?_
      clear hm hF hS
      rintro ⟨nn2,vB1⟩ a w ⟨hm,hF,hS⟩
      obtain _ | nn2:=nn2
      · simp [Z1u] at hm
      rw [Z1u] at hm
      refine th<|th<|?_
      refine rg<|?_
      refine ls<|q1 hF rfl (e_move hF rfl) fun a hF=>?_
      refine ls<|q1 hF rfl (e_move hF rfl) fun a hF=>?_
      refine ls<|q1 hF rfl (e_lenL (α:=Int) (xs:=p1) hF Tryz.runUnderlying22 rfl) fun a hF=>?_
      refine ls<|q1 hF rfl (e_lss hF rfl rfl) fun a hF=>?_
      refine re<|?_
      rcases bdich (decide (vB1 < (p1.length:Int))) with hb12 | hb12
      ·
        replace hm:=itp_t hm hb12
        refine tn<|ctv hF rfl hb12<|wk<|?_
        refine tn<|th<|wb<|th<|?_
        replace hm:=bind_some hm
        obtain ⟨x13,h14,hm⟩:=hm
        obtain ⟨c15,g16,hl17⟩:=SR.get hr5 h14
        obtain rfl:c15=[.int .i64 x13]:=g16
        replace hm:=bind_some hm
        obtain ⟨x18,h19,hm⟩:=hm
        obtain ⟨c20,g21,hl22⟩:=SR.get hr10 h19
        obtain rfl:c20=[.int .i64 x18]:=g21
        refine rxS 9 hS wide (by kernel_rfl) fun w hS=>?_
        refine x1 (St.ld hS) hF rfl rfl (fun _ _ _ h=>h) (fun w hl=>(e_move hF rfl)) fun a hF=>?_
        refine x1 (St.ld hS) hF rfl rfl (fun _ _ _ h=>h) (fun w hl=>(e_move hF rfl)) fun a hF=>?_
        refine x1 (St.ld hS) hF rfl rfl (fun _ _ _ h=>h) (fun w hl=>(e_iaI hF Tryz.runUnderlying22 Tryz.sizeOf3 rfl rfl h14 (SR.oaI hr5 (by decide) h14))) fun a hF=>?_
        refine x1 (St.ld hS) hF rfl rfl (fun _ _ _ h=>h) (fun w hl=>(e_ld hF Tryz.isAgg3 rfl (PH.le.cell (Lds.le hl) (hl17 0 _ rfl)))) fun a hF=>?_
        refine x1 (St.ld hS) hF rfl rfl (fun _ _ _ h=>h) (fun w hl=>(e_move hF rfl)) fun a hF=>?_
        refine x1 (St.ld hS) hF rfl rfl (fun _ _ _ h=>h) (fun w hl=>(e_move hF rfl)) fun a hF=>?_
        refine x1 (St.ld hS) hF rfl rfl (fun _ _ _ h=>h) (fun w hl=>(e_iaI hF Tryz.runUnderlying22 Tryz.sizeOf3 rfl rfl h19 (SR.oaI hr10 (by decide) h19))) fun a hF=>?_
        refine x1 (St.ld hS) hF rfl rfl (fun _ _ _ h=>h) (fun w hl=>(e_ld hF Tryz.isAgg3 rfl (PH.le.cell (Lds.le hl) (hl22 0 _ rfl)))) fun a hF=>?_
        refine x1 (St.ld hS) hF rfl rfl (fun _ _ _ h=>h) (fun w hl=>(e_neq hF rfl rfl)) fun a hF=>?_
        refine xe<|?_
        rcases bdich (decide (x13≠x18)) with hb23 | hb23
        ·
          replace hm:=itp_t hm hb23
          refine tn<|ctv hF rfl hb23<|th<|?_
          refine rg<|?_
          refine ls<|q1 hF rfl (e_asg hF rfl) fun a hF=>?_
          refine re<|?_
          refine tn<|?_
          refine wr<|br<|tr<|tr<|br<|tr<|?_
          obtain rfl:=Option.some.inj hm
          exact r1 hF Tryz.results39 rfl ⟨rfl,hS.keep⟩
        ·
          replace hm:=itp_f hm hb23
          refine tn<|cfv hF rfl hb23<|wk<|?_
          refine bn<|tn<|?_
          refine rg<|?_
          refine ls<|q1 hF rfl (e_move hF rfl) fun a hF=>?_
          refine ls<|q1 hF rfl (e_add hF rfl rfl) fun a hF=>?_
          refine ls<|q1 hF rfl (e_asg hF rfl) fun a hF=>?_
          refine re<|?_
          refine tn<|?_
          exact ⟨(nn2,(IntKind.i64.wrap (vB1+1))),⟨hm,hF.has ⟨rfl,rfl,rfl,trivial⟩,hS⟩,Nat.lt_succ_self _⟩
      ·
        replace hm:=itp_f hm hb12
        refine tn<|cfv hF rfl hb12<|?_
        refine we<|tx<|tx<|bx<|?_
        refine tn<|?_
        exact ⟨hm,hF.has trivial,hS⟩
    clear hm hF hS
    rintro a w ⟨hm,hF,hS⟩
    unfold Z1t at hm
    refine th<|?_
    refine rg<|?_
    refine ls<|q1 hF rfl (e_asg hF rfl) fun a hF=>?_
    refine re<|?_
    refine tn<|?_
    refine wr<|?_
    obtain rfl:=Option.some.inj hm
    exact r1 hF Tryz.results39 rfl ⟨rfl,hS.keep⟩
set_option maxRecDepth 100000 in
theorem Z1y_c {N:Nat} {w0:World} {H:PH} (hH:H.le w0) {oa2:Option Addr} {cap3:Nat} {p1:(List api_Op)} (hc4:p1.length≤cap3) (hr5:SR H oa2 p1) {oa7:Option Addr} {cap8:Nat} {p6:(List api_Op)} (hc9:p6.length≤cap8) (hr10:SR H oa7 p6) {r:Bool} (hm:Z1y N p1 p6=some r):Tot Tryz.prog 41 #[.slice oa2 p1.length cap3,.slice oa7 p6.length cap8] w0 (fun v w'=>v=.bool r∧Keep Nil w0 w'):=by
  unfold Z1y at hm
  refine fn0 (args:=[.slice oa2 p1.length cap3,.slice oa7 p6.length cap8]) (F:=[(0,.slice oa2 p1.length cap3),(1,.slice oa7 p6.length cap8)]) Tryz.func41 rfl Tryz.ntmps41 rfl rfl fun a hF=>?_
  have hS:St w0 Nil [H] [] w0:=start1 hH
  refine th<|?_
  refine rg<|?_
  refine ls<|q1 hF rfl (e_asg hF rfl) fun a hF=>?_
  refine re<|?_
  refine tn<|th<|th<|?_
  refine rg<|?_
  refine ls<|q1 hF rfl (e_move hF rfl) fun a hF=>?_
  refine ls<|q1 hF rfl (e_lenL (α:=api_Op) (xs:=p1) hF Tryz.runUnderlying54 rfl) fun a hF=>?_
  refine ls<|q1 hF rfl (e_move hF rfl) fun a hF=>?_
  refine ls<|q1 hF rfl (e_lenL (α:=api_Op) (xs:=p6) hF Tryz.runUnderlying54 rfl) fun a hF=>?_
  refine ls<|q1 hF rfl (e_neq hF rfl rfl) fun a hF=>?_
  refine re<|?_
  rcases bdich (decide ((p1.length:Int)≠(p6.length:Int))) with hb11 | hb11
  ·
    replace hm:=itp_t hm hb11
    refine tn<|ctv hF rfl hb11<|th<|?_
    refine rg<|?_
    refine ls<|q1 hF rfl (e_asg hF rfl) fun a hF=>?_
    refine re<|?_
    refine tn<|?_
    refine wr<|tr<|?_
    obtain rfl:=Option.some.inj hm
    exact r1 hF Tryz.results41 rfl ⟨rfl,hS.keep⟩
  ·
    replace hm:=itp_f hm hb11
    refine tn<|cfv hF rfl hb11<|wk<|?_
    refine tn<|th<|th<|?_
    refine rg<|?_
    refine ls<|q1 hF rfl (e_asg hF rfl) fun a hF=>?_
    refine re<|?_
    refine tn<|midK (fun a w=>Z1z=some r∧Fr 26 [] a∧St w0 Nil [H] [] w) ?_ ?_
    ·
      refine wb<|lp (α:=Nat×Int) (fun (gh:Nat×Int) a w=>match gh with | (nn2,vB1)=>(Z20 N Z1z p1 p6) nn2 vB1=some r∧Fr 26 [(0,.slice oa2 p1.length cap3),(1,.slice oa7 p6.length cap8),(5,.int .i64 vB1)] a∧St w0 Nil [H] [] w) (fun gh=>gh.1) (N,0) ⟨hm,hF.has ⟨rfl,rfl,rfl,trivial⟩,hS⟩ ?_
      clear hm hF hS
      rintro ⟨nn2,vB1⟩ a w ⟨hm,hF,hS⟩
      obtain _ | nn2:=nn2
      · simp [Z20] at hm
      rw [Z20] at hm
      refine th<|th<|?_
      refine rg<|?_
      refine ls<|q1 hF rfl (e_move hF rfl) fun a hF=>?_
      refine ls<|q1 hF rfl (e_move hF rfl) fun a hF=>?_
      refine ls<|q1 hF rfl (e_lenL (α:=api_Op) (xs:=p1) hF Tryz.runUnderlying54 rfl) fun a hF=>?_
      refine ls<|q1 hF rfl (e_lss hF rfl rfl) fun a hF=>?_
      refine re<|?_
      rcases bdich (decide (vB1 < (p1.length:Int))) with hb12 | hb12
      ·
        replace hm:=itp_t hm hb12
        refine tn<|ctv hF rfl hb12<|wk<|?_
        refine tn<|th<|wb<|th<|?_
        replace hm:=bind_some hm
        obtain ⟨x13,h14,hm⟩:=hm
        obtain ⟨c15,g16,hl17⟩:=SR.get hr5 h14
        obtain rfl:=api_Op_open g16
        replace hm:=bind_some hm
        obtain ⟨x18,h19,hm⟩:=hm
        obtain ⟨c20,g21,hl22⟩:=SR.get hr10 h19
        obtain rfl:=api_Op_open g21
        refine rxS 9 hS wide (by kernel_rfl) fun w hS=>?_
        refine x1 (St.ld hS) hF rfl rfl (fun _ _ _ h=>h) (fun w hl=>(e_move hF rfl)) fun a hF=>?_
        refine x1 (St.ld hS) hF rfl rfl (fun _ _ _ h=>h) (fun w hl=>(e_move hF rfl)) fun a hF=>?_
        refine x1 (St.ld hS) hF rfl rfl (fun _ _ _ h=>h) (fun w hl=>(e_iaI hF Tryz.runUnderlying54 Tryz.sizeOf83 rfl rfl h14 (SR.oaI hr5 (by decide) h14))) fun a hF=>?_
        refine x1 (St.ld hS) hF rfl rfl (fun _ _ _ h=>h) (fun w hl=>(e_ldA hF Tryz.isAgg83 Tryz.sizeOf83 rfl rfl (fun j v hj=>PH.le.cell (Lds.le hl) (hl17 j v hj)))) fun a hF=>?_
        refine x1 (St.ld hS) hF rfl rfl (fun _ _ _ h=>h) (fun w hl=>(e_move hF rfl)) fun a hF=>?_
        refine x1 (St.ld hS) hF rfl rfl (fun _ _ _ h=>h) (fun w hl=>(e_move hF rfl)) fun a hF=>?_
        refine x1 (St.ld hS) hF rfl rfl (fun _ _ _ h=>h) (fun w hl=>(e_iaI hF Tryz.runUnderlying54 Tryz.sizeOf83 rfl rfl h19 (SR.oaI hr10 (by decide) h19))) fun a hF=>?_
        refine x1 (St.ld hS) hF rfl rfl (fun _ _ _ h=>h) (fun w hl=>(e_ldA hF Tryz.isAgg83 Tryz.sizeOf83 rfl rfl (fun j v hj=>PH.le.cell (Lds.le hl) (hl22 j v hj)))) fun a hF=>?_
        refine x1 (St.ld hS) hF rfl rfl (fun _ _ _ h=>h) (fun w hl=>(api_Op_neq (x:=x13) (y:=x18) hF rfl rfl)) fun a hF=>?_
        refine xe<|?_
        rcases bdich (decide (x13≠x18)) with hb23 | hb23
        ·
          replace hm:=itp_t hm hb23
          refine tn<|ctv hF rfl hb23<|th<|?_
          refine rg<|?_
          refine ls<|q1 hF rfl (e_asg hF rfl) fun a hF=>?_
          refine re<|?_
          refine tn<|?_
          refine wr<|br<|tr<|tr<|br<|tr<|?_
          obtain rfl:=Option.some.inj hm
          exact r1 hF Tryz.results41 rfl ⟨rfl,hS.keep⟩
        ·
          replace hm:=itp_f hm hb23
          refine tn<|cfv hF rfl hb23<|wk<|?_
          refine bn<|tn<|?_
          refine rg<|?_
          refine ls<|q1 hF rfl (e_move hF rfl) fun a hF=>?_
          refine ls<|q1 hF rfl (e_add hF rfl rfl) fun a hF=>?_
          refine ls<|q1 hF rfl (e_asg hF rfl) fun a hF=>?_
          refine re<|?_
          refine tn<|?_
          exact ⟨(nn2,(IntKind.i64.wrap (vB1+1))),⟨hm,hF.has ⟨rfl,rfl,rfl,trivial⟩,hS⟩,Nat.lt_succ_self _⟩
      ·
        replace hm:=itp_f hm hb12
        refine tn<|cfv hF rfl hb12<|?_
        refine we<|tx<|tx<|bx<|?_
        refine tn<|?_
        exact ⟨hm,hF.has trivial,hS⟩
    clear hm hF hS
    rintro a w ⟨hm,hF,hS⟩
    unfold Z1z at hm
    refine th<|?_
    refine rg<|?_
    refine ls<|q1 hF rfl (e_asg hF rfl) fun a hF=>?_
    refine re<|?_
    refine tn<|?_
    refine wr<|?_
    obtain rfl:=Option.some.inj hm
    exact r1 hF Tryz.results41 rfl ⟨rfl,hS.keep⟩
end Go.LM.BINZ
