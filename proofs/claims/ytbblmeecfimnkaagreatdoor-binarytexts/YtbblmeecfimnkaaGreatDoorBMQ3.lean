/- Walks, lifted by program. No condition beyond the theorems' own premises. -/
import Derived.Test.YtbblmeecfimnkaaGreatDoorBMQ2
namespace Go.LM.BINZ
open Go Go.LL Go.MD Go.LM Go.Proofs Go.MD.BINZ
set_option maxRecDepth 100000
set_option maxHeartbeats 4000000 in
set_option maxRecDepth 100000 in
theorem Z4m_c {N:Nat} {w0:World} {H:PH} (hH:H.le w0) {cs2:List Value} {p1:api_Unit} (g3:Enc.rep H cs2 p1) {r:Bool} (hm:Z4m N p1=some r):Tot Tryz.prog 21 #[.agg cs2.toArray] w0 (fun v w'=>v=.bool r∧Keep Nil w0 w'):=by
  unfold Z4m at hm
  refine fn0 (args:=[.agg cs2.toArray]) (F:=[(0,.agg cs2.toArray)]) Tryz.func21 rfl Tryz.ntmps21 rfl rfl fun a hF=>?_
  have hS:St w0 Nil [H] [] w0:=start1 hH
  have g4:Enc.rep (α:=(List Int)×Int×(List Int)×Int×(List api_Code)×api_Code×(List (List api_Op))) H cs2 (p1.Lines,p1.Stays,p1.Firsts,p1.Locks,p1.Threads,p1.Recover,p1.Claims):=g3
  obtain ⟨qz5,qz6,rfl,g7,g8⟩:=g4
  obtain ⟨oa9,cap10,rfl,hc11,hr12⟩:=g7
  obtain ⟨q13,q14,rfl,g15,g16⟩:=g8
  obtain rfl:q13=[.int .i64 p1.Stays]:=g15
  obtain ⟨q17,q18,rfl,g19,g20⟩:=g16
  obtain ⟨oa21,cap22,rfl,hc23,hr24⟩:=g19
  obtain ⟨q25,q26,rfl,g27,g28⟩:=g20
  obtain rfl:q25=[.int .i64 p1.Locks]:=g27
  obtain ⟨q29,q30,rfl,g31,g32⟩:=g28
  obtain ⟨oa33,cap34,rfl,hc35,hr36⟩:=g31
  obtain ⟨q37,q38,rfl,g39,g40⟩:=g32
  obtain ⟨oa41,cap42,rfl,hc43,hr44⟩:=api_Code_open g39
  obtain ⟨oa45,cap46,rfl,hc47,hr48⟩:=g40
  refine th<|?_
  refine rg<|?_
  refine ls<|a_box (cs:=[.slice oa9 p1.Lines.length cap10,.int .i64 p1.Stays,.slice oa21 p1.Firsts.length cap22,.int .i64 p1.Locks,.slice oa33 p1.Threads.length cap34,.int .i64 p1.Recover.Regs,.int .i64 p1.Recover.Counts,.slice oa41 p1.Recover.L.length cap42,.slice oa45 p1.Claims.length cap46].toArray) hF rfl hS rfl rfl fun b49 w a hS hF=>?_
  refine ls<|q1 hF rfl (e_asg hF rfl) fun a hF=>?_
  refine re<|?_
  refine tn<|th<|th<|?_
  refine rg<|?_
  refine ls<|q1 hF rfl (e_fa hF fa29_0 rfl) fun a hF=>?_
  refine ls<|q1 hF rfl (e_ld hF Tryz.isAgg22 rfl ((St.ld hS).cellB (.head _) rfl)) fun a hF=>?_
  refine ls<|q1 hF rfl (e_lenL (α:=Int) (xs:=p1.Lines) hF Tryz.runUnderlying22 rfl) fun a hF=>?_
  refine ls<|q1 hF rfl (e_gtr hF rfl rfl) fun a hF=>?_
  refine ls<|q1 hF rfl (e_move hF rfl) fun a hF=>?_
  refine grp (N:=117) (Fk:=[(1,.pointer (some ⟨b49,0,none⟩)),(18,.bool ((decide (20 < (p1.Lines.length:Int))) || (decide (p1.Stays < 0))))]) (b:=(decide (20 < (p1.Lines.length:Int)))) 4 hS ?_ ?_ ?_
  ·
    intro hb key
    replace hF:=Fr.as hF (t:=14) rfl (congrArg Value.bool hb)
    refine ls<|gn hF rfl rfl rfl rfl fun a hF=>?_
    refine ls<|gn hF rfl rfl rfl rfl fun a hF=>?_
    refine ls<|gn hF rfl rfl rfl rfl fun a hF=>?_
    refine ls<|q1 hF rfl (e_as (v':=.bool ((decide (20 < (p1.Lines.length:Int))) || (decide (p1.Stays < 0)))) (e_pickT hF rfl rfl) (by rw [hb];rfl)) fun a hF=>?_
    exact key _ _ (hF.has ⟨rfl,rfl,trivial⟩) hS
  ·
    intro hb key
    replace hF:=Fr.as hF (t:=14) rfl (congrArg Value.bool hb)
    refine ls<|gy hF rfl rfl<|q1 hF rfl (e_fa hF fa29_1 rfl) fun a hF=>?_
    refine ls<|gy hF rfl rfl<|q1 hF rfl (e_ld hF Tryz.isAgg3 rfl ((St.ld hS).cellB (.head _) rfl)) fun a hF=>?_
    refine ls<|gy hF rfl rfl<|q1 hF rfl (e_lss hF rfl rfl) fun a hF=>?_
    refine ls<|q1 hF rfl (e_as (v':=.bool ((decide (20 < (p1.Lines.length:Int))) || (decide (p1.Stays < 0)))) (e_pickF hF rfl rfl) (by rw [hb];rfl)) fun a hF=>?_
    exact key _ _ (hF.has ⟨rfl,rfl,trivial⟩) hS
  intro a w hF hS
  refine ls<|q1 hF rfl (e_move hF rfl) fun a hF=>?_
  refine grp (N:=117) (Fk:=[(1,.pointer (some ⟨b49,0,none⟩)),(26,.bool (((decide (20 < (p1.Lines.length:Int))) || (decide (p1.Stays < 0))) || (decide ((p1.Lines.length:Int) < p1.Stays))))]) (b:=((decide (20 < (p1.Lines.length:Int))) || (decide (p1.Stays < 0)))) 7 hS ?_ ?_ ?_
  ·
    intro hb key
    replace hF:=Fr.as hF (t:=19) rfl (congrArg Value.bool hb)
    refine ls<|gn hF rfl rfl rfl rfl fun a hF=>?_
    refine ls<|gn hF rfl rfl rfl rfl fun a hF=>?_
    refine ls<|gn hF rfl rfl rfl rfl fun a hF=>?_
    refine ls<|gn hF rfl rfl rfl rfl fun a hF=>?_
    refine ls<|gn hF rfl rfl rfl rfl fun a hF=>?_
    refine ls<|gn hF rfl rfl rfl rfl fun a hF=>?_
    refine ls<|q1 hF rfl (e_as (v':=.bool (((decide (20 < (p1.Lines.length:Int))) || (decide (p1.Stays < 0))) || (decide ((p1.Lines.length:Int) < p1.Stays)))) (e_pickT hF rfl rfl) (by rw [hb];rfl)) fun a hF=>?_
    exact key _ _ (hF.has ⟨rfl,rfl,trivial⟩) hS
  ·
    intro hb key
    replace hF:=Fr.as hF (t:=19) rfl (congrArg Value.bool hb)
    refine ls<|gy hF rfl rfl<|q1 hF rfl (e_fa hF fa29_1 rfl) fun a hF=>?_
    refine ls<|gy hF rfl rfl<|q1 hF rfl (e_ld hF Tryz.isAgg3 rfl ((St.ld hS).cellB (.head _) rfl)) fun a hF=>?_
    refine ls<|gy hF rfl rfl<|q1 hF rfl (e_fa hF fa29_0 rfl) fun a hF=>?_
    refine ls<|gy hF rfl rfl<|q1 hF rfl (e_ld hF Tryz.isAgg22 rfl ((St.ld hS).cellB (.head _) rfl)) fun a hF=>?_
    refine ls<|gy hF rfl rfl<|q1 hF rfl (e_lenL (α:=Int) (xs:=p1.Lines) hF Tryz.runUnderlying22 rfl) fun a hF=>?_
    refine ls<|gy hF rfl rfl<|q1 hF rfl (e_gtr hF rfl rfl) fun a hF=>?_
    refine ls<|q1 hF rfl (e_as (v':=.bool (((decide (20 < (p1.Lines.length:Int))) || (decide (p1.Stays < 0))) || (decide ((p1.Lines.length:Int) < p1.Stays)))) (e_pickF hF rfl rfl) (by rw [hb];rfl)) fun a hF=>?_
    exact key _ _ (hF.has ⟨rfl,rfl,trivial⟩) hS
  intro a w hF hS
  refine ls<|q1 hF rfl (e_move hF rfl) fun a hF=>?_
  refine grp (N:=117) (Fk:=[(1,.pointer (some ⟨b49,0,none⟩)),(35,.bool ((((decide (20 < (p1.Lines.length:Int))) || (decide (p1.Stays < 0))) || (decide ((p1.Lines.length:Int) < p1.Stays))) || (decide ((p1.Firsts.length:Int)≠(p1.Lines.length:Int)))))]) (b:=(((decide (20 < (p1.Lines.length:Int))) || (decide (p1.Stays < 0))) || (decide ((p1.Lines.length:Int) < p1.Stays)))) 8 hS ?_ ?_ ?_
  ·
    intro hb key
    replace hF:=Fr.as hF (t:=27) rfl (congrArg Value.bool hb)
    refine ls<|gn hF rfl rfl rfl rfl fun a hF=>?_
    refine ls<|gn hF rfl rfl rfl rfl fun a hF=>?_
    refine ls<|gn hF rfl rfl rfl rfl fun a hF=>?_
    refine ls<|gn hF rfl rfl rfl rfl fun a hF=>?_
    refine ls<|gn hF rfl rfl rfl rfl fun a hF=>?_
    refine ls<|gn hF rfl rfl rfl rfl fun a hF=>?_
    refine ls<|gn hF rfl rfl rfl rfl fun a hF=>?_
    refine ls<|q1 hF rfl (e_as (v':=.bool ((((decide (20 < (p1.Lines.length:Int))) || (decide (p1.Stays < 0))) || (decide ((p1.Lines.length:Int) < p1.Stays))) || (decide ((p1.Firsts.length:Int)≠(p1.Lines.length:Int))))) (e_pickT hF rfl rfl) (by rw [hb];rfl)) fun a hF=>?_
    exact key _ _ (hF.has ⟨rfl,rfl,trivial⟩) hS
  ·
    intro hb key
    replace hF:=Fr.as hF (t:=27) rfl (congrArg Value.bool hb)
    refine ls<|gy hF rfl rfl<|q1 hF rfl (e_fa hF fa29_2 rfl) fun a hF=>?_
    refine ls<|gy hF rfl rfl<|q1 hF rfl (e_ld hF Tryz.isAgg22 rfl ((St.ld hS).cellB (.head _) rfl)) fun a hF=>?_
    refine ls<|gy hF rfl rfl<|q1 hF rfl (e_lenL (α:=Int) (xs:=p1.Firsts) hF Tryz.runUnderlying22 rfl) fun a hF=>?_
    refine ls<|gy hF rfl rfl<|q1 hF rfl (e_fa hF fa29_0 rfl) fun a hF=>?_
    refine ls<|gy hF rfl rfl<|q1 hF rfl (e_ld hF Tryz.isAgg22 rfl ((St.ld hS).cellB (.head _) rfl)) fun a hF=>?_
    refine ls<|gy hF rfl rfl<|q1 hF rfl (e_lenL (α:=Int) (xs:=p1.Lines) hF Tryz.runUnderlying22 rfl) fun a hF=>?_
    refine ls<|gy hF rfl rfl<|q1 hF rfl (e_neq hF rfl rfl) fun a hF=>?_
    refine ls<|q1 hF rfl (e_as (v':=.bool ((((decide (20 < (p1.Lines.length:Int))) || (decide (p1.Stays < 0))) || (decide ((p1.Lines.length:Int) < p1.Stays))) || (decide ((p1.Firsts.length:Int)≠(p1.Lines.length:Int))))) (e_pickF hF rfl rfl) (by rw [hb];rfl)) fun a hF=>?_
    exact key _ _ (hF.has ⟨rfl,rfl,trivial⟩) hS
  intro a w hF hS
  refine ls<|q1 hF rfl (e_move hF rfl) fun a hF=>?_
  refine grp (N:=117) (Fk:=[(1,.pointer (some ⟨b49,0,none⟩)),(40,.bool (((((decide (20 < (p1.Lines.length:Int))) || (decide (p1.Stays < 0))) || (decide ((p1.Lines.length:Int) < p1.Stays))) || (decide ((p1.Firsts.length:Int)≠(p1.Lines.length:Int)))) || (decide (p1.Locks < 0))))]) (b:=((((decide (20 < (p1.Lines.length:Int))) || (decide (p1.Stays < 0))) || (decide ((p1.Lines.length:Int) < p1.Stays))) || (decide ((p1.Firsts.length:Int)≠(p1.Lines.length:Int))))) 4 hS ?_ ?_ ?_
  ·
    intro hb key
    replace hF:=Fr.as hF (t:=36) rfl (congrArg Value.bool hb)
    refine ls<|gn hF rfl rfl rfl rfl fun a hF=>?_
    refine ls<|gn hF rfl rfl rfl rfl fun a hF=>?_
    refine ls<|gn hF rfl rfl rfl rfl fun a hF=>?_
    refine ls<|q1 hF rfl (e_as (v':=.bool (((((decide (20 < (p1.Lines.length:Int))) || (decide (p1.Stays < 0))) || (decide ((p1.Lines.length:Int) < p1.Stays))) || (decide ((p1.Firsts.length:Int)≠(p1.Lines.length:Int)))) || (decide (p1.Locks < 0)))) (e_pickT hF rfl rfl) (by rw [hb];rfl)) fun a hF=>?_
    exact key _ _ (hF.has ⟨rfl,rfl,trivial⟩) hS
  ·
    intro hb key
    replace hF:=Fr.as hF (t:=36) rfl (congrArg Value.bool hb)
    refine ls<|gy hF rfl rfl<|q1 hF rfl (e_fa hF fa29_3 rfl) fun a hF=>?_
    refine ls<|gy hF rfl rfl<|q1 hF rfl (e_ld hF Tryz.isAgg3 rfl ((St.ld hS).cellB (.head _) rfl)) fun a hF=>?_
    refine ls<|gy hF rfl rfl<|q1 hF rfl (e_lss hF rfl rfl) fun a hF=>?_
    refine ls<|q1 hF rfl (e_as (v':=.bool (((((decide (20 < (p1.Lines.length:Int))) || (decide (p1.Stays < 0))) || (decide ((p1.Lines.length:Int) < p1.Stays))) || (decide ((p1.Firsts.length:Int)≠(p1.Lines.length:Int)))) || (decide (p1.Locks < 0)))) (e_pickF hF rfl rfl) (by rw [hb];rfl)) fun a hF=>?_
    exact key _ _ (hF.has ⟨rfl,rfl,trivial⟩) hS
  intro a w hF hS
  refine ls<|q1 hF rfl (e_move hF rfl) fun a hF=>?_
  refine grp (N:=117) (Fk:=[(1,.pointer (some ⟨b49,0,none⟩)),(45,.bool ((((((decide (20 < (p1.Lines.length:Int))) || (decide (p1.Stays < 0))) || (decide ((p1.Lines.length:Int) < p1.Stays))) || (decide ((p1.Firsts.length:Int)≠(p1.Lines.length:Int)))) || (decide (p1.Locks < 0))) || (decide (2 < p1.Locks))))]) (b:=(((((decide (20 < (p1.Lines.length:Int))) || (decide (p1.Stays < 0))) || (decide ((p1.Lines.length:Int) < p1.Stays))) || (decide ((p1.Firsts.length:Int)≠(p1.Lines.length:Int)))) || (decide (p1.Locks < 0)))) 4 hS ?_ ?_ ?_
  ·
    intro hb key
    replace hF:=Fr.as hF (t:=41) rfl (congrArg Value.bool hb)
    refine ls<|gn hF rfl rfl rfl rfl fun a hF=>?_
    refine ls<|gn hF rfl rfl rfl rfl fun a hF=>?_
    refine ls<|gn hF rfl rfl rfl rfl fun a hF=>?_
    refine ls<|q1 hF rfl (e_as (v':=.bool ((((((decide (20 < (p1.Lines.length:Int))) || (decide (p1.Stays < 0))) || (decide ((p1.Lines.length:Int) < p1.Stays))) || (decide ((p1.Firsts.length:Int)≠(p1.Lines.length:Int)))) || (decide (p1.Locks < 0))) || (decide (2 < p1.Locks)))) (e_pickT hF rfl rfl) (by rw [hb];rfl)) fun a hF=>?_
    exact key _ _ (hF.has ⟨rfl,rfl,trivial⟩) hS
  ·
    intro hb key
    replace hF:=Fr.as hF (t:=41) rfl (congrArg Value.bool hb)
    refine ls<|gy hF rfl rfl<|q1 hF rfl (e_fa hF fa29_3 rfl) fun a hF=>?_
    refine ls<|gy hF rfl rfl<|q1 hF rfl (e_ld hF Tryz.isAgg3 rfl ((St.ld hS).cellB (.head _) rfl)) fun a hF=>?_
    refine ls<|gy hF rfl rfl<|q1 hF rfl (e_gtr hF rfl rfl) fun a hF=>?_
    refine ls<|q1 hF rfl (e_as (v':=.bool ((((((decide (20 < (p1.Lines.length:Int))) || (decide (p1.Stays < 0))) || (decide ((p1.Lines.length:Int) < p1.Stays))) || (decide ((p1.Firsts.length:Int)≠(p1.Lines.length:Int)))) || (decide (p1.Locks < 0))) || (decide (2 < p1.Locks)))) (e_pickF hF rfl rfl) (by rw [hb];rfl)) fun a hF=>?_
    exact key _ _ (hF.has ⟨rfl,rfl,trivial⟩) hS
  intro a w hF hS
  refine ls<|q1 hF rfl (e_move hF rfl) fun a hF=>?_
  refine grp (N:=117) (Fk:=[(1,.pointer (some ⟨b49,0,none⟩)),(51,.bool (((((((decide (20 < (p1.Lines.length:Int))) || (decide (p1.Stays < 0))) || (decide ((p1.Lines.length:Int) < p1.Stays))) || (decide ((p1.Firsts.length:Int)≠(p1.Lines.length:Int)))) || (decide (p1.Locks < 0))) || (decide (2 < p1.Locks))) || (decide ((p1.Threads.length:Int) < 1))))]) (b:=((((((decide (20 < (p1.Lines.length:Int))) || (decide (p1.Stays < 0))) || (decide ((p1.Lines.length:Int) < p1.Stays))) || (decide ((p1.Firsts.length:Int)≠(p1.Lines.length:Int)))) || (decide (p1.Locks < 0))) || (decide (2 < p1.Locks)))) 5 hS ?_ ?_ ?_
  ·
    intro hb key
    replace hF:=Fr.as hF (t:=46) rfl (congrArg Value.bool hb)
    refine ls<|gn hF rfl rfl rfl rfl fun a hF=>?_
    refine ls<|gn hF rfl rfl rfl rfl fun a hF=>?_
    refine ls<|gn hF rfl rfl rfl rfl fun a hF=>?_
    refine ls<|gn hF rfl rfl rfl rfl fun a hF=>?_
    refine ls<|q1 hF rfl (e_as (v':=.bool (((((((decide (20 < (p1.Lines.length:Int))) || (decide (p1.Stays < 0))) || (decide ((p1.Lines.length:Int) < p1.Stays))) || (decide ((p1.Firsts.length:Int)≠(p1.Lines.length:Int)))) || (decide (p1.Locks < 0))) || (decide (2 < p1.Locks))) || (decide ((p1.Threads.length:Int) < 1)))) (e_pickT hF rfl rfl) (by rw [hb];rfl)) fun a hF=>?_
    exact key _ _ (hF.has ⟨rfl,rfl,trivial⟩) hS
  ·
    intro hb key
    replace hF:=Fr.as hF (t:=46) rfl (congrArg Value.bool hb)
    refine ls<|gy hF rfl rfl<|q1 hF rfl (e_fa hF fa29_4 rfl) fun a hF=>?_
    refine ls<|gy hF rfl rfl<|q1 hF rfl (e_ld hF Tryz.isAgg23 rfl ((St.ld hS).cellB (.head _) rfl)) fun a hF=>?_
    refine ls<|gy hF rfl rfl<|q1 hF rfl (e_lenL (α:=api_Code) (xs:=p1.Threads) hF Tryz.runUnderlying23 rfl) fun a hF=>?_
    refine ls<|gy hF rfl rfl<|q1 hF rfl (e_lss hF rfl rfl) fun a hF=>?_
    refine ls<|q1 hF rfl (e_as (v':=.bool (((((((decide (20 < (p1.Lines.length:Int))) || (decide (p1.Stays < 0))) || (decide ((p1.Lines.length:Int) < p1.Stays))) || (decide ((p1.Firsts.length:Int)≠(p1.Lines.length:Int)))) || (decide (p1.Locks < 0))) || (decide (2 < p1.Locks))) || (decide ((p1.Threads.length:Int) < 1)))) (e_pickF hF rfl rfl) (by rw [hb];rfl)) fun a hF=>?_
    exact key _ _ (hF.has ⟨rfl,rfl,trivial⟩) hS
  intro a w hF hS
  refine ls<|q1 hF rfl (e_move hF rfl) fun a hF=>?_
  refine grp (N:=117) (Fk:=[(1,.pointer (some ⟨b49,0,none⟩)),(57,.bool ((((((((decide (20 < (p1.Lines.length:Int))) || (decide (p1.Stays < 0))) || (decide ((p1.Lines.length:Int) < p1.Stays))) || (decide ((p1.Firsts.length:Int)≠(p1.Lines.length:Int)))) || (decide (p1.Locks < 0))) || (decide (2 < p1.Locks))) || (decide ((p1.Threads.length:Int) < 1))) || (decide (3 < (p1.Threads.length:Int)))))]) (b:=(((((((decide (20 < (p1.Lines.length:Int))) || (decide (p1.Stays < 0))) || (decide ((p1.Lines.length:Int) < p1.Stays))) || (decide ((p1.Firsts.length:Int)≠(p1.Lines.length:Int)))) || (decide (p1.Locks < 0))) || (decide (2 < p1.Locks))) || (decide ((p1.Threads.length:Int) < 1)))) 5 hS ?_ ?_ ?_
  ·
    intro hb key
    replace hF:=Fr.as hF (t:=52) rfl (congrArg Value.bool hb)
    refine ls<|gn hF rfl rfl rfl rfl fun a hF=>?_
    refine ls<|gn hF rfl rfl rfl rfl fun a hF=>?_
    refine ls<|gn hF rfl rfl rfl rfl fun a hF=>?_
    refine ls<|gn hF rfl rfl rfl rfl fun a hF=>?_
    refine ls<|q1 hF rfl (e_as (v':=.bool ((((((((decide (20 < (p1.Lines.length:Int))) || (decide (p1.Stays < 0))) || (decide ((p1.Lines.length:Int) < p1.Stays))) || (decide ((p1.Firsts.length:Int)≠(p1.Lines.length:Int)))) || (decide (p1.Locks < 0))) || (decide (2 < p1.Locks))) || (decide ((p1.Threads.length:Int) < 1))) || (decide (3 < (p1.Threads.length:Int))))) (e_pickT hF rfl rfl) (by rw [hb];rfl)) fun a hF=>?_
    exact key _ _ (hF.has ⟨rfl,rfl,trivial⟩) hS
  ·
    intro hb key
    replace hF:=Fr.as hF (t:=52) rfl (congrArg Value.bool hb)
    refine ls<|gy hF rfl rfl<|q1 hF rfl (e_fa hF fa29_4 rfl) fun a hF=>?_
    refine ls<|gy hF rfl rfl<|q1 hF rfl (e_ld hF Tryz.isAgg23 rfl ((St.ld hS).cellB (.head _) rfl)) fun a hF=>?_
    refine ls<|gy hF rfl rfl<|q1 hF rfl (e_lenL (α:=api_Code) (xs:=p1.Threads) hF Tryz.runUnderlying23 rfl) fun a hF=>?_
    refine ls<|gy hF rfl rfl<|q1 hF rfl (e_gtr hF rfl rfl) fun a hF=>?_
    refine ls<|q1 hF rfl (e_as (v':=.bool ((((((((decide (20 < (p1.Lines.length:Int))) || (decide (p1.Stays < 0))) || (decide ((p1.Lines.length:Int) < p1.Stays))) || (decide ((p1.Firsts.length:Int)≠(p1.Lines.length:Int)))) || (decide (p1.Locks < 0))) || (decide (2 < p1.Locks))) || (decide ((p1.Threads.length:Int) < 1))) || (decide (3 < (p1.Threads.length:Int))))) (e_pickF hF rfl rfl) (by rw [hb];rfl)) fun a hF=>?_
    exact key _ _ (hF.has ⟨rfl,rfl,trivial⟩) hS
  intro a w hF hS
  refine re<|?_
  rcases bdich ((((((((decide (20 < (p1.Lines.length:Int))) || (decide (p1.Stays < 0))) || (decide ((p1.Lines.length:Int) < p1.Stays))) || (decide ((p1.Firsts.length:Int)≠(p1.Lines.length:Int)))) || (decide (p1.Locks < 0))) || (decide (2 < p1.Locks))) || (decide ((p1.Threads.length:Int) < 1))) || (decide (3 < (p1.Threads.length:Int)))) with hb50 | hb50
  ·
    replace hm:=ite_t hm hb50
    refine tn<|ctv hF rfl hb50<|th<|?_
    refine rg<|?_
    refine ls<|q1 hF rfl (e_asg hF rfl) fun a hF=>?_
    refine re<|?_
    refine tn<|?_
    refine wr<|tr<|?_
    obtain rfl:=Option.some.inj hm
    exact r1 hF Tryz.results21 rfl ⟨rfl,hS.keep⟩
  ·
    replace hm:=ite_f hm hb50
    refine tn<|cfv hF rfl hb50<|wk<|?_
    refine tn<|th<|?_
    refine rg<|?_
    refine ls<|q1 hF rfl (e_asg hF rfl) fun a hF=>?_
    refine re<|?_
    refine tn<|th<|th<|?_
    refine rg<|?_
    refine ls<|q1 hF rfl (e_fa hF fa29_0 rfl) fun a hF=>?_
    refine ls<|q1 hF rfl (e_ld hF Tryz.isAgg22 rfl ((St.ld hS).cellB (.head _) rfl)) fun a hF=>?_
    refine ls<|q1 hF rfl (e_lenL (α:=Int) (xs:=p1.Lines) hF Tryz.runUnderlying22 rfl) fun a hF=>?_
    refine ls<|q1 hF rfl (e_move hF rfl) fun a hF=>?_
    refine re<|?_
    refine tn<|midK (fun a w=>(Z4q N p1)=some r∧Fr 117 [(1,.pointer (some ⟨b49,0,none⟩))] a∧St w0 Nil [H] [blk b49 (.cells [.slice oa9 p1.Lines.length cap10,.int .i64 p1.Stays,.slice oa21 p1.Firsts.length cap22,.int .i64 p1.Locks,.slice oa33 p1.Threads.length cap34,.int .i64 p1.Recover.Regs,.int .i64 p1.Recover.Counts,.slice oa41 p1.Recover.L.length cap42,.slice oa45 p1.Claims.length cap46].toArray 29 (0,0))] w) ?_ ?_
    ·
      refine wb<|lp (α:=Nat×Int×Int) (fun (gh:Nat×Int×Int) a w=>match gh with | (nn2,vB1,vB2)=>(Z4r N (Z4q N p1) p1) nn2 vB1 vB2=some r∧Fr 117 [(1,.pointer (some ⟨b49,0,none⟩)),(3,.int .i64 vB1),(59,.slice oa9 p1.Lines.length cap10),(60,.int .i64 (p1.Lines.length:Int)),(61,.int .i64 vB2)] a∧St w0 Nil [H] [blk b49 (.cells [.slice oa9 p1.Lines.length cap10,.int .i64 p1.Stays,.slice oa21 p1.Firsts.length cap22,.int .i64 p1.Locks,.slice oa33 p1.Threads.length cap34,.int .i64 p1.Recover.Regs,.int .i64 p1.Recover.Counts,.slice oa41 p1.Recover.L.length cap42,.slice oa45 p1.Claims.length cap46].toArray 29 (0,0))] w) (fun gh=>gh.1) (N,(-1),0) ⟨hm,hF.has ⟨rfl,rfl,rfl,rfl,rfl,trivial⟩,hS⟩ ?_
      clear hm hF hS
      rintro ⟨nn2,vB1,vB2⟩ a w ⟨hm,hF,hS⟩
      obtain _ | nn2:=nn2
      · simp [Z4r] at hm
      rw [Z4r] at hm
      refine th<|?_
      refine rg<|?_
      refine ls<|q1 hF rfl (e_lss hF rfl rfl) fun a hF=>?_
      refine re<|?_
      rcases bdich (decide (vB2 < (p1.Lines.length:Int))) with hb51 | hb51
      ·
        replace hm:=itp_t hm hb51
        refine tn<|th<|ctv hF rfl hb51<|wk<|?_
        refine tn<|th<|wb<|th<|?_
        replace hm:=bind_some hm
        obtain ⟨x52,h53,hm⟩:=hm
        obtain ⟨c54,g55,hl56⟩:=SR.get hr12 h53
        obtain rfl:c54=[.int .i64 x52]:=g55
        refine rg<|?_
        refine ls<|q1 hF rfl (e_move hF rfl) fun a hF=>?_
        refine ls<|q1 hF rfl (e_iaI hF Tryz.runUnderlying22 Tryz.sizeOf3 rfl rfl h53 (SR.oaI hr12 (by decide) h53)) fun a hF=>?_
        refine ls<|q1 hF rfl (e_ld hF Tryz.isAgg3 rfl (PH.le.cell (Lds.le (St.ld hS)) (hl56 0 _ rfl))) fun a hF=>?_
        refine ls<|q1 hF rfl (e_asg hF rfl) fun a hF=>?_
        refine ls<|q1 hF rfl (e_asg hF rfl) fun a hF=>?_
        refine re<|?_
        refine tn<|th<|?_
        refine rg<|?_
        refine ls<|q1 hF rfl (e_move hF rfl) fun a hF=>?_
        refine ls<|q1 hF rfl (e_gtr hF rfl rfl) fun a hF=>?_
        refine ls<|q1 hF rfl (e_move hF rfl) fun a hF=>?_
        refine grp (N:=117) (Fk:=[(1,.pointer (some ⟨b49,0,none⟩)),(3,.int .i64 vB1),(5,.int .i64 x52),(59,.slice oa9 p1.Lines.length cap10),(60,.int .i64 (p1.Lines.length:Int)),(61,.int .i64 vB2),(73,.bool ((decide (0 < vB2)) && (decide (vB2 < p1.Stays))))]) (b:=(decide (0 < vB2))) 5 hS ?_ ?_ ?_
        ·
          intro hb key
          replace hF:=Fr.as hF (t:=68) rfl (congrArg Value.bool hb)
          refine ls<|gy hF rfl rfl<|q1 hF rfl (e_move hF rfl) fun a hF=>?_
          refine ls<|gy hF rfl rfl<|q1 hF rfl (e_fa hF fa29_1 rfl) fun a hF=>?_
          refine ls<|gy hF rfl rfl<|q1 hF rfl (e_ld hF Tryz.isAgg3 rfl ((St.ld hS).cellB (.head _) rfl)) fun a hF=>?_
          refine ls<|gy hF rfl rfl<|q1 hF rfl (e_lss hF rfl rfl) fun a hF=>?_
          refine ls<|q1 hF rfl (e_as (v':=.bool ((decide (0 < vB2)) && (decide (vB2 < p1.Stays)))) (e_pickT hF rfl rfl) (by rw [hb];rfl)) fun a hF=>?_
          exact key _ _ (hF.has ⟨rfl,rfl,rfl,rfl,rfl,rfl,rfl,trivial⟩) hS
        ·
          intro hb key
          replace hF:=Fr.as hF (t:=68) rfl (congrArg Value.bool hb)
          refine ls<|gn hF rfl rfl rfl rfl fun a hF=>?_
          refine ls<|gn hF rfl rfl rfl rfl fun a hF=>?_
          refine ls<|gn hF rfl rfl rfl rfl fun a hF=>?_
          refine ls<|gn hF rfl rfl rfl rfl fun a hF=>?_
          refine ls<|q1 hF rfl (e_as (v':=.bool ((decide (0 < vB2)) && (decide (vB2 < p1.Stays)))) (e_pickF hF rfl rfl) (by rw [hb];rfl)) fun a hF=>?_
          exact key _ _ (hF.has ⟨rfl,rfl,rfl,rfl,rfl,rfl,rfl,trivial⟩) hS
        intro a w hF hS
        refine ls<|q1 hF rfl (e_move hF rfl) fun a hF=>?_
        refine grp (N:=117) (Fk:=[(1,.pointer (some ⟨b49,0,none⟩)),(3,.int .i64 vB1),(5,.int .i64 x52),(59,.slice oa9 p1.Lines.length cap10),(60,.int .i64 (p1.Lines.length:Int)),(61,.int .i64 vB2),(78,.bool (((decide (0 < vB2)) && (decide (vB2 < p1.Stays))) && (decide (x52=vB1))))]) (b:=((decide (0 < vB2)) && (decide (vB2 < p1.Stays)))) 4 hS ?_ ?_ ?_
        ·
          intro hb key
          replace hF:=Fr.as hF (t:=74) rfl (congrArg Value.bool hb)
          refine ls<|gy hF rfl rfl<|q1 hF rfl (e_move hF rfl) fun a hF=>?_
          refine ls<|gy hF rfl rfl<|q1 hF rfl (e_move hF rfl) fun a hF=>?_
          refine ls<|gy hF rfl rfl<|q1 hF rfl (e_eql hF rfl rfl) fun a hF=>?_
          refine ls<|q1 hF rfl (e_as (v':=.bool (((decide (0 < vB2)) && (decide (vB2 < p1.Stays))) && (decide (x52=vB1)))) (e_pickT hF rfl rfl) (by rw [hb];rfl)) fun a hF=>?_
          exact key _ _ (hF.has ⟨rfl,rfl,rfl,rfl,rfl,rfl,rfl,trivial⟩) hS
        ·
          intro hb key
          replace hF:=Fr.as hF (t:=74) rfl (congrArg Value.bool hb)
          refine ls<|gn hF rfl rfl rfl rfl fun a hF=>?_
          refine ls<|gn hF rfl rfl rfl rfl fun a hF=>?_
          refine ls<|gn hF rfl rfl rfl rfl fun a hF=>?_
          refine ls<|q1 hF rfl (e_as (v':=.bool (((decide (0 < vB2)) && (decide (vB2 < p1.Stays))) && (decide (x52=vB1)))) (e_pickF hF rfl rfl) (by rw [hb];rfl)) fun a hF=>?_
          exact key _ _ (hF.has ⟨rfl,rfl,rfl,rfl,rfl,rfl,rfl,trivial⟩) hS
        intro a w hF hS
        refine ls<|q1 hF rfl (e_asg hF rfl) fun a hF=>?_
        refine re<|?_
        refine tn<|th<|th<|?_
        refine rg<|?_
        refine ls<|q1 hF rfl (e_move hF rfl) fun a hF=>?_
        refine ls<|q1 hF rfl (e_not hF rfl) fun a hF=>?_
        refine ls<|q1 hF rfl (e_move hF rfl) fun a hF=>?_
        refine grp (N:=117) (Fk:=[(1,.pointer (some ⟨b49,0,none⟩)),(5,.int .i64 x52),(59,.slice oa9 p1.Lines.length cap10),(60,.int .i64 (p1.Lines.length:Int)),(61,.int .i64 vB2),(86,.bool ((!(((decide (0 < vB2)) && (decide (vB2 < p1.Stays))) && (decide (x52=vB1)))) && (decide (x52≠(IntKind.i64.wrap (vB1+1))))))]) (b:=(!(((decide (0 < vB2)) && (decide (vB2 < p1.Stays))) && (decide (x52=vB1))))) 5 hS ?_ ?_ ?_
        ·
          intro hb key
          replace hF:=Fr.as hF (t:=81) rfl (congrArg Value.bool hb)
          refine ls<|gy hF rfl rfl<|q1 hF rfl (e_move hF rfl) fun a hF=>?_
          refine ls<|gy hF rfl rfl<|q1 hF rfl (e_move hF rfl) fun a hF=>?_
          refine ls<|gy hF rfl rfl<|q1 hF rfl (e_add hF rfl rfl) fun a hF=>?_
          refine ls<|gy hF rfl rfl<|q1 hF rfl (e_neq hF rfl rfl) fun a hF=>?_
          refine ls<|q1 hF rfl (e_as (v':=.bool ((!(((decide (0 < vB2)) && (decide (vB2 < p1.Stays))) && (decide (x52=vB1)))) && (decide (x52≠(IntKind.i64.wrap (vB1+1)))))) (e_pickT hF rfl rfl) (by rw [hb];rfl)) fun a hF=>?_
          exact key _ _ (hF.has ⟨rfl,rfl,rfl,rfl,rfl,rfl,trivial⟩) hS
        ·
          intro hb key
          replace hF:=Fr.as hF (t:=81) rfl (congrArg Value.bool hb)
          refine ls<|gn hF rfl rfl rfl rfl fun a hF=>?_
          refine ls<|gn hF rfl rfl rfl rfl fun a hF=>?_
          refine ls<|gn hF rfl rfl rfl rfl fun a hF=>?_
          refine ls<|gn hF rfl rfl rfl rfl fun a hF=>?_
          refine ls<|q1 hF rfl (e_as (v':=.bool ((!(((decide (0 < vB2)) && (decide (vB2 < p1.Stays))) && (decide (x52=vB1)))) && (decide (x52≠(IntKind.i64.wrap (vB1+1)))))) (e_pickF hF rfl rfl) (by rw [hb];rfl)) fun a hF=>?_
          exact key _ _ (hF.has ⟨rfl,rfl,rfl,rfl,rfl,rfl,trivial⟩) hS
        intro a w hF hS
        refine re<|?_
        rcases bdich ((!(((decide (0 < vB2)) && (decide (vB2 < p1.Stays))) && (decide (x52=vB1)))) && (decide (x52≠(IntKind.i64.wrap (vB1+1))))) with hb57 | hb57
        ·
          replace hm:=ite_t hm hb57
          refine tn<|ctv hF rfl hb57<|th<|?_
          refine rg<|?_
          refine ls<|q1 hF rfl (e_asg hF rfl) fun a hF=>?_
          refine re<|?_
          refine tn<|?_
          refine wr<|tr<|br<|tr<|tr<|br<|tr<|?_
          obtain rfl:=Option.some.inj hm
          exact r1 hF Tryz.results21 rfl ⟨rfl,hS.keep⟩
        ·
          replace hm:=ite_f hm hb57
          refine tn<|cfv hF rfl hb57<|wk<|?_
          refine tn<|?_
          refine rg<|?_
          refine ls<|q1 hF rfl (e_move hF rfl) fun a hF=>?_
          refine ls<|q1 hF rfl (e_asg hF rfl) fun a hF=>?_
          refine re<|?_
          refine bn<|tn<|?_
          refine rg<|?_
          refine ls<|q1 hF rfl (e_add hF rfl rfl) fun a hF=>?_
          refine ls<|q1 hF rfl (e_move hF rfl) fun a hF=>?_
          refine re<|?_
          refine tn<|?_
          exact ⟨(nn2,x52,(IntKind.i64.wrap (vB2+1))),⟨hm,hF.has ⟨rfl,rfl,rfl,rfl,rfl,trivial⟩,hS⟩,Nat.lt_succ_self _⟩
      ·
        replace hm:=itp_f hm hb51
        refine tn<|th<|cfv hF rfl hb51<|?_
        refine we<|tx<|tx<|bx<|?_
        refine tn<|?_
        exact ⟨hm,hF.has ⟨rfl,trivial⟩,hS⟩
    clear hm hF hS
    rintro a w ⟨hm,hF,hS⟩
    unfold Z4q at hm
    refine th<|?_
    refine rg<|?_
    refine ls<|q1 hF rfl (e_asg hF rfl) fun a hF=>?_
    refine re<|?_
    refine tn<|th<|?_
    refine rg<|?_
    refine ls<|q1 hF rfl (e_mkf (vs:=[.pointer (some ⟨b49,0,none⟩)]) hF ⟨rfl,trivial⟩) fun a hF=>?_
    refine ls<|q1 hF rfl (e_asg hF rfl) fun a hF=>?_
    refine re<|?_
    refine tn<|th<|?_
    refine rg<|?_
    refine ls<|q1 hF rfl (e_mkf (vs:=[.pointer (some ⟨b49,0,none⟩)]) hF ⟨rfl,trivial⟩) fun a hF=>?_
    refine ls<|q1 hF rfl (e_asg hF rfl) fun a hF=>?_
    refine re<|?_
    refine tn<|th<|?_
    replace hm:=bind_some hm
    obtain ⟨r58,h59,hm⟩:=hm
    rcases bdich r58 with hb60 | hb60
    ·
      replace hm:=ite_t hm hb60
      have hb60':(!r58)=false:=by rw [hb60];rfl
      refine rg<|?_
      refine ls<|q1 hF rfl (e_fa hF fa29_2 rfl) fun a hF=>?_
      refine ls<|q1 hF rfl (e_ld hF Tryz.isAgg22 rfl ((St.ld hS).cellB (.head _) rfl)) fun a hF=>?_
      refine ls<|q1 hF rfl (e_move hF rfl) fun a hF=>?_
      refine ls<|c1 hF rfl Tryz.call66 (Z57_c (hp_le _) hc23 (St.srH hS hr24) h59) ⟨rfl,rfl,trivial⟩ (fun v w a hR hF=>?_)
      obtain ⟨rfl,hk⟩:=hR
      replace hS:=hS.pass hk
      clear hk
      refine ls<|q1 hF rfl (e_not hF rfl) fun a hF=>?_
      refine ls<|q1 hF rfl (e_as (e_move hF rfl) (congrArg Value.bool hb60')) fun a hF=>?_
      refine ls<|gn hF rfl rfl rfl rfl fun a hF=>?_
      refine ls<|gn hF rfl rfl rfl rfl fun a hF=>?_
      refine ls<|gn hF rfl rfl rfl rfl fun a hF=>?_
      refine ls<|gn hF rfl rfl rfl rfl fun a hF=>?_
      refine ls<|gn hF rfl rfl rfl rfl fun a hF=>?_
      refine ls<|q1 hF rfl (e_pickF hF rfl rfl) fun a hF=>?_
      refine ls<|q1 hF rfl (e_move hF rfl) fun a hF=>?_
      refine ls<|gn hF rfl rfl rfl rfl fun a hF=>?_
      refine ls<|gn hF rfl rfl rfl rfl fun a hF=>?_
      refine ls<|gn hF rfl rfl rfl rfl fun a hF=>?_
      refine ls<|gn hF rfl rfl rfl rfl fun a hF=>?_
      refine ls<|gn hF rfl rfl rfl rfl fun a hF=>?_
      refine ls<|q1 hF rfl (e_pickF hF rfl rfl) fun a hF=>?_
      refine ls<|q1 hF rfl (e_move hF rfl) fun a hF=>?_
      refine ls<|gn hF rfl rfl rfl rfl fun a hF=>?_
      refine ls<|gn hF rfl rfl rfl rfl fun a hF=>?_
      refine ls<|gn hF rfl rfl rfl rfl fun a hF=>?_
      refine ls<|gn hF rfl rfl rfl rfl fun a hF=>?_
      refine ls<|gn hF rfl rfl rfl rfl fun a hF=>?_
      refine ls<|q1 hF rfl (e_pickF hF rfl rfl) fun a hF=>?_
      refine ls<|q1 hF rfl (e_asg hF rfl) fun a hF=>?_
      refine re<|?_
      refine tn<|?_
      refine wr<|?_
      obtain rfl:=Option.some.inj hm
      exact r1 hF Tryz.results21 rfl ⟨rfl,hS.keep⟩
    ·
      replace hm:=ite_f hm hb60
      have hb60':(!r58)=true:=by rw [hb60];rfl
      replace hm:=bind_some hm
      obtain ⟨r61,h62,hm⟩:=hm
      rcases bdich r61 with hb63 | hb63
      ·
        replace hm:=ite_t hm hb63
        have hb63':(!r61)=false:=by rw [hb63];rfl
        refine rg<|?_
        refine ls<|q1 hF rfl (e_fa hF fa29_2 rfl) fun a hF=>?_
        refine ls<|q1 hF rfl (e_ld hF Tryz.isAgg22 rfl ((St.ld hS).cellB (.head _) rfl)) fun a hF=>?_
        refine ls<|q1 hF rfl (e_move hF rfl) fun a hF=>?_
        refine ls<|c1 hF rfl Tryz.call66 (Z57_c (hp_le _) hc23 (St.srH hS hr24) h59) ⟨rfl,rfl,trivial⟩ (fun v w a hR hF=>?_)
        obtain ⟨rfl,hk⟩:=hR
        replace hS:=hS.pass hk
        clear hk
        refine ls<|q1 hF rfl (e_not hF rfl) fun a hF=>?_
        refine ls<|q1 hF rfl (e_as (e_move hF rfl) (congrArg Value.bool hb60')) fun a hF=>?_
        refine ls<|gy hF rfl rfl<|q1 hF rfl (e_fa hF fa29_4 rfl) fun a hF=>?_
        refine ls<|gy hF rfl rfl<|q1 hF rfl (e_ld hF Tryz.isAgg23 rfl ((St.ld hS).cellB (.head _) rfl)) fun a hF=>?_
        refine ls<|gy hF rfl rfl<|q1 hF rfl (e_move hF rfl) fun a hF=>?_
        refine ls<|gy hF rfl rfl<|c1 hF rfl Tryz.call67 (Z54_c (hp_le _) hc35 (St.srH hS hr36) (Enc.mono (St.up hS) (show Enc.rep (α:=api_Unit) H [.slice oa9 p1.Lines.length cap10,.int .i64 p1.Stays,.slice oa21 p1.Firsts.length cap22,.int .i64 p1.Locks,.slice oa33 p1.Threads.length cap34,.int .i64 p1.Recover.Regs,.int .i64 p1.Recover.Counts,.slice oa41 p1.Recover.L.length cap42,.slice oa45 p1.Claims.length cap46] p1 from ⟨_,_,rfl,⟨_,_,rfl,hc11,hr12⟩,⟨_,_,rfl,rfl,⟨_,_,rfl,⟨_,_,rfl,hc23,hr24⟩,⟨_,_,rfl,rfl,⟨_,_,rfl,⟨_,_,rfl,hc35,hr36⟩,⟨_,_,rfl,⟨_,_,rfl,rfl,⟨_,_,rfl,rfl,⟨_,_,rfl,hc43,hr44⟩⟩⟩,⟨_,_,rfl,hc47,hr48⟩⟩⟩⟩⟩⟩⟩)) (St.blkO hS (.head _)) h62) ⟨rfl,rfl,trivial⟩ (fun v w a hR hF=>?_)
        obtain ⟨rfl,hk⟩:=hR
        replace hS:=hS.pass hk
        clear hk
        refine ls<|gy hF rfl rfl<|q1 hF rfl (e_not hF rfl) fun a hF=>?_
        refine ls<|q1 hF rfl (e_pickT hF rfl rfl) fun a hF=>?_
        refine ls<|q1 hF rfl (e_as (e_move hF rfl) (congrArg Value.bool hb63')) fun a hF=>?_
        refine ls<|gn hF rfl rfl rfl rfl fun a hF=>?_
        refine ls<|gn hF rfl rfl rfl rfl fun a hF=>?_
        refine ls<|gn hF rfl rfl rfl rfl fun a hF=>?_
        refine ls<|gn hF rfl rfl rfl rfl fun a hF=>?_
        refine ls<|gn hF rfl rfl rfl rfl fun a hF=>?_
        refine ls<|q1 hF rfl (e_pickF hF rfl rfl) fun a hF=>?_
        refine ls<|q1 hF rfl (e_move hF rfl) fun a hF=>?_
        refine ls<|gn hF rfl rfl rfl rfl fun a hF=>?_
        refine ls<|gn hF rfl rfl rfl rfl fun a hF=>?_
        refine ls<|gn hF rfl rfl rfl rfl fun a hF=>?_
        refine ls<|gn hF rfl rfl rfl rfl fun a hF=>?_
        refine ls<|gn hF rfl rfl rfl rfl fun a hF=>?_
        refine ls<|q1 hF rfl (e_pickF hF rfl rfl) fun a hF=>?_
        refine ls<|q1 hF rfl (e_asg hF rfl) fun a hF=>?_
        refine re<|?_
        refine tn<|?_
        refine wr<|?_
        obtain rfl:=Option.some.inj hm
        exact r1 hF Tryz.results21 rfl ⟨rfl,hS.keep⟩
      ·
        replace hm:=ite_f hm hb63
        have hb63':(!r61)=true:=by rw [hb63];rfl
        replace hm:=bind_some hm
        obtain ⟨r64,h65,hm⟩:=hm
        rcases bdich r64 with hb66 | hb66
        ·
          replace hm:=ite_t hm hb66
          have hb66':(!r64)=false:=by rw [hb66];rfl
          refine rg<|?_
          refine ls<|q1 hF rfl (e_fa hF fa29_2 rfl) fun a hF=>?_
          refine ls<|q1 hF rfl (e_ld hF Tryz.isAgg22 rfl ((St.ld hS).cellB (.head _) rfl)) fun a hF=>?_
          refine ls<|q1 hF rfl (e_move hF rfl) fun a hF=>?_
          refine ls<|c1 hF rfl Tryz.call66 (Z57_c (hp_le _) hc23 (St.srH hS hr24) h59) ⟨rfl,rfl,trivial⟩ (fun v w a hR hF=>?_)
          obtain ⟨rfl,hk⟩:=hR
          replace hS:=hS.pass hk
          clear hk
          refine ls<|q1 hF rfl (e_not hF rfl) fun a hF=>?_
          refine ls<|q1 hF rfl (e_as (e_move hF rfl) (congrArg Value.bool hb60')) fun a hF=>?_
          refine ls<|gy hF rfl rfl<|q1 hF rfl (e_fa hF fa29_4 rfl) fun a hF=>?_
          refine ls<|gy hF rfl rfl<|q1 hF rfl (e_ld hF Tryz.isAgg23 rfl ((St.ld hS).cellB (.head _) rfl)) fun a hF=>?_
          refine ls<|gy hF rfl rfl<|q1 hF rfl (e_move hF rfl) fun a hF=>?_
          refine ls<|gy hF rfl rfl<|c1 hF rfl Tryz.call67 (Z54_c (hp_le _) hc35 (St.srH hS hr36) (Enc.mono (St.up hS) (show Enc.rep (α:=api_Unit) H [.slice oa9 p1.Lines.length cap10,.int .i64 p1.Stays,.slice oa21 p1.Firsts.length cap22,.int .i64 p1.Locks,.slice oa33 p1.Threads.length cap34,.int .i64 p1.Recover.Regs,.int .i64 p1.Recover.Counts,.slice oa41 p1.Recover.L.length cap42,.slice oa45 p1.Claims.length cap46] p1 from ⟨_,_,rfl,⟨_,_,rfl,hc11,hr12⟩,⟨_,_,rfl,rfl,⟨_,_,rfl,⟨_,_,rfl,hc23,hr24⟩,⟨_,_,rfl,rfl,⟨_,_,rfl,⟨_,_,rfl,hc35,hr36⟩,⟨_,_,rfl,⟨_,_,rfl,rfl,⟨_,_,rfl,rfl,⟨_,_,rfl,hc43,hr44⟩⟩⟩,⟨_,_,rfl,hc47,hr48⟩⟩⟩⟩⟩⟩⟩)) (St.blkO hS (.head _)) h62) ⟨rfl,rfl,trivial⟩ (fun v w a hR hF=>?_)
          obtain ⟨rfl,hk⟩:=hR
          replace hS:=hS.pass hk
          clear hk
          refine ls<|gy hF rfl rfl<|q1 hF rfl (e_not hF rfl) fun a hF=>?_
          refine ls<|q1 hF rfl (e_pickT hF rfl rfl) fun a hF=>?_
          refine ls<|q1 hF rfl (e_as (e_move hF rfl) (congrArg Value.bool hb63')) fun a hF=>?_
          refine ls<|gy hF rfl rfl<|q1 hF rfl (e_move hF rfl) fun a hF=>?_
          refine ls<|gy hF rfl rfl<|q1 hF rfl (e_fa hF fa29_5 rfl) fun a hF=>?_
          refine ls<|gy hF rfl rfl<|q1 hF rfl (e_ldA hF Tryz.isAgg26 Tryz.sizeOf26 rfl rfl (Lds.cellsP (pre:=[.slice oa9 p1.Lines.length cap10,.int .i64 p1.Stays,.slice oa21 p1.Firsts.length cap22,.int .i64 p1.Locks,.slice oa33 p1.Threads.length cap34]) (vs:=[.int .i64 p1.Recover.Regs,.int .i64 p1.Recover.Counts,.slice oa41 p1.Recover.L.length cap42]) (post:=[.slice oa45 p1.Claims.length cap46]) (St.ld hS) (.head _))) fun a hF=>?_
          refine ls<|gy hF rfl rfl<|k1 (vs:=[.agg #[.int .i64 p1.Recover.Regs,.int .i64 p1.Recover.Counts,.slice oa41 p1.Recover.L.length cap42]]) (caps:=[.pointer (some ⟨b49,0,none⟩)]) hF rfl rfl Tryz.call61 (Z4o_c (hp_le _) (Enc.mono (St.up hS) (show Enc.rep (α:=api_Code) H [.int .i64 p1.Recover.Regs,.int .i64 p1.Recover.Counts,.slice oa41 p1.Recover.L.length cap42] p1.Recover from ⟨_,_,rfl,rfl,⟨_,_,rfl,rfl,⟨_,_,rfl,hc43,hr44⟩⟩⟩)) (Enc.mono (St.up hS) (show Enc.rep (α:=api_Unit) H [.slice oa9 p1.Lines.length cap10,.int .i64 p1.Stays,.slice oa21 p1.Firsts.length cap22,.int .i64 p1.Locks,.slice oa33 p1.Threads.length cap34,.int .i64 p1.Recover.Regs,.int .i64 p1.Recover.Counts,.slice oa41 p1.Recover.L.length cap42,.slice oa45 p1.Claims.length cap46] p1 from ⟨_,_,rfl,⟨_,_,rfl,hc11,hr12⟩,⟨_,_,rfl,rfl,⟨_,_,rfl,⟨_,_,rfl,hc23,hr24⟩,⟨_,_,rfl,rfl,⟨_,_,rfl,⟨_,_,rfl,hc35,hr36⟩,⟨_,_,rfl,⟨_,_,rfl,rfl,⟨_,_,rfl,rfl,⟨_,_,rfl,hc43,hr44⟩⟩⟩,⟨_,_,rfl,hc47,hr48⟩⟩⟩⟩⟩⟩⟩)) (St.blkO hS (.head _)) h65) ⟨rfl,trivial⟩ rfl (fun v w a hR hF=>?_)
          obtain ⟨rfl,hk⟩:=hR
          replace hS:=hS.pass hk
          clear hk
          refine ls<|gy hF rfl rfl<|q1 hF rfl (e_not hF rfl) fun a hF=>?_
          refine ls<|q1 hF rfl (e_pickT hF rfl rfl) fun a hF=>?_
          refine ls<|q1 hF rfl (e_as (e_move hF rfl) (congrArg Value.bool hb66')) fun a hF=>?_
          refine ls<|gn hF rfl rfl rfl rfl fun a hF=>?_
          refine ls<|gn hF rfl rfl rfl rfl fun a hF=>?_
          refine ls<|gn hF rfl rfl rfl rfl fun a hF=>?_
          refine ls<|gn hF rfl rfl rfl rfl fun a hF=>?_
          refine ls<|gn hF rfl rfl rfl rfl fun a hF=>?_
          refine ls<|q1 hF rfl (e_pickF hF rfl rfl) fun a hF=>?_
          refine ls<|q1 hF rfl (e_asg hF rfl) fun a hF=>?_
          refine re<|?_
          refine tn<|?_
          refine wr<|?_
          obtain rfl:=Option.some.inj hm
          exact r1 hF Tryz.results21 rfl ⟨rfl,hS.keep⟩
        ·
          replace hm:=ite_f hm hb66
          have hb66':(!r64)=true:=by rw [hb66];rfl
          replace hm:=bind_some hm
          obtain ⟨r67,h68,hm⟩:=hm
          refine rg<|?_
          refine ls<|q1 hF rfl (e_fa hF fa29_2 rfl) fun a hF=>?_
          refine ls<|q1 hF rfl (e_ld hF Tryz.isAgg22 rfl ((St.ld hS).cellB (.head _) rfl)) fun a hF=>?_
          refine ls<|q1 hF rfl (e_move hF rfl) fun a hF=>?_
          refine ls<|c1 hF rfl Tryz.call66 (Z57_c (hp_le _) hc23 (St.srH hS hr24) h59) ⟨rfl,rfl,trivial⟩ (fun v w a hR hF=>?_)
          obtain ⟨rfl,hk⟩:=hR
          replace hS:=hS.pass hk
          clear hk
          refine ls<|q1 hF rfl (e_not hF rfl) fun a hF=>?_
          refine ls<|q1 hF rfl (e_as (e_move hF rfl) (congrArg Value.bool hb60')) fun a hF=>?_
          refine ls<|gy hF rfl rfl<|q1 hF rfl (e_fa hF fa29_4 rfl) fun a hF=>?_
          refine ls<|gy hF rfl rfl<|q1 hF rfl (e_ld hF Tryz.isAgg23 rfl ((St.ld hS).cellB (.head _) rfl)) fun a hF=>?_
          refine ls<|gy hF rfl rfl<|q1 hF rfl (e_move hF rfl) fun a hF=>?_
          refine ls<|gy hF rfl rfl<|c1 hF rfl Tryz.call67 (Z54_c (hp_le _) hc35 (St.srH hS hr36) (Enc.mono (St.up hS) (show Enc.rep (α:=api_Unit) H [.slice oa9 p1.Lines.length cap10,.int .i64 p1.Stays,.slice oa21 p1.Firsts.length cap22,.int .i64 p1.Locks,.slice oa33 p1.Threads.length cap34,.int .i64 p1.Recover.Regs,.int .i64 p1.Recover.Counts,.slice oa41 p1.Recover.L.length cap42,.slice oa45 p1.Claims.length cap46] p1 from ⟨_,_,rfl,⟨_,_,rfl,hc11,hr12⟩,⟨_,_,rfl,rfl,⟨_,_,rfl,⟨_,_,rfl,hc23,hr24⟩,⟨_,_,rfl,rfl,⟨_,_,rfl,⟨_,_,rfl,hc35,hr36⟩,⟨_,_,rfl,⟨_,_,rfl,rfl,⟨_,_,rfl,rfl,⟨_,_,rfl,hc43,hr44⟩⟩⟩,⟨_,_,rfl,hc47,hr48⟩⟩⟩⟩⟩⟩⟩)) (St.blkO hS (.head _)) h62) ⟨rfl,rfl,trivial⟩ (fun v w a hR hF=>?_)
          obtain ⟨rfl,hk⟩:=hR
          replace hS:=hS.pass hk
          clear hk
          refine ls<|gy hF rfl rfl<|q1 hF rfl (e_not hF rfl) fun a hF=>?_
          refine ls<|q1 hF rfl (e_pickT hF rfl rfl) fun a hF=>?_
          refine ls<|q1 hF rfl (e_as (e_move hF rfl) (congrArg Value.bool hb63')) fun a hF=>?_
          refine ls<|gy hF rfl rfl<|q1 hF rfl (e_move hF rfl) fun a hF=>?_
          refine ls<|gy hF rfl rfl<|q1 hF rfl (e_fa hF fa29_5 rfl) fun a hF=>?_
          refine ls<|gy hF rfl rfl<|q1 hF rfl (e_ldA hF Tryz.isAgg26 Tryz.sizeOf26 rfl rfl (Lds.cellsP (pre:=[.slice oa9 p1.Lines.length cap10,.int .i64 p1.Stays,.slice oa21 p1.Firsts.length cap22,.int .i64 p1.Locks,.slice oa33 p1.Threads.length cap34]) (vs:=[.int .i64 p1.Recover.Regs,.int .i64 p1.Recover.Counts,.slice oa41 p1.Recover.L.length cap42]) (post:=[.slice oa45 p1.Claims.length cap46]) (St.ld hS) (.head _))) fun a hF=>?_
          refine ls<|gy hF rfl rfl<|k1 (vs:=[.agg #[.int .i64 p1.Recover.Regs,.int .i64 p1.Recover.Counts,.slice oa41 p1.Recover.L.length cap42]]) (caps:=[.pointer (some ⟨b49,0,none⟩)]) hF rfl rfl Tryz.call61 (Z4o_c (hp_le _) (Enc.mono (St.up hS) (show Enc.rep (α:=api_Code) H [.int .i64 p1.Recover.Regs,.int .i64 p1.Recover.Counts,.slice oa41 p1.Recover.L.length cap42] p1.Recover from ⟨_,_,rfl,rfl,⟨_,_,rfl,rfl,⟨_,_,rfl,hc43,hr44⟩⟩⟩)) (Enc.mono (St.up hS) (show Enc.rep (α:=api_Unit) H [.slice oa9 p1.Lines.length cap10,.int .i64 p1.Stays,.slice oa21 p1.Firsts.length cap22,.int .i64 p1.Locks,.slice oa33 p1.Threads.length cap34,.int .i64 p1.Recover.Regs,.int .i64 p1.Recover.Counts,.slice oa41 p1.Recover.L.length cap42,.slice oa45 p1.Claims.length cap46] p1 from ⟨_,_,rfl,⟨_,_,rfl,hc11,hr12⟩,⟨_,_,rfl,rfl,⟨_,_,rfl,⟨_,_,rfl,hc23,hr24⟩,⟨_,_,rfl,rfl,⟨_,_,rfl,⟨_,_,rfl,hc35,hr36⟩,⟨_,_,rfl,⟨_,_,rfl,rfl,⟨_,_,rfl,rfl,⟨_,_,rfl,hc43,hr44⟩⟩⟩,⟨_,_,rfl,hc47,hr48⟩⟩⟩⟩⟩⟩⟩)) (St.blkO hS (.head _)) h65) ⟨rfl,trivial⟩ rfl (fun v w a hR hF=>?_)
          obtain ⟨rfl,hk⟩:=hR
          replace hS:=hS.pass hk
          clear hk
          refine ls<|gy hF rfl rfl<|q1 hF rfl (e_not hF rfl) fun a hF=>?_
          refine ls<|q1 hF rfl (e_pickT hF rfl rfl) fun a hF=>?_
          refine ls<|q1 hF rfl (e_as (e_move hF rfl) (congrArg Value.bool hb66')) fun a hF=>?_
          refine ls<|gy hF rfl rfl<|q1 hF rfl (e_fa hF fa29_6 rfl) fun a hF=>?_
          refine ls<|gy hF rfl rfl<|q1 hF rfl (e_ld hF Tryz.isAgg27 rfl ((St.ld hS).cellB (.head _) rfl)) fun a hF=>?_
          refine ls<|gy hF rfl rfl<|q1 hF rfl (e_move hF rfl) fun a hF=>?_
          refine ls<|gy hF rfl rfl<|c1 hF rfl Tryz.call68 (Z53_c (hp_le _) hc47 (St.srH hS hr48) (Enc.mono (St.up hS) (show Enc.rep (α:=api_Unit) H [.slice oa9 p1.Lines.length cap10,.int .i64 p1.Stays,.slice oa21 p1.Firsts.length cap22,.int .i64 p1.Locks,.slice oa33 p1.Threads.length cap34,.int .i64 p1.Recover.Regs,.int .i64 p1.Recover.Counts,.slice oa41 p1.Recover.L.length cap42,.slice oa45 p1.Claims.length cap46] p1 from ⟨_,_,rfl,⟨_,_,rfl,hc11,hr12⟩,⟨_,_,rfl,rfl,⟨_,_,rfl,⟨_,_,rfl,hc23,hr24⟩,⟨_,_,rfl,rfl,⟨_,_,rfl,⟨_,_,rfl,hc35,hr36⟩,⟨_,_,rfl,⟨_,_,rfl,rfl,⟨_,_,rfl,rfl,⟨_,_,rfl,hc43,hr44⟩⟩⟩,⟨_,_,rfl,hc47,hr48⟩⟩⟩⟩⟩⟩⟩)) (St.blkO hS (.head _)) h68) ⟨rfl,rfl,trivial⟩ (fun v w a hR hF=>?_)
          obtain ⟨rfl,hk⟩:=hR
          replace hS:=hS.pass hk
          clear hk
          refine ls<|gy hF rfl rfl<|q1 hF rfl (e_not hF rfl) fun a hF=>?_
          refine ls<|q1 hF rfl (e_pickT hF rfl rfl) fun a hF=>?_
          refine ls<|q1 hF rfl (e_asg hF rfl) fun a hF=>?_
          refine re<|?_
          refine tn<|?_
          refine wr<|?_
          obtain rfl:=Option.some.inj hm
          exact r1 hF Tryz.results21 rfl ⟨rfl,hS.keep⟩
set_option maxRecDepth 100000 in
theorem Za_c {N:Nat} {w0:World} {H:PH} (hH:H.le w0) {p1:Int} {r:Str} (hm:Za N p1=some r):Tot Tryz.prog 43 #[.int .i64 p1] w0 (fun v w'=>v=strv r∧Keep Nil w0 w'):=by
  unfold Za at hm
  refine fn0 (args:=[.int .i64 p1]) (F:=[(0,.int .i64 p1)]) Tryz.func43 rfl Tryz.ntmps43 rfl rfl fun a hF=>?_
  have hS:St w0 Nil [H] [] w0:=start1 hH
  refine th<|?_
  refine rg<|?_
  refine ls<|q1 hF rfl (e_asg hF rfl) fun a hF=>?_
  refine re<|?_
  refine tn<|th<|th<|?_
  refine rg<|?_
  refine ls<|q1 hF rfl (e_move hF rfl) fun a hF=>?_
  refine ls<|q1 hF rfl (e_lss hF rfl rfl) fun a hF=>?_
  refine ls<|q1 hF rfl (e_move hF rfl) fun a hF=>?_
  refine grp (N:=23) (Fk:=[(0,.int .i64 p1),(9,.bool ((decide (p1 < 0)) || (decide (1099511627776 < p1))))]) (b:=(decide (p1 < 0))) 3 hS ?_ ?_ ?_
  ·
    intro hb key
    replace hF:=Fr.as hF (t:=6) rfl (congrArg Value.bool hb)
    refine ls<|gn hF rfl rfl rfl rfl fun a hF=>?_
    refine ls<|gn hF rfl rfl rfl rfl fun a hF=>?_
    refine ls<|q1 hF rfl (e_as (v':=.bool ((decide (p1 < 0)) || (decide (1099511627776 < p1)))) (e_pickT hF rfl rfl) (by rw [hb];rfl)) fun a hF=>?_
    exact key _ _ (hF.has ⟨rfl,rfl,trivial⟩) hS
  ·
    intro hb key
    replace hF:=Fr.as hF (t:=6) rfl (congrArg Value.bool hb)
    refine ls<|gy hF rfl rfl<|q1 hF rfl (e_move hF rfl) fun a hF=>?_
    refine ls<|gy hF rfl rfl<|q1 hF rfl (e_gtr hF rfl rfl) fun a hF=>?_
    refine ls<|q1 hF rfl (e_as (v':=.bool ((decide (p1 < 0)) || (decide (1099511627776 < p1)))) (e_pickF hF rfl rfl) (by rw [hb];rfl)) fun a hF=>?_
    exact key _ _ (hF.has ⟨rfl,rfl,trivial⟩) hS
  intro a w hF hS
  refine re<|?_
  rcases bdich ((decide (p1 < 0)) || (decide (1099511627776 < p1))) with hb2 | hb2
  ·
    replace hm:=ite_t hm hb2
    refine tn<|ctv hF rfl hb2<|th<|?_
    refine rg<|?_
    refine ls<|q1 hF rfl (e_asg hF rfl) fun a hF=>?_
    refine re<|?_
    refine tn<|?_
    refine wr<|tr<|?_
    obtain rfl:=Option.some.inj hm
    exact r1 hF Tryz.results43 rfl ⟨rfl,hS.keep⟩
  ·
    replace hm:=ite_f hm hb2
    refine tn<|cfv hF rfl hb2<|wk<|?_
    refine tn<|th<|?_
    refine rg<|?_
    refine ls<|a_alloc (cs:=[.pointer none,.slice none 0 0].toArray) hF rfl hS Tryz.zeroValue58 rfl fun b3 w a hS hF=>?_
    replace hS:=hS.bld0 (e:=5)
    refine re<|?_
    refine tn<|th<|midK (fun a w=>∃ (vA1:Int) (vA2:Str) (oaA3:Option Addr) (capA4:Nat) (vpA5:Value),Zb vA1 vA2=some r∧Fr 23 [(0,.int .i64 vA1),(3,.pointer (some ⟨b3,0,none⟩))] a∧St w0 Nil [H] [bldA 58 5 b3 vpA5 oaA3 capA4 vA2] w∧BP b3 vpA5) ?_ ?_
    ·
      refine wb<|lp (α:=Nat×Int×Str) (fun (gh:Nat×Int×Str) a w=>match gh with | (nn2,vB1,vB2)=>∃ (oaB3:Option Addr) (capB4:Nat) (vpB5:Value),(Zc N Zb) nn2 vB1 vB2=some r∧Fr 23 [(0,.int .i64 vB1),(3,.pointer (some ⟨b3,0,none⟩))] a∧St w0 Nil [H] [bldA 58 5 b3 vpB5 oaB3 capB4 vB2] w∧BP b3 vpB5) (fun gh=>gh.1) (N,p1,[]) ⟨none,0,(.pointer none),hm,hF.has ⟨rfl,rfl,trivial⟩,hS,(.inl rfl)⟩ ?_
      clear hm hF hS
      rintro ⟨nn2,vB1,vB2⟩ a w ⟨oaB3,capB4,vpB5,hm,hF,hS,hbB6⟩
      obtain _ | nn2:=nn2
      · simp [Zc] at hm
      rw [Zc] at hm
      refine th<|th<|?_
      refine rg<|?_
      refine ls<|q1 hF rfl (e_move hF rfl) fun a hF=>?_
      refine ls<|q1 hF rfl (e_geq hF rfl rfl) fun a hF=>?_
      refine re<|?_
      rcases bdich (decide (128≤vB1)) with hb4 | hb4
      ·
        replace hm:=itp_t hm hb4
        refine tn<|ctv hF rfl hb4<|wk<|?_
        refine tn<|th<|wb<|?_
        replace hm:=bind_some hm
        obtain ⟨s5,h6,hm⟩:=hm
        refine rg<|?_
        refine ls<|q1 hF rfl (e_move hF rfl) fun a hF=>?_
        refine ls<|q1 hF rfl (e_rem hF rfl rfl (by decide)) fun a hF=>?_
        refine ls<|q1 hF rfl (e_add hF rfl rfl) fun a hF=>?_
        refine ls<|q1 hF rfl (e_cvt hF Tryz.runUnderlying3 Tryz.runUnderlying5 rfl) fun a hF=>?_
        refine ls<|c1 hF rfl Tryz.call78 (bwb_c hS hbB6 h6) ⟨rfl,rfl,trivial⟩ (fun v w a hR hF=>?_)
        obtain ⟨rfl,oa7,cap8,hS⟩:=hR
        refine re<|?_
        refine bn<|tn<|?_
        replace hm:=bind_some hm
        obtain ⟨xz9,h10,hm⟩:=hm
        refine rg<|?_
        refine ls<|q1 hF rfl (e_move hF rfl) fun a hF=>?_
        refine ls<|q1 hF rfl (e_shrI hF rfl rfl h10) fun a hF=>?_
        refine ls<|q1 hF rfl (e_asg hF rfl) fun a hF=>?_
        refine re<|?_
        refine tn<|?_
        exact ⟨(nn2,xz9,s5),⟨oa7,cap8,(.pointer (some ⟨b3,0,none⟩)),hm,hF.has ⟨rfl,rfl,trivial⟩,hS,(.inr rfl)⟩,Nat.lt_succ_self _⟩
      ·
        replace hm:=itp_f hm hb4
        refine tn<|cfv hF rfl hb4<|?_
        refine we<|tx<|tx<|bx<|?_
        refine tn<|?_
        exact ⟨vB1,vB2,oaB3,capB4,vpB5,hm,hF.has ⟨rfl,rfl,trivial⟩,hS,hbB6⟩
    clear hm hF hS
    rintro a w ⟨vA1,vA2,oaA3,capA4,vpA5,hm,hF,hS,hbA6⟩
    unfold Zb at hm
    refine th<|?_
    replace hm:=bind_some hm
    obtain ⟨s11,h12,hm⟩:=hm
    refine rg<|?_
    refine ls<|q1 hF rfl (e_move hF rfl) fun a hF=>?_
    refine ls<|q1 hF rfl (e_cvt hF Tryz.runUnderlying3 Tryz.runUnderlying5 rfl) fun a hF=>?_
    refine ls<|c1 hF rfl Tryz.call78 (bwb_c hS hbA6 h12) ⟨rfl,rfl,trivial⟩ (fun v w a hR hF=>?_)
    obtain ⟨rfl,oa13,cap14,hS⟩:=hR
    refine re<|?_
    refine tn<|th<|?_
    refine rg<|?_
    refine ls<|c1 hF rfl Tryz.call26 (bstr_c hS (.inr rfl)) ⟨rfl,trivial⟩ (fun v w a hR hF=>?_)
    obtain ⟨rfl,hk⟩:=hR
    replace hS:=(start1 hH).pass hk
    clear hk
    refine ls<|q1 hF rfl (e_asg hF rfl) fun a hF=>?_
    refine re<|?_
    refine tn<|?_
    refine wr<|?_
    obtain rfl:=Option.some.inj hm
    exact r1 hF Tryz.results43 rfl ⟨rfl,hS.keep⟩
set_option maxRecDepth 100000 in
theorem Z15_c {N:Nat} {w0:World} {H:PH} (hH:H.le w0) {b2:Nat} {p1:Str} {oa3:Option Addr} {cap4:Nat} {vp5:Value} (hb6:BP b2 vp5) {p7:Int} (hO:(sepA [bldA 60 5 b2 vp5 oa3 cap4 p1]).ok (hp w0)) (hD:∀ b,(sepA [bldA 60 5 b2 vp5 oa3 cap4 p1]).fp b→H b=none) {r:Str} (hm:Z15 N p1 p7=some r):Tot Tryz.prog 23 #[.pointer (some ⟨b2,0,none⟩),.int .i64 p7] w0 (fun v w'=>∃ (vpm:Value) (oam:Option Addr) (capm:Nat),v=.tuple #[]∧BP b2 vpm∧Mut w0 (sepA [bldA 60 5 b2 vp5 oa3 cap4 p1]) (sepA [bldA 60 5 b2 vpm oam capm r]) w'):=by
  unfold Z15 at hm
  refine fn0 (args:=[.pointer (some ⟨b2,0,none⟩),.int .i64 p7]) (F:=[(0,.pointer (some ⟨b2,0,none⟩)),(1,.int .i64 p7)]) Tryz.func23 rfl Tryz.ntmps23 rfl rfl fun a hF=>?_
  have hS:=startM hH hO hD
  replace hm:=bind_some hm
  obtain ⟨rz8,h9,hm⟩:=hm
  replace hm:=bind_some hm
  obtain ⟨s10,h11,hm⟩:=hm
  refine rdL sub_nil 6 hS wide fun w hS=>?_
  refine d1 (i:=0) rfl (by kernel_rfl) (by kernel_rfl) (St.ldsX hS (fun _ _ h=>h) (fun _ h=>(.tail _ h))) hF rfl (fun _ _ _ h=>h) (fun w hl=>(e_move hF rfl)) fun a hF=>?_
  refine d1 (i:=1) rfl (by kernel_rfl) (by kernel_rfl) (St.ldsX hS (fun _ _ h=>h) (fun _ h=>(.tail _ h))) hF rfl (fun _ _ _ h=>h) (fun w hl=>(e_nilp hF rfl)) fun a hF=>?_
  refine d1 (i:=2) rfl (by kernel_rfl) (by kernel_rfl) (St.ldsX hS (fun _ _ h=>h) (fun _ h=>(.tail _ h))) hF rfl (fun _ _ _ h=>h) (fun w hl=>(e_fa hF fa60_0 rfl)) fun a hF=>?_
  refine d1 (i:=3) rfl (by kernel_rfl) (by kernel_rfl) (St.ldsX hS (fun _ _ h=>h) (fun _ h=>(.tail _ h))) hF rfl (fun _ _ _ h=>h) (fun w hl=>(e_move hF rfl)) fun a hF=>?_
  refine da1 (i:=4) (by kernel_rfl) ?_
  refine di (i:=4) rfl<|c1 hF rfl Tryz.call43 (Za_c (hp_le _) h9) ⟨rfl,trivial⟩ (fun v w a hR hF=>?_)
  obtain ⟨rfl,hk⟩:=hR
  replace hS:=hS.pass hk
  clear hk
  refine ⟨fun _=>(St.ldsX hS (fun _ _ h=>h) (fun _ h=>(.tail _ h))),?_⟩
  refine da1 (i:=5) (by kernel_rfl) ?_
  refine di (i:=5) rfl<|c1 hF rfl Tryz.call44 (bws60_c hS hb6 h11) ⟨rfl,rfl,trivial⟩ (fun v w a hR hF=>?_)
  obtain ⟨rfl,oa12,cap13,hS⟩:=hR
  refine ⟨fun _=>(St.ldsX hS (fun _ _ h=>h) (fun _ h=>(.tail _ h))),?_⟩
  refine de (by kernel_rfl)<|?_
  obtain rfl:=Option.some.inj hm
  exact r0n hF Tryz.results23 ⟨(.pointer (some ⟨b2,0,none⟩)),oa12,cap13,rfl,(.inr rfl),(hS.pickL (.cons .head .nil)).endMut⟩
set_option maxRecDepth 100000 in
theorem Z16_c {N:Nat} {w0:World} {H:PH} (hH:H.le w0) {b2:Nat} {p1:Str} {oa3:Option Addr} {cap4:Nat} {vp5:Value} (hb6:BP b2 vp5) {oa8:Option Addr} {cap9:Nat} {p7:(List Int)} (hc10:p7.length≤cap9) (hr11:SR H oa8 p7) (hO:(sepA [bldA 60 5 b2 vp5 oa3 cap4 p1]).ok (hp w0)) (hD:∀ b,(sepA [bldA 60 5 b2 vp5 oa3 cap4 p1]).fp b→H b=none) {r:Str} (hm:Z16 N p1 p7=some r):Tot Tryz.prog 22 #[.pointer (some ⟨b2,0,none⟩),.slice oa8 p7.length cap9] w0 (fun v w'=>∃ (vpm:Value) (oam:Option Addr) (capm:Nat),v=.tuple #[]∧BP b2 vpm∧Mut w0 (sepA [bldA 60 5 b2 vp5 oa3 cap4 p1]) (sepA [bldA 60 5 b2 vpm oam capm r]) w'):=by
  unfold Z16 at hm
  refine fn0 (args:=[.pointer (some ⟨b2,0,none⟩),.slice oa8 p7.length cap9]) (F:=[(0,.pointer (some ⟨b2,0,none⟩)),(1,.slice oa8 p7.length cap9)]) Tryz.func22 rfl Tryz.ntmps22 rfl rfl fun a hF=>?_
  have hS:=startM hH hO hD
  refine th<|?_
  replace hm:=bind_some hm
  obtain ⟨r12,h13,hm⟩:=hm
  refine rg<|?_
  refine ls<|q1 hF rfl (e_move hF rfl) fun a hF=>?_
  refine ls<|q1 hF rfl (e_move hF rfl) fun a hF=>?_
  refine ls<|q1 hF rfl (e_lenL (α:=Int) (xs:=p7) hF Tryz.runUnderlying22 rfl) fun a hF=>?_
  replace hS:=hS.pickL (.cons .head .nil)
  replace hS:=St.sep [bldA 60 5 b2 vp5 oa3 cap4 p1] hS
  refine ls<|c1 hF rfl Tryz.call23 (Z15_c (St.le hS) (p1:=p1) (b2:=b2) (oa3:=oa3) (cap4:=cap4) (vp5:=vp5) hb6 (St.sepOk hS) (St.sepDis hS) h13) ⟨rfl,rfl,trivial⟩ (fun v w a hR hF=>?_)
  obtain ⟨vp16,oa14,cap15,rfl,hb17,hk⟩:=hR
  replace hS:=(hS.mut hk .head).unsep
  clear hk
  refine re<|?_
  refine tn<|th<|?_
  refine rg<|?_
  refine ls<|q1 hF rfl (e_move hF rfl) fun a hF=>?_
  refine ls<|q1 hF rfl (e_lenL (α:=Int) (xs:=p7) hF Tryz.runUnderlying22 rfl) fun a hF=>?_
  refine ls<|q1 hF rfl (e_move hF rfl) fun a hF=>?_
  refine re<|?_
  refine tn<|wb<|lp (α:=Nat×Str×Int) (fun (gh:Nat×Str×Int) a w=>match gh with | (nn1,vA1,vA6)=>∃ (oaA2:Option Addr) (capA3:Nat) (vpA4:Value),(Z17 N p7) nn1 vA1 vA6=some r∧Fr 20 [(0,.pointer (some ⟨b2,0,none⟩)),(10,.slice oa8 p7.length cap9),(11,.int .i64 (p7.length:Int)),(12,.int .i64 vA6)] a∧St w0 (sepA [bldA 60 5 b2 vp5 oa3 cap4 p1]).fp [H] [bldA 60 5 b2 vpA4 oaA2 capA3 vA1] w∧BP b2 vpA4) (fun gh=>gh.1) (N,r12,0) ⟨oa14,cap15,vp16,hm,hF.has ⟨rfl,rfl,rfl,rfl,trivial⟩,hS,hb17⟩ ?_
  clear hm hF hS
  rintro ⟨nn1,vA1,vA6⟩ a w ⟨oaA2,capA3,vpA4,hm,hF,hS,hbA5⟩
  obtain _ | nn1:=nn1
  · simp [Z17] at hm
  rw [Z17] at hm
  refine th<|?_
  refine rg<|?_
  refine ls<|q1 hF rfl (e_lss hF rfl rfl) fun a hF=>?_
  refine re<|?_
  rcases bdich (decide (vA6 < (p7.length:Int))) with hb18 | hb18
  ·
    replace hm:=itp_t hm hb18
    refine tn<|th<|ctv hF rfl hb18<|wk<|?_
    refine tn<|th<|wb<|th<|?_
    replace hm:=bind_some hm
    obtain ⟨x19,h20,hm⟩:=hm
    obtain ⟨c21,g22,hl23⟩:=SR.get hr11 h20
    obtain rfl:c21=[.int .i64 x19]:=g22
    refine rg<|?_
    refine ls<|q1 hF rfl (e_iaI hF Tryz.runUnderlying22 Tryz.sizeOf3 rfl rfl h20 (SR.oaI hr11 (by decide) h20)) fun a hF=>?_
    refine ls<|q1 hF rfl (e_ld hF Tryz.isAgg3 rfl (PH.le.cell (Lds.le (St.ld hS)) (hl23 0 _ rfl))) fun a hF=>?_
    refine ls<|q1 hF rfl (e_asg hF rfl) fun a hF=>?_
    refine re<|?_
    refine tn<|?_
    replace hm:=bind_some hm
    obtain ⟨r24,h25,hm⟩:=hm
    refine rg<|?_
    refine ls<|q1 hF rfl (e_move hF rfl) fun a hF=>?_
    refine ls<|q1 hF rfl (e_move hF rfl) fun a hF=>?_
    replace hS:=hS.pickL (.cons .head .nil)
    replace hS:=St.sep [bldA 60 5 b2 vpA4 oaA2 capA3 vA1] hS
    refine ls<|c1 hF rfl Tryz.call23 (Z15_c (St.le hS) (p1:=vA1) (b2:=b2) (oa3:=oaA2) (cap4:=capA3) (vp5:=vpA4) hbA5 (St.sepOk hS) (St.sepDis hS) h25) ⟨rfl,rfl,trivial⟩ (fun v w a hR hF=>?_)
    obtain ⟨vp28,oa26,cap27,rfl,hb29,hk⟩:=hR
    replace hS:=(hS.mut hk .head).unsep
    clear hk
    refine re<|?_
    refine bn<|tn<|?_
    refine rg<|?_
    refine ls<|q1 hF rfl (e_add hF rfl rfl) fun a hF=>?_
    refine ls<|q1 hF rfl (e_move hF rfl) fun a hF=>?_
    refine re<|?_
    refine tn<|?_
    exact ⟨(nn1,r24,(IntKind.i64.wrap (vA6+1))),⟨oa26,cap27,vp28,hm,hF.has ⟨rfl,rfl,rfl,rfl,trivial⟩,hS,hb29⟩,Nat.lt_succ_self _⟩
  ·
    replace hm:=itp_f hm hb18
    refine tn<|th<|cfv hF rfl hb18<|?_
    refine we<|tx<|tx<|bx<|?_
    obtain rfl:=Option.some.inj hm
    exact r0n hF Tryz.results22 ⟨vpA4,oaA2,capA3,rfl,hbA5,(hS.pickL (.cons .head .nil)).endMut⟩
set_option maxRecDepth 100000 in
theorem Z18_c {N:Nat} {w0:World} {H:PH} (hH:H.le w0) {b2:Nat} {p1:Str} {oa3:Option Addr} {cap4:Nat} {vp5:Value} (hb6:BP b2 vp5) {oa8:Option Addr} {cap9:Nat} {p7:(List api_Op)} (hc10:p7.length≤cap9) (hr11:SR H oa8 p7) (hO:(sepA [bldA 60 5 b2 vp5 oa3 cap4 p1]).ok (hp w0)) (hD:∀ b,(sepA [bldA 60 5 b2 vp5 oa3 cap4 p1]).fp b→H b=none) {r:Str} (hm:Z18 N p1 p7=some r):Tot Tryz.prog 25 #[.pointer (some ⟨b2,0,none⟩),.slice oa8 p7.length cap9] w0 (fun v w'=>∃ (vpm:Value) (oam:Option Addr) (capm:Nat),v=.tuple #[]∧BP b2 vpm∧Mut w0 (sepA [bldA 60 5 b2 vp5 oa3 cap4 p1]) (sepA [bldA 60 5 b2 vpm oam capm r]) w'):=by
  unfold Z18 at hm
  refine fn0 (args:=[.pointer (some ⟨b2,0,none⟩),.slice oa8 p7.length cap9]) (F:=[(0,.pointer (some ⟨b2,0,none⟩)),(1,.slice oa8 p7.length cap9)]) Tryz.func25 rfl Tryz.ntmps25 rfl rfl fun a hF=>?_
  have hS:=startM hH hO hD
  refine th<|?_
  replace hm:=bind_some hm
  obtain ⟨r12,h13,hm⟩:=hm
  refine rg<|?_
  refine ls<|q1 hF rfl (e_move hF rfl) fun a hF=>?_
  refine ls<|q1 hF rfl (e_move hF rfl) fun a hF=>?_
  refine ls<|q1 hF rfl (e_lenL (α:=api_Op) (xs:=p7) hF Tryz.runUnderlying54 rfl) fun a hF=>?_
  replace hS:=hS.pickL (.cons .head .nil)
  replace hS:=St.sep [bldA 60 5 b2 vp5 oa3 cap4 p1] hS
  refine ls<|c1 hF rfl Tryz.call23 (Z15_c (St.le hS) (p1:=p1) (b2:=b2) (oa3:=oa3) (cap4:=cap4) (vp5:=vp5) hb6 (St.sepOk hS) (St.sepDis hS) h13) ⟨rfl,rfl,trivial⟩ (fun v w a hR hF=>?_)
  obtain ⟨vp16,oa14,cap15,rfl,hb17,hk⟩:=hR
  replace hS:=(hS.mut hk .head).unsep
  clear hk
  refine re<|?_
  refine tn<|th<|?_
  refine rg<|?_
  refine ls<|q1 hF rfl (e_move hF rfl) fun a hF=>?_
  refine ls<|q1 hF rfl (e_lenL (α:=api_Op) (xs:=p7) hF Tryz.runUnderlying54 rfl) fun a hF=>?_
  refine ls<|q1 hF rfl (e_move hF rfl) fun a hF=>?_
  refine re<|?_
  refine tn<|wb<|lp (α:=Nat×Str×Int) (fun (gh:Nat×Str×Int) a w=>match gh with | (nn1,vA1,vA6)=>∃ (oaA2:Option Addr) (capA3:Nat) (vpA4:Value),(Z19 N p7) nn1 vA1 vA6=some r∧Fr 25 [(0,.pointer (some ⟨b2,0,none⟩)),(10,.slice oa8 p7.length cap9),(11,.int .i64 (p7.length:Int)),(12,.int .i64 vA6)] a∧St w0 (sepA [bldA 60 5 b2 vp5 oa3 cap4 p1]).fp [H] [bldA 60 5 b2 vpA4 oaA2 capA3 vA1] w∧BP b2 vpA4) (fun gh=>gh.1) (N,r12,0) ⟨oa14,cap15,vp16,hm,hF.has ⟨rfl,rfl,rfl,rfl,trivial⟩,hS,hb17⟩ ?_
  clear hm hF hS
  rintro ⟨nn1,vA1,vA6⟩ a w ⟨oaA2,capA3,vpA4,hm,hF,hS,hbA5⟩
  obtain _ | nn1:=nn1
  · simp [Z19] at hm
  rw [Z19] at hm
  refine th<|?_
  refine rg<|?_
  refine ls<|q1 hF rfl (e_lss hF rfl rfl) fun a hF=>?_
  refine re<|?_
  rcases bdich (decide (vA6 < (p7.length:Int))) with hb18 | hb18
  ·
    replace hm:=itp_t hm hb18
    refine tn<|th<|ctv hF rfl hb18<|wk<|?_
    refine tn<|th<|wb<|th<|?_
    replace hm:=bind_some hm
    obtain ⟨x19,h20,hm⟩:=hm
    obtain ⟨c21,g22,hl23⟩:=SR.get hr11 h20
    obtain rfl:=api_Op_open g22
    refine rg<|?_
    refine ls<|q1 hF rfl (e_iaI hF Tryz.runUnderlying54 Tryz.sizeOf83 rfl rfl h20 (SR.oaI hr11 (by decide) h20)) fun a hF=>?_
    refine ls<|q1 hF rfl (e_ldA hF Tryz.isAgg83 Tryz.sizeOf83 rfl rfl (fun j v hj=>PH.le.cell (Lds.le (St.ld hS)) (hl23 j v hj))) fun a hF=>?_
    refine ls<|a_alloc (cs:=[.int .i64 0,.int .i64 0].toArray) hF rfl hS Tryz.zeroValue83 rfl fun b24 w a hS hF=>?_
    refine ls<|s_blkA hF hS Tryz.sizeOf83 rfl rfl rfl rfl (one_cells rfl) .head fun w hS=>?_
    refine re<|?_
    refine tn<|th<|?_
    replace hm:=bind_some hm
    obtain ⟨r25,h26,hm⟩:=hm
    refine rg<|?_
    refine ls<|q1 hF rfl (e_move hF rfl) fun a hF=>?_
    refine ls<|q1 hF rfl (e_fa hF fa83_0 rfl) fun a hF=>?_
    refine ls<|q1 hF rfl (e_ld hF Tryz.isAgg3 rfl ((St.ld hS).cellB (.head _) rfl)) fun a hF=>?_
    replace hS:=hS.pickL (.cons (.tail .head) (.cons .head .nil))
    replace hS:=St.sep [bldA 60 5 b2 vpA4 oaA2 capA3 vA1] hS
    refine ls<|c1 hF rfl Tryz.call23 (Z15_c (St.le hS) (p1:=vA1) (b2:=b2) (oa3:=oaA2) (cap4:=capA3) (vp5:=vpA4) hbA5 (St.sepOk hS) (St.sepDis hS) h26) ⟨rfl,rfl,trivial⟩ (fun v w a hR hF=>?_)
    obtain ⟨vp29,oa27,cap28,rfl,hb30,hk⟩:=hR
    replace hS:=(hS.mut hk .head).unsep
    clear hk
    refine re<|?_
    refine tn<|?_
    replace hm:=bind_some hm
    obtain ⟨r31,h32,hm⟩:=hm
    refine rg<|?_
    refine ls<|q1 hF rfl (e_move hF rfl) fun a hF=>?_
    refine ls<|q1 hF rfl (e_fa hF fa83_1 rfl) fun a hF=>?_
    refine ls<|q1 hF rfl (e_ld hF Tryz.isAgg3 rfl ((St.ld hS).cellB (.tail _ (.head _)) rfl)) fun a hF=>?_
    replace hS:=hS.pickL (.cons .head (.cons .head .nil))
    replace hS:=St.sep [bldA 60 5 b2 vp29 oa27 cap28 r25] hS
    refine ls<|c1 hF rfl Tryz.call23 (Z15_c (St.le hS) (p1:=r25) (b2:=b2) (oa3:=oa27) (cap4:=cap28) (vp5:=vp29) hb30 (St.sepOk hS) (St.sepDis hS) h32) ⟨rfl,rfl,trivial⟩ (fun v w a hR hF=>?_)
    obtain ⟨vp35,oa33,cap34,rfl,hb36,hk⟩:=hR
    replace hS:=(hS.mut hk .head).unsep
    clear hk
    refine re<|?_
    refine bn<|tn<|?_
    refine rg<|?_
    refine ls<|q1 hF rfl (e_add hF rfl rfl) fun a hF=>?_
    refine ls<|q1 hF rfl (e_move hF rfl) fun a hF=>?_
    refine re<|?_
    refine tn<|?_
    replace hS:=hS.pickL (.cons .head .nil)
    exact ⟨(nn1,r31,(IntKind.i64.wrap (vA6+1))),⟨oa33,cap34,vp35,hm,hF.has ⟨rfl,rfl,rfl,rfl,trivial⟩,hS,hb36⟩,Nat.lt_succ_self _⟩
  ·
    replace hm:=itp_f hm hb18
    refine tn<|th<|cfv hF rfl hb18<|?_
    refine we<|tx<|tx<|bx<|?_
    obtain rfl:=Option.some.inj hm
    exact r0n hF Tryz.results25 ⟨vpA4,oaA2,capA3,rfl,hbA5,(hS.pickL (.cons .head .nil)).endMut⟩
set_option maxRecDepth 100000 in
theorem Z13_c {N:Nat} {w0:World} {H:PH} (hH:H.le w0) {b2:Nat} {p1:Str} {oa3:Option Addr} {cap4:Nat} {vp5:Value} (hb6:BP b2 vp5) {cs8:List Value} {p7:api_Code} (g9:Enc.rep H cs8 p7) (hO:(sepA [bldA 60 5 b2 vp5 oa3 cap4 p1]).ok (hp w0)) (hD:∀ b,(sepA [bldA 60 5 b2 vp5 oa3 cap4 p1]).fp b→H b=none) {r:Str} (hm:Z13 N p1 p7=some r):Tot Tryz.prog 24 #[.pointer (some ⟨b2,0,none⟩),.agg cs8.toArray] w0 (fun v w'=>∃ (vpm:Value) (oam:Option Addr) (capm:Nat),v=.tuple #[]∧BP b2 vpm∧Mut w0 (sepA [bldA 60 5 b2 vp5 oa3 cap4 p1]) (sepA [bldA 60 5 b2 vpm oam capm r]) w'):=by
  unfold Z13 at hm
  refine fn0 (args:=[.pointer (some ⟨b2,0,none⟩),.agg cs8.toArray]) (F:=[(0,.pointer (some ⟨b2,0,none⟩)),(1,.agg cs8.toArray)]) Tryz.func24 rfl Tryz.ntmps24 rfl rfl fun a hF=>?_
  have hS:=startM hH hO hD
  obtain ⟨oa10,cap11,rfl,hc12,hr13⟩:=api_Code_open g9
  refine th<|?_
  refine rg<|?_
  refine ls<|a_box (cs:=[.int .i64 p7.Regs,.int .i64 p7.Counts,.slice oa10 p7.L.length cap11].toArray) hF rfl hS rfl rfl fun b14 w a hS hF=>?_
  refine re<|?_
  refine tn<|th<|?_
  replace hm:=bind_some hm
  obtain ⟨r15,h16,hm⟩:=hm
  refine rg<|?_
  refine ls<|q1 hF rfl (e_move hF rfl) fun a hF=>?_
  refine ls<|q1 hF rfl (e_fa hF fa26_0 rfl) fun a hF=>?_
  refine ls<|q1 hF rfl (e_ld hF Tryz.isAgg3 rfl ((St.ld hS).cellB (.head _) rfl)) fun a hF=>?_
  replace hS:=hS.pickL (.cons (.tail .head) (.cons .head .nil))
  replace hS:=St.sep [bldA 60 5 b2 vp5 oa3 cap4 p1] hS
  refine ls<|c1 hF rfl Tryz.call23 (Z15_c (St.le hS) (p1:=p1) (b2:=b2) (oa3:=oa3) (cap4:=cap4) (vp5:=vp5) hb6 (St.sepOk hS) (St.sepDis hS) h16) ⟨rfl,rfl,trivial⟩ (fun v w a hR hF=>?_)
  obtain ⟨vp19,oa17,cap18,rfl,hb20,hk⟩:=hR
  replace hS:=(hS.mut hk .head).unsep
  clear hk
  refine re<|?_
  refine tn<|th<|?_
  replace hm:=bind_some hm
  obtain ⟨r21,h22,hm⟩:=hm
  refine rg<|?_
  refine ls<|q1 hF rfl (e_move hF rfl) fun a hF=>?_
  refine ls<|q1 hF rfl (e_fa hF fa26_1 rfl) fun a hF=>?_
  refine ls<|q1 hF rfl (e_ld hF Tryz.isAgg3 rfl ((St.ld hS).cellB (.tail _ (.head _)) rfl)) fun a hF=>?_
  replace hS:=hS.pickL (.cons .head (.cons .head .nil))
  replace hS:=St.sep [bldA 60 5 b2 vp19 oa17 cap18 r15] hS
  refine ls<|c1 hF rfl Tryz.call23 (Z15_c (St.le hS) (p1:=r15) (b2:=b2) (oa3:=oa17) (cap4:=cap18) (vp5:=vp19) hb20 (St.sepOk hS) (St.sepDis hS) h22) ⟨rfl,rfl,trivial⟩ (fun v w a hR hF=>?_)
  obtain ⟨vp25,oa23,cap24,rfl,hb26,hk⟩:=hR
  replace hS:=(hS.mut hk .head).unsep
  clear hk
  refine re<|?_
  refine tn<|th<|?_
  replace hm:=bind_some hm
  obtain ⟨r27,h28,hm⟩:=hm
  refine rg<|?_
  refine ls<|q1 hF rfl (e_move hF rfl) fun a hF=>?_
  refine ls<|q1 hF rfl (e_fa hF fa26_2 rfl) fun a hF=>?_
  refine ls<|q1 hF rfl (e_ld hF Tryz.isAgg24 rfl ((St.ld hS).cellB (.tail _ (.head _)) rfl)) fun a hF=>?_
  refine ls<|q1 hF rfl (e_lenL (α:=api_Instr) (xs:=p7.L) hF Tryz.runUnderlying24 rfl) fun a hF=>?_
  replace hS:=hS.pickL (.cons .head (.cons .head .nil))
  replace hS:=St.sep [bldA 60 5 b2 vp25 oa23 cap24 r21] hS
  refine ls<|c1 hF rfl Tryz.call23 (Z15_c (St.le hS) (p1:=r21) (b2:=b2) (oa3:=oa23) (cap4:=cap24) (vp5:=vp25) hb26 (St.sepOk hS) (St.sepDis hS) h28) ⟨rfl,rfl,trivial⟩ (fun v w a hR hF=>?_)
  obtain ⟨vp31,oa29,cap30,rfl,hb32,hk⟩:=hR
  replace hS:=(hS.mut hk .head).unsep
  clear hk
  refine re<|?_
  refine tn<|th<|?_
  refine rg<|?_
  refine ls<|q1 hF rfl (e_fa hF fa26_2 rfl) fun a hF=>?_
  refine ls<|q1 hF rfl (e_ld hF Tryz.isAgg24 rfl ((St.ld hS).cellB (.tail _ (.head _)) rfl)) fun a hF=>?_
  refine ls<|q1 hF rfl (e_lenL (α:=api_Instr) (xs:=p7.L) hF Tryz.runUnderlying24 rfl) fun a hF=>?_
  refine ls<|q1 hF rfl (e_move hF rfl) fun a hF=>?_
  refine re<|?_
  replace hS:=hS.pickL (.cons .head .nil)
  refine tn<|wb<|lp (α:=Nat×Str×Int) (fun (gh:Nat×Str×Int) a w=>match gh with | (nn1,vA1,vA6)=>∃ (oaA2:Option Addr) (capA3:Nat) (vpA4:Value),(Z14 N p7) nn1 vA1 vA6=some r∧Fr 51 [(0,.pointer (some ⟨b2,0,none⟩)),(20,.slice oa10 p7.L.length cap11),(21,.int .i64 (p7.L.length:Int)),(22,.int .i64 vA6)] a∧St w0 (sepA [bldA 60 5 b2 vp5 oa3 cap4 p1]).fp [H] [bldA 60 5 b2 vpA4 oaA2 capA3 vA1] w∧BP b2 vpA4) (fun gh=>gh.1) (N,r27,0) ⟨oa29,cap30,vp31,hm,hF.has ⟨rfl,rfl,rfl,rfl,trivial⟩,hS,hb32⟩ ?_
  clear hm hF hS
  rintro ⟨nn1,vA1,vA6⟩ a w ⟨oaA2,capA3,vpA4,hm,hF,hS,hbA5⟩
  obtain _ | nn1:=nn1
  · simp [Z14] at hm
  rw [Z14] at hm
  refine th<|?_
  refine rg<|?_
  refine ls<|q1 hF rfl (e_lss hF rfl rfl) fun a hF=>?_
  refine re<|?_
  rcases bdich (decide (vA6 < (p7.L.length:Int))) with hb33 | hb33
  ·
    replace hm:=itp_t hm hb33
    refine tn<|th<|ctv hF rfl hb33<|wk<|?_
    refine tn<|th<|wb<|th<|?_
    replace hm:=bind_some hm
    obtain ⟨x34,h35,hm⟩:=hm
    obtain ⟨c36,g37,hl38⟩:=SR.get hr13 h35
    obtain ⟨oa39,cap40,oa43,cap44,rfl,hc41,hr42,hc45,hr46⟩:=api_Instr_open g37
    refine rg<|?_
    refine ls<|q1 hF rfl (e_iaI hF Tryz.runUnderlying24 Tryz.sizeOf85 rfl rfl h35 (SR.oaI hr13 (by decide) h35)) fun a hF=>?_
    refine ls<|q1 hF rfl (e_ldA hF Tryz.isAgg85 Tryz.sizeOf85 rfl rfl (fun j v hj=>PH.le.cell (Lds.le (St.ld hS)) (hl38 j v hj))) fun a hF=>?_
    refine ls<|a_alloc (cs:=[.int .i64 0,.int .i64 0,.int .i64 0,.slice none 0 0,.slice none 0 0,.int .i64 0].toArray) hF rfl hS Tryz.zeroValue85 rfl fun b47 w a hS hF=>?_
    refine ls<|s_blkA hF hS Tryz.sizeOf85 rfl rfl rfl rfl (one_cells rfl) .head fun w hS=>?_
    refine re<|?_
    refine tn<|th<|?_
    replace hm:=bind_some hm
    obtain ⟨r48,h49,hm⟩:=hm
    refine rg<|?_
    refine ls<|q1 hF rfl (e_move hF rfl) fun a hF=>?_
    refine ls<|q1 hF rfl (e_fa hF fa85_0 rfl) fun a hF=>?_
    refine ls<|q1 hF rfl (e_ld hF Tryz.isAgg3 rfl ((St.ld hS).cellB (.head _) rfl)) fun a hF=>?_
    replace hS:=hS.pickL (.cons (.tail .head) (.cons .head .nil))
    replace hS:=St.sep [bldA 60 5 b2 vpA4 oaA2 capA3 vA1] hS
    refine ls<|c1 hF rfl Tryz.call23 (Z15_c (St.le hS) (p1:=vA1) (b2:=b2) (oa3:=oaA2) (cap4:=capA3) (vp5:=vpA4) hbA5 (St.sepOk hS) (St.sepDis hS) h49) ⟨rfl,rfl,trivial⟩ (fun v w a hR hF=>?_)
    obtain ⟨vp52,oa50,cap51,rfl,hb53,hk⟩:=hR
    replace hS:=(hS.mut hk .head).unsep
    clear hk
    refine re<|?_
    refine tn<|th<|?_
    replace hm:=bind_some hm
    obtain ⟨r54,h55,hm⟩:=hm
    refine rg<|?_
    refine ls<|q1 hF rfl (e_move hF rfl) fun a hF=>?_
    refine ls<|q1 hF rfl (e_fa hF fa85_1 rfl) fun a hF=>?_
    refine ls<|q1 hF rfl (e_ld hF Tryz.isAgg3 rfl ((St.ld hS).cellB (.tail _ (.head _)) rfl)) fun a hF=>?_
    replace hS:=hS.pickL (.cons .head (.cons .head .nil))
    replace hS:=St.sep [bldA 60 5 b2 vp52 oa50 cap51 r48] hS
    refine ls<|c1 hF rfl Tryz.call23 (Z15_c (St.le hS) (p1:=r48) (b2:=b2) (oa3:=oa50) (cap4:=cap51) (vp5:=vp52) hb53 (St.sepOk hS) (St.sepDis hS) h55) ⟨rfl,rfl,trivial⟩ (fun v w a hR hF=>?_)
    obtain ⟨vp58,oa56,cap57,rfl,hb59,hk⟩:=hR
    replace hS:=(hS.mut hk .head).unsep
    clear hk
    refine re<|?_
    refine tn<|th<|?_
    replace hm:=bind_some hm
    obtain ⟨r60,h61,hm⟩:=hm
    refine rg<|?_
    refine ls<|q1 hF rfl (e_move hF rfl) fun a hF=>?_
    refine ls<|q1 hF rfl (e_fa hF fa85_2 rfl) fun a hF=>?_
    refine ls<|q1 hF rfl (e_ld hF Tryz.isAgg3 rfl ((St.ld hS).cellB (.tail _ (.head _)) rfl)) fun a hF=>?_
    replace hS:=hS.pickL (.cons .head (.cons .head .nil))
    replace hS:=St.sep [bldA 60 5 b2 vp58 oa56 cap57 r54] hS
    refine ls<|c1 hF rfl Tryz.call23 (Z15_c (St.le hS) (p1:=r54) (b2:=b2) (oa3:=oa56) (cap4:=cap57) (vp5:=vp58) hb59 (St.sepOk hS) (St.sepDis hS) h61) ⟨rfl,rfl,trivial⟩ (fun v w a hR hF=>?_)
    obtain ⟨vp64,oa62,cap63,rfl,hb65,hk⟩:=hR
    replace hS:=(hS.mut hk .head).unsep
    clear hk
    refine re<|?_
    refine tn<|th<|?_
    replace hm:=bind_some hm
    obtain ⟨r66,h67,hm⟩:=hm
    refine rg<|?_
    refine ls<|q1 hF rfl (e_move hF rfl) fun a hF=>?_
    refine ls<|q1 hF rfl (e_fa hF fa85_5 rfl) fun a hF=>?_
    refine ls<|q1 hF rfl (e_ld hF Tryz.isAgg3 rfl ((St.ld hS).cellB (.tail _ (.head _)) rfl)) fun a hF=>?_
    replace hS:=hS.pickL (.cons .head (.cons .head .nil))
    replace hS:=St.sep [bldA 60 5 b2 vp64 oa62 cap63 r60] hS
    refine ls<|c1 hF rfl Tryz.call23 (Z15_c (St.le hS) (p1:=r60) (b2:=b2) (oa3:=oa62) (cap4:=cap63) (vp5:=vp64) hb65 (St.sepOk hS) (St.sepDis hS) h67) ⟨rfl,rfl,trivial⟩ (fun v w a hR hF=>?_)
    obtain ⟨vp70,oa68,cap69,rfl,hb71,hk⟩:=hR
    replace hS:=(hS.mut hk .head).unsep
    clear hk
    refine re<|?_
    refine tn<|th<|?_
    replace hm:=bind_some hm
    obtain ⟨r72,h73,hm⟩:=hm
    refine rg<|?_
    refine ls<|q1 hF rfl (e_move hF rfl) fun a hF=>?_
    refine ls<|q1 hF rfl (e_fa hF fa85_3 rfl) fun a hF=>?_
    refine ls<|q1 hF rfl (e_ld hF Tryz.isAgg54 rfl ((St.ld hS).cellB (.tail _ (.head _)) rfl)) fun a hF=>?_
    replace hS:=hS.pickL (.cons .head (.cons .head .nil))
    replace hS:=St.sep [bldA 60 5 b2 vp70 oa68 cap69 r66] hS
    refine ls<|c1 hF rfl Tryz.call25 (Z18_c (St.le hS) (p1:=r66) (b2:=b2) (oa3:=oa68) (cap4:=cap69) (vp5:=vp70) hb71 hc41 hr42 (St.sepOk hS) (St.sepDis hS) h73) ⟨rfl,rfl,trivial⟩ (fun v w a hR hF=>?_)
    obtain ⟨vp76,oa74,cap75,rfl,hb77,hk⟩:=hR
    replace hS:=(hS.mut hk .head).unsep
    clear hk
    refine re<|?_
    refine tn<|?_
    replace hm:=bind_some hm
    obtain ⟨r78,h79,hm⟩:=hm
    refine rg<|?_
    refine ls<|q1 hF rfl (e_move hF rfl) fun a hF=>?_
    refine ls<|q1 hF rfl (e_fa hF fa85_4 rfl) fun a hF=>?_
    refine ls<|q1 hF rfl (e_ld hF Tryz.isAgg54 rfl ((St.ld hS).cellB (.tail _ (.head _)) rfl)) fun a hF=>?_
    replace hS:=hS.pickL (.cons .head (.cons .head .nil))
    replace hS:=St.sep [bldA 60 5 b2 vp76 oa74 cap75 r72] hS
    refine ls<|c1 hF rfl Tryz.call25 (Z18_c (St.le hS) (p1:=r72) (b2:=b2) (oa3:=oa74) (cap4:=cap75) (vp5:=vp76) hb77 hc45 hr46 (St.sepOk hS) (St.sepDis hS) h79) ⟨rfl,rfl,trivial⟩ (fun v w a hR hF=>?_)
    obtain ⟨vp82,oa80,cap81,rfl,hb83,hk⟩:=hR
    replace hS:=(hS.mut hk .head).unsep
    clear hk
    refine re<|?_
    refine bn<|tn<|?_
    refine rg<|?_
    refine ls<|q1 hF rfl (e_add hF rfl rfl) fun a hF=>?_
    refine ls<|q1 hF rfl (e_move hF rfl) fun a hF=>?_
    refine re<|?_
    refine tn<|?_
    replace hS:=hS.pickL (.cons .head .nil)
    exact ⟨(nn1,r78,(IntKind.i64.wrap (vA6+1))),⟨oa80,cap81,vp82,hm,hF.has ⟨rfl,rfl,rfl,rfl,trivial⟩,hS,hb83⟩,Nat.lt_succ_self _⟩
  ·
    replace hm:=itp_f hm hb33
    refine tn<|th<|cfv hF rfl hb33<|?_
    refine we<|tx<|tx<|bx<|?_
    obtain rfl:=Option.some.inj hm
    exact r0n hF Tryz.results24 ⟨vpA4,oaA2,capA3,rfl,hbA5,(hS.pickL (.cons .head .nil)).endMut⟩
set_option maxRecDepth 100000 in
theorem Z2_c {N:Nat} {w0:World} {H:PH} (hH:H.le w0) {cs2:List Value} {p1:api_Unit} (g3:Enc.rep H cs2 p1) {r:(Str×Int)} (hm:Z2 N p1=some r):Tot Tryz.prog 8 #[.agg cs2.toArray] w0 (fun v w'=>v=.tuple #[strv r.1,.int .i64 r.2]∧Keep Nil w0 w'):=by
  unfold Z2 at hm
  refine fn0 (args:=[.agg cs2.toArray]) (F:=[(0,.agg cs2.toArray)]) Tryz.func8 rfl Tryz.ntmps8 rfl rfl fun a hF=>?_
  have hS:St w0 Nil [H] [] w0:=start1 hH
  have g4:Enc.rep (α:=(List Int)×Int×(List Int)×Int×(List api_Code)×api_Code×(List (List api_Op))) H cs2 (p1.Lines,p1.Stays,p1.Firsts,p1.Locks,p1.Threads,p1.Recover,p1.Claims):=g3
  obtain ⟨qz5,qz6,rfl,g7,g8⟩:=g4
  obtain ⟨oa9,cap10,rfl,hc11,hr12⟩:=g7
  obtain ⟨q13,q14,rfl,g15,g16⟩:=g8
  obtain rfl:q13=[.int .i64 p1.Stays]:=g15
  obtain ⟨q17,q18,rfl,g19,g20⟩:=g16
  obtain ⟨oa21,cap22,rfl,hc23,hr24⟩:=g19
  obtain ⟨q25,q26,rfl,g27,g28⟩:=g20
  obtain rfl:q25=[.int .i64 p1.Locks]:=g27
  obtain ⟨q29,q30,rfl,g31,g32⟩:=g28
  obtain ⟨oa33,cap34,rfl,hc35,hr36⟩:=g31
  obtain ⟨q37,q38,rfl,g39,g40⟩:=g32
  obtain ⟨oa41,cap42,rfl,hc43,hr44⟩:=api_Code_open g39
  obtain ⟨oa45,cap46,rfl,hc47,hr48⟩:=g40
  refine th<|?_
  refine rg<|?_
  refine ls<|a_box (cs:=[.slice oa9 p1.Lines.length cap10,.int .i64 p1.Stays,.slice oa21 p1.Firsts.length cap22,.int .i64 p1.Locks,.slice oa33 p1.Threads.length cap34,.int .i64 p1.Recover.Regs,.int .i64 p1.Recover.Counts,.slice oa41 p1.Recover.L.length cap42,.slice oa45 p1.Claims.length cap46].toArray) hF rfl hS rfl rfl fun b49 w a hS hF=>?_
  refine ls<|q1 hF rfl (e_asg hF rfl) fun a hF=>?_
  refine ls<|q1 hF rfl (e_asg hF rfl) fun a hF=>?_
  refine re<|?_
  refine tn<|th<|th<|?_
  replace hm:=bind_some hm
  obtain ⟨r50,h51,hm⟩:=hm
  refine rg<|?_
  refine ls<|q1 hF rfl (e_ldA hF Tryz.isAgg29 Tryz.sizeOf29 rfl rfl ((St.ld hS).cellsB (.head _))) fun a hF=>?_
  refine ls<|c1 hF rfl Tryz.call21 (Z4m_c (hp_le _) (Enc.mono (St.up hS) (show Enc.rep (α:=api_Unit) H [.slice oa9 p1.Lines.length cap10,.int .i64 p1.Stays,.slice oa21 p1.Firsts.length cap22,.int .i64 p1.Locks,.slice oa33 p1.Threads.length cap34,.int .i64 p1.Recover.Regs,.int .i64 p1.Recover.Counts,.slice oa41 p1.Recover.L.length cap42,.slice oa45 p1.Claims.length cap46] p1 from ⟨_,_,rfl,⟨_,_,rfl,hc11,hr12⟩,⟨_,_,rfl,rfl,⟨_,_,rfl,⟨_,_,rfl,hc23,hr24⟩,⟨_,_,rfl,rfl,⟨_,_,rfl,⟨_,_,rfl,hc35,hr36⟩,⟨_,_,rfl,⟨_,_,rfl,rfl,⟨_,_,rfl,rfl,⟨_,_,rfl,hc43,hr44⟩⟩⟩,⟨_,_,rfl,hc47,hr48⟩⟩⟩⟩⟩⟩⟩)) h51) ⟨rfl,trivial⟩ (fun v w a hR hF=>?_)
  obtain ⟨rfl,hk⟩:=hR
  replace hS:=hS.pass hk
  clear hk
  refine ls<|q1 hF rfl (e_not hF rfl) fun a hF=>?_
  refine re<|?_
  rcases bdich r50 with hb52 | hb52
  ·
    replace hm:=ite_t hm hb52
    refine tn<|cfv hF rfl (by rw [hb52];rfl)<|wk<|?_
    refine tn<|th<|?_
    refine rg<|?_
    refine ls<|a_alloc (cs:=[.pointer none,.slice none 0 0].toArray) hF rfl hS Tryz.zeroValue60 rfl fun b53 w a hS hF=>?_
    replace hS:=hS.bld0 (e:=5)
    refine re<|?_
    refine tn<|th<|?_
    replace hm:=bind_some hm
    obtain ⟨r54,h55,hm⟩:=hm
    refine rg<|?_
    refine ls<|q1 hF rfl (e_fa hF fa29_0 rfl) fun a hF=>?_
    refine ls<|q1 hF rfl (e_ld hF Tryz.isAgg22 rfl ((St.ld hS).cellB (.tail _ (.head _)) rfl)) fun a hF=>?_
    replace hS:=hS.pickL (.cons .head (.cons .head .nil))
    replace hS:=St.sep [bldA 60 5 b53 (.pointer none) none 0 []] hS
    refine ls<|c1 hF rfl Tryz.call22 (Z16_c (St.le hS) (p1:=([]:Str)) (b2:=b53) (oa3:=none) (cap4:=0) (vp5:=(.pointer none)) (.inl rfl) hc11 hr12 (St.sepOk hS) (St.sepDis hS) h55) ⟨rfl,rfl,trivial⟩ (fun v w a hR hF=>?_)
    obtain ⟨vp58,oa56,cap57,rfl,hb59,hk⟩:=hR
    replace hS:=(hS.mut hk .head).unsep
    clear hk
    refine re<|?_
    refine tn<|th<|?_
    replace hm:=bind_some hm
    obtain ⟨r60,h61,hm⟩:=hm
    refine rg<|?_
    refine ls<|q1 hF rfl (e_fa hF fa29_1 rfl) fun a hF=>?_
    refine ls<|q1 hF rfl (e_ld hF Tryz.isAgg3 rfl ((St.ld hS).cellB (.tail _ (.head _)) rfl)) fun a hF=>?_
    replace hS:=hS.pickL (.cons .head (.cons .head .nil))
    replace hS:=St.sep [bldA 60 5 b53 vp58 oa56 cap57 r54] hS
    refine ls<|c1 hF rfl Tryz.call23 (Z15_c (St.le hS) (p1:=r54) (b2:=b53) (oa3:=oa56) (cap4:=cap57) (vp5:=vp58) hb59 (St.sepOk hS) (St.sepDis hS) h61) ⟨rfl,rfl,trivial⟩ (fun v w a hR hF=>?_)
    obtain ⟨vp64,oa62,cap63,rfl,hb65,hk⟩:=hR
    replace hS:=(hS.mut hk .head).unsep
    clear hk
    refine re<|?_
    refine tn<|th<|?_
    replace hm:=bind_some hm
    obtain ⟨r66,h67,hm⟩:=hm
    refine rg<|?_
    refine ls<|q1 hF rfl (e_fa hF fa29_2 rfl) fun a hF=>?_
    refine ls<|q1 hF rfl (e_ld hF Tryz.isAgg22 rfl ((St.ld hS).cellB (.tail _ (.head _)) rfl)) fun a hF=>?_
    replace hS:=hS.pickL (.cons .head (.cons .head .nil))
    replace hS:=St.sep [bldA 60 5 b53 vp64 oa62 cap63 r60] hS
    refine ls<|c1 hF rfl Tryz.call22 (Z16_c (St.le hS) (p1:=r60) (b2:=b53) (oa3:=oa62) (cap4:=cap63) (vp5:=vp64) hb65 hc23 hr24 (St.sepOk hS) (St.sepDis hS) h67) ⟨rfl,rfl,trivial⟩ (fun v w a hR hF=>?_)
    obtain ⟨vp70,oa68,cap69,rfl,hb71,hk⟩:=hR
    replace hS:=(hS.mut hk .head).unsep
    clear hk
    refine re<|?_
    refine tn<|th<|?_
    replace hm:=bind_some hm
    obtain ⟨r72,h73,hm⟩:=hm
    refine rg<|?_
    refine ls<|q1 hF rfl (e_fa hF fa29_3 rfl) fun a hF=>?_
    refine ls<|q1 hF rfl (e_ld hF Tryz.isAgg3 rfl ((St.ld hS).cellB (.tail _ (.head _)) rfl)) fun a hF=>?_
    replace hS:=hS.pickL (.cons .head (.cons .head .nil))
    replace hS:=St.sep [bldA 60 5 b53 vp70 oa68 cap69 r66] hS
    refine ls<|c1 hF rfl Tryz.call23 (Z15_c (St.le hS) (p1:=r66) (b2:=b53) (oa3:=oa68) (cap4:=cap69) (vp5:=vp70) hb71 (St.sepOk hS) (St.sepDis hS) h73) ⟨rfl,rfl,trivial⟩ (fun v w a hR hF=>?_)
    obtain ⟨vp76,oa74,cap75,rfl,hb77,hk⟩:=hR
    replace hS:=(hS.mut hk .head).unsep
    clear hk
    refine re<|?_
    refine tn<|th<|?_
    replace hm:=bind_some hm
    obtain ⟨r78,h79,hm⟩:=hm
    refine rg<|?_
    refine ls<|q1 hF rfl (e_fa hF fa29_4 rfl) fun a hF=>?_
    refine ls<|q1 hF rfl (e_ld hF Tryz.isAgg23 rfl ((St.ld hS).cellB (.tail _ (.head _)) rfl)) fun a hF=>?_
    refine ls<|q1 hF rfl (e_lenL (α:=api_Code) (xs:=p1.Threads) hF Tryz.runUnderlying23 rfl) fun a hF=>?_
    replace hS:=hS.pickL (.cons .head (.cons .head .nil))
    replace hS:=St.sep [bldA 60 5 b53 vp76 oa74 cap75 r72] hS
    refine ls<|c1 hF rfl Tryz.call23 (Z15_c (St.le hS) (p1:=r72) (b2:=b53) (oa3:=oa74) (cap4:=cap75) (vp5:=vp76) hb77 (St.sepOk hS) (St.sepDis hS) h79) ⟨rfl,rfl,trivial⟩ (fun v w a hR hF=>?_)
    obtain ⟨vp82,oa80,cap81,rfl,hb83,hk⟩:=hR
    replace hS:=(hS.mut hk .head).unsep
    clear hk
    refine re<|?_
    refine tn<|th<|th<|?_
    refine rg<|?_
    refine ls<|q1 hF rfl (e_fa hF fa29_4 rfl) fun a hF=>?_
    refine ls<|q1 hF rfl (e_ld hF Tryz.isAgg23 rfl ((St.ld hS).cellB (.tail _ (.head _)) rfl)) fun a hF=>?_
    refine ls<|q1 hF rfl (e_lenL (α:=api_Code) (xs:=p1.Threads) hF Tryz.runUnderlying23 rfl) fun a hF=>?_
    refine ls<|q1 hF rfl (e_move hF rfl) fun a hF=>?_
    refine re<|?_
    refine tn<|midK (fun a w=>∃ (vA1:Str) (oaA2:Option Addr) (capA3:Nat) (vpA4:Value),(Z3 N p1) vA1=some r∧Fr 57 [(1,.pointer (some ⟨b49,0,none⟩)),(4,.pointer (some ⟨b53,0,none⟩))] a∧St w0 Nil [H] [blk b49 (.cells [.slice oa9 p1.Lines.length cap10,.int .i64 p1.Stays,.slice oa21 p1.Firsts.length cap22,.int .i64 p1.Locks,.slice oa33 p1.Threads.length cap34,.int .i64 p1.Recover.Regs,.int .i64 p1.Recover.Counts,.slice oa41 p1.Recover.L.length cap42,.slice oa45 p1.Claims.length cap46].toArray 29 (0,0)),bldA 60 5 b53 vpA4 oaA2 capA3 vA1] w∧BP b53 vpA4) ?_ ?_
    ·
      replace hS:=hS.pickL (.cons (.tail .head) (.cons .head .nil))
      refine wb<|lp (α:=Nat×Str×Int) (fun (gh:Nat×Str×Int) a w=>match gh with | (nn2,vB1,vB6)=>∃ (oaB2:Option Addr) (capB3:Nat) (vpB4:Value),(Z5 N (Z3 N p1) p1) nn2 vB1 vB6=some r∧Fr 57 [(1,.pointer (some ⟨b49,0,none⟩)),(4,.pointer (some ⟨b53,0,none⟩)),(29,.slice oa33 p1.Threads.length cap34),(30,.int .i64 (p1.Threads.length:Int)),(31,.int .i64 vB6)] a∧St w0 Nil [H] [blk b49 (.cells [.slice oa9 p1.Lines.length cap10,.int .i64 p1.Stays,.slice oa21 p1.Firsts.length cap22,.int .i64 p1.Locks,.slice oa33 p1.Threads.length cap34,.int .i64 p1.Recover.Regs,.int .i64 p1.Recover.Counts,.slice oa41 p1.Recover.L.length cap42,.slice oa45 p1.Claims.length cap46].toArray 29 (0,0)),bldA 60 5 b53 vpB4 oaB2 capB3 vB1] w∧BP b53 vpB4) (fun gh=>gh.1) (N,r78,0) ⟨oa80,cap81,vp82,hm,hF.has ⟨rfl,rfl,rfl,rfl,rfl,trivial⟩,hS,hb83⟩ ?_
      clear hm hF hS
      rintro ⟨nn2,vB1,vB6⟩ a w ⟨oaB2,capB3,vpB4,hm,hF,hS,hbB5⟩
      obtain _ | nn2:=nn2
      · simp [Z5] at hm
      rw [Z5] at hm
      refine th<|?_
      refine rg<|?_
      refine ls<|q1 hF rfl (e_lss hF rfl rfl) fun a hF=>?_
      refine re<|?_
      rcases bdich (decide (vB6 < (p1.Threads.length:Int))) with hb84 | hb84
      ·
        replace hm:=itp_t hm hb84
        refine tn<|th<|ctv hF rfl hb84<|wk<|?_
        refine tn<|th<|wb<|th<|?_
        replace hm:=bind_some hm
        obtain ⟨x85,h86,hm⟩:=hm
        obtain ⟨c87,g88,hl89⟩:=SR.get hr36 h86
        obtain ⟨oa90,cap91,rfl,hc92,hr93⟩:=api_Code_open g88
        refine rg<|?_
        refine ls<|q1 hF rfl (e_iaI hF Tryz.runUnderlying23 Tryz.sizeOf26 rfl rfl h86 (SR.oaI hr36 (by decide) h86)) fun a hF=>?_
        refine ls<|q1 hF rfl (e_ldA hF Tryz.isAgg26 Tryz.sizeOf26 rfl rfl (fun j v hj=>PH.le.cell (Lds.le (St.ld hS)) (hl89 j v hj))) fun a hF=>?_
        refine ls<|a_alloc (cs:=[.int .i64 0,.int .i64 0,.slice none 0 0].toArray) hF rfl hS Tryz.zeroValue26 rfl fun b94 w a hS hF=>?_
        refine ls<|s_blkA hF hS Tryz.sizeOf26 rfl rfl rfl rfl (one_cells rfl) .head fun w hS=>?_
        refine re<|?_
        refine tn<|?_
        replace hm:=bind_some hm
        obtain ⟨r95,h96,hm⟩:=hm
        refine rg<|?_
        refine ls<|q1 hF rfl (e_ldA hF Tryz.isAgg26 Tryz.sizeOf26 rfl rfl ((St.ld hS).cellsB (.head _))) fun a hF=>?_
        replace hS:=hS.pickL (.cons (.tail (.tail .head)) (.cons .head (.cons .head .nil)))
        replace hS:=St.sep [bldA 60 5 b53 vpB4 oaB2 capB3 vB1] hS
        refine ls<|c1 hF rfl Tryz.call24 (Z13_c (St.le hS) (p1:=vB1) (b2:=b53) (oa3:=oaB2) (cap4:=capB3) (vp5:=vpB4) hbB5 (show Enc.rep (α:=api_Code) H [.int .i64 x85.Regs,.int .i64 x85.Counts,.slice oa90 x85.L.length cap91] x85 from ⟨_,_,rfl,rfl,⟨_,_,rfl,rfl,⟨_,_,rfl,hc92,hr93⟩⟩⟩) (St.sepOk hS) (St.sepDis hS) h96) ⟨rfl,rfl,trivial⟩ (fun v w a hR hF=>?_)
        obtain ⟨vp99,oa97,cap98,rfl,hb100,hk⟩:=hR
        replace hS:=(hS.mut hk .head).unsep
        clear hk
        refine re<|?_
        refine bn<|tn<|?_
        refine rg<|?_
        refine ls<|q1 hF rfl (e_add hF rfl rfl) fun a hF=>?_
        refine ls<|q1 hF rfl (e_move hF rfl) fun a hF=>?_
        refine re<|?_
        refine tn<|?_
        replace hS:=hS.pickL (.cons (.tail (.tail .head)) (.cons .head .nil))
        exact ⟨(nn2,r95,(IntKind.i64.wrap (vB6+1))),⟨oa97,cap98,vp99,hm,hF.has ⟨rfl,rfl,rfl,rfl,rfl,trivial⟩,hS,hb100⟩,Nat.lt_succ_self _⟩
      ·
        replace hm:=itp_f hm hb84
        refine tn<|th<|cfv hF rfl hb84<|?_
        refine we<|tx<|tx<|bx<|?_
        refine tn<|?_
        exact ⟨vB1,oaB2,capB3,vpB4,hm,hF.has ⟨rfl,rfl,trivial⟩,hS,hbB5⟩
    clear hm hF hS
    rintro a w ⟨vA1,oaA2,capA3,vpA4,hm,hF,hS,hbA5⟩
    unfold Z3 at hm
    refine th<|?_
    replace hm:=bind_some hm
    obtain ⟨r101,h102,hm⟩:=hm
    refine rg<|?_
    refine ls<|q1 hF rfl (e_fa hF fa29_5 rfl) fun a hF=>?_
    refine ls<|q1 hF rfl (e_ldA hF Tryz.isAgg26 Tryz.sizeOf26 rfl rfl (Lds.cellsP (pre:=[.slice oa9 p1.Lines.length cap10,.int .i64 p1.Stays,.slice oa21 p1.Firsts.length cap22,.int .i64 p1.Locks,.slice oa33 p1.Threads.length cap34]) (vs:=[.int .i64 p1.Recover.Regs,.int .i64 p1.Recover.Counts,.slice oa41 p1.Recover.L.length cap42]) (post:=[.slice oa45 p1.Claims.length cap46]) (St.ld hS) (.head _))) fun a hF=>?_
    replace hS:=hS.pickL (.cons (.tail .head) (.cons .head .nil))
    replace hS:=St.sep [bldA 60 5 b53 vpA4 oaA2 capA3 vA1] hS
    refine ls<|c1 hF rfl Tryz.call24 (Z13_c (St.le hS) (p1:=vA1) (b2:=b53) (oa3:=oaA2) (cap4:=capA3) (vp5:=vpA4) hbA5 (show Enc.rep (α:=api_Code) H [.int .i64 p1.Recover.Regs,.int .i64 p1.Recover.Counts,.slice oa41 p1.Recover.L.length cap42] p1.Recover from ⟨_,_,rfl,rfl,⟨_,_,rfl,rfl,⟨_,_,rfl,hc43,hr44⟩⟩⟩) (St.sepOk hS) (St.sepDis hS) h102) ⟨rfl,rfl,trivial⟩ (fun v w a hR hF=>?_)
    obtain ⟨vp105,oa103,cap104,rfl,hb106,hk⟩:=hR
    replace hS:=(hS.mut hk .head).unsep
    clear hk
    refine re<|?_
    refine tn<|th<|?_
    replace hm:=bind_some hm
    obtain ⟨r107,h108,hm⟩:=hm
    refine rg<|?_
    refine ls<|q1 hF rfl (e_fa hF fa29_6 rfl) fun a hF=>?_
    refine ls<|q1 hF rfl (e_ld hF Tryz.isAgg27 rfl ((St.ld hS).cellB (.tail _ (.head _)) rfl)) fun a hF=>?_
    refine ls<|q1 hF rfl (e_lenL (α:=(List api_Op)) (xs:=p1.Claims) hF Tryz.runUnderlying27 rfl) fun a hF=>?_
    replace hS:=hS.pickL (.cons .head (.cons .head .nil))
    replace hS:=St.sep [bldA 60 5 b53 vp105 oa103 cap104 r101] hS
    refine ls<|c1 hF rfl Tryz.call23 (Z15_c (St.le hS) (p1:=r101) (b2:=b53) (oa3:=oa103) (cap4:=cap104) (vp5:=vp105) hb106 (St.sepOk hS) (St.sepDis hS) h108) ⟨rfl,rfl,trivial⟩ (fun v w a hR hF=>?_)
    obtain ⟨vp111,oa109,cap110,rfl,hb112,hk⟩:=hR
    replace hS:=(hS.mut hk .head).unsep
    clear hk
    refine re<|?_
    refine tn<|th<|th<|?_
    refine rg<|?_
    refine ls<|q1 hF rfl (e_fa hF fa29_6 rfl) fun a hF=>?_
    refine ls<|q1 hF rfl (e_ld hF Tryz.isAgg27 rfl ((St.ld hS).cellB (.tail _ (.head _)) rfl)) fun a hF=>?_
    refine ls<|q1 hF rfl (e_lenL (α:=(List api_Op)) (xs:=p1.Claims) hF Tryz.runUnderlying27 rfl) fun a hF=>?_
    refine ls<|q1 hF rfl (e_move hF rfl) fun a hF=>?_
    refine re<|?_
    refine tn<|midK (fun a w=>∃ (vA6:Str) (oaA7:Option Addr) (capA8:Nat) (vpA9:Value),Z4 vA6=some r∧Fr 57 [(4,.pointer (some ⟨b53,0,none⟩))] a∧St w0 Nil [H] [bldA 60 5 b53 vpA9 oaA7 capA8 vA6] w∧BP b53 vpA9) ?_ ?_
    ·
      replace hS:=hS.pickL (.cons .head .nil)
      refine wb<|lp (α:=Nat×Str×Int) (fun (gh:Nat×Str×Int) a w=>match gh with | (nn4,vB7,vB12)=>∃ (oaB8:Option Addr) (capB9:Nat) (vpB10:Value),(Z6 N Z4 p1) nn4 vB7 vB12=some r∧Fr 57 [(4,.pointer (some ⟨b53,0,none⟩)),(46,.slice oa45 p1.Claims.length cap46),(47,.int .i64 (p1.Claims.length:Int)),(48,.int .i64 vB12)] a∧St w0 Nil [H] [bldA 60 5 b53 vpB10 oaB8 capB9 vB7] w∧BP b53 vpB10) (fun gh=>gh.1) (N,r107,0) ⟨oa109,cap110,vp111,hm,hF.has ⟨rfl,rfl,rfl,rfl,trivial⟩,hS,hb112⟩ ?_
      clear hm hF hS
      rintro ⟨nn4,vB7,vB12⟩ a w ⟨oaB8,capB9,vpB10,hm,hF,hS,hbB11⟩
      obtain _ | nn4:=nn4
      · simp [Z6] at hm
      rw [Z6] at hm
      refine th<|?_
      refine rg<|?_
      refine ls<|q1 hF rfl (e_lss hF rfl rfl) fun a hF=>?_
      refine re<|?_
      rcases bdich (decide (vB12 < (p1.Claims.length:Int))) with hb113 | hb113
      ·
        replace hm:=itp_t hm hb113
        refine tn<|th<|ctv hF rfl hb113<|wk<|?_
        refine tn<|th<|wb<|th<|?_
        replace hm:=bind_some hm
        obtain ⟨x114,h115,hm⟩:=hm
        obtain ⟨c116,g117,hl118⟩:=SR.get hr48 h115
        obtain ⟨oa119,cap120,rfl,hc121,hr122⟩:=g117
        refine rg<|?_
        refine ls<|q1 hF rfl (e_iaI hF Tryz.runUnderlying27 Tryz.sizeOf54 rfl rfl h115 (SR.oaI hr48 (by decide) h115)) fun a hF=>?_
        refine ls<|q1 hF rfl (e_ld hF Tryz.isAgg54 rfl (PH.le.cell (Lds.le (St.ld hS)) (hl118 0 _ rfl))) fun a hF=>?_
        refine ls<|q1 hF rfl (e_asg hF rfl) fun a hF=>?_
        refine re<|?_
        refine tn<|?_
        replace hm:=bind_some hm
        obtain ⟨r123,h124,hm⟩:=hm
        refine rg<|?_
        refine ls<|q1 hF rfl (e_move hF rfl) fun a hF=>?_
        replace hS:=hS.pickL (.cons .head .nil)
        replace hS:=St.sep [bldA 60 5 b53 vpB10 oaB8 capB9 vB7] hS
        refine ls<|c1 hF rfl Tryz.call25 (Z18_c (St.le hS) (p1:=vB7) (b2:=b53) (oa3:=oaB8) (cap4:=capB9) (vp5:=vpB10) hbB11 hc121 hr122 (St.sepOk hS) (St.sepDis hS) h124) ⟨rfl,rfl,trivial⟩ (fun v w a hR hF=>?_)
        obtain ⟨vp127,oa125,cap126,rfl,hb128,hk⟩:=hR
        replace hS:=(hS.mut hk .head).unsep
        clear hk
        refine re<|?_
        refine bn<|tn<|?_
        refine rg<|?_
        refine ls<|q1 hF rfl (e_add hF rfl rfl) fun a hF=>?_
        refine ls<|q1 hF rfl (e_move hF rfl) fun a hF=>?_
        refine re<|?_
        refine tn<|?_
        exact ⟨(nn4,r123,(IntKind.i64.wrap (vB12+1))),⟨oa125,cap126,vp127,hm,hF.has ⟨rfl,rfl,rfl,rfl,trivial⟩,hS,hb128⟩,Nat.lt_succ_self _⟩
      ·
        replace hm:=itp_f hm hb113
        refine tn<|th<|cfv hF rfl hb113<|?_
        refine we<|tx<|tx<|bx<|?_
        refine tn<|?_
        exact ⟨vB7,oaB8,capB9,vpB10,hm,hF.has ⟨rfl,trivial⟩,hS,hbB11⟩
    clear hm hF hS
    rintro a w ⟨vA6,oaA7,capA8,vpA9,hm,hF,hS,hbA10⟩
    unfold Z4 at hm
    refine th<|?_
    replace hm:=bind_some hm
    obtain ⟨s129,h130,hm⟩:=hm
    refine rg<|?_
    refine ls<|q1 hF rfl (e_fa hF fa60_0 rfl) fun a hF=>?_
    refine ls<|c1 hF rfl Tryz.call26 (bstr60_c hS h130) ⟨rfl,trivial⟩ (fun v w a hR hF=>?_)
    obtain ⟨rfl,hk⟩:=hR
    replace hS:=(start1 hH).pass hk
    clear hk
    refine ls<|q1 hF rfl (e_asg hF rfl) fun a hF=>?_
    refine ls<|q1 hF rfl (e_asg hF rfl) fun a hF=>?_
    refine re<|?_
    refine tn<|?_
    refine wr<|?_
    obtain rfl:=Option.some.inj hm
    exact r2 hF Tryz.results8 rfl rfl ⟨rfl,hS.keep⟩
  ·
    replace hm:=ite_f hm hb52
    refine tn<|ctv hF rfl (by rw [hb52];rfl)<|th<|?_
    refine rg<|?_
    refine ls<|q1 hF rfl (e_asg hF rfl) fun a hF=>?_
    refine ls<|q1 hF rfl (e_asg hF rfl) fun a hF=>?_
    refine re<|?_
    refine tn<|?_
    refine wr<|tr<|?_
    obtain rfl:=Option.some.inj hm
    exact r2 hF Tryz.results8 rfl rfl ⟨rfl,hS.keep⟩
set_option maxRecDepth 100000 in
theorem Z2g_c {N:Nat} {w0:World} {H:PH} (hH:H.le w0) {cs2:List Value} {p1:api_Unit} (g3:Enc.rep H cs2 p1) {r:Int} (hm:Z2g N p1=some r):Tot Tryz.prog 70 #[.agg cs2.toArray] w0 (fun v w'=>v=.int .i64 r∧Keep Nil w0 w'):=by
  unfold Z2g at hm
  refine fn0 (args:=[.agg cs2.toArray]) (F:=[(0,.agg cs2.toArray)]) Tryz.func70 rfl Tryz.ntmps70 rfl rfl fun a hF=>?_
  have hS:St w0 Nil [H] [] w0:=start1 hH
  have g4:Enc.rep (α:=(List Int)×Int×(List Int)×Int×(List api_Code)×api_Code×(List (List api_Op))) H cs2 (p1.Lines,p1.Stays,p1.Firsts,p1.Locks,p1.Threads,p1.Recover,p1.Claims):=g3
  obtain ⟨qz5,qz6,rfl,g7,g8⟩:=g4
  obtain ⟨oa9,cap10,rfl,hc11,hr12⟩:=g7
  obtain ⟨q13,q14,rfl,g15,g16⟩:=g8
  obtain rfl:q13=[.int .i64 p1.Stays]:=g15
  obtain ⟨q17,q18,rfl,g19,g20⟩:=g16
  obtain ⟨oa21,cap22,rfl,hc23,hr24⟩:=g19
  obtain ⟨q25,q26,rfl,g27,g28⟩:=g20
  obtain rfl:q25=[.int .i64 p1.Locks]:=g27
  obtain ⟨q29,q30,rfl,g31,g32⟩:=g28
  obtain ⟨oa33,cap34,rfl,hc35,hr36⟩:=g31
  obtain ⟨q37,q38,rfl,g39,g40⟩:=g32
  obtain ⟨oa41,cap42,rfl,hc43,hr44⟩:=api_Code_open g39
  obtain ⟨oa45,cap46,rfl,hc47,hr48⟩:=g40
  refine th<|?_
  refine rg<|?_
  refine ls<|a_box (cs:=[.slice oa9 p1.Lines.length cap10,.int .i64 p1.Stays,.slice oa21 p1.Firsts.length cap22,.int .i64 p1.Locks,.slice oa33 p1.Threads.length cap34,.int .i64 p1.Recover.Regs,.int .i64 p1.Recover.Counts,.slice oa41 p1.Recover.L.length cap42,.slice oa45 p1.Claims.length cap46].toArray) hF rfl hS rfl rfl fun b49 w a hS hF=>?_
  refine ls<|q1 hF rfl (e_asg hF rfl) fun a hF=>?_
  refine re<|?_
  refine tn<|th<|th<|?_
  refine rg<|?_
  refine ls<|q1 hF rfl (e_fa hF fa29_1 rfl) fun a hF=>?_
  refine ls<|q1 hF rfl (e_ld hF Tryz.isAgg3 rfl ((St.ld hS).cellB (.head _) rfl)) fun a hF=>?_
  refine ls<|q1 hF rfl (e_geq hF rfl rfl) fun a hF=>?_
  refine ls<|q1 hF rfl (e_move hF rfl) fun a hF=>?_
  refine grp (N:=22) (Fk:=[(1,.pointer (some ⟨b49,0,none⟩)),(13,.bool ((decide (1≤p1.Stays)) && (decide (p1.Stays≤(p1.Lines.length:Int)))))]) (b:=(decide (1≤p1.Stays))) 7 hS ?_ ?_ ?_
  ·
    intro hb key
    replace hF:=Fr.as hF (t:=6) rfl (congrArg Value.bool hb)
    refine ls<|gy hF rfl rfl<|q1 hF rfl (e_fa hF fa29_1 rfl) fun a hF=>?_
    refine ls<|gy hF rfl rfl<|q1 hF rfl (e_ld hF Tryz.isAgg3 rfl ((St.ld hS).cellB (.head _) rfl)) fun a hF=>?_
    refine ls<|gy hF rfl rfl<|q1 hF rfl (e_fa hF fa29_0 rfl) fun a hF=>?_
    refine ls<|gy hF rfl rfl<|q1 hF rfl (e_ld hF Tryz.isAgg22 rfl ((St.ld hS).cellB (.head _) rfl)) fun a hF=>?_
    refine ls<|gy hF rfl rfl<|q1 hF rfl (e_lenL (α:=Int) (xs:=p1.Lines) hF Tryz.runUnderlying22 rfl) fun a hF=>?_
    refine ls<|gy hF rfl rfl<|q1 hF rfl (e_leq hF rfl rfl) fun a hF=>?_
    refine ls<|q1 hF rfl (e_as (v':=.bool ((decide (1≤p1.Stays)) && (decide (p1.Stays≤(p1.Lines.length:Int))))) (e_pickT hF rfl rfl) (by rw [hb];rfl)) fun a hF=>?_
    exact key _ _ (hF.has ⟨rfl,rfl,trivial⟩) hS
  ·
    intro hb key
    replace hF:=Fr.as hF (t:=6) rfl (congrArg Value.bool hb)
    refine ls<|gn hF rfl rfl rfl rfl fun a hF=>?_
    refine ls<|gn hF rfl rfl rfl rfl fun a hF=>?_
    refine ls<|gn hF rfl rfl rfl rfl fun a hF=>?_
    refine ls<|gn hF rfl rfl rfl rfl fun a hF=>?_
    refine ls<|gn hF rfl rfl rfl rfl fun a hF=>?_
    refine ls<|gn hF rfl rfl rfl rfl fun a hF=>?_
    refine ls<|q1 hF rfl (e_as (v':=.bool ((decide (1≤p1.Stays)) && (decide (p1.Stays≤(p1.Lines.length:Int))))) (e_pickF hF rfl rfl) (by rw [hb];rfl)) fun a hF=>?_
    exact key _ _ (hF.has ⟨rfl,rfl,trivial⟩) hS
  intro a w hF hS
  refine re<|?_
  rcases bdich ((decide (1≤p1.Stays)) && (decide (p1.Stays≤(p1.Lines.length:Int)))) with hb50 | hb50
  ·
    replace hm:=ite_t hm hb50
    refine tn<|ctv hF rfl hb50<|th<|?_
    replace hm:=bind_some hm
    obtain ⟨x51,h52,hm⟩:=hm
    obtain ⟨c53,g54,hl55⟩:=SR.get hr12 h52
    obtain rfl:c53=[.int .i64 x51]:=g54
    refine rg<|?_
    refine ls<|q1 hF rfl (e_fa hF fa29_0 rfl) fun a hF=>?_
    refine ls<|q1 hF rfl (e_ld hF Tryz.isAgg22 rfl ((St.ld hS).cellB (.head _) rfl)) fun a hF=>?_
    refine ls<|q1 hF rfl (e_fa hF fa29_1 rfl) fun a hF=>?_
    refine ls<|q1 hF rfl (e_ld hF Tryz.isAgg3 rfl ((St.ld hS).cellB (.head _) rfl)) fun a hF=>?_
    refine ls<|q1 hF rfl (e_sub hF rfl rfl) fun a hF=>?_
    refine ls<|q1 hF rfl (e_iaI hF Tryz.runUnderlying22 Tryz.sizeOf3 rfl rfl h52 (SR.oaI hr12 (by decide) h52)) fun a hF=>?_
    refine ls<|q1 hF rfl (e_ld hF Tryz.isAgg3 rfl (PH.le.cell (Lds.le (St.ld hS)) (hl55 0 _ rfl))) fun a hF=>?_
    refine ls<|q1 hF rfl (e_add hF rfl rfl) fun a hF=>?_
    refine ls<|q1 hF rfl (e_asg hF rfl) fun a hF=>?_
    refine re<|?_
    refine tn<|?_
    refine wr<|tr<|?_
    obtain rfl:=Option.some.inj hm
    exact r1 hF Tryz.results70 rfl ⟨rfl,hS.keep⟩
  ·
    replace hm:=ite_f hm hb50
    refine tn<|cfv hF rfl hb50<|wk<|?_
    refine tn<|th<|?_
    refine rg<|?_
    refine ls<|q1 hF rfl (e_asg hF rfl) fun a hF=>?_
    refine re<|?_
    refine tn<|?_
    refine wr<|?_
    obtain rfl:=Option.some.inj hm
    exact r1 hF Tryz.results70 rfl ⟨rfl,hS.keep⟩
set_option maxRecDepth 100000 in
theorem Z34_c {N:Nat} {w0:World} {H:PH} (hH:H.le w0) {p1:Int} {p2:Int} {r:Bool} (hm:Z34 N p1 p2=some r):Tot Tryz.prog 134 #[.int .i64 p1,.int .i64 p2] w0 (fun v w'=>v=.bool r∧Keep Nil w0 w'):=by
  unfold Z34 at hm
  refine fn0 (args:=[.int .i64 p1,.int .i64 p2]) (F:=[(0,.int .i64 p1),(1,.int .i64 p2)]) Tryz.func134 rfl Tryz.ntmps134 rfl rfl fun a hF=>?_
  have hS:St w0 Nil [H] [] w0:=start1 hH
  refine th<|?_
  refine rg<|?_
  refine ls<|q1 hF rfl (e_asg hF rfl) fun a hF=>?_
  refine re<|?_
  refine tn<|th<|?_
  refine rg<|?_
  refine ls<|q1 hF rfl (e_move hF rfl) fun a hF=>?_
  refine ls<|q1 hF rfl (e_geq hF rfl rfl) fun a hF=>?_
  refine ls<|q1 hF rfl (e_move hF rfl) fun a hF=>?_
  refine grp (N:=12) (Fk:=[(11,.bool ((decide (0≤p1)) && (decide (p1 < p2))))]) (b:=(decide (0≤p1))) 4 hS ?_ ?_ ?_
  ·
    intro hb key
    replace hF:=Fr.as hF (t:=7) rfl (congrArg Value.bool hb)
    refine ls<|gy hF rfl rfl<|q1 hF rfl (e_move hF rfl) fun a hF=>?_
    refine ls<|gy hF rfl rfl<|q1 hF rfl (e_move hF rfl) fun a hF=>?_
    refine ls<|gy hF rfl rfl<|q1 hF rfl (e_lss hF rfl rfl) fun a hF=>?_
    refine ls<|q1 hF rfl (e_as (v':=.bool ((decide (0≤p1)) && (decide (p1 < p2)))) (e_pickT hF rfl rfl) (by rw [hb];rfl)) fun a hF=>?_
    exact key _ _ (hF.has ⟨rfl,trivial⟩) hS
  ·
    intro hb key
    replace hF:=Fr.as hF (t:=7) rfl (congrArg Value.bool hb)
    refine ls<|gn hF rfl rfl rfl rfl fun a hF=>?_
    refine ls<|gn hF rfl rfl rfl rfl fun a hF=>?_
    refine ls<|gn hF rfl rfl rfl rfl fun a hF=>?_
    refine ls<|q1 hF rfl (e_as (v':=.bool ((decide (0≤p1)) && (decide (p1 < p2)))) (e_pickF hF rfl rfl) (by rw [hb];rfl)) fun a hF=>?_
    exact key _ _ (hF.has ⟨rfl,trivial⟩) hS
  intro a w hF hS
  refine ls<|q1 hF rfl (e_asg hF rfl) fun a hF=>?_
  refine re<|?_
  refine tn<|?_
  refine wr<|?_
  obtain rfl:=Option.some.inj hm
  exact r1 hF Tryz.results134 rfl ⟨rfl,hS.keep⟩
set_option maxRecDepth 100000 in
theorem Z21_c {N:Nat} {w0:World} {H:PH} (hH:H.le w0) {oa2:Option Addr} {cap3:Nat} {p1:(List api_Op)} (hc4:p1.length≤cap3) (hr5:SR H oa2 p1) {p6:Int} {r:Int} (hm:Z21 N p1 p6=some r):Tot Tryz.prog 115 #[.slice oa2 p1.length cap3,.int .i64 p6] w0 (fun v w'=>v=.int .i64 r∧Keep Nil w0 w'):=by
  unfold Z21 at hm
  refine fn0 (args:=[.slice oa2 p1.length cap3,.int .i64 p6]) (F:=[(0,.slice oa2 p1.length cap3),(1,.int .i64 p6)]) Tryz.func115 rfl Tryz.ntmps115 rfl rfl fun a hF=>?_
  have hS:St w0 Nil [H] [] w0:=start1 hH
  refine th<|?_
  refine rg<|?_
  refine ls<|q1 hF rfl (e_asg hF rfl) fun a hF=>?_
  refine re<|?_
  refine tn<|th<|?_
  refine rg<|?_
  refine ls<|q1 hF rfl (e_asg hF rfl) fun a hF=>?_
  refine re<|?_
  refine tn<|th<|th<|?_
  refine rg<|?_
  refine ls<|q1 hF rfl (e_asg hF rfl) fun a hF=>?_
  refine re<|?_
  refine tn<|midK (fun a w=>∃ (vA1:Int),Z22 vA1=some r∧Fr 49 [(5,.int .i64 vA1)] a∧St w0 Nil [H] [] w) ?_ ?_
  ·
    refine wb<|lp (α:=Nat×Int×Int) (fun (gh:Nat×Int×Int) a w=>match gh with | (nn2,vB1,vB2)=>(Z25 N Z22 p1 p6) nn2 vB1 vB2=some r∧Fr 49 [(0,.slice oa2 p1.length cap3),(1,.int .i64 p6),(5,.int .i64 vB1),(6,.int .i64 vB2)] a∧St w0 Nil [H] [] w) (fun gh=>gh.1) (N,0,0) ⟨hm,hF.has ⟨rfl,rfl,rfl,rfl,trivial⟩,hS⟩ ?_
    clear hm hF hS
    rintro ⟨nn2,vB1,vB2⟩ a w ⟨hm,hF,hS⟩
    obtain _ | nn2:=nn2
    · simp [Z25] at hm
    rw [Z25] at hm
    refine th<|th<|?_
    refine rg<|?_
    refine ls<|q1 hF rfl (e_move hF rfl) fun a hF=>?_
    refine ls<|q1 hF rfl (e_move hF rfl) fun a hF=>?_
    refine ls<|q1 hF rfl (e_lss hF rfl rfl) fun a hF=>?_
    refine re<|?_
    rcases bdich (decide (vB2 < p6)) with hb7 | hb7
    ·
      replace hm:=itp_t hm hb7
      refine tn<|ctv hF rfl hb7<|wk<|?_
      refine tn<|th<|wb<|th<|th<|?_
      replace hm:=bind_some hm
      obtain ⟨xz8,h9,hm⟩:=hm
      obtain ⟨c10,g11,hl12⟩:=SR.get hr5 h9
      obtain rfl:=api_Op_open g11
      refine rg<|?_
      refine ls<|q1 hF rfl (e_move hF rfl) fun a hF=>?_
      refine ls<|q1 hF rfl (e_move hF rfl) fun a hF=>?_
      refine ls<|q1 hF rfl (e_iaI hF Tryz.runUnderlying54 Tryz.sizeOf83 rfl rfl h9 (SR.oaI hr5 (by decide) h9)) fun a hF=>?_
      refine ls<|q1 hF rfl (e_fa hF fa83_0 rfl) fun a hF=>?_
      refine ls<|q1 hF rfl (e_ld hF Tryz.isAgg3 rfl (PH.le.cell (Lds.le (St.ld hS)) (hl12 0 _ rfl))) fun a hF=>?_
      refine ls<|q1 hF rfl (e_eql hF rfl rfl) fun a hF=>?_
      refine ls<|q1 hF rfl (e_move hF rfl) fun a hF=>?_
      refine grp (N:=49) (Fk:=[(0,.slice oa2 p1.length cap3),(1,.int .i64 p6),(5,.int .i64 vB1),(6,.int .i64 vB2),(25,.bool ((decide (xz8.Kind=3)) || (decide (xz8.Kind=4))))]) (b:=(decide (xz8.Kind=3))) 7 hS ?_ ?_ ?_
      ·
        intro hb key
        replace hF:=Fr.as hF (t:=18) rfl (congrArg Value.bool hb)
        refine ls<|gn hF rfl rfl rfl rfl fun a hF=>?_
        refine ls<|gn hF rfl rfl rfl rfl fun a hF=>?_
        refine ls<|gn hF rfl rfl rfl rfl fun a hF=>?_
        refine ls<|gn hF rfl rfl rfl rfl fun a hF=>?_
        refine ls<|gn hF rfl rfl rfl rfl fun a hF=>?_
        refine ls<|gn hF rfl rfl rfl rfl fun a hF=>?_
        refine ls<|q1 hF rfl (e_as (v':=.bool ((decide (xz8.Kind=3)) || (decide (xz8.Kind=4)))) (e_pickT hF rfl rfl) (by rw [hb];rfl)) fun a hF=>?_
        exact key _ _ (hF.has ⟨rfl,rfl,rfl,rfl,rfl,trivial⟩) hS
      ·
        intro hb key
        replace hF:=Fr.as hF (t:=18) rfl (congrArg Value.bool hb)
        refine ls<|gy hF rfl rfl<|q1 hF rfl (e_move hF rfl) fun a hF=>?_
        refine ls<|gy hF rfl rfl<|q1 hF rfl (e_move hF rfl) fun a hF=>?_
        refine ls<|gy hF rfl rfl<|q1 hF rfl (e_iaI hF Tryz.runUnderlying54 Tryz.sizeOf83 rfl rfl h9 (SR.oaI hr5 (by decide) h9)) fun a hF=>?_
        refine ls<|gy hF rfl rfl<|q1 hF rfl (e_fa hF fa83_0 rfl) fun a hF=>?_
        refine ls<|gy hF rfl rfl<|q1 hF rfl (e_ld hF Tryz.isAgg3 rfl (PH.le.cell (Lds.le (St.ld hS)) (hl12 0 _ rfl))) fun a hF=>?_
        refine ls<|gy hF rfl rfl<|q1 hF rfl (e_eql hF rfl rfl) fun a hF=>?_
        refine ls<|q1 hF rfl (e_as (v':=.bool ((decide (xz8.Kind=3)) || (decide (xz8.Kind=4)))) (e_pickF hF rfl rfl) (by rw [hb];rfl)) fun a hF=>?_
        exact key _ _ (hF.has ⟨rfl,rfl,rfl,rfl,rfl,trivial⟩) hS
      intro a w hF hS
      refine re<|?_
      refine tn<|midK (fun a w=>∃ (vC1:Int),(Z23 (Z25 N Z22 p1 p6 nn2) xz8 vB2) vC1=some r∧Fr 49 [(0,.slice oa2 p1.length cap3),(1,.int .i64 p6),(5,.int .i64 vC1),(6,.int .i64 vB2)] a∧St w0 Nil [H] [] w) ?_ ?_
      ·
        rcases bdich ((decide (xz8.Kind=3)) || (decide (xz8.Kind=4))) with hb13 | hb13
        ·
          replace hm:=ite_t hm hb13
          refine ctv hF rfl hb13<|?_
          refine rg<|?_
          refine ls<|q1 hF rfl (e_move hF rfl) fun a hF=>?_
          refine ls<|q1 hF rfl (e_sub hF rfl rfl) fun a hF=>?_
          refine ls<|q1 hF rfl (e_asg hF rfl) fun a hF=>?_
          refine re<|?_
          refine tn<|?_
          exact ⟨(IntKind.i64.wrap (vB1 - 1)),hm,hF.has ⟨rfl,rfl,rfl,rfl,trivial⟩,hS⟩
        ·
          replace hm:=ite_f hm hb13
          refine cfv hF rfl hb13<|wk<|?_
          refine tn<|?_
          exact ⟨vB1,hm,hF.has ⟨rfl,rfl,rfl,rfl,trivial⟩,hS⟩
      clear hm hF hS
      rintro a w ⟨vC1,hm,hF,hS⟩
      unfold Z23 at hm
      refine th<|th<|?_
      refine rg<|?_
      refine ls<|q1 hF rfl (e_move hF rfl) fun a hF=>?_
      refine ls<|q1 hF rfl (e_move hF rfl) fun a hF=>?_
      refine ls<|q1 hF rfl (e_iaI hF Tryz.runUnderlying54 Tryz.sizeOf83 rfl rfl h9 (SR.oaI hr5 (by decide) h9)) fun a hF=>?_
      refine ls<|q1 hF rfl (e_fa hF fa83_0 rfl) fun a hF=>?_
      refine ls<|q1 hF rfl (e_ld hF Tryz.isAgg3 rfl (PH.le.cell (Lds.le (St.ld hS)) (hl12 0 _ rfl))) fun a hF=>?_
      refine ls<|q1 hF rfl (e_geq hF rfl rfl) fun a hF=>?_
      refine ls<|q1 hF rfl (e_move hF rfl) fun a hF=>?_
      refine grp (N:=49) (Fk:=[(0,.slice oa2 p1.length cap3),(1,.int .i64 p6),(5,.int .i64 vC1),(6,.int .i64 vB2),(41,.bool ((decide (5≤xz8.Kind)) && (decide (xz8.Kind≤15))))]) (b:=(decide (5≤xz8.Kind))) 7 hS ?_ ?_ ?_
      ·
        intro hb key
        replace hF:=Fr.as hF (t:=34) rfl (congrArg Value.bool hb)
        refine ls<|gy hF rfl rfl<|q1 hF rfl (e_move hF rfl) fun a hF=>?_
        refine ls<|gy hF rfl rfl<|q1 hF rfl (e_move hF rfl) fun a hF=>?_
        refine ls<|gy hF rfl rfl<|q1 hF rfl (e_iaI hF Tryz.runUnderlying54 Tryz.sizeOf83 rfl rfl h9 (SR.oaI hr5 (by decide) h9)) fun a hF=>?_
        refine ls<|gy hF rfl rfl<|q1 hF rfl (e_fa hF fa83_0 rfl) fun a hF=>?_
        refine ls<|gy hF rfl rfl<|q1 hF rfl (e_ld hF Tryz.isAgg3 rfl (PH.le.cell (Lds.le (St.ld hS)) (hl12 0 _ rfl))) fun a hF=>?_
        refine ls<|gy hF rfl rfl<|q1 hF rfl (e_leq hF rfl rfl) fun a hF=>?_
        refine ls<|q1 hF rfl (e_as (v':=.bool ((decide (5≤xz8.Kind)) && (decide (xz8.Kind≤15)))) (e_pickT hF rfl rfl) (by rw [hb];rfl)) fun a hF=>?_
        exact key _ _ (hF.has ⟨rfl,rfl,rfl,rfl,rfl,trivial⟩) hS
      ·
        intro hb key
        replace hF:=Fr.as hF (t:=34) rfl (congrArg Value.bool hb)
        refine ls<|gn hF rfl rfl rfl rfl fun a hF=>?_
        refine ls<|gn hF rfl rfl rfl rfl fun a hF=>?_
        refine ls<|gn hF rfl rfl rfl rfl fun a hF=>?_
        refine ls<|gn hF rfl rfl rfl rfl fun a hF=>?_
        refine ls<|gn hF rfl rfl rfl rfl fun a hF=>?_
        refine ls<|gn hF rfl rfl rfl rfl fun a hF=>?_
        refine ls<|q1 hF rfl (e_as (v':=.bool ((decide (5≤xz8.Kind)) && (decide (xz8.Kind≤15)))) (e_pickF hF rfl rfl) (by rw [hb];rfl)) fun a hF=>?_
        exact key _ _ (hF.has ⟨rfl,rfl,rfl,rfl,rfl,trivial⟩) hS
      intro a w hF hS
      refine re<|?_
      refine tn<|midK (fun a w=>∃ (vC2:Int),(Z24 (Z25 N Z22 p1 p6 nn2) vB2) vC2=some r∧Fr 49 [(0,.slice oa2 p1.length cap3),(1,.int .i64 p6),(5,.int .i64 vC2),(6,.int .i64 vB2)] a∧St w0 Nil [H] [] w) ?_ ?_
      ·
        rcases bdich ((decide (5≤xz8.Kind)) && (decide (xz8.Kind≤15))) with hb14 | hb14
        ·
          replace hm:=ite_t hm hb14
          refine ctv hF rfl hb14<|?_
          refine rg<|?_
          refine ls<|q1 hF rfl (e_move hF rfl) fun a hF=>?_
          refine ls<|q1 hF rfl (e_sub hF rfl rfl) fun a hF=>?_
          refine ls<|q1 hF rfl (e_asg hF rfl) fun a hF=>?_
          refine re<|?_
          refine tn<|?_
          exact ⟨(IntKind.i64.wrap (vC1 - 2)),hm,hF.has ⟨rfl,rfl,rfl,rfl,trivial⟩,hS⟩
        ·
          replace hm:=ite_f hm hb14
          refine cfv hF rfl hb14<|wk<|?_
          refine tn<|?_
          exact ⟨vC1,hm,hF.has ⟨rfl,rfl,rfl,rfl,trivial⟩,hS⟩
      clear hm hF hS
      rintro a w ⟨vC2,hm,hF,hS⟩
      unfold Z24 at hm
      refine th<|th<|?_
      refine rg<|?_
      refine ls<|q1 hF rfl (e_move hF rfl) fun a hF=>?_
      refine ls<|q1 hF rfl (e_lss hF rfl rfl) fun a hF=>?_
      refine re<|?_
      rcases bdich (decide (vC2 < 0)) with hb15 | hb15
      ·
        replace hm:=itp_t hm hb15
        refine tn<|ctv hF rfl hb15<|th<|?_
        refine rg<|?_
        refine ls<|q1 hF rfl (e_asg hF rfl) fun a hF=>?_
        refine re<|?_
        refine tn<|?_
        refine wr<|tr<|br<|tr<|tr<|br<|tr<|?_
        obtain rfl:=Option.some.inj hm
        exact r1 hF Tryz.results115 rfl ⟨rfl,hS.keep⟩
      ·
        replace hm:=itp_f hm hb15
        refine tn<|cfv hF rfl hb15<|wk<|?_
        refine tn<|?_
        refine rg<|?_
        refine ls<|q1 hF rfl (e_move hF rfl) fun a hF=>?_
        refine ls<|q1 hF rfl (e_add hF rfl rfl) fun a hF=>?_
        refine ls<|q1 hF rfl (e_asg hF rfl) fun a hF=>?_
        refine re<|?_
        refine bn<|tn<|?_
        refine rg<|?_
        refine ls<|q1 hF rfl (e_move hF rfl) fun a hF=>?_
        refine ls<|q1 hF rfl (e_add hF rfl rfl) fun a hF=>?_
        refine ls<|q1 hF rfl (e_asg hF rfl) fun a hF=>?_
        refine re<|?_
        refine tn<|?_
        exact ⟨(nn2,(IntKind.i64.wrap (vC2+1)),(IntKind.i64.wrap (vB2+1))),⟨hm,hF.has ⟨rfl,rfl,rfl,rfl,trivial⟩,hS⟩,Nat.lt_succ_self _⟩
    ·
      replace hm:=itp_f hm hb7
      refine tn<|cfv hF rfl hb7<|?_
      refine we<|tx<|tx<|bx<|?_
      refine tn<|?_
      exact ⟨vB1,hm,hF.has ⟨rfl,trivial⟩,hS⟩
  clear hm hF hS
  rintro a w ⟨vA1,hm,hF,hS⟩
  unfold Z22 at hm
  refine th<|?_
  refine rg<|?_
  refine ls<|q1 hF rfl (e_move hF rfl) fun a hF=>?_
  refine ls<|q1 hF rfl (e_asg hF rfl) fun a hF=>?_
  refine re<|?_
  refine tn<|?_
  refine wr<|?_
  obtain rfl:=Option.some.inj hm
  exact r1 hF Tryz.results115 rfl ⟨rfl,hS.keep⟩
end Go.LM.BINZ
