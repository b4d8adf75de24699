/- Walks, lifted by program. No condition beyond the theorems' own premises. -/
import Derived.Test.YtbblmeecfimnkaaDoorBNQ2
namespace Go.LM.BIN
open Go Go.LL Go.MD Go.LM Go.Proofs Go.MD.BIN
set_option maxRecDepth 100000
set_option maxHeartbeats 4000000 in
set_option maxRecDepth 100000 in
theorem Z40_c {N:Nat} {w0:World} {H:PH} (hH:H.le w0) {cs2:List Value} {p1:api_Unit} (g3:Enc.rep H cs2 p1) {r:Bool} (hm:Z40 N p1=some r):Tot Tryd.prog 24 #[.agg cs2.toArray] w0 (fun v w'=>v=.bool r∧Keep Nil w0 w'):=by
  unfold Z40 at hm
  refine fn0 (args:=[.agg cs2.toArray]) (F:=[(0,.agg cs2.toArray)]) Tryd.func24 rfl Tryd.ntmps24 rfl rfl fun a hF=>?_
  have hS:St w0 Nil [H] [] w0:=start1 hH
  have g4:Enc.rep (α:=(List Int)×Int×(List Int)×Int×(List api_Code)×api_Code×(List (List api_Op))) H cs2 (p1.Lines,p1.Stays,p1.Firsts,p1.Locks,p1.Threads,p1.Recover,p1.Claims):=g3
  obtain ⟨qz5,qz6,rfl,g7,g8⟩:=g4
  obtain ⟨oa9,cap10,rfl,hc11,hr12⟩:=g7
  obtain ⟨q13,q14,rfl,g15,g16⟩:=g8
  obtain rfl:q13=[.int .i64 p1.Stays]:=g15
  obtain ⟨q17,q18,rfl,g19,g20⟩:=g16
  obtain ⟨oa21,cap22,rfl,hc23,hr24⟩:=g19
  obtain ⟨q25,q26,rfl,g27,g28⟩:=g20
  obtain rfl:q25=[.int .i64 p1.Locks]:=g27
  obtain ⟨q29,q30,rfl,g31,g32⟩:=g28
  obtain ⟨oa33,cap34,rfl,hc35,hr36⟩:=g31
  obtain ⟨q37,q38,rfl,g39,g40⟩:=g32
  obtain ⟨oa41,cap42,rfl,hc43,hr44⟩:=api_Code_open g39
  obtain ⟨oa45,cap46,rfl,hc47,hr48⟩:=g40
  refine th<|?_
  refine rg<|?_
  refine ls<|a_box (cs:=[.slice oa9 p1.Lines.length cap10,.int .i64 p1.Stays,.slice oa21 p1.Firsts.length cap22,.int .i64 p1.Locks,.slice oa33 p1.Threads.length cap34,.int .i64 p1.Recover.Regs,.int .i64 p1.Recover.Counts,.slice oa41 p1.Recover.L.length cap42,.slice oa45 p1.Claims.length cap46].toArray) hF rfl hS rfl rfl fun b49 w a hS hF=>?_
  refine ls<|q1 hF rfl (e_asg hF rfl) fun a hF=>?_
  refine re<|?_
  refine tn<|th<|th<|?_
  refine rg<|?_
  refine ls<|q1 hF rfl (e_fa hF fa53_0 rfl) fun a hF=>?_
  refine ls<|q1 hF rfl (e_ld hF Tryd.isAgg28 rfl ((St.ld hS).cellB (.head _) rfl)) fun a hF=>?_
  refine ls<|q1 hF rfl (e_lenL (α:=Int) (xs:=p1.Lines) hF Tryd.runUnderlying28 rfl) fun a hF=>?_
  refine ls<|q1 hF rfl (e_gtr hF rfl rfl) fun a hF=>?_
  refine ls<|q1 hF rfl (e_move hF rfl) fun a hF=>?_
  refine grp (N:=117) (Fk:=[(1,.pointer (some ⟨b49,0,none⟩)),(18,.bool ((decide (20 < (p1.Lines.length:Int))) || (decide (p1.Stays < 0))))]) (b:=(decide (20 < (p1.Lines.length:Int)))) 4 hS ?_ ?_ ?_
  ·
    intro hb key
    replace hF:=Fr.as hF (t:=14) rfl (congrArg Value.bool hb)
    refine ls<|gn hF rfl rfl rfl rfl fun a hF=>?_
    refine ls<|gn hF rfl rfl rfl rfl fun a hF=>?_
    refine ls<|gn hF rfl rfl rfl rfl fun a hF=>?_
    refine ls<|q1 hF rfl (e_as (v':=.bool ((decide (20 < (p1.Lines.length:Int))) || (decide (p1.Stays < 0)))) (e_pickT hF rfl rfl) (by rw [hb];rfl)) fun a hF=>?_
    exact key _ _ (hF.has ⟨rfl,rfl,trivial⟩) hS
  ·
    intro hb key
    replace hF:=Fr.as hF (t:=14) rfl (congrArg Value.bool hb)
    refine ls<|gy hF rfl rfl<|q1 hF rfl (e_fa hF fa53_1 rfl) fun a hF=>?_
    refine ls<|gy hF rfl rfl<|q1 hF rfl (e_ld hF Tryd.isAgg3 rfl ((St.ld hS).cellB (.head _) rfl)) fun a hF=>?_
    refine ls<|gy hF rfl rfl<|q1 hF rfl (e_lss hF rfl rfl) fun a hF=>?_
    refine ls<|q1 hF rfl (e_as (v':=.bool ((decide (20 < (p1.Lines.length:Int))) || (decide (p1.Stays < 0)))) (e_pickF hF rfl rfl) (by rw [hb];rfl)) fun a hF=>?_
    exact key _ _ (hF.has ⟨rfl,rfl,trivial⟩) hS
  intro a w hF hS
  refine ls<|q1 hF rfl (e_move hF rfl) fun a hF=>?_
  refine grp (N:=117) (Fk:=[(1,.pointer (some ⟨b49,0,none⟩)),(26,.bool (((decide (20 < (p1.Lines.length:Int))) || (decide (p1.Stays < 0))) || (decide ((p1.Lines.length:Int) < p1.Stays))))]) (b:=((decide (20 < (p1.Lines.length:Int))) || (decide (p1.Stays < 0)))) 7 hS ?_ ?_ ?_
  ·
    intro hb key
    replace hF:=Fr.as hF (t:=19) rfl (congrArg Value.bool hb)
    refine ls<|gn hF rfl rfl rfl rfl fun a hF=>?_
    refine ls<|gn hF rfl rfl rfl rfl fun a hF=>?_
    refine ls<|gn hF rfl rfl rfl rfl fun a hF=>?_
    refine ls<|gn hF rfl rfl rfl rfl fun a hF=>?_
    refine ls<|gn hF rfl rfl rfl rfl fun a hF=>?_
    refine ls<|gn hF rfl rfl rfl rfl fun a hF=>?_
    refine ls<|q1 hF rfl (e_as (v':=.bool (((decide (20 < (p1.Lines.length:Int))) || (decide (p1.Stays < 0))) || (decide ((p1.Lines.length:Int) < p1.Stays)))) (e_pickT hF rfl rfl) (by rw [hb];rfl)) fun a hF=>?_
    exact key _ _ (hF.has ⟨rfl,rfl,trivial⟩) hS
  ·
    intro hb key
    replace hF:=Fr.as hF (t:=19) rfl (congrArg Value.bool hb)
    refine ls<|gy hF rfl rfl<|q1 hF rfl (e_fa hF fa53_1 rfl) fun a hF=>?_
    refine ls<|gy hF rfl rfl<|q1 hF rfl (e_ld hF Tryd.isAgg3 rfl ((St.ld hS).cellB (.head _) rfl)) fun a hF=>?_
    refine ls<|gy hF rfl rfl<|q1 hF rfl (e_fa hF fa53_0 rfl) fun a hF=>?_
    refine ls<|gy hF rfl rfl<|q1 hF rfl (e_ld hF Tryd.isAgg28 rfl ((St.ld hS).cellB (.head _) rfl)) fun a hF=>?_
    refine ls<|gy hF rfl rfl<|q1 hF rfl (e_lenL (α:=Int) (xs:=p1.Lines) hF Tryd.runUnderlying28 rfl) fun a hF=>?_
    refine ls<|gy hF rfl rfl<|q1 hF rfl (e_gtr hF rfl rfl) fun a hF=>?_
    refine ls<|q1 hF rfl (e_as (v':=.bool (((decide (20 < (p1.Lines.length:Int))) || (decide (p1.Stays < 0))) || (decide ((p1.Lines.length:Int) < p1.Stays)))) (e_pickF hF rfl rfl) (by rw [hb];rfl)) fun a hF=>?_
    exact key _ _ (hF.has ⟨rfl,rfl,trivial⟩) hS
  intro a w hF hS
  refine ls<|q1 hF rfl (e_move hF rfl) fun a hF=>?_
  refine grp (N:=117) (Fk:=[(1,.pointer (some ⟨b49,0,none⟩)),(35,.bool ((((decide (20 < (p1.Lines.length:Int))) || (decide (p1.Stays < 0))) || (decide ((p1.Lines.length:Int) < p1.Stays))) || (decide ((p1.Firsts.length:Int)≠(p1.Lines.length:Int)))))]) (b:=(((decide (20 < (p1.Lines.length:Int))) || (decide (p1.Stays < 0))) || (decide ((p1.Lines.length:Int) < p1.Stays)))) 8 hS ?_ ?_ ?_
  ·
    intro hb key
    replace hF:=Fr.as hF (t:=27) rfl (congrArg Value.bool hb)
    refine ls<|gn hF rfl rfl rfl rfl fun a hF=>?_
    refine ls<|gn hF rfl rfl rfl rfl fun a hF=>?_
    refine ls<|gn hF rfl rfl rfl rfl fun a hF=>?_
    refine ls<|gn hF rfl rfl rfl rfl fun a hF=>?_
    refine ls<|gn hF rfl rfl rfl rfl fun a hF=>?_
    refine ls<|gn hF rfl rfl rfl rfl fun a hF=>?_
    refine ls<|gn hF rfl rfl rfl rfl fun a hF=>?_
    refine ls<|q1 hF rfl (e_as (v':=.bool ((((decide (20 < (p1.Lines.length:Int))) || (decide (p1.Stays < 0))) || (decide ((p1.Lines.length:Int) < p1.Stays))) || (decide ((p1.Firsts.length:Int)≠(p1.Lines.length:Int))))) (e_pickT hF rfl rfl) (by rw [hb];rfl)) fun a hF=>?_
    exact key _ _ (hF.has ⟨rfl,rfl,trivial⟩) hS
  ·
    intro hb key
    replace hF:=Fr.as hF (t:=27) rfl (congrArg Value.bool hb)
    refine ls<|gy hF rfl rfl<|q1 hF rfl (e_fa hF fa53_2 rfl) fun a hF=>?_
    refine ls<|gy hF rfl rfl<|q1 hF rfl (e_ld hF Tryd.isAgg28 rfl ((St.ld hS).cellB (.head _) rfl)) fun a hF=>?_
    refine ls<|gy hF rfl rfl<|q1 hF rfl (e_lenL (α:=Int) (xs:=p1.Firsts) hF Tryd.runUnderlying28 rfl) fun a hF=>?_
    refine ls<|gy hF rfl rfl<|q1 hF rfl (e_fa hF fa53_0 rfl) fun a hF=>?_
    refine ls<|gy hF rfl rfl<|q1 hF rfl (e_ld hF Tryd.isAgg28 rfl ((St.ld hS).cellB (.head _) rfl)) fun a hF=>?_
    refine ls<|gy hF rfl rfl<|q1 hF rfl (e_lenL (α:=Int) (xs:=p1.Lines) hF Tryd.runUnderlying28 rfl) fun a hF=>?_
    refine ls<|gy hF rfl rfl<|q1 hF rfl (e_neq hF rfl rfl) fun a hF=>?_
    refine ls<|q1 hF rfl (e_as (v':=.bool ((((decide (20 < (p1.Lines.length:Int))) || (decide (p1.Stays < 0))) || (decide ((p1.Lines.length:Int) < p1.Stays))) || (decide ((p1.Firsts.length:Int)≠(p1.Lines.length:Int))))) (e_pickF hF rfl rfl) (by rw [hb];rfl)) fun a hF=>?_
    exact key _ _ (hF.has ⟨rfl,rfl,trivial⟩) hS
  intro a w hF hS
  refine ls<|q1 hF rfl (e_move hF rfl) fun a hF=>?_
  refine grp (N:=117) (Fk:=[(1,.pointer (some ⟨b49,0,none⟩)),(40,.bool (((((decide (20 < (p1.Lines.length:Int))) || (decide (p1.Stays < 0))) || (decide ((p1.Lines.length:Int) < p1.Stays))) || (decide ((p1.Firsts.length:Int)≠(p1.Lines.length:Int)))) || (decide (p1.Locks < 0))))]) (b:=((((decide (20 < (p1.Lines.length:Int))) || (decide (p1.Stays < 0))) || (decide ((p1.Lines.length:Int) < p1.Stays))) || (decide ((p1.Firsts.length:Int)≠(p1.Lines.length:Int))))) 4 hS ?_ ?_ ?_
  ·
    intro hb key
    replace hF:=Fr.as hF (t:=36) rfl (congrArg Value.bool hb)
    refine ls<|gn hF rfl rfl rfl rfl fun a hF=>?_
    refine ls<|gn hF rfl rfl rfl rfl fun a hF=>?_
    refine ls<|gn hF rfl rfl rfl rfl fun a hF=>?_
    refine ls<|q1 hF rfl (e_as (v':=.bool (((((decide (20 < (p1.Lines.length:Int))) || (decide (p1.Stays < 0))) || (decide ((p1.Lines.length:Int) < p1.Stays))) || (decide ((p1.Firsts.length:Int)≠(p1.Lines.length:Int)))) || (decide (p1.Locks < 0)))) (e_pickT hF rfl rfl) (by rw [hb];rfl)) fun a hF=>?_
    exact key _ _ (hF.has ⟨rfl,rfl,trivial⟩) hS
  ·
    intro hb key
    replace hF:=Fr.as hF (t:=36) rfl (congrArg Value.bool hb)
    refine ls<|gy hF rfl rfl<|q1 hF rfl (e_fa hF fa53_3 rfl) fun a hF=>?_
    refine ls<|gy hF rfl rfl<|q1 hF rfl (e_ld hF Tryd.isAgg3 rfl ((St.ld hS).cellB (.head _) rfl)) fun a hF=>?_
    refine ls<|gy hF rfl rfl<|q1 hF rfl (e_lss hF rfl rfl) fun a hF=>?_
    refine ls<|q1 hF rfl (e_as (v':=.bool (((((decide (20 < (p1.Lines.length:Int))) || (decide (p1.Stays < 0))) || (decide ((p1.Lines.length:Int) < p1.Stays))) || (decide ((p1.Firsts.length:Int)≠(p1.Lines.length:Int)))) || (decide (p1.Locks < 0)))) (e_pickF hF rfl rfl) (by rw [hb];rfl)) fun a hF=>?_
    exact key _ _ (hF.has ⟨rfl,rfl,trivial⟩) hS
  intro a w hF hS
  refine ls<|q1 hF rfl (e_move hF rfl) fun a hF=>?_
  refine grp (N:=117) (Fk:=[(1,.pointer (some ⟨b49,0,none⟩)),(45,.bool ((((((decide (20 < (p1.Lines.length:Int))) || (decide (p1.Stays < 0))) || (decide ((p1.Lines.length:Int) < p1.Stays))) || (decide ((p1.Firsts.length:Int)≠(p1.Lines.length:Int)))) || (decide (p1.Locks < 0))) || (decide (2 < p1.Locks))))]) (b:=(((((decide (20 < (p1.Lines.length:Int))) || (decide (p1.Stays < 0))) || (decide ((p1.Lines.length:Int) < p1.Stays))) || (decide ((p1.Firsts.length:Int)≠(p1.Lines.length:Int)))) || (decide (p1.Locks < 0)))) 4 hS ?_ ?_ ?_
  ·
    intro hb key
    replace hF:=Fr.as hF (t:=41) rfl (congrArg Value.bool hb)
    refine ls<|gn hF rfl rfl rfl rfl fun a hF=>?_
    refine ls<|gn hF rfl rfl rfl rfl fun a hF=>?_
    refine ls<|gn hF rfl rfl rfl rfl fun a hF=>?_
    refine ls<|q1 hF rfl (e_as (v':=.bool ((((((decide (20 < (p1.Lines.length:Int))) || (decide (p1.Stays < 0))) || (decide ((p1.Lines.length:Int) < p1.Stays))) || (decide ((p1.Firsts.length:Int)≠(p1.Lines.length:Int)))) || (decide (p1.Locks < 0))) || (decide (2 < p1.Locks)))) (e_pickT hF rfl rfl) (by rw [hb];rfl)) fun a hF=>?_
    exact key _ _ (hF.has ⟨rfl,rfl,trivial⟩) hS
  ·
    intro hb key
    replace hF:=Fr.as hF (t:=41) rfl (congrArg Value.bool hb)
    refine ls<|gy hF rfl rfl<|q1 hF rfl (e_fa hF fa53_3 rfl) fun a hF=>?_
    refine ls<|gy hF rfl rfl<|q1 hF rfl (e_ld hF Tryd.isAgg3 rfl ((St.ld hS).cellB (.head _) rfl)) fun a hF=>?_
    refine ls<|gy hF rfl rfl<|q1 hF rfl (e_gtr hF rfl rfl) fun a hF=>?_
    refine ls<|q1 hF rfl (e_as (v':=.bool ((((((decide (20 < (p1.Lines.length:Int))) || (decide (p1.Stays < 0))) || (decide ((p1.Lines.length:Int) < p1.Stays))) || (decide ((p1.Firsts.length:Int)≠(p1.Lines.length:Int)))) || (decide (p1.Locks < 0))) || (decide (2 < p1.Locks)))) (e_pickF hF rfl rfl) (by rw [hb];rfl)) fun a hF=>?_
    exact key _ _ (hF.has ⟨rfl,rfl,trivial⟩) hS
  intro a w hF hS
  refine ls<|q1 hF rfl (e_move hF rfl) fun a hF=>?_
  refine grp (N:=117) (Fk:=[(1,.pointer (some ⟨b49,0,none⟩)),(51,.bool (((((((decide (20 < (p1.Lines.length:Int))) || (decide (p1.Stays < 0))) || (decide ((p1.Lines.length:Int) < p1.Stays))) || (decide ((p1.Firsts.length:Int)≠(p1.Lines.length:Int)))) || (decide (p1.Locks < 0))) || (decide (2 < p1.Locks))) || (decide ((p1.Threads.length:Int) < 1))))]) (b:=((((((decide (20 < (p1.Lines.length:Int))) || (decide (p1.Stays < 0))) || (decide ((p1.Lines.length:Int) < p1.Stays))) || (decide ((p1.Firsts.length:Int)≠(p1.Lines.length:Int)))) || (decide (p1.Locks < 0))) || (decide (2 < p1.Locks)))) 5 hS ?_ ?_ ?_
  ·
    intro hb key
    replace hF:=Fr.as hF (t:=46) rfl (congrArg Value.bool hb)
    refine ls<|gn hF rfl rfl rfl rfl fun a hF=>?_
    refine ls<|gn hF rfl rfl rfl rfl fun a hF=>?_
    refine ls<|gn hF rfl rfl rfl rfl fun a hF=>?_
    refine ls<|gn hF rfl rfl rfl rfl fun a hF=>?_
    refine ls<|q1 hF rfl (e_as (v':=.bool (((((((decide (20 < (p1.Lines.length:Int))) || (decide (p1.Stays < 0))) || (decide ((p1.Lines.length:Int) < p1.Stays))) || (decide ((p1.Firsts.length:Int)≠(p1.Lines.length:Int)))) || (decide (p1.Locks < 0))) || (decide (2 < p1.Locks))) || (decide ((p1.Threads.length:Int) < 1)))) (e_pickT hF rfl rfl) (by rw [hb];rfl)) fun a hF=>?_
    exact key _ _ (hF.has ⟨rfl,rfl,trivial⟩) hS
  ·
    intro hb key
    replace hF:=Fr.as hF (t:=46) rfl (congrArg Value.bool hb)
    refine ls<|gy hF rfl rfl<|q1 hF rfl (e_fa hF fa53_4 rfl) fun a hF=>?_
    refine ls<|gy hF rfl rfl<|q1 hF rfl (e_ld hF Tryd.isAgg50 rfl ((St.ld hS).cellB (.head _) rfl)) fun a hF=>?_
    refine ls<|gy hF rfl rfl<|q1 hF rfl (e_lenL (α:=api_Code) (xs:=p1.Threads) hF Tryd.runUnderlying50 rfl) fun a hF=>?_
    refine ls<|gy hF rfl rfl<|q1 hF rfl (e_lss hF rfl rfl) fun a hF=>?_
    refine ls<|q1 hF rfl (e_as (v':=.bool (((((((decide (20 < (p1.Lines.length:Int))) || (decide (p1.Stays < 0))) || (decide ((p1.Lines.length:Int) < p1.Stays))) || (decide ((p1.Firsts.length:Int)≠(p1.Lines.length:Int)))) || (decide (p1.Locks < 0))) || (decide (2 < p1.Locks))) || (decide ((p1.Threads.length:Int) < 1)))) (e_pickF hF rfl rfl) (by rw [hb];rfl)) fun a hF=>?_
    exact key _ _ (hF.has ⟨rfl,rfl,trivial⟩) hS
  intro a w hF hS
  refine ls<|q1 hF rfl (e_move hF rfl) fun a hF=>?_
  refine grp (N:=117) (Fk:=[(1,.pointer (some ⟨b49,0,none⟩)),(57,.bool ((((((((decide (20 < (p1.Lines.length:Int))) || (decide (p1.Stays < 0))) || (decide ((p1.Lines.length:Int) < p1.Stays))) || (decide ((p1.Firsts.length:Int)≠(p1.Lines.length:Int)))) || (decide (p1.Locks < 0))) || (decide (2 < p1.Locks))) || (decide ((p1.Threads.length:Int) < 1))) || (decide (3 < (p1.Threads.length:Int)))))]) (b:=(((((((decide (20 < (p1.Lines.length:Int))) || (decide (p1.Stays < 0))) || (decide ((p1.Lines.length:Int) < p1.Stays))) || (decide ((p1.Firsts.length:Int)≠(p1.Lines.length:Int)))) || (decide (p1.Locks < 0))) || (decide (2 < p1.Locks))) || (decide ((p1.Threads.length:Int) < 1)))) 5 hS ?_ ?_ ?_
  ·
    intro hb key
    replace hF:=Fr.as hF (t:=52) rfl (congrArg Value.bool hb)
    refine ls<|gn hF rfl rfl rfl rfl fun a hF=>?_
    refine ls<|gn hF rfl rfl rfl rfl fun a hF=>?_
    refine ls<|gn hF rfl rfl rfl rfl fun a hF=>?_
    refine ls<|gn hF rfl rfl rfl rfl fun a hF=>?_
    refine ls<|q1 hF rfl (e_as (v':=.bool ((((((((decide (20 < (p1.Lines.length:Int))) || (decide (p1.Stays < 0))) || (decide ((p1.Lines.length:Int) < p1.Stays))) || (decide ((p1.Firsts.length:Int)≠(p1.Lines.length:Int)))) || (decide (p1.Locks < 0))) || (decide (2 < p1.Locks))) || (decide ((p1.Threads.length:Int) < 1))) || (decide (3 < (p1.Threads.length:Int))))) (e_pickT hF rfl rfl) (by rw [hb];rfl)) fun a hF=>?_
    exact key _ _ (hF.has ⟨rfl,rfl,trivial⟩) hS
  ·
    intro hb key
    replace hF:=Fr.as hF (t:=52) rfl (congrArg Value.bool hb)
    refine ls<|gy hF rfl rfl<|q1 hF rfl (e_fa hF fa53_4 rfl) fun a hF=>?_
    refine ls<|gy hF rfl rfl<|q1 hF rfl (e_ld hF Tryd.isAgg50 rfl ((St.ld hS).cellB (.head _) rfl)) fun a hF=>?_
    refine ls<|gy hF rfl rfl<|q1 hF rfl (e_lenL (α:=api_Code) (xs:=p1.Threads) hF Tryd.runUnderlying50 rfl) fun a hF=>?_
    refine ls<|gy hF rfl rfl<|q1 hF rfl (e_gtr hF rfl rfl) fun a hF=>?_
    refine ls<|q1 hF rfl (e_as (v':=.bool ((((((((decide (20 < (p1.Lines.length:Int))) || (decide (p1.Stays < 0))) || (decide ((p1.Lines.length:Int) < p1.Stays))) || (decide ((p1.Firsts.length:Int)≠(p1.Lines.length:Int)))) || (decide (p1.Locks < 0))) || (decide (2 < p1.Locks))) || (decide ((p1.Threads.length:Int) < 1))) || (decide (3 < (p1.Threads.length:Int))))) (e_pickF hF rfl rfl) (by rw [hb];rfl)) fun a hF=>?_
    exact key _ _ (hF.has ⟨rfl,rfl,trivial⟩) hS
  intro a w hF hS
  refine re<|?_
  rcases bdich ((((((((decide (20 < (p1.Lines.length:Int))) || (decide (p1.Stays < 0))) || (decide ((p1.Lines.length:Int) < p1.Stays))) || (decide ((p1.Firsts.length:Int)≠(p1.Lines.length:Int)))) || (decide (p1.Locks < 0))) || (decide (2 < p1.Locks))) || (decide ((p1.Threads.length:Int) < 1))) || (decide (3 < (p1.Threads.length:Int)))) with hb50 | hb50
  ·
    replace hm:=ite_t hm hb50
    refine tn<|ctv hF rfl hb50<|th<|?_
    refine rg<|?_
    refine ls<|q1 hF rfl (e_asg hF rfl) fun a hF=>?_
    refine re<|?_
    refine tn<|?_
    refine wr<|tr<|?_
    obtain rfl:=Option.some.inj hm
    exact r1 hF Tryd.results24 rfl ⟨rfl,hS.keep⟩
  ·
    replace hm:=ite_f hm hb50
    refine tn<|cfv hF rfl hb50<|wk<|?_
    refine tn<|th<|?_
    refine rg<|?_
    refine ls<|q1 hF rfl (e_asg hF rfl) fun a hF=>?_
    refine re<|?_
    refine tn<|th<|th<|?_
    refine rg<|?_
    refine ls<|q1 hF rfl (e_fa hF fa53_0 rfl) fun a hF=>?_
    refine ls<|q1 hF rfl (e_ld hF Tryd.isAgg28 rfl ((St.ld hS).cellB (.head _) rfl)) fun a hF=>?_
    refine ls<|q1 hF rfl (e_lenL (α:=Int) (xs:=p1.Lines) hF Tryd.runUnderlying28 rfl) fun a hF=>?_
    refine ls<|q1 hF rfl (e_move hF rfl) fun a hF=>?_
    refine re<|?_
    refine tn<|midK (fun a w=>(Z44 N p1)=some r∧Fr 117 [(1,.pointer (some ⟨b49,0,none⟩))] a∧St w0 Nil [H] [blk b49 (.cells [.slice oa9 p1.Lines.length cap10,.int .i64 p1.Stays,.slice oa21 p1.Firsts.length cap22,.int .i64 p1.Locks,.slice oa33 p1.Threads.length cap34,.int .i64 p1.Recover.Regs,.int .i64 p1.Recover.Counts,.slice oa41 p1.Recover.L.length cap42,.slice oa45 p1.Claims.length cap46].toArray 53 (0,0))] w) ?_ ?_
    ·
      refine wb<|lp (α:=Nat×Int×Int) (fun (gh:Nat×Int×Int) a w=>match gh with | (nn2,vB1,vB2)=>(Z45 N (Z44 N p1) p1) nn2 vB1 vB2=some r∧Fr 117 [(1,.pointer (some ⟨b49,0,none⟩)),(3,.int .i64 vB1),(59,.slice oa9 p1.Lines.length cap10),(60,.int .i64 (p1.Lines.length:Int)),(61,.int .i64 vB2)] a∧St w0 Nil [H] [blk b49 (.cells [.slice oa9 p1.Lines.length cap10,.int .i64 p1.Stays,.slice oa21 p1.Firsts.length cap22,.int .i64 p1.Locks,.slice oa33 p1.Threads.length cap34,.int .i64 p1.Recover.Regs,.int .i64 p1.Recover.Counts,.slice oa41 p1.Recover.L.length cap42,.slice oa45 p1.Claims.length cap46].toArray 53 (0,0))] w) (fun gh=>gh.1) (N,(-1),0) ⟨hm,hF.has ⟨rfl,rfl,rfl,rfl,rfl,trivial⟩,hS⟩ ?_
      clear hm hF hS
      rintro ⟨nn2,vB1,vB2⟩ a w ⟨hm,hF,hS⟩
      obtain _ | nn2:=nn2
      · simp [Z45] at hm
      rw [Z45] at hm
      refine th<|?_
      refine rg<|?_
      refine ls<|q1 hF rfl (e_lss hF rfl rfl) fun a hF=>?_
      refine re<|?_
      rcases bdich (decide (vB2 < (p1.Lines.length:Int))) with hb51 | hb51
      ·
        replace hm:=itp_t hm hb51
        refine tn<|th<|ctv hF rfl hb51<|wk<|?_
        refine tn<|th<|wb<|th<|?_
        replace hm:=bind_some hm
        obtain ⟨x52,h53,hm⟩:=hm
        obtain ⟨c54,g55,hl56⟩:=SR.get hr12 h53
        obtain rfl:c54=[.int .i64 x52]:=g55
        refine rg<|?_
        refine ls<|q1 hF rfl (e_move hF rfl) fun a hF=>?_
        refine ls<|q1 hF rfl (e_iaI hF Tryd.runUnderlying28 Tryd.sizeOf3 rfl rfl h53 (SR.oaI hr12 (by decide) h53)) fun a hF=>?_
        refine ls<|q1 hF rfl (e_ld hF Tryd.isAgg3 rfl (PH.le.cell (Lds.le (St.ld hS)) (hl56 0 _ rfl))) fun a hF=>?_
        refine ls<|q1 hF rfl (e_asg hF rfl) fun a hF=>?_
        refine ls<|q1 hF rfl (e_asg hF rfl) fun a hF=>?_
        refine re<|?_
        refine tn<|th<|?_
        refine rg<|?_
        refine ls<|q1 hF rfl (e_move hF rfl) fun a hF=>?_
        refine ls<|q1 hF rfl (e_gtr hF rfl rfl) fun a hF=>?_
        refine ls<|q1 hF rfl (e_move hF rfl) fun a hF=>?_
        refine grp (N:=117) (Fk:=[(1,.pointer (some ⟨b49,0,none⟩)),(3,.int .i64 vB1),(5,.int .i64 x52),(59,.slice oa9 p1.Lines.length cap10),(60,.int .i64 (p1.Lines.length:Int)),(61,.int .i64 vB2),(73,.bool ((decide (0 < vB2)) && (decide (vB2 < p1.Stays))))]) (b:=(decide (0 < vB2))) 5 hS ?_ ?_ ?_
        ·
          intro hb key
          replace hF:=Fr.as hF (t:=68) rfl (congrArg Value.bool hb)
          refine ls<|gy hF rfl rfl<|q1 hF rfl (e_move hF rfl) fun a hF=>?_
          refine ls<|gy hF rfl rfl<|q1 hF rfl (e_fa hF fa53_1 rfl) fun a hF=>?_
          refine ls<|gy hF rfl rfl<|q1 hF rfl (e_ld hF Tryd.isAgg3 rfl ((St.ld hS).cellB (.head _) rfl)) fun a hF=>?_
          refine ls<|gy hF rfl rfl<|q1 hF rfl (e_lss hF rfl rfl) fun a hF=>?_
          refine ls<|q1 hF rfl (e_as (v':=.bool ((decide (0 < vB2)) && (decide (vB2 < p1.Stays)))) (e_pickT hF rfl rfl) (by rw [hb];rfl)) fun a hF=>?_
          exact key _ _ (hF.has ⟨rfl,rfl,rfl,rfl,rfl,rfl,rfl,trivial⟩) hS
        ·
          intro hb key
          replace hF:=Fr.as hF (t:=68) rfl (congrArg Value.bool hb)
          refine ls<|gn hF rfl rfl rfl rfl fun a hF=>?_
          refine ls<|gn hF rfl rfl rfl rfl fun a hF=>?_
          refine ls<|gn hF rfl rfl rfl rfl fun a hF=>?_
          refine ls<|gn hF rfl rfl rfl rfl fun a hF=>?_
          refine ls<|q1 hF rfl (e_as (v':=.bool ((decide (0 < vB2)) && (decide (vB2 < p1.Stays)))) (e_pickF hF rfl rfl) (by rw [hb];rfl)) fun a hF=>?_
          exact key _ _ (hF.has ⟨rfl,rfl,rfl,rfl,rfl,rfl,rfl,trivial⟩) hS
        intro a w hF hS
        refine ls<|q1 hF rfl (e_move hF rfl) fun a hF=>?_
        refine grp (N:=117) (Fk:=[(1,.pointer (some ⟨b49,0,none⟩)),(3,.int .i64 vB1),(5,.int .i64 x52),(59,.slice oa9 p1.Lines.length cap10),(60,.int .i64 (p1.Lines.length:Int)),(61,.int .i64 vB2),(78,.bool (((decide (0 < vB2)) && (decide (vB2 < p1.Stays))) && (decide (x52=vB1))))]) (b:=((decide (0 < vB2)) && (decide (vB2 < p1.Stays)))) 4 hS ?_ ?_ ?_
        ·
          intro hb key
          replace hF:=Fr.as hF (t:=74) rfl (congrArg Value.bool hb)
          refine ls<|gy hF rfl rfl<|q1 hF rfl (e_move hF rfl) fun a hF=>?_
          refine ls<|gy hF rfl rfl<|q1 hF rfl (e_move hF rfl) fun a hF=>?_
          refine ls<|gy hF rfl rfl<|q1 hF rfl (e_eql hF rfl rfl) fun a hF=>?_
          refine ls<|q1 hF rfl (e_as (v':=.bool (((decide (0 < vB2)) && (decide (vB2 < p1.Stays))) && (decide (x52=vB1)))) (e_pickT hF rfl rfl) (by rw [hb];rfl)) fun a hF=>?_
          exact key _ _ (hF.has ⟨rfl,rfl,rfl,rfl,rfl,rfl,rfl,trivial⟩) hS
        ·
          intro hb key
          replace hF:=Fr.as hF (t:=74) rfl (congrArg Value.bool hb)
          refine ls<|gn hF rfl rfl rfl rfl fun a hF=>?_
          refine ls<|gn hF rfl rfl rfl rfl fun a hF=>?_
          refine ls<|gn hF rfl rfl rfl rfl fun a hF=>?_
          refine ls<|q1 hF rfl (e_as (v':=.bool (((decide (0 < vB2)) && (decide (vB2 < p1.Stays))) && (decide (x52=vB1)))) (e_pickF hF rfl rfl) (by rw [hb];rfl)) fun a hF=>?_
          exact key _ _ (hF.has ⟨rfl,rfl,rfl,rfl,rfl,rfl,rfl,trivial⟩) hS
        intro a w hF hS
        refine ls<|q1 hF rfl (e_asg hF rfl) fun a hF=>?_
        refine re<|?_
        refine tn<|th<|th<|?_
        refine rg<|?_
        refine ls<|q1 hF rfl (e_move hF rfl) fun a hF=>?_
        refine ls<|q1 hF rfl (e_not hF rfl) fun a hF=>?_
        refine ls<|q1 hF rfl (e_move hF rfl) fun a hF=>?_
        refine grp (N:=117) (Fk:=[(1,.pointer (some ⟨b49,0,none⟩)),(5,.int .i64 x52),(59,.slice oa9 p1.Lines.length cap10),(60,.int .i64 (p1.Lines.length:Int)),(61,.int .i64 vB2),(86,.bool ((!(((decide (0 < vB2)) && (decide (vB2 < p1.Stays))) && (decide (x52=vB1)))) && (decide (x52≠(IntKind.i64.wrap (vB1+1))))))]) (b:=(!(((decide (0 < vB2)) && (decide (vB2 < p1.Stays))) && (decide (x52=vB1))))) 5 hS ?_ ?_ ?_
        ·
          intro hb key
          replace hF:=Fr.as hF (t:=81) rfl (congrArg Value.bool hb)
          refine ls<|gy hF rfl rfl<|q1 hF rfl (e_move hF rfl) fun a hF=>?_
          refine ls<|gy hF rfl rfl<|q1 hF rfl (e_move hF rfl) fun a hF=>?_
          refine ls<|gy hF rfl rfl<|q1 hF rfl (e_add hF rfl rfl) fun a hF=>?_
          refine ls<|gy hF rfl rfl<|q1 hF rfl (e_neq hF rfl rfl) fun a hF=>?_
          refine ls<|q1 hF rfl (e_as (v':=.bool ((!(((decide (0 < vB2)) && (decide (vB2 < p1.Stays))) && (decide (x52=vB1)))) && (decide (x52≠(IntKind.i64.wrap (vB1+1)))))) (e_pickT hF rfl rfl) (by rw [hb];rfl)) fun a hF=>?_
          exact key _ _ (hF.has ⟨rfl,rfl,rfl,rfl,rfl,rfl,trivial⟩) hS
        ·
          intro hb key
          replace hF:=Fr.as hF (t:=81) rfl (congrArg Value.bool hb)
          refine ls<|gn hF rfl rfl rfl rfl fun a hF=>?_
          refine ls<|gn hF rfl rfl rfl rfl fun a hF=>?_
          refine ls<|gn hF rfl rfl rfl rfl fun a hF=>?_
          refine ls<|gn hF rfl rfl rfl rfl fun a hF=>?_
          refine ls<|q1 hF rfl (e_as (v':=.bool ((!(((decide (0 < vB2)) && (decide (vB2 < p1.Stays))) && (decide (x52=vB1)))) && (decide (x52≠(IntKind.i64.wrap (vB1+1)))))) (e_pickF hF rfl rfl) (by rw [hb];rfl)) fun a hF=>?_
          exact key _ _ (hF.has ⟨rfl,rfl,rfl,rfl,rfl,rfl,trivial⟩) hS
        intro a w hF hS
        refine re<|?_
        rcases bdich ((!(((decide (0 < vB2)) && (decide (vB2 < p1.Stays))) && (decide (x52=vB1)))) && (decide (x52≠(IntKind.i64.wrap (vB1+1))))) with hb57 | hb57
        ·
          replace hm:=ite_t hm hb57
          refine tn<|ctv hF rfl hb57<|th<|?_
          refine rg<|?_
          refine ls<|q1 hF rfl (e_asg hF rfl) fun a hF=>?_
          refine re<|?_
          refine tn<|?_
          refine wr<|tr<|br<|tr<|tr<|br<|tr<|?_
          obtain rfl:=Option.some.inj hm
          exact r1 hF Tryd.results24 rfl ⟨rfl,hS.keep⟩
        ·
          replace hm:=ite_f hm hb57
          refine tn<|cfv hF rfl hb57<|wk<|?_
          refine tn<|?_
          refine rg<|?_
          refine ls<|q1 hF rfl (e_move hF rfl) fun a hF=>?_
          refine ls<|q1 hF rfl (e_asg hF rfl) fun a hF=>?_
          refine re<|?_
          refine bn<|tn<|?_
          refine rg<|?_
          refine ls<|q1 hF rfl (e_add hF rfl rfl) fun a hF=>?_
          refine ls<|q1 hF rfl (e_move hF rfl) fun a hF=>?_
          refine re<|?_
          refine tn<|?_
          exact ⟨(nn2,x52,(IntKind.i64.wrap (vB2+1))),⟨hm,hF.has ⟨rfl,rfl,rfl,rfl,rfl,trivial⟩,hS⟩,Nat.lt_succ_self _⟩
      ·
        replace hm:=itp_f hm hb51
        refine tn<|th<|cfv hF rfl hb51<|?_
        refine we<|tx<|tx<|bx<|?_
        refine tn<|?_
        exact ⟨hm,hF.has ⟨rfl,trivial⟩,hS⟩
    clear hm hF hS
    rintro a w ⟨hm,hF,hS⟩
    unfold Z44 at hm
    refine th<|?_
    refine rg<|?_
    refine ls<|q1 hF rfl (e_asg hF rfl) fun a hF=>?_
    refine re<|?_
    refine tn<|th<|?_
    refine rg<|?_
    refine ls<|q1 hF rfl (e_mkf (vs:=[.pointer (some ⟨b49,0,none⟩)]) hF ⟨rfl,trivial⟩) fun a hF=>?_
    refine ls<|q1 hF rfl (e_asg hF rfl) fun a hF=>?_
    refine re<|?_
    refine tn<|th<|?_
    refine rg<|?_
    refine ls<|q1 hF rfl (e_mkf (vs:=[.pointer (some ⟨b49,0,none⟩)]) hF ⟨rfl,trivial⟩) fun a hF=>?_
    refine ls<|q1 hF rfl (e_asg hF rfl) fun a hF=>?_
    refine re<|?_
    refine tn<|th<|?_
    replace hm:=bind_some hm
    obtain ⟨r58,h59,hm⟩:=hm
    rcases bdich r58 with hb60 | hb60
    ·
      replace hm:=ite_t hm hb60
      have hb60':(!r58)=false:=by rw [hb60];rfl
      refine rg<|?_
      refine ls<|q1 hF rfl (e_fa hF fa53_2 rfl) fun a hF=>?_
      refine ls<|q1 hF rfl (e_ld hF Tryd.isAgg28 rfl ((St.ld hS).cellB (.head _) rfl)) fun a hF=>?_
      refine ls<|q1 hF rfl (e_move hF rfl) fun a hF=>?_
      refine ls<|c1 hF rfl Tryd.call48 (Z4l_c (hp_le _) hc23 (St.srH hS hr24) h59) ⟨rfl,rfl,trivial⟩ (fun v w a hR hF=>?_)
      obtain ⟨rfl,hk⟩:=hR
      replace hS:=hS.pass hk
      clear hk
      refine ls<|q1 hF rfl (e_not hF rfl) fun a hF=>?_
      refine ls<|q1 hF rfl (e_as (e_move hF rfl) (congrArg Value.bool hb60')) fun a hF=>?_
      refine ls<|gn hF rfl rfl rfl rfl fun a hF=>?_
      refine ls<|gn hF rfl rfl rfl rfl fun a hF=>?_
      refine ls<|gn hF rfl rfl rfl rfl fun a hF=>?_
      refine ls<|gn hF rfl rfl rfl rfl fun a hF=>?_
      refine ls<|gn hF rfl rfl rfl rfl fun a hF=>?_
      refine ls<|q1 hF rfl (e_pickF hF rfl rfl) fun a hF=>?_
      refine ls<|q1 hF rfl (e_move hF rfl) fun a hF=>?_
      refine ls<|gn hF rfl rfl rfl rfl fun a hF=>?_
      refine ls<|gn hF rfl rfl rfl rfl fun a hF=>?_
      refine ls<|gn hF rfl rfl rfl rfl fun a hF=>?_
      refine ls<|gn hF rfl rfl rfl rfl fun a hF=>?_
      refine ls<|gn hF rfl rfl rfl rfl fun a hF=>?_
      refine ls<|q1 hF rfl (e_pickF hF rfl rfl) fun a hF=>?_
      refine ls<|q1 hF rfl (e_move hF rfl) fun a hF=>?_
      refine ls<|gn hF rfl rfl rfl rfl fun a hF=>?_
      refine ls<|gn hF rfl rfl rfl rfl fun a hF=>?_
      refine ls<|gn hF rfl rfl rfl rfl fun a hF=>?_
      refine ls<|gn hF rfl rfl rfl rfl fun a hF=>?_
      refine ls<|gn hF rfl rfl rfl rfl fun a hF=>?_
      refine ls<|q1 hF rfl (e_pickF hF rfl rfl) fun a hF=>?_
      refine ls<|q1 hF rfl (e_asg hF rfl) fun a hF=>?_
      refine re<|?_
      refine tn<|?_
      refine wr<|?_
      obtain rfl:=Option.some.inj hm
      exact r1 hF Tryd.results24 rfl ⟨rfl,hS.keep⟩
    ·
      replace hm:=ite_f hm hb60
      have hb60':(!r58)=true:=by rw [hb60];rfl
      replace hm:=bind_some hm
      obtain ⟨r61,h62,hm⟩:=hm
      rcases bdich r61 with hb63 | hb63
      ·
        replace hm:=ite_t hm hb63
        have hb63':(!r61)=false:=by rw [hb63];rfl
        refine rg<|?_
        refine ls<|q1 hF rfl (e_fa hF fa53_2 rfl) fun a hF=>?_
        refine ls<|q1 hF rfl (e_ld hF Tryd.isAgg28 rfl ((St.ld hS).cellB (.head _) rfl)) fun a hF=>?_
        refine ls<|q1 hF rfl (e_move hF rfl) fun a hF=>?_
        refine ls<|c1 hF rfl Tryd.call48 (Z4l_c (hp_le _) hc23 (St.srH hS hr24) h59) ⟨rfl,rfl,trivial⟩ (fun v w a hR hF=>?_)
        obtain ⟨rfl,hk⟩:=hR
        replace hS:=hS.pass hk
        clear hk
        refine ls<|q1 hF rfl (e_not hF rfl) fun a hF=>?_
        refine ls<|q1 hF rfl (e_as (e_move hF rfl) (congrArg Value.bool hb60')) fun a hF=>?_
        refine ls<|gy hF rfl rfl<|q1 hF rfl (e_fa hF fa53_4 rfl) fun a hF=>?_
        refine ls<|gy hF rfl rfl<|q1 hF rfl (e_ld hF Tryd.isAgg50 rfl ((St.ld hS).cellB (.head _) rfl)) fun a hF=>?_
        refine ls<|gy hF rfl rfl<|q1 hF rfl (e_move hF rfl) fun a hF=>?_
        refine ls<|gy hF rfl rfl<|c1 hF rfl Tryd.call49 (Z4i_c (hp_le _) hc35 (St.srH hS hr36) (Enc.mono (St.up hS) (show Enc.rep (α:=api_Unit) H [.slice oa9 p1.Lines.length cap10,.int .i64 p1.Stays,.slice oa21 p1.Firsts.length cap22,.int .i64 p1.Locks,.slice oa33 p1.Threads.length cap34,.int .i64 p1.Recover.Regs,.int .i64 p1.Recover.Counts,.slice oa41 p1.Recover.L.length cap42,.slice oa45 p1.Claims.length cap46] p1 from ⟨_,_,rfl,⟨_,_,rfl,hc11,hr12⟩,⟨_,_,rfl,rfl,⟨_,_,rfl,⟨_,_,rfl,hc23,hr24⟩,⟨_,_,rfl,rfl,⟨_,_,rfl,⟨_,_,rfl,hc35,hr36⟩,⟨_,_,rfl,⟨_,_,rfl,rfl,⟨_,_,rfl,rfl,⟨_,_,rfl,hc43,hr44⟩⟩⟩,⟨_,_,rfl,hc47,hr48⟩⟩⟩⟩⟩⟩⟩)) (St.blkO hS (.head _)) h62) ⟨rfl,rfl,trivial⟩ (fun v w a hR hF=>?_)
        obtain ⟨rfl,hk⟩:=hR
        replace hS:=hS.pass hk
        clear hk
        refine ls<|gy hF rfl rfl<|q1 hF rfl (e_not hF rfl) fun a hF=>?_
        refine ls<|q1 hF rfl (e_pickT hF rfl rfl) fun a hF=>?_
        refine ls<|q1 hF rfl (e_as (e_move hF rfl) (congrArg Value.bool hb63')) fun a hF=>?_
        refine ls<|gn hF rfl rfl rfl rfl fun a hF=>?_
        refine ls<|gn hF rfl rfl rfl rfl fun a hF=>?_
        refine ls<|gn hF rfl rfl rfl rfl fun a hF=>?_
        refine ls<|gn hF rfl rfl rfl rfl fun a hF=>?_
        refine ls<|gn hF rfl rfl rfl rfl fun a hF=>?_
        refine ls<|q1 hF rfl (e_pickF hF rfl rfl) fun a hF=>?_
        refine ls<|q1 hF rfl (e_move hF rfl) fun a hF=>?_
        refine ls<|gn hF rfl rfl rfl rfl fun a hF=>?_
        refine ls<|gn hF rfl rfl rfl rfl fun a hF=>?_
        refine ls<|gn hF rfl rfl rfl rfl fun a hF=>?_
        refine ls<|gn hF rfl rfl rfl rfl fun a hF=>?_
        refine ls<|gn hF rfl rfl rfl rfl fun a hF=>?_
        refine ls<|q1 hF rfl (e_pickF hF rfl rfl) fun a hF=>?_
        refine ls<|q1 hF rfl (e_asg hF rfl) fun a hF=>?_
        refine re<|?_
        refine tn<|?_
        refine wr<|?_
        obtain rfl:=Option.some.inj hm
        exact r1 hF Tryd.results24 rfl ⟨rfl,hS.keep⟩
      ·
        replace hm:=ite_f hm hb63
        have hb63':(!r61)=true:=by rw [hb63];rfl
        replace hm:=bind_some hm
        obtain ⟨r64,h65,hm⟩:=hm
        rcases bdich r64 with hb66 | hb66
        ·
          replace hm:=ite_t hm hb66
          have hb66':(!r64)=false:=by rw [hb66];rfl
          refine rg<|?_
          refine ls<|q1 hF rfl (e_fa hF fa53_2 rfl) fun a hF=>?_
          refine ls<|q1 hF rfl (e_ld hF Tryd.isAgg28 rfl ((St.ld hS).cellB (.head _) rfl)) fun a hF=>?_
          refine ls<|q1 hF rfl (e_move hF rfl) fun a hF=>?_
          refine ls<|c1 hF rfl Tryd.call48 (Z4l_c (hp_le _) hc23 (St.srH hS hr24) h59) ⟨rfl,rfl,trivial⟩ (fun v w a hR hF=>?_)
          obtain ⟨rfl,hk⟩:=hR
          replace hS:=hS.pass hk
          clear hk
          refine ls<|q1 hF rfl (e_not hF rfl) fun a hF=>?_
          refine ls<|q1 hF rfl (e_as (e_move hF rfl) (congrArg Value.bool hb60')) fun a hF=>?_
          refine ls<|gy hF rfl rfl<|q1 hF rfl (e_fa hF fa53_4 rfl) fun a hF=>?_
          refine ls<|gy hF rfl rfl<|q1 hF rfl (e_ld hF Tryd.isAgg50 rfl ((St.ld hS).cellB (.head _) rfl)) fun a hF=>?_
          refine ls<|gy hF rfl rfl<|q1 hF rfl (e_move hF rfl) fun a hF=>?_
          refine ls<|gy hF rfl rfl<|c1 hF rfl Tryd.call49 (Z4i_c (hp_le _) hc35 (St.srH hS hr36) (Enc.mono (St.up hS) (show Enc.rep (α:=api_Unit) H [.slice oa9 p1.Lines.length cap10,.int .i64 p1.Stays,.slice oa21 p1.Firsts.length cap22,.int .i64 p1.Locks,.slice oa33 p1.Threads.length cap34,.int .i64 p1.Recover.Regs,.int .i64 p1.Recover.Counts,.slice oa41 p1.Recover.L.length cap42,.slice oa45 p1.Claims.length cap46] p1 from ⟨_,_,rfl,⟨_,_,rfl,hc11,hr12⟩,⟨_,_,rfl,rfl,⟨_,_,rfl,⟨_,_,rfl,hc23,hr24⟩,⟨_,_,rfl,rfl,⟨_,_,rfl,⟨_,_,rfl,hc35,hr36⟩,⟨_,_,rfl,⟨_,_,rfl,rfl,⟨_,_,rfl,rfl,⟨_,_,rfl,hc43,hr44⟩⟩⟩,⟨_,_,rfl,hc47,hr48⟩⟩⟩⟩⟩⟩⟩)) (St.blkO hS (.head _)) h62) ⟨rfl,rfl,trivial⟩ (fun v w a hR hF=>?_)
          obtain ⟨rfl,hk⟩:=hR
          replace hS:=hS.pass hk
          clear hk
          refine ls<|gy hF rfl rfl<|q1 hF rfl (e_not hF rfl) fun a hF=>?_
          refine ls<|q1 hF rfl (e_pickT hF rfl rfl) fun a hF=>?_
          refine ls<|q1 hF rfl (e_as (e_move hF rfl) (congrArg Value.bool hb63')) fun a hF=>?_
          refine ls<|gy hF rfl rfl<|q1 hF rfl (e_move hF rfl) fun a hF=>?_
          refine ls<|gy hF rfl rfl<|q1 hF rfl (e_fa hF fa53_5 rfl) fun a hF=>?_
          refine ls<|gy hF rfl rfl<|q1 hF rfl (e_ldA hF Tryd.isAgg32 Tryd.sizeOf32 rfl rfl (Lds.cellsP (pre:=[.slice oa9 p1.Lines.length cap10,.int .i64 p1.Stays,.slice oa21 p1.Firsts.length cap22,.int .i64 p1.Locks,.slice oa33 p1.Threads.length cap34]) (vs:=[.int .i64 p1.Recover.Regs,.int .i64 p1.Recover.Counts,.slice oa41 p1.Recover.L.length cap42]) (post:=[.slice oa45 p1.Claims.length cap46]) (St.ld hS) (.head _))) fun a hF=>?_
          refine ls<|gy hF rfl rfl<|k1 (vs:=[.agg #[.int .i64 p1.Recover.Regs,.int .i64 p1.Recover.Counts,.slice oa41 p1.Recover.L.length cap42]]) (caps:=[.pointer (some ⟨b49,0,none⟩)]) hF rfl rfl Tryd.call43 (Z42_c (hp_le _) (Enc.mono (St.up hS) (show Enc.rep (α:=api_Code) H [.int .i64 p1.Recover.Regs,.int .i64 p1.Recover.Counts,.slice oa41 p1.Recover.L.length cap42] p1.Recover from ⟨_,_,rfl,rfl,⟨_,_,rfl,rfl,⟨_,_,rfl,hc43,hr44⟩⟩⟩)) (Enc.mono (St.up hS) (show Enc.rep (α:=api_Unit) H [.slice oa9 p1.Lines.length cap10,.int .i64 p1.Stays,.slice oa21 p1.Firsts.length cap22,.int .i64 p1.Locks,.slice oa33 p1.Threads.length cap34,.int .i64 p1.Recover.Regs,.int .i64 p1.Recover.Counts,.slice oa41 p1.Recover.L.length cap42,.slice oa45 p1.Claims.length cap46] p1 from ⟨_,_,rfl,⟨_,_,rfl,hc11,hr12⟩,⟨_,_,rfl,rfl,⟨_,_,rfl,⟨_,_,rfl,hc23,hr24⟩,⟨_,_,rfl,rfl,⟨_,_,rfl,⟨_,_,rfl,hc35,hr36⟩,⟨_,_,rfl,⟨_,_,rfl,rfl,⟨_,_,rfl,rfl,⟨_,_,rfl,hc43,hr44⟩⟩⟩,⟨_,_,rfl,hc47,hr48⟩⟩⟩⟩⟩⟩⟩)) (St.blkO hS (.head _)) h65) ⟨rfl,trivial⟩ rfl (fun v w a hR hF=>?_)
          obtain ⟨rfl,hk⟩:=hR
          replace hS:=hS.pass hk
          clear hk
          refine ls<|gy hF rfl rfl<|q1 hF rfl (e_not hF rfl) fun a hF=>?_
          refine ls<|q1 hF rfl (e_pickT hF rfl rfl) fun a hF=>?_
          refine ls<|q1 hF rfl (e_as (e_move hF rfl) (congrArg Value.bool hb66')) fun a hF=>?_
          refine ls<|gn hF rfl rfl rfl rfl fun a hF=>?_
          refine ls<|gn hF rfl rfl rfl rfl fun a hF=>?_
          refine ls<|gn hF rfl rfl rfl rfl fun a hF=>?_
          refine ls<|gn hF rfl rfl rfl rfl fun a hF=>?_
          refine ls<|gn hF rfl rfl rfl rfl fun a hF=>?_
          refine ls<|q1 hF rfl (e_pickF hF rfl rfl) fun a hF=>?_
          refine ls<|q1 hF rfl (e_asg hF rfl) fun a hF=>?_
          refine re<|?_
          refine tn<|?_
          refine wr<|?_
          obtain rfl:=Option.some.inj hm
          exact r1 hF Tryd.results24 rfl ⟨rfl,hS.keep⟩
        ·
          replace hm:=ite_f hm hb66
          have hb66':(!r64)=true:=by rw [hb66];rfl
          replace hm:=bind_some hm
          obtain ⟨r67,h68,hm⟩:=hm
          refine rg<|?_
          refine ls<|q1 hF rfl (e_fa hF fa53_2 rfl) fun a hF=>?_
          refine ls<|q1 hF rfl (e_ld hF Tryd.isAgg28 rfl ((St.ld hS).cellB (.head _) rfl)) fun a hF=>?_
          refine ls<|q1 hF rfl (e_move hF rfl) fun a hF=>?_
          refine ls<|c1 hF rfl Tryd.call48 (Z4l_c (hp_le _) hc23 (St.srH hS hr24) h59) ⟨rfl,rfl,trivial⟩ (fun v w a hR hF=>?_)
          obtain ⟨rfl,hk⟩:=hR
          replace hS:=hS.pass hk
          clear hk
          refine ls<|q1 hF rfl (e_not hF rfl) fun a hF=>?_
          refine ls<|q1 hF rfl (e_as (e_move hF rfl) (congrArg Value.bool hb60')) fun a hF=>?_
          refine ls<|gy hF rfl rfl<|q1 hF rfl (e_fa hF fa53_4 rfl) fun a hF=>?_
          refine ls<|gy hF rfl rfl<|q1 hF rfl (e_ld hF Tryd.isAgg50 rfl ((St.ld hS).cellB (.head _) rfl)) fun a hF=>?_
          refine ls<|gy hF rfl rfl<|q1 hF rfl (e_move hF rfl) fun a hF=>?_
          refine ls<|gy hF rfl rfl<|c1 hF rfl Tryd.call49 (Z4i_c (hp_le _) hc35 (St.srH hS hr36) (Enc.mono (St.up hS) (show Enc.rep (α:=api_Unit) H [.slice oa9 p1.Lines.length cap10,.int .i64 p1.Stays,.slice oa21 p1.Firsts.length cap22,.int .i64 p1.Locks,.slice oa33 p1.Threads.length cap34,.int .i64 p1.Recover.Regs,.int .i64 p1.Recover.Counts,.slice oa41 p1.Recover.L.length cap42,.slice oa45 p1.Claims.length cap46] p1 from ⟨_,_,rfl,⟨_,_,rfl,hc11,hr12⟩,⟨_,_,rfl,rfl,⟨_,_,rfl,⟨_,_,rfl,hc23,hr24⟩,⟨_,_,rfl,rfl,⟨_,_,rfl,⟨_,_,rfl,hc35,hr36⟩,⟨_,_,rfl,⟨_,_,rfl,rfl,⟨_,_,rfl,rfl,⟨_,_,rfl,hc43,hr44⟩⟩⟩,⟨_,_,rfl,hc47,hr48⟩⟩⟩⟩⟩⟩⟩)) (St.blkO hS (.head _)) h62) ⟨rfl,rfl,trivial⟩ (fun v w a hR hF=>?_)
          obtain ⟨rfl,hk⟩:=hR
          replace hS:=hS.pass hk
          clear hk
          refine ls<|gy hF rfl rfl<|q1 hF rfl (e_not hF rfl) fun a hF=>?_
          refine ls<|q1 hF rfl (e_pickT hF rfl rfl) fun a hF=>?_
          refine ls<|q1 hF rfl (e_as (e_move hF rfl) (congrArg Value.bool hb63')) fun a hF=>?_
          refine ls<|gy hF rfl rfl<|q1 hF rfl (e_move hF rfl) fun a hF=>?_
          refine ls<|gy hF rfl rfl<|q1 hF rfl (e_fa hF fa53_5 rfl) fun a hF=>?_
          refine ls<|gy hF rfl rfl<|q1 hF rfl (e_ldA hF Tryd.isAgg32 Tryd.sizeOf32 rfl rfl (Lds.cellsP (pre:=[.slice oa9 p1.Lines.length cap10,.int .i64 p1.Stays,.slice oa21 p1.Firsts.length cap22,.int .i64 p1.Locks,.slice oa33 p1.Threads.length cap34]) (vs:=[.int .i64 p1.Recover.Regs,.int .i64 p1.Recover.Counts,.slice oa41 p1.Recover.L.length cap42]) (post:=[.slice oa45 p1.Claims.length cap46]) (St.ld hS) (.head _))) fun a hF=>?_
          refine ls<|gy hF rfl rfl<|k1 (vs:=[.agg #[.int .i64 p1.Recover.Regs,.int .i64 p1.Recover.Counts,.slice oa41 p1.Recover.L.length cap42]]) (caps:=[.pointer (some ⟨b49,0,none⟩)]) hF rfl rfl Tryd.call43 (Z42_c (hp_le _) (Enc.mono (St.up hS) (show Enc.rep (α:=api_Code) H [.int .i64 p1.Recover.Regs,.int .i64 p1.Recover.Counts,.slice oa41 p1.Recover.L.length cap42] p1.Recover from ⟨_,_,rfl,rfl,⟨_,_,rfl,rfl,⟨_,_,rfl,hc43,hr44⟩⟩⟩)) (Enc.mono (St.up hS) (show Enc.rep (α:=api_Unit) H [.slice oa9 p1.Lines.length cap10,.int .i64 p1.Stays,.slice oa21 p1.Firsts.length cap22,.int .i64 p1.Locks,.slice oa33 p1.Threads.length cap34,.int .i64 p1.Recover.Regs,.int .i64 p1.Recover.Counts,.slice oa41 p1.Recover.L.length cap42,.slice oa45 p1.Claims.length cap46] p1 from ⟨_,_,rfl,⟨_,_,rfl,hc11,hr12⟩,⟨_,_,rfl,rfl,⟨_,_,rfl,⟨_,_,rfl,hc23,hr24⟩,⟨_,_,rfl,rfl,⟨_,_,rfl,⟨_,_,rfl,hc35,hr36⟩,⟨_,_,rfl,⟨_,_,rfl,rfl,⟨_,_,rfl,rfl,⟨_,_,rfl,hc43,hr44⟩⟩⟩,⟨_,_,rfl,hc47,hr48⟩⟩⟩⟩⟩⟩⟩)) (St.blkO hS (.head _)) h65) ⟨rfl,trivial⟩ rfl (fun v w a hR hF=>?_)
          obtain ⟨rfl,hk⟩:=hR
          replace hS:=hS.pass hk
          clear hk
          refine ls<|gy hF rfl rfl<|q1 hF rfl (e_not hF rfl) fun a hF=>?_
          refine ls<|q1 hF rfl (e_pickT hF rfl rfl) fun a hF=>?_
          refine ls<|q1 hF rfl (e_as (e_move hF rfl) (congrArg Value.bool hb66')) fun a hF=>?_
          refine ls<|gy hF rfl rfl<|q1 hF rfl (e_fa hF fa53_6 rfl) fun a hF=>?_
          refine ls<|gy hF rfl rfl<|q1 hF rfl (e_ld hF Tryd.isAgg51 rfl ((St.ld hS).cellB (.head _) rfl)) fun a hF=>?_
          refine ls<|gy hF rfl rfl<|q1 hF rfl (e_move hF rfl) fun a hF=>?_
          refine ls<|gy hF rfl rfl<|c1 hF rfl Tryd.call50 (Z4h_c (hp_le _) hc47 (St.srH hS hr48) (Enc.mono (St.up hS) (show Enc.rep (α:=api_Unit) H [.slice oa9 p1.Lines.length cap10,.int .i64 p1.Stays,.slice oa21 p1.Firsts.length cap22,.int .i64 p1.Locks,.slice oa33 p1.Threads.length cap34,.int .i64 p1.Recover.Regs,.int .i64 p1.Recover.Counts,.slice oa41 p1.Recover.L.length cap42,.slice oa45 p1.Claims.length cap46] p1 from ⟨_,_,rfl,⟨_,_,rfl,hc11,hr12⟩,⟨_,_,rfl,rfl,⟨_,_,rfl,⟨_,_,rfl,hc23,hr24⟩,⟨_,_,rfl,rfl,⟨_,_,rfl,⟨_,_,rfl,hc35,hr36⟩,⟨_,_,rfl,⟨_,_,rfl,rfl,⟨_,_,rfl,rfl,⟨_,_,rfl,hc43,hr44⟩⟩⟩,⟨_,_,rfl,hc47,hr48⟩⟩⟩⟩⟩⟩⟩)) (St.blkO hS (.head _)) h68) ⟨rfl,rfl,trivial⟩ (fun v w a hR hF=>?_)
          obtain ⟨rfl,hk⟩:=hR
          replace hS:=hS.pass hk
          clear hk
          refine ls<|gy hF rfl rfl<|q1 hF rfl (e_not hF rfl) fun a hF=>?_
          refine ls<|q1 hF rfl (e_pickT hF rfl rfl) fun a hF=>?_
          refine ls<|q1 hF rfl (e_asg hF rfl) fun a hF=>?_
          refine re<|?_
          refine tn<|?_
          refine wr<|?_
          obtain rfl:=Option.some.inj hm
          exact r1 hF Tryd.results24 rfl ⟨rfl,hS.keep⟩
set_option maxRecDepth 100000 in
theorem Z15_c {N:Nat} {w0:World} {H:PH} (hH:H.le w0) {b2:Nat} {p1:Str} {oa3:Option Addr} {cap4:Nat} {vp5:Value} (hb6:BP b2 vp5) {p7:Int} (hO:(sepA [bldA 65 5 b2 vp5 oa3 cap4 p1]).ok (hp w0)) (hD:∀ b,(sepA [bldA 65 5 b2 vp5 oa3 cap4 p1]).fp b→H b=none) {r:Str} (hm:Z15 N p1 p7=some r):Tot Tryd.prog 26 #[.pointer (some ⟨b2,0,none⟩),.int .i64 p7] w0 (fun v w'=>∃ (vpm:Value) (oam:Option Addr) (capm:Nat),v=.tuple #[]∧BP b2 vpm∧Mut w0 (sepA [bldA 65 5 b2 vp5 oa3 cap4 p1]) (sepA [bldA 65 5 b2 vpm oam capm r]) w'):=by
  unfold Z15 at hm
  refine fn0 (args:=[.pointer (some ⟨b2,0,none⟩),.int .i64 p7]) (F:=[(0,.pointer (some ⟨b2,0,none⟩)),(1,.int .i64 p7)]) Tryd.func26 rfl Tryd.ntmps26 rfl rfl fun a hF=>?_
  have hS:=startM hH hO hD
  replace hm:=bind_some hm
  obtain ⟨rz8,h9,hm⟩:=hm
  replace hm:=bind_some hm
  obtain ⟨s10,h11,hm⟩:=hm
  refine rdL sub_nil 6 hS wide fun w hS=>?_
  refine d1 (i:=0) rfl (by kernel_rfl) (by kernel_rfl) (St.ldsX hS (fun _ _ h=>h) (fun _ h=>(.tail _ h))) hF rfl (fun _ _ _ h=>h) (fun w hl=>(e_move hF rfl)) fun a hF=>?_
  refine d1 (i:=1) rfl (by kernel_rfl) (by kernel_rfl) (St.ldsX hS (fun _ _ h=>h) (fun _ h=>(.tail _ h))) hF rfl (fun _ _ _ h=>h) (fun w hl=>(e_nilp hF rfl)) fun a hF=>?_
  refine d1 (i:=2) rfl (by kernel_rfl) (by kernel_rfl) (St.ldsX hS (fun _ _ h=>h) (fun _ h=>(.tail _ h))) hF rfl (fun _ _ _ h=>h) (fun w hl=>(e_fa hF fa65_0 rfl)) fun a hF=>?_
  refine d1 (i:=3) rfl (by kernel_rfl) (by kernel_rfl) (St.ldsX hS (fun _ _ h=>h) (fun _ h=>(.tail _ h))) hF rfl (fun _ _ _ h=>h) (fun w hl=>(e_move hF rfl)) fun a hF=>?_
  refine da1 (i:=4) (by kernel_rfl) ?_
  refine di (i:=4) rfl<|c1 hF rfl Tryd.call8 (Za_c (hp_le _) h9) ⟨rfl,trivial⟩ (fun v w a hR hF=>?_)
  obtain ⟨rfl,hk⟩:=hR
  replace hS:=hS.pass hk
  clear hk
  refine ⟨fun _=>(St.ldsX hS (fun _ _ h=>h) (fun _ h=>(.tail _ h))),?_⟩
  refine da1 (i:=5) (by kernel_rfl) ?_
  refine di (i:=5) rfl<|c1 hF rfl Tryd.call20 (bws65_c hS hb6 h11) ⟨rfl,rfl,trivial⟩ (fun v w a hR hF=>?_)
  obtain ⟨rfl,oa12,cap13,hS⟩:=hR
  refine ⟨fun _=>(St.ldsX hS (fun _ _ h=>h) (fun _ h=>(.tail _ h))),?_⟩
  refine de (by kernel_rfl)<|?_
  obtain rfl:=Option.some.inj hm
  exact r0n hF Tryd.results26 ⟨(.pointer (some ⟨b2,0,none⟩)),oa12,cap13,rfl,(.inr rfl),(hS.pickL (.cons .head .nil)).endMut⟩
set_option maxRecDepth 100000 in
theorem Z16_c {N:Nat} {w0:World} {H:PH} (hH:H.le w0) {b2:Nat} {p1:Str} {oa3:Option Addr} {cap4:Nat} {vp5:Value} (hb6:BP b2 vp5) {oa8:Option Addr} {cap9:Nat} {p7:(List Int)} (hc10:p7.length≤cap9) (hr11:SR H oa8 p7) (hO:(sepA [bldA 65 5 b2 vp5 oa3 cap4 p1]).ok (hp w0)) (hD:∀ b,(sepA [bldA 65 5 b2 vp5 oa3 cap4 p1]).fp b→H b=none) {r:Str} (hm:Z16 N p1 p7=some r):Tot Tryd.prog 25 #[.pointer (some ⟨b2,0,none⟩),.slice oa8 p7.length cap9] w0 (fun v w'=>∃ (vpm:Value) (oam:Option Addr) (capm:Nat),v=.tuple #[]∧BP b2 vpm∧Mut w0 (sepA [bldA 65 5 b2 vp5 oa3 cap4 p1]) (sepA [bldA 65 5 b2 vpm oam capm r]) w'):=by
  unfold Z16 at hm
  refine fn0 (args:=[.pointer (some ⟨b2,0,none⟩),.slice oa8 p7.length cap9]) (F:=[(0,.pointer (some ⟨b2,0,none⟩)),(1,.slice oa8 p7.length cap9)]) Tryd.func25 rfl Tryd.ntmps25 rfl rfl fun a hF=>?_
  have hS:=startM hH hO hD
  refine th<|?_
  replace hm:=bind_some hm
  obtain ⟨r12,h13,hm⟩:=hm
  refine rg<|?_
  refine ls<|q1 hF rfl (e_move hF rfl) fun a hF=>?_
  refine ls<|q1 hF rfl (e_move hF rfl) fun a hF=>?_
  refine ls<|q1 hF rfl (e_lenL (α:=Int) (xs:=p7) hF Tryd.runUnderlying28 rfl) fun a hF=>?_
  replace hS:=hS.pickL (.cons .head .nil)
  replace hS:=St.sep [bldA 65 5 b2 vp5 oa3 cap4 p1] hS
  refine ls<|c1 hF rfl Tryd.call26 (Z15_c (St.le hS) (p1:=p1) (b2:=b2) (oa3:=oa3) (cap4:=cap4) (vp5:=vp5) hb6 (St.sepOk hS) (St.sepDis hS) h13) ⟨rfl,rfl,trivial⟩ (fun v w a hR hF=>?_)
  obtain ⟨vp16,oa14,cap15,rfl,hb17,hk⟩:=hR
  replace hS:=(hS.mut hk .head).unsep
  clear hk
  refine re<|?_
  refine tn<|th<|?_
  refine rg<|?_
  refine ls<|q1 hF rfl (e_move hF rfl) fun a hF=>?_
  refine ls<|q1 hF rfl (e_lenL (α:=Int) (xs:=p7) hF Tryd.runUnderlying28 rfl) fun a hF=>?_
  refine ls<|q1 hF rfl (e_move hF rfl) fun a hF=>?_
  refine re<|?_
  refine tn<|wb<|lp (α:=Nat×Str×Int) (fun (gh:Nat×Str×Int) a w=>match gh with | (nn1,vA1,vA6)=>∃ (oaA2:Option Addr) (capA3:Nat) (vpA4:Value),(Z17 N p7) nn1 vA1 vA6=some r∧Fr 20 [(0,.pointer (some ⟨b2,0,none⟩)),(10,.slice oa8 p7.length cap9),(11,.int .i64 (p7.length:Int)),(12,.int .i64 vA6)] a∧St w0 (sepA [bldA 65 5 b2 vp5 oa3 cap4 p1]).fp [H] [bldA 65 5 b2 vpA4 oaA2 capA3 vA1] w∧BP b2 vpA4) (fun gh=>gh.1) (N,r12,0) ⟨oa14,cap15,vp16,hm,hF.has ⟨rfl,rfl,rfl,rfl,trivial⟩,hS,hb17⟩ ?_
  clear hm hF hS
  rintro ⟨nn1,vA1,vA6⟩ a w ⟨oaA2,capA3,vpA4,hm,hF,hS,hbA5⟩
  obtain _ | nn1:=nn1
  · simp [Z17] at hm
  rw [Z17] at hm
  refine th<|?_
  refine rg<|?_
  refine ls<|q1 hF rfl (e_lss hF rfl rfl) fun a hF=>?_
  refine re<|?_
  rcases bdich (decide (vA6 < (p7.length:Int))) with hb18 | hb18
  ·
    replace hm:=itp_t hm hb18
    refine tn<|th<|ctv hF rfl hb18<|wk<|?_
    refine tn<|th<|wb<|th<|?_
    replace hm:=bind_some hm
    obtain ⟨x19,h20,hm⟩:=hm
    obtain ⟨c21,g22,hl23⟩:=SR.get hr11 h20
    obtain rfl:c21=[.int .i64 x19]:=g22
    refine rg<|?_
    refine ls<|q1 hF rfl (e_iaI hF Tryd.runUnderlying28 Tryd.sizeOf3 rfl rfl h20 (SR.oaI hr11 (by decide) h20)) fun a hF=>?_
    refine ls<|q1 hF rfl (e_ld hF Tryd.isAgg3 rfl (PH.le.cell (Lds.le (St.ld hS)) (hl23 0 _ rfl))) fun a hF=>?_
    refine ls<|q1 hF rfl (e_asg hF rfl) fun a hF=>?_
    refine re<|?_
    refine tn<|?_
    replace hm:=bind_some hm
    obtain ⟨r24,h25,hm⟩:=hm
    refine rg<|?_
    refine ls<|q1 hF rfl (e_move hF rfl) fun a hF=>?_
    refine ls<|q1 hF rfl (e_move hF rfl) fun a hF=>?_
    replace hS:=hS.pickL (.cons .head .nil)
    replace hS:=St.sep [bldA 65 5 b2 vpA4 oaA2 capA3 vA1] hS
    refine ls<|c1 hF rfl Tryd.call26 (Z15_c (St.le hS) (p1:=vA1) (b2:=b2) (oa3:=oaA2) (cap4:=capA3) (vp5:=vpA4) hbA5 (St.sepOk hS) (St.sepDis hS) h25) ⟨rfl,rfl,trivial⟩ (fun v w a hR hF=>?_)
    obtain ⟨vp28,oa26,cap27,rfl,hb29,hk⟩:=hR
    replace hS:=(hS.mut hk .head).unsep
    clear hk
    refine re<|?_
    refine bn<|tn<|?_
    refine rg<|?_
    refine ls<|q1 hF rfl (e_add hF rfl rfl) fun a hF=>?_
    refine ls<|q1 hF rfl (e_move hF rfl) fun a hF=>?_
    refine re<|?_
    refine tn<|?_
    exact ⟨(nn1,r24,(IntKind.i64.wrap (vA6+1))),⟨oa26,cap27,vp28,hm,hF.has ⟨rfl,rfl,rfl,rfl,trivial⟩,hS,hb29⟩,Nat.lt_succ_self _⟩
  ·
    replace hm:=itp_f hm hb18
    refine tn<|th<|cfv hF rfl hb18<|?_
    refine we<|tx<|tx<|bx<|?_
    obtain rfl:=Option.some.inj hm
    exact r0n hF Tryd.results25 ⟨vpA4,oaA2,capA3,rfl,hbA5,(hS.pickL (.cons .head .nil)).endMut⟩
set_option maxRecDepth 100000 in
theorem Z18_c {N:Nat} {w0:World} {H:PH} (hH:H.le w0) {b2:Nat} {p1:Str} {oa3:Option Addr} {cap4:Nat} {vp5:Value} (hb6:BP b2 vp5) {oa8:Option Addr} {cap9:Nat} {p7:(List api_Op)} (hc10:p7.length≤cap9) (hr11:SR H oa8 p7) (hO:(sepA [bldA 65 5 b2 vp5 oa3 cap4 p1]).ok (hp w0)) (hD:∀ b,(sepA [bldA 65 5 b2 vp5 oa3 cap4 p1]).fp b→H b=none) {r:Str} (hm:Z18 N p1 p7=some r):Tot Tryd.prog 28 #[.pointer (some ⟨b2,0,none⟩),.slice oa8 p7.length cap9] w0 (fun v w'=>∃ (vpm:Value) (oam:Option Addr) (capm:Nat),v=.tuple #[]∧BP b2 vpm∧Mut w0 (sepA [bldA 65 5 b2 vp5 oa3 cap4 p1]) (sepA [bldA 65 5 b2 vpm oam capm r]) w'):=by
  unfold Z18 at hm
  refine fn0 (args:=[.pointer (some ⟨b2,0,none⟩),.slice oa8 p7.length cap9]) (F:=[(0,.pointer (some ⟨b2,0,none⟩)),(1,.slice oa8 p7.length cap9)]) Tryd.func28 rfl Tryd.ntmps28 rfl rfl fun a hF=>?_
  have hS:=startM hH hO hD
  refine th<|?_
  replace hm:=bind_some hm
  obtain ⟨r12,h13,hm⟩:=hm
  refine rg<|?_
  refine ls<|q1 hF rfl (e_move hF rfl) fun a hF=>?_
  refine ls<|q1 hF rfl (e_move hF rfl) fun a hF=>?_
  refine ls<|q1 hF rfl (e_lenL (α:=api_Op) (xs:=p7) hF Tryd.runUnderlying47 rfl) fun a hF=>?_
  replace hS:=hS.pickL (.cons .head .nil)
  replace hS:=St.sep [bldA 65 5 b2 vp5 oa3 cap4 p1] hS
  refine ls<|c1 hF rfl Tryd.call26 (Z15_c (St.le hS) (p1:=p1) (b2:=b2) (oa3:=oa3) (cap4:=cap4) (vp5:=vp5) hb6 (St.sepOk hS) (St.sepDis hS) h13) ⟨rfl,rfl,trivial⟩ (fun v w a hR hF=>?_)
  obtain ⟨vp16,oa14,cap15,rfl,hb17,hk⟩:=hR
  replace hS:=(hS.mut hk .head).unsep
  clear hk
  refine re<|?_
  refine tn<|th<|?_
  refine rg<|?_
  refine ls<|q1 hF rfl (e_move hF rfl) fun a hF=>?_
  refine ls<|q1 hF rfl (e_lenL (α:=api_Op) (xs:=p7) hF Tryd.runUnderlying47 rfl) fun a hF=>?_
  refine ls<|q1 hF rfl (e_move hF rfl) fun a hF=>?_
  refine re<|?_
  refine tn<|wb<|lp (α:=Nat×Str×Int) (fun (gh:Nat×Str×Int) a w=>match gh with | (nn1,vA1,vA6)=>∃ (oaA2:Option Addr) (capA3:Nat) (vpA4:Value),(Z19 N p7) nn1 vA1 vA6=some r∧Fr 25 [(0,.pointer (some ⟨b2,0,none⟩)),(10,.slice oa8 p7.length cap9),(11,.int .i64 (p7.length:Int)),(12,.int .i64 vA6)] a∧St w0 (sepA [bldA 65 5 b2 vp5 oa3 cap4 p1]).fp [H] [bldA 65 5 b2 vpA4 oaA2 capA3 vA1] w∧BP b2 vpA4) (fun gh=>gh.1) (N,r12,0) ⟨oa14,cap15,vp16,hm,hF.has ⟨rfl,rfl,rfl,rfl,trivial⟩,hS,hb17⟩ ?_
  clear hm hF hS
  rintro ⟨nn1,vA1,vA6⟩ a w ⟨oaA2,capA3,vpA4,hm,hF,hS,hbA5⟩
  obtain _ | nn1:=nn1
  · simp [Z19] at hm
  rw [Z19] at hm
  refine th<|?_
  refine rg<|?_
  refine ls<|q1 hF rfl (e_lss hF rfl rfl) fun a hF=>?_
  refine re<|?_
  rcases bdich (decide (vA6 < (p7.length:Int))) with hb18 | hb18
  ·
    replace hm:=itp_t hm hb18
    refine tn<|th<|ctv hF rfl hb18<|wk<|?_
    refine tn<|th<|wb<|th<|?_
    replace hm:=bind_some hm
    obtain ⟨x19,h20,hm⟩:=hm
    obtain ⟨c21,g22,hl23⟩:=SR.get hr11 h20
    obtain rfl:=api_Op_open g22
    refine rg<|?_
    refine ls<|q1 hF rfl (e_iaI hF Tryd.runUnderlying47 Tryd.sizeOf46 rfl rfl h20 (SR.oaI hr11 (by decide) h20)) fun a hF=>?_
    refine ls<|q1 hF rfl (e_ldA hF Tryd.isAgg46 Tryd.sizeOf46 rfl rfl (fun j v hj=>PH.le.cell (Lds.le (St.ld hS)) (hl23 j v hj))) fun a hF=>?_
    refine ls<|a_alloc (cs:=[.int .i64 0,.int .i64 0].toArray) hF rfl hS Tryd.zeroValue46 rfl fun b24 w a hS hF=>?_
    refine ls<|s_blkA hF hS Tryd.sizeOf46 rfl rfl rfl rfl (one_cells rfl) .head fun w hS=>?_
    refine re<|?_
    refine tn<|th<|?_
    replace hm:=bind_some hm
    obtain ⟨r25,h26,hm⟩:=hm
    refine rg<|?_
    refine ls<|q1 hF rfl (e_move hF rfl) fun a hF=>?_
    refine ls<|q1 hF rfl (e_fa hF fa46_0 rfl) fun a hF=>?_
    refine ls<|q1 hF rfl (e_ld hF Tryd.isAgg3 rfl ((St.ld hS).cellB (.head _) rfl)) fun a hF=>?_
    replace hS:=hS.pickL (.cons (.tail .head) (.cons .head .nil))
    replace hS:=St.sep [bldA 65 5 b2 vpA4 oaA2 capA3 vA1] hS
    refine ls<|c1 hF rfl Tryd.call26 (Z15_c (St.le hS) (p1:=vA1) (b2:=b2) (oa3:=oaA2) (cap4:=capA3) (vp5:=vpA4) hbA5 (St.sepOk hS) (St.sepDis hS) h26) ⟨rfl,rfl,trivial⟩ (fun v w a hR hF=>?_)
    obtain ⟨vp29,oa27,cap28,rfl,hb30,hk⟩:=hR
    replace hS:=(hS.mut hk .head).unsep
    clear hk
    refine re<|?_
    refine tn<|?_
    replace hm:=bind_some hm
    obtain ⟨r31,h32,hm⟩:=hm
    refine rg<|?_
    refine ls<|q1 hF rfl (e_move hF rfl) fun a hF=>?_
    refine ls<|q1 hF rfl (e_fa hF fa46_1 rfl) fun a hF=>?_
    refine ls<|q1 hF rfl (e_ld hF Tryd.isAgg3 rfl ((St.ld hS).cellB (.tail _ (.head _)) rfl)) fun a hF=>?_
    replace hS:=hS.pickL (.cons .head (.cons .head .nil))
    replace hS:=St.sep [bldA 65 5 b2 vp29 oa27 cap28 r25] hS
    refine ls<|c1 hF rfl Tryd.call26 (Z15_c (St.le hS) (p1:=r25) (b2:=b2) (oa3:=oa27) (cap4:=cap28) (vp5:=vp29) hb30 (St.sepOk hS) (St.sepDis hS) h32) ⟨rfl,rfl,trivial⟩ (fun v w a hR hF=>?_)
    obtain ⟨vp35,oa33,cap34,rfl,hb36,hk⟩:=hR
    replace hS:=(hS.mut hk .head).unsep
    clear hk
    refine re<|?_
    refine bn<|tn<|?_
    refine rg<|?_
    refine ls<|q1 hF rfl (e_add hF rfl rfl) fun a hF=>?_
    refine ls<|q1 hF rfl (e_move hF rfl) fun a hF=>?_
    refine re<|?_
    refine tn<|?_
    replace hS:=hS.pickL (.cons .head .nil)
    exact ⟨(nn1,r31,(IntKind.i64.wrap (vA6+1))),⟨oa33,cap34,vp35,hm,hF.has ⟨rfl,rfl,rfl,rfl,trivial⟩,hS,hb36⟩,Nat.lt_succ_self _⟩
  ·
    replace hm:=itp_f hm hb18
    refine tn<|th<|cfv hF rfl hb18<|?_
    refine we<|tx<|tx<|bx<|?_
    obtain rfl:=Option.some.inj hm
    exact r0n hF Tryd.results28 ⟨vpA4,oaA2,capA3,rfl,hbA5,(hS.pickL (.cons .head .nil)).endMut⟩
set_option maxRecDepth 100000 in
theorem Z13_c {N:Nat} {w0:World} {H:PH} (hH:H.le w0) {b2:Nat} {p1:Str} {oa3:Option Addr} {cap4:Nat} {vp5:Value} (hb6:BP b2 vp5) {cs8:List Value} {p7:api_Code} (g9:Enc.rep H cs8 p7) (hO:(sepA [bldA 65 5 b2 vp5 oa3 cap4 p1]).ok (hp w0)) (hD:∀ b,(sepA [bldA 65 5 b2 vp5 oa3 cap4 p1]).fp b→H b=none) {r:Str} (hm:Z13 N p1 p7=some r):Tot Tryd.prog 27 #[.pointer (some ⟨b2,0,none⟩),.agg cs8.toArray] w0 (fun v w'=>∃ (vpm:Value) (oam:Option Addr) (capm:Nat),v=.tuple #[]∧BP b2 vpm∧Mut w0 (sepA [bldA 65 5 b2 vp5 oa3 cap4 p1]) (sepA [bldA 65 5 b2 vpm oam capm r]) w'):=by
  unfold Z13 at hm
  refine fn0 (args:=[.pointer (some ⟨b2,0,none⟩),.agg cs8.toArray]) (F:=[(0,.pointer (some ⟨b2,0,none⟩)),(1,.agg cs8.toArray)]) Tryd.func27 rfl Tryd.ntmps27 rfl rfl fun a hF=>?_
  have hS:=startM hH hO hD
  obtain ⟨oa10,cap11,rfl,hc12,hr13⟩:=api_Code_open g9
  refine th<|?_
  refine rg<|?_
  refine ls<|a_box (cs:=[.int .i64 p7.Regs,.int .i64 p7.Counts,.slice oa10 p7.L.length cap11].toArray) hF rfl hS rfl rfl fun b14 w a hS hF=>?_
  refine re<|?_
  refine tn<|th<|?_
  replace hm:=bind_some hm
  obtain ⟨r15,h16,hm⟩:=hm
  refine rg<|?_
  refine ls<|q1 hF rfl (e_move hF rfl) fun a hF=>?_
  refine ls<|q1 hF rfl (e_fa hF fa32_0 rfl) fun a hF=>?_
  refine ls<|q1 hF rfl (e_ld hF Tryd.isAgg3 rfl ((St.ld hS).cellB (.head _) rfl)) fun a hF=>?_
  replace hS:=hS.pickL (.cons (.tail .head) (.cons .head .nil))
  replace hS:=St.sep [bldA 65 5 b2 vp5 oa3 cap4 p1] hS
  refine ls<|c1 hF rfl Tryd.call26 (Z15_c (St.le hS) (p1:=p1) (b2:=b2) (oa3:=oa3) (cap4:=cap4) (vp5:=vp5) hb6 (St.sepOk hS) (St.sepDis hS) h16) ⟨rfl,rfl,trivial⟩ (fun v w a hR hF=>?_)
  obtain ⟨vp19,oa17,cap18,rfl,hb20,hk⟩:=hR
  replace hS:=(hS.mut hk .head).unsep
  clear hk
  refine re<|?_
  refine tn<|th<|?_
  replace hm:=bind_some hm
  obtain ⟨r21,h22,hm⟩:=hm
  refine rg<|?_
  refine ls<|q1 hF rfl (e_move hF rfl) fun a hF=>?_
  refine ls<|q1 hF rfl (e_fa hF fa32_1 rfl) fun a hF=>?_
  refine ls<|q1 hF rfl (e_ld hF Tryd.isAgg3 rfl ((St.ld hS).cellB (.tail _ (.head _)) rfl)) fun a hF=>?_
  replace hS:=hS.pickL (.cons .head (.cons .head .nil))
  replace hS:=St.sep [bldA 65 5 b2 vp19 oa17 cap18 r15] hS
  refine ls<|c1 hF rfl Tryd.call26 (Z15_c (St.le hS) (p1:=r15) (b2:=b2) (oa3:=oa17) (cap4:=cap18) (vp5:=vp19) hb20 (St.sepOk hS) (St.sepDis hS) h22) ⟨rfl,rfl,trivial⟩ (fun v w a hR hF=>?_)
  obtain ⟨vp25,oa23,cap24,rfl,hb26,hk⟩:=hR
  replace hS:=(hS.mut hk .head).unsep
  clear hk
  refine re<|?_
  refine tn<|th<|?_
  replace hm:=bind_some hm
  obtain ⟨r27,h28,hm⟩:=hm
  refine rg<|?_
  refine ls<|q1 hF rfl (e_move hF rfl) fun a hF=>?_
  refine ls<|q1 hF rfl (e_fa hF fa32_2 rfl) fun a hF=>?_
  refine ls<|q1 hF rfl (e_ld hF Tryd.isAgg30 rfl ((St.ld hS).cellB (.tail _ (.head _)) rfl)) fun a hF=>?_
  refine ls<|q1 hF rfl (e_lenL (α:=api_Instr) (xs:=p7.L) hF Tryd.runUnderlying30 rfl) fun a hF=>?_
  replace hS:=hS.pickL (.cons .head (.cons .head .nil))
  replace hS:=St.sep [bldA 65 5 b2 vp25 oa23 cap24 r21] hS
  refine ls<|c1 hF rfl Tryd.call26 (Z15_c (St.le hS) (p1:=r21) (b2:=b2) (oa3:=oa23) (cap4:=cap24) (vp5:=vp25) hb26 (St.sepOk hS) (St.sepDis hS) h28) ⟨rfl,rfl,trivial⟩ (fun v w a hR hF=>?_)
  obtain ⟨vp31,oa29,cap30,rfl,hb32,hk⟩:=hR
  replace hS:=(hS.mut hk .head).unsep
  clear hk
  refine re<|?_
  refine tn<|th<|?_
  refine rg<|?_
  refine ls<|q1 hF rfl (e_fa hF fa32_2 rfl) fun a hF=>?_
  refine ls<|q1 hF rfl (e_ld hF Tryd.isAgg30 rfl ((St.ld hS).cellB (.tail _ (.head _)) rfl)) fun a hF=>?_
  refine ls<|q1 hF rfl (e_lenL (α:=api_Instr) (xs:=p7.L) hF Tryd.runUnderlying30 rfl) fun a hF=>?_
  refine ls<|q1 hF rfl (e_move hF rfl) fun a hF=>?_
  refine re<|?_
  replace hS:=hS.pickL (.cons .head .nil)
  refine tn<|wb<|lp (α:=Nat×Str×Int) (fun (gh:Nat×Str×Int) a w=>match gh with | (nn1,vA1,vA6)=>∃ (oaA2:Option Addr) (capA3:Nat) (vpA4:Value),(Z14 N p7) nn1 vA1 vA6=some r∧Fr 51 [(0,.pointer (some ⟨b2,0,none⟩)),(20,.slice oa10 p7.L.length cap11),(21,.int .i64 (p7.L.length:Int)),(22,.int .i64 vA6)] a∧St w0 (sepA [bldA 65 5 b2 vp5 oa3 cap4 p1]).fp [H] [bldA 65 5 b2 vpA4 oaA2 capA3 vA1] w∧BP b2 vpA4) (fun gh=>gh.1) (N,r27,0) ⟨oa29,cap30,vp31,hm,hF.has ⟨rfl,rfl,rfl,rfl,trivial⟩,hS,hb32⟩ ?_
  clear hm hF hS
  rintro ⟨nn1,vA1,vA6⟩ a w ⟨oaA2,capA3,vpA4,hm,hF,hS,hbA5⟩
  obtain _ | nn1:=nn1
  · simp [Z14] at hm
  rw [Z14] at hm
  refine th<|?_
  refine rg<|?_
  refine ls<|q1 hF rfl (e_lss hF rfl rfl) fun a hF=>?_
  refine re<|?_
  rcases bdich (decide (vA6 < (p7.L.length:Int))) with hb33 | hb33
  ·
    replace hm:=itp_t hm hb33
    refine tn<|th<|ctv hF rfl hb33<|wk<|?_
    refine tn<|th<|wb<|th<|?_
    replace hm:=bind_some hm
    obtain ⟨x34,h35,hm⟩:=hm
    obtain ⟨c36,g37,hl38⟩:=SR.get hr13 h35
    obtain ⟨oa39,cap40,oa43,cap44,rfl,hc41,hr42,hc45,hr46⟩:=api_Instr_open g37
    refine rg<|?_
    refine ls<|q1 hF rfl (e_iaI hF Tryd.runUnderlying30 Tryd.sizeOf49 rfl rfl h35 (SR.oaI hr13 (by decide) h35)) fun a hF=>?_
    refine ls<|q1 hF rfl (e_ldA hF Tryd.isAgg49 Tryd.sizeOf49 rfl rfl (fun j v hj=>PH.le.cell (Lds.le (St.ld hS)) (hl38 j v hj))) fun a hF=>?_
    refine ls<|a_alloc (cs:=[.int .i64 0,.int .i64 0,.int .i64 0,.slice none 0 0,.slice none 0 0,.int .i64 0].toArray) hF rfl hS Tryd.zeroValue49 rfl fun b47 w a hS hF=>?_
    refine ls<|s_blkA hF hS Tryd.sizeOf49 rfl rfl rfl rfl (one_cells rfl) .head fun w hS=>?_
    refine re<|?_
    refine tn<|th<|?_
    replace hm:=bind_some hm
    obtain ⟨r48,h49,hm⟩:=hm
    refine rg<|?_
    refine ls<|q1 hF rfl (e_move hF rfl) fun a hF=>?_
    refine ls<|q1 hF rfl (e_fa hF fa49_0 rfl) fun a hF=>?_
    refine ls<|q1 hF rfl (e_ld hF Tryd.isAgg3 rfl ((St.ld hS).cellB (.head _) rfl)) fun a hF=>?_
    replace hS:=hS.pickL (.cons (.tail .head) (.cons .head .nil))
    replace hS:=St.sep [bldA 65 5 b2 vpA4 oaA2 capA3 vA1] hS
    refine ls<|c1 hF rfl Tryd.call26 (Z15_c (St.le hS) (p1:=vA1) (b2:=b2) (oa3:=oaA2) (cap4:=capA3) (vp5:=vpA4) hbA5 (St.sepOk hS) (St.sepDis hS) h49) ⟨rfl,rfl,trivial⟩ (fun v w a hR hF=>?_)
    obtain ⟨vp52,oa50,cap51,rfl,hb53,hk⟩:=hR
    replace hS:=(hS.mut hk .head).unsep
    clear hk
    refine re<|?_
    refine tn<|th<|?_
    replace hm:=bind_some hm
    obtain ⟨r54,h55,hm⟩:=hm
    refine rg<|?_
    refine ls<|q1 hF rfl (e_move hF rfl) fun a hF=>?_
    refine ls<|q1 hF rfl (e_fa hF fa49_1 rfl) fun a hF=>?_
    refine ls<|q1 hF rfl (e_ld hF Tryd.isAgg3 rfl ((St.ld hS).cellB (.tail _ (.head _)) rfl)) fun a hF=>?_
    replace hS:=hS.pickL (.cons .head (.cons .head .nil))
    replace hS:=St.sep [bldA 65 5 b2 vp52 oa50 cap51 r48] hS
    refine ls<|c1 hF rfl Tryd.call26 (Z15_c (St.le hS) (p1:=r48) (b2:=b2) (oa3:=oa50) (cap4:=cap51) (vp5:=vp52) hb53 (St.sepOk hS) (St.sepDis hS) h55) ⟨rfl,rfl,trivial⟩ (fun v w a hR hF=>?_)
    obtain ⟨vp58,oa56,cap57,rfl,hb59,hk⟩:=hR
    replace hS:=(hS.mut hk .head).unsep
    clear hk
    refine re<|?_
    refine tn<|th<|?_
    replace hm:=bind_some hm
    obtain ⟨r60,h61,hm⟩:=hm
    refine rg<|?_
    refine ls<|q1 hF rfl (e_move hF rfl) fun a hF=>?_
    refine ls<|q1 hF rfl (e_fa hF fa49_2 rfl) fun a hF=>?_
    refine ls<|q1 hF rfl (e_ld hF Tryd.isAgg3 rfl ((St.ld hS).cellB (.tail _ (.head _)) rfl)) fun a hF=>?_
    replace hS:=hS.pickL (.cons .head (.cons .head .nil))
    replace hS:=St.sep [bldA 65 5 b2 vp58 oa56 cap57 r54] hS
    refine ls<|c1 hF rfl Tryd.call26 (Z15_c (St.le hS) (p1:=r54) (b2:=b2) (oa3:=oa56) (cap4:=cap57) (vp5:=vp58) hb59 (St.sepOk hS) (St.sepDis hS) h61) ⟨rfl,rfl,trivial⟩ (fun v w a hR hF=>?_)
    obtain ⟨vp64,oa62,cap63,rfl,hb65,hk⟩:=hR
    replace hS:=(hS.mut hk .head).unsep
    clear hk
    refine re<|?_
    refine tn<|th<|?_
    replace hm:=bind_some hm
    obtain ⟨r66,h67,hm⟩:=hm
    refine rg<|?_
    refine ls<|q1 hF rfl (e_move hF rfl) fun a hF=>?_
    refine ls<|q1 hF rfl (e_fa hF fa49_5 rfl) fun a hF=>?_
    refine ls<|q1 hF rfl (e_ld hF Tryd.isAgg3 rfl ((St.ld hS).cellB (.tail _ (.head _)) rfl)) fun a hF=>?_
    replace hS:=hS.pickL (.cons .head (.cons .head .nil))
    replace hS:=St.sep [bldA 65 5 b2 vp64 oa62 cap63 r60] hS
    refine ls<|c1 hF rfl Tryd.call26 (Z15_c (St.le hS) (p1:=r60) (b2:=b2) (oa3:=oa62) (cap4:=cap63) (vp5:=vp64) hb65 (St.sepOk hS) (St.sepDis hS) h67) ⟨rfl,rfl,trivial⟩ (fun v w a hR hF=>?_)
    obtain ⟨vp70,oa68,cap69,rfl,hb71,hk⟩:=hR
    replace hS:=(hS.mut hk .head).unsep
    clear hk
    refine re<|?_
    refine tn<|th<|?_
    replace hm:=bind_some hm
    obtain ⟨r72,h73,hm⟩:=hm
    refine rg<|?_
    refine ls<|q1 hF rfl (e_move hF rfl) fun a hF=>?_
    refine ls<|q1 hF rfl (e_fa hF fa49_3 rfl) fun a hF=>?_
    refine ls<|q1 hF rfl (e_ld hF Tryd.isAgg47 rfl ((St.ld hS).cellB (.tail _ (.head _)) rfl)) fun a hF=>?_
    replace hS:=hS.pickL (.cons .head (.cons .head .nil))
    replace hS:=St.sep [bldA 65 5 b2 vp70 oa68 cap69 r66] hS
    refine ls<|c1 hF rfl Tryd.call28 (Z18_c (St.le hS) (p1:=r66) (b2:=b2) (oa3:=oa68) (cap4:=cap69) (vp5:=vp70) hb71 hc41 hr42 (St.sepOk hS) (St.sepDis hS) h73) ⟨rfl,rfl,trivial⟩ (fun v w a hR hF=>?_)
    obtain ⟨vp76,oa74,cap75,rfl,hb77,hk⟩:=hR
    replace hS:=(hS.mut hk .head).unsep
    clear hk
    refine re<|?_
    refine tn<|?_
    replace hm:=bind_some hm
    obtain ⟨r78,h79,hm⟩:=hm
    refine rg<|?_
    refine ls<|q1 hF rfl (e_move hF rfl) fun a hF=>?_
    refine ls<|q1 hF rfl (e_fa hF fa49_4 rfl) fun a hF=>?_
    refine ls<|q1 hF rfl (e_ld hF Tryd.isAgg47 rfl ((St.ld hS).cellB (.tail _ (.head _)) rfl)) fun a hF=>?_
    replace hS:=hS.pickL (.cons .head (.cons .head .nil))
    replace hS:=St.sep [bldA 65 5 b2 vp76 oa74 cap75 r72] hS
    refine ls<|c1 hF rfl Tryd.call28 (Z18_c (St.le hS) (p1:=r72) (b2:=b2) (oa3:=oa74) (cap4:=cap75) (vp5:=vp76) hb77 hc45 hr46 (St.sepOk hS) (St.sepDis hS) h79) ⟨rfl,rfl,trivial⟩ (fun v w a hR hF=>?_)
    obtain ⟨vp82,oa80,cap81,rfl,hb83,hk⟩:=hR
    replace hS:=(hS.mut hk .head).unsep
    clear hk
    refine re<|?_
    refine bn<|tn<|?_
    refine rg<|?_
    refine ls<|q1 hF rfl (e_add hF rfl rfl) fun a hF=>?_
    refine ls<|q1 hF rfl (e_move hF rfl) fun a hF=>?_
    refine re<|?_
    refine tn<|?_
    replace hS:=hS.pickL (.cons .head .nil)
    exact ⟨(nn1,r78,(IntKind.i64.wrap (vA6+1))),⟨oa80,cap81,vp82,hm,hF.has ⟨rfl,rfl,rfl,rfl,trivial⟩,hS,hb83⟩,Nat.lt_succ_self _⟩
  ·
    replace hm:=itp_f hm hb33
    refine tn<|th<|cfv hF rfl hb33<|?_
    refine we<|tx<|tx<|bx<|?_
    obtain rfl:=Option.some.inj hm
    exact r0n hF Tryd.results27 ⟨vpA4,oaA2,capA3,rfl,hbA5,(hS.pickL (.cons .head .nil)).endMut⟩
set_option maxRecDepth 100000 in
theorem Z2_c {N:Nat} {w0:World} {H:PH} (hH:H.le w0) {cs2:List Value} {p1:api_Unit} (g3:Enc.rep H cs2 p1) {r:(Str×Int)} (hm:Z2 N p1=some r):Tot Tryd.prog 15 #[.agg cs2.toArray] w0 (fun v w'=>v=.tuple #[strv r.1,.int .i64 r.2]∧Keep Nil w0 w'):=by
  unfold Z2 at hm
  refine fn0 (args:=[.agg cs2.toArray]) (F:=[(0,.agg cs2.toArray)]) Tryd.func15 rfl Tryd.ntmps15 rfl rfl fun a hF=>?_
  have hS:St w0 Nil [H] [] w0:=start1 hH
  have g4:Enc.rep (α:=(List Int)×Int×(List Int)×Int×(List api_Code)×api_Code×(List (List api_Op))) H cs2 (p1.Lines,p1.Stays,p1.Firsts,p1.Locks,p1.Threads,p1.Recover,p1.Claims):=g3
  obtain ⟨qz5,qz6,rfl,g7,g8⟩:=g4
  obtain ⟨oa9,cap10,rfl,hc11,hr12⟩:=g7
  obtain ⟨q13,q14,rfl,g15,g16⟩:=g8
  obtain rfl:q13=[.int .i64 p1.Stays]:=g15
  obtain ⟨q17,q18,rfl,g19,g20⟩:=g16
  obtain ⟨oa21,cap22,rfl,hc23,hr24⟩:=g19
  obtain ⟨q25,q26,rfl,g27,g28⟩:=g20
  obtain rfl:q25=[.int .i64 p1.Locks]:=g27
  obtain ⟨q29,q30,rfl,g31,g32⟩:=g28
  obtain ⟨oa33,cap34,rfl,hc35,hr36⟩:=g31
  obtain ⟨q37,q38,rfl,g39,g40⟩:=g32
  obtain ⟨oa41,cap42,rfl,hc43,hr44⟩:=api_Code_open g39
  obtain ⟨oa45,cap46,rfl,hc47,hr48⟩:=g40
  refine th<|?_
  refine rg<|?_
  refine ls<|a_box (cs:=[.slice oa9 p1.Lines.length cap10,.int .i64 p1.Stays,.slice oa21 p1.Firsts.length cap22,.int .i64 p1.Locks,.slice oa33 p1.Threads.length cap34,.int .i64 p1.Recover.Regs,.int .i64 p1.Recover.Counts,.slice oa41 p1.Recover.L.length cap42,.slice oa45 p1.Claims.length cap46].toArray) hF rfl hS rfl rfl fun b49 w a hS hF=>?_
  refine ls<|q1 hF rfl (e_asg hF rfl) fun a hF=>?_
  refine ls<|q1 hF rfl (e_asg hF rfl) fun a hF=>?_
  refine re<|?_
  refine tn<|th<|th<|?_
  replace hm:=bind_some hm
  obtain ⟨r50,h51,hm⟩:=hm
  refine rg<|?_
  refine ls<|q1 hF rfl (e_ldA hF Tryd.isAgg53 Tryd.sizeOf53 rfl rfl ((St.ld hS).cellsB (.head _))) fun a hF=>?_
  refine ls<|c1 hF rfl Tryd.call24 (Z40_c (hp_le _) (Enc.mono (St.up hS) (show Enc.rep (α:=api_Unit) H [.slice oa9 p1.Lines.length cap10,.int .i64 p1.Stays,.slice oa21 p1.Firsts.length cap22,.int .i64 p1.Locks,.slice oa33 p1.Threads.length cap34,.int .i64 p1.Recover.Regs,.int .i64 p1.Recover.Counts,.slice oa41 p1.Recover.L.length cap42,.slice oa45 p1.Claims.length cap46] p1 from ⟨_,_,rfl,⟨_,_,rfl,hc11,hr12⟩,⟨_,_,rfl,rfl,⟨_,_,rfl,⟨_,_,rfl,hc23,hr24⟩,⟨_,_,rfl,rfl,⟨_,_,rfl,⟨_,_,rfl,hc35,hr36⟩,⟨_,_,rfl,⟨_,_,rfl,rfl,⟨_,_,rfl,rfl,⟨_,_,rfl,hc43,hr44⟩⟩⟩,⟨_,_,rfl,hc47,hr48⟩⟩⟩⟩⟩⟩⟩)) h51) ⟨rfl,trivial⟩ (fun v w a hR hF=>?_)
  obtain ⟨rfl,hk⟩:=hR
  replace hS:=hS.pass hk
  clear hk
  refine ls<|q1 hF rfl (e_not hF rfl) fun a hF=>?_
  refine re<|?_
  rcases bdich r50 with hb52 | hb52
  ·
    replace hm:=ite_t hm hb52
    refine tn<|cfv hF rfl (by rw [hb52];rfl)<|wk<|?_
    refine tn<|th<|?_
    refine rg<|?_
    refine ls<|a_alloc (cs:=[.pointer none,.slice none 0 0].toArray) hF rfl hS Tryd.zeroValue65 rfl fun b53 w a hS hF=>?_
    replace hS:=hS.bld0 (e:=5)
    refine re<|?_
    refine tn<|th<|?_
    replace hm:=bind_some hm
    obtain ⟨r54,h55,hm⟩:=hm
    refine rg<|?_
    refine ls<|q1 hF rfl (e_fa hF fa53_0 rfl) fun a hF=>?_
    refine ls<|q1 hF rfl (e_ld hF Tryd.isAgg28 rfl ((St.ld hS).cellB (.tail _ (.head _)) rfl)) fun a hF=>?_
    replace hS:=hS.pickL (.cons .head (.cons .head .nil))
    replace hS:=St.sep [bldA 65 5 b53 (.pointer none) none 0 []] hS
    refine ls<|c1 hF rfl Tryd.call25 (Z16_c (St.le hS) (p1:=([]:Str)) (b2:=b53) (oa3:=none) (cap4:=0) (vp5:=(.pointer none)) (.inl rfl) hc11 hr12 (St.sepOk hS) (St.sepDis hS) h55) ⟨rfl,rfl,trivial⟩ (fun v w a hR hF=>?_)
    obtain ⟨vp58,oa56,cap57,rfl,hb59,hk⟩:=hR
    replace hS:=(hS.mut hk .head).unsep
    clear hk
    refine re<|?_
    refine tn<|th<|?_
    replace hm:=bind_some hm
    obtain ⟨r60,h61,hm⟩:=hm
    refine rg<|?_
    refine ls<|q1 hF rfl (e_fa hF fa53_1 rfl) fun a hF=>?_
    refine ls<|q1 hF rfl (e_ld hF Tryd.isAgg3 rfl ((St.ld hS).cellB (.tail _ (.head _)) rfl)) fun a hF=>?_
    replace hS:=hS.pickL (.cons .head (.cons .head .nil))
    replace hS:=St.sep [bldA 65 5 b53 vp58 oa56 cap57 r54] hS
    refine ls<|c1 hF rfl Tryd.call26 (Z15_c (St.le hS) (p1:=r54) (b2:=b53) (oa3:=oa56) (cap4:=cap57) (vp5:=vp58) hb59 (St.sepOk hS) (St.sepDis hS) h61) ⟨rfl,rfl,trivial⟩ (fun v w a hR hF=>?_)
    obtain ⟨vp64,oa62,cap63,rfl,hb65,hk⟩:=hR
    replace hS:=(hS.mut hk .head).unsep
    clear hk
    refine re<|?_
    refine tn<|th<|?_
    replace hm:=bind_some hm
    obtain ⟨r66,h67,hm⟩:=hm
    refine rg<|?_
    refine ls<|q1 hF rfl (e_fa hF fa53_2 rfl) fun a hF=>?_
    refine ls<|q1 hF rfl (e_ld hF Tryd.isAgg28 rfl ((St.ld hS).cellB (.tail _ (.head _)) rfl)) fun a hF=>?_
    replace hS:=hS.pickL (.cons .head (.cons .head .nil))
    replace hS:=St.sep [bldA 65 5 b53 vp64 oa62 cap63 r60] hS
    refine ls<|c1 hF rfl Tryd.call25 (Z16_c (St.le hS) (p1:=r60) (b2:=b53) (oa3:=oa62) (cap4:=cap63) (vp5:=vp64) hb65 hc23 hr24 (St.sepOk hS) (St.sepDis hS) h67) ⟨rfl,rfl,trivial⟩ (fun v w a hR hF=>?_)
    obtain ⟨vp70,oa68,cap69,rfl,hb71,hk⟩:=hR
    replace hS:=(hS.mut hk .head).unsep
    clear hk
    refine re<|?_
    refine tn<|th<|?_
    replace hm:=bind_some hm
    obtain ⟨r72,h73,hm⟩:=hm
    refine rg<|?_
    refine ls<|q1 hF rfl (e_fa hF fa53_3 rfl) fun a hF=>?_
    refine ls<|q1 hF rfl (e_ld hF Tryd.isAgg3 rfl ((St.ld hS).cellB (.tail _ (.head _)) rfl)) fun a hF=>?_
    replace hS:=hS.pickL (.cons .head (.cons .head .nil))
    replace hS:=St.sep [bldA 65 5 b53 vp70 oa68 cap69 r66] hS
    refine ls<|c1 hF rfl Tryd.call26 (Z15_c (St.le hS) (p1:=r66) (b2:=b53) (oa3:=oa68) (cap4:=cap69) (vp5:=vp70) hb71 (St.sepOk hS) (St.sepDis hS) h73) ⟨rfl,rfl,trivial⟩ (fun v w a hR hF=>?_)
    obtain ⟨vp76,oa74,cap75,rfl,hb77,hk⟩:=hR
    replace hS:=(hS.mut hk .head).unsep
    clear hk
    refine re<|?_
    refine tn<|th<|?_
    replace hm:=bind_some hm
    obtain ⟨r78,h79,hm⟩:=hm
    refine rg<|?_
    refine ls<|q1 hF rfl (e_fa hF fa53_4 rfl) fun a hF=>?_
    refine ls<|q1 hF rfl (e_ld hF Tryd.isAgg50 rfl ((St.ld hS).cellB (.tail _ (.head _)) rfl)) fun a hF=>?_
    refine ls<|q1 hF rfl (e_lenL (α:=api_Code) (xs:=p1.Threads) hF Tryd.runUnderlying50 rfl) fun a hF=>?_
    replace hS:=hS.pickL (.cons .head (.cons .head .nil))
    replace hS:=St.sep [bldA 65 5 b53 vp76 oa74 cap75 r72] hS
    refine ls<|c1 hF rfl Tryd.call26 (Z15_c (St.le hS) (p1:=r72) (b2:=b53) (oa3:=oa74) (cap4:=cap75) (vp5:=vp76) hb77 (St.sepOk hS) (St.sepDis hS) h79) ⟨rfl,rfl,trivial⟩ (fun v w a hR hF=>?_)
    obtain ⟨vp82,oa80,cap81,rfl,hb83,hk⟩:=hR
    replace hS:=(hS.mut hk .head).unsep
    clear hk
    refine re<|?_
    refine tn<|th<|th<|?_
    refine rg<|?_
    refine ls<|q1 hF rfl (e_fa hF fa53_4 rfl) fun a hF=>?_
    refine ls<|q1 hF rfl (e_ld hF Tryd.isAgg50 rfl ((St.ld hS).cellB (.tail _ (.head _)) rfl)) fun a hF=>?_
    refine ls<|q1 hF rfl (e_lenL (α:=api_Code) (xs:=p1.Threads) hF Tryd.runUnderlying50 rfl) fun a hF=>?_
    refine ls<|q1 hF rfl (e_move hF rfl) fun a hF=>?_
    refine re<|?_
    refine tn<|midK (fun a w=>∃ (vA1:Str) (oaA2:Option Addr) (capA3:Nat) (vpA4:Value),(Z3 N p1) vA1=some r∧Fr 57 [(1,.pointer (some ⟨b49,0,none⟩)),(4,.pointer (some ⟨b53,0,none⟩))] a∧St w0 Nil [H] [blk b49 (.cells [.slice oa9 p1.Lines.length cap10,.int .i64 p1.Stays,.slice oa21 p1.Firsts.length cap22,.int .i64 p1.Locks,.slice oa33 p1.Threads.length cap34,.int .i64 p1.Recover.Regs,.int .i64 p1.Recover.Counts,.slice oa41 p1.Recover.L.length cap42,.slice oa45 p1.Claims.length cap46].toArray 53 (0,0)),bldA 65 5 b53 vpA4 oaA2 capA3 vA1] w∧BP b53 vpA4) ?_ ?_
    ·
      replace hS:=hS.pickL (.cons (.tail .head) (.cons .head .nil))
      refine wb<|lp (α:=Nat×Str×Int) (fun (gh:Nat×Str×Int) a w=>match gh with | (nn2,vB1,vB6)=>∃ (oaB2:Option Addr) (capB3:Nat) (vpB4:Value),(Z5 N (Z3 N p1) p1) nn2 vB1 vB6=some r∧Fr 57 [(1,.pointer (some ⟨b49,0,none⟩)),(4,.pointer (some ⟨b53,0,none⟩)),(29,.slice oa33 p1.Threads.length cap34),(30,.int .i64 (p1.Threads.length:Int)),(31,.int .i64 vB6)] a∧St w0 Nil [H] [blk b49 (.cells [.slice oa9 p1.Lines.length cap10,.int .i64 p1.Stays,.slice oa21 p1.Firsts.length cap22,.int .i64 p1.Locks,.slice oa33 p1.Threads.length cap34,.int .i64 p1.Recover.Regs,.int .i64 p1.Recover.Counts,.slice oa41 p1.Recover.L.length cap42,.slice oa45 p1.Claims.length cap46].toArray 53 (0,0)),bldA 65 5 b53 vpB4 oaB2 capB3 vB1] w∧BP b53 vpB4) (fun gh=>gh.1) (N,r78,0) ⟨oa80,cap81,vp82,hm,hF.has ⟨rfl,rfl,rfl,rfl,rfl,trivial⟩,hS,hb83⟩ ?_
      clear hm hF hS
      rintro ⟨nn2,vB1,vB6⟩ a w ⟨oaB2,capB3,vpB4,hm,hF,hS,hbB5⟩
      obtain _ | nn2:=nn2
      · simp [Z5] at hm
      rw [Z5] at hm
      refine th<|?_
      refine rg<|?_
      refine ls<|q1 hF rfl (e_lss hF rfl rfl) fun a hF=>?_
      refine re<|?_
      rcases bdich (decide (vB6 < (p1.Threads.length:Int))) with hb84 | hb84
      ·
        replace hm:=itp_t hm hb84
        refine tn<|th<|ctv hF rfl hb84<|wk<|?_
        refine tn<|th<|wb<|th<|?_
        replace hm:=bind_some hm
        obtain ⟨x85,h86,hm⟩:=hm
        obtain ⟨c87,g88,hl89⟩:=SR.get hr36 h86
        obtain ⟨oa90,cap91,rfl,hc92,hr93⟩:=api_Code_open g88
        refine rg<|?_
        refine ls<|q1 hF rfl (e_iaI hF Tryd.runUnderlying50 Tryd.sizeOf32 rfl rfl h86 (SR.oaI hr36 (by decide) h86)) fun a hF=>?_
        refine ls<|q1 hF rfl (e_ldA hF Tryd.isAgg32 Tryd.sizeOf32 rfl rfl (fun j v hj=>PH.le.cell (Lds.le (St.ld hS)) (hl89 j v hj))) fun a hF=>?_
        refine ls<|a_alloc (cs:=[.int .i64 0,.int .i64 0,.slice none 0 0].toArray) hF rfl hS Tryd.zeroValue32 rfl fun b94 w a hS hF=>?_
        refine ls<|s_blkA hF hS Tryd.sizeOf32 rfl rfl rfl rfl (one_cells rfl) .head fun w hS=>?_
        refine re<|?_
        refine tn<|?_
        replace hm:=bind_some hm
        obtain ⟨r95,h96,hm⟩:=hm
        refine rg<|?_
        refine ls<|q1 hF rfl (e_ldA hF Tryd.isAgg32 Tryd.sizeOf32 rfl rfl ((St.ld hS).cellsB (.head _))) fun a hF=>?_
        replace hS:=hS.pickL (.cons (.tail (.tail .head)) (.cons .head (.cons .head .nil)))
        replace hS:=St.sep [bldA 65 5 b53 vpB4 oaB2 capB3 vB1] hS
        refine ls<|c1 hF rfl Tryd.call27 (Z13_c (St.le hS) (p1:=vB1) (b2:=b53) (oa3:=oaB2) (cap4:=capB3) (vp5:=vpB4) hbB5 (show Enc.rep (α:=api_Code) H [.int .i64 x85.Regs,.int .i64 x85.Counts,.slice oa90 x85.L.length cap91] x85 from ⟨_,_,rfl,rfl,⟨_,_,rfl,rfl,⟨_,_,rfl,hc92,hr93⟩⟩⟩) (St.sepOk hS) (St.sepDis hS) h96) ⟨rfl,rfl,trivial⟩ (fun v w a hR hF=>?_)
        obtain ⟨vp99,oa97,cap98,rfl,hb100,hk⟩:=hR
        replace hS:=(hS.mut hk .head).unsep
        clear hk
        refine re<|?_
        refine bn<|tn<|?_
        refine rg<|?_
        refine ls<|q1 hF rfl (e_add hF rfl rfl) fun a hF=>?_
        refine ls<|q1 hF rfl (e_move hF rfl) fun a hF=>?_
        refine re<|?_
        refine tn<|?_
        replace hS:=hS.pickL (.cons (.tail (.tail .head)) (.cons .head .nil))
        exact ⟨(nn2,r95,(IntKind.i64.wrap (vB6+1))),⟨oa97,cap98,vp99,hm,hF.has ⟨rfl,rfl,rfl,rfl,rfl,trivial⟩,hS,hb100⟩,Nat.lt_succ_self _⟩
      ·
        replace hm:=itp_f hm hb84
        refine tn<|th<|cfv hF rfl hb84<|?_
        refine we<|tx<|tx<|bx<|?_
        refine tn<|?_
        exact ⟨vB1,oaB2,capB3,vpB4,hm,hF.has ⟨rfl,rfl,trivial⟩,hS,hbB5⟩
    clear hm hF hS
    rintro a w ⟨vA1,oaA2,capA3,vpA4,hm,hF,hS,hbA5⟩
    unfold Z3 at hm
    refine th<|?_
    replace hm:=bind_some hm
    obtain ⟨r101,h102,hm⟩:=hm
    refine rg<|?_
    refine ls<|q1 hF rfl (e_fa hF fa53_5 rfl) fun a hF=>?_
    refine ls<|q1 hF rfl (e_ldA hF Tryd.isAgg32 Tryd.sizeOf32 rfl rfl (Lds.cellsP (pre:=[.slice oa9 p1.Lines.length cap10,.int .i64 p1.Stays,.slice oa21 p1.Firsts.length cap22,.int .i64 p1.Locks,.slice oa33 p1.Threads.length cap34]) (vs:=[.int .i64 p1.Recover.Regs,.int .i64 p1.Recover.Counts,.slice oa41 p1.Recover.L.length cap42]) (post:=[.slice oa45 p1.Claims.length cap46]) (St.ld hS) (.head _))) fun a hF=>?_
    replace hS:=hS.pickL (.cons (.tail .head) (.cons .head .nil))
    replace hS:=St.sep [bldA 65 5 b53 vpA4 oaA2 capA3 vA1] hS
    refine ls<|c1 hF rfl Tryd.call27 (Z13_c (St.le hS) (p1:=vA1) (b2:=b53) (oa3:=oaA2) (cap4:=capA3) (vp5:=vpA4) hbA5 (show Enc.rep (α:=api_Code) H [.int .i64 p1.Recover.Regs,.int .i64 p1.Recover.Counts,.slice oa41 p1.Recover.L.length cap42] p1.Recover from ⟨_,_,rfl,rfl,⟨_,_,rfl,rfl,⟨_,_,rfl,hc43,hr44⟩⟩⟩) (St.sepOk hS) (St.sepDis hS) h102) ⟨rfl,rfl,trivial⟩ (fun v w a hR hF=>?_)
    obtain ⟨vp105,oa103,cap104,rfl,hb106,hk⟩:=hR
    replace hS:=(hS.mut hk .head).unsep
    clear hk
    refine re<|?_
    refine tn<|th<|?_
    replace hm:=bind_some hm
    obtain ⟨r107,h108,hm⟩:=hm
    refine rg<|?_
    refine ls<|q1 hF rfl (e_fa hF fa53_6 rfl) fun a hF=>?_
    refine ls<|q1 hF rfl (e_ld hF Tryd.isAgg51 rfl ((St.ld hS).cellB (.tail _ (.head _)) rfl)) fun a hF=>?_
    refine ls<|q1 hF rfl (e_lenL (α:=(List api_Op)) (xs:=p1.Claims) hF Tryd.runUnderlying51 rfl) fun a hF=>?_
    replace hS:=hS.pickL (.cons .head (.cons .head .nil))
    replace hS:=St.sep [bldA 65 5 b53 vp105 oa103 cap104 r101] hS
    refine ls<|c1 hF rfl Tryd.call26 (Z15_c (St.le hS) (p1:=r101) (b2:=b53) (oa3:=oa103) (cap4:=cap104) (vp5:=vp105) hb106 (St.sepOk hS) (St.sepDis hS) h108) ⟨rfl,rfl,trivial⟩ (fun v w a hR hF=>?_)
    obtain ⟨vp111,oa109,cap110,rfl,hb112,hk⟩:=hR
    replace hS:=(hS.mut hk .head).unsep
    clear hk
    refine re<|?_
    refine tn<|th<|th<|?_
    refine rg<|?_
    refine ls<|q1 hF rfl (e_fa hF fa53_6 rfl) fun a hF=>?_
    refine ls<|q1 hF rfl (e_ld hF Tryd.isAgg51 rfl ((St.ld hS).cellB (.tail _ (.head _)) rfl)) fun a hF=>?_
    refine ls<|q1 hF rfl (e_lenL (α:=(List api_Op)) (xs:=p1.Claims) hF Tryd.runUnderlying51 rfl) fun a hF=>?_
    refine ls<|q1 hF rfl (e_move hF rfl) fun a hF=>?_
    refine re<|?_
    refine tn<|midK (fun a w=>∃ (vA6:Str) (oaA7:Option Addr) (capA8:Nat) (vpA9:Value),Z4 vA6=some r∧Fr 57 [(4,.pointer (some ⟨b53,0,none⟩))] a∧St w0 Nil [H] [bldA 65 5 b53 vpA9 oaA7 capA8 vA6] w∧BP b53 vpA9) ?_ ?_
    ·
      replace hS:=hS.pickL (.cons .head .nil)
      refine wb<|lp (α:=Nat×Str×Int) (fun (gh:Nat×Str×Int) a w=>match gh with | (nn4,vB7,vB12)=>∃ (oaB8:Option Addr) (capB9:Nat) (vpB10:Value),(Z6 N Z4 p1) nn4 vB7 vB12=some r∧Fr 57 [(4,.pointer (some ⟨b53,0,none⟩)),(46,.slice oa45 p1.Claims.length cap46),(47,.int .i64 (p1.Claims.length:Int)),(48,.int .i64 vB12)] a∧St w0 Nil [H] [bldA 65 5 b53 vpB10 oaB8 capB9 vB7] w∧BP b53 vpB10) (fun gh=>gh.1) (N,r107,0) ⟨oa109,cap110,vp111,hm,hF.has ⟨rfl,rfl,rfl,rfl,trivial⟩,hS,hb112⟩ ?_
      clear hm hF hS
      rintro ⟨nn4,vB7,vB12⟩ a w ⟨oaB8,capB9,vpB10,hm,hF,hS,hbB11⟩
      obtain _ | nn4:=nn4
      · simp [Z6] at hm
      rw [Z6] at hm
      refine th<|?_
      refine rg<|?_
      refine ls<|q1 hF rfl (e_lss hF rfl rfl) fun a hF=>?_
      refine re<|?_
      rcases bdich (decide (vB12 < (p1.Claims.length:Int))) with hb113 | hb113
      ·
        replace hm:=itp_t hm hb113
        refine tn<|th<|ctv hF rfl hb113<|wk<|?_
        refine tn<|th<|wb<|th<|?_
        replace hm:=bind_some hm
        obtain ⟨x114,h115,hm⟩:=hm
        obtain ⟨c116,g117,hl118⟩:=SR.get hr48 h115
        obtain ⟨oa119,cap120,rfl,hc121,hr122⟩:=g117
        refine rg<|?_
        refine ls<|q1 hF rfl (e_iaI hF Tryd.runUnderlying51 Tryd.sizeOf47 rfl rfl h115 (SR.oaI hr48 (by decide) h115)) fun a hF=>?_
        refine ls<|q1 hF rfl (e_ld hF Tryd.isAgg47 rfl (PH.le.cell (Lds.le (St.ld hS)) (hl118 0 _ rfl))) fun a hF=>?_
        refine ls<|q1 hF rfl (e_asg hF rfl) fun a hF=>?_
        refine re<|?_
        refine tn<|?_
        replace hm:=bind_some hm
        obtain ⟨r123,h124,hm⟩:=hm
        refine rg<|?_
        refine ls<|q1 hF rfl (e_move hF rfl) fun a hF=>?_
        replace hS:=hS.pickL (.cons .head .nil)
        replace hS:=St.sep [bldA 65 5 b53 vpB10 oaB8 capB9 vB7] hS
        refine ls<|c1 hF rfl Tryd.call28 (Z18_c (St.le hS) (p1:=vB7) (b2:=b53) (oa3:=oaB8) (cap4:=capB9) (vp5:=vpB10) hbB11 hc121 hr122 (St.sepOk hS) (St.sepDis hS) h124) ⟨rfl,rfl,trivial⟩ (fun v w a hR hF=>?_)
        obtain ⟨vp127,oa125,cap126,rfl,hb128,hk⟩:=hR
        replace hS:=(hS.mut hk .head).unsep
        clear hk
        refine re<|?_
        refine bn<|tn<|?_
        refine rg<|?_
        refine ls<|q1 hF rfl (e_add hF rfl rfl) fun a hF=>?_
        refine ls<|q1 hF rfl (e_move hF rfl) fun a hF=>?_
        refine re<|?_
        refine tn<|?_
        exact ⟨(nn4,r123,(IntKind.i64.wrap (vB12+1))),⟨oa125,cap126,vp127,hm,hF.has ⟨rfl,rfl,rfl,rfl,trivial⟩,hS,hb128⟩,Nat.lt_succ_self _⟩
      ·
        replace hm:=itp_f hm hb113
        refine tn<|th<|cfv hF rfl hb113<|?_
        refine we<|tx<|tx<|bx<|?_
        refine tn<|?_
        exact ⟨vB7,oaB8,capB9,vpB10,hm,hF.has ⟨rfl,trivial⟩,hS,hbB11⟩
    clear hm hF hS
    rintro a w ⟨vA6,oaA7,capA8,vpA9,hm,hF,hS,hbA10⟩
    unfold Z4 at hm
    refine th<|?_
    replace hm:=bind_some hm
    obtain ⟨s129,h130,hm⟩:=hm
    refine rg<|?_
    refine ls<|q1 hF rfl (e_fa hF fa65_0 rfl) fun a hF=>?_
    refine ls<|c1 hF rfl Tryd.call14 (bstr65_c hS h130) ⟨rfl,trivial⟩ (fun v w a hR hF=>?_)
    obtain ⟨rfl,hk⟩:=hR
    replace hS:=(start1 hH).pass hk
    clear hk
    refine ls<|q1 hF rfl (e_asg hF rfl) fun a hF=>?_
    refine ls<|q1 hF rfl (e_asg hF rfl) fun a hF=>?_
    refine re<|?_
    refine tn<|?_
    refine wr<|?_
    obtain rfl:=Option.some.inj hm
    exact r2 hF Tryd.results15 rfl rfl ⟨rfl,hS.keep⟩
  ·
    replace hm:=ite_f hm hb52
    refine tn<|ctv hF rfl (by rw [hb52];rfl)<|th<|?_
    refine rg<|?_
    refine ls<|q1 hF rfl (e_asg hF rfl) fun a hF=>?_
    refine ls<|q1 hF rfl (e_asg hF rfl) fun a hF=>?_
    refine re<|?_
    refine tn<|?_
    refine wr<|tr<|?_
    obtain rfl:=Option.some.inj hm
    exact r2 hF Tryd.results15 rfl rfl ⟨rfl,hS.keep⟩
set_option maxRecDepth 100000 in
theorem Zn_c {N:Nat} {w0:World} {H:PH} (hH:H.le w0) {b2:Nat} {p1:binary_reader} (hO:(sepA [blk b2 (.cells [strv p1.s,.int .i64 p1.at'].toArray 72 (0,0))]).ok (hp w0)) (hD:∀ b,(sepA [blk b2 (.cells [strv p1.s,.int .i64 p1.at'].toArray 72 (0,0))]).fp b→H b=none) {r:(Option (Int×binary_reader))} (hm:Zn N p1=some r):TotP Tryd.prog 52 #[.pointer (some ⟨b2,0,none⟩)] w0 (fun v w'=>∃ (r0:(Int×binary_reader)),r=some r0∧v=.int .i64 r0.1∧Mut w0 (sepA [blk b2 (.cells [strv p1.s,.int .i64 p1.at'].toArray 72 (0,0))]) (sepA [blk b2 (.cells [strv r0.2.s,.int .i64 r0.2.at'].toArray 72 (0,0))]) w') (fun w'=>r=none∧Keep (sepA [blk b2 (.cells [strv p1.s,.int .i64 p1.at'].toArray 72 (0,0))]).fp w0 w'):=by
  unfold Zn at hm
  refine fnP (args:=[.pointer (some ⟨b2,0,none⟩)]) (F:=[(0,.pointer (some ⟨b2,0,none⟩))]) Tryd.func52 rfl Tryd.ntmps52 rfl rfl fun a hF=>?_
  have hS:=startM hH hO hD
  refine th<|?_
  refine rg<|?_
  refine ls<|q1 hF rfl (e_asg hF rfl) fun a hF=>?_
  refine re<|?_
  refine tn<|th<|?_
  replace hm:=bind_some hm
  obtain ⟨rz3,h4,hm⟩:=hm
  refine rdS 16 hS wide fun w hS=>?_
  refine d1 (i:=0) rfl (by kernel_rfl) (by kernel_rfl) (St.ld hS) hF rfl (fun _ _ _ h=>h) (fun w hl=>(e_move hF rfl)) fun a hF=>?_
  refine d1 (i:=1) rfl (by kernel_rfl) (by kernel_rfl) (St.ld hS) hF rfl (fun _ _ _ h=>h) (fun w hl=>(e_nilp hF rfl)) fun a hF=>?_
  refine d1 (i:=2) rfl (by kernel_rfl) (by kernel_rfl) (St.ld hS) hF rfl (fun _ _ _ h=>h) (fun w hl=>(e_fa hF fa72_0 rfl)) fun a hF=>?_
  refine d1 (i:=3) rfl (by kernel_rfl) (by kernel_rfl) (St.ld hS) hF rfl (fun _ _ _ h=>h) (fun w hl=>(e_ld hF Tryd.isAgg9 rfl (hl.cellB (.head _) rfl))) fun a hF=>?_
  refine d1 (i:=4) rfl (by kernel_rfl) (by kernel_rfl) (St.ld hS) hF rfl (fun _ _ _ h=>h) (fun w hl=>(e_move hF rfl)) fun a hF=>?_
  refine d1 (i:=5) rfl (by kernel_rfl) (by kernel_rfl) (St.ld hS) hF rfl (fun _ _ _ h=>h) (fun w hl=>(e_nilp hF rfl)) fun a hF=>?_
  refine d1 (i:=6) rfl (by kernel_rfl) (by kernel_rfl) (St.ld hS) hF rfl (fun _ _ _ h=>h) (fun w hl=>(e_fa hF fa72_1 rfl)) fun a hF=>?_
  refine d1 (i:=7) rfl (by kernel_rfl) (by kernel_rfl) (St.ld hS) hF rfl (fun _ _ _ h=>h) (fun w hl=>(e_ld hF Tryd.isAgg3 rfl (hl.cellB (.head _) rfl))) fun a hF=>?_
  refine da1 (i:=8) (by kernel_rfl) ?_
  refine di (i:=8) rfl<|c1 hF rfl Tryd.call6 (Z7_c (hp_le _) h4) ⟨rfl,rfl,trivial⟩ (fun v w a hR hF=>?_)
  obtain ⟨rfl,hk⟩:=hR
  replace hS:=hS.pass hk
  clear hk
  refine ⟨fun _=>(St.ld hS),?_⟩
  refine d1 (i:=9) rfl (by kernel_rfl) (by kernel_rfl) (St.ld hS) hF rfl (fun _ _ _ h=>h) (fun w hl=>(e_move hF rfl)) fun a hF=>?_
  refine d1 (i:=10) rfl (by kernel_rfl) (by kernel_rfl) (St.ld hS) hF rfl (fun _ _ _ h=>h) (fun w hl=>(e_ext hF rfl rfl)) fun a hF=>?_
  refine d1 (i:=11) rfl (by kernel_rfl) (by kernel_rfl) (St.ld hS) hF rfl (fun _ _ _ h=>h) (fun w hl=>(e_ext hF rfl rfl)) fun a hF=>?_
  refine d1 (i:=12) rfl (by kernel_rfl) (by kernel_rfl) (St.ld hS) hF rfl (fun _ _ _ h=>h) (fun w hl=>(e_ext hF rfl rfl)) fun a hF=>?_
  refine d1 (i:=13) rfl (by kernel_rfl) (by kernel_rfl) (St.ld hS) hF rfl (fun _ _ _ h=>h) (fun w hl=>(e_asg hF rfl)) fun a hF=>?_
  refine d1 (i:=14) rfl (by kernel_rfl) (by kernel_rfl) (St.ld hS) hF rfl (fun _ _ _ h=>h) (fun w hl=>(e_asg hF rfl)) fun a hF=>?_
  refine d1 (i:=15) rfl (by kernel_rfl) (by kernel_rfl) (St.ld hS) hF rfl (fun _ _ _ h=>h) (fun w hl=>(e_asg hF rfl)) fun a hF=>?_
  refine de (by kernel_rfl)<|?_
  refine tn<|th<|th<|?_
  refine rg<|?_
  refine ls<|q1 hF rfl (e_move hF rfl) fun a hF=>?_
  refine ls<|q1 hF rfl (e_neq hF rfl rfl) fun a hF=>?_
  refine re<|?_
  rcases bdich (decide (rz3.2.2≠0)) with hb5 | hb5
  ·
    replace hm:=itp_t hm hb5
    refine tn<|ctv hF rfl hb5<|?_
    refine rg<|?_
    refine ls<|q1 hF rfl (e_move hF rfl) fun a hF=>?_
    refine ls<|q1 hF rfl (e_mki hF (mki22 _) rfl) fun a hF=>?_
    refine ls<|pnq hF rfl ?_
    obtain rfl:=Option.some.inj hm
    exact tpn<|pnB hF ⟨rfl,hS.keep⟩
  ·
    replace hm:=itp_f hm hb5
    refine tn<|cfv hF rfl hb5<|wk<|?_
    refine tn<|th<|?_
    refine rg<|?_
    refine ls<|q1 hF rfl (e_move hF rfl) fun a hF=>?_
    refine ls<|q1 hF rfl (e_move hF rfl) fun a hF=>?_
    refine ls<|q1 hF rfl (e_nilp hF rfl) fun a hF=>?_
    refine ls<|q1 hF rfl (e_fa hF fa72_1 rfl) fun a hF=>?_
    refine ls<|s_blk hF hS Tryd.sizeOf3 rfl rfl rfl rfl .head (.succ .zero) fun w hS=>?_
    refine re<|?_
    refine tn<|th<|?_
    refine rg<|?_
    refine ls<|q1 hF rfl (e_move hF rfl) fun a hF=>?_
    refine ls<|q1 hF rfl (e_asg hF rfl) fun a hF=>?_
    refine re<|?_
    refine tn<|?_
    refine wr<|?_
    obtain rfl:=Option.some.inj hm
    exact bpl (r1 hF Tryd.results52 rfl ⟨_,rfl,rfl,(hS.pickL (.cons .head .nil)).endMut⟩)
set_option maxRecDepth 100000 in
theorem Zm_c {N:Nat} {w0:World} {H:PH} (hH:H.le w0) {b2:Nat} {p1:binary_reader} (hO:(sepA [blk b2 (.cells [strv p1.s,.int .i64 p1.at'].toArray 72 (0,0))]).ok (hp w0)) (hD:∀ b,(sepA [blk b2 (.cells [strv p1.s,.int .i64 p1.at'].toArray 72 (0,0))]).fp b→H b=none) {r:(Option (Int×binary_reader))} (hm:Zm N p1=some r):TotP Tryd.prog 53 #[.pointer (some ⟨b2,0,none⟩)] w0 (fun v w'=>∃ (r0:(Int×binary_reader)),r=some r0∧v=.int .i64 r0.1∧Mut w0 (sepA [blk b2 (.cells [strv p1.s,.int .i64 p1.at'].toArray 72 (0,0))]) (sepA [blk b2 (.cells [strv r0.2.s,.int .i64 r0.2.at'].toArray 72 (0,0))]) w') (fun w'=>r=none∧Keep (sepA [blk b2 (.cells [strv p1.s,.int .i64 p1.at'].toArray 72 (0,0))]).fp w0 w'):=by
  unfold Zm at hm
  refine fnP (args:=[.pointer (some ⟨b2,0,none⟩)]) (F:=[(0,.pointer (some ⟨b2,0,none⟩))]) Tryd.func53 rfl Tryd.ntmps53 rfl rfl fun a hF=>?_
  have hS:=startM hH hO hD
  refine th<|?_
  refine rg<|?_
  refine ls<|q1 hF rfl (e_asg hF rfl) fun a hF=>?_
  refine re<|?_
  refine tn<|th<|?_
  refine rg<|?_
  refine ls<|q1 hF rfl (e_move hF rfl) fun a hF=>?_
  replace hS:=hS.pickL (.cons .head .nil)
  replace hS:=St.sep [blk b2 (.cells [strv p1.s,.int .i64 p1.at'].toArray 72 (0,0))] hS
  obtain ⟨ro5,h4,hm⟩:=Option.bindP_x hm
  refine ls<|c1p hF rfl Tryd.call52 (Zn_c (St.le hS) (p1:=p1) (b2:=b2) (St.sepOk hS) (St.sepDis hS) h4) ⟨rfl,trivial⟩ (fun _ _ w hE=>?_) (fun v w a hR hF=>?_)
  · obtain ⟨rfl,hk⟩:=hE;obtain rfl:=Option.some.inj hm;exact tpn<|pnB hF ⟨rfl,St.panK hS hk⟩
  obtain ⟨rz3,rfl,hR⟩:=hR
  replace hm:=Option.bindP_s hm
  obtain ⟨rfl,hk⟩:=hR
  replace hS:=(hS.mut hk .head).unsep
  clear hk
  refine ls<|q1 hF rfl (e_asg hF rfl) fun a hF=>?_
  refine re<|?_
  refine tn<|th<|th<|?_
  refine rg<|?_
  refine ls<|q1 hF rfl (e_move hF rfl) fun a hF=>?_
  refine ls<|q1 hF rfl (e_move hF rfl) fun a hF=>?_
  refine ls<|q1 hF rfl (e_nilp hF rfl) fun a hF=>?_
  refine ls<|q1 hF rfl (e_fa hF fa72_0 rfl) fun a hF=>?_
  refine ls<|q1 hF rfl (e_ld hF Tryd.isAgg9 rfl ((St.ld hS).cellB (.head _) rfl)) fun a hF=>?_
  refine ls<|q1 hF rfl (e_lenU (s:=rz3.2.s) hF Tryd.runUnderlying9 rfl) fun a hF=>?_
  refine ls<|q1 hF rfl (e_gtr hF rfl rfl) fun a hF=>?_
  refine re<|?_
  rcases bdich (decide ((rz3.2.s.length:Int) < rz3.1)) with hb6 | hb6
  ·
    replace hm:=itp_t hm hb6
    refine tn<|ctv hF rfl hb6<|?_
    refine rg<|?_
    refine ls<|q1 hF rfl (e_mki hF (mki22 _) rfl) fun a hF=>?_
    refine ls<|pnq hF rfl ?_
    obtain rfl:=Option.some.inj hm
    exact tpn<|pnB hF ⟨rfl,hS.keep⟩
  ·
    replace hm:=itp_f hm hb6
    refine tn<|cfv hF rfl hb6<|wk<|?_
    refine tn<|th<|?_
    refine rg<|?_
    refine ls<|q1 hF rfl (e_move hF rfl) fun a hF=>?_
    refine ls<|q1 hF rfl (e_asg hF rfl) fun a hF=>?_
    refine re<|?_
    refine tn<|?_
    refine wr<|?_
    obtain rfl:=Option.some.inj hm
    exact bpl (r1 hF Tryd.results53 rfl ⟨_,rfl,rfl,(hS.pickL (.cons .head .nil)).endMut⟩)
set_option maxRecDepth 100000 in
theorem Zo_c {N:Nat} {w0:World} {H:PH} (hH:H.le w0) {b2:Nat} {p1:binary_reader} (hO:(sepA [blk b2 (.cells [strv p1.s,.int .i64 p1.at'].toArray 72 (0,0))]).ok (hp w0)) (hD:∀ b,(sepA [blk b2 (.cells [strv p1.s,.int .i64 p1.at'].toArray 72 (0,0))]).fp b→H b=none) {r:(Option ((List Int)×binary_reader))} (hm:Zo N p1=some r):TotP Tryd.prog 51 #[.pointer (some ⟨b2,0,none⟩)] w0 (fun v w'=>∃ (r0:((List Int)×binary_reader)),r=some r0∧∃ (oa0:Option Addr) (cap0:Nat) (vs0:List Value),v=.slice oa0 r0.1.length cap0∧(∀ h,Rows h vs0 r0.1)∧Mut w0 (sepA [blk b2 (.cells [strv p1.s,.int .i64 p1.at'].toArray 72 (0,0))]) (sepA [blk b2 (.cells [strv r0.2.s,.int .i64 r0.2.at'].toArray 72 (0,0)),sla 3 1 oa0 r0.1.length cap0 vs0]) w') (fun w'=>r=none∧Keep (sepA [blk b2 (.cells [strv p1.s,.int .i64 p1.at'].toArray 72 (0,0))]).fp w0 w'):=by
  unfold Zo at hm
  refine fnP (args:=[.pointer (some ⟨b2,0,none⟩)]) (F:=[(0,.pointer (some ⟨b2,0,none⟩))]) Tryd.func51 rfl Tryd.ntmps51 rfl rfl fun a hF=>?_
  have hS:=startM hH hO hD
  refine th<|?_
  refine rg<|?_
  refine ls<|q1 hF rfl (e_asg hF rfl) fun a hF=>?_
  refine re<|?_
  refine tn<|th<|?_
  refine rg<|?_
  refine ls<|q1 hF rfl (e_asg hF rfl) fun a hF=>?_
  refine re<|?_
  refine tn<|th<|th<|?_
  refine rg<|?_
  refine ls<|q1 hF rfl (e_move hF rfl) fun a hF=>?_
  replace hS:=hS.pickL (.cons .head .nil)
  replace hS:=St.sep [blk b2 (.cells [strv p1.s,.int .i64 p1.at'].toArray 72 (0,0))] hS
  obtain ⟨ro5,h4,hm⟩:=Option.bindP_x hm
  refine ls<|c1p hF rfl Tryd.call53 (Zm_c (St.le hS) (p1:=p1) (b2:=b2) (St.sepOk hS) (St.sepDis hS) h4) ⟨rfl,trivial⟩ (fun _ _ w hE=>?_) (fun v w a hR hF=>?_)
  · obtain ⟨rfl,hk⟩:=hE;obtain rfl:=Option.some.inj hm;exact tpn<|tpn<|pnB hF ⟨rfl,St.panK hS hk⟩
  obtain ⟨rz3,rfl,hR⟩:=hR
  replace hm:=Option.bindP_s hm
  obtain ⟨rfl,hk⟩:=hR
  replace hS:=(hS.mut hk .head).unsep
  clear hk
  refine ls<|q1 hF rfl (e_move hF rfl) fun a hF=>?_
  refine re<|?_
  refine tn<|midK (fun a w=>∃ (vA1:binary_reader) (vA2:(List Int)) (oaA3:Option Addr) (capA4:Nat) (vsA5:List Value),Zp vA1 vA2=some r∧Fr 15 [(0,.pointer (some ⟨b2,0,none⟩)),(3,.slice oaA3 vA2.length capA4)] a∧St w0 (sepA [blk b2 (.cells [strv p1.s,.int .i64 p1.at'].toArray 72 (0,0))]).fp [H] [blk b2 (.cells [strv vA1.s,.int .i64 vA1.at'].toArray 72 (0,0)),sla 3 1 oaA3 vA2.length capA4 vsA5] w∧Rows H vsA5 vA2) ?_ ?_
  ·
    replace hS:=St.nilS hS 3 1
    replace hS:=hS.pickL (.cons (.tail .head) (.cons .head .nil))
    refine wb<|lp (α:=Nat×binary_reader×(List Int)×Int) (fun (gh:Nat×binary_reader×(List Int)×Int) a w=>match gh with | (nn2,vB1,vB2,vB8)=>∃ (oaB3:Option Addr) (capB4:Nat) (vsB5:List Value),(Zq N Zp rz3) nn2 vB1 vB2 vB8=some r∧Fr 15 [(0,.pointer (some ⟨b2,0,none⟩)),(3,.slice oaB3 vB2.length capB4),(5,.int .i64 rz3.1),(6,.int .i64 vB8)] a∧St w0 (sepA [blk b2 (.cells [strv p1.s,.int .i64 p1.at'].toArray 72 (0,0))]).fp [H] [blk b2 (.cells [strv vB1.s,.int .i64 vB1.at'].toArray 72 (0,0)),sla 3 1 oaB3 vB2.length capB4 vsB5] w∧Rows H vsB5 vB2) (fun gh=>gh.1) (N,rz3.2,[],0) ⟨none,0,[],hm,hF.has ⟨rfl,rfl,rfl,rfl,trivial⟩,hS,.nil⟩ ?_
    clear hm hF hS
    rintro ⟨nn2,vB1,vB2,vB8⟩ a w ⟨oaB3,capB4,vsB5,hm,hF,hS,hvB6⟩
    obtain _ | nn2:=nn2
    · simp [Zq] at hm
    rw [Zq] at hm
    refine th<|?_
    refine rg<|?_
    refine ls<|q1 hF rfl (e_lss hF rfl rfl) fun a hF=>?_
    refine re<|?_
    rcases bdich (decide (vB8 < rz3.1)) with hb6 | hb6
    ·
      replace hm:=itp_t hm hb6
      refine tn<|th<|ctv hF rfl hb6<|wk<|?_
      refine tn<|th<|wb<|?_
      refine rg<|?_
      refine ls<|q1 hF rfl (e_move hF rfl) fun a hF=>?_
      refine ls<|q1 hF rfl (e_move hF rfl) fun a hF=>?_
      replace hS:=hS.pickL (.cons .head (.cons .head .nil))
      replace hS:=St.sep [blk b2 (.cells [strv vB1.s,.int .i64 vB1.at'].toArray 72 (0,0))] hS
      obtain ⟨ro9,h8,hm⟩:=Option.bindP_x hm
      refine ls<|c1p hF rfl Tryd.call52 (Zn_c (St.le hS) (p1:=vB1) (b2:=b2) (St.sepOk hS) (St.sepDis hS) h8) ⟨rfl,trivial⟩ (fun _ _ w hE=>?_) (fun v w a hR hF=>?_)
      · obtain ⟨rfl,hk⟩:=hE;obtain rfl:=Option.some.inj hm;exact bpn<|tpn<|tpn<|bpn<|tpn<|pnB hF ⟨rfl,St.panK hS hk⟩
      obtain ⟨rz7,rfl,hR⟩:=hR
      replace hm:=Option.bindP_s hm
      replace hm:=bind_some hm
      obtain ⟨l13,h14,hm⟩:=hm
      obtain ⟨rfl,hk⟩:=hR
      replace hS:=(hS.mut hk .head).unsep
      clear hk
      refine ls<|a_bsl (e:=3) (sz:=1) [.int .i64 rz7.1] hF rfl hS rfl rfl rfl (fun w=>by kernel_rfl) fun b11 w a hS hF=>?_
      have hv10:Rows (α:=Int) H [.int .i64 rz7.1] ([rz7.1]:List Int):=(.cons (c:=[.int .i64 rz7.1]) rfl .nil)
      refine ls<|m_app (α:=Int) (xs:=vB2) (ys:=([rz7.1]:List Int)) hF rfl hS Tryd.underlying28 info3 rfl (by decide) rfl rfl rfl (.tail _ (.tail _ (.head _))) hvB6 (hS.rdO (.head _)) hv10 h14 fun oa15 cap16 vs17 w a hv18 hU hF=>?_
      replace hS:=hU _ (.tail (.tail .head))
      clear hU
      replace hS:=hS.drop .head
      refine ls<|q1 hF rfl (e_asg hF rfl) fun a hF=>?_
      refine re<|?_
      refine bn<|tn<|?_
      refine rg<|?_
      refine ls<|q1 hF rfl (e_add hF rfl rfl) fun a hF=>?_
      refine ls<|q1 hF rfl (e_move hF rfl) fun a hF=>?_
      refine re<|?_
      refine tn<|?_
      exact ⟨(nn2,rz7.2,l13,(IntKind.i64.wrap (vB8+1))),⟨oa15,cap16,vs17,hm,hF.has ⟨rfl,rfl,rfl,rfl,trivial⟩,hS,hv18⟩,Nat.lt_succ_self _⟩
    ·
      replace hm:=itp_f hm hb6
      refine tn<|th<|cfv hF rfl hb6<|?_
      refine we<|tx<|tx<|bx<|?_
      refine tn<|?_
      exact ⟨vB1,vB2,oaB3,capB4,vsB5,hm,hF.has ⟨rfl,rfl,trivial⟩,hS,hvB6⟩
  clear hm hF hS
  rintro a w ⟨vA1,vA2,oaA3,capA4,vsA5,hm,hF,hS,hvA6⟩
  unfold Zp at hm
  refine th<|?_
  refine rg<|?_
  refine ls<|q1 hF rfl (e_move hF rfl) fun a hF=>?_
  refine ls<|q1 hF rfl (e_asg hF rfl) fun a hF=>?_
  refine re<|?_
  refine tn<|?_
  refine wr<|?_
  obtain rfl:=Option.some.inj hm
  exact bpl (r1 hF Tryd.results51 rfl ⟨_,rfl,_,_,_,rfl,(fun _=>Rows.ind hvA6),(hS.pickL (.cons .head (.cons .head .nil))).endMut⟩)
set_option maxRecDepth 100000 in
theorem Zr_c {N:Nat} {w0:World} {H:PH} (hH:H.le w0) {b2:Nat} {p1:binary_reader} (hO:(sepA [blk b2 (.cells [strv p1.s,.int .i64 p1.at'].toArray 72 (0,0))]).ok (hp w0)) (hD:∀ b,(sepA [blk b2 (.cells [strv p1.s,.int .i64 p1.at'].toArray 72 (0,0))]).fp b→H b=none) {r:(Option ((List api_Op)×binary_reader))} (hm:Zr N p1=some r):TotP Tryd.prog 55 #[.pointer (some ⟨b2,0,none⟩)] w0 (fun v w'=>∃ (r0:((List api_Op)×binary_reader)),r=some r0∧∃ (oa0:Option Addr) (cap0:Nat) (vs0:List Value),v=.slice oa0 r0.1.length cap0∧(∀ h,Rows h vs0 r0.1)∧Mut w0 (sepA [blk b2 (.cells [strv p1.s,.int .i64 p1.at'].toArray 72 (0,0))]) (sepA [blk b2 (.cells [strv r0.2.s,.int .i64 r0.2.at'].toArray 72 (0,0)),sla 46 2 oa0 r0.1.length cap0 vs0]) w') (fun w'=>r=none∧Keep (sepA [blk b2 (.cells [strv p1.s,.int .i64 p1.at'].toArray 72 (0,0))]).fp w0 w'):=by
  unfold Zr at hm
  refine fnP (args:=[.pointer (some ⟨b2,0,none⟩)]) (F:=[(0,.pointer (some ⟨b2,0,none⟩))]) Tryd.func55 rfl Tryd.ntmps55 rfl rfl fun a hF=>?_
  have hS:=startM hH hO hD
  refine th<|?_
  refine rg<|?_
  refine ls<|q1 hF rfl (e_asg hF rfl) fun a hF=>?_
  refine re<|?_
  refine tn<|th<|?_
  refine rg<|?_
  refine ls<|q1 hF rfl (e_asg hF rfl) fun a hF=>?_
  refine re<|?_
  refine tn<|th<|th<|?_
  refine rg<|?_
  refine ls<|q1 hF rfl (e_move hF rfl) fun a hF=>?_
  replace hS:=hS.pickL (.cons .head .nil)
  replace hS:=St.sep [blk b2 (.cells [strv p1.s,.int .i64 p1.at'].toArray 72 (0,0))] hS
  obtain ⟨ro5,h4,hm⟩:=Option.bindP_x hm
  refine ls<|c1p hF rfl Tryd.call53 (Zm_c (St.le hS) (p1:=p1) (b2:=b2) (St.sepOk hS) (St.sepDis hS) h4) ⟨rfl,trivial⟩ (fun _ _ w hE=>?_) (fun v w a hR hF=>?_)
  · obtain ⟨rfl,hk⟩:=hE;obtain rfl:=Option.some.inj hm;exact tpn<|tpn<|pnB hF ⟨rfl,St.panK hS hk⟩
  obtain ⟨rz3,rfl,hR⟩:=hR
  replace hm:=Option.bindP_s hm
  obtain ⟨rfl,hk⟩:=hR
  replace hS:=(hS.mut hk .head).unsep
  clear hk
  refine ls<|q1 hF rfl (e_move hF rfl) fun a hF=>?_
  refine re<|?_
  refine tn<|midK (fun a w=>∃ (vA1:binary_reader) (vA2:(List api_Op)) (oaA3:Option Addr) (capA4:Nat) (vsA5:List Value),Zs vA1 vA2=some r∧Fr 21 [(0,.pointer (some ⟨b2,0,none⟩)),(3,.slice oaA3 vA2.length capA4)] a∧St w0 (sepA [blk b2 (.cells [strv p1.s,.int .i64 p1.at'].toArray 72 (0,0))]).fp [H] [blk b2 (.cells [strv vA1.s,.int .i64 vA1.at'].toArray 72 (0,0)),sla 46 2 oaA3 vA2.length capA4 vsA5] w∧Rows H vsA5 vA2) ?_ ?_
  ·
    replace hS:=St.nilS hS 46 2
    replace hS:=hS.pickL (.cons (.tail .head) (.cons .head .nil))
    refine wb<|lp (α:=Nat×binary_reader×(List api_Op)×Int) (fun (gh:Nat×binary_reader×(List api_Op)×Int) a w=>match gh with | (nn2,vB1,vB2,vB8)=>∃ (oaB3:Option Addr) (capB4:Nat) (vsB5:List Value),(Zt N Zs rz3) nn2 vB1 vB2 vB8=some r∧Fr 21 [(0,.pointer (some ⟨b2,0,none⟩)),(3,.slice oaB3 vB2.length capB4),(6,.int .i64 rz3.1),(7,.int .i64 vB8)] a∧St w0 (sepA [blk b2 (.cells [strv p1.s,.int .i64 p1.at'].toArray 72 (0,0))]).fp [H] [blk b2 (.cells [strv vB1.s,.int .i64 vB1.at'].toArray 72 (0,0)),sla 46 2 oaB3 vB2.length capB4 vsB5] w∧Rows H vsB5 vB2) (fun gh=>gh.1) (N,rz3.2,[],0) ⟨none,0,[],hm,hF.has ⟨rfl,rfl,rfl,rfl,trivial⟩,hS,.nil⟩ ?_
    clear hm hF hS
    rintro ⟨nn2,vB1,vB2,vB8⟩ a w ⟨oaB3,capB4,vsB5,hm,hF,hS,hvB6⟩
    obtain _ | nn2:=nn2
    · simp [Zt] at hm
    rw [Zt] at hm
    refine th<|?_
    refine rg<|?_
    refine ls<|q1 hF rfl (e_lss hF rfl rfl) fun a hF=>?_
    refine re<|?_
    rcases bdich (decide (vB8 < rz3.1)) with hb6 | hb6
    ·
      replace hm:=itp_t hm hb6
      refine tn<|th<|ctv hF rfl hb6<|wk<|?_
      refine tn<|th<|wb<|th<|?_
      refine rg<|?_
      refine ls<|a_alloc (cs:=[.int .i64 0,.int .i64 0].toArray) hF rfl hS Tryd.zeroValue46 rfl fun b7 w a hS hF=>?_
      refine re<|?_
      refine tn<|th<|?_
      refine rg<|?_
      refine ls<|q1 hF rfl (e_move hF rfl) fun a hF=>?_
      replace hS:=hS.pickL (.cons (.tail .head) (.cons .head (.cons .head .nil)))
      replace hS:=St.sep [blk b2 (.cells [strv vB1.s,.int .i64 vB1.at'].toArray 72 (0,0))] hS
      obtain ⟨ro10,h9,hm⟩:=Option.bindP_x hm
      refine ls<|c1p hF rfl Tryd.call52 (Zn_c (St.le hS) (p1:=vB1) (b2:=b2) (St.sepOk hS) (St.sepDis hS) h9) ⟨rfl,trivial⟩ (fun _ _ w hE=>?_) (fun v w a hR hF=>?_)
      · obtain ⟨rfl,hk⟩:=hE;obtain rfl:=Option.some.inj hm;exact tpn<|bpn<|tpn<|tpn<|bpn<|tpn<|pnB hF ⟨rfl,St.panK hS hk⟩
      obtain ⟨rz8,rfl,hR⟩:=hR
      replace hm:=Option.bindP_s hm
      obtain ⟨rfl,hk⟩:=hR
      replace hS:=(hS.mut hk .head).unsep
      clear hk
      refine ls<|q1 hF rfl (e_fa hF fa46_0 rfl) fun a hF=>?_
      refine ls<|s_blk hF hS Tryd.sizeOf3 rfl rfl rfl rfl (.tail .head) .zero fun w hS=>?_
      refine re<|?_
      refine tn<|th<|?_
      refine rg<|?_
      refine ls<|q1 hF rfl (e_move hF rfl) fun a hF=>?_
      replace hS:=hS.pickL (.cons .head (.cons .head (.cons .head .nil)))
      replace hS:=St.sep [blk b2 (.cells [strv rz8.2.s,.int .i64 rz8.2.at'].toArray 72 (0,0))] hS
      obtain ⟨ro13,h12,hm⟩:=Option.bindP_x hm
      refine ls<|c1p hF rfl Tryd.call52 (Zn_c (St.le hS) (p1:=rz8.2) (b2:=b2) (St.sepOk hS) (St.sepDis hS) h12) ⟨rfl,trivial⟩ (fun _ _ w hE=>?_) (fun v w a hR hF=>?_)
      · obtain ⟨rfl,hk⟩:=hE;obtain rfl:=Option.some.inj hm;exact tpn<|bpn<|tpn<|tpn<|bpn<|tpn<|pnB hF ⟨rfl,St.panK hS hk⟩
      obtain ⟨r11,rfl,hR⟩:=hR
      replace hm:=Option.bindP_s hm
      obtain ⟨rfl,hk⟩:=hR
      replace hS:=(hS.mut hk .head).unsep
      clear hk
      refine ls<|q1 hF rfl (e_fa hF fa46_1 rfl) fun a hF=>?_
      refine ls<|s_blk hF hS Tryd.sizeOf3 rfl rfl rfl rfl (.tail .head) (.succ .zero) fun w hS=>?_
      refine re<|?_
      refine tn<|?_
      replace hm:=bind_some hm
      obtain ⟨l17,h18,hm⟩:=hm
      refine rg<|?_
      refine ls<|q1 hF rfl (e_move hF rfl) fun a hF=>?_
      refine ls<|q1 hF rfl (e_ldA hF Tryd.isAgg46 Tryd.sizeOf46 rfl rfl ((St.ld hS).cellsB (.tail _ (.head _)))) fun a hF=>?_
      refine ls<|a_bsl (e:=46) (sz:=2) [.int .i64 rz8.1,.int .i64 r11.1] hF rfl hS rfl rfl rfl (fun w=>by kernel_rfl) fun b15 w a hS hF=>?_
      have hv14:Rows (α:=api_Op) H [.int .i64 rz8.1,.int .i64 r11.1] ([(api_Op.mk rz8.1 r11.1)]:List api_Op):=(.cons (c:=[.int .i64 rz8.1,.int .i64 r11.1]) ⟨_,_,rfl,rfl,rfl⟩ .nil)
      refine ls<|m_app (α:=api_Op) (xs:=vB2) (ys:=([(api_Op.mk rz8.1 r11.1)]:List api_Op)) hF rfl hS Tryd.underlying47 info46 rfl (by decide) rfl rfl rfl (.tail _ (.tail _ (.tail _ (.head _)))) hvB6 (hS.rdO (.head _)) hv14 h18 fun oa19 cap20 vs21 w a hv22 hU hF=>?_
      replace hS:=hU _ (.tail (.tail (.tail .head)))
      clear hU
      replace hS:=hS.drop .head
      refine ls<|q1 hF rfl (e_asg hF rfl) fun a hF=>?_
      refine re<|?_
      refine bn<|tn<|?_
      refine rg<|?_
      refine ls<|q1 hF rfl (e_add hF rfl rfl) fun a hF=>?_
      refine ls<|q1 hF rfl (e_move hF rfl) fun a hF=>?_
      refine re<|?_
      refine tn<|?_
      replace hS:=hS.pickL (.cons .head (.cons (.tail .head) .nil))
      exact ⟨(nn2,r11.2,l17,(IntKind.i64.wrap (vB8+1))),⟨oa19,cap20,vs21,hm,hF.has ⟨rfl,rfl,rfl,rfl,trivial⟩,hS,hv22⟩,Nat.lt_succ_self _⟩
    ·
      replace hm:=itp_f hm hb6
      refine tn<|th<|cfv hF rfl hb6<|?_
      refine we<|tx<|tx<|bx<|?_
      refine tn<|?_
      exact ⟨vB1,vB2,oaB3,capB4,vsB5,hm,hF.has ⟨rfl,rfl,trivial⟩,hS,hvB6⟩
  clear hm hF hS
  rintro a w ⟨vA1,vA2,oaA3,capA4,vsA5,hm,hF,hS,hvA6⟩
  unfold Zs at hm
  refine th<|?_
  refine rg<|?_
  refine ls<|q1 hF rfl (e_move hF rfl) fun a hF=>?_
  refine ls<|q1 hF rfl (e_asg hF rfl) fun a hF=>?_
  refine re<|?_
  refine tn<|?_
  refine wr<|?_
  obtain rfl:=Option.some.inj hm
  exact bpl (r1 hF Tryd.results55 rfl ⟨_,rfl,_,_,_,rfl,(fun _=>Rows.ind hvA6),(hS.pickL (.cons .head (.cons .head .nil))).endMut⟩)
set_option maxHeartbeats 4000000 in
set_option maxRecDepth 100000 in
theorem Zh_c {N:Nat} {w0:World} {H:PH} (hH:H.le w0) {b2:Nat} {p1:binary_reader} (hO:(sepA [blk b2 (.cells [strv p1.s,.int .i64 p1.at'].toArray 72 (0,0))]).ok (hp w0)) (hD:∀ b,(sepA [blk b2 (.cells [strv p1.s,.int .i64 p1.at'].toArray 72 (0,0))]).fp b→H b=none) {r:(Option (api_Code×binary_reader))} (hm:Zh N p1=some r):TotP Tryd.prog 54 #[.pointer (some ⟨b2,0,none⟩)] w0 (fun v w'=>∃ (r0:(api_Code×binary_reader)),r=some r0∧∃ (H':PH) (cs0:List Value),v=.agg cs0.toArray∧Enc.rep H' cs0 r0.1∧ExtM w0 (sepA [blk b2 (.cells [strv p1.s,.int .i64 p1.at'].toArray 72 (0,0))]).fp H H'∧H'.le w'∧(∀ b,(sepA [blk b2 (.cells [strv r0.2.s,.int .i64 r0.2.at'].toArray 72 (0,0))]).fp b→H' b=none)∧Mut w0 (sepA [blk b2 (.cells [strv p1.s,.int .i64 p1.at'].toArray 72 (0,0))]) (sepA [blk b2 (.cells [strv r0.2.s,.int .i64 r0.2.at'].toArray 72 (0,0))]) w') (fun w'=>r=none∧Keep (sepA [blk b2 (.cells [strv p1.s,.int .i64 p1.at'].toArray 72 (0,0))]).fp w0 w'):=by
  unfold Zh at hm
  refine fnP (args:=[.pointer (some ⟨b2,0,none⟩)]) (F:=[(0,.pointer (some ⟨b2,0,none⟩))]) Tryd.func54 rfl Tryd.ntmps54 rfl rfl fun a hF=>?_
  have hS:=startM hH hO hD
  refine th<|?_
  refine rg<|?_
  refine ls<|a_alloc (cs:=[.int .i64 0,.int .i64 0,.slice none 0 0].toArray) hF rfl hS Tryd.zeroValue32 rfl fun b3 w a hS hF=>?_
  refine re<|?_
  refine tn<|th<|?_
  refine rg<|?_
  refine ls<|a_alloc (cs:=[.int .i64 0,.int .i64 0,.slice none 0 0].toArray) hF rfl hS Tryd.zeroValue32 rfl fun b4 w a hS hF=>?_
  refine re<|?_
  refine tn<|th<|?_
  refine rg<|?_
  refine ls<|q1 hF rfl (e_move hF rfl) fun a hF=>?_
  replace hS:=hS.pickL (.cons (.tail (.tail .head)) (.cons .head (.cons .head .nil)))
  replace hS:=St.sep [blk b2 (.cells [strv p1.s,.int .i64 p1.at'].toArray 72 (0,0))] hS
  obtain ⟨ro7,h6,hm⟩:=Option.bindP_x hm
  refine ls<|c1p hF rfl Tryd.call52 (Zn_c (St.le hS) (p1:=p1) (b2:=b2) (St.sepOk hS) (St.sepDis hS) h6) ⟨rfl,trivial⟩ (fun _ _ w hE=>?_) (fun v w a hR hF=>?_)
  · obtain ⟨rfl,hk⟩:=hE;obtain rfl:=Option.some.inj hm;exact tpn<|pnB hF ⟨rfl,St.panK hS hk⟩
  obtain ⟨rz5,rfl,hR⟩:=hR
  replace hm:=Option.bindP_s hm
  obtain ⟨rfl,hk⟩:=hR
  replace hS:=(hS.mut hk .head).unsep
  clear hk
  refine ls<|q1 hF rfl (e_fa hF fa32_0 rfl) fun a hF=>?_
  refine ls<|s_blk hF hS Tryd.sizeOf3 rfl rfl rfl rfl (.tail .head) .zero fun w hS=>?_
  refine re<|?_
  refine tn<|th<|?_
  refine rg<|?_
  refine ls<|q1 hF rfl (e_move hF rfl) fun a hF=>?_
  replace hS:=hS.pickL (.cons .head (.cons .head (.cons .head .nil)))
  replace hS:=St.sep [blk b2 (.cells [strv rz5.2.s,.int .i64 rz5.2.at'].toArray 72 (0,0))] hS
  obtain ⟨ro10,h9,hm⟩:=Option.bindP_x hm
  refine ls<|c1p hF rfl Tryd.call52 (Zn_c (St.le hS) (p1:=rz5.2) (b2:=b2) (St.sepOk hS) (St.sepDis hS) h9) ⟨rfl,trivial⟩ (fun _ _ w hE=>?_) (fun v w a hR hF=>?_)
  · obtain ⟨rfl,hk⟩:=hE;obtain rfl:=Option.some.inj hm;exact tpn<|pnB hF ⟨rfl,St.panK hS hk⟩
  obtain ⟨rz8,rfl,hR⟩:=hR
  replace hm:=Option.bindP_s hm
  obtain ⟨rfl,hk⟩:=hR
  replace hS:=(hS.mut hk .head).unsep
  clear hk
  refine ls<|q1 hF rfl (e_fa hF fa32_1 rfl) fun a hF=>?_
  refine ls<|s_blk hF hS Tryd.sizeOf3 rfl rfl rfl rfl (.tail .head) (.succ .zero) fun w hS=>?_
  refine re<|?_
  refine tn<|th<|th<|?_
  refine rg<|?_
  refine ls<|q1 hF rfl (e_move hF rfl) fun a hF=>?_
  replace hS:=hS.pickL (.cons .head (.cons .head (.cons .head .nil)))
  replace hS:=St.sep [blk b2 (.cells [strv rz8.2.s,.int .i64 rz8.2.at'].toArray 72 (0,0))] hS
  obtain ⟨ro13,h12,hm⟩:=Option.bindP_x hm
  refine ls<|c1p hF rfl Tryd.call53 (Zm_c (St.le hS) (p1:=rz8.2) (b2:=b2) (St.sepOk hS) (St.sepDis hS) h12) ⟨rfl,trivial⟩ (fun _ _ w hE=>?_) (fun v w a hR hF=>?_)
  · obtain ⟨rfl,hk⟩:=hE;obtain rfl:=Option.some.inj hm;exact tpn<|tpn<|pnB hF ⟨rfl,St.panK hS hk⟩
  obtain ⟨r11,rfl,hR⟩:=hR
  replace hm:=Option.bindP_s hm
  obtain ⟨rfl,hk⟩:=hR
  replace hS:=(hS.mut hk .head).unsep
  clear hk
  refine ls<|q1 hF rfl (e_move hF rfl) fun a hF=>?_
  refine re<|?_
  refine tn<|midK (fun a w=>∃ (vA2:binary_reader) (vA3:(List api_Instr)) (HA1:PH) (oaA4:Option Addr) (capA5:Nat) (vsA6:List Value),(Zi rz5 rz8) vA2 vA3=some r∧ExtM w0 (sepA [blk b2 (.cells [strv p1.s,.int .i64 p1.at'].toArray 72 (0,0))]).fp H HA1∧Fr 46 [(0,.pointer (some ⟨b2,0,none⟩)),(2,.pointer (some ⟨b3,0,none⟩)),(3,.pointer (some ⟨b4,0,none⟩))] a∧St w0 (sepA [blk b2 (.cells [strv p1.s,.int .i64 p1.at'].toArray 72 (0,0))]).fp [HA1] [blk b2 (.cells [strv vA2.s,.int .i64 vA2.at'].toArray 72 (0,0)),blk b3 (.cells [.int .i64 0,.int .i64 0,.slice none 0 0].toArray 32 (0,0)),sla 49 6 oaA4 vA3.length capA5 vsA6,blk b4 (.cells [.int .i64 rz5.1,.int .i64 rz8.1,.slice oaA4 vA3.length capA5].toArray 32 (0,0))] w∧Rows HA1 vsA6 vA3) ?_ ?_
  ·
    replace hS:=St.nilS hS 49 6
    replace hS:=hS.pickL (.cons (.tail .head) (.cons (.tail (.tail .head)) (.cons .head (.cons .head .nil))))
    refine wb<|lp (α:=Nat×binary_reader×(List api_Instr)×Int) (fun (gh:Nat×binary_reader×(List api_Instr)×Int) a w=>match gh with | (nn2,vB2,vB3,vB9)=>∃ (HB1:PH) (oaB4:Option Addr) (capB5:Nat) (vsB6:List Value),(Zl N (Zi rz5 rz8) r11) nn2 vB2 vB3 vB9=some r∧ExtM w0 (sepA [blk b2 (.cells [strv p1.s,.int .i64 p1.at'].toArray 72 (0,0))]).fp H HB1∧Fr 46 [(0,.pointer (some ⟨b2,0,none⟩)),(2,.pointer (some ⟨b3,0,none⟩)),(3,.pointer (some ⟨b4,0,none⟩)),(14,.int .i64 r11.1),(15,.int .i64 vB9)] a∧St w0 (sepA [blk b2 (.cells [strv p1.s,.int .i64 p1.at'].toArray 72 (0,0))]).fp [HB1] [blk b2 (.cells [strv vB2.s,.int .i64 vB2.at'].toArray 72 (0,0)),blk b3 (.cells [.int .i64 0,.int .i64 0,.slice none 0 0].toArray 32 (0,0)),sla 49 6 oaB4 vB3.length capB5 vsB6,blk b4 (.cells [.int .i64 rz5.1,.int .i64 rz8.1,.slice oaB4 vB3.length capB5].toArray 32 (0,0))] w∧Rows HB1 vsB6 vB3) (fun gh=>gh.1) (N,r11.2,[],0) ⟨H,none,0,[],hm,(ExtM.refl _ _ _),hF.has ⟨rfl,rfl,rfl,rfl,rfl,trivial⟩,hS,.nil⟩ ?_
    clear hm hF hS
    rintro ⟨nn2,vB2,vB3,vB9⟩ a w ⟨HB1,oaB4,capB5,vsB6,hm,hxHB1,hF,hS,hvB7⟩
    obtain _ | nn2:=nn2
    · simp [Zl] at hm
    rw [Zl] at hm
    refine th<|?_
    refine rg<|?_
    refine ls<|q1 hF rfl (e_lss hF rfl rfl) fun a hF=>?_
    refine re<|?_
    rcases bdich (decide (vB9 < r11.1)) with hb14 | hb14
    ·
      replace hm:=itp_t hm hb14
      refine tn<|th<|ctv hF rfl hb14<|wk<|?_
      refine tn<|th<|midK (fun a w=>∃ (vC2:binary_reader) (vC3:(List api_Instr)) (HC1:PH) (oaC4:Option Addr) (capC5:Nat) (vsC6:List Value),(Zj (Zl N (Zi rz5 rz8) r11 nn2) vB9) vC2 vC3=some r∧ExtM w0 (sepA [blk b2 (.cells [strv p1.s,.int .i64 p1.at'].toArray 72 (0,0))]).fp HB1 HC1∧Fr 46 [(0,.pointer (some ⟨b2,0,none⟩)),(2,.pointer (some ⟨b3,0,none⟩)),(3,.pointer (some ⟨b4,0,none⟩)),(14,.int .i64 r11.1),(15,.int .i64 vB9)] a∧St w0 (sepA [blk b2 (.cells [strv p1.s,.int .i64 p1.at'].toArray 72 (0,0))]).fp [HC1] [blk b2 (.cells [strv vC2.s,.int .i64 vC2.at'].toArray 72 (0,0)),blk b3 (.cells [.int .i64 0,.int .i64 0,.slice none 0 0].toArray 32 (0,0)),sla 49 6 oaC4 vC3.length capC5 vsC6,blk b4 (.cells [.int .i64 rz5.1,.int .i64 rz8.1,.slice oaC4 vC3.length capC5].toArray 32 (0,0))] w∧Rows HC1 vsC6 vC3) ?_ ?_
      ·
        refine wb<|th<|?_
        refine rg<|?_
        refine ls<|a_alloc (cs:=[.int .i64 0,.int .i64 0,.int .i64 0,.slice none 0 0,.slice none 0 0,.int .i64 0].toArray) hF rfl hS Tryd.zeroValue49 rfl fun b15 w a hS hF=>?_
        refine re<|?_
        refine tn<|th<|th<|?_
        refine rg<|?_
        refine ls<|q1 hF rfl (e_fa hF fa49_0 rfl) fun a hF=>?_
        refine ls<|q1 hF rfl (e_fa hF fa49_1 rfl) fun a hF=>?_
        refine ls<|q1 hF rfl (e_fa hF fa49_2 rfl) fun a hF=>?_
        refine ls<|q1 hF rfl (e_fa hF fa49_5 rfl) fun a hF=>?_
        refine ls<|a_bsl (e:=113) (sz:=1) [.pointer (some ⟨b15,0,none⟩),.pointer (some ⟨b15,1,none⟩),.pointer (some ⟨b15,2,none⟩),.pointer (some ⟨b15,5,none⟩)] hF rfl hS rfl rfl rfl (fun w=>by kernel_rfl) fun b16 w a hS hF=>?_
        refine ls<|q1 hF rfl (e_lenS hF Tryd.runUnderlying114 rfl) fun a hF=>?_
        refine ls<|q1 hF rfl (e_move hF rfl) fun a hF=>?_
        refine re<|?_
        refine tn<|midK (fun a w=>∃ (vD1:binary_reader) (vD2:Int) (vD3:Int) (vD4:Int) (vD5:Int),(Zk N (Zj (Zl N (Zi rz5 rz8) r11 nn2) vB9) vB3) vD1 vD2 vD3 vD4 vD5=some r∧Fr 46 [(0,.pointer (some ⟨b2,0,none⟩)),(2,.pointer (some ⟨b3,0,none⟩)),(3,.pointer (some ⟨b4,0,none⟩)),(4,.pointer (some ⟨b15,0,none⟩)),(14,.int .i64 r11.1),(15,.int .i64 vB9)] a∧St w0 (sepA [blk b2 (.cells [strv p1.s,.int .i64 p1.at'].toArray 72 (0,0))]).fp [HB1] [blk b2 (.cells [strv vD1.s,.int .i64 vD1.at'].toArray 72 (0,0)),blk b3 (.cells [.int .i64 0,.int .i64 0,.slice none 0 0].toArray 32 (0,0)),sla 49 6 oaB4 vB3.length capB5 vsB6,blk b4 (.cells [.int .i64 rz5.1,.int .i64 rz8.1,.slice oaB4 vB3.length capB5].toArray 32 (0,0)),blk b15 (.cells [.int .i64 vD2,.int .i64 vD3,.int .i64 vD4,.slice none 0 0,.slice none 0 0,.int .i64 vD5].toArray 49 (0,0))] w) ?_ ?_
        ·
          refine wb<|wl0<|wl1<|th<|?_
          refine rg<|?_
          refine ls<|q1 hF rfl ((e_as (e_lss hF rfl rfl) (by rfl))) fun a hF=>?_
          refine re<|?_
          refine tn<|th<|ct hF rfl<|wk<|?_
          refine tn<|th<|wb<|th<|?_
          refine rg<|?_
          refine ls<|q1 hF rfl (e_ia (oa:=some ⟨b16,0,none⟩) (i:=0) hF Tryd.runUnderlying114 Tryd.sizeOf113 rfl rfl rfl (by decide) rfl) fun a hF=>?_
          refine ls<|q1 hF rfl (e_ld hF Tryd.isAgg113 rfl (Lds.elO (oa:=some ⟨b16,0,none⟩) (j:=0) (St.ld hS) (.head _) rfl)) fun a hF=>?_
          refine ls<|q1 hF rfl (e_asg hF rfl) fun a hF=>?_
          refine re<|?_
          refine tn<|?_
          refine rg<|?_
          refine ls<|q1 hF rfl (e_move hF rfl) fun a hF=>?_
          refine ls<|q1 hF rfl (e_move hF rfl) fun a hF=>?_
          replace hS:=hS.pickL (.cons (.tail (.tail .head)) (.cons .head (.cons .head (.cons .head (.cons .head (.cons .head .nil))))))
          replace hS:=St.sep [blk b2 (.cells [strv vB2.s,.int .i64 vB2.at'].toArray 72 (0,0))] hS
          obtain ⟨ro20,h19,hm⟩:=Option.bindP_x hm
          refine ls<|c1p hF rfl Tryd.call52 (Zn_c (St.le hS) (p1:=vB2) (b2:=b2) (St.sepOk hS) (St.sepDis hS) h19) ⟨rfl,trivial⟩ (fun _ _ w hE=>?_) (fun v w a hR hF=>?_)
          · obtain ⟨rfl,hk⟩:=hE;obtain rfl:=Option.some.inj hm;exact bpn<|tpn<|tpn<|bpn<|tpn<|bpn<|tpn<|tpn<|bpn<|tpn<|pnB hF ⟨rfl,St.panK hS hk⟩
          obtain ⟨r18,rfl,hR⟩:=hR
          replace hm:=Option.bindP_s hm
          obtain ⟨rfl,hk⟩:=hR
          replace hS:=(hS.mut hk .head).unsep
          clear hk
          refine ls<|q1 hF rfl (e_nilp hF rfl) fun a hF=>?_
          refine ls<|s_blk hF hS Tryd.sizeOf3 rfl rfl rfl rfl (.tail (.tail .head)) .zero fun w hS=>?_
          refine re<|?_
          refine bn<|tn<|?_
          refine rg<|?_
          refine ls<|q1 hF rfl ((e_as (e_add hF rfl rfl) (congrArg (Value.int .i64) (show IntKind.i64.wrap (0+1)=1 by decide)))) fun a hF=>?_
          refine ls<|q1 hF rfl (e_move hF rfl) fun a hF=>?_
          refine re<|?_
          refine tn<|wl1<|th<|?_
          refine rg<|?_
          refine ls<|q1 hF rfl ((e_as (e_lss hF rfl rfl) (by rfl))) fun a hF=>?_
          refine re<|?_
          refine tn<|th<|ct hF rfl<|wk<|?_
          refine tn<|th<|wb<|th<|?_
          refine rg<|?_
          refine ls<|q1 hF rfl (e_ia (oa:=some ⟨b16,0,none⟩) (i:=1) hF Tryd.runUnderlying114 Tryd.sizeOf113 rfl rfl rfl (by decide) rfl) fun a hF=>?_
          refine ls<|q1 hF rfl (e_ld hF Tryd.isAgg113 rfl (Lds.elO (oa:=some ⟨b16,0,none⟩) (j:=1) (St.ld hS) (.tail _ (.head _)) rfl)) fun a hF=>?_
          refine ls<|q1 hF rfl (e_asg hF rfl) fun a hF=>?_
          refine re<|?_
          refine tn<|?_
          refine rg<|?_
          refine ls<|q1 hF rfl (e_move hF rfl) fun a hF=>?_
          refine ls<|q1 hF rfl (e_move hF rfl) fun a hF=>?_
          replace hS:=hS.pickL (.cons .head (.cons .head (.cons .head (.cons .head (.cons .head (.cons .head .nil))))))
          replace hS:=St.sep [blk b2 (.cells [strv r18.2.s,.int .i64 r18.2.at'].toArray 72 (0,0))] hS
          obtain ⟨ro23,h22,hm⟩:=Option.bindP_x hm
          refine ls<|c1p hF rfl Tryd.call52 (Zn_c (St.le hS) (p1:=r18.2) (b2:=b2) (St.sepOk hS) (St.sepDis hS) h22) ⟨rfl,trivial⟩ (fun _ _ w hE=>?_) (fun v w a hR hF=>?_)
          · obtain ⟨rfl,hk⟩:=hE;obtain rfl:=Option.some.inj hm;exact bpn<|tpn<|tpn<|bpn<|tpn<|bpn<|tpn<|tpn<|bpn<|tpn<|pnB hF ⟨rfl,St.panK hS hk⟩
          obtain ⟨r21,rfl,hR⟩:=hR
          replace hm:=Option.bindP_s hm
          obtain ⟨rfl,hk⟩:=hR
          replace hS:=(hS.mut hk .head).unsep
          clear hk
          refine ls<|q1 hF rfl (e_nilp hF rfl) fun a hF=>?_
          refine ls<|s_blk hF hS Tryd.sizeOf3 rfl rfl rfl rfl (.tail (.tail .head)) (.succ .zero) fun w hS=>?_
          refine re<|?_
          refine bn<|tn<|?_
          refine rg<|?_
          refine ls<|q1 hF rfl ((e_as (e_add hF rfl rfl) (congrArg (Value.int .i64) (show IntKind.i64.wrap (1+1)=2 by decide)))) fun a hF=>?_
          refine ls<|q1 hF rfl (e_move hF rfl) fun a hF=>?_
          refine re<|?_
          refine tn<|wl1<|th<|?_
          refine rg<|?_
          refine ls<|q1 hF rfl ((e_as (e_lss hF rfl rfl) (by rfl))) fun a hF=>?_
          refine re<|?_
          refine tn<|th<|ct hF rfl<|wk<|?_
          refine tn<|th<|wb<|th<|?_
          refine rg<|?_
          refine ls<|q1 hF rfl (e_ia (oa:=some ⟨b16,0,none⟩) (i:=2) hF Tryd.runUnderlying114 Tryd.sizeOf113 rfl rfl rfl (by decide) rfl) fun a hF=>?_
          refine ls<|q1 hF rfl (e_ld hF Tryd.isAgg113 rfl (Lds.elO (oa:=some ⟨b16,0,none⟩) (j:=2) (St.ld hS) (.tail _ (.head _)) rfl)) fun a hF=>?_
          refine ls<|q1 hF rfl (e_asg hF rfl) fun a hF=>?_
          refine re<|?_
          refine tn<|?_
          refine rg<|?_
          refine ls<|q1 hF rfl (e_move hF rfl) fun a hF=>?_
          refine ls<|q1 hF rfl (e_move hF rfl) fun a hF=>?_
          replace hS:=hS.pickL (.cons .head (.cons .head (.cons .head (.cons .head (.cons .head (.cons .head .nil))))))
          replace hS:=St.sep [blk b2 (.cells [strv r21.2.s,.int .i64 r21.2.at'].toArray 72 (0,0))] hS
          obtain ⟨ro26,h25,hm⟩:=Option.bindP_x hm
          refine ls<|c1p hF rfl Tryd.call52 (Zn_c (St.le hS) (p1:=r21.2) (b2:=b2) (St.sepOk hS) (St.sepDis hS) h25) ⟨rfl,trivial⟩ (fun _ _ w hE=>?_) (fun v w a hR hF=>?_)
          · obtain ⟨rfl,hk⟩:=hE;obtain rfl:=Option.some.inj hm;exact bpn<|tpn<|tpn<|bpn<|tpn<|bpn<|tpn<|tpn<|bpn<|tpn<|pnB hF ⟨rfl,St.panK hS hk⟩
          obtain ⟨r24,rfl,hR⟩:=hR
          replace hm:=Option.bindP_s hm
          obtain ⟨rfl,hk⟩:=hR
          replace hS:=(hS.mut hk .head).unsep
          clear hk
          refine ls<|q1 hF rfl (e_nilp hF rfl) fun a hF=>?_
          refine ls<|s_blk hF hS Tryd.sizeOf3 rfl rfl rfl rfl (.tail (.tail .head)) (.succ (.succ .zero)) fun w hS=>?_
          refine re<|?_
          refine bn<|tn<|?_
          refine rg<|?_
          refine ls<|q1 hF rfl ((e_as (e_add hF rfl rfl) (congrArg (Value.int .i64) (show IntKind.i64.wrap (2+1)=3 by decide)))) fun a hF=>?_
          refine ls<|q1 hF rfl (e_move hF rfl) fun a hF=>?_
          refine re<|?_
          refine tn<|wl1<|th<|?_
          refine rg<|?_
          refine ls<|q1 hF rfl ((e_as (e_lss hF rfl rfl) (by rfl))) fun a hF=>?_
          refine re<|?_
          refine tn<|th<|ct hF rfl<|wk<|?_
          refine tn<|th<|wb<|th<|?_
          refine rg<|?_
          refine ls<|q1 hF rfl (e_ia (oa:=some ⟨b16,0,none⟩) (i:=3) hF Tryd.runUnderlying114 Tryd.sizeOf113 rfl rfl rfl (by decide) rfl) fun a hF=>?_
          refine ls<|q1 hF rfl (e_ld hF Tryd.isAgg113 rfl (Lds.elO (oa:=some ⟨b16,0,none⟩) (j:=3) (St.ld hS) (.tail _ (.head _)) rfl)) fun a hF=>?_
          refine ls<|q1 hF rfl (e_asg hF rfl) fun a hF=>?_
          refine re<|?_
          refine tn<|?_
          refine rg<|?_
          refine ls<|q1 hF rfl (e_move hF rfl) fun a hF=>?_
          refine ls<|q1 hF rfl (e_move hF rfl) fun a hF=>?_
          replace hS:=hS.pickL (.cons .head (.cons .head (.cons .head (.cons .head (.cons .head (.cons .head .nil))))))
          replace hS:=St.sep [blk b2 (.cells [strv r24.2.s,.int .i64 r24.2.at'].toArray 72 (0,0))] hS
          obtain ⟨ro29,h28,hm⟩:=Option.bindP_x hm
          refine ls<|c1p hF rfl Tryd.call52 (Zn_c (St.le hS) (p1:=r24.2) (b2:=b2) (St.sepOk hS) (St.sepDis hS) h28) ⟨rfl,trivial⟩ (fun _ _ w hE=>?_) (fun v w a hR hF=>?_)
          · obtain ⟨rfl,hk⟩:=hE;obtain rfl:=Option.some.inj hm;exact bpn<|tpn<|tpn<|bpn<|tpn<|bpn<|tpn<|tpn<|bpn<|tpn<|pnB hF ⟨rfl,St.panK hS hk⟩
          obtain ⟨r27,rfl,hR⟩:=hR
          replace hm:=Option.bindP_s hm
          obtain ⟨rfl,hk⟩:=hR
          replace hS:=(hS.mut hk .head).unsep
          clear hk
          refine ls<|q1 hF rfl (e_nilp hF rfl) fun a hF=>?_
          refine ls<|s_blk hF hS Tryd.sizeOf3 rfl rfl rfl rfl (.tail (.tail .head)) (.succ (.succ (.succ (.succ (.succ .zero))))) fun w hS=>?_
          refine re<|?_
          refine bn<|tn<|?_
          refine rg<|?_
          refine ls<|q1 hF rfl ((e_as (e_add hF rfl rfl) (congrArg (Value.int .i64) (show IntKind.i64.wrap (3+1)=4 by decide)))) fun a hF=>?_
          refine ls<|q1 hF rfl (e_move hF rfl) fun a hF=>?_
          refine re<|?_
          refine tn<|wl1<|th<|?_
          refine rg<|?_
          refine ls<|q1 hF rfl ((e_as (e_lss hF rfl rfl) (by rfl))) fun a hF=>?_
          refine re<|?_
          refine tn<|th<|cf hF rfl<|?_
          refine we<|tx<|tx<|bx<|?_
          refine tn<|?_
          replace hS:=hS.pickL (.cons .head (.cons (.tail (.tail .head)) (.cons (.tail (.tail .head)) (.cons (.tail (.tail .head)) (.cons (.tail .head) .nil)))))
          exact ⟨r27.2,r18.1,r21.1,r24.1,r27.1,hm,hF.has ⟨rfl,rfl,rfl,rfl,rfl,rfl,trivial⟩,hS⟩
        clear hm hF hS
        rintro a w ⟨vD1,vD2,vD3,vD4,vD5,hm,hF,hS⟩
        unfold Zk at hm
        refine th<|?_
        refine rg<|?_
        refine ls<|q1 hF rfl (e_move hF rfl) fun a hF=>?_
        replace hS:=hS.pickL (.cons .head (.cons .head (.cons .head (.cons .head (.cons .head .nil)))))
        replace hS:=St.sep [blk b2 (.cells [strv vD1.s,.int .i64 vD1.at'].toArray 72 (0,0))] hS
        obtain ⟨ro32,h31,hm⟩:=Option.bindP_x hm
        refine ls<|c1p hF rfl Tryd.call55 (Zr_c (St.le hS) (p1:=vD1) (b2:=b2) (St.sepOk hS) (St.sepDis hS) h31) ⟨rfl,trivial⟩ (fun _ _ w hE=>?_) (fun v w a hR hF=>?_)
        · obtain ⟨rfl,hk⟩:=hE;obtain rfl:=Option.some.inj hm;exact tpn<|bpn<|tpn<|tpn<|bpn<|tpn<|pnB hF ⟨rfl,St.panK hS hk⟩
        obtain ⟨r30,rfl,hR⟩:=hR
        replace hm:=Option.bindP_s hm
        obtain ⟨oa33,cap34,vs35,rfl,hv36,hk⟩:=hR
        replace hS:=(hS.mut hk .head).unsep
        clear hk
        replace hv36:=hv36 HB1
        refine ls<|q1 hF rfl (e_fa hF fa49_3 rfl) fun a hF=>?_
        refine ls<|s_blk hF hS Tryd.sizeOf47 rfl rfl rfl rfl (.tail (.tail (.tail (.tail (.tail .head))))) (.succ (.succ (.succ .zero))) fun w hS=>?_
        refine re<|?_
        refine tn<|th<|?_
        refine rg<|?_
        refine ls<|q1 hF rfl (e_move hF rfl) fun a hF=>?_
        replace hS:=hS.pickL (.cons .head (.cons .head (.cons .head (.cons .head (.cons .head (.cons .head .nil))))))
        replace hS:=St.sep [blk b2 (.cells [strv r30.2.s,.int .i64 r30.2.at'].toArray 72 (0,0))] hS
        obtain ⟨ro40,h39,hm⟩:=Option.bindP_x hm
        refine ls<|c1p hF rfl Tryd.call55 (Zr_c (St.le hS) (p1:=r30.2) (b2:=b2) (St.sepOk hS) (St.sepDis hS) h39) ⟨rfl,trivial⟩ (fun _ _ w hE=>?_) (fun v w a hR hF=>?_)
        · obtain ⟨rfl,hk⟩:=hE;obtain rfl:=Option.some.inj hm;exact tpn<|bpn<|tpn<|tpn<|bpn<|tpn<|pnB hF ⟨rfl,St.panK hS hk⟩
        obtain ⟨r38,rfl,hR⟩:=hR
        replace hm:=Option.bindP_s hm
        obtain ⟨oa41,cap42,vs43,rfl,hv44,hk⟩:=hR
        replace hS:=(hS.mut hk .head).unsep
        clear hk
        replace hv44:=hv44 HB1
        refine ls<|q1 hF rfl (e_fa hF fa49_4 rfl) fun a hF=>?_
        refine ls<|s_blk hF hS Tryd.sizeOf47 rfl rfl rfl rfl (.tail (.tail (.tail (.tail (.tail (.tail .head)))))) (.succ (.succ (.succ (.succ .zero)))) fun w hS=>?_
        refine re<|?_
        refine tn<|?_
        replace hm:=bind_some hm
        obtain ⟨l57,h58,hm⟩:=hm
        refine rg<|?_
        refine ls<|q1 hF rfl (e_fa hF fa32_2 rfl) fun a hF=>?_
        refine ls<|q1 hF rfl (e_ld hF Tryd.isAgg30 rfl ((St.ld hS).cellB (.tail _ (.tail _ (.tail _ (.tail _ (.tail _ (.head _)))))) rfl)) fun a hF=>?_
        refine ls<|q1 hF rfl (e_ldA hF Tryd.isAgg49 Tryd.sizeOf49 rfl rfl ((St.ld hS).cellsB (.tail _ (.tail _ (.tail _ (.tail _ (.tail _ (.tail _ (.head _))))))))) fun a hF=>?_
        obtain ⟨H49,hx46,hr47,hc48,hS⟩:=St.frzSM hS (.tail (.tail .head)) hv36
        obtain ⟨H53,hx50,hr51,hc52,hS⟩:=St.frzSM hS (.tail .head) (hv44.mono hx46.sub)
        refine ls<|a_bsl (e:=49) (sz:=6) [.int .i64 vD2,.int .i64 vD3,.int .i64 vD4,.slice oa33 r30.1.length cap34,.slice oa41 r38.1.length cap42,.int .i64 vD5] hF rfl hS rfl rfl rfl (fun w=>by kernel_rfl) fun b55 w a hS hF=>?_
        have hv54:Rows (α:=api_Instr) H53 [.int .i64 vD2,.int .i64 vD3,.int .i64 vD4,.slice oa33 r30.1.length cap34,.slice oa41 r38.1.length cap42,.int .i64 vD5] ([(api_Instr.mk vD2 vD3 vD4 r30.1 r38.1 vD5)]:List api_Instr):=(.cons (c:=[.int .i64 vD2,.int .i64 vD3,.int .i64 vD4,.slice oa33 r30.1.length cap34,.slice oa41 r38.1.length cap42,.int .i64 vD5]) ⟨_,_,rfl,rfl,⟨_,_,rfl,rfl,⟨_,_,rfl,rfl,⟨_,_,rfl,⟨_,_,rfl,hc48,(hr47.mono hx50.sub)⟩,⟨_,_,rfl,⟨_,_,rfl,hc52,hr51⟩,rfl⟩⟩⟩⟩⟩ .nil)
        refine ls<|m_app (α:=api_Instr) (xs:=vB3) (ys:=([(api_Instr.mk vD2 vD3 vD4 r30.1 r38.1 vD5)]:List api_Instr)) hF rfl hS Tryd.underlying30 info49 rfl (by decide) rfl rfl rfl (.tail _ (.tail _ (.tail _ (.head _)))) (hvB7.mono (fun b o h=>hx50.sub b o (hx46.sub b o h))) (hS.rdO (.head _)) hv54 h58 fun oa59 cap60 vs61 w a hv62 hU hF=>?_
        replace hS:=hU _ (.tail (.tail (.tail .head)))
        clear hU
        replace hS:=hS.drop .head
        refine ls<|q1 hF rfl (e_fa hF fa32_2 rfl) fun a hF=>?_
        refine ls<|s_blk hF hS Tryd.sizeOf30 rfl rfl rfl rfl (.tail (.tail (.tail .head))) (.succ (.succ .zero)) fun w hS=>?_
        refine re<|?_
        refine bn<|tn<|?_
        replace hS:=hS.pickL (.cons .head (.cons .head (.cons .head (.cons .head .nil))))
        exact ⟨r38.2,l57,H53,oa59,cap60,vs61,hm,(ExtM.trans hx46 hx50),hF.has ⟨rfl,rfl,rfl,rfl,rfl,trivial⟩,hS,hv62⟩
      clear hm hF hS
      rintro a w ⟨vC2,vC3,HC1,oaC4,capC5,vsC6,hm,hxHC1,hF,hS,hvC7⟩
      unfold Zj at hm
      refine rg<|?_
      refine ls<|q1 hF rfl (e_add hF rfl rfl) fun a hF=>?_
      refine ls<|q1 hF rfl (e_move hF rfl) fun a hF=>?_
      refine re<|?_
      refine tn<|?_
      exact ⟨(nn2,vC2,vC3,(IntKind.i64.wrap (vB9+1))),⟨HC1,oaC4,capC5,vsC6,hm,(ExtM.trans hxHB1 hxHC1),hF.has ⟨rfl,rfl,rfl,rfl,rfl,trivial⟩,hS,hvC7⟩,Nat.lt_succ_self _⟩
    ·
      replace hm:=itp_f hm hb14
      refine tn<|th<|cfv hF rfl hb14<|?_
      refine we<|tx<|tx<|bx<|?_
      refine tn<|?_
      exact ⟨vB2,vB3,HB1,oaB4,capB5,vsB6,hm,hxHB1,hF.has ⟨rfl,rfl,rfl,trivial⟩,hS,hvB7⟩
  clear hm hF hS
  rintro a w ⟨vA2,vA3,HA1,oaA4,capA5,vsA6,hm,hxHA1,hF,hS,hvA7⟩
  unfold Zi at hm
  refine th<|?_
  refine rg<|?_
  refine ls<|q1 hF rfl (e_ldA hF Tryd.isAgg32 Tryd.sizeOf32 rfl rfl ((St.ld hS).cellsB (.tail _ (.tail _ (.tail _ (.head _)))))) fun a hF=>?_
  refine ls<|s_blkA hF hS Tryd.sizeOf32 rfl rfl rfl rfl (one_cells rfl) (.tail .head) fun w hS=>?_
  refine re<|?_
  refine tn<|?_
  refine wr<|?_
  obtain ⟨H66,hx63,hr64,hc65,hS⟩:=St.frzSM hS (.tail (.tail .head)) hvA7
  obtain rfl:=Option.some.inj hm
  exact bpl (r1c (vs:=[.int .i64 rz5.1,.int .i64 rz8.1,.slice oaA4 vA3.length capA5]) (.inl rfl) hF Tryd.results54 rfl Tryd.isAgg32 Tryd.sizeOf32 rfl ((St.ld hS).cellsB (.tail _ (.head _))) ⟨_,rfl,H66,_,rfl,(show Enc.rep (α:=api_Code) H66 [.int .i64 rz5.1,.int .i64 rz8.1,.slice oaA4 vA3.length capA5] (api_Code.mk rz5.1 rz8.1 vA3) from ⟨_,_,rfl,rfl,⟨_,_,rfl,rfl,⟨_,_,rfl,hc65,hr64⟩⟩⟩),(ExtM.trans hxHA1 hx63),(St.le hS),(St.disL (hS.pickL (.cons .head .nil))),(hS.pickL (.cons .head .nil)).endMut⟩)
end Go.LM.BIN
