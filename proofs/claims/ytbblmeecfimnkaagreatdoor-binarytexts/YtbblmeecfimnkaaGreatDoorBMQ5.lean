/- Walks, lifted by program. No condition beyond the theorems' own premises. -/
import Derived.Test.YtbblmeecfimnkaaGreatDoorBMQ4
namespace Go.LM.BINZ
open Go Go.LL Go.MD Go.LM Go.Proofs Go.MD.BINZ
set_option maxRecDepth 100000
set_option maxRecDepth 100000 in
theorem Z2v_c {N:Nat} {w0:World} {H:PH} (hH:H.le w0) {p1:Int} {p2:Int} {p3:Int} {p4:Int} {r:Bool} (hm:Z2v N p1 p2 p3 p4=some r):Tot Tryz.prog 114 #[.int .i64 p1,.int .i64 p2,.int .i64 p3,.int .i64 p4] w0 (fun v w'=>v=.bool r∧Keep Nil w0 w'):=by
  unfold Z2v at hm
  refine fn0 (args:=[.int .i64 p1,.int .i64 p2,.int .i64 p3,.int .i64 p4]) (F:=[(0,.int .i64 p1),(1,.int .i64 p2),(2,.int .i64 p3),(3,.int .i64 p4)]) Tryz.func114 rfl Tryz.ntmps114 rfl rfl fun a hF=>?_
  have hS:St w0 Nil [H] [] w0:=start1 hH
  refine th<|?_
  refine rg<|?_
  refine ls<|q1 hF rfl (e_asg hF rfl) fun a hF=>?_
  refine re<|?_
  refine tn<|th<|?_
  refine rg<|?_
  refine ls<|q1 hF rfl (e_move hF rfl) fun a hF=>?_
  refine ls<|q1 hF rfl (e_move hF rfl) fun a hF=>?_
  refine ls<|q1 hF rfl (e_geq hF rfl rfl) fun a hF=>?_
  refine ls<|q1 hF rfl (e_move hF rfl) fun a hF=>?_
  refine grp (N:=37) (Fk:=[(0,.int .i64 p1),(1,.int .i64 p2),(2,.int .i64 p3),(3,.int .i64 p4),(16,.bool ((decide (p3≤p1)) && (decide (p2≤p4))))]) (b:=(decide (p3≤p1))) 4 hS ?_ ?_ ?_
  ·
    intro hb key
    replace hF:=Fr.as hF (t:=12) rfl (congrArg Value.bool hb)
    refine ls<|gy hF rfl rfl<|q1 hF rfl (e_move hF rfl) fun a hF=>?_
    refine ls<|gy hF rfl rfl<|q1 hF rfl (e_move hF rfl) fun a hF=>?_
    refine ls<|gy hF rfl rfl<|q1 hF rfl (e_leq hF rfl rfl) fun a hF=>?_
    refine ls<|q1 hF rfl (e_as (v':=.bool ((decide (p3≤p1)) && (decide (p2≤p4)))) (e_pickT hF rfl rfl) (by rw [hb];rfl)) fun a hF=>?_
    exact key _ _ (hF.has ⟨rfl,rfl,rfl,rfl,rfl,trivial⟩) hS
  ·
    intro hb key
    replace hF:=Fr.as hF (t:=12) rfl (congrArg Value.bool hb)
    refine ls<|gn hF rfl rfl rfl rfl fun a hF=>?_
    refine ls<|gn hF rfl rfl rfl rfl fun a hF=>?_
    refine ls<|gn hF rfl rfl rfl rfl fun a hF=>?_
    refine ls<|q1 hF rfl (e_as (v':=.bool ((decide (p3≤p1)) && (decide (p2≤p4)))) (e_pickF hF rfl rfl) (by rw [hb];rfl)) fun a hF=>?_
    exact key _ _ (hF.has ⟨rfl,rfl,rfl,rfl,rfl,trivial⟩) hS
  intro a w hF hS
  refine ls<|q1 hF rfl (e_move hF rfl) fun a hF=>?_
  refine grp (N:=37) (Fk:=[(0,.int .i64 p1),(1,.int .i64 p2),(2,.int .i64 p3),(3,.int .i64 p4),(26,.bool (((decide (p3≤p1)) && (decide (p2≤p4))) || ((decide (p1≤p3)) && (decide (p4≤p2)))))]) (b:=((decide (p3≤p1)) && (decide (p2≤p4)))) 9 hS ?_ ?_ ?_
  ·
    intro hb key
    replace hF:=Fr.as hF (t:=17) rfl (congrArg Value.bool hb)
    refine ls<|gn hF rfl rfl rfl rfl fun a hF=>?_
    refine ls<|gn hF rfl rfl rfl rfl fun a hF=>?_
    refine ls<|gn hF rfl rfl rfl rfl fun a hF=>?_
    refine ls<|gn hF rfl rfl rfl rfl fun a hF=>?_
    refine ls<|gnu hF rfl rfl rfl fun a hF=>?_
    refine ls<|gnu hF rfl rfl rfl fun a hF=>?_
    refine ls<|gnu hF rfl rfl rfl fun a hF=>?_
    refine ls<|gn hF rfl rfl rfl rfl fun a hF=>?_
    refine ls<|q1 hF rfl (e_as (v':=.bool (((decide (p3≤p1)) && (decide (p2≤p4))) || ((decide (p1≤p3)) && (decide (p4≤p2))))) (e_pickT hF rfl rfl) (by rw [hb];rfl)) fun a hF=>?_
    exact key _ _ (hF.has ⟨rfl,rfl,rfl,rfl,rfl,trivial⟩) hS
  ·
    intro hb key
    replace hF:=Fr.as hF (t:=17) rfl (congrArg Value.bool hb)
    refine ls<|gy hF rfl rfl<|q1 hF rfl (e_move hF rfl) fun a hF=>?_
    refine ls<|gy hF rfl rfl<|q1 hF rfl (e_move hF rfl) fun a hF=>?_
    refine ls<|gy hF rfl rfl<|q1 hF rfl (e_geq hF rfl rfl) fun a hF=>?_
    refine ls<|gy hF rfl rfl<|q1 hF rfl (e_move hF rfl) fun a hF=>?_
    refine grp (N:=37) (Fk:=[(0,.int .i64 p1),(1,.int .i64 p2),(2,.int .i64 p3),(3,.int .i64 p4),(17,.bool false),(25,.bool ((decide (p1≤p3)) && (decide (p4≤p2))))]) (b:=(decide (p1≤p3))) 4 hS ?_ ?_ ?_
    ·
      intro hb key
      replace hF:=Fr.as hF (t:=21) rfl (congrArg Value.bool hb)
      refine ls<|gy hF rfl rfl<|q1 hF rfl (e_move hF rfl) fun a hF=>?_
      refine ls<|gy hF rfl rfl<|q1 hF rfl (e_move hF rfl) fun a hF=>?_
      refine ls<|gy hF rfl rfl<|q1 hF rfl (e_leq hF rfl rfl) fun a hF=>?_
      refine ls<|gy hF rfl rfl<|q1 hF rfl (e_as (v':=.bool ((decide (p1≤p3)) && (decide (p4≤p2)))) (e_pickT hF rfl rfl) (by rw [hb];rfl)) fun a hF=>?_
      exact key _ _ (hF.has ⟨rfl,rfl,rfl,rfl,rfl,rfl,trivial⟩) hS
    ·
      intro hb key
      replace hF:=Fr.as hF (t:=21) rfl (congrArg Value.bool hb)
      refine ls<|gn hF rfl rfl rfl rfl fun a hF=>?_
      refine ls<|gn hF rfl rfl rfl rfl fun a hF=>?_
      refine ls<|gn hF rfl rfl rfl rfl fun a hF=>?_
      refine ls<|gy hF rfl rfl<|q1 hF rfl (e_as (v':=.bool ((decide (p1≤p3)) && (decide (p4≤p2)))) (e_pickF hF rfl rfl) (by rw [hb];rfl)) fun a hF=>?_
      exact key _ _ (hF.has ⟨rfl,rfl,rfl,rfl,rfl,rfl,trivial⟩) hS
    intro a w hF hS
    refine ls<|q1 hF rfl (e_as (v':=.bool (((decide (p3≤p1)) && (decide (p2≤p4))) || ((decide (p1≤p3)) && (decide (p4≤p2))))) (e_pickF hF rfl rfl) (by rw [hb];rfl)) fun a hF=>?_
    exact key _ _ (hF.has ⟨rfl,rfl,rfl,rfl,rfl,trivial⟩) hS
  intro a w hF hS
  refine ls<|q1 hF rfl (e_move hF rfl) fun a hF=>?_
  refine grp (N:=37) (Fk:=[(0,.int .i64 p1),(3,.int .i64 p4),(31,.bool ((((decide (p3≤p1)) && (decide (p2≤p4))) || ((decide (p1≤p3)) && (decide (p4≤p2)))) || (decide (p2 < p3))))]) (b:=(((decide (p3≤p1)) && (decide (p2≤p4))) || ((decide (p1≤p3)) && (decide (p4≤p2))))) 4 hS ?_ ?_ ?_
  ·
    intro hb key
    replace hF:=Fr.as hF (t:=27) rfl (congrArg Value.bool hb)
    refine ls<|gn hF rfl rfl rfl rfl fun a hF=>?_
    refine ls<|gn hF rfl rfl rfl rfl fun a hF=>?_
    refine ls<|gn hF rfl rfl rfl rfl fun a hF=>?_
    refine ls<|q1 hF rfl (e_as (v':=.bool ((((decide (p3≤p1)) && (decide (p2≤p4))) || ((decide (p1≤p3)) && (decide (p4≤p2)))) || (decide (p2 < p3)))) (e_pickT hF rfl rfl) (by rw [hb];rfl)) fun a hF=>?_
    exact key _ _ (hF.has ⟨rfl,rfl,rfl,trivial⟩) hS
  ·
    intro hb key
    replace hF:=Fr.as hF (t:=27) rfl (congrArg Value.bool hb)
    refine ls<|gy hF rfl rfl<|q1 hF rfl (e_move hF rfl) fun a hF=>?_
    refine ls<|gy hF rfl rfl<|q1 hF rfl (e_move hF rfl) fun a hF=>?_
    refine ls<|gy hF rfl rfl<|q1 hF rfl (e_lss hF rfl rfl) fun a hF=>?_
    refine ls<|q1 hF rfl (e_as (v':=.bool ((((decide (p3≤p1)) && (decide (p2≤p4))) || ((decide (p1≤p3)) && (decide (p4≤p2)))) || (decide (p2 < p3)))) (e_pickF hF rfl rfl) (by rw [hb];rfl)) fun a hF=>?_
    exact key _ _ (hF.has ⟨rfl,rfl,rfl,trivial⟩) hS
  intro a w hF hS
  refine ls<|q1 hF rfl (e_move hF rfl) fun a hF=>?_
  refine grp (N:=37) (Fk:=[(36,.bool (((((decide (p3≤p1)) && (decide (p2≤p4))) || ((decide (p1≤p3)) && (decide (p4≤p2)))) || (decide (p2 < p3))) || (decide (p4 < p1))))]) (b:=((((decide (p3≤p1)) && (decide (p2≤p4))) || ((decide (p1≤p3)) && (decide (p4≤p2)))) || (decide (p2 < p3)))) 4 hS ?_ ?_ ?_
  ·
    intro hb key
    replace hF:=Fr.as hF (t:=32) rfl (congrArg Value.bool hb)
    refine ls<|gn hF rfl rfl rfl rfl fun a hF=>?_
    refine ls<|gn hF rfl rfl rfl rfl fun a hF=>?_
    refine ls<|gn hF rfl rfl rfl rfl fun a hF=>?_
    refine ls<|q1 hF rfl (e_as (v':=.bool (((((decide (p3≤p1)) && (decide (p2≤p4))) || ((decide (p1≤p3)) && (decide (p4≤p2)))) || (decide (p2 < p3))) || (decide (p4 < p1)))) (e_pickT hF rfl rfl) (by rw [hb];rfl)) fun a hF=>?_
    exact key _ _ (hF.has ⟨rfl,trivial⟩) hS
  ·
    intro hb key
    replace hF:=Fr.as hF (t:=32) rfl (congrArg Value.bool hb)
    refine ls<|gy hF rfl rfl<|q1 hF rfl (e_move hF rfl) fun a hF=>?_
    refine ls<|gy hF rfl rfl<|q1 hF rfl (e_move hF rfl) fun a hF=>?_
    refine ls<|gy hF rfl rfl<|q1 hF rfl (e_lss hF rfl rfl) fun a hF=>?_
    refine ls<|q1 hF rfl (e_as (v':=.bool (((((decide (p3≤p1)) && (decide (p2≤p4))) || ((decide (p1≤p3)) && (decide (p4≤p2)))) || (decide (p2 < p3))) || (decide (p4 < p1)))) (e_pickF hF rfl rfl) (by rw [hb];rfl)) fun a hF=>?_
    exact key _ _ (hF.has ⟨rfl,trivial⟩) hS
  intro a w hF hS
  refine ls<|q1 hF rfl (e_asg hF rfl) fun a hF=>?_
  refine re<|?_
  refine tn<|?_
  refine wr<|?_
  obtain rfl:=Option.some.inj hm
  exact r1 hF Tryz.results114 rfl ⟨rfl,hS.keep⟩
set_option maxHeartbeats 4000000 in
set_option maxRecDepth 100000 in
theorem Z26_c {N:Nat} {w0:World} {H:PH} (hH:H.le w0) {cs2:List Value} {p1:api_Code} (g3:Enc.rep H cs2 p1) {p4:Int} {p5:Int} {p6:Int} {r:Bool} (hm:Z26 N p1 p4 p5 p6=some r):Tot Tryz.prog 69 #[.agg cs2.toArray,.int .i64 p4,.int .i64 p5,.int .i64 p6] w0 (fun v w'=>v=.bool r∧Keep Nil w0 w'):=by
  unfold Z26 at hm
  refine fn0 (args:=[.agg cs2.toArray,.int .i64 p4,.int .i64 p5,.int .i64 p6]) (F:=[(0,.agg cs2.toArray),(1,.int .i64 p4),(2,.int .i64 p5),(3,.int .i64 p6)]) Tryz.func69 rfl Tryz.ntmps69 rfl rfl fun a hF=>?_
  have hS:St w0 Nil [H] [] w0:=start1 hH
  obtain ⟨oa7,cap8,rfl,hc9,hr10⟩:=api_Code_open g3
  refine th<|?_
  refine rg<|?_
  refine ls<|a_box (cs:=[.int .i64 p1.Regs,.int .i64 p1.Counts,.slice oa7 p1.L.length cap8].toArray) hF rfl hS rfl rfl fun b11 w a hS hF=>?_
  refine ls<|q1 hF rfl (e_asg hF rfl) fun a hF=>?_
  refine re<|?_
  refine tn<|th<|th<|?_
  refine rg<|?_
  refine ls<|q1 hF rfl (e_fa hF fa26_0 rfl) fun a hF=>?_
  refine ls<|q1 hF rfl (e_ld hF Tryz.isAgg3 rfl ((St.ld hS).cellB (.head _) rfl)) fun a hF=>?_
  refine ls<|q1 hF rfl (e_lss hF rfl rfl) fun a hF=>?_
  refine ls<|q1 hF rfl (e_move hF rfl) fun a hF=>?_
  refine grp (N:=99) (Fk:=[(1,.int .i64 p4),(2,.int .i64 p5),(3,.int .i64 p6),(4,.pointer (some ⟨b11,0,none⟩)),(21,.bool ((decide (p1.Regs < 0)) || (decide (4 < p1.Regs))))]) (b:=(decide (p1.Regs < 0))) 4 hS ?_ ?_ ?_
  ·
    intro hb key
    replace hF:=Fr.as hF (t:=17) rfl (congrArg Value.bool hb)
    refine ls<|gn hF rfl rfl rfl rfl fun a hF=>?_
    refine ls<|gn hF rfl rfl rfl rfl fun a hF=>?_
    refine ls<|gn hF rfl rfl rfl rfl fun a hF=>?_
    refine ls<|q1 hF rfl (e_as (v':=.bool ((decide (p1.Regs < 0)) || (decide (4 < p1.Regs)))) (e_pickT hF rfl rfl) (by rw [hb];rfl)) fun a hF=>?_
    exact key _ _ (hF.has ⟨rfl,rfl,rfl,rfl,rfl,trivial⟩) hS
  ·
    intro hb key
    replace hF:=Fr.as hF (t:=17) rfl (congrArg Value.bool hb)
    refine ls<|gy hF rfl rfl<|q1 hF rfl (e_fa hF fa26_0 rfl) fun a hF=>?_
    refine ls<|gy hF rfl rfl<|q1 hF rfl (e_ld hF Tryz.isAgg3 rfl ((St.ld hS).cellB (.head _) rfl)) fun a hF=>?_
    refine ls<|gy hF rfl rfl<|q1 hF rfl (e_gtr hF rfl rfl) fun a hF=>?_
    refine ls<|q1 hF rfl (e_as (v':=.bool ((decide (p1.Regs < 0)) || (decide (4 < p1.Regs)))) (e_pickF hF rfl rfl) (by rw [hb];rfl)) fun a hF=>?_
    exact key _ _ (hF.has ⟨rfl,rfl,rfl,rfl,rfl,trivial⟩) hS
  intro a w hF hS
  refine ls<|q1 hF rfl (e_move hF rfl) fun a hF=>?_
  refine grp (N:=99) (Fk:=[(1,.int .i64 p4),(2,.int .i64 p5),(3,.int .i64 p6),(4,.pointer (some ⟨b11,0,none⟩)),(26,.bool (((decide (p1.Regs < 0)) || (decide (4 < p1.Regs))) || (decide (p1.Counts < 0))))]) (b:=((decide (p1.Regs < 0)) || (decide (4 < p1.Regs)))) 4 hS ?_ ?_ ?_
  ·
    intro hb key
    replace hF:=Fr.as hF (t:=22) rfl (congrArg Value.bool hb)
    refine ls<|gn hF rfl rfl rfl rfl fun a hF=>?_
    refine ls<|gn hF rfl rfl rfl rfl fun a hF=>?_
    refine ls<|gn hF rfl rfl rfl rfl fun a hF=>?_
    refine ls<|q1 hF rfl (e_as (v':=.bool (((decide (p1.Regs < 0)) || (decide (4 < p1.Regs))) || (decide (p1.Counts < 0)))) (e_pickT hF rfl rfl) (by rw [hb];rfl)) fun a hF=>?_
    exact key _ _ (hF.has ⟨rfl,rfl,rfl,rfl,rfl,trivial⟩) hS
  ·
    intro hb key
    replace hF:=Fr.as hF (t:=22) rfl (congrArg Value.bool hb)
    refine ls<|gy hF rfl rfl<|q1 hF rfl (e_fa hF fa26_1 rfl) fun a hF=>?_
    refine ls<|gy hF rfl rfl<|q1 hF rfl (e_ld hF Tryz.isAgg3 rfl ((St.ld hS).cellB (.head _) rfl)) fun a hF=>?_
    refine ls<|gy hF rfl rfl<|q1 hF rfl (e_lss hF rfl rfl) fun a hF=>?_
    refine ls<|q1 hF rfl (e_as (v':=.bool (((decide (p1.Regs < 0)) || (decide (4 < p1.Regs))) || (decide (p1.Counts < 0)))) (e_pickF hF rfl rfl) (by rw [hb];rfl)) fun a hF=>?_
    exact key _ _ (hF.has ⟨rfl,rfl,rfl,rfl,rfl,trivial⟩) hS
  intro a w hF hS
  refine ls<|q1 hF rfl (e_move hF rfl) fun a hF=>?_
  refine grp (N:=99) (Fk:=[(1,.int .i64 p4),(2,.int .i64 p5),(3,.int .i64 p6),(4,.pointer (some ⟨b11,0,none⟩)),(31,.bool ((((decide (p1.Regs < 0)) || (decide (4 < p1.Regs))) || (decide (p1.Counts < 0))) || (decide (12 < p1.Counts))))]) (b:=(((decide (p1.Regs < 0)) || (decide (4 < p1.Regs))) || (decide (p1.Counts < 0)))) 4 hS ?_ ?_ ?_
  ·
    intro hb key
    replace hF:=Fr.as hF (t:=27) rfl (congrArg Value.bool hb)
    refine ls<|gn hF rfl rfl rfl rfl fun a hF=>?_
    refine ls<|gn hF rfl rfl rfl rfl fun a hF=>?_
    refine ls<|gn hF rfl rfl rfl rfl fun a hF=>?_
    refine ls<|q1 hF rfl (e_as (v':=.bool ((((decide (p1.Regs < 0)) || (decide (4 < p1.Regs))) || (decide (p1.Counts < 0))) || (decide (12 < p1.Counts)))) (e_pickT hF rfl rfl) (by rw [hb];rfl)) fun a hF=>?_
    exact key _ _ (hF.has ⟨rfl,rfl,rfl,rfl,rfl,trivial⟩) hS
  ·
    intro hb key
    replace hF:=Fr.as hF (t:=27) rfl (congrArg Value.bool hb)
    refine ls<|gy hF rfl rfl<|q1 hF rfl (e_fa hF fa26_1 rfl) fun a hF=>?_
    refine ls<|gy hF rfl rfl<|q1 hF rfl (e_ld hF Tryz.isAgg3 rfl ((St.ld hS).cellB (.head _) rfl)) fun a hF=>?_
    refine ls<|gy hF rfl rfl<|q1 hF rfl (e_gtr hF rfl rfl) fun a hF=>?_
    refine ls<|q1 hF rfl (e_as (v':=.bool ((((decide (p1.Regs < 0)) || (decide (4 < p1.Regs))) || (decide (p1.Counts < 0))) || (decide (12 < p1.Counts)))) (e_pickF hF rfl rfl) (by rw [hb];rfl)) fun a hF=>?_
    exact key _ _ (hF.has ⟨rfl,rfl,rfl,rfl,rfl,trivial⟩) hS
  intro a w hF hS
  refine re<|?_
  rcases bdich ((((decide (p1.Regs < 0)) || (decide (4 < p1.Regs))) || (decide (p1.Counts < 0))) || (decide (12 < p1.Counts))) with hb12 | hb12
  ·
    replace hm:=ite_t hm hb12
    refine tn<|ctv hF rfl hb12<|th<|?_
    refine rg<|?_
    refine ls<|q1 hF rfl (e_asg hF rfl) fun a hF=>?_
    refine re<|?_
    refine tn<|?_
    refine wr<|tr<|?_
    obtain rfl:=Option.some.inj hm
    exact r1 hF Tryz.results69 rfl ⟨rfl,hS.keep⟩
  ·
    replace hm:=ite_f hm hb12
    refine tn<|cfv hF rfl hb12<|wk<|?_
    refine tn<|th<|th<|?_
    refine rg<|?_
    refine ls<|q1 hF rfl (e_asg hF rfl) fun a hF=>?_
    refine re<|?_
    refine tn<|midK (fun a w=>(Z27 N p1)=some r∧Fr 99 [(4,.pointer (some ⟨b11,0,none⟩))] a∧St w0 Nil [H] [blk b11 (.cells [.int .i64 p1.Regs,.int .i64 p1.Counts,.slice oa7 p1.L.length cap8].toArray 26 (0,0))] w) ?_ ?_
    ·
      refine wb<|lp (α:=Nat×Int) (fun (gh:Nat×Int) a w=>match gh with | (nn2,vB1)=>(Z2d N (Z27 N p1) p1 p4 p5 p6) nn2 vB1=some r∧Fr 99 [(1,.int .i64 p4),(2,.int .i64 p5),(3,.int .i64 p6),(4,.pointer (some ⟨b11,0,none⟩)),(9,.int .i64 vB1)] a∧St w0 Nil [H] [blk b11 (.cells [.int .i64 p1.Regs,.int .i64 p1.Counts,.slice oa7 p1.L.length cap8].toArray 26 (0,0))] w) (fun gh=>gh.1) (N,0) ⟨hm,hF.has ⟨rfl,rfl,rfl,rfl,rfl,trivial⟩,hS⟩ ?_
      clear hm hF hS
      rintro ⟨nn2,vB1⟩ a w ⟨hm,hF,hS⟩
      obtain _ | nn2:=nn2
      · simp [Z2d] at hm
      rw [Z2d] at hm
      refine th<|th<|?_
      refine rg<|?_
      refine ls<|q1 hF rfl (e_move hF rfl) fun a hF=>?_
      refine ls<|q1 hF rfl (e_fa hF fa26_2 rfl) fun a hF=>?_
      refine ls<|q1 hF rfl (e_ld hF Tryz.isAgg24 rfl ((St.ld hS).cellB (.head _) rfl)) fun a hF=>?_
      refine ls<|q1 hF rfl (e_lenL (α:=api_Instr) (xs:=p1.L) hF Tryz.runUnderlying24 rfl) fun a hF=>?_
      refine ls<|q1 hF rfl (e_lss hF rfl rfl) fun a hF=>?_
      refine re<|?_
      rcases bdich (decide (vB1 < (p1.L.length:Int))) with hb13 | hb13
      ·
        replace hm:=itp_t hm hb13
        refine tn<|ctv hF rfl hb13<|wk<|?_
        refine tn<|th<|wb<|th<|midK (fun a w=>∃ (vC1:Bool),(Z28 (Z2d N (Z27 N p1) p1 p4 p5 p6 nn2) vB1) vC1=some r∧Fr 99 [(1,.int .i64 p4),(2,.int .i64 p5),(3,.int .i64 p6),(4,.pointer (some ⟨b11,0,none⟩)),(9,.int .i64 vB1),(56,.bool vC1)] a∧St w0 Nil [H] [blk b11 (.cells [.int .i64 p1.Regs,.int .i64 p1.Counts,.slice oa7 p1.L.length cap8].toArray 26 (0,0))] w) ?_ ?_
        ·
          replace hm:=bind_some hm
          obtain ⟨x14,h15,hm⟩:=hm
          obtain ⟨c16,g17,hl18⟩:=SR.get hr10 h15
          obtain ⟨oa19,cap20,oa23,cap24,rfl,hc21,hr22,hc25,hr26⟩:=api_Instr_open g17
          replace hm:=bind_some hm
          obtain ⟨r27,h28,hm⟩:=hm
          rcases bdich r27 with hb29 | hb29
          ·
            replace hm:=ite_t hm hb29
            have hb29':(!r27)=false:=by rw [hb29];rfl
            replace hm:=bind_some hm
            obtain ⟨r30,h31,hm⟩:=hm
            refine rdS 18 hS wide fun w hS=>?_
            refine d1 (i:=0) rfl (by kernel_rfl) (by kernel_rfl) (St.ld hS) hF rfl (fun _ _ _ h=>h) (fun w hl=>(e_fa hF fa26_2 rfl)) fun a hF=>?_
            refine d1 (i:=1) rfl (by kernel_rfl) (by kernel_rfl) (St.ld hS) hF rfl (fun _ _ _ h=>h) (fun w hl=>(e_ld hF Tryz.isAgg24 rfl (hl.cellB (.head _) rfl))) fun a hF=>?_
            refine d1 (i:=2) rfl (by kernel_rfl) (by kernel_rfl) (St.ld hS) hF rfl (fun _ _ _ h=>h) (fun w hl=>(e_move hF rfl)) fun a hF=>?_
            refine d1 (i:=3) rfl (by kernel_rfl) (by kernel_rfl) (St.ld hS) hF rfl (fun _ _ _ h=>h) (fun w hl=>(e_iaI hF Tryz.runUnderlying24 Tryz.sizeOf85 rfl rfl h15 (SR.oaI hr10 (by decide) h15))) fun a hF=>?_
            refine d1 (i:=4) rfl (by kernel_rfl) (by kernel_rfl) (St.ld hS) hF rfl (fun _ _ _ h=>h) (fun w hl=>(e_ldA hF Tryz.isAgg85 Tryz.sizeOf85 rfl rfl (fun j v hj=>PH.le.cell (Lds.le hl) (hl18 j v hj)))) fun a hF=>?_
            refine d1 (i:=5) rfl (by kernel_rfl) (by kernel_rfl) (St.ld hS) hF rfl (fun _ _ _ h=>h) (fun w hl=>(e_ldA hF Tryz.isAgg26 Tryz.sizeOf26 rfl rfl (hl.cellsB (.head _)))) fun a hF=>?_
            refine d1 (i:=6) rfl (by kernel_rfl) (by kernel_rfl) (St.ld hS) hF rfl (fun _ _ _ h=>h) (fun w hl=>(e_move hF rfl)) fun a hF=>?_
            refine d1 (i:=7) rfl (by kernel_rfl) (by kernel_rfl) (St.ld hS) hF rfl (fun _ _ _ h=>h) (fun w hl=>(e_move hF rfl)) fun a hF=>?_
            refine d1 (i:=8) rfl (by kernel_rfl) (by kernel_rfl) (St.ld hS) hF rfl (fun _ _ _ h=>h) (fun w hl=>(e_move hF rfl)) fun a hF=>?_
            refine da1 (i:=9) (by kernel_rfl) ?_
            refine di (i:=9) rfl<|c1 hF rfl Tryz.call112 (Z2w_c (hp_le _) (Enc.mono (St.up hS) (show Enc.rep (α:=api_Instr) H [.int .i64 x14.Kind,.int .i64 x14.A,.int .i64 x14.B,.slice oa19 x14.E.length cap20,.slice oa23 x14.F.length cap24,.int .i64 x14.To] x14 from ⟨_,_,rfl,rfl,⟨_,_,rfl,rfl,⟨_,_,rfl,rfl,⟨_,_,rfl,⟨_,_,rfl,hc21,hr22⟩,⟨_,_,rfl,⟨_,_,rfl,hc25,hr26⟩,rfl⟩⟩⟩⟩⟩)) (Enc.mono (St.up hS) (show Enc.rep (α:=api_Code) H [.int .i64 p1.Regs,.int .i64 p1.Counts,.slice oa7 p1.L.length cap8] p1 from ⟨_,_,rfl,rfl,⟨_,_,rfl,rfl,⟨_,_,rfl,hc9,hr10⟩⟩⟩)) h28) ⟨rfl,rfl,rfl,rfl,rfl,trivial⟩ (fun v w a hR hF=>?_)
            obtain ⟨rfl,hk⟩:=hR
            replace hS:=hS.pass hk
            clear hk
            refine ⟨fun _=>(St.ld hS),?_⟩
            refine d1 (i:=10) rfl (by kernel_rfl) (by kernel_rfl) (St.ld hS) hF rfl (fun _ _ _ h=>h) (fun w hl=>(e_not hF rfl)) fun a hF=>?_
            refine d1 (i:=11) rfl (by kernel_rfl) (by kernel_rfl) (St.ld hS) hF rfl (fun _ _ _ h=>h) (fun w hl=>(e_as (e_move hF rfl) (congrArg Value.bool hb29'))) fun a hF=>?_
            refine d1g (i:=12) rfl (by kernel_rfl) (by kernel_rfl) (St.ld hS) hF rfl rfl rfl (fun _ _ _ h=>h) (fun w hl=>(e_fa hF fa26_2 rfl)) fun a hF=>?_
            refine d1g (i:=13) rfl (by kernel_rfl) (by kernel_rfl) (St.ld hS) hF rfl rfl rfl (fun _ _ _ h=>h) (fun w hl=>(e_ld hF Tryz.isAgg24 rfl (hl.cellB (.head _) rfl))) fun a hF=>?_
            refine d1g (i:=14) rfl (by kernel_rfl) (by kernel_rfl) (St.ld hS) hF rfl rfl rfl (fun _ _ _ h=>h) (fun w hl=>(e_move hF rfl)) fun a hF=>?_
            refine da1 (i:=15) (by kernel_rfl) ?_
            refine di (i:=15) rfl<|gy hF rfl rfl<|c1 hF rfl Tryz.call113 (Z3a_c (hp_le _) hc9 (St.srH hS hr10) h31) ⟨rfl,rfl,trivial⟩ (fun v w a hR hF=>?_)
            obtain ⟨rfl,hk⟩:=hR
            replace hS:=hS.pass hk
            clear hk
            refine ⟨fun _=>(St.ld hS),?_⟩
            refine d1g (i:=16) rfl (by kernel_rfl) (by kernel_rfl) (St.ld hS) hF rfl rfl rfl (fun _ _ _ h=>h) (fun w hl=>(e_not hF rfl)) fun a hF=>?_
            refine d1 (i:=17) rfl (by kernel_rfl) (by kernel_rfl) (St.ld hS) hF rfl (fun _ _ _ h=>h) (fun w hl=>(e_pickF hF rfl rfl)) fun a hF=>?_
            refine de (by kernel_rfl)<|?_
            refine tn<|?_
            exact ⟨(!r30),hm,hF.has ⟨rfl,rfl,rfl,rfl,rfl,rfl,trivial⟩,hS⟩
          ·
            replace hm:=ite_f hm hb29
            have hb29':(!r27)=true:=by rw [hb29];rfl
            refine rdS 18 hS wide fun w hS=>?_
            refine d1 (i:=0) rfl (by kernel_rfl) (by kernel_rfl) (St.ld hS) hF rfl (fun _ _ _ h=>h) (fun w hl=>(e_fa hF fa26_2 rfl)) fun a hF=>?_
            refine d1 (i:=1) rfl (by kernel_rfl) (by kernel_rfl) (St.ld hS) hF rfl (fun _ _ _ h=>h) (fun w hl=>(e_ld hF Tryz.isAgg24 rfl (hl.cellB (.head _) rfl))) fun a hF=>?_
            refine d1 (i:=2) rfl (by kernel_rfl) (by kernel_rfl) (St.ld hS) hF rfl (fun _ _ _ h=>h) (fun w hl=>(e_move hF rfl)) fun a hF=>?_
            refine d1 (i:=3) rfl (by kernel_rfl) (by kernel_rfl) (St.ld hS) hF rfl (fun _ _ _ h=>h) (fun w hl=>(e_iaI hF Tryz.runUnderlying24 Tryz.sizeOf85 rfl rfl h15 (SR.oaI hr10 (by decide) h15))) fun a hF=>?_
            refine d1 (i:=4) rfl (by kernel_rfl) (by kernel_rfl) (St.ld hS) hF rfl (fun _ _ _ h=>h) (fun w hl=>(e_ldA hF Tryz.isAgg85 Tryz.sizeOf85 rfl rfl (fun j v hj=>PH.le.cell (Lds.le hl) (hl18 j v hj)))) fun a hF=>?_
            refine d1 (i:=5) rfl (by kernel_rfl) (by kernel_rfl) (St.ld hS) hF rfl (fun _ _ _ h=>h) (fun w hl=>(e_ldA hF Tryz.isAgg26 Tryz.sizeOf26 rfl rfl (hl.cellsB (.head _)))) fun a hF=>?_
            refine d1 (i:=6) rfl (by kernel_rfl) (by kernel_rfl) (St.ld hS) hF rfl (fun _ _ _ h=>h) (fun w hl=>(e_move hF rfl)) fun a hF=>?_
            refine d1 (i:=7) rfl (by kernel_rfl) (by kernel_rfl) (St.ld hS) hF rfl (fun _ _ _ h=>h) (fun w hl=>(e_move hF rfl)) fun a hF=>?_
            refine d1 (i:=8) rfl (by kernel_rfl) (by kernel_rfl) (St.ld hS) hF rfl (fun _ _ _ h=>h) (fun w hl=>(e_move hF rfl)) fun a hF=>?_
            refine da1 (i:=9) (by kernel_rfl) ?_
            refine di (i:=9) rfl<|c1 hF rfl Tryz.call112 (Z2w_c (hp_le _) (Enc.mono (St.up hS) (show Enc.rep (α:=api_Instr) H [.int .i64 x14.Kind,.int .i64 x14.A,.int .i64 x14.B,.slice oa19 x14.E.length cap20,.slice oa23 x14.F.length cap24,.int .i64 x14.To] x14 from ⟨_,_,rfl,rfl,⟨_,_,rfl,rfl,⟨_,_,rfl,rfl,⟨_,_,rfl,⟨_,_,rfl,hc21,hr22⟩,⟨_,_,rfl,⟨_,_,rfl,hc25,hr26⟩,rfl⟩⟩⟩⟩⟩)) (Enc.mono (St.up hS) (show Enc.rep (α:=api_Code) H [.int .i64 p1.Regs,.int .i64 p1.Counts,.slice oa7 p1.L.length cap8] p1 from ⟨_,_,rfl,rfl,⟨_,_,rfl,rfl,⟨_,_,rfl,hc9,hr10⟩⟩⟩)) h28) ⟨rfl,rfl,rfl,rfl,rfl,trivial⟩ (fun v w a hR hF=>?_)
            obtain ⟨rfl,hk⟩:=hR
            replace hS:=hS.pass hk
            clear hk
            refine ⟨fun _=>(St.ld hS),?_⟩
            refine d1 (i:=10) rfl (by kernel_rfl) (by kernel_rfl) (St.ld hS) hF rfl (fun _ _ _ h=>h) (fun w hl=>(e_not hF rfl)) fun a hF=>?_
            refine d1 (i:=11) rfl (by kernel_rfl) (by kernel_rfl) (St.ld hS) hF rfl (fun _ _ _ h=>h) (fun w hl=>(e_as (e_move hF rfl) (congrArg Value.bool hb29'))) fun a hF=>?_
            refine d1n (i:=12) rfl (by kernel_rfl) (by kernel_rfl) (St.ld hS) hF rfl rfl rfl rfl (fun _ _ _ h=>h) fun a hF=>?_
            refine d1n (i:=13) rfl (by kernel_rfl) (by kernel_rfl) (St.ld hS) hF rfl rfl rfl rfl (fun _ _ _ h=>h) fun a hF=>?_
            refine d1n (i:=14) rfl (by kernel_rfl) (by kernel_rfl) (St.ld hS) hF rfl rfl rfl rfl (fun _ _ _ h=>h) fun a hF=>?_
            refine d1n (i:=15) rfl (by kernel_rfl) (by kernel_rfl) (St.ld hS) hF rfl rfl rfl rfl (fun _ _ _ h=>h) fun a hF=>?_
            refine d1n (i:=16) rfl (by kernel_rfl) (by kernel_rfl) (St.ld hS) hF rfl rfl rfl rfl (fun _ _ _ h=>h) fun a hF=>?_
            refine d1 (i:=17) rfl (by kernel_rfl) (by kernel_rfl) (St.ld hS) hF rfl (fun _ _ _ h=>h) (fun w hl=>(e_pickT hF rfl rfl)) fun a hF=>?_
            refine de (by kernel_rfl)<|?_
            refine tn<|?_
            exact ⟨true,hm,hF.has ⟨rfl,rfl,rfl,rfl,rfl,rfl,trivial⟩,hS⟩
        clear hm hF hS
        rintro a w ⟨vC1,hm,hF,hS⟩
        unfold Z28 at hm
        rcases bdich vC1 with hb32 | hb32
        ·
          replace hm:=ite_t hm hb32
          refine ctv hF rfl hb32<|th<|?_
          refine rg<|?_
          refine ls<|q1 hF rfl (e_asg hF rfl) fun a hF=>?_
          refine re<|?_
          refine tn<|?_
          refine wr<|br<|tr<|tr<|br<|tr<|?_
          obtain rfl:=Option.some.inj hm
          exact r1 hF Tryz.results69 rfl ⟨rfl,hS.keep⟩
        ·
          replace hm:=ite_f hm hb32
          refine cfv hF rfl hb32<|wk<|?_
          refine bn<|tn<|?_
          refine rg<|?_
          refine ls<|q1 hF rfl (e_move hF rfl) fun a hF=>?_
          refine ls<|q1 hF rfl (e_add hF rfl rfl) fun a hF=>?_
          refine ls<|q1 hF rfl (e_asg hF rfl) fun a hF=>?_
          refine re<|?_
          refine tn<|?_
          exact ⟨(nn2,(IntKind.i64.wrap (vB1+1))),⟨hm,hF.has ⟨rfl,rfl,rfl,rfl,rfl,trivial⟩,hS⟩,Nat.lt_succ_self _⟩
      ·
        replace hm:=itp_f hm hb13
        refine tn<|cfv hF rfl hb13<|?_
        refine we<|tx<|tx<|bx<|?_
        refine tn<|?_
        exact ⟨hm,hF.has ⟨rfl,trivial⟩,hS⟩
    clear hm hF hS
    rintro a w ⟨hm,hF,hS⟩
    unfold Z27 at hm
    refine th<|th<|?_
    refine rg<|?_
    refine ls<|q1 hF rfl (e_asg hF rfl) fun a hF=>?_
    refine re<|?_
    refine tn<|midK (fun a w=>Z29=some r∧Fr 99 [] a∧St w0 Nil [H] [] w) ?_ ?_
    ·
      refine wb<|lp (α:=Nat×Int) (fun (gh:Nat×Int) a w=>match gh with | (nn5,vB2)=>(Z2e N Z29 p1) nn5 vB2=some r∧Fr 99 [(4,.pointer (some ⟨b11,0,none⟩)),(10,.int .i64 vB2)] a∧St w0 Nil [H] [blk b11 (.cells [.int .i64 p1.Regs,.int .i64 p1.Counts,.slice oa7 p1.L.length cap8].toArray 26 (0,0))] w) (fun gh=>gh.1) (N,0) ⟨hm,hF.has ⟨rfl,rfl,trivial⟩,hS⟩ ?_
      clear hm hF hS
      rintro ⟨nn5,vB2⟩ a w ⟨hm,hF,hS⟩
      obtain _ | nn5:=nn5
      · simp [Z2e] at hm
      rw [Z2e] at hm
      refine th<|th<|?_
      refine rg<|?_
      refine ls<|q1 hF rfl (e_move hF rfl) fun a hF=>?_
      refine ls<|q1 hF rfl (e_fa hF fa26_2 rfl) fun a hF=>?_
      refine ls<|q1 hF rfl (e_ld hF Tryz.isAgg24 rfl ((St.ld hS).cellB (.head _) rfl)) fun a hF=>?_
      refine ls<|q1 hF rfl (e_lenL (α:=api_Instr) (xs:=p1.L) hF Tryz.runUnderlying24 rfl) fun a hF=>?_
      refine ls<|q1 hF rfl (e_lss hF rfl rfl) fun a hF=>?_
      refine re<|?_
      rcases bdich (decide (vB2 < (p1.L.length:Int))) with hb33 | hb33
      ·
        replace hm:=itp_t hm hb33
        refine tn<|ctv hF rfl hb33<|wk<|?_
        refine tn<|th<|midK (fun a w=>(Z2a (Z2e N Z29 p1 nn5) vB2)=some r∧Fr 99 [(4,.pointer (some ⟨b11,0,none⟩)),(10,.int .i64 vB2)] a∧St w0 Nil [H] [blk b11 (.cells [.int .i64 p1.Regs,.int .i64 p1.Counts,.slice oa7 p1.L.length cap8].toArray 26 (0,0))] w) ?_ ?_
        ·
          refine wb<|th<|?_
          refine rg<|?_
          refine ls<|q1 hF rfl (e_asg hF rfl) fun a hF=>?_
          refine re<|?_
          refine tn<|wb<|lp (α:=Nat×Int) (fun (gh:Nat×Int) a w=>match gh with | (nn7,vD1)=>(Z2f N (Z2a (Z2e N Z29 p1 nn5) vB2) p1 vB2) nn7 vD1=some r∧Fr 99 [(4,.pointer (some ⟨b11,0,none⟩)),(10,.int .i64 vB2),(11,.int .i64 vD1)] a∧St w0 Nil [H] [blk b11 (.cells [.int .i64 p1.Regs,.int .i64 p1.Counts,.slice oa7 p1.L.length cap8].toArray 26 (0,0))] w) (fun gh=>gh.1) (N,0) ⟨hm,hF.has ⟨rfl,rfl,rfl,trivial⟩,hS⟩ ?_
          clear hm hF hS
          rintro ⟨nn7,vD1⟩ a w ⟨hm,hF,hS⟩
          obtain _ | nn7:=nn7
          · simp [Z2f] at hm
          rw [Z2f] at hm
          refine th<|th<|?_
          refine rg<|?_
          refine ls<|q1 hF rfl (e_move hF rfl) fun a hF=>?_
          refine ls<|q1 hF rfl (e_move hF rfl) fun a hF=>?_
          refine ls<|q1 hF rfl (e_lss hF rfl rfl) fun a hF=>?_
          refine re<|?_
          rcases bdich (decide (vD1 < vB2)) with hb34 | hb34
          ·
            replace hm:=itp_t hm hb34
            refine tn<|ctv hF rfl hb34<|wk<|?_
            refine tn<|th<|wb<|th<|midK (fun a w=>∃ (vE2:Int) (vE3:Int) (vE4:Int) (vE5:(List api_Op)) (vE10:(List api_Op)) (vE15:Int) (vE17:Int) (vE18:Int) (vE19:Int) (vE20:(List api_Op)) (vE25:(List api_Op)) (vE30:Int) (bE1:Nat) (oaE6:Option Addr) (capE7:Nat) (oaE11:Option Addr) (capE12:Nat) (bE16:Nat) (oaE21:Option Addr) (capE22:Nat) (oaE26:Option Addr) (capE27:Nat),(Z2b N (Z2f N (Z2a (Z2e N Z29 p1 nn5) vB2) p1 vB2 nn7) vD1 vB2) vE2 vE3 vE4 vE5 vE10 vE15 vE17 vE18 vE19 vE20 vE25 vE30=some r∧Fr 99 [(4,.pointer (some ⟨b11,0,none⟩)),(10,.int .i64 vB2),(11,.int .i64 vD1),(12,.pointer (some ⟨bE1,0,none⟩)),(13,.pointer (some ⟨bE16,0,none⟩))] a∧St w0 Nil [H] [blk b11 (.cells [.int .i64 p1.Regs,.int .i64 p1.Counts,.slice oa7 p1.L.length cap8].toArray 26 (0,0)),blk bE1 (.cells [.int .i64 vE2,.int .i64 vE3,.int .i64 vE4,.slice oaE6 vE5.length capE7,.slice oaE11 vE10.length capE12,.int .i64 vE15].toArray 85 (0,0)),blk bE16 (.cells [.int .i64 vE17,.int .i64 vE18,.int .i64 vE19,.slice oaE21 vE20.length capE22,.slice oaE26 vE25.length capE27,.int .i64 vE30].toArray 85 (0,0))] w∧vE5.length≤capE7∧SR H oaE6 vE5∧vE10.length≤capE12∧SR H oaE11 vE10∧vE20.length≤capE22∧SR H oaE21 vE20∧vE25.length≤capE27∧SR H oaE26 vE25) ?_ ?_
            ·
              replace hm:=bind_some hm
              obtain ⟨x35,h36,hm⟩:=hm
              obtain ⟨c37,g38,hl39⟩:=SR.get hr10 h36
              obtain ⟨oa40,cap41,oa44,cap45,rfl,hc42,hr43,hc46,hr47⟩:=api_Instr_open g38
              replace hm:=bind_some hm
              obtain ⟨x48,h49,hm⟩:=hm
              obtain ⟨c50,g51,hl52⟩:=SR.get hr10 h49
              obtain ⟨oa53,cap54,oa57,cap58,rfl,hc55,hr56,hc59,hr60⟩:=api_Instr_open g51
              refine rdS 13 hS wide fun w hS=>?_
              refine d1 (i:=0) rfl (by kernel_rfl) (by kernel_rfl) (St.ld hS) hF rfl (fun _ _ _ h=>h) (fun w hl=>(e_fa hF fa26_2 rfl)) fun a hF=>?_
              refine d1 (i:=1) rfl (by kernel_rfl) (by kernel_rfl) (St.ld hS) hF rfl (fun _ _ _ h=>h) (fun w hl=>(e_ld hF Tryz.isAgg24 rfl (hl.cellB (.head _) rfl))) fun a hF=>?_
              refine d1 (i:=2) rfl (by kernel_rfl) (by kernel_rfl) (St.ld hS) hF rfl (fun _ _ _ h=>h) (fun w hl=>(e_move hF rfl)) fun a hF=>?_
              refine d1 (i:=3) rfl (by kernel_rfl) (by kernel_rfl) (St.ld hS) hF rfl (fun _ _ _ h=>h) (fun w hl=>(e_iaI hF Tryz.runUnderlying24 Tryz.sizeOf85 rfl rfl h36 (SR.oaI hr10 (by decide) h36))) fun a hF=>?_
              refine d1 (i:=4) rfl (by kernel_rfl) (by kernel_rfl) (St.ld hS) hF rfl (fun _ _ _ h=>h) (fun w hl=>(e_ldA hF Tryz.isAgg85 Tryz.sizeOf85 rfl rfl (fun j v hj=>PH.le.cell (Lds.le hl) (hl39 j v hj)))) fun a hF=>?_
              refine d1 (i:=5) rfl (by kernel_rfl) (by kernel_rfl) (St.ld hS) hF rfl (fun _ _ _ h=>h) (fun w hl=>(e_fa hF fa26_2 rfl)) fun a hF=>?_
              refine d1 (i:=6) rfl (by kernel_rfl) (by kernel_rfl) (St.ld hS) hF rfl (fun _ _ _ h=>h) (fun w hl=>(e_ld hF Tryz.isAgg24 rfl (hl.cellB (.head _) rfl))) fun a hF=>?_
              refine d1 (i:=7) rfl (by kernel_rfl) (by kernel_rfl) (St.ld hS) hF rfl (fun _ _ _ h=>h) (fun w hl=>(e_move hF rfl)) fun a hF=>?_
              refine d1 (i:=8) rfl (by kernel_rfl) (by kernel_rfl) (St.ld hS) hF rfl (fun _ _ _ h=>h) (fun w hl=>(e_iaI hF Tryz.runUnderlying24 Tryz.sizeOf85 rfl rfl h49 (SR.oaI hr10 (by decide) h49))) fun a hF=>?_
              refine d1 (i:=9) rfl (by kernel_rfl) (by kernel_rfl) (St.ld hS) hF rfl (fun _ _ _ h=>h) (fun w hl=>(e_ldA hF Tryz.isAgg85 Tryz.sizeOf85 rfl rfl (fun j v hj=>PH.le.cell (Lds.le hl) (hl52 j v hj)))) fun a hF=>?_
              refine da2 (i:=10) (j:=11) (by kernel_rfl) ?_ ?_
              ·
                refine di (i:=10) rfl<|a_alloc (cs:=[.int .i64 0,.int .i64 0,.int .i64 0,.slice none 0 0,.slice none 0 0,.int .i64 0].toArray) hF rfl hS Tryz.zeroValue85 rfl fun b61 w a hS hF=>?_
                refine ⟨fun _=>(St.ldsX hS (fun _ _ h=>h) (fun _ h=>(.tail _ h))),?_⟩
                refine da1 (i:=11) (by kernel_rfl) ?_
                refine di (i:=11) rfl<|a_alloc (cs:=[.int .i64 0,.int .i64 0,.int .i64 0,.slice none 0 0,.slice none 0 0,.int .i64 0].toArray) hF rfl hS Tryz.zeroValue85 rfl fun b62 w a hS hF=>?_
                refine ⟨fun _=>(St.ldsX hS (fun _ _ h=>h) (fun _ h=>(.tail _ (.tail _ h)))),?_⟩
                refine da1 (i:=12) (by kernel_rfl) ?_
                refine di (i:=12) rfl<|s_blkA hF hS Tryz.sizeOf85 rfl rfl rfl rfl (one_cells rfl) (.tail .head) fun w hS=>?_
                refine ⟨fun _=>(St.ldsX hS (fun _ _ h=>h) (fun _ h=>(.tail _ (.tail _ h)))),?_⟩
                refine da1 (i:=13) (by kernel_rfl) ?_
                refine di (i:=13) rfl<|s_blkA hF hS Tryz.sizeOf85 rfl rfl rfl rfl (one_cells rfl) .head fun w hS=>?_
                refine ⟨fun h=>absurd rfl h,?_⟩
                refine de (by kernel_rfl)<|?_
                refine tn<|?_
                replace hS:=hS.pickL (.cons (.tail (.tail .head)) (.cons (.tail .head) (.cons .head .nil)))
                exact ⟨x35.Kind,x35.A,x35.B,x35.E,x35.F,x35.To,x48.Kind,x48.A,x48.B,x48.E,x48.F,x48.To,b61,oa40,cap41,oa44,cap45,b62,oa53,cap54,oa57,cap58,hm,hF.has ⟨rfl,rfl,rfl,rfl,rfl,trivial⟩,hS,hc42,hr43,hc46,hr47,hc55,hr56,hc59,hr60⟩
              ·
                refine di (i:=11) rfl<|a_alloc (cs:=[.int .i64 0,.int .i64 0,.int .i64 0,.slice none 0 0,.slice none 0 0,.int .i64 0].toArray) hF rfl hS Tryz.zeroValue85 rfl fun b62 w a hS hF=>?_
                refine ⟨fun _=>(St.ldsX hS (fun _ _ h=>h) (fun _ h=>(.tail _ h))),?_⟩
                refine da1 (i:=10) (by kernel_rfl) ?_
                refine di (i:=10) rfl<|a_alloc (cs:=[.int .i64 0,.int .i64 0,.int .i64 0,.slice none 0 0,.slice none 0 0,.int .i64 0].toArray) hF rfl hS Tryz.zeroValue85 rfl fun b61 w a hS hF=>?_
                refine ⟨fun _=>(St.ldsX hS (fun _ _ h=>h) (fun _ h=>(.tail _ (.tail _ h)))),?_⟩
                refine da1 (i:=12) (by kernel_rfl) ?_
                refine di (i:=12) rfl<|s_blkA hF hS Tryz.sizeOf85 rfl rfl rfl rfl (one_cells rfl) .head fun w hS=>?_
                refine ⟨fun _=>(St.ldsX hS (fun _ _ h=>h) (fun _ h=>(.tail _ (.tail _ h)))),?_⟩
                refine da1 (i:=13) (by kernel_rfl) ?_
                refine di (i:=13) rfl<|s_blkA hF hS Tryz.sizeOf85 rfl rfl rfl rfl (one_cells rfl) (.tail .head) fun w hS=>?_
                refine ⟨fun h=>absurd rfl h,?_⟩
                refine de (by kernel_rfl)<|?_
                refine tn<|?_
                replace hS:=hS.pickL (.cons (.tail (.tail .head)) (.cons .head (.cons .head .nil)))
                exact ⟨x35.Kind,x35.A,x35.B,x35.E,x35.F,x35.To,x48.Kind,x48.A,x48.B,x48.E,x48.F,x48.To,b61,oa40,cap41,oa44,cap45,b62,oa53,cap54,oa57,cap58,hm,hF.has ⟨rfl,rfl,rfl,rfl,rfl,trivial⟩,hS,hc42,hr43,hc46,hr47,hc55,hr56,hc59,hr60⟩
            clear hm hF hS
            rintro a w ⟨vE2,vE3,vE4,vE5,vE10,vE15,vE17,vE18,vE19,vE20,vE25,vE30,bE1,oaE6,capE7,oaE11,capE12,bE16,oaE21,capE22,oaE26,capE27,hm,hF,hS,hcE8,hrE9,hcE13,hrE14,hcE23,hrE24,hcE28,hrE29⟩
            unfold Z2b at hm
            refine th<|midK (fun a w=>∃ (vE31:Bool),(Z2c (Z2f N (Z2a (Z2e N Z29 p1 nn5) vB2) p1 vB2 nn7) vD1) vE31=some r∧Fr 99 [(4,.pointer (some ⟨b11,0,none⟩)),(10,.int .i64 vB2),(11,.int .i64 vD1),(98,.bool vE31)] a∧St w0 Nil [H] [blk b11 (.cells [.int .i64 p1.Regs,.int .i64 p1.Counts,.slice oa7 p1.L.length cap8].toArray 26 (0,0))] w) ?_ ?_
            ·
              rcases bdich ((decide (vE2=14)) && (decide (vE17=14))) with hb63 | hb63
              ·
                replace hm:=ite_t hm hb63
                replace hm:=bind_some hm
                obtain ⟨r64,h65,hm⟩:=hm
                refine rg<|?_
                refine ls<|q1 hF rfl (e_fa hF fa85_0 rfl) fun a hF=>?_
                refine ls<|q1 hF rfl (e_ld hF Tryz.isAgg3 rfl ((St.ld hS).cellB (.tail _ (.head _)) rfl)) fun a hF=>?_
                refine ls<|q1 hF rfl (e_eql hF rfl rfl) fun a hF=>?_
                refine ls<|q1 hF rfl (e_move hF rfl) fun a hF=>?_
                refine grp (N:=99) (Fk:=[(4,.pointer (some ⟨b11,0,none⟩)),(10,.int .i64 vB2),(11,.int .i64 vD1),(12,.pointer (some ⟨bE1,0,none⟩)),(13,.pointer (some ⟨bE16,0,none⟩)),(86,.bool ((decide (vE2=14)) && (decide (vE17=14))))]) (b:=(decide (vE2=14))) 4 hS ?_ ?_ ?_
                ·
                  intro hb key
                  replace hF:=Fr.as hF (t:=82) rfl (congrArg Value.bool hb)
                  refine ls<|gy hF rfl rfl<|q1 hF rfl (e_fa hF fa85_0 rfl) fun a hF=>?_
                  refine ls<|gy hF rfl rfl<|q1 hF rfl (e_ld hF Tryz.isAgg3 rfl ((St.ld hS).cellB (.tail _ (.tail _ (.head _))) rfl)) fun a hF=>?_
                  refine ls<|gy hF rfl rfl<|q1 hF rfl (e_eql hF rfl rfl) fun a hF=>?_
                  refine ls<|q1 hF rfl (e_as (v':=.bool ((decide (vE2=14)) && (decide (vE17=14)))) (e_pickT hF rfl rfl) (by rw [hb];rfl)) fun a hF=>?_
                  exact key _ _ (hF.has ⟨rfl,rfl,rfl,rfl,rfl,rfl,trivial⟩) hS
                ·
                  intro hb key
                  replace hF:=Fr.as hF (t:=82) rfl (congrArg Value.bool hb)
                  refine ls<|gn hF rfl rfl rfl rfl fun a hF=>?_
                  refine ls<|gn hF rfl rfl rfl rfl fun a hF=>?_
                  refine ls<|gn hF rfl rfl rfl rfl fun a hF=>?_
                  refine ls<|q1 hF rfl (e_as (v':=.bool ((decide (vE2=14)) && (decide (vE17=14)))) (e_pickF hF rfl rfl) (by rw [hb];rfl)) fun a hF=>?_
                  exact key _ _ (hF.has ⟨rfl,rfl,rfl,rfl,rfl,rfl,trivial⟩) hS
                intro a w hF hS
                refine ls<|q1 hF rfl (e_as (e_move hF rfl) (congrArg Value.bool hb63)) fun a hF=>?_
                refine ls<|gy hF rfl rfl<|q1 hF rfl (e_fa hF fa85_5 rfl) fun a hF=>?_
                refine ls<|gy hF rfl rfl<|q1 hF rfl (e_ld hF Tryz.isAgg3 rfl ((St.ld hS).cellB (.tail _ (.head _)) rfl)) fun a hF=>?_
                refine ls<|gy hF rfl rfl<|q1 hF rfl (e_sub hF rfl rfl) fun a hF=>?_
                refine ls<|gy hF rfl rfl<|q1 hF rfl (e_move hF rfl) fun a hF=>?_
                refine ls<|gy hF rfl rfl<|q1 hF rfl (e_fa hF fa85_5 rfl) fun a hF=>?_
                refine ls<|gy hF rfl rfl<|q1 hF rfl (e_ld hF Tryz.isAgg3 rfl ((St.ld hS).cellB (.tail _ (.tail _ (.head _))) rfl)) fun a hF=>?_
                refine ls<|gy hF rfl rfl<|q1 hF rfl (e_sub hF rfl rfl) fun a hF=>?_
                refine ls<|gy hF rfl rfl<|q1 hF rfl (e_move hF rfl) fun a hF=>?_
                refine ls<|gy hF rfl rfl<|c1 hF rfl Tryz.call114 (Z2v_c (hp_le _) h65) ⟨rfl,rfl,rfl,rfl,trivial⟩ (fun v w a hR hF=>?_)
                obtain ⟨rfl,hk⟩:=hR
                replace hS:=hS.pass hk
                clear hk
                refine ls<|gy hF rfl rfl<|q1 hF rfl (e_not hF rfl) fun a hF=>?_
                refine ls<|q1 hF rfl (e_pickT hF rfl rfl) fun a hF=>?_
                refine re<|?_
                refine tn<|?_
                replace hS:=hS.pickL (.cons .head .nil)
                exact ⟨(!r64),hm,hF.has ⟨rfl,rfl,rfl,rfl,trivial⟩,hS⟩
              ·
                replace hm:=ite_f hm hb63
                refine rg<|?_
                refine ls<|q1 hF rfl (e_fa hF fa85_0 rfl) fun a hF=>?_
                refine ls<|q1 hF rfl (e_ld hF Tryz.isAgg3 rfl ((St.ld hS).cellB (.tail _ (.head _)) rfl)) fun a hF=>?_
                refine ls<|q1 hF rfl (e_eql hF rfl rfl) fun a hF=>?_
                refine ls<|q1 hF rfl (e_move hF rfl) fun a hF=>?_
                refine grp (N:=99) (Fk:=[(4,.pointer (some ⟨b11,0,none⟩)),(10,.int .i64 vB2),(11,.int .i64 vD1),(12,.pointer (some ⟨bE1,0,none⟩)),(13,.pointer (some ⟨bE16,0,none⟩)),(86,.bool ((decide (vE2=14)) && (decide (vE17=14))))]) (b:=(decide (vE2=14))) 4 hS ?_ ?_ ?_
                ·
                  intro hb key
                  replace hF:=Fr.as hF (t:=82) rfl (congrArg Value.bool hb)
                  refine ls<|gy hF rfl rfl<|q1 hF rfl (e_fa hF fa85_0 rfl) fun a hF=>?_
                  refine ls<|gy hF rfl rfl<|q1 hF rfl (e_ld hF Tryz.isAgg3 rfl ((St.ld hS).cellB (.tail _ (.tail _ (.head _))) rfl)) fun a hF=>?_
                  refine ls<|gy hF rfl rfl<|q1 hF rfl (e_eql hF rfl rfl) fun a hF=>?_
                  refine ls<|q1 hF rfl (e_as (v':=.bool ((decide (vE2=14)) && (decide (vE17=14)))) (e_pickT hF rfl rfl) (by rw [hb];rfl)) fun a hF=>?_
                  exact key _ _ (hF.has ⟨rfl,rfl,rfl,rfl,rfl,rfl,trivial⟩) hS
                ·
                  intro hb key
                  replace hF:=Fr.as hF (t:=82) rfl (congrArg Value.bool hb)
                  refine ls<|gn hF rfl rfl rfl rfl fun a hF=>?_
                  refine ls<|gn hF rfl rfl rfl rfl fun a hF=>?_
                  refine ls<|gn hF rfl rfl rfl rfl fun a hF=>?_
                  refine ls<|q1 hF rfl (e_as (v':=.bool ((decide (vE2=14)) && (decide (vE17=14)))) (e_pickF hF rfl rfl) (by rw [hb];rfl)) fun a hF=>?_
                  exact key _ _ (hF.has ⟨rfl,rfl,rfl,rfl,rfl,rfl,trivial⟩) hS
                intro a w hF hS
                refine ls<|q1 hF rfl (e_as (e_move hF rfl) (congrArg Value.bool hb63)) fun a hF=>?_
                refine ls<|gn hF rfl rfl rfl rfl fun a hF=>?_
                refine ls<|gn hF rfl rfl rfl rfl fun a hF=>?_
                refine ls<|gn hF rfl rfl rfl rfl fun a hF=>?_
                refine ls<|gn hF rfl rfl rfl rfl fun a hF=>?_
                refine ls<|gn hF rfl rfl rfl rfl fun a hF=>?_
                refine ls<|gn hF rfl rfl rfl rfl fun a hF=>?_
                refine ls<|gn hF rfl rfl rfl rfl fun a hF=>?_
                refine ls<|gn hF rfl rfl rfl rfl fun a hF=>?_
                refine ls<|gn hF rfl rfl rfl rfl fun a hF=>?_
                refine ls<|gn hF rfl rfl rfl rfl fun a hF=>?_
                refine ls<|q1 hF rfl (e_pickF hF rfl rfl) fun a hF=>?_
                refine re<|?_
                refine tn<|?_
                replace hS:=hS.pickL (.cons .head .nil)
                exact ⟨false,hm,hF.has ⟨rfl,rfl,rfl,rfl,trivial⟩,hS⟩
            clear hm hF hS
            rintro a w ⟨vE31,hm,hF,hS⟩
            unfold Z2c at hm
            rcases bdich vE31 with hb66 | hb66
            ·
              replace hm:=ite_t hm hb66
              refine ctv hF rfl hb66<|th<|?_
              refine rg<|?_
              refine ls<|q1 hF rfl (e_asg hF rfl) fun a hF=>?_
              refine re<|?_
              refine tn<|?_
              refine wr<|br<|tr<|tr<|br<|br<|tr<|tr<|br<|tr<|?_
              obtain rfl:=Option.some.inj hm
              exact r1 hF Tryz.results69 rfl ⟨rfl,hS.keep⟩
            ·
              replace hm:=ite_f hm hb66
              refine cfv hF rfl hb66<|wk<|?_
              refine bn<|tn<|?_
              refine rg<|?_
              refine ls<|q1 hF rfl (e_move hF rfl) fun a hF=>?_
              refine ls<|q1 hF rfl (e_add hF rfl rfl) fun a hF=>?_
              refine ls<|q1 hF rfl (e_asg hF rfl) fun a hF=>?_
              refine re<|?_
              refine tn<|?_
              exact ⟨(nn7,(IntKind.i64.wrap (vD1+1))),⟨hm,hF.has ⟨rfl,rfl,rfl,trivial⟩,hS⟩,Nat.lt_succ_self _⟩
          ·
            replace hm:=itp_f hm hb34
            refine tn<|cfv hF rfl hb34<|?_
            refine we<|tx<|tx<|bx<|?_
            refine bn<|tn<|?_
            exact ⟨hm,hF.has ⟨rfl,rfl,trivial⟩,hS⟩
        clear hm hF hS
        rintro a w ⟨hm,hF,hS⟩
        unfold Z2a at hm
        refine rg<|?_
        refine ls<|q1 hF rfl (e_move hF rfl) fun a hF=>?_
        refine ls<|q1 hF rfl (e_add hF rfl rfl) fun a hF=>?_
        refine ls<|q1 hF rfl (e_asg hF rfl) fun a hF=>?_
        refine re<|?_
        refine tn<|?_
        exact ⟨(nn5,(IntKind.i64.wrap (vB2+1))),⟨hm,hF.has ⟨rfl,rfl,trivial⟩,hS⟩,Nat.lt_succ_self _⟩
      ·
        replace hm:=itp_f hm hb33
        refine tn<|cfv hF rfl hb33<|?_
        refine we<|tx<|tx<|bx<|?_
        refine tn<|?_
        replace hS:=hS.pickL .nil
        exact ⟨hm,hF.has trivial,hS⟩
    clear hm hF hS
    rintro a w ⟨hm,hF,hS⟩
    unfold Z29 at hm
    refine th<|?_
    refine rg<|?_
    refine ls<|q1 hF rfl (e_asg hF rfl) fun a hF=>?_
    refine re<|?_
    refine tn<|?_
    refine wr<|?_
    obtain rfl:=Option.some.inj hm
    exact r1 hF Tryz.results69 rfl ⟨rfl,hS.keep⟩
set_option maxHeartbeats 4000000 in
set_option maxRecDepth 100000 in
theorem Z2h_c {N:Nat} {w0:World} {H:PH} (hH:H.le w0) {cs2:List Value} {p1:api_Unit} (g3:Enc.rep H cs2 p1) {r:Bool} (hm:Z2h N p1=some r):Tot Tryz.prog 27 #[.agg cs2.toArray] w0 (fun v w'=>v=.bool r∧Keep Nil w0 w'):=by
  unfold Z2h at hm
  refine fn0 (args:=[.agg cs2.toArray]) (F:=[(0,.agg cs2.toArray)]) Tryz.func27 rfl Tryz.ntmps27 rfl rfl fun a hF=>?_
  have hS:St w0 Nil [H] [] w0:=start1 hH
  have g4:Enc.rep (α:=(List Int)×Int×(List Int)×Int×(List api_Code)×api_Code×(List (List api_Op))) H cs2 (p1.Lines,p1.Stays,p1.Firsts,p1.Locks,p1.Threads,p1.Recover,p1.Claims):=g3
  obtain ⟨qz5,qz6,rfl,g7,g8⟩:=g4
  obtain ⟨oa9,cap10,rfl,hc11,hr12⟩:=g7
  obtain ⟨q13,q14,rfl,g15,g16⟩:=g8
  obtain rfl:q13=[.int .i64 p1.Stays]:=g15
  obtain ⟨q17,q18,rfl,g19,g20⟩:=g16
  obtain ⟨oa21,cap22,rfl,hc23,hr24⟩:=g19
  obtain ⟨q25,q26,rfl,g27,g28⟩:=g20
  obtain rfl:q25=[.int .i64 p1.Locks]:=g27
  obtain ⟨q29,q30,rfl,g31,g32⟩:=g28
  obtain ⟨oa33,cap34,rfl,hc35,hr36⟩:=g31
  obtain ⟨q37,q38,rfl,g39,g40⟩:=g32
  obtain ⟨oa41,cap42,rfl,hc43,hr44⟩:=api_Code_open g39
  obtain ⟨oa45,cap46,rfl,hc47,hr48⟩:=g40
  refine th<|?_
  refine rg<|?_
  refine ls<|a_box (cs:=[.slice oa9 p1.Lines.length cap10,.int .i64 p1.Stays,.slice oa21 p1.Firsts.length cap22,.int .i64 p1.Locks,.slice oa33 p1.Threads.length cap34,.int .i64 p1.Recover.Regs,.int .i64 p1.Recover.Counts,.slice oa41 p1.Recover.L.length cap42,.slice oa45 p1.Claims.length cap46].toArray) hF rfl hS rfl rfl fun b49 w a hS hF=>?_
  refine ls<|q1 hF rfl (e_asg hF rfl) fun a hF=>?_
  refine re<|?_
  refine tn<|th<|th<|?_
  refine rg<|?_
  refine ls<|q1 hF rfl (e_fa hF fa29_0 rfl) fun a hF=>?_
  refine ls<|q1 hF rfl (e_ld hF Tryz.isAgg22 rfl ((St.ld hS).cellB (.head _) rfl)) fun a hF=>?_
  refine ls<|q1 hF rfl (e_lenL (α:=Int) (xs:=p1.Lines) hF Tryz.runUnderlying22 rfl) fun a hF=>?_
  refine ls<|q1 hF rfl (e_gtr hF rfl rfl) fun a hF=>?_
  refine ls<|q1 hF rfl (e_move hF rfl) fun a hF=>?_
  refine grp (N:=159) (Fk:=[(1,.pointer (some ⟨b49,0,none⟩)),(15,.bool ((decide (20 < (p1.Lines.length:Int))) || (decide (p1.Stays < 0))))]) (b:=(decide (20 < (p1.Lines.length:Int)))) 4 hS ?_ ?_ ?_
  ·
    intro hb key
    replace hF:=Fr.as hF (t:=11) rfl (congrArg Value.bool hb)
    refine ls<|gn hF rfl rfl rfl rfl fun a hF=>?_
    refine ls<|gn hF rfl rfl rfl rfl fun a hF=>?_
    refine ls<|gn hF rfl rfl rfl rfl fun a hF=>?_
    refine ls<|q1 hF rfl (e_as (v':=.bool ((decide (20 < (p1.Lines.length:Int))) || (decide (p1.Stays < 0)))) (e_pickT hF rfl rfl) (by rw [hb];rfl)) fun a hF=>?_
    exact key _ _ (hF.has ⟨rfl,rfl,trivial⟩) hS
  ·
    intro hb key
    replace hF:=Fr.as hF (t:=11) rfl (congrArg Value.bool hb)
    refine ls<|gy hF rfl rfl<|q1 hF rfl (e_fa hF fa29_1 rfl) fun a hF=>?_
    refine ls<|gy hF rfl rfl<|q1 hF rfl (e_ld hF Tryz.isAgg3 rfl ((St.ld hS).cellB (.head _) rfl)) fun a hF=>?_
    refine ls<|gy hF rfl rfl<|q1 hF rfl (e_lss hF rfl rfl) fun a hF=>?_
    refine ls<|q1 hF rfl (e_as (v':=.bool ((decide (20 < (p1.Lines.length:Int))) || (decide (p1.Stays < 0)))) (e_pickF hF rfl rfl) (by rw [hb];rfl)) fun a hF=>?_
    exact key _ _ (hF.has ⟨rfl,rfl,trivial⟩) hS
  intro a w hF hS
  refine ls<|q1 hF rfl (e_move hF rfl) fun a hF=>?_
  refine grp (N:=159) (Fk:=[(1,.pointer (some ⟨b49,0,none⟩)),(23,.bool (((decide (20 < (p1.Lines.length:Int))) || (decide (p1.Stays < 0))) || (decide ((p1.Lines.length:Int) < p1.Stays))))]) (b:=((decide (20 < (p1.Lines.length:Int))) || (decide (p1.Stays < 0)))) 7 hS ?_ ?_ ?_
  ·
    intro hb key
    replace hF:=Fr.as hF (t:=16) rfl (congrArg Value.bool hb)
    refine ls<|gn hF rfl rfl rfl rfl fun a hF=>?_
    refine ls<|gn hF rfl rfl rfl rfl fun a hF=>?_
    refine ls<|gn hF rfl rfl rfl rfl fun a hF=>?_
    refine ls<|gn hF rfl rfl rfl rfl fun a hF=>?_
    refine ls<|gn hF rfl rfl rfl rfl fun a hF=>?_
    refine ls<|gn hF rfl rfl rfl rfl fun a hF=>?_
    refine ls<|q1 hF rfl (e_as (v':=.bool (((decide (20 < (p1.Lines.length:Int))) || (decide (p1.Stays < 0))) || (decide ((p1.Lines.length:Int) < p1.Stays)))) (e_pickT hF rfl rfl) (by rw [hb];rfl)) fun a hF=>?_
    exact key _ _ (hF.has ⟨rfl,rfl,trivial⟩) hS
  ·
    intro hb key
    replace hF:=Fr.as hF (t:=16) rfl (congrArg Value.bool hb)
    refine ls<|gy hF rfl rfl<|q1 hF rfl (e_fa hF fa29_1 rfl) fun a hF=>?_
    refine ls<|gy hF rfl rfl<|q1 hF rfl (e_ld hF Tryz.isAgg3 rfl ((St.ld hS).cellB (.head _) rfl)) fun a hF=>?_
    refine ls<|gy hF rfl rfl<|q1 hF rfl (e_fa hF fa29_0 rfl) fun a hF=>?_
    refine ls<|gy hF rfl rfl<|q1 hF rfl (e_ld hF Tryz.isAgg22 rfl ((St.ld hS).cellB (.head _) rfl)) fun a hF=>?_
    refine ls<|gy hF rfl rfl<|q1 hF rfl (e_lenL (α:=Int) (xs:=p1.Lines) hF Tryz.runUnderlying22 rfl) fun a hF=>?_
    refine ls<|gy hF rfl rfl<|q1 hF rfl (e_gtr hF rfl rfl) fun a hF=>?_
    refine ls<|q1 hF rfl (e_as (v':=.bool (((decide (20 < (p1.Lines.length:Int))) || (decide (p1.Stays < 0))) || (decide ((p1.Lines.length:Int) < p1.Stays)))) (e_pickF hF rfl rfl) (by rw [hb];rfl)) fun a hF=>?_
    exact key _ _ (hF.has ⟨rfl,rfl,trivial⟩) hS
  intro a w hF hS
  refine ls<|q1 hF rfl (e_move hF rfl) fun a hF=>?_
  refine grp (N:=159) (Fk:=[(1,.pointer (some ⟨b49,0,none⟩)),(32,.bool ((((decide (20 < (p1.Lines.length:Int))) || (decide (p1.Stays < 0))) || (decide ((p1.Lines.length:Int) < p1.Stays))) || (decide ((p1.Firsts.length:Int)≠(p1.Lines.length:Int)))))]) (b:=(((decide (20 < (p1.Lines.length:Int))) || (decide (p1.Stays < 0))) || (decide ((p1.Lines.length:Int) < p1.Stays)))) 8 hS ?_ ?_ ?_
  ·
    intro hb key
    replace hF:=Fr.as hF (t:=24) rfl (congrArg Value.bool hb)
    refine ls<|gn hF rfl rfl rfl rfl fun a hF=>?_
    refine ls<|gn hF rfl rfl rfl rfl fun a hF=>?_
    refine ls<|gn hF rfl rfl rfl rfl fun a hF=>?_
    refine ls<|gn hF rfl rfl rfl rfl fun a hF=>?_
    refine ls<|gn hF rfl rfl rfl rfl fun a hF=>?_
    refine ls<|gn hF rfl rfl rfl rfl fun a hF=>?_
    refine ls<|gn hF rfl rfl rfl rfl fun a hF=>?_
    refine ls<|q1 hF rfl (e_as (v':=.bool ((((decide (20 < (p1.Lines.length:Int))) || (decide (p1.Stays < 0))) || (decide ((p1.Lines.length:Int) < p1.Stays))) || (decide ((p1.Firsts.length:Int)≠(p1.Lines.length:Int))))) (e_pickT hF rfl rfl) (by rw [hb];rfl)) fun a hF=>?_
    exact key _ _ (hF.has ⟨rfl,rfl,trivial⟩) hS
  ·
    intro hb key
    replace hF:=Fr.as hF (t:=24) rfl (congrArg Value.bool hb)
    refine ls<|gy hF rfl rfl<|q1 hF rfl (e_fa hF fa29_2 rfl) fun a hF=>?_
    refine ls<|gy hF rfl rfl<|q1 hF rfl (e_ld hF Tryz.isAgg22 rfl ((St.ld hS).cellB (.head _) rfl)) fun a hF=>?_
    refine ls<|gy hF rfl rfl<|q1 hF rfl (e_lenL (α:=Int) (xs:=p1.Firsts) hF Tryz.runUnderlying22 rfl) fun a hF=>?_
    refine ls<|gy hF rfl rfl<|q1 hF rfl (e_fa hF fa29_0 rfl) fun a hF=>?_
    refine ls<|gy hF rfl rfl<|q1 hF rfl (e_ld hF Tryz.isAgg22 rfl ((St.ld hS).cellB (.head _) rfl)) fun a hF=>?_
    refine ls<|gy hF rfl rfl<|q1 hF rfl (e_lenL (α:=Int) (xs:=p1.Lines) hF Tryz.runUnderlying22 rfl) fun a hF=>?_
    refine ls<|gy hF rfl rfl<|q1 hF rfl (e_neq hF rfl rfl) fun a hF=>?_
    refine ls<|q1 hF rfl (e_as (v':=.bool ((((decide (20 < (p1.Lines.length:Int))) || (decide (p1.Stays < 0))) || (decide ((p1.Lines.length:Int) < p1.Stays))) || (decide ((p1.Firsts.length:Int)≠(p1.Lines.length:Int))))) (e_pickF hF rfl rfl) (by rw [hb];rfl)) fun a hF=>?_
    exact key _ _ (hF.has ⟨rfl,rfl,trivial⟩) hS
  intro a w hF hS
  refine ls<|q1 hF rfl (e_move hF rfl) fun a hF=>?_
  refine grp (N:=159) (Fk:=[(1,.pointer (some ⟨b49,0,none⟩)),(37,.bool (((((decide (20 < (p1.Lines.length:Int))) || (decide (p1.Stays < 0))) || (decide ((p1.Lines.length:Int) < p1.Stays))) || (decide ((p1.Firsts.length:Int)≠(p1.Lines.length:Int)))) || (decide (p1.Locks < 0))))]) (b:=((((decide (20 < (p1.Lines.length:Int))) || (decide (p1.Stays < 0))) || (decide ((p1.Lines.length:Int) < p1.Stays))) || (decide ((p1.Firsts.length:Int)≠(p1.Lines.length:Int))))) 4 hS ?_ ?_ ?_
  ·
    intro hb key
    replace hF:=Fr.as hF (t:=33) rfl (congrArg Value.bool hb)
    refine ls<|gn hF rfl rfl rfl rfl fun a hF=>?_
    refine ls<|gn hF rfl rfl rfl rfl fun a hF=>?_
    refine ls<|gn hF rfl rfl rfl rfl fun a hF=>?_
    refine ls<|q1 hF rfl (e_as (v':=.bool (((((decide (20 < (p1.Lines.length:Int))) || (decide (p1.Stays < 0))) || (decide ((p1.Lines.length:Int) < p1.Stays))) || (decide ((p1.Firsts.length:Int)≠(p1.Lines.length:Int)))) || (decide (p1.Locks < 0)))) (e_pickT hF rfl rfl) (by rw [hb];rfl)) fun a hF=>?_
    exact key _ _ (hF.has ⟨rfl,rfl,trivial⟩) hS
  ·
    intro hb key
    replace hF:=Fr.as hF (t:=33) rfl (congrArg Value.bool hb)
    refine ls<|gy hF rfl rfl<|q1 hF rfl (e_fa hF fa29_3 rfl) fun a hF=>?_
    refine ls<|gy hF rfl rfl<|q1 hF rfl (e_ld hF Tryz.isAgg3 rfl ((St.ld hS).cellB (.head _) rfl)) fun a hF=>?_
    refine ls<|gy hF rfl rfl<|q1 hF rfl (e_lss hF rfl rfl) fun a hF=>?_
    refine ls<|q1 hF rfl (e_as (v':=.bool (((((decide (20 < (p1.Lines.length:Int))) || (decide (p1.Stays < 0))) || (decide ((p1.Lines.length:Int) < p1.Stays))) || (decide ((p1.Firsts.length:Int)≠(p1.Lines.length:Int)))) || (decide (p1.Locks < 0)))) (e_pickF hF rfl rfl) (by rw [hb];rfl)) fun a hF=>?_
    exact key _ _ (hF.has ⟨rfl,rfl,trivial⟩) hS
  intro a w hF hS
  refine ls<|q1 hF rfl (e_move hF rfl) fun a hF=>?_
  refine grp (N:=159) (Fk:=[(1,.pointer (some ⟨b49,0,none⟩)),(42,.bool ((((((decide (20 < (p1.Lines.length:Int))) || (decide (p1.Stays < 0))) || (decide ((p1.Lines.length:Int) < p1.Stays))) || (decide ((p1.Firsts.length:Int)≠(p1.Lines.length:Int)))) || (decide (p1.Locks < 0))) || (decide (2 < p1.Locks))))]) (b:=(((((decide (20 < (p1.Lines.length:Int))) || (decide (p1.Stays < 0))) || (decide ((p1.Lines.length:Int) < p1.Stays))) || (decide ((p1.Firsts.length:Int)≠(p1.Lines.length:Int)))) || (decide (p1.Locks < 0)))) 4 hS ?_ ?_ ?_
  ·
    intro hb key
    replace hF:=Fr.as hF (t:=38) rfl (congrArg Value.bool hb)
    refine ls<|gn hF rfl rfl rfl rfl fun a hF=>?_
    refine ls<|gn hF rfl rfl rfl rfl fun a hF=>?_
    refine ls<|gn hF rfl rfl rfl rfl fun a hF=>?_
    refine ls<|q1 hF rfl (e_as (v':=.bool ((((((decide (20 < (p1.Lines.length:Int))) || (decide (p1.Stays < 0))) || (decide ((p1.Lines.length:Int) < p1.Stays))) || (decide ((p1.Firsts.length:Int)≠(p1.Lines.length:Int)))) || (decide (p1.Locks < 0))) || (decide (2 < p1.Locks)))) (e_pickT hF rfl rfl) (by rw [hb];rfl)) fun a hF=>?_
    exact key _ _ (hF.has ⟨rfl,rfl,trivial⟩) hS
  ·
    intro hb key
    replace hF:=Fr.as hF (t:=38) rfl (congrArg Value.bool hb)
    refine ls<|gy hF rfl rfl<|q1 hF rfl (e_fa hF fa29_3 rfl) fun a hF=>?_
    refine ls<|gy hF rfl rfl<|q1 hF rfl (e_ld hF Tryz.isAgg3 rfl ((St.ld hS).cellB (.head _) rfl)) fun a hF=>?_
    refine ls<|gy hF rfl rfl<|q1 hF rfl (e_gtr hF rfl rfl) fun a hF=>?_
    refine ls<|q1 hF rfl (e_as (v':=.bool ((((((decide (20 < (p1.Lines.length:Int))) || (decide (p1.Stays < 0))) || (decide ((p1.Lines.length:Int) < p1.Stays))) || (decide ((p1.Firsts.length:Int)≠(p1.Lines.length:Int)))) || (decide (p1.Locks < 0))) || (decide (2 < p1.Locks)))) (e_pickF hF rfl rfl) (by rw [hb];rfl)) fun a hF=>?_
    exact key _ _ (hF.has ⟨rfl,rfl,trivial⟩) hS
  intro a w hF hS
  refine ls<|q1 hF rfl (e_move hF rfl) fun a hF=>?_
  refine grp (N:=159) (Fk:=[(1,.pointer (some ⟨b49,0,none⟩)),(48,.bool (((((((decide (20 < (p1.Lines.length:Int))) || (decide (p1.Stays < 0))) || (decide ((p1.Lines.length:Int) < p1.Stays))) || (decide ((p1.Firsts.length:Int)≠(p1.Lines.length:Int)))) || (decide (p1.Locks < 0))) || (decide (2 < p1.Locks))) || (decide ((p1.Threads.length:Int) < 1))))]) (b:=((((((decide (20 < (p1.Lines.length:Int))) || (decide (p1.Stays < 0))) || (decide ((p1.Lines.length:Int) < p1.Stays))) || (decide ((p1.Firsts.length:Int)≠(p1.Lines.length:Int)))) || (decide (p1.Locks < 0))) || (decide (2 < p1.Locks)))) 5 hS ?_ ?_ ?_
  ·
    intro hb key
    replace hF:=Fr.as hF (t:=43) rfl (congrArg Value.bool hb)
    refine ls<|gn hF rfl rfl rfl rfl fun a hF=>?_
    refine ls<|gn hF rfl rfl rfl rfl fun a hF=>?_
    refine ls<|gn hF rfl rfl rfl rfl fun a hF=>?_
    refine ls<|gn hF rfl rfl rfl rfl fun a hF=>?_
    refine ls<|q1 hF rfl (e_as (v':=.bool (((((((decide (20 < (p1.Lines.length:Int))) || (decide (p1.Stays < 0))) || (decide ((p1.Lines.length:Int) < p1.Stays))) || (decide ((p1.Firsts.length:Int)≠(p1.Lines.length:Int)))) || (decide (p1.Locks < 0))) || (decide (2 < p1.Locks))) || (decide ((p1.Threads.length:Int) < 1)))) (e_pickT hF rfl rfl) (by rw [hb];rfl)) fun a hF=>?_
    exact key _ _ (hF.has ⟨rfl,rfl,trivial⟩) hS
  ·
    intro hb key
    replace hF:=Fr.as hF (t:=43) rfl (congrArg Value.bool hb)
    refine ls<|gy hF rfl rfl<|q1 hF rfl (e_fa hF fa29_4 rfl) fun a hF=>?_
    refine ls<|gy hF rfl rfl<|q1 hF rfl (e_ld hF Tryz.isAgg23 rfl ((St.ld hS).cellB (.head _) rfl)) fun a hF=>?_
    refine ls<|gy hF rfl rfl<|q1 hF rfl (e_lenL (α:=api_Code) (xs:=p1.Threads) hF Tryz.runUnderlying23 rfl) fun a hF=>?_
    refine ls<|gy hF rfl rfl<|q1 hF rfl (e_lss hF rfl rfl) fun a hF=>?_
    refine ls<|q1 hF rfl (e_as (v':=.bool (((((((decide (20 < (p1.Lines.length:Int))) || (decide (p1.Stays < 0))) || (decide ((p1.Lines.length:Int) < p1.Stays))) || (decide ((p1.Firsts.length:Int)≠(p1.Lines.length:Int)))) || (decide (p1.Locks < 0))) || (decide (2 < p1.Locks))) || (decide ((p1.Threads.length:Int) < 1)))) (e_pickF hF rfl rfl) (by rw [hb];rfl)) fun a hF=>?_
    exact key _ _ (hF.has ⟨rfl,rfl,trivial⟩) hS
  intro a w hF hS
  refine ls<|q1 hF rfl (e_move hF rfl) fun a hF=>?_
  refine grp (N:=159) (Fk:=[(1,.pointer (some ⟨b49,0,none⟩)),(54,.bool ((((((((decide (20 < (p1.Lines.length:Int))) || (decide (p1.Stays < 0))) || (decide ((p1.Lines.length:Int) < p1.Stays))) || (decide ((p1.Firsts.length:Int)≠(p1.Lines.length:Int)))) || (decide (p1.Locks < 0))) || (decide (2 < p1.Locks))) || (decide ((p1.Threads.length:Int) < 1))) || (decide (3 < (p1.Threads.length:Int)))))]) (b:=(((((((decide (20 < (p1.Lines.length:Int))) || (decide (p1.Stays < 0))) || (decide ((p1.Lines.length:Int) < p1.Stays))) || (decide ((p1.Firsts.length:Int)≠(p1.Lines.length:Int)))) || (decide (p1.Locks < 0))) || (decide (2 < p1.Locks))) || (decide ((p1.Threads.length:Int) < 1)))) 5 hS ?_ ?_ ?_
  ·
    intro hb key
    replace hF:=Fr.as hF (t:=49) rfl (congrArg Value.bool hb)
    refine ls<|gn hF rfl rfl rfl rfl fun a hF=>?_
    refine ls<|gn hF rfl rfl rfl rfl fun a hF=>?_
    refine ls<|gn hF rfl rfl rfl rfl fun a hF=>?_
    refine ls<|gn hF rfl rfl rfl rfl fun a hF=>?_
    refine ls<|q1 hF rfl (e_as (v':=.bool ((((((((decide (20 < (p1.Lines.length:Int))) || (decide (p1.Stays < 0))) || (decide ((p1.Lines.length:Int) < p1.Stays))) || (decide ((p1.Firsts.length:Int)≠(p1.Lines.length:Int)))) || (decide (p1.Locks < 0))) || (decide (2 < p1.Locks))) || (decide ((p1.Threads.length:Int) < 1))) || (decide (3 < (p1.Threads.length:Int))))) (e_pickT hF rfl rfl) (by rw [hb];rfl)) fun a hF=>?_
    exact key _ _ (hF.has ⟨rfl,rfl,trivial⟩) hS
  ·
    intro hb key
    replace hF:=Fr.as hF (t:=49) rfl (congrArg Value.bool hb)
    refine ls<|gy hF rfl rfl<|q1 hF rfl (e_fa hF fa29_4 rfl) fun a hF=>?_
    refine ls<|gy hF rfl rfl<|q1 hF rfl (e_ld hF Tryz.isAgg23 rfl ((St.ld hS).cellB (.head _) rfl)) fun a hF=>?_
    refine ls<|gy hF rfl rfl<|q1 hF rfl (e_lenL (α:=api_Code) (xs:=p1.Threads) hF Tryz.runUnderlying23 rfl) fun a hF=>?_
    refine ls<|gy hF rfl rfl<|q1 hF rfl (e_gtr hF rfl rfl) fun a hF=>?_
    refine ls<|q1 hF rfl (e_as (v':=.bool ((((((((decide (20 < (p1.Lines.length:Int))) || (decide (p1.Stays < 0))) || (decide ((p1.Lines.length:Int) < p1.Stays))) || (decide ((p1.Firsts.length:Int)≠(p1.Lines.length:Int)))) || (decide (p1.Locks < 0))) || (decide (2 < p1.Locks))) || (decide ((p1.Threads.length:Int) < 1))) || (decide (3 < (p1.Threads.length:Int))))) (e_pickF hF rfl rfl) (by rw [hb];rfl)) fun a hF=>?_
    exact key _ _ (hF.has ⟨rfl,rfl,trivial⟩) hS
  intro a w hF hS
  refine re<|?_
  rcases bdich ((((((((decide (20 < (p1.Lines.length:Int))) || (decide (p1.Stays < 0))) || (decide ((p1.Lines.length:Int) < p1.Stays))) || (decide ((p1.Firsts.length:Int)≠(p1.Lines.length:Int)))) || (decide (p1.Locks < 0))) || (decide (2 < p1.Locks))) || (decide ((p1.Threads.length:Int) < 1))) || (decide (3 < (p1.Threads.length:Int)))) with hb50 | hb50
  ·
    replace hm:=ite_t hm hb50
    refine tn<|ctv hF rfl hb50<|th<|?_
    refine rg<|?_
    refine ls<|q1 hF rfl (e_asg hF rfl) fun a hF=>?_
    refine re<|?_
    refine tn<|?_
    refine wr<|tr<|?_
    obtain rfl:=Option.some.inj hm
    exact r1 hF Tryz.results27 rfl ⟨rfl,hS.keep⟩
  ·
    replace hm:=ite_f hm hb50
    refine tn<|cfv hF rfl hb50<|wk<|?_
    refine tn<|th<|th<|?_
    refine rg<|?_
    refine ls<|q1 hF rfl (e_asg hF rfl) fun a hF=>?_
    refine re<|?_
    refine tn<|midK (fun a w=>(Z2i N p1)=some r∧Fr 159 [(1,.pointer (some ⟨b49,0,none⟩))] a∧St w0 Nil [H] [blk b49 (.cells [.slice oa9 p1.Lines.length cap10,.int .i64 p1.Stays,.slice oa21 p1.Firsts.length cap22,.int .i64 p1.Locks,.slice oa33 p1.Threads.length cap34,.int .i64 p1.Recover.Regs,.int .i64 p1.Recover.Counts,.slice oa41 p1.Recover.L.length cap42,.slice oa45 p1.Claims.length cap46].toArray 29 (0,0))] w) ?_ ?_
    ·
      refine wb<|lp (α:=Nat×Int) (fun (gh:Nat×Int) a w=>match gh with | (nn2,vB1)=>(Z2m N (Z2i N p1) p1) nn2 vB1=some r∧Fr 159 [(1,.pointer (some ⟨b49,0,none⟩)),(3,.int .i64 vB1)] a∧St w0 Nil [H] [blk b49 (.cells [.slice oa9 p1.Lines.length cap10,.int .i64 p1.Stays,.slice oa21 p1.Firsts.length cap22,.int .i64 p1.Locks,.slice oa33 p1.Threads.length cap34,.int .i64 p1.Recover.Regs,.int .i64 p1.Recover.Counts,.slice oa41 p1.Recover.L.length cap42,.slice oa45 p1.Claims.length cap46].toArray 29 (0,0))] w) (fun gh=>gh.1) (N,0) ⟨hm,hF.has ⟨rfl,rfl,trivial⟩,hS⟩ ?_
      clear hm hF hS
      rintro ⟨nn2,vB1⟩ a w ⟨hm,hF,hS⟩
      obtain _ | nn2:=nn2
      · simp [Z2m] at hm
      rw [Z2m] at hm
      refine th<|th<|?_
      refine rg<|?_
      refine ls<|q1 hF rfl (e_move hF rfl) fun a hF=>?_
      refine ls<|q1 hF rfl (e_fa hF fa29_0 rfl) fun a hF=>?_
      refine ls<|q1 hF rfl (e_ld hF Tryz.isAgg22 rfl ((St.ld hS).cellB (.head _) rfl)) fun a hF=>?_
      refine ls<|q1 hF rfl (e_lenL (α:=Int) (xs:=p1.Lines) hF Tryz.runUnderlying22 rfl) fun a hF=>?_
      refine ls<|q1 hF rfl (e_lss hF rfl rfl) fun a hF=>?_
      refine re<|?_
      rcases bdich (decide (vB1 < (p1.Lines.length:Int))) with hb51 | hb51
      ·
        replace hm:=itp_t hm hb51
        refine tn<|ctv hF rfl hb51<|wk<|?_
        refine tn<|th<|wb<|th<|th<|?_
        replace hm:=bind_some hm
        obtain ⟨x52,h53,hm⟩:=hm
        obtain ⟨c54,g55,hl56⟩:=SR.get hr24 h53
        obtain rfl:c54=[.int .i64 x52]:=g55
        refine rg<|?_
        refine ls<|q1 hF rfl (e_fa hF fa29_2 rfl) fun a hF=>?_
        refine ls<|q1 hF rfl (e_ld hF Tryz.isAgg22 rfl ((St.ld hS).cellB (.head _) rfl)) fun a hF=>?_
        refine ls<|q1 hF rfl (e_move hF rfl) fun a hF=>?_
        refine ls<|q1 hF rfl (e_iaI hF Tryz.runUnderlying22 Tryz.sizeOf3 rfl rfl h53 (SR.oaI hr24 (by decide) h53)) fun a hF=>?_
        refine ls<|q1 hF rfl (e_ld hF Tryz.isAgg3 rfl (PH.le.cell (Lds.le (St.ld hS)) (hl56 0 _ rfl))) fun a hF=>?_
        refine ls<|q1 hF rfl (e_lss hF rfl rfl) fun a hF=>?_
        refine ls<|q1 hF rfl (e_move hF rfl) fun a hF=>?_
        refine grp (N:=159) (Fk:=[(1,.pointer (some ⟨b49,0,none⟩)),(3,.int .i64 vB1),(75,.bool ((decide (x52 < 0)) || (decide (4294967296 < x52))))]) (b:=(decide (x52 < 0))) 7 hS ?_ ?_ ?_
        ·
          intro hb key
          replace hF:=Fr.as hF (t:=68) rfl (congrArg Value.bool hb)
          refine ls<|gn hF rfl rfl rfl rfl fun a hF=>?_
          refine ls<|gn hF rfl rfl rfl rfl fun a hF=>?_
          refine ls<|gn hF rfl rfl rfl rfl fun a hF=>?_
          refine ls<|gn hF rfl rfl rfl rfl fun a hF=>?_
          refine ls<|gn hF rfl rfl rfl rfl fun a hF=>?_
          refine ls<|gn hF rfl rfl rfl rfl fun a hF=>?_
          refine ls<|q1 hF rfl (e_as (v':=.bool ((decide (x52 < 0)) || (decide (4294967296 < x52)))) (e_pickT hF rfl rfl) (by rw [hb];rfl)) fun a hF=>?_
          exact key _ _ (hF.has ⟨rfl,rfl,rfl,trivial⟩) hS
        ·
          intro hb key
          replace hF:=Fr.as hF (t:=68) rfl (congrArg Value.bool hb)
          refine ls<|gy hF rfl rfl<|q1 hF rfl (e_fa hF fa29_2 rfl) fun a hF=>?_
          refine ls<|gy hF rfl rfl<|q1 hF rfl (e_ld hF Tryz.isAgg22 rfl ((St.ld hS).cellB (.head _) rfl)) fun a hF=>?_
          refine ls<|gy hF rfl rfl<|q1 hF rfl (e_move hF rfl) fun a hF=>?_
          refine ls<|gy hF rfl rfl<|q1 hF rfl (e_iaI hF Tryz.runUnderlying22 Tryz.sizeOf3 rfl rfl h53 (SR.oaI hr24 (by decide) h53)) fun a hF=>?_
          refine ls<|gy hF rfl rfl<|q1 hF rfl (e_ld hF Tryz.isAgg3 rfl (PH.le.cell (Lds.le (St.ld hS)) (hl56 0 _ rfl))) fun a hF=>?_
          refine ls<|gy hF rfl rfl<|q1 hF rfl (e_gtr hF rfl rfl) fun a hF=>?_
          refine ls<|q1 hF rfl (e_as (v':=.bool ((decide (x52 < 0)) || (decide (4294967296 < x52)))) (e_pickF hF rfl rfl) (by rw [hb];rfl)) fun a hF=>?_
          exact key _ _ (hF.has ⟨rfl,rfl,rfl,trivial⟩) hS
        intro a w hF hS
        refine re<|?_
        rcases bdich ((decide (x52 < 0)) || (decide (4294967296 < x52))) with hb57 | hb57
        ·
          replace hm:=ite_t hm hb57
          refine tn<|ctv hF rfl hb57<|th<|?_
          refine rg<|?_
          refine ls<|q1 hF rfl (e_asg hF rfl) fun a hF=>?_
          refine re<|?_
          refine tn<|?_
          refine wr<|tr<|br<|tr<|tr<|br<|tr<|?_
          obtain rfl:=Option.some.inj hm
          exact r1 hF Tryz.results27 rfl ⟨rfl,hS.keep⟩
        ·
          replace hm:=ite_f hm hb57
          refine tn<|cfv hF rfl hb57<|wk<|?_
          refine tn<|th<|?_
          refine rg<|?_
          refine ls<|q1 hF rfl (e_asg hF rfl) fun a hF=>?_
          refine re<|?_
          refine tn<|th<|th<|?_
          refine rg<|?_
          refine ls<|q1 hF rfl (e_move hF rfl) fun a hF=>?_
          refine ls<|q1 hF rfl (e_gtr hF rfl rfl) fun a hF=>?_
          refine re<|?_
          refine tn<|midK (fun a w=>∃ (vC1:Int),(Z2j (Z2m N (Z2i N p1) p1 nn2) p1 vB1) vC1=some r∧Fr 159 [(1,.pointer (some ⟨b49,0,none⟩)),(3,.int .i64 vB1),(4,.int .i64 vC1)] a∧St w0 Nil [H] [blk b49 (.cells [.slice oa9 p1.Lines.length cap10,.int .i64 p1.Stays,.slice oa21 p1.Firsts.length cap22,.int .i64 p1.Locks,.slice oa33 p1.Threads.length cap34,.int .i64 p1.Recover.Regs,.int .i64 p1.Recover.Counts,.slice oa41 p1.Recover.L.length cap42,.slice oa45 p1.Claims.length cap46].toArray 29 (0,0))] w) ?_ ?_
          ·
            rcases bdich (decide (0 < vB1)) with hb58 | hb58
            ·
              replace hm:=itp_t hm hb58
              refine ctv hF rfl hb58<|?_
              replace hm:=bind_some hm
              obtain ⟨x59,h60,hm⟩:=hm
              obtain ⟨c61,g62,hl63⟩:=SR.get hr12 h60
              obtain rfl:c61=[.int .i64 x59]:=g62
              refine rg<|?_
              refine ls<|q1 hF rfl (e_fa hF fa29_0 rfl) fun a hF=>?_
              refine ls<|q1 hF rfl (e_ld hF Tryz.isAgg22 rfl ((St.ld hS).cellB (.head _) rfl)) fun a hF=>?_
              refine ls<|q1 hF rfl (e_move hF rfl) fun a hF=>?_
              refine ls<|q1 hF rfl (e_sub hF rfl rfl) fun a hF=>?_
              refine ls<|q1 hF rfl (e_iaI hF Tryz.runUnderlying22 Tryz.sizeOf3 rfl rfl h60 (SR.oaI hr12 (by decide) h60)) fun a hF=>?_
              refine ls<|q1 hF rfl (e_ld hF Tryz.isAgg3 rfl (PH.le.cell (Lds.le (St.ld hS)) (hl63 0 _ rfl))) fun a hF=>?_
              refine ls<|q1 hF rfl (e_add hF rfl rfl) fun a hF=>?_
              refine ls<|q1 hF rfl (e_asg hF rfl) fun a hF=>?_
              refine re<|?_
              refine tn<|?_
              exact ⟨(IntKind.i64.wrap (x59+1)),hm,hF.has ⟨rfl,rfl,rfl,trivial⟩,hS⟩
            ·
              replace hm:=itp_f hm hb58
              refine cfv hF rfl hb58<|wk<|?_
              refine tn<|?_
              exact ⟨0,hm,hF.has ⟨rfl,rfl,rfl,trivial⟩,hS⟩
          clear hm hF hS
          rintro a w ⟨vC1,hm,hF,hS⟩
          unfold Z2j at hm
          refine th<|?_
          replace hm:=bind_some hm
          obtain ⟨x64,h65,hm⟩:=hm
          obtain ⟨c66,g67,hl68⟩:=SR.get hr12 h65
          obtain rfl:c66=[.int .i64 x64]:=g67
          refine rg<|?_
          refine ls<|q1 hF rfl (e_fa hF fa29_0 rfl) fun a hF=>?_
          refine ls<|q1 hF rfl (e_ld hF Tryz.isAgg22 rfl ((St.ld hS).cellB (.head _) rfl)) fun a hF=>?_
          refine ls<|q1 hF rfl (e_move hF rfl) fun a hF=>?_
          refine ls<|q1 hF rfl (e_iaI hF Tryz.runUnderlying22 Tryz.sizeOf3 rfl rfl h65 (SR.oaI hr12 (by decide) h65)) fun a hF=>?_
          refine ls<|q1 hF rfl (e_ld hF Tryz.isAgg3 rfl (PH.le.cell (Lds.le (St.ld hS)) (hl68 0 _ rfl))) fun a hF=>?_
          refine ls<|q1 hF rfl (e_move hF rfl) fun a hF=>?_
          refine ls<|q1 hF rfl (e_neq hF rfl rfl) fun a hF=>?_
          refine ls<|q1 hF rfl (e_move hF rfl) fun a hF=>?_
          refine grp (N:=159) (Fk:=[(1,.pointer (some ⟨b49,0,none⟩)),(3,.int .i64 vB1),(111,.bool ((decide (x64≠vC1)) && (((decide (vB1=0)) || (decide (p1.Stays≤vB1))) || (decide (x64≠(IntKind.i64.wrap (vC1 - 1)))))))]) (b:=(decide (x64≠vC1))) 19 hS ?_ ?_ ?_
          ·
            intro hb key
            replace hF:=Fr.as hF (t:=92) rfl (congrArg Value.bool hb)
            refine ls<|gy hF rfl rfl<|q1 hF rfl (e_move hF rfl) fun a hF=>?_
            refine ls<|gy hF rfl rfl<|q1 hF rfl (e_eql hF rfl rfl) fun a hF=>?_
            refine ls<|gy hF rfl rfl<|q1 hF rfl (e_move hF rfl) fun a hF=>?_
            refine grp (N:=159) (Fk:=[(1,.pointer (some ⟨b49,0,none⟩)),(3,.int .i64 vB1),(4,.int .i64 vC1),(92,.bool true),(100,.bool ((decide (vB1=0)) || (decide (p1.Stays≤vB1))))]) (b:=(decide (vB1=0))) 5 hS ?_ ?_ ?_
            ·
              intro hb key
              replace hF:=Fr.as hF (t:=95) rfl (congrArg Value.bool hb)
              refine ls<|gn hF rfl rfl rfl rfl fun a hF=>?_
              refine ls<|gn hF rfl rfl rfl rfl fun a hF=>?_
              refine ls<|gn hF rfl rfl rfl rfl fun a hF=>?_
              refine ls<|gn hF rfl rfl rfl rfl fun a hF=>?_
              refine ls<|gy hF rfl rfl<|q1 hF rfl (e_as (v':=.bool ((decide (vB1=0)) || (decide (p1.Stays≤vB1)))) (e_pickT hF rfl rfl) (by rw [hb];rfl)) fun a hF=>?_
              exact key _ _ (hF.has ⟨rfl,rfl,rfl,rfl,rfl,trivial⟩) hS
            ·
              intro hb key
              replace hF:=Fr.as hF (t:=95) rfl (congrArg Value.bool hb)
              refine ls<|gy hF rfl rfl<|q1 hF rfl (e_move hF rfl) fun a hF=>?_
              refine ls<|gy hF rfl rfl<|q1 hF rfl (e_fa hF fa29_1 rfl) fun a hF=>?_
              refine ls<|gy hF rfl rfl<|q1 hF rfl (e_ld hF Tryz.isAgg3 rfl ((St.ld hS).cellB (.head _) rfl)) fun a hF=>?_
              refine ls<|gy hF rfl rfl<|q1 hF rfl (e_geq hF rfl rfl) fun a hF=>?_
              refine ls<|gy hF rfl rfl<|q1 hF rfl (e_as (v':=.bool ((decide (vB1=0)) || (decide (p1.Stays≤vB1)))) (e_pickF hF rfl rfl) (by rw [hb];rfl)) fun a hF=>?_
              exact key _ _ (hF.has ⟨rfl,rfl,rfl,rfl,rfl,trivial⟩) hS
            intro a w hF hS
            refine ls<|gy hF rfl rfl<|q1 hF rfl (e_move hF rfl) fun a hF=>?_
            refine grp (N:=159) (Fk:=[(1,.pointer (some ⟨b49,0,none⟩)),(3,.int .i64 vB1),(92,.bool true),(110,.bool (((decide (vB1=0)) || (decide (p1.Stays≤vB1))) || (decide (x64≠(IntKind.i64.wrap (vC1 - 1))))))]) (b:=((decide (vB1=0)) || (decide (p1.Stays≤vB1)))) 9 hS ?_ ?_ ?_
            ·
              intro hb key
              replace hF:=Fr.as hF (t:=101) rfl (congrArg Value.bool hb)
              refine ls<|gn hF rfl rfl rfl rfl fun a hF=>?_
              refine ls<|gn hF rfl rfl rfl rfl fun a hF=>?_
              refine ls<|gn hF rfl rfl rfl rfl fun a hF=>?_
              refine ls<|gn hF rfl rfl rfl rfl fun a hF=>?_
              refine ls<|gn hF rfl rfl rfl rfl fun a hF=>?_
              refine ls<|gn hF rfl rfl rfl rfl fun a hF=>?_
              refine ls<|gn hF rfl rfl rfl rfl fun a hF=>?_
              refine ls<|gn hF rfl rfl rfl rfl fun a hF=>?_
              refine ls<|gy hF rfl rfl<|q1 hF rfl (e_as (v':=.bool (((decide (vB1=0)) || (decide (p1.Stays≤vB1))) || (decide (x64≠(IntKind.i64.wrap (vC1 - 1)))))) (e_pickT hF rfl rfl) (by rw [hb];rfl)) fun a hF=>?_
              exact key _ _ (hF.has ⟨rfl,rfl,rfl,rfl,trivial⟩) hS
            ·
              intro hb key
              replace hF:=Fr.as hF (t:=101) rfl (congrArg Value.bool hb)
              refine ls<|gy hF rfl rfl<|q1 hF rfl (e_fa hF fa29_0 rfl) fun a hF=>?_
              refine ls<|gy hF rfl rfl<|q1 hF rfl (e_ld hF Tryz.isAgg22 rfl ((St.ld hS).cellB (.head _) rfl)) fun a hF=>?_
              refine ls<|gy hF rfl rfl<|q1 hF rfl (e_move hF rfl) fun a hF=>?_
              refine ls<|gy hF rfl rfl<|q1 hF rfl (e_iaI hF Tryz.runUnderlying22 Tryz.sizeOf3 rfl rfl h65 (SR.oaI hr12 (by decide) h65)) fun a hF=>?_
              refine ls<|gy hF rfl rfl<|q1 hF rfl (e_ld hF Tryz.isAgg3 rfl (PH.le.cell (Lds.le (St.ld hS)) (hl68 0 _ rfl))) fun a hF=>?_
              refine ls<|gy hF rfl rfl<|q1 hF rfl (e_move hF rfl) fun a hF=>?_
              refine ls<|gy hF rfl rfl<|q1 hF rfl (e_sub hF rfl rfl) fun a hF=>?_
              refine ls<|gy hF rfl rfl<|q1 hF rfl (e_neq hF rfl rfl) fun a hF=>?_
              refine ls<|gy hF rfl rfl<|q1 hF rfl (e_as (v':=.bool (((decide (vB1=0)) || (decide (p1.Stays≤vB1))) || (decide (x64≠(IntKind.i64.wrap (vC1 - 1)))))) (e_pickF hF rfl rfl) (by rw [hb];rfl)) fun a hF=>?_
              exact key _ _ (hF.has ⟨rfl,rfl,rfl,rfl,trivial⟩) hS
            intro a w hF hS
            refine ls<|q1 hF rfl (e_as (v':=.bool ((decide (x64≠vC1)) && (((decide (vB1=0)) || (decide (p1.Stays≤vB1))) || (decide (x64≠(IntKind.i64.wrap (vC1 - 1))))))) (e_pickT hF rfl rfl) (by rw [hb];rfl)) fun a hF=>?_
            exact key _ _ (hF.has ⟨rfl,rfl,rfl,trivial⟩) hS
          ·
            intro hb key
            replace hF:=Fr.as hF (t:=92) rfl (congrArg Value.bool hb)
            refine ls<|gn hF rfl rfl rfl rfl fun a hF=>?_
            refine ls<|gn hF rfl rfl rfl rfl fun a hF=>?_
            refine ls<|gn hF rfl rfl rfl rfl fun a hF=>?_
            refine ls<|gnu hF rfl rfl rfl fun a hF=>?_
            refine ls<|gnu hF rfl rfl rfl fun a hF=>?_
            refine ls<|gnu hF rfl rfl rfl fun a hF=>?_
            refine ls<|gnu hF rfl rfl rfl fun a hF=>?_
            refine ls<|gn hF rfl rfl rfl rfl fun a hF=>?_
            refine ls<|gn hF rfl rfl rfl rfl fun a hF=>?_
            refine ls<|gnu hF rfl rfl rfl fun a hF=>?_
            refine ls<|gnu hF rfl rfl rfl fun a hF=>?_
            refine ls<|gnu hF rfl rfl rfl fun a hF=>?_
            refine ls<|gnu hF rfl rfl rfl fun a hF=>?_
            refine ls<|gnu hF rfl rfl rfl fun a hF=>?_
            refine ls<|gnu hF rfl rfl rfl fun a hF=>?_
            refine ls<|gnu hF rfl rfl rfl fun a hF=>?_
            refine ls<|gnu hF rfl rfl rfl fun a hF=>?_
            refine ls<|gn hF rfl rfl rfl rfl fun a hF=>?_
            refine ls<|q1 hF rfl (e_as (v':=.bool ((decide (x64≠vC1)) && (((decide (vB1=0)) || (decide (p1.Stays≤vB1))) || (decide (x64≠(IntKind.i64.wrap (vC1 - 1))))))) (e_pickF hF rfl rfl) (by rw [hb];rfl)) fun a hF=>?_
            exact key _ _ (hF.has ⟨rfl,rfl,rfl,trivial⟩) hS
          intro a w hF hS
          refine re<|?_
          rcases bdich ((decide (x64≠vC1)) && (((decide (vB1=0)) || (decide (p1.Stays≤vB1))) || (decide (x64≠(IntKind.i64.wrap (vC1 - 1)))))) with hb69 | hb69
          ·
            replace hm:=ite_t hm hb69
            refine tn<|ctv hF rfl hb69<|th<|?_
            refine rg<|?_
            refine ls<|q1 hF rfl (e_asg hF rfl) fun a hF=>?_
            refine re<|?_
            refine tn<|?_
            refine wr<|br<|tr<|tr<|br<|tr<|?_
            obtain rfl:=Option.some.inj hm
            exact r1 hF Tryz.results27 rfl ⟨rfl,hS.keep⟩
          ·
            replace hm:=ite_f hm hb69
            refine tn<|cfv hF rfl hb69<|wk<|?_
            refine bn<|tn<|?_
            refine rg<|?_
            refine ls<|q1 hF rfl (e_move hF rfl) fun a hF=>?_
            refine ls<|q1 hF rfl (e_add hF rfl rfl) fun a hF=>?_
            refine ls<|q1 hF rfl (e_asg hF rfl) fun a hF=>?_
            refine re<|?_
            refine tn<|?_
            exact ⟨(nn2,(IntKind.i64.wrap (vB1+1))),⟨hm,hF.has ⟨rfl,rfl,trivial⟩,hS⟩,Nat.lt_succ_self _⟩
      ·
        replace hm:=itp_f hm hb51
        refine tn<|cfv hF rfl hb51<|?_
        refine we<|tx<|tx<|bx<|?_
        refine tn<|?_
        exact ⟨hm,hF.has ⟨rfl,trivial⟩,hS⟩
    clear hm hF hS
    rintro a w ⟨hm,hF,hS⟩
    unfold Z2i at hm
    refine th<|th<|?_
    refine rg<|?_
    refine ls<|q1 hF rfl (e_asg hF rfl) fun a hF=>?_
    refine re<|?_
    refine tn<|midK (fun a w=>(Z2k N p1)=some r∧Fr 159 [(1,.pointer (some ⟨b49,0,none⟩))] a∧St w0 Nil [H] [blk b49 (.cells [.slice oa9 p1.Lines.length cap10,.int .i64 p1.Stays,.slice oa21 p1.Firsts.length cap22,.int .i64 p1.Locks,.slice oa33 p1.Threads.length cap34,.int .i64 p1.Recover.Regs,.int .i64 p1.Recover.Counts,.slice oa41 p1.Recover.L.length cap42,.slice oa45 p1.Claims.length cap46].toArray 29 (0,0))] w) ?_ ?_
    ·
      refine wb<|lp (α:=Nat×Int) (fun (gh:Nat×Int) a w=>match gh with | (nn5,vB2)=>(Z2n N (Z2k N p1) p1) nn5 vB2=some r∧Fr 159 [(1,.pointer (some ⟨b49,0,none⟩)),(5,.int .i64 vB2)] a∧St w0 Nil [H] [blk b49 (.cells [.slice oa9 p1.Lines.length cap10,.int .i64 p1.Stays,.slice oa21 p1.Firsts.length cap22,.int .i64 p1.Locks,.slice oa33 p1.Threads.length cap34,.int .i64 p1.Recover.Regs,.int .i64 p1.Recover.Counts,.slice oa41 p1.Recover.L.length cap42,.slice oa45 p1.Claims.length cap46].toArray 29 (0,0))] w) (fun gh=>gh.1) (N,0) ⟨hm,hF.has ⟨rfl,rfl,trivial⟩,hS⟩ ?_
      clear hm hF hS
      rintro ⟨nn5,vB2⟩ a w ⟨hm,hF,hS⟩
      obtain _ | nn5:=nn5
      · simp [Z2n] at hm
      rw [Z2n] at hm
      refine th<|th<|?_
      refine rg<|?_
      refine ls<|q1 hF rfl (e_move hF rfl) fun a hF=>?_
      refine ls<|q1 hF rfl (e_fa hF fa29_4 rfl) fun a hF=>?_
      refine ls<|q1 hF rfl (e_ld hF Tryz.isAgg23 rfl ((St.ld hS).cellB (.head _) rfl)) fun a hF=>?_
      refine ls<|q1 hF rfl (e_lenL (α:=api_Code) (xs:=p1.Threads) hF Tryz.runUnderlying23 rfl) fun a hF=>?_
      refine ls<|q1 hF rfl (e_lss hF rfl rfl) fun a hF=>?_
      refine re<|?_
      rcases bdich (decide (vB2 < (p1.Threads.length:Int))) with hb70 | hb70
      ·
        replace hm:=itp_t hm hb70
        refine tn<|ctv hF rfl hb70<|wk<|?_
        refine tn<|th<|wb<|th<|?_
        replace hm:=bind_some hm
        obtain ⟨x71,h72,hm⟩:=hm
        obtain ⟨c73,g74,hl75⟩:=SR.get hr36 h72
        obtain ⟨oa76,cap77,rfl,hc78,hr79⟩:=api_Code_open g74
        replace hm:=bind_some hm
        obtain ⟨r80,h81,hm⟩:=hm
        replace hm:=bind_some hm
        obtain ⟨r82,h83,hm⟩:=hm
        refine rdS 14 hS wide fun w hS=>?_
        refine d1 (i:=0) rfl (by kernel_rfl) (by kernel_rfl) (St.ld hS) hF rfl (fun _ _ _ h=>h) (fun w hl=>(e_fa hF fa29_4 rfl)) fun a hF=>?_
        refine d1 (i:=1) rfl (by kernel_rfl) (by kernel_rfl) (St.ld hS) hF rfl (fun _ _ _ h=>h) (fun w hl=>(e_ld hF Tryz.isAgg23 rfl (hl.cellB (.head _) rfl))) fun a hF=>?_
        refine d1 (i:=2) rfl (by kernel_rfl) (by kernel_rfl) (St.ld hS) hF rfl (fun _ _ _ h=>h) (fun w hl=>(e_move hF rfl)) fun a hF=>?_
        refine d1 (i:=3) rfl (by kernel_rfl) (by kernel_rfl) (St.ld hS) hF rfl (fun _ _ _ h=>h) (fun w hl=>(e_iaI hF Tryz.runUnderlying23 Tryz.sizeOf26 rfl rfl h72 (SR.oaI hr36 (by decide) h72))) fun a hF=>?_
        refine d1 (i:=4) rfl (by kernel_rfl) (by kernel_rfl) (St.ld hS) hF rfl (fun _ _ _ h=>h) (fun w hl=>(e_ldA hF Tryz.isAgg26 Tryz.sizeOf26 rfl rfl (fun j v hj=>PH.le.cell (Lds.le hl) (hl75 j v hj)))) fun a hF=>?_
        refine d1 (i:=5) rfl (by kernel_rfl) (by kernel_rfl) (St.ld hS) hF rfl (fun _ _ _ h=>h) (fun w hl=>(e_fa hF fa29_0 rfl)) fun a hF=>?_
        refine d1 (i:=6) rfl (by kernel_rfl) (by kernel_rfl) (St.ld hS) hF rfl (fun _ _ _ h=>h) (fun w hl=>(e_ld hF Tryz.isAgg22 rfl (hl.cellB (.head _) rfl))) fun a hF=>?_
        refine d1 (i:=7) rfl (by kernel_rfl) (by kernel_rfl) (St.ld hS) hF rfl (fun _ _ _ h=>h) (fun w hl=>(e_lenL (α:=Int) (xs:=p1.Lines) hF Tryz.runUnderlying22 rfl)) fun a hF=>?_
        refine d1 (i:=8) rfl (by kernel_rfl) (by kernel_rfl) (St.ld hS) hF rfl (fun _ _ _ h=>h) (fun w hl=>(e_ldA hF Tryz.isAgg29 Tryz.sizeOf29 rfl rfl (hl.cellsB (.head _)))) fun a hF=>?_
        refine d1 (i:=10) rfl (by kernel_rfl) (by kernel_rfl) (St.ld hS) hF rfl (fun _ _ _ h=>h) (fun w hl=>(e_fa hF fa29_3 rfl)) fun a hF=>?_
        refine d1 (i:=11) rfl (by kernel_rfl) (by kernel_rfl) (St.ld hS) hF rfl (fun _ _ _ h=>h) (fun w hl=>(e_ld hF Tryz.isAgg3 rfl (hl.cellB (.head _) rfl))) fun a hF=>?_
        refine da1 (i:=9) (by kernel_rfl) ?_
        refine di (i:=9) rfl<|c1 hF rfl Tryz.call70 (Z2g_c (hp_le _) (Enc.mono (St.up hS) (show Enc.rep (α:=api_Unit) H [.slice oa9 p1.Lines.length cap10,.int .i64 p1.Stays,.slice oa21 p1.Firsts.length cap22,.int .i64 p1.Locks,.slice oa33 p1.Threads.length cap34,.int .i64 p1.Recover.Regs,.int .i64 p1.Recover.Counts,.slice oa41 p1.Recover.L.length cap42,.slice oa45 p1.Claims.length cap46] p1 from ⟨_,_,rfl,⟨_,_,rfl,hc11,hr12⟩,⟨_,_,rfl,rfl,⟨_,_,rfl,⟨_,_,rfl,hc23,hr24⟩,⟨_,_,rfl,rfl,⟨_,_,rfl,⟨_,_,rfl,hc35,hr36⟩,⟨_,_,rfl,⟨_,_,rfl,rfl,⟨_,_,rfl,rfl,⟨_,_,rfl,hc43,hr44⟩⟩⟩,⟨_,_,rfl,hc47,hr48⟩⟩⟩⟩⟩⟩⟩)) h81) ⟨rfl,trivial⟩ (fun v w a hR hF=>?_)
        obtain ⟨rfl,hk⟩:=hR
        replace hS:=hS.pass hk
        clear hk
        refine ⟨fun _=>(St.ld hS),?_⟩
        refine da1 (i:=12) (by kernel_rfl) ?_
        refine di (i:=12) rfl<|c1 hF rfl Tryz.call69 (Z26_c (hp_le _) (Enc.mono (St.up hS) (show Enc.rep (α:=api_Code) H [.int .i64 x71.Regs,.int .i64 x71.Counts,.slice oa76 x71.L.length cap77] x71 from ⟨_,_,rfl,rfl,⟨_,_,rfl,rfl,⟨_,_,rfl,hc78,hr79⟩⟩⟩)) h83) ⟨rfl,rfl,rfl,rfl,trivial⟩ (fun v w a hR hF=>?_)
        obtain ⟨rfl,hk⟩:=hR
        replace hS:=hS.pass hk
        clear hk
        refine ⟨fun _=>(St.ld hS),?_⟩
        refine d1 (i:=13) rfl (by kernel_rfl) (by kernel_rfl) (St.ld hS) hF rfl (fun _ _ _ h=>h) (fun w hl=>(e_not hF rfl)) fun a hF=>?_
        refine de (by kernel_rfl)<|?_
        rcases bdich r82 with hb84 | hb84
        ·
          replace hm:=ite_t hm hb84
          refine tn<|cfv hF rfl (by rw [hb84];rfl)<|wk<|?_
          refine bn<|tn<|?_
          refine rg<|?_
          refine ls<|q1 hF rfl (e_move hF rfl) fun a hF=>?_
          refine ls<|q1 hF rfl (e_add hF rfl rfl) fun a hF=>?_
          refine ls<|q1 hF rfl (e_asg hF rfl) fun a hF=>?_
          refine re<|?_
          refine tn<|?_
          exact ⟨(nn5,(IntKind.i64.wrap (vB2+1))),⟨hm,hF.has ⟨rfl,rfl,trivial⟩,hS⟩,Nat.lt_succ_self _⟩
        ·
          replace hm:=ite_f hm hb84
          refine tn<|ctv hF rfl (by rw [hb84];rfl)<|th<|?_
          refine rg<|?_
          refine ls<|q1 hF rfl (e_asg hF rfl) fun a hF=>?_
          refine re<|?_
          refine tn<|?_
          refine wr<|br<|tr<|tr<|br<|tr<|?_
          obtain rfl:=Option.some.inj hm
          exact r1 hF Tryz.results27 rfl ⟨rfl,hS.keep⟩
      ·
        replace hm:=itp_f hm hb70
        refine tn<|cfv hF rfl hb70<|?_
        refine we<|tx<|tx<|bx<|?_
        refine tn<|?_
        exact ⟨hm,hF.has ⟨rfl,trivial⟩,hS⟩
    clear hm hF hS
    rintro a w ⟨hm,hF,hS⟩
    unfold Z2k at hm
    refine th<|th<|?_
    refine rg<|?_
    refine ls<|q1 hF rfl (e_asg hF rfl) fun a hF=>?_
    refine re<|?_
    refine tn<|midK (fun a w=>(Z2l N p1)=some r∧Fr 159 [(1,.pointer (some ⟨b49,0,none⟩))] a∧St w0 Nil [H] [blk b49 (.cells [.slice oa9 p1.Lines.length cap10,.int .i64 p1.Stays,.slice oa21 p1.Firsts.length cap22,.int .i64 p1.Locks,.slice oa33 p1.Threads.length cap34,.int .i64 p1.Recover.Regs,.int .i64 p1.Recover.Counts,.slice oa41 p1.Recover.L.length cap42,.slice oa45 p1.Claims.length cap46].toArray 29 (0,0))] w) ?_ ?_
    ·
      refine wb<|lp (α:=Nat×Int) (fun (gh:Nat×Int) a w=>match gh with | (nn7,vB3)=>(Z2o N (Z2l N p1) p1) nn7 vB3=some r∧Fr 159 [(1,.pointer (some ⟨b49,0,none⟩)),(6,.int .i64 vB3)] a∧St w0 Nil [H] [blk b49 (.cells [.slice oa9 p1.Lines.length cap10,.int .i64 p1.Stays,.slice oa21 p1.Firsts.length cap22,.int .i64 p1.Locks,.slice oa33 p1.Threads.length cap34,.int .i64 p1.Recover.Regs,.int .i64 p1.Recover.Counts,.slice oa41 p1.Recover.L.length cap42,.slice oa45 p1.Claims.length cap46].toArray 29 (0,0))] w) (fun gh=>gh.1) (N,0) ⟨hm,hF.has ⟨rfl,rfl,trivial⟩,hS⟩ ?_
      clear hm hF hS
      rintro ⟨nn7,vB3⟩ a w ⟨hm,hF,hS⟩
      obtain _ | nn7:=nn7
      · simp [Z2o] at hm
      rw [Z2o] at hm
      refine th<|th<|?_
      refine rg<|?_
      refine ls<|q1 hF rfl (e_move hF rfl) fun a hF=>?_
      refine ls<|q1 hF rfl (e_fa hF fa29_6 rfl) fun a hF=>?_
      refine ls<|q1 hF rfl (e_ld hF Tryz.isAgg27 rfl ((St.ld hS).cellB (.head _) rfl)) fun a hF=>?_
      refine ls<|q1 hF rfl (e_lenL (α:=(List api_Op)) (xs:=p1.Claims) hF Tryz.runUnderlying27 rfl) fun a hF=>?_
      refine ls<|q1 hF rfl (e_lss hF rfl rfl) fun a hF=>?_
      refine re<|?_
      rcases bdich (decide (vB3 < (p1.Claims.length:Int))) with hb85 | hb85
      ·
        replace hm:=itp_t hm hb85
        refine tn<|ctv hF rfl hb85<|wk<|?_
        refine tn<|th<|wb<|th<|?_
        replace hm:=bind_some hm
        obtain ⟨x86,h87,hm⟩:=hm
        obtain ⟨c88,g89,hl90⟩:=SR.get hr48 h87
        obtain ⟨oa91,cap92,rfl,hc93,hr94⟩:=g89
        replace hm:=bind_some hm
        obtain ⟨r95,h96,hm⟩:=hm
        refine rdS 9 hS wide fun w hS=>?_
        refine d1 (i:=0) rfl (by kernel_rfl) (by kernel_rfl) (St.ld hS) hF rfl (fun _ _ _ h=>h) (fun w hl=>(e_fa hF fa29_6 rfl)) fun a hF=>?_
        refine d1 (i:=1) rfl (by kernel_rfl) (by kernel_rfl) (St.ld hS) hF rfl (fun _ _ _ h=>h) (fun w hl=>(e_ld hF Tryz.isAgg27 rfl (hl.cellB (.head _) rfl))) fun a hF=>?_
        refine d1 (i:=2) rfl (by kernel_rfl) (by kernel_rfl) (St.ld hS) hF rfl (fun _ _ _ h=>h) (fun w hl=>(e_move hF rfl)) fun a hF=>?_
        refine d1 (i:=3) rfl (by kernel_rfl) (by kernel_rfl) (St.ld hS) hF rfl (fun _ _ _ h=>h) (fun w hl=>(e_iaI hF Tryz.runUnderlying27 Tryz.sizeOf54 rfl rfl h87 (SR.oaI hr48 (by decide) h87))) fun a hF=>?_
        refine d1 (i:=4) rfl (by kernel_rfl) (by kernel_rfl) (St.ld hS) hF rfl (fun _ _ _ h=>h) (fun w hl=>(e_ld hF Tryz.isAgg54 rfl (PH.le.cell (Lds.le hl) (hl90 0 _ rfl)))) fun a hF=>?_
        refine d1 (i:=5) rfl (by kernel_rfl) (by kernel_rfl) (St.ld hS) hF rfl (fun _ _ _ h=>h) (fun w hl=>(e_fa hF fa29_1 rfl)) fun a hF=>?_
        refine d1 (i:=6) rfl (by kernel_rfl) (by kernel_rfl) (St.ld hS) hF rfl (fun _ _ _ h=>h) (fun w hl=>(e_ld hF Tryz.isAgg3 rfl (hl.cellB (.head _) rfl))) fun a hF=>?_
        refine da1 (i:=7) (by kernel_rfl) ?_
        refine di (i:=7) rfl<|c1 hF rfl Tryz.call71 (Z1v_c (hp_le _) hc93 (St.srH hS hr94) h96) ⟨rfl,rfl,trivial⟩ (fun v w a hR hF=>?_)
        obtain ⟨rfl,hk⟩:=hR
        replace hS:=hS.pass hk
        clear hk
        refine ⟨fun _=>(St.ld hS),?_⟩
        refine d1 (i:=8) rfl (by kernel_rfl) (by kernel_rfl) (St.ld hS) hF rfl (fun _ _ _ h=>h) (fun w hl=>(e_not hF rfl)) fun a hF=>?_
        refine de (by kernel_rfl)<|?_
        rcases bdich r95 with hb97 | hb97
        ·
          replace hm:=ite_t hm hb97
          refine tn<|cfv hF rfl (by rw [hb97];rfl)<|wk<|?_
          refine bn<|tn<|?_
          refine rg<|?_
          refine ls<|q1 hF rfl (e_move hF rfl) fun a hF=>?_
          refine ls<|q1 hF rfl (e_add hF rfl rfl) fun a hF=>?_
          refine ls<|q1 hF rfl (e_asg hF rfl) fun a hF=>?_
          refine re<|?_
          refine tn<|?_
          exact ⟨(nn7,(IntKind.i64.wrap (vB3+1))),⟨hm,hF.has ⟨rfl,rfl,trivial⟩,hS⟩,Nat.lt_succ_self _⟩
        ·
          replace hm:=ite_f hm hb97
          refine tn<|ctv hF rfl (by rw [hb97];rfl)<|th<|?_
          refine rg<|?_
          refine ls<|q1 hF rfl (e_asg hF rfl) fun a hF=>?_
          refine re<|?_
          refine tn<|?_
          refine wr<|br<|tr<|tr<|br<|tr<|?_
          obtain rfl:=Option.some.inj hm
          exact r1 hF Tryz.results27 rfl ⟨rfl,hS.keep⟩
      ·
        replace hm:=itp_f hm hb85
        refine tn<|cfv hF rfl hb85<|?_
        refine we<|tx<|tx<|bx<|?_
        refine tn<|?_
        exact ⟨hm,hF.has ⟨rfl,trivial⟩,hS⟩
    clear hm hF hS
    rintro a w ⟨hm,hF,hS⟩
    unfold Z2l at hm
    refine th<|?_
    replace hm:=bind_some hm
    obtain ⟨r98,h99,hm⟩:=hm
    replace hm:=bind_some hm
    obtain ⟨r100,h101,hm⟩:=hm
    refine rdS 11 hS wide fun w hS=>?_
    refine d1 (i:=0) rfl (by kernel_rfl) (by kernel_rfl) (St.ld hS) hF rfl (fun _ _ _ h=>h) (fun w hl=>(e_fa hF fa29_5 rfl)) fun a hF=>?_
    refine d1 (i:=1) rfl (by kernel_rfl) (by kernel_rfl) (St.ld hS) hF rfl (fun _ _ _ h=>h) (fun w hl=>(e_ldA hF Tryz.isAgg26 Tryz.sizeOf26 rfl rfl (Lds.cellsP (pre:=[.slice oa9 p1.Lines.length cap10,.int .i64 p1.Stays,.slice oa21 p1.Firsts.length cap22,.int .i64 p1.Locks,.slice oa33 p1.Threads.length cap34]) (vs:=[.int .i64 p1.Recover.Regs,.int .i64 p1.Recover.Counts,.slice oa41 p1.Recover.L.length cap42]) (post:=[.slice oa45 p1.Claims.length cap46]) hl (.head _)))) fun a hF=>?_
    refine d1 (i:=2) rfl (by kernel_rfl) (by kernel_rfl) (St.ld hS) hF rfl (fun _ _ _ h=>h) (fun w hl=>(e_fa hF fa29_0 rfl)) fun a hF=>?_
    refine d1 (i:=3) rfl (by kernel_rfl) (by kernel_rfl) (St.ld hS) hF rfl (fun _ _ _ h=>h) (fun w hl=>(e_ld hF Tryz.isAgg22 rfl (hl.cellB (.head _) rfl))) fun a hF=>?_
    refine d1 (i:=4) rfl (by kernel_rfl) (by kernel_rfl) (St.ld hS) hF rfl (fun _ _ _ h=>h) (fun w hl=>(e_lenL (α:=Int) (xs:=p1.Lines) hF Tryz.runUnderlying22 rfl)) fun a hF=>?_
    refine d1 (i:=5) rfl (by kernel_rfl) (by kernel_rfl) (St.ld hS) hF rfl (fun _ _ _ h=>h) (fun w hl=>(e_ldA hF Tryz.isAgg29 Tryz.sizeOf29 rfl rfl (hl.cellsB (.head _)))) fun a hF=>?_
    refine d1 (i:=7) rfl (by kernel_rfl) (by kernel_rfl) (St.ld hS) hF rfl (fun _ _ _ h=>h) (fun w hl=>(e_fa hF fa29_3 rfl)) fun a hF=>?_
    refine d1 (i:=8) rfl (by kernel_rfl) (by kernel_rfl) (St.ld hS) hF rfl (fun _ _ _ h=>h) (fun w hl=>(e_ld hF Tryz.isAgg3 rfl (hl.cellB (.head _) rfl))) fun a hF=>?_
    refine da1 (i:=6) (by kernel_rfl) ?_
    refine di (i:=6) rfl<|c1 hF rfl Tryz.call70 (Z2g_c (hp_le _) (Enc.mono (St.up hS) (show Enc.rep (α:=api_Unit) H [.slice oa9 p1.Lines.length cap10,.int .i64 p1.Stays,.slice oa21 p1.Firsts.length cap22,.int .i64 p1.Locks,.slice oa33 p1.Threads.length cap34,.int .i64 p1.Recover.Regs,.int .i64 p1.Recover.Counts,.slice oa41 p1.Recover.L.length cap42,.slice oa45 p1.Claims.length cap46] p1 from ⟨_,_,rfl,⟨_,_,rfl,hc11,hr12⟩,⟨_,_,rfl,rfl,⟨_,_,rfl,⟨_,_,rfl,hc23,hr24⟩,⟨_,_,rfl,rfl,⟨_,_,rfl,⟨_,_,rfl,hc35,hr36⟩,⟨_,_,rfl,⟨_,_,rfl,rfl,⟨_,_,rfl,rfl,⟨_,_,rfl,hc43,hr44⟩⟩⟩,⟨_,_,rfl,hc47,hr48⟩⟩⟩⟩⟩⟩⟩)) h99) ⟨rfl,trivial⟩ (fun v w a hR hF=>?_)
    obtain ⟨rfl,hk⟩:=hR
    replace hS:=hS.pass hk
    clear hk
    refine ⟨fun _=>(St.ld hS),?_⟩
    refine da1 (i:=9) (by kernel_rfl) ?_
    refine di (i:=9) rfl<|c1 hF rfl Tryz.call69 (Z26_c (hp_le _) (Enc.mono (St.up hS) (show Enc.rep (α:=api_Code) H [.int .i64 p1.Recover.Regs,.int .i64 p1.Recover.Counts,.slice oa41 p1.Recover.L.length cap42] p1.Recover from ⟨_,_,rfl,rfl,⟨_,_,rfl,rfl,⟨_,_,rfl,hc43,hr44⟩⟩⟩)) h101) ⟨rfl,rfl,rfl,rfl,trivial⟩ (fun v w a hR hF=>?_)
    obtain ⟨rfl,hk⟩:=hR
    replace hS:=hS.pass hk
    clear hk
    refine ⟨fun _=>(St.ld hS),?_⟩
    refine d1 (i:=10) rfl (by kernel_rfl) (by kernel_rfl) (St.ld hS) hF rfl (fun _ _ _ h=>h) (fun w hl=>(e_asg hF rfl)) fun a hF=>?_
    refine de (by kernel_rfl)<|?_
    refine tn<|?_
    refine wr<|?_
    obtain rfl:=Option.some.inj hm
    exact r1 hF Tryz.results27 rfl ⟨rfl,hS.keep⟩
set_option maxRecDepth 100000 in
theorem Z42_c:∀ (N:Nat) {w0:World} {H:PH} (hH:H.le w0) {p1:Int} {r:Str} (hm:Z42 N p1=some r),Tot Tryz.prog 29 #[.int .i64 p1] w0 (fun v w'=>v=strv r∧Keep Nil w0 w'):=by
  intro N
  induction N with
  | zero=>intros;rename_i hm;simp [Z42] at hm
  | succ N ih=>
  intro w0 H hH p1 r hm
  rw [Z42] at hm
  refine fn0 (args:=[.int .i64 p1]) (F:=[(0,.int .i64 p1)]) Tryz.func29 rfl Tryz.ntmps29 rfl rfl fun a hF=>?_
  have hS:St w0 Nil [H] [] w0:=start1 hH
  refine th<|?_
  refine rg<|?_
  refine ls<|q1 hF rfl (e_asg hF rfl) fun a hF=>?_
  refine re<|?_
  refine tn<|th<|th<|?_
  refine rg<|?_
  refine ls<|q1 hF rfl (e_move hF rfl) fun a hF=>?_
  refine ls<|q1 hF rfl (e_lss hF rfl rfl) fun a hF=>?_
  refine ls<|q1 hF rfl (e_move hF rfl) fun a hF=>?_
  refine grp (N:=25) (Fk:=[(0,.int .i64 p1),(8,.bool ((decide (p1 < 0)) || (decide (1099511627776 < p1))))]) (b:=(decide (p1 < 0))) 3 hS ?_ ?_ ?_
  ·
    intro hb key
    replace hF:=Fr.as hF (t:=5) rfl (congrArg Value.bool hb)
    refine ls<|gn hF rfl rfl rfl rfl fun a hF=>?_
    refine ls<|gn hF rfl rfl rfl rfl fun a hF=>?_
    refine ls<|q1 hF rfl (e_as (v':=.bool ((decide (p1 < 0)) || (decide (1099511627776 < p1)))) (e_pickT hF rfl rfl) (by rw [hb];rfl)) fun a hF=>?_
    exact key _ _ (hF.has ⟨rfl,rfl,trivial⟩) hS
  ·
    intro hb key
    replace hF:=Fr.as hF (t:=5) rfl (congrArg Value.bool hb)
    refine ls<|gy hF rfl rfl<|q1 hF rfl (e_move hF rfl) fun a hF=>?_
    refine ls<|gy hF rfl rfl<|q1 hF rfl (e_gtr hF rfl rfl) fun a hF=>?_
    refine ls<|q1 hF rfl (e_as (v':=.bool ((decide (p1 < 0)) || (decide (1099511627776 < p1)))) (e_pickF hF rfl rfl) (by rw [hb];rfl)) fun a hF=>?_
    exact key _ _ (hF.has ⟨rfl,rfl,trivial⟩) hS
  intro a w hF hS
  refine re<|?_
  rcases bdich ((decide (p1 < 0)) || (decide (1099511627776 < p1))) with hb2 | hb2
  ·
    replace hm:=ite_t hm hb2
    refine tn<|ctv hF rfl hb2<|th<|?_
    refine rg<|?_
    refine ls<|q1 hF rfl (e_asg hF rfl) fun a hF=>?_
    refine re<|?_
    refine tn<|?_
    refine wr<|tr<|?_
    obtain rfl:=Option.some.inj hm
    exact r1 hF Tryz.results29 rfl ⟨rfl,hS.keep⟩
  ·
    replace hm:=ite_f hm hb2
    refine tn<|cfv hF rfl hb2<|wk<|?_
    refine tn<|th<|th<|?_
    refine rg<|?_
    refine ls<|q1 hF rfl (e_move hF rfl) fun a hF=>?_
    refine ls<|q1 hF rfl (e_lss hF rfl rfl) fun a hF=>?_
    refine re<|?_
    rcases bdich (decide (p1 < 128)) with hb3 | hb3
    ·
      replace hm:=itp_t hm hb3
      refine tn<|ctv hF rfl hb3<|th<|?_
      refine rg<|?_
      refine ls<|q1 hF rfl (e_move hF rfl) fun a hF=>?_
      refine ls<|q1 hF rfl (e_cvt hF Tryz.runUnderlying3 Tryz.runUnderlying5 rfl) fun a hF=>?_
      refine ls<|a_bsl (e:=5) (sz:=1) [.int .u8 (IntKind.u8.wrap p1)] hF rfl hS rfl rfl rfl (fun w=>by kernel_rfl) fun b5 w a hS hF=>?_
      have hv4:Rows (α:=(IntK .u8)) H [.int .u8 (IntKind.u8.wrap p1)] ([(IntK.mk (IntKind.u8.wrap p1))]:List (IntK .u8)):=(.cons (c:=[.int .u8 (IntKind.u8.wrap p1)]) rfl .nil)
      refine ls<|q1 hF rfl (e_b2s (xs:=([(IntK.mk (IntKind.u8.wrap p1))]:List (IntK .u8))) hF Tryz.underlying52 Tryz.underlying5 Tryz.underlying9 rfl ((St.ld hS).rdO (.head _)) hv4) fun a hF=>?_
      refine ls<|q1 hF rfl (e_asg hF rfl) fun a hF=>?_
      refine re<|?_
      refine tn<|?_
      refine wr<|tr<|?_
      obtain rfl:=Option.some.inj hm
      exact r1 hF Tryz.results29 rfl ⟨rfl,hS.keep⟩
    ·
      replace hm:=itp_f hm hb3
      refine tn<|cfv hF rfl hb3<|wk<|?_
      refine tn<|th<|?_
      replace hm:=bind_some hm
      obtain ⟨r10,h11,hm⟩:=hm
      replace hm:=bind_some hm
      obtain ⟨s12,h13,hm⟩:=hm
      refine rdS 11 hS wide fun w hS=>?_
      refine d1 (i:=0) rfl (by kernel_rfl) (by kernel_rfl) (St.ld hS) hF rfl (fun _ _ _ h=>h) (fun w hl=>(e_move hF rfl)) fun a hF=>?_
      refine d1 (i:=1) rfl (by kernel_rfl) (by kernel_rfl) (St.ld hS) hF rfl (fun _ _ _ h=>h) (fun w hl=>(e_rem hF rfl rfl (by decide))) fun a hF=>?_
      refine d1 (i:=2) rfl (by kernel_rfl) (by kernel_rfl) (St.ld hS) hF rfl (fun _ _ _ h=>h) (fun w hl=>(e_add hF rfl rfl)) fun a hF=>?_
      refine d1 (i:=3) rfl (by kernel_rfl) (by kernel_rfl) (St.ld hS) hF rfl (fun _ _ _ h=>h) (fun w hl=>(e_cvt hF Tryz.runUnderlying3 Tryz.runUnderlying5 rfl)) fun a hF=>?_
      refine d1 (i:=6) rfl (by kernel_rfl) (by kernel_rfl) (St.ld hS) hF rfl (fun _ _ _ h=>h) (fun w hl=>(e_move hF rfl)) fun a hF=>?_
      refine d1 (i:=7) rfl (by kernel_rfl) (by kernel_rfl) (St.ld hS) hF rfl (fun _ _ _ h=>h) (fun w hl=>(e_quo hF rfl rfl (by decide))) fun a hF=>?_
      refine da2 (i:=4) (j:=8) (by kernel_rfl) ?_ ?_
      ·
        refine di (i:=4) rfl<|a_bsl (e:=5) (sz:=1) [.int .u8 (IntKind.u8.wrap (IntKind.i64.wrap (128+(p1.tmod 128))))] hF rfl hS rfl rfl rfl (fun w=>by kernel_rfl) fun b8 w a hS hF=>?_
        have hv7:Rows (α:=(IntK .u8)) H [.int .u8 (IntKind.u8.wrap (IntKind.i64.wrap (128+(p1.tmod 128))))] ([(IntK.mk (IntKind.u8.wrap (IntKind.i64.wrap (128+(p1.tmod 128)))))]:List (IntK .u8)):=(.cons (c:=[.int .u8 (IntKind.u8.wrap (IntKind.i64.wrap (128+(p1.tmod 128))))]) rfl .nil)
        refine ⟨fun _=>(St.ldsX hS (fun _ _ h=>h) (fun _ h=>(.tail _ h))),?_⟩
        refine da2 (i:=5) (j:=8) (by kernel_rfl) ?_ ?_
        ·
          refine di (i:=5) rfl<|q1 hF rfl (e_b2s (xs:=([(IntK.mk (IntKind.u8.wrap (IntKind.i64.wrap (128+(p1.tmod 128)))))]:List (IntK .u8))) hF Tryz.underlying52 Tryz.underlying5 Tryz.underlying9 rfl ((St.ld hS).rdO (.head _)) hv7) fun a hF=>?_
          refine ⟨fun _=>(St.ldsX hS (fun _ _ h=>h) (fun _ h=>(.tail _ h))),?_⟩
          refine da1 (i:=8) (by kernel_rfl) ?_
          refine di (i:=8) rfl<|c1 hF rfl Tryz.call29 (ih (hp_le _) h11) ⟨rfl,trivial⟩ (fun v w a hR hF=>?_)
          obtain ⟨rfl,hk⟩:=hR
          replace hS:=hS.pass hk
          clear hk
          refine ⟨fun _=>(St.ldsX hS (fun _ _ h=>h) (fun _ h=>(.tail _ h))),?_⟩
          refine d1 (i:=9) rfl (by kernel_rfl) (by kernel_rfl) (St.ldsX hS (fun _ _ h=>h) (fun _ h=>(.tail _ h))) hF rfl (fun _ _ _ h=>h) (fun w hl=>(e_catU hF rfl rfl h13)) fun a hF=>?_
          refine d1 (i:=10) rfl (by kernel_rfl) (by kernel_rfl) (St.ldsX hS (fun _ _ h=>h) (fun _ h=>(.tail _ h))) hF rfl (fun _ _ _ h=>h) (fun w hl=>(e_asg hF rfl)) fun a hF=>?_
          refine de (by kernel_rfl)<|?_
          refine tn<|?_
          refine wr<|?_
          obtain rfl:=Option.some.inj hm
          exact r1 hF Tryz.results29 rfl ⟨rfl,hS.keep⟩
        ·
          refine di (i:=8) rfl<|c1 hF rfl Tryz.call29 (ih (hp_le _) h11) ⟨rfl,trivial⟩ (fun v w a hR hF=>?_)
          obtain ⟨rfl,hk⟩:=hR
          replace hS:=hS.pass hk
          clear hk
          refine ⟨fun _=>(St.ldsX hS (fun _ _ h=>h) (fun _ h=>(.tail _ h))),?_⟩
          refine da1 (i:=5) (by kernel_rfl) ?_
          refine di (i:=5) rfl<|q1 hF rfl (e_b2s (xs:=([(IntK.mk (IntKind.u8.wrap (IntKind.i64.wrap (128+(p1.tmod 128)))))]:List (IntK .u8))) hF Tryz.underlying52 Tryz.underlying5 Tryz.underlying9 rfl ((St.ld hS).rdO (.head _)) hv7) fun a hF=>?_
          refine ⟨fun _=>(St.ldsX hS (fun _ _ h=>h) (fun _ h=>(.tail _ h))),?_⟩
          refine d1 (i:=9) rfl (by kernel_rfl) (by kernel_rfl) (St.ldsX hS (fun _ _ h=>h) (fun _ h=>(.tail _ h))) hF rfl (fun _ _ _ h=>h) (fun w hl=>(e_catU hF rfl rfl h13)) fun a hF=>?_
          refine d1 (i:=10) rfl (by kernel_rfl) (by kernel_rfl) (St.ldsX hS (fun _ _ h=>h) (fun _ h=>(.tail _ h))) hF rfl (fun _ _ _ h=>h) (fun w hl=>(e_asg hF rfl)) fun a hF=>?_
          refine de (by kernel_rfl)<|?_
          refine tn<|?_
          refine wr<|?_
          obtain rfl:=Option.some.inj hm
          exact r1 hF Tryz.results29 rfl ⟨rfl,hS.keep⟩
      ·
        refine di (i:=8) rfl<|c1 hF rfl Tryz.call29 (ih (hp_le _) h11) ⟨rfl,trivial⟩ (fun v w a hR hF=>?_)
        obtain ⟨rfl,hk⟩:=hR
        replace hS:=hS.pass hk
        clear hk
        refine ⟨fun _=>(St.ld hS),?_⟩
        refine da1 (i:=4) (by kernel_rfl) ?_
        refine di (i:=4) rfl<|a_bsl (e:=5) (sz:=1) [.int .u8 (IntKind.u8.wrap (IntKind.i64.wrap (128+(p1.tmod 128))))] hF rfl hS rfl rfl rfl (fun w=>by kernel_rfl) fun b8 w a hS hF=>?_
        have hv7:Rows (α:=(IntK .u8)) H [.int .u8 (IntKind.u8.wrap (IntKind.i64.wrap (128+(p1.tmod 128))))] ([(IntK.mk (IntKind.u8.wrap (IntKind.i64.wrap (128+(p1.tmod 128)))))]:List (IntK .u8)):=(.cons (c:=[.int .u8 (IntKind.u8.wrap (IntKind.i64.wrap (128+(p1.tmod 128))))]) rfl .nil)
        refine ⟨fun _=>(St.ldsX hS (fun _ _ h=>h) (fun _ h=>(.tail _ h))),?_⟩
        refine da1 (i:=5) (by kernel_rfl) ?_
        refine di (i:=5) rfl<|q1 hF rfl (e_b2s (xs:=([(IntK.mk (IntKind.u8.wrap (IntKind.i64.wrap (128+(p1.tmod 128)))))]:List (IntK .u8))) hF Tryz.underlying52 Tryz.underlying5 Tryz.underlying9 rfl ((St.ld hS).rdO (.head _)) hv7) fun a hF=>?_
        refine ⟨fun _=>(St.ldsX hS (fun _ _ h=>h) (fun _ h=>(.tail _ h))),?_⟩
        refine d1 (i:=9) rfl (by kernel_rfl) (by kernel_rfl) (St.ldsX hS (fun _ _ h=>h) (fun _ h=>(.tail _ h))) hF rfl (fun _ _ _ h=>h) (fun w hl=>(e_catU hF rfl rfl h13)) fun a hF=>?_
        refine d1 (i:=10) rfl (by kernel_rfl) (by kernel_rfl) (St.ldsX hS (fun _ _ h=>h) (fun _ h=>(.tail _ h))) hF rfl (fun _ _ _ h=>h) (fun w hl=>(e_asg hF rfl)) fun a hF=>?_
        refine de (by kernel_rfl)<|?_
        refine tn<|?_
        refine wr<|?_
        obtain rfl:=Option.some.inj hm
        exact r1 hF Tryz.results29 rfl ⟨rfl,hS.keep⟩
set_option maxRecDepth 100000 in
theorem Z46_c {N:Nat} {w0:World} {H:PH} (hH:H.le w0) {oa2:Option Addr} {cap3:Nat} {p1:(List Int)} (hc4:p1.length≤cap3) (hr5:SR H oa2 p1) {r:Str} (hm:Z46 N p1=some r):Tot Tryz.prog 28 #[.slice oa2 p1.length cap3] w0 (fun v w'=>v=strv r∧Keep Nil w0 w'):=by
  unfold Z46 at hm
  refine fn0 (args:=[.slice oa2 p1.length cap3]) (F:=[(0,.slice oa2 p1.length cap3)]) Tryz.func28 rfl Tryz.ntmps28 rfl rfl fun a hF=>?_
  have hS:St w0 Nil [H] [] w0:=start1 hH
  refine th<|?_
  refine rg<|?_
  refine ls<|q1 hF rfl (e_asg hF rfl) fun a hF=>?_
  refine re<|?_
  refine tn<|th<|?_
  replace hm:=bind_some hm
  obtain ⟨rz6,h7,hm⟩:=hm
  refine rg<|?_
  refine ls<|q1 hF rfl (e_move hF rfl) fun a hF=>?_
  refine ls<|q1 hF rfl (e_lenL (α:=Int) (xs:=p1) hF Tryz.runUnderlying22 rfl) fun a hF=>?_
  refine ls<|c1 hF rfl Tryz.call29 (Z42_c _ (hp_le _) h7) ⟨rfl,trivial⟩ (fun v w a hR hF=>?_)
  obtain ⟨rfl,hk⟩:=hR
  replace hS:=hS.pass hk
  clear hk
  refine ls<|q1 hF rfl (e_asg hF rfl) fun a hF=>?_
  refine re<|?_
  refine tn<|th<|th<|?_
  refine rg<|?_
  refine ls<|q1 hF rfl (e_asg hF rfl) fun a hF=>?_
  refine re<|?_
  refine tn<|midK (fun a w=>∃ (vA1:Str),Z47 vA1=some r∧Fr 22 [(3,strv vA1)] a∧St w0 Nil [H] [] w) ?_ ?_
  ·
    refine wb<|lp (α:=Nat×Str×Int) (fun (gh:Nat×Str×Int) a w=>match gh with | (nn2,vB1,vB2)=>(Z48 N Z47 p1) nn2 vB1 vB2=some r∧Fr 22 [(0,.slice oa2 p1.length cap3),(3,strv vB1),(4,.int .i64 vB2)] a∧St w0 Nil [H] [] w) (fun gh=>gh.1) (N,rz6,0) ⟨hm,hF.has ⟨rfl,rfl,rfl,trivial⟩,hS⟩ ?_
    clear hm hF hS
    rintro ⟨nn2,vB1,vB2⟩ a w ⟨hm,hF,hS⟩
    obtain _ | nn2:=nn2
    · simp [Z48] at hm
    rw [Z48] at hm
    refine th<|th<|?_
    refine rg<|?_
    refine ls<|q1 hF rfl (e_move hF rfl) fun a hF=>?_
    refine ls<|q1 hF rfl (e_move hF rfl) fun a hF=>?_
    refine ls<|q1 hF rfl (e_lenL (α:=Int) (xs:=p1) hF Tryz.runUnderlying22 rfl) fun a hF=>?_
    refine ls<|q1 hF rfl (e_lss hF rfl rfl) fun a hF=>?_
    refine re<|?_
    rcases bdich (decide (vB2 < (p1.length:Int))) with hb8 | hb8
    ·
      replace hm:=itp_t hm hb8
      refine tn<|ctv hF rfl hb8<|wk<|?_
      refine tn<|th<|wb<|?_
      replace hm:=bind_some hm
      obtain ⟨xz9,h10,hm⟩:=hm
      obtain ⟨c11,g12,hl13⟩:=SR.get hr5 h10
      obtain rfl:c11=[.int .i64 xz9]:=g12
      replace hm:=bind_some hm
      obtain ⟨r14,h15,hm⟩:=hm
      replace hm:=bind_some hm
      obtain ⟨s16,h17,hm⟩:=hm
      refine rg<|?_
      refine ls<|q1 hF rfl (e_move hF rfl) fun a hF=>?_
      refine ls<|q1 hF rfl (e_move hF rfl) fun a hF=>?_
      refine ls<|q1 hF rfl (e_move hF rfl) fun a hF=>?_
      refine ls<|q1 hF rfl (e_iaI hF Tryz.runUnderlying22 Tryz.sizeOf3 rfl rfl h10 (SR.oaI hr5 (by decide) h10)) fun a hF=>?_
      refine ls<|q1 hF rfl (e_ld hF Tryz.isAgg3 rfl (PH.le.cell (Lds.le (St.ld hS)) (hl13 0 _ rfl))) fun a hF=>?_
      refine ls<|c1 hF rfl Tryz.call29 (Z42_c _ (hp_le _) h15) ⟨rfl,trivial⟩ (fun v w a hR hF=>?_)
      obtain ⟨rfl,hk⟩:=hR
      replace hS:=hS.pass hk
      clear hk
      refine ls<|q1 hF rfl (e_catU hF rfl rfl h17) fun a hF=>?_
      refine ls<|q1 hF rfl (e_asg hF rfl) fun a hF=>?_
      refine re<|?_
      refine bn<|tn<|?_
      refine rg<|?_
      refine ls<|q1 hF rfl (e_move hF rfl) fun a hF=>?_
      refine ls<|q1 hF rfl (e_add hF rfl rfl) fun a hF=>?_
      refine ls<|q1 hF rfl (e_asg hF rfl) fun a hF=>?_
      refine re<|?_
      refine tn<|?_
      exact ⟨(nn2,s16,(IntKind.i64.wrap (vB2+1))),⟨hm,hF.has ⟨rfl,rfl,rfl,trivial⟩,hS⟩,Nat.lt_succ_self _⟩
    ·
      replace hm:=itp_f hm hb8
      refine tn<|cfv hF rfl hb8<|?_
      refine we<|tx<|tx<|bx<|?_
      refine tn<|?_
      exact ⟨vB1,hm,hF.has ⟨rfl,trivial⟩,hS⟩
  clear hm hF hS
  rintro a w ⟨vA1,hm,hF,hS⟩
  unfold Z47 at hm
  refine th<|?_
  refine rg<|?_
  refine ls<|q1 hF rfl (e_move hF rfl) fun a hF=>?_
  refine ls<|q1 hF rfl (e_asg hF rfl) fun a hF=>?_
  refine re<|?_
  refine tn<|?_
  refine wr<|?_
  obtain rfl:=Option.some.inj hm
  exact r1 hF Tryz.results28 rfl ⟨rfl,hS.keep⟩
set_option maxRecDepth 100000 in
theorem Z49_c {N:Nat} {w0:World} {H:PH} (hH:H.le w0) {oa2:Option Addr} {cap3:Nat} {p1:(List api_Op)} (hc4:p1.length≤cap3) (hr5:SR H oa2 p1) {r:Str} (hm:Z49 N p1=some r):Tot Tryz.prog 31 #[.slice oa2 p1.length cap3] w0 (fun v w'=>v=strv r∧Keep Nil w0 w'):=by
  unfold Z49 at hm
  refine fn0 (args:=[.slice oa2 p1.length cap3]) (F:=[(0,.slice oa2 p1.length cap3)]) Tryz.func31 rfl Tryz.ntmps31 rfl rfl fun a hF=>?_
  have hS:St w0 Nil [H] [] w0:=start1 hH
  refine th<|?_
  refine rg<|?_
  refine ls<|q1 hF rfl (e_asg hF rfl) fun a hF=>?_
  refine re<|?_
  refine tn<|th<|?_
  replace hm:=bind_some hm
  obtain ⟨rz6,h7,hm⟩:=hm
  refine rg<|?_
  refine ls<|q1 hF rfl (e_move hF rfl) fun a hF=>?_
  refine ls<|q1 hF rfl (e_lenL (α:=api_Op) (xs:=p1) hF Tryz.runUnderlying54 rfl) fun a hF=>?_
  refine ls<|c1 hF rfl Tryz.call29 (Z42_c _ (hp_le _) h7) ⟨rfl,trivial⟩ (fun v w a hR hF=>?_)
  obtain ⟨rfl,hk⟩:=hR
  replace hS:=hS.pass hk
  clear hk
  refine ls<|q1 hF rfl (e_asg hF rfl) fun a hF=>?_
  refine re<|?_
  refine tn<|th<|th<|?_
  refine rg<|?_
  refine ls<|q1 hF rfl (e_asg hF rfl) fun a hF=>?_
  refine re<|?_
  refine tn<|midK (fun a w=>∃ (vA1:Str),Z4a vA1=some r∧Fr 30 [(3,strv vA1)] a∧St w0 Nil [H] [] w) ?_ ?_
  ·
    refine wb<|lp (α:=Nat×Str×Int) (fun (gh:Nat×Str×Int) a w=>match gh with | (nn2,vB1,vB2)=>(Z4b N Z4a p1) nn2 vB1 vB2=some r∧Fr 30 [(0,.slice oa2 p1.length cap3),(3,strv vB1),(4,.int .i64 vB2)] a∧St w0 Nil [H] [] w) (fun gh=>gh.1) (N,rz6,0) ⟨hm,hF.has ⟨rfl,rfl,rfl,trivial⟩,hS⟩ ?_
    clear hm hF hS
    rintro ⟨nn2,vB1,vB2⟩ a w ⟨hm,hF,hS⟩
    obtain _ | nn2:=nn2
    · simp [Z4b] at hm
    rw [Z4b] at hm
    refine th<|th<|?_
    refine rg<|?_
    refine ls<|q1 hF rfl (e_move hF rfl) fun a hF=>?_
    refine ls<|q1 hF rfl (e_move hF rfl) fun a hF=>?_
    refine ls<|q1 hF rfl (e_lenL (α:=api_Op) (xs:=p1) hF Tryz.runUnderlying54 rfl) fun a hF=>?_
    refine ls<|q1 hF rfl (e_lss hF rfl rfl) fun a hF=>?_
    refine re<|?_
    rcases bdich (decide (vB2 < (p1.length:Int))) with hb8 | hb8
    ·
      replace hm:=itp_t hm hb8
      refine tn<|ctv hF rfl hb8<|wk<|?_
      refine tn<|th<|wb<|?_
      replace hm:=bind_some hm
      obtain ⟨xz9,h10,hm⟩:=hm
      obtain ⟨c11,g12,hl13⟩:=SR.get hr5 h10
      obtain rfl:=api_Op_open g12
      replace hm:=bind_some hm
      obtain ⟨r14,h15,hm⟩:=hm
      replace hm:=bind_some hm
      obtain ⟨r16,h17,hm⟩:=hm
      replace hm:=bind_some hm
      obtain ⟨s18,h19,hm⟩:=hm
      replace hm:=bind_some hm
      obtain ⟨s20,h21,hm⟩:=hm
      refine rdS 16 hS wide fun w hS=>?_
      refine d1 (i:=0) rfl (by kernel_rfl) (by kernel_rfl) (St.ld hS) hF rfl (fun _ _ _ h=>h) (fun w hl=>(e_move hF rfl)) fun a hF=>?_
      refine d1 (i:=1) rfl (by kernel_rfl) (by kernel_rfl) (St.ld hS) hF rfl (fun _ _ _ h=>h) (fun w hl=>(e_move hF rfl)) fun a hF=>?_
      refine d1 (i:=2) rfl (by kernel_rfl) (by kernel_rfl) (St.ld hS) hF rfl (fun _ _ _ h=>h) (fun w hl=>(e_move hF rfl)) fun a hF=>?_
      refine d1 (i:=3) rfl (by kernel_rfl) (by kernel_rfl) (St.ld hS) hF rfl (fun _ _ _ h=>h) (fun w hl=>(e_iaI hF Tryz.runUnderlying54 Tryz.sizeOf83 rfl rfl h10 (SR.oaI hr5 (by decide) h10))) fun a hF=>?_
      refine d1 (i:=4) rfl (by kernel_rfl) (by kernel_rfl) (St.ld hS) hF rfl (fun _ _ _ h=>h) (fun w hl=>(e_fa hF fa83_0 rfl)) fun a hF=>?_
      refine d1 (i:=5) rfl (by kernel_rfl) (by kernel_rfl) (St.ld hS) hF rfl (fun _ _ _ h=>h) (fun w hl=>(e_ld hF Tryz.isAgg3 rfl (PH.le.cell (Lds.le hl) (hl13 0 _ rfl)))) fun a hF=>?_
      refine d1 (i:=7) rfl (by kernel_rfl) (by kernel_rfl) (St.ld hS) hF rfl (fun _ _ _ h=>h) (fun w hl=>(e_move hF rfl)) fun a hF=>?_
      refine d1 (i:=8) rfl (by kernel_rfl) (by kernel_rfl) (St.ld hS) hF rfl (fun _ _ _ h=>h) (fun w hl=>(e_move hF rfl)) fun a hF=>?_
      refine d1 (i:=9) rfl (by kernel_rfl) (by kernel_rfl) (St.ld hS) hF rfl (fun _ _ _ h=>h) (fun w hl=>(e_iaI hF Tryz.runUnderlying54 Tryz.sizeOf83 rfl rfl h10 (SR.oaI hr5 (by decide) h10))) fun a hF=>?_
      refine d1 (i:=10) rfl (by kernel_rfl) (by kernel_rfl) (St.ld hS) hF rfl (fun _ _ _ h=>h) (fun w hl=>(e_fa hF fa83_1 rfl)) fun a hF=>?_
      refine d1 (i:=11) rfl (by kernel_rfl) (by kernel_rfl) (St.ld hS) hF rfl (fun _ _ _ h=>h) (fun w hl=>(e_ld hF Tryz.isAgg3 rfl (PH.le.cell (Lds.le hl) (hl13 1 _ rfl)))) fun a hF=>?_
      refine da1 (i:=6) (by kernel_rfl) ?_
      refine di (i:=6) rfl<|c1 hF rfl Tryz.call29 (Z42_c _ (hp_le _) h15) ⟨rfl,trivial⟩ (fun v w a hR hF=>?_)
      obtain ⟨rfl,hk⟩:=hR
      replace hS:=hS.pass hk
      clear hk
      refine ⟨fun _=>(St.ld hS),?_⟩
      refine da1 (i:=12) (by kernel_rfl) ?_
      refine di (i:=12) rfl<|c1 hF rfl Tryz.call29 (Z42_c _ (hp_le _) h17) ⟨rfl,trivial⟩ (fun v w a hR hF=>?_)
      obtain ⟨rfl,hk⟩:=hR
      replace hS:=hS.pass hk
      clear hk
      refine ⟨fun _=>(St.ld hS),?_⟩
      refine d1 (i:=13) rfl (by kernel_rfl) (by kernel_rfl) (St.ld hS) hF rfl (fun _ _ _ h=>h) (fun w hl=>(e_catU hF rfl rfl h19)) fun a hF=>?_
      refine d1 (i:=14) rfl (by kernel_rfl) (by kernel_rfl) (St.ld hS) hF rfl (fun _ _ _ h=>h) (fun w hl=>(e_catU hF rfl rfl h21)) fun a hF=>?_
      refine d1 (i:=15) rfl (by kernel_rfl) (by kernel_rfl) (St.ld hS) hF rfl (fun _ _ _ h=>h) (fun w hl=>(e_asg hF rfl)) fun a hF=>?_
      refine de (by kernel_rfl)<|?_
      refine bn<|tn<|?_
      refine rg<|?_
      refine ls<|q1 hF rfl (e_move hF rfl) fun a hF=>?_
      refine ls<|q1 hF rfl (e_add hF rfl rfl) fun a hF=>?_
      refine ls<|q1 hF rfl (e_asg hF rfl) fun a hF=>?_
      refine re<|?_
      refine tn<|?_
      exact ⟨(nn2,s20,(IntKind.i64.wrap (vB2+1))),⟨hm,hF.has ⟨rfl,rfl,rfl,trivial⟩,hS⟩,Nat.lt_succ_self _⟩
    ·
      replace hm:=itp_f hm hb8
      refine tn<|cfv hF rfl hb8<|?_
      refine we<|tx<|tx<|bx<|?_
      refine tn<|?_
      exact ⟨vB1,hm,hF.has ⟨rfl,trivial⟩,hS⟩
  clear hm hF hS
  rintro a w ⟨vA1,hm,hF,hS⟩
  unfold Z4a at hm
  refine th<|?_
  refine rg<|?_
  refine ls<|q1 hF rfl (e_move hF rfl) fun a hF=>?_
  refine ls<|q1 hF rfl (e_asg hF rfl) fun a hF=>?_
  refine re<|?_
  refine tn<|?_
  refine wr<|?_
  obtain rfl:=Option.some.inj hm
  exact r1 hF Tryz.results31 rfl ⟨rfl,hS.keep⟩
set_option maxRecDepth 100000 in
theorem Z43_c {N:Nat} {w0:World} {H:PH} (hH:H.le w0) {cs2:List Value} {p1:api_Code} (g3:Enc.rep H cs2 p1) {r:Str} (hm:Z43 N p1=some r):Tot Tryz.prog 30 #[.agg cs2.toArray] w0 (fun v w'=>v=strv r∧Keep Nil w0 w'):=by
  unfold Z43 at hm
  refine fn0 (args:=[.agg cs2.toArray]) (F:=[(0,.agg cs2.toArray)]) Tryz.func30 rfl Tryz.ntmps30 rfl rfl fun a hF=>?_
  have hS:St w0 Nil [H] [] w0:=start1 hH
  obtain ⟨oa4,cap5,rfl,hc6,hr7⟩:=api_Code_open g3
  refine th<|?_
  refine rg<|?_
  refine ls<|a_box (cs:=[.int .i64 p1.Regs,.int .i64 p1.Counts,.slice oa4 p1.L.length cap5].toArray) hF rfl hS rfl rfl fun b8 w a hS hF=>?_
  refine ls<|q1 hF rfl (e_asg hF rfl) fun a hF=>?_
  refine re<|?_
  refine tn<|th<|?_
  replace hm:=bind_some hm
  obtain ⟨rz9,h10,hm⟩:=hm
  replace hm:=bind_some hm
  obtain ⟨r11,h12,hm⟩:=hm
  replace hm:=bind_some hm
  obtain ⟨s13,h14,hm⟩:=hm
  replace hm:=bind_some hm
  obtain ⟨r15,h16,hm⟩:=hm
  replace hm:=bind_some hm
  obtain ⟨s17,h18,hm⟩:=hm
  refine rdS 13 hS wide fun w hS=>?_
  refine d1 (i:=0) rfl (by kernel_rfl) (by kernel_rfl) (St.ld hS) hF rfl (fun _ _ _ h=>h) (fun w hl=>(e_fa hF fa26_0 rfl)) fun a hF=>?_
  refine d1 (i:=1) rfl (by kernel_rfl) (by kernel_rfl) (St.ld hS) hF rfl (fun _ _ _ h=>h) (fun w hl=>(e_ld hF Tryz.isAgg3 rfl (hl.cellB (.head _) rfl))) fun a hF=>?_
  refine d1 (i:=3) rfl (by kernel_rfl) (by kernel_rfl) (St.ld hS) hF rfl (fun _ _ _ h=>h) (fun w hl=>(e_fa hF fa26_1 rfl)) fun a hF=>?_
  refine d1 (i:=4) rfl (by kernel_rfl) (by kernel_rfl) (St.ld hS) hF rfl (fun _ _ _ h=>h) (fun w hl=>(e_ld hF Tryz.isAgg3 rfl (hl.cellB (.head _) rfl))) fun a hF=>?_
  refine d1 (i:=7) rfl (by kernel_rfl) (by kernel_rfl) (St.ld hS) hF rfl (fun _ _ _ h=>h) (fun w hl=>(e_fa hF fa26_2 rfl)) fun a hF=>?_
  refine d1 (i:=8) rfl (by kernel_rfl) (by kernel_rfl) (St.ld hS) hF rfl (fun _ _ _ h=>h) (fun w hl=>(e_ld hF Tryz.isAgg24 rfl (hl.cellB (.head _) rfl))) fun a hF=>?_
  refine d1 (i:=9) rfl (by kernel_rfl) (by kernel_rfl) (St.ld hS) hF rfl (fun _ _ _ h=>h) (fun w hl=>(e_lenL (α:=api_Instr) (xs:=p1.L) hF Tryz.runUnderlying24 rfl)) fun a hF=>?_
  refine da1 (i:=2) (by kernel_rfl) ?_
  refine di (i:=2) rfl<|c1 hF rfl Tryz.call29 (Z42_c _ (hp_le _) h10) ⟨rfl,trivial⟩ (fun v w a hR hF=>?_)
  obtain ⟨rfl,hk⟩:=hR
  replace hS:=hS.pass hk
  clear hk
  refine ⟨fun _=>(St.ld hS),?_⟩
  refine da1 (i:=5) (by kernel_rfl) ?_
  refine di (i:=5) rfl<|c1 hF rfl Tryz.call29 (Z42_c _ (hp_le _) h12) ⟨rfl,trivial⟩ (fun v w a hR hF=>?_)
  obtain ⟨rfl,hk⟩:=hR
  replace hS:=hS.pass hk
  clear hk
  refine ⟨fun _=>(St.ld hS),?_⟩
  refine d1 (i:=6) rfl (by kernel_rfl) (by kernel_rfl) (St.ld hS) hF rfl (fun _ _ _ h=>h) (fun w hl=>(e_catU hF rfl rfl h14)) fun a hF=>?_
  refine da1 (i:=10) (by kernel_rfl) ?_
  refine di (i:=10) rfl<|c1 hF rfl Tryz.call29 (Z42_c _ (hp_le _) h16) ⟨rfl,trivial⟩ (fun v w a hR hF=>?_)
  obtain ⟨rfl,hk⟩:=hR
  replace hS:=hS.pass hk
  clear hk
  refine ⟨fun _=>(St.ld hS),?_⟩
  refine d1 (i:=11) rfl (by kernel_rfl) (by kernel_rfl) (St.ld hS) hF rfl (fun _ _ _ h=>h) (fun w hl=>(e_catU hF rfl rfl h18)) fun a hF=>?_
  refine d1 (i:=12) rfl (by kernel_rfl) (by kernel_rfl) (St.ld hS) hF rfl (fun _ _ _ h=>h) (fun w hl=>(e_asg hF rfl)) fun a hF=>?_
  refine de (by kernel_rfl)<|?_
  refine tn<|th<|th<|?_
  refine rg<|?_
  refine ls<|q1 hF rfl (e_asg hF rfl) fun a hF=>?_
  refine re<|?_
  refine tn<|midK (fun a w=>∃ (vA1:Str),Z44 vA1=some r∧Fr 56 [(3,strv vA1)] a∧St w0 Nil [H] [] w) ?_ ?_
  ·
    refine wb<|lp (α:=Nat×Str×Int) (fun (gh:Nat×Str×Int) a w=>match gh with | (nn2,vB1,vB2)=>(Z45 N Z44 p1) nn2 vB1 vB2=some r∧Fr 56 [(1,.pointer (some ⟨b8,0,none⟩)),(3,strv vB1),(4,.int .i64 vB2)] a∧St w0 Nil [H] [blk b8 (.cells [.int .i64 p1.Regs,.int .i64 p1.Counts,.slice oa4 p1.L.length cap5].toArray 26 (0,0))] w) (fun gh=>gh.1) (N,s17,0) ⟨hm,hF.has ⟨rfl,rfl,rfl,trivial⟩,hS⟩ ?_
    clear hm hF hS
    rintro ⟨nn2,vB1,vB2⟩ a w ⟨hm,hF,hS⟩
    obtain _ | nn2:=nn2
    · simp [Z45] at hm
    rw [Z45] at hm
    refine th<|th<|?_
    refine rg<|?_
    refine ls<|q1 hF rfl (e_move hF rfl) fun a hF=>?_
    refine ls<|q1 hF rfl (e_fa hF fa26_2 rfl) fun a hF=>?_
    refine ls<|q1 hF rfl (e_ld hF Tryz.isAgg24 rfl ((St.ld hS).cellB (.head _) rfl)) fun a hF=>?_
    refine ls<|q1 hF rfl (e_lenL (α:=api_Instr) (xs:=p1.L) hF Tryz.runUnderlying24 rfl) fun a hF=>?_
    refine ls<|q1 hF rfl (e_lss hF rfl rfl) fun a hF=>?_
    refine re<|?_
    rcases bdich (decide (vB2 < (p1.L.length:Int))) with hb19 | hb19
    ·
      replace hm:=itp_t hm hb19
      refine tn<|ctv hF rfl hb19<|wk<|?_
      refine tn<|th<|wb<|th<|?_
      replace hm:=bind_some hm
      obtain ⟨x20,h21,hm⟩:=hm
      obtain ⟨c22,g23,hl24⟩:=SR.get hr7 h21
      obtain ⟨oa25,cap26,oa29,cap30,rfl,hc27,hr28,hc31,hr32⟩:=api_Instr_open g23
      refine rg<|?_
      refine ls<|q1 hF rfl (e_fa hF fa26_2 rfl) fun a hF=>?_
      refine ls<|q1 hF rfl (e_ld hF Tryz.isAgg24 rfl ((St.ld hS).cellB (.head _) rfl)) fun a hF=>?_
      refine ls<|q1 hF rfl (e_move hF rfl) fun a hF=>?_
      refine ls<|q1 hF rfl (e_iaI hF Tryz.runUnderlying24 Tryz.sizeOf85 rfl rfl h21 (SR.oaI hr7 (by decide) h21)) fun a hF=>?_
      refine ls<|q1 hF rfl (e_ldA hF Tryz.isAgg85 Tryz.sizeOf85 rfl rfl (fun j v hj=>PH.le.cell (Lds.le (St.ld hS)) (hl24 j v hj))) fun a hF=>?_
      refine ls<|a_alloc (cs:=[.int .i64 0,.int .i64 0,.int .i64 0,.slice none 0 0,.slice none 0 0,.int .i64 0].toArray) hF rfl hS Tryz.zeroValue85 rfl fun b33 w a hS hF=>?_
      refine ls<|s_blkA hF hS Tryz.sizeOf85 rfl rfl rfl rfl (one_cells rfl) .head fun w hS=>?_
      refine re<|?_
      refine tn<|?_
      replace hm:=bind_some hm
      obtain ⟨r34,h35,hm⟩:=hm
      replace hm:=bind_some hm
      obtain ⟨r36,h37,hm⟩:=hm
      replace hm:=bind_some hm
      obtain ⟨s38,h39,hm⟩:=hm
      replace hm:=bind_some hm
      obtain ⟨r40,h41,hm⟩:=hm
      replace hm:=bind_some hm
      obtain ⟨s42,h43,hm⟩:=hm
      replace hm:=bind_some hm
      obtain ⟨r44,h45,hm⟩:=hm
      replace hm:=bind_some hm
      obtain ⟨s46,h47,hm⟩:=hm
      replace hm:=bind_some hm
      obtain ⟨r48,h49,hm⟩:=hm
      replace hm:=bind_some hm
      obtain ⟨s50,h51,hm⟩:=hm
      replace hm:=bind_some hm
      obtain ⟨r52,h53,hm⟩:=hm
      replace hm:=bind_some hm
      obtain ⟨s54,h55,hm⟩:=hm
      replace hm:=bind_some hm
      obtain ⟨s56,h57,hm⟩:=hm
      refine rdS 26 hS wide fun w hS=>?_
      refine d1 (i:=0) rfl (by kernel_rfl) (by kernel_rfl) (St.ld hS) hF rfl (fun _ _ _ h=>h) (fun w hl=>(e_move hF rfl)) fun a hF=>?_
      refine d1 (i:=1) rfl (by kernel_rfl) (by kernel_rfl) (St.ld hS) hF rfl (fun _ _ _ h=>h) (fun w hl=>(e_fa hF fa85_0 rfl)) fun a hF=>?_
      refine d1 (i:=2) rfl (by kernel_rfl) (by kernel_rfl) (St.ld hS) hF rfl (fun _ _ _ h=>h) (fun w hl=>(e_ld hF Tryz.isAgg3 rfl (hl.cellB (.head _) rfl))) fun a hF=>?_
      refine d1 (i:=4) rfl (by kernel_rfl) (by kernel_rfl) (St.ld hS) hF rfl (fun _ _ _ h=>h) (fun w hl=>(e_fa hF fa85_1 rfl)) fun a hF=>?_
      refine d1 (i:=5) rfl (by kernel_rfl) (by kernel_rfl) (St.ld hS) hF rfl (fun _ _ _ h=>h) (fun w hl=>(e_ld hF Tryz.isAgg3 rfl (hl.cellB (.head _) rfl))) fun a hF=>?_
      refine d1 (i:=8) rfl (by kernel_rfl) (by kernel_rfl) (St.ld hS) hF rfl (fun _ _ _ h=>h) (fun w hl=>(e_fa hF fa85_2 rfl)) fun a hF=>?_
      refine d1 (i:=9) rfl (by kernel_rfl) (by kernel_rfl) (St.ld hS) hF rfl (fun _ _ _ h=>h) (fun w hl=>(e_ld hF Tryz.isAgg3 rfl (hl.cellB (.head _) rfl))) fun a hF=>?_
      refine d1 (i:=12) rfl (by kernel_rfl) (by kernel_rfl) (St.ld hS) hF rfl (fun _ _ _ h=>h) (fun w hl=>(e_fa hF fa85_5 rfl)) fun a hF=>?_
      refine d1 (i:=13) rfl (by kernel_rfl) (by kernel_rfl) (St.ld hS) hF rfl (fun _ _ _ h=>h) (fun w hl=>(e_ld hF Tryz.isAgg3 rfl (hl.cellB (.head _) rfl))) fun a hF=>?_
      refine d1 (i:=16) rfl (by kernel_rfl) (by kernel_rfl) (St.ld hS) hF rfl (fun _ _ _ h=>h) (fun w hl=>(e_fa hF fa85_3 rfl)) fun a hF=>?_
      refine d1 (i:=17) rfl (by kernel_rfl) (by kernel_rfl) (St.ld hS) hF rfl (fun _ _ _ h=>h) (fun w hl=>(e_ld hF Tryz.isAgg54 rfl (hl.cellB (.head _) rfl))) fun a hF=>?_
      refine d1 (i:=20) rfl (by kernel_rfl) (by kernel_rfl) (St.ld hS) hF rfl (fun _ _ _ h=>h) (fun w hl=>(e_fa hF fa85_4 rfl)) fun a hF=>?_
      refine d1 (i:=21) rfl (by kernel_rfl) (by kernel_rfl) (St.ld hS) hF rfl (fun _ _ _ h=>h) (fun w hl=>(e_ld hF Tryz.isAgg54 rfl (hl.cellB (.head _) rfl))) fun a hF=>?_
      refine da1 (i:=3) (by kernel_rfl) ?_
      refine di (i:=3) rfl<|c1 hF rfl Tryz.call29 (Z42_c _ (hp_le _) h35) ⟨rfl,trivial⟩ (fun v w a hR hF=>?_)
      obtain ⟨rfl,hk⟩:=hR
      replace hS:=hS.pass hk
      clear hk
      refine ⟨fun _=>(St.ld hS),?_⟩
      refine da1 (i:=6) (by kernel_rfl) ?_
      refine di (i:=6) rfl<|c1 hF rfl Tryz.call29 (Z42_c _ (hp_le _) h37) ⟨rfl,trivial⟩ (fun v w a hR hF=>?_)
      obtain ⟨rfl,hk⟩:=hR
      replace hS:=hS.pass hk
      clear hk
      refine ⟨fun _=>(St.ld hS),?_⟩
      refine d1 (i:=7) rfl (by kernel_rfl) (by kernel_rfl) (St.ld hS) hF rfl (fun _ _ _ h=>h) (fun w hl=>(e_catU hF rfl rfl h39)) fun a hF=>?_
      refine da1 (i:=10) (by kernel_rfl) ?_
      refine di (i:=10) rfl<|c1 hF rfl Tryz.call29 (Z42_c _ (hp_le _) h41) ⟨rfl,trivial⟩ (fun v w a hR hF=>?_)
      obtain ⟨rfl,hk⟩:=hR
      replace hS:=hS.pass hk
      clear hk
      refine ⟨fun _=>(St.ld hS),?_⟩
      refine d1 (i:=11) rfl (by kernel_rfl) (by kernel_rfl) (St.ld hS) hF rfl (fun _ _ _ h=>h) (fun w hl=>(e_catU hF rfl rfl h43)) fun a hF=>?_
      refine da1 (i:=14) (by kernel_rfl) ?_
      refine di (i:=14) rfl<|c1 hF rfl Tryz.call29 (Z42_c _ (hp_le _) h45) ⟨rfl,trivial⟩ (fun v w a hR hF=>?_)
      obtain ⟨rfl,hk⟩:=hR
      replace hS:=hS.pass hk
      clear hk
      refine ⟨fun _=>(St.ld hS),?_⟩
      refine d1 (i:=15) rfl (by kernel_rfl) (by kernel_rfl) (St.ld hS) hF rfl (fun _ _ _ h=>h) (fun w hl=>(e_catU hF rfl rfl h47)) fun a hF=>?_
      refine da1 (i:=18) (by kernel_rfl) ?_
      refine di (i:=18) rfl<|c1 hF rfl Tryz.call31 (Z49_c (hp_le _) hc27 (St.srH hS hr28) h49) ⟨rfl,trivial⟩ (fun v w a hR hF=>?_)
      obtain ⟨rfl,hk⟩:=hR
      replace hS:=hS.pass hk
      clear hk
      refine ⟨fun _=>(St.ld hS),?_⟩
      refine d1 (i:=19) rfl (by kernel_rfl) (by kernel_rfl) (St.ld hS) hF rfl (fun _ _ _ h=>h) (fun w hl=>(e_catU hF rfl rfl h51)) fun a hF=>?_
      refine da1 (i:=22) (by kernel_rfl) ?_
      refine di (i:=22) rfl<|c1 hF rfl Tryz.call31 (Z49_c (hp_le _) hc31 (St.srH hS hr32) h53) ⟨rfl,trivial⟩ (fun v w a hR hF=>?_)
      obtain ⟨rfl,hk⟩:=hR
      replace hS:=hS.pass hk
      clear hk
      refine ⟨fun _=>(St.ld hS),?_⟩
      refine d1 (i:=23) rfl (by kernel_rfl) (by kernel_rfl) (St.ld hS) hF rfl (fun _ _ _ h=>h) (fun w hl=>(e_catU hF rfl rfl h55)) fun a hF=>?_
      refine d1 (i:=24) rfl (by kernel_rfl) (by kernel_rfl) (St.ld hS) hF rfl (fun _ _ _ h=>h) (fun w hl=>(e_catU hF rfl rfl h57)) fun a hF=>?_
      refine d1 (i:=25) rfl (by kernel_rfl) (by kernel_rfl) (St.ld hS) hF rfl (fun _ _ _ h=>h) (fun w hl=>(e_asg hF rfl)) fun a hF=>?_
      refine de (by kernel_rfl)<|?_
      refine bn<|tn<|?_
      refine rg<|?_
      refine ls<|q1 hF rfl (e_move hF rfl) fun a hF=>?_
      refine ls<|q1 hF rfl (e_add hF rfl rfl) fun a hF=>?_
      refine ls<|q1 hF rfl (e_asg hF rfl) fun a hF=>?_
      refine re<|?_
      refine tn<|?_
      replace hS:=hS.pickL (.cons (.tail .head) .nil)
      exact ⟨(nn2,s56,(IntKind.i64.wrap (vB2+1))),⟨hm,hF.has ⟨rfl,rfl,rfl,trivial⟩,hS⟩,Nat.lt_succ_self _⟩
    ·
      replace hm:=itp_f hm hb19
      refine tn<|cfv hF rfl hb19<|?_
      refine we<|tx<|tx<|bx<|?_
      refine tn<|?_
      replace hS:=hS.pickL .nil
      exact ⟨vB1,hm,hF.has ⟨rfl,trivial⟩,hS⟩
  clear hm hF hS
  rintro a w ⟨vA1,hm,hF,hS⟩
  unfold Z44 at hm
  refine th<|?_
  refine rg<|?_
  refine ls<|q1 hF rfl (e_move hF rfl) fun a hF=>?_
  refine ls<|q1 hF rfl (e_asg hF rfl) fun a hF=>?_
  refine re<|?_
  refine tn<|?_
  refine wr<|?_
  obtain rfl:=Option.some.inj hm
  exact r1 hF Tryz.results30 rfl ⟨rfl,hS.keep⟩
end Go.LM.BINZ
